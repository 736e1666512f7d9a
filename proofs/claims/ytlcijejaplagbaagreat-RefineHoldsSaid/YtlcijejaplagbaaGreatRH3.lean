/-
  Part 3 of the proof of the statement RefineHolds. It holds for every input.
-/
import Derived.Test.YtlcijejaplagbaaGreatRH2
import Derived.Laws.Cover3
import Derived.Shelf.Small.Bits
import Derived.Test.YtlcijejaplagbaaGreatProg
import Derived.Test.YtlcijejaplagbaaGreatRH1
import Derived.Laws.Bits64b
import Derived.Deep.RegionWith
import Derived.Deep.LoopGhost
set_option maxRecDepth 100000
set_option maxHeartbeats 20000000
open Go.RowKit
open List renaming length_append->bC,length_map->bI,append_assoc->bJ,length_take->bP,length_drop->bU,take_add_one->bV,length_set->bW,length_nil->b5,length_cons->b7,getElem?_eq_some_iff->b9,take_length->cC,pairwise_cons->cF,getElem?_eq_getElem->cG,append_nil->cH,drop_eq_getElem_cons->cO,mem_singleton->cP,mem_cons->cQ,filter_cons->cU,mem_filter->cV,mem_map->cX,map_append->cY,nil_append->dG,filter_append->dL,mem_append->dM,pairwise_append->dN,foldl_cons->dO,length_eq_zero_iff->dQ,mem_of_mem_take->dU,mem_of_getElem?->dV,drop_length->dW,set_append_right->dX,drop_of_length_le->dY,pairwise_singleton->d4,map_cons->d5,pairwise_map->d6,sum_cons->d7,getElem?_map->d8,map_take->d9,length_filter_le->eB,getElem?_set_ne->eH,getElem?_append_right->eI,mem_or_eq_of_mem_set->eJ,take_append_of_le_length->eM,take_of_length_le->eN,length_replicate->eP
open Nat renaming mul_add->bE,mul_assoc->bF,mul_comm->bG,zero_le->bK,le_refl->bL,mul_le_mul_right->bN,le_trans->bS,mul_le_mul_left->bX,add_mul->b6,zero_add->b8,eq_zero_or_pos->cD,lt_of_lt_of_le->cK,add_assoc->cL,lt_or_ge->cM,pow_le_pow_right->cR,mul_left_comm->cT,mul_le_mul->cW,two_pow_pos->c6,pow_add->c7,mul_one->c8,div_eq_of_lt->dA,add_zero->dB,succ_le_of_lt->dC,mul_succ->dD,mod_lt->dE,sub_self->dJ,mod_eq_of_lt->dR,succ_mul->dS,min_eq_left->eA,div_lt_iff_lt_mul->eC,add_sub_cancel->eE,add_mul_div_left->eF,div_div_eq_div_mul->eG,add_mul_mod_self_left->eO
open Int renaming not_lt->cJ,toNat_natCast->cZ,natCast_mul->dP,zero_add->dZ
open Option renaming map_some->cN
open Bool renaming eq_false_or_eq_true->dH,false_eq_true->dI
open Array renaming toList_append->eK
open Go.Proofs.Tryz renaming prog->eQ
open Go.Proofs.YtlcijejaplagbaaGreat.S.OV renaming const->eR,tmp->eS
open Go.Proofs.YtlcijejaplagbaaGreat.S.Op renaming arith->eV,callV->eW,loadR_agg->eX,storeR->eZ
open Go.Proofs.YtlcijejaplagbaaGreat.S.ZI renaming of->e6,val_of->e7
open Go.Proofs.YtlcijejaplagbaaGreat.S.za4 renaming d->e8
namespace Go.Proofs.YtlcijejaplagbaaGreat
namespace S
variable {l h n es k N m b s j M M':Nat} {rs rs':List (Nat × V)} {e:E} {f:F} {H:Im} {a:Act} {w w0:World} {el xt ty rty:TypeId} {ao:Option Addr} {rows:List (List D)} {y:Operand} {r0 r1 xs G out:List za4} {pr:za4->Bool} {p x q:za4} {v:Int} {t:zaf} {bys:List zaf} {tys:Array TypeId}
inductive BO:Option Operand->Nat->Nat->List (Nat × V)->Prop
  | no (n:Nat):BO none n n []
  | yes {y:Operand} {k:IntKind} {i:Nat} {rs:List (Nat × V)} (n:Nat) (h:OV y (vi k i) rs):BO (some y) n i rs
section
variable {P:Program}
theorem BO.low {x:Option Operand} (hx:BO x 0 l rs) {B:Bl} (hok:Ok e f H B a w) (hr:∀ p ∈ rs,f.s p.1=some p.2) (hl:l<=h) (c:BoundsCode) :
  (match x.map a.eval with | some v=>Instr.sliceBound v h c | none=>pure 0).run P w = .ok l w:=by
 cases hx with
 | no=>simp
 | yes _ hv =>
  have h2:=(hv.eval hok hr).rawI
  simp only [cN]
  rw [h2,run_sliceBound (P:=P) w _ _ h c (by omega) (by omega)]
  simp
theorem BO.high {x:Option Operand} (hx:BO x n l rs) {B:Bl} (hok:Ok e f H B a w) (hr:∀ p ∈ rs,f.s p.1=some p.2) (hl:l<=h) (c:BoundsCode) :
  (match x.map a.eval with | some v=>Instr.sliceBound v h c | none=>pure n).run P w = .ok l w:=by
 cases hx with
 | no=>simp
 | yes _ hv =>
  have h2:=(hv.eval hok hr).rawI
  simp only [cN]
  rw [h2,run_sliceBound (P:=P) w _ _ h c (by omega) (by omega)]
  simp
theorem zhy {lo hi:Option Operand} {len cap:Nat} {is:Bool} (hl:BO lo 0 l rs) (hh:BO hi len h rs') {B:Bl} (hok:Ok e f H B a w) (hr:∀ p ∈ rs,f.s p.1=some p.2) (hr':∀ p ∈ rs', f.s p.1=some p.2)
  (h1:l<=h) (h2:h<=cap):(Instr.sliceBounds is len cap (lo.map a.eval) (hi.map a.eval) none).run P w = .ok (l,h,cap) w:=by
 have g1:=hl.low (P:=P) hok hr h1 .sliceB
 have g2:=hh.high (P:=P) hok hr' h2 (if is then .sliceAcap else .sliceAlen)
 cases lo with
 | none =>
  cases hi with
  | none=>cases hl;cases hh;simp [Instr.sliceBounds]
  | some y=>simp only [cN,Option.map_none] at g1 g2 ⊢;cases hl;simp [Instr.sliceBounds,g2]
 | some x =>
  cases hi with
  | none=>simp only [cN,Option.map_none] at g1 g2 ⊢;cases hh;simp [Instr.sliceBounds,g1]
  | some y=>simp only [cN] at g1 g2 ⊢;simp [Instr.sliceBounds,g1,g2]
theorem zga {t:TypeId} (hs:SlT P t el es) {len cap:Nat} {lo hi:Option Value} (hb:(Instr.sliceBounds true len cap lo hi none).run P w = .ok (l,h,cap) w) :
  (Instr.sliceAt t (.slice ao len cap) lo hi none).run P w = .ok (.slice (if cap=l then ao else ao.map (·.add (l*es))) (h - l) (cap - l)) w:=by
 simp only [Instr.sliceAt,Instr.slice,Sem.run_bind,run_underlying hs.hu,Result.andThen_ok,hb,size_run hs.hs,Sem.run_pure]
theorem Op.sliceD {d t:Nat} {lo hi:Option Operand} {rows':List (List D)} {pos af gd} (hs:SlT P xt el es) (hl:BO lo 0 l rs) (hh:BO hi rows.length h rs') (h1:l<=h) (h2:h<=rows.length) (he:(rows.drop l).take (h - l)=rows') :
  zbe P ⟨some d,.slice xt (.tmp t) lo hi none,ty,pos,af,gd⟩ { rs:=(t,.t (.c (.d (.sl es rows)))) :: (rs++rs'),ws:=[(d,some (.t (.c (.d (.sl es rows')))))] } :=
 zbe.value d _ rfl rfl rfl fun e f H B a w hok hr2=>by
  have g1:=hok.slot t _ (hr2.1 (t,.t (.c (.d (.sl es rows)))) (by simp))
  have g3:DR H (.sl es rows) (a.eval (.tmp t)):=g1
  have bounds:∀ cap,rows.length<=cap->(Instr.sliceBounds true rows.length cap (lo.map a.eval) (hi.map a.eval) none).run P w = .ok (l,h,cap) w:=fun cap hc =>
   zhy hl hh hok (fun p hp=>hr2.1 p (by simp [hp])) (fun p hp=>hr2.1 p (by simp [hp])) h1 (by omega)
  generalize hv0:a.eval (.tmp t)=v at g3
  subst he
  cases g3 with
  | nil _ ao c k1 k2 =>
   obtain rfl:h=0:=by simpa using h2
   obtain rfl:l=0:=by omega
   have hrun:=zga (ao:=ao) hs (bounds c (bK _))
   refine ⟨.slice (if c=0 then ao else ao.map (·.add (0*es))) (0 - 0) (c - 0),?_,?_⟩
   ·generalize a.eval=ρ at hv0 hrun ⊢
    have hrun':(Instr.sliceAt xt (ρ (.tmp t)) (lo.map ρ) (hi.map ρ) ((none:Option Operand).map ρ)).run P w = .ok (.slice (if c=0 then ao else ao.map (·.add (0*es))) (0 - 0) (c - 0)) w:=by rw [hv0];exact hrun
    simp only [execOp,Sem.run_bind,hrun', Result.andThen_ok,Sem.run_pure]
   ·show DR H _ _
    simp only [List.drop_nil,List.take_nil,Nat.sub_zero]
    refine DR.nil es _ c (fun hn=>?_) k2
    split at hn
    ·exact k1 hn
    ·cases ao with
     | none=>exact k1 rfl
     | some _=>cases hn
  | sl _ _ b o c arr ty' fz vs hp hb hlc hc hes hv hx =>
   have hrun:=zga (ao:=some ⟨b,o,none⟩) hs (bounds c hlc)
   refine ⟨.slice (if c=l then some ⟨b,o,none⟩ else (some (⟨b,o,none⟩:Addr)).map (·.add (l*es))) (h - l) (c - l),?_,?_⟩
   ·generalize a.eval=ρ at hv0 hrun ⊢
    have hrun':(Instr.sliceAt xt (ρ (.tmp t)) (lo.map ρ) (hi.map ρ) ((none:Option Operand).map ρ)).run P w = .ok (.slice (if c=l then some ⟨b,o,none⟩ else (some (⟨b,o,none⟩:Addr)).map (·.add (l*es))) (h - l) (c - l)) w:=by rw [hv0];exact hrun
    simp only [execOp,Sem.run_bind,hrun', Result.andThen_ok,Sem.run_pure]
   ·show DR H _ _
    by_cases h0:h - l=0
    ·rw [h0,List.take_zero]
     refine DR.nil es _ _ (fun hn=>?_) (by omega)
     split at hn <;> cases hn
    ·have hlen:((rows.drop l).take (h - l)).length=h - l:=by rw [bP,bU];omega
     rw [if_neg (by omega)]
     simp only [cN,Addr.add_mid]
     have:=DR.sl (H:=H) es ((rows.drop l).take (h - l)) b (o+l*es) (c - l) arr ty' fz (fun i j=>vs (l+i) j) (by omega) hb (by omega) (by omega) (fun i hi2=>by
       rw [List.getElem_take,List.getElem_drop];exact hes _ _)
      (fun i hi2 j hj=>by
       have:=hv (l+i) (by omega) j hj
       rw [b6] at this
       rw [<- this];congr 1;omega)
      (fun i hi2 j hj=>by
       have e1:((rows.drop l).take (h - l))[i]=rows[l+i]'(by omega):=by rw [List.getElem_take,List.getElem_drop]
       have hj':j<(rows[l+i]'(by omega)).length:=by rw [<- e1];exact hj
       have e2:((rows.drop l).take (h - l))[i][j]=(rows[l+i]'(by omega))[j]:=by simp only [e1]
       rw [e2];exact hx (l+i) (by omega) j hj')
     rwa [hlen] at this
theorem Ok.ownCap {B:Bl} (h:Ok e f H B a w) (hl:f.l n=some (.row ty es rows)) {len:Nat} (hk:k<=rows.length) {v:Value} (hv:CR H B (.own n len) v) :
  ∃ ao c,v = .slice ao len c/\k<=c/\((B n=none/\len=0/\c=0)\/∃ b,B n=some (b,c)/\ao=some ⟨b,0,none⟩):=by
 simp only [CR] at hv
 cases hB:B n with
 | none =>
  rw [hB] at hv
  obtain ⟨rfl,ao,rfl⟩:=hv
  have h1:=h.loc n _ hl
  simp only [LR,hB] at h1
  rw [h1] at hk
  exact ⟨ao,0,rfl,hk,.inl ⟨rfl,rfl,rfl⟩⟩
 | some q =>
  obtain ⟨b,c⟩:=q
  rw [hB] at hv
  obtain ⟨arr,g1,g2,g3,g4,g5,g6⟩:=h.row hl hB
  exact ⟨_,c,hv,by omega,.inr ⟨b,rfl,rfl⟩⟩
theorem Op.sliceLo {d t len:Nat} {k:IntKind} {pos af gd} (hs:SlT P xt el es) (hlen:len<=rows.length) (hy:OV y (vi k l) rs) (h1:l<=len) {len':Nat} (he:len - l=len') :
  zbe P ⟨some d,.slice xt (.tmp t) (some y) none none,ty,pos,af,gd⟩ { rs:=(t,.t (.c (.own n len))) :: rs,rl:=[(n,.row rty es rows)],ws:=[(d,some (.t (.c (.sub n (l*es) len'))))] } :=
 zbe.value d _ rfl rfl rfl fun e f H B a w hok hr2=>by
  have g1:=hok.slot t _ (hr2.1 (t,.t (.c (.own n len))) (by simp))
  obtain ⟨ao,c,hv,hc,hB⟩:=hok.ownCap (hr2.2 (n,.row rty es rows) (by simp)) hlen g1
  have hv:a.eval (.tmp t) = .slice ao len c:=hv
  subst he
  have hb:=zhy (P:=P) (is:=true) (lo:=some y) (hi:=none) (len:=len) (cap:=c) (BO.yes 0 hy) (BO.no len) hok (fun p hp=>hr2.1 p (by simp [hp])) (fun p hp=>by cases hp) h1 hc
  have hrun:=zga (ao:=ao) hs hb
  refine ⟨.slice (if c=l then ao else ao.map (·.add (l*es))) (len - l) (c - l),?_,⟨⟨_,_,rfl⟩,fun hlt=>?_⟩⟩
  ·generalize a.eval=ρ at hv hrun ⊢
   have hrun':(Instr.sliceAt xt (ρ (.tmp t)) ((some y).map ρ) ((none:Option Operand).map ρ) ((none:Option Operand).map ρ)).run P w = .ok (.slice (if c=l then ao else ao.map (·.add (l*es))) (len - l) (c - l)) w:=by rw [hv];exact hrun
   simp only [execOp,Sem.run_bind,hrun', Result.andThen_ok,Sem.run_pure]
  ·rcases hB with ⟨_,h3,_⟩ | ⟨b,h3,rfl⟩
   ·omega
   ·refine ⟨b,c,c - l,h3,?_⟩
    rw [if_neg (by omega)]
    simp only [cN,Addr.add_mid,b8]
theorem Op.sliceHi {d t len:Nat} {k:IntKind} {pos af gd} (hs:SlT P xt el es) (hlen:h<=rows.length) (hy:OV y (vi k h) rs) :
  zbe P ⟨some d,.slice xt (.tmp t) none (some y) none,ty,pos,af,gd⟩ { rs:=(t,.t (.c (.own n len))) :: rs,rl:=[(n,.row rty es rows)],ws:=[(d,some (.t (.c (.own n h))))] } :=
 zbe.value d _ rfl rfl rfl fun e f H B a w hok hr2=>by
  have g1:=hok.slot t _ (hr2.1 (t,.t (.c (.own n len))) (by simp))
  obtain ⟨ao,c,hv,hc,hB⟩:=hok.ownCap (hr2.2 (n,.row rty es rows) (by simp)) hlen g1
  have hv:a.eval (.tmp t) = .slice ao len c:=hv
  have hb:=zhy (P:=P) (is:=true) (lo:=none) (hi:=some y) (len:=len) (cap:=c) (BO.no 0) (BO.yes len hy) hok (fun p hp=>by cases hp) (fun p hp=>hr2.1 p (by simp [hp])) (bK _) (by omega)
  have hrun:=zga (ao:=ao) hs hb
  have e1:(if c=0 then ao else ao.map (·.add (0*es)))=ao:=by
   split
   ·rfl
   ·rcases hB with ⟨_,_,h3⟩ | ⟨b,h3,rfl⟩
    ·omega
    ·simp [Addr.add_mid]
  rw [e1] at hrun
  refine ⟨.slice ao h c,?_,?_⟩
  ·generalize a.eval=ρ at hv hrun ⊢
   have hrun':(Instr.sliceAt xt (ρ (.tmp t)) ((none:Option Operand).map ρ) ((some y).map ρ) ((none:Option Operand).map ρ)).run P w = .ok (.slice ao h c) w:=by rw [hv];exact hrun
   simp only [execOp,Sem.run_bind,hrun', Result.andThen_ok,Sem.run_pure]
  ·show CR H B (.own n h) _
   simp only [CR]
   rcases hB with ⟨h2,h3,h4⟩ | ⟨b,h3,rfl⟩
   ·rw [h2];exact ⟨by omega,ao,by rw [show h=0 by omega,h4]⟩
   ·rw [h3]
theorem Op.clearCut {o:Option Nat} {t off len:Nat} {zs:List C} {pos af gd} (hu:P.underlying xt=some (.slice el)) (hz:Zero P el zs) (hzl:zs.length=es) (ho:off=l*es) (hlen:l+len=rows.length)
  (x:List (Nat × Option V)) (hx:x=(match o with | none=>[] | some d=>[(d,some (.tup []))])) :
  zbe P ⟨o,.call { callee:=.builtin .clear,args:=#[.tmp t],argTypes:=#[xt] }, ty,pos,af,gd⟩ { rs:=[(t,.t (.c (.sub n off len)))],rl:=[(n,.row rty es rows)],ws:=x,wl:=[(n,some (.row rty es (rows.take l)))] }:=by
 rintro e f a w Q ⟨H,B,hok⟩ hr2 hnw hb0
 have hfl:=hr2.2 (n,.row rty es rows) (by simp)
 have hv:CR H B (.sub n off len) (a.eval (.tmp t)):=hok.slot t _ (hr2.1 (t,.t (.c (.sub n off len))) (by simp))
 obtain ⟨⟨ao,c,hv⟩,hv2⟩:=hv
 obtain ⟨z,zl,hz1,hz2,hz3⟩:=hz.ex
 have hzl2:zl.length=es:=by rw [<- (hz3 H B).length];exact hzl
 -- the run
 obtain ⟨w', hrun,hw'⟩:∃ w', (Builtin.clear_ #[xt] ty #[a.eval (.tmp t)]).run P w = .ok (.tuple #[]) w'/\Ok e ⟨f.s,fun m=>if m=n then some (.row rty es (rows.take l)) else f.l m⟩ H B a w':=by
  have cut:Ok e ⟨f.s,fun m=>if m=n then some (.row rty es (rows.take l)) else f.l m⟩ H B a w:=by
   obtain ⟨H', B', h'⟩:=(show St e f a w from ⟨H,B,hok⟩).cutR n l es rty hfl
   have h1:=hok.setL n _ (.row rty es (rows.take l)) hfl fun hu=>by
    simp only [LR] at hu ⊢
    split at hu
    ·rw [hu];simp
    ·obtain ⟨arr,h1,h2,h3,h4,h5,h6⟩:=hu
     have h5':∀ r ∈ rows.take l,r.length=es:=fun r hr=>h5 r (dU hr)
     have h3':(rows.take l).length<=_:=bS (by rw [bP];omega) h3
     refine ⟨arr,h1,h2,h3', h4,h5', (zdb h2 h3' h5').2 fun i r hr f x hx=>?_⟩
     rw [List.getElem?_take] at hr
     split at hr
     ·exact (zdb h2 h3 h5).1 h6 i r hr f x hx
     ·cases hr
   refine ⟨h1.df,h1.n,h1.ext,h1.sat,h1.slot,fun m y hy=>h1.loc m y ?_,fun m y b c hy=>h1.priv m y b c ?_,fun m k y y' b c c' hy hy'=>h1.inj m k y y' b c c' ?_ ?_,h1.low,h1.le,h1.keep,h1.tab⟩ <;> (simp only [F.setL];first | (simpa using hy) | (simpa using hy'))
  by_cases h0:len=0
  ·subst h0
   refine ⟨w,?_,cut⟩
   rw [hv]
   cases ao <;> simp [Builtin.clear_,run_underlying hu]
  ·obtain ⟨b,cc,k,hB,hv3⟩:=hv2 (by omega)
   obtain ⟨arr,hcl,h2,h3,h4,h5,h6⟩:=hok.row hfl hB
   have hzc:((Builtin.zeroCells z.cells len).toList).length=len*es:=by simp [Builtin.zeroCells,hz2,hzl2]
   have hle:rows.length*es<=cc*es:=bN _ h3
   have hfit:off+len*es<=arr.length:=by rw [h2,ho,<- b6,hlen];exact hle
   obtain ⟨k1,k2,k3,k4,k5,k6⟩:=zew (Builtin.zeroCells z.cells len).toList off w arr hcl
   refine ⟨w.setCells b off (Builtin.zeroCells z.cells len).toList,?_,?_⟩
   ·have hst:=run_storeCells_cells (P:=P) b off (Builtin.zeroCells z.cells len).toList 0 w (fun j hj=>by
     rw [zee hcl (o:=off+0+j) (v:=arr[off+0+j]'(by omega)) (cG _)];rfl) (fun j hj=>by simp [World.frozen?, hcl]) (fun v hv=>by
     simp only [Builtin.zeroCells,hz2,Array.toList_map,cX] at hv
     obtain ⟨i,hi,rfl⟩:=hv
     have hm:i % zl.length<zl.length:=by
      refine dE _ (Nat.pos_of_ne_zero fun e0=>?_)
      have hi':i<len*zl.length:=by simpa using hi
      rw [e0] at hi';omega
     have e1:((⟨zl⟩:Array Value)[i % (⟨zl⟩:Array Value).size]!)=zl[i % zl.length]:=by simp [hm]
     rw [e1]
     obtain ⟨y,hy,hR⟩:=(hz3 H B).get (i % zl.length) (by rw [(hz3 H B).length];exact hm)
     rw [cG hm] at hy
     injection hy with hy
     rw [hy]
     exact zjp (CR.flat hR))
    have hzv:∀ w', (zeroValue el).run P w' = .ok z w':=fun w'=>Zero.run hz1 w'
    rw [hv3]
    cases len with
    | zero=>omega
    | succ m =>
     simp at hst
     simp [Builtin.clear_,hst,run_underlying hu,hzv]
   ·refine (hok.write (g:=⟨f.s,fun m=>if m=n then some (.row rty es (rows.take l)) else f.l m⟩) (l' := .row rty es (rows.take l)) hfl hB (fun _=>rfl) (fun _=>rfl) k2 k3 k4 k5 k6 ?_)
    simp only [LR,hB]
    have h5':∀ r ∈ rows.take l,r.length=es:=fun r hr=>h5 r (dU hr)
    have h3':(rows.take l).length<=cc:=bS (by rw [bP];omega) h3
    refine ⟨zlf arr off (Builtin.zeroCells z.cells len).toList,k1,by rw [ze8];exact h2,h3', h4,h5', (zdb (by rw [ze8];exact h2) h3' h5').2 fun i r hr f x hx=>?_⟩
    rw [List.getElem?_take] at hr
    split at hr
    ·rename_i hil
     obtain ⟨u,j1,j2⟩:=h6 i r hr f x hx
     have hf:f<es:=by rw [<- h5 r (dV hr)];exact (b9.1 hx).1
     have:(i+1)*es<=l*es:=bN _ hil
     rw [b6] at this
     refine ⟨u,?_,j2⟩
     rw [zlr _ arr off _ (by omega),if_neg (by omega)]
     exact j1
    ·cases hr
 have hex:(execOp a.eval ⟨o,.call { callee:=.builtin .clear,args:=#[.tmp t],argTypes:=#[xt] }, ty,pos,af,gd⟩).run P w = .ok (.value (.tuple #[])) w':=by
  generalize a.eval=ρ at hrun ⊢
  have e1:(Array.map ρ #[.tmp t])=#[ρ (.tmp t)]:=by simp
  simp only [execOp,resolve,e1,Sem.run_bind,Sem.run_pure,Result.andThen_ok,invoke,builtin,hrun]
 unfold Oper.wp
 rw [hex,Oper.upon_value]
 subst hx
 cases o with
 | none=>exact St.put0 ⟨H,B,hw'⟩ rfl (app0_s _ _ rfl) (fun m=>app1_l f n _ _ rfl m)
 | some d=>exact ⟨H,B,hw'.put (x:=some (.tup [])) (hb0.1 (d,some (.tup [])) (by simp)) (zjx f d _ _ rfl) (fun m=>app1_l f n _ _ rfl m) (fun y hy=>by injection hy with hy;subst hy;exact ⟨[],rfl,trivial⟩)⟩
theorem Op.clearCut' {o:Option Nat} {t off len:Nat} {rows':List (List D)} {zs:List C} {pos af gd} (hu:P.underlying xt=some (.slice el)) (hz:Zero P el zs) (hzl:zs.length=es) (ho:off=l*es) (hlen:l+len=rows.length)
  (x:List (Nat × Option V)) (hx:x=(match o with | none=>[] | some d=>[(d,some (.tup []))])) (hr:rows.take l=rows') :
  zbe P ⟨o,.call { callee:=.builtin .clear,args:=#[.tmp t],argTypes:=#[xt] }, ty,pos,af,gd⟩ { rs:=[(t,.t (.c (.sub n off len)))],rl:=[(n,.row rty es rows)],ws:=x,wl:=[(n,some (.row rty es rows'))] }:=by
 subst hr
 exact Op.clearCut hu hz hzl ho hlen x hx
theorem midH {H0:Im} {B0:Bl} {K:List Nat} {Q:Exit->Act->World->Prop} {x y:Code} {sl:List (Nat × V)} {lc:List (Nat × L)} (_h:St ⟨w0,H0,B0,K,N⟩ (F.of sl lc) a w) (sl':List (Nat × V)) (lc':List (Nat × L))
  (hx:x.wp P (Exit.then (fun a w=>St ⟨w0,H0,B0,K,N⟩ (F.of sl' lc') a w) Q) a w) (hy:∀ a w,St ⟨w0,H0,B0,K,N⟩ (F.of sl' lc') a w->y.wp P Q a w):(Code.seq x y).wp P Q a w:=midS sl' lc' hx hy
theorem nilDSr {H0:Im} {B0:Bl} {K:List Nat} {sl:List (Nat × V)} {lc:List (Nat × L)} (t j es:Nat) (v:V) (ao:Option Addr) (c:Nat) (h1:ao=none->c=0) (h2:c<=maxLen) (sl':List (Nat × V)) (lc':List (Nat × L)) (h:St ⟨w0,H0,B0,K,N⟩ (F.of sl lc) a w) (hv:sl.lookup t=some v) (hg:v.getC j=some (.d (.raw (.slice ao 0 c))))
  (h3:leS ((F.of sl lc).setS t (v.setC j (.d (.sl es [])))) sl'=sl'.map fun p=>some p.2:=by kernel_rfl) (h4:leN ((F.of sl lc).setS t (v.setC j (.d (.sl es [])))) lc'=lc'.map fun p=>some p.2:=by kernel_rfl):St ⟨w0,H0,B0,K,N⟩ (F.of sl' lc') a w :=
 (h.nilDS t j es (ao:=ao) hv hg h1 h2).weaken (zjn h3 h4)
theorem run_eqNil (hu:P.underlying xt=some (.slice el)) (ao:Option Addr) (n c:Nat) (x y:Operand) (w:World) :
  (do eqGuard .eql xt x y (.slice ao n c) zam;binOp .eql xt (.slice ao n c) zam:Sem Value).run P w = .ok (.bool ao.isNone) w:=by
 have h1:(eqGuard .eql xt x y (.slice ao n c) zam).run P w = .ok () w:=by simp [eqGuard,zam]
 have h2:(binOp .eql xt (.slice ao n c) zam).run P w = .ok (.bool ao.isNone) w:=by
  show (do pure (Value.bool (<- Op.equal xt (.slice ao n c) (.slice none 0 0))):Sem Value).run P w=_
  simp only [Sem.run_bind,run_equal_slice_nil (P:=P) w xt el ao n c hu,Result.andThen_ok,Sem.run_pure]
 simp only [Sem.run_bind,h1,Result.andThen_ok,h2]
theorem Op.eqNilR {d:Nat} {x:Operand} {c:Nat} {yt:TypeId} {pos af gd} (hu:P.underlying xt=some (.slice el)) (h:OV x (.t (.c (.d (.raw (.slice ao n c))))) rs) (h':OV y (.t (.c (.d (.raw zam)))) rs') :
  zbe P ⟨some d,.binOp .eql xt x y yt,ty,pos,af,gd⟩ { rs:=rs++rs', ws:=[(d,some (vb ao.isNone))] }:=by
 refine Op.raw2 rfl h h' rfl fun ρ w h1 h2=>?_
 have:=run_eqNil (P:=P) hu ao n c x y w
 simp only [Sem.run_bind] at this
 simp only [execOp,h1,h2,Sem.run_bind,this,Result.andThen_ok,Sem.run_pure]
theorem Op.eqNilD {d t:Nat} {yt:TypeId} {pos af gd} (hu:P.underlying xt=some (.slice el)) (hn:0<rows.length) (h':OV y (.t (.c (.d (.raw zam)))) rs') :
  zbe P ⟨some d,.binOp .eql xt (.tmp t) y yt,ty,pos,af,gd⟩ { rs:=(t,.t (.c (.d (.sl es rows)))) :: rs', ws:=[(d,some (vb false))] } :=
 zbe.value d _ rfl rfl rfl fun e f H B a w hok hr2=>by
  have h1:=hok.slot t _ (hr2.1 (t,.t (.c (.d (.sl es rows)))) (by simp))
  have h2:a.eval y=zam:=(h'.eval hok fun p hp=>hr2.1 p (by simp [hp])).rawI
  have h3:DR H (.sl es rows) (a.eval (.tmp t)):=h1
  generalize hv0:a.eval (.tmp t)=v at h3
  cases h3 with
  | nil ao c=>simp at hn
  | sl _ _ b o c arr ty' fz vs hp hb hl hc hes hv hx =>
   refine ⟨.bool false,?_,DR.raw _ rfl⟩
   generalize a.eval=ρ at hv0 h2 ⊢
   have:=run_eqNil (P:=P) hu (some ⟨b,o,none⟩) rows.length c (.tmp t) y w
   simp only [Sem.run_bind] at this
   simp only [execOp,hv0,h2,Sem.run_bind,this,Result.andThen_ok,Sem.run_pure]
   rfl
theorem Fn.rawE {k:FuncId} {ps qs:List (Nat × L)} {res:V} (h:∀ (ao:Option Addr) (c:Nat),(ao=none->c=0)->c<=maxLen->Fn P k ps [vW (.slice ao 0 c)] res qs):Fn P k ps [vS es []] res qs:=by
 intro w H B vals pre
 obtain ⟨h1,h2,h3,h4,h5,h0⟩:=pre
 cases vals with
 | nil=>exact h5.elim
 | cons v vs =>
  have h6:DR H (.sl es []) v:=h5.1
  cases h6 with
  | sl _ _ b o c arr ty fz ws hp=>exact absurd hp (by simp)
  | nil _ ao c g1 g2=>exact h ao c g1 g2 w H B _ ⟨h1,h2,h3,h4,⟨DR.raw _ rfl,h5.2⟩,h0⟩
end
theorem Srotate2 {L a:Nat} (pre X Y post:List za4) (e0:r0=pre++X++Y++post) (e1:r1=pre++(Y++X)++post) (eL:L=pre.length+X.length+Y.length+post.length) (ea:a=pre.length) (em:m=pre.length+X.length) (eb:b=pre.length+X.length+Y.length) (hX:0<X.length) (hY:0<Y.length) (hl:L<=1000000000000) :
  Fn eQ 204 [(0,.row 124 3 (r0.map e8))] [vO 0 L,vi .i64 (a:Int),vi .i64 (m:Int),vi .i64 (b:Int),.t (.c (.fn (.func 86) [] []))] (.tup []) [(0,.row 124 3 (r1.map e8))]:=by
 subst eL e0 e1 ea em eb
 exact Srotate pre X Y post hX hY hl
def SymP (N L a m b:Nat) (r0 r1:List za4):Prop:=∃ pre X Y post:List za4,X.length+Y.length=N/\a=pre.length/\m=pre.length+X.length/\b=pre.length+X.length+Y.length/\L=pre.length+X.length+Y.length+post.length/\L<=1000000000000/\0<X.length/\0<Y.length/\Ris za4.v X/\Ris za4.v Y /\
  r0=pre++X++Y++post/\r1=pre++ssV za4.v (X++Y)++post
theorem ssV_e {a b:List za4} (h:a.length=0\/b.length=0) (ra:Ris za4.v a) (rb:Ris za4.v b):ssV za4.v (a++b)=a++b:=by
 rcases h with h | h
 ·rw [zkg h,dG];exact ssV_of rb
 ·rw [zkg h,cH];exact ssV_of ra
def SymIH (N:Nat):Prop:=∀ n,n<N->∀ (L a m b:Nat) (r0 r1:List za4),SymP n L a m b r0 r1->Fn eQ 178 [(0,.row 124 3 (r0.map e8))] [.t (.c (.own 0 L)),vi .i64 (a:Int),vi .i64 (m:Int),vi .i64 (b:Int),.t (.c (.fn (.func 86) [] []))] (.tup []) [(0,.row 124 3 (r1.map e8))]
theorem SsymN {L lo:Nat} (ih:SymIH N) (hs:SymP N L lo m b r0 r1) :Fn eQ 178 [(0,.row 124 3 (r0.map e8))] [.t (.c (.own 0 L)),vN lo,vN m,vN b,.t (.c (.fn (.func 86) [] []))] (.tup []) [(0,.row 124 3 (r1.map e8))]:=by
 obtain ⟨pre,X,Y,post,hN,ha,hm,hb,hL,hl,hX,hY,rX,rY,rfl,rfl⟩:=hs;have hlen:(pre++X++Y++post).length=L:=by simp only [bC];omega
 refine fB Tryz.func178 rfl 220 fun w H B a h=>?_
 refine qW (Jq 1 [(2,.g (eV (op:=.sub) (d:=27) (xt:=3) (yt:=3) (k:=.i64) (m:=(m:Int)) (n:=(lo:Int)) (r:=(X.length:Int)) (eS 25 _) (eS 26 _) (.inr (.inl ⟨rfl,(by omega)⟩)) i6))] [(0,.t (.c (.own 0 L))),(1,vN lo),(2,vN m),(3,vN b),(4,.t (.c (.fn (.func 86) [] []))),(28,vb ((X.length:Int) == 1))] [(0,.row 124 3 ((pre++X++Y++post).map e8))] h fun a w h=>?_);refine cS ((X.length:Int) == 1) h (fun hc1=>?_) (fun hc8=>?_)
 ·have hc1':=hc1;(try simp at hc1');refine Je 1 [] [28] [(10,vN m)] h fun a w h=>?_;refine Je 1 [] [] [(11,vN b)] h fun a w h=>?_;refine qW (qZ ?_)
  refine zbw (ι:=(Nat) × (Nat)) (fun (i,j)=>m<=i/\i<=j/\j<=b/\(i=m\/kat (pre++X++Y++post) (i - 1)<kat (pre++X++Y++post) (lo))/\(j=b\/kat (pre++X++Y++post) (lo)<=kat (pre++X++Y++post) (j)))
    [] (fun (i,j)=>[(10,vN i),(11,vN j)])
    [] (fun (i,j)=>[])
    (fun (i,j)=>j - i) (m,b) ?_ h ?_
  ·exact ⟨bL _,by omega,bL _,.inl rfl,.inl rfl⟩
  clear h;rintro ⟨i,j⟩ a w hI h;dsimp only at h;obtain ⟨q1,q2,q3,q4,q5⟩:=hI;refine qW (Je 1 [] [] [(33,vb (decide ((i:Int)<(j:Int))))] h fun a w h=>?_);refine zad ((i:Int)<(j:Int)) h (fun hc2 hc2'=>?_) (fun hc5 hc5'=>?_)
  ·refine qU (za1 (qZ (Je 1 [(2,.g (eV (op:=.add) (d:=36) (xt:=3) (yt:=3) (k:=.i64) (m:=(i:Int)) (n:=(j:Int)) (r:=((i+j:Nat):Int)) (eS 34 _) (eS 35 _) (.inl ⟨rfl,(by omega)⟩) i6)),(3,.conv .i64 .u64 (m:=((i+j:Nat):Int)) (u64_id (by omega) (by omega))),(4,.g (Op.shr (d:=38) (xt:=217) (yt:=217) (k:=.u64) (k' := .u64) (m:=((i+j:Nat):Int)) (n:=1) (r:=(((i+j) / 2:Nat):Int)) (eS 37 _) (eR (.int .u64 1) rfl) (by decide) (half _))),(5,.conv .u64 .i64 (m:=(((i+j) / 2:Nat):Int)) i6)] [33] [(12,vI (((i+j) / 2:Nat):Int))] h fun a w h=>?_)));obtain ⟨x1,hx1⟩:=gl (pre++X++Y++post) ((i+j) / 2);obtain ⟨x2,hx2⟩:=gl (pre++X++Y++post) lo;refine Je 1 [(3,.g (xO 43 41 0 L ((i+j) / 2) zcl (eS 42 _))),(4,.g (eX (d:=44) (t:=43) (n:=0) (i:=((i+j) / 2)) (fo:=0) (rty:=124) (es:=3) (xs:=[.raw (.int .i64 x1.v),.raw (.bool x1.c.neg),nsl x1.c.abs]) zhw rfl (za7 hx1 (f:=e8)) rfl rfl)),(7,.g (xO 47 45 0 L lo zcl (eS 46 _))),(8,.g (eX (d:=48) (t:=47) (n:=0) (i:=lo) (fo:=0) (rty:=124) (es:=3) (xs:=[.raw (.int .i64 x2.v),.raw (.bool x2.c.neg),nsl x2.c.abs]) zhw rfl (za7 hx2 (f:=e8)) rfl rfl)),(9,.g (eW (d:=49) (t:=40) (cap:=[]) (args:=[.t (.agg ([.d (.raw (.int .i64 x1.v))]++zi x1.c)),.t (.agg ([.d (.raw (.int .i64 x2.v))]++zi x2.c))]) (rs:=[(44,.t (.agg ([.d (.raw (.int .i64 x1.v))]++zi x1.c))),(48,.t (.agg ([.d (.raw (.int .i64 x2.v))]++zi x2.c)))]) (tys:=#[124,124]) (SPlain1 x1 x2) te_2 (OVs.cons (eS 44 _) (OVs.cons (eS 48 _) (OVs.nil)))))] [] [(50,vb (decide (zbo x1.v x2.v<0)))] h fun a w h=>?_;refine zad (zbo x1.v x2.v<0) h (fun hc3 hc3'=>?_) (fun hc4 hc4'=>?_)
   ·refine Jf 1 [(1,.g (eV (op:=.add) (d:=52) (xt:=3) (yt:=3) (k:=.i64) (m:=(((i+j) / 2:Nat):Int)) (n:=1) (r:=(((i+j) / 2+1:Nat):Int)) (eS 51 _) (eR (.int .i64 1) rfl) (.inl ⟨rfl,(by omega)⟩) i6))] [12,50] [(10,vI (((i+j) / 2+1:Nat):Int))] h fun a w h=>?_;refine za6 (za1 ?_);refine zaa (x:=(i,j)) (y:=(((i+j) / 2+1),j)) h ?_ ?_
    ·exact ⟨by omega,by omega,by omega,.inr (by rw [show (i+j) / 2+1 - 1=(i+j) / 2 from rfl,zf8 hx1,zf8 hx2];exact zfx.1 hc3'),q5⟩
    show j - ((i+j) / 2+1)<j - i;omega
   refine Jf 1 [] [12,50] [(11,vI (((i+j) / 2:Nat):Int))] h fun a w h=>?_;refine za6 (za1 ?_);refine zaa (x:=(i,j)) (y:=(i,((i+j) / 2))) h ?_ ?_
   ·exact ⟨by omega,by omega,by omega,q4,.inr (by rw [zf8 hx1,zf8 hx2];exact cJ.1 (mt zfx.2 hc4'))⟩
   show (i+j) / 2 - i<j - i;omega
  refine exA (qW ?_);obtain ⟨x,b1,b2,hX1,hY1,hi1,hsm⟩:=srch1 (pre:=pre) (X:=X) (Y:=Y) (post:=post) (i:=i) (by omega) rY (by omega) (by omega) (q4.elim (fun g => .inl (by omega)) (fun g => .inr (by rw [<- ha];exact g))) (q5.elim (fun g => .inl (by omega)) (fun g => .inr (by rw [<- ha,show i=j by omega];exact g)));have hlb:Y.length=b1.length+b2.length:=by rw [hY1,bC]
  replace h:=cvM [] [] [] [(0,.row 124 3 ((pre++b1.take 0++x :: (b1.drop 0++(b2++post))).map e8))] (by rw [<- show ((pre++X++Y++post):List za4)=(pre++b1.take 0++x :: (b1.drop 0++(b2++post))) from by rw [hX1,hY1];simp]; try kernel_rfl) h;refine Je 1 [] [11,33] [(13,vN lo)] h fun a w h=>?_;refine qZ ?_
  refine zbw (ι:=(Nat) × (Nat)) (fun (k,t)=>k=lo+t/\t<=b1.length)
    [] (fun (k,t)=>[(13,vN k)])
    [] (fun (k,t)=>[(0,.row 124 3 ((pre++b1.take t++x :: (b1.drop t++(b2++post))).map e8))])
    (fun (k,t)=>b1.length - t) (lo,0) ?_ h ?_
  ·exact ⟨rfl,bK _⟩
  clear h;rintro ⟨k,t⟩ a w hI h;dsimp only at h;obtain ⟨p1,p2⟩:=hI;refine qW (Je 1 [(2,.g (eV (op:=.sub) (d:=57) (xt:=3) (yt:=3) (k:=.i64) (m:=(i:Int)) (n:=1) (r:=((lo+b1.length:Nat):Int)) (eS 56 _) (eR (.int .i64 1) rfl) (.inr (.inl ⟨rfl,(by omega)⟩)) i6))] [] [(58,vb (decide ((k:Int)<((lo+b1.length:Nat):Int))))] h fun a w h=>?_);refine zad ((k:Int)<((lo+b1.length:Nat):Int)) h (fun hc6 hc6'=>?_) (fun hc7 hc7'=>?_)
  ·refine qU (za1 (qW (qZ ?_)));obtain ⟨y,hy⟩:∃ z_:za4,b1[t]?=some z_:=⟨_,cG (by omega)⟩;refine Jh 1 [(4,.g (eV (op:=.add) (d:=65) (xt:=3) (yt:=3) (k:=.i64) (m:=(k:Int)) (n:=1) (r:=((k+1:Nat):Int)) (eS 64 _) (eR (.int .i64 1) rfl) (.inl ⟨rfl,(by omega)⟩) i6)),(7,.g (eV (op:=.add) (d:=68) (xt:=3) (yt:=3) (k:=.i64) (m:=(k:Int)) (n:=1) (r:=((k+1:Nat):Int)) (eS 67 _) (eR (.int .i64 1) rfl) (.inl ⟨rfl,(by omega)⟩) i6)),(8,.g (xO 69 66 0 L (k+1) zcl (eS 68 _))),(9,.g (eX (d:=70) (t:=69) (n:=0) (i:=(k+1)) (fo:=0) (rty:=124) (es:=3) (xs:=[.raw (.int .i64 y.v),.raw (.bool y.c.neg),nsl y.c.abs]) zhw rfl (za7 (show ((pre++b1.take t++x :: (b1.drop t++(b2++post))):List za4)[k+1]?=some y from (up_nx (p:=pre) (k+1) (by omega) hy)) (f:=e8)) rfl rfl)),(12,.g (xO 73 71 0 L k zcl (eS 72 _))),(13,.g (eX (d:=74) (t:=73) (n:=0) (i:=k) (fo:=0) (rty:=124) (es:=3) (xs:=[.raw (.int .i64 x.v),.raw (.bool x.c.neg),nsl x.c.abs]) zhw rfl (za7 (show ((pre++b1.take t++x :: (b1.drop t++(b2++post))):List za4)[k]?=some x from (up_at (p:=pre) (q:=b1) (t:=t) k (by omega) (by omega))) (f:=e8)) rfl rfl)),(14,.g (xO 75 61 0 L k zcl (eS 62 _))),(15,.g (eZ (t:=75) (n:=0) (i:=k) (fo:=0) (rty:=124) (es:=3) (r:=e8 x) (ds:=[.raw (.int .i64 y.v),.raw (.bool y.c.neg),nsl y.c.abs]) (rs:=[(70,.t (.agg ([.d (.raw (.int .i64 y.v))]++zi y.c)))]) (rows:=(pre++b1.take t++x :: (b1.drop t++(b2++post))).map e8) (rows':=((pre++b1.take t++x :: (b1.drop t++(b2++post))).set k y).map e8) zhw (eS 70 _) rfl rfl rfl (za7 (show ((pre++b1.take t++x :: (b1.drop t++(b2++post))):List za4)[k]?=some x from (up_at (p:=pre) (q:=b1) (t:=t) k (by omega) (by omega))) (f:=e8)) (by simp [e8]) (zc0 (xs:=(pre++b1.take t++x :: (b1.drop t++(b2++post)))) (F:=e8) k _ _ rfl))),(16,.g (xO 76 63 0 L (k+1) zcl (eS 65 _))),(17,.g (eZ (t:=76) (n:=0) (i:=(k+1)) (fo:=0) (rty:=124) (es:=3) (r:=e8 y) (ds:=[.raw (.int .i64 x.v),.raw (.bool x.c.neg),nsl x.c.abs]) (rs:=[(74,.t (.agg ([.d (.raw (.int .i64 x.v))]++zi x.c)))]) (rows:=((pre++b1.take t++x :: (b1.drop t++(b2++post))).set k y).map e8) (rows':=(((pre++b1.take t++x :: (b1.drop t++(b2++post))).set k y).set (k+1) x).map e8) zhw (eS 74 _) rfl rfl rfl (za7 ((eH (by omega)).trans (show ((pre++b1.take t++x :: (b1.drop t++(b2++post))):List za4)[k+1]?=some y from (up_nx (p:=pre) (k+1) (by omega) hy))) (f:=e8)) (by simp [e8]) (zc0 (xs:=((pre++b1.take t++x :: (b1.drop t++(b2++post))).set k y)) (F:=e8) (k+1) _ _ rfl)))] [58] [] [] [(0,.row 124 3 ((((pre++b1.take t++x :: (b1.drop t++(b2++post))).set k y).set (k+1) x).map e8))] h fun a w h=>?_;refine za6 (za1 (Jf 1 [(1,.g (eV (op:=.add) (d:=60) (xt:=3) (yt:=3) (k:=.i64) (m:=(k:Int)) (n:=1) (r:=((k+1:Nat):Int)) (eS 59 _) (eR (.int .i64 1) rfl) (.inl ⟨rfl,(by omega)⟩) i6))] [] [(13,vI ((k+1:Nat):Int))] h fun a w h=>?_));refine za1 ?_;rw [up_step (p:=pre) k (k+1) (by omega) rfl hy] at h;refine zaa (x:=(k,t)) (y:=(k+1,t+1)) h ?_ ?_
   ·exact ⟨by omega,by omega⟩
   show b1.length - (t+1)<b1.length - t;omega
  refine exA (qV (za5 ?_))
  replace h:=h.conv (f':=F.of [(0,.t (.c (.own 0 L))),(1,vN lo),(2,vN m),(3,vN b),(4,.t (.c (.fn (.func 86) [] []))),(10,vN i),(13,vN k),(58,vb (decide ((k:Int)<((lo+b1.length:Nat):Int))))] [(0,.row 124 3 ((pre++ssV za4.v (X++Y)++post).map e8))]) (.trans (by kernel_rfl) (yJ (fun (z_:List za4)=>F.of [(0,.t (.c (.own 0 L))),(1,vN lo),(2,vN m),(3,vN b),(4,.t (.c (.fn (.func 86) [] []))),(10,vN i),(13,vN k),(58,vb (decide ((k:Int)<((lo+b1.length:Nat):Int))))] [(0,.row 124 3 (z_.map e8))]) (show ((pre++b1.take t++x :: (b1.drop t++(b2++post))):List za4)=(pre++ssV za4.v (X++Y)++post) from by
    rw [<- hsm,show t=b1.length by omega,cC,dW];simp)))
  refine zfj [] h Exit.ret (.inl rfl)  rfl trivial ?_;rfl
 have hc8':=hc8;(try simp at hc8');refine qU (za1 (qW (Je 1 [(2,.g (eV (op:=.sub) (d:=79) (xt:=3) (yt:=3) (k:=.i64) (m:=(b:Int)) (n:=(m:Int)) (r:=(Y.length:Int)) (eS 77 _) (eS 78 _) (.inr (.inl ⟨rfl,(by omega)⟩)) i6))] [28] [(80,vb ((Y.length:Int) == 1))] h fun a w h=>?_)));refine cS ((Y.length:Int) == 1) h (fun hc9=>?_) (fun hc16=>?_)
 ·have hc9':=hc9;(try simp at hc9');refine Je 1 [] [80] [(14,vN lo)] h fun a w h=>?_;refine Je 1 [] [] [(15,vN m)] h fun a w h=>?_;refine qW (qZ ?_)
  refine zbw (ι:=(Nat) × (Nat)) (fun (i,j)=>lo<=i/\i<=j/\j<=m/\(i=lo\/kat (pre++X++Y++post) (i - 1)<=kat (pre++X++Y++post) (m))/\(j=m\/kat (pre++X++Y++post) (m)<kat (pre++X++Y++post) (j)))
    [] (fun (i,j)=>[(14,vN i),(15,vN j)])
    [] (fun (i,j)=>[])
    (fun (i,j)=>j - i) (lo,m) ?_ h ?_
  ·exact ⟨bL _,by omega,bL _,.inl rfl,.inl rfl⟩
  clear h;rintro ⟨i,j⟩ a w hI h;dsimp only at h;obtain ⟨q1,q2,q3,q4,q5⟩:=hI;refine qW (Je 1 [] [] [(85,vb (decide ((i:Int)<(j:Int))))] h fun a w h=>?_);refine zad ((i:Int)<(j:Int)) h (fun hc10 hc10'=>?_) (fun hc13 hc13'=>?_)
  ·refine qU (za1 (qZ (Je 1 [(2,.g (eV (op:=.add) (d:=88) (xt:=3) (yt:=3) (k:=.i64) (m:=(i:Int)) (n:=(j:Int)) (r:=((i+j:Nat):Int)) (eS 86 _) (eS 87 _) (.inl ⟨rfl,(by omega)⟩) i6)),(3,.conv .i64 .u64 (m:=((i+j:Nat):Int)) (u64_id (by omega) (by omega))),(4,.g (Op.shr (d:=90) (xt:=217) (yt:=217) (k:=.u64) (k' := .u64) (m:=((i+j:Nat):Int)) (n:=1) (r:=(((i+j) / 2:Nat):Int)) (eS 89 _) (eR (.int .u64 1) rfl) (by decide) (half _))),(5,.conv .u64 .i64 (m:=(((i+j) / 2:Nat):Int)) i6)] [85] [(16,vI (((i+j) / 2:Nat):Int))] h fun a w h=>?_)));obtain ⟨x4,hx4⟩:=gl (pre++X++Y++post) m;obtain ⟨x5,hx5⟩:=gl (pre++X++Y++post) ((i+j) / 2);refine Je 1 [(3,.g (xO 95 93 0 L m zcl (eS 94 _))),(4,.g (eX (d:=96) (t:=95) (n:=0) (i:=m) (fo:=0) (rty:=124) (es:=3) (xs:=[.raw (.int .i64 x4.v),.raw (.bool x4.c.neg),nsl x4.c.abs]) zhw rfl (za7 hx4 (f:=e8)) rfl rfl)),(7,.g (xO 99 97 0 L ((i+j) / 2) zcl (eS 98 _))),(8,.g (eX (d:=100) (t:=99) (n:=0) (i:=((i+j) / 2)) (fo:=0) (rty:=124) (es:=3) (xs:=[.raw (.int .i64 x5.v),.raw (.bool x5.c.neg),nsl x5.c.abs]) zhw rfl (za7 hx5 (f:=e8)) rfl rfl)),(9,.g (eW (d:=101) (t:=92) (cap:=[]) (args:=[.t (.agg ([.d (.raw (.int .i64 x4.v))]++zi x4.c)),.t (.agg ([.d (.raw (.int .i64 x5.v))]++zi x5.c))]) (rs:=[(96,.t (.agg ([.d (.raw (.int .i64 x4.v))]++zi x4.c))),(100,.t (.agg ([.d (.raw (.int .i64 x5.v))]++zi x5.c)))]) (tys:=#[124,124]) (SPlain1 x4 x5) te_2 (OVs.cons (eS 96 _) (OVs.cons (eS 100 _) (OVs.nil)))))] [] [(103,vb (!(decide (zbo x4.v x5.v<0))))] h fun a w h=>?_;refine cS (!(decide (zbo x4.v x5.v<0))) h (fun hc11=>?_) (fun hc12=>?_)
   ·have hc11':=hc11;(try simp at hc11');refine Jf 1 [(1,.g (eV (op:=.add) (d:=105) (xt:=3) (yt:=3) (k:=.i64) (m:=(((i+j) / 2:Nat):Int)) (n:=1) (r:=(((i+j) / 2+1:Nat):Int)) (eS 104 _) (eR (.int .i64 1) rfl) (.inl ⟨rfl,(by omega)⟩) i6))] [16,103] [(14,vI (((i+j) / 2+1:Nat):Int))] h fun a w h=>?_;refine za6 (za1 ?_);refine zaa (x:=(i,j)) (y:=(((i+j) / 2+1),j)) h ?_ ?_
    ·exact ⟨by omega,by omega,by omega,.inr (by rw [show (i+j) / 2+1 - 1=(i+j) / 2 from rfl,zf8 hx5,zf8 hx4];exact cJ.1 (mt zfx.2 (cJ.2 hc11'))),q5⟩
    show j - ((i+j) / 2+1)<j - i;omega
   have hc12':=hc12;(try simp at hc12');refine Jf 1 [] [16,103] [(15,vI (((i+j) / 2:Nat):Int))] h fun a w h=>?_;refine za6 (za1 ?_);refine zaa (x:=(i,j)) (y:=(i,((i+j) / 2))) h ?_ ?_
   ·exact ⟨by omega,by omega,by omega,q4,.inr (by rw [zf8 hx5,zf8 hx4];exact zfx.1 hc12')⟩
   show (i+j) / 2 - i<j - i;omega
  refine exA (qW ?_);obtain ⟨y,a1,a2,hY1,hX1,hi1,hsm⟩:=srch2 (pre:=pre) (X:=X) (Y:=Y) (post:=post) (i:=i) (by omega) rX (by omega) (by omega) (q4.elim (fun g => .inl (by omega)) (fun g => .inr (by rw [<- hm];exact g))) (q5.elim (fun g => .inl (by omega)) (fun g => .inr (by rw [<- hm,show i=j by omega];exact g)));have hla:X.length=a1.length+a2.length:=by rw [hX1,bC]
  replace h:=cvM [] [] [] [(0,.row 124 3 (((pre++a1)++a2.take a2.length++y :: (a2.drop a2.length++post)).map e8))] (by rw [<- show ((pre++X++Y++post):List za4)=((pre++a1)++a2.take a2.length++y :: (a2.drop a2.length++post)) from by rw [hX1,hY1,cC,dW];simp]; try kernel_rfl) h;refine Je 1 [] [15,85] [(17,vN m)] h fun a w h=>?_;refine qZ ?_
  refine zbw (ι:=(Nat) × (Nat)) (fun (k,t)=>k=pre.length+a1.length+t/\t<=a2.length)
    [] (fun (k,t)=>[(17,vN k)])
    [] (fun (k,t)=>[(0,.row 124 3 (((pre++a1)++a2.take t++y :: (a2.drop t++post)).map e8))])
    (fun (k,t)=>t) (m,a2.length) ?_ h ?_
  ·exact ⟨by omega,bL _⟩
  clear h;rintro ⟨k,t⟩ a w hI h;dsimp only at h;obtain ⟨p1,p2⟩:=hI;refine qW (Je 1 [] [] [(110,vb (decide ((k:Int)>(i:Int))))] h fun a w h=>?_);refine zad ((k:Int)>(i:Int)) h (fun hc14 hc14'=>?_) (fun hc15 hc15'=>?_)
  ·refine qU (za1 (qW (qZ ?_)));obtain ⟨z,hz⟩:∃ z_:za4,a2[t - 1]?=some z_:=⟨_,cG (by omega)⟩;refine Jh 1 [(4,.g (eV (op:=.sub) (d:=117) (xt:=3) (yt:=3) (k:=.i64) (m:=(k:Int)) (n:=1) (r:=((k - 1:Nat):Int)) (eS 116 _) (eR (.int .i64 1) rfl) (.inr (.inl ⟨rfl,(by omega)⟩)) i6)),(7,.g (eV (op:=.sub) (d:=120) (xt:=3) (yt:=3) (k:=.i64) (m:=(k:Int)) (n:=1) (r:=((k - 1:Nat):Int)) (eS 119 _) (eR (.int .i64 1) rfl) (.inr (.inl ⟨rfl,(by omega)⟩)) i6)),(8,.g (xO 121 118 0 L (k - 1) zcl (eS 120 _))),(9,.g (eX (d:=122) (t:=121) (n:=0) (i:=(k - 1)) (fo:=0) (rty:=124) (es:=3) (xs:=[.raw (.int .i64 z.v),.raw (.bool z.c.neg),nsl z.c.abs]) zhw rfl (za7 (show (((pre++a1)++a2.take t++y :: (a2.drop t++post)):List za4)[k - 1]?=some z from (dn_nx (p:=pre++a1) (k - 1) (by first | omega | (simp only [bC];omega)) (by omega) hz)) (f:=e8)) rfl rfl)),(12,.g (xO 125 123 0 L k zcl (eS 124 _))),(13,.g (eX (d:=126) (t:=125) (n:=0) (i:=k) (fo:=0) (rty:=124) (es:=3) (xs:=[.raw (.int .i64 y.v),.raw (.bool y.c.neg),nsl y.c.abs]) zhw rfl (za7 (show (((pre++a1)++a2.take t++y :: (a2.drop t++post)):List za4)[k]?=some y from (up_at (p:=pre++a1) (q:=a2) (t:=t) k (by first | omega | (simp only [bC];omega)) (by omega))) (f:=e8)) rfl rfl)),(14,.g (xO 127 113 0 L k zcl (eS 114 _))),(15,.g (eZ (t:=127) (n:=0) (i:=k) (fo:=0) (rty:=124) (es:=3) (r:=e8 y) (ds:=[.raw (.int .i64 z.v),.raw (.bool z.c.neg),nsl z.c.abs]) (rs:=[(122,.t (.agg ([.d (.raw (.int .i64 z.v))]++zi z.c)))]) (rows:=((pre++a1)++a2.take t++y :: (a2.drop t++post)).map e8) (rows':=(((pre++a1)++a2.take t++y :: (a2.drop t++post)).set k z).map e8) zhw (eS 122 _) rfl rfl rfl (za7 (show (((pre++a1)++a2.take t++y :: (a2.drop t++post)):List za4)[k]?=some y from (up_at (p:=pre++a1) (q:=a2) (t:=t) k (by first | omega | (simp only [bC];omega)) (by omega))) (f:=e8)) (by simp [e8]) (zc0 (xs:=((pre++a1)++a2.take t++y :: (a2.drop t++post))) (F:=e8) k _ _ rfl))),(16,.g (xO 128 115 0 L (k - 1) zcl (eS 117 _))),(17,.g (eZ (t:=128) (n:=0) (i:=(k - 1)) (fo:=0) (rty:=124) (es:=3) (r:=e8 z) (ds:=[.raw (.int .i64 y.v),.raw (.bool y.c.neg),nsl y.c.abs]) (rs:=[(126,.t (.agg ([.d (.raw (.int .i64 y.v))]++zi y.c)))]) (rows:=(((pre++a1)++a2.take t++y :: (a2.drop t++post)).set k z).map e8) (rows':=((((pre++a1)++a2.take t++y :: (a2.drop t++post)).set k z).set (k - 1) y).map e8) zhw (eS 126 _) rfl rfl rfl (za7 ((eH (by omega)).trans (show (((pre++a1)++a2.take t++y :: (a2.drop t++post)):List za4)[k - 1]?=some z from (dn_nx (p:=pre++a1) (k - 1) (by first | omega | (simp only [bC];omega)) (by omega) hz))) (f:=e8)) (by simp [e8]) (zc0 (xs:=(((pre++a1)++a2.take t++y :: (a2.drop t++post)).set k z)) (F:=e8) (k - 1) _ _ rfl)))] [110] [] [] [(0,.row 124 3 (((((pre++a1)++a2.take t++y :: (a2.drop t++post)).set k z).set (k - 1) y).map e8))] h fun a w h=>?_;refine za6 (za1 (Jf 1 [(1,.g (eV (op:=.sub) (d:=112) (xt:=3) (yt:=3) (k:=.i64) (m:=(k:Int)) (n:=1) (r:=((k - 1:Nat):Int)) (eS 111 _) (eR (.int .i64 1) rfl) (.inr (.inl ⟨rfl,(by omega)⟩)) i6))] [] [(17,vI ((k - 1:Nat):Int))] h fun a w h=>?_));refine za1 ?_;rw [dn_step (p:=pre++a1) k (k - 1) (by first | omega | (simp only [bC];omega)) rfl (by omega) hz] at h;refine zaa (x:=(k,t)) (y:=(k - 1,t - 1)) h ?_ ?_
   ·exact ⟨by omega,by omega⟩
   show t - 1<t;omega
  refine exA (qV (za5 ?_))
  replace h:=h.conv (f':=F.of [(0,.t (.c (.own 0 L))),(1,vN lo),(2,vN m),(3,vN b),(4,.t (.c (.fn (.func 86) [] []))),(14,vN i),(17,vN k),(110,vb (decide ((k:Int)>(i:Int))))] [(0,.row 124 3 ((pre++ssV za4.v (X++Y)++post).map e8))]) (.trans (by kernel_rfl) (yJ (fun (z_:List za4)=>F.of [(0,.t (.c (.own 0 L))),(1,vN lo),(2,vN m),(3,vN b),(4,.t (.c (.fn (.func 86) [] []))),(14,vN i),(17,vN k),(110,vb (decide ((k:Int)>(i:Int))))] [(0,.row 124 3 (z_.map e8))]) (show (((pre++a1)++a2.take t++y :: (a2.drop t++post)):List za4)=(pre++ssV za4.v (X++Y)++post) from by
    rw [<- hsm,show t=0 by omega,List.take_zero,List.drop_zero];simp)))
  refine zfj [] h Exit.ret (.inl rfl)  rfl trivial ?_;rfl
 have hc16':=hc16;(try simp at hc16');refine qU (za1 (Je 1 [(2,.g (eV (op:=.add) (d:=131) (xt:=3) (yt:=3) (k:=.i64) (m:=(lo:Int)) (n:=(b:Int)) (r:=((lo+b:Nat):Int)) (eS 129 _) (eS 130 _) (.inl ⟨rfl,(by omega)⟩) i6)),(3,.conv .i64 .u64 (m:=((lo+b:Nat):Int)) (u64_id (by omega) (by omega))),(4,.g (Op.shr (d:=133) (xt:=217) (yt:=217) (k:=.u64) (k' := .u64) (m:=((lo+b:Nat):Int)) (n:=1) (r:=(((lo+b) / 2:Nat):Int)) (eS 132 _) (eR (.int .u64 1) rfl) (by decide) (half _))),(5,.conv .u64 .i64 (m:=(((lo+b) / 2:Nat):Int)) i6)] [80] [(18,vI (((lo+b) / 2:Nat):Int))] h fun a w h=>?_));obtain ⟨md,emd⟩:∃ z_:Nat,z_=(lo+b) / 2:=⟨_,rfl⟩;replace h:=cvM [] [(18,vN md)] [] [] (by rw [emd]; try kernel_rfl) h;refine Jg 1 [(2,.g (eV (op:=.add) (d:=137) (xt:=3) (yt:=3) (k:=.i64) (m:=(md:Int)) (n:=(m:Int)) (r:=((md+m:Nat):Int)) (eS 135 _) (eS 136 _) (.inl ⟨rfl,(by omega)⟩) i6))] [] [(19,vI ((md+m:Nat):Int))] [] [] h fun a w h=>?_;refine Je 1 [] [] [(20,vI 0),(21,vI 0)] h fun a w h=>?_
 obtain ⟨s0,r0,hsr1,hsr2⟩:∃ s0 r0:Nat,(md<m->s0=md+m - b/\r0=md)/\(¬ md<m->s0=lo/\r0=m):=by
  by_cases g:md<m
  ·exact ⟨_,_,fun _=>⟨rfl,rfl⟩,fun g2=>absurd g g2⟩
  exact ⟨_,_,fun g2=>absurd g2 g,fun _=>⟨rfl,rfl⟩⟩
 have hsr:lo<=s0/\s0<=r0/\r0<=m/\r0<=md/\md+m<=s0+b:=by
  by_cases g:md<m
  ·have:=hsr1 g;omega
  have:=hsr2 g;omega
 refine midH h [(0,.t (.c (.own 0 L))),(1,vN lo),(2,vN m),(3,vN b),(4,.t (.c (.fn (.func 86) [] []))),(18,vN md),(19,vI ((md+m:Nat):Int)),(20,vN s0),(21,vN r0)] [(0,.row 124 3 ((pre++X++Y++post).map e8))] ?_ (fun a w h=>?_)
 ·refine Je 1 [] [] [(140,vb (decide ((m:Int)>(md:Int))))] h fun a w h=>?_;refine zad ((m:Int)>(md:Int)) h (fun hc17 hc17'=>?_) (fun hc18 hc18'=>?_)
  ·refine Je 1 [(2,.g (eV (op:=.sub) (d:=143) (xt:=3) (yt:=3) (k:=.i64) (m:=((md+m:Nat):Int)) (n:=(b:Int)) (r:=((md+m - b:Nat):Int)) (eS 141 _) (eS 142 _) (.inr (.inl ⟨rfl,(by omega)⟩)) i6))] [140] [(20,vI ((md+m - b:Nat):Int))] h fun a w h=>?_;refine Jf 1 [] [] [(21,vN md)] h fun a w h=>?_;refine za1 ?_;have hg:=hsr1 (by omega);replace h:=cvM [] [(20,vN s0),(21,vN r0)] [] [] (by rw [hg.1,hg.2]; try kernel_rfl) h;exact atS h
  refine Je 1 [] [140] [(20,vN lo)] h fun a w h=>?_;refine Jf 1 [] [] [(21,vN m)] h fun a w h=>?_;refine za1 ?_;have hg:=hsr2 (by omega);replace h:=cvM [] [(20,vN s0),(21,vN r0)] [] [] (by rw [hg.1,hg.2]; try kernel_rfl) h;exact atS h
 refine Je 1 [(1,.g (eV (op:=.sub) (d:=148) (xt:=3) (yt:=3) (k:=.i64) (m:=((md+m:Nat):Int)) (n:=1) (r:=((md+m - 1:Nat):Int)) (eS 147 _) (eR (.int .i64 1) rfl) (.inr (.inl ⟨rfl,(by omega)⟩)) i6))] [] [(22,vI ((md+m - 1:Nat):Int))] h fun a w h=>?_;refine qW (qZ ?_)
 refine zbw (ι:=(Nat) × (Nat)) (fun (s,r)=>s0<=s/\s<=r/\r<=r0/\(s=s0\/kat (pre++X++Y++post) (s - 1)<=kat (pre++X++Y++post) (md+m - s))/\(r=r0\/kat (pre++X++Y++post) (md+m - 1 - r)<kat (pre++X++Y++post) (r)))
   [] (fun (s,r)=>[(20,vN s),(21,vN r)])
   [] (fun (s,r)=>[])
   (fun (s,r)=>r - s) (s0,r0) ?_ h ?_
 ·exact ⟨bL _,by omega,bL _,.inl rfl,.inl rfl⟩
 clear h;rintro ⟨s,r⟩ a w hI h;dsimp only at h;obtain ⟨q1,q2,q3,q4,q5⟩:=hI;refine qW (Je 1 [] [] [(151,vb (decide ((s:Int)<(r:Int))))] h fun a w h=>?_);refine zad ((s:Int)<(r:Int)) h (fun hc19 hc19'=>?_) (fun hc22 hc22'=>?_)
 ·refine qU (za1 (qZ (Je 1 [(2,.g (eV (op:=.add) (d:=154) (xt:=3) (yt:=3) (k:=.i64) (m:=(s:Int)) (n:=(r:Int)) (r:=((s+r:Nat):Int)) (eS 152 _) (eS 153 _) (.inl ⟨rfl,(by omega)⟩) i6)),(3,.conv .i64 .u64 (m:=((s+r:Nat):Int)) (u64_id (by omega) (by omega))),(4,.g (Op.shr (d:=156) (xt:=217) (yt:=217) (k:=.u64) (k' := .u64) (m:=((s+r:Nat):Int)) (n:=1) (r:=(((s+r) / 2:Nat):Int)) (eS 155 _) (eR (.int .u64 1) rfl) (by decide) (half _))),(5,.conv .u64 .i64 (m:=(((s+r) / 2:Nat):Int)) i6)] [151] [(23,vI (((s+r) / 2:Nat):Int))] h fun a w h=>?_)));obtain ⟨x7,hx7⟩:=gl (pre++X++Y++post) (md+m - 1 - (s+r) / 2);obtain ⟨x8,hx8⟩:=gl (pre++X++Y++post) ((s+r) / 2);refine Je 1 [(4,.g (eV (op:=.sub) (d:=162) (xt:=3) (yt:=3) (k:=.i64) (m:=((md+m - 1:Nat):Int)) (n:=(((s+r) / 2:Nat):Int)) (r:=((md+m - 1 - (s+r) / 2:Nat):Int)) (eS 160 _) (eS 161 _) (.inr (.inl ⟨rfl,(by omega)⟩)) i6)),(5,.g (xO 163 159 0 L (md+m - 1 - (s+r) / 2) zcl (eS 162 _))),(6,.g (eX (d:=164) (t:=163) (n:=0) (i:=(md+m - 1 - (s+r) / 2)) (fo:=0) (rty:=124) (es:=3) (xs:=[.raw (.int .i64 x7.v),.raw (.bool x7.c.neg),nsl x7.c.abs]) zhw rfl (za7 hx7 (f:=e8)) rfl rfl)),(9,.g (xO 167 165 0 L ((s+r) / 2) zcl (eS 166 _))),(10,.g (eX (d:=168) (t:=167) (n:=0) (i:=((s+r) / 2)) (fo:=0) (rty:=124) (es:=3) (xs:=[.raw (.int .i64 x8.v),.raw (.bool x8.c.neg),nsl x8.c.abs]) zhw rfl (za7 hx8 (f:=e8)) rfl rfl)),(11,.g (eW (d:=169) (t:=158) (cap:=[]) (args:=[.t (.agg ([.d (.raw (.int .i64 x7.v))]++zi x7.c)),.t (.agg ([.d (.raw (.int .i64 x8.v))]++zi x8.c))]) (rs:=[(164,.t (.agg ([.d (.raw (.int .i64 x7.v))]++zi x7.c))),(168,.t (.agg ([.d (.raw (.int .i64 x8.v))]++zi x8.c)))]) (tys:=#[124,124]) (SPlain1 x7 x8) te_2 (OVs.cons (eS 164 _) (OVs.cons (eS 168 _) (OVs.nil)))))] [] [(171,vb (!(decide (zbo x7.v x8.v<0))))] h fun a w h=>?_;refine cS (!(decide (zbo x7.v x8.v<0))) h (fun hc20=>?_) (fun hc21=>?_)
  ·have hc20':=hc20;(try simp at hc20');refine Jf 1 [(1,.g (eV (op:=.add) (d:=173) (xt:=3) (yt:=3) (k:=.i64) (m:=(((s+r) / 2:Nat):Int)) (n:=1) (r:=(((s+r) / 2+1:Nat):Int)) (eS 172 _) (eR (.int .i64 1) rfl) (.inl ⟨rfl,(by omega)⟩) i6))] [23,171] [(20,vI (((s+r) / 2+1:Nat):Int))] h fun a w h=>?_;refine za6 (za1 ?_);refine zaa (x:=(s,r)) (y:=(((s+r) / 2+1),r)) h ?_ ?_
   ·exact ⟨by omega,by omega,by omega,.inr (by rw [show (s+r) / 2+1 - 1=(s+r) / 2 from rfl,show md+m - ((s+r) / 2+1)=md+m - 1 - (s+r) / 2 by omega,zf8 hx7,zf8 hx8];exact cJ.1 (mt zfx.2 (cJ.2 hc20'))),q5⟩
   show r - ((s+r) / 2+1)<r - s;omega
  have hc21':=hc21;(try simp at hc21');refine Jf 1 [] [23,171] [(21,vI (((s+r) / 2:Nat):Int))] h fun a w h=>?_;refine za6 (za1 ?_);refine zaa (x:=(s,r)) (y:=(s,((s+r) / 2))) h ?_ ?_
  ·exact ⟨by omega,by omega,by omega,q4,.inr (by rw [zf8 hx7,zf8 hx8];exact zfx.1 hc21')⟩
  show (s+r) / 2 - s<r - s;omega
 refine exA (Je 1 [(2,.g (eV (op:=.sub) (d:=177) (xt:=3) (yt:=3) (k:=.i64) (m:=((md+m:Nat):Int)) (n:=(s:Int)) (r:=((md+m - s:Nat):Int)) (eS 175 _) (eS 176 _) (.inr (.inl ⟨rfl,(by omega)⟩)) i6))] [19,21,22,151] [(24,vI ((md+m - s:Nat):Int))] h fun a w h=>?_);obtain ⟨e,ee⟩:∃ z_:Nat,z_=md+m - s:=⟨_,rfl⟩;replace h:=cvM [] [(24,vN e)] [] [] (by rw [ee]; try kernel_rfl) h;have hsr':s=r:=by omega
 have g1:s=pre.length\/e=pre.length+X.length+Y.length\/kat (pre++X++Y++post) (s - 1)<=kat (pre++X++Y++post) e:=by
  rcases q4 with g | g
  ·by_cases gm:md<m
   ·have:=hsr1 gm;exact .inr (.inl (by omega))
   have:=hsr2 gm;exact .inl (by omega)
  exact .inr (.inr (by rw [ee];exact g))
 have g2:s=pre.length+X.length\/e=pre.length+X.length\/kat (pre++X++Y++post) (e - 1)<kat (pre++X++Y++post) s:=by
  rcases q5 with g | g
  ·by_cases gm:md<m
   ·have:=hsr1 gm;exact .inr (.inl (by omega))
   have:=hsr2 gm;exact .inl (by omega)
  exact .inr (.inr (by rw [show e - 1=md+m - 1 - r by omega,hsr'];exact g))
 obtain ⟨a1,a2,b1,b2,hX1,hY1,hs1,he1,hsm,ra1,ra2,rb1,rb2⟩:=srch3 (pre:=pre) (X:=X) (Y:=Y) (post:=post) (s:=s) (e:=e) rX rY (by omega) (by omega) (by omega) (by omega) g1 g2;have hla:X.length=a1.length+a2.length:=by rw [hX1,bC]
 have hlb:Y.length=b1.length+b2.length:=by rw [hY1,bC]
 replace h:=cvM [] [] [] [(0,.row 124 3 ((pre++a1++a2++b1++b2++post).map e8))] (by rw [<- show ((pre++X++Y++post):List za4)=(pre++a1++a2++b1++b2++post) from by rw [hX1,hY1];simp only [bJ]]; try kernel_rfl) h;refine midH h [(0,.t (.c (.own 0 L))),(1,vN lo),(3,vN b),(4,.t (.c (.fn (.func 86) [] []))),(18,vN md),(20,vN s),(24,vN e)] [(0,.row 124 3 ((pre++a1++b1++a2++b2++post).map e8))] ?_ (fun a w h=>?_)
 ·rcases dH (decide ((s:Int)<(m:Int))) with hc23 | hc26
  ·have hc23':=dT hc23;refine Je 1 [(2,.cmp (op:=.lss) (m:=(s:Int)) (n:=(m:Int)) (b:=true) .i64 hc23)] [] [(185,vb (decide ((m:Int)<(e:Int))))] h fun a w h=>?_;refine zad ((m:Int)<(e:Int)) h (fun hc24 hc24'=>?_) (fun hc25 hc25'=>?_)
   ·refine Jh 1 [(5,.call (Srotate2 (r0:=(pre++a1++a2++b1++b2++post)) (r1:=(pre++a1++b1++a2++b2++post)) (L:=L) (a:=s) (m:=m) (b:=e) (pre++a1) a2 b1 (b2++post) (by simp only [bJ]) (by simp only [bJ]) (by first | omega | (simp only [bC];omega)) (by first | omega | (simp only [bC];omega)) (by first | omega | (simp only [bC];omega)) (by first | omega | (simp only [bC];omega)) (by omega) (by omega) (by omega)))] [2,185] [] [] [(0,.row 124 3 ((pre++a1++b1++a2++b2++post).map e8))] h fun a w h=>?_;refine za1 ?_;exact atS h
   refine qU (za1 ?_);replace h:=cvM [] [] [] [(0,.row 124 3 ((pre++a1++b1++a2++b2++post).map e8))] (by rw [<- show ((pre++a1++a2++b1++b2++post):List za4)=(pre++a1++b1++a2++b2++post) from by rcases (show a2.length=0\/b1.length=0 by omega) with g | g <;> (rw [zkg g];simp)]; try kernel_rfl) h;exact atS h
  have hc26':=dF hc26;refine Je 1 [(2,.cmp (op:=.lss) (m:=(s:Int)) (n:=(m:Int)) (b:=false) .i64 hc26)] [] [(185,vb false)] h fun a w h=>?_;refine zau h ?_;refine qU (za1 ?_);replace h:=cvM [] [] [] [(0,.row 124 3 ((pre++a1++b1++a2++b2++post).map e8))] (by rw [<- show ((pre++a1++a2++b1++b2++post):List za4)=(pre++a1++b1++a2++b2++post) from by rcases (show a2.length=0\/b1.length=0 by omega) with g | g <;> (rw [zkg g];simp)]; try kernel_rfl) h;exact atS h
 refine midH h [(0,.t (.c (.own 0 L))),(3,vN b),(4,.t (.c (.fn (.func 86) [] []))),(18,vN md),(24,vN e)] [(0,.row 124 3 ((pre++ssV za4.v (a1++b1)++a2++b2++post).map e8))] ?_ (fun a w h=>?_)
 ·rcases dH (decide ((lo:Int)<(s:Int))) with hc27 | hc30
  ·have hc27':=dT hc27;refine Je 1 [(2,.cmp (op:=.lss) (m:=(lo:Int)) (n:=(s:Int)) (b:=true) .i64 hc27)] [] [(199,vb (decide ((s:Int)<(md:Int))))] h fun a w h=>?_;refine zad ((s:Int)<(md:Int)) h (fun hc28 hc28'=>?_) (fun hc29 hc29'=>?_)
   ·refine Jh 1 [(5,.call (ih (a1.length+b1.length) (by omega) L lo s md (pre++a1++b1++a2++b2++post) (pre++ssV za4.v (a1++b1)++a2++b2++post) ⟨pre,a1,b1,(a2++b2++post),rfl,by first | omega | (simp only [bC,zb7];omega),by first | omega | (simp only [bC,zb7];omega),by first | omega | (simp only [bC,zb7];omega),by first | omega | (simp only [bC,zb7];omega),by omega,by omega,by omega,ra1,rb1,by simp only [bJ],by simp only [bJ]⟩))] [1,20,199] [] [] [(0,.row 124 3 ((pre++ssV za4.v (a1++b1)++a2++b2++post).map e8))] h fun a w h=>?_;refine za1 ?_;exact atS h
   refine qU (za1 ?_);replace h:=cvM [] [] [] [(0,.row 124 3 ((pre++ssV za4.v (a1++b1)++a2++b2++post).map e8))] (by rw [<- show ((pre++a1++b1++a2++b2++post):List za4)=(pre++ssV za4.v (a1++b1)++a2++b2++post) from by rw [ssV_e (show a1.length=0\/b1.length=0 by omega) ra1 rb1];simp only [bJ]]; try kernel_rfl) h;exact atS h
  have hc30':=dF hc30;refine Je 1 [(2,.cmp (op:=.lss) (m:=(lo:Int)) (n:=(s:Int)) (b:=false) .i64 hc30)] [] [(199,vb false)] h fun a w h=>?_;refine zau h ?_;refine qU (za1 ?_);replace h:=cvM [] [] [] [(0,.row 124 3 ((pre++ssV za4.v (a1++b1)++a2++b2++post).map e8))] (by rw [<- show ((pre++a1++b1++a2++b2++post):List za4)=(pre++ssV za4.v (a1++b1)++a2++b2++post) from by rw [ssV_e (show a1.length=0\/b1.length=0 by omega) ra1 rb1];simp only [bJ]]; try kernel_rfl) h;exact atS h
 rcases dH (decide ((md:Int)<(e:Int))) with hc31 | hc34
 ·have hc31':=dT hc31;refine Je 1 [(2,.cmp (op:=.lss) (m:=(md:Int)) (n:=(e:Int)) (b:=true) .i64 hc31)] [] [(213,vb (decide ((e:Int)<(b:Int))))] h fun a w h=>?_;refine zad ((e:Int)<(b:Int)) h (fun hc32 hc32'=>?_) (fun hc33 hc33'=>?_)
  ·refine Jn 1 [(5,.call (ih (a2.length+b2.length) (by omega) L md e b (pre++ssV za4.v (a1++b1)++a2++b2++post) (pre++ssV za4.v (a1++b1)++ssV za4.v (a2++b2)++post) ⟨(pre++ssV za4.v (a1++b1)),a2,b2,post,rfl,by first | omega | (simp only [bC,zb7];omega),by first | omega | (simp only [bC,zb7];omega),by first | omega | (simp only [bC,zb7];omega),by first | omega | (simp only [bC,zb7];omega),by omega,by omega,by omega,ra2,rb2,by simp only [bJ],by simp only [bJ]⟩))] [] [(0,.row 124 3 ((pre++ssV za4.v (a1++b1)++ssV za4.v (a2++b2)++post).map e8))] h fun a w h=>?_;replace h:=cv (fun z_:List za4=>F.of [] [(0,.row 124 3 (z_.map e8))]) (show ((pre++ssV za4.v (a1++b1)++ssV za4.v (a2++b2)++post):List za4)=(pre++ssV za4.v (X++Y)++post) from by rw [<- hsm];simp only [bJ]) (h.conv (by kernel_rfl));refine zfj [] h Exit.normal (.inr rfl)  rfl trivial ?_;rfl
  refine qU ?_;replace h:=cvM [] [] [] [(0,.row 124 3 ((pre++ssV za4.v (X++Y)++post).map e8))] (by rw [<- show ((pre++ssV za4.v (a1++b1)++a2++b2++post):List za4)=(pre++ssV za4.v (X++Y)++post) from by rw [<- hsm,ssV_e (show a2.length=0\/b2.length=0 by omega) ra2 rb2];simp only [bJ]]; try kernel_rfl) h;refine zfj [] h Exit.normal (.inr rfl)  rfl trivial ?_;rfl
 have hc34':=dF hc34;refine Je 1 [(2,.cmp (op:=.lss) (m:=(md:Int)) (n:=(e:Int)) (b:=false) .i64 hc34)] [] [(213,vb false)] h fun a w h=>?_;refine zau h ?_;refine qU ?_;replace h:=cvM [] [] [] [(0,.row 124 3 ((pre++ssV za4.v (X++Y)++post).map e8))] (by rw [<- show ((pre++ssV za4.v (a1++b1)++a2++b2++post):List za4)=(pre++ssV za4.v (X++Y)++post) from by rw [<- hsm,ssV_e (show a2.length=0\/b2.length=0 by omega) ra2 rb2];simp only [bJ]]; try kernel_rfl) h;refine zfj [] h Exit.normal (.inr rfl)  rfl trivial ?_;rfl
theorem Ssym:∀ (N:Nat),SymIH N
 | 0=>fun n hn=>absurd hn (by omega)
 | N+1=>fun n hn L a m b r0 r1 hs=>SsymN (N:=n) (fun k hk=>Ssym N k (by omega)) hs
inductive Blk (s:Nat):List za4->Prop
  | last (l:List za4) (h:Ris za4.v l) (hl:l.length<=s):Blk s l
  | cons (X l:List za4) (hX:X.length=s) (h:Ris za4.v X) (hl:Blk s l):Blk s (X++l)
theorem Blk.ris {l:List za4} (h:Blk s l) (hl:l.length<=s):Ris za4.v l:=by
 cases h with
 | last _ h _=>exact h
 | cons X l' hX h hl' =>
  have:l'.length=0:=by rw [bC] at hl;omega
  rw [zkg this,cH];exact h
theorem Blk.one {l:List za4} (h:Blk s l) (hl:s<=l.length):∃ X r,l=X++r/\X.length=s/\Ris za4.v X/\Blk s r:=by
 cases h with
 | last _ h h2=>exact ⟨l,[],by simp,by omega,h,.last _ trivial (bK _)⟩
 | cons X l' hX h hl'=>exact ⟨X,l', rfl,hX,h,hl'⟩
theorem Blk.two {l:List za4} (h:Blk s l) (hl:2*s<=l.length):∃ X Y r,l=X++Y++r/\X.length=s/\Y.length=s/\Ris za4.v X/\Ris za4.v Y/\Blk s r:=by
 obtain ⟨X,l1,rfl,hX,rX,h1⟩:=h.one (by omega)
 obtain ⟨Y,l2,rfl,hY,rY,h2⟩:=h1.one (by rw [bC] at hl;omega)
 exact ⟨X,Y,l2,by simp,hX,hY,rX,rY,h2⟩
def Pfx (s:Nat) (P:List za4):Prop:=∀ Z,Blk s Z->Blk s (P++Z)
theorem Pfx.nil (s:Nat):Pfx s []:=fun _ h=>h
theorem Pfx.snoc {P M:List za4} (h:Pfx s P) (hM:M.length=s) (rM:Ris za4.v M):Pfx s (P++M):=fun Z hZ=>by
 rw [bJ];exact h _ (.cons M Z hM rM hZ)
theorem zk9 (xs:List za4):Ris za4.v (ssV za4.v xs):=(zl5 xs).1
theorem zir (xs:List za4):Stb za4.v (ssV za4.v xs) xs:=(zl5 xs).2
theorem Stb.mid {P M M' Z:List za4} (h:Stb za4.v (P++(M++Z)) xs) (hM:Stb za4.v M' M):Stb za4.v (P++(M'++Z)) xs:=((Stb.refl P).app (hM.app (Stb.refl Z))).trans h
theorem Stb.len {ys:List za4} (h:Stb za4.v xs ys):xs.length=ys.length:=Stb.length xs.length rfl h
theorem Sinsort2 {L lo hi:Nat} (pre mid post:List za4) (e0:r0=pre++mid++post) (e1:r1=pre++ssV za4.v mid++post) (eL:L=pre.length+mid.length+post.length) (ea:lo=pre.length) (eb:hi=pre.length+mid.length) (hl:L<=1000000000000) :
  Fn eQ 177 [(0,.row 124 3 (r0.map e8))] [vO 0 L,vi .i64 (lo:Int),vi .i64 (hi:Int),.t (.c (.fn (.func 86) [] []))] (.tup []) [(0,.row 124 3 (r1.map e8))]:=by
 have el:L=(pre++mid++post).length:=by simp only [bC];omega
 subst e0 e1 ea eb el
 exact Sinsort pre mid post hl
theorem Ssym2 {L lo:Nat} (pre X Y post:List za4) (e0:r0=pre++X++Y++post) (e1:r1=pre++ssV za4.v (X++Y)++post) (rX:Ris za4.v X) (rY:Ris za4.v Y) (hX:0<X.length) (hY:0<Y.length) (ea:lo=pre.length) (em:m=pre.length+X.length) (eb:b=pre.length+X.length+Y.length) (eL:L=pre.length+X.length+Y.length+post.length) (hl:L<=1000000000000) :
  Fn eQ 178 [(0,.row 124 3 (r0.map e8))] [vO 0 L,vi .i64 (lo:Int),vi .i64 (m:Int),vi .i64 (b:Int),.t (.c (.fn (.func 86) [] []))] (.tup []) [(0,.row 124 3 (r1.map e8))] :=
 Ssym (X.length+Y.length+1) (X.length+Y.length) (by omega) L lo m b r0 r1 ⟨pre,X,Y,post,rfl,ea,em,eb,eL,hl,hX,hY,rX,rY,e0,e1⟩
theorem Sstable (xs:List za4) (L:Nat) (hL:L=xs.length) (hl:L<=400000000000):Fn eQ 128 [(0,.row 124 3 (xs.map e8))] [vO 0 L,vN L,.t (.c (.fn (.func 86) [] []))] (.tup []) [(0,.row 124 3 ((ssV za4.v xs).map e8))]:=by
 refine fB Tryz.func128 rfl 63 fun w H B a h=>Jq 1 [] [(0,vO 0 L),(1,vN L),(2,.t (.c (.fn (.func 86) [] []))),(6,vI 20)] [(0,.row 124 3 (xs.map e8))] h fun a w h=>Je 1 [] [] [(7,vI 0),(8,vI 20)] h fun a w h=>qW (qZ ?_)
 refine zbw (ι:=(Nat) × (List za4) × (List za4)) (fun (lo,P,Z)=>lo=P.length/\Pfx 20 P/\lo+Z.length=L/\Stb za4.v (P++Z) xs)
   [] (fun (lo,P,Z)=>[(7,vN lo),(8,vI ((20+lo:Nat):Int))])
   [] (fun (lo,P,Z)=>[(0,.row 124 3 ((P++Z).map e8))])
   (fun (lo,P,Z)=>Z.length) (0,[],xs) ?_ h ?_
 ·exact ⟨rfl,Pfx.nil _,by simp;omega,Stb.refl _⟩
 clear h;rintro ⟨lo,P,Z⟩ a w hI h;dsimp only at h;obtain ⟨q1,q2,q3,q4⟩:=hI;refine qW (Je 1 [] [] [(13,vb (decide (((20+lo:Nat):Int)<=(L:Int))))] h fun a w h=>zad (((20+lo:Nat):Int)<=(L:Int)) h (fun hc1 hc1'=>?_) (fun hc2 hc2'=>?_))
 ·refine qU (za1 (qZ ?_));obtain ⟨M,Z1,hZ,hM⟩:=zja (l:=Z) (n:=20) (by omega);have hz1:Z.length=M.length+Z1.length:=by rw [hZ,bC]
  replace h:=cvM [] [] [] [(0,.row 124 3 ((P++(M++Z1)).map e8))] (by rw [<- show ((P++Z):List za4)=(P++(M++Z1)) from by rw [hZ]]; try kernel_rfl) h;refine Jg 1 [(4,.call (Sinsort2 (r0:=(P++(M++Z1))) (r1:=((P++ssV za4.v M)++Z1)) (L:=L) (lo:=lo) (hi:=(20+lo)) P M Z1 (by simp only [bJ]) (rfl) (by first | omega | (simp only [bC,zb7];omega)) (by first | omega | (simp only [bC,zb7];omega)) (by first | omega | (simp only [bC,zb7];omega)) (by omega)))] [13] [] [] [(0,.row 124 3 (((P++ssV za4.v M)++Z1).map e8))] h fun a w h=>Je 1 [] [] [(7,vI ((20+lo:Nat):Int))] h fun a w h=>Jf 1 [(2,.g (eV (op:=.add) (d:=22) (xt:=3) (yt:=3) (k:=.i64) (m:=((20+lo:Nat):Int)) (n:=20) (r:=((20+(20+lo):Nat):Int)) (eS 20 _) (eS 21 _) (.inl ⟨rfl,(by omega)⟩) i6))] [] [(8,vI ((20+(20+lo):Nat):Int))] h fun a w h=>za6 (za1 (zaa (x:=(lo,P,Z)) (y:=((20+lo),(P++ssV za4.v M),Z1)) h ?_ ?_))
  ·exact ⟨by rw [bC,zb7];omega,q2.snoc (by rw [zb7];exact hM) (zk9 M),by omega,by rw [bJ];exact Stb.mid (by rw [<- hZ];exact q4) (zir M)⟩
  show Z1.length<Z.length;omega
 refine exA (Jg 1 [(4,.call (Sinsort2 (r0:=(P++Z)) (r1:=(P++ssV za4.v Z)) (L:=L) (lo:=lo) (hi:=L) P Z [] ((cH _).symm) ((cH _).symm) (by simp only [b5];omega) (by first | omega | (simp only [bC,zb7];omega)) (by first | omega | (simp only [bC,zb7];omega)) (by omega)))] [13] [] [] [(0,.row 124 3 ((P++ssV za4.v Z).map e8))] h fun a w h=>qZ ?_)
 refine zbw (ι:=(Nat) × (List za4)) (fun (bs,ys)=>20<=bs/\bs<=2*L+20/\Blk bs ys/\Stb za4.v ys xs)
   [7,8] (fun (bs,ys)=>[(6,vN bs)])
   [] (fun (bs,ys)=>[(0,.row 124 3 (ys.map e8))])
   (fun (bs,ys)=>L - bs) (20,(P++ssV za4.v Z)) ?_ h ?_
 ·exact ⟨bL _,by omega,q2 _ (.last _ (zk9 Z) (by rw [zb7];omega)),(((Stb.refl P).app (zir Z)).trans q4)⟩
 clear h;rintro ⟨bs,ys⟩ a w hI h;dsimp only at h;obtain ⟨p1,p2,p3,p4⟩:=hI;have p5:=p4.len;refine qW (Je 1 [] [] [(30,vb (decide ((bs:Int)<(L:Int))))] h fun a w h=>zad ((bs:Int)<(L:Int)) h (fun hc3 hc3'=>?_) (fun hc8 hc8'=>?_))
 ·refine qU (za1 (qZ (Je 1 [(1,.g (eV (op:=.mul) (d:=32) (xt:=3) (yt:=3) (k:=.i64) (m:=2) (n:=(bs:Int)) (r:=((2*bs:Nat):Int)) (eR (.int .i64 2) rfl) (eS 31 _) (.inr (.inr ⟨rfl,(by omega)⟩)) i6))] [30] [(7,vI 0),(8,vI ((2*bs:Nat):Int))] h fun a w h=>qW (qZ ?_))))
  refine zbw (ι:=(Nat) × (List za4) × (List za4)) (fun (lo,P,Z)=>lo=P.length/\Pfx (2*bs) P/\lo+Z.length=L/\Blk bs Z/\Stb za4.v (P++Z) xs)
    [] (fun (lo,P,Z)=>[(7,vN lo),(8,vI ((2*bs+lo:Nat):Int))])
    [] (fun (lo,P,Z)=>[(0,.row 124 3 ((P++Z).map e8))])
    (fun (lo,P,Z)=>Z.length) (0,[],ys) ?_ h ?_
  ·exact ⟨rfl,Pfx.nil _,by simp;omega,p3,p4⟩
  clear h;rintro ⟨lo,P,Z⟩ a w hI h;dsimp only at h;obtain ⟨q1,q2,q3,q5,q4⟩:=hI;refine qW (Je 1 [] [] [(35,vb (decide (((2*bs+lo:Nat):Int)<=(L:Int))))] h fun a w h=>zad (((2*bs+lo:Nat):Int)<=(L:Int)) h (fun hc4 hc4'=>?_) (fun hc5 hc5'=>?_))
  ·refine qU (za1 (qZ ?_));obtain ⟨X,Y,Z1,hZ,hX,hY,rX,rY,bZ⟩:=q5.two (by omega);have hz1:Z.length=X.length+Y.length+Z1.length:=by rw [hZ,bC,bC]
   replace h:=cvM [] [] [] [(0,.row 124 3 ((P++X++Y++Z1).map e8))] (by rw [<- show ((P++Z):List za4)=(P++X++Y++Z1) from by rw [hZ];simp only [bJ]]; try kernel_rfl) h;refine Jg 1 [(4,.g (eV (op:=.add) (d:=40) (xt:=3) (yt:=3) (k:=.i64) (m:=(lo:Int)) (n:=(bs:Int)) (r:=((lo+bs:Nat):Int)) (eS 38 _) (eS 39 _) (.inl ⟨rfl,(by omega)⟩) i6)),(7,.call (Ssym2 (r0:=(P++X++Y++Z1)) (r1:=((P++ssV za4.v (X++Y))++Z1)) (L:=L) (lo:=lo) (m:=(lo+bs)) (b:=(2*bs+lo)) P X Y Z1 rfl rfl rX rY (by omega) (by omega) (by first | omega | (simp only [bC,zb7];omega)) (by first | omega | (simp only [bC,zb7];omega)) (by first | omega | (simp only [bC,zb7];omega)) (by first | omega | (simp only [bC,zb7];omega)) (by omega)))] [35] [] [] [(0,.row 124 3 (((P++ssV za4.v (X++Y))++Z1).map e8))] h fun a w h=>Je 1 [] [] [(7,vI ((2*bs+lo:Nat):Int))] h fun a w h=>Jf 1 [(2,.g (eV (op:=.mul) (d:=47) (xt:=3) (yt:=3) (k:=.i64) (m:=2) (n:=(bs:Int)) (r:=((2*bs:Nat):Int)) (eR (.int .i64 2) rfl) (eS 46 _) (.inr (.inr ⟨rfl,(by omega)⟩)) i6)),(3,.g (eV (op:=.add) (d:=48) (xt:=3) (yt:=3) (k:=.i64) (m:=((2*bs+lo:Nat):Int)) (n:=((2*bs:Nat):Int)) (r:=((2*bs+(2*bs+lo):Nat):Int)) (eS 45 _) (eS 47 _) (.inl ⟨rfl,(by omega)⟩) i6))] [] [(8,vI ((2*bs+(2*bs+lo):Nat):Int))] h fun a w h=>za6 (za1 (zaa (x:=(lo,P,Z)) (y:=((2*bs+lo),(P++ssV za4.v (X++Y)),Z1)) h ?_ ?_))
   ·exact ⟨by rw [bC,zb7,bC];omega,q2.snoc (by rw [zb7,bC];omega) (zk9 _),by omega,bZ,by rw [bJ];exact Stb.mid (M:=X++Y) (by rw [<- hZ];exact q4) (zir _)⟩
   show Z1.length<Z.length;omega
  refine exA (qW (Je 1 [(2,.g (eV (op:=.add) (d:=51) (xt:=3) (yt:=3) (k:=.i64) (m:=(lo:Int)) (n:=(bs:Int)) (r:=((lo+bs:Nat):Int)) (eS 49 _) (eS 50 _) (.inl ⟨rfl,(by omega)⟩) i6))] [8,35] [(9,vI ((lo+bs:Nat):Int))] h fun a w h=>Je 1 [] [] [(54,vb (decide (((lo+bs:Nat):Int)<(L:Int))))] h fun a w h=>zad (((lo+bs:Nat):Int)<(L:Int)) h (fun hc6 hc6'=>?_) (fun hc7 hc7'=>?_)))
  ·obtain ⟨X,Y,hZ,hX,rX,bY⟩:=q5.one (by omega);have hz1:Z.length=X.length+Y.length:=by rw [hZ,bC]
   have rY:=bY.ris (by omega);replace h:=cvM [] [] [] [(0,.row 124 3 ((P++X++Y++[]).map e8))] (by rw [<- show ((P++Z):List za4)=(P++X++Y++[]) from by rw [hZ];simp only [bJ,cH]]; try kernel_rfl) h;refine Jh 1 [(5,.call (Ssym2 (r0:=(P++X++Y++[])) (r1:=(P++ssV za4.v (X++Y)++[])) (L:=L) (lo:=lo) (m:=(lo+bs)) (b:=L) P X Y [] rfl rfl rX rY (by omega) (by omega) (by first | omega | (simp only [bC,zb7];omega)) (by first | omega | (simp only [bC,zb7];omega)) (by first | omega | (simp only [bC,zb7];omega)) (by simp only [b5];omega) (by omega)))] [7,9,54] [] [] [(0,.row 124 3 ((P++ssV za4.v (X++Y)++[]).map e8))] h fun a w h=>za1 (Jf 1 [(1,.g (eV (op:=.mul) (d:=62) (xt:=3) (yt:=3) (k:=.i64) (m:=(bs:Int)) (n:=2) (r:=((bs*2:Nat):Int)) (eS 61 _) (eR (.int .i64 2) rfl) (.inr (.inr ⟨rfl,(by omega)⟩)) i6))] [] [(6,vI ((bs*2:Nat):Int))] h fun a w h=>za6 (za1 ?_));replace h:=cvM [] [] [] [(0,.row 124 3 ((P++ssV za4.v Z).map e8))] (by rw [<- show ((P++ssV za4.v (X++Y)++[]):List za4)=(P++ssV za4.v Z) from by rw [hZ,cH]]; try kernel_rfl) h;refine zaa (x:=(bs,ys)) (y:=((bs*2),(P++ssV za4.v Z))) h ?_ ?_
   ·exact ⟨by omega,by omega,by rw [bG];exact q2 _ (.last _ (zk9 Z) (by rw [zb7];omega)),(((Stb.refl P).app (zir Z)).trans q4)⟩
   show L - bs*2<L - bs;omega
  refine qU (za1 (Jf 1 [(1,.g (eV (op:=.mul) (d:=62) (xt:=3) (yt:=3) (k:=.i64) (m:=(bs:Int)) (n:=2) (r:=((bs*2:Nat):Int)) (eS 61 _) (eR (.int .i64 2) rfl) (.inr (.inr ⟨rfl,(by omega)⟩)) i6))] [7,9,54] [(6,vI ((bs*2:Nat):Int))] h fun a w h=>za6 (za1 ?_)));replace h:=cvM [] [] [] [(0,.row 124 3 ((P++ssV za4.v Z).map e8))] (by rw [<- show ((P++Z):List za4)=(P++ssV za4.v Z) from by rw [ssV_of (q5.ris (by omega))]]; try kernel_rfl) h;refine zaa (x:=(bs,ys)) (y:=((bs*2),(P++ssV za4.v Z))) h ?_ ?_
  ·exact ⟨by omega,by omega,by rw [bG];exact q2 _ (.last _ (zk9 Z) (by rw [zb7];omega)),(((Stb.refl P).app (zir Z)).trans q4)⟩
  show L - bs*2<L - bs;omega
 refine wp_exit (zcb (zcb (zaz ?_)));replace h:=cvM [] [] [] [(0,.row 124 3 ((ssV za4.v xs).map e8))] (by rw [<- show (ys:List za4)=(ssV za4.v xs) from zey (p3.ris (by omega)) p4]; try kernel_rfl) h;refine zfj [] h Exit.normal (.inr rfl)  rfl trivial ?_;rfl
theorem zj0 (xs:List za4) (hl:xs.length<=400000000000):Fn eQ 85 [(0,.row 124 3 (xs.map e8))] [vO 0 xs.length,.t (.c (.fn (.func 86) [] []))] (.tup []) [(0,.row 124 3 ((ssV za4.v xs).map e8))]:=by
 refine fB Tryz.func85 rfl 9 fun w H B a h=>Jn 1 [(4,.call (Sstable xs xs.length rfl (by omega)))] [] [(0,.row 124 3 ((ssV za4.v xs).map e8))] h fun a w h=>zfj [] h Exit.normal (.inr rfl)  rfl trivial ?_
 rfl
theorem tk_4:Zero eQ 124 [.d (.raw (.int .i64 0)),.d (.raw (.bool false)),.d (nsl [])]:=⟨(Value.agg #[.int .i64 0,.bool false,.slice none 0 0]),[.int .i64 0,.bool false,.slice none 0 0],by kernel_rfl,rfl,(fun _ _=>⟨DR.raw _ rfl,DR.raw _ rfl,DR.nil _ _ _ (fun _=>rfl) (bK _),trivial⟩)⟩
def idxF (pr:za4->Bool):List za4->Nat->Int
  | [],_=>-1
  | p :: ps,n=>if pr p=true then n else idxF pr ps (n+1)
theorem idxF_at (h:xs[j]?=some p):idxF pr (xs.drop j) j=if pr p=true then (j:Int) else idxF pr (xs.drop (j+1)) (j+1):=by
 obtain ⟨hj,rfl⟩:=b9.1 h
 rw [cO hj];rfl
theorem zkk (pr:za4->Bool):∀ (xs:List za4) (n:Nat),(idxF pr xs n=-1/\xs.filter (fun p=>!pr p)=xs)\/∃ k x,idxF pr xs n=((n+k:Nat):Int)/\xs[k]?=some x/\pr x=true/\(xs.take k).filter (fun p=>!pr p)=xs.take k
 | [],n => .inl ⟨rfl,rfl⟩
 | p :: ps,n=>by
  cases hp:pr p with
  | true=>exact .inr ⟨0,p,by simp [idxF,hp],rfl,hp,rfl⟩
  | false =>
   rcases zkk pr ps (n+1) with ⟨h1,h2⟩ | ⟨k,x,h1,h2,h3,h4⟩
   ·exact .inl ⟨by simp [idxF,hp,h1],by simp [hp,h2]⟩
   ·exact .inr ⟨k+1,x,by simp only [idxF,hp,dI,if_false,h1];omega,h2,h3,by simp [hp,h4]⟩
def isZ (p:za4):Bool:=sgn p.c.val == 0
def zba (n:Int) (p:za4):Bool:=decide (p.v>2147483647 - n)
theorem del_at {pr:za4->Bool} {F:List za4} (hl:F.length+G.length=j) (h:xs[j]?=some x):(F++G++xs.drop j)[j]?=some x:=by
 obtain ⟨hj,rfl⟩:=b9.1 h
 rw [eI (by rw [bC];omega),bC,hl,dJ,cO hj];rfl
theorem filt_snoc (h:xs[j]?=some x) (hp:pr x=false):((xs.take (j+1)).filter (fun p=>!pr p))=((xs.take j).filter (fun p=>!pr p))++[x]:=by
 have e:xs.take (j+1)=xs.take j++[x]:=by rw [bV,h];rfl
 rw [e,dL]
 simp only [cU,hp,Bool.not_false,if_true,List.filter_nil]
theorem filt_skip (h:xs[j]?=some x) (hp:pr x=true):((xs.take (j+1)).filter (fun p=>!pr p))=((xs.take j).filter (fun p=>!pr p)):=by
 have e:xs.take (j+1)=xs.take j++[x]:=by rw [bV,h];rfl
 rw [e,dL]
 simp only [cU,hp,Bool.not_true,dI,if_false,List.filter_nil,cH]
theorem del_skip (h:xs[j]?=some x) (hp:pr x=true):(((xs.take j).filter (fun p=>!pr p))++G++xs.drop j)=(((xs.take (j+1)).filter (fun p=>!pr p))++(G++[x])++xs.drop (j+1)):=by
 rw [filt_skip h hp]
 obtain ⟨hj,rfl⟩:=b9.1 h
 rw [cO hj]
 simp only [bJ,List.cons_append,dG]
theorem del_keep (h:xs[j]?=some x) (hp:pr x=false) (hG:0<G.length):(((xs.take j).filter (fun p=>!pr p))++G++xs.drop j).set ((xs.take j).filter (fun p=>!pr p)).length x=(((xs.take (j+1)).filter (fun p=>!pr p))++(G.tail++[x])++xs.drop (j+1)):=by
 rw [filt_snoc h hp]
 obtain ⟨hj,rfl⟩:=b9.1 h
 obtain ⟨g,G', rfl⟩:∃ g G', G=g :: G':=by
  cases G with
  | nil=>cases hG
  | cons g G'=>exact ⟨g,G', rfl⟩
 rw [cO hj,bJ,dX _ _ (bL _),dJ]
 simp only [List.cons_append,List.set_cons_zero,bJ,dG,List.tail_cons]
theorem zm8 (h:xs[j]?=some x) (hp:pr x=false):((xs.take j).filter (fun p=>!pr p)).length+1=((xs.take (j+1)).filter (fun p=>!pr p)).length:=by
 rw [filt_snoc h hp,bC];rfl
theorem zjs (h:xs[j]?=some x) (hp:pr x=true):((xs.take j).filter (fun p=>!pr p)).length=((xs.take (j+1)).filter (fun p=>!pr p)).length:=by
 rw [filt_skip h hp]
theorem SIndexFZ (pr:za4->Bool) (xs:List za4) (hf:∀ p ∈ xs,Fn eQ 91 [] [vd p.d] (vb (pr p)) []) (hl:xs.length<=1000000000000):Fn eQ 133 [(0,.row 124 3 (xs.map e8))] [vO 0 xs.length,.t (.c (.fn (.func 91) [] []))] (vI (idxF pr xs 0)) [(0,.row 124 3 (xs.map e8))]:=by
 refine fB Tryz.func133 rfl 19 fun w H B a h=>Jq 1 [] [(0,vO 0 xs.length),(1,.t (.c (.fn (.func 91) [] []))),(4,vI 0)] [(0,.row 124 3 (xs.map e8))] h fun a w h=>qW (Je 1 [] [] [(7,vN xs.length),(8,vI 0)] h fun a w h=>qZ ?_)
 refine zbw (ι:=(Nat)) (fun j=>j<=xs.length/\idxF pr xs 0=idxF pr (xs.drop j) j)
   [4] (fun j=>[(8,vN j)])
   [] (fun j=>[])
   (fun j=>xs.length - j) 0 ?_ h ?_
 ·exact ⟨bK _,rfl⟩
 clear h;rintro j a w hI h;obtain ⟨hI1,hI2⟩:=hI;refine Je 1 [] [] [(9,vb (decide ((j:Int)<(xs.length:Int))))] h fun a w h=>qW (zad ((j:Int)<(xs.length:Int)) h (fun hc1 hc1'=>?_) (fun hc4 hc4'=>?_))
 ·refine qU (za1 (qW (qZ (Je 1 [] [9] [(5,vN j)] h fun a w h=>?_))));obtain ⟨x1,hx1⟩:=gl xs j;refine Je 1 [(3,.g (xO 14 12 0 xs.length j zcl (eS 13 _))),(4,.g (eX (d:=15) (t:=14) (n:=0) (i:=j) (fo:=0) (rty:=124) (es:=3) (xs:=[.raw (.int .i64 x1.v),.raw (.bool x1.c.neg),nsl x1.c.abs]) zhw rfl (za7 hx1 (f:=e8)) rfl rfl)),(5,.g (eW (d:=16) (t:=11) (cap:=[]) (args:=[vG ([cI x1.v]++zi x1.c)]) (rs:=[(15,vG ([cI x1.v]++zi x1.c))]) (tys:=#[124]) (hf x1 (lM hx1)) th_2 (OVs.cons (eS 15 _) (OVs.nil))))] [] [(16,vb (pr x1))] h fun a w h=>cS (pr x1) h (fun hc2=>?_) (fun hc3=>?_)
  ·refine Je 1 [] [5,16] [(4,vN j)] h fun a w h=>qV (za8 (za5 (za5 (za8 (za5 (rT (.c (cI (j:Int))) h rfl ?_))))));have hz:idxF pr xs 0=(j:Int):=by rw [hI2,idxF_at hx1,if_pos hc2]
   rw [hz];try rfl
  refine qU (za6 (za1 (Jf 1 [(0,.j1 j)] [5,16] [(8,vI ((j:Int)+1))] h fun a w h=>za1 (zaa (x:=j) (y:=j+1) h ?_ ?_))))
  ·exact ⟨by have:=zab hx1;omega,by rw [hI2,idxF_at hx1,if_neg (by rw [hc3];exact Bool.noConfusion)]⟩
  (try simp);omega
 refine exA (Jp 1 [] [(4,vI (-1))] h fun a w h=>qV (rT (.c (cI (-1))) h rfl ?_));have hz:idxF pr xs 0=-1:=by rw [hI2,dY (by omega)];rfl
 rw [hz];try rfl
theorem SDeleteFZ (pr:za4->Bool) (xs:List za4) (hf:∀ p ∈ xs,Fn eQ 91 [] [vd p.d] (vb (pr p)) []) (hl:xs.length<=1000000000000):Fn eQ 90 [(0,.row 124 3 (xs.map e8))] [.t (.c (.own 0 xs.length)),.t (.c (.fn (.func 91) [] []))] (.t (.c (.own 0 (xs.filter (fun p=>!pr p)).length))) [(0,.row 124 3 ((xs.filter (fun p=>!pr p)).map e8))]:=by
 refine fB Tryz.func90 rfl 42 fun w H B a h=>Jq 1 [] [(0,.t (.c (.own 0 xs.length))),(1,.t (.c (.fn (.func 91) [] []))),(4,.t (.c (.d (.raw zam))))] [(0,.row 124 3 (xs.map e8))] h fun a w h=>Je 1 [(2,.call (SIndexFZ pr xs  hf hl))] [] [(5,vI (idxF pr xs 0))] h fun a w h=>qW ?_
 rcases zkk pr xs 0 with ⟨hz,hz2⟩ | ⟨k,x0,hz,hk,hk2,hk3⟩
 ·rw [hz] at h;refine Jq 1 [(1,.cmp (op:=.eql) (m:=(-1)) (n:=(-1)) (b:=true) .i64 rfl)] [(0,.t (.c (.own 0 xs.length))),(1,.t (.c (.fn (.func 91) [] []))),(4,.t (.c (.d (.raw zam)))),(5,vI (-1)),(12,vb true)] [(0,.row 124 3 (xs.map e8))] h fun a w h=>cS true h (fun _=>?_) nofun
  refine Je 1 [] [12] [(4,.t (.c (.own 0 xs.length)))] h fun a w h=>qV (za5 ?_);replace h:=cvM [] [(4,.t (.c (.own 0 (xs.filter (fun p=>!pr p)).length)))] [] [] (by rw [hz2]; try kernel_rfl) h;replace h:=cvM [] [] [] [(0,.row 124 3 ((xs.filter (fun p=>!pr p)).map e8))] (by rw [<- show (xs:List za4)=(xs.filter (fun p=>!pr p)) from hz2.symm]; try kernel_rfl) h;refine rT (.c (.own 0 (xs.filter (fun p=>!pr p)).length)) h rfl ?_;rfl
 rw [b8] at hz;have hkl:=zab hk;have hf2:((xs.take (k+1)).filter (fun p=>!pr p))=xs.take k:=by rw [bV,hk];simp [dL,hk2,hk3]
 have hf3:((xs.take (k+1)).filter (fun p=>!pr p)).length=k:=by rw [hf2,bP];omega
 rw [hz] at h;refine Jq 1 [(1,.cmp (op:=.eql) (m:=(k:Int)) (n:=(-1)) (b:=false) .i64 (beq_eq_false_iff_ne.2 (by omega)))] [(0,.t (.c (.own 0 xs.length))),(1,.t (.c (.fn (.func 91) [] []))),(4,.t (.c (.d (.raw zam)))),(5,vN k),(12,vb false)] [(0,.row 124 3 (xs.map e8))] h fun a w h=>zau h (qU (za1 (qW (Je 1 [(1,.g (eV (op:=.add) (d:=15) (xt:=3) (yt:=3) (k:=.i64) (m:=(k:Int)) (n:=1) (r:=((k+1:Nat):Int)) (eS 14 _) (eR (.int .i64 1) rfl) (.inl ⟨rfl,(by omega)⟩) i6))] [12] [(6,vI ((k+1:Nat):Int))] h fun a w h=>qZ ?_))));replace h:=cvM [] [(5,vI (((xs.take (k+1)).filter (fun p=>!pr p)).length:Int))] [] [] (by rw [hf3]; try kernel_rfl) h;replace h:=cvM [] [] [] [(0,.row 124 3 ((((xs.take (k+1)).filter (fun p=>!pr p))++[x0]++xs.drop (k+1)).map e8))] (by rw [<- show (xs:List za4)=(((xs.take (k+1)).filter (fun p=>!pr p))++[x0]++xs.drop (k+1)) from by rw [hf2];obtain ⟨g1,g2⟩:=b9.1 hk;subst g2;simp]; try kernel_rfl) h
 refine zbw (ι:=(Nat) × (List za4)) (fun (j,G)=>j<=xs.length/\((xs.take j).filter (fun p=>!pr p)).length+G.length=j/\0<G.length)
   [] (fun (j,G)=>[(5,vI (((xs.take j).filter (fun p=>!pr p)).length:Int)),(6,vN j)])
   [] (fun (j,G)=>[(0,.row 124 3 ((((xs.take j).filter (fun p=>!pr p))++G++xs.drop j).map e8))])
   (fun (j,G)=>xs.length - j) ((k+1),[x0]) ?_ h ?_
 ·exact ⟨by omega,by rw [hf3];rfl,Nat.one_pos⟩
 clear h;rintro ⟨j,G⟩ a w hI h;dsimp only at h;obtain ⟨hI1,hI2,hI3⟩:=hI;have hrl:(((xs.take j).filter (fun p=>!pr p))++G++xs.drop j).length=xs.length:=by simp only [bC,bU];omega
 refine qW (Je 1 [] [] [(19,vb (decide ((j:Int)<(xs.length:Int))))] h fun a w h=>zad ((j:Int)<(xs.length:Int)) h (fun hc1 hc1'=>?_) (fun hc4 hc4'=>?_))
 ·refine qU (za1 (qW (qZ ?_)));obtain ⟨x,hx⟩:∃ z_:za4,xs[j]?=some z_:=⟨_,cG (by omega)⟩;refine Jg 1 [(2,.g (xO 24 22 0 xs.length j zcl (eS 23 _))),(3,.g (eX (d:=25) (t:=24) (n:=0) (i:=j) (fo:=0) (rty:=124) (es:=3) (xs:=[.raw (.int .i64 x.v),.raw (.bool x.c.neg),nsl x.c.abs]) zhw rfl (za7 (show ((((xs.take j).filter (fun p=>!pr p))++G++xs.drop j):List za4)[j]?=some x from del_at (pr:=pr) hI2 hx) (f:=e8)) rfl rfl))] [19] [(7,vp 1 0)] [] [(1,.box ([.d (.raw (.int .i64 x.v))]++zi x.c))] h fun a w h=>Je 2 [(2,.g (eW (d:=28) (t:=26) (cap:=[]) (args:=[.t (.agg ([.d (.raw (.int .i64 x.v))]++zi x.c))]) (rs:=[(27,.t (.agg ([.d (.raw (.int .i64 x.v))]++zi x.c)))]) (tys:=#[124]) (hf x (lM hx)) th_2 (OVs.cons (eS 27 _) (OVs.nil))))] [] [(29,vb (!(pr x)))] h fun a w h=>cS (!(pr x)) h (fun hc2=>?_) (fun hc3=>?_)
  ·obtain ⟨x3,hx3⟩:=gl (((xs.take j).filter (fun p=>!pr p))++G++xs.drop j) (((xs.take j).filter (fun p=>!pr p)).length);refine Jg 2 [(3,.g (xO 33 30 0 xs.length ((xs.take j).filter (fun p=>!pr p)).length zcl (eS 31 _))),(4,.g (eZ (t:=33) (n:=0) (i:=((xs.take j).filter (fun p=>!pr p)).length) (fo:=0) (rty:=124) (es:=3) (r:=e8 x3) (ds:=[.raw (.int .i64 x.v),.raw (.bool x.c.neg),nsl x.c.abs]) (rs:=[(32,.t (.agg ([.d (.raw (.int .i64 x.v))]++zi x.c)))]) (rows:=(((xs.take j).filter (fun p=>!pr p))++G++xs.drop j).map e8) (rows':=((((xs.take j).filter (fun p=>!pr p))++G++xs.drop j).set ((xs.take j).filter (fun p=>!pr p)).length x).map e8) zhw (eS 32 _) rfl rfl rfl (za7 hx3 (f:=e8)) (by simp [e8]) (zc0 (xs:=(((xs.take j).filter (fun p=>!pr p))++G++xs.drop j)) (F:=e8) ((xs.take j).filter (fun p=>!pr p)).length _ _ rfl)))] [7,29] [] [1] [(0,.row 124 3 (((((xs.take j).filter (fun p=>!pr p))++G++xs.drop j).set ((xs.take j).filter (fun p=>!pr p)).length x).map e8))] h fun a w h=>Jf 2 [(1,.g (eV (op:=.add) (d:=35) (xt:=3) (yt:=3) (k:=.i64) (m:=(((xs.take j).filter (fun p=>!pr p)).length:Int)) (n:=1) (r:=((((xs.take j).filter (fun p=>!pr p)).length+1:Nat):Int)) (eS 34 _) (eR (.int .i64 1) rfl) (.inl ⟨rfl,(by omega)⟩) i6))] [] [(5,vI ((((xs.take j).filter (fun p=>!pr p)).length+1:Nat):Int))] h fun a w h=>za6 (za1 (Jf 2 [(1,.j1 j)] [] [(6,vI ((j:Int)+1))] h fun a w h=>za1 ?_));have hp:pr x=false:=(by simpa using hc2);replace h:=cvM [] [(5,vI (((xs.take (j+1)).filter (fun p=>!pr p)).length:Int))] [] [] (by rw [<- zm8 hx hp]; try kernel_rfl) h;rw [show (((((xs.take j).filter (fun p=>!pr p))++G++xs.drop j).set ((xs.take j).filter (fun p=>!pr p)).length x):List za4)=(((xs.take (j+1)).filter (fun p=>!pr p))++(G.tail++[x])++xs.drop (j+1)) from del_keep hx hp hI3] at h;refine zaa (x:=(j,G)) (y:=((j+1),(G.tail++[x]))) h ?_ ?_
   ·exact ⟨by have:=zab hx;omega,by rw [<- zm8 hx hp,bC,List.length_tail];simp only [b7,b5];omega,by rw [bC];simp only [b7,b5];omega⟩
   show xs.length - (j+1)<xs.length - j;have:=zab hx;omega
  refine qU (za6 (za1 (Jh 2 [(1,.j1 j)] [7,29] [(6,vI ((j:Int)+1))] [1] [] h fun a w h=>za1 ?_)));have hp:pr x=true:=(by simpa using hc3);replace h:=cvM [] [(5,vI (((xs.take (j+1)).filter (fun p=>!pr p)).length:Int))] [] [] (by rw [<- zjs hx hp]; try kernel_rfl) h;rw [show ((((xs.take j).filter (fun p=>!pr p))++G++xs.drop j):List za4)=(((xs.take (j+1)).filter (fun p=>!pr p))++(G++[x])++xs.drop (j+1)) from del_skip hx hp] at h;refine zaa (x:=(j,G)) (y:=((j+1),(G++[x]))) h ?_ ?_
  ·exact ⟨by have:=zab hx;omega,by rw [<- zjs hx hp,bC];simp only [b7,b5];omega,by rw [bC];simp only [b7,b5];omega⟩
  show xs.length - (j+1)<xs.length - j;have:=zab hx;omega
 refine exA ?_;have hj:j=xs.length:=by omega
 have hF:((xs.take j).filter (fun p=>!pr p))=(xs.filter (fun p=>!pr p)):=by rw [hj,cC]
 refine Jg 2 [(2,.g (Op.sliceLo (d:=38) (t:=36) (k:=.i64) (n:=0) (len:=xs.length) (l:=((xs.take j).filter (fun p=>!pr p)).length) (rows:=(((xs.take j).filter (fun p=>!pr p))++G++xs.drop j).map e8) (rty:=124) zcl (by first | omega | (simp only [bI,bC,bU];omega)) (eS 37 _) (by first | omega | (simp at *;omega)) rfl)),(3,.g (Op.clearCut' (rows':=((xs.take j).filter (fun p=>!pr p)).map e8) (o:=none) (t:=38) (n:=0) (off:=((xs.take j).filter (fun p=>!pr p)).length*3) (len:=(xs.length - ((xs.take j).filter (fun p=>!pr p)).length)) (l:=((xs.take j).filter (fun p=>!pr p)).length) (es:=3) (rows:=(((xs.take j).filter (fun p=>!pr p))++G++xs.drop j).map e8) (rty:=124) (zs:=[.d (.raw (.int .i64 0)),.d (.raw (.bool false)),.d (nsl [])]) zcl.hu tk_4 rfl rfl (by first | omega | (simp only [bI,bC,bU];omega)) _ rfl (by simp [cY,List.take_append])))] [1,6,19] [] [] [(0,.row 124 3 (((xs.take j).filter (fun p=>!pr p)).map e8))] h fun a w h=>Jp 2 [(2,.g (Op.sliceHi (d:=41) (t:=39) (k:=.i64) (n:=0) (len:=xs.length) (h:=((xs.take j).filter (fun p=>!pr p)).length) (rows:=((xs.take j).filter (fun p=>!pr p)).map e8) (rty:=124) zcl (by first | omega | (simp only [bI,bC,bU];omega)) (eS 40 _)))] [(4,.t (.c (.own 0 ((xs.take j).filter (fun p=>!pr p)).length)))] h fun a w h=>qV ?_;replace h:=cvM [] [(4,.t (.c (.own 0 (xs.filter (fun p=>!pr p)).length)))] [] [] (by rw [hF]; try kernel_rfl) h;rw [show (((xs.take j).filter (fun p=>!pr p)):List za4)=(xs.filter (fun p=>!pr p)) from hF] at h;refine rT (.c (.own 0 (xs.filter (fun p=>!pr p)).length)) h rfl ?_;rfl
def zb8 (out:List za4) (p:za4):List za4 :=
  if p.v<0 then out else match out[out.length - 1]? with
    | some q=>if q.v=p.v then out.set (out.length - 1) ⟨q.v,e6 (q.c.val+p.c.val)⟩ else out++[⟨p.v,e6 p.c.val⟩]
    | none=>out++[⟨p.v,e6 p.c.val⟩]
def zii (s:List za4):List za4:=s.foldl zb8 []
theorem zch (s:List za4) (p:za4):zii (s++[p])=zb8 (zii s) p:=by simp [zii,List.foldl_append]
theorem mrg_neg (h:p.v<0):zb8 out p=out:=by simp [zb8,h]
theorem mrg_nil (h:¬ p.v<0) (h0:out.length=0):zb8 out p=out++[⟨p.v,e6 p.c.val⟩]:=by
 rw [zkg h0];simp [zb8,h]
theorem zjk (h:¬ p.v<0) (hk:out.length=k+1) (hq:out[k]?=some q) (hv:q.v=p.v):zb8 out p=out.set k ⟨q.v,e6 (q.c.val+p.c.val)⟩:=by
 have:out.length - 1=k:=by omega
 simp only [zb8,this,hq,if_neg h,if_pos hv]
theorem mrg_new (h:¬ p.v<0) (hk:out.length=k+1) (hq:out[k]?=some q) (hv:¬ q.v=p.v):zb8 out p=out++[⟨p.v,e6 p.c.val⟩]:=by
 have:out.length - 1=k:=by omega
 simp only [zb8,this,hq,if_neg h,if_neg hv]
def MOk (L j:Nat) (out:List za4):Prop:=∀ q ∈ out,q.c=e6 q.c.val/\q.c.val.natAbs<=j*pw L
theorem MOk.lb {L:Nat} (h:MOk L j out) (hq:q ∈ out) (hj:j<=1000000000):Lb q.c.abs/\q.c.abs.length<=L+1:=by
 obtain ⟨h1,h2⟩:=h q hq
 rw [h1]
 refine ⟨ZI.lb_of _,ZI.len_of ?_⟩
 have h3:j*pw L<=1000000000*pw L:=bN _ hj
 have h4:=zf4 L
 rw [zar];omega
theorem MOk.step {L:Nat} (h:MOk L j out) (hp:Lb p.c.abs/\p.c.abs.length<=L):MOk L (j+1) (zb8 out p):=by
 have hp2:p.c.val.natAbs<=pw L:=by
  have h3:=ZI.abs_lt hp.1
  have h4:=zdt hp.2
  omega
 have up:∀ q ∈ out,q.c=e6 q.c.val/\q.c.val.natAbs<=(j+1)*pw L:=fun q hq=>⟨(h q hq).1,bS (h q hq).2 (bN _ (Nat.le_succ j))⟩
 have new:∀ q ∈ out++[(⟨p.v,e6 p.c.val⟩:za4)],q.c=e6 q.c.val/\q.c.val.natAbs<=(j+1)*pw L:=by
  intro q hq
  rcases dM.1 hq with hq | hq
  ·exact up q hq
  ·rw [cP.1 hq]
   refine ⟨by rw [e7],?_⟩
   show (e6 p.c.val).val.natAbs<=_
   rw [e7,b6];omega
 intro q hq
 by_cases h1:p.v<0
 ·rw [mrg_neg h1] at hq;exact up q hq
 rcases cD out.length with h0 | h0
 ·rw [mrg_nil h1 h0] at hq;exact new q hq
 obtain ⟨k,hk⟩:∃ k,out.length=k+1:=⟨out.length - 1,by omega⟩
 have hk2:out[k]?=some (out[k]'(by omega)):=cG _
 by_cases hv:(out[k]'(by omega)).v=p.v
 ·rw [zjk h1 hk hk2 hv] at hq
  rcases eJ hq with hq | rfl
  ·exact up q hq
  ·have:=(h _ (dV hk2)).2
   refine ⟨by rw [e7],?_⟩
   show (e6 _).val.natAbs<=_
   rw [e7,b6];omega
 ·rw [mrg_new h1 hk hk2 hv] at hq;exact new q hq
abbrev SR (l:List za4):Prop:=l.Pairwise fun p q=>p.v<q.v
theorem zkq {l:List za4} (h:∀ q ∈ l,q.v≠v):zah l v=0:=by
 induction l with
 | nil=>rfl
 | cons q l ih=>simp only [zah];rw [ih fun x hx=>h x (by simp [hx]),if_neg fun e=>h q (by simp) e.1];rfl
theorem zhk (p:za4) (v:Int):zah [p] v=if p.v=v/\0<=v then p.c.val else 0:=by simp [zah]
theorem zlb (l:List za4) (v:Int):zah (l.filter fun p=>decide (p.v=v)) v=zah l v:=by
 induction l with
 | nil=>rfl
 | cons p l ih =>
  by_cases h:p.v=v
  ·simp only [cU,h,decide_true,if_true,zah,ih]
  ·simp only [cU,h,decide_false,dI,if_false,zah,ih,false_and,dZ]
theorem coefZ_stb {ys:List za4} (h:Stb za4.v xs ys) (v:Int):zah xs v=zah ys v:=by
 rw [<- zlb xs,<- zlb ys,h v]
theorem coefZ_nz (l:List za4) (v:Int):zah (l.filter fun p=>!isZ p) v=zah l v:=by
 induction l with
 | nil=>rfl
 | cons p l ih =>
  cases h:isZ p with
  | true =>
   have h0:p.c.val=0:=by simp only [isZ] at h;exact sgn0_t h
   simp only [cU,h,Bool.not_true,dI,if_false,zah,ih,h0]
   split <;> omega
  | false=>simp only [cU,h,Bool.not_false,if_true,zah,ih]
theorem SR.head {l:List za4} (s:SR (p :: l)) (h0:0<=p.v):zah (p :: l) p.v=p.c.val:=by
 rw [zah,if_pos ⟨rfl,h0⟩,zkq (fun q hq=>by have:=(cF.1 s).1 q hq;omega),Int.add_zero]
theorem SR.below {l:List za4} (s:SR (p :: l)) (hv:v<p.v):zah (p :: l) v=0:=by
 refine zkq fun q hq=>?_
 rcases cQ.1 hq with rfl | hq
 ·omega
 ·have:=(cF.1 s).1 q hq;omega
theorem SR.unique:∀ {l m:List za4}, SR l->SR m->(∀ q ∈ l,0<=q.v/\q.c=e6 q.c.val/\q.c.val≠0)->(∀ q ∈ m,0<=q.v/\q.c=e6 q.c.val/\q.c.val≠0)->(∀ v,zah l v=zah m v)->l=m
 | [],[],_,_,_,_,_=>rfl
 | p :: l,[],s1,_,h1,_,h=>by
  have e:=h p.v
  rw [s1.head (h1 p (by simp)).1] at e
  exact absurd e (h1 p (by simp)).2.2
 | [],q :: m,_,s2,_,h2,h=>by
  have e:=h q.v
  rw [s2.head (h2 q (by simp)).1] at e
  exact absurd e.symm (h2 q (by simp)).2.2
 | p :: l,q :: m,s1,s2,h1,h2,h=>by
  obtain ⟨p0,p1,p2⟩:=h1 p (by simp)
  obtain ⟨q0,q1,q2⟩:=h2 q (by simp)
  rcases Int.lt_trichotomy p.v q.v with hv | hv | hv
  ·have e:=h p.v
   rw [s1.head p0,s2.below hv] at e
   exact absurd e p2
  ·have e:=h p.v
   rw [s1.head p0,hv,s2.head q0] at e
   have epq:p=q:=by
    cases p;cases q
    simp only at hv e p1 q1
    subst hv
    rw [p1,q1,e]
   subst epq
   rw [SR.unique (cF.1 s1).2 (cF.1 s2).2 (fun x hx=>h1 x (by simp [hx])) (fun x hx=>h2 x (by simp [hx])) fun v=>by
    have:=h v
    simp only [zah] at this
    omega]
  ·have e:=h q.v
   rw [s2.head q0,s1.below hv] at e
   exact absurd e.symm q2
theorem SR.last {o:List za4} (h:SR (o++[q])):∀ x ∈ o,x.v<q.v:=fun x hx=>(dN.1 h).2.2 x hx q (by simp)
theorem mrgZ_ok (s:List za4):Ris za4.v s->SR (zii s)/\(∀ q ∈ zii s,0<=q.v/\q.c=e6 q.c.val/\∃ x ∈ s,x.v=q.v)/\∀ v,zah (zii s) v=zah s v:=by
 refine rev_ind (P:=fun s=>Ris za4.v s->SR (zii s)/\(∀ q ∈ zii s,0<=q.v/\q.c=e6 q.c.val/\∃ x ∈ s,x.v=q.v)/\∀ v,zah (zii s) v=zah s v) ?_ ?_ s
 ·intro _
  exact ⟨List.Pairwise.nil,fun q hq=>(by cases hq),fun v=>rfl⟩
 ·intro s p ih hR
  obtain ⟨r1,r2,r3⟩:=Ris.app.1 hR
  obtain ⟨i1,i2,i3⟩:=ih r1
  rw [zch]
  have old:∀ q ∈ zii s,0<=q.v/\q.c=e6 q.c.val/\∃ x ∈ s++[p],x.v=q.v:=fun q hq=>by
   obtain ⟨h1,h2,x,h3,h4⟩:=i2 q hq
   exact ⟨h1,h2,x,by simp [h3],h4⟩
  have le:∀ q ∈ zii s,q.v<=p.v:=fun q hq=>by
   obtain ⟨_,_,x,h3,h4⟩:=i2 q hq
   have:=r3 x h3 p (by simp);omega
  have cs:∀ v,zah (s++[p]) v=zah (zii s) v+if p.v=v/\0<=v then p.c.val else 0:=fun v=>by rw [zfe,zhk,i3 v]
  by_cases hn:p.v<0
  ·rw [mrg_neg hn]
   exact ⟨i1,old,fun v=>by rw [cs v,if_neg (by omega),Int.add_zero]⟩
  rcases snoc_or (zii s) with h0 | ⟨o,q,ho⟩
  ·rw [mrg_nil hn (by rw [h0];rfl),h0,dG]
   refine ⟨d4 _ _,fun q hq=>?_,fun v=>?_⟩
   ·rw [cP.1 hq]
    exact ⟨by show 0<=p.v;omega,by rw [e7],p,by simp,rfl⟩
   ·rw [cs v,h0,zhk];simp [zah,e7]
  ·rw [ho] at i1 old le cs ⊢
   have hk:(o++[q]).length=o.length+1:=by simp
   have hq:(o++[q])[o.length]?=some q:=by simp
   have lq:=le q (by simp)
   by_cases hv:q.v=p.v
   ·rw [zjk hn hk hq hv,show (o++[q]).set o.length ⟨q.v,e6 (q.c.val+p.c.val)⟩=o++[⟨q.v,e6 (q.c.val+p.c.val)⟩] by simp [dX]]
    obtain ⟨j1,j2,j3⟩:=dN.1 i1
    refine ⟨dN.2 ⟨j1,d4 _ _,fun a ha b hb=>?_⟩,fun x hx=>?_,fun v=>?_⟩
    ·rw [cP.1 hb];exact i1.last a ha
    ·rcases dM.1 hx with hx | hx
     ·exact old x (by simp [hx])
     ·rw [cP.1 hx]
      exact ⟨by show 0<=q.v;omega,by rw [e7],p,by simp,hv.symm⟩
    ·rw [cs v,zfe,zfe,zhk,zhk]
     simp only [e7,hv]
     split <;> omega
   ·rw [mrg_new hn hk hq hv]
    refine ⟨dN.2 ⟨i1,d4 _ _,fun a ha b hb=>?_⟩,fun x hx=>?_,fun v=>?_⟩
    ·rw [cP.1 hb]
     show a.v<p.v
     rcases dM.1 ha with ha | ha
     ·have:=i1.last a ha;omega
     ·rw [cP.1 ha];omega
    ·rcases dM.1 hx with hx | hx
     ·exact old x hx
     ·rw [cP.1 hx]
      exact ⟨by show 0<=p.v;omega,by rw [e7],p,by simp,rfl⟩
    ·rw [cs v,zfe,zhk]
     simp only [e7]
def insR (v:Int):List Int->List Int
  | []=>[v]
  | x :: l=>if v<=x then v :: (x :: l).filter (fun y=>decide (y≠v)) else x :: insR v l
theorem zm1 (v:Int):∀ (l acc:List Int),l.foldl (zbr v) (acc,true)=(acc++l.filter (fun y=>decide (y≠v)),true)
 | [],acc=>by simp
 | x :: l,acc=>by
  have e:zbr v (acc,true) x=(if x≠v then (acc++[x],true) else (acc,true)):=by simp [zbr]
  rw [dO,e]
  by_cases h:x=v
  ·rw [if_neg (fun g=>g h),zm1 v l acc];simp [h]
  ·rw [if_pos h,zm1 v l (acc++[x])];simp [h]
theorem insZ_R (v:Int):∀ (l acc:List Int),(if (l.foldl (zbr v) (acc,false)).2=true then (l.foldl (zbr v) (acc,false)).1 else (l.foldl (zbr v) (acc,false)).1++[v])=acc++insR v l
 | [],acc=>by simp [insR]
 | x :: l,acc=>by
  rw [dO]
  by_cases h:v<=x
  ·have e:zbr v (acc,false) x=(if x≠v then (acc++[v]++[x],true) else (acc++[v],true)):=by simp [zbr,h]
   by_cases h2:x=v
   ·rw [if_neg (fun g=>g h2)] at e
    rw [e,zm1];simp [insR,h2]
   ·rw [if_pos h2] at e
    rw [e,zm1];simp [insR,h,h2]
  ·have h2:x≠v:=by omega
   have e:zbr v (acc,false) x=(acc++[x],false):=by simp [zbr,h,h2]
   rw [e,insZ_R v l (acc++[x])]
   simp [insR,h]
theorem insZ_eq (l:List Int) (v:Int):zes l v=insR v l:=by have:=insZ_R v l [];simpa [zes] using this
abbrev SRi (l:List Int):Prop:=l.Pairwise fun x y=>x<y
theorem zm3 (v x:Int):∀ l:List Int,x ∈ insR v l ↔ x=v\/x ∈ l
 | []=>by simp [insR]
 | y :: l=>by
  simp only [insR]
  split
  ·simp only [cQ,cV,decide_eq_true_eq]
   by_cases h:x=v <;> simp [h]
  ·simp only [cQ,zm3 v x l]
   constructor
   ·rintro (h | h | h) <;> simp [h]
   ·rintro (h | h | h) <;> simp [h]
theorem insR_sr (v:Int):∀ {l:List Int}, SRi l->SRi (insR v l)
 | [],_=>by simp [insR]
 | y :: l,h=>by
  obtain ⟨h1,h2⟩:=cF.1 h
  simp only [insR]
  split
  ·rename_i hv
   refine cF.2 ⟨fun z hz=>?_,h.filter _⟩
   obtain ⟨hz1,hz2⟩:=cV.1 hz
   have hz2:z≠v:=by simpa using hz2
   rcases cQ.1 hz1 with rfl | hz1
   ·omega
   ·have:=h1 z hz1;omega
  ·refine cF.2 ⟨fun z hz=>?_,insR_sr v h2⟩
   rcases (zm3 v z l).1 hz with rfl | hz
   ·omega
   ·exact h1 z hz
theorem zll (ps:List za4):∀ (qs:List za4) (out:List Int),SRi out->SRi (qs.foldl (zdv ps) out)/\∀ x,x ∈ qs.foldl (zdv ps) out ↔ x ∈ out\/∃ q ∈ qs,q.v=x/\zah ps x≠0
 | [],out,h=>⟨h,fun x=>by simp⟩
 | q :: qs,out,h=>by
  have h1:SRi (zdv ps out q):=by
   unfold zdv
   split
   ·rw [insZ_eq];exact insR_sr _ h
   ·exact h
  obtain ⟨i1,i2⟩:=zll ps qs _ h1
  refine ⟨i1,fun x=>?_⟩
  rw [dO,i2 x]
  have h2:x ∈ zdv ps out q ↔ x ∈ out\/(q.v=x/\zah ps x≠0):=by
   unfold zdv
   split
   ·rename_i hc
    rw [insZ_eq,zm3]
    constructor
    ·rintro (rfl | h)
     ·exact .inr ⟨rfl,hc⟩
     ·exact .inl h
    ·rintro (h | ⟨rfl,_⟩)
     ·exact .inr h
     ·exact .inl rfl
   ·rename_i hc
    constructor
    ·exact .inl
    ·rintro (h | ⟨rfl,h⟩)
     ·exact h
     ·exact absurd h hc
  rw [h2]
  constructor
  ·rintro ((h | h) | ⟨p,hp,h⟩)
   ·exact .inl h
   ·exact .inr ⟨q,by simp,h⟩
   ·exact .inr ⟨p,by simp [hp],h⟩
  ·rintro (h | ⟨p,hp,h⟩)
   ·exact .inl (.inl h)
   ·rcases cQ.1 hp with rfl | hp
    ·exact .inl (.inr h)
    ·exact .inr ⟨p,hp,h⟩
theorem zcr {ps:List za4} (h:zah ps v≠0):0<=v/\∃ q ∈ ps,q.v=v:=by
 refine ⟨cJ.1 fun hv=>h ?_,?_⟩
 ·induction ps with
  | nil=>rfl
  | cons p ps ih =>
   simp only [zah] at h ⊢
   rw [if_neg (by omega),dZ] at h ⊢
   exact ih h
 ·exact Classical.byContradiction fun hq=>h (zkq fun q hq1 hq2=>hq ⟨q,hq1,hq2⟩)
theorem varsZ_ok (ps:List za4):SRi (ze7 ps)/\∀ x,x ∈ ze7 ps ↔ zah ps x≠0:=by
 obtain ⟨h1,h2⟩:=zll ps ps [] List.Pairwise.nil
 refine ⟨h1,fun x=>(h2 x).trans ⟨?_,fun h=>?_⟩⟩
 ·rintro (h | ⟨_,_,_,h⟩)
  ·cases h
  ·exact h
 ·obtain ⟨_,q,hq,e⟩:=zcr h
  exact .inr ⟨q,hq,e,h⟩
def zge (ps:List za4) (v:Int):za4:=⟨v,e6 (zah ps v)⟩
theorem zjt (ps:List za4) (v:Int) (hv:0<=v):∀ {l:List Int}, SRi l->zah (l.map (zge ps)) v=if v ∈ l then zah ps v else 0
 | [],_=>rfl
 | x :: l,h=>by
  obtain ⟨h1,h2⟩:=cF.1 h
  simp only [d5,zah,zjt ps v hv h2]
  by_cases e:x=v
  ·subst e
   have:x ∉ l:=fun hx=>by have:=h1 x hx;omega
   simp [zge,hv,this,e7]
  ·have e':¬ v=x:=fun g=>e g.symm
   simp [zge,e,e']
theorem plain_law (ps:List za4):(zii (ssV za4.v ps)).filter (fun p=>!isZ p)=(ze7 ps).map (zge ps):=by
 obtain ⟨m1,m2,m3⟩:=mrgZ_ok (ssV za4.v ps) (zk9 ps)
 obtain ⟨v1,v2⟩:=varsZ_ok ps
 refine SR.unique (m1.filter _) (d6.2 v1) (fun q hq=>?_) (fun q hq=>?_) fun v=>?_
 ·obtain ⟨h1,h2⟩:=cV.1 hq
  obtain ⟨h3,h4,_⟩:=m2 q h1
  refine ⟨h3,h4,fun e=>?_⟩
  have:isZ q=true:=by simp [isZ,e,zev]
  rw [this] at h2;cases h2
 ·obtain ⟨v,hv,rfl⟩:=cX.1 hq
  have hv:=(v2 v).1 hv
  refine ⟨(zcr hv).1,by simp [zge,e7],by simpa [zge,e7] using hv⟩
 ·rw [coefZ_nz,m3 v,coefZ_stb (zir ps) v]
  by_cases hv:0<=v
  ·rw [zjt ps v hv v1]
   by_cases h:v ∈ ze7 ps
   ·rw [if_pos h]
   ·rw [if_neg h]
    exact Classical.byContradiction fun e=>h ((v2 v).2 e)
  ·have z1:zah ps v=0:=Classical.byContradiction fun e=>hv (zcr e).1
   have z2:zah ((ze7 ps).map (zge ps)) v=0:=Classical.byContradiction fun e=>hv (zcr e).1
   rw [z1,z2]
theorem tl_7:Sz eQ 3 1 false:=Sz.mk' (by kernel_rfl) Tryz.underlying3 _ rfl
theorem SClone1 (xs:List za4) (hn:0<xs.length) (hl:xs.length<=1000000000000):Fn eQ 84 [] [(vPs xs)] (vO 0 xs.length) [(0,.row 124 3 (xs.map e8))]:=by
 refine fB Tryz.func84 rfl 8 fun w H B a h=>Jq 1 [] [(0,(vPs xs)),(2,vW zam)] [] h fun a w h=>qW (Jg 1 [(1,.g (Op.eqNilD (d:=4) (t:=3) (es:=3) (xt:=24) (yt:=24) (rows:=xs.map e8) zcl.hu ((by rw [bI];exact hn)) (eR zam rfl)))] [] [(4,vb false)] [] [] h fun a w h=>zau h (qU (za1 (Jq 1 [(0,.g (Op.buildE (d:=5) (n:=1) tb_9)),(2,.g (Op.appOD (d:=7) (t:=5) (u:=6) (n:=1) (n':=2) (len:=0) (len':=xs.length) (rows:=[].map e8) (rows2:=xs.map e8) (rows':=xs.map e8) zld (by first | exact (bI _).symm | simp) (by first | (rw [bC,bI];done) | simp) (by simp) (by simp [e8]) (by first | omega | (simp at *;done) | (simp at *;omega))))] [(2,vO 2 xs.length)] [(2,.row 124 3 (xs.map e8))] h fun a w h=>qV ?_))))
 replace h:=zd7 2 0 h;refine rT (.c (.own 0 xs.length)) h rfl ?_;rfl
theorem SClone2 :Fn eQ 84 [] [vW zam] (vO 0 0) [(0,.row 124 3 ([].map e8))]:=by
 refine fB Tryz.func84 rfl 8 fun w H B a h=>Jq 1 [] [(0,vW zam),(2,vW zam)] [] h fun a w h=>qW (Jg 1 [(1,.g (Op.eqNilR (d:=4) (xt:=24) (yt:=24) (ao:=none) (n:=0) (c:=0) zcl.hu (eS 3 _) (eR zam rfl)))] [] [(4,vb true)] [] [] h fun a w h=>cS true h (fun _=>?_) nofun)
 refine Jg 1 [] [4] [] [] [] h fun a w h=>qV (za5 ?_);replace h:=zfr 2 0 1 3 124 (vW zam) h;replace h:=zd7 1 0 h;refine rT (.c (.own 0 0)) h rfl ?_;rfl
theorem SClone3 (ao:Addr) (c:Nat) (hc:c<=maxLen):Fn eQ 84 [] [vW (.slice (some ao) 0 c)] (vO 0 0) [(0,.row 124 3 ([].map e8))]:=by
 refine fB Tryz.func84 rfl 8 fun w H B a h=>Jq 1 [] [(0,vW (.slice (some ao) 0 c)),(2,vW zam)] [] h fun a w h=>qW (Jg 1 [(1,.g (Op.eqNilR (d:=4) (xt:=24) (yt:=24) (ao:=some ao) (n:=0) (c:=c) zcl.hu (eS 3 _) (eR zam rfl)))] [] [(4,vb false)] [] [] h fun a w h=>zau h (qU (za1 ?_)))
 replace h:=nilDSr 0 0 3 (vW (.slice (some ao) 0 c)) (some ao) c (fun e=>by cases e) hc [(0,(vPs [])),(2,vW zam),(4,vb false)] [] h rfl rfl;refine Jq 1 [(0,.g (Op.buildE (d:=5) (n:=1) tb_9)),(2,.g (Op.appOD (d:=7) (t:=5) (u:=6) (n:=1) (n':=2) (len:=0) (len':=0) (rows:=[].map e8) (rows2:=[].map e8) (rows':=[].map e8) zld (by first | exact (bI _).symm | simp) (by first | (rw [bC,bI];done) | simp) (by simp) (by simp [e8]) (by first | omega | (simp at *;done) | (simp at *;omega))))] [(2,vO 2 0)] [(2,.row 124 3 ([].map e8))] h fun a w h=>qV ?_;replace h:=zd7 2 0 h;refine rT (.c (.own 0 0)) h rfl ?_;rfl
theorem SClone (xs:List za4) (hl:xs.length<=1000000000000):Fn eQ 84 [] [(vPs xs)] (vO 0 xs.length) [(0,.row 124 3 (xs.map e8))]:=by
 cases xs with
 | nil =>
  refine Fn.rawE fun ao c h1 h2=>?_
  cases ao with
  | none=>obtain rfl:=h1 rfl;exact SClone2
  | some ao=>exact SClone3 ao c h2
 | cons x xs=>exact SClone1 (x :: xs) (by simp) hl
theorem zdl (h:p ∈ ssV za4.v xs):p ∈ xs:=(zir xs).mem h
theorem PsOk.get_mem {L:Nat} {ps:List za4} (h:PsOk L ps) (hp:p ∈ ps):Lb p.c.abs/\p.c.abs.length<=L:=h.2 p hp
theorem SPlain0 (t:zaf) (ht:PsOk 40000 t.parts) (hk:Lb t.k.abs) (lk:t.k.abs.length<=40000):Fn eQ 52 [] [(vT t)] (vd (za2 t).d) []:=by
 have ln:=ht.1;refine fB Tryz.func52 rfl 74 fun w H B a h=>Jq 5 [] [(1,vp 5 0),(2,vp 6 0)] [(5,.box (zT t)),(6,.box zT0)] h fun a w h=>Jg 7 [(2,.call (SClone t.parts (by omega)))] [] [(3,vO 0 t.parts.length)] [] [(0,.row 124 3 (t.parts.map e8))] h fun a w h=>Jg 7 [(1,.call (zj0 t.parts (by omega)))] [] [] [] [(0,.row 124 3 ((ssV za4.v t.parts).map e8))] h fun a w h=>?_
 obtain ⟨r3,er3,vr3,or3,lr3⟩:=mkZ (v:=t.k.val) (m:=t.k.abs.length) (zdd hk);refine Jg 7 [(2,.call (Fn.cast (zg6 t.k hk (by omega)) (yJ vz er3.symm)))] [1] [(4,vp 7 0)] [5] [(7,.box ([nCl]++zi r3))] h fun a w h=>qW ?_;replace h:=zjj 7 0 8 3 124 ([nCl]++zi r3) h;refine Je 9 [] [3] [(17,vO 0 t.parts.length),(18,vN t.parts.length),(19,vI 0)] h fun a w h=>qZ ?_
 refine zbw (ι:=(Nat) × (List za4)) (fun (j,out)=>out=(zii ((ssV za4.v t.parts).take j))/\j<=(ssV za4.v t.parts).length/\out.length<=j/\MOk 40000 j out)
   [] (fun (j,out)=>[(19,vN j)])
   [] (fun (j,out)=>[(7,.box ([.own 8 out.length]++zi r3)),(8,.row 124 3 (out.map e8))])
   (fun (j,out)=>(ssV za4.v t.parts).length - j) (0,[]) ?_ h ?_
 ·exact ⟨by simp [zii],bK _,bK _,fun q hq=>(by cases hq)⟩
 clear h;rintro ⟨j,out⟩ a w hI h;dsimp only at h;obtain ⟨hI1,hI2,hI3,hI4⟩:=hI;have ln:=ht.1;have ls:(ssV za4.v t.parts).length=t.parts.length:=zb7 _;refine Je 9 [] [] [(20,vb (decide ((j:Int)<(t.parts.length:Int))))] h fun a w h=>qW (zad ((j:Int)<(t.parts.length:Int)) h (fun hc1 hc1'=>?_) (fun hc6 hc6'=>?_))
 ·refine qU (za1 (qW (qZ ?_)));obtain ⟨x4,hx4⟩:=gl (ssV za4.v t.parts) j;obtain ⟨ox4,lx4⟩:=ht.get_mem (zdl (lM hx4));refine Jg 9 [(0,.g (xO 21 17 0 t.parts.length j zcl (eS 19 _))),(1,.g (eX (d:=22) (t:=21) (n:=0) (i:=j) (fo:=0) (rty:=124) (es:=3) (xs:=[.raw (.int .i64 x4.v),.raw (.bool x4.c.neg),nsl x4.c.abs]) zhw rfl (za7 hx4 (f:=e8)) rfl rfl))] [20] [(6,vp 9 0)] [] [(9,.box ([cI x4.v]++zi x4.c))] h fun a w h=>qW (Je 10 [] [] [(25,vb (decide (x4.v<0)))] h fun a w h=>zad (x4.v<0) h (fun hc2 hc2'=>?_) (fun hc3 hc3'=>?_))
  ·refine wp_exit (zcb (zaz (za1 (Jh 10 [(0,.j1 j)] [6,25] [(19,vI ((j:Int)+1))] [9] [] h fun a w h=>za1 ?_))));have hst:(zii ((ssV za4.v t.parts).take (j+1)))=zb8 out x4:=by rw [hI1,show ((ssV za4.v t.parts).take (j+1):List za4)=(ssV za4.v t.parts).take j++[x4] from by rw [bV,hx4];rfl,zch]
   have hst2:=mrg_neg (out:=out) hc2';refine zaa (x:=(j,out)) (y:=((j+1),out)) h ?_ ?_
   ·exact ⟨by rw [hst,hst2],(by have:=zab hx4;omega),by omega,by have hh:=hI4.step (ht.get_mem (zdl (lM hx4)));rw [hst2] at hh;exact hh⟩
   show (ssV za4.v t.parts).length - (j+1)<(ssV za4.v t.parts).length - j;have:=zab hx4;omega
  refine qU (za1 ?_)
  rcases cD out.length with hz | hz
  ·refine Je 10 [(3,.g (eV (op:=.sub) (d:=29) (xt:=3) (yt:=3) (k:=.i64) (m:=(out.length:Int)) (n:=1) (r:=(-1)) (eS 28 _) (eR (.int .i64 1) rfl) (.inr (.inl ⟨rfl,(by omega)⟩)) i6))] [25] [(7,vI (-1))] h fun a w h=>Je 10 [(1,.cmp (op:=.geq) (m:=(-1)) (n:=0) (b:=false) .i64 rfl)] [] [(42,vb false)] h fun a w h=>zau h ?_;obtain ⟨r5,er5,vr5,or5,lr5⟩:=mkZ (v:=x4.c.val) (m:=x4.c.abs.length) (zdd ox4);refine Jh 10 [(6,.call (Fn.cast (zg6 x4.c ox4 (by omega)) (yJ vz er5.symm))),(8,.g (bD 65 ([(za4.mk x4.v r5)].map e8) [(64,vG ([cI x4.v]++zi r5))] tb_9 (.cons (i:=0) (eS 64 _) (.nil)) (by kernel_rfl) (by simp [e8]))),(9,.g (aD 66 58 65 8 10 out [(za4.mk x4.v r5)] e8 zld (by simp [e8])))] [6,7,42] [] [8,9] [(7,.box ([.own 10 (out++[(za4.mk x4.v r5)]).length]++zi r3)),(10,.row 124 3 ((out++[(za4.mk x4.v r5)]).map e8))] h fun a w h=>za6 (za1 (Jf 11 [(0,.j1 j)] [] [(19,vI ((j:Int)+1))] h fun a w h=>za1 ?_));have hst:(zii ((ssV za4.v t.parts).take (j+1)))=zb8 out x4:=by rw [hI1,show ((ssV za4.v t.parts).take (j+1):List za4)=(ssV za4.v t.parts).take j++[x4] from by rw [bV,hx4];rfl,zch]
   have hst2:=mrg_nil hc3' hz;replace h:=zd7 10 8 h;refine zaa (x:=(j,out)) (y:=((j+1),(out++[(za4.mk x4.v r5)]))) h ?_ ?_
   ·have hnew:(out++[(za4.mk x4.v r5)])=zb8 out x4:=by rw [hst2,er5]
    exact ⟨by rw [hst];exact hnew,(by have:=zab hx4;omega),by rw [bC];simp only [b7,b5];omega,by rw [hnew];exact hI4.step (ht.get_mem (zdl (lM hx4)))⟩
   show (ssV za4.v t.parts).length - (j+1)<(ssV za4.v t.parts).length - j;have:=zab hx4;omega
  obtain ⟨k,hk1⟩:∃ k,out.length=k+1:=⟨out.length - 1,by omega⟩;refine Je 11 [(3,.g (eV (op:=.sub) (d:=29) (xt:=3) (yt:=3) (k:=.i64) (m:=(out.length:Int)) (n:=1) (r:=(k:Int)) (eS 28 _) (eR (.int .i64 1) rfl) (.inr (.inl ⟨rfl,(by omega)⟩)) i6))] [25] [(7,vN k)] h fun a w h=>?_;obtain ⟨x6,hx6⟩:=gl out k;obtain ⟨ox6,lx6⟩:=hI4.lb (lM hx6) (by omega);refine Je 11 [(1,.cmp (op:=.geq) (m:=(k:Int)) (n:=0) (b:=true) .i64 (show decide ((k:Int)>=0)=true from yQ (by omega))),(6,.g (xO 36 34 8 out.length k zcl (eS 35 _))),(8,.g (Op.loadR_c (d:=38) (t:=37) (n:=8) (i:=k) (fo:=0) (rty:=124) (es:=3) (x:=(.raw (.int .i64 x6.v))) tl_7 rfl (za7 hx6 (f:=e8)) rfl))] [] [(42,vb (x6.v == x4.v))] h fun a w h=>cS (x6.v == x4.v) h (fun hc4=>?_) (fun hc5=>?_)
  ·obtain ⟨r7,er7,vr7,or7,lr7⟩:=mkZ (v:=x6.c.val+x4.c.val) (m:=x6.c.abs.length+x4.c.abs.length+1) (zep ox6 ox4);refine Jh 11 [(6,.g (xO 49 47 8 out.length k zcl (eS 48 _))),(8,.g (eX (d:=51) (t:=50) (n:=8) (i:=k) (fo:=1) (rty:=124) (es:=3) (xs:=[.raw (.bool x6.c.neg),nsl x6.c.abs]) zet rfl (za7 hx6 (f:=e8)) rfl rfl)),(11,.call (Fn.cast (SAdd x6.c x4.c ox6 ox4 (by omega) (by omega)) (yJ vz er7.symm))),(12,.g (xO 55 44 8 out.length k zcl (eS 45 _))),(14,.g (eZ (t:=56) (n:=8) (i:=k) (fo:=1) (rty:=124) (es:=3) (r:=e8 x6) (ds:=[.raw (.bool r7.neg),nsl r7.abs]) (rs:=[(54,vz r7)]) (rows:=out.map e8) (rows':=(out.set k (za4.mk x6.v r7)).map e8) zet (eS 54 _) rfl rfl rfl (za7 hx6 (f:=e8)) (by simp [e8]) (zc0 (xs:=out) (F:=e8) k _ _ rfl)))] [6,7,42] [] [9] [(8,.row 124 3 ((out.set k (za4.mk x6.v r7)).map e8))] h fun a w h=>za6 (za1 (Jf 11 [(0,.j1 j)] [] [(19,vI ((j:Int)+1))] h fun a w h=>za1 ?_));have hst:(zii ((ssV za4.v t.parts).take (j+1)))=zb8 out x4:=by rw [hI1,show ((ssV za4.v t.parts).take (j+1):List za4)=(ssV za4.v t.parts).take j++[x4] from by rw [bV,hx4];rfl,zch]
   replace h:=cvM [] [] [] [(7,.box ([.own 8 (out.set k (za4.mk x6.v r7)).length]++zi r3))] (by rw [bW]; try kernel_rfl) h;have hst2:=zjk hc3' hk1 hx6 (by simpa using hc4);refine zaa (x:=(j,out)) (y:=((j+1),(out.set k (za4.mk x6.v r7)))) h ?_ ?_
   ·have hnew:(out.set k (za4.mk x6.v r7))=zb8 out x4:=by rw [hst2,er7]
    exact ⟨by rw [hst];exact hnew,(by have:=zab hx4;omega),by rw [bW];omega,by rw [hnew];exact hI4.step (ht.get_mem (zdl (lM hx4)))⟩
   show (ssV za4.v t.parts).length - (j+1)<(ssV za4.v t.parts).length - j;have:=zab hx4;omega
  obtain ⟨r8,er8,vr8,or8,lr8⟩:=mkZ (v:=x4.c.val) (m:=x4.c.abs.length) (zdd ox4);refine Jh 11 [(6,.call (Fn.cast (zg6 x4.c ox4 (by omega)) (yJ vz er8.symm))),(8,.g (bD 65 ([(za4.mk x4.v r8)].map e8) [(64,vG ([cI x4.v]++zi r8))] tb_9 (.cons (i:=0) (eS 64 _) (.nil)) (by kernel_rfl) (by simp [e8]))),(9,.g (aD 66 58 65 8 11 out [(za4.mk x4.v r8)] e8 zld (by simp [e8])))] [6,7,42] [] [8,9] [(7,.box ([.own 11 (out++[(za4.mk x4.v r8)]).length]++zi r3)),(11,.row 124 3 ((out++[(za4.mk x4.v r8)]).map e8))] h fun a w h=>za6 (za1 (Jf 12 [(0,.j1 j)] [] [(19,vI ((j:Int)+1))] h fun a w h=>za1 ?_));have hst:(zii ((ssV za4.v t.parts).take (j+1)))=zb8 out x4:=by rw [hI1,show ((ssV za4.v t.parts).take (j+1):List za4)=(ssV za4.v t.parts).take j++[x4] from by rw [bV,hx4];rfl,zch]
  have hst2:=mrg_new hc3' hk1 hx6 (by simpa using hc5);replace h:=zd7 11 8 h;refine zaa (x:=(j,out)) (y:=((j+1),(out++[(za4.mk x4.v r8)]))) h ?_ ?_
  ·have hnew:(out++[(za4.mk x4.v r8)])=zb8 out x4:=by rw [hst2,er8]
   exact ⟨by rw [hst];exact hnew,(by have:=zab hx4;omega),by rw [bC];simp only [b7,b5];omega,by rw [hnew];exact hI4.step (ht.get_mem (zdl (lM hx4)))⟩
  show (ssV za4.v t.parts).length - (j+1)<(ssV za4.v t.parts).length - j;have:=zab hx4;omega
 refine exA ?_;replace h:=atS (sl':=[(2,vp 6 0),(4,vp 7 0)]) (lc':=[(6,.box zT0),(7,.box ([.own 8 out.length]++zi r3)),(8,.row 124 3 (out.map e8))]) h;replace h:=zd7 8 0 h;refine Jg 12 [(2,.call (SDeleteFZ isZ out (fun p hp=>SPlain2 p (hI4.lb hp (by omega)).1 (by have:=(hI4.lb hp (by omega)).2;omega)) (by omega)))] [] [] [] [(7,.box ([.own 0 (out.filter (fun p=>!isZ p)).length]++zi r3)),(0,.row 124 3 ((out.filter (fun p=>!isZ p)).map e8))] h fun a w h=>Jg 12 [] [4] [] [7] [(6,.box ([.own 0 (out.filter (fun p=>!isZ p)).length]++zi r3))] h fun a w h=>qV ?_;replace h:=zj2 0 3 124 ((out.filter (fun p=>!isZ p)).map e8) h [(out.filter (fun p=>!isZ p)).length] ⟨by first | exact (bI _).symm | simp,trivial⟩;refine rA 6 ([cPs (out.filter (fun p=>!isZ p))]++zi r3) h zh7 rfl ?_;have hj:j=(ssV za4.v t.parts).length:=by omega
 subst hj;rw [hI1,cC,plain_law,er3];try rfl
theorem zen (t:zaf) {L:Nat} (h:TOk n L t) (hn:n<=1000000000) (hL:L<=40000):Fn eQ 52 [] [vd t.d] (vd (za2 t).d) [] :=
 have h':=h.mono hn hL
 SPlain0 t h'.psok h'.kb h'.kl
section
variable {P:Program}
theorem Op.capR {d:Nat} {x:Operand} {c:Nat} {t:TypeId} {pos af gd} (hu:P.underlying t=some (.slice el)) (h:OV x (.t (.c (.d (.raw (.slice ao n c))))) rs) :
  zbe P ⟨some d,.call { callee:=.builtin .cap,args:=#[x],argTypes:=#[t] }, ty,pos,af,gd⟩ { rs:=rs,ws:=[(d,some (vi .i64 (c:Int)))] } :=
 zbe.value d _ rfl rfl rfl fun e f H B a w hok hr2=>by
  have h2:=(h.eval hok fun p hp=>hr2.1 p hp).rawI
  refine ⟨goInt c,?_,DR.raw _ rfl⟩
  generalize a.eval=ρ at h2 ⊢
  have e1:(Array.map ρ #[x])=#[ρ x]:=by simp
  simp [execOp,resolve,e1,h2,invoke,builtin,Builtin.cap_,run_underlying hu]
theorem Op.sliceR0 {d:Nat} {x:Operand} {k:IntKind} {pos af gd} (hs:SlT P xt el es) (hx:OV x (.t (.c (.d (.raw zam)))) rs) (hy:OV y (vi k (0:Nat)) rs') :
  zbe P ⟨some d,.slice xt x none (some y) none,ty,pos,af,gd⟩ { rs:=rs++rs', ws:=[(d,some (.t (.c (.d (.raw zam)))))] } :=
 zbe.value d _ rfl rfl rfl fun e f H B a w hok hr2=>by
  have hv:a.eval x=zam:=(hx.eval hok fun p hp=>hr2.1 p (by simp [hp])).rawI
  have hb:=zhy (P:=P) (is:=true) (lo:=none) (hi:=some y) (len:=0) (cap:=0) (BO.no 0) (BO.yes 0 hy) hok (fun p hp=>by cases hp) (fun p hp=>hr2.1 p (by simp [hp])) (bK _) (bL _)
  have hrun:=zga (ao:=none) hs hb
  refine ⟨zam,?_,DR.raw _ rfl⟩
  generalize a.eval=ρ at hv hrun ⊢
  have hrun':(Instr.sliceAt xt (ρ x) ((none:Option Operand).map ρ) ((some y).map ρ) ((none:Option Operand).map ρ)).run P w = .ok zam w:=by rw [hv];simpa [zam] using hrun
  simp only [execOp,Sem.run_bind,hrun', Result.andThen_ok,Sem.run_pure]
theorem run_app_make {it:TypeId} {i:TypeInfo} {z:Value} (hu:P.underlying xt=some (.slice el)) (hi:P.underlying it=some (.int .i64)) (hI:P.info? el=some i) (hz:i.zero=some z) (hs:i.size≠0) {L:Nat} (hL0:0<L) (hL:L<=4294967296) (hb:L*i.bytes<=140737488355328) (w:World) :
  (Builtin.append_ #[xt,it] ty #[zam,.int .i64 (L:Int)]).run P w = .ok (.slice (some ⟨w.heap.size,0,none⟩) L (grownCap w L 0 el)) (w.drew.alloc (.cells (Builtin.zeroCells z.cells L++Builtin.zeroCells z.cells (grownCap w L 0 el - L)) el)):=by
 have wl:IntKind.i64.wrap (L:Int)=(L:Int):=by rw [IntKind.wrap_i64];omega
 have c1:¬ ((L:Int)<0):=by omega
 have c2:¬ (281474976710656<(L:Int)*(i.bytes:Int)):=by
  have:((L*i.bytes:Nat):Int)=(L:Int)*(i.bytes:Int):=dP _ _
  omega
 have c4:¬ (9223372036854775807<(L:Int)):=by omega
 have c5:¬ (281474976710656<Builtin.nextslicecap L 0*i.bytes):=by
  have:=growslice_fits (need:=L) (old:=0) (bytes:=i.bytes) (by omega) hb
  omega
 have hL1:L≠0:=by omega
 have hL2:L*i.size≠0:=Nat.mul_ne_zero hL1 hs
 simp [Builtin.append_,zam,run_underlying hu,run_underlying hi,sizeOf,typeInfo,zeroValue,hI,hz,hL2,asInt,asIntOf,wl,c1,c2,c4,c5,hL1,Question.forced,run_firstCells_none,newRow,grownCap]
theorem Op.appNM {d t u bs L:Nat} {it:TypeId} {pos af gd} (hT:ElT P xt el es bs) (hi:P.underlying it=some (.int .i64)) (hL0:0<L) (hL:L<=1000000000) (hb:L*bs<=140737488355328) :
  zbe P ⟨some d,.call { callee:=.builtin .append,args:=#[.tmp t,.tmp u],argTypes:=#[xt,it] }, ty,pos,af,gd⟩
   { rs:=[(t,.t (.c (.d (.raw zam)))),(u,vi .i64 (L:Int))],ws:=[(d,some (.t (.c (.own n L))))],wl:=[(n,some (.row el es []))],nw:=[n] }:=by
 rintro e f a w Q ⟨H,B,hok⟩ hr hnw hb0
 have hnew:=hnw n (by simp)
 have h1:a.eval (.tmp t)=zam:=VR.rawI (hok.slot t _ (hr.1 (t,.t (.c (.d (.raw zam)))) (by simp)))
 have h2:a.eval (.tmp u) = .int .i64 (L:Int):=VR.rawI (hok.slot u _ (hr.1 (u,vi .i64 (L:Int)) (by simp)))
 obtain ⟨i,z,hI,hz,hsz,hby,hzs⟩:=hT.ex
 have hrun:=run_app_make (P:=P) (ty:=ty) hT.hu hi hI hz (by rw [hsz];exact Nat.pos_iff_ne_zero.1 hT.pos) hL0 (by omega) (by rw [hby];exact hb) w
 have hge:=grownCap_ge w L 0 el
 have hle:=grownCap_le_maxLen w L 0 el (by simp only [maxLen];omega)
 generalize grownCap w L 0 el=c at hrun hge hle
 have hok2:Ok e f H B a w.drew:=⟨hok.df,hok.n,⟨hok.ext.os,hok.ext.tape,hok.ext.output,hok.ext.size,hok.ext.block⟩,hok.sat,hok.slot,fun m l hm=>LR.mono (Le.refl _) rfl (fun _ _=>rfl) (fun _ _ _=>rfl) (hok.loc m l hm),hok.priv,hok.inj,hok.low,hok.le,hok.keep,hok.tab⟩
 have hlen:(Builtin.zeroCells z.cells L++Builtin.zeroCells z.cells (c - L)).toList.length=c*es:=by
  simp only [Builtin.zeroCells,eK,bC,Array.length_toList,Array.size_map,Array.size_range,hzs]
  rw [<- b6];congr 1;omega
 have hobj:(Builtin.zeroCells z.cells L++Builtin.zeroCells z.cells (c - L))=⟨(Builtin.zeroCells z.cells L++Builtin.zeroCells z.cells (c - L)).toList⟩:=by simp
 rw [hobj] at hrun
 generalize (Builtin.zeroCells z.cells L++Builtin.zeroCells z.cells (c - L)).toList=arr at hrun hlen
 have h3:Ok e ⟨f.s,fun m=>if m=n then some (.row el es []) else f.l m⟩ H (fun m=>if m=n then some (w.drew.heap.size,c) else B m) a (w.drew.alloc (.cells ⟨arr⟩ el)) :=
  hok2.new hnew (.cells ⟨arr⟩ el) c (.row el es []) (fun _=>rfl) (fun _=>rfl) (by
   simp only [LR,if_true]
   exact ⟨arr,heap_alloc_new w.drew _,hlen,bK _,hle,by simp,by simp [zbb]⟩)
 refine zj3 (d:=d) rfl ?_ ⟨H,_,h3.put (x:=some (.t (.c (.own n L)))) (hb0.1 (d,some (.t (.c (.own n L)))) (by simp)) (zjx f d _ _ rfl) (fun m=>?_) (v:=.slice (some ⟨w.heap.size,0,none⟩) L c) (fun y hy=>by injection hy with hy;subst hy;simp [VR,TR,CR])⟩
 ·generalize a.eval=ρ at h1 h2 ⊢
  have e1:(Array.map ρ #[.tmp t,.tmp u])=#[ρ (.tmp t),ρ (.tmp u)]:=by simp
  simp only [execOp,resolve,e1,h1,h2,Sem.run_bind,Sem.run_pure,Result.andThen_ok,invoke,builtin,hrun]
 ·simp only [F.app,List.lookup]
  by_cases e1:m=n
  ·simp [e1]
  ·have g1:(m == n)=false:=by simpa using e1
   simp [g1,e1]
end
theorem tm_2:SlT eQ 240 24 1:=SlT.mk' Tryz.underlying240 (by kernel_rfl)
theorem tm_4:ElZ eQ 240 24 1:=ElZ.mk' Tryz.underlying240 _ _ rfl rfl
theorem SGrow (n:Nat) (hn:n<=1000000000):Fn eQ 224 [] [vW zam,vN n] (vO 0 0) [(0,.row 124 3 ([].map e8))]:=by
 refine fB Tryz.func224 rfl 27 fun w H B a h=>Jq 1 [] [(0,vW zam),(1,vN n),(4,vW zam)] [] h fun a w h=>qW (Jg 1 [(1,.cmp (op:=.lss) (m:=(n:Int)) (n:=0) (b:=false) .i64 (show decide ((n:Int)<0)=false from yX (by omega)))] [] [(6,vb false)] [] [] h fun a w h=>zau h (qU (za1 (qW (Jg 1 [(2,.g (Op.capR (d:=10) (ao:=none) (n:=0) (c:=0) zcl.hu (eS 9 _))),(5,.g (eV (op:=.sub) (d:=13) (xt:=3) (yt:=3) (k:=.i64) (m:=0) (n:=0) (r:=0) (eS 10 _) (eS 12 _) (.inr (.inl ⟨rfl,rfl⟩)) i6)),(6,.g (eV (op:=.sub) (d:=14) (xt:=3) (yt:=3) (k:=.i64) (m:=(n:Int)) (n:=0) (r:=(n:Int)) (eS 8 _) (eS 13 _) (.inr (.inl ⟨rfl,(Int.sub_zero _).symm⟩)) i6))] [6] [] [] [] h fun a w h=>Jg 1 [] [] [(16,vb (decide ((n:Int)>0)))] [] [] h fun a w h=>zad ((n:Int)>0) h (fun hc1 hc1'=>?_) (fun hc2 hc2'=>?_))))))
 ·refine Jh 1 [(2,.g (Op.capR (d:=19) (ao:=none) (n:=0) (c:=0) zcl.hu (eS 18 _))),(3,.g (Op.sliceR0 (d:=20) (k:=.i64) zcl (eS 17 _) (eS 19 _))),(5,.g (Op.appNM (d:=22) (t:=20) (u:=21) (n:=1) (L:=n) zld Tryz.underlying3 (by omega) (by omega) (by omega))),(8,.g (Op.sliceHi (d:=25) (t:=22) (k:=.i64) (n:=1) (len:=n) (h:=0) (rows:=[].map e8) (rty:=124) zcl (by first | omega | (simp at *;omega)) (eS 24 _)))] [1,16] [(0,vO 1 0)] [] [(1,.row 124 3 ([].map e8))] h fun a w h=>za1 (Jp 2 [] [(4,vO 1 0)] h fun a w h=>qV ?_);replace h:=zd7 1 0 h;refine rT (.c (.own 0 0)) h rfl ?_;rfl
 refine qU (za1 (Jg 2 [] [0,1,16] [] [] [] h fun a w h=>qV ?_));replace h:=zfr 4 0 2 3 124 (vW zam) h;replace h:=zd7 2 0 h;refine rT (.c (.own 0 0)) h rfl ?_;rfl
theorem zgp (l:List Nat):∀ j,(l.take j).sum<=l.sum:=by
 induction l with
 | nil=>intro j;simp
 | cons x l ih =>
  intro j
  cases j with
  | zero=>simp
  | succ j=>simp only [List.take_succ_cons,d7];have:=ih j;omega
theorem flat_sum {α:Type} (l:List (List α)):l.flatten.length=(l.map List.length).sum:=List.length_flatten
theorem sum_mem {l:List Nat} {x:Nat} (h:x ∈ l):x<=l.sum:=by
 induction l with
 | nil=>cases h
 | cons y l ih =>
  rw [d7]
  rcases cQ.1 h with rfl | h
  ·omega
  ·have:=ih h;omega
theorem SConcat (xss:List (List za4)) (hl:(xss.map List.length).sum<=1000000000) (hn:xss.length<=1000000000):Fn eQ 220 [] [vS 1 (xss.map (slD 3 e8))] (vPs xss.flatten) []:=by
 refine fB Tryz.func220 rfl 36 fun w H B a h=>Jq 5 [] [(0,vS 1 (xss.map (slD 3 e8))),(2,vW zam)] [] h fun a w h=>Jg 5 [] [] [(3,vI 0)] [] [] h fun a w h=>qW (Jg 5 [(1,.len (c:=(.d (.sl 1 (xss.map (slD 3 e8))))) (n:=xss.length) (za3 _ _ _))] [] [(9,vS 1 (xss.map (slD 3 e8))),(10,vN xss.length),(11,vI 0)] [] [] h fun a w h=>qZ ?_)
 refine zbw (ι:=(Nat)) (fun j=>j<=xss.length)
   [] (fun j=>[(3,vI ((((xss.map List.length).take j).sum:Nat):Int)),(11,vN j)])
   [] (fun j=>[])
   (fun j=>xss.length - j) 0 ?_ h ?_
 ·exact bK _
 clear h;rintro j a w hI h;have hs1:=zgp (xss.map List.length) j;have hs2:=zgp (xss.map List.length) (j+1);refine Jg 5 [] [] [(12,vb (decide ((j:Int)<(xss.length:Int))))] [] [] h fun a w h=>qW (zad ((j:Int)<(xss.length:Int)) h (fun hc1 hc1'=>?_) (fun hc2 hc2'=>?_))
 ·refine qU (za1 (qW (qZ ?_)));obtain ⟨x1,hx1⟩:=gl xss j
  have hsx:x1.length<=(xss.map List.length).sum:=by
   have:=sum_mem (List.mem_map_of_mem (f:=List.length) (lM hx1));omega
  refine Jg 5 [(0,.g (xD 13 9 tm_2 (za7 hx1 (f:=(slD 3 e8))) (eS 11 _)))] [12] [(5,(vPs x1))] [] [] h fun a w h=>Jg 5 [(2,.len (za3 3 e8 x1)),(3,.g (eV (op:=.add) (d:=18) (xt:=3) (yt:=3) (k:=.i64) (m:=((((xss.map List.length).take j).sum:Nat):Int)) (n:=(x1.length:Int)) (r:=((((xss.map List.length).take (j+1)).sum:Nat):Int)) (eS 15 _) (eS 17 _) (.inl ⟨rfl,(by rw [bV,d8,hx1];simp)⟩) i6))] [5] [(3,vI ((((xss.map List.length).take (j+1)).sum:Nat):Int))] [] [] h fun a w h=>?_;refine Jg 5 [(1,.cmp (op:=.lss) (m:=((((xss.map List.length).take (j+1)).sum:Nat):Int)) (n:=0) (b:=false) .i64 (show decide (((((xss.map List.length).take (j+1)).sum:Nat):Int)<0)=false from yX (by omega)))] [] [(20,vb false)] [] [] h fun a w h=>zau h (qU (za6 (za1 (Jh 5 [(0,.j1 j)] [20] [(11,vI ((j:Int)+1))] [] [] h fun a w h=>za1 (zaa (x:=j) (y:=(j+1)) h ?_ ?_)))))
  ·have:=zab hx1;omega
  show xss.length - (j+1)<xss.length - j;have:=zab hx1;omega
 refine exA ?_;have hj:j=xss.length:=by omega
 refine Jg 5 [(1,.call (SGrow ((xss.map List.length).take j).sum (by omega)))] [3,9,10,11,12] [(6,vO 0 0)] [] [(0,.row 124 3 ([].map e8))] h fun a w h=>qW (Je 5 [(1,.len (c:=(.d (.sl 1 (xss.map (slD 3 e8))))) (n:=xss.length) (za3 _ _ _))] [0] [(25,vS 1 (xss.map (slD 3 e8))),(26,vN xss.length),(27,vI 0)] h fun a w h=>qZ ?_)
 refine zbw (ι:=(Nat)) (fun i=>i<=xss.length)
   [] (fun i=>[(6,vO 0 ((xss.take i).flatten).length),(27,vN i)])
   [] (fun i=>[(0,.row 124 3 (((xss.take i).flatten).map e8))])
   (fun i=>xss.length - i) 0 ?_ h ?_
 ·exact bK _
 clear h;rintro i a w hI h;have hs1:=zgp (xss.map List.length) i;have hs2:=zgp (xss.map List.length) (i+1);have hf1:((xss.take i).flatten).length=((xss.map List.length).take i).sum:=by rw [flat_sum,d9]
 have hf2:((xss.take (i+1)).flatten).length=((xss.map List.length).take (i+1)).sum:=by rw [flat_sum,d9]
 refine Je 5 [] [] [(28,vb (decide ((i:Int)<(xss.length:Int))))] h fun a w h=>qW (zad ((i:Int)<(xss.length:Int)) h (fun hc3 hc3'=>?_) (fun hc4 hc4'=>?_))
 ·refine qU (za1 (qW (qZ ?_)));obtain ⟨x3,hx3⟩:=gl xss i
  have hsx:x3.length<=(xss.map List.length).sum:=by
   have:=sum_mem (List.mem_map_of_mem (f:=List.length) (lM hx3));omega
  refine Je 5 [(0,.g (xD 29 25 tm_2 (za7 hx3 (f:=(slD 3 e8))) (eS 27 _)))] [28] [(8,(vPs x3))] h fun a w h=>Jh 5 [(2,.g (aD 33 31 32 0 5 ((xss.take i).flatten) x3 e8 zld (by simp [e8])))] [8] [(6,vO 5 (((xss.take i).flatten)++x3).length)] [0] [(5,.row 124 3 ((((xss.take i).flatten)++x3).map e8))] h fun a w h=>za6 (za1 (Jf 6 [(0,.j1 i)] [] [(27,vI ((i:Int)+1))] h fun a w h=>za1 ?_));have hnw:(((xss.take i).flatten)++x3)=((xss.take (i+1)).flatten):=by rw [bV,hx3];simp
  replace h:=cvM [] [(6,vO 5 ((xss.take (i+1)).flatten).length)] [] [(5,.row 124 3 (((xss.take (i+1)).flatten).map e8))] (by rw [hnw]; try kernel_rfl) h;replace h:=zd7 5 0 h;refine zaa (x:=i) (y:=(i+1)) h ?_ ?_
  ·have:=zab hx3;omega
  show xss.length - (i+1)<xss.length - i;have:=zab hx3;omega
 refine exA (Jp 6 [] [(2,vO 0 ((xss.take i).flatten).length)] h fun a w h=>qV ?_);replace h:=zj2 0 3 124 (((xss.take i).flatten).map e8) h [((xss.take i).flatten).length] ⟨by first | exact (bI _).symm | simp,trivial⟩;refine rT (.c (cPs ((xss.take i).flatten))) h rfl ?_;have hi:i=xss.length:=by omega
 subst hi;rw [cC];try rfl
theorem STAddG (s t:zaf) {L:Nat} (hs:TOk n L s) (ht:TOk m L t) (hnm:n+m<=1000000000) (hL:L<=15000):Fn eQ 208 [] [(vT s),(vT t)] (vd (zkx s t).d) []:=by
 have ks:=hs.kl;have kt:=ht.kl;have ls:=hs.len;have lt:=ht.len;refine fB Tryz.func208 rfl 18 fun w H B a h=>Jq 0 [] [(2,vp 0 0),(3,vp 1 0),(4,vp 2 0)] [(0,.box (zT s)),(1,.box (zT t)),(2,.box zT0)] h fun a w h=>?_
 obtain ⟨r2,er2,vr2,or2,lr2⟩:=mkZ (v:=s.k.val+t.k.val) (m:=s.k.abs.length+t.k.abs.length+1) (zep hs.kb ht.kb);refine Jq 3 [(4,.g (Op.buildD (d:=9) (len:=2) (rows:=[s.parts,t.parts].map (slD 3 e8)) (rs:=[(6,(vPs s.parts)),(8,(vPs t.parts))]) tm_4 (.cons (i:=0) (eS 6 _) (.cons (i:=1) (eS 8 _) (.nil))) (by kernel_rfl) rfl (by simp [slD]) (by decide) (by decide))),(5,.call (Fn.cast (SConcat [s.parts,t.parts] (by simp only [d5,List.map_nil,d7,List.sum_nil];omega) (by simp)) (show _=((vPs (s.parts++t.parts)):V) by simp))),(10,.call (Fn.cast (SAdd s.k t.k hs.kb ht.kb (by omega) (by omega)) (yJ vz er2.symm))),(12,.call (zen (zaf.mk (s.parts++t.parts) r2) (TOk.add hs ht r2 or2 (by have:=hs.kl;have:=ht.kl;omega)) (by omega) (by omega)))] [(4,vp 2 0)] [(2,.box (zT (za2 (zaf.mk (s.parts++t.parts) r2))))] h fun a w h=>qV (rA 2 (zT (za2 (zaf.mk (s.parts++t.parts) r2))) h zh7 rfl ?_);rw [er2];try rfl
theorem STAdd (s t:zaf) (hs:TOk 400000000 15000 s) (ht:TOk 400000000 15000 t):Fn eQ 208 [] [(vT s),(vT t)] (vd (zkx s t).d) []:=STAddG s t hs ht (by decide) (by decide)
theorem zhq (k:ZI) (hk:Lb k.abs) (lk:k.abs.length<=40000):Fn eQ 155 [] [vz k] (vd (zcu k).d) []:=by
 refine fB Tryz.func155 rfl 6 fun w H B a h=>Jq 0 [] [(1,vp 0 0),(2,vp 1 0)] [(0,.box (zi k)),(1,.box zT0)] h fun a w h=>?_
 obtain ⟨r1,er1,vr1,or1,lr1⟩:=mkZ (v:=k.val) (m:=k.abs.length) (zdd hk);refine Jd 2 [(1,.call (Fn.cast (zg6 k hk (by omega)) (yJ vz er1.symm)))] [1] [] [(1,.box ([nCl]++zi r1))] h fun a w h=>qV ?_;replace h:=zbs 1 0 3 ([nCl]++zi r1) h;refine rA 1 ([cPs []]++zi r1) h zh7 rfl ?_;rw [er1];try rfl
theorem SVar (v:Int) :Fn eQ 188 [] [vI v] (vd (zh3 v).d) []:=by
 refine fB Tryz.func188 rfl 9 fun w H B a h=>Jq 0 [] [(0,vI v),(2,vp 0 0)] [(0,.box zT0)] h fun a w h=>?_
 obtain ⟨r1,er1,vr1,or1,lr1⟩:=mkZ (v:=1) (m:=2) (ZI.len_of (by have:=pw2;omega));refine Jd 1 [(1,.call (Fn.cast (SOf 1 ⟨by omega,by omega⟩) (yJ vz er1.symm))),(3,.g (bD 6 ([(za4.mk v r1)].map e8) [(5,vG ([cI v]++zi r1))] tb_9 (.cons (i:=0) (eS 5 _) (.nil)) (by kernel_rfl) (by simp [e8]))),(5,.call ((show Fn _ _ _ [vd (zaf.mk [za4.mk v r1] ⟨false,[]⟩).d] _ _ from by rw [er1];exact zen (oneT v) TOk.one (by decide) (by decide))))] [0] [] [(0,.box (zT (zh3 v)))] h fun a w h=>qV (rA 0 (zT (zh3 v)) h zh7 rfl ?_);rfl
theorem SScale (t:zaf) (q:ZI) {L:Nat} (ht:TOk n L t) (hn:n<=1000000000) (hq:Lb q.abs) (lq:q.abs.length<=M) (hL:L+M<=40000):Fn eQ 173 [] [(vT t),vz q] (vd (zbi t q).d) []:=by
 have kt:=ht.kl;have nt:=ht.len;refine fB Tryz.func173 rfl 35 fun w H B a h=>Jq 0 [] [(2,vp 0 0),(3,vp 1 0),(4,vp 2 0)] [(0,.box (zT t)),(1,.box (zi q)),(2,.box zT0)] h fun a w h=>?_
 obtain ⟨r1,er1,vr1,or1,lr1⟩:=mkZ (v:=t.k.val*q.val) (m:=t.k.abs.length+q.abs.length) (len_mul ht.kb hq);refine Jg 3 [(3,.call (Fn.cast (SMul t.k q ht.kb hq (by omega) (by omega)) (yJ vz er1.symm)))] [] [(5,vp 3 0)] [] [(3,.box ([nCl]++zi r1))] h fun a w h=>qW ?_;replace h:=zjj 3 0 4 3 124 ([nCl]++zi r1) h;refine Jg 5 [(2,.len (za3 3 e8 t.parts))] [2] [(14,(vPs t.parts)),(15,vN t.parts.length),(16,vI 0)] [0] [] h fun a w h=>qZ ?_
 refine zbw (ι:=(Nat) × (List za4)) (fun (j,out)=>out=(t.parts.take j).map (fun p=>za4.mk p.v (e6 (p.c.val*q.val)))/\j<=t.parts.length/\out.length<=j)
   [] (fun (j,out)=>[(16,vN j)])
   [] (fun (j,out)=>[(3,.box ([.own 4 out.length]++zi r1)),(4,.row 124 3 (out.map e8))])
   (fun (j,out)=>t.parts.length - j) (0,[]) ?_ h ?_
 ·exact ⟨by simp,bK _,bK _⟩
 clear h;rintro ⟨j,out⟩ a w hI h;dsimp only at h;obtain ⟨hI1,hI2,hI3⟩:=hI;refine Je 5 [] [] [(17,vb (decide ((j:Int)<(t.parts.length:Int))))] h fun a w h=>qW (zad ((j:Int)<(t.parts.length:Int)) h (fun hc1 hc1'=>?_) (fun hc2 hc2'=>?_))
 ·refine qU (za1 (qW (qZ ?_)));obtain ⟨x2,hx2⟩:=gl t.parts j;obtain ⟨ox2,lx2⟩:=ht.get hx2;refine Jg 5 [(0,.g (xD 18 14 zcl (za7 hx2 (f:=e8)) (eS 16 _)))] [17] [(7,vp 5 0)] [] [(5,.box ([cI x2.v]++zi x2.c))] h fun a w h=>?_;obtain ⟨r3,er3,vr3,or3,lr3⟩:=mkZ (v:=x2.c.val*q.val) (m:=x2.c.abs.length+q.abs.length) (len_mul ox2 hq);refine Jh 6 [(7,.call (Fn.cast (SMul x2.c q ox2 hq (by omega) (by omega)) (yJ vz er3.symm))),(9,.g (bD 29 ([(za4.mk x2.v r3)].map e8) [(28,vG ([cI x2.v]++zi r3))] tb_9 (.cons (i:=0) (eS 28 _) (.nil)) (by kernel_rfl) (by simp [e8]))),(10,.g (aD 30 21 29 4 6 out [(za4.mk x2.v r3)] e8 zld (by simp [e8])))] [7] [] [4,5] [(3,.box ([.own 6 (out++[(za4.mk x2.v r3)]).length]++zi r1)),(6,.row 124 3 ((out++[(za4.mk x2.v r3)]).map e8))] h fun a w h=>za6 (za1 (Jf 7 [(0,.j1 j)] [] [(16,vI ((j:Int)+1))] h fun a w h=>za1 ?_));replace h:=zd7 6 4 h;refine zaa (x:=(j,out)) (y:=(j+1,(out++[(za4.mk x2.v r3)]))) h ?_ ?_
  ·refine ⟨?_,by have:=zab hx2;omega,by simp;omega⟩;rw [take_map hx2,<- hI1,er3]
  (try simp);omega
 refine exA ?_;have hj:j=t.parts.length:=by have:=hc2';omega
 rw [hj,cC] at hI1;have hq2:zaf.mk out r1=mulT t q:=by rw [hI1,er1];try rfl
 replace h:=zj2 4 3 124 (out.map e8) h [out.length] ⟨by first | exact (bI _).symm | simp,trivial⟩;refine Jq 7 [(1,.call ((show Fn _ _ _ [vd (zaf.mk out r1).d] _ _ from by rw [hq2];exact zen (mulT t q) (TOk.mul ht hq lq) (by omega) (by omega))))] [(4,vp 2 0)] [(2,.box (zT (zbi t q)))] h fun a w h=>qV (rA 2 (zT (zbi t q)) h zh7 rfl ?_);rfl
theorem SNeg3 (t:zaf) (ht:TOk 400000000 10000 t):Fn eQ 126 [] [(vT t)] (vd (negT t).d) []:=by
 refine fB Tryz.func126 rfl 6 fun w H B a h=>Jq 0 [] [(1,vp 0 0),(2,vp 1 0)] [(0,.box (zT t)),(1,.box zT0)] h fun a w h=>?_
 obtain ⟨r1,er1,vr1,or1,lr1⟩:=mkZ (v:=(-1)) (m:=2) (ZI.len_of (by have:=pw2;omega));refine Jd 2 [(1,.call (Fn.cast (SOf (-1) ⟨by omega,by omega⟩) (yJ vz er1.symm))),(2,.call (SScale t r1 ht (by decide) or1 lr1 (by decide)))] [1] [] [(1,.box (zT (zbi t r1)))] h fun a w h=>qV (rA 1 (zT (zbi t r1)) h zh7 rfl ?_);rw [er1];try rfl
theorem STSub (s t:zaf) (hs:TOk 400000000 10000 s) (ht:TOk 400000000 10000 t):Fn eQ 190 [] [(vT s),(vT t)] (vd (subT s t).d) []:=by
 refine fB Tryz.func190 rfl 9 fun w H B a h=>Jq 0 [] [(2,vp 0 0),(3,vp 1 0),(4,vp 2 0)] [(0,.box (zT s)),(1,.box (zT t)),(2,.box zT0)] h fun a w h=>Jq 3 [(2,.call (SNeg3 t (ht.mono (by decide) (by decide)))),(3,.call (STAdd s (negT t) (hs.mono (by decide) (by decide)) (((TOk.mul ht (ZI.lb_of _) (show (e6 (-1)).abs.length<=2 from by decide)).plain (by decide)).mono (by decide) (by decide))))] [(4,vp 2 0)] [(2,.box (zT (zkx s (negT t))))] h fun a w h=>qV (rA 2 (zT (zkx s (negT t))) h zh7 rfl ?_)
 rfl
theorem tn_7:SlT eQ 168 30 3:=SlT.mk' Tryz.underlying168 (by kernel_rfl)
theorem plainT_eq {u:zaf} (h1:SR u.parts) (h2:∀ q ∈ u.parts,0<=q.v/\q.c=e6 q.c.val/\q.c.val≠0) (h3:∀ v,zah t.parts v=zah u.parts v) (h4:u.k=e6 t.k.val):za2 t=u:=by
 obtain ⟨v1,v2⟩:=varsZ_ok t.parts
 have hp:(ze7 t.parts).map (zge t.parts)=u.parts:=by
  refine SR.unique (d6.2 v1) h1 (fun q hq=>?_) h2 fun v=>?_
  ·obtain ⟨v,hv,rfl⟩:=cX.1 hq
   have hv:=(v2 v).1 hv
   exact ⟨(zcr hv).1,by simp [zge,e7],by simpa [zge,e7] using hv⟩
  ·rw [<- h3 v]
   by_cases hv:0<=v
   ·rw [zjt t.parts v hv v1]
    by_cases h:v ∈ ze7 t.parts
    ·rw [if_pos h]
    ·rw [if_neg h];exact (Classical.byContradiction fun e=>h ((v2 v).2 fun e2=>e e2.symm))
   ·have z1:zah t.parts v=0:=Classical.byContradiction fun e=>hv (zcr e).1
    have z2:zah ((ze7 t.parts).map (zge t.parts)) v=0:=Classical.byContradiction fun e=>hv (zcr e).1
    rw [z1,z2]
 cases u with
 | mk ps k =>
  simp only at hp h4
  unfold za2
  rw [h4,<- hp];rfl
theorem zay (t:zaf):SR (za2 t).parts/\(∀ q ∈ (za2 t).parts,0<=q.v/\q.c=e6 q.c.val/\q.c.val≠0)/\∀ v,zah (za2 t).parts v=zah t.parts v:=by
 obtain ⟨v1,v2⟩:=varsZ_ok t.parts
 refine ⟨d6.2 v1,fun q hq=>?_,fun v=>?_⟩
 ·obtain ⟨v,hv,rfl⟩:=cX.1 hq
  have hv:=(v2 v).1 hv
  exact ⟨(zcr hv).1,by simp [e7],by simpa [e7] using hv⟩
 ·show zah ((ze7 t.parts).map (zge t.parts)) v=_
  by_cases hv:0<=v
  ·rw [zjt t.parts v hv v1]
   by_cases h:v ∈ ze7 t.parts
   ·rw [if_pos h]
   ·rw [if_neg h];exact (Classical.byContradiction fun e=>h ((v2 v).2 fun e2=>e e2.symm))
  ·have z1:zah t.parts v=0:=Classical.byContradiction fun e=>hv (zcr e).1
   have z2:zah ((ze7 t.parts).map (zge t.parts)) v=0:=Classical.byContradiction fun e=>hv (zcr e).1
   rw [z1,z2]
theorem zby (t:zaf):za2 (za2 t)=za2 t:=by
 obtain ⟨h1,h2,h3⟩:=zay t
 refine plainT_eq h1 h2 (fun v=>rfl) ?_
 simp [za2,e7]
theorem plain_num (k:ZI):za2 (zcu k)=zcu k:=by simp [za2,zcu,ze7,e7]
def Few1 (t:zaf):Prop:=t.parts.length<=30/\t.k.abs.length<=20/\∀ p ∈ t.parts,p.c.abs.length<=20
theorem zkr {l:List za4} (hs:SR l):∀ p ∈ l,0<=p.v->zah l p.v=p.c.val:=by
 induction l with
 | nil=>intro p hp;cases hp
 | cons q l ih =>
  intro p hp h0
  obtain ⟨h1,h2⟩:=cF.1 hs
  rcases cQ.1 hp with rfl | hp
  ·exact SR.head hs h0
  ·have:=h1 p hp
   simp only [zah]
   rw [if_neg (by omega),ih h2 p hp h0,dZ]
structure Bd (n M:Nat) (t:zaf):Prop where
  pl:za2 t=t
  len:t.parts.length<=n
  cf:∀ v,(zah t.parts v).natAbs<=M
  kf:t.k.val.natAbs<=M
theorem Bd.mono {n':Nat} (h:Bd n M t) (hn:n<=n') (hM:M<=M'):Bd n' M' t:=⟨h.pl,bS h.len hn,fun v=>bS (h.cf v) hM,bS h.kf hM⟩
theorem Bd.tok {L:Nat} (h:Bd n M t) (hL:M<pw L):TOk n L t:=by
 obtain ⟨p1,p2,_⟩:=zay t
 rw [h.pl] at p1 p2
 have hk:t.k=e6 t.k.val:=by have:=yJ zaf.k h.pl;rw [<- this];simp [za2,e7]
 refine ⟨h.len,fun p hp=>?_,by rw [hk];exact ZI.lb_of _,by rw [hk];exact ZI.len_of (by have:=h.kf;omega)⟩
 obtain ⟨h0,h1,_⟩:=p2 p hp
 have h2:=h.cf p.v
 rw [zkr p1 p hp h0] at h2
 rw [h1]
 exact ⟨ZI.lb_of _,ZI.len_of (by omega)⟩
theorem plainT_len (t:zaf):(za2 t).parts.length<=t.parts.length:=by simp only [za2,bI];exact varsZ_len _
theorem Bd.add {s:zaf} (hs:Bd n M s) (ht:Bd m M' t):Bd (n+m) (M+M') (zkx s t):=by
 obtain ⟨_,_,h3⟩:=zay ⟨s.parts++t.parts,e6 (s.k.val+t.k.val)⟩
 refine ⟨zby _,bS (plainT_len _) (by simp only [bC];have:=hs.len;have:=ht.len;omega),fun v=>?_,?_⟩
 ·show (zah (za2 _).parts v).natAbs<=_
  rw [h3 v,zfe];have:=hs.cf v;have:=ht.cf v;omega
 ·simp only [zkx,za2,e7];have:=hs.kf;have:=ht.kf;omega
theorem coefZ_mul (ps:List za4) (q:Int) (v:Int):zah (ps.map fun p=>za4.mk p.v (e6 (p.c.val*q))) v=zah ps v*q:=by
 induction ps with
 | nil=>simp [zah]
 | cons p ps ih =>
  simp only [d5,zah,ih,e7,Int.add_mul]
  split <;> simp
theorem Bd.scale {q:ZI} (hn:t.parts.length<=n) (hc:∀ v,(zah t.parts v).natAbs<=M) (hk:t.k.val.natAbs<=M) (hq:q.val.natAbs<=M'):Bd n (M*M') (zbi t q):=by
 obtain ⟨_,_,h3⟩:=zay (mulT t q)
 refine ⟨zby _,bS (plainT_len _) (by simp only [mulT,bI];exact hn),fun v=>?_,?_⟩
 ·show (zah (za2 _).parts v).natAbs<=_
  rw [h3 v]
  show (zah (t.parts.map _) v).natAbs<=_
  rw [coefZ_mul,Int.natAbs_mul]
  exact cW (hc v) hq
 ·show (e6 _).val.natAbs<=_
  rw [e7]
  show ((e6 _).val).natAbs<=_
  rw [e7,Int.natAbs_mul]
  exact cW hk hq
theorem Few1.cf (h:Few1 t) (hl:TLb t) (v:Int):(zah t.parts v).natAbs<=30*pw 20:=by
 have h1:=zju (L:=20) (ps:=t.parts) (fun q hq=>⟨hl.2 q hq,h.2.2 q hq⟩) v
 have:t.parts.length*pw 20<=30*pw 20:=bN _ h.1
 omega
theorem Few1.kf (h:Few1 t) (hl:TLb t):t.k.val.natAbs<=pw 20:=by
 have h1:=ZI.abs_lt hl.1
 have h2:=zdt h.2.1
 omega
def zif (v:Int):List Int->Nat->Int
  | [],_=>-1
  | x :: xs,n=>if v=x then n else zif v xs (n+1)
theorem idxI_at {xs:List Int} {x:Int} (h:xs[j]?=some x):zif v (xs.drop j) j=if v=x then (j:Int) else zif v (xs.drop (j+1)) (j+1):=by
 obtain ⟨hj,rfl⟩:=b9.1 h
 rw [cO hj];rfl
def pickT (vs:List Int) (bys:List zaf) (v:Int):zaf :=
  match bys[(zif v vs 0).toNat]? with
  | some b=>if zif v vs 0<0 then zh3 v else b
  | none=>zh3 v
theorem pick_no {vs:List Int} (h:zif v vs 0<0\/(bys.length:Int)<=zif v vs 0):pickT vs bys v=zh3 v:=by
 unfold pickT
 rcases h with h | h
 ·cases bys[(zif v vs 0).toNat]? <;> simp [h]
 ·rw [List.getElem?_eq_none (by omega)]
theorem zls {vs:List Int} {b:zaf} (h:zif v vs 0=(k:Int)) (hb:bys[k]?=some b):pickT vs bys v=b:=by
 unfold pickT
 rw [h,cZ,hb]
 simp only
 rw [if_neg (by omega)]
def zcf (vs:List Int) (bys:List zaf) (out:zaf) (p:za4):zaf:=zkx out (zbi (pickT vs bys p.v) p.c)
def putZ (t:zaf) (vs:List Int) (bys:List zaf):zaf:=(za2 t).parts.foldl (zcf vs bys) (zcu t.k)
def zk5 (t:zaf):Prop:=TOk 30 20 t
theorem zk5.cf (h:zk5 t) (v:Int):(zah t.parts v).natAbs<=30*pw 20:=by
 have h1:=zju (L:=20) (ps:=t.parts) h.ps v
 have:t.parts.length*pw 20<=30*pw 20:=bN _ h.len
 omega
theorem zk5.kf (h:zk5 t):t.k.val.natAbs<=30*pw 20:=by
 have h1:=ZI.abs_lt h.kb
 have h2:=zdt h.kl
 omega
theorem zk5.var (v:Int):zk5 (zh3 v):=((TOk.one (v:=v)).plain (by decide)).mono (by decide) (by decide)
theorem zk5.pick {vs:List Int} (h:∀ b ∈ bys,zk5 b) (v:Int):zk5 (pickT vs bys v):=by
 unfold pickT
 split
 ·rename_i b hb
  split
  ·exact zk5.var v
  ·exact h b (dV hb)
 ·exact zk5.var v
theorem TOk.cf {L:Nat} (h:TOk n L t) (hn:n<=4294967296) (v:Int):(zah t.parts v).natAbs<=pw (L+1):=by
 have h1:=zju (L:=L) (ps:=t.parts) h.ps v
 have:t.parts.length*pw L<=4294967296*pw L:=bN _ (bS h.len hn)
 have e:pw (L+1)=4294967296*pw L:=zar L
 omega
theorem TOk.kf {L:Nat} (h:TOk n L t):t.k.val.natAbs<=pw (L+1):=by
 have h1:=ZI.abs_lt h.kb
 have h2:=zdt h.kl
 have e:pw (L+1)=4294967296*pw L:=zar L
 omega
theorem put_pw (L:Nat):30*pw 20*pw (L+1)<=pw (L+22):=by
 have e:pw (L+22)=pw (20+(L+1)+1):=yJ pw (by omega)
 have e2:pw (20+(L+1))=pw 20*pw (L+1):=zgc _ _
 have e3:pw (20+(L+1)+1)=4294967296*pw (20+(L+1)):=zar _
 rw [e,e3,e2,bF]
 exact bN _ (by decide)
theorem zhz {L:Nat} {vs:List Int} {out:zaf} (ho:Bd n (j*pw (L+22)) out) (hb:∀ b ∈ bys,zk5 b) (hp:p.c.val.natAbs<=pw (L+1)):Bd (n+30) ((j+1)*pw (L+22)) (zcf vs bys out p):=by
 have h1:=zk5.pick (vs:=vs) hb p.v
 have h2:=Bd.scale (q:=p.c) h1.len h1.cf h1.kf hp
 refine (ho.add h2).mono (bL _) ?_
 rw [b6,Nat.one_mul]
 have:=put_pw L
 omega
def zlv (n:Int) (p:za4):za4:=⟨p.v+n,p.c⟩
def zae (n:Int):Int:=min (max n (-2147483648)) 2147483647
def movZ (t:zaf) (n:Int):zaf:=za2 ⟨(((za2 t).parts.filter fun p=>!zba n p).map (zlv n)),e6 t.k.val⟩
theorem TLb.few (h:TLb t) (f:Few1 t):TOk 30 20 t:=⟨f.1,fun p hp=>⟨h.2 p hp,f.2.2 p hp⟩,h.1,f.2.1⟩
section
variable {P:Program}
theorem Op.raw2c {b:Builtin} {d:Nat} {x:Operand} {v v' u:Value} {pos af gd} (h:OV x (.t (.c (.d (.raw v)))) rs) (h':OV y (.t (.c (.d (.raw v')))) rs') (hf:flat u=true)
  (hrun:∀ (cs:Array Bool) w,(builtin b tys ty cs #[v,v']).run P w = .ok (.value u) w):zbe P ⟨some d,.call { callee:=.builtin b,args:=#[x,y],argTypes:=tys }, ty,pos,af,gd⟩ { rs:=rs++rs', ws:=[(d,some (.t (.c (.d (.raw u)))))] } :=
 Op.raw2 rfl h h' hf fun ρ w h1 h2=>by
  have e1:(Array.map ρ #[x,y])=#[ρ x,ρ y]:=by simp
  simp only [execOp,resolve,e1,h1,h2,Sem.run_bind,Sem.run_pure,Result.andThen_ok,invoke,hrun]
theorem Op.max2 {d:Nat} {x:Operand} {k:IntKind} {m n r:Int} {pos af gd} (h:OV x (vi k m) rs) (h':OV y (vi k n) rs') (he:r=max m n) :
  zbe P ⟨some d,.call { callee:=.builtin .max,args:=#[x,y],argTypes:=tys }, ty,pos,af,gd⟩ { rs:=rs++rs', ws:=[(d,some (vi k r))] }:=by
 subst he
 refine Op.raw2c h h' rfl fun cs w=>?_
 by_cases hc:m<n
 ·simp [builtin,Builtin.max_,Builtin.max2,hc,Int.max_eq_right (Int.le_of_lt hc)]
 ·simp [builtin,Builtin.max_,Builtin.max2,hc,Int.max_eq_left (cJ.1 hc)]
theorem Op.min2 {d:Nat} {x:Operand} {k:IntKind} {m n r:Int} {pos af gd} (h:OV x (vi k m) rs) (h':OV y (vi k n) rs') (he:r=min m n) :
  zbe P ⟨some d,.call { callee:=.builtin .min,args:=#[x,y],argTypes:=tys }, ty,pos,af,gd⟩ { rs:=rs++rs', ws:=[(d,some (vi k r))] }:=by
 subst he
 refine Op.raw2c h h' rfl fun cs w=>?_
 by_cases hc:n<m
 ·simp [builtin,Builtin.min_,Builtin.min2,hc,Int.min_eq_right (Int.le_of_lt hc)]
 ·simp [builtin,Builtin.min_,Builtin.min2,hc,Int.min_eq_left (cJ.1 hc)]
theorem Op.makeF1 {d t:Nat} {fn:Go.Fn} {x:A} {pos af gd} :
  zbe P ⟨some d,.makeFunc fn #[] #[.tmp t],ty,pos,af,gd⟩ { rs:=[(t,.t (.c x.c))],ws:=[(d,some (.t (.c (.fn fn [] [x]))))] } :=
 zbe.value d _ rfl rfl rfl fun e f H B a w hok hr=>by
  have h1:CR H B x.c (a.eval (.tmp t)):=hok.slot t _ (hr.1 (t,.t (.c x.c)) (by simp))
  refine ⟨.func fn #[] #[a.eval (.tmp t)],?_,[],[a.eval (.tmp t)],rfl,trivial,?_,trivial⟩
  ·simp [execOp,Instr.makeFunc]
  ·cases x <;> exact h1
end
theorem tp_3:zbt eQ 219:=zbt.mk' (by kernel_rfl)
theorem SIndex (xs:List Int) (v:Int) (hl:xs.length<=1000000000000):Fn eQ 209 [] [(vIs xs),vI v] (vI (zif v xs 0)) []:=by
 refine fB Tryz.func209 rfl 19 fun w H B a h=>Jq 0 [] [(0,(vIs xs)),(1,vI v),(4,vI 0)] [] h fun a w h=>qW (Jg 0 [(1,.len (za3 1 zal xs))] [] [(7,vN xs.length),(8,vI 0)] [] [] h fun a w h=>qZ ?_)
 refine zbw (ι:=(Nat)) (fun j=>j<=xs.length/\zif v xs 0=zif v (xs.drop j) j)
   [4] (fun j=>[(8,vN j)])
   [] (fun j=>[])
   (fun j=>xs.length - j) 0 ?_ h ?_
 ·exact ⟨bK _,rfl⟩
 clear h;rintro j a w hI h;obtain ⟨hI1,hI2⟩:=hI;refine Jg 0 [] [] [(9,vb (decide ((j:Int)<(xs.length:Int))))] [] [] h fun a w h=>qW (zad ((j:Int)<(xs.length:Int)) h (fun hc1 hc1'=>?_) (fun hc4 hc4'=>?_))
 ·refine qU (za1 (qW (qZ (Jg 0 [] [9] [(5,vN j)] [] [] h fun a w h=>?_))));obtain ⟨x1,hx1⟩:=gl xs j;refine Jg 0 [(3,.g (xD 14 12 zh0 (za7 hx1 (f:=zal)) (eS 13 _)))] [] [(16,vb (v == x1))] [] [] h fun a w h=>cS (v == x1) h (fun hc2=>?_) (fun hc3=>?_)
  ·refine Jg 0 [] [5,16] [(4,vN j)] [] [] h fun a w h=>qV (za8 (za5 (za5 (za8 (za5 (rT (.c (cI (j:Int))) h rfl ?_))))));have hz:zif v xs 0=(j:Int):=by rw [hI2,idxI_at hx1,if_pos (by simpa using hc2)]
   rw [hz];try rfl
  refine qU (za6 (za1 (Jh 0 [(0,.j1 j)] [5,16] [(8,vI ((j:Int)+1))] [] [] h fun a w h=>za1 (zaa (x:=j) (y:=j+1) h ?_ ?_))))
  ·exact ⟨by have:=zab hx1;omega,by rw [hI2,idxI_at hx1,if_neg (by simpa using hc3)]⟩
  show xs.length - (j+1)<xs.length - j;have:=zab hx1;omega
 refine exA (Jq 0 [] [(4,vI (-1))] [] h fun a w h=>qV (rT (.c (cI (-1))) h rfl ?_));have hz:zif v xs 0=-1:=by rw [hI2,dY (by omega)];rfl
 rw [hz];try rfl
theorem SMove1 (p:za4) (n:Int) (hn:-2147483648<=n/\n<=2147483647):Fn eQ 219 [(1,.box [cI n])] [vG ([cI p.v]++zi p.c),vp 1 0] (vb (zba n p)) [(1,.box [cI n])]:=by
 refine fB Tryz.func219 rfl 9 fun w H B a h=>Jq 2 [] [(1,vp 1 0),(2,vp 2 0),(3,vb false)] [(1,.box [cI n]),(2,.box ([cI p.v]++zi p.c))] h fun a w h=>Jg 3 [(3,.sub .i64 (m:=2147483647) (n:=n) i6)] [1,2] [(3,vb (decide (p.v>(2147483647 - n))))] [2] [] h fun a w h=>qV (rT (.c (cB (decide (p.v>(2147483647 - n))))) h rfl ?_)
 rfl
theorem SIndexFM (pr:za4->Bool) (xs:List za4) (n:Int) (hf:∀ p ∈ xs,Fn eQ 219 [(1,.box [cI n])] [vd p.d,vp 1 0] (vb (pr p)) [(1,.box [cI n])]) (hl:xs.length<=1000000000000):Fn eQ 133 [(0,.row 124 3 (xs.map e8)),(1,.box [cI n])] [vO 0 xs.length,.t (.c (.fn (.func 219) [] [.ptr 1 0]))] (vI (idxF pr xs 0)) [(0,.row 124 3 (xs.map e8)),(1,.box [cI n])]:=by
 refine fB Tryz.func133 rfl 19 fun w H B a h=>Jq 2 [] [(0,vO 0 xs.length),(1,.t (.c (.fn (.func 219) [] [.ptr 1 0]))),(4,vI 0)] [(0,.row 124 3 (xs.map e8)),(1,.box [cI n])] h fun a w h=>qW (Je 2 [] [] [(7,vN xs.length),(8,vI 0)] h fun a w h=>qZ ?_)
 refine zbw (ι:=(Nat)) (fun j=>j<=xs.length/\idxF pr xs 0=idxF pr (xs.drop j) j)
   [4] (fun j=>[(8,vN j)])
   [] (fun j=>[])
   (fun j=>xs.length - j) 0 ?_ h ?_
 ·exact ⟨bK _,rfl⟩
 clear h;rintro j a w hI h;obtain ⟨hI1,hI2⟩:=hI;refine Je 2 [] [] [(9,vb (decide ((j:Int)<(xs.length:Int))))] h fun a w h=>qW (zad ((j:Int)<(xs.length:Int)) h (fun hc1 hc1'=>?_) (fun hc4 hc4'=>?_))
 ·refine qU (za1 (qW (qZ (Je 2 [] [9] [(5,vN j)] h fun a w h=>?_))));obtain ⟨x1,hx1⟩:=gl xs j;refine Je 2 [(3,.g (xO 14 12 0 xs.length j zcl (eS 13 _))),(4,.g (eX (d:=15) (t:=14) (n:=0) (i:=j) (fo:=0) (rty:=124) (es:=3) (xs:=[.raw (.int .i64 x1.v),.raw (.bool x1.c.neg),nsl x1.c.abs]) zhw rfl (za7 hx1 (f:=e8)) rfl rfl)),(5,.g (eW (d:=16) (t:=11) (cap:=[.ptr 1 0]) (args:=[vG ([cI x1.v]++zi x1.c)]) (rs:=[(15,vG ([cI x1.v]++zi x1.c))]) (tys:=#[124]) (hf x1 (lM hx1)) tp_3 (OVs.cons (eS 15 _) (OVs.nil))))] [] [(16,vb (pr x1))] h fun a w h=>cS (pr x1) h (fun hc2=>?_) (fun hc3=>?_)
  ·refine Je 2 [] [5,16] [(4,vN j)] h fun a w h=>qV (za8 (za5 (za5 (za8 (za5 (rT (.c (cI (j:Int))) h rfl ?_))))));have hz:idxF pr xs 0=(j:Int):=by rw [hI2,idxF_at hx1,if_pos hc2]
   rw [hz];try rfl
  refine qU (za6 (za1 (Jf 2 [(0,.j1 j)] [5,16] [(8,vI ((j:Int)+1))] h fun a w h=>za1 (zaa (x:=j) (y:=j+1) h ?_ ?_))))
  ·exact ⟨by have:=zab hx1;omega,by rw [hI2,idxF_at hx1,if_neg (by rw [hc3];exact Bool.noConfusion)]⟩
  (try simp);omega
 refine exA (Jp 2 [] [(4,vI (-1))] h fun a w h=>qV (rT (.c (cI (-1))) h rfl ?_));have hz:idxF pr xs 0=-1:=by rw [hI2,dY (by omega)];rfl
 rw [hz];try rfl
theorem SDeleteFM (pr:za4->Bool) (xs:List za4) (n:Int) (hf:∀ p ∈ xs,Fn eQ 219 [(1,.box [.d (.raw (.int .i64 n))])] [vd p.d,vp 1 0] (vb (pr p)) [(1,.box [.d (.raw (.int .i64 n))])]) (hl:xs.length<=1000000000000):Fn eQ 90 [(0,.row 124 3 (xs.map e8)),(1,.box [.d (.raw (.int .i64 n))])] [.t (.c (.own 0 xs.length)),.t (.c (.fn (.func 219) [] [.ptr 1 0]))] (.t (.c (.own 0 (xs.filter (fun p=>!pr p)).length))) [(0,.row 124 3 ((xs.filter (fun p=>!pr p)).map e8)),(1,.box [.d (.raw (.int .i64 n))])]:=by
 refine fB Tryz.func90 rfl 42 fun w H B a h=>Jq 2 [] [(0,.t (.c (.own 0 xs.length))),(1,.t (.c (.fn (.func 219) [] [.ptr 1 0]))),(4,.t (.c (.d (.raw zam))))] [(0,.row 124 3 (xs.map e8)),(1,.box [.d (.raw (.int .i64 n))])] h fun a w h=>Je 2 [(2,.call (SIndexFM pr xs n hf hl))] [] [(5,vI (idxF pr xs 0))] h fun a w h=>qW ?_
 rcases zkk pr xs 0 with ⟨hz,hz2⟩ | ⟨k,x0,hz,hk,hk2,hk3⟩
 ·rw [hz] at h;refine Jq 2 [(1,.cmp (op:=.eql) (m:=(-1)) (n:=(-1)) (b:=true) .i64 rfl)] [(0,.t (.c (.own 0 xs.length))),(1,.t (.c (.fn (.func 219) [] [.ptr 1 0]))),(4,.t (.c (.d (.raw zam)))),(5,vI (-1)),(12,vb true)] [(0,.row 124 3 (xs.map e8)),(1,.box [.d (.raw (.int .i64 n))])] h fun a w h=>cS true h (fun _=>?_) nofun
  refine Je 2 [] [12] [(4,.t (.c (.own 0 xs.length)))] h fun a w h=>qV (za5 ?_);replace h:=cvM [] [(4,.t (.c (.own 0 (xs.filter (fun p=>!pr p)).length)))] [] [] (by rw [hz2]; try kernel_rfl) h;replace h:=cvM [] [] [] [(0,.row 124 3 ((xs.filter (fun p=>!pr p)).map e8))] (by rw [<- show (xs:List za4)=(xs.filter (fun p=>!pr p)) from hz2.symm]; try kernel_rfl) h;refine rT (.c (.own 0 (xs.filter (fun p=>!pr p)).length)) h rfl ?_;rfl
 rw [b8] at hz;have hkl:=zab hk;have hf2:((xs.take (k+1)).filter (fun p=>!pr p))=xs.take k:=by rw [bV,hk];simp [dL,hk2,hk3]
 have hf3:((xs.take (k+1)).filter (fun p=>!pr p)).length=k:=by rw [hf2,bP];omega
 rw [hz] at h;refine Jq 2 [(1,.cmp (op:=.eql) (m:=(k:Int)) (n:=(-1)) (b:=false) .i64 (beq_eq_false_iff_ne.2 (by omega)))] [(0,.t (.c (.own 0 xs.length))),(1,.t (.c (.fn (.func 219) [] [.ptr 1 0]))),(4,.t (.c (.d (.raw zam)))),(5,vN k),(12,vb false)] [(0,.row 124 3 (xs.map e8)),(1,.box [.d (.raw (.int .i64 n))])] h fun a w h=>zau h (qU (za1 (qW (Je 2 [(1,.g (eV (op:=.add) (d:=15) (xt:=3) (yt:=3) (k:=.i64) (m:=(k:Int)) (n:=1) (r:=((k+1:Nat):Int)) (eS 14 _) (eR (.int .i64 1) rfl) (.inl ⟨rfl,(by omega)⟩) i6))] [12] [(6,vI ((k+1:Nat):Int))] h fun a w h=>qZ ?_))));replace h:=cvM [] [(5,vI (((xs.take (k+1)).filter (fun p=>!pr p)).length:Int))] [] [] (by rw [hf3]; try kernel_rfl) h;replace h:=cvM [] [] [] [(0,.row 124 3 ((((xs.take (k+1)).filter (fun p=>!pr p))++[x0]++xs.drop (k+1)).map e8))] (by rw [<- show (xs:List za4)=(((xs.take (k+1)).filter (fun p=>!pr p))++[x0]++xs.drop (k+1)) from by rw [hf2];obtain ⟨g1,g2⟩:=b9.1 hk;subst g2;simp]; try kernel_rfl) h
 refine zbw (ι:=(Nat) × (List za4)) (fun (j,G)=>j<=xs.length/\((xs.take j).filter (fun p=>!pr p)).length+G.length=j/\0<G.length)
   [] (fun (j,G)=>[(5,vI (((xs.take j).filter (fun p=>!pr p)).length:Int)),(6,vN j)])
   [] (fun (j,G)=>[(0,.row 124 3 ((((xs.take j).filter (fun p=>!pr p))++G++xs.drop j).map e8))])
   (fun (j,G)=>xs.length - j) ((k+1),[x0]) ?_ h ?_
 ·exact ⟨by omega,by rw [hf3];rfl,Nat.one_pos⟩
 clear h;rintro ⟨j,G⟩ a w hI h;dsimp only at h;obtain ⟨hI1,hI2,hI3⟩:=hI;have hrl:(((xs.take j).filter (fun p=>!pr p))++G++xs.drop j).length=xs.length:=by simp only [bC,bU];omega
 refine qW (Je 2 [] [] [(19,vb (decide ((j:Int)<(xs.length:Int))))] h fun a w h=>zad ((j:Int)<(xs.length:Int)) h (fun hc1 hc1'=>?_) (fun hc4 hc4'=>?_))
 ·refine qU (za1 (qW (qZ ?_)));obtain ⟨x,hx⟩:∃ z_:za4,xs[j]?=some z_:=⟨_,cG (by omega)⟩;refine Jg 2 [(2,.g (xO 24 22 0 xs.length j zcl (eS 23 _))),(3,.g (eX (d:=25) (t:=24) (n:=0) (i:=j) (fo:=0) (rty:=124) (es:=3) (xs:=[.raw (.int .i64 x.v),.raw (.bool x.c.neg),nsl x.c.abs]) zhw rfl (za7 (show ((((xs.take j).filter (fun p=>!pr p))++G++xs.drop j):List za4)[j]?=some x from del_at (pr:=pr) hI2 hx) (f:=e8)) rfl rfl))] [19] [(7,vp 2 0)] [] [(2,.box ([.d (.raw (.int .i64 x.v))]++zi x.c))] h fun a w h=>Je 3 [(2,.g (eW (d:=28) (t:=26) (cap:=[.ptr 1 0]) (args:=[.t (.agg ([.d (.raw (.int .i64 x.v))]++zi x.c))]) (rs:=[(27,.t (.agg ([.d (.raw (.int .i64 x.v))]++zi x.c)))]) (tys:=#[124]) (hf x (lM hx)) tp_3 (OVs.cons (eS 27 _) (OVs.nil))))] [] [(29,vb (!(pr x)))] h fun a w h=>cS (!(pr x)) h (fun hc2=>?_) (fun hc3=>?_)
  ·obtain ⟨x3,hx3⟩:=gl (((xs.take j).filter (fun p=>!pr p))++G++xs.drop j) (((xs.take j).filter (fun p=>!pr p)).length);refine Jg 3 [(3,.g (xO 33 30 0 xs.length ((xs.take j).filter (fun p=>!pr p)).length zcl (eS 31 _))),(4,.g (eZ (t:=33) (n:=0) (i:=((xs.take j).filter (fun p=>!pr p)).length) (fo:=0) (rty:=124) (es:=3) (r:=e8 x3) (ds:=[.raw (.int .i64 x.v),.raw (.bool x.c.neg),nsl x.c.abs]) (rs:=[(32,.t (.agg ([.d (.raw (.int .i64 x.v))]++zi x.c)))]) (rows:=(((xs.take j).filter (fun p=>!pr p))++G++xs.drop j).map e8) (rows':=((((xs.take j).filter (fun p=>!pr p))++G++xs.drop j).set ((xs.take j).filter (fun p=>!pr p)).length x).map e8) zhw (eS 32 _) rfl rfl rfl (za7 hx3 (f:=e8)) (by simp [e8]) (zc0 (xs:=(((xs.take j).filter (fun p=>!pr p))++G++xs.drop j)) (F:=e8) ((xs.take j).filter (fun p=>!pr p)).length _ _ rfl)))] [7,29] [] [2] [(0,.row 124 3 (((((xs.take j).filter (fun p=>!pr p))++G++xs.drop j).set ((xs.take j).filter (fun p=>!pr p)).length x).map e8))] h fun a w h=>Jf 3 [(1,.g (eV (op:=.add) (d:=35) (xt:=3) (yt:=3) (k:=.i64) (m:=(((xs.take j).filter (fun p=>!pr p)).length:Int)) (n:=1) (r:=((((xs.take j).filter (fun p=>!pr p)).length+1:Nat):Int)) (eS 34 _) (eR (.int .i64 1) rfl) (.inl ⟨rfl,(by omega)⟩) i6))] [] [(5,vI ((((xs.take j).filter (fun p=>!pr p)).length+1:Nat):Int))] h fun a w h=>za6 (za1 (Jf 3 [(1,.j1 j)] [] [(6,vI ((j:Int)+1))] h fun a w h=>za1 ?_));have hp:pr x=false:=(by simpa using hc2);replace h:=cvM [] [(5,vI (((xs.take (j+1)).filter (fun p=>!pr p)).length:Int))] [] [] (by rw [<- zm8 hx hp]; try kernel_rfl) h;replace h:=cvM [] [] [] [(0,.row 124 3 ((((xs.take (j+1)).filter (fun p=>!pr p))++(G.tail++[x])++xs.drop (j+1)).map e8))] (by rw [<- show (((((xs.take j).filter (fun p=>!pr p))++G++xs.drop j).set ((xs.take j).filter (fun p=>!pr p)).length x):List za4)=(((xs.take (j+1)).filter (fun p=>!pr p))++(G.tail++[x])++xs.drop (j+1)) from del_keep hx hp hI3]; try kernel_rfl) h;refine zaa (x:=(j,G)) (y:=((j+1),(G.tail++[x]))) h ?_ ?_
   ·exact ⟨by have:=zab hx;omega,by rw [<- zm8 hx hp,bC,List.length_tail];simp only [b7,b5];omega,by rw [bC];simp only [b7,b5];omega⟩
   show xs.length - (j+1)<xs.length - j;have:=zab hx;omega
  refine qU (za6 (za1 (Jh 3 [(1,.j1 j)] [7,29] [(6,vI ((j:Int)+1))] [2] [] h fun a w h=>za1 ?_)));have hp:pr x=true:=(by simpa using hc3);replace h:=cvM [] [(5,vI (((xs.take (j+1)).filter (fun p=>!pr p)).length:Int))] [] [] (by rw [<- zjs hx hp]; try kernel_rfl) h;replace h:=cvM [] [] [] [(0,.row 124 3 ((((xs.take (j+1)).filter (fun p=>!pr p))++(G++[x])++xs.drop (j+1)).map e8))] (by rw [<- show ((((xs.take j).filter (fun p=>!pr p))++G++xs.drop j):List za4)=(((xs.take (j+1)).filter (fun p=>!pr p))++(G++[x])++xs.drop (j+1)) from del_skip hx hp]; try kernel_rfl) h;refine zaa (x:=(j,G)) (y:=((j+1),(G++[x]))) h ?_ ?_
  ·exact ⟨by have:=zab hx;omega,by rw [<- zjs hx hp,bC];simp only [b7,b5];omega,by rw [bC];simp only [b7,b5];omega⟩
  show xs.length - (j+1)<xs.length - j;have:=zab hx;omega
 refine exA ?_;have hj:j=xs.length:=by omega
 have hF:((xs.take j).filter (fun p=>!pr p))=(xs.filter (fun p=>!pr p)):=by rw [hj,cC]
 refine Jg 3 [(2,.g (Op.sliceLo (d:=38) (t:=36) (k:=.i64) (n:=0) (len:=xs.length) (l:=((xs.take j).filter (fun p=>!pr p)).length) (rows:=(((xs.take j).filter (fun p=>!pr p))++G++xs.drop j).map e8) (rty:=124) zcl (by first | omega | (simp only [bI,bC,bU];omega)) (eS 37 _) (by first | omega | (simp at *;omega)) rfl)),(3,.g (Op.clearCut' (rows':=((xs.take j).filter (fun p=>!pr p)).map e8) (o:=none) (t:=38) (n:=0) (off:=((xs.take j).filter (fun p=>!pr p)).length*3) (len:=(xs.length - ((xs.take j).filter (fun p=>!pr p)).length)) (l:=((xs.take j).filter (fun p=>!pr p)).length) (es:=3) (rows:=(((xs.take j).filter (fun p=>!pr p))++G++xs.drop j).map e8) (rty:=124) (zs:=[.d (.raw (.int .i64 0)),.d (.raw (.bool false)),.d (nsl [])]) zcl.hu tk_4 rfl rfl (by first | omega | (simp only [bI,bC,bU];omega)) _ rfl (by simp [cY,List.take_append])))] [1,6,19] [] [] [(0,.row 124 3 (((xs.take j).filter (fun p=>!pr p)).map e8))] h fun a w h=>Jp 3 [(2,.g (Op.sliceHi (d:=41) (t:=39) (k:=.i64) (n:=0) (len:=xs.length) (h:=((xs.take j).filter (fun p=>!pr p)).length) (rows:=((xs.take j).filter (fun p=>!pr p)).map e8) (rty:=124) zcl (by first | omega | (simp only [bI,bC,bU];omega)) (eS 40 _)))] [(4,.t (.c (.own 0 ((xs.take j).filter (fun p=>!pr p)).length)))] h fun a w h=>qV ?_;replace h:=cvM [] [(4,.t (.c (.own 0 (xs.filter (fun p=>!pr p)).length)))] [] [] (by rw [hF]; try kernel_rfl) h;replace h:=cvM [] [] [] [(0,.row 124 3 ((xs.filter (fun p=>!pr p)).map e8))] (by rw [<- show (((xs.take j).filter (fun p=>!pr p)):List za4)=(xs.filter (fun p=>!pr p)) from hF]; try kernel_rfl) h;refine rT (.c (.own 0 (xs.filter (fun p=>!pr p)).length)) h rfl ?_;rfl
theorem SPlainO0 (t:zaf) (ht:PsOk 40000 t.parts) (hk:Lb t.k.abs) (lk:t.k.abs.length<=40000):Fn eQ 52 [] [(vT t)] (vG ([.own 0 (za2 t).parts.length]++zi (za2 t).k)) [(0,.row 124 3 ((za2 t).parts.map e8))]:=by
 have ln:=ht.1;refine fB Tryz.func52 rfl 74 fun w H B a h=>Jq 5 [] [(1,vp 5 0),(2,vp 6 0)] [(5,.box (zT t)),(6,.box zT0)] h fun a w h=>Jg 7 [(2,.call (SClone t.parts (by omega)))] [] [(3,vO 0 t.parts.length)] [] [(0,.row 124 3 (t.parts.map e8))] h fun a w h=>Jg 7 [(1,.call (zj0 t.parts (by omega)))] [] [] [] [(0,.row 124 3 ((ssV za4.v t.parts).map e8))] h fun a w h=>?_
 obtain ⟨r3,er3,vr3,or3,lr3⟩:=mkZ (v:=t.k.val) (m:=t.k.abs.length) (zdd hk);refine Jg 7 [(2,.call (Fn.cast (zg6 t.k hk (by omega)) (yJ vz er3.symm)))] [1] [(4,vp 7 0)] [5] [(7,.box ([nCl]++zi r3))] h fun a w h=>qW ?_;replace h:=zjj 7 0 8 3 124 ([nCl]++zi r3) h;refine Je 9 [] [3] [(17,vO 0 t.parts.length),(18,vN t.parts.length),(19,vI 0)] h fun a w h=>qZ ?_
 refine zbw (ι:=(Nat) × (List za4)) (fun (j,out)=>out=(zii ((ssV za4.v t.parts).take j))/\j<=(ssV za4.v t.parts).length/\out.length<=j/\MOk 40000 j out)
   [] (fun (j,out)=>[(19,vN j)])
   [] (fun (j,out)=>[(7,.box ([.own 8 out.length]++zi r3)),(8,.row 124 3 (out.map e8))])
   (fun (j,out)=>(ssV za4.v t.parts).length - j) (0,[]) ?_ h ?_
 ·exact ⟨by simp [zii],bK _,bK _,fun q hq=>(by cases hq)⟩
 clear h;rintro ⟨j,out⟩ a w hI h;dsimp only at h;obtain ⟨hI1,hI2,hI3,hI4⟩:=hI;have ln:=ht.1;have ls:(ssV za4.v t.parts).length=t.parts.length:=zb7 _;refine Je 9 [] [] [(20,vb (decide ((j:Int)<(t.parts.length:Int))))] h fun a w h=>qW (zad ((j:Int)<(t.parts.length:Int)) h (fun hc1 hc1'=>?_) (fun hc6 hc6'=>?_))
 ·refine qU (za1 (qW (qZ ?_)));obtain ⟨x4,hx4⟩:=gl (ssV za4.v t.parts) j;obtain ⟨ox4,lx4⟩:=ht.get_mem (zdl (lM hx4));refine Jg 9 [(0,.g (xO 21 17 0 t.parts.length j zcl (eS 19 _))),(1,.g (eX (d:=22) (t:=21) (n:=0) (i:=j) (fo:=0) (rty:=124) (es:=3) (xs:=[.raw (.int .i64 x4.v),.raw (.bool x4.c.neg),nsl x4.c.abs]) zhw rfl (za7 hx4 (f:=e8)) rfl rfl))] [20] [(6,vp 9 0)] [] [(9,.box ([cI x4.v]++zi x4.c))] h fun a w h=>qW (Je 10 [] [] [(25,vb (decide (x4.v<0)))] h fun a w h=>zad (x4.v<0) h (fun hc2 hc2'=>?_) (fun hc3 hc3'=>?_))
  ·refine wp_exit (zcb (zaz (za1 (Jh 10 [(0,.j1 j)] [6,25] [(19,vI ((j:Int)+1))] [9] [] h fun a w h=>za1 ?_))));have hst:(zii ((ssV za4.v t.parts).take (j+1)))=zb8 out x4:=by rw [hI1,show ((ssV za4.v t.parts).take (j+1):List za4)=(ssV za4.v t.parts).take j++[x4] from by rw [bV,hx4];rfl,zch]
   have hst2:=mrg_neg (out:=out) hc2';refine zaa (x:=(j,out)) (y:=((j+1),out)) h ?_ ?_
   ·exact ⟨by rw [hst,hst2],(by have:=zab hx4;omega),by omega,by have hh:=hI4.step (ht.get_mem (zdl (lM hx4)));rw [hst2] at hh;exact hh⟩
   show (ssV za4.v t.parts).length - (j+1)<(ssV za4.v t.parts).length - j;have:=zab hx4;omega
  refine qU (za1 ?_)
  rcases cD out.length with hz | hz
  ·refine Je 10 [(3,.g (eV (op:=.sub) (d:=29) (xt:=3) (yt:=3) (k:=.i64) (m:=(out.length:Int)) (n:=1) (r:=(-1)) (eS 28 _) (eR (.int .i64 1) rfl) (.inr (.inl ⟨rfl,(by omega)⟩)) i6))] [25] [(7,vI (-1))] h fun a w h=>Je 10 [(1,.cmp (op:=.geq) (m:=(-1)) (n:=0) (b:=false) .i64 rfl)] [] [(42,vb false)] h fun a w h=>zau h ?_;obtain ⟨r5,er5,vr5,or5,lr5⟩:=mkZ (v:=x4.c.val) (m:=x4.c.abs.length) (zdd ox4);refine Jh 10 [(6,.call (Fn.cast (zg6 x4.c ox4 (by omega)) (yJ vz er5.symm))),(8,.g (bD 65 ([(za4.mk x4.v r5)].map e8) [(64,vG ([cI x4.v]++zi r5))] tb_9 (.cons (i:=0) (eS 64 _) (.nil)) (by kernel_rfl) (by simp [e8]))),(9,.g (aD 66 58 65 8 10 out [(za4.mk x4.v r5)] e8 zld (by simp [e8])))] [6,7,42] [] [8,9] [(7,.box ([.own 10 (out++[(za4.mk x4.v r5)]).length]++zi r3)),(10,.row 124 3 ((out++[(za4.mk x4.v r5)]).map e8))] h fun a w h=>za6 (za1 (Jf 11 [(0,.j1 j)] [] [(19,vI ((j:Int)+1))] h fun a w h=>za1 ?_));have hst:(zii ((ssV za4.v t.parts).take (j+1)))=zb8 out x4:=by rw [hI1,show ((ssV za4.v t.parts).take (j+1):List za4)=(ssV za4.v t.parts).take j++[x4] from by rw [bV,hx4];rfl,zch]
   have hst2:=mrg_nil hc3' hz;replace h:=zd7 10 8 h;refine zaa (x:=(j,out)) (y:=((j+1),(out++[(za4.mk x4.v r5)]))) h ?_ ?_
   ·have hnew:(out++[(za4.mk x4.v r5)])=zb8 out x4:=by rw [hst2,er5]
    exact ⟨by rw [hst];exact hnew,(by have:=zab hx4;omega),by rw [bC];simp only [b7,b5];omega,by rw [hnew];exact hI4.step (ht.get_mem (zdl (lM hx4)))⟩
   show (ssV za4.v t.parts).length - (j+1)<(ssV za4.v t.parts).length - j;have:=zab hx4;omega
  obtain ⟨k,hk1⟩:∃ k,out.length=k+1:=⟨out.length - 1,by omega⟩;refine Je 11 [(3,.g (eV (op:=.sub) (d:=29) (xt:=3) (yt:=3) (k:=.i64) (m:=(out.length:Int)) (n:=1) (r:=(k:Int)) (eS 28 _) (eR (.int .i64 1) rfl) (.inr (.inl ⟨rfl,(by omega)⟩)) i6))] [25] [(7,vN k)] h fun a w h=>?_;obtain ⟨x6,hx6⟩:=gl out k;obtain ⟨ox6,lx6⟩:=hI4.lb (lM hx6) (by omega);refine Je 11 [(1,.cmp (op:=.geq) (m:=(k:Int)) (n:=0) (b:=true) .i64 (show decide ((k:Int)>=0)=true from yQ (by omega))),(6,.g (xO 36 34 8 out.length k zcl (eS 35 _))),(8,.g (Op.loadR_c (d:=38) (t:=37) (n:=8) (i:=k) (fo:=0) (rty:=124) (es:=3) (x:=(.raw (.int .i64 x6.v))) tl_7 rfl (za7 hx6 (f:=e8)) rfl))] [] [(42,vb (x6.v == x4.v))] h fun a w h=>cS (x6.v == x4.v) h (fun hc4=>?_) (fun hc5=>?_)
  ·obtain ⟨r7,er7,vr7,or7,lr7⟩:=mkZ (v:=x6.c.val+x4.c.val) (m:=x6.c.abs.length+x4.c.abs.length+1) (zep ox6 ox4);refine Jh 11 [(6,.g (xO 49 47 8 out.length k zcl (eS 48 _))),(8,.g (eX (d:=51) (t:=50) (n:=8) (i:=k) (fo:=1) (rty:=124) (es:=3) (xs:=[.raw (.bool x6.c.neg),nsl x6.c.abs]) zet rfl (za7 hx6 (f:=e8)) rfl rfl)),(11,.call (Fn.cast (SAdd x6.c x4.c ox6 ox4 (by omega) (by omega)) (yJ vz er7.symm))),(12,.g (xO 55 44 8 out.length k zcl (eS 45 _))),(14,.g (eZ (t:=56) (n:=8) (i:=k) (fo:=1) (rty:=124) (es:=3) (r:=e8 x6) (ds:=[.raw (.bool r7.neg),nsl r7.abs]) (rs:=[(54,vz r7)]) (rows:=out.map e8) (rows':=(out.set k (za4.mk x6.v r7)).map e8) zet (eS 54 _) rfl rfl rfl (za7 hx6 (f:=e8)) (by simp [e8]) (zc0 (xs:=out) (F:=e8) k _ _ rfl)))] [6,7,42] [] [9] [(8,.row 124 3 ((out.set k (za4.mk x6.v r7)).map e8))] h fun a w h=>za6 (za1 (Jf 11 [(0,.j1 j)] [] [(19,vI ((j:Int)+1))] h fun a w h=>za1 ?_));have hst:(zii ((ssV za4.v t.parts).take (j+1)))=zb8 out x4:=by rw [hI1,show ((ssV za4.v t.parts).take (j+1):List za4)=(ssV za4.v t.parts).take j++[x4] from by rw [bV,hx4];rfl,zch]
   replace h:=cvM [] [] [] [(7,.box ([.own 8 (out.set k (za4.mk x6.v r7)).length]++zi r3))] (by rw [bW]; try kernel_rfl) h;have hst2:=zjk hc3' hk1 hx6 (by simpa using hc4);refine zaa (x:=(j,out)) (y:=((j+1),(out.set k (za4.mk x6.v r7)))) h ?_ ?_
   ·have hnew:(out.set k (za4.mk x6.v r7))=zb8 out x4:=by rw [hst2,er7]
    exact ⟨by rw [hst];exact hnew,(by have:=zab hx4;omega),by rw [bW];omega,by rw [hnew];exact hI4.step (ht.get_mem (zdl (lM hx4)))⟩
   show (ssV za4.v t.parts).length - (j+1)<(ssV za4.v t.parts).length - j;have:=zab hx4;omega
  obtain ⟨r8,er8,vr8,or8,lr8⟩:=mkZ (v:=x4.c.val) (m:=x4.c.abs.length) (zdd ox4);refine Jh 11 [(6,.call (Fn.cast (zg6 x4.c ox4 (by omega)) (yJ vz er8.symm))),(8,.g (bD 65 ([(za4.mk x4.v r8)].map e8) [(64,vG ([cI x4.v]++zi r8))] tb_9 (.cons (i:=0) (eS 64 _) (.nil)) (by kernel_rfl) (by simp [e8]))),(9,.g (aD 66 58 65 8 11 out [(za4.mk x4.v r8)] e8 zld (by simp [e8])))] [6,7,42] [] [8,9] [(7,.box ([.own 11 (out++[(za4.mk x4.v r8)]).length]++zi r3)),(11,.row 124 3 ((out++[(za4.mk x4.v r8)]).map e8))] h fun a w h=>za6 (za1 (Jf 12 [(0,.j1 j)] [] [(19,vI ((j:Int)+1))] h fun a w h=>za1 ?_));have hst:(zii ((ssV za4.v t.parts).take (j+1)))=zb8 out x4:=by rw [hI1,show ((ssV za4.v t.parts).take (j+1):List za4)=(ssV za4.v t.parts).take j++[x4] from by rw [bV,hx4];rfl,zch]
  have hst2:=mrg_new hc3' hk1 hx6 (by simpa using hc5);replace h:=zd7 11 8 h;refine zaa (x:=(j,out)) (y:=((j+1),(out++[(za4.mk x4.v r8)]))) h ?_ ?_
  ·have hnew:(out++[(za4.mk x4.v r8)])=zb8 out x4:=by rw [hst2,er8]
   exact ⟨by rw [hst];exact hnew,(by have:=zab hx4;omega),by rw [bC];simp only [b7,b5];omega,by rw [hnew];exact hI4.step (ht.get_mem (zdl (lM hx4)))⟩
  show (ssV za4.v t.parts).length - (j+1)<(ssV za4.v t.parts).length - j;have:=zab hx4;omega
 refine exA ?_;replace h:=atS (sl':=[(2,vp 6 0),(4,vp 7 0)]) (lc':=[(6,.box zT0),(7,.box ([.own 8 out.length]++zi r3)),(8,.row 124 3 (out.map e8))]) h;replace h:=zd7 8 0 h;refine Jg 12 [(2,.call (SDeleteFZ isZ out (fun p hp=>SPlain2 p (hI4.lb hp (by omega)).1 (by have:=(hI4.lb hp (by omega)).2;omega)) (by omega)))] [] [] [] [(7,.box ([.own 0 (out.filter (fun p=>!isZ p)).length]++zi r3)),(0,.row 124 3 ((out.filter (fun p=>!isZ p)).map e8))] h fun a w h=>Jg 12 [] [4] [] [7] [(6,.box ([.own 0 (out.filter (fun p=>!isZ p)).length]++zi r3))] h fun a w h=>qV ?_;have hj:j=(ssV za4.v t.parts).length:=by omega
 have hpl:(out.filter (fun p=>!isZ p))=(za2 t).parts:=by rw [hI1,hj,cC,plain_law];try rfl
 replace h:=cvM [] [] [] [(6,.box ([.own 0 (za2 t).parts.length]++zi r3))] (by rw [hpl]; try kernel_rfl) h;replace h:=cvM [] [] [] [(0,.row 124 3 ((za2 t).parts.map e8))] (by rw [<- show ((out.filter (fun p=>!isZ p)):List za4)=(za2 t).parts from hpl]; try kernel_rfl) h;refine rA 6 ([.own 0 (za2 t).parts.length]++zi r3) h zh7 rfl ?_;rw [er3];try rfl
theorem SPlainO (t:zaf) {L:Nat} (h:TOk n L t) (hn:n<=1000000000) (hL:L<=40000):Fn eQ 52 [] [vd t.d] (vG ([.own 0 (za2 t).parts.length]++zi (za2 t).k)) [(0,.row 124 3 ((za2 t).parts.map e8))] :=
 have h':=h.mono hn hL
 SPlainO0 t h'.psok h'.kb h'.kl
theorem clamp_ok (n:Int):-2147483648<=zae n/\zae n<=2147483647:=by unfold zae;omega
theorem mov_at {F:za4->za4} (h:xs[j]?=some x):((xs.take j).map F++xs.drop j)[j]?=some x:=by
 obtain ⟨hj,rfl⟩:=b9.1 h
 rw [eI (by rw [bI,bP];omega),bI,bP,eA (by omega),dJ,cO hj];rfl
theorem mov_set {F:za4->za4} (h:xs[j]?=some x):((xs.take j).map F++xs.drop j).set j (F x)=(xs.take (j+1)).map F++xs.drop (j+1):=by
 obtain ⟨hj,rfl⟩:=b9.1 h
 have hl:((xs.take j).map F).length=j:=by rw [bI,bP];omega
 have e:xs.take (j+1)=xs.take j++[xs[j]]:=by rw [bV,h];rfl
 rw [dX _ _ (by omega),hl,dJ,cO hj,List.set_cons_zero,e,cY,bJ];rfl
theorem far_no {n:Int} (h:x ∈ (za2 t).parts.filter fun p=>!zba n p):0<=x.v/\x.v<=2147483647 - n:=by
 obtain ⟨h1,h2⟩:=cV.1 h
 refine ⟨((zay t).2.1 x h1).1,?_⟩
 simp [zba] at h2;omega
theorem mov_ok {L:Nat} (h:TOk n L t) (hn:n<=1000000000) (c:Int) (ps:List za4) (hs:∀ p ∈ ps,p ∈ (za2 t).parts) (hl:ps.length<=(za2 t).parts.length) (k:ZI) (hk:Lb k.abs) (lk:k.abs.length<=L+1):TOk n (L+1) ⟨ps.map (zlv c),k⟩:=by
 have h2:=h.plain hn
 refine ⟨by simp only [bI];exact bS hl h2.len,fun p hp=>?_,hk,lk⟩
 obtain ⟨q,hq,rfl⟩:=cX.1 hp
 exact h2.ps q (hs q hq)
theorem SMove (t:zaf) (n:Int) {L:Nat} (ht:TOk m L t) (hm:m<=1000000000) (hL:L<=30000):Fn eQ 207 [] [.t (.agg ([.d (.sl 3 (t.parts.map e8))]++zi t.k)),vI n] (vd (movZ t (zae n)).d) []:=by
 have hcl:=clamp_ok n;have lnp:=(ht.plain (by omega)).len;have lnf:((za2 t).parts.filter (fun p=>!zba (zae n) p)).length<=(za2 t).parts.length:=eB _ _;refine fB Tryz.func207 rfl 36 fun w H B a h=>Jq 5 [] [(2,vp 5 0),(3,vp 6 0),(4,vp 7 0)] [(5,.box ([.d (.sl 3 (t.parts.map e8))]++zi t.k)),(6,.box [.d (.raw (.int .i64 n))]),(7,.box zT0)] h fun a w h=>Jg 8 [(1,.g (Op.max2 (d:=8) (tys:=#[3,3]) (k:=.i64) (m:=n) (n:=(-2147483648)) (r:=(max n (-2147483648))) (eS 7 _) (eR (.int .i64 (-2147483648)) rfl) rfl)),(2,.g (Op.min2 (d:=9) (tys:=#[3,3]) (k:=.i64) (m:=(max n (-2147483648))) (n:=2147483647) (r:=(zae n)) (eS 8 _) (eR (.int .i64 2147483647) rfl) rfl))] [] [] [] [(6,.box [.d (.raw (.int .i64 (zae n)))])] h fun a w h=>Jg 8 [(1,.call (SPlainO t ht (by omega) (by omega)))] [2] [(5,vp 8 0)] [5] [(0,.row 124 3 ((za2 t).parts.map e8)),(8,.box ([.own 0 (za2 t).parts.length]++zi (za2 t).k))] h fun a w h=>?_
 replace h:=zd7 6 1 h;refine Jg 9 [(2,.g (Op.makeF1 (d:=14) (t:=3) (fn:=.func 219) (x:=.ptr 1 0))),(3,.call (SDeleteFM (zba (zae n)) (za2 t).parts (zae n) (fun p _=>SMove1 p (zae n) hcl) (by omega)))] [] [] [] [(0,.row 124 3 (((za2 t).parts.filter (fun p=>!zba (zae n) p)).map e8)),(8,.box ([.own 0 ((za2 t).parts.filter (fun p=>!zba (zae n) p)).length]++zi (za2 t).k))] h fun a w h=>qW (Je 9 [] [] [(19,vI (((za2 t).parts.filter (fun p=>!zba (zae n) p)).length:Int)),(20,vI 0)] h fun a w h=>qZ ?_);replace h:=cvM [] [] [] [(0,.row 124 3 (((((za2 t).parts.filter (fun p=>!zba (zae n) p)).take 0).map (zlv (zae n))++((za2 t).parts.filter (fun p=>!zba (zae n) p)).drop 0).map e8))] (by rw [<- show (((za2 t).parts.filter (fun p=>!zba (zae n) p)):List za4)=((((za2 t).parts.filter (fun p=>!zba (zae n) p)).take 0).map (zlv (zae n))++((za2 t).parts.filter (fun p=>!zba (zae n) p)).drop 0) from by simp]; try kernel_rfl) h
 refine zbw (ι:=(Nat)) (fun j=>j<=((za2 t).parts.filter (fun p=>!zba (zae n) p)).length)
   [] (fun j=>[(20,vN j)])
   [] (fun j=>[(0,.row 124 3 (((((za2 t).parts.filter (fun p=>!zba (zae n) p)).take j).map (zlv (zae n))++((za2 t).parts.filter (fun p=>!zba (zae n) p)).drop j).map e8))])
   (fun j=>((za2 t).parts.filter (fun p=>!zba (zae n) p)).length - j) 0 ?_ h ?_
 ·exact bK _
 clear h;rintro j a w hI h;have hrl:((((za2 t).parts.filter (fun p=>!zba (zae n) p)).take j).map (zlv (zae n))++((za2 t).parts.filter (fun p=>!zba (zae n) p)).drop j).length=((za2 t).parts.filter (fun p=>!zba (zae n) p)).length:=by rw [bC,bI,bP,bU];omega
 refine Je 9 [] [] [(21,vb (decide ((j:Int)<(((za2 t).parts.filter (fun p=>!zba (zae n) p)).length:Int))))] h fun a w h=>qW (zad ((j:Int)<(((za2 t).parts.filter (fun p=>!zba (zae n) p)).length:Int)) h (fun hc1 hc1'=>?_) (fun hc2 hc2'=>?_))
 ·refine qU (za1 (qW (qZ (Je 9 [] [21] [(6,vN j)] h fun a w h=>?_))));obtain ⟨x,hx⟩:∃ z_:za4,((za2 t).parts.filter (fun p=>!zba (zae n) p))[j]?=some z_:=⟨_,cG (by omega)⟩;have hxf:=far_no (lM hx);refine Jh 9 [(3,.g (xO 26 24 0 ((za2 t).parts.filter (fun p=>!zba (zae n) p)).length j zcl (eS 25 _))),(5,.g (Op.loadR_c (d:=28) (t:=27) (n:=0) (i:=j) (fo:=0) (rty:=124) (es:=3) (x:=(.raw (.int .i64 x.v))) tl_7 rfl (za7 (show (((((za2 t).parts.filter (fun p=>!zba (zae n) p)).take j).map (zlv (zae n))++((za2 t).parts.filter (fun p=>!zba (zae n) p)).drop j):List za4)[j]?=some x from mov_at hx) (f:=e8)) rfl)),(7,.add .i64 (m:=x.v) (n:=(zae n)) i6),(8,.g (xO 31 24 0 ((za2 t).parts.filter (fun p=>!zba (zae n) p)).length j zcl (eS 25 _))),(10,.g (eZ (t:=32) (n:=0) (i:=j) (fo:=0) (rty:=124) (es:=3) (r:=e8 x) (ds:=[.raw (.int .i64 (x.v+(zae n)))]) (rs:=[(30,vI (x.v+(zae n)))]) (rows:=((((za2 t).parts.filter (fun p=>!zba (zae n) p)).take j).map (zlv (zae n))++((za2 t).parts.filter (fun p=>!zba (zae n) p)).drop j).map e8) (rows':=(((((za2 t).parts.filter (fun p=>!zba (zae n) p)).take j).map (zlv (zae n))++((za2 t).parts.filter (fun p=>!zba (zae n) p)).drop j).set j (za4.mk (x.v+(zae n)) x.c)).map e8) tl_7 (eS 30 _) rfl rfl rfl (za7 (show (((((za2 t).parts.filter (fun p=>!zba (zae n) p)).take j).map (zlv (zae n))++((za2 t).parts.filter (fun p=>!zba (zae n) p)).drop j):List za4)[j]?=some x from mov_at hx) (f:=e8)) (by simp [e8]) (zc0 (xs:=((((za2 t).parts.filter (fun p=>!zba (zae n) p)).take j).map (zlv (zae n))++((za2 t).parts.filter (fun p=>!zba (zae n) p)).drop j)) (F:=e8) j _ _ rfl)))] [6] [] [] [(0,.row 124 3 ((((((za2 t).parts.filter (fun p=>!zba (zae n) p)).take j).map (zlv (zae n))++((za2 t).parts.filter (fun p=>!zba (zae n) p)).drop j).set j (za4.mk (x.v+(zae n)) x.c)).map e8))] h fun a w h=>za6 (za1 (Jf 9 [(0,.j1 j)] [] [(20,vI ((j:Int)+1))] h fun a w h=>za1 ?_));rw [show ((((((za2 t).parts.filter (fun p=>!zba (zae n) p)).take j).map (zlv (zae n))++((za2 t).parts.filter (fun p=>!zba (zae n) p)).drop j).set j (za4.mk (x.v+(zae n)) x.c)):List za4)=((((za2 t).parts.filter (fun p=>!zba (zae n) p)).take (j+1)).map (zlv (zae n))++((za2 t).parts.filter (fun p=>!zba (zae n) p)).drop (j+1)) from mov_set hx] at h;refine zaa (x:=j) (y:=(j+1)) h ?_ ?_
  ·have:=zab hx;omega
  show ((za2 t).parts.filter (fun p=>!zba (zae n) p)).length - (j+1)<((za2 t).parts.filter (fun p=>!zba (zae n) p)).length - j;have:=zab hx;omega
 refine exA ?_;rw [show (((((za2 t).parts.filter (fun p=>!zba (zae n) p)).take j).map (zlv (zae n))++((za2 t).parts.filter (fun p=>!zba (zae n) p)).drop j):List za4)=(((za2 t).parts.filter (fun p=>!zba (zae n) p)).map (zlv (zae n))) from by rw [show j=((za2 t).parts.filter (fun p=>!zba (zae n) p)).length by omega,cC,dW,cH]] at h;replace h:=h.conv (f':=F.of [(3,vp 1 0),(4,vp 7 0),(5,vp 8 0),(19,vI (((za2 t).parts.filter (fun p=>!zba (zae n) p)).length:Int)),(20,vN j),(21,vb (decide ((j:Int)<(((za2 t).parts.filter (fun p=>!zba (zae n) p)).length:Int))))] [(7,.box zT0),(0,.row 124 3 ((((za2 t).parts.filter (fun p=>!zba (zae n) p)).map (zlv (zae n))).map e8)),(8,.box ([.own 0 (((za2 t).parts.filter (fun p=>!zba (zae n) p)).map (zlv (zae n))).length]++zi (za2 t).k)),(1,.box [.d (.raw (.int .i64 (zae n)))])]) (by rw [show (((za2 t).parts.filter (fun p=>!zba (zae n) p)).map (zlv (zae n))).length=((za2 t).parts.filter (fun p=>!zba (zae n) p)).length from bI _]; try kernel_rfl);replace h:=zj2 0 3 124 ((((za2 t).parts.filter (fun p=>!zba (zae n) p)).map (zlv (zae n))).map e8) h [(((za2 t).parts.filter (fun p=>!zba (zae n) p)).map (zlv (zae n))).length] ⟨by first | exact (bI _).symm | simp,trivial⟩;refine Jq 9 [(1,.call (zen (zaf.mk (((za2 t).parts.filter (fun p=>!zba (zae n) p)).map (zlv (zae n))) (za2 t).k) (mov_ok ht (by omega) (zae n) ((za2 t).parts.filter (fun p=>!zba (zae n) p)) (fun p hp=>(cV.1 hp).1) (eB _ _) _ (ht.plain (by omega)).kb (ht.plain (by omega)).kl) (by omega) (by omega)))] [(4,vp 7 0)] [(7,.box ([.d (.sl 3 ((movZ t (zae n)).parts.map e8))]++zi (movZ t (zae n)).k))] h fun a w h=>qV (rA 7 ([.d (.sl 3 ((movZ t (zae n)).parts.map e8))]++zi (movZ t (zae n)).k) h zh7 rfl ?_);rfl
theorem tq_13:ElZ eQ 168 30 3:=ElZ.mk' Tryz.underlying168 _ _ rfl rfl
theorem plain_c {L:Nat} (ht:TOk n L t) (hn:n<=33000000) (hx:x ∈ (za2 t).parts):x.c.val.natAbs<=pw (L+1)/\Lb x.c.abs/\x.c.abs.length<=L+1:=by
 obtain ⟨p1,p2,p3⟩:=zay t
 obtain ⟨h0,h1,_⟩:=p2 x hx
 have h4:=(ht.plain (bS hn (by decide))).ps x hx
 have h2:=zkr p1 x hx h0
 have h3:=ht.cf (bS hn (by decide)) x.v
 rw [<- p3 x.v,h2] at h3
 exact ⟨h3,h4⟩
theorem numT_bd {L:Nat} {k:ZI} (h:k.val.natAbs<=pw (L+1)):Bd 0 (1*pw (L+22)) (zcu k):=by
 have e:pw (L+1)<=pw (L+22):=zdt (by omega)
 exact ⟨plain_num k,bL _,fun v=>by simp [zcu,zah],by simp only [zcu,e7];omega⟩
theorem bd_tok {L:Nat} (h:Bd n (j*pw (L+22)) t) (hj:j<=1000000000):TOk n (L+23) t:=h.tok (by
 have h1:j*pw (L+22)<=1000000000*pw (L+22):=bN _ hj
 have e:pw (L+23)=4294967296*pw (L+22):=zar _
 have:=zf4 (L+22)
 omega)
theorem scale_tok {L:Nat} {x:zaf} {c:ZI} (hx:zk5 x) (hc:c.val.natAbs<=pw (L+1)):TOk 30 (L+23) (zbi x c) :=
 (Bd.scale hx.len hx.cf hx.kf hc).tok (by
  have:=put_pw L
  have e:pw (L+23)=4294967296*pw (L+22):=zar _
  have:=zf4 (L+22)
  omega)
theorem SPutAll (t:zaf) (vs:List Int) (bys:List zaf) {nt Lt:Nat} (ht:TOk nt Lt t) (hnt:nt<=33000000) (hLt:Lt<=10000) (hb:∀ b ∈ bys,zk5 b) (hlv:vs.length<=1000000000000) (hlb:bys.length<=1000000000000):Fn eQ 192 [] [.t (.agg ([.d (.sl 3 (t.parts.map e8))]++zi t.k)),.t (.c (.d (.sl 1 (vs.map zal)))),.t (.c (.d (.sl 3 (bys.map zaf.d))))] (vd (putZ t vs bys).d) []:=by
 refine fB Tryz.func192 rfl 53 fun w H B a h=>Jq 5 [] [(1,.t (.c (.d (.sl 1 (vs.map zal))))),(2,.t (.c (.d (.sl 3 (bys.map zaf.d))))),(3,vp 5 0),(6,vp 6 0)] [(5,.box ([.d (.sl 3 (t.parts.map e8))]++zi t.k)),(6,.box zT0)] h fun a w h=>Jg 7 [(2,.call (zhq t.k ht.kb (by have:=ht.kl;omega)))] [] [(7,vp 7 0)] [] [(7,.box ([.d (.sl 3 ((zcu t.k).parts.map e8))]++zi (zcu t.k).k))] h fun a w h=>qW (Jg 8 [(1,.call (zen t ht (by omega) (by omega))),(3,.len (za3 3 e8 ((za2 t).parts)))] [3] [(16,.t (.c (.d (.sl 3 ((za2 t).parts.map e8))))),(17,vI ((za2 t).parts.length:Int)),(18,vI 0)] [5] [] h fun a w h=>qZ ?_)
 refine zbw (ι:=(Nat) × (zaf)) (fun (j,out)=>out=((za2 t).parts.take j).foldl (zcf vs bys) (zcu t.k)/\j<=(za2 t).parts.length/\Bd (30*j) ((j+1)*pw (Lt+22)) out)
   [] (fun (j,out)=>[(18,vN j)])
   [] (fun (j,out)=>[(7,.box ([.d (.sl 3 (out.parts.map e8))]++zi out.k))])
   (fun (j,out)=>(za2 t).parts.length - j) (0,(zcu t.k)) ?_ h ?_
 ·exact ⟨rfl,bK _,numT_bd ht.kf⟩
 clear h;rintro ⟨j,out⟩ a w hI h;dsimp only at h;obtain ⟨hI1,hI2,hI3⟩:=hI;have lpp:(za2 t).parts.length<=nt:=(ht.plain (by omega)).len;refine Je 8 [] [] [(19,vb (decide ((j:Int)<((za2 t).parts.length:Int))))] h fun a w h=>qW (zad ((j:Int)<((za2 t).parts.length:Int)) h (fun hc1 hc1'=>?_) (fun hc6 hc6'=>?_))
 ·refine qU (za1 (qW (qZ ?_)));obtain ⟨x3,hx3⟩:=gl ((za2 t).parts) j;obtain ⟨c1,c2,c3⟩:=plain_c ht hnt (lM hx3);refine Jg 8 [(0,.g (xD 20 16 zcl (za7 hx3 (f:=e8)) (eS 18 _)))] [19] [(9,vp 8 0)] [] [(8,.box ([.d (.raw (.int .i64 x3.v))]++zi x3.c))] h fun a w h=>Je 9 [(3,.call (SIndex vs x3.v hlv))] [] [(10,vI (zif x3.v vs 0))] h fun a w h=>?_
  rcases dH (decide ((zif x3.v vs 0)<0)) with hc2 | hc3
  ·have hc2':=dT hc2;refine Je 9 [(1,.cmp (op:=.lss) (m:=(zif x3.v vs 0)) (n:=0) (b:=true) .i64 hc2)] [] [(33,vb true)] h fun a w h=>cS true h (fun _=>?_) nofun
   refine Jh 9 [(3,.call (SVar x3.v)),(6,.call (SScale (zh3 x3.v) x3.c (zk5.var x3.v) (by decide) c2 c3 (by omega))),(7,.call (STAddG out (zbi (zh3 x3.v) x3.c) (bd_tok hI3 (by omega)) (scale_tok (zk5.var x3.v) c1) (by omega) (by omega)))] [9,10,33] [] [8] [(7,.box ([.d (.sl 3 ((zkx out (zbi (zh3 x3.v) x3.c)).parts.map e8))]++zi (zkx out (zbi (zh3 x3.v) x3.c)).k))] h fun a w h=>za6 (za1 (Jf 9 [(0,.j1 j)] [] [(18,vI ((j:Int)+1))] h fun a w h=>za1 ?_));have hpk:pickT vs bys x3.v=(zh3 x3.v):=pick_no (by omega);have hst:((za2 t).parts.take (j+1)).foldl (zcf vs bys) (zcu t.k)=zcf vs bys out x3:=by rw [hI1,zc4 hx3]
   refine zaa (x:=(j,out)) (y:=((j+1),(zkx out (zbi (zh3 x3.v) x3.c)))) h ?_ ?_
   ·have hnew:(zkx out (zbi (zh3 x3.v) x3.c))=zcf vs bys out x3:=by unfold zcf;rw [hpk]
    exact ⟨by rw [hst];exact hnew,by have:=zab hx3;omega,by rw [hnew];exact zhz (n:=30*j) hI3 hb c1⟩
   show (za2 t).parts.length - (j+1)<(za2 t).parts.length - j;have:=zab hx3;omega
  have hc3':=dF hc3;refine Je 9 [(1,.cmp (op:=.lss) (m:=(zif x3.v vs 0)) (n:=0) (b:=false) .i64 hc3),(5,.len (za3 3 zaf.d bys))] [] [(33,vb (decide ((zif x3.v vs 0)>=(bys.length:Int))))] h fun a w h=>zad ((zif x3.v vs 0)>=(bys.length:Int)) h (fun hc4 hc4'=>?_) (fun hc5 hc5'=>?_)
  ·refine Jh 9 [(3,.call (SVar x3.v)),(6,.call (SScale (zh3 x3.v) x3.c (zk5.var x3.v) (by decide) c2 c3 (by omega))),(7,.call (STAddG out (zbi (zh3 x3.v) x3.c) (bd_tok hI3 (by omega)) (scale_tok (zk5.var x3.v) c1) (by omega) (by omega)))] [9,10,33] [] [8] [(7,.box ([.d (.sl 3 ((zkx out (zbi (zh3 x3.v) x3.c)).parts.map e8))]++zi (zkx out (zbi (zh3 x3.v) x3.c)).k))] h fun a w h=>za6 (za1 (Jf 9 [(0,.j1 j)] [] [(18,vI ((j:Int)+1))] h fun a w h=>za1 ?_));have hpk:pickT vs bys x3.v=(zh3 x3.v):=pick_no (by omega);have hst:((za2 t).parts.take (j+1)).foldl (zcf vs bys) (zcu t.k)=zcf vs bys out x3:=by rw [hI1,zc4 hx3]
   refine zaa (x:=(j,out)) (y:=((j+1),(zkx out (zbi (zh3 x3.v) x3.c)))) h ?_ ?_
   ·have hnew:(zkx out (zbi (zh3 x3.v) x3.c))=zcf vs bys out x3:=by unfold zcf;rw [hpk]
    exact ⟨by rw [hst];exact hnew,by have:=zab hx3;omega,by rw [hnew];exact zhz (n:=30*j) hI3 hb c1⟩
   show (za2 t).parts.length - (j+1)<(za2 t).parts.length - j;have:=zab hx3;omega
  obtain ⟨k,hk⟩:∃ k:Nat,(zif x3.v vs 0)=(k:Int):=⟨_,(Int.toNat_of_nonneg (by omega)).symm⟩;rw [hk] at h;obtain ⟨x11,hx11⟩:=gl bys k;refine Jn 9 [(3,.g (xD 45 43 tn_7 (za7 hx11 (f:=zaf.d)) (eS 44 _))),(7,.call (SScale x11 x3.c (hb x11 (lM hx11)) (by decide) c2 c3 (by omega))),(8,.call (STAddG out (zbi x11 x3.c) (bd_tok hI3 (by omega)) (scale_tok (hb x11 (lM hx11)) c1) (by omega) (by omega)))] [(1,.t (.c (.d (.sl 1 (vs.map zal))))),(2,.t (.c (.d (.sl 3 (bys.map zaf.d))))),(6,vp 6 0),(7,vp 7 0),(16,.t (.c (.d (.sl 3 ((za2 t).parts.map e8))))),(17,vI ((za2 t).parts.length:Int)),(18,vN j)] [(6,.box zT0),(7,.box ([.d (.sl 3 ((zkx out (zbi x11 x3.c)).parts.map e8))]++zi (zkx out (zbi x11 x3.c)).k))] h fun a w h=>za6 (za1 (Jf 9 [(0,.j1 j)] [] [(18,vI ((j:Int)+1))] h fun a w h=>za1 ?_));have hpk:pickT vs bys x3.v=x11:=zls hk hx11;have hst:((za2 t).parts.take (j+1)).foldl (zcf vs bys) (zcu t.k)=zcf vs bys out x3:=by rw [hI1,zc4 hx3]
  refine zaa (x:=(j,out)) (y:=((j+1),(zkx out (zbi x11 x3.c)))) h ?_ ?_
  ·have hnew:(zkx out (zbi x11 x3.c))=zcf vs bys out x3:=by unfold zcf;rw [hpk]
   exact ⟨by rw [hst];exact hnew,by have:=zab hx3;omega,by rw [hnew];exact zhz (n:=30*j) hI3 hb c1⟩
  show (za2 t).parts.length - (j+1)<(za2 t).parts.length - j;have:=zab hx3;omega
 refine exA (Jq 9 [] [(6,vp 6 0)] [(6,.box ([.d (.sl 3 (out.parts.map e8))]++zi out.k))] h fun a w h=>qV (rA 6 ([.d (.sl 3 (out.parts.map e8))]++zi out.k) h zh7 rfl ?_));have hj:j=(za2 t).parts.length:=by omega
 have ho:out=putZ t vs bys:=by rw [hI1,hj,cC];rfl
 rw [ho];try rfl
theorem putZ_bd {L:Nat} {vs:List Int} (ht:TOk n L t) (hn:n<=33000000) (hb:∀ b ∈ bys,zk5 b):Bd (30*n) ((n+1)*pw (L+22)) (putZ t vs bys):=by
 have key:∀ (ps:List za4) (n j:Nat) (out:zaf),(∀ p ∈ ps,p ∈ (za2 t).parts)->Bd n (j*pw (L+22)) out->Bd (n+30*ps.length) ((j+ps.length)*pw (L+22)) (ps.foldl (zcf vs bys) out):=by
  intro ps
  induction ps with
  | nil=>intro n j out _ h;simpa using h
  | cons p ps ih =>
   intro n j out hp h
   have h1:=ih (n+30) (j+1) (zcf vs bys out p) (fun q hq=>hp q (by simp [hq])) (zhz h hb (plain_c ht hn (hp p (by simp))).1)
   simp only [dO,b7]
   exact h1.mono (by omega) (bN _ (by omega))
 have hl:(za2 t).parts.length<=n:=(ht.plain (bS hn (by decide))).len
 have h:=key (za2 t).parts 0 1 (zcu t.k) (fun p hp=>hp) (numT_bd ht.kf)
 exact h.mono (by omega) (bN _ (by omega))
theorem putZ_tok {L:Nat} {vs:List Int} (ht:TOk n L t) (hn:n<=33000000) (hb:∀ b ∈ bys,zk5 b):TOk (30*n) (L+23) (putZ t vs bys):=bd_tok (putZ_bd ht hn hb) (by omega)
theorem zec (t:zaf) (v:Int):zah (za2 t).parts v=zah t.parts v:=(zay t).2.2 v
theorem coef_add (s t:zaf) (v:Int):zah (zkx s t).parts v=zah s.parts v+zah t.parts v:=by
 unfold zkx;rw [zec,zfe]
theorem coef_scale (t:zaf) (q:ZI) (v:Int):zah (zbi t q).parts v=zah t.parts v*q.val:=by
 unfold zbi;rw [zec];exact coefZ_mul _ _ _
theorem coef_var (v w:Int):zah (zh3 v).parts w=if v=w/\0<=w then 1 else 0:=by
 unfold zh3;rw [zec];simp [oneT,zah,e7]
theorem coef_num (k:ZI) (v:Int):zah (zcu k).parts v=0:=rfl
theorem movZ_tok {L:Nat} (h:TOk m L t) (hm:m<=1000000000) (c:Int):TOk m (L+2) (movZ t c) :=
 (mov_ok h hm c _ (fun p hp=>(cV.1 hp).1) (eB _ _) _ (h.plain hm).kb (h.plain hm).kl).plain hm
end S
end Go.Proofs.YtlcijejaplagbaaGreat
section
namespace Go.Proofs
open Go.Shelf
def Tryz.lays128_ren:Go.Shelf.Ren:=⟨fun | 128=>221 | n=>n,fun | 51=>128 | 3=>3 | 4=>4 | 46=>217 | 5=>5 | 9=>9 | n=>n,fun | n=>n⟩
theorem Tryz.lays128:Go.Proofs.Lays.n128 eQ Tryz.lays128_ren:={
 mixed:=by kernel_rfl
 f128:=Tryz.func221.trans (congrArg some (by kernel_rfl))
 t3:=Tryz.underlying3
 a3:=Tryz.isAgg3
 z3:=Tryz.sizeOf3
 v3:=Tryz.zeroValue3
 t4:=Tryz.underlying4
 a4:=Tryz.isAgg4
 z4:=Tryz.sizeOf4
 v4:=Tryz.zeroValue4
 t5:=Tryz.underlying5
 a5:=Tryz.isAgg5
 z5:=Tryz.sizeOf5
 v5:=Tryz.zeroValue5
 t9:=Tryz.underlying9
 a9:=Tryz.isAgg9
 z9:=Tryz.sizeOf9
 v9:=Tryz.zeroValue9
 t46:=Tryz.underlying217
 a46:=Tryz.isAgg217
 z46:=Tryz.sizeOf217
 v46:=Tryz.zeroValue217
 t51:=Tryz.underlying128
 a51:=Tryz.isAgg128
 z51:=Tryz.sizeOf128
 v51:=Tryz.zeroValue128 }
theorem Tryz.bits_Len32 (x:Int) (w:World) (h0:0<=x) (h1:x<=4294967295) :
  Calls eQ 221 #[.int .u32 x] w fun e w'=>e = .returned (.int .i64 (Lib.bitLen x.toNat))/\w'=w:=Any.bits_Len32 Tryz.lays128 x w h0 h1
def Tryz.lays133_ren:Go.Shelf.Ren:=⟨fun | 133=>210 | 128=>221 | n=>n,fun | 51=>128 | 3=>3 | 4=>4 | 46=>217 | 5=>5 | 9=>9 | n=>n,fun | n=>n⟩
theorem Tryz.lays133:Go.Proofs.Lays.n133 eQ Tryz.lays133_ren:={
 mixed:=by kernel_rfl
 f128:=Tryz.func221.trans (congrArg some (by kernel_rfl))
 f133:=Tryz.func210.trans (congrArg some (by kernel_rfl))
 t3:=Tryz.underlying3
 a3:=Tryz.isAgg3
 z3:=Tryz.sizeOf3
 v3:=Tryz.zeroValue3
 t4:=Tryz.underlying4
 a4:=Tryz.isAgg4
 z4:=Tryz.sizeOf4
 v4:=Tryz.zeroValue4
 t5:=Tryz.underlying5
 a5:=Tryz.isAgg5
 z5:=Tryz.sizeOf5
 v5:=Tryz.zeroValue5
 t9:=Tryz.underlying9
 a9:=Tryz.isAgg9
 z9:=Tryz.sizeOf9
 v9:=Tryz.zeroValue9
 t46:=Tryz.underlying217
 a46:=Tryz.isAgg217
 z46:=Tryz.sizeOf217
 v46:=Tryz.zeroValue217
 t51:=Tryz.underlying128
 a51:=Tryz.isAgg128
 z51:=Tryz.sizeOf128
 v51:=Tryz.zeroValue128 }
theorem Tryz.bits_LeadingZeros32 (x:Int) (w:World) (h0:0<=x) (h1:x<=4294967295) :
  Calls eQ 210 #[.int .u32 x] w fun e w'=>e = .returned (.int .i64 (32 - (Lib.bitLen x.toNat:Int)))/\w'=w:=Any.bits_LeadingZeros32 Tryz.lays133 x w h0 h1
end Go.Proofs
end
namespace Go.Proofs.YtlcijejaplagbaaGreat
variable {zs qs ys zs1:List Nat} {k carry s K b h B top u2 d2 n i1:Nat} {w w' w0:World} {ao:Option Addr} {a:Act}
def bl (x:Nat):Nat:=Lib.bitLen x
theorem bl_half {x:Nat} (h0:x≠0) (h:x<18446744073709551616):bl x=1+bl (x / 2):=Lib.bitLen_half x h0 h
theorem bl_pow:∀ (k x:Nat),k<=63->2 ^ k<=x->x<2 ^ (k+1)->bl x=k+1
 | 0,x,_,h1,h2=>by
  have:x=1:=by omega
  subst this
  decide +kernel
 | k+1,x,hk,h1,h2=>by
  have hlt:x<18446744073709551616:=cK h2 (by have:=cR (n:=2) (by omega) (show k+1+1<=64 by omega);exact this)
  have hp:0<2 ^ (k+1):=c6 _
  rw [bl_half (by omega) hlt]
  rw [Nat.pow_succ] at h1 h2
  have:=bl_pow k (x / 2) (by omega) (by omega) (by rw [Nat.pow_succ] at h2 ⊢;omega)
  omega
theorem bl_spec {x:Nat} (h0:x≠0) (h:x<4294967296):1<=bl x/\bl x<=32/\2 ^ (bl x - 1)<=x/\x<2 ^ bl x:=by
 have h1:=Nat.log2_self_le h0
 have h2:x<2 ^ (x.log2+1):=Nat.lt_log2_self
 have h3:x.log2<32:=(Nat.log2_lt h0).2 h
 have h4:=bl_pow x.log2 x (by omega) h1 h2
 rw [h4]
 exact ⟨by omega,by omega,by simpa using h1,h2⟩
theorem Lead32_any (x:Nat) (hx:x<4294967296) (w:World) :
  Calls eQ 210 #[.int .u32 x] w fun e w'=>e = .returned (.int .i64 (32 - (bl x:Int)))/\w=w' :=
 (Tryz.bits_LeadingZeros32 x w (by omega) (by omega)).mono fun _ _ ⟨h1,h2⟩=>⟨by rw [h1,cZ];rfl,h2.symm⟩
theorem shl_fit (x r:Nat) (hx:x<4294967296) (hr:r<32):x*2 ^ r<9223372036854775808:=by
 have h1:2 ^ r<=2 ^ 31:=cR (by omega) (by omega)
 have h2:x*2 ^ r<=4294967295*2147483648:=cW (by omega) h1
 omega
theorem shl_wrap (x r:Nat) (hx:x<4294967296) (hr:r<32):IntKind.u64.wrap ((x:Int)*2 ^ r)=((x*2 ^ r:Nat):Int):=by
 have h:=shl_fit x r hx hr
 have e:((x:Int)*2 ^ r)=((x*2 ^ r:Nat):Int):=by rw [dP,Int.natCast_pow];rfl
 rw [e,IntKind.wrap_u64]
 omega
theorem or_shift (x r c:Nat) (hx:x<4294967296) (hr:r<32) (hc:c<2 ^ r):bits BinOp.or .u64 ((x*2 ^ r:Nat):Int) (c:Int)=((x*2 ^ r+c:Nat):Int):=by
 have h:=shl_fit x r hx hr
 have h2:2 ^ r<=2 ^ 31:=cR (by omega) (by omega)
 rw [bits_or_u64_nat _ _ (by omega) (by omega)]
 rw [bG,<- Nat.two_pow_add_eq_or_of_lt hc]
theorem left_step {xs:List Nat} {q r:Nat} (hl:zs.length=q+k) (h:nV zs+pw (q+k)*carry=pw q*(2 ^ r*vk xs k)) (hs:s=lim xs k*2 ^ r+carry) :
  Hid (nV (zs++[s % 4294967296])+pw (q+(k+1))*(s / 4294967296)=pw q*(2 ^ r*vk xs (k+1))):=by
 unfold Hid
 rw [zeu,hl,<- cL,zar,zbc]
 have h1:=zef (pw (q+k)) s
 have h2:pw q*(2 ^ r*(vk xs k+pw k*lim xs k))=pw q*(2 ^ r*vk xs k)+pw (q+k)*(lim xs k*2 ^ r):=by
  rw [bE,bE,zgc]
  congr 1
  rw [bF (pw q),cT (2 ^ r),bG (2 ^ r)]
 have h3:pw (q+k)*s=pw (q+k)*(lim xs k*2 ^ r)+pw (q+k)*carry:=by rw [hs,bE]
 omega
def LeftR (w:World) (xs:List Nat) (q r:Nat) (out cr i:Value) (wr:World):Prop :=
  ∃ (k carry:Nat) (po:Option Addr) (pc:Nat) (zs:List Nat),k<=xs.length/\i = .int .i64 k/\out = .slice po zs.length pc/\cr = .int .u64 carry/\carry<2 ^ r/\Hid (zs.length=q+k)/\Own wr w.heap.size po pc zs/\Ext w wr /\
    Hid (nV zs+pw (q+k)*carry=pw q*(2 ^ r*vk xs k))
def GotE (w:World) (m:Nat) (er:Int) (e:Ending) (w':World):Prop:=∃ ao c zs,e = .returned (.tuple #[.slice ao zs.length c,.int .i64 er])/\Own w' w.heap.size ao c zs/\zd1 zs/\nV zs=m/\Ext w w'
set_option maxHeartbeats 2000000 in
theorem Left_any (ao:Option Addr) (n c:Nat) (xs:List Nat) (E:Int) (K:Nat) (w:World) (hn:n=xs.length) (hE:E=(K:Int)) (ha:Rd w ao c xs) (hl:xs.length<=1000000) (hk:K<=1048576) :
  Calls eQ 211 #[.slice ao n c,.int .i64 E] w (GotE w (nV xs*2 ^ K) 0):=by
 subst hn hE
 have hA:=ha.trm
 have lA:=zgz xs
 have mA:=hA.mx
 have cA:=hA.cap
 rw [<- zcw xs]
 obtain ⟨q,hq⟩:∃ q,q=K / 32:=⟨_,rfl⟩
 obtain ⟨r,hr⟩:∃ r,r=K % 32:=⟨_,rfl⟩
 have hq1:(K:Int) / 32=(q:Int):=by omega
 have hr1:(K:Int) % 32=(r:Int):=by omega
 have hqb:q<=32768:=by omega
 have hrb:r<32:=by omega
 have hpk:2 ^ K=pw q*2 ^ r:=by
  unfold pw
  rw [show (4294967296:Nat)=2 ^ 32 from rfl,<- Nat.pow_mul,<- c7];congr 1;omega
 have Hpk:=Lib.hid hpk
 clear hpk hq hr
 go_enter Tryz.func211,Tryz.ntmps211
 go_wp2_with fail
 refine (zav ao _ c xs w rfl ha).mono ?_
 rintro e w' ⟨rfl,rfl⟩
 go_wp2_with (at_make;refine mkn rfl _ _ rfl _ _ _ _ rfl rfl ?_ ?_ ?_ (Ext.refl w) ?_;omega;omega;omega;intro w1 hown hx0 hext)
 rw [cZ] at hown
 go_loopw [8,9,34] (LeftR w (trm xs) q r) (fun _ _ i _=>((trm xs).length - intOf i).toNat)
 case atStart=>exact ⟨0,0,_,_,List.replicate q 0,by omega,rfl,by simp;omega,rfl,c6 r,by simp [Hid],hown,hext,by unfold Hid;rw [zc5,ze6];simp⟩
 case round =>
  obtain ⟨k,carry,po,pc,zs,hk,rfl,rfl,rfl,hc,hzl,hown,hext,heq⟩:=hrel
  by_cases hkA:k<(trm xs).length
  ·have hx:=(hA.ext hext).cell k hkA
   have hix:=ixk hA (trm xs).length rfl k hkA wr
   have bx:=zbk hA.lb k
   have hwr:=shl_wrap (lim (trm xs) k) r bx hrb
   have hor:=or_shift (lim (trm xs) k) r carry bx hrb hc
   have hft:=shl_fit (lim (trm xs) k) r bx hrb
   have hst:=left_step hzl.out heq.out rfl
   have hcd:(lim (trm xs) k*2 ^ r+carry) / 4294967296<2 ^ r:=by
    rw [eC (by omega)]
    have h2:(lim (trm xs) k+1)*2 ^ r<=4294967296*2 ^ r:=bN _ bx
    rw [b6] at h2
    rw [bG (2 ^ r)]
    omega
   have hcs:carry<4294967296:=cK hc (by have:2 ^ r<=2 ^ 31:=cR (by omega) (by omega);omega)
   obtain ⟨X,hX⟩:∃ X,X=lim (trm xs) k*2 ^ r:=⟨_,rfl⟩
   rw [<- hX] at hwr hor hft hst hcd
   have hzb:zs.length<=1100000:=by have:=hzl.out;omega
   have Hcd:=Lib.hid hcd
   clear hX hcd hc heq
   go_wp2_with (at_builtin;refine push (wi:=w) rfl _ _ rfl _ _ zs _ rfl rfl hown _ ?_ ?_ rfl ?_ rfl hext ?_;omega;omega;omega;intro ao' c' w2 hown2 hext2)
   go_roundw
   case rel=>exact ⟨k+1,(X+carry) / 4294967296,ao', c', zs++[(X+carry) % 4294967296],by omega,by go_num,by simp,by go_num,Hcd.out,by unfold Hid;rw [bC,hzl.out];simp;omega,hown2.snocEq (by omega),hext2,hst⟩
   case measure=>simp [intOf];try omega
  ·have hv:nV (zs++[(carry:Int).toNat])=nV (trm xs)*2 ^ K:=by
    have h1:=heq.out
    have h2:=hzl.out
    rw [zbv (by omega)] at h1
    rw [zeu,h2,cZ,h1,Hpk.out,<- bF,bG]
   have hcs:carry<4294967296:=cK hc (by have:2 ^ r<=2 ^ 31:=cR (by omega) (by omega);omega)
   have hzb:zs.length<=1100000:=by have:=hzl.out;omega
   have Hv:=Lib.hid hv
   clear hv hc heq
   go_wp2_with (at_builtin;refine push (wi:=w) rfl _ _ rfl _ _ zs _ rfl rfl hown _ ?_ ?_ rfl ?_ rfl hext ?_;omega;omega;omega;intro ao' c' w2 hown2 hext2)
   refine (zdk _ _ _ _ _ (by simp) hown2.rd (by simp;omega)).mono ?_
   intro e w' hg
   rw [Hv.out] at hg
   obtain ⟨ao3,c3,zs3,rfl,h1,h2,h3,h4⟩:=hg.from hext2
   go_wp2_with fail
   go_ret2
   exact ⟨ao3,c3,zs3,rfl,h1,h2,h3,h4⟩
theorem low32 (s:Nat) (hs:s<18446744073709551616):bits BinOp.and .u64 (s:Int) 4294967295=((s % 4294967296:Nat):Int):=by
 have h:=bits_and_u64_nat s 4294967295 hs (by omega)
 have e:s &&& 4294967295=s % 4294967296:=Nat.and_two_pow_sub_one_eq_mod s 32
 rw [e] at h
 exact h
section
variable {w:World} {B g c:Nat} {zs:List Nat}
theorem Own.winCell (h:Own w B (some ⟨g,0,none⟩) c zs) (K i:Nat) (hi:K+i<zs.length):w.cell? ⟨g,K+i,none⟩=some (.int .u32 (lim zs (K+i))):=by
 have:=h.rd.cell (K+i) hi
 simp only [bk,of,b8] at this
 exact this
theorem Own.winFrozen (h:Own w B (some ⟨g,0,none⟩) c zs) (K i:Nat) (hp:0<zs.length):w.frozen? ⟨g,K+i,none⟩=false:=by
 have:=h.frozen hp (K+i)
 simp only [bk,of,b8] at this
 exact this
theorem Own.winStore (h:Own w B (some ⟨g,0,none⟩) c zs) (K i:Nat) (hi:K+i<zs.length) (E:Int) (y:Nat) (hE:E=(y:Int)) (hy:y<4294967296) :
  Own (w.setCell ⟨g,K+i,none⟩ (.int .u32 E)) B (some ⟨g,0,none⟩) c (zs.set (K+i) y)/\w.grownBy (w.setCell ⟨g,K+i,none⟩ (.int .u32 E)) (some g):=by
 have:=h.store (K+i) hi E y hE hy
 simp only [bk,of,b8] at this
 exact this
end
theorem winIx (g K m C i:Nat) (E:Int) (hE:E=(i:Int)) (hi:i<m) (w:World) :
   (Instr.indexAt 26 (.slice (some ⟨g,K,none⟩) m C) (.int .i64 E)).run eQ w = .ok (.pointer (some ⟨g,K+i,none⟩)) w:=by
  subst hE
  simp [Instr.indexAt,asIntOf,run_underlying und,hi,go_sem]
def TakeR (w:World) (B g c:Nat) (zs ys:List Nat) (K T:Nat) (cr br i:Value) (wr:World):Prop :=
  ∃ (k carry b:Nat) (qs:List Nat),k<=ys.length/\i = .int .i64 k/\cr = .int .u64 carry/\br = .int .u64 b/\carry<4294967296/\b<=1/\Hid (qs.length=zs.length)/\Own wr B (some ⟨g,0,none⟩) c qs/\w.grownBy wr (some g) /\
    Hid (nV qs+pw K*(T*vk ys k)=nV zs+pw (K+k)*(carry+b))/\Hid (∀ t,K+ys.length<t->lim qs t=lim zs t)
def GotTake (w:World) (B g c:Nat) (zs ys:List Nat) (K T:Nat) (e:Ending) (w':World):Prop :=
  ∃ (b:Bool) (qs:List Nat),e = .returned (.bool b)/\qs.length=zs.length/\Own w' B (some ⟨g,0,none⟩) c qs/\w.grownBy w' (some g) /\
    nV qs+pw K*(T*nV ys)=nV zs+(if b then pw (K+(ys.length+1)) else 0)/\∀ t,K+ys.length<t->lim qs t=lim zs t
theorem take_step {T y x:Nat} (hv:nV qs+pw K*(T*vk ys k)=nV zs+pw (K+k)*(carry+b)) (hK:K+k<qs.length)
  (hy:y+(T*lim ys k+carry) % 4294967296+b=lim qs (K+k)+4294967296*x) (hh:h=(T*lim ys k+carry) / 4294967296) :
  Hid (nV (qs.set (K+k) y)+pw K*(T*vk ys (k+1))=nV zs+pw (K+(k+1))*(h+x)):=by
 unfold Hid
 have h1:=zin (y:=y) hK
 have h3:pw K*(T*vk ys (k+1))=pw K*(T*vk ys k)+pw (K+k)*(T*lim ys k):=by
  rw [zbc,bE,bE,zgc]
  congr 1
  rw [<- bF T,bG T,bF (pw k),bF (pw K)]
 rw [<- cL K k 1,zar,h3]
 have h4:=zef (pw (K+k)) (T*lim ys k+carry)
 rw [<- hh] at h4
 have h5:pw (K+k)*(y+(T*lim ys k+carry) % 4294967296+b)=pw (K+k)*(lim qs (K+k)+4294967296*x):=by rw [hy]
 rw [bE,bE,bE] at h5
 rw [bE (pw (K+k)) (T*lim ys k)] at h4
 rw [bE] at hv
 rw [bE,bF,bF] 
 rw [bF] at h4
 have h6:pw (K+k)*(4294967296*x)=4294967296*(pw (K+k)*x):=cT _ _ _
 omega
theorem take_end {T y x:Nat} (hv:nV qs+pw K*(T*vk ys ys.length)=nV zs+pw (K+ys.length)*(carry+b)) (hK:K+ys.length<qs.length)
  (hy:y+(carry+b)=lim qs (K+ys.length)+4294967296*x) :
  nV (qs.set (K+ys.length) y)+pw K*(T*nV ys)=nV zs+pw (K+(ys.length+1))*x:=by
 have h1:=zin (y:=y) hK
 rw [zbv (bL _)] at hv
 rw [<- cL K,zar]
 have h5:pw (K+ys.length)*(y+(carry+b))=pw (K+ys.length)*(lim qs (K+ys.length)+4294967296*x):=by rw [hy]
 rw [bE,bE,bE] at h5
 rw [bE] at hv
 have h6:pw (K+ys.length)*(4294967296*x)=4294967296*(pw (K+ys.length)*x):=cT _ _ _
 rw [bF]
 omega
set_option maxHeartbeats 2000000 in
theorem takeAway_any (B g c:Nat) (zs:List Nat) (K m C:Nat) (bo:Option Addr) (n d:Nat) (ys:List Nat) (T:Nat) (w:World) (hn:n=ys.length) (hm:m=ys.length+1) (hK:K+m<=zs.length)
  (hown:Own w B (some ⟨g,0,none⟩) c zs) (hb:Rd w bo d ys) (hne:0<ys.length->bk bo≠g) (hT:T<4294967296) (hl:ys.length<=10000000) :
  Calls eQ 213 #[.slice (some ⟨g,K,none⟩) m C,.slice bo n d,.int .u64 T] w (GotTake w B g c zs ys K T):=by
 subst hn hm
 have mB:=hb.mx
 have cB:=hb.cap
 go_enter Tryz.func213,Tryz.ntmps213
 go_wp2_with fail
 go_loopw [7,8,19] (TakeR w B g c zs ys K T) (fun _ _ i _=>(ys.length - intOf i).toNat)
 case atStart=>exact ⟨0,0,0,zs,by omega,rfl,rfl,rfl,by omega,by omega,rfl,hown,World.grownBy.refl _ _,by unfold Hid;simp [ze6],fun _ _=>rfl⟩
 case round =>
  obtain ⟨k,carry,b,qs,hk,rfl,rfl,rfl,hc,hb1,hql,hqo,hqx,hqv,hqt⟩:=hrel
  by_cases hkB:k<ys.length
  ·have hy:=(hb.kept hqx hne).cell k hkB
   have hiy:=ixk hb ys.length rfl k hkB wr
   have bY:=zbk hb.lb k
   have hkq:K+k<qs.length:=by have:=hql.out;omega
   have hqc:=hqo.winCell K k hkq
   have hiq:=winIx g K (ys.length+1) C k k rfl (by omega) wr
   have hf:=hqo.winFrozen K k (by omega)
   have bQ:=zbk hqo.lb (K+k)
   have bp:=prod_lt hT bY
   obtain ⟨p,hp⟩:∃ p,p=T*lim ys k:=⟨_,rfl⟩
   have hst:=fun h y x=>take_step (h:=h) (y:=y) (x:=x) hqv.out hkq
   rw [<- hp] at bp hst
   have hp':((T:Nat):Int)*((lim ys k:Nat):Int)=(p:Int):=by rw [hp,dP]
   have hlow:bits BinOp.and .u64 ((p:Int)+(carry:Int)) 4294967295=((p:Int)+(carry:Int)) % 4294967296:=by
    have:=low32 (p+carry) (by omega)
    rw [Int.natCast_add] at this
    rw [this];omega
   clear hp hqv
   by_cases hlt:lim qs (K+k)<(p+carry) % 4294967296+b
   ·have hlt':((lim qs (K+k):Nat):Int)<((p:Int)+(carry:Int)) % 4294967296+(b:Int):=by omega
    go_wp2_with fail
    obtain ⟨y,hy⟩:∃ y,y=lim qs (K+k)+4294967296 - ((p+carry) % 4294967296+b):=⟨_,rfl⟩
    have hs1:=hqo.winStore K k hkq ((lim qs (K+k):Int)+4294967296 - (((p:Int)+(carry:Int)) % 4294967296+(b:Int))) y (by omega) (by omega)
    have hst1:=hst ((p+carry) / 4294967296) y 1 (by omega) rfl
    go_roundw
    case rel=>exact ⟨k+1,(p+carry) / 4294967296,1,_,by omega,by go_num,by go_num,by go_num,by omega,by omega,by unfold Hid;rw [bW];exact hql.out,hs1.1,ze9 hqx hs1.2,hst1,fun t ht=>by rw [zcp (by omega)];exact hqt.out t ht⟩
    case measure=>simp [intOf];try omega
   ·go_wp2_with fail
    obtain ⟨y,hy⟩:∃ y,y=lim qs (K+k) - ((p+carry) % 4294967296+b):=⟨_,rfl⟩
    have hs1:=hqo.winStore K k hkq ((lim qs (K+k):Int) - (((p:Int)+(carry:Int)) % 4294967296+(b:Int))) y (by omega) (by omega)
    have hst1:=hst ((p+carry) / 4294967296) y 0 (by omega) rfl
    go_roundw
    case rel=>exact ⟨k+1,(p+carry) / 4294967296,0,_,by omega,by go_num,by go_num,by go_num,by omega,by omega,by unfold Hid;rw [bW];exact hql.out,hs1.1,ze9 hqx hs1.2,hst1,fun t ht=>by rw [zcp (by omega)];exact hqt.out t ht⟩
    case measure=>simp [intOf];try omega
  ·obtain rfl:k=ys.length:=by omega
   have hkq:K+ys.length<qs.length:=by have:=hql.out;omega
   have hqc:=hqo.winCell K ys.length hkq
   have hiq:=winIx g K (ys.length+1) C ys.length ys.length rfl (by omega) wr
   have hf:=hqo.winFrozen K ys.length (by omega)
   have bQ:=zbk hqo.lb (K+ys.length)
   have hst:=fun y x=>take_end (y:=y) (x:=x) hqv.out hkq
   clear hqv
   by_cases hlt:lim qs (K+ys.length)<carry+b
   ·have hlt':((lim qs (K+ys.length):Nat):Int)<(carry:Int)+(b:Int):=by omega
    go_wp2_with fail
    obtain ⟨y,hy⟩:∃ y,y=lim qs (K+ys.length)+4294967296 - (carry+b):=⟨_,rfl⟩
    have hs1:=hqo.winStore K ys.length hkq (IntKind.u64.wrap ((lim qs (K+ys.length):Int) - ((carry:Int)+(b:Int))) % 4294967296) y (by rw [IntKind.wrap_u64];omega) (by omega)
    have hst1:=hst y 1 (by omega)
    go_ret
    exact ⟨true,_,rfl,by rw [bW];exact hql.out,hs1.1,ze9 hqx hs1.2,by rw [hst1,c8,if_pos rfl],fun t ht=>by rw [zcp (by omega)];exact hqt.out t ht⟩
   ·have hlt':decide (((lim qs (K+ys.length):Nat):Int)<(carry:Int)+(b:Int))=false:=by simp;omega
    go_wp2_with fail
    obtain ⟨y,hy⟩:∃ y,y=lim qs (K+ys.length) - (carry+b):=⟨_,rfl⟩
    have hs1:=hqo.winStore K ys.length hkq ((lim qs (K+ys.length):Int) - ((carry:Int)+(b:Int))) y (by omega) (by omega)
    have hst1:=hst y 0 (by omega)
    go_ret
    exact ⟨false,_,rfl,by rw [bW];exact hql.out,hs1.1,ze9 hqx hs1.2,by rw [hst1,Nat.mul_zero,if_neg Bool.false_ne_true],fun t ht=>by rw [zcp (by omega)];exact hqt.out t ht⟩
def PutR (w:World) (B g c:Nat) (zs ys:List Nat) (K:Nat) (cr i:Value) (wr:World):Prop :=
  ∃ (k carry:Nat) (qs:List Nat),k<=ys.length/\i = .int .i64 k/\cr = .int .u64 carry/\carry<=1/\Hid (qs.length=zs.length)/\Own wr B (some ⟨g,0,none⟩) c qs/\w.grownBy wr (some g) /\
    Hid (nV qs+pw (K+k)*carry=nV zs+pw K*vk ys k)/\Hid (∀ t,K+ys.length<t->lim qs t=lim zs t)
def GotPut (w:World) (B g c:Nat) (zs ys:List Nat) (K:Nat) (e:Ending) (w':World):Prop :=
  ∃ (x:Nat) (qs:List Nat),e = .returned (.tuple #[])/\x<=1/\qs.length=zs.length/\Own w' B (some ⟨g,0,none⟩) c qs/\w.grownBy w' (some g) /\
    nV qs+pw (K+(ys.length+1))*x=nV zs+pw K*nV ys/\∀ t,K+ys.length<t->lim qs t=lim zs t
theorem put_step (hv:nV qs+pw (K+k)*carry=nV zs+pw K*vk ys k) (hK:K+k<qs.length) (hs:s=lim qs (K+k)+lim ys k+carry) :
  Hid (nV (qs.set (K+k) (s % 4294967296))+pw (K+(k+1))*(s / 4294967296)=nV zs+pw K*vk ys (k+1)):=by
 unfold Hid
 have h1:=zin (y:=s % 4294967296) hK
 have h2:=zef (pw (K+k)) s
 have h3:pw K*vk ys (k+1)=pw K*vk ys k+pw (K+k)*lim ys k:=by
  rw [zbc,bE,zgc,bF]
 rw [<- cL K k 1,zar,h3]
 have h4:pw (K+k)*s=pw (K+k)*lim qs (K+k)+pw (K+k)*lim ys k+pw (K+k)*carry:=by rw [hs,bE,bE]
 omega
theorem put_end (hv:nV qs+pw (K+ys.length)*carry=nV zs+pw K*vk ys ys.length) (hK:K+ys.length<qs.length) (hs:s=lim qs (K+ys.length)+carry) :
  nV (qs.set (K+ys.length) (s % 4294967296))+pw (K+(ys.length+1))*(s / 4294967296)=nV zs+pw K*nV ys:=by
 rw [zbv (bL _)] at hv
 have h1:=zin (y:=s % 4294967296) hK
 have h2:=zef (pw (K+ys.length)) s
 rw [<- cL K ys.length 1,zar]
 have h4:pw (K+ys.length)*s=pw (K+ys.length)*lim qs (K+ys.length)+pw (K+ys.length)*carry:=by rw [hs,bE]
 omega
set_option maxHeartbeats 2000000 in
theorem putBack_any (B g c:Nat) (zs:List Nat) (K m C:Nat) (bo:Option Addr) (n d:Nat) (ys:List Nat) (w:World) (hn:n=ys.length) (hm:m=ys.length+1) (hK:K+m<=zs.length)
  (hown:Own w B (some ⟨g,0,none⟩) c zs) (hb:Rd w bo d ys) (hne:0<ys.length->bk bo≠g) (hl:ys.length<=10000000) :
  Calls eQ 214 #[.slice (some ⟨g,K,none⟩) m C,.slice bo n d] w (GotPut w B g c zs ys K):=by
 subst hn hm
 have mB:=hb.mx
 have cB:=hb.cap
 go_enter Tryz.func214,Tryz.ntmps214
 go_wp2_with fail
 go_loopw [4,10] (PutR w B g c zs ys K) (fun _ i _=>(ys.length - intOf i).toNat)
 case atStart=>exact ⟨0,0,zs,by omega,rfl,rfl,by omega,rfl,hown,World.grownBy.refl _ _,by unfold Hid;simp [ze6],fun _ _=>rfl⟩
 case round =>
  obtain ⟨k,carry,qs,hk,rfl,rfl,hc,hql,hqo,hqx,hqv,hqt⟩:=hrel
  by_cases hkB:k<ys.length
  ·have hy:=(hb.kept hqx hne).cell k hkB
   have hiy:=ixk hb ys.length rfl k hkB wr
   have bY:=zbk hb.lb k
   have hkq:K+k<qs.length:=by have:=hql.out;omega
   have hqc:=hqo.winCell K k hkq
   have hiq:=winIx g K (ys.length+1) C k k rfl (by omega) wr
   have hf:=hqo.winFrozen K k (by omega)
   have bQ:=zbk hqo.lb (K+k)
   have hst:=put_step hqv.out hkq rfl
   clear hqv
   go_wp2_with fail
   have hs1:=hqo.winStore K k hkq (((lim qs (K+k):Int)+(lim ys k:Int)+(carry:Int)) % 4294967296) ((lim qs (K+k)+lim ys k+carry) % 4294967296) (by omega) (by omega)
   go_roundw
   case rel=>exact ⟨k+1,(lim qs (K+k)+lim ys k+carry) / 4294967296,_,by omega,by go_num,by go_num,by omega,by unfold Hid;rw [bW];exact hql.out,hs1.1,ze9 hqx hs1.2,hst,fun t ht=>by rw [zcp (by omega)];exact hqt.out t ht⟩
   case measure=>simp [intOf];try omega
  ·obtain rfl:k=ys.length:=by omega
   have hkq:K+ys.length<qs.length:=by have:=hql.out;omega
   have hqc:=hqo.winCell K ys.length hkq
   have hiq:=winIx g K (ys.length+1) C ys.length ys.length rfl (by omega) wr
   have hf:=hqo.winFrozen K ys.length (by omega)
   have bQ:=zbk hqo.lb (K+ys.length)
   have hst:=put_end hqv.out hkq rfl
   clear hqv
   go_wp2_with fail
   have hs1:=hqo.winStore K ys.length hkq (((lim qs (K+ys.length):Int)+(carry:Int)) % 4294967296) ((lim qs (K+ys.length)+carry) % 4294967296) (by omega) (by omega)
   go_end0
   exact ⟨_,_,rfl,by omega,by rw [bW];exact hql.out,hs1.1,ze9 hqx hs1.2,hst,fun t ht=>by rw [zcp (by omega)];exact hqt.out t ht⟩
def ch (s:ByteArray) (i:Nat):Nat:=(s.data.toList.map UInt8.toNat).getD i 0
def isd (s:ByteArray) (i:Nat):Prop:=48<=ch s i/\ch s i<=57
def alld (s:ByteArray) (k:Nat):Prop:=∀ i,i<k->isd s i
instance (s:ByteArray) (i:Nat):Decidable (isd s i):=inferInstanceAs (Decidable (_/\_))
instance (s:ByteArray) (k:Nat):Decidable (alld s k):=Nat.decidableBallLT k (fun i _=>isd s i)
def bytes (s:ByteArray):List Nat:=s.data.toList.map UInt8.toNat
def LbB (zs:List Nat):Prop:=∀ z ∈ zs,z<256
theorem LbB_nil:LbB []:=fun _ h=>by simp at h
theorem LbB_take (h:LbB zs) (k:Nat):LbB (zs.take k):=fun z hz=>h z (dU hz)
theorem LbB_drop (h:LbB zs) (k:Nat):LbB (zs.drop k):=fun z hz=>h z (List.mem_of_mem_drop hz)
structure RdB (w:World) (ao:Option Addr) (c:Nat) (zs:List Nat):Prop where
  cap:zs.length<=c
  mx:c<=9223372036854775807
  nl:ao=none->c=0
  lb:LbB zs
  ad:0<zs.length->ao=some ⟨bk ao,of ao,none⟩
  cell:∀ i,i<zs.length->w.cell? ⟨bk ao,of ao+i,none⟩=some (.int .u8 (lim zs i))
theorem RdB.nil (w:World):RdB w none 0 []:=⟨bL _,by omega,fun _=>rfl,LbB_nil,fun h=>by simp at h,fun i h=>by simp at h⟩
theorem RdB.ext {c:Nat} (h:RdB w ao c zs) (k:Ext w w'):RdB w' ao c zs :=
 ⟨h.cap,h.mx,h.nl,h.lb,h.ad,fun i hi=>k.cell (h.cell i hi)⟩
theorem RdB.take {c:Nat} (h:RdB w ao c zs) (k:Nat) (_hk:k<=zs.length) (c':Nat) (hc':(zs.take k).length<=c') (hc2:c'<=c):RdB w ao c' (zs.take k):=by
 refine ⟨hc', bS hc2 h.mx,fun e=>by have:=h.nl e;omega,LbB_take h.lb _,?_,?_⟩
 ·intro hp;rw [bP] at hp;exact h.ad (by omega)
 ·intro i hi;rw [bP] at hi;rw [zlx (by omega)];exact h.cell i (by omega)
theorem RdB.drop {o c:Nat} (h:RdB w (some ⟨b,o,none⟩) c zs) (k:Nat) (hk:k<=zs.length):RdB w (some ⟨b,o+k,none⟩) (c - k) (zs.drop k):=by
 have h1:=h.cap
 refine ⟨by rw [bU];omega,bS (Nat.sub_le _ _) h.mx,fun e=>by simp at e,LbB_drop h.lb _,fun _=>rfl,?_⟩
 intro i hi
 rw [bU] at hi
 have:=h.cell (k+i) (by omega)
 simp only [bk,of] at this ⊢
 rw [zly,cL];exact this
theorem RdB.isAt {c:Nat} (h:RdB w ao c zs) (hp:0<zs.length):∃ b o,ao=some ⟨b,o,none⟩:=⟨_,_,h.ad hp⟩
theorem RdB.blt {c:Nat} (h:RdB w ao c zs) (hp:0<zs.length):bk ao<w.heap.size :=
 World.block_lt_of_cell? w _ (h.cell 0 hp)
structure OwB (w:World) (B:Nat) (ao:Option Addr) (c:Nat) (zs:List Nat):Prop where
  lb:LbB zs
  row:w.ownsRow B 5 1 (.slice ao zs.length c) zs.length (zs.map fun (x:Nat)=>Value.int .u8 (x:Int))
theorem OwB.nil (w:World) (B:Nat):OwB w B none 0 []:=⟨LbB_nil,World.ownsRow_nil _ _ _ _⟩
theorem OwB.rd {c:Nat} (h:OwB w B ao c zs):RdB w ao c zs:=by
 have hr:=h.row
 rcases hr.2 with ⟨hv,hn⟩ | ⟨g,cap,cur,hv,hb,hg,hnc,hcm,hcs,htake⟩
 ·have:zs=[]:=dQ.1 hn
  subst this
  simp at hv
  obtain ⟨rfl,rfl⟩:=hv
  exact RdB.nil w
 ·simp only [Value.slice.injEq,true_and] at hv
  obtain ⟨rfl,rfl⟩:=hv
  refine ⟨hnc,by simpa [maxLen] using hcm,fun e=>by simp at e,h.lb,fun _=>rfl,?_⟩
  intro i hi
  have:=hr.cellAt i (by omega)
  simp only [bk,of,b8]
  rw [this,d8,zcq hi]
  rfl
theorem OwB.lt {c:Nat} (h:OwB w B ao c zs):∀ k,(Value.slice ao zs.length c).ownBlock=some k->B<=k/\k<w.heap.size:=h.row.lt
theorem OwB.blk {c:Nat} (h:OwB w B ao c zs) (hp:0<zs.length):B<=bk ao/\bk ao<w.heap.size/\of ao=0/\ao=some ⟨bk ao,0,none⟩:=by
 rcases h.row.2 with ⟨hv,hn⟩ | ⟨g,cap,cur,hv,hb,hg,hnc,hcm,hcs,htake⟩
 ·omega
 ·simp only [Value.slice.injEq,true_and] at hv
  obtain ⟨rfl,rfl⟩:=hv
  exact ⟨hb,(Array.getElem?_eq_some_iff.1 hg).1,rfl,rfl⟩
theorem OwB.frozen {c:Nat} (h:OwB w B ao c zs) (hp:0<zs.length) (i:Nat):w.frozen? ⟨bk ao,of ao+i,none⟩=false:=by
 rcases h.row.2 with ⟨hv,hn⟩ | ⟨g,cap,cur,hv,hb,hg,hnc,hcm,hcs,htake⟩
 ·omega
 ·have hr:=h.row
  simp only [Value.slice.injEq,true_and] at hv
  obtain ⟨rfl,rfl⟩:=hv
  simp only [bk,of,b8]
  exact hr.frozenAt i
theorem OwB.alloc {c:Nat} (h:OwB w B ao c zs) (o:Obj):OwB (w.alloc o) B ao c zs:=⟨h.lb,h.row.alloc o⟩
theorem OwB.ext {c:Nat} (h:OwB w B ao c zs) (k:Ext w w'):OwB w' B ao c zs :=
 ⟨h.lb,h.row.kept (row:=none) ⟨k.os,k.tape,k.output,k.size,fun i hi _=>k.block i hi⟩ (by cases hv:Value.ownBlock _ <;> simp)⟩
theorem OwB.mono {B':Nat} {c:Nat} (h:OwB w B ao c zs) (hB:B'<=B):OwB w B' ao c zs:=by
 refine ⟨h.lb,h.row.1,?_⟩
 rcases h.row.2 with hn | ⟨g,cap,cur,hv,hb,rest⟩
 ·exact .inl hn
 ·exact .inr ⟨g,cap,cur,hv,bS hB hb,rest⟩
theorem OwB.take {c:Nat} (h:OwB w B ao c zs) (k:Nat) (hk:k<=zs.length):OwB w B ao c (zs.take k):=by
 refine ⟨LbB_take h.lb _,by simp,?_⟩
 rw [bP,eA hk]
 rcases h.row.2 with ⟨hv,hn⟩ | ⟨g,cap,cur,hv,hb,hg,hnc,hcm,hcs,htake⟩
 ·simp at hv
  obtain ⟨rfl,_,rfl⟩:=hv
  refine .inl ⟨?_,by omega⟩
  simp;omega
 ·simp only [Value.slice.injEq,true_and] at hv
  obtain ⟨rfl,rfl⟩:=hv
  refine .inr ⟨g,c,cur,rfl,hb,hg,by omega,hcm,hcs,?_⟩
  rw [d9,<- htake,List.take_take]
  congr 1
  omega
theorem OwB.pop {c:Nat} (h:OwB w B ao c (zs.take (k+1))) (hk:k<zs.length):OwB w B ao c (zs.take k):=by
 have:=h.take k (by rw [bP];omega)
 rwa [List.take_take,eA (by omega)] at this
theorem RdB.kept {c:Nat} {g:Nat} (h:RdB w ao c zs) (k:w.grownBy w' (some g)) (hne:0<zs.length->bk ao≠g):RdB w' ao c zs :=
 ⟨h.cap,h.mx,h.nl,h.lb,h.ad,fun i hi=>k.cell (h.cell i hi) (by simp;exact hne (by omega))⟩
theorem OwB.kept {c:Nat} {g:Nat} (h:OwB w B ao c zs) (k:w.grownBy w' (some g)) (hne:(Value.slice ao zs.length c).ownBlock≠some g):OwB w' B ao c zs :=
 ⟨h.lb,h.row.kept k (.inr hne)⟩
theorem OwB.store {c:Nat} (h:OwB w B ao c zs) (i:Nat) (hi:i<zs.length) (E:Int) (y:Nat) (hE:E=(y:Int)) (hy:y<256) :
  OwB (w.setCell ⟨bk ao,of ao+i,none⟩ (.int .u8 E)) B ao c (zs.set i y)/\w.grownBy (w.setCell ⟨bk ao,of ao+i,none⟩ (.int .u8 E)) (some (bk ao)):=by
 subst hE
 obtain ⟨h1,h2,h3,h4⟩:=h.blk (by omega)
 have hr:=h.row
 rw [h4] at hr
 have:=hr.stored i (.int .u8 (y:Int))
 rw [h3,b8]
 refine ⟨⟨?_,?_⟩,this.2⟩
 ·intro z hz
  rcases eJ hz with hm | hm
  ·exact h.lb z hm
  ·omega
 ·rw [h4,bW,List.map_set]
  exact this.1
def ByR (w:World) (xs:List Nat) (b:Nat) (po:Option Addr) (pc:Nat) (rest i:Value) (wr:World):Prop :=
  ∃ (k R:Nat) (zs:List Nat),k<=xs.length/\i = .int .i64 ((k:Int) - 1)/\rest = .int .u64 R/\R<b/\Hid (zs.length=xs.length)/\Own wr w.heap.size po pc zs/\Ext w wr/\Hid (vd xs k=vd zs k*b+R)
theorem by_step {xs:List Nat} {R:Nat} (h:vd xs (k+1)=vd zs (k+1)*b+R) (hx:k<xs.length) (hz:k<zs.length) :
  Hid (vd xs k=vd (zs.set k ((R*4294967296+lim xs k) / b)) k*b+(R*4294967296+lim xs k) % b):=by
 unfold Hid
 rw [vd_step hx,vd_step (zs:=zs.set k ((R*4294967296+lim xs k) / b)) (by rw [bW];exact hz),lim_set_eq hz,vd_set (by omega),h,b6,bF 4294967296]
 have h1:=Nat.div_add_mod (R*4294967296+lim xs k) b
 rw [bG b] at h1
 omega
theorem by_lt {R x:Nat} (h:R<b) (hx:x<4294967296):(R*4294967296+x) / b<4294967296:=by
 rw [eC (by omega)]
 have:(R+1)*4294967296<=b*4294967296:=bN _ h
 rw [bG 4294967296 b]
 omega
set_option maxHeartbeats 1000000 in
theorem byLimb_any (ao:Option Addr) (n c:Nat) (xs:List Nat) (E:Int) (b:Nat) (w:World) (hn:n=xs.length) (hE:E=(b:Int)) (ha:Rd w ao c xs) (hl:xs.length<=1000000) (hb:0<b) (hb2:b<4294967296) :
  Calls eQ 195 #[.slice ao n c,.int .u32 E] w fun e w'=>∃ po pc zs,e = .returned (.tuple #[.slice po zs.length pc,.int .u32 ((nV xs % b:Nat):Int)])/\Own w' w.heap.size po pc zs/\zd1 zs/\nV zs=nV xs / b/\Ext w w':=by
 subst hn hE
 have bA:=ha.cap
 have mA:=ha.mx
 go_enter Tryz.func195,Tryz.ntmps195
 go_wp2_with (at_make;refine mkf rfl _ _ rfl _ _ _ rfl rfl ?_ ?_ (Ext.refl w) ?_;omega;omega;intro w1 hown hx0 hext)
 go_loopw [7,8] (ByR w xs b (some ⟨w.heap.size,0,none⟩) xs.length) (fun _ i _=>(intOf i+1).toNat)
 case atStart=>exact ⟨xs.length,0,List.replicate xs.length 0,bL _,rfl,rfl,hb,by simp [Hid],by simpa using hown,hext,by unfold Hid;rw [vd_end (by omega),vd_end (by simp)];simp⟩
 case round =>
  obtain ⟨k,R,zs,hk,rfl,rfl,hR,hzl,hown,hext,heq⟩:=hrel
  rcases k with _ | k
  ·have hv:nV xs=nV zs*b+R:=by have:=heq.out;rwa [vd_zero,vd_zero] at this
   have hq:nV zs=nV xs / b:=by rw [hv,bG,Nat.mul_add_div hb,dA hR,dB]
   have hm:nV xs % b=R:=by rw [hv,bG,Nat.mul_add_mod,dR hR]
   have Hq:=Lib.hid hq
   have Hm:=Lib.hid hm
   clear hv hq hm heq
   go_wp2_with fail
   refine (zdk _ _ _ zs _ hzl.out.symm hown.rd (by have:=hzl.out;omega)).mono ?_
   intro e w2 hg
   rw [Hq.out] at hg
   obtain ⟨ao3,c3,zs3,rfl,h1,h2,h3,h4⟩:=hg.from hext
   go_wp2_with fail
   go_ret2
   exact ⟨ao3,c3,zs3,by rw [Hm.out];rfl,h1,h2,h3,h4⟩
  ·have hx:=(ha.ext hext).cell k (by omega)
   have hix:=ixk ha xs.length rfl k (by omega) wr
   have bx:=zbk ha.lb k
   have hkz:k<zs.length:=by have:=hzl.out;omega
   have hiz:=ixk hown.rd xs.length hzl.out.symm k (by omega) wr
   have hxz:=hown.rd.cell k hkz
   have hf:=hown.frozen (by omega) k
   have hor:=zkc R (lim xs k) (by omega) bx
   have hq1:=by_lt (b:=b) hR bx
   have hm1:(R*4294967296+lim xs k) % b<b:=dE _ hb
   have hs:=by_step heq.out (by omega) hkz
   obtain ⟨H,hH⟩:∃ H,H=R*4294967296+lim xs k:=⟨_,rfl⟩
   rw [<- hH] at hor hq1 hm1 hs
   have bH:H<18446744073709551616:=by omega
   have htd:=tdiv_nat H b
   have htm:=tmod_nat H b
   obtain ⟨q,hq⟩:∃ q,q=H / b:=⟨_,rfl⟩
   obtain ⟨m,hm⟩:∃ m,m=H % b:=⟨_,rfl⟩
   rw [<- hq] at htd hq1 hs
   rw [<- hm] at htm hm1 hs
   have hnd:(H:Int) / (b:Int)=(q:Int):=by rw [hq];push_cast;rfl
   have hnm:(H:Int) % (b:Int)=(m:Int):=by rw [hm];push_cast;rfl
   clear hH hq hm
   go_wp2_with fail
   have hst:=hown.store k hkz (q:Int) q rfl hq1
   go_roundw
   case rel=>exact ⟨k,m,zs.set k q,by omega,by go_num,rfl,hm1,by unfold Hid;rw [bW];exact hzl.out,hst.1,hext.store (show w.heap.size<=w.heap.size by omega) _,hs⟩
   case measure=>simp [intOf]
def gSpec (top u2 first d2 g:Nat):Prop:=g<4294967296/\g*(first*4294967296+d2)<=top*4294967296+u2/\(top*4294967296+u2<(g+1)*(first*4294967296+d2)\/4294967296<=g+1)
def GueR (w:World) (top u2 first d2:Nat) (gu re:Value) (wr:World):Prop :=
  ∃ (g r:Nat),gu = .int .u64 g/\re = .int .u64 r/\g<=4294967297/\r<4294967296/\Hid (g=4294967297->r+first<4294967296)/\Hid (g*first+r=top) /\
    Hid (top*4294967296+u2<(g+1)*(first*4294967296+d2)\/4294967296<=g+1)/\Qt w wr
theorem gue_start {first un u1:Nat} (hf:2147483648<=first) (hf2:first<4294967296) (h2:u2<4294967296) (ht:top=un*4294967296+u1) (h1:u1<4294967296) (hu:un<=first) :
  top / first<=4294967297/\top % first<4294967296/\(top / first=4294967297->top % first+first<4294967296)/\top / first*first+top % first=top /\
   (top*4294967296+u2<(top / first+1)*(first*4294967296+d2)\/4294967296<=top / first+1):=by
 have h3:top / first*first+top % first=top:=by have:=Nat.div_add_mod top first;rw [bG] at this;exact this
 have h4:top % first<first:=dE _ (by omega)
 obtain ⟨g,hg⟩:∃ g,g=top / first:=⟨_,rfl⟩
 obtain ⟨r,hr⟩:∃ r,r=top % first:=⟨_,rfl⟩
 rw [<- hg,<- hr] at h3 ⊢
 rw [<- hr] at h4
 have h5:g<=4294967297:=by
  rcases cM 4294967297 g with h | h
  ·have:=bN first (show 4294967298<=g by omega)
   omega
  ·exact h
 refine ⟨h5,by omega,?_,h3,.inl ?_⟩
 ·intro e
  rw [e] at h3
  omega
 ·rw [bE,<- bF]
  have:(g+1)*first=g*first+first:=dS _ _
  omega
theorem gue_more {first g r:Nat} (hv:g*first+r=top) :
  g*(first*4294967296+d2)<=top*4294967296+u2 ↔ g*d2<=r*4294967296+u2:=by
 rw [bE,<- bF,<- hv,b6]
 omega
theorem gue_down {first g r:Nat} (hv:g*first+r=top) (hg:1<=g):(g - 1)*first+(r+first)=top:=by
 obtain ⟨h,rfl⟩:∃ h,g=h+1:=⟨g - 1,by omega⟩
 rw [dS] at hv
 simp only [eE]
 omega
theorem gue_break {first g r:Nat} (hv:g*first+r=top) (hg2:g<=4294967296) (hr:4294967296<=r) (hd:d2<4294967296):g*(first*4294967296+d2)<=top*4294967296+u2:=by
 rw [gue_more hv]
 have:=cW hg2 (show d2<=4294967295 by omega)
 omega
set_option maxHeartbeats 2000000 in
set_option maxRecDepth 40000 in
theorem guessed_any (ao:Option Addr) (m c:Nat) (us:List Nat) (bo:Option Addr) (n d:Nat) (ys:List Nat) (i1 i2:Nat) (w:World) (hm:m=us.length) (hn:n=ys.length) (h1:i1+1=n) (h2:i2+2=n) (hlen:n<m)
  (ha:Rd w ao c us) (hb:Rd w bo d ys) (hf:2147483648<=lim ys i1) (hu:lim us n<=lim ys i1) :
  Calls eQ 212 #[.slice ao m c,.slice bo n d] w
   (fun e w'=>∃ g:Nat,e = .returned (.int .u64 g)/\gSpec (lim us n*4294967296+lim us i1) (lim us i2) (lim ys i1) (lim ys i2) g/\Qt w w'):=by
 have mA:=ha.mx
 have mB:=hb.mx
 have cA:=ha.cap
 have cB:=hb.cap
 have xun:=ixk ha m hm n hlen
 have xu1:=ixe ha m hm ((n:Int) - 1) i1 (by omega) (by omega)
 have xu2:=ixe ha m hm ((n:Int) - 2) i2 (by omega) (by omega)
 have xd1:=ixe hb n hn ((n:Int) - 1) i1 (by omega) (by omega)
 have xd2:=ixe hb n hn ((n:Int) - 2) i2 (by omega) (by omega)
 have kun:=fun wr (q:Qt w wr)=>(ha.ext q.ext).cell n (by omega)
 have ku1:=fun wr (q:Qt w wr)=>(ha.ext q.ext).cell i1 (by omega)
 have ku2:=fun wr (q:Qt w wr)=>(ha.ext q.ext).cell i2 (by omega)
 have kd1:=fun wr (q:Qt w wr)=>(hb.ext q.ext).cell i1 (by omega)
 have kd2:=fun wr (q:Qt w wr)=>(hb.ext q.ext).cell i2 (by omega)
 have bun:=zbk ha.lb n
 have bu1:=zbk ha.lb i1
 have bu2:=zbk ha.lb i2
 have bd1:=zbk hb.lb i1
 have bd2:=zbk hb.lb i2
 have hbl:n<=9223372036854775807:=by omega
 have hn2:2<=n:=by omega
 clear hm hn h1 h2 hlen cA cB
 generalize lim us n=un at *
 generalize lim us i1=u1 at *
 generalize lim us i2=u2 at *
 generalize lim ys i1=first at *
 generalize lim ys i2=d2 at *
 have hor:=zkc un u1 bun bu1
 obtain ⟨top,htop⟩:∃ top,top=un*4294967296+u1:=⟨_,rfl⟩
 obtain ⟨s1,s2,s3,s4,s5⟩:=gue_start (u2:=u2) (d2:=d2) hf bd1 bu2 htop bu1 hu
 rw [<- htop] at hor ⊢
 have bT:top<18446744073709551616:=by omega
 have htd:=tdiv_nat top first
 have htm:=tmod_nat top first
 obtain ⟨q,hq⟩:∃ q,q=top / first:=⟨_,rfl⟩
 obtain ⟨r0,hr⟩:∃ r0,r0=top % first:=⟨_,rfl⟩
 rw [<- hq] at htd s1 s3 s4 s5
 rw [<- hr] at htm s2 s3 s4
 have hnd:(top:Int) / (first:Int)=(q:Int):=by rw [hq];push_cast;rfl
 have hnm:(top:Int) % (first:Int)=(r0:Int):=by rw [hr];push_cast;rfl
 have S3:=Lib.hid s3
 have S4:=Lib.hid s4
 have S5:=Lib.hid s5
 clear hq hr s3 s4 s5 htop
 go_enter Tryz.func212,Tryz.ntmps212
 have k0:=kun w (Qt.refl w)
 have k1:=ku1 w (Qt.refl w)
 have k3:=kd1 w (Qt.refl w)
 have wn1:IntKind.i64.wrap ((n:Int) - 1)=(n:Int) - 1:=IntWalk.i64_in _ (by omega)
 have wn2:IntKind.i64.wrap ((n:Int) - 2)=(n:Int) - 2:=IntWalk.i64_in _ (by omega)
 have wsh:IntKind.u64.wrap ((un:Int)*4294967296)=(un:Int)*4294967296:=by rw [IntKind.wrap_u64];omega
 go_wp2_with fail
 go_quiet (fail)
 have k4:=kd1 _ ((Qt.refl w).drewN nq)
 go_wp2_with fail
 have wq:IntKind.u64.wrap (q:Int)=(q:Int):=by rw [IntKind.wrap_u64];omega
 have wr0:IntKind.u64.wrap (r0:Int)=(r0:Int):=by rw [IntKind.wrap_u64];omega
 go_quiet (fail)
 go_wp2_with fail
 go_loopw [8,9] (GueR w top u2 first d2) (fun g _ _=>(intOf g).toNat)
 case atStart=>exact ⟨q,r0,rfl,rfl,s1,s2,S3,S4,S5,((Qt.refl w).drewN _).drewN _⟩
 case round =>
  obtain ⟨g,r,rfl,rfl,hg,hr,H3,H4,H5,hqt⟩:=hrel
  by_cases hbig:4294967296<=g
  ·have hd1:decide ((4294967296:Int)<=(g:Int))=true:=by simp;omega
   have hb1:(4294967296:Int)<=(g:Int):=by omega
   have hdn:=gue_down H4.out (by omega)
   have h6:top*4294967296+u2<(g - 1+1)*(first*4294967296+d2)\/4294967296<=g - 1+1:=.inr (by omega)
   by_cases hbr:4294967296<=r+first
   ·have h7:g<=4294967296:=by
     rcases cM 4294967296 g with h | h
     ·have:=H3.out (by omega);omega
     ·exact h
    have h8:=gue_break (u2:=u2) hdn (by omega) hbr bd2
    have F:=Lib.hid (show gSpec top u2 first d2 (g - 1) from ⟨by omega,h8,h6⟩)
    clear h6 h8 hdn H3 H4 H5
    have hbr1:(4294967296:Int)<=(r:Int)+(first:Int):=by omega
    go_wp2_with fail
    go_quiet (fail)
    go_wp2_with fail
    go_ret
    exact ⟨g - 1,by go_num,F.out,hqt.drewN _⟩
   ·have hbr1:decide ((4294967296:Int)<=(r:Int)+(first:Int))=false:=by simp;omega
    have Hd:=Lib.hid hdn
    have H6:=Lib.hid h6
    clear hdn h6 H3 H4 H5
    go_wp2_with fail
    go_quiet (fail)
    go_wp2_with fail
    go_roundw
    case rel=>exact ⟨g - 1,r+first,by go_num,by go_num,by omega,by omega,by unfold Hid;omega,Hd,H6,hqt.drewN _⟩
    case measure=>simp [intOf];try omega
  ·have hd1:decide ((4294967296:Int)<=(g:Int))=false:=by simp;omega
   have hb1:¬ (4294967296:Int)<=(g:Int):=by omega
   have k1:=kd2 _ hqt
   have k2:=ku2 _ hqt
   have hor:=zkc r u2 hr bu2
   have bp:=prod_lt (show g<4294967296 by omega) bd2
   have hmore:=gue_more (u2:=u2) (d2:=d2) H4.out
   obtain ⟨p,hp⟩:∃ p,p=g*d2:=⟨_,rfl⟩
   obtain ⟨R,hR⟩:∃ R,R=r*4294967296+u2:=⟨_,rfl⟩
   rw [<- hR] at hor hmore
   rw [<- hp] at bp hmore
   have bR:R<18446744073709551616:=by omega
   have hp':(g:Int)*(d2:Int)=(p:Int):=by rw [hp,dP]
   have wp':IntKind.u64.wrap (p:Int)=(p:Int):=by rw [IntKind.wrap_u64];omega
   have wsh2:IntKind.u64.wrap ((r:Int)*4294967296)=(r:Int)*4294967296:=by rw [IntKind.wrap_u64];omega
   clear hR
   by_cases hgt:R<p
   ·have hdn:=gue_down H4.out (by rcases g with _ | g;simp at hp;omega;omega)
    have h6:top*4294967296+u2<(g - 1+1)*(first*4294967296+d2)\/4294967296<=g - 1+1:=by
     rcases g with _ | g
     ·simp at hp;omega
     ·left
      simp only [eE]
      rcases cM (top*4294967296+u2) ((g+1)*(first*4294967296+d2)) with h | h
      ·exact h
      ·have:=hmore.1 h;omega
    have hg1:1<=g:=by rcases g with _ | g;simp at hp;omega;omega
    have hgt1:(R:Int)<(p:Int):=by omega
    have hgt2:decide ((R:Int)<(p:Int))=true:=by simp;omega
    by_cases hbr:4294967296<=r+first
    ·have h8:=gue_break (u2:=u2) hdn (by omega) hbr bd2
     have F:=Lib.hid (show gSpec top u2 first d2 (g - 1) from ⟨by omega,h8,h6⟩)
     clear h6 h8 hdn hmore H3 H4 H5 hp
     have hbr1:(4294967296:Int)<=(r:Int)+(first:Int):=by omega
     go_wp2_with fail
     go_quiet (fail)
     go_wp2_with fail
     go_ret
     exact ⟨g - 1,by go_num,F.out,hqt.drewN _⟩
    ·have hbr1:decide ((4294967296:Int)<=(r:Int)+(first:Int))=false:=by simp;omega
     have Hd:=Lib.hid hdn
     have H6:=Lib.hid h6
     clear hdn h6 hmore hp H3 H4 H5
     go_wp2_with fail
     go_quiet (fail)
     go_wp2_with fail
     go_roundw
     case rel=>exact ⟨g - 1,r+first,by go_num,by go_num,by omega,by omega,by unfold Hid;omega,Hd,H6,hqt.drewN _⟩
     case measure=>simp [intOf];try omega
   ·have F:=Lib.hid (show gSpec top u2 first d2 g from ⟨by omega,hmore.2 (by omega),H5.out⟩)
    clear hmore H3 H4 H5 hp
    have hgt1:¬ (R:Int)<(p:Int):=by omega
    have hgt2:decide ((R:Int)<(p:Int))=false:=by simp;omega
    go_wp2_with fail
    go_quiet (fail)
    go_wp2_with fail
    go_ret
    exact ⟨g,rfl,F.out,hqt.drewN _⟩
theorem zhu (h:nV zs<pw k):vk zs k=nV zs:=by
 by_cases hk:k<=zs.length
 ·have h1:=zgo zs k hk
  rcases cD (nV (zs.drop k)) with h0 | h0
  ·rw [h0] at h1;omega
  ·have:=bX (pw k) h0
   omega
 ·exact zbv (by omega)
theorem zij {t:Nat} (h:nV zs<pw k) (ht:k<=t):lim zs t=0:=by
 by_cases hk:t<zs.length
 ·have h1:=zhu h
  have h2:vk zs (t+1)=nV zs:=zhu (cK h (zdt (by omega)))
  have h3:vk zs t=nV zs:=zhu (cK h (zdt ht))
  rw [zbc,h3] at h2
  have h4:pw t*lim zs t=0:=by omega
  rcases Nat.mul_eq_zero.1 h4 with h5 | h5
  ·have:=zf4 t;omega
  ·exact h5
 ·exact zcm (by omega)
theorem lt_of_lims (hl:Lb zs) (h:∀ t,k<=t->lim zs t=0):nV zs<pw k:=by
 have h1:∀ j,vk zs (k+j)=vk zs k:=by
  intro j
  induction j with
  | zero=>rfl
  | succ j ih=>rw [<- cL,zbc,ih,h (k+j) (by omega)];simp
 have h2:=h1 zs.length
 rw [zbv (by omega)] at h2
 rw [h2]
 exact vk_lt hl k
theorem guess_fits {us:List Nat} {i2 g:Nat} (hu:Lb us) (hy:Lb ys) (hn:n=ys.length) (h1:i1+1=n) (h2:i2+2=n) (hf:2147483648<=lim ys i1) (hT:nV us<nV ys*4294967296)
  (hg:gSpec (lim us n*4294967296+lim us i1) (lim us i2) (lim ys i1) (lim ys i2) g):nV us / nV ys<=g/\g<=nV us / nV ys+1:=by
 obtain rfl:i1=i2+1:=by omega
 obtain rfl:n=i2+2:=by omega
 obtain ⟨g1,g2,g3⟩:=hg
 have hyp:nV ys<pw (i2+2):=by rw [hn];exact zbf hy
 have hT2:nV us<pw (i2+3):=by
  rw [zar]
  have:=bX 4294967296 (Nat.le_of_lt hyp)
  omega
 have eU:=zhu hT2
 have eY:=zhu hyp
 rw [zbc,zbc,zbc,zar (i2+1),zar i2] at eU
 rw [zbc,zbc,zar i2] at eY
 have hlo:=vk_lt hu i2
 have hdl:=vk_lt hy i2
 generalize vk us i2=lo at *
 generalize vk ys i2=dl at *
 generalize pw i2=P at *
 generalize lim us (i2+2)=un at *
 generalize lim us (i2+1)=u1 at *
 generalize lim us i2=u2 at *
 generalize lim ys (i2+1)=first at *
 generalize lim ys i2=d2 at *
 obtain ⟨U3,hU3⟩:∃ U3,U3=(un*4294967296+u1)*4294967296+u2:=⟨_,rfl⟩
 obtain ⟨V,hV⟩:∃ V,V=first*4294967296+d2:=⟨_,rfl⟩
 rw [<- hU3,<- hV] at g2 g3
 have eT:nV us=lo+P*U3:=by
  rw [<- eU,hU3]
  have e1:P*((un*4294967296+u1)*4294967296+u2)=P*u2+4294967296*(P*u1)+4294967296*(4294967296*(P*un)):=by
   rw [bE,b6,bE,<- bF P u1,<- bF P (un*4294967296),<- bF P un]
   omega
  rw [e1,bF 4294967296 P u1,bF 4294967296 (4294967296*P) un,bF 4294967296 P un]
  omega
 have eD:nV ys=dl+P*V:=by
  rw [<- eY,hV,bE,<- bF P first,bF 4294967296 P first]
  omega
 have hVb:4294967296<=V:=by omega
 have hP:0<P:=by omega
 have hD:0<nV ys:=by
  have:=cW hP hVb
  omega
 constructor
 ·refine Nat.le_of_lt_succ (Nat.div_lt_of_lt_mul ?_)
  rcases g3 with h | h
  ·have e1:=bX P (dC h)
   have e2:P*((g+1)*V)<=(g+1)*nV ys:=by
    rw [cT]
    exact bX _ (by omega)
   have e3:P*(U3+1)=P*U3+P:=dD _ _
   rw [bG (nV ys)]
   simp only [Nat.succ_eq_add_one] at *
   omega
  ·have:=bX (nV ys) h
   simp only [Nat.succ_eq_add_one]
   omega
 ·rcases g with _ | h
  ·exact bK _
  ·refine Nat.succ_le_succ ((Nat.le_div_iff_mul_le hD).2 ?_)
   have e1:=bX P g2
   rw [dS,bE] at e1
   have e2:h*nV ys=h*dl+P*(h*V):=by rw [eD,bE,cT]
   have e3:h*dl<=4294967296*P:=cW (by omega) (by omega)
   have e4:=bX P hVb
   rw [bG P 4294967296] at e4
   omega
theorem top_le {us:List Nat} (hy:Lb ys) (hn:n=ys.length) (h1:i1+1=n) (hT:nV us<nV ys*4294967296):lim us n<=lim ys i1:=by
 subst h1
 have eY:vk ys (i1+1)=nV ys:=by rw [hn];exact zbv (bL _)
 rw [zbc] at eY
 have hdl:=vk_lt hy i1
 have h3:pw (i1+1)*lim us (i1+1)<=nV us:=by
  by_cases hk:i1+1<us.length
  ·have h5:=zgo us (i1+1+1) (by omega)
   rw [zbc] at h5
   omega
  ·rw [zcm (by omega)];simp
 rcases cM (lim ys i1) (lim us (i1+1)) with h | h
 ·have e1:=bX (pw (i1+1)) (dC h)
  rw [zar] at e1 h3
  have e2:4294967296*pw i1*(lim ys i1).succ=4294967296*(pw i1*lim ys i1)+4294967296*pw i1:=by rw [dD,bF]
  omega
 ·exact h
theorem took {g:Nat} (hz:Lb zs) (hk:k<=zs.length) (hT:nV zs<nV ys*pw (k+1)) (hg:nV (zs.drop k) / nV ys<=g/\g<=nV (zs.drop k) / nV ys+1)
  (hv:nV zs1+pw k*(g*nV ys)=nV zs):nV zs1<nV ys*pw k:=by
 have h1:=zgo zs k hk
 have h2:=vk_lt hz k
 have hD:0<nV ys:=by
  rcases cD (nV ys) with h | h
  ·rw [h] at hT;omega
  ·exact h
 generalize nV (zs.drop k)=T at *
 have h3:T<(T / nV ys+1)*nV ys:=by
  have:=Nat.lt_div_mul_add (a:=T) hD
  rw [b6,Nat.one_mul];exact this
 have h4:T<(g+1)*nV ys:=cK h3 (bN _ (by omega))
 have h5:=bX (pw k) (dC h4)
 rw [b6,Nat.one_mul,bE] at h5
 have h6:pw k*T.succ=pw k*T+pw k:=dD _ _
 rw [bG (nV ys)]
 omega
theorem take_zero {g:Nat} (hz:Lb zs) (hz1:Lb zs1) (hk:k<=zs.length) (hy:Lb ys) (hT:nV zs<nV ys*pw (k+1))
  (hg:nV (zs.drop k) / nV ys<=g/\g<=nV (zs.drop k) / nV ys+1) (hlim:∀ t,k+ys.length<t->lim zs1 t=lim zs t)
  (hv:nV zs1+pw k*(g*nV ys)=nV zs+pw (k+(ys.length+1))):nV zs1<pw (k+(ys.length+1))/\1<=g/\g - 1=nV (zs.drop k) / nV ys/\pw k*((g - 1)*nV ys)<=nV zs:=by
 have h0:nV zs<pw (k+(ys.length+1)):=by
  have e:pw (k+(ys.length+1))=pw ys.length*pw (k+1):=by rw [<- zgc];congr 1;omega
  rw [e]
  exact cK hT (bN _ (Nat.le_of_lt (zbf hy)))
 have hD:0<nV ys:=by
  rcases cD (nV ys) with h | h
  ·rw [h] at hT;omega
  ·exact h
 have hz2:nV zs1<pw (k+(ys.length+1)):=lt_of_lims hz1 (fun t ht=>by rw [hlim t (by omega)];exact zij h0 ht)
 have h1:=zgo zs k hk
 have h2:=vk_lt hz k
 generalize nV (zs.drop k)=T at *
 have h3:T<g*nV ys:=by
  rcases cM T (g*nV ys) with h | h
  ·exact h
  ·have:=bX (pw k) h
   omega
 have h4:T / nV ys<g:=(eC hD).2 h3
 have h6:=bX (pw k) (Nat.div_mul_le_self T (nV ys))
 generalize T / nV ys=q at *
 have h5:g - 1=q:=by have:=hg.2;omega
 refine ⟨hz2,by omega,h5,?_⟩
 rw [h5]
 omega
theorem put_val {zs2:List Nat} {g x:Nat} (hx:x<=1) (hg:1<=g)
  (hv:nV zs1+pw k*(g*nV ys)=nV zs+pw (k+(ys.length+1))) (hle:pw k*((g - 1)*nV ys)<=nV zs) (h2:nV zs2<pw (k+(ys.length+1)))
  (hp:nV zs2+pw (k+(ys.length+1))*x=nV zs1+pw k*nV ys):nV zs2+pw k*((g - 1)*nV ys)=nV zs:=by
 obtain ⟨h,rfl⟩:∃ h,g=h+1:=⟨g - 1,by omega⟩
 rw [eE] at hle ⊢
 rw [dS,bE] at hv
 rcases x with _ | x
 ·omega
 ·obtain rfl:x=0:=by omega
  omega
theorem undInt:Tryz.prog.underlying 3=some (.int .i64):=Tryz.underlying3
theorem zeroCells32 (n:Nat):Builtin.zeroCells (Value.int .u32 0).cells n=((List.replicate n 0).map fun (x:Nat)=>Value.int .u32 (x:Int)).toArray:=by
 unfold Builtin.zeroCells
 apply Array.ext
 ·simp [Value.cells]
 ·intro i h1 h2
  simp [Value.cells,Nat.mod_one]
theorem cells32:(Value.int .u32 0).cells=#[Value.int .u32 0]:=rfl
section
variable (w:World) (ty:TypeId) (L:Nat)
theorem app_room (g n cap:Nat) (cur:Array Value) (hg:w.heap[g]?=some (.cells cur 128 (0,0))) (hL:L<=4294967296) (hroom:n+L<=cap) (hfit:n+L<=cur.size) :
  (Builtin.append_ #[26,3] ty #[.slice (some ⟨g,0,none⟩) n cap,.int .i64 (L:Int)]).run eQ w =
   .ok (.slice (some ⟨g,0,none⟩) (n+L) cap) (w.setRow g (cur.toList.take n++((List.replicate L 0).map fun (x:Nat)=>Value.int .u32 (x:Int))++cur.toList.drop (n+L)).toArray):=by
 obtain ⟨i0,hi,hz0,hz1,hz2⟩:=info_parts zla
 have wl:IntKind.i64.wrap (L:Int)=(L:Int):=by rw [IntKind.wrap_i64];omega
 have c1:¬ ((L:Int)<0):=by omega
 have c2:¬ (281474976710656<(L:Int)*4):=by omega
 have hst:=run_storeCells_at eQ g n 128 ((List.replicate L 0).map fun (x:Nat)=>Value.int .u32 (x:Int)) 0 cur w hg (by simpa using hfit) (fun u hu=>by simp at hu;obtain ⟨_,rfl⟩:=hu;rfl)
 simp only [dB] at hst
 rcases cD L with h0 | hp
 ·subst h0
  have w0:IntKind.i64.wrap 0=0:=by decide
  simp [Builtin.append_,run_underlying und,run_underlying undInt,sizeOf,typeInfo,hi,hz1,hz2,asInt,asIntOf,w0]
  have hn:n<=cap:=by omega
  simp at hst
  simp [hn,storeCells] at hst ⊢
  exact hst
 ·have hp':¬ L=0:=by omega
  simp [Builtin.append_,run_underlying und,run_underlying undInt,sizeOf,typeInfo,zeroValue,hi,hz0,hz1,hz2,asInt,asIntOf,wl,c1,c2,hroom,hp', zeroCells32,Addr.add_lit]
  simp at hst
  simp [hst]
theorem app_grow (ao:Option Addr) (n cap:Nat) (olds:List Value) (hao:ao=none->n=0) (hlo:olds.length=n) (holds:∀ b,ao=some b->∀ j v,olds[j]?=some v->w.cell? (b.add j)=some v)
  (hL:L<=4294967296) (hn:n<=4294967296) (hg:cap<n+L) :
  (Builtin.append_ #[26,3] ty #[.slice ao n cap,.int .i64 (L:Int)]).run eQ w =
   .ok (.slice (some ⟨w.heap.size,0,none⟩) (n+L) (grownCap w (n+L) cap 128))
    (w.drew.alloc (.cells (olds.toArray++((List.replicate L 0).map fun (x:Nat)=>Value.int .u32 (x:Int)).toArray++Builtin.zeroCells (Value.int .u32 0).cells (grownCap w (n+L) cap 128 - (n+L))) 128)):=by
 obtain ⟨i0,hi,hz0,hz1,hz2⟩:=info_parts zla
 have wl:IntKind.i64.wrap (L:Int)=(L:Int):=by rw [IntKind.wrap_i64];omega
 have c1:¬ ((L:Int)<0):=by omega
 have c2:¬ (281474976710656<(L:Int)*4):=by omega
 have c3:¬ (n+L<=cap):=by omega
 have c4:¬ (9223372036854775807<((n:Int)+(L:Int))):=by omega
 have c5:¬ (281474976710656<Builtin.nextslicecap (n+L) cap*4):=by
  have:=growslice_fits (need:=n+L) (old:=cap) (bytes:=4) (by omega) (by omega)
  omega
 have hf:(Builtin.firstCells 1 n (.slice ao n cap)).run eQ w.drew = .ok olds.toArray w.drew:=by
  rcases ao with _ | b
  ·have:olds=[]:=dQ.1 (by rw [hlo];exact hao rfl)
   subst this
   simp [Builtin.firstCells,Sem.run_pure]
  ·exact run_firstCells_some (P:=eQ) w.drew 1 n b n cap olds (by simpa using hlo) (by simpa using holds b rfl)
 by_cases hL0:L=0
 ·subst hL0
  have w0:IntKind.i64.wrap 0=0:=by decide
  simp [Builtin.append_,run_underlying und,run_underlying undInt,sizeOf,typeInfo,zeroValue,hi,hz0,hz1,hz2,asInt,asIntOf,w0] 
  have c3':¬ (n<=cap):=by omega
  have c4':¬ (9223372036854775807<(n:Int)):=by omega
  simp at c5
  simp [c3', c4', Question.forced,hf,newRow,grownCap]
  omega
 ·simp [Builtin.append_,run_underlying und,run_underlying undInt,sizeOf,typeInfo,zeroValue,hi,hz0,hz1,hz2,asInt,asIntOf,wl,c1,c2,c3,c4,c5,hL0,Question.forced,hf,newRow,grownCap,zeroCells32]
end
theorem pushZ {wi:World} {ops:Array Oper} {rest:List Oper} {o:Oper} {Q:Exit->Act->World->Prop} (hgd:o.guard=none) (s x:Operand)
  (ho:o.op = .call { callee:=.builtin .append,args:=#[s,x],argTypes:=#[26,3] })
  (ao:Option Addr) (c:Nat) (zs:List Nat) (n:Nat) (hn:n=zs.length) (hs:a.eval s = .slice ao n c) (hown:Own w B ao c zs)
  (E:Int) (hx:a.eval x = .int .i64 E) (hE:0<=E) (hlen:(zs.length:Int)+E<=4294967296) (hB:wi.heap.size<=B) (hext:Ext wi w) (hBw:B<=w.heap.size)
  (h:∀ ao' c' w', Own w' B ao' c' (zs++List.replicate E.toNat 0)->Ext wi w'->w.grownBy w' (Value.slice ao zs.length c).ownBlock->wpList eQ ops Q rest (a.put o.dst (.slice ao' (zs.length+E.toNat) c')) w') :
  wpList eQ ops Q (o :: rest) a w:=by
 subst hn
 obtain ⟨L,rfl⟩:=Int.eq_ofNat_of_zero_le hE
 have hll:(zs++List.replicate L 0).length=zs.length+L:=by simp
 have hlb:Lb (zs++List.replicate L 0):=Lb_append hown.lb (fun z hz=>by have:=List.eq_of_mem_replicate hz;omega)
 have key:∃ ao' c' w', (Builtin.append_ #[26,3] o.type #[.slice ao zs.length c,.int .i64 (L:Int)]).run eQ w = .ok (.slice ao' (zs.length+L) c') w'/\Own w' B ao' c' (zs++List.replicate L 0)/\w.grownBy w' (Value.slice ao zs.length c).ownBlock:=by
  by_cases hroom:zs.length+L<=c/\ao≠none
  ·obtain ⟨hroom,hne⟩:=hroom
   rcases hown.row.2 with ⟨hv,hn⟩ | ⟨g,cap,cur,hv,hb,hg,hnc,hcm,hcs,htake⟩
   ·simp at hv;exact absurd hv.1 hne
   ·simp only [Value.slice.injEq,true_and] at hv
    obtain ⟨rfl,rfl⟩:=hv
    have hcu:cur.toList.length=cur.size:=rfl
    have hz1:((List.replicate L 0).map fun (x:Nat)=>Value.int .u32 (x:Int)).length=L:=by simp
    generalize hzz:((List.replicate L 0).map fun (x:Nat)=>Value.int .u32 (x:Int))=zz at hz1
    have har:=app_room w o.type L g zs.length c cur hg (by omega) hroom (by rw [hcs];omega)
    rw [hzz] at har
    refine ⟨_,_,_,har,⟨hlb,by simp,.inr ⟨g,c,_,by rw [hll],hb,setRow_heap w g cur _ _ _ hg,by omega,hcm,?_,?_⟩⟩,⟨rfl,rfl,rfl,by simp,fun k _ hk=>setRow_other w g k _ (fun e=>hk (by simp [Value.ownBlock,e]))⟩⟩
    ·rw [List.size_toArray,bC,bC,bP,bU,hz1,hcu]
     omega
    ·simp only [c8] at htake
     rw [hll,c8,cY,hzz,htake]
     have h1:(zs.map fun (x:Nat)=>Value.int .u32 (x:Int)).length=zs.length:=by simp
     show List.take (zs.length+L) ((zs.map fun (x:Nat)=>Value.int .u32 (x:Int))++zz++List.drop (zs.length+L) cur.toList)=_
     rw [eM (by rw [bC,h1,hz1];omega),eN (by rw [bC,h1,hz1];omega)]
  ·have hgrow:c<zs.length+L\/(ao=none/\L=0):=by
    by_cases hc:c<zs.length+L
    ·exact .inl hc
    ·right
     have hnone:ao=none:=by
      cases ao with
      | none=>rfl
      | some a=>exact absurd ⟨by omega,by simp⟩ hroom
     have:=hown.rd.nl hnone
     exact ⟨hnone,by omega⟩
   rcases hgrow with hc | ⟨rfl,rfl⟩
   ·have hge:=grownCap_ge w (zs.length+L) c 128
    have hle:=grownCap_le_maxLen w (zs.length+L) c 128 (by unfold maxLen;omega)
    refine ⟨_,_,_,app_grow w o.type L ao zs.length c (zs.map fun (x:Nat)=>Value.int .u32 (x:Int)) ?_ (by simp) ?_ (by omega) (by omega) hc,⟨hlb,by simp,.inr ⟨w.heap.size,_,_,by rw [hll],hBw,heap_alloc_new w.drew _,by omega,hle,?_,?_⟩⟩,⟨rfl,rfl,rfl,by simp,fun k hk _=>heap_alloc_old w.drew _ (by simpa using hk)⟩⟩
    ·intro e
     rcases cD zs.length with h0 | hp
     ·exact h0
     ·have:=hown.rd.ad hp
      rw [e] at this;simp at this
    ·intro b hb j v hj
     have hlt:j<zs.length:=by have:=(b9.1 hj).1;simpa using this
     rw [d8,zcq hlt] at hj
     simp at hj
     subst hj
     have h0:=hown.rd.cell j hlt
     have h1:=hown.rd.ad (by omega)
     rw [hb] at h0 h1
     simp only [bk,of,Option.some.injEq] at h0 h1
     have h2:b.add j=⟨b.block,b.off+j,none⟩:=by
      unfold Addr.add
      split
      ·subst_vars;exact h1
      ·rfl
     rw [h2];exact h0
    ·simp [size_zeroCells,cells32]
     omega
    ·rw [hll,c8]
     simp only [eK,cY]
     rw [eM (by simp)]
     rw [eN (by simp)]
   ·have hz:=hown.rd.ad
    have e1:zs=[]:=by
     rcases cD zs.length with h0 | hp
     ·exact dQ.1 h0
     ·have:=hz hp;simp at this
    subst e1
    have ec:=hown.rd.nl rfl
    subst ec
    obtain ⟨i0,hi,hz0,hz1,hz2⟩:=info_parts zla
    have w0:IntKind.i64.wrap 0=0:=by decide
    refine ⟨none,0,w,?_,Own.nil _ _,World.grownBy.refl _ _⟩
    simp [Builtin.append_,run_underlying und,run_underlying undInt,sizeOf,typeInfo,hi,hz2,asInt,asIntOf,w0]
 obtain ⟨ao', c', w', hrun,hown', hg'⟩:=key
 refine wpList_plain hgd fun K hK=>?_
 unfold Oper.wp
 simp [execOp,ho,resolve,invoke,builtin,hs,hx,hrun,Result.andThen]
 refine hK _ _ (h ao' c' w' hown' (hext.grown hg' (fun k hk=>by have:=(hown.lt k hk).1;omega)) hg')
theorem vd_div {xs:List Nat} (hx:Lb xs) (k:Nat):nV xs / pw k=vd xs k:=by
 by_cases h:k<=xs.length
 ·have h1:=zgo xs k h
  have h2:=vk_lt hx k
  rw [h1,eF _ _ (zf4 k),dA h2,b8]
  rfl
 ·rw [vd_end (by omega)]
  exact dA (cK (zbf hx) (zdt (by omega)))
theorem mod_step (Q k:Nat):Q % pw (k+1)=Q % pw k+pw k*(Q / pw k % 4294967296):=by
 rw [zar,bG 4294967296,Nat.mod_mul]
theorem right_limb {xs:List Nat} (hx:Lb xs) (r k:Nat) (hr:r<32):nV xs / 2 ^ r / pw k % 4294967296=(lim xs (k+1)*4294967296+lim xs k) / 2 ^ r % 4294967296:=by
 rw [eG,bG,<- eG,vd_div hx]
 have e:∀ j,vd xs j=lim xs j+4294967296*vd xs (j+1):=by
  intro j
  by_cases h:j<xs.length
  ·exact vd_step h
  ·rw [vd_end (by omega),vd_end (by omega),zcm (by omega)]
 have h32:(4294967296:Nat)=2 ^ r*2 ^ (32 - r):=by
  rw [<- c7]
  have:r+(32 - r)=32:=by omega
  rw [this]
 have h1:vd xs k=(lim xs (k+1)*4294967296+lim xs k)+2 ^ r*(2 ^ (32 - r)*4294967296*vd xs (k+1+1)):=by
  rw [e k,e (k+1),<- bF,<- bF (2 ^ r),<- h32,bE,<- bF]
  omega
 rw [h1,eF _ _ (c6 r)]
 rw [show 2 ^ (32 - r)*4294967296*vd xs (k+1+1)=4294967296*(2 ^ (32 - r)*vd xs (k+1+1)) by rw [bG (2 ^ (32 - r)),bF],eO]
theorem Own.capEq {c c':Nat} (h:Own w B ao c zs) (e:c=c'):Own w B ao c' zs:=e ▸ h
def RightR (w:World) (xs:List Nat) (q r:Nat) (out i:Value) (wr:World):Prop :=
  ∃ (j:Nat) (po:Option Addr) (pc:Nat) (zs:List Nat),q<=j/\j<=xs.length/\i = .int .i64 j/\out = .slice po zs.length pc/\Hid (q+zs.length=j)/\Own wr w.heap.size po pc zs/\Ext w wr /\
    Hid (nV zs=nV (xs.drop q) / 2 ^ r % pw zs.length)
theorem right_val {xs:List Nat} (hx:Lb xs) {q r:Nat} (hq:q=K / 32) (hr:r=K % 32):nV xs / 2 ^ K=nV (xs.drop q) / 2 ^ r:=by
 have h1:nV (xs.drop q)=nV xs / pw q:=(vd_div hx q).symm
 have h2:2 ^ K=pw q*2 ^ r:=by
  unfold pw
  rw [show (4294967296:Nat)=2 ^ 32 from rfl,<- Nat.pow_mul,<- c7];congr 1;omega
 rw [h1,h2,eG]
set_option maxHeartbeats 2000000 in
theorem Right_max (ao:Option Addr) (n c:Nat) (xs:List Nat) (E:Int) (K:Nat) (w:World) (hn:n=xs.length) (hE:max E 0=(K:Int)) (hE2:K<9223372036854775808) (ha:Rd w ao c xs) (hl:xs.length<=1000000) :
  Calls eQ 215 #[.slice ao n c,.int .i64 E] w (GotN w (nV xs / 2 ^ K)):=by
 subst hn
 have hA:=ha.trm
 have lA:=zgz xs
 have mA:=hA.mx
 have cA:=hA.cap
 rw [<- zcw xs]
 obtain ⟨q,hq⟩:∃ q,q=K / 32:=⟨_,rfl⟩
 obtain ⟨r,hr⟩:∃ r,r=K % 32:=⟨_,rfl⟩
 have hq1:(K:Int) / 32=(q:Int):=by omega
 have hr1:(K:Int) % 32=(r:Int):=by omega
 have hqb:q<9223372036854775808:=by omega
 have hrb:r<32:=by omega
 have hv:=right_val hA.lb hq hr
 have Hv:=Lib.hid hv
 have hK0:¬ (K:Int)<0:=by omega
 clear hv hq hr
 by_cases hql:q<(trm xs).length
 ·go_enter Tryz.func215,Tryz.ntmps215
  go_wp2_with fail
  refine (zav ao _ c xs w rfl ha).mono ?_
  rintro e w' ⟨rfl,rfl⟩
  go_wp2_with (at_make;refine mk0 rfl _ _ rfl _ _ _ rfl rfl ?_ ?_ (Ext.refl w) ?_;omega;omega;intro w1 hown hext)
  go_loopw [7,8] (RightR w (trm xs) q r) (fun _ i _=>((trm xs).length - intOf i).toNat)
  case atStart=>exact ⟨q,_,_,[],by omega,by omega,rfl,rfl,rfl,hown.capEq (by omega),hext,by unfold Hid;simp [nV,pw,Nat.mod_one]⟩
  case round =>
   obtain ⟨j,po,pc,zs,hqj,hk,rfl,rfl,hzl,hown,hext,heq⟩:=hrel
   have hzb:zs.length<=1100000:=by have:=hzl.out;omega
   by_cases hkA:j<(trm xs).length
   ·have hx:=(hA.ext hext).cell j hkA
    have hix:=ixk hA (trm xs).length rfl j hkA wr
    have bx:=zbk hA.lb j
    have bx2:=zbk hA.lb (j+1)
    have hrl:=right_limb (Lb_drop hA.lb q) r zs.length hrb
    rw [zly,zly,<- cL,hzl.out] at hrl
    have hor:=zkc (lim (trm xs) (j+1)) (lim (trm xs) j) bx2 bx
    have hor0:=zkc 0 (lim (trm xs) j) (by omega) bx
    have hst:nV (zs++[(lim (trm xs) (j+1)*4294967296+lim (trm xs) j) / 2 ^ r % 4294967296])=nV ((trm xs).drop q) / 2 ^ r % pw (zs.length+1):=by
     rw [zeu,mod_step,heq.out,hrl]
    have Hst:=Lib.hid hst
    obtain ⟨H,hH⟩:∃ H,H=lim (trm xs) (j+1)*4294967296+lim (trm xs) j:=⟨_,rfl⟩
    have hHb:H<18446744073709551616:=by omega
    obtain ⟨G,hG⟩:∃ G,G=H / 2 ^ r:=⟨_,rfl⟩
    have hGb:G<18446744073709551616:=by rw [hG];exact Nat.lt_of_le_of_lt (Nat.div_le_self _ _) hHb
    have hG1:(H:Int) / 2 ^ r=(G:Int):=by rw [hG,Int.natCast_ediv,Int.natCast_pow];rfl
    rw [<- hH] at hor Hst
    rw [<- hG] at Hst
    clear hst hrl heq hG
    by_cases hkB:j+1<(trm xs).length
    ·have hx2:=(hA.ext hext).cell (j+1) hkB
     have hix2:=ixe hA (trm xs).length rfl ((j:Int)+1) (j+1) (by omega) hkB wr
     clear hor0 hH
     go_wp2_with (at_builtin;refine push (wi:=w) rfl _ _ rfl _ _ zs _ rfl rfl hown _ ?_ ?_ rfl ?_ rfl hext ?_;omega;omega;omega;intro ao' c' w2 hown2 hext2)
     go_roundw
     case rel=>exact ⟨j+1,ao', c', zs++[G % 4294967296],by omega,by omega,by go_num,by simp,by unfold Hid;have:=hzl.out;simp;omega,hown2.snocEq (by omega),hext2,by unfold Hid;rw [bC];exact Hst.out⟩
     case measure=>simp [intOf];try omega
    ·have hl0:lim (trm xs) (j+1)=0:=zcm (by omega)
     rw [hl0] at hH
     have hH2:H=lim (trm xs) j:=by omega
     rw [<- hH2] at hx bx
     clear hH hor hor0 hl0 hH2 bx2
     have hor1:bits BinOp.or .u64 0 (H:Int)=(H:Int):=by have:=zkc 0 H (by omega) bx;simpa using this
     go_wp2_with (at_builtin;refine push (wi:=w) rfl _ _ rfl _ _ zs _ rfl rfl hown _ ?_ ?_ rfl ?_ rfl hext ?_;omega;omega;omega;intro ao' c' w2 hown2 hext2)
     go_roundw
     case rel=>exact ⟨j+1,ao', c', zs++[G % 4294967296],by omega,by omega,by go_num,by simp,by unfold Hid;have:=hzl.out;simp;omega,hown2.snocEq (by omega),hext2,by unfold Hid;rw [bC];exact Hst.out⟩
     case measure=>simp [intOf];try omega
   ·have hv:nV zs=nV (trm xs) / 2 ^ K:=by
     rw [heq.out,Hv.out]
     apply dR
     refine Nat.lt_of_le_of_lt (Nat.div_le_self _ _) (zb5 (Lb_drop hA.lb q) ?_)
     have:=hzl.out
     rw [bU];omega
    have HV:=Lib.hid hv
    clear hv heq
    go_wp2_with fail
    refine (zdk _ _ _ _ _ rfl hown.rd (by omega)).mono ?_
    intro e w' hg
    rw [HV.out] at hg
    obtain ⟨ao3,c3,zs3,rfl,h3⟩:=hg.from hext
    go_wp2_with fail
    go_ret
    exact ⟨ao3,c3,zs3,rfl,h3⟩
 ·have hv:nV (trm xs) / 2 ^ K=0:=by
   rw [Hv.out,List.drop_eq_nil_of_le (by omega)];simp [nV]
  rw [hv]
  clear hv
  go_enter Tryz.func215,Tryz.ntmps215
  go_wp2_with fail
  refine (zav ao _ c xs w rfl ha).mono ?_
  rintro e w' ⟨rfl,rfl⟩
  go_wp2_with fail
  go_ret
  exact ⟨none,0,[],rfl,Own.nil _ _,zdf,rfl,Ext.refl _⟩
theorem Right_any (ao:Option Addr) (n c:Nat) (xs:List Nat) (E:Int) (K:Nat) (w:World) (hn:n=xs.length) (hE:E=(K:Int)) (hE2:K<9223372036854775808) (ha:Rd w ao c xs) (hl:xs.length<=1000000) :
  Calls eQ 215 #[.slice ao n c,.int .i64 E] w (GotN w (nV xs / 2 ^ K)):=Right_max ao n c xs E K w hn (by omega) hE2 ha hl
theorem Own.at0 {c:Nat} (h:Own w B ao c zs) (hp:0<zs.length):∃ g,ao=some ⟨g,0,none⟩/\B<=g/\g<w.heap.size:=by
 obtain ⟨h1,h2,h3,h4⟩:=h.blk hp
 exact ⟨_,h4,h1,h2⟩
theorem ownB_ne {g c:Nat} (hne:h≠g):(Value.slice (some ⟨h,0,none⟩) n c).ownBlock≠some g:=by simpa [Value.ownBlock] using hne
theorem norm_len {ds:List Nat} {x:Nat} (hy:Lb ys) (hn:n=ys.length) (h1:i1+1=n) (hx:x=lim ys i1) (h0:x≠0) (hd:zd1 ds) (hv:nV ds=nV ys*2 ^ (32 - bl x)) :
  ds.length=n/\2147483648<=lim ds i1:=by
 subst h1
 have bx:x<4294967296:=by rw [hx];exact zbk hy _
 obtain ⟨b1,b2,b3,b4⟩:=bl_spec h0 bx
 have eY:vk ys (i1+1)=nV ys:=by rw [hn];exact zbv (bL _)
 rw [zbc,<- hx] at eY
 have hl:=vk_lt hy i1
 obtain ⟨s,hs⟩:∃ s,s=32 - bl x:=⟨_,rfl⟩
 rw [<- hs] at hv
 have e31:2 ^ (bl x - 1)*2 ^ s=2147483648:=by rw [<- c7,show bl x - 1+s=31 by omega]
 have e32:2 ^ bl x*2 ^ s=4294967296:=by rw [<- c7,show bl x+s=32 by omega]
 have lo:2147483648*pw i1<=nV ds:=by
  rw [hv,<- e31,Nat.mul_right_comm]
  refine bN _ ?_
  have:=bX (pw i1) b3
  rw [bG]
  omega
 have hi:nV ds<pw (i1+1):=by
  rw [zar,hv,<- e32,Nat.mul_right_comm]
  refine Nat.mul_lt_mul_of_pos_right ?_ (c6 s)
  have:=bX (pw i1) (dC b4)
  rw [dD] at this
  rw [bG (2 ^ bl x)]
  omega
 have hlen:ds.length=i1+1:=by
  have h1:=zb2 hd hi
  rcases cM ds.length (i1+1) with h | h
  ·have h2:=zb5 hd.1 (show ds.length<=i1 by omega)
   have:=zf4 i1
   omega
  ·omega
 refine ⟨hlen,?_⟩
 have eD:vk ds (i1+1)=nV ds:=zbv (by omega)
 rw [zbc] at eD
 have hl2:=vk_lt hd.1 i1
 rcases cM (lim ds i1) 2147483648 with h | h
 ·have:=bX (pw i1) (dC h)
  rw [dD] at this
  rw [bG] at lo
  omega
 ·exact h
def LongR (w1 w3:World) (g uc gq qc N U:Nat) (ds:List Nat) (k:Value) (wr:World):Prop :=
  ∃ (j:Nat) (zs qs:List Nat),k = .int .i64 ((j:Int) - 1)/\j+ds.length<=N/\Hid (zs.length=N)/\Hid (qs.length+ds.length=N)/\Own wr w1.heap.size (some ⟨g,0,none⟩) uc zs/\Own wr w3.heap.size (some ⟨gq,0,none⟩) qc qs/\Ext w1 wr /\
    Hid (nV zs+nV ds*nV qs=U)/\Hid (nV zs<nV ds*pw j)/\Hid (∀ t,t<j->lim qs t=0)
def Got2 (w:World) (p r:Nat) (e:Ending) (w':World):Prop :=
  ∃ ao c xs bo d ys,e = .returned (.tuple #[.slice ao xs.length c,.slice bo ys.length d])/\Own w' w.heap.size ao c xs/\zd1 xs/\nV xs=p/\Own w' w.heap.size bo d ys/\zd1 ys/\nV ys=r/\Ext w w'
theorem quot_step {z1:List Nat} {g D U:Nat} (hq:lim qs k=0) (hk:k<qs.length) (hv:nV z1+pw k*(g*D)=nV zs) (hu:nV zs+D*nV qs=U):Hid (nV z1+D*nV (qs.set k g)=U):=by
 unfold Hid
 have h1:=zin (y:=g) hk
 rw [hq,Nat.mul_zero,dB] at h1
 rw [h1,bE,<- hu,<- hv]
 have:D*(pw k*g)=pw k*(g*D):=by rw [cT,bG D]
 omega
theorem quot_end {z q X Y P:Nat} (hP:0<P) (hv:z+(Y*P)*q=X*P) (hz:z<Y*P):q=X / Y/\z / P=X % Y:=by
 have hYP:0<Y*P:=by omega
 have h1:X*P / (Y*P)=q:=by rw [<- hv,eF _ _ hYP,dA hz,b8]
 have h2:X*P % (Y*P)=z:=by rw [<- hv,eO,dR hz]
 rw [Nat.mul_div_mul_right _ _ hP] at h1
 rw [Nat.mul_mod_mul_right] at h2
 exact ⟨h1.symm,by rw [<- h2,Nat.mul_div_cancel _ hP]⟩
theorem long_any (ao:Option Addr) (n c:Nat) (xs:List Nat) (bo:Option Addr) (m d:Nat) (ys:List Nat) (i1:Nat) (w:World) (hn:n=xs.length) (hm:m=ys.length) (h1:i1+1=m) (h2:2<=m) (hmn:m<=n)
  (ha:Rd w ao c xs) (hb:Rd w bo d ys) (h0:lim ys i1≠0) (hl:n<=900000) :
  Calls eQ 197 #[.slice ao n c,.slice bo m d] w (Got2 w (nV xs / nV ys) (nV xs % nV ys)):=by
 have mA:=ha.mx
 have cA:=ha.cap
 have mB:=hb.mx
 have cB:=hb.cap
 have xb:=ixe hb m hm ((m:Int) - 1) i1 (by omega) (by omega)
 have kb:=hb.cell i1 (by omega)
 have bx:=zbk hb.lb i1
 obtain ⟨x,hx⟩:∃ x,x=lim ys i1:=⟨_,rfl⟩
 have hno:=fun ds=>norm_len (ds:=ds) hb.lb hm h1 hx (by omega)
 rw [<- hx] at h0 bx kb
 obtain ⟨b1,b2,b3,b4⟩:=bl_spec h0 bx
 clear b3 b4
 obtain ⟨s,hs⟩:∃ s,s=32 - bl x:=⟨_,rfl⟩
 have hs1:(32:Int) - (bl x:Int)=(s:Int):=by omega
 have hs2:s<=31:=by omega
 rw [<- hs] at hno
 have Hn:=Lib.hid hn
 have Hm:=Lib.hid hm
 have H1:=Lib.hid h1
 clear hs hx hn hm h1
 go_enter Tryz.func197,Tryz.ntmps197
 go_wp2_with fail
 refine (Lead32_any x bx _).mono ?_
 rintro e w' ⟨rfl,rfl⟩
 rw [hs1]
 clear hs1
 go_wp2_with fail
 refine (Left_any bo _ d ys _ s _ Hm.out rfl hb (by have:=Hm.out;omega) (by omega)).mono ?_
 rintro e w1 ⟨dao,dc,ds,rfl,od,cd,vd1,ed⟩
 obtain ⟨dl,df⟩:=hno ds cd vd1
 have Dl:=Lib.hid dl
 have dle:ds.length<=n:=by omega
 have dge:2<=ds.length:=by omega
 have Vd:=Lib.hid vd1
 clear dl vd1 hno
 go_wp2_with fail
 refine (Left_any ao _ c xs _ s _ Hn.out rfl (ha.ext ed) (by have:=Hn.out;omega) (by omega)).mono ?_
 rintro e w2 ⟨mao,mc,ms,rfl,om,cm,vm,em⟩
 have lm:ms.length<=n+1:=by
  refine zb2 cm ?_
  rw [vm,zar,bG]
  have h3:=zb5 ha.lb (show xs.length<=n by have:=Hn.out;omega)
  have h4:2 ^ s<=2 ^ 31:=cR (by omega) hs2
  exact Nat.mul_lt_mul_of_le_of_lt (by omega) h3 (by omega)
 have Vm:=Lib.hid vm
 clear vm
 go_wp2_with (first
  | (at_builtin;refine pushZ (wi:=w1) rfl _ _ rfl _ _ ms _ rfl rfl om _ rfl ?_ ?_ (bL _) em em.size ?_;omega;omega;intro uao uc w3 ou eu gu)
  | (at_make;refine mkf (wi:=w1) rfl _ _ rfl _ _ _ rfl rfl ?_ ?_ eu ?_;omega;omega;intro w4 oq eq e14))
 obtain ⟨us,hus⟩:∃ us,us=ms++List.replicate (((n:Int)+1 - (ms.length:Int))).toNat 0:=⟨_,rfl⟩
 have lus:us.length=n+1:=by rw [hus,bC,eP];omega
 have vus:nV us=nV xs*2 ^ s:=by rw [hus,zhv,zc5,Vm.out];simp
 rw [<- hus] at ou
 obtain ⟨g,rfl,g1,g2⟩:=ou.at0 (by omega)
 have U0:nV us<nV ds*pw (n+1 - ds.length):=by
  have Dl':=Dl.out
  have h3:=zb5 ha.lb (show xs.length<=n by have:=Hn.out;omega)
  have h4:2 ^ s<=2 ^ 31:=cR (by omega) hs2
  have h5:2147483648*pw i1<=nV ds:=by
   have h6:vk ds (i1+1)=nV ds:=zbv (by have:=H1.out;omega)
   rw [zbc] at h6
   have:=bX (pw i1) df
   rw [bG]
   omega
  have h7:pw n=pw i1*pw (n+1 - ds.length):=by rw [<- zgc];congr 1;have:=H1.out;omega
  have h8:=bN (pw (n+1 - ds.length)) h5
  rw [bF,<- h7] at h8
  rw [vus]
  have h9:nV xs*2 ^ s<pw n*2 ^ 31:=Nat.mul_lt_mul_of_lt_of_le h3 h4 (by omega)
  omega
 have Vus:=Lib.hid vus
 have Lus:=Lib.hid lus
 have HU0:=Lib.hid U0
 clear vus U0 lus hus
 go_loopw [13] (LongR w1 w3 g uc w3.heap.size (n+1 - ds.length) (n+1) (nV xs*2 ^ s) ds) (fun k _=>(intOf k+1).toNat)
 case atStart=>exact ⟨n+1 - ds.length,us,List.replicate (((n:Int)+1 - (ds.length:Int))).toNat 0,by go_num,by omega,Lus,by unfold Hid;rw [eP];omega,ou.ext eq,oq.capEq (by omega),e14,by unfold Hid;rw [zc5,Vus.out];simp,HU0,fun t _=>zfs _ t⟩
 case round =>
  obtain ⟨j,zs,qs,rfl,hj,hzl,hql,oz,oq,e1r,hv,hlt,hq0⟩:=hrel
  rcases j with _ | k
  ·have zl:=hzl.out
   have czl:=oz.rd.cap
   have hv0:=hv.out
   rw [Vd.out] at hv0
   have hz0:nV zs<nV ys*2 ^ s:=by have:=hlt.out;rw [pw_zero,c8,Vd.out] at this;exact this
   obtain ⟨r1,r2⟩:=quot_end (c6 s) hv0 hz0
   have hzt:nV (zs.take ds.length)=nV zs:=zhu (Nat.lt_trans hz0 (by rw [<- Vd.out];exact zbf cd.1))
   have oT:=oz.rd.take ds.length (by omega) uc (by rw [bP];omega) (bL _)
   have lT:ds.length=(zs.take ds.length).length:=by rw [bP];omega
   have R1:=Lib.hid r1
   have R2:=Lib.hid r2
   have Hzt:=Lib.hid hzt
   have LT:=Lib.hid lT
   have hb1:(ds.length:Int)<=(uc:Int):=by omega
   have hb2:ds.length<=uc:=by omega
   have hqb:qs.length<=1000000:=by have:=hql.out;omega
   clear zl czl hv0 hz0 r1 r2 hzt lT hv hlt
   go_wp2_with fail
   go_region_with (first
    | (go_at_call 179;refine (zdk _ _ _ qs _ (by have:=hql.out;omega) ?_ (by omega)).mono ?_;(first | exact oq.rd.ext (Ext.refl _) | exact oq.rd.ext (Ext.refl _).drew);rintro e wa ⟨qo,qc,qz,rfl,p1,p2,p3,p4⟩;replace p3:=Lib.hid p3)
    | (go_at_call 215;refine (Right_any _ _ _ (zs.take ds.length) _ s _ LT.out rfl (by omega) ?_ (by rw [bP];omega)).mono ?_;(first | exact oT.ext p4 | exact (oT.ext (Ext.refl _).drew).ext p4);rintro e wb ⟨ro,rc,rz,rfl,t1,t2,t3,t4⟩;replace t3:=Lib.hid t3))
   all_goals
    go_wp2_with fail
    go_ret2
    have ew:=ed.trans e1r
    have hw0:w.heap.size<=wr.heap.size:=ew.size
    have hw1:=p4.size
    refine ⟨qo,qc,qz,ro,rc,rz,rfl,(p1.ext t4).mono hw0,p2,by rw [p3.out];exact R1.out,t1.mono (bS hw0 hw1),t2,by rw [t3.out,Hzt.out];exact R2.out,?_⟩
    first
    | exact (ew.trans p4).trans t4
    | exact (ew.drew.trans p4).trans t4
    | exact ((ew.trans p4).drew).trans t4
  ·have cz:=oz.rd.cap
   have zl:=hzl.out
   have ql:=hql.out
   have hkc:¬ uc=k:=by omega
   have hkl:k+1+ds.length<=n+1:=hj
   have hT:nV (zs.drop k)<nV ds*4294967296:=by
    have h3:=zgo zs k (by omega)
    have h4:=hlt.out
    rw [zar,cT,<- bF,bG] at h4
    rw [bG 4294967296] at h4
    exact Nat.lt_of_mul_lt_mul_left (a:=pw k) (by omega)
   have htl:=top_le (i1:=i1) cd.1 rfl (by have:=Dl.out;have:=H1.out;omega) hT
   have czl:n+1<=uc:=by omega
   have zl2:zs.length=(n+1):=zl
   clear zl cz ql zl2
   have HT:=Lib.hid hT
   have Htl:=Lib.hid htl
   have hdm:ds.length=m:=Dl.out
   have hi1:i1+1=m:=H1.out
   obtain ⟨i2,hi2⟩:∃ i2,i2+2=ds.length:=⟨ds.length - 2,by omega⟩
   have Hi1:=Lib.hid (show i1+1=ds.length by omega)
   have Hi2:=Lib.hid hi2
   clear hT htl hi2 hi1 hdm
   have od':=od.rd.ext e1r
   have dne:0<ds.length->bk dao≠g:=fun h=>by have:=(od.blk h).2.1;omega
   have o5:=oz.rd.drop k (by have:=hzl.out;omega)
   rw [b8] at o5
   go_wp2_with fail
   refine (guessed_any _ _ _ (zs.drop k) _ _ _ ds i1 i2 _ (by rw [bU,hzl.out]) rfl Hi1.out Hi2.out (by omega) o5 od' df Htl.out).mono ?_
   rintro e w5 ⟨gg,rfl,gs,qt5⟩
   have gf:=guess_fits (Lb_drop oz.lb k) cd.1 rfl Hi1.out Hi2.out df HT.out gs
   have gb:=gs.1
   have Gf:=Lib.hid gf
   clear gs gf
   have oz5:=oz.ext qt5.ext
   have oq5:=oq.ext qt5.ext
   have e15:=e1r.trans qt5.ext
   go_wp2_with fail
   refine (takeAway_any _ g uc zs k _ _ _ _ _ ds gg _ rfl ?_ ?_ oz5 (od'.ext qt5.ext) dne gb ?_).mono ?_
   ·omega
   ·have:=hzl.out;omega
   ·omega
   rintro e w6 ⟨b,z1,rfl,hl1,oz6,gr6,v1,t1⟩
   have oq6:=oq5.kept gr6 (ownB_ne (by omega))
   have e16:=e15.grown gr6 (fun k hk=>by cases hk;exact g1)
   have zl:=hzl.out
   rcases b with _ | _
   ·have hlt1:=took oz5.lb (by omega) hlt.out Gf.out (by simpa using v1)
    have V1:=Lib.hid (show nV z1+pw k*(gg*nV ds)=nV zs by simpa using v1)
    have Hlt1:=Lib.hid hlt1
    have Hl1:=Lib.hid hl1
    clear v1 hlt1 hl1 zl t1
    have xq:=ixe oq6.rd (n+1 - ds.length) (by have:=hql.out;omega) (k:Int) k rfl (by omega)
    have kq:=oq6.rd.cell k (by have:=hql.out;omega)
    have fq:=oq6.frozen (by have:=hql.out;omega) k
    have hq1:=oq6.store k (by have:=hql.out;omega) (gg:Int) gg rfl gb
    go_wp2_with fail
    go_roundw
    case rel=>exact ⟨k,z1,qs.set k gg,by go_num,by omega,by unfold Hid;rw [Hl1.out];exact hzl.out,by unfold Hid;rw [bW];exact hql.out,oz6.kept hq1.2 (ownB_ne (by simp only [bk];omega)),hq1.1,e16.grown hq1.2 (fun k hk=>by cases hk;simp only [bk];omega),quot_step (hq0.out k (by omega)) (by have:=hql.out;omega) V1.out hv.out,Hlt1,fun t ht=>by rw [zcp (by omega)];exact hq0.out t (by omega)⟩
    case measure=>simp [intOf];try omega
   ·have tz:=take_zero oz5.lb oz6.lb (by omega) cd.1 hlt.out Gf.out t1 (by simpa using v1)
    obtain ⟨tz1,tz2,tz3,tz4⟩:=tz
    have V1:=Lib.hid (show nV z1+pw k*(gg*nV ds)=nV zs+pw (k+(ds.length+1)) by simpa using v1)
    have Tz4:=Lib.hid tz4
    have Tz3:=Lib.hid tz3
    have Tz1:=Lib.hid tz1
    have Hl1:=Lib.hid hl1
    have T1:=Lib.hid t1
    clear v1 tz1 tz3 tz4 hl1 zl t1
    go_wp2_with fail
    refine (putBack_any _ g uc z1 k _ _ _ _ _ ds _ rfl ?_ ?_ oz6 ((od'.ext qt5.ext).kept gr6 dne) dne ?_).mono ?_
    ·omega
    ·have:=hzl.out;have:=Hl1.out;omega
    ·omega
    rintro e w7 ⟨y,z2,rfl,hy1,hl2,oz7,gr7,v2,t2⟩
    have oq7:=oq6.kept gr7 (ownB_ne (by omega))
    have e17:=e16.grown gr7 (fun k hk=>by cases hk;exact g1)
    have h7:nV z2<pw (k+(ds.length+1)):=lt_of_lims oz7.lb (fun t ht=>by rw [t2 t (by omega)];exact zij Tz1.out ht)
    have V2:=Lib.hid (put_val hy1 tz2 V1.out Tz4.out h7 v2)
    have Hlt2:=Lib.hid (took oz5.lb (by have:=hzl.out;omega) hlt.out ⟨Nat.le_of_eq Tz3.out.symm,by rw [Tz3.out];exact Nat.le_succ _⟩ V2.out)
    have Hl2:=Lib.hid hl2
    clear v2 t2 h7 hl2
    have gb1:gg - 1<4294967296:=by omega
    have xq:=ixe oq7.rd (n+1 - ds.length) (by have:=hql.out;omega) (k:Int) k rfl (by omega)
    have kq:=oq7.rd.cell k (by have:=hql.out;omega)
    have fq:=oq7.frozen (by have:=hql.out;omega) k
    have hq1:=oq7.store k (by have:=hql.out;omega) ((gg:Int) - 1) (gg - 1) (by omega) gb1
    go_wp2_with fail
    go_roundw
    case rel=>exact ⟨k,z2,qs.set k (gg - 1),by go_num,by omega,by unfold Hid;rw [Hl2.out,Hl1.out];exact hzl.out,by unfold Hid;rw [bW];exact hql.out,oz7.kept hq1.2 (ownB_ne (by simp only [bk];omega)),hq1.1,e17.grown hq1.2 (fun k hk=>by cases hk;simp only [bk];omega),quot_step (hq0.out k (by omega)) (by have:=hql.out;omega) V2.out hv.out,Hlt2,fun t ht=>by rw [zcp (by omega)];exact hq0.out t (by omega)⟩
    case measure=>simp [intOf];try omega
def GotD (w:World) (p r:Nat) (er:Int) (e:Ending) (w':World):Prop :=
  ∃ ao c xs bo d ys,e = .returned (.tuple #[.slice ao xs.length c,.slice bo ys.length d,.int .i64 er])/\Own w' w.heap.size ao c xs/\zd1 xs/\nV xs=p/\Own w' w.heap.size bo d ys/\zd1 ys/\nV ys=r/\Ext w w'
theorem GotD.from {p r:Nat} {er:Int} {e:Ending} (h:GotD w p r er e w') (k:Ext w0 w):GotD w0 p r er e w':=by
 obtain ⟨ao,c,xs,bo,d,ys,h1,h2,h3,h4,h5,h6,h7,h8⟩:=h
 exact ⟨ao,c,xs,bo,d,ys,h1,h2.mono k.size,h3,h4,h5.mono k.size,h6,h7,k.trans h8⟩
set_option maxHeartbeats 2000000 in
theorem Div_any (ao:Option Addr) (n c:Nat) (xs:List Nat) (bo:Option Addr) (m d:Nat) (ys:List Nat) (w:World) (hn:n=xs.length) (hm:m=ys.length)
  (ha:Rd w ao c xs) (hb:Rd w bo d ys) (hl:xs.length<=900000) :
  Calls eQ 169 #[.slice ao n c,.slice bo m d] w (if nV ys=0 then GotD w 0 0 10 else GotD w (nV xs / nV ys) (nV xs % nV ys) 0):=by
 subst hn hm
 have hA:=ha.trm
 have hB:=hb.trm
 have kA:=ze1 ha.lb
 have kB:=ze1 hb.lb
 have lA:=zgz xs
 have cA:=hA.cap
 have cB:=hB.cap
 have mA:=hA.mx
 have mB:=hB.mx
 rw [<- zcw xs,<- zcw ys]
 by_cases h0:(trm ys).length=0
 ·have e0:trm ys=[]:=dQ.1 h0
  have hv:nV (trm ys)=0:=by rw [e0];rfl
  rw [if_pos hv]
  clear hv
  go_enter Tryz.func169,Tryz.ntmps169
  go_wp2_with fail
  refine (zav ao _ c xs w rfl ha).mono ?_
  rintro e w' ⟨rfl,rfl⟩
  go_wp2_with fail
  refine (zav bo _ d ys w rfl hb).mono ?_
  rintro e w' ⟨rfl,rfl⟩
  rw [e0]
  clear e0 h0
  go_wp2_with fail
  go_ret3
  exact ⟨none,0,[],none,0,[],rfl,Own.nil _ _,zdf,rfl,Own.nil _ _,zdf,rfl,Ext.refl _⟩
 ·have hv:nV (trm ys)≠0:=fun e=>h0 (by rw [zkv kB e];rfl)
  rw [if_neg hv]
  have hb0:((((trm ys).length:Nat):Int) == 0)=false:=beq_eq_false_iff_ne.2 (by omega)
  by_cases hlt:nV (trm xs)<nV (trm ys)
  ·have hc:=zku hlt
   have r1:nV (trm xs) / nV (trm ys)=0:=dA hlt
   have r2:nV (trm xs) % nV (trm ys)=nV (trm xs):=dR hlt
   rw [r1,r2]
   clear r1 r2 hlt
   go_enter Tryz.func169,Tryz.ntmps169
   go_wp2_with fail
   refine (zav ao _ c xs w rfl ha).mono ?_
   rintro e w' ⟨rfl,rfl⟩
   go_wp2_with fail
   refine (zav bo _ d ys w rfl hb).mono ?_
   rintro e w' ⟨rfl,rfl⟩
   go_wp2_with fail
   refine (zl0 _ _ _ (trm xs) _ _ _ (trm ys) _ rfl rfl hA hB).mono ?_
   rintro e w1 ⟨rfl,q1⟩
   rw [hc]
   clear hc
   go_wp2_with fail
   refine (zdk _ _ _ (trm xs) _ rfl (hA.ext q1.ext) (by omega)).mono ?_
   intro e w2 hg
   obtain ⟨ro,rc,rz,rfl,p1,p2,p3,p4⟩:=hg.from q1.ext
   go_wp2_with fail
   go_ret3
   exact ⟨none,0,[],ro,rc,rz,rfl,Own.nil _ _,zdf,rfl,p1,p2,p3,p4⟩
  ·have hc:decide (zmc (nV (trm xs)) (nV (trm ys))<0)=false:=by
    unfold zmc
    rw [if_neg hlt]
    split <;> decide
   by_cases h1:(trm ys).length=1
   ·have hb1:((((trm ys).length:Nat):Int) == 1)=true:=by simp;omega
    have hx0:=ixe hB (trm ys).length rfl 0 0 rfl (by omega)
    simp only [dB] at hx0
    have k0:=fun wr (q:Qt w wr)=>(hB.ext q.ext).cell 0 (by omega)
    have b0:=zbk kB.1 0
    have ey:nV (trm ys)=lim (trm ys) 0:=by
     rw [<- zbv (zs:=trm ys) (k:=1) (by omega),zbc,ze6,pw_zero];omega
    have Ey:=Lib.hid ey
    have b1:lim (trm ys) 0≠0:=by rw [<- ey];exact hv
    clear ey hv hlt h1 h0
    go_enter Tryz.func169,Tryz.ntmps169
    go_wp2_with fail
    refine (zav ao _ c xs w rfl ha).mono ?_
    rintro e w' ⟨rfl,rfl⟩
    go_wp2_with fail
    refine (zav bo _ d ys w rfl hb).mono ?_
    rintro e w' ⟨rfl,rfl⟩
    go_wp2_with fail
    refine (zl0 _ _ _ (trm xs) _ _ _ (trm ys) _ rfl rfl hA hB).mono ?_
    rintro e w1 ⟨rfl,q1⟩
    have k1:=k0 w1 q1
    simp only [dB] at k1
    go_wp2_with fail
    refine (byLimb_any _ _ _ (trm xs) _ (lim (trm ys) 0) _ rfl rfl (hA.ext q1.ext) (by omega) (by omega) b0).mono ?_
    rintro e w2 ⟨qo,qc,qz,rfl,p1,p2,p3,p4⟩
    have P3:=Lib.hid p3
    clear p3
    obtain ⟨M,hM⟩:∃ M,M=nV (trm xs) % lim (trm ys) 0:=⟨_,rfl⟩
    have bM:M<4294967296:=by rw [hM];exact Nat.lt_trans (dE _ (by omega)) b0
    rw [<- hM]
    have HM:=Lib.hid hM
    clear hM
    go_wp2_with fail
    refine (Of_any (M:Int) (by omega) (by omega) _).mono ?_
    intro e w3 hg
    obtain ⟨ro,rc,rz,rfl,t1,t2,t3,t4⟩:=hg
    go_wp2_with fail
    go_ret3
    have e2:=q1.ext.trans p4
    exact ⟨qo,qc,qz,ro,rc,rz,rfl,(p1.ext t4).mono q1.ext.size,p2,by rw [P3.out,Ey.out],t1.mono e2.size,t2,by rw [t3,cZ,HM.out,Ey.out],e2.trans t4⟩
   ·have hb1:((((trm ys).length:Nat):Int) == 1)=false:=beq_eq_false_iff_ne.2 (by omega)
    obtain ⟨i1,hi1⟩:∃ i1,i1+1=(trm ys).length:=⟨(trm ys).length - 1,by omega⟩
    have hlen:(trm ys).length<=(trm xs).length:=by
     rcases cM (trm xs).length (trm ys).length with h | h
     ·exact absurd (zds kA.1 kB h) hlt
     ·exact h
    have hlast:lim (trm ys) i1≠0:=by
     have:=kB.2 (by omega)
     rwa [show (trm ys).length - 1=i1 by omega] at this
    have Hi1:=Lib.hid hi1
    have hge:2<=(trm ys).length:=by omega
    clear hi1 hv hlt h1 h0
    go_enter Tryz.func169,Tryz.ntmps169
    go_wp2_with fail
    refine (zav ao _ c xs w rfl ha).mono ?_
    rintro e w' ⟨rfl,rfl⟩
    go_wp2_with fail
    refine (zav bo _ d ys w rfl hb).mono ?_
    rintro e w' ⟨rfl,rfl⟩
    go_wp2_with fail
    refine (zl0 _ _ _ (trm xs) _ _ _ (trm ys) _ rfl rfl hA hB).mono ?_
    rintro e w1 ⟨rfl,q1⟩
    go_wp2_with fail
    refine (long_any _ _ _ (trm xs) _ _ _ (trm ys) i1 _ rfl rfl Hi1.out hge hlen (hA.ext q1.ext) (hB.ext q1.ext) hlast (by omega)).mono ?_
    rintro e w2 ⟨qo,qc,qz,ro,rc,rz,rfl,p1,p2,p3,p4,p5,p6,p7⟩
    go_wp2_with fail
    go_ret3
    exact ⟨qo,qc,qz,ro,rc,rz,rfl,p1.mono q1.ext.size,p2,p3,p4.mono q1.ext.size,p5,p6,q1.ext.trans p7⟩
end Go.Proofs.YtlcijejaplagbaaGreat
