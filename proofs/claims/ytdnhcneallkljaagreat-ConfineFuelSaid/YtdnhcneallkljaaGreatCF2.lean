/-
  Part 2 of the proof of the statement ConfineFuel: the walk through the program and the references lifted to the given row. It holds for every input.
-/
import Derived.Test.YtdnhcneallkljaaGreatCF1
import Derived.Laws.AppendOwn
import Derived.Great.BuildSlice
import Derived.ProofKit
import Derived.OpenShut
import Derived.ShutString
import Derived.ChangeOld
import Derived.Below
import Derived.Deep.Slices
import Derived.ChangeArms
import Derived.Laws.Cover3
import Derived.Shelf.Small.Bits
import Derived.Test.YtdnhcneallkljaaGreatProg
import Derived.Laws.Bits64b
import Derived.Deep.RegionWith
import Derived.Deep.LoopGhost
set_option maxRecDepth 100000
set_option maxHeartbeats 20000000
open Go.RowKit
namespace Go.Proofs.YtdnhcneallkljaaGreat
namespace S
/-- a slice type, its elements' type and size -/
structure SlT (P:Program) (t el:TypeId) (es:Nat):Prop where
  hu:P.underlying t=some (.slice el)
  hs:(P.info? el).map (·.size)=some es
theorem SlT.mk' {P:Program} {t el:TypeId} {es:Nat} (hu:P.underlying t=some (.slice el)) (hs:(P.info? el).map (·.size)=some es):SlT P t el es:=⟨hu,hs⟩
theorem size_run {P:Program} {t:TypeId} {n:Nat} (h:(P.info? t).map (·.size)=some n) (w:World):(Go.sizeOf t).run P w = .ok n w:=by
 cases hi:P.info? t with
 | none=>rw [hi] at h;cases h
 | some i =>
  rw [hi] at h
  injection h with h
  have e1:(typeInfo t).run P w = .ok i w:=by unfold typeInfo;simp only [Sem.run_bind,run_program,Result.andThen_ok,hi];rfl
  unfold Go.sizeOf
  simp [e1,h,go_sem]
theorem run_indexAt {P:Program} {t el:TypeId} {es:Nat} (h:SlT P t el es) {b o n c i:Nat} {k:IntKind} (hi:i<n) (w:World) :
  (Instr.indexAt t (.slice (some ⟨b,o,none⟩) n c) (.int k i)).run P w = .ok (.pointer (some ⟨b,o+i*es,none⟩)) w:=by
 have h1:(0:Int)<=i/\(i:Int)<n:=⟨by omega,by omega⟩
 unfold Instr.indexAt
 simp only [asIntOf,Sem.run_bind,Sem.run_pure,Result.andThen_ok,run_underlying h.hu,h1,and_self,if_true,size_run h.hs,Int.toNat_natCast,Addr.add_mid]
section
variable {P:Program}
theorem Op.idxD {d t:Nat} {y:Operand} {es i:Nat} {rows:List (List D)} {r:List D} {k:IntKind} {rs:List (Nat × V)} {xt el ty:TypeId} {pos af gd} (hs:SlT P xt el es) (hr:rows[i]?=some r) (hy:OV y (vi k i) rs) :
  zbg P ⟨some d,.indexAddr xt (.tmp t) y,ty,pos,af,gd⟩ { rs:=(t,.t (.c (.d (.sl es rows)))) :: rs,ws:=[(d,some (.t (.c (.el r))))] } :=
 zbg.value d _ rfl rfl rfl fun e f H B a w hok hr2=>by
  have h1:=hok.slot t _ (hr2.1 (t,.t (.c (.d (.sl es rows)))) (by simp))
  have h2:a.eval y = .int k i:=(hy.eval hok fun p hp=>hr2.1 p (by simp [hp])).rawI
  obtain ⟨hi,rfl⟩:=List.getElem?_eq_some_iff.1 hr
  have h3:DR H (.sl es rows) (a.eval (.tmp t)):=h1
  generalize hv0:a.eval (.tmp t)=v at h3
  cases h3 with
  | nil ao c=>simp at hi
  | sl _ _ b o c arr ty' fz vs hp hb hl hc hes hv hx =>
   refine ⟨.pointer (some ⟨b,o+i*es,none⟩),?_,b,o+i*es,arr,ty', fz,hb,rfl,fun j hj=>⟨vs i j,hv i hi j (by rw [<- hes i hi];exact hj),hx i hi j hj⟩⟩
   have h5:a.eval (.tmp t) = .slice (some ⟨b,o,none⟩) rows.length c:=hv0
   generalize a.eval=ρ at h5 h2 ⊢
   simp only [execOp,h5,h2,Sem.run_bind,run_indexAt hs hi,Result.andThen_ok,Sem.run_pure]
end
theorem zba.iff {α β:Type} {R:α->β->Prop}:∀ {xs:List α} {ys:List β}, zba R xs ys ↔ xs.length=ys.length/\∀ (j:Nat) a b,xs[j]?=some a->ys[j]?=some b->R a b
 | [],[]=>⟨fun _=>⟨rfl,fun j a b h=>by simp at h⟩,fun _=>trivial⟩
 | x :: xs,y :: ys=>by
  constructor
  ·intro h
   obtain ⟨h1,h2⟩:=zba.iff.1 h.2
   refine ⟨by simp [h1],fun j a b ha hb=>?_⟩
   cases j with
   | zero=>simp at ha hb;subst ha hb;exact h.1
   | succ j=>exact h2 j a b (by simpa using ha) (by simpa using hb)
  ·rintro ⟨h1,h2⟩
   exact ⟨h2 0 x y rfl rfl,zba.iff.2 ⟨by simpa using h1,fun j a b ha hb=>h2 (j+1) a b (by simpa using ha) (by simpa using hb)⟩⟩
 | [],_ :: _=>⟨fun h=>h.elim,fun h=>by simp at h⟩
 | _ :: _,[]=>⟨fun h=>h.elim,fun h=>by simp at h⟩
theorem flat_at {α:Type} {es:Nat}:∀ {rows:List (List α)} (_:∀ r ∈ rows,r.length=es) (i f:Nat),f<es->rows.flatten[i*es+f]?=(rows[i]?).bind (·[f]?)
 | [],_,i,f,_=>by simp
 | r :: rows,h,0,f,hf=>by
  have:r.length=es:=h r (by simp)
  simp only [List.flatten_cons,Nat.zero_mul,Nat.zero_add,List.getElem?_cons_zero,Option.bind_some]
  rw [List.getElem?_append_left (by omega)]
 | r :: rows,h,i+1,f,hf=>by
  have:r.length=es:=h r (by simp)
  simp only [List.flatten_cons,List.getElem?_cons_succ]
  rw [List.getElem?_append_right (by rw [this,Nat.add_mul];omega),<- flat_at (fun r hr=>h r (by simp [hr])) i f hf]
  congr 1
  rw [this,Nat.add_mul];omega
theorem zio {α:Type} {es:Nat}:∀ {rows:List (List α)} (_:∀ r ∈ rows,r.length=es),rows.flatten.length=rows.length*es
 | [],_=>by simp
 | r :: rows,h=>by
  rw [List.flatten_cons,List.length_append,zio fun r hr=>h r (by simp [hr]),h r (by simp),List.length_cons,Nat.add_mul];omega
def RowAt (H:Im) (arr:List Value) (es:Nat) (rows:List (List D)):Prop:=∀ (i:Nat) r,rows[i]?=some r->∀ (f:Nat) x,r[f]?=some x->∃ u,arr[i*es+f]?=some u/\DR H x u
theorem zel {H:Im} {arr:List Value} {es c:Nat} {rows:List (List D)} (h1:arr.length=c*es) (h2:rows.length<=c) (h3:∀ r ∈ rows,r.length=es) :
  zba (DR H) rows.flatten (arr.take (rows.length*es)) ↔ RowAt H arr es rows:=by
 have hle:rows.length*es<=c*es:=Nat.mul_le_mul_right _ h2
 rw [zba.iff]
 constructor
 ·rintro ⟨_,hR⟩ i r hr f x hx
  have hf:f<es:=by rw [<- h3 r (List.mem_of_getElem? hr)];exact (List.getElem?_eq_some_iff.1 hx).1
  have hi:i<rows.length:=(List.getElem?_eq_some_iff.1 hr).1
  have hlt:i*es+f<rows.length*es:=by
   have:(i+1)*es<=rows.length*es:=Nat.mul_le_mul_right _ hi
   rw [Nat.add_mul] at this;omega
  have e1:rows.flatten[i*es+f]?=some x:=by rw [flat_at h3 i f hf,hr];exact hx
  have e2:arr[i*es+f]?=some (arr[i*es+f]'(by omega)):=List.getElem?_eq_getElem _
  refine ⟨_,e2,hR _ _ _ e1 ?_⟩
  rw [List.getElem?_take,if_pos hlt,e2]
 ·intro hR
  refine ⟨by rw [zio h3,List.length_take];omega,fun j x u hx hu=>?_⟩
  have hj:j<rows.length*es:=by rw [<- zio h3];exact (List.getElem?_eq_some_iff.1 hx).1
  have he:0<es:=Nat.pos_of_ne_zero fun e=>by simp [e] at hj
  have hjj:j=j / es*es+j % es:=by rw [Nat.mul_comm];exact (Nat.div_add_mod j es).symm
  rw [hjj,flat_at h3 _ _ (Nat.mod_lt _ he)] at hx
  cases hr:rows[j / es]? with
  | none=>rw [hr] at hx;cases hx
  | some r =>
   rw [hr] at hx
   obtain ⟨v,h4,h5⟩:=hR _ r hr _ x hx
   rw [<- hjj] at h4
   rw [List.getElem?_take,if_pos hj,h4] at hu
   injection hu with hu
   rwa [<- hu]
theorem putL_get {α:Type}:∀ (r l:List α) (o j:Nat),o+r.length<=l.length->(zig l o r)[j]?=if o<=j/\j<o+r.length then r[j - o]? else l[j]?
 | [],l,o,j,_=>by simp [zig];intros;omega
 | v :: r,l,o,j,h=>by
  simp only [List.length_cons] at h
  rw [zig,putL_get r (l.set o v) (o+1) j (by simp;omega)]
  by_cases h1:j=o
  ·subst h1
   have:¬ (j+1<=j/\j<j+1+r.length):=by omega
   rw [if_neg this,if_pos ⟨Nat.le_refl _,by simp⟩,Nat.sub_self,List.getElem?_set_self (by omega)]
   rfl
  ·by_cases h2:o+1<=j/\j<o+1+r.length
   ·rw [if_pos h2,if_pos (by simp;omega),show j - o=(j - (o+1))+1 by omega,List.getElem?_cons_succ]
   ·rw [if_neg h2,if_neg (by simp;omega),List.getElem?_set_ne (by omega)]
section
variable {P:Program}
theorem Op.idxO {d t n len i es:Nat} {y:Operand} {k:IntKind} {rs:List (Nat × V)} {xt el ty:TypeId} {pos af gd} (hs:SlT P xt el es) (hi:i<len) (hy:OV y (vi k i) rs) :
  zbg P ⟨some d,.indexAddr xt (.tmp t) y,ty,pos,af,gd⟩ { rs:=(t,.t (.c (.own n len))) :: rs,ws:=[(d,some (vp n (i*es)))] } :=
 zbg.value d _ rfl rfl rfl fun e f H B a w hok hr2=>by
  have h1:=hok.slot t _ (hr2.1 (t,.t (.c (.own n len))) (by simp))
  have h2:a.eval y = .int k i:=(hy.eval hok fun p hp=>hr2.1 p (by simp [hp])).rawI
  simp only [VR,TR,CR] at h1
  cases hB:B n with
  | none=>rw [hB] at h1;have:=h1.1;omega
  | some p =>
   obtain ⟨b,c⟩:=p
   rw [hB] at h1
   refine ⟨.pointer (some ⟨b,i*es,none⟩),?_,b,c,hB,rfl⟩
   have h5:a.eval (.tmp t) = .slice (some ⟨b,0,none⟩) len c:=h1
   generalize a.eval=ρ at h5 h2 ⊢
   simp only [execOp,h5,h2,Sem.run_bind,run_indexAt hs hi,Result.andThen_ok,Sem.run_pure,Nat.zero_add]
theorem Ok.row {e:E} {f:F} {H:Im} {B:Bl} {a:Act} {w:World} (h:Ok e f H B a w) {n:Nat} {ty:TypeId} {es:Nat} {rows:List (List D)} (hl:f.l n=some (.row ty es rows)) {b c:Nat} (hB:B n=some (b,c)) :
  ∃ arr:List Value,w.heap[b]?=some (.cells ⟨arr⟩ ty (0,0))/\arr.length=c*es/\rows.length<=c/\c<=maxLen/\(∀ r ∈ rows,r.length=es)/\RowAt H arr es rows:=by
 have h1:=h.loc n _ hl
 simp only [LR,hB] at h1
 obtain ⟨arr,h1,h2,h3,h4,h5,h6⟩:=h1
 exact ⟨arr,h1,h2,h3,h4,h5,(zel h2 h3 h5).1 h6⟩
theorem Op.loadR_agg {d t n o i fo m es:Nat} {rows:List (List D)} {r xs:List D} {rty xt ty:TypeId} {pos af gd} (hs:Sz P xt m true) (ho:o=i*es+fo) (hr:rows[i]?=some r) (hx:(r.drop fo).take m=xs) (hm:xs.length=m) :
  zbg P ⟨some d,.load xt (.tmp t),ty,pos,af,gd⟩ { rs:=[(t,vp n o)],rl:=[(n,.row rty es rows)],ws:=[(d,some (.t (.agg (xs.map C.d))))] } :=
 zbg.value d _ rfl rfl rfl fun e f H B a w hok hr2=>by
  obtain ⟨b,c,hb,hu⟩:=(hok.slot t _ (hr2.1 (t,vp n o) (by simp))).ptrI
  obtain ⟨arr,h1,h2,h3,h4,h5,h6⟩:=hok.row (hr2.2 (n,.row rty es rows) (by simp)) hb
  have hfill:∀ j (hj:j<m),∃ u,arr[o+j]?=some u/\DR H (xs[j]'(by omega)) u:=by
   intro j hj
   have:r[fo+j]?=some (xs[j]'(by omega)):=by
    rw [<- List.getElem?_eq_getElem,<- hx,List.getElem?_take,if_pos hj,List.getElem?_drop]
   obtain ⟨u,g1,g2⟩:=h6 i r hr (fo+j) _ this
   exact ⟨u,by rw [ho,Nat.add_assoc];exact g1,g2⟩
  have hlen:((arr.drop o).take m).length=m:=by
   rw [List.length_take,List.length_drop]
   cases m with
   | zero=>omega
   | succ m =>
    obtain ⟨u,g1,_⟩:=hfill m (by omega)
    have:=(List.getElem?_eq_some_iff.1 g1).1
    omega
  refine ⟨.agg ((arr.drop o).take m).toArray,?_,⟨_,rfl,?_⟩⟩
  ·have h7:a.eval (.tmp t) = .pointer (some ⟨b,o,none⟩):=hu
   generalize a.eval=ρ at h7 ⊢
   have h8:=ze3 (P:=P) hs (w:=w) (b:=b) (o:=o) (cs:=(arr.drop o).take m) hlen (fun j v hv=>by
    refine zdm h1 ?_
    rw [List.getElem?_take] at hv
    split at hv
    ·rw [List.getElem?_drop] at hv;exact hv
    ·cases hv)
   simp only [execOp,h7,Instr.loadAt,Instr.sureAddr,Sem.run_bind,Sem.run_pure,Result.andThen_ok,h8]
  ·refine zba.iff.2 ⟨by simp [hlen,hm],fun j x u hx2 hu2=>?_⟩
   rw [List.getElem?_map] at hx2
   cases hj:xs[j]? with
   | none=>rw [hj] at hx2;cases hx2
   | some y =>
    rw [hj] at hx2
    injection hx2 with hx2
    subst hx2
    obtain ⟨hjl,hjy⟩:=List.getElem?_eq_some_iff.1 hj
    obtain ⟨u', g1,g2⟩:=hfill j (by omega)
    rw [List.getElem?_take,if_pos (by omega),List.getElem?_drop,g1] at hu2
    injection hu2 with hu2
    subst hu2
    rw [<- hjy]
    exact g2
theorem Op.loadR_c {d t n o i fo m es:Nat} {rows:List (List D)} {r:List D} {x:D} {rty xt ty:TypeId} {pos af gd} (hs:Sz P xt m false) (ho:o=i*es+fo) (hr:rows[i]?=some r) (hx:r[fo]?=some x) :
  zbg P ⟨some d,.load xt (.tmp t),ty,pos,af,gd⟩ { rs:=[(t,vp n o)],rl:=[(n,.row rty es rows)],ws:=[(d,some (.t (.c (.d x))))] } :=
 zbg.value d _ rfl rfl rfl fun e f H B a w hok hr2=>by
  obtain ⟨b,c,hb,hu⟩:=(hok.slot t _ (hr2.1 (t,vp n o) (by simp))).ptrI
  obtain ⟨arr,h1,h2,h3,h4,h5,h6⟩:=hok.row (hr2.2 (n,.row rty es rows) (by simp)) hb
  obtain ⟨u,g1,g2⟩:=h6 i r hr fo x hx
  rw [<- ho] at g1
  refine ⟨u,?_,g2⟩
  have h7:a.eval (.tmp t) = .pointer (some ⟨b,o,none⟩):=hu
  generalize a.eval=ρ at h7 ⊢
  have h8:=zfx (P:=P) hs (zdm h1 g1)
  simp only [execOp,h7,Instr.loadAt,Instr.sureAddr,Sem.run_bind,Sem.run_pure,Result.andThen_ok,h8]
theorem Op.storeR {t n o i fo m es:Nat} {ag:Bool} {rows rows':List (List D)} {r ds:List D} {x:Operand} {v:T} {rs:List (Nat × V)} {rty xt ty:TypeId} {pos af gd} (hs:Sz P xt m ag) (h:OV x (.t v) rs) (hv:cellsOf v=ds.map C.d) (hm:ds.length=m)
  (ho:o=i*es+fo) (hr:rows[i]?=some r) (hf:fo+m<=r.length) (hn:rows.set i (zig r fo ds)=rows') :
  zbg P ⟨none,.store xt (.tmp t) x,ty,pos,af,gd⟩ { rs:=(t,vp n o) :: rs,rl:=[(n,.row rty es rows)],wl:=[(n,some (.row rty es rows'))] }:=by
 rintro e f a w Q ⟨H,B,hok⟩ hr2 hnw hb0
 obtain ⟨b,c,hb,hu⟩:=(hok.slot t _ (hr2.1 (t,vp n o) (by simp))).ptrI
 have hfl:=hr2.2 (n,.row rty es rows) (by simp)
 obtain ⟨arr,hcl,h2,h3,h4,h5,h6⟩:=hok.row hfl hb
 have hev:=h.eval hok (fun p hp=>hr2.1 p (by simp [hp]))
 obtain ⟨l,g3,g4⟩:=TR.cells hev
 rw [hv] at g4
 have hll:l.length=m:=by rw [<- g4.length,List.length_map,hm]
 have hre:r.length=es:=h5 r (List.mem_of_getElem? hr)
 have hi:i<rows.length:=(List.getElem?_eq_some_iff.1 hr).1
 have hie:(i+1)*es<=c*es:=Nat.mul_le_mul_right _ (by omega)
 rw [Nat.add_mul] at hie
 have ho':o+m<=arr.length:=by rw [h2,ho];omega
 have hrun:(storeVar xt ⟨b,o,none⟩ (a.eval x)).run P w = .ok () (w.setCells b o l):=by
  have hst:=run_storeCells_cells (P:=P) b o l 0 w (fun j hj=>by
    rw [zdm hcl (o:=o+0+j) (v:=arr[o+0+j]'(by omega)) (List.getElem?_eq_getElem _)];rfl) (fun j hj=>by simp [World.frozen?, hcl]) (fun v hv=>by
    obtain ⟨i,hi,rfl⟩:=List.getElem_of_mem hv
    obtain ⟨y,hy,hR⟩:=g4.get i (by rw [g4.length];exact hi)
    rw [List.getElem?_eq_getElem hi] at hy
    injection hy with hy
    rw [hy]
    exact flat_one (CR.flat hR))
  unfold storeVar
  simp only [Sem.run_bind,hs.sizeOf,Result.andThen_ok,g3,hll,List.size_toArray,ne_eq,not_true_eq_false,if_false]
  simpa using hst
 obtain ⟨k1,k2,k3,k4,k5,k6⟩:=zeu l o w arr hcl
 have hg:a.eval (.tmp t) = .pointer (some ⟨b,o,none⟩):=hu
 unfold Oper.wp
 have hexec:(execOp a.eval ⟨none,.store xt (.tmp t) x,ty,pos,af,gd⟩).run P w = .ok .skip (w.setCells b o l):=by
  generalize hq:a.eval x=q at hrun
  generalize a.eval=ρ at hg hq ⊢
  simp only [execOp,hg,hq,Instr.storeAt,Instr.sureAddr,Sem.run_bind,Sem.run_pure,Result.andThen_ok,hrun]
 rw [hexec,Oper.upon_skip]
 subst hn
 have hrows:∀ r' ∈ rows.set i (zig r fo ds),r'.length=es:=by
  intro r' hr'
  rcases List.mem_or_eq_of_mem_set hr' with h' | rfl
  ·exact h5 r' h'
  ·rw [zex];exact hre
 have hlr:LR H B (w.setCells b o l) n (.row rty es (rows.set i (zig r fo ds))):=by
  simp only [LR,hb]
  refine ⟨zig arr o l,k1,by rw [zex];exact h2,by simpa using h3,h4,hrows,?_⟩
  refine (zel (by rw [zex];exact h2) (by simpa using h3) hrows).2 ?_
  intro i' r' hr' f' x' hx'
  rw [putL_get l arr o _ (by omega)]
  have hf':f'<es:=by rw [<- hrows r' (List.mem_of_getElem? hr')];exact (List.getElem?_eq_some_iff.1 hx').1
  by_cases hii:i'=i
  ·subst hii
   rw [List.getElem?_set_self hi] at hr'
   injection hr' with hr'
   subst hr'
   rw [putL_get ds r fo _ (by omega)] at hx'
   by_cases hin:fo<=f'/\f'<fo+ds.length
   ·rw [if_pos hin] at hx'
    rw [if_pos (by rw [hll,ho];omega)]
    have e1:i'*es+f' - o=f' - fo:=by rw [ho];omega
    rw [e1]
    have hlt:f' - fo<l.length:=by omega
    refine ⟨_,List.getElem?_eq_getElem hlt,?_⟩
    have:=(zba.iff.1 g4).2 (f' - fo) (.d x') (l[f' - fo]'hlt) (by rw [List.getElem?_map,hx'];rfl) (List.getElem?_eq_getElem hlt)
    exact this
   ·rw [if_neg hin] at hx'
    rw [if_neg (by rw [hll,ho];omega)]
    exact h6 i' r hr f' x' hx'
  ·rw [List.getElem?_set_ne (Ne.symm hii)] at hr'
   have hout:¬ (o<=i'*es+f'/\i'*es+f'<o+l.length):=by
    rw [hll,ho]
    rcases Nat.lt_or_gt_of_ne hii with hlt | hgt
    ·have:(i'+1)*es<=i*es:=Nat.mul_le_mul_right _ hlt
     rw [Nat.add_mul] at this
     omega
    ·have:(i+1)*es<=i'*es:=Nat.mul_le_mul_right _ hgt
     rw [Nat.add_mul] at this
     omega
   rw [if_neg hout]
   exact h6 i' r' hr' f' x' hx'
 exact St.put0 ⟨H,B,hok.write (g:=⟨f.s,fun m=>if m=n then some (.row rty es (rows.set i (zig r fo ds))) else f.l m⟩) (l' := .row rty es (rows.set i (zig r fo ds))) hfl hb (fun _=>rfl) (fun _=>rfl) k2 k3 k4 k5 k6 hlr⟩ rfl (app0_s _ _ rfl) (fun m=>app1_l f n _ _ rfl m)
end
/-! own rows let go: from here on they stay -/
def C.pub (n es:Nat) (rows:List (List D)):C->C
  | .own m k=>if Nat.beq m n then .d (.sl es rows) else .own m k
  | .ptr m o=>if Nat.beq m n then .any else .ptr m o
  | .sub m o k=>if Nat.beq m n then .any else .sub m o k
  | .mp m=>if Nat.beq m n then .any else .mp m
  | c=>c
def T.pub (n es:Nat) (rows:List (List D)):T->T
  | .c x => .c (x.pub n es rows)
  | .agg cs => .agg (cs.map (C.pub n es rows))
def V.pub (n es:Nat) (rows:List (List D)):V->V
  | .t x => .t (x.pub n es rows)
  | .tup xs => .tup (xs.map (T.pub n es rows))
def L.pub (n es:Nat) (rows:List (List D)):L->L
  | .box cs => .box (cs.map (C.pub n es rows))
  | .row ty k r => .row ty k r
  | .bld ty c rest => .bld ty (c.pub n es rows) (rest.map (C.pub n es rows))
  | .mp x => .mp x
def C.owns (n:Nat):C->List Nat
  | .own m k=>if Nat.beq m n then [k] else []
  | _=>[]
def T.owns (n:Nat):T->List Nat
  | .c x=>x.owns n
  | .agg cs=>cs.flatMap (C.owns n)
def V.owns (n:Nat):V->List Nat
  | .t x=>x.owns n
  | .tup xs=>xs.flatMap (T.owns n)
def L.owns (n:Nat):L->List Nat
  | .box cs=>cs.flatMap (C.owns n)
  | .row _ _ _=>[]
  | .bld _ c rest=>c.owns n++rest.flatMap (C.owns n)
  | .mp _=>[]
def zcj (m:Nat):List Nat->Prop
  | []=>True
  | k :: ks=>k=m/\zcj m ks
theorem zcj.mem {m:Nat}:∀ {ks:List Nat}, zcj m ks->∀ k ∈ ks,k=m
 | k :: ks,h,x,hx=>by
  rcases List.mem_cons.1 hx with rfl | hx
  ·exact h.1
  ·exact zcj.mem h.2 x hx
theorem row_data {H:Im} {es b c:Nat} {arr:List Value} {ty:TypeId} {rows:List (List D)} (hb:H b=some (.cells ⟨arr⟩ ty (0,0))) (h3:rows.length<=c) (h4:c<=maxLen) (h5:∀ r ∈ rows,r.length=es) (h6:RowAt H arr es rows) :
  DR H (.sl es rows) (.slice (some ⟨b,0,none⟩) rows.length c):=by
 cases hr:rows with
 | nil=>exact .nil es _ c (fun h=>by cases h) h4
 | cons r0 rs0 =>
  rw [<- hr]
  refine .sl es rows b 0 c ⟨arr⟩ ty (0,0) (fun i j=>(arr[i*es+j]?).getD undef) (by rw [hr];simp) hb h3 h4 (fun i hi=>h5 _ (List.getElem_mem hi)) ?_ ?_
  ·intro i hi j hj
   have hj':j<(rows[i]'hi).length:=by rw [h5 _ (List.getElem_mem hi)];exact hj
   obtain ⟨u,g1,_⟩:=h6 i _ (List.getElem?_eq_getElem hi) j _ (List.getElem?_eq_getElem hj')
   simp [g1]
  ·intro i hi j hj
   obtain ⟨u,g1,g2⟩:=h6 i _ (List.getElem?_eq_getElem hi) j _ (List.getElem?_eq_getElem hj)
   simp only [g1,Option.getD_some]
   exact g2
def F.pub (f:F) (n es:Nat) (rows:List (List D)):F :=
  ⟨fun t=>(f.s t).map (V.pub n es rows),fun m=>if Nat.beq m n then none else (f.l m).map (L.pub n es rows)⟩
theorem St.pub {w0:World} {H0:Im} {B0:Bl} {N:Nat} {f:F} {a:Act} {w:World} (h:St ⟨w0,H0,B0,[],N⟩ f a w) (n es:Nat) (ty:TypeId) (rows:List (List D)) (hl:f.l n=some (.row ty es rows))
  (h1:∀ t v,f.s t=some v->∀ k ∈ v.owns n,k=rows.length) (h2:∀ m l,f.l m=some l->∀ k ∈ l.owns n,k=rows.length):St ⟨w0,H0,B0,[],N⟩ (f.pub n es rows) a w:=by
 obtain ⟨H,B,hok⟩:=h
 have hLR:=hok.loc n _ hl
 -- what stays from here on
 obtain ⟨H', hle,hH', hcell⟩:∃ H':Im,Le H H'/\(∀ b o,H' b=some o->H b=some o\/(w.heap[b]?=some o/\∃ c,B n=some (b,c))) /\
   (∀ (x:C) (v:Value),(∀ k ∈ x.owns n,k=rows.length)->CR H B x v->CR H' B (x.pub n es rows) v):=by
  have keepC:∀ {H':Im} (hle:Le H H'),(∀ v,CR H B (.own n rows.length) v->DR H' (.sl es rows) v)->∀ (x:C) (v:Value),(∀ k ∈ x.owns n,k=rows.length)->CR H B x v->CR H' B (x.pub n es rows) v:=by
   intro H' hle hown x v hk hx
   cases x with
   | own m k =>
    simp only [C.pub]
    split
    ·rename_i e1
     have e1:=Nat.eq_of_beq_eq_true e1
     subst e1
     have:=hk k (by simp [C.owns])
     subst this
     exact hown v hx
    ·exact CR.mono hle (fun _ _=>rfl) hx
   | ptr m o =>
    simp only [C.pub]
    split
    ·exact CR.flat hx
    ·exact CR.mono hle (fun _ _=>rfl) hx
   | sub m o k =>
    simp only [C.pub]
    split
    ·exact CR.flat hx
    ·exact CR.mono hle (fun _ _=>rfl) hx
   | d x=>exact CR.mono hle (fun _ _=>rfl) hx
   | el x=>exact CR.mono hle (fun _ _=>rfl) hx
   | fn f' x y=>exact CR.mono hle (fun _ _=>rfl) hx
   | any=>exact hx
   | mp m =>
    simp only [C.pub]
    split
    ·exact CR.flat hx
    ·exact CR.mono hle (fun _ _=>rfl) hx
  cases hB:B n with
  | none =>
   simp only [LR,hB] at hLR
   subst hLR
   refine ⟨H,Le.refl _,fun b o h => .inl h,keepC (Le.refl _) fun v hv=>?_⟩
   simp only [CR,hB] at hv
   obtain ⟨_,ao,hv⟩:=hv
   rw [hv]
   exact .nil es ao 0 (fun _=>rfl) (Nat.zero_le _)
  | some p =>
   obtain ⟨b,c⟩:=p
   obtain ⟨arr,g1,g2,g3,g4,g5,g6⟩:=hok.row hl hB
   have hnone:=(hok.priv n _ b c hl hB).2.1
   have hle:Le H (fun x=>if x=b then some (.cells ⟨arr⟩ ty (0,0)) else H x):=by
    intro x o hx
    have:x≠b:=fun e=>by rw [e,hnone] at hx;cases hx
    simp [this,hx]
   refine ⟨fun x=>if x=b then some (.cells ⟨arr⟩ ty (0,0)) else H x,hle,?_,keepC hle fun v hv=>?_⟩
   ·intro x o hx
    by_cases e:x=b
    ·subst e
     simp only [if_true] at hx
     exact .inr ⟨by rw [g1];exact hx,c,rfl⟩
    ·simp [e] at hx;exact .inl hx
   ·simp only [CR,hB] at hv
    rw [hv]
    exact row_data (arr:=arr) (ty:=ty) (if_pos rfl) g3 g4 g5 fun i r hr f' x hx=>by
     obtain ⟨u,k1,k2⟩:=g6 i r hr f' x hx
     exact ⟨u,k1,k2.mono hle⟩
 have hT:∀ (x:T) (v:Value),(∀ k ∈ x.owns n,k=rows.length)->TR H B x v->TR H' B (x.pub n es rows) v:=by
  intro x v hk hx
  cases x with
  | c x=>exact hcell x v hk hx
  | agg cs =>
   obtain ⟨vs,hv,hx⟩:=hx
   refine ⟨vs,hv,zba.iff.2 ⟨by rw [List.length_map];exact hx.length,fun j a' b' ha hb=>?_⟩⟩
   rw [List.getElem?_map] at ha
   cases hj:cs[j]? with
   | none=>rw [hj] at ha;cases ha
   | some y =>
    rw [hj] at ha
    injection ha with ha
    subst ha
    exact hcell y b' (fun k hk2=>hk k (by simp only [T.owns,List.mem_flatMap];exact ⟨y,List.mem_of_getElem? hj,hk2⟩)) ((zba.iff.1 hx).2 j y b' hj hb)
 refine ⟨H', B,hok.df,hok.n,hok.ext,?_,?_,?_,?_,?_,?_,hok.le.trans hle,hok.keep,hok.tab⟩
 ·intro b o hb
  rcases hH' b o hb with h' | ⟨h', _⟩
  ·exact hok.sat b o h'
  ·exact h'
 ·intro t v hv
  simp only [F.pub,Option.map_eq_some_iff] at hv
  obtain ⟨x,hx,rfl⟩:=hv
  have hR:=hok.slot t x hx
  have hk:=h1 t x hx
  cases x with
  | t x=>exact hT x _ hk hR
  | tup xs =>
   obtain ⟨vs,hv,hx2⟩:=hR
   refine ⟨vs,hv,zba.iff.2 ⟨by rw [List.length_map];exact hx2.length,fun j a' b' ha hb=>?_⟩⟩
   rw [List.getElem?_map] at ha
   cases hj:xs[j]? with
   | none=>rw [hj] at ha;cases ha
   | some y =>
    rw [hj] at ha
    injection ha with ha
    subst ha
    exact hT y b' (fun k hk2=>hk k (by simp only [V.owns,List.mem_flatMap];exact ⟨y,List.mem_of_getElem? hj,hk2⟩)) ((zba.iff.1 hx2).2 j y b' hj hb)
 ·intro m l hm
  simp only [F.pub] at hm
  split at hm
  ·cases hm
  ·simp only [Option.map_eq_some_iff] at hm
   obtain ⟨x,hx,rfl⟩:=hm
   have hR:=hok.loc m x hx
   have hk:=h2 m x hx
   cases x with
   | box cs =>
    obtain ⟨b,c,arr,ty', hb,hc,hx2⟩:=hR
    refine ⟨b,c,arr,ty', hb,hc,zba.iff.2 ⟨by rw [List.length_map];exact hx2.length,fun j a' b' ha hb=>?_⟩⟩
    rw [List.getElem?_map] at ha
    cases hj:cs[j]? with
    | none=>rw [hj] at ha;cases ha
    | some y =>
     rw [hj] at ha
     injection ha with ha
     subst ha
     exact hcell y b' (fun k hk2=>hk k (by simp only [L.owns,List.mem_flatMap];exact ⟨y,List.mem_of_getElem? hj,hk2⟩)) ((zba.iff.1 hx2).2 j y b' hj hb)
   | row ty' es' rows'=>exact LR.mono hle rfl (fun _ _=>rfl) (fun _ _ _=>rfl) hR
   | mp x=>exact LR.mono (x:=.mp x) hle rfl (fun _ _=>rfl) (fun _ _ _=>rfl) hR
   | bld ty' c' rest =>
    obtain ⟨b,k,v1,v2,vr,hb,hc,g1,g0,g2,g3⟩:=hR
    refine ⟨b,k,v1,v2,vr,hb,hc,g1,g0,hcell c' v2 (fun k hk2=>hk k (by simp only [L.owns];exact List.mem_append_left _ hk2)) g2,zba.iff.2 ⟨by rw [List.length_map];exact g3.length,fun j a' b' ha hb=>?_⟩⟩
    rw [List.getElem?_map] at ha
    cases hj:rest[j]? with
    | none=>rw [hj] at ha;cases ha
    | some y =>
     rw [hj] at ha
     injection ha with ha
     subst ha
     exact hcell y b' (fun k hk2=>hk k (by simp only [L.owns];exact List.mem_append_right _ (List.mem_flatMap.2 ⟨y,List.mem_of_getElem? hj,hk2⟩))) ((zba.iff.1 g3).2 j y b' hj hb)
 ·intro m l b c hm hb
  simp only [F.pub] at hm
  split at hm
  ·cases hm
  ·rename_i hne
   simp only [Option.map_eq_some_iff] at hm
   obtain ⟨x,hx,rfl⟩:=hm
   obtain ⟨p1,p2,p3⟩:=hok.priv m x b c hx hb
   refine ⟨p1,?_,p3⟩
   cases hq:H' b with
   | none=>rfl
   | some o =>
    rcases hH' b o hq with h' | ⟨_,c', h'⟩
    ·rw [p2] at h';cases h'
    ·have:=hok.inj m n x _ b c c' hx hl hb h'
     subst this
     simp at hne
 ·intro m k l l' b c c' hm hk hb hb'
  simp only [F.pub] at hm hk
  split at hm
  ·cases hm
  ·split at hk
   ·cases hk
   ·simp only [Option.map_eq_some_iff] at hm hk
    obtain ⟨x,hx,_⟩:=hm
    obtain ⟨y,hy,_⟩:=hk
    exact hok.inj m k x y b c c' hx hy hb hb'
 ·intro b hb
  cases hq:H' b with
  | none =>
   rw [<- hok.low b hb]
   cases hr:H b with
   | none=>rfl
   | some o=>rw [hle b o hr] at hq;cases hq
  | some o =>
   rcases hH' b o hq with h' | ⟨_,c', h'⟩
   ·rw [<- hok.low b hb,h']
   ·rcases (hok.priv n _ b c' hl h').2.2 with ⟨m,hm,_⟩ | h3
    ·cases hm
    ·exact absurd hb (by simpa using h3)
abbrev Orc.g {P:Program} {d:Option Nat} {op:Op} {i:I} (h:∀ {ty pos af gd}, zbg P ⟨d,op,ty,pos,af,gd⟩ i):Orc P:=.gen d op i fun _ _ _ _=>h
abbrev Orc.j1 {P:Program} (j:Nat) (h:IntKind.i64.wrap ((j:Int)+1)=(j:Int)+1:=by exact i64_id (by omega) (by omega)):Orc P:=.add .i64 h
section
variable {P:Program}
theorem xD (d t:Nat) {y:Operand} {es i:Nat} {rows:List (List D)} {r:List D} {rs:List (Nat × V)} {xt el ty:TypeId} {pos af gd} (hs:SlT P xt el es) (hr:rows[i]?=some r) (hy:OV y (vi .i64 i) rs) :
    zbg P ⟨some d,.indexAddr xt (.tmp t) y,ty,pos,af,gd⟩ { rs:=(t,.t (.c (.d (.sl es rows)))) :: rs,ws:=[(d,some (.t (.c (.el r))))] }:=Op.idxD hs hr hy
theorem xO (d t n len i:Nat) {es:Nat} {y:Operand} {rs:List (Nat × V)} {xt el ty:TypeId} {pos af gd} (hs:SlT P xt el es) (hy:OV y (vi .i64 i) rs) (hi:i<len:=by first | omega | (simp at *;omega)) :
    zbg P ⟨some d,.indexAddr xt (.tmp t) y,ty,pos,af,gd⟩ { rs:=(t,.t (.c (.own n len))) :: rs,ws:=[(d,some (vp n (i*es)))] }:=Op.idxO hs hi hy
end
/-! another name -/
def A.ren (n m:Nat):A->A
  | .d x => .d x
  | .ptr k o => .ptr (if Nat.beq k n then m else k) o
def C.ren (n m:Nat):C->C
  | .own k l => .own (if Nat.beq k n then m else k) l
  | .ptr k o => .ptr (if Nat.beq k n then m else k) o
  | .sub k o l => .sub (if Nat.beq k n then m else k) o l
  | .mp k => .mp (if Nat.beq k n then m else k)
  | .fn f fs cs => .fn f (fs.map (A.ren n m)) (cs.map (A.ren n m))
  | c=>c
def T.ren (n m:Nat):T->T
  | .c x => .c (x.ren n m)
  | .agg cs => .agg (cs.map (C.ren n m))
def V.ren (n m:Nat):V->V
  | .t x => .t (x.ren n m)
  | .tup xs => .tup (xs.map (T.ren n m))
def L.ren (n m:Nat):L->L
  | .box cs => .box (cs.map (C.ren n m))
  | .row ty k r => .row ty k r
  | .bld ty c rest => .bld ty (c.ren n m) (rest.map (C.ren n m))
  | .mp x => .mp x
def F.ren (f:F) (n m:Nat):F :=
  ⟨fun t=>(f.s t).map (V.ren n m),fun x=>if Nat.beq x m then (f.l n).map (L.ren n m) else if Nat.beq x n then none else (f.l x).map (L.ren n m)⟩
theorem zba.mapL {α β γ:Type} {R:α->β->Prop} {R':γ->β->Prop} (g:α->γ):∀ {xs:List α} {ys:List β}, zba R xs ys->(∀ a ∈ xs,∀ b,R a b->R' (g a) b)->zba R' (xs.map g) ys
 | [],[],_,_=>trivial
 | _ :: _,_ :: _,h,k=>⟨k _ (by simp) _ h.1,h.2.mapL g fun a ha b=>k a (by simp [ha]) b⟩
 | [],_ :: _,h,_=>h.elim
 | _ :: _,[],h,_=>h.elim
section
variable {H:Im} {B:Bl} {n m:Nat}
def swB (B:Bl) (n m:Nat):Bl:=fun x=>if x=m then B n else B x
theorem zf4 (k:Nat) (hk:k≠m):swB B n m (if Nat.beq k n then m else k)=B k:=by
 by_cases e:k=n
 ·subst e;simp [swB]
 ·have:Nat.beq k n=false:=by
   cases h:Nat.beq k n with
   | false=>rfl
   | true=>exact absurd (Nat.eq_of_beq_eq_true h) e
  simp [this,swB,hk]
theorem AR.ren {x:A} {v:Value} (hm:m ∉ x.tags) (h:AR H B x v):AR H (swB B n m) (x.ren n m) v:=by
 cases x with
 | d x=>exact h
 | ptr k o=>obtain ⟨b,c,hb,hv⟩:=h;exact ⟨b,c,(zf4 k (fun e=>hm (by simp [A.tags,e]))).trans hb,hv⟩
theorem CR.ren {x:C} {v:Value} (hm:m ∉ x.tags) (h:CR H B x v):CR H (swB B n m) (x.ren n m) v:=by
 cases x with
 | ptr k o=>obtain ⟨b,c,hb,hv⟩:=h;exact ⟨b,c,(zf4 k (fun e=>hm (by simp [C.tags,e]))).trans hb,hv⟩
 | sub k o l=>exact ⟨h.1,fun hl=>let ⟨b,c,j,h1,h2⟩:=h.2 hl;⟨b,c,j,(zf4 k (fun e=>hm (by simp [C.tags,e]))).trans h1,h2⟩⟩
 | own k l=>simp only [CR,C.ren] at h ⊢;rw [zf4 k (fun e=>hm (by simp [C.tags,e]))];exact h
 | fn f fs cs =>
  obtain ⟨vs,ws,hv,h1,h2⟩:=h
  simp only [C.tags,List.mem_append,List.mem_flatMap,not_or,not_exists,not_and] at hm
  exact ⟨vs,ws,hv,h1.mapL _ fun a ha b=>AR.ren (hm.1 a ha),h2.mapL _ fun a ha b=>AR.ren (hm.2 a ha)⟩
 | d x=>exact h
 | el x=>exact h
 | any=>exact h
 | mp k=>obtain ⟨b,c,hb,hv⟩:=h;exact ⟨b,c,(zf4 k (fun e=>hm (by simp [C.tags,e]))).trans hb,hv⟩
theorem TR.ren {x:T} {v:Value} (hm:m ∉ x.tags) (h:TR H B x v):TR H (swB B n m) (x.ren n m) v:=by
 cases x with
 | c x=>exact CR.ren hm h
 | agg cs =>
  obtain ⟨vs,hv,h1⟩:=h
  simp only [T.tags,List.mem_flatMap,not_exists,not_and] at hm
  exact ⟨vs,hv,h1.mapL _ fun a ha b=>CR.ren (hm a ha)⟩
theorem VR.ren {x:V} {v:Value} (hm:m ∉ x.tags) (h:VR H B x v):VR H (swB B n m) (x.ren n m) v:=by
 cases x with
 | t x=>exact TR.ren hm h
 | tup xs =>
  obtain ⟨vs,hv,h1⟩:=h
  simp only [V.tags,List.mem_flatMap,not_exists,not_and] at hm
  exact ⟨vs,hv,h1.mapL _ fun a ha b=>TR.ren (hm a ha)⟩
theorem LR.ren {x:L} {w:World} {k:Nat} (hk:k≠m) (hm:m ∉ x.tags) (h:LR H B w k x):LR H (swB B n m) w (if Nat.beq k n then m else k) (x.ren n m):=by
 cases x with
 | box cs =>
  obtain ⟨b,c,arr,ty,hb,hc,h1⟩:=h
  simp only [L.tags,List.mem_flatMap,not_exists,not_and] at hm
  exact ⟨b,c,arr,ty,(zf4 k hk).trans hb,hc,h1.mapL _ fun a ha b=>CR.ren (hm a ha)⟩
 | row ty es rows=>simp only [LR,L.ren] at h ⊢;rw [zf4 k hk];exact h
 | bld ty c rest =>
  obtain ⟨b,j,v1,v2,vr,hb,hc,h1,h0,h2,h3⟩:=h
  simp only [L.tags,List.mem_append,not_or,List.mem_flatMap,not_exists,not_and] at hm
  exact ⟨b,j,v1,v2,vr,(zf4 k hk).trans hb,hc,h1,h0,CR.ren hm.1 h2,h3.mapL _ fun a ha b=>CR.ren (hm.2 a ha)⟩
 | mp x=>obtain ⟨b,c,arr,cl,hb,hc,h1⟩:=h;exact ⟨b,c,arr,cl,(zf4 k hk).trans hb,hc,h1⟩
end
theorem St.ren {e:E} {f:F} {a:Act} {w:World} (h:St e f a w) (n m:Nat) (hm:New e.K f m):St e (f.ren n m) a w:=by
 obtain ⟨H,B,hok⟩:=h
 have hmn:f.l m=none:=hm.2.1
 have cls:∀ x l,(f.ren n m).l x=some l->∃ y l0,f.l y=some l0/\l=l0.ren n m/\y≠m/\x=(if Nat.beq y n then m else y):=by
  intro x l hx
  simp only [F.ren] at hx
  split at hx
  ·rename_i e1
   have e1:=Nat.eq_of_beq_eq_true e1
   simp only [Option.map_eq_some_iff] at hx
   obtain ⟨l0,h1,rfl⟩:=hx
   exact ⟨n,l0,h1,rfl,(fun e=>by rw [e,hmn] at h1;cases h1),by simp [e1]⟩
  ·rename_i e1
   split at hx
   ·cases hx
   ·rename_i e2
    simp only [Option.map_eq_some_iff] at hx
    obtain ⟨l0,h1,rfl⟩:=hx
    exact ⟨x,l0,h1,rfl,(fun e=>by rw [e,hmn] at h1;cases h1),by simp [e2]⟩
 refine ⟨H,swB B n m,hok.df,hok.n,hok.ext,hok.sat,?_,?_,?_,?_,hok.low,hok.le,?_,hok.tab⟩
 ·intro t v hv
  simp only [F.ren,Option.map_eq_some_iff] at hv
  obtain ⟨x,hx,rfl⟩:=hv
  exact VR.ren (hm.2.2.1 t x hx) (hok.slot t x hx)
 ·intro x l hx
  obtain ⟨y,l0,h1,rfl,h2,rfl⟩:=cls x l hx
  exact LR.ren h2 (hm.2.2.2 y l0 h1) (hok.loc y l0 h1)
 ·intro x l b c hx hb
  obtain ⟨y,l0,h1,rfl,h2,rfl⟩:=cls x l hx
  rw [zf4 y h2] at hb
  exact hok.priv y l0 b c h1 hb
 ·intro x z l l' b c c' hx hz hb hb'
  obtain ⟨y,l0,h1,rfl,h2,rfl⟩:=cls x l hx
  obtain ⟨y', l0', h1', rfl,h2', rfl⟩:=cls z l' hz
  rw [zf4 y h2] at hb
  rw [zf4 y' h2'] at hb'
  rw [hok.inj y y' l0 l0' b c c' h1 h1' hb hb']
 ·intro x hx
  have:x≠m:=fun e=>hm.1 (e ▸ hx)
  simp only [swB,this,if_false]
  exact hok.keep x hx
/-! one slot, one block put otherwise -/
def F.setS (f:F) (t:Nat) (v:V):F:=⟨fun x=>if Nat.beq x t then some v else f.s x,f.l⟩
def F.setL (f:F) (n:Nat) (l:L):F:=⟨f.s,fun x=>if Nat.beq x n then some l else f.l x⟩
theorem Ok.setS {e:E} {f:F} {H:Im} {B:Bl} {a:Act} {w:World} (h:Ok e f H B a w) (t:Nat) (v v':V) (hv:f.s t=some v) (hx:∀ u,VR H B v u->VR H B v' u):Ok e (f.setS t v') H B a w:=by
 refine ⟨h.df,h.n,h.ext,h.sat,?_,h.loc,h.priv,h.inj,h.low,h.le,h.keep,h.tab⟩
 intro x y hy
 simp only [F.setS] at hy
 split at hy
 ·rename_i e1
  have e1:=Nat.eq_of_beq_eq_true e1
  subst e1
  injection hy with hy
  subst hy
  exact hx _ (h.slot x v hv)
 ·exact h.slot x y hy
theorem Ok.setL {e:E} {f:F} {H:Im} {B:Bl} {a:Act} {w:World} (h:Ok e f H B a w) (n:Nat) (l l':L) (hl:f.l n=some l) (hx:LR H B w n l->LR H B w n l'):Ok e (f.setL n l') H B a w:=by
 have cls:∀ m x,(f.setL n l').l m=some x->∃ y,f.l m=some y:=by
  intro m x hm
  simp only [F.setL] at hm
  split at hm
  ·rename_i e1
   have e1:=Nat.eq_of_beq_eq_true e1
   subst e1
   exact ⟨l,hl⟩
  ·exact ⟨x,hm⟩
 refine ⟨h.df,h.n,h.ext,h.sat,h.slot,?_,?_,?_,h.low,h.le,h.keep,h.tab⟩
 ·intro m x hm
  simp only [F.setL] at hm
  split at hm
  ·rename_i e1
   have e1:=Nat.eq_of_beq_eq_true e1
   subst e1
   injection hm with hm
   subst hm
   exact hx (h.loc m l hl)
  ·exact h.loc m x hm
 ·intro m x b c hm hb
  obtain ⟨y,hy⟩:=cls m x hm
  exact h.priv m y b c hy hb
 ·intro m k x y b c c' hm hk hb hb'
  obtain ⟨x', hx'⟩:=cls m x hm
  obtain ⟨y', hy'⟩:=cls k y hk
  exact h.inj m k x' y' b c c' hx' hy' hb hb'
theorem Ok.nilName {e:E} {f:F} {H:Im} {B:Bl} {a:Act} {w:World} (h:Ok e f H B a w) (n es:Nat) (ty:TypeId) (hn:New e.K f n) :
  Ok e (f.setL n (.row ty es [])) H (fun x=>if x=n then none else B x) a w:=by
 have hB:∀ m,m≠n->(fun x=>if x=n then none else B x) m=B m:=fun m hm=>by simp [hm]
 refine ⟨h.df,h.n,h.ext,h.sat,?_,?_,?_,?_,h.low,h.le,?_,h.tab⟩
 ·intro t v hv
  exact VR.mono (Le.refl _) (fun m hm=>hB m fun e=>hn.2.2.1 t v hv (e ▸ hm)) (h.slot t v hv)
 ·intro m x hm
  simp only [F.setL] at hm
  split at hm
  ·rename_i e1
   have e1:=Nat.eq_of_beq_eq_true e1
   subst e1
   injection hm with hm
   subst hm
   simp [LR]
  ·rename_i e1
   have hne:m≠n:=fun e=>by simp [e] at e1
   exact LR.mono (Le.refl _) (hB m hne) (fun k hk=>hB k fun e=>hn.2.2.2 m x hm (e ▸ hk)) (fun _ _ _=>rfl) (h.loc m x hm)
 ·intro m x b c hm hb
  by_cases e1:m=n
  ·simp [e1] at hb
  ·simp only [if_neg e1] at hb
   simp only [F.setL] at hm
   rw [if_neg (fun e=>e1 (Nat.eq_of_beq_eq_true e))] at hm
   exact h.priv m x b c hm hb
 ·intro m k x y b c c' hm hk hb hb'
  by_cases e1:m=n
  ·simp [e1] at hb
  ·by_cases e2:k=n
   ·simp [e2] at hb'
   ·simp only [if_neg e1] at hb
    simp only [if_neg e2] at hb'
    simp only [F.setL] at hm hk
    rw [if_neg (fun e=>e1 (Nat.eq_of_beq_eq_true e))] at hm
    rw [if_neg (fun e=>e2 (Nat.eq_of_beq_eq_true e))] at hk
    exact h.inj m k x y b c c' hm hk hb hb'
 ·intro m hm
  exact (hB m fun e=>hn.1 (e ▸ hm)).trans (h.keep m hm)
def za4:Value:=.slice none 0 0
def V.getC:V->Nat->Option C
  | .t (.c x),0=>some x
  | .t (.agg cs),j=>cs[j]?
  | _,_=>none
def V.setC:V->Nat->C->V
  | .t (.c _),_,c => .t (.c c)
  | .t (.agg cs),j,c => .t (.agg (cs.set j c))
  | v,_,_=>v
theorem VR.setC {H:Im} {B:Bl} {v:V} {j:Nat} {c c':C} (hg:v.getC j=some c) (hc:∀ u,CR H B c u->CR H B c' u) {u:Value} (h:VR H B v u):VR H B (v.setC j c') u:=by
 cases v with
 | tup xs=>cases hg
 | t x =>
  cases x with
  | c x =>
   cases j with
   | zero=>injection hg with hg;subst hg;exact hc u h
   | succ j=>cases hg
  | agg cs =>
   obtain ⟨vs,hv,h1⟩:=h
   refine ⟨vs,hv,zba.iff.2 ⟨by simpa using h1.length,fun i x y hx hy=>?_⟩⟩
   have hg:cs[j]?=some c:=by cases j <;> exact hg
   by_cases e:i=j
   ·subst e
    rw [List.getElem?_set_self (List.getElem?_eq_some_iff.1 hg).1] at hx
    injection hx with hx
    subst hx
    exact hc _ ((zba.iff.1 h1).2 i c y hg hy)
   ·rw [List.getElem?_set_ne (Ne.symm e)] at hx
    exact (zba.iff.1 h1).2 i x y hx hy
theorem LR.setC {H:Im} {B:Bl} {w:World} {n:Nat} {cs:List C} {j:Nat} {c c':C} (hg:cs[j]?=some c) (hc:∀ u,CR H B c u->CR H B c' u) (h:LR H B w n (.box cs)):LR H B w n (.box (cs.set j c')):=by
 obtain ⟨b,k,arr,ty,hb,hw,h1⟩:=h
 refine ⟨b,k,arr,ty,hb,hw,zba.iff.2 ⟨by simpa using h1.length,fun i x y hx hy=>?_⟩⟩
 by_cases e:i=j
 ·subst e
  rw [List.getElem?_set_self (List.getElem?_eq_some_iff.1 hg).1] at hx
  injection hx with hx
  subst hx
  exact hc _ ((zba.iff.1 h1).2 i c y hg hy)
 ·rw [List.getElem?_set_ne (Ne.symm e)] at hx
  exact (zba.iff.1 h1).2 i x y hx hy
theorem nil_data {H:Im} {B:Bl} (es:Nat) {ao:Option Addr} {c:Nat} (h1:ao=none->c=0) (h2:c<=maxLen) (u:Value) (h:CR H B (.d (.raw (.slice ao 0 c))) u):CR H B (.d (.sl es [])) u:=by
 have:=VR.rawI (H:=H) (B:=B) h
 subst this
 exact DR.nil es ao c h1 h2
section
variable {e:E} {f:F} {a:Act} {w:World}
theorem St.nilOS (h:St e f a w) (t j n es:Nat) (ty:TypeId) {v:V} (hv:f.s t=some v) (hg:v.getC j=some (.d (.raw za4))) (hn:New e.K f n):St e ((f.setL n (.row ty es [])).setS t (v.setC j (.own n 0))) a w:=by
 obtain ⟨H,B,hok⟩:=h
 refine ⟨H,_,(hok.nilName n es ty hn).setS t v _ hv fun u hu=>VR.setC hg (fun u hu=>?_) hu⟩
 have:=VR.rawI (H:=H) (B:=fun x=>if x=n then none else B x) hu
 subst this
 simp [CR,za4]
theorem St.nilOL (h:St e f a w) (m j n es:Nat) (ty:TypeId) {cs:List C} (hv:f.l m=some (.box cs)) (hg:cs[j]?=some (.d (.raw za4))) (hn:New e.K f n):St e ((f.setL n (.row ty es [])).setL m (.box (cs.set j (.own n 0)))) a w:=by
 obtain ⟨H,B,hok⟩:=h
 have hmn:m≠n:=fun e=>by have:=hn.2.1;rw [<- e,hv] at this;cases this
 refine ⟨H,_,(hok.nilName n es ty hn).setL m (.box cs) _ (by simp [F.setL,hmn,hv]) fun hu=>LR.setC hg (fun u hu=>?_) hu⟩
 have:=VR.rawI (H:=H) (B:=fun x=>if x=n then none else B x) hu
 subst this
 simp [CR,za4]
theorem St.nilDS (h:St e f a w) (t j es:Nat) {v:V} {ao:Option Addr} {c:Nat} (hv:f.s t=some v) (hg:v.getC j=some (.d (.raw (.slice ao 0 c)))) (h1:ao=none->c=0) (h2:c<=maxLen):St e (f.setS t (v.setC j (.d (.sl es [])))) a w:=by
 obtain ⟨H,B,hok⟩:=h
 exact ⟨H,B,hok.setS t v _ hv fun u hu=>VR.setC hg (nil_data es h1 h2) hu⟩
theorem St.nilDL (h:St e f a w) (m j es:Nat) {cs:List C} {ao:Option Addr} {c:Nat} (hv:f.l m=some (.box cs)) (hg:cs[j]?=some (.d (.raw (.slice ao 0 c)))) (h1:ao=none->c=0) (h2:c<=maxLen):St e (f.setL m (.box (cs.set j (.d (.sl es []))))) a w:=by
 obtain ⟨H,B,hok⟩:=h
 exact ⟨H,B,hok.setL m (.box cs) _ hv fun hu=>LR.setC hg (nil_data es h1 h2) hu⟩
theorem St.cutR (h:St e f a w) (n k es:Nat) (ty:TypeId) {rows:List (List D)} (hl:f.l n=some (.row ty es rows)):St e (f.setL n (.row ty es (rows.take k))) a w:=by
 obtain ⟨H,B,hok⟩:=h
 refine ⟨H,B,hok.setL n _ _ hl fun hu=>?_⟩
 simp only [LR] at hu ⊢
 split at hu
 ·rw [hu];simp
 ·obtain ⟨arr,h1,h2,h3,h4,h5,h6⟩:=hu
  have h5':∀ r ∈ rows.take k,r.length=es:=fun r hr=>h5 r (List.mem_of_mem_take hr)
  have h3':(rows.take k).length<=_:=Nat.le_trans (by rw [List.length_take];omega) h3
  refine ⟨arr,h1,h2,h3', h4,h5', (zel h2 h3' h5').2 fun i r hr f x hx=>?_⟩
  rw [List.getElem?_take] at hr
  split at hr
  ·exact (zel h2 h3 h5).1 h6 i r hr f x hx
  ·cases hr
end
theorem Ok.renew {e:E} {f g:F} {H:Im} {B:Bl} {a:Act} {w w':World} (h:Ok e f H B a w) {n n':Nat} {l l':L} (hn:f.l n=some l) (hnew:New e.K f n') (p:Option (Nat × Nat))
  (ho:w'.os=w.os) (ht:w'.tape=w.tape) (hu:w'.output=w.output) (hz:w.heap.size<=w'.heap.size) (hk:∀ k,k<w.heap.size->(∀ c,B n≠some (k,c))->w'.heap[k]?=w.heap[k]?)
  (hp:∀ b c,p=some (b,c)->b<w'.heap.size/\((∃ c', B n=some (b,c'))\/w.heap.size<=b)) (lr:LR H (fun x=>if x=n' then p else B x) w' n' l')
  (hs:∀ t,g.s t=f.s t) (hl:∀ m,g.l m=if m=n' then some l' else if m=n then none else f.l m):Ok e g H (fun x=>if x=n' then p else B x) a w':=by
 have hB:∀ m,m≠n'->(fun x=>if x=n' then p else B x) m=B m:=fun m hm=>by simp [hm]
 have cls:∀ m x,g.l m=some x->(m=n'/\x=l')\/(m≠n'/\m≠n/\f.l m=some x):=by
  intro m x hm
  rw [hl] at hm
  split at hm
  ·rename_i e1;injection hm with hm;exact .inl ⟨e1,hm.symm⟩
  ·rename_i e1
   split at hm
   ·cases hm
   ·rename_i e2;exact .inr ⟨e1,e2,hm⟩
 refine ⟨h.df,h.n,⟨ho.trans h.ext.os,ht.trans h.ext.tape,hu.trans h.ext.output,Nat.le_trans h.ext.size hz,?_⟩,?_,?_,?_,?_,?_,h.low,h.le,?_,h.tab⟩
 ·intro b hb hm
  have:=h.ext.size
  rw [hk b (by omega) fun c hc=>?_]
  ·exact h.ext.block b hb hm
  ·rcases (h.priv n l b c hn hc).2.2 with h1 | h1
   ·exact hm h1
   ·omega
 ·intro b o hb
  have h1:=h.sat b o hb
  have:b<w.heap.size:=(Array.getElem?_eq_some_iff.1 h1).1
  rw [hk b this fun c hc=>?_]
  ·exact h1
  ·rw [(h.priv n l b c hn hc).2.1] at hb;cases hb
 ·intro t v hv
  rw [hs] at hv
  exact VR.mono (Le.refl _) (fun m hm=>hB m fun e=>hnew.2.2.1 t v hv (e ▸ hm)) (h.slot t v hv)
 ·intro m x hm
  rcases cls m x hm with ⟨rfl,rfl⟩ | ⟨h1,h2,h3⟩
  ·exact lr
  ·refine LR.mono (Le.refl _) (hB m h1) (fun k hk2=>hB k fun e=>hnew.2.2.2 m x h3 (e ▸ hk2)) (fun b c hb=>?_) (h.loc m x h3)
   refine hk b (h.priv m x b c h3 hb).1 fun c' hc'=>h2 (h.inj m n x l b c c' h3 hn hb hc')
 ·intro m x b c hm hb
  rcases cls m x hm with ⟨rfl,rfl⟩ | ⟨h1,h2,h3⟩
  ·simp only [if_true] at hb
   obtain ⟨h4,h5⟩:=hp b c hb
   refine ⟨h4,?_⟩
   rcases h5 with ⟨c', hc'⟩ | h5
   ·exact (h.priv n l b c' hn hc').2
   ·refine ⟨?_,.inr (Nat.le_trans h.ext.size h5)⟩
    cases hq:H b with
    | none=>rfl
    | some o=>have:=(Array.getElem?_eq_some_iff.1 (h.sat b o hq)).1;omega
  ·simp only [if_neg h1] at hb
   obtain ⟨h4,h5⟩:=h.priv m x b c h3 hb
   exact ⟨Nat.lt_of_lt_of_le h4 hz,h5⟩
 ·have cross:∀ m x b c c', m≠n->f.l m=some x->B m=some (b,c)->p=some (b,c')->False:=by
   intro m x b c c' h2 h3 hb hb'
   rcases (hp b c' hb').2 with ⟨c2,hc2⟩ | h5
   ·exact h2 (h.inj m n x l b c c2 h3 hn hb hc2)
   ·have:=(h.priv m x b c h3 hb).1;omega
  intro m k x y b c c' hm hk2 hb hb'
  rcases cls m x hm with ⟨rfl,rfl⟩ | ⟨h1,h2,h3⟩ <;> rcases cls k y hk2 with ⟨rfl,rfl⟩ | ⟨j1,j2,j3⟩
  ·rfl
  ·simp only [if_true] at hb
   simp only [if_neg j1] at hb'
   exact (cross k y b c' c j2 j3 hb' hb).elim
  ·simp only [if_true] at hb'
   simp only [if_neg h1] at hb
   exact (cross m x b c c' h2 h3 hb hb').elim
  ·simp only [if_neg h1] at hb
   simp only [if_neg j1] at hb'
   exact h.inj m k x y b c c' h3 j3 hb hb'
 ·intro m hm
  exact (hB m fun e=>hnew.1 (e ▸ hm)).trans (h.keep m hm)
/-- an element type, with its zero and its size in bytes -/
structure ElT (P:Program) (t el:TypeId) (es bs:Nat):Prop where
  hu:P.underlying t=some (.slice el)
  ex:∃ i z,P.info? el=some i/\i.zero=some z/\i.size=es/\i.bytes=bs/\z.cells.size=es
  pos:0<es
  bpos:0<bs
theorem ElT.mk' {P:Program} {t el:TypeId} {es bs:Nat} (hu:P.underlying t=some (.slice el)) (i:TypeInfo) (z:Value) (h1:P.info? el=some i) (h2:i.zero=some z) (h3:i.size=es) (h4:i.bytes=bs) (h5:z.cells.size=es) (h6:0<es) (h7:0<bs):ElT P t el es bs:=⟨hu,⟨i,z,h1,h2,h3,h4,h5⟩,h6,h7⟩
section
variable {P:Program}
theorem append_fresh {w:World} {el xt ty:TypeId} {i:TypeInfo} {z:Value} {es:Nat} (hu:P.underlying xt=some (.slice el)) (hi:P.info? el=some i) (hz:i.zero=some z) (hsz:i.size=es)
  {v:Value} {n:Nat} {xs:List Value} (hown:w.ownsRow 0 el es v n xs) {a:Addr} {m c:Nat} (hm:0<m) {news:List Value} (hl:news.length=m*es) (hnews:∀ j u,news[j]?=some u->w.cell? (a.add j)=some u) (h1:∀ u ∈ news,u.oneCell'=true)
  (h63:n+m<=maxLen) (hb:(n+m)*i.bytes<=140737488355328) {v':Value} {w':World} (hr:(Builtin.append_ #[xt,xt] ty #[v,.slice (some a) m c]).run P w = .ok v' w'):∀ g,v'.ownBlock=some g->v.ownBlock=some g\/g=w.heap.size:=by
 subst hsz
 have hsmall:n+m<=9223372036854775807:=by simp only [maxLen] at h63;omega
 intro g hg
 rcases hown.2 with ⟨rfl,rfl⟩ | ⟨g2,cap,cur,rfl,_,hg2,hnc,hcm,hcs,htake⟩
 ·have h2:=run_append_nil (P:=P) w xt ty el i z hu hi hz a m c news hl hnews hm (by omega) (by have:=hb;simp only [Nat.zero_add] at this;omega)
  rw [h2] at hr
  injection hr with hr _
  subst hr
  simp [Value.ownBlock] at hg
  exact .inr hg.symm
 ·by_cases hroom:n+m<=cap
  ·have hfit:n*i.size+news.length<=cur.size:=by rw [hl,hcs,<- Nat.add_mul];exact Nat.mul_le_mul_right _ hroom
   have h2:=run_append_room (P:=P) w xt ty el i hu hi g2 n cap cur hg2 a m c news hl hnews h1 hroom hfit
   rw [h2] at hr
   injection hr with hr _
   subst hr
   exact .inl hg
  ·have holds:∀ j u,xs[j]?=some u->w.cell? ((⟨g2,0,none⟩:Addr).add j)=some u:=hown.cells (g:=g2) rfl
   have h2:=run_append_grow (P:=P) w xt ty el i z hu hi hz ⟨g2,0,none⟩ n cap xs hown.1 holds a m c news hl hnews (by omega) (by omega) (growslice_fits (by omega) hb)
   rw [h2] at hr
   injection hr with hr _
   subst hr
   simp [Value.ownBlock] at hg
   exact .inr hg.symm
theorem append_base0 {w:World} {el xt ty:TypeId} {i:TypeInfo} {z:Value} {es:Nat} (hu:P.underlying xt=some (.slice el)) (hi:P.info? el=some i) (hz:i.zero=some z) (hsz:i.size=es)
  (a0:Addr) {a:Addr} {m c:Nat} {news:List Value} (hl:news.length=m*es) (hnews:∀ j u,news[j]?=some u->w.cell? (a.add j)=some u) (hm:0<m) (h63:m<=maxLen) (hb:m*i.bytes<=140737488355328) :
  (Builtin.append_ #[xt,xt] ty #[.slice (some a0) 0 0,.slice (some a) m c]).run P w=(Builtin.append_ #[xt,xt] ty #[.slice none 0 0,.slice (some a) m c]).run P w:=by
 subst hsz
 have hsmall:m<=9223372036854775807:=by simp only [maxLen] at h63;omega
 rw [run_append_nil (P:=P) w xt ty el i z hu hi hz a m c news hl hnews hm (by omega) (by omega),run_append_grow (P:=P) w xt ty el i z hu hi hz a0 0 0 [] (by simp) (by simp) a m c news hl hnews (by omega) (by omega) (growslice_fits (by omega) (by simpa using hb))]
 simp
theorem wp_of_run {o:Oper} {e:E} {g:F} {d:Nat} {v:Value} {a:Act} {w w':World} {Q:Exit->Act->World->Prop} (hd:o.dst=some d) (hrun:(execOp a.eval o).run P w = .ok (.value v) w') (h:St e g (a.put (some d) v) w') :
  Oper.wp P o a w (fun a' w'=>St e g a' w') Q:=by
 unfold Oper.wp
 rw [hrun,Oper.upon_value,hd]
 exact h
theorem DR.cellsAt {H:Im} {es:Nat} {rows:List (List D)} {w:World} (hsat:∀ b o,H b=some o->w.heap[b]?=some o) {b o:Nat} {arr:Array Value} {ty:TypeId} {fz:Nat × Nat} {vs:Nat->Nat->Value} (hb:H b=some (.cells arr ty fz)) (hes:∀ i (hi:i<rows.length),(rows[i]'hi).length=es)
  (hv:∀ i (_:i<rows.length) j,j<es->arr[o+i*es+j]?=some (vs i j)) (hr:∀ i (hi:i<rows.length) j (hj:j<rows[i].length),DR H rows[i][j] (vs i j)) :
  ∃ news:List Value,news.length=rows.length*es/\(∀ j u,news[j]?=some u->w.cell? ((⟨b,o,none⟩:Addr).add j)=some u)/\RowAt H news es rows/\(∀ u ∈ news,u.oneCell'=true):=by
 have hw:=hsat b _ hb
 have hget:∀ j,j<rows.length*es->0<es/\j / es<rows.length/\j % es<es/\j=j / es*es+j % es:=by
  intro j hj
  have he:0<es:=Nat.pos_of_ne_zero fun e=>by simp [e] at hj
  exact ⟨he,Nat.div_lt_of_lt_mul (by rw [Nat.mul_comm];exact hj),Nat.mod_lt _ he,by rw [Nat.mul_comm];exact (Nat.div_add_mod j es).symm⟩
 refine ⟨(List.range (rows.length*es)).map fun j=>vs (j / es) (j % es),by simp,?_,?_,?_⟩
 ·intro j u hu
  rw [List.getElem?_map] at hu
  by_cases hj:j<rows.length*es
  ·rw [List.getElem?_range hj] at hu
   injection hu with hu
   obtain ⟨h1,h2,h3,h4⟩:=hget j hj
   rw [Addr.add_mid]
   have:=hv (j / es) h2 (j % es) h3
   rw [Nat.add_assoc,<- h4] at this
   subst hu
   simp [World.cell?, hw,this]
  ·rw [List.getElem?_eq_none (by simpa using hj)] at hu;cases hu
 ·intro i r hri f x hx
  obtain ⟨hi,rfl⟩:=List.getElem?_eq_some_iff.1 hri
  obtain ⟨hf,rfl⟩:=List.getElem?_eq_some_iff.1 hx
  have hf':f<es:=by rw [<- hes i hi];exact hf
  have hlt:i*es+f<rows.length*es:=by
   have:(i+1)*es<=rows.length*es:=Nat.mul_le_mul_right _ hi
   rw [Nat.add_mul] at this;omega
  have e1:(i*es+f) / es=i:=by rw [Nat.mul_comm,Nat.mul_add_div (by omega)];simp [Nat.div_eq_of_lt hf']
  have e2:(i*es+f) % es=f:=by rw [Nat.mul_comm,Nat.mul_add_mod];exact Nat.mod_eq_of_lt hf'
  refine ⟨vs i f,?_,hr i hi f hf⟩
  rw [List.getElem?_map,List.getElem?_range hlt]
  simp [e1,e2]
 ·intro u hu
  simp only [List.mem_map,List.mem_range] at hu
  obtain ⟨j,hj,rfl⟩:=hu
  obtain ⟨h1,h2,h3,h4⟩:=hget j hj
  exact flat_one (DR.flat (hr (j / es) h2 (j % es) (by rw [hes _ h2];exact h3)))
theorem Op.appOD {d t u n n' len len' es bs:Nat} {rows rows2 rows':List (List D)} {xt el ty:TypeId} {pos af gd} (hT:ElT P xt el es bs) (hlen:len=rows.length) (hlen':len'=len+rows2.length) (hrow:rows++rows2=rows')
  (hes2:∀ r ∈ rows2,r.length=es) (hb:(len+rows2.length)*bs<=140737488355328) :
  zbg P ⟨some d,.call { callee:=.builtin .append,args:=#[.tmp t,.tmp u],argTypes:=#[xt,xt] }, ty,pos,af,gd⟩
   { rs:=[(t,vO n len),(u,vS es rows2)],rl:=[(n,.row el es rows)],ws:=[(d,some (vO n' len'))],wl:=[(n', some (.row el es rows')),(n,none)],nw:=[n'] }:=by
 rintro e f a w Q ⟨H,B,hok⟩ hr hnw hb0
 subst hlen hlen' hrow
 have hnew:=hnw n' (by simp)
 have hl:=hr.2 (n,.row el es rows) (by simp)
 have h1:CR H B (.own n rows.length) (a.eval (.tmp t)):=hok.slot t _ (hr.1 (t,vO n rows.length) (by simp))
 have h2:DR H (.sl es rows2) (a.eval (.tmp u)):=hok.slot u _ (hr.1 (u,vS es rows2) (by simp))
 obtain ⟨i,z,hi,hz,hsz,hby,hzs⟩:=hT.ex
 have hne:n≠n':=fun e=>by have:=hnew.2.1;rw [<- e,hl] at this;cases this
 have hlr:=hok.loc n _ hl
 have hml:rows.length+rows2.length<=maxLen:=by
  have:(rows.length+rows2.length)*1<=(rows.length+rows2.length)*bs:=Nat.mul_le_mul_left _ hT.bpos
  simp only [maxLen];omega
 -- the run, the new block
 have main:∃ v w' p,(Builtin.append_ #[xt,xt] ty #[a.eval (.tmp t),a.eval (.tmp u)]).run P w = .ok v w'/\CR H (fun x=>if x=n' then p else B x) (.own n' (rows.length+rows2.length)) v /\
   LR H (fun x=>if x=n' then p else B x) w' n' (.row el es (rows++rows2))/\w'.os=w.os/\w'.tape=w.tape/\w'.output=w.output/\w.heap.size<=w'.heap.size/\(∀ k,k<w.heap.size->(∀ c,B n≠some (k,c))->w'.heap[k]?=w.heap[k]?) /\
   (∀ b c,p=some (b,c)->b<w'.heap.size/\((∃ c', B n=some (b,c'))\/w.heap.size<=b)):=by
  generalize a.eval (.tmp t)=vt at h1
  generalize a.eval (.tmp u)=vu at h2
  -- nothing is added
  have empty:∀ ao c,rows2=[]->∃ v w' p,(Builtin.append_ #[xt,xt] ty #[vt,.slice ao 0 c]).run P w = .ok v w'/\CR H (fun x=>if x=n' then p else B x) (.own n' (rows.length+rows2.length)) v /\
    LR H (fun x=>if x=n' then p else B x) w' n' (.row el es (rows++rows2))/\w'.os=w.os/\w'.tape=w.tape/\w'.output=w.output/\w.heap.size<=w'.heap.size/\(∀ k,k<w.heap.size->(∀ c,B n≠some (k,c))->w'.heap[k]?=w.heap[k]?) /\
    (∀ b c,p=some (b,c)->b<w'.heap.size/\((∃ c', B n=some (b,c'))\/w.heap.size<=b)):=by
   rintro ao c rfl
   have hrun:∀ base m cap,m<=cap->(Builtin.append_ #[xt,xt] ty #[.slice base m cap,.slice ao 0 c]).run P w = .ok (.slice base m cap) w:=by
    intro base m cap hmc
    cases ao <;> cases base <;> simp [Builtin.append_,run_underlying hT.hu,sizeOf,typeInfo,hi,Builtin.lenOf,hmc,Builtin.firstCells,loadCells,loadCellsFrom,storeCells]
   refine ⟨vt,w,B n,?_,?_,?_,rfl,rfl,rfl,Nat.le_refl _,fun _ _ _=>rfl,fun b c hb=>⟨(hok.priv n _ b c hl hb).1,.inl ⟨c,hb⟩⟩⟩
   ·simp only [CR] at h1
    cases hB:B n with
    | none=>rw [hB] at h1;obtain ⟨_,ao0,h1⟩:=h1;rw [h1];exact hrun ao0 0 0 (Nat.le_refl _)
    | some q =>
     obtain ⟨b,cc⟩:=q
     rw [hB] at h1
     obtain ⟨arr,g1,g2,g3,g4,g5,g6⟩:=hok.row hl hB
     rw [h1];exact hrun _ _ _ g3
   ·simp only [CR,if_true,List.length_nil,Nat.add_zero] at h1 ⊢;exact h1
   ·simp only [LR,if_true,List.append_nil] at hlr ⊢;exact hlr
  cases h2 with
  | nil _ ao c _ _=>exact empty ao c rfl
  | sl _ _ b o c arr ty' fz vs hp hbH hl2 hc hes hv hx =>
   obtain ⟨news,n1,n2,n3,n4⟩:=DR.cellsAt hok.sat hbH hes hv hx
   obtain ⟨vt0,hvt0,hblk,hown⟩:∃ vt0,(Builtin.append_ #[xt,xt] ty #[vt,.slice (some ⟨b,o,none⟩) rows2.length c]).run P w=(Builtin.append_ #[xt,xt] ty #[vt0,.slice (some ⟨b,o,none⟩) rows2.length c]).run P w/\vt0.ownBlock=(B n).map (·.1)/\∃ xs,w.ownsRow 0 el es vt0 rows.length xs/\RowAt H xs es rows:=by
    simp only [CR] at h1
    cases hB:B n with
    | none =>
     simp only [LR,hB] at hlr
     rw [hB] at h1
     subst hlr
     obtain ⟨_,ao0,rfl⟩:=h1
     refine ⟨.slice none 0 0,?_,rfl,[],⟨by simp,.inl ⟨rfl,rfl⟩⟩,fun i r hr=>by simp at hr⟩
     cases ao0 with
     | none=>rfl
     | some a0=>exact append_base0 hT.hu hi hz hsz a0 n1 n2 hp (by simpa using hml) (by rw [hby];simpa using hb)
    | some q =>
     obtain ⟨b2,cc⟩:=q
     rw [hB] at h1
     obtain ⟨arr2,g1,g2,g3,g4,g5,g6⟩:=hok.row hl hB
     have hle:rows.length*es<=cc*es:=Nat.mul_le_mul_right _ g3
     refine ⟨vt,rfl,by rw [h1];rfl,arr2.take (rows.length*es),⟨by rw [List.length_take];omega,.inr ⟨b2,cc,⟨arr2⟩,h1,Nat.zero_le _,g1,g3,g4,by simpa using g2,rfl⟩⟩,?_⟩
     intro i r hri f x hx2
     obtain ⟨u,k1,k2⟩:=g6 i r hri f x hx2
     refine ⟨u,?_,k2⟩
     have hi2:=(List.getElem?_eq_some_iff.1 hri).1
     have hf2:=(List.getElem?_eq_some_iff.1 hx2).1
     rw [g5 r (List.mem_of_getElem? hri)] at hf2
     have:(i+1)*es<=rows.length*es:=Nat.mul_le_mul_right _ hi2
     rw [Nat.add_mul] at this
     rw [List.getElem?_take,if_pos (by omega)];exact k1
   obtain ⟨xs,hown,hxs⟩:=hown
   obtain ⟨v', w', r1,r2,r3,r4⟩:=run_append_own (P:=P) w 0 xt ty el i z es bs hT.hu hi hz hsz hby hzs hT.pos vt0 rows.length xs hown ⟨b,o,none⟩ rows2.length c news n1 n2 n4 hml hb (Nat.zero_le _)
   have hall:∀ r ∈ rows++rows2,r.length=es:=by
    intro r hr2
    rcases List.mem_append.1 hr2 with h' | h'
    ·cases hB:B n with
     | none=>simp only [LR,hB] at hlr;rw [hlr] at h';cases h'
     | some q=>obtain ⟨_,_,_,_,_,g5,_⟩:=hok.row hl hB;exact g5 r h'
    ·exact hes2 r h'
   have hboth:RowAt H (xs++news) es (rows++rows2):=by
    intro i2 r hri f x hx2
    by_cases hlt:i2<rows.length
    ·rw [List.getElem?_append_left hlt] at hri
     obtain ⟨u,k1,k2⟩:=hxs i2 r hri f x hx2
     exact ⟨u,by rw [List.getElem?_append_left (List.getElem?_eq_some_iff.1 k1).1];exact k1,k2⟩
    ·rw [List.getElem?_append_right (by omega)] at hri
     obtain ⟨u,k1,k2⟩:=n3 _ r hri f x hx2
     refine ⟨u,?_,k2⟩
     have hq:rows.length*es<=i2*es:=Nat.mul_le_mul_right _ (by omega)
     rw [List.getElem?_append_right (by rw [hown.1];omega),hown.1,<- k1]
     congr 1
     rw [Nat.sub_mul];omega
   obtain ⟨q1,q2⟩:=r2
   have hkk:∀ k,k<w.heap.size->(∀ c,B n≠some (k,c))->w'.heap[k]?=w.heap[k]?:=by
    intro k hk hnk
    refine r3.block k hk ?_
    rw [hblk]
    intro e1
    cases hB:B n with
    | none=>rw [hB] at e1;cases e1
    | some q=>obtain ⟨b2,cc⟩:=q;rw [hB] at e1;simp at e1;exact hnk cc (by rw [hB,e1])
   rcases q2 with ⟨_,hn0⟩ | ⟨g,cap,cur,rfl,_,k2,k3,k4,k5,k6⟩
   ·omega
   ·refine ⟨_,w', some (g,cap),hvt0.trans r1,?_,?_,r3.os,r3.tape,r3.output,r3.size,hkk,?_⟩
    ·simp [CR]
    ·simp only [LR,if_true]
     refine ⟨cur.toList,k2,by simpa using k5,by simpa using k3,k4,hall,?_⟩
     refine (zel (by simpa using k5) (by simpa using k3) hall).2 fun i2 r hri f x hx2=>?_
     obtain ⟨u,j1,j2⟩:=hboth i2 r hri f x hx2
     refine ⟨u,?_,j2⟩
     rw [<- k6,List.getElem?_take] at j1
     split at j1
     ·exact j1
     ·cases j1
    ·rintro b3 c3 e3
     injection e3 with e3
     injection e3 with e3 e4
     subst e3 e4
     refine ⟨(Array.getElem?_eq_some_iff.1 k2).1,?_⟩
     rcases append_fresh hT.hu hi hz hsz hown hp n1 n2 n4 hml (by rw [hby];exact hb) r1 g rfl with hh | hh
     ·rw [hblk] at hh
      cases hB:B n with
      | none=>rw [hB] at hh;cases hh
      | some q=>obtain ⟨b2,cc⟩:=q;rw [hB] at hh;simp at hh;exact .inl ⟨cc,by rw [hh]⟩
     ·exact .inr (by omega)
 obtain ⟨v,w', p,r1,r2,r3,r4,r5,r6,r7,r8,r9⟩:=main
 have hok':Ok e ⟨f.s,fun m=>if m=n' then some (.row el es (rows++rows2)) else if m=n then none else f.l m⟩ H (fun x=>if x=n' then p else B x) a w' :=
  hok.renew hl hnew p r4 r5 r6 r7 r8 r9 r3 (fun _=>rfl) (fun _=>rfl)
 refine wp_of_run (d:=d) rfl ?_ ⟨H,_,hok'.put (x:=some (vO n' (rows.length+rows2.length))) (hb0.1 (d,some (vO n' (rows.length+rows2.length))) (by simp)) (zh3 f d _ _ rfl) (fun m=>?_) (fun y hy=>by injection hy with hy;subst hy;exact r2)⟩
 ·generalize a.eval=ρ at r1 ⊢
  have e1:(Array.map ρ #[.tmp t,.tmp u])=#[ρ (.tmp t),ρ (.tmp u)]:=by simp
  simp only [execOp,resolve,e1,Sem.run_bind,Sem.run_pure,Result.andThen_ok,invoke,builtin,r1]
 ·simp only [F.app,List.lookup]
  by_cases e1:m=n'
  ·simp [e1]
  ·have g1:(m == n')=false:=by simpa using e1
   by_cases e2:m=n
   ·subst e2;simp [g1,e1]
   ·have g2:(m == n)=false:=by simpa using e2
    simp [g1,g2,e1,e2]
end
abbrev zF0:List C:=[.d (.raw (.int .i64 0)),.d (.raw za4),.d (.raw (.bool false)),.d (nsl []),.d (.raw (.bool false)),.d (.raw za4)]
abbrev zR0:List C:=[.d (.raw za4),.d (.raw (.bool false)),.d (nsl []),.d (.raw (.bool false))]
abbrev zT0:List C:=[.d (.raw za4),.d (.raw (.bool false)),.d (nsl [])]
theorem aD {P:Program} {α:Type} (d t u n n':Nat) (X Y:List α) (F:α->List D) {es bs:Nat} {xt el ty:TypeId} {pos af gd} (hT:ElT P xt el es bs) (hes2:∀ r ∈ Y.map F,r.length=es) (hb:(X.length+(Y.map F).length)*bs<=140737488355328:=by first | omega | (simp at *;done) | (simp at *;omega)) :
    zbg P ⟨some d,.call { callee:=.builtin .append,args:=#[.tmp t,.tmp u],argTypes:=#[xt,xt] }, ty,pos,af,gd⟩
      { rs:=[(t,.t (.c (.own n X.length))),(u,.t (.c (.d (.sl es (Y.map F)))))],rl:=[(n,.row el es (X.map F))],ws:=[(d,some (.t (.c (.own n' (X++Y).length))))],wl:=[(n', some (.row el es ((X++Y).map F))),(n,none)],nw:=[n'] } :=
  Op.appOD hT (List.length_map _).symm (by rw [List.length_append,List.length_map]) (List.map_append ..).symm hes2 hb
section
variable {w0:World} {H0:Im} {B0:Bl} {K:List Nat} {N:Nat} {a:Act} {w:World} {sl:List (Nat × V)} {lc:List (Nat × L)}
theorem ofS_mem {t:Nat} {v:V} (h:(F.of sl lc).s t=some v):(t,v) ∈ sl:=zb9 h
theorem ofL_mem {n:Nat} {l:L} (h:(F.of sl lc).l n=some l):(n,l) ∈ lc:=zb9 h
theorem pubS (n es:Nat) (ty:TypeId) (rows:List (List D)) (sl':List (Nat × V)) (lc':List (Nat × L)) (h:St ⟨w0,H0,B0,[],N⟩ (F.of sl lc) a w) (hl:lc.lookup n=some (.row ty es rows))
  (h1:zcj rows.length (sl.flatMap (·.2.owns n))) (h2:zcj rows.length (lc.flatMap (·.2.owns n))) (h3:leS ((F.of sl lc).pub n es rows) sl'=sl'.map fun p=>some p.2:=by kernel_rfl) (h4:leN ((F.of sl lc).pub n es rows) lc'=lc'.map fun p=>some p.2:=by kernel_rfl) :
  St ⟨w0,H0,B0,[],N⟩ (F.of sl' lc') a w :=
 (h.pub n es ty rows hl (fun t v hv k hk=>zcj.mem h1 k (List.mem_flatMap.2 ⟨(t,v),ofS_mem hv,hk⟩)) (fun m l hm k hk=>zcj.mem h2 k (List.mem_flatMap.2 ⟨(m,l),ofL_mem hm,hk⟩))).weaken (zg5 h3 h4)
theorem zd9 (n m:Nat) (sl':List (Nat × V)) (lc':List (Nat × L)) (h:St ⟨w0,H0,B0,K,N⟩ (F.of sl lc) a w) (hn:newB K sl lc m=true:=by kernel_rfl)
  (h3:leS ((F.of sl lc).ren n m) sl'=sl'.map fun p=>some p.2:=by kernel_rfl) (h4:leN ((F.of sl lc).ren n m) lc'=lc'.map fun p=>some p.2:=by kernel_rfl):St ⟨w0,H0,B0,K,N⟩ (F.of sl' lc') a w :=
 (h.ren n m (zfl hn)).weaken (zg5 h3 h4)
theorem ze5 (t j n es:Nat) (ty:TypeId) (v:V) (sl':List (Nat × V)) (lc':List (Nat × L)) (h:St ⟨w0,H0,B0,K,N⟩ (F.of sl lc) a w) (hn:newB K sl lc n=true) (hv:sl.lookup t=some v) (hg:v.getC j=some (.d (.raw za4)))
  (h3:leS (((F.of sl lc).setL n (.row ty es [])).setS t (v.setC j (.own n 0))) sl'=sl'.map fun p=>some p.2:=by kernel_rfl) (h4:leN (((F.of sl lc).setL n (.row ty es [])).setS t (v.setC j (.own n 0))) lc'=lc'.map fun p=>some p.2:=by kernel_rfl):St ⟨w0,H0,B0,K,N⟩ (F.of sl' lc') a w :=
 (h.nilOS t j n es ty hv hg (zfl hn)).weaken (zg5 h3 h4)
theorem nilOLs (m j n es:Nat) (ty:TypeId) (cs:List C) (sl':List (Nat × V)) (lc':List (Nat × L)) (h:St ⟨w0,H0,B0,K,N⟩ (F.of sl lc) a w) (hn:newB K sl lc n=true) (hv:lc.lookup m=some (.box cs)) (hg:cs[j]?=some (.d (.raw za4)))
  (h3:leS (((F.of sl lc).setL n (.row ty es [])).setL m (.box (cs.set j (.own n 0)))) sl'=sl'.map fun p=>some p.2:=by kernel_rfl) (h4:leN (((F.of sl lc).setL n (.row ty es [])).setL m (.box (cs.set j (.own n 0)))) lc'=lc'.map fun p=>some p.2:=by kernel_rfl):St ⟨w0,H0,B0,K,N⟩ (F.of sl' lc') a w :=
 (h.nilOL m j n es ty hv hg (zfl hn)).weaken (zg5 h3 h4)
theorem nilDSs (t j es:Nat) (v:V) (sl':List (Nat × V)) (lc':List (Nat × L)) (h:St ⟨w0,H0,B0,K,N⟩ (F.of sl lc) a w) (hv:sl.lookup t=some v) (hg:v.getC j=some (.d (.raw za4)))
  (h3:leS ((F.of sl lc).setS t (v.setC j (.d (.sl es [])))) sl'=sl'.map fun p=>some p.2:=by kernel_rfl) (h4:leN ((F.of sl lc).setS t (v.setC j (.d (.sl es [])))) lc'=lc'.map fun p=>some p.2:=by kernel_rfl):St ⟨w0,H0,B0,K,N⟩ (F.of sl' lc') a w :=
 (h.nilDS t j es (ao:=none) hv hg (fun _=>rfl) (Nat.zero_le _)).weaken (zg5 h3 h4)
theorem zbj (m j es:Nat) (cs:List C) (sl':List (Nat × V)) (lc':List (Nat × L)) (h:St ⟨w0,H0,B0,K,N⟩ (F.of sl lc) a w) (hv:lc.lookup m=some (.box cs)) (hg:cs[j]?=some (.d (.raw za4)))
  (h3:leS ((F.of sl lc).setL m (.box (cs.set j (.d (.sl es []))))) sl'=sl'.map fun p=>some p.2:=by kernel_rfl) (h4:leN ((F.of sl lc).setL m (.box (cs.set j (.d (.sl es []))))) lc'=lc'.map fun p=>some p.2:=by kernel_rfl):St ⟨w0,H0,B0,K,N⟩ (F.of sl' lc') a w :=
 (h.nilDL m j es (ao:=none) hv hg (fun _=>rfl) (Nat.zero_le _)).weaken (zg5 h3 h4)
theorem cutS (n k es:Nat) (ty:TypeId) (rows:List (List D)) (sl':List (Nat × V)) (lc':List (Nat × L)) (h:St ⟨w0,H0,B0,K,N⟩ (F.of sl lc) a w) (hv:lc.lookup n=some (.row ty es rows))
  (h3:leS ((F.of sl lc).setL n (.row ty es (rows.take k))) sl'=sl'.map fun p=>some p.2) (h4:leN ((F.of sl lc).setL n (.row ty es (rows.take k))) lc'=lc'.map fun p=>some p.2):St ⟨w0,H0,B0,K,N⟩ (F.of sl' lc') a w :=
 (h.cutR n k es ty hv).weaken (zg5 h3 h4)
end
section
variable {P:Program}
def A.c:A->C
  | .d x => .d x
  | .ptr n o => .ptr n o
theorem AR.c {H:Im} {B:Bl} {x:A} {v:Value} (h:AR H B x v):CR H B x.c v:=by cases x <;> exact h
def capV (cs:List A):List V:=cs.map fun x => .t (.c x.c)
theorem Op.callV {k:FuncId} {cap:List A} {ps qs:List (Nat × L)} {args:List V} {res:V} (hc:Fn P k ps (args++capV cap) res qs) (hk:za6 P k) {d t:Nat} {xs:List Operand} {rs:List (Nat × V)} {tys:Array TypeId} {ty pos af gd} (h:OVs xs args rs) :
  zbg P ⟨some d,.call { callee:=.value (.tmp t),args:=⟨xs⟩,argTypes:=tys }, ty,pos,af,gd⟩ (callI ((t,.t (.c (.fn (.func k) [] cap))) :: rs) ps qs d res):=by
 rintro e f a w Q ⟨H,B,hok⟩ hr hnw hb
 obtain ⟨vs1,vs2,hfv,hf1,hf2⟩:CR H B (.fn (.func k) [] cap) (a.eval (.tmp t)):=hok.slot t _ (hr.1 (t,.t (.c (.fn (.func k) [] cap))) (by simp [callI]))
 obtain rfl:vs1=[]:=by cases vs1 with
  | nil=>rfl
  | cons _ _=>exact hf1.elim
 have hex:(execOp a.eval ⟨some d,.call { callee:=.value (.tmp t),args:=⟨xs⟩,argTypes:=tys }, ty,pos,af,gd⟩).run P w = .ok (.enter k ⟨xs.map a.eval++vs2⟩) w:=by
  have h1:a.eval (.tmp t) = .func (.func k) #[] ⟨vs2⟩:=hfv
  have h2:(⟨xs⟩:Array Operand).map a.eval=⟨xs.map a.eval⟩:=by simp
  simp only [execOp,resolve,h1,h2,Deferred.ofValue,Sem.run_bind,Sem.run_pure,Result.andThen_ok,invoke]
  rw [zhg hk]
  simp
 have hargs:=h.eval hok fun p hp=>hr.1 p (by simp [callI,hp])
 have hcap:zba (VR H B) (capV cap) vs2:=zba.mapL _ hf2 fun a _ b hab=>AR.c hab
 have hps:∀ p ∈ ps,f.l p.1=some p.2:=hr.2
 have pre:Pre ps (args++capV cap) w H B (xs.map a.eval++vs2):=⟨hok.sat,fun p hp=>hok.loc _ _ (hps p hp),fun p hp b c hb2=>by
   obtain ⟨h1,h2,_⟩:=hok.priv _ _ b c (hps p hp) hb2
   exact ⟨h1,h2⟩,fun p hp q hq b c c' h1 h2=>hok.inj _ _ _ _ b c c' (hps p hp) (hps q hq) h1 h2,zba.append hargs hcap,hok.tab.mono hok.le⟩
 unfold Oper.wp
 rw [hex,Oper.upon_enter]
 refine (hc w H B _ pre).mono ?_
 rintro en w' ⟨v,H', B', rfl,post⟩
 have hnew:∀ n,n ∈ qs.map (·.1)->n ∉ ps.map (·.1)->New e.K f n:=by
  intro n h1 h2
  refine hnw n ?_
  simp only [callI,List.mem_filter]
  refine ⟨h1,?_⟩
  cases hx:zgl (ps.map (·.1)) n with
  | false=>rfl
  | true=>exact absurd (zdn.1 hx) h2
 have h1:Ok e ⟨f.s,(f.app (callI ((t,.t (.c (.fn (.func k) [] cap))) :: rs) ps qs d res)).l⟩ H' B' a w':=hok.called (g:=⟨f.s,(f.app (callI ((t,.t (.c (.fn (.func k) [] cap))) :: rs) ps qs d res)).l⟩) hps hnew post (fun _=>rfl) (fun n=>by
  simp only [F.app,callI,lookup_wl]
  cases qs.lookup n with
  | some l=>rfl
  | none=>by_cases hm:n ∈ ps.map (·.1) <;> simp [hm])
 exact ⟨H', B', h1.put (x:=some res) (hb.1 (d,some res) (by simp [callI])) (zh3 f d (some res) _ rfl) (fun n=>rfl) (fun y hy=>by injection hy with hy;subst hy;exact post.res)⟩
/-! slices built -/
theorem fill_ok' {H:Im} {B:Bl} (place:Nat->Option (Nat × Nat)) (pl:List (Nat × Nat)) (hpl:∀ i q,pl[i]?=some q->place i=some q):∀ (parts:List (Nat × T)) (us:List (Nat × Value)) (cs:List C) (cells:List Value) (out:List C),zba (fun p u=>p.1=u.1/\TR H B p.2 u.2) parts us->zba (CR H B) cs cells->zi4 pl cs parts=some out ->
  ∃ l,Instr.fill place ⟨cells⟩ us=some ⟨l⟩/\zba (CR H B) out l
 | [],[],cs,cells,out,_,hc,hf=>by simp only [zi4,Option.some.injEq] at hf;subst hf;exact ⟨cells,rfl,hc⟩
 | (i,x) :: r,(j,u) :: us,cs,cells,out,h,hc,hf=>by
  obtain ⟨⟨h1,h2⟩,h3⟩:=h
  simp only at h1 h2
  subst h1
  simp only [zi4] at hf
  cases hp:pl[i]? with
  | none=>rw [hp] at hf;cases hf
  | some q =>
   obtain ⟨off,size⟩:=q
   rw [hp] at hf
   simp only at hf
   split at hf
   ·rename_i hcond
    obtain ⟨l,g1,g2⟩:=TR.cells h2
    obtain ⟨l', k1,k2⟩:=fill_ok' place pl hpl r us _ _ out h3 (hc.put off g2) hf
    refine ⟨l', ?_,k2⟩
    have e1:place i=some (off,size):=hpl i _ hp
    have hl:l.length=size:=by rw [<- g2.length];exact hcond.1
    have hcl:=hc.length
    simp only [Instr.fill,e1,g1]
    rw [if_neg (by simp [hl];omega)]
    have:=fold_put off l 0 cells
    rw [Nat.add_zero] at this
    rw [<- k1,<- this]
    congr 1
    rw [<- Array.foldl_toList,Array.toList_zipIdx]
   ·cases hf
 | [],_ :: _,_,_,_,h,_,_=>h.elim
 | _ :: _,[],_,_,_,h,_,_=>h.elim
def plS:Nat->Nat->Nat->List (Nat × Nat)
  | 0,_,_=>[]
  | len+1,i,es=>(i*es,es) :: plS len (i+1) es
theorem plS_get:∀ (len i es j:Nat) q,(plS len i es)[j]?=some q->q=((i+j)*es,es)/\j<len
 | 0,_,_,_,_,h=>by simp [plS] at h
 | len+1,i,es,0,q,h=>by simp [plS] at h;subst h;exact ⟨rfl,by omega⟩
 | len+1,i,es,j+1,q,h=>by
  obtain ⟨h1,h2⟩:=plS_get len (i+1) es j q (by simpa [plS] using h)
  exact ⟨by rw [h1,show i+1+j=i+(j+1) by omega],by omega⟩
/-- an element type whose zero is made of single cells -/
structure ElZ (P:Program) (t el:TypeId) (es:Nat):Prop where
  hu:P.underlying t=some (.slice el)
  ex:∃ i z,P.info? el=some i/\i.zero=some z/\i.size=es/\z.cells.size=es/\z.cells.toList.all flat=true
  pos:0<es
theorem ElZ.mk' {P:Program} {t el:TypeId} {es:Nat} (hu:P.underlying t=some (.slice el)) (i:TypeInfo) (z:Value) (h1:P.info? el=some i) (h2:i.zero=some z) (h3:i.size=es) (h5:z.cells.size=es) (h6:z.cells.toList.all flat=true) (h7:0<es):ElZ P t el es:=⟨hu,⟨i,z,h1,h2,h3,h5,h6⟩,h7⟩
theorem buildS_run {t el:TypeId} {es len:Nat} (hT:ElZ P t el es) (hlen:0<len) (hsm:len*es<=16777216) {parts:List (Nat × T)} {us:List (Nat × Value)} {H:Im} {B:Bl} {out:List C} (hp:zba (fun p u=>p.1=u.1/\TR H B p.2 u.2) parts us)
    (hf:zi4 (plS len 0 es) (List.replicate (len*es) .any) parts=some out) (w:World) :
    ∃ l:List Value,(Instr.buildSlice t len ⟨us⟩).run P w = .ok (.slice (some ⟨w.heap.size,0,none⟩) len len) (w.alloc (.cells ⟨l⟩ el))/\zba (CR H B) out l:=by
  obtain ⟨i,z,hi,hz,hsz,hzs,hfl⟩:=hT.ex
  have hcells:zba (CR H B) (List.replicate (len*es) .any) ((Array.range (len*es)).map (z.cells[· % z.cells.size]!)).toList:=by
    refine zba.iff.2 ⟨by simp,fun j x u hx hu=>?_⟩
    have hx':=List.mem_of_getElem? hx
    have:=List.eq_of_mem_replicate hx'
    subst this
    simp only [Array.toList_map,List.getElem?_map] at hu
    cases hr:(Array.range (len*es)).toList[j]? with
    | none=>rw [hr] at hu;cases hu
    | some k =>
      rw [hr] at hu
      injection hu with hu
      subst hu
      have hk:k % z.cells.size<z.cells.size:=Nat.mod_lt _ (by rw [hzs];exact hT.pos)
      show flat (z.cells[k % z.cells.size]!)=true
      rw [getElem!_pos z.cells _ hk]
      have:=List.all_eq_true.1 hfl (z.cells[k % z.cells.size]'hk) (by simp)
      exact this
  have hpl:∀ i q,(plS len 0 es)[i]?=some q->(fun i=>some (i*es,es)) i=some q:=by
    intro j q hq
    obtain ⟨h1,_⟩:=plS_get len 0 es j q hq
    rw [h1,Nat.zero_add]
  obtain ⟨l,h1,h2⟩:=fill_ok' (fun i=>some (i*es,es)) (plS len 0 es) hpl parts us _ _ out hp hcells hf
  refine ⟨l,?_,h2⟩
  have hne:¬ len*i.size=0:=by rw [hsz];have:=Nat.mul_pos hlen hT.pos;omega
  refine run_buildSlice (P:=P) w t el len ⟨us⟩ ⟨l⟩ i z hT.hu hi hz (by rw [hsz];omega) hne ?_
  subst hsz
  exact h1
theorem Ok.newData {e:E} {f:F} {H:Im} {B:Bl} {a:Act} {w:World} (h:Ok e f H B a w) (o:Obj):Ok e f (fun b=>if b=w.heap.size then some o else H b) B a (w.alloc o)/\Le H (fun b=>if b=w.heap.size then some o else H b):=by
 have hold:∀ b,b<w.heap.size->(w.alloc o).heap[b]?=w.heap[b]?:=fun b hb=>Below.heap_alloc w o b hb
 have hlt:∀ b x,H b=some x->b<w.heap.size:=fun b x hb=>(Array.getElem?_eq_some_iff.1 (h.sat b x hb)).1
 have hle:Le H (fun b=>if b=w.heap.size then some o else H b):=by
  intro b x hb
  have:=hlt b x hb
  have hne:b≠w.heap.size:=by omega
  simp [hne,hb]
 refine ⟨⟨h.df,h.n,⟨h.ext.os,h.ext.tape,h.ext.output,?_,?_⟩,?_,fun t v hv=>VR.mono hle (fun _ _=>rfl) (h.slot t v hv),?_,?_,h.inj,?_,h.le.trans hle,h.keep,h.tab⟩,hle⟩
 ·have:=h.ext.size;simp;omega
 ·intro b hb hm;have:=h.ext.size;rw [hold b (by omega)];exact h.ext.block b hb hm
 ·intro b x hx
  by_cases e1:b=w.heap.size
  ·subst e1
   simp only [if_true] at hx
   rw [<- hx]
   exact heap_alloc_new w o
  ·simp only [if_neg e1] at hx
   rw [hold b (hlt b x hx)];exact h.sat b x hx
 ·intro n l hn
  exact LR.mono hle rfl (fun _ _=>rfl) (fun b c hb=>hold b (h.priv n l b c hn hb).1) (h.loc n l hn)
 ·intro n l b c hn hb
  obtain ⟨h1,h2,h3⟩:=h.priv n l b c hn hb
  exact ⟨by simp;omega,by simp only [if_neg (show b≠w.heap.size by omega)];exact h2,h3⟩
 ·intro b hb
  have:=h.ext.size
  simp only [if_neg (show b≠w.heap.size by omega)]
  exact h.low b hb
theorem rowAt_of {H:Im} {B:Bl} {es:Nat} {rows:List (List D)} {l:List Value} (hes:∀ r ∈ rows,r.length=es) (h:zba (CR H B) (rows.flatten.map C.d) l):RowAt H l es rows:=by
 intro i r hr f x hx
 have hf:f<es:=by rw [<- hes r (List.mem_of_getElem? hr)];exact (List.getElem?_eq_some_iff.1 hx).1
 have e1:(rows.flatten.map C.d)[i*es+f]?=some (.d x):=by
  rw [List.getElem?_map,flat_at hes i f hf,hr];simp [hx]
 have hlt:i*es+f<l.length:=by rw [<- h.length];exact (List.getElem?_eq_some_iff.1 e1).1
 exact ⟨_,List.getElem?_eq_getElem hlt,(zba.iff.1 h).2 _ _ _ e1 (List.getElem?_eq_getElem hlt)⟩
theorem Op.buildD {d len es:Nat} {rows:List (List D)} {xs:List (Nat × Operand)} {vs:List (Nat × T)} {rs:List (Nat × V)} {t el ty:TypeId} {pos af gd} (hT:ElZ P t el es) (h:OPs xs vs rs) (hf:zi4 (plS len 0 es) (List.replicate (len*es) .any) vs=some (rows.flatten.map C.d))
  (hlen:rows.length=len) (hes:∀ r ∈ rows,r.length=es) (hl0:0<len) (hsm:len*es<=16777216) :
  zbg P ⟨some d,.buildSlice t len ⟨xs⟩,ty,pos,af,gd⟩ { rs:=rs,ws:=[(d,some (.t (.c (.d (.sl es rows)))))] }:=by
 rintro e f a w Q ⟨H,B,hok⟩ hr hnw hb0
 have hp:=h.eval hok hr.1
 obtain ⟨l,h1,h2⟩:=buildS_run (P:=P) hT hl0 hsm hp hf w
 obtain ⟨hok', hle⟩:=hok.newData (.cells ⟨l⟩ el)
 have hfl:rows.flatten.length=len*es:=by rw [zio hes,hlen]
 have hrow:DR (fun b=>if b=w.heap.size then some (.cells ⟨l⟩ el (0,0)) else H b) (.sl es rows) (.slice (some ⟨w.heap.size,0,none⟩) len len):=by
  have:=row_data (H:=fun b=>if b=w.heap.size then some (.cells ⟨l⟩ el (0,0)) else H b) (es:=es) (b:=w.heap.size) (c:=len) (arr:=l) (ty:=el) (rows:=rows) (if_pos rfl) (by omega) (by
   have:len*1<=len*es:=Nat.mul_le_mul_left _ hT.pos
   simp only [maxLen];omega) hes (fun i r hr f x hx=>by
    obtain ⟨u,k1,k2⟩:=rowAt_of hes h2 i r hr f x hx
    exact ⟨u,k1,k2.mono hle⟩)
  rwa [hlen] at this
 refine wp_of_run (d:=d) rfl ?_ ⟨_,B,hok'.put (x:=some (.t (.c (.d (.sl es rows))))) (hb0.1 (d,some (.t (.c (.d (.sl es rows))))) (by simp)) (zh3 f d _ _ rfl) (app0_l f _ rfl) (fun y hy=>by injection hy with hy;subst hy;exact hrow)⟩
 have e1:((⟨xs⟩:Array (Nat × Operand)).map fun x=>(x.1,a.eval x.2))=⟨xs.map fun p=>(p.1,a.eval p.2)⟩:=by simp
 simp only [execOp,e1,Sem.run_bind,h1,Result.andThen_ok,Sem.run_pure]
theorem Op.buildE {d n es:Nat} {t el ty:TypeId} {pos af gd} (hT:ElZ P t el es) :
  zbg P ⟨some d,.buildSlice t 0 #[],ty,pos,af,gd⟩ { ws:=[(d,some (.t (.c (.own n 0))))],wl:=[(n,some (.row el es []))],nw:=[n] }:=by
 refine zbg.news d n _ _ rfl rfl rfl (by simp) fun e f H B a w hok hr hn=>?_
 obtain ⟨i,z,hi,hz,hsz,hzs,hfl⟩:=hT.ex
 refine ⟨.slice (some ⟨w.heap.size,0,none⟩) 0 0,0,.cells #[] el,?_,?_,?_⟩
 ·have:(Instr.buildSlice t 0 #[]).run P w = .ok (.slice (some ⟨w.heap.size,0,none⟩) 0 0) (w.alloc (.cells #[] el)):=by
   simp [Instr.buildSlice,run_underlying hT.hu,sizeOf,typeInfo,hi,Instr.fill,newRow]
   exact congrArg (fun x=>w.alloc (.cells x el)) (Array.ext' (by simp))
  simp [execOp,this]
 ·simp only [LR,if_true]
  exact ⟨[],heap_alloc_new w _,by simp,Nat.le_refl _,Nat.zero_le _,by simp,by simp [zba]⟩
 ·simp [VR,TR,CR]
theorem Op.buildED {d es:Nat} {t el ty:TypeId} {pos af gd} (hT:ElZ P t el es) :
  zbg P ⟨some d,.buildSlice t 0 #[],ty,pos,af,gd⟩ { ws:=[(d,some (.t (.c (.d (.sl es [])))))] }:=by
 rintro e f a w Q ⟨H,B,hok⟩ hr hnw hb0
 obtain ⟨i,z,hi,hz,hsz,hzs,hfl⟩:=hT.ex
 have hrun:(Instr.buildSlice t 0 #[]).run P w = .ok (.slice (some ⟨w.heap.size,0,none⟩) 0 0) (w.alloc (.cells #[] el)):=by
  simp [Instr.buildSlice,run_underlying hT.hu,sizeOf,typeInfo,hi,Instr.fill,newRow]
  exact congrArg (fun x=>w.alloc (.cells x el)) (Array.ext' (by simp))
 obtain ⟨hok', _⟩:=hok.newData (.cells #[] el)
 have hrow:DR (fun b=>if b=w.heap.size then some (.cells #[] el (0,0)) else H b) (.sl es []) (.slice (some ⟨w.heap.size,0,none⟩) 0 0):=DR.nil es _ 0 (fun h=>by cases h) (Nat.zero_le _)
 refine wp_of_run (d:=d) rfl ?_ ⟨_,B,hok'.put (x:=some (.t (.c (.d (.sl es []))))) (hb0.1 (d,some (.t (.c (.d (.sl es []))))) (by simp)) (zh3 f d _ _ rfl) (app0_l f _ rfl) (fun y hy=>by injection hy with hy;subst hy;exact hrow)⟩
 simp [execOp,hrun]
end
theorem bD {P:Program} (d:Nat) (rows:List (List D)) {es:Nat} {xs:List (Nat × Operand)} {vs:List (Nat × T)} (rs:List (Nat × V)) {t el ty:TypeId} {pos af gd} (hT:ElZ P t el es) (h:OPs xs vs rs) (hf:zi4 (plS 1 0 es) (List.replicate (1*es) .any) vs=some (rows.flatten.map C.d)) (hes:∀ r ∈ rows,r.length=es) (hlen:rows.length=1:=by exact rfl) (hsm:1*es<=16777216:=by decide) :
    zbg P ⟨some d,.buildSlice t 1 ⟨xs⟩,ty,pos,af,gd⟩ { rs:=rs,ws:=[(d,some (.t (.c (.d (.sl es rows)))))] }:=Op.buildD hT h hf hlen hes (by decide) hsm
end S
def sgn (z:Int):Int:=if z<0 then -1 else if 0<z then 1 else 0
def zdl (x y:Int):Int:=if x<y then -1 else if y<x then 1 else 0
theorem zgc {z:Int} (h:z<0):sgn z=-1:=by unfold sgn;rw [if_pos h]
theorem sgn_pos {z:Int} (h:0<z):sgn z=1:=by unfold sgn;rw [if_neg (by omega),if_pos h]
theorem zgr {z:Int} (h:z=0):sgn z=0:=by subst h;rfl
theorem sgn_range (z:Int):-1<=sgn z/\sgn z<=1:=by unfold sgn;split;omega;split <;> omega
theorem zgd {z:Int}:sgn z<0 ↔ z<0:=by unfold sgn;split;omega;split <;> omega
theorem cmpZ_sgn (x y:Int):sgn (x - y)=zdl x y:=by unfold sgn zdl;split <;> split <;> (try split) <;> (try split) <;> omega
theorem zei {x y:Int} (h:y<x):zdl x y=1:=by unfold zdl;rw [if_neg (by omega),if_pos h]
namespace S
def fam0tb:Tb:=[(4,⟨1,false,[],[.d (.raw (.bool false))],3⟩),(26,⟨1,false,[],[.d (nsl [])],1⟩),(28,⟨2,true,[(0,1,false),(1,1,false)],[.d (.raw (.bool false)),.d (nsl [])],0⟩),(2,⟨1,false,[],[.d (.raw (.int .i64 0))],13⟩),(190,⟨1,false,[],[.d (.raw (.int .u64 0))],17⟩),(142,⟨1,false,[],[.d (.raw (.int .u32 0))],16⟩),(24,⟨1,false,[],[.d (.raw za4)],1⟩),(30,⟨3,true,[(0,1,false),(1,2,true)],[.d (.raw za4),.d (.raw (.bool false)),.d (nsl [])],0⟩),(3,⟨1,false,[],[.d (.raw (.int .i64 0))],13⟩),(132,⟨3,true,[(0,1,false),(1,2,true)],[.d (.raw (.int .i64 0)),.d (.raw (.bool false)),.d (nsl [])],0⟩),(44,⟨1,false,[],[.d (.raw za4)],1⟩),(207,⟨1,false,[],[.d (.raw (.int .u64 0))],17⟩),(45,⟨1,false,[],[.d (.raw za4)],1⟩),(32,⟨4,true,[(0,3,true),(3,1,false)],[.d (.raw za4),.d (.raw (.bool false)),.d (nsl []),.d (.raw (.bool false))],0⟩),(33,⟨1,false,[],[.d (.raw za4)],1⟩),(35,⟨6,true,[(0,1,false),(1,4,true),(5,1,false)],[.d (.raw (.int .i64 0)),.d (.raw za4),.d (.raw (.bool false)),.d (nsl []),.d (.raw (.bool false)),.d (.raw za4)],0⟩),(202,⟨1,false,[],[.d (.raw za4)],1⟩),(89,⟨5,true,[(0,1,false),(1,2,true),(3,2,true)],[.d (.raw (.bool false)),.d (.raw (.bool false)),.d (nsl []),.d (.raw (.bool false)),.d (nsl [])],0⟩),(22,⟨1,false,[],[.d (.raw za4)],1⟩),(23,⟨1,false,[],[.d (.raw za4)],1⟩),(36,⟨1,false,[],[.d (.raw za4)],1⟩),(37,⟨1,false,[],[.d (.raw za4)],1⟩),(39,⟨10,true,[(0,1,false),(1,1,false),(2,6,true),(8,1,false),(9,1,false)],[.d (.raw za4),.d (.raw za4),.d (.raw (.int .i64 0)),.d (.raw za4),.d (.raw (.bool false)),.d (nsl []),.d (.raw (.bool false)),.d (.raw za4),.d (.raw za4),.d (.raw za4)],0⟩),(47,⟨2,true,[(0,1,false),(1,1,false)],[.d (.raw za4),.d (.raw za4)],0⟩),(9,⟨1,false,[],[.d (.raw (.string ByteArray.empty))],2⟩),(91,⟨1,false,[],[.d (.raw za4)],1⟩),(93,⟨3,true,[(0,1,false),(1,1,false),(2,1,false)],[.d (.raw (.string ByteArray.empty)),.d (.raw za4),.d (.raw za4)],0⟩),(94,⟨1,false,[],[.d (.raw za4)],1⟩),(96,⟨10,true,[(0,1,false),(1,1,false),(2,1,false),(3,6,true),(9,1,false)],[.d (.raw (.int .i64 0)),.d (.raw (.int .i64 0)),.d (.raw (.int .i64 0)),.d (.raw (.int .i64 0)),.d (.raw za4),.d (.raw (.bool false)),.d (nsl []),.d (.raw (.bool false)),.d (.raw za4),.d (.raw za4)],0⟩),(105,⟨5,true,[(0,1,false),(1,1,false),(2,3,true)],[.d (.raw (.int .i64 0)),.d (.raw (.bool false)),.d (.raw za4),.d (.raw (.bool false)),.d (nsl [])],0⟩),(42,⟨1,false,[],[.d (.raw za4)],1⟩),(67,⟨3,true,[(0,1,false),(1,1,false),(2,1,false)],[.d (.raw za4),.d (.raw za4),.d (.raw za4)],0⟩),(110,⟨9,true,[(0,1,false),(1,1,false),(2,1,false),(3,6,true)],[.d (.raw (.bool false)),.d (.raw (.int .i64 0)),.d (.raw (.int .i64 0)),.d (.raw (.int .i64 0)),.d (.raw za4),.d (.raw (.bool false)),.d (nsl []),.d (.raw (.bool false)),.d (.raw za4)],0⟩),(57,⟨1,false,[],[.d (.raw za4)],1⟩),(181,⟨1,false,[],[.d (.raw za4)],1⟩),(183,⟨2,true,[(0,1,false),(1,1,false)],[.d (.raw za4),.d (.raw za4)],0⟩),(59,⟨1,false,[],[.d (.raw za4)],1⟩),(98,⟨1,false,[],[.d (.raw za4)],1⟩),(56,⟨3,true,[(0,1,false),(1,2,true)],[.d (.raw (.int .i64 0)),.d (.raw za4),.d (.raw za4)],0⟩),(52,⟨1,false,[],[.d (.raw za4)],1⟩),(121,⟨2,true,[(0,1,false),(1,1,false)],[.d (.raw (.int .i64 0)),.d (.raw (.int .i64 0))],0⟩),(174,⟨1,false,[],[.d (.raw za4)],1⟩),(176,⟨4,true,[(0,2,true),(2,1,false),(3,1,false)],[.d (.raw (.int .i64 0)),.d (.raw (.int .i64 0)),.d (.raw za4),.d (.raw (.int .i64 0))],0⟩),(58,⟨1,false,[],[.d (.raw za4)],1⟩),(61,⟨3,true,[(0,1,false),(1,1,false),(2,1,false)],[.d (.raw za4),.d (.raw za4),.d (.raw za4)],0⟩),(108,⟨3,true,[(0,1,false),(1,1,false),(2,1,false)],[.d (.raw za4),.d (.raw za4),.d (.raw za4)],0⟩),(69,⟨5,true,[(0,1,false),(1,3,true),(4,1,false)],[.d (.raw (.int .i64 0)),.d (.raw za4),.d (.raw za4),.d (.raw za4),.d (.raw (.int .i64 0))],0⟩)]
theorem zd2:zi6 Tryz.prog fam0tb:=⟨zbb.bl Tryz.underlying4 (by kernel_rfl) ⟨(.bool false:Value),[.bool false],by kernel_rfl,rfl,(fun _ _=>⟨DR.raw _ rfl,trivial⟩)⟩,
 zbb.slc Tryz.underlying26 (by kernel_rfl) ⟨(.slice none 0 0:Value),[.slice none 0 0],by kernel_rfl,rfl,(fun _ _=>⟨DR.nil _ _ _ (fun _=>rfl) (Nat.zero_le _),trivial⟩)⟩,
 zbb.st Tryz.underlying28 (by kernel_rfl) ⟨⟨by decide,Fd.mk' _ _ Tryz.underlying28 rfl rfl (Sz.mk' (by kernel_rfl) Tryz.underlying4 _ rfl)⟩,⟨by decide,Fd.mk' _ _ Tryz.underlying28 rfl rfl (Sz.mk' (by kernel_rfl) Tryz.underlying26 _ rfl)⟩,trivial⟩ ⟨(Value.agg #[.bool false,.slice none 0 0]),[.bool false,.slice none 0 0],by kernel_rfl,rfl,(fun _ _=>⟨DR.raw _ rfl,DR.nil _ _ _ (fun _=>rfl) (Nat.zero_le _),trivial⟩)⟩ ⟨_,Tryz.underlying28,⟨⟨rfl,by kernel_rfl⟩,⟨rfl,by kernel_rfl⟩,trivial⟩⟩,
 zbb.int Tryz.underlying2 rfl (by kernel_rfl) ⟨(.int .i64 0:Value),[.int .i64 0],by kernel_rfl,rfl,(fun _ _=>⟨DR.raw _ rfl,trivial⟩)⟩,
 zbb.int Tryz.underlying190 rfl (by kernel_rfl) ⟨(.int .u64 0:Value),[.int .u64 0],by kernel_rfl,rfl,(fun _ _=>⟨DR.raw _ rfl,trivial⟩)⟩,
 zbb.int Tryz.underlying142 rfl (by kernel_rfl) ⟨(.int .u32 0:Value),[.int .u32 0],by kernel_rfl,rfl,(fun _ _=>⟨DR.raw _ rfl,trivial⟩)⟩,
 zbb.slc Tryz.underlying24 (by kernel_rfl) ⟨(.slice none 0 0:Value),[.slice none 0 0],by kernel_rfl,rfl,(fun _ _=>⟨DR.raw _ rfl,trivial⟩)⟩,
 zbb.st Tryz.underlying30 (by kernel_rfl) ⟨⟨by decide,Fd.mk' _ _ Tryz.underlying30 rfl rfl (Sz.mk' (by kernel_rfl) Tryz.underlying24 _ rfl)⟩,⟨by decide,Fd.mk' _ _ Tryz.underlying30 rfl rfl (Sz.mk' (by kernel_rfl) Tryz.underlying28 _ rfl)⟩,trivial⟩ ⟨(Value.agg #[.slice none 0 0,.bool false,.slice none 0 0]),[.slice none 0 0,.bool false,.slice none 0 0],by kernel_rfl,rfl,(fun _ _=>⟨DR.raw _ rfl,DR.raw _ rfl,DR.nil _ _ _ (fun _=>rfl) (Nat.zero_le _),trivial⟩)⟩ ⟨_,Tryz.underlying30,⟨⟨rfl,by kernel_rfl⟩,⟨rfl,by kernel_rfl⟩,trivial⟩⟩,
 zbb.int Tryz.underlying3 rfl (by kernel_rfl) ⟨(.int .i64 0:Value),[.int .i64 0],by kernel_rfl,rfl,(fun _ _=>⟨DR.raw _ rfl,trivial⟩)⟩,
 zbb.st Tryz.underlying132 (by kernel_rfl) ⟨⟨by decide,Fd.mk' _ _ Tryz.underlying132 rfl rfl (Sz.mk' (by kernel_rfl) Tryz.underlying3 _ rfl)⟩,⟨by decide,Fd.mk' _ _ Tryz.underlying132 rfl rfl (Sz.mk' (by kernel_rfl) Tryz.underlying28 _ rfl)⟩,trivial⟩ ⟨(Value.agg #[.int .i64 0,.bool false,.slice none 0 0]),[.int .i64 0,.bool false,.slice none 0 0],by kernel_rfl,rfl,(fun _ _=>⟨DR.raw _ rfl,DR.raw _ rfl,DR.nil _ _ _ (fun _=>rfl) (Nat.zero_le _),trivial⟩)⟩ ⟨_,Tryz.underlying132,⟨⟨rfl,by kernel_rfl⟩,⟨rfl,by kernel_rfl⟩,trivial⟩⟩,
 zbb.slc Tryz.underlying44 (by kernel_rfl) ⟨(.slice none 0 0:Value),[.slice none 0 0],by kernel_rfl,rfl,(fun _ _=>⟨DR.raw _ rfl,trivial⟩)⟩,
 zbb.int Tryz.underlying207 rfl (by kernel_rfl) ⟨(.int .u64 0:Value),[.int .u64 0],by kernel_rfl,rfl,(fun _ _=>⟨DR.raw _ rfl,trivial⟩)⟩,
 zbb.slc Tryz.underlying45 (by kernel_rfl) ⟨(.slice none 0 0:Value),[.slice none 0 0],by kernel_rfl,rfl,(fun _ _=>⟨DR.raw _ rfl,trivial⟩)⟩,
 zbb.st Tryz.underlying32 (by kernel_rfl) ⟨⟨by decide,Fd.mk' _ _ Tryz.underlying32 rfl rfl (Sz.mk' (by kernel_rfl) Tryz.underlying30 _ rfl)⟩,⟨by decide,Fd.mk' _ _ Tryz.underlying32 rfl rfl (Sz.mk' (by kernel_rfl) Tryz.underlying4 _ rfl)⟩,trivial⟩ ⟨(Value.agg #[.slice none 0 0,.bool false,.slice none 0 0,.bool false]),[.slice none 0 0,.bool false,.slice none 0 0,.bool false],by kernel_rfl,rfl,(fun _ _=>⟨DR.raw _ rfl,DR.raw _ rfl,DR.nil _ _ _ (fun _=>rfl) (Nat.zero_le _),DR.raw _ rfl,trivial⟩)⟩ ⟨_,Tryz.underlying32,⟨⟨rfl,by kernel_rfl⟩,⟨rfl,by kernel_rfl⟩,trivial⟩⟩,
 zbb.slc Tryz.underlying33 (by kernel_rfl) ⟨(.slice none 0 0:Value),[.slice none 0 0],by kernel_rfl,rfl,(fun _ _=>⟨DR.raw _ rfl,trivial⟩)⟩,
 zbb.st Tryz.underlying35 (by kernel_rfl) ⟨⟨by decide,Fd.mk' _ _ Tryz.underlying35 rfl rfl (Sz.mk' (by kernel_rfl) Tryz.underlying3 _ rfl)⟩,⟨by decide,Fd.mk' _ _ Tryz.underlying35 rfl rfl (Sz.mk' (by kernel_rfl) Tryz.underlying32 _ rfl)⟩,⟨by decide,Fd.mk' _ _ Tryz.underlying35 rfl rfl (Sz.mk' (by kernel_rfl) Tryz.underlying33 _ rfl)⟩,trivial⟩ ⟨(Value.agg #[.int .i64 0,.slice none 0 0,.bool false,.slice none 0 0,.bool false,.slice none 0 0]),[.int .i64 0,.slice none 0 0,.bool false,.slice none 0 0,.bool false,.slice none 0 0],by kernel_rfl,rfl,(fun _ _=>⟨DR.raw _ rfl,DR.raw _ rfl,DR.raw _ rfl,DR.nil _ _ _ (fun _=>rfl) (Nat.zero_le _),DR.raw _ rfl,DR.raw _ rfl,trivial⟩)⟩ ⟨_,Tryz.underlying35,⟨⟨rfl,by kernel_rfl⟩,⟨rfl,by kernel_rfl⟩,⟨rfl,by kernel_rfl⟩,trivial⟩⟩,
 zbb.slc Tryz.underlying202 (by kernel_rfl) ⟨(.slice none 0 0:Value),[.slice none 0 0],by kernel_rfl,rfl,(fun _ _=>⟨DR.raw _ rfl,trivial⟩)⟩,
 zbb.st Tryz.underlying89 (by kernel_rfl) ⟨⟨by decide,Fd.mk' _ _ Tryz.underlying89 rfl rfl (Sz.mk' (by kernel_rfl) Tryz.underlying4 _ rfl)⟩,⟨by decide,Fd.mk' _ _ Tryz.underlying89 rfl rfl (Sz.mk' (by kernel_rfl) Tryz.underlying28 _ rfl)⟩,⟨by decide,Fd.mk' _ _ Tryz.underlying89 rfl rfl (Sz.mk' (by kernel_rfl) Tryz.underlying28 _ rfl)⟩,trivial⟩ ⟨(Value.agg #[.bool false,.bool false,.slice none 0 0,.bool false,.slice none 0 0]),[.bool false,.bool false,.slice none 0 0,.bool false,.slice none 0 0],by kernel_rfl,rfl,(fun _ _=>⟨DR.raw _ rfl,DR.raw _ rfl,DR.nil _ _ _ (fun _=>rfl) (Nat.zero_le _),DR.raw _ rfl,DR.nil _ _ _ (fun _=>rfl) (Nat.zero_le _),trivial⟩)⟩ ⟨_,Tryz.underlying89,⟨⟨rfl,by kernel_rfl⟩,⟨rfl,by kernel_rfl⟩,⟨rfl,by kernel_rfl⟩,trivial⟩⟩,
 zbb.slc Tryz.underlying22 (by kernel_rfl) ⟨(.slice none 0 0:Value),[.slice none 0 0],by kernel_rfl,rfl,(fun _ _=>⟨DR.raw _ rfl,trivial⟩)⟩,
 zbb.slc Tryz.underlying23 (by kernel_rfl) ⟨(.slice none 0 0:Value),[.slice none 0 0],by kernel_rfl,rfl,(fun _ _=>⟨DR.raw _ rfl,trivial⟩)⟩,
 zbb.slc Tryz.underlying36 (by kernel_rfl) ⟨(.slice none 0 0:Value),[.slice none 0 0],by kernel_rfl,rfl,(fun _ _=>⟨DR.raw _ rfl,trivial⟩)⟩,
 zbb.slc Tryz.underlying37 (by kernel_rfl) ⟨(.slice none 0 0:Value),[.slice none 0 0],by kernel_rfl,rfl,(fun _ _=>⟨DR.raw _ rfl,trivial⟩)⟩,
 zbb.st Tryz.underlying39 (by kernel_rfl) ⟨⟨by decide,Fd.mk' _ _ Tryz.underlying39 rfl rfl (Sz.mk' (by kernel_rfl) Tryz.underlying22 _ rfl)⟩,⟨by decide,Fd.mk' _ _ Tryz.underlying39 rfl rfl (Sz.mk' (by kernel_rfl) Tryz.underlying23 _ rfl)⟩,⟨by decide,Fd.mk' _ _ Tryz.underlying39 rfl rfl (Sz.mk' (by kernel_rfl) Tryz.underlying35 _ rfl)⟩,⟨by decide,Fd.mk' _ _ Tryz.underlying39 rfl rfl (Sz.mk' (by kernel_rfl) Tryz.underlying36 _ rfl)⟩,⟨by decide,Fd.mk' _ _ Tryz.underlying39 rfl rfl (Sz.mk' (by kernel_rfl) Tryz.underlying37 _ rfl)⟩,trivial⟩ ⟨(Value.agg #[.slice none 0 0,.slice none 0 0,.int .i64 0,.slice none 0 0,.bool false,.slice none 0 0,.bool false,.slice none 0 0,.slice none 0 0,.slice none 0 0]),[.slice none 0 0,.slice none 0 0,.int .i64 0,.slice none 0 0,.bool false,.slice none 0 0,.bool false,.slice none 0 0,.slice none 0 0,.slice none 0 0],by kernel_rfl,rfl,(fun _ _=>⟨DR.raw _ rfl,DR.raw _ rfl,DR.raw _ rfl,DR.raw _ rfl,DR.raw _ rfl,DR.nil _ _ _ (fun _=>rfl) (Nat.zero_le _),DR.raw _ rfl,DR.raw _ rfl,DR.raw _ rfl,DR.raw _ rfl,trivial⟩)⟩ ⟨_,Tryz.underlying39,⟨⟨rfl,by kernel_rfl⟩,⟨rfl,by kernel_rfl⟩,⟨rfl,by kernel_rfl⟩,⟨rfl,by kernel_rfl⟩,⟨rfl,by kernel_rfl⟩,trivial⟩⟩,
 zbb.st Tryz.underlying47 (by kernel_rfl) ⟨⟨by decide,Fd.mk' _ _ Tryz.underlying47 rfl rfl (Sz.mk' (by kernel_rfl) Tryz.underlying44 _ rfl)⟩,⟨by decide,Fd.mk' _ _ Tryz.underlying47 rfl rfl (Sz.mk' (by kernel_rfl) Tryz.underlying45 _ rfl)⟩,trivial⟩ ⟨(Value.agg #[.slice none 0 0,.slice none 0 0]),[.slice none 0 0,.slice none 0 0],by kernel_rfl,rfl,(fun _ _=>⟨DR.raw _ rfl,DR.raw _ rfl,trivial⟩)⟩ ⟨_,Tryz.underlying47,⟨⟨rfl,by kernel_rfl⟩,⟨rfl,by kernel_rfl⟩,trivial⟩⟩,
 zbb.str Tryz.underlying9 (by kernel_rfl) ⟨(.string ByteArray.empty:Value),[.string ByteArray.empty],by kernel_rfl,rfl,(fun _ _=>⟨DR.raw _ rfl,trivial⟩)⟩,
 zbb.slc Tryz.underlying91 (by kernel_rfl) ⟨(.slice none 0 0:Value),[.slice none 0 0],by kernel_rfl,rfl,(fun _ _=>⟨DR.raw _ rfl,trivial⟩)⟩,
 zbb.st Tryz.underlying93 (by kernel_rfl) ⟨⟨by decide,Fd.mk' _ _ Tryz.underlying93 rfl rfl (Sz.mk' (by kernel_rfl) Tryz.underlying9 _ rfl)⟩,⟨by decide,Fd.mk' _ _ Tryz.underlying93 rfl rfl (Sz.mk' (by kernel_rfl) Tryz.underlying22 _ rfl)⟩,⟨by decide,Fd.mk' _ _ Tryz.underlying93 rfl rfl (Sz.mk' (by kernel_rfl) Tryz.underlying91 _ rfl)⟩,trivial⟩ ⟨(Value.agg #[.string ByteArray.empty,.slice none 0 0,.slice none 0 0]),[.string ByteArray.empty,.slice none 0 0,.slice none 0 0],by kernel_rfl,rfl,(fun _ _=>⟨DR.raw _ rfl,DR.raw _ rfl,DR.raw _ rfl,trivial⟩)⟩ ⟨_,Tryz.underlying93,⟨⟨rfl,by kernel_rfl⟩,⟨rfl,by kernel_rfl⟩,⟨rfl,by kernel_rfl⟩,trivial⟩⟩,
 zbb.slc Tryz.underlying94 (by kernel_rfl) ⟨(.slice none 0 0:Value),[.slice none 0 0],by kernel_rfl,rfl,(fun _ _=>⟨DR.raw _ rfl,trivial⟩)⟩,
 zbb.st Tryz.underlying96 (by kernel_rfl) ⟨⟨by decide,Fd.mk' _ _ Tryz.underlying96 rfl rfl (Sz.mk' (by kernel_rfl) Tryz.underlying3 _ rfl)⟩,⟨by decide,Fd.mk' _ _ Tryz.underlying96 rfl rfl (Sz.mk' (by kernel_rfl) Tryz.underlying3 _ rfl)⟩,⟨by decide,Fd.mk' _ _ Tryz.underlying96 rfl rfl (Sz.mk' (by kernel_rfl) Tryz.underlying3 _ rfl)⟩,⟨by decide,Fd.mk' _ _ Tryz.underlying96 rfl rfl (Sz.mk' (by kernel_rfl) Tryz.underlying35 _ rfl)⟩,⟨by decide,Fd.mk' _ _ Tryz.underlying96 rfl rfl (Sz.mk' (by kernel_rfl) Tryz.underlying94 _ rfl)⟩,trivial⟩ ⟨(Value.agg #[.int .i64 0,.int .i64 0,.int .i64 0,.int .i64 0,.slice none 0 0,.bool false,.slice none 0 0,.bool false,.slice none 0 0,.slice none 0 0]),[.int .i64 0,.int .i64 0,.int .i64 0,.int .i64 0,.slice none 0 0,.bool false,.slice none 0 0,.bool false,.slice none 0 0,.slice none 0 0],by kernel_rfl,rfl,(fun _ _=>⟨DR.raw _ rfl,DR.raw _ rfl,DR.raw _ rfl,DR.raw _ rfl,DR.raw _ rfl,DR.raw _ rfl,DR.nil _ _ _ (fun _=>rfl) (Nat.zero_le _),DR.raw _ rfl,DR.raw _ rfl,DR.raw _ rfl,trivial⟩)⟩ ⟨_,Tryz.underlying96,⟨⟨rfl,by kernel_rfl⟩,⟨rfl,by kernel_rfl⟩,⟨rfl,by kernel_rfl⟩,⟨rfl,by kernel_rfl⟩,⟨rfl,by kernel_rfl⟩,trivial⟩⟩,
 zbb.st Tryz.underlying105 (by kernel_rfl) ⟨⟨by decide,Fd.mk' _ _ Tryz.underlying105 rfl rfl (Sz.mk' (by kernel_rfl) Tryz.underlying3 _ rfl)⟩,⟨by decide,Fd.mk' _ _ Tryz.underlying105 rfl rfl (Sz.mk' (by kernel_rfl) Tryz.underlying4 _ rfl)⟩,⟨by decide,Fd.mk' _ _ Tryz.underlying105 rfl rfl (Sz.mk' (by kernel_rfl) Tryz.underlying30 _ rfl)⟩,trivial⟩ ⟨(Value.agg #[.int .i64 0,.bool false,.slice none 0 0,.bool false,.slice none 0 0]),[.int .i64 0,.bool false,.slice none 0 0,.bool false,.slice none 0 0],by kernel_rfl,rfl,(fun _ _=>⟨DR.raw _ rfl,DR.raw _ rfl,DR.raw _ rfl,DR.raw _ rfl,DR.nil _ _ _ (fun _=>rfl) (Nat.zero_le _),trivial⟩)⟩ ⟨_,Tryz.underlying105,⟨⟨rfl,by kernel_rfl⟩,⟨rfl,by kernel_rfl⟩,⟨rfl,by kernel_rfl⟩,trivial⟩⟩,
 zbb.slc Tryz.underlying42 (by kernel_rfl) ⟨(.slice none 0 0:Value),[.slice none 0 0],by kernel_rfl,rfl,(fun _ _=>⟨DR.raw _ rfl,trivial⟩)⟩,
 zbb.st Tryz.underlying67 (by kernel_rfl) ⟨⟨by decide,Fd.mk' _ _ Tryz.underlying67 rfl rfl (Sz.mk' (by kernel_rfl) Tryz.underlying42 _ rfl)⟩,⟨by decide,Fd.mk' _ _ Tryz.underlying67 rfl rfl (Sz.mk' (by kernel_rfl) Tryz.underlying42 _ rfl)⟩,⟨by decide,Fd.mk' _ _ Tryz.underlying67 rfl rfl (Sz.mk' (by kernel_rfl) Tryz.underlying44 _ rfl)⟩,trivial⟩ ⟨(Value.agg #[.slice none 0 0,.slice none 0 0,.slice none 0 0]),[.slice none 0 0,.slice none 0 0,.slice none 0 0],by kernel_rfl,rfl,(fun _ _=>⟨DR.raw _ rfl,DR.raw _ rfl,DR.raw _ rfl,trivial⟩)⟩ ⟨_,Tryz.underlying67,⟨⟨rfl,by kernel_rfl⟩,⟨rfl,by kernel_rfl⟩,⟨rfl,by kernel_rfl⟩,trivial⟩⟩,
 zbb.st Tryz.underlying110 (by kernel_rfl) ⟨⟨by decide,Fd.mk' _ _ Tryz.underlying110 rfl rfl (Sz.mk' (by kernel_rfl) Tryz.underlying4 _ rfl)⟩,⟨by decide,Fd.mk' _ _ Tryz.underlying110 rfl rfl (Sz.mk' (by kernel_rfl) Tryz.underlying3 _ rfl)⟩,⟨by decide,Fd.mk' _ _ Tryz.underlying110 rfl rfl (Sz.mk' (by kernel_rfl) Tryz.underlying3 _ rfl)⟩,⟨by decide,Fd.mk' _ _ Tryz.underlying110 rfl rfl (Sz.mk' (by kernel_rfl) Tryz.underlying35 _ rfl)⟩,trivial⟩ ⟨(Value.agg #[.bool false,.int .i64 0,.int .i64 0,.int .i64 0,.slice none 0 0,.bool false,.slice none 0 0,.bool false,.slice none 0 0]),[.bool false,.int .i64 0,.int .i64 0,.int .i64 0,.slice none 0 0,.bool false,.slice none 0 0,.bool false,.slice none 0 0],by kernel_rfl,rfl,(fun _ _=>⟨DR.raw _ rfl,DR.raw _ rfl,DR.raw _ rfl,DR.raw _ rfl,DR.raw _ rfl,DR.raw _ rfl,DR.nil _ _ _ (fun _=>rfl) (Nat.zero_le _),DR.raw _ rfl,DR.raw _ rfl,trivial⟩)⟩ ⟨_,Tryz.underlying110,⟨⟨rfl,by kernel_rfl⟩,⟨rfl,by kernel_rfl⟩,⟨rfl,by kernel_rfl⟩,⟨rfl,by kernel_rfl⟩,trivial⟩⟩,
 zbb.slc Tryz.underlying57 (by kernel_rfl) ⟨(.slice none 0 0:Value),[.slice none 0 0],by kernel_rfl,rfl,(fun _ _=>⟨DR.raw _ rfl,trivial⟩)⟩,
 zbb.slc Tryz.underlying181 (by kernel_rfl) ⟨(.slice none 0 0:Value),[.slice none 0 0],by kernel_rfl,rfl,(fun _ _=>⟨DR.raw _ rfl,trivial⟩)⟩,
 zbb.st Tryz.underlying183 (by kernel_rfl) ⟨⟨by decide,Fd.mk' _ _ Tryz.underlying183 rfl rfl (Sz.mk' (by kernel_rfl) Tryz.underlying181 _ rfl)⟩,⟨by decide,Fd.mk' _ _ Tryz.underlying183 rfl rfl (Sz.mk' (by kernel_rfl) Tryz.underlying181 _ rfl)⟩,trivial⟩ ⟨(Value.agg #[.slice none 0 0,.slice none 0 0]),[.slice none 0 0,.slice none 0 0],by kernel_rfl,rfl,(fun _ _=>⟨DR.raw _ rfl,DR.raw _ rfl,trivial⟩)⟩ ⟨_,Tryz.underlying183,⟨⟨rfl,by kernel_rfl⟩,⟨rfl,by kernel_rfl⟩,trivial⟩⟩,
 zbb.slc Tryz.underlying59 (by kernel_rfl) ⟨(.slice none 0 0:Value),[.slice none 0 0],by kernel_rfl,rfl,(fun _ _=>⟨DR.raw _ rfl,trivial⟩)⟩,
 zbb.slc Tryz.underlying98 (by kernel_rfl) ⟨(.slice none 0 0:Value),[.slice none 0 0],by kernel_rfl,rfl,(fun _ _=>⟨DR.raw _ rfl,trivial⟩)⟩,
 zbb.st Tryz.underlying56 (by kernel_rfl) ⟨⟨by decide,Fd.mk' _ _ Tryz.underlying56 rfl rfl (Sz.mk' (by kernel_rfl) Tryz.underlying3 _ rfl)⟩,⟨by decide,Fd.mk' _ _ Tryz.underlying56 rfl rfl (Sz.mk' (by kernel_rfl) Tryz.underlying47 _ rfl)⟩,trivial⟩ ⟨(Value.agg #[.int .i64 0,.slice none 0 0,.slice none 0 0]),[.int .i64 0,.slice none 0 0,.slice none 0 0],by kernel_rfl,rfl,(fun _ _=>⟨DR.raw _ rfl,DR.raw _ rfl,DR.raw _ rfl,trivial⟩)⟩ ⟨_,Tryz.underlying56,⟨⟨rfl,by kernel_rfl⟩,⟨rfl,by kernel_rfl⟩,trivial⟩⟩,
 zbb.slc Tryz.underlying52 (by kernel_rfl) ⟨(.slice none 0 0:Value),[.slice none 0 0],by kernel_rfl,rfl,(fun _ _=>⟨DR.raw _ rfl,trivial⟩)⟩,
 zbb.st Tryz.underlying121 (by kernel_rfl) ⟨⟨by decide,Fd.mk' _ _ Tryz.underlying121 rfl rfl (Sz.mk' (by kernel_rfl) Tryz.underlying3 _ rfl)⟩,⟨by decide,Fd.mk' _ _ Tryz.underlying121 rfl rfl (Sz.mk' (by kernel_rfl) Tryz.underlying3 _ rfl)⟩,trivial⟩ ⟨(Value.agg #[.int .i64 0,.int .i64 0]),[.int .i64 0,.int .i64 0],by kernel_rfl,rfl,(fun _ _=>⟨DR.raw _ rfl,DR.raw _ rfl,trivial⟩)⟩ ⟨_,Tryz.underlying121,⟨⟨rfl,by kernel_rfl⟩,⟨rfl,by kernel_rfl⟩,trivial⟩⟩,
 zbb.slc Tryz.underlying174 (by kernel_rfl) ⟨(.slice none 0 0:Value),[.slice none 0 0],by kernel_rfl,rfl,(fun _ _=>⟨DR.raw _ rfl,trivial⟩)⟩,
 zbb.st Tryz.underlying176 (by kernel_rfl) ⟨⟨by decide,Fd.mk' _ _ Tryz.underlying176 rfl rfl (Sz.mk' (by kernel_rfl) Tryz.underlying121 _ rfl)⟩,⟨by decide,Fd.mk' _ _ Tryz.underlying176 rfl rfl (Sz.mk' (by kernel_rfl) Tryz.underlying174 _ rfl)⟩,⟨by decide,Fd.mk' _ _ Tryz.underlying176 rfl rfl (Sz.mk' (by kernel_rfl) Tryz.underlying3 _ rfl)⟩,trivial⟩ ⟨(Value.agg #[.int .i64 0,.int .i64 0,.slice none 0 0,.int .i64 0]),[.int .i64 0,.int .i64 0,.slice none 0 0,.int .i64 0],by kernel_rfl,rfl,(fun _ _=>⟨DR.raw _ rfl,DR.raw _ rfl,DR.raw _ rfl,DR.raw _ rfl,trivial⟩)⟩ ⟨_,Tryz.underlying176,⟨⟨rfl,by kernel_rfl⟩,⟨rfl,by kernel_rfl⟩,⟨rfl,by kernel_rfl⟩,trivial⟩⟩,
 zbb.slc Tryz.underlying58 (by kernel_rfl) ⟨(.slice none 0 0:Value),[.slice none 0 0],by kernel_rfl,rfl,(fun _ _=>⟨DR.raw _ rfl,trivial⟩)⟩,
 zbb.st Tryz.underlying61 (by kernel_rfl) ⟨⟨by decide,Fd.mk' _ _ Tryz.underlying61 rfl rfl (Sz.mk' (by kernel_rfl) Tryz.underlying58 _ rfl)⟩,⟨by decide,Fd.mk' _ _ Tryz.underlying61 rfl rfl (Sz.mk' (by kernel_rfl) Tryz.underlying44 _ rfl)⟩,⟨by decide,Fd.mk' _ _ Tryz.underlying61 rfl rfl (Sz.mk' (by kernel_rfl) Tryz.underlying59 _ rfl)⟩,trivial⟩ ⟨(Value.agg #[.slice none 0 0,.slice none 0 0,.slice none 0 0]),[.slice none 0 0,.slice none 0 0,.slice none 0 0],by kernel_rfl,rfl,(fun _ _=>⟨DR.raw _ rfl,DR.raw _ rfl,DR.raw _ rfl,trivial⟩)⟩ ⟨_,Tryz.underlying61,⟨⟨rfl,by kernel_rfl⟩,⟨rfl,by kernel_rfl⟩,⟨rfl,by kernel_rfl⟩,trivial⟩⟩,
 zbb.st Tryz.underlying108 (by kernel_rfl) ⟨⟨by decide,Fd.mk' _ _ Tryz.underlying108 rfl rfl (Sz.mk' (by kernel_rfl) Tryz.underlying44 _ rfl)⟩,⟨by decide,Fd.mk' _ _ Tryz.underlying108 rfl rfl (Sz.mk' (by kernel_rfl) Tryz.underlying44 _ rfl)⟩,⟨by decide,Fd.mk' _ _ Tryz.underlying108 rfl rfl (Sz.mk' (by kernel_rfl) Tryz.underlying44 _ rfl)⟩,trivial⟩ ⟨(Value.agg #[.slice none 0 0,.slice none 0 0,.slice none 0 0]),[.slice none 0 0,.slice none 0 0,.slice none 0 0],by kernel_rfl,rfl,(fun _ _=>⟨DR.raw _ rfl,DR.raw _ rfl,DR.raw _ rfl,trivial⟩)⟩ ⟨_,Tryz.underlying108,⟨⟨rfl,by kernel_rfl⟩,⟨rfl,by kernel_rfl⟩,⟨rfl,by kernel_rfl⟩,trivial⟩⟩,
 zbb.st Tryz.underlying69 (by kernel_rfl) ⟨⟨by decide,Fd.mk' _ _ Tryz.underlying69 rfl rfl (Sz.mk' (by kernel_rfl) Tryz.underlying3 _ rfl)⟩,⟨by decide,Fd.mk' _ _ Tryz.underlying69 rfl rfl (Sz.mk' (by kernel_rfl) Tryz.underlying67 _ rfl)⟩,⟨by decide,Fd.mk' _ _ Tryz.underlying69 rfl rfl (Sz.mk' (by kernel_rfl) Tryz.underlying3 _ rfl)⟩,trivial⟩ ⟨(Value.agg #[.int .i64 0,.slice none 0 0,.slice none 0 0,.slice none 0 0,.int .i64 0]),[.int .i64 0,.slice none 0 0,.slice none 0 0,.slice none 0 0,.int .i64 0],by kernel_rfl,rfl,(fun _ _=>⟨DR.raw _ rfl,DR.raw _ rfl,DR.raw _ rfl,DR.raw _ rfl,DR.raw _ rfl,trivial⟩)⟩ ⟨_,Tryz.underlying69,⟨⟨rfl,by kernel_rfl⟩,⟨rfl,by kernel_rfl⟩,⟨rfl,by kernel_rfl⟩,trivial⟩⟩,
 trivial⟩
theorem ia_0:za6 Tryz.prog 130:=za6.mk' (by kernel_rfl)
theorem zfd:Sz Tryz.prog 28 2 true:=Sz.mk' (by kernel_rfl) Tryz.underlying28 _ rfl
theorem ia_2:za6 Tryz.prog 113:=za6.mk' (by kernel_rfl)
theorem ia_3:za6 Tryz.prog 87:=za6.mk' (by kernel_rfl)
theorem ia_4:za6 Tryz.prog 64:=za6.mk' (by kernel_rfl)
theorem ia_5:za6 Tryz.prog 111:=za6.mk' (by kernel_rfl)
theorem ia_6:za6 Tryz.prog 108:=za6.mk' (by kernel_rfl)
theorem ia_7:za6 Tryz.prog 109:=za6.mk' (by kernel_rfl)
theorem ia_8:za6 Tryz.prog 150:=za6.mk' (by kernel_rfl)
theorem nadd_lt {xs ys:List Nat} (hx:Lb xs) (hy:Lb ys):nV xs+nV ys<pw (xs.length+ys.length+1):=zfs hx hy (by omega) (by omega)
theorem nmul_lt {xs ys:List Nat} (hx:Lb xs) (hy:Lb ys):nV xs*nV ys<pw (xs.length+ys.length):=zco (zc7 hx) (zc7 hy)
theorem iv_not (s:Bool) (zs:List Nat):iv (!s) zs=-iv s zs:=by cases s <;> simp [iv]
theorem iv_of {s:Bool} {zs us:List Nat} (h:nV zs=nV us):iv s zs=iv s us:=by unfold iv;rw [h]
theorem from_true {zs n1:List Nat} (e:n1=lbs (nV zs)):(⟨decide ((n1.length:Int)>0),n1⟩:ZI)=ZI.of (iv true zs):=by
 subst e
 refine ZI.of_eq ⟨zds _,fun h=>by simp [h]⟩ ?_
 by_cases h:(lbs (nV zs)).length=0
 ·have h1:=List.length_eq_zero_iff.1 h
  have h2:=zdr (nV zs)
  rw [h1] at h2 ⊢
  rw [iv_nil];unfold iv;rw [<- h2];rfl
 ·have h1:((lbs (nV zs)).length:Int)>0:=by omega
  simp only [h1,decide_true]
  exact iv_of (zdr _)
theorem from_false {zs n1:List Nat} (e:n1=lbs (nV zs)):(⟨false,n1⟩:ZI)=ZI.of (iv false zs):=by
 subst e
 exact ZI.of_eq ⟨zds _,fun _=>rfl⟩ (iv_of (zdr _))
theorem from_some {s:Bool} {zs n1:List Nat} (e:n1=lbs (nV zs)) (h:n1.length≠0):(⟨s,n1⟩:ZI)=ZI.of (iv s zs):=by
 subst e
 exact ZI.of_eq ⟨zds _,fun h0=>absurd h0 h⟩ (iv_of (zdr _))
theorem from_none {s:Bool} {zs n1:List Nat} (e:n1=lbs (nV zs)) (h:n1.length=0):(⟨false,[]⟩:ZI)=ZI.of (iv s zs):=by
 subst e
 have h1:=List.length_eq_zero_iff.1 h
 have h2:=zdr (nV zs)
 rw [h1] at h2
 have:iv s zs=0:=by unfold iv;rw [<- h2];cases s <;> rfl
 rw [this];rfl
theorem zi7 (s:Bool) (zs:List Nat) (hz:Lb zs) (lz:zs.length<=100000):Fn Tryz.prog 87 [] [vb s,vn zs] (vz (ZI.of (iv s zs))) []:=by
 refine Fn.body Tryz.func87 rfl 15 rfl fun w H B a h=>Jq 0 [] [(0,vb s),(1,vn zs),(4,vp 0 0)] [(0,.box [.d (.raw (.bool false)),.d (nsl [])])] h fun a w h=>?_
 obtain ⟨n1,en1,vn1,on1,ln1⟩:=mkN (v:=nV zs) (m:=zs.length) (zc7 hz);refine Je 1 [(1,.call (Fn.cast (SnTrim zs hz (by omega)) (congrArg vn en1.symm)) ia_0)] [] [(1,vn n1)] h fun a w h=>?_
 rcases Bool.eq_false_or_eq_true s with hc1 | hc2
 ·rw [hc1] at h;refine Jq 1 [(3,.len (zey n1))] [(4,vp 0 0)] [(0,.box [.d (.raw (.bool (decide ((n1.length:Int)>0)))),.d (nsl n1)])] h fun a w h=>qV (rA 0 [.d (.raw (.bool (decide ((n1.length:Int)>0)))),.d (nsl n1)] h zfd rfl ?_);rw [hc1,<- from_true en1];try rfl
 rw [hc2] at h;refine Jq 1 [] [(4,vp 0 0)] [(0,.box [.d (.raw (.bool false)),.d (nsl n1)])] h fun a w h=>qV (rA 0 [.d (.raw (.bool false)),.d (nsl n1)] h zfd rfl ?_);rw [hc2,<- from_false en1];try rfl
theorem zh7 (s:Bool) (zs:List Nat) (hz:Lb zs) (lz:zs.length<=100000):Fn Tryz.prog 64 [] [vb s,vn zs] (vz (ZI.of (iv s zs))) []:=by
 refine Fn.body Tryz.func64 rfl 15 rfl fun w H B a h=>Jq 0 [] [(0,vb s),(1,vn zs),(4,vp 0 0)] [(0,.box [cB false,.d (nsl [])])] h fun a w h=>?_
 obtain ⟨n1,en1,vn1,on1,ln1⟩:=mkN (v:=nV zs) (m:=zs.length) (zc7 hz);refine Je 1 [(1,.call (Fn.cast (SRnTrim zs hz (by omega)) (congrArg vn en1.symm)) ia_2)] [1] [(5,vn n1)] h fun a w h=>qW (Je 1 [(1,.len (zey n1))] [] [(10,vb ((n1.length:Int) == 0))] h fun a w h=>cS ((n1.length:Int) == 0) h (fun hc1=>?_) (fun hc2=>?_))
 ·have hc1':=hc1;(try simp at hc1');refine Je 1 [] [10] [] h fun a w h=>qV (za2 (rA 0 [cB false,.d (nsl [])] h zfd rfl ?_));rw [<- from_none en1 (by simpa using hc1)];try rfl
 have hc2':=hc2;(try simp at hc2');refine qU (za0 (Jq 1 [] [(4,vp 0 0)] [(0,.box [cB s,.d (nsl n1)])] h fun a w h=>qV (rA 0 [cB s,.d (nsl n1)] h zfd rfl ?_)));rw [<- from_some en1 (by simpa using hc2)];try rfl
theorem SClean (x:ZI) (hx:Lb x.abs) (lx:x.abs.length<=100000):Fn Tryz.prog 111 [] [vz x] (vz (ZI.of (x.val))) []:=by
 refine Fn.body Tryz.func111 rfl 8 rfl fun w H B a h=>Jq 0 [] [(1,vp 0 0),(2,vp 1 0)] [(0,.box (zi x)),(1,.box [cB false,.d (nsl [])])] h fun a w h=>?_
 obtain ⟨r1,er1,vr1,or1,lr1⟩:=mkZ (v:=iv x.neg x.abs) (m:=x.abs.length) (zd5 hx);refine Jd 2 [(4,.call (Fn.cast (zi7 x.neg x.abs hx (by omega)) (congrArg vz er1.symm)) ia_3)] [1] [] [(1,.box (zi r1))] h fun a w h=>qV (rA 1 (zi r1) h zfd rfl ?_);rw [er1];try rfl
theorem SRClean (x:ZI) (hx:Lb x.abs) (lx:x.abs.length<=100000):Fn Tryz.prog 91 [] [vz x] (vz (ZI.of (x.val))) []:=by
 refine Fn.body Tryz.func91 rfl 8 rfl fun w H B a h=>Jq 0 [] [(1,vp 0 0),(2,vp 1 0)] [(0,.box (zi x)),(1,.box [cB false,.d (nsl [])])] h fun a w h=>?_
 obtain ⟨r1,er1,vr1,or1,lr1⟩:=mkZ (v:=iv x.neg x.abs) (m:=x.abs.length) (zd5 hx);refine Jd 2 [(4,.call (Fn.cast (zh7 x.neg x.abs hx (by omega)) (congrArg vz er1.symm)) ia_4)] [1] [] [(1,.box (zi r1))] h fun a w h=>qV (rA 1 (zi r1) h zfd rfl ?_);rw [er1];try rfl
theorem SNeg (x:ZI) (hx:Lb x.abs) (lx:x.abs.length<=100000):Fn Tryz.prog 112 [] [vz x] (vz (ZI.of (-x.val))) []:=by
 refine Fn.body Tryz.func112 rfl 9 rfl fun w H B a h=>Jq 0 [] [(1,vp 0 0),(2,vp 1 0)] [(0,.box (zi x)),(1,.box [cB false,.d (nsl [])])] h fun a w h=>?_
 obtain ⟨r1,er1,vr1,or1,lr1⟩:=mkZ (v:=iv (!x.neg) x.abs) (m:=x.abs.length) (zd5 hx);refine Jd 2 [(5,.call (Fn.cast (zi7 (!x.neg) x.abs hx (by omega)) (congrArg vz er1.symm)) ia_3)] [1] [] [(1,.box (zi r1))] h fun a w h=>qV (rA 1 (zi r1) h zfd rfl ?_);rw [er1,iv_not];try rfl
theorem SRNeg (x:ZI) (hx:Lb x.abs) (lx:x.abs.length<=100000):Fn Tryz.prog 120 [] [vz x] (vz (ZI.of (-x.val))) []:=by
 refine Fn.body Tryz.func120 rfl 9 rfl fun w H B a h=>Jq 0 [] [(1,vp 0 0),(2,vp 1 0)] [(0,.box (zi x)),(1,.box [cB false,.d (nsl [])])] h fun a w h=>?_
 obtain ⟨r1,er1,vr1,or1,lr1⟩:=mkZ (v:=iv (!x.neg) x.abs) (m:=x.abs.length) (zd5 hx);refine Jd 2 [(5,.call (Fn.cast (zh7 (!x.neg) x.abs hx (by omega)) (congrArg vz er1.symm)) ia_4)] [1] [] [(1,.box (zi r1))] h fun a w h=>qV (rA 1 (zi r1) h zfd rfl ?_);rw [er1,iv_not];try rfl
theorem sign_neg {x r:ZI} (e:r=ZI.of x.val) (h:r.neg=true):(-1:Int)=sgn x.val:=by
 rw [e] at h;exact (zgc (of_decide_eq_true h)).symm
theorem sign_pos {x r:ZI} (e:r=ZI.of x.val) (h:r.neg=false) (hl:(r.abs.length:Int)>0):(1:Int)=sgn x.val:=by
 rw [e] at h hl
 have h1:¬ x.val<0:=of_decide_eq_false h
 have h2:x.val≠0:=fun h0=>by have:=ZI.abs_nil.2 h0;omega
 exact (sgn_pos (by omega)).symm
theorem sign_zero {x r:ZI} (e:r=ZI.of x.val) (hl:¬ (r.abs.length:Int)>0):(0:Int)=sgn x.val:=by
 rw [e] at hl
 exact (zgr (ZI.abs_nil.1 (by omega))).symm
theorem SSign (x:ZI) (hx:Lb x.abs) (lx:x.abs.length<=100000):Fn Tryz.prog 127 [] [vz x] (vI (sgn x.val)) []:=by
 refine Fn.body Tryz.func127 rfl 13 rfl fun w H B a h=>Jq 0 [] [(1,vp 0 0),(2,vI 0)] [(0,.box (zi x))] h fun a w h=>?_
 obtain ⟨r1,er1,vr1,or1,lr1⟩:=mkZ (v:=x.val) (m:=x.abs.length) (zgy hx);refine Jd 1 [(1,.call (Fn.cast (SClean x hx (by omega)) (congrArg vz er1.symm)) ia_5)] [] [] [(0,.box (zi r1))] h fun a w h=>qW (qZ (Je 1 [] [] [(5,vb r1.neg)] h fun a w h=>cS r1.neg h (fun hc1=>?_) (fun hc2=>?_)))
 ·refine Jq 1 [] [(2,vI (-1))] [] h fun a w h=>qV (za7 (za2 (rT (.c (cI (-1))) h rfl ?_)));rw [<- sign_neg er1 hc1];try rfl
 refine Jd 1 [(2,.len (zey r1.abs))] [1,5] [(8,vb (decide ((r1.abs.length:Int)>0)))] [] h fun a w h=>zap ((r1.abs.length:Int)>0) h (fun hc3 hc3'=>?_) (fun hc4 hc4'=>?_)
 ·refine Jq 1 [] [(2,vI 1)] [] h fun a w h=>qV (za7 (za2 (rT (.c (cI 1)) h rfl ?_)));rw [<- sign_pos er1 hc2 hc3'];try rfl
 refine qU (zac (za0 (Jd 1 [] [8] [] [] h fun a w h=>qV (rT (.c (cI 0)) h rfl ?_))));rw [<- sign_zero er1 hc4'];try rfl
theorem rsign {x:ZI} {n1:List Nat} (e:n1=lbs (nV x.abs)):(n1.length=0->(0:Int)=sgn x.val)/\(n1.length≠0->x.neg=true->(-1:Int)=sgn x.val)/\(n1.length≠0->x.neg=false->(1:Int)=sgn x.val):=by
 have hv:=zdr (nV x.abs)
 have hz:n1.length=0 ↔ nV x.abs=0:=by
  subst e
  constructor
  ·intro h;rw [List.length_eq_zero_iff.1 h] at hv;exact hv.symm
  ·intro h;rw [h];rfl
 unfold ZI.val
 refine ⟨fun h=>?_,fun h k=>?_,fun h k=>?_⟩
 ·rw [zgr (by unfold iv;rw [hz.1 h];cases x.neg <;> rfl)]
 ·rw [zgc (by unfold iv;rw [k];have:=mt hz.2 h;simp;omega)]
 ·rw [sgn_pos (by unfold iv;rw [k];have:=mt hz.2 h;simp;omega)]
theorem zd6 (x:ZI) (hx:Lb x.abs) (lx:x.abs.length<=100000):Fn Tryz.prog 71 [] [vz x] (vI (sgn x.val)) []:=by
 refine Fn.body Tryz.func71 rfl 10 rfl fun w H B a h=>Jq 0 [] [(1,vp 0 0),(2,vI 0)] [(0,.box (zi x))] h fun a w h=>qW ?_
 obtain ⟨n1,en1,vn1,on1,ln1⟩:=mkN (v:=nV x.abs) (m:=x.abs.length) (zc7 hx);refine Je 1 [(2,.call (Fn.cast (SRnTrim x.abs hx (by omega)) (congrArg vn en1.symm)) ia_2),(3,.len (zey n1))] [] [(7,vb ((n1.length:Int) == 0))] h fun a w h=>cS ((n1.length:Int) == 0) h (fun hc1=>?_) (fun hc2=>?_)
 ·have hc1':=hc1;(try simp at hc1');refine Je 1 [] [7] [] h fun a w h=>qV (za2 (rT (.c (cI 0)) h rfl ?_));rw [<- (rsign en1).1 (by simpa using hc1)];try rfl
 have hc2':=hc2;(try simp at hc2');refine qU (za0 (qW (Jd 1 [] [1,7] [(9,vb x.neg)] [] h fun a w h=>cS x.neg h (fun hc3=>?_) (fun hc4=>?_))))
 ·refine Jq 1 [] [(2,vI (-1))] [] h fun a w h=>qV (za2 (rT (.c (cI (-1))) h rfl ?_));rw [<- (rsign en1).2.1 (by simpa using hc2) hc3];try rfl
 refine qU (za0 (Jq 1 [] [(2,vI 1)] [] h fun a w h=>qV (rT (.c (cI 1)) h rfl ?_)));rw [<- (rsign en1).2.2 (by simpa using hc2) hc4];try rfl
theorem iv_same {s:Bool} {xs ys n:List Nat} (h:nV n=nV xs+nV ys):iv s n=iv s xs+iv s ys:=by unfold iv;rw [h];cases s <;> simp <;> omega
theorem iv_ge {s t:Bool} {xs ys n:List Nat} (hne:s≠t) (hle:nV ys<=nV xs) (h:nV n=nV xs - nV ys):iv s n=iv s xs+iv t ys:=by unfold iv;rw [h];cases s <;> cases t <;> simp_all <;> omega
theorem iv_lt {s t:Bool} {xs ys n:List Nat} (hne:s≠t) (hle:nV xs<=nV ys) (h:nV n=nV ys - nV xs):iv t n=iv s xs+iv t ys:=by unfold iv;rw [h];cases s <;> cases t <;> simp_all <;> omega
theorem iv_times {s t:Bool} {xs ys n:List Nat} (h:nV n=nV xs*nV ys):iv (s != t) n=iv s xs*iv t ys:=by unfold iv;rw [h,Int.natCast_mul];cases s <;> cases t <;> simp [Int.neg_mul,Int.mul_neg]
theorem SAdd (x y:ZI) (hx:Lb x.abs) (hy:Lb y.abs) (lx:x.abs.length<=49000) (ly:y.abs.length<=49000):Fn Tryz.prog 60 [] [vz x,vz y] (vz (ZI.of (x.val+y.val))) []:=by
 refine Fn.body Tryz.func60 rfl 47 rfl fun w H B a h=>Jq 0 [] [(2,vp 0 0),(3,vp 1 0),(4,vp 2 0)] [(0,.box (zi x)),(1,.box (zi y)),(2,.box [cB false,.d (nsl [])])] h fun a w h=>qW (Je 3 [] [] [(13,vb (x.neg == y.neg))] h fun a w h=>cS (x.neg == y.neg) h (fun hc1=>?_) (fun hc2=>?_))
 ·have hc1':=hc1;(try simp at hc1');obtain ⟨n1,en1,vn1,on1,ln1⟩:=mkN (v:=nV x.abs+nV y.abs) (m:=x.abs.length+y.abs.length+1) (nadd_lt hx hy);obtain ⟨r2,er2,vr2,or2,lr2⟩:=mkZ (v:=iv x.neg n1) (m:=n1.length) (zd5 on1);refine Jd 3 [(6,.call (Fn.cast (SnAdd x.abs y.abs hx hy (by omega) (by omega)) (congrArg vn en1.symm)) ia_6),(7,.call (Fn.cast (zi7 x.neg n1 on1 (by omega)) (congrArg vz er2.symm)) ia_3)] [13] [] [(0,.box (zi x)),(1,.box (zi y)),(2,.box (zi r2))] h fun a w h=>qV (za2 (rA 2 (zi r2) h zfd rfl ?_));have e1:x.neg=y.neg:=by simpa using hc1
  rw [er2,iv_same vn1];show vz (ZI.of (iv x.neg x.abs+iv x.neg y.abs))=vz (ZI.of (iv x.neg x.abs+iv y.neg y.abs));rw [e1]
 have hc2':=hc2;(try simp at hc2');refine qU (za0 (qW ?_));obtain ⟨n3,en3,vn3,on3,ln3⟩:=mkN (v:=nV x.abs - nV y.abs) (m:=x.abs.length) (Nat.lt_of_le_of_lt (Nat.sub_le _ _) (zc7 hx));refine Je 3 [(4,.call (Fn.cast (SnSub x.abs y.abs hx hy (by omega) (by omega)) (show _=(.tup [.c (.d (nsl n3)),.c (cB (decide (nV y.abs<=nV x.abs)))]:V) by rw [en3])) ia_7)] [13] [(5,vn n3),(6,vb (decide (nV y.abs<=nV x.abs)))] h fun a w h=>Je 3 [] [6] [(30,vb (decide (nV y.abs<=nV x.abs)))] h fun a w h=>zap (nV y.abs<=nV x.abs) h (fun hc3 hc3'=>?_) (fun hc4 hc4'=>?_)
 ·obtain ⟨r4,er4,vr4,or4,lr4⟩:=mkZ (v:=iv x.neg n3) (m:=n3.length) (zd5 on3);refine Jd 3 [(3,.call (Fn.cast (zi7 x.neg n3 on3 (by omega)) (congrArg vz er4.symm)) ia_3)] [5,30] [] [(0,.box (zi x)),(1,.box (zi y)),(2,.box (zi r4))] h fun a w h=>qV (za2 (rA 2 (zi r4) h zfd rfl ?_));rw [er4,iv_ge (t:=y.neg) (ys:=y.abs) (by simpa using hc2) hc3' vn3];try rfl
 refine qU (za0 ?_);obtain ⟨n5,en5,vn5,on5,ln5⟩:=mkN (v:=nV y.abs - nV x.abs) (m:=y.abs.length) (Nat.lt_of_le_of_lt (Nat.sub_le _ _) (zc7 hy));refine Jd 3 [(4,.call (Fn.cast (SnSub y.abs x.abs hy hx (by omega) (by omega)) (show _=(.tup [.c (.d (nsl n5)),.c (cB (decide (nV x.abs<=nV y.abs)))]:V) by rw [en5])) ia_7)] [2,5,30] [(7,vn n5)] [(1,.box (zi y)),(2,.box [cB false,.d (nsl [])])] h fun a w h=>?_;obtain ⟨r6,er6,vr6,or6,lr6⟩:=mkZ (v:=iv y.neg n5) (m:=n5.length) (zd5 on5);refine Jq 3 [(3,.call (Fn.cast (zi7 y.neg n5 on5 (by omega)) (congrArg vz er6.symm)) ia_3)] [(4,vp 2 0)] [(2,.box (zi r6))] h fun a w h=>qV (rA 2 (zi r6) h zfd rfl ?_);rw [er6,iv_lt (s:=x.neg) (xs:=x.abs) (by simpa using hc2) (by have:=hc4';omega) vn5];try rfl
theorem SMul (x y:ZI) (hx:Lb x.abs) (hy:Lb y.abs) (lx:x.abs.length<=49000) (ly:y.abs.length<=49000):Fn Tryz.prog 145 [] [vz x,vz y] (vz (ZI.of (x.val*y.val))) []:=by
 refine Fn.body Tryz.func145 rfl 16 rfl fun w H B a h=>Jq 0 [] [(2,vp 0 0),(3,vp 1 0),(4,vp 2 0)] [(0,.box (zi x)),(1,.box (zi y)),(2,.box [cB false,.d (nsl [])])] h fun a w h=>?_
 obtain ⟨n1,en1,vn1,on1,ln1⟩:=mkN (v:=nV x.abs*nV y.abs) (m:=x.abs.length+y.abs.length) (nmul_lt hx hy);obtain ⟨r2,er2,vr2,or2,lr2⟩:=mkZ (v:=iv (x.neg != y.neg) n1) (m:=n1.length) (zd5 on1);refine Jq 3 [(9,.call (Fn.cast (SnMul x.abs y.abs hx hy (by omega) (by omega)) (congrArg vn en1.symm)) ia_8),(10,.call (Fn.cast (zi7 (x.neg != y.neg) n1 on1 (by omega)) (congrArg vz er2.symm)) ia_3)] [(4,vp 2 0)] [(2,.box (zi r2))] h fun a w h=>qV (rA 2 (zi r2) h zfd rfl ?_);rw [er2,iv_times vn1];try rfl
def zad (v:Int):List D:=[.raw (.int .i64 v)]
def ziD (x:ZI):List D:=[.raw (.bool x.neg),nsl x.abs]
def zc6 (x:ByteArray):List D:=[.raw (.string x)]
def zaq (x:Bool):List D:=[.raw (.bool x)]
def slD {α:Type} (es:Nat) (f:α->List D) (xs:List α):List D:=[.sl es (xs.map f)]
theorem zab {α β:Type} {xs:List α} {i:Nat} {x:α} (h:xs[i]?=some x) {f:α->β}:(xs.map f)[i]?=some (f x):=by rw [List.getElem?_map,h];rfl
theorem za3 {α:Type} (es:Nat) (f:α->List D) (xs:List α):lenC (.d (.sl es (xs.map f)))=some xs.length:=by simp [lenC]
def vd (l:List D):V:=.t (.agg (l.map C.d))
structure zbr where
  v:Int
  c:ZI
def zbr.d (x:zbr):List D:=[.raw (.int .i64 x.v),.raw (.bool x.c.neg),nsl x.c.abs]
structure zgm where
  parts:List zbr
  k:ZI
def zgm.d (x:zgm):List D:=[.sl 3 (x.parts.map zbr.d),.raw (.bool x.k.neg),nsl x.k.abs]
abbrev zT (x:zgm):List C:=[.d (.sl 3 (x.parts.map zbr.d))]++zi x.k
abbrev vT (x:zgm):V:=.t (.agg (zT x))
abbrev vPs (x:List zbr):V:=.t (.c (.d (.sl 3 (x.map zbr.d))))
abbrev vIs (x:List Int):V:=.t (.c (.d (.sl 1 (x.map zad))))
abbrev vZs (x:List ZI):V:=.t (.c (.d (.sl 2 (x.map ziD))))
abbrev cPs (x:List zbr):C:=.d (.sl 3 (x.map zbr.d))
abbrev cIs (x:List Int):C:=.d (.sl 1 (x.map zad))
abbrev cZs (x:List ZI):C:=.d (.sl 2 (x.map ziD))
section
open Go.RowKit Go.WideShapes
def all (w:World):Im:=fun b=>w.heap[b]?
def zeb (w:World) (n:Nat) (t:TypeId) {α:Type} (f:α->List D) (good:α->Prop):Prop :=
  ∀ (H:Type) (enc:TypeId × Value->H) (base:Nat) (spare:Nat->Bool) (held:Bool) (fuel:Nat) (cs:List Value) (x:DataW H × List MemPlace),fuel<=n->DataW.trod enc Tryz.prog w base spare held fuel t cs=some x->∃ a:α,good a/\zba (DR (all w)) (f a) cs
section
variable {w:World} {n:Nat} {t:TypeId} {α β:Type} {f:α->List D} {good:α->Prop}
theorem zeb.zero:zeb w 0 t f good:=fun H enc base spare held fuel cs x hn h=>by
 obtain rfl:fuel=0:=by omega
 simp [DataW.trod] at h
theorem zeb.mono {m:Nat} (h:zeb w n t f good) (hm:m<=n):zeb w m t f good:=fun H enc base spare held fuel cs x hn hx=>h H enc base spare held fuel cs x (by omega) hx
theorem zeb.map {f':β->List D} {good':β->Prop} (h:zeb w n t f good) (g:α->β) (hf:∀ a,f' (g a)=f a) (hg:∀ a,good a->good' (g a)):zeb w n t f' good':=fun H enc base spare held fuel cs x hn hx=>by
 obtain ⟨a,h1,h2⟩:=h H enc base spare held fuel cs x hn hx
 exact ⟨g a,hg a h1,by rw [hf];exact h2⟩
theorem rep_int {k:IntKind} (hu:Tryz.prog.underlying t=some (.int k)):zeb w n t (fun v:Int=>[.raw (.int k v)]) (fun v=>(Lit.int k v).wf=true):=fun H enc base spare held fuel cs x hn hx=>by
 obtain ⟨v,rfl,_,hw⟩:=DataW.trod_int hu hx
 exact ⟨v,hw,DR.raw _ rfl,trivial⟩
theorem zfy (hu:Tryz.prog.underlying t=some .bool):zeb w n t zaq (fun _=>True):=fun H enc base spare held fuel cs x hn hx=>by
 obtain ⟨v,rfl,_⟩:=DataW.trod_bool hu hx
 exact ⟨v,trivial,DR.raw _ rfl,trivial⟩
theorem rep_str (hu:Tryz.prog.underlying t=some .string):zeb w n t zc6 (fun s=>s.size<=maxLen):=fun H enc base spare held fuel cs x hn hx=>by
 obtain ⟨v,rfl,_,hs⟩:=DataW.trod_string hu hx
 exact ⟨v,hs,DR.raw _ rfl,trivial⟩
theorem zew (hu:Tryz.prog.underlying t=some (.int .i64)):zeb w n t zad (fun v=>-9223372036854775808<=v/\v<=9223372036854775807) :=
 (rep_int hu).map id (fun _=>rfl) fun v h=>by have:=bounds_i64 h;simp only [id];omega
theorem rep_u32 (hu:Tryz.prog.underlying t=some (.int .u32)):zeb w n t (fun v:Nat=>[.raw (.int .u32 (v:Int))]) (fun v=>v<4294967296):=fun H enc base spare held fuel cs x hn hx=>by
 obtain ⟨v,rfl,_,hw⟩:=DataW.trod_int hu hx
 have:=bounds_u32 hw
 refine ⟨v.toNat,by omega,?_,trivial⟩
 rw [Int.toNat_of_nonneg (by omega)]
 exact DR.raw _ rfl
theorem listOf {P:Nat->α->Prop}:∀ (len:Nat),(∀ i,i<len->∃ a,P i a)->∃ xs:List α,xs.length=len/\∀ i x,xs[i]?=some x->P i x
 | 0,_=>⟨[],rfl,fun i x h=>by simp at h⟩
 | len+1,h=>by
  obtain ⟨xs,h1,h2⟩:=listOf len fun i hi=>h i (by omega)
  obtain ⟨a,ha⟩:=h len (by omega)
  refine ⟨xs++[a],by simp [h1],fun i x hx=>?_⟩
  by_cases hi:i<xs.length
  ·rw [List.getElem?_append_left hi] at hx;exact h2 i x hx
  ·have hl:=(List.getElem?_eq_some_iff.1 hx).1
   simp only [List.length_append,List.length_cons,List.length_nil] at hl
   have e:i=xs.length:=by omega
   subst e
   simp at hx
   subst hx
   rw [h1];exact ha
theorem cell_at {b o:Nat} {v:Value} (h:w.cell? ⟨b,o,none⟩=some v):∃ arr ty fz,w.heap[b]?=some (.cells arr ty fz)/\arr[o]?=some v:=by
 unfold World.cell? at h
 split at h
 ·rename_i cs ty fz hb
  exact ⟨cs,ty,fz,hb,by simpa using h⟩
 ·cases h
theorem zcm {e:TypeId} {k:Nat} (hu:Tryz.prog.underlying t=some (.slice e)) (hc:Tryz.prog.cellsOf e=k) (hk:0<k) (hl:∀ a,(f a).length=k) (he:zeb w n e f good):zeb w n t (slD k f) (fun xs=>xs.length<=maxLen/\∀ x ∈ xs,good x):=fun H enc base spare held fuel cs x hn hx=>by
 rcases DataW.trod_slice hu hx with ⟨rfl,_⟩ | ⟨a,len,cap,elems,rest,m,rfl,rfl,_,_,h2,h3,h4,h5,_,_⟩
 ·exact ⟨[],⟨Nat.zero_le _,by simp⟩,DR.nil _ _ _ (fun _=>rfl) (Nat.zero_le _),trivial⟩
 ·rw [hc] at h5
  obtain ⟨xs,hxl,hxs⟩:=listOf (P:=fun i (y:α)=>good y/\∃ cs', w.cells? base (a.add (i*k)) k=some cs'/\zba (DR (all w)) (f y) cs') len fun i hi=>by
   have h6:=h5 i hi
   rw [List.getElem?_eq_getElem (by omega)] at h6
   obtain ⟨cs', g1,g2⟩:=Option.bind_eq_some_iff.1 h6
   obtain ⟨y,g3,g4⟩:=he H enc base spare held m cs' _ (by omega) g2
   exact ⟨y,g3,cs', g1,g4⟩
  refine ⟨xs,⟨by omega,fun y hy=>?_⟩,?_,trivial⟩
  ·obtain ⟨i,hi⟩:=List.mem_iff_getElem?.1 hy
   exact (hxs i y hi).1
  ·show DR (all w) (.sl k (xs.map f)) _
   rcases Nat.eq_zero_or_pos len with h0 | h0
   ·subst h0
    have:xs=[]:=List.length_eq_zero_iff.1 hxl
    subst this
    exact DR.nil _ _ _ (fun e=>by cases e) h3
   ·have cells:∀ i y,xs[i]?=some y->∀ j,j<k->∃ v d,w.cell? ((a.add (i*k)).add j)=some v/\(f y)[j]?=some d/\DR (all w) d v:=fun i y hy j hj=>by
     obtain ⟨_,cs', g1,g2⟩:=hxs i y hy
     obtain ⟨_,g4,g5⟩:=World.cells?_some g1
     obtain ⟨v,g6,g7⟩:=g2.get j (by rw [hl];exact hj)
     exact ⟨v,_,by rw [g5 j hj];exact g6,List.getElem?_eq_getElem (by rw [hl];exact hj),g7⟩
    obtain ⟨y0,hy0⟩:∃ y,xs[0]?=some y:=⟨_,List.getElem?_eq_getElem (by omega)⟩
    obtain ⟨v0,_,c0,_,_⟩:=cells 0 y0 hy0 0 hk
    obtain ⟨b,o,sp⟩:=a
    have hsp:sp=none:=by
     have:=World.cell?_spot c0
     simpa [Addr.add] using this
    subst hsp
    have c0':w.cell? ⟨b,o,none⟩=some v0:=by simpa [Addr.add_mid] using c0
    obtain ⟨arr,ty,fz,hb,_⟩:=cell_at c0'
    have at_:∀ i y,xs[i]?=some y->∀ j,j<k->∃ v d,arr[o+i*k+j]?=some v/\(f y)[j]?=some d/\DR (all w) d v:=fun i y hy j hj=>by
     obtain ⟨v,d,g1,g2,g3⟩:=cells i y hy j hj
     rw [Addr.add_mid,Addr.add_mid] at g1
     obtain ⟨arr', ty', fz', hb', g4⟩:=cell_at g1
     rw [hb] at hb'
     injection hb' with hb'
     injection hb' with e1
     subst e1
     exact ⟨v,d,g4,g2,g3⟩
    have:=DR.sl (H:=all w) k (xs.map f) b o cap arr ty fz (fun i j=>(arr[o+i*k+j]?).getD v0) (by rw [List.length_map];omega) hb (by rw [List.length_map];omega) h3 (fun i hi=>by rw [List.getElem_map];exact hl _)
     (fun i hi j hj=>by
      have hi':i<xs.length:=by simpa using hi
      obtain ⟨v,d,g1,_,_⟩:=at_ i xs[i] (List.getElem?_eq_getElem hi') j hj
      rw [g1];rfl)
     (fun i hi j hj=>by
      have hi':i<xs.length:=by simpa using hi
      have hj':j<k:=by rw [List.getElem_map,hl] at hj;exact hj
      obtain ⟨v,d,g1,g2,g3⟩:=at_ i xs[i] (List.getElem?_eq_getElem hi') j hj'
      have e1:((xs.map f)[i])[j]?=some d:=by rw [List.getElem_map];exact g2
      rw [List.getElem?_eq_getElem hj] at e1
      injection e1 with e1
      rw [e1,g1];exact g3)
    rwa [List.length_map,hxl] at this
def FsN (w:World) (n:Nat) (fs:List Field) (o k:Nat) {α:Type} (f:α->List D) (good:α->Prop):Prop :=
  ∀ (H:Type) (enc:TypeId × Value->H) (base:Nat) (spare:Nat->Bool) (held:Bool) (cs:List Value),(∀ fl ∈ fs,∃ m x,m<=n/\DataW.trod enc Tryz.prog w base spare held m fl.type ((cs.drop fl.offset).take (Tryz.prog.cellsOf fl.type))=some x)->o+k=cs.length->∃ a:α,good a/\zba (DR (all w)) (f a) (cs.drop o)
theorem FsN.nil {o:Nat}:FsN w n [] o 0 (fun _:Unit=>[]) (fun _=>True):=fun H enc base spare held cs _ hl=>⟨(),trivial,by rw [List.drop_of_length_le (by omega)];trivial⟩
theorem FsN.cons {fl:Field} {fs:List Field} {o k0 k1:Nat} {f1:β->List D} {good1:β->Prop} (ho:fl.offset=o) (hc:Tryz.prog.cellsOf fl.type=k0) (h0:zeb w n fl.type f good) (h1:FsN w n fs (o+k0) k1 f1 good1) :
  FsN w n (fl :: fs) o (k0+k1) (fun p:α × β=>f p.1++f1 p.2) (fun p=>good p.1/\good1 p.2):=fun H enc base spare held cs hf hl=>by
 obtain ⟨m,x,hm,hx⟩:=hf fl (by simp)
 rw [ho,hc] at hx
 obtain ⟨a,g1,g2⟩:=h0 H enc base spare held m _ x hm hx
 obtain ⟨b,g3,g4⟩:=h1 H enc base spare held cs (fun fl' h'=>hf fl' (by simp [h'])) (by omega)
 refine ⟨(a,b),⟨g1,g3⟩,?_⟩
 have e:cs.drop o=(cs.drop o).take k0++cs.drop (o+k0):=by rw [<- List.drop_drop,List.take_append_drop]
 rw [e]
 exact g2.append g4
theorem zc8 {k:Nat} {fs:Array Field} (hu:Tryz.prog.underlying t=some (.struct fs)) (hc:Tryz.prog.cellsOf t=k) (h:FsN w n fs.toList 0 k f good):zeb w (n+1) t f good:=fun H enc base spare held fuel cs x hn hx=>by
 obtain ⟨xs,m,rfl,_,h2,h3,h4⟩:=DataW.trod_struct hu hx
 obtain ⟨a,g1,g2⟩:=h H enc base spare held cs (fun fl hfl=>by
  obtain ⟨i,hi⟩:=List.mem_iff_getElem?.1 hfl
  have hi':fs[i]?=some fl:=by simpa using hi
  have:=h4 i fl hi'
  have hlt:i<xs.length:=by rw [h3];exact (Array.getElem?_eq_some_iff.1 hi').1
  rw [List.getElem?_eq_getElem hlt] at this
  exact ⟨m,_,by omega,this⟩) (by rw [h2,hc];omega)
 exact ⟨a,g1,by simpa using g2⟩
/-- a struct that came in -/
theorem rep_agg {fs:Array Field} (hu:Tryz.prog.underlying t=some (.struct fs)) (hr:∀ n,zeb w n t f good) {H:Type} {enc:TypeId × Value->H} {base:Nat} {spare:Nat->Bool} {held:Bool} {r:Reach} {b0:Nat} {v:Value} {d:DataW H} {p:List MemPlace} (hv:Value.okWide Tryz.prog w r b0 t v) (h:DataW.Trod enc Tryz.prog w base spare held t v d p) :
  ∃ (a:α) (cs:List Value),good a/\v = .agg ⟨cs⟩/\zba (DR (all w)) (f a) cs:=by
 obtain ⟨cs,rfl,_⟩:=okWide_struct hu hv
 obtain ⟨fuel,hf⟩:=h
 obtain ⟨a,g1,g2⟩:=hr fuel H enc base spare held fuel _ _ (Nat.le_refl _) hf
 exact ⟨a,cs.toList,g1,rfl,g2⟩
/-- a slice that came in -/
theorem rep_one {e:TypeId} {g:α->D} (hu:Tryz.prog.underlying t=some (.slice e)) (hr:∀ n,zeb w n t (fun a=>[g a]) good) {H:Type} {enc:TypeId × Value->H} {base:Nat} {spare:Nat->Bool} {held:Bool} {r:Reach} {b0:Nat} {v:Value} {d:DataW H} {p:List MemPlace} (hv:Value.okWide Tryz.prog w r b0 t v) (h:DataW.Trod enc Tryz.prog w base spare held t v d p) :
  ∃ (a:α) (ao:Option Addr) (len cap:Nat),good a/\v = .slice ao len cap/\DR (all w) (g a) v:=by
 obtain ⟨ao,len,cap,rfl⟩:=okWide_slice hu hv
 obtain ⟨fuel,hf⟩:=h
 obtain ⟨a,g1,g2⟩:=hr fuel H enc base spare held fuel _ _ (Nat.le_refl _) hf
 exact ⟨a,ao,len,cap,g1,rfl,g2.1⟩
theorem dr_vd {l:List D} {cs:List Value} (h:zba (DR (all w)) l cs) (B:Bl):VR (all w) B (vd l) (.agg ⟨cs⟩):=by
 refine ⟨cs,rfl,zba.iff.2 ⟨by simpa using h.length,fun j a b ha hb=>?_⟩⟩
 rw [List.getElem?_map] at ha
 cases hj:l[j]? with
 | none=>rw [hj] at ha;cases ha
 | some d =>
  rw [hj] at ha
  injection ha with ha
  subst ha
  exact (zba.iff.1 h).2 j d b hj hb
end
theorem Fn.calls {k:FuncId} {args:List V} {vals:List Value} {w:World} (h:Fn Tryz.prog k [] args (vb true) []) (ha:∀ B,zba (VR (all w) B) args vals) (ht:TabH (all w):=by exact trivial):Calls Tryz.prog k ⟨vals⟩ w (GotP (.bool true) w):=by
 refine (h w (all w) (fun _=>none) vals ⟨fun b o hb=>hb,fun p hp=>(by cases hp),fun p hp=>(by cases hp),fun p hp=>(by cases hp),ha _,ht⟩).mono ?_
 rintro en w' ⟨v,H', B', rfl,post⟩
 have:=VR.rawI post.res
 subst this
 exact ⟨rfl,post.ext.os,post.ext.tape,post.ext.output,post.ext.size,fun b hb=>post.ext.block b hb (by rintro ⟨p,hp,_⟩;cases hp)⟩
/-! the types of numbers and terms -/
section
variable {w:World} {n:Nat}
theorem rep_Nat:zeb w n 26 (fun zs=>[nsl zs]) Lb :=
 (zcm (k:=1) (f:=fun v:Nat=>[D.raw (.int .u32 (v:Int))]) Tryz.underlying26 (by kernel_rfl) (by decide) (fun _=>rfl) (rep_u32 Tryz.underlying142)).map id (fun _=>rfl) fun zs h z hz=>h.2 z hz
theorem rep_ZI:zeb w n 28 ziD (fun x=>Lb x.abs) :=
 ((zc8 (n:=n) Tryz.underlying28 (by kernel_rfl) (.cons (k0:=1) rfl (by kernel_rfl) (zfy Tryz.underlying4) (.cons (k0:=1) rfl (by kernel_rfl) rep_Nat .nil))).map (fun p=>⟨p.1,p.2.1⟩) (fun _=>rfl) fun _ h=>h.2.1).mono (Nat.le_succ n)
theorem rep_Part:zeb w n 132 zbr.d (fun p=>Lb p.c.abs) :=
 ((zc8 (n:=n) Tryz.underlying132 (by kernel_rfl) (.cons (k0:=1) rfl (by kernel_rfl) (zew Tryz.underlying3) (.cons (k0:=2) rfl (by kernel_rfl) rep_ZI .nil))).map (fun p=>⟨p.1,p.2.1⟩) (fun _=>rfl) fun _ h=>h.2.1).mono (Nat.le_succ n)
def TLb (t:zgm):Prop:=Lb t.k.abs/\∀ p ∈ t.parts,Lb p.c.abs
theorem rep_Parts:zeb w n 24 (slD 3 zbr.d) (fun ps=>ps.length<=maxLen/\∀ p ∈ ps,Lb p.c.abs) :=
 zcm (k:=3) Tryz.underlying24 (by kernel_rfl) (by decide) (fun _=>rfl) rep_Part
theorem rep_Term:zeb w n 30 zgm.d TLb :=
 ((zc8 (n:=n) Tryz.underlying30 (by kernel_rfl) (.cons (k0:=1) rfl (by kernel_rfl) rep_Parts (.cons (k0:=2) rfl (by kernel_rfl) rep_ZI .nil))).map (fun p=>⟨p.1,p.2.1⟩) (fun _=>rfl) fun _ h=>⟨h.2.1,h.1.2⟩).mono (Nat.le_succ n)
theorem zie:zeb w n 44 (slD 1 zad) (fun xs=>xs.length<=maxLen/\∀ x ∈ xs,-9223372036854775808<=x/\x<=9223372036854775807) :=
 zcm (k:=1) Tryz.underlying44 (by kernel_rfl) (by decide) (fun _=>rfl) (zew Tryz.underlying3)
end
end
end S
set_option maxHeartbeats 1000000 in
theorem From_any (s:Bool) (ao:Option Addr) (n c:Nat) (zs:List Nat) (w:World) (hn:n=zs.length) (h:Rd w ao c zs) (hl:zs.length<=400000) :
  Calls Tryz.prog 87 #[.bool s,.slice ao n c] w (GotZ w (iv s zs) zs.length):=by
 subst hn
 cases s
 ·go_enter Tryz.func87,Tryz.ntmps87
  go_wp2_with fail
  refine (TrimM _ _ _ zs _ rfl (h.ext ((Ext.refl _).alloc _)) (by first | omega | (simp;done) | (simp;omega))).mono ?_
  rintro e w1 ⟨r1a,r1c,r1z,r1B,rfl,r1b,r1o,r1k,r1v,r1l,xx⟩
  try simp at r1b
  try simp only [List.length_cons,List.length_nil] at r1l
  have hE:Ext w w1:=Ext.trans ((Ext.refl _).alloc _) xx
  have hz1:w.heap.size+1<=w1.heap.size:=(by have hq:=Ext.size xx;(try simp at hq);omega)
  have hb0:w.heap.size<w1.heap.size:=(by omega)
  have fq0_0:=Ext.free (p:=⟨w.heap.size,0,none⟩) (v:=.bool false) xx (by first | exact True | go_simp | (repeat (first | assumption | (refine (World.cell?_setCell_far _ _ _ _ (by simp <;> omega)).trans ?_) | (refine (World.cell?_alloc_lt _ _ _ (World.block_lt_of_cell? _ _ (by assumption))).trans ?_) | go_simp))) (by first | assumption | go_simp)
  have q0_0:=Ext.cell (p:=⟨w.heap.size,0,none⟩) (v:=.bool false) xx (by first | exact True | go_simp | (repeat (first | assumption | (refine (World.cell?_setCell_far _ _ _ _ (by simp <;> omega)).trans ?_) | (refine (World.cell?_alloc_lt _ _ _ (World.block_lt_of_cell? _ _ (by assumption))).trans ?_) | go_simp)))
  have fq0_1:=Ext.free (p:=⟨w.heap.size,1,none⟩) (v:=.slice none 0 0) xx (by first | exact True | go_simp | (repeat (first | assumption | (refine (World.cell?_setCell_far _ _ _ _ (by simp <;> omega)).trans ?_) | (refine (World.cell?_alloc_lt _ _ _ (World.block_lt_of_cell? _ _ (by assumption))).trans ?_) | go_simp))) (by first | assumption | go_simp)
  have q0_1:=Ext.cell (p:=⟨w.heap.size,1,none⟩) (v:=.slice none 0 0) xx (by first | exact True | go_simp | (repeat (first | assumption | (refine (World.cell?_setCell_far _ _ _ _ (by simp <;> omega)).trans ?_) | (refine (World.cell?_alloc_lt _ _ _ (World.block_lt_of_cell? _ _ (by assumption))).trans ?_) | go_simp)))
  clear xx
  go_wp2_with fail
  refine bodyPost_ret (v:=.agg #[.bool false,.slice r1a r1z.length r1c]) (by simp [results,Tryz.results87,go_sem,q0_0,q0_1]) rfl ?_
  exact ⟨false,r1a,r1c,r1z,r1B,rfl,(by omega),(Own.st (Own.st r1o (b:=w.heap.size) (by omega) _ _) (b:=w.heap.size) (by omega) _ _),(CanZ.pos r1k.out),(by unfold Hid;rw [zcp,zcp,r1v.out]),(by first | omega | (simp;done) | (simp;omega)),(Ext.st (Ext.st hE (b:=w.heap.size) (by omega) _ _) (b:=w.heap.size) (by omega) _ _)⟩
 ·go_enter Tryz.func87,Tryz.ntmps87
  go_wp2_with fail
  refine (TrimM _ _ _ zs _ rfl (h.ext ((Ext.refl _).alloc _)) (by first | omega | (simp;done) | (simp;omega))).mono ?_
  rintro e w1 ⟨r1a,r1c,r1z,r1B,rfl,r1b,r1o,r1k,r1v,r1l,xx⟩
  try simp at r1b
  try simp only [List.length_cons,List.length_nil] at r1l
  have hE:Ext w w1:=Ext.trans ((Ext.refl _).alloc _) xx
  have hz1:w.heap.size+1<=w1.heap.size:=(by have hq:=Ext.size xx;(try simp at hq);omega)
  have hb0:w.heap.size<w1.heap.size:=(by omega)
  have fq0_0:=Ext.free (p:=⟨w.heap.size,0,none⟩) (v:=.bool false) xx (by first | exact True | go_simp | (repeat (first | assumption | (refine (World.cell?_setCell_far _ _ _ _ (by simp <;> omega)).trans ?_) | (refine (World.cell?_alloc_lt _ _ _ (World.block_lt_of_cell? _ _ (by assumption))).trans ?_) | go_simp))) (by first | assumption | go_simp)
  have q0_0:=Ext.cell (p:=⟨w.heap.size,0,none⟩) (v:=.bool false) xx (by first | exact True | go_simp | (repeat (first | assumption | (refine (World.cell?_setCell_far _ _ _ _ (by simp <;> omega)).trans ?_) | (refine (World.cell?_alloc_lt _ _ _ (World.block_lt_of_cell? _ _ (by assumption))).trans ?_) | go_simp)))
  have fq0_1:=Ext.free (p:=⟨w.heap.size,1,none⟩) (v:=.slice none 0 0) xx (by first | exact True | go_simp | (repeat (first | assumption | (refine (World.cell?_setCell_far _ _ _ _ (by simp <;> omega)).trans ?_) | (refine (World.cell?_alloc_lt _ _ _ (World.block_lt_of_cell? _ _ (by assumption))).trans ?_) | go_simp))) (by first | assumption | go_simp)
  have q0_1:=Ext.cell (p:=⟨w.heap.size,1,none⟩) (v:=.slice none 0 0) xx (by first | exact True | go_simp | (repeat (first | assumption | (refine (World.cell?_setCell_far _ _ _ _ (by simp <;> omega)).trans ?_) | (refine (World.cell?_alloc_lt _ _ _ (World.block_lt_of_cell? _ _ (by assumption))).trans ?_) | go_simp)))
  clear xx
  rcases Nat.eq_zero_or_pos r1z.length with h0 | hp
  ·have e0:r1z=[]:=List.length_eq_zero_iff.1 h0
   subst e0
   clear h0
   go_wp2_with fail
   refine bodyPost_ret (v:=.agg #[.bool false,.slice r1a 0 r1c]) (by simp [results,Tryz.results87,go_sem,q0_0,q0_1]) rfl ?_
   exact ⟨false,r1a,r1c,[],r1B,rfl,(by omega),(Own.st (Own.st r1o (b:=w.heap.size) (by omega) _ _) (b:=w.heap.size) (by omega) _ _),(CanZ.pos r1k.out),(by unfold Hid;rw [zcp,zd1,<- r1v.out];rfl),(by first | omega | (simp;done) | (simp;omega)),(Ext.st (Ext.st hE (b:=w.heap.size) (by omega) _ _) (b:=w.heap.size) (by omega) _ _)⟩
  ·have hp1:decide (0<r1z.length)=true:=decide_eq_true hp
   go_wp2_with fail
   refine bodyPost_ret (v:=.agg #[.bool true,.slice r1a r1z.length r1c]) (by simp [results,Tryz.results87,go_sem,q0_0,q0_1]) rfl ?_
   exact ⟨true,r1a,r1c,r1z,r1B,rfl,(by omega),(Own.st (Own.st r1o (b:=w.heap.size) (by omega) _ _) (b:=w.heap.size) (by omega) _ _),(CanZ.neg r1k.out hp _),(by unfold Hid;rw [zd1,zd1,r1v.out]),(by first | omega | (simp;done) | (simp;omega)),(Ext.st (Ext.st hE (b:=w.heap.size) (by omega) _ _) (b:=w.heap.size) (by omega) _ _)⟩
set_option maxHeartbeats 1000000 in
theorem clean_any (s:Bool) (ao:Option Addr) (n c:Nat) (zs:List Nat) (w:World) (hn:n=zs.length) (h:Rd w ao c zs) (hl:zs.length<=400000) :
  Calls Tryz.prog 111 #[.agg #[.bool s,.slice ao n c]] w (GotZ w (iv s zs) zs.length):=by
 subst hn
 go_enter Tryz.func111,Tryz.ntmps111
 go_wp2_with fail
 refine (From_any s _ _ _ zs _ rfl (h.ext (((Ext.refl _).alloc _).alloc _)) (by first | omega | (simp;done) | (simp;omega))).mono ?_
 rintro e w1 ⟨r1s,r1a,r1c,r1z,r1B,rfl,r1b,r1o,r1k,r1v,r1l,xx⟩
 try simp at r1b
 try simp only [List.length_cons,List.length_nil] at r1l
 have hE:Ext w w1:=Ext.trans (((Ext.refl _).alloc _).alloc _) xx
 have hz1:w.heap.size+2<=w1.heap.size:=(by have hq:=Ext.size xx;(try simp at hq);omega)
 have hb1:w.heap.size+1<w1.heap.size:=(by omega)
 have fq1_0:=Ext.free (p:=⟨w.heap.size+1,0,none⟩) (v:=.bool false) xx (by first | exact True | go_simp | (repeat (first | assumption | (refine (World.cell?_setCell_far _ _ _ _ (by simp <;> omega)).trans ?_) | (refine (World.cell?_alloc_lt _ _ _ (World.block_lt_of_cell? _ _ (by assumption))).trans ?_) | go_simp))) (by first | assumption | go_simp)
 have q1_0:=Ext.cell (p:=⟨w.heap.size+1,0,none⟩) (v:=.bool false) xx (by first | exact True | go_simp | (repeat (first | assumption | (refine (World.cell?_setCell_far _ _ _ _ (by simp <;> omega)).trans ?_) | (refine (World.cell?_alloc_lt _ _ _ (World.block_lt_of_cell? _ _ (by assumption))).trans ?_) | go_simp)))
 have fq1_1:=Ext.free (p:=⟨w.heap.size+1,1,none⟩) (v:=.slice none 0 0) xx (by first | exact True | go_simp | (repeat (first | assumption | (refine (World.cell?_setCell_far _ _ _ _ (by simp <;> omega)).trans ?_) | (refine (World.cell?_alloc_lt _ _ _ (World.block_lt_of_cell? _ _ (by assumption))).trans ?_) | go_simp))) (by first | assumption | go_simp)
 have q1_1:=Ext.cell (p:=⟨w.heap.size+1,1,none⟩) (v:=.slice none 0 0) xx (by first | exact True | go_simp | (repeat (first | assumption | (refine (World.cell?_setCell_far _ _ _ _ (by simp <;> omega)).trans ?_) | (refine (World.cell?_alloc_lt _ _ _ (World.block_lt_of_cell? _ _ (by assumption))).trans ?_) | go_simp)))
 clear xx
 go_wp2_with fail
 refine bodyPost_ret (v:=.agg #[.bool r1s,.slice r1a r1z.length r1c]) (by simp [results,Tryz.results111,go_sem,q1_0,q1_1]) rfl ?_
 exact ⟨r1s,r1a,r1c,r1z,r1B,rfl,(by omega),(Own.st (Own.st r1o (b:=w.heap.size+1) (by omega) _ _) (b:=w.heap.size+1) (by omega) _ _),r1k,r1v,(by first | omega | (simp;done) | (simp;omega)),(Ext.st (Ext.st hE (b:=w.heap.size+1) (by omega) _ _) (b:=w.heap.size+1) (by omega) _ _)⟩
theorem RCmpP (ao:Option Addr) (n c:Nat) (xs:List Nat) (bo:Option Addr) (m d:Nat) (ys:List Nat) (w:World) (g:Int) (hn:n=xs.length) (hm:m=ys.length) (ha:Rd w ao c xs) (hb:Rd w bo d ys) (hg:zh2 (nV xs) (nV ys)=g) :
  Calls Tryz.prog 121 #[.slice ao n c,.slice bo m d] w (GotP (.int .i64 g) w) :=
 (RCmp_any ao n c xs bo m d ys w hn hm ha hb).mono fun _ _ ⟨he,hq⟩=>⟨by rw [he,hg],hq ▸ Ext.refl _⟩
set_option maxHeartbeats 1000000 in
theorem RSign_any (s:Bool) (ao:Option Addr) (n c:Nat) (zs:List Nat) (w:World) (g:Int) (hn:n=zs.length) (h:Rd w ao c zs) (hl:zs.length<=300000) (hg:sgn (iv s zs)=g) :
  Calls Tryz.prog 71 #[.agg #[.bool s,.slice ao n c]] w (GotP (.int .i64 g) w):=by
 subst hn
 replace hg:=Lib.hid hg
 go_enter Tryz.func71,Tryz.ntmps71
 go_wp2_with fail
 refine (RTrimM _ _ _ zs _ rfl (h.ext ((Ext.refl _).alloc _)) (by first | omega | (simp;done) | (simp;omega))).mono ?_
 rintro e w1 ⟨r1a,r1c,r1z,r1B,rfl,r1b,r1o,r1k,r1v,r1l,xx⟩
 try simp at r1b
 try simp only [List.length_cons,List.length_nil] at r1l
 have hE:Ext w w1:=Ext.trans ((Ext.refl _).alloc _) xx
 have hz1:w.heap.size+1<=w1.heap.size:=(by have hq:=Ext.size xx;(try simp at hq);omega)
 have hb0:w.heap.size<w1.heap.size:=(by omega)
 have q0_0:=Ext.cell (p:=⟨w.heap.size,0,none⟩) (v:=.bool s) xx (by first | exact True | go_simp | (repeat (first | assumption | (refine (World.cell?_setCell_far _ _ _ _ (by simp <;> omega)).trans ?_) | (refine (World.cell?_alloc_lt _ _ _ (World.block_lt_of_cell? _ _ (by assumption))).trans ?_) | go_simp)))
 clear xx
 rcases Nat.eq_zero_or_pos r1z.length with h0 | hp
 ·have e0:r1z=[]:=List.length_eq_zero_iff.1 h0
  subst e0
  clear h0
  go_wp2_with fail
  go_ret
  exact ⟨by rw [<- hg.out,zgr (by have e:=r1v.out;unfold iv;rw [<- e];cases s <;> rfl)];rfl,hE⟩
 ·have hp1:((r1z.length:Int) == 0)=false:=beq_eq_false_iff_ne.2 (by omega)
  have hv:Hid (0<nV zs):=by
   have:=zg3 r1k.out hp;have:=zen (r1z.length - 1);have:=r1v.out;unfold Hid;omega
  cases s
  ·go_wp2_with fail
   go_ret
   exact ⟨by rw [<- hg.out,sgn_pos (by have:=hv.out;unfold iv;simp;omega)];rfl,hE⟩
  ·go_wp2_with fail
   go_ret
   exact ⟨by rw [<- hg.out,zgc (by have:=hv.out;unfold iv;simp;omega)];rfl,hE⟩
theorem zgs {x y:Int} (hx:-1<=x/\x<=1) (hy:-1<=y/\y<=1):-1<=x*y/\x*y<=1:=by
 have h1:x=-1\/x=0\/x=1:=by omega
 rcases h1 with rfl | rfl | rfl <;> omega
theorem val_two (x:Nat):nV [x % 4294967296,x / 4294967296]=x:=by simp only [nV];omega
def zbt (z:Int):Int × Bool:=if -9223372036854775808<=z/\z<=9223372036854775807 then (z,true) else (0,false)
theorem or_join2 (R x:Nat) (hR:R<4294967296) (hx:x<4294967296):bits BinOp.or .u64 (x:Int) ((R:Int)*4294967296)=((x+4294967296*R:Nat):Int):=by
 have e:((R:Int)*4294967296)=((R*4294967296:Nat):Int):=by rw [Int.natCast_mul];rfl
 rw [e,bits_or_u64_nat _ _ (by omega) (by omega)]
 have h:=Nat.two_pow_add_eq_or_of_lt (i:=32) (b:=x) (by omega) R
 rw [Nat.or_comm,Nat.mul_comm R,show (4294967296:Nat)=2 ^ 32 from rfl,<- h]
 omega
theorem wrap_mul32 (x:Nat) (hx:x<4294967296):IntKind.u64.wrap (IntKind.u64.wrap (x:Int)*4294967296)=(x:Int)*4294967296:=by
 rw [IntKind.wrap_u64,IntKind.wrap_u64];omega
theorem zfi {z x:Int} (hz:z=x) (h1:-9223372036854775808<=x) (h2:x<=9223372036854775807):zbt z=(x,true):=by
 subst hz;unfold zbt;rw [if_pos ⟨h1,h2⟩]
theorem zfw {z:Int} (h:z< -9223372036854775808\/9223372036854775807<z):zbt z=(0,false):=by
 unfold zbt;rw [if_neg (by omega)]
theorem zcl {z:Int} {p q:Int × Bool} (h:zbt z=p) (k:zbt z=q):p=q:=h.symm.trans k
theorem or_zero (x:Nat) (hx:x<4294967296):bits BinOp.or .u64 0 (x:Int)=(x:Int):=by
 have:=or_join2 0 0 (by omega) (by omega)
 have h2:=bits_or_u64_nat 0 x (by omega) (by omega)
 rw [Nat.zero_or] at h2
 exact h2
set_option maxHeartbeats 2000000 in
theorem ZSmall_any (s:Bool) (ao:Option Addr) (n c:Nat) (zs:List Nat) (w:World) (v:Int) (ok:Bool) (hn:n=zs.length) (h:Rd w ao c zs) (hl:zs.length<=300000) (hg:zbt (iv s zs)=(v,ok)) :
  Calls Tryz.prog 62 #[.agg #[.bool s,.slice ao n c]] w (GotP (.tuple #[.int .i64 v,.bool ok]) w):=by
 subst hn
 replace hg:=Lib.hid hg
 go_enter Tryz.func62,Tryz.ntmps62
 go_wp2_with fail
 refine (clean_any s _ _ _ zs _ rfl (h.ext ((Ext.refl _).alloc _)) (by first | omega | (simp;done) | (simp;omega))).mono ?_
 rintro e w1 ⟨r1s,r1a,r1c,r1z,r1B,rfl,r1b,r1o,r1k,r1v,r1l,xx⟩
 try simp at r1b
 try simp only [List.length_cons,List.length_nil] at r1l
 have hE:Ext w w1:=Ext.trans ((Ext.refl _).alloc _) xx
 have hz1:w.heap.size+1<=w1.heap.size:=(by have hq:=Ext.size xx;(try simp at hq);omega)
 have hb0:w.heap.size<w1.heap.size:=(by omega)
 have fq0_0:=Ext.free (p:=⟨w.heap.size,0,none⟩) (v:=.bool s) xx (by first | exact True | go_simp | (repeat (first | assumption | (refine (World.cell?_setCell_far _ _ _ _ (by simp <;> omega)).trans ?_) | (refine (World.cell?_alloc_lt _ _ _ (World.block_lt_of_cell? _ _ (by assumption))).trans ?_) | go_simp))) (by first | assumption | go_simp)
 have q0_0:=Ext.cell (p:=⟨w.heap.size,0,none⟩) (v:=.bool s) xx (by first | exact True | go_simp | (repeat (first | assumption | (refine (World.cell?_setCell_far _ _ _ _ (by simp <;> omega)).trans ?_) | (refine (World.cell?_alloc_lt _ _ _ (World.block_lt_of_cell? _ _ (by assumption))).trans ?_) | go_simp)))
 have fq0_1:=Ext.free (p:=⟨w.heap.size,1,none⟩) (v:=.slice ao zs.length c) xx (by first | exact True | go_simp | (repeat (first | assumption | (refine (World.cell?_setCell_far _ _ _ _ (by simp <;> omega)).trans ?_) | (refine (World.cell?_alloc_lt _ _ _ (World.block_lt_of_cell? _ _ (by assumption))).trans ?_) | go_simp))) (by first | assumption | go_simp)
 have q0_1:=Ext.cell (p:=⟨w.heap.size,1,none⟩) (v:=.slice ao zs.length c) xx (by first | exact True | go_simp | (repeat (first | assumption | (refine (World.cell?_setCell_far _ _ _ _ (by simp <;> omega)).trans ?_) | (refine (World.cell?_alloc_lt _ _ _ (World.block_lt_of_cell? _ _ (by assumption))).trans ?_) | go_simp)))
 clear xx
 by_cases h2:2<r1z.length
 ·have hr:Hid ((v,ok)=(0,false)):=zcl hg.out (zfw (by
   have h3:=zg3 r1k.out.1 (by omega)
   have h4:pw 2<=pw (r1z.length - 1):=zfa (by omega)
   have h5:pw 2=18446744073709551616:=rfl
   have h6:=zf6 r1s r1z
   rw [r1v.out] at h6
   omega))
  go_wp2_with fail
  go_ret2
  exact ⟨by rw [(Prod.mk.inj hr.out).1,(Prod.mk.inj hr.out).2];rfl,(Ext.st (Ext.st hE (b:=w.heap.size) (by omega) _ _) (b:=w.heap.size) (by omega) _ _)⟩
 ·have hrd:=(Own.st (Own.st r1o (b:=w.heap.size) (by omega) 0 (.bool r1s)) (b:=w.heap.size) (by omega) 1 (.slice r1a r1z.length r1c)).rd
  go_wp2_with fail
  trace_state
  go_loop [4,16] (fun n i=>∃ k:Nat,k<=r1z.length/\i = .int .i64 k/\n = .int .u64 (vk r1z k)) (fun _ i=>(r1z.length - intOf i).toNat)
  case atStart=>exact ⟨0,Nat.zero_le _,rfl,by rw [zd7];rfl⟩
  case round =>
   obtain ⟨k,hk,rfl,rfl⟩:=hrel
   by_cases hkA:k<r1z.length
   ·have hx:=hrd.cell k hkA
    have bx:=zcu r1k.out.1.1 k
    rcases k with _ | _ | k
    ·rw [zd7]
     have hix:=ixe hrd r1z.length rfl 0 0 rfl hkA
     simp only [Nat.add_zero] at hix hx
     go_wp2_with fail
     exact ⟨⟨1,by omega,rfl,by rw [or_zero _ bx,zcr,zd7];simp [pw_zero]⟩,by simp [intOf];omega⟩
    ·have hix:=ixe hrd r1z.length rfl 1 1 rfl hkA
     have b0:=zcu r1k.out.1.1 0
     go_wp2_with fail
     refine ⟨⟨2,by omega,rfl,?_⟩,by simp [intOf];omega⟩
     have e:vk r1z 1=lim r1z 0:=by rw [zcr,zd7];simp [pw_zero]
     rw [wrap_mul32 _ bx,e,or_join2 _ _ bx b0]
     have e2:vk r1z 2=lim r1z 0+4294967296*lim r1z 1:=by rw [zcr,e];rfl
     rw [e2]
    ·omega
   ·have hke:r1z.length=k:=by omega
    have hval:vk r1z k=nV r1z:=zcw (by omega)
    obtain ⟨V,hV⟩:∃ V,nV r1z=V:=⟨_,rfl⟩
    rw [hval,hV]
    have hVb:V<18446744073709551616:=by
     rw [<- hV]
     exact Nat.lt_of_lt_of_le (zc7 r1k.out.1.1) (show pw r1z.length<=pw 2 from zfa (by omega))
    have hZ:Hid (iv s zs=if r1s then -(V:Int) else (V:Int)):=by unfold Hid;rw [<- r1v.out];unfold iv;rw [hV]
    clear hval hV
    cases r1s
    ·have hZ1:Hid (iv s zs=(V:Int)):=hZ.out
     by_cases hbig:9223372036854775807<V
     ·go_wp2_with fail
      go_ret2
      exact ⟨by have hr:=zcl hg.out (zfw (by rw [hZ1.out];omega));rw [(Prod.mk.inj hr).1,(Prod.mk.inj hr).2];rfl,(Ext.st (Ext.st hE (b:=w.heap.size) (by omega) _ _) (b:=w.heap.size) (by omega) _ _)⟩
     ·go_wp2_with fail
      go_ret2
      exact ⟨by have hr:=zcl hg.out (zfi hZ1.out (by omega) (by omega));rw [(Prod.mk.inj hr).1,(Prod.mk.inj hr).2];rfl,(Ext.st (Ext.st hE (b:=w.heap.size) (by omega) _ _) (b:=w.heap.size) (by omega) _ _)⟩
    ·have hZ1:Hid (iv s zs=-(V:Int)):=hZ.out
     by_cases hmin:V=9223372036854775808
     ·have hr:Hid ((v,ok)=(-9223372036854775808,true)):=zcl hg.out (zfi (by rw [hZ1.out,hmin];rfl) (by omega) (by omega))
      have hmb:((V:Int) == 9223372036854775808)=true:=beq_iff_eq.2 (by omega)
      clear hmin
      go_wp2_with fail
      go_ret2
      exact ⟨by rw [(Prod.mk.inj hr.out).1,(Prod.mk.inj hr.out).2];rfl,(Ext.st (Ext.st hE (b:=w.heap.size) (by omega) _ _) (b:=w.heap.size) (by omega) _ _)⟩
     ·have hmb:((V:Int) == 9223372036854775808)=false:=beq_eq_false_iff_ne.2 (by omega)
      by_cases hbig:9223372036854775807<V
      ·go_wp2_with fail
       go_ret2
       exact ⟨by have hr:=zcl hg.out (zfw (by rw [hZ1.out];omega));rw [(Prod.mk.inj hr).1,(Prod.mk.inj hr).2];rfl,(Ext.st (Ext.st hE (b:=w.heap.size) (by omega) _ _) (b:=w.heap.size) (by omega) _ _)⟩
      ·go_wp2_with fail
       go_ret2
       exact ⟨by have hr:=zcl hg.out (zfi hZ1.out (by omega) (by omega));rw [(Prod.mk.inj hr).1,(Prod.mk.inj hr).2];rfl,(Ext.st (Ext.st hE (b:=w.heap.size) (by omega) _ _) (b:=w.heap.size) (by omega) _ _)⟩
def SmallR (w:World) (s:Bool) (ao:Option Addr) (c:Nat) (zs:List Nat) (po:Option Addr) (tc:Nat) (ts:List Nat) (n i:Value) (wr:World):Prop :=
  ∃ k:Nat,k<=ts.length/\i = .int .i64 ((k:Int) - 1)/\n = .int .i64 (iv s (ts.drop k))/\wr.cell? ⟨w.heap.size,0,none⟩=some (.bool s)/\wr.cell? ⟨w.heap.size,1,none⟩=some (.slice ao zs.length c)/\Rd wr po tc ts/\Ext w wr
theorem two_steps {ts:List Nat} {k:Nat} (hk:k<ts.length) (T:Nat) (hT:nV ts<=T) :
  nV (ts.drop k)=lim ts k+4294967296*nV (ts.drop (k+1))/\nV (ts.drop k)<=T:=by
 have h1:=vd_step hk
 unfold vd at h1
 refine ⟨h1,?_⟩
 have h3:=zfu ts k (by omega)
 have h4:=zen k
 have h5:1*nV (ts.drop k)<=pw k*nV (ts.drop k):=Nat.mul_le_mul_right _ h4
 omega
theorem RSmall_any (s:Bool) (ao:Option Addr) (n c:Nat) (zs:List Nat) (w:World) (v:Int) (ok:Bool) (hn:n=zs.length) (h:Rd w ao c zs) (hl:zs.length<=300000) (hg:zbt (iv s zs)=(v,ok)) :
  Calls Tryz.prog 74 #[.agg #[.bool s,.slice ao n c]] w (GotP (.tuple #[.int .i64 v,.bool ok]) w):=by
 subst hn
 replace hg:=Lib.hid hg
 obtain ⟨x,hx⟩:∃ x,sgn (iv s zs)=x:=⟨_,rfl⟩
 replace hx:=Lib.hid hx
 go_enter Tryz.func74,Tryz.ntmps74
 go_wp2_with fail
 refine (RTrimM _ _ _ zs _ rfl (h.ext ((Ext.refl _).alloc _)) (by first | omega | (simp;done) | (simp;omega))).mono ?_
 rintro e w1 ⟨r1a,r1c,r1z,r1B,rfl,r1b,r1o,r1k,r1v,r1l,xx⟩
 try simp at r1b
 try simp only [List.length_cons,List.length_nil] at r1l
 have hE:Ext w w1:=Ext.trans ((Ext.refl _).alloc _) xx
 have hz1:w.heap.size+1<=w1.heap.size:=(by have hq:=Ext.size xx;(try simp at hq);omega)
 have hb0:w.heap.size<w1.heap.size:=(by omega)
 have q0_0:=Ext.cell (p:=⟨w.heap.size,0,none⟩) (v:=.bool s) xx (by first | exact True | go_simp | (repeat (first | assumption | (refine (World.cell?_setCell_far _ _ _ _ (by simp <;> omega)).trans ?_) | (refine (World.cell?_alloc_lt _ _ _ (World.block_lt_of_cell? _ _ (by assumption))).trans ?_) | go_simp)))
 have q0_1:=Ext.cell (p:=⟨w.heap.size,1,none⟩) (v:=.slice ao zs.length c) xx (by first | exact True | go_simp | (repeat (first | assumption | (refine (World.cell?_setCell_far _ _ _ _ (by simp <;> omega)).trans ?_) | (refine (World.cell?_alloc_lt _ _ _ (World.block_lt_of_cell? _ _ (by assumption))).trans ?_) | go_simp)))
 clear xx
 by_cases h2:2<r1z.length
 ·have hr:Hid ((v,ok)=(0,false)):=zcl hg.out (zfw (by
   have h3:=zg3 r1k.out (by omega)
   have h4:pw 2<=pw (r1z.length - 1):=zfa (by omega)
   have h5:pw 2=18446744073709551616:=rfl
   have h6:=zf6 s zs
   have h7:=r1v.out
   omega))
  go_wp2_with fail
  go_ret2
  exact ⟨by rw [(Prod.mk.inj hr.out).1,(Prod.mk.inj hr.out).2];rfl,hE⟩
 have h22:r1z.length<=2:=by omega
 go_wp2_with fail
 refine (RSign_any s _ _ _ zs _ x rfl (h.ext (hE.alloc _)) (by first | omega | (simp;done) | (simp;omega)) hx.out).mono ?_
 rintro e w2 ⟨rfl,xx⟩
 replace hE:=Ext.trans (hE.alloc _) xx
 have hz2:w1.heap.size+1<=w2.heap.size:=(by have hq:=Ext.size xx;(try simp at hq);omega)
 replace r1o:=Own.ext (r1o.alloc _) xx
 have lit1o:=Own.ext (row2b _ (w1.heap.size) _ _ 4294967295 2147483647 (by simp) rfl rfl (by omega) (by omega)) xx
 have hb0:w.heap.size<w2.heap.size:=(by omega)
 have q0_0:=Ext.cell (p:=⟨w.heap.size,0,none⟩) (v:=.bool s) xx (by first | exact q0_0 | go_simp | (repeat (first | assumption | (refine (World.cell?_setCell_far _ _ _ _ (by simp <;> omega)).trans ?_) | (refine (World.cell?_alloc_lt _ _ _ (World.block_lt_of_cell? _ _ (by assumption))).trans ?_) | go_simp)))
 have q0_1:=Ext.cell (p:=⟨w.heap.size,1,none⟩) (v:=.slice ao zs.length c) xx (by first | exact q0_1 | go_simp | (repeat (first | assumption | (refine (World.cell?_setCell_far _ _ _ _ (by simp <;> omega)).trans ?_) | (refine (World.cell?_alloc_lt _ _ _ (World.block_lt_of_cell? _ _ (by assumption))).trans ?_) | go_simp)))
 clear xx
 by_cases hneg:x<0
 ·obtain ⟨g,hg3⟩:∃ g,zh2 (nV r1z) (nV [0,2147483648])=g:=⟨_,rfl⟩
  have hval:nV [0,2147483648]=9223372036854775808:=rfl
  rw [hval] at hg3
  replace hg3:Hid (zh2 (nV r1z) (nV [0,2147483648])=g):=by rw [hval];exact hg3
  have hz:Hid (iv s zs<0):=zgd.1 (by rw [hx.out];exact hneg)
  have hbig:0<g ↔ 9223372036854775808<nV r1z:=by
   rw [<- hg3.out,hval];unfold zh2;split;omega;split <;> omega
  have Hbig:=Lib.hid hbig
  clear hbig hval
  go_wp2_with fail
  refine (RCmpP _ _ _ r1z _ _ _ [0,2147483648] _ g rfl rfl (r1o.alloc _).rd (row2b _ (w2.heap.size) _ _ 0 2147483648 (by simp) rfl rfl (by omega) (by omega)).rd hg3.out).mono ?_
  rintro e w3 ⟨rfl,xx⟩
  replace hE:=Ext.trans (hE.alloc _) xx
  have hz3:w2.heap.size+1<=w3.heap.size:=(by have hq:=Ext.size xx;(try simp at hq);omega)
  replace r1o:=Own.ext (r1o.alloc _) xx
  have hb0:w.heap.size<w3.heap.size:=(by omega)
  have q0_0:=Ext.cell (p:=⟨w.heap.size,0,none⟩) (v:=.bool s) xx (by first | exact q0_0 | go_simp | (repeat (first | assumption | (refine (World.cell?_setCell_far _ _ _ _ (by simp <;> omega)).trans ?_) | (refine (World.cell?_alloc_lt _ _ _ (World.block_lt_of_cell? _ _ (by assumption))).trans ?_) | go_simp)))
  have q0_1:=Ext.cell (p:=⟨w.heap.size,1,none⟩) (v:=.slice ao zs.length c) xx (by first | exact q0_1 | go_simp | (repeat (first | assumption | (refine (World.cell?_setCell_far _ _ _ _ (by simp <;> omega)).trans ?_) | (refine (World.cell?_alloc_lt _ _ _ (World.block_lt_of_cell? _ _ (by assumption))).trans ?_) | go_simp)))
  clear xx
  by_cases hgt:0<g
  ·have hr:Hid ((v,ok)=(0,false)):=zcl hg.out (zfw (by
    have h6:=zf6 s zs
    have h7:=r1v.out
    have h8:=hz.out
    have h9:=Hbig.out.1 hgt
    omega))
   go_wp2_with fail
   go_ret2
   exact ⟨by rw [(Prod.mk.inj hr.out).1,(Prod.mk.inj hr.out).2];rfl,hE⟩
  ·have hV:Hid (nV r1z<=9223372036854775808):=Nat.le_of_not_lt (fun q=>hgt (Hbig.out.2 q))
   have hr:Hid ((v,ok)=(iv s zs,true)):=zcl hg.out (zfi rfl (by
    have h6:=zf6 s zs
    have h7:=r1v.out
    have h8:=hz.out
    have h9:=hV.out
    omega) (by
    have h6:=zf6 s zs
    have h7:=r1v.out
    have h8:=hz.out
    have h9:=hV.out
    omega))
   have hs:s=true\/nV zs=0:=by
    have h8:=hz.out
    cases s
    ·unfold iv at h8;simp at h8;omega
    ·left;rfl
   go_wp2_with fail
   go_loopw [6,7] (SmallR w s ao c zs r1a r1c r1z) (fun _ i _=>(intOf i+1).toNat)
   case atStart=>exact ⟨r1z.length,Nat.le_refl _,rfl,by rw [List.drop_length,iv_nil],q0_0,q0_1,r1o.rd,hE⟩
   case round =>
    obtain ⟨k,hk,rfl,rfl,q0_0,q0_1,r1r,hE⟩:=hrel
    rcases k with _ | k
    ·have hfin:Hid (iv s (r1z.drop 0)=iv s zs):=by unfold Hid;rw [List.drop_zero];unfold iv;rw [r1v.out]
     go_wp2_with fail
     go_ret2
     exact ⟨by rw [(Prod.mk.inj hr.out).1,(Prod.mk.inj hr.out).2,<- hfin.out];rfl,hE⟩
    ·have bx:=zcu r1k.out.1 k
     have ek:((k+1:Nat):Int) - 1=(k:Int):=by omega
     rw [ek]
     clear ek
     obtain ⟨st1,st2⟩:=two_steps (show k<r1z.length by omega) _ hV.out
     obtain ⟨N,hN⟩:∃ N,N=nV (r1z.drop (k+1)):=⟨_,rfl⟩
     rw [<- hN] at st1
     have hn:iv s (r1z.drop (k+1))=-(N:Int):=by
      rw [hN]
      rcases hs with e | e
      ·rw [e];rfl
      ·have h7:=r1v.out
       rw [e] at h7
       have h8:=zfu r1z (k+1) (by omega)
       have h9:=zen (k+1)
       have h10:1*nV (r1z.drop (k+1))<=pw (k+1)*nV (r1z.drop (k+1)):=Nat.mul_le_mul_right _ h9
       have h11:nV (r1z.drop (k+1))=0:=by omega
       unfold iv;rw [h11];cases s <;> rfl
     have hn2:Hid (iv s (r1z.drop k)=-(N:Int)*4294967296 - (lim r1z k:Int)):=by
      unfold Hid
      rcases hs with e | e
      ·rw [e];unfold iv;rw [st1];simp;omega
      ·have h7:=r1v.out
       rw [e] at h7
       have h8:=zfu r1z k (by omega)
       have h9:=zen k
       have h10:1*nV (r1z.drop k)<=pw k*nV (r1z.drop k):=Nat.mul_le_mul_right _ h9
       have h11:nV (r1z.drop k)=0:=by omega
       have h12:iv s (r1z.drop k)=0:=by unfold iv;rw [h11];cases s <;> rfl
       rw [h12];omega
     rw [hn]
     have bN:N*4294967296+lim r1z k<=9223372036854775808:=by omega
     have hix:=ixk r1r r1z.length rfl k (by omega) wr
     clear hn hN st1 st2
     go_wp2_with fail
     refine (RSign_any s _ _ _ zs _ x rfl (h.ext hE) (by omega) hx.out).mono ?_
     rintro e w9 ⟨rfl,xx⟩
     have hc:=(r1r.ext xx).cell k (by omega)
     have hix2:=ixk r1r r1z.length rfl k (by omega) w9
     go_wp2_with fail
     go_roundw
     case rel=>exact ⟨k,by omega,by go_num,by rw [hn2.out],Ext.cell xx q0_0,Ext.cell xx q0_1,r1r.ext xx,hE.trans xx⟩
     case measure=>simp [intOf];try omega
 ·obtain ⟨g,hg3⟩:∃ g,zh2 (nV r1z) (nV [4294967295,2147483647])=g:=⟨_,rfl⟩
  have hval:nV [4294967295,2147483647]=9223372036854775807:=rfl
  rw [hval] at hg3
  replace hg3:Hid (zh2 (nV r1z) (nV [4294967295,2147483647])=g):=by rw [hval];exact hg3
  have hz:Hid (0<=iv s zs):=by have a:=hx.out;unfold Hid;unfold sgn at a;split at a <;> (try split at a) <;> omega
  have hbig:0<g ↔ 9223372036854775807<nV r1z:=by
   rw [<- hg3.out,hval];unfold zh2;split;omega;split <;> omega
  have Hbig:=Lib.hid hbig
  clear hbig hval
  go_wp2_with fail
  refine (RCmpP _ _ _ r1z _ _ _ [4294967295,2147483647] _ g rfl rfl r1o.rd lit1o.rd hg3.out).mono ?_
  rintro e w3 ⟨rfl,xx⟩
  replace hE:=Ext.trans hE xx
  have hz3:w2.heap.size<=w3.heap.size:=(by have hq:=Ext.size xx;(try simp at hq);omega)
  replace r1o:=Own.ext r1o xx
  replace lit1o:=Own.ext lit1o xx
  have hb0:w.heap.size<w3.heap.size:=(by omega)
  have q0_0:=Ext.cell (p:=⟨w.heap.size,0,none⟩) (v:=.bool s) xx q0_0
  have q0_1:=Ext.cell (p:=⟨w.heap.size,1,none⟩) (v:=.slice ao zs.length c) xx q0_1
  clear xx
  by_cases hgt:0<g
  ·have hr:Hid ((v,ok)=(0,false)):=zcl hg.out (zfw (by
    have h6:=zf6 s zs
    have h7:=r1v.out
    have h8:=hz.out
    have h9:=Hbig.out.1 hgt
    omega))
   go_wp2_with fail
   go_ret2
   exact ⟨by rw [(Prod.mk.inj hr.out).1,(Prod.mk.inj hr.out).2];rfl,hE⟩
  ·have hV:Hid (nV r1z<=9223372036854775807):=Nat.le_of_not_lt (fun q=>hgt (Hbig.out.2 q))
   have hr:Hid ((v,ok)=(iv s zs,true)):=zcl hg.out (zfi rfl (by
    have h6:=zf6 s zs
    have h7:=r1v.out
    have h8:=hz.out
    have h9:=hV.out
    omega) (by
    have h6:=zf6 s zs
    have h7:=r1v.out
    have h8:=hz.out
    have h9:=hV.out
    omega))
   have hs:s=false\/nV zs=0:=by
    have h8:=hz.out
    cases s
    ·left;rfl
    ·right;unfold iv at h8;simp at h8;omega
   go_wp2_with fail
   go_loopw [6,7] (SmallR w s ao c zs r1a r1c r1z) (fun _ i _=>(intOf i+1).toNat)
   case atStart=>exact ⟨r1z.length,Nat.le_refl _,rfl,by rw [List.drop_length,iv_nil],q0_0,q0_1,r1o.rd,hE⟩
   case round =>
    obtain ⟨k,hk,rfl,rfl,q0_0,q0_1,r1r,hE⟩:=hrel
    rcases k with _ | k
    ·have hfin:Hid (iv s (r1z.drop 0)=iv s zs):=by unfold Hid;rw [List.drop_zero];unfold iv;rw [r1v.out]
     go_wp2_with fail
     go_ret2
     exact ⟨by rw [(Prod.mk.inj hr.out).1,(Prod.mk.inj hr.out).2,<- hfin.out];rfl,hE⟩
    ·have bx:=zcu r1k.out.1 k
     have ek:((k+1:Nat):Int) - 1=(k:Int):=by omega
     rw [ek]
     clear ek
     obtain ⟨st1,st2⟩:=two_steps (show k<r1z.length by omega) _ hV.out
     obtain ⟨N,hN⟩:∃ N,N=nV (r1z.drop (k+1)):=⟨_,rfl⟩
     rw [<- hN] at st1
     have hn:iv s (r1z.drop (k+1))=(N:Int):=by
      rw [hN]
      rcases hs with e | e
      ·rw [e];rfl
      ·have h7:=r1v.out
       rw [e] at h7
       have h8:=zfu r1z (k+1) (by omega)
       have h9:=zen (k+1)
       have h10:1*nV (r1z.drop (k+1))<=pw (k+1)*nV (r1z.drop (k+1)):=Nat.mul_le_mul_right _ h9
       have h11:nV (r1z.drop (k+1))=0:=by omega
       unfold iv;rw [h11];cases s <;> rfl
     have hn2:Hid (iv s (r1z.drop k)=(N:Int)*4294967296+(lim r1z k:Int)):=by
      unfold Hid
      rcases hs with e | e
      ·rw [e];unfold iv;rw [st1];simp;omega
      ·have h7:=r1v.out
       rw [e] at h7
       have h8:=zfu r1z k (by omega)
       have h9:=zen k
       have h10:1*nV (r1z.drop k)<=pw k*nV (r1z.drop k):=Nat.mul_le_mul_right _ h9
       have h11:nV (r1z.drop k)=0:=by omega
       have h12:iv s (r1z.drop k)=0:=by unfold iv;rw [h11];cases s <;> rfl
       rw [h12];omega
     rw [hn]
     have bN:N*4294967296+lim r1z k<=9223372036854775807:=by omega
     have hix:=ixk r1r r1z.length rfl k (by omega) wr
     clear hn hN st1 st2
     go_wp2_with fail
     refine (RSign_any s _ _ _ zs _ x rfl (h.ext hE) (by omega) hx.out).mono ?_
     rintro e w9 ⟨rfl,xx⟩
     have hc:=(r1r.ext xx).cell k (by omega)
     have hix2:=ixk r1r r1z.length rfl k (by omega) w9
     go_wp2_with fail
     go_roundw
     case rel=>exact ⟨k,by omega,by go_num,by rw [hn2.out],Ext.cell xx q0_0,Ext.cell xx q0_1,r1r.ext xx,hE.trans xx⟩
     case measure=>simp [intOf];try omega
namespace S
theorem openZ2 {H:Im} {B:Bl} {x:ZI} {v:Value} (h:VR H B (vz x) v) (hx:Lb x.abs):∃ ao c,v = .agg #[.bool x.neg,.slice ao x.abs.length c]/\∀ w:World,(∀ b o,H b=some o->w.heap[b]?=some o)->Rd w ao c x.abs:=by
 obtain ⟨vs,rfl,h1⟩:=h
 match vs,h1 with
 | [a,b],h1 =>
  obtain ⟨h2,h3,_⟩:=h1
  have e1:a = .bool x.neg:=VR.rawI (H:=H) (B:=B) h2
  obtain ⟨ao,c,rfl,h4⟩:=nsl_rd h3 hx
  exact ⟨ao,c,by rw [e1],h4⟩
 | [],h1=>exact h1.elim
 | [_],h1=>exact h1.2.elim
 | _ :: _ :: _ :: _,h1=>exact h1.2.2.elim
theorem SSmall (x:ZI) (hx:Lb x.abs) (lx:x.abs.length<=300000):Fn Tryz.prog 62 [] [vz x] (.tup [.c (cI (zbt x.val).1),.c (cB (zbt x.val).2)]) []:=by
 intro w H B vals pre
 have ha:=pre.arg
 obtain ⟨a,rfl,h1⟩:∃ a,vals=[a]/\VR H B (vz x) a:=by
  match vals,ha with
  | [a],h=>exact ⟨a,rfl,h.1⟩
  | [],h=>exact h.elim
  | _ :: _ :: _,h=>exact h.2.elim
 obtain ⟨ao,c,rfl,r1⟩:=openZ2 h1 hx
 refine (ZSmall_any x.neg ao _ c x.abs w _ _ rfl (r1 w pre.sat) lx rfl).mono fun e w' h=>?_
 obtain ⟨rfl,hE⟩:=h
 exact ⟨_,_,_,rfl,postE hE pre.sat ⟨_,rfl,DR.raw _ rfl,DR.raw _ rfl,trivial⟩⟩
theorem small_big {z:Int} {m:Int} (h:(zbt z).2=false) (h0:0<=z) (hm:m<=9223372036854775807):m<z:=by
 unfold zbt at h
 split at h
 ·cases h
 ·omega
theorem small_val {z:Int} (h:(zbt z).2=true):(zbt z).1=z∧-9223372036854775808≤z∧z≤9223372036854775807:=by
 unfold zbt at h ⊢
 split at h
 ·rename_i hz;rw [if_pos hz];exact ⟨rfl,hz⟩
 ·cases h
section
variable {P:Program}
theorem Op.quo {d:Nat} {x y:Operand} {k:IntKind} {m n r:Int} {rs rs':List (Nat × V)} {xt yt ty:TypeId} {pos af gd} (h:OV x (vi k m) rs) (h':OV y (vi k n) rs') (hn:n≠0) (he:m.tdiv n=r) (hr:k.wrap r=r) :
  zbg P ⟨some d,.binOp .quo xt x y yt,ty,pos,af,gd⟩ { rs:=rs++rs', ws:=[(d,some (vi k r))] }:=by
 refine Op.raw2 rfl h h' rfl fun ρ w h1 h2=>?_
 simp [execOp,h1,h2,eqGuard,binOp,Op.intDiv,hn,he,hr,go_sem]
theorem Op.rem {d:Nat} {x y:Operand} {k:IntKind} {m n r:Int} {rs rs':List (Nat × V)} {xt yt ty:TypeId} {pos af gd} (h:OV x (vi k m) rs) (h':OV y (vi k n) rs') (hn:n≠0) (he:m.tmod n=r) :
  zbg P ⟨some d,.binOp .rem xt x y yt,ty,pos,af,gd⟩ { rs:=rs++rs', ws:=[(d,some (vi k r))] }:=by
 refine Op.raw2 rfl h h' rfl fun ρ w h1 h2=>?_
 simp [execOp,h1,h2,eqGuard,binOp,Op.intDiv,hn,he,go_sem]
end
theorem ib_0:za6 Tryz.prog 71:=za6.mk' (by kernel_rfl)
theorem ib_1:za6 Tryz.prog 65:=za6.mk' (by kernel_rfl)
theorem ib_4:za6 Tryz.prog 73:=za6.mk' (by kernel_rfl)
theorem ib_5:za6 Tryz.prog 36:=za6.mk' (by kernel_rfl)
theorem ib_6:za6 Tryz.prog 132:=za6.mk' (by kernel_rfl)
theorem ib_8:za6 Tryz.prog 110:=za6.mk' (by kernel_rfl)
theorem ib_10:ElZ Tryz.prog 26 142 1:=ElZ.mk' Tryz.underlying26 _ _ rfl rfl (by kernel_rfl) (by kernel_rfl) (by kernel_rfl) (by decide)
theorem zd1 (n:List Nat):iv true n=-(nV n:Int):=rfl
theorem zcp (n:List Nat):iv false n=(nV n:Int):=rfl
theorem val_neg {x:ZI} (h:x.val<0):x.val=-(nV x.abs:Int):=by
 unfold ZI.val at h ⊢
 cases hn:x.neg with
 | true=>rfl
 | false=>rw [hn,zcp] at h;omega
theorem zhc {x:ZI} (h:0<=x.val):x.val=(nV x.abs:Int):=by
 unfold ZI.val at h ⊢
 cases hn:x.neg with
 | false=>rfl
 | true=>rw [hn,zd1] at h;rw [zd1];omega
theorem zic {z:Int} (h:z<0):decide (sgn z<0)=true:=by rw [zgc h];rfl
theorem zid {z:Int} (h:0<=z):decide (sgn z<0)=false:=decide_eq_false (mt zgd.1 (by omega))
theorem sgn_ge_t {z:Int} (h:0<=z):decide (sgn z>=0)=true:=decide_eq_true (by have:=mt (zgd (z:=z)).1 (by omega);omega)
theorem sgn_ge_f {z:Int} (h:z<0):decide (sgn z>=0)=false:=by rw [zgc h];rfl
theorem SRAdd_pp (x y:ZI) (hx:Lb x.abs) (hy:Lb y.abs) (lx:x.abs.length<=49000) (ly:y.abs.length<=49000) (px:0<=x.val) (py:0<=y.val):Fn Tryz.prog 36 [] [vz x,vz y] (vz (ZI.of (x.val+y.val))) []:=by
 refine Fn.body Tryz.func36 rfl 62 rfl fun w H B a h=>Jq 0 [] [(2,vp 0 0),(3,vp 1 0),(4,vp 2 0)] [(0,.box (zi x)),(1,.box (zi y)),(2,.box [cB false,.d (nsl [])])] h fun a w h=>qW (Je 3 [(1,.call (zd6 x hx (by omega)) ib_0),(2,.cmp (op:=.lss) (m:=(sgn x.val)) (n:=0) (b:=false) .i64 (zid px))] [] [(14,vb false)] h fun a w h=>zbn false h rfl nofun (fun _=>qU (za0 (qW (Je 3 [(1,.call (zd6 x hx (by omega)) ib_0),(2,.cmp (op:=.geq) (m:=(sgn x.val)) (n:=0) (b:=true) .i64 (sgn_ge_t px)),(5,.call (zd6 y hy (by omega)) ib_0),(6,.cmp (op:=.geq) (m:=(sgn y.val)) (n:=0) (b:=true) .i64 (sgn_ge_t py))] [14] [(28,vb true)] h fun a w h=>cS true h (fun _=>?_) nofun)))))
 obtain ⟨n4,en4,vn4,on4,ln4⟩:=mkN (v:=nV x.abs+nV y.abs) (m:=x.abs.length+y.abs.length+1) (nadd_lt hx hy);obtain ⟨r5,er5,vr5,or5,lr5⟩:=mkZ (v:=iv false n4) (m:=n4.length) (zd5 on4);refine Jd 3 [(4,.call (Fn.cast (SRnAdd x.abs y.abs hx hy (by omega) (by omega)) (congrArg vn en4.symm)) ib_1),(5,.call (Fn.cast (zh7 false n4 on4 (by omega)) (congrArg vz er5.symm)) ia_4)] [28] [] [(0,.box (zi x)),(1,.box (zi y)),(2,.box (zi r5))] h fun a w h=>qV (za2 (rA 2 (zi r5) h zfd rfl (congrArg (fun z=>vz z) (er5.trans (congrArg ZI.of ?_)))));have ax:=zhc (x:=x) px;have ay:=zhc (x:=y) py
 (try simp only [zd1])
 (try simp only [zcp])
 omega
theorem SRAdd_nn (x y:ZI) (hx:Lb x.abs) (hy:Lb y.abs) (lx:x.abs.length<=49000) (ly:y.abs.length<=49000) (px:x.val<0) (py:y.val<0):Fn Tryz.prog 36 [] [vz x,vz y] (vz (ZI.of (x.val+y.val))) []:=by
 refine Fn.body Tryz.func36 rfl 62 rfl fun w H B a h=>Jq 0 [] [(2,vp 0 0),(3,vp 1 0),(4,vp 2 0)] [(0,.box (zi x)),(1,.box (zi y)),(2,.box [cB false,.d (nsl [])])] h fun a w h=>qW (Je 3 [(1,.call (zd6 x hx (by omega)) ib_0),(2,.cmp (op:=.lss) (m:=(sgn x.val)) (n:=0) (b:=true) .i64 (zic px)),(5,.call (zd6 y hy (by omega)) ib_0),(6,.cmp (op:=.lss) (m:=(sgn y.val)) (n:=0) (b:=true) .i64 (zic py))] [] [(14,vb true)] h fun a w h=>cS true h (fun _=>?_) nofun)
 obtain ⟨n3,en3,vn3,on3,ln3⟩:=mkN (v:=nV x.abs+nV y.abs) (m:=x.abs.length+y.abs.length+1) (nadd_lt hx hy);obtain ⟨r4,er4,vr4,or4,lr4⟩:=mkZ (v:=iv true n3) (m:=n3.length) (zd5 on3);refine Jd 3 [(4,.call (Fn.cast (SRnAdd x.abs y.abs hx hy (by omega) (by omega)) (congrArg vn en3.symm)) ib_1),(5,.call (Fn.cast (zh7 true n3 on3 (by omega)) (congrArg vz er4.symm)) ia_4)] [14] [] [(0,.box (zi x)),(1,.box (zi y)),(2,.box (zi r4))] h fun a w h=>qV (za2 (rA 2 (zi r4) h zfd rfl (congrArg (fun z=>vz z) (er4.trans (congrArg ZI.of ?_)))));have ax:=val_neg (x:=x) px;have ay:=val_neg (x:=y) py
 (try simp only [zd1])
 (try simp only [zcp])
 omega
theorem SRAdd_pn (x y:ZI) (hx:Lb x.abs) (hy:Lb y.abs) (lx:x.abs.length<=49000) (ly:y.abs.length<=49000) (px:0<=x.val) (py:y.val<0):Fn Tryz.prog 36 [] [vz x,vz y] (vz (ZI.of (x.val+y.val))) []:=by
 refine Fn.body Tryz.func36 rfl 62 rfl fun w H B a h=>Jq 0 [] [(2,vp 0 0),(3,vp 1 0),(4,vp 2 0)] [(0,.box (zi x)),(1,.box (zi y)),(2,.box [cB false,.d (nsl [])])] h fun a w h=>qW (Je 3 [(1,.call (zd6 x hx (by omega)) ib_0),(2,.cmp (op:=.lss) (m:=(sgn x.val)) (n:=0) (b:=false) .i64 (zid px))] [] [(14,vb false)] h fun a w h=>zbn false h rfl nofun (fun _=>qU (za0 (qW (Je 3 [(1,.call (zd6 x hx (by omega)) ib_0),(2,.cmp (op:=.geq) (m:=(sgn x.val)) (n:=0) (b:=true) .i64 (sgn_ge_t px)),(5,.call (zd6 y hy (by omega)) ib_0),(6,.cmp (op:=.geq) (m:=(sgn y.val)) (n:=0) (b:=false) .i64 (sgn_ge_f py))] [14] [(28,vb false)] h fun a w h=>zbn false h rfl nofun (fun _=>qU (za0 (qW (Je 3 [(1,.call (zd6 x hx (by omega)) ib_0),(2,.cmp (op:=.lss) (m:=(sgn x.val)) (n:=0) (b:=false) .i64 (zid px))] [28] [(37,vb false)] h fun a w h=>zbn false h rfl nofun (fun _=>qU (za0 ?_)))))))))))
 obtain ⟨n5,en5,vn5,on5,ln5⟩:=mkN (v:=nV x.abs - nV y.abs) (m:=x.abs.length) (Nat.lt_of_le_of_lt (Nat.sub_le _ _) (zc7 hx));refine Je 3 [(4,.call (Fn.cast (SRnSub x.abs y.abs hx hy (by omega) (by omega)) (show _=(.tup [.c (.d (nsl n5)),.c (cB (decide (nV y.abs<=nV x.abs)))]:V) by rw [en5])) ib_4)] [37] [(5,vn n5),(6,vb (decide (nV y.abs<=nV x.abs)))] h fun a w h=>qW (Je 3 [] [6] [(49,vb (decide (nV y.abs<=nV x.abs)))] h fun a w h=>zap (nV y.abs<=nV x.abs) h (fun hc1 hc1'=>?_) (fun hc2 hc2'=>?_))
 ·obtain ⟨r6,er6,vr6,or6,lr6⟩:=mkZ (v:=iv false n5) (m:=n5.length) (zd5 on5);refine Jd 3 [(1,.call (Fn.cast (zh7 false n5 on5 (by omega)) (congrArg vz er6.symm)) ia_4)] [49] [] [(0,.box (zi x)),(1,.box (zi y)),(2,.box (zi r6))] h fun a w h=>qV (za2 (rA 2 (zi r6) h zfd rfl (congrArg (fun z=>vz z) (er6.trans (congrArg ZI.of ?_)))));have ax:=zhc (x:=x) px;have ay:=val_neg (x:=y) py
  (try simp only [zd1])
  (try simp only [zcp])
  omega
 refine qU (za0 ?_);obtain ⟨n7,en7,vn7,on7,ln7⟩:=mkN (v:=nV y.abs - nV x.abs) (m:=y.abs.length) (Nat.lt_of_le_of_lt (Nat.sub_le _ _) (zc7 hy));refine Jq 3 [(4,.call (Fn.cast (SRnSub y.abs x.abs hy hx (by omega) (by omega)) (show _=(.tup [.c (.d (nsl n7)),.c (cB (decide (nV x.abs<=nV y.abs)))]:V) by rw [en7])) ib_4)] [(4,vp 2 0),(5,vn n7)] [(2,.box [cB false,.d (nsl [])])] h fun a w h=>?_;obtain ⟨r8,er8,vr8,or8,lr8⟩:=mkZ (v:=iv true n7) (m:=n7.length) (zd5 on7);refine Jd 3 [(1,.call (Fn.cast (zh7 true n7 on7 (by omega)) (congrArg vz er8.symm)) ia_4)] [5] [] [(2,.box (zi r8))] h fun a w h=>qV (rA 2 (zi r8) h zfd rfl (congrArg (fun z=>vz z) (er8.trans (congrArg ZI.of ?_))));have ax:=zhc (x:=x) px;have ay:=val_neg (x:=y) py
 (try simp only [zd1])
 (try simp only [zcp])
 omega
theorem SRAdd_np (x y:ZI) (hx:Lb x.abs) (hy:Lb y.abs) (lx:x.abs.length<=49000) (ly:y.abs.length<=49000) (px:x.val<0) (py:0<=y.val):Fn Tryz.prog 36 [] [vz x,vz y] (vz (ZI.of (x.val+y.val))) []:=by
 refine Fn.body Tryz.func36 rfl 62 rfl fun w H B a h=>Jq 0 [] [(2,vp 0 0),(3,vp 1 0),(4,vp 2 0)] [(0,.box (zi x)),(1,.box (zi y)),(2,.box [cB false,.d (nsl [])])] h fun a w h=>qW (Je 3 [(1,.call (zd6 x hx (by omega)) ib_0),(2,.cmp (op:=.lss) (m:=(sgn x.val)) (n:=0) (b:=true) .i64 (zic px)),(5,.call (zd6 y hy (by omega)) ib_0),(6,.cmp (op:=.lss) (m:=(sgn y.val)) (n:=0) (b:=false) .i64 (zid py))] [] [(14,vb false)] h fun a w h=>zbn false h rfl nofun (fun _=>qU (za0 (qW (Je 3 [(1,.call (zd6 x hx (by omega)) ib_0),(2,.cmp (op:=.geq) (m:=(sgn x.val)) (n:=0) (b:=false) .i64 (sgn_ge_f px))] [14] [(28,vb false)] h fun a w h=>zbn false h rfl nofun (fun _=>qU (za0 (qW (Je 3 [(1,.call (zd6 x hx (by omega)) ib_0),(2,.cmp (op:=.lss) (m:=(sgn x.val)) (n:=0) (b:=true) .i64 (zic px))] [28] [(37,vb true)] h fun a w h=>cS true h (fun _=>?_) nofun)))))))))
 obtain ⟨r5,er5,vr5,or5,lr5⟩:=mkZ (v:=y.val+x.val) (m:=y.abs.length+x.abs.length+1) (zdk hy hx);refine Jd 3 [(2,.call (Fn.cast (SRAdd_pn y x hy hx ly lx py px) (congrArg vz er5.symm)) ib_5)] [37] [] [(0,.box (zi x)),(1,.box (zi y)),(2,.box (zi r5))] h fun a w h=>qV (za2 (rA 2 (zi r5) h zfd rfl (congrArg (fun z=>vz z) (er5.trans (congrArg ZI.of ?_)))));omega
theorem SRAdd (x y:ZI) (hx:Lb x.abs) (hy:Lb y.abs) (lx:x.abs.length<=49000) (ly:y.abs.length<=49000):Fn Tryz.prog 36 [] [vz x,vz y] (vz (ZI.of (x.val+y.val))) []:=by
 by_cases px:x.val<0 <;> by_cases py:y.val<0
 ·exact SRAdd_nn x y hx hy lx ly px py
 ·exact SRAdd_np x y hx hy lx ly px (by omega)
 ·exact SRAdd_pn x y hx hy lx ly (by omega) py
 ·exact SRAdd_pp x y hx hy lx ly (by omega) (by omega)
theorem zgs {x y:Int} (hx:-1<=x/\x<=1) (hy:-1<=y/\y<=1):-1<=x*y/\x*y<=1:=by
 have h1:x=-1\/x=0\/x=1:=by omega
 rcases h1 with rfl | rfl | rfl <;> omega
theorem zgt (x:ZI):(sgn x.val=-1/\x.val=-(nV x.abs:Int))\/(sgn x.val=0/\(nV x.abs:Int)=0/\x.val=0)\/(sgn x.val=1/\x.val=(nV x.abs:Int)):=by
 rcases Int.lt_trichotomy x.val 0 with h | h | h
 ·exact .inl ⟨zgc h,val_neg h⟩
 ·have:=zhc (x:=x) (by omega)
  exact .inr (.inl ⟨zgr h,by omega,h⟩)
 ·exact .inr (.inr ⟨sgn_pos h,zhc (by omega)⟩)
theorem mul_sgn (x y:ZI) {n:List Nat} (h:nV n=nV x.abs*nV y.abs):iv (decide (sgn x.val*sgn y.val<0)) n=x.val*y.val:=by
 have hp:(nV n:Int)=(nV x.abs:Int)*(nV y.abs:Int):=by rw [h,Int.natCast_mul]
 rcases zgt x with ⟨h1,h2⟩ | ⟨h1,h2,h3⟩ | ⟨h1,h2⟩ <;> rcases zgt y with ⟨k1,k2⟩ | ⟨k1,k2,k3⟩ | ⟨k1,k2⟩ <;> rw [h1,k1]
 ·change (nV n:Int)=_;rw [h2,k2,Int.neg_mul_neg];exact hp
 ·change (nV n:Int)=_;rw [k3,hp,k2];omega
 ·change -(nV n:Int)=_;rw [h2,k2,Int.neg_mul,hp]
 ·change (nV n:Int)=_;rw [h3,hp,h2];omega
 ·change (nV n:Int)=_;rw [h3,hp,h2];omega
 ·change (nV n:Int)=_;rw [h3,hp,h2];omega
 ·change -(nV n:Int)=_;rw [h2,k2,Int.mul_neg,hp]
 ·change (nV n:Int)=_;rw [k3,hp,k2];omega
 ·change (nV n:Int)=_;rw [h2,k2];exact hp
theorem sgn_mul_range' (x y:Int):-1<=sgn x*sgn y/\sgn x*sgn y<=1:=zgs (sgn_range x) (sgn_range y)
theorem SRMul (x y:ZI) (hx:Lb x.abs) (hy:Lb y.abs) (lx:x.abs.length<=49000) (ly:y.abs.length<=49000):Fn Tryz.prog 89 [] [vz x,vz y] (vz (ZI.of (x.val*y.val))) []:=by
 refine Fn.body Tryz.func89 rfl 17 rfl fun w H B a h=>Jq 0 [] [(2,vp 0 0),(3,vp 1 0),(4,vp 2 0)] [(0,.box (zi x)),(1,.box (zi y)),(2,.box [cB false,.d (nsl [])])] h fun a w h=>?_
 obtain ⟨n3,en3,vn3,on3,ln3⟩:=mkN (v:=nV x.abs*nV y.abs) (m:=x.abs.length+y.abs.length) (nmul_lt hx hy);obtain ⟨r4,er4,vr4,or4,lr4⟩:=mkZ (v:=iv (decide ((sgn x.val*sgn y.val)<0)) n3) (m:=n3.length) (zd5 on3);refine Jq 3 [(1,.call (zd6 x hx (by omega)) ib_0),(3,.call (zd6 y hy (by omega)) ib_0),(4,.mul .i64 (m:=(sgn x.val)) (n:=(sgn y.val)) (i64_id (by have:=sgn_mul_range' x.val y.val;omega) (by have:=sgn_mul_range' x.val y.val;omega))),(10,.call (Fn.cast (SRnMul x.abs y.abs hx hy (by omega) (by omega)) (congrArg vn en3.symm)) ib_6),(11,.call (Fn.cast (zh7 (decide ((sgn x.val*sgn y.val)<0)) n3 on3 (by omega)) (congrArg vz er4.symm)) ia_4)] [(4,vp 2 0)] [(2,.box (zi r4))] h fun a w h=>qV (rA 2 (zi r4) h zfd rfl (congrArg (fun z=>vz z) (er4.trans (congrArg ZI.of ?_))));exact mul_sgn x y vn3
theorem val_one (a:Nat):nV [a]=a:=by simp [nV]
theorem val_two (a b:Nat):nV [a,b]=a+4294967296*b:=by simp [nV]
theorem SOf (E:Int) (hI:-9223372036854775808<=E/\E<=9223372036854775807):Fn Tryz.prog 61 [] [vI E] (vz (ZI.of (E))) []:=by
 refine Fn.body Tryz.func61 rfl 16 rfl fun w H B a h=>Jq 0 [] [(0,vI E),(2,vp 0 0)] [(0,.box [cB false,.d (nsl [])])] h fun a w h=>qW (Je 1 [] [] [(4,vb (decide (E<0)))] h fun a w h=>zap (E<0) h (fun hc1 hc1'=>?_) (fun hc2 hc2'=>?_))
 ·obtain ⟨n1,en1,vn1,on1,ln1⟩:=mkN (v:=((-(E+1))+1).toNat) (m:=2) (by have:=pw2;omega);obtain ⟨r2,er2,vr2,or2,lr2⟩:=mkZ (v:=iv true n1) (m:=n1.length) (zd5 on1);refine Jd 1 [(1,.add .i64 (m:=E) (n:=1) i6),(2,.neg .i64 (m:=(E+1)) i6),(3,.conv .i64 .u64 (m:=(-(E+1))) (u64_id (by omega) (by omega))),(4,.add .u64 (m:=(-(E+1))) (n:=1) (u64_id (by omega) (by omega))),(5,.call (Fn.cast (SnOf ((-(E+1))+1) (by omega) (by omega)) (congrArg vn en1.symm)) ib_8),(6,.call (Fn.cast (zi7 true n1 on1 (by omega)) (congrArg vz er2.symm)) ia_3)] [4] [] [(0,.box (zi r2))] h fun a w h=>qV (za2 (rA 0 (zi r2) h zfd rfl (congrArg (fun z=>vz z) (er2.trans (congrArg ZI.of ?_)))))
  (try simp only [zd1])
  (try simp only [zcp])
  omega
 refine qU (za0 ?_);obtain ⟨n3,en3,vn3,on3,ln3⟩:=mkN (v:=(E).toNat) (m:=2) (by have:=pw2;omega);obtain ⟨r4,er4,vr4,or4,lr4⟩:=mkZ (v:=iv false n3) (m:=n3.length) (zd5 on3);refine Jq 1 [(1,.conv .i64 .u64 (m:=E) (u64_id (by omega) (by omega))),(2,.call (Fn.cast (SnOf E (by omega) (by omega)) (congrArg vn en3.symm)) ib_8),(3,.call (Fn.cast (zi7 false n3 on3 (by omega)) (congrArg vz er4.symm)) ia_3)] [(2,vp 0 0)] [(0,.box (zi r4))] h fun a w h=>qV (rA 0 (zi r4) h zfd rfl (congrArg (fun z=>vz z) (er4.trans (congrArg ZI.of ?_))))
 (try simp only [zd1])
 (try simp only [zcp])
 omega
theorem SROf (E:Int) (hI:-9223372036854775808<=E/\E<=9223372036854775807):Fn Tryz.prog 28 [] [vI E] (vz (ZI.of (E))) []:=by
 refine Fn.body Tryz.func28 rfl 29 rfl fun w H B a h=>Jq 0 [] [(0,vI E),(2,vp 0 0)] [(0,.box [cB false,.d (nsl [])])] h fun a w h=>qW (Je 1 [] [] [(6,vb (decide (E>=0)))] h fun a w h=>zap (E>=0) h (fun hc1 hc1'=>?_) (fun hc2 hc2'=>?_))
 ·obtain ⟨q0,hq0⟩:∃ z_:Nat,E % 4294967296=(z_:Int):=⟨(E % 4294967296).toNat,by omega⟩;obtain ⟨q1,hq1⟩:∃ z_:Nat,E / 4294967296=(z_:Int):=⟨(E / 4294967296).toNat,by omega⟩;obtain ⟨r1,er1,vr1,or1,lr1⟩:=mkZ (v:=iv false [q0,q1]) (m:=[q0,q1].length) (zd5 (show Lb [q0,q1] from by intro z hz;simp at hz;omega));refine Jd 1 [(1,.g (Op.rem (d:=8) (xt:=2) (yt:=2) (k:=.i64) (m:=E) (n:=4294967296) (r:=(q0:Int)) (OV.tmp 7 _) (OV.const (.int .i64 4294967296) rfl) (by decide) ((Int.tmod_eq_emod_of_nonneg (by omega)).trans hq0))),(2,.conv .i64 .u32 (m:=(q0:Int)) (u32_id (by omega) (by omega))),(4,.g (Op.quo (d:=11) (xt:=2) (yt:=2) (k:=.i64) (m:=E) (n:=4294967296) (r:=(q1:Int)) (OV.tmp 10 _) (OV.const (.int .i64 4294967296) rfl) (by decide) ((Int.tdiv_eq_ediv_of_nonneg (by omega)).trans hq1) i6)),(5,.conv .i64 .u32 (m:=(q1:Int)) (u32_id (by omega) (by omega))),(6,.g (Op.buildD (d:=13) (len:=2) (rows:=[[.raw (.int .u32 (q0:Nat))],[.raw (.int .u32 (q1:Nat))]]) (rs:=[(9,vi .u32 (q0:Int)),(12,vi .u32 (q1:Int))]) ib_10 (.cons (i:=0) (OV.tmp 9 _) (.cons (i:=1) (OV.tmp 12 _) (.nil))) (by kernel_rfl) rfl (by simp) (by decide) (by decide))),(7,.call (Fn.cast (zh7 false [q0,q1] (show Lb [q0,q1] from by intro z hz;simp at hz;omega) (by first | omega | simp)) (congrArg vz er1.symm)) ia_4)] [6] [] [(0,.box (zi r1))] h fun a w h=>qV (za2 (rA 0 (zi r1) h zfd rfl (congrArg (fun z=>vz z) (er1.trans (congrArg ZI.of ?_)))))
  (try simp only [zd1])
  (try simp only [zcp])
  (try rw [vn1])
  (try simp only [val_two] at *)
  (try simp only [val_one] at *)
  omega
 refine qU (za0 (Jp 1 [(1,.add .i64 (m:=E) (n:=1) i6),(2,.sub .i64 (m:=0) (n:=(E+1)) i6)] [(2,vp 0 0),(3,vI (0 - (E+1)))] h fun a w h=>?_));obtain ⟨q2,hq2⟩:∃ z_:Nat,(0 - (E+1)) % 4294967296=(z_:Int):=⟨((0 - (E+1)) % 4294967296).toNat,by omega⟩;obtain ⟨q3,hq3⟩:∃ z_:Nat,(0 - (E+1)) / 4294967296=(z_:Int):=⟨((0 - (E+1)) / 4294967296).toNat,by omega⟩;refine Je 1 [(1,.g (Op.rem (d:=19) (xt:=2) (yt:=2) (k:=.i64) (m:=(0 - (E+1))) (n:=4294967296) (r:=(q2:Int)) (OV.tmp 18 _) (OV.const (.int .i64 4294967296) rfl) (by decide) ((Int.tmod_eq_emod_of_nonneg (by omega)).trans hq2))),(2,.conv .i64 .u32 (m:=(q2:Int)) (u32_id (by omega) (by omega))),(4,.g (Op.quo (d:=22) (xt:=2) (yt:=2) (k:=.i64) (m:=(0 - (E+1))) (n:=4294967296) (r:=(q3:Int)) (OV.tmp 21 _) (OV.const (.int .i64 4294967296) rfl) (by decide) ((Int.tdiv_eq_ediv_of_nonneg (by omega)).trans hq3) i6)),(5,.conv .i64 .u32 (m:=(q3:Int)) (u32_id (by omega) (by omega))),(6,.g (Op.buildD (d:=24) (len:=2) (rows:=[[.raw (.int .u32 (q2:Nat))],[.raw (.int .u32 (q3:Nat))]]) (rs:=[(20,vi .u32 (q2:Int)),(23,vi .u32 (q3:Int))]) ib_10 (.cons (i:=0) (OV.tmp 20 _) (.cons (i:=1) (OV.tmp 23 _) (.nil))) (by kernel_rfl) rfl (by simp) (by decide) (by decide)))] [3] [(4,vn [q2,q3])] h fun a w h=>?_;obtain ⟨n2,en2,vn2,on2,ln2⟩:=mkN (v:=nV [q2,q3]+nV [1]) (m:=4) (nadd_lt (xs:=[q2,q3]) (ys:=[1]) (show Lb [q2,q3] from by intro z hz;simp at hz;omega) (show Lb [1] from by intro z hz;simp at hz;omega));obtain ⟨r3,er3,vr3,or3,lr3⟩:=mkZ (v:=iv true n2) (m:=n2.length) (zd5 on2);refine Jd 1 [(1,.g (Op.buildD (d:=26) (len:=1) (rows:=[[.raw (.int .u32 (1:Nat))]]) (rs:=[]) ib_10 (.cons (i:=0) (OV.const (.int .u32 1) rfl) (.nil)) (by kernel_rfl) rfl (by simp) (by decide) (by decide))),(2,.call (Fn.cast (SRnAdd [q2,q3] [1] (show Lb [q2,q3] from by intro z hz;simp at hz;omega) (show Lb [1] from by intro z hz;simp at hz;omega) (by simp) (by simp)) (congrArg vn en2.symm)) ib_1),(3,.call (Fn.cast (zh7 true n2 on2 (by first | omega | simp)) (congrArg vz er3.symm)) ia_4)] [4] [] [(0,.box (zi r3))] h fun a w h=>qV (rA 0 (zi r3) h zfd rfl (congrArg (fun z=>vz z) (er3.trans (congrArg ZI.of ?_))))
 (try simp only [zd1])
 (try simp only [zcp])
 (try rw [vn2])
 (try simp only [val_two] at *)
 (try simp only [val_one] at *)
 omega
theorem ta_0:SlT Tryz.prog 24 132 3:=SlT.mk' Tryz.underlying24 (by kernel_rfl)
def zeh:List zbr->Int->Int
  | [],_=>0
  | p :: ps,v=>(if p.v=v/\0<=v then p.c.val else 0)+zeh ps v
theorem coefZ_app (ps qs:List zbr) (v:Int):zeh (ps++qs) v=zeh ps v+zeh qs v:=by
 induction ps with
 | nil=>simp [zeh]
 | cons p ps ih=>simp only [List.cons_append,zeh,ih];omega
theorem zhr {ps:List zbr} {j:Nat} {p:zbr} (h:ps[j]?=some p) (v:Int):zeh (ps.take (j+1)) v=zeh (ps.take j) v+(if p.v=v/\0<=v then p.c.val else 0):=by
 have:ps.take (j+1)=ps.take j++[p]:=by rw [List.take_add_one,h];rfl
 rw [this,coefZ_app];simp [zeh]
def PsOk (L:Nat) (ps:List zbr):Prop:=ps.length<=1000/\∀ p ∈ ps,Lb p.c.abs/\p.c.abs.length<=L
theorem PsOk.take {L:Nat} {ps:List zbr} (h:PsOk L ps) (j:Nat):PsOk L (ps.take j):=⟨by rw [List.length_take];have:=h.1;omega,fun p hp=>h.2 p (List.mem_of_mem_take hp)⟩
theorem PsOk.get {L:Nat} {ps:List zbr} (h:PsOk L ps) {j:Nat} {p:zbr} (hp:ps[j]?=some p):Lb p.c.abs/\p.c.abs.length<=L:=h.2 p (List.mem_of_getElem? hp)
theorem coefZ_lt {L:Nat}:∀ {ps:List zbr}, (∀ p ∈ ps,Lb p.c.abs/\p.c.abs.length<=L)->∀ v,(zeh ps v).natAbs<=ps.length*pw L
 | [],_,v=>by simp [zeh]
 | p :: ps,h,v=>by
  have ih:=coefZ_lt (fun q hq=>h q (by simp [hq])) v (ps:=ps)
  obtain ⟨h1,h2⟩:=h p (by simp)
  have h3:=ZI.abs_lt h1
  have h4:=zfa h2
  simp only [zeh,List.length_cons,Nat.add_mul]
  split <;> omega
theorem coef_len {L:Nat} {ps:List zbr} (h:PsOk L ps) (v:Int):(ZI.of (zeh ps v)).abs.length<=L+1:=by
 refine ZI.len_of ?_
 have h1:=coefZ_lt h.2 v
 have h2:ps.length*pw L<=1000*pw L:=Nat.mul_le_mul_right _ h.1
 have h3:=zen L
 rw [zbz]
 omega
theorem SCoef (t:zgm) (v:Int) (ht:PsOk 40000 t.parts):Fn Tryz.prog 90 [] [(vT t),vI v] (vz (ZI.of (zeh t.parts v))) []:=by
 refine Fn.body Tryz.func90 rfl 36 rfl fun w H B a h=>Jq 0 [] [(1,vI v),(2,vp 0 0),(4,vp 1 0)] [(0,.box (zT t)),(1,.box [cB false,.d (nsl [])])] h fun a w h=>Jd 2 [] [] [(5,vp 2 0)] [(0,.box (zT t)),(1,.box [cB false,.d (nsl [])]),(2,.box [cB false,.d (nsl [])])] h fun a w h=>qW (Je 3 [] [] [(6,vI 0)] h fun a w h=>qZ ?_)
 refine zb5 (ι:=(Nat) × (ZI)) (fun (j,out)=>out=ZI.of (zeh (t.parts.take j) v)/\j<=t.parts.length)
   (fun (j,out)=>[(1,vI v),(2,vp 0 0),(4,vp 1 0),(5,vp 2 0),(6,vN j)])
   (fun (j,out)=>[(0,.box (zT t)),(1,.box [cB false,.d (nsl [])]),(2,.box (zi out))])
   (fun (j,out)=>t.parts.length - j) (0,(ZI.of 0)) ?_ h (by kernel_rfl) (by kernel_rfl) ?_
 ·exact ⟨by simp [zeh],Nat.zero_le _⟩
 clear h;rintro ⟨j,out⟩ a w hI h;dsimp only at h;obtain ⟨hI1,hI2⟩:=hI;have ln:=ht.1;have lo:out.abs.length<=40001:=by rw [hI1];exact coef_len (ht.take j) v
 have ho:Lb out.abs:=by rw [hI1];exact ZI.lb_of _
 have vo:out.val=zeh (t.parts.take j) v:=by rw [hI1];exact ZI.val_of _
 refine qW (Je 3 [(3,.len (za3 3 zbr.d t.parts))] [] [(12,vb (decide ((j:Int)<(t.parts.length:Int))))] h fun a w h=>zap ((j:Int)<(t.parts.length:Int)) h (fun hc1 hc1'=>?_) (fun hc6 hc6'=>?_))
 ·refine qU (za0 (qW (qZ ?_)));obtain ⟨x1,hx1⟩:=gl t.parts j;obtain ⟨ox1,lx1⟩:=ht.get hx1
  rcases Bool.eq_false_or_eq_true (x1.v == v) with hc2 | hc5
  ·have hc2':=hc2;(try simp at hc2');refine Je 3 [(3,.g (xD 18 16 ta_0 (zab hx1 (f:=zbr.d)) (OV.tmp 17 _))),(7,.cmp (op:=.eql) (m:=x1.v) (n:=v) (b:=true) .i64 hc2)] [12] [(26,vb (decide (v>=0)))] h fun a w h=>zap (v>=0) h (fun hc3 hc3'=>?_) (fun hc4 hc4'=>?_)
   ·obtain ⟨r2,er2,vr2,or2,lr2⟩:=mkZ (v:=out.val+x1.c.val) (m:=out.abs.length+x1.c.abs.length+1) (zdk ho ox1);refine Jm 3 [(4,.g (xD 31 29 ta_0 (zab hx1 (f:=zbr.d)) (OV.tmp 30 _))),(7,.call (Fn.cast (SRAdd out x1.c ho ox1 (by omega) (by omega)) (congrArg vz er2.symm)) ib_5)] [26] [] [(0,.box (zT t)),(1,.box [cB false,.d (nsl [])]),(2,.box (zi r2))] h fun a w h=>zac (za0 (Jf 3 [(1,.j1 j)] [] [(6,vI ((j:Int)+1))] h fun a w h=>za0 (zag (x:=(j,out)) (y:=(j+1,r2)) h ?_ ?_)))
    ·have hc:x1.v=v/\0<=v:=⟨by simpa using hc2,by have:=hc3';omega⟩;exact ⟨by rw [er2,vo,zhr hx1,if_pos hc],by have:=(List.getElem?_eq_some_iff.1 hx1).1;omega⟩
    (try simp);omega
   refine qU (zac (za0 (Jf 3 [(1,.j1 j)] [26] [(6,vI ((j:Int)+1))] h fun a w h=>za0 (zag (x:=(j,out)) (y:=(j+1,out)) h ?_ ?_))))
   ·exact ⟨by rw [hI1,zhr hx1,if_neg (fun hc=>absurd hc.2 (by have:=hc4';omega)),Int.add_zero],by have:=(List.getElem?_eq_some_iff.1 hx1).1;omega⟩
   (try simp);omega
  have hc5':=hc5;(try simp at hc5');refine Je 3 [(3,.g (xD 18 16 ta_0 (zab hx1 (f:=zbr.d)) (OV.tmp 17 _))),(7,.cmp (op:=.eql) (m:=x1.v) (n:=v) (b:=false) .i64 hc5)] [12] [(26,vb false)] h fun a w h=>zbn false h rfl nofun (fun _=>qU (zac (za0 (Jf 3 [(1,.j1 j)] [26] [(6,vI ((j:Int)+1))] h fun a w h=>za0 (zag (x:=(j,out)) (y:=(j+1,out)) h ?_ ?_)))))
  ·exact ⟨by rw [hI1,zhr hx1,if_neg (fun hc=>absurd hc.1 (by simpa using hc5)),Int.add_zero],by have:=(List.getElem?_eq_some_iff.1 hx1).1;omega⟩
  (try simp);omega
 refine wp_exit (zaa (zaa (za5 (za0 (Jq 3 [] [(4,vp 1 0)] [(1,.box (zi out))] h fun a w h=>qV (rA 1 (zi out) h zfd rfl ?_))))));have hj:j=t.parts.length:=by have:=hc6';omega
 subst hj;rw [hI1,List.take_length];try rfl
theorem tb_0:ElZ Tryz.prog 44 3 1:=ElZ.mk' Tryz.underlying44 _ _ rfl rfl (by kernel_rfl) (by kernel_rfl) (by kernel_rfl) (by decide)
theorem zdo:SlT Tryz.prog 44 3 1:=SlT.mk' Tryz.underlying44 (by kernel_rfl)
theorem tb_2:ElT Tryz.prog 44 3 1 8:=ElT.mk' Tryz.underlying44 _ _ rfl rfl (by kernel_rfl) (by kernel_rfl) (by kernel_rfl) (by decide) (by decide)
theorem tb_4:za6 Tryz.prog 90:=za6.mk' (by kernel_rfl)
theorem tb_7:za6 Tryz.prog 91:=za6.mk' (by kernel_rfl)
theorem tb_9:ElZ Tryz.prog 24 132 3:=ElZ.mk' Tryz.underlying24 _ _ rfl rfl (by kernel_rfl) (by kernel_rfl) (by kernel_rfl) (by decide)
theorem zak {α:Type} {xs:List α} {j:Nat} {x:α} (h:xs[j]?=some x):j<xs.length:=(List.getElem?_eq_some_iff.1 h).1
theorem tc_0:za6 Tryz.prog 28:=za6.mk' (by kernel_rfl)
/-- terms of at most n parts, of at most L limbs -/
structure TOk (n L:Nat) (t:zgm):Prop where
  len:t.parts.length<=n
  ps:∀ p ∈ t.parts,Lb p.c.abs/\p.c.abs.length<=L
  kb:Lb t.k.abs
  kl:t.k.abs.length<=L
theorem TOk.mono {n L n' L':Nat} {t:zgm} (h:TOk n L t) (hn:n<=n') (hL:L<=L'):TOk n' L' t :=
 ⟨Nat.le_trans h.len hn,fun p hp=>⟨(h.ps p hp).1,Nat.le_trans (h.ps p hp).2 hL⟩,h.kb,Nat.le_trans h.kl hL⟩
theorem TOk.psok {L:Nat} {t:zgm} (h:TOk 1000 L t):PsOk L t.parts:=⟨h.len,h.ps⟩
theorem TOk.get {n L:Nat} {t:zgm} (h:TOk n L t) {j:Nat} {p:zbr} (hp:t.parts[j]?=some p):Lb p.c.abs/\p.c.abs.length<=L:=h.ps p (List.mem_of_getElem? hp)
theorem td_6:za6 Tryz.prog 127:=za6.mk' (by kernel_rfl)
theorem Scopied (x:ZI) (hx:Lb x.abs) (lx:x.abs.length<=100000):Fn Tryz.prog 144 [] [vz x] (vz (ZI.of x.val)) []:=by
 refine Fn.body Tryz.func144 rfl 8 rfl fun w H B a h=>Jq 0 [] [(1,vp 0 0),(2,vp 1 0)] [(0,.box (zi x)),(1,.box [cB false,.d (nsl [])])] h fun a w h=>?_
 obtain ⟨r1,er1,vr1,or1,lr1⟩:=mkZ (v:=iv x.neg x.abs) (m:=x.abs.length) (zd5 hx);refine Jd 2 [(4,.call (Fn.cast (zi7 x.neg x.abs hx (by omega)) (congrArg vz er1.symm)) ia_3)] [1] [] [(1,.box (zi r1))] h fun a w h=>qV (rA 1 (zi r1) h zfd rfl ?_);rw [er1];try rfl
theorem zef {α:Type} {xs:List α} {F:α->List D} (i:Nat) (x0:List D) (x1:α) {fo:Nat} {ds:List D} (h:zig x0 fo ds=F x1):(xs.map F).set i (zig x0 fo ds)=(xs.set i x1).map F:=by rw [h,List.map_set]
/-- a bound of a part: told, or left out -/
inductive BO:Option Operand->Nat->Nat->List (Nat × V)->Prop
  | no (n:Nat):BO none n n []
  | yes {y:Operand} {k:IntKind} {i:Nat} {rs:List (Nat × V)} (n:Nat) (h:OV y (vi k i) rs):BO (some y) n i rs
section
variable {P:Program}
theorem BO.low {x:Option Operand} {l h:Nat} {rs:List (Nat × V)} (hx:BO x 0 l rs) {e:E} {f:F} {H:Im} {B:Bl} {a:Act} {w:World} (hok:Ok e f H B a w) (hr:∀ p ∈ rs,f.s p.1=some p.2) (hl:l<=h) (c:BoundsCode) :
  (match x.map a.eval with | some v=>Instr.sliceBound v h c | none=>pure 0).run P w = .ok l w:=by
 cases hx with
 | no=>simp
 | yes _ hv =>
  have h2:=(hv.eval hok hr).rawI
  simp only [Option.map_some]
  rw [h2,run_sliceBound (P:=P) w _ _ h c (by omega) (by omega)]
  simp
theorem BO.high {x:Option Operand} {n l h:Nat} {rs:List (Nat × V)} (hx:BO x n l rs) {e:E} {f:F} {H:Im} {B:Bl} {a:Act} {w:World} (hok:Ok e f H B a w) (hr:∀ p ∈ rs,f.s p.1=some p.2) (hl:l<=h) (c:BoundsCode) :
  (match x.map a.eval with | some v=>Instr.sliceBound v h c | none=>pure n).run P w = .ok l w:=by
 cases hx with
 | no=>simp
 | yes _ hv =>
  have h2:=(hv.eval hok hr).rawI
  simp only [Option.map_some]
  rw [h2,run_sliceBound (P:=P) w _ _ h c (by omega) (by omega)]
  simp
theorem run_bounds {lo hi:Option Operand} {len cap l h:Nat} {rs rs':List (Nat × V)} {is:Bool} (hl:BO lo 0 l rs) (hh:BO hi len h rs') {e:E} {f:F} {H:Im} {B:Bl} {a:Act} {w:World} (hok:Ok e f H B a w) (hr:∀ p ∈ rs,f.s p.1=some p.2) (hr':∀ p ∈ rs', f.s p.1=some p.2)
  (h1:l<=h) (h2:h<=cap):(Instr.sliceBounds is len cap (lo.map a.eval) (hi.map a.eval) none).run P w = .ok (l,h,cap) w:=by
 have g1:=hl.low (P:=P) hok hr h1 .sliceB
 have g2:=hh.high (P:=P) hok hr' h2 (if is then .sliceAcap else .sliceAlen)
 cases lo with
 | none =>
  cases hi with
  | none=>cases hl;cases hh;simp [Instr.sliceBounds]
  | some y=>simp only [Option.map_some,Option.map_none] at g1 g2 ⊢;cases hl;simp [Instr.sliceBounds,g2]
 | some x =>
  cases hi with
  | none=>simp only [Option.map_some,Option.map_none] at g1 g2 ⊢;cases hh;simp [Instr.sliceBounds,g1]
  | some y=>simp only [Option.map_some] at g1 g2 ⊢;simp [Instr.sliceBounds,g1,g2]
theorem zhf {t el:TypeId} {es:Nat} (hs:SlT P t el es) {ao:Option Addr} {len cap l h:Nat} {lo hi:Option Value} {w:World} (hb:(Instr.sliceBounds true len cap lo hi none).run P w = .ok (l,h,cap) w) :
  (Instr.sliceAt t (.slice ao len cap) lo hi none).run P w = .ok (.slice (if cap=l then ao else ao.map (·.add (l*es))) (h - l) (cap - l)) w:=by
 simp only [Instr.sliceAt,Instr.slice,Sem.run_bind,run_underlying hs.hu,Result.andThen_ok,hb,size_run hs.hs,Sem.run_pure]
theorem Op.sliceD {d t es l h:Nat} {lo hi:Option Operand} {rows rows':List (List D)} {rs rs':List (Nat × V)} {xt el ty:TypeId} {pos af gd} (hs:SlT P xt el es) (hl:BO lo 0 l rs) (hh:BO hi rows.length h rs') (h1:l<=h) (h2:h<=rows.length) (he:(rows.drop l).take (h - l)=rows') :
  zbg P ⟨some d,.slice xt (.tmp t) lo hi none,ty,pos,af,gd⟩ { rs:=(t,.t (.c (.d (.sl es rows)))) :: (rs++rs'),ws:=[(d,some (.t (.c (.d (.sl es rows')))))] } :=
 zbg.value d _ rfl rfl rfl fun e f H B a w hok hr2=>by
  have g1:=hok.slot t _ (hr2.1 (t,.t (.c (.d (.sl es rows)))) (by simp))
  have g3:DR H (.sl es rows) (a.eval (.tmp t)):=g1
  have bounds:∀ cap,rows.length<=cap->(Instr.sliceBounds true rows.length cap (lo.map a.eval) (hi.map a.eval) none).run P w = .ok (l,h,cap) w:=fun cap hc =>
   run_bounds hl hh hok (fun p hp=>hr2.1 p (by simp [hp])) (fun p hp=>hr2.1 p (by simp [hp])) h1 (by omega)
  generalize hv0:a.eval (.tmp t)=v at g3
  subst he
  cases g3 with
  | nil _ ao c k1 k2 =>
   obtain rfl:h=0:=by simpa using h2
   obtain rfl:l=0:=by omega
   have hrun:=zhf (ao:=ao) hs (bounds c (Nat.zero_le _))
   refine ⟨.slice (if c=0 then ao else ao.map (·.add (0*es))) (0 - 0) (c - 0),?_,?_⟩
   ·generalize a.eval=ρ at hv0 hrun ⊢
    have hrun':(Instr.sliceAt xt (ρ (.tmp t)) (lo.map ρ) (hi.map ρ) ((none:Option Operand).map ρ)).run P w = .ok (.slice (if c=0 then ao else ao.map (·.add (0*es))) (0 - 0) (c - 0)) w:=by rw [hv0];exact hrun
    simp only [execOp,Sem.run_bind,hrun', Result.andThen_ok,Sem.run_pure]
   ·show DR H _ _
    simp only [List.drop_nil,List.take_nil,Nat.sub_zero]
    refine DR.nil es _ c (fun hn=>?_) k2
    split at hn
    ·exact k1 hn
    ·cases ao with
     | none=>exact k1 rfl
     | some _=>cases hn
  | sl _ _ b o c arr ty' fz vs hp hb hlc hc hes hv hx =>
   have hrun:=zhf (ao:=some ⟨b,o,none⟩) hs (bounds c hlc)
   refine ⟨.slice (if c=l then some ⟨b,o,none⟩ else (some (⟨b,o,none⟩:Addr)).map (·.add (l*es))) (h - l) (c - l),?_,?_⟩
   ·generalize a.eval=ρ at hv0 hrun ⊢
    have hrun':(Instr.sliceAt xt (ρ (.tmp t)) (lo.map ρ) (hi.map ρ) ((none:Option Operand).map ρ)).run P w = .ok (.slice (if c=l then some ⟨b,o,none⟩ else (some (⟨b,o,none⟩:Addr)).map (·.add (l*es))) (h - l) (c - l)) w:=by rw [hv0];exact hrun
    simp only [execOp,Sem.run_bind,hrun', Result.andThen_ok,Sem.run_pure]
   ·show DR H _ _
    by_cases h0:h - l=0
    ·rw [h0,List.take_zero]
     refine DR.nil es _ _ (fun hn=>?_) (by omega)
     split at hn <;> cases hn
    ·have hlen:((rows.drop l).take (h - l)).length=h - l:=by rw [List.length_take,List.length_drop];omega
     rw [if_neg (by omega)]
     simp only [Option.map_some,Addr.add_mid]
     have:=DR.sl (H:=H) es ((rows.drop l).take (h - l)) b (o+l*es) (c - l) arr ty' fz (fun i j=>vs (l+i) j) (by omega) hb (by omega) (by omega) (fun i hi2=>by
       rw [List.getElem_take,List.getElem_drop];exact hes _ _)
      (fun i hi2 j hj=>by
       have:=hv (l+i) (by omega) j hj
       rw [Nat.add_mul] at this
       rw [<- this];congr 1;omega)
      (fun i hi2 j hj=>by
       have e1:((rows.drop l).take (h - l))[i]=rows[l+i]'(by omega):=by rw [List.getElem_take,List.getElem_drop]
       have hj':j<(rows[l+i]'(by omega)).length:=by rw [<- e1];exact hj
       have e2:((rows.drop l).take (h - l))[i][j]=(rows[l+i]'(by omega))[j]:=by simp only [e1]
       rw [e2];exact hx (l+i) (by omega) j hj')
     rwa [hlen] at this
theorem Ok.ownCap {e:E} {f:F} {H:Im} {B:Bl} {a:Act} {w:World} (h:Ok e f H B a w) {n:Nat} {ty:TypeId} {es:Nat} {rows:List (List D)} (hl:f.l n=some (.row ty es rows)) {len k:Nat} (hk:k<=rows.length) {v:Value} (hv:CR H B (.own n len) v) :
  ∃ ao c,v = .slice ao len c/\k<=c/\((B n=none/\len=0/\c=0)\/∃ b,B n=some (b,c)/\ao=some ⟨b,0,none⟩):=by
 simp only [CR] at hv
 cases hB:B n with
 | none =>
  rw [hB] at hv
  obtain ⟨rfl,ao,rfl⟩:=hv
  have h1:=h.loc n _ hl
  simp only [LR,hB] at h1
  rw [h1] at hk
  exact ⟨ao,0,rfl,hk,.inl ⟨rfl,rfl,rfl⟩⟩
 | some q =>
  obtain ⟨b,c⟩:=q
  rw [hB] at hv
  obtain ⟨arr,g1,g2,g3,g4,g5,g6⟩:=h.row hl hB
  exact ⟨_,c,hv,by omega,.inr ⟨b,rfl,rfl⟩⟩
theorem Op.sliceHi {d t n len h es:Nat} {y:Operand} {k:IntKind} {rows:List (List D)} {rs:List (Nat × V)} {rty xt el ty:TypeId} {pos af gd} (hs:SlT P xt el es) (hlen:h<=rows.length) (hy:OV y (vi k h) rs) :
  zbg P ⟨some d,.slice xt (.tmp t) none (some y) none,ty,pos,af,gd⟩ { rs:=(t,.t (.c (.own n len))) :: rs,rl:=[(n,.row rty es rows)],ws:=[(d,some (.t (.c (.own n h))))] } :=
 zbg.value d _ rfl rfl rfl fun e f H B a w hok hr2=>by
  have g1:=hok.slot t _ (hr2.1 (t,.t (.c (.own n len))) (by simp))
  obtain ⟨ao,c,hv,hc,hB⟩:=hok.ownCap (hr2.2 (n,.row rty es rows) (by simp)) hlen g1
  have hv:a.eval (.tmp t) = .slice ao len c:=hv
  have hb:=run_bounds (P:=P) (is:=true) (lo:=none) (hi:=some y) (len:=len) (cap:=c) (BO.no 0) (BO.yes len hy) hok (fun p hp=>by cases hp) (fun p hp=>hr2.1 p (by simp [hp])) (Nat.zero_le _) (by omega)
  have hrun:=zhf (ao:=ao) hs hb
  have e1:(if c=0 then ao else ao.map (·.add (0*es)))=ao:=by
   split
   ·rfl
   ·rcases hB with ⟨_,_,h3⟩ | ⟨b,h3,rfl⟩
    ·omega
    ·simp [Addr.add_mid]
  rw [e1] at hrun
  refine ⟨.slice ao h c,?_,?_⟩
  ·generalize a.eval=ρ at hv hrun ⊢
   have hrun':(Instr.sliceAt xt (ρ (.tmp t)) ((none:Option Operand).map ρ) ((some y).map ρ) ((none:Option Operand).map ρ)).run P w = .ok (.slice ao h c) w:=by rw [hv];exact hrun
   simp only [execOp,Sem.run_bind,hrun', Result.andThen_ok,Sem.run_pure]
  ·show CR H B (.own n h) _
   simp only [CR]
   rcases hB with ⟨h2,h3,h4⟩ | ⟨b,h3,rfl⟩
   ·rw [h2];exact ⟨by omega,ao,by rw [show h=0 by omega,h4]⟩
   ·rw [h3]
theorem nilDSr {w0:World} {H0:Im} {B0:Bl} {K:List Nat} {N:Nat} {a:Act} {w:World} {sl:List (Nat × V)} {lc:List (Nat × L)} (t j es:Nat) (v:V) (ao:Option Addr) (c:Nat) (h1:ao=none->c=0) (h2:c<=maxLen) (sl':List (Nat × V)) (lc':List (Nat × L)) (h:St ⟨w0,H0,B0,K,N⟩ (F.of sl lc) a w) (hv:sl.lookup t=some v) (hg:v.getC j=some (.d (.raw (.slice ao 0 c))))
  (h3:leS ((F.of sl lc).setS t (v.setC j (.d (.sl es [])))) sl'=sl'.map fun p=>some p.2:=by kernel_rfl) (h4:leN ((F.of sl lc).setS t (v.setC j (.d (.sl es [])))) lc'=lc'.map fun p=>some p.2:=by kernel_rfl):St ⟨w0,H0,B0,K,N⟩ (F.of sl' lc') a w :=
 (h.nilDS t j es (ao:=ao) hv hg h1 h2).weaken (zg5 h3 h4)
theorem run_eqNil {xt el:TypeId} (hu:P.underlying xt=some (.slice el)) (ao:Option Addr) (n c:Nat) (x y:Operand) (w:World) :
  (do eqGuard .eql xt x y (.slice ao n c) za4;binOp .eql xt (.slice ao n c) za4:Sem Value).run P w = .ok (.bool ao.isNone) w:=by
 have h1:(eqGuard .eql xt x y (.slice ao n c) za4).run P w = .ok () w:=by simp [eqGuard]
 have h2:(binOp .eql xt (.slice ao n c) za4).run P w = .ok (.bool ao.isNone) w:=by
  show (do pure (Value.bool (<- Op.equal xt (.slice ao n c) (.slice none 0 0))):Sem Value).run P w=_
  simp only [Sem.run_bind,run_equal_slice_nil (P:=P) w xt el ao n c hu,Result.andThen_ok,Sem.run_pure]
 simp only [Sem.run_bind,h1,Result.andThen_ok,h2]
theorem Op.eqNilR {d:Nat} {x y:Operand} {ao:Option Addr} {n c:Nat} {rs rs':List (Nat × V)} {xt yt el ty:TypeId} {pos af gd} (hu:P.underlying xt=some (.slice el)) (h:OV x (.t (.c (.d (.raw (.slice ao n c))))) rs) (h':OV y (.t (.c (.d (.raw za4)))) rs') :
  zbg P ⟨some d,.binOp .eql xt x y yt,ty,pos,af,gd⟩ { rs:=rs++rs', ws:=[(d,some (vb ao.isNone))] }:=by
 refine Op.raw2 rfl h h' rfl fun ρ w h1 h2=>?_
 have:=run_eqNil (P:=P) hu ao n c x y w
 simp only [Sem.run_bind] at this
 simp only [execOp,h1,h2,Sem.run_bind,this,Result.andThen_ok,Sem.run_pure]
theorem Op.eqNilD {d t es:Nat} {y:Operand} {rows:List (List D)} {rs':List (Nat × V)} {xt yt el ty:TypeId} {pos af gd} (hu:P.underlying xt=some (.slice el)) (hn:0<rows.length) (h':OV y (.t (.c (.d (.raw za4)))) rs') :
  zbg P ⟨some d,.binOp .eql xt (.tmp t) y yt,ty,pos,af,gd⟩ { rs:=(t,.t (.c (.d (.sl es rows)))) :: rs', ws:=[(d,some (vb false))] } :=
 zbg.value d _ rfl rfl rfl fun e f H B a w hok hr2=>by
  have h1:=hok.slot t _ (hr2.1 (t,.t (.c (.d (.sl es rows)))) (by simp))
  have h2:a.eval y=za4:=(h'.eval hok fun p hp=>hr2.1 p (by simp [hp])).rawI
  have h3:DR H (.sl es rows) (a.eval (.tmp t)):=h1
  generalize hv0:a.eval (.tmp t)=v at h3
  cases h3 with
  | nil ao c=>simp at hn
  | sl _ _ b o c arr ty' fz vs hp hb hl hc hes hv hx =>
   refine ⟨.bool false,?_,DR.raw _ rfl⟩
   generalize a.eval=ρ at hv0 h2 ⊢
   have:=run_eqNil (P:=P) hu (some ⟨b,o,none⟩) rows.length c (.tmp t) y w
   simp only [Sem.run_bind] at this
   simp only [execOp,hv0,h2,Sem.run_bind,this,Result.andThen_ok,Sem.run_pure]
   rfl
theorem Fn.rawE {k:FuncId} {ps qs:List (Nat × L)} {es:Nat} {res:V} (h:∀ (ao:Option Addr) (c:Nat),(ao=none->c=0)->c<=maxLen->Fn P k ps [vW (.slice ao 0 c)] res qs):Fn P k ps [vS es []] res qs:=by
 intro w H B vals pre
 obtain ⟨h1,h2,h3,h4,h5,h0⟩:=pre
 cases vals with
 | nil=>exact h5.elim
 | cons v vs =>
  have h6:DR H (.sl es []) v:=h5.1
  cases h6 with
  | sl _ _ b o c arr ty fz ws hp=>exact absurd hp (by simp)
  | nil _ ao c g1 g2=>exact h ao c g1 g2 w H B _ ⟨h1,h2,h3,h4,⟨DR.raw _ rfl,h5.2⟩,h0⟩
end
theorem tl_5:za6 Tryz.prog 144:=za6.mk' (by kernel_rfl)
theorem tl_7:Sz Tryz.prog 3 1 false:=Sz.mk' (by kernel_rfl) Tryz.underlying3 _ rfl
theorem tl_9:za6 Tryz.prog 60:=za6.mk' (by kernel_rfl)
section
variable {P:Program}
theorem C.owns_tags {n k:Nat} {c:C} (h:k ∈ c.owns n):n ∈ c.tags:=by
 cases c with
 | own m j =>
  simp only [C.owns] at h
  split at h
  ·rename_i e;rw [Nat.eq_of_beq_eq_true e];simp [C.tags]
  ·cases h
 | _=>simp [C.owns] at h
theorem T.owns_tags {n k:Nat} {x:T} (h:k ∈ x.owns n):n ∈ x.tags:=by
 cases x with
 | c x=>exact C.owns_tags h
 | agg cs =>
  obtain ⟨c,hc,hk⟩:=List.mem_flatMap.1 h
  exact List.mem_flatMap.2 ⟨c,hc,C.owns_tags hk⟩
theorem V.owns_tags {n k:Nat} {x:V} (h:k ∈ x.owns n):n ∈ x.tags:=by
 cases x with
 | t x=>exact T.owns_tags h
 | tup cs =>
  obtain ⟨c,hc,hk⟩:=List.mem_flatMap.1 h
  exact List.mem_flatMap.2 ⟨c,hc,T.owns_tags hk⟩
theorem L.owns_tags {n k:Nat} {x:L} (h:k ∈ x.owns n):n ∈ x.tags:=by
 cases x with
 | box cs =>
  obtain ⟨c,hc,hk⟩:=List.mem_flatMap.1 h
  exact List.mem_flatMap.2 ⟨c,hc,C.owns_tags hk⟩
 | row _ _ _=>simp [L.owns] at h
 | mp _=>simp [L.owns] at h
 | bld _ c rest =>
  simp only [L.owns] at h
  simp only [L.tags]
  rcases List.mem_append.1 h with h | h
  ·exact List.mem_append_left _ (C.owns_tags h)
  ·obtain ⟨c,hc,hk⟩:=List.mem_flatMap.1 h
   exact List.mem_append_right _ (List.mem_flatMap.2 ⟨c,hc,C.owns_tags hk⟩)
theorem beqN {m n:Nat} (h:m≠n):Nat.beq m n=false:=by
 cases e:Nat.beq m n with
 | false=>rfl
 | true=>exact absurd (Nat.eq_of_beq_eq_true e) h
theorem C.pub_id {n es:Nat} {rows:List (List D)} {c:C} (h:n ∉ c.tags):c.pub n es rows=c:=by
 cases c <;> simp only [C.pub]
 all_goals (rw [beqN (fun e=>h (by simp [C.tags,e]))];rfl)
theorem zfm {α:Type} {f:α->α}:∀ {l:List α}, (∀ x ∈ l,f x=x)->l.map f=l
 | [],_=>rfl
 | x :: l,h=>by rw [List.map_cons,h x (by simp),zfm fun y hy=>h y (by simp [hy])]
theorem T.pub_id {n es:Nat} {rows:List (List D)} {x:T} (h:n ∉ x.tags):x.pub n es rows=x:=by
 cases x with
 | c x=>simp only [T.pub];rw [C.pub_id h]
 | agg cs=>simp only [T.pub];rw [zfm fun c hc=>C.pub_id fun hn=>h (List.mem_flatMap.2 ⟨c,hc,hn⟩)]
theorem V.pub_id {n es:Nat} {rows:List (List D)} {x:V} (h:n ∉ x.tags):x.pub n es rows=x:=by
 cases x with
 | t x=>simp only [V.pub];rw [T.pub_id h]
 | tup cs=>simp only [V.pub];rw [zfm fun c hc=>T.pub_id fun hn=>h (List.mem_flatMap.2 ⟨c,hc,hn⟩)]
theorem L.pub_id {n es:Nat} {rows:List (List D)} {x:L} (h:n ∉ x.tags):x.pub n es rows=x:=by
 cases x with
 | box cs=>simp only [L.pub];rw [zfm fun c hc=>C.pub_id fun hn=>h (List.mem_flatMap.2 ⟨c,hc,hn⟩)]
 | row _ _ _=>rfl
 | mp _=>rfl
 | bld _ c rest =>
  simp only [L.tags,List.mem_append,not_or,List.mem_flatMap,not_exists,not_and] at h
  simp only [L.pub];rw [C.pub_id h.1,zfm fun c hc=>C.pub_id fun hn=>h.2 c hc hn]
theorem Oper.wp_imp {o:Oper} {a:Act} {w:World} {R R':Act->World->Prop} {Q:Exit->Act->World->Prop} (h:Oper.wp P o a w R Q) (hi:∀ a w,R a w->R' a w):Oper.wp P o a w R' Q:=by
 exact Go.Oper.wp_mono hi h
theorem Op.appODp {d t u n n' len es bs:Nat} {rows rows2 rows':List (List D)} {xt el ty:TypeId} {pos af gd} (hT:ElT P xt el es bs) (hlen:len=rows.length) (hrow:rows++rows2=rows')
  (hes2:∀ r ∈ rows2,r.length=es) (hb:(len+rows2.length)*bs<=140737488355328) :
  zbg P ⟨some d,.call { callee:=.builtin .append,args:=#[.tmp t,.tmp u],argTypes:=#[xt,xt] }, ty,pos,af,gd⟩
   { rs:=[(t,.t (.c (.own n len))),(u,.t (.c (.d (.sl es rows2))))],rl:=[(n,.row el es rows)],ws:=[(d,some (.t (.c (.d (.sl es rows')))))],wl:=[(n,none)],nw:=[n'],k0:=true }:=by
 intro e f a w Q hst hr hnw hb0
 have hnew:=hnw n' (by simp)
 have hK:=hb0.2 rfl
 have hl':len+rows2.length=rows'.length:=by rw [<- hrow,List.length_append,hlen]
 refine Oper.wp_imp (Op.appOD (n':=n') (len':=rows'.length) hT hlen hl'.symm hrow hes2 hb e f a w Q hst ⟨hr.1,hr.2⟩ (fun m hm=>hnw m hm) ⟨fun p hp=>?_,fun h0=>(by cases h0)⟩) fun a' w' h1=>?_
 ·have:=hb0.1 (d,some (.t (.c (.d (.sl es rows'))))) (by simp)
  simp at hp
  rw [hp];exact this
 ·obtain ⟨w0,H0,B0,K,N⟩:=e
  simp only at hK
  subst hK
  have hne:n≠n':=fun e=>by have:=hnew.2.1;rw [<- e,hr.2 (n,.row el es rows) (by simp)] at this;cases this
  generalize hg:f.app { rs:=[(t,.t (.c (.own n len))),(u,.t (.c (.d (.sl es rows2))))],rl:=[(n,.row el es rows)],ws:=[(d,some (.t (.c (.own n' rows'.length))))],wl:=[(n', some (.row el es rows')),(n,none)],nw:=[n'] }=g at h1
  have gs:∀ x,g.s x=if x=d then some (.t (.c (.own n' rows'.length))) else f.s x:=fun x=>by rw [<- hg];exact zh3 f d _ _ rfl x
  have gl:∀ m,g.l m=if m=n' then some (.row el es rows') else if m=n then none else f.l m:=fun m=>by
   rw [<- hg]
   simp only [F.app,List.lookup]
   by_cases e1:m=n'
   ·simp [e1]
   ·have g1:(m == n')=false:=by simpa using e1
    by_cases e2:m=n
    ·subst e2;simp [g1,e1]
    ·have g2:(m == n)=false:=by simpa using e2
     simp [g1,g2,e1,e2]
  have h2:=h1.pub n' es el rows' (by rw [gl,if_pos rfl]) (fun x v hv k hk=>by
   rw [gs] at hv
   split at hv
   ·injection hv with hv;subst hv
    have:k ∈ (if Nat.beq n' n' then [rows'.length] else []):=hk
    simpa using this
   ·exact absurd (V.owns_tags hk) (hnew.2.2.1 x v hv)) (fun m l hm k hk=>by
   rw [gl] at hm
   split at hm
   ·injection hm with hm;subst hm;cases hk
   ·split at hm
    ·cases hm
    ·exact absurd (L.owns_tags hk) (hnew.2.2.2 m l hm))
  refine h2.weaken ⟨fun x v hv=>?_,fun m l hm=>?_⟩
  ·have hv':(if x=d then some (.t (.c (.d (.sl es rows')))) else f.s x)=some v:=by rw [<- hv];exact (zh3 f d _ _ rfl x).symm
   simp only [F.pub,gs]
   split at hv'
   ·rename_i e1
    injection hv' with hv'
    rw [if_pos e1,<- hv']
    simp [V.pub,T.pub,C.pub]
   ·rename_i e1
    rw [if_neg e1,hv', Option.map_some,V.pub_id (hnew.2.2.1 x v hv')]
  ·have hm':(if m=n then none else f.l m)=some l:=by rw [<- hm];exact (app1_l f n none _ rfl m).symm
   split at hm'
   ·cases hm'
   ·rename_i e1
    have e2:m≠n':=fun e=>by have:=hnew.2.1;rw [<- e,hm'] at this;cases this
    simp only [F.pub,gl]
    rw [if_neg e2,if_neg e1,beqN e2,hm']
    simp only [Bool.false_eq_true,if_false,Option.map_some]
    rw [L.pub_id (hnew.2.2.2 m l hm')]
end
theorem tm_10:za6 Tryz.prog 61:=za6.mk' (by kernel_rfl)
theorem tm_12:za6 Tryz.prog 145:=za6.mk' (by kernel_rfl)
def idxI (v:Int):List Int->Nat->Int
  | [],_=>-1
  | x :: xs,n=>if v=x then n else idxI v xs (n+1)
theorem idxI_at {v:Int} {xs:List Int} {j:Nat} {x:Int} (h:xs[j]?=some x):idxI v (xs.drop j) j=if v=x then (j:Int) else idxI v (xs.drop (j+1)) (j+1):=by
 obtain ⟨hj,rfl⟩:=List.getElem?_eq_some_iff.1 h
 rw [List.drop_eq_getElem_cons hj];rfl
section
variable {P:Program}
theorem Op.raw2c {b:Builtin} {d:Nat} {x y:Operand} {v v' u:Value} {rs rs':List (Nat × V)} {tys:Array TypeId} {ty:TypeId} {pos af gd} (h:OV x (.t (.c (.d (.raw v)))) rs) (h':OV y (.t (.c (.d (.raw v')))) rs') (hf:flat u=true)
  (hrun:∀ (cs:Array Bool) w,(builtin b tys ty cs #[v,v']).run P w = .ok (.value u) w):zbg P ⟨some d,.call { callee:=.builtin b,args:=#[x,y],argTypes:=tys }, ty,pos,af,gd⟩ { rs:=rs++rs', ws:=[(d,some (.t (.c (.d (.raw u)))))] } :=
 Op.raw2 rfl h h' hf fun ρ w h1 h2=>by
  have e1:(Array.map ρ #[x,y])=#[ρ x,ρ y]:=by simp
  simp only [execOp,resolve,e1,h1,h2,Sem.run_bind,Sem.run_pure,Result.andThen_ok,invoke,hrun]
theorem Op.max2 {d:Nat} {x y:Operand} {k:IntKind} {m n r:Int} {rs rs':List (Nat × V)} {tys:Array TypeId} {ty:TypeId} {pos af gd} (h:OV x (vi k m) rs) (h':OV y (vi k n) rs') (he:r=max m n) :
  zbg P ⟨some d,.call { callee:=.builtin .max,args:=#[x,y],argTypes:=tys }, ty,pos,af,gd⟩ { rs:=rs++rs', ws:=[(d,some (vi k r))] }:=by
 subst he
 refine Op.raw2c h h' rfl fun cs w=>?_
 by_cases hc:m<n
 ·simp [builtin,Builtin.max_,Builtin.max2,hc,Int.max_eq_right (Int.le_of_lt hc)]
 ·simp [builtin,Builtin.max_,Builtin.max2,hc,Int.max_eq_left (Int.not_lt.1 hc)]
theorem Op.min2 {d:Nat} {x y:Operand} {k:IntKind} {m n r:Int} {rs rs':List (Nat × V)} {tys:Array TypeId} {ty:TypeId} {pos af gd} (h:OV x (vi k m) rs) (h':OV y (vi k n) rs') (he:r=min m n) :
  zbg P ⟨some d,.call { callee:=.builtin .min,args:=#[x,y],argTypes:=tys }, ty,pos,af,gd⟩ { rs:=rs++rs', ws:=[(d,some (vi k r))] }:=by
 subst he
 refine Op.raw2c h h' rfl fun cs w=>?_
 by_cases hc:n<m
 ·simp [builtin,Builtin.min_,Builtin.min2,hc,Int.min_eq_right (Int.le_of_lt hc)]
 ·simp [builtin,Builtin.min_,Builtin.min2,hc,Int.min_eq_left (Int.not_lt.1 hc)]
end
theorem SIndex (xs:List Int) (v:Int) (hl:xs.length<=1000000):Fn Tryz.prog 135 [] [(vIs xs),vI v] (vI (idxI v xs 0)) []:=by
 refine Fn.body Tryz.func135 rfl 19 rfl fun w H B a h=>Jq 0 [] [(0,(vIs xs)),(1,vI v),(4,vI 0)] [] h fun a w h=>qW (Jd 0 [(1,.len (za3 1 zad xs))] [] [(7,vN xs.length),(8,vI 0)] [] h fun a w h=>qZ ?_)
 refine zb5 (ι:=(Nat)) (fun j=>j<=xs.length/\idxI v xs 0=idxI v (xs.drop j) j)
   (fun j=>[(0,(vIs xs)),(1,vI v),(7,vN xs.length),(8,vN j)])
   (fun j=>[])
   (fun j=>xs.length - j) 0 ?_ h (by kernel_rfl) (by kernel_rfl) ?_
 ·exact ⟨Nat.zero_le _,rfl⟩
 clear h;rintro j a w hI h;obtain ⟨hI1,hI2⟩:=hI;refine Jd 0 [] [] [(9,vb (decide ((j:Int)<(xs.length:Int))))] [] h fun a w h=>qW (zap ((j:Int)<(xs.length:Int)) h (fun hc1 hc1'=>?_) (fun hc4 hc4'=>?_))
 ·refine qU (za0 (qW (qZ (Jd 0 [] [9] [(5,vN j)] [] h fun a w h=>?_))));obtain ⟨x1,hx1⟩:=gl xs j;refine Jd 0 [(3,.g (xD 14 12 zdo (zab hx1 (f:=zad)) (OV.tmp 13 _)))] [] [(16,vb (v == x1))] [] h fun a w h=>cS (v == x1) h (fun hc2=>?_) (fun hc3=>?_)
  ·have hc2':=hc2;(try simp at hc2');refine Jd 0 [] [5,16] [(4,vN j)] [] h fun a w h=>qV (za7 (za2 (za2 (za7 (za2 (rT (.c (cI (j:Int))) h rfl ?_))))));have hz:idxI v xs 0=(j:Int):=by rw [hI2,idxI_at hx1,if_pos (by simpa using hc2)]
   rw [hz];try rfl
  have hc3':=hc3;(try simp at hc3');refine qU (zac (za0 (Jm 0 [(0,.j1 j)] [5,16] [(8,vI ((j:Int)+1))] [] h fun a w h=>za0 (zag (x:=j) (y:=j+1) h ?_ ?_))))
  ·exact ⟨by have:=zak hx1;omega,by rw [hI2,idxI_at hx1,if_neg (by simpa using hc3)]⟩
  show xs.length - (j+1)<xs.length - j;have:=zak hx1;omega
 refine wp_exit (zaa (zaa (za5 (za0 (Jq 0 [] [(4,vI (-1))] [] h fun a w h=>qV (rT (.c (cI (-1))) h rfl ?_))))));have hz:idxI v xs 0=-1:=by rw [hI2,List.drop_of_length_le (by omega)];rfl
 rw [hz];try rfl
theorem tq_7:za6 Tryz.prog 135:=za6.mk' (by kernel_rfl)
end S
end Go.Proofs.YtdnhcneallkljaaGreat
section
namespace Go.Proofs
open Go.Shelf
end Go.Proofs
end
namespace Go.Proofs.YtdnhcneallkljaaGreat
def bl (x:Nat):Nat:=Lib.bitLen x
/-! ### windows -/
def ch (s:ByteArray) (i:Nat):Nat:=(s.data.toList.map UInt8.toNat).getD i 0
def isd (s:ByteArray) (i:Nat):Prop:=48<=ch s i/\ch s i<=57
def alld (s:ByteArray) (k:Nat):Prop:=∀ i,i<k->isd s i
instance (s:ByteArray) (i:Nat):Decidable (isd s i):=inferInstanceAs (Decidable (_/\_))
instance (s:ByteArray) (k:Nat):Decidable (alld s k):=Nat.decidableBallLT k (fun i _=>isd s i)
theorem cells32:(Value.int .u32 0).cells=#[Value.int .u32 0]:=rfl
namespace S
theorem fmod_neg_range (a:Int) {b:Int} (h:b<0):b<a.fmod b/\a.fmod b<=0:=by
 have h1:=Int.fmod_lt_of_pos (-a) (b:=-b) (by omega)
 have h2:=Int.fmod_nonneg_of_pos (-a) (b:=-b) (by omega)
 rw [Int.neg_fmod_neg] at h1 h2
 omega
theorem fmod_range (a:Int) {b:Int} (_hb:b≠0):(0<b->0<=a.fmod b/\a.fmod b<b)/\(b<0->b<a.fmod b/\a.fmod b<=0) :=
 ⟨fun h=>⟨Int.fmod_nonneg_of_pos a h,Int.fmod_lt_of_pos a h⟩,fun h=>fmod_neg_range a h⟩
theorem fmod_natAbs_lt (X:Int) {Y:Int} (hY:Y≠0):(X.fmod Y).natAbs<Y.natAbs:=by
 obtain ⟨h1,h2⟩:=fmod_range X hY
 rcases Int.lt_or_lt_of_ne hY with g | g
 ·have:=h2 g;omega
 ·have:=h1 g;omega
def bez (r0 x0 y0 r1 x1 y1:Int):Int × Int × Int :=
  if _h:r1<=0 then (r0,x0,y0) else bez r1 x1 y1 (r0.fmod r1) (x0 - r0.fdiv r1*x1) (y0 - r0.fdiv r1*y1)
  termination_by r1.natAbs
  decreasing_by exact fmod_natAbs_lt _ (by omega)
theorem zs_0:za6 Tryz.prog 112:=za6.mk' (by kernel_rfl)
theorem zs_3:za6 Tryz.prog 120:=za6.mk' (by kernel_rfl)
theorem zs_6:za6 Tryz.prog 128:=za6.mk' (by kernel_rfl)
theorem zs_7:za6 Tryz.prog 72:=za6.mk' (by kernel_rfl)
theorem zs_16:za6 Tryz.prog 63:=za6.mk' (by kernel_rfl)
theorem zs_18:za6 Tryz.prog 89:=za6.mk' (by kernel_rfl)
theorem SSub (x y:ZI) (hx:Lb x.abs) (hy:Lb y.abs) (lx:x.abs.length<=49000) (ly:y.abs.length<=49000):Fn Tryz.prog 63 [] [vz x,vz y] (vz (ZI.of (x.val - y.val))) []:=by
 refine Fn.body Tryz.func63 rfl 9 rfl fun w H B a h=>Jq 0 [] [(2,vp 0 0),(3,vp 1 0),(4,vp 2 0)] [(0,.box (zi x)),(1,.box (zi y)),(2,.box [cB false,.d (nsl [])])] h fun a w h=>?_
 obtain ⟨r1,er1,vr1,or1,lr1⟩:=mkZ (v:=-y.val) (m:=y.abs.length) (len_neg hy);obtain ⟨r2,er2,vr2,or2,lr2⟩:=mkZ (v:=x.val+r1.val) (m:=x.abs.length+r1.abs.length+1) (zdk hx or1);refine Jq 3 [(2,.call (Fn.cast (SNeg y hy (by omega)) (congrArg vz er1.symm)) zs_0),(3,.call (Fn.cast (SAdd x r1 hx or1 (by omega) (by omega)) (congrArg vz er2.symm)) tl_9)] [(4,vp 2 0)] [(2,.box (zi r2))] h fun a w h=>qV (rA 2 (zi r2) h zfd rfl (congrArg (fun z=>vz z) (er2.trans (congrArg ZI.of ?_))));rw [vr1];omega
theorem SRSub (x y:ZI) (hx:Lb x.abs) (hy:Lb y.abs) (lx:x.abs.length<=49000) (ly:y.abs.length<=49000):Fn Tryz.prog 72 [] [vz x,vz y] (vz (ZI.of (x.val - y.val))) []:=by
 refine Fn.body Tryz.func72 rfl 9 rfl fun w H B a h=>Jq 0 [] [(2,vp 0 0),(3,vp 1 0),(4,vp 2 0)] [(0,.box (zi x)),(1,.box (zi y)),(2,.box [cB false,.d (nsl [])])] h fun a w h=>?_
 obtain ⟨r1,er1,vr1,or1,lr1⟩:=mkZ (v:=-y.val) (m:=y.abs.length) (len_neg hy);obtain ⟨r2,er2,vr2,or2,lr2⟩:=mkZ (v:=x.val+r1.val) (m:=x.abs.length+r1.abs.length+1) (zdk hx or1);refine Jq 3 [(2,.call (Fn.cast (SRNeg y hy (by omega)) (congrArg vz er1.symm)) zs_3),(3,.call (Fn.cast (SRAdd x r1 hx or1 (by omega) (by omega)) (congrArg vz er2.symm)) ib_5)] [(4,vp 2 0)] [(2,.box (zi r2))] h fun a w h=>qV (rA 2 (zi r2) h zfd rfl (congrArg (fun z=>vz z) (er2.trans (congrArg ZI.of ?_))));rw [vr1];omega
theorem zir (x y:ZI):(sgn x.val<sgn y.val->(-1:Int)=zdl x.val y.val)/\(¬ sgn x.val<sgn y.val->sgn x.val>sgn y.val->(1:Int)=zdl x.val y.val)/\(¬ sgn x.val<sgn y.val->¬ sgn x.val>sgn y.val->sgn x.val<0->zh2 (nV y.abs) (nV x.abs)=zdl x.val y.val)/\(¬ sgn x.val<sgn y.val->¬ sgn x.val>sgn y.val->¬ sgn x.val<0->zh2 (nV x.abs) (nV y.abs)=zdl x.val y.val):=by
 have e1:∀ z:Int,(0<z->sgn z=1)/\(z<0->sgn z=-1)/\(z=0->sgn z=0):=fun z=>⟨sgn_pos,zgc,zgr⟩
 rcases zgt x with ⟨h1,h2⟩ | ⟨h1,h2,h3⟩ | ⟨h1,h2⟩ <;> rcases zgt y with ⟨k1,k2⟩ | ⟨k1,k2,k3⟩ | ⟨k1,k2⟩ <;>
  have a1:=e1 x.val <;> have a2:=e1 y.val <;> rw [h1,k1] <;> rw [h1] at a1 <;> rw [k1] at a2 <;> unfold zdl zh2 <;> refine ⟨fun _=>?_,fun _ _=>?_,fun _ _ _=>?_,fun _ _ _=>?_⟩ <;> first | omega | (split <;> first | omega | (split <;> first | omega | (split <;> first | omega | (split <;> omega))))
theorem SCmp (x y:ZI) (hx:Lb x.abs) (hy:Lb y.abs) (lx:x.abs.length<=49000) (ly:y.abs.length<=49000):Fn Tryz.prog 80 [] [vz x,vz y] (vI (zdl x.val y.val)) []:=by
 refine Fn.body Tryz.func80 rfl 32 rfl fun w H B a h=>Jq 0 [] [(2,vp 0 0),(3,vp 1 0),(4,vI 0)] [(0,.box (zi x)),(1,.box (zi y))] h fun a w h=>Je 2 [(1,.call (SSign x hx (by omega)) td_6),(3,.call (SSign y hy (by omega)) td_6)] [] [(5,vI (sgn x.val)),(6,vI (sgn y.val))] h fun a w h=>qW (qZ (Je 2 [] [] [(11,vb (decide (sgn x.val<sgn y.val)))] h fun a w h=>zap (sgn x.val<sgn y.val) h (fun hc1 hc1'=>?_) (fun hc2 hc2'=>?_)))
 ·refine Je 2 [] [5,6,11] [(4,vI (-1))] h fun a w h=>qV (za7 (za2 (rT (.c (cI (-1))) h rfl ?_)));exact congrArg (vi .i64) ((zir x y).1 hc1')
 refine Je 2 [] [6,11] [(15,vb (decide (sgn x.val>sgn y.val)))] h fun a w h=>zap (sgn x.val>sgn y.val) h (fun hc3 hc3'=>?_) (fun hc4 hc4'=>?_)
 ·refine Je 2 [] [5,15] [(4,vI 1)] h fun a w h=>qV (za7 (za2 (rT (.c (cI 1)) h rfl ?_)));exact congrArg (vi .i64) ((zir x y).2.1 hc2' hc3')
 refine Je 2 [] [5,15] [(19,vb (decide (sgn x.val<0)))] h fun a w h=>zap (sgn x.val<0) h (fun hc5 hc5'=>?_) (fun hc6 hc6'=>?_)
 ·refine Je 2 [(4,.call (SnCmp y.abs x.abs hy hx) zs_6)] [19] [(4,vI (zh2 (nV y.abs) (nV x.abs)))] h fun a w h=>qV (za7 (za2 (rT (.c (cI (zh2 (nV y.abs) (nV x.abs)))) h rfl ?_)));exact congrArg (vi .i64) ((zir x y).2.2.1 hc2' hc4' hc5')
 refine qU (zac (za0 (Jq 2 [(4,.call (SnCmp x.abs y.abs hx hy) zs_6)] [(4,vI (zh2 (nV x.abs) (nV y.abs)))] [] h fun a w h=>qV (rT (.c (cI (zh2 (nV x.abs) (nV y.abs)))) h rfl ?_))));exact congrArg (vi .i64) ((zir x y).2.2.2 hc2' hc4' hc6')
theorem SRCmp (x y:ZI) (hx:Lb x.abs) (hy:Lb y.abs) (lx:x.abs.length<=49000) (ly:y.abs.length<=49000):Fn Tryz.prog 35 [] [vz x,vz y] (vI (zdl x.val y.val)) []:=by
 refine Fn.body Tryz.func35 rfl 9 rfl fun w H B a h=>Jq 0 [] [(2,vp 0 0),(3,vp 1 0),(4,vI 0)] [(0,.box (zi x)),(1,.box (zi y))] h fun a w h=>?_
 obtain ⟨r1,er1,vr1,or1,lr1⟩:=mkZ (v:=x.val - y.val) (m:=x.abs.length+y.abs.length+1) (len_sub hx hy);refine Jq 2 [(2,.call (Fn.cast (SRSub x y hx hy (by omega) (by omega)) (congrArg vz er1.symm)) zs_7),(3,.call (zd6 r1 or1 (by omega)) ib_0)] [(4,vI (sgn r1.val))] [] h fun a w h=>qV (rT (.c (cI (sgn r1.val))) h rfl ?_);rw [vr1,cmpZ_sgn];try rfl
theorem zh9:SlT Tryz.prog 45 28 2:=SlT.mk' Tryz.underlying45 (by kernel_rfl)
def zi2 (vs:List ZI) (v:Int):Int:=if 0<=v then ((vs[v.toNat]?).map ZI.val).getD 0 else 0
def zgo (vs:List ZI):List zbr->Int
  | []=>0
  | p :: ps=>p.c.val*zi2 vs p.v+zgo vs ps
theorem valP_app (vs:List ZI) (ps qs:List zbr):zgo vs (ps++qs)=zgo vs ps+zgo vs qs:=by
 induction ps with
 | nil=>simp [zgo]
 | cons p ps ih=>simp only [List.cons_append,zgo,ih];omega
theorem valP_take {vs:List ZI} {ps:List zbr} {j:Nat} {p:zbr} (h:ps[j]?=some p):zgo vs (ps.take (j+1))=zgo vs (ps.take j)+p.c.val*zi2 vs p.v:=by
 have:ps.take (j+1)=ps.take j++[p]:=by rw [List.take_add_one,h];rfl
 rw [this,valP_app];simp [zgo]
theorem valAt_some {vs:List ZI} {v:Int} {k:Nat} {y:ZI} (h:v=(k:Int)) (hy:vs[k]?=some y):zi2 vs v=y.val:=by
 subst h
 unfold zi2
 rw [if_pos (by omega),Int.toNat_natCast,hy];rfl
theorem valAt_neg {vs:List ZI} {v:Int} (h:¬ v>=0):zi2 vs v=0:=by unfold zi2;rw [if_neg (by omega)]
theorem valAt_out {vs:List ZI} {v:Int} (h:¬ v<(vs.length:Int)):zi2 vs v=0:=by
 unfold zi2
 split
 ·rw [List.getElem?_eq_none (by omega)];rfl
 ·rfl
def valT (t:zgm) (vs:List ZI):Int:=t.k.val+zgo vs t.parts
def VOk (M:Nat) (vs:List ZI):Prop:=vs.length<=2000/\∀ y ∈ vs,Lb y.abs/\y.abs.length<=M
theorem VOk.get {M:Nat} {vs:List ZI} (h:VOk M vs) {j:Nat} {y:ZI} (hy:vs[j]?=some y):Lb y.abs/\y.abs.length<=M:=h.2 y (List.mem_of_getElem? hy)
theorem valAt_lt {M:Nat} {vs:List ZI} (h:VOk M vs) (v:Int):(zi2 vs v).natAbs<pw M:=by
 unfold zi2
 split
 ·cases hy:vs[v.toNat]? with
  | none=>exact zen M
  | some y =>
   obtain ⟨h1,h2⟩:=h.get hy
   have h3:=ZI.abs_lt h1
   have h4:=zfa h2
   show y.val.natAbs<_
   omega
 ·exact zen M
theorem valP_lt {L M:Nat} {vs:List ZI} (hv:VOk M vs):∀ {ps:List zbr}, (∀ p ∈ ps,Lb p.c.abs/\p.c.abs.length<=L)->(zgo vs ps).natAbs<=ps.length*pw (L+M)
 | [],_=>by simp [zgo]
 | p :: ps,h=>by
  have ih:=valP_lt hv (fun q hq=>h q (by simp [hq])) (ps:=ps)
  obtain ⟨h1,h2⟩:=h p (by simp)
  have h3:=Nat.lt_of_lt_of_le (ZI.abs_lt h1) (zfa h2)
  have h4:(p.c.val*zi2 vs p.v).natAbs<pw (L+M):=by
   rw [Int.natAbs_mul,pw_add]
   exact Nat.mul_lt_mul'' h3 (valAt_lt hv p.v)
  simp only [zgo,List.length_cons,Nat.add_mul]
  omega
theorem zfg {n L M:Nat} {t:zgm} {vs:List ZI} (ht:TOk n L t) (hn:n<=1000) (hv:VOk M vs) {ps:List zbr} (hp:∀ p ∈ ps,p ∈ t.parts) (hl:ps.length<=t.parts.length):(ZI.of (t.k.val+zgo vs ps)).abs.length<=L+M+1:=by
 refine ZI.len_of ?_
 have h1:=valP_lt hv (fun p h=>ht.ps p (hp p h)) (L:=L)
 have h2:ps.length*pw (L+M)<=1000*pw (L+M):=Nat.mul_le_mul_right _ (by have:=ht.len;omega)
 have h3:=Nat.lt_of_lt_of_le (ZI.abs_lt ht.kb) (zfa ht.kl)
 have h4:=zfa (show L<=L+M by omega)
 rw [zbz]
 omega
theorem SValue (t:zgm) (vs:List ZI) {n L M:Nat} (ht:TOk n L t) (hn:n<=1000) (hL:L+M<=20000) (hv:VOk M vs):Fn Tryz.prog 126 [] [(vT t),(vZs vs)] (vz (ZI.of (valT t vs))) []:=by
 have kt:=ht.kl;have lnv:=hv.1;refine Fn.body Tryz.func126 rfl 40 rfl fun w H B a h=>Jq 0 [] [(1,(vZs vs)),(2,vp 0 0),(4,vp 1 0)] [(0,.box (zT t)),(1,.box [cB false,.d (nsl [])])] h fun a w h=>?_
 obtain ⟨r1,er1,vr1,or1,lr1⟩:=mkZ (v:=t.k.val) (m:=t.k.abs.length) (zgy ht.kb);refine Jd 2 [(2,.call (Fn.cast (Scopied t.k ht.kb (by omega)) (congrArg vz er1.symm)) tl_5)] [] [(5,vp 2 0)] [(0,.box (zT t)),(1,.box [cB false,.d (nsl [])]),(2,.box (zi r1))] h fun a w h=>qW (Jd 3 [(2,.len (za3 3 zbr.d t.parts))] [2] [(12,(vPs t.parts)),(13,vN t.parts.length),(14,vI 0)] [(1,.box [cB false,.d (nsl [])]),(2,.box (zi r1))] h fun a w h=>qZ ?_)
 refine zb5 (ι:=(Nat) × (ZI)) (fun (j,out)=>out=ZI.of (t.k.val+zgo vs (t.parts.take j))/\j<=t.parts.length)
   (fun (j,out)=>[(1,(vZs vs)),(4,vp 1 0),(5,vp 2 0),(12,(vPs t.parts)),(13,vN t.parts.length),(14,vN j)])
   (fun (j,out)=>[(1,.box [cB false,.d (nsl [])]),(2,.box (zi out))])
   (fun (j,out)=>t.parts.length - j) (0,r1) ?_ h (by kernel_rfl) (by kernel_rfl) ?_
 ·exact ⟨by rw [er1];simp [zgo],Nat.zero_le _⟩
 clear h;rintro ⟨j,out⟩ a w hI h;dsimp only at h;obtain ⟨hI1,hI2⟩:=hI;have ln:=ht.len;have lo:out.abs.length<=L+M+1:=by rw [hI1];exact zfg ht hn hv (fun p hp=>List.mem_of_mem_take hp) (by rw [List.length_take];omega)
 have ho:Lb out.abs:=by rw [hI1];exact ZI.lb_of _
 have vo:out.val=t.k.val+zgo vs (t.parts.take j):=by rw [hI1];exact ZI.val_of _
 refine Je 3 [] [] [(15,vb (decide ((j:Int)<(t.parts.length:Int))))] h fun a w h=>qW (zap ((j:Int)<(t.parts.length:Int)) h (fun hc1 hc1'=>?_) (fun hc6 hc6'=>?_))
 ·refine qU (za0 (qW (qZ ?_)));obtain ⟨x2,hx2⟩:=gl t.parts j;obtain ⟨ox2,lx2⟩:=ht.get hx2;refine Jd 3 [(0,.g (xD 16 12 ta_0 (zab hx2 (f:=zbr.d)) (OV.tmp 14 _)))] [15] [(7,vp 3 0)] [(1,.box [cB false,.d (nsl [])]),(2,.box (zi out)),(3,.box ([cI x2.v]++zi x2.c))] h fun a w h=>?_
  rcases Bool.eq_false_or_eq_true (decide (x2.v>=0)) with hc2 | hc5
  ·have hc2':=dT hc2;refine Je 4 [(2,.cmp (op:=.geq) (m:=x2.v) (n:=0) (b:=true) .i64 hc2),(7,.len (za3 2 ziD vs))] [] [(27,vb (decide (x2.v<(vs.length:Int))))] h fun a w h=>zap (x2.v<(vs.length:Int)) h (fun hc3 hc3'=>?_) (fun hc4 hc4'=>?_)
   ·obtain ⟨k,hk⟩:∃ k:Nat,x2.v=(k:Int):=⟨_,(Int.toNat_of_nonneg (by omega)).symm⟩;replace h:=h.conv (f':=F.of [(1,(vZs vs)),(4,vp 1 0),(5,vp 2 0),(7,vp 3 0),(12,(vPs t.parts)),(13,vN t.parts.length),(14,vN j),(27,vb (decide (x2.v<(vs.length:Int))))] [(1,.box [cB false,.d (nsl [])]),(2,.box (zi out)),(3,.box ([cI (k:Int)]++zi x2.c))]) (by rw [hk];kernel_rfl);obtain ⟨x3,hx3⟩:=gl vs k;obtain ⟨ox3,lx3⟩:=hv.get hx3;obtain ⟨r4,er4,vr4,or4,lr4⟩:=mkZ (v:=x2.c.val*x3.val) (m:=x2.c.abs.length+x3.abs.length) (len_mul ox2 ox3);obtain ⟨r5,er5,vr5,or5,lr5⟩:=mkZ (v:=out.val+r4.val) (m:=out.abs.length+r4.abs.length+1) (zdk ho or4);refine Jn 4 [(6,.g (xD 34 31 zh9 (zab hx3 (f:=ziD)) (OV.tmp 33 _))),(8,.call (Fn.cast (SMul x2.c x3 ox2 ox3 (by omega) (by omega)) (congrArg vz er4.symm)) tm_12),(9,.call (Fn.cast (SAdd out r4 ho or4 (by omega) (by omega)) (congrArg vz er5.symm)) tl_9)] [(1,(vZs vs)),(4,vp 1 0),(5,vp 2 0),(12,(vPs t.parts)),(13,vN t.parts.length),(14,vN j)] [(1,.box [cB false,.d (nsl [])]),(2,.box (zi r5))] h fun a w h=>zac (za0 (Jf 4 [(0,.j1 j)] [] [(14,vI ((j:Int)+1))] h fun a w h=>za0 (zag (x:=(j,out)) (y:=((j+1),r5)) h ?_ ?_)))
    ·have:=zak hx2;exact ⟨by rw [er5,vr4,vo,valP_take hx2,valAt_some hk hx3,<- Int.add_assoc],by omega⟩
    show t.parts.length - (j+1)<t.parts.length - j;have:=zak hx2;omega
   refine qU (zac (za0 (Jm 4 [(0,.j1 j)] [7,27] [(14,vI ((j:Int)+1))] [(1,.box [cB false,.d (nsl [])]),(2,.box (zi out))] h fun a w h=>za0 (zag (x:=(j,out)) (y:=((j+1),out)) h ?_ ?_))))
   ·have:=zak hx2;exact ⟨by rw [hI1,valP_take hx2,valAt_out hc4', Int.mul_zero,Int.add_zero],by omega⟩
   show t.parts.length - (j+1)<t.parts.length - j;have:=zak hx2;omega
  have hc5':=dF hc5;refine Je 4 [(2,.cmp (op:=.geq) (m:=x2.v) (n:=0) (b:=false) .i64 hc5)] [] [(27,vb false)] h fun a w h=>zbn false h rfl nofun (fun _=>qU (zac (za0 (Jm 4 [(0,.j1 j)] [7,27] [(14,vI ((j:Int)+1))] [(1,.box [cB false,.d (nsl [])]),(2,.box (zi out))] h fun a w h=>za0 (zag (x:=(j,out)) (y:=((j+1),out)) h ?_ ?_)))))
  ·have:=zak hx2;exact ⟨by rw [hI1,valP_take hx2,valAt_neg hc5', Int.mul_zero,Int.add_zero],by omega⟩
  show t.parts.length - (j+1)<t.parts.length - j;have:=zak hx2;omega
 refine wp_exit (zaa (zaa (za5 (za0 (Jq 4 [] [(4,vp 1 0)] [(1,.box (zi out))] h fun a w h=>qV (rA 1 (zi out) h zfd rfl ?_))))));have hj:j=t.parts.length:=by omega
 subst hj;rw [hI1,List.take_length];try rfl
def zer:Nat->(Nat->Bool)->Bool
  | 0,_=>true
  | n+1,p=>zer n p && p n
theorem zce {p:Nat->Bool}:∀ {n:Nat}, zer n p=true ↔ ∀ i,i<n->p i=true
 | 0=>by simp [zer]
 | n+1=>by
  rw [zer,Bool.and_eq_true,zce]
  exact ⟨fun h i hi=>(Nat.lt_succ_iff_lt_or_eq.1 hi).elim (h.1 i) fun e=>e ▸ h.2,fun h=>⟨fun i hi=>h i (by omega),h n (by omega)⟩⟩
theorem zbe {p:Nat->Bool} {j:Nat} (h:zer j p=true) (hp:p j=true):zer (j+1) p=true:=by rw [zer,h,hp];rfl
theorem zbf {p:Nat->Bool} {n j:Nat} (hj:j<n) (hp:p j=false):zer n p=false:=by
 cases h:zer n p with
 | false=>rfl
 | true=>rw [zce.1 h j hj] at hp;cases hp
theorem allN_congr {p q:Nat->Bool} {n:Nat} (h:∀ i,i<n->p i=q i):zer n p=zer n q:=by
 induction n with
 | zero=>rfl
 | succ n ih=>rw [zer,zer,ih fun i hi=>h i (by omega),h n (by omega)]
def zcf {α:Type} (pr:α->Bool):List α->Nat->Int
  | [],_=>-1
  | p :: ps,n=>if pr p=true then n else zcf pr ps (n+1)
theorem zca {α:Type} {pr:α->Bool} {xs:List α} {j:Nat} {p:α} (h:xs[j]?=some p):zcf pr (xs.drop j) j=if pr p=true then (j:Int) else zcf pr (xs.drop (j+1)) (j+1):=by
 obtain ⟨hj,rfl⟩:=List.getElem?_eq_some_iff.1 h
 rw [List.drop_eq_getElem_cons hj];rfl
theorem zhm {α:Type} (pr:α->Bool):∀ (xs:List α) (n:Nat),(zcf pr xs n=-1/\∀ x ∈ xs,pr x=false)\/∃ k x,zcf pr xs n=((n+k:Nat):Int)/\xs[k]?=some x/\pr x=true/\∀ y ∈ xs.take k,pr y=false
 | [],n => .inl ⟨rfl,fun x hx=>(by cases hx)⟩
 | p :: ps,n=>by
  cases hp:pr p with
  | true=>exact .inr ⟨0,p,by simp [zcf,hp],rfl,hp,fun y hy=>by simp at hy⟩
  | false =>
   rcases zhm pr ps (n+1) with ⟨h1,h2⟩ | ⟨k,x,h1,h2,h3,h4⟩
   ·exact .inl ⟨by simp [zcf,hp,h1],fun x hx=>(List.mem_cons.1 hx).elim (fun e=>e ▸ hp) (h2 x)⟩
   ·exact .inr ⟨k+1,x,by simp only [zcf,hp,Bool.false_eq_true,if_false,h1];omega,h2,h3,fun y hy=>by rw [List.take_succ_cons] at hy;exact (List.mem_cons.1 hy).elim (fun e=>e ▸ hp) (h4 y)⟩
theorem zf1 {α:Type} (pr:α->Bool) (xs:List α):decide (zcf pr xs 0>=0)=xs.any pr:=by
 rcases zhm pr xs 0 with ⟨h1,h2⟩ | ⟨k,x,h1,h2,h3,_⟩
 ·rw [h1]
  cases h:xs.any pr with
  | false=>rfl
  | true=>obtain ⟨x,hx,hp⟩:=List.any_eq_true.1 h;rw [h2 x hx] at hp;cases hp
 ·rw [h1,decide_eq_true (by omega)]
  exact (List.any_eq_true.2 ⟨x,List.mem_of_getElem? h2,h3⟩).symm
theorem zeq {α:Type} (pr:α->Bool) (xs:List α):(zcf pr xs 0=-1/\xs.find? pr=none)\/∃ (k:Nat) (x:α),zcf pr xs 0=(k:Int)/\xs[k]?=some x/\xs.find? pr=some x:=by
 rcases zhm pr xs 0 with ⟨h1,h2⟩ | ⟨k,x,h1,h2,h3,h4⟩
 ·exact .inl ⟨h1,by rw [List.find?_eq_none];intro x hx;rw [h2 x hx];exact Bool.noConfusion⟩
 ·refine .inr ⟨k,x,by rw [h1,Nat.zero_add],h2,?_⟩
  obtain ⟨hk,rfl⟩:=List.getElem?_eq_some_iff.1 h2
  have e:xs=xs.take k++xs[k] :: xs.drop (k+1):=by rw [<- List.drop_eq_getElem_cons hk,List.take_append_drop]
  have e2:xs.find? pr=(xs.take k++xs[k] :: xs.drop (k+1)).find? pr:=congrArg _ e
  rw [e2,List.find?_append,List.find?_eq_none.2 (fun y hy=>by rw [h4 y hy];exact Bool.noConfusion)]
  rw [List.find?_cons,h3];rfl
structure zg6 where
  t:zgm
  eq:Bool
def zg6.d (x:zg6):List D:=[.sl 3 (x.t.parts.map zbr.d),.raw (.bool x.t.k.neg),nsl x.t.k.abs,.raw (.bool x.eq)]
inductive za8 where
  | mk (kind:Int) (r:zg6) (kids:List za8)
def za8.kind:za8->Int | ⟨k,_,_⟩=>k
def za8.r:za8->zg6 | ⟨_,r,_⟩=>r
def za8.kids:za8->List za8 | ⟨_,_,ks⟩=>ks
theorem za8.ind {P:za8->Prop} (h:∀ k r ks,(∀ g ∈ ks,P g)->P ⟨k,r,ks⟩) (f:za8):P f :=
 za8.rec (motive_1:=P) (motive_2:=fun ks=>∀ g ∈ ks,P g) h (fun g hg=>(by cases hg)) (fun a l ha has g hg=>(List.mem_cons.1 hg).elim (fun e=>e ▸ ha) (has g)) f
def za8.fold {α:Type} (g:Int->zg6->List za8->List α->α):za8->α
  | ⟨k,r,ks⟩=>g k r ks (ks.attach.map fun x=>za8.fold g x.1)
  termination_by f=>SizeOf.sizeOf f
  decreasing_by have:=List.sizeOf_lt_of_mem x.2;simp;omega
theorem za8.fold_mk {α:Type} (g:Int->zg6->List za8->List α->α) (k:Int) (r:zg6) (ks:List za8):za8.fold g ⟨k,r,ks⟩=g k r ks (ks.map (za8.fold g)):=by
 rw [za8.fold,List.attach_map_val]
theorem za8.fold_eq {α:Type} (g:Int->zg6->List za8->List α->α) (f:za8):za8.fold g f=g f.kind f.r f.kids (f.kids.map (za8.fold g)):=by cases f;exact za8.fold_mk g _ _ _
def za8.d (f:za8):List D:=f.fold fun k r _ ds=>[.raw (.int .i64 k),.sl 3 (r.t.parts.map zbr.d),.raw (.bool r.t.k.neg),nsl r.t.k.abs,.raw (.bool r.eq),.sl 6 ds]
theorem za8.d_eq (f:za8):f.d=[.raw (.int .i64 f.kind),.sl 3 (f.r.t.parts.map zbr.d),.raw (.bool f.r.t.k.neg),nsl f.r.t.k.abs,.raw (.bool f.r.eq),.sl 6 (f.kids.map za8.d)]:=za8.fold_eq _ f
theorem za8.d_len (f:za8):f.d.length=6:=by rw [za8.d_eq];rfl
def rawD (x:D):List D:=[x]
structure zah where
  is_:Bool
  lo:ZI
  hi:ZI
def zah.d (x:zah):List D:=[.raw (.bool x.is_),.raw (.bool x.lo.neg),nsl x.lo.abs,.raw (.bool x.hi.neg),nsl x.hi.abs]
structure zaf where
  v:Int
  any:Bool
  t:zgm
def zaf.d (x:zaf):List D:=[.raw (.int .i64 x.v),.raw (.bool x.any),.sl 3 (x.t.parts.map zbr.d),.raw (.bool x.t.k.neg),nsl x.t.k.abs]
structure zaz where
  proc:Int
  from_:Int
  to_:Int
  guard:za8
  moves:List zaf
def zaz.d (x:zaz):List D:=[.raw (.int .i64 x.proc),.raw (.int .i64 x.from_),.raw (.int .i64 x.to_),.raw (.int .i64 x.guard.kind),.sl 3 (x.guard.r.t.parts.map zbr.d),.raw (.bool x.guard.r.t.k.neg),nsl x.guard.r.t.k.abs,.raw (.bool x.guard.r.eq),.sl 6 (x.guard.kids.map za8.d),.sl 5 (x.moves.map zaf.d)]
structure zav where
  name:ByteArray
  locs:List ByteArray
  cmds:D
def zav.d (x:zav):List D:=[.raw (.string x.name),.sl 1 (x.locs.map zc6),x.cmds]
structure zan where
  vars:List ByteArray
  bounds:List zah
  init:za8
  procs:List zav
  acts:List zaz
def zan.d (x:zan):List D:=[.sl 1 (x.vars.map zc6),.sl 5 (x.bounds.map zah.d),.raw (.int .i64 x.init.kind),.sl 3 (x.init.r.t.parts.map zbr.d),.raw (.bool x.init.r.t.k.neg),nsl x.init.r.t.k.abs,.raw (.bool x.init.r.eq),.sl 6 (x.init.kids.map za8.d),.sl 3 (x.procs.map zav.d),.sl 10 (x.acts.map zaz.d)]
structure StD where
  locs:List Int
  vals:List ZI
def StD.d (x:StD):List D:=[.sl 1 (x.locs.map zad),.sl 2 (x.vals.map ziD)]
structure RunD where
  stem:List StD
  cycle:List StD
  acts:List Int
structure zb4 where
  at_:Bool
  proc:Int
  loc:Int
  f:za8
def zb4.d (x:zb4):List D:=[.raw (.bool x.at_),.raw (.int .i64 x.proc),.raw (.int .i64 x.loc),.raw (.int .i64 x.f.kind),.sl 3 (x.f.r.t.parts.map zbr.d),.raw (.bool x.f.r.t.k.neg),nsl x.f.r.t.k.abs,.raw (.bool x.f.r.eq),.sl 6 (x.f.kids.map za8.d)]
abbrev zai (s:zan):List C:=([.d (.sl 1 (s.vars.map zc6)),.d (.sl 5 (s.bounds.map zah.d)),.d (.raw (.int .i64 s.init.kind)),.d (.sl 3 (s.init.r.t.parts.map zbr.d))]++zi s.init.r.t.k++[.d (.raw (.bool s.init.r.eq)),.d (.sl 6 (s.init.kids.map za8.d)),.d (.sl 3 (s.procs.map zav.d)),.d (.sl 10 (s.acts.map zaz.d))])
abbrev zF (x:za8):List C:=[.d (.raw (.int .i64 x.kind)),.d (.sl 3 (x.r.t.parts.map zbr.d))]++zi x.r.t.k++[.d (.raw (.bool x.r.eq)),.d (.sl 6 (x.kids.map za8.d))]
abbrev zR_ (x:zg6):List C:=[.d (.sl 3 (x.t.parts.map zbr.d))]++zi x.t.k++[.d (.raw (.bool x.eq))]
abbrev vF (x:za8):V:=.t (.agg (zF x))
abbrev vR (x:zg6):V:=.t (.agg (zR_ x))
abbrev vFs (x:List za8):V:=.t (.c (.d (.sl 6 (x.map za8.d))))
abbrev vRs (x:List zg6):V:=.t (.c (.d (.sl 4 (x.map zg6.d))))
abbrev cFs (x:List za8):C:=.d (.sl 6 (x.map za8.d))
abbrev cRs (x:List zg6):C:=.d (.sl 4 (x.map zg6.d))
theorem kb_0:SlT Tryz.prog 33 35 6:=SlT.mk' Tryz.underlying33 (by kernel_rfl)
theorem kb_1:ElZ Tryz.prog 33 35 6:=ElZ.mk' Tryz.underlying33 _ _ rfl rfl (by kernel_rfl) (by kernel_rfl) (by kernel_rfl) (by decide)
section
variable {P:Program}
theorem zbb.fnc {t:TypeId} {z:C} {dd:TypeDesc} (hu:P.underlying t=some dd) (ha:(match dd with | .struct _ | .array _ _=>true | _=>false)=false) (hs:(P.info? t).map (·.size)=some 1) (hz:Zero P t [z]):zbb P t ⟨1,false,[],[z],4⟩ :=
 ⟨Sz.mk' hs hu _ ha.symm,fun k off n ag h=>(by simp at h),fun _=>hz,fun h=>absurd rfl h,fun h=>(by cases h),fun h=>(by cases h),fun h=>(by cases h),fun k h=>(by cases h)⟩
theorem Op.makeFs {d:Nat} {fn:Go.Fn} (ts:List (Nat × Nat × Nat)) {ty:TypeId} {pos af gd} :
  zbg P ⟨some d,.makeFunc fn #[] ⟨ts.map fun p => .tmp p.1⟩,ty,pos,af,gd⟩ { rs:=ts.map fun p=>(p.1,vp p.2.1 p.2.2),ws:=[(d,some (.t (.c (.fn fn [] (ts.map fun p=>A.ptr p.2.1 p.2.2)))))] } :=
 zbg.value d _ rfl rfl rfl fun e f H B a w hok hr=>by
  refine ⟨.func fn #[] ⟨ts.map fun p=>a.eval (.tmp p.1)⟩,?_,[],ts.map fun p=>a.eval (.tmp p.1),rfl,trivial,?_⟩
  ·simp [execOp,Instr.makeFunc,Function.comp_def]
  ·have h1:∀ p ∈ ts,AR H B (.ptr p.2.1 p.2.2) (a.eval (.tmp p.1)):=fun p hp=>hok.slot p.1 _ (hr.1 (p.1,vp p.2.1 p.2.2) (List.mem_map.2 ⟨p,hp,rfl⟩))
   clear hr
   induction ts with
   | nil=>trivial
   | cons p ts ih=>exact ⟨h1 p (by simp),ih fun q hq=>h1 q (by simp [hq])⟩
end
theorem all_take {α:Type} {q:α->Bool} {xs:List α} {j:Nat} {x:α} (h:xs[j]?=some x):(xs.take (j+1)).all q=((xs.take j).all q && q x):=by
 have e:xs.take (j+1)=xs.take j++[x]:=by rw [List.take_add_one,h];rfl
 rw [e,List.all_append];simp
theorem zea {α:Type} {q:α->Bool} {xs:List α} {j:Nat} {x:α} (h:xs[j]?=some x) (h1:(xs.take j).all q=true) (h2:q x=true):(xs.take (j+1)).all q=true:=by rw [all_take h,h1,h2];rfl
theorem zcq {α:Type} {q:α->Bool} {xs:List α} {j:Nat} {x:α} (h:xs[j]?=some x) (h2:q x=false):xs.all q=false:=by
 cases h3:xs.all q with
 | false=>rfl
 | true=>rw [List.all_eq_true.1 h3 x (List.mem_of_getElem? h)] at h2;cases h2
theorem zdx {α:Type} {q:α->Bool} {xs:List α} {j:Nat} (hj:¬ (j:Int)<(xs.length:Int)) (h1:(xs.take j).all q=true):xs.all q=true:=by rwa [List.take_of_length_le (by omega)] at h1
theorem any_step {α:Type} {q:α->Bool} {xs:List α} {j:Nat} {x:α} (h:xs[j]?=some x) (h1:(xs.take j).any q=false) (h2:q x=false):(xs.take (j+1)).any q=false:=by
 have e:xs.take (j+1)=xs.take j++[x]:=by rw [List.take_add_one,h];rfl
 rw [e,List.any_append,h1];simp [h2]
theorem zit {α:Type} {q:α->Bool} {xs:List α} {j:Nat} {x:α} (h:xs[j]?=some x) (h2:q x=true):xs.any q=true:=List.any_eq_true.2 ⟨x,List.mem_of_getElem? h,h2⟩
theorem any_end {α:Type} {q:α->Bool} {xs:List α} {j:Nat} (hj:¬ (j:Int)<(xs.length:Int)) (h1:(xs.take j).any q=false):xs.any q=false:=by rwa [List.take_of_length_le (by omega)] at h1
def cnt {α:Type} (k:Int) (xs:List α):List α:=if k=4\/k=5 then xs else if k=3 then xs.take 1 else []
theorem cnt_map {α β:Type} (g:α->β) (k:Int) (xs:List α):cnt k (xs.map g)=(cnt k xs).map g:=by unfold cnt;split;rfl;split;rw [List.map_take];rfl
theorem zhs {α:Type} {k:Int} {xs:List α} {x:α} (h:x ∈ cnt k xs):x ∈ xs:=by
 unfold cnt at h
 split at h
 ·exact h
 ·split at h
  ·exact List.mem_of_mem_take h
  ·cases h
theorem cnt_len {α:Type} (k:Int) (xs:List α):(cnt k xs).length<=xs.length:=by
 unfold cnt;split;exact Nat.le_refl _;split;rw [List.length_take];omega;exact Nat.zero_le _
def zej (lim:Int):List (Int->Int)->Int->Int
  | [],n=>n
  | s :: ss,n=>if n<=lim then zej lim ss (n+s (lim - n)) else n
def za8.size (f:za8):Int->Int:=f.fold fun k _ _ ss lim=>zej lim (cnt k ss) 1
theorem za8.size_eq (f:za8) (lim:Int):f.size lim=zej lim ((cnt f.kind f.kids).map za8.size) 1:=by
 have:=congrFun (za8.fold_eq (fun k _ _ (ss:List (Int->Int)) lim=>zej lim (cnt k ss) 1) f) lim
 rw [cnt_map] at this;exact this
theorem sizeGo_bd {lim:Int}:∀ (ss:List (Int->Int)) (n:Int),(∀ s ∈ ss,∀ l,0<=l->1<=s l/\s l<=l+1)->1<=n->n<=lim+1->1<=zej lim ss n/\zej lim ss n<=lim+1
 | [],n,_,h1,h2=>⟨h1,h2⟩
 | s :: ss,n,h,h1,h2=>by
  unfold zej
  split
  ·rename_i hn
   have:=h s (by simp) (lim - n) (by omega)
   exact sizeGo_bd ss _ (fun t ht=>h t (by simp [ht])) (by omega) (by omega)
  ·exact ⟨h1,h2⟩
theorem za8.size_bd (f:za8):∀ lim:Int,0<=lim->1<=f.size lim/\f.size lim<=lim+1 :=
 za8.ind (P:=fun f=>∀ lim:Int,0<=lim->1<=f.size lim/\f.size lim<=lim+1) (fun k r ks ih lim hl=>by
  rw [za8.size_eq]
  refine sizeGo_bd _ _ (fun s hs=>?_) (by omega) (by omega)
  obtain ⟨g,hg,rfl⟩:=List.mem_map.1 hs
  exact ih g (zhs hg)) f
theorem sizeGo_at {lim n:Int} {ss:List (Int->Int)} {j:Nat} {s:Int->Int} (h:ss[j]?=some s) (hn:n<=lim):zej lim (ss.drop j) n=zej lim (ss.drop (j+1)) (n+s (lim - n)):=by
 obtain ⟨hj,rfl⟩:=List.getElem?_eq_some_iff.1 h
 rw [List.drop_eq_getElem_cons hj,zej,if_pos hn]
theorem sizeGo_out {lim n:Int} {ss:List (Int->Int)} (h:¬ n<=lim\/ss=[]):zej lim ss n=n:=by
 cases ss with
 | nil=>rfl
 | cons s ss=>rw [zej,if_neg (h.resolve_right (by simp))]
def fewR (L:Int) (r:zg6):Bool:=decide ((r.t.parts.length:Int)<=20) && decide ((r.t.k.abs.length:Int)<=L) && r.t.parts.all fun p=>decide ((p.c.abs.length:Int)<=L)
def za8.few (L:Int) (f:za8):Bool:=f.fold fun k r _ bs=>(!(k == 2) || fewR L r) && (cnt k bs).all id
theorem za8.few_eq (L:Int) (f:za8):f.few L=((!(f.kind == 2) || fewR L f.r) && (cnt f.kind f.kids).all (za8.few L)):=by
 have:=za8.fold_eq (fun k r _ (bs:List Bool)=>(!(k == 2) || fewR L r) && (cnt k bs).all id) f
 rw [cnt_map,List.all_map] at this;exact this
def zh0 (f:za8) (most L:Int):Bool:=!decide (f.size most>most) && f.few L
def zeg (vs:List ZI) (r:zg6):Bool:=if r.eq=true then sgn (valT r.t vs) == 0 else decide (sgn (valT r.t vs)>=0)
def za8.holds (vs:List ZI) (f:za8):Bool:=f.fold fun k r _ bs=>if k=0 then true else if k=2 then zeg vs r else if k=3 then (match bs with | []=>false | b :: _=>!b) else if k=4 then bs.all id else if k=5 then bs.any id else false
theorem za8.holds_eq (vs:List ZI) (f:za8):f.holds vs=if f.kind=0 then true else if f.kind=2 then zeg vs f.r else if f.kind=3 then (match f.kids with | []=>false | g :: _=>!g.holds vs) else if f.kind=4 then f.kids.all (za8.holds vs) else if f.kind=5 then f.kids.any (za8.holds vs) else false:=by
 have:=za8.fold_eq (fun k r _ (bs:List Bool)=>if k=0 then true else if k=2 then zeg vs r else if k=3 then (match bs with | []=>false | b :: _=>!b) else if k=4 then bs.all id else if k=5 then bs.any id else false) f
 rw [List.all_map,List.any_map] at this
 refine this.trans ?_
 cases f.kids <;> rfl
def TokR (L:Nat) (r:zg6):Prop:=TOk 20 L r.t
def za8.ok (L:Nat) (f:za8):Prop:=f.fold fun k r _ ps=>(k=2->TokR L r)/\∀ p ∈ cnt k ps,p
theorem za8.ok_eq (L:Nat) (f:za8):f.ok L ↔ (f.kind=2->TokR L f.r)/\∀ g ∈ cnt f.kind f.kids,g.ok L:=by
 have:=za8.fold_eq (fun k r _ (ps:List Prop)=>(k=2->TokR L r)/\∀ p ∈ cnt k ps,p) f
 rw [cnt_map] at this
 unfold za8.ok
 rw [this]
 refine and_congr_right fun _=>⟨fun h g hg=>h _ (List.mem_map.2 ⟨g,hg,rfl⟩),fun h p hp=>?_⟩
 obtain ⟨g,hg,rfl⟩:=List.mem_map.1 hp
 exact h g hg
def za8.lb (f:za8):Prop:=f.fold fun _ r ks ps=>(TLb r.t/\ks.length<=9223372036854775807)/\∀ p ∈ ps,p
theorem za8.lb_eq (f:za8):f.lb ↔ (TLb f.r.t/\f.kids.length<=9223372036854775807)/\∀ g ∈ f.kids,g.lb:=by
 have:=za8.fold_eq (fun _ r ks (ps:List Prop)=>(TLb r.t/\ks.length<=9223372036854775807)/\∀ p ∈ ps,p) f
 unfold za8.lb
 rw [this]
 refine and_congr_right fun _=>⟨fun h g hg=>h _ (List.mem_map.2 ⟨g,hg,rfl⟩),fun h p hp=>?_⟩
 obtain ⟨g,hg,rfl⟩:=List.mem_map.1 hp
 exact h g hg
theorem fewR_ok {L:Nat} {r:zg6} (h:fewR L r=true) (hl:TLb r.t):TokR L r:=by
 simp only [fewR,Bool.and_eq_true,decide_eq_true_eq,List.all_eq_true] at h
 exact ⟨by omega,fun p hp=>⟨hl.2 p hp,by have:=h.2 p hp;omega⟩,hl.1,by omega⟩
theorem za8.few_ok {L:Nat} (f:za8):f.few L=true->f.lb->f.ok L :=
 za8.ind (P:=fun f=>f.few L=true->f.lb->f.ok L) (fun k r ks ih h hl=>by
  rw [za8.few_eq,Bool.and_eq_true] at h
  rw [za8.lb_eq] at hl
  rw [za8.ok_eq]
  refine ⟨fun hk=>fewR_ok (by have:=h.1;rw [show ((za8.mk k r ks).kind == 2)=true from by rw [hk];rfl] at this;simpa using this) hl.1.1,fun g hg=>ih g (zhs hg) (List.all_eq_true.1 h.2 g hg) (hl.2 g (zhs hg))⟩) f
theorem SKids (f:za8) :Fn Tryz.prog 133 [] [(vF f)] (vFs (cnt f.kind f.kids)) []:=by
 refine Fn.body Tryz.func133 rfl 26 rfl fun w H B a h=>Jq 0 [] [(1,vp 0 0),(2,vW za4)] [(0,.box (zF f))] h fun a w h=>qW ?_
 rcases Bool.eq_false_or_eq_true (f.kind == 4) with hc1 | hc2
 ·have hc1':=hc1;(try simp at hc1');refine Je 1 [(2,.cmp (op:=.eql) (m:=f.kind) (n:=4) (b:=true) .i64 hc1)] [] [(10,vb true)] h fun a w h=>cS true h (fun _=>?_) nofun
  refine Je 1 [] [10] [(2,(vFs f.kids))] h fun a w h=>qV (za2 (rT (.c (cFs f.kids)) h rfl ?_));have p4: f.kind=4:=by have:=hc1;simpa using this
  have hz:(cnt f.kind f.kids)=f.kids:=by unfold cnt;rw [if_pos (by omega)]
  rw [hz];try rfl
 have hc2':=hc2;(try simp at hc2');refine Je 1 [(2,.cmp (op:=.eql) (m:=f.kind) (n:=4) (b:=false) .i64 hc2)] [] [(10,vb (f.kind == 5))] h fun a w h=>cS (f.kind == 5) h (fun hc3=>?_) (fun hc4=>?_)
 ·have hc3':=hc3;(try simp at hc3');refine Je 1 [] [10] [(2,(vFs f.kids))] h fun a w h=>qV (za2 (rT (.c (cFs f.kids)) h rfl ?_));have p4:¬ f.kind=4:=by have:=hc2;simpa using this
  have p5: f.kind=5:=by have:=hc3;simpa using this
  have hz:(cnt f.kind f.kids)=f.kids:=by unfold cnt;rw [if_pos (by omega)]
  rw [hz];try rfl
 have hc4':=hc4;(try simp at hc4');refine qU (za0 (qW ?_))
 rcases Bool.eq_false_or_eq_true (f.kind == 3) with hc5 | hc8
 ·have hc5':=hc5;(try simp at hc5');refine Je 1 [(2,.cmp (op:=.eql) (m:=f.kind) (n:=3) (b:=true) .i64 hc5),(6,.len (za3 6 za8.d f.kids))] [10] [(21,vb (decide ((f.kids.length:Int)>0)))] h fun a w h=>zap ((f.kids.length:Int)>0) h (fun hc6 hc6'=>?_) (fun hc7 hc7'=>?_)
  ·refine Jq 1 [(2,.g (Op.sliceD (d:=24) (t:=23) (l:=0) (h:=1) (rows:=f.kids.map za8.d) (rows':=(f.kids.take 1).map za8.d) kb_0 (BO.no _) (BO.yes _ (OV.const (.int .i64 1) rfl)) (by first | omega | (simp at *;omega)) (by first | omega | (simp only [List.length_map];omega) | (simp at *;omega)) (by simp [List.map_take])))] [(2,(vFs (f.kids.take 1)))] [] h fun a w h=>qV (za2 (rT (.c (cFs (f.kids.take 1))) h rfl ?_));have p4:¬ f.kind=4:=by have:=hc2;simpa using this
   have p5:¬ f.kind=5:=by have:=hc4;simpa using this
   have p3: f.kind=3:=by have:=hc5;simpa using this
   have hz:(cnt f.kind f.kids)=(f.kids.take 1):=by unfold cnt;rw [if_neg (by omega),if_pos (by omega)]
   rw [hz];try rfl
  refine qU (za0 (Jq 1 [(0,.g (Op.buildED (d:=25) kb_1))] [(2,(vFs []))] [] h fun a w h=>qV (rT (.c (cFs [])) h rfl ?_)));have p4:¬ f.kind=4:=by have:=hc2;simpa using this
  have p5:¬ f.kind=5:=by have:=hc4;simpa using this
  have p3: f.kind=3:=by have:=hc5;simpa using this
  have hz:(cnt f.kind f.kids)=[]:=by unfold cnt;rw [if_neg (by omega),if_pos (by omega),List.length_eq_zero_iff.1 (show f.kids.length=0 by have:=dF hc7;omega)];rfl
  rw [hz];try rfl
 have hc8':=hc8;(try simp at hc8');refine Je 1 [(2,.cmp (op:=.eql) (m:=f.kind) (n:=3) (b:=false) .i64 hc8)] [10] [(21,vb false)] h fun a w h=>zbn false h rfl nofun (fun _=>qU (za0 (Jq 1 [(0,.g (Op.buildED (d:=25) kb_1))] [(2,(vFs []))] [] h fun a w h=>qV (rT (.c (cFs [])) h rfl ?_))))
 have p4:¬ f.kind=4:=by have:=hc2;simpa using this
 have p5:¬ f.kind=5:=by have:=hc4;simpa using this
 have p3:¬ f.kind=3:=by have:=hc8;simpa using this
 have hz:(cnt f.kind f.kids)=[]:=by unfold cnt;rw [if_neg (by omega),if_neg (by omega)]
 rw [hz];try rfl
theorem kc_0:za6 Tryz.prog 133:=za6.mk' (by kernel_rfl)
theorem kc_2:za6 Tryz.prog 92:=za6.mk' (by kernel_rfl)
theorem kc_3:SlT Tryz.prog 202 32 4:=SlT.mk' Tryz.underlying202 (by kernel_rfl)
theorem kc_5:ElZ Tryz.prog 202 32 4:=ElZ.mk' Tryz.underlying202 _ _ rfl rfl (by kernel_rfl) (by kernel_rfl) (by kernel_rfl) (by decide)
theorem kc_6:za6 Tryz.prog 134:=za6.mk' (by kernel_rfl)
theorem kc_7:za6 Tryz.prog 93:=za6.mk' (by kernel_rfl)
def fltV (j:Nat) (ps:List zbr):List zbr:=ps.filter fun p=>decide (0<=p.v/\p.v<(j:Int))
theorem fltV_succ (vs:List ZI) (j:Nat):∀ ps:List zbr,zgo vs (fltV (j+1) ps)=zgo vs (fltV j ps)+zeh ps j*zi2 vs j
 | []=>by simp [fltV,zgo,zeh]
 | p :: ps=>by
  have ih:=fltV_succ vs j ps
  simp only [fltV] at ih ⊢
  simp only [List.filter_cons,zeh,Int.add_mul]
  by_cases h1:0<=p.v/\p.v<(j:Int)
  ·rw [if_pos (decide_eq_true (by omega)),if_pos (decide_eq_true h1),if_neg (by omega)]
   simp only [zgo,ih];omega
  ·by_cases h2:p.v=(j:Int)
   ·rw [if_pos (decide_eq_true (by omega)),if_neg (by simpa using h1),if_pos (by omega)]
    simp only [zgo,ih,h2];omega
   ·rw [if_neg (by rw [decide_eq_true_eq];omega),if_neg (by simpa using h1),if_neg (by omega),ih];omega
theorem fltV_all (vs:List ZI):∀ ps:List zbr,zgo vs (fltV vs.length ps)=zgo vs ps
 | []=>rfl
 | p :: ps=>by
  have ih:=fltV_all vs ps
  simp only [fltV] at ih ⊢
  simp only [List.filter_cons]
  by_cases h1:0<=p.v/\p.v<(vs.length:Int)
  ·rw [if_pos (decide_eq_true h1)];simp only [zgo,ih]
  ·rw [if_neg (by simpa using h1),ih,zgo]
   by_cases h2:0<=p.v
   ·rw [valAt_out (by omega)];omega
   ·rw [valAt_neg (by omega)];omega
theorem fltV_zero (ps:List zbr):fltV 0 ps=[]:=by
 unfold fltV;rw [List.filter_eq_nil_iff];intro p _;rw [decide_eq_true_eq];omega
theorem fltV_mem {j:Nat} {ps:List zbr}:∀ p ∈ fltV j ps,p ∈ ps:=fun _p hp=>(List.mem_filter.1 hp).1
theorem fltV_len (j:Nat) (ps:List zbr):(fltV j ps).length<=ps.length:=List.length_filter_le _ _
theorem SSize0 (f:za8) (lim:Int) (ih:∀ g ∈ f.kids,∀ l:Int,0<=l->l<=1000->Fn Tryz.prog 92 [] [(vF g),vI l] (vI (g.size l)) []) (h0:0<=lim) (h1:lim<=1000) (hk:f.kids.length<=9223372036854775807):Fn Tryz.prog 92 [] [(vF f),vI lim] (vI (f.size lim)) []:=by
 have lk:=cnt_len f.kind f.kids;refine Fn.body Tryz.func92 rfl 32 rfl fun w H B a h=>Jq 0 [] [(1,vI lim),(2,vp 0 0),(4,vI 0)] [(0,.box (zF f))] h fun a w h=>Je 1 [] [] [(5,vI 1)] h fun a w h=>Jd 1 [(1,.call (SKids f) kc_0)] [2] [(6,(vFs (cnt f.kind f.kids)))] [] h fun a w h=>qW (Jd 1 [] [] [(7,vI 0)] [] h fun a w h=>qZ ?_)
 refine zb5 (ι:=(Nat) × (Int)) (fun (j,n)=>j<=(cnt f.kind f.kids).length/\f.size lim=zej lim (((cnt f.kind f.kids).map za8.size).drop j) n/\1<=n/\n<=lim+1)
   (fun (j,n)=>[(1,vI lim),(4,vI 0),(5,vI n),(6,(vFs (cnt f.kind f.kids))),(7,vN j)])
   (fun (j,n)=>[])
   (fun (j,n)=>(cnt f.kind f.kids).length - j) (0,1) ?_ h (by kernel_rfl) (by kernel_rfl) ?_
 ·exact ⟨Nat.zero_le _,za8.size_eq f lim,by omega,by omega⟩
 clear h;rintro ⟨j,n⟩ a w hI h;dsimp only at h;obtain ⟨hI1,hI2,hI3,hI4⟩:=hI;refine qW ?_
 rcases Bool.eq_false_or_eq_true (decide ((j:Int)<((cnt f.kind f.kids).length:Int))) with hc1 | hc4
 ·have hc1':=dT hc1;refine Jd 1 [(2,.len (za3 6 za8.d (cnt f.kind f.kids))),(3,.cmp (op:=.lss) (m:=(j:Int)) (n:=((cnt f.kind f.kids).length:Int)) (b:=true) .i64 hc1)] [] [(18,vb (decide (n<=lim)))] [] h fun a w h=>zap (n<=lim) h (fun hc2 hc2'=>?_) (fun hc3 hc3'=>?_)
  ·refine qU (za0 (qW (qZ ?_)));obtain ⟨x2,hx2⟩:=gl (cnt f.kind f.kids) j;have bz:0<=lim - n->1<=x2.size (lim - n)/\x2.size (lim - n)<=lim - n+1:=x2.size_bd (lim - n);refine Jm 1 [(3,.g (xD 24 22 kb_0 ((zab hx2 (f:=za8.d)).trans (congrArg some (za8.d_eq x2))) (OV.tmp 23 _))),(7,.sub .i64 (m:=lim) (n:=n) i6),(8,.call (ih x2 (zhs (lM hx2)) (lim - n) (by omega) (by omega)) kc_2),(9,.add .i64 (m:=n) (n:=(x2.size (lim - n))) i6)] [18] [(5,vI (n+(x2.size (lim - n))))] [] h fun a w h=>zac (za0 (Jm 1 [(1,.j1 j)] [] [(7,vI ((j:Int)+1))] [] h fun a w h=>za0 (zag (x:=(j,n)) (y:=((j+1),n+x2.size (lim - n))) h ?_ ?_)))
   ·exact ⟨by have:=zak hx2;omega,by rw [hI2,sizeGo_at (zab hx2 (f:=za8.size)) (by omega)],by have:=bz (by omega);omega,by have:=bz (by omega);omega⟩
   show (cnt f.kind f.kids).length - (j+1)<(cnt f.kind f.kids).length - j;have:=zak hx2;omega
  refine wp_exit (zaa (zaa (za5 (za0 (Jq 1 [] [(4,vI n)] [] h fun a w h=>qV (rT (.c (cI n)) h rfl ?_))))))
  have hz:f.size lim=n:=by
   rw [hI2];refine sizeGo_out ?_
   by_cases hn:n<=lim
   ·right;exact List.drop_of_length_le (by rw [List.length_map];first | omega | (simp_all;omega))
   exact .inl hn
  rw [hz];try rfl
 have hc4':=dF hc4;refine Jd 1 [(2,.len (za3 6 za8.d (cnt f.kind f.kids))),(3,.cmp (op:=.lss) (m:=(j:Int)) (n:=((cnt f.kind f.kids).length:Int)) (b:=false) .i64 hc4)] [] [(18,vb false)] [] h fun a w h=>zbn false h rfl nofun (fun _=>wp_exit (zaa (zaa (za5 (za0 (Jq 1 [] [(4,vI n)] [] h fun a w h=>qV (rT (.c (cI n)) h rfl ?_)))))))
 have hz:f.size lim=n:=by
  rw [hI2];refine sizeGo_out ?_
  by_cases hn:n<=lim
  ·right;exact List.drop_of_length_le (by rw [List.length_map];first | omega | (simp_all;omega))
  exact .inl hn
 rw [hz];try rfl
theorem SSize (f:za8):f.lb->∀ lim:Int,0<=lim->lim<=1000->Fn Tryz.prog 92 [] [(vF f),vi .i64 lim] (vi .i64 (f.size lim)) [] :=
 za8.ind (P:=fun f=>f.lb->∀ lim:Int,0<=lim->lim<=1000->Fn Tryz.prog 92 [] [(vF f),vi .i64 lim] (vi .i64 (f.size lim)) []) (fun k r ks ih hl lim h0 h1=>by
  have hl:=(za8.lb_eq _).1 hl
  exact SSize0 ⟨k,r,ks⟩ lim (fun g hg l g0 g1=>ih g hg (hl.2 g hg) l g0 g1) h0 h1 hl.1.2) f
def zho (rs:List zg6) (most L:Int):Bool:=decide ((rs.length:Int)<=most) && rs.all (fewR L)
theorem SFewRs (rs:List zg6) (most L:Int) (hl:rs.length<=1000):Fn Tryz.prog 134 [] [(vRs rs),vI most,vI L] (vb (zho rs most L)) []:=by
 refine Fn.body Tryz.func134 rfl 64 rfl fun w H B a h=>Jq 0 [] [(0,(vRs rs)),(1,vI most),(2,vI L),(6,vb false)] [] h fun a w h=>qW (Jd 0 [(1,.len (za3 4 zg6.d rs))] [1] [(12,vb (decide ((rs.length:Int)>most)))] [] h fun a w h=>zap ((rs.length:Int)>most) h (fun hc1 hc1'=>?_) (fun hc2 hc2'=>?_))
 ·refine Jd 0 [] [12] [] [] h fun a w h=>qV (za2 (rT (.c (cB false)) h rfl ?_));rw [show zho rs most L=false from by unfold zho;rw [decide_eq_false (by have:=dT hc1;omega)];rfl];try rfl
 refine qU (za0 (qW (Jd 0 [] [12] [(7,vI 0)] [] h fun a w h=>qZ ?_)))
 refine zb5 (ι:=(Nat)) (fun j=>j<=rs.length/\(rs.take j).all (fewR L)=true)
   (fun j=>[(0,(vRs rs)),(2,vI L),(7,vN j)])
   (fun j=>[])
   (fun j=>rs.length - j) 0 ?_ h (by kernel_rfl) (by kernel_rfl) ?_
 ·exact ⟨Nat.zero_le _,rfl⟩
 clear h;rintro j a w hI h;obtain ⟨hI1,hI2⟩:=hI;refine qW (Jd 0 [(2,.len (za3 4 zg6.d rs))] [] [(16,vb (decide ((j:Int)<(rs.length:Int))))] [] h fun a w h=>zap ((j:Int)<(rs.length:Int)) h (fun hc3 hc3'=>?_) (fun hc12 hc12'=>?_))
 ·refine qU (za0 (qW (qZ (qW ?_))));obtain ⟨x1,hx1⟩:=gl rs j
  rcases Bool.eq_false_or_eq_true (decide ((x1.t.parts.length:Int)>20)) with hc4 | hc5
  ·have hc4':=dT hc4;refine Jd 0 [(2,.g (xD 21 19 kc_3 (zab hx1 (f:=zg6.d)) (OV.tmp 20 _))),(6,.len (za3 3 zbr.d x1.t.parts)),(7,.cmp (op:=.gtr) (m:=(x1.t.parts.length:Int)) (n:=20) (b:=true) .i64 hc4)] [16] [(38,vb true)] [] h fun a w h=>cS true h (fun _=>?_) nofun
   refine Jd 0 [] [38] [(6,vb false)] [] h fun a w h=>qV (za2 (za7 (za2 (za2 (za7 (za2 (rT (.c (cB false)) h rfl ?_)))))));rw [show zho rs most L=false from by unfold zho;rw [zcq hx1 (show fewR L x1=false from by rw [fewR,decide_eq_false (by have:=dT hc4;omega)];rfl),Bool.and_false]];try rfl
  have hc5':=dF hc5;refine Jd 0 [(2,.g (xD 21 19 kc_3 (zab hx1 (f:=zg6.d)) (OV.tmp 20 _))),(6,.len (za3 3 zbr.d x1.t.parts)),(7,.cmp (op:=.gtr) (m:=(x1.t.parts.length:Int)) (n:=20) (b:=false) .i64 hc5),(11,.g (xD 30 28 kc_3 (zab hx1 (f:=zg6.d)) (OV.tmp 29 _))),(16,.len (zey x1.t.k.abs))] [16] [(38,vb (decide ((x1.t.k.abs.length:Int)>L)))] [] h fun a w h=>zap ((x1.t.k.abs.length:Int)>L) h (fun hc6 hc6'=>?_) (fun hc7 hc7'=>?_)
  ·refine Jd 0 [] [38] [(6,vb false)] [] h fun a w h=>qV (za2 (za7 (za2 (za2 (za7 (za2 (rT (.c (cB false)) h rfl ?_)))))));rw [show zho rs most L=false from by unfold zho;rw [zcq hx1 (show fewR L x1=false from by rw [fewR,decide_eq_false (p:=(_:Int)<=L) (by have:=dT hc6;omega),Bool.and_false];rfl),Bool.and_false]];try rfl
  refine qU (za0 (Jd 0 [] [38] [(8,vI 0)] [] h fun a w h=>qZ ?_));have hjr:=hI1
  refine zb5 (ι:=(Nat)) (fun i=>i<=x1.t.parts.length/\(x1.t.parts.take i).all (fun p=>decide ((p.c.abs.length:Int)<=L))=true)
    (fun i=>[(0,(vRs rs)),(2,vI L),(7,vN j),(8,vN i)])
    (fun i=>[])
    (fun i=>x1.t.parts.length - i) 0 ?_ h (by kernel_rfl) (by kernel_rfl) ?_
  ·exact ⟨Nat.zero_le _,rfl⟩
  clear h;rintro i a w hI h;obtain ⟨hJ1,hJ2⟩:=hI;refine qW (Jd 0 [(3,.g (xD 42 40 kc_3 (zab hx1 (f:=zg6.d)) (OV.tmp 41 _))),(7,.len (za3 3 zbr.d x1.t.parts))] [] [(47,vb (decide ((i:Int)<(x1.t.parts.length:Int))))] [] h fun a w h=>zap ((i:Int)<(x1.t.parts.length:Int)) h (fun hc8 hc8'=>?_) (fun hc11 hc11'=>?_))
  ·refine qU (za0 (qW (qZ ?_)));obtain ⟨x2,hx2⟩:=gl x1.t.parts i;refine Jd 0 [(2,.g (xD 52 50 kc_3 (zab hx1 (f:=zg6.d)) (OV.tmp 51 _))),(7,.g (xD 57 55 ta_0 (zab hx2 (f:=zbr.d)) (OV.tmp 56 _))),(11,.len (zey x2.c.abs))] [47] [(63,vb (decide ((x2.c.abs.length:Int)>L)))] [] h fun a w h=>zap ((x2.c.abs.length:Int)>L) h (fun hc9 hc9'=>?_) (fun hc10 hc10'=>?_)
   ·refine Jd 0 [] [63] [(6,vb false)] [] h fun a w h=>qV (za7 (za2 (za2 (za7 (za7 (za2 (za2 (za7 (za2 (rT (.c (cB false)) h rfl ?_))))))))));rw [show zho rs most L=false from by unfold zho;rw [zcq hx1 (show fewR L x1=false from by rw [fewR,zcq hx2 (decide_eq_false (by have:=dT hc9;omega)),Bool.and_false]),Bool.and_false]];try rfl
   refine qU (zac (za0 (Jm 0 [(1,.j1 i)] [63] [(8,vI ((i:Int)+1))] [] h fun a w h=>za0 (zag (x:=i) (y:=i+1) h ?_ ?_))))
   ·exact ⟨by have:=zak hx2;omega,zea hx2 hJ2 (decide_eq_true (by have:=dF hc10;omega))⟩
   show x1.t.parts.length - (i+1)<x1.t.parts.length - i;have:=zak hx2;omega
  refine wp_exit (zaa (zaa (za5 (zac (za0 (Jm 0 [(1,.j1 j)] [8,47] [(7,vI ((j:Int)+1))] [] h fun a w h=>za0 (zag (x:=j) (y:=j+1) h ?_ ?_)))))))
  ·exact ⟨by have:=zak hx1;omega,zea hx1 hI2 (by rw [fewR,decide_eq_true (by have:=dF hc5;omega),decide_eq_true (by have:=dF hc7;omega),zdx (dF hc11) hJ2];rfl)⟩
  show rs.length - (j+1)<rs.length - j;have:=zak hx1;omega
 refine wp_exit (zaa (zaa (za5 (za0 (Jq 0 [] [(6,vb true)] [] h fun a w h=>qV (rT (.c (cB true)) h rfl ?_))))));rw [show zho rs most L=true from by unfold zho;rw [decide_eq_true (by have:=dF hc2;omega),zdx (dF hc12) hI2];rfl];try rfl
theorem fewRs_one (r:zg6) (L:Int):zho [r] 1 L=fewR L r:=by simp [zho]
theorem Sfew0 (f:za8) (L:Int) (ih:∀ g ∈ f.kids,Fn Tryz.prog 93 [] [(vF g),vI L] (vb (g.few L)) []) (hk:f.kids.length<=9223372036854775807):Fn Tryz.prog 93 [] [(vF f),vI L] (vb (f.few L)) []:=by
 have lk:=cnt_len f.kind f.kids;refine Fn.body Tryz.func93 rfl 33 rfl fun w H B a h=>Jq 0 [] [(1,vI L),(2,vp 0 0),(4,vb false)] [(0,.box (zF f))] h fun a w h=>qW ?_
 rcases Bool.eq_false_or_eq_true (f.kind == 2) with hc1 | hc8
 ·have hc1':=hc1;(try simp at hc1');refine Je 1 [(2,.cmp (op:=.eql) (m:=f.kind) (n:=2) (b:=true) .i64 hc1),(6,.g (bD 13 ([f.r].map zg6.d) [(12,(vR f.r))] kc_5 (.cons (i:=0) (OV.tmp 12 _) (.nil)) (by kernel_rfl) (by simp [zg6.d]))),(8,.call (Fn.cast (SFewRs [f.r] 1 L (by simp)) (congrArg vb (fewRs_one f.r L))) kc_6)] [] [(17,vb (!(fewR L f.r)))] h fun a w h=>cS (!(fewR L f.r)) h (fun hc2=>?_) (fun hc3=>?_)
  ·have hc2':=hc2;(try simp at hc2');refine Je 1 [] [17] [] h fun a w h=>qV (za2 (rT (.c (cB false)) h rfl ?_));have hz:f.few L=false:=by rw [za8.few_eq,(show (!(f.kind == 2) || fewR L f.r)=false from by rw [hc1];rw [(show (fewR L f.r)=false from by simpa using hc2)];rfl)];rfl
   rw [hz];try rfl
  have hc3':=hc3;(try simp at hc3');refine qU (za0 (Jd 1 [(1,.call (SKids f) kc_0)] [2,17] [(5,(vFs (cnt f.kind f.kids)))] [] h fun a w h=>qW (Jd 1 [] [] [(6,vI 0)] [] h fun a w h=>qZ ?_)))
  refine zb5 (ι:=(Nat)) (fun j=>j<=(cnt f.kind f.kids).length/\((cnt f.kind f.kids).take j).all (za8.few L)=true)
    (fun j=>[(1,vI L),(5,(vFs (cnt f.kind f.kids))),(6,vN j)])
    (fun j=>[])
    (fun j=>(cnt f.kind f.kids).length - j) 0 ?_ h (by kernel_rfl) (by kernel_rfl) ?_
  ·exact ⟨Nat.zero_le _,rfl⟩
  clear h;rintro j a w hI h;obtain ⟨hI1,hI2⟩:=hI;refine qW (Jd 1 [(2,.len (za3 6 za8.d (cnt f.kind f.kids)))] [] [(23,vb (decide ((j:Int)<((cnt f.kind f.kids).length:Int))))] [] h fun a w h=>zap ((j:Int)<((cnt f.kind f.kids).length:Int)) h (fun hc4 hc4'=>?_) (fun hc7 hc7'=>?_))
  ·refine qU (za0 (qW (qZ ?_)));obtain ⟨x3,hx3⟩:=gl (cnt f.kind f.kids) j;refine Jd 1 [(2,.g (xD 28 26 kb_0 ((zab hx3 (f:=za8.d)).trans (congrArg some (za8.d_eq x3))) (OV.tmp 27 _))),(5,.call (ih x3 (zhs (lM hx3))) kc_7)] [23] [(32,vb (!(za8.few L x3)))] [] h fun a w h=>cS (!(za8.few L x3)) h (fun hc5=>?_) (fun hc6=>?_)
   ·have hc5':=hc5;(try simp at hc5');refine Jd 1 [] [32] [(4,vb false)] [] h fun a w h=>qV (za7 (za2 (za2 (za7 (za2 (rT (.c (cB false)) h rfl ?_))))));have hz:f.few L=false:=by rw [za8.few_eq,zcq hx3 (show (za8.few L x3)=false from by simpa using hc5),Bool.and_false]
    rw [hz];try rfl
   have hc6':=hc6;(try simp at hc6');refine qU (zac (za0 (Jm 1 [(1,.j1 j)] [32] [(6,vI ((j:Int)+1))] [] h fun a w h=>za0 (zag (x:=j) (y:=j+1) h ?_ ?_))))
   ·exact ⟨by have:=zak hx3;omega,zea hx3 hI2 (show (za8.few L x3)=true from by simpa using hc6)⟩
   show (cnt f.kind f.kids).length - (j+1)<(cnt f.kind f.kids).length - j;have:=zak hx3;omega
  refine wp_exit (zaa (zaa (za5 (za0 (Jq 1 [] [(4,vb true)] [] h fun a w h=>qV (rT (.c (cB true)) h rfl ?_))))));have hz:f.few L=true:=by rw [za8.few_eq,(show (!(f.kind == 2) || fewR L f.r)=true from by rw [hc1];rw [(show (fewR L f.r)=true from by simpa using hc3)];rfl),zdx (dF hc7) hI2];rfl
  rw [hz];try rfl
 have hc8':=hc8;(try simp at hc8');refine Je 1 [(2,.cmp (op:=.eql) (m:=f.kind) (n:=2) (b:=false) .i64 hc8)] [] [(17,vb false)] h fun a w h=>zbn false h rfl nofun (fun _=>qU (za0 (Jd 1 [(1,.call (SKids f) kc_0)] [2,17] [(5,(vFs (cnt f.kind f.kids)))] [] h fun a w h=>qW (Jd 1 [] [] [(6,vI 0)] [] h fun a w h=>qZ ?_))))
 refine zb5 (ι:=(Nat)) (fun j=>j<=(cnt f.kind f.kids).length/\((cnt f.kind f.kids).take j).all (za8.few L)=true)
   (fun j=>[(1,vI L),(5,(vFs (cnt f.kind f.kids))),(6,vN j)])
   (fun j=>[])
   (fun j=>(cnt f.kind f.kids).length - j) 0 ?_ h (by kernel_rfl) (by kernel_rfl) ?_
 ·exact ⟨Nat.zero_le _,rfl⟩
 clear h;rintro j a w hI h;obtain ⟨hI1,hI2⟩:=hI;refine qW (Jd 1 [(2,.len (za3 6 za8.d (cnt f.kind f.kids)))] [] [(23,vb (decide ((j:Int)<((cnt f.kind f.kids).length:Int))))] [] h fun a w h=>zap ((j:Int)<((cnt f.kind f.kids).length:Int)) h (fun hc9 hc9'=>?_) (fun hc12 hc12'=>?_))
 ·refine qU (za0 (qW (qZ ?_)));obtain ⟨x6,hx6⟩:=gl (cnt f.kind f.kids) j;refine Jd 1 [(2,.g (xD 28 26 kb_0 ((zab hx6 (f:=za8.d)).trans (congrArg some (za8.d_eq x6))) (OV.tmp 27 _))),(5,.call (ih x6 (zhs (lM hx6))) kc_7)] [23] [(32,vb (!(za8.few L x6)))] [] h fun a w h=>cS (!(za8.few L x6)) h (fun hc10=>?_) (fun hc11=>?_)
  ·have hc10':=hc10;(try simp at hc10');refine Jd 1 [] [32] [(4,vb false)] [] h fun a w h=>qV (za7 (za2 (za2 (za7 (za2 (rT (.c (cB false)) h rfl ?_))))));have hz:f.few L=false:=by rw [za8.few_eq,zcq hx6 (show (za8.few L x6)=false from by simpa using hc10),Bool.and_false]
   rw [hz];try rfl
  have hc11':=hc11;(try simp at hc11');refine qU (zac (za0 (Jm 1 [(1,.j1 j)] [32] [(6,vI ((j:Int)+1))] [] h fun a w h=>za0 (zag (x:=j) (y:=j+1) h ?_ ?_))))
  ·exact ⟨by have:=zak hx6;omega,zea hx6 hI2 (show (za8.few L x6)=true from by simpa using hc11)⟩
  show (cnt f.kind f.kids).length - (j+1)<(cnt f.kind f.kids).length - j;have:=zak hx6;omega
 refine wp_exit (zaa (zaa (za5 (za0 (Jq 1 [] [(4,vb true)] [] h fun a w h=>qV (rT (.c (cB true)) h rfl ?_))))));have hz:f.few L=true:=by rw [za8.few_eq,(show (!(f.kind == 2) || fewR L f.r)=true from by rw [hc8];rfl),zdx (dF hc12) hI2];rfl
 rw [hz];try rfl
theorem Sfew (L:Int) (f:za8):f.lb->Fn Tryz.prog 93 [] [(vF f),vi .i64 L] (vb (f.few L)) [] :=
 za8.ind (P:=fun f=>f.lb->Fn Tryz.prog 93 [] [(vF f),vi .i64 L] (vb (f.few L)) []) (fun k r ks ih hl=>by
  have hl:=(za8.lb_eq _).1 hl
  exact Sfew0 ⟨k,r,ks⟩ L (fun g hg=>ih g hg (hl.2 g hg)) hl.1.2) f
theorem SFewF (f:za8) (most L:Int) (hl:f.lb) (h0:0<=most) (h1:most<=1000):Fn Tryz.prog 49 [] [(vF f),vI most,vI L] (vb (zh0 f most L)) []:=by
 refine Fn.body Tryz.func49 rfl 15 rfl fun w H B a h=>Jq 0 [] [(1,vI most),(2,vI L),(3,vp 0 0),(6,vb false)] [(0,.box (zF f))] h fun a w h=>qW (Je 1 [(2,.call (SSize f hl most h0 h1) kc_2)] [1] [(11,vb (decide (f.size most>most)))] h fun a w h=>zap (f.size most>most) h (fun hc1 hc1'=>?_) (fun hc2 hc2'=>?_))
 ·refine Je 1 [] [11] [] h fun a w h=>qV (za2 (rT (.c (cB false)) h rfl ?_));unfold zh0;rw [hc1];try rfl
 refine qU (za0 (Jq 1 [(2,.call (Sfew L f hl) kc_7)] [(6,vb (f.few L))] [] h fun a w h=>qV (rT (.c (cB (f.few L))) h rfl ?_)));unfold zh0;rw [hc2];try rfl
theorem SRValue (t:zgm) (vs:List ZI) {n L M:Nat} (ht:TOk n L t) (hn:n<=1000) (hL:L+M<=20000) (hv:VOk M vs):Fn Tryz.prog 47 [] [(vT t),(vZs vs)] (vz (ZI.of (valT t vs))) []:=by
 have kt:=ht.kl;have lnv:=hv.1;refine Fn.body Tryz.func47 rfl 27 rfl fun w H B a h=>Jq 0 [] [(1,(vZs vs)),(2,vp 0 0),(4,vp 1 0)] [(0,.box (zT t)),(1,.box [cB false,.d (nsl [])])] h fun a w h=>Jd 2 [] [] [(5,vp 2 0)] [(0,.box (zT t)),(1,.box [cB false,.d (nsl [])]),(2,.box (zi t.k))] h fun a w h=>qW (Je 3 [] [] [(6,vI 0)] h fun a w h=>qZ ?_)
 refine zb5 (ι:=(Nat) × (ZI)) (fun (j,out)=>j<=vs.length/\out.val=t.k.val+zgo vs (fltV j t.parts)/\Lb out.abs/\out.abs.length<=L+M+2)
   (fun (j,out)=>[(1,(vZs vs)),(2,vp 0 0),(4,vp 1 0),(5,vp 2 0),(6,vN j)])
   (fun (j,out)=>[(0,.box (zT t)),(1,.box [cB false,.d (nsl [])]),(2,.box (zi out))])
   (fun (j,out)=>vs.length - j) (0,t.k) ?_ h (by kernel_rfl) (by kernel_rfl) ?_
 ·exact ⟨Nat.zero_le _,by rw [fltV_zero];simp [zgo],ht.kb,by omega⟩
 clear h;rintro ⟨j,out⟩ a w hI h;dsimp only at h;obtain ⟨hI1,vo,ho,lo⟩:=hI;refine qW (Je 3 [(2,.len (za3 2 ziD vs))] [] [(12,vb (decide ((j:Int)<(vs.length:Int))))] h fun a w h=>zap ((j:Int)<(vs.length:Int)) h (fun hc1 hc1'=>?_) (fun hc2 hc2'=>?_))
 ·refine qU (za0 (qW (qZ ?_)));obtain ⟨r1,er1,vr1,or1,lr1⟩:=mkZ (v:=zeh t.parts (j:Int)) (m:=L+1) (coef_len (ht.mono hn (Nat.le_refl L)).psok (j:Int));obtain ⟨x2,hx2⟩:=gl vs j;obtain ⟨ox2,lx2⟩:=hv.get hx2;obtain ⟨r3,er3,vr3,or3,lr3⟩:=mkZ (v:=r1.val*x2.val) (m:=r1.abs.length+x2.abs.length) (len_mul or1 ox2);obtain ⟨r4,er4,vr4,or4,lr4⟩:=mkZ (v:=out.val+r3.val) (m:=out.abs.length+r3.abs.length+1) (zdk ho or3);refine Jm 3 [(3,.call (Fn.cast (SCoef t (j:Int) (ht.mono hn (show L<=40000 by omega)).psok) (congrArg vz er1.symm)) tb_4),(6,.g (xD 21 19 zh9 (zab hx2 (f:=ziD)) (OV.tmp 20 _))),(8,.call (Fn.cast (SRMul r1 x2 or1 ox2 (by omega) (by omega)) (congrArg vz er3.symm)) zs_18),(9,.call (Fn.cast (SRAdd out r3 ho or3 (by omega) (by omega)) (congrArg vz er4.symm)) ib_5)] [12] [] [(0,.box (zT t)),(1,.box [cB false,.d (nsl [])]),(2,.box (zi r4))] h fun a w h=>zac (za0 (Jf 3 [(1,.j1 j)] [] [(6,vI ((j:Int)+1))] h fun a w h=>za0 (zag (x:=(j,out)) (y:=((j+1),r4)) h ?_ ?_)))
  ·have:=zak hx2;have hvz:r4.val=t.k.val+zgo vs (fltV (j+1) t.parts):=by rw [vr4,vr3,vr1,vo,fltV_succ,valAt_some (v:=(j:Int)) rfl hx2,Int.add_assoc]
   exact ⟨by omega,hvz,or4,by rw [er4];exact Nat.le_trans (by rw [<- vr4,hvz];exact zfg ht hn hv fltV_mem (fltV_len _ _)) (by omega)⟩
  show vs.length - (j+1)<vs.length - j;have:=zak hx2;omega
 refine wp_exit (zaa (zaa (za5 (za0 ?_))));obtain ⟨r5,er5,vr5,or5,lr5⟩:=mkZ (v:=out.val) (m:=out.abs.length) (zgy ho);refine Jq 3 [(1,.call (Fn.cast (SRClean out ho (by omega)) (congrArg vz er5.symm)) tb_7)] [(4,vp 1 0)] [(1,.box (zi r5))] h fun a w h=>qV (rA 1 (zi r5) h zfd rfl ?_);have hz:out.val=valT t vs:=by rw [vo,show j=vs.length by first | omega | (simp_all;omega),fltV_all];rfl
 first | (rw [er5,hz];done) | (rw [er5,hz];rfl) | (rw [hz];done) | (rw [hz];rfl)
def fam1tb:Tb:=[(24,⟨1,false,[],[.d (.raw za4)],1⟩),(4,⟨1,false,[],[.d (.raw (.bool false))],3⟩),(26,⟨1,false,[],[.d (nsl [])],1⟩),(28,⟨2,true,[(0,1,false),(1,1,false)],[.d (.raw (.bool false)),.d (nsl [])],0⟩),(30,⟨3,true,[(0,1,false),(1,2,true)],[.d (.raw za4),.d (.raw (.bool false)),.d (nsl [])],0⟩),(32,⟨4,true,[(0,3,true),(3,1,false)],[.d (.raw za4),.d (.raw (.bool false)),.d (nsl []),.d (.raw (.bool false))],0⟩),(3,⟨1,false,[],[.d (.raw (.int .i64 0))],13⟩),(33,⟨1,false,[],[.d (.raw za4)],1⟩),(35,⟨6,true,[(0,1,false),(1,4,true),(5,1,false)],[.d (.raw (.int .i64 0)),.d (.raw za4),.d (.raw (.bool false)),.d (nsl []),.d (.raw (.bool false)),.d (.raw za4)],0⟩),(45,⟨1,false,[],[.d (.raw za4)],1⟩),(194,⟨1,false,[],[.d (.raw .nilFunc)],4⟩)]
theorem zas:zi6 Tryz.prog fam1tb:=⟨zbb.slc Tryz.underlying24 (by kernel_rfl) ⟨(.slice none 0 0:Value),[.slice none 0 0],by kernel_rfl,rfl,(fun _ _=>⟨DR.raw _ rfl,trivial⟩)⟩,
 zbb.bl Tryz.underlying4 (by kernel_rfl) ⟨(.bool false:Value),[.bool false],by kernel_rfl,rfl,(fun _ _=>⟨DR.raw _ rfl,trivial⟩)⟩,
 zbb.slc Tryz.underlying26 (by kernel_rfl) ⟨(.slice none 0 0:Value),[.slice none 0 0],by kernel_rfl,rfl,(fun _ _=>⟨DR.nil _ _ _ (fun _=>rfl) (Nat.zero_le _),trivial⟩)⟩,
 zbb.st Tryz.underlying28 (by kernel_rfl) ⟨⟨by decide,Fd.mk' _ _ Tryz.underlying28 rfl rfl (Sz.mk' (by kernel_rfl) Tryz.underlying4 _ rfl)⟩,⟨by decide,Fd.mk' _ _ Tryz.underlying28 rfl rfl (Sz.mk' (by kernel_rfl) Tryz.underlying26 _ rfl)⟩,trivial⟩ ⟨(Value.agg #[.bool false,.slice none 0 0]),[.bool false,.slice none 0 0],by kernel_rfl,rfl,(fun _ _=>⟨DR.raw _ rfl,DR.nil _ _ _ (fun _=>rfl) (Nat.zero_le _),trivial⟩)⟩ ⟨_,Tryz.underlying28,⟨⟨rfl,by kernel_rfl⟩,⟨rfl,by kernel_rfl⟩,trivial⟩⟩,
 zbb.st Tryz.underlying30 (by kernel_rfl) ⟨⟨by decide,Fd.mk' _ _ Tryz.underlying30 rfl rfl (Sz.mk' (by kernel_rfl) Tryz.underlying24 _ rfl)⟩,⟨by decide,Fd.mk' _ _ Tryz.underlying30 rfl rfl (Sz.mk' (by kernel_rfl) Tryz.underlying28 _ rfl)⟩,trivial⟩ ⟨(Value.agg #[.slice none 0 0,.bool false,.slice none 0 0]),[.slice none 0 0,.bool false,.slice none 0 0],by kernel_rfl,rfl,(fun _ _=>⟨DR.raw _ rfl,DR.raw _ rfl,DR.nil _ _ _ (fun _=>rfl) (Nat.zero_le _),trivial⟩)⟩ ⟨_,Tryz.underlying30,⟨⟨rfl,by kernel_rfl⟩,⟨rfl,by kernel_rfl⟩,trivial⟩⟩,
 zbb.st Tryz.underlying32 (by kernel_rfl) ⟨⟨by decide,Fd.mk' _ _ Tryz.underlying32 rfl rfl (Sz.mk' (by kernel_rfl) Tryz.underlying30 _ rfl)⟩,⟨by decide,Fd.mk' _ _ Tryz.underlying32 rfl rfl (Sz.mk' (by kernel_rfl) Tryz.underlying4 _ rfl)⟩,trivial⟩ ⟨(Value.agg #[.slice none 0 0,.bool false,.slice none 0 0,.bool false]),[.slice none 0 0,.bool false,.slice none 0 0,.bool false],by kernel_rfl,rfl,(fun _ _=>⟨DR.raw _ rfl,DR.raw _ rfl,DR.nil _ _ _ (fun _=>rfl) (Nat.zero_le _),DR.raw _ rfl,trivial⟩)⟩ ⟨_,Tryz.underlying32,⟨⟨rfl,by kernel_rfl⟩,⟨rfl,by kernel_rfl⟩,trivial⟩⟩,
 zbb.int Tryz.underlying3 rfl (by kernel_rfl) ⟨(.int .i64 0:Value),[.int .i64 0],by kernel_rfl,rfl,(fun _ _=>⟨DR.raw _ rfl,trivial⟩)⟩,
 zbb.slc Tryz.underlying33 (by kernel_rfl) ⟨(.slice none 0 0:Value),[.slice none 0 0],by kernel_rfl,rfl,(fun _ _=>⟨DR.raw _ rfl,trivial⟩)⟩,
 zbb.st Tryz.underlying35 (by kernel_rfl) ⟨⟨by decide,Fd.mk' _ _ Tryz.underlying35 rfl rfl (Sz.mk' (by kernel_rfl) Tryz.underlying3 _ rfl)⟩,⟨by decide,Fd.mk' _ _ Tryz.underlying35 rfl rfl (Sz.mk' (by kernel_rfl) Tryz.underlying32 _ rfl)⟩,⟨by decide,Fd.mk' _ _ Tryz.underlying35 rfl rfl (Sz.mk' (by kernel_rfl) Tryz.underlying33 _ rfl)⟩,trivial⟩ ⟨(Value.agg #[.int .i64 0,.slice none 0 0,.bool false,.slice none 0 0,.bool false,.slice none 0 0]),[.int .i64 0,.slice none 0 0,.bool false,.slice none 0 0,.bool false,.slice none 0 0],by kernel_rfl,rfl,(fun _ _=>⟨DR.raw _ rfl,DR.raw _ rfl,DR.raw _ rfl,DR.nil _ _ _ (fun _=>rfl) (Nat.zero_le _),DR.raw _ rfl,DR.raw _ rfl,trivial⟩)⟩ ⟨_,Tryz.underlying35,⟨⟨rfl,by kernel_rfl⟩,⟨rfl,by kernel_rfl⟩,⟨rfl,by kernel_rfl⟩,trivial⟩⟩,
 zbb.slc Tryz.underlying45 (by kernel_rfl) ⟨(.slice none 0 0:Value),[.slice none 0 0],by kernel_rfl,rfl,(fun _ _=>⟨DR.raw _ rfl,trivial⟩)⟩,
 zbb.fnc Tryz.underlying194 rfl (by kernel_rfl) ⟨(.nilFunc:Value),[.nilFunc],by kernel_rfl,rfl,(fun _ _=>⟨DR.raw _ rfl,trivial⟩)⟩,
 trivial⟩
end S
end Go.Proofs.YtdnhcneallkljaaGreat
