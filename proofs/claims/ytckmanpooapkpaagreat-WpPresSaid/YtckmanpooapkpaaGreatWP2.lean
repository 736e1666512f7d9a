/-
  Part 2 of the proof of the statement WpPres: the walk through the program and the references lifted to the given row. It holds for every input.
-/
import Derived.Test.YtckmanpooapkpaaGreatWP1
import Derived.Laws.AppendOwn
import Derived.Great.BuildSlice
import Derived.ProofKit
import Derived.OpenShut
import Derived.ShutString
import Derived.ChangeOld
import Derived.Below
import Derived.Deep.Slices
import Derived.ChangeArms
import Derived.Laws.Cover3
set_option maxRecDepth 100000
set_option maxHeartbeats 20000000
open Go.RowKit
namespace Go.Proofs.YtckmanpooapkpaaGreat
namespace S
/-- a slice type, its elements' type and size -/
structure SlT (P:Program) (t el:TypeId) (es:Nat):Prop where
  hu:P.underlying t=some (.slice el)
  hs:(P.info? el).map (·.size)=some es
theorem SlT.mk' {P:Program} {t el:TypeId} {es:Nat} (hu:P.underlying t=some (.slice el)) (hs:(P.info? el).map (·.size)=some es):SlT P t el es:=⟨hu,hs⟩
theorem size_run {P:Program} {t:TypeId} {n:Nat} (h:(P.info? t).map (·.size)=some n) (w:World):(Go.sizeOf t).run P w = .ok n w:=by
 cases hi:P.info? t with
 | none=>rw [hi] at h;cases h
 | some i =>
  rw [hi] at h
  injection h with h
  have e1:(typeInfo t).run P w = .ok i w:=by unfold typeInfo;simp only [Sem.run_bind,run_program,Result.andThen_ok,hi];rfl
  unfold Go.sizeOf
  simp [e1,h,go_sem]
theorem run_indexAt {P:Program} {t el:TypeId} {es:Nat} (h:SlT P t el es) {b o n c i:Nat} {k:IntKind} (hi:i<n) (w:World) :
  (Instr.indexAt t (.slice (some ⟨b,o,none⟩) n c) (.int k i)).run P w = .ok (.pointer (some ⟨b,o+i*es,none⟩)) w:=by
 have h1:(0:Int)<=i/\(i:Int)<n:=⟨by omega,by omega⟩
 unfold Instr.indexAt
 simp only [asIntOf,Sem.run_bind,Sem.run_pure,Result.andThen_ok,run_underlying h.hu,h1,and_self,if_true,size_run h.hs,Int.toNat_natCast,Addr.add_mid]
section
variable {P:Program}
theorem Op.idxD {d t:Nat} {y:Operand} {es i:Nat} {rows:List (List D)} {r:List D} {k:IntKind} {rs:List (Nat × V)} {xt el ty:TypeId} {pos af gd} (hs:SlT P xt el es) (hr:rows[i]?=some r) (hy:OV y (vi k i) rs) :
  zbe P ⟨some d,.indexAddr xt (.tmp t) y,ty,pos,af,gd⟩ { rs:=(t,.t (.c (.d (.sl es rows)))) :: rs,ws:=[(d,some (.t (.c (.el r))))] } :=
 zbe.value d _ rfl rfl rfl fun e f H B a w hok hr2=>by
  have h1:=hok.slot t _ (hr2.1 (t,.t (.c (.d (.sl es rows)))) (by simp))
  have h2:a.eval y = .int k i:=(hy.eval hok fun p hp=>hr2.1 p (by simp [hp])).rawI
  obtain ⟨hi,rfl⟩:=List.getElem?_eq_some_iff.1 hr
  have h3:DR H (.sl es rows) (a.eval (.tmp t)):=h1
  generalize hv0:a.eval (.tmp t)=v at h3
  cases h3 with
  | nil ao c=>simp at hi
  | sl _ _ b o c arr ty' fz vs hp hb hl hc hes hv hx =>
   refine ⟨.pointer (some ⟨b,o+i*es,none⟩),?_,b,o+i*es,arr,ty', fz,hb,rfl,fun j hj=>⟨vs i j,hv i hi j (by rw [<- hes i hi];exact hj),hx i hi j hj⟩⟩
   have h5:a.eval (.tmp t) = .slice (some ⟨b,o,none⟩) rows.length c:=hv0
   generalize a.eval=ρ at h5 h2 ⊢
   simp only [execOp,h5,h2,Sem.run_bind,run_indexAt hs hi,Result.andThen_ok,Sem.run_pure]
end
theorem zba.iff {α β:Type} {R:α->β->Prop}:∀ {xs:List α} {ys:List β}, zba R xs ys ↔ xs.length=ys.length/\∀ (j:Nat) a b,xs[j]?=some a->ys[j]?=some b->R a b
 | [],[]=>⟨fun _=>⟨rfl,fun j a b h=>by simp at h⟩,fun _=>trivial⟩
 | x :: xs,y :: ys=>by
  constructor
  ·intro h
   obtain ⟨h1,h2⟩:=zba.iff.1 h.2
   refine ⟨by simp [h1],fun j a b ha hb=>?_⟩
   cases j with
   | zero=>simp at ha hb;subst ha hb;exact h.1
   | succ j=>exact h2 j a b (by simpa using ha) (by simpa using hb)
  ·rintro ⟨h1,h2⟩
   exact ⟨h2 0 x y rfl rfl,zba.iff.2 ⟨by simpa using h1,fun j a b ha hb=>h2 (j+1) a b (by simpa using ha) (by simpa using hb)⟩⟩
 | [],_ :: _=>⟨fun h=>h.elim,fun h=>by simp at h⟩
 | _ :: _,[]=>⟨fun h=>h.elim,fun h=>by simp at h⟩
theorem flat_at {α:Type} {es:Nat}:∀ {rows:List (List α)} (_:∀ r ∈ rows,r.length=es) (i f:Nat),f<es->rows.flatten[i*es+f]?=(rows[i]?).bind (·[f]?)
 | [],_,i,f,_=>by simp
 | r :: rows,h,0,f,hf=>by
  have:r.length=es:=h r (by simp)
  simp only [List.flatten_cons,Nat.zero_mul,Nat.zero_add,List.getElem?_cons_zero,Option.bind_some]
  rw [List.getElem?_append_left (by omega)]
 | r :: rows,h,i+1,f,hf=>by
  have:r.length=es:=h r (by simp)
  simp only [List.flatten_cons,List.getElem?_cons_succ]
  rw [List.getElem?_append_right (by rw [this,Nat.add_mul];omega),<- flat_at (fun r hr=>h r (by simp [hr])) i f hf]
  congr 1
  rw [this,Nat.add_mul];omega
theorem zig {α:Type} {es:Nat}:∀ {rows:List (List α)} (_:∀ r ∈ rows,r.length=es),rows.flatten.length=rows.length*es
 | [],_=>by simp
 | r :: rows,h=>by
  rw [List.flatten_cons,List.length_append,zig fun r hr=>h r (by simp [hr]),h r (by simp),List.length_cons,Nat.add_mul];omega
def RowAt (H:Im) (arr:List Value) (es:Nat) (rows:List (List D)):Prop:=∀ (i:Nat) r,rows[i]?=some r->∀ (f:Nat) x,r[f]?=some x->∃ u,arr[i*es+f]?=some u/\DR H x u
theorem zcx {H:Im} {arr:List Value} {es c:Nat} {rows:List (List D)} (h1:arr.length=c*es) (h2:rows.length<=c) (h3:∀ r ∈ rows,r.length=es) :
  zba (DR H) rows.flatten (arr.take (rows.length*es)) ↔ RowAt H arr es rows:=by
 have hle:rows.length*es<=c*es:=Nat.mul_le_mul_right _ h2
 rw [zba.iff]
 constructor
 ·rintro ⟨_,hR⟩ i r hr f x hx
  have hf:f<es:=by rw [<- h3 r (List.mem_of_getElem? hr)];exact (List.getElem?_eq_some_iff.1 hx).1
  have hi:i<rows.length:=(List.getElem?_eq_some_iff.1 hr).1
  have hlt:i*es+f<rows.length*es:=by
   have:(i+1)*es<=rows.length*es:=Nat.mul_le_mul_right _ hi
   rw [Nat.add_mul] at this;omega
  have e1:rows.flatten[i*es+f]?=some x:=by rw [flat_at h3 i f hf,hr];exact hx
  have e2:arr[i*es+f]?=some (arr[i*es+f]'(by omega)):=List.getElem?_eq_getElem _
  refine ⟨_,e2,hR _ _ _ e1 ?_⟩
  rw [List.getElem?_take,if_pos hlt,e2]
 ·intro hR
  refine ⟨by rw [zig h3,List.length_take];omega,fun j x u hx hu=>?_⟩
  have hj:j<rows.length*es:=by rw [<- zig h3];exact (List.getElem?_eq_some_iff.1 hx).1
  have he:0<es:=Nat.pos_of_ne_zero fun e=>by simp [e] at hj
  have hjj:j=j / es*es+j % es:=by rw [Nat.mul_comm];exact (Nat.div_add_mod j es).symm
  rw [hjj,flat_at h3 _ _ (Nat.mod_lt _ he)] at hx
  cases hr:rows[j / es]? with
  | none=>rw [hr] at hx;cases hx
  | some r =>
   rw [hr] at hx
   obtain ⟨v,h4,h5⟩:=hR _ r hr _ x hx
   rw [<- hjj] at h4
   rw [List.getElem?_take,if_pos hj,h4] at hu
   injection hu with hu
   rwa [<- hu]
theorem zkl {α:Type}:∀ (r l:List α) (o j:Nat),o+r.length<=l.length->(zk5 l o r)[j]?=if o<=j/\j<o+r.length then r[j - o]? else l[j]?
 | [],l,o,j,_=>by simp [zk5];intros;omega
 | v :: r,l,o,j,h=>by
  simp only [List.length_cons] at h
  rw [zk5,zkl r (l.set o v) (o+1) j (by simp;omega)]
  by_cases h1:j=o
  ·subst h1
   have:¬ (j+1<=j/\j<j+1+r.length):=by omega
   rw [if_neg this,if_pos ⟨Nat.le_refl _,by simp⟩,Nat.sub_self,List.getElem?_set_self (by omega)]
   rfl
  ·by_cases h2:o+1<=j/\j<o+1+r.length
   ·rw [if_pos h2,if_pos (by simp;omega),show j - o=(j - (o+1))+1 by omega,List.getElem?_cons_succ]
   ·rw [if_neg h2,if_neg (by simp;omega),List.getElem?_set_ne (by omega)]
section
variable {P:Program}
theorem Op.idxO {d t n len i es:Nat} {y:Operand} {k:IntKind} {rs:List (Nat × V)} {xt el ty:TypeId} {pos af gd} (hs:SlT P xt el es) (hi:i<len) (hy:OV y (vi k i) rs) :
  zbe P ⟨some d,.indexAddr xt (.tmp t) y,ty,pos,af,gd⟩ { rs:=(t,.t (.c (.own n len))) :: rs,ws:=[(d,some (vp n (i*es)))] } :=
 zbe.value d _ rfl rfl rfl fun e f H B a w hok hr2=>by
  have h1:=hok.slot t _ (hr2.1 (t,.t (.c (.own n len))) (by simp))
  have h2:a.eval y = .int k i:=(hy.eval hok fun p hp=>hr2.1 p (by simp [hp])).rawI
  simp only [VR,TR,CR] at h1
  cases hB:B n with
  | none=>rw [hB] at h1;have:=h1.1;omega
  | some p =>
   obtain ⟨b,c⟩:=p
   rw [hB] at h1
   refine ⟨.pointer (some ⟨b,i*es,none⟩),?_,b,c,hB,rfl⟩
   have h5:a.eval (.tmp t) = .slice (some ⟨b,0,none⟩) len c:=h1
   generalize a.eval=ρ at h5 h2 ⊢
   simp only [execOp,h5,h2,Sem.run_bind,run_indexAt hs hi,Result.andThen_ok,Sem.run_pure,Nat.zero_add]
theorem Ok.row {e:E} {f:F} {H:Im} {B:Bl} {a:Act} {w:World} (h:Ok e f H B a w) {n:Nat} {ty:TypeId} {es:Nat} {rows:List (List D)} (hl:f.l n=some (.row ty es rows)) {b c:Nat} (hB:B n=some (b,c)) :
  ∃ arr:List Value,w.heap[b]?=some (.cells ⟨arr⟩ ty (0,0))/\arr.length=c*es/\rows.length<=c/\c<=maxLen/\(∀ r ∈ rows,r.length=es)/\RowAt H arr es rows:=by
 have h1:=h.loc n _ hl
 simp only [LR,hB] at h1
 obtain ⟨arr,h1,h2,h3,h4,h5,h6⟩:=h1
 exact ⟨arr,h1,h2,h3,h4,h5,(zcx h2 h3 h5).1 h6⟩
theorem Op.loadR_agg {d t n o i fo m es:Nat} {rows:List (List D)} {r xs:List D} {rty xt ty:TypeId} {pos af gd} (hs:Sz P xt m true) (ho:o=i*es+fo) (hr:rows[i]?=some r) (hx:(r.drop fo).take m=xs) (hm:xs.length=m) :
  zbe P ⟨some d,.load xt (.tmp t),ty,pos,af,gd⟩ { rs:=[(t,vp n o)],rl:=[(n,.row rty es rows)],ws:=[(d,some (.t (.agg (xs.map C.d))))] } :=
 zbe.value d _ rfl rfl rfl fun e f H B a w hok hr2=>by
  obtain ⟨b,c,hb,hu⟩:=(hok.slot t _ (hr2.1 (t,vp n o) (by simp))).ptrI
  obtain ⟨arr,h1,h2,h3,h4,h5,h6⟩:=hok.row (hr2.2 (n,.row rty es rows) (by simp)) hb
  have hfill:∀ j (hj:j<m),∃ u,arr[o+j]?=some u/\DR H (xs[j]'(by omega)) u:=by
   intro j hj
   have:r[fo+j]?=some (xs[j]'(by omega)):=by
    rw [<- List.getElem?_eq_getElem,<- hx,List.getElem?_take,if_pos hj,List.getElem?_drop]
   obtain ⟨u,g1,g2⟩:=h6 i r hr (fo+j) _ this
   exact ⟨u,by rw [ho,Nat.add_assoc];exact g1,g2⟩
  have hlen:((arr.drop o).take m).length=m:=by
   rw [List.length_take,List.length_drop]
   cases m with
   | zero=>omega
   | succ m =>
    obtain ⟨u,g1,_⟩:=hfill m (by omega)
    have:=(List.getElem?_eq_some_iff.1 g1).1
    omega
  refine ⟨.agg ((arr.drop o).take m).toArray,?_,⟨_,rfl,?_⟩⟩
  ·have h7:a.eval (.tmp t) = .pointer (some ⟨b,o,none⟩):=hu
   generalize a.eval=ρ at h7 ⊢
   have h8:=zf6 (P:=P) hs (w:=w) (b:=b) (o:=o) (cs:=(arr.drop o).take m) hlen (fun j v hv=>by
    refine zey h1 ?_
    rw [List.getElem?_take] at hv
    split at hv
    ·rw [List.getElem?_drop] at hv;exact hv
    ·cases hv)
   simp only [execOp,h7,Instr.loadAt,Instr.sureAddr,Sem.run_bind,Sem.run_pure,Result.andThen_ok,h8]
  ·refine zba.iff.2 ⟨by simp [hlen,hm],fun j x u hx2 hu2=>?_⟩
   rw [List.getElem?_map] at hx2
   cases hj:xs[j]? with
   | none=>rw [hj] at hx2;cases hx2
   | some y =>
    rw [hj] at hx2
    injection hx2 with hx2
    subst hx2
    obtain ⟨hjl,hjy⟩:=List.getElem?_eq_some_iff.1 hj
    obtain ⟨u', g1,g2⟩:=hfill j (by omega)
    rw [List.getElem?_take,if_pos (by omega),List.getElem?_drop,g1] at hu2
    injection hu2 with hu2
    subst hu2
    rw [<- hjy]
    exact g2
theorem Op.loadR_c {d t n o i fo m es:Nat} {rows:List (List D)} {r:List D} {x:D} {rty xt ty:TypeId} {pos af gd} (hs:Sz P xt m false) (ho:o=i*es+fo) (hr:rows[i]?=some r) (hx:r[fo]?=some x) :
  zbe P ⟨some d,.load xt (.tmp t),ty,pos,af,gd⟩ { rs:=[(t,vp n o)],rl:=[(n,.row rty es rows)],ws:=[(d,some (.t (.c (.d x))))] } :=
 zbe.value d _ rfl rfl rfl fun e f H B a w hok hr2=>by
  obtain ⟨b,c,hb,hu⟩:=(hok.slot t _ (hr2.1 (t,vp n o) (by simp))).ptrI
  obtain ⟨arr,h1,h2,h3,h4,h5,h6⟩:=hok.row (hr2.2 (n,.row rty es rows) (by simp)) hb
  obtain ⟨u,g1,g2⟩:=h6 i r hr fo x hx
  rw [<- ho] at g1
  refine ⟨u,?_,g2⟩
  have h7:a.eval (.tmp t) = .pointer (some ⟨b,o,none⟩):=hu
  generalize a.eval=ρ at h7 ⊢
  have h8:=zh1 (P:=P) hs (zey h1 g1)
  simp only [execOp,h7,Instr.loadAt,Instr.sureAddr,Sem.run_bind,Sem.run_pure,Result.andThen_ok,h8]
theorem Op.storeR {t n o i fo m es:Nat} {ag:Bool} {rows rows':List (List D)} {r ds:List D} {x:Operand} {v:T} {rs:List (Nat × V)} {rty xt ty:TypeId} {pos af gd} (hs:Sz P xt m ag) (h:OV x (.t v) rs) (hv:cellsOf v=ds.map C.d) (hm:ds.length=m)
  (ho:o=i*es+fo) (hr:rows[i]?=some r) (hf:fo+m<=r.length) (hn:rows.set i (zk5 r fo ds)=rows') :
  zbe P ⟨none,.store xt (.tmp t) x,ty,pos,af,gd⟩ { rs:=(t,vp n o) :: rs,rl:=[(n,.row rty es rows)],wl:=[(n,some (.row rty es rows'))] }:=by
 rintro e f a w Q ⟨H,B,hok⟩ hr2 hnw hb0
 obtain ⟨b,c,hb,hu⟩:=(hok.slot t _ (hr2.1 (t,vp n o) (by simp))).ptrI
 have hfl:=hr2.2 (n,.row rty es rows) (by simp)
 obtain ⟨arr,hcl,h2,h3,h4,h5,h6⟩:=hok.row hfl hb
 have hev:=h.eval hok (fun p hp=>hr2.1 p (by simp [hp]))
 obtain ⟨l,g3,g4⟩:=TR.cells hev
 rw [hv] at g4
 have hll:l.length=m:=by rw [<- g4.length,List.length_map,hm]
 have hre:r.length=es:=h5 r (List.mem_of_getElem? hr)
 have hi:i<rows.length:=(List.getElem?_eq_some_iff.1 hr).1
 have hie:(i+1)*es<=c*es:=Nat.mul_le_mul_right _ (by omega)
 rw [Nat.add_mul] at hie
 have ho':o+m<=arr.length:=by rw [h2,ho];omega
 have hrun:(storeVar xt ⟨b,o,none⟩ (a.eval x)).run P w = .ok () (w.setCells b o l):=by
  have hst:=run_storeCells_cells (P:=P) b o l 0 w (fun j hj=>by
    rw [zey hcl (o:=o+0+j) (v:=arr[o+0+j]'(by omega)) (List.getElem?_eq_getElem _)];rfl) (fun j hj=>by simp [World.frozen?, hcl]) (fun v hv=>by
    obtain ⟨i,hi,rfl⟩:=List.getElem_of_mem hv
    obtain ⟨y,hy,hR⟩:=g4.get i (by rw [g4.length];exact hi)
    rw [List.getElem?_eq_getElem hi] at hy
    injection hy with hy
    rw [hy]
    exact zif (CR.flat hR))
  unfold storeVar
  simp only [Sem.run_bind,hs.sizeOf,Result.andThen_ok,g3,hll,List.size_toArray,ne_eq,not_true_eq_false,if_false]
  simpa using hst
 obtain ⟨k1,k2,k3,k4,k5,k6⟩:=zei l o w arr hcl
 have hg:a.eval (.tmp t) = .pointer (some ⟨b,o,none⟩):=hu
 unfold Oper.wp
 have hexec:(execOp a.eval ⟨none,.store xt (.tmp t) x,ty,pos,af,gd⟩).run P w = .ok .skip (w.setCells b o l):=by
  generalize hq:a.eval x=q at hrun
  generalize a.eval=ρ at hg hq ⊢
  simp only [execOp,hg,hq,Instr.storeAt,Instr.sureAddr,Sem.run_bind,Sem.run_pure,Result.andThen_ok,hrun]
 rw [hexec,Oper.upon_skip]
 subst hn
 have hrows:∀ r' ∈ rows.set i (zk5 r fo ds),r'.length=es:=by
  intro r' hr'
  rcases List.mem_or_eq_of_mem_set hr' with h' | rfl
  ·exact h5 r' h'
  ·rw [zdt];exact hre
 have hlr:LR H B (w.setCells b o l) n (.row rty es (rows.set i (zk5 r fo ds))):=by
  simp only [LR,hb]
  refine ⟨zk5 arr o l,k1,by rw [zdt];exact h2,by simpa using h3,h4,hrows,?_⟩
  refine (zcx (by rw [zdt];exact h2) (by simpa using h3) hrows).2 ?_
  intro i' r' hr' f' x' hx'
  rw [zkl l arr o _ (by omega)]
  have hf':f'<es:=by rw [<- hrows r' (List.mem_of_getElem? hr')];exact (List.getElem?_eq_some_iff.1 hx').1
  by_cases hii:i'=i
  ·subst hii
   rw [List.getElem?_set_self hi] at hr'
   injection hr' with hr'
   subst hr'
   rw [zkl ds r fo _ (by omega)] at hx'
   by_cases hin:fo<=f'/\f'<fo+ds.length
   ·rw [if_pos hin] at hx'
    rw [if_pos (by rw [hll,ho];omega)]
    have e1:i'*es+f' - o=f' - fo:=by rw [ho];omega
    rw [e1]
    have hlt:f' - fo<l.length:=by omega
    refine ⟨_,List.getElem?_eq_getElem hlt,?_⟩
    have:=(zba.iff.1 g4).2 (f' - fo) (.d x') (l[f' - fo]'hlt) (by rw [List.getElem?_map,hx'];rfl) (List.getElem?_eq_getElem hlt)
    exact this
   ·rw [if_neg hin] at hx'
    rw [if_neg (by rw [hll,ho];omega)]
    exact h6 i' r hr f' x' hx'
  ·rw [List.getElem?_set_ne (Ne.symm hii)] at hr'
   have hout:¬ (o<=i'*es+f'/\i'*es+f'<o+l.length):=by
    rw [hll,ho]
    rcases Nat.lt_or_gt_of_ne hii with hlt | hgt
    ·have:(i'+1)*es<=i*es:=Nat.mul_le_mul_right _ hlt
     rw [Nat.add_mul] at this
     omega
    ·have:(i+1)*es<=i'*es:=Nat.mul_le_mul_right _ hgt
     rw [Nat.add_mul] at this
     omega
   rw [if_neg hout]
   exact h6 i' r' hr' f' x' hx'
 exact St.put0 ⟨H,B,hok.write (g:=⟨f.s,fun m=>if m=n then some (.row rty es (rows.set i (zk5 r fo ds))) else f.l m⟩) (l' := .row rty es (rows.set i (zk5 r fo ds))) hfl hb (fun _=>rfl) (fun _=>rfl) k2 k3 k4 k5 k6 hlr⟩ rfl (app0_s _ _ rfl) (fun m=>app1_l f n _ _ rfl m)
end
/-! own rows let go: from here on they stay -/
def C.pub (n es:Nat) (rows:List (List D)):C->C
  | .own m k=>if Nat.beq m n then .d (.sl es rows) else .own m k
  | .ptr m o=>if Nat.beq m n then .any else .ptr m o
  | .sub m o k=>if Nat.beq m n then .any else .sub m o k
  | c=>c
def T.pub (n es:Nat) (rows:List (List D)):T->T
  | .c x => .c (x.pub n es rows)
  | .agg cs => .agg (cs.map (C.pub n es rows))
def V.pub (n es:Nat) (rows:List (List D)):V->V
  | .t x => .t (x.pub n es rows)
  | .tup xs => .tup (xs.map (T.pub n es rows))
def L.pub (n es:Nat) (rows:List (List D)):L->L
  | .box cs => .box (cs.map (C.pub n es rows))
  | .row ty k r => .row ty k r
  | .bld ty c => .bld ty (c.pub n es rows)
def C.owns (n:Nat):C->List Nat
  | .own m k=>if Nat.beq m n then [k] else []
  | _=>[]
def T.owns (n:Nat):T->List Nat
  | .c x=>x.owns n
  | .agg cs=>cs.flatMap (C.owns n)
def V.owns (n:Nat):V->List Nat
  | .t x=>x.owns n
  | .tup xs=>xs.flatMap (T.owns n)
def L.owns (n:Nat):L->List Nat
  | .box cs=>cs.flatMap (C.owns n)
  | .row _ _ _=>[]
  | .bld _ c=>c.owns n
def zbw (m:Nat):List Nat->Prop
  | []=>True
  | k :: ks=>k=m/\zbw m ks
theorem zbw.mem {m:Nat}:∀ {ks:List Nat}, zbw m ks->∀ k ∈ ks,k=m
 | k :: ks,h,x,hx=>by
  rcases List.mem_cons.1 hx with rfl | hx
  ·exact h.1
  ·exact zbw.mem h.2 x hx
theorem row_data {H:Im} {es b c:Nat} {arr:List Value} {ty:TypeId} {rows:List (List D)} (hb:H b=some (.cells ⟨arr⟩ ty (0,0))) (h3:rows.length<=c) (h4:c<=maxLen) (h5:∀ r ∈ rows,r.length=es) (h6:RowAt H arr es rows) :
  DR H (.sl es rows) (.slice (some ⟨b,0,none⟩) rows.length c):=by
 cases hr:rows with
 | nil=>exact .nil es _ c (fun h=>by cases h) h4
 | cons r0 rs0 =>
  rw [<- hr]
  refine .sl es rows b 0 c ⟨arr⟩ ty (0,0) (fun i j=>(arr[i*es+j]?).getD undef) (by rw [hr];simp) hb h3 h4 (fun i hi=>h5 _ (List.getElem_mem hi)) ?_ ?_
  ·intro i hi j hj
   have hj':j<(rows[i]'hi).length:=by rw [h5 _ (List.getElem_mem hi)];exact hj
   obtain ⟨u,g1,_⟩:=h6 i _ (List.getElem?_eq_getElem hi) j _ (List.getElem?_eq_getElem hj')
   simp [g1]
  ·intro i hi j hj
   obtain ⟨u,g1,g2⟩:=h6 i _ (List.getElem?_eq_getElem hi) j _ (List.getElem?_eq_getElem hj)
   simp only [g1,Option.getD_some]
   exact g2
def F.pub (f:F) (n es:Nat) (rows:List (List D)):F :=
  ⟨fun t=>(f.s t).map (V.pub n es rows),fun m=>if Nat.beq m n then none else (f.l m).map (L.pub n es rows)⟩
theorem St.pub {w0:World} {H0:Im} {B0:Bl} {N:Nat} {f:F} {a:Act} {w:World} (h:St ⟨w0,H0,B0,[],N⟩ f a w) (n es:Nat) (ty:TypeId) (rows:List (List D)) (hl:f.l n=some (.row ty es rows))
  (h1:∀ t v,f.s t=some v->∀ k ∈ v.owns n,k=rows.length) (h2:∀ m l,f.l m=some l->∀ k ∈ l.owns n,k=rows.length):St ⟨w0,H0,B0,[],N⟩ (f.pub n es rows) a w:=by
 obtain ⟨H,B,hok⟩:=h
 have hLR:=hok.loc n _ hl
 -- what stays from here on
 obtain ⟨H', hle,hH', hcell⟩:∃ H':Im,Le H H'/\(∀ b o,H' b=some o->H b=some o\/(w.heap[b]?=some o/\∃ c,B n=some (b,c))) /\
   (∀ (x:C) (v:Value),(∀ k ∈ x.owns n,k=rows.length)->CR H B x v->CR H' B (x.pub n es rows) v):=by
  have keepC:∀ {H':Im} (hle:Le H H'),(∀ v,CR H B (.own n rows.length) v->DR H' (.sl es rows) v)->∀ (x:C) (v:Value),(∀ k ∈ x.owns n,k=rows.length)->CR H B x v->CR H' B (x.pub n es rows) v:=by
   intro H' hle hown x v hk hx
   cases x with
   | own m k =>
    simp only [C.pub]
    split
    ·rename_i e1
     have e1:=Nat.eq_of_beq_eq_true e1
     subst e1
     have:=hk k (by simp [C.owns])
     subst this
     exact hown v hx
    ·exact CR.mono hle (fun _ _=>rfl) hx
   | ptr m o =>
    simp only [C.pub]
    split
    ·exact CR.flat hx
    ·exact CR.mono hle (fun _ _=>rfl) hx
   | sub m o k =>
    simp only [C.pub]
    split
    ·exact CR.flat hx
    ·exact CR.mono hle (fun _ _=>rfl) hx
   | d x=>exact CR.mono hle (fun _ _=>rfl) hx
   | el x=>exact CR.mono hle (fun _ _=>rfl) hx
   | fn f' x y=>exact CR.mono hle (fun _ _=>rfl) hx
   | any=>exact hx
  cases hB:B n with
  | none =>
   simp only [LR,hB] at hLR
   subst hLR
   refine ⟨H,Le.refl _,fun b o h => .inl h,keepC (Le.refl _) fun v hv=>?_⟩
   simp only [CR,hB] at hv
   obtain ⟨_,ao,hv⟩:=hv
   rw [hv]
   exact .nil es ao 0 (fun _=>rfl) (Nat.zero_le _)
  | some p =>
   obtain ⟨b,c⟩:=p
   obtain ⟨arr,g1,g2,g3,g4,g5,g6⟩:=hok.row hl hB
   have hnone:=(hok.priv n _ b c hl hB).2.1
   have hle:Le H (fun x=>if x=b then some (.cells ⟨arr⟩ ty (0,0)) else H x):=by
    intro x o hx
    have:x≠b:=fun e=>by rw [e,hnone] at hx;cases hx
    simp [this,hx]
   refine ⟨fun x=>if x=b then some (.cells ⟨arr⟩ ty (0,0)) else H x,hle,?_,keepC hle fun v hv=>?_⟩
   ·intro x o hx
    by_cases e:x=b
    ·subst e
     simp only [if_true] at hx
     exact .inr ⟨by rw [g1];exact hx,c,rfl⟩
    ·simp [e] at hx;exact .inl hx
   ·simp only [CR,hB] at hv
    rw [hv]
    exact row_data (arr:=arr) (ty:=ty) (if_pos rfl) g3 g4 g5 fun i r hr f' x hx=>by
     obtain ⟨u,k1,k2⟩:=g6 i r hr f' x hx
     exact ⟨u,k1,k2.mono hle⟩
 have hT:∀ (x:T) (v:Value),(∀ k ∈ x.owns n,k=rows.length)->TR H B x v->TR H' B (x.pub n es rows) v:=by
  intro x v hk hx
  cases x with
  | c x=>exact hcell x v hk hx
  | agg cs =>
   obtain ⟨vs,hv,hx⟩:=hx
   refine ⟨vs,hv,zba.iff.2 ⟨by rw [List.length_map];exact hx.length,fun j a' b' ha hb=>?_⟩⟩
   rw [List.getElem?_map] at ha
   cases hj:cs[j]? with
   | none=>rw [hj] at ha;cases ha
   | some y =>
    rw [hj] at ha
    injection ha with ha
    subst ha
    exact hcell y b' (fun k hk2=>hk k (by simp only [T.owns,List.mem_flatMap];exact ⟨y,List.mem_of_getElem? hj,hk2⟩)) ((zba.iff.1 hx).2 j y b' hj hb)
 refine ⟨H', B,hok.df,hok.n,hok.ext,?_,?_,?_,?_,?_,?_,hok.le.trans hle,hok.keep⟩
 ·intro b o hb
  rcases hH' b o hb with h' | ⟨h', _⟩
  ·exact hok.sat b o h'
  ·exact h'
 ·intro t v hv
  simp only [F.pub,Option.map_eq_some_iff] at hv
  obtain ⟨x,hx,rfl⟩:=hv
  have hR:=hok.slot t x hx
  have hk:=h1 t x hx
  cases x with
  | t x=>exact hT x _ hk hR
  | tup xs =>
   obtain ⟨vs,hv,hx2⟩:=hR
   refine ⟨vs,hv,zba.iff.2 ⟨by rw [List.length_map];exact hx2.length,fun j a' b' ha hb=>?_⟩⟩
   rw [List.getElem?_map] at ha
   cases hj:xs[j]? with
   | none=>rw [hj] at ha;cases ha
   | some y =>
    rw [hj] at ha
    injection ha with ha
    subst ha
    exact hT y b' (fun k hk2=>hk k (by simp only [V.owns,List.mem_flatMap];exact ⟨y,List.mem_of_getElem? hj,hk2⟩)) ((zba.iff.1 hx2).2 j y b' hj hb)
 ·intro m l hm
  simp only [F.pub] at hm
  split at hm
  ·cases hm
  ·simp only [Option.map_eq_some_iff] at hm
   obtain ⟨x,hx,rfl⟩:=hm
   have hR:=hok.loc m x hx
   have hk:=h2 m x hx
   cases x with
   | box cs =>
    obtain ⟨b,c,arr,ty', hb,hc,hx2⟩:=hR
    refine ⟨b,c,arr,ty', hb,hc,zba.iff.2 ⟨by rw [List.length_map];exact hx2.length,fun j a' b' ha hb=>?_⟩⟩
    rw [List.getElem?_map] at ha
    cases hj:cs[j]? with
    | none=>rw [hj] at ha;cases ha
    | some y =>
     rw [hj] at ha
     injection ha with ha
     subst ha
     exact hcell y b' (fun k hk2=>hk k (by simp only [L.owns,List.mem_flatMap];exact ⟨y,List.mem_of_getElem? hj,hk2⟩)) ((zba.iff.1 hx2).2 j y b' hj hb)
   | row ty' es' rows'=>exact LR.mono hle rfl (fun _ _=>rfl) (fun _ _ _=>rfl) hR
   | bld ty' c' =>
    obtain ⟨b,k,v1,v2,hb,hc,g1,g0,g2⟩:=hR
    exact ⟨b,k,v1,v2,hb,hc,g1,g0,hcell c' v2 (fun k hk2=>hk k hk2) g2⟩
 ·intro m l b c hm hb
  simp only [F.pub] at hm
  split at hm
  ·cases hm
  ·rename_i hne
   simp only [Option.map_eq_some_iff] at hm
   obtain ⟨x,hx,rfl⟩:=hm
   obtain ⟨p1,p2,p3⟩:=hok.priv m x b c hx hb
   refine ⟨p1,?_,p3⟩
   cases hq:H' b with
   | none=>rfl
   | some o =>
    rcases hH' b o hq with h' | ⟨_,c', h'⟩
    ·rw [p2] at h';cases h'
    ·have:=hok.inj m n x _ b c c' hx hl hb h'
     subst this
     simp at hne
 ·intro m k l l' b c c' hm hk hb hb'
  simp only [F.pub] at hm hk
  split at hm
  ·cases hm
  ·split at hk
   ·cases hk
   ·simp only [Option.map_eq_some_iff] at hm hk
    obtain ⟨x,hx,_⟩:=hm
    obtain ⟨y,hy,_⟩:=hk
    exact hok.inj m k x y b c c' hx hy hb hb'
 ·intro b hb
  cases hq:H' b with
  | none =>
   rw [<- hok.low b hb]
   cases hr:H b with
   | none=>rfl
   | some o=>rw [hle b o hr] at hq;cases hq
  | some o =>
   rcases hH' b o hq with h' | ⟨_,c', h'⟩
   ·rw [<- hok.low b hb,h']
   ·rcases (hok.priv n _ b c' hl h').2.2 with ⟨m,hm,_⟩ | h3
    ·cases hm
    ·exact absurd hb (by simpa using h3)
abbrev Orc.g {P:Program} {d:Option Nat} {op:Op} {i:I} (h:∀ {ty pos af gd}, zbe P ⟨d,op,ty,pos,af,gd⟩ i):Orc P:=.gen d op i fun _ _ _ _=>h
abbrev Orc.j1 {P:Program} (j:Nat) (h:IntKind.i64.wrap ((j:Int)+1)=(j:Int)+1:=by exact i64_id (by omega) (by omega)):Orc P:=.add .i64 h
section
variable {P:Program}
theorem xD (d t:Nat) {y:Operand} {es i:Nat} {rows:List (List D)} {r:List D} {rs:List (Nat × V)} {xt el ty:TypeId} {pos af gd} (hs:SlT P xt el es) (hr:rows[i]?=some r) (hy:OV y (vi .i64 i) rs) :
    zbe P ⟨some d,.indexAddr xt (.tmp t) y,ty,pos,af,gd⟩ { rs:=(t,.t (.c (.d (.sl es rows)))) :: rs,ws:=[(d,some (.t (.c (.el r))))] }:=Op.idxD hs hr hy
theorem xO (d t n len i:Nat) {es:Nat} {y:Operand} {rs:List (Nat × V)} {xt el ty:TypeId} {pos af gd} (hs:SlT P xt el es) (hy:OV y (vi .i64 i) rs) (hi:i<len:=by first | omega | (simp at *;omega)) :
    zbe P ⟨some d,.indexAddr xt (.tmp t) y,ty,pos,af,gd⟩ { rs:=(t,.t (.c (.own n len))) :: rs,ws:=[(d,some (vp n (i*es)))] }:=Op.idxO hs hi hy
end
/-! another name -/
def A.ren (n m:Nat):A->A
  | .d x => .d x
  | .ptr k o => .ptr (if Nat.beq k n then m else k) o
def C.ren (n m:Nat):C->C
  | .own k l => .own (if Nat.beq k n then m else k) l
  | .ptr k o => .ptr (if Nat.beq k n then m else k) o
  | .sub k o l => .sub (if Nat.beq k n then m else k) o l
  | .fn f fs cs => .fn f (fs.map (A.ren n m)) (cs.map (A.ren n m))
  | c=>c
def T.ren (n m:Nat):T->T
  | .c x => .c (x.ren n m)
  | .agg cs => .agg (cs.map (C.ren n m))
def V.ren (n m:Nat):V->V
  | .t x => .t (x.ren n m)
  | .tup xs => .tup (xs.map (T.ren n m))
def L.ren (n m:Nat):L->L
  | .box cs => .box (cs.map (C.ren n m))
  | .row ty k r => .row ty k r
  | .bld ty c => .bld ty (c.ren n m)
def F.ren (f:F) (n m:Nat):F :=
  ⟨fun t=>(f.s t).map (V.ren n m),fun x=>if Nat.beq x m then (f.l n).map (L.ren n m) else if Nat.beq x n then none else (f.l x).map (L.ren n m)⟩
theorem zba.mapL {α β γ:Type} {R:α->β->Prop} {R':γ->β->Prop} (g:α->γ):∀ {xs:List α} {ys:List β}, zba R xs ys->(∀ a ∈ xs,∀ b,R a b->R' (g a) b)->zba R' (xs.map g) ys
 | [],[],_,_=>trivial
 | _ :: _,_ :: _,h,k=>⟨k _ (by simp) _ h.1,h.2.mapL g fun a ha b=>k a (by simp [ha]) b⟩
 | [],_ :: _,h,_=>h.elim
 | _ :: _,[],h,_=>h.elim
section
variable {H:Im} {B:Bl} {n m:Nat}
def swB (B:Bl) (n m:Nat):Bl:=fun x=>if x=m then B n else B x
theorem zhg (k:Nat) (hk:k≠m):swB B n m (if Nat.beq k n then m else k)=B k:=by
 by_cases e:k=n
 ·subst e;simp [swB]
 ·have:Nat.beq k n=false:=by
   cases h:Nat.beq k n with
   | false=>rfl
   | true=>exact absurd (Nat.eq_of_beq_eq_true h) e
  simp [this,swB,hk]
theorem AR.ren {x:A} {v:Value} (hm:m ∉ x.tags) (h:AR H B x v):AR H (swB B n m) (x.ren n m) v:=by
 cases x with
 | d x=>exact h
 | ptr k o=>obtain ⟨b,c,hb,hv⟩:=h;exact ⟨b,c,(zhg k (fun e=>hm (by simp [A.tags,e]))).trans hb,hv⟩
theorem CR.ren {x:C} {v:Value} (hm:m ∉ x.tags) (h:CR H B x v):CR H (swB B n m) (x.ren n m) v:=by
 cases x with
 | ptr k o=>obtain ⟨b,c,hb,hv⟩:=h;exact ⟨b,c,(zhg k (fun e=>hm (by simp [C.tags,e]))).trans hb,hv⟩
 | sub k o l=>exact ⟨h.1,fun hl=>let ⟨b,c,j,h1,h2⟩:=h.2 hl;⟨b,c,j,(zhg k (fun e=>hm (by simp [C.tags,e]))).trans h1,h2⟩⟩
 | own k l=>simp only [CR,C.ren] at h ⊢;rw [zhg k (fun e=>hm (by simp [C.tags,e]))];exact h
 | fn f fs cs =>
  obtain ⟨vs,ws,hv,h1,h2⟩:=h
  simp only [C.tags,List.mem_append,List.mem_flatMap,not_or,not_exists,not_and] at hm
  exact ⟨vs,ws,hv,h1.mapL _ fun a ha b=>AR.ren (hm.1 a ha),h2.mapL _ fun a ha b=>AR.ren (hm.2 a ha)⟩
 | d x=>exact h
 | el x=>exact h
 | any=>exact h
theorem TR.ren {x:T} {v:Value} (hm:m ∉ x.tags) (h:TR H B x v):TR H (swB B n m) (x.ren n m) v:=by
 cases x with
 | c x=>exact CR.ren hm h
 | agg cs =>
  obtain ⟨vs,hv,h1⟩:=h
  simp only [T.tags,List.mem_flatMap,not_exists,not_and] at hm
  exact ⟨vs,hv,h1.mapL _ fun a ha b=>CR.ren (hm a ha)⟩
theorem VR.ren {x:V} {v:Value} (hm:m ∉ x.tags) (h:VR H B x v):VR H (swB B n m) (x.ren n m) v:=by
 cases x with
 | t x=>exact TR.ren hm h
 | tup xs =>
  obtain ⟨vs,hv,h1⟩:=h
  simp only [V.tags,List.mem_flatMap,not_exists,not_and] at hm
  exact ⟨vs,hv,h1.mapL _ fun a ha b=>TR.ren (hm a ha)⟩
theorem LR.ren {x:L} {w:World} {k:Nat} (hk:k≠m) (hm:m ∉ x.tags) (h:LR H B w k x):LR H (swB B n m) w (if Nat.beq k n then m else k) (x.ren n m):=by
 cases x with
 | box cs =>
  obtain ⟨b,c,arr,ty,hb,hc,h1⟩:=h
  simp only [L.tags,List.mem_flatMap,not_exists,not_and] at hm
  exact ⟨b,c,arr,ty,(zhg k hk).trans hb,hc,h1.mapL _ fun a ha b=>CR.ren (hm a ha)⟩
 | row ty es rows=>simp only [LR,L.ren] at h ⊢;rw [zhg k hk];exact h
 | bld ty c =>
  obtain ⟨b,j,v1,v2,hb,hc,h1,h0,h2⟩:=h
  exact ⟨b,j,v1,v2,(zhg k hk).trans hb,hc,h1,h0,CR.ren hm h2⟩
end
theorem St.ren {e:E} {f:F} {a:Act} {w:World} (h:St e f a w) (n m:Nat) (hm:New e.K f m):St e (f.ren n m) a w:=by
 obtain ⟨H,B,hok⟩:=h
 have hmn:f.l m=none:=hm.2.1
 have cls:∀ x l,(f.ren n m).l x=some l->∃ y l0,f.l y=some l0/\l=l0.ren n m/\y≠m/\x=(if Nat.beq y n then m else y):=by
  intro x l hx
  simp only [F.ren] at hx
  split at hx
  ·rename_i e1
   have e1:=Nat.eq_of_beq_eq_true e1
   simp only [Option.map_eq_some_iff] at hx
   obtain ⟨l0,h1,rfl⟩:=hx
   exact ⟨n,l0,h1,rfl,(fun e=>by rw [e,hmn] at h1;cases h1),by simp [e1]⟩
  ·rename_i e1
   split at hx
   ·cases hx
   ·rename_i e2
    simp only [Option.map_eq_some_iff] at hx
    obtain ⟨l0,h1,rfl⟩:=hx
    exact ⟨x,l0,h1,rfl,(fun e=>by rw [e,hmn] at h1;cases h1),by simp [e2]⟩
 refine ⟨H,swB B n m,hok.df,hok.n,hok.ext,hok.sat,?_,?_,?_,?_,hok.low,hok.le,?_⟩
 ·intro t v hv
  simp only [F.ren,Option.map_eq_some_iff] at hv
  obtain ⟨x,hx,rfl⟩:=hv
  exact VR.ren (hm.2.2.1 t x hx) (hok.slot t x hx)
 ·intro x l hx
  obtain ⟨y,l0,h1,rfl,h2,rfl⟩:=cls x l hx
  exact LR.ren h2 (hm.2.2.2 y l0 h1) (hok.loc y l0 h1)
 ·intro x l b c hx hb
  obtain ⟨y,l0,h1,rfl,h2,rfl⟩:=cls x l hx
  rw [zhg y h2] at hb
  exact hok.priv y l0 b c h1 hb
 ·intro x z l l' b c c' hx hz hb hb'
  obtain ⟨y,l0,h1,rfl,h2,rfl⟩:=cls x l hx
  obtain ⟨y', l0', h1', rfl,h2', rfl⟩:=cls z l' hz
  rw [zhg y h2] at hb
  rw [zhg y' h2'] at hb'
  rw [hok.inj y y' l0 l0' b c c' h1 h1' hb hb']
 ·intro x hx
  have:x≠m:=fun e=>hm.1 (e ▸ hx)
  simp only [swB,this,if_false]
  exact hok.keep x hx
/-! one slot, one block put otherwise -/
def F.setS (f:F) (t:Nat) (v:V):F:=⟨fun x=>if Nat.beq x t then some v else f.s x,f.l⟩
def F.setL (f:F) (n:Nat) (l:L):F:=⟨f.s,fun x=>if Nat.beq x n then some l else f.l x⟩
theorem Ok.setS {e:E} {f:F} {H:Im} {B:Bl} {a:Act} {w:World} (h:Ok e f H B a w) (t:Nat) (v v':V) (hv:f.s t=some v) (hx:∀ u,VR H B v u->VR H B v' u):Ok e (f.setS t v') H B a w:=by
 refine ⟨h.df,h.n,h.ext,h.sat,?_,h.loc,h.priv,h.inj,h.low,h.le,h.keep⟩
 intro x y hy
 simp only [F.setS] at hy
 split at hy
 ·rename_i e1
  have e1:=Nat.eq_of_beq_eq_true e1
  subst e1
  injection hy with hy
  subst hy
  exact hx _ (h.slot x v hv)
 ·exact h.slot x y hy
theorem Ok.setL {e:E} {f:F} {H:Im} {B:Bl} {a:Act} {w:World} (h:Ok e f H B a w) (n:Nat) (l l':L) (hl:f.l n=some l) (hx:LR H B w n l->LR H B w n l'):Ok e (f.setL n l') H B a w:=by
 have cls:∀ m x,(f.setL n l').l m=some x->∃ y,f.l m=some y:=by
  intro m x hm
  simp only [F.setL] at hm
  split at hm
  ·rename_i e1
   have e1:=Nat.eq_of_beq_eq_true e1
   subst e1
   exact ⟨l,hl⟩
  ·exact ⟨x,hm⟩
 refine ⟨h.df,h.n,h.ext,h.sat,h.slot,?_,?_,?_,h.low,h.le,h.keep⟩
 ·intro m x hm
  simp only [F.setL] at hm
  split at hm
  ·rename_i e1
   have e1:=Nat.eq_of_beq_eq_true e1
   subst e1
   injection hm with hm
   subst hm
   exact hx (h.loc m l hl)
  ·exact h.loc m x hm
 ·intro m x b c hm hb
  obtain ⟨y,hy⟩:=cls m x hm
  exact h.priv m y b c hy hb
 ·intro m k x y b c c' hm hk hb hb'
  obtain ⟨x', hx'⟩:=cls m x hm
  obtain ⟨y', hy'⟩:=cls k y hk
  exact h.inj m k x' y' b c c' hx' hy' hb hb'
theorem Ok.nilName {e:E} {f:F} {H:Im} {B:Bl} {a:Act} {w:World} (h:Ok e f H B a w) (n es:Nat) (ty:TypeId) (hn:New e.K f n) :
  Ok e (f.setL n (.row ty es [])) H (fun x=>if x=n then none else B x) a w:=by
 have hB:∀ m,m≠n->(fun x=>if x=n then none else B x) m=B m:=fun m hm=>by simp [hm]
 refine ⟨h.df,h.n,h.ext,h.sat,?_,?_,?_,?_,h.low,h.le,?_⟩
 ·intro t v hv
  exact VR.mono (Le.refl _) (fun m hm=>hB m fun e=>hn.2.2.1 t v hv (e ▸ hm)) (h.slot t v hv)
 ·intro m x hm
  simp only [F.setL] at hm
  split at hm
  ·rename_i e1
   have e1:=Nat.eq_of_beq_eq_true e1
   subst e1
   injection hm with hm
   subst hm
   simp [LR]
  ·rename_i e1
   have hne:m≠n:=fun e=>by simp [e] at e1
   exact LR.mono (Le.refl _) (hB m hne) (fun k hk=>hB k fun e=>hn.2.2.2 m x hm (e ▸ hk)) (fun _ _ _=>rfl) (h.loc m x hm)
 ·intro m x b c hm hb
  by_cases e1:m=n
  ·simp [e1] at hb
  ·simp only [if_neg e1] at hb
   simp only [F.setL] at hm
   rw [if_neg (fun e=>e1 (Nat.eq_of_beq_eq_true e))] at hm
   exact h.priv m x b c hm hb
 ·intro m k x y b c c' hm hk hb hb'
  by_cases e1:m=n
  ·simp [e1] at hb
  ·by_cases e2:k=n
   ·simp [e2] at hb'
   ·simp only [if_neg e1] at hb
    simp only [if_neg e2] at hb'
    simp only [F.setL] at hm hk
    rw [if_neg (fun e=>e1 (Nat.eq_of_beq_eq_true e))] at hm
    rw [if_neg (fun e=>e2 (Nat.eq_of_beq_eq_true e))] at hk
    exact h.inj m k x y b c c' hm hk hb hb'
 ·intro m hm
  exact (hB m fun e=>hn.1 (e ▸ hm)).trans (h.keep m hm)
def zad:Value:=.slice none 0 0
def V.getC:V->Nat->Option C
  | .t (.c x),0=>some x
  | .t (.agg cs),j=>cs[j]?
  | _,_=>none
def V.setC:V->Nat->C->V
  | .t (.c _),_,c => .t (.c c)
  | .t (.agg cs),j,c => .t (.agg (cs.set j c))
  | v,_,_=>v
theorem VR.setC {H:Im} {B:Bl} {v:V} {j:Nat} {c c':C} (hg:v.getC j=some c) (hc:∀ u,CR H B c u->CR H B c' u) {u:Value} (h:VR H B v u):VR H B (v.setC j c') u:=by
 cases v with
 | tup xs=>cases hg
 | t x =>
  cases x with
  | c x =>
   cases j with
   | zero=>injection hg with hg;subst hg;exact hc u h
   | succ j=>cases hg
  | agg cs =>
   obtain ⟨vs,hv,h1⟩:=h
   refine ⟨vs,hv,zba.iff.2 ⟨by simpa using h1.length,fun i x y hx hy=>?_⟩⟩
   have hg:cs[j]?=some c:=by cases j <;> exact hg
   by_cases e:i=j
   ·subst e
    rw [List.getElem?_set_self (List.getElem?_eq_some_iff.1 hg).1] at hx
    injection hx with hx
    subst hx
    exact hc _ ((zba.iff.1 h1).2 i c y hg hy)
   ·rw [List.getElem?_set_ne (Ne.symm e)] at hx
    exact (zba.iff.1 h1).2 i x y hx hy
theorem LR.setC {H:Im} {B:Bl} {w:World} {n:Nat} {cs:List C} {j:Nat} {c c':C} (hg:cs[j]?=some c) (hc:∀ u,CR H B c u->CR H B c' u) (h:LR H B w n (.box cs)):LR H B w n (.box (cs.set j c')):=by
 obtain ⟨b,k,arr,ty,hb,hw,h1⟩:=h
 refine ⟨b,k,arr,ty,hb,hw,zba.iff.2 ⟨by simpa using h1.length,fun i x y hx hy=>?_⟩⟩
 by_cases e:i=j
 ·subst e
  rw [List.getElem?_set_self (List.getElem?_eq_some_iff.1 hg).1] at hx
  injection hx with hx
  subst hx
  exact hc _ ((zba.iff.1 h1).2 i c y hg hy)
 ·rw [List.getElem?_set_ne (Ne.symm e)] at hx
  exact (zba.iff.1 h1).2 i x y hx hy
theorem nil_data {H:Im} {B:Bl} (es:Nat) {ao:Option Addr} {c:Nat} (h1:ao=none->c=0) (h2:c<=maxLen) (u:Value) (h:CR H B (.d (.raw (.slice ao 0 c))) u):CR H B (.d (.sl es [])) u:=by
 have:=VR.rawI (H:=H) (B:=B) h
 subst this
 exact DR.nil es ao c h1 h2
section
variable {e:E} {f:F} {a:Act} {w:World}
theorem St.nilOS (h:St e f a w) (t j n es:Nat) (ty:TypeId) {v:V} (hv:f.s t=some v) (hg:v.getC j=some (.d (.raw zad))) (hn:New e.K f n):St e ((f.setL n (.row ty es [])).setS t (v.setC j (.own n 0))) a w:=by
 obtain ⟨H,B,hok⟩:=h
 refine ⟨H,_,(hok.nilName n es ty hn).setS t v _ hv fun u hu=>VR.setC hg (fun u hu=>?_) hu⟩
 have:=VR.rawI (H:=H) (B:=fun x=>if x=n then none else B x) hu
 subst this
 simp [CR,zad]
theorem St.nilOL (h:St e f a w) (m j n es:Nat) (ty:TypeId) {cs:List C} (hv:f.l m=some (.box cs)) (hg:cs[j]?=some (.d (.raw zad))) (hn:New e.K f n):St e ((f.setL n (.row ty es [])).setL m (.box (cs.set j (.own n 0)))) a w:=by
 obtain ⟨H,B,hok⟩:=h
 have hmn:m≠n:=fun e=>by have:=hn.2.1;rw [<- e,hv] at this;cases this
 refine ⟨H,_,(hok.nilName n es ty hn).setL m (.box cs) _ (by simp [F.setL,hmn,hv]) fun hu=>LR.setC hg (fun u hu=>?_) hu⟩
 have:=VR.rawI (H:=H) (B:=fun x=>if x=n then none else B x) hu
 subst this
 simp [CR,zad]
theorem St.nilDS (h:St e f a w) (t j es:Nat) {v:V} {ao:Option Addr} {c:Nat} (hv:f.s t=some v) (hg:v.getC j=some (.d (.raw (.slice ao 0 c)))) (h1:ao=none->c=0) (h2:c<=maxLen):St e (f.setS t (v.setC j (.d (.sl es [])))) a w:=by
 obtain ⟨H,B,hok⟩:=h
 exact ⟨H,B,hok.setS t v _ hv fun u hu=>VR.setC hg (nil_data es h1 h2) hu⟩
theorem St.nilDL (h:St e f a w) (m j es:Nat) {cs:List C} {ao:Option Addr} {c:Nat} (hv:f.l m=some (.box cs)) (hg:cs[j]?=some (.d (.raw (.slice ao 0 c)))) (h1:ao=none->c=0) (h2:c<=maxLen):St e (f.setL m (.box (cs.set j (.d (.sl es []))))) a w:=by
 obtain ⟨H,B,hok⟩:=h
 exact ⟨H,B,hok.setL m (.box cs) _ hv fun hu=>LR.setC hg (nil_data es h1 h2) hu⟩
theorem St.cutR (h:St e f a w) (n k es:Nat) (ty:TypeId) {rows:List (List D)} (hl:f.l n=some (.row ty es rows)):St e (f.setL n (.row ty es (rows.take k))) a w:=by
 obtain ⟨H,B,hok⟩:=h
 refine ⟨H,B,hok.setL n _ _ hl fun hu=>?_⟩
 simp only [LR] at hu ⊢
 split at hu
 ·rw [hu];simp
 ·obtain ⟨arr,h1,h2,h3,h4,h5,h6⟩:=hu
  have h5':∀ r ∈ rows.take k,r.length=es:=fun r hr=>h5 r (List.mem_of_mem_take hr)
  have h3':(rows.take k).length<=_:=Nat.le_trans (by rw [List.length_take];omega) h3
  refine ⟨arr,h1,h2,h3', h4,h5', (zcx h2 h3' h5').2 fun i r hr f x hx=>?_⟩
  rw [List.getElem?_take] at hr
  split at hr
  ·exact (zcx h2 h3 h5).1 h6 i r hr f x hx
  ·cases hr
end
theorem Ok.renew {e:E} {f g:F} {H:Im} {B:Bl} {a:Act} {w w':World} (h:Ok e f H B a w) {n n':Nat} {l l':L} (hn:f.l n=some l) (hnew:New e.K f n') (p:Option (Nat × Nat))
  (ho:w'.os=w.os) (ht:w'.tape=w.tape) (hu:w'.output=w.output) (hz:w.heap.size<=w'.heap.size) (hk:∀ k,k<w.heap.size->(∀ c,B n≠some (k,c))->w'.heap[k]?=w.heap[k]?)
  (hp:∀ b c,p=some (b,c)->b<w'.heap.size/\((∃ c', B n=some (b,c'))\/w.heap.size<=b)) (lr:LR H (fun x=>if x=n' then p else B x) w' n' l')
  (hs:∀ t,g.s t=f.s t) (hl:∀ m,g.l m=if m=n' then some l' else if m=n then none else f.l m):Ok e g H (fun x=>if x=n' then p else B x) a w':=by
 have hB:∀ m,m≠n'->(fun x=>if x=n' then p else B x) m=B m:=fun m hm=>by simp [hm]
 have cls:∀ m x,g.l m=some x->(m=n'/\x=l')\/(m≠n'/\m≠n/\f.l m=some x):=by
  intro m x hm
  rw [hl] at hm
  split at hm
  ·rename_i e1;injection hm with hm;exact .inl ⟨e1,hm.symm⟩
  ·rename_i e1
   split at hm
   ·cases hm
   ·rename_i e2;exact .inr ⟨e1,e2,hm⟩
 refine ⟨h.df,h.n,⟨ho.trans h.ext.os,ht.trans h.ext.tape,hu.trans h.ext.output,Nat.le_trans h.ext.size hz,?_⟩,?_,?_,?_,?_,?_,h.low,h.le,?_⟩
 ·intro b hb hm
  have:=h.ext.size
  rw [hk b (by omega) fun c hc=>?_]
  ·exact h.ext.block b hb hm
  ·rcases (h.priv n l b c hn hc).2.2 with h1 | h1
   ·exact hm h1
   ·omega
 ·intro b o hb
  have h1:=h.sat b o hb
  have:b<w.heap.size:=(Array.getElem?_eq_some_iff.1 h1).1
  rw [hk b this fun c hc=>?_]
  ·exact h1
  ·rw [(h.priv n l b c hn hc).2.1] at hb;cases hb
 ·intro t v hv
  rw [hs] at hv
  exact VR.mono (Le.refl _) (fun m hm=>hB m fun e=>hnew.2.2.1 t v hv (e ▸ hm)) (h.slot t v hv)
 ·intro m x hm
  rcases cls m x hm with ⟨rfl,rfl⟩ | ⟨h1,h2,h3⟩
  ·exact lr
  ·refine LR.mono (Le.refl _) (hB m h1) (fun k hk2=>hB k fun e=>hnew.2.2.2 m x h3 (e ▸ hk2)) (fun b c hb=>?_) (h.loc m x h3)
   refine hk b (h.priv m x b c h3 hb).1 fun c' hc'=>h2 (h.inj m n x l b c c' h3 hn hb hc')
 ·intro m x b c hm hb
  rcases cls m x hm with ⟨rfl,rfl⟩ | ⟨h1,h2,h3⟩
  ·simp only [if_true] at hb
   obtain ⟨h4,h5⟩:=hp b c hb
   refine ⟨h4,?_⟩
   rcases h5 with ⟨c', hc'⟩ | h5
   ·exact (h.priv n l b c' hn hc').2
   ·refine ⟨?_,.inr (Nat.le_trans h.ext.size h5)⟩
    cases hq:H b with
    | none=>rfl
    | some o=>have:=(Array.getElem?_eq_some_iff.1 (h.sat b o hq)).1;omega
  ·simp only [if_neg h1] at hb
   obtain ⟨h4,h5⟩:=h.priv m x b c h3 hb
   exact ⟨Nat.lt_of_lt_of_le h4 hz,h5⟩
 ·have cross:∀ m x b c c', m≠n->f.l m=some x->B m=some (b,c)->p=some (b,c')->False:=by
   intro m x b c c' h2 h3 hb hb'
   rcases (hp b c' hb').2 with ⟨c2,hc2⟩ | h5
   ·exact h2 (h.inj m n x l b c c2 h3 hn hb hc2)
   ·have:=(h.priv m x b c h3 hb).1;omega
  intro m k x y b c c' hm hk2 hb hb'
  rcases cls m x hm with ⟨rfl,rfl⟩ | ⟨h1,h2,h3⟩ <;> rcases cls k y hk2 with ⟨rfl,rfl⟩ | ⟨j1,j2,j3⟩
  ·rfl
  ·simp only [if_true] at hb
   simp only [if_neg j1] at hb'
   exact (cross k y b c' c j2 j3 hb' hb).elim
  ·simp only [if_true] at hb'
   simp only [if_neg h1] at hb
   exact (cross m x b c c' h2 h3 hb hb').elim
  ·simp only [if_neg h1] at hb
   simp only [if_neg j1] at hb'
   exact h.inj m k x y b c c' h3 j3 hb hb'
 ·intro m hm
  exact (hB m fun e=>hnew.1 (e ▸ hm)).trans (h.keep m hm)
/-- an element type, with its zero and its size in bytes -/
structure ElT (P:Program) (t el:TypeId) (es bs:Nat):Prop where
  hu:P.underlying t=some (.slice el)
  ex:∃ i z,P.info? el=some i/\i.zero=some z/\i.size=es/\i.bytes=bs/\z.cells.size=es
  pos:0<es
  bpos:0<bs
theorem ElT.mk' {P:Program} {t el:TypeId} {es bs:Nat} (hu:P.underlying t=some (.slice el)) (i:TypeInfo) (z:Value) (h1:P.info? el=some i) (h2:i.zero=some z) (h3:i.size=es) (h4:i.bytes=bs) (h5:z.cells.size=es) (h6:0<es) (h7:0<bs):ElT P t el es bs:=⟨hu,⟨i,z,h1,h2,h3,h4,h5⟩,h6,h7⟩
section
variable {P:Program}
theorem zjz {w:World} {el xt ty:TypeId} {i:TypeInfo} {z:Value} {es:Nat} (hu:P.underlying xt=some (.slice el)) (hi:P.info? el=some i) (hz:i.zero=some z) (hsz:i.size=es)
  {v:Value} {n:Nat} {xs:List Value} (hown:w.ownsRow 0 el es v n xs) {a:Addr} {m c:Nat} (hm:0<m) {news:List Value} (hl:news.length=m*es) (hnews:∀ j u,news[j]?=some u->w.cell? (a.add j)=some u) (h1:∀ u ∈ news,u.oneCell'=true)
  (h63:n+m<=maxLen) (hb:(n+m)*i.bytes<=140737488355328) {v':Value} {w':World} (hr:(Builtin.append_ #[xt,xt] ty #[v,.slice (some a) m c]).run P w = .ok v' w'):∀ g,v'.ownBlock=some g->v.ownBlock=some g\/g=w.heap.size:=by
 subst hsz
 have hsmall:n+m<=9223372036854775807:=by simp only [maxLen] at h63;omega
 intro g hg
 rcases hown.2 with ⟨rfl,rfl⟩ | ⟨g2,cap,cur,rfl,_,hg2,hnc,hcm,hcs,htake⟩
 ·have h2:=run_append_nil (P:=P) w xt ty el i z hu hi hz a m c news hl hnews hm (by omega) (by have:=hb;simp only [Nat.zero_add] at this;omega)
  rw [h2] at hr
  injection hr with hr _
  subst hr
  simp [Value.ownBlock] at hg
  exact .inr hg.symm
 ·by_cases hroom:n+m<=cap
  ·have hfit:n*i.size+news.length<=cur.size:=by rw [hl,hcs,<- Nat.add_mul];exact Nat.mul_le_mul_right _ hroom
   have h2:=run_append_room (P:=P) w xt ty el i hu hi g2 n cap cur hg2 a m c news hl hnews h1 hroom hfit
   rw [h2] at hr
   injection hr with hr _
   subst hr
   exact .inl hg
  ·have holds:∀ j u,xs[j]?=some u->w.cell? ((⟨g2,0,none⟩:Addr).add j)=some u:=hown.cells (g:=g2) rfl
   have h2:=run_append_grow (P:=P) w xt ty el i z hu hi hz ⟨g2,0,none⟩ n cap xs hown.1 holds a m c news hl hnews (by omega) (by omega) (growslice_fits (by omega) hb)
   rw [h2] at hr
   injection hr with hr _
   subst hr
   simp [Value.ownBlock] at hg
   exact .inr hg.symm
theorem zk0 {w:World} {el xt ty:TypeId} {i:TypeInfo} {z:Value} {es:Nat} (hu:P.underlying xt=some (.slice el)) (hi:P.info? el=some i) (hz:i.zero=some z) (hsz:i.size=es)
  (a0:Addr) {a:Addr} {m c:Nat} {news:List Value} (hl:news.length=m*es) (hnews:∀ j u,news[j]?=some u->w.cell? (a.add j)=some u) (hm:0<m) (h63:m<=maxLen) (hb:m*i.bytes<=140737488355328) :
  (Builtin.append_ #[xt,xt] ty #[.slice (some a0) 0 0,.slice (some a) m c]).run P w=(Builtin.append_ #[xt,xt] ty #[.slice none 0 0,.slice (some a) m c]).run P w:=by
 subst hsz
 have hsmall:m<=9223372036854775807:=by simp only [maxLen] at h63;omega
 rw [run_append_nil (P:=P) w xt ty el i z hu hi hz a m c news hl hnews hm (by omega) (by omega),run_append_grow (P:=P) w xt ty el i z hu hi hz a0 0 0 [] (by simp) (by simp) a m c news hl hnews (by omega) (by omega) (growslice_fits (by omega) (by simpa using hb))]
 simp
theorem zgc {o:Oper} {e:E} {g:F} {d:Nat} {v:Value} {a:Act} {w w':World} {Q:Exit->Act->World->Prop} (hd:o.dst=some d) (hrun:(execOp a.eval o).run P w = .ok (.value v) w') (h:St e g (a.put (some d) v) w') :
  Oper.wp P o a w (fun a' w'=>St e g a' w') Q:=by
 unfold Oper.wp
 rw [hrun,Oper.upon_value,hd]
 exact h
theorem DR.cellsAt {H:Im} {es:Nat} {rows:List (List D)} {w:World} (hsat:∀ b o,H b=some o->w.heap[b]?=some o) {b o:Nat} {arr:Array Value} {ty:TypeId} {fz:Nat × Nat} {vs:Nat->Nat->Value} (hb:H b=some (.cells arr ty fz)) (hes:∀ i (hi:i<rows.length),(rows[i]'hi).length=es)
  (hv:∀ i (_:i<rows.length) j,j<es->arr[o+i*es+j]?=some (vs i j)) (hr:∀ i (hi:i<rows.length) j (hj:j<rows[i].length),DR H rows[i][j] (vs i j)) :
  ∃ news:List Value,news.length=rows.length*es/\(∀ j u,news[j]?=some u->w.cell? ((⟨b,o,none⟩:Addr).add j)=some u)/\RowAt H news es rows/\(∀ u ∈ news,u.oneCell'=true):=by
 have hw:=hsat b _ hb
 have hget:∀ j,j<rows.length*es->0<es/\j / es<rows.length/\j % es<es/\j=j / es*es+j % es:=by
  intro j hj
  have he:0<es:=Nat.pos_of_ne_zero fun e=>by simp [e] at hj
  exact ⟨he,Nat.div_lt_of_lt_mul (by rw [Nat.mul_comm];exact hj),Nat.mod_lt _ he,by rw [Nat.mul_comm];exact (Nat.div_add_mod j es).symm⟩
 refine ⟨(List.range (rows.length*es)).map fun j=>vs (j / es) (j % es),by simp,?_,?_,?_⟩
 ·intro j u hu
  rw [List.getElem?_map] at hu
  by_cases hj:j<rows.length*es
  ·rw [List.getElem?_range hj] at hu
   injection hu with hu
   obtain ⟨h1,h2,h3,h4⟩:=hget j hj
   rw [Addr.add_mid]
   have:=hv (j / es) h2 (j % es) h3
   rw [Nat.add_assoc,<- h4] at this
   subst hu
   simp [World.cell?, hw,this]
  ·rw [List.getElem?_eq_none (by simpa using hj)] at hu;cases hu
 ·intro i r hri f x hx
  obtain ⟨hi,rfl⟩:=List.getElem?_eq_some_iff.1 hri
  obtain ⟨hf,rfl⟩:=List.getElem?_eq_some_iff.1 hx
  have hf':f<es:=by rw [<- hes i hi];exact hf
  have hlt:i*es+f<rows.length*es:=by
   have:(i+1)*es<=rows.length*es:=Nat.mul_le_mul_right _ hi
   rw [Nat.add_mul] at this;omega
  have e1:(i*es+f) / es=i:=by rw [Nat.mul_comm,Nat.mul_add_div (by omega)];simp [Nat.div_eq_of_lt hf']
  have e2:(i*es+f) % es=f:=by rw [Nat.mul_comm,Nat.mul_add_mod];exact Nat.mod_eq_of_lt hf'
  refine ⟨vs i f,?_,hr i hi f hf⟩
  rw [List.getElem?_map,List.getElem?_range hlt]
  simp [e1,e2]
 ·intro u hu
  simp only [List.mem_map,List.mem_range] at hu
  obtain ⟨j,hj,rfl⟩:=hu
  obtain ⟨h1,h2,h3,h4⟩:=hget j hj
  exact zif (DR.flat (hr (j / es) h2 (j % es) (by rw [hes _ h2];exact h3)))
theorem Op.appOD {d t u n n' len len' es bs:Nat} {rows rows2 rows':List (List D)} {xt el ty:TypeId} {pos af gd} (hT:ElT P xt el es bs) (hlen:len=rows.length) (hlen':len'=len+rows2.length) (hrow:rows++rows2=rows')
  (hes2:∀ r ∈ rows2,r.length=es) (hb:(len+rows2.length)*bs<=140737488355328) :
  zbe P ⟨some d,.call { callee:=.builtin .append,args:=#[.tmp t,.tmp u],argTypes:=#[xt,xt] }, ty,pos,af,gd⟩
   { rs:=[(t,vO n len),(u,vS es rows2)],rl:=[(n,.row el es rows)],ws:=[(d,some (vO n' len'))],wl:=[(n', some (.row el es rows')),(n,none)],nw:=[n'] }:=by
 rintro e f a w Q ⟨H,B,hok⟩ hr hnw hb0
 subst hlen hlen' hrow
 have hnew:=hnw n' (by simp)
 have hl:=hr.2 (n,.row el es rows) (by simp)
 have h1:CR H B (.own n rows.length) (a.eval (.tmp t)):=hok.slot t _ (hr.1 (t,vO n rows.length) (by simp))
 have h2:DR H (.sl es rows2) (a.eval (.tmp u)):=hok.slot u _ (hr.1 (u,vS es rows2) (by simp))
 obtain ⟨i,z,hi,hz,hsz,hby,hzs⟩:=hT.ex
 have hne:n≠n':=fun e=>by have:=hnew.2.1;rw [<- e,hl] at this;cases this
 have hlr:=hok.loc n _ hl
 have hml:rows.length+rows2.length<=maxLen:=by
  have:(rows.length+rows2.length)*1<=(rows.length+rows2.length)*bs:=Nat.mul_le_mul_left _ hT.bpos
  simp only [maxLen];omega
 -- the run, the new block
 have main:∃ v w' p,(Builtin.append_ #[xt,xt] ty #[a.eval (.tmp t),a.eval (.tmp u)]).run P w = .ok v w'/\CR H (fun x=>if x=n' then p else B x) (.own n' (rows.length+rows2.length)) v /\
   LR H (fun x=>if x=n' then p else B x) w' n' (.row el es (rows++rows2))/\w'.os=w.os/\w'.tape=w.tape/\w'.output=w.output/\w.heap.size<=w'.heap.size/\(∀ k,k<w.heap.size->(∀ c,B n≠some (k,c))->w'.heap[k]?=w.heap[k]?) /\
   (∀ b c,p=some (b,c)->b<w'.heap.size/\((∃ c', B n=some (b,c'))\/w.heap.size<=b)):=by
  generalize a.eval (.tmp t)=vt at h1
  generalize a.eval (.tmp u)=vu at h2
  -- nothing is added
  have empty:∀ ao c,rows2=[]->∃ v w' p,(Builtin.append_ #[xt,xt] ty #[vt,.slice ao 0 c]).run P w = .ok v w'/\CR H (fun x=>if x=n' then p else B x) (.own n' (rows.length+rows2.length)) v /\
    LR H (fun x=>if x=n' then p else B x) w' n' (.row el es (rows++rows2))/\w'.os=w.os/\w'.tape=w.tape/\w'.output=w.output/\w.heap.size<=w'.heap.size/\(∀ k,k<w.heap.size->(∀ c,B n≠some (k,c))->w'.heap[k]?=w.heap[k]?) /\
    (∀ b c,p=some (b,c)->b<w'.heap.size/\((∃ c', B n=some (b,c'))\/w.heap.size<=b)):=by
   rintro ao c rfl
   have hrun:∀ base m cap,m<=cap->(Builtin.append_ #[xt,xt] ty #[.slice base m cap,.slice ao 0 c]).run P w = .ok (.slice base m cap) w:=by
    intro base m cap hmc
    cases ao <;> cases base <;> simp [Builtin.append_,run_underlying hT.hu,sizeOf,typeInfo,hi,Builtin.lenOf,hmc,Builtin.firstCells,loadCells,loadCellsFrom,storeCells]
   refine ⟨vt,w,B n,?_,?_,?_,rfl,rfl,rfl,Nat.le_refl _,fun _ _ _=>rfl,fun b c hb=>⟨(hok.priv n _ b c hl hb).1,.inl ⟨c,hb⟩⟩⟩
   ·simp only [CR] at h1
    cases hB:B n with
    | none=>rw [hB] at h1;obtain ⟨_,ao0,h1⟩:=h1;rw [h1];exact hrun ao0 0 0 (Nat.le_refl _)
    | some q =>
     obtain ⟨b,cc⟩:=q
     rw [hB] at h1
     obtain ⟨arr,g1,g2,g3,g4,g5,g6⟩:=hok.row hl hB
     rw [h1];exact hrun _ _ _ g3
   ·simp only [CR,if_true,List.length_nil,Nat.add_zero] at h1 ⊢;exact h1
   ·simp only [LR,if_true,List.append_nil] at hlr ⊢;exact hlr
  cases h2 with
  | nil _ ao c _ _=>exact empty ao c rfl
  | sl _ _ b o c arr ty' fz vs hp hbH hl2 hc hes hv hx =>
   obtain ⟨news,n1,n2,n3,n4⟩:=DR.cellsAt hok.sat hbH hes hv hx
   obtain ⟨vt0,hvt0,hblk,hown⟩:∃ vt0,(Builtin.append_ #[xt,xt] ty #[vt,.slice (some ⟨b,o,none⟩) rows2.length c]).run P w=(Builtin.append_ #[xt,xt] ty #[vt0,.slice (some ⟨b,o,none⟩) rows2.length c]).run P w/\vt0.ownBlock=(B n).map (·.1)/\∃ xs,w.ownsRow 0 el es vt0 rows.length xs/\RowAt H xs es rows:=by
    simp only [CR] at h1
    cases hB:B n with
    | none =>
     simp only [LR,hB] at hlr
     rw [hB] at h1
     subst hlr
     obtain ⟨_,ao0,rfl⟩:=h1
     refine ⟨.slice none 0 0,?_,rfl,[],⟨by simp,.inl ⟨rfl,rfl⟩⟩,fun i r hr=>by simp at hr⟩
     cases ao0 with
     | none=>rfl
     | some a0=>exact zk0 hT.hu hi hz hsz a0 n1 n2 hp (by simpa using hml) (by rw [hby];simpa using hb)
    | some q =>
     obtain ⟨b2,cc⟩:=q
     rw [hB] at h1
     obtain ⟨arr2,g1,g2,g3,g4,g5,g6⟩:=hok.row hl hB
     have hle:rows.length*es<=cc*es:=Nat.mul_le_mul_right _ g3
     refine ⟨vt,rfl,by rw [h1];rfl,arr2.take (rows.length*es),⟨by rw [List.length_take];omega,.inr ⟨b2,cc,⟨arr2⟩,h1,Nat.zero_le _,g1,g3,g4,by simpa using g2,rfl⟩⟩,?_⟩
     intro i r hri f x hx2
     obtain ⟨u,k1,k2⟩:=g6 i r hri f x hx2
     refine ⟨u,?_,k2⟩
     have hi2:=(List.getElem?_eq_some_iff.1 hri).1
     have hf2:=(List.getElem?_eq_some_iff.1 hx2).1
     rw [g5 r (List.mem_of_getElem? hri)] at hf2
     have:(i+1)*es<=rows.length*es:=Nat.mul_le_mul_right _ hi2
     rw [Nat.add_mul] at this
     rw [List.getElem?_take,if_pos (by omega)];exact k1
   obtain ⟨xs,hown,hxs⟩:=hown
   obtain ⟨v', w', r1,r2,r3,r4⟩:=run_append_own (P:=P) w 0 xt ty el i z es bs hT.hu hi hz hsz hby hzs hT.pos vt0 rows.length xs hown ⟨b,o,none⟩ rows2.length c news n1 n2 n4 hml hb (Nat.zero_le _)
   have hall:∀ r ∈ rows++rows2,r.length=es:=by
    intro r hr2
    rcases List.mem_append.1 hr2 with h' | h'
    ·cases hB:B n with
     | none=>simp only [LR,hB] at hlr;rw [hlr] at h';cases h'
     | some q=>obtain ⟨_,_,_,_,_,g5,_⟩:=hok.row hl hB;exact g5 r h'
    ·exact hes2 r h'
   have hboth:RowAt H (xs++news) es (rows++rows2):=by
    intro i2 r hri f x hx2
    by_cases hlt:i2<rows.length
    ·rw [List.getElem?_append_left hlt] at hri
     obtain ⟨u,k1,k2⟩:=hxs i2 r hri f x hx2
     exact ⟨u,by rw [List.getElem?_append_left (List.getElem?_eq_some_iff.1 k1).1];exact k1,k2⟩
    ·rw [List.getElem?_append_right (by omega)] at hri
     obtain ⟨u,k1,k2⟩:=n3 _ r hri f x hx2
     refine ⟨u,?_,k2⟩
     have hq:rows.length*es<=i2*es:=Nat.mul_le_mul_right _ (by omega)
     rw [List.getElem?_append_right (by rw [hown.1];omega),hown.1,<- k1]
     congr 1
     rw [Nat.sub_mul];omega
   obtain ⟨q1,q2⟩:=r2
   have hkk:∀ k,k<w.heap.size->(∀ c,B n≠some (k,c))->w'.heap[k]?=w.heap[k]?:=by
    intro k hk hnk
    refine r3.block k hk ?_
    rw [hblk]
    intro e1
    cases hB:B n with
    | none=>rw [hB] at e1;cases e1
    | some q=>obtain ⟨b2,cc⟩:=q;rw [hB] at e1;simp at e1;exact hnk cc (by rw [hB,e1])
   rcases q2 with ⟨_,hn0⟩ | ⟨g,cap,cur,rfl,_,k2,k3,k4,k5,k6⟩
   ·omega
   ·refine ⟨_,w', some (g,cap),hvt0.trans r1,?_,?_,r3.os,r3.tape,r3.output,r3.size,hkk,?_⟩
    ·simp [CR]
    ·simp only [LR,if_true]
     refine ⟨cur.toList,k2,by simpa using k5,by simpa using k3,k4,hall,?_⟩
     refine (zcx (by simpa using k5) (by simpa using k3) hall).2 fun i2 r hri f x hx2=>?_
     obtain ⟨u,j1,j2⟩:=hboth i2 r hri f x hx2
     refine ⟨u,?_,j2⟩
     rw [<- k6,List.getElem?_take] at j1
     split at j1
     ·exact j1
     ·cases j1
    ·rintro b3 c3 e3
     injection e3 with e3
     injection e3 with e3 e4
     subst e3 e4
     refine ⟨(Array.getElem?_eq_some_iff.1 k2).1,?_⟩
     rcases zjz hT.hu hi hz hsz hown hp n1 n2 n4 hml (by rw [hby];exact hb) r1 g rfl with hh | hh
     ·rw [hblk] at hh
      cases hB:B n with
      | none=>rw [hB] at hh;cases hh
      | some q=>obtain ⟨b2,cc⟩:=q;rw [hB] at hh;simp at hh;exact .inl ⟨cc,by rw [hh]⟩
     ·exact .inr (by omega)
 obtain ⟨v,w', p,r1,r2,r3,r4,r5,r6,r7,r8,r9⟩:=main
 have hok':Ok e ⟨f.s,fun m=>if m=n' then some (.row el es (rows++rows2)) else if m=n then none else f.l m⟩ H (fun x=>if x=n' then p else B x) a w' :=
  hok.renew hl hnew p r4 r5 r6 r7 r8 r9 r3 (fun _=>rfl) (fun _=>rfl)
 refine zgc (d:=d) rfl ?_ ⟨H,_,hok'.put (x:=some (vO n' (rows.length+rows2.length))) (hb0.1 (d,some (vO n' (rows.length+rows2.length))) (by simp)) (zhm f d _ _ rfl) (fun m=>?_) (fun y hy=>by injection hy with hy;subst hy;exact r2)⟩
 ·generalize a.eval=ρ at r1 ⊢
  have e1:(Array.map ρ #[.tmp t,.tmp u])=#[ρ (.tmp t),ρ (.tmp u)]:=by simp
  simp only [execOp,resolve,e1,Sem.run_bind,Sem.run_pure,Result.andThen_ok,invoke,builtin,r1]
 ·simp only [F.app,List.lookup]
  by_cases e1:m=n'
  ·simp [e1]
  ·have g1:(m == n')=false:=by simpa using e1
   by_cases e2:m=n
   ·subst e2;simp [g1,e1]
   ·have g2:(m == n)=false:=by simpa using e2
    simp [g1,g2,e1,e2]
end
abbrev zF0:List C:=[.d (.raw (.int .i64 0)),.d (.raw zad),.d (.raw (.bool false)),.d (nsl []),.d (.raw (.bool false)),.d (.raw zad)]
abbrev zR0:List C:=[.d (.raw zad),.d (.raw (.bool false)),.d (nsl []),.d (.raw (.bool false))]
abbrev zT0:List C:=[.d (.raw zad),.d (.raw (.bool false)),.d (nsl [])]
theorem aD {P:Program} {α:Type} (d t u n n':Nat) (X Y:List α) (F:α->List D) {es bs:Nat} {xt el ty:TypeId} {pos af gd} (hT:ElT P xt el es bs) (hes2:∀ r ∈ Y.map F,r.length=es) (hb:(X.length+(Y.map F).length)*bs<=140737488355328:=by first | omega | (simp at *;done) | (simp at *;omega)) :
    zbe P ⟨some d,.call { callee:=.builtin .append,args:=#[.tmp t,.tmp u],argTypes:=#[xt,xt] }, ty,pos,af,gd⟩
      { rs:=[(t,.t (.c (.own n X.length))),(u,.t (.c (.d (.sl es (Y.map F)))))],rl:=[(n,.row el es (X.map F))],ws:=[(d,some (.t (.c (.own n' (X++Y).length))))],wl:=[(n', some (.row el es ((X++Y).map F))),(n,none)],nw:=[n'] } :=
  Op.appOD hT (List.length_map _).symm (by rw [List.length_append,List.length_map]) (List.map_append ..).symm hes2 hb
section
variable {w0:World} {H0:Im} {B0:Bl} {K:List Nat} {N:Nat} {a:Act} {w:World} {sl:List (Nat × V)} {lc:List (Nat × L)}
theorem ofS_mem {t:Nat} {v:V} (h:(F.of sl lc).s t=some v):(t,v) ∈ sl:=zbk h
theorem ofL_mem {n:Nat} {l:L} (h:(F.of sl lc).l n=some l):(n,l) ∈ lc:=zbk h
theorem zi0 (n es:Nat) (ty:TypeId) (rows:List (List D)) (sl':List (Nat × V)) (lc':List (Nat × L)) (h:St ⟨w0,H0,B0,[],N⟩ (F.of sl lc) a w) (hl:lc.lookup n=some (.row ty es rows))
  (h1:zbw rows.length (sl.flatMap (·.2.owns n))) (h2:zbw rows.length (lc.flatMap (·.2.owns n))) (h3:leS ((F.of sl lc).pub n es rows) sl'=sl'.map fun p=>some p.2:=by kernel_rfl) (h4:leN ((F.of sl lc).pub n es rows) lc'=lc'.map fun p=>some p.2:=by kernel_rfl) :
  St ⟨w0,H0,B0,[],N⟩ (F.of sl' lc') a w :=
 (h.pub n es ty rows hl (fun t v hv k hk=>zbw.mem h1 k (List.mem_flatMap.2 ⟨(t,v),ofS_mem hv,hk⟩)) (fun m l hm k hk=>zbw.mem h2 k (List.mem_flatMap.2 ⟨(m,l),ofL_mem hm,hk⟩))).weaken (zk9 h3 h4)
theorem ze3 (n m:Nat) (sl':List (Nat × V)) (lc':List (Nat × L)) (h:St ⟨w0,H0,B0,K,N⟩ (F.of sl lc) a w) (hn:newB K sl lc m=true:=by kernel_rfl)
  (h3:leS ((F.of sl lc).ren n m) sl'=sl'.map fun p=>some p.2:=by kernel_rfl) (h4:leN ((F.of sl lc).ren n m) lc'=lc'.map fun p=>some p.2:=by kernel_rfl):St ⟨w0,H0,B0,K,N⟩ (F.of sl' lc') a w :=
 (h.ren n m (zib hn)).weaken (zk9 h3 h4)
theorem zfk (t j n es:Nat) (ty:TypeId) (v:V) (sl':List (Nat × V)) (lc':List (Nat × L)) (h:St ⟨w0,H0,B0,K,N⟩ (F.of sl lc) a w) (hn:newB K sl lc n=true) (hv:sl.lookup t=some v) (hg:v.getC j=some (.d (.raw zad)))
  (h3:leS (((F.of sl lc).setL n (.row ty es [])).setS t (v.setC j (.own n 0))) sl'=sl'.map fun p=>some p.2:=by kernel_rfl) (h4:leN (((F.of sl lc).setL n (.row ty es [])).setS t (v.setC j (.own n 0))) lc'=lc'.map fun p=>some p.2:=by kernel_rfl):St ⟨w0,H0,B0,K,N⟩ (F.of sl' lc') a w :=
 (h.nilOS t j n es ty hv hg (zib hn)).weaken (zk9 h3 h4)
theorem zg6 (m j n es:Nat) (ty:TypeId) (cs:List C) (sl':List (Nat × V)) (lc':List (Nat × L)) (h:St ⟨w0,H0,B0,K,N⟩ (F.of sl lc) a w) (hn:newB K sl lc n=true) (hv:lc.lookup m=some (.box cs)) (hg:cs[j]?=some (.d (.raw zad)))
  (h3:leS (((F.of sl lc).setL n (.row ty es [])).setL m (.box (cs.set j (.own n 0)))) sl'=sl'.map fun p=>some p.2:=by kernel_rfl) (h4:leN (((F.of sl lc).setL n (.row ty es [])).setL m (.box (cs.set j (.own n 0)))) lc'=lc'.map fun p=>some p.2:=by kernel_rfl):St ⟨w0,H0,B0,K,N⟩ (F.of sl' lc') a w :=
 (h.nilOL m j n es ty hv hg (zib hn)).weaken (zk9 h3 h4)
theorem nilDSs (t j es:Nat) (v:V) (sl':List (Nat × V)) (lc':List (Nat × L)) (h:St ⟨w0,H0,B0,K,N⟩ (F.of sl lc) a w) (hv:sl.lookup t=some v) (hg:v.getC j=some (.d (.raw zad)))
  (h3:leS ((F.of sl lc).setS t (v.setC j (.d (.sl es [])))) sl'=sl'.map fun p=>some p.2:=by kernel_rfl) (h4:leN ((F.of sl lc).setS t (v.setC j (.d (.sl es [])))) lc'=lc'.map fun p=>some p.2:=by kernel_rfl):St ⟨w0,H0,B0,K,N⟩ (F.of sl' lc') a w :=
 (h.nilDS t j es (ao:=none) hv hg (fun _=>rfl) (Nat.zero_le _)).weaken (zk9 h3 h4)
theorem zbd (m j es:Nat) (cs:List C) (sl':List (Nat × V)) (lc':List (Nat × L)) (h:St ⟨w0,H0,B0,K,N⟩ (F.of sl lc) a w) (hv:lc.lookup m=some (.box cs)) (hg:cs[j]?=some (.d (.raw zad)))
  (h3:leS ((F.of sl lc).setL m (.box (cs.set j (.d (.sl es []))))) sl'=sl'.map fun p=>some p.2:=by kernel_rfl) (h4:leN ((F.of sl lc).setL m (.box (cs.set j (.d (.sl es []))))) lc'=lc'.map fun p=>some p.2:=by kernel_rfl):St ⟨w0,H0,B0,K,N⟩ (F.of sl' lc') a w :=
 (h.nilDL m j es (ao:=none) hv hg (fun _=>rfl) (Nat.zero_le _)).weaken (zk9 h3 h4)
end
section
variable {P:Program}
def A.c:A->C
  | .d x => .d x
  | .ptr n o => .ptr n o
theorem AR.c {H:Im} {B:Bl} {x:A} {v:Value} (h:AR H B x v):CR H B x.c v:=by cases x <;> exact h
def capV (cs:List A):List V:=cs.map fun x => .t (.c x.c)
theorem Op.callV {k:FuncId} {cap:List A} {ps qs:List (Nat × L)} {args:List V} {res:V} (hc:Fn P k ps (args++capV cap) res qs) (hk:za4 P k) {d t:Nat} {xs:List Operand} {rs:List (Nat × V)} {tys:Array TypeId} {ty pos af gd} (h:OVs xs args rs) :
  zbe P ⟨some d,.call { callee:=.value (.tmp t),args:=⟨xs⟩,argTypes:=tys }, ty,pos,af,gd⟩ (zhx ((t,.t (.c (.fn (.func k) [] cap))) :: rs) ps qs d res):=by
 rintro e f a w Q ⟨H,B,hok⟩ hr hnw hb
 obtain ⟨vs1,vs2,hfv,hf1,hf2⟩:CR H B (.fn (.func k) [] cap) (a.eval (.tmp t)):=hok.slot t _ (hr.1 (t,.t (.c (.fn (.func k) [] cap))) (by simp [zhx]))
 obtain rfl:vs1=[]:=by cases vs1 with
  | nil=>rfl
  | cons _ _=>exact hf1.elim
 have hex:(execOp a.eval ⟨some d,.call { callee:=.value (.tmp t),args:=⟨xs⟩,argTypes:=tys }, ty,pos,af,gd⟩).run P w = .ok (.enter k ⟨xs.map a.eval++vs2⟩) w:=by
  have h1:a.eval (.tmp t) = .func (.func k) #[] ⟨vs2⟩:=hfv
  have h2:(⟨xs⟩:Array Operand).map a.eval=⟨xs.map a.eval⟩:=by simp
  simp only [execOp,resolve,h1,h2,Deferred.ofValue,Sem.run_bind,Sem.run_pure,Result.andThen_ok,invoke]
  rw [run_callee hk]
  simp
 have hargs:=h.eval hok fun p hp=>hr.1 p (by simp [zhx,hp])
 have hcap:zba (VR H B) (capV cap) vs2:=zba.mapL _ hf2 fun a _ b hab=>AR.c hab
 have hps:∀ p ∈ ps,f.l p.1=some p.2:=hr.2
 have pre:Pre ps (args++capV cap) w H B (xs.map a.eval++vs2):=⟨hok.sat,fun p hp=>hok.loc _ _ (hps p hp),fun p hp b c hb2=>by
   obtain ⟨h1,h2,_⟩:=hok.priv _ _ b c (hps p hp) hb2
   exact ⟨h1,h2⟩,fun p hp q hq b c c' h1 h2=>hok.inj _ _ _ _ b c c' (hps p hp) (hps q hq) h1 h2,zba.append hargs hcap⟩
 unfold Oper.wp
 rw [hex,Oper.upon_enter]
 refine (hc w H B _ pre).mono ?_
 rintro en w' ⟨v,H', B', rfl,post⟩
 have hnew:∀ n,n ∈ qs.map (·.1)->n ∉ ps.map (·.1)->New e.K f n:=by
  intro n h1 h2
  refine hnw n ?_
  simp only [zhx,List.mem_filter]
  refine ⟨h1,?_⟩
  cases hx:hasN (ps.map (·.1)) n with
  | false=>rfl
  | true=>exact absurd (zfy.1 hx) h2
 have h1:Ok e ⟨f.s,(f.app (zhx ((t,.t (.c (.fn (.func k) [] cap))) :: rs) ps qs d res)).l⟩ H' B' a w':=hok.called (g:=⟨f.s,(f.app (zhx ((t,.t (.c (.fn (.func k) [] cap))) :: rs) ps qs d res)).l⟩) hps hnew post (fun _=>rfl) (fun n=>by
  simp only [F.app,zhx,lookup_wl]
  cases qs.lookup n with
  | some l=>rfl
  | none=>by_cases hm:n ∈ ps.map (·.1) <;> simp [hm])
 exact ⟨H', B', h1.put (x:=some res) (hb.1 (d,some res) (by simp [zhx])) (zhm f d (some res) _ rfl) (fun n=>rfl) (fun y hy=>by injection hy with hy;subst hy;exact post.res)⟩
/-! slices built -/
theorem fill_ok' {H:Im} {B:Bl} (place:Nat->Option (Nat × Nat)) (pl:List (Nat × Nat)) (hpl:∀ i q,pl[i]?=some q->place i=some q):∀ (parts:List (Nat × T)) (us:List (Nat × Value)) (cs:List C) (cells:List Value) (out:List C),zba (fun p u=>p.1=u.1/\TR H B p.2 u.2) parts us->zba (CR H B) cs cells->zje pl cs parts=some out ->
  ∃ l,Instr.fill place ⟨cells⟩ us=some ⟨l⟩/\zba (CR H B) out l
 | [],[],cs,cells,out,_,hc,hf=>by simp only [zje,Option.some.injEq] at hf;subst hf;exact ⟨cells,rfl,hc⟩
 | (i,x) :: r,(j,u) :: us,cs,cells,out,h,hc,hf=>by
  obtain ⟨⟨h1,h2⟩,h3⟩:=h
  simp only at h1 h2
  subst h1
  simp only [zje] at hf
  cases hp:pl[i]? with
  | none=>rw [hp] at hf;cases hf
  | some q =>
   obtain ⟨off,size⟩:=q
   rw [hp] at hf
   simp only at hf
   split at hf
   ·rename_i hcond
    obtain ⟨l,g1,g2⟩:=TR.cells h2
    obtain ⟨l', k1,k2⟩:=fill_ok' place pl hpl r us _ _ out h3 (hc.put off g2) hf
    refine ⟨l', ?_,k2⟩
    have e1:place i=some (off,size):=hpl i _ hp
    have hl:l.length=size:=by rw [<- g2.length];exact hcond.1
    have hcl:=hc.length
    simp only [Instr.fill,e1,g1]
    rw [if_neg (by simp [hl];omega)]
    have:=fold_put off l 0 cells
    rw [Nat.add_zero] at this
    rw [<- k1,<- this]
    congr 1
    rw [<- Array.foldl_toList,Array.toList_zipIdx]
   ·cases hf
 | [],_ :: _,_,_,_,h,_,_=>h.elim
 | _ :: _,[],_,_,_,h,_,_=>h.elim
def plS:Nat->Nat->Nat->List (Nat × Nat)
  | 0,_,_=>[]
  | len+1,i,es=>(i*es,es) :: plS len (i+1) es
theorem plS_get:∀ (len i es j:Nat) q,(plS len i es)[j]?=some q->q=((i+j)*es,es)/\j<len
 | 0,_,_,_,_,h=>by simp [plS] at h
 | len+1,i,es,0,q,h=>by simp [plS] at h;subst h;exact ⟨rfl,by omega⟩
 | len+1,i,es,j+1,q,h=>by
  obtain ⟨h1,h2⟩:=plS_get len (i+1) es j q (by simpa [plS] using h)
  exact ⟨by rw [h1,show i+1+j=i+(j+1) by omega],by omega⟩
/-- an element type whose zero is made of single cells -/
structure ElZ (P:Program) (t el:TypeId) (es:Nat):Prop where
  hu:P.underlying t=some (.slice el)
  ex:∃ i z,P.info? el=some i/\i.zero=some z/\i.size=es/\z.cells.size=es/\z.cells.toList.all flat=true
  pos:0<es
theorem ElZ.mk' {P:Program} {t el:TypeId} {es:Nat} (hu:P.underlying t=some (.slice el)) (i:TypeInfo) (z:Value) (h1:P.info? el=some i) (h2:i.zero=some z) (h3:i.size=es) (h5:z.cells.size=es) (h6:z.cells.toList.all flat=true) (h7:0<es):ElZ P t el es:=⟨hu,⟨i,z,h1,h2,h3,h5,h6⟩,h7⟩
theorem buildS_run {t el:TypeId} {es len:Nat} (hT:ElZ P t el es) (hlen:0<len) (hsm:len*es<=16777216) {parts:List (Nat × T)} {us:List (Nat × Value)} {H:Im} {B:Bl} {out:List C} (hp:zba (fun p u=>p.1=u.1/\TR H B p.2 u.2) parts us)
    (hf:zje (plS len 0 es) (List.replicate (len*es) .any) parts=some out) (w:World) :
    ∃ l:List Value,(Instr.buildSlice t len ⟨us⟩).run P w = .ok (.slice (some ⟨w.heap.size,0,none⟩) len len) (w.alloc (.cells ⟨l⟩ el))/\zba (CR H B) out l:=by
  obtain ⟨i,z,hi,hz,hsz,hzs,hfl⟩:=hT.ex
  have hcells:zba (CR H B) (List.replicate (len*es) .any) ((Array.range (len*es)).map (z.cells[· % z.cells.size]!)).toList:=by
    refine zba.iff.2 ⟨by simp,fun j x u hx hu=>?_⟩
    have hx':=List.mem_of_getElem? hx
    have:=List.eq_of_mem_replicate hx'
    subst this
    simp only [Array.toList_map,List.getElem?_map] at hu
    cases hr:(Array.range (len*es)).toList[j]? with
    | none=>rw [hr] at hu;cases hu
    | some k =>
      rw [hr] at hu
      injection hu with hu
      subst hu
      have hk:k % z.cells.size<z.cells.size:=Nat.mod_lt _ (by rw [hzs];exact hT.pos)
      show flat (z.cells[k % z.cells.size]!)=true
      rw [getElem!_pos z.cells _ hk]
      have:=List.all_eq_true.1 hfl (z.cells[k % z.cells.size]'hk) (by simp)
      exact this
  have hpl:∀ i q,(plS len 0 es)[i]?=some q->(fun i=>some (i*es,es)) i=some q:=by
    intro j q hq
    obtain ⟨h1,_⟩:=plS_get len 0 es j q hq
    rw [h1,Nat.zero_add]
  obtain ⟨l,h1,h2⟩:=fill_ok' (fun i=>some (i*es,es)) (plS len 0 es) hpl parts us _ _ out hp hcells hf
  refine ⟨l,?_,h2⟩
  have hne:¬ len*i.size=0:=by rw [hsz];have:=Nat.mul_pos hlen hT.pos;omega
  refine run_buildSlice (P:=P) w t el len ⟨us⟩ ⟨l⟩ i z hT.hu hi hz (by rw [hsz];omega) hne ?_
  subst hsz
  exact h1
theorem Ok.newData {e:E} {f:F} {H:Im} {B:Bl} {a:Act} {w:World} (h:Ok e f H B a w) (o:Obj):Ok e f (fun b=>if b=w.heap.size then some o else H b) B a (w.alloc o)/\Le H (fun b=>if b=w.heap.size then some o else H b):=by
 have hold:∀ b,b<w.heap.size->(w.alloc o).heap[b]?=w.heap[b]?:=fun b hb=>Below.heap_alloc w o b hb
 have hlt:∀ b x,H b=some x->b<w.heap.size:=fun b x hb=>(Array.getElem?_eq_some_iff.1 (h.sat b x hb)).1
 have hle:Le H (fun b=>if b=w.heap.size then some o else H b):=by
  intro b x hb
  have:=hlt b x hb
  have hne:b≠w.heap.size:=by omega
  simp [hne,hb]
 refine ⟨⟨h.df,h.n,⟨h.ext.os,h.ext.tape,h.ext.output,?_,?_⟩,?_,fun t v hv=>VR.mono hle (fun _ _=>rfl) (h.slot t v hv),?_,?_,h.inj,?_,h.le.trans hle,h.keep⟩,hle⟩
 ·have:=h.ext.size;simp;omega
 ·intro b hb hm;have:=h.ext.size;rw [hold b (by omega)];exact h.ext.block b hb hm
 ·intro b x hx
  by_cases e1:b=w.heap.size
  ·subst e1
   simp only [if_true] at hx
   rw [<- hx]
   exact heap_alloc_new w o
  ·simp only [if_neg e1] at hx
   rw [hold b (hlt b x hx)];exact h.sat b x hx
 ·intro n l hn
  exact LR.mono hle rfl (fun _ _=>rfl) (fun b c hb=>hold b (h.priv n l b c hn hb).1) (h.loc n l hn)
 ·intro n l b c hn hb
  obtain ⟨h1,h2,h3⟩:=h.priv n l b c hn hb
  exact ⟨by simp;omega,by simp only [if_neg (show b≠w.heap.size by omega)];exact h2,h3⟩
 ·intro b hb
  have:=h.ext.size
  simp only [if_neg (show b≠w.heap.size by omega)]
  exact h.low b hb
theorem rowAt_of {H:Im} {B:Bl} {es:Nat} {rows:List (List D)} {l:List Value} (hes:∀ r ∈ rows,r.length=es) (h:zba (CR H B) (rows.flatten.map C.d) l):RowAt H l es rows:=by
 intro i r hr f x hx
 have hf:f<es:=by rw [<- hes r (List.mem_of_getElem? hr)];exact (List.getElem?_eq_some_iff.1 hx).1
 have e1:(rows.flatten.map C.d)[i*es+f]?=some (.d x):=by
  rw [List.getElem?_map,flat_at hes i f hf,hr];simp [hx]
 have hlt:i*es+f<l.length:=by rw [<- h.length];exact (List.getElem?_eq_some_iff.1 e1).1
 exact ⟨_,List.getElem?_eq_getElem hlt,(zba.iff.1 h).2 _ _ _ e1 (List.getElem?_eq_getElem hlt)⟩
theorem Op.buildD {d len es:Nat} {rows:List (List D)} {xs:List (Nat × Operand)} {vs:List (Nat × T)} {rs:List (Nat × V)} {t el ty:TypeId} {pos af gd} (hT:ElZ P t el es) (h:OPs xs vs rs) (hf:zje (plS len 0 es) (List.replicate (len*es) .any) vs=some (rows.flatten.map C.d))
  (hlen:rows.length=len) (hes:∀ r ∈ rows,r.length=es) (hl0:0<len) (hsm:len*es<=16777216) :
  zbe P ⟨some d,.buildSlice t len ⟨xs⟩,ty,pos,af,gd⟩ { rs:=rs,ws:=[(d,some (.t (.c (.d (.sl es rows)))))] }:=by
 rintro e f a w Q ⟨H,B,hok⟩ hr hnw hb0
 have hp:=h.eval hok hr.1
 obtain ⟨l,h1,h2⟩:=buildS_run (P:=P) hT hl0 hsm hp hf w
 obtain ⟨hok', hle⟩:=hok.newData (.cells ⟨l⟩ el)
 have hfl:rows.flatten.length=len*es:=by rw [zig hes,hlen]
 have hrow:DR (fun b=>if b=w.heap.size then some (.cells ⟨l⟩ el (0,0)) else H b) (.sl es rows) (.slice (some ⟨w.heap.size,0,none⟩) len len):=by
  have:=row_data (H:=fun b=>if b=w.heap.size then some (.cells ⟨l⟩ el (0,0)) else H b) (es:=es) (b:=w.heap.size) (c:=len) (arr:=l) (ty:=el) (rows:=rows) (if_pos rfl) (by omega) (by
   have:len*1<=len*es:=Nat.mul_le_mul_left _ hT.pos
   simp only [maxLen];omega) hes (fun i r hr f x hx=>by
    obtain ⟨u,k1,k2⟩:=rowAt_of hes h2 i r hr f x hx
    exact ⟨u,k1,k2.mono hle⟩)
  rwa [hlen] at this
 refine zgc (d:=d) rfl ?_ ⟨_,B,hok'.put (x:=some (.t (.c (.d (.sl es rows))))) (hb0.1 (d,some (.t (.c (.d (.sl es rows))))) (by simp)) (zhm f d _ _ rfl) (app0_l f _ rfl) (fun y hy=>by injection hy with hy;subst hy;exact hrow)⟩
 have e1:((⟨xs⟩:Array (Nat × Operand)).map fun x=>(x.1,a.eval x.2))=⟨xs.map fun p=>(p.1,a.eval p.2)⟩:=by simp
 simp only [execOp,e1,Sem.run_bind,h1,Result.andThen_ok,Sem.run_pure]
theorem Op.buildO {d n len es:Nat} {rows:List (List D)} {xs:List (Nat × Operand)} {vs:List (Nat × T)} {rs:List (Nat × V)} {t el ty:TypeId} {pos af gd} (hT:ElZ P t el es) (h:OPs xs vs rs) (hf:zje (plS len 0 es) (List.replicate (len*es) .any) vs=some (rows.flatten.map C.d))
  (hlen:rows.length=len) (hes:∀ r ∈ rows,r.length=es) (hl0:0<len) (hsm:len*es<=16777216) :
  zbe P ⟨some d,.buildSlice t len ⟨xs⟩,ty,pos,af,gd⟩ { rs:=rs,ws:=[(d,some (.t (.c (.own n len))))],wl:=[(n,some (.row el es rows))],nw:=[n] }:=by
 refine zbe.news d n _ _ rfl rfl rfl (by simp) fun e f H B a w hok hr hn=>?_
 have hp:=h.eval hok hr.1
 obtain ⟨l,h1,h2⟩:=buildS_run (P:=P) hT hl0 hsm hp hf w
 have hfl:rows.flatten.length=len*es:=by rw [zig hes,hlen]
 have hll:l.length=len*es:=by rw [<- h2.length,List.length_map,hfl]
 refine ⟨.slice (some ⟨w.heap.size,0,none⟩) len len,len,.cells ⟨l⟩ el,?_,?_,?_⟩
 ·have e1:((⟨xs⟩:Array (Nat × Operand)).map fun x=>(x.1,a.eval x.2))=⟨xs.map fun p=>(p.1,a.eval p.2)⟩:=by simp
  simp only [execOp,e1,Sem.run_bind,h1,Result.andThen_ok,Sem.run_pure]
 ·simp only [LR,if_true]
  refine ⟨l,heap_alloc_new w _,hll,by omega,?_,hes,(zcx hll (by omega) hes).2 (rowAt_of hes h2)⟩
  have:len*1<=len*es:=Nat.mul_le_mul_left _ hT.pos
  simp only [maxLen];omega
 ·simp [VR,TR,CR]
theorem Op.buildE {d n es:Nat} {t el ty:TypeId} {pos af gd} (hT:ElZ P t el es) :
  zbe P ⟨some d,.buildSlice t 0 #[],ty,pos,af,gd⟩ { ws:=[(d,some (.t (.c (.own n 0))))],wl:=[(n,some (.row el es []))],nw:=[n] }:=by
 refine zbe.news d n _ _ rfl rfl rfl (by simp) fun e f H B a w hok hr hn=>?_
 obtain ⟨i,z,hi,hz,hsz,hzs,hfl⟩:=hT.ex
 refine ⟨.slice (some ⟨w.heap.size,0,none⟩) 0 0,0,.cells #[] el,?_,?_,?_⟩
 ·have:(Instr.buildSlice t 0 #[]).run P w = .ok (.slice (some ⟨w.heap.size,0,none⟩) 0 0) (w.alloc (.cells #[] el)):=by
   simp [Instr.buildSlice,run_underlying hT.hu,sizeOf,typeInfo,hi,Instr.fill,newRow]
   exact congrArg (fun x=>w.alloc (.cells x el)) (Array.ext' (by simp))
  simp [execOp,this]
 ·simp only [LR,if_true]
  exact ⟨[],heap_alloc_new w _,by simp,Nat.le_refl _,Nat.zero_le _,by simp,by simp [zba]⟩
 ·simp [VR,TR,CR]
theorem Op.buildED {d es:Nat} {t el ty:TypeId} {pos af gd} (hT:ElZ P t el es) :
  zbe P ⟨some d,.buildSlice t 0 #[],ty,pos,af,gd⟩ { ws:=[(d,some (.t (.c (.d (.sl es [])))))] }:=by
 rintro e f a w Q ⟨H,B,hok⟩ hr hnw hb0
 obtain ⟨i,z,hi,hz,hsz,hzs,hfl⟩:=hT.ex
 have hrun:(Instr.buildSlice t 0 #[]).run P w = .ok (.slice (some ⟨w.heap.size,0,none⟩) 0 0) (w.alloc (.cells #[] el)):=by
  simp [Instr.buildSlice,run_underlying hT.hu,sizeOf,typeInfo,hi,Instr.fill,newRow]
  exact congrArg (fun x=>w.alloc (.cells x el)) (Array.ext' (by simp))
 obtain ⟨hok', _⟩:=hok.newData (.cells #[] el)
 have hrow:DR (fun b=>if b=w.heap.size then some (.cells #[] el (0,0)) else H b) (.sl es []) (.slice (some ⟨w.heap.size,0,none⟩) 0 0):=DR.nil es _ 0 (fun h=>by cases h) (Nat.zero_le _)
 refine zgc (d:=d) rfl ?_ ⟨_,B,hok'.put (x:=some (.t (.c (.d (.sl es []))))) (hb0.1 (d,some (.t (.c (.d (.sl es []))))) (by simp)) (zhm f d _ _ rfl) (app0_l f _ rfl) (fun y hy=>by injection hy with hy;subst hy;exact hrow)⟩
 simp [execOp,hrun]
end
theorem bD {P:Program} (d:Nat) (rows:List (List D)) {es:Nat} {xs:List (Nat × Operand)} {vs:List (Nat × T)} (rs:List (Nat × V)) {t el ty:TypeId} {pos af gd} (hT:ElZ P t el es) (h:OPs xs vs rs) (hf:zje (plS 1 0 es) (List.replicate (1*es) .any) vs=some (rows.flatten.map C.d)) (hes:∀ r ∈ rows,r.length=es) (hlen:rows.length=1:=by exact rfl) (hsm:1*es<=16777216:=by decide) :
    zbe P ⟨some d,.buildSlice t 1 ⟨xs⟩,ty,pos,af,gd⟩ { rs:=rs,ws:=[(d,some (.t (.c (.d (.sl es rows)))))] }:=Op.buildD hT h hf hlen hes (by decide) hsm
end S
def sgn (z:Int):Int:=if z<0 then -1 else if 0<z then 1 else 0
def zfb (x y:Int):Int:=if x<y then -1 else if y<x then 1 else 0
theorem sgn_neg {z:Int} (h:z<0):sgn z=-1:=by unfold sgn;rw [if_pos h]
theorem sgn_pos {z:Int} (h:0<z):sgn z=1:=by unfold sgn;rw [if_neg (by omega),if_pos h]
theorem zf5 {z:Int} (h:z=0):sgn z=0:=by subst h;rfl
theorem sgn_range (z:Int):-1<=sgn z/\sgn z<=1:=by unfold sgn;split;omega;split <;> omega
theorem sgn_lt_zero {z:Int}:sgn z<0 ↔ z<0:=by unfold sgn;split;omega;split <;> omega
theorem zht {z:Int}:sgn z=0 ↔ z=0:=by unfold sgn;split;omega;split <;> omega
theorem cmpZ_sgn (x y:Int):sgn (x - y)=zfb x y:=by unfold sgn zfb;split <;> split <;> (try split) <;> (try split) <;> omega
theorem cmpZ_gt {x y:Int} (h:y<x):zfb x y=1:=by unfold zfb;rw [if_neg (by omega),if_pos h]
namespace S
def fam0tb:Tb:=[(4,⟨1,false,[],[.d (.raw (.bool false))],3⟩),(26,⟨1,false,[],[.d (nsl [])],1⟩),(28,⟨2,true,[(0,1,false),(1,1,false)],[.d (.raw (.bool false)),.d (nsl [])],0⟩),(2,⟨1,false,[],[.d (.raw (.int .i64 0))],13⟩),(148,⟨1,false,[],[.d (.raw (.int .u64 0))],17⟩),(118,⟨1,false,[],[.d (.raw (.int .u32 0))],16⟩),(24,⟨1,false,[],[.d (.raw zad)],1⟩),(30,⟨3,true,[(0,1,false),(1,2,true)],[.d (.raw zad),.d (.raw (.bool false)),.d (nsl [])],0⟩),(3,⟨1,false,[],[.d (.raw (.int .i64 0))],13⟩),(81,⟨3,true,[(0,1,false),(1,2,true)],[.d (.raw (.int .i64 0)),.d (.raw (.bool false)),.d (nsl [])],0⟩),(40,⟨1,false,[],[.d (.raw zad)],1⟩),(178,⟨1,false,[],[.d (.raw (.int .u64 0))],17⟩),(179,⟨1,false,[],[.d (.raw zad)],1⟩),(120,⟨1,false,[],[.d (.raw zad)],1⟩),(109,⟨1,false,[],[.d (.raw zad)],1⟩),(41,⟨1,false,[],[.d (.raw zad)],1⟩),(32,⟨4,true,[(0,3,true),(3,1,false)],[.d (.raw zad),.d (.raw (.bool false)),.d (nsl []),.d (.raw (.bool false))],0⟩),(33,⟨1,false,[],[.d (.raw zad)],1⟩),(35,⟨6,true,[(0,1,false),(1,4,true),(5,1,false)],[.d (.raw (.int .i64 0)),.d (.raw zad),.d (.raw (.bool false)),.d (nsl []),.d (.raw (.bool false)),.d (.raw zad)],0⟩),(140,⟨1,false,[],[.d (.raw zad)],1⟩),(106,⟨5,true,[(0,1,false),(1,2,true),(3,2,true)],[.d (.raw (.bool false)),.d (.raw (.bool false)),.d (nsl []),.d (.raw (.bool false)),.d (nsl [])],0⟩),(22,⟨1,false,[],[.d (.raw zad)],1⟩),(23,⟨1,false,[],[.d (.raw zad)],1⟩),(36,⟨1,false,[],[.d (.raw zad)],1⟩),(37,⟨1,false,[],[.d (.raw zad)],1⟩),(39,⟨10,true,[(0,1,false),(1,1,false),(2,6,true),(8,1,false),(9,1,false)],[.d (.raw zad),.d (.raw zad),.d (.raw (.int .i64 0)),.d (.raw zad),.d (.raw (.bool false)),.d (nsl []),.d (.raw (.bool false)),.d (.raw zad),.d (.raw zad),.d (.raw zad)],0⟩),(43,⟨2,true,[(0,1,false),(1,1,false)],[.d (.raw zad),.d (.raw zad)],0⟩),(9,⟨1,false,[],[.d (.raw (.string ByteArray.empty))],2⟩),(57,⟨1,false,[],[.d (.raw zad)],1⟩),(59,⟨3,true,[(0,1,false),(1,1,false),(2,1,false)],[.d (.raw (.string ByteArray.empty)),.d (.raw zad),.d (.raw zad)],0⟩),(70,⟨1,false,[],[.d (.raw zad)],1⟩),(72,⟨10,true,[(0,1,false),(1,1,false),(2,1,false),(3,6,true),(9,1,false)],[.d (.raw (.int .i64 0)),.d (.raw (.int .i64 0)),.d (.raw (.int .i64 0)),.d (.raw (.int .i64 0)),.d (.raw zad),.d (.raw (.bool false)),.d (nsl []),.d (.raw (.bool false)),.d (.raw zad),.d (.raw zad)],0⟩),(74,⟨5,true,[(0,1,false),(1,1,false),(2,3,true)],[.d (.raw (.int .i64 0)),.d (.raw (.bool false)),.d (.raw zad),.d (.raw (.bool false)),.d (nsl [])],0⟩),(83,⟨1,false,[],[.d (.raw zad)],1⟩)]
theorem zjw:TbOk Tryz.prog fam0tb:=⟨zck.bl Tryz.underlying4 (by kernel_rfl) ⟨(.bool false:Value),[.bool false],by kernel_rfl,rfl,(fun _ _=>⟨DR.raw _ rfl,trivial⟩)⟩,
 zck.slc Tryz.underlying26 (by kernel_rfl) ⟨(.slice none 0 0:Value),[.slice none 0 0],by kernel_rfl,rfl,(fun _ _=>⟨DR.nil _ _ _ (fun _=>rfl) (Nat.zero_le _),trivial⟩)⟩,
 zck.st Tryz.underlying28 (by kernel_rfl) ⟨⟨by decide,Fd.mk' _ _ Tryz.underlying28 rfl rfl (Sz.mk' (by kernel_rfl) Tryz.underlying4 _ rfl)⟩,⟨by decide,Fd.mk' _ _ Tryz.underlying28 rfl rfl (Sz.mk' (by kernel_rfl) Tryz.underlying26 _ rfl)⟩,trivial⟩ ⟨(Value.agg #[.bool false,.slice none 0 0]),[.bool false,.slice none 0 0],by kernel_rfl,rfl,(fun _ _=>⟨DR.raw _ rfl,DR.nil _ _ _ (fun _=>rfl) (Nat.zero_le _),trivial⟩)⟩ ⟨_,Tryz.underlying28,⟨⟨rfl,by kernel_rfl⟩,⟨rfl,by kernel_rfl⟩,trivial⟩⟩,
 zck.int Tryz.underlying2 rfl (by kernel_rfl) ⟨(.int .i64 0:Value),[.int .i64 0],by kernel_rfl,rfl,(fun _ _=>⟨DR.raw _ rfl,trivial⟩)⟩,
 zck.int Tryz.underlying148 rfl (by kernel_rfl) ⟨(.int .u64 0:Value),[.int .u64 0],by kernel_rfl,rfl,(fun _ _=>⟨DR.raw _ rfl,trivial⟩)⟩,
 zck.int Tryz.underlying118 rfl (by kernel_rfl) ⟨(.int .u32 0:Value),[.int .u32 0],by kernel_rfl,rfl,(fun _ _=>⟨DR.raw _ rfl,trivial⟩)⟩,
 zck.slc Tryz.underlying24 (by kernel_rfl) ⟨(.slice none 0 0:Value),[.slice none 0 0],by kernel_rfl,rfl,(fun _ _=>⟨DR.raw _ rfl,trivial⟩)⟩,
 zck.st Tryz.underlying30 (by kernel_rfl) ⟨⟨by decide,Fd.mk' _ _ Tryz.underlying30 rfl rfl (Sz.mk' (by kernel_rfl) Tryz.underlying24 _ rfl)⟩,⟨by decide,Fd.mk' _ _ Tryz.underlying30 rfl rfl (Sz.mk' (by kernel_rfl) Tryz.underlying28 _ rfl)⟩,trivial⟩ ⟨(Value.agg #[.slice none 0 0,.bool false,.slice none 0 0]),[.slice none 0 0,.bool false,.slice none 0 0],by kernel_rfl,rfl,(fun _ _=>⟨DR.raw _ rfl,DR.raw _ rfl,DR.nil _ _ _ (fun _=>rfl) (Nat.zero_le _),trivial⟩)⟩ ⟨_,Tryz.underlying30,⟨⟨rfl,by kernel_rfl⟩,⟨rfl,by kernel_rfl⟩,trivial⟩⟩,
 zck.int Tryz.underlying3 rfl (by kernel_rfl) ⟨(.int .i64 0:Value),[.int .i64 0],by kernel_rfl,rfl,(fun _ _=>⟨DR.raw _ rfl,trivial⟩)⟩,
 zck.st Tryz.underlying81 (by kernel_rfl) ⟨⟨by decide,Fd.mk' _ _ Tryz.underlying81 rfl rfl (Sz.mk' (by kernel_rfl) Tryz.underlying3 _ rfl)⟩,⟨by decide,Fd.mk' _ _ Tryz.underlying81 rfl rfl (Sz.mk' (by kernel_rfl) Tryz.underlying28 _ rfl)⟩,trivial⟩ ⟨(Value.agg #[.int .i64 0,.bool false,.slice none 0 0]),[.int .i64 0,.bool false,.slice none 0 0],by kernel_rfl,rfl,(fun _ _=>⟨DR.raw _ rfl,DR.raw _ rfl,DR.nil _ _ _ (fun _=>rfl) (Nat.zero_le _),trivial⟩)⟩ ⟨_,Tryz.underlying81,⟨⟨rfl,by kernel_rfl⟩,⟨rfl,by kernel_rfl⟩,trivial⟩⟩,
 zck.slc Tryz.underlying40 (by kernel_rfl) ⟨(.slice none 0 0:Value),[.slice none 0 0],by kernel_rfl,rfl,(fun _ _=>⟨DR.raw _ rfl,trivial⟩)⟩,
 zck.int Tryz.underlying178 rfl (by kernel_rfl) ⟨(.int .u64 0:Value),[.int .u64 0],by kernel_rfl,rfl,(fun _ _=>⟨DR.raw _ rfl,trivial⟩)⟩,
 zck.slc Tryz.underlying179 (by kernel_rfl) ⟨(.slice none 0 0:Value),[.slice none 0 0],by kernel_rfl,rfl,(fun _ _=>⟨DR.raw _ rfl,trivial⟩)⟩,
 zck.slc Tryz.underlying120 (by kernel_rfl) ⟨(.slice none 0 0:Value),[.slice none 0 0],by kernel_rfl,rfl,(fun _ _=>⟨DR.raw _ rfl,trivial⟩)⟩,
 zck.slc Tryz.underlying109 (by kernel_rfl) ⟨(.slice none 0 0:Value),[.slice none 0 0],by kernel_rfl,rfl,(fun _ _=>⟨DR.raw _ rfl,trivial⟩)⟩,
 zck.slc Tryz.underlying41 (by kernel_rfl) ⟨(.slice none 0 0:Value),[.slice none 0 0],by kernel_rfl,rfl,(fun _ _=>⟨DR.raw _ rfl,trivial⟩)⟩,
 zck.st Tryz.underlying32 (by kernel_rfl) ⟨⟨by decide,Fd.mk' _ _ Tryz.underlying32 rfl rfl (Sz.mk' (by kernel_rfl) Tryz.underlying30 _ rfl)⟩,⟨by decide,Fd.mk' _ _ Tryz.underlying32 rfl rfl (Sz.mk' (by kernel_rfl) Tryz.underlying4 _ rfl)⟩,trivial⟩ ⟨(Value.agg #[.slice none 0 0,.bool false,.slice none 0 0,.bool false]),[.slice none 0 0,.bool false,.slice none 0 0,.bool false],by kernel_rfl,rfl,(fun _ _=>⟨DR.raw _ rfl,DR.raw _ rfl,DR.nil _ _ _ (fun _=>rfl) (Nat.zero_le _),DR.raw _ rfl,trivial⟩)⟩ ⟨_,Tryz.underlying32,⟨⟨rfl,by kernel_rfl⟩,⟨rfl,by kernel_rfl⟩,trivial⟩⟩,
 zck.slc Tryz.underlying33 (by kernel_rfl) ⟨(.slice none 0 0:Value),[.slice none 0 0],by kernel_rfl,rfl,(fun _ _=>⟨DR.raw _ rfl,trivial⟩)⟩,
 zck.st Tryz.underlying35 (by kernel_rfl) ⟨⟨by decide,Fd.mk' _ _ Tryz.underlying35 rfl rfl (Sz.mk' (by kernel_rfl) Tryz.underlying3 _ rfl)⟩,⟨by decide,Fd.mk' _ _ Tryz.underlying35 rfl rfl (Sz.mk' (by kernel_rfl) Tryz.underlying32 _ rfl)⟩,⟨by decide,Fd.mk' _ _ Tryz.underlying35 rfl rfl (Sz.mk' (by kernel_rfl) Tryz.underlying33 _ rfl)⟩,trivial⟩ ⟨(Value.agg #[.int .i64 0,.slice none 0 0,.bool false,.slice none 0 0,.bool false,.slice none 0 0]),[.int .i64 0,.slice none 0 0,.bool false,.slice none 0 0,.bool false,.slice none 0 0],by kernel_rfl,rfl,(fun _ _=>⟨DR.raw _ rfl,DR.raw _ rfl,DR.raw _ rfl,DR.nil _ _ _ (fun _=>rfl) (Nat.zero_le _),DR.raw _ rfl,DR.raw _ rfl,trivial⟩)⟩ ⟨_,Tryz.underlying35,⟨⟨rfl,by kernel_rfl⟩,⟨rfl,by kernel_rfl⟩,⟨rfl,by kernel_rfl⟩,trivial⟩⟩,
 zck.slc Tryz.underlying140 (by kernel_rfl) ⟨(.slice none 0 0:Value),[.slice none 0 0],by kernel_rfl,rfl,(fun _ _=>⟨DR.raw _ rfl,trivial⟩)⟩,
 zck.st Tryz.underlying106 (by kernel_rfl) ⟨⟨by decide,Fd.mk' _ _ Tryz.underlying106 rfl rfl (Sz.mk' (by kernel_rfl) Tryz.underlying4 _ rfl)⟩,⟨by decide,Fd.mk' _ _ Tryz.underlying106 rfl rfl (Sz.mk' (by kernel_rfl) Tryz.underlying28 _ rfl)⟩,⟨by decide,Fd.mk' _ _ Tryz.underlying106 rfl rfl (Sz.mk' (by kernel_rfl) Tryz.underlying28 _ rfl)⟩,trivial⟩ ⟨(Value.agg #[.bool false,.bool false,.slice none 0 0,.bool false,.slice none 0 0]),[.bool false,.bool false,.slice none 0 0,.bool false,.slice none 0 0],by kernel_rfl,rfl,(fun _ _=>⟨DR.raw _ rfl,DR.raw _ rfl,DR.nil _ _ _ (fun _=>rfl) (Nat.zero_le _),DR.raw _ rfl,DR.nil _ _ _ (fun _=>rfl) (Nat.zero_le _),trivial⟩)⟩ ⟨_,Tryz.underlying106,⟨⟨rfl,by kernel_rfl⟩,⟨rfl,by kernel_rfl⟩,⟨rfl,by kernel_rfl⟩,trivial⟩⟩,
 zck.slc Tryz.underlying22 (by kernel_rfl) ⟨(.slice none 0 0:Value),[.slice none 0 0],by kernel_rfl,rfl,(fun _ _=>⟨DR.raw _ rfl,trivial⟩)⟩,
 zck.slc Tryz.underlying23 (by kernel_rfl) ⟨(.slice none 0 0:Value),[.slice none 0 0],by kernel_rfl,rfl,(fun _ _=>⟨DR.raw _ rfl,trivial⟩)⟩,
 zck.slc Tryz.underlying36 (by kernel_rfl) ⟨(.slice none 0 0:Value),[.slice none 0 0],by kernel_rfl,rfl,(fun _ _=>⟨DR.raw _ rfl,trivial⟩)⟩,
 zck.slc Tryz.underlying37 (by kernel_rfl) ⟨(.slice none 0 0:Value),[.slice none 0 0],by kernel_rfl,rfl,(fun _ _=>⟨DR.raw _ rfl,trivial⟩)⟩,
 zck.st Tryz.underlying39 (by kernel_rfl) ⟨⟨by decide,Fd.mk' _ _ Tryz.underlying39 rfl rfl (Sz.mk' (by kernel_rfl) Tryz.underlying22 _ rfl)⟩,⟨by decide,Fd.mk' _ _ Tryz.underlying39 rfl rfl (Sz.mk' (by kernel_rfl) Tryz.underlying23 _ rfl)⟩,⟨by decide,Fd.mk' _ _ Tryz.underlying39 rfl rfl (Sz.mk' (by kernel_rfl) Tryz.underlying35 _ rfl)⟩,⟨by decide,Fd.mk' _ _ Tryz.underlying39 rfl rfl (Sz.mk' (by kernel_rfl) Tryz.underlying36 _ rfl)⟩,⟨by decide,Fd.mk' _ _ Tryz.underlying39 rfl rfl (Sz.mk' (by kernel_rfl) Tryz.underlying37 _ rfl)⟩,trivial⟩ ⟨(Value.agg #[.slice none 0 0,.slice none 0 0,.int .i64 0,.slice none 0 0,.bool false,.slice none 0 0,.bool false,.slice none 0 0,.slice none 0 0,.slice none 0 0]),[.slice none 0 0,.slice none 0 0,.int .i64 0,.slice none 0 0,.bool false,.slice none 0 0,.bool false,.slice none 0 0,.slice none 0 0,.slice none 0 0],by kernel_rfl,rfl,(fun _ _=>⟨DR.raw _ rfl,DR.raw _ rfl,DR.raw _ rfl,DR.raw _ rfl,DR.raw _ rfl,DR.nil _ _ _ (fun _=>rfl) (Nat.zero_le _),DR.raw _ rfl,DR.raw _ rfl,DR.raw _ rfl,DR.raw _ rfl,trivial⟩)⟩ ⟨_,Tryz.underlying39,⟨⟨rfl,by kernel_rfl⟩,⟨rfl,by kernel_rfl⟩,⟨rfl,by kernel_rfl⟩,⟨rfl,by kernel_rfl⟩,⟨rfl,by kernel_rfl⟩,trivial⟩⟩,
 zck.st Tryz.underlying43 (by kernel_rfl) ⟨⟨by decide,Fd.mk' _ _ Tryz.underlying43 rfl rfl (Sz.mk' (by kernel_rfl) Tryz.underlying40 _ rfl)⟩,⟨by decide,Fd.mk' _ _ Tryz.underlying43 rfl rfl (Sz.mk' (by kernel_rfl) Tryz.underlying41 _ rfl)⟩,trivial⟩ ⟨(Value.agg #[.slice none 0 0,.slice none 0 0]),[.slice none 0 0,.slice none 0 0],by kernel_rfl,rfl,(fun _ _=>⟨DR.raw _ rfl,DR.raw _ rfl,trivial⟩)⟩ ⟨_,Tryz.underlying43,⟨⟨rfl,by kernel_rfl⟩,⟨rfl,by kernel_rfl⟩,trivial⟩⟩,
 zck.str Tryz.underlying9 (by kernel_rfl) ⟨(.string ByteArray.empty:Value),[.string ByteArray.empty],by kernel_rfl,rfl,(fun _ _=>⟨DR.raw _ rfl,trivial⟩)⟩,
 zck.slc Tryz.underlying57 (by kernel_rfl) ⟨(.slice none 0 0:Value),[.slice none 0 0],by kernel_rfl,rfl,(fun _ _=>⟨DR.raw _ rfl,trivial⟩)⟩,
 zck.st Tryz.underlying59 (by kernel_rfl) ⟨⟨by decide,Fd.mk' _ _ Tryz.underlying59 rfl rfl (Sz.mk' (by kernel_rfl) Tryz.underlying9 _ rfl)⟩,⟨by decide,Fd.mk' _ _ Tryz.underlying59 rfl rfl (Sz.mk' (by kernel_rfl) Tryz.underlying22 _ rfl)⟩,⟨by decide,Fd.mk' _ _ Tryz.underlying59 rfl rfl (Sz.mk' (by kernel_rfl) Tryz.underlying57 _ rfl)⟩,trivial⟩ ⟨(Value.agg #[.string ByteArray.empty,.slice none 0 0,.slice none 0 0]),[.string ByteArray.empty,.slice none 0 0,.slice none 0 0],by kernel_rfl,rfl,(fun _ _=>⟨DR.raw _ rfl,DR.raw _ rfl,DR.raw _ rfl,trivial⟩)⟩ ⟨_,Tryz.underlying59,⟨⟨rfl,by kernel_rfl⟩,⟨rfl,by kernel_rfl⟩,⟨rfl,by kernel_rfl⟩,trivial⟩⟩,
 zck.slc Tryz.underlying70 (by kernel_rfl) ⟨(.slice none 0 0:Value),[.slice none 0 0],by kernel_rfl,rfl,(fun _ _=>⟨DR.raw _ rfl,trivial⟩)⟩,
 zck.st Tryz.underlying72 (by kernel_rfl) ⟨⟨by decide,Fd.mk' _ _ Tryz.underlying72 rfl rfl (Sz.mk' (by kernel_rfl) Tryz.underlying3 _ rfl)⟩,⟨by decide,Fd.mk' _ _ Tryz.underlying72 rfl rfl (Sz.mk' (by kernel_rfl) Tryz.underlying3 _ rfl)⟩,⟨by decide,Fd.mk' _ _ Tryz.underlying72 rfl rfl (Sz.mk' (by kernel_rfl) Tryz.underlying3 _ rfl)⟩,⟨by decide,Fd.mk' _ _ Tryz.underlying72 rfl rfl (Sz.mk' (by kernel_rfl) Tryz.underlying35 _ rfl)⟩,⟨by decide,Fd.mk' _ _ Tryz.underlying72 rfl rfl (Sz.mk' (by kernel_rfl) Tryz.underlying70 _ rfl)⟩,trivial⟩ ⟨(Value.agg #[.int .i64 0,.int .i64 0,.int .i64 0,.int .i64 0,.slice none 0 0,.bool false,.slice none 0 0,.bool false,.slice none 0 0,.slice none 0 0]),[.int .i64 0,.int .i64 0,.int .i64 0,.int .i64 0,.slice none 0 0,.bool false,.slice none 0 0,.bool false,.slice none 0 0,.slice none 0 0],by kernel_rfl,rfl,(fun _ _=>⟨DR.raw _ rfl,DR.raw _ rfl,DR.raw _ rfl,DR.raw _ rfl,DR.raw _ rfl,DR.raw _ rfl,DR.nil _ _ _ (fun _=>rfl) (Nat.zero_le _),DR.raw _ rfl,DR.raw _ rfl,DR.raw _ rfl,trivial⟩)⟩ ⟨_,Tryz.underlying72,⟨⟨rfl,by kernel_rfl⟩,⟨rfl,by kernel_rfl⟩,⟨rfl,by kernel_rfl⟩,⟨rfl,by kernel_rfl⟩,⟨rfl,by kernel_rfl⟩,trivial⟩⟩,
 zck.st Tryz.underlying74 (by kernel_rfl) ⟨⟨by decide,Fd.mk' _ _ Tryz.underlying74 rfl rfl (Sz.mk' (by kernel_rfl) Tryz.underlying3 _ rfl)⟩,⟨by decide,Fd.mk' _ _ Tryz.underlying74 rfl rfl (Sz.mk' (by kernel_rfl) Tryz.underlying4 _ rfl)⟩,⟨by decide,Fd.mk' _ _ Tryz.underlying74 rfl rfl (Sz.mk' (by kernel_rfl) Tryz.underlying30 _ rfl)⟩,trivial⟩ ⟨(Value.agg #[.int .i64 0,.bool false,.slice none 0 0,.bool false,.slice none 0 0]),[.int .i64 0,.bool false,.slice none 0 0,.bool false,.slice none 0 0],by kernel_rfl,rfl,(fun _ _=>⟨DR.raw _ rfl,DR.raw _ rfl,DR.raw _ rfl,DR.raw _ rfl,DR.nil _ _ _ (fun _=>rfl) (Nat.zero_le _),trivial⟩)⟩ ⟨_,Tryz.underlying74,⟨⟨rfl,by kernel_rfl⟩,⟨rfl,by kernel_rfl⟩,⟨rfl,by kernel_rfl⟩,trivial⟩⟩,
 zck.slc Tryz.underlying83 (by kernel_rfl) ⟨(.slice none 0 0:Value),[.slice none 0 0],by kernel_rfl,rfl,(fun _ _=>⟨DR.raw _ rfl,trivial⟩)⟩,
 trivial⟩
theorem ia_0:za4 Tryz.prog 148:=za4.mk' (by kernel_rfl)
theorem zef:Sz Tryz.prog 28 2 true:=Sz.mk' (by kernel_rfl) Tryz.underlying28 _ rfl
theorem ia_2:za4 Tryz.prog 96:=za4.mk' (by kernel_rfl)
theorem ia_3:za4 Tryz.prog 132:=za4.mk' (by kernel_rfl)
theorem ia_4:za4 Tryz.prog 64:=za4.mk' (by kernel_rfl)
theorem ia_5:za4 Tryz.prog 136:=za4.mk' (by kernel_rfl)
theorem ia_6:za4 Tryz.prog 133:=za4.mk' (by kernel_rfl)
theorem ia_7:za4 Tryz.prog 134:=za4.mk' (by kernel_rfl)
theorem ia_8:za4 Tryz.prog 160:=za4.mk' (by kernel_rfl)
theorem nadd_lt {xs ys:List Nat} (hx:Lb xs) (hy:Lb ys):nV xs+nV ys<pw (xs.length+ys.length+1):=zgs hx hy (by omega) (by omega)
theorem nmul_lt {xs ys:List Nat} (hx:Lb xs) (hy:Lb ys):nV xs*nV ys<pw (xs.length+ys.length):=zcn (zbc hx) (zbc hy)
theorem iv_not (s:Bool) (zs:List Nat):iv (!s) zs=-iv s zs:=by cases s <;> simp [iv]
theorem iv_of {s:Bool} {zs us:List Nat} (h:nV zs=nV us):iv s zs=iv s us:=by unfold iv;rw [h]
theorem from_true {zs n1:List Nat} (e:n1=lbs (nV zs)):(⟨decide ((n1.length:Int)>0),n1⟩:ZI)=ZI.of (iv true zs):=by
 subst e
 refine ZI.of_eq ⟨zd0 _,fun h=>by simp [h]⟩ ?_
 by_cases h:(lbs (nV zs)).length=0
 ·have h1:=List.length_eq_zero_iff.1 h
  have h2:=zes (nV zs)
  rw [h1] at h2 ⊢
  rw [iv_nil];unfold iv;rw [<- h2];rfl
 ·have h1:((lbs (nV zs)).length:Int)>0:=by omega
  simp only [h1,decide_true]
  exact iv_of (zes _)
theorem from_false {zs n1:List Nat} (e:n1=lbs (nV zs)):(⟨false,n1⟩:ZI)=ZI.of (iv false zs):=by
 subst e
 exact ZI.of_eq ⟨zd0 _,fun _=>rfl⟩ (iv_of (zes _))
theorem from_some {s:Bool} {zs n1:List Nat} (e:n1=lbs (nV zs)) (h:n1.length≠0):(⟨s,n1⟩:ZI)=ZI.of (iv s zs):=by
 subst e
 exact ZI.of_eq ⟨zd0 _,fun h0=>absurd h0 h⟩ (iv_of (zes _))
theorem from_none {s:Bool} {zs n1:List Nat} (e:n1=lbs (nV zs)) (h:n1.length=0):(⟨false,[]⟩:ZI)=ZI.of (iv s zs):=by
 subst e
 have h1:=List.length_eq_zero_iff.1 h
 have h2:=zes (nV zs)
 rw [h1] at h2
 have:iv s zs=0:=by unfold iv;rw [<- h2];cases s <;> rfl
 rw [this];rfl
theorem zkb (s:Bool) (zs:List Nat) (hz:Lb zs) (lz:zs.length<=100000):Fn Tryz.prog 132 [] [vb s,vn zs] (vz (ZI.of (iv s zs))) []:=by
 refine Fn.body Tryz.func132 rfl 15 rfl fun w H B a h=>Jq 0 [] [(0,vb s),(1,vn zs),(4,vp 0 0)] [(0,.box [.d (.raw (.bool false)),.d (nsl [])])] h fun a w h=>?_
 obtain ⟨n1,en1,vn1,on1,ln1⟩:=mkN (v:=nV zs) (m:=zs.length) (zbc hz);refine Je 1 [(1,.call (Fn.cast (SnTrim zs hz (by omega)) (congrArg vn en1.symm)) ia_0)] [] [(1,vn n1)] h fun a w h=>?_
 rcases Bool.eq_false_or_eq_true s with hc1 | hc2
 ·rw [hc1] at h;refine Jq 1 [(3,.len (zec n1))] [(4,vp 0 0)] [(0,.box [.d (.raw (.bool (decide ((n1.length:Int)>0)))),.d (nsl n1)])] h fun a w h=>qV (rA 0 [.d (.raw (.bool (decide ((n1.length:Int)>0)))),.d (nsl n1)] h zef rfl ?_);rw [hc1,<- from_true en1];try rfl
 rw [hc2] at h;refine Jq 1 [] [(4,vp 0 0)] [(0,.box [.d (.raw (.bool false)),.d (nsl n1)])] h fun a w h=>qV (rA 0 [.d (.raw (.bool false)),.d (nsl n1)] h zef rfl ?_);rw [hc2,<- from_false en1];try rfl
theorem zir (s:Bool) (zs:List Nat) (hz:Lb zs) (lz:zs.length<=100000):Fn Tryz.prog 64 [] [vb s,vn zs] (vz (ZI.of (iv s zs))) []:=by
 refine Fn.body Tryz.func64 rfl 15 rfl fun w H B a h=>Jq 0 [] [(0,vb s),(1,vn zs),(4,vp 0 0)] [(0,.box [cB false,.d (nsl [])])] h fun a w h=>?_
 obtain ⟨n1,en1,vn1,on1,ln1⟩:=mkN (v:=nV zs) (m:=zs.length) (zbc hz);refine Je 1 [(1,.call (Fn.cast (SRnTrim zs hz (by omega)) (congrArg vn en1.symm)) ia_2)] [1] [(5,vn n1)] h fun a w h=>qW (Je 1 [(1,.len (zec n1))] [] [(10,vb ((n1.length:Int) == 0))] h fun a w h=>cS ((n1.length:Int) == 0) h (fun hc1=>?_) (fun hc2=>?_))
 ·have hc1':=hc1;(try simp at hc1');refine Je 1 [] [10] [] h fun a w h=>qV (za6 (rA 0 [cB false,.d (nsl [])] h zef rfl ?_));rw [<- from_none en1 (by simpa using hc1)];try rfl
 have hc2':=hc2;(try simp at hc2');refine qU (za1 (Jq 1 [] [(4,vp 0 0)] [(0,.box [cB s,.d (nsl n1)])] h fun a w h=>qV (rA 0 [cB s,.d (nsl n1)] h zef rfl ?_)));rw [<- from_some en1 (by simpa using hc2)];try rfl
theorem SClean (x:ZI) (hx:Lb x.abs) (lx:x.abs.length<=100000):Fn Tryz.prog 136 [] [vz x] (vz (ZI.of (x.val))) []:=by
 refine Fn.body Tryz.func136 rfl 8 rfl fun w H B a h=>Jq 0 [] [(1,vp 0 0),(2,vp 1 0)] [(0,.box (zi x)),(1,.box [cB false,.d (nsl [])])] h fun a w h=>?_
 obtain ⟨r1,er1,vr1,or1,lr1⟩:=mkZ (v:=iv x.neg x.abs) (m:=x.abs.length) (zcz hx);refine Jd 2 [(4,.call (Fn.cast (zkb x.neg x.abs hx (by omega)) (congrArg vz er1.symm)) ia_3)] [1] [] [(1,.box (zi r1))] h fun a w h=>qV (rA 1 (zi r1) h zef rfl ?_);rw [er1];try rfl
theorem zjo (x:ZI) (hx:Lb x.abs) (lx:x.abs.length<=100000):Fn Tryz.prog 60 [] [vz x] (vz (ZI.of (x.val))) []:=by
 refine Fn.body Tryz.func60 rfl 8 rfl fun w H B a h=>Jq 0 [] [(1,vp 0 0),(2,vp 1 0)] [(0,.box (zi x)),(1,.box [cB false,.d (nsl [])])] h fun a w h=>?_
 obtain ⟨r1,er1,vr1,or1,lr1⟩:=mkZ (v:=iv x.neg x.abs) (m:=x.abs.length) (zcz hx);refine Jd 2 [(4,.call (Fn.cast (zir x.neg x.abs hx (by omega)) (congrArg vz er1.symm)) ia_4)] [1] [] [(1,.box (zi r1))] h fun a w h=>qV (rA 1 (zi r1) h zef rfl ?_);rw [er1];try rfl
theorem SNeg (x:ZI) (hx:Lb x.abs) (lx:x.abs.length<=100000):Fn Tryz.prog 170 [] [vz x] (vz (ZI.of (-x.val))) []:=by
 refine Fn.body Tryz.func170 rfl 9 rfl fun w H B a h=>Jq 0 [] [(1,vp 0 0),(2,vp 1 0)] [(0,.box (zi x)),(1,.box [cB false,.d (nsl [])])] h fun a w h=>?_
 obtain ⟨r1,er1,vr1,or1,lr1⟩:=mkZ (v:=iv (!x.neg) x.abs) (m:=x.abs.length) (zcz hx);refine Jd 2 [(5,.call (Fn.cast (zkb (!x.neg) x.abs hx (by omega)) (congrArg vz er1.symm)) ia_3)] [1] [] [(1,.box (zi r1))] h fun a w h=>qV (rA 1 (zi r1) h zef rfl ?_);rw [er1,iv_not];try rfl
theorem SRNeg (x:ZI) (hx:Lb x.abs) (lx:x.abs.length<=100000):Fn Tryz.prog 119 [] [vz x] (vz (ZI.of (-x.val))) []:=by
 refine Fn.body Tryz.func119 rfl 9 rfl fun w H B a h=>Jq 0 [] [(1,vp 0 0),(2,vp 1 0)] [(0,.box (zi x)),(1,.box [cB false,.d (nsl [])])] h fun a w h=>?_
 obtain ⟨r1,er1,vr1,or1,lr1⟩:=mkZ (v:=iv (!x.neg) x.abs) (m:=x.abs.length) (zcz hx);refine Jd 2 [(5,.call (Fn.cast (zir (!x.neg) x.abs hx (by omega)) (congrArg vz er1.symm)) ia_4)] [1] [] [(1,.box (zi r1))] h fun a w h=>qV (rA 1 (zi r1) h zef rfl ?_);rw [er1,iv_not];try rfl
theorem sign_neg {x r:ZI} (e:r=ZI.of x.val) (h:r.neg=true):(-1:Int)=sgn x.val:=by
 rw [e] at h;exact (sgn_neg (of_decide_eq_true h)).symm
theorem sign_pos {x r:ZI} (e:r=ZI.of x.val) (h:r.neg=false) (hl:(r.abs.length:Int)>0):(1:Int)=sgn x.val:=by
 rw [e] at h hl
 have h1:¬ x.val<0:=of_decide_eq_false h
 have h2:x.val≠0:=fun h0=>by have:=ZI.abs_nil.2 h0;omega
 exact (sgn_pos (by omega)).symm
theorem sign_zero {x r:ZI} (e:r=ZI.of x.val) (hl:¬ (r.abs.length:Int)>0):(0:Int)=sgn x.val:=by
 rw [e] at hl
 exact (zf5 (ZI.abs_nil.1 (by omega))).symm
theorem SSign (x:ZI) (hx:Lb x.abs) (lx:x.abs.length<=100000):Fn Tryz.prog 111 [] [vz x] (vI (sgn x.val)) []:=by
 refine Fn.body Tryz.func111 rfl 13 rfl fun w H B a h=>Jq 0 [] [(1,vp 0 0),(2,vI 0)] [(0,.box (zi x))] h fun a w h=>?_
 obtain ⟨r1,er1,vr1,or1,lr1⟩:=mkZ (v:=x.val) (m:=x.abs.length) (zcf hx);refine Jd 1 [(1,.call (Fn.cast (SClean x hx (by omega)) (congrArg vz er1.symm)) ia_5)] [] [] [(0,.box (zi r1))] h fun a w h=>qW (qZ (Je 1 [] [] [(5,vb r1.neg)] h fun a w h=>cS r1.neg h (fun hc1=>?_) (fun hc2=>?_)))
 ·refine Jq 1 [] [(2,vI (-1))] [] h fun a w h=>qV (zac (za6 (rT (.c (cI (-1))) h rfl ?_)));rw [<- sign_neg er1 hc1];try rfl
 refine Jd 1 [(2,.len (zec r1.abs))] [1,5] [(8,vb (decide ((r1.abs.length:Int)>0)))] [] h fun a w h=>zam ((r1.abs.length:Int)>0) h (fun hc3 hc3'=>?_) (fun hc4 hc4'=>?_)
 ·refine Jq 1 [] [(2,vI 1)] [] h fun a w h=>qV (zac (za6 (rT (.c (cI 1)) h rfl ?_)));rw [<- sign_pos er1 hc2 hc3'];try rfl
 refine qU (za8 (za1 (Jd 1 [] [8] [] [] h fun a w h=>qV (rT (.c (cI 0)) h rfl ?_))));rw [<- sign_zero er1 hc4'];try rfl
theorem rsign {x:ZI} {n1:List Nat} (e:n1=lbs (nV x.abs)):(n1.length=0->(0:Int)=sgn x.val)/\(n1.length≠0->x.neg=true->(-1:Int)=sgn x.val)/\(n1.length≠0->x.neg=false->(1:Int)=sgn x.val):=by
 have hv:=zes (nV x.abs)
 have hz:n1.length=0 ↔ nV x.abs=0:=by
  subst e
  constructor
  ·intro h;rw [List.length_eq_zero_iff.1 h] at hv;exact hv.symm
  ·intro h;rw [h];rfl
 unfold ZI.val
 refine ⟨fun h=>?_,fun h k=>?_,fun h k=>?_⟩
 ·rw [zf5 (by unfold iv;rw [hz.1 h];cases x.neg <;> rfl)]
 ·rw [sgn_neg (by unfold iv;rw [k];have:=mt hz.2 h;simp;omega)]
 ·rw [sgn_pos (by unfold iv;rw [k];have:=mt hz.2 h;simp;omega)]
theorem zdj (x:ZI) (hx:Lb x.abs) (lx:x.abs.length<=100000):Fn Tryz.prog 67 [] [vz x] (vI (sgn x.val)) []:=by
 refine Fn.body Tryz.func67 rfl 10 rfl fun w H B a h=>Jq 0 [] [(1,vp 0 0),(2,vI 0)] [(0,.box (zi x))] h fun a w h=>qW ?_
 obtain ⟨n1,en1,vn1,on1,ln1⟩:=mkN (v:=nV x.abs) (m:=x.abs.length) (zbc hx);refine Je 1 [(2,.call (Fn.cast (SRnTrim x.abs hx (by omega)) (congrArg vn en1.symm)) ia_2),(3,.len (zec n1))] [] [(7,vb ((n1.length:Int) == 0))] h fun a w h=>cS ((n1.length:Int) == 0) h (fun hc1=>?_) (fun hc2=>?_)
 ·have hc1':=hc1;(try simp at hc1');refine Je 1 [] [7] [] h fun a w h=>qV (za6 (rT (.c (cI 0)) h rfl ?_));rw [<- (rsign en1).1 (by simpa using hc1)];try rfl
 have hc2':=hc2;(try simp at hc2');refine qU (za1 (qW (Jd 1 [] [1,7] [(9,vb x.neg)] [] h fun a w h=>cS x.neg h (fun hc3=>?_) (fun hc4=>?_))))
 ·refine Jq 1 [] [(2,vI (-1))] [] h fun a w h=>qV (za6 (rT (.c (cI (-1))) h rfl ?_));rw [<- (rsign en1).2.1 (by simpa using hc2) hc3];try rfl
 refine qU (za1 (Jq 1 [] [(2,vI 1)] [] h fun a w h=>qV (rT (.c (cI 1)) h rfl ?_)));rw [<- (rsign en1).2.2 (by simpa using hc2) hc4];try rfl
theorem iv_same {s:Bool} {xs ys n:List Nat} (h:nV n=nV xs+nV ys):iv s n=iv s xs+iv s ys:=by unfold iv;rw [h];cases s <;> simp <;> omega
theorem iv_ge {s t:Bool} {xs ys n:List Nat} (hne:s≠t) (hle:nV ys<=nV xs) (h:nV n=nV xs - nV ys):iv s n=iv s xs+iv t ys:=by unfold iv;rw [h];cases s <;> cases t <;> simp_all <;> omega
theorem iv_lt {s t:Bool} {xs ys n:List Nat} (hne:s≠t) (hle:nV xs<=nV ys) (h:nV n=nV ys - nV xs):iv t n=iv s xs+iv t ys:=by unfold iv;rw [h];cases s <;> cases t <;> simp_all <;> omega
theorem iv_times {s t:Bool} {xs ys n:List Nat} (h:nV n=nV xs*nV ys):iv (s != t) n=iv s xs*iv t ys:=by unfold iv;rw [h,Int.natCast_mul];cases s <;> cases t <;> simp [Int.neg_mul,Int.mul_neg]
theorem SAdd (x y:ZI) (hx:Lb x.abs) (hy:Lb y.abs) (lx:x.abs.length<=49000) (ly:y.abs.length<=49000):Fn Tryz.prog 108 [] [vz x,vz y] (vz (ZI.of (x.val+y.val))) []:=by
 refine Fn.body Tryz.func108 rfl 47 rfl fun w H B a h=>Jq 0 [] [(2,vp 0 0),(3,vp 1 0),(4,vp 2 0)] [(0,.box (zi x)),(1,.box (zi y)),(2,.box [cB false,.d (nsl [])])] h fun a w h=>qW (Je 3 [] [] [(13,vb (x.neg == y.neg))] h fun a w h=>cS (x.neg == y.neg) h (fun hc1=>?_) (fun hc2=>?_))
 ·have hc1':=hc1;(try simp at hc1');obtain ⟨n1,en1,vn1,on1,ln1⟩:=mkN (v:=nV x.abs+nV y.abs) (m:=x.abs.length+y.abs.length+1) (nadd_lt hx hy);obtain ⟨r2,er2,vr2,or2,lr2⟩:=mkZ (v:=iv x.neg n1) (m:=n1.length) (zcz on1);refine Jd 3 [(6,.call (Fn.cast (SnAdd x.abs y.abs hx hy (by omega) (by omega)) (congrArg vn en1.symm)) ia_6),(7,.call (Fn.cast (zkb x.neg n1 on1 (by omega)) (congrArg vz er2.symm)) ia_3)] [13] [] [(0,.box (zi x)),(1,.box (zi y)),(2,.box (zi r2))] h fun a w h=>qV (za6 (rA 2 (zi r2) h zef rfl ?_));have e1:x.neg=y.neg:=by simpa using hc1
  rw [er2,iv_same vn1];show vz (ZI.of (iv x.neg x.abs+iv x.neg y.abs))=vz (ZI.of (iv x.neg x.abs+iv y.neg y.abs));rw [e1]
 have hc2':=hc2;(try simp at hc2');refine qU (za1 (qW ?_));obtain ⟨n3,en3,vn3,on3,ln3⟩:=mkN (v:=nV x.abs - nV y.abs) (m:=x.abs.length) (Nat.lt_of_le_of_lt (Nat.sub_le _ _) (zbc hx));refine Je 3 [(4,.call (Fn.cast (SnSub x.abs y.abs hx hy (by omega) (by omega)) (show _=(.tup [.c (.d (nsl n3)),.c (cB (decide (nV y.abs<=nV x.abs)))]:V) by rw [en3])) ia_7)] [13] [(5,vn n3),(6,vb (decide (nV y.abs<=nV x.abs)))] h fun a w h=>Je 3 [] [6] [(30,vb (decide (nV y.abs<=nV x.abs)))] h fun a w h=>zam (nV y.abs<=nV x.abs) h (fun hc3 hc3'=>?_) (fun hc4 hc4'=>?_)
 ·obtain ⟨r4,er4,vr4,or4,lr4⟩:=mkZ (v:=iv x.neg n3) (m:=n3.length) (zcz on3);refine Jd 3 [(3,.call (Fn.cast (zkb x.neg n3 on3 (by omega)) (congrArg vz er4.symm)) ia_3)] [5,30] [] [(0,.box (zi x)),(1,.box (zi y)),(2,.box (zi r4))] h fun a w h=>qV (za6 (rA 2 (zi r4) h zef rfl ?_));rw [er4,iv_ge (t:=y.neg) (ys:=y.abs) (by simpa using hc2) hc3' vn3];try rfl
 refine qU (za1 ?_);obtain ⟨n5,en5,vn5,on5,ln5⟩:=mkN (v:=nV y.abs - nV x.abs) (m:=y.abs.length) (Nat.lt_of_le_of_lt (Nat.sub_le _ _) (zbc hy));refine Jd 3 [(4,.call (Fn.cast (SnSub y.abs x.abs hy hx (by omega) (by omega)) (show _=(.tup [.c (.d (nsl n5)),.c (cB (decide (nV x.abs<=nV y.abs)))]:V) by rw [en5])) ia_7)] [2,5,30] [(7,vn n5)] [(1,.box (zi y)),(2,.box [cB false,.d (nsl [])])] h fun a w h=>?_;obtain ⟨r6,er6,vr6,or6,lr6⟩:=mkZ (v:=iv y.neg n5) (m:=n5.length) (zcz on5);refine Jq 3 [(3,.call (Fn.cast (zkb y.neg n5 on5 (by omega)) (congrArg vz er6.symm)) ia_3)] [(4,vp 2 0)] [(2,.box (zi r6))] h fun a w h=>qV (rA 2 (zi r6) h zef rfl ?_);rw [er6,iv_lt (s:=x.neg) (xs:=x.abs) (by simpa using hc2) (by have:=hc4';omega) vn5];try rfl
theorem SMul (x y:ZI) (hx:Lb x.abs) (hy:Lb y.abs) (lx:x.abs.length<=49000) (ly:y.abs.length<=49000):Fn Tryz.prog 152 [] [vz x,vz y] (vz (ZI.of (x.val*y.val))) []:=by
 refine Fn.body Tryz.func152 rfl 16 rfl fun w H B a h=>Jq 0 [] [(2,vp 0 0),(3,vp 1 0),(4,vp 2 0)] [(0,.box (zi x)),(1,.box (zi y)),(2,.box [cB false,.d (nsl [])])] h fun a w h=>?_
 obtain ⟨n1,en1,vn1,on1,ln1⟩:=mkN (v:=nV x.abs*nV y.abs) (m:=x.abs.length+y.abs.length) (nmul_lt hx hy);obtain ⟨r2,er2,vr2,or2,lr2⟩:=mkZ (v:=iv (x.neg != y.neg) n1) (m:=n1.length) (zcz on1);refine Jq 3 [(9,.call (Fn.cast (SnMul x.abs y.abs hx hy (by omega) (by omega)) (congrArg vn en1.symm)) ia_8),(10,.call (Fn.cast (zkb (x.neg != y.neg) n1 on1 (by omega)) (congrArg vz er2.symm)) ia_3)] [(4,vp 2 0)] [(2,.box (zi r2))] h fun a w h=>qV (rA 2 (zi r2) h zef rfl ?_);rw [er2,iv_times vn1];try rfl
def zai (v:Int):List D:=[.raw (.int .i64 v)]
def ziD (x:ZI):List D:=[.raw (.bool x.neg),nsl x.abs]
def zg4 (x:ByteArray):List D:=[.raw (.string x)]
def boolD (x:Bool):List D:=[.raw (.bool x)]
def slD {α:Type} (es:Nat) (f:α->List D) (xs:List α):List D:=[.sl es (xs.map f)]
theorem zab {α β:Type} {xs:List α} {i:Nat} {x:α} (h:xs[i]?=some x) {f:α->β}:(xs.map f)[i]?=some (f x):=by rw [List.getElem?_map,h];rfl
theorem za7 {α:Type} (es:Nat) (f:α->List D) (xs:List α):lenC (.d (.sl es (xs.map f)))=some xs.length:=by simp [lenC]
def vd (l:List D):V:=.t (.agg (l.map C.d))
structure za3 where
  v:Int
  c:ZI
def za3.d (x:za3):List D:=[.raw (.int .i64 x.v),.raw (.bool x.c.neg),nsl x.c.abs]
structure zal where
  parts:List za3
  k:ZI
def zal.d (x:zal):List D:=[.sl 3 (x.parts.map za3.d),.raw (.bool x.k.neg),nsl x.k.abs]
abbrev zT (x:zal):List C:=[.d (.sl 3 (x.parts.map za3.d))]++zi x.k
abbrev vT (x:zal):V:=.t (.agg (zT x))
abbrev vPs (x:List za3):V:=.t (.c (.d (.sl 3 (x.map za3.d))))
abbrev vIs (x:List Int):V:=.t (.c (.d (.sl 1 (x.map zai))))
abbrev vZs (x:List ZI):V:=.t (.c (.d (.sl 2 (x.map ziD))))
abbrev cPs (x:List za3):C:=.d (.sl 3 (x.map za3.d))
abbrev cIs (x:List Int):C:=.d (.sl 1 (x.map zai))
abbrev cZs (x:List ZI):C:=.d (.sl 2 (x.map ziD))
section
open Go.RowKit Go.WideShapes
def all (w:World):Im:=fun b=>w.heap[b]?
def zfr (w:World) (n:Nat) (t:TypeId) {α:Type} (f:α->List D) (good:α->Prop):Prop :=
  ∀ (H:Type) (enc:TypeId × Value->H) (base:Nat) (spare:Nat->Bool) (held:Bool) (fuel:Nat) (cs:List Value) (x:DataW H × List MemPlace),fuel<=n->DataW.trod enc Tryz.prog w base spare held fuel t cs=some x->∃ a:α,good a/\zba (DR (all w)) (f a) cs
section
variable {w:World} {n:Nat} {t:TypeId} {α β:Type} {f:α->List D} {good:α->Prop}
theorem zfr.zero:zfr w 0 t f good:=fun H enc base spare held fuel cs x hn h=>by
 obtain rfl:fuel=0:=by omega
 simp [DataW.trod] at h
theorem zfr.mono {m:Nat} (h:zfr w n t f good) (hm:m<=n):zfr w m t f good:=fun H enc base spare held fuel cs x hn hx=>h H enc base spare held fuel cs x (by omega) hx
theorem zfr.map {f':β->List D} {good':β->Prop} (h:zfr w n t f good) (g:α->β) (hf:∀ a,f' (g a)=f a) (hg:∀ a,good a->good' (g a)):zfr w n t f' good':=fun H enc base spare held fuel cs x hn hx=>by
 obtain ⟨a,h1,h2⟩:=h H enc base spare held fuel cs x hn hx
 exact ⟨g a,hg a h1,by rw [hf];exact h2⟩
theorem rep_int {k:IntKind} (hu:Tryz.prog.underlying t=some (.int k)):zfr w n t (fun v:Int=>[.raw (.int k v)]) (fun v=>(Lit.int k v).wf=true):=fun H enc base spare held fuel cs x hn hx=>by
 obtain ⟨v,rfl,_,hw⟩:=DataW.trod_int hu hx
 exact ⟨v,hw,DR.raw _ rfl,trivial⟩
theorem zki (hu:Tryz.prog.underlying t=some .bool):zfr w n t boolD (fun _=>True):=fun H enc base spare held fuel cs x hn hx=>by
 obtain ⟨v,rfl,_⟩:=DataW.trod_bool hu hx
 exact ⟨v,trivial,DR.raw _ rfl,trivial⟩
theorem rep_str (hu:Tryz.prog.underlying t=some .string):zfr w n t zg4 (fun s=>s.size<=maxLen):=fun H enc base spare held fuel cs x hn hx=>by
 obtain ⟨v,rfl,_,hs⟩:=DataW.trod_string hu hx
 exact ⟨v,hs,DR.raw _ rfl,trivial⟩
theorem zhu (hu:Tryz.prog.underlying t=some (.int .i64)):zfr w n t zai (fun v=>-9223372036854775808<=v/\v<=9223372036854775807) :=
 (rep_int hu).map id (fun _=>rfl) fun v h=>by have:=bounds_i64 h;simp only [id];omega
theorem rep_u32 (hu:Tryz.prog.underlying t=some (.int .u32)):zfr w n t (fun v:Nat=>[.raw (.int .u32 (v:Int))]) (fun v=>v<4294967296):=fun H enc base spare held fuel cs x hn hx=>by
 obtain ⟨v,rfl,_,hw⟩:=DataW.trod_int hu hx
 have:=bounds_u32 hw
 refine ⟨v.toNat,by omega,?_,trivial⟩
 rw [Int.toNat_of_nonneg (by omega)]
 exact DR.raw _ rfl
theorem listOf {P:Nat->α->Prop}:∀ (len:Nat),(∀ i,i<len->∃ a,P i a)->∃ xs:List α,xs.length=len/\∀ i x,xs[i]?=some x->P i x
 | 0,_=>⟨[],rfl,fun i x h=>by simp at h⟩
 | len+1,h=>by
  obtain ⟨xs,h1,h2⟩:=listOf len fun i hi=>h i (by omega)
  obtain ⟨a,ha⟩:=h len (by omega)
  refine ⟨xs++[a],by simp [h1],fun i x hx=>?_⟩
  by_cases hi:i<xs.length
  ·rw [List.getElem?_append_left hi] at hx;exact h2 i x hx
  ·have hl:=(List.getElem?_eq_some_iff.1 hx).1
   simp only [List.length_append,List.length_cons,List.length_nil] at hl
   have e:i=xs.length:=by omega
   subst e
   simp at hx
   subst hx
   rw [h1];exact ha
theorem cell_at {b o:Nat} {v:Value} (h:w.cell? ⟨b,o,none⟩=some v):∃ arr ty fz,w.heap[b]?=some (.cells arr ty fz)/\arr[o]?=some v:=by
 unfold World.cell? at h
 split at h
 ·rename_i cs ty fz hb
  exact ⟨cs,ty,fz,hb,by simpa using h⟩
 ·cases h
theorem zcy {e:TypeId} {k:Nat} (hu:Tryz.prog.underlying t=some (.slice e)) (hc:Tryz.prog.cellsOf e=k) (hk:0<k) (hl:∀ a,(f a).length=k) (he:zfr w n e f good):zfr w n t (slD k f) (fun xs=>xs.length<=maxLen/\∀ x ∈ xs,good x):=fun H enc base spare held fuel cs x hn hx=>by
 rcases DataW.trod_slice hu hx with ⟨rfl,_⟩ | ⟨a,len,cap,elems,rest,m,rfl,rfl,_,_,h2,h3,h4,h5,_,_⟩
 ·exact ⟨[],⟨Nat.zero_le _,by simp⟩,DR.nil _ _ _ (fun _=>rfl) (Nat.zero_le _),trivial⟩
 ·rw [hc] at h5
  obtain ⟨xs,hxl,hxs⟩:=listOf (P:=fun i (y:α)=>good y/\∃ cs', w.cells? base (a.add (i*k)) k=some cs'/\zba (DR (all w)) (f y) cs') len fun i hi=>by
   have h6:=h5 i hi
   rw [List.getElem?_eq_getElem (by omega)] at h6
   obtain ⟨cs', g1,g2⟩:=Option.bind_eq_some_iff.1 h6
   obtain ⟨y,g3,g4⟩:=he H enc base spare held m cs' _ (by omega) g2
   exact ⟨y,g3,cs', g1,g4⟩
  refine ⟨xs,⟨by omega,fun y hy=>?_⟩,?_,trivial⟩
  ·obtain ⟨i,hi⟩:=List.mem_iff_getElem?.1 hy
   exact (hxs i y hi).1
  ·show DR (all w) (.sl k (xs.map f)) _
   rcases Nat.eq_zero_or_pos len with h0 | h0
   ·subst h0
    have:xs=[]:=List.length_eq_zero_iff.1 hxl
    subst this
    exact DR.nil _ _ _ (fun e=>by cases e) h3
   ·have cells:∀ i y,xs[i]?=some y->∀ j,j<k->∃ v d,w.cell? ((a.add (i*k)).add j)=some v/\(f y)[j]?=some d/\DR (all w) d v:=fun i y hy j hj=>by
     obtain ⟨_,cs', g1,g2⟩:=hxs i y hy
     obtain ⟨_,g4,g5⟩:=World.cells?_some g1
     obtain ⟨v,g6,g7⟩:=g2.get j (by rw [hl];exact hj)
     exact ⟨v,_,by rw [g5 j hj];exact g6,List.getElem?_eq_getElem (by rw [hl];exact hj),g7⟩
    obtain ⟨y0,hy0⟩:∃ y,xs[0]?=some y:=⟨_,List.getElem?_eq_getElem (by omega)⟩
    obtain ⟨v0,_,c0,_,_⟩:=cells 0 y0 hy0 0 hk
    obtain ⟨b,o,sp⟩:=a
    have hsp:sp=none:=by
     have:=World.cell?_spot c0
     simpa [Addr.add] using this
    subst hsp
    have c0':w.cell? ⟨b,o,none⟩=some v0:=by simpa [Addr.add_mid] using c0
    obtain ⟨arr,ty,fz,hb,_⟩:=cell_at c0'
    have at_:∀ i y,xs[i]?=some y->∀ j,j<k->∃ v d,arr[o+i*k+j]?=some v/\(f y)[j]?=some d/\DR (all w) d v:=fun i y hy j hj=>by
     obtain ⟨v,d,g1,g2,g3⟩:=cells i y hy j hj
     rw [Addr.add_mid,Addr.add_mid] at g1
     obtain ⟨arr', ty', fz', hb', g4⟩:=cell_at g1
     rw [hb] at hb'
     injection hb' with hb'
     injection hb' with e1
     subst e1
     exact ⟨v,d,g4,g2,g3⟩
    have:=DR.sl (H:=all w) k (xs.map f) b o cap arr ty fz (fun i j=>(arr[o+i*k+j]?).getD v0) (by rw [List.length_map];omega) hb (by rw [List.length_map];omega) h3 (fun i hi=>by rw [List.getElem_map];exact hl _)
     (fun i hi j hj=>by
      have hi':i<xs.length:=by simpa using hi
      obtain ⟨v,d,g1,_,_⟩:=at_ i xs[i] (List.getElem?_eq_getElem hi') j hj
      rw [g1];rfl)
     (fun i hi j hj=>by
      have hi':i<xs.length:=by simpa using hi
      have hj':j<k:=by rw [List.getElem_map,hl] at hj;exact hj
      obtain ⟨v,d,g1,g2,g3⟩:=at_ i xs[i] (List.getElem?_eq_getElem hi') j hj'
      have e1:((xs.map f)[i])[j]?=some d:=by rw [List.getElem_map];exact g2
      rw [List.getElem?_eq_getElem hj] at e1
      injection e1 with e1
      rw [e1,g1];exact g3)
    rwa [List.length_map,hxl] at this
def FsN (w:World) (n:Nat) (fs:List Field) (o k:Nat) {α:Type} (f:α->List D) (good:α->Prop):Prop :=
  ∀ (H:Type) (enc:TypeId × Value->H) (base:Nat) (spare:Nat->Bool) (held:Bool) (cs:List Value),(∀ fl ∈ fs,∃ m x,m<=n/\DataW.trod enc Tryz.prog w base spare held m fl.type ((cs.drop fl.offset).take (Tryz.prog.cellsOf fl.type))=some x)->o+k=cs.length->∃ a:α,good a/\zba (DR (all w)) (f a) (cs.drop o)
theorem FsN.nil {o:Nat}:FsN w n [] o 0 (fun _:Unit=>[]) (fun _=>True):=fun H enc base spare held cs _ hl=>⟨(),trivial,by rw [List.drop_of_length_le (by omega)];trivial⟩
theorem FsN.cons {fl:Field} {fs:List Field} {o k0 k1:Nat} {f1:β->List D} {good1:β->Prop} (ho:fl.offset=o) (hc:Tryz.prog.cellsOf fl.type=k0) (h0:zfr w n fl.type f good) (h1:FsN w n fs (o+k0) k1 f1 good1) :
  FsN w n (fl :: fs) o (k0+k1) (fun p:α × β=>f p.1++f1 p.2) (fun p=>good p.1/\good1 p.2):=fun H enc base spare held cs hf hl=>by
 obtain ⟨m,x,hm,hx⟩:=hf fl (by simp)
 rw [ho,hc] at hx
 obtain ⟨a,g1,g2⟩:=h0 H enc base spare held m _ x hm hx
 obtain ⟨b,g3,g4⟩:=h1 H enc base spare held cs (fun fl' h'=>hf fl' (by simp [h'])) (by omega)
 refine ⟨(a,b),⟨g1,g3⟩,?_⟩
 have e:cs.drop o=(cs.drop o).take k0++cs.drop (o+k0):=by rw [<- List.drop_drop,List.take_append_drop]
 rw [e]
 exact g2.append g4
theorem zc3 {k:Nat} {fs:Array Field} (hu:Tryz.prog.underlying t=some (.struct fs)) (hc:Tryz.prog.cellsOf t=k) (h:FsN w n fs.toList 0 k f good):zfr w (n+1) t f good:=fun H enc base spare held fuel cs x hn hx=>by
 obtain ⟨xs,m,rfl,_,h2,h3,h4⟩:=DataW.trod_struct hu hx
 obtain ⟨a,g1,g2⟩:=h H enc base spare held cs (fun fl hfl=>by
  obtain ⟨i,hi⟩:=List.mem_iff_getElem?.1 hfl
  have hi':fs[i]?=some fl:=by simpa using hi
  have:=h4 i fl hi'
  have hlt:i<xs.length:=by rw [h3];exact (Array.getElem?_eq_some_iff.1 hi').1
  rw [List.getElem?_eq_getElem hlt] at this
  exact ⟨m,_,by omega,this⟩) (by rw [h2,hc];omega)
 exact ⟨a,g1,by simpa using g2⟩
/-- a struct that came in -/
theorem rep_agg {fs:Array Field} (hu:Tryz.prog.underlying t=some (.struct fs)) (hr:∀ n,zfr w n t f good) {H:Type} {enc:TypeId × Value->H} {base:Nat} {spare:Nat->Bool} {held:Bool} {r:Reach} {b0:Nat} {v:Value} {d:DataW H} {p:List MemPlace} (hv:Value.okWide Tryz.prog w r b0 t v) (h:DataW.Trod enc Tryz.prog w base spare held t v d p) :
  ∃ (a:α) (cs:List Value),good a/\v = .agg ⟨cs⟩/\zba (DR (all w)) (f a) cs:=by
 obtain ⟨cs,rfl,_⟩:=okWide_struct hu hv
 obtain ⟨fuel,hf⟩:=h
 obtain ⟨a,g1,g2⟩:=hr fuel H enc base spare held fuel _ _ (Nat.le_refl _) hf
 exact ⟨a,cs.toList,g1,rfl,g2⟩
/-- a slice that came in -/
theorem rep_one {e:TypeId} {g:α->D} (hu:Tryz.prog.underlying t=some (.slice e)) (hr:∀ n,zfr w n t (fun a=>[g a]) good) {H:Type} {enc:TypeId × Value->H} {base:Nat} {spare:Nat->Bool} {held:Bool} {r:Reach} {b0:Nat} {v:Value} {d:DataW H} {p:List MemPlace} (hv:Value.okWide Tryz.prog w r b0 t v) (h:DataW.Trod enc Tryz.prog w base spare held t v d p) :
  ∃ (a:α) (ao:Option Addr) (len cap:Nat),good a/\v = .slice ao len cap/\DR (all w) (g a) v:=by
 obtain ⟨ao,len,cap,rfl⟩:=okWide_slice hu hv
 obtain ⟨fuel,hf⟩:=h
 obtain ⟨a,g1,g2⟩:=hr fuel H enc base spare held fuel _ _ (Nat.le_refl _) hf
 exact ⟨a,ao,len,cap,g1,rfl,g2.1⟩
theorem dr_vd {l:List D} {cs:List Value} (h:zba (DR (all w)) l cs) (B:Bl):VR (all w) B (vd l) (.agg ⟨cs⟩):=by
 refine ⟨cs,rfl,zba.iff.2 ⟨by simpa using h.length,fun j a b ha hb=>?_⟩⟩
 rw [List.getElem?_map] at ha
 cases hj:l[j]? with
 | none=>rw [hj] at ha;cases ha
 | some d =>
  rw [hj] at ha
  injection ha with ha
  subst ha
  exact (zba.iff.1 h).2 j d b hj hb
end
theorem Fn.calls {k:FuncId} {args:List V} {vals:List Value} {w:World} (h:Fn Tryz.prog k [] args (vb true) []) (ha:∀ B,zba (VR (all w) B) args vals):Calls Tryz.prog k ⟨vals⟩ w (GotP (.bool true) w):=by
 refine (h w (all w) (fun _=>none) vals ⟨fun b o hb=>hb,fun p hp=>(by cases hp),fun p hp=>(by cases hp),fun p hp=>(by cases hp),ha _⟩).mono ?_
 rintro en w' ⟨v,H', B', rfl,post⟩
 have:=VR.rawI post.res
 subst this
 exact ⟨rfl,post.ext.os,post.ext.tape,post.ext.output,post.ext.size,fun b hb=>post.ext.block b hb (by rintro ⟨p,hp,_⟩;cases hp)⟩
/-! the types of numbers and terms -/
section
variable {w:World} {n:Nat}
theorem rep_Nat:zfr w n 26 (fun zs=>[nsl zs]) Lb :=
 (zcy (k:=1) (f:=fun v:Nat=>[D.raw (.int .u32 (v:Int))]) Tryz.underlying26 (by kernel_rfl) (by decide) (fun _=>rfl) (rep_u32 Tryz.underlying118)).map id (fun _=>rfl) fun zs h z hz=>h.2 z hz
theorem rep_ZI:zfr w n 28 ziD (fun x=>Lb x.abs) :=
 ((zc3 (n:=n) Tryz.underlying28 (by kernel_rfl) (.cons (k0:=1) rfl (by kernel_rfl) (zki Tryz.underlying4) (.cons (k0:=1) rfl (by kernel_rfl) rep_Nat .nil))).map (fun p=>⟨p.1,p.2.1⟩) (fun _=>rfl) fun _ h=>h.2.1).mono (Nat.le_succ n)
theorem rep_Part:zfr w n 81 za3.d (fun p=>Lb p.c.abs) :=
 ((zc3 (n:=n) Tryz.underlying81 (by kernel_rfl) (.cons (k0:=1) rfl (by kernel_rfl) (zhu Tryz.underlying3) (.cons (k0:=2) rfl (by kernel_rfl) rep_ZI .nil))).map (fun p=>⟨p.1,p.2.1⟩) (fun _=>rfl) fun _ h=>h.2.1).mono (Nat.le_succ n)
def TLb (t:zal):Prop:=Lb t.k.abs/\∀ p ∈ t.parts,Lb p.c.abs
theorem rep_Parts:zfr w n 24 (slD 3 za3.d) (fun ps=>ps.length<=maxLen/\∀ p ∈ ps,Lb p.c.abs) :=
 zcy (k:=3) Tryz.underlying24 (by kernel_rfl) (by decide) (fun _=>rfl) rep_Part
theorem rep_Term:zfr w n 30 zal.d TLb :=
 ((zc3 (n:=n) Tryz.underlying30 (by kernel_rfl) (.cons (k0:=1) rfl (by kernel_rfl) rep_Parts (.cons (k0:=2) rfl (by kernel_rfl) rep_ZI .nil))).map (fun p=>⟨p.1,p.2.1⟩) (fun _=>rfl) fun _ h=>⟨h.2.1,h.1.2⟩).mono (Nat.le_succ n)
theorem rep_ints:zfr w n 40 (slD 1 zai) (fun xs=>xs.length<=maxLen/\∀ x ∈ xs,-9223372036854775808<=x/\x<=9223372036854775807) :=
 zcy (k:=1) Tryz.underlying40 (by kernel_rfl) (by decide) (fun _=>rfl) (zhu Tryz.underlying3)
end
end
section
variable {P:Program}
theorem Op.quo {d:Nat} {x y:Operand} {k:IntKind} {m n r:Int} {rs rs':List (Nat × V)} {xt yt ty:TypeId} {pos af gd} (h:OV x (vi k m) rs) (h':OV y (vi k n) rs') (hn:n≠0) (he:m.tdiv n=r) (hr:k.wrap r=r) :
  zbe P ⟨some d,.binOp .quo xt x y yt,ty,pos,af,gd⟩ { rs:=rs++rs', ws:=[(d,some (vi k r))] }:=by
 refine Op.raw2 rfl h h' rfl fun ρ w h1 h2=>?_
 simp [execOp,h1,h2,eqGuard,binOp,Op.intDiv,hn,he,hr,go_sem]
theorem Op.rem {d:Nat} {x y:Operand} {k:IntKind} {m n r:Int} {rs rs':List (Nat × V)} {xt yt ty:TypeId} {pos af gd} (h:OV x (vi k m) rs) (h':OV y (vi k n) rs') (hn:n≠0) (he:m.tmod n=r) :
  zbe P ⟨some d,.binOp .rem xt x y yt,ty,pos,af,gd⟩ { rs:=rs++rs', ws:=[(d,some (vi k r))] }:=by
 refine Op.raw2 rfl h h' rfl fun ρ w h1 h2=>?_
 simp [execOp,h1,h2,eqGuard,binOp,Op.intDiv,hn,he,go_sem]
theorem Op.shr {d:Nat} {x y:Operand} {k k':IntKind} {m r:Int} {n:Nat} {rs rs':List (Nat × V)} {xt yt ty:TypeId} {pos af gd} (h:OV x (vi k m) rs) (h':OV y (vi k' n) rs') (hb:n<=k.bits) (he:m.fdiv (2 ^ n)=r) :
  zbe P ⟨some d,.binOp .shr xt x y yt,ty,pos,af,gd⟩ { rs:=rs++rs', ws:=[(d,some (vi k r))] }:=by
 refine Op.raw2 rfl h h' rfl fun ρ w h1 h2=>?_
 have hs:Op.shift .shr k m k' n=pure (.int k r):=by
  unfold Op.shift
  rw [if_neg (by omega)]
  simp only [Int.toNat_natCast,Nat.min_eq_left hb,he]
 simp [execOp,h1,h2,eqGuard,binOp,hs,go_sem]
end
theorem ib_0:za4 Tryz.prog 67:=za4.mk' (by kernel_rfl)
theorem ib_1:za4 Tryz.prog 65:=za4.mk' (by kernel_rfl)
theorem ib_4:za4 Tryz.prog 117:=za4.mk' (by kernel_rfl)
theorem ib_5:za4 Tryz.prog 78:=za4.mk' (by kernel_rfl)
theorem ib_6:za4 Tryz.prog 118:=za4.mk' (by kernel_rfl)
theorem ib_8:za4 Tryz.prog 142:=za4.mk' (by kernel_rfl)
theorem ib_10:ElZ Tryz.prog 26 118 1:=ElZ.mk' Tryz.underlying26 _ _ rfl rfl (by kernel_rfl) (by kernel_rfl) (by kernel_rfl) (by decide)
theorem zeu (n:List Nat):iv true n=-(nV n:Int):=rfl
theorem zdg (n:List Nat):iv false n=(nV n:Int):=rfl
theorem val_neg {x:ZI} (h:x.val<0):x.val=-(nV x.abs:Int):=by
 unfold ZI.val at h ⊢
 cases hn:x.neg with
 | true=>rfl
 | false=>rw [hn,zdg] at h;omega
theorem ziw {x:ZI} (h:0<=x.val):x.val=(nV x.abs:Int):=by
 unfold ZI.val at h ⊢
 cases hn:x.neg with
 | false=>rfl
 | true=>rw [hn,zeu] at h;rw [zeu];omega
theorem zkg {z:Int} (h:z<0):decide (sgn z<0)=true:=by rw [sgn_neg h];rfl
theorem zkh {z:Int} (h:0<=z):decide (sgn z<0)=false:=decide_eq_false (mt sgn_lt_zero.1 (by omega))
theorem sgn_ge_t {z:Int} (h:0<=z):decide (sgn z>=0)=true:=decide_eq_true (by have:=mt (sgn_lt_zero (z:=z)).1 (by omega);omega)
theorem sgn_ge_f {z:Int} (h:z<0):decide (sgn z>=0)=false:=by rw [sgn_neg h];rfl
theorem SRAdd_pp (x y:ZI) (hx:Lb x.abs) (hy:Lb y.abs) (lx:x.abs.length<=49000) (ly:y.abs.length<=49000) (px:0<=x.val) (py:0<=y.val):Fn Tryz.prog 78 [] [vz x,vz y] (vz (ZI.of (x.val+y.val))) []:=by
 refine Fn.body Tryz.func78 rfl 62 rfl fun w H B a h=>Jq 0 [] [(2,vp 0 0),(3,vp 1 0),(4,vp 2 0)] [(0,.box (zi x)),(1,.box (zi y)),(2,.box [cB false,.d (nsl [])])] h fun a w h=>qW (Je 3 [(1,.call (zdj x hx (by omega)) ib_0),(2,.cmp (op:=.lss) (m:=(sgn x.val)) (n:=0) (b:=false) .i64 (zkh px))] [] [(14,vb false)] h fun a w h=>zax false h rfl nofun (fun _=>qU (za1 (qW (Je 3 [(1,.call (zdj x hx (by omega)) ib_0),(2,.cmp (op:=.geq) (m:=(sgn x.val)) (n:=0) (b:=true) .i64 (sgn_ge_t px)),(5,.call (zdj y hy (by omega)) ib_0),(6,.cmp (op:=.geq) (m:=(sgn y.val)) (n:=0) (b:=true) .i64 (sgn_ge_t py))] [14] [(28,vb true)] h fun a w h=>cS true h (fun _=>?_) nofun)))))
 obtain ⟨n4,en4,vn4,on4,ln4⟩:=mkN (v:=nV x.abs+nV y.abs) (m:=x.abs.length+y.abs.length+1) (nadd_lt hx hy);obtain ⟨r5,er5,vr5,or5,lr5⟩:=mkZ (v:=iv false n4) (m:=n4.length) (zcz on4);refine Jd 3 [(4,.call (Fn.cast (SRnAdd x.abs y.abs hx hy (by omega) (by omega)) (congrArg vn en4.symm)) ib_1),(5,.call (Fn.cast (zir false n4 on4 (by omega)) (congrArg vz er5.symm)) ia_4)] [28] [] [(0,.box (zi x)),(1,.box (zi y)),(2,.box (zi r5))] h fun a w h=>qV (za6 (rA 2 (zi r5) h zef rfl (congrArg (fun z=>vz z) (er5.trans (congrArg ZI.of ?_)))));have ax:=ziw (x:=x) px;have ay:=ziw (x:=y) py
 (try simp only [zeu])
 (try simp only [zdg])
 omega
theorem SRAdd_nn (x y:ZI) (hx:Lb x.abs) (hy:Lb y.abs) (lx:x.abs.length<=49000) (ly:y.abs.length<=49000) (px:x.val<0) (py:y.val<0):Fn Tryz.prog 78 [] [vz x,vz y] (vz (ZI.of (x.val+y.val))) []:=by
 refine Fn.body Tryz.func78 rfl 62 rfl fun w H B a h=>Jq 0 [] [(2,vp 0 0),(3,vp 1 0),(4,vp 2 0)] [(0,.box (zi x)),(1,.box (zi y)),(2,.box [cB false,.d (nsl [])])] h fun a w h=>qW (Je 3 [(1,.call (zdj x hx (by omega)) ib_0),(2,.cmp (op:=.lss) (m:=(sgn x.val)) (n:=0) (b:=true) .i64 (zkg px)),(5,.call (zdj y hy (by omega)) ib_0),(6,.cmp (op:=.lss) (m:=(sgn y.val)) (n:=0) (b:=true) .i64 (zkg py))] [] [(14,vb true)] h fun a w h=>cS true h (fun _=>?_) nofun)
 obtain ⟨n3,en3,vn3,on3,ln3⟩:=mkN (v:=nV x.abs+nV y.abs) (m:=x.abs.length+y.abs.length+1) (nadd_lt hx hy);obtain ⟨r4,er4,vr4,or4,lr4⟩:=mkZ (v:=iv true n3) (m:=n3.length) (zcz on3);refine Jd 3 [(4,.call (Fn.cast (SRnAdd x.abs y.abs hx hy (by omega) (by omega)) (congrArg vn en3.symm)) ib_1),(5,.call (Fn.cast (zir true n3 on3 (by omega)) (congrArg vz er4.symm)) ia_4)] [14] [] [(0,.box (zi x)),(1,.box (zi y)),(2,.box (zi r4))] h fun a w h=>qV (za6 (rA 2 (zi r4) h zef rfl (congrArg (fun z=>vz z) (er4.trans (congrArg ZI.of ?_)))));have ax:=val_neg (x:=x) px;have ay:=val_neg (x:=y) py
 (try simp only [zeu])
 (try simp only [zdg])
 omega
theorem SRAdd_pn (x y:ZI) (hx:Lb x.abs) (hy:Lb y.abs) (lx:x.abs.length<=49000) (ly:y.abs.length<=49000) (px:0<=x.val) (py:y.val<0):Fn Tryz.prog 78 [] [vz x,vz y] (vz (ZI.of (x.val+y.val))) []:=by
 refine Fn.body Tryz.func78 rfl 62 rfl fun w H B a h=>Jq 0 [] [(2,vp 0 0),(3,vp 1 0),(4,vp 2 0)] [(0,.box (zi x)),(1,.box (zi y)),(2,.box [cB false,.d (nsl [])])] h fun a w h=>qW (Je 3 [(1,.call (zdj x hx (by omega)) ib_0),(2,.cmp (op:=.lss) (m:=(sgn x.val)) (n:=0) (b:=false) .i64 (zkh px))] [] [(14,vb false)] h fun a w h=>zax false h rfl nofun (fun _=>qU (za1 (qW (Je 3 [(1,.call (zdj x hx (by omega)) ib_0),(2,.cmp (op:=.geq) (m:=(sgn x.val)) (n:=0) (b:=true) .i64 (sgn_ge_t px)),(5,.call (zdj y hy (by omega)) ib_0),(6,.cmp (op:=.geq) (m:=(sgn y.val)) (n:=0) (b:=false) .i64 (sgn_ge_f py))] [14] [(28,vb false)] h fun a w h=>zax false h rfl nofun (fun _=>qU (za1 (qW (Je 3 [(1,.call (zdj x hx (by omega)) ib_0),(2,.cmp (op:=.lss) (m:=(sgn x.val)) (n:=0) (b:=false) .i64 (zkh px))] [28] [(37,vb false)] h fun a w h=>zax false h rfl nofun (fun _=>qU (za1 ?_)))))))))))
 obtain ⟨n5,en5,vn5,on5,ln5⟩:=mkN (v:=nV x.abs - nV y.abs) (m:=x.abs.length) (Nat.lt_of_le_of_lt (Nat.sub_le _ _) (zbc hx));refine Je 3 [(4,.call (Fn.cast (SRnSub x.abs y.abs hx hy (by omega) (by omega)) (show _=(.tup [.c (.d (nsl n5)),.c (cB (decide (nV y.abs<=nV x.abs)))]:V) by rw [en5])) ib_4)] [37] [(5,vn n5),(6,vb (decide (nV y.abs<=nV x.abs)))] h fun a w h=>qW (Je 3 [] [6] [(49,vb (decide (nV y.abs<=nV x.abs)))] h fun a w h=>zam (nV y.abs<=nV x.abs) h (fun hc1 hc1'=>?_) (fun hc2 hc2'=>?_))
 ·obtain ⟨r6,er6,vr6,or6,lr6⟩:=mkZ (v:=iv false n5) (m:=n5.length) (zcz on5);refine Jd 3 [(1,.call (Fn.cast (zir false n5 on5 (by omega)) (congrArg vz er6.symm)) ia_4)] [49] [] [(0,.box (zi x)),(1,.box (zi y)),(2,.box (zi r6))] h fun a w h=>qV (za6 (rA 2 (zi r6) h zef rfl (congrArg (fun z=>vz z) (er6.trans (congrArg ZI.of ?_)))));have ax:=ziw (x:=x) px;have ay:=val_neg (x:=y) py
  (try simp only [zeu])
  (try simp only [zdg])
  omega
 refine qU (za1 ?_);obtain ⟨n7,en7,vn7,on7,ln7⟩:=mkN (v:=nV y.abs - nV x.abs) (m:=y.abs.length) (Nat.lt_of_le_of_lt (Nat.sub_le _ _) (zbc hy));refine Jq 3 [(4,.call (Fn.cast (SRnSub y.abs x.abs hy hx (by omega) (by omega)) (show _=(.tup [.c (.d (nsl n7)),.c (cB (decide (nV x.abs<=nV y.abs)))]:V) by rw [en7])) ib_4)] [(4,vp 2 0),(5,vn n7)] [(2,.box [cB false,.d (nsl [])])] h fun a w h=>?_;obtain ⟨r8,er8,vr8,or8,lr8⟩:=mkZ (v:=iv true n7) (m:=n7.length) (zcz on7);refine Jd 3 [(1,.call (Fn.cast (zir true n7 on7 (by omega)) (congrArg vz er8.symm)) ia_4)] [5] [] [(2,.box (zi r8))] h fun a w h=>qV (rA 2 (zi r8) h zef rfl (congrArg (fun z=>vz z) (er8.trans (congrArg ZI.of ?_))));have ax:=ziw (x:=x) px;have ay:=val_neg (x:=y) py
 (try simp only [zeu])
 (try simp only [zdg])
 omega
theorem SRAdd_np (x y:ZI) (hx:Lb x.abs) (hy:Lb y.abs) (lx:x.abs.length<=49000) (ly:y.abs.length<=49000) (px:x.val<0) (py:0<=y.val):Fn Tryz.prog 78 [] [vz x,vz y] (vz (ZI.of (x.val+y.val))) []:=by
 refine Fn.body Tryz.func78 rfl 62 rfl fun w H B a h=>Jq 0 [] [(2,vp 0 0),(3,vp 1 0),(4,vp 2 0)] [(0,.box (zi x)),(1,.box (zi y)),(2,.box [cB false,.d (nsl [])])] h fun a w h=>qW (Je 3 [(1,.call (zdj x hx (by omega)) ib_0),(2,.cmp (op:=.lss) (m:=(sgn x.val)) (n:=0) (b:=true) .i64 (zkg px)),(5,.call (zdj y hy (by omega)) ib_0),(6,.cmp (op:=.lss) (m:=(sgn y.val)) (n:=0) (b:=false) .i64 (zkh py))] [] [(14,vb false)] h fun a w h=>zax false h rfl nofun (fun _=>qU (za1 (qW (Je 3 [(1,.call (zdj x hx (by omega)) ib_0),(2,.cmp (op:=.geq) (m:=(sgn x.val)) (n:=0) (b:=false) .i64 (sgn_ge_f px))] [14] [(28,vb false)] h fun a w h=>zax false h rfl nofun (fun _=>qU (za1 (qW (Je 3 [(1,.call (zdj x hx (by omega)) ib_0),(2,.cmp (op:=.lss) (m:=(sgn x.val)) (n:=0) (b:=true) .i64 (zkg px))] [28] [(37,vb true)] h fun a w h=>cS true h (fun _=>?_) nofun)))))))))
 obtain ⟨r5,er5,vr5,or5,lr5⟩:=mkZ (v:=y.val+x.val) (m:=y.abs.length+x.abs.length+1) (zdw hy hx);refine Jd 3 [(2,.call (Fn.cast (SRAdd_pn y x hy hx ly lx py px) (congrArg vz er5.symm)) ib_5)] [37] [] [(0,.box (zi x)),(1,.box (zi y)),(2,.box (zi r5))] h fun a w h=>qV (za6 (rA 2 (zi r5) h zef rfl (congrArg (fun z=>vz z) (er5.trans (congrArg ZI.of ?_)))));omega
theorem SRAdd (x y:ZI) (hx:Lb x.abs) (hy:Lb y.abs) (lx:x.abs.length<=49000) (ly:y.abs.length<=49000):Fn Tryz.prog 78 [] [vz x,vz y] (vz (ZI.of (x.val+y.val))) []:=by
 by_cases px:x.val<0 <;> by_cases py:y.val<0
 ·exact SRAdd_nn x y hx hy lx ly px py
 ·exact SRAdd_np x y hx hy lx ly px (by omega)
 ·exact SRAdd_pn x y hx hy lx ly (by omega) py
 ·exact SRAdd_pp x y hx hy lx ly (by omega) (by omega)
theorem zi8 {x y:Int} (hx:-1<=x/\x<=1) (hy:-1<=y/\y<=1):-1<=x*y/\x*y<=1:=by
 have h1:x=-1\/x=0\/x=1:=by omega
 rcases h1 with rfl | rfl | rfl <;> omega
theorem sgn_cases (x:ZI):(sgn x.val=-1/\x.val=-(nV x.abs:Int))\/(sgn x.val=0/\(nV x.abs:Int)=0/\x.val=0)\/(sgn x.val=1/\x.val=(nV x.abs:Int)):=by
 rcases Int.lt_trichotomy x.val 0 with h | h | h
 ·exact .inl ⟨sgn_neg h,val_neg h⟩
 ·have:=ziw (x:=x) (by omega)
  exact .inr (.inl ⟨zf5 h,by omega,h⟩)
 ·exact .inr (.inr ⟨sgn_pos h,ziw (by omega)⟩)
theorem mul_sgn (x y:ZI) {n:List Nat} (h:nV n=nV x.abs*nV y.abs):iv (decide (sgn x.val*sgn y.val<0)) n=x.val*y.val:=by
 have hp:(nV n:Int)=(nV x.abs:Int)*(nV y.abs:Int):=by rw [h,Int.natCast_mul]
 rcases sgn_cases x with ⟨h1,h2⟩ | ⟨h1,h2,h3⟩ | ⟨h1,h2⟩ <;> rcases sgn_cases y with ⟨k1,k2⟩ | ⟨k1,k2,k3⟩ | ⟨k1,k2⟩ <;> rw [h1,k1]
 ·change (nV n:Int)=_;rw [h2,k2,Int.neg_mul_neg];exact hp
 ·change (nV n:Int)=_;rw [k3,hp,k2];omega
 ·change -(nV n:Int)=_;rw [h2,k2,Int.neg_mul,hp]
 ·change (nV n:Int)=_;rw [h3,hp,h2];omega
 ·change (nV n:Int)=_;rw [h3,hp,h2];omega
 ·change (nV n:Int)=_;rw [h3,hp,h2];omega
 ·change -(nV n:Int)=_;rw [h2,k2,Int.mul_neg,hp]
 ·change (nV n:Int)=_;rw [k3,hp,k2];omega
 ·change (nV n:Int)=_;rw [h2,k2];exact hp
theorem sgn_mul_range' (x y:Int):-1<=sgn x*sgn y/\sgn x*sgn y<=1:=zi8 (sgn_range x) (sgn_range y)
theorem SRMul (x y:ZI) (hx:Lb x.abs) (hy:Lb y.abs) (lx:x.abs.length<=49000) (ly:y.abs.length<=49000):Fn Tryz.prog 79 [] [vz x,vz y] (vz (ZI.of (x.val*y.val))) []:=by
 refine Fn.body Tryz.func79 rfl 17 rfl fun w H B a h=>Jq 0 [] [(2,vp 0 0),(3,vp 1 0),(4,vp 2 0)] [(0,.box (zi x)),(1,.box (zi y)),(2,.box [cB false,.d (nsl [])])] h fun a w h=>?_
 obtain ⟨n3,en3,vn3,on3,ln3⟩:=mkN (v:=nV x.abs*nV y.abs) (m:=x.abs.length+y.abs.length) (nmul_lt hx hy);obtain ⟨r4,er4,vr4,or4,lr4⟩:=mkZ (v:=iv (decide ((sgn x.val*sgn y.val)<0)) n3) (m:=n3.length) (zcz on3);refine Jq 3 [(1,.call (zdj x hx (by omega)) ib_0),(3,.call (zdj y hy (by omega)) ib_0),(4,.mul .i64 (m:=(sgn x.val)) (n:=(sgn y.val)) (i64_id (by have:=sgn_mul_range' x.val y.val;omega) (by have:=sgn_mul_range' x.val y.val;omega))),(10,.call (Fn.cast (SRnMul x.abs y.abs hx hy (by omega) (by omega)) (congrArg vn en3.symm)) ib_6),(11,.call (Fn.cast (zir (decide ((sgn x.val*sgn y.val)<0)) n3 on3 (by omega)) (congrArg vz er4.symm)) ia_4)] [(4,vp 2 0)] [(2,.box (zi r4))] h fun a w h=>qV (rA 2 (zi r4) h zef rfl (congrArg (fun z=>vz z) (er4.trans (congrArg ZI.of ?_))));exact mul_sgn x y vn3
theorem val_one (a:Nat):nV [a]=a:=by simp [nV]
theorem val_two (a b:Nat):nV [a,b]=a+4294967296*b:=by simp [nV]
theorem SOf (E:Int) (hI:-9223372036854775808<=E/\E<=9223372036854775807):Fn Tryz.prog 120 [] [vI E] (vz (ZI.of (E))) []:=by
 refine Fn.body Tryz.func120 rfl 16 rfl fun w H B a h=>Jq 0 [] [(0,vI E),(2,vp 0 0)] [(0,.box [cB false,.d (nsl [])])] h fun a w h=>qW (Je 1 [] [] [(4,vb (decide (E<0)))] h fun a w h=>zam (E<0) h (fun hc1 hc1'=>?_) (fun hc2 hc2'=>?_))
 ·obtain ⟨n1,en1,vn1,on1,ln1⟩:=mkN (v:=((-(E+1))+1).toNat) (m:=2) (by have:=pw2;omega);obtain ⟨r2,er2,vr2,or2,lr2⟩:=mkZ (v:=iv true n1) (m:=n1.length) (zcz on1);refine Jd 1 [(1,.add .i64 (m:=E) (n:=1) i6),(2,.neg .i64 (m:=(E+1)) i6),(3,.conv .i64 .u64 (m:=(-(E+1))) (u64_id (by omega) (by omega))),(4,.add .u64 (m:=(-(E+1))) (n:=1) (u64_id (by omega) (by omega))),(5,.call (Fn.cast (SnOf ((-(E+1))+1) (by omega) (by omega)) (congrArg vn en1.symm)) ib_8),(6,.call (Fn.cast (zkb true n1 on1 (by omega)) (congrArg vz er2.symm)) ia_3)] [4] [] [(0,.box (zi r2))] h fun a w h=>qV (za6 (rA 0 (zi r2) h zef rfl (congrArg (fun z=>vz z) (er2.trans (congrArg ZI.of ?_)))))
  (try simp only [zeu])
  (try simp only [zdg])
  omega
 refine qU (za1 ?_);obtain ⟨n3,en3,vn3,on3,ln3⟩:=mkN (v:=(E).toNat) (m:=2) (by have:=pw2;omega);obtain ⟨r4,er4,vr4,or4,lr4⟩:=mkZ (v:=iv false n3) (m:=n3.length) (zcz on3);refine Jq 1 [(1,.conv .i64 .u64 (m:=E) (u64_id (by omega) (by omega))),(2,.call (Fn.cast (SnOf E (by omega) (by omega)) (congrArg vn en3.symm)) ib_8),(3,.call (Fn.cast (zkb false n3 on3 (by omega)) (congrArg vz er4.symm)) ia_3)] [(2,vp 0 0)] [(0,.box (zi r4))] h fun a w h=>qV (rA 0 (zi r4) h zef rfl (congrArg (fun z=>vz z) (er4.trans (congrArg ZI.of ?_))))
 (try simp only [zeu])
 (try simp only [zdg])
 omega
theorem SROf (E:Int) (hI:-9223372036854775808<=E/\E<=9223372036854775807):Fn Tryz.prog 31 [] [vI E] (vz (ZI.of (E))) []:=by
 refine Fn.body Tryz.func31 rfl 29 rfl fun w H B a h=>Jq 0 [] [(0,vI E),(2,vp 0 0)] [(0,.box [cB false,.d (nsl [])])] h fun a w h=>qW (Je 1 [] [] [(6,vb (decide (E>=0)))] h fun a w h=>zam (E>=0) h (fun hc1 hc1'=>?_) (fun hc2 hc2'=>?_))
 ·obtain ⟨q0,hq0⟩:∃ z_:Nat,E % 4294967296=(z_:Int):=⟨(E % 4294967296).toNat,by omega⟩;obtain ⟨q1,hq1⟩:∃ z_:Nat,E / 4294967296=(z_:Int):=⟨(E / 4294967296).toNat,by omega⟩;obtain ⟨r1,er1,vr1,or1,lr1⟩:=mkZ (v:=iv false [q0,q1]) (m:=[q0,q1].length) (zcz (show Lb [q0,q1] from by intro z hz;simp at hz;omega));refine Jd 1 [(1,.g (Op.rem (d:=8) (xt:=2) (yt:=2) (k:=.i64) (m:=E) (n:=4294967296) (r:=(q0:Int)) (OV.tmp 7 _) (OV.const (.int .i64 4294967296) rfl) (by decide) ((Int.tmod_eq_emod_of_nonneg (by omega)).trans hq0))),(2,.conv .i64 .u32 (m:=(q0:Int)) (u32_id (by omega) (by omega))),(4,.g (Op.quo (d:=11) (xt:=2) (yt:=2) (k:=.i64) (m:=E) (n:=4294967296) (r:=(q1:Int)) (OV.tmp 10 _) (OV.const (.int .i64 4294967296) rfl) (by decide) ((Int.tdiv_eq_ediv_of_nonneg (by omega)).trans hq1) i6)),(5,.conv .i64 .u32 (m:=(q1:Int)) (u32_id (by omega) (by omega))),(6,.g (Op.buildD (d:=13) (len:=2) (rows:=[[.raw (.int .u32 (q0:Nat))],[.raw (.int .u32 (q1:Nat))]]) (rs:=[(9,vi .u32 (q0:Int)),(12,vi .u32 (q1:Int))]) ib_10 (.cons (i:=0) (OV.tmp 9 _) (.cons (i:=1) (OV.tmp 12 _) (.nil))) (by kernel_rfl) rfl (by simp) (by decide) (by decide))),(7,.call (Fn.cast (zir false [q0,q1] (show Lb [q0,q1] from by intro z hz;simp at hz;omega) (by first | omega | simp)) (congrArg vz er1.symm)) ia_4)] [6] [] [(0,.box (zi r1))] h fun a w h=>qV (za6 (rA 0 (zi r1) h zef rfl (congrArg (fun z=>vz z) (er1.trans (congrArg ZI.of ?_)))))
  (try simp only [zeu])
  (try simp only [zdg])
  (try rw [vn1])
  (try simp only [val_two] at *)
  (try simp only [val_one] at *)
  omega
 refine qU (za1 (Jp 1 [(1,.add .i64 (m:=E) (n:=1) i6),(2,.sub .i64 (m:=0) (n:=(E+1)) i6)] [(2,vp 0 0),(3,vI (0 - (E+1)))] h fun a w h=>?_));obtain ⟨q2,hq2⟩:∃ z_:Nat,(0 - (E+1)) % 4294967296=(z_:Int):=⟨((0 - (E+1)) % 4294967296).toNat,by omega⟩;obtain ⟨q3,hq3⟩:∃ z_:Nat,(0 - (E+1)) / 4294967296=(z_:Int):=⟨((0 - (E+1)) / 4294967296).toNat,by omega⟩;refine Je 1 [(1,.g (Op.rem (d:=19) (xt:=2) (yt:=2) (k:=.i64) (m:=(0 - (E+1))) (n:=4294967296) (r:=(q2:Int)) (OV.tmp 18 _) (OV.const (.int .i64 4294967296) rfl) (by decide) ((Int.tmod_eq_emod_of_nonneg (by omega)).trans hq2))),(2,.conv .i64 .u32 (m:=(q2:Int)) (u32_id (by omega) (by omega))),(4,.g (Op.quo (d:=22) (xt:=2) (yt:=2) (k:=.i64) (m:=(0 - (E+1))) (n:=4294967296) (r:=(q3:Int)) (OV.tmp 21 _) (OV.const (.int .i64 4294967296) rfl) (by decide) ((Int.tdiv_eq_ediv_of_nonneg (by omega)).trans hq3) i6)),(5,.conv .i64 .u32 (m:=(q3:Int)) (u32_id (by omega) (by omega))),(6,.g (Op.buildD (d:=24) (len:=2) (rows:=[[.raw (.int .u32 (q2:Nat))],[.raw (.int .u32 (q3:Nat))]]) (rs:=[(20,vi .u32 (q2:Int)),(23,vi .u32 (q3:Int))]) ib_10 (.cons (i:=0) (OV.tmp 20 _) (.cons (i:=1) (OV.tmp 23 _) (.nil))) (by kernel_rfl) rfl (by simp) (by decide) (by decide)))] [3] [(4,vn [q2,q3])] h fun a w h=>?_;obtain ⟨n2,en2,vn2,on2,ln2⟩:=mkN (v:=nV [q2,q3]+nV [1]) (m:=4) (nadd_lt (xs:=[q2,q3]) (ys:=[1]) (show Lb [q2,q3] from by intro z hz;simp at hz;omega) (show Lb [1] from by intro z hz;simp at hz;omega));obtain ⟨r3,er3,vr3,or3,lr3⟩:=mkZ (v:=iv true n2) (m:=n2.length) (zcz on2);refine Jd 1 [(1,.g (Op.buildD (d:=26) (len:=1) (rows:=[[.raw (.int .u32 (1:Nat))]]) (rs:=[]) ib_10 (.cons (i:=0) (OV.const (.int .u32 1) rfl) (.nil)) (by kernel_rfl) rfl (by simp) (by decide) (by decide))),(2,.call (Fn.cast (SRnAdd [q2,q3] [1] (show Lb [q2,q3] from by intro z hz;simp at hz;omega) (show Lb [1] from by intro z hz;simp at hz;omega) (by simp) (by simp)) (congrArg vn en2.symm)) ib_1),(3,.call (Fn.cast (zir true n2 on2 (by first | omega | simp)) (congrArg vz er3.symm)) ia_4)] [4] [] [(0,.box (zi r3))] h fun a w h=>qV (rA 0 (zi r3) h zef rfl (congrArg (fun z=>vz z) (er3.trans (congrArg ZI.of ?_))))
 (try simp only [zeu])
 (try simp only [zdg])
 (try rw [vn2])
 (try simp only [val_two] at *)
 (try simp only [val_one] at *)
 omega
theorem zcm:SlT Tryz.prog 24 81 3:=SlT.mk' Tryz.underlying24 (by kernel_rfl)
def zan:List za3->Int->Int
  | [],_=>0
  | p :: ps,v=>(if p.v=v/\0<=v then p.c.val else 0)+zan ps v
theorem zew (ps qs:List za3) (v:Int):zan (ps++qs) v=zan ps v+zan qs v:=by
 induction ps with
 | nil=>simp [zan]
 | cons p ps ih=>simp only [List.cons_append,zan,ih];omega
theorem zeo {ps:List za3} {j:Nat} {p:za3} (h:ps[j]?=some p) (v:Int):zan (ps.take (j+1)) v=zan (ps.take j) v+(if p.v=v/\0<=v then p.c.val else 0):=by
 have:ps.take (j+1)=ps.take j++[p]:=by rw [List.take_add_one,h];rfl
 rw [this,zew];simp [zan]
def PsOk (L:Nat) (ps:List za3):Prop:=ps.length<=1000/\∀ p ∈ ps,Lb p.c.abs/\p.c.abs.length<=L
theorem PsOk.take {L:Nat} {ps:List za3} (h:PsOk L ps) (j:Nat):PsOk L (ps.take j):=⟨by rw [List.length_take];have:=h.1;omega,fun p hp=>h.2 p (List.mem_of_mem_take hp)⟩
theorem PsOk.get {L:Nat} {ps:List za3} (h:PsOk L ps) {j:Nat} {p:za3} (hp:ps[j]?=some p):Lb p.c.abs/\p.c.abs.length<=L:=h.2 p (List.mem_of_getElem? hp)
theorem coefZ_lt {L:Nat}:∀ {ps:List za3}, (∀ p ∈ ps,Lb p.c.abs/\p.c.abs.length<=L)->∀ v,(zan ps v).natAbs<=ps.length*pw L
 | [],_,v=>by simp [zan]
 | p :: ps,h,v=>by
  have ih:=coefZ_lt (fun q hq=>h q (by simp [hq])) v (ps:=ps)
  obtain ⟨h1,h2⟩:=h p (by simp)
  have h3:=ZI.abs_lt h1
  have h4:=zds h2
  simp only [zan,List.length_cons,Nat.add_mul]
  split <;> omega
theorem zg0 {L:Nat} {ps:List za3} (h:PsOk L ps) (v:Int):(ZI.of (zan ps v)).abs.length<=L+1:=by
 refine ZI.len_of ?_
 have h1:=coefZ_lt h.2 v
 have h2:ps.length*pw L<=1000*pw L:=Nat.mul_le_mul_right _ h.1
 have h3:=zeq L
 rw [zas]
 omega
theorem SCoef (t:zal) (v:Int) (ht:PsOk 40000 t.parts):Fn Tryz.prog 80 [] [(vT t),vI v] (vz (ZI.of (zan t.parts v))) []:=by
 refine Fn.body Tryz.func80 rfl 36 rfl fun w H B a h=>Jq 0 [] [(1,vI v),(2,vp 0 0),(4,vp 1 0)] [(0,.box (zT t)),(1,.box [cB false,.d (nsl [])])] h fun a w h=>Jd 2 [] [] [(5,vp 2 0)] [(0,.box (zT t)),(1,.box [cB false,.d (nsl [])]),(2,.box [cB false,.d (nsl [])])] h fun a w h=>qW (Je 3 [] [] [(6,vI 0)] h fun a w h=>qZ ?_)
 refine zap (ι:=(Nat) × (ZI)) (fun (j,out)=>out=ZI.of (zan (t.parts.take j) v)/\j<=t.parts.length)
   (fun (j,out)=>[(1,vI v),(2,vp 0 0),(4,vp 1 0),(5,vp 2 0),(6,vN j)])
   (fun (j,out)=>[(0,.box (zT t)),(1,.box [cB false,.d (nsl [])]),(2,.box (zi out))])
   (fun (j,out)=>t.parts.length - j) (0,(ZI.of 0)) ?_ h (by kernel_rfl) (by kernel_rfl) ?_
 ·exact ⟨by simp [zan],Nat.zero_le _⟩
 clear h;rintro ⟨j,out⟩ a w hI h;dsimp only at h;obtain ⟨hI1,hI2⟩:=hI;have ln:=ht.1;have lo:out.abs.length<=40001:=by rw [hI1];exact zg0 (ht.take j) v
 have ho:Lb out.abs:=by rw [hI1];exact ZI.lb_of _
 have vo:out.val=zan (t.parts.take j) v:=by rw [hI1];exact ZI.val_of _
 refine qW (Je 3 [(3,.len (za7 3 za3.d t.parts))] [] [(12,vb (decide ((j:Int)<(t.parts.length:Int))))] h fun a w h=>zam ((j:Int)<(t.parts.length:Int)) h (fun hc1 hc1'=>?_) (fun hc6 hc6'=>?_))
 ·refine qU (za1 (qW (qZ ?_)));obtain ⟨x1,hx1⟩:=gl t.parts j;obtain ⟨ox1,lx1⟩:=ht.get hx1
  rcases Bool.eq_false_or_eq_true (x1.v == v) with hc2 | hc5
  ·have hc2':=hc2;(try simp at hc2');refine Je 3 [(3,.g (xD 18 16 zcm (zab hx1 (f:=za3.d)) (OV.tmp 17 _))),(7,.cmp (op:=.eql) (m:=x1.v) (n:=v) (b:=true) .i64 hc2)] [12] [(26,vb (decide (v>=0)))] h fun a w h=>zam (v>=0) h (fun hc3 hc3'=>?_) (fun hc4 hc4'=>?_)
   ·obtain ⟨r2,er2,vr2,or2,lr2⟩:=mkZ (v:=out.val+x1.c.val) (m:=out.abs.length+x1.c.abs.length+1) (zdw ho ox1);refine Jm 3 [(4,.g (xD 31 29 zcm (zab hx1 (f:=za3.d)) (OV.tmp 30 _))),(7,.call (Fn.cast (SRAdd out x1.c ho ox1 (by omega) (by omega)) (congrArg vz er2.symm)) ib_5)] [26] [] [(0,.box (zT t)),(1,.box [cB false,.d (nsl [])]),(2,.box (zi r2))] h fun a w h=>za8 (za1 (Jf 3 [(1,.j1 j)] [] [(6,vI ((j:Int)+1))] h fun a w h=>za1 (zag (x:=(j,out)) (y:=(j+1,r2)) h ?_ ?_)))
    ·have hc:x1.v=v/\0<=v:=⟨by simpa using hc2,by have:=hc3';omega⟩;exact ⟨by rw [er2,vo,zeo hx1,if_pos hc],by have:=(List.getElem?_eq_some_iff.1 hx1).1;omega⟩
    (try simp);omega
   refine qU (za8 (za1 (Jf 3 [(1,.j1 j)] [26] [(6,vI ((j:Int)+1))] h fun a w h=>za1 (zag (x:=(j,out)) (y:=(j+1,out)) h ?_ ?_))))
   ·exact ⟨by rw [hI1,zeo hx1,if_neg (fun hc=>absurd hc.2 (by have:=hc4';omega)),Int.add_zero],by have:=(List.getElem?_eq_some_iff.1 hx1).1;omega⟩
   (try simp);omega
  have hc5':=hc5;(try simp at hc5');refine Je 3 [(3,.g (xD 18 16 zcm (zab hx1 (f:=za3.d)) (OV.tmp 17 _))),(7,.cmp (op:=.eql) (m:=x1.v) (n:=v) (b:=false) .i64 hc5)] [12] [(26,vb false)] h fun a w h=>zax false h rfl nofun (fun _=>qU (za8 (za1 (Jf 3 [(1,.j1 j)] [26] [(6,vI ((j:Int)+1))] h fun a w h=>za1 (zag (x:=(j,out)) (y:=(j+1,out)) h ?_ ?_)))))
  ·exact ⟨by rw [hI1,zeo hx1,if_neg (fun hc=>absurd hc.1 (by simpa using hc5)),Int.add_zero],by have:=(List.getElem?_eq_some_iff.1 hx1).1;omega⟩
  (try simp);omega
 refine wp_exit (za9 (za9 (za5 (za1 (Jq 3 [] [(4,vp 1 0)] [(1,.box (zi out))] h fun a w h=>qV (rA 1 (zi out) h zef rfl ?_))))));have hj:j=t.parts.length:=by have:=hc6';omega
 subst hj;rw [hI1,List.take_length];try rfl
theorem tb_0:ElZ Tryz.prog 40 3 1:=ElZ.mk' Tryz.underlying40 _ _ rfl rfl (by kernel_rfl) (by kernel_rfl) (by kernel_rfl) (by decide)
theorem zi5:SlT Tryz.prog 40 3 1:=SlT.mk' Tryz.underlying40 (by kernel_rfl)
theorem tb_2:ElT Tryz.prog 40 3 1 8:=ElT.mk' Tryz.underlying40 _ _ rfl rfl (by kernel_rfl) (by kernel_rfl) (by kernel_rfl) (by decide) (by decide)
theorem tb_4:za4 Tryz.prog 80:=za4.mk' (by kernel_rfl)
theorem tb_6:za4 Tryz.prog 63:=za4.mk' (by kernel_rfl)
theorem tb_7:za4 Tryz.prog 60:=za4.mk' (by kernel_rfl)
theorem tb_8:za4 Tryz.prog 61:=za4.mk' (by kernel_rfl)
theorem tb_9:ElZ Tryz.prog 24 81 3:=ElZ.mk' Tryz.underlying24 _ _ rfl rfl (by kernel_rfl) (by kernel_rfl) (by kernel_rfl) (by decide)
theorem ziy:ElT Tryz.prog 24 81 3 40:=ElT.mk' Tryz.underlying24 _ _ rfl rfl (by kernel_rfl) (by kernel_rfl) (by kernel_rfl) (by decide) (by decide)
theorem zft:Sz Tryz.prog 30 3 true:=Sz.mk' (by kernel_rfl) Tryz.underlying30 _ rfl
theorem zbx {α β:Type} {xs:List α} {j:Nat} {x:α} (h:xs[j]?=some x) (f:β->α->β) (b:β):(xs.take (j+1)).foldl f b=f ((xs.take j).foldl f b) x:=by
 have:xs.take (j+1)=xs.take j++[x]:=by rw [List.take_add_one,h];rfl
 rw [this,List.foldl_append];rfl
theorem zak {α:Type} {xs:List α} {j:Nat} {x:α} (h:xs[j]?=some x):j<xs.length:=(List.getElem?_eq_some_iff.1 h).1
def zbm (v:Int) (s:List Int × Bool) (x:Int):List Int × Bool :=
  let s1:=if s.2=false/\v<=x then (s.1++[v],true) else s
  if x≠v then (s1.1++[x],s1.2) else s1
def zee (list:List Int) (v:Int):List Int :=
  let r:=list.foldl (zbm v) ([],false)
  if r.2 then r.1 else r.1++[v]
theorem SInsert (list:List Int) (v:Int) (hl:list.length<=1000000):Fn Tryz.prog 63 [] [.t (.c (.d (.sl 1 (list.map zai)))),vI v] (.t (.c (.d (.sl 1 ((zee list v).map zai))))) []:=by
 refine Fn.body Tryz.func63 rfl 49 rfl fun w H B a h=>Jq 0 [] [(0,.t (.c (.d (.sl 1 (list.map zai))))),(1,vI v),(4,.t (.c (.d (.raw zad))))] [] h fun a w h=>Jd 0 [(0,.g (Op.buildE (d:=8) (n:=0) tb_0))] [] [(5,.t (.c (.own 0 0)))] [(0,.row 3 1 ([].map zai))] h fun a w h=>Je 1 [] [] [(6,vb false)] h fun a w h=>qW (Je 1 [] [] [(7,vI 0)] h fun a w h=>qZ ?_)
 refine zap (ι:=(Nat) × (List Int) × (Bool)) (fun (j,out,done)=>(out,done)=(list.take j).foldl (zbm v) ([],false)/\j<=list.length/\out.length<=2*j)
   (fun (j,out,done)=>[(0,.t (.c (.d (.sl 1 (list.map zai))))),(1,vI v),(4,.t (.c (.d (.raw zad)))),(5,.t (.c (.own 0 out.length))),(6,vb done),(7,vN j)])
   (fun (j,out,done)=>[(0,.row 3 1 (out.map zai))])
   (fun (j,out,done)=>list.length - j) (0,[],false) ?_ h (by kernel_rfl) (by kernel_rfl) ?_
 ·exact ⟨by simp,Nat.zero_le _,Nat.zero_le _⟩
 clear h;rintro ⟨j,out,done⟩ a w hI h;dsimp only at h;obtain ⟨hI1,hI2,hI3⟩:=hI;refine qW (Je 1 [(2,.len (za7 1 zai list))] [] [(12,vb (decide ((j:Int)<(list.length:Int))))] h fun a w h=>zam ((j:Int)<(list.length:Int)) h (fun hc1 hc1'=>?_) (fun hc12 hc12'=>?_))
 ·refine qU (za1 (qW (qZ (qW ?_))))
  rcases Bool.eq_false_or_eq_true done with hc2 | hc5
  ·rw [hc2] at h;refine Jq 1 [] [(0,.t (.c (.d (.sl 1 (list.map zai))))),(1,vI v),(4,.t (.c (.d (.raw zad)))),(5,.t (.c (.own 0 out.length))),(6,vb true),(7,vN j),(24,vb false)] [(0,.row 3 1 (out.map zai))] h fun a w h=>zax false h rfl nofun (fun _=>qU (za1 ?_))
   obtain ⟨x1,hx1⟩:=gl list j;refine Je 1 [(2,.g (xD 31 29 zi5 (zab hx1 (f:=zai)) (OV.tmp 30 _)))] [24] [(34,vb (x1 != v))] h fun a w h=>cS (x1 != v) h (fun hc3=>?_) (fun hc4=>?_)
   ·have hc3':=hc3;(try simp at hc3');refine Jm 1 [(3,.g (xD 38 36 zi5 (zab hx1 (f:=zai)) (OV.tmp 37 _))),(5,.g (bD 40 ([x1].map zai) [(39,vI x1)] tb_0 (.cons (i:=0) (OV.tmp 39 _) (.nil)) (by kernel_rfl) (by simp [zai]))),(6,.g (aD 41 35 40 0 1 out [x1] zai tb_2 (by simp [zai])))] [34] [(5,.t (.c (.own 1 (out++[x1]).length)))] [(1,.row 3 1 ((out++[x1]).map zai))] h fun a w h=>za8 (za1 (Jf 2 [(1,.j1 j)] [] [(7,vI ((j:Int)+1))] h fun a w h=>za1 ?_));replace h:=ze3 1 0 [(0,.t (.c (.d (.sl 1 (list.map zai))))),(1,vI v),(4,.t (.c (.d (.raw zad)))),(5,.t (.c (.own 0 (out++[x1]).length))),(6,vb true),(7,vI ((j:Int)+1))] [(0,.row 3 1 ((out++[x1]).map zai))] h;refine zag (x:=(j,out,done)) (y:=(j+1,(out++[x1]),true)) h ?_ ?_
    ·refine ⟨?_,by have:=zak hx1;omega,by first | omega | (simp;omega)⟩;rw [zbx hx1,<- hI1];clear h hI1;simp [zbm, *]
     try omega
    (try simp);omega
   have hc4':=hc4;(try simp at hc4');refine qU (za8 (za1 (Jf 2 [(1,.j1 j)] [34] [(7,vI ((j:Int)+1))] h fun a w h=>za1 (zag (x:=(j,out,done)) (y:=(j+1,out,true)) h ?_ ?_))))
   ·refine ⟨?_,by have:=zak hx1;omega,by first | omega | (simp;omega)⟩;rw [zbx hx1,<- hI1];clear h hI1;simp [zbm, *]
    try omega
   (try simp);omega
  rw [hc5] at h;obtain ⟨x2,hx2⟩:=gl list j;refine Jq 2 [(5,.g (xD 20 18 zi5 (zab hx2 (f:=zai)) (OV.tmp 19 _)))] [(0,.t (.c (.d (.sl 1 (list.map zai))))),(1,vI v),(4,.t (.c (.d (.raw zad)))),(5,.t (.c (.own 0 out.length))),(6,vb false),(7,vN j),(24,vb (decide (x2>=v)))] [(0,.row 3 1 (out.map zai))] h fun a w h=>zam (x2>=v) h (fun hc6 hc6'=>?_) (fun hc9 hc9'=>?_)
  ·refine Jd 2 [(2,.g (bD 27 ([v].map zai) [(26,vI v)] tb_0 (.cons (i:=0) (OV.tmp 26 _) (.nil)) (by kernel_rfl) (by simp [zai]))),(3,.g (aD 28 25 27 0 2 out [v] zai tb_2 (by simp [zai])))] [24] [(5,.t (.c (.own 2 (out++[v]).length)))] [(2,.row 3 1 ((out++[v]).map zai))] h fun a w h=>Jf 3 [] [] [(6,vb true)] h fun a w h=>za1 (Je 3 [(2,.g (xD 31 29 zi5 (zab hx2 (f:=zai)) (OV.tmp 30 _)))] [] [(34,vb (x2 != v))] h fun a w h=>cS (x2 != v) h (fun hc7=>?_) (fun hc8=>?_))
   ·have hc7':=hc7;(try simp at hc7');refine Jm 3 [(3,.g (xD 38 36 zi5 (zab hx2 (f:=zai)) (OV.tmp 37 _))),(5,.g (bD 40 ([x2].map zai) [(39,vI x2)] tb_0 (.cons (i:=0) (OV.tmp 39 _) (.nil)) (by kernel_rfl) (by simp [zai]))),(6,.g (aD 41 35 40 2 3 (out++[v]) [x2] zai tb_2 (by simp [zai])))] [34] [(5,.t (.c (.own 3 ((out++[v])++[x2]).length)))] [(3,.row 3 1 (((out++[v])++[x2]).map zai))] h fun a w h=>za8 (za1 (Jf 4 [(1,.j1 j)] [] [(7,vI ((j:Int)+1))] h fun a w h=>za1 ?_));replace h:=ze3 3 0 [(0,.t (.c (.d (.sl 1 (list.map zai))))),(1,vI v),(4,.t (.c (.d (.raw zad)))),(5,.t (.c (.own 0 ((out++[v])++[x2]).length))),(6,vb true),(7,vI ((j:Int)+1))] [(0,.row 3 1 (((out++[v])++[x2]).map zai))] h;refine zag (x:=(j,out,done)) (y:=(j+1,((out++[v])++[x2]),true)) h ?_ ?_
    ·refine ⟨?_,by have:=zak hx2;omega,by first | omega | (simp;omega)⟩;rw [zbx hx2,<- hI1];clear h hI1;simp [zbm, *]
     try omega
    (try simp);omega
   have hc8':=hc8;(try simp at hc8');refine qU (za8 (za1 (Jf 4 [(1,.j1 j)] [34] [(7,vI ((j:Int)+1))] h fun a w h=>za1 ?_)));replace h:=ze3 2 0 [(0,.t (.c (.d (.sl 1 (list.map zai))))),(1,vI v),(4,.t (.c (.d (.raw zad)))),(5,.t (.c (.own 0 (out++[v]).length))),(6,vb true),(7,vI ((j:Int)+1))] [(0,.row 3 1 ((out++[v]).map zai))] h;refine zag (x:=(j,out,done)) (y:=(j+1,(out++[v]),true)) h ?_ ?_
   ·refine ⟨?_,by have:=zak hx2;omega,by first | omega | (simp;omega)⟩;rw [zbx hx2,<- hI1];clear h hI1;simp [zbm, *]
    try omega
   (try simp);omega
  refine qU (za1 (Je 4 [(2,.g (xD 31 29 zi5 (zab hx2 (f:=zai)) (OV.tmp 30 _)))] [24] [(34,vb (x2 != v))] h fun a w h=>cS (x2 != v) h (fun hc10=>?_) (fun hc11=>?_)))
  ·have hc10':=hc10;(try simp at hc10');refine Jm 4 [(3,.g (xD 38 36 zi5 (zab hx2 (f:=zai)) (OV.tmp 37 _))),(5,.g (bD 40 ([x2].map zai) [(39,vI x2)] tb_0 (.cons (i:=0) (OV.tmp 39 _) (.nil)) (by kernel_rfl) (by simp [zai]))),(6,.g (aD 41 35 40 0 4 out [x2] zai tb_2 (by simp [zai])))] [34] [(5,.t (.c (.own 4 (out++[x2]).length)))] [(4,.row 3 1 ((out++[x2]).map zai))] h fun a w h=>za8 (za1 (Jf 5 [(1,.j1 j)] [] [(7,vI ((j:Int)+1))] h fun a w h=>za1 ?_));replace h:=ze3 4 0 [(0,.t (.c (.d (.sl 1 (list.map zai))))),(1,vI v),(4,.t (.c (.d (.raw zad)))),(5,.t (.c (.own 0 (out++[x2]).length))),(6,vb false),(7,vI ((j:Int)+1))] [(0,.row 3 1 ((out++[x2]).map zai))] h;refine zag (x:=(j,out,done)) (y:=(j+1,(out++[x2]),false)) h ?_ ?_
   ·refine ⟨?_,by have:=zak hx2;omega,by first | omega | (simp;omega)⟩;rw [zbx hx2,<- hI1];clear h hI1;simp [zbm, *]
    try omega
   (try simp);omega
  have hc11':=hc11;(try simp at hc11');refine qU (za8 (za1 (Jf 5 [(1,.j1 j)] [34] [(7,vI ((j:Int)+1))] h fun a w h=>za1 (zag (x:=(j,out,done)) (y:=(j+1,out,false)) h ?_ ?_))))
  ·refine ⟨?_,by have:=zak hx2;omega,by first | omega | (simp;omega)⟩;rw [zbx hx2,<- hI1];clear h hI1;simp [zbm, *]
   try omega
  (try simp);omega
 refine wp_exit (za9 (za9 (za5 (za1 (qW (Je 5 [] [0,6,7,12] [(43,vb (!done))] h fun a w h=>cS (!done) h (fun hc13=>?_) (fun hc14=>?_)))))))
 ·have hc13':=hc13;(try simp at hc13');refine Jm 5 [(2,.g (bD 46 ([v].map zai) [(45,vI v)] tb_0 (.cons (i:=0) (OV.tmp 45 _) (.nil)) (by kernel_rfl) (by simp [zai]))),(3,.g (aD 47 44 46 0 5 out [v] zai tb_2 (by simp [zai])))] [1,43] [(5,.t (.c (.own 5 (out++[v]).length)))] [(5,.row 3 1 ((out++[v]).map zai))] h fun a w h=>za1 (Jp 6 [] [(4,.t (.c (.own 5 (out++[v]).length)))] h fun a w h=>qV ?_);replace h:=zi0 5 1 3 ((out++[v]).map zai) [(4,.t (.c (.d (.sl 1 ((out++[v]).map zai)))))] [] h rfl (show zbw _ [(out++[v]).length] from ⟨by first | exact (List.length_map _).symm | simp,trivial⟩) trivial;refine rT (.c (.d (.sl 1 ((out++[v]).map zai)))) h rfl ?_;have hj:j=list.length:=by have:=hc12';omega
  subst hj;rw [List.take_length] at hI1;have hz:zee list v=(out++[v]):=by unfold zee;rw [<- hI1];clear h hI1;simp [*]
  rw [hz];try rfl
 have hc14':=hc14;(try simp at hc14');refine qU (za1 (Jp 6 [] [(4,.t (.c (.own 0 out.length)))] h fun a w h=>qV ?_));replace h:=zi0 0 1 3 (out.map zai) [(4,.t (.c (.d (.sl 1 (out.map zai)))))] [] h rfl (show zbw _ [out.length] from ⟨by first | exact (List.length_map _).symm | simp,trivial⟩) trivial;refine rT (.c (.d (.sl 1 (out.map zai)))) h rfl ?_;have hj:j=list.length:=by have:=hc12';omega
 subst hj;rw [List.take_length] at hI1;have hz:zee list v=out:=by unfold zee;rw [<- hI1];clear h hI1;simp [*]
 rw [hz];try rfl
theorem insStep_len (v:Int) (s:List Int × Bool) (x:Int):(zbm v s x).1.length+s.2.toNat<=s.1.length+1+(zbm v s x).2.toNat:=by
 obtain ⟨l,b⟩:=s
 unfold zbm
 cases b <;> by_cases h1:v<=x <;> by_cases h2:x=v <;> simp [h1,h2]
theorem insFold_len (v:Int):∀ (list:List Int) (s:List Int × Bool),(list.foldl (zbm v) s).1.length+s.2.toNat<=s.1.length+list.length+(list.foldl (zbm v) s).2.toNat
 | [],s=>by simp
 | x :: xs,s=>by
  have ih:=insFold_len v xs (zbm v s x)
  have h1:=insStep_len v s x
  simp only [List.foldl_cons,List.length_cons]
  omega
theorem zkv (list:List Int) (v:Int):(zee list v).length<=list.length+1:=by
 have h:=insFold_len v list ([],false)
 unfold zee
 cases hr:(list.foldl (zbm v) ([],false)).2 <;> simp [hr] at h ⊢ <;> omega
def zdd (ps:List za3) (out:List Int) (p:za3):List Int:=if zan ps p.v≠0 then zee out p.v else out
def zc9 (ps:List za3):List Int:=ps.foldl (zdd ps) []
def za2 (t:zal):zal:=⟨(zc9 t.parts).map fun v=>⟨v,ZI.of (zan t.parts v)⟩,ZI.of t.k.val⟩
theorem sgn_ne {z:Int} (h:(sgn z != 0)=true):z≠0:=fun e=>by rw [zf5 e] at h;cases h
theorem sgn_eq {z:Int} (h:(sgn z != 0)=false):z=0:=zht.1 (by simpa using h)
theorem SVars (t:zal) (ht:PsOk 40000 t.parts):Fn Tryz.prog 61 [] [(vT t)] (vIs (zc9 t.parts)) []:=by
 refine Fn.body Tryz.func61 rfl 29 rfl fun w H B a h=>Jq 0 [] [(1,vp 0 0),(2,vW zad)] [(0,.box (zT t))] h fun a w h=>Je 1 [(0,.g (Op.buildED (d:=6) tb_0))] [] [(3,(vIs []))] h fun a w h=>qW (Je 1 [] [] [(4,vI 0)] h fun a w h=>qZ ?_)
 refine zap (ι:=(Nat) × (List Int)) (fun (j,out)=>out=(t.parts.take j).foldl (zdd t.parts) []/\j<=t.parts.length/\out.length<=j)
   (fun (j,out)=>[(1,vp 0 0),(2,vW zad),(3,(vIs out)),(4,vN j)])
   (fun (j,out)=>[(0,.box (zT t))])
   (fun (j,out)=>t.parts.length - j) (0,[]) ?_ h (by kernel_rfl) (by kernel_rfl) ?_
 ·exact ⟨by simp,Nat.zero_le _,Nat.zero_le _⟩
 clear h;rintro ⟨j,out⟩ a w hI h;dsimp only at h;obtain ⟨hI1,hI2,hI3⟩:=hI;have ln:=ht.1;refine qW (Je 1 [(3,.len (za7 3 za3.d t.parts))] [] [(11,vb (decide ((j:Int)<(t.parts.length:Int))))] h fun a w h=>zam ((j:Int)<(t.parts.length:Int)) h (fun hc1 hc1'=>?_) (fun hc4 hc4'=>?_))
 ·refine qU (za1 (qW (qZ ?_)));obtain ⟨x1,hx1⟩:=gl t.parts j;refine Je 1 [(3,.g (xD 17 15 zcm (zab hx1 (f:=za3.d)) (OV.tmp 16 _)))] [11] [(5,vI x1.v)] h fun a w h=>?_;obtain ⟨r2,er2,vr2,or2,lr2⟩:=mkZ (v:=zan t.parts x1.v) (m:=40001) (zg0 ht x1.v);refine Je 1 [(2,.call (Fn.cast (SCoef t x1.v ht) (congrArg vz er2.symm)) tb_4),(3,.call (zdj r2 or2 (by omega)) ib_0)] [] [(24,vb (sgn r2.val != 0))] h fun a w h=>cS (sgn r2.val != 0) h (fun hc2=>?_) (fun hc3=>?_)
  ·have hc2':=hc2;(try simp at hc2');refine Jf 1 [(2,.call (SInsert out x1.v (by omega)) tb_6)] [5,24] [(3,(vIs (zee out x1.v)))] h fun a w h=>za8 (za1 (Jf 1 [(1,.j1 j)] [] [(4,vI ((j:Int)+1))] h fun a w h=>za1 (zag (x:=(j,out)) (y:=(j+1,(zee out x1.v))) h ?_ ?_)))
   ·refine ⟨?_,by have:=zak hx1;omega,by first | omega | (have:=zkv out x1.v;omega)⟩;rw [zbx hx1,<- hI1];unfold zdd;have hz:=sgn_ne hc2;rw [vr2] at hz;rw [if_pos hz]
   (try simp);omega
  have hc3':=hc3;(try simp at hc3');refine qU (za8 (za1 (Jf 1 [(1,.j1 j)] [5,24] [(4,vI ((j:Int)+1))] h fun a w h=>za1 (zag (x:=(j,out)) (y:=(j+1,out)) h ?_ ?_))))
  ·refine ⟨?_,by have:=zak hx1;omega,by first | omega | (have:=zkv out x1.v;omega)⟩;rw [zbx hx1,<- hI1];unfold zdd;have hz:=sgn_eq hc3;rw [vr2] at hz;rw [if_neg (fun h=>h hz)]
  (try simp);omega
 refine wp_exit (za9 (za9 (za5 (za1 (Jq 1 [] [(2,(vIs out))] [] h fun a w h=>qV (rT (.c (cIs out)) h rfl ?_))))));have hj:j=t.parts.length:=by have:=hc4';omega
 subst hj;rw [hI1,List.take_length];try rfl
theorem zjq (qs:List za3):∀ (ps:List za3) (out:List Int),(ps.foldl (zdd qs) out).length<=out.length+ps.length
 | [],out=>by simp
 | p :: ps,out=>by
  have ih:=zjq qs ps (zdd qs out p)
  have h1:(zdd qs out p).length<=out.length+1:=by
   unfold zdd
   split
   ·exact zkv out p.v
   ·omega
  simp only [List.foldl_cons,List.length_cons]
  omega
theorem zi1 (ps:List za3):(zc9 ps).length<=ps.length:=by have h:=zjq ps ps [];simp at h;exact h
theorem take_map {α β:Type} {xs:List α} {j:Nat} {x:α} (h:xs[j]?=some x) (f:α->β):(xs.take (j+1)).map f=(xs.take j).map f++[f x]:=by
 rw [List.take_add_one,h,List.map_append];rfl
theorem SRPlain (t:zal) (ht:PsOk 40000 t.parts) (hk:Lb t.k.abs) (lk:t.k.abs.length<=40000):Fn Tryz.prog 66 [] [(vT t)] (vd (za2 t).d) []:=by
 refine Fn.body Tryz.func66 rfl 35 rfl fun w H B a h=>Jq 0 [] [(1,vp 0 0),(2,vp 1 0)] [(0,.box (zT t)),(1,.box zT0)] h fun a w h=>?_
 obtain ⟨r1,er1,vr1,or1,lr1⟩:=mkZ (v:=t.k.val) (m:=t.k.abs.length) (zcf hk);refine Jd 2 [(2,.call (Fn.cast (zjo t.k hk (by omega)) (congrArg vz er1.symm)) tb_7)] [] [(3,vp 2 0)] [(0,.box (zT t)),(1,.box zT0),(2,.box ([.d (.raw zad)]++zi r1))] h fun a w h=>Je 3 [(1,.call (SVars t ht) tb_8)] [] [(4,(vIs (zc9 t.parts)))] h fun a w h=>qW ?_;replace h:=zg6 2 0 3 3 81 ([.d (.raw zad)]++zi r1) [(1,vp 0 0),(2,vp 1 0),(3,vp 2 0),(4,(vIs (zc9 t.parts)))] [(0,.box (zT t)),(1,.box zT0),(2,.box ([.own 3 0]++zi r1)),(3,.row 81 3 ([].map za3.d))] h (by kernel_rfl) rfl rfl;refine Je 4 [] [] [(5,vI 0)] h fun a w h=>qZ ?_
 refine zap (ι:=(Nat) × (List za3)) (fun (j,out)=>out=((zc9 t.parts).take j).map (fun v=>za3.mk v (ZI.of (zan t.parts v)))/\j<=(zc9 t.parts).length/\out.length<=j)
   (fun (j,out)=>[(1,vp 0 0),(2,vp 1 0),(3,vp 2 0),(4,(vIs (zc9 t.parts))),(5,vN j)])
   (fun (j,out)=>[(0,.box (zT t)),(1,.box zT0),(2,.box ([.own 3 out.length]++zi r1)),(3,.row 81 3 (out.map za3.d))])
   (fun (j,out)=>(zc9 t.parts).length - j) (0,[]) ?_ h (by kernel_rfl) (by kernel_rfl) ?_
 ·exact ⟨by simp,Nat.zero_le _,Nat.zero_le _⟩
 clear h;rintro ⟨j,out⟩ a w hI h;dsimp only at h;obtain ⟨hI1,hI2,hI3⟩:=hI;have ln:=ht.1;have lv:=zi1 t.parts;refine qW (Je 4 [(2,.len (za7 1 zai (zc9 t.parts)))] [] [(15,vb (decide ((j:Int)<((zc9 t.parts).length:Int))))] h fun a w h=>zam ((j:Int)<((zc9 t.parts).length:Int)) h (fun hc1 hc1'=>?_) (fun hc2 hc2'=>?_))
 ·refine qU (za1 (qW (qZ ?_)));obtain ⟨x3,hx3⟩:=gl (zc9 t.parts) j;obtain ⟨r4,er4,vr4,or4,lr4⟩:=mkZ (v:=zan t.parts x3) (m:=40001) (zg0 ht x3);refine Jm 4 [(4,.g (xD 22 20 zi5 (zab hx3 (f:=zai)) (OV.tmp 21 _))),(9,.g (xD 27 25 zi5 (zab hx3 (f:=zai)) (OV.tmp 26 _))),(11,.call (Fn.cast (SCoef t x3 ht) (congrArg vz er4.symm)) tb_4),(13,.g (bD 31 ([(za3.mk x3 r4)].map za3.d) [(30,vG ([cI x3]++zi r4))] tb_9 (.cons (i:=0) (OV.tmp 30 _) (.nil)) (by kernel_rfl) (by simp [za3.d]))),(14,.g (aD 32 19 31 3 4 out [(za3.mk x3 r4)] za3.d ziy (by simp [za3.d])))] [15] [] [(0,.box (zT t)),(1,.box zT0),(2,.box ([.own 4 (out++[(za3.mk x3 r4)]).length]++zi r1)),(4,.row 81 3 ((out++[(za3.mk x3 r4)]).map za3.d))] h fun a w h=>za8 (za1 (Jf 5 [(1,.j1 j)] [] [(5,vI ((j:Int)+1))] h fun a w h=>za1 ?_));replace h:=ze3 4 3 [(1,vp 0 0),(2,vp 1 0),(3,vp 2 0),(4,(vIs (zc9 t.parts))),(5,vI ((j:Int)+1))] [(0,.box (zT t)),(1,.box zT0),(2,.box ([.own 3 (out++[(za3.mk x3 r4)]).length]++zi r1)),(3,.row 81 3 ((out++[(za3.mk x3 r4)]).map za3.d))] h;refine zag (x:=(j,out)) (y:=(j+1,(out++[(za3.mk x3 r4)]))) h ?_ ?_
  ·refine ⟨?_,by have:=zak hx3;omega,by simp;omega⟩;rw [take_map hx3,<- hI1,er4]
  (try simp);omega
 refine wp_exit (za9 (za9 (za5 (za1 (Jq 5 [] [(2,vp 1 0)] [(1,.box ([.own 3 out.length]++zi r1)),(3,.row 81 3 (out.map za3.d))] h fun a w h=>qV ?_)))));replace h:=zi0 3 3 81 (out.map za3.d) [(2,vp 1 0)] [(1,.box ([cPs out]++zi r1))] h rfl trivial (show zbw _ [out.length] from ⟨by first | exact (List.length_map _).symm | simp,trivial⟩);refine rA 1 ([cPs out]++zi r1) h zft rfl ?_;have hj:j=(zc9 t.parts).length:=by have:=hc2';omega
 subst hj;rw [hI1,List.take_length,er1];try rfl
theorem tc_0:za4 Tryz.prog 31:=za4.mk' (by kernel_rfl)
theorem tc_2:za4 Tryz.prog 66:=za4.mk' (by kernel_rfl)
/-- terms of at most n parts, of at most L limbs -/
structure TOk (n L:Nat) (t:zal):Prop where
  len:t.parts.length<=n
  ps:∀ p ∈ t.parts,Lb p.c.abs/\p.c.abs.length<=L
  kb:Lb t.k.abs
  kl:t.k.abs.length<=L
theorem TOk.mono {n L n' L':Nat} {t:zal} (h:TOk n L t) (hn:n<=n') (hL:L<=L'):TOk n' L' t :=
 ⟨Nat.le_trans h.len hn,fun p hp=>⟨(h.ps p hp).1,Nat.le_trans (h.ps p hp).2 hL⟩,h.kb,Nat.le_trans h.kl hL⟩
theorem TOk.psok {L:Nat} {t:zal} (h:TOk 1000 L t):PsOk L t.parts:=⟨h.len,h.ps⟩
theorem TOk.get {n L:Nat} {t:zal} (h:TOk n L t) {j:Nat} {p:za3} (hp:t.parts[j]?=some p):Lb p.c.abs/\p.c.abs.length<=L:=h.ps p (List.mem_of_getElem? hp)
theorem TOk.plain {n L:Nat} {t:zal} (h:TOk n L t) (hn:n<=1000):TOk n (L+1) (za2 t):=by
 refine ⟨?_,?_,ZI.lb_of _,?_⟩
 ·simp only [za2,List.length_map];exact Nat.le_trans (zi1 _) h.len
 ·intro p hp
  simp only [za2,List.mem_map] at hp
  obtain ⟨v,_,rfl⟩:=hp
  exact ⟨ZI.lb_of _,zg0 (L:=L) ⟨Nat.le_trans h.len hn,h.ps⟩ v⟩
 ·have:=zcf h.kb;simp only [za2];have:=h.kl;omega
def zjl (a b:zal):zal:=za2 ⟨a.parts++b.parts,ZI.of (a.k.val+b.k.val)⟩
def mulT (a:zal) (n:ZI):zal:=⟨a.parts.map fun p=>⟨p.v,ZI.of (p.c.val*n.val)⟩,ZI.of (a.k.val*n.val)⟩
def zbj (a:zal) (n:ZI):zal:=za2 (mulT a n)
def zcj (k:ZI):zal:=⟨[],ZI.of k.val⟩
def oneT (v:Int):zal:=⟨[⟨v,ZI.of 1⟩],⟨false,[]⟩⟩
def zej (v:Int):zal:=za2 (oneT v)
theorem SRPlain' (t:zal) {n L:Nat} (h:TOk n L t) (hn:n<=1000) (hL:L<=40000):Fn Tryz.prog 66 [] [vd t.d] (vd (za2 t).d) [] :=
 have h':=h.mono hn hL
 SRPlain t h'.psok h'.kb h'.kl
theorem TOk.add {n m L:Nat} {s t:zal} (hs:TOk n L s) (ht:TOk m L t) (r:ZI) (hr:Lb r.abs) (lr:r.abs.length<=L+L+1):TOk (n+m) (L+L+1) ⟨s.parts++t.parts,r⟩:=by
 refine ⟨?_,?_,hr,lr⟩
 ·simp only [List.length_append];have:=hs.len;have:=ht.len;omega
 ·intro p hp
  rcases List.mem_append.1 hp with h | h
  ·exact ⟨(hs.ps p h).1,by have:=(hs.ps p h).2;omega⟩
  ·exact ⟨(ht.ps p h).1,by have:=(ht.ps p h).2;omega⟩
theorem TOk.num {L:Nat} {k:ZI} (hk:Lb k.abs) (lk:k.abs.length<=L):TOk 0 L ⟨[],k⟩:=⟨Nat.le_refl _,fun p hp=>(by cases hp),hk,lk⟩
theorem TOk.one {v:Int}:TOk 1 2 (oneT v):=⟨Nat.le_refl _,fun p hp=>by
 simp only [oneT,List.mem_singleton] at hp
 subst hp
 exact ⟨ZI.lb_of _,show (ZI.of 1).abs.length<=2 from by decide⟩,zeg,Nat.zero_le _⟩
theorem TOk.mul {n L M:Nat} {t:zal} {q:ZI} (ht:TOk n L t) (hq:Lb q.abs) (lq:q.abs.length<=M):TOk n (L+M) (mulT t q):=by
 refine ⟨by simp only [mulT,List.length_map];exact ht.len,?_,ZI.lb_of _,?_⟩
 ·intro p hp
  simp only [mulT,List.mem_map] at hp
  obtain ⟨r,hr,rfl⟩:=hp
  obtain ⟨h1,h2⟩:=ht.ps r hr
  exact ⟨ZI.lb_of _,by have:=len_mul h1 hq;simp only;omega⟩
 ·have:=len_mul ht.kb hq;have:=ht.kl;simp only [mulT];omega
theorem addT_ok {n m L:Nat} {s t:zal} (hs:TOk n L s) (ht:TOk m L t) (hn:n+m<=1000):TOk (n+m) (L+L+1+1) (zjl s t) :=
 (TOk.add hs ht _ (ZI.lb_of _) (by have:=zdw hs.kb ht.kb;have:=hs.kl;have:=ht.kl;omega)).plain hn
def zk3 (s t:zal):zal:=zjl s (zbj t (ZI.of (-1)))
def negT (t:zal):zal:=zbj t (ZI.of (-1))
theorem td_4:za4 Tryz.prog 131:=za4.mk' (by kernel_rfl)
theorem td_5:za4 Tryz.prog 106:=za4.mk' (by kernel_rfl)
theorem td_6:za4 Tryz.prog 111:=za4.mk' (by kernel_rfl)
theorem ne_self (x:Int):(x != x)=false:=by simp
theorem zfe (x:ZI) (hx:Lb x.abs) (lx:x.abs.length<=100000):Fn Tryz.prog 107 [] [vz x] (vz (ZI.of x.val)) []:=by
 refine Fn.body Tryz.func107 rfl 8 rfl fun w H B a h=>Jq 0 [] [(1,vp 0 0),(2,vp 1 0)] [(0,.box (zi x)),(1,.box [cB false,.d (nsl [])])] h fun a w h=>?_
 obtain ⟨r1,er1,vr1,or1,lr1⟩:=mkZ (v:=iv x.neg x.abs) (m:=x.abs.length) (zcz hx);refine Jd 2 [(4,.call (Fn.cast (zkb x.neg x.abs hx (by omega)) (congrArg vz er1.symm)) ia_3)] [1] [] [(1,.box (zi r1))] h fun a w h=>qV (rA 1 (zi r1) h zef rfl ?_);rw [er1];try rfl
theorem SisNaN (x:Int) :Fn Tryz.prog 131 [] [vI x] (vb false) []:=by
 refine Fn.body Tryz.func131 rfl 6 rfl fun w H B a h=>Jq 0 [] [(0,vI x),(2,vb false)] [] h fun a w h=>Jd 0 [(2,.cmp (op:=.neq) (m:=x) (n:=x) (b:=false) .i64 (ne_self _))] [0] [] [] h fun a w h=>qV (rT (.c (cB false)) h rfl ?_)
 rfl
theorem SCompare (x y:Int) :Fn Tryz.prog 106 [] [vI x,vI y] (vI (zfb x y)) []:=by
 refine Fn.body Tryz.func106 rfl 20 rfl fun w H B a h=>Jq 0 [] [(0,vI x),(1,vI y),(4,vI 0)] [] h fun a w h=>Jd 0 [(1,.call (SisNaN x) td_4)] [] [(5,vb false)] [] h fun a w h=>Jd 0 [(1,.call (SisNaN y) td_4)] [] [(6,vb false)] [] h fun a w h=>qW (Jd 0 [] [5] [(11,vb false)] [] h fun a w h=>zax false h rfl nofun (fun _=>qU (za1 (qW (Jd 0 [] [6,11] [(13,vb false)] [] h fun a w h=>zax false h rfl nofun (fun _=>qU (za1 (qW (Jd 0 [] [13] [(16,vb (decide (x<y)))] [] h fun a w h=>zam (x<y) h (fun hc1 hc1'=>?_) (fun hc2 hc2'=>?_))))))))))
 ·refine Jd 0 [] [16] [(4,vI (-1))] [] h fun a w h=>qV (za6 (rT (.c (cI (-1))) h rfl ?_));have hz:zfb x y=(-1):=by unfold zfb;simp [*];try omega
  rw [hz];try rfl
 refine qU (za1 (qW (Jq 0 [] [(4,vI 0),(19,vb (decide (x>y)))] [] h fun a w h=>zam (x>y) h (fun hc3 hc3'=>?_) (fun hc4 hc4'=>?_))))
 ·refine Jq 0 [] [(4,vI 1)] [] h fun a w h=>qV (za6 (rT (.c (cI 1)) h rfl ?_));have hz:zfb x y=1:=by unfold zfb;simp [*];try omega
  rw [hz];try rfl
 refine qU (za1 (Jd 0 [] [19] [] [] h fun a w h=>qV (rT (.c (cI 0)) h rfl ?_)));have hz:zfb x y=0:=by unfold zfb;simp [*];try omega
 rw [hz];try rfl
theorem SPlain1 (p q:za3) :Fn Tryz.prog 105 [] [vG ([cI p.v]++zi p.c),vG ([cI q.v]++zi q.c)] (vI (zfb p.v q.v)) []:=by
 refine Fn.body Tryz.func105 rfl 10 rfl fun w H B a h=>Jq 0 [] [(2,vp 0 0),(3,vp 1 0),(4,vI 0)] [(0,.box ([cI p.v]++zi p.c)),(1,.box ([cI q.v]++zi q.c))] h fun a w h=>Jq 2 [(4,.call (SCompare p.v q.v) td_5)] [(4,vI (zfb p.v q.v))] [] h fun a w h=>qV (rT (.c (cI (zfb p.v q.v))) h rfl ?_)
 rfl
theorem SPlain2 (p:za3) (hp:Lb p.c.abs) (lp:p.c.abs.length<=100000):Fn Tryz.prog 110 [] [vG ([cI p.v]++zi p.c)] (vb (sgn p.c.val == 0)) []:=by
 refine Fn.body Tryz.func110 rfl 7 rfl fun w H B a h=>Jq 0 [] [(1,vp 0 0),(2,vb false)] [(0,.box ([cI p.v]++zi p.c))] h fun a w h=>Jq 1 [(2,.call (SSign p.c hp (by omega)) td_6)] [(2,vb (sgn p.c.val == 0))] [] h fun a w h=>qV (rT (.c (cB (sgn p.c.val == 0))) h rfl ?_)
 rfl
section
variable {α:Type} (v:α->Int)
def Stb (xs ys:List α):Prop:=∀ k:Int,xs.filter (fun x=>decide (v x=k))=ys.filter (fun x=>decide (v x=k))
def Ris:List α->Prop
  | []=>True
  | x :: xs=>(∀ y ∈ xs,v x<=v y)/\Ris xs
def insV (x:α):List α->List α
  | []=>[x]
  | y :: ys=>if v x<v y then x :: y :: ys else y :: insV x ys
def ssV (xs:List α):List α:=xs.foldl (fun l x=>insV v x l) []
variable {v}
theorem Stb.refl (xs:List α):Stb v xs xs:=fun _=>rfl
theorem Stb.symm {xs ys:List α} (h:Stb v xs ys):Stb v ys xs:=fun k=>(h k).symm
theorem Stb.trans {xs ys zs:List α} (h:Stb v xs ys) (g:Stb v ys zs):Stb v xs zs:=fun k=>(h k).trans (g k)
theorem Stb.app {xs ys zs us:List α} (h:Stb v xs ys) (g:Stb v zs us):Stb v (xs++zs) (ys++us):=fun k=>by rw [List.filter_append,List.filter_append,h k,g k]
theorem Stb.mem {xs ys:List α} (h:Stb v xs ys) {x:α} (hx:x ∈ xs):x ∈ ys:=by
 have h1:x ∈ xs.filter (fun y=>decide (v y=v x)):=List.mem_filter.2 ⟨hx,by simp⟩
 rw [h (v x)] at h1
 exact (List.mem_filter.1 h1).1
theorem Stb.swap {xs ys:List α} (h:∀ x ∈ xs,∀ y ∈ ys,v x≠v y):Stb v (xs++ys) (ys++xs):=by
 intro k
 rw [List.filter_append,List.filter_append]
 by_cases hx:∃ x ∈ xs,v x=k
 ·obtain ⟨x,hx,rfl⟩:=hx
  have:ys.filter (fun y=>decide (v y=v x))=[]:=List.filter_eq_nil_iff.2 fun y hy=>by simpa using fun e=>h x hx y hy e.symm
  rw [this];simp
 ·have:xs.filter (fun x=>decide (v x=k))=[]:=List.filter_eq_nil_iff.2 fun x hx2=>by simpa using fun e=>hx ⟨x,hx2,e⟩
  rw [this];simp
theorem Stb.nil {ys:List α} (h:Stb v [] ys):ys=[]:=by
 cases ys with
 | nil=>rfl
 | cons y ys=>exact absurd (h.symm.mem (List.mem_cons_self ..)) (by simp)
theorem Ris.unique:∀ {xs ys:List α}, Ris v xs->Ris v ys->Stb v xs ys->xs=ys
 | [],ys,_,_,h=>h.nil.symm
 | x :: xs,[],_,_,h=>absurd (h.mem (List.mem_cons_self ..)) (by simp)
 | x :: xs,y :: ys,hx,hy,h=>by
  have h1:v y<=v x:=by
   rcases List.mem_cons.1 (h.mem (List.mem_cons_self ..)) with e | e
   ·rw [e];exact Int.le_refl _
   ·exact hy.1 x e
  have h2:v x<=v y:=by
   rcases List.mem_cons.1 (h.symm.mem (List.mem_cons_self ..)) with e | e
   ·rw [e];exact Int.le_refl _
   ·exact hx.1 y e
  have hv:v x=v y:=by omega
  have hk:=h (v x)
  simp only [List.filter_cons,decide_true,hv,if_true] at hk
  injection hk with e1 _
  subst e1
  have ht:Stb v xs ys:=by
   intro k
   have:=h k
   simp only [List.filter_cons] at this
   split at this
   ·injection this
   ·exact this
  rw [Ris.unique hx.2 hy.2 ht]
theorem Ris.app {xs ys:List α}:Ris v (xs++ys) ↔ Ris v xs/\Ris v ys/\∀ x ∈ xs,∀ y ∈ ys,v x<=v y:=by
 induction xs with
 | nil=>simp [Ris]
 | cons x xs ih =>
  simp only [List.cons_append,Ris,ih,List.mem_append,List.mem_cons]
  constructor
  ·rintro ⟨h1,h2,h3,h4⟩
   refine ⟨⟨fun y hy=>h1 y (.inl hy),h2⟩,h3,?_⟩
   rintro z (rfl | hz) y hy
   ·exact h1 y (.inr hy)
   ·exact h4 z hz y hy
  ·rintro ⟨⟨h1,h2⟩,h3,h4⟩
   refine ⟨?_,h2,h3,fun z hz y hy=>h4 z (.inr hz) y hy⟩
   rintro y (hy | hy)
   ·exact h1 y hy
   ·exact h4 x (.inl rfl) y hy
theorem insV_stb (x:α):∀ {ys:List α}, Ris v ys->Stb v (insV v x ys) (ys++[x])
 | [],_=>Stb.refl _
 | y :: ys,h=>by
  unfold insV
  split
  ·rename_i h1
   refine Stb.swap (xs:=[x]) (ys:=y :: ys) fun a ha b hb=>?_
   rw [List.mem_singleton.1 ha]
   rcases List.mem_cons.1 hb with rfl | hb
   ·omega
   ·have:=h.1 b hb;omega
  ·exact Stb.app (xs:=[y]) (ys:=[y]) (Stb.refl _) (insV_stb x h.2)
theorem insV_ris (x:α):∀ {ys:List α}, Ris v ys->Ris v (insV v x ys)
 | [],_=>⟨fun _ h=>(by cases h),trivial⟩
 | y :: ys,h=>by
  unfold insV
  split
  ·rename_i h1
   refine ⟨fun z hz=>?_,h⟩
   rcases List.mem_cons.1 hz with rfl | hz
   ·omega
   ·have:=h.1 z hz;omega
  ·rename_i h1
   refine ⟨fun z hz=>?_,insV_ris x h.2⟩
   have:=(insV_stb x h.2).mem hz
   rcases List.mem_append.1 this with h2 | h2
   ·exact h.1 z h2
   ·rw [List.mem_singleton.1 h2];omega
theorem ssV_snoc (xs:List α) (x:α):ssV v (xs++[x])=insV v x (ssV v xs):=by simp [ssV,List.foldl_append]
theorem rev_ind {P:List α->Prop} (h0:P []) (h1:∀ xs x,P xs->P (xs++[x])) (xs:List α):P xs:=by
 have:∀ n (xs:List α),xs.length=n->P xs:=by
  intro n
  induction n with
  | zero=>intro xs h;rw [List.length_eq_zero_iff.1 h];exact h0
  | succ n ih =>
   intro xs h
   have hne:xs≠[]:=fun e=>by rw [e] at h;cases h
   rw [<- List.dropLast_concat_getLast hne]
   exact h1 _ _ (ih _ (by rw [List.length_dropLast];omega))
 exact this _ xs rfl
theorem zjs (xs:List α):Ris v (ssV v xs)/\Stb v (ssV v xs) xs:=by
 refine rev_ind (P:=fun xs=>Ris v (ssV v xs)/\Stb v (ssV v xs) xs) ⟨trivial,Stb.refl _⟩ (fun xs x h=>?_) xs
 rw [ssV_snoc]
 exact ⟨insV_ris x h.1,(insV_stb x h.1).trans (h.2.app (Stb.refl _))⟩
theorem zek {xs ys:List α} (h:Ris v ys) (hs:Stb v ys xs):ys=ssV v xs:=h.unique (zjs xs).1 (hs.trans (zjs xs).2.symm)
theorem ssV_of {xs:List α} (h:Ris v xs):ssV v xs=xs:=(zek h (Stb.refl _)).symm
theorem Stb.length {xs ys:List α}:∀ (n:Nat) (_:xs.length=n) (_:Stb v xs ys),xs.length=ys.length:=by
 intro n
 induction n generalizing xs ys with
 | zero=>intro h hs;rw [List.length_eq_zero_iff.1 h] at hs ⊢;rw [hs.nil]
 | succ n ih =>
  intro h hs
  cases xs with
  | nil=>cases h
  | cons x xs =>
   have hx:=hs.mem (List.mem_cons_self ..)
   obtain ⟨y1,y2,rfl,hn⟩:∃ y1 y2,ys=y1++x :: y2/\∀ y ∈ y1,v y≠v x:=by
    have hk:=hs (v x)
    simp only [List.filter_cons,decide_true,if_true] at hk
    clear h hs ih hx
    induction ys with
    | nil=>simp at hk
    | cons y ys ih2 =>
     by_cases e:v y=v x
     ·simp only [List.filter_cons,e,decide_true,if_true] at hk
      injection hk with e1 _
      exact ⟨[],ys,by rw [e1];rfl,by simp⟩
     ·simp only [List.filter_cons,e,decide_false,Bool.false_eq_true,if_false] at hk
      obtain ⟨y1,y2,rfl,h2⟩:=ih2 hk
      exact ⟨y :: y1,y2,rfl,fun z hz=>by rcases List.mem_cons.1 hz with rfl | hz;exact e;exact h2 z hz⟩
   have hs2:Stb v (y1++x :: y2) (x :: (y1++y2)):=by
    have:=(Stb.swap (v:=v) (xs:=y1) (ys:=[x]) fun a ha b hb=>by rw [List.mem_singleton.1 hb];exact hn a ha).app (Stb.refl y2)
    simpa using this
   have hs3:=hs.trans hs2
   have ht:Stb v xs (y1++y2):=by
    intro k
    have:=hs3 k
    simp only [List.filter_cons] at this
    split at this
    ·injection this
    ·exact this
   have:=ih (by simpa using h) ht
   simp only [List.length_cons,List.length_append] at this ⊢
   omega
theorem zb5 (xs:List α):(ssV v xs).length=xs.length:=Stb.length _ rfl (zjs xs).2
theorem sym_merge {a1 a2 b1 b2:List α} (ha:Ris v (a1++a2)) (hb:Ris v (b1++b2)) (h1:∀ x ∈ a1,∀ y ∈ b2,v x<=v y) (h2:∀ x ∈ a2,∀ y ∈ b1,v y<v x):ssV v (a1++b1)++ssV v (a2++b2)=ssV v (a1++a2++(b1++b2)):=by
 obtain ⟨_,_,ka⟩:=Ris.app.1 ha
 obtain ⟨_,_,kb⟩:=Ris.app.1 hb
 have s1:=zjs (v:=v) (a1++b1)
 have s2:=zjs (v:=v) (a2++b2)
 refine zek (Ris.app.2 ⟨s1.1,s2.1,fun x hx y hy=>?_⟩) ?_
 ·rcases List.mem_append.1 (s1.2.mem hx) with hx | hx <;> rcases List.mem_append.1 (s2.2.mem hy) with hy | hy
  ·exact ka x hx y hy
  ·exact h1 x hx y hy
  ·have:=h2 y hy x hx;omega
  ·exact kb x hx y hy
 ·refine (s1.2.app s2.2).trans ?_
  have:Stb v (a1++(b1++a2)++b2) (a1++(a2++b1)++b2):=((Stb.refl a1).app (Stb.swap fun x hx y hy=>by have:=h2 y hy x hx;omega)).app (Stb.refl b2)
  simpa [List.append_assoc] using this
theorem sym_left {x:α} {b1 b2:List α} (hb:Ris v (b1++b2)) (h1:∀ y ∈ b2,v x<=v y) (h2:∀ y ∈ b1,v y<v x):b1++x :: b2=ssV v ([x]++(b1++b2)):=by
 obtain ⟨r1,r2,kb⟩:=Ris.app.1 hb
 refine zek (Ris.app.2 ⟨r1,⟨h1,r2⟩,fun y hy z hz=>?_⟩) ?_
 ·rcases List.mem_cons.1 hz with rfl | hz
  ·have:=h2 y hy;omega
  ·exact kb y hy z hz
 ·have:Stb v (b1++[x]++b2) ([x]++b1++b2):=(Stb.swap fun y hy z hz=>by rw [List.mem_singleton.1 hz];have:=h2 y hy;omega).app (Stb.refl b2)
  simpa [List.append_assoc] using this
theorem sym_right {x:α} {a1 a2:List α} (ha:Ris v (a1++a2)) (h1:∀ y ∈ a1,v y<=v x) (h2:∀ y ∈ a2,v x<v y):a1++x :: a2=ssV v (a1++a2++[x]):=by
 obtain ⟨r1,r2,ka⟩:=Ris.app.1 ha
 refine zek (Ris.app.2 ⟨r1,⟨fun y hy=>by have:=h2 y hy;omega,r2⟩,fun y hy z hz=>?_⟩) ?_
 ·rcases List.mem_cons.1 hz with rfl | hz
  ·exact h1 y hy
  ·exact ka y hy z hz
 ·have:Stb v (a1++([x]++a2)) (a1++(a2++[x])):=(Stb.refl a1).app (Stb.swap fun y hy z hz=>by rw [List.mem_singleton.1 hy];have:=h2 z hz;omega)
  simpa [List.append_assoc] using this
end
theorem zgz:Sz Tryz.prog 81 3 true:=Sz.mk' (by kernel_rfl) Tryz.underlying81 _ rfl
theorem te_2:za4 Tryz.prog 105:=za4.mk' (by kernel_rfl)
theorem zbu {α:Type} {xs:List α} {F:α->List D} (i:Nat) (x0:List D) (x1:α) {fo:Nat} {ds:List D} (h:zk5 x0 fo ds=F x1):(xs.map F).set i (zk5 x0 fo ds)=(xs.set i x1).map F:=by rw [h,List.map_set]
theorem zid {α:Type} {xs ys:List α} {x:α} (n:Nat) (hn:n=xs.length):(xs++x :: ys)[n]?=some x:=by subst hn;simp
theorem swap_mid {α:Type} {xs ys:List α} {x y:α} (n:Nat) (hn:n=xs.length):((xs++y :: x :: ys).set (n+1) y).set n x=xs++x :: y :: ys:=by
 subst hn
 rw [List.set_append_right _ _ (by omega),Nat.add_sub_cancel_left]
 simp
theorem zfa {x y:Int}:zfb x y<0 ↔ x<y:=by unfold zfb;split;omega;split <;> omega
theorem snoc_or {α:Type} (l:List α):l=[]\/∃ l' y,l=l'++[y]:=by
 by_cases h:l=[]
 ·exact .inl h
 ·exact .inr ⟨l.dropLast,l.getLast h,(List.dropLast_concat_getLast h).symm⟩
def InsI (pre mid post:List za3) (k j:Nat) (ys:List za3):Prop :=
  ∃ s1 s2 x,j=pre.length+s1.length/\ys=pre++s1++x :: (s2++(mid.drop (k+1)++post))/\mid[k]?=some x/\ssV za3.v (mid.take k)=s1++s2/\∀ y ∈ s2,x.v<y.v
theorem ins_start {pre mid post:List za3} {k:Nat} (hk:k<mid.length):InsI pre mid post k (pre.length+k) (pre++(ssV za3.v (mid.take k)++mid.drop k)++post):=by
 refine ⟨ssV za3.v (mid.take k),[],mid[k],?_,?_,List.getElem?_eq_getElem hk,by simp,by simp⟩
 ·rw [zb5,List.length_take];omega
 ·have:=List.drop_eq_getElem_cons hk;simp only [List.append_assoc,List.nil_append,this,List.cons_append]
theorem ins_len {pre mid post:List za3} {k j:Nat} {ys:List za3} (h:InsI pre mid post k j ys):ys.length=(pre++mid++post).length/\j<=pre.length+k/\k<mid.length:=by
 obtain ⟨s1,s2,x,rfl,rfl,hx,hs,_⟩:=h
 have hk:=(List.getElem?_eq_some_iff.1 hx).1
 have hl:s1.length+s2.length=k:=by
  have:=congrArg List.length hs
  rw [zb5,List.length_take,List.length_append] at this;omega
 refine ⟨?_,by omega,hk⟩
 simp only [List.length_append,List.length_cons,List.length_drop];omega
theorem ins_step {pre mid post:List za3} {k j:Nat} {ys:List za3} {x1 x2:za3} (h:InsI pre mid post k j ys) (h1:ys[j]?=some x1) (h2:ys[j - 1]?=some x2) (hj:pre.length<j) (hc:x1.v<x2.v):InsI pre mid post k (j - 1) ((ys.set j x2).set (j - 1) x1):=by
 obtain ⟨s1,s2,x,rfl,rfl,hx,hs,hlt⟩:=h
 obtain ⟨s1', y,rfl⟩:∃ s1' y,s1=s1'++[y]:=by
  rcases snoc_or s1 with rfl | ⟨s1', y,rfl⟩
  ·simp at hj
  ·exact ⟨s1', y,rfl⟩
 have e1:x1=x:=by
  rw [zid _ (by simp)] at h1
  injection h1 with h1
  exact h1.symm
 have hj2:pre.length+(s1'++[y]).length - 1=(pre++s1').length:=by simp only [List.length_append,List.length_cons,List.length_nil];omega
 have hys:pre++(s1'++[y])++x :: (s2++(mid.drop (k+1)++post))=(pre++s1')++y :: x :: (s2++(mid.drop (k+1)++post)):=by simp
 have e2:x2=y:=by
  rw [hys,zid _ hj2] at h2
  injection h2 with h2
  exact h2.symm
 subst e1 e2
 refine ⟨s1', x2 :: s2,x1,by simp only [List.length_append,List.length_cons,List.length_nil];omega,?_,hx,by rw [hs];simp,?_⟩
 ·rw [hys,show pre.length+(s1'++[x2]).length=(pre++s1').length+1 by simp only [List.length_append,List.length_cons,List.length_nil];omega,Nat.add_sub_cancel,swap_mid _ rfl]
  simp
 ·intro y hy
  rcases List.mem_cons.1 hy with rfl | hy
  ·exact hc
  ·exact hlt y hy
theorem ins_done {pre mid post:List za3} {k j:Nat} {ys:List za3} (h:InsI pre mid post k j ys) (hd:j<=pre.length\/∃ x1 x2,ys[j]?=some x1/\ys[j - 1]?=some x2/\¬ x1.v<x2.v):ys=pre++(ssV za3.v (mid.take (k+1))++mid.drop (k+1))++post:=by
 obtain ⟨s1,s2,x,rfl,rfl,hx,hs,hlt⟩:=h
 have hss:=zjs (v:=za3.v) (mid.take k)
 rw [hs] at hss
 obtain ⟨r1,r2,r3⟩:=Ris.app.1 hss.1
 have hx1:∀ y ∈ s1,y.v<=x.v:=by
  rcases hd with hd | ⟨x1,x2,h1,h2,h3⟩
  ·have:s1=[]:=List.length_eq_zero_iff.1 (by omega)
   subst this;simp
  ·rcases snoc_or s1 with rfl | ⟨s1', y,rfl⟩
   ·simp
   ·rw [zid _ (by simp)] at h1
    injection h1 with h1
    have hj2:pre.length+(s1'++[y]).length - 1=(pre++s1').length:=by simp only [List.length_append,List.length_cons,List.length_nil];omega
    have hys:pre++(s1'++[y])++x :: (s2++(mid.drop (k+1)++post))=(pre++s1')++y :: x :: (s2++(mid.drop (k+1)++post)):=by simp
    rw [hys,zid _ hj2] at h2
    injection h2 with h2
    subst h1 h2
    obtain ⟨q1,q2,q3⟩:=Ris.app.1 r1
    intro z hz
    rcases List.mem_append.1 hz with hz | hz
    ·have:=q3 z hz y (by simp);omega
    ·rw [List.mem_singleton.1 hz];omega
 have hmid:mid.take (k+1)=mid.take k++[x]:=by rw [List.take_add_one,hx];rfl
 have hR:Ris za3.v (s1++x :: s2):=by
  refine Ris.app.2 ⟨r1,⟨fun y hy=>by have:=hlt y hy;omega,r2⟩,fun y hy z hz=>?_⟩
  rcases List.mem_cons.1 hz with rfl | hz
  ·exact hx1 y hy
  ·exact r3 y hy z hz
 have hS:Stb za3.v (s1++x :: s2) (mid.take (k+1)):=by
  rw [hmid]
  refine Stb.trans (ys:=(s1++s2)++[x]) ?_ (hss.2.app (Stb.refl _))
  rw [List.append_assoc]
  refine (Stb.refl s1).app (Stb.swap (xs:=[x]) (ys:=s2) fun c hc b hb=>?_)
  rw [List.mem_singleton.1 hc]
  have:=hlt b hb;omega
 rw [<- zek hR hS]
 simp
theorem Sinsort (pre mid post:List za3) (hl:(pre++mid++post).length<=1000000):Fn Tryz.prog 146 [(0,.row 81 3 ((pre++mid++post).map za3.d))] [.t (.c (.own 0 (pre++mid++post).length)),vN pre.length,vI ((pre.length+mid.length:Nat):Int),.t (.c (.fn (.func 105) [] []))] (.tup []) [(0,.row 81 3 ((pre++ssV za3.v mid++post).map za3.d))]:=by
 have hlen:(pre++mid++post).length=pre.length+mid.length+post.length:=by simp;omega
 refine Fn.body Tryz.func146 rfl 53 rfl fun w H B a h=>Jq 1 [(1,.add .i64 (m:=(pre.length:Int)) (n:=1) i6)] [(0,.t (.c (.own 0 (pre++mid++post).length))),(1,vN pre.length),(2,vI ((pre.length+mid.length:Nat):Int)),(3,.t (.c (.fn (.func 105) [] []))),(8,vI ((pre.length:Int)+1))] [(0,.row 81 3 ((pre++mid++post).map za3.d))] h fun a w h=>qZ ?_
 refine zap (ι:=(Nat) × (List za3)) (fun (k,xs)=>1<=k/\(k<=mid.length\/k=1)/\xs=pre++(ssV za3.v (mid.take k)++mid.drop k)++post)
   (fun (k,xs)=>[(0,.t (.c (.own 0 (pre++mid++post).length))),(1,vN pre.length),(2,vI ((pre.length+mid.length:Nat):Int)),(3,.t (.c (.fn (.func 105) [] []))),(8,vI ((pre.length+k:Nat):Int))])
   (fun (k,xs)=>[(0,.row 81 3 (xs.map za3.d))])
   (fun (k,xs)=>mid.length+1 - k) (1,(pre++mid++post)) ?_ h (by kernel_rfl) (by kernel_rfl) ?_
 ·refine ⟨Nat.le_refl _,.inr rfl,?_⟩
  cases mid with
  | nil=>simp [ssV]
  | cons x mid=>simp [ssV,insV]
 clear h;rintro ⟨k,xs⟩ a w hI h;dsimp only at h;obtain ⟨hI1,hI2,hI3⟩:=hI;refine qW (Je 1 [] [] [(14,vb (decide (((pre.length+k:Nat):Int)<((pre.length+mid.length:Nat):Int))))] h fun a w h=>zam (((pre.length+k:Nat):Int)<((pre.length+mid.length:Nat):Int)) h (fun hc1 hc1'=>?_) (fun hc6 hc6'=>?_))
 ·refine qU (za1 (qW (qZ (Je 1 [] [14] [(9,vI ((pre.length+k:Nat):Int))] h fun a w h=>qZ ?_))))
  refine zap (ι:=(Nat) × (List za3)) (fun (j,ys)=>InsI pre mid post k j ys)
    (fun (j,ys)=>[(0,.t (.c (.own 0 (pre++mid++post).length))),(1,vN pre.length),(2,vI ((pre.length+mid.length:Nat):Int)),(3,.t (.c (.fn (.func 105) [] []))),(8,vI ((pre.length+k:Nat):Int)),(9,vN j)])
    (fun (j,ys)=>[(0,.row 81 3 (ys.map za3.d))])
    (fun (j,ys)=>j) ((pre.length+k),xs) ?_ h (by kernel_rfl) (by kernel_rfl) ?_
  ·rw [hI3];exact ins_start (by omega)
  clear h;rintro ⟨j,ys⟩ a w hI h;dsimp only at h;obtain ⟨hly,hj1,hk1⟩:=ins_len hI;refine qW ?_
  rcases Bool.eq_false_or_eq_true (decide ((j:Int)>(pre.length:Int))) with hc2 | hc5
  ·have hc2':=dT hc2;obtain ⟨x1,hx1⟩:=gl ys j;obtain ⟨x2,hx2⟩:=gl ys (j - 1);refine Je 1 [(2,.cmp (op:=.gtr) (m:=(j:Int)) (n:=(pre.length:Int)) (b:=true) .i64 hc2),(7,.g (xO 25 23 0 (pre++mid++post).length j zcm (OV.tmp 24 _))),(8,.g (Op.loadR_agg (d:=26) (t:=25) (n:=0) (i:=j) (fo:=0) (rty:=81) (es:=3) (xs:=[.raw (.int .i64 x1.v),.raw (.bool x1.c.neg),nsl x1.c.abs]) zgz rfl (zab hx1 (f:=za3.d)) rfl rfl)),(11,.g (Op.arith (op:=.sub) (d:=29) (xt:=3) (yt:=3) (k:=.i64) (m:=(j:Int)) (n:=1) (r:=((j - 1:Nat):Int)) (OV.tmp 28 _) (OV.const (.int .i64 1) rfl) (.inr (.inl ⟨rfl,(by omega)⟩)) i6)),(12,.g (xO 30 27 0 (pre++mid++post).length (j - 1) zcm (OV.tmp 29 _))),(13,.g (Op.loadR_agg (d:=31) (t:=30) (n:=0) (i:=(j - 1)) (fo:=0) (rty:=81) (es:=3) (xs:=[.raw (.int .i64 x2.v),.raw (.bool x2.c.neg),nsl x2.c.abs]) zgz rfl (zab hx2 (f:=za3.d)) rfl rfl)),(14,.g (Op.callV (d:=32) (t:=22) (cap:=[]) (args:=[.t (.agg ([.d (.raw (.int .i64 x1.v))]++zi x1.c)),.t (.agg ([.d (.raw (.int .i64 x2.v))]++zi x2.c))]) (rs:=[(26,.t (.agg ([.d (.raw (.int .i64 x1.v))]++zi x1.c))),(31,.t (.agg ([.d (.raw (.int .i64 x2.v))]++zi x2.c)))]) (tys:=#[81,81]) (SPlain1 x1 x2) te_2 (OVs.cons (OV.tmp 26 _) (OVs.cons (OV.tmp 31 _) (OVs.nil)))))] [] [(34,vb (decide (zfb x1.v x2.v<0)))] h fun a w h=>zam (zfb x1.v x2.v<0) h (fun hc3 hc3'=>?_) (fun hc4 hc4'=>?_)
   ·refine qU (za1 (qW (qZ (Jm 1 [(4,.g (Op.arith (op:=.sub) (d:=41) (xt:=3) (yt:=3) (k:=.i64) (m:=(j:Int)) (n:=1) (r:=((j - 1:Nat):Int)) (OV.tmp 40 _) (OV.const (.int .i64 1) rfl) (.inr (.inl ⟨rfl,(by omega)⟩)) i6)),(7,.g (Op.arith (op:=.sub) (d:=44) (xt:=3) (yt:=3) (k:=.i64) (m:=(j:Int)) (n:=1) (r:=((j - 1:Nat):Int)) (OV.tmp 43 _) (OV.const (.int .i64 1) rfl) (.inr (.inl ⟨rfl,(by omega)⟩)) i6)),(8,.g (xO 45 42 0 (pre++mid++post).length (j - 1) zcm (OV.tmp 44 _))),(9,.g (Op.loadR_agg (d:=46) (t:=45) (n:=0) (i:=(j - 1)) (fo:=0) (rty:=81) (es:=3) (xs:=[.raw (.int .i64 x2.v),.raw (.bool x2.c.neg),nsl x2.c.abs]) zgz rfl (zab hx2 (f:=za3.d)) rfl rfl)),(12,.g (xO 49 47 0 (pre++mid++post).length j zcm (OV.tmp 48 _))),(13,.g (Op.loadR_agg (d:=50) (t:=49) (n:=0) (i:=j) (fo:=0) (rty:=81) (es:=3) (xs:=[.raw (.int .i64 x1.v),.raw (.bool x1.c.neg),nsl x1.c.abs]) zgz rfl (zab hx1 (f:=za3.d)) rfl rfl)),(14,.g (xO 51 37 0 (pre++mid++post).length j zcm (OV.tmp 38 _))),(15,.g (Op.storeR (t:=51) (n:=0) (i:=j) (fo:=0) (rty:=81) (es:=3) (r:=za3.d x1) (ds:=[.raw (.int .i64 x2.v),.raw (.bool x2.c.neg),nsl x2.c.abs]) (rs:=[(46,.t (.agg ([.d (.raw (.int .i64 x2.v))]++zi x2.c)))]) (rows:=ys.map za3.d) (rows':=(ys.set j x2).map za3.d) zgz (OV.tmp 46 _) rfl rfl rfl (zab hx1 (f:=za3.d)) (by simp [za3.d]) (zbu (xs:=ys) (F:=za3.d) j _ _ rfl))),(16,.g (xO 52 39 0 (pre++mid++post).length (j - 1) zcm (OV.tmp 41 _))),(17,.g (Op.storeR (t:=52) (n:=0) (i:=(j - 1)) (fo:=0) (rty:=81) (es:=3) (r:=za3.d x2) (ds:=[.raw (.int .i64 x1.v),.raw (.bool x1.c.neg),nsl x1.c.abs]) (rs:=[(50,.t (.agg ([.d (.raw (.int .i64 x1.v))]++zi x1.c)))]) (rows:=(ys.set j x2).map za3.d) (rows':=((ys.set j x2).set (j - 1) x1).map za3.d) zgz (OV.tmp 50 _) rfl rfl rfl (zab ((List.getElem?_set_ne (by omega)).trans hx2) (f:=za3.d)) (by simp [za3.d]) (zbu (xs:=(ys.set j x2)) (F:=za3.d) (j - 1) _ _ rfl)))] [34] [] [(0,.row 81 3 (((ys.set j x2).set (j - 1) x1).map za3.d))] h fun a w h=>?_))));refine za8 (za1 (Jf 1 [(1,.g (Op.arith (op:=.sub) (d:=36) (xt:=3) (yt:=3) (k:=.i64) (m:=(j:Int)) (n:=1) (r:=((j - 1:Nat):Int)) (OV.tmp 35 _) (OV.const (.int .i64 1) rfl) (.inr (.inl ⟨rfl,(by omega)⟩)) i6))] [] [(9,vI ((j - 1:Nat):Int))] h fun a w h=>za1 (zag (x:=(j,ys)) (y:=(j - 1,((ys.set j x2).set (j - 1) x1))) h ?_ ?_)))
    ·exact ins_step hI hx1 hx2 (by omega) (zfa.1 hc3')
    show j - 1<j;omega
   refine wp_exit (za9 (za9 (za5 (za8 (za1 (Jf 1 [(1,.add .i64 (m:=((pre.length+k:Nat):Int)) (n:=1) i6)] [9,34] [(8,vI (((pre.length+k:Nat):Int)+1))] h fun a w h=>za1 (zag (x:=(k,xs)) (y:=(k+1,ys)) h ?_ ?_)))))))
   ·exact ⟨by omega,by omega,ins_done hI (.inr ⟨_,_,hx1,hx2,mt zfa.2 hc4'⟩)⟩
   show mid.length+1 - (k+1)<mid.length+1 - k;omega
  have hc5':=dF hc5;refine Je 1 [(2,.cmp (op:=.gtr) (m:=(j:Int)) (n:=(pre.length:Int)) (b:=false) .i64 hc5)] [] [(34,vb false)] h fun a w h=>zax false h rfl nofun (fun _=>wp_exit (za9 (za9 (za5 (za8 (za1 (Jf 1 [(1,.add .i64 (m:=((pre.length+k:Nat):Int)) (n:=1) i6)] [9,34] [(8,vI (((pre.length+k:Nat):Int)+1))] h fun a w h=>za1 (zag (x:=(k,xs)) (y:=(k+1,ys)) h ?_ ?_))))))))
  ·exact ⟨by omega,by omega,ins_done hI (.inl (by omega))⟩
  show mid.length+1 - (k+1)<mid.length+1 - k;omega
 refine wp_exit (za9 (za9 (za5 ?_)))
 have hxs:xs=pre++ssV za3.v mid++post:=by
  have hk:mid.length<=k:=by omega
  rw [hI3,List.take_of_length_le hk,List.drop_of_length_le hk,List.append_nil]
 rw [hxs] at h;refine zea [] h Exit.normal (.inr rfl)  rfl trivial ?_;rfl
def SwI (pre X mid Y post:List za3) (i:Nat) (ys:List za3):Prop:=i<=X.length/\ys=pre++(Y.take i++X.drop i)++mid++(X.take i++Y.drop i)++post
theorem sw_len {pre X mid Y post:List za3} {i:Nat} {ys:List za3} (h:SwI pre X mid Y post i ys) (hn:X.length=Y.length):ys.length=pre.length+X.length+mid.length+Y.length+post.length:=by
 obtain ⟨h1,rfl⟩:=h
 simp only [List.length_append,List.length_take,List.length_drop];omega
theorem sw_step {pre X mid Y post:List za3} {i:Nat} {ys:List za3} {x1 x2:za3} (h:SwI pre X mid Y post i ys) (hn:X.length=Y.length) (hi:i<X.length) (h1:ys[pre.length+i]?=some x1) (h2:ys[pre.length+X.length+mid.length+i]?=some x2) :
  SwI pre X mid Y post (i+1) ((ys.set (pre.length+i) x2).set (pre.length+X.length+mid.length+i) x1):=by
 obtain ⟨_,rfl⟩:=h
 have hy:i<Y.length:=by omega
 have ex:=List.drop_eq_getElem_cons hi
 have ey:=List.drop_eq_getElem_cons hy
 have tx:X.take (i+1)=X.take i++[X[i]]:=by rw [List.take_add_one,List.getElem?_eq_getElem hi];rfl
 have ty:Y.take (i+1)=Y.take i++[Y[i]]:=by rw [List.take_add_one,List.getElem?_eq_getElem hy];rfl
 have hys:pre++(Y.take i++X.drop i)++mid++(X.take i++Y.drop i)++post=(pre++Y.take i)++X[i] :: ((X.drop (i+1)++mid++X.take i)++Y[i] :: (Y.drop (i+1)++post)):=by
  simp only [ex,ey,List.append_assoc,List.cons_append]
 have l1:pre.length+i=(pre++Y.take i).length:=by simp only [List.length_append,List.length_take];omega
 have l2:pre.length+X.length+mid.length+i=(pre++Y.take i).length+((X.drop (i+1)++mid++X.take i).length+1):=by simp only [List.length_append,List.length_take,List.length_drop];omega
 rw [hys] at h1 h2 ⊢
 have e1:x1=X[i]:=by rw [zid _ l1] at h1;injection h1 with h1;exact h1.symm
 have e2:x2=Y[i]:=by
  rw [l2,List.getElem?_append_right (by omega),Nat.add_sub_cancel_left,List.getElem?_cons_succ,zid _ rfl] at h2
  injection h2 with h2;exact h2.symm
 subst e1 e2
 refine ⟨by omega,?_⟩
 rw [l1,List.set_append_right _ _ (Nat.le_refl _),Nat.sub_self,List.set_cons_zero,l2,List.set_append_right _ _ (by omega),Nat.add_sub_cancel_left,List.set_cons_succ,List.set_append_right _ _ (Nat.le_refl _),Nat.sub_self,List.set_cons_zero,tx,ty]
 simp only [List.append_assoc,List.cons_append,List.nil_append]
theorem Sswaprange (pre X mid Y post:List za3) (hn:X.length=Y.length) (hl:(pre++X++mid++Y++post).length<=1000000):Fn Tryz.prog 165 [(0,.row 81 3 ((pre++X++mid++Y++post).map za3.d))] [.t (.c (.own 0 (pre++X++mid++Y++post).length)),vN pre.length,vI ((pre.length+X.length+mid.length:Nat):Int),vN X.length,.t (.c (.fn (.func 105) [] []))] (.tup []) [(0,.row 81 3 ((pre++Y++mid++X++post).map za3.d))]:=by
 have hlen:(pre++X++mid++Y++post).length=pre.length+X.length+mid.length+Y.length+post.length:=by simp;omega
 refine Fn.body Tryz.func165 rfl 38 rfl fun w H B a h=>Jq 1 [] [(0,.t (.c (.own 0 (pre++X++mid++Y++post).length))),(1,vN pre.length),(2,vI ((pre.length+X.length+mid.length:Nat):Int)),(3,vN X.length),(10,vI 0)] [(0,.row 81 3 ((pre++X++mid++Y++post).map za3.d))] h fun a w h=>qZ ?_
 refine zap (ι:=(Nat) × (List za3)) (fun (i,ys)=>SwI pre X mid Y post i ys)
   (fun (i,ys)=>[(0,.t (.c (.own 0 (pre++X++mid++Y++post).length))),(1,vN pre.length),(2,vI ((pre.length+X.length+mid.length:Nat):Int)),(3,vN X.length),(10,vN i)])
   (fun (i,ys)=>[(0,.row 81 3 (ys.map za3.d))])
   (fun (i,ys)=>X.length - i) (0,(pre++X++mid++Y++post)) ?_ h (by kernel_rfl) (by kernel_rfl) ?_
 ·exact ⟨Nat.zero_le _,by simp⟩
 clear h;rintro ⟨i,ys⟩ a w hI h;dsimp only at h;have hly:=sw_len hI hn;refine qW (Je 1 [] [] [(13,vb (decide ((i:Int)<(X.length:Int))))] h fun a w h=>zam ((i:Int)<(X.length:Int)) h (fun hc1 hc1'=>?_) (fun hc2 hc2'=>?_))
 ·refine qU (za1 (qW (qZ ?_)));obtain ⟨x1,hx1⟩:=gl ys (pre.length+X.length+mid.length+i);obtain ⟨x2,hx2⟩:=gl ys (pre.length+i);refine Jm 1 [(3,.g (Op.arith (op:=.add) (d:=19) (xt:=3) (yt:=3) (k:=.i64) (m:=(pre.length:Int)) (n:=(i:Int)) (r:=((pre.length+i:Nat):Int)) (OV.tmp 17 _) (OV.tmp 18 _) (.inl ⟨rfl,(by omega)⟩) i6)),(7,.g (Op.arith (op:=.add) (d:=23) (xt:=3) (yt:=3) (k:=.i64) (m:=((pre.length+X.length+mid.length:Nat):Int)) (n:=(i:Int)) (r:=((pre.length+X.length+mid.length+i:Nat):Int)) (OV.tmp 21 _) (OV.tmp 22 _) (.inl ⟨rfl,(by omega)⟩) i6)),(11,.g (Op.arith (op:=.add) (d:=27) (xt:=3) (yt:=3) (k:=.i64) (m:=((pre.length+X.length+mid.length:Nat):Int)) (n:=(i:Int)) (r:=((pre.length+X.length+mid.length+i:Nat):Int)) (OV.tmp 25 _) (OV.tmp 26 _) (.inl ⟨rfl,(by omega)⟩) i6)),(12,.g (xO 28 24 0 (pre++X++mid++Y++post).length (pre.length+X.length+mid.length+i) zcm (OV.tmp 27 _))),(13,.g (Op.loadR_agg (d:=29) (t:=28) (n:=0) (i:=(pre.length+X.length+mid.length+i)) (fo:=0) (rty:=81) (es:=3) (xs:=[.raw (.int .i64 x1.v),.raw (.bool x1.c.neg),nsl x1.c.abs]) zgz rfl (zab hx1 (f:=za3.d)) rfl rfl)),(17,.g (Op.arith (op:=.add) (d:=33) (xt:=3) (yt:=3) (k:=.i64) (m:=(pre.length:Int)) (n:=(i:Int)) (r:=((pre.length+i:Nat):Int)) (OV.tmp 31 _) (OV.tmp 32 _) (.inl ⟨rfl,(by omega)⟩) i6)),(18,.g (xO 34 30 0 (pre++X++mid++Y++post).length (pre.length+i) zcm (OV.tmp 33 _))),(19,.g (Op.loadR_agg (d:=35) (t:=34) (n:=0) (i:=(pre.length+i)) (fo:=0) (rty:=81) (es:=3) (xs:=[.raw (.int .i64 x2.v),.raw (.bool x2.c.neg),nsl x2.c.abs]) zgz rfl (zab hx2 (f:=za3.d)) rfl rfl)),(20,.g (xO 36 16 0 (pre++X++mid++Y++post).length (pre.length+i) zcm (OV.tmp 19 _))),(21,.g (Op.storeR (t:=36) (n:=0) (i:=(pre.length+i)) (fo:=0) (rty:=81) (es:=3) (r:=za3.d x2) (ds:=[.raw (.int .i64 x1.v),.raw (.bool x1.c.neg),nsl x1.c.abs]) (rs:=[(29,.t (.agg ([.d (.raw (.int .i64 x1.v))]++zi x1.c)))]) (rows:=ys.map za3.d) (rows':=(ys.set (pre.length+i) x1).map za3.d) zgz (OV.tmp 29 _) rfl rfl rfl (zab hx2 (f:=za3.d)) (by simp [za3.d]) (zbu (xs:=ys) (F:=za3.d) (pre.length+i) _ _ rfl))),(22,.g (xO 37 20 0 (pre++X++mid++Y++post).length (pre.length+X.length+mid.length+i) zcm (OV.tmp 23 _))),(23,.g (Op.storeR (t:=37) (n:=0) (i:=(pre.length+X.length+mid.length+i)) (fo:=0) (rty:=81) (es:=3) (r:=za3.d x1) (ds:=[.raw (.int .i64 x2.v),.raw (.bool x2.c.neg),nsl x2.c.abs]) (rs:=[(35,.t (.agg ([.d (.raw (.int .i64 x2.v))]++zi x2.c)))]) (rows:=(ys.set (pre.length+i) x1).map za3.d) (rows':=((ys.set (pre.length+i) x1).set (pre.length+X.length+mid.length+i) x2).map za3.d) zgz (OV.tmp 35 _) rfl rfl rfl (zab ((List.getElem?_set_ne (by omega)).trans hx1) (f:=za3.d)) (by simp [za3.d]) (zbu (xs:=(ys.set (pre.length+i) x1)) (F:=za3.d) (pre.length+X.length+mid.length+i) _ _ rfl)))] [13] [] [(0,.row 81 3 (((ys.set (pre.length+i) x1).set (pre.length+X.length+mid.length+i) x2).map za3.d))] h fun a w h=>?_;refine za8 (za1 (Jf 1 [(1,.j1 i)] [] [(10,vI ((i:Int)+1))] h fun a w h=>za1 (zag (x:=(i,ys)) (y:=(i+1,((ys.set (pre.length+i) x1).set (pre.length+X.length+mid.length+i) x2))) h ?_ ?_)))
  ·exact sw_step hI hn (by omega) hx2 hx1
  show X.length - (i+1)<X.length - i;omega
 refine wp_exit (za9 (za9 (za5 ?_)))
 have hxs:ys=(pre++Y++mid++X++post):=by
  obtain ⟨g1,g2⟩:=hI;have hk:i=X.length:=by omega
  rw [g2,hk,List.take_of_length_le (Nat.le_refl _),List.drop_of_length_le (Nat.le_refl _),List.take_of_length_le (by omega),List.drop_of_length_le (by omega)];simp
 rw [hxs] at h;refine zea [] h Exit.normal (.inr rfl)  rfl trivial ?_;rfl
theorem tg_0:za4 Tryz.prog 165:=za4.mk' (by kernel_rfl)
theorem Sswap2 {r0 r1:List za3} {ln:Nat} {ia ib ic:Int} (pre X mid Y post:List za3) (e0:r0=pre++X++mid++Y++post) (e1:r1=pre++Y++mid++X++post) (el:ln=r0.length) (ea:ia=(pre.length:Int)) (eb:ib=((pre.length+X.length+mid.length:Nat):Int)) (ec:ic=(X.length:Int)) (hn:X.length=Y.length) (hl:r0.length<=1000000) :
  Fn Tryz.prog 165 [(0,.row 81 3 (r0.map za3.d))] [vO 0 ln,vi .i64 ia,vi .i64 ib,vi .i64 ic,.t (.c (.fn (.func 105) [] []))] (.tup []) [(0,.row 81 3 (r1.map za3.d))]:=by
 subst el e0 e1 ea eb ec
 exact Sswaprange pre X mid Y post hn hl
structure RotI (X Y D1 X1 Y1 D2:List za3):Prop where
  eq:D1++Y1++X1++D2=Y++X
  l1:D1.length+X1.length=X.length
  l2:Y1.length+D2.length=Y.length
  p1:0<X1.length
  p2:0<Y1.length
theorem split_at {l:List za3} {n:Nat} (h:n<=l.length):∃ u v,l=u++v/\u.length=n:=⟨l.take n,l.drop n,(List.take_append_drop _ _).symm,by rw [List.length_take];omega⟩
theorem Srotate (pre X Y post:List za3) (hX:0<X.length) (hY:0<Y.length) (hl:pre.length+X.length+Y.length+post.length<=1000000):Fn Tryz.prog 158 [(0,.row 81 3 ((pre++X++Y++post).map za3.d))] [.t (.c (.own 0 (pre.length+X.length+Y.length+post.length))),vN pre.length,vI ((pre.length+X.length:Nat):Int),vI ((pre.length+X.length+Y.length:Nat):Int),.t (.c (.fn (.func 105) [] []))] (.tup []) [(0,.row 81 3 ((pre++(Y++X)++post).map za3.d))]:=by
 refine Fn.body Tryz.func158 rfl 58 rfl fun w H B a h=>Jq 1 [(2,.g (Op.arith (op:=.sub) (d:=14) (xt:=3) (yt:=3) (k:=.i64) (m:=((pre.length+X.length:Nat):Int)) (n:=(pre.length:Int)) (r:=(X.length:Int)) (OV.tmp 12 _) (OV.tmp 13 _) (.inr (.inl ⟨rfl,(by omega)⟩)) i6))] [(0,.t (.c (.own 0 (pre.length+X.length+Y.length+post.length)))),(2,vI ((pre.length+X.length:Nat):Int)),(3,vI ((pre.length+X.length+Y.length:Nat):Int)),(4,.t (.c (.fn (.func 105) [] []))),(10,vN X.length)] [(0,.row 81 3 ((pre++X++Y++post).map za3.d))] h fun a w h=>?_
 replace h:=h.conv (f':=F.of [(0,.t (.c (.own 0 (pre.length+X.length+Y.length+post.length)))),(2,vI ((pre.length+X.length:Nat):Int)),(3,vI ((pre.length+X.length+Y.length:Nat):Int)),(4,.t (.c (.fn (.func 105) [] []))),(10,vN X.length)] [(0,.row 81 3 ((pre++[]++X++Y++[]++post).map za3.d))]) (by rw [show (pre++X++Y++post:List za3)=pre++[]++X++Y++[]++post by simp]);refine Jq 1 [(2,.g (Op.arith (op:=.sub) (d:=17) (xt:=3) (yt:=3) (k:=.i64) (m:=((pre.length+X.length+Y.length:Nat):Int)) (n:=((pre.length+X.length:Nat):Int)) (r:=(Y.length:Int)) (OV.tmp 15 _) (OV.tmp 16 _) (.inr (.inl ⟨rfl,(by omega)⟩)) i6))] [(0,.t (.c (.own 0 (pre.length+X.length+Y.length+post.length)))),(2,vI ((pre.length+X.length:Nat):Int)),(4,.t (.c (.fn (.func 105) [] []))),(10,vN X.length),(11,vN Y.length)] [(0,.row 81 3 ((pre++[]++X++Y++[]++post).map za3.d))] h fun a w h=>qW (qZ ?_)
 refine zap (ι:=(List za3) × (List za3) × (List za3) × (List za3)) (fun (D1,X1,Y1,D2)=>RotI X Y D1 X1 Y1 D2)
   (fun (D1,X1,Y1,D2)=>[(0,.t (.c (.own 0 (pre.length+X.length+Y.length+post.length)))),(2,vI ((pre.length+X.length:Nat):Int)),(4,.t (.c (.fn (.func 105) [] []))),(10,vN X1.length),(11,vN Y1.length)])
   (fun (D1,X1,Y1,D2)=>[(0,.row 81 3 ((pre++D1++X1++Y1++D2++post).map za3.d))])
   (fun (D1,X1,Y1,D2)=>X1.length+Y1.length) ([],X,Y,[]) ?_ h (by kernel_rfl) (by kernel_rfl) ?_
 ·exact ⟨by simp,by simp,by simp,hX,hY⟩
 clear h;rintro ⟨D1,X1,Y1,D2⟩ a w hI h;dsimp only at h;obtain ⟨q0,q1,q2,q3,q4⟩:=hI;have hrow:(pre++D1++X1++Y1++D2++post).length=pre.length+X.length+Y.length+post.length:=by simp only [List.length_append];omega
 refine qW (Je 1 [] [] [(20,vb ((X1.length:Int) != (Y1.length:Int)))] h fun a w h=>cS ((X1.length:Int) != (Y1.length:Int)) h (fun hc1=>?_) (fun hc4=>?_))
 ·have hc1':=hc1;(try simp at hc1');refine qU (za1 (qZ (Je 1 [] [20] [(23,vb (decide ((X1.length:Int)>(Y1.length:Int))))] h fun a w h=>zam ((X1.length:Int)>(Y1.length:Int)) h (fun hc2 hc2'=>?_) (fun hc3 hc3'=>?_))))
  ·obtain ⟨Xa,Xb,hs1,hs2⟩:=split_at (l:=X1) (n:=Y1.length) (by omega);have hxl:X1.length=Xa.length+Xb.length:=by rw [hs1,List.length_append]
   refine Jd 1 [(3,.g (Op.arith (op:=.sub) (d:=27) (xt:=3) (yt:=3) (k:=.i64) (m:=((pre.length+X.length:Nat):Int)) (n:=(X1.length:Int)) (r:=((pre.length+D1.length:Nat):Int)) (OV.tmp 25 _) (OV.tmp 26 _) (.inr (.inl ⟨rfl,(by omega)⟩)) i6)),(7,.call (Sswap2 (ln:=(pre.length+X.length+Y.length+post.length)) (ia:=((pre.length+D1.length:Nat):Int)) (ib:=((pre.length+X.length:Nat):Int)) (ic:=(Y1.length:Int)) (r0:=(pre++D1++X1++Y1++D2++post)) (r1:=(pre++(D1++Y1)++Xb++Xa++D2++post)) (pre++D1) Xa Xb Y1 (D2++post) (by rw [hs1];simp only [List.append_assoc]) (by first | (simp only [List.append_assoc];done) | simp only [List.append_assoc,List.nil_append]) (by first | exact hrow.symm | omega) (by first | omega | (simp only [List.length_append];omega) | (simp only [List.length_append];omega) | simp only [List.length_append]) (by first | omega | (simp only [List.length_append];omega) | (simp only [List.length_append,List.length_nil];omega) | simp only [List.length_append]) (by omega) (by omega) (by omega)) tg_0)] [23] [] [(0,.row 81 3 ((pre++(D1++Y1)++Xb++Xa++D2++post).map za3.d))] h fun a w h=>Jf 1 [(2,.g (Op.arith (op:=.sub) (d:=34) (xt:=3) (yt:=3) (k:=.i64) (m:=(X1.length:Int)) (n:=(Y1.length:Int)) (r:=(Xb.length:Int)) (OV.tmp 32 _) (OV.tmp 33 _) (.inr (.inl ⟨rfl,(by omega)⟩)) i6))] [] [(10,vN Xb.length)] h fun a w h=>za8 (za1 ?_);rw [<- hs2] at h;refine zag (x:=(D1,X1,Y1,D2)) (y:=((D1++Y1),Xb,Xa,D2)) h ?_ ?_
   ·exact ⟨by rw [<- q0,hs1];simp only [List.append_assoc],by simp only [List.length_append];omega,by omega,by omega,by omega⟩
   show Xb.length+Xa.length<X1.length+Y1.length;omega
  obtain ⟨Ya,Yb,hs1,hs3⟩:=split_at (l:=Y1) (n:=Y1.length - X1.length) (by omega);have hs2:Yb.length=X1.length:=by have:=congrArg List.length hs1;simp only [List.length_append] at this;omega
  have hxl:Y1.length=Ya.length+Yb.length:=by rw [hs1,List.length_append]
  refine Jd 1 [(3,.g (Op.arith (op:=.sub) (d:=38) (xt:=3) (yt:=3) (k:=.i64) (m:=((pre.length+X.length:Nat):Int)) (n:=(X1.length:Int)) (r:=((pre.length+D1.length:Nat):Int)) (OV.tmp 36 _) (OV.tmp 37 _) (.inr (.inl ⟨rfl,(by omega)⟩)) i6)),(6,.g (Op.arith (op:=.add) (d:=41) (xt:=3) (yt:=3) (k:=.i64) (m:=((pre.length+X.length:Nat):Int)) (n:=(Y1.length:Int)) (r:=((pre.length+X.length+Y1.length:Nat):Int)) (OV.tmp 39 _) (OV.tmp 40 _) (.inl ⟨rfl,(by omega)⟩) i6)),(8,.g (Op.arith (op:=.sub) (d:=43) (xt:=3) (yt:=3) (k:=.i64) (m:=((pre.length+X.length+Y1.length:Nat):Int)) (n:=(X1.length:Int)) (r:=((pre.length+X.length+Ya.length:Nat):Int)) (OV.tmp 41 _) (OV.tmp 42 _) (.inr (.inl ⟨rfl,(by omega)⟩)) i6)),(11,.call (Sswap2 (ln:=(pre.length+X.length+Y.length+post.length)) (ia:=((pre.length+D1.length:Nat):Int)) (ib:=((pre.length+X.length+Ya.length:Nat):Int)) (ic:=(X1.length:Int)) (r0:=(pre++D1++X1++Y1++D2++post)) (r1:=(pre++D1++Yb++Ya++(X1++D2)++post)) (pre++D1) X1 Ya Yb (D2++post) (by rw [hs1];simp only [List.append_assoc]) (by first | (simp only [List.append_assoc];done) | simp only [List.append_assoc,List.nil_append]) (by first | exact hrow.symm | omega) (by first | omega | (simp only [List.length_append];omega) | (simp only [List.length_append];omega) | simp only [List.length_append]) (by first | omega | (simp only [List.length_append];omega) | (simp only [List.length_append,List.length_nil];omega) | simp only [List.length_append]) (by omega) (by omega) (by omega)) tg_0)] [23] [] [(0,.row 81 3 ((pre++D1++Yb++Ya++(X1++D2)++post).map za3.d))] h fun a w h=>Jf 1 [(2,.g (Op.arith (op:=.sub) (d:=49) (xt:=3) (yt:=3) (k:=.i64) (m:=(Y1.length:Int)) (n:=(X1.length:Int)) (r:=(Ya.length:Int)) (OV.tmp 47 _) (OV.tmp 48 _) (.inr (.inl ⟨rfl,(by omega)⟩)) i6))] [] [(11,vN Ya.length)] h fun a w h=>za8 (za1 ?_);rw [<- hs2] at h;refine zag (x:=(D1,X1,Y1,D2)) (y:=(D1,Yb,Ya,(X1++D2))) h ?_ ?_
  ·exact ⟨by rw [<- q0,hs1];simp only [List.append_assoc],by omega,by simp only [List.length_append];omega,by omega,by omega⟩
  show Yb.length+Ya.length<X1.length+Y1.length;omega
 have hc4':=hc4;(try simp at hc4');refine wp_exit (za9 (za9 (za5 (za1 (Jn 1 [(3,.g (Op.arith (op:=.sub) (d:=53) (xt:=3) (yt:=3) (k:=.i64) (m:=((pre.length+X.length:Nat):Int)) (n:=(X1.length:Int)) (r:=((pre.length+D1.length:Nat):Int)) (OV.tmp 51 _) (OV.tmp 52 _) (.inr (.inl ⟨rfl,(by omega)⟩)) i6)),(7,.call (Sswap2 (ln:=(pre.length+X.length+Y.length+post.length)) (ia:=((pre.length+D1.length:Nat):Int)) (ib:=((pre.length+X.length:Nat):Int)) (ic:=(X1.length:Int)) (r0:=(pre++D1++X1++Y1++D2++post)) (r1:=(pre++D1++Y1++X1++D2++post)) (pre++D1) X1 [] Y1 (D2++post) (by simp only [List.append_assoc,List.nil_append]) (by first | (simp only [List.append_assoc];done) | simp only [List.append_assoc,List.nil_append]) (by first | exact hrow.symm | omega) (by first | omega | (simp only [List.length_append];omega) | (simp only [List.length_append];omega) | simp only [List.length_append]) (by first | omega | (simp only [List.length_append];omega) | (simp only [List.length_append,List.length_nil];omega) | simp only [List.length_append]) (by omega) (by omega) (by omega)) tg_0)] [] [(0,.row 81 3 ((pre++D1++Y1++X1++D2++post).map za3.d))] h fun a w h=>?_)))));have hxs:(pre++D1++Y1++X1++D2++post:List za3)=pre++(Y++X)++post:=by rw [<- q0];simp only [List.append_assoc]
 rw [hxs] at h;refine zea [] h Exit.normal (.inr rfl)  rfl trivial ?_;rfl
theorem th_2:za4 Tryz.prog 110:=za4.mk' (by kernel_rfl)
theorem sgn0_t {z:Int} (h:(sgn z == 0)=true):z=0:=zht.1 (by simpa using h)
def kat (l:List za3) (q:Nat):Int:=match l[q]? with | some x=>x.v | none=>0
theorem zet {l:List za3} {q:Nat} {x:za3} (h:l[q]?=some x):kat l q=x.v:=by simp [kat,h]
theorem kat_app {pre X post:List za3} {q r:Nat} (h:q<X.length) (hr:r=pre.length+q):kat (pre++X++post) r=kat X q:=by
 subst hr
 simp only [kat]
 rw [List.append_assoc,List.getElem?_append_right (by omega),Nat.add_sub_cancel_left,List.getElem?_append_left h]
theorem zfv:∀ {X:List za3}, Ris za3.v X->∀ {p q:Nat}, p<=q->q<X.length->kat X p<=kat X q
 | [],_,_,_,_,hq=>by simp at hq
 | x :: X,h,0,0,_,_=>Int.le_refl _
 | x :: X,h,0,q+1,_,hq=>by
  have hq':q<X.length:=by simpa using hq
  have h1:=h.1 _ (List.getElem_mem hq')
  have e1:kat (x :: X) 0=x.v:=zet rfl
  have e2:kat (x :: X) (q+1)=X[q].v:=zet (by rw [List.getElem?_cons_succ];exact List.getElem?_eq_getElem hq')
  rw [e1,e2];exact h1
 | x :: X,h,p+1,q+1,hpq,hq=>by
  have h1:=zfv h.2 (p:=p) (q:=q) (by omega) (by simpa using hq)
  simpa [kat] using h1
theorem zgf {X:List za3} {y:za3} (h:y ∈ X):∃ q,q<X.length/\kat X q=y.v:=by
 obtain ⟨q,hq⟩:=List.mem_iff_getElem?.1 h
 exact ⟨q,(List.getElem?_eq_some_iff.1 hq).1,zet hq⟩
theorem kat_l {X Y:List za3} {q:Nat} (h:q<X.length):kat (X++Y) q=kat X q:=by simp only [kat];rw [List.getElem?_append_left h]
theorem kat_r {X Y:List za3} {q:Nat}:kat (X++Y) (X.length+q)=kat Y q:=by simp only [kat];rw [List.getElem?_append_right (by omega),Nat.add_sub_cancel_left]
theorem zj6 {α:Type} {l:List α} (h:l.length=0):l=[]:=List.length_eq_zero_iff.1 h
theorem sym3 {a1 a2 b1 b2:List za3} (hX:Ris za3.v (a1++a2)) (hY:Ris za3.v (b1++b2)) (h1:a1.length=0\/b2.length=0\/kat (a1++a2) (a1.length - 1)<=kat (b1++b2) b1.length) (h2:a2.length=0\/b1.length=0\/kat (b1++b2) (b1.length - 1)<kat (a1++a2) a1.length) :
  ssV za3.v (a1++b1)++ssV za3.v (a2++b2)=ssV za3.v (a1++a2++(b1++b2)):=by
 refine sym_merge hX hY (fun x hx y hy=>?_) (fun x hx y hy=>?_)
 ·obtain ⟨q,hq,eq⟩:=zgf hx
  obtain ⟨r,hr,er⟩:=zgf hy
  rcases h1 with h | h | h
  ·omega
  ·omega
  ·have g1:=zfv hX (p:=q) (q:=a1.length - 1) (by omega) (by rw [List.length_append];omega)
   have g2:=zfv hY (p:=b1.length) (q:=b1.length+r) (by omega) (by rw [List.length_append];omega)
   rw [kat_l hq] at g1
   rw [kat_r] at g2
   omega
 ·obtain ⟨q,hq,eq⟩:=zgf hx
  obtain ⟨r,hr,er⟩:=zgf hy
  rcases h2 with h | h | h
  ·omega
  ·omega
  ·have g1:=zfv hX (p:=a1.length) (q:=a1.length+q) (by omega) (by rw [List.length_append];omega)
   have g2:=zfv hY (p:=r) (q:=b1.length - 1) (by omega) (by rw [List.length_append];omega)
   rw [kat_r] at g1
   rw [kat_l hr] at g2
   omega
theorem sym1 {x:za3} {b1 b2:List za3} (hY:Ris za3.v (b1++b2)) (h1:b1.length=0\/kat (b1++b2) (b1.length - 1)<x.v) (h2:b2.length=0\/x.v<=kat (b1++b2) b1.length):b1++x :: b2=ssV za3.v ([x]++(b1++b2)):=by
 refine sym_left hY (fun y hy=>?_) (fun y hy=>?_)
 ·obtain ⟨r,hr,er⟩:=zgf hy
  have g2:=zfv hY (p:=b1.length) (q:=b1.length+r) (by omega) (by rw [List.length_append];omega)
  rw [kat_r] at g2
  rcases h2 with h | h <;> omega
 ·obtain ⟨r,hr,er⟩:=zgf hy
  have g2:=zfv hY (p:=r) (q:=b1.length - 1) (by omega) (by rw [List.length_append];omega)
  rw [kat_l hr] at g2
  rcases h1 with h | h <;> omega
theorem sym2 {y:za3} {a1 a2:List za3} (hX:Ris za3.v (a1++a2)) (h1:a1.length=0\/kat (a1++a2) (a1.length - 1)<=y.v) (h2:a2.length=0\/y.v<kat (a1++a2) a1.length):a1++y :: a2=ssV za3.v (a1++a2++[y]):=by
 refine sym_right hX (fun x hx=>?_) (fun x hx=>?_)
 ·obtain ⟨r,hr,er⟩:=zgf hx
  have g2:=zfv hX (p:=r) (q:=a1.length - 1) (by omega) (by rw [List.length_append];omega)
  rw [kat_l hr] at g2
  rcases h1 with h | h <;> omega
 ·obtain ⟨r,hr,er⟩:=zgf hx
  have g2:=zfv hX (p:=a1.length) (q:=a1.length+r) (by omega) (by rw [List.length_append];omega)
  rw [kat_r] at g2
  rcases h2 with h | h <;> omega
theorem zi6 {l:List za3} {n:Nat} (h:n<=l.length):∃ u v,l=u++v/\u.length=n:=⟨l.take n,l.drop n,(List.take_append_drop _ _).symm,by rw [List.length_take];omega⟩
section
variable {pre X Y post:List za3}
theorem katX {q r:Nat} (h:q<X.length) (hr:r=pre.length+q):kat (pre++X++Y++post) r=kat X q:=by
 rw [show pre++X++Y++post=pre++X++(Y++post) by simp only [List.append_assoc]];exact kat_app h hr
theorem katY {q r:Nat} (h:q<Y.length) (hr:r=pre.length+X.length+q):kat (pre++X++Y++post) r=kat Y q :=
 kat_app (pre:=pre++X) h (by rw [List.length_append];exact hr)
theorem srch1 {i:Nat} (hX:X.length=1) (hY:Ris za3.v Y) (l1:pre.length+1<=i) (l2:i<=pre.length+1+Y.length) (h1:i=pre.length+1\/kat (pre++X++Y++post) (i - 1)<kat (pre++X++Y++post) pre.length) (h2:i=pre.length+1+Y.length\/kat (pre++X++Y++post) pre.length<=kat (pre++X++Y++post) i) :
  ∃ x b1 b2,X=[x]/\Y=b1++b2/\i=pre.length+1+b1.length/\b1++x :: b2=ssV za3.v (X++Y):=by
 obtain ⟨x,rfl⟩:=List.length_eq_one_iff.1 hX
 obtain ⟨b1,b2,rfl,hb⟩:=zi6 (l:=Y) (n:=i - (pre.length+1)) (by omega)
 rw [List.length_append] at l2 h2
 refine ⟨x,b1,b2,rfl,rfl,by omega,sym1 hY ?_ ?_⟩
 ·rcases h1 with h | h
  ·exact .inl (by omega)
  ·by_cases h0:b1.length=0
   ·exact .inl h0
   ·rw [katX (r:=pre.length) (q:=0) (by simp) (by simp),katY (r:=i - 1) (q:=b1.length - 1) (by rw [List.length_append];omega) (by simp;omega)] at h
    exact .inr h
 ·rcases h2 with h | h
  ·exact .inl (by omega)
  ·by_cases h0:b2.length=0
   ·exact .inl h0
   ·rw [katX (r:=pre.length) (q:=0) (by simp) (by simp),katY (r:=i) (q:=b1.length) (by rw [List.length_append];omega) (by simp;omega)] at h
    exact .inr h
theorem srch2 {i:Nat} (hY:Y.length=1) (hX:Ris za3.v X) (l1:pre.length<=i) (l2:i<=pre.length+X.length) (h1:i=pre.length\/kat (pre++X++Y++post) (i - 1)<=kat (pre++X++Y++post) (pre.length+X.length)) (h2:i=pre.length+X.length\/kat (pre++X++Y++post) (pre.length+X.length)<kat (pre++X++Y++post) i) :
  ∃ y a1 a2,Y=[y]/\X=a1++a2/\i=pre.length+a1.length/\a1++y :: a2=ssV za3.v (X++Y):=by
 obtain ⟨y,rfl⟩:=List.length_eq_one_iff.1 hY
 obtain ⟨a1,a2,rfl,hb⟩:=zi6 (l:=X) (n:=i - pre.length) (by omega)
 have l2:i<=pre.length+(a1.length+a2.length):=by rw [List.length_append] at l2;exact l2
 refine ⟨y,a1,a2,rfl,rfl,by omega,sym2 hX ?_ ?_⟩
 ·rcases h1 with h | h
  ·exact .inl (by omega)
  ·by_cases h0:a1.length=0
   ·exact .inl h0
   ·rw [katY (r:=pre.length+(a1++a2).length) (q:=0) (by simp) (by simp),katX (r:=i - 1) (q:=a1.length - 1) (by rw [List.length_append];omega) (by omega)] at h
    exact .inr h
 ·rcases h2 with h | h
  ·rw [List.length_append] at h;exact .inl (by omega)
  ·by_cases h0:a2.length=0
   ·exact .inl h0
   ·rw [katX (r:=i) (q:=a1.length) (by rw [List.length_append];omega) (by omega),katY (r:=pre.length+(a1++a2).length) (q:=0) (by simp) (by simp)] at h
    exact .inr h
theorem srch3 {s e:Nat} (hX:Ris za3.v X) (hY:Ris za3.v Y) (l1:pre.length<=s) (l2:s<=pre.length+X.length) (l3:pre.length+X.length<=e) (l4:e<=pre.length+X.length+Y.length)
  (h1:s=pre.length\/e=pre.length+X.length+Y.length\/kat (pre++X++Y++post) (s - 1)<=kat (pre++X++Y++post) e) (h2:s=pre.length+X.length\/e=pre.length+X.length\/kat (pre++X++Y++post) (e - 1)<kat (pre++X++Y++post) s) :
  ∃ a1 a2 b1 b2,X=a1++a2/\Y=b1++b2/\s=pre.length+a1.length/\e=pre.length+X.length+b1.length/\ssV za3.v (a1++b1)++ssV za3.v (a2++b2)=ssV za3.v (X++Y)/\Ris za3.v a1/\Ris za3.v a2/\Ris za3.v b1/\Ris za3.v b2:=by
 obtain ⟨a1,a2,rfl,ha⟩:=zi6 (l:=X) (n:=s - pre.length) (by omega)
 obtain ⟨b1,b2,rfl,hb⟩:=zi6 (l:=Y) (n:=e - (pre.length+(a1++a2).length)) (by omega)
 have rX:=Ris.app.1 hX
 have rY:=Ris.app.1 hY
 have la:(a1++a2).length=a1.length+a2.length:=List.length_append
 have lb:(b1++b2).length=b1.length+b2.length:=List.length_append
 refine ⟨a1,a2,b1,b2,rfl,rfl,by omega,by omega,sym3 hX hY ?_ ?_,rX.1,rX.2.1,rY.1,rY.2.1⟩
 ·by_cases g1:a1.length=0
  ·exact .inl g1
  by_cases g2:b2.length=0
  ·exact .inr (.inl g2)
  rcases h1 with h | h | h
  ·omega
  ·omega
  ·rw [katX (r:=s - 1) (q:=a1.length - 1) (by omega) (by omega),katY (r:=e) (q:=b1.length) (by omega) (by omega)] at h
   exact .inr (.inr h)
 ·by_cases g1:a2.length=0
  ·exact .inl g1
  by_cases g2:b1.length=0
  ·exact .inr (.inl g2)
  rcases h2 with h | h | h
  ·omega
  ·omega
  ·rw [katX (r:=s) (q:=a1.length) (by omega) (by omega),katY (r:=e - 1) (q:=b1.length - 1) (by omega) (by omega)] at h
   exact .inr (.inr h)
end
theorem up_at {p q r:List za3} {x:za3} {t:Nat} (k:Nat) (hk:k=p.length+t) (ht:t<=q.length):(p++q.take t++x :: (q.drop t++r))[k]?=some x:=zid k (by rw [List.length_append,List.length_take];omega)
theorem up_nx {p q r:List za3} {x y:za3} {t:Nat} (k:Nat) (hk:k=p.length+t+1) (hy:q[t]?=some y):(p++q.take t++x :: (q.drop t++r))[k]?=some y:=by
 obtain ⟨ht,rfl⟩:=List.getElem?_eq_some_iff.1 hy
 have e:q.drop t=q[t] :: q.drop (t+1):=List.drop_eq_getElem_cons ht
 have e2:p++q.take t++x :: (q.drop t++r)=(p++q.take t++[x])++q[t] :: (q.drop (t+1)++r):=by rw [e];simp only [List.append_assoc,List.cons_append,List.nil_append]
 rw [e2]
 exact zid k (by simp only [List.length_append,List.length_take,List.length_cons,List.length_nil];omega)
theorem up_step {p q r:List za3} {x y:za3} {t:Nat} (k k1:Nat) (hk:k=p.length+t) (hk1:k1=k+1) (hy:q[t]?=some y):((p++q.take t++x :: (q.drop t++r)).set k y).set k1 x=p++q.take (t+1)++x :: (q.drop (t+1)++r):=by
 obtain ⟨ht,rfl⟩:=List.getElem?_eq_some_iff.1 hy
 have e:q.drop t=q[t] :: q.drop (t+1):=List.drop_eq_getElem_cons ht
 have tx:q.take (t+1)=q.take t++[q[t]]:=by rw [List.take_add_one,List.getElem?_eq_getElem ht];rfl
 have hl:k=(p++q.take t).length:=by rw [List.length_append,List.length_take];omega
 rw [e,tx,hk1,hl,List.set_append_right _ _ (Nat.le_refl _),Nat.sub_self,List.set_cons_zero,List.set_append_right _ _ (by omega),Nat.add_sub_cancel_left,List.cons_append,List.set_cons_succ,List.set_cons_zero]
 simp only [List.append_assoc,List.cons_append,List.nil_append]
theorem dn_step {p q r:List za3} {x y:za3} {t:Nat} (k k1:Nat) (hk:k=p.length+t) (hk1:k1=k - 1) (ht:0<t) (hy:q[t - 1]?=some y):((p++q.take t++x :: (q.drop t++r)).set k y).set k1 x=p++q.take (t - 1)++x :: (q.drop (t - 1)++r):=by
 obtain ⟨t,rfl⟩:∃ s,t=s+1:=⟨t - 1,by omega⟩
 rw [Nat.add_sub_cancel] at hy ⊢
 obtain ⟨ht,rfl⟩:=List.getElem?_eq_some_iff.1 hy
 have e:q.drop t=q[t] :: q.drop (t+1):=List.drop_eq_getElem_cons ht
 have tx:q.take (t+1)=q.take t++[q[t]]:=by rw [List.take_add_one,List.getElem?_eq_getElem ht];rfl
 have hl:k=(p++q.take t).length+1:=by rw [List.length_append,List.length_take];omega
 have hl1:k1=(p++q.take t).length:=by omega
 have e2:p++(q.take t++[q[t]])++x :: (q.drop (t+1)++r)=(p++q.take t)++q[t] :: x :: (q.drop (t+1)++r):=by simp only [List.append_assoc,List.cons_append,List.nil_append]
 rw [e,tx,e2,hl1,hl,List.set_append_right _ _ (by omega),Nat.add_sub_cancel_left,List.set_cons_succ,List.set_cons_zero,List.set_append_right _ _ (Nat.le_refl _),Nat.sub_self,List.set_cons_zero]
 simp only [List.append_assoc,List.cons_append]
theorem dn_nx {p q r:List za3} {x y:za3} {t:Nat} (k:Nat) (hk:k+1=p.length+t) (ht:0<t) (hy:q[t - 1]?=some y):(p++q.take t++x :: (q.drop t++r))[k]?=some y:=by
 obtain ⟨t,rfl⟩:∃ s,t=s+1:=⟨t - 1,by omega⟩
 rw [Nat.add_sub_cancel] at hy
 obtain ⟨ht,rfl⟩:=List.getElem?_eq_some_iff.1 hy
 have tx:q.take (t+1)=q.take t++[q[t]]:=by rw [List.take_add_one,List.getElem?_eq_getElem ht];rfl
 have e2:p++q.take (t+1)++x :: (q.drop (t+1)++r)=(p++q.take t)++q[t] :: (x :: (q.drop (t+1)++r)):=by rw [tx];simp only [List.append_assoc,List.cons_append,List.nil_append]
 rw [e2]
 exact zid k (by simp only [List.length_append,List.length_take];omega)
theorem half (x:Nat):(x:Int).fdiv (2 ^ 1)=((x / 2:Nat):Int):=by
 rw [Int.fdiv_eq_ediv_of_nonneg _ (by decide)];omega
/-- a bound of a part: told, or left out -/
inductive BO:Option Operand->Nat->Nat->List (Nat × V)->Prop
  | no (n:Nat):BO none n n []
  | yes {y:Operand} {k:IntKind} {i:Nat} {rs:List (Nat × V)} (n:Nat) (h:OV y (vi k i) rs):BO (some y) n i rs
section
variable {P:Program}
theorem BO.low {x:Option Operand} {l h:Nat} {rs:List (Nat × V)} (hx:BO x 0 l rs) {e:E} {f:F} {H:Im} {B:Bl} {a:Act} {w:World} (hok:Ok e f H B a w) (hr:∀ p ∈ rs,f.s p.1=some p.2) (hl:l<=h) (c:BoundsCode) :
  (match x.map a.eval with | some v=>Instr.sliceBound v h c | none=>pure 0).run P w = .ok l w:=by
 cases hx with
 | no=>simp
 | yes _ hv =>
  have h2:=(hv.eval hok hr).rawI
  simp only [Option.map_some]
  rw [h2,run_sliceBound (P:=P) w _ _ h c (by omega) (by omega)]
  simp
theorem BO.high {x:Option Operand} {n l h:Nat} {rs:List (Nat × V)} (hx:BO x n l rs) {e:E} {f:F} {H:Im} {B:Bl} {a:Act} {w:World} (hok:Ok e f H B a w) (hr:∀ p ∈ rs,f.s p.1=some p.2) (hl:l<=h) (c:BoundsCode) :
  (match x.map a.eval with | some v=>Instr.sliceBound v h c | none=>pure n).run P w = .ok l w:=by
 cases hx with
 | no=>simp
 | yes _ hv =>
  have h2:=(hv.eval hok hr).rawI
  simp only [Option.map_some]
  rw [h2,run_sliceBound (P:=P) w _ _ h c (by omega) (by omega)]
  simp
theorem zh2 {lo hi:Option Operand} {len cap l h:Nat} {rs rs':List (Nat × V)} {is:Bool} (hl:BO lo 0 l rs) (hh:BO hi len h rs') {e:E} {f:F} {H:Im} {B:Bl} {a:Act} {w:World} (hok:Ok e f H B a w) (hr:∀ p ∈ rs,f.s p.1=some p.2) (hr':∀ p ∈ rs', f.s p.1=some p.2)
  (h1:l<=h) (h2:h<=cap):(Instr.sliceBounds is len cap (lo.map a.eval) (hi.map a.eval) none).run P w = .ok (l,h,cap) w:=by
 have g1:=hl.low (P:=P) hok hr h1 .sliceB
 have g2:=hh.high (P:=P) hok hr' h2 (if is then .sliceAcap else .sliceAlen)
 cases lo with
 | none =>
  cases hi with
  | none=>cases hl;cases hh;simp [Instr.sliceBounds]
  | some y=>simp only [Option.map_some,Option.map_none] at g1 g2 ⊢;cases hl;simp [Instr.sliceBounds,g2]
 | some x =>
  cases hi with
  | none=>simp only [Option.map_some,Option.map_none] at g1 g2 ⊢;cases hh;simp [Instr.sliceBounds,g1]
  | some y=>simp only [Option.map_some] at g1 g2 ⊢;simp [Instr.sliceBounds,g1,g2]
theorem zfg {t el:TypeId} {es:Nat} (hs:SlT P t el es) {ao:Option Addr} {len cap l h:Nat} {lo hi:Option Value} {w:World} (hb:(Instr.sliceBounds true len cap lo hi none).run P w = .ok (l,h,cap) w) :
  (Instr.sliceAt t (.slice ao len cap) lo hi none).run P w = .ok (.slice (if cap=l then ao else ao.map (·.add (l*es))) (h - l) (cap - l)) w:=by
 simp only [Instr.sliceAt,Instr.slice,Sem.run_bind,run_underlying hs.hu,Result.andThen_ok,hb,size_run hs.hs,Sem.run_pure]
theorem Op.sliceD {d t es l h:Nat} {lo hi:Option Operand} {rows rows':List (List D)} {rs rs':List (Nat × V)} {xt el ty:TypeId} {pos af gd} (hs:SlT P xt el es) (hl:BO lo 0 l rs) (hh:BO hi rows.length h rs') (h1:l<=h) (h2:h<=rows.length) (he:(rows.drop l).take (h - l)=rows') :
  zbe P ⟨some d,.slice xt (.tmp t) lo hi none,ty,pos,af,gd⟩ { rs:=(t,.t (.c (.d (.sl es rows)))) :: (rs++rs'),ws:=[(d,some (.t (.c (.d (.sl es rows')))))] } :=
 zbe.value d _ rfl rfl rfl fun e f H B a w hok hr2=>by
  have g1:=hok.slot t _ (hr2.1 (t,.t (.c (.d (.sl es rows)))) (by simp))
  have g3:DR H (.sl es rows) (a.eval (.tmp t)):=g1
  have bounds:∀ cap,rows.length<=cap->(Instr.sliceBounds true rows.length cap (lo.map a.eval) (hi.map a.eval) none).run P w = .ok (l,h,cap) w:=fun cap hc =>
   zh2 hl hh hok (fun p hp=>hr2.1 p (by simp [hp])) (fun p hp=>hr2.1 p (by simp [hp])) h1 (by omega)
  generalize hv0:a.eval (.tmp t)=v at g3
  subst he
  cases g3 with
  | nil _ ao c k1 k2 =>
   obtain rfl:h=0:=by simpa using h2
   obtain rfl:l=0:=by omega
   have hrun:=zfg (ao:=ao) hs (bounds c (Nat.zero_le _))
   refine ⟨.slice (if c=0 then ao else ao.map (·.add (0*es))) (0 - 0) (c - 0),?_,?_⟩
   ·generalize a.eval=ρ at hv0 hrun ⊢
    have hrun':(Instr.sliceAt xt (ρ (.tmp t)) (lo.map ρ) (hi.map ρ) ((none:Option Operand).map ρ)).run P w = .ok (.slice (if c=0 then ao else ao.map (·.add (0*es))) (0 - 0) (c - 0)) w:=by rw [hv0];exact hrun
    simp only [execOp,Sem.run_bind,hrun', Result.andThen_ok,Sem.run_pure]
   ·show DR H _ _
    simp only [List.drop_nil,List.take_nil,Nat.sub_zero]
    refine DR.nil es _ c (fun hn=>?_) k2
    split at hn
    ·exact k1 hn
    ·cases ao with
     | none=>exact k1 rfl
     | some _=>cases hn
  | sl _ _ b o c arr ty' fz vs hp hb hlc hc hes hv hx =>
   have hrun:=zfg (ao:=some ⟨b,o,none⟩) hs (bounds c hlc)
   refine ⟨.slice (if c=l then some ⟨b,o,none⟩ else (some (⟨b,o,none⟩:Addr)).map (·.add (l*es))) (h - l) (c - l),?_,?_⟩
   ·generalize a.eval=ρ at hv0 hrun ⊢
    have hrun':(Instr.sliceAt xt (ρ (.tmp t)) (lo.map ρ) (hi.map ρ) ((none:Option Operand).map ρ)).run P w = .ok (.slice (if c=l then some ⟨b,o,none⟩ else (some (⟨b,o,none⟩:Addr)).map (·.add (l*es))) (h - l) (c - l)) w:=by rw [hv0];exact hrun
    simp only [execOp,Sem.run_bind,hrun', Result.andThen_ok,Sem.run_pure]
   ·show DR H _ _
    by_cases h0:h - l=0
    ·rw [h0,List.take_zero]
     refine DR.nil es _ _ (fun hn=>?_) (by omega)
     split at hn <;> cases hn
    ·have hlen:((rows.drop l).take (h - l)).length=h - l:=by rw [List.length_take,List.length_drop];omega
     rw [if_neg (by omega)]
     simp only [Option.map_some,Addr.add_mid]
     have:=DR.sl (H:=H) es ((rows.drop l).take (h - l)) b (o+l*es) (c - l) arr ty' fz (fun i j=>vs (l+i) j) (by omega) hb (by omega) (by omega) (fun i hi2=>by
       rw [List.getElem_take,List.getElem_drop];exact hes _ _)
      (fun i hi2 j hj=>by
       have:=hv (l+i) (by omega) j hj
       rw [Nat.add_mul] at this
       rw [<- this];congr 1;omega)
      (fun i hi2 j hj=>by
       have e1:((rows.drop l).take (h - l))[i]=rows[l+i]'(by omega):=by rw [List.getElem_take,List.getElem_drop]
       have hj':j<(rows[l+i]'(by omega)).length:=by rw [<- e1];exact hj
       have e2:((rows.drop l).take (h - l))[i][j]=(rows[l+i]'(by omega))[j]:=by simp only [e1]
       rw [e2];exact hx (l+i) (by omega) j hj')
     rwa [hlen] at this
theorem Ok.ownCap {e:E} {f:F} {H:Im} {B:Bl} {a:Act} {w:World} (h:Ok e f H B a w) {n:Nat} {ty:TypeId} {es:Nat} {rows:List (List D)} (hl:f.l n=some (.row ty es rows)) {len k:Nat} (hk:k<=rows.length) {v:Value} (hv:CR H B (.own n len) v) :
  ∃ ao c,v = .slice ao len c/\k<=c/\((B n=none/\len=0/\c=0)\/∃ b,B n=some (b,c)/\ao=some ⟨b,0,none⟩):=by
 simp only [CR] at hv
 cases hB:B n with
 | none =>
  rw [hB] at hv
  obtain ⟨rfl,ao,rfl⟩:=hv
  have h1:=h.loc n _ hl
  simp only [LR,hB] at h1
  rw [h1] at hk
  exact ⟨ao,0,rfl,hk,.inl ⟨rfl,rfl,rfl⟩⟩
 | some q =>
  obtain ⟨b,c⟩:=q
  rw [hB] at hv
  obtain ⟨arr,g1,g2,g3,g4,g5,g6⟩:=h.row hl hB
  exact ⟨_,c,hv,by omega,.inr ⟨b,rfl,rfl⟩⟩
theorem Op.sliceLo {d t n len l es:Nat} {y:Operand} {k:IntKind} {rows:List (List D)} {rs:List (Nat × V)} {rty xt el ty:TypeId} {pos af gd} (hs:SlT P xt el es) (hlen:len<=rows.length) (hy:OV y (vi k l) rs) (h1:l<=len) {len':Nat} (he:len - l=len') :
  zbe P ⟨some d,.slice xt (.tmp t) (some y) none none,ty,pos,af,gd⟩ { rs:=(t,.t (.c (.own n len))) :: rs,rl:=[(n,.row rty es rows)],ws:=[(d,some (.t (.c (.sub n (l*es) len'))))] } :=
 zbe.value d _ rfl rfl rfl fun e f H B a w hok hr2=>by
  have g1:=hok.slot t _ (hr2.1 (t,.t (.c (.own n len))) (by simp))
  obtain ⟨ao,c,hv,hc,hB⟩:=hok.ownCap (hr2.2 (n,.row rty es rows) (by simp)) hlen g1
  have hv:a.eval (.tmp t) = .slice ao len c:=hv
  subst he
  have hb:=zh2 (P:=P) (is:=true) (lo:=some y) (hi:=none) (len:=len) (cap:=c) (BO.yes 0 hy) (BO.no len) hok (fun p hp=>hr2.1 p (by simp [hp])) (fun p hp=>by cases hp) h1 hc
  have hrun:=zfg (ao:=ao) hs hb
  refine ⟨.slice (if c=l then ao else ao.map (·.add (l*es))) (len - l) (c - l),?_,⟨⟨_,_,rfl⟩,fun hlt=>?_⟩⟩
  ·generalize a.eval=ρ at hv hrun ⊢
   have hrun':(Instr.sliceAt xt (ρ (.tmp t)) ((some y).map ρ) ((none:Option Operand).map ρ) ((none:Option Operand).map ρ)).run P w = .ok (.slice (if c=l then ao else ao.map (·.add (l*es))) (len - l) (c - l)) w:=by rw [hv];exact hrun
   simp only [execOp,Sem.run_bind,hrun', Result.andThen_ok,Sem.run_pure]
  ·rcases hB with ⟨_,h3,_⟩ | ⟨b,h3,rfl⟩
   ·omega
   ·refine ⟨b,c,c - l,h3,?_⟩
    rw [if_neg (by omega)]
    simp only [Option.map_some,Addr.add_mid,Nat.zero_add]
theorem Op.sliceHi {d t n len h es:Nat} {y:Operand} {k:IntKind} {rows:List (List D)} {rs:List (Nat × V)} {rty xt el ty:TypeId} {pos af gd} (hs:SlT P xt el es) (hlen:h<=rows.length) (hy:OV y (vi k h) rs) :
  zbe P ⟨some d,.slice xt (.tmp t) none (some y) none,ty,pos,af,gd⟩ { rs:=(t,.t (.c (.own n len))) :: rs,rl:=[(n,.row rty es rows)],ws:=[(d,some (.t (.c (.own n h))))] } :=
 zbe.value d _ rfl rfl rfl fun e f H B a w hok hr2=>by
  have g1:=hok.slot t _ (hr2.1 (t,.t (.c (.own n len))) (by simp))
  obtain ⟨ao,c,hv,hc,hB⟩:=hok.ownCap (hr2.2 (n,.row rty es rows) (by simp)) hlen g1
  have hv:a.eval (.tmp t) = .slice ao len c:=hv
  have hb:=zh2 (P:=P) (is:=true) (lo:=none) (hi:=some y) (len:=len) (cap:=c) (BO.no 0) (BO.yes len hy) hok (fun p hp=>by cases hp) (fun p hp=>hr2.1 p (by simp [hp])) (Nat.zero_le _) (by omega)
  have hrun:=zfg (ao:=ao) hs hb
  have e1:(if c=0 then ao else ao.map (·.add (0*es)))=ao:=by
   split
   ·rfl
   ·rcases hB with ⟨_,_,h3⟩ | ⟨b,h3,rfl⟩
    ·omega
    ·simp [Addr.add_mid]
  rw [e1] at hrun
  refine ⟨.slice ao h c,?_,?_⟩
  ·generalize a.eval=ρ at hv hrun ⊢
   have hrun':(Instr.sliceAt xt (ρ (.tmp t)) ((none:Option Operand).map ρ) ((some y).map ρ) ((none:Option Operand).map ρ)).run P w = .ok (.slice ao h c) w:=by rw [hv];exact hrun
   simp only [execOp,Sem.run_bind,hrun', Result.andThen_ok,Sem.run_pure]
  ·show CR H B (.own n h) _
   simp only [CR]
   rcases hB with ⟨h2,h3,h4⟩ | ⟨b,h3,rfl⟩
   ·rw [h2];exact ⟨by omega,ao,by rw [show h=0 by omega,h4]⟩
   ·rw [h3]
theorem Op.clearCut {o:Option Nat} {t n off len l es:Nat} {rows:List (List D)} {zs:List C} {rty xt el ty:TypeId} {pos af gd} (hu:P.underlying xt=some (.slice el)) (hz:Zero P el zs) (hzl:zs.length=es) (ho:off=l*es) (hlen:l+len=rows.length)
  (x:List (Nat × Option V)) (hx:x=(match o with | none=>[] | some d=>[(d,some (.tup []))])) :
  zbe P ⟨o,.call { callee:=.builtin .clear,args:=#[.tmp t],argTypes:=#[xt] }, ty,pos,af,gd⟩ { rs:=[(t,.t (.c (.sub n off len)))],rl:=[(n,.row rty es rows)],ws:=x,wl:=[(n,some (.row rty es (rows.take l)))] }:=by
 rintro e f a w Q ⟨H,B,hok⟩ hr2 hnw hb0
 have hfl:=hr2.2 (n,.row rty es rows) (by simp)
 have hv:CR H B (.sub n off len) (a.eval (.tmp t)):=hok.slot t _ (hr2.1 (t,.t (.c (.sub n off len))) (by simp))
 obtain ⟨⟨ao,c,hv⟩,hv2⟩:=hv
 obtain ⟨z,zl,hz1,hz2,hz3⟩:=hz.ex
 have hzl2:zl.length=es:=by rw [<- (hz3 H B).length];exact hzl
 -- the run
 obtain ⟨w', hrun,hw'⟩:∃ w', (Builtin.clear_ #[xt] ty #[a.eval (.tmp t)]).run P w = .ok (.tuple #[]) w'/\Ok e ⟨f.s,fun m=>if m=n then some (.row rty es (rows.take l)) else f.l m⟩ H B a w':=by
  have cut:Ok e ⟨f.s,fun m=>if m=n then some (.row rty es (rows.take l)) else f.l m⟩ H B a w:=by
   obtain ⟨H', B', h'⟩:=(show St e f a w from ⟨H,B,hok⟩).cutR n l es rty hfl
   have h1:=hok.setL n _ (.row rty es (rows.take l)) hfl fun hu=>by
    simp only [LR] at hu ⊢
    split at hu
    ·rw [hu];simp
    ·obtain ⟨arr,h1,h2,h3,h4,h5,h6⟩:=hu
     have h5':∀ r ∈ rows.take l,r.length=es:=fun r hr=>h5 r (List.mem_of_mem_take hr)
     have h3':(rows.take l).length<=_:=Nat.le_trans (by rw [List.length_take];omega) h3
     refine ⟨arr,h1,h2,h3', h4,h5', (zcx h2 h3' h5').2 fun i r hr f x hx=>?_⟩
     rw [List.getElem?_take] at hr
     split at hr
     ·exact (zcx h2 h3 h5).1 h6 i r hr f x hx
     ·cases hr
   refine ⟨h1.df,h1.n,h1.ext,h1.sat,h1.slot,fun m y hy=>h1.loc m y ?_,fun m y b c hy=>h1.priv m y b c ?_,fun m k y y' b c c' hy hy'=>h1.inj m k y y' b c c' ?_ ?_,h1.low,h1.le,h1.keep⟩ <;> (simp only [F.setL];first | (simpa using hy) | (simpa using hy'))
  by_cases h0:len=0
  ·subst h0
   refine ⟨w,?_,cut⟩
   rw [hv]
   cases ao <;> simp [Builtin.clear_,run_underlying hu]
  ·obtain ⟨b,cc,k,hB,hv3⟩:=hv2 (by omega)
   obtain ⟨arr,hcl,h2,h3,h4,h5,h6⟩:=hok.row hfl hB
   have hzc:((Builtin.zeroCells z.cells len).toList).length=len*es:=by simp [Builtin.zeroCells,hz2,hzl2]
   have hle:rows.length*es<=cc*es:=Nat.mul_le_mul_right _ h3
   have hfit:off+len*es<=arr.length:=by rw [h2,ho,<- Nat.add_mul,hlen];exact hle
   obtain ⟨k1,k2,k3,k4,k5,k6⟩:=zei (Builtin.zeroCells z.cells len).toList off w arr hcl
   refine ⟨w.setCells b off (Builtin.zeroCells z.cells len).toList,?_,?_⟩
   ·have hst:=run_storeCells_cells (P:=P) b off (Builtin.zeroCells z.cells len).toList 0 w (fun j hj=>by
     rw [zey hcl (o:=off+0+j) (v:=arr[off+0+j]'(by omega)) (List.getElem?_eq_getElem _)];rfl) (fun j hj=>by simp [World.frozen?, hcl]) (fun v hv=>by
     simp only [Builtin.zeroCells,hz2,Array.toList_map,List.mem_map] at hv
     obtain ⟨i,hi,rfl⟩:=hv
     have hm:i % zl.length<zl.length:=by
      refine Nat.mod_lt _ (Nat.pos_of_ne_zero fun e0=>?_)
      have hi':i<len*zl.length:=by simpa using hi
      rw [e0] at hi';omega
     have e1:((⟨zl⟩:Array Value)[i % (⟨zl⟩:Array Value).size]!)=zl[i % zl.length]:=by simp [hm]
     rw [e1]
     obtain ⟨y,hy,hR⟩:=(hz3 H B).get (i % zl.length) (by rw [(hz3 H B).length];exact hm)
     rw [List.getElem?_eq_getElem hm] at hy
     injection hy with hy
     rw [hy]
     exact zif (CR.flat hR))
    have hzv:∀ w', (zeroValue el).run P w' = .ok z w':=fun w'=>Zero.run hz1 w'
    rw [hv3]
    cases len with
    | zero=>omega
    | succ m =>
     simp at hst
     simp [Builtin.clear_,hst,run_underlying hu,hzv]
   ·refine (hok.write (g:=⟨f.s,fun m=>if m=n then some (.row rty es (rows.take l)) else f.l m⟩) (l' := .row rty es (rows.take l)) hfl hB (fun _=>rfl) (fun _=>rfl) k2 k3 k4 k5 k6 ?_)
    simp only [LR,hB]
    have h5':∀ r ∈ rows.take l,r.length=es:=fun r hr=>h5 r (List.mem_of_mem_take hr)
    have h3':(rows.take l).length<=cc:=Nat.le_trans (by rw [List.length_take];omega) h3
    refine ⟨zk5 arr off (Builtin.zeroCells z.cells len).toList,k1,by rw [zdt];exact h2,h3', h4,h5', (zcx (by rw [zdt];exact h2) h3' h5').2 fun i r hr f x hx=>?_⟩
    rw [List.getElem?_take] at hr
    split at hr
    ·rename_i hil
     obtain ⟨u,j1,j2⟩:=h6 i r hr f x hx
     have hf:f<es:=by rw [<- h5 r (List.mem_of_getElem? hr)];exact (List.getElem?_eq_some_iff.1 hx).1
     have:(i+1)*es<=l*es:=Nat.mul_le_mul_right _ hil
     rw [Nat.add_mul] at this
     refine ⟨u,?_,j2⟩
     rw [zkl _ arr off _ (by omega),if_neg (by omega)]
     exact j1
    ·cases hr
 have hex:(execOp a.eval ⟨o,.call { callee:=.builtin .clear,args:=#[.tmp t],argTypes:=#[xt] }, ty,pos,af,gd⟩).run P w = .ok (.value (.tuple #[])) w':=by
  generalize a.eval=ρ at hrun ⊢
  have e1:(Array.map ρ #[.tmp t])=#[ρ (.tmp t)]:=by simp
  simp only [execOp,resolve,e1,Sem.run_bind,Sem.run_pure,Result.andThen_ok,invoke,builtin,hrun]
 unfold Oper.wp
 rw [hex,Oper.upon_value]
 subst hx
 cases o with
 | none=>exact St.put0 ⟨H,B,hw'⟩ rfl (app0_s _ _ rfl) (fun m=>app1_l f n _ _ rfl m)
 | some d=>exact ⟨H,B,hw'.put (x:=some (.tup [])) (hb0.1 (d,some (.tup [])) (by simp)) (zhm f d _ _ rfl) (fun m=>app1_l f n _ _ rfl m) (fun y hy=>by injection hy with hy;subst hy;exact ⟨[],rfl,trivial⟩)⟩
theorem Op.clearCut' {o:Option Nat} {t n off len l es:Nat} {rows rows':List (List D)} {zs:List C} {rty xt el ty:TypeId} {pos af gd} (hu:P.underlying xt=some (.slice el)) (hz:Zero P el zs) (hzl:zs.length=es) (ho:off=l*es) (hlen:l+len=rows.length)
  (x:List (Nat × Option V)) (hx:x=(match o with | none=>[] | some d=>[(d,some (.tup []))])) (hr:rows.take l=rows') :
  zbe P ⟨o,.call { callee:=.builtin .clear,args:=#[.tmp t],argTypes:=#[xt] }, ty,pos,af,gd⟩ { rs:=[(t,.t (.c (.sub n off len)))],rl:=[(n,.row rty es rows)],ws:=x,wl:=[(n,some (.row rty es rows'))] }:=by
 subst hr
 exact Op.clearCut hu hz hzl ho hlen x hx
theorem midH {w0:World} {H0:Im} {B0:Bl} {K:List Nat} {N:Nat} {Q:Exit->Act->World->Prop} {a:Act} {w:World} {x y:Code} {sl:List (Nat × V)} {lc:List (Nat × L)} (_h:St ⟨w0,H0,B0,K,N⟩ (F.of sl lc) a w) (sl':List (Nat × V)) (lc':List (Nat × L))
  (hx:x.wp P (Exit.then (fun a w=>St ⟨w0,H0,B0,K,N⟩ (F.of sl' lc') a w) Q) a w) (hy:∀ a w,St ⟨w0,H0,B0,K,N⟩ (F.of sl' lc') a w->y.wp P Q a w):(Code.seq x y).wp P Q a w:=midS sl' lc' hx hy
theorem nilDSr {w0:World} {H0:Im} {B0:Bl} {K:List Nat} {N:Nat} {a:Act} {w:World} {sl:List (Nat × V)} {lc:List (Nat × L)} (t j es:Nat) (v:V) (ao:Option Addr) (c:Nat) (h1:ao=none->c=0) (h2:c<=maxLen) (sl':List (Nat × V)) (lc':List (Nat × L)) (h:St ⟨w0,H0,B0,K,N⟩ (F.of sl lc) a w) (hv:sl.lookup t=some v) (hg:v.getC j=some (.d (.raw (.slice ao 0 c))))
  (h3:leS ((F.of sl lc).setS t (v.setC j (.d (.sl es [])))) sl'=sl'.map fun p=>some p.2:=by kernel_rfl) (h4:leN ((F.of sl lc).setS t (v.setC j (.d (.sl es [])))) lc'=lc'.map fun p=>some p.2:=by kernel_rfl):St ⟨w0,H0,B0,K,N⟩ (F.of sl' lc') a w :=
 (h.nilDS t j es (ao:=ao) hv hg h1 h2).weaken (zk9 h3 h4)
theorem run_eqNil {xt el:TypeId} (hu:P.underlying xt=some (.slice el)) (ao:Option Addr) (n c:Nat) (x y:Operand) (w:World) :
  (do eqGuard .eql xt x y (.slice ao n c) zad;binOp .eql xt (.slice ao n c) zad:Sem Value).run P w = .ok (.bool ao.isNone) w:=by
 have h1:(eqGuard .eql xt x y (.slice ao n c) zad).run P w = .ok () w:=by simp [eqGuard]
 have h2:(binOp .eql xt (.slice ao n c) zad).run P w = .ok (.bool ao.isNone) w:=by
  show (do pure (Value.bool (<- Op.equal xt (.slice ao n c) (.slice none 0 0))):Sem Value).run P w=_
  simp only [Sem.run_bind,run_equal_slice_nil (P:=P) w xt el ao n c hu,Result.andThen_ok,Sem.run_pure]
 simp only [Sem.run_bind,h1,Result.andThen_ok,h2]
theorem Op.eqNilR {d:Nat} {x y:Operand} {ao:Option Addr} {n c:Nat} {rs rs':List (Nat × V)} {xt yt el ty:TypeId} {pos af gd} (hu:P.underlying xt=some (.slice el)) (h:OV x (.t (.c (.d (.raw (.slice ao n c))))) rs) (h':OV y (.t (.c (.d (.raw zad)))) rs') :
  zbe P ⟨some d,.binOp .eql xt x y yt,ty,pos,af,gd⟩ { rs:=rs++rs', ws:=[(d,some (vb ao.isNone))] }:=by
 refine Op.raw2 rfl h h' rfl fun ρ w h1 h2=>?_
 have:=run_eqNil (P:=P) hu ao n c x y w
 simp only [Sem.run_bind] at this
 simp only [execOp,h1,h2,Sem.run_bind,this,Result.andThen_ok,Sem.run_pure]
theorem Op.eqNilD {d t es:Nat} {y:Operand} {rows:List (List D)} {rs':List (Nat × V)} {xt yt el ty:TypeId} {pos af gd} (hu:P.underlying xt=some (.slice el)) (hn:0<rows.length) (h':OV y (.t (.c (.d (.raw zad)))) rs') :
  zbe P ⟨some d,.binOp .eql xt (.tmp t) y yt,ty,pos,af,gd⟩ { rs:=(t,.t (.c (.d (.sl es rows)))) :: rs', ws:=[(d,some (vb false))] } :=
 zbe.value d _ rfl rfl rfl fun e f H B a w hok hr2=>by
  have h1:=hok.slot t _ (hr2.1 (t,.t (.c (.d (.sl es rows)))) (by simp))
  have h2:a.eval y=zad:=(h'.eval hok fun p hp=>hr2.1 p (by simp [hp])).rawI
  have h3:DR H (.sl es rows) (a.eval (.tmp t)):=h1
  generalize hv0:a.eval (.tmp t)=v at h3
  cases h3 with
  | nil ao c=>simp at hn
  | sl _ _ b o c arr ty' fz vs hp hb hl hc hes hv hx =>
   refine ⟨.bool false,?_,DR.raw _ rfl⟩
   generalize a.eval=ρ at hv0 h2 ⊢
   have:=run_eqNil (P:=P) hu (some ⟨b,o,none⟩) rows.length c (.tmp t) y w
   simp only [Sem.run_bind] at this
   simp only [execOp,hv0,h2,Sem.run_bind,this,Result.andThen_ok,Sem.run_pure]
   rfl
theorem Fn.rawE {k:FuncId} {ps qs:List (Nat × L)} {es:Nat} {res:V} (h:∀ (ao:Option Addr) (c:Nat),(ao=none->c=0)->c<=maxLen->Fn P k ps [vW (.slice ao 0 c)] res qs):Fn P k ps [vS es []] res qs:=by
 intro w H B vals pre
 obtain ⟨h1,h2,h3,h4,h5⟩:=pre
 cases vals with
 | nil=>exact h5.elim
 | cons v vs =>
  have h6:DR H (.sl es []) v:=h5.1
  cases h6 with
  | sl _ _ b o c arr ty fz ws hp=>exact absurd hp (by simp)
  | nil _ ao c g1 g2=>exact h ao c g1 g2 w H B _ ⟨h1,h2,h3,h4,DR.raw _ rfl,h5.2⟩
end
end S
end Go.Proofs.YtckmanpooapkpaaGreat
