/-
  Part 2 of the proof of the statement ConfineKnows. It holds for every input.
-/
import Derived.Test.YtdnhcneallkljaaGreatCK1
import Derived.Laws.AppendOwn
import Derived.Great.BuildSlice
import Derived.ProofKit
import Derived.OpenShut
import Derived.ShutString
import Derived.ChangeOld
import Derived.Below
import Derived.Deep.Slices
import Derived.ChangeArms
import Derived.Laws.Cover3
set_option maxRecDepth 100000
set_option maxHeartbeats 20000000
open Go.RowKit
open Nat renaming eq_of_beq_eq_true->bC,mul_le_mul_right->bH,zero_le->bJ,add_mul->bM,le_trans->bR,le_refl->bZ,mul_comm->b8,zero_add->cG,mod_lt->cR,lt_of_le_of_lt->cV,sub_le->cW,add_assoc->cY,add_zero->c7,pos_of_ne_zero->dC,div_add_mod->dD,eq_zero_or_pos->dL
open List renaming mem_flatMap->bE,getElem?_eq_some_iff->bF,getElem?_eq_getElem->bG,length_map->bI,length_cons->bK,mem_of_getElem?->bL,getElem?_map->bP,mem_cons->bS,length_take->bT,getElem?_take->bU,length_append->bX,length_eq_zero_iff->b7,pairwise_cons->b9,mem_map->cD,mem_append->cE,length_nil->cF,filter_cons->cJ,mem_filter->cK,foldl_cons->cL,mem_cons_self->cM,length_drop->cO,getElem?_drop->cP,getElem?_append_left->cQ,getElem?_set_self->cT,getElem?_set_ne->cU,filter_append->cX,getElem_drop->cZ,getElem_take->c8,flatten_cons->dA,getElem?_append_right->dB,getElem_mem->dE,mem_iff_getElem?->dG,mem_singleton->dH,getElem_map->dM,drop_eq_getElem_cons->dO,getElem?_cons_succ->dP,mem_append_left->dQ,mem_append_right->dR,mem_of_mem_take->dS,filter_eq_nil_iff->dX
open Bool renaming and_eq_true->bV,eq_false_or_eq_true->dU
open Option renaming map_some->bW,map_eq_some_iff->cC
open Array renaming getElem?_eq_some_iff->cH
open Int renaming natCast_mul->dI,add_zero->dN,tmod_eq_emod_of_nonneg->dV,tdiv_eq_ediv_of_nonneg->dW
open Go.Proofs.Tryz renaming prog->dY
open Go.Proofs.YtdnhcneallkljaaGreat.S.Fn renaming cast->dZ
open Go.Proofs.YtdnhcneallkljaaGreat.S.ZI renaming of->d3,val_of->d4
namespace Go.Proofs.YtdnhcneallkljaaGreat
variable {z:Int} {k:Nat}
namespace S
variable {P:Program} {n m t k es b o i fo N j n' bs:Nat} {u v:Value} {x y:Operand} {rs sl:List (Nat × V)} {f:F} {xt ty el rty:TypeId} {e:E} {a:Act} {w w0 w':World} {lc:List (Nat × L)} {draw:Bool} {rows rows':List (List D)} {α:Type} {H H0:Im} {B B0:Bl} {K:List Nat} {cs:List C} {ao:Option Addr} {Q:Exit->Act->World->Prop} {tys:Array TypeId}
structure Ty where
  n:Nat
  agg:Bool
  fs:List (Nat × Nat × Bool)
  z:List C
  k:Nat
abbrev Tb:=List (Nat × Ty)
def ikOf:Nat->Option IntKind
  | 10=>some .i8
  | 11=>some .i16
  | 12=>some .i32
  | 13=>some .i64
  | 14=>some .u8
  | 15=>some .u16
  | 16=>some .u32
  | 17=>some .u64
  | _=>none
structure TyOk (P:Program) (t:TypeId) (y:Ty):Prop where
  sz:Sz P t y.n y.agg
  fd:∀ k off n ag,y.fs[k]?=some (off,n,ag)->n≠0/\Fd P t k off n ag
  z:y.z≠[]->Zero P t y.z
  pl:y.fs≠[]->Places P t (y.fs.map fun f=>(f.1,f.2.1))
  k1:y.k=1->∃ el,P.underlying t=some (.slice el)
  k2:y.k=2->P.underlying t=some .string
  k3:y.k=3->P.underlying t=some .bool
  ki:∀ k,ikOf y.k=some k->P.underlying t=some (.int k)
def zj5 (P:Program):Tb->Prop
  | []=>True
  | (t,y) :: tb=>TyOk P t y/\zj5 P tb
theorem zj5.get:∀ {tb:Tb}, zj5 P tb->∀ {t:Nat} {y:Ty}, tb.lookup t=some y->TyOk P t y
 | (t', y') :: tb,h,t,y,hl=>by
  simp only [List.lookup] at hl
  cases hc:(t == t') with
  | true=>rw [hc] at hl;simp at hl hc;subst hl hc;exact h.1
  | false=>rw [hc] at hl;exact zj5.get h.2 hl
def FdL (P:Program) (t:TypeId):Nat->List (Nat × Nat × Bool)->Prop
  | _,[]=>True
  | j,(off,n,ag) :: r=>(n≠0/\Fd P t j off n ag)/\FdL P t (j+1) r
theorem FdL.get {t:TypeId}:∀ {fs:List (Nat × Nat × Bool)} {j:Nat}, FdL P t j fs->∀ k off n ag,fs[k]?=some (off,n,ag)->n≠0/\Fd P t (j+k) off n ag
 | (o,m,g) :: r,j,h,0,off,n,ag,hk=>by simp at hk;obtain ⟨rfl,rfl,rfl⟩:=hk;exact h.1
 | (o,m,g) :: r,j,h,k+1,off,n,ag,hk=>by
  have:=FdL.get h.2 k off n ag (by simpa using hk)
  rwa [show j+1+k=j+(k+1) by omega] at this
theorem TyOk.st {t:TypeId} {fs:List (Nat × Nat × Bool)} {z:List C} {fields:Array Field} (hu:P.underlying t=some (.struct fields)) (hs:(P.info? t).map (·.size)=some n) (hf:FdL P t 0 fs) (hz:Zero P t z) (hp:Places P t (fs.map fun f=>(f.1,f.2.1))):TyOk P t ⟨n,true,fs,z,0⟩ :=
 ⟨Sz.mk' hs hu _ rfl,fun k off n ag h=>(by have:=FdL.get hf k off n ag h;rwa [cG] at this),fun _=>hz,fun _=>hp,fun h=>(by cases h),fun h=>(by cases h),fun h=>(by cases h),fun k h=>(by cases h)⟩
theorem TyOk.int {t:TypeId} {k:IntKind} {c:Nat} (hu:P.underlying t=some (.int k)) (hc:ikOf c=some k) (hs:(P.info? t).map (·.size)=some 1) (hz:Zero P t [.d (.raw (.int k 0))]):TyOk P t ⟨1,false,[],[.d (.raw (.int k 0))],c⟩ :=
 ⟨Sz.mk' hs hu _ rfl,fun k off n ag h=>(by simp at h),fun _=>hz,fun h=>absurd rfl h,fun h=>(by simp only at h;subst h;cases hc),fun h=>(by simp only at h;subst h;cases hc),fun h=>(by simp only at h;subst h;cases hc),fun j h=>(by simp only at h;rw [hc] at h;injection h with h;subst h;exact hu)⟩
theorem zgf (zs:List Nat):lenC (.d (nsl zs))=some zs.length:=by simp [lenC,nsl]
theorem mkZ {v:Int} (h:(d3 v).abs.length<=m):∃ r:ZI,r=d3 v/\r.val=v/\Lb r.abs/\r.abs.length<=m:=⟨_,rfl,d4 v,ZI.lb_of v,h⟩
theorem mkN {v:Nat} (h:v<pw m):∃ r:List Nat,r=lbs v/\nV r=v/\Lb r/\r.length<=m:=⟨_,rfl,zez v,(zf0 v).1,lbs_len h⟩
theorem u64_id {t:Int} (h1:0<=t) (h2:t<=18446744073709551615):IntKind.u64.wrap t=t:=Go.IntWalk.u64_in t ⟨h1,h2⟩
theorem u32_id {t:Int} (h1:0<=t) (h2:t<=4294967295):IntKind.u32.wrap t=t:=Go.IntWalk.u32_in t ⟨h1,h2⟩
inductive Orc (P:Program) where
  | call {k:FuncId} {ps qs:List (Nat × L)} {args:List V} {res:V} (h:Fn P k ps args res qs) (b:zbg P k:=by exact zbg.mk' (by kernel_rfl))
  | add (k:IntKind) {m n:Int} (h:k.wrap (m+n)=m+n)
  | sub (k:IntKind) {m n:Int} (h:k.wrap (m - n)=m - n)
  | mul (k:IntKind) {m n:Int} (h:k.wrap (m*n)=m*n)
  | cmp {op:BinOp} {m n:Int} {b:Bool} (k:IntKind) (h:cmpB op m n=b)
  | cmpb (op:BinOp) {m n b:Bool} (h:(op = .eql/\b=(m == n))\/(op = .neq/\b=(m != n)))
  | conv (k k':IntKind) {m:Int} (h:k'.wrap m=m)
  | neg (k:IntKind) {m:Int} (h:k.wrap (-m)=-m)
  | len {c:C} {n:Nat} (h:lenC c=some n)
  | gen (d:Option Nat) (op:Op) (i:I) (h:∀ ty pos af gd,zb6 P ⟨d,op,ty,pos,af,gd⟩ i)
def eqC:Value->Value->Bool
  | .int k a,.int l b=>(k == l) && (a == b)
  | .bool a,.bool b=>a == b
  | .string a,.string b=>a.data.toList == b.data.toList
  | .slice none a c,.slice none b d=>Nat.beq a b && Nat.beq c d
  | _,_=>false
theorem eqC_spec (h:eqC u v=true):u=v/\flat v=true:=by
 cases u <;> cases v <;> first
  | (simp [eqC] at h;done)
  | (rename_i a b;simp [eqC] at h;subst h;exact ⟨rfl,rfl⟩)
  | (rename_i a b;simp only [eqC,beq_iff_eq] at h;cases a;cases b;simp only at h;rename_i x y;cases x;cases y;simp only at h;subst h;exact ⟨rfl,rfl⟩)
  | (rename_i a b c d;simp [eqC] at h;obtain ⟨h1,h2⟩:=h;subst h1 h2;exact ⟨rfl,rfl⟩)
  | (rename_i a b c d e f;cases a <;> cases d <;> first | (simp [eqC] at h;done) | (simp only [eqC,bV] at h;rw [bC h.1,bC h.2];exact ⟨rfl,rfl⟩))
def eqZ:Value->Value->Bool
  | .map none,.map none=>true
  | .nilFunc,.nilFunc=>true
  | .pointer none,.pointer none=>true
  | u,v=>eqC u v
theorem eqZ_spec (h:eqZ u v=true):u=v/\flat v=true:=by
 unfold eqZ at h
 split at h
 ·exact ⟨rfl,rfl⟩
 ·exact ⟨rfl,rfl⟩
 ·exact ⟨rfl,rfl⟩
 ·exact eqC_spec h
def zcB:C->Value->Bool
  | .d (.raw v),u=>eqZ u v
  | .d (.sl _ []),.slice none n c=>Nat.beq n 0 && Nat.beq c 0
  | .any,u=>flat u
  | _,_=>false
theorem zcB_spec {c:C} (h:zcB c u=true) (H:Im) (B:Bl):CR H B c u:=by
 unfold zcB at h
 split at h
 ·obtain ⟨h1,h2⟩:=eqZ_spec h;subst h1;exact DR.raw _ h2
 ·rw [bV] at h
  rw [bC h.1,bC h.2]
  exact DR.nil _ _ _ (fun _=>rfl) (bJ _)
 ·exact h
 ·cases h
def a2B:List C->List Value->Bool
  | [],[]=>true
  | c :: cs,u :: us=>zcB c u && a2B cs us
  | _,_=>false
theorem a2B_spec:∀ {cs:List C} {us:List Value}, a2B cs us=true->∀ H B,zb4 (CR H B) cs us
 | [],[],_,_,_=>trivial
 | _ :: _,_ :: _,h,H,B=>by unfold a2B at h;rw [bV] at h;exact ⟨zcB_spec h.1 H B,a2B_spec h.2 H B⟩
 | [],_ :: _,h,_,_=>by cases h
 | _ :: _,[],h,_,_=>by cases h
section
variable {P:Program} {t:TypeId}
def zroB (P:Program) (t:TypeId) (zs:List C):Bool:=match (P.info? t).bind (·.zero) with
  | some z=>a2B zs z.cells.toList
  | none=>false
theorem zroB_spec {zs:List C} (h:zroB P t zs=true):Zero P t zs:=by
 unfold zroB at h
 split at h
 ·rename_i z hz;exact ⟨z,z.cells.toList,hz,rfl,a2B_spec h⟩
 ·cases h
def szB (P:Program) (t:TypeId) (n:Nat) (g:Bool):Bool:=(match P.info? t with
  | some i=>Nat.beq i.size n
  | none=>false) && match P.underlying t with
  | some d=>(match d with | .struct _ | .array _ _=>true | _=>false) == g
  | none=>false
theorem szB_spec {g:Bool} (h:szB P t n g=true):Sz P t n g:=by
 unfold szB at h
 rw [bV] at h
 obtain ⟨h1,h2⟩:=h
 cases e:P.underlying t with
 | none=>rw [e] at h2;cases h2
 | some d =>
  rw [e] at h2
  refine Sz.mk' (d:=d) ?_ e g (by rw [<- eq_of_beq h2];cases d <;> rfl)
  cases e1:P.info? t with
  | none=>rw [e1] at h1;cases h1
  | some i=>rw [e1] at h1;exact congrArg some (bC h1)
def fdB (P:Program):List Field->List (Nat × Nat × Bool)->Bool
  | [],[]=>true
  | f :: fl,p :: r=>Nat.beq f.offset p.1 && szB P f.type p.2.1 p.2.2 && !Nat.beq p.2.1 0 && fdB P fl r
  | _,_=>false
theorem fdB_spec:∀ {fl:List Field} {fs:List (Nat × Nat × Bool)}, fdB P fl fs=true->(∀ (k off n:Nat) (ag:Bool),fs[k]?=some (off,n,ag)->n≠0/\∃ f:Field,fl[k]?=some f/\f.offset=off/\Sz P f.type n ag)/\zb4 (fun (f:Field) (p:Nat × Nat)=>f.offset=p.1/\(P.info? f.type).map (·.size)=some p.2) fl (fs.map fun f=>(f.1,f.2.1))
 | [],[],_=>⟨fun k off n ag h=>by simp at h,trivial⟩
 | f :: fl,p :: r,h=>by
  unfold fdB at h
  simp only [bV,Bool.not_eq_true'] at h
  obtain ⟨⟨⟨h1,h2⟩,h3⟩,h4⟩:=h
  obtain ⟨g1,g2⟩:=fdB_spec h4
  have h1:=bC h1
  have h2:=szB_spec h2
  refine ⟨fun k off n ag hk=>?_,⟨h1,h2.size⟩,g2⟩
  cases k with
  | zero =>
   have hk:p=(off,n,ag):=by simpa using hk
   subst hk
   exact ⟨fun e=>(by rw [e] at h3;cases h3),f,rfl,h1,h2⟩
  | succ k=>exact g1 k off n ag (by simpa using hk)
 | [],_ :: _,h=>by cases h
 | _ :: _,[],h=>by cases h
def knB (P:Program) (t:TypeId) (k:Nat):Bool:=match P.underlying t with
  | some (.slice _)=>!Nat.beq k 2 && !Nat.beq k 3 && (ikOf k).isNone
  | some .string=>!Nat.beq k 1 && !Nat.beq k 3 && (ikOf k).isNone
  | some .bool=>!Nat.beq k 1 && !Nat.beq k 2 && (ikOf k).isNone
  | some (.int q)=>!Nat.beq k 1 && !Nat.beq k 2 && !Nat.beq k 3 && (match ikOf k with | some j=>j == q | none=>true)
  | _=>!Nat.beq k 1 && !Nat.beq k 2 && !Nat.beq k 3 && (ikOf k).isNone
def tyB (P:Program) (t:TypeId) (y:Ty):Bool:=szB P t y.n y.agg && knB P t y.k && (y.z.isEmpty || zroB P t y.z) && (y.fs.isEmpty || match P.underlying t with
  | some (.struct fields)=>fdB P fields.toList y.fs
  | _=>false)
theorem tyB_spec {y:Ty} (h:tyB P t y=true):TyOk P t y:=by
 unfold tyB at h
 simp only [bV] at h
 obtain ⟨⟨⟨h1,h2⟩,h3⟩,h4⟩:=h
 have hst:y.fs≠[]->∃ fields:List Field,P.underlying t=some (.struct ⟨fields⟩)/\fdB P fields y.fs=true:=fun hne=>by
  cases e:y.fs with
  | nil=>exact absurd e hne
  | cons a b =>
   rw [e] at h4
   simp only [List.isEmpty_cons,Bool.false_or] at h4
   split at h4
   ·rename_i fields hf;exact ⟨fields.toList,hf,h4⟩
   ·cases h4
 unfold knB at h2
 refine ⟨szB_spec h1,fun k off n ag hk=>?_,fun hz=>?_,fun hne=>?_,fun hk=>?_,fun hk=>?_,fun hk=>?_,fun k hk=>?_⟩
 ·obtain ⟨fields,hf,hb⟩:=hst (fun e=>by rw [e] at hk;simp at hk)
  obtain ⟨g0,f,g1,g2,g3⟩:=(fdB_spec hb).1 k off n ag hk
  exact ⟨g0,⟨_,f,hf,by simpa using g1,g2,g3⟩⟩
 ·rw [Bool.or_eq_true] at h3
  rcases h3 with h3 | h3
  ·exact absurd (List.isEmpty_iff.1 h3) hz
  ·exact zroB_spec h3
 ·obtain ⟨fields,hf,hb⟩:=hst hne
  exact ⟨fields,hf,(fdB_spec hb).2⟩
 ·rw [hk] at h2;split at h2
  ·rename_i el he;exact ⟨el,he⟩
  all_goals (simp [ikOf] at h2)
 ·rw [hk] at h2;split at h2
  ·simp [ikOf] at h2
  ·assumption
  all_goals (simp [ikOf] at h2)
 ·rw [hk] at h2;split at h2
  ·simp [ikOf] at h2
  ·simp [ikOf] at h2
  ·assumption
  all_goals (simp [ikOf] at h2)
 ·rw [hk] at h2;split at h2
  ·simp at h2
  ·simp at h2
  ·simp at h2
  ·rename_i q he
   simp only [bV] at h2
   rw [he,eq_of_beq h2.2]
  ·simp at h2
def tbB (P:Program):Tb->Bool
  | []=>true
  | p :: tb=>tyB P p.1 p.2 && tbB P tb
theorem tbB_spec:∀ {tb:Tb}, tbB P tb=true->zj5 P tb
 | [],_=>trivial
 | p :: tb,h=>by unfold tbB at h;rw [bV] at h;exact ⟨tyB_spec h.1,tbB_spec h.2⟩
end
def opdW (x:Operand) (v:V):Option (List (Nat × V)) :=
  match x with
  | .tmp t=>some [(t,v)]
  | .const c=>match v with
    | .t (.c (.d (.raw u)))=>if eqC u c=true then some [] else none
    | _=>none
  | .func g=>match v with
    | .t (.c (.fn (.func g') [] []))=>if Nat.beq g g'=true then some [] else none
    | _=>none
  | _=>none
theorem zch {v:V} (h:opdW x v=some rs):OV x v rs:=by
 unfold opdW at h
 split at h
 ·injection h with h;subst h;exact .tmp _ _
 ·split at h
  ·split at h
   ·rename_i hc
    injection h with h;subst h
    obtain ⟨rfl,hf⟩:=eqC_spec hc
    exact .const _ hf
   ·cases h
  ·cases h
 ·split at h
  ·split at h
   ·rename_i hc
    injection h with h;subst h
    rw [<- bC hc]
    exact .func _
   ·cases h
  ·cases h
 ·cases h
def opdWs:List Operand->List V->Option (List (Nat × V))
  | [],[]=>some []
  | x :: xs,v :: vs=>match opdW x v with
    | some r=>match opdWs xs vs with
      | some rs=>some (r++rs)
      | none=>none
    | none=>none
  | _,_=>none
theorem opdWs_spec:∀ {xs:List Operand} {vs:List V} {rs:List (Nat × V)}, opdWs xs vs=some rs->OVs xs vs rs
 | [],[],rs,h=>by simp [opdWs] at h;subst h;exact .nil
 | x :: xs,v :: vs,rs,h=>by
  simp only [opdWs] at h
  split at h
  ·rename_i r hr
   split at h
   ·rename_i rs' hrs
    injection h with h;subst h
    exact .cons (zch hr) (opdWs_spec hrs)
   ·cases h
  ·cases h
 | [],_ :: _,rs,h=>by simp [opdWs] at h
 | _ :: _,[],rs,h=>by simp [opdWs] at h
def opdI (f:F) (x:Operand):Option (V × List (Nat × V)) :=
  match x with
  | .tmp t=>match f.s t with
    | some v=>some (v,[(t,v)])
    | none=>none
  | .const v=>if flat v=true then some (.t (.c (.d (.raw v))),[]) else none
  | .func g=>some (.t (.c (.fn (.func g) [] [])),[])
  | _=>none
theorem zc7 {v:V} (h:opdI f x=some (v,rs)):OV x v rs:=by
 unfold opdI at h
 split at h
 ·split at h
  ·injection h with h;injection h with h1 h2;subst h1 h2;exact .tmp _ _
  ·cases h
 ·split at h
  ·rename_i hf;injection h with h;injection h with h1 h2;subst h1 h2;exact .const _ hf
  ·cases h
 ·injection h with h;injection h with h1 h2;subst h1 h2;exact .func _
 ·cases h
def opdP (f:F):List (Nat × Operand)->Option (List (Nat × T) × List (Nat × V))
  | []=>some ([],[])
  | (i,x) :: xs=>match opdI f x with
    | some (.t v,r)=>match opdP f xs with
      | some (vs,rs)=>some ((i,v) :: vs,r++rs)
      | none=>none
    | _=>none
theorem opdP_spec:∀ {xs:List (Nat × Operand)} {vs:List (Nat × T)} {rs:List (Nat × V)}, opdP f xs=some (vs,rs)->OPs xs vs rs
 | [],vs,rs,h=>by simp [opdP] at h;obtain ⟨rfl,rfl⟩:=h;exact .nil
 | (i,x) :: xs,vs,rs,h=>by
  simp only [opdP] at h
  split at h
  ·rename_i v r hr
   split at h
   ·rename_i vs' rs' hrs
    injection h with h;injection h with h1 h2;subst h1 h2
    exact .cons (zc7 hr) (opdP_spec hrs)
   ·cases h
  ·cases h
theorem Op.fieldAddrE {d off:Nat} {ag:Bool} {xs:List D} {pos af gd} (hf:Fd P xt k off m ag) (hm:m≠0):zb6 P ⟨some d,.fieldAddr xt (.tmp t) k,ty,pos,af,gd⟩ { rs:=[(t,.t (.c (.el xs)))],ws:=[(d,some (.t (.c (.el (xs.drop off)))))] } :=
 zb6.value d _ rfl rfl rfl fun e f H B a w hok hr=>by
  obtain ⟨b,o,arr,ty', fz,hb,hu,hx⟩:CR H B (.el xs) (a.eval (.tmp t)):=hok.slot t _ (hr.1 (t,.t (.c (.el xs))) (by simp))
  obtain ⟨fields,fd,g1,g2,rfl,g4⟩:=hf.ex
  refine ⟨.pointer (some ⟨b,o+fd.offset,none⟩),?_,b,o+fd.offset,arr,ty', fz,hb,rfl,fun j hj=>?_⟩
  ·generalize a.eval=ρ at hu ⊢
   simp only [execOp,hu,Instr.fieldAt,Sem.run_bind,run_underlying g1,Result.andThen_ok,g2,Instr.sureAddr,Sem.run_pure,fieldPlace,g4.sizeOf,hm,if_false,Addr.add_mid]
  ·have hj':fd.offset+j<xs.length:=by rw [cO] at hj;omega
   obtain ⟨u,h1,h2⟩:=hx (fd.offset+j) hj'
   exact ⟨u,by rw [cY];exact h1,by rw [cZ];exact h2⟩
theorem Op.loadE_agg {d:Nat} {xs ys:List D} {pos af gd} (hs:Sz P xt m true) (h:xs.take m=ys) (hm:ys.length=m):zb6 P ⟨some d,.load xt (.tmp t),ty,pos,af,gd⟩ { rs:=[(t,.t (.c (.el xs)))],ws:=[(d,some (.t (.agg (ys.map C.d))))] } :=
 zb6.value d _ rfl rfl rfl fun e f H B a w hok hr=>by
  obtain ⟨b,o,arr,ty', fz,hb,hu,hx⟩:CR H B (.el xs) (a.eval (.tmp t)):=hok.slot t _ (hr.1 (t,.t (.c (.el xs))) (by simp))
  have hw:=hok.sat b _ hb
  have hml:m<=xs.length:=by rw [<- hm,<- h,bT];omega
  have hfill:∀ j,j<m->∃ u,arr.toList[o+j]?=some u/\∃ hj:j<xs.length,DR H xs[j] u:=by
   intro j hj
   obtain ⟨u,h1,h2⟩:=hx j (by omega)
   exact ⟨u,by simpa using h1,by omega,h2⟩
  have hlen:((arr.toList.drop o).take m).length=m:=by
   rw [bT,cO]
   cases m with
   | zero=>omega
   | succ m =>
    obtain ⟨u,g1,_⟩:=hfill m (by omega)
    have:=(bF.1 g1).1
    omega
  refine ⟨.agg ((arr.toList.drop o).take m).toArray,?_,⟨_,rfl,?_⟩⟩
  ·generalize a.eval=ρ at hu ⊢
   have h8:=zfc (P:=P) hs (w:=w) (b:=b) (o:=o) (cs:=(arr.toList.drop o).take m) hlen (fun j v hv=>by
    refine ze7 (arr:=arr.toList) (by rw [hw]) ?_
    rw [bU] at hv
    split at hv
    ·rw [cP] at hv;exact hv
    ·cases hv)
   simp only [execOp,hu,Instr.loadAt,Instr.sureAddr,Sem.run_bind,Sem.run_pure,Result.andThen_ok,h8]
  ·subst h
   have key:∀ (n:Nat) (zs:List D) (k:Nat),(∀ j,j<zs.length->∃ u,arr.toList[o+k+j]?=some u/\∃ hj:j<zs.length,DR H zs[j] u)->n=zs.length->zb4 (CR H B) (zs.map C.d) ((arr.toList.drop (o+k)).take n):=by
    intro n zs
    induction zs generalizing n with
    | nil=>intro k _ hn;subst hn;simp [zb4]
    | cons z zs ih =>
     intro k hz hn
     subst hn
     obtain ⟨u,h1,_,h2⟩:=hz 0 (by simp)
     have hlt:o+k<arr.toList.length:=(bF.1 (by simpa using h1)).1
     rw [dO hlt,bK,List.take_succ_cons]
     refine ⟨?_,ih _ (k+1) (fun j hj=>?_) rfl⟩
     ·rw [c7,bG hlt] at h1
      injection h1 with h1
      rw [h1];exact h2
     ·obtain ⟨u,h3,hj', h4⟩:=hz (j+1) (by simp;omega)
      exact ⟨u,by rw [<- h3];congr 1;omega,hj,by simpa using h4⟩
   have hm':m=(xs.take m).length:=hm.symm
   refine key m (xs.take m) 0 (fun j hj=>?_) hm'
   obtain ⟨u,h1,hj', h2⟩:=hfill j (by omega)
   exact ⟨u,h1,hj,by rw [c8];exact h2⟩
theorem Op.loadE_c {d:Nat} {xs:List D} {x:D} {pos af gd} (hs:Sz P xt m false) (h:xs[0]?=some x):zb6 P ⟨some d,.load xt (.tmp t),ty,pos,af,gd⟩ { rs:=[(t,.t (.c (.el xs)))],ws:=[(d,some (.t (.c (.d x))))] } :=
 zb6.value d _ rfl rfl rfl fun e f H B a w hok hr=>by
  obtain ⟨b,o,arr,ty', fz,hb,hu,hx⟩:CR H B (.el xs) (a.eval (.tmp t)):=hok.slot t _ (hr.1 (t,.t (.c (.el xs))) (by simp))
  obtain ⟨h0,rfl⟩:=bF.1 h
  obtain ⟨u,h1,h2⟩:=hx 0 h0
  refine ⟨u,?_,h2⟩
  have h8:=zfw (P:=P) hs (ze7 (arr:=arr.toList) (o:=o) (v:=u) (by rw [hok.sat b _ hb]) (by simpa using h1))
  generalize a.eval=ρ at hu ⊢
  simp only [execOp,hu,Instr.loadAt,Instr.sureAddr,Sem.run_bind,Sem.run_pure,Result.andThen_ok,h8]
def one (d:Nat) (v:V) (rs:List (Nat × V)):I:={ rs:=rs,ws:=[(d,some v)] }
def instS (tb:Tb) (f:F) (nx:Nat) (o:Oper):Option (I × Nat) :=
  match o.op,o.dst with
  | .move x,some d=>match opdI f x with
    | some (v,rs)=>some (one d v rs,nx)
    | none=>none
  | .assign x,some d=>match opdI f x with
    | some (v,rs)=>some (one d v rs,nx)
    | none=>none
  | .box _ x,some d=>match opdI f x with
    | some (.t v,rs)=>some ({ rs:=rs,ws:=[(d,some (vp nx 0))],wl:=[(nx,some (.box (cellsOf v)))],nw:=[nx] }, nx+1)
    | _=>none
  | .alloc t,some d=>match tb.lookup t with
    | some y=>match y.z with
      | []=>none
      | c :: cs=>some ({ ws:=[(d,some (vp nx 0))],wl:=[(nx,some (.box (c :: cs)))],nw:=[nx] }, nx+1)
    | none=>none
  | .fieldAddr t (.tmp x) k,some d=>match f.s x,tb.lookup t with
    | some (.t (.c (.ptr n p))),some y=>match y.fs[k]? with
      | some (off,_,_)=>some ({ rs:=[(x,vp n p)],ws:=[(d,some (vp n (p+off)))] }, nx)
      | none=>none
    | some (.t (.c (.el xs))),some y=>match y.fs[k]? with
      | some (off,_,_)=>some ({ rs:=[(x,.t (.c (.el xs)))],ws:=[(d,some (.t (.c (.el (xs.drop off)))))] }, nx)
      | none=>none
    | _,_=>none
  | .load t (.tmp x),some d=>match f.s x,tb.lookup t with
    | some (.t (.c (.ptr n p))),some y=>match f.l n with
      | some (.box cs)=>if y.agg=true then (if Nat.beq ((cs.drop p).take y.n).length y.n=true then some ({ rs:=[(x,vp n p)],rl:=[(n,.box cs)],ws:=[(d,some (.t (.agg ((cs.drop p).take y.n))))] }, nx) else none)
        else match cs[p]? with
          | some c=>some ({ rs:=[(x,vp n p)],rl:=[(n,.box cs)],ws:=[(d,some (.t (.c c)))] }, nx)
          | none=>none
      | _=>none
    | some (.t (.c (.el xs))),some y=>if y.agg=true then (if Nat.beq (xs.take y.n).length y.n=true then some ({ rs:=[(x,.t (.c (.el xs)))],ws:=[(d,some (.t (.agg ((xs.take y.n).map C.d))))] }, nx) else none)
      else match xs[0]? with
        | some c=>some ({ rs:=[(x,.t (.c (.el xs)))],ws:=[(d,some (.t (.c (.d c))))] }, nx)
        | none=>none
    | _,_=>none
  | .store t (.tmp x) v,none=>match f.s x,tb.lookup t,opdI f v with
    | some (.t (.c (.ptr n p))),some y,some (.t v,rs)=>match f.l n with
      | some (.box cs)=>if Nat.beq (cellsOf v).length y.n=true then (if Nat.ble (p+y.n) cs.length=true then some ({ rs:=(x,vp n p) :: rs,rl:=[(n,.box cs)],wl:=[(n,some (.box (zkl cs p (cellsOf v))))] }, nx) else none) else none
      | _=>none
    | _,_,_=>none
  | .field t (.tmp x) k,some d=>match f.s x,tb.lookup t with
    | some (.t (.agg cs)),some y=>match y.fs[k]? with
      | some (off,n,true)=>some ({ rs:=[(x,.t (.agg cs))],ws:=[(d,some (.t (.agg ((cs.drop off).take n))))] }, nx)
      | some (off,_,false)=>match cs[off]? with
        | some c=>some ({ rs:=[(x,.t (.agg cs))],ws:=[(d,some (.t (.c c)))] }, nx)
        | none=>none
      | none=>none
    | _,_=>none
  | .extract (.tmp x) k,some d=>match f.s x with
    | some (.tup xs)=>match xs[k]? with
      | some v=>some ({ rs:=[(x,.tup xs)],ws:=[(d,some (.t v))] }, nx)
      | none=>none
    | _=>none
  | .build t ps,some d=>match tb.lookup t,opdP f ps.toList with
    | some y,some (vs,rs)=>match y.z,y.fs with
      | c :: cs,g :: gs=>match zjq ((g :: gs).map fun f=>(f.1,f.2.1)) (c :: cs) vs with
        | some out=>some ({ rs:=rs,ws:=[(d,some (.t (.agg out)))] }, nx)
        | none=>none
      | _,_=>none
    | _,_=>none
  | .pick (.tmp t) x y,some d=>match f.s t with
    | some (.t (.c (.d (.raw (.bool true)))))=>match opdI f x with
      | some (v,rs)=>some (one d v ((t,vb true) :: rs),nx)
      | none=>none
    | some (.t (.c (.d (.raw (.bool false)))))=>match opdI f y with
      | some (v,rs)=>some (one d v ((t,vb false) :: rs),nx)
      | none=>none
    | _=>none
  | .unOp .not _ x,some d=>match opdI f x with
    | some (.t (.c (.d (.raw (.bool b)))),rs)=>some (one d (vb (!b)) rs,nx)
    | _=>none
  | .binOp op t x y _,some d=>if isCmp op=true then (match opdI f x,opdI f y with
    | some (.t (.c (.d (.raw (.int k m)))),rs),some (.t (.c (.d (.raw (.int l n)))),rs')=>if (k == l)=true then some (one d (vb (cmpB op m n)) (rs++rs'),nx) else none
    | some (.t (.c (.d (.raw (.bool m)))),rs),some (.t (.c (.d (.raw (.bool n)))),rs')=>match tb.lookup t with
      | some y=>if Nat.beq y.k 3=true then (match op with
        | .eql=>some (one d (vb (m == n)) (rs++rs'),nx)
        | .neq=>some (one d (vb (m != n)) (rs++rs'),nx)
        | _=>none) else none
      | none=>none
    | _,_=>none) else none
  | .call { callee:=.builtin .len,args:=⟨[.tmp x]⟩,argTypes:=⟨[t]⟩ }, some d=>match f.s x,tb.lookup t with
    | some (.t (.c c)),some y=>if Nat.beq y.k 1=true then (match lenC c with
      | some n=>some ({ rs:=[(x,.t (.c c))],ws:=[(d,some (vi .i64 n))] }, nx)
      | none=>none) else (match c with
      | .d (.raw (.string s))=>if Nat.beq y.k 2=true then some ({ rs:=[(x,vs s)],ws:=[(d,some (vi .i64 s.size))] }, nx) else none
      | _=>none)
    | _,_=>none
  | _,_=>none
def zjl {P:Program} (tb:Tb) (o:Oper):Orc P->Option I
  | .call (k:=k) (ps:=ps) (qs:=qs) (args:=args) (res:=res) _ _=>match o.op,o.dst with
    | .call { callee:=.value (.func k'),args:=⟨xs⟩,.. }, some d=>if Nat.beq k' k=true then (match opdWs xs args with
      | some rs=>some (callI rs ps qs d res)
      | none=>none) else none
    | _,_=>none
  | .add k (m:=m) (n:=n) _=>match o.op,o.dst with
    | .binOp .add _ x y _,some d=>match opdW x (vi k m),opdW y (vi k n) with
      | some rs,some rs'=>some (one d (vi k (m+n)) (rs++rs'))
      | _,_=>none
    | _,_=>none
  | .sub k (m:=m) (n:=n) _=>match o.op,o.dst with
    | .binOp .sub _ x y _,some d=>match opdW x (vi k m),opdW y (vi k n) with
      | some rs,some rs'=>some (one d (vi k (m - n)) (rs++rs'))
      | _,_=>none
    | _,_=>none
  | .mul k (m:=m) (n:=n) _=>match o.op,o.dst with
    | .binOp .mul _ x y _,some d=>match opdW x (vi k m),opdW y (vi k n) with
      | some rs,some rs'=>some (one d (vi k (m*n)) (rs++rs'))
      | _,_=>none
    | _,_=>none
  | .cmp (op:=op) (m:=m) (n:=n) (b:=b) k _=>match o.op,o.dst with
    | .binOp op' _ x y _,some d=>if (op' == op) && isCmp op=true then (match opdW x (vi k m),opdW y (vi k n) with
      | some rs,some rs'=>some (one d (vb b) (rs++rs'))
      | _,_=>none) else none
    | _,_=>none
  | .cmpb op (m:=m) (n:=n) (b:=b) _=>match o.op,o.dst with
    | .binOp op' t x y _,some d=>match tb.lookup t with
      | some ty=>if Nat.beq ty.k 3=true then (if (op' == op)=true then (match opdW x (vb m),opdW y (vb n) with
        | some rs,some rs'=>some (one d (vb b) (rs++rs'))
        | _,_=>none) else none) else none
      | none=>none
    | _,_=>none
  | .conv k k' (m:=m) _=>match o.op,o.dst with
    | .convert s t x,some d=>match tb.lookup s,tb.lookup t with
      | some ys,some yt=>if (ikOf ys.k == some k)=true then (if (ikOf yt.k == some k')=true then (match opdW x (vi k m) with
        | some rs=>some (one d (vi k' m) rs)
        | none=>none) else none) else none
      | _,_=>none
    | _,_=>none
  | .neg k (m:=m) _=>match o.op,o.dst with
    | .unOp .neg _ x,some d=>match opdW x (vi k m) with
      | some rs=>some (one d (vi k (-m)) rs)
      | none=>none
    | _,_=>none
  | .len (c:=c) (n:=n) _=>match o.op,o.dst with
    | .call { callee:=.builtin .len,args:=⟨[.tmp x]⟩,argTypes:=⟨[t]⟩ }, some d=>match tb.lookup t with
      | some y=>if Nat.beq y.k 1=true then some (one d (vi .i64 n) [(x,.t (.c c))]) else none
      | none=>none
    | _,_=>none
  | .gen _ _ i _=>some i
section
variable {P:Program}
theorem instS_ok {tb:Tb} (htb:zj5 P tb) {nx:Nat} {o:Oper} {i:I} {nx':Nat} (h:instS tb f nx o=some (i,nx')):zb6 P o i:=by
 obtain ⟨dst,op,ty,pos,af,gd⟩:=o
 unfold instS at h
 dsimp only at h
 split at h
 ·split at h
  ·rename_i hx;injection h with h;injection h with h1 h2;subst h1;exact Op.move (zc7 hx)
  ·cases h
 ·split at h
  ·rename_i hx;injection h with h;injection h with h1 h2;subst h1;exact Op.assign (zc7 hx)
  ·cases h
 ·split at h
  ·rename_i hx;injection h with h;injection h with h1 h2;subst h1;exact Op.box (zc7 hx) _ rfl
  ·cases h
 ·split at h
  ·rename_i y hy
   split at h
   ·cases h
   ·rename_i c cs hz
    injection h with h;injection h with h1 h2;subst h1
    have:=(htb.get hy).z (by rw [hz];simp)
    rw [hz] at this
    exact Op.allocZ this
  ·cases h
 ·split at h
  ·rename_i n p y hx hy
   split at h
   ·rename_i off m ag hf
    injection h with h;injection h with h1 h2;subst h1
    obtain ⟨h3,h4⟩:=(htb.get hy).fd _ _ _ _ hf
    exact Op.fieldAddr h4 h3 _ rfl
   ·cases h
  ·rename_i xs y hx hy
   split at h
   ·rename_i off m ag hf
    injection h with h;injection h with h1 h2;subst h1
    obtain ⟨h3,h4⟩:=(htb.get hy).fd _ _ _ _ hf
    exact Op.fieldAddrE h4 h3
   ·cases h
  ·cases h
 ·split at h
  ·rename_i n p y hx hy
   split at h
   ·rename_i cs hl
    split at h
    ·rename_i hag
     split at h
     ·rename_i hb
      injection h with h;injection h with h1 h2;subst h1
      have:=(htb.get hy).sz
      rw [hag] at this
      exact Op.load_agg this rfl (bC hb)
     ·cases h
    ·rename_i hag
     split at h
     ·rename_i c hc
      injection h with h;injection h with h1 h2;subst h1
      have:=(htb.get hy).sz
      rw [show y.agg=false by simpa using hag] at this
      exact Op.load_c this hc
     ·cases h
   ·cases h
  ·rename_i xs y hx hy
   split at h
   ·rename_i hag
    split at h
    ·rename_i hb
     injection h with h;injection h with h1 h2;subst h1
     have:=(htb.get hy).sz
     rw [hag] at this
     exact Op.loadE_agg this rfl (bC hb)
    ·cases h
   ·rename_i hag
    split at h
    ·rename_i c hc
     injection h with h;injection h with h1 h2;subst h1
     have:=(htb.get hy).sz
     rw [show y.agg=false by simpa using hag] at this
     exact Op.loadE_c this hc
    ·cases h
  ·cases h
 ·split at h
  ·rename_i n p y v rs hx hy hv
   split at h
   ·rename_i cs hl
    split at h
    ·rename_i hb
     split at h
     ·rename_i hle
      injection h with h;injection h with h1 h2;subst h1
      exact Op.store (htb.get hy).sz (zc7 hv) (bC hb) hle rfl
     ·cases h
    ·cases h
   ·cases h
  ·cases h
 ·split at h
  ·rename_i cs y hx hy
   split at h
   ·rename_i off n hf
    injection h with h;injection h with h1 h2;subst h1
    exact Op.field_agg ((htb.get hy).fd _ _ _ _ hf).2 rfl
   ·rename_i off n hf
    split at h
    ·rename_i c hc
     injection h with h;injection h with h1 h2;subst h1
     exact Op.field_c ((htb.get hy).fd _ _ _ _ hf).2 hc
    ·cases h
   ·cases h
  ·cases h
 ·split at h
  ·rename_i xs hx
   split at h
   ·rename_i v hv
    injection h with h;injection h with h1 h2;subst h1
    exact Op.extract hv
   ·cases h
  ·cases h
 ·split at h
  ·rename_i ps d y vs rs hy hp
   split at h
   ·rename_i c cs g gs hz hf
    split at h
    ·rename_i out ho
     injection h with h;injection h with h1 h2;subst h1
     have h3:=(htb.get hy).z (by rw [hz];simp)
     have h4:=(htb.get hy).pl (by rw [hf];simp)
     rw [hz] at h3
     rw [hf] at h4
     exact Op.build h3 h4 (opdP_spec hp) out ho
    ·cases h
   ·cases h
  ·cases h
 ·split at h
  ·split at h
   ·rename_i v rs hx
    injection h with h;injection h with h1 h2;subst h1
    exact Op.pickT (zc7 hx)
   ·cases h
  ·split at h
   ·rename_i v rs hx
    injection h with h;injection h with h1 h2;subst h1
    exact Op.pickF (zc7 hx)
   ·cases h
  ·cases h
 ·split at h
  ·rename_i b rs hx
   injection h with h;injection h with h1 h2;subst h1
   exact Op.not (zc7 hx)
  ·cases h
 ·split at h
  ·rename_i hc
   split at h
   ·rename_i k m rs l n rs' hx hy
    split at h
    ·rename_i hkl
     injection h with h;injection h with h1 h2;subst h1
     obtain rfl:k=l:=by simpa using hkl
     exact Op.cmp (zc7 hx) (zc7 hy) hc rfl
    ·cases h
   ·rename_i m rs n rs' hx hy
    split at h
    ·rename_i y ht
     split at h
     ·rename_i hk
      have hu:=(htb.get ht).k3 (bC hk)
      split at h
      ·injection h with h;injection h with h1 h2;subst h1
       exact Op.cmpb hu (zc7 hx) (zc7 hy) (.inl ⟨rfl,rfl⟩)
      ·injection h with h;injection h with h1 h2;subst h1
       exact Op.cmpb hu (zc7 hx) (zc7 hy) (.inr ⟨rfl,rfl⟩)
      ·cases h
     ·cases h
    ·cases h
   ·cases h
  ·cases h
 ·split at h
  ·rename_i c y hx hy
   split at h
   ·rename_i hk
    split at h
    ·rename_i n hn
     injection h with h;injection h with h1 h2;subst h1
     obtain ⟨el,hu⟩:=(htb.get hy).k1 (bC hk)
     exact Op.len hu (OV.tmp _ _) hn
    ·cases h
   ·split at h
    ·split at h
     ·rename_i hk2
      injection h with h;injection h with h1 h2;subst h1
      exact Op.lens ((htb.get hy).k2 (bC hk2)) (OV.tmp _ _)
     ·cases h
    ·cases h
  ·cases h
 ·cases h
theorem instO_ok {tb:Tb} (htb:zj5 P tb) {o:Oper} {c:Orc P} {i:I} (h:zjl tb o c=some i) (hg:∀ d op i' hh,c = .gen d op i' hh->o.dst=d/\o.op=op):zb6 P o i:=by
 obtain ⟨dst,op,ty,pos,af,gd⟩:=o
 cases c with
 | call hf b =>
  simp only [zjl] at h
  split at h
  ·split at h
   ·rename_i hk
    split at h
    ·rename_i rs hr
     injection h with h;subst h
     rw [bC hk]
     exact Op.call hf b (opdWs_spec hr)
    ·cases h
   ·cases h
  ·cases h
 | add k hr =>
  simp only [zjl] at h
  split at h
  ·split at h
   ·rename_i h1 h2
    injection h with h;subst h
    exact Op.arith (zch h1) (zch h2) (.inl ⟨rfl,rfl⟩) hr
   ·cases h
  ·cases h
 | sub k hr =>
  simp only [zjl] at h
  split at h
  ·split at h
   ·rename_i h1 h2
    injection h with h;subst h
    exact Op.arith (zch h1) (zch h2) (.inr (.inl ⟨rfl,rfl⟩)) hr
   ·cases h
  ·cases h
 | mul k hr =>
  simp only [zjl] at h
  split at h
  ·split at h
   ·rename_i h1 h2
    injection h with h;subst h
    exact Op.arith (zch h1) (zch h2) (.inr (.inr ⟨rfl,rfl⟩)) hr
   ·cases h
  ·cases h
 | cmp k hb =>
  simp only [zjl] at h
  split at h
  ·split at h
   ·rename_i hc
    simp only [bV] at hc
    split at h
    ·rename_i h1 h2
     injection h with h;subst h
     obtain rfl:=eq_of_beq hc.1
     exact Op.cmp (zch h1) (zch h2) (by simpa using hc.2) hb
    ·cases h
   ·cases h
  ·cases h
 | cmpb op hb =>
  simp only [zjl] at h
  split at h
  ·split at h
   ·rename_i ty hty
    split at h
    ·rename_i hk
     split at h
     ·rename_i hop
      split at h
      ·rename_i h1 h2
       injection h with h;subst h
       have hu:=(htb.get hty).k3 (bC hk)
       have hop:=eq_of_beq hop
       subst hop
       exact Op.cmpb hu (zch h1) (zch h2) hb
      ·cases h
     ·cases h
    ·cases h
   ·cases h
  ·cases h
 | conv k k' hr =>
  simp only [zjl] at h
  split at h
  ·split at h
   ·rename_i ys yt hs ht
    split at h
    ·rename_i hk
     split at h
     ·rename_i hk'
      split at h
      ·rename_i h1
       injection h with h;subst h
       exact Op.conv ((htb.get ht).ki k' (by simpa using hk')) ((htb.get hs).ki k (by simpa using hk)) (zch h1) hr
      ·cases h
     ·cases h
    ·cases h
   ·cases h
  ·cases h
 | neg k hr =>
  simp only [zjl] at h
  split at h
  ·split at h
   ·rename_i h1
    injection h with h;subst h
    exact Op.neg (zch h1) rfl hr
   ·cases h
  ·cases h
 | len hn =>
  simp only [zjl] at h
  split at h
  ·split at h
   ·rename_i y hy
    split at h
    ·rename_i hk
     injection h with h;subst h
     obtain ⟨el,hu⟩:=(htb.get hy).k1 (bC hk)
     exact Op.len hu (OV.tmp _ _) hn
    ·cases h
   ·cases h
  ·cases h
 | gen d op' i' hh =>
  simp only [zjl] at h
  injection h with h;subst h
  obtain ⟨h1,h2⟩:=hg d op' i' hh rfl
  simp only at h1 h2
  subst h1 h2
  exact hh ty pos af gd
def run1 (tb:Tb) (ops:Array Oper) (f:F) (nx:Nat) (o:Oper) (c:Option (Orc P)):Option (I × Nat) :=
  let go:Option (I × Nat):=match c with
    | some c=>match zjl tb o c with
      | some i=>some (i,nx)
      | none=>none
    | none=>instS tb f nx o
  match o.guard with
  | none=>go
  | some (g,b)=>match (ops[g]?).bind (·.dst) with
    | none=>none
    | some d=>match f.s d with
      | some (.t (.c (.d (.raw (.bool c)))))=>if (c == b)=true then (match go with
          | some (i,n)=>some (i.also d (gv c),n)
          | none=>none)
        else some ({ rs:=[(d,gv c)],ws:=o.dst.toList.map fun t=>(t,some (.tup [])) }, nx)
      | some (.tup [])=>some ({ rs:=[(d,.tup [])],ws:=o.dst.toList.map fun t=>(t,some (.tup [])) }, nx)
      | _=>none
theorem run1_ok {tb:Tb} (htb:zj5 P tb) {ops:Array Oper} {nx:Nat} {o:Oper} {c:Option (Orc P)} {i:I} {nx':Nat} (h:run1 tb ops f nx o c=some (i,nx')) (hg:∀ d op i' hh,c=some (.gen d op i' hh)->o.dst=d/\o.op=op):Does P ops o i:=by
 have hgo:∀ j m,(match c with
  | some c=>match zjl tb o c with
   | some i=>some (i,nx)
   | none=>none
  | none=>instS tb f nx o)=some (j,m)->zb6 P o j:=by
  intro j m hj
  cases c with
  | none=>exact instS_ok htb hj
  | some c =>
   simp only at hj
   split at hj
   ·rename_i i' hi
    injection hj with hj;injection hj with h1 h2;subst h1
    exact instO_ok htb hi fun d op i2 hh e=>hg d op i2 hh (by rw [e])
   ·cases hj
 unfold run1 at h
 dsimp only at h
 split at h
 ·rename_i hgd
  exact .run hgd (hgo _ _ h)
 ·rename_i g b hgd
  split at h
  ·cases h
  ·rename_i d hd
   split at h
   ·rename_i c' hc'
    split at h
    ·rename_i hcb
     obtain rfl:c'=b:=by simpa using hcb
     split at h
     ·rename_i i' n' hi
      injection h with h;injection h with h1 h2;subst h1
      exact .runG g c' d hgd hd (by simp [I.also]) (hgo _ _ hi).also
     ·cases h
    ·rename_i hcb
     injection h with h;injection h with h1 h2;subst h1
     have:c'=!b:=by cases c' <;> cases b <;> simp at hcb ⊢
     subst this
     exact .skip g b d hgd hd (by simp) rfl rfl rfl
   ·injection h with h;injection h with h1 h2;subst h1
    exact .skip2 g b d hgd hd (by simp) rfl rfl rfl
   ·cases h
def zd3 (tb:Tb) (ops:Array Oper):F->Nat->Nat->List Oper->List (Nat × Orc P)->Option (List I)
  | _,_,_,[],_=>some []
  | f,nx,j,o :: os,cs=>match run1 tb ops f nx o (cs.lookup j) with
    | some (i,nx')=>match zd3 tb ops (f.app i) nx' (j+1) os cs with
      | some is=>some (i :: is)
      | none=>none
    | none=>none
def zkc (os:List Oper):List (Nat × Orc P)->List ((Option Nat × Op) × (Option Nat × Op))
  | []=>[]
  | (j,.gen d op _ _) :: cs=>((((os[j]?).map (·.dst)).getD none,((os[j]?).map (·.op)).getD default),(d,op)) :: zkc os cs
  | _ :: cs=>zkc os cs
theorem gens_mem {os:List Oper} {d:Option Nat} {op:Op} {i:I} {h:∀ ty pos af gd,zb6 P ⟨d,op,ty,pos,af,gd⟩ i}:∀ {cs:List (Nat × Orc P)} {j:Nat}, (j,Orc.gen d op i h) ∈ cs->((((os[j]?).map (·.dst)).getD none,((os[j]?).map (·.op)).getD default),(d,op)) ∈ zkc os cs
 | (j', c) :: cs,j,hm=>by
  rcases bS.1 hm with e | hm
  ·injection e with e1 e2
   subst e1 e2
   simp [zkc]
  ·have:=gens_mem (os:=os) hm
   cases c <;> simp only [zkc] <;> first | exact this | exact List.mem_cons_of_mem _ this
theorem zkt {tb:Tb} (htb:zj5 P tb) {ops:Array Oper} {cs:List (Nat × Orc P)} (hg:(zkc ops.toList cs).map (·.1)=(zkc ops.toList cs).map (·.2)) :
  ∀ (os:List Oper) (f:F) (nx j:Nat) (is:List I),ops.toList.drop j=os->zd3 tb ops f nx j os cs=some is->AllDo P ops os is
 | [],f,nx,j,is,_,h=>by simp [zd3] at h;subst h;trivial
 | o :: os,f,nx,j,is,hd,h=>by
  simp only [zd3] at h
  split at h
  ·rename_i i nx' h1
   split at h
   ·rename_i is' h2
    injection h with h;subst h
    have ho:ops.toList[j]?=some o:=by
     have:=congrArg (fun l=>l[0]?) hd
     simpa using this
    refine ⟨run1_ok htb h1 ?_,zkt htb hg os _ _ (j+1) is' ?_ h2⟩
    ·intro d op i' hh hc
     have hm:=gens_mem (os:=ops.toList) (zau hc)
     have:=zbw hg _ hm
     rw [ho] at this
     simp at this
     exact this
    ·have:List.drop 1 (ops.toList.drop j)=os:=by rw [hd];rfl
     rw [List.drop_drop] at this
     simpa using this
   ·cases h
  ·cases h
structure Seen where
  ok:Bool
  s:List (Option V)
  n:List (Option L)
  s':List (Option V)
  n':List (Option L)
end
section
variable {Q:Exit->Act->World->Prop} {w0:World} {H0:Im} {B0:Bl} {K:List Nat} {N:Nat}
def dK (ds:List Nat):List (Nat × V)->List (Nat × V)
  | []=>[]
  | p :: t=>bif ds.any (Nat.beq p.1) then dK ds t else p :: dK ds t
def iK (k:Nat) (v:V):List (Nat × V)->List (Nat × V)
  | []=>[(k,v)]
  | p :: t=>bif Nat.blt k p.1 then (k,v) :: p :: t else bif Nat.beq k p.1 then (k,v) :: t else p :: iK k v t
def uK (ds:List Nat) (nw sl:List (Nat × V)):List (Nat × V):=nw.foldr (fun p l=>iK p.1 p.2 l) (dK ds sl)
def uL (ds:List Nat) (nw:List (Nat × L)):List (Nat × L)->List (Nat × L)
  | []=>nw
  | p :: t=>bif ds.any (Nat.beq p.1) then uL ds nw t else bif nw.any (fun q=>Nat.beq q.1 p.1) then (nw.filter fun q=>Nat.beq q.1 p.1)++uL ds (nw.filter fun q=>!Nat.beq q.1 p.1) t else p :: uL ds nw t
theorem cvM (ds:List Nat) (nw:List (Nat × V)) (md:List Nat) (mn:List (Nat × L)) (p:(sl,lc)=(uK ds nw sl,uL md mn lc)) (h:St e (F.of sl lc) a w):St e (F.of (uK ds nw sl) (uL md mn lc)) a w :=
  h.conv (congr (congrArg F.of (congrArg Prod.fst p)) (congrArg Prod.snd p))
theorem zcc {ι:Type} {c:Code} (I:ι->Prop) (ds:List Nat) (nws:ι->List (Nat × V)) (md:List Nat) (mns:ι->List (Nat × L)) (μ:ι->Nat) (x:ι) (hI:I x) (h:St ⟨w0,H0,B0,K,N⟩ (F.of sl lc) a w)
    (round:∀ x a w,I x->St ⟨w0,H0,B0,K,N⟩ (F.of (uK ds (nws x) sl) (uL md (mns x) lc)) a w->c.wp P (Exit.then (fun a' w'=>∃ y,(I y/\μ y<μ x)/\St ⟨w0,H0,B0,K,N⟩ (F.of (uK ds (nws y) sl) (uL md (mns y) lc)) a' w') Q) a w)
    (h1:leS (F.of sl lc) (uK ds (nws x) sl)=(uK ds (nws x) sl).map fun p=>some p.2:=by kernel_rfl) (h2:leN (F.of sl lc) (uL md (mns x) lc)=(uL md (mns x) lc).map fun p=>some p.2:=by kernel_rfl):(Code.loop c).wp P Q a w:=loopS I (fun x=>uK ds (nws x) sl) (fun x=>uL md (mns x) lc) μ x hI h h1 h2 round
def hcL (tb:Tb) (draw:Bool) (ops:Array Oper) (nx:Nat) (cs:List (Nat × Orc dY)) (N:Nat) (K:List Nat) (sl:List (Nat × V)) (lc:List (Nat × L)) (sl':List (Nat × V)) (lc':List (Nat × L)):=((zkc ops.toList cs).map (·.1),(zd3 tb ops (F.of sl lc) nx 0 ops.toList cs).isSome,(zd3 tb ops (F.of sl lc) nx 0 ops.toList cs).map fun is=>Seen.mk (chk draw ops.toList is N K sl lc) (runS (F.of sl lc) is) (runN (F.of sl lc) is) (leS (zig (F.of sl lc) is) sl') (leN (zig (F.of sl lc) is) lc'))
def hcR (tb:Tb) (ops:Array Oper) (nx:Nat) (cs:List (Nat × Orc dY)) (sl:List (Nat × V)) (lc:List (Nat × L)) (sl':List (Nat × V)) (lc':List (Nat × L)):=((zkc ops.toList cs).map (·.2),true,(zd3 tb ops (F.of sl lc) nx 0 ops.toList cs).map fun is=>Seen.mk true (zj7 is) (zj8 is) (sl'.map fun p=>some p.2) (lc'.map fun p=>some p.2))
theorem rS {tb:Tb} (htb:zj5 dY tb) {id:Nat} {ops:Array Oper} (nx:Nat) (cs:List (Nat × Orc dY)) (sl':List (Nat × V)) (lc':List (Nat × L))
  (hc:((zkc ops.toList cs).map (·.1),(zd3 tb ops (F.of sl lc) nx 0 ops.toList cs).isSome,(zd3 tb ops (F.of sl lc) nx 0 ops.toList cs).map fun is=>Seen.mk (chk draw ops.toList is N K sl lc) (runS (F.of sl lc) is) (runN (F.of sl lc) is) (leS (zig (F.of sl lc) is) sl') (leN (zig (F.of sl lc) is) lc')) =
   ((zkc ops.toList cs).map (·.2),true,(zd3 tb ops (F.of sl lc) nx 0 ops.toList cs).map fun is=>Seen.mk true (zj7 is) (zj8 is) (sl'.map fun p=>some p.2) (lc'.map fun p=>some p.2)))
  (h:St ⟨w0,H0,B0,K,N⟩ (F.of sl lc) a w) (hQ:∀ a w,St ⟨w0,H0,B0,K,N⟩ (F.of sl' lc') a w->Q .normal a w):(Code.region id ops draw).wp dY Q a w:=by
 simp only [Prod.mk.injEq] at hc
 obtain ⟨hg,hs,hm⟩:=hc
 cases hi:zd3 tb ops (F.of sl lc) nx 0 ops.toList cs with
 | none=>rw [hi] at hs;cases hs
 | some is =>
  rw [hi] at hm
  simp only [bW,Option.some.injEq,Seen.mk.injEq] at hm
  exact region is sl' lc' mixed (zkt htb hg _ _ _ _ _ rfl hi) hm.1 hm.2.1 hm.2.2.1 hm.2.2.2.1 hm.2.2.2.2 h hQ
theorem Jn {tb:Tb} {id:Nat} {ops:Array Oper} (nx:Nat) (cs:List (Nat × Orc dY)) (sl':List (Nat × V)) (lc':List (Nat × L)) (h:St ⟨w0,H0,B0,K,N⟩ (F.of sl lc) a w) (hQ:∀ a w,St ⟨w0,H0,B0,K,N⟩ (F.of sl' lc') a w->Q .normal a w) (htb:zj5 dY tb:=by exact zb0) (hc:hcL tb draw ops nx cs N K sl lc sl' lc'=hcR tb ops nx cs sl lc sl' lc':=by kernel_rfl):(Code.region id ops draw).wp dY Q a w:=rS htb nx cs sl' lc' hc h hQ
theorem Jh {tb:Tb} {id:Nat} {ops:Array Oper} (nx:Nat) (cs:List (Nat × Orc dY)) (ds:List Nat) (nw:List (Nat × V)) (md:List Nat) (mn:List (Nat × L)) (h:St ⟨w0,H0,B0,K,N⟩ (F.of sl lc) a w) (hQ:∀ a w,St ⟨w0,H0,B0,K,N⟩ (F.of (uK ds nw sl) (uL md mn lc)) a w->Q .normal a w) (htb:zj5 dY tb:=by exact zb0) (hc:hcL tb draw ops nx cs N K sl lc (uK ds nw sl) (uL md mn lc)=hcR tb ops nx cs sl lc (uK ds nw sl) (uL md mn lc):=by kernel_rfl):(Code.region id ops draw).wp dY Q a w:=rS htb nx cs (uK ds nw sl) (uL md mn lc) hc h hQ
theorem Jm {tb:Tb} {id:Nat} {ops:Array Oper} (nx:Nat) (cs:List (Nat × Orc dY)) (ds:List Nat) (nw:List (Nat × V)) (lc':List (Nat × L)) (h:St ⟨w0,H0,B0,K,N⟩ (F.of sl lc) a w) (hQ:∀ a w,St ⟨w0,H0,B0,K,N⟩ (F.of (uK ds nw sl) lc') a w->Q .normal a w) (htb:zj5 dY tb:=by exact zb0) (hc:hcL tb draw ops nx cs N K sl lc (uK ds nw sl) lc'=hcR tb ops nx cs sl lc (uK ds nw sl) lc':=by kernel_rfl):(Code.region id ops draw).wp dY Q a w:=rS htb nx cs (uK ds nw sl) lc' hc h hQ
theorem Jf {tb:Tb} {id:Nat} {ops:Array Oper} (nx:Nat) (cs:List (Nat × Orc dY)) (ds:List Nat) (nw:List (Nat × V)) (h:St ⟨w0,H0,B0,K,N⟩ (F.of sl lc) a w) (hQ:∀ a w,St ⟨w0,H0,B0,K,N⟩ (F.of (uK ds nw sl) lc) a w->Q .normal a w) (htb:zj5 dY tb:=by exact zb0) (hc:hcL tb draw ops nx cs N K sl lc (uK ds nw sl) lc=hcR tb ops nx cs sl lc (uK ds nw sl) lc:=by kernel_rfl):(Code.region id ops draw).wp dY Q a w:=rS htb nx cs (uK ds nw sl) lc hc h hQ
theorem Jl {tb:Tb} {id:Nat} {ops:Array Oper} (nx:Nat) (cs:List (Nat × Orc dY)) (sl':List (Nat × V)) (h:St ⟨w0,H0,B0,K,N⟩ (F.of sl lc) a w) (hQ:∀ a w,St ⟨w0,H0,B0,K,N⟩ (F.of sl' lc) a w->Q .normal a w) (htb:zj5 dY tb:=by exact zb0) (hc:hcL tb draw ops nx cs N K sl lc sl' lc=hcR tb ops nx cs sl lc sl' lc:=by kernel_rfl):(Code.region id ops draw).wp dY Q a w:=rS htb nx cs sl' lc hc h hQ
theorem rSeq {tb:Tb} (htb:zj5 dY tb) {id:Nat} {ops:Array Oper} {y:Code} (nx:Nat) (cs:List (Nat × Orc dY)) (sl':List (Nat × V)) (lc':List (Nat × L))
  (hc:((zkc ops.toList cs).map (·.1),(zd3 tb ops (F.of sl lc) nx 0 ops.toList cs).isSome,(zd3 tb ops (F.of sl lc) nx 0 ops.toList cs).map fun is=>Seen.mk (chk draw ops.toList is N K sl lc) (runS (F.of sl lc) is) (runN (F.of sl lc) is) (leS (zig (F.of sl lc) is) sl') (leN (zig (F.of sl lc) is) lc')) =
   ((zkc ops.toList cs).map (·.2),true,(zd3 tb ops (F.of sl lc) nx 0 ops.toList cs).map fun is=>Seen.mk true (zj7 is) (zj8 is) (sl'.map fun p=>some p.2) (lc'.map fun p=>some p.2)))
  (h:St ⟨w0,H0,B0,K,N⟩ (F.of sl lc) a w) (hQ:∀ a w,St ⟨w0,H0,B0,K,N⟩ (F.of sl' lc') a w->y.wp dY Q a w):(Code.seq (Code.region id ops draw) y).wp dY Q a w :=
 qW (rS htb nx cs sl' lc' hc h hQ)
theorem Jq {tb:Tb} {id:Nat} {ops:Array Oper} {y:Code} (nx:Nat) (cs:List (Nat × Orc dY)) (sl':List (Nat × V)) (lc':List (Nat × L)) (h:St ⟨w0,H0,B0,K,N⟩ (F.of sl lc) a w) (hQ:∀ a w,St ⟨w0,H0,B0,K,N⟩ (F.of sl' lc') a w->y.wp dY Q a w) (htb:zj5 dY tb:=by exact zb0) (hc:hcL tb draw ops nx cs N K sl lc sl' lc'=hcR tb ops nx cs sl lc sl' lc':=by kernel_rfl):(Code.seq (Code.region id ops draw) y).wp dY Q a w:=rSeq htb nx cs sl' lc' hc h hQ
theorem Jg {tb:Tb} {id:Nat} {ops:Array Oper} {y:Code} (nx:Nat) (cs:List (Nat × Orc dY)) (ds:List Nat) (nw:List (Nat × V)) (md:List Nat) (mn:List (Nat × L)) (h:St ⟨w0,H0,B0,K,N⟩ (F.of sl lc) a w) (hQ:∀ a w,St ⟨w0,H0,B0,K,N⟩ (F.of (uK ds nw sl) (uL md mn lc)) a w->y.wp dY Q a w) (htb:zj5 dY tb:=by exact zb0) (hc:hcL tb draw ops nx cs N K sl lc (uK ds nw sl) (uL md mn lc)=hcR tb ops nx cs sl lc (uK ds nw sl) (uL md mn lc):=by kernel_rfl):(Code.seq (Code.region id ops draw) y).wp dY Q a w:=rSeq htb nx cs (uK ds nw sl) (uL md mn lc) hc h hQ
theorem Jd {tb:Tb} {id:Nat} {ops:Array Oper} {y:Code} (nx:Nat) (cs:List (Nat × Orc dY)) (ds:List Nat) (nw:List (Nat × V)) (lc':List (Nat × L)) (h:St ⟨w0,H0,B0,K,N⟩ (F.of sl lc) a w) (hQ:∀ a w,St ⟨w0,H0,B0,K,N⟩ (F.of (uK ds nw sl) lc') a w->y.wp dY Q a w) (htb:zj5 dY tb:=by exact zb0) (hc:hcL tb draw ops nx cs N K sl lc (uK ds nw sl) lc'=hcR tb ops nx cs sl lc (uK ds nw sl) lc':=by kernel_rfl):(Code.seq (Code.region id ops draw) y).wp dY Q a w:=rSeq htb nx cs (uK ds nw sl) lc' hc h hQ
theorem Je {tb:Tb} {id:Nat} {ops:Array Oper} {y:Code} (nx:Nat) (cs:List (Nat × Orc dY)) (ds:List Nat) (nw:List (Nat × V)) (h:St ⟨w0,H0,B0,K,N⟩ (F.of sl lc) a w) (hQ:∀ a w,St ⟨w0,H0,B0,K,N⟩ (F.of (uK ds nw sl) lc) a w->y.wp dY Q a w) (htb:zj5 dY tb:=by exact zb0) (hc:hcL tb draw ops nx cs N K sl lc (uK ds nw sl) lc=hcR tb ops nx cs sl lc (uK ds nw sl) lc:=by kernel_rfl):(Code.seq (Code.region id ops draw) y).wp dY Q a w:=rSeq htb nx cs (uK ds nw sl) lc hc h hQ
theorem Jp {tb:Tb} {id:Nat} {ops:Array Oper} {y:Code} (nx:Nat) (cs:List (Nat × Orc dY)) (sl':List (Nat × V)) (h:St ⟨w0,H0,B0,K,N⟩ (F.of sl lc) a w) (hQ:∀ a w,St ⟨w0,H0,B0,K,N⟩ (F.of sl' lc) a w->y.wp dY Q a w) (htb:zj5 dY tb:=by exact zb0) (hc:hcL tb draw ops nx cs N K sl lc sl' lc=hcR tb ops nx cs sl lc sl' lc:=by kernel_rfl):(Code.seq (Code.region id ops draw) y).wp dY Q a w:=rSeq htb nx cs sl' lc hc h hQ
end
structure SlT (P:Program) (t el:TypeId) (es:Nat):Prop where
  hu:P.underlying t=some (.slice el)
  hs:(P.info? el).map (·.size)=some es
theorem SlT.mk' {t:TypeId} (hu:P.underlying t=some (.slice el)) (hs:(P.info? el).map (·.size)=some es):SlT P t el es:=⟨hu,hs⟩
theorem size_run {t:TypeId} (h:(P.info? t).map (·.size)=some n) (w:World):(Go.sizeOf t).run P w = .ok n w:=by
 cases hi:P.info? t with
 | none=>rw [hi] at h;cases h
 | some i =>
  rw [hi] at h
  injection h with h
  have e1:(typeInfo t).run P w = .ok i w:=by unfold typeInfo;simp only [Sem.run_bind,run_program,Result.andThen_ok,hi];rfl
  unfold Go.sizeOf
  simp [e1,h,go_sem]
theorem run_indexAt {t:TypeId} (h:SlT P t el es) {c:Nat} {k:IntKind} (hi:i<n) (w:World) :
  (Instr.indexAt t (.slice (some ⟨b,o,none⟩) n c) (.int k i)).run P w = .ok (.pointer (some ⟨b,o+i*es,none⟩)) w:=by
 have h1:(0:Int)<=i/\(i:Int)<n:=⟨by omega,by omega⟩
 unfold Instr.indexAt
 simp only [asIntOf,Sem.run_bind,Sem.run_pure,Result.andThen_ok,run_underlying h.hu,h1,and_self,if_true,size_run h.hs,Int.toNat_natCast,Addr.add_mid]
section
variable {P:Program}
theorem Op.idxD {d:Nat} {r:List D} {k:IntKind} {pos af gd} (hs:SlT P xt el es) (hr:rows[i]?=some r) (hy:OV y (vi k i) rs) :
  zb6 P ⟨some d,.indexAddr xt (.tmp t) y,ty,pos,af,gd⟩ { rs:=(t,.t (.c (.d (.sl es rows)))) :: rs,ws:=[(d,some (.t (.c (.el r))))] } :=
 zb6.value d _ rfl rfl rfl fun e f H B a w hok hr2=>by
  have h1:=hok.slot t _ (hr2.1 (t,.t (.c (.d (.sl es rows)))) (by simp))
  have h2:a.eval y = .int k i:=(hy.eval hok fun p hp=>hr2.1 p (by simp [hp])).rawI
  obtain ⟨hi,rfl⟩:=bF.1 hr
  have h3:DR H (.sl es rows) (a.eval (.tmp t)):=h1
  generalize hv0:a.eval (.tmp t)=v at h3
  cases h3 with
  | nil ao c=>simp at hi
  | sl _ _ b o c arr ty' fz vs hp hb hl hc hes hv hx =>
   refine ⟨.pointer (some ⟨b,o+i*es,none⟩),?_,b,o+i*es,arr,ty', fz,hb,rfl,fun j hj=>⟨vs i j,hv i hi j (by rw [<- hes i hi];exact hj),hx i hi j hj⟩⟩
   have h5:a.eval (.tmp t) = .slice (some ⟨b,o,none⟩) rows.length c:=hv0
   generalize a.eval=ρ at h5 h2 ⊢
   simp only [execOp,h5,h2,Sem.run_bind,run_indexAt hs hi,Result.andThen_ok,Sem.run_pure]
end
theorem zb4.iff {β:Type} {R:α->β->Prop}:∀ {xs:List α} {ys:List β}, zb4 R xs ys ↔ xs.length=ys.length/\∀ (j:Nat) a b,xs[j]?=some a->ys[j]?=some b->R a b
 | [],[]=>⟨fun _=>⟨rfl,fun j a b h=>by simp at h⟩,fun _=>trivial⟩
 | x :: xs,y :: ys=>by
  constructor
  ·intro h
   obtain ⟨h1,h2⟩:=zb4.iff.1 h.2
   refine ⟨by simp [h1],fun j a b ha hb=>?_⟩
   cases j with
   | zero=>simp at ha hb;subst ha hb;exact h.1
   | succ j=>exact h2 j a b (by simpa using ha) (by simpa using hb)
  ·rintro ⟨h1,h2⟩
   exact ⟨h2 0 x y rfl rfl,zb4.iff.2 ⟨by simpa using h1,fun j a b ha hb=>h2 (j+1) a b (by simpa using ha) (by simpa using hb)⟩⟩
 | [],_ :: _=>⟨fun h=>h.elim,fun h=>by simp at h⟩
 | _ :: _,[]=>⟨fun h=>h.elim,fun h=>by simp at h⟩
theorem flat_at:∀ {rows:List (List α)} (_:∀ r ∈ rows,r.length=es) (i f:Nat),f<es->rows.flatten[i*es+f]?=(rows[i]?).bind (·[f]?)
 | [],_,i,f,_=>by simp
 | r :: rows,h,0,f,hf=>by
  have:r.length=es:=h r (by simp)
  simp only [dA,Nat.zero_mul,cG,List.getElem?_cons_zero,Option.bind_some]
  rw [cQ (by omega)]
 | r :: rows,h,i+1,f,hf=>by
  have:r.length=es:=h r (by simp)
  simp only [dA,dP]
  rw [dB (by rw [this,bM];omega),<- flat_at (fun r hr=>h r (by simp [hr])) i f hf]
  congr 1
  rw [this,bM];omega
theorem zit:∀ {rows:List (List α)} (_:∀ r ∈ rows,r.length=es),rows.flatten.length=rows.length*es
 | [],_=>by simp
 | r :: rows,h=>by
  rw [dA,bX,zit fun r hr=>h r (by simp [hr]),h r (by simp),bK,bM];omega
def zk8 {α:Type} (R:α->Value->Prop) (arr:List Value) (es:Nat) (rows:List (List α)):Prop:=∀ (i:Nat) r,rows[i]?=some r->∀ (f:Nat) x,r[f]?=some x->∃ u,arr[i*es+f]?=some u/\R x u
abbrev RowAt (H:Im):=zk8 (DR H)
theorem zea {R:α->Value->Prop} {arr:List Value} {c:Nat} {rows:List (List α)} (h1:arr.length=c*es) (h2:rows.length<=c) (h3:∀ r ∈ rows,r.length=es) :
  zb4 R rows.flatten (arr.take (rows.length*es)) ↔ zk8 R arr es rows:=by
 have hle:rows.length*es<=c*es:=bH _ h2
 rw [zb4.iff]
 constructor
 ·rintro ⟨_,hR⟩ i r hr f x hx
  have hf:f<es:=by rw [<- h3 r (bL hr)];exact (bF.1 hx).1
  have hi:i<rows.length:=(bF.1 hr).1
  have hlt:i*es+f<rows.length*es:=by
   have:(i+1)*es<=rows.length*es:=bH _ hi
   rw [bM] at this;omega
  have e1:rows.flatten[i*es+f]?=some x:=by rw [flat_at h3 i f hf,hr];exact hx
  have e2:arr[i*es+f]?=some (arr[i*es+f]'(by omega)):=bG _
  refine ⟨_,e2,hR _ _ _ e1 ?_⟩
  rw [bU,if_pos hlt,e2]
 ·intro hR
  refine ⟨by rw [zit h3,bT];omega,fun j x u hx hu=>?_⟩
  have hj:j<rows.length*es:=by rw [<- zit h3];exact (bF.1 hx).1
  have he:0<es:=dC fun e=>by simp [e] at hj
  have hjj:j=j / es*es+j % es:=by rw [b8];exact (dD j es).symm
  rw [hjj,flat_at h3 _ _ (cR _ he)] at hx
  cases hr:rows[j / es]? with
  | none=>rw [hr] at hx;cases hx
  | some r =>
   rw [hr] at hx
   obtain ⟨v,h4,h5⟩:=hR _ r hr _ x hx
   rw [<- hjj] at h4
   rw [bU,if_pos hj,h4] at hu
   injection hu with hu
   rwa [<- hu]
theorem putL_get:∀ (r l:List α) (o j:Nat),o+r.length<=l.length->(zkl l o r)[j]?=if o<=j/\j<o+r.length then r[j - o]? else l[j]?
 | [],l,o,j,_=>by simp [zkl];intros;omega
 | v :: r,l,o,j,h=>by
  simp only [bK] at h
  rw [zkl,putL_get r (l.set o v) (o+1) j (by simp;omega)]
  by_cases h1:j=o
  ·subst h1
   have:¬ (j+1<=j/\j<j+1+r.length):=by omega
   rw [if_neg this,if_pos ⟨bZ _,by simp⟩,Nat.sub_self,cT (by omega)]
   rfl
  ·by_cases h2:o+1<=j/\j<o+1+r.length
   ·rw [if_pos h2,if_pos (by simp;omega),show j - o=(j - (o+1))+1 by omega,dP]
   ·rw [if_neg h2,if_neg (by simp;omega),cU (by omega)]
section
variable {P:Program}
theorem Op.idxO {d len:Nat} {k:IntKind} {pos af gd} (hs:SlT P xt el es) (hi:i<len) (hy:OV y (vi k i) rs) :
  zb6 P ⟨some d,.indexAddr xt (.tmp t) y,ty,pos,af,gd⟩ { rs:=(t,.t (.c (.own n len))) :: rs,ws:=[(d,some (vp n (i*es)))] } :=
 zb6.value d _ rfl rfl rfl fun e f H B a w hok hr2=>by
  have h1:=hok.slot t _ (hr2.1 (t,.t (.c (.own n len))) (by simp))
  have h2:a.eval y = .int k i:=(hy.eval hok fun p hp=>hr2.1 p (by simp [hp])).rawI
  simp only [VR,TR,CR] at h1
  cases hB:B n with
  | none=>rw [hB] at h1;have:=h1.1;omega
  | some p =>
   obtain ⟨b,c⟩:=p
   rw [hB] at h1
   refine ⟨.pointer (some ⟨b,i*es,none⟩),?_,b,c,hB,rfl⟩
   have h5:a.eval (.tmp t) = .slice (some ⟨b,0,none⟩) len c:=h1
   generalize a.eval=ρ at h5 h2 ⊢
   simp only [execOp,h5,h2,Sem.run_bind,run_indexAt hs hi,Result.andThen_ok,Sem.run_pure,cG]
theorem Ok.row (h:Ok e f H B a w) (hl:f.l n=some (.row ty es rows)) {c:Nat} (hB:B n=some (b,c)) :
  ∃ arr:List Value,w.heap[b]?=some (.cells ⟨arr⟩ ty (0,0))/\arr.length=c*es/\rows.length<=c/\c<=maxLen/\(∀ r ∈ rows,r.length=es)/\RowAt H arr es rows:=by
 have h1:=h.loc n _ hl
 simp only [LR,hB] at h1
 obtain ⟨arr,h1,h2,h3,h4,h5,h6⟩:=h1
 exact ⟨arr,h1,h2,h3,h4,h5,(zea h2 h3 h5).1 h6⟩
theorem Op.loadR_agg {d:Nat} {r xs:List D} {pos af gd} (hs:Sz P xt m true) (ho:o=i*es+fo) (hr:rows[i]?=some r) (hx:(r.drop fo).take m=xs) (hm:xs.length=m) :
  zb6 P ⟨some d,.load xt (.tmp t),ty,pos,af,gd⟩ { rs:=[(t,vp n o)],rl:=[(n,.row rty es rows)],ws:=[(d,some (.t (.agg (xs.map C.d))))] } :=
 zb6.value d _ rfl rfl rfl fun e f H B a w hok hr2=>by
  obtain ⟨b,c,hb,hu⟩:=(hok.slot t _ (hr2.1 (t,vp n o) (by simp))).ptrI
  obtain ⟨arr,h1,h2,h3,h4,h5,h6⟩:=hok.row (hr2.2 (n,.row rty es rows) (by simp)) hb
  have hfill:∀ j (hj:j<m),∃ u,arr[o+j]?=some u/\DR H (xs[j]'(by omega)) u:=by
   intro j hj
   have:r[fo+j]?=some (xs[j]'(by omega)):=by
    rw [<- bG,<- hx,bU,if_pos hj,cP]
   obtain ⟨u,g1,g2⟩:=h6 i r hr (fo+j) _ this
   exact ⟨u,by rw [ho,cY];exact g1,g2⟩
  have hlen:((arr.drop o).take m).length=m:=by
   rw [bT,cO]
   cases m with
   | zero=>omega
   | succ m =>
    obtain ⟨u,g1,_⟩:=hfill m (by omega)
    have:=(bF.1 g1).1
    omega
  refine ⟨.agg ((arr.drop o).take m).toArray,?_,⟨_,rfl,?_⟩⟩
  ·have h7:a.eval (.tmp t) = .pointer (some ⟨b,o,none⟩):=hu
   generalize a.eval=ρ at h7 ⊢
   have h8:=zfc (P:=P) hs (w:=w) (b:=b) (o:=o) (cs:=(arr.drop o).take m) hlen (fun j v hv=>by
    refine ze7 h1 ?_
    rw [bU] at hv
    split at hv
    ·rw [cP] at hv;exact hv
    ·cases hv)
   simp only [execOp,h7,Instr.loadAt,Instr.sureAddr,Sem.run_bind,Sem.run_pure,Result.andThen_ok,h8]
  ·refine zb4.iff.2 ⟨by simp [hlen,hm],fun j x u hx2 hu2=>?_⟩
   rw [bP] at hx2
   cases hj:xs[j]? with
   | none=>rw [hj] at hx2;cases hx2
   | some y =>
    rw [hj] at hx2
    injection hx2 with hx2
    subst hx2
    obtain ⟨hjl,hjy⟩:=bF.1 hj
    obtain ⟨u', g1,g2⟩:=hfill j (by omega)
    rw [bU,if_pos (by omega),cP,g1] at hu2
    injection hu2 with hu2
    subst hu2
    rw [<- hjy]
    exact g2
theorem Op.loadR_c {d:Nat} {r:List D} {x:D} {pos af gd} (hs:Sz P xt m false) (ho:o=i*es+fo) (hr:rows[i]?=some r) (hx:r[fo]?=some x) :
  zb6 P ⟨some d,.load xt (.tmp t),ty,pos,af,gd⟩ { rs:=[(t,vp n o)],rl:=[(n,.row rty es rows)],ws:=[(d,some (.t (.c (.d x))))] } :=
 zb6.value d _ rfl rfl rfl fun e f H B a w hok hr2=>by
  obtain ⟨b,c,hb,hu⟩:=(hok.slot t _ (hr2.1 (t,vp n o) (by simp))).ptrI
  obtain ⟨arr,h1,h2,h3,h4,h5,h6⟩:=hok.row (hr2.2 (n,.row rty es rows) (by simp)) hb
  obtain ⟨u,g1,g2⟩:=h6 i r hr fo x hx
  rw [<- ho] at g1
  refine ⟨u,?_,g2⟩
  have h7:a.eval (.tmp t) = .pointer (some ⟨b,o,none⟩):=hu
  generalize a.eval=ρ at h7 ⊢
  have h8:=zfw (P:=P) hs (ze7 h1 g1)
  simp only [execOp,h7,Instr.loadAt,Instr.sureAddr,Sem.run_bind,Sem.run_pure,Result.andThen_ok,h8]
theorem Op.storeR {ag:Bool} {r ds:List D} {v:T} {pos af gd} (hs:Sz P xt m ag) (h:OV x (.t v) rs) (hv:cellsOf v=ds.map C.d) (hm:ds.length=m)
  (ho:o=i*es+fo) (hr:rows[i]?=some r) (hf:fo+m<=r.length) (hn:rows.set i (zkl r fo ds)=rows') :
  zb6 P ⟨none,.store xt (.tmp t) x,ty,pos,af,gd⟩ { rs:=(t,vp n o) :: rs,rl:=[(n,.row rty es rows)],wl:=[(n,some (.row rty es rows'))] }:=by
 rintro e f a w Q ⟨H,B,hok⟩ hr2 hnw hb0
 obtain ⟨b,c,hb,hu⟩:=(hok.slot t _ (hr2.1 (t,vp n o) (by simp))).ptrI
 have hfl:=hr2.2 (n,.row rty es rows) (by simp)
 obtain ⟨arr,hcl,h2,h3,h4,h5,h6⟩:=hok.row hfl hb
 have hev:=h.eval hok (fun p hp=>hr2.1 p (by simp [hp]))
 obtain ⟨l,g3,g4⟩:=TR.cells hev
 rw [hv] at g4
 have hll:l.length=m:=by rw [<- g4.length,bI,hm]
 have hre:r.length=es:=h5 r (bL hr)
 have hi:i<rows.length:=(bF.1 hr).1
 have hie:(i+1)*es<=c*es:=bH _ (by omega)
 rw [bM] at hie
 have ho':o+m<=arr.length:=by rw [h2,ho];omega
 have hrun:(storeVar xt ⟨b,o,none⟩ (a.eval x)).run P w = .ok () (w.setCells b o l):=by
  have hst:=run_storeCells_cells (P:=P) b o l 0 w (fun j hj=>by
    rw [ze7 hcl (o:=o+0+j) (v:=arr[o+0+j]'(by omega)) (bG _)];rfl) (fun j hj=>by simp [World.frozen?, hcl]) (fun v hv=>by
    obtain ⟨i,hi,rfl⟩:=List.getElem_of_mem hv
    obtain ⟨y,hy,hR⟩:=g4.get i (by rw [g4.length];exact hi)
    rw [bG hi] at hy
    injection hy with hy
    rw [hy]
    exact zl0 (CR.flat hR))
  unfold storeVar
  simp only [Sem.run_bind,hs.sizeOf,Result.andThen_ok,g3,hll,List.size_toArray,ne_eq,not_true_eq_false,if_false]
  simpa using hst
 obtain ⟨k1,k2,k3,k4,k5,k6⟩:=zga l o w arr hcl
 have hg:a.eval (.tmp t) = .pointer (some ⟨b,o,none⟩):=hu
 unfold Oper.wp
 have hexec:(execOp a.eval ⟨none,.store xt (.tmp t) x,ty,pos,af,gd⟩).run P w = .ok .skip (w.setCells b o l):=by
  generalize hq:a.eval x=q at hrun
  generalize a.eval=ρ at hg hq ⊢
  simp only [execOp,hg,hq,Instr.storeAt,Instr.sureAddr,Sem.run_bind,Sem.run_pure,Result.andThen_ok,hrun]
 rw [hexec,Oper.upon_skip]
 subst hn
 have hrows:∀ r' ∈ rows.set i (zkl r fo ds),r'.length=es:=by
  intro r' hr'
  rcases List.mem_or_eq_of_mem_set hr' with h' | rfl
  ·exact h5 r' h'
  ·rw [zgd];exact hre
 have hlr:LR H B (w.setCells b o l) n (.row rty es (rows.set i (zkl r fo ds))):=by
  simp only [LR,hb]
  refine ⟨zkl arr o l,k1,by rw [zgd];exact h2,by simpa using h3,h4,hrows,?_⟩
  refine (zea (by rw [zgd];exact h2) (by simpa using h3) hrows).2 ?_
  intro i' r' hr' f' x' hx'
  rw [putL_get l arr o _ (by omega)]
  have hf':f'<es:=by rw [<- hrows r' (bL hr')];exact (bF.1 hx').1
  by_cases hii:i'=i
  ·subst hii
   rw [cT hi] at hr'
   injection hr' with hr'
   subst hr'
   rw [putL_get ds r fo _ (by omega)] at hx'
   by_cases hin:fo<=f'/\f'<fo+ds.length
   ·rw [if_pos hin] at hx'
    rw [if_pos (by rw [hll,ho];omega)]
    have e1:i'*es+f' - o=f' - fo:=by rw [ho];omega
    rw [e1]
    have hlt:f' - fo<l.length:=by omega
    refine ⟨_,bG hlt,?_⟩
    have:=(zb4.iff.1 g4).2 (f' - fo) (.d x') (l[f' - fo]'hlt) (by rw [bP,hx'];rfl) (bG hlt)
    exact this
   ·rw [if_neg hin] at hx'
    rw [if_neg (by rw [hll,ho];omega)]
    exact h6 i' r hr f' x' hx'
  ·rw [cU (Ne.symm hii)] at hr'
   have hout:¬ (o<=i'*es+f'/\i'*es+f'<o+l.length):=by
    rw [hll,ho]
    rcases Nat.lt_or_gt_of_ne hii with hlt | hgt
    ·have:(i'+1)*es<=i*es:=bH _ hlt
     rw [bM] at this
     omega
    ·have:(i+1)*es<=i'*es:=bH _ hgt
     rw [bM] at this
     omega
   rw [if_neg hout]
   exact h6 i' r' hr' f' x' hx'
 exact St.put0 ⟨H,B,hok.write (g:=⟨f.s,fun m=>if m=n then some (.row rty es (rows.set i (zkl r fo ds))) else f.l m⟩) (l' := .row rty es (rows.set i (zkl r fo ds))) hfl hb (fun _=>rfl) (fun _=>rfl) k2 k3 k4 k5 k6 hlr⟩ rfl (app0_s _ _ rfl) (fun m=>app1_l f n _ _ rfl m)
end
def C.pub (n es:Nat) (rows:List (List D)):C->C
  | .own m k=>if Nat.beq m n then .d (.sl es rows) else .own m k
  | .ptr m o=>if Nat.beq m n then .any else .ptr m o
  | .sub m o k=>if Nat.beq m n then .any else .sub m o k
  | .mp m=>if Nat.beq m n then .any else .mp m
  | c=>c
def T.pub (n es:Nat) (rows:List (List D)):T->T
  | .c x => .c (x.pub n es rows)
  | .agg cs => .agg (cs.map (C.pub n es rows))
def V.pub (n es:Nat) (rows:List (List D)):V->V
  | .t x => .t (x.pub n es rows)
  | .tup xs => .tup (xs.map (T.pub n es rows))
def L.pub (n es:Nat) (rows:List (List D)):L->L
  | .box cs => .box (cs.map (C.pub n es rows))
  | .row ty k r => .row ty k r
  | .rowc ty k r => .rowc ty k (r.map (List.map (C.pub n es rows)))
  | .bld ty c rest => .bld ty (c.pub n es rows) (rest.map (C.pub n es rows))
  | .mp x => .mp x
def C.owns (n:Nat):C->List Nat
  | .own m k=>if Nat.beq m n then [k] else []
  | _=>[]
def T.owns (n:Nat):T->List Nat
  | .c x=>x.owns n
  | .agg cs=>cs.flatMap (C.owns n)
def V.owns (n:Nat):V->List Nat
  | .t x=>x.owns n
  | .tup xs=>xs.flatMap (T.owns n)
def L.owns (n:Nat):L->List Nat
  | .box cs=>cs.flatMap (C.owns n)
  | .row _ _ _=>[]
  | .rowc _ _ r=>r.flatten.flatMap (C.owns n)
  | .bld _ c rest=>c.owns n++rest.flatMap (C.owns n)
  | .mp _=>[]
def zeu (m:Nat):List Nat->Prop
  | []=>True
  | k :: ks=>k=m/\zeu m ks
theorem zeu.mem:∀ {ks:List Nat}, zeu m ks->∀ k ∈ ks,k=m
 | k :: ks,h,x,hx=>by
  rcases bS.1 hx with rfl | hx
  ·exact h.1
  ·exact zeu.mem h.2 x hx
theorem row_data {c:Nat} {arr:List Value} (hb:H b=some (.cells ⟨arr⟩ ty (0,0))) (h3:rows.length<=c) (h4:c<=maxLen) (h5:∀ r ∈ rows,r.length=es) (h6:RowAt H arr es rows) :
  DR H (.sl es rows) (.slice (some ⟨b,0,none⟩) rows.length c):=by
 cases hr:rows with
 | nil=>exact .nil es _ c (fun h=>by cases h) h4
 | cons r0 rs0 =>
  rw [<- hr]
  refine .sl es rows b 0 c ⟨arr⟩ ty (0,0) (fun i j=>(arr[i*es+j]?).getD undef) (by rw [hr];simp) hb h3 h4 (fun i hi=>h5 _ (dE hi)) ?_ ?_
  ·intro i hi j hj
   have hj':j<(rows[i]'hi).length:=by rw [h5 _ (dE hi)];exact hj
   obtain ⟨u,g1,_⟩:=h6 i _ (bG hi) j _ (bG hj')
   simp [g1]
  ·intro i hi j hj
   obtain ⟨u,g1,g2⟩:=h6 i _ (bG hi) j _ (bG hj)
   simp only [g1,Option.getD_some]
   exact g2
def F.pub (f:F) (n es:Nat) (rows:List (List D)):F :=
  ⟨fun t=>(f.s t).map (V.pub n es rows),fun m=>if Nat.beq m n then none else (f.l m).map (L.pub n es rows)⟩
theorem St.pubK (h:St ⟨w0,H0,B0,K,N⟩ f a w) (n es:Nat) (ty:TypeId) (rows:List (List D)) (hl:f.l n=some (.row ty es rows)) (hK:∀ k ∈ K,k≠n/\∃ l,f.l k=some l)
  (h1:∀ t v,f.s t=some v->∀ k ∈ v.owns n,k=rows.length) (h2:∀ m l,f.l m=some l->∀ k ∈ l.owns n,k=rows.length):St ⟨w0,H0,B0,K,N⟩ (f.pub n es rows) a w:=by
 obtain ⟨H,B,hok⟩:=h
 have hLR:=hok.loc n _ hl
 -- what stays from here on
 obtain ⟨H', hle,hH', hcell⟩:∃ H':Im,Le H H'/\(∀ b o,H' b=some o->H b=some o\/(w.heap[b]?=some o/\∃ c,B n=some (b,c))) /\
   (∀ (x:C) (v:Value),(∀ k ∈ x.owns n,k=rows.length)->CR H B x v->CR H' B (x.pub n es rows) v):=by
  have keepC:∀ {H':Im} (hle:Le H H'),(∀ v,CR H B (.own n rows.length) v->DR H' (.sl es rows) v)->∀ (x:C) (v:Value),(∀ k ∈ x.owns n,k=rows.length)->CR H B x v->CR H' B (x.pub n es rows) v:=by
   intro H' hle hown x v hk hx
   cases x with
   | own m k =>
    simp only [C.pub]
    split
    ·rename_i e1
     have e1:=bC e1
     subst e1
     have:=hk k (by simp [C.owns])
     subst this
     exact hown v hx
    ·exact CR.mono hle (fun _ _=>rfl) hx
   | ptr m o =>
    simp only [C.pub]
    split
    ·exact CR.flat hx
    ·exact CR.mono hle (fun _ _=>rfl) hx
   | sub m o k =>
    simp only [C.pub]
    split
    ·exact CR.flat hx
    ·exact CR.mono hle (fun _ _=>rfl) hx
   | d x=>exact CR.mono hle (fun _ _=>rfl) hx
   | el x=>exact CR.mono hle (fun _ _=>rfl) hx
   | fn f' x y=>exact CR.mono hle (fun _ _=>rfl) hx
   | any=>exact hx
   | mp m =>
    simp only [C.pub]
    split
    ·exact CR.flat hx
    ·exact CR.mono hle (fun _ _=>rfl) hx
  cases hB:B n with
  | none =>
   simp only [LR,hB] at hLR
   subst hLR
   refine ⟨H,Le.refl _,fun b o h => .inl h,keepC (Le.refl _) fun v hv=>?_⟩
   simp only [CR,hB] at hv
   obtain ⟨_,ao,hv⟩:=hv
   rw [hv]
   exact .nil es ao 0 (fun _=>rfl) (bJ _)
  | some p =>
   obtain ⟨b,c⟩:=p
   obtain ⟨arr,g1,g2,g3,g4,g5,g6⟩:=hok.row hl hB
   have hnone:=(hok.priv n _ b c hl hB).2.1
   have hle:Le H (fun x=>if x=b then some (.cells ⟨arr⟩ ty (0,0)) else H x):=by
    intro x o hx
    have:x≠b:=fun e=>by rw [e,hnone] at hx;cases hx
    simp [this,hx]
   refine ⟨fun x=>if x=b then some (.cells ⟨arr⟩ ty (0,0)) else H x,hle,?_,keepC hle fun v hv=>?_⟩
   ·intro x o hx
    by_cases e:x=b
    ·subst e
     simp only [if_true] at hx
     exact .inr ⟨by rw [g1];exact hx,c,rfl⟩
    ·simp [e] at hx;exact .inl hx
   ·simp only [CR,hB] at hv
    rw [hv]
    exact row_data (arr:=arr) (ty:=ty) (if_pos rfl) g3 g4 g5 fun i r hr f' x hx=>by
     obtain ⟨u,k1,k2⟩:=g6 i r hr f' x hx
     exact ⟨u,k1,k2.mono hle⟩
 have hT:∀ (x:T) (v:Value),(∀ k ∈ x.owns n,k=rows.length)->TR H B x v->TR H' B (x.pub n es rows) v:=by
  intro x v hk hx
  cases x with
  | c x=>exact hcell x v hk hx
  | agg cs =>
   obtain ⟨vs,hv,hx⟩:=hx
   refine ⟨vs,hv,zb4.iff.2 ⟨by rw [bI];exact hx.length,fun j a' b' ha hb=>?_⟩⟩
   rw [bP] at ha
   cases hj:cs[j]? with
   | none=>rw [hj] at ha;cases ha
   | some y =>
    rw [hj] at ha
    injection ha with ha
    subst ha
    exact hcell y b' (fun k hk2=>hk k (by simp only [T.owns,bE];exact ⟨y,bL hj,hk2⟩)) ((zb4.iff.1 hx).2 j y b' hj hb)
 refine ⟨H', B,hok.df,hok.n,hok.ext,?_,?_,?_,?_,?_,?_,hok.le.trans hle,hok.keep,hok.tab⟩
 ·intro b o hb
  rcases hH' b o hb with h' | ⟨h', _⟩
  ·exact hok.sat b o h'
  ·exact h'
 ·intro t v hv
  simp only [F.pub,cC] at hv
  obtain ⟨x,hx,rfl⟩:=hv
  have hR:=hok.slot t x hx
  have hk:=h1 t x hx
  cases x with
  | t x=>exact hT x _ hk hR
  | tup xs =>
   obtain ⟨vs,hv,hx2⟩:=hR
   refine ⟨vs,hv,zb4.iff.2 ⟨by rw [bI];exact hx2.length,fun j a' b' ha hb=>?_⟩⟩
   rw [bP] at ha
   cases hj:xs[j]? with
   | none=>rw [hj] at ha;cases ha
   | some y =>
    rw [hj] at ha
    injection ha with ha
    subst ha
    exact hT y b' (fun k hk2=>hk k (by simp only [V.owns,bE];exact ⟨y,bL hj,hk2⟩)) ((zb4.iff.1 hx2).2 j y b' hj hb)
 ·intro m l hm
  simp only [F.pub] at hm
  split at hm
  ·cases hm
  ·simp only [cC] at hm
   obtain ⟨x,hx,rfl⟩:=hm
   have hR:=hok.loc m x hx
   have hk:=h2 m x hx
   cases x with
   | box cs =>
    obtain ⟨b,c,arr,ty', hb,hc,hx2⟩:=hR
    refine ⟨b,c,arr,ty', hb,hc,zb4.iff.2 ⟨by rw [bI];exact hx2.length,fun j a' b' ha hb=>?_⟩⟩
    rw [bP] at ha
    cases hj:cs[j]? with
    | none=>rw [hj] at ha;cases ha
    | some y =>
     rw [hj] at ha
     injection ha with ha
     subst ha
     exact hcell y b' (fun k hk2=>hk k (by simp only [L.owns,bE];exact ⟨y,bL hj,hk2⟩)) ((zb4.iff.1 hx2).2 j y b' hj hb)
   | row ty' es' rows'=>exact LR.mono hle rfl (fun _ _=>rfl) (fun _ _ _=>rfl) hR
   | rowc ty' es' rows' =>
    simp only [LR,L.pub] at hR ⊢
    cases hb:B m with
    | none=>rw [hb] at hR;rw [hR];rfl
    | some p =>
     obtain ⟨b,c⟩:=p
     rw [hb] at hR
     obtain ⟨arr,g1,g2,g3,g4,g5,g6⟩:=hR
     refine ⟨arr,g1,g2,by rw [bI];exact g3,g4,fun r hr=>?_,?_⟩
     ·obtain ⟨r0,hr0,rfl⟩:=cD.1 hr;rw [bI];exact g5 r0 hr0
     ·rw [bI,<- List.map_flatten]
      exact g6.mapL _ fun x hx v hv=>hcell x v (fun k hk2=>hk k (by simp only [L.owns,bE];exact ⟨x,hx,hk2⟩)) hv
   | mp x=>exact LR.mono (x:=.mp x) hle rfl (fun _ _=>rfl) (fun _ _ _=>rfl) hR
   | bld ty' c' rest =>
    obtain ⟨b,k,v1,v2,vr,hb,hc,g1,g0,g2,g3⟩:=hR
    refine ⟨b,k,v1,v2,vr,hb,hc,g1,g0,hcell c' v2 (fun k hk2=>hk k (by simp only [L.owns];exact dQ _ hk2)) g2,zb4.iff.2 ⟨by rw [bI];exact g3.length,fun j a' b' ha hb=>?_⟩⟩
    rw [bP] at ha
    cases hj:rest[j]? with
    | none=>rw [hj] at ha;cases ha
    | some y =>
     rw [hj] at ha
     injection ha with ha
     subst ha
     exact hcell y b' (fun k hk2=>hk k (by simp only [L.owns];exact dR _ (bE.2 ⟨y,bL hj,hk2⟩))) ((zb4.iff.1 g3).2 j y b' hj hb)
 ·intro m l b c hm hb
  simp only [F.pub] at hm
  split at hm
  ·cases hm
  ·rename_i hne
   simp only [cC] at hm
   obtain ⟨x,hx,rfl⟩:=hm
   obtain ⟨p1,p2,p3⟩:=hok.priv m x b c hx hb
   refine ⟨p1,?_,p3⟩
   cases hq:H' b with
   | none=>rfl
   | some o =>
    rcases hH' b o hq with h' | ⟨_,c', h'⟩
    ·rw [p2] at h';cases h'
    ·have:=hok.inj m n x _ b c c' hx hl hb h'
     subst this
     simp at hne
 ·intro m k l l' b c c' hm hk hb hb'
  simp only [F.pub] at hm hk
  split at hm
  ·cases hm
  ·split at hk
   ·cases hk
   ·simp only [cC] at hm hk
    obtain ⟨x,hx,_⟩:=hm
    obtain ⟨y,hy,_⟩:=hk
    exact hok.inj m k x y b c c' hx hy hb hb'
 ·intro b hb
  cases hq:H' b with
  | none =>
   rw [<- hok.low b hb]
   cases hr:H b with
   | none=>rfl
   | some o=>rw [hle b o hr] at hq;cases hq
  | some o =>
   rcases hH' b o hq with h' | ⟨_,c', h'⟩
   ·rw [<- hok.low b hb,h']
   ·rcases (hok.priv n _ b c' hl h').2.2 with ⟨m,hm,c9,hc9⟩ | h3
    ·obtain ⟨k1,l9,k2⟩:=hK m hm
     exact absurd (hok.inj m n l9 _ b c9 c' k2 hl (by rw [hok.keep m hm];exact hc9) h') k1
    ·exact absurd hb (by simpa using h3)
theorem St.pub (h:St ⟨w0,H0,B0,[],N⟩ f a w) (n es:Nat) (ty:TypeId) (rows:List (List D)) (hl:f.l n=some (.row ty es rows))
  (h1:∀ t v,f.s t=some v->∀ k ∈ v.owns n,k=rows.length) (h2:∀ m l,f.l m=some l->∀ k ∈ l.owns n,k=rows.length):St ⟨w0,H0,B0,[],N⟩ (f.pub n es rows) a w :=
 h.pubK n es ty rows hl (fun k hk=>by cases hk) h1 h2
abbrev Orc.g {P:Program} {d:Option Nat} {op:Op} {i:I} (h:∀ {ty pos af gd}, zb6 P ⟨d,op,ty,pos,af,gd⟩ i):Orc P:=.gen d op i fun _ _ _ _=>h
abbrev Orc.j1 {P:Program} (j:Nat) (h:IntKind.i64.wrap ((j:Int)+1)=(j:Int)+1:=by exact i64_id (by omega) (by omega)):Orc P:=.add .i64 h
section
variable {P:Program}
theorem xD (d t:Nat) {r:List D} {pos af gd} (hs:SlT P xt el es) (hr:rows[i]?=some r) (hy:OV y (vi .i64 i) rs) :
    zb6 P ⟨some d,.indexAddr xt (.tmp t) y,ty,pos,af,gd⟩ { rs:=(t,.t (.c (.d (.sl es rows)))) :: rs,ws:=[(d,some (.t (.c (.el r))))] }:=Op.idxD hs hr hy
theorem xO (d t n len i:Nat) {pos af gd} (hs:SlT P xt el es) (hy:OV y (vi .i64 i) rs) (hi:i<len:=by first | omega | (simp at *;omega)) :
    zb6 P ⟨some d,.indexAddr xt (.tmp t) y,ty,pos,af,gd⟩ { rs:=(t,.t (.c (.own n len))) :: rs,ws:=[(d,some (vp n (i*es)))] }:=Op.idxO hs hi hy
end
def A.ren (n m:Nat):A->A
  | .d x => .d x
  | .ptr k o => .ptr (if Nat.beq k n then m else k) o
def C.ren (n m:Nat):C->C
  | .own k l => .own (if Nat.beq k n then m else k) l
  | .ptr k o => .ptr (if Nat.beq k n then m else k) o
  | .sub k o l => .sub (if Nat.beq k n then m else k) o l
  | .mp k => .mp (if Nat.beq k n then m else k)
  | .fn f fs cs => .fn f (fs.map (A.ren n m)) (cs.map (A.ren n m))
  | c=>c
def T.ren (n m:Nat):T->T
  | .c x => .c (x.ren n m)
  | .agg cs => .agg (cs.map (C.ren n m))
def V.ren (n m:Nat):V->V
  | .t x => .t (x.ren n m)
  | .tup xs => .tup (xs.map (T.ren n m))
def L.ren (n m:Nat):L->L
  | .box cs => .box (cs.map (C.ren n m))
  | .row ty k r => .row ty k r
  | .rowc ty k r => .rowc ty k (r.map (List.map (C.ren n m)))
  | .bld ty c rest => .bld ty (c.ren n m) (rest.map (C.ren n m))
  | .mp x => .mp x
def F.ren (f:F) (n m:Nat):F :=
  ⟨fun t=>(f.s t).map (V.ren n m),fun x=>if Nat.beq x m then (f.l n).map (L.ren n m) else if Nat.beq x n then none else (f.l x).map (L.ren n m)⟩
section
variable {H:Im} {B:Bl} {n m:Nat}
def swB (B:Bl) (n m:Nat):Bl:=fun x=>if x=m then B n else B x
theorem zft (k:Nat) (hk:k≠m):swB B n m (if Nat.beq k n then m else k)=B k:=by
 by_cases e:k=n
 ·subst e;simp [swB]
 ·have:Nat.beq k n=false:=by
   cases h:Nat.beq k n with
   | false=>rfl
   | true=>exact absurd (bC h) e
  simp [this,swB,hk]
theorem AR.ren {x:A} (hm:m ∉ x.tags) (h:AR H B x v):AR H (swB B n m) (x.ren n m) v:=by
 cases x with
 | d x=>exact h
 | ptr k o=>obtain ⟨b,c,hb,hv⟩:=h;exact ⟨b,c,(zft k (fun e=>hm (by simp [A.tags,e]))).trans hb,hv⟩
theorem CR.ren {x:C} (hm:m ∉ x.tags) (h:CR H B x v):CR H (swB B n m) (x.ren n m) v:=by
 cases x with
 | ptr k o=>obtain ⟨b,c,hb,hv⟩:=h;exact ⟨b,c,(zft k (fun e=>hm (by simp [C.tags,e]))).trans hb,hv⟩
 | sub k o l=>exact ⟨h.1,fun hl=>let ⟨b,c,j,h1,h2⟩:=h.2 hl;⟨b,c,j,(zft k (fun e=>hm (by simp [C.tags,e]))).trans h1,h2⟩⟩
 | own k l=>simp only [CR,C.ren] at h ⊢;rw [zft k (fun e=>hm (by simp [C.tags,e]))];exact h
 | fn f fs cs =>
  obtain ⟨vs,ws,hv,h1,h2⟩:=h
  simp only [C.tags,cE,bE,not_or,not_exists,not_and] at hm
  exact ⟨vs,ws,hv,h1.mapL _ fun a ha b=>AR.ren (hm.1 a ha),h2.mapL _ fun a ha b=>AR.ren (hm.2 a ha)⟩
 | d x=>exact h
 | el x=>exact h
 | any=>exact h
 | mp k=>obtain ⟨b,c,hb,hv⟩:=h;exact ⟨b,c,(zft k (fun e=>hm (by simp [C.tags,e]))).trans hb,hv⟩
theorem TR.ren {x:T} (hm:m ∉ x.tags) (h:TR H B x v):TR H (swB B n m) (x.ren n m) v:=by
 cases x with
 | c x=>exact CR.ren hm h
 | agg cs =>
  obtain ⟨vs,hv,h1⟩:=h
  simp only [T.tags,bE,not_exists,not_and] at hm
  exact ⟨vs,hv,h1.mapL _ fun a ha b=>CR.ren (hm a ha)⟩
theorem VR.ren {x:V} (hm:m ∉ x.tags) (h:VR H B x v):VR H (swB B n m) (x.ren n m) v:=by
 cases x with
 | t x=>exact TR.ren hm h
 | tup xs =>
  obtain ⟨vs,hv,h1⟩:=h
  simp only [V.tags,bE,not_exists,not_and] at hm
  exact ⟨vs,hv,h1.mapL _ fun a ha b=>TR.ren (hm a ha)⟩
theorem LR.ren {x:L} (hk:k≠m) (hm:m ∉ x.tags) (h:LR H B w k x):LR H (swB B n m) w (if Nat.beq k n then m else k) (x.ren n m):=by
 cases x with
 | box cs =>
  obtain ⟨b,c,arr,ty,hb,hc,h1⟩:=h
  simp only [L.tags,bE,not_exists,not_and] at hm
  exact ⟨b,c,arr,ty,(zft k hk).trans hb,hc,h1.mapL _ fun a ha b=>CR.ren (hm a ha)⟩
 | row ty es rows=>simp only [LR,L.ren] at h ⊢;rw [zft k hk];exact h
 | rowc ty es rows =>
  simp only [LR,L.ren] at h ⊢;rw [zft k hk]
  simp only [L.tags,bE,not_exists,not_and] at hm
  cases hb:B k with
  | none=>rw [hb] at h;rw [h];rfl
  | some p =>
   obtain ⟨b,c⟩:=p
   rw [hb] at h
   obtain ⟨arr,h1,h2,h3,h4,h5,h6⟩:=h
   refine ⟨arr,h1,h2,by rw [bI];exact h3,h4,fun r hr=>?_,?_⟩
   ·obtain ⟨r0,hr0,rfl⟩:=cD.1 hr;rw [bI];exact h5 r0 hr0
   ·rw [bI,<- List.map_flatten];exact h6.mapL _ fun a ha b=>CR.ren (hm a ha)
 | bld ty c rest =>
  obtain ⟨b,j,v1,v2,vr,hb,hc,h1,h0,h2,h3⟩:=h
  simp only [L.tags,cE,not_or,bE,not_exists,not_and] at hm
  exact ⟨b,j,v1,v2,vr,(zft k hk).trans hb,hc,h1,h0,CR.ren hm.1 h2,h3.mapL _ fun a ha b=>CR.ren (hm.2 a ha)⟩
 | mp x=>obtain ⟨b,c,arr,cl,hb,hc,h1⟩:=h;exact ⟨b,c,arr,cl,(zft k hk).trans hb,hc,h1⟩
end
theorem St.ren (h:St e f a w) (n m:Nat) (hm:New e.K f m):St e (f.ren n m) a w:=by
 obtain ⟨H,B,hok⟩:=h
 have hmn:f.l m=none:=hm.2.1
 have cls:∀ x l,(f.ren n m).l x=some l->∃ y l0,f.l y=some l0/\l=l0.ren n m/\y≠m/\x=(if Nat.beq y n then m else y):=by
  intro x l hx
  simp only [F.ren] at hx
  split at hx
  ·rename_i e1
   have e1:=bC e1
   simp only [cC] at hx
   obtain ⟨l0,h1,rfl⟩:=hx
   exact ⟨n,l0,h1,rfl,(fun e=>by rw [e,hmn] at h1;cases h1),by simp [e1]⟩
  ·rename_i e1
   split at hx
   ·cases hx
   ·rename_i e2
    simp only [cC] at hx
    obtain ⟨l0,h1,rfl⟩:=hx
    exact ⟨x,l0,h1,rfl,(fun e=>by rw [e,hmn] at h1;cases h1),by simp [e2]⟩
 refine ⟨H,swB B n m,hok.df,hok.n,hok.ext,hok.sat,?_,?_,?_,?_,hok.low,hok.le,?_,hok.tab⟩
 ·intro t v hv
  simp only [F.ren,cC] at hv
  obtain ⟨x,hx,rfl⟩:=hv
  exact VR.ren (hm.2.2.1 t x hx) (hok.slot t x hx)
 ·intro x l hx
  obtain ⟨y,l0,h1,rfl,h2,rfl⟩:=cls x l hx
  exact LR.ren h2 (hm.2.2.2 y l0 h1) (hok.loc y l0 h1)
 ·intro x l b c hx hb
  obtain ⟨y,l0,h1,rfl,h2,rfl⟩:=cls x l hx
  rw [zft y h2] at hb
  exact hok.priv y l0 b c h1 hb
 ·intro x z l l' b c c' hx hz hb hb'
  obtain ⟨y,l0,h1,rfl,h2,rfl⟩:=cls x l hx
  obtain ⟨y', l0', h1', rfl,h2', rfl⟩:=cls z l' hz
  rw [zft y h2] at hb
  rw [zft y' h2'] at hb'
  rw [hok.inj y y' l0 l0' b c c' h1 h1' hb hb']
 ·intro x hx
  have:x≠m:=fun e=>hm.1 (e ▸ hx)
  simp only [swB,this,if_false]
  exact hok.keep x hx
def F.setS (f:F) (t:Nat) (v:V):F:=⟨fun x=>if Nat.beq x t then some v else f.s x,f.l⟩
def F.setL (f:F) (n:Nat) (l:L):F:=⟨f.s,fun x=>if Nat.beq x n then some l else f.l x⟩
theorem Ok.setS (h:Ok e f H B a w) (t:Nat) (v v':V) (hv:f.s t=some v) (hx:∀ u,VR H B v u->VR H B v' u):Ok e (f.setS t v') H B a w:=by
 refine ⟨h.df,h.n,h.ext,h.sat,?_,h.loc,h.priv,h.inj,h.low,h.le,h.keep,h.tab⟩
 intro x y hy
 simp only [F.setS] at hy
 split at hy
 ·rename_i e1
  have e1:=bC e1
  subst e1
  injection hy with hy
  subst hy
  exact hx _ (h.slot x v hv)
 ·exact h.slot x y hy
theorem Ok.setL (h:Ok e f H B a w) (n:Nat) (l l':L) (hl:f.l n=some l) (hx:LR H B w n l->LR H B w n l'):Ok e (f.setL n l') H B a w:=by
 have cls:∀ m x,(f.setL n l').l m=some x->∃ y,f.l m=some y:=by
  intro m x hm
  simp only [F.setL] at hm
  split at hm
  ·rename_i e1
   have e1:=bC e1
   subst e1
   exact ⟨l,hl⟩
  ·exact ⟨x,hm⟩
 refine ⟨h.df,h.n,h.ext,h.sat,h.slot,?_,?_,?_,h.low,h.le,h.keep,h.tab⟩
 ·intro m x hm
  simp only [F.setL] at hm
  split at hm
  ·rename_i e1
   have e1:=bC e1
   subst e1
   injection hm with hm
   subst hm
   exact hx (h.loc m l hl)
  ·exact h.loc m x hm
 ·intro m x b c hm hb
  obtain ⟨y,hy⟩:=cls m x hm
  exact h.priv m y b c hy hb
 ·intro m k x y b c c' hm hk hb hb'
  obtain ⟨x', hx'⟩:=cls m x hm
  obtain ⟨y', hy'⟩:=cls k y hk
  exact h.inj m k x' y' b c c' hx' hy' hb hb'
theorem Ok.nilName (h:Ok e f H B a w) (n es:Nat) (ty:TypeId) (hn:New e.K f n) :
  Ok e (f.setL n (.row ty es [])) H (fun x=>if x=n then none else B x) a w:=by
 have hB:∀ m,m≠n->(fun x=>if x=n then none else B x) m=B m:=fun m hm=>by simp [hm]
 refine ⟨h.df,h.n,h.ext,h.sat,?_,?_,?_,?_,h.low,h.le,?_,h.tab⟩
 ·intro t v hv
  exact VR.mono (Le.refl _) (fun m hm=>hB m fun e=>hn.2.2.1 t v hv (e ▸ hm)) (h.slot t v hv)
 ·intro m x hm
  simp only [F.setL] at hm
  split at hm
  ·rename_i e1
   have e1:=bC e1
   subst e1
   injection hm with hm
   subst hm
   simp [LR]
  ·rename_i e1
   have hne:m≠n:=fun e=>by simp [e] at e1
   exact LR.mono (Le.refl _) (hB m hne) (fun k hk=>hB k fun e=>hn.2.2.2 m x hm (e ▸ hk)) (fun _ _ _=>rfl) (h.loc m x hm)
 ·intro m x b c hm hb
  by_cases e1:m=n
  ·simp [e1] at hb
  ·simp only [if_neg e1] at hb
   simp only [F.setL] at hm
   rw [if_neg (fun e=>e1 (bC e))] at hm
   exact h.priv m x b c hm hb
 ·intro m k x y b c c' hm hk hb hb'
  by_cases e1:m=n
  ·simp [e1] at hb
  ·by_cases e2:k=n
   ·simp [e2] at hb'
   ·simp only [if_neg e1] at hb
    simp only [if_neg e2] at hb'
    simp only [F.setL] at hm hk
    rw [if_neg (fun e=>e1 (bC e))] at hm
    rw [if_neg (fun e=>e2 (bC e))] at hk
    exact h.inj m k x y b c c' hm hk hb hb'
 ·intro m hm
  exact (hB m fun e=>hn.1 (e ▸ hm)).trans (h.keep m hm)
def zaa:Value:=.slice none 0 0
def V.getC:V->Nat->Option C
  | .t (.c x),0=>some x
  | .t (.agg cs),j=>cs[j]?
  | _,_=>none
def V.setC:V->Nat->C->V
  | .t (.c _),_,c => .t (.c c)
  | .t (.agg cs),j,c => .t (.agg (cs.set j c))
  | v,_,_=>v
theorem VR.setC {v:V} {c c':C} (hg:v.getC j=some c) (hc:∀ u,CR H B c u->CR H B c' u) (h:VR H B v u):VR H B (v.setC j c') u:=by
 cases v with
 | tup xs=>cases hg
 | t x =>
  cases x with
  | c x =>
   cases j with
   | zero=>injection hg with hg;subst hg;exact hc u h
   | succ j=>cases hg
  | agg cs =>
   obtain ⟨vs,hv,h1⟩:=h
   refine ⟨vs,hv,zb4.iff.2 ⟨by simpa using h1.length,fun i x y hx hy=>?_⟩⟩
   have hg:cs[j]?=some c:=by cases j <;> exact hg
   by_cases e:i=j
   ·subst e
    rw [cT (bF.1 hg).1] at hx
    injection hx with hx
    subst hx
    exact hc _ ((zb4.iff.1 h1).2 i c y hg hy)
   ·rw [cU (Ne.symm e)] at hx
    exact (zb4.iff.1 h1).2 i x y hx hy
theorem LR.setC {c c':C} (hg:cs[j]?=some c) (hc:∀ u,CR H B c u->CR H B c' u) (h:LR H B w n (.box cs)):LR H B w n (.box (cs.set j c')):=by
 obtain ⟨b,k,arr,ty,hb,hw,h1⟩:=h
 refine ⟨b,k,arr,ty,hb,hw,zb4.iff.2 ⟨by simpa using h1.length,fun i x y hx hy=>?_⟩⟩
 by_cases e:i=j
 ·subst e
  rw [cT (bF.1 hg).1] at hx
  injection hx with hx
  subst hx
  exact hc _ ((zb4.iff.1 h1).2 i c y hg hy)
 ·rw [cU (Ne.symm e)] at hx
  exact (zb4.iff.1 h1).2 i x y hx hy
theorem nil_data (es:Nat) {c:Nat} (h1:ao=none->c=0) (h2:c<=maxLen) (u:Value) (h:CR H B (.d (.raw (.slice ao 0 c))) u):CR H B (.d (.sl es [])) u:=by
 have:=VR.rawI (H:=H) (B:=B) h
 subst this
 exact DR.nil es ao c h1 h2
section
variable {e:E} {f:F} {a:Act} {w:World}
theorem St.nilOS (h:St e f a w) (t j n es:Nat) (ty:TypeId) {v:V} (hv:f.s t=some v) (hg:v.getC j=some (.d (.raw zaa))) (hn:New e.K f n):St e ((f.setL n (.row ty es [])).setS t (v.setC j (.own n 0))) a w:=by
 obtain ⟨H,B,hok⟩:=h
 refine ⟨H,_,(hok.nilName n es ty hn).setS t v _ hv fun u hu=>VR.setC hg (fun u hu=>?_) hu⟩
 have:=VR.rawI (H:=H) (B:=fun x=>if x=n then none else B x) hu
 subst this
 simp [CR,zaa]
theorem St.nilOL (h:St e f a w) (m j n es:Nat) (ty:TypeId) (hv:f.l m=some (.box cs)) (hg:cs[j]?=some (.d (.raw zaa))) (hn:New e.K f n):St e ((f.setL n (.row ty es [])).setL m (.box (cs.set j (.own n 0)))) a w:=by
 obtain ⟨H,B,hok⟩:=h
 have hmn:m≠n:=fun e=>by have:=hn.2.1;rw [<- e,hv] at this;cases this
 refine ⟨H,_,(hok.nilName n es ty hn).setL m (.box cs) _ (by simp [F.setL,hmn,hv]) fun hu=>LR.setC hg (fun u hu=>?_) hu⟩
 have:=VR.rawI (H:=H) (B:=fun x=>if x=n then none else B x) hu
 subst this
 simp [CR,zaa]
theorem St.nilDS (h:St e f a w) (t j es:Nat) {v:V} {c:Nat} (hv:f.s t=some v) (hg:v.getC j=some (.d (.raw (.slice ao 0 c)))) (h1:ao=none->c=0) (h2:c<=maxLen):St e (f.setS t (v.setC j (.d (.sl es [])))) a w:=by
 obtain ⟨H,B,hok⟩:=h
 exact ⟨H,B,hok.setS t v _ hv fun u hu=>VR.setC hg (nil_data es h1 h2) hu⟩
theorem St.nilDL (h:St e f a w) (m j es:Nat) {c:Nat} (hv:f.l m=some (.box cs)) (hg:cs[j]?=some (.d (.raw (.slice ao 0 c)))) (h1:ao=none->c=0) (h2:c<=maxLen):St e (f.setL m (.box (cs.set j (.d (.sl es []))))) a w:=by
 obtain ⟨H,B,hok⟩:=h
 exact ⟨H,B,hok.setL m (.box cs) _ hv fun hu=>LR.setC hg (nil_data es h1 h2) hu⟩
theorem St.rawE (h:St e f a w) (t es:Nat) (hv:f.s t=some (.t (.c (.d (.sl es []))))):∃ ao c,(ao=none->c=0)/\c<=maxLen/\St e (f.setS t (.t (.c (.d (.raw (.slice ao 0 c)))))) a w:=by
 obtain ⟨H,B,hok⟩:=h
 have h1:DR H (.sl es []) (a.tmps.getD t undef):=hok.slot t _ hv
 generalize hu:a.tmps.getD t undef=u at h1
 cases h1 with
 | nil _ ao c g1 g2 =>
  refine ⟨ao,c,g1,g2,H,B,?_⟩
  refine ⟨hok.df,hok.n,hok.ext,hok.sat,?_,hok.loc,hok.priv,hok.inj,hok.low,hok.le,hok.keep,hok.tab⟩
  intro x y hy
  simp only [F.setS] at hy
  split at hy
  ·rename_i e1
   have e1:=bC e1
   subst e1
   injection hy with hy
   subst hy
   rw [hu]
   exact DR.raw _ rfl
  ·exact hok.slot x y hy
 | sl _ _ b o c arr ty fz vs hp=>simp at hp
theorem St.cutR (h:St e f a w) (n k es:Nat) (ty:TypeId) (hl:f.l n=some (.row ty es rows)):St e (f.setL n (.row ty es (rows.take k))) a w:=by
 obtain ⟨H,B,hok⟩:=h
 refine ⟨H,B,hok.setL n _ _ hl fun hu=>?_⟩
 simp only [LR] at hu ⊢
 split at hu
 ·rw [hu];simp
 ·obtain ⟨arr,h1,h2,h3,h4,h5,h6⟩:=hu
  have h5':∀ r ∈ rows.take k,r.length=es:=fun r hr=>h5 r (dS hr)
  have h3':(rows.take k).length<=_:=bR (by rw [bT];omega) h3
  refine ⟨arr,h1,h2,h3', h4,h5', (zea h2 h3' h5').2 fun i r hr f x hx=>?_⟩
  rw [bU] at hr
  split at hr
  ·exact (zea h2 h3 h5).1 h6 i r hr f x hx
  ·cases hr
end
theorem Ok.renew {g:F} (h:Ok e f H B a w) {l l':L} (hn:f.l n=some l) (hnew:New e.K f n') (p:Option (Nat × Nat))
  (ho:w'.os=w.os) (ht:w'.tape=w.tape) (hu:w'.output=w.output) (hz:w.heap.size<=w'.heap.size) (hk:∀ k,k<w.heap.size->(∀ c,B n≠some (k,c))->w'.heap[k]?=w.heap[k]?)
  (hp:∀ b c,p=some (b,c)->b<w'.heap.size/\((∃ c', B n=some (b,c'))\/w.heap.size<=b)) (lr:LR H (fun x=>if x=n' then p else B x) w' n' l')
  (hs:∀ t,g.s t=f.s t) (hl:∀ m,g.l m=if m=n' then some l' else if m=n then none else f.l m):Ok e g H (fun x=>if x=n' then p else B x) a w':=by
 have hB:∀ m,m≠n'->(fun x=>if x=n' then p else B x) m=B m:=fun m hm=>by simp [hm]
 have cls:∀ m x,g.l m=some x->(m=n'/\x=l')\/(m≠n'/\m≠n/\f.l m=some x):=by
  intro m x hm
  rw [hl] at hm
  split at hm
  ·rename_i e1;injection hm with hm;exact .inl ⟨e1,hm.symm⟩
  ·rename_i e1
   split at hm
   ·cases hm
   ·rename_i e2;exact .inr ⟨e1,e2,hm⟩
 refine ⟨h.df,h.n,⟨ho.trans h.ext.os,ht.trans h.ext.tape,hu.trans h.ext.output,bR h.ext.size hz,?_⟩,?_,?_,?_,?_,?_,h.low,h.le,?_,h.tab⟩
 ·intro b hb hm
  have:=h.ext.size
  rw [hk b (by omega) fun c hc=>?_]
  ·exact h.ext.block b hb hm
  ·rcases (h.priv n l b c hn hc).2.2 with h1 | h1
   ·exact hm h1
   ·omega
 ·intro b o hb
  have h1:=h.sat b o hb
  have:b<w.heap.size:=(cH.1 h1).1
  rw [hk b this fun c hc=>?_]
  ·exact h1
  ·rw [(h.priv n l b c hn hc).2.1] at hb;cases hb
 ·intro t v hv
  rw [hs] at hv
  exact VR.mono (Le.refl _) (fun m hm=>hB m fun e=>hnew.2.2.1 t v hv (e ▸ hm)) (h.slot t v hv)
 ·intro m x hm
  rcases cls m x hm with ⟨rfl,rfl⟩ | ⟨h1,h2,h3⟩
  ·exact lr
  ·refine LR.mono (Le.refl _) (hB m h1) (fun k hk2=>hB k fun e=>hnew.2.2.2 m x h3 (e ▸ hk2)) (fun b c hb=>?_) (h.loc m x h3)
   refine hk b (h.priv m x b c h3 hb).1 fun c' hc'=>h2 (h.inj m n x l b c c' h3 hn hb hc')
 ·intro m x b c hm hb
  rcases cls m x hm with ⟨rfl,rfl⟩ | ⟨h1,h2,h3⟩
  ·simp only [if_true] at hb
   obtain ⟨h4,h5⟩:=hp b c hb
   refine ⟨h4,?_⟩
   rcases h5 with ⟨c', hc'⟩ | h5
   ·exact (h.priv n l b c' hn hc').2
   ·refine ⟨?_,.inr (bR h.ext.size h5)⟩
    cases hq:H b with
    | none=>rfl
    | some o=>have:=(cH.1 (h.sat b o hq)).1;omega
  ·simp only [if_neg h1] at hb
   obtain ⟨h4,h5⟩:=h.priv m x b c h3 hb
   exact ⟨Nat.lt_of_lt_of_le h4 hz,h5⟩
 ·have cross:∀ m x b c c', m≠n->f.l m=some x->B m=some (b,c)->p=some (b,c')->False:=by
   intro m x b c c' h2 h3 hb hb'
   rcases (hp b c' hb').2 with ⟨c2,hc2⟩ | h5
   ·exact h2 (h.inj m n x l b c c2 h3 hn hb hc2)
   ·have:=(h.priv m x b c h3 hb).1;omega
  intro m k x y b c c' hm hk2 hb hb'
  rcases cls m x hm with ⟨rfl,rfl⟩ | ⟨h1,h2,h3⟩ <;> rcases cls k y hk2 with ⟨rfl,rfl⟩ | ⟨j1,j2,j3⟩
  ·rfl
  ·simp only [if_true] at hb
   simp only [if_neg j1] at hb'
   exact (cross k y b c' c j2 j3 hb' hb).elim
  ·simp only [if_true] at hb'
   simp only [if_neg h1] at hb
   exact (cross m x b c c' h2 h3 hb hb').elim
  ·simp only [if_neg h1] at hb
   simp only [if_neg j1] at hb'
   exact h.inj m k x y b c c' h3 j3 hb hb'
 ·intro m hm
  exact (hB m fun e=>hnew.1 (e ▸ hm)).trans (h.keep m hm)
structure ElT (P:Program) (t el:TypeId) (es bs:Nat):Prop where
  hu:P.underlying t=some (.slice el)
  ex:∃ i z,P.info? el=some i/\i.zero=some z/\i.size=es/\i.bytes=bs/\z.cells.size=es
  pos:0<es
  bpos:0<bs
theorem ElT.mk' {t:TypeId} (hu:P.underlying t=some (.slice el)) (i:TypeInfo) (z:Value) (h1:P.info? el=some i) (h2:i.zero=some z) (h3:i.size=es := by kernel_rfl) (h4:i.bytes=bs := by kernel_rfl) (h5:z.cells.size=es := by kernel_rfl) (h6:0<es := by decide) (h7:0<bs := by decide):ElT P t el es bs:=⟨hu,⟨i,z,h1,h2,h3,h4,h5⟩,h6,h7⟩
section
variable {P:Program}
theorem append_fresh {i:TypeInfo} {z:Value} (hu:P.underlying xt=some (.slice el)) (hi:P.info? el=some i) (hz:i.zero=some z) (hsz:i.size=es)
  {xs:List Value} (hown:w.ownsRow 0 el es v n xs) {a:Addr} {c:Nat} (hm:0<m) {news:List Value} (hl:news.length=m*es) (hnews:∀ j u,news[j]?=some u->w.cell? (a.add j)=some u) (h1:∀ u ∈ news,u.oneCell'=true)
  (h63:n+m<=maxLen) (hb:(n+m)*i.bytes<=140737488355328) {v':Value} (hr:(Builtin.append_ #[xt,xt] ty #[v,.slice (some a) m c]).run P w = .ok v' w'):∀ g,v'.ownBlock=some g->v.ownBlock=some g\/g=w.heap.size:=by
 subst hsz
 have hsmall:n+m<=9223372036854775807:=by simp only [maxLen] at h63;omega
 intro g hg
 rcases hown.2 with ⟨rfl,rfl⟩ | ⟨g2,cap,cur,rfl,_,hg2,hnc,hcm,hcs,htake⟩
 ·have h2:=run_append_nil (P:=P) w xt ty el i z hu hi hz a m c news hl hnews hm (by omega) (by have:=hb;simp only [cG] at this;omega)
  rw [h2] at hr
  injection hr with hr _
  subst hr
  simp [Value.ownBlock] at hg
  exact .inr hg.symm
 ·by_cases hroom:n+m<=cap
  ·have hfit:n*i.size+news.length<=cur.size:=by rw [hl,hcs,<- bM];exact bH _ hroom
   have h2:=run_append_room (P:=P) w xt ty el i hu hi g2 n cap cur hg2 a m c news hl hnews h1 hroom hfit
   rw [h2] at hr
   injection hr with hr _
   subst hr
   exact .inl hg
  ·have holds:∀ j u,xs[j]?=some u->w.cell? ((⟨g2,0,none⟩:Addr).add j)=some u:=hown.cells (g:=g2) rfl
   have h2:=run_append_grow (P:=P) w xt ty el i z hu hi hz ⟨g2,0,none⟩ n cap xs hown.1 holds a m c news hl hnews (by omega) (by omega) (growslice_fits (by omega) hb)
   rw [h2] at hr
   injection hr with hr _
   subst hr
   simp [Value.ownBlock] at hg
   exact .inr hg.symm
theorem append_base0 {i:TypeInfo} {z:Value} (hu:P.underlying xt=some (.slice el)) (hi:P.info? el=some i) (hz:i.zero=some z) (hsz:i.size=es)
  (a0:Addr) {a:Addr} {c:Nat} {news:List Value} (hl:news.length=m*es) (hnews:∀ j u,news[j]?=some u->w.cell? (a.add j)=some u) (hm:0<m) (h63:m<=maxLen) (hb:m*i.bytes<=140737488355328) :
  (Builtin.append_ #[xt,xt] ty #[.slice (some a0) 0 0,.slice (some a) m c]).run P w=(Builtin.append_ #[xt,xt] ty #[.slice none 0 0,.slice (some a) m c]).run P w:=by
 subst hsz
 have hsmall:m<=9223372036854775807:=by simp only [maxLen] at h63;omega
 rw [run_append_nil (P:=P) w xt ty el i z hu hi hz a m c news hl hnews hm (by omega) (by omega),run_append_grow (P:=P) w xt ty el i z hu hi hz a0 0 0 [] (by simp) (by simp) a m c news hl hnews (by omega) (by omega) (growslice_fits (by omega) (by simpa using hb))]
 simp
theorem wp_of_run {o:Oper} {g:F} {d:Nat} (hd:o.dst=some d) (hrun:(execOp a.eval o).run P w = .ok (.value v) w') (h:St e g (a.put (some d) v) w') :
  Oper.wp P o a w (fun a' w'=>St e g a' w') Q:=by
 unfold Oper.wp
 rw [hrun,Oper.upon_value,hd]
 exact h
theorem DR.cellsAt (hsat:∀ b o,H b=some o->w.heap[b]?=some o) {arr:Array Value} {fz:Nat × Nat} {vs:Nat->Nat->Value} (hb:H b=some (.cells arr ty fz)) (hes:∀ i (hi:i<rows.length),(rows[i]'hi).length=es)
  (hv:∀ i (_:i<rows.length) j,j<es->arr[o+i*es+j]?=some (vs i j)) (hr:∀ i (hi:i<rows.length) j (hj:j<rows[i].length),DR H rows[i][j] (vs i j)) :
  ∃ news:List Value,news.length=rows.length*es/\(∀ j u,news[j]?=some u->w.cell? ((⟨b,o,none⟩:Addr).add j)=some u)/\RowAt H news es rows/\(∀ u ∈ news,u.oneCell'=true):=by
 have hw:=hsat b _ hb
 have hget:∀ j,j<rows.length*es->0<es/\j / es<rows.length/\j % es<es/\j=j / es*es+j % es:=by
  intro j hj
  have he:0<es:=dC fun e=>by simp [e] at hj
  exact ⟨he,Nat.div_lt_of_lt_mul (by rw [b8];exact hj),cR _ he,by rw [b8];exact (dD j es).symm⟩
 refine ⟨(List.range (rows.length*es)).map fun j=>vs (j / es) (j % es),by simp,?_,?_,?_⟩
 ·intro j u hu
  rw [bP] at hu
  by_cases hj:j<rows.length*es
  ·rw [List.getElem?_range hj] at hu
   injection hu with hu
   obtain ⟨h1,h2,h3,h4⟩:=hget j hj
   rw [Addr.add_mid]
   have:=hv (j / es) h2 (j % es) h3
   rw [cY,<- h4] at this
   subst hu
   simp [World.cell?, hw,this]
  ·rw [List.getElem?_eq_none (by simpa using hj)] at hu;cases hu
 ·intro i r hri f x hx
  obtain ⟨hi,rfl⟩:=bF.1 hri
  obtain ⟨hf,rfl⟩:=bF.1 hx
  have hf':f<es:=by rw [<- hes i hi];exact hf
  have hlt:i*es+f<rows.length*es:=by
   have:(i+1)*es<=rows.length*es:=bH _ hi
   rw [bM] at this;omega
  have e1:(i*es+f) / es=i:=by rw [b8,Nat.mul_add_div (by omega)];simp [Nat.div_eq_of_lt hf']
  have e2:(i*es+f) % es=f:=by rw [b8,Nat.mul_add_mod];exact Nat.mod_eq_of_lt hf'
  refine ⟨vs i f,?_,hr i hi f hf⟩
  rw [bP,List.getElem?_range hlt]
  simp [e1,e2]
 ·intro u hu
  simp only [cD,List.mem_range] at hu
  obtain ⟨j,hj,rfl⟩:=hu
  obtain ⟨h1,h2,h3,h4⟩:=hget j hj
  exact zl0 (DR.flat (hr (j / es) h2 (j % es) (by rw [hes _ h2];exact h3)))
def OwnR {α:Type} (R:α->Value->Prop) (w:World) (el:TypeId) (es:Nat) (rows:List (List α)) (v:Value):Option (Nat × Nat)->Prop
  | none=>rows=[]/\∃ ao,v = .slice ao 0 0
  | some (b,c)=>v = .slice (some ⟨b,0,none⟩) rows.length c/\∃ arr:List Value,w.heap[b]?=some (.cells ⟨arr⟩ el (0,0))/\arr.length=c*es/\rows.length<=c/\c<=maxLen/\(∀ r ∈ rows,r.length=es)/\zk8 R arr es rows
def SrcR {α:Type} (R:α->Value->Prop) (w:World) (es:Nat) (rows:List (List α)) (v:Value):Prop :=
  (rows=[]/\∃ ao c,v = .slice ao 0 c)\/(0<rows.length/\∃ b o c news,v = .slice (some ⟨b,o,none⟩) rows.length c/\news.length=rows.length*es/\(∀ j u,news[j]?=some u->w.cell? ((⟨b,o,none⟩:Addr).add j)=some u)/\zk8 R news es rows/\(∀ u ∈ news,u.oneCell'=true))
theorem Ok.ownD (h:Ok e f H B a w) (hl:f.l n=some (.row el es rows)) (h1:CR H B (.own n rows.length) v):OwnR (DR H) w el es rows v (B n):=by
 simp only [CR] at h1
 cases hB:B n with
 | none=>rw [hB] at h1;obtain ⟨h3,h4⟩:=h1;exact ⟨b7.1 h3,h4⟩
 | some q=>rw [hB] at h1;exact ⟨h1,h.row hl hB⟩
section
variable {α:Type} {R:α->Value->Prop} {w:World} {el:TypeId} {es:Nat} {rows:List (List α)} {v:Value} {p:Option (Nat × Nat)}
theorem OwnR.hes (h:OwnR R w el es rows v p):∀ r ∈ rows,r.length=es:=by
 cases p with
 | none=>obtain ⟨rfl,_⟩:=h;intro r hr;cases hr
 | some q=>obtain ⟨_,_,_,_,_,_,h,_⟩:=h;exact h
theorem OwnR.cr (h:OwnR R w el es rows v p) (hB:B n=p) (hk:rows.length=k):CR H B (.own n k) v:=by
 subst hk hB
 simp only [CR]
 cases hB:B n with
 | none=>rw [hB] at h;obtain ⟨rfl,h⟩:=h;exact ⟨rfl,h⟩
 | some q=>rw [hB] at h;exact h.1
theorem OwnR.take (h:OwnR R w el es rows v p):(rows=[]/\∃ ao,v = .slice ao 0 0)\/∃ b c arr,p=some (b,c)/\v = .slice (some ⟨b,0,none⟩) rows.length c/\w.heap[b]?=some (.cells ⟨arr⟩ el (0,0))/\arr.length=c*es/\rows.length<=c/\c<=maxLen/\(∀ r ∈ rows,r.length=es)/\zk8 R (arr.take (rows.length*es)) es rows:=by
 cases p with
 | none=>exact .inl h
 | some q =>
  obtain ⟨b,c⟩:=q
  obtain ⟨h2,arr,g1,g2,g3,g4,g5,g6⟩:=h
  refine .inr ⟨b,c,arr,rfl,h2,g1,g2,g3,g4,g5,fun i r hri f x hx2=>?_⟩
  obtain ⟨u,k1,k2⟩:=g6 i r hri f x hx2
  refine ⟨u,?_,k2⟩
  have hi2:=(bF.1 hri).1
  have hf2:=(bF.1 hx2).1
  rw [g5 r (bL hri)] at hf2
  have:(i+1)*es<=rows.length*es:=bH _ hi2
  rw [bM] at this
  rw [bU,if_pos (by omega)];exact k1
theorem OwnR.src (hR:∀ x u,R x u->flat u=true) (h:OwnR R w el es rows v p):SrcR R w es rows v:=by
 rcases h.take with ⟨h3,ao,h4⟩ | ⟨b,c,arr,_,h2,g1,g2,g3,g4,g5,g6⟩
 ·exact .inl ⟨h3,ao,0,h4⟩
 ·by_cases hz0:rows.length=0
  ·exact .inl ⟨b7.1 hz0,_,c,by rw [h2,hz0]⟩
  ·have hle:rows.length*es<=c*es:=bH _ g3
   refine .inr ⟨by omega,b,0,c,_,h2,by rw [bT];omega,fun j u hu=>?_,g6,fun u hu=>?_⟩
   ·rw [bU] at hu
    split at hu
    ·rw [Addr.add_mid,cG];simp [World.cell?, g1,hu]
    ·cases hu
   ·obtain ⟨j,hj⟩:=dG.1 hu
    have hj1:=(bF.1 hj).1
    rw [bT] at hj1
    have hes0:0<es:=dC fun e=>by simp [e] at hj1
    have h5:j / es<rows.length:=Nat.div_lt_of_lt_mul (by rw [b8];omega)
    have h6:j % es<es:=cR _ hes0
    have h7:(rows[j / es]'h5).length=es:=g5 _ (dE h5)
    obtain ⟨u2,k1,k2⟩:=g6 (j / es) _ (bG h5) (j % es) _ (bG (by rw [h7];exact h6))
    have h8:j / es*es+j % es=j:=by rw [b8];exact dD j es
    rw [h8,hj] at k1
    injection k1 with k1
    subst k1
    exact zl0 (hR _ _ k2)
theorem append_run {rows2:List (List α)} {vu:Value} (hT:ElT P xt el es bs) (h1:OwnR R w el es rows v p) (hes2:∀ r ∈ rows2,r.length=es) (hsrc:SrcR R w es rows2 vu) (hb:(rows.length+rows2.length)*bs<=140737488355328) :
  ∃ v' w' p', (Builtin.append_ #[xt,xt] ty #[v,vu]).run P w = .ok v' w'/\OwnR R w' el es (rows++rows2) v' p'/\w'.os=w.os/\w'.tape=w.tape/\w'.output=w.output/\w.heap.size<=w'.heap.size/\(∀ k,k<w.heap.size->(∀ c,p≠some (k,c))->w'.heap[k]?=w.heap[k]?) /\
   (∀ b c,p'=some (b,c)->b<w'.heap.size/\((∃ c', p=some (b,c'))\/w.heap.size<=b)):=by
 obtain ⟨i,z,hi,hz,hsz,hby,hzs⟩:=hT.ex
 have hml:rows.length+rows2.length<=maxLen:=by
  have:(rows.length+rows2.length)*1<=(rows.length+rows2.length)*bs:=Nat.mul_le_mul_left _ hT.bpos
  simp only [maxLen];omega
 have hall:∀ r ∈ rows++rows2,r.length=es:=fun r hr=>(cE.1 hr).elim (h1.hes r) (hes2 r)
 rcases hsrc with ⟨rfl,ao,c,rfl⟩ | ⟨hp,b,o,c,news,rfl,n1,n2,n3,n4⟩
 ·have hrun:∀ base m cap,m<=cap->(Builtin.append_ #[xt,xt] ty #[.slice base m cap,.slice ao 0 c]).run P w = .ok (.slice base m cap) w:=by
   intro base m cap hmc
   cases ao <;> cases base <;> simp [Builtin.append_,run_underlying hT.hu,sizeOf,typeInfo,hi,Builtin.lenOf,hmc,Builtin.firstCells,loadCells,loadCellsFrom,storeCells]
  refine ⟨v,w,p,?_,by rw [List.append_nil];exact h1,rfl,rfl,rfl,bZ _,fun _ _ _=>rfl,fun b c hb=>⟨?_,.inl ⟨c,hb⟩⟩⟩
  ·rcases h1.take with ⟨_,ao0,rfl⟩ | ⟨b,c,arr,_,rfl,_,_,g3,_⟩
   ·exact hrun ao0 0 0 (bZ _)
   ·exact hrun _ _ _ g3
  ·subst hb;obtain ⟨_,arr,g1,_⟩:=h1;exact (cH.1 g1).1
 ·obtain ⟨vt0,hvt0,hblk,xs,hown,hxs⟩:∃ vt0,(Builtin.append_ #[xt,xt] ty #[v,.slice (some ⟨b,o,none⟩) rows2.length c]).run P w=(Builtin.append_ #[xt,xt] ty #[vt0,.slice (some ⟨b,o,none⟩) rows2.length c]).run P w/\(∀ g,vt0.ownBlock=some g->∃ c,p=some (g,c))/\∃ xs,w.ownsRow 0 el es vt0 rows.length xs/\zk8 R xs es rows:=by
   rcases h1.take with ⟨rfl,ao0,rfl⟩ | ⟨b2,cc,arr2,hq,h2,g1,g2,g3,g4,g5,g6⟩
   ·refine ⟨.slice none 0 0,?_,(fun g hg=>by cases hg),[],⟨by simp,.inl ⟨rfl,rfl⟩⟩,fun i r hr=>by simp at hr⟩
    cases ao0 with
    | none=>rfl
    | some a0=>exact append_base0 hT.hu hi hz hsz a0 n1 n2 hp (by simpa using hml) (by rw [hby];simpa using hb)
   ·have hle:rows.length*es<=cc*es:=bH _ g3
    exact ⟨v,rfl,fun g hg=>⟨cc,by rw [h2] at hg;simp only [Value.ownBlock] at hg;injection hg with hg;rw [<- hg];exact hq⟩,arr2.take (rows.length*es),⟨by rw [bT];omega,.inr ⟨b2,cc,⟨arr2⟩,h2,bJ _,g1,g3,g4,by simpa using g2,rfl⟩⟩,g6⟩
  obtain ⟨v', w', r1,r2,r3,r4⟩:=run_append_own (P:=P) w 0 xt ty el i z es bs hT.hu hi hz hsz hby hzs hT.pos vt0 rows.length xs hown ⟨b,o,none⟩ rows2.length c news n1 n2 n4 hml hb (bJ _)
  have hboth:zk8 R (xs++news) es (rows++rows2):=by
   intro i2 r hri f x hx2
   by_cases hlt:i2<rows.length
   ·rw [cQ hlt] at hri
    obtain ⟨u,k1,k2⟩:=hxs i2 r hri f x hx2
    exact ⟨u,by rw [cQ (bF.1 k1).1];exact k1,k2⟩
   ·rw [dB (by omega)] at hri
    obtain ⟨u,k1,k2⟩:=n3 _ r hri f x hx2
    refine ⟨u,?_,k2⟩
    have hq:rows.length*es<=i2*es:=bH _ (by omega)
    rw [dB (by rw [hown.1];omega),hown.1,<- k1]
    congr 1
    rw [Nat.sub_mul];omega
  obtain ⟨q1,q2⟩:=r2
  rcases q2 with ⟨_,hn0⟩ | ⟨g,cap,cur,rfl,_,k2,k3,k4,k5,k6⟩
  ·omega
  ·refine ⟨_,w', some (g,cap),hvt0.trans r1,?_,r3.os,r3.tape,r3.output,r3.size,fun k hk hnk=>r3.block k hk fun e=>?_,?_⟩
   ·refine ⟨by rw [bX],cur.toList,k2,by simpa using k5,by simpa using k3,k4,hall,fun i2 r hri f x hx2=>?_⟩
    obtain ⟨u,j1,j2⟩:=hboth i2 r hri f x hx2
    refine ⟨u,?_,j2⟩
    rw [<- k6,bU] at j1
    split at j1
    ·exact j1
    ·cases j1
   ·obtain ⟨c', e⟩:=hblk k e.symm;exact hnk c' e
   ·rintro b3 c3 e3
    injection e3 with e3
    injection e3 with e3 e4
    subst e3 e4
    refine ⟨(cH.1 k2).1,?_⟩
    rcases append_fresh hT.hu hi hz hsz hown hp n1 n2 n4 hml (by rw [hby];exact hb) r1 g rfl with hh | hh
    ·exact .inl (hblk g hh)
    ·exact .inr (by omega)
end
theorem Op.appG {d u:Nat} {pos af gd} {rl:List (Nat × L)} {l l':L} (hl:(n,l) ∈ rl)
  (h:∀ (e:E) (f:F) (H:Im) (B:Bl) (a:Act) (w:World),Ok e f H B a w->(∀ p ∈ rs,f.s p.1=some p.2)->(∀ p ∈ rl,f.l p.1=some p.2)->New e.K f n'->∃ v w' p,(Builtin.append_ #[xt,xt] ty #[a.eval (.tmp t),a.eval (.tmp u)]).run P w = .ok v w'/\CR H (fun x=>if x=n' then p else B x) (.own n' k) v/\LR H (fun x=>if x=n' then p else B x) w' n' l' /\
   w'.os=w.os/\w'.tape=w.tape/\w'.output=w.output/\w.heap.size<=w'.heap.size/\(∀ k,k<w.heap.size->(∀ c,B n≠some (k,c))->w'.heap[k]?=w.heap[k]?)/\(∀ b c,p=some (b,c)->b<w'.heap.size/\((∃ c', B n=some (b,c'))\/w.heap.size<=b))) :
  zb6 P ⟨some d,.call { callee:=.builtin .append,args:=#[.tmp t,.tmp u],argTypes:=#[xt,xt] }, ty,pos,af,gd⟩ { rs:=rs,rl:=rl,ws:=[(d,some (.t (.c (.own n' k))))],wl:=[(n', some l'),(n,none)],nw:=[n'] }:=by
 rintro e f a w Q ⟨H,B,hok⟩ hr hnw hb0
 have hnew:=hnw n' (by simp)
 obtain ⟨v,w', p,r1,r2,r3,r4,r5,r6,r7,r8,r9⟩:=h e f H B a w hok hr.1 hr.2 hnew
 have hok':Ok e ⟨f.s,fun m=>if m=n' then some l' else if m=n then none else f.l m⟩ H (fun x=>if x=n' then p else B x) a w' :=
  hok.renew (hr.2 _ hl) hnew p r4 r5 r6 r7 r8 r9 r3 (fun _=>rfl) (fun _=>rfl)
 refine wp_of_run (d:=d) rfl ?_ ⟨H,_,hok'.put (x:=some (.t (.c (.own n' k)))) (hb0.1 (d,some (.t (.c (.own n' k)))) (by simp)) (zj0 f d _ _ rfl) (fun m=>?_) (fun y hy=>by injection hy with hy;subst hy;exact r2)⟩
 ·generalize a.eval=ρ at r1 ⊢
  have e1:(Array.map ρ #[.tmp t,.tmp u])=#[ρ (.tmp t),ρ (.tmp u)]:=by simp
  simp only [execOp,resolve,e1,Sem.run_bind,Sem.run_pure,Result.andThen_ok,invoke,builtin,r1]
 ·simp only [F.app,List.lookup]
  by_cases e1:m=n'
  ·simp [e1]
  ·have g1:(m == n')=false:=by simpa using e1
   by_cases e2:m=n
   ·subst e2;simp [g1,e1]
   ·have g2:(m == n)=false:=by simpa using e2
    simp [g1,g2,e1,e2]
theorem OwnR.lrD {p:Option (Nat × Nat)} (h:OwnR (DR H) w el es rows v p) (hB:B n=p):LR H B w n (.row el es rows):=by
 subst hB
 simp only [LR]
 cases hB:B n with
 | none=>rw [hB] at h;exact h.1
 | some q=>rw [hB] at h;obtain ⟨_,arr,g1,g2,g3,g4,g5,g6⟩:=h;exact ⟨arr,g1,g2,g3,g4,g5,(zea g2 g3 g5).2 g6⟩
theorem DR.src (h:DR H (.sl es rows) v) (hsat:∀ b o,H b=some o->w.heap[b]?=some o):SrcR (DR H) w es rows v:=by
 cases h with
 | nil _ ao c _ _=>exact .inl ⟨rfl,ao,c,rfl⟩
 | sl _ _ b o c arr ty' fz vs hp hbH hl2 hc hes hv hx =>
  obtain ⟨news,n1,n2,n3,n4⟩:=DR.cellsAt hsat hbH hes hv hx
  exact .inr ⟨hp,b,o,c,news,rfl,n1,n2,n3,n4⟩
theorem Op.appOD {d u len len':Nat} {rows2:List (List D)} {pos af gd} (hT:ElT P xt el es bs) (hlen:len=rows.length) (hlen':len'=len+rows2.length) (hrow:rows++rows2=rows')
  (hes2:∀ r ∈ rows2,r.length=es) (hb:(len+rows2.length)*bs<=140737488355328) :
  zb6 P ⟨some d,.call { callee:=.builtin .append,args:=#[.tmp t,.tmp u],argTypes:=#[xt,xt] }, ty,pos,af,gd⟩
   { rs:=[(t,.t (.c (.own n len))),(u,.t (.c (.d (.sl es rows2))))],rl:=[(n,.row el es rows)],ws:=[(d,some (.t (.c (.own n' len'))))],wl:=[(n', some (.row el es rows')),(n,none)],nw:=[n'] }:=by
 subst hlen hlen' hrow
 refine Op.appG (dH.2 rfl) fun e f H B a w hok hs hl hnew=>?_
 have h2:DR H (.sl es rows2) (a.eval (.tmp u)):=hok.slot u _ (hs (u,.t (.c (.d (.sl es rows2)))) (by simp))
 obtain ⟨v,w', p,r1,r2,r⟩:=append_run (ty:=ty) hT (hok.ownD (hl (n,.row el es rows) (by simp)) (hok.slot t _ (hs (t,.t (.c (.own n rows.length))) (by simp)))) hes2 (h2.src hok.sat) hb
 exact ⟨v,w', p,r1,r2.cr (if_pos rfl) bX,r2.lrD (if_pos rfl),r⟩
end
abbrev zF0:List C:=[.d (.raw (.int .i64 0)),.d (.raw zaa),.d (.raw (.bool false)),.d (nsl []),.d (.raw (.bool false)),.d (.raw zaa)]
abbrev zR0:List C:=[.d (.raw zaa),.d (.raw (.bool false)),.d (nsl []),.d (.raw (.bool false))]
abbrev zT0:List C:=[.d (.raw zaa),.d (.raw (.bool false)),.d (nsl [])]
theorem aD (d t u n n':Nat) (X Y:List α) (F:α->List D) {pos af gd} (hT:ElT P xt el es bs) (hes2:∀ r ∈ Y.map F,r.length=es) (hb:(X.length+(Y.map F).length)*bs<=140737488355328:=by first | omega | (simp at *;done) | (simp at *;omega)) :
    zb6 P ⟨some d,.call { callee:=.builtin .append,args:=#[.tmp t,.tmp u],argTypes:=#[xt,xt] }, ty,pos,af,gd⟩
      { rs:=[(t,.t (.c (.own n X.length))),(u,.t (.c (.d (.sl es (Y.map F)))))],rl:=[(n,.row el es (X.map F))],ws:=[(d,some (.t (.c (.own n' (X++Y).length))))],wl:=[(n', some (.row el es ((X++Y).map F))),(n,none)],nw:=[n'] } :=
  Op.appOD hT (bI _).symm (by rw [bX,bI]) (List.map_append ..).symm hes2 hb
abbrev nCl:C:=.d (.raw zaa)
section
variable {w0:World} {H0:Im} {B0:Bl} {K:List Nat} {N:Nat} {a:Act} {w:World} {sl:List (Nat × V)} {lc:List (Nat × L)}
theorem ofS_mem {v:V} (h:(F.of sl lc).s t=some v):(t,v) ∈ sl:=zau h
theorem ofL_mem {l:L} (h:(F.of sl lc).l n=some l):(n,l) ∈ lc:=zau h
theorem pubS (n es:Nat) (ty:TypeId) (rows:List (List D)) (sl':List (Nat × V)) (lc':List (Nat × L)) (h:St ⟨w0,H0,B0,[],N⟩ (F.of sl lc) a w) (hl:lc.lookup n=some (.row ty es rows))
  (h1:zeu rows.length (sl.flatMap (·.2.owns n))) (h2:zeu rows.length (lc.flatMap (·.2.owns n))) (h3:leS ((F.of sl lc).pub n es rows) sl'=sl'.map fun p=>some p.2:=by kernel_rfl) (h4:leN ((F.of sl lc).pub n es rows) lc'=lc'.map fun p=>some p.2:=by kernel_rfl) :
  St ⟨w0,H0,B0,[],N⟩ (F.of sl' lc') a w :=
 (h.pub n es ty rows hl (fun t v hv k hk=>zeu.mem h1 k (bE.2 ⟨(t,v),ofS_mem hv,hk⟩)) (fun m l hm k hk=>zeu.mem h2 k (bE.2 ⟨(m,l),ofL_mem hm,hk⟩))).weaken (zht h3 h4)
theorem allApp:∀ {a b:List Nat}, zeu m (a++b)->zeu m a/\zeu m b
  | [],_,h=>⟨trivial,h⟩
  | _ :: _,_,h=>⟨⟨h.1,(allApp h.2).1⟩,(allApp h.2).2⟩
def puM (n es:Nat) (rows:List (List D)) (lc:List (Nat × L)):List (Nat × L):=(lc.filter fun p=>!Nat.beq p.1 n).map fun p=>(p.1,p.2.pub n es rows)
theorem zhz (n es:Nat) (ty:TypeId) (rows:List (List D)) (h:St ⟨w0,H0,B0,[],N⟩ (F.of sl lc) a w) (ks:List Nat) (h1:zeu rows.length ks) (h2:sl.flatMap (·.2.owns n)++lc.flatMap (·.2.owns n)=ks:=by kernel_rfl) (hl:lc.lookup n=some (.row ty es rows):=by kernel_rfl) (h3:leS ((F.of sl lc).pub n es rows) (sl.map fun p=>(p.1,p.2.pub n es rows))=(sl.map fun p=>(p.1,p.2.pub n es rows)).map fun p=>some p.2:=by kernel_rfl) (h4:leN ((F.of sl lc).pub n es rows) (puM n es rows lc)=(puM n es rows lc).map fun p=>some p.2:=by kernel_rfl) :
  St ⟨w0,H0,B0,[],N⟩ (F.of (sl.map fun p=>(p.1,p.2.pub n es rows)) (puM n es rows lc)) a w:=pubS n es ty rows (sl.map fun p=>(p.1,p.2.pub n es rows)) (puM n es rows lc) h hl (allApp (by rw [h2];exact h1:zeu rows.length (sl.flatMap (·.2.owns n)++lc.flatMap (·.2.owns n)))).1 (allApp (by rw [h2];exact h1:zeu rows.length (sl.flatMap (·.2.owns n)++lc.flatMap (·.2.owns n)))).2 h3 h4
theorem renS (n m:Nat) (sl':List (Nat × V)) (lc':List (Nat × L)) (h:St ⟨w0,H0,B0,K,N⟩ (F.of sl lc) a w) (hn:newB K sl lc m=true:=by kernel_rfl)
  (h3:leS ((F.of sl lc).ren n m) sl'=sl'.map fun p=>some p.2:=by kernel_rfl) (h4:leN ((F.of sl lc).ren n m) lc'=lc'.map fun p=>some p.2:=by kernel_rfl):St ⟨w0,H0,B0,K,N⟩ (F.of sl' lc') a w :=
 (h.ren n m (zcx hn)).weaken (zht h3 h4)
def rnM (n m:Nat) (lc:List (Nat × L)):List (Nat × L):=((lc.filter fun p=>!Nat.beq p.1 n).map fun p=>(p.1,p.2.ren n m))++(lc.filter fun p=>Nat.beq p.1 n).map fun p=>(m,p.2.ren n m)
theorem zd8 (n m:Nat) (h:St ⟨w0,H0,B0,K,N⟩ (F.of sl lc) a w) (hn:newB K sl lc m=true:=by kernel_rfl) (h3:leS ((F.of sl lc).ren n m) (sl.map fun p=>(p.1,p.2.ren n m))=(sl.map fun p=>(p.1,p.2.ren n m)).map fun p=>some p.2:=by kernel_rfl) (h4:leN ((F.of sl lc).ren n m) (rnM n m lc)=(rnM n m lc).map fun p=>some p.2:=by kernel_rfl):St ⟨w0,H0,B0,K,N⟩ (F.of (sl.map fun p=>(p.1,p.2.ren n m)) (rnM n m lc)) a w:=renS n m (sl.map fun p=>(p.1,p.2.ren n m)) (rnM n m lc) h hn h3 h4
theorem nilOSs (t j n es:Nat) (ty:TypeId) (v:V) (sl':List (Nat × V)) (lc':List (Nat × L)) (h:St ⟨w0,H0,B0,K,N⟩ (F.of sl lc) a w) (hn:newB K sl lc n=true) (hv:sl.lookup t=some v) (hg:v.getC j=some (.d (.raw zaa)))
  (h3:leS (((F.of sl lc).setL n (.row ty es [])).setS t (v.setC j (.own n 0))) sl'=sl'.map fun p=>some p.2:=by kernel_rfl) (h4:leN (((F.of sl lc).setL n (.row ty es [])).setS t (v.setC j (.own n 0))) lc'=lc'.map fun p=>some p.2:=by kernel_rfl):St ⟨w0,H0,B0,K,N⟩ (F.of sl' lc') a w :=
 (h.nilOS t j n es ty hv hg (zcx hn)).weaken (zht h3 h4)
theorem zg1 (t j n es:Nat) (ty:TypeId) (v:V) (h:St ⟨w0,H0,B0,K,N⟩ (F.of sl lc) a w) (hn:newB K sl lc n=true:=by kernel_rfl) (hv:sl.lookup t=some v:=by kernel_rfl) (hg:v.getC j=some (.d (.raw zaa)):=by kernel_rfl) (h3:leS (((F.of sl lc).setL n (.row ty es [])).setS t (v.setC j (.own n 0))) (uK [] [(t,v.setC j (.own n 0))] sl)=(uK [] [(t,v.setC j (.own n 0))] sl).map fun p=>some p.2:=by kernel_rfl) (h4:leN (((F.of sl lc).setL n (.row ty es [])).setS t (v.setC j (.own n 0))) (uL [] [(n,.row ty es [])] lc)=(uL [] [(n,.row ty es [])] lc).map fun p=>some p.2:=by kernel_rfl):St ⟨w0,H0,B0,K,N⟩ (F.of (uK [] [(t,v.setC j (.own n 0))] sl) (uL [] [(n,.row ty es [])] lc)) a w:=nilOSs t j n es ty v (uK [] [(t,v.setC j (.own n 0))] sl) (uL [] [(n,.row ty es [])] lc) h hn hv hg h3 h4
theorem nilOLs (m j n es:Nat) (ty:TypeId) (cs:List C) (sl':List (Nat × V)) (lc':List (Nat × L)) (h:St ⟨w0,H0,B0,K,N⟩ (F.of sl lc) a w) (hn:newB K sl lc n=true) (hv:lc.lookup m=some (.box cs)) (hg:cs[j]?=some (.d (.raw zaa)))
  (h3:leS (((F.of sl lc).setL n (.row ty es [])).setL m (.box (cs.set j (.own n 0)))) sl'=sl'.map fun p=>some p.2:=by kernel_rfl) (h4:leN (((F.of sl lc).setL n (.row ty es [])).setL m (.box (cs.set j (.own n 0)))) lc'=lc'.map fun p=>some p.2:=by kernel_rfl):St ⟨w0,H0,B0,K,N⟩ (F.of sl' lc') a w :=
 (h.nilOL m j n es ty hv hg (zcx hn)).weaken (zht h3 h4)
theorem zh4 (m j n es:Nat) (ty:TypeId) (cs:List C) (h:St ⟨w0,H0,B0,K,N⟩ (F.of sl lc) a w) (hn:newB K sl lc n=true:=by kernel_rfl) (hv:lc.lookup m=some (.box cs):=by kernel_rfl) (hg:cs[j]?=some (.d (.raw zaa)):=by kernel_rfl) (h3:leS (((F.of sl lc).setL n (.row ty es [])).setL m (.box (cs.set j (.own n 0)))) sl=sl.map fun p=>some p.2:=by kernel_rfl) (h4:leN (((F.of sl lc).setL n (.row ty es [])).setL m (.box (cs.set j (.own n 0)))) (uL [] [(m,.box (cs.set j (.own n 0))),(n,.row ty es [])] lc)=(uL [] [(m,.box (cs.set j (.own n 0))),(n,.row ty es [])] lc).map fun p=>some p.2:=by kernel_rfl):St ⟨w0,H0,B0,K,N⟩ (F.of sl (uL [] [(m,.box (cs.set j (.own n 0))),(n,.row ty es [])] lc)) a w:=nilOLs m j n es ty cs sl (uL [] [(m,.box (cs.set j (.own n 0))),(n,.row ty es [])] lc) h hn hv hg h3 h4
theorem nilDSs (t j es:Nat) (v:V) (sl':List (Nat × V)) (lc':List (Nat × L)) (h:St ⟨w0,H0,B0,K,N⟩ (F.of sl lc) a w) (hv:sl.lookup t=some v) (hg:v.getC j=some (.d (.raw zaa)))
  (h3:leS ((F.of sl lc).setS t (v.setC j (.d (.sl es [])))) sl'=sl'.map fun p=>some p.2:=by kernel_rfl) (h4:leN ((F.of sl lc).setS t (v.setC j (.d (.sl es [])))) lc'=lc'.map fun p=>some p.2:=by kernel_rfl):St ⟨w0,H0,B0,K,N⟩ (F.of sl' lc') a w :=
 (h.nilDS t j es (ao:=none) hv hg (fun _=>rfl) (bJ _)).weaken (zht h3 h4)
theorem nilDSx (t j es:Nat) (v:V) (h:St ⟨w0,H0,B0,K,N⟩ (F.of sl lc) a w) (hv:sl.lookup t=some v:=by kernel_rfl) (hg:v.getC j=some (.d (.raw zaa)):=by kernel_rfl) (h3:leS ((F.of sl lc).setS t (v.setC j (.d (.sl es [])))) (uK [] [(t,v.setC j (.d (.sl es [])))] sl)=(uK [] [(t,v.setC j (.d (.sl es [])))] sl).map fun p=>some p.2:=by kernel_rfl) (h4:leN ((F.of sl lc).setS t (v.setC j (.d (.sl es [])))) lc=lc.map fun p=>some p.2:=by kernel_rfl):St ⟨w0,H0,B0,K,N⟩ (F.of (uK [] [(t,v.setC j (.d (.sl es [])))] sl) lc) a w:=nilDSs t j es v (uK [] [(t,v.setC j (.d (.sl es [])))] sl) lc h hv hg h3 h4
theorem nilDLs (m j es:Nat) (cs:List C) (sl':List (Nat × V)) (lc':List (Nat × L)) (h:St ⟨w0,H0,B0,K,N⟩ (F.of sl lc) a w) (hv:lc.lookup m=some (.box cs)) (hg:cs[j]?=some (.d (.raw zaa)))
  (h3:leS ((F.of sl lc).setL m (.box (cs.set j (.d (.sl es []))))) sl'=sl'.map fun p=>some p.2:=by kernel_rfl) (h4:leN ((F.of sl lc).setL m (.box (cs.set j (.d (.sl es []))))) lc'=lc'.map fun p=>some p.2:=by kernel_rfl):St ⟨w0,H0,B0,K,N⟩ (F.of sl' lc') a w :=
 (h.nilDL m j es (ao:=none) hv hg (fun _=>rfl) (bJ _)).weaken (zht h3 h4)
theorem zb7 (m j es:Nat) (cs:List C) (h:St ⟨w0,H0,B0,K,N⟩ (F.of sl lc) a w) (hv:lc.lookup m=some (.box cs):=by kernel_rfl) (hg:cs[j]?=some (.d (.raw zaa)):=by kernel_rfl) (h3:leS ((F.of sl lc).setL m (.box (cs.set j (.d (.sl es []))))) sl=sl.map fun p=>some p.2:=by kernel_rfl) (h4:leN ((F.of sl lc).setL m (.box (cs.set j (.d (.sl es []))))) (uL [] [(m,.box (cs.set j (.d (.sl es []))))] lc)=(uL [] [(m,.box (cs.set j (.d (.sl es []))))] lc).map fun p=>some p.2:=by kernel_rfl):St ⟨w0,H0,B0,K,N⟩ (F.of sl (uL [] [(m,.box (cs.set j (.d (.sl es []))))] lc)) a w:=nilDLs m j es cs sl (uL [] [(m,.box (cs.set j (.d (.sl es []))))] lc) h hv hg h3 h4
theorem cutS (n k es:Nat) (ty:TypeId) (rows:List (List D)) (sl':List (Nat × V)) (lc':List (Nat × L)) (h:St ⟨w0,H0,B0,K,N⟩ (F.of sl lc) a w) (hv:lc.lookup n=some (.row ty es rows))
  (h3:leS ((F.of sl lc).setL n (.row ty es (rows.take k))) sl'=sl'.map fun p=>some p.2) (h4:leN ((F.of sl lc).setL n (.row ty es (rows.take k))) lc'=lc'.map fun p=>some p.2):St ⟨w0,H0,B0,K,N⟩ (F.of sl' lc') a w :=
 (h.cutR n k es ty hv).weaken (zht h3 h4)
end
section
variable {P:Program}
def A.c:A->C
  | .d x => .d x
  | .ptr n o => .ptr n o
theorem AR.c {x:A} (h:AR H B x v):CR H B x.c v:=by cases x <;> exact h
def capV (cs:List A):List V:=cs.map fun x => .t (.c x.c)
theorem Op.callV {k:FuncId} {cap:List A} {ps qs:List (Nat × L)} {args:List V} {res:V} (hc:Fn P k ps (args++capV cap) res qs) (hk:zbg P k) {d:Nat} {xs:List Operand} {ty pos af gd} (h:OVs xs args rs) :
  zb6 P ⟨some d,.call { callee:=.value (.tmp t),args:=⟨xs⟩,argTypes:=tys }, ty,pos,af,gd⟩ (callI ((t,.t (.c (.fn (.func k) [] cap))) :: rs) ps qs d res):=by
 rintro e f a w Q ⟨H,B,hok⟩ hr hnw hb
 obtain ⟨vs1,vs2,hfv,hf1,hf2⟩:CR H B (.fn (.func k) [] cap) (a.eval (.tmp t)):=hok.slot t _ (hr.1 (t,.t (.c (.fn (.func k) [] cap))) (by simp [callI]))
 obtain rfl:vs1=[]:=by cases vs1 with
  | nil=>rfl
  | cons _ _=>exact hf1.elim
 have hex:(execOp a.eval ⟨some d,.call { callee:=.value (.tmp t),args:=⟨xs⟩,argTypes:=tys }, ty,pos,af,gd⟩).run P w = .ok (.enter k ⟨xs.map a.eval++vs2⟩) w:=by
  have h1:a.eval (.tmp t) = .func (.func k) #[] ⟨vs2⟩:=hfv
  have h2:(⟨xs⟩:Array Operand).map a.eval=⟨xs.map a.eval⟩:=by simp
  simp only [execOp,resolve,h1,h2,Deferred.ofValue,Sem.run_bind,Sem.run_pure,Result.andThen_ok,invoke]
  rw [zje hk]
  simp
 have hargs:=h.eval hok fun p hp=>hr.1 p (by simp [callI,hp])
 have hcap:zb4 (VR H B) (capV cap) vs2:=zb4.mapL _ hf2 fun a _ b hab=>AR.c hab
 have hps:∀ p ∈ ps,f.l p.1=some p.2:=hr.2
 have pre:Pre ps (args++capV cap) w H B (xs.map a.eval++vs2):=⟨hok.sat,fun p hp=>hok.loc _ _ (hps p hp),fun p hp b c hb2=>by
   obtain ⟨h1,h2,_⟩:=hok.priv _ _ b c (hps p hp) hb2
   exact ⟨h1,h2⟩,fun p hp q hq b c c' h1 h2=>hok.inj _ _ _ _ b c c' (hps p hp) (hps q hq) h1 h2,zb4.append hargs hcap,hok.tab.mono hok.le⟩
 unfold Oper.wp
 rw [hex,Oper.upon_enter]
 refine (hc w H B _ pre).mono ?_
 rintro en w' ⟨v,H', B', rfl,post⟩
 have hnew:∀ n,n ∈ qs.map (·.1)->n ∉ ps.map (·.1)->New e.K f n:=by
  intro n h1 h2
  refine hnw n ?_
  simp only [callI,cK]
  refine ⟨h1,?_⟩
  cases hx:zi1 (ps.map (·.1)) n with
  | false=>rfl
  | true=>exact absurd (zer.1 hx) h2
 have h1:Ok e ⟨f.s,(f.app (callI ((t,.t (.c (.fn (.func k) [] cap))) :: rs) ps qs d res)).l⟩ H' B' a w':=hok.called (g:=⟨f.s,(f.app (callI ((t,.t (.c (.fn (.func k) [] cap))) :: rs) ps qs d res)).l⟩) hps hnew post (fun _=>rfl) (fun n=>by
  simp only [F.app,callI,lookup_wl]
  cases qs.lookup n with
  | some l=>rfl
  | none=>by_cases hm:n ∈ ps.map (·.1) <;> simp [hm])
 exact ⟨H', B', h1.put (x:=some res) (hb.1 (d,some res) (by simp [callI])) (zj0 f d (some res) _ rfl) (fun n=>rfl) (fun y hy=>by injection hy with hy;subst hy;exact post.res)⟩
theorem fill_ok' (place:Nat->Option (Nat × Nat)) (pl:List (Nat × Nat)) (hpl:∀ i q,pl[i]?=some q->place i=some q):∀ (parts:List (Nat × T)) (us:List (Nat × Value)) (cs:List C) (cells:List Value) (out:List C),zb4 (fun p u=>p.1=u.1/\TR H B p.2 u.2) parts us->zb4 (CR H B) cs cells->zjq pl cs parts=some out ->
  ∃ l,Instr.fill place ⟨cells⟩ us=some ⟨l⟩/\zb4 (CR H B) out l
 | [],[],cs,cells,out,_,hc,hf=>by simp only [zjq,Option.some.injEq] at hf;subst hf;exact ⟨cells,rfl,hc⟩
 | (i,x) :: r,(j,u) :: us,cs,cells,out,h,hc,hf=>by
  obtain ⟨⟨h1,h2⟩,h3⟩:=h
  simp only at h1 h2
  subst h1
  simp only [zjq] at hf
  cases hp:pl[i]? with
  | none=>rw [hp] at hf;cases hf
  | some q =>
   obtain ⟨off,size⟩:=q
   rw [hp] at hf
   simp only at hf
   split at hf
   ·rename_i hcond
    obtain ⟨l,g1,g2⟩:=TR.cells h2
    obtain ⟨l', k1,k2⟩:=fill_ok' place pl hpl r us _ _ out h3 (hc.put off g2) hf
    refine ⟨l', ?_,k2⟩
    have e1:place i=some (off,size):=hpl i _ hp
    have hl:l.length=size:=by rw [<- g2.length];exact hcond.1
    have hcl:=hc.length
    simp only [Instr.fill,e1,g1]
    rw [if_neg (by simp [hl];omega)]
    have:=fold_put off l 0 cells
    rw [c7] at this
    rw [<- k1,<- this]
    congr 1
    rw [<- Array.foldl_toList,Array.toList_zipIdx]
   ·cases hf
 | [],_ :: _,_,_,_,h,_,_=>h.elim
 | _ :: _,[],_,_,_,h,_,_=>h.elim
def plS:Nat->Nat->Nat->List (Nat × Nat)
  | 0,_,_=>[]
  | len+1,i,es=>(i*es,es) :: plS len (i+1) es
theorem plS_get:∀ (len i es j:Nat) q,(plS len i es)[j]?=some q->q=((i+j)*es,es)/\j<len
 | 0,_,_,_,_,h=>by simp [plS] at h
 | len+1,i,es,0,q,h=>by simp [plS] at h;subst h;exact ⟨rfl,by omega⟩
 | len+1,i,es,j+1,q,h=>by
  obtain ⟨h1,h2⟩:=plS_get len (i+1) es j q (by simpa [plS] using h)
  exact ⟨by rw [h1,show i+1+j=i+(j+1) by omega],by omega⟩
structure ElZ (P:Program) (t el:TypeId) (es:Nat):Prop where
  hu:P.underlying t=some (.slice el)
  ex:∃ i z,P.info? el=some i/\i.zero=some z/\i.size=es/\z.cells.size=es/\z.cells.toList.all flat=true
  pos:0<es
theorem ElZ.mk' {t:TypeId} (hu:P.underlying t=some (.slice el)) (i:TypeInfo) (z:Value) (h1:P.info? el=some i) (h2:i.zero=some z) (h3:i.size=es := by kernel_rfl) (h5:z.cells.size=es := by kernel_rfl) (h6:z.cells.toList.all flat=true := by kernel_rfl) (h7:0<es := by decide):ElZ P t el es:=⟨hu,⟨i,z,h1,h2,h3,h5,h6⟩,h7⟩
theorem buildS_run {t:TypeId} {len:Nat} (hT:ElZ P t el es) (hlen:0<len) (hsm:len*es<=16777216) {parts:List (Nat × T)} {us:List (Nat × Value)} {out:List C} (hp:zb4 (fun p u=>p.1=u.1/\TR H B p.2 u.2) parts us)
    (hf:zjq (plS len 0 es) (List.replicate (len*es) .any) parts=some out) (w:World) :
    ∃ l:List Value,(Instr.buildSlice t len ⟨us⟩).run P w = .ok (.slice (some ⟨w.heap.size,0,none⟩) len len) (w.alloc (.cells ⟨l⟩ el))/\zb4 (CR H B) out l:=by
  obtain ⟨i,z,hi,hz,hsz,hzs,hfl⟩:=hT.ex
  have hcells:zb4 (CR H B) (List.replicate (len*es) .any) ((Array.range (len*es)).map (z.cells[· % z.cells.size]!)).toList:=by
    refine zb4.iff.2 ⟨by simp,fun j x u hx hu=>?_⟩
    have hx':=bL hx
    have:=List.eq_of_mem_replicate hx'
    subst this
    simp only [Array.toList_map,bP] at hu
    cases hr:(Array.range (len*es)).toList[j]? with
    | none=>rw [hr] at hu;cases hu
    | some k =>
      rw [hr] at hu
      injection hu with hu
      subst hu
      have hk:k % z.cells.size<z.cells.size:=cR _ (by rw [hzs];exact hT.pos)
      show flat (z.cells[k % z.cells.size]!)=true
      rw [getElem!_pos z.cells _ hk]
      have:=List.all_eq_true.1 hfl (z.cells[k % z.cells.size]'hk) (by simp)
      exact this
  have hpl:∀ i q,(plS len 0 es)[i]?=some q->(fun i=>some (i*es,es)) i=some q:=by
    intro j q hq
    obtain ⟨h1,_⟩:=plS_get len 0 es j q hq
    rw [h1,cG]
  obtain ⟨l,h1,h2⟩:=fill_ok' (fun i=>some (i*es,es)) (plS len 0 es) hpl parts us _ _ out hp hcells hf
  refine ⟨l,?_,h2⟩
  have hne:¬ len*i.size=0:=by rw [hsz];have:=Nat.mul_pos hlen hT.pos;omega
  refine run_buildSlice (P:=P) w t el len ⟨us⟩ ⟨l⟩ i z hT.hu hi hz (by rw [hsz];omega) hne ?_
  subst hsz
  exact h1
theorem Ok.newData (h:Ok e f H B a w) (o:Obj):Ok e f (fun b=>if b=w.heap.size then some o else H b) B a (w.alloc o)/\Le H (fun b=>if b=w.heap.size then some o else H b):=by
 have hold:∀ b,b<w.heap.size->(w.alloc o).heap[b]?=w.heap[b]?:=fun b hb=>Below.heap_alloc w o b hb
 have hlt:∀ b x,H b=some x->b<w.heap.size:=fun b x hb=>(cH.1 (h.sat b x hb)).1
 have hle:Le H (fun b=>if b=w.heap.size then some o else H b):=by
  intro b x hb
  have:=hlt b x hb
  have hne:b≠w.heap.size:=by omega
  simp [hne,hb]
 refine ⟨⟨h.df,h.n,⟨h.ext.os,h.ext.tape,h.ext.output,?_,?_⟩,?_,fun t v hv=>VR.mono hle (fun _ _=>rfl) (h.slot t v hv),?_,?_,h.inj,?_,h.le.trans hle,h.keep,h.tab⟩,hle⟩
 ·have:=h.ext.size;simp;omega
 ·intro b hb hm;have:=h.ext.size;rw [hold b (by omega)];exact h.ext.block b hb hm
 ·intro b x hx
  by_cases e1:b=w.heap.size
  ·subst e1
   simp only [if_true] at hx
   rw [<- hx]
   exact heap_alloc_new w o
  ·simp only [if_neg e1] at hx
   rw [hold b (hlt b x hx)];exact h.sat b x hx
 ·intro n l hn
  exact LR.mono hle rfl (fun _ _=>rfl) (fun b c hb=>hold b (h.priv n l b c hn hb).1) (h.loc n l hn)
 ·intro n l b c hn hb
  obtain ⟨h1,h2,h3⟩:=h.priv n l b c hn hb
  exact ⟨by simp;omega,by simp only [if_neg (show b≠w.heap.size by omega)];exact h2,h3⟩
 ·intro b hb
  have:=h.ext.size
  simp only [if_neg (show b≠w.heap.size by omega)]
  exact h.low b hb
theorem rowAt_of {l:List Value} (hes:∀ r ∈ rows,r.length=es) (h:zb4 (CR H B) (rows.flatten.map C.d) l):RowAt H l es rows:=by
 intro i r hr f x hx
 have hf:f<es:=by rw [<- hes r (bL hr)];exact (bF.1 hx).1
 have e1:(rows.flatten.map C.d)[i*es+f]?=some (.d x):=by
  rw [bP,flat_at hes i f hf,hr];simp [hx]
 have hlt:i*es+f<l.length:=by rw [<- h.length];exact (bF.1 e1).1
 exact ⟨_,bG hlt,(zb4.iff.1 h).2 _ _ _ e1 (bG hlt)⟩
theorem Op.buildD {d len:Nat} {xs:List (Nat × Operand)} {vs:List (Nat × T)} {t:TypeId} {pos af gd} (hT:ElZ P t el es) (h:OPs xs vs rs) (hf:zjq (plS len 0 es) (List.replicate (len*es) .any) vs=some (rows.flatten.map C.d))
  (hlen:rows.length=len) (hes:∀ r ∈ rows,r.length=es) (hl0:0<len) (hsm:len*es<=16777216) :
  zb6 P ⟨some d,.buildSlice t len ⟨xs⟩,ty,pos,af,gd⟩ { rs:=rs,ws:=[(d,some (.t (.c (.d (.sl es rows)))))] }:=by
 rintro e f a w Q ⟨H,B,hok⟩ hr hnw hb0
 have hp:=h.eval hok hr.1
 obtain ⟨l,h1,h2⟩:=buildS_run (P:=P) hT hl0 hsm hp hf w
 obtain ⟨hok', hle⟩:=hok.newData (.cells ⟨l⟩ el)
 have hfl:rows.flatten.length=len*es:=by rw [zit hes,hlen]
 have hrow:DR (fun b=>if b=w.heap.size then some (.cells ⟨l⟩ el (0,0)) else H b) (.sl es rows) (.slice (some ⟨w.heap.size,0,none⟩) len len):=by
  have:=row_data (H:=fun b=>if b=w.heap.size then some (.cells ⟨l⟩ el (0,0)) else H b) (es:=es) (b:=w.heap.size) (c:=len) (arr:=l) (ty:=el) (rows:=rows) (if_pos rfl) (by omega) (by
   have:len*1<=len*es:=Nat.mul_le_mul_left _ hT.pos
   simp only [maxLen];omega) hes (fun i r hr f x hx=>by
    obtain ⟨u,k1,k2⟩:=rowAt_of hes h2 i r hr f x hx
    exact ⟨u,k1,k2.mono hle⟩)
  rwa [hlen] at this
 refine wp_of_run (d:=d) rfl ?_ ⟨_,B,hok'.put (x:=some (.t (.c (.d (.sl es rows))))) (hb0.1 (d,some (.t (.c (.d (.sl es rows))))) (by simp)) (zj0 f d _ _ rfl) (app0_l f _ rfl) (fun y hy=>by injection hy with hy;subst hy;exact hrow)⟩
 have e1:((⟨xs⟩:Array (Nat × Operand)).map fun x=>(x.1,a.eval x.2))=⟨xs.map fun p=>(p.1,a.eval p.2)⟩:=by simp
 simp only [execOp,e1,Sem.run_bind,h1,Result.andThen_ok,Sem.run_pure]
theorem Op.buildE {d:Nat} {t:TypeId} {pos af gd} (hT:ElZ P t el es) :
  zb6 P ⟨some d,.buildSlice t 0 #[],ty,pos,af,gd⟩ { ws:=[(d,some (.t (.c (.own n 0))))],wl:=[(n,some (.row el es []))],nw:=[n] }:=by
 refine zb6.news d n _ _ rfl rfl rfl (by simp) fun e f H B a w hok hr hn=>?_
 obtain ⟨i,z,hi,hz,hsz,hzs,hfl⟩:=hT.ex
 refine ⟨.slice (some ⟨w.heap.size,0,none⟩) 0 0,0,.cells #[] el,?_,?_,?_⟩
 ·have:(Instr.buildSlice t 0 #[]).run P w = .ok (.slice (some ⟨w.heap.size,0,none⟩) 0 0) (w.alloc (.cells #[] el)):=by
   simp [Instr.buildSlice,run_underlying hT.hu,sizeOf,typeInfo,hi,Instr.fill,newRow]
   exact congrArg (fun x=>w.alloc (.cells x el)) (Array.ext' (by simp))
  simp [execOp,this]
 ·simp only [LR,if_true]
  exact ⟨[],heap_alloc_new w _,by simp,bZ _,bJ _,by simp,by simp [zb4]⟩
 ·simp [VR,TR,CR]
theorem Op.buildED {d:Nat} {t:TypeId} {pos af gd} (hT:ElZ P t el es) :
  zb6 P ⟨some d,.buildSlice t 0 #[],ty,pos,af,gd⟩ { ws:=[(d,some (.t (.c (.d (.sl es [])))))] }:=by
 rintro e f a w Q ⟨H,B,hok⟩ hr hnw hb0
 obtain ⟨i,z,hi,hz,hsz,hzs,hfl⟩:=hT.ex
 have hrun:(Instr.buildSlice t 0 #[]).run P w = .ok (.slice (some ⟨w.heap.size,0,none⟩) 0 0) (w.alloc (.cells #[] el)):=by
  simp [Instr.buildSlice,run_underlying hT.hu,sizeOf,typeInfo,hi,Instr.fill,newRow]
  exact congrArg (fun x=>w.alloc (.cells x el)) (Array.ext' (by simp))
 obtain ⟨hok', _⟩:=hok.newData (.cells #[] el)
 have hrow:DR (fun b=>if b=w.heap.size then some (.cells #[] el (0,0)) else H b) (.sl es []) (.slice (some ⟨w.heap.size,0,none⟩) 0 0):=DR.nil es _ 0 (fun h=>by cases h) (bJ _)
 refine wp_of_run (d:=d) rfl ?_ ⟨_,B,hok'.put (x:=some (.t (.c (.d (.sl es []))))) (hb0.1 (d,some (.t (.c (.d (.sl es []))))) (by simp)) (zj0 f d _ _ rfl) (app0_l f _ rfl) (fun y hy=>by injection hy with hy;subst hy;exact hrow)⟩
 simp [execOp,hrun]
end
theorem bD (d:Nat) (rows:List (List D)) {xs:List (Nat × Operand)} {vs:List (Nat × T)} (rs:List (Nat × V)) {t:TypeId} {pos af gd} (hT:ElZ P t el es) (h:OPs xs vs rs) (hf:zjq (plS 1 0 es) (List.replicate (1*es) .any) vs=some (rows.flatten.map C.d)) (hes:∀ r ∈ rows,r.length=es) (hlen:rows.length=1:=by exact rfl) (hsm:1*es<=16777216:=by decide) :
    zb6 P ⟨some d,.buildSlice t 1 ⟨xs⟩,ty,pos,af,gd⟩ { rs:=rs,ws:=[(d,some (.t (.c (.d (.sl es rows)))))] }:=Op.buildD hT h hf hlen hes (by decide) hsm
end S
def sgn (z:Int):Int:=if z<0 then -1 else if 0<z then 1 else 0
def zel (x y:Int):Int:=if x<y then -1 else if y<x then 1 else 0
theorem zhw (h:z<0):sgn z=-1:=by unfold sgn;rw [if_pos h]
theorem sgn_pos (h:0<z):sgn z=1:=by unfold sgn;rw [if_neg (by omega),if_pos h]
theorem zic (h:z=0):sgn z=0:=by subst h;rfl
theorem sgn_range (z:Int):-1<=sgn z/\sgn z<=1:=by unfold sgn;split;omega;split <;> omega
theorem zhx:sgn z<0 ↔ z<0:=by unfold sgn;split;omega;split <;> omega
theorem cmpZ_sgn (x y:Int):sgn (x - y)=zel x y:=by unfold sgn zel;split <;> split <;> (try split) <;> (try split) <;> omega
theorem zf5 {x y:Int} (h:y<x):zel x y=1:=by unfold zel;rw [if_neg (by omega),if_pos h]
namespace S
variable {xs ys zs n1:List Nat} {α:Type} {i m b o k:Nat} {v:Value} {w:World}
def fam0tb:Tb:=[(4,⟨1,false,[],[.d (.raw (.bool false))],3⟩),(26,⟨1,false,[],[.d (nsl [])],1⟩),(28,⟨2,true,[(0,1,false),(1,1,false)],[.d (.raw (.bool false)),.d (nsl [])],0⟩),(2,⟨1,false,[],[.d (.raw (.int .i64 0))],13⟩),(190,⟨1,false,[],[.d (.raw (.int .u64 0))],17⟩),(142,⟨1,false,[],[.d (.raw (.int .u32 0))],16⟩),(24,⟨1,false,[],[.d (.raw zaa)],1⟩),(30,⟨3,true,[(0,1,false),(1,2,true)],[.d (.raw zaa),.d (.raw (.bool false)),.d (nsl [])],0⟩),(3,⟨1,false,[],[.d (.raw (.int .i64 0))],13⟩),(132,⟨3,true,[(0,1,false),(1,2,true)],[.d (.raw (.int .i64 0)),.d (.raw (.bool false)),.d (nsl [])],0⟩),(44,⟨1,false,[],[.d (.raw zaa)],1⟩),(207,⟨1,false,[],[.d (.raw (.int .u64 0))],17⟩),(45,⟨1,false,[],[.d (.raw zaa)],1⟩),(32,⟨4,true,[(0,3,true),(3,1,false)],[.d (.raw zaa),.d (.raw (.bool false)),.d (nsl []),.d (.raw (.bool false))],0⟩),(33,⟨1,false,[],[.d (.raw zaa)],1⟩),(35,⟨6,true,[(0,1,false),(1,4,true),(5,1,false)],[.d (.raw (.int .i64 0)),.d (.raw zaa),.d (.raw (.bool false)),.d (nsl []),.d (.raw (.bool false)),.d (.raw zaa)],0⟩),(202,⟨1,false,[],[.d (.raw zaa)],1⟩),(194,⟨1,false,[],[.d (.raw .nilFunc)],4⟩),(89,⟨5,true,[(0,1,false),(1,2,true),(3,2,true)],[.d (.raw (.bool false)),.d (.raw (.bool false)),.d (nsl []),.d (.raw (.bool false)),.d (nsl [])],0⟩),(22,⟨1,false,[],[.d (.raw zaa)],1⟩),(23,⟨1,false,[],[.d (.raw zaa)],1⟩),(36,⟨1,false,[],[.d (.raw zaa)],1⟩),(37,⟨1,false,[],[.d (.raw zaa)],1⟩),(39,⟨10,true,[(0,1,false),(1,1,false),(2,6,true),(8,1,false),(9,1,false)],[.d (.raw zaa),.d (.raw zaa),.d (.raw (.int .i64 0)),.d (.raw zaa),.d (.raw (.bool false)),.d (nsl []),.d (.raw (.bool false)),.d (.raw zaa),.d (.raw zaa),.d (.raw zaa)],0⟩),(47,⟨2,true,[(0,1,false),(1,1,false)],[.d (.raw zaa),.d (.raw zaa)],0⟩),(9,⟨1,false,[],[.d (.raw (.string ByteArray.empty))],2⟩),(91,⟨1,false,[],[.d (.raw zaa)],1⟩),(93,⟨3,true,[(0,1,false),(1,1,false),(2,1,false)],[.d (.raw (.string ByteArray.empty)),.d (.raw zaa),.d (.raw zaa)],0⟩),(94,⟨1,false,[],[.d (.raw zaa)],1⟩),(96,⟨10,true,[(0,1,false),(1,1,false),(2,1,false),(3,6,true),(9,1,false)],[.d (.raw (.int .i64 0)),.d (.raw (.int .i64 0)),.d (.raw (.int .i64 0)),.d (.raw (.int .i64 0)),.d (.raw zaa),.d (.raw (.bool false)),.d (nsl []),.d (.raw (.bool false)),.d (.raw zaa),.d (.raw zaa)],0⟩),(105,⟨5,true,[(0,1,false),(1,1,false),(2,3,true)],[.d (.raw (.int .i64 0)),.d (.raw (.bool false)),.d (.raw zaa),.d (.raw (.bool false)),.d (nsl [])],0⟩),(159,⟨1,false,[],[.d (.raw .nilFunc)],4⟩),(42,⟨1,false,[],[.d (.raw zaa)],1⟩),(67,⟨3,true,[(0,1,false),(1,1,false),(2,1,false)],[.d (.raw zaa),.d (.raw zaa),.d (.raw zaa)],0⟩),(110,⟨9,true,[(0,1,false),(1,1,false),(2,1,false),(3,6,true)],[.d (.raw (.bool false)),.d (.raw (.int .i64 0)),.d (.raw (.int .i64 0)),.d (.raw (.int .i64 0)),.d (.raw zaa),.d (.raw (.bool false)),.d (nsl []),.d (.raw (.bool false)),.d (.raw zaa)],0⟩),(57,⟨1,false,[],[.d (.raw zaa)],1⟩),(181,⟨1,false,[],[.d (.raw zaa)],1⟩),(183,⟨2,true,[(0,1,false),(1,1,false)],[.d (.raw zaa),.d (.raw zaa)],0⟩),(59,⟨1,false,[],[.d (.raw zaa)],1⟩),(98,⟨1,false,[],[.d (.raw zaa)],1⟩),(56,⟨3,true,[(0,1,false),(1,2,true)],[.d (.raw (.int .i64 0)),.d (.raw zaa),.d (.raw zaa)],0⟩),(52,⟨1,false,[],[.d (.raw zaa)],1⟩),(58,⟨1,false,[],[.d (.raw zaa)],1⟩),(61,⟨3,true,[(0,1,false),(1,1,false),(2,1,false)],[.d (.raw zaa),.d (.raw zaa),.d (.raw zaa)],0⟩),(114,⟨1,false,[],[.d (.raw (.map none))],4⟩),(115,⟨1,false,[],[.d (.raw (.map none))],4⟩),(116,⟨1,false,[],[.d (.raw (.map none))],4⟩),(118,⟨20,true,[(0,10,true),(10,1,false),(11,3,true),(14,1,false),(15,1,false),(16,1,false),(17,1,false),(18,1,false),(19,1,false)],[.d (.raw zaa),.d (.raw zaa),.d (.raw (.int .i64 0)),.d (.raw zaa),.d (.raw (.bool false)),.d (nsl []),.d (.raw (.bool false)),.d (.raw zaa),.d (.raw zaa),.d (.raw zaa),.d (.raw zaa),.d (.raw zaa),.d (.raw zaa),.d (.raw zaa),.d (.raw (.int .i64 0)),.d (.raw (.bool false)),.d (.raw (.map none)),.d (.raw (.map none)),.d (.raw (.map none)),.d (.raw (.map none))],0⟩),(121,⟨2,true,[(0,1,false),(1,1,false)],[.d (.raw (.int .i64 0)),.d (.raw (.int .i64 0))],0⟩),(171,⟨3,true,[(0,1,false),(1,2,true)],[.d (.raw (.int .i64 0)),.d (.raw (.int .i64 0)),.d (.raw (.int .i64 0))],0⟩),(122,⟨1,false,[],[.d (.raw zaa)],1⟩),(174,⟨1,false,[],[.d (.raw zaa)],1⟩),(176,⟨4,true,[(0,2,true),(2,1,false),(3,1,false)],[.d (.raw (.int .i64 0)),.d (.raw (.int .i64 0)),.d (.raw zaa),.d (.raw (.int .i64 0))],0⟩),(84,⟨1,false,[],[.d (.raw .nilFunc)],4⟩),(108,⟨3,true,[(0,1,false),(1,1,false),(2,1,false)],[.d (.raw zaa),.d (.raw zaa),.d (.raw zaa)],0⟩),(69,⟨5,true,[(0,1,false),(1,3,true),(4,1,false)],[.d (.raw (.int .i64 0)),.d (.raw zaa),.d (.raw zaa),.d (.raw zaa),.d (.raw (.int .i64 0))],0⟩),(72,⟨1,false,[],[.d (.raw zaa)],1⟩),(74,⟨3,true,[(0,1,false),(1,1,false),(2,1,false)],[.d (.raw zaa),.d (.raw zaa),.d (.raw zaa)],0⟩),(128,⟨3,true,[(0,1,false),(1,1,false),(2,1,false)],[.d (.raw zaa),.d (.raw zaa),.d (.raw zaa)],0⟩)]
theorem zb0:zj5 dY fam0tb:=tbB_spec (by kernel_rfl)
theorem zgt:Sz dY 28 2 true:=Sz.mk' (by kernel_rfl) Tryz.underlying28 _ rfl
theorem nadd_lt (hx:Lb xs) (hy:Lb ys):nV xs+nV ys<pw (xs.length+ys.length+1):=zhc hx hy (by omega) (by omega)
theorem nmul_lt (hx:Lb xs) (hy:Lb ys):nV xs*nV ys<pw (xs.length+ys.length):=zcy (zce hx) (zce hy)
theorem iv_not (s:Bool) (zs:List Nat):iv (!s) zs=-iv s zs:=by cases s <;> simp [iv]
theorem iv_of {s:Bool} {us:List Nat} (h:nV zs=nV us):iv s zs=iv s us:=by unfold iv;rw [h]
theorem from_true (e:n1=lbs (nV zs)):(⟨decide ((n1.length:Int)>0),n1⟩:ZI)=d3 (iv true zs):=by
 subst e
 refine ZI.of_eq ⟨zf0 _,fun h=>by simp [h]⟩ ?_
 by_cases h:(lbs (nV zs)).length=0
 ·have h1:=b7.1 h
  have h2:=zez (nV zs)
  rw [h1] at h2 ⊢
  rw [iv_nil];unfold iv;rw [<- h2];rfl
 ·have h1:((lbs (nV zs)).length:Int)>0:=by omega
  simp only [h1,decide_true]
  exact iv_of (zez _)
theorem from_false (e:n1=lbs (nV zs)):(⟨false,n1⟩:ZI)=d3 (iv false zs):=by
 subst e
 exact ZI.of_eq ⟨zf0 _,fun _=>rfl⟩ (iv_of (zez _))
theorem from_some {s:Bool} (e:n1=lbs (nV zs)) (h:n1.length≠0):(⟨s,n1⟩:ZI)=d3 (iv s zs):=by
 subst e
 exact ZI.of_eq ⟨zf0 _,fun h0=>absurd h0 h⟩ (iv_of (zez _))
theorem from_none {s:Bool} (e:n1=lbs (nV zs)) (h:n1.length=0):(⟨false,[]⟩:ZI)=d3 (iv s zs):=by
 subst e
 have h1:=b7.1 h
 have h2:=zez (nV zs)
 rw [h1] at h2
 have:iv s zs=0:=by unfold iv;rw [<- h2];cases s <;> rfl
 rw [this];rfl
theorem zke (s:Bool) (zs:List Nat) (hz:Lb zs) (lz:zs.length<=100000):Fn dY 87 [] [vb s,vn zs] (vz (d3 (iv s zs))) []:=by
 refine fB Tryz.func87 rfl 15 fun w H B a h=>Jq 0 [] [(0,vb s),(1,vn zs),(4,vp 0 0)] [(0,.box [.d (.raw (.bool false)),.d (nsl [])])] h fun a w h=>?_
 obtain ⟨n1,en1,vn1,on1,ln1⟩:=mkN (v:=nV zs) (m:=zs.length) (zce hz);refine Je 1 [(1,.call (dZ (SnTrim zs hz (by omega)) (congrArg vn en1.symm)))] [] [(1,vn n1)] h fun a w h=>?_
 rcases dU s with hc1 | hc2
 ·rw [hc1] at h;refine Jq 1 [(3,.len (zgf n1))] [(4,vp 0 0)] [(0,.box [.d (.raw (.bool (decide ((n1.length:Int)>0)))),.d (nsl n1)])] h fun a w h=>qV (rA 0 [.d (.raw (.bool (decide ((n1.length:Int)>0)))),.d (nsl n1)] h zgt rfl ?_);rw [hc1,<- from_true en1];try rfl
 rw [hc2] at h;refine Jq 1 [] [(4,vp 0 0)] [(0,.box [.d (.raw (.bool false)),.d (nsl n1)])] h fun a w h=>qV (rA 0 [.d (.raw (.bool false)),.d (nsl n1)] h zgt rfl ?_);rw [hc2,<- from_false en1];try rfl
theorem zj3 (s:Bool) (zs:List Nat) (hz:Lb zs) (lz:zs.length<=100000):Fn dY 64 [] [vb s,vn zs] (vz (d3 (iv s zs))) []:=by
 refine fB Tryz.func64 rfl 15 fun w H B a h=>Jq 0 [] [(0,vb s),(1,vn zs),(4,vp 0 0)] [(0,.box [cB false,.d (nsl [])])] h fun a w h=>?_
 obtain ⟨n1,en1,vn1,on1,ln1⟩:=mkN (v:=nV zs) (m:=zs.length) (zce hz);refine Je 1 [(1,.call (dZ (SRnTrim zs hz (by omega)) (congrArg vn en1.symm)))] [1] [(5,vn n1)] h fun a w h=>qW (Je 1 [(1,.len (zgf n1))] [] [(10,vb ((n1.length:Int) == 0))] h fun a w h=>cS ((n1.length:Int) == 0) h (fun hc1=>?_) (fun hc2=>?_))
 ·refine Je 1 [] [10] [] h fun a w h=>qV (za2 (rA 0 [cB false,.d (nsl [])] h zgt rfl ?_));rw [<- from_none en1 (by simpa using hc1)];try rfl
 refine qU (za0 (Jq 1 [] [(4,vp 0 0)] [(0,.box [cB s,.d (nsl n1)])] h fun a w h=>qV (rA 0 [cB s,.d (nsl n1)] h zgt rfl ?_)));rw [<- from_some en1 (by simpa using hc2)];try rfl
theorem SClean (x:ZI) (hx:Lb x.abs) (lx:x.abs.length<=100000):Fn dY 111 [] [vz x] (vz (d3 (x.val))) []:=by
 refine fB Tryz.func111 rfl 8 fun w H B a h=>Jq 0 [] [(1,vp 0 0),(2,vp 1 0)] [(0,.box (zi x)),(1,.box [cB false,.d (nsl [])])] h fun a w h=>?_
 obtain ⟨r1,er1,vr1,or1,lr1⟩:=mkZ (v:=iv x.neg x.abs) (m:=x.abs.length) (zdt hx);refine Jd 2 [(4,.call (dZ (zke x.neg x.abs hx (by omega)) (congrArg vz er1.symm)))] [1] [] [(1,.box (zi r1))] h fun a w h=>qV (rA 1 (zi r1) h zgt rfl ?_);rw [er1];try rfl
theorem SRClean (x:ZI) (hx:Lb x.abs) (lx:x.abs.length<=100000):Fn dY 91 [] [vz x] (vz (d3 (x.val))) []:=by
 refine fB Tryz.func91 rfl 8 fun w H B a h=>Jq 0 [] [(1,vp 0 0),(2,vp 1 0)] [(0,.box (zi x)),(1,.box [cB false,.d (nsl [])])] h fun a w h=>?_
 obtain ⟨r1,er1,vr1,or1,lr1⟩:=mkZ (v:=iv x.neg x.abs) (m:=x.abs.length) (zdt hx);refine Jd 2 [(4,.call (dZ (zj3 x.neg x.abs hx (by omega)) (congrArg vz er1.symm)))] [1] [] [(1,.box (zi r1))] h fun a w h=>qV (rA 1 (zi r1) h zgt rfl ?_);rw [er1];try rfl
theorem SNeg (x:ZI) (hx:Lb x.abs) (lx:x.abs.length<=100000):Fn dY 112 [] [vz x] (vz (d3 (-x.val))) []:=by
 refine fB Tryz.func112 rfl 9 fun w H B a h=>Jq 0 [] [(1,vp 0 0),(2,vp 1 0)] [(0,.box (zi x)),(1,.box [cB false,.d (nsl [])])] h fun a w h=>?_
 obtain ⟨r1,er1,vr1,or1,lr1⟩:=mkZ (v:=iv (!x.neg) x.abs) (m:=x.abs.length) (zdt hx);refine Jd 2 [(5,.call (dZ (zke (!x.neg) x.abs hx (by omega)) (congrArg vz er1.symm)))] [1] [] [(1,.box (zi r1))] h fun a w h=>qV (rA 1 (zi r1) h zgt rfl ?_);rw [er1,iv_not];try rfl
theorem SRNeg (x:ZI) (hx:Lb x.abs) (lx:x.abs.length<=100000):Fn dY 120 [] [vz x] (vz (d3 (-x.val))) []:=by
 refine fB Tryz.func120 rfl 9 fun w H B a h=>Jq 0 [] [(1,vp 0 0),(2,vp 1 0)] [(0,.box (zi x)),(1,.box [cB false,.d (nsl [])])] h fun a w h=>?_
 obtain ⟨r1,er1,vr1,or1,lr1⟩:=mkZ (v:=iv (!x.neg) x.abs) (m:=x.abs.length) (zdt hx);refine Jd 2 [(5,.call (dZ (zj3 (!x.neg) x.abs hx (by omega)) (congrArg vz er1.symm)))] [1] [] [(1,.box (zi r1))] h fun a w h=>qV (rA 1 (zi r1) h zgt rfl ?_);rw [er1,iv_not];try rfl
theorem sign_neg {x r:ZI} (e:r=d3 x.val) (h:r.neg=true):(-1:Int)=sgn x.val:=by
 rw [e] at h;exact (zhw (of_decide_eq_true h)).symm
theorem sign_pos {x r:ZI} (e:r=d3 x.val) (h:r.neg=false) (hl:(r.abs.length:Int)>0):(1:Int)=sgn x.val:=by
 rw [e] at h hl
 have h1:¬ x.val<0:=of_decide_eq_false h
 have h2:x.val≠0:=fun h0=>by have:=ZI.abs_nil.2 h0;omega
 exact (sgn_pos (by omega)).symm
theorem sign_zero {x r:ZI} (e:r=d3 x.val) (hl:¬ (r.abs.length:Int)>0):(0:Int)=sgn x.val:=by
 rw [e] at hl
 exact (zic (ZI.abs_nil.1 (by omega))).symm
theorem SSign (x:ZI) (hx:Lb x.abs) (lx:x.abs.length<=100000):Fn dY 127 [] [vz x] (vI (sgn x.val)) []:=by
 refine fB Tryz.func127 rfl 13 fun w H B a h=>Jq 0 [] [(1,vp 0 0),(2,vI 0)] [(0,.box (zi x))] h fun a w h=>?_
 obtain ⟨r1,er1,vr1,or1,lr1⟩:=mkZ (v:=x.val) (m:=x.abs.length) (zhu hx);refine Jg 1 [(1,.call (dZ (SClean x hx (by omega)) (congrArg vz er1.symm)))] [] [] [] [(0,.box (zi r1))] h fun a w h=>qW (qZ (Je 1 [] [] [(5,vb r1.neg)] h fun a w h=>cS r1.neg h (fun hc1=>?_) (fun hc2=>?_)))
 ·refine Jq 1 [] [(2,vI (-1))] [] h fun a w h=>qV (za6 (za2 (rT (.c (cI (-1))) h rfl ?_)));rw [<- sign_neg er1 hc1];try rfl
 refine Jd 1 [(2,.len (zgf r1.abs))] [1,5] [(8,vb (decide ((r1.abs.length:Int)>0)))] [] h fun a w h=>zag ((r1.abs.length:Int)>0) h (fun hc3 hc3'=>?_) (fun hc4 hc4'=>?_)
 ·refine Jq 1 [] [(2,vI 1)] [] h fun a w h=>qV (za6 (za2 (rT (.c (cI 1)) h rfl ?_)));rw [<- sign_pos er1 hc2 hc3'];try rfl
 refine qU (za5 (za0 (Jg 1 [] [8] [] [] [] h fun a w h=>qV (rT (.c (cI 0)) h rfl ?_))));rw [<- sign_zero er1 hc4'];try rfl
theorem rsign {x:ZI} (e:n1=lbs (nV x.abs)):(n1.length=0->(0:Int)=sgn x.val)/\(n1.length≠0->x.neg=true->(-1:Int)=sgn x.val)/\(n1.length≠0->x.neg=false->(1:Int)=sgn x.val):=by
 have hv:=zez (nV x.abs)
 have hz:n1.length=0 ↔ nV x.abs=0:=by
  subst e
  constructor
  ·intro h;rw [b7.1 h] at hv;exact hv.symm
  ·intro h;rw [h];rfl
 unfold ZI.val
 refine ⟨fun h=>?_,fun h k=>?_,fun h k=>?_⟩
 ·rw [zic (by unfold iv;rw [hz.1 h];cases x.neg <;> rfl)]
 ·rw [zhw (by unfold iv;rw [k];have:=mt hz.2 h;simp;omega)]
 ·rw [sgn_pos (by unfold iv;rw [k];have:=mt hz.2 h;simp;omega)]
theorem zdv (x:ZI) (hx:Lb x.abs) (lx:x.abs.length<=100000):Fn dY 71 [] [vz x] (vI (sgn x.val)) []:=by
 refine fB Tryz.func71 rfl 10 fun w H B a h=>Jq 0 [] [(1,vp 0 0),(2,vI 0)] [(0,.box (zi x))] h fun a w h=>qW ?_
 obtain ⟨n1,en1,vn1,on1,ln1⟩:=mkN (v:=nV x.abs) (m:=x.abs.length) (zce hx);refine Je 1 [(2,.call (dZ (SRnTrim x.abs hx (by omega)) (congrArg vn en1.symm))),(3,.len (zgf n1))] [] [(7,vb ((n1.length:Int) == 0))] h fun a w h=>cS ((n1.length:Int) == 0) h (fun hc1=>?_) (fun hc2=>?_)
 ·refine Je 1 [] [7] [] h fun a w h=>qV (za2 (rT (.c (cI 0)) h rfl ?_));rw [<- (rsign en1).1 (by simpa using hc1)];try rfl
 refine qU (za0 (qW (Jd 1 [] [1,7] [(9,vb x.neg)] [] h fun a w h=>cS x.neg h (fun hc3=>?_) (fun hc4=>?_))))
 ·refine Jq 1 [] [(2,vI (-1))] [] h fun a w h=>qV (za2 (rT (.c (cI (-1))) h rfl ?_));rw [<- (rsign en1).2.1 (by simpa using hc2) hc3];try rfl
 refine qU (za0 (Jq 1 [] [(2,vI 1)] [] h fun a w h=>qV (rT (.c (cI 1)) h rfl ?_)));rw [<- (rsign en1).2.2 (by simpa using hc2) hc4];try rfl
theorem iv_same {s:Bool} {n:List Nat} (h:nV n=nV xs+nV ys):iv s n=iv s xs+iv s ys:=by unfold iv;rw [h];cases s <;> simp <;> omega
theorem iv_ge {s t:Bool} {n:List Nat} (hne:s≠t) (hle:nV ys<=nV xs) (h:nV n=nV xs - nV ys):iv s n=iv s xs+iv t ys:=by unfold iv;rw [h];cases s <;> cases t <;> simp_all <;> omega
theorem iv_lt {s t:Bool} {n:List Nat} (hne:s≠t) (hle:nV xs<=nV ys) (h:nV n=nV ys - nV xs):iv t n=iv s xs+iv t ys:=by unfold iv;rw [h];cases s <;> cases t <;> simp_all <;> omega
theorem iv_times {s t:Bool} {n:List Nat} (h:nV n=nV xs*nV ys):iv (s != t) n=iv s xs*iv t ys:=by unfold iv;rw [h,dI];cases s <;> cases t <;> simp [Int.neg_mul,Int.mul_neg]
theorem SAdd (x y:ZI) (hx:Lb x.abs) (hy:Lb y.abs) (lx:x.abs.length<=49000) (ly:y.abs.length<=49000):Fn dY 60 [] [vz x,vz y] (vz (d3 (x.val+y.val))) []:=by
 refine fB Tryz.func60 rfl 47 fun w H B a h=>Jq 0 [] [(2,vp 0 0),(3,vp 1 0),(4,vp 2 0)] [(0,.box (zi x)),(1,.box (zi y)),(2,.box [cB false,.d (nsl [])])] h fun a w h=>qW (Je 3 [] [] [(13,vb (x.neg == y.neg))] h fun a w h=>cS (x.neg == y.neg) h (fun hc1=>?_) (fun hc2=>?_))
 ·obtain ⟨n1,en1,vn1,on1,ln1⟩:=mkN (v:=nV x.abs+nV y.abs) (m:=x.abs.length+y.abs.length+1) (nadd_lt hx hy);obtain ⟨r2,er2,vr2,or2,lr2⟩:=mkZ (v:=iv x.neg n1) (m:=n1.length) (zdt on1);refine Jg 3 [(6,.call (dZ (SnAdd x.abs y.abs hx hy (by omega) (by omega)) (congrArg vn en1.symm))),(7,.call (dZ (zke x.neg n1 on1 (by omega)) (congrArg vz er2.symm)))] [13] [] [] [(2,.box (zi r2))] h fun a w h=>qV (za2 (rA 2 (zi r2) h zgt rfl ?_));have e1:x.neg=y.neg:=by simpa using hc1
  rw [er2,iv_same vn1];show vz (d3 (iv x.neg x.abs+iv x.neg y.abs))=vz (d3 (iv x.neg x.abs+iv y.neg y.abs));rw [e1]
 refine qU (za0 (qW ?_));obtain ⟨n3,en3,vn3,on3,ln3⟩:=mkN (v:=nV x.abs - nV y.abs) (m:=x.abs.length) (cV (cW _ _) (zce hx));refine Je 3 [(4,.call (dZ (SnSub x.abs y.abs hx hy (by omega) (by omega)) (show _=(.tup [.c (.d (nsl n3)),.c (cB (decide (nV y.abs<=nV x.abs)))]:V) by rw [en3])))] [13] [(5,vn n3),(6,vb (decide (nV y.abs<=nV x.abs)))] h fun a w h=>Je 3 [] [6] [(30,vb (decide (nV y.abs<=nV x.abs)))] h fun a w h=>zag (nV y.abs<=nV x.abs) h (fun hc3 hc3'=>?_) (fun hc4 hc4'=>?_)
 ·obtain ⟨r4,er4,vr4,or4,lr4⟩:=mkZ (v:=iv x.neg n3) (m:=n3.length) (zdt on3);refine Jg 3 [(3,.call (dZ (zke x.neg n3 on3 (by omega)) (congrArg vz er4.symm)))] [5,30] [] [] [(2,.box (zi r4))] h fun a w h=>qV (za2 (rA 2 (zi r4) h zgt rfl ?_));rw [er4,iv_ge (t:=y.neg) (ys:=y.abs) (by simpa using hc2) hc3' vn3];try rfl
 refine qU (za0 ?_);obtain ⟨n5,en5,vn5,on5,ln5⟩:=mkN (v:=nV y.abs - nV x.abs) (m:=y.abs.length) (cV (cW _ _) (zce hy));refine Jg 3 [(4,.call (dZ (SnSub y.abs x.abs hy hx (by omega) (by omega)) (show _=(.tup [.c (.d (nsl n5)),.c (cB (decide (nV x.abs<=nV y.abs)))]:V) by rw [en5])))] [2,5,30] [(7,vn n5)] [0] [] h fun a w h=>?_;obtain ⟨r6,er6,vr6,or6,lr6⟩:=mkZ (v:=iv y.neg n5) (m:=n5.length) (zdt on5);refine Jq 3 [(3,.call (dZ (zke y.neg n5 on5 (by omega)) (congrArg vz er6.symm)))] [(4,vp 2 0)] [(2,.box (zi r6))] h fun a w h=>qV (rA 2 (zi r6) h zgt rfl ?_);rw [er6,iv_lt (s:=x.neg) (xs:=x.abs) (by simpa using hc2) (by have:=hc4';omega) vn5];try rfl
theorem SMul (x y:ZI) (hx:Lb x.abs) (hy:Lb y.abs) (lx:x.abs.length<=49000) (ly:y.abs.length<=49000):Fn dY 145 [] [vz x,vz y] (vz (d3 (x.val*y.val))) []:=by
 refine fB Tryz.func145 rfl 16 fun w H B a h=>Jq 0 [] [(2,vp 0 0),(3,vp 1 0),(4,vp 2 0)] [(0,.box (zi x)),(1,.box (zi y)),(2,.box [cB false,.d (nsl [])])] h fun a w h=>?_
 obtain ⟨n1,en1,vn1,on1,ln1⟩:=mkN (v:=nV x.abs*nV y.abs) (m:=x.abs.length+y.abs.length) (nmul_lt hx hy);obtain ⟨r2,er2,vr2,or2,lr2⟩:=mkZ (v:=iv (x.neg != y.neg) n1) (m:=n1.length) (zdt on1);refine Jq 3 [(9,.call (dZ (SnMul x.abs y.abs hx hy (by omega) (by omega)) (congrArg vn en1.symm))),(10,.call (dZ (zke (x.neg != y.neg) n1 on1 (by omega)) (congrArg vz er2.symm)))] [(4,vp 2 0)] [(2,.box (zi r2))] h fun a w h=>qV (rA 2 (zi r2) h zgt rfl ?_);rw [er2,iv_times vn1];try rfl
def za8 (v:Int):List D:=[.raw (.int .i64 v)]
def ziD (x:ZI):List D:=[.raw (.bool x.neg),nsl x.abs]
def zdz (x:ByteArray):List D:=[.raw (.string x)]
def za3 (x:Bool):List D:=[.raw (.bool x)]
def slD {α:Type} (es:Nat) (f:α->List D) (xs:List α):List D:=[.sl es (xs.map f)]
theorem za4 {β:Type} {xs:List α} {x:α} (h:xs[i]?=some x) {f:α->β}:(xs.map f)[i]?=some (f x):=by rw [bP,h];rfl
theorem za1 (es:Nat) (f:α->List D) (xs:List α):lenC (.d (.sl es (xs.map f)))=some xs.length:=by simp [lenC]
def vd (l:List D):V:=.t (.agg (l.map C.d))
structure zbe where
  v:Int
  c:ZI
def zbe.d (x:zbe):List D:=[.raw (.int .i64 x.v),.raw (.bool x.c.neg),nsl x.c.abs]
structure zd6 where
  parts:List zbe
  k:ZI
def zd6.d (x:zd6):List D:=[.sl 3 (x.parts.map zbe.d),.raw (.bool x.k.neg),nsl x.k.abs]
abbrev zT (x:zd6):List C:=[.d (.sl 3 (x.parts.map zbe.d))]++zi x.k
abbrev vT (x:zd6):V:=.t (.agg (zT x))
abbrev vPs (x:List zbe):V:=.t (.c (.d (.sl 3 (x.map zbe.d))))
abbrev vIs (x:List Int):V:=.t (.c (.d (.sl 1 (x.map za8))))
abbrev vZs (x:List ZI):V:=.t (.c (.d (.sl 2 (x.map ziD))))
abbrev cPs (x:List zbe):C:=.d (.sl 3 (x.map zbe.d))
abbrev cIs (x:List Int):C:=.d (.sl 1 (x.map za8))
abbrev cZs (x:List ZI):C:=.d (.sl 2 (x.map ziD))
section
open Go.RowKit Go.WideShapes
def all (w:World):Im:=fun b=>w.heap[b]?
def zfk (w:World) (n:Nat) (t:TypeId) {α:Type} (f:α->List D) (good:α->Prop):Prop :=
  ∀ (H:Type) (enc:TypeId × Value->H) (base:Nat) (spare:Nat->Bool) (held:Bool) (fuel:Nat) (cs:List Value) (x:DataW H × List MemPlace),fuel<=n->DataW.trod enc dY w base spare held fuel t cs=some x->∃ a:α,good a/\zb4 (DR (all w)) (f a) cs
section
variable {w:World} {n:Nat} {t:TypeId} {α β:Type} {f:α->List D} {good:α->Prop}
theorem zfk.zero:zfk w 0 t f good:=fun H enc base spare held fuel cs x hn h=>by
 obtain rfl:fuel=0:=by omega
 simp [DataW.trod] at h
theorem zfk.mono (h:zfk w n t f good) (hm:m<=n):zfk w m t f good:=fun H enc base spare held fuel cs x hn hx=>h H enc base spare held fuel cs x (by omega) hx
theorem zfk.map {f':β->List D} {good':β->Prop} (h:zfk w n t f good) (g:α->β) (hf:∀ a,f' (g a)=f a) (hg:∀ a,good a->good' (g a)):zfk w n t f' good':=fun H enc base spare held fuel cs x hn hx=>by
 obtain ⟨a,h1,h2⟩:=h H enc base spare held fuel cs x hn hx
 exact ⟨g a,hg a h1,by rw [hf];exact h2⟩
theorem rep_int {k:IntKind} (hu:Tryz.prog.underlying t=some (.int k)):zfk w n t (fun v:Int=>[.raw (.int k v)]) (fun v=>(Lit.int k v).wf=true):=fun H enc base spare held fuel cs x hn hx=>by
 obtain ⟨v,rfl,_,hw⟩:=DataW.trod_int hu hx
 exact ⟨v,hw,DR.raw _ rfl,trivial⟩
theorem zhj (hu:Tryz.prog.underlying t=some .bool):zfk w n t za3 (fun _=>True):=fun H enc base spare held fuel cs x hn hx=>by
 obtain ⟨v,rfl,_⟩:=DataW.trod_bool hu hx
 exact ⟨v,trivial,DR.raw _ rfl,trivial⟩
theorem rep_str (hu:Tryz.prog.underlying t=some .string):zfk w n t zdz (fun s=>s.size<=maxLen):=fun H enc base spare held fuel cs x hn hx=>by
 obtain ⟨v,rfl,_,hs⟩:=DataW.trod_string hu hx
 exact ⟨v,hs,DR.raw _ rfl,trivial⟩
theorem zgc (hu:Tryz.prog.underlying t=some (.int .i64)):zfk w n t za8 (fun v=>-9223372036854775808<=v/\v<=9223372036854775807) :=
 (rep_int hu).map id (fun _=>rfl) fun v h=>by have:=bounds_i64 h;simp only [id];omega
theorem rep_u32 (hu:Tryz.prog.underlying t=some (.int .u32)):zfk w n t (fun v:Nat=>[.raw (.int .u32 (v:Int))]) (fun v=>v<4294967296):=fun H enc base spare held fuel cs x hn hx=>by
 obtain ⟨v,rfl,_,hw⟩:=DataW.trod_int hu hx
 have:=bounds_u32 hw
 refine ⟨v.toNat,by omega,?_,trivial⟩
 rw [Int.toNat_of_nonneg (by omega)]
 exact DR.raw _ rfl
theorem listOf {P:Nat->α->Prop}:∀ (len:Nat),(∀ i,i<len->∃ a,P i a)->∃ xs:List α,xs.length=len/\∀ i x,xs[i]?=some x->P i x
 | 0,_=>⟨[],rfl,fun i x h=>by simp at h⟩
 | len+1,h=>by
  obtain ⟨xs,h1,h2⟩:=listOf len fun i hi=>h i (by omega)
  obtain ⟨a,ha⟩:=h len (by omega)
  refine ⟨xs++[a],by simp [h1],fun i x hx=>?_⟩
  by_cases hi:i<xs.length
  ·rw [cQ hi] at hx;exact h2 i x hx
  ·have hl:=(bF.1 hx).1
   simp only [bX,bK,cF] at hl
   have e:i=xs.length:=by omega
   subst e
   simp at hx
   subst hx
   rw [h1];exact ha
theorem cell_at (h:w.cell? ⟨b,o,none⟩=some v):∃ arr ty fz,w.heap[b]?=some (.cells arr ty fz)/\arr[o]?=some v:=by
 unfold World.cell? at h
 split at h
 ·rename_i cs ty fz hb
  exact ⟨cs,ty,fz,hb,by simpa using h⟩
 ·cases h
theorem zcw {e:TypeId} (hu:Tryz.prog.underlying t=some (.slice e)) (hc:Tryz.prog.cellsOf e=k) (hk:0<k) (hl:∀ a,(f a).length=k) (he:zfk w n e f good):zfk w n t (slD k f) (fun xs=>xs.length<=maxLen/\∀ x ∈ xs,good x):=fun H enc base spare held fuel cs x hn hx=>by
 rcases DataW.trod_slice hu hx with ⟨rfl,_⟩ | ⟨a,len,cap,elems,rest,m,rfl,rfl,_,_,h2,h3,h4,h5,_,_⟩
 ·exact ⟨[],⟨bJ _,by simp⟩,DR.nil _ _ _ (fun _=>rfl) (bJ _),trivial⟩
 ·rw [hc] at h5
  obtain ⟨xs,hxl,hxs⟩:=listOf (P:=fun i (y:α)=>good y/\∃ cs', w.cells? base (a.add (i*k)) k=some cs'/\zb4 (DR (all w)) (f y) cs') len fun i hi=>by
   have h6:=h5 i hi
   rw [bG (by omega)] at h6
   obtain ⟨cs', g1,g2⟩:=Option.bind_eq_some_iff.1 h6
   obtain ⟨y,g3,g4⟩:=he H enc base spare held m cs' _ (by omega) g2
   exact ⟨y,g3,cs', g1,g4⟩
  refine ⟨xs,⟨by omega,fun y hy=>?_⟩,?_,trivial⟩
  ·obtain ⟨i,hi⟩:=dG.1 hy
   exact (hxs i y hi).1
  ·show DR (all w) (.sl k (xs.map f)) _
   rcases dL len with h0 | h0
   ·subst h0
    have:xs=[]:=b7.1 hxl
    subst this
    exact DR.nil _ _ _ (fun e=>by cases e) h3
   ·have cells:∀ i y,xs[i]?=some y->∀ j,j<k->∃ v d,w.cell? ((a.add (i*k)).add j)=some v/\(f y)[j]?=some d/\DR (all w) d v:=fun i y hy j hj=>by
     obtain ⟨_,cs', g1,g2⟩:=hxs i y hy
     obtain ⟨_,g4,g5⟩:=World.cells?_some g1
     obtain ⟨v,g6,g7⟩:=g2.get j (by rw [hl];exact hj)
     exact ⟨v,_,by rw [g5 j hj];exact g6,bG (by rw [hl];exact hj),g7⟩
    obtain ⟨y0,hy0⟩:∃ y,xs[0]?=some y:=⟨_,bG (by omega)⟩
    obtain ⟨v0,_,c0,_,_⟩:=cells 0 y0 hy0 0 hk
    obtain ⟨b,o,sp⟩:=a
    have hsp:sp=none:=by
     have:=World.cell?_spot c0
     simpa [Addr.add] using this
    subst hsp
    have c0':w.cell? ⟨b,o,none⟩=some v0:=by simpa [Addr.add_mid] using c0
    obtain ⟨arr,ty,fz,hb,_⟩:=cell_at c0'
    have at_:∀ i y,xs[i]?=some y->∀ j,j<k->∃ v d,arr[o+i*k+j]?=some v/\(f y)[j]?=some d/\DR (all w) d v:=fun i y hy j hj=>by
     obtain ⟨v,d,g1,g2,g3⟩:=cells i y hy j hj
     rw [Addr.add_mid,Addr.add_mid] at g1
     obtain ⟨arr', ty', fz', hb', g4⟩:=cell_at g1
     rw [hb] at hb'
     injection hb' with hb'
     injection hb' with e1
     subst e1
     exact ⟨v,d,g4,g2,g3⟩
    have:=DR.sl (H:=all w) k (xs.map f) b o cap arr ty fz (fun i j=>(arr[o+i*k+j]?).getD v0) (by rw [bI];omega) hb (by rw [bI];omega) h3 (fun i hi=>by rw [dM];exact hl _)
     (fun i hi j hj=>by
      have hi':i<xs.length:=by simpa using hi
      obtain ⟨v,d,g1,_,_⟩:=at_ i xs[i] (bG hi') j hj
      rw [g1];rfl)
     (fun i hi j hj=>by
      have hi':i<xs.length:=by simpa using hi
      have hj':j<k:=by rw [dM,hl] at hj;exact hj
      obtain ⟨v,d,g1,g2,g3⟩:=at_ i xs[i] (bG hi') j hj'
      have e1:((xs.map f)[i])[j]?=some d:=by rw [dM];exact g2
      rw [bG hj] at e1
      injection e1 with e1
      rw [e1,g1];exact g3)
    rwa [bI,hxl] at this
def FsN (w:World) (n:Nat) (fs:List Field) (o k:Nat) {α:Type} (f:α->List D) (good:α->Prop):Prop :=
  ∀ (H:Type) (enc:TypeId × Value->H) (base:Nat) (spare:Nat->Bool) (held:Bool) (cs:List Value),(∀ fl ∈ fs,∃ m x,m<=n/\DataW.trod enc dY w base spare held m fl.type ((cs.drop fl.offset).take (Tryz.prog.cellsOf fl.type))=some x)->o+k=cs.length->∃ a:α,good a/\zb4 (DR (all w)) (f a) (cs.drop o)
theorem FsN.nil:FsN w n [] o 0 (fun _:Unit=>[]) (fun _=>True):=fun H enc base spare held cs _ hl=>⟨(),trivial,by rw [List.drop_of_length_le (by omega)];trivial⟩
theorem FsN.cons {fl:Field} {fs:List Field} {k0 k1:Nat} {f1:β->List D} {good1:β->Prop} (ho:fl.offset=o) (hc:Tryz.prog.cellsOf fl.type=k0) (h0:zfk w n fl.type f good) (h1:FsN w n fs (o+k0) k1 f1 good1) :
  FsN w n (fl :: fs) o (k0+k1) (fun p:α × β=>f p.1++f1 p.2) (fun p=>good p.1/\good1 p.2):=fun H enc base spare held cs hf hl=>by
 obtain ⟨m,x,hm,hx⟩:=hf fl (by simp)
 rw [ho,hc] at hx
 obtain ⟨a,g1,g2⟩:=h0 H enc base spare held m _ x hm hx
 obtain ⟨b,g3,g4⟩:=h1 H enc base spare held cs (fun fl' h'=>hf fl' (by simp [h'])) (by omega)
 refine ⟨(a,b),⟨g1,g3⟩,?_⟩
 have e:cs.drop o=(cs.drop o).take k0++cs.drop (o+k0):=by rw [<- List.drop_drop,List.take_append_drop]
 rw [e]
 exact g2.append g4
theorem zcf {fs:Array Field} (hu:Tryz.prog.underlying t=some (.struct fs)) (hc:Tryz.prog.cellsOf t=k) (h:FsN w n fs.toList 0 k f good):zfk w (n+1) t f good:=fun H enc base spare held fuel cs x hn hx=>by
 obtain ⟨xs,m,rfl,_,h2,h3,h4⟩:=DataW.trod_struct hu hx
 obtain ⟨a,g1,g2⟩:=h H enc base spare held cs (fun fl hfl=>by
  obtain ⟨i,hi⟩:=dG.1 hfl
  have hi':fs[i]?=some fl:=by simpa using hi
  have:=h4 i fl hi'
  have hlt:i<xs.length:=by rw [h3];exact (cH.1 hi').1
  rw [bG hlt] at this
  exact ⟨m,_,by omega,this⟩) (by rw [h2,hc];omega)
 exact ⟨a,g1,by simpa using g2⟩
theorem rep_agg {fs:Array Field} (hu:Tryz.prog.underlying t=some (.struct fs)) (hr:∀ n,zfk w n t f good) {H:Type} {enc:TypeId × Value->H} {base:Nat} {spare:Nat->Bool} {held:Bool} {r:Reach} {b0:Nat} {d:DataW H} {p:List MemPlace} (hv:Value.okWide dY w r b0 t v) (h:DataW.Trod enc dY w base spare held t v d p) :
  ∃ (a:α) (cs:List Value),good a/\v = .agg ⟨cs⟩/\zb4 (DR (all w)) (f a) cs:=by
 obtain ⟨cs,rfl,_⟩:=okWide_struct hu hv
 obtain ⟨fuel,hf⟩:=h
 obtain ⟨a,g1,g2⟩:=hr fuel H enc base spare held fuel _ _ (bZ _) hf
 exact ⟨a,cs.toList,g1,rfl,g2⟩
theorem rep_one {e:TypeId} {g:α->D} (hu:Tryz.prog.underlying t=some (.slice e)) (hr:∀ n,zfk w n t (fun a=>[g a]) good) {H:Type} {enc:TypeId × Value->H} {base:Nat} {spare:Nat->Bool} {held:Bool} {r:Reach} {b0:Nat} {d:DataW H} {p:List MemPlace} (hv:Value.okWide dY w r b0 t v) (h:DataW.Trod enc dY w base spare held t v d p) :
  ∃ (a:α) (ao:Option Addr) (len cap:Nat),good a/\v = .slice ao len cap/\DR (all w) (g a) v:=by
 obtain ⟨ao,len,cap,rfl⟩:=okWide_slice hu hv
 obtain ⟨fuel,hf⟩:=h
 obtain ⟨a,g1,g2⟩:=hr fuel H enc base spare held fuel _ _ (bZ _) hf
 exact ⟨a,ao,len,cap,g1,rfl,g2.1⟩
theorem dr_vd {l:List D} {cs:List Value} (h:zb4 (DR (all w)) l cs) (B:Bl):VR (all w) B (vd l) (.agg ⟨cs⟩):=by
 refine ⟨cs,rfl,zb4.iff.2 ⟨by simpa using h.length,fun j a b ha hb=>?_⟩⟩
 rw [bP] at ha
 cases hj:l[j]? with
 | none=>rw [hj] at ha;cases ha
 | some d =>
  rw [hj] at ha
  injection ha with ha
  subst ha
  exact (zb4.iff.1 h).2 j d b hj hb
end
theorem Fn.calls {k:FuncId} {args:List V} {vals:List Value} (h:Fn dY k [] args (vb true) []) (ha:∀ B,zb4 (VR (all w) B) args vals) (ht:TabH (all w):=by exact trivial):Calls dY k ⟨vals⟩ w (GotP (.bool true) w):=by
 refine (h w (all w) (fun _=>none) vals ⟨fun b o hb=>hb,fun p hp=>(by cases hp),fun p hp=>(by cases hp),fun p hp=>(by cases hp),ha _,ht⟩).mono ?_
 rintro en w' ⟨v,H', B', rfl,post⟩
 have:=VR.rawI post.res
 subst this
 exact ⟨rfl,post.ext.os,post.ext.tape,post.ext.output,post.ext.size,fun b hb=>post.ext.block b hb (by rintro ⟨p,hp,_⟩;cases hp)⟩
section
variable {w:World} {n:Nat}
theorem rep_Nat:zfk w n 26 (fun zs=>[nsl zs]) Lb :=
 (zcw (k:=1) (f:=fun v:Nat=>[D.raw (.int .u32 (v:Int))]) Tryz.underlying26 (by kernel_rfl) (by decide) (fun _=>rfl) (rep_u32 Tryz.underlying142)).map id (fun _=>rfl) fun zs h z hz=>h.2 z hz
theorem rep_ZI:zfk w n 28 ziD (fun x=>Lb x.abs) :=
 ((zcf (n:=n) Tryz.underlying28 (by kernel_rfl) (.cons (k0:=1) rfl (by kernel_rfl) (zhj Tryz.underlying4) (.cons (k0:=1) rfl (by kernel_rfl) rep_Nat .nil))).map (fun p=>⟨p.1,p.2.1⟩) (fun _=>rfl) fun _ h=>h.2.1).mono (Nat.le_succ n)
theorem rep_Part:zfk w n 132 zbe.d (fun p=>Lb p.c.abs) :=
 ((zcf (n:=n) Tryz.underlying132 (by kernel_rfl) (.cons (k0:=1) rfl (by kernel_rfl) (zgc Tryz.underlying3) (.cons (k0:=2) rfl (by kernel_rfl) rep_ZI .nil))).map (fun p=>⟨p.1,p.2.1⟩) (fun _=>rfl) fun _ h=>h.2.1).mono (Nat.le_succ n)
def TLb (t:zd6):Prop:=Lb t.k.abs/\∀ p ∈ t.parts,Lb p.c.abs
theorem rep_Parts:zfk w n 24 (slD 3 zbe.d) (fun ps=>ps.length<=maxLen/\∀ p ∈ ps,Lb p.c.abs) :=
 zcw (k:=3) Tryz.underlying24 (by kernel_rfl) (by decide) (fun _=>rfl) rep_Part
theorem rep_Term:zfk w n 30 zd6.d TLb :=
 ((zcf (n:=n) Tryz.underlying30 (by kernel_rfl) (.cons (k0:=1) rfl (by kernel_rfl) rep_Parts (.cons (k0:=2) rfl (by kernel_rfl) rep_ZI .nil))).map (fun p=>⟨p.1,p.2.1⟩) (fun _=>rfl) fun _ h=>⟨h.2.1,h.1.2⟩).mono (Nat.le_succ n)
theorem zkj:zfk w n 44 (slD 1 za8) (fun xs=>xs.length<=maxLen/\∀ x ∈ xs,-9223372036854775808<=x/\x<=9223372036854775807) :=
 zcw (k:=1) Tryz.underlying44 (by kernel_rfl) (by decide) (fun _=>rfl) (zgc Tryz.underlying3)
end
end
end S
set_option maxHeartbeats 1000000 in
theorem From_any (s:Bool) (ao:Option Addr) (n c:Nat) (zs:List Nat) (w:World) (hn:n=zs.length) (h:Rd w ao c zs) (hl:zs.length<=400000) :
  Calls dY 87 #[.bool s,.slice ao n c] w (GotZ w (iv s zs) zs.length):=by
 subst hn
 cases s
 ·go_enter Tryz.func87,Tryz.ntmps87
  go_wp2_with fail
  refine (TrimM _ _ _ zs _ rfl (h.ext ((Ext.refl _).alloc _)) (by first | omega | (simp;done) | (simp;omega))).mono ?_
  rintro e w1 ⟨r1a,r1c,r1z,r1B,rfl,r1b,r1o,r1k,r1v,r1l,xx⟩
  try simp at r1b
  try simp only [bK,cF] at r1l
  have hE:Ext w w1:=Ext.trans ((Ext.refl _).alloc _) xx
  have hz1:w.heap.size+1<=w1.heap.size:=(by have hq:=Ext.size xx;(try simp at hq);omega)
  have hb0:w.heap.size<w1.heap.size:=(by omega)
  have fq0_0:=Ext.free (p:=⟨w.heap.size,0,none⟩) (v:=.bool false) xx (by first | exact True | go_simp | (repeat (first | assumption | (refine (World.cell?_setCell_far _ _ _ _ (by simp <;> omega)).trans ?_) | (refine (World.cell?_alloc_lt _ _ _ (World.block_lt_of_cell? _ _ (by assumption))).trans ?_) | go_simp))) (by first | assumption | go_simp)
  have q0_0:=Ext.cell (p:=⟨w.heap.size,0,none⟩) (v:=.bool false) xx (by first | exact True | go_simp | (repeat (first | assumption | (refine (World.cell?_setCell_far _ _ _ _ (by simp <;> omega)).trans ?_) | (refine (World.cell?_alloc_lt _ _ _ (World.block_lt_of_cell? _ _ (by assumption))).trans ?_) | go_simp)))
  have fq0_1:=Ext.free (p:=⟨w.heap.size,1,none⟩) (v:=.slice none 0 0) xx (by first | exact True | go_simp | (repeat (first | assumption | (refine (World.cell?_setCell_far _ _ _ _ (by simp <;> omega)).trans ?_) | (refine (World.cell?_alloc_lt _ _ _ (World.block_lt_of_cell? _ _ (by assumption))).trans ?_) | go_simp))) (by first | assumption | go_simp)
  have q0_1:=Ext.cell (p:=⟨w.heap.size,1,none⟩) (v:=.slice none 0 0) xx (by first | exact True | go_simp | (repeat (first | assumption | (refine (World.cell?_setCell_far _ _ _ _ (by simp <;> omega)).trans ?_) | (refine (World.cell?_alloc_lt _ _ _ (World.block_lt_of_cell? _ _ (by assumption))).trans ?_) | go_simp)))
  clear xx
  go_wp2_with fail
  refine bodyPost_ret (v:=.agg #[.bool false,.slice r1a r1z.length r1c]) (by simp [results,Tryz.results87,go_sem,q0_0,q0_1]) rfl ?_
  exact ⟨false,r1a,r1c,r1z,r1B,rfl,(by omega),(Own.st (Own.st r1o (b:=w.heap.size) (by omega) _ _) (b:=w.heap.size) (by omega) _ _),(CanZ.pos r1k.out),(by unfold Hid;rw [zd2,zd2,r1v.out]),(by first | omega | (simp;done) | (simp;omega)),(Ext.st (Ext.st hE (b:=w.heap.size) (by omega) _ _) (b:=w.heap.size) (by omega) _ _)⟩
 ·go_enter Tryz.func87,Tryz.ntmps87
  go_wp2_with fail
  refine (TrimM _ _ _ zs _ rfl (h.ext ((Ext.refl _).alloc _)) (by first | omega | (simp;done) | (simp;omega))).mono ?_
  rintro e w1 ⟨r1a,r1c,r1z,r1B,rfl,r1b,r1o,r1k,r1v,r1l,xx⟩
  try simp at r1b
  try simp only [bK,cF] at r1l
  have hE:Ext w w1:=Ext.trans ((Ext.refl _).alloc _) xx
  have hz1:w.heap.size+1<=w1.heap.size:=(by have hq:=Ext.size xx;(try simp at hq);omega)
  have hb0:w.heap.size<w1.heap.size:=(by omega)
  have fq0_0:=Ext.free (p:=⟨w.heap.size,0,none⟩) (v:=.bool false) xx (by first | exact True | go_simp | (repeat (first | assumption | (refine (World.cell?_setCell_far _ _ _ _ (by simp <;> omega)).trans ?_) | (refine (World.cell?_alloc_lt _ _ _ (World.block_lt_of_cell? _ _ (by assumption))).trans ?_) | go_simp))) (by first | assumption | go_simp)
  have q0_0:=Ext.cell (p:=⟨w.heap.size,0,none⟩) (v:=.bool false) xx (by first | exact True | go_simp | (repeat (first | assumption | (refine (World.cell?_setCell_far _ _ _ _ (by simp <;> omega)).trans ?_) | (refine (World.cell?_alloc_lt _ _ _ (World.block_lt_of_cell? _ _ (by assumption))).trans ?_) | go_simp)))
  have fq0_1:=Ext.free (p:=⟨w.heap.size,1,none⟩) (v:=.slice none 0 0) xx (by first | exact True | go_simp | (repeat (first | assumption | (refine (World.cell?_setCell_far _ _ _ _ (by simp <;> omega)).trans ?_) | (refine (World.cell?_alloc_lt _ _ _ (World.block_lt_of_cell? _ _ (by assumption))).trans ?_) | go_simp))) (by first | assumption | go_simp)
  have q0_1:=Ext.cell (p:=⟨w.heap.size,1,none⟩) (v:=.slice none 0 0) xx (by first | exact True | go_simp | (repeat (first | assumption | (refine (World.cell?_setCell_far _ _ _ _ (by simp <;> omega)).trans ?_) | (refine (World.cell?_alloc_lt _ _ _ (World.block_lt_of_cell? _ _ (by assumption))).trans ?_) | go_simp)))
  clear xx
  rcases dL r1z.length with h0 | hp
  ·have e0:r1z=[]:=b7.1 h0
   subst e0
   clear h0
   go_wp2_with fail
   refine bodyPost_ret (v:=.agg #[.bool false,.slice r1a 0 r1c]) (by simp [results,Tryz.results87,go_sem,q0_0,q0_1]) rfl ?_
   exact ⟨false,r1a,r1c,[],r1B,rfl,(by omega),(Own.st (Own.st r1o (b:=w.heap.size) (by omega) _ _) (b:=w.heap.size) (by omega) _ _),(CanZ.pos r1k.out),(by unfold Hid;rw [zd2,zdn,<- r1v.out];rfl),(by first | omega | (simp;done) | (simp;omega)),(Ext.st (Ext.st hE (b:=w.heap.size) (by omega) _ _) (b:=w.heap.size) (by omega) _ _)⟩
  ·have hp1:decide (0<r1z.length)=true:=decide_eq_true hp
   go_wp2_with fail
   refine bodyPost_ret (v:=.agg #[.bool true,.slice r1a r1z.length r1c]) (by simp [results,Tryz.results87,go_sem,q0_0,q0_1]) rfl ?_
   exact ⟨true,r1a,r1c,r1z,r1B,rfl,(by omega),(Own.st (Own.st r1o (b:=w.heap.size) (by omega) _ _) (b:=w.heap.size) (by omega) _ _),(CanZ.neg r1k.out hp _),(by unfold Hid;rw [zdn,zdn,r1v.out]),(by first | omega | (simp;done) | (simp;omega)),(Ext.st (Ext.st hE (b:=w.heap.size) (by omega) _ _) (b:=w.heap.size) (by omega) _ _)⟩
set_option maxHeartbeats 1000000 in
theorem clean_any (s:Bool) (ao:Option Addr) (n c:Nat) (zs:List Nat) (w:World) (hn:n=zs.length) (h:Rd w ao c zs) (hl:zs.length<=400000) :
  Calls dY 111 #[.agg #[.bool s,.slice ao n c]] w (GotZ w (iv s zs) zs.length):=by
 subst hn
 go_enter Tryz.func111,Tryz.ntmps111
 go_wp2_with fail
 refine (From_any s _ _ _ zs _ rfl (h.ext (((Ext.refl _).alloc _).alloc _)) (by first | omega | (simp;done) | (simp;omega))).mono ?_
 rintro e w1 ⟨r1s,r1a,r1c,r1z,r1B,rfl,r1b,r1o,r1k,r1v,r1l,xx⟩
 try simp at r1b
 try simp only [bK,cF] at r1l
 have hE:Ext w w1:=Ext.trans (((Ext.refl _).alloc _).alloc _) xx
 have hz1:w.heap.size+2<=w1.heap.size:=(by have hq:=Ext.size xx;(try simp at hq);omega)
 have hb1:w.heap.size+1<w1.heap.size:=(by omega)
 have fq1_0:=Ext.free (p:=⟨w.heap.size+1,0,none⟩) (v:=.bool false) xx (by first | exact True | go_simp | (repeat (first | assumption | (refine (World.cell?_setCell_far _ _ _ _ (by simp <;> omega)).trans ?_) | (refine (World.cell?_alloc_lt _ _ _ (World.block_lt_of_cell? _ _ (by assumption))).trans ?_) | go_simp))) (by first | assumption | go_simp)
 have q1_0:=Ext.cell (p:=⟨w.heap.size+1,0,none⟩) (v:=.bool false) xx (by first | exact True | go_simp | (repeat (first | assumption | (refine (World.cell?_setCell_far _ _ _ _ (by simp <;> omega)).trans ?_) | (refine (World.cell?_alloc_lt _ _ _ (World.block_lt_of_cell? _ _ (by assumption))).trans ?_) | go_simp)))
 have fq1_1:=Ext.free (p:=⟨w.heap.size+1,1,none⟩) (v:=.slice none 0 0) xx (by first | exact True | go_simp | (repeat (first | assumption | (refine (World.cell?_setCell_far _ _ _ _ (by simp <;> omega)).trans ?_) | (refine (World.cell?_alloc_lt _ _ _ (World.block_lt_of_cell? _ _ (by assumption))).trans ?_) | go_simp))) (by first | assumption | go_simp)
 have q1_1:=Ext.cell (p:=⟨w.heap.size+1,1,none⟩) (v:=.slice none 0 0) xx (by first | exact True | go_simp | (repeat (first | assumption | (refine (World.cell?_setCell_far _ _ _ _ (by simp <;> omega)).trans ?_) | (refine (World.cell?_alloc_lt _ _ _ (World.block_lt_of_cell? _ _ (by assumption))).trans ?_) | go_simp)))
 clear xx
 go_wp2_with fail
 refine bodyPost_ret (v:=.agg #[.bool r1s,.slice r1a r1z.length r1c]) (by simp [results,Tryz.results111,go_sem,q1_0,q1_1]) rfl ?_
 exact ⟨r1s,r1a,r1c,r1z,r1B,rfl,(by omega),(Own.st (Own.st r1o (b:=w.heap.size+1) (by omega) _ _) (b:=w.heap.size+1) (by omega) _ _),r1k,r1v,(by first | omega | (simp;done) | (simp;omega)),(Ext.st (Ext.st hE (b:=w.heap.size+1) (by omega) _ _) (b:=w.heap.size+1) (by omega) _ _)⟩
theorem RCmpP (ao:Option Addr) (n c:Nat) (xs:List Nat) (bo:Option Addr) (m d:Nat) (ys:List Nat) (w:World) (g:Int) (hn:n=xs.length) (hm:m=ys.length) (ha:Rd w ao c xs) (hb:Rd w bo d ys) (hg:zix (nV xs) (nV ys)=g) :
  Calls dY 121 #[.slice ao n c,.slice bo m d] w (GotP (.int .i64 g) w) :=
 (RCmp_any ao n c xs bo m d ys w hn hm ha hb).mono fun _ _ ⟨he,hq⟩=>⟨by rw [he,hg],hq ▸ Ext.refl _⟩
set_option maxHeartbeats 1000000 in
theorem RSign_any (s:Bool) (ao:Option Addr) (n c:Nat) (zs:List Nat) (w:World) (g:Int) (hn:n=zs.length) (h:Rd w ao c zs) (hl:zs.length<=300000) (hg:sgn (iv s zs)=g) :
  Calls dY 71 #[.agg #[.bool s,.slice ao n c]] w (GotP (.int .i64 g) w):=by
 subst hn
 replace hg:=Lib.hid hg
 go_enter Tryz.func71,Tryz.ntmps71
 go_wp2_with fail
 refine (RTrimM _ _ _ zs _ rfl (h.ext ((Ext.refl _).alloc _)) (by first | omega | (simp;done) | (simp;omega))).mono ?_
 rintro e w1 ⟨r1a,r1c,r1z,r1B,rfl,r1b,r1o,r1k,r1v,r1l,xx⟩
 try simp at r1b
 try simp only [bK,cF] at r1l
 have hE:Ext w w1:=Ext.trans ((Ext.refl _).alloc _) xx
 have hz1:w.heap.size+1<=w1.heap.size:=(by have hq:=Ext.size xx;(try simp at hq);omega)
 have hb0:w.heap.size<w1.heap.size:=(by omega)
 have q0_0:=Ext.cell (p:=⟨w.heap.size,0,none⟩) (v:=.bool s) xx (by first | exact True | go_simp | (repeat (first | assumption | (refine (World.cell?_setCell_far _ _ _ _ (by simp <;> omega)).trans ?_) | (refine (World.cell?_alloc_lt _ _ _ (World.block_lt_of_cell? _ _ (by assumption))).trans ?_) | go_simp)))
 clear xx
 rcases dL r1z.length with h0 | hp
 ·have e0:r1z=[]:=b7.1 h0
  subst e0
  clear h0
  go_wp2_with fail
  go_ret
  exact ⟨by rw [<- hg.out,zic (by have e:=r1v.out;unfold iv;rw [<- e];cases s <;> rfl)];rfl,hE⟩
 ·have hp1:((r1z.length:Int) == 0)=false:=beq_eq_false_iff_ne.2 (by omega)
  have hv:Hid (0<nV zs):=by
   have:=zhq r1k.out hp;have:=zfd (r1z.length - 1);have:=r1v.out;unfold Hid;omega
  cases s
  ·go_wp2_with fail
   go_ret
   exact ⟨by rw [<- hg.out,sgn_pos (by have:=hv.out;unfold iv;simp;omega)];rfl,hE⟩
  ·go_wp2_with fail
   go_ret
   exact ⟨by rw [<- hg.out,zhw (by have:=hv.out;unfold iv;simp;omega)];rfl,hE⟩
theorem zid {x y:Int} (hx:-1<=x/\x<=1) (hy:-1<=y/\y<=1):-1<=x*y/\x*y<=1:=by
 have h1:x=-1\/x=0\/x=1:=by omega
 rcases h1 with rfl | rfl | rfl <;> omega
theorem val_two (x:Nat):nV [x % 4294967296,x / 4294967296]=x:=by simp only [nV];omega
def zbv (z:Int):Int × Bool:=if -9223372036854775808<=z/\z<=9223372036854775807 then (z,true) else (0,false)
theorem or_join2 (R x:Nat) (hR:R<4294967296) (hx:x<4294967296):bits BinOp.or .u64 (x:Int) ((R:Int)*4294967296)=((x+4294967296*R:Nat):Int):=by
 have e:((R:Int)*4294967296)=((R*4294967296:Nat):Int):=by rw [dI];rfl
 rw [e,bits_or_u64_nat _ _ (by omega) (by omega)]
 have h:=Nat.two_pow_add_eq_or_of_lt (i:=32) (b:=x) (by omega) R
 rw [Nat.or_comm,b8 R,show (4294967296:Nat)=2 ^ 32 from rfl,<- h]
 omega
theorem wrap_mul32 (x:Nat) (hx:x<4294967296):IntKind.u64.wrap (IntKind.u64.wrap (x:Int)*4294967296)=(x:Int)*4294967296:=by
 rw [IntKind.wrap_u64,IntKind.wrap_u64];omega
theorem zh0 {x:Int} (hz:z=x) (h1:-9223372036854775808<=x) (h2:x<=9223372036854775807):zbv z=(x,true):=by
 subst hz;unfold zbv;rw [if_pos ⟨h1,h2⟩]
theorem zhi (h:z< -9223372036854775808\/9223372036854775807<z):zbv z=(0,false):=by
 unfold zbv;rw [if_neg (by omega)]
theorem zcv {p q:Int × Bool} (h:zbv z=p) (k:zbv z=q):p=q:=h.symm.trans k
theorem or_zero (x:Nat) (hx:x<4294967296):bits BinOp.or .u64 0 (x:Int)=(x:Int):=by
 have:=or_join2 0 0 (by omega) (by omega)
 have h2:=bits_or_u64_nat 0 x (by omega) (by omega)
 rw [Nat.zero_or] at h2
 exact h2
set_option maxHeartbeats 2000000 in
theorem ZSmall_any (s:Bool) (ao:Option Addr) (n c:Nat) (zs:List Nat) (w:World) (v:Int) (ok:Bool) (hn:n=zs.length) (h:Rd w ao c zs) (hl:zs.length<=300000) (hg:zbv (iv s zs)=(v,ok)) :
  Calls dY 62 #[.agg #[.bool s,.slice ao n c]] w (GotP (.tuple #[.int .i64 v,.bool ok]) w):=by
 subst hn
 replace hg:=Lib.hid hg
 go_enter Tryz.func62,Tryz.ntmps62
 go_wp2_with fail
 refine (clean_any s _ _ _ zs _ rfl (h.ext ((Ext.refl _).alloc _)) (by first | omega | (simp;done) | (simp;omega))).mono ?_
 rintro e w1 ⟨r1s,r1a,r1c,r1z,r1B,rfl,r1b,r1o,r1k,r1v,r1l,xx⟩
 try simp at r1b
 try simp only [bK,cF] at r1l
 have hE:Ext w w1:=Ext.trans ((Ext.refl _).alloc _) xx
 have hz1:w.heap.size+1<=w1.heap.size:=(by have hq:=Ext.size xx;(try simp at hq);omega)
 have hb0:w.heap.size<w1.heap.size:=(by omega)
 have fq0_0:=Ext.free (p:=⟨w.heap.size,0,none⟩) (v:=.bool s) xx (by first | exact True | go_simp | (repeat (first | assumption | (refine (World.cell?_setCell_far _ _ _ _ (by simp <;> omega)).trans ?_) | (refine (World.cell?_alloc_lt _ _ _ (World.block_lt_of_cell? _ _ (by assumption))).trans ?_) | go_simp))) (by first | assumption | go_simp)
 have q0_0:=Ext.cell (p:=⟨w.heap.size,0,none⟩) (v:=.bool s) xx (by first | exact True | go_simp | (repeat (first | assumption | (refine (World.cell?_setCell_far _ _ _ _ (by simp <;> omega)).trans ?_) | (refine (World.cell?_alloc_lt _ _ _ (World.block_lt_of_cell? _ _ (by assumption))).trans ?_) | go_simp)))
 have fq0_1:=Ext.free (p:=⟨w.heap.size,1,none⟩) (v:=.slice ao zs.length c) xx (by first | exact True | go_simp | (repeat (first | assumption | (refine (World.cell?_setCell_far _ _ _ _ (by simp <;> omega)).trans ?_) | (refine (World.cell?_alloc_lt _ _ _ (World.block_lt_of_cell? _ _ (by assumption))).trans ?_) | go_simp))) (by first | assumption | go_simp)
 have q0_1:=Ext.cell (p:=⟨w.heap.size,1,none⟩) (v:=.slice ao zs.length c) xx (by first | exact True | go_simp | (repeat (first | assumption | (refine (World.cell?_setCell_far _ _ _ _ (by simp <;> omega)).trans ?_) | (refine (World.cell?_alloc_lt _ _ _ (World.block_lt_of_cell? _ _ (by assumption))).trans ?_) | go_simp)))
 clear xx
 by_cases h2:2<r1z.length
 ·have hr:Hid ((v,ok)=(0,false)):=zcv hg.out (zhi (by
   have h3:=zhq r1k.out.1 (by omega)
   have h4:pw 2<=pw (r1z.length - 1):=zfy (by omega)
   have h5:pw 2=18446744073709551616:=rfl
   have h6:=zgs r1s r1z
   rw [r1v.out] at h6
   omega))
  go_wp2_with fail
  go_ret2
  exact ⟨by rw [(Prod.mk.inj hr.out).1,(Prod.mk.inj hr.out).2];rfl,(Ext.st (Ext.st hE (b:=w.heap.size) (by omega) _ _) (b:=w.heap.size) (by omega) _ _)⟩
 ·have hrd:=(Own.st (Own.st r1o (b:=w.heap.size) (by omega) 0 (.bool r1s)) (b:=w.heap.size) (by omega) 1 (.slice r1a r1z.length r1c)).rd
  go_wp2_with fail
  trace_state
  go_loop [4,16] (fun n i=>∃ k:Nat,k<=r1z.length/\i = .int .i64 k/\n = .int .u64 (vk r1z k)) (fun _ i=>(r1z.length - intOf i).toNat)
  case atStart=>exact ⟨0,bJ _,rfl,by rw [zdw];rfl⟩
  case round =>
   obtain ⟨k,hk,rfl,rfl⟩:=hrel
   by_cases hkA:k<r1z.length
   ·have hx:=hrd.cell k hkA
    have bx:=zdc r1k.out.1.1 k
    rcases k with _ | _ | k
    ·rw [zdw]
     have hix:=ixe hrd r1z.length rfl 0 0 rfl hkA
     simp only [c7] at hix hx
     go_wp2_with fail
     exact ⟨⟨1,by omega,rfl,by rw [or_zero _ bx,zd7,zdw];simp [pw_zero]⟩,by simp [intOf];omega⟩
    ·have hix:=ixe hrd r1z.length rfl 1 1 rfl hkA
     have b0:=zdc r1k.out.1.1 0
     go_wp2_with fail
     refine ⟨⟨2,by omega,rfl,?_⟩,by simp [intOf];omega⟩
     have e:vk r1z 1=lim r1z 0:=by rw [zd7,zdw];simp [pw_zero]
     rw [wrap_mul32 _ bx,e,or_join2 _ _ bx b0]
     have e2:vk r1z 2=lim r1z 0+4294967296*lim r1z 1:=by rw [zd7,e];rfl
     rw [e2]
    ·omega
   ·have hke:r1z.length=k:=by omega
    have hval:vk r1z k=nV r1z:=zdd (by omega)
    obtain ⟨V,hV⟩:∃ V,nV r1z=V:=⟨_,rfl⟩
    rw [hval,hV]
    have hVb:V<18446744073709551616:=by
     rw [<- hV]
     exact Nat.lt_of_lt_of_le (zce r1k.out.1.1) (show pw r1z.length<=pw 2 from zfy (by omega))
    have hZ:Hid (iv s zs=if r1s then -(V:Int) else (V:Int)):=by unfold Hid;rw [<- r1v.out];unfold iv;rw [hV]
    clear hval hV
    cases r1s
    ·have hZ1:Hid (iv s zs=(V:Int)):=hZ.out
     by_cases hbig:9223372036854775807<V
     ·go_wp2_with fail
      go_ret2
      exact ⟨by have hr:=zcv hg.out (zhi (by rw [hZ1.out];omega));rw [(Prod.mk.inj hr).1,(Prod.mk.inj hr).2];rfl,(Ext.st (Ext.st hE (b:=w.heap.size) (by omega) _ _) (b:=w.heap.size) (by omega) _ _)⟩
     ·go_wp2_with fail
      go_ret2
      exact ⟨by have hr:=zcv hg.out (zh0 hZ1.out (by omega) (by omega));rw [(Prod.mk.inj hr).1,(Prod.mk.inj hr).2];rfl,(Ext.st (Ext.st hE (b:=w.heap.size) (by omega) _ _) (b:=w.heap.size) (by omega) _ _)⟩
    ·have hZ1:Hid (iv s zs=-(V:Int)):=hZ.out
     by_cases hmin:V=9223372036854775808
     ·have hr:Hid ((v,ok)=(-9223372036854775808,true)):=zcv hg.out (zh0 (by rw [hZ1.out,hmin];rfl) (by omega) (by omega))
      have hmb:((V:Int) == 9223372036854775808)=true:=beq_iff_eq.2 (by omega)
      clear hmin
      go_wp2_with fail
      go_ret2
      exact ⟨by rw [(Prod.mk.inj hr.out).1,(Prod.mk.inj hr.out).2];rfl,(Ext.st (Ext.st hE (b:=w.heap.size) (by omega) _ _) (b:=w.heap.size) (by omega) _ _)⟩
     ·have hmb:((V:Int) == 9223372036854775808)=false:=beq_eq_false_iff_ne.2 (by omega)
      by_cases hbig:9223372036854775807<V
      ·go_wp2_with fail
       go_ret2
       exact ⟨by have hr:=zcv hg.out (zhi (by rw [hZ1.out];omega));rw [(Prod.mk.inj hr).1,(Prod.mk.inj hr).2];rfl,(Ext.st (Ext.st hE (b:=w.heap.size) (by omega) _ _) (b:=w.heap.size) (by omega) _ _)⟩
      ·go_wp2_with fail
       go_ret2
       exact ⟨by have hr:=zcv hg.out (zh0 hZ1.out (by omega) (by omega));rw [(Prod.mk.inj hr).1,(Prod.mk.inj hr).2];rfl,(Ext.st (Ext.st hE (b:=w.heap.size) (by omega) _ _) (b:=w.heap.size) (by omega) _ _)⟩
def SmallR (w:World) (s:Bool) (ao:Option Addr) (c:Nat) (zs:List Nat) (po:Option Addr) (tc:Nat) (ts:List Nat) (n i:Value) (wr:World):Prop :=
  ∃ k:Nat,k<=ts.length/\i = .int .i64 ((k:Int) - 1)/\n = .int .i64 (iv s (ts.drop k))/\wr.cell? ⟨w.heap.size,0,none⟩=some (.bool s)/\wr.cell? ⟨w.heap.size,1,none⟩=some (.slice ao zs.length c)/\Rd wr po tc ts/\Ext w wr
theorem two_steps {ts:List Nat} (hk:k<ts.length) (T:Nat) (hT:nV ts<=T) :
  nV (ts.drop k)=lim ts k+4294967296*nV (ts.drop (k+1))/\nV (ts.drop k)<=T:=by
 have h1:=vd_step hk
 unfold vd at h1
 refine ⟨h1,?_⟩
 have h3:=zhf ts k (by omega)
 have h4:=zfd k
 have h5:1*nV (ts.drop k)<=pw k*nV (ts.drop k):=bH _ h4
 omega
theorem RSmall_any (s:Bool) (ao:Option Addr) (n c:Nat) (zs:List Nat) (w:World) (v:Int) (ok:Bool) (hn:n=zs.length) (h:Rd w ao c zs) (hl:zs.length<=300000) (hg:zbv (iv s zs)=(v,ok)) :
  Calls dY 74 #[.agg #[.bool s,.slice ao n c]] w (GotP (.tuple #[.int .i64 v,.bool ok]) w):=by
 subst hn
 replace hg:=Lib.hid hg
 obtain ⟨x,hx⟩:∃ x,sgn (iv s zs)=x:=⟨_,rfl⟩
 replace hx:=Lib.hid hx
 go_enter Tryz.func74,Tryz.ntmps74
 go_wp2_with fail
 refine (RTrimM _ _ _ zs _ rfl (h.ext ((Ext.refl _).alloc _)) (by first | omega | (simp;done) | (simp;omega))).mono ?_
 rintro e w1 ⟨r1a,r1c,r1z,r1B,rfl,r1b,r1o,r1k,r1v,r1l,xx⟩
 try simp at r1b
 try simp only [bK,cF] at r1l
 have hE:Ext w w1:=Ext.trans ((Ext.refl _).alloc _) xx
 have hz1:w.heap.size+1<=w1.heap.size:=(by have hq:=Ext.size xx;(try simp at hq);omega)
 have hb0:w.heap.size<w1.heap.size:=(by omega)
 have q0_0:=Ext.cell (p:=⟨w.heap.size,0,none⟩) (v:=.bool s) xx (by first | exact True | go_simp | (repeat (first | assumption | (refine (World.cell?_setCell_far _ _ _ _ (by simp <;> omega)).trans ?_) | (refine (World.cell?_alloc_lt _ _ _ (World.block_lt_of_cell? _ _ (by assumption))).trans ?_) | go_simp)))
 have q0_1:=Ext.cell (p:=⟨w.heap.size,1,none⟩) (v:=.slice ao zs.length c) xx (by first | exact True | go_simp | (repeat (first | assumption | (refine (World.cell?_setCell_far _ _ _ _ (by simp <;> omega)).trans ?_) | (refine (World.cell?_alloc_lt _ _ _ (World.block_lt_of_cell? _ _ (by assumption))).trans ?_) | go_simp)))
 clear xx
 by_cases h2:2<r1z.length
 ·have hr:Hid ((v,ok)=(0,false)):=zcv hg.out (zhi (by
   have h3:=zhq r1k.out (by omega)
   have h4:pw 2<=pw (r1z.length - 1):=zfy (by omega)
   have h5:pw 2=18446744073709551616:=rfl
   have h6:=zgs s zs
   have h7:=r1v.out
   omega))
  go_wp2_with fail
  go_ret2
  exact ⟨by rw [(Prod.mk.inj hr.out).1,(Prod.mk.inj hr.out).2];rfl,hE⟩
 have h22:r1z.length<=2:=by omega
 go_wp2_with fail
 refine (RSign_any s _ _ _ zs _ x rfl (h.ext (hE.alloc _)) (by first | omega | (simp;done) | (simp;omega)) hx.out).mono ?_
 rintro e w2 ⟨rfl,xx⟩
 replace hE:=Ext.trans (hE.alloc _) xx
 have hz2:w1.heap.size+1<=w2.heap.size:=(by have hq:=Ext.size xx;(try simp at hq);omega)
 replace r1o:=Own.ext (r1o.alloc _) xx
 have lit1o:=Own.ext (row2b _ (w1.heap.size) _ _ 4294967295 2147483647 (by simp) rfl rfl (by omega) (by omega)) xx
 have hb0:w.heap.size<w2.heap.size:=(by omega)
 have q0_0:=Ext.cell (p:=⟨w.heap.size,0,none⟩) (v:=.bool s) xx (by first | exact q0_0 | go_simp | (repeat (first | assumption | (refine (World.cell?_setCell_far _ _ _ _ (by simp <;> omega)).trans ?_) | (refine (World.cell?_alloc_lt _ _ _ (World.block_lt_of_cell? _ _ (by assumption))).trans ?_) | go_simp)))
 have q0_1:=Ext.cell (p:=⟨w.heap.size,1,none⟩) (v:=.slice ao zs.length c) xx (by first | exact q0_1 | go_simp | (repeat (first | assumption | (refine (World.cell?_setCell_far _ _ _ _ (by simp <;> omega)).trans ?_) | (refine (World.cell?_alloc_lt _ _ _ (World.block_lt_of_cell? _ _ (by assumption))).trans ?_) | go_simp)))
 clear xx
 by_cases hneg:x<0
 ·obtain ⟨g,hg3⟩:∃ g,zix (nV r1z) (nV [0,2147483648])=g:=⟨_,rfl⟩
  have hval:nV [0,2147483648]=9223372036854775808:=rfl
  rw [hval] at hg3
  replace hg3:Hid (zix (nV r1z) (nV [0,2147483648])=g):=by rw [hval];exact hg3
  have hz:Hid (iv s zs<0):=zhx.1 (by rw [hx.out];exact hneg)
  have hbig:0<g ↔ 9223372036854775808<nV r1z:=by
   rw [<- hg3.out,hval];unfold zix;split;omega;split <;> omega
  have Hbig:=Lib.hid hbig
  clear hbig hval
  go_wp2_with fail
  refine (RCmpP _ _ _ r1z _ _ _ [0,2147483648] _ g rfl rfl (r1o.alloc _).rd (row2b _ (w2.heap.size) _ _ 0 2147483648 (by simp) rfl rfl (by omega) (by omega)).rd hg3.out).mono ?_
  rintro e w3 ⟨rfl,xx⟩
  replace hE:=Ext.trans (hE.alloc _) xx
  have hz3:w2.heap.size+1<=w3.heap.size:=(by have hq:=Ext.size xx;(try simp at hq);omega)
  replace r1o:=Own.ext (r1o.alloc _) xx
  have hb0:w.heap.size<w3.heap.size:=(by omega)
  have q0_0:=Ext.cell (p:=⟨w.heap.size,0,none⟩) (v:=.bool s) xx (by first | exact q0_0 | go_simp | (repeat (first | assumption | (refine (World.cell?_setCell_far _ _ _ _ (by simp <;> omega)).trans ?_) | (refine (World.cell?_alloc_lt _ _ _ (World.block_lt_of_cell? _ _ (by assumption))).trans ?_) | go_simp)))
  have q0_1:=Ext.cell (p:=⟨w.heap.size,1,none⟩) (v:=.slice ao zs.length c) xx (by first | exact q0_1 | go_simp | (repeat (first | assumption | (refine (World.cell?_setCell_far _ _ _ _ (by simp <;> omega)).trans ?_) | (refine (World.cell?_alloc_lt _ _ _ (World.block_lt_of_cell? _ _ (by assumption))).trans ?_) | go_simp)))
  clear xx
  by_cases hgt:0<g
  ·have hr:Hid ((v,ok)=(0,false)):=zcv hg.out (zhi (by
    have h6:=zgs s zs
    have h7:=r1v.out
    have h8:=hz.out
    have h9:=Hbig.out.1 hgt
    omega))
   go_wp2_with fail
   go_ret2
   exact ⟨by rw [(Prod.mk.inj hr.out).1,(Prod.mk.inj hr.out).2];rfl,hE⟩
  ·have hV:Hid (nV r1z<=9223372036854775808):=Nat.le_of_not_lt (fun q=>hgt (Hbig.out.2 q))
   have hr:Hid ((v,ok)=(iv s zs,true)):=zcv hg.out (zh0 rfl (by
    have h6:=zgs s zs
    have h7:=r1v.out
    have h8:=hz.out
    have h9:=hV.out
    omega) (by
    have h6:=zgs s zs
    have h7:=r1v.out
    have h8:=hz.out
    have h9:=hV.out
    omega))
   have hs:s=true\/nV zs=0:=by
    have h8:=hz.out
    cases s
    ·unfold iv at h8;simp at h8;omega
    ·left;rfl
   go_wp2_with fail
   go_loopw [6,7] (SmallR w s ao c zs r1a r1c r1z) (fun _ i _=>(intOf i+1).toNat)
   case atStart=>exact ⟨r1z.length,bZ _,rfl,by rw [List.drop_length,iv_nil],q0_0,q0_1,r1o.rd,hE⟩
   case round =>
    obtain ⟨k,hk,rfl,rfl,q0_0,q0_1,r1r,hE⟩:=hrel
    rcases k with _ | k
    ·have hfin:Hid (iv s (r1z.drop 0)=iv s zs):=by unfold Hid;rw [List.drop_zero];unfold iv;rw [r1v.out]
     go_wp2_with fail
     go_ret2
     exact ⟨by rw [(Prod.mk.inj hr.out).1,(Prod.mk.inj hr.out).2,<- hfin.out];rfl,hE⟩
    ·have bx:=zdc r1k.out.1 k
     have ek:((k+1:Nat):Int) - 1=(k:Int):=by omega
     rw [ek]
     clear ek
     obtain ⟨st1,st2⟩:=two_steps (show k<r1z.length by omega) _ hV.out
     obtain ⟨N,hN⟩:∃ N,N=nV (r1z.drop (k+1)):=⟨_,rfl⟩
     rw [<- hN] at st1
     have hn:iv s (r1z.drop (k+1))=-(N:Int):=by
      rw [hN]
      rcases hs with e | e
      ·rw [e];rfl
      ·have h7:=r1v.out
       rw [e] at h7
       have h8:=zhf r1z (k+1) (by omega)
       have h9:=zfd (k+1)
       have h10:1*nV (r1z.drop (k+1))<=pw (k+1)*nV (r1z.drop (k+1)):=bH _ h9
       have h11:nV (r1z.drop (k+1))=0:=by omega
       unfold iv;rw [h11];cases s <;> rfl
     have hn2:Hid (iv s (r1z.drop k)=-(N:Int)*4294967296 - (lim r1z k:Int)):=by
      unfold Hid
      rcases hs with e | e
      ·rw [e];unfold iv;rw [st1];simp;omega
      ·have h7:=r1v.out
       rw [e] at h7
       have h8:=zhf r1z k (by omega)
       have h9:=zfd k
       have h10:1*nV (r1z.drop k)<=pw k*nV (r1z.drop k):=bH _ h9
       have h11:nV (r1z.drop k)=0:=by omega
       have h12:iv s (r1z.drop k)=0:=by unfold iv;rw [h11];cases s <;> rfl
       rw [h12];omega
     rw [hn]
     have bN:N*4294967296+lim r1z k<=9223372036854775808:=by omega
     have hix:=ixk r1r r1z.length rfl k (by omega) wr
     clear hn hN st1 st2
     go_wp2_with fail
     refine (RSign_any s _ _ _ zs _ x rfl (h.ext hE) (by omega) hx.out).mono ?_
     rintro e w9 ⟨rfl,xx⟩
     have hc:=(r1r.ext xx).cell k (by omega)
     have hix2:=ixk r1r r1z.length rfl k (by omega) w9
     go_wp2_with fail
     go_roundw
     case rel=>exact ⟨k,by omega,by go_num,by rw [hn2.out],Ext.cell xx q0_0,Ext.cell xx q0_1,r1r.ext xx,hE.trans xx⟩
     case measure=>simp [intOf];try omega
 ·obtain ⟨g,hg3⟩:∃ g,zix (nV r1z) (nV [4294967295,2147483647])=g:=⟨_,rfl⟩
  have hval:nV [4294967295,2147483647]=9223372036854775807:=rfl
  rw [hval] at hg3
  replace hg3:Hid (zix (nV r1z) (nV [4294967295,2147483647])=g):=by rw [hval];exact hg3
  have hz:Hid (0<=iv s zs):=by have a:=hx.out;unfold Hid;unfold sgn at a;split at a <;> (try split at a) <;> omega
  have hbig:0<g ↔ 9223372036854775807<nV r1z:=by
   rw [<- hg3.out,hval];unfold zix;split;omega;split <;> omega
  have Hbig:=Lib.hid hbig
  clear hbig hval
  go_wp2_with fail
  refine (RCmpP _ _ _ r1z _ _ _ [4294967295,2147483647] _ g rfl rfl r1o.rd lit1o.rd hg3.out).mono ?_
  rintro e w3 ⟨rfl,xx⟩
  replace hE:=Ext.trans hE xx
  have hz3:w2.heap.size<=w3.heap.size:=(by have hq:=Ext.size xx;(try simp at hq);omega)
  replace r1o:=Own.ext r1o xx
  replace lit1o:=Own.ext lit1o xx
  have hb0:w.heap.size<w3.heap.size:=(by omega)
  have q0_0:=Ext.cell (p:=⟨w.heap.size,0,none⟩) (v:=.bool s) xx q0_0
  have q0_1:=Ext.cell (p:=⟨w.heap.size,1,none⟩) (v:=.slice ao zs.length c) xx q0_1
  clear xx
  by_cases hgt:0<g
  ·have hr:Hid ((v,ok)=(0,false)):=zcv hg.out (zhi (by
    have h6:=zgs s zs
    have h7:=r1v.out
    have h8:=hz.out
    have h9:=Hbig.out.1 hgt
    omega))
   go_wp2_with fail
   go_ret2
   exact ⟨by rw [(Prod.mk.inj hr.out).1,(Prod.mk.inj hr.out).2];rfl,hE⟩
  ·have hV:Hid (nV r1z<=9223372036854775807):=Nat.le_of_not_lt (fun q=>hgt (Hbig.out.2 q))
   have hr:Hid ((v,ok)=(iv s zs,true)):=zcv hg.out (zh0 rfl (by
    have h6:=zgs s zs
    have h7:=r1v.out
    have h8:=hz.out
    have h9:=hV.out
    omega) (by
    have h6:=zgs s zs
    have h7:=r1v.out
    have h8:=hz.out
    have h9:=hV.out
    omega))
   have hs:s=false\/nV zs=0:=by
    have h8:=hz.out
    cases s
    ·left;rfl
    ·right;unfold iv at h8;simp at h8;omega
   go_wp2_with fail
   go_loopw [6,7] (SmallR w s ao c zs r1a r1c r1z) (fun _ i _=>(intOf i+1).toNat)
   case atStart=>exact ⟨r1z.length,bZ _,rfl,by rw [List.drop_length,iv_nil],q0_0,q0_1,r1o.rd,hE⟩
   case round =>
    obtain ⟨k,hk,rfl,rfl,q0_0,q0_1,r1r,hE⟩:=hrel
    rcases k with _ | k
    ·have hfin:Hid (iv s (r1z.drop 0)=iv s zs):=by unfold Hid;rw [List.drop_zero];unfold iv;rw [r1v.out]
     go_wp2_with fail
     go_ret2
     exact ⟨by rw [(Prod.mk.inj hr.out).1,(Prod.mk.inj hr.out).2,<- hfin.out];rfl,hE⟩
    ·have bx:=zdc r1k.out.1 k
     have ek:((k+1:Nat):Int) - 1=(k:Int):=by omega
     rw [ek]
     clear ek
     obtain ⟨st1,st2⟩:=two_steps (show k<r1z.length by omega) _ hV.out
     obtain ⟨N,hN⟩:∃ N,N=nV (r1z.drop (k+1)):=⟨_,rfl⟩
     rw [<- hN] at st1
     have hn:iv s (r1z.drop (k+1))=(N:Int):=by
      rw [hN]
      rcases hs with e | e
      ·rw [e];rfl
      ·have h7:=r1v.out
       rw [e] at h7
       have h8:=zhf r1z (k+1) (by omega)
       have h9:=zfd (k+1)
       have h10:1*nV (r1z.drop (k+1))<=pw (k+1)*nV (r1z.drop (k+1)):=bH _ h9
       have h11:nV (r1z.drop (k+1))=0:=by omega
       unfold iv;rw [h11];cases s <;> rfl
     have hn2:Hid (iv s (r1z.drop k)=(N:Int)*4294967296+(lim r1z k:Int)):=by
      unfold Hid
      rcases hs with e | e
      ·rw [e];unfold iv;rw [st1];simp;omega
      ·have h7:=r1v.out
       rw [e] at h7
       have h8:=zhf r1z k (by omega)
       have h9:=zfd k
       have h10:1*nV (r1z.drop k)<=pw k*nV (r1z.drop k):=bH _ h9
       have h11:nV (r1z.drop k)=0:=by omega
       have h12:iv s (r1z.drop k)=0:=by unfold iv;rw [h11];cases s <;> rfl
       rw [h12];omega
     rw [hn]
     have bN:N*4294967296+lim r1z k<=9223372036854775807:=by omega
     have hix:=ixk r1r r1z.length rfl k (by omega) wr
     clear hn hN st1 st2
     go_wp2_with fail
     refine (RSign_any s _ _ _ zs _ x rfl (h.ext hE) (by omega) hx.out).mono ?_
     rintro e w9 ⟨rfl,xx⟩
     have hc:=(r1r.ext xx).cell k (by omega)
     have hix2:=ixk r1r r1z.length rfl k (by omega) w9
     go_wp2_with fail
     go_roundw
     case rel=>exact ⟨k,by omega,by go_num,by rw [hn2.out],Ext.cell xx q0_0,Ext.cell xx q0_1,r1r.ext xx,hE.trans xx⟩
     case measure=>simp [intOf];try omega
namespace S
variable {H H0:Im} {B B0:Bl} {v u:Value} {x y:Operand} {rs rs' sl:List (Nat × V)} {xt yt ty el rty:TypeId} {ps:List zbe} {j n n' m M fo l h es t N bs:Nat} {p:zbe} {α:Type} {e:E} {f:F} {a:Act} {w w0:World} {ao:Option Addr} {rows rows':List (List D)} {K:List Nat} {Q:Exit->Act->World->Prop} {lc:List (Nat × L)} {tys:Array TypeId}
theorem openZ2 {x:ZI} (h:VR H B (vz x) v) (hx:Lb x.abs):∃ ao c,v = .agg #[.bool x.neg,.slice ao x.abs.length c]/\∀ w:World,(∀ b o,H b=some o->w.heap[b]?=some o)->Rd w ao c x.abs:=by
 obtain ⟨vs,rfl,h1⟩:=h
 match vs,h1 with
 | [a,b],h1 =>
  obtain ⟨h2,h3,_⟩:=h1
  have e1:a = .bool x.neg:=VR.rawI (H:=H) (B:=B) h2
  obtain ⟨ao,c,rfl,h4⟩:=nsl_rd h3 hx
  exact ⟨ao,c,by rw [e1],h4⟩
 | [],h1=>exact h1.elim
 | [_],h1=>exact h1.2.elim
 | _ :: _ :: _ :: _,h1=>exact h1.2.2.elim
theorem SSmall (x:ZI) (hx:Lb x.abs) (lx:x.abs.length<=300000):Fn dY 62 [] [vz x] (.tup [.c (cI (zbv x.val).1),.c (cB (zbv x.val).2)]) []:=by
 intro w H B vals pre
 have ha:=pre.arg
 obtain ⟨a,rfl,h1⟩:∃ a,vals=[a]/\VR H B (vz x) a:=by
  match vals,ha with
  | [a],h=>exact ⟨a,rfl,h.1⟩
  | [],h=>exact h.elim
  | _ :: _ :: _,h=>exact h.2.elim
 obtain ⟨ao,c,rfl,r1⟩:=openZ2 h1 hx
 refine (ZSmall_any x.neg ao _ c x.abs w _ _ rfl (r1 w pre.sat) lx rfl).mono fun e w' h=>?_
 obtain ⟨rfl,hE⟩:=h
 exact ⟨_,_,_,rfl,postE hE pre.sat ⟨_,rfl,DR.raw _ rfl,DR.raw _ rfl,trivial⟩⟩
theorem small_big {m:Int} (h:(zbv z).2=false) (h0:0<=z) (hm:m<=9223372036854775807):m<z:=by
 unfold zbv at h
 split at h
 ·cases h
 ·omega
theorem small_val (h:(zbv z).2=true):(zbv z).1=z∧-9223372036854775808≤z∧z≤9223372036854775807:=by
 unfold zbv at h ⊢
 split at h
 ·rename_i hz;rw [if_pos hz];exact ⟨rfl,hz⟩
 ·cases h
section
variable {P:Program}
theorem Op.quo {d:Nat} {k:IntKind} {m n r:Int} {pos af gd} (h:OV x (vi k m) rs) (h':OV y (vi k n) rs') (hn:n≠0) (he:m.tdiv n=r) (hr:k.wrap r=r) :
  zb6 P ⟨some d,.binOp .quo xt x y yt,ty,pos,af,gd⟩ { rs:=rs++rs', ws:=[(d,some (vi k r))] }:=by
 refine Op.raw2 rfl h h' rfl fun ρ w h1 h2=>?_
 simp [execOp,h1,h2,eqGuard,binOp,Op.intDiv,hn,he,hr,go_sem]
theorem Op.rem {d:Nat} {k:IntKind} {m n r:Int} {pos af gd} (h:OV x (vi k m) rs) (h':OV y (vi k n) rs') (hn:n≠0) (he:m.tmod n=r) :
  zb6 P ⟨some d,.binOp .rem xt x y yt,ty,pos,af,gd⟩ { rs:=rs++rs', ws:=[(d,some (vi k r))] }:=by
 refine Op.raw2 rfl h h' rfl fun ρ w h1 h2=>?_
 simp [execOp,h1,h2,eqGuard,binOp,Op.intDiv,hn,he,go_sem]
end
theorem ib_10:ElZ dY 26 142 1:=ElZ.mk' Tryz.underlying26 _ _ rfl rfl
theorem zdn (n:List Nat):iv true n=-(nV n:Int):=rfl
theorem zd2 (n:List Nat):iv false n=(nV n:Int):=rfl
theorem val_neg {x:ZI} (h:x.val<0):x.val=-(nV x.abs:Int):=by
 unfold ZI.val at h ⊢
 cases hn:x.neg with
 | true=>rfl
 | false=>rw [hn,zd2] at h;omega
theorem zja {x:ZI} (h:0<=x.val):x.val=(nV x.abs:Int):=by
 unfold ZI.val at h ⊢
 cases hn:x.neg with
 | false=>rfl
 | true=>rw [hn,zdn] at h;rw [zdn];omega
theorem zkh (h:z<0):decide (sgn z<0)=true:=by rw [zhw h];rfl
theorem zki (h:0<=z):decide (sgn z<0)=false:=decide_eq_false (mt zhx.1 (by omega))
theorem sgn_ge_t (h:0<=z):decide (sgn z>=0)=true:=decide_eq_true (by have:=mt (zhx (z:=z)).1 (by omega);omega)
theorem sgn_ge_f (h:z<0):decide (sgn z>=0)=false:=by rw [zhw h];rfl
theorem SRAdd_pp (x y:ZI) (hx:Lb x.abs) (hy:Lb y.abs) (lx:x.abs.length<=49000) (ly:y.abs.length<=49000) (px:0<=x.val) (py:0<=y.val):Fn dY 36 [] [vz x,vz y] (vz (d3 (x.val+y.val))) []:=by
 refine fB Tryz.func36 rfl 62 fun w H B a h=>Jq 0 [] [(2,vp 0 0),(3,vp 1 0),(4,vp 2 0)] [(0,.box (zi x)),(1,.box (zi y)),(2,.box [cB false,.d (nsl [])])] h fun a w h=>qW (Je 3 [(1,.call (zdv x hx (by omega))),(2,.cmp (op:=.lss) (m:=(sgn x.val)) (n:=0) (b:=false) .i64 (zki px))] [] [(14,vb false)] h fun a w h=>zbs h (qU (za0 (qW (Je 3 [(1,.call (zdv x hx (by omega))),(2,.cmp (op:=.geq) (m:=(sgn x.val)) (n:=0) (b:=true) .i64 (sgn_ge_t px)),(5,.call (zdv y hy (by omega))),(6,.cmp (op:=.geq) (m:=(sgn y.val)) (n:=0) (b:=true) .i64 (sgn_ge_t py))] [14] [(28,vb true)] h fun a w h=>cS true h (fun _=>?_) nofun)))))
 obtain ⟨n4,en4,vn4,on4,ln4⟩:=mkN (v:=nV x.abs+nV y.abs) (m:=x.abs.length+y.abs.length+1) (nadd_lt hx hy);obtain ⟨r5,er5,vr5,or5,lr5⟩:=mkZ (v:=iv false n4) (m:=n4.length) (zdt on4);refine Jg 3 [(4,.call (dZ (SRnAdd x.abs y.abs hx hy (by omega) (by omega)) (congrArg vn en4.symm))),(5,.call (dZ (zj3 false n4 on4 (by omega)) (congrArg vz er5.symm)))] [28] [] [] [(2,.box (zi r5))] h fun a w h=>qV (za2 (rA 2 (zi r5) h zgt rfl (congrArg (fun z=>vz z) (er5.trans (congrArg d3 ?_)))));have ax:=zja (x:=x) px;have ay:=zja (x:=y) py
 (try simp only [zdn])
 (try simp only [zd2])
 omega
theorem SRAdd_nn (x y:ZI) (hx:Lb x.abs) (hy:Lb y.abs) (lx:x.abs.length<=49000) (ly:y.abs.length<=49000) (px:x.val<0) (py:y.val<0):Fn dY 36 [] [vz x,vz y] (vz (d3 (x.val+y.val))) []:=by
 refine fB Tryz.func36 rfl 62 fun w H B a h=>Jq 0 [] [(2,vp 0 0),(3,vp 1 0),(4,vp 2 0)] [(0,.box (zi x)),(1,.box (zi y)),(2,.box [cB false,.d (nsl [])])] h fun a w h=>qW (Je 3 [(1,.call (zdv x hx (by omega))),(2,.cmp (op:=.lss) (m:=(sgn x.val)) (n:=0) (b:=true) .i64 (zkh px)),(5,.call (zdv y hy (by omega))),(6,.cmp (op:=.lss) (m:=(sgn y.val)) (n:=0) (b:=true) .i64 (zkh py))] [] [(14,vb true)] h fun a w h=>cS true h (fun _=>?_) nofun)
 obtain ⟨n3,en3,vn3,on3,ln3⟩:=mkN (v:=nV x.abs+nV y.abs) (m:=x.abs.length+y.abs.length+1) (nadd_lt hx hy);obtain ⟨r4,er4,vr4,or4,lr4⟩:=mkZ (v:=iv true n3) (m:=n3.length) (zdt on3);refine Jg 3 [(4,.call (dZ (SRnAdd x.abs y.abs hx hy (by omega) (by omega)) (congrArg vn en3.symm))),(5,.call (dZ (zj3 true n3 on3 (by omega)) (congrArg vz er4.symm)))] [14] [] [] [(2,.box (zi r4))] h fun a w h=>qV (za2 (rA 2 (zi r4) h zgt rfl (congrArg (fun z=>vz z) (er4.trans (congrArg d3 ?_)))));have ax:=val_neg (x:=x) px;have ay:=val_neg (x:=y) py
 (try simp only [zdn])
 (try simp only [zd2])
 omega
theorem SRAdd_pn (x y:ZI) (hx:Lb x.abs) (hy:Lb y.abs) (lx:x.abs.length<=49000) (ly:y.abs.length<=49000) (px:0<=x.val) (py:y.val<0):Fn dY 36 [] [vz x,vz y] (vz (d3 (x.val+y.val))) []:=by
 refine fB Tryz.func36 rfl 62 fun w H B a h=>Jq 0 [] [(2,vp 0 0),(3,vp 1 0),(4,vp 2 0)] [(0,.box (zi x)),(1,.box (zi y)),(2,.box [cB false,.d (nsl [])])] h fun a w h=>qW (Je 3 [(1,.call (zdv x hx (by omega))),(2,.cmp (op:=.lss) (m:=(sgn x.val)) (n:=0) (b:=false) .i64 (zki px))] [] [(14,vb false)] h fun a w h=>zbs h (qU (za0 (qW (Je 3 [(1,.call (zdv x hx (by omega))),(2,.cmp (op:=.geq) (m:=(sgn x.val)) (n:=0) (b:=true) .i64 (sgn_ge_t px)),(5,.call (zdv y hy (by omega))),(6,.cmp (op:=.geq) (m:=(sgn y.val)) (n:=0) (b:=false) .i64 (sgn_ge_f py))] [14] [(28,vb false)] h fun a w h=>zbs h (qU (za0 (qW (Je 3 [(1,.call (zdv x hx (by omega))),(2,.cmp (op:=.lss) (m:=(sgn x.val)) (n:=0) (b:=false) .i64 (zki px))] [28] [(37,vb false)] h fun a w h=>zbs h (qU (za0 ?_)))))))))))
 obtain ⟨n5,en5,vn5,on5,ln5⟩:=mkN (v:=nV x.abs - nV y.abs) (m:=x.abs.length) (cV (cW _ _) (zce hx));refine Je 3 [(4,.call (dZ (SRnSub x.abs y.abs hx hy (by omega) (by omega)) (show _=(.tup [.c (.d (nsl n5)),.c (cB (decide (nV y.abs<=nV x.abs)))]:V) by rw [en5])))] [37] [(5,vn n5),(6,vb (decide (nV y.abs<=nV x.abs)))] h fun a w h=>qW (Je 3 [] [6] [(49,vb (decide (nV y.abs<=nV x.abs)))] h fun a w h=>zag (nV y.abs<=nV x.abs) h (fun hc1 hc1'=>?_) (fun hc2 hc2'=>?_))
 ·obtain ⟨r6,er6,vr6,or6,lr6⟩:=mkZ (v:=iv false n5) (m:=n5.length) (zdt on5);refine Jg 3 [(1,.call (dZ (zj3 false n5 on5 (by omega)) (congrArg vz er6.symm)))] [49] [] [] [(2,.box (zi r6))] h fun a w h=>qV (za2 (rA 2 (zi r6) h zgt rfl (congrArg (fun z=>vz z) (er6.trans (congrArg d3 ?_)))));have ax:=zja (x:=x) px;have ay:=val_neg (x:=y) py
  (try simp only [zdn])
  (try simp only [zd2])
  omega
 refine qU (za0 ?_);obtain ⟨n7,en7,vn7,on7,ln7⟩:=mkN (v:=nV y.abs - nV x.abs) (m:=y.abs.length) (cV (cW _ _) (zce hy));refine Jg 3 [(4,.call (dZ (SRnSub y.abs x.abs hy hx (by omega) (by omega)) (show _=(.tup [.c (.d (nsl n7)),.c (cB (decide (nV x.abs<=nV y.abs)))]:V) by rw [en7])))] [2,3,49] [(5,vn n7)] [0,1] [] h fun a w h=>?_;obtain ⟨r8,er8,vr8,or8,lr8⟩:=mkZ (v:=iv true n7) (m:=n7.length) (zdt on7);refine Jd 3 [(1,.call (dZ (zj3 true n7 on7 (by omega)) (congrArg vz er8.symm)))] [5] [] [(2,.box (zi r8))] h fun a w h=>qV (rA 2 (zi r8) h zgt rfl (congrArg (fun z=>vz z) (er8.trans (congrArg d3 ?_))));have ax:=zja (x:=x) px;have ay:=val_neg (x:=y) py
 (try simp only [zdn])
 (try simp only [zd2])
 omega
theorem SRAdd_np (x y:ZI) (hx:Lb x.abs) (hy:Lb y.abs) (lx:x.abs.length<=49000) (ly:y.abs.length<=49000) (px:x.val<0) (py:0<=y.val):Fn dY 36 [] [vz x,vz y] (vz (d3 (x.val+y.val))) []:=by
 refine fB Tryz.func36 rfl 62 fun w H B a h=>Jq 0 [] [(2,vp 0 0),(3,vp 1 0),(4,vp 2 0)] [(0,.box (zi x)),(1,.box (zi y)),(2,.box [cB false,.d (nsl [])])] h fun a w h=>qW (Je 3 [(1,.call (zdv x hx (by omega))),(2,.cmp (op:=.lss) (m:=(sgn x.val)) (n:=0) (b:=true) .i64 (zkh px)),(5,.call (zdv y hy (by omega))),(6,.cmp (op:=.lss) (m:=(sgn y.val)) (n:=0) (b:=false) .i64 (zki py))] [] [(14,vb false)] h fun a w h=>zbs h (qU (za0 (qW (Je 3 [(1,.call (zdv x hx (by omega))),(2,.cmp (op:=.geq) (m:=(sgn x.val)) (n:=0) (b:=false) .i64 (sgn_ge_f px))] [14] [(28,vb false)] h fun a w h=>zbs h (qU (za0 (qW (Je 3 [(1,.call (zdv x hx (by omega))),(2,.cmp (op:=.lss) (m:=(sgn x.val)) (n:=0) (b:=true) .i64 (zkh px))] [28] [(37,vb true)] h fun a w h=>cS true h (fun _=>?_) nofun)))))))))
 obtain ⟨r5,er5,vr5,or5,lr5⟩:=mkZ (v:=y.val+x.val) (m:=y.abs.length+x.abs.length+1) (ze4 hy hx);refine Jg 3 [(2,.call (dZ (SRAdd_pn y x hy hx ly lx py px) (congrArg vz er5.symm)))] [37] [] [] [(2,.box (zi r5))] h fun a w h=>qV (za2 (rA 2 (zi r5) h zgt rfl (congrArg (fun z=>vz z) (er5.trans (congrArg d3 ?_)))));omega
theorem SRAdd (x y:ZI) (hx:Lb x.abs) (hy:Lb y.abs) (lx:x.abs.length<=49000) (ly:y.abs.length<=49000):Fn dY 36 [] [vz x,vz y] (vz (d3 (x.val+y.val))) []:=by
 by_cases px:x.val<0 <;> by_cases py:y.val<0
 ·exact SRAdd_nn x y hx hy lx ly px py
 ·exact SRAdd_np x y hx hy lx ly px (by omega)
 ·exact SRAdd_pn x y hx hy lx ly (by omega) py
 ·exact SRAdd_pp x y hx hy lx ly (by omega) (by omega)
theorem zid {x y:Int} (hx:-1<=x/\x<=1) (hy:-1<=y/\y<=1):-1<=x*y/\x*y<=1:=by
 have h1:x=-1\/x=0\/x=1:=by omega
 rcases h1 with rfl | rfl | rfl <;> omega
theorem zie (x:ZI):(sgn x.val=-1/\x.val=-(nV x.abs:Int))\/(sgn x.val=0/\(nV x.abs:Int)=0/\x.val=0)\/(sgn x.val=1/\x.val=(nV x.abs:Int)):=by
 rcases Int.lt_trichotomy x.val 0 with h | h | h
 ·exact .inl ⟨zhw h,val_neg h⟩
 ·have:=zja (x:=x) (by omega)
  exact .inr (.inl ⟨zic h,by omega,h⟩)
 ·exact .inr (.inr ⟨sgn_pos h,zja (by omega)⟩)
theorem mul_sgn (x y:ZI) {n:List Nat} (h:nV n=nV x.abs*nV y.abs):iv (decide (sgn x.val*sgn y.val<0)) n=x.val*y.val:=by
 have hp:(nV n:Int)=(nV x.abs:Int)*(nV y.abs:Int):=by rw [h,dI]
 rcases zie x with ⟨h1,h2⟩ | ⟨h1,h2,h3⟩ | ⟨h1,h2⟩ <;> rcases zie y with ⟨k1,k2⟩ | ⟨k1,k2,k3⟩ | ⟨k1,k2⟩ <;> rw [h1,k1]
 ·change (nV n:Int)=_;rw [h2,k2,Int.neg_mul_neg];exact hp
 ·change (nV n:Int)=_;rw [k3,hp,k2];omega
 ·change -(nV n:Int)=_;rw [h2,k2,Int.neg_mul,hp]
 ·change (nV n:Int)=_;rw [h3,hp,h2];omega
 ·change (nV n:Int)=_;rw [h3,hp,h2];omega
 ·change (nV n:Int)=_;rw [h3,hp,h2];omega
 ·change -(nV n:Int)=_;rw [h2,k2,Int.mul_neg,hp]
 ·change (nV n:Int)=_;rw [k3,hp,k2];omega
 ·change (nV n:Int)=_;rw [h2,k2];exact hp
theorem sgn_mul_range' (x y:Int):-1<=sgn x*sgn y/\sgn x*sgn y<=1:=zid (sgn_range x) (sgn_range y)
theorem SRMul (x y:ZI) (hx:Lb x.abs) (hy:Lb y.abs) (lx:x.abs.length<=49000) (ly:y.abs.length<=49000):Fn dY 89 [] [vz x,vz y] (vz (d3 (x.val*y.val))) []:=by
 refine fB Tryz.func89 rfl 17 fun w H B a h=>Jq 0 [] [(2,vp 0 0),(3,vp 1 0),(4,vp 2 0)] [(0,.box (zi x)),(1,.box (zi y)),(2,.box [cB false,.d (nsl [])])] h fun a w h=>?_
 obtain ⟨n3,en3,vn3,on3,ln3⟩:=mkN (v:=nV x.abs*nV y.abs) (m:=x.abs.length+y.abs.length) (nmul_lt hx hy);obtain ⟨r4,er4,vr4,or4,lr4⟩:=mkZ (v:=iv (decide ((sgn x.val*sgn y.val)<0)) n3) (m:=n3.length) (zdt on3);refine Jq 3 [(1,.call (zdv x hx (by omega))),(3,.call (zdv y hy (by omega))),(4,.mul .i64 (m:=(sgn x.val)) (n:=(sgn y.val)) (i64_id (by have:=sgn_mul_range' x.val y.val;omega) (by have:=sgn_mul_range' x.val y.val;omega))),(10,.call (dZ (SRnMul x.abs y.abs hx hy (by omega) (by omega)) (congrArg vn en3.symm))),(11,.call (dZ (zj3 (decide ((sgn x.val*sgn y.val)<0)) n3 on3 (by omega)) (congrArg vz er4.symm)))] [(4,vp 2 0)] [(2,.box (zi r4))] h fun a w h=>qV (rA 2 (zi r4) h zgt rfl (congrArg (fun z=>vz z) (er4.trans (congrArg d3 ?_))));exact mul_sgn x y vn3
theorem val_one (a:Nat):nV [a]=a:=by simp [nV]
theorem val_two (a b:Nat):nV [a,b]=a+4294967296*b:=by simp [nV]
theorem SOf (E:Int) (hI:-9223372036854775808<=E/\E<=9223372036854775807):Fn dY 61 [] [vI E] (vz (d3 (E))) []:=by
 refine fB Tryz.func61 rfl 16 fun w H B a h=>Jq 0 [] [(0,vI E),(2,vp 0 0)] [(0,.box [cB false,.d (nsl [])])] h fun a w h=>qW (Je 1 [] [] [(4,vb (decide (E<0)))] h fun a w h=>zag (E<0) h (fun hc1 hc1'=>?_) (fun hc2 hc2'=>?_))
 ·obtain ⟨n1,en1,vn1,on1,ln1⟩:=mkN (v:=((-(E+1))+1).toNat) (m:=2) (by have:=pw2;omega);obtain ⟨r2,er2,vr2,or2,lr2⟩:=mkZ (v:=iv true n1) (m:=n1.length) (zdt on1);refine Jg 1 [(1,.add .i64 (m:=E) (n:=1) i6),(2,.neg .i64 (m:=(E+1)) i6),(3,.conv .i64 .u64 (m:=(-(E+1))) (u64_id (by omega) (by omega))),(4,.add .u64 (m:=(-(E+1))) (n:=1) (u64_id (by omega) (by omega))),(5,.call (dZ (SnOf ((-(E+1))+1) (by omega) (by omega)) (congrArg vn en1.symm))),(6,.call (dZ (zke true n1 on1 (by omega)) (congrArg vz er2.symm)))] [4] [] [] [(0,.box (zi r2))] h fun a w h=>qV (za2 (rA 0 (zi r2) h zgt rfl (congrArg (fun z=>vz z) (er2.trans (congrArg d3 ?_)))))
  (try simp only [zdn])
  (try simp only [zd2])
  omega
 refine qU (za0 ?_);obtain ⟨n3,en3,vn3,on3,ln3⟩:=mkN (v:=(E).toNat) (m:=2) (by have:=pw2;omega);obtain ⟨r4,er4,vr4,or4,lr4⟩:=mkZ (v:=iv false n3) (m:=n3.length) (zdt on3);refine Jq 1 [(1,.conv .i64 .u64 (m:=E) (u64_id (by omega) (by omega))),(2,.call (dZ (SnOf E (by omega) (by omega)) (congrArg vn en3.symm))),(3,.call (dZ (zke false n3 on3 (by omega)) (congrArg vz er4.symm)))] [(2,vp 0 0)] [(0,.box (zi r4))] h fun a w h=>qV (rA 0 (zi r4) h zgt rfl (congrArg (fun z=>vz z) (er4.trans (congrArg d3 ?_))))
 (try simp only [zdn])
 (try simp only [zd2])
 omega
theorem SROf (E:Int) (hI:-9223372036854775808<=E/\E<=9223372036854775807):Fn dY 28 [] [vI E] (vz (d3 (E))) []:=by
 refine fB Tryz.func28 rfl 29 fun w H B a h=>Jq 0 [] [(0,vI E),(2,vp 0 0)] [(0,.box [cB false,.d (nsl [])])] h fun a w h=>qW (Je 1 [] [] [(6,vb (decide (E>=0)))] h fun a w h=>zag (E>=0) h (fun hc1 hc1'=>?_) (fun hc2 hc2'=>?_))
 ·obtain ⟨q0,hq0⟩:∃ z_:Nat,E % 4294967296=(z_:Int):=⟨(E % 4294967296).toNat,by omega⟩;obtain ⟨q1,hq1⟩:∃ z_:Nat,E / 4294967296=(z_:Int):=⟨(E / 4294967296).toNat,by omega⟩;obtain ⟨r1,er1,vr1,or1,lr1⟩:=mkZ (v:=iv false [q0,q1]) (m:=[q0,q1].length) (zdt (show Lb [q0,q1] from by intro z hz;simp at hz;omega));refine Jg 1 [(1,.g (Op.rem (d:=8) (xt:=2) (yt:=2) (k:=.i64) (m:=E) (n:=4294967296) (r:=(q0:Int)) (OV.tmp 7 _) (OV.const (.int .i64 4294967296) rfl) (by decide) ((dV (by omega)).trans hq0))),(2,.conv .i64 .u32 (m:=(q0:Int)) (u32_id (by omega) (by omega))),(4,.g (Op.quo (d:=11) (xt:=2) (yt:=2) (k:=.i64) (m:=E) (n:=4294967296) (r:=(q1:Int)) (OV.tmp 10 _) (OV.const (.int .i64 4294967296) rfl) (by decide) ((dW (by omega)).trans hq1) i6)),(5,.conv .i64 .u32 (m:=(q1:Int)) (u32_id (by omega) (by omega))),(6,.g (Op.buildD (d:=13) (len:=2) (rows:=[[.raw (.int .u32 (q0:Nat))],[.raw (.int .u32 (q1:Nat))]]) (rs:=[(9,vi .u32 (q0:Int)),(12,vi .u32 (q1:Int))]) ib_10 (.cons (i:=0) (OV.tmp 9 _) (.cons (i:=1) (OV.tmp 12 _) (.nil))) (by kernel_rfl) rfl (by simp) (by decide) (by decide))),(7,.call (dZ (zj3 false [q0,q1] (show Lb [q0,q1] from by intro z hz;simp at hz;omega) (by first | omega | simp)) (congrArg vz er1.symm)))] [6] [] [] [(0,.box (zi r1))] h fun a w h=>qV (za2 (rA 0 (zi r1) h zgt rfl (congrArg (fun z=>vz z) (er1.trans (congrArg d3 ?_)))))
  (try simp only [zdn])
  (try simp only [zd2])
  (try rw [vn1])
  (try simp only [val_two] at *)
  (try simp only [val_one] at *)
  omega
 refine qU (za0 (Jp 1 [(1,.add .i64 (m:=E) (n:=1) i6),(2,.sub .i64 (m:=0) (n:=(E+1)) i6)] [(2,vp 0 0),(3,vI (0 - (E+1)))] h fun a w h=>?_));obtain ⟨q2,hq2⟩:∃ z_:Nat,(0 - (E+1)) % 4294967296=(z_:Int):=⟨((0 - (E+1)) % 4294967296).toNat,by omega⟩;obtain ⟨q3,hq3⟩:∃ z_:Nat,(0 - (E+1)) / 4294967296=(z_:Int):=⟨((0 - (E+1)) / 4294967296).toNat,by omega⟩;refine Je 1 [(1,.g (Op.rem (d:=19) (xt:=2) (yt:=2) (k:=.i64) (m:=(0 - (E+1))) (n:=4294967296) (r:=(q2:Int)) (OV.tmp 18 _) (OV.const (.int .i64 4294967296) rfl) (by decide) ((dV (by omega)).trans hq2))),(2,.conv .i64 .u32 (m:=(q2:Int)) (u32_id (by omega) (by omega))),(4,.g (Op.quo (d:=22) (xt:=2) (yt:=2) (k:=.i64) (m:=(0 - (E+1))) (n:=4294967296) (r:=(q3:Int)) (OV.tmp 21 _) (OV.const (.int .i64 4294967296) rfl) (by decide) ((dW (by omega)).trans hq3) i6)),(5,.conv .i64 .u32 (m:=(q3:Int)) (u32_id (by omega) (by omega))),(6,.g (Op.buildD (d:=24) (len:=2) (rows:=[[.raw (.int .u32 (q2:Nat))],[.raw (.int .u32 (q3:Nat))]]) (rs:=[(20,vi .u32 (q2:Int)),(23,vi .u32 (q3:Int))]) ib_10 (.cons (i:=0) (OV.tmp 20 _) (.cons (i:=1) (OV.tmp 23 _) (.nil))) (by kernel_rfl) rfl (by simp) (by decide) (by decide)))] [3] [(4,vn [q2,q3])] h fun a w h=>?_;obtain ⟨n2,en2,vn2,on2,ln2⟩:=mkN (v:=nV [q2,q3]+nV [1]) (m:=4) (nadd_lt (xs:=[q2,q3]) (ys:=[1]) (show Lb [q2,q3] from by intro z hz;simp at hz;omega) (show Lb [1] from by intro z hz;simp at hz;omega));obtain ⟨r3,er3,vr3,or3,lr3⟩:=mkZ (v:=iv true n2) (m:=n2.length) (zdt on2);refine Jd 1 [(1,.g (Op.buildD (d:=26) (len:=1) (rows:=[[.raw (.int .u32 (1:Nat))]]) (rs:=[]) ib_10 (.cons (i:=0) (OV.const (.int .u32 1) rfl) (.nil)) (by kernel_rfl) rfl (by simp) (by decide) (by decide))),(2,.call (dZ (SRnAdd [q2,q3] [1] (show Lb [q2,q3] from by intro z hz;simp at hz;omega) (show Lb [1] from by intro z hz;simp at hz;omega) (by simp) (by simp)) (congrArg vn en2.symm))),(3,.call (dZ (zj3 true n2 on2 (by first | omega | simp)) (congrArg vz er3.symm)))] [4] [] [(0,.box (zi r3))] h fun a w h=>qV (rA 0 (zi r3) h zgt rfl (congrArg (fun z=>vz z) (er3.trans (congrArg d3 ?_))))
 (try simp only [zdn])
 (try simp only [zd2])
 (try rw [vn2])
 (try simp only [val_two] at *)
 (try simp only [val_one] at *)
 omega
theorem ta_0:SlT dY 24 132 3:=SlT.mk' Tryz.underlying24 (by kernel_rfl)
def zbt:List zbe->Int->Int
  | [],_=>0
  | p :: ps,v=>(if p.v=v/\0<=v then p.c.val else 0)+zbt ps v
theorem coefZ_app (ps qs:List zbe) (v:Int):zbt (ps++qs) v=zbt ps v+zbt qs v:=by
 induction ps with
 | nil=>simp [zbt]
 | cons p ps ih=>simp only [List.cons_append,zbt,ih];omega
theorem zju (h:ps[j]?=some p) (v:Int):zbt (ps.take (j+1)) v=zbt (ps.take j) v+(if p.v=v/\0<=v then p.c.val else 0):=by
 have:ps.take (j+1)=ps.take j++[p]:=by rw [List.take_add_one,h];rfl
 rw [this,coefZ_app];simp [zbt]
def PsOk (L:Nat) (ps:List zbe):Prop:=ps.length<=1000/\∀ p ∈ ps,Lb p.c.abs/\p.c.abs.length<=L
theorem PsOk.take {L:Nat} (h:PsOk L ps) (j:Nat):PsOk L (ps.take j):=⟨by rw [bT];have:=h.1;omega,fun p hp=>h.2 p (dS hp)⟩
theorem PsOk.get {L:Nat} (h:PsOk L ps) (hp:ps[j]?=some p):Lb p.c.abs/\p.c.abs.length<=L:=h.2 p (bL hp)
theorem zl2 {L:Nat}:∀ {ps:List zbe}, (∀ p ∈ ps,Lb p.c.abs/\p.c.abs.length<=L)->∀ v,(zbt ps v).natAbs<=ps.length*pw L
 | [],_,v=>by simp [zbt]
 | p :: ps,h,v=>by
  have ih:=zl2 (fun q hq=>h q (by simp [hq])) v (ps:=ps)
  obtain ⟨h1,h2⟩:=h p (by simp)
  have h3:=ZI.abs_lt h1
  have h4:=zfy h2
  simp only [zbt,bK,bM]
  split <;> omega
theorem coef_len {L:Nat} (h:PsOk L ps) (v:Int):(d3 (zbt ps v)).abs.length<=L+1:=by
 refine ZI.len_of ?_
 have h1:=zl2 h.2 v
 have h2:ps.length*pw L<=1000*pw L:=bH _ h.1
 have h3:=zfd L
 rw [zby]
 omega
theorem SCoef (t:zd6) (v:Int) (ht:PsOk 40000 t.parts):Fn dY 90 [] [(vT t),vI v] (vz (d3 (zbt t.parts v))) []:=by
 refine fB Tryz.func90 rfl 36 fun w H B a h=>Jq 0 [] [(1,vI v),(2,vp 0 0),(4,vp 1 0)] [(0,.box (zT t)),(1,.box [cB false,.d (nsl [])])] h fun a w h=>Jg 2 [] [] [(5,vp 2 0)] [] [(2,.box [cB false,.d (nsl [])])] h fun a w h=>qW (Je 3 [] [] [(6,vI 0)] h fun a w h=>qZ ?_)
 refine zcc (ι:=(Nat) × (ZI)) (fun (j,out)=>out=d3 (zbt (t.parts.take j) v)/\j<=t.parts.length)
   [] (fun (j,out)=>[(6,vN j)])
   [] (fun (j,out)=>[(2,.box (zi out))])
   (fun (j,out)=>t.parts.length - j) (0,(d3 0)) ?_ h ?_
 ·exact ⟨by simp [zbt],bJ _⟩
 clear h;rintro ⟨j,out⟩ a w hI h;dsimp only at h;obtain ⟨hI1,hI2⟩:=hI;have ln:=ht.1;have lo:out.abs.length<=40001:=by rw [hI1];exact coef_len (ht.take j) v
 have ho:Lb out.abs:=by rw [hI1];exact ZI.lb_of _
 have vo:out.val=zbt (t.parts.take j) v:=by rw [hI1];exact d4 _
 refine qW (Je 3 [(3,.len (za1 3 zbe.d t.parts))] [] [(12,vb (decide ((j:Int)<(t.parts.length:Int))))] h fun a w h=>zag ((j:Int)<(t.parts.length:Int)) h (fun hc1 hc1'=>?_) (fun hc6 hc6'=>?_))
 ·refine qU (za0 (qW (qZ ?_)));obtain ⟨x1,hx1⟩:=gl t.parts j;obtain ⟨ox1,lx1⟩:=ht.get hx1
  rcases dU (x1.v == v) with hc2 | hc5
  ·refine Je 3 [(3,.g (xD 18 16 ta_0 (za4 hx1 (f:=zbe.d)) (OV.tmp 17 _))),(7,.cmp (op:=.eql) (m:=x1.v) (n:=v) (b:=true) .i64 hc2)] [12] [(26,vb (decide (v>=0)))] h fun a w h=>zag (v>=0) h (fun hc3 hc3'=>?_) (fun hc4 hc4'=>?_)
   ·obtain ⟨r2,er2,vr2,or2,lr2⟩:=mkZ (v:=out.val+x1.c.val) (m:=out.abs.length+x1.c.abs.length+1) (ze4 ho ox1);refine Jh 3 [(4,.g (xD 31 29 ta_0 (za4 hx1 (f:=zbe.d)) (OV.tmp 30 _))),(7,.call (dZ (SRAdd out x1.c ho ox1 (by omega) (by omega)) (congrArg vz er2.symm)))] [26] [] [] [(2,.box (zi r2))] h fun a w h=>za5 (za0 (Jf 3 [(1,.j1 j)] [] [(6,vI ((j:Int)+1))] h fun a w h=>za0 (za9 (x:=(j,out)) (y:=(j+1,r2)) h ?_ ?_)))
    ·have hc:x1.v=v/\0<=v:=⟨by simpa using hc2,by have:=hc3';omega⟩;exact ⟨by rw [er2,vo,zju hx1,if_pos hc],by have:=(bF.1 hx1).1;omega⟩
    (try simp);omega
   refine qU (za5 (za0 (Jf 3 [(1,.j1 j)] [26] [(6,vI ((j:Int)+1))] h fun a w h=>za0 (za9 (x:=(j,out)) (y:=(j+1,out)) h ?_ ?_))))
   ·exact ⟨by rw [hI1,zju hx1,if_neg (fun hc=>absurd hc.2 (by have:=hc4';omega)),dN],by have:=(bF.1 hx1).1;omega⟩
   (try simp);omega
  refine Je 3 [(3,.g (xD 18 16 ta_0 (za4 hx1 (f:=zbe.d)) (OV.tmp 17 _))),(7,.cmp (op:=.eql) (m:=x1.v) (n:=v) (b:=false) .i64 hc5)] [12] [(26,vb false)] h fun a w h=>zbs h (qU (za5 (za0 (Jf 3 [(1,.j1 j)] [26] [(6,vI ((j:Int)+1))] h fun a w h=>za0 (za9 (x:=(j,out)) (y:=(j+1,out)) h ?_ ?_)))))
  ·exact ⟨by rw [hI1,zju hx1,if_neg (fun hc=>absurd hc.1 (by simpa using hc5)),dN],by have:=(bF.1 hx1).1;omega⟩
  (try simp);omega
 refine exA (Jq 3 [] [(4,vp 1 0)] [(1,.box (zi out))] h fun a w h=>qV (rA 1 (zi out) h zgt rfl ?_));have hj:j=t.parts.length:=by have:=hc6';omega
 subst hj;rw [hI1,List.take_length];try rfl
theorem tb_0:ElZ dY 44 3 1:=ElZ.mk' Tryz.underlying44 _ _ rfl rfl
theorem zdj:SlT dY 44 3 1:=SlT.mk' Tryz.underlying44 (by kernel_rfl)
theorem tb_2:ElT dY 44 3 1 8:=ElT.mk' Tryz.underlying44 _ _ rfl rfl
theorem tb_9:ElZ dY 24 132 3:=ElZ.mk' Tryz.underlying24 _ _ rfl rfl
theorem zac {xs:List α} {x:α} (h:xs[j]?=some x):j<xs.length:=(bF.1 h).1
def zcq (v:Int) (s:List Int × Bool) (x:Int):List Int × Bool :=
  let s1:=if s.2=false/\v<=x then (s.1++[v],true) else s
  if x≠v then (s1.1++[x],s1.2) else s1
def insZ (list:List Int) (v:Int):List Int :=
  let r:=list.foldl (zcq v) ([],false)
  if r.2 then r.1 else r.1++[v]
theorem insStep_len (v:Int) (s:List Int × Bool) (x:Int):(zcq v s x).1.length+s.2.toNat<=s.1.length+1+(zcq v s x).2.toNat:=by
 obtain ⟨l,b⟩:=s
 unfold zcq
 cases b <;> by_cases h1:v<=x <;> by_cases h2:x=v <;> simp [h1,h2]
theorem insFold_len (v:Int):∀ (list:List Int) (s:List Int × Bool),(list.foldl (zcq v) s).1.length+s.2.toNat<=s.1.length+list.length+(list.foldl (zcq v) s).2.toNat
 | [],s=>by simp
 | x :: xs,s=>by
  have ih:=insFold_len v xs (zcq v s x)
  have h1:=insStep_len v s x
  simp only [cL,bK]
  omega
theorem insZ_len (list:List Int) (v:Int):(insZ list v).length<=list.length+1:=by
 have h:=insFold_len v list ([],false)
 unfold insZ
 cases hr:(list.foldl (zcq v) ([],false)).2 <;> simp [hr] at h ⊢ <;> omega
def zew (ps:List zbe) (out:List Int) (p:zbe):List Int:=if zbt ps p.v≠0 then insZ out p.v else out
def varsZ (ps:List zbe):List Int:=ps.foldl (zew ps) []
def zc6 (t:zd6):zd6:=⟨(varsZ t.parts).map fun v=>⟨v,d3 (zbt t.parts v)⟩,d3 t.k.val⟩
theorem zk1 (qs:List zbe):∀ (ps:List zbe) (out:List Int),(ps.foldl (zew qs) out).length<=out.length+ps.length
 | [],out=>by simp
 | p :: ps,out=>by
  have ih:=zk1 qs ps (zew qs out p)
  have h1:(zew qs out p).length<=out.length+1:=by
   unfold zew
   split
   ·exact insZ_len out p.v
   ·omega
  simp only [cL,bK]
  omega
theorem varsZ_len (ps:List zbe):(varsZ ps).length<=ps.length:=by have h:=zk1 ps ps [];simp at h;exact h
structure TOk (n L:Nat) (t:zd6):Prop where
  len:t.parts.length<=n
  ps:∀ p ∈ t.parts,Lb p.c.abs/\p.c.abs.length<=L
  kb:Lb t.k.abs
  kl:t.k.abs.length<=L
theorem TOk.mono {L L':Nat} {t:zd6} (h:TOk n L t) (hn:n<=n') (hL:L<=L'):TOk n' L' t :=
 ⟨bR h.len hn,fun p hp=>⟨(h.ps p hp).1,bR (h.ps p hp).2 hL⟩,h.kb,bR h.kl hL⟩
theorem TOk.psok {L:Nat} {t:zd6} (h:TOk 1000 L t):PsOk L t.parts:=⟨h.len,h.ps⟩
theorem TOk.get {L:Nat} {t:zd6} (h:TOk n L t) (hp:t.parts[j]?=some p):Lb p.c.abs/\p.c.abs.length<=L:=h.ps p (bL hp)
theorem TOk.plain {L:Nat} {t:zd6} (h:TOk n L t) (hn:n<=1000):TOk n (L+1) (zc6 t):=by
 refine ⟨?_,?_,ZI.lb_of _,?_⟩
 ·simp only [zc6,bI];exact bR (varsZ_len _) h.len
 ·intro p hp
  simp only [zc6,cD] at hp
  obtain ⟨v,_,rfl⟩:=hp
  exact ⟨ZI.lb_of _,coef_len (L:=L) ⟨bR h.len hn,h.ps⟩ v⟩
 ·have:=zhu h.kb;simp only [zc6];have:=h.kl;omega
def addT (a b:zd6):zd6:=zc6 ⟨a.parts++b.parts,d3 (a.k.val+b.k.val)⟩
def mulT (a:zd6) (n:ZI):zd6:=⟨a.parts.map fun p=>⟨p.v,d3 (p.c.val*n.val)⟩,d3 (a.k.val*n.val)⟩
def scaleT (a:zd6) (n:ZI):zd6:=zc6 (mulT a n)
def numT (k:ZI):zd6:=⟨[],d3 k.val⟩
def oneT (v:Int):zd6:=⟨[⟨v,d3 1⟩],⟨false,[]⟩⟩
def varT (v:Int):zd6:=zc6 (oneT v)
theorem TOk.add {L:Nat} {s t:zd6} (hs:TOk n L s) (ht:TOk m L t) (r:ZI) (hr:Lb r.abs) (lr:r.abs.length<=L+L+1):TOk (n+m) (L+L+1) ⟨s.parts++t.parts,r⟩:=by
 refine ⟨?_,?_,hr,lr⟩
 ·simp only [bX];have:=hs.len;have:=ht.len;omega
 ·intro p hp
  rcases cE.1 hp with h | h
  ·exact ⟨(hs.ps p h).1,by have:=(hs.ps p h).2;omega⟩
  ·exact ⟨(ht.ps p h).1,by have:=(ht.ps p h).2;omega⟩
theorem TOk.one {v:Int}:TOk 1 2 (oneT v):=⟨bZ _,fun p hp=>by
 simp only [oneT,dH] at hp
 subst hp
 exact ⟨ZI.lb_of _,show (d3 1).abs.length<=2 from by decide⟩,zhe,bJ _⟩
theorem TOk.mul {L:Nat} {t:zd6} {q:ZI} (ht:TOk n L t) (hq:Lb q.abs) (lq:q.abs.length<=M):TOk n (L+M) (mulT t q):=by
 refine ⟨by simp only [mulT,bI];exact ht.len,?_,ZI.lb_of _,?_⟩
 ·intro p hp
  simp only [mulT,cD] at hp
  obtain ⟨r,hr,rfl⟩:=hp
  obtain ⟨h1,h2⟩:=ht.ps r hr
  exact ⟨ZI.lb_of _,by have:=len_mul h1 hq;simp only;omega⟩
 ·have:=len_mul ht.kb hq;have:=ht.kl;simp only [mulT];omega
def subT (s t:zd6):zd6:=addT s (scaleT t (d3 (-1)))
theorem Scopied (x:ZI) (hx:Lb x.abs) (lx:x.abs.length<=100000):Fn dY 144 [] [vz x] (vz (d3 x.val)) []:=by
 refine fB Tryz.func144 rfl 8 fun w H B a h=>Jq 0 [] [(1,vp 0 0),(2,vp 1 0)] [(0,.box (zi x)),(1,.box [cB false,.d (nsl [])])] h fun a w h=>?_
 obtain ⟨r1,er1,vr1,or1,lr1⟩:=mkZ (v:=iv x.neg x.abs) (m:=x.abs.length) (zdt hx);refine Jd 2 [(4,.call (dZ (zke x.neg x.abs hx (by omega)) (congrArg vz er1.symm)))] [1] [] [(1,.box (zi r1))] h fun a w h=>qV (rA 1 (zi r1) h zgt rfl ?_);rw [er1];try rfl
section
variable {α:Type} (v:α->Int)
def Stb (xs ys:List α):Prop:=∀ k:Int,xs.filter (fun x=>decide (v x=k))=ys.filter (fun x=>decide (v x=k))
def Ris:List α->Prop
  | []=>True
  | x :: xs=>(∀ y ∈ xs,v x<=v y)/\Ris xs
variable {v}
theorem Stb.refl (xs:List α):Stb v xs xs:=fun _=>rfl
theorem Stb.symm {xs ys:List α} (h:Stb v xs ys):Stb v ys xs:=fun k=>(h k).symm
theorem Stb.trans {xs ys zs:List α} (h:Stb v xs ys) (g:Stb v ys zs):Stb v xs zs:=fun k=>(h k).trans (g k)
theorem Stb.app {xs ys zs us:List α} (h:Stb v xs ys) (g:Stb v zs us):Stb v (xs++zs) (ys++us):=fun k=>by rw [cX,cX,h k,g k]
theorem Stb.mem {xs ys:List α} (h:Stb v xs ys) {x:α} (hx:x ∈ xs):x ∈ ys:=by
 have h1:x ∈ xs.filter (fun y=>decide (v y=v x)):=cK.2 ⟨hx,by simp⟩
 rw [h (v x)] at h1
 exact (cK.1 h1).1
theorem Stb.swap {xs ys:List α} (h:∀ x ∈ xs,∀ y ∈ ys,v x≠v y):Stb v (xs++ys) (ys++xs):=by
 intro k
 rw [cX,cX]
 by_cases hx:∃ x ∈ xs,v x=k
 ·obtain ⟨x,hx,rfl⟩:=hx
  have:ys.filter (fun y=>decide (v y=v x))=[]:=dX.2 fun y hy=>by simpa using fun e=>h x hx y hy e.symm
  rw [this];simp
 ·have:xs.filter (fun x=>decide (v x=k))=[]:=dX.2 fun x hx2=>by simpa using fun e=>hx ⟨x,hx2,e⟩
  rw [this];simp
theorem Stb.nil {ys:List α} (h:Stb v [] ys):ys=[]:=by
 cases ys with
 | nil=>rfl
 | cons y ys=>exact absurd (h.symm.mem (cM ..)) (by simp)
theorem Ris.unique:∀ {xs ys:List α}, Ris v xs->Ris v ys->Stb v xs ys->xs=ys
 | [],ys,_,_,h=>h.nil.symm
 | x :: xs,[],_,_,h=>absurd (h.mem (cM ..)) (by simp)
 | x :: xs,y :: ys,hx,hy,h=>by
  have h1:v y<=v x:=by
   rcases bS.1 (h.mem (cM ..)) with e | e
   ·rw [e];exact Int.le_refl _
   ·exact hy.1 x e
  have h2:v x<=v y:=by
   rcases bS.1 (h.symm.mem (cM ..)) with e | e
   ·rw [e];exact Int.le_refl _
   ·exact hx.1 y e
  have hv:v x=v y:=by omega
  have hk:=h (v x)
  simp only [cJ,decide_true,hv,if_true] at hk
  injection hk with e1 _
  subst e1
  have ht:Stb v xs ys:=by
   intro k
   have:=h k
   simp only [cJ] at this
   split at this
   ·injection this
   ·exact this
  rw [Ris.unique hx.2 hy.2 ht]
theorem Ris.app {xs ys:List α}:Ris v (xs++ys) ↔ Ris v xs/\Ris v ys/\∀ x ∈ xs,∀ y ∈ ys,v x<=v y:=by
 induction xs with
 | nil=>simp [Ris]
 | cons x xs ih =>
  simp only [List.cons_append,Ris,ih,cE,bS]
  constructor
  ·rintro ⟨h1,h2,h3,h4⟩
   refine ⟨⟨fun y hy=>h1 y (.inl hy),h2⟩,h3,?_⟩
   rintro z (rfl | hz) y hy
   ·exact h1 y (.inr hy)
   ·exact h4 z hz y hy
  ·rintro ⟨⟨h1,h2⟩,h3,h4⟩
   refine ⟨?_,h2,h3,fun z hz y hy=>h4 z (.inr hz) y hy⟩
   rintro y (hy | hy)
   ·exact h1 y hy
   ·exact h4 x (.inl rfl) y hy
theorem Stb.length {xs ys:List α}:∀ (n:Nat) (_:xs.length=n) (_:Stb v xs ys),xs.length=ys.length:=by
 intro n
 induction n generalizing xs ys with
 | zero=>intro h hs;rw [b7.1 h] at hs ⊢;rw [hs.nil]
 | succ n ih =>
  intro h hs
  cases xs with
  | nil=>cases h
  | cons x xs =>
   have hx:=hs.mem (cM ..)
   obtain ⟨y1,y2,rfl,hn⟩:∃ y1 y2,ys=y1++x :: y2/\∀ y ∈ y1,v y≠v x:=by
    have hk:=hs (v x)
    simp only [cJ,decide_true,if_true] at hk
    clear h hs ih hx
    induction ys with
    | nil=>simp at hk
    | cons y ys ih2 =>
     by_cases e:v y=v x
     ·simp only [cJ,e,decide_true,if_true] at hk
      injection hk with e1 _
      exact ⟨[],ys,by rw [e1];rfl,by simp⟩
     ·simp only [cJ,e,decide_false,Bool.false_eq_true,if_false] at hk
      obtain ⟨y1,y2,rfl,h2⟩:=ih2 hk
      exact ⟨y :: y1,y2,rfl,fun z hz=>by rcases bS.1 hz with rfl | hz;exact e;exact h2 z hz⟩
   have hs2:Stb v (y1++x :: y2) (x :: (y1++y2)):=by
    have:=(Stb.swap (v:=v) (xs:=y1) (ys:=[x]) fun a ha b hb=>by rw [dH.1 hb];exact hn a ha).app (Stb.refl y2)
    simpa using this
   have hs3:=hs.trans hs2
   have ht:Stb v xs (y1++y2):=by
    intro k
    have:=hs3 k
    simp only [cJ] at this
    split at this
    ·injection this
    ·exact this
   have:=ih (by simpa using h) ht
   simp only [bK,bX] at this ⊢
   omega
end
theorem zc9 {xs:List α} {F:α->List D} (i:Nat) (x0:List D) (x1:α) {ds:List D} (h:zkl x0 fo ds=F x1):(xs.map F).set i (zkl x0 fo ds)=(xs.set i x1).map F:=by rw [h,List.map_set]
inductive BO:Option Operand->Nat->Nat->List (Nat × V)->Prop
  | no (n:Nat):BO none n n []
  | yes {y:Operand} {k:IntKind} {i:Nat} {rs:List (Nat × V)} (n:Nat) (h:OV y (vi k i) rs):BO (some y) n i rs
section
variable {P:Program}
theorem BO.low {x:Option Operand} (hx:BO x 0 l rs) (hok:Ok e f H B a w) (hr:∀ p ∈ rs,f.s p.1=some p.2) (hl:l<=h) (c:BoundsCode) :
  (match x.map a.eval with | some v=>Instr.sliceBound v h c | none=>pure 0).run P w = .ok l w:=by
 cases hx with
 | no=>simp
 | yes _ hv =>
  have h2:=(hv.eval hok hr).rawI
  simp only [bW]
  rw [h2,run_sliceBound (P:=P) w _ _ h c (by omega) (by omega)]
  simp
theorem BO.high {x:Option Operand} (hx:BO x n l rs) (hok:Ok e f H B a w) (hr:∀ p ∈ rs,f.s p.1=some p.2) (hl:l<=h) (c:BoundsCode) :
  (match x.map a.eval with | some v=>Instr.sliceBound v h c | none=>pure n).run P w = .ok l w:=by
 cases hx with
 | no=>simp
 | yes _ hv =>
  have h2:=(hv.eval hok hr).rawI
  simp only [bW]
  rw [h2,run_sliceBound (P:=P) w _ _ h c (by omega) (by omega)]
  simp
theorem run_bounds {lo hi:Option Operand} {len cap:Nat} {is:Bool} (hl:BO lo 0 l rs) (hh:BO hi len h rs') (hok:Ok e f H B a w) (hr:∀ p ∈ rs,f.s p.1=some p.2) (hr':∀ p ∈ rs', f.s p.1=some p.2)
  (h1:l<=h) (h2:h<=cap):(Instr.sliceBounds is len cap (lo.map a.eval) (hi.map a.eval) none).run P w = .ok (l,h,cap) w:=by
 have g1:=hl.low (P:=P) hok hr h1 .sliceB
 have g2:=hh.high (P:=P) hok hr' h2 (if is then .sliceAcap else .sliceAlen)
 cases lo with
 | none =>
  cases hi with
  | none=>cases hl;cases hh;simp [Instr.sliceBounds]
  | some y=>simp only [bW,Option.map_none] at g1 g2 ⊢;cases hl;simp [Instr.sliceBounds,g2]
 | some x =>
  cases hi with
  | none=>simp only [bW,Option.map_none] at g1 g2 ⊢;cases hh;simp [Instr.sliceBounds,g1]
  | some y=>simp only [bW] at g1 g2 ⊢;simp [Instr.sliceBounds,g1,g2]
theorem zjd {t:TypeId} (hs:SlT P t el es) {len cap:Nat} {lo hi:Option Value} (hb:(Instr.sliceBounds true len cap lo hi none).run P w = .ok (l,h,cap) w) :
  (Instr.sliceAt t (.slice ao len cap) lo hi none).run P w = .ok (.slice (if cap=l then ao else ao.map (·.add (l*es))) (h - l) (cap - l)) w:=by
 simp only [Instr.sliceAt,Instr.slice,Sem.run_bind,run_underlying hs.hu,Result.andThen_ok,hb,size_run hs.hs,Sem.run_pure]
theorem Op.sliceD {d:Nat} {lo hi:Option Operand} {pos af gd} (hs:SlT P xt el es) (hl:BO lo 0 l rs) (hh:BO hi rows.length h rs') (h1:l<=h) (h2:h<=rows.length) (he:(rows.drop l).take (h - l)=rows') :
  zb6 P ⟨some d,.slice xt (.tmp t) lo hi none,ty,pos,af,gd⟩ { rs:=(t,.t (.c (.d (.sl es rows)))) :: (rs++rs'),ws:=[(d,some (.t (.c (.d (.sl es rows')))))] } :=
 zb6.value d _ rfl rfl rfl fun e f H B a w hok hr2=>by
  have g1:=hok.slot t _ (hr2.1 (t,.t (.c (.d (.sl es rows)))) (by simp))
  have g3:DR H (.sl es rows) (a.eval (.tmp t)):=g1
  have bounds:∀ cap,rows.length<=cap->(Instr.sliceBounds true rows.length cap (lo.map a.eval) (hi.map a.eval) none).run P w = .ok (l,h,cap) w:=fun cap hc =>
   run_bounds hl hh hok (fun p hp=>hr2.1 p (by simp [hp])) (fun p hp=>hr2.1 p (by simp [hp])) h1 (by omega)
  generalize hv0:a.eval (.tmp t)=v at g3
  subst he
  cases g3 with
  | nil _ ao c k1 k2 =>
   obtain rfl:h=0:=by simpa using h2
   obtain rfl:l=0:=by omega
   have hrun:=zjd (ao:=ao) hs (bounds c (bJ _))
   refine ⟨.slice (if c=0 then ao else ao.map (·.add (0*es))) (0 - 0) (c - 0),?_,?_⟩
   ·generalize a.eval=ρ at hv0 hrun ⊢
    have hrun':(Instr.sliceAt xt (ρ (.tmp t)) (lo.map ρ) (hi.map ρ) ((none:Option Operand).map ρ)).run P w = .ok (.slice (if c=0 then ao else ao.map (·.add (0*es))) (0 - 0) (c - 0)) w:=by rw [hv0];exact hrun
    simp only [execOp,Sem.run_bind,hrun', Result.andThen_ok,Sem.run_pure]
   ·show DR H _ _
    simp only [List.drop_nil,List.take_nil,Nat.sub_zero]
    refine DR.nil es _ c (fun hn=>?_) k2
    split at hn
    ·exact k1 hn
    ·cases ao with
     | none=>exact k1 rfl
     | some _=>cases hn
  | sl _ _ b o c arr ty' fz vs hp hb hlc hc hes hv hx =>
   have hrun:=zjd (ao:=some ⟨b,o,none⟩) hs (bounds c hlc)
   refine ⟨.slice (if c=l then some ⟨b,o,none⟩ else (some (⟨b,o,none⟩:Addr)).map (·.add (l*es))) (h - l) (c - l),?_,?_⟩
   ·generalize a.eval=ρ at hv0 hrun ⊢
    have hrun':(Instr.sliceAt xt (ρ (.tmp t)) (lo.map ρ) (hi.map ρ) ((none:Option Operand).map ρ)).run P w = .ok (.slice (if c=l then some ⟨b,o,none⟩ else (some (⟨b,o,none⟩:Addr)).map (·.add (l*es))) (h - l) (c - l)) w:=by rw [hv0];exact hrun
    simp only [execOp,Sem.run_bind,hrun', Result.andThen_ok,Sem.run_pure]
   ·show DR H _ _
    by_cases h0:h - l=0
    ·rw [h0,List.take_zero]
     refine DR.nil es _ _ (fun hn=>?_) (by omega)
     split at hn <;> cases hn
    ·have hlen:((rows.drop l).take (h - l)).length=h - l:=by rw [bT,cO];omega
     rw [if_neg (by omega)]
     simp only [bW,Addr.add_mid]
     have:=DR.sl (H:=H) es ((rows.drop l).take (h - l)) b (o+l*es) (c - l) arr ty' fz (fun i j=>vs (l+i) j) (by omega) hb (by omega) (by omega) (fun i hi2=>by
       rw [c8,cZ];exact hes _ _)
      (fun i hi2 j hj=>by
       have:=hv (l+i) (by omega) j hj
       rw [bM] at this
       rw [<- this];congr 1;omega)
      (fun i hi2 j hj=>by
       have e1:((rows.drop l).take (h - l))[i]=rows[l+i]'(by omega):=by rw [c8,cZ]
       have hj':j<(rows[l+i]'(by omega)).length:=by rw [<- e1];exact hj
       have e2:((rows.drop l).take (h - l))[i][j]=(rows[l+i]'(by omega))[j]:=by simp only [e1]
       rw [e2];exact hx (l+i) (by omega) j hj')
     rwa [hlen] at this
theorem Ok.ownCap (h:Ok e f H B a w) (hl:f.l n=some (.row ty es rows)) {len:Nat} (hk:k<=rows.length) (hv:CR H B (.own n len) v) :
  ∃ ao c,v = .slice ao len c/\k<=c/\((B n=none/\len=0/\c=0)\/∃ b,B n=some (b,c)/\ao=some ⟨b,0,none⟩):=by
 simp only [CR] at hv
 cases hB:B n with
 | none =>
  rw [hB] at hv
  obtain ⟨rfl,ao,rfl⟩:=hv
  have h1:=h.loc n _ hl
  simp only [LR,hB] at h1
  rw [h1] at hk
  exact ⟨ao,0,rfl,hk,.inl ⟨rfl,rfl,rfl⟩⟩
 | some q =>
  obtain ⟨b,c⟩:=q
  rw [hB] at hv
  obtain ⟨arr,g1,g2,g3,g4,g5,g6⟩:=h.row hl hB
  exact ⟨_,c,hv,by omega,.inr ⟨b,rfl,rfl⟩⟩
theorem Op.sliceHi {d len:Nat} {k:IntKind} {pos af gd} (hs:SlT P xt el es) (hlen:h<=rows.length) (hy:OV y (vi k h) rs) :
  zb6 P ⟨some d,.slice xt (.tmp t) none (some y) none,ty,pos,af,gd⟩ { rs:=(t,.t (.c (.own n len))) :: rs,rl:=[(n,.row rty es rows)],ws:=[(d,some (.t (.c (.own n h))))] } :=
 zb6.value d _ rfl rfl rfl fun e f H B a w hok hr2=>by
  have g1:=hok.slot t _ (hr2.1 (t,.t (.c (.own n len))) (by simp))
  obtain ⟨ao,c,hv,hc,hB⟩:=hok.ownCap (hr2.2 (n,.row rty es rows) (by simp)) hlen g1
  have hv:a.eval (.tmp t) = .slice ao len c:=hv
  have hb:=run_bounds (P:=P) (is:=true) (lo:=none) (hi:=some y) (len:=len) (cap:=c) (BO.no 0) (BO.yes len hy) hok (fun p hp=>by cases hp) (fun p hp=>hr2.1 p (by simp [hp])) (bJ _) (by omega)
  have hrun:=zjd (ao:=ao) hs hb
  have e1:(if c=0 then ao else ao.map (·.add (0*es)))=ao:=by
   split
   ·rfl
   ·rcases hB with ⟨_,_,h3⟩ | ⟨b,h3,rfl⟩
    ·omega
    ·simp [Addr.add_mid]
  rw [e1] at hrun
  refine ⟨.slice ao h c,?_,?_⟩
  ·generalize a.eval=ρ at hv hrun ⊢
   have hrun':(Instr.sliceAt xt (ρ (.tmp t)) ((none:Option Operand).map ρ) ((some y).map ρ) ((none:Option Operand).map ρ)).run P w = .ok (.slice ao h c) w:=by rw [hv];exact hrun
   simp only [execOp,Sem.run_bind,hrun', Result.andThen_ok,Sem.run_pure]
  ·show CR H B (.own n h) _
   simp only [CR]
   rcases hB with ⟨h2,h3,h4⟩ | ⟨b,h3,rfl⟩
   ·rw [h2];exact ⟨by omega,ao,by rw [show h=0 by omega,h4]⟩
   ·rw [h3]
theorem midH {x y:Code} (_h:St ⟨w0,H0,B0,K,N⟩ (F.of sl lc) a w) (sl':List (Nat × V)) (lc':List (Nat × L))
  (hx:x.wp P (Exit.then (fun a w=>St ⟨w0,H0,B0,K,N⟩ (F.of sl' lc') a w) Q) a w) (hy:∀ a w,St ⟨w0,H0,B0,K,N⟩ (F.of sl' lc') a w->y.wp P Q a w):(Code.seq x y).wp P Q a w:=midS sl' lc' hx hy
theorem nilDSr (t j es:Nat) (v:V) (ao:Option Addr) (c:Nat) (h1:ao=none->c=0) (h2:c<=maxLen) (sl':List (Nat × V)) (lc':List (Nat × L)) (h:St ⟨w0,H0,B0,K,N⟩ (F.of sl lc) a w) (hv:sl.lookup t=some v) (hg:v.getC j=some (.d (.raw (.slice ao 0 c))))
  (h3:leS ((F.of sl lc).setS t (v.setC j (.d (.sl es [])))) sl'=sl'.map fun p=>some p.2:=by kernel_rfl) (h4:leN ((F.of sl lc).setS t (v.setC j (.d (.sl es [])))) lc'=lc'.map fun p=>some p.2:=by kernel_rfl):St ⟨w0,H0,B0,K,N⟩ (F.of sl' lc') a w :=
 (h.nilDS t j es (ao:=ao) hv hg h1 h2).weaken (zht h3 h4)
theorem run_eqNil (hu:P.underlying xt=some (.slice el)) (ao:Option Addr) (n c:Nat) (x y:Operand) (w:World) :
  (do eqGuard .eql xt x y (.slice ao n c) zaa;binOp .eql xt (.slice ao n c) zaa:Sem Value).run P w = .ok (.bool ao.isNone) w:=by
 have h1:(eqGuard .eql xt x y (.slice ao n c) zaa).run P w = .ok () w:=by simp [eqGuard,zaa]
 have h2:(binOp .eql xt (.slice ao n c) zaa).run P w = .ok (.bool ao.isNone) w:=by
  show (do pure (Value.bool (<- Op.equal xt (.slice ao n c) (.slice none 0 0))):Sem Value).run P w=_
  simp only [Sem.run_bind,run_equal_slice_nil (P:=P) w xt el ao n c hu,Result.andThen_ok,Sem.run_pure]
 simp only [Sem.run_bind,h1,Result.andThen_ok,h2]
theorem Op.eqNilR {d:Nat} {c:Nat} {pos af gd} (hu:P.underlying xt=some (.slice el)) (h:OV x (.t (.c (.d (.raw (.slice ao n c))))) rs) (h':OV y (.t (.c (.d (.raw zaa)))) rs') :
  zb6 P ⟨some d,.binOp .eql xt x y yt,ty,pos,af,gd⟩ { rs:=rs++rs', ws:=[(d,some (vb ao.isNone))] }:=by
 refine Op.raw2 rfl h h' rfl fun ρ w h1 h2=>?_
 have:=run_eqNil (P:=P) hu ao n c x y w
 simp only [Sem.run_bind] at this
 simp only [execOp,h1,h2,Sem.run_bind,this,Result.andThen_ok,Sem.run_pure]
theorem Op.eqNilD {d:Nat} {pos af gd} (hu:P.underlying xt=some (.slice el)) (hn:0<rows.length) (h':OV y (.t (.c (.d (.raw zaa)))) rs') :
  zb6 P ⟨some d,.binOp .eql xt (.tmp t) y yt,ty,pos,af,gd⟩ { rs:=(t,.t (.c (.d (.sl es rows)))) :: rs', ws:=[(d,some (vb false))] } :=
 zb6.value d _ rfl rfl rfl fun e f H B a w hok hr2=>by
  have h1:=hok.slot t _ (hr2.1 (t,.t (.c (.d (.sl es rows)))) (by simp))
  have h2:a.eval y=zaa:=(h'.eval hok fun p hp=>hr2.1 p (by simp [hp])).rawI
  have h3:DR H (.sl es rows) (a.eval (.tmp t)):=h1
  generalize hv0:a.eval (.tmp t)=v at h3
  cases h3 with
  | nil ao c=>simp at hn
  | sl _ _ b o c arr ty' fz vs hp hb hl hc hes hv hx =>
   refine ⟨.bool false,?_,DR.raw _ rfl⟩
   generalize a.eval=ρ at hv0 h2 ⊢
   have:=run_eqNil (P:=P) hu (some ⟨b,o,none⟩) rows.length c (.tmp t) y w
   simp only [Sem.run_bind] at this
   simp only [execOp,hv0,h2,Sem.run_bind,this,Result.andThen_ok,Sem.run_pure]
   rfl
theorem Fn.rawE {k:FuncId} {ps qs:List (Nat × L)} {res:V} (h:∀ (ao:Option Addr) (c:Nat),(ao=none->c=0)->c<=maxLen->Fn P k ps [vW (.slice ao 0 c)] res qs):Fn P k ps [vS es []] res qs:=by
 intro w H B vals pre
 obtain ⟨h1,h2,h3,h4,h5,h0⟩:=pre
 cases vals with
 | nil=>exact h5.elim
 | cons v vs =>
  have h6:DR H (.sl es []) v:=h5.1
  cases h6 with
  | sl _ _ b o c arr ty fz ws hp=>exact absurd hp (by simp)
  | nil _ ao c g1 g2=>exact h ao c g1 g2 w H B _ ⟨h1,h2,h3,h4,⟨DR.raw _ rfl,h5.2⟩,h0⟩
end
inductive Blk (s:Nat):List zbe->Prop
  | last (l:List zbe) (h:Ris zbe.v l) (hl:l.length<=s):Blk s l
  | cons (X l:List zbe) (hX:X.length=s) (h:Ris zbe.v X) (hl:Blk s l):Blk s (X++l)
theorem Blk.one {s:Nat} {l:List zbe} (h:Blk s l) (hl:s<=l.length):∃ X r,l=X++r/\X.length=s/\Ris zbe.v X/\Blk s r:=by
 cases h with
 | last _ h h2=>exact ⟨l,[],by simp,by omega,h,.last _ trivial (bJ _)⟩
 | cons X l' hX h hl'=>exact ⟨X,l', rfl,hX,h,hl'⟩
def Pfx (s:Nat) (P:List zbe):Prop:=∀ Z,Blk s Z->Blk s (P++Z)
theorem Pfx.nil (s:Nat):Pfx s []:=fun _ h=>h
theorem Pfx.snoc {s:Nat} {P M:List zbe} (h:Pfx s P) (hM:M.length=s) (rM:Ris zbe.v M):Pfx s (P++M):=fun Z hZ=>by
 rw [List.append_assoc];exact h _ (.cons M Z hM rM hZ)
theorem Stb.len {xs ys:List zbe} (h:Stb zbe.v xs ys):xs.length=ys.length:=Stb.length xs.length rfl h
def MOk (L j:Nat) (out:List zbe):Prop:=∀ q ∈ out,q.c=d3 q.c.val/\q.c.val.natAbs<=j*pw L
theorem MOk.lb {L:Nat} {out:List zbe} (h:MOk L j out) {q:zbe} (hq:q ∈ out) (hj:j<=1000):Lb q.c.abs/\q.c.abs.length<=L+1:=by
 obtain ⟨h1,h2⟩:=h q hq
 rw [h1]
 refine ⟨ZI.lb_of _,ZI.len_of ?_⟩
 have h3:j*pw L<=1000*pw L:=bH _ hj
 have h4:=zfd L
 rw [zby];omega
abbrev SR (l:List zbe):Prop:=l.Pairwise fun p q=>p.v<q.v
theorem zjv {l:List zbe} {v:Int} (h:∀ q ∈ l,q.v≠v):zbt l v=0:=by
 induction l with
 | nil=>rfl
 | cons q l ih=>simp only [zbt];rw [ih fun x hx=>h x (by simp [hx]),if_neg fun e=>h q (by simp) e.1];rfl
theorem SR.head {l:List zbe} (s:SR (p :: l)) (h0:0<=p.v):zbt (p :: l) p.v=p.c.val:=by
 rw [zbt,if_pos ⟨rfl,h0⟩,zjv (fun q hq=>by have:=(b9.1 s).1 q hq;omega),dN]
theorem SR.below {l:List zbe} {v:Int} (s:SR (p :: l)) (hv:v<p.v):zbt (p :: l) v=0:=by
 refine zjv fun q hq=>?_
 rcases bS.1 hq with rfl | hq
 ·omega
 ·have:=(b9.1 s).1 q hq;omega
theorem SR.unique:∀ {l m:List zbe}, SR l->SR m->(∀ q ∈ l,0<=q.v/\q.c=d3 q.c.val/\q.c.val≠0)->(∀ q ∈ m,0<=q.v/\q.c=d3 q.c.val/\q.c.val≠0)->(∀ v,zbt l v=zbt m v)->l=m
 | [],[],_,_,_,_,_=>rfl
 | p :: l,[],s1,_,h1,_,h=>by
  have e:=h p.v
  rw [s1.head (h1 p (by simp)).1] at e
  exact absurd e (h1 p (by simp)).2.2
 | [],q :: m,_,s2,_,h2,h=>by
  have e:=h q.v
  rw [s2.head (h2 q (by simp)).1] at e
  exact absurd e.symm (h2 q (by simp)).2.2
 | p :: l,q :: m,s1,s2,h1,h2,h=>by
  obtain ⟨p0,p1,p2⟩:=h1 p (by simp)
  obtain ⟨q0,q1,q2⟩:=h2 q (by simp)
  rcases Int.lt_trichotomy p.v q.v with hv | hv | hv
  ·have e:=h p.v
   rw [s1.head p0,s2.below hv] at e
   exact absurd e p2
  ·have e:=h p.v
   rw [s1.head p0,hv,s2.head q0] at e
   have epq:p=q:=by
    cases p;cases q
    simp only at hv e p1 q1
    subst hv
    rw [p1,q1,e]
   subst epq
   rw [SR.unique (b9.1 s1).2 (b9.1 s2).2 (fun x hx=>h1 x (by simp [hx])) (fun x hx=>h2 x (by simp [hx])) fun v=>by
    have:=h v
    simp only [zbt] at this
    omega]
  ·have e:=h q.v
   rw [s2.head q0,s1.below hv] at e
   exact absurd e.symm q2
theorem SR.last {o:List zbe} {q:zbe} (h:SR (o++[q])):∀ x ∈ o,x.v<q.v:=fun x hx=>(List.pairwise_append.1 h).2.2 x hx q (by simp)
def insR (v:Int):List Int->List Int
  | []=>[v]
  | x :: l=>if v<=x then v :: (x :: l).filter (fun y=>decide (y≠v)) else x :: insR v l
theorem zku (v:Int):∀ (l acc:List Int),l.foldl (zcq v) (acc,true)=(acc++l.filter (fun y=>decide (y≠v)),true)
 | [],acc=>by simp
 | x :: l,acc=>by
  have e:zcq v (acc,true) x=(if x≠v then (acc++[x],true) else (acc,true)):=by simp [zcq]
  rw [cL,e]
  by_cases h:x=v
  ·rw [if_neg (fun g=>g h),zku v l acc];simp [h]
  ·rw [if_pos h,zku v l (acc++[x])];simp [h]
theorem insZ_R (v:Int):∀ (l acc:List Int),(if (l.foldl (zcq v) (acc,false)).2=true then (l.foldl (zcq v) (acc,false)).1 else (l.foldl (zcq v) (acc,false)).1++[v])=acc++insR v l
 | [],acc=>by simp [insR]
 | x :: l,acc=>by
  rw [cL]
  by_cases h:v<=x
  ·have e:zcq v (acc,false) x=(if x≠v then (acc++[v]++[x],true) else (acc++[v],true)):=by simp [zcq,h]
   by_cases h2:x=v
   ·rw [if_neg (fun g=>g h2)] at e
    rw [e,zku];simp [insR,h2]
   ·rw [if_pos h2] at e
    rw [e,zku];simp [insR,h,h2]
  ·have h2:x≠v:=by omega
   have e:zcq v (acc,false) x=(acc++[x],false):=by simp [zcq,h,h2]
   rw [e,insZ_R v l (acc++[x])]
   simp [insR,h]
theorem insZ_eq (l:List Int) (v:Int):insZ l v=insR v l:=by have:=insZ_R v l [];simpa [insZ] using this
abbrev SRi (l:List Int):Prop:=l.Pairwise fun x y=>x<y
theorem insR_mem (v x:Int):∀ l:List Int,x ∈ insR v l ↔ x=v\/x ∈ l
 | []=>by simp [insR]
 | y :: l=>by
  simp only [insR]
  split
  ·simp only [bS,cK,decide_eq_true_eq]
   by_cases h:x=v <;> simp [h]
  ·simp only [bS,insR_mem v x l]
   constructor
   ·rintro (h | h | h) <;> simp [h]
   ·rintro (h | h | h) <;> simp [h]
theorem insR_sr (v:Int):∀ {l:List Int}, SRi l->SRi (insR v l)
 | [],_=>by simp [insR]
 | y :: l,h=>by
  obtain ⟨h1,h2⟩:=b9.1 h
  simp only [insR]
  split
  ·rename_i hv
   refine b9.2 ⟨fun z hz=>?_,h.filter _⟩
   obtain ⟨hz1,hz2⟩:=cK.1 hz
   have hz2:z≠v:=by simpa using hz2
   rcases bS.1 hz1 with rfl | hz1
   ·omega
   ·have:=h1 z hz1;omega
  ·refine b9.2 ⟨fun z hz=>?_,insR_sr v h2⟩
   rcases (insR_mem v z l).1 hz with rfl | hz
   ·omega
   ·exact h1 z hz
theorem varsFold (ps:List zbe):∀ (qs:List zbe) (out:List Int),SRi out->SRi (qs.foldl (zew ps) out)/\∀ x,x ∈ qs.foldl (zew ps) out ↔ x ∈ out\/∃ q ∈ qs,q.v=x/\zbt ps x≠0
 | [],out,h=>⟨h,fun x=>by simp⟩
 | q :: qs,out,h=>by
  have h1:SRi (zew ps out q):=by
   unfold zew
   split
   ·rw [insZ_eq];exact insR_sr _ h
   ·exact h
  obtain ⟨i1,i2⟩:=varsFold ps qs _ h1
  refine ⟨i1,fun x=>?_⟩
  rw [cL,i2 x]
  have h2:x ∈ zew ps out q ↔ x ∈ out\/(q.v=x/\zbt ps x≠0):=by
   unfold zew
   split
   ·rename_i hc
    rw [insZ_eq,insR_mem]
    constructor
    ·rintro (rfl | h)
     ·exact .inr ⟨rfl,hc⟩
     ·exact .inl h
    ·rintro (h | ⟨rfl,_⟩)
     ·exact .inr h
     ·exact .inl rfl
   ·rename_i hc
    constructor
    ·exact .inl
    ·rintro (h | ⟨rfl,h⟩)
     ·exact h
     ·exact absurd h hc
  rw [h2]
  constructor
  ·rintro ((h | h) | ⟨p,hp,h⟩)
   ·exact .inl h
   ·exact .inr ⟨q,by simp,h⟩
   ·exact .inr ⟨p,by simp [hp],h⟩
  ·rintro (h | ⟨p,hp,h⟩)
   ·exact .inl (.inl h)
   ·rcases bS.1 hp with rfl | hp
    ·exact .inl (.inr h)
    ·exact .inr ⟨p,hp,h⟩
theorem ze6 {v:Int} (h:zbt ps v≠0):0<=v/\∃ q ∈ ps,q.v=v:=by
 refine ⟨Int.not_lt.1 fun hv=>h ?_,?_⟩
 ·induction ps with
  | nil=>rfl
  | cons p ps ih =>
   simp only [zbt] at h ⊢
   rw [if_neg (by omega),Int.zero_add] at h ⊢
   exact ih h
 ·exact Classical.byContradiction fun hq=>h (zjv fun q hq1 hq2=>hq ⟨q,hq1,hq2⟩)
theorem varsZ_ok (ps:List zbe):SRi (varsZ ps)/\∀ x,x ∈ varsZ ps ↔ zbt ps x≠0:=by
 obtain ⟨h1,h2⟩:=varsFold ps ps [] List.Pairwise.nil
 refine ⟨h1,fun x=>(h2 x).trans ⟨?_,fun h=>?_⟩⟩
 ·rintro (h | ⟨_,_,_,h⟩)
  ·cases h
  ·exact h
 ·obtain ⟨_,q,hq,e⟩:=ze6 h
  exact .inr ⟨q,hq,e,h⟩
def zij (ps:List zbe) (v:Int):zbe:=⟨v,d3 (zbt ps v)⟩
theorem coefZ_map (ps:List zbe) (v:Int) (hv:0<=v):∀ {l:List Int}, SRi l->zbt (l.map (zij ps)) v=if v ∈ l then zbt ps v else 0
 | [],_=>rfl
 | x :: l,h=>by
  obtain ⟨h1,h2⟩:=b9.1 h
  simp only [List.map_cons,zbt,coefZ_map ps v hv h2]
  by_cases e:x=v
  ·subst e
   have:x ∉ l:=fun hx=>by have:=h1 x hx;omega
   simp [zij,hv,this,d4]
  ·have e':¬ v=x:=fun g=>e g.symm
   simp [zij,e,e']
theorem tl_7:Sz dY 3 1 false:=Sz.mk' (by kernel_rfl) Tryz.underlying3 _ rfl
section
variable {P:Program}
theorem C.owns_tags {c:C} (h:k ∈ c.owns n):n ∈ c.tags:=by
 cases c with
 | own m j =>
  simp only [C.owns] at h
  split at h
  ·rename_i e;rw [bC e];simp [C.tags]
  ·cases h
 | _=>simp [C.owns] at h
theorem T.owns_tags {x:T} (h:k ∈ x.owns n):n ∈ x.tags:=by
 cases x with
 | c x=>exact C.owns_tags h
 | agg cs =>
  obtain ⟨c,hc,hk⟩:=bE.1 h
  exact bE.2 ⟨c,hc,C.owns_tags hk⟩
theorem V.owns_tags {x:V} (h:k ∈ x.owns n):n ∈ x.tags:=by
 cases x with
 | t x=>exact T.owns_tags h
 | tup cs =>
  obtain ⟨c,hc,hk⟩:=bE.1 h
  exact bE.2 ⟨c,hc,T.owns_tags hk⟩
theorem L.owns_tags {x:L} (h:k ∈ x.owns n):n ∈ x.tags:=by
 cases x with
 | box cs =>
  obtain ⟨c,hc,hk⟩:=bE.1 h
  exact bE.2 ⟨c,hc,C.owns_tags hk⟩
 | row _ _ _=>simp [L.owns] at h
 | rowc _ _ r =>
  obtain ⟨c,hc,hk⟩:=bE.1 h
  exact bE.2 ⟨c,hc,C.owns_tags hk⟩
 | mp _=>simp [L.owns] at h
 | bld _ c rest =>
  simp only [L.owns] at h
  simp only [L.tags]
  rcases cE.1 h with h | h
  ·exact dQ _ (C.owns_tags h)
  ·obtain ⟨c,hc,hk⟩:=bE.1 h
   exact dR _ (bE.2 ⟨c,hc,C.owns_tags hk⟩)
theorem zgm (h:m≠n):Nat.beq m n=false:=by
 cases e:Nat.beq m n with
 | false=>rfl
 | true=>exact absurd (bC e) h
theorem C.pub_id {c:C} (h:n ∉ c.tags):c.pub n es rows=c:=by
 cases c <;> simp only [C.pub]
 all_goals (rw [zgm (fun e=>h (by simp [C.tags,e]))];rfl)
theorem zc2 {f:α->α}:∀ {l:List α}, (∀ x ∈ l,f x=x)->l.map f=l
 | [],_=>rfl
 | x :: l,h=>by rw [List.map_cons,h x (by simp),zc2 fun y hy=>h y (by simp [hy])]
theorem T.pub_id {x:T} (h:n ∉ x.tags):x.pub n es rows=x:=by
 cases x with
 | c x=>simp only [T.pub];rw [C.pub_id h]
 | agg cs=>simp only [T.pub];rw [zc2 fun c hc=>C.pub_id fun hn=>h (bE.2 ⟨c,hc,hn⟩)]
theorem V.pub_id {x:V} (h:n ∉ x.tags):x.pub n es rows=x:=by
 cases x with
 | t x=>simp only [V.pub];rw [T.pub_id h]
 | tup cs=>simp only [V.pub];rw [zc2 fun c hc=>T.pub_id fun hn=>h (bE.2 ⟨c,hc,hn⟩)]
theorem L.pub_id {x:L} (h:n ∉ x.tags):x.pub n es rows=x:=by
 cases x with
 | box cs=>simp only [L.pub];rw [zc2 fun c hc=>C.pub_id fun hn=>h (bE.2 ⟨c,hc,hn⟩)]
 | row _ _ _=>rfl
 | rowc _ _ r=>simp only [L.pub];rw [zc2 fun r hr=>zc2 fun c hc=>C.pub_id fun hn=>h (bE.2 ⟨c,List.mem_flatten.2 ⟨r,hr,hc⟩,hn⟩)]
 | mp _=>rfl
 | bld _ c rest =>
  simp only [L.tags,cE,not_or,bE,not_exists,not_and] at h
  simp only [L.pub];rw [C.pub_id h.1,zc2 fun c hc=>C.pub_id fun hn=>h.2 c hc hn]
theorem Oper.wp_imp {o:Oper} {R R':Act->World->Prop} (h:Oper.wp P o a w R Q) (hi:∀ a w,R a w->R' a w):Oper.wp P o a w R' Q:=by
 exact Go.Oper.wp_mono hi h
theorem Op.appODp {d u len:Nat} {rows2:List (List D)} {pos af gd} (hT:ElT P xt el es bs) (hlen:len=rows.length) (hrow:rows++rows2=rows')
  (hes2:∀ r ∈ rows2,r.length=es) (hb:(len+rows2.length)*bs<=140737488355328) :
  zb6 P ⟨some d,.call { callee:=.builtin .append,args:=#[.tmp t,.tmp u],argTypes:=#[xt,xt] }, ty,pos,af,gd⟩
   { rs:=[(t,.t (.c (.own n len))),(u,.t (.c (.d (.sl es rows2))))],rl:=[(n,.row el es rows)],ws:=[(d,some (.t (.c (.d (.sl es rows')))))],wl:=[(n,none)],nw:=[n'],k0:=true }:=by
 intro e f a w Q hst hr hnw hb0
 have hnew:=hnw n' (by simp)
 have hK:=hb0.2 rfl
 have hl':len+rows2.length=rows'.length:=by rw [<- hrow,bX,hlen]
 refine Oper.wp_imp (Op.appOD (n':=n') (len':=rows'.length) hT hlen hl'.symm hrow hes2 hb e f a w Q hst ⟨hr.1,hr.2⟩ (fun m hm=>hnw m hm) ⟨fun p hp=>?_,fun h0=>(by cases h0)⟩) fun a' w' h1=>?_
 ·have:=hb0.1 (d,some (.t (.c (.d (.sl es rows'))))) (by simp)
  simp at hp
  rw [hp];exact this
 ·obtain ⟨w0,H0,B0,K,N⟩:=e
  simp only at hK
  subst hK
  have hne:n≠n':=fun e=>by have:=hnew.2.1;rw [<- e,hr.2 (n,.row el es rows) (by simp)] at this;cases this
  generalize hg:f.app { rs:=[(t,.t (.c (.own n len))),(u,.t (.c (.d (.sl es rows2))))],rl:=[(n,.row el es rows)],ws:=[(d,some (.t (.c (.own n' rows'.length))))],wl:=[(n', some (.row el es rows')),(n,none)],nw:=[n'] }=g at h1
  have gs:∀ x,g.s x=if x=d then some (.t (.c (.own n' rows'.length))) else f.s x:=fun x=>by rw [<- hg];exact zj0 f d _ _ rfl x
  have gl:∀ m,g.l m=if m=n' then some (.row el es rows') else if m=n then none else f.l m:=fun m=>by
   rw [<- hg]
   simp only [F.app,List.lookup]
   by_cases e1:m=n'
   ·simp [e1]
   ·have g1:(m == n')=false:=by simpa using e1
    by_cases e2:m=n
    ·subst e2;simp [g1,e1]
    ·have g2:(m == n)=false:=by simpa using e2
     simp [g1,g2,e1,e2]
  have h2:=h1.pub n' es el rows' (by rw [gl,if_pos rfl]) (fun x v hv k hk=>by
   rw [gs] at hv
   split at hv
   ·injection hv with hv;subst hv
    have:k ∈ (if Nat.beq n' n' then [rows'.length] else []):=hk
    simpa using this
   ·exact absurd (V.owns_tags hk) (hnew.2.2.1 x v hv)) (fun m l hm k hk=>by
   rw [gl] at hm
   split at hm
   ·injection hm with hm;subst hm;cases hk
   ·split at hm
    ·cases hm
    ·exact absurd (L.owns_tags hk) (hnew.2.2.2 m l hm))
  refine h2.weaken ⟨fun x v hv=>?_,fun m l hm=>?_⟩
  ·have hv':(if x=d then some (.t (.c (.d (.sl es rows')))) else f.s x)=some v:=by rw [<- hv];exact (zj0 f d _ _ rfl x).symm
   simp only [F.pub,gs]
   split at hv'
   ·rename_i e1
    injection hv' with hv'
    rw [if_pos e1,<- hv']
    simp [V.pub,T.pub,C.pub]
   ·rename_i e1
    rw [if_neg e1,hv', bW,V.pub_id (hnew.2.2.1 x v hv')]
  ·have hm':(if m=n then none else f.l m)=some l:=by rw [<- hm];exact (app1_l f n none _ rfl m).symm
   split at hm'
   ·cases hm'
   ·rename_i e1
    have e2:m≠n':=fun e=>by have:=hnew.2.1;rw [<- e,hm'] at this;cases this
    simp only [F.pub,gl]
    rw [if_neg e2,if_neg e1,zgm e2,hm']
    simp only [Bool.false_eq_true,if_false,bW]
    rw [L.pub_id (hnew.2.2.2 m l hm')]
end
theorem plainT_eq {t u:zd6} (h1:SR u.parts) (h2:∀ q ∈ u.parts,0<=q.v/\q.c=d3 q.c.val/\q.c.val≠0) (h3:∀ v,zbt t.parts v=zbt u.parts v) (h4:u.k=d3 t.k.val):zc6 t=u:=by
 obtain ⟨v1,v2⟩:=varsZ_ok t.parts
 have hp:(varsZ t.parts).map (zij t.parts)=u.parts:=by
  refine SR.unique (List.pairwise_map.2 v1) h1 (fun q hq=>?_) h2 fun v=>?_
  ·obtain ⟨v,hv,rfl⟩:=cD.1 hq
   have hv:=(v2 v).1 hv
   exact ⟨(ze6 hv).1,by simp [zij,d4],by simpa [zij,d4] using hv⟩
  ·rw [<- h3 v]
   by_cases hv:0<=v
   ·rw [coefZ_map t.parts v hv v1]
    by_cases h:v ∈ varsZ t.parts
    ·rw [if_pos h]
    ·rw [if_neg h];exact (Classical.byContradiction fun e=>h ((v2 v).2 fun e2=>e e2.symm))
   ·have z1:zbt t.parts v=0:=Classical.byContradiction fun e=>hv (ze6 e).1
    have z2:zbt ((varsZ t.parts).map (zij t.parts)) v=0:=Classical.byContradiction fun e=>hv (ze6 e).1
    rw [z1,z2]
 cases u with
 | mk ps k =>
  simp only at hp h4
  unfold zc6
  rw [h4,<- hp];rfl
theorem zk3 (t:zd6):SR (zc6 t).parts/\(∀ q ∈ (zc6 t).parts,0<=q.v/\q.c=d3 q.c.val/\q.c.val≠0)/\∀ v,zbt (zc6 t).parts v=zbt t.parts v:=by
 obtain ⟨v1,v2⟩:=varsZ_ok t.parts
 refine ⟨List.pairwise_map.2 v1,fun q hq=>?_,fun v=>?_⟩
 ·obtain ⟨v,hv,rfl⟩:=cD.1 hq
  have hv:=(v2 v).1 hv
  exact ⟨(ze6 hv).1,by simp [d4],by simpa [d4] using hv⟩
 ·show zbt ((varsZ t.parts).map (zij t.parts)) v=_
  by_cases hv:0<=v
  ·rw [coefZ_map t.parts v hv v1]
   by_cases h:v ∈ varsZ t.parts
   ·rw [if_pos h]
   ·rw [if_neg h];exact (Classical.byContradiction fun e=>h ((v2 v).2 fun e2=>e e2.symm))
  ·have z1:zbt t.parts v=0:=Classical.byContradiction fun e=>hv (ze6 e).1
   have z2:zbt ((varsZ t.parts).map (zij t.parts)) v=0:=Classical.byContradiction fun e=>hv (ze6 e).1
   rw [z1,z2]
theorem plain_idem (t:zd6):zc6 (zc6 t)=zc6 t:=by
 obtain ⟨h1,h2,h3⟩:=zk3 t
 refine plainT_eq h1 h2 (fun v=>rfl) ?_
 simp [zc6,d4]
def Few1 (t:zd6):Prop:=t.parts.length<=30/\t.k.abs.length<=20/\∀ p ∈ t.parts,p.c.abs.length<=20
structure Bd (n M:Nat) (t:zd6):Prop where
  pl:zc6 t=t
  len:t.parts.length<=n
  cf:∀ v,(zbt t.parts v).natAbs<=M
  kf:t.k.val.natAbs<=M
theorem Bd.mono {M':Nat} {t:zd6} (h:Bd n M t) (hn:n<=n') (hM:M<=M'):Bd n' M' t:=⟨h.pl,bR h.len hn,fun v=>bR (h.cf v) hM,bR h.kf hM⟩
theorem plainT_len (t:zd6):(zc6 t).parts.length<=t.parts.length:=by simp only [zc6,bI];exact varsZ_len _
theorem Bd.add {M':Nat} {s t:zd6} (hs:Bd n M s) (ht:Bd m M' t):Bd (n+m) (M+M') (addT s t):=by
 obtain ⟨_,_,h3⟩:=zk3 ⟨s.parts++t.parts,d3 (s.k.val+t.k.val)⟩
 refine ⟨plain_idem _,bR (plainT_len _) (by simp only [bX];have:=hs.len;have:=ht.len;omega),fun v=>?_,?_⟩
 ·show (zbt (zc6 _).parts v).natAbs<=_
  rw [h3 v,coefZ_app];have:=hs.cf v;have:=ht.cf v;omega
 ·simp only [addT,zc6,d4];have:=hs.kf;have:=ht.kf;omega
theorem Few1.cf {t:zd6} (h:Few1 t) (hl:TLb t) (v:Int):(zbt t.parts v).natAbs<=30*pw 20:=by
 have h1:=zl2 (L:=20) (ps:=t.parts) (fun q hq=>⟨hl.2 q hq,h.2.2 q hq⟩) v
 have:t.parts.length*pw 20<=30*pw 20:=bH _ h.1
 omega
theorem Few1.kf {t:zd6} (h:Few1 t) (hl:TLb t):t.k.val.natAbs<=pw 20:=by
 have h1:=ZI.abs_lt hl.1
 have h2:=zfy h.2.1
 omega
def idxI (v:Int):List Int->Nat->Int
  | [],_=>-1
  | x :: xs,n=>if v=x then n else idxI v xs (n+1)
theorem idxI_at {v:Int} {xs:List Int} {x:Int} (h:xs[j]?=some x):idxI v (xs.drop j) j=if v=x then (j:Int) else idxI v (xs.drop (j+1)) (j+1):=by
 obtain ⟨hj,rfl⟩:=bF.1 h
 rw [dO hj];rfl
def pickT (vs:List Int) (bys:List zd6) (v:Int):zd6 :=
  match bys[(idxI v vs 0).toNat]? with
  | some b=>if idxI v vs 0<0 then varT v else b
  | none=>varT v
def PkOk (t:zd6):Prop:=TOk 30 20 t
theorem PkOk.cf {t:zd6} (h:PkOk t) (v:Int):(zbt t.parts v).natAbs<=30*pw 20:=by
 have h1:=zl2 (L:=20) (ps:=t.parts) h.ps v
 have:t.parts.length*pw 20<=30*pw 20:=bH _ h.len
 omega
theorem PkOk.kf {t:zd6} (h:PkOk t):t.k.val.natAbs<=30*pw 20:=by
 have h1:=ZI.abs_lt h.kb
 have h2:=zfy h.kl
 omega
theorem PkOk.var (v:Int):PkOk (varT v):=((TOk.one (v:=v)).plain (by decide)).mono (by decide) (by decide)
theorem PkOk.pick {vs:List Int} {bys:List zd6} (h:∀ b ∈ bys,PkOk b) (v:Int):PkOk (pickT vs bys v):=by
 unfold pickT
 split
 ·rename_i b hb
  split
  ·exact PkOk.var v
  ·exact h b (bL hb)
 ·exact PkOk.var v
theorem TLb.few {t:zd6} (h:TLb t) (f:Few1 t):TOk 30 20 t:=⟨f.1,fun p hp=>⟨h.2 p hp,f.2.2 p hp⟩,h.1,f.2.1⟩
section
variable {P:Program}
theorem Op.raw2c {b:Builtin} {d:Nat} {v':Value} {pos af gd} (h:OV x (.t (.c (.d (.raw v)))) rs) (h':OV y (.t (.c (.d (.raw v')))) rs') (hf:flat u=true)
  (hrun:∀ (cs:Array Bool) w,(builtin b tys ty cs #[v,v']).run P w = .ok (.value u) w):zb6 P ⟨some d,.call { callee:=.builtin b,args:=#[x,y],argTypes:=tys }, ty,pos,af,gd⟩ { rs:=rs++rs', ws:=[(d,some (.t (.c (.d (.raw u)))))] } :=
 Op.raw2 rfl h h' hf fun ρ w h1 h2=>by
  have e1:(Array.map ρ #[x,y])=#[ρ x,ρ y]:=by simp
  simp only [execOp,resolve,e1,h1,h2,Sem.run_bind,Sem.run_pure,Result.andThen_ok,invoke,hrun]
theorem Op.max2 {d:Nat} {k:IntKind} {m n r:Int} {pos af gd} (h:OV x (vi k m) rs) (h':OV y (vi k n) rs') (he:r=max m n) :
  zb6 P ⟨some d,.call { callee:=.builtin .max,args:=#[x,y],argTypes:=tys }, ty,pos,af,gd⟩ { rs:=rs++rs', ws:=[(d,some (vi k r))] }:=by
 subst he
 refine Op.raw2c h h' rfl fun cs w=>?_
 by_cases hc:m<n
 ·simp [builtin,Builtin.max_,Builtin.max2,hc,Int.max_eq_right (Int.le_of_lt hc)]
 ·simp [builtin,Builtin.max_,Builtin.max2,hc,Int.max_eq_left (Int.not_lt.1 hc)]
theorem Op.min2 {d:Nat} {k:IntKind} {m n r:Int} {pos af gd} (h:OV x (vi k m) rs) (h':OV y (vi k n) rs') (he:r=min m n) :
  zb6 P ⟨some d,.call { callee:=.builtin .min,args:=#[x,y],argTypes:=tys }, ty,pos,af,gd⟩ { rs:=rs++rs', ws:=[(d,some (vi k r))] }:=by
 subst he
 refine Op.raw2c h h' rfl fun cs w=>?_
 by_cases hc:n<m
 ·simp [builtin,Builtin.min_,Builtin.min2,hc,Int.min_eq_right (Int.le_of_lt hc)]
 ·simp [builtin,Builtin.min_,Builtin.min2,hc,Int.min_eq_left (Int.not_lt.1 hc)]
end
end S
end Go.Proofs.YtdnhcneallkljaaGreat
