/-
  Part 2 of the proof of the statement ShadowExact. It holds for every input.
-/
import Derived.Test.YtakmnjihdfgolaaGreatSE1
import Derived.Laws.AppendOwn
import Derived.Great.BuildSlice
import Derived.ProofKit
import Derived.OpenShut
import Derived.ShutString
import Derived.ChangeOld
import Derived.Below
import Derived.Deep.Slices
import Derived.ChangeArms
import Derived.Shelf.Sort.Plain
import Derived.Ground.Names2Prog
import Derived.Shelf.Slices.CompactI
import Derived.Shelf.Slices.In.SortNone
import Derived.Test.YtakmnjihdfgolaaGreatProg
import Derived.Laws.Cover3
set_option maxRecDepth 100000
set_option maxHeartbeats 20000000
open Go.RowKit
open List renaming length_append->bC,getElem?_eq_some_iff->bE,getElem?_eq_getElem->bF,append_assoc->bI,length_take->bJ,length_map->bK,length_cons->bN,mem_of_getElem?->bV,mem_flatMap->bW,getElem?_take->bX,mem_cons->cC,length_nil->cD,getElem?_map->cE,cons_append->cF,nil_append->cG,length_eq_zero_iff->cJ,mem_append->cL,mem_singleton->cM,take_add_one->cN,set_append_right->cO,drop_eq_getElem_cons->cQ,length_drop->cX,getElem?_append_left->cY,getElem?_append_right->cZ,getElem?_set_ne->dA,mem_map->dB,filter_cons->dD,set_cons_zero->dE,mem_cons_self->dI,getElem?_drop->dJ,getElem?_cons_succ->dL,getElem?_set_self->dN,getElem_mem->dO,mem_of_mem_take->dP,mem_iff_getElem?->dQ,drop_of_length_le->dV,filter_append->dW,flatten_cons->dY,mem_filter->eB,getElem_map->eC,take_append_drop->eE,take_of_length_le->eG,set_cons_succ->eH,filter_eq_nil_iff->eK,dropLast_concat_getLast->eM,length_eq_one_iff->eN
open Nat renaming eq_of_beq_eq_true->bG,zero_le->bL,mul_le_mul_right->bP,le_refl->bS,add_mul->bU,le_trans->cH,zero_add->cP,mul_comm->cU,add_sub_cancel_left->cW,mod_lt->dG,sub_self->dH,pos_of_ne_zero->dM,lt_of_le_of_lt->dS,sub_le->dU,add_assoc->dX,div_add_mod->dZ,mul_le_mul_left->eA,add_sub_cancel->eF
open Bool renaming and_eq_true->cK,eq_false_or_eq_true->dR
open Option renaming map_some->cT,map_eq_some_iff->cV
open Array renaming getElem?_eq_some_iff->dC
open Int renaming tmod_eq_emod_of_nonneg->eI,tdiv_eq_ediv_of_nonneg->eJ
open Go.Proofs.Tryz renaming prog->eO
open Go.Proofs.YtakmnjihdfgolaaGreat.S.Fn renaming cast->eP
open Go.Proofs.YtakmnjihdfgolaaGreat.S.OV renaming tmp->eQ
open Go.Proofs.YtakmnjihdfgolaaGreat.S.Op renaming arith->eR
open Go.Proofs.YtakmnjihdfgolaaGreat.S.ZI renaming of->eS
namespace Go.Proofs.YtakmnjihdfgolaaGreat
variable {z:Int}
namespace S
variable {P:Program} {n m t k off es b o i fo N j n' bs:Nat} {v:Value} {x y:Operand} {rs sl:List (Nat × V)} {f:F} {xt ty el rty:TypeId} {ops:Array Oper} {e:E} {a:Act} {lc:List (Nat × L)} {draw:Bool} {rows rows':List (List D)} {α β:Type} {H H0:Im} {B B0:Bl} {w0 w':World} {K:List Nat} {cs:List C} {ao:Option Addr} {Q:Exit->Act->World->Prop}
structure Ty where
  n:Nat
  agg:Bool
  fs:List (Nat × Nat × Bool)
  z:List C
  k:Nat
abbrev Tb:=List (Nat × Ty)
def ikOf:Nat->Option IntKind
  | 10=>some .i8
  | 11=>some .i16
  | 12=>some .i32
  | 13=>some .i64
  | 14=>some .u8
  | 15=>some .u16
  | 16=>some .u32
  | 17=>some .u64
  | _=>none
structure TyOk (P:Program) (t:TypeId) (y:Ty):Prop where
  sz:Sz P t y.n y.agg
  fd:∀ k off n ag,y.fs[k]?=some (off,n,ag)->n≠0/\Fd P t k off n ag
  z:y.z≠[]->Zero P t y.z
  pl:y.fs≠[]->Places P t (y.fs.map fun f=>(f.1,f.2.1))
  k1:y.k=1->∃ el,P.underlying t=some (.slice el)
  k2:y.k=2->P.underlying t=some .string
  k3:y.k=3->P.underlying t=some .bool
  ki:∀ k,ikOf y.k=some k->P.underlying t=some (.int k)
def TbOk (P:Program):Tb->Prop
  | []=>True
  | (t,y) :: tb=>TyOk P t y/\TbOk P tb
theorem TbOk.get:∀ {tb:Tb}, TbOk P tb->∀ {t:Nat} {y:Ty}, tb.lookup t=some y->TyOk P t y
 | (t', y') :: tb,h,t,y,hl=>by
  simp only [List.lookup] at hl
  cases hc:(t == t') with
  | true=>rw [hc] at hl;simp at hl hc;subst hl hc;exact h.1
  | false=>rw [hc] at hl;exact TbOk.get h.2 hl
def FdL (P:Program) (t:TypeId):Nat->List (Nat × Nat × Bool)->Prop
  | _,[]=>True
  | j,(off,n,ag) :: r=>(n≠0/\Fd P t j off n ag)/\FdL P t (j+1) r
theorem FdL.get {t:TypeId}:∀ {fs:List (Nat × Nat × Bool)} {j:Nat}, FdL P t j fs->∀ k off n ag,fs[k]?=some (off,n,ag)->n≠0/\Fd P t (j+k) off n ag
 | (o,m,g) :: r,j,h,0,off,n,ag,hk=>by simp at hk;obtain ⟨rfl,rfl,rfl⟩:=hk;exact h.1
 | (o,m,g) :: r,j,h,k+1,off,n,ag,hk=>by
  have:=FdL.get h.2 k off n ag (by simpa using hk)
  rwa [show j+1+k=j+(k+1) by omega] at this
theorem TyOk.st {t:TypeId} {fs:List (Nat × Nat × Bool)} {z:List C} {fields:Array Field} (hu:P.underlying t=some (.struct fields)) (hs:(P.info? t).map (·.size)=some n) (hf:FdL P t 0 fs) (hz:Zero P t z) (hp:Places P t (fs.map fun f=>(f.1,f.2.1))):TyOk P t ⟨n,true,fs,z,0⟩ :=
 ⟨Sz.mk' hs hu _ rfl,fun k off n ag h=>(by have:=FdL.get hf k off n ag h;rwa [cP] at this),fun _=>hz,fun _=>hp,fun h=>(by cases h),fun h=>(by cases h),fun h=>(by cases h),fun k h=>(by cases h)⟩
theorem TyOk.str {t:TypeId} {z:C} (hu:P.underlying t=some .string) (hs:(P.info? t).map (·.size)=some 1) (hz:Zero P t [z]):TyOk P t ⟨1,false,[],[z],2⟩ :=
 ⟨Sz.mk' hs hu _ rfl,fun k off n ag h=>(by simp at h),fun _=>hz,fun h=>absurd rfl h,fun h=>(by cases h),fun _=>hu,fun h=>(by cases h),fun k h=>(by cases h)⟩
theorem TyOk.int {t:TypeId} {k:IntKind} {c:Nat} (hu:P.underlying t=some (.int k)) (hc:ikOf c=some k) (hs:(P.info? t).map (·.size)=some 1) (hz:Zero P t [.d (.raw (.int k 0))]):TyOk P t ⟨1,false,[],[.d (.raw (.int k 0))],c⟩ :=
 ⟨Sz.mk' hs hu _ rfl,fun k off n ag h=>(by simp at h),fun _=>hz,fun h=>absurd rfl h,fun h=>(by simp only at h;subst h;cases hc),fun h=>(by simp only at h;subst h;cases hc),fun h=>(by simp only at h;subst h;cases hc),fun j h=>(by simp only at h;rw [hc] at h;injection h with h;subst h;exact hu)⟩
theorem zec (zs:List Nat):lenC (.d (nsl zs))=some zs.length:=by simp [lenC,nsl]
theorem mkZ {v:Int} (h:(eS v).abs.length<=m):∃ r:ZI,r=eS v/\r.val=v/\Lb r.abs/\r.abs.length<=m:=⟨_,rfl,ZI.val_of v,ZI.lb_of v,h⟩
theorem mkN {v:Nat} (h:v<pw m):∃ r:List Nat,r=lbs v/\nV r=v/\Lb r/\r.length<=m:=⟨_,rfl,zd4 v,(zbu v).1,lbs_len h⟩
theorem u64_id {t:Int} (h1:0<=t) (h2:t<=18446744073709551615):IntKind.u64.wrap t=t:=Go.IntWalk.u64_in t ⟨h1,h2⟩
theorem u32_id {t:Int} (h1:0<=t) (h2:t<=4294967295):IntKind.u32.wrap t=t:=Go.IntWalk.u32_in t ⟨h1,h2⟩
inductive Orc (P:Program) where
  | call {k:FuncId} {ps qs:List (Nat × L)} {args:List V} {res:V} (h:Fn P k ps args res qs) (b:zc2 P k:=by exact zc2.mk' (by kernel_rfl))
  | add (k:IntKind) {m n:Int} (h:k.wrap (m+n)=m+n)
  | sub (k:IntKind) {m n:Int} (h:k.wrap (m - n)=m - n)
  | mul (k:IntKind) {m n:Int} (h:k.wrap (m*n)=m*n)
  | cmp {op:BinOp} {m n:Int} {b:Bool} (k:IntKind) (h:cmpB op m n=b)
  | cmpb (op:BinOp) {m n b:Bool} (h:(op = .eql/\b=(m == n))\/(op = .neq/\b=(m != n)))
  | conv (k k':IntKind) {m:Int} (h:k'.wrap m=m)
  | neg (k:IntKind) {m:Int} (h:k.wrap (-m)=-m)
  | len {c:C} {n:Nat} (h:lenC c=some n)
  | gen (d:Option Nat) (op:Op) (i:I) (h:∀ ty pos af gd,zav P ⟨d,op,ty,pos,af,gd⟩ i)
def eqC:Value->Value->Bool
  | .int k a,.int l b=>(k == l) && (a == b)
  | .bool a,.bool b=>a == b
  | .string a,.string b=>a.data.toList == b.data.toList
  | .slice none a c,.slice none b d=>Nat.beq a b && Nat.beq c d
  | _,_=>false
theorem eqC_spec {u:Value} (h:eqC u v=true):u=v/\flat v=true:=by
 cases u <;> cases v <;> first
  | (simp [eqC] at h;done)
  | (rename_i a b;simp [eqC] at h;subst h;exact ⟨rfl,rfl⟩)
  | (rename_i a b;simp only [eqC,beq_iff_eq] at h;cases a;cases b;simp only at h;rename_i x y;cases x;cases y;simp only at h;subst h;exact ⟨rfl,rfl⟩)
  | (rename_i a b c d;simp [eqC] at h;obtain ⟨h1,h2⟩:=h;subst h1 h2;exact ⟨rfl,rfl⟩)
  | (rename_i a b c d e f;cases a <;> cases d <;> first | (simp [eqC] at h;done) | (simp only [eqC,cK] at h;rw [bG h.1,bG h.2];exact ⟨rfl,rfl⟩))
def eqZ:Value->Value->Bool
  | .map none,.map none=>true
  | .nilFunc,.nilFunc=>true
  | .pointer none,.pointer none=>true
  | u,v=>eqC u v
theorem eqZ_spec {u:Value} (h:eqZ u v=true):u=v/\flat v=true:=by
 unfold eqZ at h
 split at h
 ·exact ⟨rfl,rfl⟩
 ·exact ⟨rfl,rfl⟩
 ·exact ⟨rfl,rfl⟩
 ·exact eqC_spec h
def zcB:C->Value->Bool
  | .d (.raw v),u=>eqZ u v
  | .d (.sl _ []),.slice none n c=>Nat.beq n 0 && Nat.beq c 0
  | .any,u=>flat u
  | _,_=>false
theorem zcB_spec {c:C} {u:Value} (h:zcB c u=true) (H:Im) (B:Bl):CR H B c u:=by
 unfold zcB at h
 split at h
 ·obtain ⟨h1,h2⟩:=eqZ_spec h;subst h1;exact DR.raw _ h2
 ·rw [cK] at h
  rw [bG h.1,bG h.2]
  exact DR.nil _ _ _ (fun _=>rfl) (bL _)
 ·exact h
 ·cases h
def a2B:List C->List Value->Bool
  | [],[]=>true
  | c :: cs,u :: us=>zcB c u && a2B cs us
  | _,_=>false
theorem a2B_spec:∀ {cs:List C} {us:List Value}, a2B cs us=true->∀ H B,zar (CR H B) cs us
 | [],[],_,_,_=>trivial
 | _ :: _,_ :: _,h,H,B=>by unfold a2B at h;rw [cK] at h;exact ⟨zcB_spec h.1 H B,a2B_spec h.2 H B⟩
 | [],_ :: _,h,_,_=>by cases h
 | _ :: _,[],h,_,_=>by cases h
section
variable {P:Program} {t:TypeId}
def zroB (P:Program) (t:TypeId) (zs:List C):Bool:=match (P.info? t).bind (·.zero) with
  | some z=>a2B zs z.cells.toList
  | none=>false
theorem zroB_spec {zs:List C} (h:zroB P t zs=true):Zero P t zs:=by
 unfold zroB at h
 split at h
 ·rename_i z hz;exact ⟨z,z.cells.toList,hz,rfl,a2B_spec h⟩
 ·cases h
def szB (P:Program) (t:TypeId) (n:Nat) (g:Bool):Bool:=(match P.info? t with
  | some i=>Nat.beq i.size n
  | none=>false) && match P.underlying t with
  | some d=>(match d with | .struct _ | .array _ _=>true | _=>false) == g
  | none=>false
theorem szB_spec {g:Bool} (h:szB P t n g=true):Sz P t n g:=by
 unfold szB at h
 rw [cK] at h
 obtain ⟨h1,h2⟩:=h
 cases e:P.underlying t with
 | none=>rw [e] at h2;cases h2
 | some d =>
  rw [e] at h2
  refine Sz.mk' (d:=d) ?_ e g (by rw [<- eq_of_beq h2];cases d <;> rfl)
  cases e1:P.info? t with
  | none=>rw [e1] at h1;cases h1
  | some i=>rw [e1] at h1;exact congrArg some (bG h1)
def fdB (P:Program):List Field->List (Nat × Nat × Bool)->Bool
  | [],[]=>true
  | f :: fl,p :: r=>Nat.beq f.offset p.1 && szB P f.type p.2.1 p.2.2 && !Nat.beq p.2.1 0 && fdB P fl r
  | _,_=>false
theorem fdB_spec:∀ {fl:List Field} {fs:List (Nat × Nat × Bool)}, fdB P fl fs=true->(∀ (k off n:Nat) (ag:Bool),fs[k]?=some (off,n,ag)->n≠0/\∃ f:Field,fl[k]?=some f/\f.offset=off/\Sz P f.type n ag)/\zar (fun (f:Field) (p:Nat × Nat)=>f.offset=p.1/\(P.info? f.type).map (·.size)=some p.2) fl (fs.map fun f=>(f.1,f.2.1))
 | [],[],_=>⟨fun k off n ag h=>by simp at h,trivial⟩
 | f :: fl,p :: r,h=>by
  unfold fdB at h
  simp only [cK,Bool.not_eq_true'] at h
  obtain ⟨⟨⟨h1,h2⟩,h3⟩,h4⟩:=h
  obtain ⟨g1,g2⟩:=fdB_spec h4
  have h1:=bG h1
  have h2:=szB_spec h2
  refine ⟨fun k off n ag hk=>?_,⟨h1,h2.size⟩,g2⟩
  cases k with
  | zero =>
   have hk:p=(off,n,ag):=by simpa using hk
   subst hk
   exact ⟨fun e=>(by rw [e] at h3;cases h3),f,rfl,h1,h2⟩
  | succ k=>exact g1 k off n ag (by simpa using hk)
 | [],_ :: _,h=>by cases h
 | _ :: _,[],h=>by cases h
def knB (P:Program) (t:TypeId) (k:Nat):Bool:=match P.underlying t with
  | some (.slice _)=>!Nat.beq k 2 && !Nat.beq k 3 && (ikOf k).isNone
  | some .string=>!Nat.beq k 1 && !Nat.beq k 3 && (ikOf k).isNone
  | some .bool=>!Nat.beq k 1 && !Nat.beq k 2 && (ikOf k).isNone
  | some (.int q)=>!Nat.beq k 1 && !Nat.beq k 2 && !Nat.beq k 3 && (match ikOf k with | some j=>j == q | none=>true)
  | _=>!Nat.beq k 1 && !Nat.beq k 2 && !Nat.beq k 3 && (ikOf k).isNone
def tyB (P:Program) (t:TypeId) (y:Ty):Bool:=szB P t y.n y.agg && knB P t y.k && (y.z.isEmpty || zroB P t y.z) && (y.fs.isEmpty || match P.underlying t with
  | some (.struct fields)=>fdB P fields.toList y.fs
  | _=>false)
theorem tyB_spec {y:Ty} (h:tyB P t y=true):TyOk P t y:=by
 unfold tyB at h
 simp only [cK] at h
 obtain ⟨⟨⟨h1,h2⟩,h3⟩,h4⟩:=h
 have hst:y.fs≠[]->∃ fields:List Field,P.underlying t=some (.struct ⟨fields⟩)/\fdB P fields y.fs=true:=fun hne=>by
  cases e:y.fs with
  | nil=>exact absurd e hne
  | cons a b =>
   rw [e] at h4
   simp only [List.isEmpty_cons,Bool.false_or] at h4
   split at h4
   ·rename_i fields hf;exact ⟨fields.toList,hf,h4⟩
   ·cases h4
 unfold knB at h2
 refine ⟨szB_spec h1,fun k off n ag hk=>?_,fun hz=>?_,fun hne=>?_,fun hk=>?_,fun hk=>?_,fun hk=>?_,fun k hk=>?_⟩
 ·obtain ⟨fields,hf,hb⟩:=hst (fun e=>by rw [e] at hk;simp at hk)
  obtain ⟨g0,f,g1,g2,g3⟩:=(fdB_spec hb).1 k off n ag hk
  exact ⟨g0,⟨_,f,hf,by simpa using g1,g2,g3⟩⟩
 ·rw [Bool.or_eq_true] at h3
  rcases h3 with h3 | h3
  ·exact absurd (List.isEmpty_iff.1 h3) hz
  ·exact zroB_spec h3
 ·obtain ⟨fields,hf,hb⟩:=hst hne
  exact ⟨fields,hf,(fdB_spec hb).2⟩
 ·rw [hk] at h2;split at h2
  ·rename_i el he;exact ⟨el,he⟩
  all_goals (simp [ikOf] at h2)
 ·rw [hk] at h2;split at h2
  ·simp [ikOf] at h2
  ·assumption
  all_goals (simp [ikOf] at h2)
 ·rw [hk] at h2;split at h2
  ·simp [ikOf] at h2
  ·simp [ikOf] at h2
  ·assumption
  all_goals (simp [ikOf] at h2)
 ·rw [hk] at h2;split at h2
  ·simp at h2
  ·simp at h2
  ·simp at h2
  ·rename_i q he
   simp only [cK] at h2
   rw [he,eq_of_beq h2.2]
  ·simp at h2
def tbB (P:Program):Tb->Bool
  | []=>true
  | p :: tb=>tyB P p.1 p.2 && tbB P tb
theorem tbB_spec:∀ {tb:Tb}, tbB P tb=true->TbOk P tb
 | [],_=>trivial
 | p :: tb,h=>by unfold tbB at h;rw [cK] at h;exact ⟨tyB_spec h.1,tbB_spec h.2⟩
end
def opdW (x:Operand) (v:V):Option (List (Nat × V)) :=
  match x with
  | .tmp t=>some [(t,v)]
  | .const c=>match v with
    | .t (.c (.d (.raw u)))=>if eqC u c=true then some [] else none
    | _=>none
  | .func g=>match v with
    | .t (.c (.fn (.func g') [] []))=>if Nat.beq g g'=true then some [] else none
    | _=>none
  | _=>none
theorem zbb {v:V} (h:opdW x v=some rs):OV x v rs:=by
 unfold opdW at h
 split at h
 ·injection h with h;subst h;exact .tmp _ _
 ·split at h
  ·split at h
   ·rename_i hc
    injection h with h;subst h
    obtain ⟨rfl,hf⟩:=eqC_spec hc
    exact .const _ hf
   ·cases h
  ·cases h
 ·split at h
  ·split at h
   ·rename_i hc
    injection h with h;subst h
    rw [<- bG hc]
    exact .func _
   ·cases h
  ·cases h
 ·cases h
def opdWs:List Operand->List V->Option (List (Nat × V))
  | [],[]=>some []
  | x :: xs,v :: vs=>match opdW x v with
    | some r=>match opdWs xs vs with
      | some rs=>some (r++rs)
      | none=>none
    | none=>none
  | _,_=>none
theorem opdWs_spec:∀ {xs:List Operand} {vs:List V} {rs:List (Nat × V)}, opdWs xs vs=some rs->OVs xs vs rs
 | [],[],rs,h=>by simp [opdWs] at h;subst h;exact .nil
 | x :: xs,v :: vs,rs,h=>by
  simp only [opdWs] at h
  split at h
  ·rename_i r hr
   split at h
   ·rename_i rs' hrs
    injection h with h;subst h
    exact .cons (zbb hr) (opdWs_spec hrs)
   ·cases h
  ·cases h
 | [],_ :: _,rs,h=>by simp [opdWs] at h
 | _ :: _,[],rs,h=>by simp [opdWs] at h
def opdI (f:F) (x:Operand):Option (V × List (Nat × V)) :=
  match x with
  | .tmp t=>match f.s t with
    | some v=>some (v,[(t,v)])
    | none=>none
  | .const v=>if flat v=true then some (.t (.c (.d (.raw v))),[]) else none
  | .func g=>some (.t (.c (.fn (.func g) [] [])),[])
  | _=>none
theorem zb5 {v:V} (h:opdI f x=some (v,rs)):OV x v rs:=by
 unfold opdI at h
 split at h
 ·split at h
  ·injection h with h;injection h with h1 h2;subst h1 h2;exact .tmp _ _
  ·cases h
 ·split at h
  ·rename_i hf;injection h with h;injection h with h1 h2;subst h1 h2;exact .const _ hf
  ·cases h
 ·injection h with h;injection h with h1 h2;subst h1 h2;exact .func _
 ·cases h
def opdP (f:F):List (Nat × Operand)->Option (List (Nat × T) × List (Nat × V))
  | []=>some ([],[])
  | (i,x) :: xs=>match opdI f x with
    | some (.t v,r)=>match opdP f xs with
      | some (vs,rs)=>some ((i,v) :: vs,r++rs)
      | none=>none
    | _=>none
theorem opdP_spec:∀ {xs:List (Nat × Operand)} {vs:List (Nat × T)} {rs:List (Nat × V)}, opdP f xs=some (vs,rs)->OPs xs vs rs
 | [],vs,rs,h=>by simp [opdP] at h;obtain ⟨rfl,rfl⟩:=h;exact .nil
 | (i,x) :: xs,vs,rs,h=>by
  simp only [opdP] at h
  split at h
  ·rename_i v r hr
   split at h
   ·rename_i vs' rs' hrs
    injection h with h;injection h with h1 h2;subst h1 h2
    exact .cons (zb5 hr) (opdP_spec hrs)
   ·cases h
  ·cases h
theorem Op.fieldAddrE {d:Nat} {ag:Bool} {xs:List D} {pos af gd} (hf:Fd P xt k off m ag) (hm:m≠0):zav P ⟨some d,.fieldAddr xt (.tmp t) k,ty,pos,af,gd⟩ { rs:=[(t,.t (.c (.el xs)))],ws:=[(d,some (.t (.c (.el (xs.drop off)))))] } :=
 zav.value d _ rfl rfl rfl fun e f H B a w hok hr=>by
  obtain ⟨b,o,arr,ty', fz,hb,hu,hx⟩:CR H B (.el xs) (a.eval (.tmp t)):=hok.slot t _ (hr.1 (t,.t (.c (.el xs))) (by simp))
  obtain ⟨fields,fd,g1,g2,rfl,g4⟩:=hf.ex
  refine ⟨.pointer (some ⟨b,o+fd.offset,none⟩),?_,b,o+fd.offset,arr,ty', fz,hb,rfl,fun j hj=>?_⟩
  ·generalize a.eval=ρ at hu ⊢
   simp only [execOp,hu,Instr.fieldAt,Sem.run_bind,run_underlying g1,Result.andThen_ok,g2,Instr.sureAddr,Sem.run_pure,fieldPlace,g4.sizeOf,hm,if_false,Addr.add_mid]
  ·have hj':fd.offset+j<xs.length:=by rw [cX] at hj;omega
   obtain ⟨u,h1,h2⟩:=hx (fd.offset+j) hj'
   exact ⟨u,by rw [dX];exact h1,by rw [List.getElem_drop];exact h2⟩
theorem Op.loadE_agg {d:Nat} {xs ys:List D} {pos af gd} (hs:Sz P xt m true) (h:xs.take m=ys) (hm:ys.length=m):zav P ⟨some d,.load xt (.tmp t),ty,pos,af,gd⟩ { rs:=[(t,.t (.c (.el xs)))],ws:=[(d,some (.t (.agg (ys.map C.d))))] } :=
 zav.value d _ rfl rfl rfl fun e f H B a w hok hr=>by
  obtain ⟨b,o,arr,ty', fz,hb,hu,hx⟩:CR H B (.el xs) (a.eval (.tmp t)):=hok.slot t _ (hr.1 (t,.t (.c (.el xs))) (by simp))
  have hw:=hok.sat b _ hb
  have hml:m<=xs.length:=by rw [<- hm,<- h,bJ];omega
  have hfill:∀ j,j<m->∃ u,arr.toList[o+j]?=some u/\∃ hj:j<xs.length,DR H xs[j] u:=by
   intro j hj
   obtain ⟨u,h1,h2⟩:=hx j (by omega)
   exact ⟨u,by simpa using h1,by omega,h2⟩
  have hlen:((arr.toList.drop o).take m).length=m:=by
   rw [bJ,cX]
   cases m with
   | zero=>omega
   | succ m =>
    obtain ⟨u,g1,_⟩:=hfill m (by omega)
    have:=(bE.1 g1).1
    omega
  refine ⟨.agg ((arr.toList.drop o).take m).toArray,?_,⟨_,rfl,?_⟩⟩
  ·generalize a.eval=ρ at hu ⊢
   have h8:=zd8 (P:=P) hs (w:=w) (b:=b) (o:=o) (cs:=(arr.toList.drop o).take m) hlen (fun j v hv=>by
    refine zd7 (arr:=arr.toList) (by rw [hw]) ?_
    rw [bX] at hv
    split at hv
    ·rw [dJ] at hv;exact hv
    ·cases hv)
   simp only [execOp,hu,Instr.loadAt,Instr.sureAddr,Sem.run_bind,Sem.run_pure,Result.andThen_ok,h8]
  ·subst h
   have key:∀ (n:Nat) (zs:List D) (k:Nat),(∀ j,j<zs.length->∃ u,arr.toList[o+k+j]?=some u/\∃ hj:j<zs.length,DR H zs[j] u)->n=zs.length->zar (CR H B) (zs.map C.d) ((arr.toList.drop (o+k)).take n):=by
    intro n zs
    induction zs generalizing n with
    | nil=>intro k _ hn;subst hn;simp [zar]
    | cons z zs ih =>
     intro k hz hn
     subst hn
     obtain ⟨u,h1,_,h2⟩:=hz 0 (by simp)
     have hlt:o+k<arr.toList.length:=(bE.1 (by simpa using h1)).1
     rw [cQ hlt,bN,List.take_succ_cons]
     refine ⟨?_,ih _ (k+1) (fun j hj=>?_) rfl⟩
     ·rw [Nat.add_zero,bF hlt] at h1
      injection h1 with h1
      rw [h1];exact h2
     ·obtain ⟨u,h3,hj', h4⟩:=hz (j+1) (by simp;omega)
      exact ⟨u,by rw [<- h3];congr 1;omega,hj,by simpa using h4⟩
   have hm':m=(xs.take m).length:=hm.symm
   refine key m (xs.take m) 0 (fun j hj=>?_) hm'
   obtain ⟨u,h1,hj', h2⟩:=hfill j (by omega)
   exact ⟨u,h1,hj,by rw [List.getElem_take];exact h2⟩
theorem Op.loadE_c {d:Nat} {xs:List D} {x:D} {pos af gd} (hs:Sz P xt m false) (h:xs[0]?=some x):zav P ⟨some d,.load xt (.tmp t),ty,pos,af,gd⟩ { rs:=[(t,.t (.c (.el xs)))],ws:=[(d,some (.t (.c (.d x))))] } :=
 zav.value d _ rfl rfl rfl fun e f H B a w hok hr=>by
  obtain ⟨b,o,arr,ty', fz,hb,hu,hx⟩:CR H B (.el xs) (a.eval (.tmp t)):=hok.slot t _ (hr.1 (t,.t (.c (.el xs))) (by simp))
  obtain ⟨h0,rfl⟩:=bE.1 h
  obtain ⟨u,h1,h2⟩:=hx 0 h0
  refine ⟨u,?_,h2⟩
  have h8:=zek (P:=P) hs (zd7 (arr:=arr.toList) (o:=o) (v:=u) (by rw [hok.sat b _ hb]) (by simpa using h1))
  generalize a.eval=ρ at hu ⊢
  simp only [execOp,hu,Instr.loadAt,Instr.sureAddr,Sem.run_bind,Sem.run_pure,Result.andThen_ok,h8]
def one (d:Nat) (v:V) (rs:List (Nat × V)):I:={ rs:=rs,ws:=[(d,some v)] }
def instS (tb:Tb) (f:F) (nx:Nat) (o:Oper):Option (I × Nat) :=
  match o.op,o.dst with
  | .move x,some d=>match opdI f x with
    | some (v,rs)=>some (one d v rs,nx)
    | none=>none
  | .assign x,some d=>match opdI f x with
    | some (v,rs)=>some (one d v rs,nx)
    | none=>none
  | .box _ x,some d=>match opdI f x with
    | some (.t v,rs)=>some ({ rs:=rs,ws:=[(d,some (vp nx 0))],wl:=[(nx,some (.box (cellsOf v)))],nw:=[nx] }, nx+1)
    | _=>none
  | .alloc t,some d=>match tb.lookup t with
    | some y=>match y.z with
      | []=>none
      | c :: cs=>some ({ ws:=[(d,some (vp nx 0))],wl:=[(nx,some (.box (c :: cs)))],nw:=[nx] }, nx+1)
    | none=>none
  | .fieldAddr t (.tmp x) k,some d=>match f.s x,tb.lookup t with
    | some (.t (.c (.ptr n p))),some y=>match y.fs[k]? with
      | some (off,_,_)=>some ({ rs:=[(x,vp n p)],ws:=[(d,some (vp n (p+off)))] }, nx)
      | none=>none
    | some (.t (.c (.el xs))),some y=>match y.fs[k]? with
      | some (off,_,_)=>some ({ rs:=[(x,.t (.c (.el xs)))],ws:=[(d,some (.t (.c (.el (xs.drop off)))))] }, nx)
      | none=>none
    | _,_=>none
  | .load t (.tmp x),some d=>match f.s x,tb.lookup t with
    | some (.t (.c (.ptr n p))),some y=>match f.l n with
      | some (.box cs)=>if y.agg=true then (if Nat.beq ((cs.drop p).take y.n).length y.n=true then some ({ rs:=[(x,vp n p)],rl:=[(n,.box cs)],ws:=[(d,some (.t (.agg ((cs.drop p).take y.n))))] }, nx) else none)
        else match cs[p]? with
          | some c=>some ({ rs:=[(x,vp n p)],rl:=[(n,.box cs)],ws:=[(d,some (.t (.c c)))] }, nx)
          | none=>none
      | _=>none
    | some (.t (.c (.el xs))),some y=>if y.agg=true then (if Nat.beq (xs.take y.n).length y.n=true then some ({ rs:=[(x,.t (.c (.el xs)))],ws:=[(d,some (.t (.agg ((xs.take y.n).map C.d))))] }, nx) else none)
      else match xs[0]? with
        | some c=>some ({ rs:=[(x,.t (.c (.el xs)))],ws:=[(d,some (.t (.c (.d c))))] }, nx)
        | none=>none
    | _,_=>none
  | .store t (.tmp x) v,none=>match f.s x,tb.lookup t,opdI f v with
    | some (.t (.c (.ptr n p))),some y,some (.t v,rs)=>match f.l n with
      | some (.box cs)=>if Nat.beq (cellsOf v).length y.n=true then (if Nat.ble (p+y.n) cs.length=true then some ({ rs:=(x,vp n p) :: rs,rl:=[(n,.box cs)],wl:=[(n,some (.box (zh3 cs p (cellsOf v))))] }, nx) else none) else none
      | _=>none
    | _,_,_=>none
  | .field t (.tmp x) k,some d=>match f.s x,tb.lookup t with
    | some (.t (.agg cs)),some y=>match y.fs[k]? with
      | some (off,n,true)=>some ({ rs:=[(x,.t (.agg cs))],ws:=[(d,some (.t (.agg ((cs.drop off).take n))))] }, nx)
      | some (off,_,false)=>match cs[off]? with
        | some c=>some ({ rs:=[(x,.t (.agg cs))],ws:=[(d,some (.t (.c c)))] }, nx)
        | none=>none
      | none=>none
    | _,_=>none
  | .extract (.tmp x) k,some d=>match f.s x with
    | some (.tup xs)=>match xs[k]? with
      | some v=>some ({ rs:=[(x,.tup xs)],ws:=[(d,some (.t v))] }, nx)
      | none=>none
    | _=>none
  | .build t ps,some d=>match tb.lookup t,opdP f ps.toList with
    | some y,some (vs,rs)=>match y.z,y.fs with
      | c :: cs,g :: gs=>match zgl ((g :: gs).map fun f=>(f.1,f.2.1)) (c :: cs) vs with
        | some out=>some ({ rs:=rs,ws:=[(d,some (.t (.agg out)))] }, nx)
        | none=>none
      | _,_=>none
    | _,_=>none
  | .pick (.tmp t) x y,some d=>match f.s t with
    | some (.t (.c (.d (.raw (.bool true)))))=>match opdI f x with
      | some (v,rs)=>some (one d v ((t,vb true) :: rs),nx)
      | none=>none
    | some (.t (.c (.d (.raw (.bool false)))))=>match opdI f y with
      | some (v,rs)=>some (one d v ((t,vb false) :: rs),nx)
      | none=>none
    | _=>none
  | .unOp .not _ x,some d=>match opdI f x with
    | some (.t (.c (.d (.raw (.bool b)))),rs)=>some (one d (vb (!b)) rs,nx)
    | _=>none
  | .binOp op t x y _,some d=>if isCmp op=true then (match opdI f x,opdI f y with
    | some (.t (.c (.d (.raw (.int k m)))),rs),some (.t (.c (.d (.raw (.int l n)))),rs')=>if (k == l)=true then some (one d (vb (cmpB op m n)) (rs++rs'),nx) else none
    | some (.t (.c (.d (.raw (.bool m)))),rs),some (.t (.c (.d (.raw (.bool n)))),rs')=>match tb.lookup t with
      | some y=>if Nat.beq y.k 3=true then (match op with
        | .eql=>some (one d (vb (m == n)) (rs++rs'),nx)
        | .neq=>some (one d (vb (m != n)) (rs++rs'),nx)
        | _=>none) else none
      | none=>none
    | _,_=>none) else none
  | .call { callee:=.builtin .len,args:=⟨[.tmp x]⟩,argTypes:=⟨[t]⟩ }, some d=>match f.s x,tb.lookup t with
    | some (.t (.c c)),some y=>if Nat.beq y.k 1=true then (match lenC c with
      | some n=>some ({ rs:=[(x,.t (.c c))],ws:=[(d,some (vi .i64 n))] }, nx)
      | none=>none) else (match c with
      | .d (.raw (.string s))=>if Nat.beq y.k 2=true then some ({ rs:=[(x,vs s)],ws:=[(d,some (vi .i64 s.size))] }, nx) else none
      | _=>none)
    | _,_=>none
  | _,_=>none
def zgi {P:Program} (tb:Tb) (o:Oper):Orc P->Option I
  | .call (k:=k) (ps:=ps) (qs:=qs) (args:=args) (res:=res) _ _=>match o.op,o.dst with
    | .call { callee:=.value (.func k'),args:=⟨xs⟩,.. }, some d=>if Nat.beq k' k=true then (match opdWs xs args with
      | some rs=>some (zf9 rs ps qs d res)
      | none=>none) else none
    | _,_=>none
  | .add k (m:=m) (n:=n) _=>match o.op,o.dst with
    | .binOp .add _ x y _,some d=>match opdW x (vi k m),opdW y (vi k n) with
      | some rs,some rs'=>some (one d (vi k (m+n)) (rs++rs'))
      | _,_=>none
    | _,_=>none
  | .sub k (m:=m) (n:=n) _=>match o.op,o.dst with
    | .binOp .sub _ x y _,some d=>match opdW x (vi k m),opdW y (vi k n) with
      | some rs,some rs'=>some (one d (vi k (m - n)) (rs++rs'))
      | _,_=>none
    | _,_=>none
  | .mul k (m:=m) (n:=n) _=>match o.op,o.dst with
    | .binOp .mul _ x y _,some d=>match opdW x (vi k m),opdW y (vi k n) with
      | some rs,some rs'=>some (one d (vi k (m*n)) (rs++rs'))
      | _,_=>none
    | _,_=>none
  | .cmp (op:=op) (m:=m) (n:=n) (b:=b) k _=>match o.op,o.dst with
    | .binOp op' _ x y _,some d=>if (op' == op) && isCmp op=true then (match opdW x (vi k m),opdW y (vi k n) with
      | some rs,some rs'=>some (one d (vb b) (rs++rs'))
      | _,_=>none) else none
    | _,_=>none
  | .cmpb op (m:=m) (n:=n) (b:=b) _=>match o.op,o.dst with
    | .binOp op' t x y _,some d=>match tb.lookup t with
      | some ty=>if Nat.beq ty.k 3=true then (if (op' == op)=true then (match opdW x (vb m),opdW y (vb n) with
        | some rs,some rs'=>some (one d (vb b) (rs++rs'))
        | _,_=>none) else none) else none
      | none=>none
    | _,_=>none
  | .conv k k' (m:=m) _=>match o.op,o.dst with
    | .convert s t x,some d=>match tb.lookup s,tb.lookup t with
      | some ys,some yt=>if (ikOf ys.k == some k)=true then (if (ikOf yt.k == some k')=true then (match opdW x (vi k m) with
        | some rs=>some (one d (vi k' m) rs)
        | none=>none) else none) else none
      | _,_=>none
    | _,_=>none
  | .neg k (m:=m) _=>match o.op,o.dst with
    | .unOp .neg _ x,some d=>match opdW x (vi k m) with
      | some rs=>some (one d (vi k (-m)) rs)
      | none=>none
    | _,_=>none
  | .len (c:=c) (n:=n) _=>match o.op,o.dst with
    | .call { callee:=.builtin .len,args:=⟨[.tmp x]⟩,argTypes:=⟨[t]⟩ }, some d=>match tb.lookup t with
      | some y=>if Nat.beq y.k 1=true then some (one d (vi .i64 n) [(x,.t (.c c))]) else none
      | none=>none
    | _,_=>none
  | .gen _ _ i _=>some i
section
variable {P:Program}
theorem instS_ok {tb:Tb} (htb:TbOk P tb) {nx:Nat} {o:Oper} {i:I} {nx':Nat} (h:instS tb f nx o=some (i,nx')):zav P o i:=by
 obtain ⟨dst,op,ty,pos,af,gd⟩:=o
 unfold instS at h
 dsimp only at h
 split at h
 ·split at h
  ·rename_i hx;injection h with h;injection h with h1 h2;subst h1;exact Op.move (zb5 hx)
  ·cases h
 ·split at h
  ·rename_i hx;injection h with h;injection h with h1 h2;subst h1;exact Op.assign (zb5 hx)
  ·cases h
 ·split at h
  ·rename_i hx;injection h with h;injection h with h1 h2;subst h1;exact Op.box (zb5 hx) _ rfl
  ·cases h
 ·split at h
  ·rename_i y hy
   split at h
   ·cases h
   ·rename_i c cs hz
    injection h with h;injection h with h1 h2;subst h1
    have:=(htb.get hy).z (by rw [hz];simp)
    rw [hz] at this
    exact Op.allocZ this
  ·cases h
 ·split at h
  ·rename_i n p y hx hy
   split at h
   ·rename_i off m ag hf
    injection h with h;injection h with h1 h2;subst h1
    obtain ⟨h3,h4⟩:=(htb.get hy).fd _ _ _ _ hf
    exact Op.fieldAddr h4 h3 _ rfl
   ·cases h
  ·rename_i xs y hx hy
   split at h
   ·rename_i off m ag hf
    injection h with h;injection h with h1 h2;subst h1
    obtain ⟨h3,h4⟩:=(htb.get hy).fd _ _ _ _ hf
    exact Op.fieldAddrE h4 h3
   ·cases h
  ·cases h
 ·split at h
  ·rename_i n p y hx hy
   split at h
   ·rename_i cs hl
    split at h
    ·rename_i hag
     split at h
     ·rename_i hb
      injection h with h;injection h with h1 h2;subst h1
      have:=(htb.get hy).sz
      rw [hag] at this
      exact Op.load_agg this rfl (bG hb)
     ·cases h
    ·rename_i hag
     split at h
     ·rename_i c hc
      injection h with h;injection h with h1 h2;subst h1
      have:=(htb.get hy).sz
      rw [show y.agg=false by simpa using hag] at this
      exact Op.load_c this hc
     ·cases h
   ·cases h
  ·rename_i xs y hx hy
   split at h
   ·rename_i hag
    split at h
    ·rename_i hb
     injection h with h;injection h with h1 h2;subst h1
     have:=(htb.get hy).sz
     rw [hag] at this
     exact Op.loadE_agg this rfl (bG hb)
    ·cases h
   ·rename_i hag
    split at h
    ·rename_i c hc
     injection h with h;injection h with h1 h2;subst h1
     have:=(htb.get hy).sz
     rw [show y.agg=false by simpa using hag] at this
     exact Op.loadE_c this hc
    ·cases h
  ·cases h
 ·split at h
  ·rename_i n p y v rs hx hy hv
   split at h
   ·rename_i cs hl
    split at h
    ·rename_i hb
     split at h
     ·rename_i hle
      injection h with h;injection h with h1 h2;subst h1
      exact Op.store (htb.get hy).sz (zb5 hv) (bG hb) hle rfl
     ·cases h
    ·cases h
   ·cases h
  ·cases h
 ·split at h
  ·rename_i cs y hx hy
   split at h
   ·rename_i off n hf
    injection h with h;injection h with h1 h2;subst h1
    exact Op.field_agg ((htb.get hy).fd _ _ _ _ hf).2 rfl
   ·rename_i off n hf
    split at h
    ·rename_i c hc
     injection h with h;injection h with h1 h2;subst h1
     exact Op.field_c ((htb.get hy).fd _ _ _ _ hf).2 hc
    ·cases h
   ·cases h
  ·cases h
 ·split at h
  ·rename_i xs hx
   split at h
   ·rename_i v hv
    injection h with h;injection h with h1 h2;subst h1
    exact Op.extract hv
   ·cases h
  ·cases h
 ·split at h
  ·rename_i ps d y vs rs hy hp
   split at h
   ·rename_i c cs g gs hz hf
    split at h
    ·rename_i out ho
     injection h with h;injection h with h1 h2;subst h1
     have h3:=(htb.get hy).z (by rw [hz];simp)
     have h4:=(htb.get hy).pl (by rw [hf];simp)
     rw [hz] at h3
     rw [hf] at h4
     exact Op.build h3 h4 (opdP_spec hp) out ho
    ·cases h
   ·cases h
  ·cases h
 ·split at h
  ·split at h
   ·rename_i v rs hx
    injection h with h;injection h with h1 h2;subst h1
    exact Op.pickT (zb5 hx)
   ·cases h
  ·split at h
   ·rename_i v rs hx
    injection h with h;injection h with h1 h2;subst h1
    exact Op.pickF (zb5 hx)
   ·cases h
  ·cases h
 ·split at h
  ·rename_i b rs hx
   injection h with h;injection h with h1 h2;subst h1
   exact Op.not (zb5 hx)
  ·cases h
 ·split at h
  ·rename_i hc
   split at h
   ·rename_i k m rs l n rs' hx hy
    split at h
    ·rename_i hkl
     injection h with h;injection h with h1 h2;subst h1
     obtain rfl:k=l:=by simpa using hkl
     exact Op.cmp (zb5 hx) (zb5 hy) hc rfl
    ·cases h
   ·rename_i m rs n rs' hx hy
    split at h
    ·rename_i y ht
     split at h
     ·rename_i hk
      have hu:=(htb.get ht).k3 (bG hk)
      split at h
      ·injection h with h;injection h with h1 h2;subst h1
       exact Op.cmpb hu (zb5 hx) (zb5 hy) (.inl ⟨rfl,rfl⟩)
      ·injection h with h;injection h with h1 h2;subst h1
       exact Op.cmpb hu (zb5 hx) (zb5 hy) (.inr ⟨rfl,rfl⟩)
      ·cases h
     ·cases h
    ·cases h
   ·cases h
  ·cases h
 ·split at h
  ·rename_i c y hx hy
   split at h
   ·rename_i hk
    split at h
    ·rename_i n hn
     injection h with h;injection h with h1 h2;subst h1
     obtain ⟨el,hu⟩:=(htb.get hy).k1 (bG hk)
     exact Op.len hu (eQ _ _) hn
    ·cases h
   ·split at h
    ·split at h
     ·rename_i hk2
      injection h with h;injection h with h1 h2;subst h1
      exact Op.lens ((htb.get hy).k2 (bG hk2)) (eQ _ _)
     ·cases h
    ·cases h
  ·cases h
 ·cases h
theorem instO_ok {tb:Tb} (htb:TbOk P tb) {o:Oper} {c:Orc P} {i:I} (h:zgi tb o c=some i) (hg:∀ d op i' hh,c = .gen d op i' hh->o.dst=d/\o.op=op):zav P o i:=by
 obtain ⟨dst,op,ty,pos,af,gd⟩:=o
 cases c with
 | call hf b =>
  simp only [zgi] at h
  split at h
  ·split at h
   ·rename_i hk
    split at h
    ·rename_i rs hr
     injection h with h;subst h
     rw [bG hk]
     exact Op.call hf b (opdWs_spec hr)
    ·cases h
   ·cases h
  ·cases h
 | add k hr =>
  simp only [zgi] at h
  split at h
  ·split at h
   ·rename_i h1 h2
    injection h with h;subst h
    exact eR (zbb h1) (zbb h2) (.inl ⟨rfl,rfl⟩) hr
   ·cases h
  ·cases h
 | sub k hr =>
  simp only [zgi] at h
  split at h
  ·split at h
   ·rename_i h1 h2
    injection h with h;subst h
    exact eR (zbb h1) (zbb h2) (.inr (.inl ⟨rfl,rfl⟩)) hr
   ·cases h
  ·cases h
 | mul k hr =>
  simp only [zgi] at h
  split at h
  ·split at h
   ·rename_i h1 h2
    injection h with h;subst h
    exact eR (zbb h1) (zbb h2) (.inr (.inr ⟨rfl,rfl⟩)) hr
   ·cases h
  ·cases h
 | cmp k hb =>
  simp only [zgi] at h
  split at h
  ·split at h
   ·rename_i hc
    simp only [cK] at hc
    split at h
    ·rename_i h1 h2
     injection h with h;subst h
     obtain rfl:=eq_of_beq hc.1
     exact Op.cmp (zbb h1) (zbb h2) (by simpa using hc.2) hb
    ·cases h
   ·cases h
  ·cases h
 | cmpb op hb =>
  simp only [zgi] at h
  split at h
  ·split at h
   ·rename_i ty hty
    split at h
    ·rename_i hk
     split at h
     ·rename_i hop
      split at h
      ·rename_i h1 h2
       injection h with h;subst h
       have hu:=(htb.get hty).k3 (bG hk)
       have hop:=eq_of_beq hop
       subst hop
       exact Op.cmpb hu (zbb h1) (zbb h2) hb
      ·cases h
     ·cases h
    ·cases h
   ·cases h
  ·cases h
 | conv k k' hr =>
  simp only [zgi] at h
  split at h
  ·split at h
   ·rename_i ys yt hs ht
    split at h
    ·rename_i hk
     split at h
     ·rename_i hk'
      split at h
      ·rename_i h1
       injection h with h;subst h
       exact Op.conv ((htb.get ht).ki k' (by simpa using hk')) ((htb.get hs).ki k (by simpa using hk)) (zbb h1) hr
      ·cases h
     ·cases h
    ·cases h
   ·cases h
  ·cases h
 | neg k hr =>
  simp only [zgi] at h
  split at h
  ·split at h
   ·rename_i h1
    injection h with h;subst h
    exact Op.neg (zbb h1) rfl hr
   ·cases h
  ·cases h
 | len hn =>
  simp only [zgi] at h
  split at h
  ·split at h
   ·rename_i y hy
    split at h
    ·rename_i hk
     injection h with h;subst h
     obtain ⟨el,hu⟩:=(htb.get hy).k1 (bG hk)
     exact Op.len hu (eQ _ _) hn
    ·cases h
   ·cases h
  ·cases h
 | gen d op' i' hh =>
  simp only [zgi] at h
  injection h with h;subst h
  obtain ⟨h1,h2⟩:=hg d op' i' hh rfl
  simp only at h1 h2
  subst h1 h2
  exact hh ty pos af gd
def run1 (tb:Tb) (ops:Array Oper) (f:F) (nx:Nat) (o:Oper) (c:Option (Orc P)):Option (I × Nat) :=
  let go:Option (I × Nat):=match c with
    | some c=>match zgi tb o c with
      | some i=>some (i,nx)
      | none=>none
    | none=>instS tb f nx o
  match o.guard with
  | none=>go
  | some (g,b)=>match (ops[g]?).bind (·.dst) with
    | none=>none
    | some d=>match f.s d with
      | some (.t (.c (.d (.raw (.bool c)))))=>if (c == b)=true then (match go with
          | some (i,n)=>some (i.also d (gv c),n)
          | none=>none)
        else some ({ rs:=[(d,gv c)],ws:=o.dst.toList.map fun t=>(t,some (.tup [])) }, nx)
      | some (.tup [])=>some ({ rs:=[(d,.tup [])],ws:=o.dst.toList.map fun t=>(t,some (.tup [])) }, nx)
      | _=>none
theorem run1_ok {tb:Tb} (htb:TbOk P tb) {nx:Nat} {o:Oper} {c:Option (Orc P)} {i:I} {nx':Nat} (h:run1 tb ops f nx o c=some (i,nx')) (hg:∀ d op i' hh,c=some (.gen d op i' hh)->o.dst=d/\o.op=op):Does P ops o i:=by
 have hgo:∀ j m,(match c with
  | some c=>match zgi tb o c with
   | some i=>some (i,nx)
   | none=>none
  | none=>instS tb f nx o)=some (j,m)->zav P o j:=by
  intro j m hj
  cases c with
  | none=>exact instS_ok htb hj
  | some c =>
   simp only at hj
   split at hj
   ·rename_i i' hi
    injection hj with hj;injection hj with h1 h2;subst h1
    exact instO_ok htb hi fun d op i2 hh e=>hg d op i2 hh (by rw [e])
   ·cases hj
 unfold run1 at h
 dsimp only at h
 split at h
 ·rename_i hgd
  exact .run hgd (hgo _ _ h)
 ·rename_i g b hgd
  split at h
  ·cases h
  ·rename_i d hd
   split at h
   ·rename_i c' hc'
    split at h
    ·rename_i hcb
     obtain rfl:c'=b:=by simpa using hcb
     split at h
     ·rename_i i' n' hi
      injection h with h;injection h with h1 h2;subst h1
      exact .runG g c' d hgd hd (by simp [I.also]) (hgo _ _ hi).also
     ·cases h
    ·rename_i hcb
     injection h with h;injection h with h1 h2;subst h1
     have:c'=!b:=by cases c' <;> cases b <;> simp at hcb ⊢
     subst this
     exact .skip g b d hgd hd (by simp) rfl rfl rfl
   ·injection h with h;injection h with h1 h2;subst h1
    exact .skip2 g b d hgd hd (by simp) rfl rfl rfl
   ·cases h
def zfr (tb:Tb) (ops:Array Oper):F->Nat->Nat->List Oper->List (Nat × Orc P)->Option (List I)
  | _,_,_,[],_=>some []
  | f,nx,j,o :: os,cs=>match run1 tb ops f nx o (cs.lookup j) with
    | some (i,nx')=>match zfr tb ops (f.app i) nx' (j+1) os cs with
      | some is=>some (i :: is)
      | none=>none
    | none=>none
def gens (os:List Oper):List (Nat × Orc P)->List ((Option Nat × Op) × (Option Nat × Op))
  | []=>[]
  | (j,.gen d op _ _) :: cs=>((((os[j]?).map (·.dst)).getD none,((os[j]?).map (·.op)).getD default),(d,op)) :: gens os cs
  | _ :: cs=>gens os cs
theorem gens_mem {os:List Oper} {d:Option Nat} {op:Op} {i:I} {h:∀ ty pos af gd,zav P ⟨d,op,ty,pos,af,gd⟩ i}:∀ {cs:List (Nat × Orc P)} {j:Nat}, (j,Orc.gen d op i h) ∈ cs->((((os[j]?).map (·.dst)).getD none,((os[j]?).map (·.op)).getD default),(d,op)) ∈ gens os cs
 | (j', c) :: cs,j,hm=>by
  rcases cC.1 hm with e | hm
  ·injection e with e1 e2
   subst e1 e2
   simp [gens]
  ·have:=gens_mem (os:=os) hm
   cases c <;> simp only [gens] <;> first | exact this | exact List.mem_cons_of_mem _ this
theorem insts_ok {tb:Tb} (htb:TbOk P tb) {cs:List (Nat × Orc P)} (hg:(gens ops.toList cs).map (·.1)=(gens ops.toList cs).map (·.2)) :
  ∀ (os:List Oper) (f:F) (nx j:Nat) (is:List I),ops.toList.drop j=os->zfr tb ops f nx j os cs=some is->AllDo P ops os is
 | [],f,nx,j,is,_,h=>by simp [zfr] at h;subst h;trivial
 | o :: os,f,nx,j,is,hd,h=>by
  simp only [zfr] at h
  split at h
  ·rename_i i nx' h1
   split at h
   ·rename_i is' h2
    injection h with h;subst h
    have ho:ops.toList[j]?=some o:=by
     have:=congrArg (fun l=>l[0]?) hd
     simpa using this
    refine ⟨run1_ok htb h1 ?_,insts_ok htb hg os _ _ (j+1) is' ?_ h2⟩
    ·intro d op i' hh hc
     have hm:=gens_mem (os:=ops.toList) (zaw hc)
     have:=zcx hg _ hm
     rw [ho] at this
     simp at this
     exact this
    ·have:List.drop 1 (ops.toList.drop j)=os:=by rw [hd];rfl
     rw [List.drop_drop] at this
     simpa using this
   ·cases h
  ·cases h
structure Seen where
  ok:Bool
  s:List (Option V)
  n:List (Option L)
  s':List (Option V)
  n':List (Option L)
end
section
variable {Q:Exit->Act->World->Prop} {w0:World} {H0:Im} {B0:Bl} {K:List Nat} {N:Nat}
def dK (ds:List Nat):List (Nat × V)->List (Nat × V)
  | []=>[]
  | p :: t=>bif ds.any (Nat.beq p.1) then dK ds t else p :: dK ds t
def iK (k:Nat) (v:V):List (Nat × V)->List (Nat × V)
  | []=>[(k,v)]
  | p :: t=>bif Nat.blt k p.1 then (k,v) :: p :: t else bif Nat.beq k p.1 then (k,v) :: t else p :: iK k v t
def uK (ds:List Nat) (nw sl:List (Nat × V)):List (Nat × V):=nw.foldr (fun p l=>iK p.1 p.2 l) (dK ds sl)
def uL (ds:List Nat) (nw:List (Nat × L)):List (Nat × L)->List (Nat × L)
  | []=>nw
  | p :: t=>bif ds.any (Nat.beq p.1) then uL ds nw t else bif nw.any (fun q=>Nat.beq q.1 p.1) then (nw.filter fun q=>Nat.beq q.1 p.1)++uL ds (nw.filter fun q=>!Nat.beq q.1 p.1) t else p :: uL ds nw t
theorem cvM {w:World} (ds:List Nat) (nw:List (Nat × V)) (md:List Nat) (mn:List (Nat × L)) (p:(sl,lc)=(uK ds nw sl,uL md mn lc)) (h:St e (F.of sl lc) a w):St e (F.of (uK ds nw sl) (uL md mn lc)) a w :=
  h.conv (congr (congrArg F.of (congrArg Prod.fst p)) (congrArg Prod.snd p))
theorem zd3 {ι:Type} {c:Code} {w:World} (I:ι->Prop) (ds:List Nat) (nws:ι->List (Nat × V)) (md:List Nat) (mns:ι->List (Nat × L)) (μ:ι->Nat) (x:ι) (hI:I x) (h:St ⟨w0,H0,B0,K,N⟩ (F.of sl lc) a w)
    (round:∀ x a w,I x->St ⟨w0,H0,B0,K,N⟩ (F.of (uK ds (nws x) sl) (uL md (mns x) lc)) a w->c.wp P (Exit.then (fun a' w'=>∃ y,(I y/\μ y<μ x)/\St ⟨w0,H0,B0,K,N⟩ (F.of (uK ds (nws y) sl) (uL md (mns y) lc)) a' w') Q) a w)
    (h1:leS (F.of sl lc) (uK ds (nws x) sl)=(uK ds (nws x) sl).map fun p=>some p.2:=by kernel_rfl) (h2:leN (F.of sl lc) (uL md (mns x) lc)=(uL md (mns x) lc).map fun p=>some p.2:=by kernel_rfl):(Code.loop c).wp P Q a w:=loopS I (fun x=>uK ds (nws x) sl) (fun x=>uL md (mns x) lc) μ x hI h h1 h2 round
def hcL (tb:Tb) (draw:Bool) (ops:Array Oper) (nx:Nat) (cs:List (Nat × Orc eO)) (N:Nat) (K:List Nat) (sl:List (Nat × V)) (lc:List (Nat × L)) (sl':List (Nat × V)) (lc':List (Nat × L)):=((gens ops.toList cs).map (·.1),(zfr tb ops (F.of sl lc) nx 0 ops.toList cs).isSome,(zfr tb ops (F.of sl lc) nx 0 ops.toList cs).map fun is=>Seen.mk (chk draw ops.toList is N K sl lc) (runS (F.of sl lc) is) (runN (F.of sl lc) is) (leS (runF (F.of sl lc) is) sl') (leN (runF (F.of sl lc) is) lc'))
def hcR (tb:Tb) (ops:Array Oper) (nx:Nat) (cs:List (Nat × Orc eO)) (sl:List (Nat × V)) (lc:List (Nat × L)) (sl':List (Nat × V)) (lc':List (Nat × L)):=((gens ops.toList cs).map (·.2),true,(zfr tb ops (F.of sl lc) nx 0 ops.toList cs).map fun is=>Seen.mk true (wantS is) (wantN is) (sl'.map fun p=>some p.2) (lc'.map fun p=>some p.2))
theorem rS {tb:Tb} (htb:TbOk eO tb) {id:Nat} {w:World} (nx:Nat) (cs:List (Nat × Orc eO)) (sl':List (Nat × V)) (lc':List (Nat × L))
  (hc:((gens ops.toList cs).map (·.1),(zfr tb ops (F.of sl lc) nx 0 ops.toList cs).isSome,(zfr tb ops (F.of sl lc) nx 0 ops.toList cs).map fun is=>Seen.mk (chk draw ops.toList is N K sl lc) (runS (F.of sl lc) is) (runN (F.of sl lc) is) (leS (runF (F.of sl lc) is) sl') (leN (runF (F.of sl lc) is) lc')) =
   ((gens ops.toList cs).map (·.2),true,(zfr tb ops (F.of sl lc) nx 0 ops.toList cs).map fun is=>Seen.mk true (wantS is) (wantN is) (sl'.map fun p=>some p.2) (lc'.map fun p=>some p.2)))
  (h:St ⟨w0,H0,B0,K,N⟩ (F.of sl lc) a w) (hQ:∀ a w,St ⟨w0,H0,B0,K,N⟩ (F.of sl' lc') a w->Q .normal a w):(Code.region id ops draw).wp eO Q a w:=by
 simp only [Prod.mk.injEq] at hc
 obtain ⟨hg,hs,hm⟩:=hc
 cases hi:zfr tb ops (F.of sl lc) nx 0 ops.toList cs with
 | none=>rw [hi] at hs;cases hs
 | some is =>
  rw [hi] at hm
  simp only [cT,Option.some.injEq,Seen.mk.injEq] at hm
  exact region is sl' lc' mixed (insts_ok htb hg _ _ _ _ _ rfl hi) hm.1 hm.2.1 hm.2.2.1 hm.2.2.2.1 hm.2.2.2.2 h hQ
theorem Jn {tb:Tb} {id:Nat} {w:World} (nx:Nat) (cs:List (Nat × Orc eO)) (sl':List (Nat × V)) (lc':List (Nat × L)) (h:St ⟨w0,H0,B0,K,N⟩ (F.of sl lc) a w) (hQ:∀ a w,St ⟨w0,H0,B0,K,N⟩ (F.of sl' lc') a w->Q .normal a w) (htb:TbOk eO tb:=by exact zex) (hc:hcL tb draw ops nx cs N K sl lc sl' lc'=hcR tb ops nx cs sl lc sl' lc':=by kernel_rfl):(Code.region id ops draw).wp eO Q a w:=rS htb nx cs sl' lc' hc h hQ
theorem Jh {tb:Tb} {id:Nat} {w:World} (nx:Nat) (cs:List (Nat × Orc eO)) (ds:List Nat) (nw:List (Nat × V)) (md:List Nat) (mn:List (Nat × L)) (h:St ⟨w0,H0,B0,K,N⟩ (F.of sl lc) a w) (hQ:∀ a w,St ⟨w0,H0,B0,K,N⟩ (F.of (uK ds nw sl) (uL md mn lc)) a w->Q .normal a w) (htb:TbOk eO tb:=by exact zex) (hc:hcL tb draw ops nx cs N K sl lc (uK ds nw sl) (uL md mn lc)=hcR tb ops nx cs sl lc (uK ds nw sl) (uL md mn lc):=by kernel_rfl):(Code.region id ops draw).wp eO Q a w:=rS htb nx cs (uK ds nw sl) (uL md mn lc) hc h hQ
theorem Jm {tb:Tb} {id:Nat} {w:World} (nx:Nat) (cs:List (Nat × Orc eO)) (ds:List Nat) (nw:List (Nat × V)) (lc':List (Nat × L)) (h:St ⟨w0,H0,B0,K,N⟩ (F.of sl lc) a w) (hQ:∀ a w,St ⟨w0,H0,B0,K,N⟩ (F.of (uK ds nw sl) lc') a w->Q .normal a w) (htb:TbOk eO tb:=by exact zex) (hc:hcL tb draw ops nx cs N K sl lc (uK ds nw sl) lc'=hcR tb ops nx cs sl lc (uK ds nw sl) lc':=by kernel_rfl):(Code.region id ops draw).wp eO Q a w:=rS htb nx cs (uK ds nw sl) lc' hc h hQ
theorem Jf {tb:Tb} {id:Nat} {w:World} (nx:Nat) (cs:List (Nat × Orc eO)) (ds:List Nat) (nw:List (Nat × V)) (h:St ⟨w0,H0,B0,K,N⟩ (F.of sl lc) a w) (hQ:∀ a w,St ⟨w0,H0,B0,K,N⟩ (F.of (uK ds nw sl) lc) a w->Q .normal a w) (htb:TbOk eO tb:=by exact zex) (hc:hcL tb draw ops nx cs N K sl lc (uK ds nw sl) lc=hcR tb ops nx cs sl lc (uK ds nw sl) lc:=by kernel_rfl):(Code.region id ops draw).wp eO Q a w:=rS htb nx cs (uK ds nw sl) lc hc h hQ
theorem Jl {tb:Tb} {id:Nat} {w:World} (nx:Nat) (cs:List (Nat × Orc eO)) (sl':List (Nat × V)) (h:St ⟨w0,H0,B0,K,N⟩ (F.of sl lc) a w) (hQ:∀ a w,St ⟨w0,H0,B0,K,N⟩ (F.of sl' lc) a w->Q .normal a w) (htb:TbOk eO tb:=by exact zex) (hc:hcL tb draw ops nx cs N K sl lc sl' lc=hcR tb ops nx cs sl lc sl' lc:=by kernel_rfl):(Code.region id ops draw).wp eO Q a w:=rS htb nx cs sl' lc hc h hQ
theorem rSeq {tb:Tb} (htb:TbOk eO tb) {id:Nat} {y:Code} {w:World} (nx:Nat) (cs:List (Nat × Orc eO)) (sl':List (Nat × V)) (lc':List (Nat × L))
  (hc:((gens ops.toList cs).map (·.1),(zfr tb ops (F.of sl lc) nx 0 ops.toList cs).isSome,(zfr tb ops (F.of sl lc) nx 0 ops.toList cs).map fun is=>Seen.mk (chk draw ops.toList is N K sl lc) (runS (F.of sl lc) is) (runN (F.of sl lc) is) (leS (runF (F.of sl lc) is) sl') (leN (runF (F.of sl lc) is) lc')) =
   ((gens ops.toList cs).map (·.2),true,(zfr tb ops (F.of sl lc) nx 0 ops.toList cs).map fun is=>Seen.mk true (wantS is) (wantN is) (sl'.map fun p=>some p.2) (lc'.map fun p=>some p.2)))
  (h:St ⟨w0,H0,B0,K,N⟩ (F.of sl lc) a w) (hQ:∀ a w,St ⟨w0,H0,B0,K,N⟩ (F.of sl' lc') a w->y.wp eO Q a w):(Code.seq (Code.region id ops draw) y).wp eO Q a w :=
 qW (rS htb nx cs sl' lc' hc h hQ)
theorem Jq {tb:Tb} {id:Nat} {y:Code} {w:World} (nx:Nat) (cs:List (Nat × Orc eO)) (sl':List (Nat × V)) (lc':List (Nat × L)) (h:St ⟨w0,H0,B0,K,N⟩ (F.of sl lc) a w) (hQ:∀ a w,St ⟨w0,H0,B0,K,N⟩ (F.of sl' lc') a w->y.wp eO Q a w) (htb:TbOk eO tb:=by exact zex) (hc:hcL tb draw ops nx cs N K sl lc sl' lc'=hcR tb ops nx cs sl lc sl' lc':=by kernel_rfl):(Code.seq (Code.region id ops draw) y).wp eO Q a w:=rSeq htb nx cs sl' lc' hc h hQ
theorem Jg {tb:Tb} {id:Nat} {y:Code} {w:World} (nx:Nat) (cs:List (Nat × Orc eO)) (ds:List Nat) (nw:List (Nat × V)) (md:List Nat) (mn:List (Nat × L)) (h:St ⟨w0,H0,B0,K,N⟩ (F.of sl lc) a w) (hQ:∀ a w,St ⟨w0,H0,B0,K,N⟩ (F.of (uK ds nw sl) (uL md mn lc)) a w->y.wp eO Q a w) (htb:TbOk eO tb:=by exact zex) (hc:hcL tb draw ops nx cs N K sl lc (uK ds nw sl) (uL md mn lc)=hcR tb ops nx cs sl lc (uK ds nw sl) (uL md mn lc):=by kernel_rfl):(Code.seq (Code.region id ops draw) y).wp eO Q a w:=rSeq htb nx cs (uK ds nw sl) (uL md mn lc) hc h hQ
theorem Jd {tb:Tb} {id:Nat} {y:Code} {w:World} (nx:Nat) (cs:List (Nat × Orc eO)) (ds:List Nat) (nw:List (Nat × V)) (lc':List (Nat × L)) (h:St ⟨w0,H0,B0,K,N⟩ (F.of sl lc) a w) (hQ:∀ a w,St ⟨w0,H0,B0,K,N⟩ (F.of (uK ds nw sl) lc') a w->y.wp eO Q a w) (htb:TbOk eO tb:=by exact zex) (hc:hcL tb draw ops nx cs N K sl lc (uK ds nw sl) lc'=hcR tb ops nx cs sl lc (uK ds nw sl) lc':=by kernel_rfl):(Code.seq (Code.region id ops draw) y).wp eO Q a w:=rSeq htb nx cs (uK ds nw sl) lc' hc h hQ
theorem Je {tb:Tb} {id:Nat} {y:Code} {w:World} (nx:Nat) (cs:List (Nat × Orc eO)) (ds:List Nat) (nw:List (Nat × V)) (h:St ⟨w0,H0,B0,K,N⟩ (F.of sl lc) a w) (hQ:∀ a w,St ⟨w0,H0,B0,K,N⟩ (F.of (uK ds nw sl) lc) a w->y.wp eO Q a w) (htb:TbOk eO tb:=by exact zex) (hc:hcL tb draw ops nx cs N K sl lc (uK ds nw sl) lc=hcR tb ops nx cs sl lc (uK ds nw sl) lc:=by kernel_rfl):(Code.seq (Code.region id ops draw) y).wp eO Q a w:=rSeq htb nx cs (uK ds nw sl) lc hc h hQ
theorem Jp {tb:Tb} {id:Nat} {y:Code} {w:World} (nx:Nat) (cs:List (Nat × Orc eO)) (sl':List (Nat × V)) (h:St ⟨w0,H0,B0,K,N⟩ (F.of sl lc) a w) (hQ:∀ a w,St ⟨w0,H0,B0,K,N⟩ (F.of sl' lc) a w->y.wp eO Q a w) (htb:TbOk eO tb:=by exact zex) (hc:hcL tb draw ops nx cs N K sl lc sl' lc=hcR tb ops nx cs sl lc sl' lc:=by kernel_rfl):(Code.seq (Code.region id ops draw) y).wp eO Q a w:=rSeq htb nx cs sl' lc hc h hQ
end
structure SlT (P:Program) (t el:TypeId) (es:Nat):Prop where
  hu:P.underlying t=some (.slice el)
  hs:(P.info? el).map (·.size)=some es
theorem SlT.mk' {t:TypeId} (hu:P.underlying t=some (.slice el)) (hs:(P.info? el).map (·.size)=some es):SlT P t el es:=⟨hu,hs⟩
theorem size_run {t:TypeId} (h:(P.info? t).map (·.size)=some n) (w:World):(Go.sizeOf t).run P w = .ok n w:=by
 cases hi:P.info? t with
 | none=>rw [hi] at h;cases h
 | some i =>
  rw [hi] at h
  injection h with h
  have e1:(typeInfo t).run P w = .ok i w:=by unfold typeInfo;simp only [Sem.run_bind,run_program,Result.andThen_ok,hi];rfl
  unfold Go.sizeOf
  simp [e1,h,go_sem]
theorem run_indexAt {t:TypeId} (h:SlT P t el es) {c:Nat} {k:IntKind} (hi:i<n) (w:World) :
  (Instr.indexAt t (.slice (some ⟨b,o,none⟩) n c) (.int k i)).run P w = .ok (.pointer (some ⟨b,o+i*es,none⟩)) w:=by
 have h1:(0:Int)<=i/\(i:Int)<n:=⟨by omega,by omega⟩
 unfold Instr.indexAt
 simp only [asIntOf,Sem.run_bind,Sem.run_pure,Result.andThen_ok,run_underlying h.hu,h1,and_self,if_true,size_run h.hs,Int.toNat_natCast,Addr.add_mid]
section
variable {P:Program}
theorem Op.idxD {d:Nat} {r:List D} {k:IntKind} {pos af gd} (hs:SlT P xt el es) (hr:rows[i]?=some r) (hy:OV y (vi k i) rs) :
  zav P ⟨some d,.indexAddr xt (.tmp t) y,ty,pos,af,gd⟩ { rs:=(t,.t (.c (.d (.sl es rows)))) :: rs,ws:=[(d,some (.t (.c (.el r))))] } :=
 zav.value d _ rfl rfl rfl fun e f H B a w hok hr2=>by
  have h1:=hok.slot t _ (hr2.1 (t,.t (.c (.d (.sl es rows)))) (by simp))
  have h2:a.eval y = .int k i:=(hy.eval hok fun p hp=>hr2.1 p (by simp [hp])).rawI
  obtain ⟨hi,rfl⟩:=bE.1 hr
  have h3:DR H (.sl es rows) (a.eval (.tmp t)):=h1
  generalize hv0:a.eval (.tmp t)=v at h3
  cases h3 with
  | nil ao c=>simp at hi
  | sl _ _ b o c arr ty' fz vs hp hb hl hc hes hv hx =>
   refine ⟨.pointer (some ⟨b,o+i*es,none⟩),?_,b,o+i*es,arr,ty', fz,hb,rfl,fun j hj=>⟨vs i j,hv i hi j (by rw [<- hes i hi];exact hj),hx i hi j hj⟩⟩
   have h5:a.eval (.tmp t) = .slice (some ⟨b,o,none⟩) rows.length c:=hv0
   generalize a.eval=ρ at h5 h2 ⊢
   simp only [execOp,h5,h2,Sem.run_bind,run_indexAt hs hi,Result.andThen_ok,Sem.run_pure]
end
theorem zar.iff {R:α->β->Prop}:∀ {xs:List α} {ys:List β}, zar R xs ys ↔ xs.length=ys.length/\∀ (j:Nat) a b,xs[j]?=some a->ys[j]?=some b->R a b
 | [],[]=>⟨fun _=>⟨rfl,fun j a b h=>by simp at h⟩,fun _=>trivial⟩
 | x :: xs,y :: ys=>by
  constructor
  ·intro h
   obtain ⟨h1,h2⟩:=zar.iff.1 h.2
   refine ⟨by simp [h1],fun j a b ha hb=>?_⟩
   cases j with
   | zero=>simp at ha hb;subst ha hb;exact h.1
   | succ j=>exact h2 j a b (by simpa using ha) (by simpa using hb)
  ·rintro ⟨h1,h2⟩
   exact ⟨h2 0 x y rfl rfl,zar.iff.2 ⟨by simpa using h1,fun j a b ha hb=>h2 (j+1) a b (by simpa using ha) (by simpa using hb)⟩⟩
 | [],_ :: _=>⟨fun h=>h.elim,fun h=>by simp at h⟩
 | _ :: _,[]=>⟨fun h=>h.elim,fun h=>by simp at h⟩
theorem flat_at:∀ {rows:List (List α)} (_:∀ r ∈ rows,r.length=es) (i f:Nat),f<es->rows.flatten[i*es+f]?=(rows[i]?).bind (·[f]?)
 | [],_,i,f,_=>by simp
 | r :: rows,h,0,f,hf=>by
  have:r.length=es:=h r (by simp)
  simp only [dY,Nat.zero_mul,cP,List.getElem?_cons_zero,Option.bind_some]
  rw [cY (by omega)]
 | r :: rows,h,i+1,f,hf=>by
  have:r.length=es:=h r (by simp)
  simp only [dY,dL]
  rw [cZ (by rw [this,bU];omega),<- flat_at (fun r hr=>h r (by simp [hr])) i f hf]
  congr 1
  rw [this,bU];omega
theorem zft:∀ {rows:List (List α)} (_:∀ r ∈ rows,r.length=es),rows.flatten.length=rows.length*es
 | [],_=>by simp
 | r :: rows,h=>by
  rw [dY,bC,zft fun r hr=>h r (by simp [hr]),h r (by simp),bN,bU];omega
def RowAtR {α:Type} (R:α->Value->Prop) (arr:List Value) (es:Nat) (rows:List (List α)):Prop:=∀ (i:Nat) r,rows[i]?=some r->∀ (f:Nat) x,r[f]?=some x->∃ u,arr[i*es+f]?=some u/\R x u
abbrev RowAt (H:Im):=RowAtR (DR H)
theorem zc6 {R:α->Value->Prop} {arr:List Value} {c:Nat} {rows:List (List α)} (h1:arr.length=c*es) (h2:rows.length<=c) (h3:∀ r ∈ rows,r.length=es) :
  zar R rows.flatten (arr.take (rows.length*es)) ↔ RowAtR R arr es rows:=by
 have hle:rows.length*es<=c*es:=bP _ h2
 rw [zar.iff]
 constructor
 ·rintro ⟨_,hR⟩ i r hr f x hx
  have hf:f<es:=by rw [<- h3 r (bV hr)];exact (bE.1 hx).1
  have hi:i<rows.length:=(bE.1 hr).1
  have hlt:i*es+f<rows.length*es:=by
   have:(i+1)*es<=rows.length*es:=bP _ hi
   rw [bU] at this;omega
  have e1:rows.flatten[i*es+f]?=some x:=by rw [flat_at h3 i f hf,hr];exact hx
  have e2:arr[i*es+f]?=some (arr[i*es+f]'(by omega)):=bF _
  refine ⟨_,e2,hR _ _ _ e1 ?_⟩
  rw [bX,if_pos hlt,e2]
 ·intro hR
  refine ⟨by rw [zft h3,bJ];omega,fun j x u hx hu=>?_⟩
  have hj:j<rows.length*es:=by rw [<- zft h3];exact (bE.1 hx).1
  have he:0<es:=dM fun e=>by simp [e] at hj
  have hjj:j=j / es*es+j % es:=by rw [cU];exact (dZ j es).symm
  rw [hjj,flat_at h3 _ _ (dG _ he)] at hx
  cases hr:rows[j / es]? with
  | none=>rw [hr] at hx;cases hx
  | some r =>
   rw [hr] at hx
   obtain ⟨v,h4,h5⟩:=hR _ r hr _ x hx
   rw [<- hjj] at h4
   rw [bX,if_pos hj,h4] at hu
   injection hu with hu
   rwa [<- hu]
theorem zhb:∀ (r l:List α) (o j:Nat),o+r.length<=l.length->(zh3 l o r)[j]?=if o<=j/\j<o+r.length then r[j - o]? else l[j]?
 | [],l,o,j,_=>by simp [zh3];intros;omega
 | v :: r,l,o,j,h=>by
  simp only [bN] at h
  rw [zh3,zhb r (l.set o v) (o+1) j (by simp;omega)]
  by_cases h1:j=o
  ·subst h1
   have:¬ (j+1<=j/\j<j+1+r.length):=by omega
   rw [if_neg this,if_pos ⟨bS _,by simp⟩,dH,dN (by omega)]
   rfl
  ·by_cases h2:o+1<=j/\j<o+1+r.length
   ·rw [if_pos h2,if_pos (by simp;omega),show j - o=(j - (o+1))+1 by omega,dL]
   ·rw [if_neg h2,if_neg (by simp;omega),dA (by omega)]
section
variable {P:Program}
theorem Op.idxO {d len:Nat} {k:IntKind} {pos af gd} (hs:SlT P xt el es) (hi:i<len) (hy:OV y (vi k i) rs) :
  zav P ⟨some d,.indexAddr xt (.tmp t) y,ty,pos,af,gd⟩ { rs:=(t,.t (.c (.own n len))) :: rs,ws:=[(d,some (vp n (i*es)))] } :=
 zav.value d _ rfl rfl rfl fun e f H B a w hok hr2=>by
  have h1:=hok.slot t _ (hr2.1 (t,.t (.c (.own n len))) (by simp))
  have h2:a.eval y = .int k i:=(hy.eval hok fun p hp=>hr2.1 p (by simp [hp])).rawI
  simp only [VR,TR,CR] at h1
  cases hB:B n with
  | none=>rw [hB] at h1;have:=h1.1;omega
  | some p =>
   obtain ⟨b,c⟩:=p
   rw [hB] at h1
   refine ⟨.pointer (some ⟨b,i*es,none⟩),?_,b,c,hB,rfl⟩
   have h5:a.eval (.tmp t) = .slice (some ⟨b,0,none⟩) len c:=h1
   generalize a.eval=ρ at h5 h2 ⊢
   simp only [execOp,h5,h2,Sem.run_bind,run_indexAt hs hi,Result.andThen_ok,Sem.run_pure,cP]
theorem Ok.row {w:World} (h:Ok e f H B a w) (hl:f.l n=some (.row ty es rows)) {c:Nat} (hB:B n=some (b,c)) :
  ∃ arr:List Value,w.heap[b]?=some (.cells ⟨arr⟩ ty (0,0))/\arr.length=c*es/\rows.length<=c/\c<=maxLen/\(∀ r ∈ rows,r.length=es)/\RowAt H arr es rows:=by
 have h1:=h.loc n _ hl
 simp only [LR,hB] at h1
 obtain ⟨arr,h1,h2,h3,h4,h5,h6⟩:=h1
 exact ⟨arr,h1,h2,h3,h4,h5,(zc6 h2 h3 h5).1 h6⟩
theorem Op.loadR_agg {d:Nat} {r xs:List D} {pos af gd} (hs:Sz P xt m true) (ho:o=i*es+fo) (hr:rows[i]?=some r) (hx:(r.drop fo).take m=xs) (hm:xs.length=m) :
  zav P ⟨some d,.load xt (.tmp t),ty,pos,af,gd⟩ { rs:=[(t,vp n o)],rl:=[(n,.row rty es rows)],ws:=[(d,some (.t (.agg (xs.map C.d))))] } :=
 zav.value d _ rfl rfl rfl fun e f H B a w hok hr2=>by
  obtain ⟨b,c,hb,hu⟩:=(hok.slot t _ (hr2.1 (t,vp n o) (by simp))).ptrI
  obtain ⟨arr,h1,h2,h3,h4,h5,h6⟩:=hok.row (hr2.2 (n,.row rty es rows) (by simp)) hb
  have hfill:∀ j (hj:j<m),∃ u,arr[o+j]?=some u/\DR H (xs[j]'(by omega)) u:=by
   intro j hj
   have:r[fo+j]?=some (xs[j]'(by omega)):=by
    rw [<- bF,<- hx,bX,if_pos hj,dJ]
   obtain ⟨u,g1,g2⟩:=h6 i r hr (fo+j) _ this
   exact ⟨u,by rw [ho,dX];exact g1,g2⟩
  have hlen:((arr.drop o).take m).length=m:=by
   rw [bJ,cX]
   cases m with
   | zero=>omega
   | succ m =>
    obtain ⟨u,g1,_⟩:=hfill m (by omega)
    have:=(bE.1 g1).1
    omega
  refine ⟨.agg ((arr.drop o).take m).toArray,?_,⟨_,rfl,?_⟩⟩
  ·have h7:a.eval (.tmp t) = .pointer (some ⟨b,o,none⟩):=hu
   generalize a.eval=ρ at h7 ⊢
   have h8:=zd8 (P:=P) hs (w:=w) (b:=b) (o:=o) (cs:=(arr.drop o).take m) hlen (fun j v hv=>by
    refine zd7 h1 ?_
    rw [bX] at hv
    split at hv
    ·rw [dJ] at hv;exact hv
    ·cases hv)
   simp only [execOp,h7,Instr.loadAt,Instr.sureAddr,Sem.run_bind,Sem.run_pure,Result.andThen_ok,h8]
  ·refine zar.iff.2 ⟨by simp [hlen,hm],fun j x u hx2 hu2=>?_⟩
   rw [cE] at hx2
   cases hj:xs[j]? with
   | none=>rw [hj] at hx2;cases hx2
   | some y =>
    rw [hj] at hx2
    injection hx2 with hx2
    subst hx2
    obtain ⟨hjl,hjy⟩:=bE.1 hj
    obtain ⟨u', g1,g2⟩:=hfill j (by omega)
    rw [bX,if_pos (by omega),dJ,g1] at hu2
    injection hu2 with hu2
    subst hu2
    rw [<- hjy]
    exact g2
theorem Op.loadR_c {d:Nat} {r:List D} {x:D} {pos af gd} (hs:Sz P xt m false) (ho:o=i*es+fo) (hr:rows[i]?=some r) (hx:r[fo]?=some x) :
  zav P ⟨some d,.load xt (.tmp t),ty,pos,af,gd⟩ { rs:=[(t,vp n o)],rl:=[(n,.row rty es rows)],ws:=[(d,some (.t (.c (.d x))))] } :=
 zav.value d _ rfl rfl rfl fun e f H B a w hok hr2=>by
  obtain ⟨b,c,hb,hu⟩:=(hok.slot t _ (hr2.1 (t,vp n o) (by simp))).ptrI
  obtain ⟨arr,h1,h2,h3,h4,h5,h6⟩:=hok.row (hr2.2 (n,.row rty es rows) (by simp)) hb
  obtain ⟨u,g1,g2⟩:=h6 i r hr fo x hx
  rw [<- ho] at g1
  refine ⟨u,?_,g2⟩
  have h7:a.eval (.tmp t) = .pointer (some ⟨b,o,none⟩):=hu
  generalize a.eval=ρ at h7 ⊢
  have h8:=zek (P:=P) hs (zd7 h1 g1)
  simp only [execOp,h7,Instr.loadAt,Instr.sureAddr,Sem.run_bind,Sem.run_pure,Result.andThen_ok,h8]
theorem Op.storeR {ag:Bool} {r ds:List D} {v:T} {pos af gd} (hs:Sz P xt m ag) (h:OV x (.t v) rs) (hv:cellsOf v=ds.map C.d) (hm:ds.length=m)
  (ho:o=i*es+fo) (hr:rows[i]?=some r) (hf:fo+m<=r.length) (hn:rows.set i (zh3 r fo ds)=rows') :
  zav P ⟨none,.store xt (.tmp t) x,ty,pos,af,gd⟩ { rs:=(t,vp n o) :: rs,rl:=[(n,.row rty es rows)],wl:=[(n,some (.row rty es rows'))] }:=by
 rintro e f a w Q ⟨H,B,hok⟩ hr2 hnw hb0
 obtain ⟨b,c,hb,hu⟩:=(hok.slot t _ (hr2.1 (t,vp n o) (by simp))).ptrI
 have hfl:=hr2.2 (n,.row rty es rows) (by simp)
 obtain ⟨arr,hcl,h2,h3,h4,h5,h6⟩:=hok.row hfl hb
 have hev:=h.eval hok (fun p hp=>hr2.1 p (by simp [hp]))
 obtain ⟨l,g3,g4⟩:=TR.cells hev
 rw [hv] at g4
 have hll:l.length=m:=by rw [<- g4.length,bK,hm]
 have hre:r.length=es:=h5 r (bV hr)
 have hi:i<rows.length:=(bE.1 hr).1
 have hie:(i+1)*es<=c*es:=bP _ (by omega)
 rw [bU] at hie
 have ho':o+m<=arr.length:=by rw [h2,ho];omega
 have hrun:(storeVar xt ⟨b,o,none⟩ (a.eval x)).run P w = .ok () (w.setCells b o l):=by
  have hst:=run_storeCells_cells (P:=P) b o l 0 w (fun j hj=>by
    rw [zd7 hcl (o:=o+0+j) (v:=arr[o+0+j]'(by omega)) (bF _)];rfl) (fun j hj=>by simp [World.frozen?, hcl]) (fun v hv=>by
    obtain ⟨i,hi,rfl⟩:=List.getElem_of_mem hv
    obtain ⟨y,hy,hR⟩:=g4.get i (by rw [g4.length];exact hi)
    rw [bF hi] at hy
    injection hy with hy
    rw [hy]
    exact zfs (CR.flat hR))
  unfold storeVar
  simp only [Sem.run_bind,hs.sizeOf,Result.andThen_ok,g3,hll,List.size_toArray,ne_eq,not_true_eq_false,if_false]
  simpa using hst
 obtain ⟨k1,k2,k3,k4,k5,k6⟩:=zcs l o w arr hcl
 have hg:a.eval (.tmp t) = .pointer (some ⟨b,o,none⟩):=hu
 unfold Oper.wp
 have hexec:(execOp a.eval ⟨none,.store xt (.tmp t) x,ty,pos,af,gd⟩).run P w = .ok .skip (w.setCells b o l):=by
  generalize hq:a.eval x=q at hrun
  generalize a.eval=ρ at hg hq ⊢
  simp only [execOp,hg,hq,Instr.storeAt,Instr.sureAddr,Sem.run_bind,Sem.run_pure,Result.andThen_ok,hrun]
 rw [hexec,Oper.upon_skip]
 subst hn
 have hrows:∀ r' ∈ rows.set i (zh3 r fo ds),r'.length=es:=by
  intro r' hr'
  rcases List.mem_or_eq_of_mem_set hr' with h' | rfl
  ·exact h5 r' h'
  ·rw [zci];exact hre
 have hlr:LR H B (w.setCells b o l) n (.row rty es (rows.set i (zh3 r fo ds))):=by
  simp only [LR,hb]
  refine ⟨zh3 arr o l,k1,by rw [zci];exact h2,by simpa using h3,h4,hrows,?_⟩
  refine (zc6 (by rw [zci];exact h2) (by simpa using h3) hrows).2 ?_
  intro i' r' hr' f' x' hx'
  rw [zhb l arr o _ (by omega)]
  have hf':f'<es:=by rw [<- hrows r' (bV hr')];exact (bE.1 hx').1
  by_cases hii:i'=i
  ·subst hii
   rw [dN hi] at hr'
   injection hr' with hr'
   subst hr'
   rw [zhb ds r fo _ (by omega)] at hx'
   by_cases hin:fo<=f'/\f'<fo+ds.length
   ·rw [if_pos hin] at hx'
    rw [if_pos (by rw [hll,ho];omega)]
    have e1:i'*es+f' - o=f' - fo:=by rw [ho];omega
    rw [e1]
    have hlt:f' - fo<l.length:=by omega
    refine ⟨_,bF hlt,?_⟩
    have:=(zar.iff.1 g4).2 (f' - fo) (.d x') (l[f' - fo]'hlt) (by rw [cE,hx'];rfl) (bF hlt)
    exact this
   ·rw [if_neg hin] at hx'
    rw [if_neg (by rw [hll,ho];omega)]
    exact h6 i' r hr f' x' hx'
  ·rw [dA (Ne.symm hii)] at hr'
   have hout:¬ (o<=i'*es+f'/\i'*es+f'<o+l.length):=by
    rw [hll,ho]
    rcases Nat.lt_or_gt_of_ne hii with hlt | hgt
    ·have:(i'+1)*es<=i*es:=bP _ hlt
     rw [bU] at this
     omega
    ·have:(i+1)*es<=i'*es:=bP _ hgt
     rw [bU] at this
     omega
   rw [if_neg hout]
   exact h6 i' r' hr' f' x' hx'
 exact St.put0 ⟨H,B,hok.write (g:=⟨f.s,fun m=>if m=n then some (.row rty es (rows.set i (zh3 r fo ds))) else f.l m⟩) (l' := .row rty es (rows.set i (zh3 r fo ds))) hfl hb (fun _=>rfl) (fun _=>rfl) k2 k3 k4 k5 k6 hlr⟩ rfl (app0_s _ _ rfl) (fun m=>app1_l f n _ _ rfl m)
end
def C.pub (n es:Nat) (rows:List (List D)):C->C
  | .own m k=>if Nat.beq m n then .d (.sl es rows) else .own m k
  | .ptr m o=>if Nat.beq m n then .any else .ptr m o
  | .sub m o k=>if Nat.beq m n then .any else .sub m o k
  | .mp m=>if Nat.beq m n then .any else .mp m
  | c=>c
def T.pub (n es:Nat) (rows:List (List D)):T->T
  | .c x => .c (x.pub n es rows)
  | .agg cs => .agg (cs.map (C.pub n es rows))
def V.pub (n es:Nat) (rows:List (List D)):V->V
  | .t x => .t (x.pub n es rows)
  | .tup xs => .tup (xs.map (T.pub n es rows))
def L.pub (n es:Nat) (rows:List (List D)):L->L
  | .box cs => .box (cs.map (C.pub n es rows))
  | .row ty k r => .row ty k r
  | .rowc ty k r => .rowc ty k (r.map (List.map (C.pub n es rows)))
  | .bld ty c rest => .bld ty (c.pub n es rows) (rest.map (C.pub n es rows))
  | .mp x => .mp x
def C.owns (n:Nat):C->List Nat
  | .own m k=>if Nat.beq m n then [k] else []
  | _=>[]
def T.owns (n:Nat):T->List Nat
  | .c x=>x.owns n
  | .agg cs=>cs.flatMap (C.owns n)
def V.owns (n:Nat):V->List Nat
  | .t x=>x.owns n
  | .tup xs=>xs.flatMap (T.owns n)
def L.owns (n:Nat):L->List Nat
  | .box cs=>cs.flatMap (C.owns n)
  | .row _ _ _=>[]
  | .rowc _ _ r=>r.flatten.flatMap (C.owns n)
  | .bld _ c rest=>c.owns n++rest.flatMap (C.owns n)
  | .mp _=>[]
def zg5 (m:Nat):List Nat->Prop
  | []=>True
  | k :: ks=>k=m/\zg5 m ks
theorem zg5.mem:∀ {ks:List Nat}, zg5 m ks->∀ k ∈ ks,k=m
 | k :: ks,h,x,hx=>by
  rcases cC.1 hx with rfl | hx
  ·exact h.1
  ·exact zg5.mem h.2 x hx
theorem row_data {c:Nat} {arr:List Value} (hb:H b=some (.cells ⟨arr⟩ ty (0,0))) (h3:rows.length<=c) (h4:c<=maxLen) (h5:∀ r ∈ rows,r.length=es) (h6:RowAt H arr es rows) :
  DR H (.sl es rows) (.slice (some ⟨b,0,none⟩) rows.length c):=by
 cases hr:rows with
 | nil=>exact .nil es _ c (fun h=>by cases h) h4
 | cons r0 rs0 =>
  rw [<- hr]
  refine .sl es rows b 0 c ⟨arr⟩ ty (0,0) (fun i j=>(arr[i*es+j]?).getD undef) (by rw [hr];simp) hb h3 h4 (fun i hi=>h5 _ (dO hi)) ?_ ?_
  ·intro i hi j hj
   have hj':j<(rows[i]'hi).length:=by rw [h5 _ (dO hi)];exact hj
   obtain ⟨u,g1,_⟩:=h6 i _ (bF hi) j _ (bF hj')
   simp [g1]
  ·intro i hi j hj
   obtain ⟨u,g1,g2⟩:=h6 i _ (bF hi) j _ (bF hj)
   simp only [g1,Option.getD_some]
   exact g2
def F.pub (f:F) (n es:Nat) (rows:List (List D)):F :=
  ⟨fun t=>(f.s t).map (V.pub n es rows),fun m=>if Nat.beq m n then none else (f.l m).map (L.pub n es rows)⟩
theorem St.pubK {w:World} (h:St ⟨w0,H0,B0,K,N⟩ f a w) (n es:Nat) (ty:TypeId) (rows:List (List D)) (hl:f.l n=some (.row ty es rows)) (hK:∀ k ∈ K,k≠n/\∃ l,f.l k=some l)
  (h1:∀ t v,f.s t=some v->∀ k ∈ v.owns n,k=rows.length) (h2:∀ m l,f.l m=some l->∀ k ∈ l.owns n,k=rows.length):St ⟨w0,H0,B0,K,N⟩ (f.pub n es rows) a w:=by
 obtain ⟨H,B,hok⟩:=h
 have hLR:=hok.loc n _ hl
 -- what stays from here on
 obtain ⟨H', hle,hH', hcell⟩:∃ H':Im,Le H H'/\(∀ b o,H' b=some o->H b=some o\/(w.heap[b]?=some o/\∃ c,B n=some (b,c))) /\
   (∀ (x:C) (v:Value),(∀ k ∈ x.owns n,k=rows.length)->CR H B x v->CR H' B (x.pub n es rows) v):=by
  have keepC:∀ {H':Im} (hle:Le H H'),(∀ v,CR H B (.own n rows.length) v->DR H' (.sl es rows) v)->∀ (x:C) (v:Value),(∀ k ∈ x.owns n,k=rows.length)->CR H B x v->CR H' B (x.pub n es rows) v:=by
   intro H' hle hown x v hk hx
   cases x with
   | own m k =>
    simp only [C.pub]
    split
    ·rename_i e1
     have e1:=bG e1
     subst e1
     have:=hk k (by simp [C.owns])
     subst this
     exact hown v hx
    ·exact CR.mono hle (fun _ _=>rfl) hx
   | ptr m o =>
    simp only [C.pub]
    split
    ·exact CR.flat hx
    ·exact CR.mono hle (fun _ _=>rfl) hx
   | sub m o k =>
    simp only [C.pub]
    split
    ·exact CR.flat hx
    ·exact CR.mono hle (fun _ _=>rfl) hx
   | d x=>exact CR.mono hle (fun _ _=>rfl) hx
   | el x=>exact CR.mono hle (fun _ _=>rfl) hx
   | fn f' x y=>exact CR.mono hle (fun _ _=>rfl) hx
   | any=>exact hx
   | mp m =>
    simp only [C.pub]
    split
    ·exact CR.flat hx
    ·exact CR.mono hle (fun _ _=>rfl) hx
  cases hB:B n with
  | none =>
   simp only [LR,hB] at hLR
   subst hLR
   refine ⟨H,Le.refl _,fun b o h => .inl h,keepC (Le.refl _) fun v hv=>?_⟩
   simp only [CR,hB] at hv
   obtain ⟨_,ao,hv⟩:=hv
   rw [hv]
   exact .nil es ao 0 (fun _=>rfl) (bL _)
  | some p =>
   obtain ⟨b,c⟩:=p
   obtain ⟨arr,g1,g2,g3,g4,g5,g6⟩:=hok.row hl hB
   have hnone:=(hok.priv n _ b c hl hB).2.1
   have hle:Le H (fun x=>if x=b then some (.cells ⟨arr⟩ ty (0,0)) else H x):=by
    intro x o hx
    have:x≠b:=fun e=>by rw [e,hnone] at hx;cases hx
    simp [this,hx]
   refine ⟨fun x=>if x=b then some (.cells ⟨arr⟩ ty (0,0)) else H x,hle,?_,keepC hle fun v hv=>?_⟩
   ·intro x o hx
    by_cases e:x=b
    ·subst e
     simp only [if_true] at hx
     exact .inr ⟨by rw [g1];exact hx,c,rfl⟩
    ·simp [e] at hx;exact .inl hx
   ·simp only [CR,hB] at hv
    rw [hv]
    exact row_data (arr:=arr) (ty:=ty) (if_pos rfl) g3 g4 g5 fun i r hr f' x hx=>by
     obtain ⟨u,k1,k2⟩:=g6 i r hr f' x hx
     exact ⟨u,k1,k2.mono hle⟩
 have hT:∀ (x:T) (v:Value),(∀ k ∈ x.owns n,k=rows.length)->TR H B x v->TR H' B (x.pub n es rows) v:=by
  intro x v hk hx
  cases x with
  | c x=>exact hcell x v hk hx
  | agg cs =>
   obtain ⟨vs,hv,hx⟩:=hx
   refine ⟨vs,hv,zar.iff.2 ⟨by rw [bK];exact hx.length,fun j a' b' ha hb=>?_⟩⟩
   rw [cE] at ha
   cases hj:cs[j]? with
   | none=>rw [hj] at ha;cases ha
   | some y =>
    rw [hj] at ha
    injection ha with ha
    subst ha
    exact hcell y b' (fun k hk2=>hk k (by simp only [T.owns,bW];exact ⟨y,bV hj,hk2⟩)) ((zar.iff.1 hx).2 j y b' hj hb)
 refine ⟨H', B,hok.df,hok.n,hok.ext,?_,?_,?_,?_,?_,?_,hok.le.trans hle,hok.keep,hok.tab⟩
 ·intro b o hb
  rcases hH' b o hb with h' | ⟨h', _⟩
  ·exact hok.sat b o h'
  ·exact h'
 ·intro t v hv
  simp only [F.pub,cV] at hv
  obtain ⟨x,hx,rfl⟩:=hv
  have hR:=hok.slot t x hx
  have hk:=h1 t x hx
  cases x with
  | t x=>exact hT x _ hk hR
  | tup xs =>
   obtain ⟨vs,hv,hx2⟩:=hR
   refine ⟨vs,hv,zar.iff.2 ⟨by rw [bK];exact hx2.length,fun j a' b' ha hb=>?_⟩⟩
   rw [cE] at ha
   cases hj:xs[j]? with
   | none=>rw [hj] at ha;cases ha
   | some y =>
    rw [hj] at ha
    injection ha with ha
    subst ha
    exact hT y b' (fun k hk2=>hk k (by simp only [V.owns,bW];exact ⟨y,bV hj,hk2⟩)) ((zar.iff.1 hx2).2 j y b' hj hb)
 ·intro m l hm
  simp only [F.pub] at hm
  split at hm
  ·cases hm
  ·simp only [cV] at hm
   obtain ⟨x,hx,rfl⟩:=hm
   have hR:=hok.loc m x hx
   have hk:=h2 m x hx
   cases x with
   | box cs =>
    obtain ⟨b,c,arr,ty', hb,hc,hx2⟩:=hR
    refine ⟨b,c,arr,ty', hb,hc,zar.iff.2 ⟨by rw [bK];exact hx2.length,fun j a' b' ha hb=>?_⟩⟩
    rw [cE] at ha
    cases hj:cs[j]? with
    | none=>rw [hj] at ha;cases ha
    | some y =>
     rw [hj] at ha
     injection ha with ha
     subst ha
     exact hcell y b' (fun k hk2=>hk k (by simp only [L.owns,bW];exact ⟨y,bV hj,hk2⟩)) ((zar.iff.1 hx2).2 j y b' hj hb)
   | row ty' es' rows'=>exact LR.mono hle rfl (fun _ _=>rfl) (fun _ _ _=>rfl) hR
   | rowc ty' es' rows' =>
    simp only [LR,L.pub] at hR ⊢
    cases hb:B m with
    | none=>rw [hb] at hR;rw [hR];rfl
    | some p =>
     obtain ⟨b,c⟩:=p
     rw [hb] at hR
     obtain ⟨arr,g1,g2,g3,g4,g5,g6⟩:=hR
     refine ⟨arr,g1,g2,by rw [bK];exact g3,g4,fun r hr=>?_,?_⟩
     ·obtain ⟨r0,hr0,rfl⟩:=dB.1 hr;rw [bK];exact g5 r0 hr0
     ·rw [bK,<- List.map_flatten]
      exact g6.mapL _ fun x hx v hv=>hcell x v (fun k hk2=>hk k (by simp only [L.owns,bW];exact ⟨x,hx,hk2⟩)) hv
   | mp x=>exact LR.mono (x:=.mp x) hle rfl (fun _ _=>rfl) (fun _ _ _=>rfl) hR
   | bld ty' c' rest =>
    obtain ⟨b,k,v1,v2,vr,hb,hc,g1,g0,g2,g3⟩:=hR
    refine ⟨b,k,v1,v2,vr,hb,hc,g1,g0,hcell c' v2 (fun k hk2=>hk k (by simp only [L.owns];exact List.mem_append_left _ hk2)) g2,zar.iff.2 ⟨by rw [bK];exact g3.length,fun j a' b' ha hb=>?_⟩⟩
    rw [cE] at ha
    cases hj:rest[j]? with
    | none=>rw [hj] at ha;cases ha
    | some y =>
     rw [hj] at ha
     injection ha with ha
     subst ha
     exact hcell y b' (fun k hk2=>hk k (by simp only [L.owns];exact List.mem_append_right _ (bW.2 ⟨y,bV hj,hk2⟩))) ((zar.iff.1 g3).2 j y b' hj hb)
 ·intro m l b c hm hb
  simp only [F.pub] at hm
  split at hm
  ·cases hm
  ·rename_i hne
   simp only [cV] at hm
   obtain ⟨x,hx,rfl⟩:=hm
   obtain ⟨p1,p2,p3⟩:=hok.priv m x b c hx hb
   refine ⟨p1,?_,p3⟩
   cases hq:H' b with
   | none=>rfl
   | some o =>
    rcases hH' b o hq with h' | ⟨_,c', h'⟩
    ·rw [p2] at h';cases h'
    ·have:=hok.inj m n x _ b c c' hx hl hb h'
     subst this
     simp at hne
 ·intro m k l l' b c c' hm hk hb hb'
  simp only [F.pub] at hm hk
  split at hm
  ·cases hm
  ·split at hk
   ·cases hk
   ·simp only [cV] at hm hk
    obtain ⟨x,hx,_⟩:=hm
    obtain ⟨y,hy,_⟩:=hk
    exact hok.inj m k x y b c c' hx hy hb hb'
 ·intro b hb
  cases hq:H' b with
  | none =>
   rw [<- hok.low b hb]
   cases hr:H b with
   | none=>rfl
   | some o=>rw [hle b o hr] at hq;cases hq
  | some o =>
   rcases hH' b o hq with h' | ⟨_,c', h'⟩
   ·rw [<- hok.low b hb,h']
   ·rcases (hok.priv n _ b c' hl h').2.2 with ⟨m,hm,c9,hc9⟩ | h3
    ·obtain ⟨k1,l9,k2⟩:=hK m hm
     exact absurd (hok.inj m n l9 _ b c9 c' k2 hl (by rw [hok.keep m hm];exact hc9) h') k1
    ·exact absurd hb (by simpa using h3)
theorem St.pub {w:World} (h:St ⟨w0,H0,B0,[],N⟩ f a w) (n es:Nat) (ty:TypeId) (rows:List (List D)) (hl:f.l n=some (.row ty es rows))
  (h1:∀ t v,f.s t=some v->∀ k ∈ v.owns n,k=rows.length) (h2:∀ m l,f.l m=some l->∀ k ∈ l.owns n,k=rows.length):St ⟨w0,H0,B0,[],N⟩ (f.pub n es rows) a w :=
 h.pubK n es ty rows hl (fun k hk=>by cases hk) h1 h2
abbrev Orc.g {P:Program} {d:Option Nat} {op:Op} {i:I} (h:∀ {ty pos af gd}, zav P ⟨d,op,ty,pos,af,gd⟩ i):Orc P:=.gen d op i fun _ _ _ _=>h
abbrev Orc.j1 {P:Program} (j:Nat) (h:IntKind.i64.wrap ((j:Int)+1)=(j:Int)+1:=by exact i64_id (by omega) (by omega)):Orc P:=.add .i64 h
section
variable {P:Program}
theorem xD (d t:Nat) {r:List D} {pos af gd} (hs:SlT P xt el es) (hr:rows[i]?=some r) (hy:OV y (vi .i64 i) rs) :
    zav P ⟨some d,.indexAddr xt (.tmp t) y,ty,pos,af,gd⟩ { rs:=(t,.t (.c (.d (.sl es rows)))) :: rs,ws:=[(d,some (.t (.c (.el r))))] }:=Op.idxD hs hr hy
theorem xO (d t n len i:Nat) {pos af gd} (hs:SlT P xt el es) (hy:OV y (vi .i64 i) rs) (hi:i<len:=by first | omega | (simp at *;omega)) :
    zav P ⟨some d,.indexAddr xt (.tmp t) y,ty,pos,af,gd⟩ { rs:=(t,.t (.c (.own n len))) :: rs,ws:=[(d,some (vp n (i*es)))] }:=Op.idxO hs hi hy
end
def A.ren (n m:Nat):A->A
  | .d x => .d x
  | .ptr k o => .ptr (if Nat.beq k n then m else k) o
def C.ren (n m:Nat):C->C
  | .own k l => .own (if Nat.beq k n then m else k) l
  | .ptr k o => .ptr (if Nat.beq k n then m else k) o
  | .sub k o l => .sub (if Nat.beq k n then m else k) o l
  | .mp k => .mp (if Nat.beq k n then m else k)
  | .fn f fs cs => .fn f (fs.map (A.ren n m)) (cs.map (A.ren n m))
  | c=>c
def T.ren (n m:Nat):T->T
  | .c x => .c (x.ren n m)
  | .agg cs => .agg (cs.map (C.ren n m))
def V.ren (n m:Nat):V->V
  | .t x => .t (x.ren n m)
  | .tup xs => .tup (xs.map (T.ren n m))
def L.ren (n m:Nat):L->L
  | .box cs => .box (cs.map (C.ren n m))
  | .row ty k r => .row ty k r
  | .rowc ty k r => .rowc ty k (r.map (List.map (C.ren n m)))
  | .bld ty c rest => .bld ty (c.ren n m) (rest.map (C.ren n m))
  | .mp x => .mp x
def F.ren (f:F) (n m:Nat):F :=
  ⟨fun t=>(f.s t).map (V.ren n m),fun x=>if Nat.beq x m then (f.l n).map (L.ren n m) else if Nat.beq x n then none else (f.l x).map (L.ren n m)⟩
section
variable {H:Im} {B:Bl} {n m:Nat}
def swB (B:Bl) (n m:Nat):Bl:=fun x=>if x=m then B n else B x
theorem zdk (k:Nat) (hk:k≠m):swB B n m (if Nat.beq k n then m else k)=B k:=by
 by_cases e:k=n
 ·subst e;simp [swB]
 ·have:Nat.beq k n=false:=by
   cases h:Nat.beq k n with
   | false=>rfl
   | true=>exact absurd (bG h) e
  simp [this,swB,hk]
theorem AR.ren {x:A} (hm:m ∉ x.tags) (h:AR H B x v):AR H (swB B n m) (x.ren n m) v:=by
 cases x with
 | d x=>exact h
 | ptr k o=>obtain ⟨b,c,hb,hv⟩:=h;exact ⟨b,c,(zdk k (fun e=>hm (by simp [A.tags,e]))).trans hb,hv⟩
theorem CR.ren {x:C} (hm:m ∉ x.tags) (h:CR H B x v):CR H (swB B n m) (x.ren n m) v:=by
 cases x with
 | ptr k o=>obtain ⟨b,c,hb,hv⟩:=h;exact ⟨b,c,(zdk k (fun e=>hm (by simp [C.tags,e]))).trans hb,hv⟩
 | sub k o l=>exact ⟨h.1,fun hl=>let ⟨b,c,j,h1,h2⟩:=h.2 hl;⟨b,c,j,(zdk k (fun e=>hm (by simp [C.tags,e]))).trans h1,h2⟩⟩
 | own k l=>simp only [CR,C.ren] at h ⊢;rw [zdk k (fun e=>hm (by simp [C.tags,e]))];exact h
 | fn f fs cs =>
  obtain ⟨vs,ws,hv,h1,h2⟩:=h
  simp only [C.tags,cL,bW,not_or,not_exists,not_and] at hm
  exact ⟨vs,ws,hv,h1.mapL _ fun a ha b=>AR.ren (hm.1 a ha),h2.mapL _ fun a ha b=>AR.ren (hm.2 a ha)⟩
 | d x=>exact h
 | el x=>exact h
 | any=>exact h
 | mp k=>obtain ⟨b,c,hb,hv⟩:=h;exact ⟨b,c,(zdk k (fun e=>hm (by simp [C.tags,e]))).trans hb,hv⟩
theorem TR.ren {x:T} (hm:m ∉ x.tags) (h:TR H B x v):TR H (swB B n m) (x.ren n m) v:=by
 cases x with
 | c x=>exact CR.ren hm h
 | agg cs =>
  obtain ⟨vs,hv,h1⟩:=h
  simp only [T.tags,bW,not_exists,not_and] at hm
  exact ⟨vs,hv,h1.mapL _ fun a ha b=>CR.ren (hm a ha)⟩
theorem VR.ren {x:V} (hm:m ∉ x.tags) (h:VR H B x v):VR H (swB B n m) (x.ren n m) v:=by
 cases x with
 | t x=>exact TR.ren hm h
 | tup xs =>
  obtain ⟨vs,hv,h1⟩:=h
  simp only [V.tags,bW,not_exists,not_and] at hm
  exact ⟨vs,hv,h1.mapL _ fun a ha b=>TR.ren (hm a ha)⟩
theorem LR.ren {x:L} {w:World} (hk:k≠m) (hm:m ∉ x.tags) (h:LR H B w k x):LR H (swB B n m) w (if Nat.beq k n then m else k) (x.ren n m):=by
 cases x with
 | box cs =>
  obtain ⟨b,c,arr,ty,hb,hc,h1⟩:=h
  simp only [L.tags,bW,not_exists,not_and] at hm
  exact ⟨b,c,arr,ty,(zdk k hk).trans hb,hc,h1.mapL _ fun a ha b=>CR.ren (hm a ha)⟩
 | row ty es rows=>simp only [LR,L.ren] at h ⊢;rw [zdk k hk];exact h
 | rowc ty es rows =>
  simp only [LR,L.ren] at h ⊢;rw [zdk k hk]
  simp only [L.tags,bW,not_exists,not_and] at hm
  cases hb:B k with
  | none=>rw [hb] at h;rw [h];rfl
  | some p =>
   obtain ⟨b,c⟩:=p
   rw [hb] at h
   obtain ⟨arr,h1,h2,h3,h4,h5,h6⟩:=h
   refine ⟨arr,h1,h2,by rw [bK];exact h3,h4,fun r hr=>?_,?_⟩
   ·obtain ⟨r0,hr0,rfl⟩:=dB.1 hr;rw [bK];exact h5 r0 hr0
   ·rw [bK,<- List.map_flatten];exact h6.mapL _ fun a ha b=>CR.ren (hm a ha)
 | bld ty c rest =>
  obtain ⟨b,j,v1,v2,vr,hb,hc,h1,h0,h2,h3⟩:=h
  simp only [L.tags,cL,not_or,bW,not_exists,not_and] at hm
  exact ⟨b,j,v1,v2,vr,(zdk k hk).trans hb,hc,h1,h0,CR.ren hm.1 h2,h3.mapL _ fun a ha b=>CR.ren (hm.2 a ha)⟩
 | mp x=>obtain ⟨b,c,arr,cl,hb,hc,h1⟩:=h;exact ⟨b,c,arr,cl,(zdk k hk).trans hb,hc,h1⟩
end
theorem St.ren {w:World} (h:St e f a w) (n m:Nat) (hm:New e.K f m):St e (f.ren n m) a w:=by
 obtain ⟨H,B,hok⟩:=h
 have hmn:f.l m=none:=hm.2.1
 have cls:∀ x l,(f.ren n m).l x=some l->∃ y l0,f.l y=some l0/\l=l0.ren n m/\y≠m/\x=(if Nat.beq y n then m else y):=by
  intro x l hx
  simp only [F.ren] at hx
  split at hx
  ·rename_i e1
   have e1:=bG e1
   simp only [cV] at hx
   obtain ⟨l0,h1,rfl⟩:=hx
   exact ⟨n,l0,h1,rfl,(fun e=>by rw [e,hmn] at h1;cases h1),by simp [e1]⟩
  ·rename_i e1
   split at hx
   ·cases hx
   ·rename_i e2
    simp only [cV] at hx
    obtain ⟨l0,h1,rfl⟩:=hx
    exact ⟨x,l0,h1,rfl,(fun e=>by rw [e,hmn] at h1;cases h1),by simp [e2]⟩
 refine ⟨H,swB B n m,hok.df,hok.n,hok.ext,hok.sat,?_,?_,?_,?_,hok.low,hok.le,?_,hok.tab⟩
 ·intro t v hv
  simp only [F.ren,cV] at hv
  obtain ⟨x,hx,rfl⟩:=hv
  exact VR.ren (hm.2.2.1 t x hx) (hok.slot t x hx)
 ·intro x l hx
  obtain ⟨y,l0,h1,rfl,h2,rfl⟩:=cls x l hx
  exact LR.ren h2 (hm.2.2.2 y l0 h1) (hok.loc y l0 h1)
 ·intro x l b c hx hb
  obtain ⟨y,l0,h1,rfl,h2,rfl⟩:=cls x l hx
  rw [zdk y h2] at hb
  exact hok.priv y l0 b c h1 hb
 ·intro x z l l' b c c' hx hz hb hb'
  obtain ⟨y,l0,h1,rfl,h2,rfl⟩:=cls x l hx
  obtain ⟨y', l0', h1', rfl,h2', rfl⟩:=cls z l' hz
  rw [zdk y h2] at hb
  rw [zdk y' h2'] at hb'
  rw [hok.inj y y' l0 l0' b c c' h1 h1' hb hb']
 ·intro x hx
  have:x≠m:=fun e=>hm.1 (e ▸ hx)
  simp only [swB,this,if_false]
  exact hok.keep x hx
def F.setS (f:F) (t:Nat) (v:V):F:=⟨fun x=>if Nat.beq x t then some v else f.s x,f.l⟩
def F.setL (f:F) (n:Nat) (l:L):F:=⟨f.s,fun x=>if Nat.beq x n then some l else f.l x⟩
theorem Ok.setS {w:World} (h:Ok e f H B a w) (t:Nat) (v v':V) (hv:f.s t=some v) (hx:∀ u,VR H B v u->VR H B v' u):Ok e (f.setS t v') H B a w:=by
 refine ⟨h.df,h.n,h.ext,h.sat,?_,h.loc,h.priv,h.inj,h.low,h.le,h.keep,h.tab⟩
 intro x y hy
 simp only [F.setS] at hy
 split at hy
 ·rename_i e1
  have e1:=bG e1
  subst e1
  injection hy with hy
  subst hy
  exact hx _ (h.slot x v hv)
 ·exact h.slot x y hy
theorem Ok.setL {w:World} (h:Ok e f H B a w) (n:Nat) (l l':L) (hl:f.l n=some l) (hx:LR H B w n l->LR H B w n l'):Ok e (f.setL n l') H B a w:=by
 have cls:∀ m x,(f.setL n l').l m=some x->∃ y,f.l m=some y:=by
  intro m x hm
  simp only [F.setL] at hm
  split at hm
  ·rename_i e1
   have e1:=bG e1
   subst e1
   exact ⟨l,hl⟩
  ·exact ⟨x,hm⟩
 refine ⟨h.df,h.n,h.ext,h.sat,h.slot,?_,?_,?_,h.low,h.le,h.keep,h.tab⟩
 ·intro m x hm
  simp only [F.setL] at hm
  split at hm
  ·rename_i e1
   have e1:=bG e1
   subst e1
   injection hm with hm
   subst hm
   exact hx (h.loc m l hl)
  ·exact h.loc m x hm
 ·intro m x b c hm hb
  obtain ⟨y,hy⟩:=cls m x hm
  exact h.priv m y b c hy hb
 ·intro m k x y b c c' hm hk hb hb'
  obtain ⟨x', hx'⟩:=cls m x hm
  obtain ⟨y', hy'⟩:=cls k y hk
  exact h.inj m k x' y' b c c' hx' hy' hb hb'
theorem Ok.nilName {w:World} (h:Ok e f H B a w) (n es:Nat) (ty:TypeId) (hn:New e.K f n) :
  Ok e (f.setL n (.row ty es [])) H (fun x=>if x=n then none else B x) a w:=by
 have hB:∀ m,m≠n->(fun x=>if x=n then none else B x) m=B m:=fun m hm=>by simp [hm]
 refine ⟨h.df,h.n,h.ext,h.sat,?_,?_,?_,?_,h.low,h.le,?_,h.tab⟩
 ·intro t v hv
  exact VR.mono (Le.refl _) (fun m hm=>hB m fun e=>hn.2.2.1 t v hv (e ▸ hm)) (h.slot t v hv)
 ·intro m x hm
  simp only [F.setL] at hm
  split at hm
  ·rename_i e1
   have e1:=bG e1
   subst e1
   injection hm with hm
   subst hm
   simp [LR]
  ·rename_i e1
   have hne:m≠n:=fun e=>by simp [e] at e1
   exact LR.mono (Le.refl _) (hB m hne) (fun k hk=>hB k fun e=>hn.2.2.2 m x hm (e ▸ hk)) (fun _ _ _=>rfl) (h.loc m x hm)
 ·intro m x b c hm hb
  by_cases e1:m=n
  ·simp [e1] at hb
  ·simp only [if_neg e1] at hb
   simp only [F.setL] at hm
   rw [if_neg (fun e=>e1 (bG e))] at hm
   exact h.priv m x b c hm hb
 ·intro m k x y b c c' hm hk hb hb'
  by_cases e1:m=n
  ·simp [e1] at hb
  ·by_cases e2:k=n
   ·simp [e2] at hb'
   ·simp only [if_neg e1] at hb
    simp only [if_neg e2] at hb'
    simp only [F.setL] at hm hk
    rw [if_neg (fun e=>e1 (bG e))] at hm
    rw [if_neg (fun e=>e2 (bG e))] at hk
    exact h.inj m k x y b c c' hm hk hb hb'
 ·intro m hm
  exact (hB m fun e=>hn.1 (e ▸ hm)).trans (h.keep m hm)
def zb2:Value:=.slice none 0 0
def V.getC:V->Nat->Option C
  | .t (.c x),0=>some x
  | .t (.agg cs),j=>cs[j]?
  | _,_=>none
def V.setC:V->Nat->C->V
  | .t (.c _),_,c => .t (.c c)
  | .t (.agg cs),j,c => .t (.agg (cs.set j c))
  | v,_,_=>v
theorem VR.setC {v:V} {c c':C} (hg:v.getC j=some c) (hc:∀ u,CR H B c u->CR H B c' u) {u:Value} (h:VR H B v u):VR H B (v.setC j c') u:=by
 cases v with
 | tup xs=>cases hg
 | t x =>
  cases x with
  | c x =>
   cases j with
   | zero=>injection hg with hg;subst hg;exact hc u h
   | succ j=>cases hg
  | agg cs =>
   obtain ⟨vs,hv,h1⟩:=h
   refine ⟨vs,hv,zar.iff.2 ⟨by simpa using h1.length,fun i x y hx hy=>?_⟩⟩
   have hg:cs[j]?=some c:=by cases j <;> exact hg
   by_cases e:i=j
   ·subst e
    rw [dN (bE.1 hg).1] at hx
    injection hx with hx
    subst hx
    exact hc _ ((zar.iff.1 h1).2 i c y hg hy)
   ·rw [dA (Ne.symm e)] at hx
    exact (zar.iff.1 h1).2 i x y hx hy
theorem LR.setC {w:World} {c c':C} (hg:cs[j]?=some c) (hc:∀ u,CR H B c u->CR H B c' u) (h:LR H B w n (.box cs)):LR H B w n (.box (cs.set j c')):=by
 obtain ⟨b,k,arr,ty,hb,hw,h1⟩:=h
 refine ⟨b,k,arr,ty,hb,hw,zar.iff.2 ⟨by simpa using h1.length,fun i x y hx hy=>?_⟩⟩
 by_cases e:i=j
 ·subst e
  rw [dN (bE.1 hg).1] at hx
  injection hx with hx
  subst hx
  exact hc _ ((zar.iff.1 h1).2 i c y hg hy)
 ·rw [dA (Ne.symm e)] at hx
  exact (zar.iff.1 h1).2 i x y hx hy
theorem nil_data (es:Nat) {c:Nat} (h1:ao=none->c=0) (h2:c<=maxLen) (u:Value) (h:CR H B (.d (.raw (.slice ao 0 c))) u):CR H B (.d (.sl es [])) u:=by
 have:=VR.rawI (H:=H) (B:=B) h
 subst this
 exact DR.nil es ao c h1 h2
section
variable {e:E} {f:F} {a:Act} {w:World}
theorem St.nilOS (h:St e f a w) (t j n es:Nat) (ty:TypeId) {v:V} (hv:f.s t=some v) (hg:v.getC j=some (.d (.raw zb2))) (hn:New e.K f n):St e ((f.setL n (.row ty es [])).setS t (v.setC j (.own n 0))) a w:=by
 obtain ⟨H,B,hok⟩:=h
 refine ⟨H,_,(hok.nilName n es ty hn).setS t v _ hv fun u hu=>VR.setC hg (fun u hu=>?_) hu⟩
 have:=VR.rawI (H:=H) (B:=fun x=>if x=n then none else B x) hu
 subst this
 simp [CR,zb2]
theorem St.nilOL (h:St e f a w) (m j n es:Nat) (ty:TypeId) (hv:f.l m=some (.box cs)) (hg:cs[j]?=some (.d (.raw zb2))) (hn:New e.K f n):St e ((f.setL n (.row ty es [])).setL m (.box (cs.set j (.own n 0)))) a w:=by
 obtain ⟨H,B,hok⟩:=h
 have hmn:m≠n:=fun e=>by have:=hn.2.1;rw [<- e,hv] at this;cases this
 refine ⟨H,_,(hok.nilName n es ty hn).setL m (.box cs) _ (by simp [F.setL,hmn,hv]) fun hu=>LR.setC hg (fun u hu=>?_) hu⟩
 have:=VR.rawI (H:=H) (B:=fun x=>if x=n then none else B x) hu
 subst this
 simp [CR,zb2]
theorem St.nilDS (h:St e f a w) (t j es:Nat) {v:V} {c:Nat} (hv:f.s t=some v) (hg:v.getC j=some (.d (.raw (.slice ao 0 c)))) (h1:ao=none->c=0) (h2:c<=maxLen):St e (f.setS t (v.setC j (.d (.sl es [])))) a w:=by
 obtain ⟨H,B,hok⟩:=h
 exact ⟨H,B,hok.setS t v _ hv fun u hu=>VR.setC hg (nil_data es h1 h2) hu⟩
theorem St.nilDL (h:St e f a w) (m j es:Nat) {c:Nat} (hv:f.l m=some (.box cs)) (hg:cs[j]?=some (.d (.raw (.slice ao 0 c)))) (h1:ao=none->c=0) (h2:c<=maxLen):St e (f.setL m (.box (cs.set j (.d (.sl es []))))) a w:=by
 obtain ⟨H,B,hok⟩:=h
 exact ⟨H,B,hok.setL m (.box cs) _ hv fun hu=>LR.setC hg (nil_data es h1 h2) hu⟩
theorem St.rawE (h:St e f a w) (t es:Nat) (hv:f.s t=some (.t (.c (.d (.sl es []))))):∃ ao c,(ao=none->c=0)/\c<=maxLen/\St e (f.setS t (.t (.c (.d (.raw (.slice ao 0 c)))))) a w:=by
 obtain ⟨H,B,hok⟩:=h
 have h1:DR H (.sl es []) (a.tmps.getD t undef):=hok.slot t _ hv
 generalize hu:a.tmps.getD t undef=u at h1
 cases h1 with
 | nil _ ao c g1 g2 =>
  refine ⟨ao,c,g1,g2,H,B,?_⟩
  refine ⟨hok.df,hok.n,hok.ext,hok.sat,?_,hok.loc,hok.priv,hok.inj,hok.low,hok.le,hok.keep,hok.tab⟩
  intro x y hy
  simp only [F.setS] at hy
  split at hy
  ·rename_i e1
   have e1:=bG e1
   subst e1
   injection hy with hy
   subst hy
   rw [hu]
   exact DR.raw _ rfl
  ·exact hok.slot x y hy
 | sl _ _ b o c arr ty fz vs hp=>simp at hp
theorem St.cutR (h:St e f a w) (n k es:Nat) (ty:TypeId) (hl:f.l n=some (.row ty es rows)):St e (f.setL n (.row ty es (rows.take k))) a w:=by
 obtain ⟨H,B,hok⟩:=h
 refine ⟨H,B,hok.setL n _ _ hl fun hu=>?_⟩
 simp only [LR] at hu ⊢
 split at hu
 ·rw [hu];simp
 ·obtain ⟨arr,h1,h2,h3,h4,h5,h6⟩:=hu
  have h5':∀ r ∈ rows.take k,r.length=es:=fun r hr=>h5 r (dP hr)
  have h3':(rows.take k).length<=_:=cH (by rw [bJ];omega) h3
  refine ⟨arr,h1,h2,h3', h4,h5', (zc6 h2 h3' h5').2 fun i r hr f x hx=>?_⟩
  rw [bX] at hr
  split at hr
  ·exact (zc6 h2 h3 h5).1 h6 i r hr f x hx
  ·cases hr
end
theorem Ok.renew {g:F} {w:World} (h:Ok e f H B a w) {l l':L} (hn:f.l n=some l) (hnew:New e.K f n') (p:Option (Nat × Nat))
  (ho:w'.os=w.os) (ht:w'.tape=w.tape) (hu:w'.output=w.output) (hz:w.heap.size<=w'.heap.size) (hk:∀ k,k<w.heap.size->(∀ c,B n≠some (k,c))->w'.heap[k]?=w.heap[k]?)
  (hp:∀ b c,p=some (b,c)->b<w'.heap.size/\((∃ c', B n=some (b,c'))\/w.heap.size<=b)) (lr:LR H (fun x=>if x=n' then p else B x) w' n' l')
  (hs:∀ t,g.s t=f.s t) (hl:∀ m,g.l m=if m=n' then some l' else if m=n then none else f.l m):Ok e g H (fun x=>if x=n' then p else B x) a w':=by
 have hB:∀ m,m≠n'->(fun x=>if x=n' then p else B x) m=B m:=fun m hm=>by simp [hm]
 have cls:∀ m x,g.l m=some x->(m=n'/\x=l')\/(m≠n'/\m≠n/\f.l m=some x):=by
  intro m x hm
  rw [hl] at hm
  split at hm
  ·rename_i e1;injection hm with hm;exact .inl ⟨e1,hm.symm⟩
  ·rename_i e1
   split at hm
   ·cases hm
   ·rename_i e2;exact .inr ⟨e1,e2,hm⟩
 refine ⟨h.df,h.n,⟨ho.trans h.ext.os,ht.trans h.ext.tape,hu.trans h.ext.output,cH h.ext.size hz,?_⟩,?_,?_,?_,?_,?_,h.low,h.le,?_,h.tab⟩
 ·intro b hb hm
  have:=h.ext.size
  rw [hk b (by omega) fun c hc=>?_]
  ·exact h.ext.block b hb hm
  ·rcases (h.priv n l b c hn hc).2.2 with h1 | h1
   ·exact hm h1
   ·omega
 ·intro b o hb
  have h1:=h.sat b o hb
  have:b<w.heap.size:=(dC.1 h1).1
  rw [hk b this fun c hc=>?_]
  ·exact h1
  ·rw [(h.priv n l b c hn hc).2.1] at hb;cases hb
 ·intro t v hv
  rw [hs] at hv
  exact VR.mono (Le.refl _) (fun m hm=>hB m fun e=>hnew.2.2.1 t v hv (e ▸ hm)) (h.slot t v hv)
 ·intro m x hm
  rcases cls m x hm with ⟨rfl,rfl⟩ | ⟨h1,h2,h3⟩
  ·exact lr
  ·refine LR.mono (Le.refl _) (hB m h1) (fun k hk2=>hB k fun e=>hnew.2.2.2 m x h3 (e ▸ hk2)) (fun b c hb=>?_) (h.loc m x h3)
   refine hk b (h.priv m x b c h3 hb).1 fun c' hc'=>h2 (h.inj m n x l b c c' h3 hn hb hc')
 ·intro m x b c hm hb
  rcases cls m x hm with ⟨rfl,rfl⟩ | ⟨h1,h2,h3⟩
  ·simp only [if_true] at hb
   obtain ⟨h4,h5⟩:=hp b c hb
   refine ⟨h4,?_⟩
   rcases h5 with ⟨c', hc'⟩ | h5
   ·exact (h.priv n l b c' hn hc').2
   ·refine ⟨?_,.inr (cH h.ext.size h5)⟩
    cases hq:H b with
    | none=>rfl
    | some o=>have:=(dC.1 (h.sat b o hq)).1;omega
  ·simp only [if_neg h1] at hb
   obtain ⟨h4,h5⟩:=h.priv m x b c h3 hb
   exact ⟨Nat.lt_of_lt_of_le h4 hz,h5⟩
 ·have cross:∀ m x b c c', m≠n->f.l m=some x->B m=some (b,c)->p=some (b,c')->False:=by
   intro m x b c c' h2 h3 hb hb'
   rcases (hp b c' hb').2 with ⟨c2,hc2⟩ | h5
   ·exact h2 (h.inj m n x l b c c2 h3 hn hb hc2)
   ·have:=(h.priv m x b c h3 hb).1;omega
  intro m k x y b c c' hm hk2 hb hb'
  rcases cls m x hm with ⟨rfl,rfl⟩ | ⟨h1,h2,h3⟩ <;> rcases cls k y hk2 with ⟨rfl,rfl⟩ | ⟨j1,j2,j3⟩
  ·rfl
  ·simp only [if_true] at hb
   simp only [if_neg j1] at hb'
   exact (cross k y b c' c j2 j3 hb' hb).elim
  ·simp only [if_true] at hb'
   simp only [if_neg h1] at hb
   exact (cross m x b c c' h2 h3 hb hb').elim
  ·simp only [if_neg h1] at hb
   simp only [if_neg j1] at hb'
   exact h.inj m k x y b c c' h3 j3 hb hb'
 ·intro m hm
  exact (hB m fun e=>hnew.1 (e ▸ hm)).trans (h.keep m hm)
structure ElT (P:Program) (t el:TypeId) (es bs:Nat):Prop where
  hu:P.underlying t=some (.slice el)
  ex:∃ i z,P.info? el=some i/\i.zero=some z/\i.size=es/\i.bytes=bs/\z.cells.size=es
  pos:0<es
  bpos:0<bs
theorem ElT.mk' {t:TypeId} (hu:P.underlying t=some (.slice el)) (i:TypeInfo) (z:Value) (h1:P.info? el=some i) (h2:i.zero=some z) (h3:i.size=es := by kernel_rfl) (h4:i.bytes=bs := by kernel_rfl) (h5:z.cells.size=es := by kernel_rfl) (h6:0<es := by decide) (h7:0<bs := by decide):ElT P t el es bs:=⟨hu,⟨i,z,h1,h2,h3,h4,h5⟩,h6,h7⟩
section
variable {P:Program}
theorem append_fresh {w:World} {i:TypeInfo} {z:Value} (hu:P.underlying xt=some (.slice el)) (hi:P.info? el=some i) (hz:i.zero=some z) (hsz:i.size=es)
  {xs:List Value} (hown:w.ownsRow 0 el es v n xs) {a:Addr} {c:Nat} (hm:0<m) {news:List Value} (hl:news.length=m*es) (hnews:∀ j u,news[j]?=some u->w.cell? (a.add j)=some u) (h1:∀ u ∈ news,u.oneCell'=true)
  (h63:n+m<=maxLen) (hb:(n+m)*i.bytes<=140737488355328) {v':Value} (hr:(Builtin.append_ #[xt,xt] ty #[v,.slice (some a) m c]).run P w = .ok v' w'):∀ g,v'.ownBlock=some g->v.ownBlock=some g\/g=w.heap.size:=by
 subst hsz
 have hsmall:n+m<=9223372036854775807:=by simp only [maxLen] at h63;omega
 intro g hg
 rcases hown.2 with ⟨rfl,rfl⟩ | ⟨g2,cap,cur,rfl,_,hg2,hnc,hcm,hcs,htake⟩
 ·have h2:=run_append_nil (P:=P) w xt ty el i z hu hi hz a m c news hl hnews hm (by omega) (by have:=hb;simp only [cP] at this;omega)
  rw [h2] at hr
  injection hr with hr _
  subst hr
  simp [Value.ownBlock] at hg
  exact .inr hg.symm
 ·by_cases hroom:n+m<=cap
  ·have hfit:n*i.size+news.length<=cur.size:=by rw [hl,hcs,<- bU];exact bP _ hroom
   have h2:=run_append_room (P:=P) w xt ty el i hu hi g2 n cap cur hg2 a m c news hl hnews h1 hroom hfit
   rw [h2] at hr
   injection hr with hr _
   subst hr
   exact .inl hg
  ·have holds:∀ j u,xs[j]?=some u->w.cell? ((⟨g2,0,none⟩:Addr).add j)=some u:=hown.cells (g:=g2) rfl
   have h2:=run_append_grow (P:=P) w xt ty el i z hu hi hz ⟨g2,0,none⟩ n cap xs hown.1 holds a m c news hl hnews (by omega) (by omega) (growslice_fits (by omega) hb)
   rw [h2] at hr
   injection hr with hr _
   subst hr
   simp [Value.ownBlock] at hg
   exact .inr hg.symm
theorem append_base0 {w:World} {i:TypeInfo} {z:Value} (hu:P.underlying xt=some (.slice el)) (hi:P.info? el=some i) (hz:i.zero=some z) (hsz:i.size=es)
  (a0:Addr) {a:Addr} {c:Nat} {news:List Value} (hl:news.length=m*es) (hnews:∀ j u,news[j]?=some u->w.cell? (a.add j)=some u) (hm:0<m) (h63:m<=maxLen) (hb:m*i.bytes<=140737488355328) :
  (Builtin.append_ #[xt,xt] ty #[.slice (some a0) 0 0,.slice (some a) m c]).run P w=(Builtin.append_ #[xt,xt] ty #[.slice none 0 0,.slice (some a) m c]).run P w:=by
 subst hsz
 have hsmall:m<=9223372036854775807:=by simp only [maxLen] at h63;omega
 rw [run_append_nil (P:=P) w xt ty el i z hu hi hz a m c news hl hnews hm (by omega) (by omega),run_append_grow (P:=P) w xt ty el i z hu hi hz a0 0 0 [] (by simp) (by simp) a m c news hl hnews (by omega) (by omega) (growslice_fits (by omega) (by simpa using hb))]
 simp
theorem wp_of_run {o:Oper} {g:F} {d:Nat} {w:World} (hd:o.dst=some d) (hrun:(execOp a.eval o).run P w = .ok (.value v) w') (h:St e g (a.put (some d) v) w') :
  Oper.wp P o a w (fun a' w'=>St e g a' w') Q:=by
 unfold Oper.wp
 rw [hrun,Oper.upon_value,hd]
 exact h
theorem DR.cellsAt {w:World} (hsat:∀ b o,H b=some o->w.heap[b]?=some o) {arr:Array Value} {fz:Nat × Nat} {vs:Nat->Nat->Value} (hb:H b=some (.cells arr ty fz)) (hes:∀ i (hi:i<rows.length),(rows[i]'hi).length=es)
  (hv:∀ i (_:i<rows.length) j,j<es->arr[o+i*es+j]?=some (vs i j)) (hr:∀ i (hi:i<rows.length) j (hj:j<rows[i].length),DR H rows[i][j] (vs i j)) :
  ∃ news:List Value,news.length=rows.length*es/\(∀ j u,news[j]?=some u->w.cell? ((⟨b,o,none⟩:Addr).add j)=some u)/\RowAt H news es rows/\(∀ u ∈ news,u.oneCell'=true):=by
 have hw:=hsat b _ hb
 have hget:∀ j,j<rows.length*es->0<es/\j / es<rows.length/\j % es<es/\j=j / es*es+j % es:=by
  intro j hj
  have he:0<es:=dM fun e=>by simp [e] at hj
  exact ⟨he,Nat.div_lt_of_lt_mul (by rw [cU];exact hj),dG _ he,by rw [cU];exact (dZ j es).symm⟩
 refine ⟨(List.range (rows.length*es)).map fun j=>vs (j / es) (j % es),by simp,?_,?_,?_⟩
 ·intro j u hu
  rw [cE] at hu
  by_cases hj:j<rows.length*es
  ·rw [List.getElem?_range hj] at hu
   injection hu with hu
   obtain ⟨h1,h2,h3,h4⟩:=hget j hj
   rw [Addr.add_mid]
   have:=hv (j / es) h2 (j % es) h3
   rw [dX,<- h4] at this
   subst hu
   simp [World.cell?, hw,this]
  ·rw [List.getElem?_eq_none (by simpa using hj)] at hu;cases hu
 ·intro i r hri f x hx
  obtain ⟨hi,rfl⟩:=bE.1 hri
  obtain ⟨hf,rfl⟩:=bE.1 hx
  have hf':f<es:=by rw [<- hes i hi];exact hf
  have hlt:i*es+f<rows.length*es:=by
   have:(i+1)*es<=rows.length*es:=bP _ hi
   rw [bU] at this;omega
  have e1:(i*es+f) / es=i:=by rw [cU,Nat.mul_add_div (by omega)];simp [Nat.div_eq_of_lt hf']
  have e2:(i*es+f) % es=f:=by rw [cU,Nat.mul_add_mod];exact Nat.mod_eq_of_lt hf'
  refine ⟨vs i f,?_,hr i hi f hf⟩
  rw [cE,List.getElem?_range hlt]
  simp [e1,e2]
 ·intro u hu
  simp only [dB,List.mem_range] at hu
  obtain ⟨j,hj,rfl⟩:=hu
  obtain ⟨h1,h2,h3,h4⟩:=hget j hj
  exact zfs (DR.flat (hr (j / es) h2 (j % es) (by rw [hes _ h2];exact h3)))
def OwnR {α:Type} (R:α->Value->Prop) (w:World) (el:TypeId) (es:Nat) (rows:List (List α)) (v:Value):Option (Nat × Nat)->Prop
  | none=>rows=[]/\∃ ao,v = .slice ao 0 0
  | some (b,c)=>v = .slice (some ⟨b,0,none⟩) rows.length c/\∃ arr:List Value,w.heap[b]?=some (.cells ⟨arr⟩ el (0,0))/\arr.length=c*es/\rows.length<=c/\c<=maxLen/\(∀ r ∈ rows,r.length=es)/\RowAtR R arr es rows
def SrcR {α:Type} (R:α->Value->Prop) (w:World) (es:Nat) (rows:List (List α)) (v:Value):Prop :=
  (rows=[]/\∃ ao c,v = .slice ao 0 c)\/(0<rows.length/\∃ b o c news,v = .slice (some ⟨b,o,none⟩) rows.length c/\news.length=rows.length*es/\(∀ j u,news[j]?=some u->w.cell? ((⟨b,o,none⟩:Addr).add j)=some u)/\RowAtR R news es rows/\(∀ u ∈ news,u.oneCell'=true))
theorem Ok.ownD {w:World} (h:Ok e f H B a w) (hl:f.l n=some (.row el es rows)) (h1:CR H B (.own n rows.length) v):OwnR (DR H) w el es rows v (B n):=by
 simp only [CR] at h1
 cases hB:B n with
 | none=>rw [hB] at h1;obtain ⟨h3,h4⟩:=h1;exact ⟨cJ.1 h3,h4⟩
 | some q=>rw [hB] at h1;exact ⟨h1,h.row hl hB⟩
section
variable {α:Type} {R:α->Value->Prop} {w:World} {el:TypeId} {es:Nat} {rows:List (List α)} {v:Value} {p:Option (Nat × Nat)}
theorem OwnR.hes (h:OwnR R w el es rows v p):∀ r ∈ rows,r.length=es:=by
 cases p with
 | none=>obtain ⟨rfl,_⟩:=h;intro r hr;cases hr
 | some q=>obtain ⟨_,_,_,_,_,_,h,_⟩:=h;exact h
theorem OwnR.cr (h:OwnR R w el es rows v p) (hB:B n=p) (hk:rows.length=k):CR H B (.own n k) v:=by
 subst hk hB
 simp only [CR]
 cases hB:B n with
 | none=>rw [hB] at h;obtain ⟨rfl,h⟩:=h;exact ⟨rfl,h⟩
 | some q=>rw [hB] at h;exact h.1
theorem OwnR.take (h:OwnR R w el es rows v p):(rows=[]/\∃ ao,v = .slice ao 0 0)\/∃ b c arr,p=some (b,c)/\v = .slice (some ⟨b,0,none⟩) rows.length c/\w.heap[b]?=some (.cells ⟨arr⟩ el (0,0))/\arr.length=c*es/\rows.length<=c/\c<=maxLen/\(∀ r ∈ rows,r.length=es)/\RowAtR R (arr.take (rows.length*es)) es rows:=by
 cases p with
 | none=>exact .inl h
 | some q =>
  obtain ⟨b,c⟩:=q
  obtain ⟨h2,arr,g1,g2,g3,g4,g5,g6⟩:=h
  refine .inr ⟨b,c,arr,rfl,h2,g1,g2,g3,g4,g5,fun i r hri f x hx2=>?_⟩
  obtain ⟨u,k1,k2⟩:=g6 i r hri f x hx2
  refine ⟨u,?_,k2⟩
  have hi2:=(bE.1 hri).1
  have hf2:=(bE.1 hx2).1
  rw [g5 r (bV hri)] at hf2
  have:(i+1)*es<=rows.length*es:=bP _ hi2
  rw [bU] at this
  rw [bX,if_pos (by omega)];exact k1
theorem OwnR.src (hR:∀ x u,R x u->flat u=true) (h:OwnR R w el es rows v p):SrcR R w es rows v:=by
 rcases h.take with ⟨h3,ao,h4⟩ | ⟨b,c,arr,_,h2,g1,g2,g3,g4,g5,g6⟩
 ·exact .inl ⟨h3,ao,0,h4⟩
 ·by_cases hz0:rows.length=0
  ·exact .inl ⟨cJ.1 hz0,_,c,by rw [h2,hz0]⟩
  ·have hle:rows.length*es<=c*es:=bP _ g3
   refine .inr ⟨by omega,b,0,c,_,h2,by rw [bJ];omega,fun j u hu=>?_,g6,fun u hu=>?_⟩
   ·rw [bX] at hu
    split at hu
    ·rw [Addr.add_mid,cP];simp [World.cell?, g1,hu]
    ·cases hu
   ·obtain ⟨j,hj⟩:=dQ.1 hu
    have hj1:=(bE.1 hj).1
    rw [bJ] at hj1
    have hes0:0<es:=dM fun e=>by simp [e] at hj1
    have h5:j / es<rows.length:=Nat.div_lt_of_lt_mul (by rw [cU];omega)
    have h6:j % es<es:=dG _ hes0
    have h7:(rows[j / es]'h5).length=es:=g5 _ (dO h5)
    obtain ⟨u2,k1,k2⟩:=g6 (j / es) _ (bF h5) (j % es) _ (bF (by rw [h7];exact h6))
    have h8:j / es*es+j % es=j:=by rw [cU];exact dZ j es
    rw [h8,hj] at k1
    injection k1 with k1
    subst k1
    exact zfs (hR _ _ k2)
theorem append_run {rows2:List (List α)} {vu:Value} (hT:ElT P xt el es bs) (h1:OwnR R w el es rows v p) (hes2:∀ r ∈ rows2,r.length=es) (hsrc:SrcR R w es rows2 vu) (hb:(rows.length+rows2.length)*bs<=140737488355328) :
  ∃ v' w' p', (Builtin.append_ #[xt,xt] ty #[v,vu]).run P w = .ok v' w'/\OwnR R w' el es (rows++rows2) v' p'/\w'.os=w.os/\w'.tape=w.tape/\w'.output=w.output/\w.heap.size<=w'.heap.size/\(∀ k,k<w.heap.size->(∀ c,p≠some (k,c))->w'.heap[k]?=w.heap[k]?) /\
   (∀ b c,p'=some (b,c)->b<w'.heap.size/\((∃ c', p=some (b,c'))\/w.heap.size<=b)):=by
 obtain ⟨i,z,hi,hz,hsz,hby,hzs⟩:=hT.ex
 have hml:rows.length+rows2.length<=maxLen:=by
  have:(rows.length+rows2.length)*1<=(rows.length+rows2.length)*bs:=eA _ hT.bpos
  simp only [maxLen];omega
 have hall:∀ r ∈ rows++rows2,r.length=es:=fun r hr=>(cL.1 hr).elim (h1.hes r) (hes2 r)
 rcases hsrc with ⟨rfl,ao,c,rfl⟩ | ⟨hp,b,o,c,news,rfl,n1,n2,n3,n4⟩
 ·have hrun:∀ base m cap,m<=cap->(Builtin.append_ #[xt,xt] ty #[.slice base m cap,.slice ao 0 c]).run P w = .ok (.slice base m cap) w:=by
   intro base m cap hmc
   cases ao <;> cases base <;> simp [Builtin.append_,run_underlying hT.hu,sizeOf,typeInfo,hi,Builtin.lenOf,hmc,Builtin.firstCells,loadCells,loadCellsFrom,storeCells]
  refine ⟨v,w,p,?_,by rw [List.append_nil];exact h1,rfl,rfl,rfl,bS _,fun _ _ _=>rfl,fun b c hb=>⟨?_,.inl ⟨c,hb⟩⟩⟩
  ·rcases h1.take with ⟨_,ao0,rfl⟩ | ⟨b,c,arr,_,rfl,_,_,g3,_⟩
   ·exact hrun ao0 0 0 (bS _)
   ·exact hrun _ _ _ g3
  ·subst hb;obtain ⟨_,arr,g1,_⟩:=h1;exact (dC.1 g1).1
 ·obtain ⟨vt0,hvt0,hblk,xs,hown,hxs⟩:∃ vt0,(Builtin.append_ #[xt,xt] ty #[v,.slice (some ⟨b,o,none⟩) rows2.length c]).run P w=(Builtin.append_ #[xt,xt] ty #[vt0,.slice (some ⟨b,o,none⟩) rows2.length c]).run P w/\(∀ g,vt0.ownBlock=some g->∃ c,p=some (g,c))/\∃ xs,w.ownsRow 0 el es vt0 rows.length xs/\RowAtR R xs es rows:=by
   rcases h1.take with ⟨rfl,ao0,rfl⟩ | ⟨b2,cc,arr2,hq,h2,g1,g2,g3,g4,g5,g6⟩
   ·refine ⟨.slice none 0 0,?_,(fun g hg=>by cases hg),[],⟨by simp,.inl ⟨rfl,rfl⟩⟩,fun i r hr=>by simp at hr⟩
    cases ao0 with
    | none=>rfl
    | some a0=>exact append_base0 hT.hu hi hz hsz a0 n1 n2 hp (by simpa using hml) (by rw [hby];simpa using hb)
   ·have hle:rows.length*es<=cc*es:=bP _ g3
    exact ⟨v,rfl,fun g hg=>⟨cc,by rw [h2] at hg;simp only [Value.ownBlock] at hg;injection hg with hg;rw [<- hg];exact hq⟩,arr2.take (rows.length*es),⟨by rw [bJ];omega,.inr ⟨b2,cc,⟨arr2⟩,h2,bL _,g1,g3,g4,by simpa using g2,rfl⟩⟩,g6⟩
  obtain ⟨v', w', r1,r2,r3,r4⟩:=run_append_own (P:=P) w 0 xt ty el i z es bs hT.hu hi hz hsz hby hzs hT.pos vt0 rows.length xs hown ⟨b,o,none⟩ rows2.length c news n1 n2 n4 hml hb (bL _)
  have hboth:RowAtR R (xs++news) es (rows++rows2):=by
   intro i2 r hri f x hx2
   by_cases hlt:i2<rows.length
   ·rw [cY hlt] at hri
    obtain ⟨u,k1,k2⟩:=hxs i2 r hri f x hx2
    exact ⟨u,by rw [cY (bE.1 k1).1];exact k1,k2⟩
   ·rw [cZ (by omega)] at hri
    obtain ⟨u,k1,k2⟩:=n3 _ r hri f x hx2
    refine ⟨u,?_,k2⟩
    have hq:rows.length*es<=i2*es:=bP _ (by omega)
    rw [cZ (by rw [hown.1];omega),hown.1,<- k1]
    congr 1
    rw [Nat.sub_mul];omega
  obtain ⟨q1,q2⟩:=r2
  rcases q2 with ⟨_,hn0⟩ | ⟨g,cap,cur,rfl,_,k2,k3,k4,k5,k6⟩
  ·omega
  ·refine ⟨_,w', some (g,cap),hvt0.trans r1,?_,r3.os,r3.tape,r3.output,r3.size,fun k hk hnk=>r3.block k hk fun e=>?_,?_⟩
   ·refine ⟨by rw [bC],cur.toList,k2,by simpa using k5,by simpa using k3,k4,hall,fun i2 r hri f x hx2=>?_⟩
    obtain ⟨u,j1,j2⟩:=hboth i2 r hri f x hx2
    refine ⟨u,?_,j2⟩
    rw [<- k6,bX] at j1
    split at j1
    ·exact j1
    ·cases j1
   ·obtain ⟨c', e⟩:=hblk k e.symm;exact hnk c' e
   ·rintro b3 c3 e3
    injection e3 with e3
    injection e3 with e3 e4
    subst e3 e4
    refine ⟨(dC.1 k2).1,?_⟩
    rcases append_fresh hT.hu hi hz hsz hown hp n1 n2 n4 hml (by rw [hby];exact hb) r1 g rfl with hh | hh
    ·exact .inl (hblk g hh)
    ·exact .inr (by omega)
end
theorem Op.appG {d u:Nat} {pos af gd} {rl:List (Nat × L)} {l l':L} (hl:(n,l) ∈ rl)
  (h:∀ (e:E) (f:F) (H:Im) (B:Bl) (a:Act) (w:World),Ok e f H B a w->(∀ p ∈ rs,f.s p.1=some p.2)->(∀ p ∈ rl,f.l p.1=some p.2)->New e.K f n'->∃ v w' p,(Builtin.append_ #[xt,xt] ty #[a.eval (.tmp t),a.eval (.tmp u)]).run P w = .ok v w'/\CR H (fun x=>if x=n' then p else B x) (.own n' k) v/\LR H (fun x=>if x=n' then p else B x) w' n' l' /\
   w'.os=w.os/\w'.tape=w.tape/\w'.output=w.output/\w.heap.size<=w'.heap.size/\(∀ k,k<w.heap.size->(∀ c,B n≠some (k,c))->w'.heap[k]?=w.heap[k]?)/\(∀ b c,p=some (b,c)->b<w'.heap.size/\((∃ c', B n=some (b,c'))\/w.heap.size<=b))) :
  zav P ⟨some d,.call { callee:=.builtin .append,args:=#[.tmp t,.tmp u],argTypes:=#[xt,xt] }, ty,pos,af,gd⟩ { rs:=rs,rl:=rl,ws:=[(d,some (.t (.c (.own n' k))))],wl:=[(n', some l'),(n,none)],nw:=[n'] }:=by
 rintro e f a w Q ⟨H,B,hok⟩ hr hnw hb0
 have hnew:=hnw n' (by simp)
 obtain ⟨v,w', p,r1,r2,r3,r4,r5,r6,r7,r8,r9⟩:=h e f H B a w hok hr.1 hr.2 hnew
 have hok':Ok e ⟨f.s,fun m=>if m=n' then some l' else if m=n then none else f.l m⟩ H (fun x=>if x=n' then p else B x) a w' :=
  hok.renew (hr.2 _ hl) hnew p r4 r5 r6 r7 r8 r9 r3 (fun _=>rfl) (fun _=>rfl)
 refine wp_of_run (d:=d) rfl ?_ ⟨H,_,hok'.put (x:=some (.t (.c (.own n' k)))) (hb0.1 (d,some (.t (.c (.own n' k)))) (by simp)) (zh0 f d _ _ rfl) (fun m=>?_) (fun y hy=>by injection hy with hy;subst hy;exact r2)⟩
 ·generalize a.eval=ρ at r1 ⊢
  have e1:(Array.map ρ #[.tmp t,.tmp u])=#[ρ (.tmp t),ρ (.tmp u)]:=by simp
  simp only [execOp,resolve,e1,Sem.run_bind,Sem.run_pure,Result.andThen_ok,invoke,builtin,r1]
 ·simp only [F.app,List.lookup]
  by_cases e1:m=n'
  ·simp [e1]
  ·have g1:(m == n')=false:=by simpa using e1
   by_cases e2:m=n
   ·subst e2;simp [g1,e1]
   ·have g2:(m == n)=false:=by simpa using e2
    simp [g1,g2,e1,e2]
theorem OwnR.lrD {w:World} {p:Option (Nat × Nat)} (h:OwnR (DR H) w el es rows v p) (hB:B n=p):LR H B w n (.row el es rows):=by
 subst hB
 simp only [LR]
 cases hB:B n with
 | none=>rw [hB] at h;exact h.1
 | some q=>rw [hB] at h;obtain ⟨_,arr,g1,g2,g3,g4,g5,g6⟩:=h;exact ⟨arr,g1,g2,g3,g4,g5,(zc6 g2 g3 g5).2 g6⟩
theorem DR.src {w:World} (h:DR H (.sl es rows) v) (hsat:∀ b o,H b=some o->w.heap[b]?=some o):SrcR (DR H) w es rows v:=by
 cases h with
 | nil _ ao c _ _=>exact .inl ⟨rfl,ao,c,rfl⟩
 | sl _ _ b o c arr ty' fz vs hp hbH hl2 hc hes hv hx =>
  obtain ⟨news,n1,n2,n3,n4⟩:=DR.cellsAt hsat hbH hes hv hx
  exact .inr ⟨hp,b,o,c,news,rfl,n1,n2,n3,n4⟩
theorem Op.appOD {d u len len':Nat} {rows2:List (List D)} {pos af gd} (hT:ElT P xt el es bs) (hlen:len=rows.length) (hlen':len'=len+rows2.length) (hrow:rows++rows2=rows')
  (hes2:∀ r ∈ rows2,r.length=es) (hb:(len+rows2.length)*bs<=140737488355328) :
  zav P ⟨some d,.call { callee:=.builtin .append,args:=#[.tmp t,.tmp u],argTypes:=#[xt,xt] }, ty,pos,af,gd⟩
   { rs:=[(t,.t (.c (.own n len))),(u,.t (.c (.d (.sl es rows2))))],rl:=[(n,.row el es rows)],ws:=[(d,some (.t (.c (.own n' len'))))],wl:=[(n', some (.row el es rows')),(n,none)],nw:=[n'] }:=by
 subst hlen hlen' hrow
 refine Op.appG (cM.2 rfl) fun e f H B a w hok hs hl hnew=>?_
 have h2:DR H (.sl es rows2) (a.eval (.tmp u)):=hok.slot u _ (hs (u,.t (.c (.d (.sl es rows2)))) (by simp))
 obtain ⟨v,w', p,r1,r2,r⟩:=append_run (ty:=ty) hT (hok.ownD (hl (n,.row el es rows) (by simp)) (hok.slot t _ (hs (t,.t (.c (.own n rows.length))) (by simp)))) hes2 (h2.src hok.sat) hb
 exact ⟨v,w', p,r1,r2.cr (if_pos rfl) bC,r2.lrD (if_pos rfl),r⟩
end
abbrev zF0:List C:=[.d (.raw (.int .i64 0)),.d (.raw zb2),.d (.raw (.bool false)),.d (nsl []),.d (.raw (.bool false)),.d (.raw zb2)]
abbrev zR0:List C:=[.d (.raw zb2),.d (.raw (.bool false)),.d (nsl []),.d (.raw (.bool false))]
abbrev zT0:List C:=[.d (.raw zb2),.d (.raw (.bool false)),.d (nsl [])]
theorem aD (d t u n n':Nat) (X Y:List α) (F:α->List D) {pos af gd} (hT:ElT P xt el es bs) (hes2:∀ r ∈ Y.map F,r.length=es) (hb:(X.length+(Y.map F).length)*bs<=140737488355328:=by first | omega | (simp at *;done) | (simp at *;omega)) :
    zav P ⟨some d,.call { callee:=.builtin .append,args:=#[.tmp t,.tmp u],argTypes:=#[xt,xt] }, ty,pos,af,gd⟩
      { rs:=[(t,.t (.c (.own n X.length))),(u,.t (.c (.d (.sl es (Y.map F)))))],rl:=[(n,.row el es (X.map F))],ws:=[(d,some (.t (.c (.own n' (X++Y).length))))],wl:=[(n', some (.row el es ((X++Y).map F))),(n,none)],nw:=[n'] } :=
  Op.appOD hT (bK _).symm (by rw [bC,bK]) (List.map_append ..).symm hes2 hb
abbrev nCl:C:=.d (.raw zb2)
section
variable {w0:World} {H0:Im} {B0:Bl} {K:List Nat} {N:Nat} {a:Act} {w:World} {sl:List (Nat × V)} {lc:List (Nat × L)}
theorem ofS_mem {v:V} (h:(F.of sl lc).s t=some v):(t,v) ∈ sl:=zaw h
theorem ofL_mem {l:L} (h:(F.of sl lc).l n=some l):(n,l) ∈ lc:=zaw h
theorem pubS (n es:Nat) (ty:TypeId) (rows:List (List D)) (sl':List (Nat × V)) (lc':List (Nat × L)) (h:St ⟨w0,H0,B0,[],N⟩ (F.of sl lc) a w) (hl:lc.lookup n=some (.row ty es rows))
  (h1:zg5 rows.length (sl.flatMap (·.2.owns n))) (h2:zg5 rows.length (lc.flatMap (·.2.owns n))) (h3:leS ((F.of sl lc).pub n es rows) sl'=sl'.map fun p=>some p.2:=by kernel_rfl) (h4:leN ((F.of sl lc).pub n es rows) lc'=lc'.map fun p=>some p.2:=by kernel_rfl) :
  St ⟨w0,H0,B0,[],N⟩ (F.of sl' lc') a w :=
 (h.pub n es ty rows hl (fun t v hv k hk=>zg5.mem h1 k (bW.2 ⟨(t,v),ofS_mem hv,hk⟩)) (fun m l hm k hk=>zg5.mem h2 k (bW.2 ⟨(m,l),ofL_mem hm,hk⟩))).weaken (zh4 h3 h4)
theorem allApp:∀ {a b:List Nat}, zg5 m (a++b)->zg5 m a/\zg5 m b
  | [],_,h=>⟨trivial,h⟩
  | _ :: _,_,h=>⟨⟨h.1,(allApp h.2).1⟩,(allApp h.2).2⟩
def puM (n es:Nat) (rows:List (List D)) (lc:List (Nat × L)):List (Nat × L):=(lc.filter fun p=>!Nat.beq p.1 n).map fun p=>(p.1,p.2.pub n es rows)
theorem pubX (n es:Nat) (ty:TypeId) (rows:List (List D)) (h:St ⟨w0,H0,B0,[],N⟩ (F.of sl lc) a w) (ks:List Nat) (h1:zg5 rows.length ks) (h2:sl.flatMap (·.2.owns n)++lc.flatMap (·.2.owns n)=ks:=by kernel_rfl) (hl:lc.lookup n=some (.row ty es rows):=by kernel_rfl) (h3:leS ((F.of sl lc).pub n es rows) (sl.map fun p=>(p.1,p.2.pub n es rows))=(sl.map fun p=>(p.1,p.2.pub n es rows)).map fun p=>some p.2:=by kernel_rfl) (h4:leN ((F.of sl lc).pub n es rows) (puM n es rows lc)=(puM n es rows lc).map fun p=>some p.2:=by kernel_rfl) :
  St ⟨w0,H0,B0,[],N⟩ (F.of (sl.map fun p=>(p.1,p.2.pub n es rows)) (puM n es rows lc)) a w:=pubS n es ty rows (sl.map fun p=>(p.1,p.2.pub n es rows)) (puM n es rows lc) h hl (allApp (by rw [h2];exact h1:zg5 rows.length (sl.flatMap (·.2.owns n)++lc.flatMap (·.2.owns n)))).1 (allApp (by rw [h2];exact h1:zg5 rows.length (sl.flatMap (·.2.owns n)++lc.flatMap (·.2.owns n)))).2 h3 h4
theorem renS (n m:Nat) (sl':List (Nat × V)) (lc':List (Nat × L)) (h:St ⟨w0,H0,B0,K,N⟩ (F.of sl lc) a w) (hn:newB K sl lc m=true:=by kernel_rfl)
  (h3:leS ((F.of sl lc).ren n m) sl'=sl'.map fun p=>some p.2:=by kernel_rfl) (h4:leN ((F.of sl lc).ren n m) lc'=lc'.map fun p=>some p.2:=by kernel_rfl):St ⟨w0,H0,B0,K,N⟩ (F.of sl' lc') a w :=
 (h.ren n m (zfm hn)).weaken (zh4 h3 h4)
def rnM (n m:Nat) (lc:List (Nat × L)):List (Nat × L):=((lc.filter fun p=>!Nat.beq p.1 n).map fun p=>(p.1,p.2.ren n m))++(lc.filter fun p=>Nat.beq p.1 n).map fun p=>(m,p.2.ren n m)
theorem zfb (n m:Nat) (h:St ⟨w0,H0,B0,K,N⟩ (F.of sl lc) a w) (hn:newB K sl lc m=true:=by kernel_rfl) (h3:leS ((F.of sl lc).ren n m) (sl.map fun p=>(p.1,p.2.ren n m))=(sl.map fun p=>(p.1,p.2.ren n m)).map fun p=>some p.2:=by kernel_rfl) (h4:leN ((F.of sl lc).ren n m) (rnM n m lc)=(rnM n m lc).map fun p=>some p.2:=by kernel_rfl):St ⟨w0,H0,B0,K,N⟩ (F.of (sl.map fun p=>(p.1,p.2.ren n m)) (rnM n m lc)) a w:=renS n m (sl.map fun p=>(p.1,p.2.ren n m)) (rnM n m lc) h hn h3 h4
theorem nilOSs (t j n es:Nat) (ty:TypeId) (v:V) (sl':List (Nat × V)) (lc':List (Nat × L)) (h:St ⟨w0,H0,B0,K,N⟩ (F.of sl lc) a w) (hn:newB K sl lc n=true) (hv:sl.lookup t=some v) (hg:v.getC j=some (.d (.raw zb2)))
  (h3:leS (((F.of sl lc).setL n (.row ty es [])).setS t (v.setC j (.own n 0))) sl'=sl'.map fun p=>some p.2:=by kernel_rfl) (h4:leN (((F.of sl lc).setL n (.row ty es [])).setS t (v.setC j (.own n 0))) lc'=lc'.map fun p=>some p.2:=by kernel_rfl):St ⟨w0,H0,B0,K,N⟩ (F.of sl' lc') a w :=
 (h.nilOS t j n es ty hv hg (zfm hn)).weaken (zh4 h3 h4)
theorem nilOSx (t j n es:Nat) (ty:TypeId) (v:V) (h:St ⟨w0,H0,B0,K,N⟩ (F.of sl lc) a w) (hn:newB K sl lc n=true:=by kernel_rfl) (hv:sl.lookup t=some v:=by kernel_rfl) (hg:v.getC j=some (.d (.raw zb2)):=by kernel_rfl) (h3:leS (((F.of sl lc).setL n (.row ty es [])).setS t (v.setC j (.own n 0))) (uK [] [(t,v.setC j (.own n 0))] sl)=(uK [] [(t,v.setC j (.own n 0))] sl).map fun p=>some p.2:=by kernel_rfl) (h4:leN (((F.of sl lc).setL n (.row ty es [])).setS t (v.setC j (.own n 0))) (uL [] [(n,.row ty es [])] lc)=(uL [] [(n,.row ty es [])] lc).map fun p=>some p.2:=by kernel_rfl):St ⟨w0,H0,B0,K,N⟩ (F.of (uK [] [(t,v.setC j (.own n 0))] sl) (uL [] [(n,.row ty es [])] lc)) a w:=nilOSs t j n es ty v (uK [] [(t,v.setC j (.own n 0))] sl) (uL [] [(n,.row ty es [])] lc) h hn hv hg h3 h4
theorem nilOLs (m j n es:Nat) (ty:TypeId) (cs:List C) (sl':List (Nat × V)) (lc':List (Nat × L)) (h:St ⟨w0,H0,B0,K,N⟩ (F.of sl lc) a w) (hn:newB K sl lc n=true) (hv:lc.lookup m=some (.box cs)) (hg:cs[j]?=some (.d (.raw zb2)))
  (h3:leS (((F.of sl lc).setL n (.row ty es [])).setL m (.box (cs.set j (.own n 0)))) sl'=sl'.map fun p=>some p.2:=by kernel_rfl) (h4:leN (((F.of sl lc).setL n (.row ty es [])).setL m (.box (cs.set j (.own n 0)))) lc'=lc'.map fun p=>some p.2:=by kernel_rfl):St ⟨w0,H0,B0,K,N⟩ (F.of sl' lc') a w :=
 (h.nilOL m j n es ty hv hg (zfm hn)).weaken (zh4 h3 h4)
theorem zes (m j n es:Nat) (ty:TypeId) (cs:List C) (h:St ⟨w0,H0,B0,K,N⟩ (F.of sl lc) a w) (hn:newB K sl lc n=true:=by kernel_rfl) (hv:lc.lookup m=some (.box cs):=by kernel_rfl) (hg:cs[j]?=some (.d (.raw zb2)):=by kernel_rfl) (h3:leS (((F.of sl lc).setL n (.row ty es [])).setL m (.box (cs.set j (.own n 0)))) sl=sl.map fun p=>some p.2:=by kernel_rfl) (h4:leN (((F.of sl lc).setL n (.row ty es [])).setL m (.box (cs.set j (.own n 0)))) (uL [] [(m,.box (cs.set j (.own n 0))),(n,.row ty es [])] lc)=(uL [] [(m,.box (cs.set j (.own n 0))),(n,.row ty es [])] lc).map fun p=>some p.2:=by kernel_rfl):St ⟨w0,H0,B0,K,N⟩ (F.of sl (uL [] [(m,.box (cs.set j (.own n 0))),(n,.row ty es [])] lc)) a w:=nilOLs m j n es ty cs sl (uL [] [(m,.box (cs.set j (.own n 0))),(n,.row ty es [])] lc) h hn hv hg h3 h4
theorem nilDSs (t j es:Nat) (v:V) (sl':List (Nat × V)) (lc':List (Nat × L)) (h:St ⟨w0,H0,B0,K,N⟩ (F.of sl lc) a w) (hv:sl.lookup t=some v) (hg:v.getC j=some (.d (.raw zb2)))
  (h3:leS ((F.of sl lc).setS t (v.setC j (.d (.sl es [])))) sl'=sl'.map fun p=>some p.2:=by kernel_rfl) (h4:leN ((F.of sl lc).setS t (v.setC j (.d (.sl es [])))) lc'=lc'.map fun p=>some p.2:=by kernel_rfl):St ⟨w0,H0,B0,K,N⟩ (F.of sl' lc') a w :=
 (h.nilDS t j es (ao:=none) hv hg (fun _=>rfl) (bL _)).weaken (zh4 h3 h4)
theorem nilDSx (t j es:Nat) (v:V) (h:St ⟨w0,H0,B0,K,N⟩ (F.of sl lc) a w) (hv:sl.lookup t=some v:=by kernel_rfl) (hg:v.getC j=some (.d (.raw zb2)):=by kernel_rfl) (h3:leS ((F.of sl lc).setS t (v.setC j (.d (.sl es [])))) (uK [] [(t,v.setC j (.d (.sl es [])))] sl)=(uK [] [(t,v.setC j (.d (.sl es [])))] sl).map fun p=>some p.2:=by kernel_rfl) (h4:leN ((F.of sl lc).setS t (v.setC j (.d (.sl es [])))) lc=lc.map fun p=>some p.2:=by kernel_rfl):St ⟨w0,H0,B0,K,N⟩ (F.of (uK [] [(t,v.setC j (.d (.sl es [])))] sl) lc) a w:=nilDSs t j es v (uK [] [(t,v.setC j (.d (.sl es [])))] sl) lc h hv hg h3 h4
theorem nilDLs (m j es:Nat) (cs:List C) (sl':List (Nat × V)) (lc':List (Nat × L)) (h:St ⟨w0,H0,B0,K,N⟩ (F.of sl lc) a w) (hv:lc.lookup m=some (.box cs)) (hg:cs[j]?=some (.d (.raw zb2)))
  (h3:leS ((F.of sl lc).setL m (.box (cs.set j (.d (.sl es []))))) sl'=sl'.map fun p=>some p.2:=by kernel_rfl) (h4:leN ((F.of sl lc).setL m (.box (cs.set j (.d (.sl es []))))) lc'=lc'.map fun p=>some p.2:=by kernel_rfl):St ⟨w0,H0,B0,K,N⟩ (F.of sl' lc') a w :=
 (h.nilDL m j es (ao:=none) hv hg (fun _=>rfl) (bL _)).weaken (zh4 h3 h4)
theorem nilDLx (m j es:Nat) (cs:List C) (h:St ⟨w0,H0,B0,K,N⟩ (F.of sl lc) a w) (hv:lc.lookup m=some (.box cs):=by kernel_rfl) (hg:cs[j]?=some (.d (.raw zb2)):=by kernel_rfl) (h3:leS ((F.of sl lc).setL m (.box (cs.set j (.d (.sl es []))))) sl=sl.map fun p=>some p.2:=by kernel_rfl) (h4:leN ((F.of sl lc).setL m (.box (cs.set j (.d (.sl es []))))) (uL [] [(m,.box (cs.set j (.d (.sl es []))))] lc)=(uL [] [(m,.box (cs.set j (.d (.sl es []))))] lc).map fun p=>some p.2:=by kernel_rfl):St ⟨w0,H0,B0,K,N⟩ (F.of sl (uL [] [(m,.box (cs.set j (.d (.sl es []))))] lc)) a w:=nilDLs m j es cs sl (uL [] [(m,.box (cs.set j (.d (.sl es []))))] lc) h hv hg h3 h4
end
section
variable {P:Program}
def A.c:A->C
  | .d x => .d x
  | .ptr n o => .ptr n o
theorem AR.c {x:A} (h:AR H B x v):CR H B x.c v:=by cases x <;> exact h
def capV (cs:List A):List V:=cs.map fun x => .t (.c x.c)
theorem Op.callV {k:FuncId} {cap:List A} {ps qs:List (Nat × L)} {args:List V} {res:V} (hc:Fn P k ps (args++capV cap) res qs) (hk:zc2 P k) {d:Nat} {xs:List Operand} {tys:Array TypeId} {ty pos af gd} (h:OVs xs args rs) :
  zav P ⟨some d,.call { callee:=.value (.tmp t),args:=⟨xs⟩,argTypes:=tys }, ty,pos,af,gd⟩ (zf9 ((t,.t (.c (.fn (.func k) [] cap))) :: rs) ps qs d res):=by
 rintro e f a w Q ⟨H,B,hok⟩ hr hnw hb
 obtain ⟨vs1,vs2,hfv,hf1,hf2⟩:CR H B (.fn (.func k) [] cap) (a.eval (.tmp t)):=hok.slot t _ (hr.1 (t,.t (.c (.fn (.func k) [] cap))) (by simp [zf9]))
 obtain rfl:vs1=[]:=by cases vs1 with
  | nil=>rfl
  | cons _ _=>exact hf1.elim
 have hex:(execOp a.eval ⟨some d,.call { callee:=.value (.tmp t),args:=⟨xs⟩,argTypes:=tys }, ty,pos,af,gd⟩).run P w = .ok (.enter k ⟨xs.map a.eval++vs2⟩) w:=by
  have h1:a.eval (.tmp t) = .func (.func k) #[] ⟨vs2⟩:=hfv
  have h2:(⟨xs⟩:Array Operand).map a.eval=⟨xs.map a.eval⟩:=by simp
  simp only [execOp,resolve,h1,h2,Deferred.ofValue,Sem.run_bind,Sem.run_pure,Result.andThen_ok,invoke]
  rw [run_callee hk]
  simp
 have hargs:=h.eval hok fun p hp=>hr.1 p (by simp [zf9,hp])
 have hcap:zar (VR H B) (capV cap) vs2:=zar.mapL _ hf2 fun a _ b hab=>AR.c hab
 have hps:∀ p ∈ ps,f.l p.1=some p.2:=hr.2
 have pre:Pre ps (args++capV cap) w H B (xs.map a.eval++vs2):=⟨hok.sat,fun p hp=>hok.loc _ _ (hps p hp),fun p hp b c hb2=>by
   obtain ⟨h1,h2,_⟩:=hok.priv _ _ b c (hps p hp) hb2
   exact ⟨h1,h2⟩,fun p hp q hq b c c' h1 h2=>hok.inj _ _ _ _ b c c' (hps p hp) (hps q hq) h1 h2,zar.append hargs hcap,hok.tab.mono hok.le⟩
 unfold Oper.wp
 rw [hex,Oper.upon_enter]
 refine (hc w H B _ pre).mono ?_
 rintro en w' ⟨v,H', B', rfl,post⟩
 have hnew:∀ n,n ∈ qs.map (·.1)->n ∉ ps.map (·.1)->New e.K f n:=by
  intro n h1 h2
  refine hnw n ?_
  simp only [zf9,eB]
  refine ⟨h1,?_⟩
  cases hx:hasN (ps.map (·.1)) n with
  | false=>rfl
  | true=>exact absurd (zdz.1 hx) h2
 have h1:Ok e ⟨f.s,(f.app (zf9 ((t,.t (.c (.fn (.func k) [] cap))) :: rs) ps qs d res)).l⟩ H' B' a w':=hok.called (g:=⟨f.s,(f.app (zf9 ((t,.t (.c (.fn (.func k) [] cap))) :: rs) ps qs d res)).l⟩) hps hnew post (fun _=>rfl) (fun n=>by
  simp only [F.app,zf9,lookup_wl]
  cases qs.lookup n with
  | some l=>rfl
  | none=>by_cases hm:n ∈ ps.map (·.1) <;> simp [hm])
 exact ⟨H', B', h1.put (x:=some res) (hb.1 (d,some res) (by simp [zf9])) (zh0 f d (some res) _ rfl) (fun n=>rfl) (fun y hy=>by injection hy with hy;subst hy;exact post.res)⟩
theorem fill_ok' (place:Nat->Option (Nat × Nat)) (pl:List (Nat × Nat)) (hpl:∀ i q,pl[i]?=some q->place i=some q):∀ (parts:List (Nat × T)) (us:List (Nat × Value)) (cs:List C) (cells:List Value) (out:List C),zar (fun p u=>p.1=u.1/\TR H B p.2 u.2) parts us->zar (CR H B) cs cells->zgl pl cs parts=some out ->
  ∃ l,Instr.fill place ⟨cells⟩ us=some ⟨l⟩/\zar (CR H B) out l
 | [],[],cs,cells,out,_,hc,hf=>by simp only [zgl,Option.some.injEq] at hf;subst hf;exact ⟨cells,rfl,hc⟩
 | (i,x) :: r,(j,u) :: us,cs,cells,out,h,hc,hf=>by
  obtain ⟨⟨h1,h2⟩,h3⟩:=h
  simp only at h1 h2
  subst h1
  simp only [zgl] at hf
  cases hp:pl[i]? with
  | none=>rw [hp] at hf;cases hf
  | some q =>
   obtain ⟨off,size⟩:=q
   rw [hp] at hf
   simp only at hf
   split at hf
   ·rename_i hcond
    obtain ⟨l,g1,g2⟩:=TR.cells h2
    obtain ⟨l', k1,k2⟩:=fill_ok' place pl hpl r us _ _ out h3 (hc.put off g2) hf
    refine ⟨l', ?_,k2⟩
    have e1:place i=some (off,size):=hpl i _ hp
    have hl:l.length=size:=by rw [<- g2.length];exact hcond.1
    have hcl:=hc.length
    simp only [Instr.fill,e1,g1]
    rw [if_neg (by simp [hl];omega)]
    have:=fold_put off l 0 cells
    rw [Nat.add_zero] at this
    rw [<- k1,<- this]
    congr 1
    rw [<- Array.foldl_toList,Array.toList_zipIdx]
   ·cases hf
 | [],_ :: _,_,_,_,h,_,_=>h.elim
 | _ :: _,[],_,_,_,h,_,_=>h.elim
def plS:Nat->Nat->Nat->List (Nat × Nat)
  | 0,_,_=>[]
  | len+1,i,es=>(i*es,es) :: plS len (i+1) es
theorem plS_get:∀ (len i es j:Nat) q,(plS len i es)[j]?=some q->q=((i+j)*es,es)/\j<len
 | 0,_,_,_,_,h=>by simp [plS] at h
 | len+1,i,es,0,q,h=>by simp [plS] at h;subst h;exact ⟨rfl,by omega⟩
 | len+1,i,es,j+1,q,h=>by
  obtain ⟨h1,h2⟩:=plS_get len (i+1) es j q (by simpa [plS] using h)
  exact ⟨by rw [h1,show i+1+j=i+(j+1) by omega],by omega⟩
structure ElZ (P:Program) (t el:TypeId) (es:Nat):Prop where
  hu:P.underlying t=some (.slice el)
  ex:∃ i z,P.info? el=some i/\i.zero=some z/\i.size=es/\z.cells.size=es/\z.cells.toList.all flat=true
  pos:0<es
theorem ElZ.mk' {t:TypeId} (hu:P.underlying t=some (.slice el)) (i:TypeInfo) (z:Value) (h1:P.info? el=some i) (h2:i.zero=some z) (h3:i.size=es := by kernel_rfl) (h5:z.cells.size=es := by kernel_rfl) (h6:z.cells.toList.all flat=true := by kernel_rfl) (h7:0<es := by decide):ElZ P t el es:=⟨hu,⟨i,z,h1,h2,h3,h5,h6⟩,h7⟩
theorem buildS_run {t:TypeId} {len:Nat} (hT:ElZ P t el es) (hlen:0<len) (hsm:len*es<=16777216) {parts:List (Nat × T)} {us:List (Nat × Value)} {out:List C} (hp:zar (fun p u=>p.1=u.1/\TR H B p.2 u.2) parts us)
    (hf:zgl (plS len 0 es) (List.replicate (len*es) .any) parts=some out) (w:World) :
    ∃ l:List Value,(Instr.buildSlice t len ⟨us⟩).run P w = .ok (.slice (some ⟨w.heap.size,0,none⟩) len len) (w.alloc (.cells ⟨l⟩ el))/\zar (CR H B) out l:=by
  obtain ⟨i,z,hi,hz,hsz,hzs,hfl⟩:=hT.ex
  have hcells:zar (CR H B) (List.replicate (len*es) .any) ((Array.range (len*es)).map (z.cells[· % z.cells.size]!)).toList:=by
    refine zar.iff.2 ⟨by simp,fun j x u hx hu=>?_⟩
    have hx':=bV hx
    have:=List.eq_of_mem_replicate hx'
    subst this
    simp only [Array.toList_map,cE] at hu
    cases hr:(Array.range (len*es)).toList[j]? with
    | none=>rw [hr] at hu;cases hu
    | some k =>
      rw [hr] at hu
      injection hu with hu
      subst hu
      have hk:k % z.cells.size<z.cells.size:=dG _ (by rw [hzs];exact hT.pos)
      show flat (z.cells[k % z.cells.size]!)=true
      rw [getElem!_pos z.cells _ hk]
      have:=List.all_eq_true.1 hfl (z.cells[k % z.cells.size]'hk) (by simp)
      exact this
  have hpl:∀ i q,(plS len 0 es)[i]?=some q->(fun i=>some (i*es,es)) i=some q:=by
    intro j q hq
    obtain ⟨h1,_⟩:=plS_get len 0 es j q hq
    rw [h1,cP]
  obtain ⟨l,h1,h2⟩:=fill_ok' (fun i=>some (i*es,es)) (plS len 0 es) hpl parts us _ _ out hp hcells hf
  refine ⟨l,?_,h2⟩
  have hne:¬ len*i.size=0:=by rw [hsz];have:=Nat.mul_pos hlen hT.pos;omega
  refine run_buildSlice (P:=P) w t el len ⟨us⟩ ⟨l⟩ i z hT.hu hi hz (by rw [hsz];omega) hne ?_
  subst hsz
  exact h1
theorem Ok.newData {w:World} (h:Ok e f H B a w) (o:Obj):Ok e f (fun b=>if b=w.heap.size then some o else H b) B a (w.alloc o)/\Le H (fun b=>if b=w.heap.size then some o else H b):=by
 have hold:∀ b,b<w.heap.size->(w.alloc o).heap[b]?=w.heap[b]?:=fun b hb=>Below.heap_alloc w o b hb
 have hlt:∀ b x,H b=some x->b<w.heap.size:=fun b x hb=>(dC.1 (h.sat b x hb)).1
 have hle:Le H (fun b=>if b=w.heap.size then some o else H b):=by
  intro b x hb
  have:=hlt b x hb
  have hne:b≠w.heap.size:=by omega
  simp [hne,hb]
 refine ⟨⟨h.df,h.n,⟨h.ext.os,h.ext.tape,h.ext.output,?_,?_⟩,?_,fun t v hv=>VR.mono hle (fun _ _=>rfl) (h.slot t v hv),?_,?_,h.inj,?_,h.le.trans hle,h.keep,h.tab⟩,hle⟩
 ·have:=h.ext.size;simp;omega
 ·intro b hb hm;have:=h.ext.size;rw [hold b (by omega)];exact h.ext.block b hb hm
 ·intro b x hx
  by_cases e1:b=w.heap.size
  ·subst e1
   simp only [if_true] at hx
   rw [<- hx]
   exact heap_alloc_new w o
  ·simp only [if_neg e1] at hx
   rw [hold b (hlt b x hx)];exact h.sat b x hx
 ·intro n l hn
  exact LR.mono hle rfl (fun _ _=>rfl) (fun b c hb=>hold b (h.priv n l b c hn hb).1) (h.loc n l hn)
 ·intro n l b c hn hb
  obtain ⟨h1,h2,h3⟩:=h.priv n l b c hn hb
  exact ⟨by simp;omega,by simp only [if_neg (show b≠w.heap.size by omega)];exact h2,h3⟩
 ·intro b hb
  have:=h.ext.size
  simp only [if_neg (show b≠w.heap.size by omega)]
  exact h.low b hb
theorem rowAt_of {l:List Value} (hes:∀ r ∈ rows,r.length=es) (h:zar (CR H B) (rows.flatten.map C.d) l):RowAt H l es rows:=by
 intro i r hr f x hx
 have hf:f<es:=by rw [<- hes r (bV hr)];exact (bE.1 hx).1
 have e1:(rows.flatten.map C.d)[i*es+f]?=some (.d x):=by
  rw [cE,flat_at hes i f hf,hr];simp [hx]
 have hlt:i*es+f<l.length:=by rw [<- h.length];exact (bE.1 e1).1
 exact ⟨_,bF hlt,(zar.iff.1 h).2 _ _ _ e1 (bF hlt)⟩
theorem Op.buildD {d len:Nat} {xs:List (Nat × Operand)} {vs:List (Nat × T)} {t:TypeId} {pos af gd} (hT:ElZ P t el es) (h:OPs xs vs rs) (hf:zgl (plS len 0 es) (List.replicate (len*es) .any) vs=some (rows.flatten.map C.d))
  (hlen:rows.length=len) (hes:∀ r ∈ rows,r.length=es) (hl0:0<len) (hsm:len*es<=16777216) :
  zav P ⟨some d,.buildSlice t len ⟨xs⟩,ty,pos,af,gd⟩ { rs:=rs,ws:=[(d,some (.t (.c (.d (.sl es rows)))))] }:=by
 rintro e f a w Q ⟨H,B,hok⟩ hr hnw hb0
 have hp:=h.eval hok hr.1
 obtain ⟨l,h1,h2⟩:=buildS_run (P:=P) hT hl0 hsm hp hf w
 obtain ⟨hok', hle⟩:=hok.newData (.cells ⟨l⟩ el)
 have hfl:rows.flatten.length=len*es:=by rw [zft hes,hlen]
 have hrow:DR (fun b=>if b=w.heap.size then some (.cells ⟨l⟩ el (0,0)) else H b) (.sl es rows) (.slice (some ⟨w.heap.size,0,none⟩) len len):=by
  have:=row_data (H:=fun b=>if b=w.heap.size then some (.cells ⟨l⟩ el (0,0)) else H b) (es:=es) (b:=w.heap.size) (c:=len) (arr:=l) (ty:=el) (rows:=rows) (if_pos rfl) (by omega) (by
   have:len*1<=len*es:=eA _ hT.pos
   simp only [maxLen];omega) hes (fun i r hr f x hx=>by
    obtain ⟨u,k1,k2⟩:=rowAt_of hes h2 i r hr f x hx
    exact ⟨u,k1,k2.mono hle⟩)
  rwa [hlen] at this
 refine wp_of_run (d:=d) rfl ?_ ⟨_,B,hok'.put (x:=some (.t (.c (.d (.sl es rows))))) (hb0.1 (d,some (.t (.c (.d (.sl es rows))))) (by simp)) (zh0 f d _ _ rfl) (app0_l f _ rfl) (fun y hy=>by injection hy with hy;subst hy;exact hrow)⟩
 have e1:((⟨xs⟩:Array (Nat × Operand)).map fun x=>(x.1,a.eval x.2))=⟨xs.map fun p=>(p.1,a.eval p.2)⟩:=by simp
 simp only [execOp,e1,Sem.run_bind,h1,Result.andThen_ok,Sem.run_pure]
theorem Op.buildO {d len:Nat} {xs:List (Nat × Operand)} {vs:List (Nat × T)} {t:TypeId} {pos af gd} (hT:ElZ P t el es) (h:OPs xs vs rs) (hf:zgl (plS len 0 es) (List.replicate (len*es) .any) vs=some (rows.flatten.map C.d))
  (hlen:rows.length=len) (hes:∀ r ∈ rows,r.length=es) (hl0:0<len) (hsm:len*es<=16777216) :
  zav P ⟨some d,.buildSlice t len ⟨xs⟩,ty,pos,af,gd⟩ { rs:=rs,ws:=[(d,some (.t (.c (.own n len))))],wl:=[(n,some (.row el es rows))],nw:=[n] }:=by
 refine zav.news d n _ _ rfl rfl rfl (by simp) fun e f H B a w hok hr hn=>?_
 have hp:=h.eval hok hr.1
 obtain ⟨l,h1,h2⟩:=buildS_run (P:=P) hT hl0 hsm hp hf w
 have hfl:rows.flatten.length=len*es:=by rw [zft hes,hlen]
 have hll:l.length=len*es:=by rw [<- h2.length,bK,hfl]
 refine ⟨.slice (some ⟨w.heap.size,0,none⟩) len len,len,.cells ⟨l⟩ el,?_,?_,?_⟩
 ·have e1:((⟨xs⟩:Array (Nat × Operand)).map fun x=>(x.1,a.eval x.2))=⟨xs.map fun p=>(p.1,a.eval p.2)⟩:=by simp
  simp only [execOp,e1,Sem.run_bind,h1,Result.andThen_ok,Sem.run_pure]
 ·simp only [LR,if_true]
  refine ⟨l,heap_alloc_new w _,hll,by omega,?_,hes,(zc6 hll (by omega) hes).2 (rowAt_of hes h2)⟩
  have:len*1<=len*es:=eA _ hT.pos
  simp only [maxLen];omega
 ·simp [VR,TR,CR]
theorem Op.buildE {d:Nat} {t:TypeId} {pos af gd} (hT:ElZ P t el es) :
  zav P ⟨some d,.buildSlice t 0 #[],ty,pos,af,gd⟩ { ws:=[(d,some (.t (.c (.own n 0))))],wl:=[(n,some (.row el es []))],nw:=[n] }:=by
 refine zav.news d n _ _ rfl rfl rfl (by simp) fun e f H B a w hok hr hn=>?_
 obtain ⟨i,z,hi,hz,hsz,hzs,hfl⟩:=hT.ex
 refine ⟨.slice (some ⟨w.heap.size,0,none⟩) 0 0,0,.cells #[] el,?_,?_,?_⟩
 ·have:(Instr.buildSlice t 0 #[]).run P w = .ok (.slice (some ⟨w.heap.size,0,none⟩) 0 0) (w.alloc (.cells #[] el)):=by
   simp [Instr.buildSlice,run_underlying hT.hu,sizeOf,typeInfo,hi,Instr.fill,newRow]
   exact congrArg (fun x=>w.alloc (.cells x el)) (Array.ext' (by simp))
  simp [execOp,this]
 ·simp only [LR,if_true]
  exact ⟨[],heap_alloc_new w _,by simp,bS _,bL _,by simp,by simp [zar]⟩
 ·simp [VR,TR,CR]
end
theorem bD (d:Nat) (rows:List (List D)) {xs:List (Nat × Operand)} {vs:List (Nat × T)} (rs:List (Nat × V)) {t:TypeId} {pos af gd} (hT:ElZ P t el es) (h:OPs xs vs rs) (hf:zgl (plS 1 0 es) (List.replicate (1*es) .any) vs=some (rows.flatten.map C.d)) (hes:∀ r ∈ rows,r.length=es) (hlen:rows.length=1:=by exact rfl) (hsm:1*es<=16777216:=by decide) :
    zav P ⟨some d,.buildSlice t 1 ⟨xs⟩,ty,pos,af,gd⟩ { rs:=rs,ws:=[(d,some (.t (.c (.d (.sl es rows)))))] }:=Op.buildD hT h hf hlen hes (by decide) hsm
end S
def sgn (z:Int):Int:=if z<0 then -1 else if 0<z then 1 else 0
def zcp (x y:Int):Int:=if x<y then -1 else if y<x then 1 else 0
theorem zf2 (h:z<0):sgn z=-1:=by unfold sgn;rw [if_pos h]
theorem sgn_pos (h:0<z):sgn z=1:=by unfold sgn;rw [if_neg (by omega),if_pos h]
theorem zdt (h:z=0):sgn z=0:=by subst h;rfl
theorem sgn_range (z:Int):-1<=sgn z/\sgn z<=1:=by unfold sgn;split;omega;split <;> omega
theorem zbd:sgn z<0 ↔ z<0:=by unfold sgn;split;omega;split <;> omega
theorem sgn_gt_zero:0<sgn z ↔ 0<z:=by unfold sgn;split;omega;split <;> omega
theorem sgn_eq_zero:sgn z=0 ↔ z=0:=by unfold sgn;split;omega;split <;> omega
namespace S
variable {xs ys zs n1:List Nat} {s:Bool} {α β:Type} {i m b o k:Nat} {v:Value}
def fam0tb:Tb:=[(4,⟨1,false,[],[.d (.raw (.bool false))],3⟩),(31,⟨1,false,[],[.d (nsl [])],1⟩),(33,⟨2,true,[(0,1,false),(1,1,false)],[.d (.raw (.bool false)),.d (nsl [])],0⟩),(2,⟨1,false,[],[.d (.raw (.int .i64 0))],13⟩),(100,⟨1,false,[],[.d (.raw (.int .u64 0))],17⟩),(79,⟨1,false,[],[.d (.raw (.int .u32 0))],16⟩),(39,⟨1,false,[],[.d (.raw zb2)],1⟩),(41,⟨3,true,[(0,1,false),(1,2,true)],[.d (.raw zb2),.d (.raw (.bool false)),.d (nsl [])],0⟩),(3,⟨1,false,[],[.d (.raw (.int .i64 0))],13⟩),(61,⟨3,true,[(0,1,false),(1,2,true)],[.d (.raw (.int .i64 0)),.d (.raw (.bool false)),.d (nsl [])],0⟩),(52,⟨1,false,[],[.d (.raw zb2)],1⟩),(85,⟨1,false,[],[.d (.raw (.int .u64 0))],17⟩),(142,⟨1,false,[],[.d (.raw zb2)],1⟩),(69,⟨1,false,[],[.d (.raw zb2)],1⟩),(23,⟨1,false,[],[.d (.raw zb2)],1⟩),(43,⟨4,true,[(0,3,true),(3,1,false)],[.d (.raw zb2),.d (.raw (.bool false)),.d (nsl []),.d (.raw (.bool false))],0⟩),(22,⟨1,false,[],[.d (.raw zb2)],1⟩),(56,⟨1,false,[],[.d (.raw zb2)],1⟩),(58,⟨3,true,[(0,1,false),(1,1,false),(2,1,false)],[.d (.raw zb2),.d (.raw zb2),.d (.raw zb2)],0⟩),(63,⟨5,true,[(0,2,true),(2,3,true)],[.d (.raw (.bool false)),.d (nsl []),.d (.raw zb2),.d (.raw (.bool false)),.d (nsl [])],0⟩),(46,⟨1,false,[],[.d (.raw zb2)],1⟩),(9,⟨1,false,[],[.d (.raw (.string ByteArray.empty))],2⟩)]
theorem zex:TbOk eO fam0tb:=tbB_spec (by kernel_rfl)
theorem zct:Sz eO 33 2 true:=Sz.mk' (by kernel_rfl) Tryz.underlying33 _ rfl
theorem nadd_lt (hx:Lb xs) (hy:Lb ys):nV xs+nV ys<pw (xs.length+ys.length+1):=zef hx hy (by omega) (by omega)
theorem nmul_lt (hx:Lb xs) (hy:Lb ys):nV xs*nV ys<pw (xs.length+ys.length):=zbq (zau hx) (zau hy)
theorem iv_not (s:Bool) (zs:List Nat):iv (!s) zs=-iv s zs:=by cases s <;> simp [iv]
theorem iv_pos (x:ZI):iv false x.abs=(x.val.natAbs:Int):=congrArg Int.ofNat (iv_abs x.neg x.abs).symm
theorem iv_of {us:List Nat} (h:nV zs=nV us):iv s zs=iv s us:=by unfold iv;rw [h]
theorem from_true (e:n1=lbs (nV zs)):(⟨decide ((n1.length:Int)>0),n1⟩:ZI)=eS (iv true zs):=by
 subst e
 refine ZI.of_eq ⟨zbu _,fun h=>by simp [h]⟩ ?_
 by_cases h:(lbs (nV zs)).length=0
 ·have h1:=cJ.1 h
  have h2:=zd4 (nV zs)
  rw [h1] at h2 ⊢
  rw [iv_nil];unfold iv;rw [<- h2];rfl
 ·have h1:((lbs (nV zs)).length:Int)>0:=by omega
  simp only [h1,decide_true]
  exact iv_of (zd4 _)
theorem from_false (e:n1=lbs (nV zs)):(⟨false,n1⟩:ZI)=eS (iv false zs):=by
 subst e
 exact ZI.of_eq ⟨zbu _,fun _=>rfl⟩ (iv_of (zd4 _))
theorem from_some (e:n1=lbs (nV zs)) (h:n1.length≠0):(⟨s,n1⟩:ZI)=eS (iv s zs):=by
 subst e
 exact ZI.of_eq ⟨zbu _,fun h0=>absurd h0 h⟩ (iv_of (zd4 _))
theorem from_none (e:n1=lbs (nV zs)) (h:n1.length=0):(⟨false,[]⟩:ZI)=eS (iv s zs):=by
 subst e
 have h1:=cJ.1 h
 have h2:=zd4 (nV zs)
 rw [h1] at h2
 have:iv s zs=0:=by unfold iv;rw [<- h2];cases s <;> rfl
 rw [this];rfl
theorem zh6 (s:Bool) (zs:List Nat) (hz:Lb zs) (lz:zs.length<=100000000):Fn eO 90 [] [vb s,vn zs] (vz (eS (iv s zs))) []:=by
 refine fB Tryz.func90 rfl 15 fun w H B a h=>Jq 0 [] [(0,vb s),(1,vn zs),(4,vp 0 0)] [(0,.box [.d (.raw (.bool false)),.d (nsl [])])] h fun a w h=>?_
 obtain ⟨n1,en1,vn1,on1,ln1⟩:=mkN (v:=nV zs) (m:=zs.length) (zau hz);refine Je 1 [(1,.call (eP (SnTrim zs hz (by omega)) (congrArg vn en1.symm)))] [] [(1,vn n1)] h fun a w h=>?_
 rcases dR s with hc1 | hc2
 ·rw [hc1] at h;refine Jq 1 [(3,.len (zec n1))] [(4,vp 0 0)] [(0,.box [.d (.raw (.bool (decide ((n1.length:Int)>0)))),.d (nsl n1)])] h fun a w h=>qV (rA 0 [.d (.raw (.bool (decide ((n1.length:Int)>0)))),.d (nsl n1)] h zct rfl ?_);rw [hc1,<- from_true en1];try rfl
 rw [hc2] at h;refine Jq 1 [] [(4,vp 0 0)] [(0,.box [.d (.raw (.bool false)),.d (nsl n1)])] h fun a w h=>qV (rA 0 [.d (.raw (.bool false)),.d (nsl n1)] h zct rfl ?_);rw [hc2,<- from_false en1];try rfl
theorem zh1 (s:Bool) (zs:List Nat) (hz:Lb zs) (lz:zs.length<=100000):Fn eO 39 [] [vb s,vn zs] (vz (eS (iv s zs))) []:=by
 refine fB Tryz.func39 rfl 15 fun w H B a h=>Jq 0 [] [(0,vb s),(1,vn zs),(4,vp 0 0)] [(0,.box [cB false,.d (nsl [])])] h fun a w h=>?_
 obtain ⟨n1,en1,vn1,on1,ln1⟩:=mkN (v:=nV zs) (m:=zs.length) (zau hz);refine Je 1 [(1,.call (eP (SRnTrim zs hz (by omega)) (congrArg vn en1.symm)))] [1] [(5,vn n1)] h fun a w h=>qW (Je 1 [(1,.len (zec n1))] [] [(10,vb ((n1.length:Int) == 0))] h fun a w h=>cS ((n1.length:Int) == 0) h (fun hc1=>?_) (fun hc2=>?_))
 ·refine Je 1 [] [10] [] h fun a w h=>qV (zae (rA 0 [cB false,.d (nsl [])] h zct rfl ?_));rw [<- from_none en1 (by simpa using hc1)];try rfl
 refine qU (za3 (Jq 1 [] [(4,vp 0 0)] [(0,.box [cB s,.d (nsl n1)])] h fun a w h=>qV (rA 0 [cB s,.d (nsl n1)] h zct rfl ?_)));rw [<- from_some en1 (by simpa using hc2)];try rfl
theorem SClean (x:ZI) (hx:Lb x.abs) (lx:x.abs.length<=100000000):Fn eO 65 [] [vz x] (vz (eS (x.val))) []:=by
 refine fB Tryz.func65 rfl 8 fun w H B a h=>Jq 0 [] [(1,vp 0 0),(2,vp 1 0)] [(0,.box (zi x)),(1,.box [cB false,.d (nsl [])])] h fun a w h=>?_
 obtain ⟨r1,er1,vr1,or1,lr1⟩:=mkZ (v:=iv x.neg x.abs) (m:=x.abs.length) (zc0 hx);refine Jd 2 [(4,.call (eP (zh6 x.neg x.abs hx (by omega)) (congrArg vz er1.symm)))] [1] [] [(1,.box (zi r1))] h fun a w h=>qV (rA 1 (zi r1) h zct rfl ?_);rw [er1];try rfl
theorem SRClean (x:ZI) (hx:Lb x.abs) (lx:x.abs.length<=100000):Fn eO 99 [] [vz x] (vz (eS (x.val))) []:=by
 refine fB Tryz.func99 rfl 8 fun w H B a h=>Jq 0 [] [(1,vp 0 0),(2,vp 1 0)] [(0,.box (zi x)),(1,.box [cB false,.d (nsl [])])] h fun a w h=>?_
 obtain ⟨r1,er1,vr1,or1,lr1⟩:=mkZ (v:=iv x.neg x.abs) (m:=x.abs.length) (zc0 hx);refine Jd 2 [(4,.call (eP (zh1 x.neg x.abs hx (by omega)) (congrArg vz er1.symm)))] [1] [] [(1,.box (zi r1))] h fun a w h=>qV (rA 1 (zi r1) h zct rfl ?_);rw [er1];try rfl
theorem SNeg (x:ZI) (hx:Lb x.abs) (lx:x.abs.length<=100000000):Fn eO 51 [] [vz x] (vz (eS (-x.val))) []:=by
 refine fB Tryz.func51 rfl 9 fun w H B a h=>Jq 0 [] [(1,vp 0 0),(2,vp 1 0)] [(0,.box (zi x)),(1,.box [cB false,.d (nsl [])])] h fun a w h=>?_
 obtain ⟨r1,er1,vr1,or1,lr1⟩:=mkZ (v:=iv (!x.neg) x.abs) (m:=x.abs.length) (zc0 hx);refine Jd 2 [(5,.call (eP (zh6 (!x.neg) x.abs hx (by omega)) (congrArg vz er1.symm)))] [1] [] [(1,.box (zi r1))] h fun a w h=>qV (rA 1 (zi r1) h zct rfl ?_);rw [er1,iv_not];try rfl
theorem SAbs (x:ZI) (hx:Lb x.abs) (lx:x.abs.length<=100000000):Fn eO 46 [] [vz x] (vz (eS ((x.val.natAbs:Int)))) []:=by
 refine fB Tryz.func46 rfl 6 fun w H B a h=>Jq 0 [] [(1,vp 0 0),(2,vp 1 0)] [(0,.box (zi x)),(1,.box [cB false,.d (nsl [])])] h fun a w h=>?_
 obtain ⟨r1,er1,vr1,or1,lr1⟩:=mkZ (v:=iv false x.abs) (m:=x.abs.length) (zc0 hx);refine Jd 2 [(2,.call (eP (zh6 false x.abs hx (by omega)) (congrArg vz er1.symm)))] [1] [] [(1,.box (zi r1))] h fun a w h=>qV (rA 1 (zi r1) h zct rfl ?_);rw [er1,iv_pos];try rfl
theorem sign_neg {x r:ZI} (e:r=eS x.val) (h:r.neg=true):(-1:Int)=sgn x.val:=by
 rw [e] at h;exact (zf2 (of_decide_eq_true h)).symm
theorem sign_pos {x r:ZI} (e:r=eS x.val) (h:r.neg=false) (hl:(r.abs.length:Int)>0):(1:Int)=sgn x.val:=by
 rw [e] at h hl
 have h1:¬ x.val<0:=of_decide_eq_false h
 have h2:x.val≠0:=fun h0=>by have:=ZI.abs_nil.2 h0;omega
 exact (sgn_pos (by omega)).symm
theorem sign_zero {x r:ZI} (e:r=eS x.val) (hl:¬ (r.abs.length:Int)>0):(0:Int)=sgn x.val:=by
 rw [e] at hl
 exact (zdt (ZI.abs_nil.1 (by omega))).symm
theorem SSign (x:ZI) (hx:Lb x.abs) (lx:x.abs.length<=100000000):Fn eO 34 [] [vz x] (vI (sgn x.val)) []:=by
 refine fB Tryz.func34 rfl 13 fun w H B a h=>Jq 0 [] [(1,vp 0 0),(2,vI 0)] [(0,.box (zi x))] h fun a w h=>?_
 obtain ⟨r1,er1,vr1,or1,lr1⟩:=mkZ (v:=x.val) (m:=x.abs.length) (zcg hx);refine Jg 1 [(1,.call (eP (SClean x hx (by omega)) (congrArg vz er1.symm)))] [] [] [] [(0,.box (zi r1))] h fun a w h=>qW (qZ (Je 1 [] [] [(5,vb r1.neg)] h fun a w h=>cS r1.neg h (fun hc1=>?_) (fun hc2=>?_)))
 ·refine Jq 1 [] [(2,vI (-1))] [] h fun a w h=>qV (zan (zae (rT (.c (cI (-1))) h rfl ?_)));rw [<- sign_neg er1 hc1];try rfl
 refine Jd 1 [(2,.len (zec r1.abs))] [1,5] [(8,vb (decide ((r1.abs.length:Int)>0)))] [] h fun a w h=>zaj ((r1.abs.length:Int)>0) h (fun hc3 hc3'=>?_) (fun hc4 hc4'=>?_)
 ·refine Jq 1 [] [(2,vI 1)] [] h fun a w h=>qV (zan (zae (rT (.c (cI 1)) h rfl ?_)));rw [<- sign_pos er1 hc2 hc3'];try rfl
 refine qU (za6 (za3 (Jg 1 [] [8] [] [] [] h fun a w h=>qV (rT (.c (cI 0)) h rfl ?_))));rw [<- sign_zero er1 hc4'];try rfl
theorem rsign {x:ZI} (e:n1=lbs (nV x.abs)):(n1.length=0->(0:Int)=sgn x.val)/\(n1.length≠0->x.neg=true->(-1:Int)=sgn x.val)/\(n1.length≠0->x.neg=false->(1:Int)=sgn x.val):=by
 have hv:=zd4 (nV x.abs)
 have hz:n1.length=0 ↔ nV x.abs=0:=by
  subst e
  constructor
  ·intro h;rw [cJ.1 h] at hv;exact hv.symm
  ·intro h;rw [h];rfl
 unfold ZI.val
 refine ⟨fun h=>?_,fun h k=>?_,fun h k=>?_⟩
 ·rw [zdt (by unfold iv;rw [hz.1 h];cases x.neg <;> rfl)]
 ·rw [zf2 (by unfold iv;rw [k];have:=mt hz.2 h;simp;omega)]
 ·rw [sgn_pos (by unfold iv;rw [k];have:=mt hz.2 h;simp;omega)]
theorem zcq (x:ZI) (hx:Lb x.abs) (lx:x.abs.length<=100000):Fn eO 55 [] [vz x] (vI (sgn x.val)) []:=by
 refine fB Tryz.func55 rfl 10 fun w H B a h=>Jq 0 [] [(1,vp 0 0),(2,vI 0)] [(0,.box (zi x))] h fun a w h=>qW ?_
 obtain ⟨n1,en1,vn1,on1,ln1⟩:=mkN (v:=nV x.abs) (m:=x.abs.length) (zau hx);refine Je 1 [(2,.call (eP (SRnTrim x.abs hx (by omega)) (congrArg vn en1.symm))),(3,.len (zec n1))] [] [(7,vb ((n1.length:Int) == 0))] h fun a w h=>cS ((n1.length:Int) == 0) h (fun hc1=>?_) (fun hc2=>?_)
 ·refine Je 1 [] [7] [] h fun a w h=>qV (zae (rT (.c (cI 0)) h rfl ?_));rw [<- (rsign en1).1 (by simpa using hc1)];try rfl
 refine qU (za3 (qW (Jd 1 [] [1,7] [(9,vb x.neg)] [] h fun a w h=>cS x.neg h (fun hc3=>?_) (fun hc4=>?_))))
 ·refine Jq 1 [] [(2,vI (-1))] [] h fun a w h=>qV (zae (rT (.c (cI (-1))) h rfl ?_));rw [<- (rsign en1).2.1 (by simpa using hc2) hc3];try rfl
 refine qU (za3 (Jq 1 [] [(2,vI 1)] [] h fun a w h=>qV (rT (.c (cI 1)) h rfl ?_)));rw [<- (rsign en1).2.2 (by simpa using hc2) hc4];try rfl
theorem iv_same {n:List Nat} (h:nV n=nV xs+nV ys):iv s n=iv s xs+iv s ys:=by unfold iv;rw [h];cases s <;> simp <;> omega
theorem iv_ge {t:Bool} {n:List Nat} (hne:s≠t) (hle:nV ys<=nV xs) (h:nV n=nV xs - nV ys):iv s n=iv s xs+iv t ys:=by unfold iv;rw [h];cases s <;> cases t <;> simp_all <;> omega
theorem iv_lt {t:Bool} {n:List Nat} (hne:s≠t) (hle:nV xs<=nV ys) (h:nV n=nV ys - nV xs):iv t n=iv s xs+iv t ys:=by unfold iv;rw [h];cases s <;> cases t <;> simp_all <;> omega
theorem iv_times {t:Bool} {n:List Nat} (h:nV n=nV xs*nV ys):iv (s != t) n=iv s xs*iv t ys:=by unfold iv;rw [h,Int.natCast_mul];cases s <;> cases t <;> simp [Int.neg_mul,Int.mul_neg]
theorem SAdd (x y:ZI) (hx:Lb x.abs) (hy:Lb y.abs) (lx:x.abs.length<=49000000) (ly:y.abs.length<=49000000):Fn eO 73 [] [vz x,vz y] (vz (eS (x.val+y.val))) []:=by
 refine fB Tryz.func73 rfl 47 fun w H B a h=>Jq 0 [] [(2,vp 0 0),(3,vp 1 0),(4,vp 2 0)] [(0,.box (zi x)),(1,.box (zi y)),(2,.box [cB false,.d (nsl [])])] h fun a w h=>qW (Je 3 [] [] [(13,vb (x.neg == y.neg))] h fun a w h=>cS (x.neg == y.neg) h (fun hc1=>?_) (fun hc2=>?_))
 ·obtain ⟨n1,en1,vn1,on1,ln1⟩:=mkN (v:=nV x.abs+nV y.abs) (m:=x.abs.length+y.abs.length+1) (nadd_lt hx hy);obtain ⟨r2,er2,vr2,or2,lr2⟩:=mkZ (v:=iv x.neg n1) (m:=n1.length) (zc0 on1);refine Jg 3 [(6,.call (eP (SnAdd x.abs y.abs hx hy (by omega) (by omega)) (congrArg vn en1.symm))),(7,.call (eP (zh6 x.neg n1 on1 (by omega)) (congrArg vz er2.symm)))] [13] [] [] [(2,.box (zi r2))] h fun a w h=>qV (zae (rA 2 (zi r2) h zct rfl ?_));have e1:x.neg=y.neg:=by simpa using hc1
  rw [er2,iv_same vn1];show vz (eS (iv x.neg x.abs+iv x.neg y.abs))=vz (eS (iv x.neg x.abs+iv y.neg y.abs));rw [e1]
 refine qU (za3 (qW ?_));obtain ⟨n3,en3,vn3,on3,ln3⟩:=mkN (v:=nV x.abs - nV y.abs) (m:=x.abs.length) (dS (dU _ _) (zau hx));refine Je 3 [(4,.call (eP (SnSub x.abs y.abs hx hy (by omega) (by omega)) (show _=(.tup [.c (.d (nsl n3)),.c (cB (decide (nV y.abs<=nV x.abs)))]:V) by rw [en3])))] [13] [(5,vn n3),(6,vb (decide (nV y.abs<=nV x.abs)))] h fun a w h=>Je 3 [] [6] [(30,vb (decide (nV y.abs<=nV x.abs)))] h fun a w h=>zaj (nV y.abs<=nV x.abs) h (fun hc3 hc3'=>?_) (fun hc4 hc4'=>?_)
 ·obtain ⟨r4,er4,vr4,or4,lr4⟩:=mkZ (v:=iv x.neg n3) (m:=n3.length) (zc0 on3);refine Jg 3 [(3,.call (eP (zh6 x.neg n3 on3 (by omega)) (congrArg vz er4.symm)))] [5,30] [] [] [(2,.box (zi r4))] h fun a w h=>qV (zae (rA 2 (zi r4) h zct rfl ?_));rw [er4,iv_ge (t:=y.neg) (ys:=y.abs) (by simpa using hc2) hc3' vn3];try rfl
 refine qU (za3 ?_);obtain ⟨n5,en5,vn5,on5,ln5⟩:=mkN (v:=nV y.abs - nV x.abs) (m:=y.abs.length) (dS (dU _ _) (zau hy));refine Jg 3 [(4,.call (eP (SnSub y.abs x.abs hy hx (by omega) (by omega)) (show _=(.tup [.c (.d (nsl n5)),.c (cB (decide (nV x.abs<=nV y.abs)))]:V) by rw [en5])))] [2,5,30] [(7,vn n5)] [0] [] h fun a w h=>?_;obtain ⟨r6,er6,vr6,or6,lr6⟩:=mkZ (v:=iv y.neg n5) (m:=n5.length) (zc0 on5);refine Jq 3 [(3,.call (eP (zh6 y.neg n5 on5 (by omega)) (congrArg vz er6.symm)))] [(4,vp 2 0)] [(2,.box (zi r6))] h fun a w h=>qV (rA 2 (zi r6) h zct rfl ?_);rw [er6,iv_lt (s:=x.neg) (xs:=x.abs) (by simpa using hc2) (by have:=hc4';omega) vn5];try rfl
theorem SMul (x y:ZI) (hx:Lb x.abs) (hy:Lb y.abs) (lx:x.abs.length<=49000) (ly:y.abs.length<=49000):Fn eO 60 [] [vz x,vz y] (vz (eS (x.val*y.val))) []:=by
 refine fB Tryz.func60 rfl 16 fun w H B a h=>Jq 0 [] [(2,vp 0 0),(3,vp 1 0),(4,vp 2 0)] [(0,.box (zi x)),(1,.box (zi y)),(2,.box [cB false,.d (nsl [])])] h fun a w h=>?_
 obtain ⟨n1,en1,vn1,on1,ln1⟩:=mkN (v:=nV x.abs*nV y.abs) (m:=x.abs.length+y.abs.length) (nmul_lt hx hy);obtain ⟨r2,er2,vr2,or2,lr2⟩:=mkZ (v:=iv (x.neg != y.neg) n1) (m:=n1.length) (zc0 on1);refine Jq 3 [(9,.call (eP (SnMul x.abs y.abs hx hy (by omega) (by omega)) (congrArg vn en1.symm))),(10,.call (eP (zh6 (x.neg != y.neg) n1 on1 (by omega)) (congrArg vz er2.symm)))] [(4,vp 2 0)] [(2,.box (zi r2))] h fun a w h=>qV (rA 2 (zi r2) h zct rfl ?_);rw [er2,iv_times vn1];try rfl
def zc4 (v:Int):List D:=[.raw (.int .i64 v)]
def ziD (x:ZI):List D:=[.raw (.bool x.neg),nsl x.abs]
def strD (x:ByteArray):List D:=[.raw (.string x)]
def boolD (x:Bool):List D:=[.raw (.bool x)]
def slD {α:Type} (es:Nat) (f:α->List D) (xs:List α):List D:=[.sl es (xs.map f)]
theorem zab {xs:List α} {x:α} (h:xs[i]?=some x) {f:α->β}:(xs.map f)[i]?=some (f x):=by rw [cE,h];rfl
theorem zac (es:Nat) (f:α->List D) (xs:List α):lenC (.d (.sl es (xs.map f)))=some xs.length:=by simp [lenC]
def vd (l:List D):V:=.t (.agg (l.map C.d))
structure za2 where
  v:Int
  c:ZI
def za2.d (x:za2):List D:=[.raw (.int .i64 x.v),.raw (.bool x.c.neg),nsl x.c.abs]
structure zax where
  parts:List za2
  k:ZI
def zax.d (x:zax):List D:=[.sl 3 (x.parts.map za2.d),.raw (.bool x.k.neg),nsl x.k.abs]
abbrev zT (x:zax):List C:=[.d (.sl 3 (x.parts.map za2.d))]++zi x.k
abbrev vT (x:zax):V:=.t (.agg (zT x))
abbrev vPs (x:List za2):V:=.t (.c (.d (.sl 3 (x.map za2.d))))
abbrev vIs (x:List Int):V:=.t (.c (.d (.sl 1 (x.map zc4))))
abbrev vZs (x:List ZI):V:=.t (.c (.d (.sl 2 (x.map ziD))))
abbrev cPs (x:List za2):C:=.d (.sl 3 (x.map za2.d))
abbrev cIs (x:List Int):C:=.d (.sl 1 (x.map zc4))
abbrev cZs (x:List ZI):C:=.d (.sl 2 (x.map ziD))
section
open Go.RowKit Go.WideShapes
def all (w:World):Im:=fun b=>w.heap[b]?
def RepN (w:World) (n:Nat) (t:TypeId) {α:Type} (f:α->List D) (good:α->Prop):Prop :=
  ∀ (H:Type) (enc:TypeId × Value->H) (base:Nat) (spare:Nat->Bool) (held:Bool) (fuel:Nat) (cs:List Value) (x:DataW H × List MemPlace),fuel<=n->DataW.trod enc eO w base spare held fuel t cs=some x->∃ a:α,good a/\zar (DR (all w)) (f a) cs
section
variable {w:World} {n:Nat} {t:TypeId} {α β:Type} {f:α->List D} {good:α->Prop}
theorem RepN.zero:RepN w 0 t f good:=fun H enc base spare held fuel cs x hn h=>by
 obtain rfl:fuel=0:=by omega
 simp [DataW.trod] at h
theorem RepN.mono (h:RepN w n t f good) (hm:m<=n):RepN w m t f good:=fun H enc base spare held fuel cs x hn hx=>h H enc base spare held fuel cs x (by omega) hx
theorem RepN.map {f':β->List D} {good':β->Prop} (h:RepN w n t f good) (g:α->β) (hf:∀ a,f' (g a)=f a) (hg:∀ a,good a->good' (g a)):RepN w n t f' good':=fun H enc base spare held fuel cs x hn hx=>by
 obtain ⟨a,h1,h2⟩:=h H enc base spare held fuel cs x hn hx
 exact ⟨g a,hg a h1,by rw [hf];exact h2⟩
theorem rep_int {k:IntKind} (hu:Tryz.prog.underlying t=some (.int k)):RepN w n t (fun v:Int=>[.raw (.int k v)]) (fun v=>(Lit.int k v).wf=true):=fun H enc base spare held fuel cs x hn hx=>by
 obtain ⟨v,rfl,_,hw⟩:=DataW.trod_int hu hx
 exact ⟨v,hw,DR.raw _ rfl,trivial⟩
theorem rep_bool (hu:Tryz.prog.underlying t=some .bool):RepN w n t boolD (fun _=>True):=fun H enc base spare held fuel cs x hn hx=>by
 obtain ⟨v,rfl,_⟩:=DataW.trod_bool hu hx
 exact ⟨v,trivial,DR.raw _ rfl,trivial⟩
theorem rep_i64 (hu:Tryz.prog.underlying t=some (.int .i64)):RepN w n t zc4 (fun v=>-9223372036854775808<=v/\v<=9223372036854775807) :=
 (rep_int hu).map id (fun _=>rfl) fun v h=>by have:=bounds_i64 h;simp only [id];omega
theorem rep_u32 (hu:Tryz.prog.underlying t=some (.int .u32)):RepN w n t (fun v:Nat=>[.raw (.int .u32 (v:Int))]) (fun v=>v<4294967296):=fun H enc base spare held fuel cs x hn hx=>by
 obtain ⟨v,rfl,_,hw⟩:=DataW.trod_int hu hx
 have:=bounds_u32 hw
 refine ⟨v.toNat,by omega,?_,trivial⟩
 rw [Int.toNat_of_nonneg (by omega)]
 exact DR.raw _ rfl
theorem listOf {P:Nat->α->Prop}:∀ (len:Nat),(∀ i,i<len->∃ a,P i a)->∃ xs:List α,xs.length=len/\∀ i x,xs[i]?=some x->P i x
 | 0,_=>⟨[],rfl,fun i x h=>by simp at h⟩
 | len+1,h=>by
  obtain ⟨xs,h1,h2⟩:=listOf len fun i hi=>h i (by omega)
  obtain ⟨a,ha⟩:=h len (by omega)
  refine ⟨xs++[a],by simp [h1],fun i x hx=>?_⟩
  by_cases hi:i<xs.length
  ·rw [cY hi] at hx;exact h2 i x hx
  ·have hl:=(bE.1 hx).1
   simp only [bC,bN,cD] at hl
   have e:i=xs.length:=by omega
   subst e
   simp at hx
   subst hx
   rw [h1];exact ha
theorem cell_at (h:w.cell? ⟨b,o,none⟩=some v):∃ arr ty fz,w.heap[b]?=some (.cells arr ty fz)/\arr[o]?=some v:=by
 unfold World.cell? at h
 split at h
 ·rename_i cs ty fz hb
  exact ⟨cs,ty,fz,hb,by simpa using h⟩
 ·cases h
theorem rep_slice {e:TypeId} (hu:Tryz.prog.underlying t=some (.slice e)) (hc:Tryz.prog.cellsOf e=k) (hk:0<k) (hl:∀ a,(f a).length=k) (he:RepN w n e f good):RepN w n t (slD k f) (fun xs=>xs.length<=maxLen/\∀ x ∈ xs,good x):=fun H enc base spare held fuel cs x hn hx=>by
 rcases DataW.trod_slice hu hx with ⟨rfl,_⟩ | ⟨a,len,cap,elems,rest,m,rfl,rfl,_,_,h2,h3,h4,h5,_,_⟩
 ·exact ⟨[],⟨bL _,by simp⟩,DR.nil _ _ _ (fun _=>rfl) (bL _),trivial⟩
 ·rw [hc] at h5
  obtain ⟨xs,hxl,hxs⟩:=listOf (P:=fun i (y:α)=>good y/\∃ cs', w.cells? base (a.add (i*k)) k=some cs'/\zar (DR (all w)) (f y) cs') len fun i hi=>by
   have h6:=h5 i hi
   rw [bF (by omega)] at h6
   obtain ⟨cs', g1,g2⟩:=Option.bind_eq_some_iff.1 h6
   obtain ⟨y,g3,g4⟩:=he H enc base spare held m cs' _ (by omega) g2
   exact ⟨y,g3,cs', g1,g4⟩
  refine ⟨xs,⟨by omega,fun y hy=>?_⟩,?_,trivial⟩
  ·obtain ⟨i,hi⟩:=dQ.1 hy
   exact (hxs i y hi).1
  ·show DR (all w) (.sl k (xs.map f)) _
   rcases Nat.eq_zero_or_pos len with h0 | h0
   ·subst h0
    have:xs=[]:=cJ.1 hxl
    subst this
    exact DR.nil _ _ _ (fun e=>by cases e) h3
   ·have cells:∀ i y,xs[i]?=some y->∀ j,j<k->∃ v d,w.cell? ((a.add (i*k)).add j)=some v/\(f y)[j]?=some d/\DR (all w) d v:=fun i y hy j hj=>by
     obtain ⟨_,cs', g1,g2⟩:=hxs i y hy
     obtain ⟨_,g4,g5⟩:=World.cells?_some g1
     obtain ⟨v,g6,g7⟩:=g2.get j (by rw [hl];exact hj)
     exact ⟨v,_,by rw [g5 j hj];exact g6,bF (by rw [hl];exact hj),g7⟩
    obtain ⟨y0,hy0⟩:∃ y,xs[0]?=some y:=⟨_,bF (by omega)⟩
    obtain ⟨v0,_,c0,_,_⟩:=cells 0 y0 hy0 0 hk
    obtain ⟨b,o,sp⟩:=a
    have hsp:sp=none:=by
     have:=World.cell?_spot c0
     simpa [Addr.add] using this
    subst hsp
    have c0':w.cell? ⟨b,o,none⟩=some v0:=by simpa [Addr.add_mid] using c0
    obtain ⟨arr,ty,fz,hb,_⟩:=cell_at c0'
    have at_:∀ i y,xs[i]?=some y->∀ j,j<k->∃ v d,arr[o+i*k+j]?=some v/\(f y)[j]?=some d/\DR (all w) d v:=fun i y hy j hj=>by
     obtain ⟨v,d,g1,g2,g3⟩:=cells i y hy j hj
     rw [Addr.add_mid,Addr.add_mid] at g1
     obtain ⟨arr', ty', fz', hb', g4⟩:=cell_at g1
     rw [hb] at hb'
     injection hb' with hb'
     injection hb' with e1
     subst e1
     exact ⟨v,d,g4,g2,g3⟩
    have:=DR.sl (H:=all w) k (xs.map f) b o cap arr ty fz (fun i j=>(arr[o+i*k+j]?).getD v0) (by rw [bK];omega) hb (by rw [bK];omega) h3 (fun i hi=>by rw [eC];exact hl _)
     (fun i hi j hj=>by
      have hi':i<xs.length:=by simpa using hi
      obtain ⟨v,d,g1,_,_⟩:=at_ i xs[i] (bF hi') j hj
      rw [g1];rfl)
     (fun i hi j hj=>by
      have hi':i<xs.length:=by simpa using hi
      have hj':j<k:=by rw [eC,hl] at hj;exact hj
      obtain ⟨v,d,g1,g2,g3⟩:=at_ i xs[i] (bF hi') j hj'
      have e1:((xs.map f)[i])[j]?=some d:=by rw [eC];exact g2
      rw [bF hj] at e1
      injection e1 with e1
      rw [e1,g1];exact g3)
    rwa [bK,hxl] at this
def FsN (w:World) (n:Nat) (fs:List Field) (o k:Nat) {α:Type} (f:α->List D) (good:α->Prop):Prop :=
  ∀ (H:Type) (enc:TypeId × Value->H) (base:Nat) (spare:Nat->Bool) (held:Bool) (cs:List Value),(∀ fl ∈ fs,∃ m x,m<=n/\DataW.trod enc eO w base spare held m fl.type ((cs.drop fl.offset).take (Tryz.prog.cellsOf fl.type))=some x)->o+k=cs.length->∃ a:α,good a/\zar (DR (all w)) (f a) (cs.drop o)
theorem FsN.nil:FsN w n [] o 0 (fun _:Unit=>[]) (fun _=>True):=fun H enc base spare held cs _ hl=>⟨(),trivial,by rw [dV (by omega)];trivial⟩
theorem FsN.cons {fl:Field} {fs:List Field} {k0 k1:Nat} {f1:β->List D} {good1:β->Prop} (ho:fl.offset=o) (hc:Tryz.prog.cellsOf fl.type=k0) (h0:RepN w n fl.type f good) (h1:FsN w n fs (o+k0) k1 f1 good1) :
  FsN w n (fl :: fs) o (k0+k1) (fun p:α × β=>f p.1++f1 p.2) (fun p=>good p.1/\good1 p.2):=fun H enc base spare held cs hf hl=>by
 obtain ⟨m,x,hm,hx⟩:=hf fl (by simp)
 rw [ho,hc] at hx
 obtain ⟨a,g1,g2⟩:=h0 H enc base spare held m _ x hm hx
 obtain ⟨b,g3,g4⟩:=h1 H enc base spare held cs (fun fl' h'=>hf fl' (by simp [h'])) (by omega)
 refine ⟨(a,b),⟨g1,g3⟩,?_⟩
 have e:cs.drop o=(cs.drop o).take k0++cs.drop (o+k0):=by rw [<- List.drop_drop,eE]
 rw [e]
 exact g2.append g4
theorem rep_struct {fs:Array Field} (hu:Tryz.prog.underlying t=some (.struct fs)) (hc:Tryz.prog.cellsOf t=k) (h:FsN w n fs.toList 0 k f good):RepN w (n+1) t f good:=fun H enc base spare held fuel cs x hn hx=>by
 obtain ⟨xs,m,rfl,_,h2,h3,h4⟩:=DataW.trod_struct hu hx
 obtain ⟨a,g1,g2⟩:=h H enc base spare held cs (fun fl hfl=>by
  obtain ⟨i,hi⟩:=dQ.1 hfl
  have hi':fs[i]?=some fl:=by simpa using hi
  have:=h4 i fl hi'
  have hlt:i<xs.length:=by rw [h3];exact (dC.1 hi').1
  rw [bF hlt] at this
  exact ⟨m,_,by omega,this⟩) (by rw [h2,hc];omega)
 exact ⟨a,g1,by simpa using g2⟩
theorem rep_one {e:TypeId} {g:α->D} (hu:Tryz.prog.underlying t=some (.slice e)) (hr:∀ n,RepN w n t (fun a=>[g a]) good) {H:Type} {enc:TypeId × Value->H} {base:Nat} {spare:Nat->Bool} {held:Bool} {r:Reach} {b0:Nat} {d:DataW H} {p:List MemPlace} (hv:Value.okWide eO w r b0 t v) (h:DataW.Trod enc eO w base spare held t v d p) :
  ∃ (a:α) (ao:Option Addr) (len cap:Nat),good a/\v = .slice ao len cap/\DR (all w) (g a) v:=by
 obtain ⟨ao,len,cap,rfl⟩:=okWide_slice hu hv
 obtain ⟨fuel,hf⟩:=h
 obtain ⟨a,g1,g2⟩:=hr fuel H enc base spare held fuel _ _ (bS _) hf
 exact ⟨a,ao,len,cap,g1,rfl,g2.1⟩
end
theorem Fn.calls {k:FuncId} {args:List V} {vals:List Value} {w:World} (h:Fn eO k [] args (vb true) []) (ha:∀ B,zar (VR (all w) B) args vals) (ht:TabH (all w):=by exact trivial):Calls eO k ⟨vals⟩ w (GotP (.bool true) w):=by
 refine (h w (all w) (fun _=>none) vals ⟨fun b o hb=>hb,fun p hp=>(by cases hp),fun p hp=>(by cases hp),fun p hp=>(by cases hp),ha _,ht⟩).mono ?_
 rintro en w' ⟨v,H', B', rfl,post⟩
 have:=VR.rawI post.res
 subst this
 exact ⟨rfl,post.ext.os,post.ext.tape,post.ext.output,post.ext.size,fun b hb=>post.ext.block b hb (by rintro ⟨p,hp,_⟩;cases hp)⟩
section
variable {w:World} {n:Nat}
theorem rep_Nat:RepN w n 31 (fun zs=>[nsl zs]) Lb :=
 (rep_slice (k:=1) (f:=fun v:Nat=>[D.raw (.int .u32 (v:Int))]) Tryz.underlying31 (by kernel_rfl) (by decide) (fun _=>rfl) (rep_u32 Tryz.underlying79)).map id (fun _=>rfl) fun zs h z hz=>h.2 z hz
theorem rep_ZI:RepN w n 33 ziD (fun x=>Lb x.abs) :=
 ((rep_struct (n:=n) Tryz.underlying33 (by kernel_rfl) (.cons (k0:=1) rfl (by kernel_rfl) (rep_bool Tryz.underlying4) (.cons (k0:=1) rfl (by kernel_rfl) rep_Nat .nil))).map (fun p=>⟨p.1,p.2.1⟩) (fun _=>rfl) fun _ h=>h.2.1).mono (Nat.le_succ n)
def TLb (t:zax):Prop:=Lb t.k.abs/\∀ p ∈ t.parts,Lb p.c.abs
end
end
end S
end Go.Proofs.YtakmnjihdfgolaaGreat
section
namespace Go.Proofs
open Go.Shelf
def Tryz.lays189_ren:Go.Shelf.Ren:=⟨fun | 189=>21 | 125=>44 | 257=>43 | 128=>88 | 129=>89 | 294=>79 | 295=>80 | 296=>81 | 297=>82 | 298=>83 | 299=>84 | 216=>85 | 300=>86 | 301=>87 | 328=>109 | 329=>110 | 330=>111 | 331=>112 | 332=>113 | 215=>105 | 343=>125 | n=>n,fun | 28=>52 | 3=>3 | 46=>85 | 0=>0 | 51=>79 | 53=>100 | 4=>4 | 183=>112 | 182=>111 | 131=>25 | 5=>5 | 9=>9 | 218=>131 | 222=>135 | 228=>146 | 229=>147 | n=>n,fun | n=>n⟩

theorem Tryz.lays189:Go.Proofs.Lays.n189 eO Tryz.lays189_ren:={
 mixed:=by kernel_rfl
 f125:=Tryz.func44.trans (congrArg some (by kernel_rfl))
 f128:=Tryz.func88.trans (congrArg some (by kernel_rfl))
 f129:=Tryz.func89.trans (congrArg some (by kernel_rfl))
 f189:=Tryz.func21.trans (congrArg some (by kernel_rfl))
 f215:=Tryz.func105.trans (congrArg some (by kernel_rfl))
 f216:=Tryz.func85.trans (congrArg some (by kernel_rfl))
 f257:=Tryz.func43.trans (congrArg some (by kernel_rfl))
 f294:=Tryz.func79.trans (congrArg some (by kernel_rfl))
 f295:=Tryz.func80.trans (congrArg some (by kernel_rfl))
 f296:=Tryz.func81.trans (congrArg some (by kernel_rfl))
 f297:=Tryz.func82.trans (congrArg some (by kernel_rfl))
 f298:=Tryz.func83.trans (congrArg some (by kernel_rfl))
 f299:=Tryz.func84.trans (congrArg some (by kernel_rfl))
 f300:=Tryz.func86.trans (congrArg some (by kernel_rfl))
 f301:=Tryz.func87.trans (congrArg some (by kernel_rfl))
 f328:=Tryz.func109.trans (congrArg some (by kernel_rfl))
 f329:=Tryz.func110.trans (congrArg some (by kernel_rfl))
 f330:=Tryz.func111.trans (congrArg some (by kernel_rfl))
 f331:=Tryz.func112.trans (congrArg some (by kernel_rfl))
 f332:=Tryz.func113.trans (congrArg some (by kernel_rfl))
 f343:=Tryz.func125.trans (congrArg some (by kernel_rfl))
 t0:=Tryz.underlying0
 a0:=Tryz.isAgg0
 z0:=Tryz.sizeOf0
 v0:=Tryz.zeroValue0
 t3:=Tryz.underlying3
 a3:=Tryz.isAgg3
 z3:=Tryz.sizeOf3
 v3:=Tryz.zeroValue3
 t4:=Tryz.underlying4
 a4:=Tryz.isAgg4
 z4:=Tryz.sizeOf4
 v4:=Tryz.zeroValue4
 t5:=Tryz.underlying5
 a5:=Tryz.isAgg5
 z5:=Tryz.sizeOf5
 v5:=Tryz.zeroValue5
 t9:=Tryz.underlying9
 a9:=Tryz.isAgg9
 z9:=Tryz.sizeOf9
 v9:=Tryz.zeroValue9
 t28:=Tryz.underlying52
 a28:=Tryz.isAgg52
 z28:=Tryz.sizeOf52
 v28:=Tryz.zeroValue52
 t46:=Tryz.underlying85
 a46:=Tryz.isAgg85
 z46:=Tryz.sizeOf85
 v46:=Tryz.zeroValue85
 t51:=Tryz.underlying79
 a51:=Tryz.isAgg79
 z51:=Tryz.sizeOf79
 v51:=Tryz.zeroValue79
 t53:=Tryz.underlying100
 a53:=Tryz.isAgg100
 z53:=Tryz.sizeOf100
 v53:=Tryz.zeroValue100
 t131:=Tryz.underlying25
 a131:=Tryz.isAgg25
 z131:=Tryz.sizeOf25
 v131:=Tryz.zeroValue25
 t182:=Tryz.underlying111
 a182:=Tryz.isAgg111
 z182:=Tryz.sizeOf111
 v182:=Tryz.zeroValue111
 t183:=Tryz.underlying112
 a183:=Tryz.isAgg112
 z183:=Tryz.sizeOf112
 v183:=Tryz.zeroValue112
 t218:=Tryz.underlying131
 a218:=Tryz.isAgg131
 z218:=Tryz.sizeOf131
 v218:=Tryz.zeroValue131
 t222:=Tryz.underlying135
 a222:=Tryz.isAgg135
 z222:=Tryz.sizeOf135
 v222:=Tryz.zeroValue135
 t228:=Tryz.underlying146
 a228:=Tryz.isAgg146
 z228:=Tryz.sizeOf146
 v228:=Tryz.zeroValue146
 t229:=Tryz.underlying147
 a229:=Tryz.isAgg147
 z229:=Tryz.sizeOf147
 v229:=Tryz.zeroValue147 }

open Go.Sort Go.RowKit in
theorem Tryz.slices_Sort_int (blk off cap:Nat) (zs:List Int) (w:World) (hH:Holds (Value.int .i64) w blk off zs.toArray) (hblk:blk<w.heap.size) (hsz:zs.length<4611686018427387904) :
  Calls eO 21 #[.slice (some ⟨blk,off,none⟩) zs.length cap] w fun e w' =>
   e = .returned (.tuple #[])/\∃ n os,w'=grow (putRow (Value.int .i64) (Sort.ahead w n) blk off (zs.mergeSort fun x y=>decide (x<=y)).toArray) os:=Any.slices_Sort_int Tryz.lays189 blk off cap zs w hH hblk hsz

def Tryz.laysNm220_ren:Go.Shelf.Ren:=⟨fun | 20=>22 | n=>n,fun | 22=>52 | 3=>3 | 4=>4 | 0=>0 | n=>n,fun | n=>n⟩

theorem Tryz.laysNm220:Go.Proofs.Lays2.n20 eO Tryz.laysNm220_ren:={
 mixed:=by kernel_rfl
 f20:=Tryz.func22.trans (congrArg some (by kernel_rfl))
 t0:=Tryz.underlying0
 a0:=Tryz.isAgg0
 z0:=Tryz.sizeOf0
 v0:=Tryz.zeroValue0
 t3:=Tryz.underlying3
 a3:=Tryz.isAgg3
 z3:=Tryz.sizeOf3
 v3:=Tryz.zeroValue3
 t4:=Tryz.underlying4
 a4:=Tryz.isAgg4
 z4:=Tryz.sizeOf4
 v4:=Tryz.zeroValue4
 t22:=Tryz.underlying52
 a22:=Tryz.isAgg52
 z22:=Tryz.sizeOf52
 v22:=Tryz.zeroValue52
 i3:=by kernel_rfl }

open Go.RowKit Go.Lib Go.Sort in
theorem Tryz.slices_Compact_int (blk off cap:Nat) (zs:List Int) (w:World) (hH:Holds (Value.int .i64) w blk off zs.toArray) (hsz:zs.length<=9223372036854775807) (hcap:zs.length<=cap) :
  Calls eO 22 #[.slice (some ⟨blk,off,none⟩) zs.length cap] w fun e w'=>e = .returned (.slice (some ⟨blk,off,none⟩) (Lib.compact zs).length cap)/\∃ q,w'=putRow (Value.int .i64) (Sort.ahead w q) blk off (Lib.compact zs++List.replicate (zs.length - (Lib.compact zs).length) 0).toArray:=Any.slices_Compact_int Tryz.laysNm220 blk off cap zs w hH hsz hcap

open Go.RowKit Go.Lib Go.Sort in
theorem Tryz.slices_Compact_int_empty (a:Option Addr) (cap:Nat) (w:World) :
  Calls eO 22 #[.slice a 0 cap] w fun e w'=>e = .returned (.slice a 0 cap)/\w'=w:=Any.slices_Compact_int_empty Tryz.laysNm220 a cap w

open Go.RowKit Go.Sort in
theorem Tryz.slices_Sort_int_none (p:Option Addr) (cap:Nat) (w:World) :
  Calls eO 21 #[.slice p 0 cap] w fun e w'=>e = .returned (.tuple #[])/\w'=w:=Any.slices_Sort_int_none Tryz.lays189 p cap w

end Go.Proofs
end
namespace Go.Proofs.YtakmnjihdfgolaaGreat
namespace S
variable {x y:Operand} {rs rs' sl:List (Nat × V)} {xt yt ty el rty:TypeId} {n j n' m fo k i q t l h es off N:Nat} {z:Int} {ps post X Y p:List za2} {α β:Type} {e:E} {f:F} {H H0:Im} {B B0:Bl} {a:Act} {ao:Option Addr} {rows rows':List (List D)} {v:Value} {w0:World} {K:List Nat} {Q:Exit->Act->World->Prop} {lc:List (Nat × L)}
section
variable {P:Program}
theorem Op.quo {d:Nat} {k:IntKind} {m n r:Int} {pos af gd} (h:OV x (vi k m) rs) (h':OV y (vi k n) rs') (hn:n≠0) (he:m.tdiv n=r) (hr:k.wrap r=r) :
  zav P ⟨some d,.binOp .quo xt x y yt,ty,pos,af,gd⟩ { rs:=rs++rs', ws:=[(d,some (vi k r))] }:=by
 refine Op.raw2 rfl h h' rfl fun ρ w h1 h2=>?_
 simp [execOp,h1,h2,eqGuard,binOp,Op.intDiv,hn,he,hr,go_sem]
theorem Op.rem {d:Nat} {k:IntKind} {m n r:Int} {pos af gd} (h:OV x (vi k m) rs) (h':OV y (vi k n) rs') (hn:n≠0) (he:m.tmod n=r) :
  zav P ⟨some d,.binOp .rem xt x y yt,ty,pos,af,gd⟩ { rs:=rs++rs', ws:=[(d,some (vi k r))] }:=by
 refine Op.raw2 rfl h h' rfl fun ρ w h1 h2=>?_
 simp [execOp,h1,h2,eqGuard,binOp,Op.intDiv,hn,he,go_sem]
theorem Op.shr {d:Nat} {k k':IntKind} {m r:Int} {pos af gd} (h:OV x (vi k m) rs) (h':OV y (vi k' n) rs') (hb:n<=k.bits) (he:m.fdiv (2 ^ n)=r) :
  zav P ⟨some d,.binOp .shr xt x y yt,ty,pos,af,gd⟩ { rs:=rs++rs', ws:=[(d,some (vi k r))] }:=by
 refine Op.raw2 rfl h h' rfl fun ρ w h1 h2=>?_
 have hs:Op.shift .shr k m k' n=pure (.int k r):=by
  unfold Op.shift
  rw [if_neg (by omega)]
  simp only [Int.toNat_natCast,Nat.min_eq_left hb,he]
 simp [execOp,h1,h2,eqGuard,binOp,hs,go_sem]
end
theorem ib_10:ElZ eO 31 79 1:=ElZ.mk' Tryz.underlying31 _ _ rfl rfl
theorem zc8 (n:List Nat):iv true n=-(nV n:Int):=rfl
theorem zbr (n:List Nat):iv false n=(nV n:Int):=rfl
theorem val_neg {x:ZI} (h:x.val<0):x.val=-(nV x.abs:Int):=by
 unfold ZI.val at h ⊢
 cases hn:x.neg with
 | true=>rfl
 | false=>rw [hn,zbr] at h;omega
theorem zg7 {x:ZI} (h:0<=x.val):x.val=(nV x.abs:Int):=by
 unfold ZI.val at h ⊢
 cases hn:x.neg with
 | false=>rfl
 | true=>rw [hn,zc8] at h;rw [zc8];omega
theorem zh8 (h:z<0):decide (sgn z<0)=true:=by rw [zf2 h];rfl
theorem zh9 (h:0<=z):decide (sgn z<0)=false:=decide_eq_false (mt zbd.1 (by omega))
theorem sgn_ge_t (h:0<=z):decide (sgn z>=0)=true:=decide_eq_true (by have:=mt (zbd (z:=z)).1 (by omega);omega)
theorem sgn_ge_f (h:z<0):decide (sgn z>=0)=false:=by rw [zf2 h];rfl
theorem SRAdd_pp (x y:ZI) (hx:Lb x.abs) (hy:Lb y.abs) (lx:x.abs.length<=49000) (ly:y.abs.length<=49000) (px:0<=x.val) (py:0<=y.val):Fn eO 96 [] [vz x,vz y] (vz (eS (x.val+y.val))) []:=by
 refine fB Tryz.func96 rfl 62 fun w H B a h=>Jq 0 [] [(2,vp 0 0),(3,vp 1 0),(4,vp 2 0)] [(0,.box (zi x)),(1,.box (zi y)),(2,.box [cB false,.d (nsl [])])] h fun a w h=>qW (Je 3 [(1,.call (zcq x hx (by omega))),(2,.cmp (op:=.lss) (m:=(sgn x.val)) (n:=0) (b:=false) .i64 (zh9 px))] [] [(14,vb false)] h fun a w h=>zca h (qU (za3 (qW (Je 3 [(1,.call (zcq x hx (by omega))),(2,.cmp (op:=.geq) (m:=(sgn x.val)) (n:=0) (b:=true) .i64 (sgn_ge_t px)),(5,.call (zcq y hy (by omega))),(6,.cmp (op:=.geq) (m:=(sgn y.val)) (n:=0) (b:=true) .i64 (sgn_ge_t py))] [14] [(28,vb true)] h fun a w h=>cS true h (fun _=>?_) nofun)))))
 obtain ⟨n4,en4,vn4,on4,ln4⟩:=mkN (v:=nV x.abs+nV y.abs) (m:=x.abs.length+y.abs.length+1) (nadd_lt hx hy);obtain ⟨r5,er5,vr5,or5,lr5⟩:=mkZ (v:=iv false n4) (m:=n4.length) (zc0 on4);refine Jg 3 [(4,.call (eP (SRnAdd x.abs y.abs hx hy (by omega) (by omega)) (congrArg vn en4.symm))),(5,.call (eP (zh1 false n4 on4 (by omega)) (congrArg vz er5.symm)))] [28] [] [] [(2,.box (zi r5))] h fun a w h=>qV (zae (rA 2 (zi r5) h zct rfl (congrArg (fun z=>vz z) (er5.trans (congrArg eS ?_)))));have ax:=zg7 (x:=x) px;have ay:=zg7 (x:=y) py
 (try simp only [zc8])
 (try simp only [zbr])
 omega
theorem SRAdd_nn (x y:ZI) (hx:Lb x.abs) (hy:Lb y.abs) (lx:x.abs.length<=49000) (ly:y.abs.length<=49000) (px:x.val<0) (py:y.val<0):Fn eO 96 [] [vz x,vz y] (vz (eS (x.val+y.val))) []:=by
 refine fB Tryz.func96 rfl 62 fun w H B a h=>Jq 0 [] [(2,vp 0 0),(3,vp 1 0),(4,vp 2 0)] [(0,.box (zi x)),(1,.box (zi y)),(2,.box [cB false,.d (nsl [])])] h fun a w h=>qW (Je 3 [(1,.call (zcq x hx (by omega))),(2,.cmp (op:=.lss) (m:=(sgn x.val)) (n:=0) (b:=true) .i64 (zh8 px)),(5,.call (zcq y hy (by omega))),(6,.cmp (op:=.lss) (m:=(sgn y.val)) (n:=0) (b:=true) .i64 (zh8 py))] [] [(14,vb true)] h fun a w h=>cS true h (fun _=>?_) nofun)
 obtain ⟨n3,en3,vn3,on3,ln3⟩:=mkN (v:=nV x.abs+nV y.abs) (m:=x.abs.length+y.abs.length+1) (nadd_lt hx hy);obtain ⟨r4,er4,vr4,or4,lr4⟩:=mkZ (v:=iv true n3) (m:=n3.length) (zc0 on3);refine Jg 3 [(4,.call (eP (SRnAdd x.abs y.abs hx hy (by omega) (by omega)) (congrArg vn en3.symm))),(5,.call (eP (zh1 true n3 on3 (by omega)) (congrArg vz er4.symm)))] [14] [] [] [(2,.box (zi r4))] h fun a w h=>qV (zae (rA 2 (zi r4) h zct rfl (congrArg (fun z=>vz z) (er4.trans (congrArg eS ?_)))));have ax:=val_neg (x:=x) px;have ay:=val_neg (x:=y) py
 (try simp only [zc8])
 (try simp only [zbr])
 omega
theorem SRAdd_pn (x y:ZI) (hx:Lb x.abs) (hy:Lb y.abs) (lx:x.abs.length<=49000) (ly:y.abs.length<=49000) (px:0<=x.val) (py:y.val<0):Fn eO 96 [] [vz x,vz y] (vz (eS (x.val+y.val))) []:=by
 refine fB Tryz.func96 rfl 62 fun w H B a h=>Jq 0 [] [(2,vp 0 0),(3,vp 1 0),(4,vp 2 0)] [(0,.box (zi x)),(1,.box (zi y)),(2,.box [cB false,.d (nsl [])])] h fun a w h=>qW (Je 3 [(1,.call (zcq x hx (by omega))),(2,.cmp (op:=.lss) (m:=(sgn x.val)) (n:=0) (b:=false) .i64 (zh9 px))] [] [(14,vb false)] h fun a w h=>zca h (qU (za3 (qW (Je 3 [(1,.call (zcq x hx (by omega))),(2,.cmp (op:=.geq) (m:=(sgn x.val)) (n:=0) (b:=true) .i64 (sgn_ge_t px)),(5,.call (zcq y hy (by omega))),(6,.cmp (op:=.geq) (m:=(sgn y.val)) (n:=0) (b:=false) .i64 (sgn_ge_f py))] [14] [(28,vb false)] h fun a w h=>zca h (qU (za3 (qW (Je 3 [(1,.call (zcq x hx (by omega))),(2,.cmp (op:=.lss) (m:=(sgn x.val)) (n:=0) (b:=false) .i64 (zh9 px))] [28] [(37,vb false)] h fun a w h=>zca h (qU (za3 ?_)))))))))))
 obtain ⟨n5,en5,vn5,on5,ln5⟩:=mkN (v:=nV x.abs - nV y.abs) (m:=x.abs.length) (dS (dU _ _) (zau hx));refine Je 3 [(4,.call (eP (SRnSub x.abs y.abs hx hy (by omega) (by omega)) (show _=(.tup [.c (.d (nsl n5)),.c (cB (decide (nV y.abs<=nV x.abs)))]:V) by rw [en5])))] [37] [(5,vn n5),(6,vb (decide (nV y.abs<=nV x.abs)))] h fun a w h=>qW (Je 3 [] [6] [(49,vb (decide (nV y.abs<=nV x.abs)))] h fun a w h=>zaj (nV y.abs<=nV x.abs) h (fun hc1 hc1'=>?_) (fun hc2 hc2'=>?_))
 ·obtain ⟨r6,er6,vr6,or6,lr6⟩:=mkZ (v:=iv false n5) (m:=n5.length) (zc0 on5);refine Jg 3 [(1,.call (eP (zh1 false n5 on5 (by omega)) (congrArg vz er6.symm)))] [49] [] [] [(2,.box (zi r6))] h fun a w h=>qV (zae (rA 2 (zi r6) h zct rfl (congrArg (fun z=>vz z) (er6.trans (congrArg eS ?_)))));have ax:=zg7 (x:=x) px;have ay:=val_neg (x:=y) py
  (try simp only [zc8])
  (try simp only [zbr])
  omega
 refine qU (za3 ?_);obtain ⟨n7,en7,vn7,on7,ln7⟩:=mkN (v:=nV y.abs - nV x.abs) (m:=y.abs.length) (dS (dU _ _) (zau hy));refine Jg 3 [(4,.call (eP (SRnSub y.abs x.abs hy hx (by omega) (by omega)) (show _=(.tup [.c (.d (nsl n7)),.c (cB (decide (nV x.abs<=nV y.abs)))]:V) by rw [en7])))] [2,3,49] [(5,vn n7)] [0,1] [] h fun a w h=>?_;obtain ⟨r8,er8,vr8,or8,lr8⟩:=mkZ (v:=iv true n7) (m:=n7.length) (zc0 on7);refine Jd 3 [(1,.call (eP (zh1 true n7 on7 (by omega)) (congrArg vz er8.symm)))] [5] [] [(2,.box (zi r8))] h fun a w h=>qV (rA 2 (zi r8) h zct rfl (congrArg (fun z=>vz z) (er8.trans (congrArg eS ?_))));have ax:=zg7 (x:=x) px;have ay:=val_neg (x:=y) py
 (try simp only [zc8])
 (try simp only [zbr])
 omega
theorem SRAdd_np (x y:ZI) (hx:Lb x.abs) (hy:Lb y.abs) (lx:x.abs.length<=49000) (ly:y.abs.length<=49000) (px:x.val<0) (py:0<=y.val):Fn eO 96 [] [vz x,vz y] (vz (eS (x.val+y.val))) []:=by
 refine fB Tryz.func96 rfl 62 fun w H B a h=>Jq 0 [] [(2,vp 0 0),(3,vp 1 0),(4,vp 2 0)] [(0,.box (zi x)),(1,.box (zi y)),(2,.box [cB false,.d (nsl [])])] h fun a w h=>qW (Je 3 [(1,.call (zcq x hx (by omega))),(2,.cmp (op:=.lss) (m:=(sgn x.val)) (n:=0) (b:=true) .i64 (zh8 px)),(5,.call (zcq y hy (by omega))),(6,.cmp (op:=.lss) (m:=(sgn y.val)) (n:=0) (b:=false) .i64 (zh9 py))] [] [(14,vb false)] h fun a w h=>zca h (qU (za3 (qW (Je 3 [(1,.call (zcq x hx (by omega))),(2,.cmp (op:=.geq) (m:=(sgn x.val)) (n:=0) (b:=false) .i64 (sgn_ge_f px))] [14] [(28,vb false)] h fun a w h=>zca h (qU (za3 (qW (Je 3 [(1,.call (zcq x hx (by omega))),(2,.cmp (op:=.lss) (m:=(sgn x.val)) (n:=0) (b:=true) .i64 (zh8 px))] [28] [(37,vb true)] h fun a w h=>cS true h (fun _=>?_) nofun)))))))))
 obtain ⟨r5,er5,vr5,or5,lr5⟩:=mkZ (v:=y.val+x.val) (m:=y.abs.length+x.abs.length+1) (zcn hy hx);refine Jg 3 [(2,.call (eP (SRAdd_pn y x hy hx ly lx py px) (congrArg vz er5.symm)))] [37] [] [] [(2,.box (zi r5))] h fun a w h=>qV (zae (rA 2 (zi r5) h zct rfl (congrArg (fun z=>vz z) (er5.trans (congrArg eS ?_)))));omega
theorem SRAdd (x y:ZI) (hx:Lb x.abs) (hy:Lb y.abs) (lx:x.abs.length<=49000) (ly:y.abs.length<=49000):Fn eO 96 [] [vz x,vz y] (vz (eS (x.val+y.val))) []:=by
 by_cases px:x.val<0 <;> by_cases py:y.val<0
 ·exact SRAdd_nn x y hx hy lx ly px py
 ·exact SRAdd_np x y hx hy lx ly px (by omega)
 ·exact SRAdd_pn x y hx hy lx ly (by omega) py
 ·exact SRAdd_pp x y hx hy lx ly (by omega) (by omega)
theorem zfk {x y:Int} (hx:-1<=x/\x<=1) (hy:-1<=y/\y<=1):-1<=x*y/\x*y<=1:=by
 have h1:x=-1\/x=0\/x=1:=by omega
 rcases h1 with rfl | rfl | rfl <;> omega
theorem zfl (x:ZI):(sgn x.val=-1/\x.val=-(nV x.abs:Int))\/(sgn x.val=0/\(nV x.abs:Int)=0/\x.val=0)\/(sgn x.val=1/\x.val=(nV x.abs:Int)):=by
 rcases Int.lt_trichotomy x.val 0 with h | h | h
 ·exact .inl ⟨zf2 h,val_neg h⟩
 ·have:=zg7 (x:=x) (by omega)
  exact .inr (.inl ⟨zdt h,by omega,h⟩)
 ·exact .inr (.inr ⟨sgn_pos h,zg7 (by omega)⟩)
theorem mul_sgn (x y:ZI) {n:List Nat} (h:nV n=nV x.abs*nV y.abs):iv (decide (sgn x.val*sgn y.val<0)) n=x.val*y.val:=by
 have hp:(nV n:Int)=(nV x.abs:Int)*(nV y.abs:Int):=by rw [h,Int.natCast_mul]
 rcases zfl x with ⟨h1,h2⟩ | ⟨h1,h2,h3⟩ | ⟨h1,h2⟩ <;> rcases zfl y with ⟨k1,k2⟩ | ⟨k1,k2,k3⟩ | ⟨k1,k2⟩ <;> rw [h1,k1]
 ·change (nV n:Int)=_;rw [h2,k2,Int.neg_mul_neg];exact hp
 ·change (nV n:Int)=_;rw [k3,hp,k2];omega
 ·change -(nV n:Int)=_;rw [h2,k2,Int.neg_mul,hp]
 ·change (nV n:Int)=_;rw [h3,hp,h2];omega
 ·change (nV n:Int)=_;rw [h3,hp,h2];omega
 ·change (nV n:Int)=_;rw [h3,hp,h2];omega
 ·change -(nV n:Int)=_;rw [h2,k2,Int.mul_neg,hp]
 ·change (nV n:Int)=_;rw [k3,hp,k2];omega
 ·change (nV n:Int)=_;rw [h2,k2];exact hp
theorem sgn_mul_range' (x y:Int):-1<=sgn x*sgn y/\sgn x*sgn y<=1:=zfk (sgn_range x) (sgn_range y)
theorem SRMul (x y:ZI) (hx:Lb x.abs) (hy:Lb y.abs) (lx:x.abs.length<=49000) (ly:y.abs.length<=49000):Fn eO 97 [] [vz x,vz y] (vz (eS (x.val*y.val))) []:=by
 refine fB Tryz.func97 rfl 17 fun w H B a h=>Jq 0 [] [(2,vp 0 0),(3,vp 1 0),(4,vp 2 0)] [(0,.box (zi x)),(1,.box (zi y)),(2,.box [cB false,.d (nsl [])])] h fun a w h=>?_
 obtain ⟨n3,en3,vn3,on3,ln3⟩:=mkN (v:=nV x.abs*nV y.abs) (m:=x.abs.length+y.abs.length) (nmul_lt hx hy);obtain ⟨r4,er4,vr4,or4,lr4⟩:=mkZ (v:=iv (decide ((sgn x.val*sgn y.val)<0)) n3) (m:=n3.length) (zc0 on3);refine Jq 3 [(1,.call (zcq x hx (by omega))),(3,.call (zcq y hy (by omega))),(4,.mul .i64 (m:=(sgn x.val)) (n:=(sgn y.val)) (i64_id (by have:=sgn_mul_range' x.val y.val;omega) (by have:=sgn_mul_range' x.val y.val;omega))),(10,.call (eP (SRnMul x.abs y.abs hx hy (by omega) (by omega)) (congrArg vn en3.symm))),(11,.call (eP (zh1 (decide ((sgn x.val*sgn y.val)<0)) n3 on3 (by omega)) (congrArg vz er4.symm)))] [(4,vp 2 0)] [(2,.box (zi r4))] h fun a w h=>qV (rA 2 (zi r4) h zct rfl (congrArg (fun z=>vz z) (er4.trans (congrArg eS ?_))));exact mul_sgn x y vn3
theorem SRSame (x y:ZI) (hx:Lb x.abs) (hy:Lb y.abs):Fn eO 19 [] [vz x,vz y] (vb (x.neg == y.neg && decide (x.abs=y.abs))) []:=by
 refine fB Tryz.func19 rfl 17 fun w H B a h=>Jq 0 [] [(2,vp 0 0),(3,vp 1 0),(4,vb false)] [(0,.box (zi x)),(1,.box (zi y))] h fun a w h=>?_
 rcases dR (x.neg == y.neg) with hc1 | hc2
 ·refine Jq 2 [(4,.cmpb .eql (m:=x.neg) (n:=y.neg) (b:=true) (.inl ⟨rfl,hc1.symm⟩)),(10,.call (SRnSame x.abs y.abs hx hy))] [(4,vb (decide (x.abs=y.abs)))] [] h fun a w h=>qV (rT (.c (cB (decide (x.abs=y.abs)))) h rfl ?_);rw [hc1];try rfl
 refine Jq 2 [(4,.cmpb .eql (m:=x.neg) (n:=y.neg) (b:=false) (.inl ⟨rfl,hc2.symm⟩))] [(4,vb false)] [] h fun a w h=>qV (rT (.c (cB false)) h rfl ?_);rw [hc2];try rfl
theorem val_one (a:Nat):nV [a]=a:=by simp [nV]
theorem val_two (a b:Nat):nV [a,b]=a+4294967296*b:=by simp [nV]
theorem SOf (E:Int) (hI:-9223372036854775808<=E/\E<=9223372036854775807):Fn eO 59 [] [vI E] (vz (eS (E))) []:=by
 refine fB Tryz.func59 rfl 16 fun w H B a h=>Jq 0 [] [(0,vI E),(2,vp 0 0)] [(0,.box [cB false,.d (nsl [])])] h fun a w h=>qW (Je 1 [] [] [(4,vb (decide (E<0)))] h fun a w h=>zaj (E<0) h (fun hc1 hc1'=>?_) (fun hc2 hc2'=>?_))
 ·obtain ⟨n1,en1,vn1,on1,ln1⟩:=mkN (v:=((-(E+1))+1).toNat) (m:=2) (by have:=pw2;omega);obtain ⟨r2,er2,vr2,or2,lr2⟩:=mkZ (v:=iv true n1) (m:=n1.length) (zc0 on1);refine Jg 1 [(1,.add .i64 (m:=E) (n:=1) i6),(2,.neg .i64 (m:=(E+1)) i6),(3,.conv .i64 .u64 (m:=(-(E+1))) (u64_id (by omega) (by omega))),(4,.add .u64 (m:=(-(E+1))) (n:=1) (u64_id (by omega) (by omega))),(5,.call (eP (SnOf ((-(E+1))+1) (by omega) (by omega)) (congrArg vn en1.symm))),(6,.call (eP (zh6 true n1 on1 (by omega)) (congrArg vz er2.symm)))] [4] [] [] [(0,.box (zi r2))] h fun a w h=>qV (zae (rA 0 (zi r2) h zct rfl (congrArg (fun z=>vz z) (er2.trans (congrArg eS ?_)))))
  (try simp only [zc8])
  (try simp only [zbr])
  omega
 refine qU (za3 ?_);obtain ⟨n3,en3,vn3,on3,ln3⟩:=mkN (v:=(E).toNat) (m:=2) (by have:=pw2;omega);obtain ⟨r4,er4,vr4,or4,lr4⟩:=mkZ (v:=iv false n3) (m:=n3.length) (zc0 on3);refine Jq 1 [(1,.conv .i64 .u64 (m:=E) (u64_id (by omega) (by omega))),(2,.call (eP (SnOf E (by omega) (by omega)) (congrArg vn en3.symm))),(3,.call (eP (zh6 false n3 on3 (by omega)) (congrArg vz er4.symm)))] [(2,vp 0 0)] [(0,.box (zi r4))] h fun a w h=>qV (rA 0 (zi r4) h zct rfl (congrArg (fun z=>vz z) (er4.trans (congrArg eS ?_))))
 (try simp only [zc8])
 (try simp only [zbr])
 omega
theorem SROf (E:Int) (hI:-9223372036854775808<=E/\E<=9223372036854775807):Fn eO 18 [] [vI E] (vz (eS (E))) []:=by
 refine fB Tryz.func18 rfl 29 fun w H B a h=>Jq 0 [] [(0,vI E),(2,vp 0 0)] [(0,.box [cB false,.d (nsl [])])] h fun a w h=>qW (Je 1 [] [] [(6,vb (decide (E>=0)))] h fun a w h=>zaj (E>=0) h (fun hc1 hc1'=>?_) (fun hc2 hc2'=>?_))
 ·obtain ⟨q0,hq0⟩:∃ z_:Nat,E % 4294967296=(z_:Int):=⟨(E % 4294967296).toNat,by omega⟩;obtain ⟨q1,hq1⟩:∃ z_:Nat,E / 4294967296=(z_:Int):=⟨(E / 4294967296).toNat,by omega⟩;obtain ⟨r1,er1,vr1,or1,lr1⟩:=mkZ (v:=iv false [q0,q1]) (m:=[q0,q1].length) (zc0 (show Lb [q0,q1] from by intro z hz;simp at hz;omega));refine Jg 1 [(1,.g (Op.rem (d:=8) (xt:=2) (yt:=2) (k:=.i64) (m:=E) (n:=4294967296) (r:=(q0:Int)) (eQ 7 _) (OV.const (.int .i64 4294967296) rfl) (by decide) ((eI (by omega)).trans hq0))),(2,.conv .i64 .u32 (m:=(q0:Int)) (u32_id (by omega) (by omega))),(4,.g (Op.quo (d:=11) (xt:=2) (yt:=2) (k:=.i64) (m:=E) (n:=4294967296) (r:=(q1:Int)) (eQ 10 _) (OV.const (.int .i64 4294967296) rfl) (by decide) ((eJ (by omega)).trans hq1) i6)),(5,.conv .i64 .u32 (m:=(q1:Int)) (u32_id (by omega) (by omega))),(6,.g (Op.buildD (d:=13) (len:=2) (rows:=[[.raw (.int .u32 (q0:Nat))],[.raw (.int .u32 (q1:Nat))]]) (rs:=[(9,vi .u32 (q0:Int)),(12,vi .u32 (q1:Int))]) ib_10 (.cons (i:=0) (eQ 9 _) (.cons (i:=1) (eQ 12 _) (.nil))) (by kernel_rfl) rfl (by simp) (by decide) (by decide))),(7,.call (eP (zh1 false [q0,q1] (show Lb [q0,q1] from by intro z hz;simp at hz;omega) (by first | omega | simp)) (congrArg vz er1.symm)))] [6] [] [] [(0,.box (zi r1))] h fun a w h=>qV (zae (rA 0 (zi r1) h zct rfl (congrArg (fun z=>vz z) (er1.trans (congrArg eS ?_)))))
  (try simp only [zc8])
  (try simp only [zbr])
  (try rw [vn1])
  (try simp only [val_two] at *)
  (try simp only [val_one] at *)
  omega
 refine qU (za3 (Jp 1 [(1,.add .i64 (m:=E) (n:=1) i6),(2,.sub .i64 (m:=0) (n:=(E+1)) i6)] [(2,vp 0 0),(3,vI (0 - (E+1)))] h fun a w h=>?_));obtain ⟨q2,hq2⟩:∃ z_:Nat,(0 - (E+1)) % 4294967296=(z_:Int):=⟨((0 - (E+1)) % 4294967296).toNat,by omega⟩;obtain ⟨q3,hq3⟩:∃ z_:Nat,(0 - (E+1)) / 4294967296=(z_:Int):=⟨((0 - (E+1)) / 4294967296).toNat,by omega⟩;refine Je 1 [(1,.g (Op.rem (d:=19) (xt:=2) (yt:=2) (k:=.i64) (m:=(0 - (E+1))) (n:=4294967296) (r:=(q2:Int)) (eQ 18 _) (OV.const (.int .i64 4294967296) rfl) (by decide) ((eI (by omega)).trans hq2))),(2,.conv .i64 .u32 (m:=(q2:Int)) (u32_id (by omega) (by omega))),(4,.g (Op.quo (d:=22) (xt:=2) (yt:=2) (k:=.i64) (m:=(0 - (E+1))) (n:=4294967296) (r:=(q3:Int)) (eQ 21 _) (OV.const (.int .i64 4294967296) rfl) (by decide) ((eJ (by omega)).trans hq3) i6)),(5,.conv .i64 .u32 (m:=(q3:Int)) (u32_id (by omega) (by omega))),(6,.g (Op.buildD (d:=24) (len:=2) (rows:=[[.raw (.int .u32 (q2:Nat))],[.raw (.int .u32 (q3:Nat))]]) (rs:=[(20,vi .u32 (q2:Int)),(23,vi .u32 (q3:Int))]) ib_10 (.cons (i:=0) (eQ 20 _) (.cons (i:=1) (eQ 23 _) (.nil))) (by kernel_rfl) rfl (by simp) (by decide) (by decide)))] [3] [(4,vn [q2,q3])] h fun a w h=>?_;obtain ⟨n2,en2,vn2,on2,ln2⟩:=mkN (v:=nV [q2,q3]+nV [1]) (m:=4) (nadd_lt (xs:=[q2,q3]) (ys:=[1]) (show Lb [q2,q3] from by intro z hz;simp at hz;omega) (show Lb [1] from by intro z hz;simp at hz;omega));obtain ⟨r3,er3,vr3,or3,lr3⟩:=mkZ (v:=iv true n2) (m:=n2.length) (zc0 on2);refine Jd 1 [(1,.g (Op.buildD (d:=26) (len:=1) (rows:=[[.raw (.int .u32 (1:Nat))]]) (rs:=[]) ib_10 (.cons (i:=0) (OV.const (.int .u32 1) rfl) (.nil)) (by kernel_rfl) rfl (by simp) (by decide) (by decide))),(2,.call (eP (SRnAdd [q2,q3] [1] (show Lb [q2,q3] from by intro z hz;simp at hz;omega) (show Lb [1] from by intro z hz;simp at hz;omega) (by simp) (by simp)) (congrArg vn en2.symm))),(3,.call (eP (zh1 true n2 on2 (by first | omega | simp)) (congrArg vz er3.symm)))] [4] [] [(0,.box (zi r3))] h fun a w h=>qV (rA 0 (zi r3) h zct rfl (congrArg (fun z=>vz z) (er3.trans (congrArg eS ?_))))
 (try simp only [zc8])
 (try simp only [zbr])
 (try rw [vn2])
 (try simp only [val_two] at *)
 (try simp only [val_one] at *)
 omega
theorem zbx:SlT eO 39 61 3:=SlT.mk' Tryz.underlying39 (by kernel_rfl)
def zaf:List za2->Int->Int
  | [],_=>0
  | p :: ps,v=>(if p.v=v/\0<=v then p.c.val else 0)+zaf ps v
theorem zdp (ps qs:List za2) (v:Int):zaf (ps++qs) v=zaf ps v+zaf qs v:=by
 induction ps with
 | nil=>simp [zaf]
 | cons p ps ih=>simp only [cF,zaf,ih];omega
theorem zcy {p:za2} (h:ps[j]?=some p) (v:Int):zaf (ps.take (j+1)) v=zaf (ps.take j) v+(if p.v=v/\0<=v then p.c.val else 0):=by
 have:ps.take (j+1)=ps.take j++[p]:=by rw [cN,h];rfl
 rw [this,zdp];simp [zaf]
def PsOk (L:Nat) (ps:List za2):Prop:=ps.length<=1000000000/\∀ p ∈ ps,Lb p.c.abs/\p.c.abs.length<=L
theorem PsOk.take {L:Nat} (h:PsOk L ps) (j:Nat):PsOk L (ps.take j):=⟨by rw [bJ];have:=h.1;omega,fun p hp=>h.2 p (dP hp)⟩
theorem PsOk.get {L:Nat} (h:PsOk L ps) {p:za2} (hp:ps[j]?=some p):Lb p.c.abs/\p.c.abs.length<=L:=h.2 p (bV hp)
theorem zfx {L:Nat}:∀ {ps:List za2}, (∀ p ∈ ps,Lb p.c.abs/\p.c.abs.length<=L)->∀ v,(zaf ps v).natAbs<=ps.length*pw L
 | [],_,v=>by simp [zaf]
 | p :: ps,h,v=>by
  have ih:=zfx (fun q hq=>h q (by simp [hq])) v (ps:=ps)
  obtain ⟨h1,h2⟩:=h p (by simp)
  have h3:=ZI.abs_lt h1
  have h4:=zd2 h2
  simp only [zaf,bN,bU]
  split <;> omega
theorem zde {L:Nat} (h:PsOk L ps) (v:Int):(eS (zaf ps v)).abs.length<=L+1:=by
 refine ZI.len_of ?_
 have h1:=zfx h.2 v
 have h2:ps.length*pw L<=1000000000*pw L:=bP _ h.1
 have h3:=ze9 L
 rw [zai]
 omega
theorem SCoef (t:zax) (v:Int) (ht:PsOk 40000 t.parts):Fn eO 98 [] [(vT t),vI v] (vz (eS (zaf t.parts v))) []:=by
 refine fB Tryz.func98 rfl 36 fun w H B a h=>Jq 0 [] [(1,vI v),(2,vp 0 0),(4,vp 1 0)] [(0,.box (zT t)),(1,.box [cB false,.d (nsl [])])] h fun a w h=>Jg 2 [] [] [(5,vp 2 0)] [] [(2,.box [cB false,.d (nsl [])])] h fun a w h=>qW (Je 3 [] [] [(6,vI 0)] h fun a w h=>qZ ?_)
 refine zd3 (ι:=(Nat) × (ZI)) (fun (j,out)=>out=eS (zaf (t.parts.take j) v)/\j<=t.parts.length)
   [] (fun (j,out)=>[(6,vN j)])
   [] (fun (j,out)=>[(2,.box (zi out))])
   (fun (j,out)=>t.parts.length - j) (0,(eS 0)) ?_ h ?_
 ·exact ⟨by simp [zaf],bL _⟩
 clear h;rintro ⟨j,out⟩ a w hI h;dsimp only at h;obtain ⟨hI1,hI2⟩:=hI;have ln:=ht.1;have lo:out.abs.length<=40001:=by rw [hI1];exact zde (ht.take j) v
 have ho:Lb out.abs:=by rw [hI1];exact ZI.lb_of _
 have vo:out.val=zaf (t.parts.take j) v:=by rw [hI1];exact ZI.val_of _
 refine qW (Je 3 [(3,.len (zac 3 za2.d t.parts))] [] [(12,vb (decide ((j:Int)<(t.parts.length:Int))))] h fun a w h=>zaj ((j:Int)<(t.parts.length:Int)) h (fun hc1 hc1'=>?_) (fun hc6 hc6'=>?_))
 ·refine qU (za3 (qW (qZ ?_)));obtain ⟨x1,hx1⟩:=gl t.parts j;obtain ⟨ox1,lx1⟩:=ht.get hx1
  rcases dR (x1.v == v) with hc2 | hc5
  ·refine Je 3 [(3,.g (xD 18 16 zbx (zab hx1 (f:=za2.d)) (eQ 17 _))),(7,.cmp (op:=.eql) (m:=x1.v) (n:=v) (b:=true) .i64 hc2)] [12] [(26,vb (decide (v>=0)))] h fun a w h=>zaj (v>=0) h (fun hc3 hc3'=>?_) (fun hc4 hc4'=>?_)
   ·obtain ⟨r2,er2,vr2,or2,lr2⟩:=mkZ (v:=out.val+x1.c.val) (m:=out.abs.length+x1.c.abs.length+1) (zcn ho ox1);refine Jh 3 [(4,.g (xD 31 29 zbx (zab hx1 (f:=za2.d)) (eQ 30 _))),(7,.call (eP (SRAdd out x1.c ho ox1 (by omega) (by omega)) (congrArg vz er2.symm)))] [26] [] [] [(2,.box (zi r2))] h fun a w h=>za6 (za3 (Jf 3 [(1,.j1 j)] [] [(6,vI ((j:Int)+1))] h fun a w h=>za3 (za9 (x:=(j,out)) (y:=(j+1,r2)) h ?_ ?_)))
    ·have hc:x1.v=v/\0<=v:=⟨by simpa using hc2,by have:=hc3';omega⟩;exact ⟨by rw [er2,vo,zcy hx1,if_pos hc],by have:=(bE.1 hx1).1;omega⟩
    (try simp);omega
   refine qU (za6 (za3 (Jf 3 [(1,.j1 j)] [26] [(6,vI ((j:Int)+1))] h fun a w h=>za3 (za9 (x:=(j,out)) (y:=(j+1,out)) h ?_ ?_))))
   ·exact ⟨by rw [hI1,zcy hx1,if_neg (fun hc=>absurd hc.2 (by have:=hc4';omega)),Int.add_zero],by have:=(bE.1 hx1).1;omega⟩
   (try simp);omega
  refine Je 3 [(3,.g (xD 18 16 zbx (zab hx1 (f:=za2.d)) (eQ 17 _))),(7,.cmp (op:=.eql) (m:=x1.v) (n:=v) (b:=false) .i64 hc5)] [12] [(26,vb false)] h fun a w h=>zca h (qU (za6 (za3 (Jf 3 [(1,.j1 j)] [26] [(6,vI ((j:Int)+1))] h fun a w h=>za3 (za9 (x:=(j,out)) (y:=(j+1,out)) h ?_ ?_)))))
  ·exact ⟨by rw [hI1,zcy hx1,if_neg (fun hc=>absurd hc.1 (by simpa using hc5)),Int.add_zero],by have:=(bE.1 hx1).1;omega⟩
  (try simp);omega
 refine exA (Jq 3 [] [(4,vp 1 0)] [(1,.box (zi out))] h fun a w h=>qV (rA 1 (zi out) h zct rfl ?_));have hj:j=t.parts.length:=by have:=hc6';omega
 subst hj;rw [hI1,List.take_length];try rfl
theorem tb_0:ElZ eO 52 3 1:=ElZ.mk' Tryz.underlying52 _ _ rfl rfl
theorem tb_1:SlT eO 52 3 1:=SlT.mk' Tryz.underlying52 (by kernel_rfl)
theorem tb_2:ElT eO 52 3 1 8:=ElT.mk' Tryz.underlying52 _ _ rfl rfl
theorem tb_9:ElZ eO 39 61 3:=ElZ.mk' Tryz.underlying39 _ _ rfl rfl
theorem tb_10:ElT eO 39 61 3 40:=ElT.mk' Tryz.underlying39 _ _ rfl rfl
theorem tb_11:Sz eO 41 3 true:=Sz.mk' (by kernel_rfl) Tryz.underlying41 _ rfl
theorem zad {xs:List α} {x:α} (h:xs[j]?=some x):j<xs.length:=(bE.1 h).1
def zbl (v:Int) (s:List Int × Bool) (x:Int):List Int × Bool :=
  let s1:=if s.2=false/\v<=x then (s.1++[v],true) else s
  if x≠v then (s1.1++[x],s1.2) else s1
def insZ (list:List Int) (v:Int):List Int :=
  let r:=list.foldl (zbl v) ([],false)
  if r.2 then r.1 else r.1++[v]
theorem insStep_len (v:Int) (s:List Int × Bool) (x:Int):(zbl v s x).1.length+s.2.toNat<=s.1.length+1+(zbl v s x).2.toNat:=by
 obtain ⟨l,b⟩:=s
 unfold zbl
 cases b <;> by_cases h1:v<=x <;> by_cases h2:x=v <;> simp [h1,h2]
theorem insFold_len (v:Int):∀ (list:List Int) (s:List Int × Bool),(list.foldl (zbl v) s).1.length+s.2.toNat<=s.1.length+list.length+(list.foldl (zbl v) s).2.toNat
 | [],s=>by simp
 | x :: xs,s=>by
  have ih:=insFold_len v xs (zbl v s x)
  have h1:=insStep_len v s x
  simp only [List.foldl_cons,bN]
  omega
theorem insZ_len (list:List Int) (v:Int):(insZ list v).length<=list.length+1:=by
 have h:=insFold_len v list ([],false)
 unfold insZ
 cases hr:(list.foldl (zbl v) ([],false)).2 <;> simp [hr] at h ⊢ <;> omega
def zcz (ps:List za2) (out:List Int) (p:za2):List Int:=if zaf ps p.v≠0 then insZ out p.v else out
def zb9 (ps:List za2):List Int:=ps.foldl (zcz ps) []
def zaa (t:zax):zax:=⟨(zb9 t.parts).map fun v=>⟨v,eS (zaf t.parts v)⟩,eS t.k.val⟩
theorem zgq (qs:List za2):∀ (ps:List za2) (out:List Int),(ps.foldl (zcz qs) out).length<=out.length+ps.length
 | [],out=>by simp
 | p :: ps,out=>by
  have ih:=zgq qs ps (zcz qs out p)
  have h1:(zcz qs out p).length<=out.length+1:=by
   unfold zcz
   split
   ·exact insZ_len out p.v
   ·omega
  simp only [List.foldl_cons,bN]
  omega
theorem zfc (ps:List za2):(zb9 ps).length<=ps.length:=by have h:=zgq ps ps [];simp at h;exact h
theorem take_map {xs:List α} {x:α} (h:xs[j]?=some x) (f:α->β):(xs.take (j+1)).map f=(xs.take j).map f++[f x]:=by
 rw [cN,h,List.map_append];rfl
structure TOk (n L:Nat) (t:zax):Prop where
  len:t.parts.length<=n
  ps:∀ p ∈ t.parts,Lb p.c.abs/\p.c.abs.length<=L
  kb:Lb t.k.abs
  kl:t.k.abs.length<=L
theorem TOk.mono {L L':Nat} {t:zax} (h:TOk n L t) (hn:n<=n') (hL:L<=L'):TOk n' L' t :=
 ⟨cH h.len hn,fun p hp=>⟨(h.ps p hp).1,cH (h.ps p hp).2 hL⟩,h.kb,cH h.kl hL⟩
theorem TOk.psok {L:Nat} {t:zax} (h:TOk 1000000000 L t):PsOk L t.parts:=⟨h.len,h.ps⟩
theorem TOk.get {L:Nat} {t:zax} (h:TOk n L t) {p:za2} (hp:t.parts[j]?=some p):Lb p.c.abs/\p.c.abs.length<=L:=h.ps p (bV hp)
theorem TOk.plain {L:Nat} {t:zax} (h:TOk n L t) (hn:n<=1000000000):TOk n (L+1) (zaa t):=by
 refine ⟨?_,?_,ZI.lb_of _,?_⟩
 ·simp only [zaa,bK];exact cH (zfc _) h.len
 ·intro p hp
  simp only [zaa,dB] at hp
  obtain ⟨v,_,rfl⟩:=hp
  exact ⟨ZI.lb_of _,zde (L:=L) ⟨cH h.len hn,h.ps⟩ v⟩
 ·have:=zcg h.kb;simp only [zaa];have:=h.kl;omega
def addT (a b:zax):zax:=zaa ⟨a.parts++b.parts,eS (a.k.val+b.k.val)⟩
def mulT (a:zax) (n:ZI):zax:=⟨a.parts.map fun p=>⟨p.v,eS (p.c.val*n.val)⟩,eS (a.k.val*n.val)⟩
def zba (a:zax) (n:ZI):zax:=zaa (mulT a n)
def numT (k:ZI):zax:=⟨[],eS k.val⟩
def oneT (v:Int):zax:=⟨[⟨v,eS 1⟩],⟨false,[]⟩⟩
def varT (v:Int):zax:=zaa (oneT v)
theorem TOk.add {L:Nat} {s t:zax} (hs:TOk n L s) (ht:TOk m L t) (r:ZI) (hr:Lb r.abs) (lr:r.abs.length<=L+L+1):TOk (n+m) (L+L+1) ⟨s.parts++t.parts,r⟩:=by
 refine ⟨?_,?_,hr,lr⟩
 ·simp only [bC];have:=hs.len;have:=ht.len;omega
 ·intro p hp
  rcases cL.1 hp with h | h
  ·exact ⟨(hs.ps p h).1,by have:=(hs.ps p h).2;omega⟩
  ·exact ⟨(ht.ps p h).1,by have:=(ht.ps p h).2;omega⟩
theorem TOk.num {L:Nat} {k:ZI} (hk:Lb k.abs) (lk:k.abs.length<=L):TOk 0 L ⟨[],k⟩:=⟨bS _,fun p hp=>(by cases hp),hk,lk⟩
theorem TOk.one {v:Int}:TOk 1 2 (oneT v):=⟨bS _,fun p hp=>by
 simp only [oneT,cM] at hp
 subst hp
 exact ⟨ZI.lb_of _,show (eS 1).abs.length<=2 from by decide⟩,zey,bL _⟩
theorem TOk.mul {L M:Nat} {t:zax} {q:ZI} (ht:TOk n L t) (hq:Lb q.abs) (lq:q.abs.length<=M):TOk n (L+M) (mulT t q):=by
 refine ⟨by simp only [mulT,bK];exact ht.len,?_,ZI.lb_of _,?_⟩
 ·intro p hp
  simp only [mulT,dB] at hp
  obtain ⟨r,hr,rfl⟩:=hp
  obtain ⟨h1,h2⟩:=ht.ps r hr
  exact ⟨ZI.lb_of _,by have:=zdi h1 hq;simp only;omega⟩
 ·have:=zdi ht.kb hq;have:=ht.kl;simp only [mulT];omega
theorem addT_ok {L:Nat} {s t:zax} (hs:TOk n L s) (ht:TOk m L t) (hn:n+m<=1000000000):TOk (n+m) (L+L+1+1) (addT s t) :=
 (TOk.add hs ht _ (ZI.lb_of _) (by have:=zcn hs.kb ht.kb;have:=hs.kl;have:=ht.kl;omega)).plain hn
def subT (s t:zax):zax:=addT s (zba t (eS (-1)))
def negT (t:zax):zax:=zba t (eS (-1))
theorem ne_self (x:Int):(x != x)=false:=by simp
theorem SRTSame (t:zax) {L:Nat} (ht:TOk n L t) (hn:n<=1000000000):Fn eO 32 [] [(vT t),(vT t)] (vb true) []:=by
 have ln:=ht.len;refine fB Tryz.func32 rfl 57 fun w H B a h=>Jq 0 [] [(2,vp 0 0),(3,vp 1 0),(4,vb false)] [(0,.box (zT t)),(1,.box (zT t))] h fun a w h=>qW (Je 2 [(2,.len (zac 3 za2.d t.parts)),(5,.len (zac 3 za2.d t.parts)),(6,.cmp (op:=.neq) (m:=(t.parts.length:Int)) (n:=(t.parts.length:Int)) (b:=false) .i64 (ne_self _)),(12,.call (eP (SRSame t.k t.k ht.kb ht.kb) (show vb (t.k.neg == t.k.neg && decide (t.k.abs=t.k.abs))=vb true from congrArg vb (by simp))))] [] [(20,vb false)] h fun a w h=>zca h (qU (za3 (qW (Je 2 [] [20] [(5,vI 0)] h fun a w h=>qZ ?_)))))
 refine zd3 (ι:=(Nat)) (fun j=>j<=t.parts.length)
   [4] (fun j=>[(5,vN j)])
   [] (fun j=>[])
   (fun j=>t.parts.length - j) 0 ?_ h ?_
 ·exact bL _
 clear h;rintro j a w hI h;refine qW (Je 2 [(3,.len (zac 3 za2.d t.parts))] [] [(25,vb (decide ((j:Int)<(t.parts.length:Int))))] h fun a w h=>zaj ((j:Int)<(t.parts.length:Int)) h (fun hc1 hc1'=>?_) (fun hc2 hc2'=>?_))
 ·refine qU (za3 (qW (qZ ?_)));obtain ⟨x2,hx2⟩:=gl t.parts j;obtain ⟨ox2,lx2⟩:=ht.get hx2;refine Je 2 [(3,.g (xD 31 29 zbx (zab hx2 (f:=za2.d)) (eQ 30 _))),(9,.g (xD 37 35 zbx (zab hx2 (f:=za2.d)) (eQ 36 _))),(12,.cmp (op:=.neq) (m:=x2.v) (n:=x2.v) (b:=false) .i64 (ne_self _)),(17,.g (xD 45 43 zbx (zab hx2 (f:=za2.d)) (eQ 44 _))),(23,.g (xD 51 49 zbx (zab hx2 (f:=za2.d)) (eQ 50 _))),(26,.call (eP (SRSame x2.c x2.c ox2 ox2) (show vb (x2.c.neg == x2.c.neg && decide (x2.c.abs=x2.c.abs))=vb true from congrArg vb (by simp))))] [25] [(56,vb false)] h fun a w h=>zca h (qU (za6 (za3 (Jf 2 [(1,.j1 j)] [56] [(5,vI ((j:Int)+1))] h fun a w h=>za3 (za9 (x:=j) (y:=j+1) h ?_ ?_)))))
  ·exact (by have:=zad hx2;omega)
  (try simp);omega
 refine exA (Jq 2 [] [(4,vb true)] [] h fun a w h=>qV (rT (.c (cB true)) h rfl ?_));rfl
theorem zeg (x:ZI) (hx:Lb x.abs) (lx:x.abs.length<=100000000):Fn eO 72 [] [vz x] (vz (eS x.val)) []:=by
 refine fB Tryz.func72 rfl 8 fun w H B a h=>Jq 0 [] [(1,vp 0 0),(2,vp 1 0)] [(0,.box (zi x)),(1,.box [cB false,.d (nsl [])])] h fun a w h=>?_
 obtain ⟨r1,er1,vr1,or1,lr1⟩:=mkZ (v:=iv x.neg x.abs) (m:=x.abs.length) (zc0 hx);refine Jd 2 [(4,.call (eP (zh6 x.neg x.abs hx (by omega)) (congrArg vz er1.symm)))] [1] [] [(1,.box (zi r1))] h fun a w h=>qV (rA 1 (zi r1) h zct rfl ?_);rw [er1];try rfl
theorem SisNaN (x:Int) :Fn eO 105 [] [vI x] (vb false) []:=by
 refine fB Tryz.func105 rfl 6 fun w H B a h=>Jq 0 [] [(0,vI x),(2,vb false)] [] h fun a w h=>Jd 0 [(2,.cmp (op:=.neq) (m:=x) (n:=x) (b:=false) .i64 (ne_self _))] [0] [] [] h fun a w h=>qV (rT (.c (cB false)) h rfl ?_)
 rfl
theorem SCompare (x y:Int) :Fn eO 71 [] [vI x,vI y] (vI (zcp x y)) []:=by
 refine fB Tryz.func71 rfl 20 fun w H B a h=>Jq 0 [] [(0,vI x),(1,vI y),(4,vI 0)] [] h fun a w h=>Jg 0 [(1,.call (SisNaN x))] [] [(5,vb false)] [] [] h fun a w h=>Jg 0 [(1,.call (SisNaN y))] [] [(6,vb false)] [] [] h fun a w h=>qW (Jg 0 [] [5] [(11,vb false)] [] [] h fun a w h=>zca h (qU (za3 (qW (Jg 0 [] [6,11] [(13,vb false)] [] [] h fun a w h=>zca h (qU (za3 (qW (Jg 0 [] [13] [(16,vb (decide (x<y)))] [] [] h fun a w h=>zaj (x<y) h (fun hc1 hc1'=>?_) (fun hc2 hc2'=>?_))))))))))
 ·refine Jg 0 [] [16] [(4,vI (-1))] [] [] h fun a w h=>qV (zae (rT (.c (cI (-1))) h rfl ?_));have hz:zcp x y=(-1):=by unfold zcp;simp [*];try omega
  rw [hz];try rfl
 refine qU (za3 (qW (Jq 0 [] [(4,vI 0),(19,vb (decide (x>y)))] [] h fun a w h=>zaj (x>y) h (fun hc3 hc3'=>?_) (fun hc4 hc4'=>?_))))
 ·refine Jq 0 [] [(4,vI 1)] [] h fun a w h=>qV (zae (rT (.c (cI 1)) h rfl ?_));have hz:zcp x y=1:=by unfold zcp;simp [*];try omega
  rw [hz];try rfl
 refine qU (za3 (Jd 0 [] [19] [] [] h fun a w h=>qV (rT (.c (cI 0)) h rfl ?_)));have hz:zcp x y=0:=by unfold zcp;simp [*];try omega
 rw [hz];try rfl
theorem SPlain1 (p q:za2) :Fn eO 70 [] [vG ([cI p.v]++zi p.c),vG ([cI q.v]++zi q.c)] (vI (zcp p.v q.v)) []:=by
 refine fB Tryz.func70 rfl 10 fun w H B a h=>Jq 0 [] [(2,vp 0 0),(3,vp 1 0),(4,vI 0)] [(0,.box ([cI p.v]++zi p.c)),(1,.box ([cI q.v]++zi q.c))] h fun a w h=>Jq 2 [(4,.call (SCompare p.v q.v))] [(4,vI (zcp p.v q.v))] [] h fun a w h=>qV (rT (.c (cI (zcp p.v q.v))) h rfl ?_)
 rfl
theorem SPlain2 (p:za2) (hp:Lb p.c.abs) (lp:p.c.abs.length<=100000000):Fn eO 75 [] [vG ([cI p.v]++zi p.c)] (vb (sgn p.c.val == 0)) []:=by
 refine fB Tryz.func75 rfl 7 fun w H B a h=>Jq 0 [] [(1,vp 0 0),(2,vb false)] [(0,.box ([cI p.v]++zi p.c))] h fun a w h=>Jq 1 [(2,.call (SSign p.c hp (by omega)))] [(2,vb (sgn p.c.val == 0))] [] h fun a w h=>qV (rT (.c (cB (sgn p.c.val == 0))) h rfl ?_)
 rfl
section
variable {α:Type} (v:α->Int)
def Stb (xs ys:List α):Prop:=∀ k:Int,xs.filter (fun x=>decide (v x=k))=ys.filter (fun x=>decide (v x=k))
def Ris:List α->Prop
  | []=>True
  | x :: xs=>(∀ y ∈ xs,v x<=v y)/\Ris xs
def insV (x:α):List α->List α
  | []=>[x]
  | y :: ys=>if v x<v y then x :: y :: ys else y :: insV x ys
def ssV (xs:List α):List α:=xs.foldl (fun l x=>insV v x l) []
variable {v}
theorem Stb.refl (xs:List α):Stb v xs xs:=fun _=>rfl
theorem Stb.symm {xs ys:List α} (h:Stb v xs ys):Stb v ys xs:=fun k=>(h k).symm
theorem Stb.trans {xs ys zs:List α} (h:Stb v xs ys) (g:Stb v ys zs):Stb v xs zs:=fun k=>(h k).trans (g k)
theorem Stb.app {xs ys zs us:List α} (h:Stb v xs ys) (g:Stb v zs us):Stb v (xs++zs) (ys++us):=fun k=>by rw [dW,dW,h k,g k]
theorem Stb.mem {xs ys:List α} (h:Stb v xs ys) {x:α} (hx:x ∈ xs):x ∈ ys:=by
 have h1:x ∈ xs.filter (fun y=>decide (v y=v x)):=eB.2 ⟨hx,by simp⟩
 rw [h (v x)] at h1
 exact (eB.1 h1).1
theorem Stb.swap {xs ys:List α} (h:∀ x ∈ xs,∀ y ∈ ys,v x≠v y):Stb v (xs++ys) (ys++xs):=by
 intro k
 rw [dW,dW]
 by_cases hx:∃ x ∈ xs,v x=k
 ·obtain ⟨x,hx,rfl⟩:=hx
  have:ys.filter (fun y=>decide (v y=v x))=[]:=eK.2 fun y hy=>by simpa using fun e=>h x hx y hy e.symm
  rw [this];simp
 ·have:xs.filter (fun x=>decide (v x=k))=[]:=eK.2 fun x hx2=>by simpa using fun e=>hx ⟨x,hx2,e⟩
  rw [this];simp
theorem Stb.nil {ys:List α} (h:Stb v [] ys):ys=[]:=by
 cases ys with
 | nil=>rfl
 | cons y ys=>exact absurd (h.symm.mem (dI ..)) (by simp)
theorem Ris.unique:∀ {xs ys:List α}, Ris v xs->Ris v ys->Stb v xs ys->xs=ys
 | [],ys,_,_,h=>h.nil.symm
 | x :: xs,[],_,_,h=>absurd (h.mem (dI ..)) (by simp)
 | x :: xs,y :: ys,hx,hy,h=>by
  have h1:v y<=v x:=by
   rcases cC.1 (h.mem (dI ..)) with e | e
   ·rw [e];exact Int.le_refl _
   ·exact hy.1 x e
  have h2:v x<=v y:=by
   rcases cC.1 (h.symm.mem (dI ..)) with e | e
   ·rw [e];exact Int.le_refl _
   ·exact hx.1 y e
  have hv:v x=v y:=by omega
  have hk:=h (v x)
  simp only [dD,decide_true,hv,if_true] at hk
  injection hk with e1 _
  subst e1
  have ht:Stb v xs ys:=by
   intro k
   have:=h k
   simp only [dD] at this
   split at this
   ·injection this
   ·exact this
  rw [Ris.unique hx.2 hy.2 ht]
theorem Ris.app {xs ys:List α}:Ris v (xs++ys) ↔ Ris v xs/\Ris v ys/\∀ x ∈ xs,∀ y ∈ ys,v x<=v y:=by
 induction xs with
 | nil=>simp [Ris]
 | cons x xs ih =>
  simp only [cF,Ris,ih,cL,cC]
  constructor
  ·rintro ⟨h1,h2,h3,h4⟩
   refine ⟨⟨fun y hy=>h1 y (.inl hy),h2⟩,h3,?_⟩
   rintro z (rfl | hz) y hy
   ·exact h1 y (.inr hy)
   ·exact h4 z hz y hy
  ·rintro ⟨⟨h1,h2⟩,h3,h4⟩
   refine ⟨?_,h2,h3,fun z hz y hy=>h4 z (.inr hz) y hy⟩
   rintro y (hy | hy)
   ·exact h1 y hy
   ·exact h4 x (.inl rfl) y hy
theorem insV_stb (x:α):∀ {ys:List α}, Ris v ys->Stb v (insV v x ys) (ys++[x])
 | [],_=>Stb.refl _
 | y :: ys,h=>by
  unfold insV
  split
  ·rename_i h1
   refine Stb.swap (xs:=[x]) (ys:=y :: ys) fun a ha b hb=>?_
   rw [cM.1 ha]
   rcases cC.1 hb with rfl | hb
   ·omega
   ·have:=h.1 b hb;omega
  ·exact Stb.app (xs:=[y]) (ys:=[y]) (Stb.refl _) (insV_stb x h.2)
theorem insV_ris (x:α):∀ {ys:List α}, Ris v ys->Ris v (insV v x ys)
 | [],_=>⟨fun _ h=>(by cases h),trivial⟩
 | y :: ys,h=>by
  unfold insV
  split
  ·rename_i h1
   refine ⟨fun z hz=>?_,h⟩
   rcases cC.1 hz with rfl | hz
   ·omega
   ·have:=h.1 z hz;omega
  ·rename_i h1
   refine ⟨fun z hz=>?_,insV_ris x h.2⟩
   have:=(insV_stb x h.2).mem hz
   rcases cL.1 this with h2 | h2
   ·exact h.1 z h2
   ·rw [cM.1 h2];omega
theorem ssV_snoc (xs:List α) (x:α):ssV v (xs++[x])=insV v x (ssV v xs):=by simp [ssV,List.foldl_append]
theorem rev_ind {P:List α->Prop} (h0:P []) (h1:∀ xs x,P xs->P (xs++[x])) (xs:List α):P xs:=by
 have:∀ n (xs:List α),xs.length=n->P xs:=by
  intro n
  induction n with
  | zero=>intro xs h;rw [cJ.1 h];exact h0
  | succ n ih =>
   intro xs h
   have hne:xs≠[]:=fun e=>by rw [e] at h;cases h
   rw [<- eM hne]
   exact h1 _ _ (ih _ (by rw [List.length_dropLast];omega))
 exact this _ xs rfl
theorem zgs (xs:List α):Ris v (ssV v xs)/\Stb v (ssV v xs) xs:=by
 refine rev_ind (P:=fun xs=>Ris v (ssV v xs)/\Stb v (ssV v xs) xs) ⟨trivial,Stb.refl _⟩ (fun xs x h=>?_) xs
 rw [ssV_snoc]
 exact ⟨insV_ris x h.1,(insV_stb x h.1).trans (h.2.app (Stb.refl _))⟩
theorem zcv {xs ys:List α} (h:Ris v ys) (hs:Stb v ys xs):ys=ssV v xs:=h.unique (zgs xs).1 (hs.trans (zgs xs).2.symm)
theorem ssV_of {xs:List α} (h:Ris v xs):ssV v xs=xs:=(zcv h (Stb.refl _)).symm
theorem Stb.length {xs ys:List α}:∀ (n:Nat) (_:xs.length=n) (_:Stb v xs ys),xs.length=ys.length:=by
 intro n
 induction n generalizing xs ys with
 | zero=>intro h hs;rw [cJ.1 h] at hs ⊢;rw [hs.nil]
 | succ n ih =>
  intro h hs
  cases xs with
  | nil=>cases h
  | cons x xs =>
   have hx:=hs.mem (dI ..)
   obtain ⟨y1,y2,rfl,hn⟩:∃ y1 y2,ys=y1++x :: y2/\∀ y ∈ y1,v y≠v x:=by
    have hk:=hs (v x)
    simp only [dD,decide_true,if_true] at hk
    clear h hs ih hx
    induction ys with
    | nil=>simp at hk
    | cons y ys ih2 =>
     by_cases e:v y=v x
     ·simp only [dD,e,decide_true,if_true] at hk
      injection hk with e1 _
      exact ⟨[],ys,by rw [e1];rfl,by simp⟩
     ·simp only [dD,e,decide_false,Bool.false_eq_true,if_false] at hk
      obtain ⟨y1,y2,rfl,h2⟩:=ih2 hk
      exact ⟨y :: y1,y2,rfl,fun z hz=>by rcases cC.1 hz with rfl | hz;exact e;exact h2 z hz⟩
   have hs2:Stb v (y1++x :: y2) (x :: (y1++y2)):=by
    have:=(Stb.swap (v:=v) (xs:=y1) (ys:=[x]) fun a ha b hb=>by rw [cM.1 hb];exact hn a ha).app (Stb.refl y2)
    simpa using this
   have hs3:=hs.trans hs2
   have ht:Stb v xs (y1++y2):=by
    intro k
    have:=hs3 k
    simp only [dD] at this
    split at this
    ·injection this
    ·exact this
   have:=ih (by simpa using h) ht
   simp only [bN,bC] at this ⊢
   omega
theorem zao (xs:List α):(ssV v xs).length=xs.length:=Stb.length _ rfl (zgs xs).2
theorem sym_merge {a1 a2 b1 b2:List α} (ha:Ris v (a1++a2)) (hb:Ris v (b1++b2)) (h1:∀ x ∈ a1,∀ y ∈ b2,v x<=v y) (h2:∀ x ∈ a2,∀ y ∈ b1,v y<v x):ssV v (a1++b1)++ssV v (a2++b2)=ssV v (a1++a2++(b1++b2)):=by
 obtain ⟨_,_,ka⟩:=Ris.app.1 ha
 obtain ⟨_,_,kb⟩:=Ris.app.1 hb
 have s1:=zgs (v:=v) (a1++b1)
 have s2:=zgs (v:=v) (a2++b2)
 refine zcv (Ris.app.2 ⟨s1.1,s2.1,fun x hx y hy=>?_⟩) ?_
 ·rcases cL.1 (s1.2.mem hx) with hx | hx <;> rcases cL.1 (s2.2.mem hy) with hy | hy
  ·exact ka x hx y hy
  ·exact h1 x hx y hy
  ·have:=h2 y hy x hx;omega
  ·exact kb x hx y hy
 ·refine (s1.2.app s2.2).trans ?_
  have:Stb v (a1++(b1++a2)++b2) (a1++(a2++b1)++b2):=((Stb.refl a1).app (Stb.swap fun x hx y hy=>by have:=h2 y hy x hx;omega)).app (Stb.refl b2)
  simpa [bI] using this
theorem sym_left {x:α} {b1 b2:List α} (hb:Ris v (b1++b2)) (h1:∀ y ∈ b2,v x<=v y) (h2:∀ y ∈ b1,v y<v x):b1++x :: b2=ssV v ([x]++(b1++b2)):=by
 obtain ⟨r1,r2,kb⟩:=Ris.app.1 hb
 refine zcv (Ris.app.2 ⟨r1,⟨h1,r2⟩,fun y hy z hz=>?_⟩) ?_
 ·rcases cC.1 hz with rfl | hz
  ·have:=h2 y hy;omega
  ·exact kb y hy z hz
 ·have:Stb v (b1++[x]++b2) ([x]++b1++b2):=(Stb.swap fun y hy z hz=>by rw [cM.1 hz];have:=h2 y hy;omega).app (Stb.refl b2)
  simpa [bI] using this
theorem sym_right {x:α} {a1 a2:List α} (ha:Ris v (a1++a2)) (h1:∀ y ∈ a1,v y<=v x) (h2:∀ y ∈ a2,v x<v y):a1++x :: a2=ssV v (a1++a2++[x]):=by
 obtain ⟨r1,r2,ka⟩:=Ris.app.1 ha
 refine zcv (Ris.app.2 ⟨r1,⟨fun y hy=>by have:=h2 y hy;omega,r2⟩,fun y hy z hz=>?_⟩) ?_
 ·rcases cC.1 hz with rfl | hz
  ·exact h1 y hy
  ·exact ka y hy z hz
 ·have:Stb v (a1++([x]++a2)) (a1++(a2++[x])):=(Stb.refl a1).app (Stb.swap fun y hy z hz=>by rw [cM.1 hy];have:=h2 z hz;omega)
  simpa [bI] using this
end
theorem zeq:Sz eO 61 3 true:=Sz.mk' (by kernel_rfl) Tryz.underlying61 _ rfl
theorem te_2:zc2 eO 70:=zc2.mk' (by kernel_rfl)
theorem zch {xs:List α} {F:α->List D} (i:Nat) (x0:List D) (x1:α) {ds:List D} (h:zh3 x0 fo ds=F x1):(xs.map F).set i (zh3 x0 fo ds)=(xs.set i x1).map F:=by rw [h,List.map_set]
theorem zfn {xs ys:List α} {x:α} (n:Nat) (hn:n=xs.length):(xs++x :: ys)[n]?=some x:=by subst hn;simp
theorem swap_mid {xs ys:List α} {x y:α} (n:Nat) (hn:n=xs.length):((xs++y :: x :: ys).set (n+1) y).set n x=xs++x :: y :: ys:=by
 subst hn
 rw [cO _ _ (by omega),cW]
 simp
theorem zdf {x y:Int}:zcp x y<0 ↔ x<y:=by unfold zcp;split;omega;split <;> omega
theorem snoc_or (l:List α):l=[]\/∃ l' y,l=l'++[y]:=by
 by_cases h:l=[]
 ·exact .inl h
 ·exact .inr ⟨l.dropLast,l.getLast h,(eM h).symm⟩
def InsI (pre mid post:List za2) (k j:Nat) (ys:List za2):Prop :=
  ∃ s1 s2 x,j=pre.length+s1.length/\ys=pre++s1++x :: (s2++(mid.drop (k+1)++post))/\mid[k]?=some x/\ssV za2.v (mid.take k)=s1++s2/\∀ y ∈ s2,x.v<y.v
theorem ins_start {pre mid:List za2} (hk:k<mid.length):InsI pre mid post k (pre.length+k) (pre++(ssV za2.v (mid.take k)++mid.drop k)++post):=by
 refine ⟨ssV za2.v (mid.take k),[],mid[k],?_,?_,bF hk,by simp,by simp⟩
 ·rw [zao,bJ];omega
 ·have:=cQ hk;simp only [bI,cG,this,cF]
theorem ins_len {pre mid:List za2} {ys:List za2} (h:InsI pre mid post k j ys):ys.length=(pre++mid++post).length/\j<=pre.length+k/\k<mid.length:=by
 obtain ⟨s1,s2,x,rfl,rfl,hx,hs,_⟩:=h
 have hk:=(bE.1 hx).1
 have hl:s1.length+s2.length=k:=by
  have:=congrArg List.length hs
  rw [zao,bJ,bC] at this;omega
 refine ⟨?_,by omega,hk⟩
 simp only [bC,bN,cX];omega
theorem ins_step {pre mid:List za2} {ys:List za2} {x1 x2:za2} (h:InsI pre mid post k j ys) (h1:ys[j]?=some x1) (h2:ys[j - 1]?=some x2) (hj:pre.length<j) (hc:x1.v<x2.v):InsI pre mid post k (j - 1) ((ys.set j x2).set (j - 1) x1):=by
 obtain ⟨s1,s2,x,rfl,rfl,hx,hs,hlt⟩:=h
 obtain ⟨s1', y,rfl⟩:∃ s1' y,s1=s1'++[y]:=by
  rcases snoc_or s1 with rfl | ⟨s1', y,rfl⟩
  ·simp at hj
  ·exact ⟨s1', y,rfl⟩
 have e1:x1=x:=by
  rw [zfn _ (by simp)] at h1
  injection h1 with h1
  exact h1.symm
 have hj2:pre.length+(s1'++[y]).length - 1=(pre++s1').length:=by simp only [bC,bN,cD];omega
 have hys:pre++(s1'++[y])++x :: (s2++(mid.drop (k+1)++post))=(pre++s1')++y :: x :: (s2++(mid.drop (k+1)++post)):=by simp
 have e2:x2=y:=by
  rw [hys,zfn _ hj2] at h2
  injection h2 with h2
  exact h2.symm
 subst e1 e2
 refine ⟨s1', x2 :: s2,x1,by simp only [bC,bN,cD];omega,?_,hx,by rw [hs];simp,?_⟩
 ·rw [hys,show pre.length+(s1'++[x2]).length=(pre++s1').length+1 by simp only [bC,bN,cD];omega,eF,swap_mid _ rfl]
  simp
 ·intro y hy
  rcases cC.1 hy with rfl | hy
  ·exact hc
  ·exact hlt y hy
theorem ins_done {pre mid:List za2} {ys:List za2} (h:InsI pre mid post k j ys) (hd:j<=pre.length\/∃ x1 x2,ys[j]?=some x1/\ys[j - 1]?=some x2/\¬ x1.v<x2.v):ys=pre++(ssV za2.v (mid.take (k+1))++mid.drop (k+1))++post:=by
 obtain ⟨s1,s2,x,rfl,rfl,hx,hs,hlt⟩:=h
 have hss:=zgs (v:=za2.v) (mid.take k)
 rw [hs] at hss
 obtain ⟨r1,r2,r3⟩:=Ris.app.1 hss.1
 have hx1:∀ y ∈ s1,y.v<=x.v:=by
  rcases hd with hd | ⟨x1,x2,h1,h2,h3⟩
  ·have:s1=[]:=cJ.1 (by omega)
   subst this;simp
  ·rcases snoc_or s1 with rfl | ⟨s1', y,rfl⟩
   ·simp
   ·rw [zfn _ (by simp)] at h1
    injection h1 with h1
    have hj2:pre.length+(s1'++[y]).length - 1=(pre++s1').length:=by simp only [bC,bN,cD];omega
    have hys:pre++(s1'++[y])++x :: (s2++(mid.drop (k+1)++post))=(pre++s1')++y :: x :: (s2++(mid.drop (k+1)++post)):=by simp
    rw [hys,zfn _ hj2] at h2
    injection h2 with h2
    subst h1 h2
    obtain ⟨q1,q2,q3⟩:=Ris.app.1 r1
    intro z hz
    rcases cL.1 hz with hz | hz
    ·have:=q3 z hz y (by simp);omega
    ·rw [cM.1 hz];omega
 have hmid:mid.take (k+1)=mid.take k++[x]:=by rw [cN,hx];rfl
 have hR:Ris za2.v (s1++x :: s2):=by
  refine Ris.app.2 ⟨r1,⟨fun y hy=>by have:=hlt y hy;omega,r2⟩,fun y hy z hz=>?_⟩
  rcases cC.1 hz with rfl | hz
  ·exact hx1 y hy
  ·exact r3 y hy z hz
 have hS:Stb za2.v (s1++x :: s2) (mid.take (k+1)):=by
  rw [hmid]
  refine Stb.trans (ys:=(s1++s2)++[x]) ?_ (hss.2.app (Stb.refl _))
  rw [bI]
  refine (Stb.refl s1).app (Stb.swap (xs:=[x]) (ys:=s2) fun c hc b hb=>?_)
  rw [cM.1 hc]
  have:=hlt b hb;omega
 rw [<- zcv hR hS]
 simp
theorem Sinsort (pre mid post:List za2) (hl:(pre++mid++post).length<=1000000000000):Fn eO 123 [(0,.row 61 3 ((pre++mid++post).map za2.d))] [.t (.c (.own 0 (pre++mid++post).length)),vN pre.length,vI ((pre.length+mid.length:Nat):Int),.t (.c (.fn (.func 70) [] []))] (.tup []) [(0,.row 61 3 ((pre++ssV za2.v mid++post).map za2.d))]:=by
 have hlen:(pre++mid++post).length=pre.length+mid.length+post.length:=by simp;omega
 refine fB Tryz.func123 rfl 53 fun w H B a h=>Jq 1 [(1,.add .i64 (m:=(pre.length:Int)) (n:=1) i6)] [(0,.t (.c (.own 0 (pre++mid++post).length))),(1,vN pre.length),(2,vI ((pre.length+mid.length:Nat):Int)),(3,.t (.c (.fn (.func 70) [] []))),(8,vI ((pre.length:Int)+1))] [(0,.row 61 3 ((pre++mid++post).map za2.d))] h fun a w h=>qZ ?_
 refine zd3 (ι:=(Nat) × (List za2)) (fun (k,xs)=>1<=k/\(k<=mid.length\/k=1)/\xs=pre++(ssV za2.v (mid.take k)++mid.drop k)++post)
   [] (fun (k,xs)=>[(8,vI ((pre.length+k:Nat):Int))])
   [] (fun (k,xs)=>[(0,.row 61 3 (xs.map za2.d))])
   (fun (k,xs)=>mid.length+1 - k) (1,(pre++mid++post)) ?_ h ?_
 ·refine ⟨bS _,.inr rfl,?_⟩
  cases mid with
  | nil=>simp [ssV]
  | cons x mid=>simp [ssV,insV]
 clear h;rintro ⟨k,xs⟩ a w hI h;dsimp only at h;obtain ⟨hI1,hI2,hI3⟩:=hI;refine qW (Je 1 [] [] [(14,vb (decide (((pre.length+k:Nat):Int)<((pre.length+mid.length:Nat):Int))))] h fun a w h=>zaj (((pre.length+k:Nat):Int)<((pre.length+mid.length:Nat):Int)) h (fun hc1 hc1'=>?_) (fun hc6 hc6'=>?_))
 ·refine qU (za3 (qW (qZ (Je 1 [] [14] [(9,vI ((pre.length+k:Nat):Int))] h fun a w h=>qZ ?_))))
  refine zd3 (ι:=(Nat) × (List za2)) (fun (j,ys)=>InsI pre mid post k j ys)
    [] (fun (j,ys)=>[(9,vN j)])
    [] (fun (j,ys)=>[(0,.row 61 3 (ys.map za2.d))])
    (fun (j,ys)=>j) ((pre.length+k),xs) ?_ h ?_
  ·rw [hI3];exact ins_start (by omega)
  clear h;rintro ⟨j,ys⟩ a w hI h;dsimp only at h;obtain ⟨hly,hj1,hk1⟩:=ins_len hI;refine qW ?_
  rcases dR (decide ((j:Int)>(pre.length:Int))) with hc2 | hc5
  ·have hc2':=dT hc2;obtain ⟨x1,hx1⟩:=gl ys j;obtain ⟨x2,hx2⟩:=gl ys (j - 1);refine Je 1 [(2,.cmp (op:=.gtr) (m:=(j:Int)) (n:=(pre.length:Int)) (b:=true) .i64 hc2),(7,.g (xO 25 23 0 (pre++mid++post).length j zbx (eQ 24 _))),(8,.g (Op.loadR_agg (d:=26) (t:=25) (n:=0) (i:=j) (fo:=0) (rty:=61) (es:=3) (xs:=[.raw (.int .i64 x1.v),.raw (.bool x1.c.neg),nsl x1.c.abs]) zeq rfl (zab hx1 (f:=za2.d)) rfl rfl)),(11,.g (eR (op:=.sub) (d:=29) (xt:=3) (yt:=3) (k:=.i64) (m:=(j:Int)) (n:=1) (r:=((j - 1:Nat):Int)) (eQ 28 _) (OV.const (.int .i64 1) rfl) (.inr (.inl ⟨rfl,(by omega)⟩)) i6)),(12,.g (xO 30 27 0 (pre++mid++post).length (j - 1) zbx (eQ 29 _))),(13,.g (Op.loadR_agg (d:=31) (t:=30) (n:=0) (i:=(j - 1)) (fo:=0) (rty:=61) (es:=3) (xs:=[.raw (.int .i64 x2.v),.raw (.bool x2.c.neg),nsl x2.c.abs]) zeq rfl (zab hx2 (f:=za2.d)) rfl rfl)),(14,.g (Op.callV (d:=32) (t:=22) (cap:=[]) (args:=[.t (.agg ([.d (.raw (.int .i64 x1.v))]++zi x1.c)),.t (.agg ([.d (.raw (.int .i64 x2.v))]++zi x2.c))]) (rs:=[(26,.t (.agg ([.d (.raw (.int .i64 x1.v))]++zi x1.c))),(31,.t (.agg ([.d (.raw (.int .i64 x2.v))]++zi x2.c)))]) (tys:=#[61,61]) (SPlain1 x1 x2) te_2 (OVs.cons (eQ 26 _) (OVs.cons (eQ 31 _) (OVs.nil)))))] [] [(34,vb (decide (zcp x1.v x2.v<0)))] h fun a w h=>zaj (zcp x1.v x2.v<0) h (fun hc3 hc3'=>?_) (fun hc4 hc4'=>?_)
   ·refine qU (za3 (qW (qZ (Jh 1 [(4,.g (eR (op:=.sub) (d:=41) (xt:=3) (yt:=3) (k:=.i64) (m:=(j:Int)) (n:=1) (r:=((j - 1:Nat):Int)) (eQ 40 _) (OV.const (.int .i64 1) rfl) (.inr (.inl ⟨rfl,(by omega)⟩)) i6)),(7,.g (eR (op:=.sub) (d:=44) (xt:=3) (yt:=3) (k:=.i64) (m:=(j:Int)) (n:=1) (r:=((j - 1:Nat):Int)) (eQ 43 _) (OV.const (.int .i64 1) rfl) (.inr (.inl ⟨rfl,(by omega)⟩)) i6)),(8,.g (xO 45 42 0 (pre++mid++post).length (j - 1) zbx (eQ 44 _))),(9,.g (Op.loadR_agg (d:=46) (t:=45) (n:=0) (i:=(j - 1)) (fo:=0) (rty:=61) (es:=3) (xs:=[.raw (.int .i64 x2.v),.raw (.bool x2.c.neg),nsl x2.c.abs]) zeq rfl (zab hx2 (f:=za2.d)) rfl rfl)),(12,.g (xO 49 47 0 (pre++mid++post).length j zbx (eQ 48 _))),(13,.g (Op.loadR_agg (d:=50) (t:=49) (n:=0) (i:=j) (fo:=0) (rty:=61) (es:=3) (xs:=[.raw (.int .i64 x1.v),.raw (.bool x1.c.neg),nsl x1.c.abs]) zeq rfl (zab hx1 (f:=za2.d)) rfl rfl)),(14,.g (xO 51 37 0 (pre++mid++post).length j zbx (eQ 38 _))),(15,.g (Op.storeR (t:=51) (n:=0) (i:=j) (fo:=0) (rty:=61) (es:=3) (r:=za2.d x1) (ds:=[.raw (.int .i64 x2.v),.raw (.bool x2.c.neg),nsl x2.c.abs]) (rs:=[(46,.t (.agg ([.d (.raw (.int .i64 x2.v))]++zi x2.c)))]) (rows:=ys.map za2.d) (rows':=(ys.set j x2).map za2.d) zeq (eQ 46 _) rfl rfl rfl (zab hx1 (f:=za2.d)) (by simp [za2.d]) (zch (xs:=ys) (F:=za2.d) j _ _ rfl))),(16,.g (xO 52 39 0 (pre++mid++post).length (j - 1) zbx (eQ 41 _))),(17,.g (Op.storeR (t:=52) (n:=0) (i:=(j - 1)) (fo:=0) (rty:=61) (es:=3) (r:=za2.d x2) (ds:=[.raw (.int .i64 x1.v),.raw (.bool x1.c.neg),nsl x1.c.abs]) (rs:=[(50,.t (.agg ([.d (.raw (.int .i64 x1.v))]++zi x1.c)))]) (rows:=(ys.set j x2).map za2.d) (rows':=((ys.set j x2).set (j - 1) x1).map za2.d) zeq (eQ 50 _) rfl rfl rfl (zab ((dA (by omega)).trans hx2) (f:=za2.d)) (by simp [za2.d]) (zch (xs:=(ys.set j x2)) (F:=za2.d) (j - 1) _ _ rfl)))] [34] [] [] [(0,.row 61 3 (((ys.set j x2).set (j - 1) x1).map za2.d))] h fun a w h=>?_))));refine za6 (za3 (Jf 1 [(1,.g (eR (op:=.sub) (d:=36) (xt:=3) (yt:=3) (k:=.i64) (m:=(j:Int)) (n:=1) (r:=((j - 1:Nat):Int)) (eQ 35 _) (OV.const (.int .i64 1) rfl) (.inr (.inl ⟨rfl,(by omega)⟩)) i6))] [] [(9,vI ((j - 1:Nat):Int))] h fun a w h=>za3 (za9 (x:=(j,ys)) (y:=(j - 1,((ys.set j x2).set (j - 1) x1))) h ?_ ?_)))
    ·exact ins_step hI hx1 hx2 (by omega) (zdf.1 hc3')
    show j - 1<j;omega
   refine wp_exit (zbo (zbo (zap (za6 (za3 (Jf 1 [(1,.add .i64 (m:=((pre.length+k:Nat):Int)) (n:=1) i6)] [9,34] [(8,vI (((pre.length+k:Nat):Int)+1))] h fun a w h=>za3 (za9 (x:=(k,xs)) (y:=(k+1,ys)) h ?_ ?_)))))))
   ·exact ⟨by omega,by omega,ins_done hI (.inr ⟨_,_,hx1,hx2,mt zdf.2 hc4'⟩)⟩
   show mid.length+1 - (k+1)<mid.length+1 - k;omega
  have hc5':=dF hc5;refine Je 1 [(2,.cmp (op:=.gtr) (m:=(j:Int)) (n:=(pre.length:Int)) (b:=false) .i64 hc5)] [] [(34,vb false)] h fun a w h=>zca h (wp_exit (zbo (zbo (zap (za6 (za3 (Jf 1 [(1,.add .i64 (m:=((pre.length+k:Nat):Int)) (n:=1) i6)] [9,34] [(8,vI (((pre.length+k:Nat):Int)+1))] h fun a w h=>za3 (za9 (x:=(k,xs)) (y:=(k+1,ys)) h ?_ ?_))))))))
  ·exact ⟨by omega,by omega,ins_done hI (.inl (by omega))⟩
  show mid.length+1 - (k+1)<mid.length+1 - k;omega
 refine wp_exit (zbo (zbo (zap ?_)))
 have hxs:xs=pre++ssV za2.v mid++post:=by
  have hk:mid.length<=k:=by omega
  rw [hI3,eG hk,dV hk,List.append_nil]
 rw [hxs] at h;refine zha [] h Exit.normal (.inr rfl)  rfl trivial ?_;rfl
def SwI (pre X mid Y post:List za2) (i:Nat) (ys:List za2):Prop:=i<=X.length/\ys=pre++(Y.take i++X.drop i)++mid++(X.take i++Y.drop i)++post
theorem sw_len {pre mid:List za2} {ys:List za2} (h:SwI pre X mid Y post i ys) (hn:X.length=Y.length):ys.length=pre.length+X.length+mid.length+Y.length+post.length:=by
 obtain ⟨h1,rfl⟩:=h
 simp only [bC,bJ,cX];omega
theorem sw_step {pre mid:List za2} {ys:List za2} {x1 x2:za2} (h:SwI pre X mid Y post i ys) (hn:X.length=Y.length) (hi:i<X.length) (h1:ys[pre.length+i]?=some x1) (h2:ys[pre.length+X.length+mid.length+i]?=some x2) :
  SwI pre X mid Y post (i+1) ((ys.set (pre.length+i) x2).set (pre.length+X.length+mid.length+i) x1):=by
 obtain ⟨_,rfl⟩:=h
 have hy:i<Y.length:=by omega
 have ex:=cQ hi
 have ey:=cQ hy
 have tx:X.take (i+1)=X.take i++[X[i]]:=by rw [cN,bF hi];rfl
 have ty:Y.take (i+1)=Y.take i++[Y[i]]:=by rw [cN,bF hy];rfl
 have hys:pre++(Y.take i++X.drop i)++mid++(X.take i++Y.drop i)++post=(pre++Y.take i)++X[i] :: ((X.drop (i+1)++mid++X.take i)++Y[i] :: (Y.drop (i+1)++post)):=by
  simp only [ex,ey,bI,cF]
 have l1:pre.length+i=(pre++Y.take i).length:=by simp only [bC,bJ];omega
 have l2:pre.length+X.length+mid.length+i=(pre++Y.take i).length+((X.drop (i+1)++mid++X.take i).length+1):=by simp only [bC,bJ,cX];omega
 rw [hys] at h1 h2 ⊢
 have e1:x1=X[i]:=by rw [zfn _ l1] at h1;injection h1 with h1;exact h1.symm
 have e2:x2=Y[i]:=by
  rw [l2,cZ (by omega),cW,dL,zfn _ rfl] at h2
  injection h2 with h2;exact h2.symm
 subst e1 e2
 refine ⟨by omega,?_⟩
 rw [l1,cO _ _ (bS _),dH,dE,l2,cO _ _ (by omega),cW,eH,cO _ _ (bS _),dH,dE,tx,ty]
 simp only [bI,cF,cG]
theorem Sswaprange (pre X mid Y post:List za2) (hn:X.length=Y.length) (hl:(pre++X++mid++Y++post).length<=1000000000000):Fn eO 138 [(0,.row 61 3 ((pre++X++mid++Y++post).map za2.d))] [.t (.c (.own 0 (pre++X++mid++Y++post).length)),vN pre.length,vI ((pre.length+X.length+mid.length:Nat):Int),vN X.length,.t (.c (.fn (.func 70) [] []))] (.tup []) [(0,.row 61 3 ((pre++Y++mid++X++post).map za2.d))]:=by
 have hlen:(pre++X++mid++Y++post).length=pre.length+X.length+mid.length+Y.length+post.length:=by simp;omega
 refine fB Tryz.func138 rfl 38 fun w H B a h=>Jq 1 [] [(0,.t (.c (.own 0 (pre++X++mid++Y++post).length))),(1,vN pre.length),(2,vI ((pre.length+X.length+mid.length:Nat):Int)),(3,vN X.length),(10,vI 0)] [(0,.row 61 3 ((pre++X++mid++Y++post).map za2.d))] h fun a w h=>qZ ?_
 refine zd3 (ι:=(Nat) × (List za2)) (fun (i,ys)=>SwI pre X mid Y post i ys)
   [] (fun (i,ys)=>[(10,vN i)])
   [] (fun (i,ys)=>[(0,.row 61 3 (ys.map za2.d))])
   (fun (i,ys)=>X.length - i) (0,(pre++X++mid++Y++post)) ?_ h ?_
 ·exact ⟨bL _,by simp⟩
 clear h;rintro ⟨i,ys⟩ a w hI h;dsimp only at h;have hly:=sw_len hI hn;refine qW (Je 1 [] [] [(13,vb (decide ((i:Int)<(X.length:Int))))] h fun a w h=>zaj ((i:Int)<(X.length:Int)) h (fun hc1 hc1'=>?_) (fun hc2 hc2'=>?_))
 ·refine qU (za3 (qW (qZ ?_)));obtain ⟨x1,hx1⟩:=gl ys (pre.length+X.length+mid.length+i);obtain ⟨x2,hx2⟩:=gl ys (pre.length+i);refine Jh 1 [(3,.g (eR (op:=.add) (d:=19) (xt:=3) (yt:=3) (k:=.i64) (m:=(pre.length:Int)) (n:=(i:Int)) (r:=((pre.length+i:Nat):Int)) (eQ 17 _) (eQ 18 _) (.inl ⟨rfl,(by omega)⟩) i6)),(7,.g (eR (op:=.add) (d:=23) (xt:=3) (yt:=3) (k:=.i64) (m:=((pre.length+X.length+mid.length:Nat):Int)) (n:=(i:Int)) (r:=((pre.length+X.length+mid.length+i:Nat):Int)) (eQ 21 _) (eQ 22 _) (.inl ⟨rfl,(by omega)⟩) i6)),(11,.g (eR (op:=.add) (d:=27) (xt:=3) (yt:=3) (k:=.i64) (m:=((pre.length+X.length+mid.length:Nat):Int)) (n:=(i:Int)) (r:=((pre.length+X.length+mid.length+i:Nat):Int)) (eQ 25 _) (eQ 26 _) (.inl ⟨rfl,(by omega)⟩) i6)),(12,.g (xO 28 24 0 (pre++X++mid++Y++post).length (pre.length+X.length+mid.length+i) zbx (eQ 27 _))),(13,.g (Op.loadR_agg (d:=29) (t:=28) (n:=0) (i:=(pre.length+X.length+mid.length+i)) (fo:=0) (rty:=61) (es:=3) (xs:=[.raw (.int .i64 x1.v),.raw (.bool x1.c.neg),nsl x1.c.abs]) zeq rfl (zab hx1 (f:=za2.d)) rfl rfl)),(17,.g (eR (op:=.add) (d:=33) (xt:=3) (yt:=3) (k:=.i64) (m:=(pre.length:Int)) (n:=(i:Int)) (r:=((pre.length+i:Nat):Int)) (eQ 31 _) (eQ 32 _) (.inl ⟨rfl,(by omega)⟩) i6)),(18,.g (xO 34 30 0 (pre++X++mid++Y++post).length (pre.length+i) zbx (eQ 33 _))),(19,.g (Op.loadR_agg (d:=35) (t:=34) (n:=0) (i:=(pre.length+i)) (fo:=0) (rty:=61) (es:=3) (xs:=[.raw (.int .i64 x2.v),.raw (.bool x2.c.neg),nsl x2.c.abs]) zeq rfl (zab hx2 (f:=za2.d)) rfl rfl)),(20,.g (xO 36 16 0 (pre++X++mid++Y++post).length (pre.length+i) zbx (eQ 19 _))),(21,.g (Op.storeR (t:=36) (n:=0) (i:=(pre.length+i)) (fo:=0) (rty:=61) (es:=3) (r:=za2.d x2) (ds:=[.raw (.int .i64 x1.v),.raw (.bool x1.c.neg),nsl x1.c.abs]) (rs:=[(29,.t (.agg ([.d (.raw (.int .i64 x1.v))]++zi x1.c)))]) (rows:=ys.map za2.d) (rows':=(ys.set (pre.length+i) x1).map za2.d) zeq (eQ 29 _) rfl rfl rfl (zab hx2 (f:=za2.d)) (by simp [za2.d]) (zch (xs:=ys) (F:=za2.d) (pre.length+i) _ _ rfl))),(22,.g (xO 37 20 0 (pre++X++mid++Y++post).length (pre.length+X.length+mid.length+i) zbx (eQ 23 _))),(23,.g (Op.storeR (t:=37) (n:=0) (i:=(pre.length+X.length+mid.length+i)) (fo:=0) (rty:=61) (es:=3) (r:=za2.d x1) (ds:=[.raw (.int .i64 x2.v),.raw (.bool x2.c.neg),nsl x2.c.abs]) (rs:=[(35,.t (.agg ([.d (.raw (.int .i64 x2.v))]++zi x2.c)))]) (rows:=(ys.set (pre.length+i) x1).map za2.d) (rows':=((ys.set (pre.length+i) x1).set (pre.length+X.length+mid.length+i) x2).map za2.d) zeq (eQ 35 _) rfl rfl rfl (zab ((dA (by omega)).trans hx1) (f:=za2.d)) (by simp [za2.d]) (zch (xs:=(ys.set (pre.length+i) x1)) (F:=za2.d) (pre.length+X.length+mid.length+i) _ _ rfl)))] [13] [] [] [(0,.row 61 3 (((ys.set (pre.length+i) x1).set (pre.length+X.length+mid.length+i) x2).map za2.d))] h fun a w h=>?_;refine za6 (za3 (Jf 1 [(1,.j1 i)] [] [(10,vI ((i:Int)+1))] h fun a w h=>za3 (za9 (x:=(i,ys)) (y:=(i+1,((ys.set (pre.length+i) x1).set (pre.length+X.length+mid.length+i) x2))) h ?_ ?_)))
  ·exact sw_step hI hn (by omega) hx2 hx1
  show X.length - (i+1)<X.length - i;omega
 refine wp_exit (zbo (zbo (zap ?_)))
 have hxs:ys=(pre++Y++mid++X++post):=by
  obtain ⟨g1,g2⟩:=hI;have hk:i=X.length:=by omega
  rw [g2,hk,eG (bS _),dV (bS _),eG (by omega),dV (by omega)];simp
 rw [hxs] at h;refine zha [] h Exit.normal (.inr rfl)  rfl trivial ?_;rfl
theorem Sswap2 {r0 r1:List za2} {ln:Nat} {ia ib ic:Int} (pre X mid Y post:List za2) (e0:r0=pre++X++mid++Y++post) (e1:r1=pre++Y++mid++X++post) (el:ln=r0.length) (ea:ia=(pre.length:Int)) (eb:ib=((pre.length+X.length+mid.length:Nat):Int)) (ec:ic=(X.length:Int)) (hn:X.length=Y.length) (hl:r0.length<=1000000000000) :
  Fn eO 138 [(0,.row 61 3 (r0.map za2.d))] [vO 0 ln,vi .i64 ia,vi .i64 ib,vi .i64 ic,.t (.c (.fn (.func 70) [] []))] (.tup []) [(0,.row 61 3 (r1.map za2.d))]:=by
 subst el e0 e1 ea eb ec
 exact Sswaprange pre X mid Y post hn hl
structure RotI (X Y D1 X1 Y1 D2:List za2):Prop where
  eq:D1++Y1++X1++D2=Y++X
  l1:D1.length+X1.length=X.length
  l2:Y1.length+D2.length=Y.length
  p1:0<X1.length
  p2:0<Y1.length
theorem split_at {l:List za2} (h:n<=l.length):∃ u v,l=u++v/\u.length=n:=⟨l.take n,l.drop n,(eE _ _).symm,by rw [bJ];omega⟩
theorem Srotate (pre X Y post:List za2) (hX:0<X.length) (hY:0<Y.length) (hl:pre.length+X.length+Y.length+post.length<=1000000000000):Fn eO 137 [(0,.row 61 3 ((pre++X++Y++post).map za2.d))] [.t (.c (.own 0 (pre.length+X.length+Y.length+post.length))),vN pre.length,vI ((pre.length+X.length:Nat):Int),vI ((pre.length+X.length+Y.length:Nat):Int),.t (.c (.fn (.func 70) [] []))] (.tup []) [(0,.row 61 3 ((pre++(Y++X)++post).map za2.d))]:=by
 refine fB Tryz.func137 rfl 58 fun w H B a h=>?_
 refine Jq 1 [(2,.g (eR (op:=.sub) (d:=14) (xt:=3) (yt:=3) (k:=.i64) (m:=((pre.length+X.length:Nat):Int)) (n:=(pre.length:Int)) (r:=(X.length:Int)) (eQ 12 _) (eQ 13 _) (.inr (.inl ⟨rfl,(by omega)⟩)) i6))] [(0,.t (.c (.own 0 (pre.length+X.length+Y.length+post.length)))),(2,vI ((pre.length+X.length:Nat):Int)),(3,vI ((pre.length+X.length+Y.length:Nat):Int)),(4,.t (.c (.fn (.func 70) [] []))),(10,vN X.length)] [(0,.row 61 3 ((pre++X++Y++post).map za2.d))] h fun a w h=>?_;replace h:=cvM [] [] [] [(0,.row 61 3 ((pre++[]++X++Y++[]++post).map za2.d))] (by rw [show (pre++X++Y++post:List za2)=pre++[]++X++Y++[]++post by simp]; try kernel_rfl) h;refine Jg 1 [(2,.g (eR (op:=.sub) (d:=17) (xt:=3) (yt:=3) (k:=.i64) (m:=((pre.length+X.length+Y.length:Nat):Int)) (n:=((pre.length+X.length:Nat):Int)) (r:=(Y.length:Int)) (eQ 15 _) (eQ 16 _) (.inr (.inl ⟨rfl,(by omega)⟩)) i6))] [3] [(11,vN Y.length)] [] [] h fun a w h=>?_;refine qW (qZ ?_)
 refine zd3 (ι:=(List za2) × (List za2) × (List za2) × (List za2)) (fun (D1,X1,Y1,D2)=>RotI X Y D1 X1 Y1 D2)
   [] (fun (D1,X1,Y1,D2)=>[(10,vN X1.length),(11,vN Y1.length)])
   [] (fun (D1,X1,Y1,D2)=>[(0,.row 61 3 ((pre++D1++X1++Y1++D2++post).map za2.d))])
   (fun (D1,X1,Y1,D2)=>X1.length+Y1.length) ([],X,Y,[]) ?_ h ?_
 ·exact ⟨by simp,by simp,by simp,hX,hY⟩
 clear h;rintro ⟨D1,X1,Y1,D2⟩ a w hI h;dsimp only at h;obtain ⟨q0,q1,q2,q3,q4⟩:=hI;have hrow:(pre++D1++X1++Y1++D2++post).length=pre.length+X.length+Y.length+post.length:=by simp only [bC];omega
 refine qW (Je 1 [] [] [(20,vb ((X1.length:Int) != (Y1.length:Int)))] h fun a w h=>?_);refine cS ((X1.length:Int) != (Y1.length:Int)) h (fun hc1=>?_) (fun hc4=>?_)
 ·have hc1':=hc1;(try simp at hc1');refine qU (za3 (qZ (Je 1 [] [20] [(23,vb (decide ((X1.length:Int)>(Y1.length:Int))))] h fun a w h=>?_)));refine zaj ((X1.length:Int)>(Y1.length:Int)) h (fun hc2 hc2'=>?_) (fun hc3 hc3'=>?_)
  ·obtain ⟨Xa,Xb,hs1,hs2⟩:=split_at (l:=X1) (n:=Y1.length) (by omega);have hxl:X1.length=Xa.length+Xb.length:=by rw [hs1,bC]
   refine Jg 1 [(3,.g (eR (op:=.sub) (d:=27) (xt:=3) (yt:=3) (k:=.i64) (m:=((pre.length+X.length:Nat):Int)) (n:=(X1.length:Int)) (r:=((pre.length+D1.length:Nat):Int)) (eQ 25 _) (eQ 26 _) (.inr (.inl ⟨rfl,(by omega)⟩)) i6)),(7,.call (Sswap2 (ln:=(pre.length+X.length+Y.length+post.length)) (ia:=((pre.length+D1.length:Nat):Int)) (ib:=((pre.length+X.length:Nat):Int)) (ic:=(Y1.length:Int)) (r0:=(pre++D1++X1++Y1++D2++post)) (r1:=(pre++(D1++Y1)++Xb++Xa++D2++post)) (pre++D1) Xa Xb Y1 (D2++post) (by rw [hs1];simp only [bI]) (by first | (simp only [bI];done) | simp only [bI,cG]) (by first | exact hrow.symm | omega) (by first | omega | (simp only [bC];omega) | (simp only [bC,cD];omega) | simp only [bC]) (by first | omega | (simp only [bC];omega) | (simp only [bC,cD];omega) | simp only [bC]) (by omega) (by omega) (by omega)))] [23] [] [] [(0,.row 61 3 ((pre++(D1++Y1)++Xb++Xa++D2++post).map za2.d))] h fun a w h=>?_;refine Jf 1 [(2,.g (eR (op:=.sub) (d:=34) (xt:=3) (yt:=3) (k:=.i64) (m:=(X1.length:Int)) (n:=(Y1.length:Int)) (r:=(Xb.length:Int)) (eQ 32 _) (eQ 33 _) (.inr (.inl ⟨rfl,(by omega)⟩)) i6))] [] [(10,vN Xb.length)] h fun a w h=>?_;refine za6 (za3 ?_);rw [<- hs2] at h;refine za9 (x:=(D1,X1,Y1,D2)) (y:=((D1++Y1),Xb,Xa,D2)) h ?_ ?_
   ·exact ⟨by rw [<- q0,hs1];simp only [bI],by simp only [bC];omega,by omega,by omega,by omega⟩
   show Xb.length+Xa.length<X1.length+Y1.length;omega
  obtain ⟨Ya,Yb,hs1,hs3⟩:=split_at (l:=Y1) (n:=Y1.length - X1.length) (by omega);have hs2:Yb.length=X1.length:=by have:=congrArg List.length hs1;simp only [bC] at this;omega
  have hxl:Y1.length=Ya.length+Yb.length:=by rw [hs1,bC]
  refine Jg 1 [(3,.g (eR (op:=.sub) (d:=38) (xt:=3) (yt:=3) (k:=.i64) (m:=((pre.length+X.length:Nat):Int)) (n:=(X1.length:Int)) (r:=((pre.length+D1.length:Nat):Int)) (eQ 36 _) (eQ 37 _) (.inr (.inl ⟨rfl,(by omega)⟩)) i6)),(6,.g (eR (op:=.add) (d:=41) (xt:=3) (yt:=3) (k:=.i64) (m:=((pre.length+X.length:Nat):Int)) (n:=(Y1.length:Int)) (r:=((pre.length+X.length+Y1.length:Nat):Int)) (eQ 39 _) (eQ 40 _) (.inl ⟨rfl,(by omega)⟩) i6)),(8,.g (eR (op:=.sub) (d:=43) (xt:=3) (yt:=3) (k:=.i64) (m:=((pre.length+X.length+Y1.length:Nat):Int)) (n:=(X1.length:Int)) (r:=((pre.length+X.length+Ya.length:Nat):Int)) (eQ 41 _) (eQ 42 _) (.inr (.inl ⟨rfl,(by omega)⟩)) i6)),(11,.call (Sswap2 (ln:=(pre.length+X.length+Y.length+post.length)) (ia:=((pre.length+D1.length:Nat):Int)) (ib:=((pre.length+X.length+Ya.length:Nat):Int)) (ic:=(X1.length:Int)) (r0:=(pre++D1++X1++Y1++D2++post)) (r1:=(pre++D1++Yb++Ya++(X1++D2)++post)) (pre++D1) X1 Ya Yb (D2++post) (by rw [hs1];simp only [bI]) (by first | (simp only [bI];done) | simp only [bI,cG]) (by first | exact hrow.symm | omega) (by first | omega | (simp only [bC];omega) | (simp only [bC,cD];omega) | simp only [bC]) (by first | omega | (simp only [bC];omega) | (simp only [bC,cD];omega) | simp only [bC]) (by omega) (by omega) (by omega)))] [23] [] [] [(0,.row 61 3 ((pre++D1++Yb++Ya++(X1++D2)++post).map za2.d))] h fun a w h=>?_;refine Jf 1 [(2,.g (eR (op:=.sub) (d:=49) (xt:=3) (yt:=3) (k:=.i64) (m:=(Y1.length:Int)) (n:=(X1.length:Int)) (r:=(Ya.length:Int)) (eQ 47 _) (eQ 48 _) (.inr (.inl ⟨rfl,(by omega)⟩)) i6))] [] [(11,vN Ya.length)] h fun a w h=>?_;refine za6 (za3 ?_);rw [<- hs2] at h;refine za9 (x:=(D1,X1,Y1,D2)) (y:=(D1,Yb,Ya,(X1++D2))) h ?_ ?_
  ·exact ⟨by rw [<- q0,hs1];simp only [bI],by omega,by simp only [bC];omega,by omega,by omega⟩
  show Yb.length+Ya.length<X1.length+Y1.length;omega
 have hc4':=hc4;(try simp at hc4');refine exA (Jn 1 [(3,.g (eR (op:=.sub) (d:=53) (xt:=3) (yt:=3) (k:=.i64) (m:=((pre.length+X.length:Nat):Int)) (n:=(X1.length:Int)) (r:=((pre.length+D1.length:Nat):Int)) (eQ 51 _) (eQ 52 _) (.inr (.inl ⟨rfl,(by omega)⟩)) i6)),(7,.call (Sswap2 (ln:=(pre.length+X.length+Y.length+post.length)) (ia:=((pre.length+D1.length:Nat):Int)) (ib:=((pre.length+X.length:Nat):Int)) (ic:=(X1.length:Int)) (r0:=(pre++D1++X1++Y1++D2++post)) (r1:=(pre++D1++Y1++X1++D2++post)) (pre++D1) X1 [] Y1 (D2++post) (by simp only [bI,cG]) (by first | (simp only [bI];done) | simp only [bI,cG]) (by first | exact hrow.symm | omega) (by first | omega | (simp only [bC];omega) | (simp only [bC,cD];omega) | simp only [bC]) (by first | omega | (simp only [bC];omega) | (simp only [bC,cD];omega) | simp only [bC]) (by omega) (by omega) (by omega)))] [] [(0,.row 61 3 ((pre++D1++Y1++X1++D2++post).map za2.d))] h fun a w h=>?_);have hxs:(pre++D1++Y1++X1++D2++post:List za2)=pre++(Y++X)++post:=by rw [<- q0];simp only [bI]
 rw [hxs] at h;refine zha [] h Exit.normal (.inr rfl)  rfl trivial ?_;rfl
theorem th_2:zc2 eO 75:=zc2.mk' (by kernel_rfl)
theorem sgn0_t (h:(sgn z == 0)=true):z=0:=sgn_eq_zero.1 (by simpa using h)
theorem sgn0_f (h:(sgn z == 0)=false):z≠0:=fun e=>by rw [zdt e] at h;cases h
def kat (l:List za2) (q:Nat):Int:=match l[q]? with | some x=>x.v | none=>0
theorem zd5 {l:List za2} {x:za2} (h:l[q]?=some x):kat l q=x.v:=by simp [kat,h]
theorem kat_app {pre:List za2} {r:Nat} (h:q<X.length) (hr:r=pre.length+q):kat (pre++X++post) r=kat X q:=by
 subst hr
 simp only [kat]
 rw [bI,cZ (by omega),cW,cY h]
theorem zdu:∀ {X:List za2}, Ris za2.v X->∀ {p q:Nat}, p<=q->q<X.length->kat X p<=kat X q
 | [],_,_,_,_,hq=>by simp at hq
 | x :: X,h,0,0,_,_=>Int.le_refl _
 | x :: X,h,0,q+1,_,hq=>by
  have hq':q<X.length:=by simpa using hq
  have h1:=h.1 _ (dO hq')
  have e1:kat (x :: X) 0=x.v:=zd5 rfl
  have e2:kat (x :: X) (q+1)=X[q].v:=zd5 (by rw [dL];exact bF hq')
  rw [e1,e2];exact h1
 | x :: X,h,p+1,q+1,hpq,hq=>by
  have h1:=zdu h.2 (p:=p) (q:=q) (by omega) (by simpa using hq)
  simpa [kat] using h1
theorem zea {y:za2} (h:y ∈ X):∃ q,q<X.length/\kat X q=y.v:=by
 obtain ⟨q,hq⟩:=dQ.1 h
 exact ⟨q,(bE.1 hq).1,zd5 hq⟩
theorem kat_l (h:q<X.length):kat (X++Y) q=kat X q:=by simp only [kat];rw [cY h]
theorem kat_r:kat (X++Y) (X.length+q)=kat Y q:=by simp only [kat];rw [cZ (by omega),cW]
theorem zgh {l:List α} (h:l.length=0):l=[]:=cJ.1 h
theorem sym3 {a1 a2 b1 b2:List za2} (hX:Ris za2.v (a1++a2)) (hY:Ris za2.v (b1++b2)) (h1:a1.length=0\/b2.length=0\/kat (a1++a2) (a1.length - 1)<=kat (b1++b2) b1.length) (h2:a2.length=0\/b1.length=0\/kat (b1++b2) (b1.length - 1)<kat (a1++a2) a1.length) :
  ssV za2.v (a1++b1)++ssV za2.v (a2++b2)=ssV za2.v (a1++a2++(b1++b2)):=by
 refine sym_merge hX hY (fun x hx y hy=>?_) (fun x hx y hy=>?_)
 ·obtain ⟨q,hq,eq⟩:=zea hx
  obtain ⟨r,hr,er⟩:=zea hy
  rcases h1 with h | h | h
  ·omega
  ·omega
  ·have g1:=zdu hX (p:=q) (q:=a1.length - 1) (by omega) (by rw [bC];omega)
   have g2:=zdu hY (p:=b1.length) (q:=b1.length+r) (by omega) (by rw [bC];omega)
   rw [kat_l hq] at g1
   rw [kat_r] at g2
   omega
 ·obtain ⟨q,hq,eq⟩:=zea hx
  obtain ⟨r,hr,er⟩:=zea hy
  rcases h2 with h | h | h
  ·omega
  ·omega
  ·have g1:=zdu hX (p:=a1.length) (q:=a1.length+q) (by omega) (by rw [bC];omega)
   have g2:=zdu hY (p:=r) (q:=b1.length - 1) (by omega) (by rw [bC];omega)
   rw [kat_r] at g1
   rw [kat_l hr] at g2
   omega
theorem sym1 {x:za2} {b1 b2:List za2} (hY:Ris za2.v (b1++b2)) (h1:b1.length=0\/kat (b1++b2) (b1.length - 1)<x.v) (h2:b2.length=0\/x.v<=kat (b1++b2) b1.length):b1++x :: b2=ssV za2.v ([x]++(b1++b2)):=by
 refine sym_left hY (fun y hy=>?_) (fun y hy=>?_)
 ·obtain ⟨r,hr,er⟩:=zea hy
  have g2:=zdu hY (p:=b1.length) (q:=b1.length+r) (by omega) (by rw [bC];omega)
  rw [kat_r] at g2
  rcases h2 with h | h <;> omega
 ·obtain ⟨r,hr,er⟩:=zea hy
  have g2:=zdu hY (p:=r) (q:=b1.length - 1) (by omega) (by rw [bC];omega)
  rw [kat_l hr] at g2
  rcases h1 with h | h <;> omega
theorem sym2 {y:za2} {a1 a2:List za2} (hX:Ris za2.v (a1++a2)) (h1:a1.length=0\/kat (a1++a2) (a1.length - 1)<=y.v) (h2:a2.length=0\/y.v<kat (a1++a2) a1.length):a1++y :: a2=ssV za2.v (a1++a2++[y]):=by
 refine sym_right hX (fun x hx=>?_) (fun x hx=>?_)
 ·obtain ⟨r,hr,er⟩:=zea hx
  have g2:=zdu hX (p:=r) (q:=a1.length - 1) (by omega) (by rw [bC];omega)
  rw [kat_l hr] at g2
  rcases h1 with h | h <;> omega
 ·obtain ⟨r,hr,er⟩:=zea hx
  have g2:=zdu hX (p:=a1.length) (q:=a1.length+r) (by omega) (by rw [bC];omega)
  rw [kat_r] at g2
  rcases h2 with h | h <;> omega
theorem zfg {l:List za2} (h:n<=l.length):∃ u v,l=u++v/\u.length=n:=⟨l.take n,l.drop n,(eE _ _).symm,by rw [bJ];omega⟩
section
variable {pre X Y post:List za2}
theorem katX {r:Nat} (h:q<X.length) (hr:r=pre.length+q):kat (pre++X++Y++post) r=kat X q:=by
 rw [show pre++X++Y++post=pre++X++(Y++post) by simp only [bI]];exact kat_app h hr
theorem katY {r:Nat} (h:q<Y.length) (hr:r=pre.length+X.length+q):kat (pre++X++Y++post) r=kat Y q :=
 kat_app (pre:=pre++X) h (by rw [bC];exact hr)
theorem srch1 (hX:X.length=1) (hY:Ris za2.v Y) (l1:pre.length+1<=i) (l2:i<=pre.length+1+Y.length) (h1:i=pre.length+1\/kat (pre++X++Y++post) (i - 1)<kat (pre++X++Y++post) pre.length) (h2:i=pre.length+1+Y.length\/kat (pre++X++Y++post) pre.length<=kat (pre++X++Y++post) i) :
  ∃ x b1 b2,X=[x]/\Y=b1++b2/\i=pre.length+1+b1.length/\b1++x :: b2=ssV za2.v (X++Y):=by
 obtain ⟨x,rfl⟩:=eN.1 hX
 obtain ⟨b1,b2,rfl,hb⟩:=zfg (l:=Y) (n:=i - (pre.length+1)) (by omega)
 rw [bC] at l2 h2
 refine ⟨x,b1,b2,rfl,rfl,by omega,sym1 hY ?_ ?_⟩
 ·rcases h1 with h | h
  ·exact .inl (by omega)
  ·by_cases h0:b1.length=0
   ·exact .inl h0
   ·rw [katX (r:=pre.length) (q:=0) (by simp) (by simp),katY (r:=i - 1) (q:=b1.length - 1) (by rw [bC];omega) (by simp;omega)] at h
    exact .inr h
 ·rcases h2 with h | h
  ·exact .inl (by omega)
  ·by_cases h0:b2.length=0
   ·exact .inl h0
   ·rw [katX (r:=pre.length) (q:=0) (by simp) (by simp),katY (r:=i) (q:=b1.length) (by rw [bC];omega) (by simp;omega)] at h
    exact .inr h
theorem srch2 (hY:Y.length=1) (hX:Ris za2.v X) (l1:pre.length<=i) (l2:i<=pre.length+X.length) (h1:i=pre.length\/kat (pre++X++Y++post) (i - 1)<=kat (pre++X++Y++post) (pre.length+X.length)) (h2:i=pre.length+X.length\/kat (pre++X++Y++post) (pre.length+X.length)<kat (pre++X++Y++post) i) :
  ∃ y a1 a2,Y=[y]/\X=a1++a2/\i=pre.length+a1.length/\a1++y :: a2=ssV za2.v (X++Y):=by
 obtain ⟨y,rfl⟩:=eN.1 hY
 obtain ⟨a1,a2,rfl,hb⟩:=zfg (l:=X) (n:=i - pre.length) (by omega)
 have l2:i<=pre.length+(a1.length+a2.length):=by rw [bC] at l2;exact l2
 refine ⟨y,a1,a2,rfl,rfl,by omega,sym2 hX ?_ ?_⟩
 ·rcases h1 with h | h
  ·exact .inl (by omega)
  ·by_cases h0:a1.length=0
   ·exact .inl h0
   ·rw [katY (r:=pre.length+(a1++a2).length) (q:=0) (by simp) (by simp),katX (r:=i - 1) (q:=a1.length - 1) (by rw [bC];omega) (by omega)] at h
    exact .inr h
 ·rcases h2 with h | h
  ·rw [bC] at h;exact .inl (by omega)
  ·by_cases h0:a2.length=0
   ·exact .inl h0
   ·rw [katX (r:=i) (q:=a1.length) (by rw [bC];omega) (by omega),katY (r:=pre.length+(a1++a2).length) (q:=0) (by simp) (by simp)] at h
    exact .inr h
theorem srch3 {s e:Nat} (hX:Ris za2.v X) (hY:Ris za2.v Y) (l1:pre.length<=s) (l2:s<=pre.length+X.length) (l3:pre.length+X.length<=e) (l4:e<=pre.length+X.length+Y.length)
  (h1:s=pre.length\/e=pre.length+X.length+Y.length\/kat (pre++X++Y++post) (s - 1)<=kat (pre++X++Y++post) e) (h2:s=pre.length+X.length\/e=pre.length+X.length\/kat (pre++X++Y++post) (e - 1)<kat (pre++X++Y++post) s) :
  ∃ a1 a2 b1 b2,X=a1++a2/\Y=b1++b2/\s=pre.length+a1.length/\e=pre.length+X.length+b1.length/\ssV za2.v (a1++b1)++ssV za2.v (a2++b2)=ssV za2.v (X++Y)/\Ris za2.v a1/\Ris za2.v a2/\Ris za2.v b1/\Ris za2.v b2:=by
 obtain ⟨a1,a2,rfl,ha⟩:=zfg (l:=X) (n:=s - pre.length) (by omega)
 obtain ⟨b1,b2,rfl,hb⟩:=zfg (l:=Y) (n:=e - (pre.length+(a1++a2).length)) (by omega)
 have rX:=Ris.app.1 hX
 have rY:=Ris.app.1 hY
 have la:(a1++a2).length=a1.length+a2.length:=bC
 have lb:(b1++b2).length=b1.length+b2.length:=bC
 refine ⟨a1,a2,b1,b2,rfl,rfl,by omega,by omega,sym3 hX hY ?_ ?_,rX.1,rX.2.1,rY.1,rY.2.1⟩
 ·by_cases g1:a1.length=0
  ·exact .inl g1
  by_cases g2:b2.length=0
  ·exact .inr (.inl g2)
  rcases h1 with h | h | h
  ·omega
  ·omega
  ·rw [katX (r:=s - 1) (q:=a1.length - 1) (by omega) (by omega),katY (r:=e) (q:=b1.length) (by omega) (by omega)] at h
   exact .inr (.inr h)
 ·by_cases g1:a2.length=0
  ·exact .inl g1
  by_cases g2:b1.length=0
  ·exact .inr (.inl g2)
  rcases h2 with h | h | h
  ·omega
  ·omega
  ·rw [katX (r:=s) (q:=a1.length) (by omega) (by omega),katY (r:=e - 1) (q:=b1.length - 1) (by omega) (by omega)] at h
   exact .inr (.inr h)
end
theorem up_at {q r:List za2} {x:za2} (k:Nat) (hk:k=p.length+t) (ht:t<=q.length):(p++q.take t++x :: (q.drop t++r))[k]?=some x:=zfn k (by rw [bC,bJ];omega)
theorem up_nx {q r:List za2} {x y:za2} (k:Nat) (hk:k=p.length+t+1) (hy:q[t]?=some y):(p++q.take t++x :: (q.drop t++r))[k]?=some y:=by
 obtain ⟨ht,rfl⟩:=bE.1 hy
 have e:q.drop t=q[t] :: q.drop (t+1):=cQ ht
 have e2:p++q.take t++x :: (q.drop t++r)=(p++q.take t++[x])++q[t] :: (q.drop (t+1)++r):=by rw [e];simp only [bI,cF,cG]
 rw [e2]
 exact zfn k (by simp only [bC,bJ,bN,cD];omega)
theorem up_step {q r:List za2} {x y:za2} (k k1:Nat) (hk:k=p.length+t) (hk1:k1=k+1) (hy:q[t]?=some y):((p++q.take t++x :: (q.drop t++r)).set k y).set k1 x=p++q.take (t+1)++x :: (q.drop (t+1)++r):=by
 obtain ⟨ht,rfl⟩:=bE.1 hy
 have e:q.drop t=q[t] :: q.drop (t+1):=cQ ht
 have tx:q.take (t+1)=q.take t++[q[t]]:=by rw [cN,bF ht];rfl
 have hl:k=(p++q.take t).length:=by rw [bC,bJ];omega
 rw [e,tx,hk1,hl,cO _ _ (bS _),dH,dE,cO _ _ (by omega),cW,cF,eH,dE]
 simp only [bI,cF,cG]
theorem dn_step {q r:List za2} {x y:za2} (k k1:Nat) (hk:k=p.length+t) (hk1:k1=k - 1) (ht:0<t) (hy:q[t - 1]?=some y):((p++q.take t++x :: (q.drop t++r)).set k y).set k1 x=p++q.take (t - 1)++x :: (q.drop (t - 1)++r):=by
 obtain ⟨t,rfl⟩:∃ s,t=s+1:=⟨t - 1,by omega⟩
 rw [eF] at hy ⊢
 obtain ⟨ht,rfl⟩:=bE.1 hy
 have e:q.drop t=q[t] :: q.drop (t+1):=cQ ht
 have tx:q.take (t+1)=q.take t++[q[t]]:=by rw [cN,bF ht];rfl
 have hl:k=(p++q.take t).length+1:=by rw [bC,bJ];omega
 have hl1:k1=(p++q.take t).length:=by omega
 have e2:p++(q.take t++[q[t]])++x :: (q.drop (t+1)++r)=(p++q.take t)++q[t] :: x :: (q.drop (t+1)++r):=by simp only [bI,cF,cG]
 rw [e,tx,e2,hl1,hl,cO _ _ (by omega),cW,eH,dE,cO _ _ (bS _),dH,dE]
 simp only [bI,cF,cG]
theorem dn_nx {q r:List za2} {x y:za2} (k:Nat) (hk:k+1=p.length+t) (ht:0<t) (hy:q[t - 1]?=some y):(p++q.take t++x :: (q.drop t++r))[k]?=some y:=by
 obtain ⟨t,rfl⟩:∃ s,t=s+1:=⟨t - 1,by omega⟩
 rw [eF] at hy
 obtain ⟨ht,rfl⟩:=bE.1 hy
 have tx:q.take (t+1)=q.take t++[q[t]]:=by rw [cN,bF ht];rfl
 have e2:p++q.take (t+1)++x :: (q.drop (t+1)++r)=(p++q.take t)++q[t] :: (x :: (q.drop (t+1)++r)):=by rw [tx];simp only [bI,cF,cG]
 rw [e2]
 exact zfn k (by simp only [bC,bJ];omega)
theorem half (x:Nat):(x:Int).fdiv (2 ^ 1)=((x / 2:Nat):Int):=by
 rw [Int.fdiv_eq_ediv_of_nonneg _ (by decide)];omega
inductive BO:Option Operand->Nat->Nat->List (Nat × V)->Prop
  | no (n:Nat):BO none n n []
  | yes {y:Operand} {k:IntKind} {i:Nat} {rs:List (Nat × V)} (n:Nat) (h:OV y (vi k i) rs):BO (some y) n i rs
section
variable {P:Program}
theorem BO.low {x:Option Operand} (hx:BO x 0 l rs) {w:World} (hok:Ok e f H B a w) (hr:∀ p ∈ rs,f.s p.1=some p.2) (hl:l<=h) (c:BoundsCode) :
  (match x.map a.eval with | some v=>Instr.sliceBound v h c | none=>pure 0).run P w = .ok l w:=by
 cases hx with
 | no=>simp
 | yes _ hv =>
  have h2:=(hv.eval hok hr).rawI
  simp only [cT]
  rw [h2,run_sliceBound (P:=P) w _ _ h c (by omega) (by omega)]
  simp
theorem BO.high {x:Option Operand} (hx:BO x n l rs) {w:World} (hok:Ok e f H B a w) (hr:∀ p ∈ rs,f.s p.1=some p.2) (hl:l<=h) (c:BoundsCode) :
  (match x.map a.eval with | some v=>Instr.sliceBound v h c | none=>pure n).run P w = .ok l w:=by
 cases hx with
 | no=>simp
 | yes _ hv =>
  have h2:=(hv.eval hok hr).rawI
  simp only [cT]
  rw [h2,run_sliceBound (P:=P) w _ _ h c (by omega) (by omega)]
  simp
theorem zgc {lo hi:Option Operand} {len cap:Nat} {is:Bool} (hl:BO lo 0 l rs) (hh:BO hi len h rs') {w:World} (hok:Ok e f H B a w) (hr:∀ p ∈ rs,f.s p.1=some p.2) (hr':∀ p ∈ rs', f.s p.1=some p.2)
  (h1:l<=h) (h2:h<=cap):(Instr.sliceBounds is len cap (lo.map a.eval) (hi.map a.eval) none).run P w = .ok (l,h,cap) w:=by
 have g1:=hl.low (P:=P) hok hr h1 .sliceB
 have g2:=hh.high (P:=P) hok hr' h2 (if is then .sliceAcap else .sliceAlen)
 cases lo with
 | none =>
  cases hi with
  | none=>cases hl;cases hh;simp [Instr.sliceBounds]
  | some y=>simp only [cT,Option.map_none] at g1 g2 ⊢;cases hl;simp [Instr.sliceBounds,g2]
 | some x =>
  cases hi with
  | none=>simp only [cT,Option.map_none] at g1 g2 ⊢;cases hh;simp [Instr.sliceBounds,g1]
  | some y=>simp only [cT] at g1 g2 ⊢;simp [Instr.sliceBounds,g1,g2]
theorem zgb {t:TypeId} (hs:SlT P t el es) {len cap:Nat} {lo hi:Option Value} {w:World} (hb:(Instr.sliceBounds true len cap lo hi none).run P w = .ok (l,h,cap) w) :
  (Instr.sliceAt t (.slice ao len cap) lo hi none).run P w = .ok (.slice (if cap=l then ao else ao.map (·.add (l*es))) (h - l) (cap - l)) w:=by
 simp only [Instr.sliceAt,Instr.slice,Sem.run_bind,run_underlying hs.hu,Result.andThen_ok,hb,size_run hs.hs,Sem.run_pure]
theorem Ok.ownCap {w:World} (h:Ok e f H B a w) (hl:f.l n=some (.row ty es rows)) {len:Nat} (hk:k<=rows.length) (hv:CR H B (.own n len) v) :
  ∃ ao c,v = .slice ao len c/\k<=c/\((B n=none/\len=0/\c=0)\/∃ b,B n=some (b,c)/\ao=some ⟨b,0,none⟩):=by
 simp only [CR] at hv
 cases hB:B n with
 | none =>
  rw [hB] at hv
  obtain ⟨rfl,ao,rfl⟩:=hv
  have h1:=h.loc n _ hl
  simp only [LR,hB] at h1
  rw [h1] at hk
  exact ⟨ao,0,rfl,hk,.inl ⟨rfl,rfl,rfl⟩⟩
 | some q =>
  obtain ⟨b,c⟩:=q
  rw [hB] at hv
  obtain ⟨arr,g1,g2,g3,g4,g5,g6⟩:=h.row hl hB
  exact ⟨_,c,hv,by omega,.inr ⟨b,rfl,rfl⟩⟩
theorem Op.sliceLo {d len:Nat} {k:IntKind} {pos af gd} (hs:SlT P xt el es) (hlen:len<=rows.length) (hy:OV y (vi k l) rs) (h1:l<=len) {len':Nat} (he:len - l=len') :
  zav P ⟨some d,.slice xt (.tmp t) (some y) none none,ty,pos,af,gd⟩ { rs:=(t,.t (.c (.own n len))) :: rs,rl:=[(n,.row rty es rows)],ws:=[(d,some (.t (.c (.sub n (l*es) len'))))] } :=
 zav.value d _ rfl rfl rfl fun e f H B a w hok hr2=>by
  have g1:=hok.slot t _ (hr2.1 (t,.t (.c (.own n len))) (by simp))
  obtain ⟨ao,c,hv,hc,hB⟩:=hok.ownCap (hr2.2 (n,.row rty es rows) (by simp)) hlen g1
  have hv:a.eval (.tmp t) = .slice ao len c:=hv
  subst he
  have hb:=zgc (P:=P) (is:=true) (lo:=some y) (hi:=none) (len:=len) (cap:=c) (BO.yes 0 hy) (BO.no len) hok (fun p hp=>hr2.1 p (by simp [hp])) (fun p hp=>by cases hp) h1 hc
  have hrun:=zgb (ao:=ao) hs hb
  refine ⟨.slice (if c=l then ao else ao.map (·.add (l*es))) (len - l) (c - l),?_,⟨⟨_,_,rfl⟩,fun hlt=>?_⟩⟩
  ·generalize a.eval=ρ at hv hrun ⊢
   have hrun':(Instr.sliceAt xt (ρ (.tmp t)) ((some y).map ρ) ((none:Option Operand).map ρ) ((none:Option Operand).map ρ)).run P w = .ok (.slice (if c=l then ao else ao.map (·.add (l*es))) (len - l) (c - l)) w:=by rw [hv];exact hrun
   simp only [execOp,Sem.run_bind,hrun', Result.andThen_ok,Sem.run_pure]
  ·rcases hB with ⟨_,h3,_⟩ | ⟨b,h3,rfl⟩
   ·omega
   ·refine ⟨b,c,c - l,h3,?_⟩
    rw [if_neg (by omega)]
    simp only [cT,Addr.add_mid,cP]
theorem Op.sliceHi {d len:Nat} {k:IntKind} {pos af gd} (hs:SlT P xt el es) (hlen:h<=rows.length) (hy:OV y (vi k h) rs) :
  zav P ⟨some d,.slice xt (.tmp t) none (some y) none,ty,pos,af,gd⟩ { rs:=(t,.t (.c (.own n len))) :: rs,rl:=[(n,.row rty es rows)],ws:=[(d,some (.t (.c (.own n h))))] } :=
 zav.value d _ rfl rfl rfl fun e f H B a w hok hr2=>by
  have g1:=hok.slot t _ (hr2.1 (t,.t (.c (.own n len))) (by simp))
  obtain ⟨ao,c,hv,hc,hB⟩:=hok.ownCap (hr2.2 (n,.row rty es rows) (by simp)) hlen g1
  have hv:a.eval (.tmp t) = .slice ao len c:=hv
  have hb:=zgc (P:=P) (is:=true) (lo:=none) (hi:=some y) (len:=len) (cap:=c) (BO.no 0) (BO.yes len hy) hok (fun p hp=>by cases hp) (fun p hp=>hr2.1 p (by simp [hp])) (bL _) (by omega)
  have hrun:=zgb (ao:=ao) hs hb
  have e1:(if c=0 then ao else ao.map (·.add (0*es)))=ao:=by
   split
   ·rfl
   ·rcases hB with ⟨_,_,h3⟩ | ⟨b,h3,rfl⟩
    ·omega
    ·simp [Addr.add_mid]
  rw [e1] at hrun
  refine ⟨.slice ao h c,?_,?_⟩
  ·generalize a.eval=ρ at hv hrun ⊢
   have hrun':(Instr.sliceAt xt (ρ (.tmp t)) ((none:Option Operand).map ρ) ((some y).map ρ) ((none:Option Operand).map ρ)).run P w = .ok (.slice ao h c) w:=by rw [hv];exact hrun
   simp only [execOp,Sem.run_bind,hrun', Result.andThen_ok,Sem.run_pure]
  ·show CR H B (.own n h) _
   simp only [CR]
   rcases hB with ⟨h2,h3,h4⟩ | ⟨b,h3,rfl⟩
   ·rw [h2];exact ⟨by omega,ao,by rw [show h=0 by omega,h4]⟩
   ·rw [h3]
theorem Op.clearCut {o:Option Nat} {len:Nat} {zs:List C} {pos af gd} (hu:P.underlying xt=some (.slice el)) (hz:Zero P el zs) (hzl:zs.length=es) (ho:off=l*es) (hlen:l+len=rows.length)
  (x:List (Nat × Option V)) (hx:x=(match o with | none=>[] | some d=>[(d,some (.tup []))])) :
  zav P ⟨o,.call { callee:=.builtin .clear,args:=#[.tmp t],argTypes:=#[xt] }, ty,pos,af,gd⟩ { rs:=[(t,.t (.c (.sub n off len)))],rl:=[(n,.row rty es rows)],ws:=x,wl:=[(n,some (.row rty es (rows.take l)))] }:=by
 rintro e f a w Q ⟨H,B,hok⟩ hr2 hnw hb0
 have hfl:=hr2.2 (n,.row rty es rows) (by simp)
 have hv:CR H B (.sub n off len) (a.eval (.tmp t)):=hok.slot t _ (hr2.1 (t,.t (.c (.sub n off len))) (by simp))
 obtain ⟨⟨ao,c,hv⟩,hv2⟩:=hv
 obtain ⟨z,zl,hz1,hz2,hz3⟩:=hz.ex
 have hzl2:zl.length=es:=by rw [<- (hz3 H B).length];exact hzl
 -- the run
 obtain ⟨w', hrun,hw'⟩:∃ w', (Builtin.clear_ #[xt] ty #[a.eval (.tmp t)]).run P w = .ok (.tuple #[]) w'/\Ok e ⟨f.s,fun m=>if m=n then some (.row rty es (rows.take l)) else f.l m⟩ H B a w':=by
  have cut:Ok e ⟨f.s,fun m=>if m=n then some (.row rty es (rows.take l)) else f.l m⟩ H B a w:=by
   obtain ⟨H', B', h'⟩:=(show St e f a w from ⟨H,B,hok⟩).cutR n l es rty hfl
   have h1:=hok.setL n _ (.row rty es (rows.take l)) hfl fun hu=>by
    simp only [LR] at hu ⊢
    split at hu
    ·rw [hu];simp
    ·obtain ⟨arr,h1,h2,h3,h4,h5,h6⟩:=hu
     have h5':∀ r ∈ rows.take l,r.length=es:=fun r hr=>h5 r (dP hr)
     have h3':(rows.take l).length<=_:=cH (by rw [bJ];omega) h3
     refine ⟨arr,h1,h2,h3', h4,h5', (zc6 h2 h3' h5').2 fun i r hr f x hx=>?_⟩
     rw [bX] at hr
     split at hr
     ·exact (zc6 h2 h3 h5).1 h6 i r hr f x hx
     ·cases hr
   refine ⟨h1.df,h1.n,h1.ext,h1.sat,h1.slot,fun m y hy=>h1.loc m y ?_,fun m y b c hy=>h1.priv m y b c ?_,fun m k y y' b c c' hy hy'=>h1.inj m k y y' b c c' ?_ ?_,h1.low,h1.le,h1.keep,h1.tab⟩ <;> (simp only [F.setL];first | (simpa using hy) | (simpa using hy'))
  by_cases h0:len=0
  ·subst h0
   refine ⟨w,?_,cut⟩
   rw [hv]
   cases ao <;> simp [Builtin.clear_,run_underlying hu]
  ·obtain ⟨b,cc,k,hB,hv3⟩:=hv2 (by omega)
   obtain ⟨arr,hcl,h2,h3,h4,h5,h6⟩:=hok.row hfl hB
   have hzc:((Builtin.zeroCells z.cells len).toList).length=len*es:=by simp [Builtin.zeroCells,hz2,hzl2]
   have hle:rows.length*es<=cc*es:=bP _ h3
   have hfit:off+len*es<=arr.length:=by rw [h2,ho,<- bU,hlen];exact hle
   obtain ⟨k1,k2,k3,k4,k5,k6⟩:=zcs (Builtin.zeroCells z.cells len).toList off w arr hcl
   refine ⟨w.setCells b off (Builtin.zeroCells z.cells len).toList,?_,?_⟩
   ·have hst:=run_storeCells_cells (P:=P) b off (Builtin.zeroCells z.cells len).toList 0 w (fun j hj=>by
     rw [zd7 hcl (o:=off+0+j) (v:=arr[off+0+j]'(by omega)) (bF _)];rfl) (fun j hj=>by simp [World.frozen?, hcl]) (fun v hv=>by
     simp only [Builtin.zeroCells,hz2,Array.toList_map,dB] at hv
     obtain ⟨i,hi,rfl⟩:=hv
     have hm:i % zl.length<zl.length:=by
      refine dG _ (dM fun e0=>?_)
      have hi':i<len*zl.length:=by simpa using hi
      rw [e0] at hi';omega
     have e1:((⟨zl⟩:Array Value)[i % (⟨zl⟩:Array Value).size]!)=zl[i % zl.length]:=by simp [hm]
     rw [e1]
     obtain ⟨y,hy,hR⟩:=(hz3 H B).get (i % zl.length) (by rw [(hz3 H B).length];exact hm)
     rw [bF hm] at hy
     injection hy with hy
     rw [hy]
     exact zfs (CR.flat hR))
    have hzv:∀ w', (zeroValue el).run P w' = .ok z w':=fun w'=>Zero.run hz1 w'
    rw [hv3]
    cases len with
    | zero=>omega
    | succ m =>
     simp at hst
     simp [Builtin.clear_,hst,run_underlying hu,hzv]
   ·refine (hok.write (g:=⟨f.s,fun m=>if m=n then some (.row rty es (rows.take l)) else f.l m⟩) (l' := .row rty es (rows.take l)) hfl hB (fun _=>rfl) (fun _=>rfl) k2 k3 k4 k5 k6 ?_)
    simp only [LR,hB]
    have h5':∀ r ∈ rows.take l,r.length=es:=fun r hr=>h5 r (dP hr)
    have h3':(rows.take l).length<=cc:=cH (by rw [bJ];omega) h3
    refine ⟨zh3 arr off (Builtin.zeroCells z.cells len).toList,k1,by rw [zci];exact h2,h3', h4,h5', (zc6 (by rw [zci];exact h2) h3' h5').2 fun i r hr f x hx=>?_⟩
    rw [bX] at hr
    split at hr
    ·rename_i hil
     obtain ⟨u,j1,j2⟩:=h6 i r hr f x hx
     have hf:f<es:=by rw [<- h5 r (bV hr)];exact (bE.1 hx).1
     have:(i+1)*es<=l*es:=bP _ hil
     rw [bU] at this
     refine ⟨u,?_,j2⟩
     rw [zhb _ arr off _ (by omega),if_neg (by omega)]
     exact j1
    ·cases hr
 have hex:(execOp a.eval ⟨o,.call { callee:=.builtin .clear,args:=#[.tmp t],argTypes:=#[xt] }, ty,pos,af,gd⟩).run P w = .ok (.value (.tuple #[])) w':=by
  generalize a.eval=ρ at hrun ⊢
  have e1:(Array.map ρ #[.tmp t])=#[ρ (.tmp t)]:=by simp
  simp only [execOp,resolve,e1,Sem.run_bind,Sem.run_pure,Result.andThen_ok,invoke,builtin,hrun]
 unfold Oper.wp
 rw [hex,Oper.upon_value]
 subst hx
 cases o with
 | none=>exact St.put0 ⟨H,B,hw'⟩ rfl (app0_s _ _ rfl) (fun m=>app1_l f n _ _ rfl m)
 | some d=>exact ⟨H,B,hw'.put (x:=some (.tup [])) (hb0.1 (d,some (.tup [])) (by simp)) (zh0 f d _ _ rfl) (fun m=>app1_l f n _ _ rfl m) (fun y hy=>by injection hy with hy;subst hy;exact ⟨[],rfl,trivial⟩)⟩
theorem Op.clearCut' {o:Option Nat} {len:Nat} {zs:List C} {pos af gd} (hu:P.underlying xt=some (.slice el)) (hz:Zero P el zs) (hzl:zs.length=es) (ho:off=l*es) (hlen:l+len=rows.length)
  (x:List (Nat × Option V)) (hx:x=(match o with | none=>[] | some d=>[(d,some (.tup []))])) (hr:rows.take l=rows') :
  zav P ⟨o,.call { callee:=.builtin .clear,args:=#[.tmp t],argTypes:=#[xt] }, ty,pos,af,gd⟩ { rs:=[(t,.t (.c (.sub n off len)))],rl:=[(n,.row rty es rows)],ws:=x,wl:=[(n,some (.row rty es rows'))] }:=by
 subst hr
 exact Op.clearCut hu hz hzl ho hlen x hx
theorem midH {w:World} {x y:Code} (_h:St ⟨w0,H0,B0,K,N⟩ (F.of sl lc) a w) (sl':List (Nat × V)) (lc':List (Nat × L))
  (hx:x.wp P (Exit.then (fun a w=>St ⟨w0,H0,B0,K,N⟩ (F.of sl' lc') a w) Q) a w) (hy:∀ a w,St ⟨w0,H0,B0,K,N⟩ (F.of sl' lc') a w->y.wp P Q a w):(Code.seq x y).wp P Q a w:=midS sl' lc' hx hy
theorem nilDSr {w:World} (t j es:Nat) (v:V) (ao:Option Addr) (c:Nat) (h1:ao=none->c=0) (h2:c<=maxLen) (sl':List (Nat × V)) (lc':List (Nat × L)) (h:St ⟨w0,H0,B0,K,N⟩ (F.of sl lc) a w) (hv:sl.lookup t=some v) (hg:v.getC j=some (.d (.raw (.slice ao 0 c))))
  (h3:leS ((F.of sl lc).setS t (v.setC j (.d (.sl es [])))) sl'=sl'.map fun p=>some p.2:=by kernel_rfl) (h4:leN ((F.of sl lc).setS t (v.setC j (.d (.sl es [])))) lc'=lc'.map fun p=>some p.2:=by kernel_rfl):St ⟨w0,H0,B0,K,N⟩ (F.of sl' lc') a w :=
 (h.nilDS t j es (ao:=ao) hv hg h1 h2).weaken (zh4 h3 h4)
theorem run_eqNil (hu:P.underlying xt=some (.slice el)) (ao:Option Addr) (n c:Nat) (x y:Operand) (w:World) :
  (do eqGuard .eql xt x y (.slice ao n c) zb2;binOp .eql xt (.slice ao n c) zb2:Sem Value).run P w = .ok (.bool ao.isNone) w:=by
 have h1:(eqGuard .eql xt x y (.slice ao n c) zb2).run P w = .ok () w:=by simp [eqGuard,zb2]
 have h2:(binOp .eql xt (.slice ao n c) zb2).run P w = .ok (.bool ao.isNone) w:=by
  show (do pure (Value.bool (<- Op.equal xt (.slice ao n c) (.slice none 0 0))):Sem Value).run P w=_
  simp only [Sem.run_bind,run_equal_slice_nil (P:=P) w xt el ao n c hu,Result.andThen_ok,Sem.run_pure]
 simp only [Sem.run_bind,h1,Result.andThen_ok,h2]
theorem Op.eqNilR {d:Nat} {c:Nat} {pos af gd} (hu:P.underlying xt=some (.slice el)) (h:OV x (.t (.c (.d (.raw (.slice ao n c))))) rs) (h':OV y (.t (.c (.d (.raw zb2)))) rs') :
  zav P ⟨some d,.binOp .eql xt x y yt,ty,pos,af,gd⟩ { rs:=rs++rs', ws:=[(d,some (vb ao.isNone))] }:=by
 refine Op.raw2 rfl h h' rfl fun ρ w h1 h2=>?_
 have:=run_eqNil (P:=P) hu ao n c x y w
 simp only [Sem.run_bind] at this
 simp only [execOp,h1,h2,Sem.run_bind,this,Result.andThen_ok,Sem.run_pure]
theorem Op.eqNilD {d:Nat} {pos af gd} (hu:P.underlying xt=some (.slice el)) (hn:0<rows.length) (h':OV y (.t (.c (.d (.raw zb2)))) rs') :
  zav P ⟨some d,.binOp .eql xt (.tmp t) y yt,ty,pos,af,gd⟩ { rs:=(t,.t (.c (.d (.sl es rows)))) :: rs', ws:=[(d,some (vb false))] } :=
 zav.value d _ rfl rfl rfl fun e f H B a w hok hr2=>by
  have h1:=hok.slot t _ (hr2.1 (t,.t (.c (.d (.sl es rows)))) (by simp))
  have h2:a.eval y=zb2:=(h'.eval hok fun p hp=>hr2.1 p (by simp [hp])).rawI
  have h3:DR H (.sl es rows) (a.eval (.tmp t)):=h1
  generalize hv0:a.eval (.tmp t)=v at h3
  cases h3 with
  | nil ao c=>simp at hn
  | sl _ _ b o c arr ty' fz vs hp hb hl hc hes hv hx =>
   refine ⟨.bool false,?_,DR.raw _ rfl⟩
   generalize a.eval=ρ at hv0 h2 ⊢
   have:=run_eqNil (P:=P) hu (some ⟨b,o,none⟩) rows.length c (.tmp t) y w
   simp only [Sem.run_bind] at this
   simp only [execOp,hv0,h2,Sem.run_bind,this,Result.andThen_ok,Sem.run_pure]
   rfl
theorem Fn.rawE {k:FuncId} {ps qs:List (Nat × L)} {res:V} (h:∀ (ao:Option Addr) (c:Nat),(ao=none->c=0)->c<=maxLen->Fn P k ps [vW (.slice ao 0 c)] res qs):Fn P k ps [vS es []] res qs:=by
 intro w H B vals pre
 obtain ⟨h1,h2,h3,h4,h5,h0⟩:=pre
 cases vals with
 | nil=>exact h5.elim
 | cons v vs =>
  have h6:DR H (.sl es []) v:=h5.1
  cases h6 with
  | sl _ _ b o c arr ty fz ws hp=>exact absurd hp (by simp)
  | nil _ ao c g1 g2=>exact h ao c g1 g2 w H B _ ⟨h1,h2,h3,h4,⟨DR.raw _ rfl,h5.2⟩,h0⟩
end
end S
end Go.Proofs.YtakmnjihdfgolaaGreat
