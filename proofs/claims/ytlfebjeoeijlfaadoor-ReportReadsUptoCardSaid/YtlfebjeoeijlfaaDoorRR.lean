/-
  The proof of the statement ReportReads: the walk through the program and the references lifted to the given row. It holds for every input.
-/
import Derived.Test.YtlfebjeoeijlfaaDoorRR1
import Derived.Test.YtlfebjeoeijlfaaDoorRR2
import Derived.SizedLaws
import Derived.Test.YtlfebjeoeijlfaaDoorRows
import Derived.Lib.LaidTab
import Derived.Stop.LaidErr
import Derived.Test.YtlfebjeoeijlfaaDoorCards
import Derived.Test.YtlfebjeoeijlfaaDoorTie
import Derived.ProofKit
import Derived.LaidMore
import Derived.OpenShut
import Derived.SevenTiedAt
import Derived.Deep.DeepHandedRow
set_option maxRecDepth 100000
open Go.RowKit
namespace Go.Proofs.YtlfebjeoeijlfaaDoor
namespace S
structure SwOk (iy iy' ix:I) (n:Nat) (A':L):Prop where
  wl:iy.wl=[]
  wl':iy'.wl=[]
  nw':iy'.nw=[]
  ws:iy.ws=iy'.ws
  rs:iy.rs=iy'.rs
  rl':iy'.rl=[(n,A')]
  xw:ix.wl.lookup n=some (some A')
  a1:∀ t ∈ ix.ws.map (·.1),t ∉ iy.ws.map (·.1)
  a2:∀ t ∈ ix.rs.map (·.1),t ∉ iy.ws.map (·.1)
  a3:∀ t ∈ iy.rs.map (·.1),t ∉ ix.ws.map (·.1)
def swpB (iy iy' ix:I):Bool:=iy.wl.isEmpty && (iy'.wl.isEmpty && (iy'.nw.isEmpty && (zbi (ix.ws.map (·.1)) (iy.ws.map (·.1)) && (zbi (ix.rs.map (·.1)) (iy.ws.map (·.1)) && zbi (iy.rs.map (·.1)) (ix.ws.map (·.1))))))
theorem SwOk.of {iy iy' ix:I} {n:Nat} {A':L} (h:swpB iy iy' ix=true) (h1:iy.ws=iy'.ws) (h2:iy.rs=iy'.rs) (h3:ix.wl.lookup n=some (some A')) (h4:iy'.rl=[(n,A')]):SwOk iy iy' ix n A':=by
 simp only [swpB,Bool.and_eq_true] at h
 obtain ⟨b1,b2,b3,b4,b5,b6⟩:=h
 exact ⟨by simpa using b1,by simpa using b2,by simpa using b3,h1,h2,h4,h3,fun t ht=>zak b4 ht,fun t ht=>zak b5 ht,fun t ht=>zak b6 ht⟩
theorem SwOk.swap {iy iy' ix:I} {n:Nat} {A':L} (h:SwOk iy iy' ix n A') {f:F} (hy:zc6 f iy) (hx:zc6 (f.app iy) ix):zc6 f ix∧zc6 (f.app ix) iy'∧(f.app iy).app ix=(f.app ix).app iy':=by
 have hl:∀ m,(f.app iy).l m=f.l m:=app0_l f iy h.wl
 refine ⟨⟨fun p hp=>?_,fun p hp=>?_⟩,⟨fun p hp=>?_,fun p hp=>?_⟩,?_⟩
 ·rw [← hx.1 p hp,zc4 (h.a2 _ (List.mem_map.2 ⟨p,hp,rfl⟩))]
 ·rw [← hx.2 p hp,hl]
 ·rw [← h.rs] at hp
  rw [zc4 (h.a3 _ (List.mem_map.2 ⟨p,hp,rfl⟩))];exact hy.1 p hp
 ·rw [h.rl'] at hp
  rw [List.mem_singleton.1 hp]
  simp only [F.app,h.xw]
 ·simp only [F.app,F.mk.injEq]
  constructor
  ·funext t
   rw [← h.ws]
   by_cases ht:t ∈ iy.ws.map (·.1)
   ·have:t ∉ ix.ws.map (·.1):=fun hx=>h.a1 t hx ht
    rw [zb1 this]
   ·rw [zb1 ht]
  ·funext m
   rw [h.wl,h.wl']
   rfl
theorem zbu.congr {is is':List I} {g:F}:∀ (l:List Nat) (f:F),(∀ j ∈ l,at_ is' j=at_ is j)→zbu is f l g→zbu is' f l g
 | [],_,_,h=>h
 | k :: l,f,hc,h=>by
  have e:=hc k (by simp)
  refine ⟨by rw [e];exact h.1,?_⟩
  rw [e]
  exact zbu.congr l _ (fun j hj=>hc j (by simp [hj])) h.2
theorem zbu.sw {is is':List I} {g:F} {x y n:Nat} {A':L} {l2:List Nat} (hsw:SwOk (at_ is y) (at_ is' y) (at_ is x) n A'):∀ (l1:List Nat) (f:F),zbu is f (l1++x :: l2) g→y ∈ l1→l1.Nodup →
  (∀ j ∈ l1,j≠y→Disj (at_ is j) (at_ is x))→(∀ j,j≠y→at_ is' j=at_ is j)→y ∉ l2→zc6 f (at_ is x)∧zbu is' (f.app (at_ is x)) (l1++l2) g
 | [],_,_,hy,_,_,_,_=>by cases hy
 | j :: l1,f,h,hy,hnd,hd,hc,h2=>by
  obtain ⟨h1,h3⟩:=h
  obtain ⟨hn1,hn2⟩:=List.nodup_cons.1 hnd
  by_cases hjy:j=y
  ·subst hjy
   obtain ⟨h4,h5⟩:=zbu.first l1 _ h3 fun k hk=>hd k (by simp [hk]) fun e=>hn1 (e ▸ hk)
   obtain ⟨g1,g2,g3⟩:=hsw.swap h1 h4
   refine ⟨g1,g2,?_⟩
   rw [← g3]
   refine zbu.congr _ _ (fun k hk=>hc k fun e=>?_) h5
   subst e
   rcases List.mem_append.1 hk with hk | hk
   ·exact hn1 hk
   ·exact h2 hk
  ·have hyl:y ∈ l1:=by
    rcases List.mem_cons.1 hy with e | e
    ·exact absurd e.symm hjy
    ·exact e
   obtain ⟨h4,h5⟩:=zbu.sw hsw l1 _ h3 hyl hn2 (fun k hk=>hd k (by simp [hk])) hc h2
   have hj:=hd j (by simp) hjy
   refine ⟨hj.reads.1 h4,?_,?_⟩
   ·rw [hc j hjy];exact hj.symm.reads.2 h1
   ·rw [hc j hjy,← hj.comm];exact h5
def pairsX (x y:Nat) (ops:List Oper) (is:List I):Bool :=
  let ms:=zc8 ops
  (List.range ops.length).all fun k =>
    ((pre (ops.getD k default)).all fun p=>Nat.blt p k) &&
    (List.range k).all fun j=>ment (at_ is j) (at_ is k) && ((Nat.beq k x && Nat.beq j y) || (ms.getD k 0).testBit j || (disj (at_ is j) (at_ is k) && ment (at_ is k) (at_ is j)))
theorem zb8 {x y:Nat} {ops:List Oper} {is:List I} (h:pairsX x y ops is=true) {k:Nat} (hk:k<ops.length) :
  (∀ p ∈ pre (ops.getD k default),p<k)∧∀ j,j<k→ment (at_ is j) (at_ is k)=true∧((k=x∧j=y)∨((zc8 ops).getD k 0).testBit j=true∨(Disj (at_ is j) (at_ is k)∧ment (at_ is k) (at_ is j)=true)):=by
 have h1:=List.all_eq_true.1 h k (List.mem_range.2 hk)
 rw [Bool.and_eq_true] at h1
 refine ⟨fun p hp=>by have:=List.all_eq_true.1 h1.1 p hp;simpa [Nat.blt_eq] using this,fun j hj=>?_⟩
 have h2:=List.all_eq_true.1 h1.2 j (List.mem_range.2 hj)
 rw [Bool.and_eq_true] at h2
 refine ⟨h2.1,?_⟩
 have h3:=h2.2
 simp only [Bool.or_eq_true,Bool.and_eq_true] at h3
 rcases h3 with (h3 | h3) | h3
 ·exact .inl ⟨Nat.eq_of_beq_eq_true h3.1,Nat.eq_of_beq_eq_true h3.2⟩
 ·exact .inr (.inl h3)
 ·exact .inr (.inr ⟨disj_spec h3.1,h3.2⟩)
section
variable {P:Program} {ops:Array Oper} {e:E} {g:F} {Q:Exit→Act→World→Prop}
theorem ready_least {is:List I} {x y:Nat} (hpo:pairsX x y ops.toList is=true) {listed:Array Bool} (hsz:listed.size=ops.size) {k:Nat} (hk:left listed ops.size=k :: (left listed ops.size).tail):k ∈ Region.ready .any ops listed:=by
  obtain ⟨h1,h2⟩:=zb0.1 (show k ∈ left listed ops.size by rw [hk];simp)
  rw [mem_ready]
  refine ⟨h2,ops[k],Array.getElem?_eq_getElem h1,fun ed he hbd=>?_⟩
  have hlt:ed.on<k:=by
    have hop:ops.toList.getD k default=ops[k]:=by simp [h1]
    have:=(zb8 hpo (k:=k) (by simpa using h1)).1 ed.on (by
      rw [hop]
      exact List.mem_map.2 ⟨ed,List.mem_filter.2 ⟨by simpa using he,hbd⟩,rfl⟩)
    exact this
  rcases hx:listed.getD ed.on false with _ | _
  · exfalso
    have hlt2:ed.on<listed.size:=by omega
    have hx2:listed.getD ed.on true=false:=by
      rw [Array.getD_eq_getD_getElem?, Array.getElem?_eq_getElem hlt2] at hx ⊢
      exact hx
    have hm:ed.on ∈ left listed ops.size:=zb0.2 ⟨by omega,hx2⟩
    have hs:(left listed ops.size).Pairwise (·<·):=List.Pairwise.filter _ (List.pairwise_lt_range)
    rw [hk] at hm hs
    rcases List.mem_cons.1 hm with h3 | h3
    · omega
    · have:=(List.pairwise_cons.1 hs).1 _ h3;omega
  · rfl
theorem not_ahead {listed:Array Bool} (hsz:listed.size=ops.size) (hcl:∀ k o,ops[k]?=some o→listed.getD k true=true→∀ p ∈ pre o,listed.getD p false=true) {k:Nat} {o:Oper} (ho:ops[k]?=some o) (hall:∀ ed ∈ o.after,Region.binds .any ed=true→listed.getD ed.on false=true) :
  (∀ p ∈ pre o,listed.getD p false=true)∧∀ j,j<ops.size→listed.getD j true=false→((zc8 ops.toList).getD k 0).testBit j≠true:=by
 have hks:=(Array.getElem?_eq_some_iff.1 ho).1
 have hanc:∀ m,∀ x,x<ops.size→x<m→(∀ o,ops[x]?=some o→∀ p ∈ pre o,listed.getD p false=true)→∀ j,((zc8 ops.toList).getD x 0).testBit j=true→listed.getD j false=true:=by
  intro m
  induction m with
  | zero=>intro x _ hx;omega
  | succ m ihm =>
   intro x hxs hx hpre j hj
   have hxl:x<(zc8 ops.toList).length:=by unfold zc8;rw [zb5];simpa using hxs
   obtain ⟨o', ho', p,hp,h2⟩:=masks_ok ops.toList x hxl j hj
   have ho2:ops[x]?=some o':=by simpa using ho'
   have hpl:=hpre o' ho2 p hp
   rcases h2 with rfl | ⟨h3,h4⟩
   ·exact hpl
   ·refine ihm p (by omega) (by omega) (fun o3 ho3 q hq=>hcl p o3 ho3 ?_ q hq) j h4
    have:p<listed.size:=by omega
    rw [Array.getD_eq_getD_getElem?, Array.getElem?_eq_getElem this] at hpl ⊢
    exact hpl
 have hpk:∀ p ∈ pre o,listed.getD p false=true:=by
  intro p hp
  obtain ⟨ed,he,rfl⟩:=List.mem_map.1 hp
  rw [List.mem_filter] at he
  exact hall ed (by simpa using he.1) he.2
 refine ⟨hpk,fun j hj hl ht=>?_⟩
 have:=hanc (k+1) k hks (by omega) (fun o' ho'=>by rw [ho] at ho';injection ho' with ho';subst ho';exact hpk) j ht
 have hjs:j<listed.size:=by omega
 rw [Array.getD_eq_getD_getElem?, Array.getElem?_eq_getElem hjs] at this hl
 simp at this hl
 rw [hl] at this
 cases this
theorem zbr {listed:Array Bool} (hcl:∀ k o,ops[k]?=some o→listed.getD k true=true→∀ p ∈ pre o,listed.getD p false=true) {k:Nat} {o:Oper} (ho:ops[k]?=some o) (hpk:∀ p ∈ pre o,listed.getD p false=true) :
  ∀ x ox,ops[x]?=some ox→(listed.setIfInBounds k true).getD x true=true→∀ p ∈ pre ox,(listed.setIfInBounds k true).getD p false=true:=by
 intro x ox hox hxl p hp
 by_cases hxk:k=x
 ·subst hxk
  rw [ho] at hox;injection hox with hox;subst hox
  exact getD_set_true (hpk p hp)
 ·rw [getD_set_ne true hxk] at hxl
  exact getD_set_true (hcl x ox hox hxl p hp)
theorem getD_ff {l:Array Bool} {k:Nat} (h:l.getD k true=false):l.getD k false=false:=by
 rw [Array.getD_eq_getD_getElem?] at h ⊢
 cases hk:l[k]? with
 | none=>rw [hk] at h;cases h
 | some b=>rw [hk] at h;simpa using h
theorem wpAny_runX {is:List I} {x y:Nat} (hdo:∀ k o,ops[k]?=some o→Does P ops o (at_ is k)) (hb:∀ k,FitsE e (at_ is k)) (hQ:∀ a w,St e g a w→Q .normal a w) (hpo:pairsX x y ops.toList is=true) :
  ∀ (fuel:Nat) (listed:Array Bool) (f:F) (a:Act) (w:World),listed.size=ops.size→(∀ k o,ops[k]?=some o→listed.getD k true=true→∀ p ∈ pre o,listed.getD p false=true)→(left listed ops.size).length≤fuel →
   (listed.getD x false=true∨listed.getD y false=true) →
   (∀ k ∈ left listed ops.size,∀ n ∈ (at_ is k).nw,New e.K f n)→zbu is f (left listed ops.size) g→St e f a w→wpAny P .any ops Q fuel listed a w:=by
 intro fuel
 induction fuel with
 | zero =>
  intro listed f a w hsz hcl hle hxy hn hr h
  have h0:left listed ops.size=[]:=List.length_eq_zero_iff.1 (by omega)
  rw [h0] at hr
  refine ⟨?_,hQ a w (h.weaken hr)⟩
  refine List.eq_nil_iff_forall_not_mem.2 fun k hk=>?_
  obtain ⟨h1,o,ho,_⟩:=mem_ready.1 hk
  have:k ∈ left listed ops.size:=zb0.2 ⟨(Array.getElem?_eq_some_iff.1 ho).1,h1⟩
  rw [h0] at this
  cases this
 | succ fuel ih =>
  intro listed f a w hsz hcl hle hxy hn hr h
  refine ⟨fun h0=>?_,fun k hk=>?_⟩
  ·cases hl:left listed ops.size with
   | nil=>rw [hl] at hr;exact hQ a w (h.weaken hr)
   | cons k l =>
    have:=ready_least hpo hsz (k:=k) (by rw [hl];rfl)
    rw [h0] at this
    cases this
  ·obtain ⟨h1,o,ho,hall⟩:=mem_ready.1 hk
   have hks:=(Array.getElem?_eq_some_iff.1 ho).1
   obtain ⟨l1,l2,e1,e2,e3,e4⟩:=zca hks h1
   obtain ⟨hpk,hnot⟩:=not_ahead hsz hcl ho hall
   have hd1:∀ j ∈ l1,Disj (at_ is j) (at_ is k)∧ment (at_ is k) (at_ is j)=true:=by
    intro j hj
    obtain ⟨hjk,hjl⟩:=e3 j hj
    rcases ((zb8 hpo (k:=k) (by simpa using hks)).2 j hjk).2 with ⟨rfl,rfl⟩ | h5
    ·rcases hxy with h6 | h6
     ·rw [getD_ff h1] at h6;cases h6
     ·rw [getD_ff hjl] at h6;cases h6
    ·exact h5.resolve_left (hnot j (by omega) hjl)
   rw [e1] at hr
   obtain ⟨hr1,hr2⟩:=zbu.first l1 f hr (fun j hj=>(hd1 j hj).1)
   have hkn:∀ n ∈ (at_ is k).nw,New e.K f n:=hn k (by rw [e1];simp)
   refine wpOp_mono (fun a' w' h'=>?_) (Does.wpOp ho (hdo k o ho) h hr1 hkn (hb k))
   refine ih (listed.setIfInBounds k true) (f.app (at_ is k)) a' w' (by simpa using hsz) (zbr hcl ho hpk) ?_ ?_ ?_ ?_ h'
   ·rw [e2];rw [e1] at hle;simp at hle ⊢;omega
   ·exact hxy.imp (fun h=>getD_set_true h) fun h=>getD_set_true h
   ·intro z hz n hnz
    rw [e2] at hz
    have hzn:New e.K f n:=hn z (by rw [e1];rcases List.mem_append.1 hz with h3 | h3 <;> simp [h3]) n hnz
    refine hzn.app ?_ hnz
    rcases List.mem_append.1 hz with h3 | h3
    ·exact (hd1 z h3).2
    ·obtain ⟨hkz,hzl⟩:=e4 z h3
     have hzs:z<ops.size:=(zb0.1 (by rw [e1];simp [h3])).1
     exact ((zb8 hpo (k:=z) (by simpa using hzs)).2 k hkz).1
   ·rw [e2];exact hr2
theorem wpAny_sw {is is':List I} {x y n:Nat} {A':L} (hyx:y<x) (hsw:SwOk (at_ is y) (at_ is' y) (at_ is x) n A') (hsame:∀ j,j≠y→at_ is' j=at_ is j)
  (hdo:∀ k o,ops[k]?=some o→Does P ops o (at_ is k)) (hdo':∀ k o,ops[k]?=some o→Does P ops o (at_ is' k)) (hb:∀ k,FitsE e (at_ is k)) (hb':∀ k,FitsE e (at_ is' k)) (hQ:∀ a w,St e g a w→Q .normal a w) (hpo:pairsX x y ops.toList is=true) (hpo':pairsX x y ops.toList is'=true) :
  ∀ (fuel:Nat) (listed:Array Bool) (f:F) (a:Act) (w:World),listed.size=ops.size→(∀ k o,ops[k]?=some o→listed.getD k true=true→∀ p ∈ pre o,listed.getD p false=true)→(left listed ops.size).length≤fuel →
   y ∈ left listed ops.size→x ∈ left listed ops.size →
   (∀ k ∈ left listed ops.size,∀ n ∈ (at_ is k).nw,New e.K f n)→zbu is f (left listed ops.size) g→St e f a w→wpAny P .any ops Q fuel listed a w:=by
 intro fuel
 induction fuel with
 | zero =>
  intro listed f a w hsz hcl hle hy hx hn hr h
  have h0:left listed ops.size=[]:=List.length_eq_zero_iff.1 (by omega)
  rw [h0] at hy;cases hy
 | succ fuel ih =>
  intro listed f a w hsz hcl hle hy hx hn hr h
  refine ⟨fun h0=>?_,fun k hk=>?_⟩
  ·cases hl:left listed ops.size with
   | nil=>rw [hl] at hr;exact hQ a w (h.weaken hr)
   | cons k l =>
    have:=ready_least hpo hsz (k:=k) (by rw [hl];rfl)
    rw [h0] at this
    cases this
  ·obtain ⟨h1,o,ho,hall⟩:=mem_ready.1 hk
   have hks:=(Array.getElem?_eq_some_iff.1 ho).1
   obtain ⟨l1,l2,e1,e2,e3,e4⟩:=zca hks h1
   obtain ⟨hpk,hnot⟩:=not_ahead hsz hcl ho hall
   have hd1:∀ j ∈ l1,¬ (k=x∧j=y)→Disj (at_ is j) (at_ is k)∧ment (at_ is k) (at_ is j)=true:=by
    intro j hj hne
    obtain ⟨hjk,hjl⟩:=e3 j hj
    exact (((zb8 hpo (k:=k) (by simpa using hks)).2 j hjk).2.resolve_left hne).resolve_left (hnot j (by omega) hjl)
   have hkn:∀ n ∈ (at_ is k).nw,New e.K f n:=hn k (by rw [e1];simp)
   have hlen:(left (listed.setIfInBounds k true) ops.size).length≤fuel:=by rw [e2];rw [e1] at hle;simp at hle ⊢;omega
   have hset:∀ j,j≠k→j ∈ left listed ops.size→j ∈ left (listed.setIfInBounds k true) ops.size:=by
    intro j hj hjl
    obtain ⟨g1,g2⟩:=zb0.1 hjl
    exact zb0.2 ⟨g1,by rw [getD_set_ne true (Ne.symm hj)];exact g2⟩
   have hnames:∀ z ∈ left (listed.setIfInBounds k true) ops.size,(z≠y∨k≠x)→∀ n ∈ (at_ is z).nw,New e.K (f.app (at_ is k)) n:=by
    intro z hz hne n hnz
    rw [e2] at hz
    have hzn:New e.K f n:=hn z (by rw [e1];rcases List.mem_append.1 hz with h3 | h3 <;> simp [h3]) n hnz
    refine hzn.app ?_ hnz
    rcases List.mem_append.1 hz with h3 | h3
    ·exact (hd1 z h3 fun e=>by rcases hne with h | h;exact h e.2;exact h e.1).2
    ·obtain ⟨hkz,hzl⟩:=e4 z h3
     have hzs:z<ops.size:=(zb0.1 (by rw [e1];simp [h3])).1
     exact ((zb8 hpo (k:=z) (by simpa using hzs)).2 k hkz).1
   have hlisted:(listed.setIfInBounds k true).getD k false=true:=by
    have:k<listed.size:=by omega
    simp [this]
   by_cases hkx:k=x
   ·subst hkx
    have hyl1:y ∈ l1:=by
     rw [e1] at hy
     rcases List.mem_append.1 hy with h3 | h3
     ·exact h3
     ·rcases List.mem_cons.1 h3 with h4 | h4
      ·omega
      ·have:=(e4 y h4).1;omega
    have hnd:(left listed ops.size).Nodup:=List.Pairwise.filter _ List.nodup_range
    rw [e1] at hr hnd
    have hyl2:y ∉ l2:=fun h4=>by have:=(e4 y h4).1;omega
    obtain ⟨hr1,hr2⟩:=zbu.sw hsw l1 f hr hyl1 (List.nodup_append.1 hnd).1 (fun j hj hjy=>(hd1 j hj fun e=>hjy e.2).1) hsame hyl2
    refine wpOp_mono (fun a' w' h'=>?_) (Does.wpOp ho (hdo k o ho) h hr1 hkn (hb k))
    refine wpAny_runX hdo' hb' hQ hpo' fuel _ (f.app (at_ is k)) a' w' (by simpa using hsz) (zbr hcl ho hpk) hlen (.inl hlisted) ?_ (by rw [e2];exact hr2) h'
    intro z hz n hnz
    by_cases hzy:z=y
    ·subst hzy;rw [hsw.nw'] at hnz;cases hnz
    ·rw [hsame z hzy] at hnz;exact hnames z hz (.inl hzy) n hnz
   ·rw [e1] at hr
    obtain ⟨hr1,hr2⟩:=zbu.first l1 f hr (fun j hj=>(hd1 j hj fun e=>hkx e.1).1)
    refine wpOp_mono (fun a' w' h'=>?_) (Does.wpOp ho (hdo k o ho) h hr1 hkn (hb k))
    by_cases hky:k=y
    ·subst hky
     exact wpAny_runX hdo hb hQ hpo fuel _ (f.app (at_ is k)) a' w' (by simpa using hsz) (zbr hcl ho hpk) hlen (.inr hlisted) (fun z hz=>hnames z hz (.inr hkx)) (by rw [e2];exact hr2) h'
    ·exact ih _ (f.app (at_ is k)) a' w' (by simpa using hsz) (zbr hcl ho hpk) hlen (hset y (Ne.symm hky) hy) (hset x (Ne.symm hkx) hx) (fun z hz=>hnames z hz (.inr hkx)) (by rw [e2];exact hr2) h'
end
def chkW (x y:Nat) (iy':I) (ops:List Oper) (is:List I) (N:Nat) (K:List Nat) (sl:List (Nat × V)) (lc:List (Nat × L)):Bool :=
  chk false ops is N K sl lc && (pairsX x y ops is && (pairsX x y ops (is.set y iy') && (swpB (at_ is y) iy' (at_ is x) && (Nat.blt y x && (Nat.blt x ops.length && (iy'.ws.all fun p=>Nat.blt p.1 N))))))
theorem at_set (is:List I) (y:Nat) (i:I) (hy:y<is.length) (j:Nat):at_ (is.set y i) j=if j=y then i else at_ is j:=by
 unfold at_
 rw [List.getD_eq_getElem?_getD,List.getD_eq_getElem?_getD,List.getElem?_set]
 by_cases h:y=j
 ·subst h;simp [hy]
 ·rw [if_neg h,if_neg (Ne.symm h)]
section
variable {Q:Exit→Act→World→Prop} {w0:World} {H0:Im} {B0:Bl} {K:List Nat} {N:Nat}
theorem rSW {tb:Tb} (htb:TbOk Tryd.prog tb) {id:Nat} {ops:Array Oper} {a:Act} {w:World} {sl:List (Nat × V)} {lc:List (Nat × L)} (nx:Nat) (cs:List (Nat × Orc Tryd.prog)) (sl':List (Nat × V)) (lc':List (Nat × L))
  (x y n:Nat) (A':L) {dy:Option Nat} {opy:Op} (iy':I) (hy':∀ ty pos af gd,zal Tryd.prog ⟨dy,opy,ty,pos,af,gd⟩ iy') (hop:(ops[y]?).map (fun o=>(o.dst,o.op,o.guard))=some (dy,opy,none)) (hrl:iy'.rl=[(n,A')]) (hk0:iy'.k0=false)
  (hs:(zb9 tb ops (F.of sl lc) nx 0 ops.toList cs).map (fun is=>((at_ is y).ws,(at_ is y).rs,(at_ is x).wl.lookup n))=some (iy'.ws,iy'.rs,some (some A')))
  (hc:((gens ops.toList cs).map (·.1),(zb9 tb ops (F.of sl lc) nx 0 ops.toList cs).isSome,(zb9 tb ops (F.of sl lc) nx 0 ops.toList cs).map fun is=>Seen.mk (chkW x y iy' ops.toList is N K sl lc) (runS (F.of sl lc) is) (runN (F.of sl lc) is) (leS (runF (F.of sl lc) is) sl') (leN (runF (F.of sl lc) is) lc')) =
   ((gens ops.toList cs).map (·.2),true,(zb9 tb ops (F.of sl lc) nx 0 ops.toList cs).map fun is=>Seen.mk true (wantS is) (wantN is) (sl'.map fun p=>some p.2) (lc'.map fun p=>some p.2)))
  (h:St ⟨w0,H0,B0,K,N⟩ (F.of sl lc) a w) (hQ:∀ a w,St ⟨w0,H0,B0,K,N⟩ (F.of sl' lc') a w→Q .normal a w):(Code.region id ops true).wp Tryd.prog Q a w:=by
 simp only [Prod.mk.injEq] at hc
 obtain ⟨hg,hsome,hm⟩:=hc
 cases hi:zb9 tb ops (F.of sl lc) nx 0 ops.toList cs with
 | none=>rw [hi] at hsome;cases hsome
 | some is =>
  rw [hi] at hm hs
  simp only [Option.map_some,Option.some.injEq,Seen.mk.injEq] at hm
  simp only [Option.map_some,Option.some.injEq,Prod.mk.injEq] at hs
  obtain ⟨hchk,h1,h2,h3,h4⟩:=hm
  obtain ⟨s1,s2,s3⟩:=hs
  have hdo:=insts_ok htb hg _ _ _ _ _ rfl hi
  simp only [chkW,Bool.and_eq_true] at hchk
  obtain ⟨hck,p1,p2,hsw,hyx,hxl,hws⟩:=hchk
  have hyx:y<x:=by simpa [Nat.blt_eq] using hyx
  have hxl:x<ops.size:=by simpa [Nat.blt_eq] using hxl
  simp only [chk,Bool.and_eq_true] at hck
  obtain ⟨⟨⟨c1,c2'⟩,c3⟩,c4⟩:=hck
  have hlen:ops.toList.length=is.length:=by simpa using hdo.length
  have hyl:y<is.length:=by rw [← hlen,Array.length_toList];omega
  have hat:=at_set is y iy' hyl
  have hmem:∀ k,at_ is k ∈ is∨at_ is k={}:=by
   intro k
   unfold at_
   rw [List.getD_eq_getElem?_getD]
   cases hk:is[k]? with
   | none=>exact .inr rfl
   | some z=>exact .inl (List.mem_of_getElem? hk)
  have hb:∀ k,FitsE ⟨w0,H0,B0,K,N⟩ (at_ is k):=by
   intro k
   refine ⟨fun p hp=>?_,fun h0=>?_⟩
   ·rcases hmem k with hk | hk
    ·have:=List.all_eq_true.1 (List.all_eq_true.1 c2' _ hk) p hp
     simpa [Nat.blt_eq] using this
    ·rw [hk] at hp;cases hp
   ·rcases hmem k with hk | hk
    ·have:=List.all_eq_true.1 c4 _ hk
     rw [h0] at this
     simpa using this
    ·rw [hk] at h0;cases h0
  have hn:∀ k,∀ n ∈ (at_ is k).nw,New K (F.of sl lc) n:=by
   intro k n hn
   rcases hmem k with hk | hk
   ·exact zbz (List.all_eq_true.1 (List.all_eq_true.1 c3 _ hk) n hn)
   ·rw [hk] at hn;cases hn
  have hr:zbu is (F.of sl lc) (List.range ops.size) (F.of sl' lc'):=by
   have:=zbu.of (g:=F.of sl' lc') [] is (F.of sl lc) h1 h2 (le_of h3 h4)
   simp only [List.nil_append,List.length_nil] at this
   rw [List.range_eq_range', ← Array.length_toList,hlen]
   exact this
  have hSw:SwOk (at_ is y) (at_ (is.set y iy') y) (at_ is x) n A':=by
   rw [hat,if_pos rfl]
   exact SwOk.of hsw s1 s2 s3 hrl
  have hleft:left (Array.replicate ops.size false) ops.size=List.range ops.size:=by
   unfold left
   refine List.filter_eq_self.2 fun k hk=>?_
   have:=List.mem_range.1 hk
   simp [Array.getD_eq_getD_getElem?, this]
  refine wp_region_any mixed (wpAny_sw (is:=is) (is':=is.set y iy') hyx hSw (fun j hj=>by rw [hat,if_neg hj]) (fun k o ho=>hdo.get k o (by simpa using ho)) (fun k o ho=>?_) hb (fun k=>?_) hQ p1 p2 _ _ (F.of sl lc) a _ (by simp) ?_ ?_ ?_ ?_ (fun k _=>hn k) ?_ h.drew)
  ·rw [hat]
   split
   ·rename_i hk
    subst hk
    rw [ho] at hop
    simp only [Option.map_some,Option.some.injEq,Prod.mk.injEq] at hop
    obtain ⟨q1,q2,q3⟩:=hop
    obtain ⟨d,op,ty,pos,af,gd⟩:=o
    simp only at q1 q2 q3
    subst q1 q2 q3
    exact .run rfl (hy' _ _ _ _)
   ·exact hdo.get k o (by simpa using ho)
  ·rw [hat]
   split
   ·refine ⟨fun p hp=>?_,fun h0=>?_⟩
    ·have:=List.all_eq_true.1 hws p hp
     simpa [Nat.blt_eq] using this
    ·rw [hk0] at h0;cases h0
   ·exact hb k
  ·intro k o ho hl
   have hks:=(Array.getElem?_eq_some_iff.1 ho).1
   simp [Array.getD_eq_getD_getElem?, hks] at hl
  ·refine Nat.le_trans (List.length_filter_le _ _) (by simp)
  ·rw [hleft];exact List.mem_range.2 (by omega)
  ·rw [hleft];exact List.mem_range.2 hxl
  ·rw [hleft];exact hr
end
theorem kk_3:ElZ Tryd.prog 66 28 2:=ElZ.mk' Tryd.underlying66 _ _ rfl rfl (by kernel_rfl) (by kernel_rfl) (by kernel_rfl) (by decide)
def st0:StD:=⟨[],[]⟩
theorem kn_0:SlT Tryd.prog 40 68 2:=SlT.mk' Tryd.underlying40 (by kernel_rfl)
theorem pj1_1:Sz Tryd.prog 41 1 false:=Sz.mk' (by kernel_rfl) Tryd.underlying41 _ rfl
theorem pj1_4:za8 Tryd.prog 19:=za8.mk' (by kernel_rfl)
theorem pj1_6:Sz Tryd.prog 39 10 true:=Sz.mk' (by kernel_rfl) Tryd.underlying39 _ rfl
theorem pj1_7:za8 Tryd.prog 32:=za8.mk' (by kernel_rfl)
theorem pj1_8:za8 Tryd.prog 34:=za8.mk' (by kernel_rfl)
theorem pj1_9:za8 Tryd.prog 33:=za8.mk' (by kernel_rfl)
def acA (acts:List Int) (i:Nat):Int:=(acts[i]?).getD (-1)
def stLn (s:zaw) (acts:List Int) (i:Nat) (x:StD):List UInt8:=za6 [⟨#[32,32]⟩,stW s x,⟨#[32,47,32]⟩,actW s (acA acts i)]
def zay (s:zaw) (acts:List Int) (i:Nat) (xs:List StD) (j:Nat):List UInt8:=(List.range j).flatMap fun k=>stLn s acts (i+k) ((xs[k]?).getD st0)
theorem stsN_snoc {s:zaw} {acts:List Int} {i:Nat} {xs:List StD} {j:Nat} {x:StD} (h:xs[j]?=some x):zay s acts i xs j++stLn s acts (i+j) x=zay s acts i xs (j+1):=by
 unfold zay;rw [List.range_succ,List.flatMap_append];simp [h]
theorem actN_sz {s:zaw} (hz:TxOk s) (hl:s.acts.length≤1000000) (i:Int):(actW s i).size≤1048585:=by
 have e1:(⟨#[115,116,117,116,116,101,114]⟩:ByteArray).size=7:=rfl
 have e2:(⟨#[63]⟩:ByteArray).size=1:=rfl
 have e3:(⟨#[46]⟩:ByteArray).size=1:=rfl
 unfold actW
 cases ha:atI s.acts i with
 | none=>simp only;omega
 | some c =>
  have h1:=itA_sz s c.proc (i.toNat+1) hl
  simp only
  cases hp:atI s.procs c.proc with
  | none=>simp only [ByteArray.size_append];omega
  | some p=>have h2:=hz.name p (zbh hp);simp only [ByteArray.size_append];omega
theorem stLn_len {s:zaw} (hz:TxOk s) (hl:s.acts.length≤1000000) {x:StD} (hx:StOk 4 x) (acts:List Int) (i:Nat):(stLn s acts i x).length≤43000000:=by
 have h1:=stW_sz hz hx
 have h2:=actN_sz hz hl (acA acts i)
 have e1:(⟨#[32,32]⟩:ByteArray).data.toList.length=2:=rfl
 have e2:(⟨#[32,47,32]⟩:ByteArray).data.toList.length=3:=rfl
 unfold stLn
 rw [zb4]
 unfold zan
 simp only [List.flatMap_cons,List.flatMap_nil,List.length_append,List.length_nil,List.length_cons]
 rw [← baL (stW s x),← baL (actW s _)]
 omega
theorem zcl {s:zaw} (hz:TxOk s) (hl:s.acts.length≤1000000) {xs:List StD} (hx:∀ x ∈ xs,StOk 4 x) (acts:List Int) (i:Nat):∀ j,j≤xs.length→(zay s acts i xs j).length≤j*43000000
 | 0,_=>by simp [zay]
 | j+1,h=>by
  obtain ⟨x,hj⟩:∃ x,xs[j]?=some x:=⟨_,List.getElem?_eq_getElem (by omega)⟩
  have h1:=zcl hz hl hx acts i j (by omega)
  have h2:=stLn_len hz hl (hx x (List.mem_of_getElem? hj)) acts (i+j)
  rw [← stsN_snoc hj,List.length_append]
  omega
set_option maxHeartbeats 4000000 in
theorem WAct (s:zaw) (acts:List Int) (i:Nat) (l:List UInt8) (hi:i≤1000000):Fn Tryd.prog 34 [(7,.bld 77 (.own 9 l.length) [.d (.sl 1 (s.vars.map za2)),.d (.sl 5 (s.bounds.map za1.d)),cI s.init.kind,cPs s.init.r.t.parts,cB s.init.r.t.k.neg,.d (nsl s.init.r.t.k.abs),cB s.init.r.eq,cFs s.init.kids,.d (.sl 3 (s.procs.map za3.d)),.d (.sl 10 (s.acts.map za7.d)),cIs acts,cI (i:Int)]),(9,.row 5 1 (bw l))] [vp 7 0] (vi .i64 (acA acts i)) [(7,.bld 77 (.own 9 l.length) [.d (.sl 1 (s.vars.map za2)),.d (.sl 5 (s.bounds.map za1.d)),cI s.init.kind,cPs s.init.r.t.parts,cB s.init.r.t.k.neg,.d (nsl s.init.r.t.k.abs),cB s.init.r.eq,cFs s.init.kids,.d (.sl 3 (s.procs.map za3.d)),.d (.sl 10 (s.acts.map za7.d)),cIs acts,cI ((i+1:Nat):Int)]),(9,.row 5 1 (bw l))]:=by
 refine Fn.body Tryd.func34 rfl 29 rfl fun w H B a h=>?_
 refine rq zaa 30 [] [(0,vp 7 0),(2,vi .i64 0)] [(7,.bld 77 (.own 9 l.length) [.d (.sl 1 (s.vars.map za2)),.d (.sl 5 (s.bounds.map za1.d)),cI s.init.kind,cPs s.init.r.t.parts,cB s.init.r.t.k.neg,.d (nsl s.init.r.t.k.abs),cB s.init.r.eq,cFs s.init.kids,.d (.sl 3 (s.procs.map za3.d)),.d (.sl 10 (s.acts.map za7.d)),cIs acts,cI (i:Int)]),(9,.row 5 1 (bw l))] h ?_;clear h;intro a w h
 refine rq zaa 30 [(1,.gen _ _ _ fun _ _ _ _=>Op.nilP (d:=5) (t:=4) (n:=7) (o:=0)),(3,.gen _ _ _ fun _ _ _ _=>Op.loadB_c (d:=7) (t:=6) (n:=7) (o:=11) (m:=1) (T:=77) (c0:=.own 9 l.length) (rest:=[.d (.sl 1 (s.vars.map za2)),.d (.sl 5 (s.bounds.map za1.d)),cI s.init.kind,cPs s.init.r.t.parts,cB s.init.r.t.k.neg,.d (nsl s.init.r.t.k.abs),cB s.init.r.eq,cFs s.init.kids,.d (.sl 3 (s.procs.map za3.d)),.d (.sl 10 (s.acts.map za7.d)),cIs acts,cI (i:Int)]) (x:=cI (i:Int)) tl_7 rfl)] [(0,vp 7 0),(2,vi .i64 0),(3,vi .i64 (i:Int))] [(7,.bld 77 (.own 9 l.length) [.d (.sl 1 (s.vars.map za2)),.d (.sl 5 (s.bounds.map za1.d)),cI s.init.kind,cPs s.init.r.t.parts,cB s.init.r.t.k.neg,.d (nsl s.init.r.t.k.abs),cB s.init.r.eq,cFs s.init.kids,.d (.sl 3 (s.procs.map za3.d)),.d (.sl 10 (s.acts.map za7.d)),cIs acts,cI (i:Int)]),(9,.row 5 1 (bw l))] h ?_;clear h;intro a w h
 refine rq zaa 30 [(1,.gen _ _ _ fun _ _ _ _=>Op.nilP (d:=9) (t:=8) (n:=7) (o:=0)),(3,.gen _ _ _ fun _ _ _ _=>Op.loadB_c (d:=11) (t:=10) (n:=7) (o:=11) (m:=1) (T:=77) (c0:=.own 9 l.length) (rest:=[.d (.sl 1 (s.vars.map za2)),.d (.sl 5 (s.bounds.map za1.d)),cI s.init.kind,cPs s.init.r.t.parts,cB s.init.r.t.k.neg,.d (nsl s.init.r.t.k.abs),cB s.init.r.eq,cFs s.init.kids,.d (.sl 3 (s.procs.map za3.d)),.d (.sl 10 (s.acts.map za7.d)),cIs acts,cI (i:Int)]) (x:=cI (i:Int)) tl_7 rfl),(4,.add .i64 (m:=(i:Int)) (n:=1) (zap (by omega) (by omega))),(5,.gen _ _ _ fun _ _ _ _=>Op.nilP (d:=13) (t:=8) (n:=7) (o:=0)),(7,.gen _ _ _ fun _ _ _ _=>Op.storeB (t:=14) (n:=7) (o:=11) (T:=77) (c0:=.own 9 l.length) (rest:=[.d (.sl 1 (s.vars.map za2)),.d (.sl 5 (s.bounds.map za1.d)),cI s.init.kind,cPs s.init.r.t.parts,cB s.init.r.t.k.neg,.d (nsl s.init.r.t.k.abs),cB s.init.r.eq,cFs s.init.kids,.d (.sl 3 (s.procs.map za3.d)),.d (.sl 10 (s.acts.map za7.d)),cIs acts,cI (i:Int)]) (rest':=[.d (.sl 1 (s.vars.map za2)),.d (.sl 5 (s.bounds.map za1.d)),cI s.init.kind,cPs s.init.r.t.parts,cB s.init.r.t.k.neg,.d (nsl s.init.r.t.k.abs),cB s.init.r.eq,cFs s.init.kids,.d (.sl 3 (s.procs.map za3.d)),.d (.sl 10 (s.acts.map za7.d)),cIs acts,cI ((i:Int)+1)]) (y:=cI ((i:Int)+1)) tl_7 (OV.tmp 12 _) rfl rfl)] [(0,vp 7 0),(2,vi .i64 0),(3,vi .i64 (i:Int))] [(7,.bld 77 (.own 9 l.length) [.d (.sl 1 (s.vars.map za2)),.d (.sl 5 (s.bounds.map za1.d)),cI s.init.kind,cPs s.init.r.t.parts,cB s.init.r.t.k.neg,.d (nsl s.init.r.t.k.abs),cB s.init.r.eq,cFs s.init.kids,.d (.sl 3 (s.procs.map za3.d)),.d (.sl 10 (s.acts.map za7.d)),cIs acts,cI ((i:Int)+1)]),(9,.row 5 1 (bw l))] h ?_;clear h;intro a w h
 refine wp_seq (rq zaa 30 [(2,.gen _ _ _ fun _ _ _ _=>Op.nilP (d:=17) (t:=16) (n:=7) (o:=0)),(4,.gen _ _ _ fun _ _ _ _=>Op.loadB_c (d:=19) (t:=18) (n:=7) (o:=10) (m:=1) (T:=77) (c0:=.own 9 l.length) (rest:=[.d (.sl 1 (s.vars.map za2)),.d (.sl 5 (s.bounds.map za1.d)),cI s.init.kind,cPs s.init.r.t.parts,cB s.init.r.t.k.neg,.d (nsl s.init.r.t.k.abs),cB s.init.r.eq,cFs s.init.kids,.d (.sl 3 (s.procs.map za3.d)),.d (.sl 10 (s.acts.map za7.d)),cIs acts,cI ((i:Int)+1)]) (x:=cIs acts) pj1_1 rfl),(5,.len (c:=(cIs acts)) (n:=acts.length) (zag _ _ _))] [(0,vp 7 0),(2,vi .i64 0),(3,vi .i64 (i:Int)),(21,vb (decide ((i:Int)<(acts.length:Int))))] [(7,.bld 77 (.own 9 l.length) [.d (.sl 1 (s.vars.map za2)),.d (.sl 5 (s.bounds.map za1.d)),cI s.init.kind,cPs s.init.r.t.parts,cB s.init.r.t.k.neg,.d (nsl s.init.r.t.k.abs),cB s.init.r.eq,cFs s.init.kids,.d (.sl 3 (s.procs.map za3.d)),.d (.sl 10 (s.acts.map za7.d)),cIs acts,cI ((i:Int)+1)]),(9,.row 5 1 (bw l))] h ?_);clear h;intro a w h
 refine zab (decide ((i:Int)<(acts.length:Int))) h rfl (fun hc=>?_) (fun hc=>?_)
 ·have hc1:=hc;clear hc
  have hc1':=of_decide_eq_true hc1
  obtain ⟨x1,hx1⟩:∃ z_:Int,acts[i]?=some z_:=⟨_,List.getElem?_eq_getElem (by first | omega | (simp at *;omega))⟩
  refine rq zaa 30 [(1,.gen _ _ _ fun _ _ _ _=>Op.nilP (d:=23) (t:=22) (n:=7) (o:=0)),(3,.gen _ _ _ fun _ _ _ _=>Op.loadB_c (d:=25) (t:=24) (n:=7) (o:=10) (m:=1) (T:=77) (c0:=.own 9 l.length) (rest:=[.d (.sl 1 (s.vars.map za2)),.d (.sl 5 (s.bounds.map za1.d)),cI s.init.kind,cPs s.init.r.t.parts,cB s.init.r.t.k.neg,.d (nsl s.init.r.t.k.abs),cB s.init.r.eq,cFs s.init.kids,.d (.sl 3 (s.procs.map za3.d)),.d (.sl 10 (s.acts.map za7.d)),cIs acts,cI ((i:Int)+1)]) (x:=cIs acts) pj1_1 rfl),(5,.gen _ _ _ fun _ _ _ _=>Op.idxD (d:=27) (t:=25) (k:=.i64) tb_1 (zas hx1 (f:=intD)) (OV.tmp 26 _))] [(2,vi .i64 x1)] [(7,.bld 77 (.own 9 l.length) [.d (.sl 1 (s.vars.map za2)),.d (.sl 5 (s.bounds.map za1.d)),cI s.init.kind,cPs s.init.r.t.parts,cB s.init.r.t.k.neg,.d (nsl s.init.r.t.k.abs),cB s.init.r.eq,cFs s.init.kids,.d (.sl 3 (s.procs.map za3.d)),.d (.sl 10 (s.acts.map za7.d)),cIs acts,cI ((i:Int)+1)]),(9,.row 5 1 (bw l))] h ?_;clear h;intro a w h
  refine wp_ret (zah ?_)
  replace h:=h.conv (f':=F.of [(2,vi .i64 x1)] [(7,.bld 77 (.own 9 l.length) [.d (.sl 1 (s.vars.map za2)),.d (.sl 5 (s.bounds.map za1.d)),cI s.init.kind,cPs s.init.r.t.parts,cB s.init.r.t.k.neg,.d (nsl s.init.r.t.k.abs),cB s.init.r.eq,cFs s.init.kids,.d (.sl 3 (s.procs.map za3.d)),.d (.sl 10 (s.acts.map za7.d)),cIs acts,cI ((i+1:Nat):Int)]),(9,.row 5 1 (bw l))]) (by rw [show ((i:Int)+1:Int)=((i+1:Nat):Int) from rfl])
  refine zb3 [.c (cI x1)] h Exit.ret (.inl rfl)  rfl ⟨RV.tmp _ _ rfl,trivial⟩ ?_
  rw [show acA acts i=x1 from by unfold acA;rw [hx1];rfl];first | done | rfl
 ·have hc2:=hc;clear hc
  have hc2':=of_decide_eq_false hc2
  refine wp_skip (za5 (rq zaa 30 [] [(2,vi .i64 (-1))] [(7,.bld 77 (.own 9 l.length) [.d (.sl 1 (s.vars.map za2)),.d (.sl 5 (s.bounds.map za1.d)),cI s.init.kind,cPs s.init.r.t.parts,cB s.init.r.t.k.neg,.d (nsl s.init.r.t.k.abs),cB s.init.r.eq,cFs s.init.kids,.d (.sl 3 (s.procs.map za3.d)),.d (.sl 10 (s.acts.map za7.d)),cIs acts,cI ((i:Int)+1)]),(9,.row 5 1 (bw l))] h ?_));clear h;intro a w h
  refine wp_ret ?_
  replace h:=h.conv (f':=F.of [(2,vi .i64 (-1))] [(7,.bld 77 (.own 9 l.length) [.d (.sl 1 (s.vars.map za2)),.d (.sl 5 (s.bounds.map za1.d)),cI s.init.kind,cPs s.init.r.t.parts,cB s.init.r.t.k.neg,.d (nsl s.init.r.t.k.abs),cB s.init.r.eq,cFs s.init.kids,.d (.sl 3 (s.procs.map za3.d)),.d (.sl 10 (s.acts.map za7.d)),cIs acts,cI ((i+1:Nat):Int)]),(9,.row 5 1 (bw l))]) (by rw [show ((i:Int)+1:Int)=((i+1:Nat):Int) from rfl])
  refine zb3 [.c (cI (-1))] h Exit.ret (.inl rfl)  rfl ⟨RV.tmp _ _ rfl,trivial⟩ ?_
  rw [show acA acts i=-1 from by unfold acA;rw [List.getElem?_eq_none (by have:=of_decide_eq_false hc2;omega)];rfl];first | done | rfl
abbrev q3 (l:List UInt8) (head:ByteArray) (s:zaw) (acts:List Int) (i:Nat) (xs:List StD) (j:Nat) (x2:StD):L:=.bld 77 (.own 10 (((l++za6 [head])++zay s acts i xs j)++za6 [(⟨#[32,32]⟩:ByteArray),(stW s x2),(⟨#[32,47,32]⟩:ByteArray),(actW s (acA acts (i+j)))]).length) [.d (.sl 1 (s.vars.map za2)),.d (.sl 5 (s.bounds.map za1.d)),cI s.init.kind,cPs s.init.r.t.parts,cB s.init.r.t.k.neg,.d (nsl s.init.r.t.k.abs),cB s.init.r.eq,cFs s.init.kids,.d (.sl 3 (s.procs.map za3.d)),.d (.sl 10 (s.acts.map za7.d)),cIs acts,cI ((i+j+1:Nat):Int)]
abbrev q4 (l:List UInt8) (head:ByteArray) (s:zaw) (acts:List Int) (i:Nat) (xs:List StD) (j:Nat):L:=.bld 77 (.own 9 ((l++za6 [head])++zay s acts i xs j).length) [.d (.sl 1 (s.vars.map za2)),.d (.sl 5 (s.bounds.map za1.d)),cI s.init.kind,cPs s.init.r.t.parts,cB s.init.r.t.k.neg,.d (nsl s.init.r.t.k.abs),cB s.init.r.eq,cFs s.init.kids,.d (.sl 3 (s.procs.map za3.d)),.d (.sl 10 (s.acts.map za7.d)),cIs acts,cI ((i+j:Nat):Int)]
abbrev q5 (l:List UInt8) (head:ByteArray) (s:zaw) (acts:List Int) (i:Nat):L:=.bld 77 (.own 9 (l++za6 [head]).length) [.d (.sl 1 (s.vars.map za2)),.d (.sl 5 (s.bounds.map za1.d)),cI s.init.kind,cPs s.init.r.t.parts,cB s.init.r.t.k.neg,.d (nsl s.init.r.t.k.abs),cB s.init.r.eq,cFs s.init.kids,.d (.sl 3 (s.procs.map za3.d)),.d (.sl 10 (s.acts.map za7.d)),cIs acts,cI (i:Int)]
abbrev q6 (l:List UInt8) (head:ByteArray) (s:zaw) (acts:List Int) (i:Nat) (xs:List StD) (j:Nat) (x2:StD):L:=.row 5 1 (bw (((l++za6 [head])++zay s acts i xs j)++za6 [(⟨#[32,32]⟩:ByteArray),(stW s x2),(⟨#[32,47,32]⟩:ByteArray),(actW s (acA acts (i+j)))]))
abbrev q7 (xs:List StD):V:=.t (.c (.d (.sl 2 (xs.map StD.d))))
set_option maxHeartbeats 4000000 in
theorem WStates (s:zaw) (acts:List Int) (i:Nat) (l:List UInt8) (head:ByteArray) (xs:List StD) (hz:TxOk s) (hla:s.acts.length≤1000000) (hxs:∀ x ∈ xs,StOk 4 x) (hln:xs.length≤10) (hi:i≤100) (hl:l.length≤2000000000) (hh:head.size≤100):Fn Tryd.prog 21 [(7,.bld 77 (.own 8 l.length) [.d (.sl 1 (s.vars.map za2)),.d (.sl 5 (s.bounds.map za1.d)),cI s.init.kind,cPs s.init.r.t.parts,cB s.init.r.t.k.neg,.d (nsl s.init.r.t.k.abs),cB s.init.r.eq,cFs s.init.kids,.d (.sl 3 (s.procs.map za3.d)),.d (.sl 10 (s.acts.map za7.d)),cIs acts,cI (i:Int)]),(8,.row 5 1 (bw l))] [vp 7 0,.t (.c (.d (.raw (.string head)))),.t (.c (.d (.sl 2 (xs.map StD.d))))] (.tup []) [(7,.bld 77 (.own 9 ((l++za6 [head])++zay s acts i xs xs.length).length) [.d (.sl 1 (s.vars.map za2)),.d (.sl 5 (s.bounds.map za1.d)),cI s.init.kind,cPs s.init.r.t.parts,cB s.init.r.t.k.neg,.d (nsl s.init.r.t.k.abs),cB s.init.r.eq,cFs s.init.kids,.d (.sl 3 (s.procs.map za3.d)),.d (.sl 10 (s.acts.map za7.d)),cIs acts,cI ((i+xs.length:Nat):Int)]),(9,.row 5 1 (bw ((l++za6 [head])++zay s acts i xs xs.length)))]:=by
 have llh:(za6 [head]).length=head.size+1:=by rw [zb4,baL];simp [zan]
 have hlh:l.length+(za6 [head]).length≤4294967296:=by omega
 have lpl:(l++za6 [head]).length≤2000000101:=by rw [List.length_append];omega
 refine Fn.body Tryd.func21 rfl 35 rfl fun w H B a h=>?_
 refine rq zaa 30 [(2,.gen _ _ _ fun _ _ _ _=>Op.buildD (d:=10) (len:=1) (rows:=[head].map za2) (rs:=[(9,.t (.c (.d (.raw (.string head)))))]) zbs (.cons (i:=0) (OV.tmp 9 _) (.nil)) (by kernel_rfl) rfl (by simp [za2]) (by decide) (by decide)),(3,.call (WLineA (.sl 1 (s.vars.map za2)) (.sl 5 (s.bounds.map za1.d)) (.raw (.int .i64 s.init.kind)) (.sl 3 (s.init.r.t.parts.map Part.d)) (.raw (.bool s.init.r.t.k.neg)) (nsl s.init.r.t.k.abs) (.raw (.bool s.init.r.eq)) (.sl 6 (s.init.kids.map zau.d)) (.sl 3 (s.procs.map za3.d)) (.sl 10 (s.acts.map za7.d)) (.sl 1 (acts.map intD)) (.raw (.int .i64 (i:Int))) l [head] hlh (by simp)) pj1_4)] [(0,vp 7 0),(2,q7 xs)] [(7,q5 l head s acts i),(9,.row 5 1 (bw (l++za6 [head])))] h ?_;clear h;intro a w h
 refine rq zaa 30 [(1,.len (c:=(.d (.sl 2 (xs.map StD.d)))) (n:=xs.length) (zag _ _ _))] [(0,vp 7 0),(12,q7 xs),(13,vi .i64 (xs.length:Int)),(14,vi .i64 0)] [(7,q5 l head s acts i),(9,.row 5 1 (bw (l++za6 [head])))] h ?_;clear h;intro a w h
 refine wp_block ?_
 replace h:=h.conv (f':=F.of [(0,vp 7 0),(12,q7 xs),(13,vi .i64 (xs.length:Int)),(14,vi .i64 0)] [(7,.bld 77 (.own 9 ((l++za6 [head])++zay s acts i xs 0).length) [.d (.sl 1 (s.vars.map za2)),.d (.sl 5 (s.bounds.map za1.d)),cI s.init.kind,cPs s.init.r.t.parts,cB s.init.r.t.k.neg,.d (nsl s.init.r.t.k.abs),cB s.init.r.eq,cFs s.init.kids,.d (.sl 3 (s.procs.map za3.d)),.d (.sl 10 (s.acts.map za7.d)),cIs acts,cI (i:Int)]),(9,.row 5 1 (bw ((l++za6 [head])++zay s acts i xs 0)))]) (congrArg (fun (z_:List UInt8)=>F.of [(0,vp 7 0),(12,q7 xs),(13,vi .i64 (xs.length:Int)),(14,vi .i64 0)] [(7,.bld 77 (.own 9 z_.length) [.d (.sl 1 (s.vars.map za2)),.d (.sl 5 (s.bounds.map za1.d)),cI s.init.kind,cPs s.init.r.t.parts,cB s.init.r.t.k.neg,.d (nsl s.init.r.t.k.abs),cB s.init.r.eq,cFs s.init.kids,.d (.sl 3 (s.procs.map za3.d)),.d (.sl 10 (s.acts.map za7.d)),cIs acts,cI (i:Int)]),(9,.row 5 1 (bw z_))]) (show ((l++za6 [head]):List UInt8)=((l++za6 [head])++zay s acts i xs 0) from (by simp [zay])))
 replace h:=h.conv (f':=F.of [(0,vp 7 0),(12,q7 xs),(13,vi .i64 (xs.length:Int)),(14,vi .i64 0)] [(7,.bld 77 (.own 9 ((l++za6 [head])++zay s acts i xs 0).length) [.d (.sl 1 (s.vars.map za2)),.d (.sl 5 (s.bounds.map za1.d)),cI s.init.kind,cPs s.init.r.t.parts,cB s.init.r.t.k.neg,.d (nsl s.init.r.t.k.abs),cB s.init.r.eq,cFs s.init.kids,.d (.sl 3 (s.procs.map za3.d)),.d (.sl 10 (s.acts.map za7.d)),cIs acts,cI ((i+0:Nat):Int)]),(9,.row 5 1 (bw ((l++za6 [head])++zay s acts i xs 0)))]) (by rw [show ((i:Int):Int)=((i+0:Nat):Int) from rfl])
 refine zci (ι:=(Nat)) (fun (z_:(Nat))=>match z_ with | j=>j≤xs.length)
   (fun (z_:(Nat))=>match z_ with | j=>[(0,vp 7 0),(12,q7 xs),(13,vi .i64 (xs.length:Int)),(14,vi .i64 (j:Int))])
   (fun (z_:(Nat))=>match z_ with | j=>[(7,q4 l head s acts i xs j),(9,.row 5 1 (bw ((l++za6 [head])++zay s acts i xs j)))])
   (fun (z_:(Nat))=>match z_ with | j=>xs.length - j) 0 ?_ h (by kernel_rfl) (by kernel_rfl) ?_
 ·exact Nat.zero_le _
 ·clear h;rintro j a w hI h
  change St _ (F.of [(0,vp 7 0),(12,q7 xs),(13,vi .i64 (xs.length:Int)),(14,vi .i64 (j:Int))] [(7,q4 l head s acts i xs j),(9,.row 5 1 (bw ((l++za6 [head])++zay s acts i xs j)))]) a w at h
  have lsj:=zcl hz hla hxs acts i j hI
  refine rq zaa 30 [] [(0,vp 7 0),(12,q7 xs),(13,vi .i64 (xs.length:Int)),(14,vi .i64 (j:Int)),(15,vb (decide ((j:Int)<(xs.length:Int))))] [(7,q4 l head s acts i xs j),(9,.row 5 1 (bw ((l++za6 [head])++zay s acts i xs j)))] h ?_;clear h;intro a w h
  refine wp_seq ?_
  refine zab (decide ((j:Int)<(xs.length:Int))) h rfl (fun hc=>?_) (fun hc=>?_)
  ·have hc1:=hc;clear hc
   have hc1':=of_decide_eq_true hc1
   refine wp_skip (za5 (wp_seq (wp_block ?_)))
   obtain ⟨x2,hx2⟩:∃ z_:StD,xs[j]?=some z_:=⟨_,List.getElem?_eq_getElem (by first | omega | (simp at *;omega))⟩
   have gx2:=hxs x2 (List.mem_of_getElem? hx2)
   have lsx2:=stLn_len hz hla gx2 acts (i+j)
   refine rq zaa 30 [(0,.gen _ _ _ fun _ _ _ _=>Op.idxD (d:=16) (t:=12) (k:=.i64) kn_0 (zas hx2 (f:=StD.d)) (OV.tmp 14 _))] [(0,vp 7 0),(7,vp 30 0),(12,q7 xs),(13,vi .i64 (xs.length:Int)),(14,vi .i64 (j:Int))] [(7,q4 l head s acts i xs j),(9,.row 5 1 (bw ((l++za6 [head])++zay s acts i xs j))),(30,.box [cIs x2.locs,cZs x2.vals])] h ?_;clear h;intro a w h
   refine rSW zaa 31 [(2,.gen _ _ _ fun _ _ _ _=>Op.nilP (d:=20) (t:=19) (n:=7) (o:=0)),(4,.gen _ _ _ fun _ _ _ _=>Op.loadB_agg (d:=22) (t:=21) (n:=7) (o:=0) (m:=10) (T:=77) (c0:=.own 9 ((l++za6 [head])++zay s acts i xs j).length) (rest:=[.d (.sl 1 (s.vars.map za2)),.d (.sl 5 (s.bounds.map za1.d)),cI s.init.kind,cPs s.init.r.t.parts,cB s.init.r.t.k.neg,.d (nsl s.init.r.t.k.abs),cB s.init.r.eq,cFs s.init.kids,.d (.sl 3 (s.procs.map za3.d)),.d (.sl 10 (s.acts.map za7.d)),cIs acts,cI ((i+j:Nat):Int)]) (xs:=[.d (.sl 1 (s.vars.map za2)),.d (.sl 5 (s.bounds.map za1.d)),cI s.init.kind,cPs s.init.r.t.parts,cB s.init.r.t.k.neg,.d (nsl s.init.r.t.k.abs),cB s.init.r.eq,cFs s.init.kids,.d (.sl 3 (s.procs.map za3.d)),.d (.sl 10 (s.acts.map za7.d))]) pj1_6 rfl rfl),(6,.call (PState s x2 hz gx2) pj1_7),(8,.gen _ _ _ fun _ _ _ _=>Op.nilP (d:=26) (t:=25) (n:=7) (o:=0)),(10,.gen _ _ _ fun _ _ _ _=>Op.loadB_agg (d:=28) (t:=27) (n:=7) (o:=0) (m:=10) (T:=77) (c0:=.own 9 ((l++za6 [head])++zay s acts i xs j).length) (rest:=[.d (.sl 1 (s.vars.map za2)),.d (.sl 5 (s.bounds.map za1.d)),cI s.init.kind,cPs s.init.r.t.parts,cB s.init.r.t.k.neg,.d (nsl s.init.r.t.k.abs),cB s.init.r.eq,cFs s.init.kids,.d (.sl 3 (s.procs.map za3.d)),.d (.sl 10 (s.acts.map za7.d)),cIs acts,cI ((i+j:Nat):Int)]) (xs:=[.d (.sl 1 (s.vars.map za2)),.d (.sl 5 (s.bounds.map za1.d)),cI s.init.kind,cPs s.init.r.t.parts,cB s.init.r.t.k.neg,.d (nsl s.init.r.t.k.abs),cB s.init.r.eq,cFs s.init.kids,.d (.sl 3 (s.procs.map za3.d)),.d (.sl 10 (s.acts.map za7.d))]) pj1_6 rfl rfl),(12,.call (WAct s acts (i+j) ((l++za6 [head])++zay s acts i xs j) (by omega)) pj1_8),(13,.call (PAct s (acA acts (i+j)) hz hla) pj1_9),(14,.gen _ _ _ fun _ _ _ _=>Op.buildD (d:=32) (len:=4) (rows:=[(⟨#[32,32]⟩:ByteArray),(stW s x2),(⟨#[32,47,32]⟩:ByteArray),(actW s (acA acts (i+j)))].map za2) (rs:=[(24,.t (.c (.d (.raw (.string (stW s x2)))))),(31,.t (.c (.d (.raw (.string (actW s (acA acts (i+j))))))))]) zbs (.cons (i:=0) (OV.const (.string (⟨#[32,32]⟩:ByteArray)) rfl) (.cons (i:=1) (OV.tmp 24 _) (.cons (i:=2) (OV.const (.string (⟨#[32,47,32]⟩:ByteArray)) rfl) (.cons (i:=3) (OV.tmp 31 _) (.nil))))) (by kernel_rfl) rfl (by simp [za2]) (by decide) (by decide)),(15,.call (WLineB (.sl 1 (s.vars.map za2)) (.sl 5 (s.bounds.map za1.d)) (.raw (.int .i64 s.init.kind)) (.sl 3 (s.init.r.t.parts.map Part.d)) (.raw (.bool s.init.r.t.k.neg)) (nsl s.init.r.t.k.abs) (.raw (.bool s.init.r.eq)) (.sl 6 (s.init.kids.map zau.d)) (.sl 3 (s.procs.map za3.d)) (.sl 10 (s.acts.map za7.d)) (.sl 1 (acts.map intD)) (.raw (.int .i64 ((i+j+1:Nat):Int))) ((l++za6 [head])++zay s acts i xs j) [(⟨#[32,32]⟩:ByteArray),(stW s x2),(⟨#[32,47,32]⟩:ByteArray),(actW s (acA acts (i+j)))] (by first | omega | (rw [List.length_append];show _+(stLn s acts (i+j) x2).length≤_;rw [List.length_append];omega)) (by simp)) pj1_4)] [(0,vp 7 0),(12,q7 xs),(13,vi .i64 (xs.length:Int)),(14,vi .i64 (j:Int))] [(7,q3 l head s acts i xs j x2),(10,q6 l head s acts i xs j x2)] 12 10 7 (.bld 77 (.own 9 ((l++za6 [head])++zay s acts i xs j).length) [.d (.sl 1 (s.vars.map za2)),.d (.sl 5 (s.bounds.map za1.d)),cI s.init.kind,cPs s.init.r.t.parts,cB s.init.r.t.k.neg,.d (nsl s.init.r.t.k.abs),cB s.init.r.eq,cFs s.init.kids,.d (.sl 3 (s.procs.map za3.d)),.d (.sl 10 (s.acts.map za7.d)),cIs acts,cI ((i+j+1:Nat):Int)]) (dy:=some 28) (opy:=.load 39 (.tmp 27)) { rs:=[(27,vp 7 2)],rl:=[(7,.bld 77 (.own 9 ((l++za6 [head])++zay s acts i xs j).length) [.d (.sl 1 (s.vars.map za2)),.d (.sl 5 (s.bounds.map za1.d)),cI s.init.kind,cPs s.init.r.t.parts,cB s.init.r.t.k.neg,.d (nsl s.init.r.t.k.abs),cB s.init.r.eq,cFs s.init.kids,.d (.sl 3 (s.procs.map za3.d)),.d (.sl 10 (s.acts.map za7.d)),cIs acts,cI ((i+j+1:Nat):Int)])],ws:=[(28,some (.t (.agg [.d (.sl 1 (s.vars.map za2)),.d (.sl 5 (s.bounds.map za1.d)),cI s.init.kind,cPs s.init.r.t.parts,cB s.init.r.t.k.neg,.d (nsl s.init.r.t.k.abs),cB s.init.r.eq,cFs s.init.kids,.d (.sl 3 (s.procs.map za3.d)),.d (.sl 10 (s.acts.map za7.d))])))] } (fun _ _ _ _=>Op.loadB_agg (d:=28) (t:=27) (n:=7) (o:=0) (m:=10) (T:=77) (c0:=.own 9 ((l++za6 [head])++zay s acts i xs j).length) (rest:=[.d (.sl 1 (s.vars.map za2)),.d (.sl 5 (s.bounds.map za1.d)),cI s.init.kind,cPs s.init.r.t.parts,cB s.init.r.t.k.neg,.d (nsl s.init.r.t.k.abs),cB s.init.r.eq,cFs s.init.kids,.d (.sl 3 (s.procs.map za3.d)),.d (.sl 10 (s.acts.map za7.d)),cIs acts,cI ((i+j+1:Nat):Int)]) (xs:=[.d (.sl 1 (s.vars.map za2)),.d (.sl 5 (s.bounds.map za1.d)),cI s.init.kind,cPs s.init.r.t.parts,cB s.init.r.t.k.neg,.d (nsl s.init.r.t.k.abs),cB s.init.r.eq,cFs s.init.kids,.d (.sl 3 (s.procs.map za3.d)),.d (.sl 10 (s.acts.map za7.d))]) pj1_6 rfl rfl) rfl rfl rfl (by kernel_rfl) (by kernel_rfl) h ?_;clear h;intro a w h
   refine zaj (za5 (rn zaa 31 [(0,.add .i64 (m:=(j:Int)) (n:=1) (zap (by omega) (by omega)))] [(0,vp 7 0),(12,q7 xs),(13,vi .i64 (xs.length:Int)),(14,vi .i64 ((j:Int)+1))] [(7,q3 l head s acts i xs j x2),(10,q6 l head s acts i xs j x2)] h ?_));clear h;intro a w h
   refine za5 ?_
   replace h:=renS 10 9 [(0,vp 7 0),(12,q7 xs),(13,vi .i64 (xs.length:Int)),(14,vi .i64 ((j:Int)+1))] [(7,.bld 77 (.own 9 (((l++za6 [head])++zay s acts i xs j)++za6 [(⟨#[32,32]⟩:ByteArray),(stW s x2),(⟨#[32,47,32]⟩:ByteArray),(actW s (acA acts (i+j)))]).length) [.d (.sl 1 (s.vars.map za2)),.d (.sl 5 (s.bounds.map za1.d)),cI s.init.kind,cPs s.init.r.t.parts,cB s.init.r.t.k.neg,.d (nsl s.init.r.t.k.abs),cB s.init.r.eq,cFs s.init.kids,.d (.sl 3 (s.procs.map za3.d)),.d (.sl 10 (s.acts.map za7.d)),cIs acts,cI ((i+j+1:Nat):Int)]),(9,q6 l head s acts i xs j x2)] h
   replace h:=h.conv (f':=F.of [(0,vp 7 0),(12,q7 xs),(13,vi .i64 (xs.length:Int)),(14,vi .i64 ((j:Int)+1))] [(7,.bld 77 (.own 9 ((l++za6 [head])++zay s acts i xs (j+1)).length) [.d (.sl 1 (s.vars.map za2)),.d (.sl 5 (s.bounds.map za1.d)),cI s.init.kind,cPs s.init.r.t.parts,cB s.init.r.t.k.neg,.d (nsl s.init.r.t.k.abs),cB s.init.r.eq,cFs s.init.kids,.d (.sl 3 (s.procs.map za3.d)),.d (.sl 10 (s.acts.map za7.d)),cIs acts,cI ((i+j+1:Nat):Int)]),(9,.row 5 1 (bw ((l++za6 [head])++zay s acts i xs (j+1))))]) (congrArg (fun (z_:List UInt8)=>F.of [(0,vp 7 0),(12,q7 xs),(13,vi .i64 (xs.length:Int)),(14,vi .i64 ((j:Int)+1))] [(7,.bld 77 (.own 9 z_.length) [.d (.sl 1 (s.vars.map za2)),.d (.sl 5 (s.bounds.map za1.d)),cI s.init.kind,cPs s.init.r.t.parts,cB s.init.r.t.k.neg,.d (nsl s.init.r.t.k.abs),cB s.init.r.eq,cFs s.init.kids,.d (.sl 3 (s.procs.map za3.d)),.d (.sl 10 (s.acts.map za7.d)),cIs acts,cI ((i+j+1:Nat):Int)]),(9,.row 5 1 (bw z_))]) (show ((((l++za6 [head])++zay s acts i xs j)++za6 [(⟨#[32,32]⟩:ByteArray),(stW s x2),(⟨#[32,47,32]⟩:ByteArray),(actW s (acA acts (i+j)))]):List UInt8)=((l++za6 [head])++zay s acts i xs (j+1)) from (by rw [← stsN_snoc hx2,← List.append_assoc];rfl)))
   replace h:=h.conv (f':=F.of [(0,vp 7 0),(12,q7 xs),(13,vi .i64 (xs.length:Int)),(14,vi .i64 ((j:Int)+1))] [(7,.bld 77 (.own 9 ((l++za6 [head])++zay s acts i xs (j+1)).length) [.d (.sl 1 (s.vars.map za2)),.d (.sl 5 (s.bounds.map za1.d)),cI s.init.kind,cPs s.init.r.t.parts,cB s.init.r.t.k.neg,.d (nsl s.init.r.t.k.abs),cB s.init.r.eq,cFs s.init.kids,.d (.sl 3 (s.procs.map za3.d)),.d (.sl 10 (s.acts.map za7.d)),cIs acts,cI ((i+(j+1):Nat):Int)]),(9,.row 5 1 (bw ((l++za6 [head])++zay s acts i xs (j+1))))]) (by rw [show (((i+j+1:Nat):Int):Int)=((i+(j+1):Nat):Int) from rfl])
   refine zaz (x:=j) (y:=j+1) h ?_ ?_
   ·have:=zar hx2
    show j+1≤xs.length
    omega
   ·show xs.length - (j+1)<xs.length - j
    have:=zar hx2;omega
  ·have hc2:=hc;clear hc
   have hc2':=of_decide_eq_false hc2
   refine wp_exit (zao (zao (zac ?_)))
   replace h:=h.conv (f':=F.of [(0,vp 7 0),(12,q7 xs),(13,vi .i64 (xs.length:Int)),(14,vi .i64 (j:Int)),(15,vb (decide ((j:Int)<(xs.length:Int))))] [(7,.bld 77 (.own 9 ((l++za6 [head])++zay s acts i xs xs.length).length) [.d (.sl 1 (s.vars.map za2)),.d (.sl 5 (s.bounds.map za1.d)),cI s.init.kind,cPs s.init.r.t.parts,cB s.init.r.t.k.neg,.d (nsl s.init.r.t.k.abs),cB s.init.r.eq,cFs s.init.kids,.d (.sl 3 (s.procs.map za3.d)),.d (.sl 10 (s.acts.map za7.d)),cIs acts,cI ((i+j:Nat):Int)]),(9,.row 5 1 (bw ((l++za6 [head])++zay s acts i xs xs.length)))]) (congrArg (fun (z_:List UInt8)=>F.of [(0,vp 7 0),(12,q7 xs),(13,vi .i64 (xs.length:Int)),(14,vi .i64 (j:Int)),(15,vb (decide ((j:Int)<(xs.length:Int))))] [(7,.bld 77 (.own 9 z_.length) [.d (.sl 1 (s.vars.map za2)),.d (.sl 5 (s.bounds.map za1.d)),cI s.init.kind,cPs s.init.r.t.parts,cB s.init.r.t.k.neg,.d (nsl s.init.r.t.k.abs),cB s.init.r.eq,cFs s.init.kids,.d (.sl 3 (s.procs.map za3.d)),.d (.sl 10 (s.acts.map za7.d)),cIs acts,cI ((i+j:Nat):Int)]),(9,.row 5 1 (bw z_))]) (show (((l++za6 [head])++zay s acts i xs j):List UInt8)=((l++za6 [head])++zay s acts i xs xs.length) from (by rw [show j=xs.length by have:=of_decide_eq_false hc2;omega])))
   replace h:=h.conv (f':=F.of [(0,vp 7 0),(12,q7 xs),(13,vi .i64 (xs.length:Int)),(14,vi .i64 (j:Int)),(15,vb (decide ((j:Int)<(xs.length:Int))))] [(7,.bld 77 (.own 9 ((l++za6 [head])++zay s acts i xs xs.length).length) [.d (.sl 1 (s.vars.map za2)),.d (.sl 5 (s.bounds.map za1.d)),cI s.init.kind,cPs s.init.r.t.parts,cB s.init.r.t.k.neg,.d (nsl s.init.r.t.k.abs),cB s.init.r.eq,cFs s.init.kids,.d (.sl 3 (s.procs.map za3.d)),.d (.sl 10 (s.acts.map za7.d)),cIs acts,cI ((i+xs.length:Nat):Int)]),(9,.row 5 1 (bw ((l++za6 [head])++zay s acts i xs xs.length)))]) (by rw [show (((i+j:Nat):Int):Int)=((i+xs.length:Nat):Int) from (by have:=of_decide_eq_false hc2;omega)])
   refine zb3 [] h Exit.normal (.inr rfl)  rfl trivial ?_
   rfl
theorem pk1_0:za8 Tryd.prog 20:=za8.mk' (by kernel_rfl)
theorem pk1_3:za8 Tryd.prog 21:=za8.mk' (by kernel_rfl)
theorem pk1_4:za8 Tryd.prog 22:=za8.mk' (by kernel_rfl)
def za9 (v:Int):ByteArray:=if v=1 then ⟨#[72,79,76,68,83]⟩ else if v=2 then ⟨#[86,73,79,76,65,84,69,68]⟩ else if v=3 then ⟨#[85,78,75,78,79,87,78]⟩ else ⟨#[69,82,82,79,82]⟩
theorem nameW_sz (v:Int):(za9 v).size≤8:=by
 unfold za9
 split
 ·decide
 ·split
  ·decide
  ·split
   ·decide
   ·decide
structure RnOk (r:RunD):Prop where
  stem:∀ x ∈ r.stem,StOk 4 x
  cyc:∀ x ∈ r.cycle,StOk 4 x
  len:r.stem.length+r.cycle.length≤10
  acts:r.acts.length≤1000
theorem zb7 (a:ByteArray):(za6 [a]).length=a.size+1:=by rw [zb4,baL];simp [zan]
theorem zbo (a b:ByteArray):(za6 [a,b]).length=a.size+b.size+1:=by rw [zb4,baL,baL];simp [zan]
def headW (v:Int) (why:ByteArray):List UInt8:=([]++za6 [za9 v])++za6 [⟨#[119,104,121,58,32]⟩,why]
def runW (s:zaw) (r:RunD):List UInt8:=(za6 [⟨#[115,116,101,109,58]⟩]++zay s r.acts 0 r.stem r.stem.length)++(za6 [⟨#[99,121,99,108,101,58]⟩]++zay s r.acts r.stem.length r.cycle r.cycle.length)
def txtW (s:zaw) (v:Int) (why:ByteArray) (r:RunD):List UInt8:=if v=2 then headW v why++runW s r else headW v why
theorem headW_len (v:Int) (why:ByteArray):(headW v why).length=(za9 v).size+why.size+7:=by
 unfold headW
 rw [List.nil_append,List.length_append,zb7,zbo,show (⟨#[119,104,121,58,32]⟩:ByteArray).size=5 from rfl];omega
theorem txtW_ne {s:zaw} {v:Int} {why:ByteArray} {r:RunD}:txtW s v why r≠[]:=by
 intro e
 have h1:=congrArg List.length e
 unfold txtW at h1
 have h2:=headW_len v why
 split at h1
 ·rw [List.length_append,List.length_nil] at h1;omega
 ·rw [List.length_nil] at h1;omega
theorem txtW_no {s:zaw} {v:Int} {why:ByteArray} {r:RunD} (h:¬ v=2):([]++za6 [za9 v])++za6 [⟨#[119,104,121,58,32]⟩,why]=txtW s v why r:=by unfold txtW;rw [if_neg h];rfl
theorem txtW_yes {s:zaw} {v:Int} {why:ByteArray} {r:RunD} (h:v=2):(((((([]++za6 [za9 v])++za6 [⟨#[119,104,121,58,32]⟩,why])++za6 [⟨#[115,116,101,109,58]⟩])++zay s r.acts 0 r.stem r.stem.length))++za6 [⟨#[99,121,99,108,101,58]⟩])++zay s r.acts (0+r.stem.length) r.cycle r.cycle.length=txtW s v why r:=by
 unfold txtW headW runW;rw [if_pos h,Nat.zero_add];simp only [List.append_assoc]
theorem runW_len {s:zaw} {r:RunD} (hz:TxOk s) (hl:s.acts.length≤1000000) (hr:RnOk r):(zay s r.acts 0 r.stem r.stem.length).length≤430000000∧(zay s r.acts r.stem.length r.cycle r.cycle.length).length≤430000000:=by
 have h1:=zcl hz hl hr.stem r.acts 0 _ (Nat.le_refl _)
 have h2:=zcl hz hl hr.cyc r.acts r.stem.length _ (Nat.le_refl _)
 have h3:=hr.len
 have h4:r.stem.length*43000000≤10*43000000:=Nat.mul_le_mul_right _ (by omega)
 have h5:r.cycle.length*43000000≤10*43000000:=Nat.mul_le_mul_right _ (by omega)
 exact ⟨by omega,by omega⟩
def wrongL (why:ByteArray) (ln cl:Int) (e:Int):List ByteArray:=[why,⟨#[32]⟩,itW ln,⟨#[58]⟩,itW cl,⟨#[32]⟩,itW e]
def zbl (why:ByteArray) (ln cl:Int) (e:Int):List UInt8:=([]++za6 [za9 4])++za6 (wrongL why ln cl e)
theorem wrongW_ne {why:ByteArray} {ln cl e:Int}:zbl why ln cl e≠[]:=by
 intro h
 have h1:=congrArg List.length h
 unfold zbl at h1
 rw [List.nil_append,List.length_append,zb7,List.length_nil] at h1
 omega
theorem it64_sz {n:Int} (h0:-9223372036854775808≤n) (h1:n≤9223372036854775807):(itW n).size≤30:=itW_sz (k:=29) (by have e:(10:Nat) ^ 29=100000000000000000000000000000:=rfl;omega) (by decide)
set_option maxHeartbeats 4000000 in
theorem PName (v:Int) :Fn Tryd.prog 20 [] [vi .i64 v] (vs (za9 v)) []:=by
 refine Fn.body Tryd.func20 rfl 10 rfl fun w H B a h=>?_
 refine rq zaa 0 [] [(0,vi .i64 v),(2,.t (.c (.d (.raw (.string ByteArray.empty)))))] [] h ?_;clear h;intro a w h
 refine wp_seq (rq zaa 0 [] [(2,.t (.c (.d (.raw (.string ByteArray.empty))))),(3,vi .i64 v)] [] h ?_);clear h;intro a w h
 refine wp_block (rq zaa 0 [] [(2,.t (.c (.d (.raw (.string ByteArray.empty))))),(3,vi .i64 v),(4,vb (v == 1))] [] h ?_);clear h;intro a w h
 refine zab (v == 1) h rfl (fun hc=>?_) (fun hc=>?_)
 ·have hc1:=hc;clear hc
  have hc1':=hc1;(try simp at hc1')
  refine rq zaa 0 [] [(2,.t (.c (.d (.raw (.string (⟨#[72,79,76,68,83]⟩:ByteArray))))))] [] h ?_;clear h;intro a w h
  refine wp_ret (zax (zah ?_))
  refine zb3 [.c (.d (.raw (.string (⟨#[72,79,76,68,83]⟩:ByteArray))))] h Exit.ret (.inl rfl)  rfl ⟨RV.tmp _ _ rfl,trivial⟩ ?_
  have p1:v=1:=by simpa using hc1
  unfold za9;rw [if_pos p1];first | done | rfl
 ·have hc2:=hc;clear hc
  have hc2':=hc2;(try simp at hc2')
  refine rq zaa 0 [] [(2,.t (.c (.d (.raw (.string ByteArray.empty))))),(3,vi .i64 v),(6,vb (v == 2))] [] h ?_;clear h;intro a w h
  refine zab (v == 2) h rfl (fun hc=>?_) (fun hc=>?_)
  ·have hc3:=hc;clear hc
   have hc3':=hc3;(try simp at hc3')
   refine rq zaa 0 [] [(2,.t (.c (.d (.raw (.string (⟨#[86,73,79,76,65,84,69,68]⟩:ByteArray))))))] [] h ?_;clear h;intro a w h
   refine wp_ret (zax (zah ?_))
   refine zb3 [.c (.d (.raw (.string (⟨#[86,73,79,76,65,84,69,68]⟩:ByteArray))))] h Exit.ret (.inl rfl)  rfl ⟨RV.tmp _ _ rfl,trivial⟩ ?_
   have p1:¬ v=1:=by simpa using hc2
   have p2:v=2:=by simpa using hc3
   unfold za9;rw [if_neg p1,if_pos p2];first | done | rfl
  ·have hc4:=hc;clear hc
   have hc4':=hc4;(try simp at hc4')
   refine rq zaa 0 [] [(2,.t (.c (.d (.raw (.string ByteArray.empty))))),(8,vb (v == 3))] [] h ?_;clear h;intro a w h
   refine zab (v == 3) h rfl (fun hc=>?_) (fun hc=>?_)
   ·have hc5:=hc;clear hc
    have hc5':=hc5;(try simp at hc5')
    refine rq zaa 0 [] [(2,.t (.c (.d (.raw (.string (⟨#[85,78,75,78,79,87,78]⟩:ByteArray))))))] [] h ?_;clear h;intro a w h
    refine wp_ret (zax (zah ?_))
    refine zb3 [.c (.d (.raw (.string (⟨#[85,78,75,78,79,87,78]⟩:ByteArray))))] h Exit.ret (.inl rfl)  rfl ⟨RV.tmp _ _ rfl,trivial⟩ ?_
    have p1:¬ v=1:=by simpa using hc2
    have p2:¬ v=2:=by simpa using hc4
    have p3:v=3:=by simpa using hc5
    unfold za9;rw [if_neg p1,if_neg p2,if_pos p3];first | done | rfl
   ·have hc6:=hc;clear hc
    have hc6':=hc6;(try simp at hc6')
    refine wp_skip (zaj (za5 (rq zaa 0 [] [(2,.t (.c (.d (.raw (.string (⟨#[69,82,82,79,82]⟩:ByteArray))))))] [] h ?_)));clear h;intro a w h
    refine wp_ret ?_
    refine zb3 [.c (.d (.raw (.string (⟨#[69,82,82,79,82]⟩:ByteArray))))] h Exit.ret (.inl rfl)  rfl ⟨RV.tmp _ _ rfl,trivial⟩ ?_
    have p1:¬ v=1:=by simpa using hc2
    have p2:¬ v=2:=by simpa using hc4
    have p3:¬ v=3:=by simpa using hc6
    unfold za9;rw [if_neg p1,if_neg p2,if_neg p3];first | done | rfl
set_option maxHeartbeats 4000000 in
theorem RName (v:Int) :Fn Tryd.prog 23 [] [vi .i64 v] (vs (za9 v)) []:=by
 refine Fn.body Tryd.func23 rfl 10 rfl fun w H B a h=>?_
 refine rq zaa 0 [] [(0,vi .i64 v),(2,.t (.c (.d (.raw (.string ByteArray.empty)))))] [] h ?_;clear h;intro a w h
 refine wp_seq (rq zaa 0 [] [(2,.t (.c (.d (.raw (.string ByteArray.empty))))),(3,vi .i64 v)] [] h ?_);clear h;intro a w h
 refine wp_block (rq zaa 0 [] [(2,.t (.c (.d (.raw (.string ByteArray.empty))))),(3,vi .i64 v),(4,vb (v == 1))] [] h ?_);clear h;intro a w h
 refine zab (v == 1) h rfl (fun hc=>?_) (fun hc=>?_)
 ·have hc1:=hc;clear hc
  have hc1':=hc1;(try simp at hc1')
  refine rq zaa 0 [] [(2,.t (.c (.d (.raw (.string (⟨#[72,79,76,68,83]⟩:ByteArray))))))] [] h ?_;clear h;intro a w h
  refine wp_ret (zax (zah ?_))
  refine zb3 [.c (.d (.raw (.string (⟨#[72,79,76,68,83]⟩:ByteArray))))] h Exit.ret (.inl rfl)  rfl ⟨RV.tmp _ _ rfl,trivial⟩ ?_
  have p1:v=1:=by simpa using hc1
  unfold za9;rw [if_pos p1];first | done | rfl
 ·have hc2:=hc;clear hc
  have hc2':=hc2;(try simp at hc2')
  refine rq zaa 0 [] [(2,.t (.c (.d (.raw (.string ByteArray.empty))))),(3,vi .i64 v),(6,vb (v == 2))] [] h ?_;clear h;intro a w h
  refine zab (v == 2) h rfl (fun hc=>?_) (fun hc=>?_)
  ·have hc3:=hc;clear hc
   have hc3':=hc3;(try simp at hc3')
   refine rq zaa 0 [] [(2,.t (.c (.d (.raw (.string (⟨#[86,73,79,76,65,84,69,68]⟩:ByteArray))))))] [] h ?_;clear h;intro a w h
   refine wp_ret (zax (zah ?_))
   refine zb3 [.c (.d (.raw (.string (⟨#[86,73,79,76,65,84,69,68]⟩:ByteArray))))] h Exit.ret (.inl rfl)  rfl ⟨RV.tmp _ _ rfl,trivial⟩ ?_
   have p1:¬ v=1:=by simpa using hc2
   have p2:v=2:=by simpa using hc3
   unfold za9;rw [if_neg p1,if_pos p2];first | done | rfl
  ·have hc4:=hc;clear hc
   have hc4':=hc4;(try simp at hc4')
   refine rq zaa 0 [] [(2,.t (.c (.d (.raw (.string ByteArray.empty))))),(8,vb (v == 3))] [] h ?_;clear h;intro a w h
   refine zab (v == 3) h rfl (fun hc=>?_) (fun hc=>?_)
   ·have hc5:=hc;clear hc
    have hc5':=hc5;(try simp at hc5')
    refine rq zaa 0 [] [(2,.t (.c (.d (.raw (.string (⟨#[85,78,75,78,79,87,78]⟩:ByteArray))))))] [] h ?_;clear h;intro a w h
    refine wp_ret (zax (zah ?_))
    refine zb3 [.c (.d (.raw (.string (⟨#[85,78,75,78,79,87,78]⟩:ByteArray))))] h Exit.ret (.inl rfl)  rfl ⟨RV.tmp _ _ rfl,trivial⟩ ?_
    have p1:¬ v=1:=by simpa using hc2
    have p2:¬ v=2:=by simpa using hc4
    have p3:v=3:=by simpa using hc5
    unfold za9;rw [if_neg p1,if_neg p2,if_pos p3];first | done | rfl
   ·have hc6:=hc;clear hc
    have hc6':=hc6;(try simp at hc6')
    refine wp_skip (zaj (za5 (rq zaa 0 [] [(2,.t (.c (.d (.raw (.string (⟨#[69,82,82,79,82]⟩:ByteArray))))))] [] h ?_)));clear h;intro a w h
    refine wp_ret ?_
    refine zb3 [.c (.d (.raw (.string (⟨#[69,82,82,79,82]⟩:ByteArray))))] h Exit.ret (.inl rfl)  rfl ⟨RV.tmp _ _ rfl,trivial⟩ ?_
    have p1:¬ v=1:=by simpa using hc2
    have p2:¬ v=2:=by simpa using hc4
    have p3:¬ v=3:=by simpa using hc6
    unfold za9;rw [if_neg p1,if_neg p2,if_neg p3];first | done | rfl
abbrev q8 (v:Int) (why:ByteArray) (s:zaw) (r:RunD):L:=.bld 77 (.own 9 (([]++za6 [(za9 v)])++za6 [(⟨#[119,104,121,58,32]⟩:ByteArray),why]).length) [.d (.sl 1 (s.vars.map za2)),.d (.sl 5 (s.bounds.map za1.d)),cI s.init.kind,cPs s.init.r.t.parts,cB s.init.r.t.k.neg,.d (nsl s.init.r.t.k.abs),cB s.init.r.eq,cFs s.init.kids,.d (.sl 3 (s.procs.map za3.d)),.d (.sl 10 (s.acts.map za7.d)),cIs r.acts,cI 0]
abbrev q9 (v:Int) (why:ByteArray) (s:zaw) (r:RunD):L:=.bld 77 (.own 8 (([]++za6 [(za9 v)])++za6 [(⟨#[119,104,121,58,32]⟩:ByteArray),why]).length) [.d (.sl 1 (s.vars.map za2)),.d (.sl 5 (s.bounds.map za1.d)),cI s.init.kind,cPs s.init.r.t.parts,cB s.init.r.t.k.neg,.d (nsl s.init.r.t.k.abs),cB s.init.r.eq,cFs s.init.kids,.d (.sl 3 (s.procs.map za3.d)),.d (.sl 10 (s.acts.map za7.d)),cIs r.acts,cI 0]
abbrev q10 (v:Int) (why:ByteArray) (s:zaw) (r:RunD):L:=.row 5 1 (bw (((((([]++za6 [(za9 v)])++za6 [(⟨#[119,104,121,58,32]⟩:ByteArray),why])++za6 [(⟨#[115,116,101,109,58]⟩:ByteArray)])++zay s r.acts 0 r.stem r.stem.length)++za6 [(⟨#[99,121,99,108,101,58]⟩:ByteArray)])++zay s r.acts (0+r.stem.length) r.cycle r.cycle.length))
abbrev q11 (v:Int) (why:ByteArray) (s:zaw) (r:RunD):L:=.row 5 1 (bw (((([]++za6 [(za9 v)])++za6 [(⟨#[119,104,121,58,32]⟩:ByteArray),why])++za6 [(⟨#[115,116,101,109,58]⟩:ByteArray)])++zay s r.acts 0 r.stem r.stem.length))
abbrev q12 (v:Int) (why:ByteArray) (r:RunD) (rd:Int) (lf:Int):L:=.box [cI v,.d (.raw (.string why)),.d (.sl 2 (r.stem.map StD.d)),.d (.sl 2 (r.cycle.map StD.d)),cIs r.acts,cI rd,cI lf]
abbrev q13 (v:Int) (why:ByteArray):L:=.row 5 1 (bw (([]++za6 [(za9 v)])++za6 [(⟨#[119,104,121,58,32]⟩:ByteArray),why]))
abbrev q14:V:=.t (.c (.d (.raw (.string ByteArray.empty))))
set_option maxHeartbeats 4000000 in
theorem PText (s:zaw) (v:Int) (why:ByteArray) (r:RunD) (rd lf:Int) (hz:TxOk s) (hla:s.acts.length≤1000000) (hr:RnOk r) (hw:why.size≤1048576):Fn Tryd.prog 8 [] [.t (.agg [.d (.sl 1 (s.vars.map za2)),.d (.sl 5 (s.bounds.map za1.d)),cI s.init.kind,cPs s.init.r.t.parts,cB s.init.r.t.k.neg,.d (nsl s.init.r.t.k.abs),cB s.init.r.eq,cFs s.init.kids,.d (.sl 3 (s.procs.map za3.d)),.d (.sl 10 (s.acts.map za7.d))]),.t (.agg [cI v,.d (.raw (.string why)),.d (.sl 2 (r.stem.map StD.d)),.d (.sl 2 (r.cycle.map StD.d)),cIs r.acts,cI rd,cI lf])] (vs ⟨(txtW s v why r).toArray⟩) []:=by
 have lwy:(⟨#[119,104,121,58,32]⟩:ByteArray).size=5:=rfl
 have lst:(⟨#[115,116,101,109,58]⟩:ByteArray).size=5:=rfl
 have lnm:=nameW_sz v
 have lrw:=runW_len hz hla hr
 have lrl:=hr.len
 refine Fn.body Tryd.func8 rfl 40 rfl fun w H B a h=>?_
 refine rq zaa 30 [] [(2,vp 30 0),(3,vp 31 0),(4,q14)] [(30,.box [.d (.sl 1 (s.vars.map za2)),.d (.sl 5 (s.bounds.map za1.d)),cI s.init.kind,cPs s.init.r.t.parts,cB s.init.r.t.k.neg,.d (nsl s.init.r.t.k.abs),cB s.init.r.eq,cFs s.init.kids,.d (.sl 3 (s.procs.map za3.d)),.d (.sl 10 (s.acts.map za7.d))]),(31,q12 v why r rd lf)] h ?_;clear h;intro a w h
 refine rq zaa 32 [(5,.gen _ _ _ fun _ _ _ _=>Op.boxB (d:=11) 7 8 (by decide) 5 (T:=77) (rest:=[.d (.sl 1 (s.vars.map za2)),.d (.sl 5 (s.bounds.map za1.d)),cI s.init.kind,cPs s.init.r.t.parts,cB s.init.r.t.k.neg,.d (nsl s.init.r.t.k.abs),cB s.init.r.eq,cFs s.init.kids,.d (.sl 3 (s.procs.map za3.d)),.d (.sl 10 (s.acts.map za7.d)),cIs r.acts,cI 0]) (ds:=[.sl 1 (s.vars.map za2),.sl 5 (s.bounds.map za1.d),.raw (.int .i64 s.init.kind),.sl 3 (s.init.r.t.parts.map Part.d),.raw (.bool s.init.r.t.k.neg),nsl s.init.r.t.k.abs,.raw (.bool s.init.r.eq),.sl 6 (s.init.kids.map zau.d),.sl 3 (s.procs.map za3.d),.sl 10 (s.acts.map za7.d),.sl 1 (r.acts.map intD),.raw (.int .i64 0)]) (.agg [.d (.raw (.pointer none)),.d (.raw za4),.d (.sl 1 (s.vars.map za2)),.d (.sl 5 (s.bounds.map za1.d)),cI s.init.kind,cPs s.init.r.t.parts,cB s.init.r.t.k.neg,.d (nsl s.init.r.t.k.abs),cB s.init.r.eq,cFs s.init.kids,.d (.sl 3 (s.procs.map za3.d)),.d (.sl 10 (s.acts.map za7.d)),cIs r.acts,cI 0]) (OV.tmp 10 _) rfl rfl)] [(3,vp 31 0),(4,q14),(5,vp 7 0)] [(31,q12 v why r rd lf),(7,.bld 77 (.own 8 0) [.d (.sl 1 (s.vars.map za2)),.d (.sl 5 (s.bounds.map za1.d)),cI s.init.kind,cPs s.init.r.t.parts,cB s.init.r.t.k.neg,.d (nsl s.init.r.t.k.abs),cB s.init.r.eq,cFs s.init.kids,.d (.sl 3 (s.procs.map za3.d)),.d (.sl 10 (s.acts.map za7.d)),cIs r.acts,cI 0]),(8,.row 5 1 (bw []))] h ?_;clear h;intro a w h
 refine rq zaa 32 [(3,.call (PName v) pk1_0),(4,.gen _ _ _ fun _ _ _ _=>Op.buildD (d:=16) (len:=1) (rows:=[(za9 v)].map za2) (rs:=[(15,.t (.c (.d (.raw (.string (za9 v))))))]) zbs (.cons (i:=0) (OV.tmp 15 _) (.nil)) (by kernel_rfl) rfl (by simp [za2]) (by decide) (by decide)),(5,.call (WLineA (.sl 1 (s.vars.map za2)) (.sl 5 (s.bounds.map za1.d)) (.raw (.int .i64 s.init.kind)) (.sl 3 (s.init.r.t.parts.map Part.d)) (.raw (.bool s.init.r.t.k.neg)) (nsl s.init.r.t.k.abs) (.raw (.bool s.init.r.eq)) (.sl 6 (s.init.kids.map zau.d)) (.sl 3 (s.procs.map za3.d)) (.sl 10 (s.acts.map za7.d)) (.sl 1 (r.acts.map intD)) (.raw (.int .i64 0)) [] [(za9 v)] (by simp only [zb7,List.length_nil];omega) (by simp)) pj1_4)] [(3,vp 31 0),(4,q14),(5,vp 7 0)] [(31,q12 v why r rd lf),(7,.bld 77 (.own 9 ([]++za6 [(za9 v)]).length) [.d (.sl 1 (s.vars.map za2)),.d (.sl 5 (s.bounds.map za1.d)),cI s.init.kind,cPs s.init.r.t.parts,cB s.init.r.t.k.neg,.d (nsl s.init.r.t.k.abs),cB s.init.r.eq,cFs s.init.kids,.d (.sl 3 (s.procs.map za3.d)),.d (.sl 10 (s.acts.map za7.d)),cIs r.acts,cI 0]),(9,.row 5 1 (bw ([]++za6 [(za9 v)])))] h ?_;clear h;intro a w h
 replace h:=renS 9 8 [(3,vp 31 0),(4,q14),(5,vp 7 0)] [(31,q12 v why r rd lf),(7,.bld 77 (.own 8 ([]++za6 [(za9 v)]).length) [.d (.sl 1 (s.vars.map za2)),.d (.sl 5 (s.bounds.map za1.d)),cI s.init.kind,cPs s.init.r.t.parts,cB s.init.r.t.k.neg,.d (nsl s.init.r.t.k.abs),cB s.init.r.eq,cFs s.init.kids,.d (.sl 3 (s.procs.map za3.d)),.d (.sl 10 (s.acts.map za7.d)),cIs r.acts,cI 0]),(8,.row 5 1 (bw ([]++za6 [(za9 v)])))] h
 refine rq zaa 32 [(3,.gen _ _ _ fun _ _ _ _=>Op.buildD (d:=21) (len:=2) (rows:=[(⟨#[119,104,121,58,32]⟩:ByteArray),why].map za2) (rs:=[(20,.t (.c (.d (.raw (.string why)))))]) zbs (.cons (i:=0) (OV.const (.string (⟨#[119,104,121,58,32]⟩:ByteArray)) rfl) (.cons (i:=1) (OV.tmp 20 _) (.nil))) (by kernel_rfl) rfl (by simp [za2]) (by decide) (by decide)),(4,.call (WLineA (.sl 1 (s.vars.map za2)) (.sl 5 (s.bounds.map za1.d)) (.raw (.int .i64 s.init.kind)) (.sl 3 (s.init.r.t.parts.map Part.d)) (.raw (.bool s.init.r.t.k.neg)) (nsl s.init.r.t.k.abs) (.raw (.bool s.init.r.eq)) (.sl 6 (s.init.kids.map zau.d)) (.sl 3 (s.procs.map za3.d)) (.sl 10 (s.acts.map za7.d)) (.sl 1 (r.acts.map intD)) (.raw (.int .i64 0)) ([]++za6 [(za9 v)]) [(⟨#[119,104,121,58,32]⟩:ByteArray),why] (by simp only [List.nil_append,zb7,zbo];omega) (by simp)) pj1_4)] [(3,vp 31 0),(4,q14),(5,vp 7 0)] [(31,q12 v why r rd lf),(7,q8 v why s r),(9,q13 v why)] h ?_;clear h;intro a w h
 refine wp_seq (rq zaa 32 [] [(3,vp 31 0),(4,q14),(5,vp 7 0),(25,vb (v == 2))] [(31,q12 v why r rd lf),(7,q8 v why s r),(9,q13 v why)] h ?_);clear h;intro a w h
 refine zab (v == 2) h rfl (fun hc=>?_) (fun hc=>?_)
 ·have hc1:=hc;clear hc
  have hc1':=hc1;(try simp at hc1')
  replace h:=renS 9 8 [(3,vp 31 0),(4,q14),(5,vp 7 0),(25,vb (v == 2))] [(31,q12 v why r rd lf),(7,q9 v why s r),(8,q13 v why)] h
  refine rq zaa 32 [(4,.call (WStates s r.acts 0 (([]++za6 [(za9 v)])++za6 [(⟨#[119,104,121,58,32]⟩:ByteArray),why]) (⟨#[115,116,101,109,58]⟩:ByteArray) r.stem hz hla hr.stem (by omega) (by omega) (by simp only [List.nil_append,List.length_append,zb7,zbo];omega) (by decide)) pk1_3)] [(3,vp 31 0),(4,q14),(5,vp 7 0)] [(31,q12 v why r rd lf),(7,.bld 77 (.own 9 (((([]++za6 [(za9 v)])++za6 [(⟨#[119,104,121,58,32]⟩:ByteArray),why])++za6 [(⟨#[115,116,101,109,58]⟩:ByteArray)])++zay s r.acts 0 r.stem r.stem.length).length) [.d (.sl 1 (s.vars.map za2)),.d (.sl 5 (s.bounds.map za1.d)),cI s.init.kind,cPs s.init.r.t.parts,cB s.init.r.t.k.neg,.d (nsl s.init.r.t.k.abs),cB s.init.r.eq,cFs s.init.kids,.d (.sl 3 (s.procs.map za3.d)),.d (.sl 10 (s.acts.map za7.d)),cIs r.acts,cI ((0+r.stem.length:Nat):Int)]),(9,q11 v why s r)] h ?_;clear h;intro a w h
  replace h:=renS 9 8 [(3,vp 31 0),(4,q14),(5,vp 7 0)] [(31,q12 v why r rd lf),(7,.bld 77 (.own 8 (((([]++za6 [(za9 v)])++za6 [(⟨#[119,104,121,58,32]⟩:ByteArray),why])++za6 [(⟨#[115,116,101,109,58]⟩:ByteArray)])++zay s r.acts 0 r.stem r.stem.length).length) [.d (.sl 1 (s.vars.map za2)),.d (.sl 5 (s.bounds.map za1.d)),cI s.init.kind,cPs s.init.r.t.parts,cB s.init.r.t.k.neg,.d (nsl s.init.r.t.k.abs),cB s.init.r.eq,cFs s.init.kids,.d (.sl 3 (s.procs.map za3.d)),.d (.sl 10 (s.acts.map za7.d)),cIs r.acts,cI ((0+r.stem.length:Nat):Int)]),(8,q11 v why s r)] h
  refine rn zaa 32 [(4,.call (WStates s r.acts (0+r.stem.length) (((([]++za6 [(za9 v)])++za6 [(⟨#[119,104,121,58,32]⟩:ByteArray),why])++za6 [(⟨#[115,116,101,109,58]⟩:ByteArray)])++zay s r.acts 0 r.stem r.stem.length) (⟨#[99,121,99,108,101,58]⟩:ByteArray) r.cycle hz hla hr.cyc (by omega) (by omega) (by simp only [List.nil_append,List.length_append,zb7,zbo];omega) (by decide)) pk1_3)] [(4,q14),(5,vp 7 0)] [(7,.bld 77 (.own 9 (((((([]++za6 [(za9 v)])++za6 [(⟨#[119,104,121,58,32]⟩:ByteArray),why])++za6 [(⟨#[115,116,101,109,58]⟩:ByteArray)])++zay s r.acts 0 r.stem r.stem.length)++za6 [(⟨#[99,121,99,108,101,58]⟩:ByteArray)])++zay s r.acts (0+r.stem.length) r.cycle r.cycle.length).length) [.d (.sl 1 (s.vars.map za2)),.d (.sl 5 (s.bounds.map za1.d)),cI s.init.kind,cPs s.init.r.t.parts,cB s.init.r.t.k.neg,.d (nsl s.init.r.t.k.abs),cB s.init.r.eq,cFs s.init.kids,.d (.sl 3 (s.procs.map za3.d)),.d (.sl 10 (s.acts.map za7.d)),cIs r.acts,cI ((0+r.stem.length+r.cycle.length:Nat):Int)]),(9,q10 v why s r)] h ?_;clear h;intro a w h
  refine za5 ?_
  replace h:=renS 9 8 [(4,q14),(5,vp 7 0)] [(7,.bld 77 (.own 8 (((((([]++za6 [(za9 v)])++za6 [(⟨#[119,104,121,58,32]⟩:ByteArray),why])++za6 [(⟨#[115,116,101,109,58]⟩:ByteArray)])++zay s r.acts 0 r.stem r.stem.length)++za6 [(⟨#[99,121,99,108,101,58]⟩:ByteArray)])++zay s r.acts (0+r.stem.length) r.cycle r.cycle.length).length) [.d (.sl 1 (s.vars.map za2)),.d (.sl 5 (s.bounds.map za1.d)),cI s.init.kind,cPs s.init.r.t.parts,cB s.init.r.t.k.neg,.d (nsl s.init.r.t.k.abs),cB s.init.r.eq,cFs s.init.kids,.d (.sl 3 (s.procs.map za3.d)),.d (.sl 10 (s.acts.map za7.d)),cIs r.acts,cI ((0+r.stem.length+r.cycle.length:Nat):Int)]),(8,q10 v why s r)] h
  replace h:=h.conv (f':=F.of [(4,q14),(5,vp 7 0)] [(7,.bld 77 (.own 8 (txtW s v why r).length) [.d (.sl 1 (s.vars.map za2)),.d (.sl 5 (s.bounds.map za1.d)),cI s.init.kind,cPs s.init.r.t.parts,cB s.init.r.t.k.neg,.d (nsl s.init.r.t.k.abs),cB s.init.r.eq,cFs s.init.kids,.d (.sl 3 (s.procs.map za3.d)),.d (.sl 10 (s.acts.map za7.d)),cIs r.acts,cI ((0+r.stem.length+r.cycle.length:Nat):Int)]),(8,.row 5 1 (bw (txtW s v why r)))]) (congrArg (fun (z_:List UInt8)=>F.of [(4,q14),(5,vp 7 0)] [(7,.bld 77 (.own 8 z_.length) [.d (.sl 1 (s.vars.map za2)),.d (.sl 5 (s.bounds.map za1.d)),cI s.init.kind,cPs s.init.r.t.parts,cB s.init.r.t.k.neg,.d (nsl s.init.r.t.k.abs),cB s.init.r.eq,cFs s.init.kids,.d (.sl 3 (s.procs.map za3.d)),.d (.sl 10 (s.acts.map za7.d)),cIs r.acts,cI ((0+r.stem.length+r.cycle.length:Nat):Int)]),(8,.row 5 1 (bw z_))]) (show ((((((([]++za6 [(za9 v)])++za6 [(⟨#[119,104,121,58,32]⟩:ByteArray),why])++za6 [(⟨#[115,116,101,109,58]⟩:ByteArray)])++zay s r.acts 0 r.stem r.stem.length)++za6 [(⟨#[99,121,99,108,101,58]⟩:ByteArray)])++zay s r.acts (0+r.stem.length) r.cycle r.cycle.length):List UInt8)=(txtW s v why r) from (txtW_yes (by simpa using hc1))))
  refine rq zaa 32 [(1,.gen _ _ _ fun _ _ _ _=>Op.nilP (d:=37) (t:=36) (n:=7) (o:=0)),(3,.call (WrString [.sl 1 (s.vars.map za2),.sl 5 (s.bounds.map za1.d),.raw (.int .i64 s.init.kind),.sl 3 (s.init.r.t.parts.map Part.d),.raw (.bool s.init.r.t.k.neg),nsl s.init.r.t.k.abs,.raw (.bool s.init.r.eq),.sl 6 (s.init.kids.map zau.d),.sl 3 (s.procs.map za3.d),.sl 10 (s.acts.map za7.d),.sl 1 (r.acts.map intD),.raw (.int .i64 ((0+r.stem.length+r.cycle.length:Nat):Int))] 8 (by decide) (txtW s v why r) txtW_ne) pk1_4)] [(4,.t (.c (.d (.raw (.string (⟨(txtW s v why r).toArray⟩:ByteArray))))))] [] h ?_;clear h;intro a w h
  refine wp_ret ?_
  refine zb3 [.c (.d (.raw (.string (⟨(txtW s v why r).toArray⟩:ByteArray))))] h Exit.ret (.inl rfl)  rfl ⟨RV.tmp _ _ rfl,trivial⟩ ?_
  rfl
 ·have hc2:=hc;clear hc
  have hc2':=hc2;(try simp at hc2')
  refine wp_skip (za5 ?_)
  replace h:=renS 9 8 [(3,vp 31 0),(4,q14),(5,vp 7 0),(25,vb (v == 2))] [(31,q12 v why r rd lf),(7,q9 v why s r),(8,q13 v why)] h
  replace h:=h.conv (f':=F.of [(3,vp 31 0),(4,q14),(5,vp 7 0),(25,vb (v == 2))] [(31,q12 v why r rd lf),(7,.bld 77 (.own 8 (txtW s v why r).length) [.d (.sl 1 (s.vars.map za2)),.d (.sl 5 (s.bounds.map za1.d)),cI s.init.kind,cPs s.init.r.t.parts,cB s.init.r.t.k.neg,.d (nsl s.init.r.t.k.abs),cB s.init.r.eq,cFs s.init.kids,.d (.sl 3 (s.procs.map za3.d)),.d (.sl 10 (s.acts.map za7.d)),cIs r.acts,cI 0]),(8,.row 5 1 (bw (txtW s v why r)))]) (congrArg (fun (z_:List UInt8)=>F.of [(3,vp 31 0),(4,q14),(5,vp 7 0),(25,vb (v == 2))] [(31,q12 v why r rd lf),(7,.bld 77 (.own 8 z_.length) [.d (.sl 1 (s.vars.map za2)),.d (.sl 5 (s.bounds.map za1.d)),cI s.init.kind,cPs s.init.r.t.parts,cB s.init.r.t.k.neg,.d (nsl s.init.r.t.k.abs),cB s.init.r.eq,cFs s.init.kids,.d (.sl 3 (s.procs.map za3.d)),.d (.sl 10 (s.acts.map za7.d)),cIs r.acts,cI 0]),(8,.row 5 1 (bw z_))]) (show ((([]++za6 [(za9 v)])++za6 [(⟨#[119,104,121,58,32]⟩:ByteArray),why]):List UInt8)=(txtW s v why r) from (txtW_no (by simpa using hc2))))
  refine rq zaa 32 [(1,.gen _ _ _ fun _ _ _ _=>Op.nilP (d:=37) (t:=36) (n:=7) (o:=0)),(3,.call (WrString [.sl 1 (s.vars.map za2),.sl 5 (s.bounds.map za1.d),.raw (.int .i64 s.init.kind),.sl 3 (s.init.r.t.parts.map Part.d),.raw (.bool s.init.r.t.k.neg),nsl s.init.r.t.k.abs,.raw (.bool s.init.r.eq),.sl 6 (s.init.kids.map zau.d),.sl 3 (s.procs.map za3.d),.sl 10 (s.acts.map za7.d),.sl 1 (r.acts.map intD),.raw (.int .i64 0)] 8 (by decide) (txtW s v why r) txtW_ne) pk1_4)] [(4,.t (.c (.d (.raw (.string (⟨(txtW s v why r).toArray⟩:ByteArray))))))] [] h ?_;clear h;intro a w h
  refine wp_ret ?_
  refine zb3 [.c (.d (.raw (.string (⟨(txtW s v why r).toArray⟩:ByteArray))))] h Exit.ret (.inl rfl)  rfl ⟨RV.tmp _ _ rfl,trivial⟩ ?_
  rfl
abbrev q15 (why:ByteArray) (ln:Int) (cl:Int) (e:Int):L:=.row 5 1 (bw (([]++za6 [(za9 4)])++za6 [why,(⟨#[32]⟩:ByteArray),(itW ln),(⟨#[58]⟩:ByteArray),(itW cl),(⟨#[32]⟩:ByteArray),(itW e)]))
abbrev q16:V:=.t (.c (.d (.raw (.string ByteArray.empty))))
set_option maxHeartbeats 4000000 in
theorem PWrong (why:ByteArray) (ln cl e:Int) (hw:why.size≤1048576) (hln:-9223372036854775808≤ln∧ln≤9223372036854775807) (hcl:-9223372036854775808≤cl∧cl≤9223372036854775807) (he:-9223372036854775808≤e∧e≤9223372036854775807):Fn Tryd.prog 10 [] [.t (.c (.d (.raw (.string why)))),.t (.agg [cI ln,cI cl]),vi .i64 e] (vs ⟨(zbl why ln cl e).toArray⟩) []:=by
 have ls1:(⟨#[32]⟩:ByteArray).size=1:=rfl
 have ls2:(⟨#[58]⟩:ByteArray).size=1:=rfl
 have lnm:=nameW_sz 4
 have li1:=it64_sz hln.1 hln.2
 have li2:=it64_sz hcl.1 hcl.2
 have li3:=it64_sz he.1 he.2
 refine Fn.body Tryd.func10 rfl 30 rfl fun w H B a h=>?_
 refine rq zaa 30 [] [(0,.t (.c (.d (.raw (.string why))))),(2,vi .i64 e),(4,vp 30 0),(6,q16)] [(30,.box [cI ln,cI cl])] h ?_;clear h;intro a w h
 refine rq zaa 31 [(1,.gen _ _ _ fun _ _ _ _=>Op.boxB (d:=9) 7 8 (by decide) 5 (T:=77) (rest:=[.d (.raw za4),.d (.raw za4),cI 0,.d (.raw za4),cB false,.d (nsl []),cB false,.d (.raw za4),.d (.raw za4),.d (.raw za4),.d (.raw za4),cI 0]) (ds:=[.raw za4,.raw za4,.raw (.int .i64 0),.raw za4,.raw (.bool false),nsl [],.raw (.bool false),.raw za4,.raw za4,.raw za4,.raw za4,.raw (.int .i64 0)]) (.agg [.d (.raw (.pointer none)),.d (.raw za4),.d (.raw za4),.d (.raw za4),cI 0,.d (.raw za4),cB false,.d (nsl []),cB false,.d (.raw za4),.d (.raw za4),.d (.raw za4),.d (.raw za4),cI 0]) (OV.tmp 8 _) rfl rfl)] [(0,.t (.c (.d (.raw (.string why))))),(2,vi .i64 e),(4,vp 30 0),(6,q16),(7,vp 7 0)] [(30,.box [cI ln,cI cl]),(7,.bld 77 (.own 8 0) [.d (.raw za4),.d (.raw za4),cI 0,.d (.raw za4),cB false,.d (nsl []),cB false,.d (.raw za4),.d (.raw za4),.d (.raw za4),.d (.raw za4),cI 0]),(8,.row 5 1 (bw []))] h ?_;clear h;intro a w h
 refine rq zaa 31 [(1,.call (PName 4) pk1_0),(2,.gen _ _ _ fun _ _ _ _=>Op.buildD (d:=12) (len:=1) (rows:=[(za9 4)].map za2) (rs:=[(11,.t (.c (.d (.raw (.string (za9 4))))))]) zbs (.cons (i:=0) (OV.tmp 11 _) (.nil)) (by kernel_rfl) rfl (by simp [za2]) (by decide) (by decide)),(3,.call (WLineA (.raw za4) (.raw za4) (.raw (.int .i64 0)) (.raw za4) (.raw (.bool false)) (nsl []) (.raw (.bool false)) (.raw za4) (.raw za4) (.raw za4) (.raw za4) (.raw (.int .i64 0)) [] [(za9 4)] (by simp only [List.length_append,zb4,zan,List.flatMap_cons,List.flatMap_nil,List.length_nil,← baL];omega) (by simp)) pj1_4)] [(0,.t (.c (.d (.raw (.string why))))),(2,vi .i64 e),(4,vp 30 0),(6,q16),(7,vp 7 0)] [(30,.box [cI ln,cI cl]),(7,.bld 77 (.own 9 ([]++za6 [(za9 4)]).length) [.d (.raw za4),.d (.raw za4),cI 0,.d (.raw za4),cB false,.d (nsl []),cB false,.d (.raw za4),.d (.raw za4),.d (.raw za4),.d (.raw za4),cI 0]),(9,.row 5 1 (bw ([]++za6 [(za9 4)])))] h ?_;clear h;intro a w h
 replace h:=renS 9 8 [(0,.t (.c (.d (.raw (.string why))))),(2,vi .i64 e),(4,vp 30 0),(6,q16),(7,vp 7 0)] [(30,.box [cI ln,cI cl]),(7,.bld 77 (.own 8 ([]++za6 [(za9 4)]).length) [.d (.raw za4),.d (.raw za4),cI 0,.d (.raw za4),cB false,.d (nsl []),cB false,.d (.raw za4),.d (.raw za4),.d (.raw za4),.d (.raw za4),cI 0]),(8,.row 5 1 (bw ([]++za6 [(za9 4)])))] h
 refine rq zaa 31 [(4,.call (SItoaA ln hln.1 hln.2) pe1_3),(7,.call (SItoaA cl hcl.1 hcl.2) pe1_3),(9,.call (SItoaA e he.1 he.2) pe1_3),(10,.gen _ _ _ fun _ _ _ _=>Op.buildD (d:=24) (len:=7) (rows:=[why,(⟨#[32]⟩:ByteArray),(itW ln),(⟨#[58]⟩:ByteArray),(itW cl),(⟨#[32]⟩:ByteArray),(itW e)].map za2) (rs:=[(15,.t (.c (.d (.raw (.string why))))),(18,.t (.c (.d (.raw (.string (itW ln)))))),(21,.t (.c (.d (.raw (.string (itW cl)))))),(23,.t (.c (.d (.raw (.string (itW e))))))]) zbs (.cons (i:=0) (OV.tmp 15 _) (.cons (i:=1) (OV.const (.string (⟨#[32]⟩:ByteArray)) rfl) (.cons (i:=2) (OV.tmp 18 _) (.cons (i:=3) (OV.const (.string (⟨#[58]⟩:ByteArray)) rfl) (.cons (i:=4) (OV.tmp 21 _) (.cons (i:=5) (OV.const (.string (⟨#[32]⟩:ByteArray)) rfl) (.cons (i:=6) (OV.tmp 23 _) (.nil)))))))) (by kernel_rfl) rfl (by simp [za2]) (by decide) (by decide)),(11,.call (WLineA (.raw za4) (.raw za4) (.raw (.int .i64 0)) (.raw za4) (.raw (.bool false)) (nsl []) (.raw (.bool false)) (.raw za4) (.raw za4) (.raw za4) (.raw za4) (.raw (.int .i64 0)) ([]++za6 [(za9 4)]) [why,(⟨#[32]⟩:ByteArray),(itW ln),(⟨#[58]⟩:ByteArray),(itW cl),(⟨#[32]⟩:ByteArray),(itW e)] (by simp only [List.nil_append,List.length_append,zb4,zan,List.flatMap_cons,List.flatMap_nil,List.length_nil,← baL,List.length_cons];omega) (by simp)) pj1_4)] [(6,q16),(7,vp 7 0)] [(7,.bld 77 (.own 9 (([]++za6 [(za9 4)])++za6 [why,(⟨#[32]⟩:ByteArray),(itW ln),(⟨#[58]⟩:ByteArray),(itW cl),(⟨#[32]⟩:ByteArray),(itW e)]).length) [.d (.raw za4),.d (.raw za4),cI 0,.d (.raw za4),cB false,.d (nsl []),cB false,.d (.raw za4),.d (.raw za4),.d (.raw za4),.d (.raw za4),cI 0]),(9,q15 why ln cl e)] h ?_;clear h;intro a w h
 replace h:=renS 9 8 [(6,q16),(7,vp 7 0)] [(7,.bld 77 (.own 8 (([]++za6 [(za9 4)])++za6 [why,(⟨#[32]⟩:ByteArray),(itW ln),(⟨#[58]⟩:ByteArray),(itW cl),(⟨#[32]⟩:ByteArray),(itW e)]).length) [.d (.raw za4),.d (.raw za4),cI 0,.d (.raw za4),cB false,.d (nsl []),cB false,.d (.raw za4),.d (.raw za4),.d (.raw za4),.d (.raw za4),cI 0]),(8,q15 why ln cl e)] h
 replace h:=h.conv (f':=F.of [(6,q16),(7,vp 7 0)] [(7,.bld 77 (.own 8 (zbl why ln cl e).length) [.d (.raw za4),.d (.raw za4),cI 0,.d (.raw za4),cB false,.d (nsl []),cB false,.d (.raw za4),.d (.raw za4),.d (.raw za4),.d (.raw za4),cI 0]),(8,.row 5 1 (bw (zbl why ln cl e)))]) (congrArg (fun (z_:List UInt8)=>F.of [(6,q16),(7,vp 7 0)] [(7,.bld 77 (.own 8 z_.length) [.d (.raw za4),.d (.raw za4),cI 0,.d (.raw za4),cB false,.d (nsl []),cB false,.d (.raw za4),.d (.raw za4),.d (.raw za4),.d (.raw za4),cI 0]),(8,.row 5 1 (bw z_))]) (show ((([]++za6 [(za9 4)])++za6 [why,(⟨#[32]⟩:ByteArray),(itW ln),(⟨#[58]⟩:ByteArray),(itW cl),(⟨#[32]⟩:ByteArray),(itW e)]):List UInt8)=(zbl why ln cl e) from rfl))
 refine rq zaa 31 [(1,.gen _ _ _ fun _ _ _ _=>Op.nilP (d:=27) (t:=26) (n:=7) (o:=0)),(3,.call (WrString [.raw za4,.raw za4,.raw (.int .i64 0),.raw za4,.raw (.bool false),nsl [],.raw (.bool false),.raw za4,.raw za4,.raw za4,.raw za4,.raw (.int .i64 0)] 8 (by decide) (zbl why ln cl e) wrongW_ne) pk1_4)] [(6,.t (.c (.d (.raw (.string (⟨(zbl why ln cl e).toArray⟩:ByteArray))))))] [] h ?_;clear h;intro a w h
 refine wp_ret ?_
 refine zb3 [.c (.d (.raw (.string (⟨(zbl why ln cl e).toArray⟩:ByteArray))))] h Exit.ret (.inl rfl)  rfl ⟨RV.tmp _ _ rfl,trivial⟩ ?_
 rfl
theorem pl1_0:za8 Tryd.prog 51:=za8.mk' (by kernel_rfl)
theorem pl1_1:za8 Tryd.prog 39:=za8.mk' (by kernel_rfl)
theorem pl1_2:za8 Tryd.prog 29:=za8.mk' (by kernel_rfl)
def mkB (l:List UInt8):ByteArray:=⟨l.toArray⟩
def lnsL:List UInt8→List (List UInt8)
  | []=>[]
  | b :: l=>if b=10 then [] :: lnsL l else match lnsL l with | []=>[[b]] | x :: xs=>(b :: x) :: xs
def zav (t:ByteArray):List ByteArray:=(lnsL t.data.toList).map mkB
theorem lnsL_nl {l:List UInt8}:∀ {x:List UInt8}, (10:UInt8) ∉ x→lnsL (x++10 :: l)=x :: lnsL l
 | [],_=>by show lnsL (10 :: l)=_;rw [lnsL,if_pos rfl]
 | b :: x,h=>by
  have hb:¬ b=10:=fun e=>h (by simp [e])
  show lnsL (b :: (x++10 :: l))=_
  rw [lnsL,if_neg hb,lnsL_nl fun hx=>h (List.mem_cons_of_mem _ hx)]
theorem lnsL_no:∀ {x:List UInt8}, (10:UInt8) ∉ x→x≠[]→lnsL x=[x]
 | [],_,h=>absurd rfl h
 | b :: x,h,_=>by
  have hb:¬ b=10:=fun e=>h (by simp [e])
  rw [lnsL,if_neg hb]
  cases x with
  | nil=>rfl
  | cons c x=>rw [lnsL_no (x:=c :: x) (fun hx=>h (List.mem_cons_of_mem _ hx)) (by simp)]
theorem lnsL_len:∀ (l:List UInt8),(lnsL l).length≤l.length
 | []=>Nat.le_refl _
 | b :: l=>by
  have ih:=lnsL_len l
  rw [lnsL]
  split
  ·simp only [List.length_cons];omega
  ·split <;> rename_i h <;> rw [h] at ih <;> simp only [List.length_cons,List.length_nil] at ih ⊢ <;> omega
theorem idx_C (l:List UInt8):(∃ k:Nat,Lib.indexByte l 10=(k:Int))∨Lib.indexByte l 10=-1:=by
 have h1:-1≤Lib.indexByte l 10:=Lib.indexByte_ge l 10
 by_cases h:Lib.indexByte l 10=-1
 ·exact .inr h
 ·exact .inl ⟨(Lib.indexByte l 10).toNat,(Int.toNat_of_nonneg (by omega)).symm⟩
theorem idx_none:∀ {l:List UInt8}, Lib.indexByte l 10=-1→(10:UInt8) ∉ l
 | [],_=>by simp
 | b :: l,h=>by
  unfold Lib.indexByte at h
  split at h
  ·cases h
  ·rename_i hb
   have hb:¬ b=10:=by simpa using hb
   split at h
   ·rename_i h1
    have:=idx_none (l:=l) (by simpa using h1)
    simp only [List.mem_cons,not_or];exact ⟨fun e=>hb e.symm,this⟩
   ·have:=Lib.indexByte_ge l 10;omega
theorem zbp:∀ {l:List UInt8} {k:Nat}, Lib.indexByte l 10=(k:Int)→k<l.length∧l=l.take k++10 :: l.drop (k+1)∧(10:UInt8) ∉ l.take k
 | [],k,h=>by have h1:Int.negSucc 0=Int.ofNat k:=h;cases h1
 | b :: l,k,h=>by
  unfold Lib.indexByte at h
  split at h
  ·rename_i hb
   have hb:b=10:=by simpa using hb
   obtain rfl:k=0:=by omega
   subst hb;simp
  ·rename_i hb
   have hb:¬ b=10:=by simpa using hb
   split at h
   ·omega
   ·rename_i hm
    have hm:¬ Lib.indexByte l 10=-1:=by simpa using hm
    have:=Lib.indexByte_ge l 10
    obtain ⟨k,rfl⟩:∃ m,k=m+1:=⟨k - 1,by omega⟩
    have h4:Lib.indexByte l 10=(k:Int):=by
     have h5:Lib.indexByte l 10+1=((k+1:Nat):Int):=h
     omega
    obtain ⟨h1,h2,h3⟩:=zbp h4
    refine ⟨by simp only [List.length_cons];omega,?_,?_⟩
    ·show b :: l=b :: (l.take k++10 :: l.drop (k+1));rw [← h2]
    ·simp only [List.take_succ_cons,List.mem_cons,not_or];exact ⟨fun e=>hb e.symm,h3⟩
theorem lns_step {r:List UInt8} {k:Nat} (h:Lib.indexByte r 10=(k:Int)):lnsL r=r.take k :: lnsL (r.drop (k+1)):=by
 obtain ⟨_,h2,h3⟩:=zbp h
 rw [← lnsL_nl h3,← h2]
theorem emp_ne {r:List UInt8}:((⟨r.toArray⟩:ByteArray).toList == ByteArray.empty.toList)=!decide (0<r.length):=by
 rw [Lib.toList_data,Lib.toList_data]
 cases r with
 | nil=>rfl
 | cons b r=>simp
theorem cut_l (r:List UInt8) (k:Nat) (_hk:k<r.length):(⟨r.toArray⟩:ByteArray).extract 0 k=⟨(r.take k).toArray⟩:=by rw [Lib.extract_eq];simp
theorem cut_r (r:List UInt8) (k:Nat):(⟨r.toArray⟩:ByteArray).extract (k+1) (⟨r.toArray⟩:ByteArray).size=⟨(r.drop (k+1)).toArray⟩:=by
 rw [Lib.extract_eq,baL]
 show (⟨((r.drop (k+1)).take (r.length - (k+1))).toArray⟩:ByteArray)=_
 rw [List.take_of_length_le (by rw [List.length_drop];omega)]
theorem mkr_sz (r:List UInt8):(⟨r.toArray⟩:ByteArray).size=r.length:=by rw [baL]
def eqB (a b:ByteArray):Bool:=a.toList == b.toList
theorem eqB_eq {a b:ByteArray} (h:eqB a b=true):a=b:=by
 have h1:a.toList=b.toList:=by simpa [eqB] using h
 rw [Lib.toList_data,Lib.toList_data] at h1
 rw [← Lib.mk_data a,← Lib.mk_data b,h1]
theorem eqB_data (a b:ByteArray):eqB a b=(a.data.toList == b.data.toList):=by unfold eqB;rw [Lib.toList_data,Lib.toList_data]
theorem zc0 (a:ByteArray):eqB a a=true:=beq_self_eq_true _
def vdW (t:ByteArray):Int × Bool:=if eqB (za9 1) t=true then (1,true) else if eqB (za9 2) t=true then (2,true) else if eqB (za9 3) t=true then (3,true) else if eqB (za9 4) t=true then (4,true) else (0,false)
theorem nm_ne:eqB (za9 1) (za9 2)=false∧eqB (za9 1) (za9 3)=false∧eqB (za9 2) (za9 3)=false∧eqB (za9 1) (za9 4)=false∧eqB (za9 2) (za9 4)=false∧eqB (za9 3) (za9 4)=false:=by simp only [eqB_data];decide
theorem vdW_hit {t:ByteArray} {j:Nat} (hj:j<4) (h:eqB (za9 ((j:Int)+1)) t=true):vdW t=((j:Int)+1,true):=by
 have e:=eqB_eq h
 subst e
 obtain ⟨n1,n2,n3,n4,n5,n6⟩:=nm_ne
 match j,hj with
 | 0,_=>show vdW (za9 1)=(1,true);unfold vdW;rw [if_pos (zc0 _)]
 | 1,_=>show vdW (za9 2)=(2,true);unfold vdW;rw [if_neg (by rw [n1];simp),if_pos (zc0 _)]
 | 2,_=>show vdW (za9 3)=(3,true);unfold vdW;rw [if_neg (by rw [n2];simp),if_neg (by rw [n3];simp),if_pos (zc0 _)]
 | 3,_=>show vdW (za9 4)=(4,true);unfold vdW;rw [if_neg (by rw [n4];simp),if_neg (by rw [n5];simp),if_neg (by rw [n6];simp),if_pos (zc0 _)]
theorem vdW_miss {t:ByteArray} (h:∀ i:Nat,i<4→eqB (za9 ((i:Int)+1)) t=false):vdW t=(0,false):=by
 have h1:=h 0 (by decide);have h2:=h 1 (by decide);have h3:=h 2 (by decide);have h4:=h 3 (by decide)
 have h1:eqB (za9 1) t=false:=h1
 have h2:eqB (za9 2) t=false:=h2
 have h3:eqB (za9 3) t=false:=h3
 have h4:eqB (za9 4) t=false:=h4
 unfold vdW;rw [if_neg (by rw [h1];simp),if_neg (by rw [h2];simp),if_neg (by rw [h3];simp),if_neg (by rw [h4];simp)]
def pfx (b:ByteArray):Bool:=Lib.hasPrefix b.data.toList (⟨#[119,104,121,58,32]⟩:ByteArray).data.toList
def rdW (t:ByteArray):Int × ByteArray × Int:=match zav t with
  | a :: b :: _=>if (vdW a).2=false then (0,ByteArray.empty,20) else if (vdW a).1=4 then (4,b,0) else if pfx b=true then ((vdW a).1,cutP b (⟨#[119,104,121,58,32]⟩:ByteArray),0) else (0,ByteArray.empty,20)
  | _=>(0,ByteArray.empty,20)
theorem rdW_short {t:ByteArray} (h:(zav t).length<2):rdW t=(0,ByteArray.empty,20):=by
 unfold rdW
 split
 ·rename_i e;rw [e] at h;simp only [List.length_cons] at h;omega
 ·rfl
theorem two_at {xs:List ByteArray} {a b:ByteArray} (h0:xs[0]?=some a) (h1:xs[1]?=some b):∃ r,xs=a :: b :: r:=by
 match xs,h0,h1 with
 | x :: y :: r,h0,h1=>simp at h0 h1;exact ⟨r,by rw [h0,h1]⟩
theorem zbf {t a b:ByteArray} (h0:(zav t)[0]?=some a) (h1:(zav t)[1]?=some b):rdW t=if (vdW a).2=false then (0,ByteArray.empty,20) else if (vdW a).1=4 then (4,b,0) else if pfx b=true then ((vdW a).1,cutP b (⟨#[119,104,121,58,32]⟩:ByteArray),0) else (0,ByteArray.empty,20):=by
 obtain ⟨r,e⟩:=two_at h0 h1
 unfold rdW;rw [e]
theorem nl_yes {c:UInt8} (h:((c.toNat:Int) == 10)=true):c=10:=by
 have h2:(c.toNat:Int)=10:=by simpa using h
 have e10:(10:UInt8).toNat=10:=rfl
 exact UInt8.toNat_inj.1 (by rw [e10];omega)
theorem nl_no {c:UInt8} (h:((c.toNat:Int) == 10)=false):¬ c=10:=fun e=>by subst e;revert h;decide
theorem cut_end (t:ByteArray) (f:Nat):t.extract f t.size=⟨(t.data.toList.drop f).toArray⟩:=by
 rw [Lib.extract_eq,baL,List.take_of_length_le (by rw [List.length_drop];omega)]
theorem drop_split {l:List UInt8} {f i:Nat} {c:UInt8} (hf:f≤i) (hi:l[i]?=some c):l.drop f=(l.drop f).take (i - f)++c :: l.drop (i+1):=by
 have h1:=zar hi
 have h2:l.drop f=(l.drop f).take (i - f)++(l.drop f).drop (i - f):=(List.take_append_drop _ _).symm
 rw [List.drop_drop,show f+(i - f)=i by omega,List.drop_eq_getElem_cons h1,(List.getElem?_eq_some_iff.1 hi).2] at h2
 exact h2
theorem lns_at {l:List UInt8} {f i:Nat} {c:UInt8} (hf:f≤i) (hi:l[i]?=some c) (hc:c=10) (hn:(10:UInt8) ∉ (l.drop f).take (i - f)):lnsL (l.drop f)=(l.drop f).take (i - f) :: lnsL (l.drop (i+1)):=by
 subst hc
 rw [← lnsL_nl hn,← drop_split hf hi]
theorem lns_more {l:List UInt8} {f i:Nat} {c:UInt8} (hf:f≤i) (hi:l[i]?=some c) (hc:¬ c=10) (hn:(10:UInt8) ∉ (l.drop f).take (i - f)):(10:UInt8) ∉ (l.drop f).take (i+1 - f):=by
 have h1:=zar hi
 have e:(l.drop f)[i - f]?=some c:=by rw [List.getElem?_drop,show f+(i - f)=i by omega];exact hi
 rw [show i+1 - f=i - f+1 by omega,List.take_add_one,e]
 simp only [Option.toList_some,List.mem_append,List.mem_singleton,not_or]
 exact ⟨hn,fun h=>hc h.symm⟩
abbrev q17 (r:List UInt8):V:=.t (.c (.d (.raw (.string (⟨r.toArray⟩:ByteArray)))))
abbrev q18:V:=.t (.c (.d (.raw (.string (⟨#[10]⟩:ByteArray)))))
abbrev q19:V:=.t (.c (.d (.raw (.string ByteArray.empty))))
set_option maxHeartbeats 4000000 in
theorem SLCutS (r:List UInt8) (k:Nat) (hix:Lib.indexByte r 10=(k:Int)) (hrl:r.length≤4294967296):Fn Tryd.prog 39 [] [.t (.c (.d (.raw (.string (⟨r.toArray⟩:ByteArray))))),.t (.c (.d (.raw (.string (⟨#[10]⟩:ByteArray)))))] (.tup [.c (.d (.raw (.string (⟨(r.take k).toArray⟩:ByteArray)))),.c (.d (.raw (.string (⟨(r.drop (k+1)).toArray⟩:ByteArray)))),.c (cB true)]) []:=by
 have hk:=(zbp hix).1
 have hsz:=mkr_sz r
 refine Fn.body Tryd.func39 rfl 23 rfl fun w H B a h=>?_
 refine rq za0 0 [] [(0,q17 r),(1,q18),(4,q19),(5,q19),(6,vb false)] [] h ?_;clear h;intro a w h
 refine wp_seq (rq za0 0 [(2,.call (Fn.cast (SIndex1 ⟨r.toArray⟩ 10) (congrArg (vi .i64) hix)) pl1_0)] [(0,q17 r),(1,q18),(4,q19),(5,q19),(6,vb false),(7,vi .i64 (k:Int))] [] h ?_);clear h;intro a w h
 refine rq za0 0 [(1,.cmp (op:=.geq) (m:=(k:Int)) (n:=0) (b:=true) .i64 (show decide ((k:Int)≥0)=true from decide_eq_true (by omega)))] [(0,q17 r),(1,q18),(4,q19),(5,q19),(6,vb false),(7,vi .i64 (k:Int)),(12,vb true)] [] h ?_;clear h;intro a w h
 refine zab true h rfl (fun hc=>?_) (fun hc=>?_)
 ·clear hc
  refine rq za0 0 [(2,.gen _ _ _ fun _ _ _ _=>Op.strSl (d:=15) (xt:=9) (l:=0) (h:=k) (s:=(⟨r.toArray⟩:ByteArray)) (r:=(⟨(r.take k).toArray⟩:ByteArray)) Tryd.underlying9 (OV.tmp 13 _) (BO.no _) (BO.yes (k:=.i64) (i:=k) _ (OV.tmp 14 _)) (by omega) (by omega) (cut_l r k hk)),(7,.gen _ _ _ fun _ _ _ _=>Op.arith (op:=.add) (d:=20) (xt:=3) (yt:=3) (k:=.i64) (m:=(k:Int)) (n:=((⟨#[10]⟩:ByteArray).size:Int)) (r:=((k+1:Nat):Int)) (OV.tmp 17 _) (OV.tmp 19 _) (.inl ⟨rfl,rfl⟩) (zap (by omega) (by omega))),(8,.gen _ _ _ fun _ _ _ _=>Op.strSl (d:=21) (xt:=9) (l:=(k+1)) (h:=(⟨r.toArray⟩:ByteArray).size) (s:=(⟨r.toArray⟩:ByteArray)) (r:=(⟨(r.drop (k+1)).toArray⟩:ByteArray)) Tryd.underlying9 (OV.tmp 16 _) (BO.yes (k:=.i64) (i:=(k+1)) _ (OV.tmp 20 _)) (BO.no _) (by omega) (by omega) (cut_r r k))] [(0,q17 r),(4,.t (.c (.d (.raw (.string (⟨(r.take k).toArray⟩:ByteArray)))))),(5,.t (.c (.d (.raw (.string (⟨(r.drop (k+1)).toArray⟩:ByteArray)))))),(6,vb true)] [] h ?_;clear h;intro a w h
  refine wp_ret (zah ?_)
  refine zb3 [.c (.d (.raw (.string (⟨(r.take k).toArray⟩:ByteArray)))),.c (.d (.raw (.string (⟨(r.drop (k+1)).toArray⟩:ByteArray)))),.c (cB true)] h Exit.ret (.inl rfl)  rfl ⟨RV.tmp _ _ rfl,RV.tmp _ _ rfl,RV.tmp _ _ rfl,trivial⟩ ?_
  rfl
 ·cases hc
set_option maxHeartbeats 4000000 in
theorem SCutS (r:List UInt8) (k:Nat) (hix:Lib.indexByte r 10=(k:Int)) (hrl:r.length≤4294967296):Fn Tryd.prog 29 [] [.t (.c (.d (.raw (.string (⟨r.toArray⟩:ByteArray))))),.t (.c (.d (.raw (.string (⟨#[10]⟩:ByteArray)))))] (.tup [.c (.d (.raw (.string (⟨(r.take k).toArray⟩:ByteArray)))),.c (.d (.raw (.string (⟨(r.drop (k+1)).toArray⟩:ByteArray)))),.c (cB true)]) []:=by
 have hk:=(zbp hix).1
 have hsz:=mkr_sz r
 refine Fn.body Tryd.func29 rfl 13 rfl fun w H B a h=>?_
 refine rq za0 0 [] [(0,.t (.c (.d (.raw (.string (⟨r.toArray⟩:ByteArray)))))),(1,.t (.c (.d (.raw (.string (⟨#[10]⟩:ByteArray)))))),(4,.t (.c (.d (.raw (.string ByteArray.empty))))),(5,.t (.c (.d (.raw (.string ByteArray.empty))))),(6,vb false)] [] h ?_;clear h;intro a w h
 refine rq za0 0 [(2,.call (SLCutS r k hix hrl) pl1_1)] [(4,.t (.c (.d (.raw (.string (⟨(r.take k).toArray⟩:ByteArray)))))),(5,.t (.c (.d (.raw (.string (⟨(r.drop (k+1)).toArray⟩:ByteArray)))))),(6,vb true)] [] h ?_;clear h;intro a w h
 refine wp_ret ?_
 refine zb3 [.c (.d (.raw (.string (⟨(r.take k).toArray⟩:ByteArray)))),.c (.d (.raw (.string (⟨(r.drop (k+1)).toArray⟩:ByteArray)))),.c (cB true)] h Exit.ret (.inl rfl)  rfl ⟨RV.tmp _ _ rfl,RV.tmp _ _ rfl,RV.tmp _ _ rfl,trivial⟩ ?_
 rfl
set_option maxHeartbeats 4000000 in
theorem SLCutN (r:List UInt8) (hix:Lib.indexByte r 10=-1):Fn Tryd.prog 39 [] [.t (.c (.d (.raw (.string (⟨r.toArray⟩:ByteArray))))),.t (.c (.d (.raw (.string (⟨#[10]⟩:ByteArray)))))] (.tup [.c (.d (.raw (.string (⟨r.toArray⟩:ByteArray)))),.c (.d (.raw (.string ByteArray.empty))),.c (cB false)]) []:=by
 refine Fn.body Tryd.func39 rfl 23 rfl fun w H B a h=>?_
 refine rq za0 0 [] [(0,.t (.c (.d (.raw (.string (⟨r.toArray⟩:ByteArray)))))),(1,.t (.c (.d (.raw (.string (⟨#[10]⟩:ByteArray)))))),(4,.t (.c (.d (.raw (.string ByteArray.empty))))),(5,.t (.c (.d (.raw (.string ByteArray.empty))))),(6,vb false)] [] h ?_;clear h;intro a w h
 refine wp_seq (rq za0 0 [(2,.call (Fn.cast (SIndex1 ⟨r.toArray⟩ 10) (congrArg (vi .i64) hix)) pl1_0)] [(0,.t (.c (.d (.raw (.string (⟨r.toArray⟩:ByteArray)))))),(1,.t (.c (.d (.raw (.string (⟨#[10]⟩:ByteArray)))))),(4,.t (.c (.d (.raw (.string ByteArray.empty))))),(5,.t (.c (.d (.raw (.string ByteArray.empty))))),(6,vb false),(7,vi .i64 (-1))] [] h ?_);clear h;intro a w h
 refine rq za0 0 [(1,.cmp (op:=.geq) (m:=(-1)) (n:=0) (b:=false) .i64 rfl)] [(0,.t (.c (.d (.raw (.string (⟨r.toArray⟩:ByteArray)))))),(1,.t (.c (.d (.raw (.string (⟨#[10]⟩:ByteArray)))))),(4,.t (.c (.d (.raw (.string ByteArray.empty))))),(5,.t (.c (.d (.raw (.string ByteArray.empty))))),(6,vb false),(7,vi .i64 (-1)),(12,vb false)] [] h ?_;clear h;intro a w h
 refine zab false h rfl (fun hc=>?_) (fun hc=>?_)
 ·cases hc
 ·clear hc
  refine wp_skip (za5 (rq za0 0 [] [(4,.t (.c (.d (.raw (.string (⟨r.toArray⟩:ByteArray)))))),(5,.t (.c (.d (.raw (.string ByteArray.empty))))),(6,vb false)] [] h ?_));clear h;intro a w h
  refine wp_ret ?_
  refine zb3 [.c (.d (.raw (.string (⟨r.toArray⟩:ByteArray)))),.c (.d (.raw (.string ByteArray.empty))),.c (cB false)] h Exit.ret (.inl rfl)  rfl ⟨RV.tmp _ _ rfl,RV.tmp _ _ rfl,RV.tmp _ _ rfl,trivial⟩ ?_
  rfl
set_option maxHeartbeats 4000000 in
theorem SCutN (r:List UInt8) (hix:Lib.indexByte r 10=-1):Fn Tryd.prog 29 [] [.t (.c (.d (.raw (.string (⟨r.toArray⟩:ByteArray))))),.t (.c (.d (.raw (.string (⟨#[10]⟩:ByteArray)))))] (.tup [.c (.d (.raw (.string (⟨r.toArray⟩:ByteArray)))),.c (.d (.raw (.string ByteArray.empty))),.c (cB false)]) []:=by
 refine Fn.body Tryd.func29 rfl 13 rfl fun w H B a h=>?_
 refine rq za0 0 [] [(0,.t (.c (.d (.raw (.string (⟨r.toArray⟩:ByteArray)))))),(1,.t (.c (.d (.raw (.string (⟨#[10]⟩:ByteArray)))))),(4,.t (.c (.d (.raw (.string ByteArray.empty))))),(5,.t (.c (.d (.raw (.string ByteArray.empty))))),(6,vb false)] [] h ?_;clear h;intro a w h
 refine rq za0 0 [(2,.call (SLCutN r hix) pl1_1)] [(4,.t (.c (.d (.raw (.string (⟨r.toArray⟩:ByteArray)))))),(5,.t (.c (.d (.raw (.string ByteArray.empty))))),(6,vb false)] [] h ?_;clear h;intro a w h
 refine wp_ret ?_
 refine zb3 [.c (.d (.raw (.string (⟨r.toArray⟩:ByteArray)))),.c (.d (.raw (.string ByteArray.empty))),.c (cB false)] h Exit.ret (.inl rfl)  rfl ⟨RV.tmp _ _ rfl,RV.tmp _ _ rfl,RV.tmp _ _ rfl,trivial⟩ ?_
 rfl
set_option maxHeartbeats 4000000 in
theorem PLines (t:ByteArray) (ht:t.size≤4294967296):Fn Tryd.prog 15 [] [.t (.c (.d (.raw (.string t))))] (.t (.c (.d (.sl 1 ((zav t).map za2))))) []:=by
 refine Fn.body Tryd.func15 rfl 21 rfl fun w H B a h=>?_
 refine rq za0 30 [] [(0,.t (.c (.d (.raw (.string t))))),(2,.t (.c (.d (.raw za4))))] [] h ?_;clear h;intro a w h
 refine rq za0 30 [] [(0,.t (.c (.d (.raw (.string t))))),(2,.t (.c (.d (.raw za4)))),(3,.t (.c (.d (.raw za4))))] [] h ?_;clear h;intro a w h
 refine wp_seq (wp_block ?_)
 replace h:=nilOSs 3 0 30 1 9 (.t (.c (.d (.raw za4)))) [(0,.t (.c (.d (.raw (.string t))))),(2,.t (.c (.d (.raw za4)))),(3,.t (.c (.own 30 0)))] [(30,.row 9 1 ([].map za2))] h (by kernel_rfl) rfl rfl
 replace h:=h.conv (f':=F.of [(0,.t (.c (.d (.raw (.string (⟨t.data.toList.toArray⟩:ByteArray)))))),(2,.t (.c (.d (.raw za4)))),(3,.t (.c (.own 30 0)))] [(30,.row 9 1 ([].map za2))]) (by rw [show (t:ByteArray)=(⟨t.data.toList.toArray⟩:ByteArray) from rfl])
 refine zci (ι:=(List UInt8) × (List ByteArray)) (fun (z_:(List UInt8) × (List ByteArray))=>match z_ with | (r,outs)=>outs++(lnsL r).map mkB=zav t∧outs.length+r.length≤t.size)
   (fun (z_:(List UInt8) × (List ByteArray))=>match z_ with | (r,outs)=>[(0,.t (.c (.d (.raw (.string (⟨r.toArray⟩:ByteArray)))))),(2,.t (.c (.d (.raw za4)))),(3,.t (.c (.own 30 outs.length)))])
   (fun (z_:(List UInt8) × (List ByteArray))=>match z_ with | (r,outs)=>[(30,.row 9 1 (outs.map za2))])
   (fun (z_:(List UInt8) × (List ByteArray))=>match z_ with | (r,outs)=>r.length) (t.data.toList,[]) ?_ h (by kernel_rfl) (by kernel_rfl) ?_
 ·exact ⟨rfl,by rw [baL];show 0+_≤_;omega⟩
 ·clear h;rintro ⟨r,outs⟩ a w hI h
  change St _ (F.of [(0,.t (.c (.d (.raw (.string (⟨r.toArray⟩:ByteArray)))))),(2,.t (.c (.d (.raw za4)))),(3,.t (.c (.own 30 outs.length)))] [(30,.row 9 1 (outs.map za2))]) a w at h
  obtain ⟨hI1,hI2⟩:=hI
  refine wp_seq (rq za0 31 [(1,.gen _ _ _ fun _ _ _ _=>Op.strNe (d:=8) (xt:=9) (yt:=9) (s1:=(⟨r.toArray⟩:ByteArray)) (s2:=ByteArray.empty) (r:=(decide (0<r.length))) (OV.tmp 7 _) (OV.const (.string ByteArray.empty) rfl) emp_ne)] [(0,.t (.c (.d (.raw (.string (⟨r.toArray⟩:ByteArray)))))),(2,.t (.c (.d (.raw za4)))),(3,.t (.c (.own 30 outs.length))),(8,vb (decide (0<r.length)))] [(30,.row 9 1 (outs.map za2))] h ?_);clear h;intro a w h
  refine zab (decide (0<r.length)) h rfl (fun hc=>?_) (fun hc=>?_)
  ·have hc1:=hc;clear hc
   have hc1':=of_decide_eq_true hc1
   refine wp_skip (za5 (wp_block ?_))
   rcases idx_C r with ⟨k,hk⟩ | hk
   ·skip
    refine rq za0 31 [(1,.call (SCutS r k hk (by omega)) pl1_2)] [(0,.t (.c (.d (.raw (.string (⟨r.toArray⟩:ByteArray)))))),(2,.t (.c (.d (.raw za4)))),(3,.t (.c (.own 30 outs.length))),(4,.t (.c (.d (.raw (.string (⟨(r.take k).toArray⟩:ByteArray)))))),(5,.t (.c (.d (.raw (.string (⟨(r.drop (k+1)).toArray⟩:ByteArray))))))] [(30,.row 9 1 (outs.map za2))] h ?_;clear h;intro a w h
    refine rq za0 31 [(2,.gen _ _ _ fun _ _ _ _=>Op.buildD (d:=17) (len:=1) (rows:=[(⟨(r.take k).toArray⟩:ByteArray)].map za2) (rs:=[(16,.t (.c (.d (.raw (.string (⟨(r.take k).toArray⟩:ByteArray))))))]) zbs (.cons (i:=0) (OV.tmp 16 _) (.nil)) (by kernel_rfl) rfl (by simp [za2]) (by decide) (by decide)),(3,.gen _ _ _ fun _ _ _ _=>Op.appOD (d:=18) (t:=15) (u:=17) (n:=30) (n':=31) (len:=outs.length) (len':=(outs++[(⟨(r.take k).toArray⟩:ByteArray)]).length) (rows:=outs.map za2) (rows2:=[(⟨(r.take k).toArray⟩:ByteArray)].map za2) (rows':=(outs++[(⟨(r.take k).toArray⟩:ByteArray)]).map za2) ph1_3 (by first | exact (List.length_map _).symm | simp) (by first | (rw [List.length_append,List.length_map];done) | simp) (by simp) (by simp [za2]) (by first | omega | (simp at *;done) | (simp at *;omega)))] [(0,.t (.c (.d (.raw (.string (⟨r.toArray⟩:ByteArray)))))),(2,.t (.c (.d (.raw za4)))),(3,.t (.c (.own 31 (outs++[(⟨(r.take k).toArray⟩:ByteArray)]).length))),(5,.t (.c (.d (.raw (.string (⟨(r.drop (k+1)).toArray⟩:ByteArray))))))] [(31,.row 9 1 ((outs++[(⟨(r.take k).toArray⟩:ByteArray)]).map za2))] h ?_;clear h;intro a w h
    refine rn za0 32 [] [(0,.t (.c (.d (.raw (.string (⟨(r.drop (k+1)).toArray⟩:ByteArray)))))),(2,.t (.c (.d (.raw za4)))),(3,.t (.c (.own 31 (outs++[(⟨(r.take k).toArray⟩:ByteArray)]).length)))] [(31,.row 9 1 ((outs++[(⟨(r.take k).toArray⟩:ByteArray)]).map za2))] h ?_;clear h;intro a w h
    refine zaj (za5 ?_)
    replace h:=renS 31 30 [(0,.t (.c (.d (.raw (.string (⟨(r.drop (k+1)).toArray⟩:ByteArray)))))),(2,.t (.c (.d (.raw za4)))),(3,.t (.c (.own 30 (outs++[(⟨(r.take k).toArray⟩:ByteArray)]).length)))] [(30,.row 9 1 ((outs++[(⟨(r.take k).toArray⟩:ByteArray)]).map za2))] h
    refine zaz (x:=(r,outs)) (y:=((r.drop (k+1)),(outs++[(⟨(r.take k).toArray⟩:ByteArray)]))) h ?_ ?_
    ·have hq:=zbp hk
     refine ⟨?_,?_⟩
     ·rw [← hI1,lns_step hk,List.append_assoc];rfl
     ·rw [List.length_append,List.length_drop];show outs.length+1+_≤_;omega
    ·show (r.drop (k+1)).length<r.length
     have hq:=zbp hk
     rw [List.length_drop];omega
   ·skip
    refine rq za0 31 [(1,.call (SCutN r hk) pl1_2)] [(0,.t (.c (.d (.raw (.string (⟨r.toArray⟩:ByteArray)))))),(2,.t (.c (.d (.raw za4)))),(3,.t (.c (.own 30 outs.length))),(4,.t (.c (.d (.raw (.string (⟨r.toArray⟩:ByteArray)))))),(5,.t (.c (.d (.raw (.string ByteArray.empty)))))] [(30,.row 9 1 (outs.map za2))] h ?_;clear h;intro a w h
    refine rq za0 31 [(2,.gen _ _ _ fun _ _ _ _=>Op.buildD (d:=17) (len:=1) (rows:=[(⟨r.toArray⟩:ByteArray)].map za2) (rs:=[(16,.t (.c (.d (.raw (.string (⟨r.toArray⟩:ByteArray))))))]) zbs (.cons (i:=0) (OV.tmp 16 _) (.nil)) (by kernel_rfl) rfl (by simp [za2]) (by decide) (by decide)),(3,.gen _ _ _ fun _ _ _ _=>Op.appOD (d:=18) (t:=15) (u:=17) (n:=30) (n':=31) (len:=outs.length) (len':=(outs++[(⟨r.toArray⟩:ByteArray)]).length) (rows:=outs.map za2) (rows2:=[(⟨r.toArray⟩:ByteArray)].map za2) (rows':=(outs++[(⟨r.toArray⟩:ByteArray)]).map za2) ph1_3 (by first | exact (List.length_map _).symm | simp) (by first | (rw [List.length_append,List.length_map];done) | simp) (by simp) (by simp [za2]) (by first | omega | (simp at *;done) | (simp at *;omega)))] [(0,.t (.c (.d (.raw (.string (⟨r.toArray⟩:ByteArray)))))),(2,.t (.c (.d (.raw za4)))),(3,.t (.c (.own 31 (outs++[(⟨r.toArray⟩:ByteArray)]).length))),(5,.t (.c (.d (.raw (.string ByteArray.empty)))))] [(31,.row 9 1 ((outs++[(⟨r.toArray⟩:ByteArray)]).map za2))] h ?_;clear h;intro a w h
    refine rn za0 32 [] [(0,.t (.c (.d (.raw (.string ByteArray.empty))))),(2,.t (.c (.d (.raw za4)))),(3,.t (.c (.own 31 (outs++[(⟨r.toArray⟩:ByteArray)]).length)))] [(31,.row 9 1 ((outs++[(⟨r.toArray⟩:ByteArray)]).map za2))] h ?_;clear h;intro a w h
    refine zaj (za5 ?_)
    replace h:=h.conv (f':=F.of [(0,.t (.c (.d (.raw (.string (⟨([]:List UInt8).toArray⟩:ByteArray)))))),(2,.t (.c (.d (.raw za4)))),(3,.t (.c (.own 31 (outs++[(⟨r.toArray⟩:ByteArray)]).length)))] [(31,.row 9 1 ((outs++[(⟨r.toArray⟩:ByteArray)]).map za2))]) (by rw [show (ByteArray.empty:ByteArray)=(⟨([]:List UInt8).toArray⟩:ByteArray) from rfl])
    replace h:=renS 31 30 [(0,.t (.c (.d (.raw (.string (⟨([]:List UInt8).toArray⟩:ByteArray)))))),(2,.t (.c (.d (.raw za4)))),(3,.t (.c (.own 30 (outs++[(⟨r.toArray⟩:ByteArray)]).length)))] [(30,.row 9 1 ((outs++[(⟨r.toArray⟩:ByteArray)]).map za2))] h
    refine zaz (x:=(r,outs)) (y:=([],(outs++[(⟨r.toArray⟩:ByteArray)]))) h ?_ ?_
    ·have hr0:=of_decide_eq_true hc1
     refine ⟨?_,?_⟩
     ·rw [← hI1,lnsL_no (idx_none hk) (fun e=>by rw [e] at hr0;simp at hr0)];show (outs++[_])++[]=_;rw [List.append_nil];rfl
     ·rw [List.length_append];show outs.length+1+0≤_;omega
    ·show 0<r.length
     exact of_decide_eq_true hc1
  ·have hc2:=hc;clear hc
   have hc2':=of_decide_eq_false hc2
   refine wp_exit (zao (zao (zac (za5 (rq za0 32 [] [(2,.t (.c (.own 30 outs.length)))] [(30,.row 9 1 (outs.map za2))] h ?_)))));clear h;intro a w h
   refine wp_ret ?_
   replace h:=h.conv (f':=F.of [(2,.t (.c (.own 30 (zav t).length)))] [(30,.row 9 1 ((zav t).map za2))]) (congrArg (fun (z_:List ByteArray)=>F.of [(2,.t (.c (.own 30 z_.length)))] [(30,.row 9 1 (z_.map za2))]) (show (outs:List ByteArray)=(zav t) from (by rw [← hI1,show r=[] from List.length_eq_zero_iff.1 (by have:=of_decide_eq_false hc2;omega)];exact (List.append_nil _).symm)))
   replace h:=pubS 30 1 9 ((zav t).map za2) [(2,.t (.c (.d (.sl 1 ((zav t).map za2)))))] [] h rfl (show zcj _ [(zav t).length] from ⟨by first | exact (List.length_map _).symm | (simp;done) | (simp;omega),trivial⟩) trivial
   refine zb3 [.c (.d (.sl 1 ((zav t).map za2)))] h Exit.ret (.inl rfl)  rfl ⟨RV.tmp _ _ rfl,trivial⟩ ?_
   rfl
abbrev q20 (outs:List ByteArray) (t:ByteArray) (f:Nat) (i:Nat):V:=.t (.c (.own 31 (outs++[(⟨((t.data.toList.drop f).take (i - f)).toArray⟩:ByteArray)]).length))
abbrev q21 (outs:List ByteArray) (t:ByteArray) (f:Nat) (i:Nat):L:=.row 9 1 ((outs++[(⟨((t.data.toList.drop f).take (i - f)).toArray⟩:ByteArray)]).map za2)
abbrev q22 (t:ByteArray):V:=.t (.c (.d (.raw (.string t))))
set_option maxHeartbeats 4000000 in
theorem RLines (t:ByteArray) (ht:t.size≤4294967296):Fn Tryd.prog 16 [] [.t (.c (.d (.raw (.string t))))] (.t (.c (.d (.sl 1 ((zav t).map za2))))) []:=by
 have lbt:=baL t
 refine Fn.body Tryd.func16 rfl 37 rfl fun w H B a h=>?_
 refine rq za0 30 [] [(0,q22 t),(2,.t (.c (.d (.raw za4))))] [] h ?_;clear h;intro a w h
 refine rq za0 30 [(0,.gen _ _ _ fun _ _ _ _=>Op.buildE (d:=6) (n:=30) zbs)] [(0,q22 t),(2,.t (.c (.d (.raw za4)))),(3,.t (.c (.own 30 0)))] [(30,.row 9 1 ([].map za2))] h ?_;clear h;intro a w h
 refine rq za0 31 [] [(0,q22 t),(2,.t (.c (.d (.raw za4)))),(3,.t (.c (.own 30 0))),(4,vi .i64 0)] [(30,.row 9 1 ([].map za2))] h ?_;clear h;intro a w h
 refine wp_seq (rq za0 31 [] [(0,q22 t),(2,.t (.c (.d (.raw za4)))),(3,.t (.c (.own 30 0))),(4,vi .i64 0),(5,vi .i64 0)] [(30,.row 9 1 ([].map za2))] h ?_);clear h;intro a w h
 refine wp_block ?_
 replace h:=h.conv (f':=F.of [(0,q22 t),(2,.t (.c (.d (.raw za4)))),(3,.t (.c (.own 30 0))),(4,vi .i64 0),(5,vi .i64 0)] [(30,.row 9 1 (([]:List ByteArray).map za2))]) (congrArg (fun (z_:List ByteArray)=>F.of [(0,q22 t),(2,.t (.c (.d (.raw za4)))),(3,.t (.c (.own 30 0))),(4,vi .i64 0),(5,vi .i64 0)] [(30,.row 9 1 (z_.map za2))]) (show ([]:List ByteArray)=([]:List ByteArray) from rfl))
 refine zci (ι:=(Nat) × (Nat) × (List ByteArray)) (fun (z_:(Nat) × (Nat) × (List ByteArray))=>match z_ with | (i,f,outs)=>outs++(lnsL (t.data.toList.drop f)).map mkB=zav t∧f≤i∧i≤t.data.toList.length∧(10:UInt8) ∉ (t.data.toList.drop f).take (i - f)∧outs.length≤f)
   (fun (z_:(Nat) × (Nat) × (List ByteArray))=>match z_ with | (i,f,outs)=>[(0,q22 t),(2,.t (.c (.d (.raw za4)))),(3,.t (.c (.own 30 outs.length))),(4,vi .i64 (f:Int)),(5,vi .i64 (i:Int))])
   (fun (z_:(Nat) × (Nat) × (List ByteArray))=>match z_ with | (i,f,outs)=>[(30,.row 9 1 (outs.map za2))])
   (fun (z_:(Nat) × (Nat) × (List ByteArray))=>match z_ with | (i,f,outs)=>t.data.toList.length - i) (0,0,[]) ?_ h (by kernel_rfl) (by kernel_rfl) ?_
 ·exact ⟨rfl,Nat.le_refl _,Nat.zero_le _,by simp,Nat.le_refl _⟩
 ·clear h;rintro ⟨i,f,outs⟩ a w hI h
  change St _ (F.of [(0,q22 t),(2,.t (.c (.d (.raw za4)))),(3,.t (.c (.own 30 outs.length))),(4,vi .i64 (f:Int)),(5,vi .i64 (i:Int))] [(30,.row 9 1 (outs.map za2))]) a w at h
  obtain ⟨hI1,hI2,hI3,hI4,hI5⟩:=hI
  refine wp_seq (rq za0 31 [] [(0,q22 t),(2,.t (.c (.d (.raw za4)))),(3,.t (.c (.own 30 outs.length))),(4,vi .i64 (f:Int)),(5,vi .i64 (i:Int)),(10,vb (decide ((i:Int)<(t.size:Int))))] [(30,.row 9 1 (outs.map za2))] h ?_);clear h;intro a w h
  refine zab (decide ((i:Int)<(t.size:Int))) h rfl (fun hc=>?_) (fun hc=>?_)
  ·have hc1:=hc;clear hc
   have hc1':=of_decide_eq_true hc1
   refine wp_skip (za5 (wp_seq (wp_block ?_)))
   obtain ⟨c,hc0⟩:∃ c,t.data.toList[i]?=some c:=⟨_,List.getElem?_eq_getElem (by rw [← baL];omega)⟩
   refine rq za0 31 [(2,.gen _ _ _ fun _ _ _ _=>Op.strIdx (d:=15) (xt:=9) (s:=t) (i:=i) (c:=c) (k:=.i64) Tryd.underlying9 (OV.tmp 13 _) (OV.tmp 14 _) hc0)] [(0,q22 t),(2,.t (.c (.d (.raw za4)))),(3,.t (.c (.own 30 outs.length))),(4,vi .i64 (f:Int)),(5,vi .i64 (i:Int)),(16,vb ((c.toNat:Int) == 10))] [(30,.row 9 1 (outs.map za2))] h ?_;clear h;intro a w h
   refine zab ((c.toNat:Int) == 10) h rfl (fun hc=>?_) (fun hc=>?_)
   ·have hc2:=hc;clear hc
    have hc2':=hc2;(try simp at hc2')
    refine rq za0 31 [(4,.gen _ _ _ fun _ _ _ _=>Op.strSl (d:=21) (xt:=9) (l:=f) (h:=i) (s:=t) (r:=(⟨((t.data.toList.drop f).take (i - f)).toArray⟩:ByteArray)) Tryd.underlying9 (OV.tmp 18 _) (BO.yes (k:=.i64) (i:=f) _ (OV.tmp 19 _)) (BO.yes (k:=.i64) (i:=i) _ (OV.tmp 20 _)) (by omega) (by omega) (Lib.extract_eq _ _ _)),(5,.gen _ _ _ fun _ _ _ _=>Op.buildD (d:=22) (len:=1) (rows:=[(⟨((t.data.toList.drop f).take (i - f)).toArray⟩:ByteArray)].map za2) (rs:=[(21,.t (.c (.d (.raw (.string (⟨((t.data.toList.drop f).take (i - f)).toArray⟩:ByteArray))))))]) zbs (.cons (i:=0) (OV.tmp 21 _) (.nil)) (by kernel_rfl) rfl (by simp [za2]) (by decide) (by decide)),(6,.gen _ _ _ fun _ _ _ _=>Op.appOD (d:=23) (t:=17) (u:=22) (n:=30) (n':=31) (len:=outs.length) (len':=(outs++[(⟨((t.data.toList.drop f).take (i - f)).toArray⟩:ByteArray)]).length) (rows:=outs.map za2) (rows2:=[(⟨((t.data.toList.drop f).take (i - f)).toArray⟩:ByteArray)].map za2) (rows':=(outs++[(⟨((t.data.toList.drop f).take (i - f)).toArray⟩:ByteArray)]).map za2) ph1_3 (by first | exact (List.length_map _).symm | simp) (by first | (rw [List.length_append,List.length_map];done) | simp) (by simp) (by simp [za2]) (by first | omega | (simp at *;done) | (simp at *;omega)))] [(0,q22 t),(2,.t (.c (.d (.raw za4)))),(3,q20 outs t f i),(4,vi .i64 (f:Int)),(5,vi .i64 (i:Int))] [(31,q21 outs t f i)] h ?_;clear h;intro a w h
    refine rn za0 32 [(1,.add .i64 (m:=(i:Int)) (n:=1) (zap (by omega) (by omega)))] [(0,q22 t),(2,.t (.c (.d (.raw za4)))),(3,q20 outs t f i),(4,vi .i64 ((i:Int)+1)),(5,vi .i64 (i:Int))] [(31,q21 outs t f i)] h ?_;clear h;intro a w h
    refine zaj (za5 (rn za0 32 [(1,.add .i64 (m:=(i:Int)) (n:=1) (zap (by omega) (by omega)))] [(0,q22 t),(2,.t (.c (.d (.raw za4)))),(3,q20 outs t f i),(4,vi .i64 ((i:Int)+1)),(5,vi .i64 ((i:Int)+1))] [(31,q21 outs t f i)] h ?_));clear h;intro a w h
    refine za5 ?_
    replace h:=renS 31 30 [(0,q22 t),(2,.t (.c (.d (.raw za4)))),(3,.t (.c (.own 30 (outs++[(⟨((t.data.toList.drop f).take (i - f)).toArray⟩:ByteArray)]).length))),(4,vi .i64 ((i:Int)+1)),(5,vi .i64 ((i:Int)+1))] [(30,q21 outs t f i)] h
    refine zaz (x:=(i,f,outs)) (y:=(i+1,(i+1),(outs++[(⟨((t.data.toList.drop f).take (i - f)).toArray⟩:ByteArray)]))) h ?_ ?_
    ·have hc1:=nl_yes hc2
     have hil:=zar hc0
     have hq:=lns_at hI2 hc0 hc1 hI4
     refine ⟨?_,Nat.le_refl _,by omega,?_,?_⟩
     ·rw [← hI1,hq,List.append_assoc];rfl
     ·rw [Nat.sub_self];simp
     ·rw [List.length_append];show outs.length+1≤_;omega
    ·show t.data.toList.length - (i+1)<t.data.toList.length - i
     have:=zar hc0;omega
   ·have hc3:=hc;clear hc
    have hc3':=hc3;(try simp at hc3')
    refine wp_skip (zaj (za5 (rn za0 32 [(1,.add .i64 (m:=(i:Int)) (n:=1) (zap (by omega) (by omega)))] [(0,q22 t),(2,.t (.c (.d (.raw za4)))),(3,.t (.c (.own 30 outs.length))),(4,vi .i64 (f:Int)),(5,vi .i64 ((i:Int)+1))] [(30,.row 9 1 (outs.map za2))] h ?_)));clear h;intro a w h
    refine za5 ?_
    refine zaz (x:=(i,f,outs)) (y:=(i+1,f,outs)) h ?_ ?_
    ·have hc1:=nl_no hc3
     have hil:=zar hc0
     exact ⟨hI1,by omega,by omega,lns_more hI2 hc0 hc1 hI4,hI5⟩
    ·show t.data.toList.length - (i+1)<t.data.toList.length - i
     have:=zar hc0;omega
  ·have hc4:=hc;clear hc
   have hc4':=of_decide_eq_false hc4
   refine wp_exit (zao (zao (zac (za5 (wp_seq (rq za0 32 [] [(0,q22 t),(2,.t (.c (.d (.raw za4)))),(3,.t (.c (.own 30 outs.length))),(4,vi .i64 (f:Int)),(29,vb (decide ((f:Int)<(t.size:Int))))] [(30,.row 9 1 (outs.map za2))] h ?_))))));clear h;intro a w h
   refine zab (decide ((f:Int)<(t.size:Int))) h rfl (fun hc=>?_) (fun hc=>?_)
   ·have hc5:=hc;clear hc
    have hc5':=of_decide_eq_true hc5
    refine rn za0 32 [(3,.gen _ _ _ fun _ _ _ _=>Op.strSl (d:=33) (xt:=9) (l:=f) (h:=t.size) (s:=t) (r:=(⟨(t.data.toList.drop f).toArray⟩:ByteArray)) Tryd.underlying9 (OV.tmp 31 _) (BO.yes (k:=.i64) (i:=f) _ (OV.tmp 32 _)) (BO.no _) (by omega) (by omega) (cut_end t f)),(4,.gen _ _ _ fun _ _ _ _=>Op.buildD (d:=34) (len:=1) (rows:=[(⟨(t.data.toList.drop f).toArray⟩:ByteArray)].map za2) (rs:=[(33,.t (.c (.d (.raw (.string (⟨(t.data.toList.drop f).toArray⟩:ByteArray))))))]) zbs (.cons (i:=0) (OV.tmp 33 _) (.nil)) (by kernel_rfl) rfl (by simp [za2]) (by decide) (by decide)),(5,.gen _ _ _ fun _ _ _ _=>Op.appOD (d:=35) (t:=30) (u:=34) (n:=30) (n':=32) (len:=outs.length) (len':=(outs++[(⟨(t.data.toList.drop f).toArray⟩:ByteArray)]).length) (rows:=outs.map za2) (rows2:=[(⟨(t.data.toList.drop f).toArray⟩:ByteArray)].map za2) (rows':=(outs++[(⟨(t.data.toList.drop f).toArray⟩:ByteArray)]).map za2) ph1_3 (by first | exact (List.length_map _).symm | simp) (by first | (rw [List.length_append,List.length_map];done) | simp) (by simp) (by simp [za2]) (by first | omega | (simp at *;done) | (simp at *;omega)))] [(2,.t (.c (.d (.raw za4)))),(3,.t (.c (.own 32 (outs++[(⟨(t.data.toList.drop f).toArray⟩:ByteArray)]).length)))] [(32,.row 9 1 ((outs++[(⟨(t.data.toList.drop f).toArray⟩:ByteArray)]).map za2))] h ?_;clear h;intro a w h
    refine za5 (rq za0 33 [] [(2,.t (.c (.own 32 (outs++[(⟨(t.data.toList.drop f).toArray⟩:ByteArray)]).length)))] [(32,.row 9 1 ((outs++[(⟨(t.data.toList.drop f).toArray⟩:ByteArray)]).map za2))] h ?_);clear h;intro a w h
    refine wp_ret ?_
    replace h:=h.conv (f':=F.of [(2,.t (.c (.own 32 (zav t).length)))] [(32,.row 9 1 ((zav t).map za2))]) (congrArg (fun (z_:List ByteArray)=>F.of [(2,.t (.c (.own 32 z_.length)))] [(32,.row 9 1 (z_.map za2))]) (show ((outs++[(⟨(t.data.toList.drop f).toArray⟩:ByteArray)]):List ByteArray)=(zav t) from (by have e0:¬ (i:Int)<(t.size:Int):=of_decide_eq_false hc4;have e1:=baL t;have e2:=of_decide_eq_true hc5;rw [← hI1,lnsL_no (x:=t.data.toList.drop f) (by rw [List.take_of_length_le (by rw [List.length_drop];omega)] at hI4;exact hI4) (fun h=>by have:=congrArg List.length h;rw [List.length_drop,List.length_nil] at this;omega)];rfl)))
    replace h:=pubS 32 1 9 ((zav t).map za2) [(2,.t (.c (.d (.sl 1 ((zav t).map za2)))))] [] h rfl (show zcj _ [(zav t).length] from ⟨by first | exact (List.length_map _).symm | (simp;done) | (simp;omega),trivial⟩) trivial
    refine zb3 [.c (.d (.sl 1 ((zav t).map za2)))] h Exit.ret (.inl rfl)  rfl ⟨RV.tmp _ _ rfl,trivial⟩ ?_
    rfl
   ·have hc6:=hc;clear hc
    have hc6':=of_decide_eq_false hc6
    refine wp_skip (za5 (rq za0 33 [] [(2,.t (.c (.own 30 outs.length)))] [(30,.row 9 1 (outs.map za2))] h ?_));clear h;intro a w h
    refine wp_ret ?_
    replace h:=h.conv (f':=F.of [(2,.t (.c (.own 30 (zav t).length)))] [(30,.row 9 1 ((zav t).map za2))]) (congrArg (fun (z_:List ByteArray)=>F.of [(2,.t (.c (.own 30 z_.length)))] [(30,.row 9 1 (z_.map za2))]) (show (outs:List ByteArray)=(zav t) from (by have e0:¬ (i:Int)<(t.size:Int):=of_decide_eq_false hc4;have e1:=baL t;have e2:=of_decide_eq_false hc6;rw [← hI1,show t.data.toList.drop f=[] from List.drop_eq_nil_of_le (by omega)];exact (List.append_nil _).symm)))
    replace h:=pubS 30 1 9 ((zav t).map za2) [(2,.t (.c (.d (.sl 1 ((zav t).map za2)))))] [] h rfl (show zcj _ [(zav t).length] from ⟨by first | exact (List.length_map _).symm | (simp;done) | (simp;omega),trivial⟩) trivial
    refine zb3 [.c (.d (.sl 1 ((zav t).map za2)))] h Exit.ret (.inl rfl)  rfl ⟨RV.tmp _ _ rfl,trivial⟩ ?_
    rfl
theorem pm1_1:za8 Tryd.prog 15:=za8.mk' (by kernel_rfl)
theorem pm1_3:za8 Tryd.prog 27:=za8.mk' (by kernel_rfl)
theorem pm1_4:za8 Tryd.prog 28:=za8.mk' (by kernel_rfl)
theorem pm1_5:za8 Tryd.prog 16:=za8.mk' (by kernel_rfl)
theorem pm1_6:za8 Tryd.prog 23:=za8.mk' (by kernel_rfl)
theorem pfx_raw (b:ByteArray):pfx b=(decide (5≤b.size) && ((b.extract 0 5).toList == (⟨#[119,104,121,58,32]⟩:ByteArray).toList)):=(Lib.hasPrefix_raw b ⟨#[119,104,121,58,32]⟩).symm
theorem pfx_short {b:ByteArray} (h:¬ 5≤b.size):pfx b=false:=by rw [pfx_raw,decide_eq_false h];rfl
theorem pfx_no {b:ByteArray} (_h:5≤b.size) (h2:((b.extract 0 5).toList == (⟨#[119,104,121,58,32]⟩:ByteArray).toList)=false):pfx b=false:=by rw [pfx_raw,h2,Bool.and_false]
theorem pfx_yes {b:ByteArray} (h:5≤b.size) (h2:((b.extract 0 5).toList == (⟨#[119,104,121,58,32]⟩:ByteArray).toList)=true):pfx b=true∧b.extract 5 b.size=cutP b ⟨#[119,104,121,58,32]⟩:=by
 refine ⟨by rw [pfx_raw,h2,decide_eq_true h];rfl,(Lib.trimPrefix_hit b ⟨#[119,104,121,58,32]⟩ h h2).symm⟩
theorem rd_none {t a b:ByteArray} (h0:(zav t)[0]?=some a) (h1:(zav t)[1]?=some b) (h:∀ i:Nat,i<4→eqB (za9 ((i:Int)+1)) a=true→i≠3∧pfx b=false):rdW t=(0,ByteArray.empty,20):=by
 rw [zbf h0 h1]
 by_cases hm:∃ i:Nat,i<4∧eqB (za9 ((i:Int)+1)) a=true
 ·obtain ⟨i,hi,he⟩:=hm
  obtain ⟨g1,g2⟩:=h i hi he
  rw [vdW_hit hi he,if_neg (by simp),if_neg (by show ¬ (i:Int)+1=4;omega),if_neg (by rw [g2];exact Bool.noConfusion)]
 ·have hv:vdW a=(0,false):=vdW_miss fun i hi=>by
   cases he:eqB (za9 ((i:Int)+1)) a with
   | false=>rfl
   | true=>exact absurd ⟨i,hi,he⟩ hm
  rw [hv,if_pos rfl]
theorem rd_4 {t a b:ByteArray} {j:Nat} (h0:(zav t)[0]?=some a) (h1:(zav t)[1]?=some b) (hj:j<4) (he:eqB (za9 ((j:Int)+1)) a=true) (h4:(j:Int)+1=4):rdW t=((j:Int)+1,b,0):=by
 rw [zbf h0 h1,vdW_hit hj he,if_neg (by simp),if_pos h4,h4]
theorem rd_v {t a b:ByteArray} {j:Nat} (h0:(zav t)[0]?=some a) (h1:(zav t)[1]?=some b) (hj:j<4) (he:eqB (za9 ((j:Int)+1)) a=true) (h4:¬ (j:Int)+1=4) (hp:pfx b=true):rdW t=((j:Int)+1,cutP b ⟨#[119,104,121,58,32]⟩,0):=by
 rw [zbf h0 h1,vdW_hit hj he,if_neg (by simp),if_neg h4,if_pos hp]
set_option maxHeartbeats 4000000 in
theorem PVerdict (t:ByteArray) :Fn Tryd.prog 27 [] [.t (.c (.d (.raw (.string t))))] (.tup [.c (cI (vdW t).1),.c (cB (vdW t).2)]) []:=by
 refine Fn.body Tryd.func27 rfl 14 rfl fun w H B a h=>?_
 refine rq za0 0 [] [(0,.t (.c (.d (.raw (.string t))))),(2,vi .i64 0),(3,vb false)] [] h ?_;clear h;intro a w h
 refine wp_seq (rq za0 0 [] [(0,.t (.c (.d (.raw (.string t))))),(2,vi .i64 0),(3,vb false),(4,vi .i64 1)] [] h ?_);clear h;intro a w h
 refine wp_block ?_
 replace h:=h.conv (f':=F.of [(0,.t (.c (.d (.raw (.string t))))),(2,vi .i64 0),(3,vb false),(4,vi .i64 (((0:Nat):Int)+1))] []) (by kernel_rfl)
 refine zci (ι:=(Nat)) (fun (z_:(Nat))=>match z_ with | j=>j≤4∧∀ i:Nat,i<j→eqB (za9 ((i:Int)+1)) t=false)
   (fun (z_:(Nat))=>match z_ with | j=>[(0,.t (.c (.d (.raw (.string t))))),(4,vi .i64 ((j:Int)+1))])
   (fun (z_:(Nat))=>match z_ with | j=>[])
   (fun (z_:(Nat))=>match z_ with | j=>4 - j) 0 ?_ h (by kernel_rfl) (by kernel_rfl) ?_
 ·exact ⟨Nat.zero_le _,fun i hi=>absurd hi (Nat.not_lt_zero _)⟩
 ·clear h;rintro j a w hI h
  change St _ (F.of [(0,.t (.c (.d (.raw (.string t))))),(4,vi .i64 ((j:Int)+1))] []) a w at h
  obtain ⟨hI1,hI2⟩:=hI
  refine wp_seq (rq za0 0 [] [(0,.t (.c (.d (.raw (.string t))))),(4,vi .i64 ((j:Int)+1)),(6,vb (decide (((j:Int)+1)≤4)))] [] h ?_);clear h;intro a w h
  refine zab (decide (((j:Int)+1)≤4)) h rfl (fun hc=>?_) (fun hc=>?_)
  ·have hc1:=hc;clear hc
   have hc1':=of_decide_eq_true hc1
   refine wp_skip (za5 (wp_seq (wp_block (rq za0 0 [(1,.call (PName ((j:Int)+1)) pk1_0),(3,.gen _ _ _ fun _ _ _ _=>Op.strEq (d:=12) (xt:=9) (yt:=9) (s1:=(za9 ((j:Int)+1))) (s2:=t) (r:=eqB (za9 ((j:Int)+1)) t) (OV.tmp 10 _) (OV.tmp 11 _) rfl)] [(0,.t (.c (.d (.raw (.string t))))),(4,vi .i64 ((j:Int)+1)),(12,vb (eqB (za9 ((j:Int)+1)) t))] [] h ?_))));clear h;intro a w h
   refine zab (eqB (za9 ((j:Int)+1)) t) h rfl (fun hc=>?_) (fun hc=>?_)
   ·have hc2:=hc;clear hc
    refine rq za0 0 [] [(0,.t (.c (.d (.raw (.string t))))),(2,vi .i64 ((j:Int)+1)),(3,vb true),(4,vi .i64 ((j:Int)+1))] [] h ?_;clear h;intro a w h
    refine wp_ret (zax (zah (zah (zax (zah ?_)))))
    refine zb3 [.c (cI ((j:Int)+1)),.c (cB true)] h Exit.ret (.inl rfl)  rfl ⟨RV.tmp _ _ rfl,RV.tmp _ _ rfl,trivial⟩ ?_
    rw [vdW_hit (by have:=of_decide_eq_true hc1;omega) hc2];first | done | rfl
   ·have hc3:=hc;clear hc
    refine wp_skip (zaj (za5 (rn za0 0 [(1,.add .i64 (m:=((j:Int)+1)) (n:=1) (zap (by omega) (by omega)))] [(0,.t (.c (.d (.raw (.string t))))),(4,vi .i64 (((j:Int)+1)+1))] [] h ?_)));clear h;intro a w h
    refine za5 ?_
    replace h:=h.conv (f':=F.of [(0,.t (.c (.d (.raw (.string t))))),(4,vi .i64 (((j+1:Nat):Int)+1))] []) (by rw [show (((j:Int)+1)+1:Int)=(((j+1:Nat):Int)+1) from (by omega)])
    refine zaz (x:=j) (y:=j+1) h ?_ ?_
    ·have:=of_decide_eq_true hc1
     refine ⟨by omega,fun i hi=>?_⟩
     rcases Nat.lt_or_ge i j with h1 | h1
     ·exact hI2 i h1
     ·rw [show i=j by omega]
      exact hc3
    ·show 4 - (j+1)<4 - j
     have:=of_decide_eq_true hc1;omega
  ·have hc4:=hc;clear hc
   have hc4':=of_decide_eq_false hc4
   refine wp_exit (zao (zao (zac (za5 (rq za0 0 [] [(2,vi .i64 0),(3,vb false)] [] h ?_)))));clear h;intro a w h
   refine wp_ret ?_
   refine zb3 [.c (cI 0),.c (cB false)] h Exit.ret (.inl rfl)  rfl ⟨RV.tmp _ _ rfl,RV.tmp _ _ rfl,trivial⟩ ?_
   rw [vdW_miss fun i hi=>hI2 i (by have:=of_decide_eq_false hc4;omega)];first | done | rfl
set_option maxHeartbeats 4000000 in
theorem PRead (t:ByteArray) (ht:t.size≤4294967296):Fn Tryd.prog 12 [] [.t (.c (.d (.raw (.string t))))] (.tup [.c (cI (rdW t).1),.c (.d (.raw (.string (rdW t).2.1))),.c (cI (rdW t).2.2)]) []:=by
 refine Fn.body Tryd.func12 rfl 47 rfl fun w H B a h=>?_
 refine rq za0 0 [] [(0,.t (.c (.d (.raw (.string t))))),(2,vi .i64 0),(3,.t (.c (.d (.raw (.string ByteArray.empty))))),(4,vi .i64 0)] [] h ?_;clear h;intro a w h
 refine rq za0 0 [(1,.call (PLines t (by omega)) pm1_1)] [(2,vi .i64 0),(3,.t (.c (.d (.raw (.string ByteArray.empty))))),(4,vi .i64 0),(5,.t (.c (.d (.sl 1 ((zav t).map za2)))))] [] h ?_;clear h;intro a w h
 refine wp_seq (rq za0 0 [(1,.len (c:=(.d (.sl 1 ((zav t).map za2)))) (n:=(zav t).length) (zag _ _ _))] [(2,vi .i64 0),(3,.t (.c (.d (.raw (.string ByteArray.empty))))),(4,vi .i64 0),(5,.t (.c (.d (.sl 1 ((zav t).map za2))))),(14,vb (decide (((zav t).length:Int)<2)))] [] h ?_);clear h;intro a w h
 refine zab (decide (((zav t).length:Int)<2)) h rfl (fun hc=>?_) (fun hc=>?_)
 ·have hc1:=hc;clear hc
  have hc1':=of_decide_eq_true hc1
  refine rq za0 0 [] [(2,vi .i64 0),(3,.t (.c (.d (.raw (.string ByteArray.empty))))),(4,vi .i64 20),(5,.t (.c (.d (.sl 1 ((zav t).map za2)))))] [] h ?_;clear h;intro a w h
  refine wp_ret (zah ?_)
  refine zb3 [.c (cI 0),.c (.d (.raw (.string ByteArray.empty))),.c (cI 20)] h Exit.ret (.inl rfl)  rfl ⟨RV.tmp _ _ rfl,RV.tmp _ _ rfl,RV.tmp _ _ rfl,trivial⟩ ?_
  rw [rdW_short (by have:=of_decide_eq_true hc1;omega)];first | done | rfl
 ·have hc2:=hc;clear hc
  have hc2':=of_decide_eq_false hc2
  refine wp_skip (za5 ?_)
  obtain ⟨x2,hx2⟩:∃ z_:ByteArray,(zav t)[0]?=some z_:=⟨_,List.getElem?_eq_getElem (by first | omega | (simp at *;omega))⟩
  refine rq za0 0 [(1,.gen _ _ _ fun _ _ _ _=>Op.idxD (d:=17) (t:=16) (k:=.i64) zby (zas hx2 (f:=za2)) (OV.const (.int .i64 0) rfl)),(3,.call (PVerdict x2) pm1_3)] [(2,vi .i64 0),(3,.t (.c (.d (.raw (.string ByteArray.empty))))),(4,vi .i64 0),(5,.t (.c (.d (.sl 1 ((zav t).map za2))))),(6,vi .i64 (vdW x2).1),(7,vb (vdW x2).2)] [] h ?_;clear h;intro a w h
  obtain ⟨x4,hx4⟩:∃ z_:ByteArray,(zav t)[1]?=some z_:=⟨_,List.getElem?_eq_getElem (by first | omega | (simp at *;omega))⟩
  refine rq za0 0 [(1,.gen _ _ _ fun _ _ _ _=>Op.idxD (d:=24) (t:=23) (k:=.i64) zby (zas hx4 (f:=za2)) (OV.const (.int .i64 1) rfl)),(3,.call (SCutPrefix x4 (⟨#[119,104,121,58,32]⟩:ByteArray)) pm1_4)] [(2,vi .i64 0),(3,.t (.c (.d (.raw (.string ByteArray.empty))))),(4,vi .i64 0),(5,.t (.c (.d (.sl 1 ((zav t).map za2))))),(6,vi .i64 (vdW x2).1),(7,vb (vdW x2).2),(8,.t (.c (.d (.raw (.string (cutP x4 (⟨#[119,104,121,58,32]⟩:ByteArray))))))),(9,vb (pfx x4))] [] h ?_;clear h;intro a w h
  refine wp_seq (wp_block (wp_seq (rq za0 0 [] [(2,vi .i64 0),(3,.t (.c (.d (.raw (.string ByteArray.empty))))),(4,vi .i64 0),(5,.t (.c (.d (.sl 1 ((zav t).map za2))))),(6,vi .i64 (vdW x2).1),(8,.t (.c (.d (.raw (.string (cutP x4 (⟨#[119,104,121,58,32]⟩:ByteArray))))))),(9,vb (pfx x4)),(29,vb (!(vdW x2).2))] [] h ?_)));clear h;intro a w h
  refine zab (!(vdW x2).2) h rfl (fun hc=>?_) (fun hc=>?_)
  ·have hc3:=hc;clear hc
   have hc3':=hc3;(try simp at hc3')
   refine wp_skip (za5 ?_)
   refine zab (!(vdW x2).2) h rfl (fun hc=>?_) (fun hc=>?_)
   ·clear hc
    refine rq za0 0 [] [(2,vi .i64 0),(3,.t (.c (.d (.raw (.string ByteArray.empty))))),(4,vi .i64 20),(6,vi .i64 (vdW x2).1),(8,.t (.c (.d (.raw (.string (cutP x4 (⟨#[119,104,121,58,32]⟩:ByteArray)))))))] [] h ?_;clear h;intro a w h
    refine wp_ret (zax (zah ?_))
    refine zb3 [.c (cI 0),.c (.d (.raw (.string ByteArray.empty))),.c (cI 20)] h Exit.ret (.inl rfl)  rfl ⟨RV.tmp _ _ rfl,RV.tmp _ _ rfl,RV.tmp _ _ rfl,trivial⟩ ?_
    rw [zbf hx2 hx4,if_pos (show ((vdW x2).2)=false from by simpa using hc3)];first | done | rfl
   ·rw [hc3] at hc;cases hc
  ·have hc4:=hc;clear hc
   have hc4':=hc4;(try simp at hc4')
   rcases Bool.eq_false_or_eq_true ((vdW x2).1 != 4) with hc | hc
   ·have hc5:=hc;clear hc
    have hc5':=hc5;(try simp at hc5')
    refine rn za0 0 [(1,.cmp (op:=.neq) (m:=(vdW x2).1) (n:=4) (b:=true) .i64 hc5)] [(2,vi .i64 0),(3,.t (.c (.d (.raw (.string ByteArray.empty))))),(4,vi .i64 0),(5,.t (.c (.d (.sl 1 ((zav t).map za2))))),(6,vi .i64 (vdW x2).1),(8,.t (.c (.d (.raw (.string (cutP x4 (⟨#[119,104,121,58,32]⟩:ByteArray))))))),(29,vb (!(pfx x4)))] [] h ?_;clear h;intro a w h
    refine za5 ?_
    refine zab (!(pfx x4)) h rfl (fun hc=>?_) (fun hc=>?_)
    ·have hc6:=hc;clear hc
     have hc6':=hc6;(try simp at hc6')
     refine rq za0 0 [] [(2,vi .i64 0),(3,.t (.c (.d (.raw (.string ByteArray.empty))))),(4,vi .i64 20),(6,vi .i64 (vdW x2).1),(8,.t (.c (.d (.raw (.string (cutP x4 (⟨#[119,104,121,58,32]⟩:ByteArray)))))))] [] h ?_;clear h;intro a w h
     refine wp_ret (zax (zah ?_))
     refine zb3 [.c (cI 0),.c (.d (.raw (.string ByteArray.empty))),.c (cI 20)] h Exit.ret (.inl rfl)  rfl ⟨RV.tmp _ _ rfl,RV.tmp _ _ rfl,RV.tmp _ _ rfl,trivial⟩ ?_
     rw [zbf hx2 hx4,if_neg (by rw [(show ((vdW x2).2)=true from by simpa using hc4)];exact Bool.noConfusion),if_neg (by simpa using hc5),if_neg (by rw [(show (pfx x4)=false from by simpa using hc6)];exact Bool.noConfusion)];first | done | rfl
    ·have hc7:=hc;clear hc
     have hc7':=hc7;(try simp at hc7')
     refine rq za0 0 [(1,.cmp (op:=.eql) (m:=(vdW x2).1) (n:=4) (b:=false) .i64 (show ((vdW x2).1 == 4)=false from by simpa using hc5))] [(2,vi .i64 0),(3,.t (.c (.d (.raw (.string ByteArray.empty))))),(4,vi .i64 0),(5,.t (.c (.d (.sl 1 ((zav t).map za2))))),(6,vi .i64 (vdW x2).1),(8,.t (.c (.d (.raw (.string (cutP x4 (⟨#[119,104,121,58,32]⟩:ByteArray))))))),(38,vb false)] [] h ?_;clear h;intro a w h
     refine zab false h rfl (fun hc=>?_) (fun hc=>?_)
     ·cases hc
     ·clear hc
      refine wp_skip (zaj (za5 (rq za0 0 [] [(2,vi .i64 (vdW x2).1),(3,.t (.c (.d (.raw (.string (cutP x4 (⟨#[119,104,121,58,32]⟩:ByteArray))))))),(4,vi .i64 0)] [] h ?_)));clear h;intro a w h
      refine wp_ret ?_
      refine zb3 [.c (cI (vdW x2).1),.c (.d (.raw (.string (cutP x4 (⟨#[119,104,121,58,32]⟩:ByteArray))))),.c (cI 0)] h Exit.ret (.inl rfl)  rfl ⟨RV.tmp _ _ rfl,RV.tmp _ _ rfl,RV.tmp _ _ rfl,trivial⟩ ?_
      rw [zbf hx2 hx4,if_neg (by rw [(show ((vdW x2).2)=true from by simpa using hc4)];exact Bool.noConfusion),if_neg (by simpa using hc5),if_pos (show (pfx x4)=true from by simpa using hc7)];first | done | rfl
   ·have hc8:=hc;clear hc
    have hc8':=hc8;(try simp at hc8')
    refine rn za0 0 [(1,.cmp (op:=.neq) (m:=(vdW x2).1) (n:=4) (b:=false) .i64 hc8)] [(2,vi .i64 0),(3,.t (.c (.d (.raw (.string ByteArray.empty))))),(4,vi .i64 0),(5,.t (.c (.d (.sl 1 ((zav t).map za2))))),(6,vi .i64 (vdW x2).1),(8,.t (.c (.d (.raw (.string (cutP x4 (⟨#[119,104,121,58,32]⟩:ByteArray))))))),(29,vb false)] [] h ?_;clear h;intro a w h
    refine za5 ?_
    refine zab false h rfl (fun hc=>?_) (fun hc=>?_)
    ·cases hc
    ·clear hc
     refine rq za0 0 [(1,.cmp (op:=.eql) (m:=(vdW x2).1) (n:=4) (b:=true) .i64 (show ((vdW x2).1 == 4)=true from by simpa using hc8))] [(2,vi .i64 0),(3,.t (.c (.d (.raw (.string ByteArray.empty))))),(4,vi .i64 0),(5,.t (.c (.d (.sl 1 ((zav t).map za2))))),(6,vi .i64 (vdW x2).1),(8,.t (.c (.d (.raw (.string (cutP x4 (⟨#[119,104,121,58,32]⟩:ByteArray))))))),(38,vb true)] [] h ?_;clear h;intro a w h
     refine zab true h rfl (fun hc=>?_) (fun hc=>?_)
     ·clear hc
      refine rq za0 0 [(2,.gen _ _ _ fun _ _ _ _=>Op.idxD (d:=43) (t:=42) (k:=.i64) zby (zas hx4 (f:=za2)) (OV.const (.int .i64 1) rfl))] [(2,vi .i64 (vdW x2).1),(3,.t (.c (.d (.raw (.string x4))))),(4,vi .i64 0),(6,vi .i64 (vdW x2).1),(8,.t (.c (.d (.raw (.string (cutP x4 (⟨#[119,104,121,58,32]⟩:ByteArray)))))))] [] h ?_;clear h;intro a w h
      refine wp_ret (zax (zah ?_))
      refine zb3 [.c (cI (vdW x2).1),.c (.d (.raw (.string x4))),.c (cI 0)] h Exit.ret (.inl rfl)  rfl ⟨RV.tmp _ _ rfl,RV.tmp _ _ rfl,RV.tmp _ _ rfl,trivial⟩ ?_
      have e4:(vdW x2).1=4:=by simpa using hc8
      rw [zbf hx2 hx4,if_neg (by rw [(show ((vdW x2).2)=true from by simpa using hc4)];exact Bool.noConfusion),if_pos e4,e4];first | done | rfl
     ·cases hc
abbrev q23:V:=.t (.c (.d (.raw (.string ByteArray.empty))))
abbrev q24 (t:ByteArray):V:=.t (.c (.d (.sl 1 ((zav t).map za2))))
set_option maxHeartbeats 4000000 in
theorem RRead (t:ByteArray) (ht:t.size≤4294967296):Fn Tryd.prog 13 [] [.t (.c (.d (.raw (.string t))))] (.tup [.c (cI (rdW t).1),.c (.d (.raw (.string (rdW t).2.1))),.c (cI (rdW t).2.2)]) []:=by
 refine Fn.body Tryd.func13 rfl 45 rfl fun w H B a h=>?_
 refine rq za0 0 [] [(0,.t (.c (.d (.raw (.string t))))),(2,vi .i64 0),(3,q23),(4,vi .i64 0)] [] h ?_;clear h;intro a w h
 refine rq za0 0 [(1,.call (RLines t (by omega)) pm1_5)] [(2,vi .i64 0),(3,q23),(4,vi .i64 0),(5,q24 t)] [] h ?_;clear h;intro a w h
 refine wp_seq (rq za0 0 [(1,.len (c:=(.d (.sl 1 ((zav t).map za2)))) (n:=(zav t).length) (zag _ _ _))] [(2,vi .i64 0),(3,q23),(4,vi .i64 0),(5,q24 t),(11,vb (decide (((zav t).length:Int)<2)))] [] h ?_);clear h;intro a w h
 refine zab (decide (((zav t).length:Int)<2)) h rfl (fun hc=>?_) (fun hc=>?_)
 ·have hc1:=hc;clear hc
  have hc1':=of_decide_eq_true hc1
  refine rq za0 0 [] [(2,vi .i64 0),(3,q23),(4,vi .i64 20),(5,q24 t)] [] h ?_;clear h;intro a w h
  refine wp_ret (zah ?_)
  refine zb3 [.c (cI 0),.c (.d (.raw (.string ByteArray.empty))),.c (cI 20)] h Exit.ret (.inl rfl)  rfl ⟨RV.tmp _ _ rfl,RV.tmp _ _ rfl,RV.tmp _ _ rfl,trivial⟩ ?_
  rw [rdW_short (by have:=of_decide_eq_true hc1;omega)];first | done | rfl
 ·have hc2:=hc;clear hc
  have hc2':=of_decide_eq_false hc2
  refine wp_skip (za5 (wp_seq (rq za0 0 [] [(2,vi .i64 0),(3,q23),(4,vi .i64 0),(5,q24 t),(6,vi .i64 1)] [] h ?_)));clear h;intro a w h
  refine wp_block ?_
  replace h:=h.conv (f':=F.of [(2,vi .i64 0),(3,q23),(4,vi .i64 0),(5,q24 t),(6,vi .i64 (((0:Nat):Int)+1))] []) (by kernel_rfl)
  obtain ⟨a0,h0⟩:∃ z_,(zav t)[0]?=some z_:=⟨_,List.getElem?_eq_getElem (by have:=of_decide_eq_false hc2;omega)⟩
  obtain ⟨b0,h1⟩:∃ z_,(zav t)[1]?=some z_:=⟨_,List.getElem?_eq_getElem (by have:=of_decide_eq_false hc2;omega)⟩
  refine zci (ι:=(Nat)) (fun (z_:(Nat))=>match z_ with | j=>j≤4∧∀ i:Nat,i<j→eqB (za9 ((i:Int)+1)) a0=true→i≠3∧pfx b0=false)
    (fun (z_:(Nat))=>match z_ with | j=>[(5,q24 t),(6,vi .i64 ((j:Int)+1))])
    (fun (z_:(Nat))=>match z_ with | j=>[])
    (fun (z_:(Nat))=>match z_ with | j=>4 - j) 0 ?_ h (by kernel_rfl) (by kernel_rfl) ?_
  ·exact ⟨Nat.zero_le _,fun i hi=>absurd hi (Nat.not_lt_zero _)⟩
  ·clear h;rintro j a w hI h
   change St _ (F.of [(5,q24 t),(6,vi .i64 ((j:Int)+1))] []) a w at h
   obtain ⟨hI1,hI2⟩:=hI
   refine wp_seq (rq za0 0 [] [(5,q24 t),(6,vi .i64 ((j:Int)+1)),(13,vb (decide (((j:Int)+1)≤4)))] [] h ?_);clear h;intro a w h
   refine zab (decide (((j:Int)+1)≤4)) h rfl (fun hc=>?_) (fun hc=>?_)
   ·have hc3:=hc;clear hc
    have hc3':=of_decide_eq_true hc3
    refine wp_skip (za5 (wp_seq (wp_block (wp_seq (rq za0 0 [(1,.call (RName ((j:Int)+1)) pm1_6),(3,.gen _ _ _ fun _ _ _ _=>Op.idxD (d:=19) (t:=18) (k:=.i64) zby (zas h0 (f:=za2)) (OV.const (.int .i64 0) rfl)),(5,.gen _ _ _ fun _ _ _ _=>Op.strNe (d:=21) (xt:=9) (yt:=9) (s1:=(za9 ((j:Int)+1))) (s2:=a0) (r:=(!(eqB (za9 ((j:Int)+1)) a0))) (OV.tmp 17 _) (OV.tmp 20 _) (Bool.not_not _).symm)] [(5,q24 t),(6,vi .i64 ((j:Int)+1)),(21,vb (!(eqB (za9 ((j:Int)+1)) a0)))] [] h ?_)))));clear h;intro a w h
    refine zab (!(eqB (za9 ((j:Int)+1)) a0)) h rfl (fun hc=>?_) (fun hc=>?_)
    ·have hc4:=hc;clear hc
     have hc4':=hc4;(try simp at hc4')
     refine wp_exit (zao (zac (za5 (rn za0 0 [(1,.add .i64 (m:=((j:Int)+1)) (n:=1) (zap (by omega) (by omega)))] [(5,q24 t),(6,vi .i64 (((j:Int)+1)+1))] [] h ?_))));clear h;intro a w h
     refine za5 ?_
     replace h:=h.conv (f':=F.of [(5,q24 t),(6,vi .i64 (((j+1:Nat):Int)+1))] []) (by rw [show (((j:Int)+1)+1:Int)=(((j+1:Nat):Int)+1) from (by omega)])
     refine zaz (x:=j) (y:=j+1) h ?_ ?_
     ·have hj4:=of_decide_eq_true hc3
      refine ⟨by omega,fun i hi=>?_⟩
      rcases Nat.lt_or_ge i j with h8 | h8
      ·exact hI2 i h8
      ·rw [show i=j by omega]
       intro hx;rw [(show (eqB (za9 ((j:Int)+1)) a0)=false from by simpa using hc4)] at hx;cases hx
     ·show 4 - (j+1)<4 - j
      have:=of_decide_eq_true hc3;omega
    ·have hc5:=hc;clear hc
     have hc5':=hc5;(try simp at hc5')
     refine wp_skip (za5 (wp_seq (rq za0 0 [] [(5,q24 t),(6,vi .i64 ((j:Int)+1)),(23,vb (((j:Int)+1) == 4))] [] h ?_)));clear h;intro a w h
     refine zab (((j:Int)+1) == 4) h rfl (fun hc=>?_) (fun hc=>?_)
     ·have hc6:=hc;clear hc
      have hc6':=hc6;(try simp at hc6')
      refine rq za0 0 [(2,.gen _ _ _ fun _ _ _ _=>Op.idxD (d:=26) (t:=25) (k:=.i64) zby (zas h1 (f:=za2)) (OV.const (.int .i64 1) rfl))] [(2,vi .i64 ((j:Int)+1)),(3,.t (.c (.d (.raw (.string b0))))),(4,vi .i64 0),(5,q24 t),(6,vi .i64 ((j:Int)+1))] [] h ?_;clear h;intro a w h
      refine wp_ret (zah (zax (zah (zah (zax (zah ?_))))))
      refine zb3 [.c (cI ((j:Int)+1)),.c (.d (.raw (.string b0))),.c (cI 0)] h Exit.ret (.inl rfl)  rfl ⟨RV.tmp _ _ rfl,RV.tmp _ _ rfl,RV.tmp _ _ rfl,trivial⟩ ?_
      rw [rd_4 h0 h1 (by have:=of_decide_eq_true hc3;omega) (show (eqB (za9 ((j:Int)+1)) a0)=true from by simpa using hc5) (by simpa using hc6)];first | done | rfl
     ·have hc7:=hc;clear hc
      have hc7':=hc7;(try simp at hc7')
      refine wp_skip (za5 ?_)
      rcases Bool.eq_false_or_eq_true (decide ((b0.size:Int)≥5)) with hc | hc
      ·have hc8:=hc;clear hc
       have hc8':=of_decide_eq_true hc8
       refine rq za0 0 [(1,.gen _ _ _ fun _ _ _ _=>Op.idxD (d:=29) (t:=28) (k:=.i64) zby (zas h1 (f:=za2)) (OV.const (.int .i64 1) rfl)),(4,.cmp (op:=.geq) (m:=(b0.size:Int)) (n:=5) (b:=true) .i64 hc8),(7,.gen _ _ _ fun _ _ _ _=>Op.idxD (d:=35) (t:=34) (k:=.i64) zby (zas h1 (f:=za2)) (OV.const (.int .i64 1) rfl)),(9,.gen _ _ _ fun _ _ _ _=>Op.strSl (d:=37) (xt:=9) (l:=0) (h:=5) (s:=b0) (r:=(b0.extract 0 5)) Tryd.underlying9 (OV.tmp 36 _) (BO.no _) (BO.yes (k:=.i64) (i:=5) _ (OV.const (.int .i64 5) rfl)) (by omega) (by omega) rfl),(10,.gen _ _ _ fun _ _ _ _=>Op.strEq (d:=38) (xt:=9) (yt:=9) (s1:=(b0.extract 0 5)) (s2:=(⟨#[119,104,121,58,32]⟩:ByteArray)) (r:=((b0.extract 0 5).toList == (⟨#[119,104,121,58,32]⟩:ByteArray).toList)) (OV.tmp 37 _) (OV.const (.string (⟨#[119,104,121,58,32]⟩:ByteArray)) rfl) rfl)] [(5,q24 t),(6,vi .i64 ((j:Int)+1)),(39,vb ((b0.extract 0 5).toList == (⟨#[119,104,121,58,32]⟩:ByteArray).toList))] [] h ?_;clear h;intro a w h
       refine zab ((b0.extract 0 5).toList == (⟨#[119,104,121,58,32]⟩:ByteArray).toList) h rfl (fun hc=>?_) (fun hc=>?_)
       ·have hc9:=hc;clear hc
        have hc9':=hc9;(try simp at hc9')
        refine rq za0 0 [(2,.gen _ _ _ fun _ _ _ _=>Op.idxD (d:=42) (t:=41) (k:=.i64) zby (zas h1 (f:=za2)) (OV.const (.int .i64 1) rfl)),(4,.gen _ _ _ fun _ _ _ _=>Op.strSl (d:=44) (xt:=9) (l:=5) (h:=b0.size) (s:=b0) (r:=(cutP b0 (⟨#[119,104,121,58,32]⟩:ByteArray))) Tryd.underlying9 (OV.tmp 43 _) (BO.yes (k:=.i64) (i:=5) _ (OV.const (.int .i64 5) rfl)) (BO.no _) (by omega) (by omega) (pfx_yes (by have:=of_decide_eq_true hc8;omega) hc9).2)] [(2,vi .i64 ((j:Int)+1)),(3,.t (.c (.d (.raw (.string (cutP b0 (⟨#[119,104,121,58,32]⟩:ByteArray))))))),(4,vi .i64 0),(5,q24 t),(6,vi .i64 ((j:Int)+1))] [] h ?_;clear h;intro a w h
        refine wp_ret (zax (zah (zah (zax (zah ?_)))))
        refine zb3 [.c (cI ((j:Int)+1)),.c (.d (.raw (.string (cutP b0 (⟨#[119,104,121,58,32]⟩:ByteArray))))),.c (cI 0)] h Exit.ret (.inl rfl)  rfl ⟨RV.tmp _ _ rfl,RV.tmp _ _ rfl,RV.tmp _ _ rfl,trivial⟩ ?_
        rw [rd_v h0 h1 (by have:=of_decide_eq_true hc3;omega) (show (eqB (za9 ((j:Int)+1)) a0)=true from by simpa using hc5) (by simpa using hc7) (pfx_yes (by have:=of_decide_eq_true hc8;omega) hc9).1];first | done | rfl
       ·have hc10:=hc;clear hc
        have hc10':=hc10;(try simp at hc10')
        refine wp_skip (zaj (za5 (rn za0 0 [(1,.add .i64 (m:=((j:Int)+1)) (n:=1) (zap (by omega) (by omega)))] [(5,q24 t),(6,vi .i64 (((j:Int)+1)+1))] [] h ?_)));clear h;intro a w h
        refine za5 ?_
        replace h:=h.conv (f':=F.of [(5,q24 t),(6,vi .i64 (((j+1:Nat):Int)+1))] []) (by rw [show (((j:Int)+1)+1:Int)=(((j+1:Nat):Int)+1) from (by omega)])
        refine zaz (x:=j) (y:=j+1) h ?_ ?_
        ·have hj4:=of_decide_eq_true hc3
         refine ⟨by omega,fun i hi=>?_⟩
         rcases Nat.lt_or_ge i j with h8 | h8
         ·exact hI2 i h8
         ·rw [show i=j by omega]
          intro _
          refine ⟨by have:=hc7;intro e;subst e;revert this;decide,(pfx_no (by have:=of_decide_eq_true hc8;omega) hc10)⟩
        ·show 4 - (j+1)<4 - j
         have:=of_decide_eq_true hc3;omega
      ·have hc11:=hc;clear hc
       have hc11':=of_decide_eq_false hc11
       refine rq za0 0 [(1,.gen _ _ _ fun _ _ _ _=>Op.idxD (d:=29) (t:=28) (k:=.i64) zby (zas h1 (f:=za2)) (OV.const (.int .i64 1) rfl)),(4,.cmp (op:=.geq) (m:=(b0.size:Int)) (n:=5) (b:=false) .i64 hc11)] [(5,q24 t),(6,vi .i64 ((j:Int)+1)),(39,vb false)] [] h ?_;clear h;intro a w h
       refine zab false h rfl (fun hc=>?_) (fun hc=>?_)
       ·cases hc
       ·clear hc
        refine wp_skip (zaj (za5 (rn za0 0 [(1,.add .i64 (m:=((j:Int)+1)) (n:=1) (zap (by omega) (by omega)))] [(5,q24 t),(6,vi .i64 (((j:Int)+1)+1))] [] h ?_)));clear h;intro a w h
        refine za5 ?_
        replace h:=h.conv (f':=F.of [(5,q24 t),(6,vi .i64 (((j+1:Nat):Int)+1))] []) (by rw [show (((j:Int)+1)+1:Int)=(((j+1:Nat):Int)+1) from (by omega)])
        refine zaz (x:=j) (y:=j+1) h ?_ ?_
        ·have hj4:=of_decide_eq_true hc3
         refine ⟨by omega,fun i hi=>?_⟩
         rcases Nat.lt_or_ge i j with h8 | h8
         ·exact hI2 i h8
         ·rw [show i=j by omega]
          intro _
          refine ⟨by have:=hc7;intro e;subst e;revert this;decide,(pfx_short (by have:=of_decide_eq_false hc11;omega))⟩
        ·show 4 - (j+1)<4 - j
         have:=of_decide_eq_true hc3;omega
   ·have hc12:=hc;clear hc
    have hc12':=of_decide_eq_false hc12
    refine wp_exit (zao (zao (zac (za5 (rq za0 0 [] [(2,vi .i64 0),(3,q23),(4,vi .i64 20)] [] h ?_)))));clear h;intro a w h
    refine wp_ret ?_
    refine zb3 [.c (cI 0),.c (.d (.raw (.string ByteArray.empty))),.c (cI 20)] h Exit.ret (.inl rfl)  rfl ⟨RV.tmp _ _ rfl,RV.tmp _ _ rfl,RV.tmp _ _ rfl,trivial⟩ ?_
    rw [rd_none h0 h1 fun i hi=>hI2 i (by have:=of_decide_eq_false hc12;omega)];first | done | rfl
mutual
/-- y is x, with nil read as an empty slice here and there -/
inductive Wk:D→D→Prop
  | refl (x:D):Wk x x
  | nil (es:Nat):Wk (.raw za4) (.sl es [])
  | sl (es:Nat) (a b:List (List D)) (h:WkR a b):Wk (.sl es a) (.sl es b)
inductive WkL:List D→List D→Prop
  | nil:WkL [] []
  | cons (x y:D) (xs ys:List D) (h:Wk x y) (hs:WkL xs ys):WkL (x :: xs) (y :: ys)
inductive WkR:List (List D)→List (List D)→Prop
  | nil:WkR [] []
  | cons (x y:List D) (xs ys:List (List D)) (h:WkL x y) (hs:WkR xs ys):WkR (x :: xs) (y :: ys)
end
def WkM (x y:D):Prop:=∀ (H:Im) (v:Value),DR H x v→DR H y v
def WkLM (xs ys:List D):Prop:=xs.length=ys.length∧∀ j (h:j<xs.length) (h':j<ys.length),WkM xs[j] ys[j]
def WkRM (xs ys:List (List D)):Prop:=xs.length=ys.length∧∀ i (h:i<xs.length) (h':i<ys.length),WkLM xs[i] ys[i]
theorem Wk.sound {x y:D} (h:Wk x y):WkM x y:=by
 refine Wk.rec (motive_1:=fun x y _=>WkM x y) (motive_2:=fun x y _=>WkLM x y) (motive_3:=fun x y _=>WkRM x y) ?_ ?_ ?_ ?_ ?_ ?_ ?_ h
 ·intro x H v h;exact h
 ·intro es H v h
  cases h with
  | raw v h=>exact DR.nil _ _ _ (fun _=>rfl) (Nat.zero_le _)
 ·intro es a b _ ih H v h
  cases h with
  | nil es ao c h hc =>
   have:b=[]:=List.length_eq_zero_iff.1 ih.1.symm
   subst this
   exact DR.nil _ _ _ h hc
  | sl es rows bb o c arr ty fz vs hp hb hl hc hes hv hr =>
   rw [ih.1] at hp hl ⊢
   refine DR.sl es b bb o c arr ty fz vs hp hb hl hc (fun i hi=>?_) (fun i hi=>?_) (fun i hi j hj=>?_)
   ·have h0:i<a.length:=by rw [ih.1];exact hi
    rw [← (ih.2 i h0 hi).1];exact hes i h0
   ·exact hv i (by rw [ih.1];exact hi)
   ·have h0:i<a.length:=by rw [ih.1];exact hi
    have hj0:j<a[i].length:=by rw [(ih.2 i h0 hi).1];exact hj
    exact (ih.2 i h0 hi).2 j hj0 hj _ _ (hr i h0 j hj0)
 ·exact ⟨rfl,fun j h=>absurd h (Nat.not_lt_zero j)⟩
 ·intro x y xs ys _ _ h hs
  refine ⟨by simp [hs.1],fun j hj hj'=>?_⟩
  cases j with
  | zero=>exact h
  | succ j=>exact hs.2 j (by simpa using hj) (by simpa using hj')
 ·exact ⟨rfl,fun j h=>absurd h (Nat.not_lt_zero j)⟩
 ·intro x y xs ys _ _ h hs
  refine ⟨by simp [hs.1],fun j hj hj'=>?_⟩
  cases j with
  | zero=>exact h
  | succ j=>exact hs.2 j (by simpa using hj) (by simpa using hj')
inductive WkC:List C→List C→Prop
  | nil:WkC [] []
  | same (x:C) (xs ys:List C) (hs:WkC xs ys):WkC (x :: xs) (x :: ys)
  | d (x y:D) (xs ys:List C) (h:Wk x y) (hs:WkC xs ys):WkC (.d x :: xs) (.d y :: ys)
theorem WkC.sound {H:Im} {B:Bl} {xs ys:List C} (h:WkC xs ys):∀ {vs:List Value}, zad (CR H B) xs vs→zad (CR H B) ys vs:=by
 induction h with
 | nil=>exact fun h=>h
 | same x xs ys _ ih =>
  intro vs k
  cases vs with
  | nil=>exact k.elim
  | cons v vs=>exact ⟨k.1,ih k.2⟩
 | d x y xs ys h _ ih =>
  intro vs k
  cases vs with
  | nil=>exact k.elim
  | cons v vs=>exact ⟨h.sound H v k.1,ih k.2⟩
inductive WkV:V→V→Prop
  | refl (x:V):WkV x x
  | c (x y:D) (h:Wk x y):WkV (.t (.c (.d x))) (.t (.c (.d y)))
  | agg (xs ys:List C) (h:WkC xs ys):WkV (.t (.agg xs)) (.t (.agg ys))
theorem WkV.sound {H:Im} {B:Bl} {x y:V} (h:WkV x y) {v:Value} (k:VR H B x v):VR H B y v:=by
 cases h with
 | refl=>exact k
 | c x y h=>exact h.sound H v k
 | agg xs ys h=>obtain ⟨vs,e,k⟩:=k;exact ⟨vs,e,h.sound k⟩
inductive WkA:List V→List V→Prop
  | nil:WkA [] []
  | cons (x y:V) (xs ys:List V) (h:WkV x y) (hs:WkA xs ys):WkA (x :: xs) (y :: ys)
theorem WkA.sound {H:Im} {B:Bl} {xs ys:List V} (h:WkA xs ys):∀ {vs:List Value}, zad (VR H B) xs vs→zad (VR H B) ys vs:=by
 induction h with
 | nil=>exact fun h=>h
 | cons x y xs ys h _ ih =>
  intro vs k
  cases vs with
  | nil=>exact k.elim
  | cons v vs=>exact ⟨h.sound k.1,ih k.2⟩
theorem Fn.argw {P:Program} {k:FuncId} {ps qs:List (Nat × L)} {args args':List V} {res:V} (h:Fn P k ps args' res qs) (hw:WkA args args'):Fn P k ps args res qs :=
 fun w H B vals pre=>h w H B vals ⟨pre.sat,pre.loc,pre.priv,pre.inj,hw.sound pre.arg,pre.tab⟩
theorem kw_4:ElZ Tryd.prog 36 65 3:=ElZ.mk' Tryd.underlying36 _ _ rfl rfl (by kernel_rfl) (by kernel_rfl) (by kernel_rfl) (by decide)
theorem kx_3:ElZ Tryd.prog 40 68 2:=ElZ.mk' Tryd.underlying40 _ _ rfl rfl (by kernel_rfl) (by kernel_rfl) (by kernel_rfl) (by decide)
theorem pn1_5:za8 Tryd.prog 8:=za8.mk' (by kernel_rfl)
theorem pn1_6:za8 Tryd.prog 12:=za8.mk' (by kernel_rfl)
theorem pn1_7:za8 Tryd.prog 10:=za8.mk' (by kernel_rfl)
theorem pn1_12:za8 Tryd.prog 6:=za8.mk' (by kernel_rfl)
theorem pn1_16:za8 Tryd.prog 13:=za8.mk' (by kernel_rfl)
theorem pn1_18:za8 Tryd.prog 14:=za8.mk' (by kernel_rfl)
def sysA:zaw:=⟨[⟨#[120]⟩],[],form0,[⟨⟨#[112]⟩,[⟨#[97]⟩],.raw za4⟩],[]⟩
def runA:RunD:=⟨[],[⟨[0],[⟨false,[]⟩]⟩],[-1]⟩
theorem mem1A {α:Type} {x y:α} (h:x ∈ [y]):x=y:=by simpa using h
theorem sysA_tx:TxOk sysA:=⟨fun v hv=>by rw [mem1A hv];decide,fun p hp=>by rw [mem1A hp];decide,fun p hp t ht=>by rw [mem1A hp] at ht;rw [mem1A ht];decide⟩
theorem runA_ok:RnOk runA:=⟨fun x hx=>(by cases hx),fun x hx=>(by rw [mem1A hx];exact ⟨by decide,by decide,fun z hz=>by rw [mem1A hz];exact ⟨Lb_nil,by decide⟩⟩),by decide,by decide⟩
theorem itW_dig {u:Nat} (h:u<10):itW (u:Int)=⟨#[UInt8.ofNat (48+u)]⟩:=by
 unfold itW Lib.itoa;rw [if_neg (by omega),Int.toNat_natCast,zcc h]
theorem itW_101:itW 101=⟨#[49,48,49]⟩:=by
 unfold itW Lib.itoa;rw [if_neg (by decide),show (101:Int).toNat=101 from rfl,decD_more (by decide),decD_more (u:=101 / 10) (by decide),zcc (u:=101 / 10 / 10) (by decide)];rfl
theorem aState:stW sysA ⟨[0],[⟨false,[]⟩]⟩=⟨#[112,64,97,32,120,61,48]⟩:=by
 have h:vaN sysA ⟨[0],[⟨false,[]⟩]⟩ 1=[⟨#[120,61,48]⟩]:=by
  show [vaW sysA 0 ⟨false,[]⟩]=_
  unfold vaW
  rw [show itW (ZI.val ⟨false,[]⟩)=⟨#[48]⟩ from itW_dig (u:=0) (by decide)]
  rfl
 show joinB (plN sysA ⟨[0],[⟨false,[]⟩]⟩ 1++vaN sysA ⟨[0],[⟨false,[]⟩]⟩ 1) ⟨#[32]⟩=_
 rw [h]
 rfl
theorem aText:txtW sysA 2 ⟨#[97,108,108,32,115,116,97,116,101,115]⟩ runA=[86,73,79,76,65,84,69,68,10,119,104,121,58,32,97,108,108,32,115,116,97,116,101,115,10,115,116,101,109,58,10,99,121,99,108,101,58,10,32,32,112,64,97,32,120,61,48,32,47,32,115,116,117,116,116,101,114,10]:=by
 unfold txtW
 rw [if_pos rfl]
 have h:zay sysA runA.acts runA.stem.length runA.cycle runA.cycle.length=[32,32,112,64,97,32,120,61,48,32,47,32,115,116,117,116,116,101,114,10]:=by
  show stLn sysA [-1] 0 ⟨[0],[⟨false,[]⟩]⟩++[]=_
  rw [List.append_nil]
  unfold stLn
  rw [aState]
  rfl
 unfold runW
 rw [h]
 rfl
theorem aWrong:zbl ⟨#[109,111,100,101,108]⟩ 1 2 101=[69,82,82,79,82,10,109,111,100,101,108,32,49,58,50,32,49,48,49,10]:=by
 unfold zbl wrongL
 rw [show itW 1=⟨#[49]⟩ from itW_dig (u:=1) (by decide),show itW 2=⟨#[50]⟩ from itW_dig (u:=2) (by decide),itW_101]
 rfl
theorem aRead:rdW ⟨#[86,73,79,76,65,84,69,68,10,119,104,121,58,32,97,108,108,32,115,116,97,116,101,115,10,115,116,101,109,58,10,99,121,99,108,101,58,10,32,32,112,64,97,32,120,61,48,32,47,32,115,116,117,116,116,101,114,10]⟩=(2,⟨#[97,108,108,32,115,116,97,116,101,115]⟩,0):=by
 rw [zbf (a:=za9 2) (b:=⟨#[119,104,121,58,32,97,108,108,32,115,116,97,116,101,115]⟩) (by kernel_rfl) (by kernel_rfl),show vdW (za9 2)=(2,true) from vdW_hit (j:=1) (by decide) (zc0 _),if_neg (by simp),if_neg (by decide),if_pos (by decide)]
 rfl
theorem aRead0:rdW ⟨#[77,65,89,66,69,10,119,104,121,58,32,10]⟩=(0,ByteArray.empty,20):=by
 rw [zbf (a:=⟨#[77,65,89,66,69]⟩) (b:=⟨#[119,104,121,58,32]⟩) (by kernel_rfl) (by kernel_rfl),vdW_miss (fun i hi=>by rw [eqB_data];match i,hi with | 0,_=>rfl | 1,_=>rfl | 2,_=>rfl | 3,_=>rfl),if_pos rfl]
theorem aLines:(zav ⟨#[97,10,10,98]⟩).length=3:=by kernel_rfl
theorem wkA:WkA [.t (.agg [.d (.sl 1 ([(⟨#[120]⟩:ByteArray)].map za2)),.d (.raw za4),.d (.raw (.int .i64 0)),.d (.raw za4),.d (.raw (.bool false)),.d (nsl []),.d (.raw (.bool false)),.d (.raw za4),.d (.sl 3 ([(za3.mk (⟨#[112]⟩:ByteArray) [(⟨#[97]⟩:ByteArray)] (.raw za4))].map za3.d)),.d (.raw za4)]),.t (.agg [.d (.raw (.int .i64 2)),.d (.raw (.string (⟨#[97,108,108,32,115,116,97,116,101,115]⟩:ByteArray))),.d (.raw za4),.d (.sl 2 ([(StD.mk [0] [(ZI.mk false [])])].map StD.d)),.d (.sl 1 ([(-1)].map intD)),.d (.raw (.int .i64 0)),.d (.raw (.int .i64 0))])] [.t (.agg [.d (.sl 1 (sysA.vars.map za2)),.d (.sl 5 (sysA.bounds.map za1.d)),.d (.raw (.int .i64 sysA.init.kind)),.d (.sl 3 (sysA.init.r.t.parts.map Part.d)),.d (.raw (.bool sysA.init.r.t.k.neg)),.d (nsl sysA.init.r.t.k.abs),.d (.raw (.bool sysA.init.r.eq)),.d (.sl 6 (sysA.init.kids.map zau.d)),.d (.sl 3 (sysA.procs.map za3.d)),.d (.sl 10 (sysA.acts.map za7.d))]),.t (.agg [.d (.raw (.int .i64 2)),.d (.raw (.string (⟨#[97,108,108,32,115,116,97,116,101,115]⟩:ByteArray))),.d (.sl 2 (runA.stem.map StD.d)),.d (.sl 2 (runA.cycle.map StD.d)),.d (.sl 1 (runA.acts.map intD)),.d (.raw (.int .i64 0)),.d (.raw (.int .i64 0))])]:=by
 refine .cons _ _ _ _ (WkV.agg _ _ ?_) (.cons _ _ _ _ (WkV.agg _ _ ?_) .nil)
 all_goals repeat (first | exact WkC.nil | refine WkC.same _ _ _ ?_ | refine WkC.d _ _ _ _ (Wk.nil _) ?_ | refine WkC.d _ _ _ _ (Wk.sl _ _ _ (.cons _ _ _ _ (by repeat (first | exact WkL.nil | refine WkL.cons _ _ _ _ (by first | exact Wk.refl _ | exact Wk.nil _) ?_)) .nil)) ?_)
set_option maxHeartbeats 4000000 in
theorem LAlive26 :Fn Tryd.prog 6 [] [] (vb true) []:=by
 refine Fn.body Tryd.func6 rfl 65 rfl fun w H B a h=>?_
 refine rq za0 30 [] [(0,vb false)] [] h ?_;clear h;intro a w h
 refine rq za0 30 [(0,.gen _ _ _ fun _ _ _ _=>Op.buildD (d:=10) (len:=1) (rows:=[(⟨#[120]⟩:ByteArray)].map za2) (rs:=[]) zbs (.cons (i:=0) (OV.const (.string (⟨#[120]⟩:ByteArray)) rfl) (.nil)) (by kernel_rfl) rfl (by simp [za2]) (by decide) (by decide)),(1,.gen _ _ _ fun _ _ _ _=>Op.buildD (d:=11) (len:=1) (rows:=[(⟨#[97]⟩:ByteArray)].map za2) (rs:=[]) zbs (.cons (i:=0) (OV.const (.string (⟨#[97]⟩:ByteArray)) rfl) (.nil)) (by kernel_rfl) rfl (by simp [za2]) (by decide) (by decide)),(3,.gen _ _ _ fun _ _ _ _=>Op.buildD (d:=13) (len:=1) (rows:=[(za3.mk (⟨#[112]⟩:ByteArray) [(⟨#[97]⟩:ByteArray)] (.raw za4))].map za3.d) (rs:=[(12,.t (.agg [.d (.raw (.string (⟨#[112]⟩:ByteArray))),.d (.sl 1 ([(⟨#[97]⟩:ByteArray)].map za2)),.d (.raw za4)]))]) kw_4 (.cons (i:=0) (OV.tmp 12 _) (.nil)) (by kernel_rfl) rfl (by simp [za3.d]) (by decide) (by decide))] [(0,vb false),(1,vp 30 0)] [(30,.box [.d (.sl 1 ([(⟨#[120]⟩:ByteArray)].map za2)),.d (.raw za4),cI 0,.d (.raw za4),cB false,.d (nsl []),cB false,.d (.raw za4),.d (.sl 3 ([(za3.mk (⟨#[112]⟩:ByteArray) [(⟨#[97]⟩:ByteArray)] (.raw za4))].map za3.d)),.d (.raw za4)])] h ?_;clear h;intro a w h
 refine rq za0 31 [(0,.gen _ _ _ fun _ _ _ _=>Op.buildD (d:=15) (len:=1) (rows:=[0].map intD) (rs:=[]) tb_0 (.cons (i:=0) (OV.const (.int .i64 0) rfl) (.nil)) (by kernel_rfl) rfl (by simp [intD]) (by decide) (by decide)),(2,.gen _ _ _ fun _ _ _ _=>Op.buildD (d:=17) (len:=1) (rows:=[(ZI.mk false [])].map ziD) (rs:=[(16,.t (.agg [cB false,.d (nsl [])]))]) kk_3 (.cons (i:=0) (OV.tmp 16 _) (.nil)) (by kernel_rfl) rfl (by simp [ziD]) (by decide) (by decide)),(4,.gen _ _ _ fun _ _ _ _=>Op.buildD (d:=19) (len:=1) (rows:=[(StD.mk [0] [(ZI.mk false [])])].map StD.d) (rs:=[(18,.t (.agg [cIs [0],cZs [(ZI.mk false [])]]))]) kx_3 (.cons (i:=0) (OV.tmp 18 _) (.nil)) (by kernel_rfl) rfl (by simp [StD.d]) (by decide) (by decide)),(5,.gen _ _ _ fun _ _ _ _=>Op.buildD (d:=20) (len:=1) (rows:=[(-1)].map intD) (rs:=[]) tb_0 (.cons (i:=0) (OV.const (.int .i64 (-1)) rfl) (.nil)) (by kernel_rfl) rfl (by simp [intD]) (by decide) (by decide))] [(0,vb false),(1,vp 30 0),(2,vp 31 0)] [(30,.box [.d (.sl 1 ([(⟨#[120]⟩:ByteArray)].map za2)),.d (.raw za4),cI 0,.d (.raw za4),cB false,.d (nsl []),cB false,.d (.raw za4),.d (.sl 3 ([(za3.mk (⟨#[112]⟩:ByteArray) [(⟨#[97]⟩:ByteArray)] (.raw za4))].map za3.d)),.d (.raw za4)]),(31,.box [.d (.raw za4),.d (.sl 2 ([(StD.mk [0] [(ZI.mk false [])])].map StD.d)),cIs [(-1)]])] h ?_;clear h;intro a w h
 refine rq za0 32 [(3,.call (Fn.cast (Fn.argw (PText sysA 2 (⟨#[97,108,108,32,115,116,97,116,101,115]⟩:ByteArray) runA 0 0 sysA_tx (by decide) runA_ok (by decide)) wkA) (congrArg (fun z:List UInt8=>vs ⟨z.toArray⟩) aText)) pn1_5)] [(0,vb false),(3,.t (.c (.d (.raw (.string (⟨#[86,73,79,76,65,84,69,68,10,119,104,121,58,32,97,108,108,32,115,116,97,116,101,115,10,115,116,101,109,58,10,99,121,99,108,101,58,10,32,32,112,64,97,32,120,61,48,32,47,32,115,116,117,116,116,101,114,10]⟩:ByteArray))))))] [] h ?_;clear h;intro a w h
 refine rq za0 32 [(1,.call (Fn.cast (PRead (⟨#[86,73,79,76,65,84,69,68,10,119,104,121,58,32,97,108,108,32,115,116,97,116,101,115,10,115,116,101,109,58,10,99,121,99,108,101,58,10,32,32,112,64,97,32,120,61,48,32,47,32,115,116,117,116,116,101,114,10]⟩:ByteArray) (by decide)) (congrArg (fun z:Int × ByteArray × Int=>V.tup [.c (cI z.1),.c (.d (.raw (.string z.2.1))),.c (cI z.2.2)]) aRead)) pn1_6)] [(0,vb false),(3,.t (.c (.d (.raw (.string (⟨#[86,73,79,76,65,84,69,68,10,119,104,121,58,32,97,108,108,32,115,116,97,116,101,115,10,115,116,101,109,58,10,99,121,99,108,101,58,10,32,32,112,64,97,32,120,61,48,32,47,32,115,116,117,116,116,101,114,10]⟩:ByteArray)))))),(4,vi .i64 2),(5,.t (.c (.d (.raw (.string (⟨#[97,108,108,32,115,116,97,116,101,115]⟩:ByteArray)))))),(6,vi .i64 0)] [] h ?_;clear h;intro a w h
 refine rq za0 32 [(0,.call (Fn.cast (PRead (⟨#[77,65,89,66,69,10,119,104,121,58,32,10]⟩:ByteArray) (by decide)) (congrArg (fun z:Int × ByteArray × Int=>V.tup [.c (cI z.1),.c (.d (.raw (.string z.2.1))),.c (cI z.2.2)]) aRead0)) pn1_6)] [(0,vb false),(3,.t (.c (.d (.raw (.string (⟨#[86,73,79,76,65,84,69,68,10,119,104,121,58,32,97,108,108,32,115,116,97,116,101,115,10,115,116,101,109,58,10,99,121,99,108,101,58,10,32,32,112,64,97,32,120,61,48,32,47,32,115,116,117,116,116,101,114,10]⟩:ByteArray)))))),(4,vi .i64 2),(5,.t (.c (.d (.raw (.string (⟨#[97,108,108,32,115,116,97,116,101,115]⟩:ByteArray)))))),(6,vi .i64 0),(9,vi .i64 20)] [] h ?_;clear h;intro a w h
 refine rq za0 32 [(1,.gen _ _ _ fun _ _ _ _=>Op.strEq (d:=38) (xt:=9) (yt:=9) (s1:=(⟨#[86,73,79,76,65,84,69,68,10,119,104,121,58,32,97,108,108,32,115,116,97,116,101,115,10,115,116,101,109,58,10,99,121,99,108,101,58,10,32,32,112,64,97,32,120,61,48,32,47,32,115,116,117,116,116,101,114,10]⟩:ByteArray)) (s2:=(⟨#[86,73,79,76,65,84,69,68,10,119,104,121,58,32,97,108,108,32,115,116,97,116,101,115,10,115,116,101,109,58,10,99,121,99,108,101,58,10,32,32,112,64,97,32,120,61,48,32,47,32,115,116,117,116,116,101,114,10]⟩:ByteArray)) (r:=true) (OV.tmp 37 _) (OV.const (.string (⟨#[86,73,79,76,65,84,69,68,10,119,104,121,58,32,97,108,108,32,115,116,97,116,101,115,10,115,116,101,109,58,10,99,121,99,108,101,58,10,32,32,112,64,97,32,120,61,48,32,47,32,115,116,117,116,116,101,114,10]⟩:ByteArray)) rfl) (beq_self_eq_true _)),(4,.cmp (op:=.eql) (m:=2) (n:=2) (b:=true) .i64 rfl),(8,.gen _ _ _ fun _ _ _ _=>Op.strEq (d:=45) (xt:=9) (yt:=9) (s1:=(⟨#[97,108,108,32,115,116,97,116,101,115]⟩:ByteArray)) (s2:=(⟨#[97,108,108,32,115,116,97,116,101,115]⟩:ByteArray)) (r:=true) (OV.tmp 44 _) (OV.const (.string (⟨#[97,108,108,32,115,116,97,116,101,115]⟩:ByteArray)) rfl) (beq_self_eq_true _)),(12,.cmp (op:=.eql) (m:=0) (n:=0) (b:=true) .i64 rfl),(16,.cmp (op:=.eql) (m:=20) (n:=20) (b:=true) .i64 rfl),(20,.call (Fn.cast (PWrong (⟨#[109,111,100,101,108]⟩:ByteArray) 1 2 101 (by decide) (by decide) (by decide) (by decide)) (congrArg (fun z:List UInt8=>vs ⟨z.toArray⟩) aWrong)) pn1_7),(21,.gen _ _ _ fun _ _ _ _=>Op.strEq (d:=58) (xt:=9) (yt:=9) (s1:=(⟨#[69,82,82,79,82,10,109,111,100,101,108,32,49,58,50,32,49,48,49,10]⟩:ByteArray)) (s2:=(⟨#[69,82,82,79,82,10,109,111,100,101,108,32,49,58,50,32,49,48,49,10]⟩:ByteArray)) (r:=true) (OV.tmp 57 _) (OV.const (.string (⟨#[69,82,82,79,82,10,109,111,100,101,108,32,49,58,50,32,49,48,49,10]⟩:ByteArray)) rfl) (beq_self_eq_true _)),(24,.call (PLines (⟨#[97,10,10,98]⟩:ByteArray) (by decide)) pm1_1),(25,.len (c:=(.d (.sl 1 ((zav (⟨#[97,10,10,98]⟩:ByteArray)).map za2)))) (n:=(zav (⟨#[97,10,10,98]⟩:ByteArray)).length) (zag _ _ _)),(26,.cmp (op:=.eql) (m:=((zav (⟨#[97,10,10,98]⟩:ByteArray)).length:Int)) (n:=3) (b:=true) .i64 (show (((zav (⟨#[97,10,10,98]⟩:ByteArray)).length:Int) == 3)=true from by rw [aLines];rfl))] [(0,vb true)] [] h ?_;clear h;intro a w h
 refine wp_ret ?_
 refine zb3 [.c (cB true)] h Exit.ret (.inl rfl)  rfl ⟨RV.tmp _ _ rfl,trivial⟩ ?_
 rfl
set_option maxHeartbeats 4000000 in
theorem RSameTexts (xs:List ByteArray) (hl:xs.length≤9223372036854775807):Fn Tryd.prog 14 [] [.t (.c (.d (.sl 1 (xs.map za2)))),.t (.c (.d (.sl 1 (xs.map za2))))] (vb true) []:=by
 refine Fn.body Tryd.func14 rfl 26 rfl fun w H B a h=>?_
 refine rq za0 0 [] [(0,.t (.c (.d (.sl 1 (xs.map za2))))),(1,.t (.c (.d (.sl 1 (xs.map za2))))),(4,vb false)] [] h ?_;clear h;intro a w h
 refine wp_seq (rq za0 0 [(1,.len (c:=(.d (.sl 1 (xs.map za2)))) (n:=xs.length) (zag _ _ _)),(3,.len (c:=(.d (.sl 1 (xs.map za2)))) (n:=xs.length) (zag _ _ _)),(4,.cmp (op:=.neq) (m:=(xs.length:Int)) (n:=(xs.length:Int)) (b:=false) .i64 (show ((xs.length:Int) != (xs.length:Int))=false from by simp))] [(0,.t (.c (.d (.sl 1 (xs.map za2))))),(1,.t (.c (.d (.sl 1 (xs.map za2))))),(4,vb false),(10,vb false)] [] h ?_);clear h;intro a w h
 refine zab false h rfl (fun hc=>?_) (fun hc=>?_)
 ·cases hc
 ·clear hc
  refine wp_skip (za5 (wp_seq (rq za0 0 [] [(0,.t (.c (.d (.sl 1 (xs.map za2))))),(1,.t (.c (.d (.sl 1 (xs.map za2))))),(4,vb false),(5,vi .i64 0)] [] h ?_)));clear h;intro a w h
  refine wp_block ?_
  refine zci (ι:=(Nat)) (fun (z_:(Nat))=>match z_ with | i=>i≤xs.length)
    (fun (z_:(Nat))=>match z_ with | i=>[(0,.t (.c (.d (.sl 1 (xs.map za2))))),(1,.t (.c (.d (.sl 1 (xs.map za2))))),(5,vi .i64 (i:Int))])
    (fun (z_:(Nat))=>match z_ with | i=>[])
    (fun (z_:(Nat))=>match z_ with | i=>xs.length - i) 0 ?_ h (by kernel_rfl) (by kernel_rfl) ?_
  ·exact Nat.zero_le _
  ·clear h;rintro i a w hI h
   change St _ (F.of [(0,.t (.c (.d (.sl 1 (xs.map za2))))),(1,.t (.c (.d (.sl 1 (xs.map za2))))),(5,vi .i64 (i:Int))] []) a w at h
   refine wp_seq (rq za0 0 [(2,.len (c:=(.d (.sl 1 (xs.map za2)))) (n:=xs.length) (zag _ _ _))] [(0,.t (.c (.d (.sl 1 (xs.map za2))))),(1,.t (.c (.d (.sl 1 (xs.map za2))))),(5,vi .i64 (i:Int)),(14,vb (decide ((i:Int)<(xs.length:Int))))] [] h ?_);clear h;intro a w h
   refine zab (decide ((i:Int)<(xs.length:Int))) h rfl (fun hc=>?_) (fun hc=>?_)
   ·have hc1:=hc;clear hc
    have hc1':=of_decide_eq_true hc1
    refine wp_skip (za5 (wp_seq (wp_block ?_)))
    obtain ⟨x1,hx1⟩:∃ z_:ByteArray,xs[i]?=some z_:=⟨_,List.getElem?_eq_getElem (by first | omega | (simp at *;omega))⟩
    refine rq za0 0 [(2,.gen _ _ _ fun _ _ _ _=>Op.idxD (d:=19) (t:=17) (k:=.i64) zby (zas hx1 (f:=za2)) (OV.tmp 18 _)),(6,.gen _ _ _ fun _ _ _ _=>Op.idxD (d:=23) (t:=21) (k:=.i64) zby (zas hx1 (f:=za2)) (OV.tmp 22 _)),(8,.gen _ _ _ fun _ _ _ _=>Op.strNe (d:=25) (xt:=9) (yt:=9) (s1:=x1) (s2:=x1) (r:=false) (OV.tmp 20 _) (OV.tmp 24 _) (by rw [beq_self_eq_true];rfl))] [(0,.t (.c (.d (.sl 1 (xs.map za2))))),(1,.t (.c (.d (.sl 1 (xs.map za2))))),(5,vi .i64 (i:Int)),(25,vb false)] [] h ?_;clear h;intro a w h
    refine zab false h rfl (fun hc=>?_) (fun hc=>?_)
    ·cases hc
    ·clear hc
     refine wp_skip (zaj (za5 (rn za0 0 [(1,.add .i64 (m:=(i:Int)) (n:=1) (zap (by omega) (by omega)))] [(0,.t (.c (.d (.sl 1 (xs.map za2))))),(1,.t (.c (.d (.sl 1 (xs.map za2))))),(5,vi .i64 ((i:Int)+1))] [] h ?_)));clear h;intro a w h
     refine za5 ?_
     refine zaz (x:=i) (y:=i+1) h ?_ ?_
     ·have:=zar hx1
      show i+1≤xs.length
      omega
     ·show xs.length - (i+1)<xs.length - i
      have:=zar hx1;omega
   ·have hc2:=hc;clear hc
    have hc2':=of_decide_eq_false hc2
    refine wp_exit (zao (zao (zac (za5 (rq za0 0 [] [(4,vb true)] [] h ?_)))));clear h;intro a w h
    refine wp_ret ?_
    refine zb3 [.c (cB true)] h Exit.ret (.inl rfl)  rfl ⟨RV.tmp _ _ rfl,trivial⟩ ?_
    rfl
set_option maxHeartbeats 4000000 in
theorem LReportReads (t:ByteArray) (ht:t.size≤1048576):Fn Tryd.prog 4 [] [.t (.c (.d (.raw (.string t))))] (vb true) []:=by
 refine Fn.body Tryd.func4 rfl 43 rfl fun w H B a h=>?_
 refine rq za0 0 [] [(0,.t (.c (.d (.raw (.string t))))),(2,vb false)] [] h ?_;clear h;intro a w h
 refine wp_seq (rq za0 0 [(0,.call (LAlive26) pn1_12)] [(0,.t (.c (.d (.raw (.string t))))),(2,vb false),(10,vb false)] [] h ?_);clear h;intro a w h
 refine zab false h rfl (fun hc=>?_) (fun hc=>?_)
 ·cases hc
 ·clear hc
  refine wp_skip (za5 (rq za0 0 [(1,.call (PRead t (by omega)) pn1_6)] [(0,.t (.c (.d (.raw (.string t))))),(2,vb false),(3,vi .i64 (rdW t).1),(4,.t (.c (.d (.raw (.string (rdW t).2.1))))),(5,vi .i64 (rdW t).2.2)] [] h ?_));clear h;intro a w h
  refine rq za0 0 [(1,.call (RRead t (by omega)) pn1_16)] [(0,.t (.c (.d (.raw (.string t))))),(2,vb false),(3,vi .i64 (rdW t).1),(4,.t (.c (.d (.raw (.string (rdW t).2.1))))),(5,vi .i64 (rdW t).2.2),(6,vi .i64 (rdW t).1),(7,.t (.c (.d (.raw (.string (rdW t).2.1))))),(8,vi .i64 (rdW t).2.2)] [] h ?_;clear h;intro a w h
  refine rq za0 0 [(2,.cmp (op:=.eql) (m:=(rdW t).1) (n:=(rdW t).1) (b:=true) .i64 (show ((rdW t).1 == (rdW t).1)=true from beq_self_eq_true _)),(6,.gen _ _ _ fun _ _ _ _=>Op.strEq (d:=29) (xt:=9) (yt:=9) (s1:=(rdW t).2.1) (s2:=(rdW t).2.1) (r:=true) (OV.tmp 27 _) (OV.tmp 28 _) (beq_self_eq_true _)),(11,.cmp (op:=.eql) (m:=(rdW t).2.2) (n:=(rdW t).2.2) (b:=true) .i64 (show ((rdW t).2.2 == (rdW t).2.2)=true from beq_self_eq_true _)),(15,.call (PLines t (by omega)) pm1_1),(17,.call (RLines t (by omega)) pm1_5),(18,.call (RSameTexts (zav t) (by have h1:=lnsL_len t.data.toList;have h2:=baL t;unfold zav;rw [List.length_map];omega)) pn1_18)] [(2,vb true)] [] h ?_;clear h;intro a w h
  refine wp_ret ?_
  refine zb3 [.c (cB true)] h Exit.ret (.inl rfl)  rfl ⟨RV.tmp _ _ rfl,trivial⟩ ?_
  rfl
section
open Go.WideShapes
section
theorem bk_part {H:Type} {d:DataW H} {l:List (DataW H)} (h:d ∈ l):Rows.uptoBulk d≤Rows.uptoBulkAll l:=by
 induction l with
 | nil=>cases h
 | cons x r ih =>
  simp only [Rows.uptoBulkAll]
  cases List.mem_cons.1 h with
  | inl e=>subst e;omega
  | inr e=>have:=ih e;omega
theorem bk_str {H:Type} (b:ByteArray) (h:Rows.uptoBulk (DataW.lit (H:=H) (.string b.data.toList))≤1048576):b.size≤1048576:=by
 simp only [Rows.uptoBulk] at h
 rw [baL];omega
theorem bk_all {H:Type} {l:List (DataW H)} (hk:Rows.uptoSmall H l=true):Rows.uptoBulkAll l≤1048576:=of_decide_eq_true hk
variable {w:World} {n:Nat} {t:TypeId} {α β:Type} {f:α→List D} {good:α→Prop}
end
theorem tabH_of {W : World} {rest : List (String × DataW Unit)} (h : laidMet Tryd.prog (("internal/strconv.uint64pow10", Lib.tabData .u64 Lib.pow10Tab) :: rest) W) : TabH (all W) := by
  have h1 : Lib.TabIs Tryd.prog W "internal/strconv.uint64pow10" .u64 Lib.pow10Tab := Lib.tabIs_of_head (g := 1) (by kernel_rfl) (by kernel_rfl) Tryd.underlying132 Tryd.underlying117 (by kernel_rfl) (by kernel_rfl) h
  unfold Lib.TabIs World.var? at h1
  rw [Tryd.laysM171.m17] at h1
  have h2:(match (W.heap[(1:Nat)]?:Option Obj) with | some (.cells cs _ _)=>some cs | _=>none)=some (Lib.pow10Tab.map fun z=>Value.int .u64 z).toArray:=h1
  split at h2
  · rename_i cs ty fz hb
    injection h2 with h2
    subst h2
    exact ⟨ty,fz,hb⟩
  · cases h2
end
end S
end Go.Proofs.YtlfebjeoeijlfaaDoor
section
namespace Go.Proofs.YtlfebjeoeijlfaaDoor.reportReadsDone
open Go.ChangeShapes Go.WideShapes Go.ChangeAt Go.RowKit
open Go.ChangeMaps (open_string shut_string)
open Go.Proofs.YtlfebjeoeijlfaaDoor.S

theorem own:ownKnob Tryd.prog.godebug=none:=by kernel_rfl

theorem laid_met (os:Os):laidMet Tryd.prog Rows.reportReadsUptoRow.laid ((World.doorLaid Tryd.prog 400 os).forCall (fun _ _=>0) ⟨#[],#[.string ByteArray.empty],[]⟩).memory :=
 laidMet_of_run' 8 (by kernel_rfl) (by kernel_rfl)
theorem reads (os:Os) {H:Type} (enc:TypeId × Value→H):∃ places,DataW.whole enc Tryd.prog ((World.doorLaid Tryd.prog 400 os).forCall (fun _ _=>0) ⟨#[],#[.string ByteArray.empty],[]⟩).memory Tryd.f4.params.toList Rows.reportReadsSpec.vars false (#[.string ByteArray.empty]:Array Value).toList 8=some ([.lit (.string [])],[],places) :=
 ⟨[],by kernel_rfl⟩

theorem lifted (os:Os) (started:os.Started) (H:Type) (enc:TypeId × Value→H) (F0:Stop.Interp) :
  ReturnsInHanded {} Tryd.checked os 4 .any ((Rows.OpenSpec.upto Rows.reportReadsSpec).preRow enc Tryd.prog Tryd.f4 Rows.reportReadsUptoRow.domain false Rows.reportReadsUptoRow.laid) (((Rows.OpenSpec.upto Rows.reportReadsSpec).at F0).post enc Tryd.prog Tryd.f4 false true false false):=by
 obtain ⟨places,hx⟩:=reads os enc
 refine returnsInHanded_of_row (C:=Tryd.checked) (s:=Rows.OpenSpec.upto Rows.reportReadsSpec) own started (by kernel_rfl) Tryd.func4
  (witness_row_at (enc:=enc) (C:=Tryd.checked) false (World.doorLaid Tryd.prog 400 os) #[.string ByteArray.empty] rfl (by kernel_rfl) (by kernel_rfl) (by kernel_rfl)
   (OpenSpec.preRow_of_cond 8 hx (by kernel_rfl) (fun k hk=>by cases hk;kernel_rfl) (by kernel_rfl) (laid_met os))) ?_
 intro W base args ds gs before hval0 hW hcnd hcond _ hL _ _
 have hval:∀ (j:Nat) t v,Tryd.f4.params[j]?=some t→args[j]?=some v→Value.okWide Tryd.prog W .any base t v:=hval0
 have hW':=hW
 obtain ⟨p,q,hA0,hV,rfl,hfz,hnd⟩:=hW
 have hA:DataW.TrodAll enc Tryd.prog W 0 (fun _=>true) true Tryd.f4.params.toList args.toList ds p:=hA0
 rw [Tryd.params4] at hA hval
 obtain ⟨v0,vs0,d0,ds0,p0,q0,hargs,rfl,rfl,h0,r0⟩:=trodAll_cons hA
 obtain ⟨rfl,rfl,rfl⟩:=trodAll_nil r0
 obtain rfl:args=#[v0]:=by cases args;simp_all
 obtain ⟨rfl,rfl⟩:=trodVars_none hV
 have hB:=bk_all (hcond _ rfl)
 have hb0:Rows.uptoBulk d0≤1048576:=Nat.le_trans (bk_part (by simp)) hB
 have hT:TabH (all W):=tabH_of (laidMet.tail (laidMet.tail hL))
 obtain ⟨a0,rfl,rfl,rfl,g0⟩:=open_string Tryd.underlying9 (hval 0 9 v0 rfl rfl) h0
 have w0:=bk_str a0 hb0
 clear hA0 hval0
 refine (Fn.calls (w:=W) (vals:=[.string a0]) (LReportReads a0 w0) (fun B=>⟨DR.raw _ rfl,trivial⟩) hT).mono fun e W' ⟨he,bel⟩=>?_
 subst he
 exact ⟨_,rfl,_,_,_,[],_,[],hW', trodAll_mk1 (shut_bool Tryd.underlying4 _),(trodAll_cons_mk (shut_string Tryd.underlying9 g0) trodAll_mk0),rfl,bel.below.frame _,fun h=>by cases h⟩

theorem over:Rows.ReportReadsUptoSaid :=
 OpenClaim.holds_of_cond 4 Tryd.f4 rfl rfl rfl rfl rfl rfl rfl ⟨rfl,rfl,rfl,rfl,rfl⟩ rfl rfl rfl rfl rfl (by kernel_rfl) Tryd.func4 (by kernel_rfl)
  (of_decide_eq_true (by kernel_rfl)) (by unfold Func.isWrapper;first | (rw [if_pos (by decide +kernel)];kernel_rfl) | (rw [if_neg (by decide +kernel)];exact ⟨rfl,rfl⟩))
  (fun os started H enc _ F0=>by rw [OpenClaim.pre_eq_preRow];exact lifted os started H enc F0)

theorem proved:Rows.ReportReadsUptoCardSaid :=
  Claim7.holds_tied_plain_at .later [] [.data, .data, .data] true (true, "bd7222c4f126fa706258d046fb4f499b376e39d608c779f70c6cbf516a077b87") false
    over (fun _ h=>by cases h) (by kernel_rfl) (fun _ h=>by cases h) reportReadsUpto_row_tie rfl ⟨rfl,rfl⟩ (by kernel_rfl) rfl
    (fun f fn hf hfn=>by
      obtain rfl : f = 4 := Option.some.inj ((show Tryd.prog.funcNamed "plumbline/plumblinelaw26.ReportReads" = some 4 by kernel_rfl).symm.trans hf) |>.symm
      obtain rfl:fn=Tryd.f4:=(Option.some.inj (Tryd.func4.symm.trans hfn)).symm
      exact ⟨by kernel_rfl,fun j t ht=>by
        rw [Tryd.params4] at ht
        have hm:t ∈ [9]:=by simpa using Array.mem_of_getElem? ht
        have hall:([9].all fun u=>!Tryd.prog.wantsStandIn u)=true:=by kernel_rfl
        exact (show Tryd.prog.wantsStandIn t=false by simpa using List.all_eq_true.1 hall t hm)⟩)
    (by kernel_rfl)
end Go.Proofs.YtlfebjeoeijlfaaDoor.reportReadsDone
end
