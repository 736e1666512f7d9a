/-
  Part 6 of the proof of the statement RefineHolds. It holds for every input.
-/
import Derived.Test.YtlcijejaplagbaaGreatRH5
import Derived.Test.YtlcijejaplagbaaGreatRH3
import Derived.OrdersIn
import Derived.RangeFuncFrom
import Derived.RangeFuncLeaves
import Derived.RangeFuncCalls
import Derived.Test.YtlcijejaplagbaaGreatRH4
import Derived.RangeFuncBound
import Derived.Shelf.Abstract
import Derived.Shelf.RegionOpen
import Derived.OwnWalkIn
import Derived.TacticsInMore
import Derived.LoopNIn
import Derived.LoopIn
set_option maxRecDepth 100000
set_option maxHeartbeats 20000000
open Go.RowKit
open List renaming length_map->bC,mem_singleton->bE,mem_map->bF,mem_cons_self->bG,map_cons->bK,length_append->bL,length_cons->bP,mem_cons->bS,all_eq_true->bV,map_nil->bW,mem_cons_of_mem->b5,sum_cons->b7,foldl_cons->b8,mem_append->b9,map_map->cC,append_nil->cD,all_cons->cF,flatten_cons->cG,flatten_nil->cH,take_of_length_le->cJ,mem_range->cL,getElem?_eq_getElem->cM,length_take->cO,mem_of_getElem?->cP,all_nil->cQ,append_assoc->cR,length_replicate->cT,sum_nil->cV,length_nil->cW,getElem?_append_left->cZ,not_mem_nil->c6,cons_append->c7,mem_flatMap->c8,getElem?_eq_some_iff->dC,getElem?_append_right->dD,getElem?_cons_succ->dI,length_drop->dJ,take_add_one->dM,mem_of_mem_drop->dN,getElem?_map->dP,mem_singleton_self->dQ,length_singleton->dU,mem_of_mem_take->dV
open Nat renaming le_refl->bI,zero_le->bJ,le_trans->bU,mul_le_mul_left->cX,pow_le_pow_right->cY,sub_self->dA,lt_of_lt_of_le->dB,not_lt_zero->dE,le_of_eq->dH,le_of_ble_eq_true->dW
open Bool renaming and_eq_true->bN,eq_false_or_eq_true->bX,true_and->b6,and_true->cK
open Array renaming getD_eq_getD_getElem?->cN,getElem?_eq_some_iff->cU,getElem?_setIfInBounds_ne->dL,getElem?_setIfInBounds_self_of_lt->dS
open Int renaming toNat_of_nonneg->dG,natAbs_dvd_natAbs->dO
open Option renaming isSome_iff_exists->dR
open Go.Proofs.Tryz renaming prog->dX
open Go.Proofs.YtlcijejaplagbaaGreat.S.Fn renaming cast->dY
open Go.Proofs.YtlcijejaplagbaaGreat.S.OV renaming const->dZ,tmp->d4
open Go.Proofs.YtlcijejaplagbaaGreat.S.ZI renaming of->d5,val_of->d6
open Go.Proofs.YtlcijejaplagbaaGreat.S.za0 renaming d->d7,d_eq->d8,d_len->d9,each->eA,flat->eB,forg->eC,ind->eE,nodes->eF,nodes_eq->eG,okB_mono->eH,vars->eI
open Go.Proofs.YtlcijejaplagbaaGreat.S.za9 renaming d->eJ
open Go.Proofs.YtlcijejaplagbaaGreat.S.zas renaming d->eK
open Go.Proofs.YtlcijejaplagbaaGreat.S.zbz renaming d->eM
namespace Go.Proofs.YtlcijejaplagbaaGreat
namespace S
variable {m n m' k N b j M:Nat} {t:zaf} {ws:List ZI} {v i:Int} {s:zan} {f:za0} {x y:StD} {ps out:List za9} {w0 w:World} {H0 H1 H:Im} {B0:Bl} {sl:List (Nat × V)} {lc qs:List (Nat × L)} {e:E} {K:Act->World->Prop} {ops:Array Oper} {draw:Bool} {a:Act} {o:Obj} {P:Program} {res:V} {fn:Func}
def Bel (m:Nat) (t:zaf):Prop:=∀ v:Int,(m:Int)<=v->zah t.parts v=0
theorem zh9 (h:Bel m t):∀ p ∈ (za2 t).parts,0<=p.v/\p.v<(m:Int):=fun p hp=>by
 obtain ⟨_,h2,_⟩:=zay t
 obtain ⟨h0,_,hne⟩:=h2 p hp
 refine ⟨h0,Int.lt_of_not_ge fun hv=>hne ?_⟩
 have e:(za2 t).parts=(ze7 t.parts).map fun v=>⟨v,d5 (zah t.parts v)⟩:=rfl
 rw [e] at hp
 obtain ⟨v,_,rfl⟩:=bF.1 hp
 show (d5 (zah t.parts v)).val=0
 rw [d6];exact h v hv
theorem valP_cong9 {vs:List ZI}:∀ {ps:List za4}, (∀ p ∈ ps,zce vs p.v=zce ws p.v)->zeq vs ps=zeq ws ps
 | [],_=>rfl
 | p :: ps,h=>by
  unfold zeq
  rw [h p (bG ..),valP_cong9 fun q hq=>h q (b5 _ hq)]
theorem valAt_app {vs:List ZI} (h:v<(vs.length:Int)):zce (vs++ws) v=zce vs v:=by
 unfold zce
 split
 ·rw [cZ (by omega)]
 ·rfl
theorem valAt_far {vs:List ZI} (h:0<=v):zce (vs++ws) (v+(vs.length:Int))=zce ws v:=by
 unfold zce
 rw [if_pos (by omega),if_pos h,show (v+(vs.length:Int)).toNat=vs.length+v.toNat by omega,dD (by omega),Nat.add_sub_cancel_left]
theorem val_bel (h:Bel m t) {vs:List ZI} (hl:∀ v:Int,0<=v->v<(m:Int)->zce vs v=zce ws v):zd6 t vs=zd6 t ws:=by
 rw [<- zc6 t vs,<- zc6 t ws]
 unfold zd6
 rw [valP_cong9 fun p hp=>hl p.v (zh9 h p hp).1 (zh9 h p hp).2]
theorem mov_val (h:Bel m t) {vs:List ZI} (hm:m<=1000000) (hn:n<=1000000) (hl:∀ v:Int,0<=v->v<(m:Int)->zce ws (v+(n:Int))=zce vs v):zd6 (movZ t (zae (n:Int))) ws=zd6 t vs:=by
 have hc:zae (n:Int)=(n:Int):=by unfold zae;omega
 rw [hc,movZ,zc6,<- zc6 t vs]
 unfold zd6
 show (d5 t.k.val).val+zeq ws (((za2 t).parts.filter fun p=>!zba (n:Int) p).map (zlv (n:Int)))=(za2 t).k.val+zeq vs (za2 t).parts
 have hk:(za2 t).k.val=t.k.val:=d6 _
 rw [d6,hk]
 congr 1
 have key:∀ ps:List za4,(∀ p ∈ ps,0<=p.v/\p.v<(m:Int))->zeq ws ((ps.filter fun p=>!zba (n:Int) p).map (zlv (n:Int)))=zeq vs ps:=fun ps=>by
  induction ps with
  | nil=>intro _;rfl
  | cons p ps ih =>
   intro hp
   obtain ⟨p0,p1⟩:=hp p (bG ..)
   have hf:zba (n:Int) p=false:=by unfold zba;exact yX (by omega)
   rw [List.filter_cons,hf,Bool.not_false,if_pos rfl,bK]
   unfold zeq
   rw [ih fun q hq=>hp q (b5 _ hq)]
   show p.c.val*zce ws (p.v+(n:Int))+_=_
   rw [hl p.v p0 p1]
 exact key _ (zh9 h)
theorem zdg (h:Bel m t):Bel m (za2 t):=fun v hv=>by rw [zec];exact h v hv
theorem bel_add {s:zaf} (hs:Bel m s) (ht:Bel m t):Bel m (zkx s t):=fun v hv=>by rw [coef_add,hs v hv,ht v hv];rfl
theorem zhm (h:Bel m t) (q:ZI):Bel m (zbi t q):=fun v hv=>by rw [coef_scale,h v hv,Int.zero_mul]
theorem bel_sub {s:zaf} (hs:Bel m s) (ht:Bel m t):Bel m (subT s t):=bel_add hs (zhm ht _)
theorem zkw (m:Nat) (k:ZI):Bel m (zcu k):=fun v _=>coef_num k v
theorem bel_var (h:v<(m:Int)):Bel m (zh3 v):=fun u hu=>by rw [coef_var,if_neg (by omega)]
theorem Bel.mono (h:Bel m t) (hm:m<=m'):Bel m' t:=fun v hv=>h v (by omega)
def zd3 (m:Nat) (f:za0):Prop:=f.rels fun r=>Bel m r.t
theorem holds_bel {vs:List ZI} (hl:∀ v:Int,0<=v->v<(m:Int)->zce vs v=zce ws v) (f:za0):zd3 m f->f.holds vs=f.holds ws:=fun h=>by
 rw [<- cl_holds vs f]
 exact zko (t:=id) f (za0.rels_mono (fun r hr=>by show zax vs (cpR r)=_;rw [zjh];unfold zax;rw [val_bel hr hl]) f h)
theorem holds_app {vs:List ZI} (ws:List ZI) (hm:m<=vs.length) (f:za0) (h:zd3 m f):f.holds (vs++ws)=f.holds vs:=holds_bel (fun v _ hv=>valAt_app (by omega)) f h
theorem mov_holds (hm:m<=1000000) (hn:n<=1000000) {vs:List ZI} (hl:∀ v:Int,0<=v->v<(m:Int)->zce ws (v+(n:Int))=zce vs v) (f:za0) (h:zd3 m f):(f.each (zcv (n:Int))).holds ws=f.holds vs :=
 zko f (za0.rels_mono (fun r hr=>by
  show zax ws (zcv (n:Int) (cpR r))=zax vs r
  rw [<- zjh vs r]
  unfold zax zcv
  rw [mov_val (t:=(cpR r).t) (zdg hr) hm hn hl]) f h)
theorem at_holds (hv:s.vars.length<=8) (hk:k<=4096) (hm:m<=1000000) {pre vs:List ZI} (hp:pre.length=k*s.vars.length) (f:za0) (h:zd3 m f):(atF s f k).holds (pre++vs)=f.holds vs:=by
 have e:offZ s k=((k*s.vars.length:Nat):Int):=by unfold offZ;rw [Int.natCast_mul]
 unfold atF
 rw [e]
 have hb:k*s.vars.length<=4096*8:=Nat.mul_le_mul hk hv
 exact mov_holds hm (by omega) (fun v h0 _=>by rw [<- hp];exact valAt_far h0) f h
theorem zdn (m:Nat) (f:za0):zd3 m f ↔ (f.kind=2->Bel m f.r.t)/\∀ g ∈ cnt f.kind f.kids,zd3 m g:=za0.rels_eq _ f
theorem zek (m:Nat) (b:Bool):zd3 m (zcs b):=by
 rw [zdn];exact ⟨fun e=>by cases b <;> exact absurd e (by decide),fun g hg=>absurd (zb9 hg) (by show g ∉ [];exact c6)⟩
theorem zhn {r:za9} (h:Bel m r.t):zd3 m (zfp r):=by
 rw [zdn];exact ⟨fun _=>zdg h,fun g hg=>absurd (zb9 hg) (by show g ∉ [];exact c6)⟩
theorem belF_each {t:za9->za9} (ht:∀ r,Bel m r.t->Bel m' (t (cpR r)).t) (f:za0):zd3 m f->zd3 m' (f.each t) :=
 eE (P:=fun f=>zd3 m f->zd3 m' (f.each t)) (fun k r ks ih h=>by
  obtain ⟨h1,h2⟩:=(zdn _ _).1 h
  rw [za0.each_eq]
  show zd3 m' (zfd t k r (ks.map (eA t)))
  unfold zfd
  split
  ·exact zek _ _
  ·split
   ·rename_i e
    rw [zdn];exact ⟨fun _=>ht r (h1 e),fun g hg=>absurd (zb9 hg) (by show g ∉ [];exact c6)⟩
   ·split
    ·rename_i hk2 _
     rw [zdn]
     refine ⟨fun e=>absurd e hk2,fun g hg=>?_⟩
     change g ∈ cnt k (cnt k (ks.map (eA t))) at hg
     rw [cnt_cnt,zd0] at hg
     obtain ⟨q,hq,rfl⟩:=bF.1 hg
     exact ih q (zb9 hq) (h2 q hq)
    ·exact zek _ _) f
theorem belF_cl (f:za0) (h:zd3 m f):zd3 m f.cl:=belF_each (t:=id) (fun r hr=>zdg hr) f h
theorem belF_kids {k:Int} (hk:k=3\/k=4\/k=5) {fs:List za0} (h:∀ f ∈ fs,zd3 m f):zd3 m ⟨k,zR,fs⟩:=by
 rw [zdn];exact ⟨fun e=>by change k=2 at e;omega,fun g hg=>h g (zb9 hg)⟩
theorem zfz {fs:List za0} (h:∀ f ∈ fs,zd3 m f):zd3 m (zcj fs):=belF_kids (.inr (.inl rfl)) fun g hg=>by
 obtain ⟨q,hq,rfl⟩:=bF.1 hg;exact belF_cl q (h q hq)
theorem belF_deny (h:zd3 m f):zd3 m (ziv f):=belF_kids (.inl rfl) fun g hg=>by
 rw [bE.1 hg];exact belF_cl f h
theorem zd3.mono (h:zd3 m f) (hm:m<=m'):zd3 m' f:=za0.rels_mono (fun _ hr=>Bel.mono hr hm) f h
theorem vars_mem {ps:List za4} (h0:0<=v) (h:zah ps v≠0):v ∈ ze7 ps:=by
 refine ((zll ps ps [] List.Pairwise.nil).2 v).2 (.inr (Classical.byContradiction fun hn=>h (coefZ_far fun p hp e=>hn ⟨p,hp,e,h⟩)))
theorem insF_mem (x:Int):∀ (vs a:List Int),x ∈ vs.foldl zes a ↔ x ∈ a\/x ∈ vs
 | [],a=>by simp
 | v :: vs,a=>by
  rw [b8,insF_mem x vs (zes a v),insZ_eq,zm3]
  simp only [bS]
  constructor
  ·rintro ((h | h) | h) <;> simp [h]
  ·rintro (h | h | h) <;> simp [h]
theorem insF_sr:∀ (vs a:List Int),SRi a->SRi (vs.foldl zes a)
 | [],_,h=>h
 | v :: vs,a,h=>by rw [b8];exact insF_sr vs _ (by rw [insZ_eq];exact insR_sr v h)
theorem varsG_mem (x:Int):∀ (gs:List za0) (a:List Int),x ∈ gs.foldl (fun a g=>(eI g).foldl zes a) a ↔ x ∈ a\/∃ g ∈ gs,x ∈ g.vars
 | [],a=>by simp
 | g :: gs,a=>by
  rw [b8,varsG_mem x gs,insF_mem]
  constructor
  ·rintro ((h | h) | ⟨q,hq,h⟩)
   ·exact .inl h
   ·exact .inr ⟨g,bG .., h⟩
   ·exact .inr ⟨q,b5 _ hq,h⟩
  ·rintro (h | ⟨q,hq,h⟩)
   ·exact .inl (.inl h)
   ·rcases bS.1 hq with rfl | hq
    ·exact .inl (.inr h)
    ·exact .inr ⟨q,hq,h⟩
theorem varsG_sr:∀ (gs:List za0) (a:List Int),SRi a->SRi (gs.foldl (fun a g=>(eI g).foldl zes a) a)
 | [],_,h=>h
 | g :: gs,a,h=>by rw [b8];exact varsG_sr gs _ (insF_sr _ _ h)
theorem vars_sr (f:za0):SRi f.vars:=by
 rw [za0.vars_eq]
 split
 ·exact (zll _ _ [] List.Pairwise.nil).1
 ·exact varsG_sr _ [] List.Pairwise.nil
theorem belF_vars (f:za0):(∀ v ∈ f.vars,v<(m:Int))->zd3 m f :=
 eE (P:=fun f=>(∀ v ∈ f.vars,v<(m:Int))->zd3 m f) (fun k r ks ih h=>by
  rw [za0.vars_eq] at h
  change ∀ v ∈ (if k=2 then ze7 r.t.parts else (cnt k ks).foldl (fun a g=>(eI g).foldl zes a) []),v<(m:Int) at h
  rw [zdn]
  show (k=2->Bel m r.t)/\∀ g ∈ cnt k ks,zd3 m g
  refine ⟨fun e v hv=>?_,fun g hg=>ih g (zb9 hg) fun v hv=>?_⟩
  ·rw [if_pos e] at h
   exact Classical.byContradiction fun hn=>by have:=h v (vars_mem (by omega) hn);omega
  ·by_cases e:k=2
   ·rw [e] at hg;cases hg
   ·rw [if_neg e] at h
    exact h v ((varsG_mem v _ []).2 (.inr ⟨g,hg,hv⟩))) f
theorem last_max {l:List Int} (hs:SRi l) (h:l.getLast?=some v):∀ x ∈ l,x<=v:=fun x hx=>by
 obtain ⟨ys,rfl⟩:=List.getLast?_eq_some_iff.1 h
 rcases b9.1 hx with hx | hx
 ·exact Int.le_of_lt ((List.pairwise_append.1 hs).2.2 x hx v (dQ _))
 ·rw [bE.1 hx];exact Int.le_refl _
theorem in_bel (h:inB s f=true):zd3 s.vars.length f:=by
 refine belF_vars f fun v hv=>?_
 unfold inB at h
 cases e:f.vars.getLast? with
 | none=>rw [List.getLast?_eq_none_iff.1 e] at hv;cases hv
 | some u =>
  rw [e] at h
  have h:=of_decide_eq_true h
  have:=last_max (vars_sr f) e v hv
  omega
structure ProS (s:zan):Prop where
  init:zd3 s.vars.length s.init
  act:∀ c ∈ s.acts,zd3 s.vars.length c.guard/\∀ m ∈ c.moves,Bel s.vars.length m.t
theorem snd_pro (hp:ProS s) (i:Int):zd3 s.vars.length (zac s i).1.guard/\∀ m ∈ (zac s i).1.moves,Bel s.vars.length m.t:=by
 unfold zac
 cases e:zeh s i with
 | none=>exact ⟨by rw [zdn];exact ⟨fun e=>absurd (show (0:Int)=2 from e) (by decide),fun g hg=>absurd (zb9 hg) (by show g ∉ [];exact c6)⟩,fun m hm=>by cases hm⟩
 | some c =>
  refine hp.act c ?_
  unfold zeh at e
  split at e
  ·exact cP e
  ·cases e
def wB (b:zak) (z:Int):Bool:=!b.is_ || (decide (b.lo.val<=z) && decide (z<=b.hi.val))
theorem within_w (b:zak) (n:ZI):zbq b n=wB b n.val:=by unfold zbq wB;rw [cmpZ_le,cmpZ_le]
theorem ge_holds (vs:List ZI) (l r:zaf):(geF l r).holds vs=decide (zd6 r vs<=zd6 l vs):=by
 unfold geF leaR;rw [zi9,zgb rfl,zc6,val_sub];exact decide_eq_decide.2 (by omega)
theorem le_holds (vs:List ZI) (l r:zaf):(leF l r).holds vs=decide (zd6 l vs<=zd6 r vs):=by
 unfold leF leaR;rw [zi9,zgb rfl,zc6,val_sub];exact decide_eq_decide.2 (by omega)
theorem bnd_holds (s:zan) (v:Nat) (t:zaf) (vs:List ZI):(bndF s v t).all (za0.holds vs)=wB (zbm s v) (zd6 t vs):=by
 unfold bndF wB
 split
 ·rename_i e
  rw [e,cF,cF,cQ,ge_holds,le_holds,zj5,zj5,cK];rfl
 ·rename_i e
  rw [show (zbm s v).is_=false by simpa using e];rfl
theorem all_flat {F:Nat->List za0} {p:za0->Bool} (n:Nat):((List.range n).flatMap F).all p=zg8 n fun v=>(F v).all p:=by
 induction n with
 | zero=>rfl
 | succ n ih=>rw [zdz,List.all_append,ih];rfl
theorem bel_bnd {v:Nat} (h:Bel m t):∀ g ∈ bndF s v t,zd3 m g:=fun g hg=>by
 unfold bndF at hg
 split at hg
 ·rcases bS.1 hg with rfl | hg
  ·exact zhn (zdg (bel_sub h (zkw _ _)))
  ·rw [bE.1 hg];exact zhn (zdg (bel_sub (zkw _ _) h))
 ·cases hg
theorem vals_at {v:Nat}:zce x.vals (v:Int)=((x.vals[v]?).getD ze3).val:=by
 unfold zce
 rw [if_pos (by omega),Int.toNat_natCast]
 cases x.vals[v]? <;> rfl
theorem val_mv {c:zas} {v:Nat} {m:zai} (h:ziu c v=some m):m ∈ c.moves:=by unfold ziu at h;exact List.mem_of_find?_eq_some h
theorem valA_bel {c:zas} (hc:∀ m ∈ c.moves,Bel n m.t) {v:Nat} (hv:v<n):Bel n (zd4 c v).1:=by
 unfold zd4
 cases e:ziu c v with
 | none=>exact bel_var (by omega)
 | some m =>
  show Bel n (if m.any=true then _ else _:zaf × Bool).1
  split
  ·exact fun u _=>rfl
  ·exact zdg (hc m (val_mv e))
theorem valA_free (c:zas) (v:Nat):(zd4 c v).2=!zbl c v:=by
 unfold zd4 zbl
 cases ziu c v with
 | none=>rfl
 | some m=>show (if m.any=true then _ else _:zaf × Bool).2=!m.any;cases m.any <;> rfl
theorem valA_new {c:zas} {v:Nat} (hf:zbl c v=false):zd6 (zd4 c v).1 x.vals=(zid x c v).val:=by
 unfold zbl at hf
 unfold zd4 zid
 cases e:ziu c v with
 | none=>show zd6 (zh3 (v:Int)) x.vals=(d5 ((x.vals[v]?).getD ze3).val).val;rw [valT_var,vals_at,d6]
 | some m =>
  rw [e] at hf
  show zd6 (if m.any=true then _ else _:zaf × Bool).1 x.vals=(if m.any=true then ze3 else d5 (zd6 m.t x.vals)).val
  rw [show m.any=false from hf,if_neg Bool.noConfusion,if_neg Bool.noConfusion,d6,zc6]
theorem canS_holds (s:zan) (x:StD) (c:zas) (v:Nat):(zfy s c v).all (za0.holds x.vals)=canAt s x c v:=by
 unfold zfy canAt
 rw [valA_free]
 cases hf:zbl c v with
 | true =>
  rw [if_neg (by simp),if_pos rfl]
  cases e:(zbm s v).is_ with
  | true=>rw [if_pos rfl,cF,cQ,le_holds,zj5,zj5,cK,b6,cmpZ_gt,<- decide_not];exact decide_eq_decide.2 (by omega)
  | false=>rw [if_neg Bool.noConfusion];rfl
 | false=>rw [Bool.not_false,if_pos rfl,if_neg Bool.noConfusion,bnd_holds,within_w,valA_new hf]
theorem canF_holds (s:zan) (x:StD) (c:zas):(zex s c).holds x.vals=(c.guard.holds x.vals && zg8 s.vars.length (canAt s x c)):=by
 unfold zex canL
 rw [zfh,cF,all_flat]
 congr 1
 exact zia fun v _=>canS_holds s x c v
theorem canF_bel {c:zas} (hg:zd3 s.vars.length c.guard) (hm:∀ m ∈ c.moves,Bel s.vars.length m.t):zd3 s.vars.length (zex s c):=zfz fun g hx=>by
 unfold canL at hx
 rcases bS.1 hx with rfl | hx
 ·exact hg
 ·refine ze0 (fun v hv g hg=>?_) g hx
  unfold zfy at hg
  split at hg
  ·exact bel_bnd (valA_bel hm hv) g hg
  ·split at hg
   ·rw [bE.1 hg];exact zhn (zdg (bel_sub (zkw _ _) (zkw _ _)))
   ·cases hg
theorem enabled_beg {c:zas} (hf:zd2 s x=true) (hi:zeh s i=some c):zap s x c=((zgw s x.locs i).2 && c.guard.holds x.vals):=by
 have hc:(zac s i).1=c:=by unfold zac;rw [hi]
 have hb:(zac s i).2=sndB s c:=by unfold zac;rw [hi]
 show zap s x c=(((zac s i).2 && begB s x.locs (zac s i).1) && c.guard.holds x.vals)
 rw [hc,hb]
 unfold zap begB sndB
 rw [hf,b6]
 have hl:=zdi hf
 rw [yQ hl.1,b6]
 by_cases hp:0<=c.proc/\c.proc<(s.procs.length:Int)
 ·rw [yQ hp]
  cases e:((x.locs[c.proc.toNat]?).getD 0 == c.from_) with
  | false=>simp
  | true =>
   have e':(x.locs[c.proc.toNat]?).getD 0=c.from_:=by simpa using e
   have hloc:zlh s x c.proc.toNat=true:=by
    unfold zd2 at hf
    rw [bN,bN] at hf
    exact zd5.1 hf.2.1 _ (by omega)
   unfold zlh at hloc
   rw [e'] at hloc
   rw [hloc]
   simp [Bool.and_assoc,Bool.and_comm,Bool.and_left_comm]
 ·rw [yX hp];simp
theorem beg_none {locs:List Int} (hi:zeh s i=none):(zgw s locs i).2=false:=by
 show ((zac s i).2 && _)=false;unfold zac;rw [hi];rfl
theorem can_law (i:Int) (hf:zd2 s x=true):can s x i=((zgw s x.locs i).2 && (zex s (zgw s x.locs i).1).holds x.vals):=by
 unfold can
 cases hi:zeh s i with
 | none=>rw [beg_none hi];rfl
 | some c =>
  have hc:(zgw s x.locs i).1=c:=by show (zac s i).1=c;unfold zac;rw [hi]
  rw [hc,canF_holds]
  show canC s x c=_
  unfold canC
  rw [enabled_beg hf hi,Bool.and_assoc]
theorem stk_holds (hf:zd2 s x=true):(zj8 s x.locs).holds x.vals=zg8 s.acts.length fun i=>!can s x (i:Int):=by
 unfold zj8
 rw [zfh,all_flat]
 refine zia fun i _=>?_
 rw [can_law (i:Int) hf]
 unfold zh4
 cases e:(zgw s x.locs (i:Int)).2 with
 | true=>rw [if_pos rfl,cF,cQ,deny_holds,cK,b6]
 | false=>rw [if_neg Bool.noConfusion];rfl
theorem stk_stuck (hf:zd2 s x=true):(zj8 s x.locs).holds x.vals=ziq s x:=by
 rw [stk_holds hf];unfold ziq;rw [hf,cK]
theorem stk_bel (hp:ProS s) (locs:List Int):zd3 s.vars.length (zj8 s locs):=zfz (ze0 fun v _ g hg=>by
 unfold zh4 at hg
 split at hg
 ·rw [bE.1 hg];exact belF_deny (canF_bel (snd_pro hp _).1 (snd_pro hp _).2)
 ·cases hg)
theorem both_eq (s:zan) (x y:StD) (k:Nat):bothV s x y k=List.replicate (k*s.vars.length) ze3++(x.vals++y.vals):=by unfold bothV;rw [cR]
theorem both_len (s:zan) (k:Nat):(List.replicate (k*s.vars.length) ze3).length=k*s.vars.length:=cT
theorem mov_bel (h:Bel m t) (hn:n<=1000000) (hm:m<=1000000):Bel (m+n) (movZ t (zae (n:Int))):=fun v hv=>by
 have hc:zae (n:Int)=(n:Int):=by unfold zae;omega
 rw [hc,movZ,zec]
 refine coefZ_far fun p hp e=>?_
 obtain ⟨q,hq,rfl⟩:=bF.1 hp
 have:=(zh9 h q (List.mem_filter.1 hq).1).2
 change q.v+(n:Int)=v at e
 omega
theorem movF_bel (hn:n<=1000000) (hm:m<=1000000) (f:za0) (h:zd3 m f):zd3 (m+n) (f.each (zcv (n:Int))):=belF_each (t:=zcv (n:Int)) (fun r hr=>mov_bel (t:=(cpR r).t) (zdg hr) hn hm) f h
theorem off_nat (s:zan) (k:Nat):offZ s k=((k*s.vars.length:Nat):Int):=by unfold offZ;rw [Int.natCast_mul]
theorem at_bel (hv:s.vars.length<=8) (hk:k<=4096) (hm:m<=1000000) (f:za0) (h:zd3 m f):zd3 (m+k*s.vars.length) (atF s f k):=by
 unfold atF;rw [off_nat]
 have hb:k*s.vars.length<=4096*8:=Nat.mul_le_mul hk hv
 exact movF_bel (by omega) hm f h
theorem cans_stuck (hp:ProS s) (hv8:s.vars.length<=8) (hk:k<=4096) (hf:zd2 s x=true):(atF s (zj8 s x.locs) k).holds (bothV s x y k)=ziq s x:=by
 rw [both_eq,at_holds hv8 hk (show s.vars.length<=1000000 by omega) (both_len s k) _ (stk_bel hp x.locs),holds_app y.vals (by rw [(zdi hf).2];exact bI _) _ (stk_bel hp x.locs),stk_stuck hf]
def za0.fk (f:za0):Prop:=f.fold fun k r ks hs=>((k=4\/k=5\/ks=[])/\(k=2->cpR r=r))/\∀ h ∈ hs,h
theorem za0.fk_eq (f:za0):f.fk ↔ ((f.kind=4\/f.kind=5\/f.kids=[])/\(f.kind=2->cpR f.r=f.r))/\∀ g ∈ f.kids,g.fk:=by
 have:=za0.fold_eq (fun k r ks (hs:List Prop)=>((k=4\/k=5\/ks=[])/\(k=2->cpR r=r))/\∀ h ∈ hs,h) f
 unfold za0.fk
 rw [this]
 refine and_congr_right fun _=>⟨fun h g hg=>h _ (bF.2 ⟨g,hg,rfl⟩),fun h p hp=>?_⟩
 obtain ⟨g,hg,rfl⟩:=bF.1 hp
 exact h g hg
theorem fk_tru (b:Bool):(zcs b).fk:=by rw [za0.fk_eq];exact ⟨⟨.inr (.inr rfl),fun e=>by cases b <;> exact absurd e (by decide)⟩,fun g hg=>by cases hg⟩
theorem tight_cp (r:za9):cpR (zat r).1=(zat r).1:=by
 unfold zat
 split
 ·rfl
 ·split
  ·rfl
  ·unfold cpR
   show (⟨za2 (if _ then zl7 (zct r.t) else zct r.t),r.eq⟩:za9)=_
   split
   ·show (⟨za2 (zl7 (zct r.t)),r.eq⟩:za9)=_
    unfold zl7 zbi;rw [zby]
   ·rw [shr_plain]
theorem fk_tight (r:za9):(zb0 r).fk:=by
 unfold zb0;split
 ·rw [za0.fk_eq];exact ⟨⟨.inr (.inr rfl),fun _=>tight_cp r⟩,fun g hg=>by cases hg⟩
 ·exact fk_tru _
theorem zhi {k:Int} (hk:k=4\/k=5):∀ (fs out:List za0),(∀ g ∈ out,g.fk)->(∀ g ∈ fs,g.fk)->(zbd k fs out).fk
 | [],out,h,_=>by
  unfold zbd
  match out with
  | []=>exact fk_tru _
  | [g]=>exact h g (bG ..)
  | g :: q :: l=>rw [za0.fk_eq];exact ⟨⟨by rcases hk with hk | hk;exact .inl hk;exact .inr (.inl hk),fun e=>by exfalso;change k=2 at e;omega⟩,h⟩
 | f :: fs,out,h,h2=>by
  rw [zbd]
  have hf:=h2 f (bG ..)
  have hfs:∀ g ∈ fs,g.fk:=fun g hg=>h2 g (b5 _ hg)
  split
  ·exact hf
  ·split
   ·exact zhi hk fs out h hfs
   ·split
    ·exact zhi hk fs _ (fun g hg=>(b9.1 hg).elim (h g) fun hg=>((za0.fk_eq _).1 hf).2 g hg) hfs
    ·exact zhi hk fs _ (fun g hg=>(b9.1 hg).elim (h g) fun hg=>by rw [bE.1 hg];exact hf) hfs
theorem flat_fk (f:za0):∀ d,(f.flat d).fk :=
 eE (P:=fun f=>∀ d,(f.flat d).fk) (fun k r ks ih d=>by
  rw [za0.flat_eq]
  show (zgu k r (ks.map eB) d).fk
  unfold zgu
  split
  ·exact fk_tru _
  ·split
   ·split
    ·refine zhi (.inr rfl) _ [] (fun g hg=>by cases hg) fun g hg=>?_
     obtain ⟨q,hq,rfl⟩:=bF.1 hg
     exact fk_tight q
    ·exact fk_tight r
   ·split
    ·cases ks with
     | nil=>exact fk_tru _
     | cons g gs=>exact ih g (bG ..) (!d)
    ·split
     ·rename_i h4
      refine zhi (by cases d <;> simp <;> omega) _ [] (fun g hg=>by cases hg) fun g hg=>?_
      rw [cC] at hg
      obtain ⟨q,hq,rfl⟩:=bF.1 hg
      exact ih q hq d
     ·exact fk_tru _) f
theorem cmpRl_cpl (p r:za9):zdm (cpR p) r=zdm p r:=by
 unfold zdm cpR cmpT
 simp only [zby];rfl
def za0.rd (ps:List za9) (bs:List Bool) (f:za0):Bool:=f.fold fun k r _ hs=>if k=0 then true else if k=2 then (bs[(atR ps r).toNat]?).getD false else if k=4 then hs.all id else if k=5 then hs.any id else false
theorem putZ_val (vs:List Int) (bys:List zaf) (ws:List ZI):∀ (ps:List za4) (o:zaf),zd6 (ps.foldl (zcf vs bys) o) ws=zd6 o ws+(ps.map fun p=>p.c.val*zd6 (pickT vs bys p.v) ws).sum
 | [],o=>by simp
 | p :: ps,o=>by
  rw [b8,putZ_val vs bys ws ps,bK,b7]
  unfold zcf
  rw [val_add,val_scale,Int.mul_comm,Int.add_assoc]
theorem valP_sum9 (F:Int->Int) (ws:List ZI):∀ ps:List za4,(∀ p ∈ ps,F p.v=zce ws p.v)->(ps.map fun p=>p.c.val*F p.v).sum=zeq ws ps
 | [],_=>rfl
 | p :: ps,h=>by
  unfold zeq
  rw [bK,b7,h p (bG ..),valP_sum9 F ws ps fun q hq=>h q (b5 _ hq)]
theorem put_val9 {vs:List Int} {bys:List zaf} {us:List ZI} (h:∀ v:Int,0<=v->zah t.parts v≠0->zd6 (pickT vs bys v) us=zce ws v):zd6 (putZ t vs bys) us=zd6 t ws:=by
 unfold putZ
 rw [putZ_val vs bys us,zj5,valP_sum9 (fun v=>zd6 (pickT vs bys v) us) ws,<- zc6 t ws]
 ·unfold zd6;rw [show (za2 t).k.val=t.k.val from d6 _]
 ·intro p hp
  obtain ⟨_,h2,_⟩:=zay t
  obtain ⟨h0,_,hne⟩:=h2 p hp
  refine h p.v h0 fun e=>hne ?_
  have e2:(za2 t).parts=(ze7 t.parts).map fun v=>⟨v,d5 (zah t.parts v)⟩:=rfl
  rw [e2] at hp
  obtain ⟨v,_,rfl⟩:=bF.1 hp
  show (d5 (zah t.parts v)).val=0
  rw [d6];exact e
theorem idxI_app:∀ (xs ys:List Int) (n:Nat),(v ∉ xs->zif v (xs++ys) n=zif v ys (n+xs.length))
 | [],ys,n,_=>by simp
 | x :: xs,ys,n,h=>by
  rw [c7,show zif v (x :: (xs++ys)) n=if v=x then (n:Int) else zif v (xs++ys) (n+1) from rfl,if_neg (fun e=>h (by rw [e];exact bG ..)),idxI_app xs ys (n+1) (fun h2=>h (b5 _ h2)),bP,show n+(xs.length+1)=n+1+xs.length by omega]
theorem preV_mem {c:zas} (h:v ∈ zck c n):∃ u:Nat,v=(u:Int)/\u<n/\(zd4 c u).2=true:=by
 unfold zck at h
 obtain ⟨u,hu,hx⟩:=c8.1 h
 split at hx
 ·rename_i e;exact ⟨u,bE.1 hx,cL.1 hu,e⟩
 ·cases hx
theorem preN_mem {c:zas} {v:Nat}:((v:Int) ∈ zd8 c n) ↔ (v<n/\(zd4 c v).2=false):=by
 unfold zd8
 rw [c8]
 constructor
 ·rintro ⟨u,hu,hx⟩
  split at hx
  ·cases hx
  ·rename_i e
   have:v=u:=by have:=bE.1 hx;omega
   subst this
   exact ⟨cL.1 hu,by simpa using e⟩
 ·rintro ⟨h1,h2⟩
  exact ⟨v,cL.2 h1,by rw [h2];simp⟩
theorem pre_lens (c:zas):∀ n,(zck c n).length=(zd9 c n).length
 | 0=>rfl
 | n+1=>by
  rw [(zh1 c n).1,(zh1 c n).2.1,bL,bL,pre_lens c n]
  split <;> rfl
theorem pick_known {c:zas} {v:Nat} (hk:(zd4 c v).2=true):∀ n,v<n->pickT (zck c n) (zd9 c n) (v:Int)=(zd4 c v).1
 | 0,h=>absurd h (dE _)
 | n+1,h=>by
  by_cases e:v=n
  ·subst e
   have hn:(v:Int) ∉ zck c v:=fun hm=>by obtain ⟨u,h1,h2,_⟩:=preV_mem hm;omega
   have h1:zif (v:Int) (zck c (v+1)) 0=((zck c v).length:Int):=by
    rw [(zh1 c v).1,if_pos hk,idxI_app _ _ _ hn]
    unfold zif
    rw [if_pos rfl];simp
   refine zls h1 ?_
   rw [(zh1 c v).2.1,if_pos hk,pre_lens,dD (bI _),dA];rfl
  ·have ih:=pick_known hk n (by omega)
   have hm:∀ (m:Nat),v<m->(v:Int) ∈ zck c m:=fun m hm=>by
    unfold zck;exact c8.2 ⟨v,cL.2 hm,by rw [if_pos hk];exact dQ _⟩
   have key:∀ (xs ys:List Int) (k:Nat),(v:Int) ∈ xs->zif (v:Int) (xs++ys) k=zif (v:Int) xs k/\(k:Int)<=zif (v:Int) xs k/\zif (v:Int) xs k<((k+xs.length:Nat):Int):=fun xs=>by
    induction xs with
    | nil=>intro ys k h;cases h
    | cons x xs ihx =>
     intro ys k h
     rw [c7]
     unfold zif
     by_cases e:(v:Int)=x
     ·rw [if_pos e,if_pos e];exact ⟨rfl,by omega,by rw [bP];omega⟩
     ·rw [if_neg e,if_neg e]
      have:=ihx ys (k+1) ((bS.1 h).resolve_left e)
      exact ⟨this.1,by omega,by rw [bP];omega⟩
   obtain ⟨k1,k2,k3⟩:=key (zck c n) (if (zd4 c n).2=true then [(n:Int)] else []) 0 (hm n (by omega))
   obtain ⟨i,hi⟩:∃ i:Nat,zif (v:Int) (zck c n) 0=(i:Int):=⟨_,(dG (by omega)).symm⟩
   have hil:i<(zd9 c n).length:=by rw [<- pre_lens];omega
   have h2:pickT (zck c n) (zd9 c n) (v:Int)=(zd9 c n)[i]:=zls hi (cM hil)
   rw [<- ih,h2]
   refine zls (by rw [(zh1 c n).1,k1];exact hi) ?_
   rw [(zh1 c n).2.1,cZ hil,cM hil]
theorem tight_bel {r:za9} (h:Bel m r.t):Bel m (zat r).1.t:=by
 have hs:Bel m (zct r.t):=fun v hv=>by
  unfold zct
  split
  ·rw [zec];exact h v hv
  ·refine coefZ_far fun p hp e=>?_
   obtain ⟨q,hq,rfl⟩:=bF.1 hp
   have:=(zh9 h q hq).2
   change q.v=v at e;omega
 unfold zat
 split
 ·exact fun v _=>rfl
 ·split
  ·exact fun v _=>rfl
  ·show Bel m (if _ then zl7 (zct r.t) else zct r.t)
   split
   ·exact zhm hs _
   ·exact hs
theorem belF_atomR {r:za9} {ks:List za0} (h:Bel m r.t):zd3 m ⟨2,r,ks⟩:=by
 rw [zdn];exact ⟨fun _=>h,fun g hg=>by cases hg⟩
theorem belF_tight {r:za9} (h:Bel m r.t):zd3 m (zb0 r):=by
 unfold zb0;split
 ·exact belF_atomR (tight_bel h)
 ·exact zek _ _
theorem deny_bel {r:za9} (h:Bel m r.t):∀ q ∈ zc1 r,Bel m q.t:=fun q hq=>by
 have hl:∀ t:zaf,Bel m t->Bel m (lowR t).t:=fun t ht=>bel_sub (zhm ht _) (zkw _ _)
 unfold zc1 at hq
 split at hq
 ·rcases bS.1 hq with rfl | hq
  ·exact hl _ (zhm h _)
  ·rw [bE.1 hq];exact hl _ h
 ·rw [bE.1 hq];exact hl _ h
theorem zfg {k:Int} (hk:k=4\/k=5):∀ (fs out:List za0),(∀ g ∈ out,zd3 m g)->(∀ g ∈ fs,zd3 m g/\g.fl)->zd3 m (zbd k fs out)
 | [],out,h,_=>by
  unfold zbd
  match out with
  | []=>exact zek _ _
  | [g]=>exact h g (bG ..)
  | g :: q :: l=>exact belF_kids (.inr hk) h
 | f :: fs,out,h,h2=>by
  rw [zbd]
  have hf:=h2 f (bG ..)
  have hfs:∀ g ∈ fs,zd3 m g/\g.fl:=fun g hg=>h2 g (b5 _ hg)
  split
  ·exact hf.1
  ·split
   ·exact zfg hk fs out h hfs
   ·split
    ·rename_i e
     exact zfg hk fs _ (fun g hg=>(b9.1 hg).elim (h g) fun hg=>((zdn _ _).1 hf.1).2 g (by unfold cnt;rw [if_pos (by omega)];exact hg)) hfs
    ·exact zfg hk fs _ (fun g hg=>(b9.1 hg).elim (h g) fun hg=>by rw [bE.1 hg];exact hf.1) hfs
theorem belF_flat (f:za0):zd3 m f->∀ d,zd3 m (f.flat d) :=
 eE (P:=fun f=>zd3 m f->∀ d,zd3 m (f.flat d)) (fun k r ks ih hf d=>by
  obtain ⟨h1,h3⟩:=(zdn _ _).1 hf
  change k=2->_ at h1
  change ∀ g ∈ cnt k ks,_ at h3
  rw [za0.flat_eq]
  show zd3 m (zgu k r (ks.map eB) d)
  unfold zgu
  split
  ·exact zek _ _
  ·split
   ·rename_i e
    split
    ·refine zfg (.inr rfl) _ [] (fun g hg=>by cases hg) fun g hg=>?_
     obtain ⟨q,hq,rfl⟩:=bF.1 hg
     exact ⟨belF_tight (deny_bel (h1 e) q hq),fl_tight q⟩
    ·exact belF_tight (h1 e)
   ·split
    ·rename_i e
     subst e
     cases ks with
     | nil=>exact zek _ _
     | cons g gs=>exact ih g (bG ..) (h3 g (bG ..)) (!d)
    ·split
     ·rename_i h4
      have hc:cnt k ks=ks:=by unfold cnt;rw [if_pos h4]
      rw [hc] at h3
      refine zfg (by cases d <;> simp <;> omega) _ [] (fun g hg=>by cases hg) fun g hg=>?_
      rw [cC] at hg
      obtain ⟨q,hq,rfl⟩:=bF.1 hg
      exact ⟨ih q hq (h3 q hq) d,flat_fl q d⟩
     ·exact zek _ _) f
theorem forg_holds {xs:List Int} {us:List ZI} {tr:za9->za9} (h:∀ r,Bel m r.t->xs.any (hasV r.t)=false->zax us (tr (cpR r))=zax ws r) (f:za0):f.fl->f.fk->zd3 m f->f.holds ws=true->((f.forg xs).each tr).holds us=true :=
 eE (P:=fun f=>f.fl->f.fk->zd3 m f->f.holds ws=true->((f.forg xs).each tr).holds us=true) (fun k r ks ih hfl hfk hb hh=>by
  obtain ⟨hk,hks⟩:=(za0.fl_eq _).1 hfl
  obtain ⟨⟨hkk,_⟩,hfks⟩:=(za0.fk_eq _).1 hfk
  obtain ⟨b1,b2⟩:=(zdn _ _).1 hb
  change k=0\/k=1\/k=2\/k=4\/k=5 at hk
  change k=4\/k=5\/ks=[] at hkk
  change k=2->Bel m r.t at b1
  change ∀ g ∈ cnt k ks,zd3 m g at b2
  rw [za0.holds_eq] at hh
  change (if k=0 then true else if k=2 then zax ws r else if k=3 then _ else if k=4 then ks.all (za0.holds ws) else if k=5 then ks.any (za0.holds ws) else false)=true at hh
  by_cases e2:k=2
  ·rw [if_neg (by omega),if_pos e2] at hh
   cases hx:xs.any (hasV r.t) with
   | true=>rw [forg_t (f:=⟨k,r,ks⟩) e2 hx,(each_nil tr).1];exact zda us true
   | false =>
    rw [forg_f (f:=⟨k,r,ks⟩) e2 hx,each_atom tr (f:=⟨k,r,ks⟩) e2,za0.holds_eq]
    show (if (2:Int)=0 then true else if (2:Int)=2 then zax us (tr (cpR r)) else _)=true
    rw [if_neg (by decide),if_pos rfl,h r (b1 e2) hx];exact hh
  ·rw [forg_k (f:=⟨k,r,ks⟩) e2]
   show (eA tr ⟨k,zR,ks.map (eC xs)⟩).holds us=true
   by_cases e0:k=0
   ·rw [each_0 tr (f:=⟨k,zR,_⟩) e0];exact zda us true
   ·rw [if_neg e0,if_neg e2] at hh
    by_cases e1:k=1
    ·subst e1;rw [if_neg (show ¬ (1:Int)=3 by decide),if_neg (show ¬ (1:Int)=4 by decide),if_neg (show ¬ (1:Int)=5 by decide)] at hh;cases hh
    ·have h45:k=4\/k=5:=by omega
     rw [if_neg (by omega)] at hh
     have hc:cnt k ks=ks:=by unfold cnt;rw [if_pos h45]
     rw [hc] at b2
     have e:eA tr ⟨k,zR,ks.map (eC xs)⟩=⟨k,zR,ks.map fun g=>(g.forg xs).each tr⟩:=by
      rw [za0.each_eq,zea _ _ _ (by show k=3\/k=4\/k=5;omega)]
      show (⟨k,zR,cnt k ((ks.map (eC xs)).map (eA tr))⟩:za0)=_
      rw [cC,show cnt k (ks.map (eA tr ∘ eC xs))=ks.map (eA tr ∘ eC xs) from by unfold cnt;rw [if_pos h45]];rfl
     rw [e,zfb us zR _ (by omega),if_neg (show ¬ k=3 by omega)]
     rcases h45 with e4 | e5
     ·rw [if_pos e4] at hh ⊢
      rw [bV] at hh ⊢
      intro g hg
      obtain ⟨q,hq,rfl⟩:=bF.1 hg
      exact ih q hq (hks q hq) (hfks q hq) (b2 q hq) (hh q hq)
     ·rw [if_neg (show ¬ k=4 by omega),if_pos e5] at hh
      rw [if_neg (show ¬ k=4 by omega)]
      rw [List.any_eq_true] at hh ⊢
      obtain ⟨q,hq,hq2⟩:=hh
      exact ⟨_,bF.2 ⟨q,hq,rfl⟩,ih q hq (hks q hq) (hfks q hq) (b2 q hq) hq2⟩) f
theorem mi7_9:ElT dX 168 30 3 56:=ElT.mk' Tryz.underlying168 _ _ rfl rfl
theorem addT_ok2 {L:Nat} {s:zaf} (hs:TOk n L s) (ht:TOk m L t) (hn:n+m<=1000000000):TOk (n+m) (L+2) (zkx s t):=by
 have h1:TOk (n+m) (L+1) ⟨s.parts++t.parts,d5 (s.k.val+t.k.val)⟩:=by
  refine ⟨by rw [bL];have:=hs.len;have:=ht.len;omega,fun p hp=>?_,ZI.lb_of _,ZI.len_of ?_⟩
  ·rcases b9.1 hp with hp | hp
   ·exact ⟨(hs.ps p hp).1,bU (hs.ps p hp).2 (Nat.le_succ _)⟩
   ·exact ⟨(ht.ps p hp).1,bU (ht.ps p hp).2 (Nat.le_succ _)⟩
  ·have a:=dB (ZI.abs_lt hs.kb) (zdt hs.kl);have b:=dB (ZI.abs_lt ht.kb) (zdt ht.kl);have c:=Int.natAbs_add_le s.k.val t.k.val
   have e:pw (L+1)=4294967296*pw L:=zar L
   omega
 exact h1.plain hn
theorem low_tok2 {L:Nat} (h:TOk n L t) (hn:n<=1000000000) (hL:3<=L):TOk n (L+5) (lowR t).t:=by
 have h1:=zlu h hn
 have h0:TOk 0 2 (zcu (d5 1)):=TOk.num (ZI.lb_of _) (by decide)
 have h2:TOk 0 (L+3) (zbi (zcu (d5 1)) (d5 (-1))):=((TOk.mul h0 (ZI.lb_of _) (show (d5 (-1)).abs.length<=2 from by decide)).plain (by decide)).mono (bI _) (by omega)
 exact (addT_ok2 h1 h2 (by omega)).mono (by omega) (by omega)
theorem deny_tok2 {L:Nat} {r:za9} (h:TOk n L r.t) (hn:n<=1000000000) (hL:3<=L):∀ q ∈ zc1 r,TOk n (L+8) q.t:=fun q hq=>by
 unfold zc1 at hq
 split at hq
 ·rcases bS.1 hq with rfl | hq
  ·exact low_tok2 (zlu h hn) hn (by omega)
  ·rw [bE.1 hq];exact (low_tok2 h hn hL).mono (bI _) (by omega)
 ·rw [bE.1 hq];exact (low_tok2 h hn hL).mono (bI _) (by omega)
theorem zjq {L:Nat} (hn:n<=1000000000) (hL:3<=L) (f:za0):f.okB n L->∀ d,(f.flat d).okA n (L+12) :=
 eE (P:=fun f=>f.okB n L->∀ d,(f.flat d).okA n (L+12)) (fun k r ks ih hf d=>by
  obtain ⟨⟨h1,h2⟩,h3⟩:=(za0.okB_eq _ _ _).1 hf
  change k=2->_ at h1
  change ∀ g ∈ cnt k ks,_ at h3
  rw [za0.flat_eq]
  show (zgu k r (ks.map eB) d).okA n (L+12)
  unfold zgu
  split
  ·exact okA_tru _ _ _
  ·split
   ·rename_i e
    split
    ·refine zgh (.inr rfl) _ [] (fun g hg=>by cases hg) fun g hg=>?_
     obtain ⟨q,hq,rfl⟩:=bF.1 hg
     exact tight_okA (deny_tok2 (h1 e) hn hL q hq) hn
    ·exact za0.okA_mono (bI _) (by omega) _ (tight_okA (h1 e) hn)
   ·split
    ·rename_i e
     subst e
     cases ks with
     | nil=>exact okA_tru _ _ _
     | cons g gs=>exact ih g (bG ..) (h3 g (bG ..)) (!d)
    ·split
     ·rename_i h4
      have hc:cnt k ks=ks:=by unfold cnt;rw [if_pos h4]
      rw [hc] at h3
      refine zgh (by cases d <;> simp <;> omega) _ [] (fun g hg=>by cases hg) fun g hg=>?_
      rw [cC] at hg
      obtain ⟨q,hq,rfl⟩:=bF.1 hg
      exact ih q hq (h3 q hq) d
     ·exact okA_tru _ _ _) f
theorem put_ok {L:Nat} (hn:n<=33000000) {vs:List Int} {bys:List zaf} (hf:f.okB n L) (hb:∀ b ∈ bys,zk5 b):(f.each (zbu vs bys)).okB (30*n) (L+24):=okB_each (t:=zbu vs bys) (fun r hr=>by
 have:=putZ_tok (t:=(cpR r).t) (vs:=vs) (hr.plain (bU hn (by decide))) hn hb
 exact this) f hf
theorem preT_ok {L:Nat} (hn:n<=33000000) (hL:3<=L) (hf:f.okB n L) (hfw:f.wid<=1000000000000) (act:Int):(((f.flat false).forg (zd8 (zac s act).1 s.vars.length)).okB n (L+12)) :=
 forg_ok _ _ (zjq (bU hn (by decide)) hL f hf false) (bU (zez f false) hfw)
theorem LPreM (s:zan) (f:za0) {L:Nat} (hf:f.okB n L) (hn:n<=33000000) (h30:30<=n) (hL3:3<=L) (hL:L<=1900) (hfw:f.wid<=1000000000000):Fn dX 70 [] [vG [.d (.sl 1 (s.vars.map zer)),.d (.sl 5 (s.bounds.map zak.d)),cI s.init.kind,cPs s.init.r.t.parts,cB s.init.r.t.k.neg,.d (nsl s.init.r.t.k.abs),cB s.init.r.eq,cFs s.init.kids,.d (.sl 3 (s.procs.map zbj.d)),.d (.sl 10 (s.acts.map eK))],vI (-1),vG [cI f.kind,cPs f.r.t.parts,cB f.r.t.k.neg,.d (nsl f.r.t.k.abs),cB f.r.eq,cFs f.kids]] (vG [cI (zcj [f]).kind,cPs (zcj [f]).r.t.parts,cB (zcj [f]).r.t.k.neg,.d (nsl (zcj [f]).r.t.k.abs),cB (zcj [f]).r.eq,cFs (zcj [f]).kids]) []:=by
 refine fB Tryz.func70 rfl 67 fun w H B a h=>Jq 0 [] [(1,vI (-1)),(3,vp 0 0),(5,vp 1 0),(6,vp 2 0)] [(0,.box [.d (.sl 1 (s.vars.map zer)),.d (.sl 5 (s.bounds.map zak.d)),cI s.init.kind,cPs s.init.r.t.parts,cB s.init.r.t.k.neg,.d (nsl s.init.r.t.k.abs),cB s.init.r.eq,cFs s.init.kids,.d (.sl 3 (s.procs.map zbj.d)),.d (.sl 10 (s.acts.map eK))]),(1,.box [cI f.kind,cPs f.r.t.parts,cB f.r.t.k.neg,.d (nsl f.r.t.k.abs),cB f.r.eq,cFs f.kids]),(2,.box zF0)] h fun a w h=>qW (Je 3 [(1,.cmp (op:=.eql) (m:=(-1)) (n:=(-1)) (b:=true) .i64 rfl)] [] [(16,vb true)] h fun a w h=>cS true h (fun _=>?_) nofun)
 refine Jg 3 [(1,.g (bD 18 ([f].map d7) [(17,vG [cI f.kind,cPs f.r.t.parts,cB f.r.t.k.neg,.d (nsl f.r.t.k.abs),cB f.r.eq,cFs f.kids])] kb_1 (.cons (i:=0) (d4 17 _) (.nil)) (by simp only [bK,bW,cG,cH,cD,d8]; try kernel_rfl) (by simp [d9]))),(2,.call (LAll [f] (fun g hg=>by rw [bE.1 hg];exact eH (by omega) (by omega) _ hf) (show List.length _<=1000000000000 from by simp)))] [16] [] [] [(2,.box [cI (zcj [f]).kind,cPs (zcj [f]).r.t.parts,cB (zcj [f]).r.t.k.neg,.d (nsl (zcj [f]).r.t.k.abs),cB (zcj [f]).r.eq,cFs (zcj [f]).kids])] h fun a w h=>qV (za5 (rA 2 [cI (zcj [f]).kind,cPs (zcj [f]).r.t.parts,cB (zcj [f]).r.t.k.neg,.d (nsl (zcj [f]).r.t.k.abs),cB (zcj [f]).r.eq,cFs (zcj [f]).kids] h zdh rfl ?_));rfl
theorem LPreS (s:zan) (act:Int) (f:za0) (ha:act≠-1) (hs:zbh 3 s) (hw:zlj s) {L:Nat} (hf:f.okB n L) (hn:n<=33000000) (h30:30<=n) (hL3:3<=L) (hL:L<=1900) (hfw:f.wid<=1000000000000):Fn dX 70 [] [vG [.d (.sl 1 (s.vars.map zer)),.d (.sl 5 (s.bounds.map zak.d)),cI s.init.kind,cPs s.init.r.t.parts,cB s.init.r.t.k.neg,.d (nsl s.init.r.t.k.abs),cB s.init.r.eq,cFs s.init.kids,.d (.sl 3 (s.procs.map zbj.d)),.d (.sl 10 (s.acts.map eK))],vI act,vG [cI f.kind,cPs f.r.t.parts,cB f.r.t.k.neg,.d (nsl f.r.t.k.abs),cB f.r.eq,cFs f.kids]] (vG [cI (if (zac s act).2=true then zcj [zex s (zac s act).1,(eA (zbu (zck (zac s act).1 s.vars.length) (zd9 (zac s act).1 s.vars.length)) (eC (zd8 (zac s act).1 s.vars.length) (eB f false)))] else zcs false).kind,cPs (if (zac s act).2=true then zcj [zex s (zac s act).1,(eA (zbu (zck (zac s act).1 s.vars.length) (zd9 (zac s act).1 s.vars.length)) (eC (zd8 (zac s act).1 s.vars.length) (eB f false)))] else zcs false).r.t.parts,cB (if (zac s act).2=true then zcj [zex s (zac s act).1,(eA (zbu (zck (zac s act).1 s.vars.length) (zd9 (zac s act).1 s.vars.length)) (eC (zd8 (zac s act).1 s.vars.length) (eB f false)))] else zcs false).r.t.k.neg,.d (nsl (if (zac s act).2=true then zcj [zex s (zac s act).1,(eA (zbu (zck (zac s act).1 s.vars.length) (zd9 (zac s act).1 s.vars.length)) (eC (zd8 (zac s act).1 s.vars.length) (eB f false)))] else zcs false).r.t.k.abs),cB (if (zac s act).2=true then zcj [zex s (zac s act).1,(eA (zbu (zck (zac s act).1 s.vars.length) (zd9 (zac s act).1 s.vars.length)) (eC (zd8 (zac s act).1 s.vars.length) (eB f false)))] else zcs false).r.eq,cFs (if (zac s act).2=true then zcj [zex s (zac s act).1,(eA (zbu (zck (zac s act).1 s.vars.length) (zd9 (zac s act).1 s.vars.length)) (eC (zd8 (zac s act).1 s.vars.length) (eB f false)))] else zcs false).kids]) []:=by
 have lvs:=hs.vars;obtain ⟨lq1,lq2,lq3⟩:=pre_len (zac s act).1 s.vars.length;have hpt:=preT_ok (s:=s) hn hL3 hf hfw act;have hcl:(eC (zd8 (zac s act).1 s.vars.length) (eB f false)).cl.okB n (L+13):=okB_cl (by omega) _ hpt
 have hsl:∀ g ∈ [zex s (zac s act).1,(eA (zbu (zck (zac s act).1 s.vars.length) (zd9 (zac s act).1 s.vars.length)) (eC (zd8 (zac s act).1 s.vars.length) (eB f false)))],g.okB (30*n) (L+60):=fun g hg=>by
  rcases bS.1 hg with rfl | hg
  ·exact eH (by omega) (by omega) _ (canF_ok hs (zg2 hs act) (zl6 hw act))
  rw [bE.1 hg];exact eH (by omega) (by omega) _ (put_ok hn hpt (preB_ok (zg2 hs act) _))
 refine fB Tryz.func70 rfl 67 fun w H B a h=>Jq 5 [] [(1,vI act),(3,vp 5 0),(5,vp 6 0),(6,vp 7 0)] [(5,.box [.d (.sl 1 (s.vars.map zer)),.d (.sl 5 (s.bounds.map zak.d)),cI s.init.kind,cPs s.init.r.t.parts,cB s.init.r.t.k.neg,.d (nsl s.init.r.t.k.abs),cB s.init.r.eq,cFs s.init.kids,.d (.sl 3 (s.procs.map zbj.d)),.d (.sl 10 (s.acts.map eK))]),(6,.box [cI f.kind,cPs f.r.t.parts,cB f.r.t.k.neg,.d (nsl f.r.t.k.abs),cB f.r.eq,cFs f.kids]),(7,.box zF0)] h fun a w h=>qW (Je 8 [(1,.cmp (op:=.eql) (m:=act) (n:=(-1)) (b:=false) .i64 (beq_eq_false_iff_ne.2 ha))] [] [(16,vb false)] h fun a w h=>zau h (qU (za1 (Jg 8 [(2,.call (Lsound s act hs))] [1,16] [(7,vp 8 0),(8,vb (zac s act).2)] [] [(8,.box [cI (zac s act).1.proc,cI (zac s act).1.from_,cI (zac s act).1.to_,cI (zac s act).1.guard.kind,cPs (zac s act).1.guard.r.t.parts,cB (zac s act).1.guard.r.t.k.neg,.d (nsl (zac s act).1.guard.r.t.k.abs),cB (zac s act).1.guard.r.eq,cFs (zac s act).1.guard.kids,.d (.sl 5 ((zac s act).1.moves.map zai.d))])] h fun a w h=>qW (Je 9 [] [8] [(27,vb (!(zac s act).2))] h fun a w h=>cS (!(zac s act).2) h (fun hc1=>?_) (fun hc2=>?_))))))
 ·refine Jg 9 [(0,.call (zk3 false))] [27] [] [] [(7,.box [cI (zcs false).kind,cPs (zcs false).r.t.parts,cB (zcs false).r.t.k.neg,.d (nsl (zcs false).r.t.k.abs),cB (zcs false).r.eq,cFs (zcs false).kids])] h fun a w h=>qV (za5 (rA 7 [cI (zcs false).kind,cPs (zcs false).r.t.parts,cB (zcs false).r.t.k.neg,.d (nsl (zcs false).r.t.k.abs),cB (zcs false).r.eq,cFs (zcs false).kids] h zdh rfl ?_));rw [if_neg (by rw [(show ((zac s act).2)=false from by simpa using hc1)];exact Bool.noConfusion)];try rfl
 refine qU (za1 (Je 9 [] [27] [(9,vW zam),(10,vW zam)] h fun a w h=>Je 9 [] [] [(11,vW zam)] h fun a w h=>qW (Je 9 [(2,.len (za3 1 zer s.vars))] [] [(31,vN s.vars.length),(32,vI 0)] h fun a w h=>qZ ?_)));replace h:=zfr 9 0 9 1 3 (vW zam) h;replace h:=zfr 10 0 10 1 3 (vW zam) h;replace h:=zfr 11 0 11 3 30 (vW zam) h;replace h:=cvM [] [(9,vO 9 (zck (zac s act).1 0).length)] [] [(9,.row 3 1 ((zck (zac s act).1 0).map zal))] (by rw [<- show ([]:List Int)=(zck (zac s act).1 0) from rfl]; try kernel_rfl) h;replace h:=cvM [] [(10,vO 10 (zd8 (zac s act).1 0).length)] [] [(10,.row 3 1 ((zd8 (zac s act).1 0).map zal))] (by rw [<- show ([]:List Int)=(zd8 (zac s act).1 0) from rfl]; try kernel_rfl) h
 refine zbw (ι:=(Nat)) (fun j=>j<=s.vars.length)
   [] (fun j=>[(9,vO 9 (zck (zac s act).1 j).length),(10,vO 10 (zd8 (zac s act).1 j).length),(11,vO 11 (zd9 (zac s act).1 j).length),(32,vN j)])
   [] (fun j=>[(9,.row 3 1 ((zck (zac s act).1 j).map zal)),(10,.row 3 1 ((zd8 (zac s act).1 j).map zal)),(11,.row 30 3 ((zd9 (zac s act).1 j).map zaf.d))])
   (fun j=>s.vars.length - j) 0 ?_ h ?_
 ·exact bJ _
 clear h;rintro j a w hI h;obtain ⟨lp1,lp2,lp3⟩:=pre_len (zac s act).1 j;refine Je 12 [] [] [(33,vb (decide ((j:Int)<(s.vars.length:Int))))] h fun a w h=>qW (zad ((j:Int)<(s.vars.length:Int)) h (fun hc3 hc3'=>?_) (fun hc6 hc6'=>?_))
 ·refine qU (za1 (qW (qZ (Je 12 [] [33] [(12,vN j)] h fun a w h=>Jg 12 [(2,.call (Lvalue (zac s act).1 j (zg2 hs _)))] [] [(13,vp 12 0),(14,vb (zd4 (zac s act).1 j).2)] [] [(12,.box [cPs (zd4 (zac s act).1 j).1.parts,cB (zd4 (zac s act).1 j).1.k.neg,.d (nsl (zd4 (zac s act).1 j).1.k.abs)])] h fun a w h=>Je 13 [] [14] [(41,vb (zd4 (zac s act).1 j).2)] h fun a w h=>cS (zd4 (zac s act).1 j).2 h (fun hc4=>?_) (fun hc5=>?_)))))
  ·refine Jh 13 [(2,.g (bD 44 ([(j:Int)].map zal) [(43,vN j)] tb_0 (.cons (i:=0) (d4 43 _) (.nil)) (by kernel_rfl) (by simp [zal]))),(3,.g (Op.appOD (d:=45) (t:=42) (u:=44) (n:=9) (n':=13) (len:=(zck (zac s act).1 j).length) (len':=((zck (zac s act).1 j)++[(j:Int)]).length) (rows:=(zck (zac s act).1 j).map zal) (rows2:=[(j:Int)].map zal) (rows':=((zck (zac s act).1 j)++[(j:Int)]).map zal) tb_2 (by first | exact (bC _).symm | simp) (by first | (rw [bL,bC];done) | (simp;done) | (simp;omega)) (by simp) (by simp [zal]) (by first | omega | (simp at *;done) | (simp at *;omega)))),(6,.g (bD 48 ([(zd4 (zac s act).1 j).1].map zaf.d) [(47,vG [cPs (zd4 (zac s act).1 j).1.parts,cB (zd4 (zac s act).1 j).1.k.neg,.d (nsl (zd4 (zac s act).1 j).1.k.abs)])] tq_13 (.cons (i:=0) (d4 47 _) (.nil)) (by kernel_rfl) (by simp [zaf.d]))),(7,.g (Op.appOD (d:=49) (t:=46) (u:=48) (n:=11) (n':=14) (len:=(zd9 (zac s act).1 j).length) (len':=((zd9 (zac s act).1 j)++[(zd4 (zac s act).1 j).1]).length) (rows:=(zd9 (zac s act).1 j).map zaf.d) (rows2:=[(zd4 (zac s act).1 j).1].map zaf.d) (rows':=((zd9 (zac s act).1 j)++[(zd4 (zac s act).1 j).1]).map zaf.d) mi7_9 (by first | exact (bC _).symm | simp) (by first | (rw [bL,bC];done) | (simp;done) | (simp;omega)) (by simp) (by simp [zaf.d]) (by first | omega | (simp at *;done) | (simp at *;omega))))] [12,13,41] [(9,vO 13 ((zck (zac s act).1 j)++[(j:Int)]).length),(11,vO 14 ((zd9 (zac s act).1 j)++[(zd4 (zac s act).1 j).1]).length)] [9,11,12] [(13,.row 3 1 (((zck (zac s act).1 j)++[(j:Int)]).map zal)),(14,.row 30 3 (((zd9 (zac s act).1 j)++[(zd4 (zac s act).1 j).1]).map zaf.d))] h fun a w h=>za6 (za1 (Jf 15 [(0,.j1 j)] [] [(32,vI ((j:Int)+1))] h fun a w h=>za1 ?_));rw [show (((zck (zac s act).1 j)++[(j:Int)]):List Int)=(zck (zac s act).1 (j+1)) from (by rw [(zh1 (zac s act).1 j).1,if_pos hc4];first | done | simp)] at h;replace h:=cv (fun z_:List Int=>F.of [(3,vp 5 0),(5,vp 6 0),(6,vp 7 0),(7,vp 8 0),(9,vO 13 (zck (zac s act).1 (j+1)).length),(10,vO 10 z_.length),(11,vO 14 ((zd9 (zac s act).1 j)++[(zd4 (zac s act).1 j).1]).length),(31,vN s.vars.length),(32,vI ((j:Int)+1))] [(5,.box [.d (.sl 1 (s.vars.map zer)),.d (.sl 5 (s.bounds.map zak.d)),cI s.init.kind,cPs s.init.r.t.parts,cB s.init.r.t.k.neg,.d (nsl s.init.r.t.k.abs),cB s.init.r.eq,cFs s.init.kids,.d (.sl 3 (s.procs.map zbj.d)),.d (.sl 10 (s.acts.map eK))]),(6,.box [cI f.kind,cPs f.r.t.parts,cB f.r.t.k.neg,.d (nsl f.r.t.k.abs),cB f.r.eq,cFs f.kids]),(7,.box zF0),(8,.box [cI (zac s act).1.proc,cI (zac s act).1.from_,cI (zac s act).1.to_,cI (zac s act).1.guard.kind,cPs (zac s act).1.guard.r.t.parts,cB (zac s act).1.guard.r.t.k.neg,.d (nsl (zac s act).1.guard.r.t.k.abs),cB (zac s act).1.guard.r.eq,cFs (zac s act).1.guard.kids,.d (.sl 5 ((zac s act).1.moves.map zai.d))]),(10,.row 3 1 (z_.map zal)),(13,.row 3 1 ((zck (zac s act).1 (j+1)).map zal)),(14,.row 30 3 (((zd9 (zac s act).1 j)++[(zd4 (zac s act).1 j).1]).map zaf.d))]) (show ((zd8 (zac s act).1 j):List Int)=(zd8 (zac s act).1 (j+1)) from (by rw [(zh1 (zac s act).1 j).2.2,if_pos hc4];first | done | simp)) (h.conv (by kernel_rfl));rw [show (((zd9 (zac s act).1 j)++[(zd4 (zac s act).1 j).1]):List zaf)=(zd9 (zac s act).1 (j+1)) from (by rw [(zh1 (zac s act).1 j).2.1,if_pos hc4];first | done | simp)] at h;replace h:=zd7 13 9 h;replace h:=zd7 14 11 h;refine zaa (x:=j) (y:=j+1) h ?_ ?_
   ·have:=dT hc3;show j+1<=s.vars.length;omega
   show s.vars.length - (j+1)<s.vars.length - j;have:=dT hc3;omega
  refine Jh 15 [(2,.g (bD 52 ([(j:Int)].map zal) [(51,vN j)] tb_0 (.cons (i:=0) (d4 51 _) (.nil)) (by kernel_rfl) (by simp [zal]))),(3,.g (Op.appOD (d:=53) (t:=50) (u:=52) (n:=10) (n':=15) (len:=(zd8 (zac s act).1 j).length) (len':=((zd8 (zac s act).1 j)++[(j:Int)]).length) (rows:=(zd8 (zac s act).1 j).map zal) (rows2:=[(j:Int)].map zal) (rows':=((zd8 (zac s act).1 j)++[(j:Int)]).map zal) tb_2 (by first | exact (bC _).symm | simp) (by first | (rw [bL,bC];done) | (simp;done) | (simp;omega)) (by simp) (by simp [zal]) (by first | omega | (simp at *;done) | (simp at *;omega))))] [12,13,41] [(10,vO 15 ((zd8 (zac s act).1 j)++[(j:Int)]).length)] [10,12] [(15,.row 3 1 (((zd8 (zac s act).1 j)++[(j:Int)]).map zal))] h fun a w h=>za6 (za1 (Jf 16 [(0,.j1 j)] [] [(32,vI ((j:Int)+1))] h fun a w h=>za1 ?_));replace h:=cvM [] [(9,vO 9 (zck (zac s act).1 (j+1)).length)] [] [(9,.row 3 1 ((zck (zac s act).1 (j+1)).map zal))] (by rw [<- show ((zck (zac s act).1 j):List Int)=(zck (zac s act).1 (j+1)) from (by rw [(zh1 (zac s act).1 j).1,if_neg (by rw [hc5];exact Bool.noConfusion)];first | done | simp)]; try kernel_rfl) h;rw [show (((zd8 (zac s act).1 j)++[(j:Int)]):List Int)=(zd8 (zac s act).1 (j+1)) from (by rw [(zh1 (zac s act).1 j).2.2,if_neg (by rw [hc5];exact Bool.noConfusion)];first | done | simp)] at h;replace h:=cv (fun z_:List zaf=>F.of [(3,vp 5 0),(5,vp 6 0),(6,vp 7 0),(7,vp 8 0),(9,vO 9 (zck (zac s act).1 (j+1)).length),(10,vO 15 (zd8 (zac s act).1 (j+1)).length),(11,vO 11 z_.length),(31,vN s.vars.length),(32,vI ((j:Int)+1))] [(5,.box [.d (.sl 1 (s.vars.map zer)),.d (.sl 5 (s.bounds.map zak.d)),cI s.init.kind,cPs s.init.r.t.parts,cB s.init.r.t.k.neg,.d (nsl s.init.r.t.k.abs),cB s.init.r.eq,cFs s.init.kids,.d (.sl 3 (s.procs.map zbj.d)),.d (.sl 10 (s.acts.map eK))]),(6,.box [cI f.kind,cPs f.r.t.parts,cB f.r.t.k.neg,.d (nsl f.r.t.k.abs),cB f.r.eq,cFs f.kids]),(7,.box zF0),(8,.box [cI (zac s act).1.proc,cI (zac s act).1.from_,cI (zac s act).1.to_,cI (zac s act).1.guard.kind,cPs (zac s act).1.guard.r.t.parts,cB (zac s act).1.guard.r.t.k.neg,.d (nsl (zac s act).1.guard.r.t.k.abs),cB (zac s act).1.guard.r.eq,cFs (zac s act).1.guard.kids,.d (.sl 5 ((zac s act).1.moves.map zai.d))]),(9,.row 3 1 ((zck (zac s act).1 (j+1)).map zal)),(11,.row 30 3 (z_.map zaf.d)),(15,.row 3 1 ((zd8 (zac s act).1 (j+1)).map zal))]) (show ((zd9 (zac s act).1 j):List zaf)=(zd9 (zac s act).1 (j+1)) from (by rw [(zh1 (zac s act).1 j).2.1,if_neg (by rw [hc5];exact Bool.noConfusion)];first | done | simp)) (h.conv (by kernel_rfl));replace h:=zd7 15 10 h;refine zaa (x:=j) (y:=j+1) h ?_ ?_
  ·have:=dT hc3;show j+1<=s.vars.length;omega
  show s.vars.length - (j+1)<s.vars.length - j;have:=dT hc3;omega
 refine exA ?_;replace h:=cvM [] [(9,vO 9 (zck (zac s act).1 s.vars.length).length)] [] [(9,.row 3 1 ((zck (zac s act).1 s.vars.length).map zal))] (by rw [<- show ((zck (zac s act).1 j):List Int)=(zck (zac s act).1 s.vars.length) from (by rw [show j=s.vars.length by have:=dF hc6;omega])]; try kernel_rfl) h;replace h:=zj2 9 1 3 ((zck (zac s act).1 s.vars.length).map zal) h [(zck (zac s act).1 s.vars.length).length] ⟨by first | exact (bC _).symm | (simp;done) | (simp;omega),trivial⟩;replace h:=cvM [] [(10,vO 10 (zd8 (zac s act).1 s.vars.length).length)] [] [(10,.row 3 1 ((zd8 (zac s act).1 s.vars.length).map zal))] (by rw [<- show ((zd8 (zac s act).1 j):List Int)=(zd8 (zac s act).1 s.vars.length) from (by rw [show j=s.vars.length by have:=dF hc6;omega])]; try kernel_rfl) h;replace h:=zj2 10 1 3 ((zd8 (zac s act).1 s.vars.length).map zal) h [(zd8 (zac s act).1 s.vars.length).length] ⟨by first | exact (bC _).symm | (simp;done) | (simp;omega),trivial⟩;replace h:=cvM [] [(11,vO 11 (zd9 (zac s act).1 s.vars.length).length)] [] [(11,.row 30 3 ((zd9 (zac s act).1 s.vars.length).map zaf.d))] (by rw [<- show ((zd9 (zac s act).1 j):List zaf)=(zd9 (zac s act).1 s.vars.length) from (by rw [show j=s.vars.length by have:=dF hc6;omega])]; try kernel_rfl) h;replace h:=zj2 11 3 30 ((zd9 (zac s act).1 s.vars.length).map zaf.d) h [(zd9 (zac s act).1 s.vars.length).length] ⟨by first | exact (bC _).symm | (simp;done) | (simp;omega),trivial⟩;refine Jq 16 [(2,.call (Lcan s (zac s act).1 hs (zg2 hs _) (zl6 hw _))),(4,.call (LFlat f (eH (by omega) (by omega) _ hf) (by omega))),(6,.call (Lforget (zd8 (zac s act).1 s.vars.length) (by omega) (eB f false) (za0.okA_mono (by omega) (by omega) _ (zjq (by omega) hL3 f hf false)) (bU (zez f false) (by omega)))),(9,.call (LPutAllF (eC (zd8 (zac s act).1 s.vars.length) (eB f false)) (zck (zac s act).1 s.vars.length) (zd9 (zac s act).1 s.vars.length) (eH (by omega) (by omega) _ hpt) hcl (by omega) (by omega) (preB_ok (zg2 hs act) _) (by omega) (by omega))),(10,.g (Op.buildD (d:=65) (len:=2) (rows:=[(zex s (zac s act).1),(eA (zbu (zck (zac s act).1 s.vars.length) (zd9 (zac s act).1 s.vars.length)) (eC (zd8 (zac s act).1 s.vars.length) (eB f false)))].map d7) (rs:=[(57,vG [cI (zex s (zac s act).1).kind,cPs (zex s (zac s act).1).r.t.parts,cB (zex s (zac s act).1).r.t.k.neg,.d (nsl (zex s (zac s act).1).r.t.k.abs),cB (zex s (zac s act).1).r.eq,cFs (zex s (zac s act).1).kids]),(64,vG [cI (eA (zbu (zck (zac s act).1 s.vars.length) (zd9 (zac s act).1 s.vars.length)) (eC (zd8 (zac s act).1 s.vars.length) (eB f false))).kind,cPs (eA (zbu (zck (zac s act).1 s.vars.length) (zd9 (zac s act).1 s.vars.length)) (eC (zd8 (zac s act).1 s.vars.length) (eB f false))).r.t.parts,cB (eA (zbu (zck (zac s act).1 s.vars.length) (zd9 (zac s act).1 s.vars.length)) (eC (zd8 (zac s act).1 s.vars.length) (eB f false))).r.t.k.neg,.d (nsl (eA (zbu (zck (zac s act).1 s.vars.length) (zd9 (zac s act).1 s.vars.length)) (eC (zd8 (zac s act).1 s.vars.length) (eB f false))).r.t.k.abs),cB (eA (zbu (zck (zac s act).1 s.vars.length) (zd9 (zac s act).1 s.vars.length)) (eC (zd8 (zac s act).1 s.vars.length) (eB f false))).r.eq,cFs (eA (zbu (zck (zac s act).1 s.vars.length) (zd9 (zac s act).1 s.vars.length)) (eC (zd8 (zac s act).1 s.vars.length) (eB f false))).kids])]) kb_1 (.cons (i:=0) (d4 57 _) (.cons (i:=1) (d4 64 _) (.nil))) (by simp only [bK,bW,cG,cH,cD,d8]; try kernel_rfl) rfl (by simp [d9]) (by decide) (by decide))),(11,.call (LAll [zex s (zac s act).1,(eA (zbu (zck (zac s act).1 s.vars.length) (zd9 (zac s act).1 s.vars.length)) (eC (zd8 (zac s act).1 s.vars.length) (eB f false)))] (fun g hg=>eH (by omega) (by omega) _ (hsl g hg)) (show List.length _<=1000000000000 from by simp)))] [(6,vp 7 0)] [(7,.box [cI (zcj [zex s (zac s act).1,(eA (zbu (zck (zac s act).1 s.vars.length) (zd9 (zac s act).1 s.vars.length)) (eC (zd8 (zac s act).1 s.vars.length) (eB f false)))]).kind,cPs (zcj [zex s (zac s act).1,(eA (zbu (zck (zac s act).1 s.vars.length) (zd9 (zac s act).1 s.vars.length)) (eC (zd8 (zac s act).1 s.vars.length) (eB f false)))]).r.t.parts,cB (zcj [zex s (zac s act).1,(eA (zbu (zck (zac s act).1 s.vars.length) (zd9 (zac s act).1 s.vars.length)) (eC (zd8 (zac s act).1 s.vars.length) (eB f false)))]).r.t.k.neg,.d (nsl (zcj [zex s (zac s act).1,(eA (zbu (zck (zac s act).1 s.vars.length) (zd9 (zac s act).1 s.vars.length)) (eC (zd8 (zac s act).1 s.vars.length) (eB f false)))]).r.t.k.abs),cB (zcj [zex s (zac s act).1,(eA (zbu (zck (zac s act).1 s.vars.length) (zd9 (zac s act).1 s.vars.length)) (eC (zd8 (zac s act).1 s.vars.length) (eB f false)))]).r.eq,cFs (zcj [zex s (zac s act).1,(eA (zbu (zck (zac s act).1 s.vars.length) (zd9 (zac s act).1 s.vars.length)) (eC (zd8 (zac s act).1 s.vars.length) (eB f false)))]).kids])] h fun a w h=>?_;refine qV (rA 7 [cI (zcj [zex s (zac s act).1,(eA (zbu (zck (zac s act).1 s.vars.length) (zd9 (zac s act).1 s.vars.length)) (eC (zd8 (zac s act).1 s.vars.length) (eB f false)))]).kind,cPs (zcj [zex s (zac s act).1,(eA (zbu (zck (zac s act).1 s.vars.length) (zd9 (zac s act).1 s.vars.length)) (eC (zd8 (zac s act).1 s.vars.length) (eB f false)))]).r.t.parts,cB (zcj [zex s (zac s act).1,(eA (zbu (zck (zac s act).1 s.vars.length) (zd9 (zac s act).1 s.vars.length)) (eC (zd8 (zac s act).1 s.vars.length) (eB f false)))]).r.t.k.neg,.d (nsl (zcj [zex s (zac s act).1,(eA (zbu (zck (zac s act).1 s.vars.length) (zd9 (zac s act).1 s.vars.length)) (eC (zd8 (zac s act).1 s.vars.length) (eB f false)))]).r.t.k.abs),cB (zcj [zex s (zac s act).1,(eA (zbu (zck (zac s act).1 s.vars.length) (zd9 (zac s act).1 s.vars.length)) (eC (zd8 (zac s act).1 s.vars.length) (eB f false)))]).r.eq,cFs (zcj [zex s (zac s act).1,(eA (zbu (zck (zac s act).1 s.vars.length) (zd9 (zac s act).1 s.vars.length)) (eC (zd8 (zac s act).1 s.vars.length) (eB f false)))]).kids] h zdh rfl ?_);rw [if_pos (show ((zac s act).2)=true from by simpa using hc2)];try rfl
theorem at_ok9 (h:f.okB 40 200) (s:zan) (k:Nat):(atF s f k).okB 40 203:=okB_each (t:=zcv (offZ s k)) (fun r hr=>by
 have:=movZ_tok (hr.plain (by decide)) (by decide) (zae (offZ s k))
 exact this) f h
theorem preK_ok (hs:zbh 3 s) (hw:zlj s) (act:Int) {L:Nat} (hf:f.okB n L) (hn:n<=33000000) (h30:30<=n) (hL3:3<=L) (hL:L<=1900) (hfw:f.wid<=1000000000000):(preF s act f).okB (30*n) (L+61):=by
 unfold preF;split
 ·exact eH (by omega) (by omega) _ (ziz (n:=n) (L:=L) (by omega) (fun g hg=>by rw [bE.1 hg];exact hf) (show List.length _<=1000000000000 from by simp))
 ·split
  ·refine ziz (n:=30*n) (L:=L+60) (by omega) (fun g hg=>?_) (show List.length _<=1000000000000 from by simp)
   rcases bS.1 hg with rfl | hg
   ·exact eH (by omega) (by omega) _ (canF_ok hs (zg2 hs act) (zl6 hw act))
   ·rw [bE.1 hg];exact eH (by omega) (by omega) _ (put_ok hn (preT_ok hn hL3 hf hfw act) (preB_ok (zg2 hs act) _))
  ·exact okB_tru _ _ _
theorem LPre (s:zan) (act:Int) (f:za0) (hs:zbh 3 s) (hw:zlj s) {L:Nat} (hf:f.okB n L) (hn:n<=33000000) (h30:30<=n) (hL3:3<=L) (hL:L<=1900) (hfw:f.wid<=1000000000000):Fn dX 70 [] [vG (zcn s),vi .i64 act,(vF f)] (vF (preF s act f)) []:=by
 by_cases ha:act=-1
 ·subst ha;rw [show preF s (-1) f=_ from if_pos rfl];exact LPreM s f hf hn h30 hL3 hL hfw
 ·rw [show preF s act f=_ from if_neg ha];exact LPreS s act f ha hs hw hf hn h30 hL3 hL hfw
theorem vokE (ns:List Int) (hl:ns.length<=2000) (h:∀ z ∈ ns,-9223372036854775808<=z/\z<=9223372036854775807):VOk 3 (ns.map d5):=⟨by rw [bC];exact hl,fun y hy=>by
 obtain ⟨z,hz,rfl⟩:=bF.1 hy
 have:=h z hz
 exact ⟨ZI.lb_of _,bU (ZI.len_of (L:=2) (by have:=pw2;omega)) (by decide)⟩⟩
theorem sum_cnt (k:Int) (xs:List za0):((cnt k xs).map eF).sum<=(xs.map eF).sum:=by
 unfold cnt
 split
 ·exact bI _
 ·split
  ·cases xs with
   | nil=>exact bI _
   | cons x xs=>simp
  ·exact bJ _
theorem sum_mul3 (xs:List za0):(xs.map fun g=>3*g.nodes).sum=3*(xs.map eF).sum:=by
 induction xs with
 | nil=>rfl
 | cons x xs ih=>rw [bK,bK,b7,b7,ih];omega
theorem zf3 (f:za0):f.wid<=3*f.nodes :=
 eE (P:=fun f=>f.wid<=3*f.nodes) (fun k r ks ih=>by
  rw [za0.wid_eq,eG]
  show 3+((cnt k ks).map za0.wid).sum<=3*(1+(ks.map eF).sum)
  have h1:=zl4 (xs:=cnt k ks) (F:=za0.wid) (G:=fun g=>3*g.nodes) fun g hg=>ih g (zb9 hg)
  have h2:=sum_mul3 (cnt k ks)
  have h3:=sum_cnt k ks
  omega) f
theorem each_wid (t:za9->za9) (f:za0):(f.each t).nodes<=f.wid :=
 eE (P:=fun f=>(f.each t).nodes<=f.wid) (fun k r ks ih=>by
  rw [za0.each_eq,za0.wid_eq]
  show (zfd t k r (ks.map (eA t))).nodes<=3+((cnt k ks).map za0.wid).sum
  unfold zfd
  split
  ·rw [eG];show 1+0<=_;omega
  ·split
   ·rw [eG];show 1+0<=_;omega
   ·split
    ·rw [eG]
     show 1+((cnt k (ks.map (eA t))).map eF).sum<=_
     rw [zd0,cC]
     have:=zl4 (xs:=cnt k ks) (F:=eF ∘ eA t) (G:=za0.wid) fun g hg=>ih g (zb9 hg)
     omega
    ·rw [eG];show 1+0<=_;omega) f
theorem zgi (t:za9->za9) (f:za0):(f.each t).nodes<=f.nodes :=
 eE (P:=fun f=>(f.each t).nodes<=f.nodes) (fun k r ks ih=>by
  rw [za0.each_eq,eG ⟨k,r,ks⟩]
  show (zfd t k r (ks.map (eA t))).nodes<=1+(ks.map eF).sum
  unfold zfd
  split
  ·rw [eG];show 1+0<=_;omega
  ·split
   ·rw [eG];show 1+0<=_;omega
   ·split
    ·rw [eG]
     show 1+((cnt k (ks.map (eA t))).map eF).sum<=_
     rw [zd0,cC]
     have h1:=zl4 (xs:=cnt k ks) (F:=eF ∘ eA t) (G:=eF) fun g hg=>ih g (zb9 hg)
     have h2:=sum_cnt k ks
     omega
    ·rw [eG];show 1+0<=_;omega) f
theorem zgn (fs:List za0):(zcj fs).nodes<=1+(fs.map eF).sum:=by
 rw [eG]
 show 1+((fs.map za0.cl).map eF).sum<=_
 rw [cC]
 have:=zl4 (xs:=fs) (F:=eF ∘ za0.cl) (G:=eF) fun g _=>zgi id g
 omega
theorem deny_nodes (f:za0):(ziv f).nodes<=1+f.nodes:=by
 rw [eG];show 1+(f.cl.nodes+0)<=_;have:f.cl.nodes<=f.nodes:=zgi id f;omega
theorem zgl (r:za9):(zfp r).nodes=1:=by rw [eG];rfl
theorem forg_nodes (vs:List Int) (f:za0):(f.forg vs).nodes<=f.nodes :=
 eE (P:=fun f=>(f.forg vs).nodes<=f.nodes) (fun k r ks ih=>by
  rw [za0.forg_eq,eG ⟨k,r,ks⟩]
  show (forgK vs k r ks (ks.map (eC vs))).nodes<=1+(ks.map eF).sum
  unfold forgK
  split
  ·split
   ·rw [eG];show 1+0<=_;omega
   ·rw [eG];exact bI _
  ·rw [eG]
   show 1+((ks.map (eC vs)).map eF).sum<=_
   rw [cC]
   have:=zl4 (xs:=ks) (F:=eF ∘ eC vs) (G:=eF) fun g hg=>ih g hg
   omega) f
theorem sum_c {α:Type} {F:α->Nat} {c:Nat}:∀ {xs:List α}, (∀ x ∈ xs,F x<=c)->(xs.map F).sum<=xs.length*c
 | [],_=>bJ _
 | x :: xs,h=>by
  rw [bK,b7,bP,Nat.succ_mul]
  have:=h x (bG ..);have:=sum_c (xs:=xs) fun y hy=>h y (b5 _ hy);omega
theorem canS_nodes (s:zan) (c:zas) (v:Nat):∀ g ∈ zfy s c v,g.nodes<=1:=fun g hg=>by
 unfold zfy bndF at hg
 split at hg
 ·split at hg
  ·rcases bS.1 hg with rfl | hg
   ·exact dH (zgl _)
   ·rw [bE.1 hg];exact dH (zgl _)
  ·cases hg
 ·split at hg
  ·rw [bE.1 hg];exact dH (zgl _)
  ·cases hg
theorem canF_nodes {c:zas} (hv:s.vars.length<=8) (hw:c.guard.wid<=100):(zex s c).nodes<=120:=by
 unfold zex
 rw [eG]
 show 1+(((canL s c).map za0.cl).map eF).sum<=_
 unfold canL
 rw [cC,bK,b7]
 have h1:(eF ∘ za0.cl) c.guard<=c.guard.wid:=each_wid id _
 have h2:=sum_c (F:=eF ∘ za0.cl) (c:=1) (xs:=(List.range s.vars.length).flatMap (zfy s c)) fun g hg=>bU (zgi id g) (ze0 (Q:=fun g=>g.nodes<=1) (fun v _=>canS_nodes s c v) g hg)
 have h3:=zdy (zfy s c) (zme s c) s.vars.length
 omega
theorem stkF_nodes (hs:zbh 3 s) (hw:zlj s) (locs:List Int):(zj8 s locs).nodes<=2421:=by
 have h0:=zgn ((List.range s.acts.length).flatMap (zh4 s locs))
 have h2:=sum_c (F:=eF) (c:=121) (xs:=(List.range s.acts.length).flatMap (zh4 s locs)) fun g hg=>ze0 (Q:=fun g=>g.nodes<=121) (fun v _ g hg=>by
  unfold zh4 at hg
  split at hg
  ·rw [bE.1 hg];have:=deny_nodes (zex s (zgw s locs (v:Int)).1);have:=canF_nodes (s:=s) (c:=(zgw s locs (v:Int)).1) hs.vars (zl6 hw _);omega
  ·cases hg) g hg
 have h3:=zdy (zh4 s locs) (zln s locs) s.acts.length
 have:=hs.acts
 unfold zj8
 omega
theorem lit_nodes (r:za9) (b:Bool):(litF r b).nodes<=2:=by
 unfold litF
 split
 ·rw [zgl];omega
 ·have:=deny_nodes (zfp r);rw [zgl] at this;exact this
theorem cube_lits {bs:List Bool} {g:za0} (hg:g ∈ zeb ps bs):∃ r b,r ∈ ps/\g=litF r b:=by
 obtain ⟨j,hj,rfl⟩:=List.getElem_of_mem hg
 have hl:=zi7 ps bs
 have e:(zeb ps bs)[j]'hj=litF (ps[j]'(by omega)) (bs[j]'(by omega)):=List.getElem_zipWith ..
 exact ⟨_,_,List.getElem_mem _,e⟩
theorem cubeF_nodes (hps:zih ps) (bs:List Bool):(zb1 ps bs).nodes<=2001:=by
 have h0:=zgn (zeb ps bs)
 have h1:=sum_c (F:=eF) (c:=2) (xs:=zeb ps bs) fun g hg=>by obtain ⟨r,b,_,rfl⟩:=cube_lits hg;exact lit_nodes r b
 have h2:=zi7 ps bs
 have h3:=hps.1
 unfold zb1
 omega
theorem zma (hps:zih ps) (bs:List Bool):(zb1 ps bs).okB 40 100:=by
 refine eH (n:=20) (L:=13) (by decide) (by decide) _ (ziz (by decide) (fun g hg=>?_) ?_)
 ·obtain ⟨r,b,hr,rfl⟩:=cube_lits hg
  have h:(zfp r).okB 20 11:=zi2 ((hps.2 r hr).plain (by decide))
  unfold litF
  split
  ·exact eH (by decide) (by decide) _ h
  ·exact zi1 (by decide) (by simp) fun g hg=>by rw [bE.1 hg];exact okB_cl (by decide) _ h
 ·have:=zi7 ps bs;have:=hps.1;omega
theorem pre_nodes (hs:zbh 3 s) (hw:zlj s) (act:Int) (f:za0):(preF s act f).nodes<=122+3*f.nodes:=by
 unfold preF
 split
 ·have:=zgn [f];simp only [bK,bW,b7,cV] at this;omega
 ·split
  ·have h1:=zgn [zex s (zac s act).1,((f.flat false).forg (zd8 (zac s act).1 s.vars.length)).each (zbu (zck (zac s act).1 s.vars.length) (zd9 (zac s act).1 s.vars.length))]
   simp only [bK,bW,b7,cV] at h1
   have h2:=canF_nodes (s:=s) (c:=(zac s act).1) hs.vars (zl6 hw act)
   have h3:=zgi (zbu (zck (zac s act).1 s.vars.length) (zd9 (zac s act).1 s.vars.length)) ((f.flat false).forg (zd8 (zac s act).1 s.vars.length))
   have h4:=forg_nodes (zd8 (zac s act).1 s.vars.length) (f.flat false)
   have h5:=zez f false
   have h6:=zf3 f
   omega
  ·show (zcs false).nodes<=_;rw [eG];show 1+0<=_;omega
def zb3 (s:zan) (locs:List Int) (act:Int) (f:za0):List za0:=if act=-1 then [atF s (zj8 s locs) 0,f] else [preF s act f]
def cndF (ps:List za9) (x:zbz) (tl:List za0):za0:=zcj (zb1 ps x.bits :: tl)
def zag (s:zan) (ps:List za9):List zbz->List Int->List za0
  | [],_=>[]
  | [x],_=>[cndF ps x []]
  | x :: _ :: _,[]=>[cndF ps x []]
  | x :: y :: ys,c :: cs=>cndF ps x (zb3 s x.locs c ((zag s ps (y :: ys) cs).headD (zcs false))) :: zag s ps (y :: ys) cs
theorem zed (s:zan) (ps:List za9):∀ (xs:List zbz) (cs:List Int),(zag s ps xs cs).length=min xs.length (cs.length+1)
 | [],_=>by simp [zag]
 | [x],cs=>by simp [zag]
 | x :: y :: ys,[]=>by simp [zag]
 | x :: y :: ys,c :: cs=>by
  rw [zag,bP,zed s ps (y :: ys) cs];simp only [bP];omega
theorem cnd_last (s:zan) (ps:List za9):∀ (xs:List zbz) (cs:List Int) {i:Nat} {x:zbz}, xs[i]?=some x->i+1=min xs.length (cs.length+1)->(zag s ps xs cs)[i]?=some (cndF ps x [])
 | [],_,i,x,h,_=>by simp at h
 | [y],cs,i,x,h,hi=>by
  obtain rfl:i=0:=by simp only [bP,cW] at hi;omega
  simp at h;subst h;rfl
 | y :: z :: ys,[],i,x,h,hi=>by
  obtain rfl:i=0:=by simp only [bP,cW] at hi;omega
  simp at h;subst h;rfl
 | y :: z :: ys,c :: cs,i,x,h,hi=>by
  obtain ⟨k,rfl⟩:∃ k,i=k+1:=⟨i - 1,by simp only [bP] at hi;omega⟩
  rw [zag,dI]
  exact cnd_last s ps (z :: ys) cs (by simpa using h) (by simp only [bP] at hi ⊢;omega)
theorem cnd_mid (s:zan) (ps:List za9):∀ (xs:List zbz) (cs:List Int) {i:Nat} {x:zbz} {c:Int} {g:za0}, xs[i]?=some x->cs[i]?=some c->(zag s ps xs cs)[i+1]?=some g->(zag s ps xs cs)[i]?=some (cndF ps x (zb3 s x.locs c g))
 | [],_,i,x,c,g,h,_,_=>by simp at h
 | [y],cs,i,x,c,g,h,_,hg=>by simp [zag] at hg
 | y :: z :: ys,[],i,x,c,g,h,hc,hg=>by simp at hc
 | y :: z :: ys,b :: cs,0,x,c,g,h,hc,hg=>by
  simp at h hc;subst h;subst hc
  rw [zag,dI] at hg
  rw [zag,List.getElem?_cons_zero]
  cases e:zag s ps (z :: ys) cs with
  | nil=>rw [e] at hg;simp at hg
  | cons q l=>rw [e] at hg;simp at hg;subst hg;rfl
 | y :: z :: ys,b :: cs,i+1,x,c,g,h,hc,hg=>by
  rw [zag,dI] at hg ⊢
  exact cnd_mid s ps (z :: ys) cs (by simpa using h) (by simpa using hc) hg
def CdOk (k:Nat) (f:za0):Prop:=f.okB (40*30 ^ k) (210+70*k)/\f.nodes<=6000*4 ^ k
theorem CdOk.mono (h:k<=m) (hf:CdOk k f):CdOk m f :=
 ⟨eH (cX _ (cY (by decide) h)) (by omega) _ hf.1,bU hf.2 (cX _ (cY (by decide) h))⟩
theorem cnd_one (hps:zih ps) (x:zbz) (k:Nat):CdOk k (cndF ps x []):=by
 refine CdOk.mono (bJ k) ⟨?_,?_⟩
 ·exact eH (by decide) (by decide) _ (ziz (n:=40) (L:=100) (by decide) (fun g hg=>by rw [bE.1 hg];exact zma hps _) (by show 1<=_;decide))
 ·have:=zgn [zb1 ps x.bits];have:=cubeF_nodes hps x.bits;simp only [bK,bW,b7,cV] at *
  show (zcj [zb1 ps x.bits]).nodes<=_;omega
theorem ahead_ok (hs:zbh 3 s) (hw:zlj s) (hk:k<=3) (hf:CdOk k f) (locs:List Int) (act:Int):(∀ g ∈ zb3 s locs act f,g.okB (40*30 ^ (k+1)) (210+70*k+61))/\((zb3 s locs act f).map eF).sum<=2500+3*f.nodes/\(zb3 s locs act f).length<=2:=by
 have e:40*30 ^ (k+1)=30*(40*30 ^ k):=by rw [Nat.pow_succ];omega
 have h0:40*30 ^ k<=40*30 ^ 3:=cX _ (cY (by decide) hk)
 have h1:1<=30 ^ k:=Nat.pow_pos (by decide)
 have hwd:f.wid<=1000000000000:=by
  have:=zf3 f;have:=hf.2
  have:6000*4 ^ k<=6000*4 ^ 3:=cX _ (cY (by decide) hk)
  omega
 unfold zb3
 split
 ·refine ⟨fun g hg=>?_,?_,by simp⟩
  ·rcases bS.1 hg with rfl | hg
   ·exact eH (by omega) (by omega) _ (at_ok9 (eH (by decide) (by decide) _ (stkF_ok hs hw locs)) s 0)
   ·rw [bE.1 hg];exact eH (by omega) (by omega) _ hf.1
  ·simp only [bK,bW,b7,cV]
   have:=stkF_nodes hs hw locs
   have:(atF s (zj8 s locs) 0).nodes<=(zj8 s locs).nodes:=zgi _ _
   omega
 ·refine ⟨fun g hg=>?_,?_,by simp⟩
  ·rw [bE.1 hg,e]
   exact preK_ok hs hw act hf.1 (by omega) (by omega) (by omega) (by omega) hwd
  ·simp only [bK,bW,b7,cV]
   have:=pre_nodes hs hw act f;omega
theorem cnd_next (hs:zbh 3 s) (hw:zlj s) (hps:zih ps) (x:zbz) (hk:k<=3) (hf:CdOk k f) (act:Int):CdOk (k+1) (cndF ps x (zb3 s x.locs act f)):=by
 obtain ⟨h1,h2,h3⟩:=ahead_ok hs hw hk hf x.locs act
 have h0:40*30 ^ (k+1)<=40*30 ^ 4:=cX _ (cY (by decide) (by omega))
 have h4:1<=30 ^ (k+1):=Nat.pow_pos (by decide)
 refine ⟨?_,?_⟩
 ·refine eH (bI _) (by omega) _ (ziz (n:=40*30 ^ (k+1)) (L:=210+70*k+61) (by omega) (fun g hg=>?_) (by rw [bP];omega))
  rcases bS.1 hg with rfl | hg
  ·exact eH (by omega) (by omega) _ (zma hps _)
  ·exact h1 g hg
 ·have h5:=zgn (zb1 ps x.bits :: zb3 s x.locs act f)
  have h6:=cubeF_nodes hps x.bits
  have h7:=hf.2
  have h8:1<=4 ^ k:=Nat.pow_pos (by decide)
  have h9:6000*4 ^ (k+1)=4*(6000*4 ^ k):=by rw [Nat.pow_succ];omega
  rw [bK,b7] at h5
  show (zcj (zb1 ps x.bits :: zb3 s x.locs act f)).nodes<=_
  omega
theorem cnd_ok (hs:zbh 3 s) (hw:zlj s) (hps:zih ps):∀ (xs:List zbz) (cs:List Int),xs.length<=5->∀ f ∈ zag s ps xs cs,CdOk (xs.length - 1) f
 | [],_,_,f,hf=>by simp [zag] at hf
 | [x],_,_,f,hf=>by rw [zag] at hf;rw [bE.1 hf];exact cnd_one hps x _
 | x :: y :: ys,[],_,f,hf=>by rw [zag] at hf;rw [bE.1 hf];exact cnd_one hps x _
 | x :: y :: ys,c :: cs,hl,f,hf=>by
  have ih:=cnd_ok hs hw hps (y :: ys) cs (by simp only [bP] at hl ⊢;omega)
  have e:(x :: y :: ys).length - 1=((y :: ys).length - 1)+1:=by simp
  have hk:(y :: ys).length - 1<=3:=by simp only [bP] at hl ⊢;omega
  rw [zag] at hf
  rw [e]
  rcases bS.1 hf with rfl | hf
  ·refine cnd_next hs hw hps x hk ?_ c
   have hn:=zed s ps (y :: ys) cs
   cases e2:zag s ps (y :: ys) cs with
   | nil=>rw [e2] at hn;simp only [bP,cW] at hn;omega
   | cons q l=>exact ih q (by rw [e2];exact bG ..)
  ·exact (ih f hf).mono (by omega)
theorem zks (hs:zbh 3 s) (hw:zlj s) (hps:zih ps) {xs:List zbz} (cs:List Int) (hl:xs.length<=5) (hf:f ∈ zag s ps xs cs):f.okB 32400000 490/\f.nodes<=1536000:=by
 have h:=(cnd_ok hs hw hps xs cs hl f hf).mono (show xs.length - 1<=4 by omega)
 exact ⟨h.1,h.2⟩
theorem nb1_4:Zero dX 35 [.d (.raw (.int .i64 0)),.d (.sl 3 []),.d (.raw (.bool false)),.d (nsl []),.d (.raw (.bool false)),.d (.sl 6 [])]:=⟨(Value.agg #[.int .i64 0,.slice none 0 0,.bool false,.slice none 0 0,.bool false,.slice none 0 0]),[.int .i64 0,.slice none 0 0,.bool false,.slice none 0 0,.bool false,.slice none 0 0],by kernel_rfl,rfl,(fun _ _=>⟨DR.raw _ rfl,DR.nil _ _ _ (fun _=>rfl) (bJ _),DR.raw _ rfl,DR.nil _ _ _ (fun _=>rfl) (bJ _),DR.raw _ rfl,DR.nil _ _ _ (fun _=>rfl) (bJ _),trivial⟩)⟩
structure zdu where
  states:List zbz
  acts:List Int
def zdu.d (x:zdu):List D:=[.sl 2 (x.states.map eM),.sl 1 (x.acts.map zal)]
def zFm:za0:=⟨0,zR,[]⟩
def zh5 (s:zan) (ps:List za9) (p:zdu) (i:Int):List za0:=List.replicate (i+1).toNat zFm++(zag s ps p.states p.acts).drop (i+1).toNat
variable {p:zdu}
theorem cndO_len (h:(i+1).toNat<=(zag s ps p.states p.acts).length):(zh5 s ps p i).length=(zag s ps p.states p.acts).length:=by
 unfold zh5;rw [bL,cT,dJ];omega
theorem cndO_start (h:(zag s ps p.states p.acts).length<=n):List.replicate n zFm=zh5 s ps p ((n:Int) - 1):=by
 unfold zh5;rw [show ((n:Int) - 1+1).toNat=n by omega,List.drop_of_length_le h,cD]
theorem cndO_end (h:i<0):zh5 s ps p i=zag s ps p.states p.acts:=by
 unfold zh5;rw [show (i+1).toNat=0 by omega];rfl
theorem cndO_at {g:za0} (h:(zh5 s ps p (k:Int))[k+1]?=some g):(zag s ps p.states p.acts)[k+1]?=some g:=by
 unfold zh5 at h
 rw [show ((k:Int)+1).toNat=k+1 by omega,dD (by rw [cT];exact bI _),cT,dA,List.getElem?_drop,Nat.add_zero] at h
 exact h
theorem cndO_set {g:za0} (h:(zag s ps p.states p.acts)[k]?=some g):(zh5 s ps p (k:Int)).set k g=zh5 s ps p ((k:Int) - 1):=by
 obtain ⟨hk,rfl⟩:=dC.1 h
 unfold zh5
 rw [show ((k:Int)+1).toNat=k+1 by omega,show ((k:Int) - 1+1).toNat=k by omega,List.drop_eq_getElem_cons hk,List.replicate_succ', cR,List.set_append_right _ _ (by rw [cT];exact bI _),cT,dA]
 rfl
theorem aheadW (hs:zbh 3 s) (hw:zlj s) (hf:f.okB 32400000 490/\f.nodes<=1536000) (locs:List Int) (act:Int):(∀ g ∈ zb3 s locs act f,g.okB 972000000 560)/\(zb3 s locs act f).length<=2:=by
 have hwd:f.wid<=1000000000000:=by have:=zf3 f;have:=hf.2;omega
 unfold zb3
 split
 ·refine ⟨fun g hg=>?_,by simp⟩
  rcases bS.1 hg with rfl | hg
  ·exact eH (by decide) (by decide) _ (at_ok9 (eH (by decide) (by decide) _ (stkF_ok hs hw locs)) s 0)
  ·rw [bE.1 hg];exact eH (by decide) (by decide) _ hf.1
 ·refine ⟨fun g hg=>?_,by simp⟩
  rw [bE.1 hg]
  exact eH (by decide) (by decide) _ (preK_ok hs hw act hf.1 (by decide) (by decide) (by decide) (by decide) hwd)
theorem Lahead (s:zan) (x:zbz) (act:Int) (f:za0) (hs:zbh 3 s) (hw:zlj s) (hl:x.locs.length<=9223372036854775807) {L:Nat} (hf:f.okB n L) (hn:n<=33000000) (h30:30<=n) (hL3:3<=L) (hL:L<=1900) (hfw:f.wid<=1000000000000):Fn dX 34 [] [vG [.d (.sl 1 (s.vars.map zer)),.d (.sl 5 (s.bounds.map zak.d)),cI s.init.kind,cPs s.init.r.t.parts,cB s.init.r.t.k.neg,.d (nsl s.init.r.t.k.abs),cB s.init.r.eq,cFs s.init.kids,.d (.sl 3 (s.procs.map zbj.d)),.d (.sl 10 (s.acts.map eK))],vG [cIs x.locs,.d (.sl 1 (x.bits.map zb4))],vI act,vG [cI f.kind,cPs f.r.t.parts,cB f.r.t.k.neg,.d (nsl f.r.t.k.abs),cB f.r.eq,cFs f.kids]] (vFs (zb3 s x.locs act f)) []:=by
 refine fB Tryz.func34 rfl 22 fun w H B a h=>Jq 5 [] [(2,vI act),(4,vp 5 0),(5,vp 6 0),(7,vp 7 0),(8,vW zam)] [(5,.box [.d (.sl 1 (s.vars.map zer)),.d (.sl 5 (s.bounds.map zak.d)),cI s.init.kind,cPs s.init.r.t.parts,cB s.init.r.t.k.neg,.d (nsl s.init.r.t.k.abs),cB s.init.r.eq,cFs s.init.kids,.d (.sl 3 (s.procs.map zbj.d)),.d (.sl 10 (s.acts.map eK))]),(6,.box [cIs x.locs,.d (.sl 1 (x.bits.map zb4))]),(7,.box [cI f.kind,cPs f.r.t.parts,cB f.r.t.k.neg,.d (nsl f.r.t.k.abs),cB f.r.eq,cFs f.kids])] h fun a w h=>qW (Je 8 [] [] [(10,vb (act == (-1)))] h fun a w h=>cS (act == (-1)) h (fun hc1=>?_) (fun hc2=>?_))
 ·refine Jg 8 [(3,.call (LStuck s x.locs 0 hs hw hl (by decide))),(5,.g (Op.buildD (d:=16) (len:=2) (rows:=[(atF s (zj8 s x.locs) 0),f].map d7) (rs:=[(14,vG [cI (atF s (zj8 s x.locs) 0).kind,cPs (atF s (zj8 s x.locs) 0).r.t.parts,cB (atF s (zj8 s x.locs) 0).r.t.k.neg,.d (nsl (atF s (zj8 s x.locs) 0).r.t.k.abs),cB (atF s (zj8 s x.locs) 0).r.eq,cFs (atF s (zj8 s x.locs) 0).kids]),(15,vG [cI f.kind,cPs f.r.t.parts,cB f.r.t.k.neg,.d (nsl f.r.t.k.abs),cB f.r.eq,cFs f.kids])]) kb_1 (.cons (i:=0) (d4 14 _) (.cons (i:=1) (d4 15 _) (.nil))) (by simp only [bK,bW,cG,cH,cD,d8]; try kernel_rfl) rfl (by simp [d9]) (by decide) (by decide)))] [5,10] [(8,(vFs [(atF s (zj8 s x.locs) 0),f]))] [6] [] h fun a w h=>qV (za5 (rT (.c (cFs [(atF s (zj8 s x.locs) 0),f])) h rfl ?_));unfold zb3;rw [if_pos (by have:=hc1;simpa using this)];try rfl
 refine qU (za1 (Jq 8 [(3,.call (LPre s act f hs hw hf hn h30 hL3 hL hfw)),(4,.g (bD 21 ([(preF s act f)].map d7) [(20,vG [cI (preF s act f).kind,cPs (preF s act f).r.t.parts,cB (preF s act f).r.t.k.neg,.d (nsl (preF s act f).r.t.k.abs),cB (preF s act f).r.eq,cFs (preF s act f).kids])] kb_1 (.cons (i:=0) (d4 20 _) (.nil)) (by simp only [bK,bW,cG,cH,cD,d8]; try kernel_rfl) (by simp [d9])))] [(8,(vFs [(preF s act f)]))] [] h fun a w h=>qV (rT (.c (cFs [(preF s act f)])) h rfl ?_)));unfold zb3;rw [if_neg (by have:=hc2;simpa using this)];try rfl
theorem zj1 (s:zan) (ps:List za9) (p:zdu) (hs:zbh 3 s) (hw:zlj s) (hps:zih ps) (hpl:p.states.length<=5) (hpa:p.acts.length<=6) (hpx:∀ x ∈ p.states,x.locs.length<=8/\x.bits.length<=30):Fn dX 12 [] [vG [.d (.sl 1 (s.vars.map zer)),.d (.sl 5 (s.bounds.map zak.d)),cI s.init.kind,cPs s.init.r.t.parts,cB s.init.r.t.k.neg,.d (nsl s.init.r.t.k.abs),cB s.init.r.eq,cFs s.init.kids,.d (.sl 3 (s.procs.map zbj.d)),.d (.sl 10 (s.acts.map eK))],(vRs ps),vG [.d (.sl 2 (p.states.map eM)),cIs p.acts]] (vFs (zag s ps p.states p.acts)) []:=by
 have lps:=hps.1;refine fB Tryz.func12 rfl 63 fun w H B a h=>Jq 5 [] [(1,(vRs ps)),(3,vp 5 0),(5,vp 6 0),(6,vW zam)] [(5,.box [.d (.sl 1 (s.vars.map zer)),.d (.sl 5 (s.bounds.map zak.d)),cI s.init.kind,cPs s.init.r.t.parts,cB s.init.r.t.k.neg,.d (nsl s.init.r.t.k.abs),cB s.init.r.eq,cFs s.init.kids,.d (.sl 3 (s.procs.map zbj.d)),.d (.sl 10 (s.acts.map eK))]),(6,.box [.d (.sl 2 (p.states.map eM)),cIs p.acts])] h fun a w h=>?_
 obtain ⟨n9,hn9⟩:∃ z_:Nat,z_=min p.states.length (p.acts.length+1):=⟨_,rfl⟩;refine Je 7 [(2,.len (za3 2 eM p.states)),(5,.len (za3 1 zal p.acts)),(6,.add .i64 (m:=(p.acts.length:Int)) (n:=1) i6),(7,.g (Op.min2 (d:=19) (tys:=#[3,3]) (k:=.i64) (m:=(p.states.length:Int)) (n:=((p.acts.length:Int)+1)) (r:=(n9:Int)) (d4 14 _) (d4 18 _) (by omega)))] [] [(7,vN n9)] h fun a w h=>Jg 7 [(1,.g (Op.makeO' (d:=21) (n:=7) (L:=n9) (zs:=[.raw (.int .i64 0),.sl 3 [],.raw (.bool false),nsl [],.raw (.bool false),.sl 6 []]) (rows:=(List.replicate n9 zFm).map d7) la_7 nb1_4 rfl (d4 20 _) (d4 20 _) (by omega) (by rw [List.map_replicate,d8];rfl)))] [] [(8,vO 7 n9)] [] [(7,.row 35 6 ((List.replicate n9 zFm).map d7))] h fun a w h=>qW (Je 8 [(1,.sub .i64 (m:=(n9:Int)) (n:=1) i6)] [] [(9,vI ((n9:Int) - 1))] h fun a w h=>qZ ?_);replace h:=cvM [] [] [] [(7,.row 35 6 ((zh5 s ps p ((n9:Int) - 1)).map d7))] (by rw [<- show ((List.replicate n9 zFm):List za0)=(zh5 s ps p ((n9:Int) - 1)) from (cndO_start (by rw [zed];omega))]; try kernel_rfl) h
 refine zbw (ι:=(Int)) (fun i=>-1<=i/\i<(n9:Int))
   [] (fun i=>[(9,vI i)])
   [] (fun i=>[(7,.row 35 6 ((zh5 s ps p i).map d7))])
   (fun i=>(i+1).toNat) ((n9:Int) - 1) ?_ h ?_
 ·constructor <;> omega
 clear h;rintro i a w hI h;obtain ⟨hI1,hI2⟩:=hI;have lco:(zh5 s ps p i).length=n9:=by rw [cndO_len (by rw [zed];omega),zed];omega
 refine qW (Je 8 [] [] [(25,vb (decide (i>=0)))] h fun a w h=>zad (i>=0) h (fun hc1 hc1'=>?_) (fun hc4 hc4'=>?_))
 ·refine qU (za1 (qW (qZ ?_)));obtain ⟨k,hkk⟩:∃ k_:Nat,i=(k_:Int):=⟨_,(dG (dT hc1)).symm⟩;replace h:=cvM [] [(9,vN k)] [] [] (by rw [hkk]; try kernel_rfl) h;replace h:=cvM [] [] [] [(7,.row 35 6 ((zh5 s ps p (k:Int)).map d7))] (by rw [<- show ((zh5 s ps p i):List za0)=(zh5 s ps p (k:Int)) from (by rw [hkk])]; try kernel_rfl) h;rw [hkk] at lco;obtain ⟨x1,hx1⟩:=gl p.states k;refine Jg 8 [(3,.g (xD 31 29 ln14_4 (za7 hx1 (f:=eM)) (d4 30 _)))] [25] [(10,vp 8 0)] [] [(8,.box [cIs x1.locs,.d (.sl 1 (x1.bits.map zb4))])] h fun a w h=>Jg 9 [(3,.call (LCube ps x1.bits hps (by have:=(hpx x1 (lM hx1)).2;omega))),(4,.g (Op.buildO (d:=37) (n:=9) (len:=1) (rows:=[(zb1 ps x1.bits)].map d7) (rs:=[(36,vG [cI (zb1 ps x1.bits).kind,cPs (zb1 ps x1.bits).r.t.parts,cB (zb1 ps x1.bits).r.t.k.neg,.d (nsl (zb1 ps x1.bits).r.t.k.abs),cB (zb1 ps x1.bits).r.eq,cFs (zb1 ps x1.bits).kids])]) kb_1 (.cons (i:=0) (d4 36 _) (.nil)) (by simp only [bK,bW,cG,cH,cD,d8]; try kernel_rfl) rfl (by simp [d9]) (by decide) (by decide)))] [] [(11,vO 9 1)] [] [(9,.row 35 6 ([(zb1 ps x1.bits)].map d7))] h fun a w h=>qW (Je 10 [(1,.add .i64 (m:=(k:Int)) (n:=1) i6)] [] [(41,vb (decide (((k:Int)+1)<(n9:Int))))] h fun a w h=>zad (((k:Int)+1)<(n9:Int)) h (fun hc2 hc2'=>?_) (fun hc3 hc3'=>?_))
  ·obtain ⟨x3,hx3⟩:=gl p.acts k;obtain ⟨x4,hx4⟩:∃ z_:za0,(zh5 s ps p (k:Int))[k+1]?=some z_:=⟨_,cM (by first | omega | (have:=dT hc2;omega))⟩;have hxc:=zks hs hw hps p.acts hpl (lM (cndO_at hx4));have lah9:=(aheadW hs hw hxc x1.locs x3).2;refine Jh 10 [(6,.g (xD 48 46 zh0 (za7 hx3 (f:=zal)) (d4 47 _))),(10,.add .i64 (m:=(k:Int)) (n:=1) i6),(11,.g (xO 53 50 7 n9 (k+1) zie (d4 52 _))),(12,.g (Op.loadR_agg (d:=54) (t:=53) (n:=7) (i:=(k+1)) (fo:=0) (rty:=35) (es:=6) (xs:=[.raw (.int .i64 x4.kind),.sl 3 (x4.r.t.parts.map za4.d),.raw (.bool x4.r.t.k.neg),nsl x4.r.t.k.abs,.raw (.bool x4.r.eq),.sl 6 (x4.kids.map d7)]) zdh rfl ((za7 hx4 (f:=d7)).trans (yJ some (d8 x4))) rfl rfl)),(13,.call (Lahead s x1 x3 x4 hs hw (by have:=(hpx x1 (lM hx1)).1;omega) hxc.1 (by decide) (by decide) (by decide) (by decide) (by have:=zf3 x4;have:=hxc.2;omega))),(14,.g (Op.appOD (d:=56) (t:=42) (u:=55) (n:=9) (n':=10) (len:=1) (len':=([(zb1 ps x1.bits)]++(zb3 s x1.locs x3 x4)).length) (rows:=[(zb1 ps x1.bits)].map d7) (rows2:=(zb3 s x1.locs x3 x4).map d7) (rows':=([(zb1 ps x1.bits)]++(zb3 s x1.locs x3 x4)).map d7) la_7 (by first | exact (bC _).symm | simp) (by first | (rw [bL,bC];done) | (simp;done) | (simp;omega)) (by simp) (by simp [d9]) (by first | omega | (simp at *;done) | (simp at *;omega))))] [10,41] [(11,vO 10 ([(zb1 ps x1.bits)]++(zb3 s x1.locs x3 x4)).length)] [8,9] [(10,.row 35 6 (([(zb1 ps x1.bits)]++(zb3 s x1.locs x3 x4)).map d7))] h fun a w h=>za1 ?_;rw [show (([(zb1 ps x1.bits)]++(zb3 s x1.locs x3 x4)):List za0)=(zb1 ps x1.bits :: (zb3 s x1.locs x3 x4)) from rfl] at h;replace h:=zj2 10 6 35 ((zb1 ps x1.bits :: (zb3 s x1.locs x3 x4)).map d7) h [(zb1 ps x1.bits :: (zb3 s x1.locs x3 x4)).length] ⟨by first | exact (bC _).symm | (simp;done) | (simp;omega),trivial⟩;have hall:∀ g ∈ (zb1 ps x1.bits :: (zb3 s x1.locs x3 x4)),g.okB 1000000000 700/\True:=fun g hg=>⟨(bS.1 hg).elim (fun e=>by rw [e];exact eH (by decide) (by decide) _ (zma hps _)) (fun hg=>eH (by decide) (by decide) _ ((aheadW hs hw hxc x1.locs _).1 g hg)),trivial⟩
   have hall:=fun g hg=>(hall g hg).1
   have lah:(zb1 ps x1.bits :: (zb3 s x1.locs x3 x4)).length<=3:=by rw [bP];have:=(aheadW hs hw hxc x1.locs x3).2;omega
   obtain ⟨x7,hx7⟩:∃ z_:za0,(zh5 s ps p (k:Int))[k]?=some z_:=⟨_,cM (by first | omega | (have:=dT hc2;omega))⟩;refine Jh 11 [(3,.call (LAll (zb1 ps x1.bits :: (zb3 s x1.locs x3 x4)) (fun g hg=>eH (by decide) (by decide) _ (hall g hg)) (by omega))),(4,.g (xO 61 57 7 n9 k zie (d4 58 _))),(5,.g (Op.storeR (t:=61) (n:=7) (i:=k) (fo:=0) (rty:=35) (es:=6) (r:=d7 x7) (ds:=[.raw (.int .i64 (zcj (zb1 ps x1.bits :: (zb3 s x1.locs x3 x4))).kind),.sl 3 ((zcj (zb1 ps x1.bits :: (zb3 s x1.locs x3 x4))).r.t.parts.map za4.d),.raw (.bool (zcj (zb1 ps x1.bits :: (zb3 s x1.locs x3 x4))).r.t.k.neg),nsl (zcj (zb1 ps x1.bits :: (zb3 s x1.locs x3 x4))).r.t.k.abs,.raw (.bool (zcj (zb1 ps x1.bits :: (zb3 s x1.locs x3 x4))).r.eq),.sl 6 ((zcj (zb1 ps x1.bits :: (zb3 s x1.locs x3 x4))).kids.map d7)]) (rs:=[(60,vG [cI (zcj (zb1 ps x1.bits :: (zb3 s x1.locs x3 x4))).kind,cPs (zcj (zb1 ps x1.bits :: (zb3 s x1.locs x3 x4))).r.t.parts,cB (zcj (zb1 ps x1.bits :: (zb3 s x1.locs x3 x4))).r.t.k.neg,.d (nsl (zcj (zb1 ps x1.bits :: (zb3 s x1.locs x3 x4))).r.t.k.abs),cB (zcj (zb1 ps x1.bits :: (zb3 s x1.locs x3 x4))).r.eq,cFs (zcj (zb1 ps x1.bits :: (zb3 s x1.locs x3 x4))).kids])]) (rows:=(zh5 s ps p (k:Int)).map d7) (rows':=((zh5 s ps p (k:Int)).set k (zcj (zb1 ps x1.bits :: (zb3 s x1.locs x3 x4)))).map d7) zdh (d4 60 _) rfl rfl rfl (za7 hx7 (f:=d7)) (by rw [d9];decide) (zc0 (xs:=(zh5 s ps p (k:Int))) (F:=d7) k _ _ (by rw [d8 x7,d8 (zcj (zb1 ps x1.bits :: (zb3 s x1.locs x3 x4)))];rfl))))] [11] [] [] [(7,.row 35 6 (((zh5 s ps p (k:Int)).set k (zcj (zb1 ps x1.bits :: (zb3 s x1.locs x3 x4)))).map d7))] h fun a w h=>za6 (za1 (Jf 11 [(1,.sub .i64 (m:=(k:Int)) (n:=1) i6)] [] [(9,vI ((k:Int) - 1))] h fun a w h=>za1 ?_));replace h:=cvM [] [] [] [(7,.row 35 6 ((zh5 s ps p ((k:Int) - 1)).map d7))] (by rw [<- show (((zh5 s ps p (k:Int)).set k (zcj (zb1 ps x1.bits :: (zb3 s x1.locs x3 x4)))):List za0)=(zh5 s ps p ((k:Int) - 1)) from (cndO_set (cnd_mid s ps p.states p.acts hx1 hx3 (cndO_at hx4)))]; try kernel_rfl) h;refine zaa (x:=i) (y:=(k:Int) - 1) h ?_ ?_
   ·constructor <;> omega
   show ((k:Int) - 1+1).toNat<(i+1).toNat;omega
  refine qU (za1 ?_);replace h:=cvM [] [] [] [(9,.row 35 6 ([zb1 ps x1.bits].map d7))] (by rw [<- show ([(zb1 ps x1.bits)]:List za0)=[zb1 ps x1.bits] from rfl]; try kernel_rfl) h;replace h:=zj2 9 6 35 ([zb1 ps x1.bits].map d7) h [1] ⟨by first | exact (bC _).symm | (simp;done) | (simp;omega),trivial⟩;have hall:∀ g ∈ [zb1 ps x1.bits],g.okB 1000000000 700:=fun g hg=>by rw [bE.1 hg];exact eH (by decide) (by decide) _ (zma hps _)
  have lah:[zb1 ps x1.bits].length<=3:=by simp
  obtain ⟨x9,hx9⟩:∃ z_:za0,(zh5 s ps p (k:Int))[k]?=some z_:=⟨_,cM (by first | omega | (have:=dT hc3;omega))⟩;refine Jh 11 [(3,.call (LAll [zb1 ps x1.bits] (fun g hg=>eH (by decide) (by decide) _ (hall g hg)) (by omega))),(4,.g (xO 61 57 7 n9 k zie (d4 58 _))),(5,.g (Op.storeR (t:=61) (n:=7) (i:=k) (fo:=0) (rty:=35) (es:=6) (r:=d7 x9) (ds:=[.raw (.int .i64 (zcj [zb1 ps x1.bits]).kind),.sl 3 ((zcj [zb1 ps x1.bits]).r.t.parts.map za4.d),.raw (.bool (zcj [zb1 ps x1.bits]).r.t.k.neg),nsl (zcj [zb1 ps x1.bits]).r.t.k.abs,.raw (.bool (zcj [zb1 ps x1.bits]).r.eq),.sl 6 ((zcj [zb1 ps x1.bits]).kids.map d7)]) (rs:=[(60,vG [cI (zcj [zb1 ps x1.bits]).kind,cPs (zcj [zb1 ps x1.bits]).r.t.parts,cB (zcj [zb1 ps x1.bits]).r.t.k.neg,.d (nsl (zcj [zb1 ps x1.bits]).r.t.k.abs),cB (zcj [zb1 ps x1.bits]).r.eq,cFs (zcj [zb1 ps x1.bits]).kids])]) (rows:=(zh5 s ps p (k:Int)).map d7) (rows':=((zh5 s ps p (k:Int)).set k (zcj [zb1 ps x1.bits])).map d7) zdh (d4 60 _) rfl rfl rfl (za7 hx9 (f:=d7)) (by rw [d9];decide) (zc0 (xs:=(zh5 s ps p (k:Int))) (F:=d7) k _ _ (by rw [d8 x9,d8 (zcj [zb1 ps x1.bits])];rfl))))] [10,11,41] [] [8] [(7,.row 35 6 (((zh5 s ps p (k:Int)).set k (zcj [zb1 ps x1.bits])).map d7))] h fun a w h=>za6 (za1 (Jf 11 [(1,.sub .i64 (m:=(k:Int)) (n:=1) i6)] [] [(9,vI ((k:Int) - 1))] h fun a w h=>za1 ?_));replace h:=cvM [] [] [] [(7,.row 35 6 ((zh5 s ps p ((k:Int) - 1)).map d7))] (by rw [<- show (((zh5 s ps p (k:Int)).set k (zcj [zb1 ps x1.bits])):List za0)=(zh5 s ps p ((k:Int) - 1)) from (cndO_set (cnd_last s ps p.states p.acts hx1 (by have:=dF hc3;omega)))]; try kernel_rfl) h;refine zaa (x:=i) (y:=(k:Int) - 1) h ?_ ?_
  ·constructor <;> omega
  show ((k:Int) - 1+1).toNat<(i+1).toNat;omega
 refine exA (Jg 11 [] [1,3,5,7,8,9,25] [(6,vO 7 n9)] [5,6] [] h fun a w h=>qV ?_);have lcl:(zag s ps p.states p.acts).length=n9:=by rw [zed];omega
 replace h:=cv (fun z_:List za0=>F.of [(6,vO 7 n9)] [(7,.row 35 6 (z_.map d7))]) (show ((zh5 s ps p i):List za0)=(zag s ps p.states p.acts) from (cndO_end (by have:=dF hc4;omega))) (h.conv (by kernel_rfl));replace h:=zj2 7 6 35 ((zag s ps p.states p.acts).map d7) h [n9] ⟨by first | exact (bC _).symm | (simp;done) | (simp;omega),trivial⟩;refine rT (.c (cFs (zag s ps p.states p.acts))) h rfl ?_;rfl
def tgtB (r:za9):Bool:=((zat r).2 == 0) && (zdm (zat r).1 r == 0)
theorem LtightB (r:za9) (hr:TOk 400000000 9000 r.t):Fn dX 51 [] [vG [cPs r.t.parts,cB r.t.k.neg,.d (nsl r.t.k.abs),cB r.eq]] (vb (tgtB r)) []:=by
 refine fB Tryz.func51 rfl 17 fun w H B a h=>Jq 0 [] [(1,vp 0 0),(2,vb false)] [(0,.box [cPs r.t.parts,cB r.t.k.neg,.d (nsl r.t.k.abs),cB r.eq])] h fun a w h=>Jg 1 [(1,.call (LTight r hr))] [] [(3,vp 1 0),(4,vI (zat r).2)] [] [(1,.box [cPs (zat r).1.t.parts,cB (zat r).1.t.k.neg,.d (nsl (zat r).1.t.k.abs),cB (zat r).1.eq])] h fun a w h=>?_
 rcases bX ((zat r).2 == 0) with hc1 | hc2
 ·refine Jq 2 [(1,.cmp (op:=.eql) (m:=(zat r).2) (n:=0) (b:=true) .i64 hc1),(5,.call (LSame (zat r).1 r (tight_tok hr (by decide)) (hr.mono (bI _) (by decide)) (by decide) (by decide)))] [(2,vb (zdm (zat r).1 r == 0))] [] h fun a w h=>qV (rT (.c (cB (zdm (zat r).1 r == 0))) h rfl ?_);unfold tgtB;rw [hc1];try rfl
 refine Jq 2 [(1,.cmp (op:=.eql) (m:=(zat r).2) (n:=0) (b:=false) .i64 hc2)] [(2,vb false)] [] h fun a w h=>qV (rT (.c (cB false)) h rfl ?_);unfold tgtB;rw [hc2];try rfl
def wpX (r:Option Nat) (ds:List Deferred) (P:Program) (c:Code) (Q:Exit->Act->World->Prop) (a:Act) (w:World):Prop :=
  c.wpIn { Fence.wide with round:=r } 9 P (fun ex a' w'=>a'.defers=ds/\Q ex { a' with defers:=[] } w') { a with defers:=ds } w
section
variable {r:Option Nat} {ds:List Deferred} {P:Program} {Q:Exit->Act->World->Prop} {a:Act} {w:World}
theorem zi6 (h:a.defers=ds):{ { a with defers:=[] } with defers:=ds }=a:=by cases a;cases h;rfl
theorem wpX_mono {c:Code} {Q':Exit->Act->World->Prop} (h:wpX r ds P c Q a w) (hq:∀ e a w,Q e a w->Q' e a w):wpX r ds P c Q' a w :=
 wpIn_mono h fun _ _ _ ⟨h1,h2⟩=>⟨h1,hq _ _ _ h2⟩
theorem wpX_seq {x y:Code} (h:wpX r ds P x (Exit.then (fun a w=>wpX r ds P y Q a w) Q) a w):wpX r ds P (.seq x y) Q a w:=by
 refine wpIn_seq (wpIn_mono h fun e a' w' hq=>?_)
 obtain ⟨h1,h2⟩:=hq
 cases e with
 | normal =>
  have h2:wpX r ds P y Q { a' with defers:=[] } w':=h2
  unfold wpX at h2
  rw [zi6 h1] at h2
  exact h2
 | _=>exact ⟨h1,h2⟩
theorem wpX_block {id:Nat} {c:Code} (h:wpX r ds P c (Exit.inBlock id Q) a w):wpX r ds P (.block id c) Q a w:=by
 refine wpIn_block (wpIn_mono h fun e a' w' hq=>?_)
 obtain ⟨h1,h2⟩:=hq
 cases e with
 | exit id' =>
  simp only [Exit.inBlock] at h2 ⊢
  split
  ·rename_i he;rw [if_pos he] at h2;exact ⟨h1,h2⟩
  ·rename_i he;rw [if_neg he] at h2;exact ⟨h1,h2⟩
 | _=>exact ⟨h1,h2⟩
theorem wpX_skip (hd:a.defers=[]) (h:Q .normal a w):wpX r ds P .skip Q a w:=wpIn_skip ⟨rfl,by cases a;cases hd;exact h⟩
theorem wpX_exit {id:Nat} (hd:a.defers=[]) (h:Q (.exit id) a w):wpX r ds P (.exit id) Q a w:=wpIn_exit ⟨rfl,by cases a;cases hd;exact h⟩
theorem wpX_ret (hd:a.defers=[]) (h:Q .ret a w):wpX r ds P .ret Q a w:=wpIn_ret ⟨rfl,by cases a;cases hd;exact h⟩
theorem condX {K:List Nat} {t:Nat} {x y:Code} (b:Bool) (h:St ⟨w0,H0,B0,K,N⟩ (F.of sl lc) a w) (ht:(F.of sl lc).s t=some (vb b)) (hx:b=true->wpX r ds P x Q a w) (hy:b=false->wpX r ds P y Q a w):wpX r ds P (.cond (.tmp t) x y) Q a w:=by
 obtain ⟨H,B,hok⟩:=h
 have:=(hok.slot t _ ht).rawI
 exact wpIn_cond_split (t:=b) this hx hy
theorem loopX0 {ι:Type} {c:Code} (fs:ι->F) (μ:ι->Nat) (x:ι) (h:St e (fs x) a w) (round:∀ x a w,St e (fs x) a w->wpX r ds P c (Exit.then (fun a' w'=>∃ y,μ y<μ x/\St e (fs y) a' w') Q) a w):wpX r ds P (.loop c) Q a w:=by
 have key:∀ n x a w,μ x=n->St e (fs x) a w->∀ (b:Frame) (k:List Item) (cs:List Frame),b.roundOf=({ Fence.wide with round:=r }:Fence).round->({ Fence.wide with round:=r }:Fence).fn b.fn->({ Fence.wide with round:=r }:Fence).room (cs.length+1+9) ->
   ∃ en a' w', (a'.defers=ds/\Q en { a' with defers:=[] } w')/\ArrivesIn (Machine.fenced P { Fence.wide with round:=r }) P (lone (b.atR { a with defers:=ds } (.code c :: .inLoop c :: k)) cs w) b k cs en a' w':=by
  intro n
  induction n using Nat.strongRecOn with
  | _ n ih =>
   intro x a w hn hI b k cs hro hb hr
   obtain ⟨en,a₁,w₁,⟨hd,hq⟩,harr⟩:=round x a w hI b (.inLoop c :: k) cs hro hb hr
   cases en with
   | normal =>
    obtain ⟨y,hlt,hI₁⟩:=hq
    obtain ⟨e₂,a₂,w₂,hq₂,harr₂⟩:=ih (μ y) (hn ▸ hlt) y _ w₁ rfl hI₁ b k cs hro hb hr
    rw [zi6 hd] at harr₂
    exact ⟨e₂,a₂,w₂,hq₂,.of_steps (StepsIn.trans harr (.one (fenced_calm hb hr rfl) stepR_inLoop)) harr₂⟩
   | exit id=>exact ⟨_,a₁,w₁,⟨hd,hq⟩,.pass (x:=.inLoop c) rfl (fun _ _ => .inl (by simp)) harr⟩
   | goto l=>exact ⟨_,a₁,w₁,⟨hd,hq⟩,.pass (x:=.inLoop c) rfl (fun _ _ => .inl (by simp)) harr⟩
   | ret=>exact ⟨_,a₁,w₁,⟨hd,hq⟩,.pass (x:=.inLoop c) rfl (fun _ _ => .inl (by simp)) harr⟩
   | panic ch=>exact ⟨_,a₁,w₁,⟨hd,hq⟩,.pass (x:=.inLoop c) rfl (fun _ _ => .inl (by simp)) harr⟩
   | outgrown=>exact ⟨_,a₁,w₁,⟨hd,hq⟩,.pass (x:=.inLoop c) rfl (fun _ _ => .inl (by simp)) harr⟩
 intro b k cs hro hb hr
 obtain ⟨en,a', w', hq,harr⟩:=key _ x a w rfl h b k cs hro hb hr
 exact ⟨en,a', w', hq,.of_steps (.one (fenced_calm hb hr rfl) stepR_loop) harr⟩
theorem loopX {K:List Nat} {ι:Type} {c:Code} (I:ι->Prop) (sls:ι->List (Nat × V)) (lcs:ι->List (Nat × L)) (μ:ι->Nat) (x:ι) (hI:I x) (h:St ⟨w0,H0,B0,K,N⟩ (F.of sl lc) a w)
  (h1:leS (F.of sl lc) (sls x)=(sls x).map fun p=>some p.2) (h2:leN (F.of sl lc) (lcs x)=(lcs x).map fun p=>some p.2)
  (round:∀ x a w,I x->St ⟨w0,H0,B0,K,N⟩ (F.of (sls x) (lcs x)) a w->wpX r ds P c (Exit.then (fun a' w'=>∃ y,(I y/\μ y<μ x)/\St ⟨w0,H0,B0,K,N⟩ (F.of (sls y) (lcs y)) a' w') Q) a w):wpX r ds P (.loop c) Q a w:=by
 refine loopX0 (ι:={x // I x}) (fun x=>F.of (sls x.1) (lcs x.1)) (fun x=>μ x.1) ⟨x,hI⟩ (h.weaken (zjn h1 h2)) fun x a w hst=>wpX_mono (round x.1 a w x.2 hst) fun en a w hq=>?_
 cases en with
 | normal=>obtain ⟨y,⟨hy,hlt⟩,hst⟩:=hq;exact ⟨⟨y,hy⟩,hlt,hst⟩
 | _=>exact hq
theorem op_nil {o:Oper} (hK:∀ a w,K a w->a.defers=[]) (hQ:∀ e a w,Q e a w->e = .normal) (h:o.wp P a w K Q):a.defers=[]:=by
 unfold Oper.wp at h
 have hput:∀ v w', K (a.put o.dst v) w'->a.defers=[]:=fun v w' hk=>by
  have:=hK _ _ hk
  cases hd:o.dst <;> rw [hd] at this <;> exact this
 cases hr:(execOp a.eval o).run P w with
 | ok x w' =>
  rw [hr] at h
  cases x with
  | value v=>exact hput _ _ h
  | skip=>exact hput _ _ h
  | defer d =>
   have:=hK _ _ h
   cases hd:o.dst <;> rw [hd] at this <;> simp [Act.put] at this
  | enter f args =>
   obtain ⟨e,w'', fr,he,_⟩:=(show Calls P f args w' _ from h) []
   cases e with
   | returned v=>exact hput _ _ he
   | panicked chain=>cases hQ _ _ _ he
   | outgrown=>obtain ⟨_,_,h2⟩:=he;cases hQ _ _ _ h2
  | row row args =>
   obtain ⟨v,w'', he,_⟩:=(show Rows P row args w' _ from h) default []
   exact hput _ _ he
  | _=>exact h.elim
 | halt x w' =>
  rw [hr] at h
  cases x with
  | panic v=>cases hQ _ _ _ h
  | _=>exact h.elim
theorem opI_nil {i:Nat} (hK:∀ a w,K a w->a.defers=[]) (hQ:∀ e a w,Q e a w->e = .normal) (h:wpOp P ops Q i K a w):a.defers=[]:=by
 unfold wpOp at h
 cases ho:ops[i]? with
 | none=>rw [ho] at h;exact hK _ _ h
 | some o =>
  rw [ho] at h
  dsimp only at h
  split at h
  ·exact op_nil hK hQ (h.resolve_right fun ⟨_,h2⟩=>by obtain ⟨a2,w2,h2⟩:=h2;cases hQ _ _ _ h2)
  ·have:=hK _ _ h
   cases hd:o.dst <;> rw [hd] at this <;> exact this
theorem ops_nil (hQ:∀ e a w,Q e a w->e = .normal/\a.defers=[]):∀ (l:List Nat) (a:Act) (w:World),wpOps P ops Q l a w->a.defers=[]
 | [],a,w,h=>(hQ _ _ _ h).2
 | i :: l,a,w,h=>by rw [wpOps_cons] at h;exact opI_nil (ops_nil hQ l) (fun e a w h=>(hQ e a w h).1) h
theorem any_nil {md:Region.Mode} (hQ:∀ e a w,Q e a w->e = .normal/\a.defers=[]):∀ (fuel:Nat) (listed:Array Bool) (a:Act) (w:World),wpAny P md ops Q fuel listed a w->a.defers=[]
 | 0,_,a,w,h=>(hQ _ _ _ h.2).2
 | fuel+1,listed,a,w,h=>by
  cases hr:Region.ready md ops listed with
  | nil=>exact (hQ _ _ _ (h.1 hr)).2
  | cons i l=>exact opI_nil (any_nil hQ fuel _) (fun e a w h=>(hQ e a w h).1) (h.2 i (by rw [hr];simp))
theorem opX {o:Oper} {K':Act->World->Prop} (hnd:∀ c,o.op ≠ .defer c) (ha:a.defers=[]) (hK:∀ a w,K a w->a.defers=[]) (hK':∀ a w,a.defers=ds->K { a with defers:=[] } w->K' a w) (hQ:∀ a w,¬ Q .outgrown a w) (h:o.wp P a w K Q) :
  o.wpIn { Fence.wide with round:=r } 9 P { a with defers:=ds } w K' (fun ex a' w'=>a'.defers=ds/\Q ex { a' with defers:=[] } w'):=by
 refine ⟨fun _ _=>trivial,?_⟩
 rw [Oper.semAt_eq _ _ _ hnd]
 unfold Oper.wp at h
 have he:({ a with defers:=ds }:Act).eval=a.eval:=by funext x;cases x <;> rfl
 rw [he]
 have hput:∀ v w', K (a.put o.dst v) w'->K' (({ a with defers:=ds }:Act).put o.dst v) w':=by
  intro v w' hk
  refine hK' _ _ ?_ ?_
  ·cases o.dst <;> rfl
  ·have:({ (({ a with defers:=ds }:Act).put o.dst v) with defers:=[] }:Act)=a.put o.dst v:=by
    cases a;cases ha;cases o.dst <;> rfl
   rw [this];exact hk
 generalize (execOp a.eval o).run P w=res at h
 have hbare:({ ({ a with defers:=ds }:Act) with defers:=[] }:Act)=a:=by cases a;cases ha;rfl
 cases res with
 | ok x w' =>
  cases x with
  | value v=>exact hput _ _ h
  | skip=>exact hput _ _ h
  | defer d =>
   have:=hK _ _ h
   cases hd:o.dst with
   | none=>rw [hd] at this;simp [Act.put] at this
   | some q=>rw [hd] at this;simp [Act.put] at this
  | enter f args =>
   have h:Calls P f args w' _:=h
   refine ⟨fun h=>(by cases h),?_⟩
   refine CallsIn.mono (show CallsIn { Fence.wide with round:=r } (9 - 1) P f args w' _ from callsIn_wide.2 h) ?_
   intro e w'' he
   cases e with
   | returned v=>exact hput _ _ he
   | panicked chain=>exact ⟨rfl,by rw [hbare];exact he⟩
   | outgrown=>obtain ⟨a2,w2,h2⟩:=he;exact absurd h2 (hQ _ _)
  | row row args =>
   have h:Rows P row args w' _:=h
   refine ⟨fun h=>(by cases h),fun c cs _=>?_⟩
   obtain ⟨v,w'', h1,h2⟩:=h c cs
   exact ⟨v,w'', hput _ _ h1,(stepsIn_wide (P:=P)).2 h2⟩
  | _=>exact h.elim
 | halt x w' =>
  cases x with
  | panic v=>exact ⟨rfl,by rw [hbare];exact h⟩
  | _=>exact h.elim
theorem opIX {i:Nat} {K':Act->World->Prop} (hnd:∀ o ∈ ops,∀ c,o.op ≠ .defer c) (hK:∀ a w,K a w->a.defers=[]) (hK':∀ a w,a.defers=ds->K { a with defers:=[] } w->K' a w) (hQ:∀ e a w,Q e a w->e = .normal) (h:wpOp P ops Q i K a w) :
  wpOpIn { Fence.wide with round:=r } 9 P ops (fun ex a' w'=>a'.defers=ds/\Q ex { a' with defers:=[] } w') i K' { a with defers:=ds } w:=by
 have ha:=opI_nil hK hQ h
 unfold wpOp at h
 unfold wpOpIn
 cases ho:ops[i]? with
 | none=>rw [ho] at h;exact hK' _ _ rfl (by cases a;cases ha;exact h)
 | some o =>
  rw [ho] at h
  dsimp only at h ⊢
  by_cases hw:Region.wanted o (yielded ops a.tmps)=true
  ·rw [if_pos hw] at h
   rw [if_pos hw]
   have h:=h.resolve_right fun ⟨_,h2⟩=>by obtain ⟨a2,w2,h2⟩:=h2;cases hQ _ _ _ h2
   exact opX (hnd o (Array.mem_of_getElem? ho)) ha hK hK' (fun a w hq=>by cases hQ _ _ _ hq) h
  ·rw [if_neg hw] at h
   rw [if_neg hw]
   refine ⟨fun _ _=>trivial,hK' _ _ ?_ ?_⟩
   ·cases o.dst <;> rfl
   ·have:({ (({ a with defers:=ds }:Act).put o.dst undef) with defers:=[] }:Act)=a.put o.dst undef:=by
     cases a;cases ha;cases o.dst <;> rfl
    rw [this];exact h
theorem opsX (hnd:∀ o ∈ ops,∀ c,o.op ≠ .defer c) (hQ:∀ e a w,Q e a w->e = .normal/\a.defers=[]):∀ (l:List Nat) (a:Act) (w:World),wpOps P ops Q l a w ->
  wpOpsIn { Fence.wide with round:=r } 9 P ops (fun ex a' w'=>a'.defers=ds/\Q ex { a' with defers:=[] } w') l { a with defers:=ds } w
 | [],a,w,h=>⟨rfl,by have ha:=(hQ _ _ _ h).2;cases a;cases ha;exact h⟩
 | i :: l,a,w,h=>by
  rw [wpOps_cons] at h
  rw [wpOpsIn_cons]
  exact opIX hnd (ops_nil hQ l) (fun a w hd hk=>by have:=opsX hnd hQ l _ w hk;rw [zi6 hd] at this;exact this) (fun e a w h=>(hQ e a w h).1) h
theorem anyX {md:Region.Mode} (hnd:∀ o ∈ ops,∀ c,o.op ≠ .defer c) (hQ:∀ e a w,Q e a w->e = .normal/\a.defers=[]):∀ (fuel:Nat) (listed:Array Bool) (a:Act) (w:World),wpAny P md ops Q fuel listed a w ->
  wpAnyIn { Fence.wide with round:=r } 9 P md ops (fun ex a' w'=>a'.defers=ds/\Q ex { a' with defers:=[] } w') fuel listed { a with defers:=ds } w
 | 0,_,a,w,h=>⟨h.1,rfl,by have ha:=(hQ _ _ _ h.2).2;cases a;cases ha;exact h.2⟩
 | fuel+1,listed,a,w,h=>by
  refine ⟨fun h0=>⟨rfl,?_⟩,fun i hi=>?_⟩
  ·have h1:=h.1 h0
   have ha:=(hQ _ _ _ h1).2
   cases a;cases ha;exact h1
  ·exact opIX hnd (any_nil hQ fuel _) (fun a w hd hk=>by have:=anyX hnd hQ fuel _ _ w hk;rw [zi6 hd] at this;exact this) (fun e a w h=>(hQ e a w h).1) (h.2 i hi)
end
def noDefer (o:Oper):Bool:=match o.op with | .defer _=>false | _=>true
section
variable {r:Option Nat} {ds:List Deferred} {P:Program} {Q:Exit->Act->World->Prop} {w0:World} {H0:Im} {B0:Bl} {K:List Nat} {N:Nat}
theorem wpX_region_S (hnd:∀ o ∈ ops,∀ c,o.op ≠ .defer c) {id:Nat} {f:F} (is:List I) (g:F) (hm:P.follows .mixedOrders=true) (hpo:pairsOk draw ops.toList is=true)
  (hdo:∀ k o,ops[k]?=some o->Does P ops o (at_ is k)) (hb:∀ k,FitsE e (at_ is k)) (hn:∀ k,∀ n ∈ (at_ is k).nw,New e.K f n)
  (hr:RunL is f (List.range ops.size) g) (h:St e f a w) (hQ:∀ a w,St e g a w->Q .normal a w):wpX r ds P (Code.region id ops draw) Q a w:=by
 have hN:∀ (ex:Exit) (a:Act) (w:World),(ex = .normal/\St e g a w)->ex = .normal/\a.defers=[]:=fun ex a w h=>⟨h.1,by obtain ⟨_,H,B,hok⟩:=h;exact hok.df⟩
 refine wpX_mono (Q:=fun ex a w=>ex = .normal/\St e g a w) ?_ (fun ex a w h=>by obtain ⟨rfl,h⟩:=h;exact hQ a w h)
 cases draw with
 | false =>
  refine wpIn_region (opsX hnd hN _ _ _ (wpOps_run hdo hb (fun a w h=>⟨rfl,h⟩) _ f a w (fun k hk=>cL.1 hk) ?_ (fun k _=>hn k) hr h))
  refine List.Pairwise.imp_of_mem ?_ List.pairwise_lt_range
  intro j k hj hk hjk
  exact ((zgf hpo (k:=k) (by simpa using cL.1 hk)).2 j hjk).1
 | true =>
  refine wpIn_region_any hm (anyX hnd hN _ _ _ _ (wpAny_run hdo hb (fun a w h=>⟨rfl,h⟩) hpo _ _ f a _ (by simp) ?_ ?_ (fun k _=>hn k) ?_ h.drew))
  ·intro k o ho hl
   have hks:=(cU.1 ho).1
   simp [cN, hks] at hl
  ·refine bU (List.length_filter_le _ _) (by simp)
  ·have:left (Array.replicate ops.size false) ops.size=List.range ops.size:=by
    unfold left
    refine List.filter_eq_self.2 fun k hk=>?_
    have:=cL.1 hk
    simp [cN, this]
   rw [this]
   exact hr
theorem regionX (hnd:ops.toList.all noDefer=true) {id:Nat} (is:List I) (sl':List (Nat × V)) (lc':List (Nat × L)) (hm:P.follows .mixedOrders=true)
  (hdo:AllDo P ops ops.toList is) (hc:chk draw ops.toList is N K sl lc=true) (h1:runS (F.of sl lc) is=wantS is) (h2:runN (F.of sl lc) is=wantN is)
  (h3:leS (runF (F.of sl lc) is) sl'=sl'.map fun p=>some p.2) (h4:leN (runF (F.of sl lc) is) lc'=lc'.map fun p=>some p.2)
  (h:St ⟨w0,H0,B0,K,N⟩ (F.of sl lc) a w) (hQ:∀ a w,St ⟨w0,H0,B0,K,N⟩ (F.of sl' lc') a w->Q .normal a w):wpX r ds P (Code.region id ops draw) Q a w:=by
 simp only [chk,bN] at hc
 obtain ⟨⟨⟨c1,c2⟩,c3⟩,c4⟩:=hc
 have hmem:∀ k,at_ is k ∈ is\/at_ is k={}:=by
  intro k
  unfold at_
  rw [List.getD_eq_getElem?_getD]
  cases hk:is[k]? with
  | none=>exact .inr rfl
  | some x=>exact .inl (cP hk)
 refine wpX_region_S (fun o ho c hc=>by have:=bV.1 hnd o (by simpa using ho);unfold noDefer at this;rw [hc] at this;cases this) is (F.of sl' lc') hm c1 (fun k o ho=>hdo.get k o (by simpa using ho)) ?_ ?_ ?_ h hQ
 ·intro k
  refine ⟨fun p hp=>?_,fun h0=>?_⟩
  ·rcases hmem k with hk | hk
   ·have:=bV.1 (bV.1 c2 _ hk) p hp
    simpa [Nat.blt_eq] using this
   ·rw [hk] at hp;cases hp
  ·rcases hmem k with hk | hk
   ·have:=bV.1 c4 _ hk
    rw [h0] at this
    simpa using this
   ·rw [hk] at h0;cases h0
 ·intro k n hn
  rcases hmem k with hk | hk
  ·exact zhc (bV.1 (bV.1 c3 _ hk) n hn)
  ·rw [hk] at hn;cases hn
 ·have:=RunL.of (g:=F.of sl' lc') [] is (F.of sl lc) h1 h2 (zjn h3 h4)
  have hl:=hdo.length
  simp only [List.nil_append,cW] at this
  rw [List.range_eq_range', <- Array.length_toList,hl]
  exact this
end
section
variable {r:Option Nat} {ds:List Deferred} {Q:Exit->Act->World->Prop} {w0:World} {H0:Im} {B0:Bl} {K:List Nat} {N:Nat}
theorem rSX {tb:Tb} (htb:zli dX tb) {id:Nat} (nx:Nat) (cs:List (Nat × Orc dX)) (sl':List (Nat × V)) (lc':List (Nat × L))
  (hnd:ops.toList.all noDefer=true)
  (hc:((gens ops.toList cs).map (·.1),(zg3 tb ops (F.of sl lc) nx 0 ops.toList cs).isSome,(zg3 tb ops (F.of sl lc) nx 0 ops.toList cs).map fun is=>Seen.mk (chk draw ops.toList is N K sl lc) (runS (F.of sl lc) is) (runN (F.of sl lc) is) (leS (runF (F.of sl lc) is) sl') (leN (runF (F.of sl lc) is) lc')) =
   ((gens ops.toList cs).map (·.2),true,(zg3 tb ops (F.of sl lc) nx 0 ops.toList cs).map fun is=>Seen.mk true (wantS is) (wantN is) (sl'.map fun p=>some p.2) (lc'.map fun p=>some p.2)))
  (h:St ⟨w0,H0,B0,K,N⟩ (F.of sl lc) a w) (hQ:∀ a w,St ⟨w0,H0,B0,K,N⟩ (F.of sl' lc') a w->Q .normal a w):wpX r ds dX (Code.region id ops draw) Q a w:=by
 simp only [Prod.mk.injEq] at hc
 obtain ⟨hg,hs,hm⟩:=hc
 cases hi:zg3 tb ops (F.of sl lc) nx 0 ops.toList cs with
 | none=>rw [hi] at hs;cases hs
 | some is =>
  rw [hi] at hm
  simp only [Option.map_some,Option.some.injEq,Seen.mk.injEq] at hm
  exact regionX hnd is sl' lc' mixed (insts_ok htb hg _ _ _ _ _ rfl hi) hm.1 hm.2.1 hm.2.2.1 hm.2.2.2.1 hm.2.2.2.2 h hQ
theorem rSeqX {tb:Tb} (htb:zli dX tb) {id:Nat} {y:Code} (nx:Nat) (cs:List (Nat × Orc dX)) (sl':List (Nat × V)) (lc':List (Nat × L))
  (hnd:ops.toList.all noDefer=true)
  (hc:((gens ops.toList cs).map (·.1),(zg3 tb ops (F.of sl lc) nx 0 ops.toList cs).isSome,(zg3 tb ops (F.of sl lc) nx 0 ops.toList cs).map fun is=>Seen.mk (chk draw ops.toList is N K sl lc) (runS (F.of sl lc) is) (runN (F.of sl lc) is) (leS (runF (F.of sl lc) is) sl') (leN (runF (F.of sl lc) is) lc')) =
   ((gens ops.toList cs).map (·.2),true,(zg3 tb ops (F.of sl lc) nx 0 ops.toList cs).map fun is=>Seen.mk true (wantS is) (wantN is) (sl'.map fun p=>some p.2) (lc'.map fun p=>some p.2)))
  (h:St ⟨w0,H0,B0,K,N⟩ (F.of sl lc) a w) (hQ:∀ a w,St ⟨w0,H0,B0,K,N⟩ (F.of sl' lc') a w->wpX r ds dX y Q a w):wpX r ds dX (Code.seq (Code.region id ops draw) y) Q a w :=
 wpX_seq (rSX htb nx cs sl' lc' hnd hc h hQ)
end
def dat:Obj->Bool
  | .cells _ _ _ | .map _ _=>true
  | _=>false
theorem dat_cells (h:dat o=false):o.isCells=false:=by cases o <;> first | rfl | cases h
def LeC (H H':Im):Prop:=∀ b o,H b=some o->dat o=true->H' b=some o
section
variable {H H':Im} {B:Bl}
theorem DR.monoC (hl:LeC H H') {x:D} {v:Value} (h:DR H x v):DR H' x v:=by
 induction h with
 | raw v h=>exact .raw v h
 | nil es ao c h hc=>exact .nil es ao c h hc
 | sl es rows b o c arr ty fz vs hp hb hl2 hc hes hv _ ih=>exact .sl es rows b o c arr ty fz vs hp (hl _ _ hb rfl) hl2 hc hes hv ih
theorem AR.monoC (hl:LeC H H') {x:A} {v:Value} (h:AR H B x v):AR H' B x v:=by
 cases x with
 | d x=>exact DR.monoC hl h
 | ptr n o=>exact h
theorem CR.monoC (hl:LeC H H') {x:C} {v:Value} (h:CR H B x v):CR H' B x v:=by
 cases x with
 | d x=>exact DR.monoC hl h
 | ptr n o=>exact h
 | own n k=>exact h
 | el xs =>
  obtain ⟨b,o,arr,ty,fz,hb,hv,hx⟩:=h
  exact ⟨b,o,arr,ty,fz,hl _ _ hb rfl,hv,fun j hj=>let ⟨u,h1,h2⟩:=hx j hj;⟨u,h1,h2.monoC hl⟩⟩
 | fn f fs cs =>
  obtain ⟨vs,ws,hv,h1,h2⟩:=h
  exact ⟨vs,ws,hv,h1.mono fun a _ b=>AR.monoC hl,h2.mono fun a _ b=>AR.monoC hl⟩
 | sub n o len=>exact h
 | any=>exact h
 | mp n=>exact h
theorem TR.monoC (hl:LeC H H') {x:T} {v:Value} (h:TR H B x v):TR H' B x v:=by
 cases x with
 | c x=>exact CR.monoC hl h
 | agg cs =>
  obtain ⟨vs,hv,h1⟩:=h
  exact ⟨vs,hv,h1.mono fun a _ b=>CR.monoC hl⟩
theorem VR.monoC (hl:LeC H H') {x:V} {v:Value} (h:VR H B x v):VR H' B x v:=by
 cases x with
 | t x=>exact TR.monoC hl h
 | tup xs =>
  obtain ⟨vs,hv,h1⟩:=h
  exact ⟨vs,hv,h1.mono fun a _ b=>TR.monoC hl⟩
theorem LR.monoC (hl:LeC H H') {x:L} {w':World} (hw:∀ b c,B n=some (b,c)->w'.heap[b]?=w.heap[b]?) (h:LR H B w n x):LR H' B w' n x:=by
 cases x with
 | box cs =>
  obtain ⟨b,c,arr,ty,hb,hc,h1⟩:=h
  exact ⟨b,c,arr,ty,hb,(hw b c hb).trans hc,h1.mono fun a _ v=>CR.monoC hl⟩
 | row ty es rows =>
  simp only [LR] at h ⊢
  cases hb:B n with
  | none=>rw [hb] at h;exact h
  | some p =>
   obtain ⟨b,c⟩:=p
   rw [hb] at h
   obtain ⟨arr,h1,h2,h3,h4,h5,h6⟩:=h
   exact ⟨arr,(hw b c hb).trans h1,h2,h3,h4,h5,h6.mono fun a _ v=>DR.monoC hl⟩
 | rowc ty es rows =>
  simp only [LR] at h ⊢
  cases hb:B n with
  | none=>rw [hb] at h;exact h
  | some p =>
   obtain ⟨b,c⟩:=p
   rw [hb] at h
   obtain ⟨arr,h1,h2,h3,h4,h5,h6⟩:=h
   exact ⟨arr,(hw b c hb).trans h1,h2,h3,h4,h5,h6.mono fun a _ v=>CR.monoC hl⟩
 | bld ty x rest =>
  obtain ⟨b,c,v1,v2,vr,hb,hc,h1,h0,h2,h3⟩:=h
  exact ⟨b,c,v1,v2,vr,hb,(hw b c hb).trans hc,h1,h0,CR.monoC hl h2,h3.mono fun a _ v=>CR.monoC hl⟩
 | mp es =>
  obtain ⟨b,c,arr,cl,hb,hc,h1⟩:=h
  exact ⟨b,c,arr,cl,hb,(hw b c hb).trans hc,h1.mono fun a _ e h2=>⟨h2.1,h2.2.monoC hl⟩⟩
theorem LR.cells {x:L} {c:Nat} (h:LR H B w n x) (hb:B n=some (b,c)):∃ o,w.heap[b]?=some o/\dat o=true:=by
 cases x with
 | box cs=>obtain ⟨b', c', arr,ty,hb', hc,_⟩:=h;rw [hb] at hb';cases hb';exact ⟨_,hc,rfl⟩
 | row ty es rows =>
  simp only [LR] at h
  rw [hb] at h
  obtain ⟨arr,h1,_⟩:=h
  exact ⟨_,h1,rfl⟩
 | rowc ty es rows =>
  simp only [LR] at h
  rw [hb] at h
  obtain ⟨arr,h1,_⟩:=h
  exact ⟨_,h1,rfl⟩
 | bld ty x rest=>obtain ⟨b', c', v1,v2,vr,hb', hc,_⟩:=h;rw [hb] at hb';cases hb';exact ⟨_,hc,rfl⟩
 | mp es=>obtain ⟨b', c', arr,cl,hb', hc,_⟩:=h;rw [hb] at hb';cases hb';exact ⟨_,hc,rfl⟩
end
def cutH (H1 H:Im):Im:=fun b=>match H b with
  | some o=>if dat o || (H1 b).isSome then some o else none
  | none=>none
theorem cutH_some (h:cutH H1 H b=some o):H b=some o/\(dat o=true\/(H1 b).isSome=true):=by
 unfold cutH at h
 cases hb:H b with
 | none=>rw [hb] at h;cases h
 | some o' =>
  rw [hb] at h
  dsimp only at h
  split at h
  ·rename_i hc;cases h;exact ⟨rfl,by simpa using hc⟩
  ·cases h
theorem cutH_leC (H1 H:Im):LeC H (cutH H1 H):=fun b o h ho=>by unfold cutH;rw [h];dsimp only;rw [ho];rfl
theorem cutH_none (h:H b=none):cutH H1 H b=none:=by unfold cutH;rw [h]
theorem zkp (h:H b=some o) (h1:(H1 b).isSome=true):cutH H1 H b=some o:=by unfold cutH;rw [h];dsimp only;rw [h1,Bool.or_true];rfl
theorem TabH.back {Hx:Im} (h:∀ b o,Hx b=some o->H1 b=some o\/o.isCells=false) (ht:TabH Hx):TabH H1:=by
 have _:=h;have _:=ht;exact trivial
def zf9 (H M:Im):Im:=fun b=>match H b with
  | some o=>some o
  | none=>M b
theorem zm0 (H M:Im):Le H (zf9 H M):=fun b o h=>by unfold zf9;rw [h]
theorem zi3 {M:Im} (h:zf9 H M b=some o):H b=some o\/(H b=none/\M b=some o):=by
 unfold zf9 at h
 cases hb:H b with
 | none=>rw [hb] at h;exact .inr ⟨rfl,h⟩
 | some o'=>rw [hb] at h;exact .inl h
def Clean (H1 H:Im):Prop:=∀ b o,H b=some o->H1 b=some o\/dat o=true
section
variable {w0:World} {Hx H1 H:Im} {B0 B:Bl} {K:List Nat} {N:Nat} {f:F} {a:Act} {w:World}
theorem Ok.cut (h:Ok ⟨w0,Hx,B0,K,N⟩ f H B a w) (h1:Le H1 Hx) (h2:∀ b o,Hx b=some o->H1 b=some o\/dat o=false):Ok ⟨w0,H1,B0,K,N⟩ f (cutH H1 H) B a w/\Clean H1 (cutH H1 H):=by
 have hc:LeC H (cutH H1 H):=cutH_leC H1 H
 refine ⟨⟨h.df,h.n,h.ext,fun b o hb=>h.sat b o (cutH_some hb).1,fun t v hv=>VR.monoC hc (h.slot t v hv),fun n l hn=>LR.monoC hc (fun _ _ _=>rfl) (h.loc n l hn),?_,h.inj,?_,?_,h.keep,TabH.back (fun b o hb=>(h2 b o hb).imp id dat_cells) h.tab⟩,?_⟩
 ·intro n l b c hn hb
  obtain ⟨p1,p2,p3⟩:=h.priv n l b c hn hb
  exact ⟨p1,cutH_none p2,p3⟩
 ·intro b hb
  have hlow:H b=Hx b:=h.low b hb
  cases hx:Hx b with
  | none =>
   rw [hx] at hlow
   rw [cutH_none hlow]
   cases h1b:H1 b with
   | none=>exact h1b.symm
   | some o=>have:=h1 b o h1b;rw [hx] at this;cases this
  | some o =>
   rw [hx] at hlow
   rcases h2 b o hx with h3 | h3
   ·rw [zkp hlow (by rw [h3];rfl)];exact h3.symm
   ·cases h1b:H1 b with
    | none=>unfold cutH;rw [hlow];dsimp only;rw [h3,h1b];rfl
    | some o'=>rw [zkp hlow (by rw [h1b];rfl)];have:=h1 b o' h1b;rw [hx] at this;exact this.trans h1b.symm
 ·intro b o hb
  exact zkp (h.le b o (h1 b o hb)) (by show (H1 b).isSome=true;rw [show H1 b=some o from hb];rfl)
 ·intro b o hb
  obtain ⟨h3,h4⟩:=cutH_some hb
  rcases h4 with h4 | h4
  ·exact .inr h4
  ·obtain ⟨o', h5⟩:=dR.1 h4
   have:=h.le b o' (h1 b o' h5)
   rw [h3] at this
   cases this
   exact .inl h5
theorem Ok.join (h:Ok ⟨w0,H1,B0,K,N⟩ f H B a w) (M:Im) (hM:∀ b o,M b=some o->w.heap[b]?=some o/\dat o=false):Ok ⟨w0,zf9 H1 M,B0,K,N⟩ f (zf9 H M) B a w:=by
 have hl:=zm0 H M
 refine ⟨h.df,h.n,h.ext,?_,fun t v hv=>VR.mono hl (fun _ _=>rfl) (h.slot t v hv),fun n l hn=>LR.mono hl rfl (fun _ _=>rfl) (fun _ _ _=>rfl) (h.loc n l hn),?_,h.inj,?_,?_,h.keep,h.tab.mono (zm0 H1 M)⟩
 ·intro b o hb
  rcases zi3 hb with h1 | ⟨_,h1⟩
  ·exact h.sat b o h1
  ·exact (hM b o h1).1
 ·intro n l b c hn hb
  obtain ⟨p1,p2,p3⟩:=h.priv n l b c hn hb
  refine ⟨p1,?_,p3⟩
  unfold zf9
  rw [p2]
  show M b=none
  cases hm:M b with
  | none=>rfl
  | some o =>
   obtain ⟨h1,h2⟩:=hM b o hm
   obtain ⟨o', h3,h4⟩:=(h.loc n l hn).cells hb
   rw [h1] at h3;cases h3;rw [h2] at h4;cases h4
 ·intro b hb
  have:H b=H1 b:=h.low b hb
  show zf9 H M b=zf9 H1 M b
  unfold zf9;rw [this]
 ·intro b o hb
  show zf9 H M b=some o
  rcases zi3 hb with h1 | ⟨h0,h1⟩
  ·exact hl b o (h.le b o h1)
  ·cases hx:H b with
   | none=>unfold zf9;rw [hx];exact h1
   | some o'=>unfold zf9;rw [hx];have:=h.sat b o' hx;rw [(hM b o h1).1] at this;exact this.symm
def StC (w0:World) (H1:Im) (B0:Bl) (K:List Nat) (N:Nat) (f:F) (a:Act) (w:World):Prop:=∃ H B,Ok ⟨w0,H1,B0,K,N⟩ f H B a w/\Clean H1 H
theorem StC.st (h:StC w0 H1 B0 K N f a w):St ⟨w0,H1,B0,K,N⟩ f a w:=let ⟨H,B,h,_⟩:=h;⟨H,B,h⟩
theorem StC.of (h:St ⟨w0,Hx,B0,K,N⟩ f a w) (h1:Le H1 Hx) (h2:∀ b o,Hx b=some o->H1 b=some o\/dat o=false):StC w0 H1 B0 K N f a w:=let ⟨_,B,h⟩:=h;⟨_,B,h.cut h1 h2⟩
theorem St.join (h:St ⟨w0,H1,B0,K,N⟩ f a w) (M:Im) (hM:∀ b o,M b=some o->w.heap[b]?=some o/\dat o=false):St ⟨w0,zf9 H1 M,B0,K,N⟩ f a w:=let ⟨_,B,h⟩:=h;⟨_,B,h.join M hM⟩
theorem StC.turn (h:StC w0 H1 B0 K N f a w) {w':World} {r:Nat} {z:Nat} (hos:w'.os=w.os) (htape:w'.tape=w.tape) (hout:w'.output=w.output) (hsize:w.heap.size<=w'.heap.size)
  (hblock:∀ b,b<w.heap.size->b≠r->w'.heap[b]?=w.heap[b]?) (hz:w0.heap.size<=z) (hr:z<=r) (hro:∀ o,w.heap[r]?=some o->dat o=false) (h1:∀ b o,H1 b=some o->b<z):StC w0 H1 B0 K N f a w':=by
 obtain ⟨H,B,h,hcl⟩:=h
 have hne:∀ b o,H b=some o->b≠r:=fun b o hb e=>by
  subst e
  rcases hcl b o hb with h2 | h2
  ·have:=h1 b o h2;omega
  ·have:=hro o (h.sat b o hb);rw [h2] at this;cases this
 have hown:∀ n l b c,f.l n=some l->B n=some (b,c)->w'.heap[b]?=w.heap[b]?:=fun n l b c hn hb=>by
  obtain ⟨o', h3,h4⟩:=(h.loc n l hn).cells hb
  refine hblock b (h.priv n l b c hn hb).1 fun e=>?_
  subst e
  have:=hro _ h3
  rw [h4] at this
  cases this
 refine ⟨H,B,⟨h.df,h.n,⟨hos.trans h.ext.os,htape.trans h.ext.tape,hout.trans h.ext.output,bU h.ext.size hsize,fun b hb hm=>?_⟩,?_,h.slot,?_,?_,h.inj,h.low,h.le,h.keep,h.tab⟩,hcl⟩
 ·have hb:b<w0.heap.size:=hb
  exact (hblock b (dB hb h.ext.size) (by omega)).trans (h.ext.block b hb hm)
 ·intro b o hb
  have hs:=h.sat b o hb
  exact (hblock b (cU.1 hs).1 (hne b o hb)).trans hs
 ·intro n l hn
  exact LR.mono (Le.refl _) rfl (fun _ _=>rfl) (fun b c hb=>hown n l b c hn hb) (h.loc n l hn)
 ·intro n l b c hn hb
  obtain ⟨p1,p2,p3⟩:=h.priv n l b c hn hb
  exact ⟨dB p1 hsize,p2,p3⟩
end
theorem wpIn_depth {F:Fence} {c:Code} {Q:Exit->Act->World->Prop} (hd:F.depth=none) (h:c.wpIn F n P Q a w):c.wpIn F m P Q a w :=
 fun b k cs hro hb _=>h b k cs hro hb fun d h1=>by rw [hd] at h1;cases h1
def IterOk (P:Program) (gf:Nat) (xs:D) (m:Nat) (e:Nat->V × V):Prop :=
  ∀ (H1:Im) (Bs:Nat) (sv:Value) (ty:TypeId),H1 Bs=some (.cells #[sv] ty (0,0))->DR H1 xs sv ->
    ∃ ev:Nat->Value × Value,(∀ B j,j<m->VR H1 B (e j).1 (ev j).1/\VR H1 B (e j).2 (ev j).2) /\
      ∀ (l:Nat) (J:Nat->World->Prop) (W:World),(∀ j W,J j W->∀ b o,H1 b=some o->W.heap[b]?=some o) ->
        (∀ j W1,J j W1->j<m->YieldAt Fence.wide 7 P l #[(ev j).1,(ev j).2] W1 fun en W'=>en = .returned (.bool true)/\J (j+1) W') ->
        J 0 W->CallsIn Fence.wide 8 P gf #[.func (.yield l) #[] #[],.pointer (some ⟨Bs,0,none⟩)] W fun en W'=>(∃ v,en = .returned v)/\J m W'
theorem St.fix {f:F} {xs:D} (Kn:List Nat) (h:St ⟨w0,H0,B0,[],N⟩ f a w) (hl:f.l n=some (.box [.d xs])) :
  ∃ (H1:Im) (Bx:Bl) (Bs:Nat) (sv:Value) (ty:TypeId),Le H0 H1/\(∀ b,b<w0.heap.size->H1 b=H0 b)/\H1 Bs=some (.cells #[sv] ty (0,0))/\DR H1 xs sv /\
   (∀ t gf,f.s t=some (.t (.c (.fn (.func gf) [] [.ptr n 0])))->a.tmps.getD t undef = .func (.func gf) #[] #[.pointer (some ⟨Bs,0,none⟩)]) /\
   (∀ m l b c,f.l m=some l->Bx m=some (b,c)->w0.heap.size<=b)/\(∀ t v,f.s t=some v->VR H1 Bx v (a.tmps.getD t undef)) /\
   Ok ⟨w0,H1,Bx,Kn,N⟩ ⟨f.s,fun m=>if m=n then none else f.l m⟩ H1 Bx a w:=by
 obtain ⟨H,B,h⟩:=h
 obtain ⟨Bs,c,arr,ty,hB,hc,hx⟩:=h.loc n _ hl
 match arr,hx with
 | [sv],hx =>
 obtain ⟨p1,p2,p3⟩:=h.priv n _ Bs c hl hB
 have hnm:∀ b,¬ (⟨w0,H0,B0,[],N⟩:E).may b:=fun b hb=>by obtain ⟨m,hm,_⟩:=hb;cases hm
 have p4:w0.heap.size<=Bs:=p3.resolve_left (hnm _)
 have hle:Le H (fun b=>if b=Bs then some (.cells #[sv] ty (0,0)) else H b):=fun b o hb=>by
  by_cases e:b=Bs
  ·subst e;rw [p2] at hb;cases hb
  ·simp only [if_neg e];exact hb
 refine ⟨fun b=>if b=Bs then some (.cells #[sv] ty (0,0)) else H b,B,Bs,sv,ty,h.le.trans hle,fun b hb=>?_,by simp,DR.mono hle hx.1,fun t gf ht=>?_,fun m l b c hm hb=>(h.priv m l b c hm hb).2.2.resolve_left (hnm _),fun t v hv=>VR.mono hle (fun _ _=>rfl) (h.slot t v hv),?_⟩
 ·have:b≠Bs:=by omega
  simp only [if_neg this]
  exact h.low b hb
 ·obtain ⟨vs,ws,hv,h1,h2⟩:=h.slot t _ ht
  match vs,ws,h1,h2 with
  | [],[u],_,h2 =>
  obtain ⟨b', c', hb', hu⟩:=h2.1
  rw [hB] at hb';cases hb'
  rw [hv,hu]
 ·refine ⟨h.df,h.n,⟨h.ext.os,h.ext.tape,h.ext.output,h.ext.size,fun b hb _=>h.ext.block b hb (hnm _)⟩,?_,fun t v hv=>VR.mono hle (fun _ _=>rfl) (h.slot t v hv),?_,?_,?_,fun _ _=>rfl,Le.refl _,fun _ _=>rfl,(h.tab.mono h.le).mono hle⟩
  ·intro b o hb
   by_cases e:b=Bs
   ·subst e;simp only [if_true] at hb;cases hb;exact hc
   ·simp only [if_neg e] at hb;exact h.sat b o hb
  ·intro m l hm
   by_cases e:m=n
   ·simp [e] at hm
   ·simp only [if_neg e] at hm
    exact LR.mono hle rfl (fun _ _=>rfl) (fun _ _ _=>rfl) (h.loc m l hm)
  ·intro m l b c' hm hb
   by_cases e:m=n
   ·simp [e] at hm
   ·simp only [if_neg e] at hm
    obtain ⟨q1,q2,q3⟩:=h.priv m l b c' hm hb
    refine ⟨q1,?_,.inr (q3.resolve_left (hnm _))⟩
    have:b≠Bs:=fun e2=>by subst e2;exact e (h.inj m n _ _ b _ _ hm hl hb hB)
    simp only [if_neg this]
    exact q2
  ·intro m m' l l' b c1 c2 hm hm' hb hb'
   by_cases e:m=n
   ·simp [e] at hm
   by_cases e':m'=n
   ·simp [e'] at hm'
   simp only [if_neg e] at hm
   simp only [if_neg e'] at hm'
   exact h.inj m m' l l' b c1 c2 hm hm' hb hb'
theorem RetQ.low {ps:List (Nat × L)} {en:Ending} (hle:Le H0 H1) (hlow:∀ b,b<w0.heap.size->H1 b=H0 b)
  (h:RetQ ⟨w0,H1,B0,ps.map (·.1),N⟩ ps res qs en w):RetQ ⟨w0,H0,B0,ps.map (·.1),N⟩ ps res qs en w:=by
 obtain ⟨v,H', B', he,hp⟩:=h
 exact ⟨v,H', B', he,Le.trans hle hp.le,fun b hb=>(hp.low b hb).trans (hlow b hb),hp.sat,hp.loc,hp.priv,hp.inj,hp.keep,hp.res,hp.ext⟩
def RetX (P:Program) (fn:Func) (e:E) (res:V) (qs:List (Nat × L)) (ex:Exit) (a:Act) (w:World):Prop :=
  (ex = .ret\/ex = .normal)/\∃ rs f xs,fn.results=⟨rs⟩/\St e f a w/\zbb (RV P f) rs xs/\resOf xs=res/\(∀ q ∈ qs,f.l q.1=some q.2)/\(res.tags++qs.flatMap fun q=>q.2.tags).all (hasN (qs.map (·.1)))=true
theorem retX {K:List Nat} {rs:List ResultVar} (xs:List T) (h:St ⟨w0,H0,B0,K,N⟩ (F.of sl lc) a w) (n:Exit) (hn:n = .ret\/n = .normal) (hf:fn.results=⟨rs⟩) (hx:zbb (RV P (F.of sl lc)) rs xs) (hres:resOf xs=res)
  (hq:leN (F.of sl lc) qs=qs.map fun p=>some p.2) (ht:(res.tags++qs.flatMap fun q=>q.2.tags).all (hasN (qs.map (·.1)))=true):RetX P fn ⟨w0,H0,B0,K,N⟩ res qs n a w :=
 ⟨hn,rs,F.of sl lc,xs,hf,h,hx,hres,fun q hq1=>zco hq q hq1,ht⟩
def markH (Dd:Nat):Im:=fun b=>if b=Dd then some (.deferred (some [])) else none
theorem leave_mark {ps:List (Nat × L)} {Dd:Nat} (hle:Le H0 H1) (hlow:∀ b,b<w0.heap.size->H1 b=H0 b) (hD:w0.heap.size<=Dd) (hD1:∀ b o,H1 b=some o->b<Dd) {ex:Exit}
  (hd:a.defers=[{ target:=.collected Dd,args:=#[] }]) (h:RetX P fn ⟨w0,zf9 H1 (markH Dd),B0,ps.map (·.1),N⟩ res qs ex { a with defers:=[] } w) :
  bodyPostM Fence.wide 9 P fn (RetQ ⟨w0,H0,B0,ps.map (·.1),N⟩ ps res qs) ex a w:=by
 obtain ⟨hn,rs,f,xs,hf,hst,hx,hres,hq,ht⟩:=h
 have hH1:H1 Dd=none:=by
  cases h1:H1 Dd with
  | none=>rfl
  | some o=>have:=hD1 _ _ h1;omega
 have hJ:zf9 H1 (markH Dd) Dd=some (.deferred (some [])):=by unfold zf9 markH;rw [hH1];simp
 have hw:w.heap[Dd]?=some (.deferred (some [])):=by
  obtain ⟨H,B,hok⟩:=hst
  exact hok.sat _ _ (hok.le _ _ hJ)
 have hc:StC w0 H1 B0 (ps.map (·.1)) N f { a with defers:=[] } w:=StC.of hst (zm0 _ _) fun b o hb=>by
  rcases zi3 hb with h1 | ⟨_,h1⟩
  ·exact .inl h1
  ·unfold markH at h1
   split at h1
   ·cases h1;exact .inr rfl
   ·cases h1
 have hc2:=(hc.turn (w':=w.putObj Dd (.deferred none)) (r:=Dd) (z:=Dd) rfl rfl rfl (by simp) (fun b _ hb=>World.putObj_heap_other hb) hD (bI _) (fun o ho=>by rw [hw] at ho;cases ho;rfl) hD1).st
 have hb:=St.ret (P:=P) (ps:=ps) hc2 rfl hf hx hres hq ht .ret (.inl rfl)
 obtain ⟨_,v,hv,hr⟩:=hb
 have hl:LeavesInM Fence.wide 9 P fn a.tmps (RetQ ⟨w0,H0,B0,ps.map (·.1),N⟩ ps res qs) a.defers .returning w:=by
  rw [hd]
  exact ⟨by simp,.inl ⟨_,_,rfl,run_takeDeferred hw,v,hv,hr.low hle hlow⟩⟩
 rcases hn with rfl | rfl
 ·exact hl
 ·exact hl
theorem Fn.bodyR {k:FuncId} {c:Code} {args:List V} (hf:P.funcs[k]?=some fn) (hb:fn.body=some c) (N:Nat) (hN:args.length+(fn.ntmps - args.length)=N)
  (h:∀ (w:World) (H:Im) (B:Bl) (a:Act),St ⟨w,H,B,[],N⟩ (F.of (argS 0 args) []) a w->c.wp P (bodyPostM Fence.wide 9 P fn (RetQ ⟨w,H,B,[],N⟩ [] res qs)) a w):Fn P k [] args res qs:=by
 intro w H B vals pre
 refine callsIn_wide.1 (callsIn_of_wp_marks (n:=9) hf hb trivial (wpIn_wide.2 (h w H B _ ⟨H,B,rfl,?_,⟨rfl,rfl,rfl,bI _,fun _ _ _=>rfl⟩,pre.sat,?_,?_,?_,?_,fun _ _=>rfl,Le.refl _,fun _ _=>rfl,pre.tab⟩)))
 ·have:=pre.arg.length
  simp [<- hN,<- this]
 ·intro t v hv
  have h1:=(argS_get args 0 t v hv).2
  rw [Nat.sub_zero] at h1
  obtain ⟨ht,rfl⟩:=dC.1 h1
  obtain ⟨u,h2,h3⟩:=pre.arg.get t ht
  have htv:t<vals.length:=(dC.1 h2).1
  have:(((⟨vals⟩:Array Value)++Array.replicate (fn.ntmps - (⟨vals⟩:Array Value).size) undef).getD t undef)=u:=by
   rw [cN, Array.getElem?_append_left (by simpa using htv)]
   simp [h2]
  rw [this]
  exact h3
 ·intro n l hn;cases hn
 ·intro n l b c hn;cases hn
 ·intro n m l l' b c c' h1;cases h1
def ncH (W:World):Im:=fun b=>match W.heap[b]? with
  | some o=>if dat o then none else some o
  | none=>none
theorem ncH_some {W:World} (h:ncH W b=some o):W.heap[b]?=some o/\dat o=false:=by
 unfold ncH at h
 cases hb:W.heap[b]? with
 | none=>rw [hb] at h;cases h
 | some o' =>
  rw [hb] at h
  dsimp only at h
  split at h
  ·cases h
  ·rename_i hc;cases h;exact ⟨rfl,by simpa using hc⟩
theorem ncH_of {W:World} (h:W.heap[b]?=some o) (ho:dat o=false):ncH W b=some o:=by unfold ncH;rw [h];dsimp only;rw [ho];rfl
section
variable {w0:World} {H1:Im} {B0 Bx:Bl} {K Kn:List Nat} {N:Nat} {f:F} {a:Act} {w W:World}
theorem St.nc (hs:∀ b o,H1 b=some o->W.heap[b]?=some o) (h:St ⟨w0,zf9 H1 (ncH W),B0,K,N⟩ f a w) (hb:W.heap[b]?=some o) (ho:dat o=false):w.heap[b]?=some o:=by
 obtain ⟨H,B,h⟩:=h
 refine h.sat b o (h.le b o ?_)
 show zf9 H1 (ncH W) b=some o
 unfold zf9
 cases h1:H1 b with
 | none=>exact ncH_of hb ho
 | some o'=>have:=hs b o' h1;rw [hb] at this;exact this.symm
theorem St.uncut (h:St ⟨w0,zf9 H1 (ncH W),B0,K,N⟩ f a w):StC w0 H1 B0 K N f a w:=StC.of h (zm0 _ _) fun b o hb=>by
 rcases zi3 hb with h1 | ⟨_,h1⟩
 ·exact .inl h1
 ·exact .inr (ncH_some h1).2
theorem StC.jn (h:StC w0 H1 B0 K N f a w):St ⟨w0,zf9 H1 (ncH w),B0,K,N⟩ f a w:=St.join h.st _ fun _ _ hb=>ncH_some hb
theorem StC.sat (h:StC w0 H1 B0 K N f a w):∀ b o,H1 b=some o->w.heap[b]?=some o:=fun b o hb=>by
 obtain ⟨H,B,h,_⟩:=h
 exact h.sat b o (h.le b o hb)
theorem StC.open (hb:∀ n ∈ Kn,∀ b c,Bx n=some (b,c)->w0.heap.size<=b) (h:StC w0 H1 Bx Kn N f a w):St ⟨w0,H1,B0,[],N⟩ f a w:=by
 obtain ⟨H,B,h,_⟩:=h
 have hm:∀ b,(⟨w0,H1,Bx,Kn,N⟩:E).may b->w0.heap.size<=b:=fun b ⟨n,hn,c,h1⟩=>hb n hn b c h1
 refine ⟨H,B,h.df,h.n,⟨h.ext.os,h.ext.tape,h.ext.output,h.ext.size,fun b h1 _=>h.ext.block b h1 fun h2=>by have:=hm b h2;have h1:b<w0.heap.size:=h1;omega⟩,h.sat,h.slot,h.loc,fun n l b c hn h1=>?_,h.inj,h.low,h.le,fun n hn=>(by cases hn),h.tab⟩
 obtain ⟨p1,p2,p3⟩:=h.priv n l b c hn h1
 exact ⟨p1,p2,.inr (p3.elim (hm b) id)⟩
theorem StC.params {p1 p2:Nat} {x1 x2:V} {v1 v2:Value} (h:StC w0 H1 Bx Kn N (F.of sl lc) a w) (hp:p1≠p2) (h1:p1<N) (h2:p2<N) (hv:∀ B,VR H1 B x1 v1/\VR H1 B x2 v2) :
  StC w0 H1 Bx Kn N (F.of ((p1,x1) :: (p2,x2) :: sl) lc) { tmps:=(#[p1,p2].zip #[v1,v2]).foldl (fun t (p,v)=>t.setIfInBounds p v) a.tmps,defers:=[] } w:=by
 obtain ⟨H,B,h,hc⟩:=h
 have hn:a.tmps.size=N:=h.n
 have ht:(#[p1,p2].zip #[v1,v2]).foldl (fun t (p,v)=>t.setIfInBounds p v) a.tmps=(a.tmps.setIfInBounds p1 v1).setIfInBounds p2 v2:=by simp
 refine ⟨H,B,⟨rfl,?_,h.ext,h.sat,fun t v hv2=>?_,h.loc,h.priv,h.inj,h.low,h.le,h.keep,h.tab⟩,hc⟩
 ·show ((#[p1,p2].zip #[v1,v2]).foldl (fun t (p,v)=>t.setIfInBounds p v) a.tmps).size=N
  rw [ht];simpa using hn
 ·show VR H B v (((#[p1,p2].zip #[v1,v2]).foldl (fun t (p,v)=>t.setIfInBounds p v) a.tmps).getD t undef)
  rw [ht]
  have hv2:((p1,x1) :: (p2,x2) :: sl).lookup t=some v:=hv2
  rw [List.lookup_cons] at hv2
  by_cases e1:t=p1
  ·subst e1
   simp only [beq_self_eq_true] at hv2
   cases hv2
   have:((a.tmps.setIfInBounds t v1).setIfInBounds p2 v2).getD t undef=v1:=by
    rw [cN, dL (by omega),dS (by omega)];rfl
   rw [this]
   exact VR.mono h.le (fun _ _=>rfl) (hv B).1
  ·rw [beq_eq_false_iff_ne.2 e1] at hv2
   dsimp only at hv2
   rw [List.lookup_cons] at hv2
   by_cases e2:t=p2
   ·subst e2
    simp only [beq_self_eq_true] at hv2
    cases hv2
    have:((a.tmps.setIfInBounds p1 v1).setIfInBounds t v2).getD t undef=v2:=by
     rw [cN, dS (by simp;omega)];rfl
    rw [this]
    exact VR.mono h.le (fun _ _=>rfl) (hv B).2
   ·rw [beq_eq_false_iff_ne.2 e2] at hv2
    dsimp only at hv2
    have:((a.tmps.setIfInBounds p1 v1).setIfInBounds p2 v2).getD t undef=a.tmps.getD t undef:=by
     rw [cN, dL (by omega),dL (by omega),<- cN]
    rw [this]
    exact h.slot t v hv2
theorem StC.again {a':Act} (h:StC w0 H1 Bx Kn N (F.of [] lc) a' w) (hd:a.defers=[]) (hn:a.tmps.size=N) (hs:∀ t v,(F.of sl lc).s t=some v->VR H1 Bx v (a.tmps.getD t undef)) (hK:(sl.all fun p=>p.2.tags.all (hasN Kn))=true):StC w0 H1 Bx Kn N (F.of sl lc) a w:=by
 obtain ⟨H,B,h,hc⟩:=h
 refine ⟨H,B,⟨hd,hn,h.ext,h.sat,fun t v hv=>VR.mono h.le (fun n hm=>h.keep n ?_) (hs t v hv),h.loc,h.priv,h.inj,h.low,h.le,h.keep,h.tab⟩,hc⟩
 exact zfv.1 (bV.1 (bV.1 hK (t,v) (zb6 hv)) n hm)
end
theorem rangeB {t p1 p2 id gf:Nat} {assign body rest:Code} {xs:D} {e:Nat->V × V} {Q0:Exit->Act->World->Prop}
  (Kn:List Nat) (sl':List (Nat × V)) (lcs:Nat->List (Nat × L)) (slA:Nat->List (Nat × V)) (lcA:Nat->List (Nat × L)) (h:St ⟨w0,H0,B0,[],N⟩ (F.of sl lc) a w) (it:IterOk P gf xs m e) (hk:zbt P gf)
  (hs:(F.of sl lc).s t=some (.t (.c (.fn (.func gf) [] [.ptr n 0])))) (hl:(F.of sl lc).l n=some (.box [.d xs])) (hp:p1≠p2) (hp1:p1<N) (hp2:p2<N)
  (h1:leS (F.of sl lc) sl'=sl'.map fun p=>some p.2) (h2:leN (F.of sl lc) (lcs 0)=(lcs 0).map fun p=>some p.2) (h3:((lcs 0).all fun p=>!(p.1 == n))=true) (hK:(sl'.all fun p=>p.2.tags.all (hasN Kn))=true) (hK2:(Kn.all fun k=>((F.of sl lc).l k).isSome)=true)
  (hassign:∀ (H:Im) (B:Bl) (l j:Nat) (a:Act) (w:World),j<m->St ⟨w0,H,B,Kn,N⟩ (F.of ((p1,(e j).1) :: (p2,(e j).2) :: sl') (lcs j)) a w->wpX (some l) [] P assign (fun ex a w=>ex = .normal/\St ⟨w0,H,B,Kn,N⟩ (F.of (slA j) (lcA j)) a w) a w)
  (hbody:∀ (H:Im) (B:Bl) (l j:Nat) (a:Act) (w:World),j<m->St ⟨w0,H,B,Kn,N⟩ (F.of (slA j) (lcA j)) a w->wpX (some l) [] P body (fun ex a w=>ex = .normal/\St ⟨w0,H,B,Kn,N⟩ (F.of [] (lcs (j+1))) a w) a w)
  (hrest:∀ (H:Im) (Dd:Nat) (a:Act) (w:World),St ⟨w0,H,B0,[],N⟩ (F.of sl' (lcs m)) a w->wpX none [{ target:=.collected Dd,args:=#[] }] P rest (RetX P fn ⟨w0,H,B0,[],N⟩ res qs) a w) :
  (Code.block id (.rangeFunc (.tmp t) #[p1,p2] assign body)).wp P (Exit.then (fun a w=>rest.wp P (bodyPostM Fence.wide 9 P fn (RetQ ⟨w0,H0,B0,[],N⟩ [] res qs)) a w) Q0) a w:=by
 have hdf:a.defers=[]:=by obtain ⟨_,_,h⟩:=h;exact h.df
 obtain ⟨H1,Bx,Bs,sv,ty,hle,hlow,hBs,hxs,hfn,hbx,hslot,hok⟩:=St.fix Kn h hl
 obtain ⟨ev,hev,hit⟩:=it H1 Bs sv ty hBs hxs
 have hn0:a.tmps.size=N:=hok.n
 have hH1:∀ b o,H1 b=some o->b<w.heap.size:=fun b o hb=>(cU.1 (hok.sat b o hb)).1
 have hKb:∀ k ∈ Kn,∀ b c,Bx k=some (b,c)->w0.heap.size<=b:=fun k hk b c hb=>by
  obtain ⟨l,hl⟩:=dR.1 (bV.1 hK2 k hk)
  exact hbx k l b c hl hb
 have hsl:∀ t v,sl'.lookup t=some v->VR H1 Bx v (a.tmps.getD t undef):=fun t v hv=>hslot t v (zco h1 (t,v) (zb6 hv))
 have hws:w0.heap.size<=w.heap.size:=hok.ext.size
 have hfl:(⟨(F.of sl lc).s,fun m=>if m=n then none else (F.of sl lc).l m⟩:F).le (F.of sl' (lcs 0)):=by
  refine ⟨fun t v hv=>zco h1 (t,v) (zb6 hv),fun k l hk=>?_⟩
  have hm:=zb6 hk
  have hne:k≠n:=by have:=bV.1 h3 _ hm;simpa using this
  simp only [if_neg hne]
  exact zco h2 (k,l) hm
 have hst0:StC w0 H1 Bx Kn N (F.of sl' (lcs 0)) a w :=
  ⟨H1,Bx,⟨hok.df,hok.n,hok.ext,hok.sat,fun t v hv=>hok.slot t v (hfl.1 t v hv),fun k l hk=>hok.loc k l (hfl.2 k l hk),fun k l b c hk=>hok.priv k l b c (hfl.2 k l hk),fun k k' l l' b c c' hk hk'=>hok.inj k k' l l' b c c' (hfl.2 k l hk) (hfl.2 k' l' hk'),hok.low,hok.le,hok.keep,hok.tab⟩,fun b o hb => .inl hb⟩
 refine (wpIn_wide (n:=9)).1 (wpIn_block (wpIn_rangeFunc fun fnid _=>?_))
 obtain ⟨rec,hrec⟩:∃ rec:LoopState->Option Code->Loop,rec=fun st pe=>{ state:=st,pending:=pe,fn:=fnid,tmps:=a.tmps,params:=#[p1,p2],assign,body,defers:=w.heap.size }:=⟨_,rfl⟩
 obtain ⟨W1,hW1⟩:∃ W1,(w.alloc (.deferred (some []))).alloc (.loop (rec .ready none))=W1:=⟨_,rfl⟩
 have hL1:W1.heap[w.heap.size+1]?=some (.loop (rec .ready none)):=by
  rw [<- hW1];have:=World.alloc_heap_new (w.alloc (.deferred (some []))) (.loop (rec .ready none));rwa [World.size_alloc] at this
 have hK1:W1.heap[w.heap.size]?=some (.deferred (some [])):=by
  rw [<- hW1];exact (Below.heap_alloc _ _ _ (by simp)).trans (World.alloc_heap_new w _)
 have hbelow:Below w.heap.size w W1:=by rw [<- hW1];exact ((Below.refl _ w).alloc (bI _) _).alloc (by simp) _
 have hst1:StC w0 H1 Bx Kn N (F.of sl' (lcs 0)) a W1 :=
  hst0.turn (r:=W1.heap.size) (z:=w.heap.size) hbelow.os hbelow.tape hbelow.output hbelow.size (fun b hb _=>hbelow.block b hb) hws hbelow.size (fun o ho=>by have:=(cU.1 ho).1;have:=hbelow.size;omega) hH1
 -- a turn of the record keeps the state
 have hturn:∀ {K':List Nat} {B':Bl} {f:F} {a':Act} {W:World} (l:Nat) (o o':Obj),w.heap.size<=l->W.heap[l]?=some o->dat o=false->StC w0 H1 B' K' N f a' W->StC w0 H1 B' K' N f a' (W.putObj l o'):=fun l o o' hl ho hc hst =>
  hst.turn (r:=l) (z:=w.heap.size) rfl rfl rfl (by simp) (fun b _ hb=>World.putObj_heap_other hb) hws hl (fun o2 ho2=>by rw [ho] at ho2;cases ho2;exact hc) hH1
 have hfn1:a.eval (.tmp t) = .func (.func gf) #[] #[.pointer (some ⟨Bs,0,none⟩)]:=hfn t gf hs
 refine ⟨w.heap.size+1,[{ target:=.collected w.heap.size,args:=#[] }],W1,{ target:=.fn (.func gf) #[.pointer (some ⟨Bs,0,none⟩)],args:=#[.func (.yield (w.heap.size+1)) #[] #[]] }, W1,gf,
  #[.func (.yield (w.heap.size+1)) #[] #[]]++#[.pointer (some ⟨Bs,0,none⟩)],W1,?_,?_,fun _ _=>trivial,?_,fun h=>(by cases h),?_⟩
 ·rw [<- hW1,hrec];exact run_enterLoop_outer _ _ _ _ _
 ·simp only [resolve,hfn1]
  simp [go_sem]
 ·simp [invoke,go_sem,zkb hk]
 ·refine (hit (w.heap.size+1) (fun j W=>StC w0 H1 Bx Kn N (F.of sl' (lcs j)) a W/\W.heap[w.heap.size+1]?=some (.loop (rec .ready none))/\W.heap[w.heap.size]?=some (.deferred (some []))) W1 (fun j W hJ=>hJ.1.sat) ?_ ⟨hst1,hL1,hK1⟩).mono ?_
  ·rintro j W ⟨hst,hl,hd⟩ hj
   have hy:=run_yield (P:=P) (args:=#[(ev j).1,(ev j).2]) hl (by rw [hrec];rfl)
   rw [hrec] at hy
   refine ⟨fnid,_,assign,body,hy,roundIn_of_wpIn trivial ?_⟩
   have hA:=hassign _ Bx (w.heap.size+1) j _ W hj (hst.params hp hp1 hp2 (fun B=>hev B j hj)).jn
   refine wpIn_depth (n:=9) rfl (wpIn_mono hA ?_)
   rintro ex ⟨tm,dfs⟩ w1 ⟨hd1,rfl,hS⟩
   cases hd1
   have hl1:=hS.nc hst.sat hl rfl
   have hdd1:=hS.nc hst.sat hd rfl
   refine ⟨_,run_beginRound hl1 (by rw [hrec]),?_⟩
   obtain ⟨W2,hW2⟩:∃ W2,w1.putObj (w.heap.size+1) (.loop { rec .ready none with state:=.busy })=W2:=⟨_,rfl⟩
   rw [hW2]
   have hst2:=hturn (w.heap.size+1) _ (.loop { rec .ready none with state:=.busy }) (by omega) hl1 rfl hS.uncut
   rw [hW2] at hst2
   have hl2:W2.heap[w.heap.size+1]?=some (.loop { rec .ready none with state:=.busy }):=by rw [<- hW2];exact World.putObj_heap_same (cU.1 hl1).1
   have hdd2:W2.heap[w.heap.size]?=some (.deferred (some [])):=by rw [<- hW2];exact (World.putObj_heap_other (by omega)).trans hdd1
   have hB:=hbody _ Bx (w.heap.size+1) j _ W2 hj hst2.jn
   refine wpIn_depth (n:=9) rfl (wpIn_mono hB ?_)
   rintro ex ⟨tm3,dfs3⟩ w3 ⟨hd3,rfl,hS3⟩
   cases hd3
   have hl3:=hS3.nc hst2.sat hl2 rfl
   have hdd3:=hS3.nc hst2.sat hdd2 rfl
   have hend:=run_endRound (P:=P) none hl3
   refine ⟨_,_,hend,rfl,?_,?_,?_⟩
   ·exact hturn (w.heap.size+1) _ _ (by omega) hl3 rfl (hS3.uncut.again hdf hn0 hsl hK)
   ·rw [World.putObj_heap_same (cU.1 hl3).1,hrec];rfl
   ·exact (World.putObj_heap_other (by omega)).trans hdd3
  ·rintro en W2 ⟨⟨v,rfl⟩,hst,hl,hd⟩
   have hend:=run_endLoop (P:=P) hl (by rw [hrec];simp)
   refine ⟨_,_,hend,?_⟩
   rw [hrec]
   have hstE:=hturn (w.heap.size+1) _ (.loop { rec .ready none with state:=.exhausted }) (by omega) hl rfl hst
   have hdE:(W2.putObj (w.heap.size+1) (.loop { rec .ready none with state:=.exhausted })).heap[w.heap.size]?=some (.deferred (some [])):=(World.putObj_heap_other (by omega)).trans hd
   rw [hrec] at hstE hdE
   have hR:=hrest (zf9 H1 (markH w.heap.size)) w.heap.size a _ (St.join (hstE.open hKb) _ fun b o hb=>by
    unfold markH at hb
    split at hb
    ·rename_i e;subst e;cases hb;exact ⟨hdE,rfl⟩
    ·cases hb)
   refine (wpIn_wide (n:=9)).1 (wpIn_mono (show rest.wpIn Fence.wide 9 P _ { a with defers:=[{ target:=.collected w.heap.size,args:=#[] }]++a.defers } _ from by rw [hdf];exact hR) ?_)
   rintro ex a' w' ⟨hd', hr⟩
   exact leave_mark (ps:=[]) hle hlow hws hH1 hd' hr
theorem dfS {f:F} (h:St e f a w):a.defers=[]:=let ⟨_,_,h⟩:=h;h.df
attribute [local go_sem] Oper.semAt_some
def zcd (zs:List za0) (j:Nat):za0:=(zs[zs.length - 1 - j]?).getD ⟨0,⟨⟨[],⟨false,[]⟩⟩,false⟩,[]⟩
theorem backF_at {zs:List za0} (hj:j<zs.length):zs[zs.length - 1 - j]?=some (zcd zs j):=by unfold zcd;rw [cM (by omega)];rfl
theorem backF_mem {zs:List za0} (hj:j<zs.length):zcd zs j ∈ zs:=cP (backF_at hj)
theorem back_forms (zs:List za0) (hz:zs.length<=1000000):IterOk dX 79 (.sl 6 (zs.map d7)) zs.length (fun j=>(vi .i64 ((zs.length - 1 - j:Nat):Int),.t (.agg [.d (.raw (.int .i64 (zcd zs j).kind)),.d (.sl 3 ((zcd zs j).r.t.parts.map za4.d)),.d (.raw (.bool (zcd zs j).r.t.k.neg)),.d (nsl (zcd zs j).r.t.k.abs),.d (.raw (.bool (zcd zs j).r.eq)),.d (.sl 6 ((zcd zs j).kids.map d7))]))):=by
 intro H1 Bs sv ty hBs hxs
 obtain ⟨ao,c,wv,rfl,hel,hdr⟩:∃ ao c,∃ wv:Nat->Nat->Value,sv = .slice ao zs.length c/\(∀ k,k<zs.length->∃ b o,ao=some ⟨b,o,none⟩/\∀ i,i<6->∀ W:World,(∀ b' o', H1 b'=some o'->W.heap[b']?=some o')->W.cell? ⟨b,o+k*6+i,none⟩=some (wv k i))/\∀ k,k<zs.length->∀ i,i<6->∀ d,((zs[k]?).getD ⟨0,⟨⟨[],⟨false,[]⟩⟩,false⟩,[]⟩).d[i]?=some d->DR H1 d (wv k i):=by
  cases hz0:zs with
  | nil =>
   rw [hz0] at hxs
   generalize hxd:D.sl 6 (([]:List za0).map d7)=xd at hxs
   cases hxs with
   | raw=>cases hxd
   | nil es ao c h hc=>exact ⟨ao,c,fun _ _=>undef,rfl,fun k hk=>absurd hk (dE k),fun k hk=>absurd hk (dE k)⟩
   | sl es rows b o c arr ty fz vs hp=>injection hxd with _ h2;subst h2;simp at hp
  | cons z zs' =>
   rw [<- hz0]
   generalize hxd:D.sl 6 (zs.map d7)=xd at hxs
   cases hxs with
   | raw=>cases hxd
   | nil es ao c h hc=>injection hxd with _ h2;rw [hz0] at h2;cases h2
   | sl es rows b o c arr ty fz vs hp hb hl hc hes hv hr =>
    injection hxd with h1 h2
    subst h1 h2
    refine ⟨some ⟨b,o,none⟩,c,vs,by simp,fun k hk=>⟨b,o,rfl,fun i hi W hW=>?_⟩,fun k hk i hi d hd=>?_⟩
    ·have hkl:k<(zs.map d7).length:=by simpa using hk
     have h3:=hv k hkl i hi
     exact zee (hW _ _ hb) (by simpa using h3)
    ·have hkl:k<(zs.map d7).length:=by simpa using hk
     have e:(zs.map d7)[k]'hkl=((zs[k]?).getD ⟨0,⟨⟨[],⟨false,[]⟩⟩,false⟩,[]⟩).d:=by simp [hk]
     have hd2:((zs.map d7)[k]'hkl)[i]?=some d:=by rw [e];exact hd
     obtain ⟨hi2,rfl⟩:=dC.1 hd2
     exact hr k hkl i hi2
 refine ⟨fun j=>(.int .i64 ((zs.length:Int) - 1 - j),.agg #[wv (zs.length - 1 - j) 0,wv (zs.length - 1 - j) 1,wv (zs.length - 1 - j) 2,wv (zs.length - 1 - j) 3,wv (zs.length - 1 - j) 4,wv (zs.length - 1 - j) 5]),fun B j hj=>⟨?_,?_⟩,fun l J W hJs hY h0=>?_⟩
 ·show VR H1 B (vi .i64 ((zs.length - 1 - j:Nat):Int)) _
  rw [show ((zs.length - 1 - j:Nat):Int)=(zs.length:Int) - 1 - j by omega];exact .raw _ rfl
 ·have hk:zs.length - 1 - j<zs.length:=by omega
  have q:=fun i hi d=>hdr _ hk i hi d
  rw [d8] at q
  exact ⟨[_,_,_,_,_,_],rfl,q 0 (by decide) _ rfl,q 1 (by decide) _ rfl,q 2 (by decide) _ rfl,q 3 (by decide) _ rfl,q 4 (by decide) _ rfl,q 5 (by decide) _ rfl,trivial⟩
 have hcB:∀ j W,J j W->W.cell? ⟨Bs,0,none⟩=some (.slice ao zs.length c):=fun j W hJ=>zee (hJs j W hJ _ _ hBs) rfl
 have hc0:=hcB 0 W h0
 refine callsIn_of_wp Tryz.func79 rfl trivial ?_ rfl
 simp only [Tryz.ntmps79,List.size_toArray,bP,cW,Nat.reduceAdd,Nat.reduceSub,Array.replicate_succ,Array.replicate_zero,List.push_toArray,List.append_toArray,List.nil_append,c7]
 gi_wp2
 gi_loopw [3] (fun i wr=>∃ k:Nat,k<=zs.length/\i = .int .i64 ((zs.length:Int) - 1 - k)/\J k wr) (fun i _=>(intOf i+1).toNat)
 case atStart=>exact ⟨0,bJ _,by simp,h0⟩
 case round =>
  obtain ⟨k,hk,rfl,hJk⟩:=hrel
  have hcw:=hcB k wr hJk
  by_cases hlt:k<zs.length
  ·obtain ⟨fn,tmps,assign,body,hy,hR⟩:=hY k wr hJk hlt
   obtain ⟨b,o,rfl,hcell⟩:=hel (zs.length - 1 - k) (by omega)
   have hcx0:wr.cell? ⟨b,o+(zs.length - 1 - k)*6,none⟩=some (wv (zs.length - 1 - k) 0):=hcell 0 (by decide) wr (hJs k wr hJk)
   have hcx1:=hcell 1 (by decide) wr (hJs k wr hJk)
   have hcx2:=hcell 2 (by decide) wr (hJs k wr hJk)
   have hcx3:=hcell 3 (by decide) wr (hJs k wr hJk)
   have hcx4:=hcell 4 (by decide) wr (hJs k wr hJk)
   have hcx5:=hcell 5 (by decide) wr (hJs k wr hJk)
   have e1:((zs.length:Int) - 1 - k).toNat=zs.length - 1 - k:=by omega
   have hge:decide ((zs.length:Int) - 1 - k>=0)=true:=yQ (by omega)
   try dsimp only at hy
   gi_wp2
   refine hR.mono ?_
   rintro e W3 ⟨rfl,hJ3⟩
   gi_wp2
   go_roundw
   case rel=>exact ⟨k+1,by omega,by first | rfl | (simp;omega),hJ3⟩
   case measure=>simp [intOf];omega
  ·obtain rfl:k=zs.length:=by omega
   gi_wp2
   go_end0
   exact ⟨⟨_,rfl⟩,hJk⟩
theorem nc2_6:zbt dX 79:=zbt.mk' (by kernel_rfl)
theorem gath_allG {P:za9->Prop} {L:Nat} (hP:∀ r,TOk n L r.t->P (cpR r)) (f:za0):f.okA n L->∀ ps,(∀ r ∈ ps,P r)->∀ r ∈ f.gath ps,P r :=
 eE (P:=fun f=>f.okA n L->∀ ps,(∀ r ∈ ps,P r)->∀ r ∈ f.gath ps,P r) (fun k r ks ih hf ps hps=>by
  obtain ⟨h1,h2⟩:=(za0.okA_eq _ _ _).1 hf
  rw [za0.gath_eq]
  split
  ·rename_i e
   intro q hq
   rcases b9.1 hq with hq | hq
   ·exact hps q hq
   ·rw [bE.1 hq];exact hP r (h1 e.1)
  ·have:∀ (xs:List za0),(∀ g ∈ xs,g ∈ ks)->∀ qs:List za9,(∀ r ∈ qs,P r)->∀ r ∈ xs.foldl (fun a g=>g.gath a) qs,P r:=fun xs=>by
    induction xs with
    | nil=>intro _ qs h;exact h
    | cons x xs ihx =>
     intro hx qs h
     rw [b8]
     exact ihx (fun g hg=>hx g (b5 _ hg)) _ (ih x (hx x (bG ..)) (h2 x (hx x (bG ..))) qs h)
   exact this ks (fun g hg=>hg) ps hps) f
def zc3 (ps:List za9) (cs:List za0):Nat->List za9
  | 0=>ps
  | j+1=>gathT (zc3 ps cs j) ((zcd cs j).flat false)
theorem newA_ge (ps:List za9) (cs:List za0) (j:Nat):ps.length<=(zc3 ps cs j).length:=by
 induction j with
 | zero=>exact bI _
 | succ j ih =>
  obtain ⟨l,e⟩:=gath_pre ((zcd cs j).flat false) ((zc3 ps cs j).map cpR)
  show _<=(((zcd cs j).flat false).gath ((zc3 ps cs j).map cpR)).length
  rw [e,bL,bC];omega
theorem newA_ok (hs:zbh 3 s) (hw:zlj s) (hps:zih ps) {xs:List zbz} (cs:List Int) (hl:xs.length<=5) (hj:j<=(zag s ps xs cs).length):(∀ r ∈ zc3 ps (zag s ps xs cs) j,TOk 40000000 (600+j) r.t)/\(zc3 ps (zag s ps xs cs) j).length<=1000+j*5000000:=by
 have hn:=zed s ps xs cs
 induction j with
 | zero=>exact ⟨fun r hr=>(hps.2 r hr).mono (by decide) (by decide),by have:=hps.1;show ps.length<=_;omega⟩
 | succ j ih =>
  obtain ⟨h1,h2⟩:=ih (by omega)
  obtain ⟨c1,c2⟩:=zks hs hw hps cs hl (backF_mem hj)
  have c3:=zf3 (zcd (zag s ps xs cs) j)
  have c4:=zez (zcd (zag s ps xs cs) j) false
  refine ⟨?_,?_⟩
  ·refine gath_allG (P:=fun r=>TOk 40000000 (600+(j+1)) r.t) (n:=32400000) (L:=502) (fun r hr=>(hr.plain (by decide)).mono (by decide) (by omega)) _ (zjq (by decide) (by decide) _ c1 false) _ fun r hr=>?_
   obtain ⟨q,hq,rfl⟩:=bF.1 hr
   exact (h1 q hq).plain (by decide)
  ·have:=gath_len ((zcd (zag s ps xs cs) j).flat false) ((zc3 ps (zag s ps xs cs) j).map cpR)
   rw [bC] at this
   show (((zcd (zag s ps xs cs) j).flat false).gath ((zc3 ps (zag s ps xs cs) j).map cpR)).length<=_
   omega
def nwS (out:List za9) (r:za9):List za9:=if tgtB r=true then (if out.length<24 then out++[cpR r] else out) else out
theorem nwS_f {r:za9} (h:tgtB r=false):nwS out r=out:=by unfold nwS;rw [if_neg (by rw [h];exact Bool.noConfusion)]
theorem nwS_t {r:za9} (h:tgtB r=true) (k:out.length<24):nwS out r=out++[cpR r]:=by unfold nwS;rw [if_pos h,if_pos k]
theorem nwS_x {r:za9} (h:tgtB r=true) (k:¬ out.length<24):nwS out r=out:=by unfold nwS;rw [if_pos h,if_neg k]
def nwO (ps xs:List za9) (j:Nat):List za9:=(xs.take j).foldl nwS (ps.map cpR)
theorem nwO_at {xs:List za9} {r:za9} (h:xs[j]?=some r):nwO ps xs (j+1)=nwS (nwO ps xs j) r:=by
 unfold nwO;rw [dM,h,List.foldl_append];rfl
theorem nwO_len (ps xs:List za9) (j:Nat):(nwO ps xs j).length<=ps.length+24:=by
 unfold nwO
 have:∀ (l:List za9) (a:List za9),a.length<=ps.length+24->(l.foldl nwS a).length<=ps.length+24:=fun l=>by
  induction l with
  | nil=>intro a h;exact h
  | cons x l ih =>
   intro a h
   rw [b8]
   refine ih _ ?_
   unfold nwS
   split
   ·split
    ·rw [bL,dU];omega
    ·exact h
   ·exact h
 exact this _ _ (by rw [bC];omega)
def newT (s:zan) (ps:List za9) (p:zdu):List za9:=nwO ps ((zc3 ps (zag s ps p.states p.acts) (zag s ps p.states p.acts).length).drop ps.length) ((zc3 ps (zag s ps p.states p.acts) (zag s ps p.states p.acts).length).drop ps.length).length
theorem LBackF (xs:List za0) :Fn dX 47 [] [(vFs xs)] (.t (.c (.fn (.func 79) [] [.ptr 0 0]))) [(0,.box [cFs xs])]:=by
 refine fB Tryz.func47 rfl 4 fun w H B a h=>Jq 0 [] [(1,vp 0 0),(2,vW .nilFunc)] [(0,.box [cFs xs])] h fun a w h=>Jp 1 [(0,.g (Op.makeFs (d:=3) (fn:=.func 79) [(1,0,0)]))] [(2,.t (.c (.fn (.func 79) [] [.ptr 0 0])))] h fun a w h=>qV (rT (.c (.fn (.func 79) [] [.ptr 0 0])) h rfl ?_)
 rfl
theorem LcopiedO (ps:List za9) {L:Nat} (hps:∀ r ∈ ps,TOk n L r.t) (hn:n<=1000000000) (hL:L<=10000) (hl:ps.length<=1000000):Fn dX 50 [] [(vRs ps)] (vO 0 (ps.map cpR).length) [(0,.row 32 4 ((ps.map cpR).map eJ))]:=by
 refine fB Tryz.func50 rfl 23 fun w H B a h=>Jq 5 [] [(0,(vRs ps)),(2,vW zam)] [] h fun a w h=>Jg 5 [] [] [(3,vW zam)] [] [] h fun a w h=>qW (Jg 5 [(1,.len (za3 4 eJ ps))] [0] [(6,(vRs ps)),(7,vN ps.length),(8,vI 0)] [] [] h fun a w h=>qZ ?_)
 replace h:=zfr 3 0 5 4 32 (vW zam) h
 refine zbw (ι:=(Nat)) (fun j=>j<=ps.length)
   [] (fun j=>[(3,vO 5 ((ps.take j).map cpR).length),(8,vN j)])
   [] (fun j=>[(5,.row 32 4 (((ps.take j).map cpR).map eJ))])
   (fun j=>ps.length - j) 0 ?_ h ?_
 ·exact bJ _
 clear h;rintro j a w hI h;have lmj:((ps.take j).map cpR).length<=j:=by rw [bC,cO];omega
 refine Je 6 [] [] [(9,vb (decide ((j:Int)<(ps.length:Int))))] h fun a w h=>qW (zad ((j:Int)<(ps.length:Int)) h (fun hc1 hc1'=>?_) (fun hc2 hc2'=>?_))
 ·refine qU (za1 (qW (qZ ?_)));obtain ⟨x1,hx1⟩:=gl ps j;refine Jg 6 [(0,.g (xD 10 6 kc_3 (za7 hx1 (f:=eJ)) (d4 8 _)))] [9] [(5,vp 6 0)] [] [(6,.box [cPs x1.t.parts,cB x1.t.k.neg,.d (nsl x1.t.k.abs),cB x1.eq])] h fun a w h=>Jh 7 [(3,.call (zen x1.t (hps x1 (lM hx1)) hn (by omega))),(7,.g (bD 19 ([(za9.mk (za2 x1.t) x1.eq)].map eJ) [(18,vG [cPs (za2 x1.t).parts,cB (za2 x1.t).k.neg,.d (nsl (za2 x1.t).k.abs),cB x1.eq])] kc_5 (.cons (i:=0) (d4 18 _) (.nil)) (by kernel_rfl) (by simp [eJ]))),(8,.g (Op.appOD (d:=20) (t:=12) (u:=19) (n:=5) (n':=7) (len:=((ps.take j).map cpR).length) (len':=(((ps.take j).map cpR)++[(za9.mk (za2 x1.t) x1.eq)]).length) (rows:=((ps.take j).map cpR).map eJ) (rows2:=[(za9.mk (za2 x1.t) x1.eq)].map eJ) (rows':=(((ps.take j).map cpR)++[(za9.mk (za2 x1.t) x1.eq)]).map eJ) lh8_3 (by first | exact (bC _).symm | simp) (by first | (rw [bL,bC];done) | (simp;done) | (simp;omega)) (by simp) (by simp [eJ]) (by first | omega | (simp at *;done) | (simp at *;omega))))] [5] [(3,vO 7 (((ps.take j).map cpR)++[(za9.mk (za2 x1.t) x1.eq)]).length)] [5,6] [(7,.row 32 4 ((((ps.take j).map cpR)++[(za9.mk (za2 x1.t) x1.eq)]).map eJ))] h fun a w h=>za6 (za1 (Jf 8 [(0,.j1 j)] [] [(8,vI ((j:Int)+1))] h fun a w h=>za1 ?_));rw [show ((((ps.take j).map cpR)++[(za9.mk (za2 x1.t) x1.eq)]):List za9)=((ps.take (j+1)).map cpR) from (zej hx1)] at h;replace h:=zd7 7 5 h;refine zaa (x:=j) (y:=j+1) h ?_ ?_
  ·have:=zab hx1;show j+1<=ps.length;omega
  show ps.length - (j+1)<ps.length - j;have:=zab hx1;omega
 refine exA (Jp 8 [] [(2,vO 5 ((ps.take j).map cpR).length)] h fun a w h=>qV ?_);rw [show (((ps.take j).map cpR):List za9)=(ps.map cpR) from (by rw [cJ (by omega)])] at h;replace h:=zd7 5 0 h;refine rT (.c (.own 0 (ps.map cpR).length)) h rfl ?_;rfl
abbrev q1 (ps:List za9) (s:zan) (p:zdu):V:=vI (((zc3 ps (zag s ps p.states p.acts) (zag s ps p.states p.acts).length).drop ps.length).length:Int)
theorem LNew (s:zan) (ps:List za9) (p:zdu) (hs:zbh 3 s) (hw:zlj s) (hps:zih ps) (hpl:p.states.length<=5) (hpa:p.acts.length<=6) (hpx:∀ x ∈ p.states,x.locs.length<=8/\x.bits.length<=30):Fn dX 21 [] [vG [.d (.sl 1 (s.vars.map zer)),.d (.sl 5 (s.bounds.map zak.d)),cI s.init.kind,cPs s.init.r.t.parts,cB s.init.r.t.k.neg,.d (nsl s.init.r.t.k.abs),cB s.init.r.eq,cFs s.init.kids,.d (.sl 3 (s.procs.map zbj.d)),.d (.sl 10 (s.acts.map eK))],(vRs ps),vG [.d (.sl 2 (p.states.map eM)),cIs p.acts]] (.tup [.c (cRs (newT s ps p)),.c (cB (decide (((newT s ps p).length:Int)>(ps.length:Int))))]) []:=by
 have lps:=hps.1;have lcn:(zag s ps p.states p.acts).length<=5:=by rw [zed];omega
 refine Fn.bodyR Tryz.func21 rfl 60 rfl fun w H B a h=>Jq 5 [] [(1,(vRs ps)),(3,vp 5 0),(5,vp 6 0),(6,vW zam),(7,vb false)] [(5,.box [.d (.sl 1 (s.vars.map zer)),.d (.sl 5 (s.bounds.map zak.d)),cI s.init.kind,cPs s.init.r.t.parts,cB s.init.r.t.k.neg,.d (nsl s.init.r.t.k.abs),cB s.init.r.eq,cFs s.init.kids,.d (.sl 3 (s.procs.map zbj.d)),.d (.sl 10 (s.acts.map eK))]),(6,.box [.d (.sl 2 (p.states.map eM)),cIs p.acts])] h fun a w h=>Jg 7 [] [] [(8,vp 7 0)] [] [(7,.box [cRs ps])] h fun a w h=>qW (Jg 8 [(3,.call (zj1 s ps p hs hw hps hpl hpa hpx)),(4,.call (LBackF (zag s ps p.states p.acts)))] [3,5] [(19,.t (.c (.fn (.func 79) [] [.ptr 0 0])))] [5,6] [(0,.box [cFs (zag s ps p.states p.acts)])] h fun a w h=>?_)
 replace h:=cvM [] [] [] [(7,.box [cRs (zc3 ps (zag s ps p.states p.acts) 0)])] (by kernel_rfl) h;refine rangeB (m:=(zag s ps p.states p.acts).length) (e:=fun j=>(vI (((zag s ps p.states p.acts).length - 1 - j:Nat):Int),vG [cI (zcd (zag s ps p.states p.acts) j).kind,cPs (zcd (zag s ps p.states p.acts) j).r.t.parts,cB (zcd (zag s ps p.states p.acts) j).r.t.k.neg,.d (nsl (zcd (zag s ps p.states p.acts) j).r.t.k.abs),cB (zcd (zag s ps p.states p.acts) j).r.eq,cFs (zcd (zag s ps p.states p.acts) j).kids])) [7] [(1,(vRs ps)),(6,vW zam),(7,vb false),(8,vp 7 0)] (fun j=>[(7,.box [cRs (zc3 ps (zag s ps p.states p.acts) j)])]) (fun j=>[(6,vW zam),(7,vb false),(8,vp 7 0),(10,vp 8 0)]) (fun j=>[(7,.box [cRs (zc3 ps (zag s ps p.states p.acts) j)]),(8,.box [cI (zcd (zag s ps p.states p.acts) j).kind,cPs (zcd (zag s ps p.states p.acts) j).r.t.parts,cB (zcd (zag s ps p.states p.acts) j).r.t.k.neg,.d (nsl (zcd (zag s ps p.states p.acts) j).r.t.k.abs),cB (zcd (zag s ps p.states p.acts) j).r.eq,cFs (zcd (zag s ps p.states p.acts) j).kids])]) h (back_forms (zag s ps p.states p.acts) (by omega)) nc2_6 rfl rfl (by decide) (by decide) (by decide) (by kernel_rfl) (by kernel_rfl) (by kernel_rfl) (by kernel_rfl) (by kernel_rfl) ?_ ?_ ?_
 ·clear h;intro H B l j a w hj h;refine rSX zcz 8 [] [(6,vW zam),(7,vb false),(8,vp 7 0),(10,vp 8 0)] [(7,.box [cRs (zc3 ps (zag s ps p.states p.acts) j)]),(8,.box [cI (zcd (zag s ps p.states p.acts) j).kind,cPs (zcd (zag s ps p.states p.acts) j).r.t.parts,cB (zcd (zag s ps p.states p.acts) j).r.t.k.neg,.d (nsl (zcd (zag s ps p.states p.acts) j).r.t.k.abs),cB (zcd (zag s ps p.states p.acts) j).r.eq,cFs (zcd (zag s ps p.states p.acts) j).kids])] (by kernel_rfl) (by kernel_rfl) h fun a w h=>?_;exact ⟨rfl,atS h (by kernel_rfl) (by kernel_rfl)⟩
 ·clear h;intro H B l j a w hj h;have hcj:=zks hs hw hps p.acts hpl (backF_mem hj);have haj:=newA_ok hs hw hps p.acts hpl (Nat.le_of_lt hj);refine wpX_block (rSX zcz 9 [(2,.call (LFlat (zcd (zag s ps p.states p.acts) j) (eH (by decide) (by decide) _ hcj.1) (by have:=zf3 (zcd (zag s ps p.states p.acts) j);have:=hcj.2;omega))),(3,.call (LGather (zc3 ps (zag s ps p.states p.acts) j) (eB (zcd (zag s ps p.states p.acts) j) false) (fun r hr=>(haj.1 r hr).mono (by decide) (by omega)) (za0.okA_mono (by decide) (by decide) _ (zjq (by decide) (by decide) _ hcj.1 false)) (by have:=zez (zcd (zag s ps p.states p.acts) j) false;have:=zf3 (zcd (zag s ps p.states p.acts) j);have:=hcj.2;have:=haj.2;omega)))] [(6,vW zam),(7,vb false)] [(7,.box [cRs (gathT (zc3 ps (zag s ps p.states p.acts) j) (eB (zcd (zag s ps p.states p.acts) j) false))])] (by kernel_rfl) (by kernel_rfl) h fun a w h=>za6 ?_);replace h:=cvM [1,8,19] [] [0] [(7,.box [cRs (zc3 ps (zag s ps p.states p.acts) (j+1))])] (by kernel_rfl) h;exact ⟨rfl,atS h (by kernel_rfl) (by kernel_rfl)⟩
 clear h;intro H Dd a w h;have hal9:=newA_ok hs hw hps p.acts hpl (bI _);have lal9:=newA_ge ps (zag s ps p.states p.acts) (zag s ps p.states p.acts).length;have ldr9:((zc3 ps (zag s ps p.states p.acts) (zag s ps p.states p.acts).length).drop ps.length).length<=100000000:=by rw [dJ];have:=hal9.2;omega
 refine rSeqX zcz 9 [(1,.call (LcopiedO ps (fun r hr=>hps.2 r hr) (by decide) (by decide) (by omega)))] [(1,(vRs ps)),(6,vW zam),(7,vb false),(8,vp 7 0),(11,vO 0 (ps.map cpR).length)] [(7,.box [cRs (zc3 ps (zag s ps p.states p.acts) (zag s ps p.states p.acts).length)]),(0,.row 32 4 ((ps.map cpR).map eJ))] (by kernel_rfl) (by kernel_rfl) h fun a w h=>wpX_seq (rSeqX zcz 9 [(2,.len (za3 4 eJ ps)),(3,.g (Op.sliceD (d:=31) (t:=28) (l:=ps.length) (h:=(zc3 ps (zag s ps p.states p.acts) (zag s ps p.states p.acts).length).length) (rows:=(zc3 ps (zag s ps p.states p.acts) (zag s ps p.states p.acts).length).map eJ) (rows':=((zc3 ps (zag s ps p.states p.acts) (zag s ps p.states p.acts).length).drop ps.length).map eJ) kc_3 (BO.yes (k:=.i64) (i:=ps.length) _ (d4 30 _)) (by rw [bC];exact BO.no _) (by first | omega | (simp at *;omega)) (by first | omega | (simp only [bC];omega) | (simp at *;omega)) (by first | (simp [List.map_drop];done) | (rw [cJ (by simp <;> omega)];simp [List.map_drop])))),(4,.len (za3 4 eJ ((zc3 ps (zag s ps p.states p.acts) (zag s ps p.states p.acts).length).drop ps.length)))] [(1,(vRs ps)),(6,vW zam),(7,vb false),(11,vO 0 (ps.map cpR).length),(31,(vRs ((zc3 ps (zag s ps p.states p.acts) (zag s ps p.states p.acts).length).drop ps.length))),(32,q1 ps s p),(33,vI 0)] [(0,.row 32 4 ((ps.map cpR).map eJ))] (by kernel_rfl) (by kernel_rfl) h fun a w h=>wpX_block ?_);replace h:=cv (fun z_:List za9=>F.of [(1,(vRs ps)),(6,vW zam),(7,vb false),(11,vO 0 z_.length),(31,(vRs ((zc3 ps (zag s ps p.states p.acts) (zag s ps p.states p.acts).length).drop ps.length))),(32,q1 ps s p),(33,vI 0)] [(0,.row 32 4 (z_.map eJ))]) (show ((ps.map cpR):List za9)=(nwO ps ((zc3 ps (zag s ps p.states p.acts) (zag s ps p.states p.acts).length).drop ps.length) 0) from rfl) (h.conv (by kernel_rfl))
 refine loopX (ι:=(Nat)) (fun j=>j<=((zc3 ps (zag s ps p.states p.acts) (zag s ps p.states p.acts).length).drop ps.length).length)
   (fun j=>[(1,(vRs ps)),(6,vW zam),(7,vb false),(11,vO 0 (nwO ps ((zc3 ps (zag s ps p.states p.acts) (zag s ps p.states p.acts).length).drop ps.length) j).length),(31,(vRs ((zc3 ps (zag s ps p.states p.acts) (zag s ps p.states p.acts).length).drop ps.length))),(32,q1 ps s p),(33,vN j)])
   (fun j=>[(0,.row 32 4 ((nwO ps ((zc3 ps (zag s ps p.states p.acts) (zag s ps p.states p.acts).length).drop ps.length) j).map eJ))])
   (fun j=>((zc3 ps (zag s ps p.states p.acts) (zag s ps p.states p.acts).length).drop ps.length).length - j) 0 ?_ h (by kernel_rfl) (by kernel_rfl) ?_
 ·exact bJ _
 clear h;rintro j a w hI h;have lnj:=nwO_len ps ((zc3 ps (zag s ps p.states p.acts) (zag s ps p.states p.acts).length).drop ps.length) j;refine rSeqX zcz 9 [] [(1,(vRs ps)),(6,vW zam),(7,vb false),(11,vO 0 (nwO ps ((zc3 ps (zag s ps p.states p.acts) (zag s ps p.states p.acts).length).drop ps.length) j).length),(31,(vRs ((zc3 ps (zag s ps p.states p.acts) (zag s ps p.states p.acts).length).drop ps.length))),(32,q1 ps s p),(33,vN j),(34,vb (decide ((j:Int)<(((zc3 ps (zag s ps p.states p.acts) (zag s ps p.states p.acts).length).drop ps.length).length:Int))))] [(0,.row 32 4 ((nwO ps ((zc3 ps (zag s ps p.states p.acts) (zag s ps p.states p.acts).length).drop ps.length) j).map eJ))] (by kernel_rfl) (by kernel_rfl) h fun a w h=>wpX_seq (condX (decide ((j:Int)<(((zc3 ps (zag s ps p.states p.acts) (zag s ps p.states p.acts).length).drop ps.length).length:Int))) h rfl (fun hc1=>?_) (fun hc6=>?_))
 ·have hc1':=dT hc1;refine wpX_skip (dfS h) (za1 (wpX_seq (wpX_block ?_)));obtain ⟨x6,hx6⟩:=gl ((zc3 ps (zag s ps p.states p.acts) (zag s ps p.states p.acts).length).drop ps.length) j;refine rSeqX zcz 9 [(0,.g (xD 35 31 kc_3 (za7 hx6 (f:=eJ)) (d4 33 _)))] [(1,(vRs ps)),(6,vW zam),(7,vb false),(11,vO 0 (nwO ps ((zc3 ps (zag s ps p.states p.acts) (zag s ps p.states p.acts).length).drop ps.length) j).length),(13,vp 9 0),(31,(vRs ((zc3 ps (zag s ps p.states p.acts) (zag s ps p.states p.acts).length).drop ps.length))),(32,q1 ps s p),(33,vN j)] [(0,.row 32 4 ((nwO ps ((zc3 ps (zag s ps p.states p.acts) (zag s ps p.states p.acts).length).drop ps.length) j).map eJ)),(9,.box [cPs x6.t.parts,cB x6.t.k.neg,.d (nsl x6.t.k.abs),cB x6.eq])] (by kernel_rfl) (by kernel_rfl) h fun a w h=>?_
  rcases bX (tgtB x6) with hc2 | hc5
  ·refine rSeqX zcz 10 [(1,.call (dY (LtightB x6 ((hal9.1 x6 (dN (lM hx6))).mono (by decide) (by omega))) (yJ vb hc2)))] [(1,(vRs ps)),(6,vW zam),(7,vb false),(11,vO 0 (nwO ps ((zc3 ps (zag s ps p.states p.acts) (zag s ps p.states p.acts).length).drop ps.length) j).length),(13,vp 9 0),(31,(vRs ((zc3 ps (zag s ps p.states p.acts) (zag s ps p.states p.acts).length).drop ps.length))),(32,q1 ps s p),(33,vN j),(43,vb (decide (((nwO ps ((zc3 ps (zag s ps p.states p.acts) (zag s ps p.states p.acts).length).drop ps.length) j).length:Int)<24)))] [(0,.row 32 4 ((nwO ps ((zc3 ps (zag s ps p.states p.acts) (zag s ps p.states p.acts).length).drop ps.length) j).map eJ)),(9,.box [cPs x6.t.parts,cB x6.t.k.neg,.d (nsl x6.t.k.abs),cB x6.eq])] (by kernel_rfl) (by kernel_rfl) h fun a w h=>condX (decide (((nwO ps ((zc3 ps (zag s ps p.states p.acts) (zag s ps p.states p.acts).length).drop ps.length) j).length:Int)<24)) h rfl (fun hc3=>?_) (fun hc4=>?_)
   ·have hc3':=dT hc3;refine rSX zcz 10 [(3,.call (zen x6.t (hal9.1 x6 (dN (lM hx6))) (by decide) (by omega))),(7,.g (bD 51 ([(za9.mk (za2 x6.t) x6.eq)].map eJ) [(50,vG [cPs (za2 x6.t).parts,cB (za2 x6.t).k.neg,.d (nsl (za2 x6.t).k.abs),cB x6.eq])] kc_5 (.cons (i:=0) (d4 50 _) (.nil)) (by kernel_rfl) (by simp [eJ]))),(8,.g (Op.appOD (d:=52) (t:=44) (u:=51) (n:=0) (n':=10) (len:=(nwO ps ((zc3 ps (zag s ps p.states p.acts) (zag s ps p.states p.acts).length).drop ps.length) j).length) (len':=((nwO ps ((zc3 ps (zag s ps p.states p.acts) (zag s ps p.states p.acts).length).drop ps.length) j)++[(za9.mk (za2 x6.t) x6.eq)]).length) (rows:=(nwO ps ((zc3 ps (zag s ps p.states p.acts) (zag s ps p.states p.acts).length).drop ps.length) j).map eJ) (rows2:=[(za9.mk (za2 x6.t) x6.eq)].map eJ) (rows':=((nwO ps ((zc3 ps (zag s ps p.states p.acts) (zag s ps p.states p.acts).length).drop ps.length) j)++[(za9.mk (za2 x6.t) x6.eq)]).map eJ) lh8_3 (by first | exact (bC _).symm | simp) (by first | (rw [bL,bC];done) | (simp;done) | (simp;omega)) (by simp) (by simp [eJ]) (by first | omega | (simp at *;done) | (simp at *;omega))))] [(1,(vRs ps)),(6,vW zam),(7,vb false),(11,vO 10 ((nwO ps ((zc3 ps (zag s ps p.states p.acts) (zag s ps p.states p.acts).length).drop ps.length) j)++[(za9.mk (za2 x6.t) x6.eq)]).length),(31,(vRs ((zc3 ps (zag s ps p.states p.acts) (zag s ps p.states p.acts).length).drop ps.length))),(32,q1 ps s p),(33,vN j)] [(10,.row 32 4 (((nwO ps ((zc3 ps (zag s ps p.states p.acts) (zag s ps p.states p.acts).length).drop ps.length) j)++[(za9.mk (za2 x6.t) x6.eq)]).map eJ))] (by kernel_rfl) (by kernel_rfl) h fun a w h=>za6 (za1 (rSX zcz 11 [(0,.j1 j)] [(1,(vRs ps)),(6,vW zam),(7,vb false),(11,vO 10 ((nwO ps ((zc3 ps (zag s ps p.states p.acts) (zag s ps p.states p.acts).length).drop ps.length) j)++[(za9.mk (za2 x6.t) x6.eq)]).length),(31,(vRs ((zc3 ps (zag s ps p.states p.acts) (zag s ps p.states p.acts).length).drop ps.length))),(32,q1 ps s p),(33,vI ((j:Int)+1))] [(10,.row 32 4 (((nwO ps ((zc3 ps (zag s ps p.states p.acts) (zag s ps p.states p.acts).length).drop ps.length) j)++[(za9.mk (za2 x6.t) x6.eq)]).map eJ))] (by kernel_rfl) (by kernel_rfl) h fun a w h=>za1 ?_));rw [show (((nwO ps ((zc3 ps (zag s ps p.states p.acts) (zag s ps p.states p.acts).length).drop ps.length) j)++[(za9.mk (za2 x6.t) x6.eq)]):List za9)=(nwO ps ((zc3 ps (zag s ps p.states p.acts) (zag s ps p.states p.acts).length).drop ps.length) (j+1)) from ((nwO_at hx6).trans (nwS_t hc2 (by have:=dT hc3;omega))).symm] at h;replace h:=zd7 10 0 h;refine zaa (x:=j) (y:=j+1) h ?_ ?_
    ·have:=zab hx6;show j+1<=((zc3 ps (zag s ps p.states p.acts) (zag s ps p.states p.acts).length).drop ps.length).length;omega
    show ((zc3 ps (zag s ps p.states p.acts) (zag s ps p.states p.acts).length).drop ps.length).length - (j+1)<((zc3 ps (zag s ps p.states p.acts) (zag s ps p.states p.acts).length).drop ps.length).length - j;have:=zab hx6;omega
   have hc4':=dF hc4;refine wpX_skip (dfS h) (za6 (za1 (rSX zcz 11 [(0,.j1 j)] [(1,(vRs ps)),(6,vW zam),(7,vb false),(11,vO 0 (nwO ps ((zc3 ps (zag s ps p.states p.acts) (zag s ps p.states p.acts).length).drop ps.length) j).length),(31,(vRs ((zc3 ps (zag s ps p.states p.acts) (zag s ps p.states p.acts).length).drop ps.length))),(32,q1 ps s p),(33,vI ((j:Int)+1))] [(0,.row 32 4 ((nwO ps ((zc3 ps (zag s ps p.states p.acts) (zag s ps p.states p.acts).length).drop ps.length) j).map eJ))] (by kernel_rfl) (by kernel_rfl) h fun a w h=>za1 ?_)));replace h:=cv (fun z_:List za9=>F.of [(1,(vRs ps)),(6,vW zam),(7,vb false),(11,vO 0 z_.length),(31,(vRs ((zc3 ps (zag s ps p.states p.acts) (zag s ps p.states p.acts).length).drop ps.length))),(32,q1 ps s p),(33,vI ((j:Int)+1))] [(0,.row 32 4 (z_.map eJ))]) (show ((nwO ps ((zc3 ps (zag s ps p.states p.acts) (zag s ps p.states p.acts).length).drop ps.length) j):List za9)=(nwO ps ((zc3 ps (zag s ps p.states p.acts) (zag s ps p.states p.acts).length).drop ps.length) (j+1)) from ((nwO_at hx6).trans (nwS_x hc2 (by have:=dF hc4;omega))).symm) (h.conv (by kernel_rfl));refine zaa (x:=j) (y:=j+1) h ?_ ?_
   ·have:=zab hx6;show j+1<=((zc3 ps (zag s ps p.states p.acts) (zag s ps p.states p.acts).length).drop ps.length).length;omega
   show ((zc3 ps (zag s ps p.states p.acts) (zag s ps p.states p.acts).length).drop ps.length).length - (j+1)<((zc3 ps (zag s ps p.states p.acts) (zag s ps p.states p.acts).length).drop ps.length).length - j;have:=zab hx6;omega
  refine rSeqX zcz 11 [(1,.call (dY (LtightB x6 ((hal9.1 x6 (dN (lM hx6))).mono (by decide) (by omega))) (yJ vb hc5)))] [(1,(vRs ps)),(6,vW zam),(7,vb false),(11,vO 0 (nwO ps ((zc3 ps (zag s ps p.states p.acts) (zag s ps p.states p.acts).length).drop ps.length) j).length),(13,vp 9 0),(31,(vRs ((zc3 ps (zag s ps p.states p.acts) (zag s ps p.states p.acts).length).drop ps.length))),(32,q1 ps s p),(33,vN j),(43,vb false)] [(0,.row 32 4 ((nwO ps ((zc3 ps (zag s ps p.states p.acts) (zag s ps p.states p.acts).length).drop ps.length) j).map eJ)),(9,.box [cPs x6.t.parts,cB x6.t.k.neg,.d (nsl x6.t.k.abs),cB x6.eq])] (by kernel_rfl) (by kernel_rfl) h fun a w h=>condX false h rfl nofun (fun _=>wpX_skip (dfS h) (za6 (za1 (rSX zcz 11 [(0,.j1 j)] [(1,(vRs ps)),(6,vW zam),(7,vb false),(11,vO 0 (nwO ps ((zc3 ps (zag s ps p.states p.acts) (zag s ps p.states p.acts).length).drop ps.length) j).length),(31,(vRs ((zc3 ps (zag s ps p.states p.acts) (zag s ps p.states p.acts).length).drop ps.length))),(32,q1 ps s p),(33,vI ((j:Int)+1))] [(0,.row 32 4 ((nwO ps ((zc3 ps (zag s ps p.states p.acts) (zag s ps p.states p.acts).length).drop ps.length) j).map eJ))] (by kernel_rfl) (by kernel_rfl) h fun a w h=>za1 ?_))))
  replace h:=cv (fun z_:List za9=>F.of [(1,(vRs ps)),(6,vW zam),(7,vb false),(11,vO 0 z_.length),(31,(vRs ((zc3 ps (zag s ps p.states p.acts) (zag s ps p.states p.acts).length).drop ps.length))),(32,q1 ps s p),(33,vI ((j:Int)+1))] [(0,.row 32 4 (z_.map eJ))]) (show ((nwO ps ((zc3 ps (zag s ps p.states p.acts) (zag s ps p.states p.acts).length).drop ps.length) j):List za9)=(nwO ps ((zc3 ps (zag s ps p.states p.acts) (zag s ps p.states p.acts).length).drop ps.length) (j+1)) from ((nwO_at hx6).trans (nwS_f hc5)).symm) (h.conv (by kernel_rfl));refine zaa (x:=j) (y:=j+1) h ?_ ?_
  ·have:=zab hx6;show j+1<=((zc3 ps (zag s ps p.states p.acts) (zag s ps p.states p.acts).length).drop ps.length).length;omega
  show ((zc3 ps (zag s ps p.states p.acts) (zag s ps p.states p.acts).length).drop ps.length).length - (j+1)<((zc3 ps (zag s ps p.states p.acts) (zag s ps p.states p.acts).length).drop ps.length).length - j;have:=zab hx6;omega
 have hc6':=dF hc6;refine wpX_exit (dfS h) (zcb (zcb (zaz (za1 ?_))));replace h:=cv (fun z_:List za9=>F.of [(1,(vRs ps)),(6,vW zam),(7,vb false),(11,vO 0 z_.length),(31,(vRs ((zc3 ps (zag s ps p.states p.acts) (zag s ps p.states p.acts).length).drop ps.length))),(32,q1 ps s p),(33,vN j),(34,vb (decide ((j:Int)<(((zc3 ps (zag s ps p.states p.acts) (zag s ps p.states p.acts).length).drop ps.length).length:Int))))] [(0,.row 32 4 (z_.map eJ))]) (show ((nwO ps ((zc3 ps (zag s ps p.states p.acts) (zag s ps p.states p.acts).length).drop ps.length) j):List za9)=(newT s ps p) from (by rw [show j=((zc3 ps (zag s ps p.states p.acts) (zag s ps p.states p.acts).length).drop ps.length).length by have:=dF hc6;omega];rfl)) (h.conv (by kernel_rfl));refine rSeqX zcz 11 [(4,.len (za3 4 eJ ps))] [(6,vO 0 (newT s ps p).length),(7,vb (decide (((newT s ps p).length:Int)>(ps.length:Int))))] [(0,.row 32 4 ((newT s ps p).map eJ))] (by kernel_rfl) (by kernel_rfl) h fun a w h=>wpX_ret (dfS h) ?_;replace h:=zj2 0 4 32 ((newT s ps p).map eJ) h [(newT s ps p).length] ⟨by first | exact (bC _).symm | (simp;done) | (simp;omega),trivial⟩;refine retX [.c (cRs (newT s ps p)),.c (cB (decide (((newT s ps p).length:Int)>(ps.length:Int))))] h Exit.ret (.inl rfl)  rfl ⟨vT9,vT9,trivial⟩ ?_ (by kernel_rfl) (by kernel_rfl);rfl
theorem lt20_0:Sz dX 98 2 true:=Sz.mk' (by kernel_rfl) Tryz.underlying98 _ rfl
theorem cmpZ_l9 {a b:Int} (h:a<b):zbo a b=-1:=by unfold zbo;split <;> (try split) <;> omega
theorem cmpZ_g9 {a b:Int} (h:a>b):zbo a b=1:=by unfold zbo;split <;> (try split) <;> omega
theorem cmpZ_e9 {a b:Int} (h:a=b):zbo a b=0:=by subst h;exact zjv _
theorem cmpA_l0 {a b:zbz} {c:Int} (h:cmpL zbo a.locs b.locs=c) (hc:c≠0):zfo a b=c:=by unfold zfo;rw [h,orZ2_l _ _ hc]
theorem cmpA_left {a b:zbz} {x y c:Int} (h:cmpL zbo a.locs b.locs=if x≠0 then x else y) (hx:x=c) (hc:c≠0:=by decide):zfo a b=c:=by
 subst hx;rw [if_pos hc] at h;exact cmpA_l0 h hc
theorem zgk {a b:zbz} {c:Int} (h:cmpL zbo a.locs b.locs=0) (k:cmpL cmpBl a.bits b.bits=c):zfo a b=c:=by unfold zfo;rw [h,k,orZ2_r _ _ rfl]
theorem cmpA_rs {a b:zbz} {x y c:Int} (h:cmpL zbo a.locs b.locs=0) (k:cmpL cmpBl a.bits b.bits=if x≠0 then x else y) (hx:x=c) (hc:c≠0:=by decide):zfo a b=c:=by
 subst hx;rw [if_pos hc] at k;exact zgk h k
theorem bit_ne {p q:Bool} {b:Bool} (h:(p != q)=true) (k:q=b):cmpBl p q=if b=true then -1 else 1:=by
 subst k;cases p <;> cases q <;> first | (cases h;done) | rfl
theorem LR21Of (ps:List za9) (x:StD) (hps:PsOkW ps) (hx:zhp 10 x):Fn dX 39 [] [(vRs ps),vG [cIs x.locs,cZs x.vals]] (vG [cIs (ofA ps x).locs,.d (.sl 1 ((ofA ps x).bits.map zb4))]) []:=by
 have lps:=hps.1;have lxl:=hx.locs;refine fB Tryz.func39 rfl 29 fun w H B a h=>Jq 0 [] [(0,(vRs ps)),(3,vp 0 0),(4,vp 1 0)] [(0,.box [cIs x.locs,cZs x.vals]),(1,.box [nCl,nCl])] h fun a w h=>Jg 2 [] [] [(5,vp 2 0)] [] [(2,.box [cIs x.locs,nCl])] h fun a w h=>qW (Je 3 [] [] [(6,vI 0)] h fun a w h=>qZ ?_)
 replace h:=zjj 2 1 3 1 4 [cIs x.locs,nCl] h
 refine zbw (ι:=(Nat)) (fun j=>j<=ps.length)
   [] (fun j=>[(6,vN j)])
   [] (fun j=>[(2,.box [cIs x.locs,.own 3 ((ps.take j).map (zax x.vals)).length]),(3,.row 4 1 (((ps.take j).map (zax x.vals)).map zb4))])
   (fun j=>ps.length - j) 0 ?_ h ?_
 ·exact bJ _
 clear h;rintro j a w hI h;have lmj:((ps.take j).map (zax x.vals)).length<=j:=by rw [bC,cO];omega
 refine qW (Je 4 [(2,.len (za3 4 eJ ps))] [] [(13,vb (decide ((j:Int)<(ps.length:Int))))] h fun a w h=>zad ((j:Int)<(ps.length:Int)) h (fun hc1 hc1'=>?_) (fun hc2 hc2'=>?_))
 ·refine qU (za1 (qW (qZ ?_)));obtain ⟨x1,hx1⟩:=gl ps j;refine Jh 4 [(4,.g (xD 20 18 kc_3 (za7 hx1 (f:=eJ)) (d4 19 _))),(8,.call (SRrelHolds x1 x.vals (L:=100) (M:=10) (by decide) hx.vok (hps.2 x1 (lM hx1)))),(9,.g (bD 25 ([zax x.vals x1].map zb4) [(24,vb (zax x.vals x1))] le5_3 (.cons (i:=0) (d4 24 _) (.nil)) (by kernel_rfl) (by simp [zb4]))),(10,.g (aD 26 17 25 3 4 ((ps.take j).map (zax x.vals)) [zax x.vals x1] zb4 le5_4 (by simp [zb4])))] [13] [] [3] [(2,.box ([cIs x.locs,.own 4 (((ps.take j).map (zax x.vals))++[zax x.vals x1]).length])),(4,.row 4 1 ((((ps.take j).map (zax x.vals))++[zax x.vals x1]).map zb4))] h fun a w h=>za6 (za1 (Jf 5 [(1,.j1 j)] [] [(6,vI ((j:Int)+1))] h fun a w h=>za1 ?_));rw [show ((((ps.take j).map (zax x.vals))++[zax x.vals x1]):List Bool)=((ps.take (j+1)).map (zax x.vals)) from (zej hx1)] at h;replace h:=zd7 4 3 h;refine zaa (x:=j) (y:=j+1) h ?_ ?_
  ·have:=zab hx1;show j+1<=ps.length;omega
  show ps.length - (j+1)<ps.length - j;have:=zab hx1;omega
 refine exA (Jg 5 [] [0,3,5,6,13] [] [0,2] [(1,.box [cIs x.locs,.own 3 ((ps.take j).map (zax x.vals)).length])] h fun a w h=>qV ?_);rw [show (((ps.take j).map (zax x.vals)):List Bool)=(ps.map (zax x.vals)) from (by rw [cJ (by omega)])] at h;replace h:=zj2 3 1 4 ((ps.map (zax x.vals)).map zb4) h [(ps.map (zax x.vals)).length] ⟨by first | exact (bC _).symm | (simp;done) | (simp;omega),trivial⟩;refine rA 1 [cIs x.locs,.d (.sl 1 ((ps.map (zax x.vals)).map zb4))] h lt20_0 rfl ?_;rfl
theorem LR21Cmp (a_ b_:zbz) (hx:a_.locs.length<=9223372036854775807/\a_.bits.length<=9223372036854775807) (hy:b_.locs.length<=9223372036854775807/\b_.bits.length<=9223372036854775807):Fn dX 38 [] [vG [cIs a_.locs,.d (.sl 1 (a_.bits.map zb4))],vG [cIs b_.locs,.d (.sl 1 (b_.bits.map zb4))]] (vI (zfo a_ b_)) []:=by
 have lx1:=hx.1;have lx2:=hx.2;have ly1:=hy.1;have ly2:=hy.2;refine fB Tryz.func38 rfl 101 fun w H B a h=>Jq 0 [] [(2,vp 0 0),(3,vp 1 0),(4,vI 0)] [(0,.box [cIs a_.locs,.d (.sl 1 (a_.bits.map zb4))]),(1,.box [cIs b_.locs,.d (.sl 1 (b_.bits.map zb4))])] h fun a w h=>qW (Je 2 [] [] [(5,vI 0)] h fun a w h=>qZ ?_)
 refine zbw (ι:=(Nat)) (fun i=>i<=a_.locs.length/\i<=b_.locs.length/\cmpL zbo a_.locs b_.locs=cmpL zbo (a_.locs.drop i) (b_.locs.drop i))
   [4] (fun i=>[(5,vN i)])
   [] (fun i=>[])
   (fun i=>a_.locs.length - i) 0 ?_ h ?_
 ·exact ⟨bJ _,bJ _,rfl⟩
 clear h;rintro i a w hI h;obtain ⟨hIi,hKi,hJi⟩:=hI;have hcei:=cmpL_end (c:=zbo) hIi hKi;refine qW ?_
 rcases bX (decide ((i:Int)<(a_.locs.length:Int))) with hc1 | hc28
 ·have hc1':=dT hc1;refine Je 2 [(3,.len (za3 1 zal a_.locs)),(4,.cmp (op:=.lss) (m:=(i:Int)) (n:=(a_.locs.length:Int)) (b:=true) .i64 hc1),(9,.len (za3 1 zal b_.locs))] [] [(18,vb (decide ((i:Int)<(b_.locs.length:Int))))] h fun a w h=>zad ((i:Int)<(b_.locs.length:Int)) h (fun hc2 hc2'=>?_) (fun hc7 hc7'=>?_)
  ·refine qU (za1 (qW (qZ (qW ?_))));obtain ⟨x1,hx1⟩:=gl a_.locs i;obtain ⟨x2,hx2⟩:=gl b_.locs i;refine Je 2 [(3,.g (xD 24 22 zh0 (za7 hx1 (f:=zal)) (d4 23 _))),(8,.g (xD 29 27 zh0 (za7 hx2 (f:=zal)) (d4 28 _)))] [18] [(31,vb (decide (x1<x2)))] h fun a w h=>zad (x1<x2) h (fun hc3 hc3'=>?_) (fun hc4 hc4'=>?_)
   ·refine Je 2 [] [31] [(4,vI (-1))] h fun a w h=>qV (za5 (za8 (za5 (za5 (za8 (za5 (rT (.c (cI (-1))) h rfl ?_)))))));have l0:=dT hc1;have l1:=dT hc2;have l2:=dT hc3;have hz:zfo a_ b_=-1:=cmpA_left (hJi.trans (zgv hx1 hx2)) (cmpZ_l9 (by omega));rw [hz];try rfl
   refine qU (za1 (Je 2 [(3,.g (xD 35 33 zh0 (za7 hx1 (f:=zal)) (d4 34 _))),(8,.g (xD 40 38 zh0 (za7 hx2 (f:=zal)) (d4 39 _)))] [31] [(42,vb (decide (x1>x2)))] h fun a w h=>zad (x1>x2) h (fun hc5 hc5'=>?_) (fun hc6 hc6'=>?_)))
   ·refine Je 2 [] [42] [(4,vI 1)] h fun a w h=>qV (za8 (za5 (za5 (za8 (za5 (rT (.c (cI 1)) h rfl ?_))))));have l0:=dT hc1;have l1:=dT hc2;have l2:=dF hc4;have l3:=dT hc5;have hz:zfo a_ b_=1:=cmpA_left (hJi.trans (zgv hx1 hx2)) (cmpZ_g9 (by omega));rw [hz];try rfl
   refine qU (za6 (za1 (Jf 2 [(1,.j1 i)] [42] [(5,vI ((i:Int)+1))] h fun a w h=>za1 (zaa (x:=i) (y:=i+1) h ?_ ?_))))
   ·have:=zab hx1;have:=zab hx2;have p0:=dF hc4;have p1:=dF hc6;exact ⟨by omega,by omega,by rw [hJi,zgv hx1 hx2,if_neg (fun e=>e (cmpZ_e9 (by omega)))]⟩
   show a_.locs.length - (i+1)<a_.locs.length - i;have:=zab hx1;omega
  refine exA (qW (Je 2 [(2,.len (za3 1 zal a_.locs)),(5,.len (za3 1 zal b_.locs))] [5,18] [(49,vb ((a_.locs.length:Int) != (b_.locs.length:Int)))] h fun a w h=>cS ((a_.locs.length:Int) != (b_.locs.length:Int)) h (fun hc8=>?_) (fun hc11=>?_)))
  ·refine qW (Je 2 [(2,.len (za3 1 zal a_.locs)),(5,.len (za3 1 zal b_.locs))] [49] [(56,vb (decide ((a_.locs.length:Int)<(b_.locs.length:Int))))] h fun a w h=>zad ((a_.locs.length:Int)<(b_.locs.length:Int)) h (fun hc9 hc9'=>?_) (fun hc10 hc10'=>?_))
   ·refine Je 2 [] [56] [(4,vI (-1))] h fun a w h=>qV (za5 (za5 (rT (.c (cI (-1))) h rfl ?_)));have l0:=dT hc1;have l1:=dF hc7;have l3:=dT hc9;have lne:a_.locs.length≠b_.locs.length:=by have:=hc8;simp at this;omega
    have hz:zfo a_ b_=-1:=cmpA_l0 (hJi.trans (hcei.2.1 (by omega) (by omega))) (by decide);rw [hz];try rfl
   refine qU (za1 (Je 2 [] [56] [(4,vI 1)] h fun a w h=>qV (za5 (rT (.c (cI 1)) h rfl ?_))));have l0:=dT hc1;have l1:=dF hc7;have l3:=dF hc10;have lne:a_.locs.length≠b_.locs.length:=by have:=hc8;simp at this;omega
   have hz:zfo a_ b_=1:=cmpA_l0 (hJi.trans (hcei.1 (by omega) (by omega))) (by decide);rw [hz];try rfl
  refine qU (za1 (qW (Je 2 [] [49] [(6,vI 0)] h fun a w h=>qZ ?_)))
  refine zbw (ι:=(Nat)) (fun k=>k<=a_.bits.length/\k<=b_.bits.length/\cmpL cmpBl a_.bits b_.bits=cmpL cmpBl (a_.bits.drop k) (b_.bits.drop k))
    [] (fun k=>[(6,vN k)])
    [] (fun k=>[])
    (fun k=>a_.bits.length - k) 0 ?_ h ?_
  ·exact ⟨bJ _,bJ _,rfl⟩
  clear h;rintro k a w hI h;obtain ⟨hIk,hKk,hJk⟩:=hI;have hcek:=cmpL_end (c:=cmpBl) hIk hKk;refine qW ?_
  rcases bX (decide ((k:Int)<(a_.bits.length:Int))) with hc12 | hc23
  ·have hc12':=dT hc12;refine Je 2 [(3,.len (za3 1 zb4 a_.bits)),(4,.cmp (op:=.lss) (m:=(k:Int)) (n:=(a_.bits.length:Int)) (b:=true) .i64 hc12),(9,.len (za3 1 zb4 b_.bits))] [] [(68,vb (decide ((k:Int)<(b_.bits.length:Int))))] h fun a w h=>zad ((k:Int)<(b_.bits.length:Int)) h (fun hc13 hc13'=>?_) (fun hc18 hc18'=>?_)
   ·refine qU (za1 (qW (qZ ?_)));obtain ⟨x3,hx3⟩:=gl a_.bits k;obtain ⟨x4,hx4⟩:=gl b_.bits k;refine Je 2 [(3,.g (xD 74 72 le5_9 (za7 hx3 (f:=zb4)) (d4 73 _))),(8,.g (xD 79 77 le5_9 (za7 hx4 (f:=zb4)) (d4 78 _)))] [68] [(81,vb (x3 != x4))] h fun a w h=>cS (x3 != x4) h (fun hc14=>?_) (fun hc17=>?_)
    ·refine qW (Je 2 [(3,.g (xD 85 83 le5_9 (za7 hx4 (f:=zb4)) (d4 84 _)))] [81] [(86,vb x4)] h fun a w h=>cS x4 h (fun hc15=>?_) (fun hc16=>?_))
     ·refine Je 2 [] [86] [(4,vI (-1))] h fun a w h=>qV (za5 (za8 (za5 (za5 (za8 (za5 (rT (.c (cI (-1))) h rfl ?_)))))));have l0:=dT hc1;have l1:=dF hc7;have l3:=dT hc12;have l4:=dT hc13;have leq:a_.locs.length=b_.locs.length:=by have:=hc11;simp at this;omega
      have hl0:=hJi.trans (hcei.2.2 (by omega) (by omega));have hz:zfo a_ b_=-1:=cmpA_rs hl0 (hJk.trans (zgv hx3 hx4)) (bit_ne hc14 hc15);rw [hz];try rfl
     refine qU (za1 (Je 2 [] [86] [(4,vI 1)] h fun a w h=>qV (za8 (za5 (za5 (za8 (za5 (rT (.c (cI 1)) h rfl ?_))))))));have l0:=dT hc1;have l1:=dF hc7;have l3:=dT hc12;have l4:=dT hc13;have leq:a_.locs.length=b_.locs.length:=by have:=hc11;simp at this;omega
     have hl0:=hJi.trans (hcei.2.2 (by omega) (by omega));have hz:zfo a_ b_=1:=cmpA_rs hl0 (hJk.trans (zgv hx3 hx4)) (bit_ne hc14 hc16);rw [hz];try rfl
    refine qU (za6 (za1 (Jf 2 [(1,.add .i64 (m:=(k:Int)) (n:=1) i6)] [81] [(6,vI ((k:Int)+1))] h fun a w h=>za1 (zaa (x:=k) (y:=k+1) h ?_ ?_))))
    ·have:=zab hx3;have:=zab hx4;have p0:x3=x4:=by have:=hc17;simpa using this
     exact ⟨by omega,by omega,by rw [hJk,zgv hx3 hx4,if_neg (fun e=>e ((by subst p0;exact zjv _)))]⟩
    show a_.bits.length - (k+1)<a_.bits.length - k;have:=zab hx3;omega
   refine exA (qW (Je 2 [(2,.len (za3 1 zb4 a_.bits)),(5,.len (za3 1 zb4 b_.bits))] [6,68] [(93,vb (decide ((a_.bits.length:Int)<(b_.bits.length:Int))))] h fun a w h=>zad ((a_.bits.length:Int)<(b_.bits.length:Int)) h (fun hc19 hc19'=>?_) (fun hc20 hc20'=>?_)))
   ·refine Je 2 [] [93] [(4,vI (-1))] h fun a w h=>qV (za5 (rT (.c (cI (-1))) h rfl ?_));have l0:=dT hc1;have l1:=dF hc7;have l3:=dT hc12;have l4:=dF hc18;have l5:=dT hc19;have leq:a_.locs.length=b_.locs.length:=by have:=hc11;simp at this;omega
    have hl0:=hJi.trans (hcei.2.2 (by omega) (by omega));have hz:zfo a_ b_=-1:=zgk hl0 (hJk.trans (hcek.2.1 (by omega) (by omega)));rw [hz];try rfl
   refine qU (za1 (qW (Jq 2 [(2,.len (za3 1 zb4 a_.bits)),(5,.len (za3 1 zb4 b_.bits))] [(100,vb (decide ((a_.bits.length:Int)>(b_.bits.length:Int))))] [] h fun a w h=>zad ((a_.bits.length:Int)>(b_.bits.length:Int)) h (fun hc21 hc21'=>?_) (fun hc22 hc22'=>?_))))
   ·refine Jq 2 [] [(4,vI 1)] [] h fun a w h=>qV (za5 (rT (.c (cI 1)) h rfl ?_));have l0:=dT hc1;have l1:=dF hc7;have l3:=dT hc12;have l4:=dF hc18;have l5:=dF hc20;have l6:=dT hc21;have leq:a_.locs.length=b_.locs.length:=by have:=hc11;simp at this;omega
    have hl0:=hJi.trans (hcei.2.2 (by omega) (by omega));have hz:zfo a_ b_=1:=zgk hl0 (hJk.trans (hcek.1 (by omega) (by omega)));rw [hz];try rfl
   refine qU (za1 (Jq 2 [] [(4,vI 0)] [] h fun a w h=>qV (rT (.c (cI 0)) h rfl ?_)));have l0:=dT hc1;have l1:=dF hc7;have l3:=dT hc12;have l4:=dF hc18;have l5:=dF hc20;have l6:=dF hc22;have leq:a_.locs.length=b_.locs.length:=by have:=hc11;simp at this;omega
   have hl0:=hJi.trans (hcei.2.2 (by omega) (by omega));have hz:zfo a_ b_=0:=zgk hl0 (hJk.trans (hcek.2.2 (by omega) (by omega)));rw [hz];try rfl
  have hc23':=dF hc23;refine Je 2 [(3,.len (za3 1 zb4 a_.bits)),(4,.cmp (op:=.lss) (m:=(k:Int)) (n:=(a_.bits.length:Int)) (b:=false) .i64 hc23)] [] [(68,vb false)] h fun a w h=>zau h (exA (qW (Je 2 [(2,.len (za3 1 zb4 a_.bits)),(5,.len (za3 1 zb4 b_.bits))] [6,68] [(93,vb (decide ((a_.bits.length:Int)<(b_.bits.length:Int))))] h fun a w h=>zad ((a_.bits.length:Int)<(b_.bits.length:Int)) h (fun hc24 hc24'=>?_) (fun hc25 hc25'=>?_))))
  ·refine Je 2 [] [93] [(4,vI (-1))] h fun a w h=>qV (za5 (rT (.c (cI (-1))) h rfl ?_));have l0:=dT hc1;have l1:=dF hc7;have l3:=dF hc23;have l4:=dT hc24;have leq:a_.locs.length=b_.locs.length:=by have:=hc11;simp at this;omega
   have hl0:=hJi.trans (hcei.2.2 (by omega) (by omega));have hz:zfo a_ b_=-1:=zgk hl0 (hJk.trans (hcek.2.1 (by omega) (by omega)));rw [hz];try rfl
  refine qU (za1 (qW (Jq 2 [(2,.len (za3 1 zb4 a_.bits)),(5,.len (za3 1 zb4 b_.bits))] [(100,vb (decide ((a_.bits.length:Int)>(b_.bits.length:Int))))] [] h fun a w h=>zad ((a_.bits.length:Int)>(b_.bits.length:Int)) h (fun hc26 hc26'=>?_) (fun hc27 hc27'=>?_))))
  ·refine Jq 2 [] [(4,vI 1)] [] h fun a w h=>qV (za5 (rT (.c (cI 1)) h rfl ?_));have l0:=dT hc1;have l1:=dF hc7;have l3:=dF hc23;have l4:=dF hc25;have l5:=dT hc26;have leq:a_.locs.length=b_.locs.length:=by have:=hc11;simp at this;omega
   have hl0:=hJi.trans (hcei.2.2 (by omega) (by omega));have hz:zfo a_ b_=1:=zgk hl0 (hJk.trans (hcek.1 (by omega) (by omega)));rw [hz];try rfl
  refine qU (za1 (Jq 2 [] [(4,vI 0)] [] h fun a w h=>qV (rT (.c (cI 0)) h rfl ?_)));have l0:=dT hc1;have l1:=dF hc7;have l3:=dF hc23;have l4:=dF hc25;have l5:=dF hc27;have leq:a_.locs.length=b_.locs.length:=by have:=hc11;simp at this;omega
  have hl0:=hJi.trans (hcei.2.2 (by omega) (by omega));have hz:zfo a_ b_=0:=zgk hl0 (hJk.trans (hcek.2.2 (by omega) (by omega)));rw [hz];try rfl
 have hc28':=dF hc28;refine Je 2 [(3,.len (za3 1 zal a_.locs)),(4,.cmp (op:=.lss) (m:=(i:Int)) (n:=(a_.locs.length:Int)) (b:=false) .i64 hc28)] [] [(18,vb false)] h fun a w h=>zau h (exA (qW (Je 2 [(2,.len (za3 1 zal a_.locs)),(5,.len (za3 1 zal b_.locs))] [5,18] [(49,vb ((a_.locs.length:Int) != (b_.locs.length:Int)))] h fun a w h=>cS ((a_.locs.length:Int) != (b_.locs.length:Int)) h (fun hc29=>?_) (fun hc32=>?_))))
 ·refine qW (Je 2 [(2,.len (za3 1 zal a_.locs)),(5,.len (za3 1 zal b_.locs))] [49] [(56,vb (decide ((a_.locs.length:Int)<(b_.locs.length:Int))))] h fun a w h=>zad ((a_.locs.length:Int)<(b_.locs.length:Int)) h (fun hc30 hc30'=>?_) (fun hc31 hc31'=>?_))
  ·refine Je 2 [] [56] [(4,vI (-1))] h fun a w h=>qV (za5 (za5 (rT (.c (cI (-1))) h rfl ?_)));have l0:=dF hc28;have l2:=dT hc30;have lne:a_.locs.length≠b_.locs.length:=by have:=hc29;simp at this;omega
   have hz:zfo a_ b_=-1:=cmpA_l0 (hJi.trans (hcei.2.1 (by omega) (by omega))) (by decide);rw [hz];try rfl
  refine qU (za1 (Je 2 [] [56] [(4,vI 1)] h fun a w h=>qV (za5 (rT (.c (cI 1)) h rfl ?_))));have l0:=dF hc28;have l2:=dF hc31;have lne:a_.locs.length≠b_.locs.length:=by have:=hc29;simp at this;omega
  have hz:zfo a_ b_=1:=cmpA_l0 (hJi.trans (hcei.1 (by omega) (by omega))) (by decide);rw [hz];try rfl
 refine qU (za1 (qW (Je 2 [] [49] [(6,vI 0)] h fun a w h=>qZ ?_)))
 refine zbw (ι:=(Nat)) (fun k=>k<=a_.bits.length/\k<=b_.bits.length/\cmpL cmpBl a_.bits b_.bits=cmpL cmpBl (a_.bits.drop k) (b_.bits.drop k))
   [] (fun k=>[(6,vN k)])
   [] (fun k=>[])
   (fun k=>a_.bits.length - k) 0 ?_ h ?_
 ·exact ⟨bJ _,bJ _,rfl⟩
 clear h;rintro k a w hI h;obtain ⟨hIk,hKk,hJk⟩:=hI;have hcek:=cmpL_end (c:=cmpBl) hIk hKk;refine qW ?_
 rcases bX (decide ((k:Int)<(a_.bits.length:Int))) with hc33 | hc44
 ·have hc33':=dT hc33;refine Je 2 [(3,.len (za3 1 zb4 a_.bits)),(4,.cmp (op:=.lss) (m:=(k:Int)) (n:=(a_.bits.length:Int)) (b:=true) .i64 hc33),(9,.len (za3 1 zb4 b_.bits))] [] [(68,vb (decide ((k:Int)<(b_.bits.length:Int))))] h fun a w h=>zad ((k:Int)<(b_.bits.length:Int)) h (fun hc34 hc34'=>?_) (fun hc39 hc39'=>?_)
  ·refine qU (za1 (qW (qZ ?_)));obtain ⟨x5,hx5⟩:=gl a_.bits k;obtain ⟨x6,hx6⟩:=gl b_.bits k;refine Je 2 [(3,.g (xD 74 72 le5_9 (za7 hx5 (f:=zb4)) (d4 73 _))),(8,.g (xD 79 77 le5_9 (za7 hx6 (f:=zb4)) (d4 78 _)))] [68] [(81,vb (x5 != x6))] h fun a w h=>cS (x5 != x6) h (fun hc35=>?_) (fun hc38=>?_)
   ·refine qW (Je 2 [(3,.g (xD 85 83 le5_9 (za7 hx6 (f:=zb4)) (d4 84 _)))] [81] [(86,vb x6)] h fun a w h=>cS x6 h (fun hc36=>?_) (fun hc37=>?_))
    ·refine Je 2 [] [86] [(4,vI (-1))] h fun a w h=>qV (za5 (za8 (za5 (za5 (za8 (za5 (rT (.c (cI (-1))) h rfl ?_)))))));have l0:=dF hc28;have l2:=dT hc33;have l3:=dT hc34;have leq:a_.locs.length=b_.locs.length:=by have:=hc32;simp at this;omega
     have hl0:=hJi.trans (hcei.2.2 (by omega) (by omega));have hz:zfo a_ b_=-1:=cmpA_rs hl0 (hJk.trans (zgv hx5 hx6)) (bit_ne hc35 hc36);rw [hz];try rfl
    refine qU (za1 (Je 2 [] [86] [(4,vI 1)] h fun a w h=>qV (za8 (za5 (za5 (za8 (za5 (rT (.c (cI 1)) h rfl ?_))))))));have l0:=dF hc28;have l2:=dT hc33;have l3:=dT hc34;have leq:a_.locs.length=b_.locs.length:=by have:=hc32;simp at this;omega
    have hl0:=hJi.trans (hcei.2.2 (by omega) (by omega));have hz:zfo a_ b_=1:=cmpA_rs hl0 (hJk.trans (zgv hx5 hx6)) (bit_ne hc35 hc37);rw [hz];try rfl
   refine qU (za6 (za1 (Jf 2 [(1,.add .i64 (m:=(k:Int)) (n:=1) i6)] [81] [(6,vI ((k:Int)+1))] h fun a w h=>za1 (zaa (x:=k) (y:=k+1) h ?_ ?_))))
   ·have:=zab hx5;have:=zab hx6;have p0:x5=x6:=by have:=hc38;simpa using this
    exact ⟨by omega,by omega,by rw [hJk,zgv hx5 hx6,if_neg (fun e=>e ((by subst p0;exact zjv _)))]⟩
   show a_.bits.length - (k+1)<a_.bits.length - k;have:=zab hx5;omega
  refine exA (qW (Je 2 [(2,.len (za3 1 zb4 a_.bits)),(5,.len (za3 1 zb4 b_.bits))] [6,68] [(93,vb (decide ((a_.bits.length:Int)<(b_.bits.length:Int))))] h fun a w h=>zad ((a_.bits.length:Int)<(b_.bits.length:Int)) h (fun hc40 hc40'=>?_) (fun hc41 hc41'=>?_)))
  ·refine Je 2 [] [93] [(4,vI (-1))] h fun a w h=>qV (za5 (rT (.c (cI (-1))) h rfl ?_));have l0:=dF hc28;have l2:=dT hc33;have l3:=dF hc39;have l4:=dT hc40;have leq:a_.locs.length=b_.locs.length:=by have:=hc32;simp at this;omega
   have hl0:=hJi.trans (hcei.2.2 (by omega) (by omega));have hz:zfo a_ b_=-1:=zgk hl0 (hJk.trans (hcek.2.1 (by omega) (by omega)));rw [hz];try rfl
  refine qU (za1 (qW (Jq 2 [(2,.len (za3 1 zb4 a_.bits)),(5,.len (za3 1 zb4 b_.bits))] [(100,vb (decide ((a_.bits.length:Int)>(b_.bits.length:Int))))] [] h fun a w h=>zad ((a_.bits.length:Int)>(b_.bits.length:Int)) h (fun hc42 hc42'=>?_) (fun hc43 hc43'=>?_))))
  ·refine Jq 2 [] [(4,vI 1)] [] h fun a w h=>qV (za5 (rT (.c (cI 1)) h rfl ?_));have l0:=dF hc28;have l2:=dT hc33;have l3:=dF hc39;have l4:=dF hc41;have l5:=dT hc42;have leq:a_.locs.length=b_.locs.length:=by have:=hc32;simp at this;omega
   have hl0:=hJi.trans (hcei.2.2 (by omega) (by omega));have hz:zfo a_ b_=1:=zgk hl0 (hJk.trans (hcek.1 (by omega) (by omega)));rw [hz];try rfl
  refine qU (za1 (Jq 2 [] [(4,vI 0)] [] h fun a w h=>qV (rT (.c (cI 0)) h rfl ?_)));have l0:=dF hc28;have l2:=dT hc33;have l3:=dF hc39;have l4:=dF hc41;have l5:=dF hc43;have leq:a_.locs.length=b_.locs.length:=by have:=hc32;simp at this;omega
  have hl0:=hJi.trans (hcei.2.2 (by omega) (by omega));have hz:zfo a_ b_=0:=zgk hl0 (hJk.trans (hcek.2.2 (by omega) (by omega)));rw [hz];try rfl
 have hc44':=dF hc44;refine Je 2 [(3,.len (za3 1 zb4 a_.bits)),(4,.cmp (op:=.lss) (m:=(k:Int)) (n:=(a_.bits.length:Int)) (b:=false) .i64 hc44)] [] [(68,vb false)] h fun a w h=>zau h (exA (qW (Je 2 [(2,.len (za3 1 zb4 a_.bits)),(5,.len (za3 1 zb4 b_.bits))] [6,68] [(93,vb (decide ((a_.bits.length:Int)<(b_.bits.length:Int))))] h fun a w h=>zad ((a_.bits.length:Int)<(b_.bits.length:Int)) h (fun hc45 hc45'=>?_) (fun hc46 hc46'=>?_))))
 ·refine Je 2 [] [93] [(4,vI (-1))] h fun a w h=>qV (za5 (rT (.c (cI (-1))) h rfl ?_));have l0:=dF hc28;have l2:=dF hc44;have l3:=dT hc45;have leq:a_.locs.length=b_.locs.length:=by have:=hc32;simp at this;omega
  have hl0:=hJi.trans (hcei.2.2 (by omega) (by omega));have hz:zfo a_ b_=-1:=zgk hl0 (hJk.trans (hcek.2.1 (by omega) (by omega)));rw [hz];try rfl
 refine qU (za1 (qW (Jq 2 [(2,.len (za3 1 zb4 a_.bits)),(5,.len (za3 1 zb4 b_.bits))] [(100,vb (decide ((a_.bits.length:Int)>(b_.bits.length:Int))))] [] h fun a w h=>zad ((a_.bits.length:Int)>(b_.bits.length:Int)) h (fun hc47 hc47'=>?_) (fun hc48 hc48'=>?_))))
 ·refine Jq 2 [] [(4,vI 1)] [] h fun a w h=>qV (za5 (rT (.c (cI 1)) h rfl ?_));have l0:=dF hc28;have l2:=dF hc44;have l3:=dF hc46;have l4:=dT hc47;have leq:a_.locs.length=b_.locs.length:=by have:=hc32;simp at this;omega
  have hl0:=hJi.trans (hcei.2.2 (by omega) (by omega));have hz:zfo a_ b_=1:=zgk hl0 (hJk.trans (hcek.1 (by omega) (by omega)));rw [hz];try rfl
 refine qU (za1 (Jq 2 [] [(4,vI 0)] [] h fun a w h=>qV (rT (.c (cI 0)) h rfl ?_)));have l0:=dF hc28;have l2:=dF hc44;have l3:=dF hc46;have l4:=dF hc48;have leq:a_.locs.length=b_.locs.length:=by have:=hc32;simp at this;omega
 have hl0:=hJi.trans (hcei.2.2 (by omega) (by omega));have hz:zfo a_ b_=0:=zgk hl0 (hJk.trans (hcek.2.2 (by omega) (by omega)));rw [hz];try rfl
def fam1tb:Tb:=[(24,⟨1,false,[],[.d (.sl 3 (([]:List za4).map za4.d))],1⟩),(4,⟨1,false,[],[.d (.raw (.bool false))],3⟩),(26,⟨1,false,[],[.d (nsl [])],1⟩),(28,⟨2,true,[(0,1,false),(1,1,false)],[.d (.raw (.bool false)),.d (nsl [])],0⟩),(30,⟨3,true,[(0,1,false),(1,2,true)],[.d (.sl 3 (([]:List za4).map za4.d)),.d (.raw (.bool false)),.d (nsl [])],0⟩),(32,⟨4,true,[(0,3,true),(3,1,false)],[.d (.sl 3 (([]:List za4).map za4.d)),.d (.raw (.bool false)),.d (nsl []),.d (.raw (.bool false))],0⟩),(3,⟨1,false,[],[.d (.raw (.int .i64 0))],13⟩),(124,⟨3,true,[(0,1,false),(1,2,true)],[.d (.raw (.int .i64 0)),.d (.raw (.bool false)),.d (nsl [])],0⟩),(22,⟨1,false,[],[.d (.sl 1 (([]:List ByteArray).map zer))],1⟩),(23,⟨1,false,[],[.d (.sl 5 (([]:List zak).map zak.d))],1⟩),(33,⟨1,false,[],[.d (.sl 6 (([]:List za0).map d7))],1⟩),(35,⟨6,true,[(0,1,false),(1,4,true),(5,1,false)],[.d (.raw (.int .i64 0)),.d (.sl 3 (([]:List za4).map za4.d)),.d (.raw (.bool false)),.d (nsl []),.d (.raw (.bool false)),.d (.sl 6 (([]:List za0).map d7))],0⟩),(36,⟨1,false,[],[.d (.sl 3 (([]:List zbj).map zbj.d))],1⟩),(37,⟨1,false,[],[.d (.sl 10 (([]:List zas).map eK))],1⟩),(39,⟨10,true,[(0,1,false),(1,1,false),(2,6,true),(8,1,false),(9,1,false)],[.d (.sl 1 (([]:List ByteArray).map zer)),.d (.sl 5 (([]:List zak).map zak.d)),.d (.raw (.int .i64 0)),.d (.sl 3 (([]:List za4).map za4.d)),.d (.raw (.bool false)),.d (nsl []),.d (.raw (.bool false)),.d (.sl 6 (([]:List za0).map d7)),.d (.sl 3 (([]:List zbj).map zbj.d)),.d (.sl 10 (([]:List zas).map eK))],0⟩),(41,⟨1,false,[],[.d (.sl 2 (([]:List zbz).map eM))],1⟩),(42,⟨1,false,[],[.d (.sl 1 (([]:List Int).map zal))],1⟩),(44,⟨2,true,[(0,1,false),(1,1,false)],[.d (.sl 2 (([]:List zbz).map eM)),.d (.sl 1 (([]:List Int).map zal))],0⟩),(67,⟨1,false,[],[.d (.sl 1 (([]:List Bool).map zb4))],1⟩),(69,⟨2,true,[(0,1,false),(1,1,false)],[.d (.sl 1 (([]:List Int).map zal)),.d (.sl 1 (([]:List Bool).map zb4))],0⟩),(40,⟨1,false,[],[.d (.sl 4 (([]:List za9).map eJ))],1⟩),(71,⟨1,false,[],[.d (.sl 5 (([]:List zai).map zai.d))],1⟩),(73,⟨10,true,[(0,1,false),(1,1,false),(2,1,false),(3,6,true),(9,1,false)],[.d (.raw (.int .i64 0)),.d (.raw (.int .i64 0)),.d (.raw (.int .i64 0)),.d (.raw (.int .i64 0)),.d (.sl 3 (([]:List za4).map za4.d)),.d (.raw (.bool false)),.d (nsl []),.d (.raw (.bool false)),.d (.sl 6 (([]:List za0).map d7)),.d (.sl 5 (([]:List zai).map zai.d))],0⟩),(75,⟨5,true,[(0,1,false),(1,1,false),(2,3,true)],[.d (.raw (.int .i64 0)),.d (.raw (.bool false)),.d (.sl 3 (([]:List za4).map za4.d)),.d (.raw (.bool false)),.d (nsl [])],0⟩),(59,⟨1,false,[],[.d (.raw zam)],1⟩),(61,⟨2,true,[(0,1,false),(1,1,false)],[.d (.raw zam),.d (.raw zam)],0⟩),(98,⟨2,true,[(0,1,false),(1,1,false)],[.d (.raw zam),.d (.raw zam)],0⟩),(45,⟨1,false,[],[.d (.raw zam)],1⟩),(47,⟨3,true,[(0,1,false),(1,1,false),(2,1,false)],[.d (.raw zam),.d (.raw zam),.d (.raw zam)],0⟩),(9,⟨1,false,[],[.d (.raw (.string ByteArray.empty))],2⟩),(100,⟨1,false,[],[.d (.sl 10 [])],1⟩),(102,⟨3,true,[(0,1,false),(1,1,false),(2,1,false)],[.d (.raw (.string ByteArray.empty)),.d (.sl 1 (([]:List ByteArray).map zer)),.d (.sl 10 [])],0⟩)]
theorem zaj:zli dX fam1tb:=tbB_spec (by kernel_rfl)
theorem ne3_14:ElZ dX 59 98 2:=ElZ.mk' Tryz.underlying59 _ _ rfl rfl
theorem ne3_15:ElT dX 59 98 2 48:=ElT.mk' Tryz.underlying59 _ _ rfl rfl
theorem ne3_16:Sz dX 61 2 true:=Sz.mk' (by kernel_rfl) Tryz.underlying61 _ rfl
def sm24 (s:zan) (ps:List za9) (p:zdu):Bool:=(zc9 1 s && (decide (s.acts.length<=6) && (zhj ps 30 1 && (decide (p.states.length<=5) && (decide (p.acts.length<=6) && p.states.all (fun x:zbz=>decide (x.locs.length<=8) && decide (x.bits.length<=30)))))))
def fsA (s:zan) (ps:List za9) (j:Nat):List za0:=[s.init]++(ps.take j).map atE
def fsG (c:zas) (i:Nat):List za0:=c.guard :: (c.moves.take i).map fun m=>atE ⟨m.t,false⟩
def fsB (s:zan) (ps:List za9) (j:Nat):List za0:=fsA s ps ps.length++(s.acts.take j).flatMap fun c=>fsG c c.moves.length
def fsL (s:zan) (ps:List za9):List za0:=fsA s ps ps.length++s.acts.flatMap fun c=>fsG c c.moves.length
def pr24 (s:zan) (ps:List za9):Bool:=(fsL s ps).all (inB s)
theorem fsA_at {r:za9} (h:ps[j]?=some r):fsA s ps j++[atE r]=fsA s ps (j+1):=by
 unfold fsA;rw [cR,zej h]
theorem fsB_at {c:zas} (h:s.acts[j]?=some c):fsB s ps j++fsG c c.moves.length=fsB s ps (j+1):=by
 unfold fsB;rw [cR,dM,h,List.flatMap_append];simp
theorem fsG_at {c:zas} {i:Nat} {m:zai} (h:c.moves[i]?=some m):fsG c i++[atE ⟨m.t,false⟩]=fsG c (i+1):=by
 unfold fsG;rw [c7,zej (f:=fun m:zai=>atE ⟨m.t,false⟩) h]
theorem fsA_len (s:zan) (ps:List za9) (j:Nat):(fsA s ps j).length<=1+ps.length:=by unfold fsA;rw [bL,bC,cO];simp;omega
theorem fsG_len (c:zas) (i:Nat):(fsG c i).length<=1+c.moves.length:=by unfold fsG;rw [bP,bC,cO];omega
theorem fsB_len (hs:zbh 3 s) (ps:List za9) (j:Nat):(fsB s ps j).length<=1+ps.length+420:=by
 unfold fsB
 rw [bL]
 have h1:=fsA_len s ps ps.length
 have h2:((s.acts.take j).flatMap fun c=>fsG c c.moves.length).length<=(s.acts.take j).length*21:=by
  rw [List.length_flatMap]
  exact sum_c fun c hc=>by have:=fsG_len c c.moves.length;have:=(hs.act c (dV hc)).len;omega
 have h3:=hs.acts
 rw [cO] at h2
 omega
theorem atE_ok {L:Nat} {r:za9} (h:TOk n L r.t):(atE r).okB n L/\(atE r).wid<=100:=⟨zi2 h,by rw [za0.wid_eq];show 3+(List.map za0.wid (cnt (2:Int) [])).sum<=100;decide⟩
theorem fsL_ok (hs:zbh 3 s) (hw:zlj s) (hps:zih ps):∀ f ∈ fsL s ps,f.okB 20 10/\f.wid<=100:=fun f hf=>by
 unfold fsL fsA fsG at hf
 rcases b9.1 hf with hf | hf
 ·rcases b9.1 hf with hf | hf
  ·rw [bE.1 hf];exact ⟨eH (by decide) (by decide) _ (form_okB hs.init (bU hw.1 (by decide))),hw.1⟩
  ·rw [cJ (bI _)] at hf
   obtain ⟨r,hr,rfl⟩:=bF.1 hf
   exact atE_ok (hps.2 r hr)
 ·obtain ⟨c,hc,hf⟩:=c8.1 hf
  rcases bS.1 hf with rfl | hf
  ·have h:=hw.2 c hc;exact ⟨eH (by decide) (by decide) _ (form_okB (hs.act c hc).guard (bU h (by decide))),h⟩
  ·rw [cJ (bI _)] at hf
   obtain ⟨m,hm,rfl⟩:=bF.1 hf
   exact atE_ok (((hs.act c hc).mv m hm).mono (by decide) (by decide))
theorem zic (n:Int) (hn:-1000<=n/\n<=1000):Fn dX 28 [] [vI n] (vG [cPs (zaq n).t.parts,cB (zaq n).t.k.neg,.d (nsl (zaq n).t.k.abs),cB (zaq n).eq]) []:=by
 refine fB Tryz.func28 rfl 11 fun w H B a h=>Jq (htb:=zaj) 0 [] [(0,vI n),(2,vp 0 0)] [(0,.box [cPs ([]:List za4),cB false,.d (nsl []),cB false])] h fun a w h=>Jd (htb:=zaj) 1 [(0,.call (SROf 1 ⟨by omega,by omega⟩)),(2,.g (bD 5 ([(za4.mk 0 (d5 1))].map za4.d) [(4,vG [cI 0,cB (d5 1).neg,.d (nsl (d5 1).abs)])] tb_9 (.cons (i:=0) (d4 4 _) (.nil)) (by kernel_rfl) (by simp [za4.d]))),(4,.sub .i64 (m:=0) (n:=n) i6),(5,.call (SROf (0 - n) ⟨by omega,by omega⟩))] [0] [] [(0,.box [cPs [(za4.mk 0 (d5 1))],cB (d5 (0 - n)).neg,.d (nsl (d5 (0 - n)).abs),cB false])] h fun a w h=>qV (rA 0 [cPs [(za4.mk 0 (d5 1))],cB (d5 (0 - n)).neg,.d (nsl (d5 (0 - n)).abs),cB false] h la_1 rfl ?_)
 rfl
theorem zk1 (s:zan) (ps:List za9) (p:zdu) (hr:SysRd s) (hpl:ps.length<=9223372036854775807) (hsl:p.states.length<=9223372036854775807) (hal:p.acts.length<=9223372036854775807) (hxl:∀ x ∈ p.states,x.locs.length<=9223372036854775807/\x.bits.length<=9223372036854775807):Fn dX 8 [] [vG [.d (.sl 1 (s.vars.map zer)),.d (.sl 5 (s.bounds.map zak.d)),cI s.init.kind,cPs s.init.r.t.parts,cB s.init.r.t.k.neg,.d (nsl s.init.r.t.k.abs),cB s.init.r.eq,cFs s.init.kids,.d (.sl 3 (s.procs.map zbj.d)),.d (.sl 10 (s.acts.map eK))],(vRs ps),vG [.d (.sl 2 (p.states.map eM)),cIs p.acts]] (vb (sm24 s ps p)) []:=by
 have lac9:=hr.len;refine fB Tryz.func8 rfl 53 fun w H B a h=>Jq (htb:=zaj) 0 [] [(1,(vRs ps)),(3,vp 0 0),(5,vp 1 0),(6,vb false)] [(0,.box [.d (.sl 1 (s.vars.map zer)),.d (.sl 5 (s.bounds.map zak.d)),cI s.init.kind,cPs s.init.r.t.parts,cB s.init.r.t.k.neg,.d (nsl s.init.r.t.k.abs),cB s.init.r.eq,cFs s.init.kids,.d (.sl 3 (s.procs.map zbj.d)),.d (.sl 10 (s.acts.map eK))]),(1,.box [.d (.sl 2 (p.states.map eM)),cIs p.acts])] h fun a w h=>qW ?_
 rcases bX (zc9 1 s) with hc1 | hc16
 ·rcases bX (decide ((s.acts.length:Int)>6)) with hc2 | hc3
  ·have hc2':=dT hc2;refine Jg (htb:=zaj) 2 [(1,.call (dY (SFewSys s 1 hr) (yJ vb hc1))),(6,.len (za3 10 eK s.acts)),(7,.cmp (op:=.gtr) (m:=(s.acts.length:Int)) (n:=6) (b:=true) .i64 hc2)] [1,3] [(34,vb true)] [0] [] h fun a w h=>cS true h (fun _=>?_) nofun
   refine Je (htb:=zaj) 2 [] [34] [] h fun a w h=>qV (za5 (rT (.c (cB false)) h rfl ?_));have hz:sm24 s ps p=(false):=by unfold sm24;rw [hc1,yX (p:=s.acts.length<=6) (by have:=dT hc2;omega)];simp
   rw [hz];try rfl
  have hc3':=dF hc3
  rcases bX (zhj ps 30 1) with hc4 | hc15
  ·rcases bX (decide ((p.states.length:Int)>5)) with hc5 | hc6
   ·have hc5':=dT hc5;refine Jg (htb:=zaj) 2 [(1,.call (dY (SFewSys s 1 hr) (yJ vb hc1))),(6,.len (za3 10 eK s.acts)),(7,.cmp (op:=.gtr) (m:=(s.acts.length:Int)) (n:=6) (b:=false) .i64 hc3),(11,.call (dY (LFewRs ps 30 1 hpl) (yJ vb hc4))),(17,.len (za3 2 eM p.states)),(18,.cmp (op:=.gtr) (m:=(p.states.length:Int)) (n:=5) (b:=true) .i64 hc5)] [1,3] [(34,vb true)] [0] [] h fun a w h=>cS true h (fun _=>?_) nofun
    refine Je (htb:=zaj) 2 [] [34] [] h fun a w h=>qV (za5 (rT (.c (cB false)) h rfl ?_));have hz:sm24 s ps p=(false):=by unfold sm24;rw [hc1,yQ (p:=s.acts.length<=6) (by have:=dF hc3;omega),hc4,yX (p:=p.states.length<=5) (by have:=dT hc5;omega)];simp
    rw [hz];try rfl
   have hc6':=dF hc6;refine Jg (htb:=zaj) 2 [(1,.call (dY (SFewSys s 1 hr) (yJ vb hc1))),(6,.len (za3 10 eK s.acts)),(7,.cmp (op:=.gtr) (m:=(s.acts.length:Int)) (n:=6) (b:=false) .i64 hc3),(11,.call (dY (LFewRs ps 30 1 hpl) (yJ vb hc4))),(17,.len (za3 2 eM p.states)),(18,.cmp (op:=.gtr) (m:=(p.states.length:Int)) (n:=5) (b:=false) .i64 hc6),(23,.len (za3 1 zal p.acts))] [1,3] [(34,vb (decide ((p.acts.length:Int)>6)))] [0] [] h fun a w h=>zad ((p.acts.length:Int)>6) h (fun hc7 hc7'=>?_) (fun hc8 hc8'=>?_)
   ·refine Je (htb:=zaj) 2 [] [34] [] h fun a w h=>qV (za5 (rT (.c (cB false)) h rfl ?_));have hz:sm24 s ps p=(false):=by unfold sm24;rw [hc1,yQ (p:=s.acts.length<=6) (by have:=dF hc3;omega),hc4,yQ (p:=p.states.length<=5) (by have:=dF hc6;omega),yX (p:=p.acts.length<=6) (by have:=dT hc7;omega)];simp
    rw [hz];try rfl
   refine qU (za1 (qW (Jd (htb:=zaj) 2 [(2,.len (za3 2 eM p.states))] [5,34] [(36,vS 2 (p.states.map eM)),(37,vN p.states.length),(38,vI 0)] [] h fun a w h=>qZ ?_)))
   refine zbw (ι:=(Nat)) (fun j=>j<=p.states.length/\(p.states.take j).all (fun x:zbz=>decide (x.locs.length<=8) && decide (x.bits.length<=30))=true)
     [6] (fun j=>[(38,vN j)])
     [] (fun j=>[])
     (fun j=>p.states.length - j) 0 ?_ h ?_
   ·exact ⟨bJ _,rfl⟩
   clear h;rintro j a w hI h;obtain ⟨hI1,hI2⟩:=hI;refine Jg (htb:=zaj) 2 [] [] [(39,vb (decide ((j:Int)<(p.states.length:Int))))] [] [] h fun a w h=>qW (zad ((j:Int)<(p.states.length:Int)) h (fun hc9 hc9'=>?_) (fun hc14 hc14'=>?_))
   ·refine qU (za1 (qW (qZ ?_)));obtain ⟨x12,hx12⟩:=gl p.states j;obtain ⟨lx1,lx2⟩:=hxl x12 (lM hx12);refine Jg (htb:=zaj) 2 [(0,.g (xD 40 36 ln14_4 (za7 hx12 (f:=eM)) (d4 38 _)))] [39] [(8,vp 2 0)] [] [(2,.box [cIs x12.locs,.d (.sl 1 (x12.bits.map zb4))])] h fun a w h=>?_
    rcases bX (decide ((x12.locs.length:Int)>8)) with hc10 | hc11
    ·have hc10':=dT hc10;refine Jg (htb:=zaj) 3 [(2,.len (za3 1 zal x12.locs)),(3,.cmp (op:=.gtr) (m:=(x12.locs.length:Int)) (n:=8) (b:=true) .i64 hc10)] [8] [(51,vb true)] [2] [] h fun a w h=>cS true h (fun _=>?_) nofun
     refine Jg (htb:=zaj) 3 [] [51] [(6,vb false)] [] [] h fun a w h=>qV (za8 (za5 (za5 (za8 (za5 (rT (.c (cB false)) h rfl ?_))))));have hz:sm24 s ps p=(false):=by unfold sm24;rw [hc1,yQ (p:=s.acts.length<=6) (by have:=dF hc3;omega),hc4,yQ (p:=p.states.length<=5) (by have:=dF hc6;omega),yQ (p:=p.acts.length<=6) (by have:=dF hc8;omega)];rw [zca (q:=(fun x:zbz=>decide (x.locs.length<=8) && decide (x.bits.length<=30))) hx12 (by rw [yX (by have:=dT hc10;omega)];rfl)];rfl
     rw [hz];try rfl
    have hc11':=dF hc11;refine Jg (htb:=zaj) 3 [(2,.len (za3 1 zal x12.locs)),(3,.cmp (op:=.gtr) (m:=(x12.locs.length:Int)) (n:=8) (b:=false) .i64 hc11),(7,.len (za3 1 zb4 x12.bits))] [8] [(51,vb (decide ((x12.bits.length:Int)>30)))] [2] [] h fun a w h=>zad ((x12.bits.length:Int)>30) h (fun hc12 hc12'=>?_) (fun hc13 hc13'=>?_)
    ·refine Jg (htb:=zaj) 3 [] [51] [(6,vb false)] [] [] h fun a w h=>qV (za8 (za5 (za5 (za8 (za5 (rT (.c (cB false)) h rfl ?_))))));have hz:sm24 s ps p=(false):=by unfold sm24;rw [hc1,yQ (p:=s.acts.length<=6) (by have:=dF hc3;omega),hc4,yQ (p:=p.states.length<=5) (by have:=dF hc6;omega),yQ (p:=p.acts.length<=6) (by have:=dF hc8;omega)];rw [zca (q:=(fun x:zbz=>decide (x.locs.length<=8) && decide (x.bits.length<=30))) hx12 (by rw [yX (p:=x12.bits.length<=30) (by have:=dT hc12;omega),Bool.and_false])];rfl
     rw [hz];try rfl
    refine qU (za6 (za1 (Jh (htb:=zaj) 3 [(0,.j1 j)] [51] [(38,vI ((j:Int)+1))] [] [] h fun a w h=>za1 (zaa (x:=j) (y:=j+1) h ?_ ?_))))
    ·exact ⟨by have:=zab hx12;omega,zdj hx12 hI2 (by rw [yQ (by have:=dF hc11;omega),yQ (by have:=dF hc13;omega)];rfl)⟩
    show p.states.length - (j+1)<p.states.length - j;have:=zab hx12;omega
   refine exA (Jq (htb:=zaj) 3 [] [(6,vb true)] [] h fun a w h=>qV (rT (.c (cB true)) h rfl ?_));have hz:sm24 s ps p=(true):=by unfold sm24;rw [hc1,yQ (p:=s.acts.length<=6) (by have:=dF hc3;omega),hc4,yQ (p:=p.states.length<=5) (by have:=dF hc6;omega),yQ (p:=p.acts.length<=6) (by have:=dF hc8;omega)];rw [ze2 (q:=(fun x:zbz=>decide (x.locs.length<=8) && decide (x.bits.length<=30))) (dF hc14) hI2];rfl
   rw [hz];try rfl
  refine Jg (htb:=zaj) 3 [(1,.call (dY (SFewSys s 1 hr) (yJ vb hc1))),(6,.len (za3 10 eK s.acts)),(7,.cmp (op:=.gtr) (m:=(s.acts.length:Int)) (n:=6) (b:=false) .i64 hc3),(11,.call (dY (LFewRs ps 30 1 hpl) (yJ vb hc15)))] [1,3] [(34,vb true)] [0] [] h fun a w h=>cS true h (fun _=>?_) nofun
  refine Je (htb:=zaj) 3 [] [34] [] h fun a w h=>qV (za5 (rT (.c (cB false)) h rfl ?_));have hz:sm24 s ps p=(false):=by unfold sm24;rw [hc1,yQ (p:=s.acts.length<=6) (by have:=dF hc3;omega),hc15];simp
  rw [hz];try rfl
 refine Jg (htb:=zaj) 3 [(1,.call (dY (SFewSys s 1 hr) (yJ vb hc16)))] [1,3] [(34,vb true)] [0] [] h fun a w h=>cS true h (fun _=>?_) nofun
 refine Je (htb:=zaj) 3 [] [34] [] h fun a w h=>qV (za5 (rT (.c (cB false)) h rfl ?_));have hz:sm24 s ps p=(false):=by unfold sm24;rw [hc16];simp
 rw [hz];try rfl
theorem zk2 (s:zan) (ps:List za9) (hs:zbh 3 s) (hw:zlj s) (hps:zih ps):Fn dX 9 [] [vG [.d (.sl 1 (s.vars.map zer)),.d (.sl 5 (s.bounds.map zak.d)),cI s.init.kind,cPs s.init.r.t.parts,cB s.init.r.t.k.neg,.d (nsl s.init.r.t.k.abs),cB s.init.r.eq,cFs s.init.kids,.d (.sl 3 (s.procs.map zbj.d)),.d (.sl 10 (s.acts.map eK))],(vRs ps)] (vb (pr24 s ps)) []:=by
 have las:=hs.acts;have lps:=hps.1;have lfl:=fsB_len hs ps s.acts.length;rw [show fsB s ps s.acts.length=fsL s ps by unfold fsB;rw [List.take_length];rfl] at lfl;refine fB Tryz.func9 rfl 82 fun w H B a h=>Jq (htb:=zaj) 5 [] [(1,(vRs ps)),(2,vp 5 0),(4,vb false)] [(5,.box [.d (.sl 1 (s.vars.map zer)),.d (.sl 5 (s.bounds.map zak.d)),cI s.init.kind,cPs s.init.r.t.parts,cB s.init.r.t.k.neg,.d (nsl s.init.r.t.k.abs),cB s.init.r.eq,cFs s.init.kids,.d (.sl 3 (s.procs.map zbj.d)),.d (.sl 10 (s.acts.map eK))])] h fun a w h=>Jg (htb:=zaj) 6 [(2,.g (Op.buildO (d:=17) (n:=6) (len:=1) (rows:=[s.init].map d7) (rs:=[(16,vG [cI s.init.kind,cPs s.init.r.t.parts,cB s.init.r.t.k.neg,.d (nsl s.init.r.t.k.abs),cB s.init.r.eq,cFs s.init.kids])]) kb_1 (.cons (i:=0) (d4 16 _) (.nil)) (by simp only [bK,bW,cG,cH,cD,d8]; try kernel_rfl) rfl (by simp [d9]) (by decide) (by decide)))] [] [(5,vO 6 1)] [] [(6,.row 35 6 ([s.init].map d7))] h fun a w h=>qW (Je (htb:=zaj) 7 [(1,.len (za3 4 eJ ps))] [1] [(18,(vRs ps)),(19,vN ps.length),(20,vI 0)] h fun a w h=>qZ ?_)
 replace h:=cvM [] [] [] [(6,.row 35 6 ((fsA s ps 0).map d7))] (by rw [<- show ([s.init]:List za0)=(fsA s ps 0) from (by unfold fsA;rfl)]; try kernel_rfl) h
 refine zbw (ι:=(Nat)) (fun k=>k<=ps.length)
   [] (fun k=>[(5,vO 6 (fsA s ps k).length),(20,vN k)])
   [] (fun k=>[(6,.row 35 6 ((fsA s ps k).map d7))])
   (fun k=>ps.length - k) 0 ?_ h ?_
 ·exact bJ _
 clear h;rintro k a w hI h;have lfa:=fsA_len s ps k;refine Je (htb:=zaj) 7 [] [] [(21,vb (decide ((k:Int)<(ps.length:Int))))] h fun a w h=>qW (zad ((k:Int)<(ps.length:Int)) h (fun hc1 hc1'=>?_) (fun hc2 hc2'=>?_))
 ·refine qU (za1 (qW (qZ ?_)));obtain ⟨x1,hx1⟩:=gl ps k;refine Jg (htb:=zaj) 7 [(0,.g (xD 22 18 kc_3 (za7 hx1 (f:=eJ)) (d4 20 _)))] [21] [(7,vp 7 0)] [] [(7,.box [cPs x1.t.parts,cB x1.t.k.neg,.d (nsl x1.t.k.abs),cB x1.eq])] h fun a w h=>Jh (htb:=zaj) 8 [(3,.g (bD 27 ([(za0.mk 2 x1 ([]:List za0))].map d7) [(26,vG [cI 2,cPs x1.t.parts,cB x1.t.k.neg,.d (nsl x1.t.k.abs),cB x1.eq,cFs ([]:List za0)])] kb_1 (.cons (i:=0) (d4 26 _) (.nil)) (by simp only [bK,bW,cG,cH,cD,d8]; try kernel_rfl) (by simp [d9]))),(4,.g (Op.appOD (d:=28) (t:=24) (u:=27) (n:=6) (n':=8) (len:=(fsA s ps k).length) (len':=((fsA s ps k)++[(za0.mk 2 x1 ([]:List za0))]).length) (rows:=(fsA s ps k).map d7) (rows2:=[(za0.mk 2 x1 ([]:List za0))].map d7) (rows':=((fsA s ps k)++[(za0.mk 2 x1 ([]:List za0))]).map d7) la_7 (by first | exact (bC _).symm | simp) (by first | (rw [bL,bC];done) | (simp;done) | (simp;omega)) (by simp) (by simp [d9]) (by first | omega | (simp at *;done) | (simp at *;omega))))] [7] [(5,vO 8 ((fsA s ps k)++[(za0.mk 2 x1 ([]:List za0))]).length)] [6,7] [(8,.row 35 6 (((fsA s ps k)++[(za0.mk 2 x1 ([]:List za0))]).map d7))] h fun a w h=>za6 (za1 (Jf (htb:=zaj) 9 [(0,.add .i64 (m:=(k:Int)) (n:=1) i6)] [] [(20,vI ((k:Int)+1))] h fun a w h=>za1 ?_));rw [show (((fsA s ps k)++[(za0.mk 2 x1 ([]:List za0))]):List za0)=(fsA s ps (k+1)) from (fsA_at hx1)] at h;replace h:=zd7 8 6 h;refine zaa (x:=k) (y:=k+1) h ?_ ?_
  ·have:=zab hx1;show k+1<=ps.length;omega
  show ps.length - (k+1)<ps.length - k;have:=zab hx1;omega
 refine exA (qW (Je (htb:=zaj) 9 [(2,.len (za3 10 eK s.acts))] [18,19,20,21] [(31,vS 10 (s.acts.map eK)),(32,vN s.acts.length),(33,vI 0)] h fun a w h=>qZ ?_));replace h:=cvM [] [(5,vO 6 (fsB s ps 0).length)] [] [(6,.row 35 6 ((fsB s ps 0).map d7))] (by rw [<- show ((fsA s ps k):List za0)=(fsB s ps 0) from (by rw [show k=ps.length by have:=dF hc2;omega];unfold fsB;rw [List.take_zero,List.flatMap_nil,cD])]; try kernel_rfl) h
 refine zbw (ι:=(Nat)) (fun j=>j<=s.acts.length)
   [] (fun j=>[(5,vO 6 (fsB s ps j).length),(33,vN j)])
   [] (fun j=>[(6,.row 35 6 ((fsB s ps j).map d7))])
   (fun j=>s.acts.length - j) 0 ?_ h ?_
 ·exact bJ _
 clear h;rintro j a w hI h;have lfb:=fsB_len hs ps j;refine Je (htb:=zaj) 9 [] [] [(34,vb (decide ((j:Int)<(s.acts.length:Int))))] h fun a w h=>qW (zad ((j:Int)<(s.acts.length:Int)) h (fun hc3 hc3'=>?_) (fun hc6 hc6'=>?_))
 ·refine qU (za1 (qW (qZ ?_)));obtain ⟨x2,hx2⟩:=gl s.acts j;have hcx2:=hs.act x2 (lM hx2);have lmx2:=hcx2.len;refine Jg (htb:=zaj) 9 [(0,.g (xD 35 31 ki_1 (za7 hx2 (f:=eK)) (d4 33 _)))] [34] [(9,vp 9 0)] [] [(9,.box [cI x2.proc,cI x2.from_,cI x2.to_,cI x2.guard.kind,cPs x2.guard.r.t.parts,cB x2.guard.r.t.k.neg,.d (nsl x2.guard.r.t.k.abs),cB x2.guard.r.eq,cFs x2.guard.kids,.d (.sl 5 (x2.moves.map zai.d))])] h fun a w h=>Jg (htb:=zaj) 10 [(3,.g (bD 40 ([x2.guard].map d7) [(39,vG [cI x2.guard.kind,cPs x2.guard.r.t.parts,cB x2.guard.r.t.k.neg,.d (nsl x2.guard.r.t.k.abs),cB x2.guard.r.eq,cFs x2.guard.kids])] kb_1 (.cons (i:=0) (d4 39 _) (.nil)) (by simp only [bK,bW,cG,cH,cD,d8]; try kernel_rfl) (by simp [d9]))),(4,.g (Op.appOD (d:=41) (t:=37) (u:=40) (n:=6) (n':=10) (len:=(fsB s ps j).length) (len':=((fsB s ps j)++[x2.guard]).length) (rows:=(fsB s ps j).map d7) (rows2:=[x2.guard].map d7) (rows':=((fsB s ps j)++[x2.guard]).map d7) la_7 (by first | exact (bC _).symm | simp) (by first | (rw [bL,bC];done) | (simp;done) | (simp;omega)) (by simp) (by simp [d9]) (by first | omega | (simp at *;done) | (simp at *;omega))))] [] [(5,vO 10 ((fsB s ps j)++[x2.guard]).length)] [6] [(10,.row 35 6 (((fsB s ps j)++[x2.guard]).map d7))] h fun a w h=>Jg (htb:=zaj) 11 [(2,.len (za3 5 zai.d x2.moves))] [9] [(43,vS 5 (x2.moves.map zai.d)),(44,vN x2.moves.length),(45,vI 0)] [9] [] h fun a w h=>qZ ?_
  refine zbw (ι:=(Nat)) (fun i=>i<=x2.moves.length)
    [] (fun i=>[(5,vO 10 (fsB s ps j++fsG x2 i).length),(45,vN i)])
    [] (fun i=>[(10,.row 35 6 ((fsB s ps j++fsG x2 i).map d7))])
    (fun i=>x2.moves.length - i) 0 ?_ h ?_
  ·exact bJ _
  clear h;rintro i a w hI h;have lfb:=fsB_len hs ps j;have lfg:=fsG_len x2 i;have lfc:(fsB s ps j++fsG x2 i).length=(fsB s ps j).length+(fsG x2 i).length:=bL ..;refine Je (htb:=zaj) 11 [] [] [(46,vb (decide ((i:Int)<(x2.moves.length:Int))))] h fun a w h=>qW (zad ((i:Int)<(x2.moves.length:Int)) h (fun hc4 hc4'=>?_) (fun hc5 hc5'=>?_))
  ·refine qU (za1 (qW (qZ ?_)));obtain ⟨x3,hx3⟩:=gl x2.moves i;refine Jg (htb:=zaj) 11 [(0,.g (xD 47 43 ki_2 (za7 hx3 (f:=zai.d)) (d4 45 _)))] [46] [(11,vp 11 0)] [] [(11,.box [cI x3.v,cB x3.any,cPs x3.t.parts,cB x3.t.k.neg,.d (nsl x3.t.k.abs)])] h fun a w h=>Jh (htb:=zaj) 12 [(5,.g (bD 54 ([(za0.mk 2 (za9.mk x3.t false) ([]:List za0))].map d7) [(53,vG [cI 2,cPs x3.t.parts,cB x3.t.k.neg,.d (nsl x3.t.k.abs),cB false,cFs ([]:List za0)])] kb_1 (.cons (i:=0) (d4 53 _) (.nil)) (by simp only [bK,bW,cG,cH,cD,d8]; try kernel_rfl) (by simp [d9]))),(6,.g (Op.appOD (d:=55) (t:=49) (u:=54) (n:=10) (n':=12) (len:=(fsB s ps j++fsG x2 i).length) (len':=((fsB s ps j++fsG x2 i)++[(za0.mk 2 (za9.mk x3.t false) ([]:List za0))]).length) (rows:=(fsB s ps j++fsG x2 i).map d7) (rows2:=[(za0.mk 2 (za9.mk x3.t false) ([]:List za0))].map d7) (rows':=((fsB s ps j++fsG x2 i)++[(za0.mk 2 (za9.mk x3.t false) ([]:List za0))]).map d7) la_7 (by first | exact (bC _).symm | simp) (by first | (rw [bL,bC];done) | (simp;done) | (simp;omega)) (by simp) (by simp [d9]) (by first | omega | (simp at *;done) | (simp at *;omega))))] [11] [(5,vO 12 ((fsB s ps j++fsG x2 i)++[(za0.mk 2 (za9.mk x3.t false) ([]:List za0))]).length)] [10,11] [(12,.row 35 6 (((fsB s ps j++fsG x2 i)++[(za0.mk 2 (za9.mk x3.t false) ([]:List za0))]).map d7))] h fun a w h=>za6 (za1 (Jf (htb:=zaj) 13 [(0,.j1 i)] [] [(45,vI ((i:Int)+1))] h fun a w h=>za1 ?_));rw [show (((fsB s ps j++fsG x2 i)++[(za0.mk 2 (za9.mk x3.t false) ([]:List za0))]):List za0)=(fsB s ps j++fsG x2 (i+1)) from (by rw [cR];exact yJ (fsB s ps j++·) (fsG_at hx3))] at h;replace h:=zd7 12 10 h;refine zaa (x:=i) (y:=i+1) h ?_ ?_
   ·have:=zab hx3;show i+1<=x2.moves.length;omega
   show x2.moves.length - (i+1)<x2.moves.length - i;have:=zab hx3;omega
  refine wp_exit (zcb (zcb (zaz (za6 (za1 (Jf (htb:=zaj) 13 [(0,.j1 j)] [43,44,45,46] [(33,vI ((j:Int)+1))] h fun a w h=>za1 ?_))))));rw [show ((fsB s ps j++fsG x2 i):List za0)=(fsB s ps (j+1)) from (by rw [show i=x2.moves.length by have:=dF hc5;omega];exact fsB_at hx2)] at h;replace h:=zd7 10 6 h;refine zaa (x:=j) (y:=j+1) h ?_ ?_
  ·have:=zab hx2;show j+1<=s.acts.length;omega
  show s.acts.length - (j+1)<s.acts.length - j;have:=zab hx2;omega
 refine exA (qW ?_);replace h:=cvM [] [(5,vO 6 (fsL s ps).length)] [] [(6,.row 35 6 ((fsL s ps).map d7))] (by rw [<- show ((fsB s ps j):List za0)=(fsL s ps) from (by unfold fsB fsL;rw [cJ (show s.acts.length<=j by have:=dF hc6;omega)])]; try kernel_rfl) h;replace h:=zj2 6 6 35 ((fsL s ps).map d7) h [(fsL s ps).length] ⟨by first | exact (bC _).symm | (simp;done) | (simp;omega),trivial⟩;refine Je (htb:=zaj) 13 [(1,.len (za3 6 d7 (fsL s ps)))] [5,31,32,33,34] [(58,(vFs (fsL s ps))),(59,vI ((fsL s ps).length:Int)),(60,vI 0)] h fun a w h=>qZ ?_
 refine zbw (ι:=(Nat)) (fun l=>l<=(fsL s ps).length/\((fsL s ps).take l).all (inB s)=true)
   [4] (fun l=>[(60,vN l)])
   [] (fun l=>[])
   (fun l=>(fsL s ps).length - l) 0 ?_ h ?_
 ·exact ⟨bJ _,rfl⟩
 clear h;rintro l a w hI h;obtain ⟨hI1,hI2⟩:=hI;refine Je (htb:=zaj) 13 [] [] [(61,vb (decide ((l:Int)<((fsL s ps).length:Int))))] h fun a w h=>qW (zad ((l:Int)<((fsL s ps).length:Int)) h (fun hc7 hc7'=>?_) (fun hc12 hc12'=>?_))
 ·refine qU (za1 (qW (qZ ?_)));obtain ⟨x4,hx4⟩:=gl (fsL s ps) l;have hfx4:=fsL_ok hs hw hps x4 (lM hx4);have lvx4:=vars_len x4 (eH (by decide) (by decide) _ hfx4.1);refine Jg (htb:=zaj) 13 [(0,.g (xD 62 58 zie ((za7 hx4 (f:=d7)).trans (yJ some (d8 x4))) (d4 60 _)))] [61] [(13,vp 13 0)] [] [(13,.box [cI x4.kind,cPs x4.r.t.parts,cB x4.r.t.k.neg,.d (nsl x4.r.t.k.abs),cB x4.r.eq,cFs x4.kids])] h fun a w h=>Jg (htb:=zaj) 14 [(1,.call (LR5Vars x4 (eH (by decide) (by decide) _ hfx4.1) (by have:=hfx4.2;omega)))] [13] [(14,(vIs (eI x4)))] [13] [] h fun a w h=>?_
  rcases bX (decide (((eI x4).length:Int)>0)) with hc8 | hc11
  ·have hc8':=dT hc8;obtain ⟨jl,hjl⟩:∃ j_:Nat,j_+1=(eI x4).length:=⟨(eI x4).length - 1,by have:=dT hc8;omega⟩;obtain ⟨x6,hx6⟩:=gl (eI x4) jl;refine Je (htb:=zaj) 14 [(1,.len (za3 1 zal (eI x4))),(2,.cmp (op:=.gtr) (m:=((eI x4).length:Int)) (n:=0) (b:=true) .i64 hc8),(6,.len (za3 1 zal (eI x4))),(7,.g (Op.arith (op:=.sub) (d:=73) (xt:=3) (yt:=3) (k:=.i64) (m:=((eI x4).length:Int)) (n:=1) (r:=(jl:Int)) (d4 72 _) (dZ (.int .i64 1) rfl) (.inr (.inl ⟨rfl,(by omega)⟩)) i6)),(8,.g (xD 74 70 zh0 (za7 hx6 (f:=zal)) (d4 73 _))),(12,.len (za3 1 zer s.vars))] [14] [(80,vb (decide (x6>=(s.vars.length:Int))))] h fun a w h=>zad (x6>=(s.vars.length:Int)) h (fun hc9 hc9'=>?_) (fun hc10 hc10'=>?_)
   ·refine Je (htb:=zaj) 14 [] [80] [(4,vb false)] h fun a w h=>qV (za8 (za5 (za5 (za8 (za5 (rT (.c (cB false)) h rfl ?_))))));have hz:pr24 s ps=false:=by unfold pr24;exact zca hx4 (show inB s x4=false from by unfold inB;rw [last_at hx6 hjl];exact yX (by have:=dT hc9;omega))
    rw [hz];try rfl
   refine qU (za6 (za1 (Jf (htb:=zaj) 14 [(0,.add .i64 (m:=(l:Int)) (n:=1) i6)] [80] [(60,vI ((l:Int)+1))] h fun a w h=>za1 (zaa (x:=l) (y:=l+1) h ?_ ?_))))
   ·exact ⟨by have:=zab hx4;omega,zdj hx4 hI2 (show inB s x4=true from by unfold inB;rw [last_at hx6 hjl];exact yQ (by have:=dF hc10;omega))⟩
   show (fsL s ps).length - (l+1)<(fsL s ps).length - l;have:=zab hx4;omega
  have hc11':=dF hc11;refine Je (htb:=zaj) 14 [(1,.len (za3 1 zal (eI x4))),(2,.cmp (op:=.gtr) (m:=((eI x4).length:Int)) (n:=0) (b:=false) .i64 hc11)] [14] [(80,vb false)] h fun a w h=>zau h (qU (za6 (za1 (Jf (htb:=zaj) 14 [(0,.add .i64 (m:=(l:Int)) (n:=1) i6)] [80] [(60,vI ((l:Int)+1))] h fun a w h=>za1 (zaa (x:=l) (y:=l+1) h ?_ ?_)))))
  ·exact ⟨by have:=zab hx4;omega,zdj hx4 hI2 (show inB s x4=true from by unfold inB;rw [List.length_eq_zero_iff.1 (show (eI x4).length=0 by have:=dF hc11;omega)];rfl)⟩
  show (fsL s ps).length - (l+1)<(fsL s ps).length - l;have:=zab hx4;omega
 refine exA (Jq (htb:=zaj) 14 [] [(4,vb true)] [] h fun a w h=>qV (rT (.c (cB true)) h rfl ?_));have hz:pr24 s ps=true:=by unfold pr24;exact ze2 (dF hc12) hI2
 rw [hz];try rfl
theorem take_snoc9 {α:Type} {xs:List α} {x:α} (h:xs[j]?=some x):xs.take j++[x]=xs.take (j+1):=by rw [dM,h];rfl
theorem LasPath (p:zdu) (hsl:p.states.length<=1000):Fn dX 15 [] [.t (.agg [.d (.sl 2 (p.states.map eM)),.d (.sl 1 (p.acts.map zal))])] (.t (.agg [.d (.sl 2 (p.states.map eM)),.d (.sl 1 (p.acts.map zal))])) []:=by
 refine fB Tryz.func15 rfl 28 fun w H B a h=>Jq (htb:=zaj) 5 [] [(1,vp 5 0),(2,vp 6 0)] [(5,.box [.d (.sl 2 (p.states.map eM)),.d (.sl 1 (p.acts.map zal))]),(6,.box [.d (.raw zam),.d (.raw zam)])] h fun a w h=>Jg (htb:=zaj) 7 [] [] [(3,vp 7 0)] [] [(7,.box [.d (.raw zam),.d (.sl 1 (p.acts.map zal))])] h fun a w h=>qW (Jg (htb:=zaj) 8 [(2,.len (za3 2 eM p.states))] [1] [(10,.t (.c (.d (.sl 2 (p.states.map eM))))),(11,vN p.states.length),(12,vI 0)] [5] [] h fun a w h=>qZ ?_)
 replace h:=zjj 7 0 8 2 98 [.d (.raw zam),.d (.sl 1 (p.acts.map zal))] h;replace h:=cvM [] [] [] [(8,.row 98 2 ((p.states.take 0).map eM))] (by rw [<- show ([]:List zbz)=(p.states.take 0) from rfl]; try kernel_rfl) h;replace h:=h.conv (f':=F.of [(2,vp 6 0),(3,vp 7 0),(10,.t (.c (.d (.sl 2 (p.states.map eM))))),(11,vN p.states.length),(12,vI 0)] [(6,.box [.d (.raw zam),.d (.raw zam)]),(7,.box [.own 8 (p.states.take 0).length,.d (.sl 1 (p.acts.map zal))]),(8,.row 98 2 ((p.states.take 0).map eM))]) (by simp <;> kernel_rfl)
 refine zbw (ι:=(Nat)) (fun j=>j<=p.states.length)
   [] (fun j=>[(12,vN j)])
   [] (fun j=>[(7,.box [.own 8 (p.states.take j).length,.d (.sl 1 (p.acts.map zal))]),(8,.row 98 2 ((p.states.take j).map eM))])
   (fun j=>p.states.length - j) 0 ?_ h ?_
 ·exact bJ _
 clear h;rintro j a w hI h;have ltj:(p.states.take j).length<=j:=by rw [cO];omega
 refine Je (htb:=zaj) 9 [] [] [(13,vb (decide ((j:Int)<(p.states.length:Int))))] h fun a w h=>qW (zad ((j:Int)<(p.states.length:Int)) h (fun hc1 hc1'=>?_) (fun hc2 hc2'=>?_))
 ·refine qU (za1 (qW (qZ ?_)));obtain ⟨x1,hx1⟩:=gl p.states j;refine Jg (htb:=zaj) 9 [(0,.g (xD 14 10 ln14_4 (za7 hx1 (f:=eM)) (d4 12 _)))] [13] [(5,vp 9 0)] [] [(9,.box [.d (.sl 1 (x1.locs.map zal)),.d (.sl 1 (x1.bits.map zb4))])] h fun a w h=>Jh (htb:=zaj) 10 [(7,.g (bD 23 ([x1].map eM) [(22,.t (.agg [.d (.sl 1 (x1.locs.map zal)),.d (.sl 1 (x1.bits.map zb4))]))] ne3_14 (.cons (i:=0) (d4 22 _) (.nil)) (by kernel_rfl) (by simp [eM]))),(8,.g (Op.appOD (d:=24) (t:=17) (u:=23) (n:=8) (n':=10) (len:=(p.states.take j).length) (len':=((p.states.take j)++[x1]).length) (rows:=(p.states.take j).map eM) (rows2:=[x1].map eM) (rows':=((p.states.take j)++[x1]).map eM) ne3_15 (by first | exact (bC _).symm | simp) (by first | (rw [bL,bC];done) | (simp;done) | (simp;omega)) (by simp <;> kernel_rfl) (by simp [eM]) (by first | omega | (simp at *;done) | (simp at *;omega))))] [5] [] [8,9] [(7,.box ([.own 10 ((p.states.take j)++[x1]).length,.d (.sl 1 (p.acts.map zal))])),(10,.row 98 2 (((p.states.take j)++[x1]).map eM))] h fun a w h=>za6 (za1 (Jf (htb:=zaj) 11 [(0,.j1 j)] [] [(12,vI ((j:Int)+1))] h fun a w h=>za1 ?_));rw [show (((p.states.take j)++[x1]):List zbz)=(p.states.take (j+1)) from (take_snoc9 hx1)] at h;replace h:=zd7 10 8 h;refine zaa (x:=j) (y:=j+1) h ?_ ?_
  ·have:=zab hx1;show j+1<=p.states.length;omega
  show p.states.length - (j+1)<p.states.length - j;have:=zab hx1;omega
 refine exA (Jg (htb:=zaj) 11 [] [3,10,11,12,13] [] [7] [(6,.box [.own 8 (p.states.take j).length,.d (.sl 1 (p.acts.map zal))])] h fun a w h=>qV ?_);rw [show ((p.states.take j):List zbz)=p.states from (cJ (by omega))] at h;replace h:=zj2 8 2 98 (p.states.map eM) h [p.states.length] ⟨by first | exact (bC _).symm | (simp;done) | (simp;omega),trivial⟩;refine rA 6 [.d (.sl 2 (p.states.map eM)),.d (.sl 1 (p.acts.map zal))] h ne3_16 rfl ?_;rfl
def zel (r:zib) (i:Nat):Nat:=if i<r.stem.length then i else r.stem.length+(i - r.stem.length) % r.cycle.length
theorem plcR_lt {r:zib} (h:0<r.cycle.length) (i:Nat):zel r i<r.stem.length+r.cycle.length:=by
 unfold zel;split
 ·omega
 ·have:=Nat.mod_lt (i - r.stem.length) h;omega
theorem LPlace (r:zib) (i:Nat) (hr0:0<r.cycle.length) (hrl:r.stem.length+r.cycle.length<=20) (hi:i<=1000):Fn dX 17 [] [vG [.d (.sl 2 (r.stem.map StD.d)),.d (.sl 2 (r.cycle.map StD.d)),cIs r.acts],vN i] (vI ((zel r i:Nat):Int)) []:=by
 have hpm:=Nat.mod_lt (i - r.stem.length) hr0;refine fB Tryz.func17 rfl 22 fun w H B a h=>Jq (htb:=zaj) 0 [] [(1,vN i),(2,vp 0 0),(4,vI 0)] [(0,.box [.d (.sl 2 (r.stem.map StD.d)),.d (.sl 2 (r.cycle.map StD.d)),cIs r.acts])] h fun a w h=>Je (htb:=zaj) 1 [(2,.len (za3 2 StD.d r.stem))] [] [(5,vN r.stem.length)] h fun a w h=>qW (Je (htb:=zaj) 1 [] [] [(11,vb (decide ((i:Int)<(r.stem.length:Int))))] h fun a w h=>zad ((i:Int)<(r.stem.length:Int)) h (fun hc1 hc1'=>?_) (fun hc2 hc2'=>?_))
 ·refine Je (htb:=zaj) 1 [] [11] [(4,vN i)] h fun a w h=>qV (za5 (rT (.c (cI (i:Int))) h rfl ?_));have hz:((zel r i:Nat):Int)=(i:Int):=by unfold zel;rw [if_pos (by have:=dT hc1;omega)]
  rw [hz];try rfl
 refine qU (za1 (Jq (htb:=zaj) 1 [(3,.sub .i64 (m:=(i:Int)) (n:=(r.stem.length:Int)) i6),(6,.len (za3 2 StD.d r.cycle)),(7,.g (Op.rem (d:=20) (xt:=3) (yt:=3) (k:=.i64) (m:=((i:Int) - (r.stem.length:Int))) (n:=(r.cycle.length:Int)) (r:=((((i - r.stem.length) % r.cycle.length:Nat)):Int)) (d4 16 _) (d4 19 _) (by omega) (by have:=dF hc2;rw [show (i:Int) - (r.stem.length:Int)=((i - r.stem.length:Nat):Int) by omega];rfl))),(8,.add .i64 (m:=(r.stem.length:Int)) (n:=((((i - r.stem.length) % r.cycle.length:Nat)):Int)) i6)] [(4,vI ((r.stem.length:Int)+((((i - r.stem.length) % r.cycle.length:Nat)):Int)))] [] h fun a w h=>qV (rT (.c (cI ((r.stem.length:Int)+((((i - r.stem.length) % r.cycle.length:Nat)):Int)))) h rfl ?_)));have hz:((zel r i:Nat):Int)=(r.stem.length:Int)+((((i - r.stem.length) % r.cycle.length:Nat)):Int):=by unfold zel;rw [if_neg (by have:=dF hc2;omega)];rw [Int.natCast_add]
 rw [hz];try rfl
theorem gcd_dvd {d a b:Int} (h1:d∣a) (h2:d∣b):d∣((Nat.gcd a.natAbs b.natAbs:Nat):Int) :=
 dO.1 (by rw [Int.natAbs_natCast];exact Nat.dvd_gcd (dO.2 h1) (dO.2 h2))
theorem con_great {d:Int} {ps:List za4} (h:∀ p ∈ ps,d∣p.c.val):d∣zcc ps:=by
 have key:∀ (ps:List za4) (g:Int),d∣g->(∀ p ∈ ps,d∣p.c.val)->d∣ps.foldl (fun g p=>(Nat.gcd g.natAbs p.c.val.natAbs:Int)) g:=by
  intro ps
  induction ps with
  | nil=>intro g hg _;exact hg
  | cons p ps ih =>
   intro g hg hp
   rw [b8]
   exact ih _ (gcd_dvd hg (hp p (bG ..))) fun q hq=>hp q (b5 _ hq)
 exact key ps 0 (Int.dvd_zero d) h
theorem con_ge (ps:List za4):0<=zcc ps:=by
 have key:∀ (ps:List za4) (g:Int),0<=g->0<=ps.foldl (fun g p=>(Nat.gcd g.natAbs p.c.val.natAbs:Int)) g:=by
  intro ps
  induction ps with
  | nil=>intro g hg;exact hg
  | cons p ps ih=>intro g _;rw [b8];exact ih _ (Int.natCast_nonneg _)
 exact key ps 0 (Int.le_refl 0)
theorem con_one {ps:List za4} (h:zcc ps∣1):zcc ps=1:=by
 obtain ⟨c,hc⟩:=h
 have h0:=con_ge ps
 have h1:(zcc ps).natAbs*c.natAbs=1:=by rw [<- Int.natAbs_mul,<- hc];rfl
 have h2:=Nat.eq_one_of_mul_eq_one_right h1
 omega
def Tgt (r:za9):Prop:=r.t.parts.length≠0/\za2 r.t=r.t/\zcc r.t.parts=1/\(r.eq=true->zim r.t=false)
theorem shr_tgt (h:(za2 t).parts.length≠0):(zct t).parts.length≠0/\za2 (zct t)=zct t/\zcc (zct t).parts=1:=by
 have hg:=con_pos (t:=t) (by omega)
 have e:(zct t).parts=(za2 t).parts.map (zi5 (zcc (za2 t).parts)):=by unfold zct;rw [if_neg (by omega)]
 refine ⟨by rw [e,bC];exact h,shr_plain t,con_one ?_⟩
 have h1:zcc (zct t).parts*zcc (za2 t).parts∣zcc (za2 t).parts:=by
  refine con_great fun p hp=>?_
  obtain ⟨c,hc⟩:=ziw _ p hp
  have h2:zcc (zct t).parts∣(zi5 (zcc (za2 t).parts) p).c.val:=ziw _ _ (by rw [e];exact bF.2 ⟨p,hp,rfl⟩)
  have h3:(zi5 (zcc (za2 t).parts) p).c.val=c:=by
   show (d5 (p.c.val.fdiv _)).val=c
   rw [d6,hc,Int.mul_fdiv_cancel_left _ (by omega)]
  rw [h3] at h2
  obtain ⟨d,hd⟩:=h2
  exact ⟨d,by rw [hc,hd];ac_rfl⟩
 obtain ⟨c,hc⟩:=h1
 refine ⟨c,?_⟩
 have h4:zcc (za2 t).parts*1=zcc (za2 t).parts*(zcc (zct t).parts*c):=by rw [Int.mul_one];rw (occs:=.pos [1]) [hc];ac_rfl
 exact Int.eq_of_mul_eq_mul_left (by omega) h4
theorem neg_parts {u:zaf} (h:za2 u=u):(zl7 u).parts=u.parts.map fun p=>za4.mk p.v (d5 (p.c.val*-1)):=by
 have hu:=zay u
 rw [h] at hu
 have e:zl7 u=⟨u.parts.map fun p=>za4.mk p.v (d5 (p.c.val*-1)),d5 (u.k.val*-1)⟩:=by
  unfold zl7 zbi
  refine plainT_eq ?_ (fun q hq=>?_) (fun v=>?_) ?_
  ·refine List.pairwise_map.2 ?_
   exact hu.1
  ·obtain ⟨p,hp,rfl⟩:=bF.1 hq
   obtain ⟨h0,_,h2⟩:=hu.2.1 p hp
   refine ⟨h0,by show d5 _=d5 (d5 _).val;rw [d6],by show (d5 _).val≠0;rw [d6];omega⟩
  ·show zah (u.parts.map fun p=>za4.mk p.v (d5 (p.c.val*(d5 (-1)).val))) v=_
   rw [d6]
  ·show d5 _=d5 (d5 (u.k.val*(d5 (-1)).val)).val
   rw [d6,d6]
 rw [e]
theorem neg_tgt {u:zaf} (h0:u.parts.length≠0) (h:za2 u=u) (h1:zcc u.parts=1) (hf:zim u=true):(zl7 u).parts.length≠0/\za2 (zl7 u)=zl7 u/\zcc (zl7 u).parts=1/\zim (zl7 u)=false:=by
 have e:=neg_parts h
 refine ⟨by rw [e,bC];exact h0,by unfold zl7 zbi;exact zby _,con_one ?_,?_⟩
 ·rw [<- h1]
  refine con_great fun p hp=>?_
  have h2:=ziw (zl7 u).parts ⟨p.v,d5 (p.c.val*-1)⟩ (by rw [e];exact bF.2 ⟨p,hp,rfl⟩)
  rw [show (za4.mk p.v (d5 (p.c.val*-1))).c.val=p.c.val*-1 from d6 _] at h2
  have:=Int.dvd_neg.2 h2
  rw [show -(p.c.val*-1)=p.c.val by omega] at this
  exact this
 ·unfold zim at hf ⊢
  rw [e]
  cases hp:u.parts with
  | nil=>rfl
  | cons p l =>
   rw [hp] at hf
   have h3:=of_decide_eq_true hf
   show decide (sgn (d5 (p.c.val*-1)).val<0)=false
   rw [d6]
   refine yX ?_
   unfold sgn at h3 ⊢
   split at h3
   ·omega
   ·split at h3
    ·split
     ·omega
     ·split <;> omega
    ·omega
theorem tight_tgt {r:za9} (h:(zat r).2=0):Tgt (zat r).1:=by
 unfold zat at h ⊢
 by_cases h1:(za2 r.t).parts.length=0
 ·rw [if_pos h1] at h;exfalso;revert h;show (if _ then (1:Int) else -1)=0->False;split <;> decide
 ·rw [if_neg h1] at h ⊢
  by_cases h2:r.eq=true/\r.t.k.val.fmod (zcc (za2 r.t).parts)≠0
  ·rw [if_pos h2] at h;cases h
  ·rw [if_neg h2]
   obtain ⟨g1,g2,g3⟩:=shr_tgt h1
   cases hf:(r.eq && zim (zct r.t)) with
   | true =>
    have hf:=(bN _ _ ▸ hf:_/\_)
    obtain ⟨k1,k2,k3,k4⟩:=neg_tgt g1 g2 g3 hf.2
    show Tgt ⟨if true=true then zl7 (zct r.t) else zct r.t,r.eq⟩
    rw [if_pos rfl]
    exact ⟨k1,k2,k3,fun _=>k4⟩
   | false =>
    show Tgt ⟨if false=true then zl7 (zct r.t) else zct r.t,r.eq⟩
    rw [if_neg Bool.noConfusion]
    exact ⟨g1,g2,g3,fun he=>by have he:r.eq=true:=he;rw [he] at hf;exact hf⟩
theorem tgt_tight {r:za9} (h:Tgt r):zat r=(r,0):=by
 obtain ⟨h1,h2,h3,h4⟩:=h
 have hp:=zay r.t
 rw [h2] at hp
 unfold zat
 rw [h2,if_neg h1,h3,if_neg (fun e=>e.2 (Int.fmod_one _))]
 have hs:zct r.t=r.t:=by
  unfold zct
  rw [h2,h3,if_neg (by decide)]
  have e1:r.t.parts.map (zi5 1)=r.t.parts:=by
   refine (List.map_congr_left fun p hp1=>?_).trans (List.map_id _)
   show za4.mk p.v (d5 (p.c.val.fdiv 1))=id p
   rw [Int.fdiv_one,<- (hp.2.1 p hp1).2.1];rfl
  have e2:d5 (r.t.k.val.fdiv 1)=r.t.k:=by
   rw [Int.fdiv_one]
   have:(za2 r.t).k=d5 r.t.k.val:=rfl
   rw [h2] at this;exact this.symm
  rw [e1,e2]
 rw [hs]
 cases he:r.eq with
 | true=>rw [h4 he];cases r;cases he;rfl
 | false=>cases r;cases he;rfl
theorem cmp_self9 (r:za9):zdm r r=0:=by rw [<- cmpRl_cpl];exact cmpRl_cp r
theorem tgt_B {r:za9} (h:Tgt r):tgtB r=true:=by
 unfold tgtB;rw [tgt_tight h];show ((0:Int) == 0 && zdm r r == 0)=true;rw [cmp_self9];rfl
theorem tgt_cp {r:za9} (h:Tgt r):cpR r=r:=by unfold cpR;rw [h.2.1]
def za0.tq (f:za0):Prop:=f.fold fun k r _ hs=>(k=2->Tgt r)/\∀ h ∈ hs,h
theorem za0.tq_eq (f:za0):f.tq ↔ (f.kind=2->Tgt f.r)/\∀ g ∈ f.kids,g.tq:=by
 have:=za0.fold_eq (fun k r _ (hs:List Prop)=>(k=2->Tgt r)/\∀ h ∈ hs,h) f
 unfold za0.tq
 rw [this]
 refine and_congr_right fun _=>⟨fun h g hg=>h _ (bF.2 ⟨g,hg,rfl⟩),fun h p hp=>?_⟩
 obtain ⟨g,hg,rfl⟩:=bF.1 hp
 exact h g hg
theorem tq_tru (b:Bool):(zcs b).tq:=by rw [za0.tq_eq];exact ⟨fun e=>by cases b <;> exact absurd e (by decide),fun g hg=>by cases hg⟩
theorem tq_tight (r:za9):(zb0 r).tq:=by
 unfold zb0;split
 ·rename_i h;rw [za0.tq_eq];exact ⟨fun _=>tight_tgt h,fun g hg=>by cases hg⟩
 ·exact tq_tru _
theorem zh6 {k:Int} (hk:k=4\/k=5):∀ (fs out:List za0),(∀ g ∈ out,g.tq)->(∀ g ∈ fs,g.tq)->(zbd k fs out).tq
 | [],out,h,_=>by
  unfold zbd
  match out with
  | []=>exact tq_tru _
  | [g]=>exact h g (bG ..)
  | g :: q :: l=>rw [za0.tq_eq];exact ⟨fun e=>by exfalso;change k=2 at e;omega,h⟩
 | f :: fs,out,h,h2=>by
  rw [zbd]
  have hf:=h2 f (bG ..)
  have hfs:∀ g ∈ fs,g.tq:=fun g hg=>h2 g (b5 _ hg)
  split
  ·exact hf
  ·split
   ·exact zh6 hk fs out h hfs
   ·split
    ·exact zh6 hk fs _ (fun g hg=>(b9.1 hg).elim (h g) fun hg=>((za0.tq_eq _).1 hf).2 g hg) hfs
    ·exact zh6 hk fs _ (fun g hg=>(b9.1 hg).elim (h g) fun hg=>by rw [bE.1 hg];exact hf) hfs
theorem flat_tq (f:za0):∀ d,(f.flat d).tq :=
 eE (P:=fun f=>∀ d,(f.flat d).tq) (fun k r ks ih d=>by
  rw [za0.flat_eq]
  show (zgu k r (ks.map eB) d).tq
  unfold zgu
  split
  ·exact tq_tru _
  ·split
   ·split
    ·refine zh6 (.inr rfl) _ [] (fun g hg=>by cases hg) fun g hg=>?_
     obtain ⟨q,hq,rfl⟩:=bF.1 hg
     exact tq_tight q
    ·exact tq_tight r
   ·split
    ·cases ks with
     | nil=>exact tq_tru _
     | cons g gs=>exact ih g (bG ..) (!d)
    ·split
     ·rename_i h4
      refine zh6 (by cases d <;> simp <;> omega) _ [] (fun g hg=>by cases hg) fun g hg=>?_
      rw [cC] at hg
      obtain ⟨q,hq,rfl⟩:=bF.1 hg
      exact ih q hq d
     ·exact tq_tru _) f
def Apt (n:Nat) (l:List za9):Prop:=∀ k r,n<=k->l[k]?=some r->Tgt r/\∀ i q,i<k->l[i]?=some q->zdm q r≠0
theorem apt_cp {l:List za9} (h:Apt n l):Apt n (l.map cpR):=fun k r hk hr=>by
 rw [dP] at hr
 cases e:l[k]? with
 | none=>rw [e] at hr;cases hr
 | some r0 =>
  rw [e] at hr
  have hr:cpR r0=r:=by simpa using hr
  obtain ⟨h1,h2⟩:=h k r0 hk e
  rw [tgt_cp h1] at hr;subst hr
  refine ⟨h1,fun i q hi hq=>?_⟩
  rw [dP] at hq
  cases e2:l[i]? with
  | none=>rw [e2] at hq;cases hq
  | some q0 =>
   rw [e2] at hq
   have hq:cpR q0=q:=by simpa using hq
   rw [<- hq,cmpRl_cpl];exact h2 i q0 hi e2
theorem atR_no {r:za9} (h:atR ps r<0):∀ q ∈ ps,zdm q r≠0:=fun q hq=>by
 unfold atR at h
 rcases zi4 (fun p=>zdm p r == 0) ps 0 with ⟨_,h2⟩ | ⟨k,x,h1,_⟩
 ·have:=h2 q hq;simpa using this
 ·rw [h1] at h;omega
theorem gath_apt (f:za0):f.tq->∀ ps,n<=ps.length->Apt n ps->Apt n (f.gath ps) :=
 eE (P:=fun f=>f.tq->∀ ps,n<=ps.length->Apt n ps->Apt n (f.gath ps)) (fun k r ks ih hf ps hn ha=>by
  obtain ⟨h1,h2⟩:=(za0.tq_eq _).1 hf
  change k=2->Tgt r at h1
  change ∀ g ∈ ks,_ at h2
  rw [za0.gath_eq]
  show Apt n (if k=2/\atR ps r<0 then ps++[cpR r] else ks.foldl (fun a g=>g.gath a) ps)
  split
  ·rename_i e
   intro m q hm hq
   rw [List.getElem?_append] at hq
   split at hq
   ·rename_i hlt
    obtain ⟨a1,a2⟩:=ha m q hm hq
    exact ⟨a1,fun i p hi hp=>a2 i p hi (by rw [cZ (by omega)] at hp;exact hp)⟩
   ·rename_i hge
    have hm2:m=ps.length:=by
     rcases Nat.lt_or_ge ps.length m with h | h
     ·rw [List.getElem?_eq_none (by simp;omega)] at hq;cases hq
     ·omega
    subst hm2
    rw [dA] at hq
    have hq:cpR r=q:=by simpa using hq
    rw [tgt_cp (h1 e.1)] at hq;subst hq
    refine ⟨h1 e.1,fun i p hi hp=>?_⟩
    rw [cZ hi] at hp
    exact atR_no e.2 p (cP hp)
  ·have key:∀ (xs:List za0),(∀ g ∈ xs,g ∈ ks)->∀ qs:List za9,n<=qs.length->Apt n qs->Apt n (xs.foldl (fun a g=>g.gath a) qs):=fun xs=>by
    induction xs with
    | nil=>intro _ qs _ h;exact h
    | cons x xs ihx =>
     intro hx qs hq h
     rw [b8]
     refine ihx (fun g hg=>hx g (b5 _ hg)) _ ?_ (ih x (hx x (bG ..)) (h2 x (hx x (bG ..))) qs hq h)
     obtain ⟨l,e⟩:=gath_pre x qs
     rw [e,bL];omega
   exact key ks (fun g hg=>hg) ps hn ha) f
theorem newA_apt (ps:List za9) (cs:List za0) (j:Nat):Apt ps.length (zc3 ps cs j):=by
 induction j with
 | zero=>intro k r hk hr;have:=zab hr;exact absurd this (Nat.not_lt_of_le hk)
 | succ j ih=>exact gath_apt _ (flat_tq _ false) _ (by rw [bC];exact newA_ge ps cs j) (apt_cp ih)
theorem newA_old (ps:List za9) (cs:List za0) (j:Nat):((zc3 ps cs j).map cpR).take ps.length=ps.map cpR:=by
 induction j with
 | zero=>show (ps.map cpR).take _=_;rw [cJ (by rw [bC];exact bI _)]
 | succ j ih =>
  show ((((zcd cs j).flat false).gath ((zc3 ps cs j).map cpR)).map cpR).take _=_
  obtain ⟨l,e⟩:=gath_pre ((zcd cs j).flat false) ((zc3 ps cs j).map cpR)
  rw [e,List.map_append,List.take_append_of_le_length (by rw [bC,bC];exact newA_ge ps cs j),cC,show (cpR ∘ cpR)=cpR from funext cpR_cpR,ih]
theorem newS_fold {xs:List za9} (h:∀ r ∈ xs,tgtB r=true):xs.foldl nwS out=out++(xs.take (24 - out.length)).map cpR:=by
 induction xs generalizing out with
 | nil=>simp
 | cons x xs ih =>
  rw [b8]
  have hx:=h x (bG ..)
  have hxs:∀ r ∈ xs,tgtB r=true:=fun r hr=>h r (b5 _ hr)
  by_cases hl:out.length<24
  ·rw [nwS_t hx hl,ih hxs,bL,dU,cR,show 24 - out.length=(24 - (out.length+1))+1 by omega,List.take_succ_cons,bK];rfl
  ·rw [nwS_x hx hl,ih hxs,show 24 - out.length=0 by omega];simp
theorem drop_tgt (ps:List za9) (cs:List za0) (j:Nat):∀ r ∈ (zc3 ps cs j).drop ps.length,Tgt r:=fun r hr=>by
 obtain ⟨i,hi,rfl⟩:=List.mem_iff_getElem.1 hr
 rw [dJ] at hi
 refine (newA_apt ps cs j (ps.length+i) _ (by omega) ?_).1
 rw [List.getElem_drop,cM (by omega)]
theorem newT_eq (s:zan) (ps:List za9) (p:zdu):newT s ps p=(((zc3 ps (zag s ps p.states p.acts) (zag s ps p.states p.acts).length).map cpR).take (max 24 ps.length)):=by
 unfold newT nwO
 rw [List.take_length,newS_fold (fun r hr=>tgt_B (drop_tgt _ _ _ r hr)),bC]
 have h1:=newA_old ps (zag s ps p.states p.acts) (zag s ps p.states p.acts).length
 have h2:=newA_ge ps (zag s ps p.states p.acts) (zag s ps p.states p.acts).length
 rw [<- h1,<- List.map_take,<- List.map_append,<- List.map_take]
 congr 1
 have e:max 24 ps.length=ps.length+(24 - ps.length):=by omega
 rw [e,List.take_add]
theorem newT_len (s:zan) (ps:List za9) (p:zdu):ps.length<=(newT s ps p).length/\(newT s ps p).length<=max 24 ps.length:=by
 have:=newA_ge ps (zag s ps p.states p.acts) (zag s ps p.states p.acts).length
 rw [newT_eq,cO,bC];omega
theorem nf4_3:SlT dX 59 98 2:=SlT.mk' Tryz.underlying59 (by kernel_rfl)
def alC (ps:List za9) (p:zdu) (r:zib) (i:Nat):Bool:=match p.states[i]? with
  | none=>true
  | some x=>(zfo (ofA ps (zao r (zel r i))) x == 0) && (if i+1<p.states.length/\i<p.acts.length then decide (zel r i<r.acts.length) && ((r.acts[zel r i]?).getD 0 == (p.acts[i]?).getD 0) else true)
def alB (ps:List za9) (p:zdu) (r:zib):Bool:=zg8 p.states.length (alC ps p r)
def zle:zan:=⟨[⟨#[120]⟩],[],⟨2,⟨(zaq 0).t,true⟩,[]⟩,[⟨⟨#[112]⟩,[⟨#[97]⟩],.sl 10 []⟩],[⟨0,0,0,⟨0,zR,[]⟩,[⟨0,false,⟨(zaq 0).t.parts,d5 1⟩⟩]⟩]⟩
theorem LAlong (ps:List za9) (p:zdu) (r:zib) (hM:M<=10) (hps:PsOkW ps) (hr:RunOk M r) (hr0:0<r.cycle.length) (hra:r.acts.length<=20) (hpl:p.states.length<=5) (hpa:p.acts.length<=6) (hpx:∀ x ∈ p.states,x.locs.length<=8/\x.bits.length<=30):Fn dX 14 [] [(vRs ps),vG [.d (.sl 2 (p.states.map eM)),cIs p.acts],vG [.d (.sl 2 (r.stem.map StD.d)),.d (.sl 2 (r.cycle.map StD.d)),cIs r.acts]] (vb (alB ps p r)) []:=by
 have lrl:=hr.len;have lps:=hps.1;refine fB Tryz.func14 rfl 64 fun w H B a h=>Jq 5 [] [(0,(vRs ps)),(4,vp 5 0),(5,vp 6 0),(6,vb false)] [(5,.box [.d (.sl 2 (p.states.map eM)),cIs p.acts]),(6,.box [.d (.sl 2 (r.stem.map StD.d)),.d (.sl 2 (r.cycle.map StD.d)),cIs r.acts])] h fun a w h=>qW (Je 7 [] [] [(7,vI 0)] h fun a w h=>qZ ?_)
 refine zbw (ι:=(Nat)) (fun j=>j<=p.states.length/\zg8 j (alC ps p r)=true)
   [6] (fun j=>[(7,vN j)])
   [] (fun j=>[])
   (fun j=>p.states.length - j) 0 ?_ h ?_
 ·exact ⟨bJ _,rfl⟩
 clear h;rintro j a w hI h;obtain ⟨hI1,hI2⟩:=hI;have hpj:=plcR_lt hr0 j;refine qW (Je 7 [(3,.len (za3 2 eM p.states))] [] [(13,vb (decide ((j:Int)<(p.states.length:Int))))] h fun a w h=>zad ((j:Int)<(p.states.length:Int)) h (fun hc1 hc1'=>?_) (fun hc12 hc12'=>?_))
 ·refine qU (za1 (qW (qZ (Je 7 [(2,.call (LPlace r j hr0 hr.len (by omega)))] [13] [(8,vI ((zel r j:Nat):Int))] h fun a w h=>qW ?_))));obtain ⟨x4,hx4⟩:=gl p.states j;refine Je 7 [(3,.call (SRAt r ((zel r j:Nat):Int) (zel r j) rfl hr.len (by omega))),(4,.call (LR21Of ps (zao r (zel r j)) hps ((zei hr _).mono hM))),(8,.g (xD 27 25 nf4_3 (za7 hx4 (f:=eM)) (d4 26 _))),(10,.call (LR21Cmp (ofA ps (zao r (zel r j))) x4 ⟨by show (zao r (zel r j)).locs.length<=_;have:=(zei hr (zel r j)).locs;omega,by show (ps.map _).length<=_;rw [bC];omega⟩ (by have:=hpx x4 (lM hx4);exact ⟨by omega,by omega⟩)))] [] [(30,vb ((zfo (ofA ps (zao r (zel r j))) x4) != 0))] h fun a w h=>cS ((zfo (ofA ps (zao r (zel r j))) x4) != 0) h (fun hc2=>?_) (fun hc3=>?_)
  ·refine Je 7 [] [30] [(6,vb false)] h fun a w h=>qV (za5 (za8 (za5 (za5 (za8 (za5 (rT (.c (cB false)) h rfl ?_)))))));have hz:alB ps p r=false:=by unfold alB;exact zc2 (zab hx4) (show alC ps p r j=false from by unfold alC;rw [hx4];show ((zfo (ofA ps (zao r (zel r j))) x4 == 0) && _)=false;rw [beq_eq_false_iff_ne.2 (by have:=hc2;simpa using this)];rfl)
   rw [hz];try rfl
  refine qU (za1 ?_)
  rcases bX (decide (((j:Int)+1)<(p.states.length:Int))) with hc4 | hc11
  ·have hc4':=dT hc4
   rcases bX (decide ((j:Int)<(p.acts.length:Int))) with hc5 | hc10
   ·have hc5':=dT hc5
    rcases bX (decide (((zel r j:Nat):Int)>=(r.acts.length:Int))) with hc6 | hc7
    ·have hc6':=dT hc6;refine Je 7 [(1,.j1 j),(4,.len (za3 2 eM p.states)),(5,.cmp (op:=.lss) (m:=((j:Int)+1)) (n:=(p.states.length:Int)) (b:=true) .i64 hc4),(10,.len (za3 1 zal p.acts)),(11,.cmp (op:=.lss) (m:=(j:Int)) (n:=(p.acts.length:Int)) (b:=true) .i64 hc5),(17,.len (za3 1 zal r.acts)),(18,.cmp (op:=.geq) (m:=((zel r j:Nat):Int)) (n:=(r.acts.length:Int)) (b:=true) .i64 hc6)] [8,30] [(63,vb true)] h fun a w h=>cS true h (fun _=>?_) nofun
     refine Je 7 [] [63] [(6,vb false)] h fun a w h=>qV (za8 (za5 (za5 (za8 (za5 (rT (.c (cB false)) h rfl ?_))))));have hz:alB ps p r=false:=by unfold alB;exact zc2 (zab hx4) (show alC ps p r j=false from by unfold alC;rw [hx4];show ((zfo (ofA ps (zao r (zel r j))) x4 == 0) && _)=false;rw [beq_iff_eq.2 (show zfo (ofA ps (zao r (zel r j))) x4=0 by have:=hc3;simpa using this),b6];rw [if_pos ⟨by have:=dT hc4;omega,by have:=dT hc5;omega⟩];rw [yX (by have:=dT hc6;omega)];rfl)
     rw [hz];try rfl
    have hc7':=dF hc7;obtain ⟨x6,hx6⟩:=gl r.acts (zel r j);obtain ⟨x7,hx7⟩:=gl p.acts j;refine Je 7 [(1,.j1 j),(4,.len (za3 2 eM p.states)),(5,.cmp (op:=.lss) (m:=((j:Int)+1)) (n:=(p.states.length:Int)) (b:=true) .i64 hc4),(10,.len (za3 1 zal p.acts)),(11,.cmp (op:=.lss) (m:=(j:Int)) (n:=(p.acts.length:Int)) (b:=true) .i64 hc5),(17,.len (za3 1 zal r.acts)),(18,.cmp (op:=.geq) (m:=((zel r j:Nat):Int)) (n:=(r.acts.length:Int)) (b:=false) .i64 hc7),(23,.g (xD 54 52 zh0 (za7 hx6 (f:=zal)) (d4 53 _))),(28,.g (xD 59 57 zh0 (za7 hx7 (f:=zal)) (d4 58 _)))] [8,30] [(63,vb (x6 != x7))] h fun a w h=>cS (x6 != x7) h (fun hc8=>?_) (fun hc9=>?_)
    ·refine Je 7 [] [63] [(6,vb false)] h fun a w h=>qV (za8 (za5 (za5 (za8 (za5 (rT (.c (cB false)) h rfl ?_))))));have hz:alB ps p r=false:=by unfold alB;exact zc2 (zab hx4) (show alC ps p r j=false from by unfold alC;rw [hx4];show ((zfo (ofA ps (zao r (zel r j))) x4 == 0) && _)=false;rw [beq_iff_eq.2 (show zfo (ofA ps (zao r (zel r j))) x4=0 by have:=hc3;simpa using this),b6];rw [if_pos ⟨by have:=dT hc4;omega,by have:=dT hc5;omega⟩];rw [yQ (by have:=dF hc7;omega),b6,hx6,hx7];exact beq_eq_false_iff_ne.2 (by have:=hc8;simpa using this))
     rw [hz];try rfl
    refine qU (za6 (za1 (Jf 7 [(1,.j1 j)] [63] [(7,vI ((j:Int)+1))] h fun a w h=>za1 (zaa (x:=j) (y:=j+1) h ?_ ?_))))
    ·exact ⟨by have:=zab hx4;omega,zbn hI2 (show alC ps p r j=true from by unfold alC;rw [hx4];show ((zfo (ofA ps (zao r (zel r j))) x4 == 0) && _)=true;rw [beq_iff_eq.2 (show zfo (ofA ps (zao r (zel r j))) x4=0 by have:=hc3;simpa using this),b6];rw [if_pos ⟨by have:=dT hc4;omega,by have:=dT hc5;omega⟩];rw [yQ (by have:=dF hc7;omega),b6,hx6,hx7];exact beq_iff_eq.2 (by have:=hc9;simpa using this))⟩
    show p.states.length - (j+1)<p.states.length - j;have:=zab hx4;omega
   have hc10':=dF hc10;refine Je 7 [(1,.j1 j),(4,.len (za3 2 eM p.states)),(5,.cmp (op:=.lss) (m:=((j:Int)+1)) (n:=(p.states.length:Int)) (b:=true) .i64 hc4),(10,.len (za3 1 zal p.acts)),(11,.cmp (op:=.lss) (m:=(j:Int)) (n:=(p.acts.length:Int)) (b:=false) .i64 hc10)] [8,30] [(63,vb false)] h fun a w h=>zau h (qU (za6 (za1 (Jf 7 [(1,.j1 j)] [63] [(7,vI ((j:Int)+1))] h fun a w h=>za1 (zaa (x:=j) (y:=j+1) h ?_ ?_)))))
   ·exact ⟨by have:=zab hx4;omega,zbn hI2 (show alC ps p r j=true from by unfold alC;rw [hx4];show ((zfo (ofA ps (zao r (zel r j))) x4 == 0) && _)=true;rw [beq_iff_eq.2 (show zfo (ofA ps (zao r (zel r j))) x4=0 by have:=hc3;simpa using this),b6];rw [if_neg (fun e=>by have:=dF hc10;omega)])⟩
   show p.states.length - (j+1)<p.states.length - j;have:=zab hx4;omega
  have hc11':=dF hc11;refine Je 7 [(1,.j1 j),(4,.len (za3 2 eM p.states)),(5,.cmp (op:=.lss) (m:=((j:Int)+1)) (n:=(p.states.length:Int)) (b:=false) .i64 hc11)] [8,30] [(63,vb false)] h fun a w h=>zau h (qU (za6 (za1 (Jf 7 [(1,.j1 j)] [63] [(7,vI ((j:Int)+1))] h fun a w h=>za1 (zaa (x:=j) (y:=j+1) h ?_ ?_)))))
  ·exact ⟨by have:=zab hx4;omega,zbn hI2 (show alC ps p r j=true from by unfold alC;rw [hx4];show ((zfo (ofA ps (zao r (zel r j))) x4 == 0) && _)=true;rw [beq_iff_eq.2 (show zfo (ofA ps (zao r (zel r j))) x4=0 by have:=hc3;simpa using this),b6];rw [if_neg (fun e=>by have:=dF hc11;omega)])⟩
  show p.states.length - (j+1)<p.states.length - j;have:=zab hx4;omega
 refine exA (Jq 7 [] [(6,vb true)] [] h fun a w h=>qV (rT (.c (cB true)) h rfl ?_));have hz:alB ps p r=true:=by unfold alB;rw [show p.states.length=j by have:=dF hc12;omega];exact hI2
 rw [hz];try rfl
theorem LR4SameS (r:za9) {L:Nat} (hr:TOk n L r.t) (hn:n<=1000000000):Fn dX 26 [] [vG [cPs r.t.parts,cB r.t.k.neg,.d (nsl r.t.k.abs),cB r.eq],vG [cPs r.t.parts,cB r.t.k.neg,.d (nsl r.t.k.abs),cB r.eq]] (vb true) []:=by
 refine fB Tryz.func26 rfl 17 fun w H B a h=>Jq 0 [] [(2,vp 0 0),(3,vp 1 0),(4,vb false)] [(0,.box [cPs r.t.parts,cB r.t.k.neg,.d (nsl r.t.k.abs),cB r.eq]),(1,.box [cPs r.t.parts,cB r.t.k.neg,.d (nsl r.t.k.abs),cB r.eq])] h fun a w h=>Jq 2 [(4,.cmpb .eql (m:=r.eq) (n:=r.eq) (b:=true) (.inl ⟨rfl,(beq_self_eq_true _).symm⟩)),(10,.call (SRTSame r.t hr hn))] [(4,vb true)] [] h fun a w h=>qV (rT (.c (cB true)) h rfl ?_)
 rfl
theorem LSysR :Fn dX 27 [] [] (vG [.d (.sl 1 (zle.vars.map zer)),.d (.sl 5 (zle.bounds.map zak.d)),cI zle.init.kind,cPs zle.init.r.t.parts,cB zle.init.r.t.k.neg,.d (nsl zle.init.r.t.k.abs),cB zle.init.r.eq,cFs zle.init.kids,.d (.sl 3 (zle.procs.map zbj.d)),.d (.sl 10 (zle.acts.map eK))]) []:=by
 refine fB Tryz.func27 rfl 23 fun w H B a h=>Jq (htb:=zaj) 0 [] [(0,vp 0 0)] [(0,.box [.d (.sl 1 (([]:List ByteArray).map zer)),.d (.sl 5 (([]:List zak).map zak.d)),cI 0,cPs ([]:List za4),cB false,.d (nsl []),cB false,cFs ([]:List za0),.d (.sl 3 (([]:List zbj).map zbj.d)),.d (.sl 10 (([]:List zas).map eK))])] h fun a w h=>Jg (htb:=zaj) 1 [(0,.call (zic 0 (by decide)))] [] [(1,vp 1 0)] [] [(1,.box [cI 2,cPs (zaq 0).t.parts,cB (zaq 0).t.k.neg,.d (nsl (zaq 0).t.k.abs),cB true,cFs ([]:List za0)])] h fun a w h=>Jg (htb:=zaj) 2 [(0,.call (zic 0 (by decide))),(3,.call (SROf 1 ⟨by decide,by decide⟩))] [] [(2,vp 2 0)] [] [(2,.box [cPs (zaq 0).t.parts,cB (d5 1).neg,.d (nsl (d5 1).abs)])] h fun a w h=>Jq (htb:=zaj) 3 [(0,.g (Op.buildD (d:=12) (len:=1) (rows:=[(⟨#[120]⟩:ByteArray)].map zer) (rs:=[]) ty_16 (.cons (i:=0) (dZ (.string (⟨#[120]⟩:ByteArray)) rfl) (.nil)) (by kernel_rfl) rfl (by simp [zer]) (by decide) (by decide))),(2,.g (Op.buildD (d:=14) (len:=1) (rows:=[(⟨#[97]⟩:ByteArray)].map zer) (rs:=[]) ty_16 (.cons (i:=0) (dZ (.string (⟨#[97]⟩:ByteArray)) rfl) (.nil)) (by kernel_rfl) rfl (by simp [zer]) (by decide) (by decide))),(4,.g (bD 16 ([(zbj.mk (⟨#[112]⟩:ByteArray) [(⟨#[97]⟩:ByteArray)] (.sl 10 []))].map zbj.d) [(15,vG [.d (.raw (.string (⟨#[112]⟩:ByteArray))),.d (.sl 1 ([(⟨#[97]⟩:ByteArray)].map zer)),.d (.sl 10 [])])] kw_4 (.cons (i:=0) (d4 15 _) (.nil)) (by kernel_rfl) (by simp [zbj.d]))),(7,.g (bD 19 ([(zai.mk 0 false (zaf.mk (zaq 0).t.parts (d5 1)))].map zai.d) [(18,vG [cI 0,cB false,cPs (zaq 0).t.parts,cB (d5 1).neg,.d (nsl (d5 1).abs)])] kw_5 (.cons (i:=0) (d4 18 _) (.nil)) (by kernel_rfl) (by simp [zai.d]))),(9,.g (bD 21 ([(zas.mk 0 0 0 (za0.mk 0 (za9.mk (zaf.mk ([]:List za4) (ZI.mk false [])) false) ([]:List za0)) [(zai.mk 0 false (zaf.mk (zaq 0).t.parts (d5 1)))])].map eK) [(20,vG [cI 0,cI 0,cI 0,cI 0,cPs ([]:List za4),cB false,.d (nsl []),cB false,cFs ([]:List za0),.d (.sl 5 ([(zai.mk 0 false (zaf.mk (zaq 0).t.parts (d5 1)))].map zai.d))])] kw_6 (.cons (i:=0) (d4 20 _) (.nil)) (by kernel_rfl) (by simp [eK])))] [(0,vp 0 0)] [(0,.box [.d (.sl 1 ([(⟨#[120]⟩:ByteArray)].map zer)),.d (.sl 5 (([]:List zak).map zak.d)),cI 2,cPs (zaq 0).t.parts,cB (zaq 0).t.k.neg,.d (nsl (zaq 0).t.k.abs),cB true,cFs ([]:List za0),.d (.sl 3 ([(zbj.mk (⟨#[112]⟩:ByteArray) [(⟨#[97]⟩:ByteArray)] (.sl 10 []))].map zbj.d)),.d (.sl 10 ([(zas.mk 0 0 0 (za0.mk 0 (za9.mk (zaf.mk ([]:List za4) (ZI.mk false [])) false) ([]:List za0)) [(zai.mk 0 false (zaf.mk (zaq 0).t.parts (d5 1)))])].map eK))])] h fun a w h=>qV (rA 0 [.d (.sl 1 ([(⟨#[120]⟩:ByteArray)].map zer)),.d (.sl 5 (([]:List zak).map zak.d)),cI 2,cPs (zaq 0).t.parts,cB (zaq 0).t.k.neg,.d (nsl (zaq 0).t.k.abs),cB true,cFs ([]:List za0),.d (.sl 3 ([(zbj.mk (⟨#[112]⟩:ByteArray) [(⟨#[97]⟩:ByteArray)] (.sl 10 []))].map zbj.d)),.d (.sl 10 ([(zas.mk 0 0 0 (za0.mk 0 (za9.mk (zaf.mk ([]:List za4) (ZI.mk false [])) false) ([]:List za0)) [(zai.mk 0 false (zaf.mk (zaq 0).t.parts (d5 1)))])].map eK))] h kw_7 rfl ?_)
 kernel_rfl
theorem ni6_2:ElZ dX 41 69 2:=ElZ.mk' Tryz.underlying41 _ _ rfl rfl
theorem ok_mono9 {L:Nat} (hL:L<=M) (f:za0):f.ok L->f.ok M :=
 eE (P:=fun f=>f.ok L->f.ok M) (fun k r ks ih hf=>by
  obtain ⟨h1,h2⟩:=(za0.ok_eq L _).1 hf
  exact (za0.ok_eq M _).2 ⟨fun e=>(h1 e).mono (bI _) hL,fun g hg=>ih g (zb9 hg) (h2 g hg)⟩) f
theorem sys_mono9 {L:Nat} (hL:L<=M) (h:zbh L s):zbh M s :=
 ⟨h.vars,h.bnds,h.procs,h.acts,fun b hb=>⟨⟨(h.bnd b hb).1.1,bU (h.bnd b hb).1.2 hL⟩,(h.bnd b hb).2.1,bU (h.bnd b hb).2.2 hL⟩,⟨h.init.1,ok_mono9 hL _ h.init.2⟩,fun c hc=>⟨⟨(h.act c hc).guard.1,ok_mono9 hL _ (h.act c hc).guard.2⟩,(h.act c hc).len,fun m hm=>((h.act c hc).mv m hm).mono (bI _) hL⟩⟩
theorem few_wid1 {n L:Int} (hn:0<=n) (hn2:n<=30) (h:zm9 f n L=true):f.wid<=100:=by
 unfold zm9 at h
 rw [bN] at h
 have h1:f.size n<=n:=by have:=h.1;simpa using this
 have hw:=size_wid f n hn h1
 omega
theorem few_w1 {L:Nat} (h:zc9 L s=true):zlj s:=by
 unfold zc9 at h
 simp only [bN,decide_eq_true_eq,bV] at h
 refine ⟨few_wid1 (by decide) (by decide) h.1.2,fun c hc=>?_⟩
 have:=h.2.2 c hc
 unfold fewA at this
 simp only [bN] at this
 exact few_wid1 (by decide) (by decide) this.1.1
theorem sm24_ok (h:sm24 s ps p=true) (hr:SysRd s) (hl:∀ r ∈ ps,TLb r.t):zbh 3 s/\zlj s/\zih ps/\p.states.length<=5/\p.acts.length<=6/\∀ x ∈ p.states,x.locs.length<=8/\x.bits.length<=30:=by
 unfold sm24 at h
 simp only [bN,decide_eq_true_eq,bV] at h
 obtain ⟨h1,h2,h3,h4,h5,h6⟩:=h
 unfold zhj at h3
 rw [bN,decide_eq_true_eq,bV] at h3
 exact ⟨sys_mono9 (by decide) (few_sys h1 hr),few_w1 h1,⟨by omega,fun r hm=>(show TOk 20 1 r.t from fewR_ok (L:=1) (h3.2 r hm) (hl r hm)).mono (by decide) (by decide)⟩,h4,h5,h6⟩
theorem newT_ok (hs:zbh 3 s) (hw:zlj s) (hps:zih ps) (hl:p.states.length<=5):∀ r ∈ newT s ps p,TOk 40000000 700 r.t:=fun r hr=>by
 rw [newT_eq] at hr
 obtain ⟨q,hq,rfl⟩:=bF.1 (dV hr)
 have hn:=zed s ps p.states p.acts
 exact (((newA_ok hs hw hps p.acts hl (bI _)).1 q hq).plain (by decide)).mono (bI _) (by omega)
def paE:zdu:=⟨[⟨[0],[false]⟩,⟨[0],[false]⟩,⟨[0],[true]⟩],[0,0]⟩
def pbE:zdu:=⟨[⟨[0],[true]⟩],[]⟩
def cE:List za0:=zag zle [zaq 2] paE.states paE.acts
def nE:List za9:=newT zle [zaq 2] paE
def n2E:List za9:=newT zle [zaq 2] pbE
def c2E:za0:=cndF [zaq 2] ⟨[0],[true]⟩ []
def c1E:za0:=cndF [zaq 2] ⟨[0],[false]⟩ (zb3 zle [0] 0 c2E)
theorem at2E:cE[2]?=some c2E:=rfl
theorem at1E:cE[1]?=some c1E:=rfl
theorem len_cE:(cE.length:Int)=3:=rfl
theorem ev_c2E_2:c2E.holds [d5 2]=true:=by kernel_rfl
theorem ev_c2E_1:c2E.holds [d5 1]=false:=by kernel_rfl
theorem ev_c1E_1:c1E.holds [d5 1]=true:=by kernel_rfl
theorem ev_c1E_2:c1E.holds [d5 2]=false:=by kernel_rfl
theorem at0E:nE[0]?=some (zaq 2):=by kernel_rfl
theorem len_nE:decide ((nE.length:Int)>=3)=true:=by kernel_rfl
theorem more_paE:decide (((newT zle [zaq 2] paE).length:Int)>(([zaq 2]:List za9).length:Int))=true:=by kernel_rfl
theorem more_pbE:decide (((newT zle [zaq 2] pbE).length:Int)>(([zaq 2]:List za9).length:Int))=false:=by kernel_rfl
theorem vok9_1:VOk 3 [d5 1]:=vokE [1] (by decide) (by decide)
theorem vok9_2:VOk 3 [d5 2]:=vokE [2] (by decide) (by decide)
theorem paE_x:∀ x ∈ paE.states,x.locs.length<=8/\x.bits.length<=30:=by decide
theorem pbE_x:∀ x ∈ pbE.states,x.locs.length<=8/\x.bits.length<=30:=by decide
theorem lb1E:Lb (d5 1).abs/\(d5 1).abs.length<=3:=⟨ZI.lb_of _,by decide⟩
theorem sysR_ok:zbh 3 zle:=by
 have ht:∀ n:Int,-1000<=n/\n<=1000->TOk 20 3 (zaq n).t:=lea_tok
 have h0:=ht 0 (by decide)
 refine ⟨by decide,by decide,by decide,by decide,fun b hb=>(by cases hb),⟨(za0.lb_eq _).2 ⟨⟨⟨h0.kb,fun p hp=>(h0.ps p hp).1⟩,bJ _⟩,fun g hg=>(by cases hg)⟩,(za0.ok_eq 3 _).2 ⟨fun _=>h0,fun g hg=>(by cases hg)⟩⟩,fun c hc=>?_⟩
 rw [bE.1 hc]
 refine ⟨act0_ok.guard,by decide,fun m hm=>?_⟩
 rw [bE.1 hm]
 exact ⟨h0.len,h0.ps,lb1E.1,lb1E.2⟩
theorem sysR_w:zlj zle:=⟨dW (by kernel_rfl),fun c hc=>by rw [bE.1 hc];exact dW (by kernel_rfl)⟩
theorem ok_c2E:c2E.okB 1000000000 1000:=eH (by decide) (by decide) _ (zks sysR_ok sysR_w psE_ok paE.acts (by decide) (cP at2E)).1
theorem ok_c1E:c1E.okB 1000000000 1000:=eH (by decide) (by decide) _ (zks sysR_ok sysR_w psE_ok paE.acts (by decide) (cP at1E)).1
theorem LAlive24 :Fn dX 7 [] [] (vb true) []:=by
 refine fB Tryz.func7 rfl 102 fun w H B a h=>Jq (htb:=zaj) 0 [] [(0,vb false)] [] h fun a w h=>Jg (htb:=zaj) 0 [(0,.g (Op.buildD (d:=11) (len:=1) (rows:=[0].map zal) (rs:=[]) tb_0 (.cons (i:=0) (dZ (.int .i64 0) rfl) (.nil)) (by kernel_rfl) rfl (by simp [zal]) (by decide) (by decide))),(1,.g (Op.buildD (d:=12) (len:=1) (rows:=[false].map zb4) (rs:=[]) le5_3 (.cons (i:=0) (dZ (.bool false) rfl) (.nil)) (by kernel_rfl) rfl (by simp [zb4]) (by decide) (by decide))),(3,.g (Op.buildD (d:=14) (len:=1) (rows:=[0].map zal) (rs:=[]) tb_0 (.cons (i:=0) (dZ (.int .i64 0) rfl) (.nil)) (by kernel_rfl) rfl (by simp [zal]) (by decide) (by decide))),(4,.g (Op.buildD (d:=15) (len:=1) (rows:=[true].map zb4) (rs:=[]) le5_3 (.cons (i:=0) (dZ (.bool true) rfl) (.nil)) (by kernel_rfl) rfl (by simp [zb4]) (by decide) (by decide)))] [] [(1,vp 0 0),(2,vp 1 0)] [] [(0,.box [cIs [0],.d (.sl 1 ([false].map zb4))]),(1,.box [cIs [0],.d (.sl 1 ([true].map zb4))])] h fun a w h=>Jg (htb:=zaj) 2 [(3,.g (Op.buildD (d:=20) (len:=3) (rows:=[(zbz.mk [0] [false]),(zbz.mk [0] [false]),(zbz.mk [0] [true])].map eM) (rs:=[(17,vG [cIs [0],.d (.sl 1 ([false].map zb4))]),(18,vG [cIs [0],.d (.sl 1 ([false].map zb4))]),(19,vG [cIs [0],.d (.sl 1 ([true].map zb4))])]) ni6_2 (.cons (i:=0) (d4 17 _) (.cons (i:=1) (d4 18 _) (.cons (i:=2) (d4 19 _) (.nil)))) (by kernel_rfl) rfl (by simp [eM]) (by decide) (by decide))),(4,.g (Op.buildD (d:=21) (len:=2) (rows:=[0,0].map zal) (rs:=[]) tb_0 (.cons (i:=0) (dZ (.int .i64 0) rfl) (.cons (i:=1) (dZ (.int .i64 0) rfl) (.nil))) (by kernel_rfl) rfl (by simp [zal]) (by decide) (by decide)))] [1] [(3,vp 2 0)] [0] [(2,.box [.d (.sl 2 ([(zbz.mk [0] [false]),(zbz.mk [0] [false]),(zbz.mk [0] [true])].map eM)),cIs [0,0]])] h fun a w h=>?_
 refine Je (htb:=zaj) 3 [(0,.call (LSysR)),(1,.call (zic 2 (by decide))),(2,.g (bD 25 ([(zaq 2)].map eJ) [(24,vG [cPs (zaq 2).t.parts,cB (zaq 2).t.k.neg,.d (nsl (zaq 2).t.k.abs),cB (zaq 2).eq])] kc_5 (.cons (i:=0) (d4 24 _) (.nil)) (by kernel_rfl) (by simp [eJ]))),(4,.call (zj1 zle [zaq 2] paE sysR_ok sysR_w psE_ok (by decide) (by decide) paE_x))] [] [(4,(vFs cE))] h fun a w h=>Jg (htb:=zaj) 3 [(0,.call (LSysR)),(1,.call (zic 2 (by decide))),(2,.g (bD 31 ([(zaq 2)].map eJ) [(30,vG [cPs (zaq 2).t.parts,cB (zaq 2).t.k.neg,.d (nsl (zaq 2).t.k.abs),cB (zaq 2).eq])] kc_5 (.cons (i:=0) (d4 30 _) (.nil)) (by kernel_rfl) (by simp [eJ]))),(4,.call (dY (LNew zle [zaq 2] paE sysR_ok sysR_w psE_ok (by decide) (by decide) paE_x) (show (.tup [.c (cRs (newT zle [zaq 2] paE)),.c (cB (decide (((newT zle [zaq 2] paE).length:Int)>(([zaq 2]:List za9).length:Int))))]:V) = .tup [.c (cRs nE),.c (cB true)] from by rw [more_paE];rfl)))] [3] [(5,(vRs nE)),(6,vb true)] [2] [] h fun a w h=>Jg (htb:=zaj) 3 [(0,.call (LSysR)),(1,.call (zic 2 (by decide))),(2,.g (bD 39 ([(zaq 2)].map eJ) [(38,vG [cPs (zaq 2).t.parts,cB (zaq 2).t.k.neg,.d (nsl (zaq 2).t.k.abs),cB (zaq 2).eq])] kc_5 (.cons (i:=0) (d4 38 _) (.nil)) (by kernel_rfl) (by simp [eJ]))),(4,.g (bD 41 ([(zbz.mk [0] [true])].map eM) [(40,vG [cIs [0],.d (.sl 1 ([true].map zb4))])] ni6_2 (.cons (i:=0) (d4 40 _) (.nil)) (by kernel_rfl) (by simp [eM]))),(6,.call (dY (LNew zle [zaq 2] pbE sysR_ok sysR_w psE_ok (by decide) (by decide) pbE_x) (show (.tup [.c (cRs (newT zle [zaq 2] pbE)),.c (cB (decide (((newT zle [zaq 2] pbE).length:Int)>(([zaq 2]:List za9).length:Int))))]:V) = .tup [.c (cRs n2E),.c (cB false)] from by rw [more_pbE];rfl)))] [2] [(8,vb false)] [1] [] h fun a w h=>Jg (htb:=zaj) 3 [(0,.call (SROf 1 ⟨by decide,by decide⟩)),(1,.g (bD 47 ([(d5 1)].map ziD) [(46,vz (d5 1))] ty_5 (.cons (i:=0) (d4 46 _) (.nil)) (by kernel_rfl) (by simp [ziD]))),(2,.call (SROf 2 ⟨by decide,by decide⟩)),(3,.g (bD 49 ([(d5 2)].map ziD) [(48,vz (d5 2))] ty_5 (.cons (i:=0) (d4 48 _) (.nil)) (by kernel_rfl) (by simp [ziD])))] [] [(9,(vZs [(d5 1)])),(10,(vZs [(d5 2)]))] [] [] h fun a w h=>Jq (htb:=zaj) 3 [(1,.len (za3 6 d7 cE)),(2,.cmp (op:=.eql) (m:=(cE.length:Int)) (n:=3) (b:=true) .i64 (by rw [len_cE];rfl)),(5,.g (xD 55 54 zie ((za7 at2E (f:=d7)).trans (yJ some (d8 c2E))) (dZ (.int .i64 2) rfl))),(8,.call (dY (zht [d5 2] (M:=3) (by decide) vok9_2 c2E ok_c2E) (yJ vb ev_c2E_2))),(12,.g (xD 62 61 zie ((za7 at2E (f:=d7)).trans (yJ some (d8 c2E))) (dZ (.int .i64 2) rfl))),(15,.call (dY (zht [d5 1] (M:=3) (by decide) vok9_1 c2E ok_c2E) (yJ vb ev_c2E_1))),(20,.g (xD 70 69 zie ((za7 at1E (f:=d7)).trans (yJ some (d8 c1E))) (dZ (.int .i64 1) rfl))),(23,.call (dY (zht [d5 1] (M:=3) (by decide) vok9_1 c1E ok_c1E) (yJ vb ev_c1E_1))),(27,.g (xD 77 76 zie ((za7 at1E (f:=d7)).trans (yJ some (d8 c1E))) (dZ (.int .i64 1) rfl))),(30,.call (dY (zht [d5 2] (M:=3) (by decide) vok9_2 c1E ok_c1E) (yJ vb ev_c1E_2))),(38,.len (za3 4 eJ nE)),(39,.cmp (op:=.geq) (m:=(nE.length:Int)) (n:=3) (b:=true) .i64 len_nE),(43,.g (xD 93 92 kc_3 (za7 at0E (f:=eJ)) (dZ (.int .i64 0) rfl))),(45,.call (zic 2 (by decide))),(46,.call (LR4SameS (zaq 2) le2 (by decide)))] [(0,vb true)] [] h fun a w h=>qV (rT (.c (cB true)) h rfl ?_);rfl
theorem put_rel {c:zas} (hv:∀ v,v<n->zbl c v=false->(zid x c v).val=((y.vals[v]?).getD ze3).val) {r:za9} (hr:Bel n r.t) (hno:∀ v,v<n->zah r.t.parts (v:Int)≠0->zbl c v=false):zax x.vals (zbu (zck c n) (zd9 c n) (cpR r))=zax y.vals r:=by
 rw [<- zjh y.vals r]
 unfold zax zbu
 rw [put_val9 (t:=(cpR r).t) (ws:=y.vals) fun v h0 hne=>?_]
 have hne:zah r.t.parts v≠0:=by rw [<- zec];exact hne
 obtain ⟨u,rfl⟩:∃ u:Nat,v=(u:Int):=⟨v.toNat,(dG h0).symm⟩
 have hu:u<n:=Nat.lt_of_not_le fun h=>hne (hr _ (by omega))
 have hf:=hno u hu hne
 have hk:(zd4 c u).2=true:=by rw [valA_free,hf];rfl
 rw [pick_known hk n hu,valA_new hf,vals_at,hv u hu hf]
theorem pre_put {c:zas} (hB:zd3 n f) (hv:∀ v,v<n->zbl c v=false->(zid x c v).val=((y.vals[v]?).getD ze3).val) (hh:f.holds y.vals=true):(((f.flat false).forg (zd8 c n)).each (zbu (zck c n) (zd9 c n))).holds x.vals=true:=by
 refine forg_holds (m:=n) (us:=x.vals) (ws:=y.vals) (tr:=zbu (zck c n) (zd9 c n)) (fun r hr hno=>put_rel hv hr fun u hu hne=>?_) (f.flat false) (flat_fl f false) (flat_fk f false) (belF_flat f hB false) (by rw [flat_holds,hh];rfl)
 cases h:zbl c u with
 | false=>rfl
 | true =>
  exfalso
  have hm:(u:Int) ∈ zd8 c n:=preN_mem.2 ⟨hu,by rw [valA_free,h];rfl⟩
  have h2:=List.any_eq_false.1 hno _ hm
  have:hasV r.t (u:Int)=false:=by simpa using h2
  unfold hasV sgn at this
  split at this <;> simp at this <;> first | omega | (split at this <;> simp at this <;> omega) | exact hne this
theorem same_at9 {x y:List ZI} (h:x.map ZI.val=y.map ZI.val) (v:Int):zce x v=zce y v:=by
 unfold zce
 split
 ·have:=yJ (fun l=>l[v.toNat]?) h
  simp only [dP] at this
  cases e1:x[v.toNat]? <;> cases e2:y[v.toNat]? <;> rw [e1,e2] at this <;> simp at this <;> first | rfl | exact this
 ·rfl
theorem snd_of_beg {locs:List Int} (h:(zgw s locs i).2=true):(zac s i).2=true:=by
 have h:((zac s i).2 && begB s locs (zac s i).1)=true:=h
 rw [bN] at h;exact h.1
theorem snd_act {c:zas} (h:zeh s i=some c):(zac s i).1=c:=by unfold zac;rw [h]
theorem lead_pre (hp:ProS s) (hB:zd3 s.vars.length f) (act:Int) (hl:ze4 s x act y=true) (hh:f.holds y.vals=true):(preF s act f).holds x.vals=true:=by
 unfold preF
 by_cases ha:act=-1
 ·rw [if_pos ha]
  unfold ze4 at hl
  rw [if_pos ha,bN] at hl
  unfold zgq at hl
  rw [bN] at hl
  have hs:=of_decide_eq_true hl.2.2
  rw [zfh,cF,cQ,cK,holds_bel (fun v _ _=>same_at9 hs v) f hB]
  exact hh
 ·rw [if_neg ha]
  unfold ze4 at hl
  rw [if_neg ha] at hl
  cases hc:zeh s act with
  | none=>rw [hc] at hl;cases hl
  | some c =>
   rw [hc] at hl
   change leadsC s x c y=true at hl
   rw [<- zft] at hl
   unfold zcy at hl
   simp only [bN] at hl
   obtain ⟨⟨he,hfy⟩,_,hvs⟩:=hl
   have hfx:=zdr he
   have hxl:=zdi hfx
   have hyl:=zdi hfy
   have hb:=enabled_beg hfx hc
   rw [he] at hb
   have hb:=(bN _ _ ▸ hb.symm:_/\_)
   have hsn:=snd_of_beg hb.1
   have hca:=snd_act hc
   rw [if_pos hsn,hca,zfh,cF,cF,cQ,cK]
   have hnew:∀ v,v<s.vars.length->zbl c v=false->(zid x c v).val=((y.vals[v]?).getD ze3).val:=fun v hv hf=>by
    have:=zd5.1 hvs v (by rw [hxl.2];exact hv)
    unfold zj4 at this
    rw [hf,Bool.false_or] at this
    exact of_decide_eq_true this
   have hok:∀ v,v<s.vars.length->zbq (zbm s v) ((y.vals[v]?).getD ze3)=true:=fun v hv=>by
    unfold zd2 at hfy
    rw [bN,bN] at hfy
    exact zd5.1 hfy.2.2 v (by rw [hyl.2];exact hv)
   rw [bN]
   refine ⟨?_,pre_put hB hnew hh⟩
   rw [canF_holds,hb.2,b6]
   refine allN_of fun v hv=>?_
   have hw:=hok v hv
   rw [within_w] at hw
   unfold canAt
   cases hf:zbl c v with
   | true =>
    rw [if_pos rfl]
    unfold wB at hw
    cases hi:(zbm s v).is_ with
    | false=>rfl
    | true =>
     rw [hi] at hw
     simp only [Bool.not_true,Bool.false_or,bN,decide_eq_true_eq] at hw
     rw [b6,cmpZ_gt,yX (by omega)];rfl
   | false =>
    rw [if_neg Bool.noConfusion,within_w,hnew v hv hf];exact hw
theorem pre_self:(preF s (-1) f).holds x.vals=f.holds x.vals:=by
 unfold preF;rw [if_pos rfl,zfh,cF,cQ,cK]
end S
end Go.Proofs.YtlcijejaplagbaaGreat
