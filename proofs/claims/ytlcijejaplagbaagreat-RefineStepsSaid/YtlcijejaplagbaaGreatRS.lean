/-
  The proof of the statement RefineSteps. It holds for every input.
-/
import Derived.Test.YtlcijejaplagbaaGreatRS5
import Derived.Test.YtlcijejaplagbaaGreatRS3
import Derived.OrdersIn
import Derived.RangeFuncFrom
import Derived.RangeFuncLeaves
import Derived.RangeFuncCalls
import Derived.Test.YtlcijejaplagbaaGreatRS4
import Derived.RangeFuncBound
import Derived.Shelf.Abstract
import Derived.Shelf.RegionOpen
import Derived.OwnWalkIn
import Derived.TacticsInMore
import Derived.LoopNIn
import Derived.LoopIn
import Derived.Test.YtlcijejaplagbaaGreatRows
import Derived.Test.YtlcijejaplagbaaGreatRS2
set_option maxRecDepth 100000
set_option maxHeartbeats 20000000
open Go.RowKit
open List renaming length_map->bC,mem_singleton->bE,mem_cons_self->bG,map_cons->bI,mem_map->bJ,length_append->bK,length_cons->bP,mem_cons->bU,all_eq_true->bV,map_nil->bW,mem_cons_of_mem->bX,sum_cons->b5,getElem?_eq_getElem->b7,append_nil->b8,map_map->b9,flatten_cons->cC,flatten_nil->cD,foldl_cons->cF,mem_append->cG,take_of_length_le->cH,mem_of_getElem?->cK,all_cons->cM,mem_flatMap->cP,mem_range->cQ,sum_nil->cR,length_nil->cT,length_replicate->cW,append_assoc->cX,length_take->cY,cons_append->cZ,getElem?_eq_some_iff->dA,getElem?_append_left->dC,getElem?_cons_succ->dE,length_drop->dG,take_add_one->dI,mem_of_mem_drop->dJ,getElem?_append_right->dN,length_singleton->dQ,mem_of_mem_take->dR,getElem?_eq_none->dS,mem_append_left->dV,mem_append_right->dW
open Nat renaming le_refl->bF,zero_le->bL,le_trans->bS,mul_le_mul_left->cU,pow_le_pow_right->cV,sub_self->c6,le_succ->c7,lt_of_lt_of_le->c8,not_lt_zero->dB,le_of_eq->dD,le_of_ble_eq_true->dU
open Bool renaming eq_false_or_eq_true->bN,and_eq_true->b6,true_and->cO,and_true->dM
open Array renaming getD_eq_getD_getElem?->cJ,getElem?_eq_some_iff->cN,getElem?_setIfInBounds_ne->dH,getElem?_setIfInBounds_self_of_lt->dP
open Int renaming toNat_of_nonneg->cL,natAbs_dvd_natAbs->dL
open Option renaming isSome_iff_exists->dO
namespace Go.Proofs.YtlcijejaplagbaaGreat
namespace S
variable {t:zag} {bys:List zag} {n m k id N i b j:Nat} {α:Type} {f:za0} {s:zam} {ps out:List za8} {w0 w:World} {H0 H1 H:Im} {B0:Bl} {sl:List (Nat × V)} {lc qs:List (Nat × L)} {e:E} {K:Act->World->Prop} {ops:Array Oper} {draw:Bool} {a:Act} {o:Obj} {v:Value} {P:Program} {res:V} {fn:Func} {y:StD} {x:zcw}
theorem putZ_val (vs:List Int) (bys:List zag) (ws:List ZI):∀ (ps:List za3) (o:zag),zdi (ps.foldl (zc7 vs bys) o) ws=zdi o ws+(ps.map fun p=>p.c.val*zdi (pickT vs bys p.v) ws).sum
 | [],o=>by simp
 | p :: ps,o=>by
  rw [cF,putZ_val vs bys ws ps,bI,b5]
  unfold zc7
  rw [val_add,val_scale,Int.mul_comm,Int.add_assoc]
theorem valP_sum9 (F:Int->Int) (ws:List ZI):∀ ps:List za3,(∀ p ∈ ps,F p.v=zfk ws p.v)->(ps.map fun p=>p.c.val*F p.v).sum=zfs ws ps
 | [],_=>rfl
 | p :: ps,h=>by
  unfold zfs
  rw [bI,b5,h p (bG ..),valP_sum9 F ws ps fun q hq=>h q (bX _ hq)]
theorem put_val9 {vs:List Int} {us ws:List ZI} (h:∀ v:Int,0<=v->zah t.parts v≠0->zdi (pickT vs bys v) us=zfk ws v):zdi (putZ t vs bys) us=zdi t ws:=by
 unfold putZ
 rw [putZ_val vs bys us,zih,valP_sum9 (fun v=>zdi (pickT vs bys v) us) ws,<- zd4 t ws]
 ·unfold zdi;rw [show (za2 t).k.val=t.k.val from ZI.val_of _]
 ·intro p hp
  obtain ⟨_,h2,_⟩:=zav t
  obtain ⟨h0,_,hne⟩:=h2 p hp
  refine h p.v h0 fun e=>hne ?_
  have e2:(za2 t).parts=(ze1 t.parts).map fun v=>⟨v,ZI.of (zah t.parts v)⟩:=rfl
  rw [e2] at hp
  obtain ⟨v,_,rfl⟩:=bJ.1 hp
  show (ZI.of (zah t.parts v)).val=0
  rw [ZI.val_of];exact e
theorem idxI_app {v:Int}:∀ (xs ys:List Int) (n:Nat),(v ∉ xs->zhv v (xs++ys) n=zhv v ys (n+xs.length))
 | [],ys,n,_=>by simp
 | x :: xs,ys,n,h=>by
  rw [cZ,show zhv v (x :: (xs++ys)) n=if v=x then (n:Int) else zhv v (xs++ys) (n+1) from rfl,if_neg (fun e=>h (by rw [e];exact bG ..)),idxI_app xs ys (n+1) (fun h2=>h (bX _ h2)),bP,show n+(xs.length+1)=n+1+xs.length by omega]
theorem preV_mem {c:zap} {v:Int} (h:v ∈ zcc c n):∃ u:Nat,v=(u:Int)/\u<n/\(zcx c u).2=true:=by
 unfold zcc at h
 obtain ⟨u,hu,hx⟩:=cP.1 h
 split at hx
 ·rename_i e;exact ⟨u,bE.1 hx,cQ.1 hu,e⟩
 ·cases hx
theorem pre_lens (c:zap):∀ n,(zcc c n).length=(zd2 c n).length
 | 0=>rfl
 | n+1=>by
  rw [(zgj c n).1,(zgj c n).2.1,bK,bK,pre_lens c n]
  split <;> rfl
theorem pick_known {c:zap} {v:Nat} (hk:(zcx c v).2=true):∀ n,v<n->pickT (zcc c n) (zd2 c n) (v:Int)=(zcx c v).1
 | 0,h=>absurd h (dB _)
 | n+1,h=>by
  by_cases e:v=n
  ·subst e
   have hn:(v:Int) ∉ zcc c v:=fun hm=>by obtain ⟨u,h1,h2,_⟩:=preV_mem hm;omega
   have h1:zhv (v:Int) (zcc c (v+1)) 0=((zcc c v).length:Int):=by
    rw [(zgj c v).1,if_pos hk,idxI_app _ _ _ hn]
    unfold zhv
    rw [if_pos rfl];simp
   refine zl5 h1 ?_
   rw [(zgj c v).2.1,if_pos hk,pre_lens,dN (bF _),c6];rfl
  ·have ih:=pick_known hk n (by omega)
   have hm:∀ (m:Nat),v<m->(v:Int) ∈ zcc c m:=fun m hm=>by
    unfold zcc;exact cP.2 ⟨v,cQ.2 hm,by rw [if_pos hk];exact List.mem_singleton_self _⟩
   have key:∀ (xs ys:List Int) (k:Nat),(v:Int) ∈ xs->zhv (v:Int) (xs++ys) k=zhv (v:Int) xs k/\(k:Int)<=zhv (v:Int) xs k/\zhv (v:Int) xs k<((k+xs.length:Nat):Int):=fun xs=>by
    induction xs with
    | nil=>intro ys k h;cases h
    | cons x xs ihx =>
     intro ys k h
     rw [cZ]
     unfold zhv
     by_cases e:(v:Int)=x
     ·rw [if_pos e,if_pos e];exact ⟨rfl,by omega,by rw [bP];omega⟩
     ·rw [if_neg e,if_neg e]
      have:=ihx ys (k+1) ((bU.1 h).resolve_left e)
      exact ⟨this.1,by omega,by rw [bP];omega⟩
   obtain ⟨k1,k2,k3⟩:=key (zcc c n) (if (zcx c n).2=true then [(n:Int)] else []) 0 (hm n (by omega))
   obtain ⟨i,hi⟩:∃ i:Nat,zhv (v:Int) (zcc c n) 0=(i:Int):=⟨_,(cL (by omega)).symm⟩
   have hil:i<(zd2 c n).length:=by rw [<- pre_lens];omega
   have h2:pickT (zcc c n) (zd2 c n) (v:Int)=(zd2 c n)[i]:=zl5 hi (b7 hil)
   rw [<- ih,h2]
   refine zl5 (by rw [(zgj c n).1,k1];exact hi) ?_
   rw [(zgj c n).2.1,dC hil,b7 hil]
theorem tight_bel {r:za8} (h:Bel m r.t):Bel m (zas r).1.t:=by
 have hs:Bel m (zck r.t):=fun v hv=>by
  unfold zck
  split
  ·rw [ze7];exact h v hv
  ·refine coefZ_far fun p hp e=>?_
   obtain ⟨q,hq,rfl⟩:=bJ.1 hp
   have:=(plain_bel h q hq).2
   change q.v=v at e;omega
 unfold zas
 split
 ·exact fun v _=>rfl
 ·split
  ·exact fun v _=>rfl
  ·show Bel m (if _ then zki (zck r.t) else zck r.t)
   split
   ·exact zh5 hs _
   ·exact hs
theorem belF_atomR {r:za8} {ks:List za0} (h:Bel m r.t):zd3 m ⟨2,r,ks⟩:=by
 rw [zdf];exact ⟨fun _=>h,fun g hg=>by cases hg⟩
theorem belF_tight {r:za8} (h:Bel m r.t):zd3 m (zax r):=by
 unfold zax;split
 ·exact belF_atomR (tight_bel h)
 ·exact zeb _ _
theorem deny_bel {r:za8} (h:Bel m r.t):∀ q ∈ zbt r,Bel m q.t:=fun q hq=>by
 have hl:∀ t:zag,Bel m t->Bel m (lowR t).t:=fun t ht=>bel_sub (zh5 ht _) (zk9 _ _)
 unfold zbt at hq
 split at hq
 ·rcases bU.1 hq with rfl | hq
  ·exact hl _ (zh5 h _)
  ·rw [bE.1 hq];exact hl _ h
 ·rw [bE.1 hq];exact hl _ h
theorem zf3 {k:Int} (hk:k=4\/k=5):∀ (fs out:List za0),(∀ g ∈ out,zd3 m g)->(∀ g ∈ fs,zd3 m g/\g.fl)->zd3 m (zbb k fs out)
 | [],out,h,_=>by
  unfold zbb
  match out with
  | []=>exact zeb _ _
  | [g]=>exact h g (bG ..)
  | g :: q :: l=>exact belF_kids (.inr hk) h
 | f :: fs,out,h,h2=>by
  rw [zbb]
  have hf:=h2 f (bG ..)
  have hfs:∀ g ∈ fs,zd3 m g/\g.fl:=fun g hg=>h2 g (bX _ hg)
  split
  ·exact hf.1
  ·split
   ·exact zf3 hk fs out h hfs
   ·split
    ·rename_i e
     exact zf3 hk fs _ (fun g hg=>(cG.1 hg).elim (h g) fun hg=>((zdf _ _).1 hf.1).2 g (by unfold cnt;rw [if_pos (by omega)];exact hg)) hfs
    ·exact zf3 hk fs _ (fun g hg=>(cG.1 hg).elim (h g) fun hg=>by rw [bE.1 hg];exact hf.1) hfs
theorem belF_flat (f:za0):zd3 m f->∀ d,zd3 m (f.flat d) :=
 za0.ind (P:=fun f=>zd3 m f->∀ d,zd3 m (f.flat d)) (fun k r ks ih hf d=>by
  obtain ⟨h1,h3⟩:=(zdf _ _).1 hf
  change k=2->_ at h1
  change ∀ g ∈ cnt k ks,_ at h3
  rw [za0.flat_eq]
  show zd3 m (zgg k r (ks.map za0.flat) d)
  unfold zgg
  split
  ·exact zeb _ _
  ·split
   ·rename_i e
    split
    ·refine zf3 (.inr rfl) _ [] (fun g hg=>by cases hg) fun g hg=>?_
     obtain ⟨q,hq,rfl⟩:=bJ.1 hg
     exact ⟨belF_tight (deny_bel (h1 e) q hq),fl_tight q⟩
    ·exact belF_tight (h1 e)
   ·split
    ·rename_i e
     subst e
     cases ks with
     | nil=>exact zeb _ _
     | cons g gs=>exact ih g (bG ..) (h3 g (bG ..)) (!d)
    ·split
     ·rename_i h4
      have hc:cnt k ks=ks:=by unfold cnt;rw [if_pos h4]
      rw [hc] at h3
      refine zf3 (by cases d <;> simp <;> omega) _ [] (fun g hg=>by cases hg) fun g hg=>?_
      rw [b9] at hg
      obtain ⟨q,hq,rfl⟩:=bJ.1 hg
      exact ⟨ih q hq (h3 q hq) d,flat_fl q d⟩
     ·exact zeb _ _) f
theorem all_mem9 {p q:α->Bool}:∀ {l:List α}, (∀ x ∈ l,p x=q x)->l.all p=l.all q
 | [],_=>rfl
 | x :: l,h=>by rw [cM,cM,h x (bG ..),all_mem9 fun y hy=>h y (bX _ hy)]
theorem any_mem9 {p q:α->Bool}:∀ {l:List α}, (∀ x ∈ l,p x=q x)->l.any p=l.any q
 | [],_=>rfl
 | x :: l,h=>by rw [List.any_cons,List.any_cons,h x (bG ..),any_mem9 fun y hy=>h y (bX _ hy)]
theorem forg_all {us ws:List ZI} {tr:za8->za8} (h:∀ r,Bel m r.t->zb7 us (tr (cpR r))=zb7 ws r) (f:za0):f.fl->f.fk->zd3 m f->((f.forg []).each tr).holds us=f.holds ws :=
 za0.ind (P:=fun f=>f.fl->f.fk->zd3 m f->((f.forg []).each tr).holds us=f.holds ws) (fun k r ks ih hfl hfk hb=>by
  obtain ⟨hk,hks⟩:=(za0.fl_eq _).1 hfl
  obtain ⟨⟨hkk,_⟩,hfks⟩:=(za0.fk_eq _).1 hfk
  obtain ⟨b1,b2⟩:=(zdf _ _).1 hb
  change k=0\/k=1\/k=2\/k=4\/k=5 at hk
  change k=2->Bel m r.t at b1
  change ∀ g ∈ cnt k ks,zd3 m g at b2
  rw [za0.holds_eq ws ⟨k,r,ks⟩]
  show _=(if k=0 then true else if k=2 then zb7 ws r else if k=3 then _ else if k=4 then ks.all (za0.holds ws) else if k=5 then ks.any (za0.holds ws) else false)
  by_cases e2:k=2
  ·rw [forg_f (f:=⟨k,r,ks⟩) e2 rfl,each_atom tr (f:=⟨k,r,ks⟩) e2,za0.holds_eq,if_neg (show ¬ k=0 by omega),if_pos e2]
   exact h r (b1 e2)
  ·rw [forg_k (f:=⟨k,r,ks⟩) e2]
   show (za0.each tr ⟨k,zR,ks.map (za0.forg [])⟩).holds us=_
   by_cases e0:k=0
   ·rw [each_0 tr (f:=⟨k,zR,_⟩) e0,if_pos e0];exact zcq us true
   ·rw [if_neg e0,if_neg e2]
    by_cases e1:k=1
    ·subst e1
     rw [each_x tr (f:=⟨1,zR,_⟩) (by show ¬ ((1:Int)=3\/(1:Int)=4\/(1:Int)=5);decide) (by show (1:Int)≠2;decide) (by show (1:Int)≠0;decide)]
     exact zcq us false
    ·have h45:k=4\/k=5:=by omega
     have hc:cnt k ks=ks:=by unfold cnt;rw [if_pos h45]
     rw [hc] at b2
     have e:za0.each tr ⟨k,zR,ks.map (za0.forg [])⟩=⟨k,zR,ks.map fun g=>(g.forg []).each tr⟩:=by
      rw [za0.each_eq,ze5 _ _ _ (by show k=3\/k=4\/k=5;omega)]
      show (⟨k,zR,cnt k ((ks.map (za0.forg [])).map (za0.each tr))⟩:za0)=_
      rw [b9,show cnt k (ks.map (za0.each tr ∘ za0.forg []))=ks.map (za0.each tr ∘ za0.forg []) from by unfold cnt;rw [if_pos h45]];rfl
     rw [e,zey us zR _ (by omega),if_neg (show ¬ k=3 by omega),if_neg (show ¬ k=3 by omega)]
     have ha:(ks.map fun g=>(g.forg []).each tr).all (za0.holds us)=ks.all (za0.holds ws):=by
      rw [List.all_map]
      refine all_mem9 fun g hg=>?_
      exact ih g hg (hks g hg) (hfks g hg) (b2 g hg)
     have hy:(ks.map fun g=>(g.forg []).each tr).any (za0.holds us)=ks.any (za0.holds ws):=by
      rw [List.any_map]
      refine any_mem9 fun g hg=>?_
      exact ih g hg (hks g hg) (hfks g hg) (b2 g hg)
     rw [ha,hy]
     rcases h45 with e4 | e5
     ·rw [if_pos e4,if_pos e4]
     ·rw [if_neg (show ¬ k=4 by omega),if_neg (show ¬ k=4 by omega),if_pos e5]) f
theorem mi7_9:ElT Tryz.prog 168 30 3 56:=ElT.mk' Tryz.underlying168 _ _ rfl rfl (by kernel_rfl) (by kernel_rfl) (by kernel_rfl) (by decide) (by decide)
theorem addT_ok2 {L:Nat} {s:zag} (hs:TOk n L s) (ht:TOk m L t) (hn:n+m<=1000000000):TOk (n+m) (L+2) (zka s t):=by
 have h1:TOk (n+m) (L+1) ⟨s.parts++t.parts,ZI.of (s.k.val+t.k.val)⟩:=by
  refine ⟨by rw [bK];have:=hs.len;have:=ht.len;omega,fun p hp=>?_,ZI.lb_of _,ZI.len_of ?_⟩
  ·rcases cG.1 hp with hp | hp
   ·exact ⟨(hs.ps p hp).1,bS (hs.ps p hp).2 (c7 _)⟩
   ·exact ⟨(ht.ps p hp).1,bS (ht.ps p hp).2 (c7 _)⟩
  ·have a:=c8 (ZI.abs_lt hs.kb) (zdm hs.kl);have b:=c8 (ZI.abs_lt ht.kb) (zdm ht.kl);have c:=Int.natAbs_add_le s.k.val t.k.val
   have e:pw (L+1)=4294967296*pw L:=zaq L
   omega
 exact h1.plain hn
theorem low_tok2 {L:Nat} (h:TOk n L t) (hn:n<=1000000000) (hL:3<=L):TOk n (L+5) (lowR t).t:=by
 have h1:=zl6 h hn
 have h0:TOk 0 2 (zco (ZI.of 1)):=TOk.num (ZI.lb_of _) (by decide)
 have h2:TOk 0 (L+3) (zbh (zco (ZI.of 1)) (ZI.of (-1))):=((TOk.mul h0 (ZI.lb_of _) (show (ZI.of (-1)).abs.length<=2 from by decide)).plain (by decide)).mono (bF _) (by omega)
 exact (addT_ok2 h1 h2 (by omega)).mono (by omega) (by omega)
theorem deny_tok2 {L:Nat} {r:za8} (h:TOk n L r.t) (hn:n<=1000000000) (hL:3<=L):∀ q ∈ zbt r,TOk n (L+8) q.t:=fun q hq=>by
 unfold zbt at hq
 split at hq
 ·rcases bU.1 hq with rfl | hq
  ·exact low_tok2 (zl6 h hn) hn (by omega)
  ·rw [bE.1 hq];exact (low_tok2 h hn hL).mono (bF _) (by omega)
 ·rw [bE.1 hq];exact (low_tok2 h hn hL).mono (bF _) (by omega)
theorem ziz {L:Nat} (hn:n<=1000000000) (hL:3<=L) (f:za0):f.okB n L->∀ d,(f.flat d).okA n (L+12) :=
 za0.ind (P:=fun f=>f.okB n L->∀ d,(f.flat d).okA n (L+12)) (fun k r ks ih hf d=>by
  obtain ⟨⟨h1,h2⟩,h3⟩:=(za0.okB_eq _ _ _).1 hf
  change k=2->_ at h1
  change ∀ g ∈ cnt k ks,_ at h3
  rw [za0.flat_eq]
  show (zgg k r (ks.map za0.flat) d).okA n (L+12)
  unfold zgg
  split
  ·exact okA_tru _ _ _
  ·split
   ·rename_i e
    split
    ·refine zg3 (.inr rfl) _ [] (fun g hg=>by cases hg) fun g hg=>?_
     obtain ⟨q,hq,rfl⟩:=bJ.1 hg
     exact tight_okA (deny_tok2 (h1 e) hn hL q hq) hn
    ·exact za0.okA_mono (bF _) (by omega) _ (tight_okA (h1 e) hn)
   ·split
    ·rename_i e
     subst e
     cases ks with
     | nil=>exact okA_tru _ _ _
     | cons g gs=>exact ih g (bG ..) (h3 g (bG ..)) (!d)
    ·split
     ·rename_i h4
      have hc:cnt k ks=ks:=by unfold cnt;rw [if_pos h4]
      rw [hc] at h3
      refine zg3 (by cases d <;> simp <;> omega) _ [] (fun g hg=>by cases hg) fun g hg=>?_
      rw [b9] at hg
      obtain ⟨q,hq,rfl⟩:=bJ.1 hg
      exact ih q hq (h3 q hq) d
     ·exact okA_tru _ _ _) f
theorem put_ok {L:Nat} (hn:n<=33000000) {vs:List Int} (hf:f.okB n L) (hb:∀ b ∈ bys,zji b):(f.each (zbn vs bys)).okB (30*n) (L+24):=okB_each (t:=zbn vs bys) (fun r hr=>by
 have:=putZ_tok (t:=(cpR r).t) (vs:=vs) (hr.plain (bS hn (by decide))) hn hb
 exact this) f hf
theorem preT_ok {L:Nat} (hn:n<=33000000) (hL:3<=L) (hf:f.okB n L) (hfw:f.wid<=1000000000000) (act:Int):(((f.flat false).forg (zd6 (zab s act).1 s.vars.length)).okB n (L+12)) :=
 forg_ok _ _ (ziz (bS hn (by decide)) hL f hf false) (bS (zem f false) hfw)
theorem LPreM (s:zam) (f:za0) {L:Nat} (hf:f.okB n L) (hn:n<=33000000) (h30:30<=n) (hL3:3<=L) (hL:L<=1900) (hfw:f.wid<=1000000000000):Fn Tryz.prog 70 [] [vG [.d (.sl 1 (s.vars.map zdy)),.d (.sl 5 (s.bounds.map zaj.d)),cI s.init.kind,cPs s.init.r.t.parts,cB s.init.r.t.k.neg,.d (nsl s.init.r.t.k.abs),cB s.init.r.eq,cFs s.init.kids,.d (.sl 3 (s.procs.map zb9.d)),.d (.sl 10 (s.acts.map zap.d))],vI (-1),vG [cI f.kind,cPs f.r.t.parts,cB f.r.t.k.neg,.d (nsl f.r.t.k.abs),cB f.r.eq,cFs f.kids]] (vG [cI (zca [f]).kind,cPs (zca [f]).r.t.parts,cB (zca [f]).r.t.k.neg,.d (nsl (zca [f]).r.t.k.abs),cB (zca [f]).r.eq,cFs (zca [f]).kids]) []:=by
 refine fB Tryz.func70 rfl 67 fun w H B a h=>Jq 0 [] [(1,vI (-1)),(3,vp 0 0),(5,vp 1 0),(6,vp 2 0)] [(0,.box [.d (.sl 1 (s.vars.map zdy)),.d (.sl 5 (s.bounds.map zaj.d)),cI s.init.kind,cPs s.init.r.t.parts,cB s.init.r.t.k.neg,.d (nsl s.init.r.t.k.abs),cB s.init.r.eq,cFs s.init.kids,.d (.sl 3 (s.procs.map zb9.d)),.d (.sl 10 (s.acts.map zap.d))]),(1,.box [cI f.kind,cPs f.r.t.parts,cB f.r.t.k.neg,.d (nsl f.r.t.k.abs),cB f.r.eq,cFs f.kids]),(2,.box zF0)] h fun a w h=>qW (Je 3 [(1,.cmp (op:=.eql) (m:=(-1)) (n:=(-1)) (b:=true) .i64 rfl)] [] [(16,vb true)] h fun a w h=>cS true h (fun _=>?_) nofun)
 refine Jg 3 [(1,.g (bD 18 ([f].map za0.d) [(17,vG [cI f.kind,cPs f.r.t.parts,cB f.r.t.k.neg,.d (nsl f.r.t.k.abs),cB f.r.eq,cFs f.kids])] kb_1 (.cons (i:=0) (OV.tmp 17 _) (.nil)) (by simp only [bI,bW,cC,cD,b8,za0.d_eq];kernel_rfl) (by simp [za0.d_len]))),(2,.call (LAll [f] (fun g hg=>by rw [bE.1 hg];exact za0.okB_mono (by omega) (by omega) _ hf) (show List.length _<=1000000000000 from by simp)))] [16] [] [] [(2,.box [cI (zca [f]).kind,cPs (zca [f]).r.t.parts,cB (zca [f]).r.t.k.neg,.d (nsl (zca [f]).r.t.k.abs),cB (zca [f]).r.eq,cFs (zca [f]).kids])] h fun a w h=>qV (za5 (rA 2 [cI (zca [f]).kind,cPs (zca [f]).r.t.parts,cB (zca [f]).r.t.k.neg,.d (nsl (zca [f]).r.t.k.abs),cB (zca [f]).r.eq,cFs (zca [f]).kids] h zdb rfl ?_));rfl
theorem LPreS (s:zam) (act:Int) (f:za0) (ha:act≠-1) (hs:zbg 3 s) (hw:zkv s) {L:Nat} (hf:f.okB n L) (hn:n<=33000000) (h30:30<=n) (hL3:3<=L) (hL:L<=1900) (hfw:f.wid<=1000000000000):Fn Tryz.prog 70 [] [vG [.d (.sl 1 (s.vars.map zdy)),.d (.sl 5 (s.bounds.map zaj.d)),cI s.init.kind,cPs s.init.r.t.parts,cB s.init.r.t.k.neg,.d (nsl s.init.r.t.k.abs),cB s.init.r.eq,cFs s.init.kids,.d (.sl 3 (s.procs.map zb9.d)),.d (.sl 10 (s.acts.map zap.d))],vI act,vG [cI f.kind,cPs f.r.t.parts,cB f.r.t.k.neg,.d (nsl f.r.t.k.abs),cB f.r.eq,cFs f.kids]] (vG [cI (if (zab s act).2=true then zca [zep s (zab s act).1,(za0.each (zbn (zcc (zab s act).1 s.vars.length) (zd2 (zab s act).1 s.vars.length)) (za0.forg (zd6 (zab s act).1 s.vars.length) (za0.flat f false)))] else zcj false).kind,cPs (if (zab s act).2=true then zca [zep s (zab s act).1,(za0.each (zbn (zcc (zab s act).1 s.vars.length) (zd2 (zab s act).1 s.vars.length)) (za0.forg (zd6 (zab s act).1 s.vars.length) (za0.flat f false)))] else zcj false).r.t.parts,cB (if (zab s act).2=true then zca [zep s (zab s act).1,(za0.each (zbn (zcc (zab s act).1 s.vars.length) (zd2 (zab s act).1 s.vars.length)) (za0.forg (zd6 (zab s act).1 s.vars.length) (za0.flat f false)))] else zcj false).r.t.k.neg,.d (nsl (if (zab s act).2=true then zca [zep s (zab s act).1,(za0.each (zbn (zcc (zab s act).1 s.vars.length) (zd2 (zab s act).1 s.vars.length)) (za0.forg (zd6 (zab s act).1 s.vars.length) (za0.flat f false)))] else zcj false).r.t.k.abs),cB (if (zab s act).2=true then zca [zep s (zab s act).1,(za0.each (zbn (zcc (zab s act).1 s.vars.length) (zd2 (zab s act).1 s.vars.length)) (za0.forg (zd6 (zab s act).1 s.vars.length) (za0.flat f false)))] else zcj false).r.eq,cFs (if (zab s act).2=true then zca [zep s (zab s act).1,(za0.each (zbn (zcc (zab s act).1 s.vars.length) (zd2 (zab s act).1 s.vars.length)) (za0.forg (zd6 (zab s act).1 s.vars.length) (za0.flat f false)))] else zcj false).kids]) []:=by
 have lvs:=hs.vars;obtain ⟨lq1,lq2,lq3⟩:=pre_len (zab s act).1 s.vars.length;have hpt:=preT_ok (s:=s) hn hL3 hf hfw act;have hcl:(za0.forg (zd6 (zab s act).1 s.vars.length) (za0.flat f false)).cl.okB n (L+13):=okB_cl (by omega) _ hpt
 have hsl:∀ g ∈ [zep s (zab s act).1,(za0.each (zbn (zcc (zab s act).1 s.vars.length) (zd2 (zab s act).1 s.vars.length)) (za0.forg (zd6 (zab s act).1 s.vars.length) (za0.flat f false)))],g.okB (30*n) (L+60):=fun g hg=>by
  rcases bU.1 hg with rfl | hg
  ·exact za0.okB_mono (by omega) (by omega) _ (canF_ok hs (zfm hs act) (zkh hw act))
  rw [bE.1 hg];exact za0.okB_mono (by omega) (by omega) _ (put_ok hn hpt (preB_ok (zfm hs act) _))
 refine fB Tryz.func70 rfl 67 fun w H B a h=>Jq 5 [] [(1,vI act),(3,vp 5 0),(5,vp 6 0),(6,vp 7 0)] [(5,.box [.d (.sl 1 (s.vars.map zdy)),.d (.sl 5 (s.bounds.map zaj.d)),cI s.init.kind,cPs s.init.r.t.parts,cB s.init.r.t.k.neg,.d (nsl s.init.r.t.k.abs),cB s.init.r.eq,cFs s.init.kids,.d (.sl 3 (s.procs.map zb9.d)),.d (.sl 10 (s.acts.map zap.d))]),(6,.box [cI f.kind,cPs f.r.t.parts,cB f.r.t.k.neg,.d (nsl f.r.t.k.abs),cB f.r.eq,cFs f.kids]),(7,.box zF0)] h fun a w h=>qW (Je 8 [(1,.cmp (op:=.eql) (m:=act) (n:=(-1)) (b:=false) .i64 (beq_eq_false_iff_ne.2 ha))] [] [(16,vb false)] h fun a w h=>zaz h (qU (za1 (Jg 8 [(2,.call (Lsound s act hs))] [1,16] [(7,vp 8 0),(8,vb (zab s act).2)] [] [(8,.box [cI (zab s act).1.proc,cI (zab s act).1.from_,cI (zab s act).1.to_,cI (zab s act).1.guard.kind,cPs (zab s act).1.guard.r.t.parts,cB (zab s act).1.guard.r.t.k.neg,.d (nsl (zab s act).1.guard.r.t.k.abs),cB (zab s act).1.guard.r.eq,cFs (zab s act).1.guard.kids,.d (.sl 5 ((zab s act).1.moves.map zai.d))])] h fun a w h=>qW (Je 9 [] [8] [(27,vb (!(zab s act).2))] h fun a w h=>cS (!(zab s act).2) h (fun hc1=>?_) (fun hc2=>?_))))))
 ·refine Jg 9 [(0,.call (zjf false))] [27] [] [] [(7,.box [cI (zcj false).kind,cPs (zcj false).r.t.parts,cB (zcj false).r.t.k.neg,.d (nsl (zcj false).r.t.k.abs),cB (zcj false).r.eq,cFs (zcj false).kids])] h fun a w h=>qV (za5 (rA 7 [cI (zcj false).kind,cPs (zcj false).r.t.parts,cB (zcj false).r.t.k.neg,.d (nsl (zcj false).r.t.k.abs),cB (zcj false).r.eq,cFs (zcj false).kids] h zdb rfl ?_));rw [if_neg (by rw [(show ((zab s act).2)=false from by simpa using hc1)];exact Bool.noConfusion)];try rfl
 refine qU (za1 (Je 9 [] [27] [(9,vW zal),(10,vW zal)] h fun a w h=>Je 9 [] [] [(11,vW zal)] h fun a w h=>qW (Je 9 [(2,.len (za4 1 zdy s.vars))] [] [(31,vN s.vars.length),(32,vI 0)] h fun a w h=>qZ ?_)));replace h:=zfc 9 0 9 1 3 (vW zal) h;replace h:=zfc 10 0 10 1 3 (vW zal) h;replace h:=zfc 11 0 11 3 30 (vW zal) h;replace h:=cvM [] [(9,vO 9 (zcc (zab s act).1 0).length)] [] [(9,.row 3 1 ((zcc (zab s act).1 0).map zak))] (by rw [<- show ([]:List Int)=(zcc (zab s act).1 0) from rfl];kernel_rfl) h;replace h:=cvM [] [(10,vO 10 (zd6 (zab s act).1 0).length)] [] [(10,.row 3 1 ((zd6 (zab s act).1 0).map zak))] (by rw [<- show ([]:List Int)=(zd6 (zab s act).1 0) from rfl];kernel_rfl) h
 refine zbx (ι:=(Nat)) (fun j=>j<=s.vars.length)
   [] (fun j=>[(9,vO 9 (zcc (zab s act).1 j).length),(10,vO 10 (zd6 (zab s act).1 j).length),(11,vO 11 (zd2 (zab s act).1 j).length),(32,vN j)])
   [] (fun j=>[(9,.row 3 1 ((zcc (zab s act).1 j).map zak)),(10,.row 3 1 ((zd6 (zab s act).1 j).map zak)),(11,.row 30 3 ((zd2 (zab s act).1 j).map zag.d))])
   (fun j=>s.vars.length - j) 0 ?_ h ?_
 ·exact bL _
 clear h;rintro j a w hI h;obtain ⟨lp1,lp2,lp3⟩:=pre_len (zab s act).1 j;refine Je 12 [] [] [(33,vb (decide ((j:Int)<(s.vars.length:Int))))] h fun a w h=>qW (zae ((j:Int)<(s.vars.length:Int)) h (fun hc3 hc3'=>?_) (fun hc6 hc6'=>?_))
 ·refine qU (za1 (qW (qZ (Je 12 [] [33] [(12,vN j)] h fun a w h=>Jg 12 [(2,.call (Lvalue (zab s act).1 j (zfm hs _)))] [] [(13,vp 12 0),(14,vb (zcx (zab s act).1 j).2)] [] [(12,.box [cPs (zcx (zab s act).1 j).1.parts,cB (zcx (zab s act).1 j).1.k.neg,.d (nsl (zcx (zab s act).1 j).1.k.abs)])] h fun a w h=>Je 13 [] [14] [(41,vb (zcx (zab s act).1 j).2)] h fun a w h=>cS (zcx (zab s act).1 j).2 h (fun hc4=>?_) (fun hc5=>?_)))))
  ·refine Jh 13 [(2,.g (bD 44 ([(j:Int)].map zak) [(43,vN j)] tb_0 (.cons (i:=0) (OV.tmp 43 _) (.nil)) (by kernel_rfl) (by simp [zak]))),(3,.g (Op.appOD (d:=45) (t:=42) (u:=44) (n:=9) (n':=13) (len:=(zcc (zab s act).1 j).length) (len':=((zcc (zab s act).1 j)++[(j:Int)]).length) (rows:=(zcc (zab s act).1 j).map zak) (rows2:=[(j:Int)].map zak) (rows':=((zcc (zab s act).1 j)++[(j:Int)]).map zak) tb_2 (by first | exact (bC _).symm | simp) (by first | (rw [bK,bC];done) | (simp;done) | (simp;omega)) (by simp) (by simp [zak]) (by first | omega | (simp at *;done) | (simp at *;omega)))),(6,.g (bD 48 ([(zcx (zab s act).1 j).1].map zag.d) [(47,vG [cPs (zcx (zab s act).1 j).1.parts,cB (zcx (zab s act).1 j).1.k.neg,.d (nsl (zcx (zab s act).1 j).1.k.abs)])] tq_13 (.cons (i:=0) (OV.tmp 47 _) (.nil)) (by kernel_rfl) (by simp [zag.d]))),(7,.g (Op.appOD (d:=49) (t:=46) (u:=48) (n:=11) (n':=14) (len:=(zd2 (zab s act).1 j).length) (len':=((zd2 (zab s act).1 j)++[(zcx (zab s act).1 j).1]).length) (rows:=(zd2 (zab s act).1 j).map zag.d) (rows2:=[(zcx (zab s act).1 j).1].map zag.d) (rows':=((zd2 (zab s act).1 j)++[(zcx (zab s act).1 j).1]).map zag.d) mi7_9 (by first | exact (bC _).symm | simp) (by first | (rw [bK,bC];done) | (simp;done) | (simp;omega)) (by simp) (by simp [zag.d]) (by first | omega | (simp at *;done) | (simp at *;omega))))] [12,13,41] [(9,vO 13 ((zcc (zab s act).1 j)++[(j:Int)]).length),(11,vO 14 ((zd2 (zab s act).1 j)++[(zcx (zab s act).1 j).1]).length)] [9,11,12] [(13,.row 3 1 (((zcc (zab s act).1 j)++[(j:Int)]).map zak)),(14,.row 30 3 (((zd2 (zab s act).1 j)++[(zcx (zab s act).1 j).1]).map zag.d))] h fun a w h=>za6 (za1 (Jf 15 [(0,.j1 j)] [] [(32,vI ((j:Int)+1))] h fun a w h=>za1 ?_));rw [show (((zcc (zab s act).1 j)++[(j:Int)]):List Int)=(zcc (zab s act).1 (j+1)) from (by rw [(zgj (zab s act).1 j).1,if_pos hc4];first | done | simp)] at h;replace h:=cv (fun z_:List Int=>F.of [(3,vp 5 0),(5,vp 6 0),(6,vp 7 0),(7,vp 8 0),(9,vO 13 (zcc (zab s act).1 (j+1)).length),(10,vO 10 z_.length),(11,vO 14 ((zd2 (zab s act).1 j)++[(zcx (zab s act).1 j).1]).length),(31,vN s.vars.length),(32,vI ((j:Int)+1))] [(5,.box [.d (.sl 1 (s.vars.map zdy)),.d (.sl 5 (s.bounds.map zaj.d)),cI s.init.kind,cPs s.init.r.t.parts,cB s.init.r.t.k.neg,.d (nsl s.init.r.t.k.abs),cB s.init.r.eq,cFs s.init.kids,.d (.sl 3 (s.procs.map zb9.d)),.d (.sl 10 (s.acts.map zap.d))]),(6,.box [cI f.kind,cPs f.r.t.parts,cB f.r.t.k.neg,.d (nsl f.r.t.k.abs),cB f.r.eq,cFs f.kids]),(7,.box zF0),(8,.box [cI (zab s act).1.proc,cI (zab s act).1.from_,cI (zab s act).1.to_,cI (zab s act).1.guard.kind,cPs (zab s act).1.guard.r.t.parts,cB (zab s act).1.guard.r.t.k.neg,.d (nsl (zab s act).1.guard.r.t.k.abs),cB (zab s act).1.guard.r.eq,cFs (zab s act).1.guard.kids,.d (.sl 5 ((zab s act).1.moves.map zai.d))]),(10,.row 3 1 (z_.map zak)),(13,.row 3 1 ((zcc (zab s act).1 (j+1)).map zak)),(14,.row 30 3 (((zd2 (zab s act).1 j)++[(zcx (zab s act).1 j).1]).map zag.d))]) (show ((zd6 (zab s act).1 j):List Int)=(zd6 (zab s act).1 (j+1)) from (by rw [(zgj (zab s act).1 j).2.2,if_pos hc4];first | done | simp)) (h.conv (by kernel_rfl));rw [show (((zd2 (zab s act).1 j)++[(zcx (zab s act).1 j).1]):List zag)=(zd2 (zab s act).1 (j+1)) from (by rw [(zgj (zab s act).1 j).2.1,if_pos hc4];first | done | simp)] at h;replace h:=zcz 13 9 h;replace h:=zcz 14 11 h;refine zaa (x:=j) (y:=j+1) h ?_ ?_
   ·have:=dT hc3;show j+1<=s.vars.length;omega
   show s.vars.length - (j+1)<s.vars.length - j;have:=dT hc3;omega
  refine Jh 15 [(2,.g (bD 52 ([(j:Int)].map zak) [(51,vN j)] tb_0 (.cons (i:=0) (OV.tmp 51 _) (.nil)) (by kernel_rfl) (by simp [zak]))),(3,.g (Op.appOD (d:=53) (t:=50) (u:=52) (n:=10) (n':=15) (len:=(zd6 (zab s act).1 j).length) (len':=((zd6 (zab s act).1 j)++[(j:Int)]).length) (rows:=(zd6 (zab s act).1 j).map zak) (rows2:=[(j:Int)].map zak) (rows':=((zd6 (zab s act).1 j)++[(j:Int)]).map zak) tb_2 (by first | exact (bC _).symm | simp) (by first | (rw [bK,bC];done) | (simp;done) | (simp;omega)) (by simp) (by simp [zak]) (by first | omega | (simp at *;done) | (simp at *;omega))))] [12,13,41] [(10,vO 15 ((zd6 (zab s act).1 j)++[(j:Int)]).length)] [10,12] [(15,.row 3 1 (((zd6 (zab s act).1 j)++[(j:Int)]).map zak))] h fun a w h=>za6 (za1 (Jf 16 [(0,.j1 j)] [] [(32,vI ((j:Int)+1))] h fun a w h=>za1 ?_));replace h:=cvM [] [(9,vO 9 (zcc (zab s act).1 (j+1)).length)] [] [(9,.row 3 1 ((zcc (zab s act).1 (j+1)).map zak))] (by rw [<- show ((zcc (zab s act).1 j):List Int)=(zcc (zab s act).1 (j+1)) from (by rw [(zgj (zab s act).1 j).1,if_neg (by rw [hc5];exact Bool.noConfusion)];first | done | simp)];kernel_rfl) h;rw [show (((zd6 (zab s act).1 j)++[(j:Int)]):List Int)=(zd6 (zab s act).1 (j+1)) from (by rw [(zgj (zab s act).1 j).2.2,if_neg (by rw [hc5];exact Bool.noConfusion)];first | done | simp)] at h;replace h:=cv (fun z_:List zag=>F.of [(3,vp 5 0),(5,vp 6 0),(6,vp 7 0),(7,vp 8 0),(9,vO 9 (zcc (zab s act).1 (j+1)).length),(10,vO 15 (zd6 (zab s act).1 (j+1)).length),(11,vO 11 z_.length),(31,vN s.vars.length),(32,vI ((j:Int)+1))] [(5,.box [.d (.sl 1 (s.vars.map zdy)),.d (.sl 5 (s.bounds.map zaj.d)),cI s.init.kind,cPs s.init.r.t.parts,cB s.init.r.t.k.neg,.d (nsl s.init.r.t.k.abs),cB s.init.r.eq,cFs s.init.kids,.d (.sl 3 (s.procs.map zb9.d)),.d (.sl 10 (s.acts.map zap.d))]),(6,.box [cI f.kind,cPs f.r.t.parts,cB f.r.t.k.neg,.d (nsl f.r.t.k.abs),cB f.r.eq,cFs f.kids]),(7,.box zF0),(8,.box [cI (zab s act).1.proc,cI (zab s act).1.from_,cI (zab s act).1.to_,cI (zab s act).1.guard.kind,cPs (zab s act).1.guard.r.t.parts,cB (zab s act).1.guard.r.t.k.neg,.d (nsl (zab s act).1.guard.r.t.k.abs),cB (zab s act).1.guard.r.eq,cFs (zab s act).1.guard.kids,.d (.sl 5 ((zab s act).1.moves.map zai.d))]),(9,.row 3 1 ((zcc (zab s act).1 (j+1)).map zak)),(11,.row 30 3 (z_.map zag.d)),(15,.row 3 1 ((zd6 (zab s act).1 (j+1)).map zak))]) (show ((zd2 (zab s act).1 j):List zag)=(zd2 (zab s act).1 (j+1)) from (by rw [(zgj (zab s act).1 j).2.1,if_neg (by rw [hc5];exact Bool.noConfusion)];first | done | simp)) (h.conv (by kernel_rfl));replace h:=zcz 15 10 h;refine zaa (x:=j) (y:=j+1) h ?_ ?_
  ·have:=dT hc3;show j+1<=s.vars.length;omega
  show s.vars.length - (j+1)<s.vars.length - j;have:=dT hc3;omega
 refine exA ?_;replace h:=cvM [] [(9,vO 9 (zcc (zab s act).1 s.vars.length).length)] [] [(9,.row 3 1 ((zcc (zab s act).1 s.vars.length).map zak))] (by rw [<- show ((zcc (zab s act).1 j):List Int)=(zcc (zab s act).1 s.vars.length) from (by rw [show j=s.vars.length by have:=dF hc6;omega])];kernel_rfl) h;replace h:=zie 9 1 3 ((zcc (zab s act).1 s.vars.length).map zak) h [(zcc (zab s act).1 s.vars.length).length] ⟨by first | exact (bC _).symm | (simp;done) | (simp;omega),trivial⟩;replace h:=cvM [] [(10,vO 10 (zd6 (zab s act).1 s.vars.length).length)] [] [(10,.row 3 1 ((zd6 (zab s act).1 s.vars.length).map zak))] (by rw [<- show ((zd6 (zab s act).1 j):List Int)=(zd6 (zab s act).1 s.vars.length) from (by rw [show j=s.vars.length by have:=dF hc6;omega])];kernel_rfl) h;replace h:=zie 10 1 3 ((zd6 (zab s act).1 s.vars.length).map zak) h [(zd6 (zab s act).1 s.vars.length).length] ⟨by first | exact (bC _).symm | (simp;done) | (simp;omega),trivial⟩;replace h:=cvM [] [(11,vO 11 (zd2 (zab s act).1 s.vars.length).length)] [] [(11,.row 30 3 ((zd2 (zab s act).1 s.vars.length).map zag.d))] (by rw [<- show ((zd2 (zab s act).1 j):List zag)=(zd2 (zab s act).1 s.vars.length) from (by rw [show j=s.vars.length by have:=dF hc6;omega])];kernel_rfl) h;replace h:=zie 11 3 30 ((zd2 (zab s act).1 s.vars.length).map zag.d) h [(zd2 (zab s act).1 s.vars.length).length] ⟨by first | exact (bC _).symm | (simp;done) | (simp;omega),trivial⟩;refine Jq 16 [(2,.call (Lcan s (zab s act).1 hs (zfm hs _) (zkh hw _))),(4,.call (LFlat f (za0.okB_mono (by omega) (by omega) _ hf) (by omega))),(6,.call (Lforget (zd6 (zab s act).1 s.vars.length) (by omega) (za0.flat f false) (za0.okA_mono (by omega) (by omega) _ (ziz (by omega) hL3 f hf false)) (bS (zem f false) (by omega)))),(9,.call (LPutAllF (za0.forg (zd6 (zab s act).1 s.vars.length) (za0.flat f false)) (zcc (zab s act).1 s.vars.length) (zd2 (zab s act).1 s.vars.length) (za0.okB_mono (by omega) (by omega) _ hpt) hcl (by omega) (by omega) (preB_ok (zfm hs act) _) (by omega) (by omega))),(10,.g (Op.buildD (d:=65) (len:=2) (rows:=[(zep s (zab s act).1),(za0.each (zbn (zcc (zab s act).1 s.vars.length) (zd2 (zab s act).1 s.vars.length)) (za0.forg (zd6 (zab s act).1 s.vars.length) (za0.flat f false)))].map za0.d) (rs:=[(57,vG [cI (zep s (zab s act).1).kind,cPs (zep s (zab s act).1).r.t.parts,cB (zep s (zab s act).1).r.t.k.neg,.d (nsl (zep s (zab s act).1).r.t.k.abs),cB (zep s (zab s act).1).r.eq,cFs (zep s (zab s act).1).kids]),(64,vG [cI (za0.each (zbn (zcc (zab s act).1 s.vars.length) (zd2 (zab s act).1 s.vars.length)) (za0.forg (zd6 (zab s act).1 s.vars.length) (za0.flat f false))).kind,cPs (za0.each (zbn (zcc (zab s act).1 s.vars.length) (zd2 (zab s act).1 s.vars.length)) (za0.forg (zd6 (zab s act).1 s.vars.length) (za0.flat f false))).r.t.parts,cB (za0.each (zbn (zcc (zab s act).1 s.vars.length) (zd2 (zab s act).1 s.vars.length)) (za0.forg (zd6 (zab s act).1 s.vars.length) (za0.flat f false))).r.t.k.neg,.d (nsl (za0.each (zbn (zcc (zab s act).1 s.vars.length) (zd2 (zab s act).1 s.vars.length)) (za0.forg (zd6 (zab s act).1 s.vars.length) (za0.flat f false))).r.t.k.abs),cB (za0.each (zbn (zcc (zab s act).1 s.vars.length) (zd2 (zab s act).1 s.vars.length)) (za0.forg (zd6 (zab s act).1 s.vars.length) (za0.flat f false))).r.eq,cFs (za0.each (zbn (zcc (zab s act).1 s.vars.length) (zd2 (zab s act).1 s.vars.length)) (za0.forg (zd6 (zab s act).1 s.vars.length) (za0.flat f false))).kids])]) kb_1 (.cons (i:=0) (OV.tmp 57 _) (.cons (i:=1) (OV.tmp 64 _) (.nil))) (by simp only [bI,bW,cC,cD,b8,za0.d_eq];kernel_rfl) rfl (by simp [za0.d_len]) (by decide) (by decide))),(11,.call (LAll [zep s (zab s act).1,(za0.each (zbn (zcc (zab s act).1 s.vars.length) (zd2 (zab s act).1 s.vars.length)) (za0.forg (zd6 (zab s act).1 s.vars.length) (za0.flat f false)))] (fun g hg=>za0.okB_mono (by omega) (by omega) _ (hsl g hg)) (show List.length _<=1000000000000 from by simp)))] [(6,vp 7 0)] [(7,.box [cI (zca [zep s (zab s act).1,(za0.each (zbn (zcc (zab s act).1 s.vars.length) (zd2 (zab s act).1 s.vars.length)) (za0.forg (zd6 (zab s act).1 s.vars.length) (za0.flat f false)))]).kind,cPs (zca [zep s (zab s act).1,(za0.each (zbn (zcc (zab s act).1 s.vars.length) (zd2 (zab s act).1 s.vars.length)) (za0.forg (zd6 (zab s act).1 s.vars.length) (za0.flat f false)))]).r.t.parts,cB (zca [zep s (zab s act).1,(za0.each (zbn (zcc (zab s act).1 s.vars.length) (zd2 (zab s act).1 s.vars.length)) (za0.forg (zd6 (zab s act).1 s.vars.length) (za0.flat f false)))]).r.t.k.neg,.d (nsl (zca [zep s (zab s act).1,(za0.each (zbn (zcc (zab s act).1 s.vars.length) (zd2 (zab s act).1 s.vars.length)) (za0.forg (zd6 (zab s act).1 s.vars.length) (za0.flat f false)))]).r.t.k.abs),cB (zca [zep s (zab s act).1,(za0.each (zbn (zcc (zab s act).1 s.vars.length) (zd2 (zab s act).1 s.vars.length)) (za0.forg (zd6 (zab s act).1 s.vars.length) (za0.flat f false)))]).r.eq,cFs (zca [zep s (zab s act).1,(za0.each (zbn (zcc (zab s act).1 s.vars.length) (zd2 (zab s act).1 s.vars.length)) (za0.forg (zd6 (zab s act).1 s.vars.length) (za0.flat f false)))]).kids])] h fun a w h=>?_;refine qV (rA 7 [cI (zca [zep s (zab s act).1,(za0.each (zbn (zcc (zab s act).1 s.vars.length) (zd2 (zab s act).1 s.vars.length)) (za0.forg (zd6 (zab s act).1 s.vars.length) (za0.flat f false)))]).kind,cPs (zca [zep s (zab s act).1,(za0.each (zbn (zcc (zab s act).1 s.vars.length) (zd2 (zab s act).1 s.vars.length)) (za0.forg (zd6 (zab s act).1 s.vars.length) (za0.flat f false)))]).r.t.parts,cB (zca [zep s (zab s act).1,(za0.each (zbn (zcc (zab s act).1 s.vars.length) (zd2 (zab s act).1 s.vars.length)) (za0.forg (zd6 (zab s act).1 s.vars.length) (za0.flat f false)))]).r.t.k.neg,.d (nsl (zca [zep s (zab s act).1,(za0.each (zbn (zcc (zab s act).1 s.vars.length) (zd2 (zab s act).1 s.vars.length)) (za0.forg (zd6 (zab s act).1 s.vars.length) (za0.flat f false)))]).r.t.k.abs),cB (zca [zep s (zab s act).1,(za0.each (zbn (zcc (zab s act).1 s.vars.length) (zd2 (zab s act).1 s.vars.length)) (za0.forg (zd6 (zab s act).1 s.vars.length) (za0.flat f false)))]).r.eq,cFs (zca [zep s (zab s act).1,(za0.each (zbn (zcc (zab s act).1 s.vars.length) (zd2 (zab s act).1 s.vars.length)) (za0.forg (zd6 (zab s act).1 s.vars.length) (za0.flat f false)))]).kids] h zdb rfl ?_);rw [if_pos (show ((zab s act).2)=true from by simpa using hc2)];try rfl
theorem at_ok9 (h:f.okB 40 200) (s:zam) (k:Nat):(atF s f k).okB 40 203:=okB_each (t:=zcy (offZ s k)) (fun r hr=>by
 have:=movZ_tok (hr.plain (by decide)) (by decide) (zad (offZ s k))
 exact this) f h
theorem preK_ok (hs:zbg 3 s) (hw:zkv s) (act:Int) {L:Nat} (hf:f.okB n L) (hn:n<=33000000) (h30:30<=n) (hL3:3<=L) (hL:L<=1900) (hfw:f.wid<=1000000000000):(zl4 s act f).okB (30*n) (L+61):=by
 unfold zl4;split
 ·exact za0.okB_mono (by omega) (by omega) _ (zib (n:=n) (L:=L) (by omega) (fun g hg=>by rw [bE.1 hg];exact hf) (show List.length _<=1000000000000 from by simp))
 ·split
  ·refine zib (n:=30*n) (L:=L+60) (by omega) (fun g hg=>?_) (show List.length _<=1000000000000 from by simp)
   rcases bU.1 hg with rfl | hg
   ·exact za0.okB_mono (by omega) (by omega) _ (canF_ok hs (zfm hs act) (zkh hw act))
   ·rw [bE.1 hg];exact za0.okB_mono (by omega) (by omega) _ (put_ok hn (preT_ok hn hL3 hf hfw act) (preB_ok (zfm hs act) _))
  ·exact okB_tru _ _ _
theorem LPre (s:zam) (act:Int) (f:za0) (hs:zbg 3 s) (hw:zkv s) {L:Nat} (hf:f.okB n L) (hn:n<=33000000) (h30:30<=n) (hL3:3<=L) (hL:L<=1900) (hfw:f.wid<=1000000000000):Fn Tryz.prog 70 [] [vG (zcn s),vi .i64 act,(vF f)] (vF (zl4 s act f)) []:=by
 by_cases ha:act=-1
 ·subst ha;rw [show zl4 s (-1) f=_ from if_pos rfl];exact LPreM s f hf hn h30 hL3 hL hfw
 ·rw [show zl4 s act f=_ from if_neg ha];exact LPreS s act f ha hs hw hf hn h30 hL3 hL hfw
theorem vokE (ns:List Int) (hl:ns.length<=2000) (h:∀ z ∈ ns,-9223372036854775808<=z/\z<=9223372036854775807):VOk 3 (ns.map ZI.of):=⟨by rw [bC];exact hl,fun y hy=>by
 obtain ⟨z,hz,rfl⟩:=bJ.1 hy
 have:=h z hz
 exact ⟨ZI.lb_of _,bS (ZI.len_of (L:=2) (by have:=pw2;omega)) (by decide)⟩⟩
theorem sum_cnt (k:Int) (xs:List za0):((cnt k xs).map za0.nodes).sum<=(xs.map za0.nodes).sum:=by
 unfold cnt
 split
 ·exact bF _
 ·split
  ·cases xs with
   | nil=>exact bF _
   | cons x xs=>simp
  ·exact bL _
theorem sum_mul3 (xs:List za0):(xs.map fun g=>3*g.nodes).sum=3*(xs.map za0.nodes).sum:=by
 induction xs with
 | nil=>rfl
 | cons x xs ih=>rw [bI,bI,b5,b5,ih];omega
theorem zeq (f:za0):f.wid<=3*f.nodes :=
 za0.ind (P:=fun f=>f.wid<=3*f.nodes) (fun k r ks ih=>by
  rw [za0.wid_eq,za0.nodes_eq]
  show 3+((cnt k ks).map za0.wid).sum<=3*(1+(ks.map za0.nodes).sum)
  have h1:=zkf (xs:=cnt k ks) (F:=za0.wid) (G:=fun g=>3*g.nodes) fun g hg=>ih g (zb6 hg)
  have h2:=sum_mul3 (cnt k ks)
  have h3:=sum_cnt k ks
  omega) f
theorem each_wid (t:za8->za8) (f:za0):(f.each t).nodes<=f.wid :=
 za0.ind (P:=fun f=>(f.each t).nodes<=f.wid) (fun k r ks ih=>by
  rw [za0.each_eq,za0.wid_eq]
  show (zf0 t k r (ks.map (za0.each t))).nodes<=3+((cnt k ks).map za0.wid).sum
  unfold zf0
  split
  ·rw [za0.nodes_eq];show 1+0<=_;omega
  ·split
   ·rw [za0.nodes_eq];show 1+0<=_;omega
   ·split
    ·rw [za0.nodes_eq]
     show 1+((cnt k (ks.map (za0.each t))).map za0.nodes).sum<=_
     rw [zct,b9]
     have:=zkf (xs:=cnt k ks) (F:=za0.nodes ∘ za0.each t) (G:=za0.wid) fun g hg=>ih g (zb6 hg)
     omega
    ·rw [za0.nodes_eq];show 1+0<=_;omega) f
theorem zg4 (t:za8->za8) (f:za0):(f.each t).nodes<=f.nodes :=
 za0.ind (P:=fun f=>(f.each t).nodes<=f.nodes) (fun k r ks ih=>by
  rw [za0.each_eq,za0.nodes_eq ⟨k,r,ks⟩]
  show (zf0 t k r (ks.map (za0.each t))).nodes<=1+(ks.map za0.nodes).sum
  unfold zf0
  split
  ·rw [za0.nodes_eq];show 1+0<=_;omega
  ·split
   ·rw [za0.nodes_eq];show 1+0<=_;omega
   ·split
    ·rw [za0.nodes_eq]
     show 1+((cnt k (ks.map (za0.each t))).map za0.nodes).sum<=_
     rw [zct,b9]
     have h1:=zkf (xs:=cnt k ks) (F:=za0.nodes ∘ za0.each t) (G:=za0.nodes) fun g hg=>ih g (zb6 hg)
     have h2:=sum_cnt k ks
     omega
    ·rw [za0.nodes_eq];show 1+0<=_;omega) f
theorem zg8 (fs:List za0):(zca fs).nodes<=1+(fs.map za0.nodes).sum:=by
 rw [za0.nodes_eq]
 show 1+((fs.map za0.cl).map za0.nodes).sum<=_
 rw [b9]
 have:=zkf (xs:=fs) (F:=za0.nodes ∘ za0.cl) (G:=za0.nodes) fun g _=>zg4 id g
 omega
theorem deny_nodes (f:za0):(zi7 f).nodes<=1+f.nodes:=by
 rw [za0.nodes_eq];show 1+(f.cl.nodes+0)<=_;have:f.cl.nodes<=f.nodes:=zg4 id f;omega
theorem zg6 (r:za8):(zfa r).nodes=1:=by rw [za0.nodes_eq];rfl
theorem forg_nodes (vs:List Int) (f:za0):(f.forg vs).nodes<=f.nodes :=
 za0.ind (P:=fun f=>(f.forg vs).nodes<=f.nodes) (fun k r ks ih=>by
  rw [za0.forg_eq,za0.nodes_eq ⟨k,r,ks⟩]
  show (forgK vs k r ks (ks.map (za0.forg vs))).nodes<=1+(ks.map za0.nodes).sum
  unfold forgK
  split
  ·split
   ·rw [za0.nodes_eq];show 1+0<=_;omega
   ·rw [za0.nodes_eq];exact bF _
  ·rw [za0.nodes_eq]
   show 1+((ks.map (za0.forg vs)).map za0.nodes).sum<=_
   rw [b9]
   have:=zkf (xs:=ks) (F:=za0.nodes ∘ za0.forg vs) (G:=za0.nodes) fun g hg=>ih g hg
   omega) f
theorem sum_c {F:α->Nat} {c:Nat}:∀ {xs:List α}, (∀ x ∈ xs,F x<=c)->(xs.map F).sum<=xs.length*c
 | [],_=>bL _
 | x :: xs,h=>by
  rw [bI,b5,bP,Nat.succ_mul]
  have:=h x (bG ..);have:=sum_c (xs:=xs) fun y hy=>h y (bX _ hy);omega
theorem canS_nodes (s:zam) (c:zap) (v:Nat):∀ g ∈ zfh s c v,g.nodes<=1:=fun g hg=>by
 unfold zfh bndF at hg
 split at hg
 ·split at hg
  ·rcases bU.1 hg with rfl | hg
   ·exact dD (zg6 _)
   ·rw [bE.1 hg];exact dD (zg6 _)
  ·cases hg
 ·split at hg
  ·rw [bE.1 hg];exact dD (zg6 _)
  ·cases hg
theorem canF_nodes {c:zap} (hv:s.vars.length<=8) (hw:c.guard.wid<=100):(zep s c).nodes<=120:=by
 unfold zep
 rw [za0.nodes_eq]
 show 1+(((canL s c).map za0.cl).map za0.nodes).sum<=_
 unfold canL
 rw [b9,bI,b5]
 have h1:(za0.nodes ∘ za0.cl) c.guard<=c.guard.wid:=each_wid id _
 have h2:=sum_c (F:=za0.nodes ∘ za0.cl) (c:=1) (xs:=(List.range s.vars.length).flatMap (zfh s c)) fun g hg=>bS (zg4 id g) (zds (Q:=fun g=>g.nodes<=1) (fun v _=>canS_nodes s c v) g hg)
 have h3:=zdq (zfh s c) (zlq s c) s.vars.length
 omega
theorem stkF_nodes (hs:zbg 3 s) (hw:zkv s) (locs:List Int):(stkF s locs).nodes<=2421:=by
 have h0:=zg8 ((List.range s.acts.length).flatMap (zgs s locs))
 have h2:=sum_c (F:=za0.nodes) (c:=121) (xs:=(List.range s.acts.length).flatMap (zgs s locs)) fun g hg=>zds (Q:=fun g=>g.nodes<=121) (fun v _ g hg=>by
  unfold zgs at hg
  split at hg
  ·rw [bE.1 hg];have:=deny_nodes (zep s (zgn s locs (v:Int)).1);have:=canF_nodes (s:=s) (c:=(zgn s locs (v:Int)).1) hs.vars (zkh hw _);omega
  ·cases hg) g hg
 have h3:=zdq (zgs s locs) (zkz s locs) s.acts.length
 have:=hs.acts
 unfold stkF
 omega
theorem lit_nodes (r:za8) (b:Bool):(litF r b).nodes<=2:=by
 unfold litF
 split
 ·rw [zg6];omega
 ·have:=deny_nodes (zfa r);rw [zg6] at this;exact this
theorem cube_lits {bs:List Bool} {g:za0} (hg:g ∈ ze6 ps bs):∃ r b,r ∈ ps/\g=litF r b:=by
 obtain ⟨j,hj,rfl⟩:=List.getElem_of_mem hg
 have hl:=zhp ps bs
 have e:(ze6 ps bs)[j]'hj=litF (ps[j]'(by omega)) (bs[j]'(by omega)):=List.getElem_zipWith ..
 exact ⟨_,_,List.getElem_mem _,e⟩
theorem cubeF_nodes (hps:zhw ps) (bs:List Bool):(zay ps bs).nodes<=2001:=by
 have h0:=zg8 (ze6 ps bs)
 have h1:=sum_c (F:=za0.nodes) (c:=2) (xs:=ze6 ps bs) fun g hg=>by obtain ⟨r,b,_,rfl⟩:=cube_lits hg;exact lit_nodes r b
 have h2:=zhp ps bs
 have h3:=hps.1
 unfold zay
 omega
theorem zll (hps:zhw ps) (bs:List Bool):(zay ps bs).okB 40 100:=by
 refine za0.okB_mono (n:=20) (L:=13) (by decide) (by decide) _ (zib (by decide) (fun g hg=>?_) ?_)
 ·obtain ⟨r,b,hr,rfl⟩:=cube_lits hg
  have h:(zfa r).okB 20 11:=zhj ((hps.2 r hr).plain (by decide))
  unfold litF
  split
  ·exact za0.okB_mono (by decide) (by decide) _ h
  ·exact zhi (by decide) (by simp) fun g hg=>by rw [bE.1 hg];exact okB_cl (by decide) _ h
 ·have:=zhp ps bs;have:=hps.1;omega
theorem pre_nodes (hs:zbg 3 s) (hw:zkv s) (act:Int) (f:za0):(zl4 s act f).nodes<=122+3*f.nodes:=by
 unfold zl4
 split
 ·have:=zg8 [f];simp only [bI,bW,b5,cR] at this;omega
 ·split
  ·have h1:=zg8 [zep s (zab s act).1,((f.flat false).forg (zd6 (zab s act).1 s.vars.length)).each (zbn (zcc (zab s act).1 s.vars.length) (zd2 (zab s act).1 s.vars.length))]
   simp only [bI,bW,b5,cR] at h1
   have h2:=canF_nodes (s:=s) (c:=(zab s act).1) hs.vars (zkh hw act)
   have h3:=zg4 (zbn (zcc (zab s act).1 s.vars.length) (zd2 (zab s act).1 s.vars.length)) ((f.flat false).forg (zd6 (zab s act).1 s.vars.length))
   have h4:=forg_nodes (zd6 (zab s act).1 s.vars.length) (f.flat false)
   have h5:=zem f false
   have h6:=zeq f
   omega
  ·show (zcj false).nodes<=_;rw [za0.nodes_eq];show 1+0<=_;omega
def zb1 (s:zam) (locs:List Int) (act:Int) (f:za0):List za0:=if act=-1 then [atF s (stkF s locs) 0,f] else [zl4 s act f]
def cndF (ps:List za8) (x:zcw) (tl:List za0):za0:=zca (zay ps x.bits :: tl)
def zaf (s:zam) (ps:List za8):List zcw->List Int->List za0
  | [],_=>[]
  | [x],_=>[cndF ps x []]
  | x :: _ :: _,[]=>[cndF ps x []]
  | x :: y :: ys,c :: cs=>cndF ps x (zb1 s x.locs c ((zaf s ps (y :: ys) cs).headD (zcj false))) :: zaf s ps (y :: ys) cs
theorem zcu (s:zam) (ps:List za8):∀ (xs:List zcw) (cs:List Int),(zaf s ps xs cs).length=min xs.length (cs.length+1)
 | [],_=>by simp [zaf]
 | [x],cs=>by simp [zaf]
 | x :: y :: ys,[]=>by simp [zaf]
 | x :: y :: ys,c :: cs=>by
  rw [zaf,bP,zcu s ps (y :: ys) cs];simp only [bP];omega
theorem zlm (s:zam) (ps:List za8):∀ (xs:List zcw) (cs:List Int) {i:Nat} {x:zcw}, xs[i]?=some x->i+1=min xs.length (cs.length+1)->(zaf s ps xs cs)[i]?=some (cndF ps x [])
 | [],_,i,x,h,_=>by simp at h
 | [y],cs,i,x,h,hi=>by
  obtain rfl:i=0:=by simp only [bP,cT] at hi;omega
  simp at h;subst h;rfl
 | y :: z :: ys,[],i,x,h,hi=>by
  obtain rfl:i=0:=by simp only [bP,cT] at hi;omega
  simp at h;subst h;rfl
 | y :: z :: ys,c :: cs,i,x,h,hi=>by
  obtain ⟨k,rfl⟩:∃ k,i=k+1:=⟨i - 1,by simp only [bP] at hi;omega⟩
  rw [zaf,dE]
  exact zlm s ps (z :: ys) cs (by simpa using h) (by simp only [bP] at hi ⊢;omega)
theorem cnd_mid (s:zam) (ps:List za8):∀ (xs:List zcw) (cs:List Int) {i:Nat} {x:zcw} {c:Int} {g:za0}, xs[i]?=some x->cs[i]?=some c->(zaf s ps xs cs)[i+1]?=some g->(zaf s ps xs cs)[i]?=some (cndF ps x (zb1 s x.locs c g))
 | [],_,i,x,c,g,h,_,_=>by simp at h
 | [y],cs,i,x,c,g,h,_,hg=>by simp [zaf] at hg
 | y :: z :: ys,[],i,x,c,g,h,hc,hg=>by simp at hc
 | y :: z :: ys,b :: cs,0,x,c,g,h,hc,hg=>by
  simp at h hc;subst h;subst hc
  rw [zaf,dE] at hg
  rw [zaf,List.getElem?_cons_zero]
  cases e:zaf s ps (z :: ys) cs with
  | nil=>rw [e] at hg;simp at hg
  | cons q l=>rw [e] at hg;simp at hg;subst hg;rfl
 | y :: z :: ys,b :: cs,i+1,x,c,g,h,hc,hg=>by
  rw [zaf,dE] at hg ⊢
  exact cnd_mid s ps (z :: ys) cs (by simpa using h) (by simpa using hc) hg
def CdOk (k:Nat) (f:za0):Prop:=f.okB (40*30 ^ k) (210+70*k)/\f.nodes<=6000*4 ^ k
theorem CdOk.mono (h:k<=m) (hf:CdOk k f):CdOk m f :=
 ⟨za0.okB_mono (cU _ (cV (by decide) h)) (by omega) _ hf.1,bS hf.2 (cU _ (cV (by decide) h))⟩
theorem cnd_one (hps:zhw ps) (x:zcw) (k:Nat):CdOk k (cndF ps x []):=by
 refine CdOk.mono (bL k) ⟨?_,?_⟩
 ·exact za0.okB_mono (by decide) (by decide) _ (zib (n:=40) (L:=100) (by decide) (fun g hg=>by rw [bE.1 hg];exact zll hps _) (by show 1<=_;decide))
 ·have:=zg8 [zay ps x.bits];have:=cubeF_nodes hps x.bits;simp only [bI,bW,b5,cR] at *
  show (zca [zay ps x.bits]).nodes<=_;omega
theorem ahead_ok (hs:zbg 3 s) (hw:zkv s) (hk:k<=3) (hf:CdOk k f) (locs:List Int) (act:Int):(∀ g ∈ zb1 s locs act f,g.okB (40*30 ^ (k+1)) (210+70*k+61))/\((zb1 s locs act f).map za0.nodes).sum<=2500+3*f.nodes/\(zb1 s locs act f).length<=2:=by
 have e:40*30 ^ (k+1)=30*(40*30 ^ k):=by rw [Nat.pow_succ];omega
 have h0:40*30 ^ k<=40*30 ^ 3:=cU _ (cV (by decide) hk)
 have h1:1<=30 ^ k:=Nat.pow_pos (by decide)
 have hwd:f.wid<=1000000000000:=by
  have:=zeq f;have:=hf.2
  have:6000*4 ^ k<=6000*4 ^ 3:=cU _ (cV (by decide) hk)
  omega
 unfold zb1
 split
 ·refine ⟨fun g hg=>?_,?_,by simp⟩
  ·rcases bU.1 hg with rfl | hg
   ·exact za0.okB_mono (by omega) (by omega) _ (at_ok9 (za0.okB_mono (by decide) (by decide) _ (stkF_ok hs hw locs)) s 0)
   ·rw [bE.1 hg];exact za0.okB_mono (by omega) (by omega) _ hf.1
  ·simp only [bI,bW,b5,cR]
   have:=stkF_nodes hs hw locs
   have:(atF s (stkF s locs) 0).nodes<=(stkF s locs).nodes:=zg4 _ _
   omega
 ·refine ⟨fun g hg=>?_,?_,by simp⟩
  ·rw [bE.1 hg,e]
   exact preK_ok hs hw act hf.1 (by omega) (by omega) (by omega) (by omega) hwd
  ·simp only [bI,bW,b5,cR]
   have:=pre_nodes hs hw act f;omega
theorem cnd_next (hs:zbg 3 s) (hw:zkv s) (hps:zhw ps) (x:zcw) (hk:k<=3) (hf:CdOk k f) (act:Int):CdOk (k+1) (cndF ps x (zb1 s x.locs act f)):=by
 obtain ⟨h1,h2,h3⟩:=ahead_ok hs hw hk hf x.locs act
 have h0:40*30 ^ (k+1)<=40*30 ^ 4:=cU _ (cV (by decide) (by omega))
 have h4:1<=30 ^ (k+1):=Nat.pow_pos (by decide)
 refine ⟨?_,?_⟩
 ·refine za0.okB_mono (bF _) (by omega) _ (zib (n:=40*30 ^ (k+1)) (L:=210+70*k+61) (by omega) (fun g hg=>?_) (by rw [bP];omega))
  rcases bU.1 hg with rfl | hg
  ·exact za0.okB_mono (by omega) (by omega) _ (zll hps _)
  ·exact h1 g hg
 ·have h5:=zg8 (zay ps x.bits :: zb1 s x.locs act f)
  have h6:=cubeF_nodes hps x.bits
  have h7:=hf.2
  have h8:1<=4 ^ k:=Nat.pow_pos (by decide)
  have h9:6000*4 ^ (k+1)=4*(6000*4 ^ k):=by rw [Nat.pow_succ];omega
  rw [bI,b5] at h5
  show (zca (zay ps x.bits :: zb1 s x.locs act f)).nodes<=_
  omega
theorem cnd_ok (hs:zbg 3 s) (hw:zkv s) (hps:zhw ps):∀ (xs:List zcw) (cs:List Int),xs.length<=5->∀ f ∈ zaf s ps xs cs,CdOk (xs.length - 1) f
 | [],_,_,f,hf=>by simp [zaf] at hf
 | [x],_,_,f,hf=>by rw [zaf] at hf;rw [bE.1 hf];exact cnd_one hps x _
 | x :: y :: ys,[],_,f,hf=>by rw [zaf] at hf;rw [bE.1 hf];exact cnd_one hps x _
 | x :: y :: ys,c :: cs,hl,f,hf=>by
  have ih:=cnd_ok hs hw hps (y :: ys) cs (by simp only [bP] at hl ⊢;omega)
  have e:(x :: y :: ys).length - 1=((y :: ys).length - 1)+1:=by simp
  have hk:(y :: ys).length - 1<=3:=by simp only [bP] at hl ⊢;omega
  rw [zaf] at hf
  rw [e]
  rcases bU.1 hf with rfl | hf
  ·refine cnd_next hs hw hps x hk ?_ c
   have hn:=zcu s ps (y :: ys) cs
   cases e2:zaf s ps (y :: ys) cs with
   | nil=>rw [e2] at hn;simp only [bP,cT] at hn;omega
   | cons q l=>exact ih q (by rw [e2];exact bG ..)
  ·exact (ih f hf).mono (by omega)
theorem zk6 (hs:zbg 3 s) (hw:zkv s) (hps:zhw ps) {xs:List zcw} (cs:List Int) (hl:xs.length<=5) (hf:f ∈ zaf s ps xs cs):f.okB 32400000 490/\f.nodes<=1536000:=by
 have h:=(cnd_ok hs hw hps xs cs hl f hf).mono (show xs.length - 1<=4 by omega)
 exact ⟨h.1,h.2⟩
theorem nb1_4:Zero Tryz.prog 35 [.d (.raw (.int .i64 0)),.d (.sl 3 []),.d (.raw (.bool false)),.d (nsl []),.d (.raw (.bool false)),.d (.sl 6 [])]:=⟨(Value.agg #[.int .i64 0,.slice none 0 0,.bool false,.slice none 0 0,.bool false,.slice none 0 0]),[.int .i64 0,.slice none 0 0,.bool false,.slice none 0 0,.bool false,.slice none 0 0],by kernel_rfl,rfl,(fun _ _=>⟨DR.raw _ rfl,DR.nil _ _ _ (fun _=>rfl) (bL _),DR.raw _ rfl,DR.nil _ _ _ (fun _=>rfl) (bL _),DR.raw _ rfl,DR.nil _ _ _ (fun _=>rfl) (bL _),trivial⟩)⟩
structure zdw where
  states:List zcw
  acts:List Int
def zdw.d (x:zdw):List D:=[.sl 2 (x.states.map zcw.d),.sl 1 (x.acts.map zak)]
def zFm:za0:=⟨0,zR,[]⟩
def zgq (s:zam) (ps:List za8) (p:zdw) (i:Int):List za0:=List.replicate (i+1).toNat zFm++(zaf s ps p.states p.acts).drop (i+1).toNat
variable {p:zdw}
theorem cndO_len {i:Int} (h:(i+1).toNat<=(zaf s ps p.states p.acts).length):(zgq s ps p i).length=(zaf s ps p.states p.acts).length:=by
 unfold zgq;rw [bK,cW,dG];omega
theorem cndO_start (h:(zaf s ps p.states p.acts).length<=n):List.replicate n zFm=zgq s ps p ((n:Int) - 1):=by
 unfold zgq;rw [show ((n:Int) - 1+1).toNat=n by omega,List.drop_of_length_le h,b8]
theorem cndO_end {i:Int} (h:i<0):zgq s ps p i=zaf s ps p.states p.acts:=by
 unfold zgq;rw [show (i+1).toNat=0 by omega];rfl
theorem cndO_at {g:za0} (h:(zgq s ps p (k:Int))[k+1]?=some g):(zaf s ps p.states p.acts)[k+1]?=some g:=by
 unfold zgq at h
 rw [show ((k:Int)+1).toNat=k+1 by omega,dN (by rw [cW];exact bF _),cW,c6,List.getElem?_drop,Nat.add_zero] at h
 exact h
theorem cndO_set {g:za0} (h:(zaf s ps p.states p.acts)[k]?=some g):(zgq s ps p (k:Int)).set k g=zgq s ps p ((k:Int) - 1):=by
 obtain ⟨hk,rfl⟩:=dA.1 h
 unfold zgq
 rw [show ((k:Int)+1).toNat=k+1 by omega,show ((k:Int) - 1+1).toNat=k by omega,List.drop_eq_getElem_cons hk,List.replicate_succ', cX,List.set_append_right _ _ (by rw [cW];exact bF _),cW,c6]
 rfl
theorem aheadW (hs:zbg 3 s) (hw:zkv s) (hf:f.okB 32400000 490/\f.nodes<=1536000) (locs:List Int) (act:Int):(∀ g ∈ zb1 s locs act f,g.okB 972000000 560)/\(zb1 s locs act f).length<=2:=by
 have hwd:f.wid<=1000000000000:=by have:=zeq f;have:=hf.2;omega
 unfold zb1
 split
 ·refine ⟨fun g hg=>?_,by simp⟩
  rcases bU.1 hg with rfl | hg
  ·exact za0.okB_mono (by decide) (by decide) _ (at_ok9 (za0.okB_mono (by decide) (by decide) _ (stkF_ok hs hw locs)) s 0)
  ·rw [bE.1 hg];exact za0.okB_mono (by decide) (by decide) _ hf.1
 ·refine ⟨fun g hg=>?_,by simp⟩
  rw [bE.1 hg]
  exact za0.okB_mono (by decide) (by decide) _ (preK_ok hs hw act hf.1 (by decide) (by decide) (by decide) (by decide) hwd)
theorem Lahead (s:zam) (x:zcw) (act:Int) (f:za0) (hs:zbg 3 s) (hw:zkv s) (hl:x.locs.length<=9223372036854775807) {L:Nat} (hf:f.okB n L) (hn:n<=33000000) (h30:30<=n) (hL3:3<=L) (hL:L<=1900) (hfw:f.wid<=1000000000000):Fn Tryz.prog 34 [] [vG [.d (.sl 1 (s.vars.map zdy)),.d (.sl 5 (s.bounds.map zaj.d)),cI s.init.kind,cPs s.init.r.t.parts,cB s.init.r.t.k.neg,.d (nsl s.init.r.t.k.abs),cB s.init.r.eq,cFs s.init.kids,.d (.sl 3 (s.procs.map zb9.d)),.d (.sl 10 (s.acts.map zap.d))],vG [cIs x.locs,.d (.sl 1 (x.bits.map zd0))],vI act,vG [cI f.kind,cPs f.r.t.parts,cB f.r.t.k.neg,.d (nsl f.r.t.k.abs),cB f.r.eq,cFs f.kids]] (vFs (zb1 s x.locs act f)) []:=by
 refine fB Tryz.func34 rfl 22 fun w H B a h=>Jq 5 [] [(2,vI act),(4,vp 5 0),(5,vp 6 0),(7,vp 7 0),(8,vW zal)] [(5,.box [.d (.sl 1 (s.vars.map zdy)),.d (.sl 5 (s.bounds.map zaj.d)),cI s.init.kind,cPs s.init.r.t.parts,cB s.init.r.t.k.neg,.d (nsl s.init.r.t.k.abs),cB s.init.r.eq,cFs s.init.kids,.d (.sl 3 (s.procs.map zb9.d)),.d (.sl 10 (s.acts.map zap.d))]),(6,.box [cIs x.locs,.d (.sl 1 (x.bits.map zd0))]),(7,.box [cI f.kind,cPs f.r.t.parts,cB f.r.t.k.neg,.d (nsl f.r.t.k.abs),cB f.r.eq,cFs f.kids])] h fun a w h=>qW (Je 8 [] [] [(10,vb (act == (-1)))] h fun a w h=>cS (act == (-1)) h (fun hc1=>?_) (fun hc2=>?_))
 ·refine Jg 8 [(3,.call (LStuck s x.locs 0 hs hw hl (by decide))),(5,.g (Op.buildD (d:=16) (len:=2) (rows:=[(atF s (stkF s x.locs) 0),f].map za0.d) (rs:=[(14,vG [cI (atF s (stkF s x.locs) 0).kind,cPs (atF s (stkF s x.locs) 0).r.t.parts,cB (atF s (stkF s x.locs) 0).r.t.k.neg,.d (nsl (atF s (stkF s x.locs) 0).r.t.k.abs),cB (atF s (stkF s x.locs) 0).r.eq,cFs (atF s (stkF s x.locs) 0).kids]),(15,vG [cI f.kind,cPs f.r.t.parts,cB f.r.t.k.neg,.d (nsl f.r.t.k.abs),cB f.r.eq,cFs f.kids])]) kb_1 (.cons (i:=0) (OV.tmp 14 _) (.cons (i:=1) (OV.tmp 15 _) (.nil))) (by simp only [bI,bW,cC,cD,b8,za0.d_eq];kernel_rfl) rfl (by simp [za0.d_len]) (by decide) (by decide)))] [5,10] [(8,(vFs [(atF s (stkF s x.locs) 0),f]))] [6] [] h fun a w h=>qV (za5 (rT (.c (cFs [(atF s (stkF s x.locs) 0),f])) h rfl ?_));unfold zb1;rw [if_pos (by have:=hc1;simpa using this)];try rfl
 refine qU (za1 (Jq 8 [(3,.call (LPre s act f hs hw hf hn h30 hL3 hL hfw)),(4,.g (bD 21 ([(zl4 s act f)].map za0.d) [(20,vG [cI (zl4 s act f).kind,cPs (zl4 s act f).r.t.parts,cB (zl4 s act f).r.t.k.neg,.d (nsl (zl4 s act f).r.t.k.abs),cB (zl4 s act f).r.eq,cFs (zl4 s act f).kids])] kb_1 (.cons (i:=0) (OV.tmp 20 _) (.nil)) (by simp only [bI,bW,cC,cD,b8,za0.d_eq];kernel_rfl) (by simp [za0.d_len])))] [(8,(vFs [(zl4 s act f)]))] [] h fun a w h=>qV (rT (.c (cFs [(zl4 s act f)])) h rfl ?_)));unfold zb1;rw [if_neg (by have:=hc2;simpa using this)];try rfl
theorem zid (s:zam) (ps:List za8) (p:zdw) (hs:zbg 3 s) (hw:zkv s) (hps:zhw ps) (hpl:p.states.length<=5) (hpa:p.acts.length<=6) (hpx:∀ x ∈ p.states,x.locs.length<=8/\x.bits.length<=30):Fn Tryz.prog 12 [] [vG [.d (.sl 1 (s.vars.map zdy)),.d (.sl 5 (s.bounds.map zaj.d)),cI s.init.kind,cPs s.init.r.t.parts,cB s.init.r.t.k.neg,.d (nsl s.init.r.t.k.abs),cB s.init.r.eq,cFs s.init.kids,.d (.sl 3 (s.procs.map zb9.d)),.d (.sl 10 (s.acts.map zap.d))],(vRs ps),vG [.d (.sl 2 (p.states.map zcw.d)),cIs p.acts]] (vFs (zaf s ps p.states p.acts)) []:=by
 have lps:=hps.1;refine fB Tryz.func12 rfl 63 fun w H B a h=>Jq 5 [] [(1,(vRs ps)),(3,vp 5 0),(5,vp 6 0),(6,vW zal)] [(5,.box [.d (.sl 1 (s.vars.map zdy)),.d (.sl 5 (s.bounds.map zaj.d)),cI s.init.kind,cPs s.init.r.t.parts,cB s.init.r.t.k.neg,.d (nsl s.init.r.t.k.abs),cB s.init.r.eq,cFs s.init.kids,.d (.sl 3 (s.procs.map zb9.d)),.d (.sl 10 (s.acts.map zap.d))]),(6,.box [.d (.sl 2 (p.states.map zcw.d)),cIs p.acts])] h fun a w h=>?_
 obtain ⟨n9,hn9⟩:∃ z_:Nat,z_=min p.states.length (p.acts.length+1):=⟨_,rfl⟩;refine Je 7 [(2,.len (za4 2 zcw.d p.states)),(5,.len (za4 1 zak p.acts)),(6,.add .i64 (m:=(p.acts.length:Int)) (n:=1) i6),(7,.g (Op.min2 (d:=19) (tys:=#[3,3]) (k:=.i64) (m:=(p.states.length:Int)) (n:=((p.acts.length:Int)+1)) (r:=(n9:Int)) (OV.tmp 14 _) (OV.tmp 18 _) (by omega)))] [] [(7,vN n9)] h fun a w h=>Jg 7 [(1,.g (Op.makeO' (d:=21) (n:=7) (L:=n9) (zs:=[.raw (.int .i64 0),.sl 3 [],.raw (.bool false),nsl [],.raw (.bool false),.sl 6 []]) (rows:=(List.replicate n9 zFm).map za0.d) la_7 nb1_4 rfl (OV.tmp 20 _) (OV.tmp 20 _) (by omega) (by rw [List.map_replicate,za0.d_eq];rfl)))] [] [(8,vO 7 n9)] [] [(7,.row 35 6 ((List.replicate n9 zFm).map za0.d))] h fun a w h=>qW (Je 8 [(1,.sub .i64 (m:=(n9:Int)) (n:=1) i6)] [] [(9,vI ((n9:Int) - 1))] h fun a w h=>qZ ?_);replace h:=cvM [] [] [] [(7,.row 35 6 ((zgq s ps p ((n9:Int) - 1)).map za0.d))] (by rw [<- show ((List.replicate n9 zFm):List za0)=(zgq s ps p ((n9:Int) - 1)) from (cndO_start (by rw [zcu];omega))];kernel_rfl) h
 refine zbx (ι:=(Int)) (fun i=>-1<=i/\i<(n9:Int))
   [] (fun i=>[(9,vI i)])
   [] (fun i=>[(7,.row 35 6 ((zgq s ps p i).map za0.d))])
   (fun i=>(i+1).toNat) ((n9:Int) - 1) ?_ h ?_
 ·constructor <;> omega
 clear h;rintro i a w hI h;obtain ⟨hI1,hI2⟩:=hI;have lco:(zgq s ps p i).length=n9:=by rw [cndO_len (by rw [zcu];omega),zcu];omega
 refine qW (Je 8 [] [] [(25,vb (decide (i>=0)))] h fun a w h=>zae (i>=0) h (fun hc1 hc1'=>?_) (fun hc4 hc4'=>?_))
 ·refine qU (za1 (qW (qZ ?_)));obtain ⟨k,hkk⟩:∃ k_:Nat,i=(k_:Int):=⟨_,(cL (dT hc1)).symm⟩;replace h:=cvM [] [(9,vN k)] [] [] (by rw [hkk];kernel_rfl) h;replace h:=cvM [] [] [] [(7,.row 35 6 ((zgq s ps p (k:Int)).map za0.d))] (by rw [<- show ((zgq s ps p i):List za0)=(zgq s ps p (k:Int)) from (by rw [hkk])];kernel_rfl) h;rw [hkk] at lco;obtain ⟨x1,hx1⟩:=gl p.states k;refine Jg 8 [(3,.g (xD 31 29 ln14_4 (za7 hx1 (f:=zcw.d)) (OV.tmp 30 _)))] [25] [(10,vp 8 0)] [] [(8,.box [cIs x1.locs,.d (.sl 1 (x1.bits.map zd0))])] h fun a w h=>Jg 9 [(3,.call (LCube ps x1.bits hps (by have:=(hpx x1 (lM hx1)).2;omega))),(4,.g (Op.buildO (d:=37) (n:=9) (len:=1) (rows:=[(zay ps x1.bits)].map za0.d) (rs:=[(36,vG [cI (zay ps x1.bits).kind,cPs (zay ps x1.bits).r.t.parts,cB (zay ps x1.bits).r.t.k.neg,.d (nsl (zay ps x1.bits).r.t.k.abs),cB (zay ps x1.bits).r.eq,cFs (zay ps x1.bits).kids])]) kb_1 (.cons (i:=0) (OV.tmp 36 _) (.nil)) (by simp only [bI,bW,cC,cD,b8,za0.d_eq];kernel_rfl) rfl (by simp [za0.d_len]) (by decide) (by decide)))] [] [(11,vO 9 1)] [] [(9,.row 35 6 ([(zay ps x1.bits)].map za0.d))] h fun a w h=>qW (Je 10 [(1,.add .i64 (m:=(k:Int)) (n:=1) i6)] [] [(41,vb (decide (((k:Int)+1)<(n9:Int))))] h fun a w h=>zae (((k:Int)+1)<(n9:Int)) h (fun hc2 hc2'=>?_) (fun hc3 hc3'=>?_))
  ·obtain ⟨x3,hx3⟩:=gl p.acts k;obtain ⟨x4,hx4⟩:∃ z_:za0,(zgq s ps p (k:Int))[k+1]?=some z_:=⟨_,b7 (by first | omega | (have:=dT hc2;omega))⟩;have hxc:=zk6 hs hw hps p.acts hpl (lM (cndO_at hx4));have lah9:=(aheadW hs hw hxc x1.locs x3).2;refine Jh 10 [(6,.g (xD 48 46 zjl (za7 hx3 (f:=zak)) (OV.tmp 47 _))),(10,.add .i64 (m:=(k:Int)) (n:=1) i6),(11,.g (xO 53 50 7 n9 (k+1) zgm (OV.tmp 52 _))),(12,.g (Op.loadR_agg (d:=54) (t:=53) (n:=7) (i:=(k+1)) (fo:=0) (rty:=35) (es:=6) (xs:=[.raw (.int .i64 x4.kind),.sl 3 (x4.r.t.parts.map za3.d),.raw (.bool x4.r.t.k.neg),nsl x4.r.t.k.abs,.raw (.bool x4.r.eq),.sl 6 (x4.kids.map za0.d)]) zdb rfl ((za7 hx4 (f:=za0.d)).trans (congrArg some (za0.d_eq x4))) rfl rfl)),(13,.call (Lahead s x1 x3 x4 hs hw (by have:=(hpx x1 (lM hx1)).1;omega) hxc.1 (by decide) (by decide) (by decide) (by decide) (by have:=zeq x4;have:=hxc.2;omega))),(14,.g (Op.appOD (d:=56) (t:=42) (u:=55) (n:=9) (n':=10) (len:=1) (len':=([(zay ps x1.bits)]++(zb1 s x1.locs x3 x4)).length) (rows:=[(zay ps x1.bits)].map za0.d) (rows2:=(zb1 s x1.locs x3 x4).map za0.d) (rows':=([(zay ps x1.bits)]++(zb1 s x1.locs x3 x4)).map za0.d) la_7 (by first | exact (bC _).symm | simp) (by first | (rw [bK,bC];done) | (simp;done) | (simp;omega)) (by simp) (by simp [za0.d_len]) (by first | omega | (simp at *;done) | (simp at *;omega))))] [10,41] [(11,vO 10 ([(zay ps x1.bits)]++(zb1 s x1.locs x3 x4)).length)] [8,9] [(10,.row 35 6 (([(zay ps x1.bits)]++(zb1 s x1.locs x3 x4)).map za0.d))] h fun a w h=>za1 ?_;rw [show (([(zay ps x1.bits)]++(zb1 s x1.locs x3 x4)):List za0)=(zay ps x1.bits :: (zb1 s x1.locs x3 x4)) from rfl] at h;replace h:=zie 10 6 35 ((zay ps x1.bits :: (zb1 s x1.locs x3 x4)).map za0.d) h [(zay ps x1.bits :: (zb1 s x1.locs x3 x4)).length] ⟨by first | exact (bC _).symm | (simp;done) | (simp;omega),trivial⟩;have hall:∀ g ∈ (zay ps x1.bits :: (zb1 s x1.locs x3 x4)),g.okB 1000000000 700/\True:=fun g hg=>⟨(bU.1 hg).elim (fun e=>by rw [e];exact za0.okB_mono (by decide) (by decide) _ (zll hps _)) (fun hg=>za0.okB_mono (by decide) (by decide) _ ((aheadW hs hw hxc x1.locs _).1 g hg)),trivial⟩
   have hall:=fun g hg=>(hall g hg).1
   have lah:(zay ps x1.bits :: (zb1 s x1.locs x3 x4)).length<=3:=by rw [bP];have:=(aheadW hs hw hxc x1.locs x3).2;omega
   obtain ⟨x7,hx7⟩:∃ z_:za0,(zgq s ps p (k:Int))[k]?=some z_:=⟨_,b7 (by first | omega | (have:=dT hc2;omega))⟩;refine Jh 11 [(3,.call (LAll (zay ps x1.bits :: (zb1 s x1.locs x3 x4)) (fun g hg=>za0.okB_mono (by decide) (by decide) _ (hall g hg)) (by omega))),(4,.g (xO 61 57 7 n9 k zgm (OV.tmp 58 _))),(5,.g (Op.storeR (t:=61) (n:=7) (i:=k) (fo:=0) (rty:=35) (es:=6) (r:=za0.d x7) (ds:=[.raw (.int .i64 (zca (zay ps x1.bits :: (zb1 s x1.locs x3 x4))).kind),.sl 3 ((zca (zay ps x1.bits :: (zb1 s x1.locs x3 x4))).r.t.parts.map za3.d),.raw (.bool (zca (zay ps x1.bits :: (zb1 s x1.locs x3 x4))).r.t.k.neg),nsl (zca (zay ps x1.bits :: (zb1 s x1.locs x3 x4))).r.t.k.abs,.raw (.bool (zca (zay ps x1.bits :: (zb1 s x1.locs x3 x4))).r.eq),.sl 6 ((zca (zay ps x1.bits :: (zb1 s x1.locs x3 x4))).kids.map za0.d)]) (rs:=[(60,vG [cI (zca (zay ps x1.bits :: (zb1 s x1.locs x3 x4))).kind,cPs (zca (zay ps x1.bits :: (zb1 s x1.locs x3 x4))).r.t.parts,cB (zca (zay ps x1.bits :: (zb1 s x1.locs x3 x4))).r.t.k.neg,.d (nsl (zca (zay ps x1.bits :: (zb1 s x1.locs x3 x4))).r.t.k.abs),cB (zca (zay ps x1.bits :: (zb1 s x1.locs x3 x4))).r.eq,cFs (zca (zay ps x1.bits :: (zb1 s x1.locs x3 x4))).kids])]) (rows:=(zgq s ps p (k:Int)).map za0.d) (rows':=((zgq s ps p (k:Int)).set k (zca (zay ps x1.bits :: (zb1 s x1.locs x3 x4)))).map za0.d) zdb (OV.tmp 60 _) rfl rfl rfl (za7 hx7 (f:=za0.d)) (by rw [za0.d_len];decide) (zbs (xs:=(zgq s ps p (k:Int))) (F:=za0.d) k _ _ (by rw [za0.d_eq x7,za0.d_eq (zca (zay ps x1.bits :: (zb1 s x1.locs x3 x4)))];rfl))))] [11] [] [] [(7,.row 35 6 (((zgq s ps p (k:Int)).set k (zca (zay ps x1.bits :: (zb1 s x1.locs x3 x4)))).map za0.d))] h fun a w h=>za6 (za1 (Jf 11 [(1,.sub .i64 (m:=(k:Int)) (n:=1) i6)] [] [(9,vI ((k:Int) - 1))] h fun a w h=>za1 ?_));replace h:=cvM [] [] [] [(7,.row 35 6 ((zgq s ps p ((k:Int) - 1)).map za0.d))] (by rw [<- show (((zgq s ps p (k:Int)).set k (zca (zay ps x1.bits :: (zb1 s x1.locs x3 x4)))):List za0)=(zgq s ps p ((k:Int) - 1)) from (cndO_set (cnd_mid s ps p.states p.acts hx1 hx3 (cndO_at hx4)))];kernel_rfl) h;refine zaa (x:=i) (y:=(k:Int) - 1) h ?_ ?_
   ·constructor <;> omega
   show ((k:Int) - 1+1).toNat<(i+1).toNat;omega
  refine qU (za1 ?_);replace h:=cvM [] [] [] [(9,.row 35 6 ([zay ps x1.bits].map za0.d))] (by rw [<- show ([(zay ps x1.bits)]:List za0)=[zay ps x1.bits] from rfl];kernel_rfl) h;replace h:=zie 9 6 35 ([zay ps x1.bits].map za0.d) h [1] ⟨by first | exact (bC _).symm | (simp;done) | (simp;omega),trivial⟩;have hall:∀ g ∈ [zay ps x1.bits],g.okB 1000000000 700:=fun g hg=>by rw [bE.1 hg];exact za0.okB_mono (by decide) (by decide) _ (zll hps _)
  have lah:[zay ps x1.bits].length<=3:=by simp
  obtain ⟨x9,hx9⟩:∃ z_:za0,(zgq s ps p (k:Int))[k]?=some z_:=⟨_,b7 (by first | omega | (have:=dT hc3;omega))⟩;refine Jh 11 [(3,.call (LAll [zay ps x1.bits] (fun g hg=>za0.okB_mono (by decide) (by decide) _ (hall g hg)) (by omega))),(4,.g (xO 61 57 7 n9 k zgm (OV.tmp 58 _))),(5,.g (Op.storeR (t:=61) (n:=7) (i:=k) (fo:=0) (rty:=35) (es:=6) (r:=za0.d x9) (ds:=[.raw (.int .i64 (zca [zay ps x1.bits]).kind),.sl 3 ((zca [zay ps x1.bits]).r.t.parts.map za3.d),.raw (.bool (zca [zay ps x1.bits]).r.t.k.neg),nsl (zca [zay ps x1.bits]).r.t.k.abs,.raw (.bool (zca [zay ps x1.bits]).r.eq),.sl 6 ((zca [zay ps x1.bits]).kids.map za0.d)]) (rs:=[(60,vG [cI (zca [zay ps x1.bits]).kind,cPs (zca [zay ps x1.bits]).r.t.parts,cB (zca [zay ps x1.bits]).r.t.k.neg,.d (nsl (zca [zay ps x1.bits]).r.t.k.abs),cB (zca [zay ps x1.bits]).r.eq,cFs (zca [zay ps x1.bits]).kids])]) (rows:=(zgq s ps p (k:Int)).map za0.d) (rows':=((zgq s ps p (k:Int)).set k (zca [zay ps x1.bits])).map za0.d) zdb (OV.tmp 60 _) rfl rfl rfl (za7 hx9 (f:=za0.d)) (by rw [za0.d_len];decide) (zbs (xs:=(zgq s ps p (k:Int))) (F:=za0.d) k _ _ (by rw [za0.d_eq x9,za0.d_eq (zca [zay ps x1.bits])];rfl))))] [10,11,41] [] [8] [(7,.row 35 6 (((zgq s ps p (k:Int)).set k (zca [zay ps x1.bits])).map za0.d))] h fun a w h=>za6 (za1 (Jf 11 [(1,.sub .i64 (m:=(k:Int)) (n:=1) i6)] [] [(9,vI ((k:Int) - 1))] h fun a w h=>za1 ?_));replace h:=cvM [] [] [] [(7,.row 35 6 ((zgq s ps p ((k:Int) - 1)).map za0.d))] (by rw [<- show (((zgq s ps p (k:Int)).set k (zca [zay ps x1.bits])):List za0)=(zgq s ps p ((k:Int) - 1)) from (cndO_set (zlm s ps p.states p.acts hx1 (by have:=dF hc3;omega)))];kernel_rfl) h;refine zaa (x:=i) (y:=(k:Int) - 1) h ?_ ?_
  ·constructor <;> omega
  show ((k:Int) - 1+1).toNat<(i+1).toNat;omega
 refine exA (Jg 11 [] [1,3,5,7,8,9,25] [(6,vO 7 n9)] [5,6] [] h fun a w h=>qV ?_);have lcl:(zaf s ps p.states p.acts).length=n9:=by rw [zcu];omega
 replace h:=cv (fun z_:List za0=>F.of [(6,vO 7 n9)] [(7,.row 35 6 (z_.map za0.d))]) (show ((zgq s ps p i):List za0)=(zaf s ps p.states p.acts) from (cndO_end (by have:=dF hc4;omega))) (h.conv (by kernel_rfl));replace h:=zie 7 6 35 ((zaf s ps p.states p.acts).map za0.d) h [n9] ⟨by first | exact (bC _).symm | (simp;done) | (simp;omega),trivial⟩;refine rT (.c (cFs (zaf s ps p.states p.acts))) h rfl ?_;rfl
def tgtB (r:za8):Bool:=((zas r).2 == 0) && (zde (zas r).1 r == 0)
theorem LtightB (r:za8) (hr:TOk 400000000 9000 r.t):Fn Tryz.prog 51 [] [vG [cPs r.t.parts,cB r.t.k.neg,.d (nsl r.t.k.abs),cB r.eq]] (vb (tgtB r)) []:=by
 refine fB Tryz.func51 rfl 17 fun w H B a h=>Jq 0 [] [(1,vp 0 0),(2,vb false)] [(0,.box [cPs r.t.parts,cB r.t.k.neg,.d (nsl r.t.k.abs),cB r.eq])] h fun a w h=>Jg 1 [(1,.call (LTight r hr))] [] [(3,vp 1 0),(4,vI (zas r).2)] [] [(1,.box [cPs (zas r).1.t.parts,cB (zas r).1.t.k.neg,.d (nsl (zas r).1.t.k.abs),cB (zas r).1.eq])] h fun a w h=>?_
 rcases bN ((zas r).2 == 0) with hc1 | hc2
 ·refine Jq 2 [(1,.cmp (op:=.eql) (m:=(zas r).2) (n:=0) (b:=true) .i64 hc1),(5,.call (LSame (zas r).1 r (tight_tok hr (by decide)) (hr.mono (bF _) (by decide)) (by decide) (by decide)))] [(2,vb (zde (zas r).1 r == 0))] [] h fun a w h=>qV (rT (.c (cB (zde (zas r).1 r == 0))) h rfl ?_);unfold tgtB;rw [hc1];try rfl
 refine Jq 2 [(1,.cmp (op:=.eql) (m:=(zas r).2) (n:=0) (b:=false) .i64 hc2)] [(2,vb false)] [] h fun a w h=>qV (rT (.c (cB false)) h rfl ?_);unfold tgtB;rw [hc2];try rfl
def wpX (r:Option Nat) (ds:List Deferred) (P:Program) (c:Code) (Q:Exit->Act->World->Prop) (a:Act) (w:World):Prop :=
  c.wpIn { Fence.wide with round:=r } 9 P (fun ex a' w'=>a'.defers=ds/\Q ex { a' with defers:=[] } w') { a with defers:=ds } w
section
variable {r:Option Nat} {ds:List Deferred} {P:Program} {Q:Exit->Act->World->Prop} {a:Act} {w:World}
theorem zho (h:a.defers=ds):{ { a with defers:=[] } with defers:=ds }=a:=by cases a;cases h;rfl
theorem wpX_mono {c:Code} {Q':Exit->Act->World->Prop} (h:wpX r ds P c Q a w) (hq:∀ e a w,Q e a w->Q' e a w):wpX r ds P c Q' a w :=
 wpIn_mono h fun _ _ _ ⟨h1,h2⟩=>⟨h1,hq _ _ _ h2⟩
theorem wpX_seq {x y:Code} (h:wpX r ds P x (Exit.then (fun a w=>wpX r ds P y Q a w) Q) a w):wpX r ds P (.seq x y) Q a w:=by
 refine wpIn_seq (wpIn_mono h fun e a' w' hq=>?_)
 obtain ⟨h1,h2⟩:=hq
 cases e with
 | normal =>
  have h2:wpX r ds P y Q { a' with defers:=[] } w':=h2
  unfold wpX at h2
  rw [zho h1] at h2
  exact h2
 | _=>exact ⟨h1,h2⟩
theorem wpX_block {c:Code} (h:wpX r ds P c (Exit.inBlock id Q) a w):wpX r ds P (.block id c) Q a w:=by
 refine wpIn_block (wpIn_mono h fun e a' w' hq=>?_)
 obtain ⟨h1,h2⟩:=hq
 cases e with
 | exit id' =>
  simp only [Exit.inBlock] at h2 ⊢
  split
  ·rename_i he;rw [if_pos he] at h2;exact ⟨h1,h2⟩
  ·rename_i he;rw [if_neg he] at h2;exact ⟨h1,h2⟩
 | _=>exact ⟨h1,h2⟩
theorem wpX_skip (hd:a.defers=[]) (h:Q .normal a w):wpX r ds P .skip Q a w:=wpIn_skip ⟨rfl,by cases a;cases hd;exact h⟩
theorem wpX_exit (hd:a.defers=[]) (h:Q (.exit id) a w):wpX r ds P (.exit id) Q a w:=wpIn_exit ⟨rfl,by cases a;cases hd;exact h⟩
theorem wpX_ret (hd:a.defers=[]) (h:Q .ret a w):wpX r ds P .ret Q a w:=wpIn_ret ⟨rfl,by cases a;cases hd;exact h⟩
theorem condX {K:List Nat} {t:Nat} {x y:Code} (b:Bool) (h:St ⟨w0,H0,B0,K,N⟩ (F.of sl lc) a w) (ht:(F.of sl lc).s t=some (vb b)) (hx:b=true->wpX r ds P x Q a w) (hy:b=false->wpX r ds P y Q a w):wpX r ds P (.cond (.tmp t) x y) Q a w:=by
 obtain ⟨H,B,hok⟩:=h
 have:=(hok.slot t _ ht).rawI
 exact wpIn_cond_split (t:=b) this hx hy
theorem loopX0 {ι:Type} {c:Code} (fs:ι->F) (μ:ι->Nat) (x:ι) (h:St e (fs x) a w) (round:∀ x a w,St e (fs x) a w->wpX r ds P c (Exit.then (fun a' w'=>∃ y,μ y<μ x/\St e (fs y) a' w') Q) a w):wpX r ds P (.loop c) Q a w:=by
 have key:∀ n x a w,μ x=n->St e (fs x) a w->∀ (b:Frame) (k:List Item) (cs:List Frame),b.roundOf=({ Fence.wide with round:=r }:Fence).round->({ Fence.wide with round:=r }:Fence).fn b.fn->({ Fence.wide with round:=r }:Fence).room (cs.length+1+9) ->
   ∃ en a' w', (a'.defers=ds/\Q en { a' with defers:=[] } w')/\ArrivesIn (Machine.fenced P { Fence.wide with round:=r }) P (lone (b.atR { a with defers:=ds } (.code c :: .inLoop c :: k)) cs w) b k cs en a' w':=by
  intro n
  induction n using Nat.strongRecOn with
  | _ n ih =>
   intro x a w hn hI b k cs hro hb hr
   obtain ⟨en,a₁,w₁,⟨hd,hq⟩,harr⟩:=round x a w hI b (.inLoop c :: k) cs hro hb hr
   cases en with
   | normal =>
    obtain ⟨y,hlt,hI₁⟩:=hq
    obtain ⟨e₂,a₂,w₂,hq₂,harr₂⟩:=ih (μ y) (hn ▸ hlt) y _ w₁ rfl hI₁ b k cs hro hb hr
    rw [zho hd] at harr₂
    exact ⟨e₂,a₂,w₂,hq₂,.of_steps (StepsIn.trans harr (.one (fenced_calm hb hr rfl) stepR_inLoop)) harr₂⟩
   | exit id=>exact ⟨_,a₁,w₁,⟨hd,hq⟩,.pass (x:=.inLoop c) rfl (fun _ _ => .inl (by simp)) harr⟩
   | goto l=>exact ⟨_,a₁,w₁,⟨hd,hq⟩,.pass (x:=.inLoop c) rfl (fun _ _ => .inl (by simp)) harr⟩
   | ret=>exact ⟨_,a₁,w₁,⟨hd,hq⟩,.pass (x:=.inLoop c) rfl (fun _ _ => .inl (by simp)) harr⟩
   | panic ch=>exact ⟨_,a₁,w₁,⟨hd,hq⟩,.pass (x:=.inLoop c) rfl (fun _ _ => .inl (by simp)) harr⟩
   | outgrown=>exact ⟨_,a₁,w₁,⟨hd,hq⟩,.pass (x:=.inLoop c) rfl (fun _ _ => .inl (by simp)) harr⟩
 intro b k cs hro hb hr
 obtain ⟨en,a', w', hq,harr⟩:=key _ x a w rfl h b k cs hro hb hr
 exact ⟨en,a', w', hq,.of_steps (.one (fenced_calm hb hr rfl) stepR_loop) harr⟩
theorem loopX {K:List Nat} {ι:Type} {c:Code} (I:ι->Prop) (sls:ι->List (Nat × V)) (lcs:ι->List (Nat × L)) (μ:ι->Nat) (x:ι) (hI:I x) (h:St ⟨w0,H0,B0,K,N⟩ (F.of sl lc) a w)
  (h1:leS (F.of sl lc) (sls x)=(sls x).map fun p=>some p.2) (h2:leN (F.of sl lc) (lcs x)=(lcs x).map fun p=>some p.2)
  (round:∀ x a w,I x->St ⟨w0,H0,B0,K,N⟩ (F.of (sls x) (lcs x)) a w->wpX r ds P c (Exit.then (fun a' w'=>∃ y,(I y/\μ y<μ x)/\St ⟨w0,H0,B0,K,N⟩ (F.of (sls y) (lcs y)) a' w') Q) a w):wpX r ds P (.loop c) Q a w:=by
 refine loopX0 (ι:={x // I x}) (fun x=>F.of (sls x.1) (lcs x.1)) (fun x=>μ x.1) ⟨x,hI⟩ (h.weaken (ziw h1 h2)) fun x a w hst=>wpX_mono (round x.1 a w x.2 hst) fun en a w hq=>?_
 cases en with
 | normal=>obtain ⟨y,⟨hy,hlt⟩,hst⟩:=hq;exact ⟨⟨y,hy⟩,hlt,hst⟩
 | _=>exact hq
theorem op_nil {o:Oper} (hK:∀ a w,K a w->a.defers=[]) (hQ:∀ e a w,Q e a w->e = .normal) (h:o.wp P a w K Q):a.defers=[]:=by
 unfold Oper.wp at h
 have hput:∀ v w', K (a.put o.dst v) w'->a.defers=[]:=fun v w' hk=>by
  have:=hK _ _ hk
  cases hd:o.dst <;> rw [hd] at this <;> exact this
 cases hr:(execOp a.eval o).run P w with
 | ok x w' =>
  rw [hr] at h
  cases x with
  | value v=>exact hput _ _ h
  | skip=>exact hput _ _ h
  | defer d =>
   have:=hK _ _ h
   cases hd:o.dst <;> rw [hd] at this <;> simp [Act.put] at this
  | enter f args =>
   obtain ⟨e,w'', fr,he,_⟩:=(show Calls P f args w' _ from h) []
   cases e with
   | returned v=>exact hput _ _ he
   | panicked chain=>cases hQ _ _ _ he
   | outgrown=>obtain ⟨_,_,h2⟩:=he;cases hQ _ _ _ h2
  | row row args =>
   obtain ⟨v,w'', he,_⟩:=(show Rows P row args w' _ from h) default []
   exact hput _ _ he
  | _=>exact h.elim
 | halt x w' =>
  rw [hr] at h
  cases x with
  | panic v=>cases hQ _ _ _ h
  | _=>exact h.elim
theorem opI_nil (hK:∀ a w,K a w->a.defers=[]) (hQ:∀ e a w,Q e a w->e = .normal) (h:wpOp P ops Q i K a w):a.defers=[]:=by
 unfold wpOp at h
 cases ho:ops[i]? with
 | none=>rw [ho] at h;exact hK _ _ h
 | some o =>
  rw [ho] at h
  dsimp only at h
  split at h
  ·exact op_nil hK hQ (h.resolve_right fun ⟨_,h2⟩=>by obtain ⟨a2,w2,h2⟩:=h2;cases hQ _ _ _ h2)
  ·have:=hK _ _ h
   cases hd:o.dst <;> rw [hd] at this <;> exact this
theorem ops_nil (hQ:∀ e a w,Q e a w->e = .normal/\a.defers=[]):∀ (l:List Nat) (a:Act) (w:World),wpOps P ops Q l a w->a.defers=[]
 | [],a,w,h=>(hQ _ _ _ h).2
 | i :: l,a,w,h=>by rw [wpOps_cons] at h;exact opI_nil (ops_nil hQ l) (fun e a w h=>(hQ e a w h).1) h
theorem any_nil {md:Region.Mode} (hQ:∀ e a w,Q e a w->e = .normal/\a.defers=[]):∀ (fuel:Nat) (listed:Array Bool) (a:Act) (w:World),wpAny P md ops Q fuel listed a w->a.defers=[]
 | 0,_,a,w,h=>(hQ _ _ _ h.2).2
 | fuel+1,listed,a,w,h=>by
  cases hr:Region.ready md ops listed with
  | nil=>exact (hQ _ _ _ (h.1 hr)).2
  | cons i l=>exact opI_nil (any_nil hQ fuel _) (fun e a w h=>(hQ e a w h).1) (h.2 i (by rw [hr];simp))
theorem opX {o:Oper} {K':Act->World->Prop} (hnd:∀ c,o.op ≠ .defer c) (ha:a.defers=[]) (hK:∀ a w,K a w->a.defers=[]) (hK':∀ a w,a.defers=ds->K { a with defers:=[] } w->K' a w) (hQ:∀ a w,¬ Q .outgrown a w) (h:o.wp P a w K Q) :
  o.wpIn { Fence.wide with round:=r } 9 P { a with defers:=ds } w K' (fun ex a' w'=>a'.defers=ds/\Q ex { a' with defers:=[] } w'):=by
 refine ⟨fun _ _=>trivial,?_⟩
 rw [Oper.semAt_eq _ _ _ hnd]
 unfold Oper.wp at h
 have he:({ a with defers:=ds }:Act).eval=a.eval:=by funext x;cases x <;> rfl
 rw [he]
 have hput:∀ v w', K (a.put o.dst v) w'->K' (({ a with defers:=ds }:Act).put o.dst v) w':=by
  intro v w' hk
  refine hK' _ _ ?_ ?_
  ·cases o.dst <;> rfl
  ·have:({ (({ a with defers:=ds }:Act).put o.dst v) with defers:=[] }:Act)=a.put o.dst v:=by
    cases a;cases ha;cases o.dst <;> rfl
   rw [this];exact hk
 generalize (execOp a.eval o).run P w=res at h
 have hbare:({ ({ a with defers:=ds }:Act) with defers:=[] }:Act)=a:=by cases a;cases ha;rfl
 cases res with
 | ok x w' =>
  cases x with
  | value v=>exact hput _ _ h
  | skip=>exact hput _ _ h
  | defer d =>
   have:=hK _ _ h
   cases hd:o.dst with
   | none=>rw [hd] at this;simp [Act.put] at this
   | some q=>rw [hd] at this;simp [Act.put] at this
  | enter f args =>
   have h:Calls P f args w' _:=h
   refine ⟨fun h=>(by cases h),?_⟩
   refine CallsIn.mono (show CallsIn { Fence.wide with round:=r } (9 - 1) P f args w' _ from callsIn_wide.2 h) ?_
   intro e w'' he
   cases e with
   | returned v=>exact hput _ _ he
   | panicked chain=>exact ⟨rfl,by rw [hbare];exact he⟩
   | outgrown=>obtain ⟨a2,w2,h2⟩:=he;exact absurd h2 (hQ _ _)
  | row row args =>
   have h:Rows P row args w' _:=h
   refine ⟨fun h=>(by cases h),fun c cs _=>?_⟩
   obtain ⟨v,w'', h1,h2⟩:=h c cs
   exact ⟨v,w'', hput _ _ h1,(stepsIn_wide (P:=P)).2 h2⟩
  | _=>exact h.elim
 | halt x w' =>
  cases x with
  | panic v=>exact ⟨rfl,by rw [hbare];exact h⟩
  | _=>exact h.elim
theorem opIX {K':Act->World->Prop} (hnd:∀ o ∈ ops,∀ c,o.op ≠ .defer c) (hK:∀ a w,K a w->a.defers=[]) (hK':∀ a w,a.defers=ds->K { a with defers:=[] } w->K' a w) (hQ:∀ e a w,Q e a w->e = .normal) (h:wpOp P ops Q i K a w) :
  wpOpIn { Fence.wide with round:=r } 9 P ops (fun ex a' w'=>a'.defers=ds/\Q ex { a' with defers:=[] } w') i K' { a with defers:=ds } w:=by
 have ha:=opI_nil hK hQ h
 unfold wpOp at h
 unfold wpOpIn
 cases ho:ops[i]? with
 | none=>rw [ho] at h;exact hK' _ _ rfl (by cases a;cases ha;exact h)
 | some o =>
  rw [ho] at h
  dsimp only at h ⊢
  by_cases hw:Region.wanted o (yielded ops a.tmps)=true
  ·rw [if_pos hw] at h
   rw [if_pos hw]
   have h:=h.resolve_right fun ⟨_,h2⟩=>by obtain ⟨a2,w2,h2⟩:=h2;cases hQ _ _ _ h2
   exact opX (hnd o (Array.mem_of_getElem? ho)) ha hK hK' (fun a w hq=>by cases hQ _ _ _ hq) h
  ·rw [if_neg hw] at h
   rw [if_neg hw]
   refine ⟨fun _ _=>trivial,hK' _ _ ?_ ?_⟩
   ·cases o.dst <;> rfl
   ·have:({ (({ a with defers:=ds }:Act).put o.dst undef) with defers:=[] }:Act)=a.put o.dst undef:=by
     cases a;cases ha;cases o.dst <;> rfl
    rw [this];exact h
theorem opsX (hnd:∀ o ∈ ops,∀ c,o.op ≠ .defer c) (hQ:∀ e a w,Q e a w->e = .normal/\a.defers=[]):∀ (l:List Nat) (a:Act) (w:World),wpOps P ops Q l a w ->
  wpOpsIn { Fence.wide with round:=r } 9 P ops (fun ex a' w'=>a'.defers=ds/\Q ex { a' with defers:=[] } w') l { a with defers:=ds } w
 | [],a,w,h=>⟨rfl,by have ha:=(hQ _ _ _ h).2;cases a;cases ha;exact h⟩
 | i :: l,a,w,h=>by
  rw [wpOps_cons] at h
  rw [wpOpsIn_cons]
  exact opIX hnd (ops_nil hQ l) (fun a w hd hk=>by have:=opsX hnd hQ l _ w hk;rw [zho hd] at this;exact this) (fun e a w h=>(hQ e a w h).1) h
theorem anyX {md:Region.Mode} (hnd:∀ o ∈ ops,∀ c,o.op ≠ .defer c) (hQ:∀ e a w,Q e a w->e = .normal/\a.defers=[]):∀ (fuel:Nat) (listed:Array Bool) (a:Act) (w:World),wpAny P md ops Q fuel listed a w ->
  wpAnyIn { Fence.wide with round:=r } 9 P md ops (fun ex a' w'=>a'.defers=ds/\Q ex { a' with defers:=[] } w') fuel listed { a with defers:=ds } w
 | 0,_,a,w,h=>⟨h.1,rfl,by have ha:=(hQ _ _ _ h.2).2;cases a;cases ha;exact h.2⟩
 | fuel+1,listed,a,w,h=>by
  refine ⟨fun h0=>⟨rfl,?_⟩,fun i hi=>?_⟩
  ·have h1:=h.1 h0
   have ha:=(hQ _ _ _ h1).2
   cases a;cases ha;exact h1
  ·exact opIX hnd (any_nil hQ fuel _) (fun a w hd hk=>by have:=anyX hnd hQ fuel _ _ w hk;rw [zho hd] at this;exact this) (fun e a w h=>(hQ e a w h).1) (h.2 i hi)
end
def noDefer (o:Oper):Bool:=match o.op with | .defer _=>false | _=>true
section
variable {r:Option Nat} {ds:List Deferred} {P:Program} {Q:Exit->Act->World->Prop} {w0:World} {H0:Im} {B0:Bl} {K:List Nat} {N:Nat}
theorem wpX_region_S (hnd:∀ o ∈ ops,∀ c,o.op ≠ .defer c) {f:F} (is:List I) (g:F) (hm:P.follows .mixedOrders=true) (hpo:pairsOk draw ops.toList is=true)
  (hdo:∀ k o,ops[k]?=some o->Does P ops o (at_ is k)) (hb:∀ k,FitsE e (at_ is k)) (hn:∀ k,∀ n ∈ (at_ is k).nw,New e.K f n)
  (hr:RunL is f (List.range ops.size) g) (h:St e f a w) (hQ:∀ a w,St e g a w->Q .normal a w):wpX r ds P (Code.region id ops draw) Q a w:=by
 have hN:∀ (ex:Exit) (a:Act) (w:World),(ex = .normal/\St e g a w)->ex = .normal/\a.defers=[]:=fun ex a w h=>⟨h.1,by obtain ⟨_,H,B,hok⟩:=h;exact hok.df⟩
 refine wpX_mono (Q:=fun ex a w=>ex = .normal/\St e g a w) ?_ (fun ex a w h=>by obtain ⟨rfl,h⟩:=h;exact hQ a w h)
 cases draw with
 | false =>
  refine wpIn_region (opsX hnd hN _ _ _ (wpOps_run hdo hb (fun a w h=>⟨rfl,h⟩) _ f a w (fun k hk=>cQ.1 hk) ?_ (fun k _=>hn k) hr h))
  refine List.Pairwise.imp_of_mem ?_ List.pairwise_lt_range
  intro j k hj hk hjk
  exact ((zg0 hpo (k:=k) (by simpa using cQ.1 hk)).2 j hjk).1
 | true =>
  refine wpIn_region_any hm (anyX hnd hN _ _ _ _ (wpAny_run hdo hb (fun a w h=>⟨rfl,h⟩) hpo _ _ f a _ (by simp) ?_ ?_ (fun k _=>hn k) ?_ h.drew))
  ·intro k o ho hl
   have hks:=(cN.1 ho).1
   simp [cJ, hks] at hl
  ·refine bS (List.length_filter_le _ _) (by simp)
  ·have:left (Array.replicate ops.size false) ops.size=List.range ops.size:=by
    unfold left
    refine List.filter_eq_self.2 fun k hk=>?_
    have:=cQ.1 hk
    simp [cJ, this]
   rw [this]
   exact hr
theorem regionX (hnd:ops.toList.all noDefer=true) (is:List I) (sl':List (Nat × V)) (lc':List (Nat × L)) (hm:P.follows .mixedOrders=true)
  (hdo:AllDo P ops ops.toList is) (hc:chk draw ops.toList is N K sl lc=true) (h1:runS (F.of sl lc) is=wantS is) (h2:runN (F.of sl lc) is=wantN is)
  (h3:leS (runF (F.of sl lc) is) sl'=sl'.map fun p=>some p.2) (h4:leN (runF (F.of sl lc) is) lc'=lc'.map fun p=>some p.2)
  (h:St ⟨w0,H0,B0,K,N⟩ (F.of sl lc) a w) (hQ:∀ a w,St ⟨w0,H0,B0,K,N⟩ (F.of sl' lc') a w->Q .normal a w):wpX r ds P (Code.region id ops draw) Q a w:=by
 simp only [chk,b6] at hc
 obtain ⟨⟨⟨c1,c2⟩,c3⟩,c4⟩:=hc
 have hmem:∀ k,at_ is k ∈ is\/at_ is k={}:=by
  intro k
  unfold at_
  rw [List.getD_eq_getElem?_getD]
  cases hk:is[k]? with
  | none=>exact .inr rfl
  | some x=>exact .inl (cK hk)
 refine wpX_region_S (fun o ho c hc=>by have:=bV.1 hnd o (by simpa using ho);unfold noDefer at this;rw [hc] at this;cases this) is (F.of sl' lc') hm c1 (fun k o ho=>hdo.get k o (by simpa using ho)) ?_ ?_ ?_ h hQ
 ·intro k
  refine ⟨fun p hp=>?_,fun h0=>?_⟩
  ·rcases hmem k with hk | hk
   ·have:=bV.1 (bV.1 c2 _ hk) p hp
    simpa [Nat.blt_eq] using this
   ·rw [hk] at hp;cases hp
  ·rcases hmem k with hk | hk
   ·have:=bV.1 c4 _ hk
    rw [h0] at this
    simpa using this
   ·rw [hk] at h0;cases h0
 ·intro k n hn
  rcases hmem k with hk | hk
  ·exact zgw (bV.1 (bV.1 c3 _ hk) n hn)
  ·rw [hk] at hn;cases hn
 ·have:=RunL.of (g:=F.of sl' lc') [] is (F.of sl lc) h1 h2 (ziw h3 h4)
  have hl:=hdo.length
  simp only [List.nil_append,cT] at this
  rw [List.range_eq_range', <- Array.length_toList,hl]
  exact this
end
section
variable {r:Option Nat} {ds:List Deferred} {Q:Exit->Act->World->Prop} {w0:World} {H0:Im} {B0:Bl} {K:List Nat} {N:Nat}
theorem rSX {tb:Tb} (htb:zku Tryz.prog tb) (nx:Nat) (cs:List (Nat × Orc Tryz.prog)) (sl':List (Nat × V)) (lc':List (Nat × L))
  (hnd:ops.toList.all noDefer=true)
  (hc:((gens ops.toList cs).map (·.1),(zfn tb ops (F.of sl lc) nx 0 ops.toList cs).isSome,(zfn tb ops (F.of sl lc) nx 0 ops.toList cs).map fun is=>Seen.mk (chk draw ops.toList is N K sl lc) (runS (F.of sl lc) is) (runN (F.of sl lc) is) (leS (runF (F.of sl lc) is) sl') (leN (runF (F.of sl lc) is) lc')) =
   ((gens ops.toList cs).map (·.2),true,(zfn tb ops (F.of sl lc) nx 0 ops.toList cs).map fun is=>Seen.mk true (wantS is) (wantN is) (sl'.map fun p=>some p.2) (lc'.map fun p=>some p.2)))
  (h:St ⟨w0,H0,B0,K,N⟩ (F.of sl lc) a w) (hQ:∀ a w,St ⟨w0,H0,B0,K,N⟩ (F.of sl' lc') a w->Q .normal a w):wpX r ds Tryz.prog (Code.region id ops draw) Q a w:=by
 simp only [Prod.mk.injEq] at hc
 obtain ⟨hg,hs,hm⟩:=hc
 cases hi:zfn tb ops (F.of sl lc) nx 0 ops.toList cs with
 | none=>rw [hi] at hs;cases hs
 | some is =>
  rw [hi] at hm
  simp only [Option.map_some,Option.some.injEq,Seen.mk.injEq] at hm
  exact regionX hnd is sl' lc' mixed (insts_ok htb hg _ _ _ _ _ rfl hi) hm.1 hm.2.1 hm.2.2.1 hm.2.2.2.1 hm.2.2.2.2 h hQ
theorem rSeqX {tb:Tb} (htb:zku Tryz.prog tb) {y:Code} (nx:Nat) (cs:List (Nat × Orc Tryz.prog)) (sl':List (Nat × V)) (lc':List (Nat × L))
  (hnd:ops.toList.all noDefer=true)
  (hc:((gens ops.toList cs).map (·.1),(zfn tb ops (F.of sl lc) nx 0 ops.toList cs).isSome,(zfn tb ops (F.of sl lc) nx 0 ops.toList cs).map fun is=>Seen.mk (chk draw ops.toList is N K sl lc) (runS (F.of sl lc) is) (runN (F.of sl lc) is) (leS (runF (F.of sl lc) is) sl') (leN (runF (F.of sl lc) is) lc')) =
   ((gens ops.toList cs).map (·.2),true,(zfn tb ops (F.of sl lc) nx 0 ops.toList cs).map fun is=>Seen.mk true (wantS is) (wantN is) (sl'.map fun p=>some p.2) (lc'.map fun p=>some p.2)))
  (h:St ⟨w0,H0,B0,K,N⟩ (F.of sl lc) a w) (hQ:∀ a w,St ⟨w0,H0,B0,K,N⟩ (F.of sl' lc') a w->wpX r ds Tryz.prog y Q a w):wpX r ds Tryz.prog (Code.seq (Code.region id ops draw) y) Q a w :=
 wpX_seq (rSX htb nx cs sl' lc' hnd hc h hQ)
end
def dat:Obj->Bool
  | .cells _ _ _ | .map _ _=>true
  | _=>false
theorem dat_cells (h:dat o=false):o.isCells=false:=by cases o <;> first | rfl | cases h
def LeC (H H':Im):Prop:=∀ b o,H b=some o->dat o=true->H' b=some o
section
variable {H H':Im} {B:Bl}
theorem DR.monoC (hl:LeC H H') {x:D} (h:DR H x v):DR H' x v:=by
 induction h with
 | raw v h=>exact .raw v h
 | nil es ao c h hc=>exact .nil es ao c h hc
 | sl es rows b o c arr ty fz vs hp hb hl2 hc hes hv _ ih=>exact .sl es rows b o c arr ty fz vs hp (hl _ _ hb rfl) hl2 hc hes hv ih
theorem AR.monoC (hl:LeC H H') {x:A} (h:AR H B x v):AR H' B x v:=by
 cases x with
 | d x=>exact DR.monoC hl h
 | ptr n o=>exact h
theorem CR.monoC (hl:LeC H H') {x:C} (h:CR H B x v):CR H' B x v:=by
 cases x with
 | d x=>exact DR.monoC hl h
 | ptr n o=>exact h
 | own n k=>exact h
 | el xs =>
  obtain ⟨b,o,arr,ty,fz,hb,hv,hx⟩:=h
  exact ⟨b,o,arr,ty,fz,hl _ _ hb rfl,hv,fun j hj=>let ⟨u,h1,h2⟩:=hx j hj;⟨u,h1,h2.monoC hl⟩⟩
 | fn f fs cs =>
  obtain ⟨vs,ws,hv,h1,h2⟩:=h
  exact ⟨vs,ws,hv,h1.mono fun a _ b=>AR.monoC hl,h2.mono fun a _ b=>AR.monoC hl⟩
 | sub n o len=>exact h
 | any=>exact h
 | mp n=>exact h
theorem TR.monoC (hl:LeC H H') {x:T} (h:TR H B x v):TR H' B x v:=by
 cases x with
 | c x=>exact CR.monoC hl h
 | agg cs =>
  obtain ⟨vs,hv,h1⟩:=h
  exact ⟨vs,hv,h1.mono fun a _ b=>CR.monoC hl⟩
theorem VR.monoC (hl:LeC H H') {x:V} (h:VR H B x v):VR H' B x v:=by
 cases x with
 | t x=>exact TR.monoC hl h
 | tup xs =>
  obtain ⟨vs,hv,h1⟩:=h
  exact ⟨vs,hv,h1.mono fun a _ b=>TR.monoC hl⟩
theorem LR.monoC (hl:LeC H H') {x:L} {w':World} (hw:∀ b c,B n=some (b,c)->w'.heap[b]?=w.heap[b]?) (h:LR H B w n x):LR H' B w' n x:=by
 cases x with
 | box cs =>
  obtain ⟨b,c,arr,ty,hb,hc,h1⟩:=h
  exact ⟨b,c,arr,ty,hb,(hw b c hb).trans hc,h1.mono fun a _ v=>CR.monoC hl⟩
 | row ty es rows =>
  simp only [LR] at h ⊢
  cases hb:B n with
  | none=>rw [hb] at h;exact h
  | some p =>
   obtain ⟨b,c⟩:=p
   rw [hb] at h
   obtain ⟨arr,h1,h2,h3,h4,h5,h6⟩:=h
   exact ⟨arr,(hw b c hb).trans h1,h2,h3,h4,h5,h6.mono fun a _ v=>DR.monoC hl⟩
 | rowc ty es rows =>
  simp only [LR] at h ⊢
  cases hb:B n with
  | none=>rw [hb] at h;exact h
  | some p =>
   obtain ⟨b,c⟩:=p
   rw [hb] at h
   obtain ⟨arr,h1,h2,h3,h4,h5,h6⟩:=h
   exact ⟨arr,(hw b c hb).trans h1,h2,h3,h4,h5,h6.mono fun a _ v=>CR.monoC hl⟩
 | bld ty x rest =>
  obtain ⟨b,c,v1,v2,vr,hb,hc,h1,h0,h2,h3⟩:=h
  exact ⟨b,c,v1,v2,vr,hb,(hw b c hb).trans hc,h1,h0,CR.monoC hl h2,h3.mono fun a _ v=>CR.monoC hl⟩
 | mp es =>
  obtain ⟨b,c,arr,cl,hb,hc,h1⟩:=h
  exact ⟨b,c,arr,cl,hb,(hw b c hb).trans hc,h1.mono fun a _ e h2=>⟨h2.1,h2.2.monoC hl⟩⟩
theorem LR.cells {x:L} {c:Nat} (h:LR H B w n x) (hb:B n=some (b,c)):∃ o,w.heap[b]?=some o/\dat o=true:=by
 cases x with
 | box cs=>obtain ⟨b', c', arr,ty,hb', hc,_⟩:=h;rw [hb] at hb';cases hb';exact ⟨_,hc,rfl⟩
 | row ty es rows =>
  simp only [LR] at h
  rw [hb] at h
  obtain ⟨arr,h1,_⟩:=h
  exact ⟨_,h1,rfl⟩
 | rowc ty es rows =>
  simp only [LR] at h
  rw [hb] at h
  obtain ⟨arr,h1,_⟩:=h
  exact ⟨_,h1,rfl⟩
 | bld ty x rest=>obtain ⟨b', c', v1,v2,vr,hb', hc,_⟩:=h;rw [hb] at hb';cases hb';exact ⟨_,hc,rfl⟩
 | mp es=>obtain ⟨b', c', arr,cl,hb', hc,_⟩:=h;rw [hb] at hb';cases hb';exact ⟨_,hc,rfl⟩
end
def cutH (H1 H:Im):Im:=fun b=>match H b with
  | some o=>if dat o || (H1 b).isSome then some o else none
  | none=>none
theorem cutH_some (h:cutH H1 H b=some o):H b=some o/\(dat o=true\/(H1 b).isSome=true):=by
 unfold cutH at h
 cases hb:H b with
 | none=>rw [hb] at h;cases h
 | some o' =>
  rw [hb] at h
  dsimp only at h
  split at h
  ·rename_i hc;cases h;exact ⟨rfl,by simpa using hc⟩
  ·cases h
theorem cutH_leC (H1 H:Im):LeC H (cutH H1 H):=fun b o h ho=>by unfold cutH;rw [h];dsimp only;rw [ho];rfl
theorem cutH_none (h:H b=none):cutH H1 H b=none:=by unfold cutH;rw [h]
theorem zk2 (h:H b=some o) (h1:(H1 b).isSome=true):cutH H1 H b=some o:=by unfold cutH;rw [h];dsimp only;rw [h1,Bool.or_true];rfl
theorem TabH.back {Hx:Im} (h:∀ b o,Hx b=some o->H1 b=some o\/o.isCells=false) (ht:TabH Hx):TabH H1:=by
 have _:=h;have _:=ht;exact trivial
def zew (H M:Im):Im:=fun b=>match H b with
  | some o=>some o
  | none=>M b
theorem zlb (H M:Im):Le H (zew H M):=fun b o h=>by unfold zew;rw [h]
theorem zhk {M:Im} (h:zew H M b=some o):H b=some o\/(H b=none/\M b=some o):=by
 unfold zew at h
 cases hb:H b with
 | none=>rw [hb] at h;exact .inr ⟨rfl,h⟩
 | some o'=>rw [hb] at h;exact .inl h
def Clean (H1 H:Im):Prop:=∀ b o,H b=some o->H1 b=some o\/dat o=true
section
variable {w0:World} {Hx H1 H:Im} {B0 B:Bl} {K:List Nat} {N:Nat} {f:F} {a:Act} {w:World}
theorem Ok.cut (h:Ok ⟨w0,Hx,B0,K,N⟩ f H B a w) (h1:Le H1 Hx) (h2:∀ b o,Hx b=some o->H1 b=some o\/dat o=false):Ok ⟨w0,H1,B0,K,N⟩ f (cutH H1 H) B a w/\Clean H1 (cutH H1 H):=by
 have hc:LeC H (cutH H1 H):=cutH_leC H1 H
 refine ⟨⟨h.df,h.n,h.ext,fun b o hb=>h.sat b o (cutH_some hb).1,fun t v hv=>VR.monoC hc (h.slot t v hv),fun n l hn=>LR.monoC hc (fun _ _ _=>rfl) (h.loc n l hn),?_,h.inj,?_,?_,h.keep,TabH.back (fun b o hb=>(h2 b o hb).imp id dat_cells) h.tab⟩,?_⟩
 ·intro n l b c hn hb
  obtain ⟨p1,p2,p3⟩:=h.priv n l b c hn hb
  exact ⟨p1,cutH_none p2,p3⟩
 ·intro b hb
  have hlow:H b=Hx b:=h.low b hb
  cases hx:Hx b with
  | none =>
   rw [hx] at hlow
   rw [cutH_none hlow]
   cases h1b:H1 b with
   | none=>exact h1b.symm
   | some o=>have:=h1 b o h1b;rw [hx] at this;cases this
  | some o =>
   rw [hx] at hlow
   rcases h2 b o hx with h3 | h3
   ·rw [zk2 hlow (by rw [h3];rfl)];exact h3.symm
   ·cases h1b:H1 b with
    | none=>unfold cutH;rw [hlow];dsimp only;rw [h3,h1b];rfl
    | some o'=>rw [zk2 hlow (by rw [h1b];rfl)];have:=h1 b o' h1b;rw [hx] at this;exact this.trans h1b.symm
 ·intro b o hb
  exact zk2 (h.le b o (h1 b o hb)) (by show (H1 b).isSome=true;rw [show H1 b=some o from hb];rfl)
 ·intro b o hb
  obtain ⟨h3,h4⟩:=cutH_some hb
  rcases h4 with h4 | h4
  ·exact .inr h4
  ·obtain ⟨o', h5⟩:=dO.1 h4
   have:=h.le b o' (h1 b o' h5)
   rw [h3] at this
   cases this
   exact .inl h5
theorem Ok.join (h:Ok ⟨w0,H1,B0,K,N⟩ f H B a w) (M:Im) (hM:∀ b o,M b=some o->w.heap[b]?=some o/\dat o=false):Ok ⟨w0,zew H1 M,B0,K,N⟩ f (zew H M) B a w:=by
 have hl:=zlb H M
 refine ⟨h.df,h.n,h.ext,?_,fun t v hv=>VR.mono hl (fun _ _=>rfl) (h.slot t v hv),fun n l hn=>LR.mono hl rfl (fun _ _=>rfl) (fun _ _ _=>rfl) (h.loc n l hn),?_,h.inj,?_,?_,h.keep,h.tab.mono (zlb H1 M)⟩
 ·intro b o hb
  rcases zhk hb with h1 | ⟨_,h1⟩
  ·exact h.sat b o h1
  ·exact (hM b o h1).1
 ·intro n l b c hn hb
  obtain ⟨p1,p2,p3⟩:=h.priv n l b c hn hb
  refine ⟨p1,?_,p3⟩
  unfold zew
  rw [p2]
  show M b=none
  cases hm:M b with
  | none=>rfl
  | some o =>
   obtain ⟨h1,h2⟩:=hM b o hm
   obtain ⟨o', h3,h4⟩:=(h.loc n l hn).cells hb
   rw [h1] at h3;cases h3;rw [h2] at h4;cases h4
 ·intro b hb
  have:H b=H1 b:=h.low b hb
  show zew H M b=zew H1 M b
  unfold zew;rw [this]
 ·intro b o hb
  show zew H M b=some o
  rcases zhk hb with h1 | ⟨h0,h1⟩
  ·exact hl b o (h.le b o h1)
  ·cases hx:H b with
   | none=>unfold zew;rw [hx];exact h1
   | some o'=>unfold zew;rw [hx];have:=h.sat b o' hx;rw [(hM b o h1).1] at this;exact this.symm
def StC (w0:World) (H1:Im) (B0:Bl) (K:List Nat) (N:Nat) (f:F) (a:Act) (w:World):Prop:=∃ H B,Ok ⟨w0,H1,B0,K,N⟩ f H B a w/\Clean H1 H
theorem StC.st (h:StC w0 H1 B0 K N f a w):St ⟨w0,H1,B0,K,N⟩ f a w:=let ⟨H,B,h,_⟩:=h;⟨H,B,h⟩
theorem StC.of (h:St ⟨w0,Hx,B0,K,N⟩ f a w) (h1:Le H1 Hx) (h2:∀ b o,Hx b=some o->H1 b=some o\/dat o=false):StC w0 H1 B0 K N f a w:=let ⟨_,B,h⟩:=h;⟨_,B,h.cut h1 h2⟩
theorem St.join (h:St ⟨w0,H1,B0,K,N⟩ f a w) (M:Im) (hM:∀ b o,M b=some o->w.heap[b]?=some o/\dat o=false):St ⟨w0,zew H1 M,B0,K,N⟩ f a w:=let ⟨_,B,h⟩:=h;⟨_,B,h.join M hM⟩
theorem StC.turn (h:StC w0 H1 B0 K N f a w) {w':World} {r:Nat} {z:Nat} (hos:w'.os=w.os) (htape:w'.tape=w.tape) (hout:w'.output=w.output) (hsize:w.heap.size<=w'.heap.size)
  (hblock:∀ b,b<w.heap.size->b≠r->w'.heap[b]?=w.heap[b]?) (hz:w0.heap.size<=z) (hr:z<=r) (hro:∀ o,w.heap[r]?=some o->dat o=false) (h1:∀ b o,H1 b=some o->b<z):StC w0 H1 B0 K N f a w':=by
 obtain ⟨H,B,h,hcl⟩:=h
 have hne:∀ b o,H b=some o->b≠r:=fun b o hb e=>by
  subst e
  rcases hcl b o hb with h2 | h2
  ·have:=h1 b o h2;omega
  ·have:=hro o (h.sat b o hb);rw [h2] at this;cases this
 have hown:∀ n l b c,f.l n=some l->B n=some (b,c)->w'.heap[b]?=w.heap[b]?:=fun n l b c hn hb=>by
  obtain ⟨o', h3,h4⟩:=(h.loc n l hn).cells hb
  refine hblock b (h.priv n l b c hn hb).1 fun e=>?_
  subst e
  have:=hro _ h3
  rw [h4] at this
  cases this
 refine ⟨H,B,⟨h.df,h.n,⟨hos.trans h.ext.os,htape.trans h.ext.tape,hout.trans h.ext.output,bS h.ext.size hsize,fun b hb hm=>?_⟩,?_,h.slot,?_,?_,h.inj,h.low,h.le,h.keep,h.tab⟩,hcl⟩
 ·have hb:b<w0.heap.size:=hb
  exact (hblock b (c8 hb h.ext.size) (by omega)).trans (h.ext.block b hb hm)
 ·intro b o hb
  have hs:=h.sat b o hb
  exact (hblock b (cN.1 hs).1 (hne b o hb)).trans hs
 ·intro n l hn
  exact LR.mono (Le.refl _) rfl (fun _ _=>rfl) (fun b c hb=>hown n l b c hn hb) (h.loc n l hn)
 ·intro n l b c hn hb
  obtain ⟨p1,p2,p3⟩:=h.priv n l b c hn hb
  exact ⟨c8 p1 hsize,p2,p3⟩
end
theorem wpIn_depth {F:Fence} {c:Code} {Q:Exit->Act->World->Prop} (hd:F.depth=none) (h:c.wpIn F n P Q a w):c.wpIn F m P Q a w :=
 fun b k cs hro hb _=>h b k cs hro hb fun d h1=>by rw [hd] at h1;cases h1
def IterOk (P:Program) (gf:Nat) (xs:D) (m:Nat) (e:Nat->V × V):Prop :=
  ∀ (H1:Im) (Bs:Nat) (sv:Value) (ty:TypeId),H1 Bs=some (.cells #[sv] ty (0,0))->DR H1 xs sv ->
    ∃ ev:Nat->Value × Value,(∀ B j,j<m->VR H1 B (e j).1 (ev j).1/\VR H1 B (e j).2 (ev j).2) /\
      ∀ (l:Nat) (J:Nat->World->Prop) (W:World),(∀ j W,J j W->∀ b o,H1 b=some o->W.heap[b]?=some o) ->
        (∀ j W1,J j W1->j<m->YieldAt Fence.wide 7 P l #[(ev j).1,(ev j).2] W1 fun en W'=>en = .returned (.bool true)/\J (j+1) W') ->
        J 0 W->CallsIn Fence.wide 8 P gf #[.func (.yield l) #[] #[],.pointer (some ⟨Bs,0,none⟩)] W fun en W'=>(∃ v,en = .returned v)/\J m W'
theorem St.fix {f:F} {xs:D} (Kn:List Nat) (h:St ⟨w0,H0,B0,[],N⟩ f a w) (hl:f.l n=some (.box [.d xs])) :
  ∃ (H1:Im) (Bx:Bl) (Bs:Nat) (sv:Value) (ty:TypeId),Le H0 H1/\(∀ b,b<w0.heap.size->H1 b=H0 b)/\H1 Bs=some (.cells #[sv] ty (0,0))/\DR H1 xs sv /\
   (∀ t gf,f.s t=some (.t (.c (.fn (.func gf) [] [.ptr n 0])))->a.tmps.getD t undef = .func (.func gf) #[] #[.pointer (some ⟨Bs,0,none⟩)]) /\
   (∀ m l b c,f.l m=some l->Bx m=some (b,c)->w0.heap.size<=b)/\(∀ t v,f.s t=some v->VR H1 Bx v (a.tmps.getD t undef)) /\
   Ok ⟨w0,H1,Bx,Kn,N⟩ ⟨f.s,fun m=>if m=n then none else f.l m⟩ H1 Bx a w:=by
 obtain ⟨H,B,h⟩:=h
 obtain ⟨Bs,c,arr,ty,hB,hc,hx⟩:=h.loc n _ hl
 match arr,hx with
 | [sv],hx =>
 obtain ⟨p1,p2,p3⟩:=h.priv n _ Bs c hl hB
 have hnm:∀ b,¬ (⟨w0,H0,B0,[],N⟩:E).may b:=fun b hb=>by obtain ⟨m,hm,_⟩:=hb;cases hm
 have p4:w0.heap.size<=Bs:=p3.resolve_left (hnm _)
 have hle:Le H (fun b=>if b=Bs then some (.cells #[sv] ty (0,0)) else H b):=fun b o hb=>by
  by_cases e:b=Bs
  ·subst e;rw [p2] at hb;cases hb
  ·simp only [if_neg e];exact hb
 refine ⟨fun b=>if b=Bs then some (.cells #[sv] ty (0,0)) else H b,B,Bs,sv,ty,h.le.trans hle,fun b hb=>?_,by simp,DR.mono hle hx.1,fun t gf ht=>?_,fun m l b c hm hb=>(h.priv m l b c hm hb).2.2.resolve_left (hnm _),fun t v hv=>VR.mono hle (fun _ _=>rfl) (h.slot t v hv),?_⟩
 ·have:b≠Bs:=by omega
  simp only [if_neg this]
  exact h.low b hb
 ·obtain ⟨vs,ws,hv,h1,h2⟩:=h.slot t _ ht
  match vs,ws,h1,h2 with
  | [],[u],_,h2 =>
  obtain ⟨b', c', hb', hu⟩:=h2.1
  rw [hB] at hb';cases hb'
  rw [hv,hu]
 ·refine ⟨h.df,h.n,⟨h.ext.os,h.ext.tape,h.ext.output,h.ext.size,fun b hb _=>h.ext.block b hb (hnm _)⟩,?_,fun t v hv=>VR.mono hle (fun _ _=>rfl) (h.slot t v hv),?_,?_,?_,fun _ _=>rfl,Le.refl _,fun _ _=>rfl,(h.tab.mono h.le).mono hle⟩
  ·intro b o hb
   by_cases e:b=Bs
   ·subst e;simp only [if_true] at hb;cases hb;exact hc
   ·simp only [if_neg e] at hb;exact h.sat b o hb
  ·intro m l hm
   by_cases e:m=n
   ·simp [e] at hm
   ·simp only [if_neg e] at hm
    exact LR.mono hle rfl (fun _ _=>rfl) (fun _ _ _=>rfl) (h.loc m l hm)
  ·intro m l b c' hm hb
   by_cases e:m=n
   ·simp [e] at hm
   ·simp only [if_neg e] at hm
    obtain ⟨q1,q2,q3⟩:=h.priv m l b c' hm hb
    refine ⟨q1,?_,.inr (q3.resolve_left (hnm _))⟩
    have:b≠Bs:=fun e2=>by subst e2;exact e (h.inj m n _ _ b _ _ hm hl hb hB)
    simp only [if_neg this]
    exact q2
  ·intro m m' l l' b c1 c2 hm hm' hb hb'
   by_cases e:m=n
   ·simp [e] at hm
   by_cases e':m'=n
   ·simp [e'] at hm'
   simp only [if_neg e] at hm
   simp only [if_neg e'] at hm'
   exact h.inj m m' l l' b c1 c2 hm hm' hb hb'
theorem RetQ.low {ps:List (Nat × L)} {en:Ending} (hle:Le H0 H1) (hlow:∀ b,b<w0.heap.size->H1 b=H0 b)
  (h:RetQ ⟨w0,H1,B0,ps.map (·.1),N⟩ ps res qs en w):RetQ ⟨w0,H0,B0,ps.map (·.1),N⟩ ps res qs en w:=by
 obtain ⟨v,H', B', he,hp⟩:=h
 exact ⟨v,H', B', he,Le.trans hle hp.le,fun b hb=>(hp.low b hb).trans (hlow b hb),hp.sat,hp.loc,hp.priv,hp.inj,hp.keep,hp.res,hp.ext⟩
def RetX (P:Program) (fn:Func) (e:E) (res:V) (qs:List (Nat × L)) (ex:Exit) (a:Act) (w:World):Prop :=
  (ex = .ret\/ex = .normal)/\∃ rs f xs,fn.results=⟨rs⟩/\St e f a w/\zb8 (RV P f) rs xs/\resOf xs=res/\(∀ q ∈ qs,f.l q.1=some q.2)/\(res.tags++qs.flatMap fun q=>q.2.tags).all (hasN (qs.map (·.1)))=true
theorem retX {K:List Nat} {rs:List ResultVar} (xs:List T) (h:St ⟨w0,H0,B0,K,N⟩ (F.of sl lc) a w) (n:Exit) (hn:n = .ret\/n = .normal) (hf:fn.results=⟨rs⟩) (hx:zb8 (RV P (F.of sl lc)) rs xs) (hres:resOf xs=res)
  (hq:leN (F.of sl lc) qs=qs.map fun p=>some p.2) (ht:(res.tags++qs.flatMap fun q=>q.2.tags).all (hasN (qs.map (·.1)))=true):RetX P fn ⟨w0,H0,B0,K,N⟩ res qs n a w :=
 ⟨hn,rs,F.of sl lc,xs,hf,h,hx,hres,fun q hq1=>zcf hq q hq1,ht⟩
def markH (Dd:Nat):Im:=fun b=>if b=Dd then some (.deferred (some [])) else none
theorem leave_mark {ps:List (Nat × L)} {Dd:Nat} (hle:Le H0 H1) (hlow:∀ b,b<w0.heap.size->H1 b=H0 b) (hD:w0.heap.size<=Dd) (hD1:∀ b o,H1 b=some o->b<Dd) {ex:Exit}
  (hd:a.defers=[{ target:=.collected Dd,args:=#[] }]) (h:RetX P fn ⟨w0,zew H1 (markH Dd),B0,ps.map (·.1),N⟩ res qs ex { a with defers:=[] } w) :
  bodyPostM Fence.wide 9 P fn (RetQ ⟨w0,H0,B0,ps.map (·.1),N⟩ ps res qs) ex a w:=by
 obtain ⟨hn,rs,f,xs,hf,hst,hx,hres,hq,ht⟩:=h
 have hH1:H1 Dd=none:=by
  cases h1:H1 Dd with
  | none=>rfl
  | some o=>have:=hD1 _ _ h1;omega
 have hJ:zew H1 (markH Dd) Dd=some (.deferred (some [])):=by unfold zew markH;rw [hH1];simp
 have hw:w.heap[Dd]?=some (.deferred (some [])):=by
  obtain ⟨H,B,hok⟩:=hst
  exact hok.sat _ _ (hok.le _ _ hJ)
 have hc:StC w0 H1 B0 (ps.map (·.1)) N f { a with defers:=[] } w:=StC.of hst (zlb _ _) fun b o hb=>by
  rcases zhk hb with h1 | ⟨_,h1⟩
  ·exact .inl h1
  ·unfold markH at h1
   split at h1
   ·cases h1;exact .inr rfl
   ·cases h1
 have hc2:=(hc.turn (w':=w.putObj Dd (.deferred none)) (r:=Dd) (z:=Dd) rfl rfl rfl (by simp) (fun b _ hb=>World.putObj_heap_other hb) hD (bF _) (fun o ho=>by rw [hw] at ho;cases ho;rfl) hD1).st
 have hb:=St.ret (P:=P) (ps:=ps) hc2 rfl hf hx hres hq ht .ret (.inl rfl)
 obtain ⟨_,v,hv,hr⟩:=hb
 have hl:LeavesInM Fence.wide 9 P fn a.tmps (RetQ ⟨w0,H0,B0,ps.map (·.1),N⟩ ps res qs) a.defers .returning w:=by
  rw [hd]
  exact ⟨by simp,.inl ⟨_,_,rfl,run_takeDeferred hw,v,hv,hr.low hle hlow⟩⟩
 rcases hn with rfl | rfl
 ·exact hl
 ·exact hl
theorem Fn.bodyR {k:FuncId} {c:Code} {args:List V} (hf:P.funcs[k]?=some fn) (hb:fn.body=some c) (N:Nat) (hN:args.length+(fn.ntmps - args.length)=N)
  (h:∀ (w:World) (H:Im) (B:Bl) (a:Act),St ⟨w,H,B,[],N⟩ (F.of (argS 0 args) []) a w->c.wp P (bodyPostM Fence.wide 9 P fn (RetQ ⟨w,H,B,[],N⟩ [] res qs)) a w):Fn P k [] args res qs:=by
 intro w H B vals pre
 refine callsIn_wide.1 (callsIn_of_wp_marks (n:=9) hf hb trivial (wpIn_wide.2 (h w H B _ ⟨H,B,rfl,?_,⟨rfl,rfl,rfl,bF _,fun _ _ _=>rfl⟩,pre.sat,?_,?_,?_,?_,fun _ _=>rfl,Le.refl _,fun _ _=>rfl,pre.tab⟩)))
 ·have:=pre.arg.length
  simp [<- hN,<- this]
 ·intro t v hv
  have h1:=(argS_get args 0 t v hv).2
  rw [Nat.sub_zero] at h1
  obtain ⟨ht,rfl⟩:=dA.1 h1
  obtain ⟨u,h2,h3⟩:=pre.arg.get t ht
  have htv:t<vals.length:=(dA.1 h2).1
  have:(((⟨vals⟩:Array Value)++Array.replicate (fn.ntmps - (⟨vals⟩:Array Value).size) undef).getD t undef)=u:=by
   rw [cJ, Array.getElem?_append_left (by simpa using htv)]
   simp [h2]
  rw [this]
  exact h3
 ·intro n l hn;cases hn
 ·intro n l b c hn;cases hn
 ·intro n m l l' b c c' h1;cases h1
def ncH (W:World):Im:=fun b=>match W.heap[b]? with
  | some o=>if dat o then none else some o
  | none=>none
theorem ncH_some {W:World} (h:ncH W b=some o):W.heap[b]?=some o/\dat o=false:=by
 unfold ncH at h
 cases hb:W.heap[b]? with
 | none=>rw [hb] at h;cases h
 | some o' =>
  rw [hb] at h
  dsimp only at h
  split at h
  ·cases h
  ·rename_i hc;cases h;exact ⟨rfl,by simpa using hc⟩
theorem ncH_of {W:World} (h:W.heap[b]?=some o) (ho:dat o=false):ncH W b=some o:=by unfold ncH;rw [h];dsimp only;rw [ho];rfl
section
variable {w0:World} {H1:Im} {B0 Bx:Bl} {K Kn:List Nat} {N:Nat} {f:F} {a:Act} {w W:World}
theorem St.nc (hs:∀ b o,H1 b=some o->W.heap[b]?=some o) (h:St ⟨w0,zew H1 (ncH W),B0,K,N⟩ f a w) (hb:W.heap[b]?=some o) (ho:dat o=false):w.heap[b]?=some o:=by
 obtain ⟨H,B,h⟩:=h
 refine h.sat b o (h.le b o ?_)
 show zew H1 (ncH W) b=some o
 unfold zew
 cases h1:H1 b with
 | none=>exact ncH_of hb ho
 | some o'=>have:=hs b o' h1;rw [hb] at this;exact this.symm
theorem St.uncut (h:St ⟨w0,zew H1 (ncH W),B0,K,N⟩ f a w):StC w0 H1 B0 K N f a w:=StC.of h (zlb _ _) fun b o hb=>by
 rcases zhk hb with h1 | ⟨_,h1⟩
 ·exact .inl h1
 ·exact .inr (ncH_some h1).2
theorem StC.jn (h:StC w0 H1 B0 K N f a w):St ⟨w0,zew H1 (ncH w),B0,K,N⟩ f a w:=St.join h.st _ fun _ _ hb=>ncH_some hb
theorem StC.sat (h:StC w0 H1 B0 K N f a w):∀ b o,H1 b=some o->w.heap[b]?=some o:=fun b o hb=>by
 obtain ⟨H,B,h,_⟩:=h
 exact h.sat b o (h.le b o hb)
theorem StC.open (hb:∀ n ∈ Kn,∀ b c,Bx n=some (b,c)->w0.heap.size<=b) (h:StC w0 H1 Bx Kn N f a w):St ⟨w0,H1,B0,[],N⟩ f a w:=by
 obtain ⟨H,B,h,_⟩:=h
 have hm:∀ b,(⟨w0,H1,Bx,Kn,N⟩:E).may b->w0.heap.size<=b:=fun b ⟨n,hn,c,h1⟩=>hb n hn b c h1
 refine ⟨H,B,h.df,h.n,⟨h.ext.os,h.ext.tape,h.ext.output,h.ext.size,fun b h1 _=>h.ext.block b h1 fun h2=>by have:=hm b h2;have h1:b<w0.heap.size:=h1;omega⟩,h.sat,h.slot,h.loc,fun n l b c hn h1=>?_,h.inj,h.low,h.le,fun n hn=>(by cases hn),h.tab⟩
 obtain ⟨p1,p2,p3⟩:=h.priv n l b c hn h1
 exact ⟨p1,p2,.inr (p3.elim (hm b) id)⟩
theorem StC.params {p1 p2:Nat} {x1 x2:V} {v1 v2:Value} (h:StC w0 H1 Bx Kn N (F.of sl lc) a w) (hp:p1≠p2) (h1:p1<N) (h2:p2<N) (hv:∀ B,VR H1 B x1 v1/\VR H1 B x2 v2) :
  StC w0 H1 Bx Kn N (F.of ((p1,x1) :: (p2,x2) :: sl) lc) { tmps:=(#[p1,p2].zip #[v1,v2]).foldl (fun t (p,v)=>t.setIfInBounds p v) a.tmps,defers:=[] } w:=by
 obtain ⟨H,B,h,hc⟩:=h
 have hn:a.tmps.size=N:=h.n
 have ht:(#[p1,p2].zip #[v1,v2]).foldl (fun t (p,v)=>t.setIfInBounds p v) a.tmps=(a.tmps.setIfInBounds p1 v1).setIfInBounds p2 v2:=by simp
 refine ⟨H,B,⟨rfl,?_,h.ext,h.sat,fun t v hv2=>?_,h.loc,h.priv,h.inj,h.low,h.le,h.keep,h.tab⟩,hc⟩
 ·show ((#[p1,p2].zip #[v1,v2]).foldl (fun t (p,v)=>t.setIfInBounds p v) a.tmps).size=N
  rw [ht];simpa using hn
 ·show VR H B v (((#[p1,p2].zip #[v1,v2]).foldl (fun t (p,v)=>t.setIfInBounds p v) a.tmps).getD t undef)
  rw [ht]
  have hv2:((p1,x1) :: (p2,x2) :: sl).lookup t=some v:=hv2
  rw [List.lookup_cons] at hv2
  by_cases e1:t=p1
  ·subst e1
   simp only [beq_self_eq_true] at hv2
   cases hv2
   have:((a.tmps.setIfInBounds t v1).setIfInBounds p2 v2).getD t undef=v1:=by
    rw [cJ, dH (by omega),dP (by omega)];rfl
   rw [this]
   exact VR.mono h.le (fun _ _=>rfl) (hv B).1
  ·rw [beq_eq_false_iff_ne.2 e1] at hv2
   dsimp only at hv2
   rw [List.lookup_cons] at hv2
   by_cases e2:t=p2
   ·subst e2
    simp only [beq_self_eq_true] at hv2
    cases hv2
    have:((a.tmps.setIfInBounds p1 v1).setIfInBounds t v2).getD t undef=v2:=by
     rw [cJ, dP (by simp;omega)];rfl
    rw [this]
    exact VR.mono h.le (fun _ _=>rfl) (hv B).2
   ·rw [beq_eq_false_iff_ne.2 e2] at hv2
    dsimp only at hv2
    have:((a.tmps.setIfInBounds p1 v1).setIfInBounds p2 v2).getD t undef=a.tmps.getD t undef:=by
     rw [cJ, dH (by omega),dH (by omega),<- cJ]
    rw [this]
    exact h.slot t v hv2
theorem StC.again {a':Act} (h:StC w0 H1 Bx Kn N (F.of [] lc) a' w) (hd:a.defers=[]) (hn:a.tmps.size=N) (hs:∀ t v,(F.of sl lc).s t=some v->VR H1 Bx v (a.tmps.getD t undef)) (hK:(sl.all fun p=>p.2.tags.all (hasN Kn))=true):StC w0 H1 Bx Kn N (F.of sl lc) a w:=by
 obtain ⟨H,B,h,hc⟩:=h
 refine ⟨H,B,⟨hd,hn,h.ext,h.sat,fun t v hv=>VR.mono h.le (fun n hm=>h.keep n ?_) (hs t v hv),h.loc,h.priv,h.inj,h.low,h.le,h.keep,h.tab⟩,hc⟩
 exact zff.1 (bV.1 (bV.1 hK (t,v) (zb3 hv)) n hm)
end
theorem rangeB {t p1 p2 gf:Nat} {assign body rest:Code} {xs:D} {e:Nat->V × V} {Q0:Exit->Act->World->Prop}
  (Kn:List Nat) (sl':List (Nat × V)) (lcs:Nat->List (Nat × L)) (slA:Nat->List (Nat × V)) (lcA:Nat->List (Nat × L)) (h:St ⟨w0,H0,B0,[],N⟩ (F.of sl lc) a w) (it:IterOk P gf xs m e) (hk:zbm P gf)
  (hs:(F.of sl lc).s t=some (.t (.c (.fn (.func gf) [] [.ptr n 0])))) (hl:(F.of sl lc).l n=some (.box [.d xs])) (hp:p1≠p2) (hp1:p1<N) (hp2:p2<N)
  (h1:leS (F.of sl lc) sl'=sl'.map fun p=>some p.2) (h2:leN (F.of sl lc) (lcs 0)=(lcs 0).map fun p=>some p.2) (h3:((lcs 0).all fun p=>!(p.1 == n))=true) (hK:(sl'.all fun p=>p.2.tags.all (hasN Kn))=true) (hK2:(Kn.all fun k=>((F.of sl lc).l k).isSome)=true)
  (hassign:∀ (H:Im) (B:Bl) (l j:Nat) (a:Act) (w:World),j<m->St ⟨w0,H,B,Kn,N⟩ (F.of ((p1,(e j).1) :: (p2,(e j).2) :: sl') (lcs j)) a w->wpX (some l) [] P assign (fun ex a w=>ex = .normal/\St ⟨w0,H,B,Kn,N⟩ (F.of (slA j) (lcA j)) a w) a w)
  (hbody:∀ (H:Im) (B:Bl) (l j:Nat) (a:Act) (w:World),j<m->St ⟨w0,H,B,Kn,N⟩ (F.of (slA j) (lcA j)) a w->wpX (some l) [] P body (fun ex a w=>ex = .normal/\St ⟨w0,H,B,Kn,N⟩ (F.of [] (lcs (j+1))) a w) a w)
  (hrest:∀ (H:Im) (Dd:Nat) (a:Act) (w:World),St ⟨w0,H,B0,[],N⟩ (F.of sl' (lcs m)) a w->wpX none [{ target:=.collected Dd,args:=#[] }] P rest (RetX P fn ⟨w0,H,B0,[],N⟩ res qs) a w) :
  (Code.block id (.rangeFunc (.tmp t) #[p1,p2] assign body)).wp P (Exit.then (fun a w=>rest.wp P (bodyPostM Fence.wide 9 P fn (RetQ ⟨w0,H0,B0,[],N⟩ [] res qs)) a w) Q0) a w:=by
 have hdf:a.defers=[]:=by obtain ⟨_,_,h⟩:=h;exact h.df
 obtain ⟨H1,Bx,Bs,sv,ty,hle,hlow,hBs,hxs,hfn,hbx,hslot,hok⟩:=St.fix Kn h hl
 obtain ⟨ev,hev,hit⟩:=it H1 Bs sv ty hBs hxs
 have hn0:a.tmps.size=N:=hok.n
 have hH1:∀ b o,H1 b=some o->b<w.heap.size:=fun b o hb=>(cN.1 (hok.sat b o hb)).1
 have hKb:∀ k ∈ Kn,∀ b c,Bx k=some (b,c)->w0.heap.size<=b:=fun k hk b c hb=>by
  obtain ⟨l,hl⟩:=dO.1 (bV.1 hK2 k hk)
  exact hbx k l b c hl hb
 have hsl:∀ t v,sl'.lookup t=some v->VR H1 Bx v (a.tmps.getD t undef):=fun t v hv=>hslot t v (zcf h1 (t,v) (zb3 hv))
 have hws:w0.heap.size<=w.heap.size:=hok.ext.size
 have hfl:(⟨(F.of sl lc).s,fun m=>if m=n then none else (F.of sl lc).l m⟩:F).le (F.of sl' (lcs 0)):=by
  refine ⟨fun t v hv=>zcf h1 (t,v) (zb3 hv),fun k l hk=>?_⟩
  have hm:=zb3 hk
  have hne:k≠n:=by have:=bV.1 h3 _ hm;simpa using this
  simp only [if_neg hne]
  exact zcf h2 (k,l) hm
 have hst0:StC w0 H1 Bx Kn N (F.of sl' (lcs 0)) a w :=
  ⟨H1,Bx,⟨hok.df,hok.n,hok.ext,hok.sat,fun t v hv=>hok.slot t v (hfl.1 t v hv),fun k l hk=>hok.loc k l (hfl.2 k l hk),fun k l b c hk=>hok.priv k l b c (hfl.2 k l hk),fun k k' l l' b c c' hk hk'=>hok.inj k k' l l' b c c' (hfl.2 k l hk) (hfl.2 k' l' hk'),hok.low,hok.le,hok.keep,hok.tab⟩,fun b o hb => .inl hb⟩
 refine (wpIn_wide (n:=9)).1 (wpIn_block (wpIn_rangeFunc fun fnid _=>?_))
 obtain ⟨rec,hrec⟩:∃ rec:LoopState->Option Code->Loop,rec=fun st pe=>{ state:=st,pending:=pe,fn:=fnid,tmps:=a.tmps,params:=#[p1,p2],assign,body,defers:=w.heap.size }:=⟨_,rfl⟩
 obtain ⟨W1,hW1⟩:∃ W1,(w.alloc (.deferred (some []))).alloc (.loop (rec .ready none))=W1:=⟨_,rfl⟩
 have hL1:W1.heap[w.heap.size+1]?=some (.loop (rec .ready none)):=by
  rw [<- hW1];have:=World.alloc_heap_new (w.alloc (.deferred (some []))) (.loop (rec .ready none));rwa [World.size_alloc] at this
 have hK1:W1.heap[w.heap.size]?=some (.deferred (some [])):=by
  rw [<- hW1];exact (Below.heap_alloc _ _ _ (by simp)).trans (World.alloc_heap_new w _)
 have hbelow:Below w.heap.size w W1:=by rw [<- hW1];exact ((Below.refl _ w).alloc (bF _) _).alloc (by simp) _
 have hst1:StC w0 H1 Bx Kn N (F.of sl' (lcs 0)) a W1 :=
  hst0.turn (r:=W1.heap.size) (z:=w.heap.size) hbelow.os hbelow.tape hbelow.output hbelow.size (fun b hb _=>hbelow.block b hb) hws hbelow.size (fun o ho=>by have:=(cN.1 ho).1;have:=hbelow.size;omega) hH1
 -- a turn of the record keeps the state
 have hturn:∀ {K':List Nat} {B':Bl} {f:F} {a':Act} {W:World} (l:Nat) (o o':Obj),w.heap.size<=l->W.heap[l]?=some o->dat o=false->StC w0 H1 B' K' N f a' W->StC w0 H1 B' K' N f a' (W.putObj l o'):=fun l o o' hl ho hc hst =>
  hst.turn (r:=l) (z:=w.heap.size) rfl rfl rfl (by simp) (fun b _ hb=>World.putObj_heap_other hb) hws hl (fun o2 ho2=>by rw [ho] at ho2;cases ho2;exact hc) hH1
 have hfn1:a.eval (.tmp t) = .func (.func gf) #[] #[.pointer (some ⟨Bs,0,none⟩)]:=hfn t gf hs
 refine ⟨w.heap.size+1,[{ target:=.collected w.heap.size,args:=#[] }],W1,{ target:=.fn (.func gf) #[.pointer (some ⟨Bs,0,none⟩)],args:=#[.func (.yield (w.heap.size+1)) #[] #[]] }, W1,gf,
  #[.func (.yield (w.heap.size+1)) #[] #[]]++#[.pointer (some ⟨Bs,0,none⟩)],W1,?_,?_,fun _ _=>trivial,?_,fun h=>(by cases h),?_⟩
 ·rw [<- hW1,hrec];exact run_enterLoop_outer _ _ _ _ _
 ·simp only [resolve,hfn1]
  simp [go_sem]
 ·simp [invoke,go_sem,zjp hk]
 ·refine (hit (w.heap.size+1) (fun j W=>StC w0 H1 Bx Kn N (F.of sl' (lcs j)) a W/\W.heap[w.heap.size+1]?=some (.loop (rec .ready none))/\W.heap[w.heap.size]?=some (.deferred (some []))) W1 (fun j W hJ=>hJ.1.sat) ?_ ⟨hst1,hL1,hK1⟩).mono ?_
  ·rintro j W ⟨hst,hl,hd⟩ hj
   have hy:=run_yield (P:=P) (args:=#[(ev j).1,(ev j).2]) hl (by rw [hrec];rfl)
   rw [hrec] at hy
   refine ⟨fnid,_,assign,body,hy,roundIn_of_wpIn trivial ?_⟩
   have hA:=hassign _ Bx (w.heap.size+1) j _ W hj (hst.params hp hp1 hp2 (fun B=>hev B j hj)).jn
   refine wpIn_depth (n:=9) rfl (wpIn_mono hA ?_)
   rintro ex ⟨tm,dfs⟩ w1 ⟨hd1,rfl,hS⟩
   cases hd1
   have hl1:=hS.nc hst.sat hl rfl
   have hdd1:=hS.nc hst.sat hd rfl
   refine ⟨_,run_beginRound hl1 (by rw [hrec]),?_⟩
   obtain ⟨W2,hW2⟩:∃ W2,w1.putObj (w.heap.size+1) (.loop { rec .ready none with state:=.busy })=W2:=⟨_,rfl⟩
   rw [hW2]
   have hst2:=hturn (w.heap.size+1) _ (.loop { rec .ready none with state:=.busy }) (by omega) hl1 rfl hS.uncut
   rw [hW2] at hst2
   have hl2:W2.heap[w.heap.size+1]?=some (.loop { rec .ready none with state:=.busy }):=by rw [<- hW2];exact World.putObj_heap_same (cN.1 hl1).1
   have hdd2:W2.heap[w.heap.size]?=some (.deferred (some [])):=by rw [<- hW2];exact (World.putObj_heap_other (by omega)).trans hdd1
   have hB:=hbody _ Bx (w.heap.size+1) j _ W2 hj hst2.jn
   refine wpIn_depth (n:=9) rfl (wpIn_mono hB ?_)
   rintro ex ⟨tm3,dfs3⟩ w3 ⟨hd3,rfl,hS3⟩
   cases hd3
   have hl3:=hS3.nc hst2.sat hl2 rfl
   have hdd3:=hS3.nc hst2.sat hdd2 rfl
   have hend:=run_endRound (P:=P) none hl3
   refine ⟨_,_,hend,rfl,?_,?_,?_⟩
   ·exact hturn (w.heap.size+1) _ _ (by omega) hl3 rfl (hS3.uncut.again hdf hn0 hsl hK)
   ·rw [World.putObj_heap_same (cN.1 hl3).1,hrec];rfl
   ·exact (World.putObj_heap_other (by omega)).trans hdd3
  ·rintro en W2 ⟨⟨v,rfl⟩,hst,hl,hd⟩
   have hend:=run_endLoop (P:=P) hl (by rw [hrec];simp)
   refine ⟨_,_,hend,?_⟩
   rw [hrec]
   have hstE:=hturn (w.heap.size+1) _ (.loop { rec .ready none with state:=.exhausted }) (by omega) hl rfl hst
   have hdE:(W2.putObj (w.heap.size+1) (.loop { rec .ready none with state:=.exhausted })).heap[w.heap.size]?=some (.deferred (some [])):=(World.putObj_heap_other (by omega)).trans hd
   rw [hrec] at hstE hdE
   have hR:=hrest (zew H1 (markH w.heap.size)) w.heap.size a _ (St.join (hstE.open hKb) _ fun b o hb=>by
    unfold markH at hb
    split at hb
    ·rename_i e;subst e;cases hb;exact ⟨hdE,rfl⟩
    ·cases hb)
   refine (wpIn_wide (n:=9)).1 (wpIn_mono (show rest.wpIn Fence.wide 9 P _ { a with defers:=[{ target:=.collected w.heap.size,args:=#[] }]++a.defers } _ from by rw [hdf];exact hR) ?_)
   rintro ex a' w' ⟨hd', hr⟩
   exact leave_mark (ps:=[]) hle hlow hws hH1 hd' hr
theorem dfS {f:F} (h:St e f a w):a.defers=[]:=let ⟨_,_,h⟩:=h;h.df
attribute [local go_sem] Oper.semAt_some
def zc5 (zs:List za0) (j:Nat):za0:=(zs[zs.length - 1 - j]?).getD ⟨0,⟨⟨[],⟨false,[]⟩⟩,false⟩,[]⟩
theorem backF_at {zs:List za0} (hj:j<zs.length):zs[zs.length - 1 - j]?=some (zc5 zs j):=by unfold zc5;rw [b7 (by omega)];rfl
theorem backF_mem {zs:List za0} (hj:j<zs.length):zc5 zs j ∈ zs:=cK (backF_at hj)
theorem back_forms (zs:List za0) (hz:zs.length<=1000000):IterOk Tryz.prog 79 (.sl 6 (zs.map za0.d)) zs.length (fun j=>(vi .i64 ((zs.length - 1 - j:Nat):Int),.t (.agg [.d (.raw (.int .i64 (zc5 zs j).kind)),.d (.sl 3 ((zc5 zs j).r.t.parts.map za3.d)),.d (.raw (.bool (zc5 zs j).r.t.k.neg)),.d (nsl (zc5 zs j).r.t.k.abs),.d (.raw (.bool (zc5 zs j).r.eq)),.d (.sl 6 ((zc5 zs j).kids.map za0.d))]))):=by
 intro H1 Bs sv ty hBs hxs
 obtain ⟨ao,c,wv,rfl,hel,hdr⟩:∃ ao c,∃ wv:Nat->Nat->Value,sv = .slice ao zs.length c/\(∀ k,k<zs.length->∃ b o,ao=some ⟨b,o,none⟩/\∀ i,i<6->∀ W:World,(∀ b' o', H1 b'=some o'->W.heap[b']?=some o')->W.cell? ⟨b,o+k*6+i,none⟩=some (wv k i))/\∀ k,k<zs.length->∀ i,i<6->∀ d,((zs[k]?).getD ⟨0,⟨⟨[],⟨false,[]⟩⟩,false⟩,[]⟩).d[i]?=some d->DR H1 d (wv k i):=by
  cases hz0:zs with
  | nil =>
   rw [hz0] at hxs
   generalize hxd:D.sl 6 (([]:List za0).map za0.d)=xd at hxs
   cases hxs with
   | raw=>cases hxd
   | nil es ao c h hc=>exact ⟨ao,c,fun _ _=>undef,rfl,fun k hk=>absurd hk (dB k),fun k hk=>absurd hk (dB k)⟩
   | sl es rows b o c arr ty fz vs hp=>injection hxd with _ h2;subst h2;simp at hp
  | cons z zs' =>
   rw [<- hz0]
   generalize hxd:D.sl 6 (zs.map za0.d)=xd at hxs
   cases hxs with
   | raw=>cases hxd
   | nil es ao c h hc=>injection hxd with _ h2;rw [hz0] at h2;cases h2
   | sl es rows b o c arr ty fz vs hp hb hl hc hes hv hr =>
    injection hxd with h1 h2
    subst h1 h2
    refine ⟨some ⟨b,o,none⟩,c,vs,by simp,fun k hk=>⟨b,o,rfl,fun i hi W hW=>?_⟩,fun k hk i hi d hd=>?_⟩
    ·have hkl:k<(zs.map za0.d).length:=by simpa using hk
     have h3:=hv k hkl i hi
     exact ze8 (hW _ _ hb) (by simpa using h3)
    ·have hkl:k<(zs.map za0.d).length:=by simpa using hk
     have e:(zs.map za0.d)[k]'hkl=((zs[k]?).getD ⟨0,⟨⟨[],⟨false,[]⟩⟩,false⟩,[]⟩).d:=by simp [hk]
     have hd2:((zs.map za0.d)[k]'hkl)[i]?=some d:=by rw [e];exact hd
     obtain ⟨hi2,rfl⟩:=dA.1 hd2
     exact hr k hkl i hi2
 refine ⟨fun j=>(.int .i64 ((zs.length:Int) - 1 - j),.agg #[wv (zs.length - 1 - j) 0,wv (zs.length - 1 - j) 1,wv (zs.length - 1 - j) 2,wv (zs.length - 1 - j) 3,wv (zs.length - 1 - j) 4,wv (zs.length - 1 - j) 5]),fun B j hj=>⟨?_,?_⟩,fun l J W hJs hY h0=>?_⟩
 ·show VR H1 B (vi .i64 ((zs.length - 1 - j:Nat):Int)) _
  rw [show ((zs.length - 1 - j:Nat):Int)=(zs.length:Int) - 1 - j by omega];exact .raw _ rfl
 ·have hk:zs.length - 1 - j<zs.length:=by omega
  have q:=fun i hi d=>hdr _ hk i hi d
  rw [za0.d_eq] at q
  exact ⟨[_,_,_,_,_,_],rfl,q 0 (by decide) _ rfl,q 1 (by decide) _ rfl,q 2 (by decide) _ rfl,q 3 (by decide) _ rfl,q 4 (by decide) _ rfl,q 5 (by decide) _ rfl,trivial⟩
 have hcB:∀ j W,J j W->W.cell? ⟨Bs,0,none⟩=some (.slice ao zs.length c):=fun j W hJ=>ze8 (hJs j W hJ _ _ hBs) rfl
 have hc0:=hcB 0 W h0
 refine callsIn_of_wp Tryz.func79 rfl trivial ?_ rfl
 simp only [Tryz.ntmps79,List.size_toArray,bP,cT,Nat.reduceAdd,Nat.reduceSub,Array.replicate_succ,Array.replicate_zero,List.push_toArray,List.append_toArray,List.nil_append,cZ]
 gi_wp2
 gi_loopw [3] (fun i wr=>∃ k:Nat,k<=zs.length/\i = .int .i64 ((zs.length:Int) - 1 - k)/\J k wr) (fun i _=>(intOf i+1).toNat)
 case atStart=>exact ⟨0,bL _,by simp,h0⟩
 case round =>
  obtain ⟨k,hk,rfl,hJk⟩:=hrel
  have hcw:=hcB k wr hJk
  by_cases hlt:k<zs.length
  ·obtain ⟨fn,tmps,assign,body,hy,hR⟩:=hY k wr hJk hlt
   obtain ⟨b,o,rfl,hcell⟩:=hel (zs.length - 1 - k) (by omega)
   have hcx0:wr.cell? ⟨b,o+(zs.length - 1 - k)*6,none⟩=some (wv (zs.length - 1 - k) 0):=hcell 0 (by decide) wr (hJs k wr hJk)
   have hcx1:=hcell 1 (by decide) wr (hJs k wr hJk)
   have hcx2:=hcell 2 (by decide) wr (hJs k wr hJk)
   have hcx3:=hcell 3 (by decide) wr (hJs k wr hJk)
   have hcx4:=hcell 4 (by decide) wr (hJs k wr hJk)
   have hcx5:=hcell 5 (by decide) wr (hJs k wr hJk)
   have e1:((zs.length:Int) - 1 - k).toNat=zs.length - 1 - k:=by omega
   have hge:decide ((zs.length:Int) - 1 - k>=0)=true:=decide_eq_true (by omega)
   try dsimp only at hy
   gi_wp2
   refine hR.mono ?_
   rintro e W3 ⟨rfl,hJ3⟩
   gi_wp2
   go_roundw
   case rel=>exact ⟨k+1,by omega,by first | rfl | (simp;omega),hJ3⟩
   case measure=>simp [intOf];omega
  ·obtain rfl:k=zs.length:=by omega
   gi_wp2
   go_end0
   exact ⟨⟨_,rfl⟩,hJk⟩
theorem nc2_6:zbm Tryz.prog 79:=zbm.mk' (by kernel_rfl)
theorem gath_allG {P:za8->Prop} {L:Nat} (hP:∀ r,TOk n L r.t->P (cpR r)) (f:za0):f.okA n L->∀ ps,(∀ r ∈ ps,P r)->∀ r ∈ f.gath ps,P r :=
 za0.ind (P:=fun f=>f.okA n L->∀ ps,(∀ r ∈ ps,P r)->∀ r ∈ f.gath ps,P r) (fun k r ks ih hf ps hps=>by
  obtain ⟨h1,h2⟩:=(za0.okA_eq _ _ _).1 hf
  rw [za0.gath_eq]
  split
  ·rename_i e
   intro q hq
   rcases cG.1 hq with hq | hq
   ·exact hps q hq
   ·rw [bE.1 hq];exact hP r (h1 e.1)
  ·have:∀ (xs:List za0),(∀ g ∈ xs,g ∈ ks)->∀ qs:List za8,(∀ r ∈ qs,P r)->∀ r ∈ xs.foldl (fun a g=>g.gath a) qs,P r:=fun xs=>by
    induction xs with
    | nil=>intro _ qs h;exact h
    | cons x xs ihx =>
     intro hx qs h
     rw [cF]
     exact ihx (fun g hg=>hx g (bX _ hg)) _ (ih x (hx x (bG ..)) (h2 x (hx x (bG ..))) qs h)
   exact this ks (fun g hg=>hg) ps hps) f
def zbv (ps:List za8) (cs:List za0):Nat->List za8
  | 0=>ps
  | j+1=>gathT (zbv ps cs j) ((zc5 cs j).flat false)
theorem newA_ge (ps:List za8) (cs:List za0) (j:Nat):ps.length<=(zbv ps cs j).length:=by
 induction j with
 | zero=>exact bF _
 | succ j ih =>
  obtain ⟨l,e⟩:=gath_pre ((zc5 cs j).flat false) ((zbv ps cs j).map cpR)
  show _<=(((zc5 cs j).flat false).gath ((zbv ps cs j).map cpR)).length
  rw [e,bK,bC];omega
theorem newA_ok (hs:zbg 3 s) (hw:zkv s) (hps:zhw ps) {xs:List zcw} (cs:List Int) (hl:xs.length<=5) (hj:j<=(zaf s ps xs cs).length):(∀ r ∈ zbv ps (zaf s ps xs cs) j,TOk 40000000 (600+j) r.t)/\(zbv ps (zaf s ps xs cs) j).length<=1000+j*5000000:=by
 have hn:=zcu s ps xs cs
 induction j with
 | zero=>exact ⟨fun r hr=>(hps.2 r hr).mono (by decide) (by decide),by have:=hps.1;show ps.length<=_;omega⟩
 | succ j ih =>
  obtain ⟨h1,h2⟩:=ih (by omega)
  obtain ⟨c1,c2⟩:=zk6 hs hw hps cs hl (backF_mem hj)
  have c3:=zeq (zc5 (zaf s ps xs cs) j)
  have c4:=zem (zc5 (zaf s ps xs cs) j) false
  refine ⟨?_,?_⟩
  ·refine gath_allG (P:=fun r=>TOk 40000000 (600+(j+1)) r.t) (n:=32400000) (L:=502) (fun r hr=>(hr.plain (by decide)).mono (by decide) (by omega)) _ (ziz (by decide) (by decide) _ c1 false) _ fun r hr=>?_
   obtain ⟨q,hq,rfl⟩:=bJ.1 hr
   exact (h1 q hq).plain (by decide)
  ·have:=gath_len ((zc5 (zaf s ps xs cs) j).flat false) ((zbv ps (zaf s ps xs cs) j).map cpR)
   rw [bC] at this
   show (((zc5 (zaf s ps xs cs) j).flat false).gath ((zbv ps (zaf s ps xs cs) j).map cpR)).length<=_
   omega
def nwS (out:List za8) (r:za8):List za8:=if tgtB r=true then (if out.length<24 then out++[cpR r] else out) else out
theorem nwS_f {r:za8} (h:tgtB r=false):nwS out r=out:=by unfold nwS;rw [if_neg (by rw [h];exact Bool.noConfusion)]
theorem nwS_t {r:za8} (h:tgtB r=true) (k:out.length<24):nwS out r=out++[cpR r]:=by unfold nwS;rw [if_pos h,if_pos k]
theorem nwS_x {r:za8} (h:tgtB r=true) (k:¬ out.length<24):nwS out r=out:=by unfold nwS;rw [if_pos h,if_neg k]
def nwO (ps xs:List za8) (j:Nat):List za8:=(xs.take j).foldl nwS (ps.map cpR)
theorem nwO_at {xs:List za8} {r:za8} (h:xs[j]?=some r):nwO ps xs (j+1)=nwS (nwO ps xs j) r:=by
 unfold nwO;rw [dI,h,List.foldl_append];rfl
theorem nwO_len (ps xs:List za8) (j:Nat):(nwO ps xs j).length<=ps.length+24:=by
 unfold nwO
 have:∀ (l:List za8) (a:List za8),a.length<=ps.length+24->(l.foldl nwS a).length<=ps.length+24:=fun l=>by
  induction l with
  | nil=>intro a h;exact h
  | cons x l ih =>
   intro a h
   rw [cF]
   refine ih _ ?_
   unfold nwS
   split
   ·split
    ·rw [bK,dQ];omega
    ·exact h
   ·exact h
 exact this _ _ (by rw [bC];omega)
def newT (s:zam) (ps:List za8) (p:zdw):List za8:=nwO ps ((zbv ps (zaf s ps p.states p.acts) (zaf s ps p.states p.acts).length).drop ps.length) ((zbv ps (zaf s ps p.states p.acts) (zaf s ps p.states p.acts).length).drop ps.length).length
theorem LBackF (xs:List za0) :Fn Tryz.prog 47 [] [(vFs xs)] (.t (.c (.fn (.func 79) [] [.ptr 0 0]))) [(0,.box [cFs xs])]:=by
 refine fB Tryz.func47 rfl 4 fun w H B a h=>Jq 0 [] [(1,vp 0 0),(2,vW .nilFunc)] [(0,.box [cFs xs])] h fun a w h=>Jp 1 [(0,.g (Op.makeFs (d:=3) (fn:=.func 79) [(1,0,0)]))] [(2,.t (.c (.fn (.func 79) [] [.ptr 0 0])))] h fun a w h=>qV (rT (.c (.fn (.func 79) [] [.ptr 0 0])) h rfl ?_)
 rfl
theorem LcopiedO (ps:List za8) {L:Nat} (hps:∀ r ∈ ps,TOk n L r.t) (hn:n<=1000000000) (hL:L<=10000) (hl:ps.length<=1000000):Fn Tryz.prog 50 [] [(vRs ps)] (vO 0 (ps.map cpR).length) [(0,.row 32 4 ((ps.map cpR).map za8.d))]:=by
 refine fB Tryz.func50 rfl 23 fun w H B a h=>Jq 5 [] [(0,(vRs ps)),(2,vW zal)] [] h fun a w h=>Jg 5 [] [] [(3,vW zal)] [] [] h fun a w h=>qW (Jg 5 [(1,.len (za4 4 za8.d ps))] [0] [(6,(vRs ps)),(7,vN ps.length),(8,vI 0)] [] [] h fun a w h=>qZ ?_)
 replace h:=zfc 3 0 5 4 32 (vW zal) h
 refine zbx (ι:=(Nat)) (fun j=>j<=ps.length)
   [] (fun j=>[(3,vO 5 ((ps.take j).map cpR).length),(8,vN j)])
   [] (fun j=>[(5,.row 32 4 (((ps.take j).map cpR).map za8.d))])
   (fun j=>ps.length - j) 0 ?_ h ?_
 ·exact bL _
 clear h;rintro j a w hI h;have lmj:((ps.take j).map cpR).length<=j:=by rw [bC,cY];omega
 refine Je 6 [] [] [(9,vb (decide ((j:Int)<(ps.length:Int))))] h fun a w h=>qW (zae ((j:Int)<(ps.length:Int)) h (fun hc1 hc1'=>?_) (fun hc2 hc2'=>?_))
 ·refine qU (za1 (qW (qZ ?_)));obtain ⟨x1,hx1⟩:=gl ps j;refine Jg 6 [(0,.g (xD 10 6 kc_3 (za7 hx1 (f:=za8.d)) (OV.tmp 8 _)))] [9] [(5,vp 6 0)] [] [(6,.box [cPs x1.t.parts,cB x1.t.k.neg,.d (nsl x1.t.k.abs),cB x1.eq])] h fun a w h=>Jh 7 [(3,.call (zdz x1.t (hps x1 (lM hx1)) hn (by omega))),(7,.g (bD 19 ([(za8.mk (za2 x1.t) x1.eq)].map za8.d) [(18,vG [cPs (za2 x1.t).parts,cB (za2 x1.t).k.neg,.d (nsl (za2 x1.t).k.abs),cB x1.eq])] kc_5 (.cons (i:=0) (OV.tmp 18 _) (.nil)) (by kernel_rfl) (by simp [za8.d]))),(8,.g (Op.appOD (d:=20) (t:=12) (u:=19) (n:=5) (n':=7) (len:=((ps.take j).map cpR).length) (len':=(((ps.take j).map cpR)++[(za8.mk (za2 x1.t) x1.eq)]).length) (rows:=((ps.take j).map cpR).map za8.d) (rows2:=[(za8.mk (za2 x1.t) x1.eq)].map za8.d) (rows':=(((ps.take j).map cpR)++[(za8.mk (za2 x1.t) x1.eq)]).map za8.d) lh8_3 (by first | exact (bC _).symm | simp) (by first | (rw [bK,bC];done) | (simp;done) | (simp;omega)) (by simp) (by simp [za8.d]) (by first | omega | (simp at *;done) | (simp at *;omega))))] [5] [(3,vO 7 (((ps.take j).map cpR)++[(za8.mk (za2 x1.t) x1.eq)]).length)] [5,6] [(7,.row 32 4 ((((ps.take j).map cpR)++[(za8.mk (za2 x1.t) x1.eq)]).map za8.d))] h fun a w h=>za6 (za1 (Jf 8 [(0,.j1 j)] [] [(8,vI ((j:Int)+1))] h fun a w h=>za1 ?_));rw [show ((((ps.take j).map cpR)++[(za8.mk (za2 x1.t) x1.eq)]):List za8)=((ps.take (j+1)).map cpR) from (zej hx1)] at h;replace h:=zcz 7 5 h;refine zaa (x:=j) (y:=j+1) h ?_ ?_
  ·have:=zac hx1;show j+1<=ps.length;omega
  show ps.length - (j+1)<ps.length - j;have:=zac hx1;omega
 refine exA (Jp 8 [] [(2,vO 5 ((ps.take j).map cpR).length)] h fun a w h=>qV ?_);rw [show (((ps.take j).map cpR):List za8)=(ps.map cpR) from (by rw [cH (by omega)])] at h;replace h:=zcz 5 0 h;refine rT (.c (.own 0 (ps.map cpR).length)) h rfl ?_;rfl
abbrev q1 (ps:List za8) (s:zam) (p:zdw):V:=vI (((zbv ps (zaf s ps p.states p.acts) (zaf s ps p.states p.acts).length).drop ps.length).length:Int)
theorem LNew (s:zam) (ps:List za8) (p:zdw) (hs:zbg 3 s) (hw:zkv s) (hps:zhw ps) (hpl:p.states.length<=5) (hpa:p.acts.length<=6) (hpx:∀ x ∈ p.states,x.locs.length<=8/\x.bits.length<=30):Fn Tryz.prog 21 [] [vG [.d (.sl 1 (s.vars.map zdy)),.d (.sl 5 (s.bounds.map zaj.d)),cI s.init.kind,cPs s.init.r.t.parts,cB s.init.r.t.k.neg,.d (nsl s.init.r.t.k.abs),cB s.init.r.eq,cFs s.init.kids,.d (.sl 3 (s.procs.map zb9.d)),.d (.sl 10 (s.acts.map zap.d))],(vRs ps),vG [.d (.sl 2 (p.states.map zcw.d)),cIs p.acts]] (.tup [.c (cRs (newT s ps p)),.c (cB (decide (((newT s ps p).length:Int)>(ps.length:Int))))]) []:=by
 have lps:=hps.1;have lcn:(zaf s ps p.states p.acts).length<=5:=by rw [zcu];omega
 refine Fn.bodyR Tryz.func21 rfl 60 rfl fun w H B a h=>Jq 5 [] [(1,(vRs ps)),(3,vp 5 0),(5,vp 6 0),(6,vW zal),(7,vb false)] [(5,.box [.d (.sl 1 (s.vars.map zdy)),.d (.sl 5 (s.bounds.map zaj.d)),cI s.init.kind,cPs s.init.r.t.parts,cB s.init.r.t.k.neg,.d (nsl s.init.r.t.k.abs),cB s.init.r.eq,cFs s.init.kids,.d (.sl 3 (s.procs.map zb9.d)),.d (.sl 10 (s.acts.map zap.d))]),(6,.box [.d (.sl 2 (p.states.map zcw.d)),cIs p.acts])] h fun a w h=>Jg 7 [] [] [(8,vp 7 0)] [] [(7,.box [cRs ps])] h fun a w h=>qW (Jg 8 [(3,.call (zid s ps p hs hw hps hpl hpa hpx)),(4,.call (LBackF (zaf s ps p.states p.acts)))] [3,5] [(19,.t (.c (.fn (.func 79) [] [.ptr 0 0])))] [5,6] [(0,.box [cFs (zaf s ps p.states p.acts)])] h fun a w h=>?_)
 replace h:=cvM [] [] [] [(7,.box [cRs (zbv ps (zaf s ps p.states p.acts) 0)])] (by kernel_rfl) h;refine rangeB (m:=(zaf s ps p.states p.acts).length) (e:=fun j=>(vI (((zaf s ps p.states p.acts).length - 1 - j:Nat):Int),vG [cI (zc5 (zaf s ps p.states p.acts) j).kind,cPs (zc5 (zaf s ps p.states p.acts) j).r.t.parts,cB (zc5 (zaf s ps p.states p.acts) j).r.t.k.neg,.d (nsl (zc5 (zaf s ps p.states p.acts) j).r.t.k.abs),cB (zc5 (zaf s ps p.states p.acts) j).r.eq,cFs (zc5 (zaf s ps p.states p.acts) j).kids])) [7] [(1,(vRs ps)),(6,vW zal),(7,vb false),(8,vp 7 0)] (fun j=>[(7,.box [cRs (zbv ps (zaf s ps p.states p.acts) j)])]) (fun j=>[(6,vW zal),(7,vb false),(8,vp 7 0),(10,vp 8 0)]) (fun j=>[(7,.box [cRs (zbv ps (zaf s ps p.states p.acts) j)]),(8,.box [cI (zc5 (zaf s ps p.states p.acts) j).kind,cPs (zc5 (zaf s ps p.states p.acts) j).r.t.parts,cB (zc5 (zaf s ps p.states p.acts) j).r.t.k.neg,.d (nsl (zc5 (zaf s ps p.states p.acts) j).r.t.k.abs),cB (zc5 (zaf s ps p.states p.acts) j).r.eq,cFs (zc5 (zaf s ps p.states p.acts) j).kids])]) h (back_forms (zaf s ps p.states p.acts) (by omega)) nc2_6 rfl rfl (by decide) (by decide) (by decide) (by kernel_rfl) (by kernel_rfl) (by kernel_rfl) (by kernel_rfl) (by kernel_rfl) ?_ ?_ ?_
 ·clear h;intro H B l j a w hj h;refine rSX zcs 8 [] [(6,vW zal),(7,vb false),(8,vp 7 0),(10,vp 8 0)] [(7,.box [cRs (zbv ps (zaf s ps p.states p.acts) j)]),(8,.box [cI (zc5 (zaf s ps p.states p.acts) j).kind,cPs (zc5 (zaf s ps p.states p.acts) j).r.t.parts,cB (zc5 (zaf s ps p.states p.acts) j).r.t.k.neg,.d (nsl (zc5 (zaf s ps p.states p.acts) j).r.t.k.abs),cB (zc5 (zaf s ps p.states p.acts) j).r.eq,cFs (zc5 (zaf s ps p.states p.acts) j).kids])] (by kernel_rfl) (by kernel_rfl) h fun a w h=>?_;exact ⟨rfl,atS h (by kernel_rfl) (by kernel_rfl)⟩
 ·clear h;intro H B l j a w hj h;have hcj:=zk6 hs hw hps p.acts hpl (backF_mem hj);have haj:=newA_ok hs hw hps p.acts hpl (Nat.le_of_lt hj);refine wpX_block (rSX zcs 9 [(2,.call (LFlat (zc5 (zaf s ps p.states p.acts) j) (za0.okB_mono (by decide) (by decide) _ hcj.1) (by have:=zeq (zc5 (zaf s ps p.states p.acts) j);have:=hcj.2;omega))),(3,.call (LGather (zbv ps (zaf s ps p.states p.acts) j) (za0.flat (zc5 (zaf s ps p.states p.acts) j) false) (fun r hr=>(haj.1 r hr).mono (by decide) (by omega)) (za0.okA_mono (by decide) (by decide) _ (ziz (by decide) (by decide) _ hcj.1 false)) (by have:=zem (zc5 (zaf s ps p.states p.acts) j) false;have:=zeq (zc5 (zaf s ps p.states p.acts) j);have:=hcj.2;have:=haj.2;omega)))] [(6,vW zal),(7,vb false)] [(7,.box [cRs (gathT (zbv ps (zaf s ps p.states p.acts) j) (za0.flat (zc5 (zaf s ps p.states p.acts) j) false))])] (by kernel_rfl) (by kernel_rfl) h fun a w h=>za6 ?_);replace h:=cvM [1,8,19] [] [0] [(7,.box [cRs (zbv ps (zaf s ps p.states p.acts) (j+1))])] (by kernel_rfl) h;exact ⟨rfl,atS h (by kernel_rfl) (by kernel_rfl)⟩
 clear h;intro H Dd a w h;have hal9:=newA_ok hs hw hps p.acts hpl (bF _);have lal9:=newA_ge ps (zaf s ps p.states p.acts) (zaf s ps p.states p.acts).length;have ldr9:((zbv ps (zaf s ps p.states p.acts) (zaf s ps p.states p.acts).length).drop ps.length).length<=100000000:=by rw [dG];have:=hal9.2;omega
 refine rSeqX zcs 9 [(1,.call (LcopiedO ps (fun r hr=>hps.2 r hr) (by decide) (by decide) (by omega)))] [(1,(vRs ps)),(6,vW zal),(7,vb false),(8,vp 7 0),(11,vO 0 (ps.map cpR).length)] [(7,.box [cRs (zbv ps (zaf s ps p.states p.acts) (zaf s ps p.states p.acts).length)]),(0,.row 32 4 ((ps.map cpR).map za8.d))] (by kernel_rfl) (by kernel_rfl) h fun a w h=>wpX_seq (rSeqX zcs 9 [(2,.len (za4 4 za8.d ps)),(3,.g (Op.sliceD (d:=31) (t:=28) (l:=ps.length) (h:=(zbv ps (zaf s ps p.states p.acts) (zaf s ps p.states p.acts).length).length) (rows:=(zbv ps (zaf s ps p.states p.acts) (zaf s ps p.states p.acts).length).map za8.d) (rows':=((zbv ps (zaf s ps p.states p.acts) (zaf s ps p.states p.acts).length).drop ps.length).map za8.d) kc_3 (BO.yes (k:=.i64) (i:=ps.length) _ (OV.tmp 30 _)) (by rw [bC];exact BO.no _) (by first | omega | (simp at *;omega)) (by first | omega | (simp only [bC];omega) | (simp at *;omega)) (by first | (simp [List.map_drop];done) | (rw [cH (by simp <;> omega)];simp [List.map_drop])))),(4,.len (za4 4 za8.d ((zbv ps (zaf s ps p.states p.acts) (zaf s ps p.states p.acts).length).drop ps.length)))] [(1,(vRs ps)),(6,vW zal),(7,vb false),(11,vO 0 (ps.map cpR).length),(31,(vRs ((zbv ps (zaf s ps p.states p.acts) (zaf s ps p.states p.acts).length).drop ps.length))),(32,q1 ps s p),(33,vI 0)] [(0,.row 32 4 ((ps.map cpR).map za8.d))] (by kernel_rfl) (by kernel_rfl) h fun a w h=>wpX_block ?_);replace h:=cv (fun z_:List za8=>F.of [(1,(vRs ps)),(6,vW zal),(7,vb false),(11,vO 0 z_.length),(31,(vRs ((zbv ps (zaf s ps p.states p.acts) (zaf s ps p.states p.acts).length).drop ps.length))),(32,q1 ps s p),(33,vI 0)] [(0,.row 32 4 (z_.map za8.d))]) (show ((ps.map cpR):List za8)=(nwO ps ((zbv ps (zaf s ps p.states p.acts) (zaf s ps p.states p.acts).length).drop ps.length) 0) from rfl) (h.conv (by kernel_rfl))
 refine loopX (ι:=(Nat)) (fun j=>j<=((zbv ps (zaf s ps p.states p.acts) (zaf s ps p.states p.acts).length).drop ps.length).length)
   (fun j=>[(1,(vRs ps)),(6,vW zal),(7,vb false),(11,vO 0 (nwO ps ((zbv ps (zaf s ps p.states p.acts) (zaf s ps p.states p.acts).length).drop ps.length) j).length),(31,(vRs ((zbv ps (zaf s ps p.states p.acts) (zaf s ps p.states p.acts).length).drop ps.length))),(32,q1 ps s p),(33,vN j)])
   (fun j=>[(0,.row 32 4 ((nwO ps ((zbv ps (zaf s ps p.states p.acts) (zaf s ps p.states p.acts).length).drop ps.length) j).map za8.d))])
   (fun j=>((zbv ps (zaf s ps p.states p.acts) (zaf s ps p.states p.acts).length).drop ps.length).length - j) 0 ?_ h (by kernel_rfl) (by kernel_rfl) ?_
 ·exact bL _
 clear h;rintro j a w hI h;have lnj:=nwO_len ps ((zbv ps (zaf s ps p.states p.acts) (zaf s ps p.states p.acts).length).drop ps.length) j;refine rSeqX zcs 9 [] [(1,(vRs ps)),(6,vW zal),(7,vb false),(11,vO 0 (nwO ps ((zbv ps (zaf s ps p.states p.acts) (zaf s ps p.states p.acts).length).drop ps.length) j).length),(31,(vRs ((zbv ps (zaf s ps p.states p.acts) (zaf s ps p.states p.acts).length).drop ps.length))),(32,q1 ps s p),(33,vN j),(34,vb (decide ((j:Int)<(((zbv ps (zaf s ps p.states p.acts) (zaf s ps p.states p.acts).length).drop ps.length).length:Int))))] [(0,.row 32 4 ((nwO ps ((zbv ps (zaf s ps p.states p.acts) (zaf s ps p.states p.acts).length).drop ps.length) j).map za8.d))] (by kernel_rfl) (by kernel_rfl) h fun a w h=>wpX_seq (condX (decide ((j:Int)<(((zbv ps (zaf s ps p.states p.acts) (zaf s ps p.states p.acts).length).drop ps.length).length:Int))) h rfl (fun hc1=>?_) (fun hc6=>?_))
 ·have hc1':=dT hc1;refine wpX_skip (dfS h) (za1 (wpX_seq (wpX_block ?_)));obtain ⟨x6,hx6⟩:=gl ((zbv ps (zaf s ps p.states p.acts) (zaf s ps p.states p.acts).length).drop ps.length) j;refine rSeqX zcs 9 [(0,.g (xD 35 31 kc_3 (za7 hx6 (f:=za8.d)) (OV.tmp 33 _)))] [(1,(vRs ps)),(6,vW zal),(7,vb false),(11,vO 0 (nwO ps ((zbv ps (zaf s ps p.states p.acts) (zaf s ps p.states p.acts).length).drop ps.length) j).length),(13,vp 9 0),(31,(vRs ((zbv ps (zaf s ps p.states p.acts) (zaf s ps p.states p.acts).length).drop ps.length))),(32,q1 ps s p),(33,vN j)] [(0,.row 32 4 ((nwO ps ((zbv ps (zaf s ps p.states p.acts) (zaf s ps p.states p.acts).length).drop ps.length) j).map za8.d)),(9,.box [cPs x6.t.parts,cB x6.t.k.neg,.d (nsl x6.t.k.abs),cB x6.eq])] (by kernel_rfl) (by kernel_rfl) h fun a w h=>?_
  rcases bN (tgtB x6) with hc2 | hc5
  ·refine rSeqX zcs 10 [(1,.call (Fn.cast (LtightB x6 ((hal9.1 x6 (dJ (lM hx6))).mono (by decide) (by omega))) (congrArg vb hc2)))] [(1,(vRs ps)),(6,vW zal),(7,vb false),(11,vO 0 (nwO ps ((zbv ps (zaf s ps p.states p.acts) (zaf s ps p.states p.acts).length).drop ps.length) j).length),(13,vp 9 0),(31,(vRs ((zbv ps (zaf s ps p.states p.acts) (zaf s ps p.states p.acts).length).drop ps.length))),(32,q1 ps s p),(33,vN j),(43,vb (decide (((nwO ps ((zbv ps (zaf s ps p.states p.acts) (zaf s ps p.states p.acts).length).drop ps.length) j).length:Int)<24)))] [(0,.row 32 4 ((nwO ps ((zbv ps (zaf s ps p.states p.acts) (zaf s ps p.states p.acts).length).drop ps.length) j).map za8.d)),(9,.box [cPs x6.t.parts,cB x6.t.k.neg,.d (nsl x6.t.k.abs),cB x6.eq])] (by kernel_rfl) (by kernel_rfl) h fun a w h=>condX (decide (((nwO ps ((zbv ps (zaf s ps p.states p.acts) (zaf s ps p.states p.acts).length).drop ps.length) j).length:Int)<24)) h rfl (fun hc3=>?_) (fun hc4=>?_)
   ·have hc3':=dT hc3;refine rSX zcs 10 [(3,.call (zdz x6.t (hal9.1 x6 (dJ (lM hx6))) (by decide) (by omega))),(7,.g (bD 51 ([(za8.mk (za2 x6.t) x6.eq)].map za8.d) [(50,vG [cPs (za2 x6.t).parts,cB (za2 x6.t).k.neg,.d (nsl (za2 x6.t).k.abs),cB x6.eq])] kc_5 (.cons (i:=0) (OV.tmp 50 _) (.nil)) (by kernel_rfl) (by simp [za8.d]))),(8,.g (Op.appOD (d:=52) (t:=44) (u:=51) (n:=0) (n':=10) (len:=(nwO ps ((zbv ps (zaf s ps p.states p.acts) (zaf s ps p.states p.acts).length).drop ps.length) j).length) (len':=((nwO ps ((zbv ps (zaf s ps p.states p.acts) (zaf s ps p.states p.acts).length).drop ps.length) j)++[(za8.mk (za2 x6.t) x6.eq)]).length) (rows:=(nwO ps ((zbv ps (zaf s ps p.states p.acts) (zaf s ps p.states p.acts).length).drop ps.length) j).map za8.d) (rows2:=[(za8.mk (za2 x6.t) x6.eq)].map za8.d) (rows':=((nwO ps ((zbv ps (zaf s ps p.states p.acts) (zaf s ps p.states p.acts).length).drop ps.length) j)++[(za8.mk (za2 x6.t) x6.eq)]).map za8.d) lh8_3 (by first | exact (bC _).symm | simp) (by first | (rw [bK,bC];done) | (simp;done) | (simp;omega)) (by simp) (by simp [za8.d]) (by first | omega | (simp at *;done) | (simp at *;omega))))] [(1,(vRs ps)),(6,vW zal),(7,vb false),(11,vO 10 ((nwO ps ((zbv ps (zaf s ps p.states p.acts) (zaf s ps p.states p.acts).length).drop ps.length) j)++[(za8.mk (za2 x6.t) x6.eq)]).length),(31,(vRs ((zbv ps (zaf s ps p.states p.acts) (zaf s ps p.states p.acts).length).drop ps.length))),(32,q1 ps s p),(33,vN j)] [(10,.row 32 4 (((nwO ps ((zbv ps (zaf s ps p.states p.acts) (zaf s ps p.states p.acts).length).drop ps.length) j)++[(za8.mk (za2 x6.t) x6.eq)]).map za8.d))] (by kernel_rfl) (by kernel_rfl) h fun a w h=>za6 (za1 (rSX zcs 11 [(0,.j1 j)] [(1,(vRs ps)),(6,vW zal),(7,vb false),(11,vO 10 ((nwO ps ((zbv ps (zaf s ps p.states p.acts) (zaf s ps p.states p.acts).length).drop ps.length) j)++[(za8.mk (za2 x6.t) x6.eq)]).length),(31,(vRs ((zbv ps (zaf s ps p.states p.acts) (zaf s ps p.states p.acts).length).drop ps.length))),(32,q1 ps s p),(33,vI ((j:Int)+1))] [(10,.row 32 4 (((nwO ps ((zbv ps (zaf s ps p.states p.acts) (zaf s ps p.states p.acts).length).drop ps.length) j)++[(za8.mk (za2 x6.t) x6.eq)]).map za8.d))] (by kernel_rfl) (by kernel_rfl) h fun a w h=>za1 ?_));rw [show (((nwO ps ((zbv ps (zaf s ps p.states p.acts) (zaf s ps p.states p.acts).length).drop ps.length) j)++[(za8.mk (za2 x6.t) x6.eq)]):List za8)=(nwO ps ((zbv ps (zaf s ps p.states p.acts) (zaf s ps p.states p.acts).length).drop ps.length) (j+1)) from ((nwO_at hx6).trans (nwS_t hc2 (by have:=dT hc3;omega))).symm] at h;replace h:=zcz 10 0 h;refine zaa (x:=j) (y:=j+1) h ?_ ?_
    ·have:=zac hx6;show j+1<=((zbv ps (zaf s ps p.states p.acts) (zaf s ps p.states p.acts).length).drop ps.length).length;omega
    show ((zbv ps (zaf s ps p.states p.acts) (zaf s ps p.states p.acts).length).drop ps.length).length - (j+1)<((zbv ps (zaf s ps p.states p.acts) (zaf s ps p.states p.acts).length).drop ps.length).length - j;have:=zac hx6;omega
   have hc4':=dF hc4;refine wpX_skip (dfS h) (za6 (za1 (rSX zcs 11 [(0,.j1 j)] [(1,(vRs ps)),(6,vW zal),(7,vb false),(11,vO 0 (nwO ps ((zbv ps (zaf s ps p.states p.acts) (zaf s ps p.states p.acts).length).drop ps.length) j).length),(31,(vRs ((zbv ps (zaf s ps p.states p.acts) (zaf s ps p.states p.acts).length).drop ps.length))),(32,q1 ps s p),(33,vI ((j:Int)+1))] [(0,.row 32 4 ((nwO ps ((zbv ps (zaf s ps p.states p.acts) (zaf s ps p.states p.acts).length).drop ps.length) j).map za8.d))] (by kernel_rfl) (by kernel_rfl) h fun a w h=>za1 ?_)));replace h:=cv (fun z_:List za8=>F.of [(1,(vRs ps)),(6,vW zal),(7,vb false),(11,vO 0 z_.length),(31,(vRs ((zbv ps (zaf s ps p.states p.acts) (zaf s ps p.states p.acts).length).drop ps.length))),(32,q1 ps s p),(33,vI ((j:Int)+1))] [(0,.row 32 4 (z_.map za8.d))]) (show ((nwO ps ((zbv ps (zaf s ps p.states p.acts) (zaf s ps p.states p.acts).length).drop ps.length) j):List za8)=(nwO ps ((zbv ps (zaf s ps p.states p.acts) (zaf s ps p.states p.acts).length).drop ps.length) (j+1)) from ((nwO_at hx6).trans (nwS_x hc2 (by have:=dF hc4;omega))).symm) (h.conv (by kernel_rfl));refine zaa (x:=j) (y:=j+1) h ?_ ?_
   ·have:=zac hx6;show j+1<=((zbv ps (zaf s ps p.states p.acts) (zaf s ps p.states p.acts).length).drop ps.length).length;omega
   show ((zbv ps (zaf s ps p.states p.acts) (zaf s ps p.states p.acts).length).drop ps.length).length - (j+1)<((zbv ps (zaf s ps p.states p.acts) (zaf s ps p.states p.acts).length).drop ps.length).length - j;have:=zac hx6;omega
  refine rSeqX zcs 11 [(1,.call (Fn.cast (LtightB x6 ((hal9.1 x6 (dJ (lM hx6))).mono (by decide) (by omega))) (congrArg vb hc5)))] [(1,(vRs ps)),(6,vW zal),(7,vb false),(11,vO 0 (nwO ps ((zbv ps (zaf s ps p.states p.acts) (zaf s ps p.states p.acts).length).drop ps.length) j).length),(13,vp 9 0),(31,(vRs ((zbv ps (zaf s ps p.states p.acts) (zaf s ps p.states p.acts).length).drop ps.length))),(32,q1 ps s p),(33,vN j),(43,vb false)] [(0,.row 32 4 ((nwO ps ((zbv ps (zaf s ps p.states p.acts) (zaf s ps p.states p.acts).length).drop ps.length) j).map za8.d)),(9,.box [cPs x6.t.parts,cB x6.t.k.neg,.d (nsl x6.t.k.abs),cB x6.eq])] (by kernel_rfl) (by kernel_rfl) h fun a w h=>condX false h rfl nofun (fun _=>wpX_skip (dfS h) (za6 (za1 (rSX zcs 11 [(0,.j1 j)] [(1,(vRs ps)),(6,vW zal),(7,vb false),(11,vO 0 (nwO ps ((zbv ps (zaf s ps p.states p.acts) (zaf s ps p.states p.acts).length).drop ps.length) j).length),(31,(vRs ((zbv ps (zaf s ps p.states p.acts) (zaf s ps p.states p.acts).length).drop ps.length))),(32,q1 ps s p),(33,vI ((j:Int)+1))] [(0,.row 32 4 ((nwO ps ((zbv ps (zaf s ps p.states p.acts) (zaf s ps p.states p.acts).length).drop ps.length) j).map za8.d))] (by kernel_rfl) (by kernel_rfl) h fun a w h=>za1 ?_))))
  replace h:=cv (fun z_:List za8=>F.of [(1,(vRs ps)),(6,vW zal),(7,vb false),(11,vO 0 z_.length),(31,(vRs ((zbv ps (zaf s ps p.states p.acts) (zaf s ps p.states p.acts).length).drop ps.length))),(32,q1 ps s p),(33,vI ((j:Int)+1))] [(0,.row 32 4 (z_.map za8.d))]) (show ((nwO ps ((zbv ps (zaf s ps p.states p.acts) (zaf s ps p.states p.acts).length).drop ps.length) j):List za8)=(nwO ps ((zbv ps (zaf s ps p.states p.acts) (zaf s ps p.states p.acts).length).drop ps.length) (j+1)) from ((nwO_at hx6).trans (nwS_f hc5)).symm) (h.conv (by kernel_rfl));refine zaa (x:=j) (y:=j+1) h ?_ ?_
  ·have:=zac hx6;show j+1<=((zbv ps (zaf s ps p.states p.acts) (zaf s ps p.states p.acts).length).drop ps.length).length;omega
  show ((zbv ps (zaf s ps p.states p.acts) (zaf s ps p.states p.acts).length).drop ps.length).length - (j+1)<((zbv ps (zaf s ps p.states p.acts) (zaf s ps p.states p.acts).length).drop ps.length).length - j;have:=zac hx6;omega
 have hc6':=dF hc6;refine wpX_exit (dfS h) (zc0 (zc0 (zaw (za1 ?_))));replace h:=cv (fun z_:List za8=>F.of [(1,(vRs ps)),(6,vW zal),(7,vb false),(11,vO 0 z_.length),(31,(vRs ((zbv ps (zaf s ps p.states p.acts) (zaf s ps p.states p.acts).length).drop ps.length))),(32,q1 ps s p),(33,vN j),(34,vb (decide ((j:Int)<(((zbv ps (zaf s ps p.states p.acts) (zaf s ps p.states p.acts).length).drop ps.length).length:Int))))] [(0,.row 32 4 (z_.map za8.d))]) (show ((nwO ps ((zbv ps (zaf s ps p.states p.acts) (zaf s ps p.states p.acts).length).drop ps.length) j):List za8)=(newT s ps p) from (by rw [show j=((zbv ps (zaf s ps p.states p.acts) (zaf s ps p.states p.acts).length).drop ps.length).length by have:=dF hc6;omega];rfl)) (h.conv (by kernel_rfl));refine rSeqX zcs 11 [(4,.len (za4 4 za8.d ps))] [(6,vO 0 (newT s ps p).length),(7,vb (decide (((newT s ps p).length:Int)>(ps.length:Int))))] [(0,.row 32 4 ((newT s ps p).map za8.d))] (by kernel_rfl) (by kernel_rfl) h fun a w h=>wpX_ret (dfS h) ?_;replace h:=zie 0 4 32 ((newT s ps p).map za8.d) h [(newT s ps p).length] ⟨by first | exact (bC _).symm | (simp;done) | (simp;omega),trivial⟩;refine retX [.c (cRs (newT s ps p)),.c (cB (decide (((newT s ps p).length:Int)>(ps.length:Int))))] h Exit.ret (.inl rfl)  rfl ⟨RV.tmp _ _ rfl,RV.tmp _ _ rfl,trivial⟩ ?_ (by kernel_rfl) (by kernel_rfl);rfl
def fam1tb:Tb:=[(24,⟨1,false,[],[.d (.sl 3 (([]:List za3).map za3.d))],1⟩),(4,⟨1,false,[],[.d (.raw (.bool false))],3⟩),(26,⟨1,false,[],[.d (nsl [])],1⟩),(28,⟨2,true,[(0,1,false),(1,1,false)],[.d (.raw (.bool false)),.d (nsl [])],0⟩),(30,⟨3,true,[(0,1,false),(1,2,true)],[.d (.sl 3 (([]:List za3).map za3.d)),.d (.raw (.bool false)),.d (nsl [])],0⟩),(32,⟨4,true,[(0,3,true),(3,1,false)],[.d (.sl 3 (([]:List za3).map za3.d)),.d (.raw (.bool false)),.d (nsl []),.d (.raw (.bool false))],0⟩),(3,⟨1,false,[],[.d (.raw (.int .i64 0))],13⟩),(124,⟨3,true,[(0,1,false),(1,2,true)],[.d (.raw (.int .i64 0)),.d (.raw (.bool false)),.d (nsl [])],0⟩),(22,⟨1,false,[],[.d (.sl 1 (([]:List ByteArray).map zdy))],1⟩),(23,⟨1,false,[],[.d (.sl 5 (([]:List zaj).map zaj.d))],1⟩),(33,⟨1,false,[],[.d (.sl 6 (([]:List za0).map za0.d))],1⟩),(35,⟨6,true,[(0,1,false),(1,4,true),(5,1,false)],[.d (.raw (.int .i64 0)),.d (.sl 3 (([]:List za3).map za3.d)),.d (.raw (.bool false)),.d (nsl []),.d (.raw (.bool false)),.d (.sl 6 (([]:List za0).map za0.d))],0⟩),(36,⟨1,false,[],[.d (.sl 3 (([]:List zb9).map zb9.d))],1⟩),(37,⟨1,false,[],[.d (.sl 10 (([]:List zap).map zap.d))],1⟩),(39,⟨10,true,[(0,1,false),(1,1,false),(2,6,true),(8,1,false),(9,1,false)],[.d (.sl 1 (([]:List ByteArray).map zdy)),.d (.sl 5 (([]:List zaj).map zaj.d)),.d (.raw (.int .i64 0)),.d (.sl 3 (([]:List za3).map za3.d)),.d (.raw (.bool false)),.d (nsl []),.d (.raw (.bool false)),.d (.sl 6 (([]:List za0).map za0.d)),.d (.sl 3 (([]:List zb9).map zb9.d)),.d (.sl 10 (([]:List zap).map zap.d))],0⟩),(41,⟨1,false,[],[.d (.sl 2 (([]:List zcw).map zcw.d))],1⟩),(42,⟨1,false,[],[.d (.sl 1 (([]:List Int).map zak))],1⟩),(44,⟨2,true,[(0,1,false),(1,1,false)],[.d (.sl 2 (([]:List zcw).map zcw.d)),.d (.sl 1 (([]:List Int).map zak))],0⟩),(67,⟨1,false,[],[.d (.sl 1 (([]:List Bool).map zd0))],1⟩),(69,⟨2,true,[(0,1,false),(1,1,false)],[.d (.sl 1 (([]:List Int).map zak)),.d (.sl 1 (([]:List Bool).map zd0))],0⟩),(40,⟨1,false,[],[.d (.sl 4 (([]:List za8).map za8.d))],1⟩),(71,⟨1,false,[],[.d (.sl 5 (([]:List zai).map zai.d))],1⟩),(73,⟨10,true,[(0,1,false),(1,1,false),(2,1,false),(3,6,true),(9,1,false)],[.d (.raw (.int .i64 0)),.d (.raw (.int .i64 0)),.d (.raw (.int .i64 0)),.d (.raw (.int .i64 0)),.d (.sl 3 (([]:List za3).map za3.d)),.d (.raw (.bool false)),.d (nsl []),.d (.raw (.bool false)),.d (.sl 6 (([]:List za0).map za0.d)),.d (.sl 5 (([]:List zai).map zai.d))],0⟩),(75,⟨5,true,[(0,1,false),(1,1,false),(2,3,true)],[.d (.raw (.int .i64 0)),.d (.raw (.bool false)),.d (.sl 3 (([]:List za3).map za3.d)),.d (.raw (.bool false)),.d (nsl [])],0⟩),(59,⟨1,false,[],[.d (.raw zal)],1⟩),(61,⟨2,true,[(0,1,false),(1,1,false)],[.d (.raw zal),.d (.raw zal)],0⟩),(98,⟨2,true,[(0,1,false),(1,1,false)],[.d (.raw zal),.d (.raw zal)],0⟩),(45,⟨1,false,[],[.d (.raw zal)],1⟩),(47,⟨3,true,[(0,1,false),(1,1,false),(2,1,false)],[.d (.raw zal),.d (.raw zal),.d (.raw zal)],0⟩),(9,⟨1,false,[],[.d (.raw (.string ByteArray.empty))],2⟩),(100,⟨1,false,[],[.d (.sl 10 [])],1⟩),(102,⟨3,true,[(0,1,false),(1,1,false),(2,1,false)],[.d (.raw (.string ByteArray.empty)),.d (.sl 1 (([]:List ByteArray).map zdy)),.d (.sl 10 [])],0⟩)]
theorem zao:zku Tryz.prog fam1tb:=tbB_spec (by kernel_rfl)
def sm24 (s:zam) (ps:List za8) (p:zdw):Bool:=(zc2 1 s && (decide (s.acts.length<=6) && (zh1 ps 30 1 && (decide (p.states.length<=5) && (decide (p.acts.length<=6) && p.states.all (fun x:zcw=>decide (x.locs.length<=8) && decide (x.bits.length<=30)))))))
def fsA (s:zam) (ps:List za8) (j:Nat):List za0:=[s.init]++(ps.take j).map atE
def fsG (c:zap) (i:Nat):List za0:=c.guard :: (c.moves.take i).map fun m=>atE ⟨m.t,false⟩
def fsB (s:zam) (ps:List za8) (j:Nat):List za0:=fsA s ps ps.length++(s.acts.take j).flatMap fun c=>fsG c c.moves.length
def fsL (s:zam) (ps:List za8):List za0:=fsA s ps ps.length++s.acts.flatMap fun c=>fsG c c.moves.length
def pr24 (s:zam) (ps:List za8):Bool:=(fsL s ps).all (inB s)
theorem fsA_at {r:za8} (h:ps[j]?=some r):fsA s ps j++[atE r]=fsA s ps (j+1):=by
 unfold fsA;rw [cX,zej h]
theorem fsB_at {c:zap} (h:s.acts[j]?=some c):fsB s ps j++fsG c c.moves.length=fsB s ps (j+1):=by
 unfold fsB;rw [cX,dI,h,List.flatMap_append];simp
theorem fsG_at {c:zap} {m:zai} (h:c.moves[i]?=some m):fsG c i++[atE ⟨m.t,false⟩]=fsG c (i+1):=by
 unfold fsG;rw [cZ,zej (f:=fun m:zai=>atE ⟨m.t,false⟩) h]
theorem fsA_len (s:zam) (ps:List za8) (j:Nat):(fsA s ps j).length<=1+ps.length:=by unfold fsA;rw [bK,bC,cY];simp;omega
theorem fsG_len (c:zap) (i:Nat):(fsG c i).length<=1+c.moves.length:=by unfold fsG;rw [bP,bC,cY];omega
theorem fsB_len (hs:zbg 3 s) (ps:List za8) (j:Nat):(fsB s ps j).length<=1+ps.length+420:=by
 unfold fsB
 rw [bK]
 have h1:=fsA_len s ps ps.length
 have h2:((s.acts.take j).flatMap fun c=>fsG c c.moves.length).length<=(s.acts.take j).length*21:=by
  rw [List.length_flatMap]
  exact sum_c fun c hc=>by have:=fsG_len c c.moves.length;have:=(hs.act c (dR hc)).len;omega
 have h3:=hs.acts
 rw [cY] at h2
 omega
theorem atE_ok {L:Nat} {r:za8} (h:TOk n L r.t):(atE r).okB n L/\(atE r).wid<=100:=⟨zhj h,by rw [za0.wid_eq];show 3+(List.map za0.wid (cnt (2:Int) [])).sum<=100;decide⟩
theorem fsL_ok (hs:zbg 3 s) (hw:zkv s) (hps:zhw ps):∀ f ∈ fsL s ps,f.okB 20 10/\f.wid<=100:=fun f hf=>by
 unfold fsL fsA fsG at hf
 rcases cG.1 hf with hf | hf
 ·rcases cG.1 hf with hf | hf
  ·rw [bE.1 hf];exact ⟨za0.okB_mono (by decide) (by decide) _ (form_okB hs.init (bS hw.1 (by decide))),hw.1⟩
  ·rw [cH (bF _)] at hf
   obtain ⟨r,hr,rfl⟩:=bJ.1 hf
   exact atE_ok (hps.2 r hr)
 ·obtain ⟨c,hc,hf⟩:=cP.1 hf
  rcases bU.1 hf with rfl | hf
  ·have h:=hw.2 c hc;exact ⟨za0.okB_mono (by decide) (by decide) _ (form_okB (hs.act c hc).guard (bS h (by decide))),h⟩
  ·rw [cH (bF _)] at hf
   obtain ⟨m,hm,rfl⟩:=bJ.1 hf
   exact atE_ok (((hs.act c hc).mv m hm).mono (by decide) (by decide))
theorem zhu (n:Int) (hn:-1000<=n/\n<=1000):Fn Tryz.prog 28 [] [vI n] (vG [cPs (zan n).t.parts,cB (zan n).t.k.neg,.d (nsl (zan n).t.k.abs),cB (zan n).eq]) []:=by
 refine fB Tryz.func28 rfl 11 fun w H B a h=>Jq (htb:=zao) 0 [] [(0,vI n),(2,vp 0 0)] [(0,.box [cPs ([]:List za3),cB false,.d (nsl []),cB false])] h fun a w h=>Jd (htb:=zao) 1 [(0,.call (SROf 1 ⟨by omega,by omega⟩)),(2,.g (bD 5 ([(za3.mk 0 (ZI.of 1))].map za3.d) [(4,vG [cI 0,cB (ZI.of 1).neg,.d (nsl (ZI.of 1).abs)])] tb_9 (.cons (i:=0) (OV.tmp 4 _) (.nil)) (by kernel_rfl) (by simp [za3.d]))),(4,.sub .i64 (m:=0) (n:=n) i6),(5,.call (SROf (0 - n) ⟨by omega,by omega⟩))] [0] [] [(0,.box [cPs [(za3.mk 0 (ZI.of 1))],cB (ZI.of (0 - n)).neg,.d (nsl (ZI.of (0 - n)).abs),cB false])] h fun a w h=>qV (rA 0 [cPs [(za3.mk 0 (ZI.of 1))],cB (ZI.of (0 - n)).neg,.d (nsl (ZI.of (0 - n)).abs),cB false] h la_1 rfl ?_)
 rfl
theorem zjd (s:zam) (ps:List za8) (p:zdw) (hr:SysRd s) (hpl:ps.length<=9223372036854775807) (hsl:p.states.length<=9223372036854775807) (hal:p.acts.length<=9223372036854775807) (hxl:∀ x ∈ p.states,x.locs.length<=9223372036854775807/\x.bits.length<=9223372036854775807):Fn Tryz.prog 8 [] [vG [.d (.sl 1 (s.vars.map zdy)),.d (.sl 5 (s.bounds.map zaj.d)),cI s.init.kind,cPs s.init.r.t.parts,cB s.init.r.t.k.neg,.d (nsl s.init.r.t.k.abs),cB s.init.r.eq,cFs s.init.kids,.d (.sl 3 (s.procs.map zb9.d)),.d (.sl 10 (s.acts.map zap.d))],(vRs ps),vG [.d (.sl 2 (p.states.map zcw.d)),cIs p.acts]] (vb (sm24 s ps p)) []:=by
 have lac9:=hr.len;refine fB Tryz.func8 rfl 53 fun w H B a h=>Jq (htb:=zao) 0 [] [(1,(vRs ps)),(3,vp 0 0),(5,vp 1 0),(6,vb false)] [(0,.box [.d (.sl 1 (s.vars.map zdy)),.d (.sl 5 (s.bounds.map zaj.d)),cI s.init.kind,cPs s.init.r.t.parts,cB s.init.r.t.k.neg,.d (nsl s.init.r.t.k.abs),cB s.init.r.eq,cFs s.init.kids,.d (.sl 3 (s.procs.map zb9.d)),.d (.sl 10 (s.acts.map zap.d))]),(1,.box [.d (.sl 2 (p.states.map zcw.d)),cIs p.acts])] h fun a w h=>qW ?_
 rcases bN (zc2 1 s) with hc1 | hc16
 ·rcases bN (decide ((s.acts.length:Int)>6)) with hc2 | hc3
  ·have hc2':=dT hc2;refine Jg (htb:=zao) 2 [(1,.call (Fn.cast (SFewSys s 1 hr) (congrArg vb hc1))),(6,.len (za4 10 zap.d s.acts)),(7,.cmp (op:=.gtr) (m:=(s.acts.length:Int)) (n:=6) (b:=true) .i64 hc2)] [1,3] [(34,vb true)] [0] [] h fun a w h=>cS true h (fun _=>?_) nofun
   refine Je (htb:=zao) 2 [] [34] [] h fun a w h=>qV (za5 (rT (.c (cB false)) h rfl ?_));have hz:sm24 s ps p=(false):=by unfold sm24;rw [hc1,decide_eq_false (p:=s.acts.length<=6) (by have:=dT hc2;omega)];simp
   rw [hz];try rfl
  have hc3':=dF hc3
  rcases bN (zh1 ps 30 1) with hc4 | hc15
  ·rcases bN (decide ((p.states.length:Int)>5)) with hc5 | hc6
   ·have hc5':=dT hc5;refine Jg (htb:=zao) 2 [(1,.call (Fn.cast (SFewSys s 1 hr) (congrArg vb hc1))),(6,.len (za4 10 zap.d s.acts)),(7,.cmp (op:=.gtr) (m:=(s.acts.length:Int)) (n:=6) (b:=false) .i64 hc3),(11,.call (Fn.cast (LFewRs ps 30 1 hpl) (congrArg vb hc4))),(17,.len (za4 2 zcw.d p.states)),(18,.cmp (op:=.gtr) (m:=(p.states.length:Int)) (n:=5) (b:=true) .i64 hc5)] [1,3] [(34,vb true)] [0] [] h fun a w h=>cS true h (fun _=>?_) nofun
    refine Je (htb:=zao) 2 [] [34] [] h fun a w h=>qV (za5 (rT (.c (cB false)) h rfl ?_));have hz:sm24 s ps p=(false):=by unfold sm24;rw [hc1,decide_eq_true (p:=s.acts.length<=6) (by have:=dF hc3;omega),hc4,decide_eq_false (p:=p.states.length<=5) (by have:=dT hc5;omega)];simp
    rw [hz];try rfl
   have hc6':=dF hc6;refine Jg (htb:=zao) 2 [(1,.call (Fn.cast (SFewSys s 1 hr) (congrArg vb hc1))),(6,.len (za4 10 zap.d s.acts)),(7,.cmp (op:=.gtr) (m:=(s.acts.length:Int)) (n:=6) (b:=false) .i64 hc3),(11,.call (Fn.cast (LFewRs ps 30 1 hpl) (congrArg vb hc4))),(17,.len (za4 2 zcw.d p.states)),(18,.cmp (op:=.gtr) (m:=(p.states.length:Int)) (n:=5) (b:=false) .i64 hc6),(23,.len (za4 1 zak p.acts))] [1,3] [(34,vb (decide ((p.acts.length:Int)>6)))] [0] [] h fun a w h=>zae ((p.acts.length:Int)>6) h (fun hc7 hc7'=>?_) (fun hc8 hc8'=>?_)
   ·refine Je (htb:=zao) 2 [] [34] [] h fun a w h=>qV (za5 (rT (.c (cB false)) h rfl ?_));have hz:sm24 s ps p=(false):=by unfold sm24;rw [hc1,decide_eq_true (p:=s.acts.length<=6) (by have:=dF hc3;omega),hc4,decide_eq_true (p:=p.states.length<=5) (by have:=dF hc6;omega),decide_eq_false (p:=p.acts.length<=6) (by have:=dT hc7;omega)];simp
    rw [hz];try rfl
   refine qU (za1 (qW (Jd (htb:=zao) 2 [(2,.len (za4 2 zcw.d p.states))] [5,34] [(36,vS 2 (p.states.map zcw.d)),(37,vN p.states.length),(38,vI 0)] [] h fun a w h=>qZ ?_)))
   refine zbx (ι:=(Nat)) (fun j=>j<=p.states.length/\(p.states.take j).all (fun x:zcw=>decide (x.locs.length<=8) && decide (x.bits.length<=30))=true)
     [6] (fun j=>[(38,vN j)])
     [] (fun j=>[])
     (fun j=>p.states.length - j) 0 ?_ h ?_
   ·exact ⟨bL _,rfl⟩
   clear h;rintro j a w hI h;obtain ⟨hI1,hI2⟩:=hI;refine Jg (htb:=zao) 2 [] [] [(39,vb (decide ((j:Int)<(p.states.length:Int))))] [] [] h fun a w h=>qW (zae ((j:Int)<(p.states.length:Int)) h (fun hc9 hc9'=>?_) (fun hc14 hc14'=>?_))
   ·refine qU (za1 (qW (qZ ?_)));obtain ⟨x12,hx12⟩:=gl p.states j;obtain ⟨lx1,lx2⟩:=hxl x12 (lM hx12);refine Jg (htb:=zao) 2 [(0,.g (xD 40 36 ln14_4 (za7 hx12 (f:=zcw.d)) (OV.tmp 38 _)))] [39] [(8,vp 2 0)] [] [(2,.box [cIs x12.locs,.d (.sl 1 (x12.bits.map zd0))])] h fun a w h=>?_
    rcases bN (decide ((x12.locs.length:Int)>8)) with hc10 | hc11
    ·have hc10':=dT hc10;refine Jg (htb:=zao) 3 [(2,.len (za4 1 zak x12.locs)),(3,.cmp (op:=.gtr) (m:=(x12.locs.length:Int)) (n:=8) (b:=true) .i64 hc10)] [8] [(51,vb true)] [2] [] h fun a w h=>cS true h (fun _=>?_) nofun
     refine Jg (htb:=zao) 3 [] [51] [(6,vb false)] [] [] h fun a w h=>qV (za9 (za5 (za5 (za9 (za5 (rT (.c (cB false)) h rfl ?_))))));have hz:sm24 s ps p=(false):=by unfold sm24;rw [hc1,decide_eq_true (p:=s.acts.length<=6) (by have:=dF hc3;omega),hc4,decide_eq_true (p:=p.states.length<=5) (by have:=dF hc6;omega),decide_eq_true (p:=p.acts.length<=6) (by have:=dF hc8;omega)];rw [zbu (q:=(fun x:zcw=>decide (x.locs.length<=8) && decide (x.bits.length<=30))) hx12 (by rw [decide_eq_false (by have:=dT hc10;omega)];rfl)];rfl
     rw [hz];try rfl
    have hc11':=dF hc11;refine Jg (htb:=zao) 3 [(2,.len (za4 1 zak x12.locs)),(3,.cmp (op:=.gtr) (m:=(x12.locs.length:Int)) (n:=8) (b:=false) .i64 hc11),(7,.len (za4 1 zd0 x12.bits))] [8] [(51,vb (decide ((x12.bits.length:Int)>30)))] [2] [] h fun a w h=>zae ((x12.bits.length:Int)>30) h (fun hc12 hc12'=>?_) (fun hc13 hc13'=>?_)
    ·refine Jg (htb:=zao) 3 [] [51] [(6,vb false)] [] [] h fun a w h=>qV (za9 (za5 (za5 (za9 (za5 (rT (.c (cB false)) h rfl ?_))))));have hz:sm24 s ps p=(false):=by unfold sm24;rw [hc1,decide_eq_true (p:=s.acts.length<=6) (by have:=dF hc3;omega),hc4,decide_eq_true (p:=p.states.length<=5) (by have:=dF hc6;omega),decide_eq_true (p:=p.acts.length<=6) (by have:=dF hc8;omega)];rw [zbu (q:=(fun x:zcw=>decide (x.locs.length<=8) && decide (x.bits.length<=30))) hx12 (by rw [decide_eq_false (p:=x12.bits.length<=30) (by have:=dT hc12;omega),Bool.and_false])];rfl
     rw [hz];try rfl
    refine qU (za6 (za1 (Jh (htb:=zao) 3 [(0,.j1 j)] [51] [(38,vI ((j:Int)+1))] [] [] h fun a w h=>za1 (zaa (x:=j) (y:=j+1) h ?_ ?_))))
    ·exact ⟨by have:=zac hx12;omega,zcm hx12 hI2 (by rw [decide_eq_true (by have:=dF hc11;omega),decide_eq_true (by have:=dF hc13;omega)];rfl)⟩
    show p.states.length - (j+1)<p.states.length - j;have:=zac hx12;omega
   refine exA (Jq (htb:=zao) 3 [] [(6,vb true)] [] h fun a w h=>qV (rT (.c (cB true)) h rfl ?_));have hz:sm24 s ps p=(true):=by unfold sm24;rw [hc1,decide_eq_true (p:=s.acts.length<=6) (by have:=dF hc3;omega),hc4,decide_eq_true (p:=p.states.length<=5) (by have:=dF hc6;omega),decide_eq_true (p:=p.acts.length<=6) (by have:=dF hc8;omega)];rw [zd1 (q:=(fun x:zcw=>decide (x.locs.length<=8) && decide (x.bits.length<=30))) (dF hc14) hI2];rfl
   rw [hz];try rfl
  refine Jg (htb:=zao) 3 [(1,.call (Fn.cast (SFewSys s 1 hr) (congrArg vb hc1))),(6,.len (za4 10 zap.d s.acts)),(7,.cmp (op:=.gtr) (m:=(s.acts.length:Int)) (n:=6) (b:=false) .i64 hc3),(11,.call (Fn.cast (LFewRs ps 30 1 hpl) (congrArg vb hc15)))] [1,3] [(34,vb true)] [0] [] h fun a w h=>cS true h (fun _=>?_) nofun
  refine Je (htb:=zao) 3 [] [34] [] h fun a w h=>qV (za5 (rT (.c (cB false)) h rfl ?_));have hz:sm24 s ps p=(false):=by unfold sm24;rw [hc1,decide_eq_true (p:=s.acts.length<=6) (by have:=dF hc3;omega),hc15];simp
  rw [hz];try rfl
 refine Jg (htb:=zao) 3 [(1,.call (Fn.cast (SFewSys s 1 hr) (congrArg vb hc16)))] [1,3] [(34,vb true)] [0] [] h fun a w h=>cS true h (fun _=>?_) nofun
 refine Je (htb:=zao) 3 [] [34] [] h fun a w h=>qV (za5 (rT (.c (cB false)) h rfl ?_));have hz:sm24 s ps p=(false):=by unfold sm24;rw [hc16];simp
 rw [hz];try rfl
theorem zje (s:zam) (ps:List za8) (hs:zbg 3 s) (hw:zkv s) (hps:zhw ps):Fn Tryz.prog 9 [] [vG [.d (.sl 1 (s.vars.map zdy)),.d (.sl 5 (s.bounds.map zaj.d)),cI s.init.kind,cPs s.init.r.t.parts,cB s.init.r.t.k.neg,.d (nsl s.init.r.t.k.abs),cB s.init.r.eq,cFs s.init.kids,.d (.sl 3 (s.procs.map zb9.d)),.d (.sl 10 (s.acts.map zap.d))],(vRs ps)] (vb (pr24 s ps)) []:=by
 have las:=hs.acts;have lps:=hps.1;have lfl:=fsB_len hs ps s.acts.length;rw [show fsB s ps s.acts.length=fsL s ps by unfold fsB;rw [List.take_length];rfl] at lfl;refine fB Tryz.func9 rfl 82 fun w H B a h=>Jq (htb:=zao) 5 [] [(1,(vRs ps)),(2,vp 5 0),(4,vb false)] [(5,.box [.d (.sl 1 (s.vars.map zdy)),.d (.sl 5 (s.bounds.map zaj.d)),cI s.init.kind,cPs s.init.r.t.parts,cB s.init.r.t.k.neg,.d (nsl s.init.r.t.k.abs),cB s.init.r.eq,cFs s.init.kids,.d (.sl 3 (s.procs.map zb9.d)),.d (.sl 10 (s.acts.map zap.d))])] h fun a w h=>Jg (htb:=zao) 6 [(2,.g (Op.buildO (d:=17) (n:=6) (len:=1) (rows:=[s.init].map za0.d) (rs:=[(16,vG [cI s.init.kind,cPs s.init.r.t.parts,cB s.init.r.t.k.neg,.d (nsl s.init.r.t.k.abs),cB s.init.r.eq,cFs s.init.kids])]) kb_1 (.cons (i:=0) (OV.tmp 16 _) (.nil)) (by simp only [bI,bW,cC,cD,b8,za0.d_eq];kernel_rfl) rfl (by simp [za0.d_len]) (by decide) (by decide)))] [] [(5,vO 6 1)] [] [(6,.row 35 6 ([s.init].map za0.d))] h fun a w h=>qW (Je (htb:=zao) 7 [(1,.len (za4 4 za8.d ps))] [1] [(18,(vRs ps)),(19,vN ps.length),(20,vI 0)] h fun a w h=>qZ ?_)
 replace h:=cvM [] [] [] [(6,.row 35 6 ((fsA s ps 0).map za0.d))] (by rw [<- show ([s.init]:List za0)=(fsA s ps 0) from (by unfold fsA;rfl)];kernel_rfl) h
 refine zbx (ι:=(Nat)) (fun k=>k<=ps.length)
   [] (fun k=>[(5,vO 6 (fsA s ps k).length),(20,vN k)])
   [] (fun k=>[(6,.row 35 6 ((fsA s ps k).map za0.d))])
   (fun k=>ps.length - k) 0 ?_ h ?_
 ·exact bL _
 clear h;rintro k a w hI h;have lfa:=fsA_len s ps k;refine Je (htb:=zao) 7 [] [] [(21,vb (decide ((k:Int)<(ps.length:Int))))] h fun a w h=>qW (zae ((k:Int)<(ps.length:Int)) h (fun hc1 hc1'=>?_) (fun hc2 hc2'=>?_))
 ·refine qU (za1 (qW (qZ ?_)));obtain ⟨x1,hx1⟩:=gl ps k;refine Jg (htb:=zao) 7 [(0,.g (xD 22 18 kc_3 (za7 hx1 (f:=za8.d)) (OV.tmp 20 _)))] [21] [(7,vp 7 0)] [] [(7,.box [cPs x1.t.parts,cB x1.t.k.neg,.d (nsl x1.t.k.abs),cB x1.eq])] h fun a w h=>Jh (htb:=zao) 8 [(3,.g (bD 27 ([(za0.mk 2 x1 ([]:List za0))].map za0.d) [(26,vG [cI 2,cPs x1.t.parts,cB x1.t.k.neg,.d (nsl x1.t.k.abs),cB x1.eq,cFs ([]:List za0)])] kb_1 (.cons (i:=0) (OV.tmp 26 _) (.nil)) (by simp only [bI,bW,cC,cD,b8,za0.d_eq];kernel_rfl) (by simp [za0.d_len]))),(4,.g (Op.appOD (d:=28) (t:=24) (u:=27) (n:=6) (n':=8) (len:=(fsA s ps k).length) (len':=((fsA s ps k)++[(za0.mk 2 x1 ([]:List za0))]).length) (rows:=(fsA s ps k).map za0.d) (rows2:=[(za0.mk 2 x1 ([]:List za0))].map za0.d) (rows':=((fsA s ps k)++[(za0.mk 2 x1 ([]:List za0))]).map za0.d) la_7 (by first | exact (bC _).symm | simp) (by first | (rw [bK,bC];done) | (simp;done) | (simp;omega)) (by simp) (by simp [za0.d_len]) (by first | omega | (simp at *;done) | (simp at *;omega))))] [7] [(5,vO 8 ((fsA s ps k)++[(za0.mk 2 x1 ([]:List za0))]).length)] [6,7] [(8,.row 35 6 (((fsA s ps k)++[(za0.mk 2 x1 ([]:List za0))]).map za0.d))] h fun a w h=>za6 (za1 (Jf (htb:=zao) 9 [(0,.add .i64 (m:=(k:Int)) (n:=1) i6)] [] [(20,vI ((k:Int)+1))] h fun a w h=>za1 ?_));rw [show (((fsA s ps k)++[(za0.mk 2 x1 ([]:List za0))]):List za0)=(fsA s ps (k+1)) from (fsA_at hx1)] at h;replace h:=zcz 8 6 h;refine zaa (x:=k) (y:=k+1) h ?_ ?_
  ·have:=zac hx1;show k+1<=ps.length;omega
  show ps.length - (k+1)<ps.length - k;have:=zac hx1;omega
 refine exA (qW (Je (htb:=zao) 9 [(2,.len (za4 10 zap.d s.acts))] [18,19,20,21] [(31,vS 10 (s.acts.map zap.d)),(32,vN s.acts.length),(33,vI 0)] h fun a w h=>qZ ?_));replace h:=cvM [] [(5,vO 6 (fsB s ps 0).length)] [] [(6,.row 35 6 ((fsB s ps 0).map za0.d))] (by rw [<- show ((fsA s ps k):List za0)=(fsB s ps 0) from (by rw [show k=ps.length by have:=dF hc2;omega];unfold fsB;rw [List.take_zero,List.flatMap_nil,b8])];kernel_rfl) h
 refine zbx (ι:=(Nat)) (fun j=>j<=s.acts.length)
   [] (fun j=>[(5,vO 6 (fsB s ps j).length),(33,vN j)])
   [] (fun j=>[(6,.row 35 6 ((fsB s ps j).map za0.d))])
   (fun j=>s.acts.length - j) 0 ?_ h ?_
 ·exact bL _
 clear h;rintro j a w hI h;have lfb:=fsB_len hs ps j;refine Je (htb:=zao) 9 [] [] [(34,vb (decide ((j:Int)<(s.acts.length:Int))))] h fun a w h=>qW (zae ((j:Int)<(s.acts.length:Int)) h (fun hc3 hc3'=>?_) (fun hc6 hc6'=>?_))
 ·refine qU (za1 (qW (qZ ?_)));obtain ⟨x2,hx2⟩:=gl s.acts j;have hcx2:=hs.act x2 (lM hx2);have lmx2:=hcx2.len;refine Jg (htb:=zao) 9 [(0,.g (xD 35 31 ki_1 (za7 hx2 (f:=zap.d)) (OV.tmp 33 _)))] [34] [(9,vp 9 0)] [] [(9,.box [cI x2.proc,cI x2.from_,cI x2.to_,cI x2.guard.kind,cPs x2.guard.r.t.parts,cB x2.guard.r.t.k.neg,.d (nsl x2.guard.r.t.k.abs),cB x2.guard.r.eq,cFs x2.guard.kids,.d (.sl 5 (x2.moves.map zai.d))])] h fun a w h=>Jg (htb:=zao) 10 [(3,.g (bD 40 ([x2.guard].map za0.d) [(39,vG [cI x2.guard.kind,cPs x2.guard.r.t.parts,cB x2.guard.r.t.k.neg,.d (nsl x2.guard.r.t.k.abs),cB x2.guard.r.eq,cFs x2.guard.kids])] kb_1 (.cons (i:=0) (OV.tmp 39 _) (.nil)) (by simp only [bI,bW,cC,cD,b8,za0.d_eq];kernel_rfl) (by simp [za0.d_len]))),(4,.g (Op.appOD (d:=41) (t:=37) (u:=40) (n:=6) (n':=10) (len:=(fsB s ps j).length) (len':=((fsB s ps j)++[x2.guard]).length) (rows:=(fsB s ps j).map za0.d) (rows2:=[x2.guard].map za0.d) (rows':=((fsB s ps j)++[x2.guard]).map za0.d) la_7 (by first | exact (bC _).symm | simp) (by first | (rw [bK,bC];done) | (simp;done) | (simp;omega)) (by simp) (by simp [za0.d_len]) (by first | omega | (simp at *;done) | (simp at *;omega))))] [] [(5,vO 10 ((fsB s ps j)++[x2.guard]).length)] [6] [(10,.row 35 6 (((fsB s ps j)++[x2.guard]).map za0.d))] h fun a w h=>Jg (htb:=zao) 11 [(2,.len (za4 5 zai.d x2.moves))] [9] [(43,vS 5 (x2.moves.map zai.d)),(44,vN x2.moves.length),(45,vI 0)] [9] [] h fun a w h=>qZ ?_
  refine zbx (ι:=(Nat)) (fun i=>i<=x2.moves.length)
    [] (fun i=>[(5,vO 10 (fsB s ps j++fsG x2 i).length),(45,vN i)])
    [] (fun i=>[(10,.row 35 6 ((fsB s ps j++fsG x2 i).map za0.d))])
    (fun i=>x2.moves.length - i) 0 ?_ h ?_
  ·exact bL _
  clear h;rintro i a w hI h;have lfb:=fsB_len hs ps j;have lfg:=fsG_len x2 i;have lfc:(fsB s ps j++fsG x2 i).length=(fsB s ps j).length+(fsG x2 i).length:=bK ..;refine Je (htb:=zao) 11 [] [] [(46,vb (decide ((i:Int)<(x2.moves.length:Int))))] h fun a w h=>qW (zae ((i:Int)<(x2.moves.length:Int)) h (fun hc4 hc4'=>?_) (fun hc5 hc5'=>?_))
  ·refine qU (za1 (qW (qZ ?_)));obtain ⟨x3,hx3⟩:=gl x2.moves i;refine Jg (htb:=zao) 11 [(0,.g (xD 47 43 ki_2 (za7 hx3 (f:=zai.d)) (OV.tmp 45 _)))] [46] [(11,vp 11 0)] [] [(11,.box [cI x3.v,cB x3.any,cPs x3.t.parts,cB x3.t.k.neg,.d (nsl x3.t.k.abs)])] h fun a w h=>Jh (htb:=zao) 12 [(5,.g (bD 54 ([(za0.mk 2 (za8.mk x3.t false) ([]:List za0))].map za0.d) [(53,vG [cI 2,cPs x3.t.parts,cB x3.t.k.neg,.d (nsl x3.t.k.abs),cB false,cFs ([]:List za0)])] kb_1 (.cons (i:=0) (OV.tmp 53 _) (.nil)) (by simp only [bI,bW,cC,cD,b8,za0.d_eq];kernel_rfl) (by simp [za0.d_len]))),(6,.g (Op.appOD (d:=55) (t:=49) (u:=54) (n:=10) (n':=12) (len:=(fsB s ps j++fsG x2 i).length) (len':=((fsB s ps j++fsG x2 i)++[(za0.mk 2 (za8.mk x3.t false) ([]:List za0))]).length) (rows:=(fsB s ps j++fsG x2 i).map za0.d) (rows2:=[(za0.mk 2 (za8.mk x3.t false) ([]:List za0))].map za0.d) (rows':=((fsB s ps j++fsG x2 i)++[(za0.mk 2 (za8.mk x3.t false) ([]:List za0))]).map za0.d) la_7 (by first | exact (bC _).symm | simp) (by first | (rw [bK,bC];done) | (simp;done) | (simp;omega)) (by simp) (by simp [za0.d_len]) (by first | omega | (simp at *;done) | (simp at *;omega))))] [11] [(5,vO 12 ((fsB s ps j++fsG x2 i)++[(za0.mk 2 (za8.mk x3.t false) ([]:List za0))]).length)] [10,11] [(12,.row 35 6 (((fsB s ps j++fsG x2 i)++[(za0.mk 2 (za8.mk x3.t false) ([]:List za0))]).map za0.d))] h fun a w h=>za6 (za1 (Jf (htb:=zao) 13 [(0,.j1 i)] [] [(45,vI ((i:Int)+1))] h fun a w h=>za1 ?_));rw [show (((fsB s ps j++fsG x2 i)++[(za0.mk 2 (za8.mk x3.t false) ([]:List za0))]):List za0)=(fsB s ps j++fsG x2 (i+1)) from (by rw [cX];exact congrArg (fsB s ps j++·) (fsG_at hx3))] at h;replace h:=zcz 12 10 h;refine zaa (x:=i) (y:=i+1) h ?_ ?_
   ·have:=zac hx3;show i+1<=x2.moves.length;omega
   show x2.moves.length - (i+1)<x2.moves.length - i;have:=zac hx3;omega
  refine wp_exit (zc0 (zc0 (zaw (za6 (za1 (Jf (htb:=zao) 13 [(0,.j1 j)] [43,44,45,46] [(33,vI ((j:Int)+1))] h fun a w h=>za1 ?_))))));rw [show ((fsB s ps j++fsG x2 i):List za0)=(fsB s ps (j+1)) from (by rw [show i=x2.moves.length by have:=dF hc5;omega];exact fsB_at hx2)] at h;replace h:=zcz 10 6 h;refine zaa (x:=j) (y:=j+1) h ?_ ?_
  ·have:=zac hx2;show j+1<=s.acts.length;omega
  show s.acts.length - (j+1)<s.acts.length - j;have:=zac hx2;omega
 refine exA (qW ?_);replace h:=cvM [] [(5,vO 6 (fsL s ps).length)] [] [(6,.row 35 6 ((fsL s ps).map za0.d))] (by rw [<- show ((fsB s ps j):List za0)=(fsL s ps) from (by unfold fsB fsL;rw [cH (show s.acts.length<=j by have:=dF hc6;omega)])];kernel_rfl) h;replace h:=zie 6 6 35 ((fsL s ps).map za0.d) h [(fsL s ps).length] ⟨by first | exact (bC _).symm | (simp;done) | (simp;omega),trivial⟩;refine Je (htb:=zao) 13 [(1,.len (za4 6 za0.d (fsL s ps)))] [5,31,32,33,34] [(58,(vFs (fsL s ps))),(59,vI ((fsL s ps).length:Int)),(60,vI 0)] h fun a w h=>qZ ?_
 refine zbx (ι:=(Nat)) (fun l=>l<=(fsL s ps).length/\((fsL s ps).take l).all (inB s)=true)
   [4] (fun l=>[(60,vN l)])
   [] (fun l=>[])
   (fun l=>(fsL s ps).length - l) 0 ?_ h ?_
 ·exact ⟨bL _,rfl⟩
 clear h;rintro l a w hI h;obtain ⟨hI1,hI2⟩:=hI;refine Je (htb:=zao) 13 [] [] [(61,vb (decide ((l:Int)<((fsL s ps).length:Int))))] h fun a w h=>qW (zae ((l:Int)<((fsL s ps).length:Int)) h (fun hc7 hc7'=>?_) (fun hc12 hc12'=>?_))
 ·refine qU (za1 (qW (qZ ?_)));obtain ⟨x4,hx4⟩:=gl (fsL s ps) l;have hfx4:=fsL_ok hs hw hps x4 (lM hx4);have lvx4:=vars_len x4 (za0.okB_mono (by decide) (by decide) _ hfx4.1);refine Jg (htb:=zao) 13 [(0,.g (xD 62 58 zgm ((za7 hx4 (f:=za0.d)).trans (congrArg some (za0.d_eq x4))) (OV.tmp 60 _)))] [61] [(13,vp 13 0)] [] [(13,.box [cI x4.kind,cPs x4.r.t.parts,cB x4.r.t.k.neg,.d (nsl x4.r.t.k.abs),cB x4.r.eq,cFs x4.kids])] h fun a w h=>Jg (htb:=zao) 14 [(1,.call (LR5Vars x4 (za0.okB_mono (by decide) (by decide) _ hfx4.1) (by have:=hfx4.2;omega)))] [13] [(14,(vIs (za0.vars x4)))] [13] [] h fun a w h=>?_
  rcases bN (decide (((za0.vars x4).length:Int)>0)) with hc8 | hc11
  ·have hc8':=dT hc8;obtain ⟨jl,hjl⟩:∃ j_:Nat,j_+1=(za0.vars x4).length:=⟨(za0.vars x4).length - 1,by have:=dT hc8;omega⟩;obtain ⟨x6,hx6⟩:=gl (za0.vars x4) jl;refine Je (htb:=zao) 14 [(1,.len (za4 1 zak (za0.vars x4))),(2,.cmp (op:=.gtr) (m:=((za0.vars x4).length:Int)) (n:=0) (b:=true) .i64 hc8),(6,.len (za4 1 zak (za0.vars x4))),(7,.g (Op.arith (op:=.sub) (d:=73) (xt:=3) (yt:=3) (k:=.i64) (m:=((za0.vars x4).length:Int)) (n:=1) (r:=(jl:Int)) (OV.tmp 72 _) (OV.const (.int .i64 1) rfl) (.inr (.inl ⟨rfl,(by omega)⟩)) i6)),(8,.g (xD 74 70 zjl (za7 hx6 (f:=zak)) (OV.tmp 73 _))),(12,.len (za4 1 zdy s.vars))] [14] [(80,vb (decide (x6>=(s.vars.length:Int))))] h fun a w h=>zae (x6>=(s.vars.length:Int)) h (fun hc9 hc9'=>?_) (fun hc10 hc10'=>?_)
   ·refine Je (htb:=zao) 14 [] [80] [(4,vb false)] h fun a w h=>qV (za9 (za5 (za5 (za9 (za5 (rT (.c (cB false)) h rfl ?_))))));have hz:pr24 s ps=false:=by unfold pr24;exact zbu hx4 (show inB s x4=false from by unfold inB;rw [last_at hx6 hjl];exact decide_eq_false (by have:=dT hc9;omega))
    rw [hz];try rfl
   refine qU (za6 (za1 (Jf (htb:=zao) 14 [(0,.add .i64 (m:=(l:Int)) (n:=1) i6)] [80] [(60,vI ((l:Int)+1))] h fun a w h=>za1 (zaa (x:=l) (y:=l+1) h ?_ ?_))))
   ·exact ⟨by have:=zac hx4;omega,zcm hx4 hI2 (show inB s x4=true from by unfold inB;rw [last_at hx6 hjl];exact decide_eq_true (by have:=dF hc10;omega))⟩
   show (fsL s ps).length - (l+1)<(fsL s ps).length - l;have:=zac hx4;omega
  have hc11':=dF hc11;refine Je (htb:=zao) 14 [(1,.len (za4 1 zak (za0.vars x4))),(2,.cmp (op:=.gtr) (m:=((za0.vars x4).length:Int)) (n:=0) (b:=false) .i64 hc11)] [14] [(80,vb false)] h fun a w h=>zaz h (qU (za6 (za1 (Jf (htb:=zao) 14 [(0,.add .i64 (m:=(l:Int)) (n:=1) i6)] [80] [(60,vI ((l:Int)+1))] h fun a w h=>za1 (zaa (x:=l) (y:=l+1) h ?_ ?_)))))
  ·exact ⟨by have:=zac hx4;omega,zcm hx4 hI2 (show inB s x4=true from by unfold inB;rw [List.length_eq_zero_iff.1 (show (za0.vars x4).length=0 by have:=dF hc11;omega)];rfl)⟩
  show (fsL s ps).length - (l+1)<(fsL s ps).length - l;have:=zac hx4;omega
 refine exA (Jq (htb:=zao) 14 [] [(4,vb true)] [] h fun a w h=>qV (rT (.c (cB true)) h rfl ?_));have hz:pr24 s ps=true:=by unfold pr24;exact zd1 (dF hc12) hI2
 rw [hz];try rfl
theorem gcd_dvd {d a b:Int} (h1:d∣a) (h2:d∣b):d∣((Nat.gcd a.natAbs b.natAbs:Nat):Int) :=
 dL.1 (by rw [Int.natAbs_natCast];exact Nat.dvd_gcd (dL.2 h1) (dL.2 h2))
theorem con_great {d:Int} {ps:List za3} (h:∀ p ∈ ps,d∣p.c.val):d∣zc4 ps:=by
 have key:∀ (ps:List za3) (g:Int),d∣g->(∀ p ∈ ps,d∣p.c.val)->d∣ps.foldl (fun g p=>(Nat.gcd g.natAbs p.c.val.natAbs:Int)) g:=by
  intro ps
  induction ps with
  | nil=>intro g hg _;exact hg
  | cons p ps ih =>
   intro g hg hp
   rw [cF]
   exact ih _ (gcd_dvd hg (hp p (bG ..))) fun q hq=>hp q (bX _ hq)
 exact key ps 0 (Int.dvd_zero d) h
theorem con_ge (ps:List za3):0<=zc4 ps:=by
 have key:∀ (ps:List za3) (g:Int),0<=g->0<=ps.foldl (fun g p=>(Nat.gcd g.natAbs p.c.val.natAbs:Int)) g:=by
  intro ps
  induction ps with
  | nil=>intro g hg;exact hg
  | cons p ps ih=>intro g _;rw [cF];exact ih _ (Int.natCast_nonneg _)
 exact key ps 0 (Int.le_refl 0)
theorem con_one {ps:List za3} (h:zc4 ps∣1):zc4 ps=1:=by
 obtain ⟨c,hc⟩:=h
 have h0:=con_ge ps
 have h1:(zc4 ps).natAbs*c.natAbs=1:=by rw [<- Int.natAbs_mul,<- hc];rfl
 have h2:=Nat.eq_one_of_mul_eq_one_right h1
 omega
def Tgt (r:za8):Prop:=r.t.parts.length≠0/\za2 r.t=r.t/\zc4 r.t.parts=1/\(r.eq=true->zi1 r.t=false)
theorem shr_tgt (h:(za2 t).parts.length≠0):(zck t).parts.length≠0/\za2 (zck t)=zck t/\zc4 (zck t).parts=1:=by
 have hg:=con_pos (t:=t) (by omega)
 have e:(zck t).parts=(za2 t).parts.map (zhn (zc4 (za2 t).parts)):=by unfold zck;rw [if_neg (by omega)]
 refine ⟨by rw [e,bC];exact h,shr_plain t,con_one ?_⟩
 have h1:zc4 (zck t).parts*zc4 (za2 t).parts∣zc4 (za2 t).parts:=by
  refine con_great fun p hp=>?_
  obtain ⟨c,hc⟩:=zi8 _ p hp
  have h2:zc4 (zck t).parts∣(zhn (zc4 (za2 t).parts) p).c.val:=zi8 _ _ (by rw [e];exact bJ.2 ⟨p,hp,rfl⟩)
  have h3:(zhn (zc4 (za2 t).parts) p).c.val=c:=by
   show (ZI.of (p.c.val.fdiv _)).val=c
   rw [ZI.val_of,hc,Int.mul_fdiv_cancel_left _ (by omega)]
  rw [h3] at h2
  obtain ⟨d,hd⟩:=h2
  exact ⟨d,by rw [hc,hd];ac_rfl⟩
 obtain ⟨c,hc⟩:=h1
 refine ⟨c,?_⟩
 have h4:zc4 (za2 t).parts*1=zc4 (za2 t).parts*(zc4 (zck t).parts*c):=by rw [Int.mul_one];rw (occs:=.pos [1]) [hc];ac_rfl
 exact Int.eq_of_mul_eq_mul_left (by omega) h4
theorem neg_parts {u:zag} (h:za2 u=u):(zki u).parts=u.parts.map fun p=>za3.mk p.v (ZI.of (p.c.val*-1)):=by
 have hu:=zav u
 rw [h] at hu
 have e:zki u=⟨u.parts.map fun p=>za3.mk p.v (ZI.of (p.c.val*-1)),ZI.of (u.k.val*-1)⟩:=by
  unfold zki zbh
  refine plainT_eq ?_ (fun q hq=>?_) (fun v=>?_) ?_
  ·refine List.pairwise_map.2 ?_
   exact hu.1
  ·obtain ⟨p,hp,rfl⟩:=bJ.1 hq
   obtain ⟨h0,_,h2⟩:=hu.2.1 p hp
   refine ⟨h0,by show ZI.of _=ZI.of (ZI.of _).val;rw [ZI.val_of],by show (ZI.of _).val≠0;rw [ZI.val_of];omega⟩
  ·show zah (u.parts.map fun p=>za3.mk p.v (ZI.of (p.c.val*(ZI.of (-1)).val))) v=_
   rw [ZI.val_of]
  ·show ZI.of _=ZI.of (ZI.of (u.k.val*(ZI.of (-1)).val)).val
   rw [ZI.val_of,ZI.val_of]
 rw [e]
theorem neg_tgt {u:zag} (h0:u.parts.length≠0) (h:za2 u=u) (h1:zc4 u.parts=1) (hf:zi1 u=true):(zki u).parts.length≠0/\za2 (zki u)=zki u/\zc4 (zki u).parts=1/\zi1 (zki u)=false:=by
 have e:=neg_parts h
 refine ⟨by rw [e,bC];exact h0,by unfold zki zbh;exact zbr _,con_one ?_,?_⟩
 ·rw [<- h1]
  refine con_great fun p hp=>?_
  have h2:=zi8 (zki u).parts ⟨p.v,ZI.of (p.c.val*-1)⟩ (by rw [e];exact bJ.2 ⟨p,hp,rfl⟩)
  rw [show (za3.mk p.v (ZI.of (p.c.val*-1))).c.val=p.c.val*-1 from ZI.val_of _] at h2
  have:=Int.dvd_neg.2 h2
  rw [show -(p.c.val*-1)=p.c.val by omega] at this
  exact this
 ·unfold zi1 at hf ⊢
  rw [e]
  cases hp:u.parts with
  | nil=>rfl
  | cons p l =>
   rw [hp] at hf
   have h3:=of_decide_eq_true hf
   show decide (sgn (ZI.of (p.c.val*-1)).val<0)=false
   rw [ZI.val_of]
   refine decide_eq_false ?_
   unfold sgn at h3 ⊢
   split at h3
   ·omega
   ·split at h3
    ·split
     ·omega
     ·split <;> omega
    ·omega
theorem tight_tgt {r:za8} (h:(zas r).2=0):Tgt (zas r).1:=by
 unfold zas at h ⊢
 by_cases h1:(za2 r.t).parts.length=0
 ·rw [if_pos h1] at h;exfalso;revert h;show (if _ then (1:Int) else -1)=0->False;split <;> decide
 ·rw [if_neg h1] at h ⊢
  by_cases h2:r.eq=true/\r.t.k.val.fmod (zc4 (za2 r.t).parts)≠0
  ·rw [if_pos h2] at h;cases h
  ·rw [if_neg h2]
   obtain ⟨g1,g2,g3⟩:=shr_tgt h1
   cases hf:(r.eq && zi1 (zck r.t)) with
   | true =>
    have hf:=(b6 _ _ ▸ hf:_/\_)
    obtain ⟨k1,k2,k3,k4⟩:=neg_tgt g1 g2 g3 hf.2
    show Tgt ⟨if true=true then zki (zck r.t) else zck r.t,r.eq⟩
    rw [if_pos rfl]
    exact ⟨k1,k2,k3,fun _=>k4⟩
   | false =>
    show Tgt ⟨if false=true then zki (zck r.t) else zck r.t,r.eq⟩
    rw [if_neg Bool.noConfusion]
    exact ⟨g1,g2,g3,fun he=>by have he:r.eq=true:=he;rw [he] at hf;exact hf⟩
theorem tgt_tight {r:za8} (h:Tgt r):zas r=(r,0):=by
 obtain ⟨h1,h2,h3,h4⟩:=h
 have hp:=zav r.t
 rw [h2] at hp
 unfold zas
 rw [h2,if_neg h1,h3,if_neg (fun e=>e.2 (Int.fmod_one _))]
 have hs:zck r.t=r.t:=by
  unfold zck
  rw [h2,h3,if_neg (by decide)]
  have e1:r.t.parts.map (zhn 1)=r.t.parts:=by
   refine (List.map_congr_left fun p hp1=>?_).trans (List.map_id _)
   show za3.mk p.v (ZI.of (p.c.val.fdiv 1))=id p
   rw [Int.fdiv_one,<- (hp.2.1 p hp1).2.1];rfl
  have e2:ZI.of (r.t.k.val.fdiv 1)=r.t.k:=by
   rw [Int.fdiv_one]
   have:(za2 r.t).k=ZI.of r.t.k.val:=rfl
   rw [h2] at this;exact this.symm
  rw [e1,e2]
 rw [hs]
 cases he:r.eq with
 | true=>rw [h4 he];cases r;cases he;rfl
 | false=>cases r;cases he;rfl
theorem cmp_self9 (r:za8):zde r r=0:=by rw [<- cmpRl_cpl];exact cmpRl_cp r
theorem tgt_B {r:za8} (h:Tgt r):tgtB r=true:=by
 unfold tgtB;rw [tgt_tight h];show ((0:Int) == 0 && zde r r == 0)=true;rw [cmp_self9];rfl
theorem tgt_cp {r:za8} (h:Tgt r):cpR r=r:=by unfold cpR;rw [h.2.1]
def za0.tq (f:za0):Prop:=f.fold fun k r _ hs=>(k=2->Tgt r)/\∀ h ∈ hs,h
theorem za0.tq_eq (f:za0):f.tq ↔ (f.kind=2->Tgt f.r)/\∀ g ∈ f.kids,g.tq:=by
 have:=za0.fold_eq (fun k r _ (hs:List Prop)=>(k=2->Tgt r)/\∀ h ∈ hs,h) f
 unfold za0.tq
 rw [this]
 refine and_congr_right fun _=>⟨fun h g hg=>h _ (bJ.2 ⟨g,hg,rfl⟩),fun h p hp=>?_⟩
 obtain ⟨g,hg,rfl⟩:=bJ.1 hp
 exact h g hg
theorem tq_tru (b:Bool):(zcj b).tq:=by rw [za0.tq_eq];exact ⟨fun e=>by cases b <;> exact absurd e (by decide),fun g hg=>by cases hg⟩
theorem tq_tight (r:za8):(zax r).tq:=by
 unfold zax;split
 ·rename_i h;rw [za0.tq_eq];exact ⟨fun _=>tight_tgt h,fun g hg=>by cases hg⟩
 ·exact tq_tru _
theorem zgr {k:Int} (hk:k=4\/k=5):∀ (fs out:List za0),(∀ g ∈ out,g.tq)->(∀ g ∈ fs,g.tq)->(zbb k fs out).tq
 | [],out,h,_=>by
  unfold zbb
  match out with
  | []=>exact tq_tru _
  | [g]=>exact h g (bG ..)
  | g :: q :: l=>rw [za0.tq_eq];exact ⟨fun e=>by exfalso;change k=2 at e;omega,h⟩
 | f :: fs,out,h,h2=>by
  rw [zbb]
  have hf:=h2 f (bG ..)
  have hfs:∀ g ∈ fs,g.tq:=fun g hg=>h2 g (bX _ hg)
  split
  ·exact hf
  ·split
   ·exact zgr hk fs out h hfs
   ·split
    ·exact zgr hk fs _ (fun g hg=>(cG.1 hg).elim (h g) fun hg=>((za0.tq_eq _).1 hf).2 g hg) hfs
    ·exact zgr hk fs _ (fun g hg=>(cG.1 hg).elim (h g) fun hg=>by rw [bE.1 hg];exact hf) hfs
theorem flat_tq (f:za0):∀ d,(f.flat d).tq :=
 za0.ind (P:=fun f=>∀ d,(f.flat d).tq) (fun k r ks ih d=>by
  rw [za0.flat_eq]
  show (zgg k r (ks.map za0.flat) d).tq
  unfold zgg
  split
  ·exact tq_tru _
  ·split
   ·split
    ·refine zgr (.inr rfl) _ [] (fun g hg=>by cases hg) fun g hg=>?_
     obtain ⟨q,hq,rfl⟩:=bJ.1 hg
     exact tq_tight q
    ·exact tq_tight r
   ·split
    ·cases ks with
     | nil=>exact tq_tru _
     | cons g gs=>exact ih g (bG ..) (!d)
    ·split
     ·rename_i h4
      refine zgr (by cases d <;> simp <;> omega) _ [] (fun g hg=>by cases hg) fun g hg=>?_
      rw [b9] at hg
      obtain ⟨q,hq,rfl⟩:=bJ.1 hg
      exact ih q hq d
     ·exact tq_tru _) f
def Apt (n:Nat) (l:List za8):Prop:=∀ k r,n<=k->l[k]?=some r->Tgt r/\∀ i q,i<k->l[i]?=some q->zde q r≠0
theorem apt_cp {l:List za8} (h:Apt n l):Apt n (l.map cpR):=fun k r hk hr=>by
 rw [List.getElem?_map] at hr
 cases e:l[k]? with
 | none=>rw [e] at hr;cases hr
 | some r0 =>
  rw [e] at hr
  have hr:cpR r0=r:=by simpa using hr
  obtain ⟨h1,h2⟩:=h k r0 hk e
  rw [tgt_cp h1] at hr;subst hr
  refine ⟨h1,fun i q hi hq=>?_⟩
  rw [List.getElem?_map] at hq
  cases e2:l[i]? with
  | none=>rw [e2] at hq;cases hq
  | some q0 =>
   rw [e2] at hq
   have hq:cpR q0=q:=by simpa using hq
   rw [<- hq,cmpRl_cpl];exact h2 i q0 hi e2
theorem atR_no {r:za8} (h:atR ps r<0):∀ q ∈ ps,zde q r≠0:=fun q hq=>by
 unfold atR at h
 rcases zhl (fun p=>zde p r == 0) ps 0 with ⟨_,h2⟩ | ⟨k,x,h1,_⟩
 ·have:=h2 q hq;simpa using this
 ·rw [h1] at h;omega
theorem gath_apt (f:za0):f.tq->∀ ps,n<=ps.length->Apt n ps->Apt n (f.gath ps) :=
 za0.ind (P:=fun f=>f.tq->∀ ps,n<=ps.length->Apt n ps->Apt n (f.gath ps)) (fun k r ks ih hf ps hn ha=>by
  obtain ⟨h1,h2⟩:=(za0.tq_eq _).1 hf
  change k=2->Tgt r at h1
  change ∀ g ∈ ks,_ at h2
  rw [za0.gath_eq]
  show Apt n (if k=2/\atR ps r<0 then ps++[cpR r] else ks.foldl (fun a g=>g.gath a) ps)
  split
  ·rename_i e
   intro m q hm hq
   rw [List.getElem?_append] at hq
   split at hq
   ·rename_i hlt
    obtain ⟨a1,a2⟩:=ha m q hm hq
    exact ⟨a1,fun i p hi hp=>a2 i p hi (by rw [dC (by omega)] at hp;exact hp)⟩
   ·rename_i hge
    have hm2:m=ps.length:=by
     rcases Nat.lt_or_ge ps.length m with h | h
     ·rw [dS (by simp;omega)] at hq;cases hq
     ·omega
    subst hm2
    rw [c6] at hq
    have hq:cpR r=q:=by simpa using hq
    rw [tgt_cp (h1 e.1)] at hq;subst hq
    refine ⟨h1 e.1,fun i p hi hp=>?_⟩
    rw [dC hi] at hp
    exact atR_no e.2 p (cK hp)
  ·have key:∀ (xs:List za0),(∀ g ∈ xs,g ∈ ks)->∀ qs:List za8,n<=qs.length->Apt n qs->Apt n (xs.foldl (fun a g=>g.gath a) qs):=fun xs=>by
    induction xs with
    | nil=>intro _ qs _ h;exact h
    | cons x xs ihx =>
     intro hx qs hq h
     rw [cF]
     refine ihx (fun g hg=>hx g (bX _ hg)) _ ?_ (ih x (hx x (bG ..)) (h2 x (hx x (bG ..))) qs hq h)
     obtain ⟨l,e⟩:=gath_pre x qs
     rw [e,bK];omega
   exact key ks (fun g hg=>hg) ps hn ha) f
theorem newA_apt (ps:List za8) (cs:List za0) (j:Nat):Apt ps.length (zbv ps cs j):=by
 induction j with
 | zero=>intro k r hk hr;have:=zac hr;exact absurd this (Nat.not_lt_of_le hk)
 | succ j ih=>exact gath_apt _ (flat_tq _ false) _ (by rw [bC];exact newA_ge ps cs j) (apt_cp ih)
theorem newA_old (ps:List za8) (cs:List za0) (j:Nat):((zbv ps cs j).map cpR).take ps.length=ps.map cpR:=by
 induction j with
 | zero=>show (ps.map cpR).take _=_;rw [cH (by rw [bC];exact bF _)]
 | succ j ih =>
  show ((((zc5 cs j).flat false).gath ((zbv ps cs j).map cpR)).map cpR).take _=_
  obtain ⟨l,e⟩:=gath_pre ((zc5 cs j).flat false) ((zbv ps cs j).map cpR)
  rw [e,List.map_append,List.take_append_of_le_length (by rw [bC,bC];exact newA_ge ps cs j),b9,show (cpR ∘ cpR)=cpR from funext cpR_cpR,ih]
theorem newS_fold {xs:List za8} (h:∀ r ∈ xs,tgtB r=true):xs.foldl nwS out=out++(xs.take (24 - out.length)).map cpR:=by
 induction xs generalizing out with
 | nil=>simp
 | cons x xs ih =>
  rw [cF]
  have hx:=h x (bG ..)
  have hxs:∀ r ∈ xs,tgtB r=true:=fun r hr=>h r (bX _ hr)
  by_cases hl:out.length<24
  ·rw [nwS_t hx hl,ih hxs,bK,dQ,cX,show 24 - out.length=(24 - (out.length+1))+1 by omega,List.take_succ_cons,bI];rfl
  ·rw [nwS_x hx hl,ih hxs,show 24 - out.length=0 by omega];simp
theorem drop_tgt (ps:List za8) (cs:List za0) (j:Nat):∀ r ∈ (zbv ps cs j).drop ps.length,Tgt r:=fun r hr=>by
 obtain ⟨i,hi,rfl⟩:=List.mem_iff_getElem.1 hr
 rw [dG] at hi
 refine (newA_apt ps cs j (ps.length+i) _ (by omega) ?_).1
 rw [List.getElem_drop,b7 (by omega)]
theorem newT_eq (s:zam) (ps:List za8) (p:zdw):newT s ps p=(((zbv ps (zaf s ps p.states p.acts) (zaf s ps p.states p.acts).length).map cpR).take (max 24 ps.length)):=by
 unfold newT nwO
 rw [List.take_length,newS_fold (fun r hr=>tgt_B (drop_tgt _ _ _ r hr)),bC]
 have h1:=newA_old ps (zaf s ps p.states p.acts) (zaf s ps p.states p.acts).length
 have h2:=newA_ge ps (zaf s ps p.states p.acts) (zaf s ps p.states p.acts).length
 rw [<- h1,<- List.map_take,<- List.map_append,<- List.map_take]
 congr 1
 have e:max 24 ps.length=ps.length+(24 - ps.length):=by omega
 rw [e,List.take_add]
theorem newT_len (s:zam) (ps:List za8) (p:zdw):ps.length<=(newT s ps p).length/\(newT s ps p).length<=max 24 ps.length:=by
 have:=newA_ge ps (zaf s ps p.states p.acts) (zaf s ps p.states p.acts).length
 rw [newT_eq,cY,bC];omega
def zkq:zam:=⟨[⟨#[120]⟩],[],⟨2,⟨(zan 0).t,true⟩,[]⟩,[⟨⟨#[112]⟩,[⟨#[97]⟩],.sl 10 []⟩],[⟨0,0,0,⟨0,zR,[]⟩,[⟨0,false,⟨(zan 0).t.parts,ZI.of 1⟩⟩]⟩]⟩
theorem LR4SameS (r:za8) {L:Nat} (hr:TOk n L r.t) (hn:n<=1000000000):Fn Tryz.prog 26 [] [vG [cPs r.t.parts,cB r.t.k.neg,.d (nsl r.t.k.abs),cB r.eq],vG [cPs r.t.parts,cB r.t.k.neg,.d (nsl r.t.k.abs),cB r.eq]] (vb true) []:=by
 refine fB Tryz.func26 rfl 17 fun w H B a h=>Jq 0 [] [(2,vp 0 0),(3,vp 1 0),(4,vb false)] [(0,.box [cPs r.t.parts,cB r.t.k.neg,.d (nsl r.t.k.abs),cB r.eq]),(1,.box [cPs r.t.parts,cB r.t.k.neg,.d (nsl r.t.k.abs),cB r.eq])] h fun a w h=>Jq 2 [(4,.cmpb .eql (m:=r.eq) (n:=r.eq) (b:=true) (.inl ⟨rfl,(beq_self_eq_true _).symm⟩)),(10,.call (SRTSame r.t hr hn))] [(4,vb true)] [] h fun a w h=>qV (rT (.c (cB true)) h rfl ?_)
 rfl
theorem LSysR :Fn Tryz.prog 27 [] [] (vG [.d (.sl 1 (zkq.vars.map zdy)),.d (.sl 5 (zkq.bounds.map zaj.d)),cI zkq.init.kind,cPs zkq.init.r.t.parts,cB zkq.init.r.t.k.neg,.d (nsl zkq.init.r.t.k.abs),cB zkq.init.r.eq,cFs zkq.init.kids,.d (.sl 3 (zkq.procs.map zb9.d)),.d (.sl 10 (zkq.acts.map zap.d))]) []:=by
 refine fB Tryz.func27 rfl 23 fun w H B a h=>Jq (htb:=zao) 0 [] [(0,vp 0 0)] [(0,.box [.d (.sl 1 (([]:List ByteArray).map zdy)),.d (.sl 5 (([]:List zaj).map zaj.d)),cI 0,cPs ([]:List za3),cB false,.d (nsl []),cB false,cFs ([]:List za0),.d (.sl 3 (([]:List zb9).map zb9.d)),.d (.sl 10 (([]:List zap).map zap.d))])] h fun a w h=>Jg (htb:=zao) 1 [(0,.call (zhu 0 (by decide)))] [] [(1,vp 1 0)] [] [(1,.box [cI 2,cPs (zan 0).t.parts,cB (zan 0).t.k.neg,.d (nsl (zan 0).t.k.abs),cB true,cFs ([]:List za0)])] h fun a w h=>Jg (htb:=zao) 2 [(0,.call (zhu 0 (by decide))),(3,.call (SROf 1 ⟨by decide,by decide⟩))] [] [(2,vp 2 0)] [] [(2,.box [cPs (zan 0).t.parts,cB (ZI.of 1).neg,.d (nsl (ZI.of 1).abs)])] h fun a w h=>Jq (htb:=zao) 3 [(0,.g (Op.buildD (d:=12) (len:=1) (rows:=[(⟨#[120]⟩:ByteArray)].map zdy) (rs:=[]) ty_16 (.cons (i:=0) (OV.const (.string (⟨#[120]⟩:ByteArray)) rfl) (.nil)) (by kernel_rfl) rfl (by simp [zdy]) (by decide) (by decide))),(2,.g (Op.buildD (d:=14) (len:=1) (rows:=[(⟨#[97]⟩:ByteArray)].map zdy) (rs:=[]) ty_16 (.cons (i:=0) (OV.const (.string (⟨#[97]⟩:ByteArray)) rfl) (.nil)) (by kernel_rfl) rfl (by simp [zdy]) (by decide) (by decide))),(4,.g (bD 16 ([(zb9.mk (⟨#[112]⟩:ByteArray) [(⟨#[97]⟩:ByteArray)] (.sl 10 []))].map zb9.d) [(15,vG [.d (.raw (.string (⟨#[112]⟩:ByteArray))),.d (.sl 1 ([(⟨#[97]⟩:ByteArray)].map zdy)),.d (.sl 10 [])])] kw_4 (.cons (i:=0) (OV.tmp 15 _) (.nil)) (by kernel_rfl) (by simp [zb9.d]))),(7,.g (bD 19 ([(zai.mk 0 false (zag.mk (zan 0).t.parts (ZI.of 1)))].map zai.d) [(18,vG [cI 0,cB false,cPs (zan 0).t.parts,cB (ZI.of 1).neg,.d (nsl (ZI.of 1).abs)])] kw_5 (.cons (i:=0) (OV.tmp 18 _) (.nil)) (by kernel_rfl) (by simp [zai.d]))),(9,.g (bD 21 ([(zap.mk 0 0 0 (za0.mk 0 (za8.mk (zag.mk ([]:List za3) (ZI.mk false [])) false) ([]:List za0)) [(zai.mk 0 false (zag.mk (zan 0).t.parts (ZI.of 1)))])].map zap.d) [(20,vG [cI 0,cI 0,cI 0,cI 0,cPs ([]:List za3),cB false,.d (nsl []),cB false,cFs ([]:List za0),.d (.sl 5 ([(zai.mk 0 false (zag.mk (zan 0).t.parts (ZI.of 1)))].map zai.d))])] kw_6 (.cons (i:=0) (OV.tmp 20 _) (.nil)) (by kernel_rfl) (by simp [zap.d])))] [(0,vp 0 0)] [(0,.box [.d (.sl 1 ([(⟨#[120]⟩:ByteArray)].map zdy)),.d (.sl 5 (([]:List zaj).map zaj.d)),cI 2,cPs (zan 0).t.parts,cB (zan 0).t.k.neg,.d (nsl (zan 0).t.k.abs),cB true,cFs ([]:List za0),.d (.sl 3 ([(zb9.mk (⟨#[112]⟩:ByteArray) [(⟨#[97]⟩:ByteArray)] (.sl 10 []))].map zb9.d)),.d (.sl 10 ([(zap.mk 0 0 0 (za0.mk 0 (za8.mk (zag.mk ([]:List za3) (ZI.mk false [])) false) ([]:List za0)) [(zai.mk 0 false (zag.mk (zan 0).t.parts (ZI.of 1)))])].map zap.d))])] h fun a w h=>qV (rA 0 [.d (.sl 1 ([(⟨#[120]⟩:ByteArray)].map zdy)),.d (.sl 5 (([]:List zaj).map zaj.d)),cI 2,cPs (zan 0).t.parts,cB (zan 0).t.k.neg,.d (nsl (zan 0).t.k.abs),cB true,cFs ([]:List za0),.d (.sl 3 ([(zb9.mk (⟨#[112]⟩:ByteArray) [(⟨#[97]⟩:ByteArray)] (.sl 10 []))].map zb9.d)),.d (.sl 10 ([(zap.mk 0 0 0 (za0.mk 0 (za8.mk (zag.mk ([]:List za3) (ZI.mk false [])) false) ([]:List za0)) [(zai.mk 0 false (zag.mk (zan 0).t.parts (ZI.of 1)))])].map zap.d))] h kw_7 rfl ?_)
 kernel_rfl
theorem ni6_2:ElZ Tryz.prog 41 69 2:=ElZ.mk' Tryz.underlying41 _ _ rfl rfl (by kernel_rfl) (by kernel_rfl) (by kernel_rfl) (by decide)
theorem ok_mono9 {L M:Nat} (hL:L<=M) (f:za0):f.ok L->f.ok M :=
 za0.ind (P:=fun f=>f.ok L->f.ok M) (fun k r ks ih hf=>by
  obtain ⟨h1,h2⟩:=(za0.ok_eq L _).1 hf
  exact (za0.ok_eq M _).2 ⟨fun e=>(h1 e).mono (bF _) hL,fun g hg=>ih g (zb6 hg) (h2 g hg)⟩) f
theorem sys_mono9 {L M:Nat} (hL:L<=M) (h:zbg L s):zbg M s :=
 ⟨h.vars,h.bnds,h.procs,h.acts,fun b hb=>⟨⟨(h.bnd b hb).1.1,bS (h.bnd b hb).1.2 hL⟩,(h.bnd b hb).2.1,bS (h.bnd b hb).2.2 hL⟩,⟨h.init.1,ok_mono9 hL _ h.init.2⟩,fun c hc=>⟨⟨(h.act c hc).guard.1,ok_mono9 hL _ (h.act c hc).guard.2⟩,(h.act c hc).len,fun m hm=>((h.act c hc).mv m hm).mono (bF _) hL⟩⟩
theorem few_wid1 {n L:Int} (hn:0<=n) (hn2:n<=30) (h:zlk f n L=true):f.wid<=100:=by
 unfold zlk at h
 rw [b6] at h
 have h1:f.size n<=n:=by have:=h.1;simpa using this
 have hw:=size_wid f n hn h1
 omega
theorem few_w1 {L:Nat} (h:zc2 L s=true):zkv s:=by
 unfold zc2 at h
 simp only [b6,decide_eq_true_eq,bV] at h
 refine ⟨few_wid1 (by decide) (by decide) h.1.2,fun c hc=>?_⟩
 have:=h.2.2 c hc
 unfold fewA at this
 simp only [b6] at this
 exact few_wid1 (by decide) (by decide) this.1.1
theorem sm24_ok (h:sm24 s ps p=true) (hr:SysRd s) (hl:∀ r ∈ ps,TLb r.t):zbg 3 s/\zkv s/\zhw ps/\p.states.length<=5/\p.acts.length<=6/\∀ x ∈ p.states,x.locs.length<=8/\x.bits.length<=30:=by
 unfold sm24 at h
 simp only [b6,decide_eq_true_eq,bV] at h
 obtain ⟨h1,h2,h3,h4,h5,h6⟩:=h
 unfold zh1 at h3
 rw [b6,decide_eq_true_eq,bV] at h3
 exact ⟨sys_mono9 (by decide) (few_sys h1 hr),few_w1 h1,⟨by omega,fun r hm=>(show TOk 20 1 r.t from fewR_ok (L:=1) (h3.2 r hm) (hl r hm)).mono (by decide) (by decide)⟩,h4,h5,h6⟩
theorem newT_ok (hs:zbg 3 s) (hw:zkv s) (hps:zhw ps) (hl:p.states.length<=5):∀ r ∈ newT s ps p,TOk 40000000 700 r.t:=fun r hr=>by
 rw [newT_eq] at hr
 obtain ⟨q,hq,rfl⟩:=bJ.1 (dR hr)
 have hn:=zcu s ps p.states p.acts
 exact (((newA_ok hs hw hps p.acts hl (bF _)).1 q hq).plain (by decide)).mono (bF _) (by omega)
def paE:zdw:=⟨[⟨[0],[false]⟩,⟨[0],[false]⟩,⟨[0],[true]⟩],[0,0]⟩
def pbE:zdw:=⟨[⟨[0],[true]⟩],[]⟩
def cE:List za0:=zaf zkq [zan 2] paE.states paE.acts
def nE:List za8:=newT zkq [zan 2] paE
def n2E:List za8:=newT zkq [zan 2] pbE
def c2E:za0:=cndF [zan 2] ⟨[0],[true]⟩ []
def c1E:za0:=cndF [zan 2] ⟨[0],[false]⟩ (zb1 zkq [0] 0 c2E)
theorem at2E:cE[2]?=some c2E:=rfl
theorem at1E:cE[1]?=some c1E:=rfl
theorem len_cE:(cE.length:Int)=3:=rfl
theorem ev_c2E_2:c2E.holds [ZI.of 2]=true:=by kernel_rfl
theorem ev_c2E_1:c2E.holds [ZI.of 1]=false:=by kernel_rfl
theorem ev_c1E_1:c1E.holds [ZI.of 1]=true:=by kernel_rfl
theorem ev_c1E_2:c1E.holds [ZI.of 2]=false:=by kernel_rfl
theorem at0E:nE[0]?=some (zan 2):=by kernel_rfl
theorem len_nE:decide ((nE.length:Int)>=3)=true:=by kernel_rfl
theorem more_paE:decide (((newT zkq [zan 2] paE).length:Int)>(([zan 2]:List za8).length:Int))=true:=by kernel_rfl
theorem more_pbE:decide (((newT zkq [zan 2] pbE).length:Int)>(([zan 2]:List za8).length:Int))=false:=by kernel_rfl
theorem vok9_1:VOk 3 [ZI.of 1]:=vokE [1] (by decide) (by decide)
theorem vok9_2:VOk 3 [ZI.of 2]:=vokE [2] (by decide) (by decide)
theorem paE_x:∀ x ∈ paE.states,x.locs.length<=8/\x.bits.length<=30:=by decide
theorem pbE_x:∀ x ∈ pbE.states,x.locs.length<=8/\x.bits.length<=30:=by decide
theorem lb1E:Lb (ZI.of 1).abs/\(ZI.of 1).abs.length<=3:=⟨ZI.lb_of _,by decide⟩
theorem sysR_ok:zbg 3 zkq:=by
 have ht:∀ n:Int,-1000<=n/\n<=1000->TOk 20 3 (zan n).t:=lea_tok
 have h0:=ht 0 (by decide)
 refine ⟨by decide,by decide,by decide,by decide,fun b hb=>(by cases hb),⟨(za0.lb_eq _).2 ⟨⟨⟨h0.kb,fun p hp=>(h0.ps p hp).1⟩,bL _⟩,fun g hg=>(by cases hg)⟩,(za0.ok_eq 3 _).2 ⟨fun _=>h0,fun g hg=>(by cases hg)⟩⟩,fun c hc=>?_⟩
 rw [bE.1 hc]
 refine ⟨act0_ok.guard,by decide,fun m hm=>?_⟩
 rw [bE.1 hm]
 exact ⟨h0.len,h0.ps,lb1E.1,lb1E.2⟩
theorem sysR_w:zkv zkq:=⟨dU (by kernel_rfl),fun c hc=>by rw [bE.1 hc];exact dU (by kernel_rfl)⟩
theorem ok_c2E:c2E.okB 1000000000 1000:=za0.okB_mono (by decide) (by decide) _ (zk6 sysR_ok sysR_w psE_ok paE.acts (by decide) (cK at2E)).1
theorem ok_c1E:c1E.okB 1000000000 1000:=za0.okB_mono (by decide) (by decide) _ (zk6 sysR_ok sysR_w psE_ok paE.acts (by decide) (cK at1E)).1
theorem LAlive24 :Fn Tryz.prog 7 [] [] (vb true) []:=by
 refine fB Tryz.func7 rfl 102 fun w H B a h=>Jq (htb:=zao) 0 [] [(0,vb false)] [] h fun a w h=>Jg (htb:=zao) 0 [(0,.g (Op.buildD (d:=11) (len:=1) (rows:=[0].map zak) (rs:=[]) tb_0 (.cons (i:=0) (OV.const (.int .i64 0) rfl) (.nil)) (by kernel_rfl) rfl (by simp [zak]) (by decide) (by decide))),(1,.g (Op.buildD (d:=12) (len:=1) (rows:=[false].map zd0) (rs:=[]) le5_3 (.cons (i:=0) (OV.const (.bool false) rfl) (.nil)) (by kernel_rfl) rfl (by simp [zd0]) (by decide) (by decide))),(3,.g (Op.buildD (d:=14) (len:=1) (rows:=[0].map zak) (rs:=[]) tb_0 (.cons (i:=0) (OV.const (.int .i64 0) rfl) (.nil)) (by kernel_rfl) rfl (by simp [zak]) (by decide) (by decide))),(4,.g (Op.buildD (d:=15) (len:=1) (rows:=[true].map zd0) (rs:=[]) le5_3 (.cons (i:=0) (OV.const (.bool true) rfl) (.nil)) (by kernel_rfl) rfl (by simp [zd0]) (by decide) (by decide)))] [] [(1,vp 0 0),(2,vp 1 0)] [] [(0,.box [cIs [0],.d (.sl 1 ([false].map zd0))]),(1,.box [cIs [0],.d (.sl 1 ([true].map zd0))])] h fun a w h=>Jg (htb:=zao) 2 [(3,.g (Op.buildD (d:=20) (len:=3) (rows:=[(zcw.mk [0] [false]),(zcw.mk [0] [false]),(zcw.mk [0] [true])].map zcw.d) (rs:=[(17,vG [cIs [0],.d (.sl 1 ([false].map zd0))]),(18,vG [cIs [0],.d (.sl 1 ([false].map zd0))]),(19,vG [cIs [0],.d (.sl 1 ([true].map zd0))])]) ni6_2 (.cons (i:=0) (OV.tmp 17 _) (.cons (i:=1) (OV.tmp 18 _) (.cons (i:=2) (OV.tmp 19 _) (.nil)))) (by kernel_rfl) rfl (by simp [zcw.d]) (by decide) (by decide))),(4,.g (Op.buildD (d:=21) (len:=2) (rows:=[0,0].map zak) (rs:=[]) tb_0 (.cons (i:=0) (OV.const (.int .i64 0) rfl) (.cons (i:=1) (OV.const (.int .i64 0) rfl) (.nil))) (by kernel_rfl) rfl (by simp [zak]) (by decide) (by decide)))] [1] [(3,vp 2 0)] [0] [(2,.box [.d (.sl 2 ([(zcw.mk [0] [false]),(zcw.mk [0] [false]),(zcw.mk [0] [true])].map zcw.d)),cIs [0,0]])] h fun a w h=>?_
 refine Je (htb:=zao) 3 [(0,.call (LSysR)),(1,.call (zhu 2 (by decide))),(2,.g (bD 25 ([(zan 2)].map za8.d) [(24,vG [cPs (zan 2).t.parts,cB (zan 2).t.k.neg,.d (nsl (zan 2).t.k.abs),cB (zan 2).eq])] kc_5 (.cons (i:=0) (OV.tmp 24 _) (.nil)) (by kernel_rfl) (by simp [za8.d]))),(4,.call (zid zkq [zan 2] paE sysR_ok sysR_w psE_ok (by decide) (by decide) paE_x))] [] [(4,(vFs cE))] h fun a w h=>Jg (htb:=zao) 3 [(0,.call (LSysR)),(1,.call (zhu 2 (by decide))),(2,.g (bD 31 ([(zan 2)].map za8.d) [(30,vG [cPs (zan 2).t.parts,cB (zan 2).t.k.neg,.d (nsl (zan 2).t.k.abs),cB (zan 2).eq])] kc_5 (.cons (i:=0) (OV.tmp 30 _) (.nil)) (by kernel_rfl) (by simp [za8.d]))),(4,.call (Fn.cast (LNew zkq [zan 2] paE sysR_ok sysR_w psE_ok (by decide) (by decide) paE_x) (show (.tup [.c (cRs (newT zkq [zan 2] paE)),.c (cB (decide (((newT zkq [zan 2] paE).length:Int)>(([zan 2]:List za8).length:Int))))]:V) = .tup [.c (cRs nE),.c (cB true)] from by rw [more_paE];rfl)))] [3] [(5,(vRs nE)),(6,vb true)] [2] [] h fun a w h=>Jg (htb:=zao) 3 [(0,.call (LSysR)),(1,.call (zhu 2 (by decide))),(2,.g (bD 39 ([(zan 2)].map za8.d) [(38,vG [cPs (zan 2).t.parts,cB (zan 2).t.k.neg,.d (nsl (zan 2).t.k.abs),cB (zan 2).eq])] kc_5 (.cons (i:=0) (OV.tmp 38 _) (.nil)) (by kernel_rfl) (by simp [za8.d]))),(4,.g (bD 41 ([(zcw.mk [0] [true])].map zcw.d) [(40,vG [cIs [0],.d (.sl 1 ([true].map zd0))])] ni6_2 (.cons (i:=0) (OV.tmp 40 _) (.nil)) (by kernel_rfl) (by simp [zcw.d]))),(6,.call (Fn.cast (LNew zkq [zan 2] pbE sysR_ok sysR_w psE_ok (by decide) (by decide) pbE_x) (show (.tup [.c (cRs (newT zkq [zan 2] pbE)),.c (cB (decide (((newT zkq [zan 2] pbE).length:Int)>(([zan 2]:List za8).length:Int))))]:V) = .tup [.c (cRs n2E),.c (cB false)] from by rw [more_pbE];rfl)))] [2] [(8,vb false)] [1] [] h fun a w h=>Jg (htb:=zao) 3 [(0,.call (SROf 1 ⟨by decide,by decide⟩)),(1,.g (bD 47 ([(ZI.of 1)].map ziD) [(46,vz (ZI.of 1))] ty_5 (.cons (i:=0) (OV.tmp 46 _) (.nil)) (by kernel_rfl) (by simp [ziD]))),(2,.call (SROf 2 ⟨by decide,by decide⟩)),(3,.g (bD 49 ([(ZI.of 2)].map ziD) [(48,vz (ZI.of 2))] ty_5 (.cons (i:=0) (OV.tmp 48 _) (.nil)) (by kernel_rfl) (by simp [ziD])))] [] [(9,(vZs [(ZI.of 1)])),(10,(vZs [(ZI.of 2)]))] [] [] h fun a w h=>Jq (htb:=zao) 3 [(1,.len (za4 6 za0.d cE)),(2,.cmp (op:=.eql) (m:=(cE.length:Int)) (n:=3) (b:=true) .i64 (by rw [len_cE];rfl)),(5,.g (xD 55 54 zgm ((za7 at2E (f:=za0.d)).trans (congrArg some (za0.d_eq c2E))) (OV.const (.int .i64 2) rfl))),(8,.call (Fn.cast (zg9 [ZI.of 2] (M:=3) (by decide) vok9_2 c2E ok_c2E) (congrArg vb ev_c2E_2))),(12,.g (xD 62 61 zgm ((za7 at2E (f:=za0.d)).trans (congrArg some (za0.d_eq c2E))) (OV.const (.int .i64 2) rfl))),(15,.call (Fn.cast (zg9 [ZI.of 1] (M:=3) (by decide) vok9_1 c2E ok_c2E) (congrArg vb ev_c2E_1))),(20,.g (xD 70 69 zgm ((za7 at1E (f:=za0.d)).trans (congrArg some (za0.d_eq c1E))) (OV.const (.int .i64 1) rfl))),(23,.call (Fn.cast (zg9 [ZI.of 1] (M:=3) (by decide) vok9_1 c1E ok_c1E) (congrArg vb ev_c1E_1))),(27,.g (xD 77 76 zgm ((za7 at1E (f:=za0.d)).trans (congrArg some (za0.d_eq c1E))) (OV.const (.int .i64 1) rfl))),(30,.call (Fn.cast (zg9 [ZI.of 2] (M:=3) (by decide) vok9_2 c1E ok_c1E) (congrArg vb ev_c1E_2))),(38,.len (za4 4 za8.d nE)),(39,.cmp (op:=.geq) (m:=(nE.length:Int)) (n:=3) (b:=true) .i64 len_nE),(43,.g (xD 93 92 kc_3 (za7 at0E (f:=za8.d)) (OV.const (.int .i64 0) rfl))),(45,.call (zhu 2 (by decide))),(46,.call (LR4SameS (zan 2) le2 (by decide)))] [(0,vb true)] [] h fun a w h=>qV (rT (.c (cB true)) h rfl ?_);rfl
theorem put_rel {c:zap} {x:StD} (hv:∀ v,v<n->zbw c v=false->(zjs x c v).val=((y.vals[v]?).getD zft).val) {r:za8} (hr:Bel n r.t) (hno:∀ v,v<n->zah r.t.parts (v:Int)≠0->zbw c v=false):zb7 x.vals (zbn (zcc c n) (zd2 c n) (cpR r))=zb7 y.vals r:=by
 rw [<- relOk_cp y.vals r]
 unfold zb7 zbn
 rw [put_val9 (t:=(cpR r).t) (ws:=y.vals) fun v h0 hne=>?_]
 have hne:zah r.t.parts v≠0:=by rw [<- ze7];exact hne
 obtain ⟨u,rfl⟩:∃ u:Nat,v=(u:Int):=⟨v.toNat,(cL h0).symm⟩
 have hu:u<n:=Nat.lt_of_not_le fun h=>hne (hr _ (by omega))
 have hf:=hno u hu hne
 have hk:(zcx c u).2=true:=by rw [valA_free,hf];rfl
 rw [pick_known hk n hu,valA_new hf,vals_at,hv u hu hf]
theorem pre_put_all {c:zap} {x:StD} (hB:zd3 n f) (hn:∀ v,zbw c v=false) (hv:∀ v,v<n->zbw c v=false->(zjs x c v).val=((y.vals[v]?).getD zft).val):(((f.flat false).forg (zd6 c n)).each (zbn (zcc c n) (zd2 c n))).holds x.vals=f.holds y.vals:=by
 have e:zd6 c n=[]:=by
  refine List.eq_nil_iff_forall_not_mem.2 fun a ha=>?_
  unfold zd6 at ha
  obtain ⟨u,_,hx⟩:=cP.1 ha
  rw [show (zcx c u).2=true by rw [valA_free,hn u];rfl,if_pos rfl] at hx
  cases hx
 rw [e,forg_all (m:=n) (us:=x.vals) (ws:=y.vals) (tr:=zbn (zcc c n) (zd2 c n)) (fun r hr=>put_rel hv hr fun u _ _=>hn u) (f.flat false) (flat_fl f false) (flat_fk f false) (belF_flat f hB false),flat_holds]
 cases f.holds y.vals <;> rfl
theorem snd_of_beg {locs:List Int} {i:Int} (h:(zgn s locs i).2=true):(zab s i).2=true:=by
 have h:((zab s i).2 && begB s locs (zab s i).1)=true:=h
 rw [b6] at h;exact h.1
theorem snd_act {i:Int} {c:zap} (h:zdh s i=some c):(zab s i).1=c:=by unfold zab;rw [h]
theorem pre_exact (hp:ProS s) {x:StD} (hB:zd3 s.vars.length f) (hfx:zed s x=true) {act:Int} {picks:List ZI} (hb:(zgn s x.locs act).2=true) (hn:∀ v,zbw (zab s act).1 v=false):(zl4 s act f).holds x.vals=((goS s x act picks).2 && f.holds (goS s x act picks).1.vals):=by
 have hsn:=snd_of_beg hb
 cases hc:zdh s act with
 | none=>rw [beg_none hc] at hb;cases hb
 | some c =>
  have hca:=snd_act hc
  rw [hca] at hn
  have ha:act≠-1:=fun e=>by subst e;simp [zdh] at hc
  have he:=enabled_beg hfx hc
  rw [hb,cO] at he
  unfold zl4 goS
  rw [if_neg ha,if_pos hsn,if_neg (fun e=>ha e.1),hc,hca,zj8,cM,cM,List.all_nil,dM,canF_holds,<- he]
  show _=((goC s x c picks).2 && f.holds (goC s x c picks).1.vals)
  unfold goC
  cases hen:zar s x c with
  | false=>rw [if_neg (fun e=>Bool.noConfusion e.1)];rfl
  | true =>
   have hfo:=fits_out picks hen
   have ec:zjh s.vars.length (canAt s x c)=zed s (zga s x c picks):=by
    rw [hfo]
    refine zhs fun v _=>?_
    unfold canAt
    rw [hn v,if_neg Bool.noConfusion,zit (hn v)]
   rw [cO,ec]
   cases hfi:zed s (zga s x c picks) with
   | false=>rw [if_neg (fun e=>Bool.noConfusion e.2)];rfl
   | true =>
    rw [if_pos ⟨rfl,rfl⟩,cO]
    show _=(true && f.holds (zga s x c picks).vals)
    rw [cO]
    exact pre_put_all hB hn fun v hv _=>by rw [out_val hv];show _=(zf8 x c picks v).val;rw [zit (hn v)]
theorem pre_unsound {x:StD} {act:Int} (ha:act≠-1) (h:(zab s act).2=false):(zl4 s act f).holds x.vals=false:=by
 unfold zl4;rw [if_neg ha,h,if_neg Bool.noConfusion];exact zcq _ false
theorem free_any {c:zap} (h:∀ m ∈ c.moves,m.any=false) (v:Nat):zbw c v=false:=by
 unfold zbw
 cases e:zif c v with
 | none=>rfl
 | some m=>exact h m (val_mv e)
theorem pick_bel {vs:List Int} (hb:∀ b ∈ bys,Bel m b) {v:Int} (hv:v<(m:Int)):Bel m (pickT vs bys v):=by
 unfold pickT
 split
 ·rename_i b h
  split
  ·exact bel_var hv
  ·exact hb b (cK h)
 ·exact bel_var hv
theorem put_bel {vs:List Int} (ht:Bel m t) (hb:∀ b ∈ bys,Bel m b):Bel m (putZ t vs bys):=by
 have hp:=zav t
 have key:∀ (l:List za3) (out:zag),(∀ p ∈ l,p ∈ (za2 t).parts)->Bel m out->Bel m (l.foldl (zc7 vs bys) out):=fun l=>by
  induction l with
  | nil=>intro out _ h;exact h
  | cons p l ih =>
   intro out hl h
   rw [cF]
   refine ih _ (fun q hq=>hl q (bX _ hq)) (bel_add h (zh5 (pick_bel hb ?_) _))
   have h1:=hl p (bG ..)
   obtain ⟨h2,_,h3⟩:=hp.2.1 p h1
   have h4:=zk5 hp.1 p h1 h2
   rcases Int.lt_or_le p.v (m:Int) with h5 | h5
   ·exact h5
   ·exfalso
    have:=ht p.v h5
    rw [<- hp.2.2 p.v,h4] at this
    exact h3 this
 exact key _ _ (fun p hp=>hp) (zk9 m t.k)
theorem forg_bel (vs:List Int) (f:za0):zd3 m f->zd3 m (f.forg vs) :=
 za0.ind (P:=fun f=>zd3 m f->zd3 m (f.forg vs)) (fun k r ks ih hf=>by
  have hf2:=(zdf m _).1 hf
  rw [za0.forg_eq]
  show zd3 m (forgK vs k r ks (ks.map (za0.forg vs)))
  unfold forgK
  split
  ·split
   ·exact zeb m true
   ·exact hf
  ·rename_i e
   rw [zdf]
   refine ⟨fun e2=>absurd e2 e,fun g hg=>?_⟩
   change g ∈ cnt k (ks.map (za0.forg vs)) at hg
   rw [zct] at hg
   obtain ⟨q,hq,rfl⟩:=bJ.1 hg
   exact ih q (zb6 hq) (hf2.2 q hq)) f
theorem preB_bel {c:zap} (hm:∀ m ∈ c.moves,Bel n m.t):∀ b ∈ zd2 c n,Bel n b:=zds fun v hv b hb=>by
 unfold zcx at hb
 cases e:zif c v with
 | none =>
  rw [e] at hb
  change b ∈ [zgp (v:Int)] at hb
  rw [bE.1 hb];exact bel_var (by omega)
 | some q =>
  rw [e] at hb
  have hq:q ∈ c.moves:=by unfold zif at e;exact List.mem_of_find?_eq_some e
  cases ha:q.any with
  | true=>simp [ha] at hb
  | false =>
   simp [ha] at hb
   rw [hb];exact zdu (hm q hq)
theorem pre_bel (hp:ProS s) (act:Int) (hf:zd3 s.vars.length f):zd3 s.vars.length (zl4 s act f):=by
 obtain ⟨hg,hm⟩:=snd_pro hp act
 unfold zl4
 split
 ·exact zfi fun g hx=>by rw [bE.1 hx];exact hf
 ·split
  ·refine zfi fun g hx=>?_
   rcases bU.1 hx with rfl | hx
   ·exact canF_bel hg hm
   ·rw [bE.1 hx]
    exact belF_each (t:=zbn (zcc (zab s act).1 s.vars.length) (zd2 (zab s act).1 s.vars.length)) (fun r hr=>put_bel (t:=(cpR r).t) (zdu hr) (preB_bel hm)) _ (forg_bel _ _ (belF_flat f hf false))
  ·exact zeb _ _
theorem at0_bel (hv:s.vars.length<=8) (hm:m<=1000000) (f:za0) (h:zd3 m f):zd3 m (atF s f 0):=by
 have:=at_bel (s:=s) (k:=0) hv (by decide) (bS hm (by decide)) f h
 rw [Nat.zero_mul,Nat.add_zero] at this;exact this
theorem cube_bel (hps:∀ r ∈ ps,Bel m r.t) (bs:List Bool):zd3 m (zay ps bs):=zfi fun g hg=>by
 obtain ⟨r,b,hr,rfl⟩:=cube_lits hg
 unfold litF
 split
 ·exact zh6 (hps r hr)
 ·exact belF_deny (zh6 (hps r hr))
theorem cnd_bel (hv:s.vars.length<=8) (hp:ProS s) (hps:∀ r ∈ ps,Bel s.vars.length r.t):∀ (xs:List zcw) (cs:List Int),∀ f ∈ zaf s ps xs cs,zd3 s.vars.length f
 | [],_,f,hf=>by simp [zaf] at hf
 | [x],_,f,hf=>by rw [zaf] at hf;rw [bE.1 hf];exact zfi fun g hg=>by rw [bE.1 hg];exact cube_bel hps _
 | x :: y :: ys,[],f,hf=>by rw [zaf] at hf;rw [bE.1 hf];exact zfi fun g hg=>by rw [bE.1 hg];exact cube_bel hps _
 | x :: y :: ys,c :: cs,f,hf=>by
  have ih:=cnd_bel hv hp hps (y :: ys) cs
  rw [zaf] at hf
  rcases bU.1 hf with rfl | hf
  ·have hg:zd3 s.vars.length ((zaf s ps (y :: ys) cs).headD (zcj false)):=by
    cases e:zaf s ps (y :: ys) cs with
    | nil=>exact zeb _ _
    | cons q l=>exact ih q (by rw [e];exact bG ..)
   refine zfi fun g hx=>?_
   rcases bU.1 hx with rfl | hx
   ·exact cube_bel hps _
   ·unfold zb1 at hx
    split at hx
    ·rcases bU.1 hx with rfl | hx
     ·exact at0_bel hv (by omega) _ (stk_bel hp _)
     ·rw [bE.1 hx];exact hg
    ·rw [bE.1 hx];exact pre_bel hp c hg
  ·exact ih f hf
theorem atE_bel {r:za8} (h:zd3 m (atE r)):Bel m r.t:=((zdf _ _).1 h).1 rfl
theorem pr24_pro (h:pr24 s ps=true):ProS s/\∀ r ∈ ps,Bel s.vars.length r.t:=by
 unfold pr24 at h
 rw [bV] at h
 have hA:∀ f ∈ fsA s ps ps.length,zd3 s.vars.length f:=fun f hf=>in_bel (h f (dV _ hf))
 have hG:∀ c ∈ s.acts,∀ f ∈ fsG c c.moves.length,zd3 s.vars.length f:=fun c hc f hf=>in_bel (h f (dW _ (cP.2 ⟨c,hc,hf⟩)))
 refine ⟨⟨hA _ (dV _ (bE.2 rfl)),fun c hc=>⟨hG c hc _ (bG ..),fun m hm=>?_⟩⟩,fun r hr=>?_⟩
 ·exact atE_bel (r:=⟨m.t,false⟩) (hG c hc _ (bX _ (by rw [cH (bF _)];exact bJ.2 ⟨m,hm,rfl⟩)))
 ·exact atE_bel (hA _ (dW _ (by rw [cH (bF _)];exact bJ.2 ⟨r,hr,rfl⟩)))
theorem zj4 (ps:List za8) (x:zcw) (tl:List za0) (vs:List ZI):(cndF ps x tl).holds vs=(zdx ps x.bits vs && tl.all (za0.holds vs)):=by
 unfold cndF;rw [zj8,cM,cube_holds]
theorem cnd_want (hf:(zaf s ps p.states p.acts)[i]?=some f) (hx:p.states[i]?=some x) {vs:List ZI} (h:f.holds vs=true):zdx ps x.bits vs=true:=by
 have h1:=zac hf
 rw [zcu] at h1
 rcases Nat.lt_or_ge (i+1) (min p.states.length (p.acts.length+1)) with h2 | h2
 ·obtain ⟨c,hc⟩:∃ c,p.acts[i]?=some c:=⟨_,b7 (by omega)⟩
  obtain ⟨g,hg⟩:∃ g,(zaf s ps p.states p.acts)[i+1]?=some g:=⟨_,b7 (by rw [zcu];omega)⟩
  rw [cnd_mid s ps p.states p.acts hx hc hg] at hf
  injection hf with hf;subst hf
  rw [zj4,b6] at h;exact h.1
 ·rw [zlm s ps p.states p.acts hx (by omega)] at hf
  injection hf with hf;subst hf
  rw [zj4,b6] at h;exact h.1
theorem cnd_end (hf:(zaf s ps p.states p.acts)[i]?=some f) (hx:p.states[i]?=some x) (hi:i+1=(zaf s ps p.states p.acts).length) (vs:List ZI):f.holds vs=zdx ps x.bits vs:=by
 rw [zcu] at hi
 rw [zlm s ps p.states p.acts hx hi] at hf
 injection hf with hf;subst hf
 rw [zj4];exact dM _
theorem cnd_pre {g:za0} {c:Int} (hf:(zaf s ps p.states p.acts)[i]?=some f) (hx:p.states[i]?=some x) (hc:p.acts[i]?=some c) (hg:(zaf s ps p.states p.acts)[i+1]?=some g) (hn:c≠-1) {vs:List ZI} (h:f.holds vs=true):(zl4 s c g).holds vs=true:=by
 rw [cnd_mid s ps p.states p.acts hx hc hg] at hf
 injection hf with hf;subst hf
 rw [zj4,b6] at h
 have h2:=h.2
 unfold zb1 at h2
 rw [if_neg hn,cM,List.all_nil,dM] at h2;exact h2
theorem step_out {g:za0} {c:Int} (hf:(zaf s ps p.states p.acts)[i]?=some f) (hx:p.states[i]?=some x) (hc:p.acts[i]?=some c) (hg:(zaf s ps p.states p.acts)[i+1]?=some g) (h:f.holds y.vals=true) (ho:c<0\/c>=(s.acts.length:Int)):c=-1:=Classical.byContradiction fun hn=>by
 have h1:=cnd_pre hf hx hc hg hn h
 have h2:(zab s c).2=false:=by
  unfold zab
  have:zdh s c=none:=by
   unfold zdh
   rcases ho with ho | ho
   ·rw [if_neg (by omega)]
   ·split
    ·exact dS (by omega)
    ·rfl
  rw [this]
 have h3:=pre_unsound (x:=y) (f:=g) hn h2
 rw [h3] at h1;cases h1
theorem step_go (hv:s.vars.length<=8) (hpr:pr24 s ps=true) {ka:Nat} {g:za0} {c:zap} (hf:(zaf s ps p.states p.acts)[i]?=some f) (hx:p.states[i]?=some x) (hc:p.acts[i]?=some (ka:Int)) (hg:(zaf s ps p.states p.acts)[i+1]?=some g) (hfy:zed s y=true) (h:f.holds y.vals=true) (hka:s.acts[ka]?=some c) (hany:∀ m ∈ c.moves,m.any=false) (hk:c.proc=(k:Int)) {l:Int} (hl:y.locs[k]?=some l) (hfr:l=c.from_):(goS s y (ka:Int) []).2=true/\g.holds (goS s y (ka:Int) []).1.vals=true:=by
 obtain ⟨hp,hpb⟩:=pr24_pro hpr
 have hcb:=cnd_bel hv hp hpb p.states p.acts
 have h1:=cnd_pre hf hx hc hg (by omega) h
 have hca:zdh s (ka:Int)=some c:=by unfold zdh;rw [if_pos (by omega),Int.toNat_natCast,hka]
 have hs1:(zab s (ka:Int)).1=c:=snd_act hca
 have hs2:(zab s (ka:Int)).2=true:=by
  cases e:(zab s (ka:Int)).2 with
  | true=>rfl
  | false=>have:=pre_unsound (x:=y) (f:=g) (show (ka:Int)≠-1 by omega) e;rw [this] at h1;cases h1
 have hb:(zgn s y.locs (ka:Int)).2=true:=by
  show ((zab s (ka:Int)).2 && begB s y.locs (zab s (ka:Int)).1)=true
  rw [hs2,hs1,cO]
  unfold begB
  rw [decide_eq_true (zhm hfy).1,cO,hk,Int.toNat_natCast,hl,hfr]
  exact beq_self_eq_true _
 have h2:=pre_exact (picks:=[]) hp (hcb g (cK hg)) hfy hb (by rw [hs1];exact free_any hany)
 rw [h1] at h2
 have h2:=(b6 _ _ ▸ h2.symm:_/\_)
 exact h2
theorem mod_nat9 {at_:Int} (h:0<n):∃ q:Nat,(at_ % 1024).tmod (n:Int)=(q:Int)/\q<n:=by
 have h1:=Int.emod_nonneg at_ (show (1024:Int)≠0 by decide)
 rw [Int.tmod_eq_emod_of_nonneg h1]
 have h2:=Int.emod_nonneg (at_ % 1024) (show (n:Int)≠0 by omega)
 have h3:=Int.emod_lt_of_pos (at_ % 1024) (show (0:Int)<n by omega)
 exact ⟨((at_ % 1024) % (n:Int)).toNat,(cL h2).symm,by omega⟩
theorem want_no9 {bs:List Bool} {vs:List ZI} (h:zdx (ps.take j) (bs.take j) vs=false):zdx (ps.take (j+1)) (bs.take (j+1)) vs=false:=by
 have e:∀ k,zdx (ps.take k) (bs.take k) vs=((List.zipWith (fun r b=>zb7 vs r == b) ps bs).take k).all id:=fun k=>by unfold zdx;rw [List.take_zipWith]
 rw [e] at h ⊢
 rw [dI,List.all_append,h];rfl
theorem LRefineSteps (s:zam) (ps:List za8) (p:zdw) (x:StD) (at_:Int) (hr:SysRd s) (hpl:ps.length<=9223372036854775807) (htl:∀ r ∈ ps,TLb r.t) (hsl:p.states.length<=9223372036854775807) (hal:p.acts.length<=9223372036854775807) (hxl:∀ x ∈ p.states,x.locs.length<=9223372036854775807/\x.bits.length<=9223372036854775807) (hxr:StRd x):Fn Tryz.prog 4 [] [.t (.agg [.d (.sl 1 (s.vars.map zdy)),.d (.sl 5 (s.bounds.map zaj.d)),.d (.raw (.int .i64 s.init.kind)),.d (.sl 3 (s.init.r.t.parts.map za3.d)),.d (.raw (.bool s.init.r.t.k.neg)),.d (nsl s.init.r.t.k.abs),.d (.raw (.bool s.init.r.eq)),.d (.sl 6 (s.init.kids.map za0.d)),.d (.sl 3 (s.procs.map zb9.d)),.d (.sl 10 (s.acts.map zap.d))]),.t (.c (.d (.sl 4 (ps.map za8.d)))),.t (.agg [.d (.sl 2 (p.states.map zcw.d)),.d (.sl 1 (p.acts.map zak))]),.t (.agg [.d (.sl 1 (x.locs.map zak)),.d (.sl 2 (x.vals.map ziD))]),vI at_] (vb true) []:=by
 refine fB Tryz.func4 rfl 202 fun w H B a h=>Jq 0 [] [(1,.t (.c (.d (.sl 4 (ps.map za8.d))))),(4,vI at_),(5,vp 0 0),(7,vp 1 0),(8,vp 2 0),(10,vb false)] [(0,.box [.d (.sl 1 (s.vars.map zdy)),.d (.sl 5 (s.bounds.map zaj.d)),.d (.raw (.int .i64 s.init.kind)),.d (.sl 3 (s.init.r.t.parts.map za3.d)),.d (.raw (.bool s.init.r.t.k.neg)),.d (nsl s.init.r.t.k.abs),.d (.raw (.bool s.init.r.eq)),.d (.sl 6 (s.init.kids.map za0.d)),.d (.sl 3 (s.procs.map zb9.d)),.d (.sl 10 (s.acts.map zap.d))]),(1,.box [.d (.sl 2 (p.states.map zcw.d)),.d (.sl 1 (p.acts.map zak))]),(2,.box [.d (.sl 1 (x.locs.map zak)),.d (.sl 2 (x.vals.map ziD))])] h fun a w h=>qW (Je 3 [(0,.call (LAlive24))] [] [(24,vb false)] h fun a w h=>zaz h (qU (za1 (qW ?_))))
 rcases bN (sm24 s ps p) with hc1 | hc38
 ·obtain ⟨hs3,hw9,hps,hsl9,hal9,hpx⟩:=sm24_ok hc1 hr htl;have hcs9:∀ f ∈ (zaf s ps p.states p.acts),f.okB 32400000 490/\f.nodes<=1536000:=fun f hf=>zk6 hs3 hw9 hps p.acts hsl9 hf
  have hcl9:(zaf s ps p.states p.acts).length<=5:=by rw [zcu];omega
  have hnl9:=newT_len s ps p;have lps9:=hps.1;have hnk9:=newT_ok hs3 hw9 hps hsl9
  rcases bN (pr24 s ps) with hc2 | hc37
  ·rcases bN (zkt 2 x) with hc3 | hc36
   ·rcases bN (zed s x) with hc4 | hc35
    ·refine Je 3 [(3,.call (Fn.cast (zjd s ps p hr hpl hsl hal hxl) (congrArg vb hc1))),(8,.call (Fn.cast (zje s ps hs3 hw9 hps) (congrArg vb hc2))),(13,.call (Fn.cast (SFewSt x 2 hxr) (congrArg vb hc3))),(19,.call (Fn.cast (SRFits s x (L:=3) (M:=3) (by decide) hs3 ((few_st hc3 hxr).mono (by decide))) (congrArg vb hc4))),(25,.len (za4 2 zcw.d p.states))] [24] [(52,vb ((p.states.length:Int) == 0))] h fun a w h=>cS ((p.states.length:Int) == 0) h (fun hc5=>?_) (fun hc6=>?_)
     ·refine Je 3 [] [52] [(10,vb true)] h fun a w h=>qV (za5 (rT (.c (.d (.raw (.bool true)))) h rfl ?_));rfl
     refine qU (za1 ?_);have hx3:zjb 3 x:=(few_st hc3 hxr).mono (by decide);have hpl09:0<p.states.length:=by have:=beq_eq_false_iff_ne.1 hc6;omega
     refine Je 3 [(3,.call (zid s ps p hs3 hw9 hps hsl9 hal9 hpx))] [52] [(11,.t (.c (.d (.sl 6 ((zaf s ps p.states p.acts).map za0.d)))))] h fun a w h=>?_;have hpos9:0<(zaf s ps p.states p.acts).length:=by rw [zcu];omega
     obtain ⟨qi,hqi,hqlt⟩:=mod_nat9 (at_:=at_) hpos9;have hqs9:qi<min p.states.length (p.acts.length+1):=by rw [<- zcu s ps p.states p.acts];exact hqlt
     refine Je 3 [(1,.g (Op.mask (d:=58) (xt:=3) (yt:=3) (m:=at_) (n:=1023) (r:=(at_ % 1024)) 10 (OV.tmp 57 _) (OV.const (.int .i64 1023) rfl) (by decide) (by decide) (by rw [show ((2 ^ 10:Nat):Int)=1024 from rfl]))),(3,.len (za4 6 za0.d (zaf s ps p.states p.acts))),(4,.g (Op.rem (d:=61) (xt:=3) (yt:=3) (k:=.i64) (m:=(at_ % 1024)) (n:=((zaf s ps p.states p.acts).length:Int)) (r:=(qi:Int)) (OV.tmp 58 _) (OV.tmp 60 _) (by omega) hqi))] [4] [(12,vN qi)] h fun a w h=>?_;obtain ⟨x17,hx17⟩:=gl p.states qi;have hx9:=hpx x17 (lM hx17);refine Je 3 [(3,.g (xD 65 63 ln14_4 (za7 hx17 (f:=zcw.d)) (OV.tmp 64 _)))] [] [(13,.t (.c (.d (.sl 1 (x17.bits.map zd0)))))] h fun a w h=>Je 3 [] [] [(14,vb true)] h fun a w h=>qW (Je 3 [(1,.len (za4 4 za8.d ps))] [] [(69,vN ps.length),(70,vI 0)] h fun a w h=>qZ ?_)
     refine zbx (ι:=(Nat) × (Bool)) (fun (j,wn)=>j<=ps.length/\wn=zdx (ps.take j) (x17.bits.take j) x.vals)
       [] (fun (j,wn)=>[(14,vb wn),(70,vN j)])
       [] (fun (j,wn)=>[])
       (fun (j,wn)=>ps.length - j) (0,true) ?_ h ?_
     ·exact ⟨bL _,rfl⟩
     clear h;rintro ⟨j,wn⟩ a w hI h;dsimp only at h;obtain ⟨hI1,hI2⟩:=hI;refine Je 3 [] [] [(71,vb (decide ((j:Int)<(ps.length:Int))))] h fun a w h=>qW (zae ((j:Int)<(ps.length:Int)) h (fun hc7 hc7'=>?_) (fun hc12 hc12'=>?_))
     ·refine qU (za1 (qW (qZ (Je 3 [] [71] [(15,vN j)] h fun a w h=>?_))))
      rcases bN wn with hc8 | hc11
      ·rw [hc8] at h
       rcases bN (decide ((j:Int)>=(x17.bits.length:Int))) with hc9 | hc10
       ·have hc9':=dT hc9;refine Jn 3 [(4,.len (za4 1 zd0 x17.bits)),(5,.cmp (op:=.geq) (m:=(j:Int)) (n:=(x17.bits.length:Int)) (b:=true) .i64 hc9)] [(1,.t (.c (.d (.sl 4 (ps.map za8.d))))),(5,vp 0 0),(7,vp 1 0),(8,vp 2 0),(10,vb false),(11,.t (.c (.d (.sl 6 ((zaf s ps p.states p.acts).map za0.d))))),(12,vN qi),(13,.t (.c (.d (.sl 1 (x17.bits.map zd0))))),(14,vb true),(69,vN ps.length),(70,vN j)] [(0,.box [.d (.sl 1 (s.vars.map zdy)),.d (.sl 5 (s.bounds.map zaj.d)),.d (.raw (.int .i64 s.init.kind)),.d (.sl 3 (s.init.r.t.parts.map za3.d)),.d (.raw (.bool s.init.r.t.k.neg)),.d (nsl s.init.r.t.k.abs),.d (.raw (.bool s.init.r.eq)),.d (.sl 6 (s.init.kids.map za0.d)),.d (.sl 3 (s.procs.map zb9.d)),.d (.sl 10 (s.acts.map zap.d))]),(1,.box [.d (.sl 2 (p.states.map zcw.d)),.d (.sl 1 (p.acts.map zak))]),(2,.box [.d (.sl 1 (x.locs.map zak)),.d (.sl 2 (x.vals.map ziD))])] h fun a w h=>za6 (za1 (Jf 3 [(0,.j1 j)] [] [(70,vI ((j:Int)+1))] h fun a w h=>za1 (zaa (x:=(j,wn)) (y:=(j+1,true)) h ?_ ?_)))
        ·have:=dT hc7;exact ⟨by omega,by rw [want_out (by have:=dT hc9;omega),<- hI2,hc8]⟩
        show ps.length - (j+1)<ps.length - j;have:=dT hc7;omega
       have hc10':=dF hc10;obtain ⟨x18,hx18⟩:=gl ps j;obtain ⟨x20,hx20⟩:=gl x17.bits j;refine Jn 3 [(4,.len (za4 1 zd0 x17.bits)),(5,.cmp (op:=.geq) (m:=(j:Int)) (n:=(x17.bits.length:Int)) (b:=false) .i64 hc10),(9,.g (xD 82 80 kc_3 (za7 hx18 (f:=za8.d)) (OV.tmp 81 _))),(13,.call (SRrelHolds x18 x.vals (L:=10) (M:=10) (by decide) (hx3.mono (by decide)).vok (hps.2 x18 (lM hx18)))),(16,.g (xD 89 87 le5_9 (za7 hx20 (f:=zd0)) (OV.tmp 88 _)))] [(1,.t (.c (.d (.sl 4 (ps.map za8.d))))),(5,vp 0 0),(7,vp 1 0),(8,vp 2 0),(10,vb false),(11,.t (.c (.d (.sl 6 ((zaf s ps p.states p.acts).map za0.d))))),(12,vN qi),(13,.t (.c (.d (.sl 1 (x17.bits.map zd0))))),(14,vb (zb7 x.vals x18 == x20)),(69,vN ps.length),(70,vN j)] [(0,.box [.d (.sl 1 (s.vars.map zdy)),.d (.sl 5 (s.bounds.map zaj.d)),.d (.raw (.int .i64 s.init.kind)),.d (.sl 3 (s.init.r.t.parts.map za3.d)),.d (.raw (.bool s.init.r.t.k.neg)),.d (nsl s.init.r.t.k.abs),.d (.raw (.bool s.init.r.eq)),.d (.sl 6 (s.init.kids.map za0.d)),.d (.sl 3 (s.procs.map zb9.d)),.d (.sl 10 (s.acts.map zap.d))]),(1,.box [.d (.sl 2 (p.states.map zcw.d)),.d (.sl 1 (p.acts.map zak))]),(2,.box [.d (.sl 1 (x.locs.map zak)),.d (.sl 2 (x.vals.map ziD))])] h fun a w h=>za6 (za1 (Jf 3 [(0,.j1 j)] [] [(70,vI ((j:Int)+1))] h fun a w h=>za1 (zaa (x:=(j,wn)) (y:=(j+1,zb7 x.vals x18 == x20)) h ?_ ?_)))
       ·have:=dT hc7;exact ⟨by omega,by rw [want_at hx18 hx20,<- hI2,hc8];rfl⟩
       show ps.length - (j+1)<ps.length - j;have:=dT hc7;omega
      rw [hc11] at h;refine Jn 3 [] [(1,.t (.c (.d (.sl 4 (ps.map za8.d))))),(5,vp 0 0),(7,vp 1 0),(8,vp 2 0),(10,vb false),(11,.t (.c (.d (.sl 6 ((zaf s ps p.states p.acts).map za0.d))))),(12,vN qi),(13,.t (.c (.d (.sl 1 (x17.bits.map zd0))))),(14,vb false),(69,vN ps.length),(70,vN j)] [(0,.box [.d (.sl 1 (s.vars.map zdy)),.d (.sl 5 (s.bounds.map zaj.d)),.d (.raw (.int .i64 s.init.kind)),.d (.sl 3 (s.init.r.t.parts.map za3.d)),.d (.raw (.bool s.init.r.t.k.neg)),.d (nsl s.init.r.t.k.abs),.d (.raw (.bool s.init.r.eq)),.d (.sl 6 (s.init.kids.map za0.d)),.d (.sl 3 (s.procs.map zb9.d)),.d (.sl 10 (s.acts.map zap.d))]),(1,.box [.d (.sl 2 (p.states.map zcw.d)),.d (.sl 1 (p.acts.map zak))]),(2,.box [.d (.sl 1 (x.locs.map zak)),.d (.sl 2 (x.vals.map ziD))])] h fun a w h=>za6 (za1 (Jf 3 [(0,.j1 j)] [] [(70,vI ((j:Int)+1))] h fun a w h=>za1 (zaa (x:=(j,wn)) (y:=(j+1,false)) h ?_ ?_)))
      ·have:=dT hc7;exact ⟨by omega,by rw [want_no9 (show zdx (ps.take j) (x17.bits.take j) x.vals=false by rw [<- hI2,hc11])]⟩
      show ps.length - (j+1)<ps.length - j;have:=dT hc7;omega
     refine exA ?_;have hwn9:wn=zdx ps x17.bits x.vals:=by rw [hI2];exact want_end (by have:=dF hc12;omega)
     replace h:=cvM [] [(14,vb (zdx ps x17.bits x.vals))] [] [] (by rw [hwn9];kernel_rfl) h;obtain ⟨x21,hx21⟩:=gl (zaf s ps p.states p.acts) qi;refine Jg 3 [(2,.g (xD 97 95 zgm ((za7 hx21 (f:=za0.d)).trans (congrArg some (za0.d_eq x21))) (OV.tmp 96 _))),(6,.call (zg9 x.vals (M:=3) (by decide) hx3.vok x21 (za0.okB_mono (by decide) (by decide) _ (hcs9 x21 (lM hx21)).1)))] [1,13,69,70,71] [(16,vb (za0.holds x.vals x21))] [] [] h fun a w h=>qW ?_
     rcases bN (za0.holds x.vals x21) with hc13 | hc32
     ·have hwt9:zdx ps x17.bits x.vals=true:=cnd_want hx21 hx17 hc13;rw [hc13] at h
      rcases bN (zdx ps x17.bits x.vals) with hc14 | hc31
      ·rw [hc14] at h;refine Jq 3 [(7,.add .i64 (m:=(qi:Int)) (n:=1) i6),(9,.len (za4 6 za0.d (zaf s ps p.states p.acts)))] [(5,vp 0 0),(7,vp 1 0),(8,vp 2 0),(10,vb false),(11,.t (.c (.d (.sl 6 ((zaf s ps p.states p.acts).map za0.d))))),(12,vN qi),(14,vb true),(16,vb true),(113,vb (((qi:Int)+1) == ((zaf s ps p.states p.acts).length:Int)))] [(0,.box [.d (.sl 1 (s.vars.map zdy)),.d (.sl 5 (s.bounds.map zaj.d)),.d (.raw (.int .i64 s.init.kind)),.d (.sl 3 (s.init.r.t.parts.map za3.d)),.d (.raw (.bool s.init.r.t.k.neg)),.d (nsl s.init.r.t.k.abs),.d (.raw (.bool s.init.r.eq)),.d (.sl 6 (s.init.kids.map za0.d)),.d (.sl 3 (s.procs.map zb9.d)),.d (.sl 10 (s.acts.map zap.d))]),(1,.box [.d (.sl 2 (p.states.map zcw.d)),.d (.sl 1 (p.acts.map zak))]),(2,.box [.d (.sl 1 (x.locs.map zak)),.d (.sl 2 (x.vals.map ziD))])] h fun a w h=>cS (((qi:Int)+1) == ((zaf s ps p.states p.acts).length:Int)) h (fun hc15=>?_) (fun hc16=>?_)
       ·refine Je 3 [] [14,113] [(10,vb (true == true))] h fun a w h=>qV (za5 (rT (.c (.d (.raw (.bool (true == true))))) h rfl ?_));rfl
       refine qU (za1 ?_);have hq19:qi+1<(zaf s ps p.states p.acts).length:=by have:=beq_eq_false_iff_ne.1 hc16;omega
       have hq29:qi+1<min p.states.length (p.acts.length+1):=by rw [<- zcu s ps p.states p.acts];exact hq19
       obtain ⟨g9,hg9⟩:∃ z_:za0,(zaf s ps p.states p.acts)[qi+1]?=some z_:=⟨_,b7 hq19⟩;obtain ⟨x23,hx23⟩:=gl p.acts qi;refine Jg 3 [(3,.g (xD 120 118 zjl (za7 hx23 (f:=zak)) (OV.tmp 119 _)))] [7,14,113] [(17,vI x23)] [1] [] h fun a w h=>qW ?_
       rcases bN (decide (x23<0)) with hc17 | hc18
       ·have hc17':=dT hc17;refine Je 3 [(4,.cmp (op:=.lss) (m:=x23) (n:=0) (b:=true) .i64 hc17)] [] [(134,vb true)] h fun a w h=>cS true h (fun _=>?_) nofun
        refine Je 3 [(4,.cmp (op:=.eql) (m:=x23) (n:=(-1)) (b:=true) .i64 (beq_iff_eq.2 (step_out hx21 hx17 hx23 hg9 hc13 (.inl (dT hc17)))))] [16,134] [(10,vb true)] h fun a w h=>qV (za5 (rT (.c (.d (.raw (.bool true)))) h rfl ?_));rfl
       have hc18':=dF hc18;refine Je 3 [(4,.cmp (op:=.lss) (m:=x23) (n:=0) (b:=false) .i64 hc18),(10,.len (za4 10 zap.d s.acts))] [] [(134,vb (decide (x23>=(s.acts.length:Int))))] h fun a w h=>zae (x23>=(s.acts.length:Int)) h (fun hc19 hc19'=>?_) (fun hc20 hc20'=>?_)
       ·refine Je 3 [(4,.cmp (op:=.eql) (m:=x23) (n:=(-1)) (b:=true) .i64 (beq_iff_eq.2 (step_out hx21 hx17 hx23 hg9 hc13 (.inr (dT hc19)))))] [16,134] [(10,vb true)] h fun a w h=>qV (za5 (rT (.c (.d (.raw (.bool true)))) h rfl ?_));rfl
       refine qU (za1 (qW ?_));obtain ⟨ka,hkka⟩:∃ k_:Nat,x23=(k_:Int):=⟨_,(cL (by have:=dF hc18;omega)).symm⟩;replace h:=cvM [] [(17,vN ka)] [] [] (by rw [hkka];kernel_rfl) h;obtain ⟨x24,hx24⟩:=gl s.acts ka;have lmv9:=(hs3.act x24 (lM hx24)).len;refine Jg 3 [(3,.g (xD 144 142 ki_1 (za7 hx24 (f:=zap.d)) (OV.tmp 143 _))),(6,.len (za4 5 zai.d x24.moves))] [16,134] [(146,.t (.c (.d (.sl 5 (x24.moves.map zai.d))))),(147,vN x24.moves.length),(148,vI 0)] [] [] h fun a w h=>qZ ?_
       refine zbx (ι:=(Nat)) (fun i=>i<=x24.moves.length/\(x24.moves.take i).all (fun m=>!m.any)=true)
         [10] (fun i=>[(148,vN i)])
         [] (fun i=>[])
         (fun i=>x24.moves.length - i) 0 ?_ h ?_
       ·exact ⟨bL _,rfl⟩
       clear h;rintro i a w hI h;obtain ⟨hM1,hM2⟩:=hI;refine Je 3 [] [] [(149,vb (decide ((i:Int)<(x24.moves.length:Int))))] h fun a w h=>qW (zae ((i:Int)<(x24.moves.length:Int)) h (fun hc21 hc21'=>?_) (fun hc24 hc24'=>?_))
       ·refine qU (za1 (qW (qZ ?_)));obtain ⟨x25,hx25⟩:=gl x24.moves i;refine Jg 3 [(0,.g (xD 150 146 ki_2 (za7 hx25 (f:=zai.d)) (OV.tmp 148 _)))] [149] [(19,vp 3 0)] [] [(3,.box [.d (.raw (.int .i64 x25.v)),.d (.raw (.bool x25.any)),.d (.sl 3 (x25.t.parts.map za3.d)),.d (.raw (.bool x25.t.k.neg)),.d (nsl x25.t.k.abs)])] h fun a w h=>Jg 4 [] [19] [(153,vb x25.any)] [3] [] h fun a w h=>cS x25.any h (fun hc22=>?_) (fun hc23=>?_)
        ·refine Je 4 [] [153] [(10,vb true)] h fun a w h=>qV (za9 (za5 (za5 (za9 (za5 (rT (.c (.d (.raw (.bool true)))) h rfl ?_))))));rfl
        refine qU (za6 (za1 (Jf 4 [(0,.j1 i)] [153] [(148,vI ((i:Int)+1))] h fun a w h=>za1 (zaa (x:=i) (y:=i+1) h ?_ ?_))))
        ·exact ⟨by have:=zac hx25;omega,zcm hx25 hM2 (by rw [hc23];rfl)⟩
        show x24.moves.length - (i+1)<x24.moves.length - i;have:=zac hx25;omega
       refine exA (qW (Je 4 [(3,.g (xD 158 156 ki_1 (za7 hx24 (f:=zap.d)) (OV.tmp 157 _)))] [146,147,148,149] [(20,vI x24.proc)] h fun a w h=>?_))
       rcases bN (decide (x24.proc<0)) with hc25 | hc26
       ·have hc25':=dT hc25;refine Je 4 [(1,.cmp (op:=.lss) (m:=x24.proc) (n:=0) (b:=true) .i64 hc25)] [20] [(183,vb true)] h fun a w h=>cS true h (fun _=>?_) nofun
        refine Je 4 [] [183] [(10,vb true)] h fun a w h=>qV (za5 (rT (.c (.d (.raw (.bool true)))) h rfl ?_));rfl
       have hc26':=dF hc26;obtain ⟨kp,hkkp⟩:∃ k_:Nat,x24.proc=(k_:Int):=⟨_,(cL (by have:=dF hc26;omega)).symm⟩;replace h:=cvM [] [(20,vN kp)] [] [] (by rw [hkkp];kernel_rfl) h
       rcases bN (decide ((kp:Int)>=(x.locs.length:Int))) with hc27 | hc28
       ·have hc27':=dT hc27;refine Jg 4 [(1,.cmp (op:=.lss) (m:=(kp:Int)) (n:=0) (b:=false) .i64 (show (decide ((kp:Int)<0))=false from by rw [<- hkkp];exact hc26)),(6,.len (za4 1 zak x.locs)),(7,.cmp (op:=.geq) (m:=(kp:Int)) (n:=(x.locs.length:Int)) (b:=true) .i64 hc27)] [20] [(183,vb true)] [] [] h fun a w h=>cS true h (fun _=>?_) nofun
        refine Je 4 [] [183] [(10,vb true)] h fun a w h=>qV (za5 (rT (.c (.d (.raw (.bool true)))) h rfl ?_));rfl
       have hc28':=dF hc28;obtain ⟨x26,hx26⟩:=gl x.locs kp;refine Jg 4 [(1,.cmp (op:=.lss) (m:=(kp:Int)) (n:=0) (b:=false) .i64 (show (decide ((kp:Int)<0))=false from by rw [<- hkkp];exact hc26)),(6,.len (za4 1 zak x.locs)),(7,.cmp (op:=.geq) (m:=(kp:Int)) (n:=(x.locs.length:Int)) (b:=false) .i64 hc28),(13,.g (xD 174 172 zjl (za7 hx26 (f:=zak)) (OV.tmp 173 _))),(18,.g (xD 179 177 ki_1 (za7 hx24 (f:=zap.d)) (OV.tmp 178 _)))] [20] [(183,vb (x26 != x24.from_))] [] [] h fun a w h=>cS (x26 != x24.from_) h (fun hc29=>?_) (fun hc30=>?_)
       ·refine Je 4 [] [183] [(10,vb true)] h fun a w h=>qV (za5 (rT (.c (.d (.raw (.bool true)))) h rfl ?_));rfl
       refine qU (za1 ?_);have hgo9:=step_go hs3.vars hc2 hx21 hx17 (show p.acts[qi]?=some (ka:Int) by rw [<- hkka];exact hx23) hg9 hc4 hc13 hx24 (fun m hm=>by have:=bV.1 (zd1 (dF hc24) hM2) m hm;simpa using this) hkkp hx26 (by have:=hc30;simpa using this);refine Jg 4 [(3,.call (Fn.cast (Fn.argw (SRGo s x (ka:Int) [] (L:=3) (M:=3) (by decide) hs3 hx3 (fun z hz=>(by cases hz)) (bL _)) (.cons _ _ _ _ (.refl _) (.cons _ _ _ _ (.refl _) (.cons _ _ _ _ (.refl _) (.cons _ _ _ _ (.c _ _ (.nil _)) .nil))))) (show (.tup [.agg [.d (.sl 1 ((goS s x (ka:Int) []).1.locs.map zak)),.d (.sl 2 ((goS s x (ka:Int) []).1.vals.map ziD))],.c (.d (.raw (.bool (goS s x (ka:Int) []).2)))]:V) = .tup [.agg [.d (.sl 1 ((goS s x (ka:Int) []).1.locs.map zak)),.d (.sl 2 ((goS s x (ka:Int) []).1.vals.map ziD))],.c (.d (.raw (.bool true)))] from by rw [hgo9.1])))] [5,8,17,183] [(21,vp 4 0),(22,vb true)] [0,2] [(4,.box [.d (.sl 1 ((goS s x (ka:Int) []).1.locs.map zak)),.d (.sl 2 ((goS s x (ka:Int) []).1.vals.map ziD))])] h fun a w h=>Jq 5 [(4,.add .i64 (m:=(qi:Int)) (n:=1) i6),(5,.g (xD 196 193 zgm ((za7 hg9 (f:=za0.d)).trans (congrArg some (za0.d_eq g9))) (OV.tmp 195 _))),(9,.call (Fn.cast (zg9 (goS s x (ka:Int) []).1.vals (M:=8) (by decide) (goS_ok (L:=3) (M:=3) hs3 hx3 (fun z hz=>by cases hz)).vok g9 (za0.okB_mono (by decide) (by decide) _ (hcs9 g9 (lM hg9)).1)) (congrArg vb hgo9.2)))] [(10,vb true)] [] h fun a w h=>qV (rT (.c (.d (.raw (.bool true)))) h rfl ?_);rfl
      rw [hc31] at h;refine Jq 5 [] [(5,vp 0 0),(7,vp 1 0),(8,vp 2 0),(10,vb false),(11,.t (.c (.d (.sl 6 ((zaf s ps p.states p.acts).map za0.d))))),(12,vN qi),(14,vb false),(16,vb true),(113,vb true)] [(0,.box [.d (.sl 1 (s.vars.map zdy)),.d (.sl 5 (s.bounds.map zaj.d)),.d (.raw (.int .i64 s.init.kind)),.d (.sl 3 (s.init.r.t.parts.map za3.d)),.d (.raw (.bool s.init.r.t.k.neg)),.d (nsl s.init.r.t.k.abs),.d (.raw (.bool s.init.r.eq)),.d (.sl 6 (s.init.kids.map za0.d)),.d (.sl 3 (s.procs.map zb9.d)),.d (.sl 10 (s.acts.map zap.d))]),(1,.box [.d (.sl 2 (p.states.map zcw.d)),.d (.sl 1 (p.acts.map zak))]),(2,.box [.d (.sl 1 (x.locs.map zak)),.d (.sl 2 (x.vals.map ziD))])] h fun a w h=>cS true h (fun _=>?_) nofun
      refine Je 5 [] [14,113] [(10,vb (true == false))] h fun a w h=>qV (za5 (rT (.c (.d (.raw (.bool (true == false))))) h rfl ?_));exact absurd hwt9 (by rw [hc31];exact Bool.noConfusion)
     rw [hc32] at h;refine Jq 5 [(7,.add .i64 (m:=(qi:Int)) (n:=1) i6),(9,.len (za4 6 za0.d (zaf s ps p.states p.acts)))] [(5,vp 0 0),(7,vp 1 0),(8,vp 2 0),(10,vb false),(11,.t (.c (.d (.sl 6 ((zaf s ps p.states p.acts).map za0.d))))),(12,vN qi),(14,vb (zdx ps x17.bits x.vals)),(16,vb false),(113,vb (((qi:Int)+1) == ((zaf s ps p.states p.acts).length:Int)))] [(0,.box [.d (.sl 1 (s.vars.map zdy)),.d (.sl 5 (s.bounds.map zaj.d)),.d (.raw (.int .i64 s.init.kind)),.d (.sl 3 (s.init.r.t.parts.map za3.d)),.d (.raw (.bool s.init.r.t.k.neg)),.d (nsl s.init.r.t.k.abs),.d (.raw (.bool s.init.r.eq)),.d (.sl 6 (s.init.kids.map za0.d)),.d (.sl 3 (s.procs.map zb9.d)),.d (.sl 10 (s.acts.map zap.d))]),(1,.box [.d (.sl 2 (p.states.map zcw.d)),.d (.sl 1 (p.acts.map zak))]),(2,.box [.d (.sl 1 (x.locs.map zak)),.d (.sl 2 (x.vals.map ziD))])] h fun a w h=>cS (((qi:Int)+1) == ((zaf s ps p.states p.acts).length:Int)) h (fun hc33=>?_) (fun hc34=>?_)
     ·refine Je 5 [] [14,113] [(10,vb (false == zdx ps x17.bits x.vals))] h fun a w h=>qV (za5 (rT (.c (.d (.raw (.bool (false == zdx ps x17.bits x.vals))))) h rfl ?_));have hz:(false == zdx ps x17.bits x.vals)=true:=by rw [<- cnd_end hx21 hx17 (by have:=beq_iff_eq.1 hc33;omega) x.vals,hc32];rfl
      rw [hz];try rfl
     refine qU (za1 ?_);have hq19:qi+1<(zaf s ps p.states p.acts).length:=by have:=beq_eq_false_iff_ne.1 hc34;omega
     have hq29:qi+1<min p.states.length (p.acts.length+1):=by rw [<- zcu s ps p.states p.acts];exact hq19
     obtain ⟨g9,hg9⟩:∃ z_:za0,(zaf s ps p.states p.acts)[qi+1]?=some z_:=⟨_,b7 hq19⟩;obtain ⟨x29,hx29⟩:=gl p.acts qi;refine Jg 5 [(3,.g (xD 120 118 zjl (za7 hx29 (f:=zak)) (OV.tmp 119 _)))] [7,14,113] [(17,vI x29)] [1] [] h fun a w h=>qW (Je 5 [] [] [(134,vb true)] h fun a w h=>cS true h (fun _=>?_) nofun);refine Je 5 [] [16,134] [(10,vb true)] h fun a w h=>qV (za5 (rT (.c (.d (.raw (.bool true)))) h rfl ?_));rfl
    refine Je 5 [(3,.call (Fn.cast (zjd s ps p hr hpl hsl hal hxl) (congrArg vb hc1))),(8,.call (Fn.cast (zje s ps hs3 hw9 hps) (congrArg vb hc2))),(13,.call (Fn.cast (SFewSt x 2 hxr) (congrArg vb hc3))),(19,.call (Fn.cast (SRFits s x (L:=3) (M:=3) (by decide) hs3 ((few_st hc3 hxr).mono (by decide))) (congrArg vb hc35)))] [24] [(52,vb true)] h fun a w h=>cS true h (fun _=>?_) nofun
    refine Je 5 [] [52] [(10,vb true)] h fun a w h=>qV (za5 (rT (.c (.d (.raw (.bool true)))) h rfl ?_));rfl
   refine Je 5 [(3,.call (Fn.cast (zjd s ps p hr hpl hsl hal hxl) (congrArg vb hc1))),(8,.call (Fn.cast (zje s ps hs3 hw9 hps) (congrArg vb hc2))),(13,.call (Fn.cast (SFewSt x 2 hxr) (congrArg vb hc36)))] [24] [(52,vb true)] h fun a w h=>cS true h (fun _=>?_) nofun
   refine Je 5 [] [52] [(10,vb true)] h fun a w h=>qV (za5 (rT (.c (.d (.raw (.bool true)))) h rfl ?_));rfl
  refine Je 5 [(3,.call (Fn.cast (zjd s ps p hr hpl hsl hal hxl) (congrArg vb hc1))),(8,.call (Fn.cast (zje s ps hs3 hw9 hps) (congrArg vb hc37)))] [24] [(52,vb true)] h fun a w h=>cS true h (fun _=>?_) nofun
  refine Je 5 [] [52] [(10,vb true)] h fun a w h=>qV (za5 (rT (.c (.d (.raw (.bool true)))) h rfl ?_));rfl
 refine Je 5 [(3,.call (Fn.cast (zjd s ps p hr hpl hsl hal hxl) (congrArg vb hc38)))] [24] [(52,vb true)] h fun a w h=>cS true h (fun _=>?_) nofun
 refine Je 5 [] [52] [(10,vb true)] h fun a w h=>qV (za5 (rT (.c (.d (.raw (.bool true)))) h rfl ?_));rfl
section
variable {w:World} {n:Nat}
theorem rep_Abs:zf4 w n 69 zcw.d (fun a=>a.locs.length<=maxLen/\a.bits.length<=maxLen) :=
 ((zbq (n:=n) Tryz.underlying69 (by kernel_rfl) (.cons (k0:=1) rfl (by kernel_rfl) rep_ints (.cons (k0:=1) rfl (by kernel_rfl) rep_bools .nil))).map (fun p=>⟨p.1,p.2.1⟩) (fun _=>rfl) fun _ h=>⟨h.1.1,h.2.1.1⟩).mono (c7 n)
end
section
variable {w:World} {n:Nat}
theorem rep_AbsS:zf4 w n 41 (slD 2 zcw.d) (fun xs=>xs.length<=maxLen/\∀ x ∈ xs,x.locs.length<=maxLen/\x.bits.length<=maxLen) :=
 zc6 (k:=2) Tryz.underlying41 (by kernel_rfl) (by decide) (fun _=>rfl) rep_Abs
theorem rep_Path:zf4 w n 44 zdw.d (fun p=>(p.states.length<=maxLen/\∀ x ∈ p.states,x.locs.length<=maxLen/\x.bits.length<=maxLen)/\p.acts.length<=maxLen) :=
 ((zbq (n:=n) Tryz.underlying44 (by kernel_rfl) (.cons (k0:=1) rfl (by kernel_rfl) rep_AbsS (.cons (k0:=1) rfl (by kernel_rfl) rep_ints .nil))).map (fun p=>⟨p.1,p.2.1⟩) (fun _=>rfl) fun _ h=>⟨h.1,h.2.1.1⟩).mono (c7 n)
end
theorem max_le9 {a:Nat} (h:a<=maxLen):a<=9223372036854775807:=bS h (by decide)
theorem SRefineStepsW (s:zam) (ps:List za8) (p:zdw) (x:StD) (at_:Int) (hs:SysRd s) (hq:ps.length<=maxLen/\∀ r ∈ ps,TLb r.t) (hp:(p.states.length<=maxLen/\∀ x ∈ p.states,x.locs.length<=maxLen/\x.bits.length<=maxLen)/\p.acts.length<=maxLen) (hx:StRd x):Fn Tryz.prog 4 [] [vd (zam.d s),(vRs ps),vd (zdw.d p),vd (StD.d x),vi .i64 at_] (vb true) [] :=
 LRefineSteps s ps p x at_ hs (max_le9 hq.1) hq.2 (max_le9 hp.1.1) (max_le9 hp.2) (fun x hx=>⟨max_le9 (hp.1.2 x hx).1,max_le9 (hp.1.2 x hx).2⟩) hx
end S
end Go.Proofs.YtlcijejaplagbaaGreat
section
namespace Go.Proofs.YtlcijejaplagbaaGreat.refineStepsDone
open Go.ChangeShapes Go.WideShapes Go.ChangeAt Go.RowKit
open Go.ChangeMaps (open_string shut_string)
open Go.Proofs.YtlcijejaplagbaaGreat.S

theorem own:ownKnob Tryz.prog.godebug=none:=by kernel_rfl
theorem laidOut:laidOutB Tryz.prog=true:=by kernel_rfl

theorem lifted (os:Os) (started:os.Started) (H:Type) (enc:TypeId × Value->H) :
  ReturnsInHanded {} Tryz.checked os 4 .any (Rows.refineStepsSpec.pre6 enc Tryz.prog Tryz.f4 Rows.refineStepsRow.domain false) (Rows.refineStepsSpec.post enc Tryz.prog Tryz.f4 false true false false):=by
 refine returnsInHanded_of_change (C:=Tryz.checked) own started (by kernel_rfl) Tryz.func4
  (ChangeSpec.witness6 (enc:=enc) (C:=Tryz.checked) false ⟨#[],#[.agg #[.slice none 0 0,.slice none 0 0,.int .i64 0,.slice none 0 0,.bool false,.slice none 0 0,.bool false,.slice none 0 0,.slice none 0 0,.slice none 0 0],.slice none 0 0,.agg #[.slice none 0 0,.slice none 0 0],.agg #[.slice none 0 0,.slice none 0 0],.int .i64 0],[]⟩ 12 (by kernel_rfl) (by kernel_rfl) (by kernel_rfl) (by kernel_rfl)) ?_
 intro W base args ds gs before hval0 hW hcnd _
 have hval:∀ (j:Nat) t v,Tryz.f4.params[j]?=some t->args[j]?=some v->Value.okWide Tryz.prog W .any base t v:=hval0
 have hW':=hW
 obtain ⟨p,q,hA0,hV,rfl,hfz,hnd⟩:=hW
 have hA:DataW.TrodAll enc Tryz.prog W 0 (fun _=>true) true Tryz.f4.params.toList args.toList ds p:=hA0
 rw [Tryz.params4] at hA hval
 obtain ⟨v0,vs0,d0,ds0,p0,q0,hargs,rfl,rfl,h0,r0⟩:=trodAll_cons hA
 obtain ⟨v1,vs1,d1,ds1,p1,q1,rfl,rfl,rfl,h1,r1⟩:=trodAll_cons r0
 obtain ⟨v2,vs2,d2,ds2,p2,q2,rfl,rfl,rfl,h2,r2⟩:=trodAll_cons r1
 obtain ⟨v3,vs3,d3,ds3,p3,q3,rfl,rfl,rfl,h3,r3⟩:=trodAll_cons r2
 obtain ⟨v4,vs4,d4,ds4,p4,q4,rfl,rfl,rfl,h4,r4⟩:=trodAll_cons r3
 obtain ⟨rfl,rfl,rfl⟩:=trodAll_nil r4
 obtain rfl:args=#[v0,v1,v2,v3,v4]:=by cases args;simp_all
 obtain ⟨rfl,rfl⟩:=trodVars_none hV
 have k0:=h0
 have lt0:∀ x ∈ p0,x.block<W.heap.size:=by obtain ⟨m,hm⟩:=k0;exact DataW.trod_lt m _ _ _ hm
 obtain ⟨a0,cs0,g0,rfl,dr0⟩:=rep_agg Tryz.underlying39 (fun _=>rep_Sys) (hval 0 39 v0 rfl rfl) h0
 have k1:=h1
 have lt1:∀ x ∈ p1,x.block<W.heap.size:=by obtain ⟨m,hm⟩:=k1;exact DataW.trod_lt m _ _ _ hm
 obtain ⟨a1,ao1,len1,cap1,g1,rfl,dr1⟩:=rep_one Tryz.underlying40 (fun _=>rep_RelsL) (hval 1 40 v1 rfl rfl) h1
 have k2:=h2
 have lt2:∀ x ∈ p2,x.block<W.heap.size:=by obtain ⟨m,hm⟩:=k2;exact DataW.trod_lt m _ _ _ hm
 obtain ⟨a2,cs2,g2,rfl,dr2⟩:=rep_agg Tryz.underlying44 (fun _=>rep_Path) (hval 2 44 v2 rfl rfl) h2
 have k3:=h3
 have lt3:∀ x ∈ p3,x.block<W.heap.size:=by obtain ⟨m,hm⟩:=k3;exact DataW.trod_lt m _ _ _ hm
 obtain ⟨a3,cs3,g3,rfl,dr3⟩:=rep_agg Tryz.underlying54 (fun _=>rep_State) (hval 3 54 v3 rfl rfl) h3
 obtain ⟨a4,rfl,rfl,rfl,g40⟩:=open_int Tryz.underlying3 (hval 4 3 v4 rfl rfl) h4
 have g4:-9223372036854775808<=a4/\a4<=9223372036854775807:=by have:=bounds_i64 g40;omega
 clear hA0 hval0
 refine ((SRefineStepsW a0 a1 a2 a3 a4 g0 g1 g2 g3).calls (w:=W) (vals:=[.agg ⟨cs0⟩,.slice ao1 len1 cap1,.agg ⟨cs2⟩,.agg ⟨cs3⟩,.int .i64 a4]) fun B=>⟨dr_vd dr0 B,dr1,dr_vd dr2 B,dr_vd dr3 B,DR.raw _ rfl,trivial⟩).mono fun e W' ⟨he,bel⟩=>?_
 subst he
 exact ⟨_,rfl,_,_,_,[],_,[],hW', trodAll_mk1 (shut_bool Tryz.underlying4 _),(trodAll_cons_mk (Below.trod laidOut (by kernel_rfl) (of_decide_eq_true (by kernel_rfl)) k0 bel lt0) (trodAll_cons_mk (Below.trod laidOut (by kernel_rfl) (of_decide_eq_true (by kernel_rfl)) k1 bel lt1) (trodAll_cons_mk (Below.trod laidOut (by kernel_rfl) (of_decide_eq_true (by kernel_rfl)) k2 bel lt2) (trodAll_cons_mk (Below.trod laidOut (by kernel_rfl) (of_decide_eq_true (by kernel_rfl)) k3 bel lt3) (trodAll_cons_mk (shut_int Tryz.underlying3 g40) trodAll_mk0))))),rfl,bel.below.frame _,fun h=>by cases h⟩

theorem over:Rows.refineStepsRow.holds Tryz.pinned (OpenSpec.ofChange Rows.refineStepsSpec) :=
 OpenClaim.holds_of_wide 4 Tryz.f4 rfl rfl rfl rfl rfl rfl rfl ⟨rfl,rfl,rfl,rfl,rfl⟩ rfl rfl rfl rfl rfl (by kernel_rfl) Tryz.func4 (by kernel_rfl)
  (of_decide_eq_true (by kernel_rfl)) (by unfold Func.isWrapper;first | (rw [if_pos (by decide +kernel)];kernel_rfl) | (rw [if_neg (by decide +kernel)];exact ⟨rfl,rfl⟩))
  (fun os started H enc _=>lifted os started H enc)

theorem proved:Rows.RefineStepsSaid:=over
end Go.Proofs.YtlcijejaplagbaaGreat.refineStepsDone
end
