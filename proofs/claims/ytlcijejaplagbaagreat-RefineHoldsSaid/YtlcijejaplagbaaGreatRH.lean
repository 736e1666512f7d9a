/-
  The proof of the statement RefineHolds. It holds for every input.
-/
import Derived.Test.YtlcijejaplagbaaGreatRH6
import Derived.Test.YtlcijejaplagbaaGreatRH5
import Derived.Test.YtlcijejaplagbaaGreatRows
import Derived.SizedLaws
import Derived.Test.YtlcijejaplagbaaGreatRH2
set_option maxRecDepth 100000
set_option maxHeartbeats 20000000
open Go.RowKit
open List renaming mem_singleton->bC,getElem?_eq_getElem->bE,mem_cons->bI,length_append->bJ,all_cons->bK,mem_of_getElem?->bL,mem_cons_self->bN,mem_map->bP,mem_append_left->bS,mem_append_right->bU,mem_cons_of_mem->bW,take_of_length_le->bX
open Bool renaming and_eq_true->bF,eq_false_or_eq_true->bG,and_true->bV
namespace Go.Proofs.YtlcijejaplagbaaGreat
namespace S
variable {m:Nat} {s:zan} {ps:List za9}
theorem pick_bel {vs:List Int} {bys:List zaf} (hb:∀ b ∈ bys,Bel m b) {v:Int} (hv:v<(m:Int)):Bel m (pickT vs bys v):=by
 unfold pickT
 split
 ·rename_i b h
  split
  ·exact bel_var hv
  ·exact hb b (bL h)
 ·exact bel_var hv
theorem put_bel {t:zaf} {vs:List Int} {bys:List zaf} (ht:Bel m t) (hb:∀ b ∈ bys,Bel m b):Bel m (putZ t vs bys):=by
 have hp:=zay t
 have key:∀ (l:List za4) (out:zaf),(∀ p ∈ l,p ∈ (za2 t).parts)->Bel m out->Bel m (l.foldl (zcf vs bys) out):=fun l=>by
  induction l with
  | nil=>intro out _ h;exact h
  | cons p l ih =>
   intro out hl h
   rw [List.foldl_cons]
   refine ih _ (fun q hq=>hl q (bW _ hq)) (bel_add h (zhm (pick_bel hb ?_) _))
   have h1:=hl p (bN ..)
   obtain ⟨h2,_,h3⟩:=hp.2.1 p h1
   have h4:=zkr hp.1 p h1 h2
   rcases Int.lt_or_le p.v (m:Int) with h5 | h5
   ·exact h5
   ·exfalso
    have:=ht p.v h5
    rw [<- hp.2.2 p.v,h4] at this
    exact h3 this
 exact key _ _ (fun p hp=>hp) (zkw m t.k)
theorem forg_bel (vs:List Int) (f:za0):zd3 m f->zd3 m (f.forg vs) :=
 za0.ind (P:=fun f=>zd3 m f->zd3 m (f.forg vs)) (fun k r ks ih hf=>by
  have hf2:=(zdn m _).1 hf
  rw [za0.forg_eq]
  show zd3 m (forgK vs k r ks (ks.map (za0.forg vs)))
  unfold forgK
  split
  ·split
   ·exact zek m true
   ·exact hf
  ·rename_i e
   rw [zdn]
   refine ⟨fun e2=>absurd e2 e,fun g hg=>?_⟩
   change g ∈ cnt k (ks.map (za0.forg vs)) at hg
   rw [zd0] at hg
   obtain ⟨q,hq,rfl⟩:=bP.1 hg
   exact ih q (zb9 hq) (hf2.2 q hq)) f
theorem preB_bel {n:Nat} {c:zas} (hm:∀ m ∈ c.moves,Bel n m.t):∀ b ∈ zd9 c n,Bel n b:=ze0 fun v hv b hb=>by
 unfold zd4 at hb
 cases e:ziu c v with
 | none =>
  rw [e] at hb
  change b ∈ [zh3 (v:Int)] at hb
  rw [bC.1 hb];exact bel_var (by omega)
 | some q =>
  rw [e] at hb
  have hq:q ∈ c.moves:=by unfold ziu at e;exact List.mem_of_find?_eq_some e
  cases ha:q.any with
  | true=>simp [ha] at hb
  | false =>
   simp [ha] at hb
   rw [hb];exact zdg (hm q hq)
theorem pre_bel (hp:ProS s) (act:Int) {f:za0} (hf:zd3 s.vars.length f):zd3 s.vars.length (preF s act f):=by
 obtain ⟨hg,hm⟩:=snd_pro hp act
 unfold preF
 split
 ·exact zfz fun g hx=>by rw [bC.1 hx];exact hf
 ·split
  ·refine zfz fun g hx=>?_
   rcases bI.1 hx with rfl | hx
   ·exact canF_bel hg hm
   ·rw [bC.1 hx]
    exact belF_each (t:=zbu (zck (zac s act).1 s.vars.length) (zd9 (zac s act).1 s.vars.length)) (fun r hr=>put_bel (t:=(cpR r).t) (zdg hr) (preB_bel hm)) _ (forg_bel _ _ (belF_flat f hf false))
  ·exact zek _ _
theorem at0_bel (hv:s.vars.length<=8) (hm:m<=1000000) (f:za0) (h:zd3 m f):zd3 m (atF s f 0):=by
 have:=at_bel (s:=s) (k:=0) hv (by decide) (Nat.le_trans hm (by decide)) f h
 rw [Nat.zero_mul,Nat.add_zero] at this;exact this
theorem cube_bel (hps:∀ r ∈ ps,Bel m r.t) (bs:List Bool):zd3 m (zb1 ps bs):=zfz fun g hg=>by
 obtain ⟨r,b,hr,rfl⟩:=cube_lits hg
 unfold litF
 split
 ·exact zhn (hps r hr)
 ·exact belF_deny (zhn (hps r hr))
theorem cnd_bel (hv:s.vars.length<=8) (hp:ProS s) (hps:∀ r ∈ ps,Bel s.vars.length r.t):∀ (xs:List zbz) (cs:List Int),∀ f ∈ zag s ps xs cs,zd3 s.vars.length f
 | [],_,f,hf=>by simp [zag] at hf
 | [x],_,f,hf=>by rw [zag] at hf;rw [bC.1 hf];exact zfz fun g hg=>by rw [bC.1 hg];exact cube_bel hps _
 | x :: y :: ys,[],f,hf=>by rw [zag] at hf;rw [bC.1 hf];exact zfz fun g hg=>by rw [bC.1 hg];exact cube_bel hps _
 | x :: y :: ys,c :: cs,f,hf=>by
  have ih:=cnd_bel hv hp hps (y :: ys) cs
  rw [zag] at hf
  rcases bI.1 hf with rfl | hf
  ·have hg:zd3 s.vars.length ((zag s ps (y :: ys) cs).headD (zcs false)):=by
    cases e:zag s ps (y :: ys) cs with
    | nil=>exact zek _ _
    | cons q l=>exact ih q (by rw [e];exact bN ..)
   refine zfz fun g hx=>?_
   rcases bI.1 hx with rfl | hx
   ·exact cube_bel hps _
   ·unfold zb3 at hx
    split at hx
    ·rcases bI.1 hx with rfl | hx
     ·exact at0_bel hv (by omega) _ (stk_bel hp _)
     ·rw [bC.1 hx];exact hg
    ·rw [bC.1 hx];exact pre_bel hp c hg
  ·exact ih f hf
theorem atE_bel {r:za9} (h:zd3 m (atE r)):Bel m r.t:=((zdn _ _).1 h).1 rfl
theorem pr24_pro (h:pr24 s ps=true):ProS s/\∀ r ∈ ps,Bel s.vars.length r.t:=by
 unfold pr24 at h
 rw [List.all_eq_true] at h
 have hA:∀ f ∈ fsA s ps ps.length,zd3 s.vars.length f:=fun f hf=>in_bel (h f (bS _ hf))
 have hG:∀ c ∈ s.acts,∀ f ∈ fsG c c.moves.length,zd3 s.vars.length f:=fun c hc f hf=>in_bel (h f (bU _ (List.mem_flatMap.2 ⟨c,hc,hf⟩)))
 refine ⟨⟨hA _ (bS _ (bC.2 rfl)),fun c hc=>⟨hG c hc _ (bN ..),fun m hm=>?_⟩⟩,fun r hr=>?_⟩
 ·exact atE_bel (r:=⟨m.t,false⟩) (hG c hc _ (bW _ (by rw [bX (Nat.le_refl _)];exact bP.2 ⟨m,hm,rfl⟩)))
 ·exact atE_bel (hA _ (bU _ (by rw [bX (Nat.le_refl _)];exact bP.2 ⟨r,hr,rfl⟩)))
theorem cmpL_eq {α:Type} {c:α->α->Int} (h:∀ x y,c x y=0->x=y):∀ xs ys:List α,cmpL c xs ys=0->xs=ys
 | [],[],_=>rfl
 | [],_ :: _,e=>by cases e
 | _ :: _,[],e=>by cases e
 | x :: xs,y :: ys,e=>by
  unfold cmpL at e
  by_cases h0:c x y=0
  ·rw [if_neg (fun h=>h h0)] at e;rw [h x y h0,cmpL_eq h xs ys e]
  ·rw [if_pos h0] at e;exact absurd e h0
theorem cmpZ_eq0 {x y:Int} (h:zbo x y=0):x=y:=by unfold zbo at h;split at h;cases h;split at h;cases h;omega
theorem cmpBl_eq0 {p q:Bool} (h:cmpBl p q=0):p=q:=by cases p <;> cases q <;> first | rfl | exact absurd h (by decide)
theorem cmpA_eq0 {x y:zbz} (h:zfo x y=0):x=y:=by
 unfold zfo at h
 by_cases h0:cmpL zbo x.locs y.locs=0
 ·rw [orZ2_r _ _ h0] at h
  cases x;cases y
  rw [zbz.mk.injEq]
  exact ⟨cmpL_eq (fun _ _=>cmpZ_eq0) _ _ h0,cmpL_eq (fun _ _=>cmpBl_eq0) _ _ h⟩
 ·rw [orZ2_l _ _ h0] at h;exact absurd h h0
theorem nxt_plc {r:zib} (h0:0<r.cycle.length) (i:Nat):nxt r (zel r i)=zao r (zel r (i+1)):=by
 have hl:(r.stem++r.cycle).length=r.stem.length+r.cycle.length:=bJ ..
 have hz:(r.cycle[0]?).getD st0=((r.stem++r.cycle)[r.stem.length]?).getD st0:=by rw [List.getElem?_append_right (Nat.le_refl _),Nat.sub_self]
 unfold nxt zao zel
 rw [hl]
 by_cases h1:i<r.stem.length
 ·rw [if_pos h1]
  by_cases h2:i+1<r.stem.length
  ·rw [if_pos h2,if_pos (show i+1<r.stem.length+r.cycle.length by omega)]
  ·rw [if_neg h2,if_pos (show i+1<r.stem.length+r.cycle.length by omega),show i+1 - r.stem.length=0 by omega,Nat.zero_mod,show i+1=r.stem.length+0 by omega]
 ·rw [if_neg h1,if_neg (show ¬ i+1<r.stem.length by omega)]
  have hm:=Nat.mod_lt (i - r.stem.length) h0
  have e:i+1 - r.stem.length=(i - r.stem.length)+1:=by omega
  by_cases h2:(i - r.stem.length) % r.cycle.length+1<r.cycle.length
  ·rw [if_pos (show r.stem.length+(i - r.stem.length) % r.cycle.length+1<r.stem.length+r.cycle.length by omega),e,Nat.add_mod,Nat.mod_eq_of_lt (show 1<r.cycle.length by omega),Nat.mod_eq_of_lt h2,Nat.add_assoc]
  ·rw [if_neg (show ¬ r.stem.length+(i - r.stem.length) % r.cycle.length+1<r.stem.length+r.cycle.length by omega),hz,e]
   have e2:(i - r.stem.length+1) % r.cycle.length=0:=by
    have h3:(i - r.stem.length) % r.cycle.length+1=r.cycle.length:=by omega
    have h4:=Nat.div_add_mod (i - r.stem.length) r.cycle.length
    have h5:i - r.stem.length+1=r.cycle.length*((i - r.stem.length) / r.cycle.length+1):=by rw [Nat.mul_add,Nat.mul_one];omega
    rw [h5];exact Nat.mul_mod_right _ _
   rw [e2,Nat.add_zero]
theorem at0_stuck (hp:ProS s) (hv:s.vars.length<=8) {x:StD} (hf:zd2 s x=true):(atF s (zj8 s x.locs) 0).holds x.vals=ziq s x:=by
 have:=cans_stuck hp hv (x:=x) (y:=⟨[],[]⟩) (k:=0) (by decide) hf
 unfold bothV at this
 rw [Nat.zero_mul] at this
 simpa using this
theorem cnd_holds (ps:List za9) (x:zbz) (tl:List za0) (vs:List ZI):(cndF ps x tl).holds vs=(wantA ps x.bits vs && tl.all (za0.holds vs)):=by
 unfold cndF;rw [zfh,bK,cube_holds]
theorem along_holds (hv:s.vars.length<=8) (hpr:pr24 s ps=true) {p:zdu} {r:zib} (h0:0<r.cycle.length) (hr:right s r=true) (ha:alB ps p r=true):∀ (n i:Nat) (f:za0),i+n+1=min p.states.length (p.acts.length+1)->(zag s ps p.states p.acts)[i]?=some f->f.holds (zao r (zel r i)).vals=true:=by
 obtain ⟨hp,hpb⟩:=pr24_pro hpr
 have hcb:=cnd_bel hv hp hpb p.states p.acts
 have hal:∀ i x,p.states[i]?=some x->ofA ps (zao r (zel r i))=x/\(∀ c,i+1<p.states.length->p.acts[i]?=some c->(r.acts[zel r i]?)=some c):=fun i x hx=>by
  have h1:alC ps p r i=true:=zd5.1 ha i (zab hx)
  unfold alC at h1
  rw [hx] at h1
  have h1:=(bF _ _ ▸ h1:_/\_)
  refine ⟨cmpA_eq0 (beq_iff_eq.1 h1.1),fun c hi hc=>?_⟩
  have h2:=h1.2
  rw [if_pos ⟨hi,zab hc⟩] at h2
  have h2:=(bF _ _ ▸ h2:_/\_)
  have h3:=of_decide_eq_true h2.1
  have h4:=beq_iff_eq.1 h2.2
  rw [hc,bE h3] at h4
  rw [bE h3]
  exact yJ some h4
 have hst:∀ i,zj9 s r (zel r i)=true:=fun i=>by
  unfold right at hr
  simp only [bF] at hr
  refine zd5.1 hr.2.2 _ ?_
  rw [bJ];exact plcR_lt h0 i
 intro n
 induction n with
 | zero =>
  intro i f hi hf
  obtain ⟨x,hx⟩:∃ x,p.states[i]?=some x:=⟨_,bE (by omega)⟩
  rw [cnd_last s ps p.states p.acts hx (by omega)] at hf
  injection hf with hf;subst hf
  rw [cnd_holds,<- (hal i x hx).1]
  show (wantA ps (ps.map (zax (zao r (zel r i)).vals)) (zao r (zel r i)).vals && true)=true
  rw [want_own];rfl
 | succ n ih =>
  intro i f hi hf
  obtain ⟨x,hx⟩:∃ x,p.states[i]?=some x:=⟨_,bE (by omega)⟩
  obtain ⟨c,hc⟩:∃ c,p.acts[i]?=some c:=⟨_,bE (by omega)⟩
  obtain ⟨g,hg⟩:∃ g,(zag s ps p.states p.acts)[i+1]?=some g:=⟨_,bE (by rw [zed];omega)⟩
  rw [cnd_mid s ps p.states p.acts hx hc hg] at hf
  injection hf with hf;subst hf
  have hgh:=ih (i+1) g (by omega) hg
  have hgb:=hcb g (bL hg)
  obtain ⟨e1,e2⟩:=hal i x hx
  have e3:=e2 c (by omega) hc
  have hl:ze4 s (zao r (zel r i)) c (zao r (zel r (i+1)))=true:=by
   have:=hst i
   unfold zj9 at this
   rw [e3,nxt_plc h0 i] at this
   exact this
  have hpre:=lead_pre hp hgb c hl hgh
  rw [cnd_holds,<- e1]
  have hw:wantA ps (ofA ps (zao r (zel r i))).bits (zao r (zel r i)).vals=true:=want_own ps _
  rw [hw,Bool.true_and]
  unfold zb3
  split
  ·rename_i ec
   subst ec
   rw [pre_self] at hpre
   unfold ze4 at hl
   rw [if_pos rfl,bF] at hl
   have hfs:zd2 s (zao r (zel r i))=true:=by
    have h1:=hl.1
    unfold ziq at h1
    rw [bF] at h1;exact h1.2
   rw [bK,bK,List.all_nil,bV,hpre,bV]
   show (atF s (zj8 s (zao r (zel r i)).locs) 0).holds _=true
   rw [at0_stuck hp hv hfs,hl.1]
  ·rw [bK,List.all_nil,bV];exact hpre
theorem along_all (hv:s.vars.length<=8) (hpr:pr24 s ps=true) {p:zdu} {r:zib} (h0:0<r.cycle.length) (hr:right s r=true) (ha:alB ps p r=true) {i:Nat} {f:za0} (hf:(zag s ps p.states p.acts)[i]?=some f):f.holds (zao r (zel r i)).vals=true:=by
 have h1:=zab hf
 rw [zed] at h1
 exact along_holds hv hpr h0 hr ha (min p.states.length (p.acts.length+1) - 1 - i) i f (by omega) hf
structure RunRd9 (r:zib):Prop where
  stem:∀ x ∈ r.stem,StRd x
  cycle:∀ x ∈ r.cycle,StRd x
  len:r.stem.length+r.cycle.length<=9223372036854775807
  acts:r.acts.length<=9223372036854775807
theorem RunRd9.at9 {r:zib} (h:RunRd9 r) (i:Nat):StRd (zao r i):=by
 unfold zao
 cases e:(r.stem++r.cycle)[i]? with
 | none=>exact ⟨(fun z hz=>by cases hz),Nat.zero_le _⟩
 | some x=>exact (List.mem_append.1 (bL e)).elim (h.stem x) (h.cycle x)
theorem run_ok9 {r:zib} (hr:RunRd9 r) (hl:r.stem.length+r.cycle.length<=10) (h:zg8 (r.stem.length+r.cycle.length) (fun i=>zig 2 (zao r i))=true):RunOk 2 r:=by
 have key:∀ x ∈ r.stem++r.cycle,zhp 2 x:=fun x hx=>by
  obtain ⟨i,hi,e⟩:=List.mem_iff_getElem.1 hx
  rw [bJ] at hi
  have h1:=zd5.1 h i hi
  have h2:zao r i=x:=by unfold zao;rw [bE (by rw [bJ];exact hi),e];rfl
  have h3:=hr.at9 i
  rw [h2] at h1 h3
  exact few_st h1 h3
 exact ⟨by omega,fun x hx=>key x (bS _ hx),fun x hx=>key x (bU _ hx)⟩
theorem LRefineHolds (s:zan) (ps:List za9) (p:zdu) (r:zib) (hr:SysRd s) (hpl:ps.length<=9223372036854775807) (htl:∀ r ∈ ps,TLb r.t) (hsl:p.states.length<=9223372036854775807) (hal:p.acts.length<=9223372036854775807) (hxl:∀ x ∈ p.states,x.locs.length<=9223372036854775807/\x.bits.length<=9223372036854775807) (hrr:RunRd9 r):Fn Tryz.prog 3 [] [vG [.d (.sl 1 (s.vars.map zer)),.d (.sl 5 (s.bounds.map zak.d)),cI s.init.kind,cPs s.init.r.t.parts,cB s.init.r.t.k.neg,.d (nsl s.init.r.t.k.abs),cB s.init.r.eq,cFs s.init.kids,.d (.sl 3 (s.procs.map zbj.d)),.d (.sl 10 (s.acts.map zas.d))],(vRs ps),vG [.d (.sl 2 (p.states.map zbz.d)),cIs p.acts],vG [.d (.sl 2 (r.stem.map StD.d)),.d (.sl 2 (r.cycle.map StD.d)),cIs r.acts]] (vb true) []:=by
 have hrl9:=hrr.len;have hra9:=hrr.acts;refine fB Tryz.func3 rfl 108 fun w H B a h=>Jq 0 [] [(1,(vRs ps)),(4,vp 0 0),(6,vp 1 0),(7,vp 2 0),(8,vb false)] [(0,.box [.d (.sl 1 (s.vars.map zer)),.d (.sl 5 (s.bounds.map zak.d)),cI s.init.kind,cPs s.init.r.t.parts,cB s.init.r.t.k.neg,.d (nsl s.init.r.t.k.abs),cB s.init.r.eq,cFs s.init.kids,.d (.sl 3 (s.procs.map zbj.d)),.d (.sl 10 (s.acts.map zas.d))]),(1,.box [.d (.sl 2 (p.states.map zbz.d)),cIs p.acts]),(2,.box [.d (.sl 2 (r.stem.map StD.d)),.d (.sl 2 (r.cycle.map StD.d)),cIs r.acts])] h fun a w h=>qW (Je 3 [(0,.call (LAlive24))] [] [(14,vb false)] h fun a w h=>zau h (qU (za1 (qW ?_))))
 rcases bG (sm24 s ps p) with hc1 | hc20
 ·obtain ⟨hs3,hw9,hps,hsl9,hal9,hpx⟩:=sm24_ok hc1 hr htl;have hcs9:∀ f ∈ (zag s ps p.states p.acts),f.okB 32400000 490/\f.nodes<=1536000:=fun f hf=>zks hs3 hw9 hps p.acts hsl9 hf
  have hcl9:(zag s ps p.states p.acts).length<=5:=by rw [zed];omega
  have hnl9:=newT_len s ps p;have lps9:=hps.1;have hnk9:=newT_ok hs3 hw9 hps hsl9
  rcases bG (pr24 s ps) with hc2 | hc19
  ·rcases bG (decide (((r.stem.length:Int)+(r.cycle.length:Int))>10)) with hc3 | hc4
   ·have hc3':=dT hc3;refine Je 3 [(3,.call (Fn.cast (zk1 s ps p hr hpl hsl hal hxl) (yJ vb hc1))),(8,.call (Fn.cast (zk2 s ps hs3 hw9 hps) (yJ vb hc2))),(14,.len (za3 2 StD.d r.stem)),(17,.len (za3 2 StD.d r.cycle)),(18,.add .i64 (m:=(r.stem.length:Int)) (n:=(r.cycle.length:Int)) i6),(19,.cmp (op:=.gtr) (m:=((r.stem.length:Int)+(r.cycle.length:Int))) (n:=10) (b:=true) .i64 hc3)] [14] [(47,vb true)] h fun a w h=>cS true h (fun _=>?_) nofun
    refine Je 3 [] [47] [(8,vb true)] h fun a w h=>qV (za5 (rT (.c (cB true)) h rfl ?_));rfl
   have hc4':=dF hc4
   rcases bG (decide ((r.acts.length:Int)>20)) with hc5 | hc6
   ·have hc5':=dT hc5;refine Je 3 [(3,.call (Fn.cast (zk1 s ps p hr hpl hsl hal hxl) (yJ vb hc1))),(8,.call (Fn.cast (zk2 s ps hs3 hw9 hps) (yJ vb hc2))),(14,.len (za3 2 StD.d r.stem)),(17,.len (za3 2 StD.d r.cycle)),(18,.add .i64 (m:=(r.stem.length:Int)) (n:=(r.cycle.length:Int)) i6),(19,.cmp (op:=.gtr) (m:=((r.stem.length:Int)+(r.cycle.length:Int))) (n:=10) (b:=false) .i64 hc4),(24,.len (za3 1 zal r.acts)),(25,.cmp (op:=.gtr) (m:=(r.acts.length:Int)) (n:=20) (b:=true) .i64 hc5)] [14] [(47,vb true)] h fun a w h=>cS true h (fun _=>?_) nofun
    refine Je 3 [] [47] [(8,vb true)] h fun a w h=>qV (za5 (rT (.c (cB true)) h rfl ?_));rfl
   have hc6':=dF hc6;refine Je 3 [(3,.call (Fn.cast (zk1 s ps p hr hpl hsl hal hxl) (yJ vb hc1))),(8,.call (Fn.cast (zk2 s ps hs3 hw9 hps) (yJ vb hc2))),(14,.len (za3 2 StD.d r.stem)),(17,.len (za3 2 StD.d r.cycle)),(18,.add .i64 (m:=(r.stem.length:Int)) (n:=(r.cycle.length:Int)) i6),(19,.cmp (op:=.gtr) (m:=((r.stem.length:Int)+(r.cycle.length:Int))) (n:=10) (b:=false) .i64 hc4),(24,.len (za3 1 zal r.acts)),(25,.cmp (op:=.gtr) (m:=(r.acts.length:Int)) (n:=20) (b:=false) .i64 hc6),(30,.len (za3 2 StD.d r.cycle))] [14] [(47,vb ((r.cycle.length:Int) == 0))] h fun a w h=>cS ((r.cycle.length:Int) == 0) h (fun hc7=>?_) (fun hc8=>?_)
   ·refine Je 3 [] [47] [(8,vb true)] h fun a w h=>qV (za5 (rT (.c (cB true)) h rfl ?_));rfl
   refine qU (za1 (qW (Je 3 [] [47] [(9,vI 0)] h fun a w h=>qZ ?_)))
   refine zbw (ι:=(Nat)) (fun j=>j<=r.stem.length+r.cycle.length/\zg8 j (fun i=>zig 2 (zao r i))=true)
     [8] (fun j=>[(9,vN j)])
     [] (fun j=>[])
     (fun j=>r.stem.length+r.cycle.length - j) 0 ?_ h ?_
   ·exact ⟨Nat.zero_le _,rfl⟩
   clear h;rintro j a w hI h;obtain ⟨hI1,hI2⟩:=hI;refine qW (Je 3 [(3,.len (za3 2 StD.d r.stem)),(6,.len (za3 2 StD.d r.cycle)),(7,.add .i64 (m:=(r.stem.length:Int)) (n:=(r.cycle.length:Int)) i6)] [] [(56,vb (decide ((j:Int)<((r.stem.length:Int)+(r.cycle.length:Int)))))] h fun a w h=>zad ((j:Int)<((r.stem.length:Int)+(r.cycle.length:Int))) h (fun hc9 hc9'=>?_) (fun hc12 hc12'=>?_))
   ·refine qU (za1 (qW (qZ (Je 3 [(2,.call (SRAt r (j:Int) j rfl (by omega) (by omega))),(3,.call (SFewSt (zao r j) 2 (hrr.at9 j)))] [56] [(63,vb (!(zig 2 (zao r j))))] h fun a w h=>cS (!(zig 2 (zao r j))) h (fun hc10=>?_) (fun hc11=>?_)))))
    ·refine Je 3 [] [63] [(8,vb true)] h fun a w h=>qV (za8 (za5 (za5 (za8 (za5 (rT (.c (cB true)) h rfl ?_))))));rfl
    have hc11q:zig 2 (zao r j)=true:=by have:=hc11;simpa using this
    refine qU (za6 (za1 (Jf 3 [(1,.j1 j)] [63] [(9,vI ((j:Int)+1))] h fun a w h=>za1 (zaa (x:=j) (y:=j+1) h ?_ ?_))))
    ·exact ⟨by omega,zbn hI2 hc11q⟩
    show r.stem.length+r.cycle.length - (j+1)<r.stem.length+r.cycle.length - j;omega
   refine exA ?_;have hro9:RunOk 2 r:=run_ok9 hrr (by omega) (by rw [show r.stem.length+r.cycle.length=j by have:=dF hc12;omega];exact hI2);have hr09:0<r.cycle.length:=by have:=beq_eq_false_iff_ne.1 hc8;omega
   refine Je 3 [(3,.call (zj1 s ps p hs3 hw9 hps hsl9 hal9 hpx))] [9,56] [(10,(vFs (zag s ps p.states p.acts)))] h fun a w h=>qW (Je 3 [(1,.len (za3 6 za0.d (zag s ps p.states p.acts))),(4,.len (za3 2 zbz.d p.states)),(7,.len (za3 1 zal p.acts)),(8,.add .i64 (m:=(p.acts.length:Int)) (n:=1) i6),(9,.g (Op.min2 (d:=77) (tys:=#[3,3]) (k:=.i64) (m:=(p.states.length:Int)) (n:=((p.acts.length:Int)+1)) (r:=((min p.states.length (p.acts.length+1):Nat):Int)) (OV.tmp 72 _) (OV.tmp 76 _) (by omega))),(10,.cmp (op:=.neq) (m:=((zag s ps p.states p.acts).length:Int)) (n:=((min p.states.length (p.acts.length+1):Nat):Int)) (b:=false) .i64 (by rw [zed];exact bne_self_eq_false _))] [] [(78,vb false)] h fun a w h=>zau h (qU (za1 (qW ?_))))
   rcases bG (right s r) with hc13 | hc18
   ·refine Jg 3 [(2,.call (Fn.cast (SRRight s r (L:=3) (M:=2) (by decide) hs3 hro9) (yJ vb hc13))),(7,.call (LasPath p (by omega))),(9,.call (LAlong ps p r (M:=2) (by decide) ⟨by omega,fun q hq=>(hps.2 q hq).mono (by decide) (by decide)⟩ hro9 hr09 (by omega) hsl9 hal9 hpx))] [1,4,6,78] [(90,vb (!(alB ps p r)))] [0,1] [] h fun a w h=>cS (!(alB ps p r)) h (fun hc14=>?_) (fun hc15=>?_)
    ·refine Je 3 [] [90] [(8,vb true)] h fun a w h=>qV (za5 (rT (.c (cB true)) h rfl ?_));rfl
    have hc15q:alB ps p r=true:=by have:=hc15;simpa using this
    refine qU (za1 (qW (Jp 3 [(1,.len (za3 6 za0.d (zag s ps p.states p.acts)))] [(7,vp 2 0),(91,(vFs (zag s ps p.states p.acts))),(92,vI ((zag s ps p.states p.acts).length:Int)),(93,vI 0)] h fun a w h=>qZ ?_)))
    refine zbw (ι:=(Nat)) (fun l=>l<=(zag s ps p.states p.acts).length)
      [] (fun l=>[(93,vN l)])
      [] (fun l=>[])
      (fun l=>(zag s ps p.states p.acts).length - l) 0 ?_ h ?_
    ·exact Nat.zero_le _
    clear h;rintro l a w hI h;refine Je 3 [] [] [(94,vb (decide ((l:Int)<((zag s ps p.states p.acts).length:Int))))] h fun a w h=>qW (zad ((l:Int)<((zag s ps p.states p.acts).length:Int)) h (fun hc16 hc16'=>?_) (fun hc17 hc17'=>?_))
    ·refine qU (za1 (qW (qZ ?_)));obtain ⟨x22,hx22⟩:=gl (zag s ps p.states p.acts) l;refine Jg 3 [(1,.g (xD 96 91 zie ((za7 hx22 (f:=za0.d)).trans (yJ some (za0.d_eq x22))) (OV.tmp 93 _)))] [94] [(11,vN l),(12,vp 3 0)] [] [(3,.box [cI x22.kind,cPs x22.r.t.parts,cB x22.r.t.k.neg,.d (nsl x22.r.t.k.abs),cB x22.r.eq,cFs x22.kids])] h fun a w h=>Jg 4 [(4,.call (LPlace r l hr09 (by omega) (by omega))),(5,.call (SRAt r ((zel r l:Nat):Int) (zel r l) rfl (by omega) (by have:=plcR_lt hr09 l;omega))),(7,.call (Fn.cast (zht (zao r (zel r l)).vals (M:=2) (by decide) (zei hro9 _).vok x22 (za0.okB_mono (by decide) (by decide) _ (hcs9 x22 (lM hx22)).1)) (yJ vb (along_all hs3.vars hc2 hr09 hc13 hc15q hx22))))] [11,12] [(106,vb false)] [3] [] h fun a w h=>zau h (qU (za6 (za1 (Jf 4 [(0,.add .i64 (m:=(l:Int)) (n:=1) i6)] [106] [(93,vI ((l:Int)+1))] h fun a w h=>za1 (zaa (x:=l) (y:=l+1) h ?_ ?_)))))
     ·have:=zab hx22;show l+1<=(zag s ps p.states p.acts).length;omega
     show (zag s ps p.states p.acts).length - (l+1)<(zag s ps p.states p.acts).length - l;have:=zab hx22;omega
    refine exA (Jq 4 [] [(8,vb true)] [] h fun a w h=>qV (rT (.c (cB true)) h rfl ?_));rfl
   refine Jg 4 [(2,.call (Fn.cast (SRRight s r (L:=3) (M:=2) (by decide) hs3 hro9) (yJ vb hc18)))] [1,4,6,78] [(90,vb true)] [0,1] [] h fun a w h=>cS true h (fun _=>?_) nofun
   refine Je 4 [] [90] [(8,vb true)] h fun a w h=>qV (za5 (rT (.c (cB true)) h rfl ?_));rfl
  refine Je 4 [(3,.call (Fn.cast (zk1 s ps p hr hpl hsl hal hxl) (yJ vb hc1))),(8,.call (Fn.cast (zk2 s ps hs3 hw9 hps) (yJ vb hc19)))] [14] [(47,vb true)] h fun a w h=>cS true h (fun _=>?_) nofun
  refine Je 4 [] [47] [(8,vb true)] h fun a w h=>qV (za5 (rT (.c (cB true)) h rfl ?_));rfl
 refine Je 4 [(3,.call (Fn.cast (zk1 s ps p hr hpl hsl hal hxl) (yJ vb hc20)))] [14] [(47,vb true)] h fun a w h=>cS true h (fun _=>?_) nofun
 refine Je 4 [] [47] [(8,vb true)] h fun a w h=>qV (za5 (rT (.c (cB true)) h rfl ?_));rfl
section
variable {w:World} {n:Nat}
theorem rep_Abs:zf2 w n 69 zbz.d (fun a=>a.locs.length<=maxLen/\a.bits.length<=maxLen) :=
 ((zbp (n:=n) Tryz.underlying69 (by kernel_rfl) (.cons (k0:=1) rfl (by kernel_rfl) zlq (.cons (k0:=1) rfl (by kernel_rfl) rep_bools .nil))).map (fun p=>⟨p.1,p.2.1⟩) (fun _=>rfl) fun _ h=>⟨h.1.1,h.2.1.1⟩).mono (Nat.le_succ n)
end
section
variable {w:World} {n:Nat}
theorem rep_AbsS:zf2 w n 41 (slD 2 zbz.d) (fun xs=>xs.length<=maxLen/\∀ x ∈ xs,x.locs.length<=maxLen/\x.bits.length<=maxLen) :=
 zc7 (k:=2) Tryz.underlying41 (by kernel_rfl) (by decide) (fun _=>rfl) rep_Abs
theorem rep_Path:zf2 w n 44 zdu.d (fun p=>(p.states.length<=maxLen/\∀ x ∈ p.states,x.locs.length<=maxLen/\x.bits.length<=maxLen)/\p.acts.length<=maxLen) :=
 ((zbp (n:=n) Tryz.underlying44 (by kernel_rfl) (.cons (k0:=1) rfl (by kernel_rfl) rep_AbsS (.cons (k0:=1) rfl (by kernel_rfl) zlq .nil))).map (fun p=>⟨p.1,p.2.1⟩) (fun _=>rfl) fun _ h=>⟨h.1,h.2.1.1⟩).mono (Nat.le_succ n)
end
theorem zke {a:Nat} (h:a<=maxLen):a<=9223372036854775807:=Nat.le_trans h (by decide)
theorem SRefineHoldsW (s:zan) (ps:List za9) (p:zdu) (r:zib) (hs:SysRd s) (hq:ps.length<=maxLen/\∀ r ∈ ps,TLb r.t) (hp:(p.states.length<=maxLen/\∀ x ∈ p.states,x.locs.length<=maxLen/\x.bits.length<=maxLen)/\p.acts.length<=maxLen) (hr:(∀ x ∈ r.stem,StRd x)/\(∀ x ∈ r.cycle,StRd x)/\r.acts.length<=maxLen) (hz:r.stem.length<=reachBytes/\r.cycle.length<=reachBytes):Fn Tryz.prog 3 [] [vd (zan.d s),(vRs ps),vd (zdu.d p),vd (zib.d r)] (vb true) [] :=
 LRefineHolds s ps p r hs (zke hq.1) hq.2 (zke hp.1.1) (zke hp.2) (fun x hx=>⟨zke (hp.1.2 x hx).1,zke (hp.1.2 x hx).2⟩) ⟨hr.1,hr.2.1,(by have:=reachBytes_lt;omega),zke hr.2.2⟩
end S
end Go.Proofs.YtlcijejaplagbaaGreat
section
namespace Go.Proofs.YtlcijejaplagbaaGreat.refineHoldsDone
open Go.ChangeShapes Go.WideShapes Go.ChangeAt Go.RowKit
open Go.ChangeMaps (open_string shut_string)
open Go.Proofs.YtlcijejaplagbaaGreat.S

theorem own:ownKnob Tryz.prog.godebug=none:=by kernel_rfl
theorem laidOut:laidOutB Tryz.prog=true:=by kernel_rfl

theorem lifted (os:Os) (started:os.Started) (H:Type) (enc:TypeId × Value->H) :
  ReturnsInHanded {} Tryz.checked os 3 .any (Rows.refineHoldsSpec.pre6 enc Tryz.prog Tryz.f3 Rows.refineHoldsRow.domain false) (Rows.refineHoldsSpec.post enc Tryz.prog Tryz.f3 false true false false):=by
 refine returnsInHanded_of_change_sized (C:=Tryz.checked) own started (by kernel_rfl) Tryz.func3
  (ChangeSpec.witness6 (enc:=enc) (C:=Tryz.checked) false ⟨#[],#[.agg #[.slice none 0 0,.slice none 0 0,.int .i64 0,.slice none 0 0,.bool false,.slice none 0 0,.bool false,.slice none 0 0,.slice none 0 0,.slice none 0 0],.slice none 0 0,.agg #[.slice none 0 0,.slice none 0 0],.agg #[.slice none 0 0,.slice none 0 0,.slice none 0 0]],[]⟩ 12 (by kernel_rfl) (by kernel_rfl) (by kernel_rfl) (by kernel_rfl)) ?_
 intro W base args ds gs before hval0 hW hcnd hsz _
 have hval:∀ (j:Nat) t v,Tryz.f3.params[j]?=some t->args[j]?=some v->Value.okWide Tryz.prog W .any base t v:=hval0
 have hW':=hW
 obtain ⟨p,q,hA0,hV,rfl,hfz,hnd⟩:=hW
 have hA:DataW.TrodAll enc Tryz.prog W 0 (fun _=>true) true Tryz.f3.params.toList args.toList ds p:=hA0
 rw [Tryz.params3] at hA hval hsz
 obtain ⟨v0,vs0,d0,ds0,p0,q0,hargs,rfl,rfl,h0,r0⟩:=trodAll_cons hA
 obtain ⟨v1,vs1,d1,ds1,p1,q1,rfl,rfl,rfl,h1,r1⟩:=trodAll_cons r0
 obtain ⟨v2,vs2,d2,ds2,p2,q2,rfl,rfl,rfl,h2,r2⟩:=trodAll_cons r1
 obtain ⟨v3,vs3,d3,ds3,p3,q3,rfl,rfl,rfl,h3,r3⟩:=trodAll_cons r2
 obtain ⟨rfl,rfl,rfl⟩:=trodAll_nil r3
 obtain rfl:args=#[v0,v1,v2,v3]:=by cases args;simp_all
 obtain ⟨rfl,rfl⟩:=trodVars_none hV
 have k0:=h0
 have lt0:∀ x ∈ p0,x.block<W.heap.size:=by obtain ⟨m,hm⟩:=k0;exact DataW.trod_lt m _ _ _ hm
 obtain ⟨a0,cs0,g0,rfl,dr0⟩:=rep_agg Tryz.underlying39 (fun _=>rep_Sys) (hval 0 39 v0 rfl rfl) h0
 have k1:=h1
 have lt1:∀ x ∈ p1,x.block<W.heap.size:=by obtain ⟨m,hm⟩:=k1;exact DataW.trod_lt m _ _ _ hm
 obtain ⟨a1,ao1,len1,cap1,g1,rfl,dr1⟩:=rep_one Tryz.underlying40 (fun _=>rep_RelsL) (hval 1 40 v1 rfl rfl) h1
 have k2:=h2
 have lt2:∀ x ∈ p2,x.block<W.heap.size:=by obtain ⟨m,hm⟩:=k2;exact DataW.trod_lt m _ _ _ hm
 obtain ⟨a2,cs2,g2,rfl,dr2⟩:=rep_agg Tryz.underlying44 (fun _=>rep_Path) (hval 2 44 v2 rfl rfl) h2
 have k3:=h3
 have lt3:∀ x ∈ p3,x.block<W.heap.size:=by obtain ⟨m,hm⟩:=k3;exact DataW.trod_lt m _ _ _ hm
 obtain ⟨a3,cs3,g3,rfl,dr3⟩:=rep_agg Tryz.underlying47 (fun _=>rep_Run) (hval 3 47 v3 rfl rfl) h3
 have kk:=k3
 obtain ⟨fu,hfu⟩:=kk
 have hz3:=run_sized hfu (fun n hn=>of_decide_eq_true (List.all_eq_true.1 hsz n (DataW.weights_mem_each (j:=3) rfl rfl n hn))) dr3
 clear hA0 hval0
 refine ((SRefineHoldsW a0 a1 a2 a3 g0 g1 g2 g3 hz3).calls (w:=W) (vals:=[.agg ⟨cs0⟩,.slice ao1 len1 cap1,.agg ⟨cs2⟩,.agg ⟨cs3⟩]) fun B=>⟨dr_vd dr0 B,dr1,dr_vd dr2 B,dr_vd dr3 B,trivial⟩).mono fun e W' ⟨he,bel⟩=>?_
 subst he
 exact ⟨_,rfl,_,_,_,[],_,[],hW', trodAll_mk1 (shut_bool Tryz.underlying4 _),(trodAll_cons_mk (Below.trod laidOut (by kernel_rfl) (of_decide_eq_true (by kernel_rfl)) k0 bel lt0) (trodAll_cons_mk (Below.trod laidOut (by kernel_rfl) (of_decide_eq_true (by kernel_rfl)) k1 bel lt1) (trodAll_cons_mk (Below.trod laidOut (by kernel_rfl) (of_decide_eq_true (by kernel_rfl)) k2 bel lt2) (trodAll_cons_mk (Below.trod laidOut (by kernel_rfl) (of_decide_eq_true (by kernel_rfl)) k3 bel lt3) trodAll_mk0)))),rfl,bel.below.frame _,fun h=>by cases h⟩

theorem over:Rows.refineHoldsRow.holds Tryz.pinned (OpenSpec.ofChange Rows.refineHoldsSpec) :=
 OpenClaim.holds_of_wide 3 Tryz.f3 rfl rfl rfl rfl rfl rfl rfl ⟨rfl,rfl,rfl,rfl,rfl⟩ rfl rfl rfl rfl rfl (by kernel_rfl) Tryz.func3 (by kernel_rfl)
  (of_decide_eq_true (by kernel_rfl)) (by unfold Func.isWrapper;first | (rw [if_pos (by decide +kernel)]; try kernel_rfl) | (rw [if_neg (by decide +kernel)];exact ⟨rfl,rfl⟩))
  (fun os started H enc _=>lifted os started H enc)

theorem proved:Rows.RefineHoldsSaid:=over
end Go.Proofs.YtlcijejaplagbaaGreat.refineHoldsDone
end
