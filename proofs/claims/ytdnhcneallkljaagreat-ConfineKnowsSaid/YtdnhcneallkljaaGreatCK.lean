/-
  The proof of the statement ConfineKnows. It holds for every input.
-/
import Derived.Test.YtdnhcneallkljaaGreatCK6
import Derived.SizedLaws
import Derived.Test.YtdnhcneallkljaaGreatRows
import Derived.Test.YtdnhcneallkljaaGreatCK2
set_option maxRecDepth 100000
set_option maxHeartbeats 20000000
open Go.RowKit
open List renaming mem_range->bC,length_map->bF,mem_filter->bG,mem_map->bH,getElem?_eq_getElem->bI,mem_flatMap->bK,length_range->bS,getElem?_map->bU,getElem?_range->bV,getElem?_eq_none->bW,length_append->bZ,drop_eq_getElem_cons->b7,drop_of_length_le->b8,getElem?_append_right->b9,getElem?_append_left->cC,take_of_length_le->cE
open Bool renaming and_eq_true->bE,not_eq_true'->bM,or_eq_false_iff->cF,eq_false_or_eq_true->cG
open Nat renaming add_mul->bJ,one_mul->bL,le_trans->bR,add_sub_cancel_left->bT,mul_le_mul_right->bX,add_mul_div_right->cD
open Int renaming natCast_mul->bP
namespace Go.Proofs.YtdnhcneallkljaaGreat
namespace S
variable {k i j:Nat}
theorem hrn_inv (s:zab) (x:StD):∀ j,j<=s.procs.length+s.vars.length->hrn s x j*prd ((wdl s s.vars.length).drop j)+unD ((wdl s s.vars.length).drop j) ((dgL s x).drop j)=unD (wdl s s.vars.length) (dgL s x)
 | 0,_=>by show 0*_+_=_;rw [Int.zero_mul,Int.zero_add];rfl
 | j+1,hj=>by
  have ih:=hrn_inv s x j (by omega)
  have hw:j<(wdl s s.vars.length).length:=by rw [zeh];omega
  have hd:j<(dgL s x).length:=by unfold dgL;rw [bF,bS];omega
  have e2:(dgL s x)[j]=dgN s x j:=by
   have:=dgL_at s x (show j<s.procs.length+s.vars.length by omega)
   rw [bI hd] at this
   exact Option.some.inj this
  rw [b7 hw,b7 hd,e2] at ih
  have ih:hrn s x j*((wdl s s.vars.length)[j]*prd ((wdl s s.vars.length).drop (j+1)))+(dgN s x j*prd ((wdl s s.vars.length).drop (j+1))+unD ((wdl s s.vars.length).drop (j+1)) ((dgL s x).drop (j+1)))=_:=ih
  rw [<- zk5 (s:=s) (x:=x) (bI hw),Int.add_mul,<- ih,Int.mul_assoc]
  omega
theorem dgL_st (s:zab) (n:Int):dgL s (stN s n)=zcu s n:=by
 have hl:=zl1 s n
 refine List.ext_getElem? fun i=>?_
 by_cases hi:i<s.procs.length+s.vars.length
 ·rw [dgL_at s _ hi,bI (by omega)]
  unfold dgN
  by_cases h1:i<s.procs.length
  ·rw [if_pos h1]
   show some (((((zcu s n).take s.procs.length))[i]?).getD 0)=_
   rw [List.getElem?_take_of_lt h1,bI (by omega)];rfl
  ·rw [if_neg h1]
   obtain ⟨v,rfl⟩:∃ v,i=s.procs.length+v:=⟨i - s.procs.length,by omega⟩
   rw [bT]
   show some (((((List.range s.vars.length).map (zf9 s n))[v]?).getD zdi).val - _)=_
   rw [bU,bV (by omega)]
   show some ((zf9 s n v).val - _)=_
   unfold zf9
   rw [ZI.val_of,bI (by omega)]
   show some ((zam s v).lo.val+(zcu s n)[s.procs.length+v] - (zam s v).lo.val)=_
   congr 1;omega
 ·rw [bW (by unfold dgL;rw [bF,bS];omega),bW (by omega)]
section
variable {s:zab} {ps:List zal} {au:zay}
theorem nm_st (hp:zbp s) (hc:(zb3 s).2=true) (hk:k<cN s):nmT s (stI s k)=((k:Int),true):=by
 have h1:=zk6 hk
 have h0:(0:Int)<=(k:Int):=by omega
 unfold nmT
 rw [if_pos ⟨hc,fit_stN hp hc h0 h1⟩]
 obtain ⟨hpo,_⟩:=zhv hp hc h0 h1
 have hcp:=cnt_pos2 hc h0 h1
 have h2:=hrn_inv s (stI s k) (s.procs.length+s.vars.length) (Nat.le_refl _)
 have hw:(wdl s s.vars.length).length=s.procs.length+s.vars.length:=zeh _ _
 rw [b8 (by omega),b8 (by unfold dgL;rw [bF,bS];omega)] at h2
 have h2:hrn s (stI s k) (s.procs.length+s.vars.length)*1+0=unD (wdl s s.vars.length) (dgL s (stN s (k:Int))):=h2
 rw [dgL_st] at h2
 have h3:=unD_dgs (wdl s s.vars.length) (k:Int)
 rw [dgs_lt hpo h0 (by omega),Int.zero_mul,Int.add_zero] at h3
 have h2:hrn s (stI s k) (s.procs.length+s.vars.length)*1+0=unD (wdl s s.vars.length) (dgs (wdl s s.vars.length) (k:Int)).1:=h2
 rw [h3,Int.mul_one,Int.add_zero] at h2
 rw [h2]
theorem st_num (hc:(zb3 s).2=true) (hk:k<cN s):(zdb s (k:Int)).1=stI s k:=by
 unfold zdb;rw [if_pos ⟨hc,by omega,zk6 hk⟩];rfl
theorem lead_edge (hp:zbp s) (hc:(zb3 s).2=true) (hi:i<cN s) (hk:k<cN s):(∃ e ∈ edT s (stI s i),e.to_=stI s k) ↔ zem s (stI s i) (stI s k)=true:=by
 have fi:=fit_stN hp hc (show (0:Int)<=(i:Int) by omega) (zk6 hi)
 have fk:=fit_stN hp hc (show (0:Int)<=(k:Int) by omega) (zk6 hk)
 unfold zem
 rw [List.any_eq_true]
 constructor
 ·rintro ⟨e,he,e1⟩
  obtain ⟨_,_,_,a,ha,e2⟩:=ed_each hc (zdg s _) he
  refine ⟨a,bC.2 ha,?_⟩
  have h:=met_all hc fi (zdg s _) fk (zdg s _) ha
  cases hl:zcp s (stI s i) ((a:Int) - 1) (stI s k) with
  | true=>rfl
  | false =>
   have hl:zcp s (stN s (i:Int)) ((a:Int) - 1) (stN s (k:Int))=false:=hl
   rw [hl] at h
   have h0:((edT s (stI s i)).filter (isE ((a:Int) - 1) (stI s k))).length=0:=h
   have hm:e ∈ (edT s (stI s i)).filter (isE ((a:Int) - 1) (stI s k)):=bG.2 ⟨he,by unfold isE;rw [e2,e1,zif];simp⟩
   have:=List.length_pos_of_mem hm
   omega
 ·rintro ⟨a,ha,hl⟩
  have h:=met_all hc fi (zdg s _) fk (zdg s _) (bC.1 ha)
  have hl:zcp s (stN s (i:Int)) ((a:Int) - 1) (stN s (k:Int))=true:=hl
  rw [if_pos hl] at h
  have h1:((edT s (stI s i)).filter (isE ((a:Int) - 1) (stI s k))).length=1:=h
  obtain ⟨e,he⟩:=List.exists_mem_of_length_pos (show 0<((edT s (stI s i)).filter (isE ((a:Int) - 1) (stI s k))).length by omega)
  obtain ⟨h2,h3⟩:=bG.1 he
  unfold isE at h3
  rw [bE] at h3
  obtain ⟨k', _,e1,_⟩:=ed_each hc (zdg s _) h2
  exact ⟨e,h2,zl4 (by rw [e1];exact zdg s _) (zdg s _) h3.2⟩
theorem sumU_le {f:Nat->Nat} {c:Nat}:∀ n,(∀ i,i<n->f i<=c)->sumU f n<=n*c
 | 0,_=>Nat.zero_le _
 | n+1,h=>by
  have h1:=sumU_le n fun i hi=>h i (by omega)
  have h2:=h n (by omega)
  show sumU f n+f n<=_
  rw [bJ,bL];omega
theorem ed_len9 (hp:zbp s) (hc:(zb3 s).2=true) (hi:i<cN s):(edT s (stI s i)).length<=cN s*(s.acts.length+1):=by
 rw [<- met_total hp hc (es:=edT s (stI s i)) (n:=s.acts.length+1) fun e he=>ed_each (x:=stI s i) hc (zdg s _) he]
 refine sumU_le _ fun k hk=>?_
 have:sumU (fun a=>met (edT s (stI s i)) ((a:Int) - 1) (stI s k)) (s.acts.length+1)<=(s.acts.length+1)*1:=sumU_le _ fun a ha=>by
  have h:=met_all hc (fit_stN hp hc (show (0:Int)<=(i:Int) by omega) (zk6 hi)) (zdg s _) (fit_stN hp hc (show (0:Int)<=(k:Int) by omega) (zk6 hk)) (zdg s _) ha
  have h:met (edT s (stI s i)) ((a:Int) - 1) (stI s k)=_:=h
  rw [h];split <;> omega
 rw [Nat.mul_one] at this
 exact this
theorem fit_mem {l:List Bool} {k:Int}:∀ {xs out:List Int}, k ∈ xs.foldl (fitO au l) out ↔ k ∈ out\/(k ∈ xs/\okN au k=true/\zha (zc4 au k) l=true)
 | [],out=>by simp
 | x :: xs,out=>by
  rw [List.foldl_cons,fit_mem (xs:=xs)]
  have h1:k ∈ fitO au l out x ↔ k ∈ out\/(k=x/\okN au k=true/\zha (zc4 au k) l=true):=by
   unfold fitO
   split
   ·rename_i h
    simp only [bE,bM] at h
    rw [List.mem_append,List.mem_singleton]
    constructor
    ·rintro (h2 | h2)
     ·exact .inl h2
     ·subst h2;exact .inr ⟨rfl,h.1.1,h.2⟩
    ·rintro (h2 | h2)
     ·exact .inl h2
     ·exact .inr h2.1
   ·rename_i h
    constructor
    ·exact .inl
    ·rintro (h2 | ⟨rfl,h3,h4⟩)
     ·exact h2
     ·simp only [bE,bM, not_and] at h
      cases e:hasI k out with
      | true=>exact zkw.1 e
      | false=>exact absurd h4 (h ⟨h3,e⟩)
  rw [h1,List.mem_cons]
  constructor
  ·rintro ((h | ⟨rfl,h⟩) | ⟨h2,h⟩)
   ·exact .inl h
   ·exact .inr ⟨.inl rfl,h⟩
   ·exact .inr ⟨.inr h2,h⟩
  ·rintro (h | ⟨rfl | h2,h⟩)
   ·exact .inl (.inl h)
   ·exact .inl (.inr ⟨rfl,h⟩)
   ·exact .inr ⟨h2,h⟩
theorem ok_nat {k:Int}:okN au k=true ↔ ∃ l:Nat,l<au.nodes.length/\k=(l:Int):=by
 unfold okN
 rw [bE,decide_eq_true_eq,decide_eq_true_eq]
 constructor
 ·rintro ⟨h1,h2⟩;exact ⟨k.toNat,by omega,by omega⟩
 ·rintro ⟨l,h1,rfl⟩;exact ⟨by omega,by omega⟩
theorem zfg (l:Nat):zc4 au (l:Int)=ze1 au l:=by unfold zc4 ze1;rw [show ((l:Int)).toNat=l by omega]
def alS (s:zab) (ps:List zal) (au:zay) (i j:Nat):Prop:=zha (ze1 au j) (zai ps (stI s i))=true
def stp2 (s:zab) (ps:List zal) (au:zay) (i j k l:Nat):Prop:=zem s (stI s i) (stI s k)=true/\(l:Int) ∈ (ze1 au j).next/\alS s ps au k l
theorem edP_iff (hp:zbp s) (hc:(zb3 s).2=true) (hi:i<cN s) {q:PrD}:EdP s ps au ⟨(i:Int),(j:Int)⟩ q ↔ ∃ k l:Nat,k<cN s/\l<au.nodes.length/\q=⟨(k:Int),(l:Int)⟩/\stp2 s ps au i j k l:=by
 unfold EdP zbr zd5
 show (∃ m ∈ (edT s (zdb s (i:Int)).1).flatMap (mvE s ps au (zc4 au (j:Int)).next),m.to_=q) ↔ _
 rw [st_num hc hi,zfg]
 constructor
 ·rintro ⟨m,hm,rfl⟩
  obtain ⟨e,he,h2⟩:=bK.1 hm
  obtain ⟨k,hk,e1,_⟩:=ed_each hc (zdg s _) he
  unfold mvE at h2
  obtain ⟨x,hx,rfl⟩:=bH.1 h2
  unfold nmN at hx ⊢
  rw [e1,nm_st hp hc hk] at hx ⊢
  have hx:x ∈ (ze1 au j).next.foldl (fitO au (zbc s ps (k:Int))) []:=hx
  rw [fit_mem] at hx
  rcases hx with hx | ⟨h3,h4,h5⟩
  ·cases hx
  ·obtain ⟨l,hl,rfl⟩:=ok_nat.1 h4
   unfold zbc at h5
   rw [zfg,st_num hc hk] at h5
   exact ⟨k,l,hk,hl,rfl,(lead_edge hp hc hi hk).1 ⟨e,he,e1⟩,h3,h5⟩
 ·rintro ⟨k,l,hk,hl,rfl,h1,h2,h3⟩
  obtain ⟨e,he,e1⟩:=(lead_edge hp hc hi hk).2 h1
  refine ⟨⟨e.act,⟨(k:Int),(l:Int)⟩⟩,bK.2 ⟨e,he,?_⟩,rfl⟩
  unfold mvE nmN
  rw [e1,nm_st hp hc hk]
  refine bH.2 ⟨(l:Int),?_,rfl⟩
  show (l:Int) ∈ (ze1 au j).next.foldl (fitO au (zbc s ps (k:Int))) []
  rw [fit_mem]
  refine .inr ⟨h2,ok_nat.2 ⟨l,hl,rfl⟩,?_⟩
  unfold zbc
  rw [zfg,st_num hc hk];exact h3
theorem prodNs_at (hj:j<au.nodes.length):∀ n,i<n->(zbb s ps au n)[i*au.nodes.length+j]?=some (prodN s ps au i j)
 | 0,h=>by omega
 | n+1,h=>by
  rw [<- zge]
  by_cases e:i=n
  ·subst e
   rw [b9 (by rw [ze0];omega),ze0,bT]
   unfold zcs
   rw [bU,bV hj];rfl
  ·have h1:(i+1)*au.nodes.length<=n*au.nodes.length:=bX _ (by omega)
   rw [bJ,bL] at h1
   rw [cC (by rw [ze0];omega)]
   exact prodNs_at hj n (by omega)
theorem prodG_at (hj:j<au.nodes.length):∀ n,i<n->(zc3 au n)[i*au.nodes.length+j]?=some (gdN au j)
 | 0,h=>by omega
 | n+1,h=>by
  rw [<- zhk]
  by_cases e:i=n
  ·subst e
   rw [b9 (by rw [zfz];omega),zfz,bT,bU,bV hj];rfl
  ·have h1:(i+1)*au.nodes.length<=n*au.nodes.length:=bX _ (by omega)
   rw [bJ,bL] at h1
   rw [cC (by rw [zfz];omega)]
   exact prodG_at hj n (by omega)
theorem ix_lt {N m:Nat} (hi:i<N) (hj:j<m):i*m+j<N*m:=by
 have h1:(i+1)*m<=N*m:=bX _ hi
 rw [bJ,bL] at h1;omega
theorem ix_inj {m l:Nat} (hj:j<m) (hl:l<m) (h:i*m+j=k*m+l):i=k/\j=l:=by
 have h1:(i*m+j) / m=i:=by rw [Nat.add_comm,cD _ _ (by omega),Nat.div_eq_of_lt hj,Nat.zero_add]
 have h2:(k*m+l) / m=k:=by rw [Nat.add_comm,cD _ _ (by omega),Nat.div_eq_of_lt hl,Nat.zero_add]
 have h3:i=k:=by rw [<- h1,<- h2,h]
 subst h3
 exact ⟨rfl,by omega⟩
theorem zjf:(zds s ps au).nodes.length=cN s*au.nodes.length:=ze0 s ps au (cN s)
theorem inn_mem {nx:List Int} {l:List Bool} {y:Int}:y ∈ zdq au nx l k nx.length ↔ ∃ tz:Nat,tz<au.nodes.length/\(tz:Int) ∈ nx/\zha (ze1 au tz) l=true/\y=(k:Int)*(au.nodes.length:Int)+(tz:Int):=by
 unfold zdq
 rw [cE (Nat.le_refl _),bH]
 constructor
 ·rintro ⟨x,hx,rfl⟩
  obtain ⟨h1,h2⟩:=bG.1 hx
  unfold okS at h2
  rw [bE] at h2
  obtain ⟨tz,h3,rfl⟩:=ok_nat.1 h2.1
  rw [zfg] at h2
  exact ⟨tz,h3,h1,h2.2,rfl⟩
 ·rintro ⟨tz,h1,h2,h3,rfl⟩
  refine ⟨(tz:Int),bG.2 ⟨h2,?_⟩,rfl⟩
  unfold okS
  rw [ok_nat.2 ⟨tz,h1,rfl⟩,zfg,h3];rfl
theorem edN_iff {y:Nat} (hi:i<cN s) (hj:j<au.nodes.length):EdN (zds s ps au) (i*au.nodes.length+j) y ↔ alS s ps au i j/\∃ k l:Nat,k<cN s/\l<au.nodes.length/\y=k*au.nodes.length+l/\stp2 s ps au i j k l:=by
 have hn:ze1 (zds s ps au) (i*au.nodes.length+j)=prodN s ps au i j:=zik (prodNs_at hj (cN s) hi)
 unfold EdN
 rw [zjf,hn]
 show _/\_/\(y:Int) ∈ nodX s ps au i j ↔ _
 unfold nodX zgp
 constructor
 ·rintro ⟨_,_,h⟩
  split at h
  ·rename_i ha
   obtain ⟨k,hk,h⟩:=bK.1 h
   obtain ⟨hk1,hk2⟩:=bG.1 (show k ∈ nxK s (stI s i) (cN s) from hk)
   obtain ⟨l,h1,h2,h3,h4⟩:=inn_mem.1 h
   rw [<- bP] at h4
   exact ⟨ha,k,l,bC.1 hk1,h1,by omega,hk2,h2,h3⟩
  ·cases h
 ·rintro ⟨ha,k,l,hk,hl,rfl,h1,h2,h3⟩
  refine ⟨ix_lt hi hj,ix_lt hk hl,?_⟩
  rw [if_pos (show zha (ze1 au j) (zai ps (stI s i))=true from ha)]
  refine bK.2 ⟨k,bG.2 ⟨bC.2 hk,h1⟩,inn_mem.2 ⟨l,hl,h2,h3,?_⟩⟩
  rw [<- bP];omega
theorem plP_plN (hp:zbp s) (hc:(zb3 s).2=true) (hi:i<cN s) (hj:j<au.nodes.length) (ha:alS s ps au i j) {q:PrD} (h:PlP s ps au ⟨(i:Int),(j:Int)⟩ q) :
  ∃ k l:Nat,k<cN s/\l<au.nodes.length/\q=⟨(k:Int),(l:Int)⟩/\alS s ps au k l/\Pl (EdN (zds s ps au)) (i*au.nodes.length+j) (k*au.nodes.length+l):=by
 generalize hx:(⟨(i:Int),(j:Int)⟩:PrD)=x at h
 induction h with
 | one e =>
  subst hx
  obtain ⟨k,l,hk,hl,rfl,h1⟩:=(edP_iff hp hc hi).1 e
  exact ⟨k,l,hk,hl,rfl,h1.2.2,.one ((edN_iff hi hj).2 ⟨ha,k,l,hk,hl,rfl,h1⟩)⟩
 | more _ e ih =>
  obtain ⟨k,l,hk,hl,rfl,h1,h2⟩:=ih
  obtain ⟨k2,l2,hk2,hl2,rfl,h3⟩:=(edP_iff hp hc hk).1 e
  exact ⟨k2,l2,hk2,hl2,rfl,h3.2.2,.more h2 ((edN_iff hk hl).2 ⟨h1,k2,l2,hk2,hl2,rfl,h3⟩)⟩
theorem plN_plP (hp:zbp s) (hc:(zb3 s).2=true) (hi:i<cN s) (hj:j<au.nodes.length) {y:Nat} (h:Pl (EdN (zds s ps au)) (i*au.nodes.length+j) y) :
  ∃ k l:Nat,k<cN s/\l<au.nodes.length/\y=k*au.nodes.length+l/\PlP s ps au ⟨(i:Int),(j:Int)⟩ ⟨(k:Int),(l:Int)⟩:=by
 generalize hx:i*au.nodes.length+j=x at h
 induction h with
 | one e =>
  subst hx
  obtain ⟨_,k,l,hk,hl,rfl,h1⟩:=(edN_iff hi hj).1 e
  exact ⟨k,l,hk,hl,rfl,.one ((edP_iff hp hc hi).2 ⟨k,l,hk,hl,rfl,h1⟩)⟩
 | more _ e ih =>
  obtain ⟨k,l,hk,hl,rfl,h2⟩:=ih
  obtain ⟨_,k2,l2,hk2,hl2,rfl,h3⟩:=(edN_iff hk hl).1 e
  exact ⟨k2,l2,hk2,hl2,rfl,.more h2 ((edP_iff hp hc hk).2 ⟨k2,l2,hk2,hl2,rfl,h3⟩)⟩
theorem good_nat (l:Nat) (k:Int):zh7 au ⟨k,(l:Int)⟩=gdN au l:=by
 unfold zh7 gdN
 show (decide ((l:Int)<(au.good.length:Int)) && (au.good[((l:Int)).toNat]?).getD false)=_
 rw [show ((l:Int)).toNat=l by omega]
 by_cases h:l<au.good.length
 ·rw [decide_eq_true (by omega)];rfl
 ·rw [decide_eq_false (by omega),bW (by omega)];rfl
theorem gd_prod (hi:i<cN s) (hj:j<au.nodes.length):gdN (zds s ps au) (i*au.nodes.length+j)=gdN au j:=by
 show (((zc3 au (cN s))[i*au.nodes.length+j]?).getD false)=_
 rw [prodG_at hj (cN s) hi];rfl
theorem first_mem {i:Nat} {y:Int}:∀ n,y ∈ zbz s ps au n ↔ ∃ i,i<n/\first s (stI s i)=true/\y ∈ zdq au au.first (zai ps (stI s i)) i au.first.length:=fun n=>by
 unfold zbz
 rw [bK]
 constructor
 ·rintro ⟨i,hi,h⟩
  split at h
  ·rename_i hf;exact ⟨i,bC.1 hi,hf,h⟩
  ·cases h
 ·rintro ⟨i,hi,hf,h⟩
  exact ⟨i,bC.2 hi,by rw [if_pos hf];exact h⟩
theorem top_iff (hp:zbp s) (hc:(zb3 s).2=true) {p:PrD}:(∃ f ∈ zg4 s,topF s ps au f p) ↔ ∃ i j:Nat,i<cN s/\j<au.nodes.length/\p=⟨(i:Int),(j:Int)⟩/\first s (stI s i)=true/\(j:Int) ∈ au.first/\alS s ps au i j:=by
 constructor
 ·rintro ⟨f,hf,k,hk,rfl⟩
  obtain ⟨h1,h2⟩:=bG.1 (show f ∈ (zkd s).filter (first s) from hf)
  obtain ⟨i,hi,rfl⟩:=bH.1 (show f ∈ (List.range (cN s)).map (stI s) from h1)
  have hi:=bC.1 hi
  rw [nm_st hp hc hi] at hk ⊢
  have hk:k ∈ au.first.foldl (fitO au (zbc s ps (i:Int))) []:=hk
  rw [fit_mem] at hk
  rcases hk with hk | ⟨h3,h4,h5⟩
  ·cases hk
  ·obtain ⟨l,hl,rfl⟩:=ok_nat.1 h4
   unfold zbc at h5
   rw [zfg,st_num hc hi] at h5
   exact ⟨i,l,hi,hl,rfl,h2,h3,h5⟩
 ·rintro ⟨i,j,hi,hj,rfl,h1,h2,h3⟩
  refine ⟨stI s i,bG.2 ⟨bH.2 ⟨i,bC.2 hi,rfl⟩,h1⟩,(j:Int),?_,?_⟩
  ·rw [nm_st hp hc hi]
   show (j:Int) ∈ au.first.foldl (fitO au (zbc s ps (i:Int))) []
   rw [fit_mem]
   refine .inr ⟨h2,ok_nat.2 ⟨j,hj,rfl⟩,?_⟩
   unfold zbc
   rw [zfg,st_num hc hi];exact h3
  ·rw [nm_st hp hc hi]
theorem las_iff (hp:zbp s) (hc:(zb3 s).2=true):LasN (zds s ps au) ↔ ∃ f ∈ zg4 s,∃ p,topF s ps au f p/\Lasso s ps au p:=by
 constructor
 ·rintro ⟨f,_,h1,g,_,h2,h3,h4⟩
  obtain ⟨i,hi,h5,h6⟩:=(first_mem (i:=0) (cN s)).1 (show (f:Int) ∈ zbz s ps au (cN s) from h1)
  obtain ⟨j,hj,h7,h8,h9⟩:=inn_mem.1 h6
  rw [<- bP] at h9
  have h9:f=i*au.nodes.length+j:=by omega
  subst h9
  obtain ⟨st,hst,ht⟩:=(top_iff (ps:=ps) (au:=au) hp hc).2 ⟨i,j,hi,hj,rfl,h5,h7,h8⟩
  refine ⟨st,hst,⟨(i:Int),(j:Int)⟩,ht,?_⟩
  obtain ⟨k,l,hk,hl,rfl,hr⟩:∃ k l:Nat,k<cN s/\l<au.nodes.length/\g=k*au.nodes.length+l/\((⟨(k:Int),(l:Int)⟩:PrD)=⟨(i:Int),(j:Int)⟩\/PlP s ps au ⟨(i:Int),(j:Int)⟩ ⟨(k:Int),(l:Int)⟩):=by
   rcases h2 with e | e
   ·exact ⟨i,j,hi,hj,e,.inl rfl⟩
   ·obtain ⟨k,l,hk,hl,e1,e2⟩:=plN_plP hp hc hi hj e;exact ⟨k,l,hk,hl,e1,.inr e2⟩
  refine ⟨⟨(k:Int),(l:Int)⟩,hr,?_,?_⟩
  ·rw [good_nat,<- gd_prod (s:=s) (ps:=ps) hk hl];exact h3
  ·obtain ⟨k2,l2,hk2,hl2,e1,e2⟩:=plN_plP hp hc hk hl h4
   obtain ⟨rfl,rfl⟩:=ix_inj hl hl2 e1
   exact e2
 ·rintro ⟨st,hst,p,ht,g,hg,hgd,hcy⟩
  obtain ⟨i,j,hi,hj,rfl,h5,h7,h8⟩:=(top_iff hp hc).1 ⟨st,hst,ht⟩
  obtain ⟨k,l,hk,hl,rfl,hak,hr⟩:∃ k l:Nat,k<cN s/\l<au.nodes.length/\g=⟨(k:Int),(l:Int)⟩/\alS s ps au k l/\(k*au.nodes.length+l=i*au.nodes.length+j\/Pl (EdN (zds s ps au)) (i*au.nodes.length+j) (k*au.nodes.length+l)):=by
   rcases hg with e | e
   ·exact ⟨i,j,hi,hj,e,h8,.inl rfl⟩
   ·obtain ⟨k,l,hk,hl,e1,e2,e3⟩:=plP_plN hp hc hi hj h8 e;exact ⟨k,l,hk,hl,e1,e2,.inr e3⟩
  refine ⟨i*au.nodes.length+j,by rw [zjf];exact ix_lt hi hj,?_,k*au.nodes.length+l,by rw [zjf];exact ix_lt hk hl,hr,?_,?_⟩
  ·show _ ∈ zbz s ps au (cN s)
   exact (first_mem (i:=0) (cN s)).2 ⟨i,hi,h5,inn_mem.2 ⟨j,hj,h7,h8,by rw [<- bP];omega⟩⟩
  ·rw [gd_prod hk hl,<- good_nat l (k:Int)];exact hgd
  ·obtain ⟨k2,l2,hk2,hl2,e1,_,e2⟩:=plP_plN hp hc hk hl hak hcy
   have e3:(k:Int)=(k2:Int):=congrArg PrD.st e1
   have e4:(l:Int)=(l2:Int):=congrArg PrD.nd e1
   obtain rfl:k=k2:=by omega
   obtain rfl:l=l2:=by omega
   exact e2
def uniP (s:zab) (au:zay):List PrD:=(List.range (cN s)).flatMap fun i=>(List.range au.nodes.length).map fun j=>(⟨((i:Nat):Int),((j:Nat):Int)⟩:PrD)
theorem uni_mem {p:PrD}:p ∈ uniP s au ↔ ∃ i j:Nat,i<cN s/\j<au.nodes.length/\p=⟨(i:Int),(j:Int)⟩:=by
 unfold uniP
 rw [bK]
 constructor
 ·rintro ⟨i,hi,h⟩
  obtain ⟨j,hj,rfl⟩:=bH.1 h
  exact ⟨i,j,bC.1 hi,bC.1 hj,rfl⟩
 ·rintro ⟨i,j,hi,hj,rfl⟩
  exact ⟨i,bC.2 hi,bH.2 ⟨j,bC.2 hj,rfl⟩⟩
theorem uni_len:∀ n,((List.range n).flatMap fun i=>(List.range au.nodes.length).map fun j=>(⟨((i:Nat):Int),((j:Nat):Int)⟩:PrD)).length=n*au.nodes.length
 | 0=>by show 0=_;omega
 | n+1=>by rw [List.range_succ,List.flatMap_append,bZ,uni_len n];simp [bJ]
theorem flat_le9 {α β:Type} {f:α->List β} {c:Nat}:∀ xs:List α,(∀ x ∈ xs,(f x).length<=c)->(xs.flatMap f).length<=xs.length*c
 | [],_=>Nat.zero_le _
 | x :: xs,h=>by
  have h1:=flat_le9 xs fun y hy=>h y (List.mem_cons_of_mem _ hy)
  have h2:=h x (by simp)
  rw [List.flatMap_cons,bZ,List.length_cons,bJ,bL];omega
theorem uni_ok (hp:zbp s) (hc:(zb3 s).2=true) (h16:cN s<=16) (ha:AutS au) (hacts:s.acts.length<=20):Uni s ps au (uniP s au) 2017:=by
 refine ⟨fun p hpu q hq=>?_,fun p hpu=>?_,by decide⟩
 ·obtain ⟨i,j,hi,hj,rfl⟩:=uni_mem.1 hpu
  obtain ⟨k,l,hk,hl,rfl,_⟩:=(edP_iff hp hc hi).1 hq
  exact uni_mem.2 ⟨k,l,hk,hl,rfl⟩
 ·obtain ⟨i,j,hi,hj,rfl⟩:=uni_mem.1 hpu
  unfold cost zbr zd5
  show 1+(((edT s (zdb s (i:Int)).1).flatMap (mvE s ps au (zc4 au (j:Int)).next)).length:Int)<=2017
  rw [st_num hc hi,zfg]
  have hnx:(ze1 au j).next.length<=6:=by
   unfold ze1
   rw [bI hj]
   exact (ha.node _ (List.getElem_mem hj)).2.2
  have h1:=flat_le9 (f:=mvE s ps au (ze1 au j).next) (c:=6) (edT s (stI s i)) fun e _=>by
   unfold mvE;rw [bF];exact bR (ziu au _ _) hnx
  have h2:=ed_len9 hp hc hi
  have h3:cN s*(s.acts.length+1)<=16*21:=Nat.mul_le_mul h16 (by omega)
  omega
theorem knows (hp:zbp s) (hc:(zb3 s).2=true) (h16:cN s<=16) (ha:AutS au) (hacts:s.acts.length<=20):((zey s ps au 16777216).state=1/\takT s ps au=true)\/((zey s ps au 16777216).state=2/\takT s ps au=false):=by
 have hu:=uni_ok (ps:=ps) hp hc h16 ha hacts
 have hul:(uniP s au).length<=16*4:=by
  unfold uniP;rw [uni_len];exact Nat.mul_le_mul h16 ha.nodes
 have htop:∀ f ∈ zg4 s,∀ p,topF s ps au f p->p ∈ uniP s au:=fun f hf p hpt=>by
  obtain ⟨i,j,hi,hj,rfl,_⟩:=(top_iff hp hc).1 ⟨f,hf,hpt⟩
  exact uni_mem.2 ⟨i,j,hi,hj,rfl⟩
 have hfu:zes 16777216=16777216:=by decide
 have htk:takT s ps au=true ↔ ∃ f ∈ zg4 s,∃ p,topF s ps au f p/\Lasso s ps au p:=by
  rw [<- las_iff hp hc,<- trim_iff]
  unfold takT
  rw [decide_eq_true_eq]
  omega
 rcases sea_knows hu (fuel:=16777216) hc htop (by rw [hfu];omega) (by rw [hfu];decide) with ⟨h1,h2⟩ | ⟨h1,h2⟩
 ·exact .inl ⟨h1,htk.2 h2⟩
 ·refine .inr ⟨h1,?_⟩
  cases e:takT s ps au with
  | true=>exact absurd (htk.1 e) h2
  | false=>rfl
end
theorem fewU_s {au:zay} (h:fewU au=true) (hg:au.good.length<=9223372036854775807):AutS au:=by
 unfold fewU at h
 simp only [bE,bM, cF,decide_eq_false_iff_not] at h
 refine ⟨by omega,by omega,hg,fun nd hnd=>?_⟩
 have h2:=List.all_eq_true.1 h.2 nd hnd
 unfold fewND at h2
 simp only [bM, cF,decide_eq_false_iff_not] at h2
 omega
theorem fewP_4 {ps:List zal} (h:fewP ps=true):ps.length<=4:=by
 unfold fewP at h
 rw [bE,decide_eq_true_eq] at h
 omega
theorem few_acts {L:Nat} {s:zab} (h:zbn L s=true):s.acts.length<=20:=by
 unfold zbn at h
 simp only [bE,decide_eq_true_eq] at h
 have:=h.1.1.2.2.2
 omega
theorem small_16 {s:zab} (h:zgo s 16=true) (hc:(zb3 s).2=true):cN s<=16:=by
 unfold zgo at h
 rw [bE,hc] at h
 have:=h.2
 simp only [Bool.not_true,Bool.false_or,decide_eq_true_eq] at this
 unfold cN;omega
theorem SAsAuto (au:zay) (hn:au.nodes.length<=4):Fn Tryz.prog 22 [] [vG [.d (.sl 3 (au.nodes.map zaf.d)),cIs au.first,.d (.sl 1 (au.good.map za3))]] (vG [.d (.sl 3 (au.nodes.map zaf.d)),cIs au.first,.d (.sl 1 (au.good.map za3))]) []:=by
 refine fB Tryz.func22 rfl 32 fun w H B a h=>Jq 0 [] [(1,vp 0 0),(2,vp 1 0)] [(0,.box [.d (.sl 3 (au.nodes.map zaf.d)),cIs au.first,.d (.sl 1 (au.good.map za3))]),(1,.box [nCl,nCl,nCl])] h fun a w h=>Jg 2 [] [] [(3,vp 2 0)] [] [(2,.box [nCl,cIs au.first,.d (.sl 1 (au.good.map za3))])] h fun a w h=>qW (Jg 3 [(2,.len (za1 3 zaf.d au.nodes))] [1] [(12,vS 3 (au.nodes.map zaf.d)),(13,vN au.nodes.length),(14,vI 0)] [0] [] h fun a w h=>qZ ?_)
 replace h:=zh4 2 0 3 3 128 [nCl,cIs au.first,.d (.sl 1 (au.good.map za3))] h;replace h:=cvM [] [] [] [(2,.box [.own 3 (au.nodes.take 0).length,cIs au.first,.d (.sl 1 (au.good.map za3))]),(3,.row 128 3 ((au.nodes.take 0).map zaf.d))] (by rw [List.take_zero]; try kernel_rfl) h
 refine zcc (ι:=(Nat)) (fun j=>j<=au.nodes.length)
   [] (fun j=>[(14,vN j)])
   [] (fun j=>[(2,.box [.own 3 (au.nodes.take j).length,cIs au.first,.d (.sl 1 (au.good.map za3))]),(3,.row 128 3 ((au.nodes.take j).map zaf.d))])
   (fun j=>au.nodes.length - j) 0 ?_ h ?_
 ·exact Nat.zero_le _
 clear h;rintro j a w hI h;have ltk:(au.nodes.take j).length<=4:=by rw [List.length_take];omega
 refine Je 4 [] [] [(15,vb (decide ((j:Int)<(au.nodes.length:Int))))] h fun a w h=>qW (zag ((j:Int)<(au.nodes.length:Int)) h (fun hc1 hc1'=>?_) (fun hc2 hc2'=>?_))
 ·refine qU (za0 (qW (qZ ?_)));obtain ⟨x1,hx1⟩:=gl au.nodes j;refine Jg 4 [(0,.g (xD 16 12 qe1_4 (za4 hx1 (f:=zaf.d)) (OV.tmp 14 _)))] [15] [(5,vp 4 0)] [] [(4,.box [cIs x1.must,cIs x1.never,cIs x1.next])] h fun a w h=>Jh 5 [(9,.g (bD 27 ([x1].map zaf.d) [(26,vG [cIs x1.must,cIs x1.never,cIs x1.next])] rc1_10 (.cons (i:=0) (OV.tmp 26 _) (.nil)) (by kernel_rfl) (by simp [zaf.d]))),(10,.g (Op.appOD (d:=28) (t:=19) (u:=27) (n:=3) (n':=5) (len:=(au.nodes.take j).length) (len':=((au.nodes.take j)++[x1]).length) (rows:=(au.nodes.take j).map zaf.d) (rows2:=[x1].map zaf.d) (rows':=((au.nodes.take j)++[x1]).map zaf.d) rc1_11 (by first | exact (bF _).symm | simp) (by first | (rw [bZ,bF];done) | (simp;done) | (simp;omega)) (by simp) (by simp [zaf.d]) (by first | omega | (simp only [bF,List.length_cons,List.length_nil];omega))))] [5] [] [3,4] [(2,.box ([.own 5 ((au.nodes.take j)++[x1]).length,cIs au.first,.d (.sl 1 (au.good.map za3))])),(5,.row 128 3 (((au.nodes.take j)++[x1]).map zaf.d))] h fun a w h=>za5 (za0 (Jf 6 [(0,.j1 j)] [] [(14,vI ((j:Int)+1))] h fun a w h=>za0 ?_));replace h:=cvM [] [] [] [(2,.box [.own 5 (au.nodes.take (j+1)).length,cIs au.first,.d (.sl 1 (au.good.map za3))]),(5,.row 128 3 ((au.nodes.take (j+1)).map zaf.d))] (by rw [show (au.nodes.take (j+1))=(au.nodes.take j)++[x1] by rw [List.take_add_one,hx1];rfl]; try kernel_rfl) h;replace h:=zd8 5 3 h;refine za9 (x:=j) (y:=j+1) h ?_ ?_
  ·have:=dT hc1;show j+1<=au.nodes.length;omega
  have:=dT hc1;show au.nodes.length - (j+1)<au.nodes.length - j;omega
 refine exA (Jg 6 [] [3,12,13,14,15] [] [2] [(1,.box [.own 3 (au.nodes.take j).length,cIs au.first,.d (.sl 1 (au.good.map za3))])] h fun a w h=>qV ?_);replace h:=cvM [] [] [] [(1,.box [.own 3 au.nodes.length,cIs au.first,.d (.sl 1 (au.good.map za3))]),(3,.row 128 3 (au.nodes.map zaf.d))] (by rw [show (au.nodes.take j)=au.nodes from cE (by have:=dF hc2;omega)]; try kernel_rfl) h;replace h:=zhz 3 3 128 (au.nodes.map zaf.d) h [au.nodes.length] ⟨by first | exact (bF _).symm | (simp;done) | (simp;omega),trivial⟩;refine rA 1 [.d (.sl 3 (au.nodes.map zaf.d)),cIs au.first,.d (.sl 1 (au.good.map za3))] h rc1_13 rfl ?_;rfl
theorem SConfineKnows (s:zab) (ps:List zal) (au:zay) (hr:SysRd s) (hp:zbp s) (hpl2:∀ p ∈ ps,p.f.lb) (hpl:ps.length<=9223372036854775807) (hnl:au.nodes.length<=9223372036854775807) (hgl:au.good.length<=9223372036854775807):Fn Tryz.prog 4 [] [vG [.d (.sl 1 (s.vars.map zdz)),.d (.sl 5 (s.bounds.map zaj.d)),cI s.init.kind,cPs s.init.r.t.parts,cB s.init.r.t.k.neg,.d (nsl s.init.r.t.k.abs),cB s.init.r.eq,cFs s.init.kids,.d (.sl 3 (s.procs.map zb2.d)),.d (.sl 10 (s.acts.map zb1.d))],vS 9 (ps.map zal.d),vG [.d (.sl 3 (au.nodes.map zaf.d)),cIs au.first,.d (.sl 1 (au.good.map za3))]] (vb true) []:=by
 refine fB Tryz.func4 rfl 50 fun w H B a h=>Jq 0 [] [(1,vS 9 (ps.map zal.d)),(3,vp 0 0),(5,vp 1 0),(6,vb false)] [(0,.box [.d (.sl 1 (s.vars.map zdz)),.d (.sl 5 (s.bounds.map zaj.d)),cI s.init.kind,cPs s.init.r.t.parts,cB s.init.r.t.k.neg,.d (nsl s.init.r.t.k.abs),cB s.init.r.eq,cFs s.init.kids,.d (.sl 3 (s.procs.map zb2.d)),.d (.sl 10 (s.acts.map zb1.d))]),(1,.box [.d (.sl 3 (au.nodes.map zaf.d)),cIs au.first,.d (.sl 1 (au.good.map za3))])] h fun a w h=>qW (Je 2 [(0,.call (Ssearching))] [] [(11,vb false)] h fun a w h=>zbs h (qU (za0 (qW ?_))))
 rcases cG (zgo s 16) with hc1 | hc8
 ·rcases cG (fewU au) with hc2 | hc7
  ·refine Je 2 [(1,.call (Fn.cast (Ssmall s 16 hr hp) (congrArg vb hc1))),(5,.call (Fn.cast (SFewU au hnl) (congrArg vb hc2))),(10,.call (SFewP ps hpl2 hpl))] [11] [(24,vb (!(fewP ps)))] h fun a w h=>cS (!(fewP ps)) h (fun hc3=>?_) (fun hc4=>?_)
   ·refine Je 2 [] [24] [(6,vb true)] h fun a w h=>qV (za2 (rT (.c (cB true)) h rfl ?_));rfl
   refine qU (za0 (qW (Je 2 [(1,.call (ORCount s (L:=3) (few_sys (small_few hc1) hr) (by decide) hp))] [24] [(8,vb (zb3 s).2)] h fun a w h=>Je 2 [] [8] [(31,vb (!(zb3 s).2))] h fun a w h=>cS (!(zb3 s).2) h (fun hc5=>?_) (fun hc6=>?_))))
   ·refine Je 2 [] [31] [(6,vb true)] h fun a w h=>qV (za2 (rT (.c (cB true)) h rfl ?_));rfl
   refine qU (za0 ?_);have hfs:=small_few hc1;have hs:=few_sys hfs hr;obtain ⟨hps,hpl3⟩:=fewP_ok (show (fewP ps)=true by have:=hc4;simpa using this) hpl2;have hau:=fewU_ok hc2 hgl;have haS:=fewU_s hc2 hgl;have hp4:=fewP_4 (show (fewP ps)=true by have:=hc4;simpa using this);have hcn:(zb3 s).2=true:=(show (zb3 s).2=true by have:=hc6;simpa using this);have hc16:=small_16 hc1 hcn;refine Jg 2 [(3,.call (SSearch s ps au 16777216 (L:=3) hs (by decide) hp hps hpl3 hau))] [31] [(9,vp 2 0)] [] [(2,.box [cI (zey s ps au 16777216).state,.d (.sl 2 ((zey s ps au 16777216).run.stem.map StD.d)),.d (.sl 2 ((zey s ps au 16777216).run.cycle.map StD.d)),cIs (zey s ps au 16777216).run.acts,cI (zey s ps au 16777216).left])] h fun a w h=>?_
   rcases knows (ps:=ps) hp hcn hc16 haS (few_acts hfs) with ⟨hk1,hk2⟩ | ⟨hk1,hk2⟩
   ·skip
    refine Jq 3 [(2,.cmp (op:=.eql) (m:=(zey s ps au 16777216).state) (n:=1) (b:=true) .i64 (show ((zey s ps au 16777216).state == 1)=true from by rw [hk1];rfl)),(6,.call (SAsAuto au haS.nodes)),(7,.call (Fn.cast (STaken s ps au hs hp hc16 hps hp4 haS) (congrArg vb hk2))),(8,.cmpb .eql (m:=true) (n:=true) (b:=true) (.inl ⟨rfl,(show (true == true)=true from by decide).symm⟩)),(12,.cmp (op:=.neq) (m:=(zey s ps au 16777216).state) (n:=3) (b:=true) .i64 (show ((zey s ps au 16777216).state != 3)=true from by rw [hk1];rfl))] [(6,vb true)] [] h fun a w h=>qV (rT (.c (cB true)) h rfl ?_);rfl
   skip
   refine Jq 3 [(2,.cmp (op:=.eql) (m:=(zey s ps au 16777216).state) (n:=1) (b:=false) .i64 (show ((zey s ps au 16777216).state == 1)=false from by rw [hk1];rfl)),(6,.call (SAsAuto au haS.nodes)),(7,.call (Fn.cast (STaken s ps au hs hp hc16 hps hp4 haS) (congrArg vb hk2))),(8,.cmpb .eql (m:=false) (n:=false) (b:=true) (.inl ⟨rfl,(show (false == false)=true from by decide).symm⟩)),(12,.cmp (op:=.neq) (m:=(zey s ps au 16777216).state) (n:=3) (b:=true) .i64 (show ((zey s ps au 16777216).state != 3)=true from by rw [hk1];rfl))] [(6,vb true)] [] h fun a w h=>qV (rT (.c (cB true)) h rfl ?_);rfl
  refine Je 3 [(1,.call (Fn.cast (Ssmall s 16 hr hp) (congrArg vb hc1))),(5,.call (Fn.cast (SFewU au hnl) (congrArg vb hc7)))] [11] [(24,vb true)] h fun a w h=>cS true h (fun _=>?_) nofun
  refine Je 3 [] [24] [(6,vb true)] h fun a w h=>qV (za2 (rT (.c (cB true)) h rfl ?_));rfl
 refine Je 3 [(1,.call (Fn.cast (Ssmall s 16 hr hp) (congrArg vb hc8)))] [11] [(24,vb true)] h fun a w h=>cS true h (fun _=>?_) nofun
 refine Je 3 [] [24] [(6,vb true)] h fun a w h=>qV (za2 (rT (.c (cB true)) h rfl ?_));rfl
section
open Go.WideShapes
theorem SConfineKnowsW (s:zab) (ps:List zal) (au:zay) (hs:SysRd s/\zbp s) (hp:ps.length<=maxLen/\∀ p ∈ ps,p.f.lb) (ha:au.nodes.length<=maxLen/\au.good.length<=maxLen):Fn Tryz.prog 4 [] [vd (zab.d s),vS 9 (ps.map zal.d),vd (zay.d au)] (vb true) [] :=
 SConfineKnows s ps au hs.1 hs.2 hp.2 (bR hp.1 (by decide)) (bR ha.1 (by decide)) (bR ha.2 (by decide))
end
end S
end Go.Proofs.YtdnhcneallkljaaGreat
section
namespace Go.Proofs.YtdnhcneallkljaaGreat.confineKnowsDone
open Go.ChangeShapes Go.WideShapes Go.ChangeAt Go.RowKit
open Go.ChangeMaps (open_string shut_string)
open Go.Proofs.YtdnhcneallkljaaGreat.S

theorem own:ownKnob Tryz.prog.godebug=none:=by kernel_rfl
theorem laidOut:laidOutB Tryz.prog=true:=by kernel_rfl

theorem lifted (os:Os) (started:os.Started) (H:Type) (enc:TypeId × Value->H) :
  ReturnsInHanded {} Tryz.checked os 4 .any (Rows.confineKnowsSpec.pre6 enc Tryz.prog Tryz.f4 Rows.confineKnowsRow.domain false) (Rows.confineKnowsSpec.post enc Tryz.prog Tryz.f4 false true false false):=by
 refine returnsInHanded_of_change_sized (C:=Tryz.checked) own started (by kernel_rfl) Tryz.func4
  (ChangeSpec.witness6 (enc:=enc) (C:=Tryz.checked) false ⟨#[],#[.agg #[.slice none 0 0,.slice none 0 0,.int .i64 0,.slice none 0 0,.bool false,.slice none 0 0,.bool false,.slice none 0 0,.slice none 0 0,.slice none 0 0],.slice none 0 0,.agg #[.slice none 0 0,.slice none 0 0,.slice none 0 0]],[]⟩ 12 (by kernel_rfl) (by kernel_rfl) (by kernel_rfl) (by kernel_rfl)) ?_
 intro W base args ds gs before hval0 hW hcnd hsz _
 have hval:∀ (j:Nat) t v,Tryz.f4.params[j]?=some t->args[j]?=some v->Value.okWide Tryz.prog W .any base t v:=hval0
 have hW':=hW
 obtain ⟨p,q,hA0,hV,rfl,hfz,hnd⟩:=hW
 have hA:DataW.TrodAll enc Tryz.prog W 0 (fun _=>true) true Tryz.f4.params.toList args.toList ds p:=hA0
 rw [Tryz.params4] at hA hval hsz
 obtain ⟨v0,vs0,d0,ds0,p0,q0,hargs,rfl,rfl,h0,r0⟩:=trodAll_cons hA
 obtain ⟨v1,vs1,d1,ds1,p1,q1,rfl,rfl,rfl,h1,r1⟩:=trodAll_cons r0
 obtain ⟨v2,vs2,d2,ds2,p2,q2,rfl,rfl,rfl,h2,r2⟩:=trodAll_cons r1
 obtain ⟨rfl,rfl,rfl⟩:=trodAll_nil r2
 obtain rfl:args=#[v0,v1,v2]:=by cases args;simp_all
 obtain ⟨rfl,rfl⟩:=trodVars_none hV
 have k0:=h0
 have lt0:∀ x ∈ p0,x.block<W.heap.size:=by obtain ⟨m,hm⟩:=k0;exact DataW.trod_lt m _ _ _ hm
 obtain ⟨a0,cs0,g0,rfl,dr0⟩:=rep_aggS Tryz.underlying39 (fun _=>rep_SysS) (hval 0 39 v0 rfl rfl) h0 (fun n hn=>of_decide_eq_true (List.all_eq_true.1 hsz n (DataW.weights_mem_each (j:=0) rfl rfl n hn)))
 have k1:=h1
 have lt1:∀ x ∈ p1,x.block<W.heap.size:=by obtain ⟨m,hm⟩:=k1;exact DataW.trod_lt m _ _ _ hm
 obtain ⟨a1,ao1,len1,cap1,g1,rfl,dr1⟩:=rep_one Tryz.underlying57 (fun _=>rep_PropsQ) (hval 1 57 v1 rfl rfl) h1
 have k2:=h2
 have lt2:∀ x ∈ p2,x.block<W.heap.size:=by obtain ⟨m,hm⟩:=k2;exact DataW.trod_lt m _ _ _ hm
 obtain ⟨a2,cs2,g2,rfl,dr2⟩:=rep_agg Tryz.underlying61 (fun _=>rep_AutQ) (hval 2 61 v2 rfl rfl) h2
 clear hA0 hval0
 refine ((SConfineKnowsW a0 a1 a2 g0 g1 g2).calls (w:=W) (vals:=[.agg ⟨cs0⟩,.slice ao1 len1 cap1,.agg ⟨cs2⟩]) fun B=>⟨dr_vd dr0 B,dr1,dr_vd dr2 B,trivial⟩).mono fun e W' ⟨he,bel⟩=>?_
 subst he
 exact ⟨_,rfl,_,_,_,[],_,[],hW', trodAll_mk1 (shut_bool Tryz.underlying4 _),(trodAll_cons_mk (Below.trod laidOut (by kernel_rfl) (of_decide_eq_true (by kernel_rfl)) k0 bel lt0) (trodAll_cons_mk (Below.trod laidOut (by kernel_rfl) (of_decide_eq_true (by kernel_rfl)) k1 bel lt1) (trodAll_cons_mk (Below.trod laidOut (by kernel_rfl) (of_decide_eq_true (by kernel_rfl)) k2 bel lt2) trodAll_mk0))),rfl,bel.below.frame _,fun h=>by cases h⟩

theorem over:Rows.confineKnowsRow.holds Tryz.pinned (OpenSpec.ofChange Rows.confineKnowsSpec) :=
 OpenClaim.holds_of_wide 4 Tryz.f4 rfl rfl rfl rfl rfl rfl rfl ⟨rfl,rfl,rfl,rfl,rfl⟩ rfl rfl rfl rfl rfl (by kernel_rfl) Tryz.func4 (by kernel_rfl)
  (of_decide_eq_true (by kernel_rfl)) (by unfold Func.isWrapper;first | (rw [if_pos (by decide +kernel)]; try kernel_rfl) | (rw [if_neg (by decide +kernel)];exact ⟨rfl,rfl⟩))
  (fun os started H enc _=>lifted os started H enc)

theorem proved:Rows.ConfineKnowsSaid:=over
end Go.Proofs.YtdnhcneallkljaaGreat.confineKnowsDone
end
