/-
  The proof of the statement WholeWords. It holds for every input.
-/
import Derived.Test.YtjnkkdfojfjncaaGreatWW4
import Derived.Test.YtjnkkdfojfjncaaGreatWW5
import Derived.Test.YtjnkkdfojfjncaaGreatRows
import Derived.ProofKit
import Derived.OpenShut
import Derived.ShutString
import Derived.ChangeOld
import Derived.Below
import Derived.Deep.Slices
import Derived.ChangeArms
import Derived.JoinedCond
set_option maxRecDepth 100000
set_option maxHeartbeats 20000000
open Go.RowKit
open List renaming length_map->bA,mem_map->bE,length_append->bF,append_nil->bG,getElem?_eq_getElem->bH,map_append->bI,map_cons->bJ,getElem?_eq_some_iff->bK,mem_of_getElem?->bL,getElem_mem->bM,mem_singleton->bO,flatten_cons->bP,getElem?_eq_none->bQ,take_of_length_le->bR,map_nil->bS,getElem?_map->bT,getElem_map->bU,length_cons->bV,length_dropLast->bW,getElem?_set_ne->bX,getElem?_set_self->bY,range_succ->b7,filter_append->b8,length_filter_le->b9,map_replicate->cA,filter_cons_of_pos->cC,filter_cons_of_neg->cD,length_filterMap_le->cE,mem_cons->cF,flatten_nil->cH,map_congr_left->cJ,mem_append->cK,length_take->cL,nodup_nil->cM,dropLast_subset->cO,ext_getElem?->cP,getElem?_range->cQ,pairwise_iff_getElem->cR,flatMap_cons->cU,mem_flatMap->cV,length_nil->cW,mem_replicate->cX,length_replicate->cY,length_eq_zero_iff->cZ,length_zipIdx->c8,getElem?_eq_none_iff->dA,mem_append_left->dE,mem_iff_getElem?->dH
open Nat renaming zero_le->bB,le_trans->bC,beq_refl->cG,mul_add_mod_of_lt->dG
open Bool renaming eq_false_or_eq_true->bN,and_eq_true->dB,eq_iff_iff->dC
open Option renaming map_some->bZ,bind_some->cT,map_eq_some_iff->c7,toList_some->dD
open Int renaming toNat_of_nonneg->cN
open Go.Proofs.Tryz renaming prog->dI
open Go.Proofs.YtjnkkdfojfjncaaGreat.S.OV renaming tmp->dJ
open Go.Proofs.YtjnkkdfojfjncaaGreat.S.PrD renaming d->dL
open Go.Proofs.YtjnkkdfojfjncaaGreat.S.za4 renaming d->dM
namespace Go.Proofs.YtjnkkdfojfjncaaGreat
namespace S
variable {e:E} {f:F} {w:World} {n es m j k:Nat} {ty:TypeId} {X:List (List D)} {al:List PrD} {p:PrD} {ks todo an:List Int} {s:OfS} {ns:List za4} {out:List Bool} {x:za4} {a:zca} {α H:Type} {wd:zaf}
theorem all2_mapd {H:Im} {B:Bl}:∀ {xs:List D} {ys:List Value}, zat (CR H B) (xs.map C.d) ys ↔ zat (DR H) xs ys
 | [],[]=>Iff.rfl
 | [],_ :: _=>Iff.rfl
 | _ :: _,[]=>Iff.rfl
 | x :: xs,y :: ys=>by
  show (CR H B (.d x) y/\zat (CR H B) (xs.map C.d) ys) ↔ (DR H x y/\zat (DR H) xs ys)
  rw [all2_mapd];exact Iff.rfl
theorem zev:∀ (X:List (List D)),(X.map (List.map C.d)).flatten=X.flatten.map C.d
 | []=>rfl
 | x :: X=>by rw [bJ,bP,bP,bI,zev X]
theorem St.toRC {a:Act} (h:St e f a w) (hl:f.l n=some (.row ty es X)):St e (f.setL n (.rowc ty es (X.map (List.map C.d)))) a w:=by
 obtain ⟨H,B,hok⟩:=h
 refine ⟨H,B,hok.setL n _ _ hl fun h3=>?_⟩
 simp only [LR] at h3 ⊢
 cases hB:B n with
 | none=>rw [hB] at h3;have h3:X=[]:=h3;subst h3;rfl
 | some q =>
  rw [hB] at h3
  obtain ⟨arr,g1,g2,g3,g4,g5,g6⟩:=h3
  refine ⟨arr,g1,g2,by rw [bA];exact g3,g4,fun r hr=>?_,?_⟩
  ·obtain ⟨r0,h5,rfl⟩:=bE.1 hr
   rw [bA];exact g5 r0 h5
  ·rw [zev,bA];exact all2_mapd.2 g6
theorem St.toRR {a:Act} (h:St e f a w) (hl:f.l n=some (.rowc ty es (X.map (List.map C.d)))):St e (f.setL n (.row ty es X)) a w:=by
 obtain ⟨H,B,hok⟩:=h
 refine ⟨H,B,hok.setL n _ _ hl fun h3=>?_⟩
 simp only [LR] at h3 ⊢
 cases hB:B n with
 | none=>rw [hB] at h3;exact List.map_eq_nil_iff.1 h3
 | some q =>
  rw [hB] at h3
  obtain ⟨arr,g1,g2,g3,g4,g5,g6⟩:=h3
  rw [bA] at g3 g6
  rw [zev] at g6
  refine ⟨arr,g1,g2,g3,g4,fun r hr=>?_,all2_mapd.1 g6⟩
  have:=g5 _ (bE.2 ⟨r,hr,rfl⟩)
  rwa [bA] at this
theorem pub_mapd {rows:List (List D)}:∀ (xs:List D),(xs.map C.d).map (C.pub m es rows)=xs.map C.d
 | []=>rfl
 | x :: xs=>by rw [bJ,bJ,pub_mapd xs];rfl
theorem owns_mapd:∀ (xs:List D),(xs.map C.d).flatMap (C.owns m)=[]
 | []=>rfl
 | x :: xs=>by rw [bJ,cU,owns_mapd xs];rfl
theorem Op.appOR {P:Program} {d t u n' sn len len2 len' bs:Nat} {rows2 rows':List (List C)} {xt el:TypeId} {pos af gd} (hT:ElT P xt el es bs) (hlen:len=X.length) (hlen2:len2=rows2.length) (hlen':len'=len+rows2.length) (hrow:X.map (List.map C.d)++rows2=rows')
  (hb:(len+rows2.length)*bs<=140737488355328) :
  zar P ⟨some d,.call { callee:=.builtin .append,args:=#[.tmp t,.tmp u],argTypes:=#[xt,xt] }, ty,pos,af,gd⟩
   { rs:=[(t,.t (.c (.own n len))),(u,.t (.c (.own sn len2)))],rl:=[(n,.row el es X),(sn,.rowc el es rows2)],ws:=[(d,some (.t (.c (.own n' len'))))],wl:=[(n', some (.rowc el es rows')),(n,none)],nw:=[n'] }:=by
 intro e f a w Q hst hr hn hf
 have hl:f.l n=some (.row el es X):=hr.2 (n,.row el es X) (by simp)
 have hl2:f.l sn=some (.rowc el es rows2):=hr.2 (sn,.rowc el es rows2) (by simp)
 have hne:sn≠n:=fun q=>by subst q;rw [hl] at hl2;cases hl2
 have hnew:=hn n' (by simp)
 have hnn:n≠n':=hnew.ne hl
 have h1:=Op.appOOC (P:=P) (d:=d) (t:=t) (u:=u) (n:=n) (n':=n') (sn:=sn) (len:=len) (len2:=len2) (len':=len') (rows:=X.map (List.map C.d)) (rows2:=rows2) (rows':=rows') (ty:=ty) (pos:=pos) (af:=af) (gd:=gd) hT (by rw [bA];exact hlen) hlen2 hlen' hrow hb e (f.setL n (.rowc el es (X.map (List.map C.d)))) a w Q (hst.toRC hl)
  ⟨fun p hp=>hr.1 p hp,fun p hp=>by
   rcases cF.1 hp with rfl | hp
   ·show (if Nat.beq n n then _ else _)=_
    rw [cG,if_pos rfl]
   ·rw [bO.1 hp]
    show (if Nat.beq sn n then _ else _)=_
    rw [zck hne,if_neg (by simp)];exact hl2⟩
  (fun k hk=>by
   rw [bO.1 hk]
   refine ⟨hnew.1,?_,hnew.2.2.1,fun m l hm=>?_⟩
   ·show (if Nat.beq n' n then _ else _)=_
    rw [zck (fun q=>hnn q.symm),if_neg (by simp)];exact hnew.2.1
   ·have hm:(if Nat.beq m n then some (L.rowc el es (X.map (List.map C.d))) else f.l m)=some l:=hm
    by_cases q:m=n
    ·rw [q,cG,if_pos rfl] at hm
     have hm:=Option.some.inj hm
     subst hm
     simp only [L.tags,zev]
     intro h2
     obtain ⟨c,hc,h3⟩:=cV.1 h2
     obtain ⟨x,_,rfl⟩:=bE.1 hc
     simp [C.tags] at h3
    ·rw [zck q,if_neg (by simp)] at hm
     exact hnew.2.2.2 m l hm) hf
 have e1:(f.setL n (.rowc el es (X.map (List.map C.d)))).app { rs:=[(t,.t (.c (.own n len))),(u,.t (.c (.own sn len2)))],rl:=[(n,.rowc el es (X.map (List.map C.d))),(sn,.rowc el es rows2)],ws:=[(d,some (.t (.c (.own n' len'))))],wl:=[(n', some (.rowc el es rows')),(n,none)],nw:=[n'] } =
   f.app { rs:=[(t,.t (.c (.own n len))),(u,.t (.c (.own sn len2)))],rl:=[(n,.row el es X),(sn,.rowc el es rows2)],ws:=[(d,some (.t (.c (.own n' len'))))],wl:=[(n', some (.rowc el es rows')),(n,none)],nw:=[n'] }:=by
  refine F.eq_of (fun _=>rfl) fun m=>?_
  simp only [F.app,List.lookup_cons,List.lookup_nil]
  cases h5:(m == n') with
  | true=>rfl
  | false =>
   cases h6:(m == n) with
   | true=>rfl
   | false =>
    show (if Nat.beq m n then _ else f.l m)=f.l m
    rw [zck (by simpa using h6),if_neg (by simp)]
 rw [e1] at h1
 exact h1
section
variable {w0:World} {H0:Im} {B0:Bl} {N:Nat} {sl:List (Nat × V)} {lc:List (Nat × L)} {a:Act} {w:World}
theorem pubRow (n m es es2 k9:Nat) (ty ty2:TypeId) (X:List (List D)) (pre:List D) (rows:List (List D)) (sl':List (Nat × V)) (lc':List (Nat × L)) (h:St ⟨w0,H0,B0,[],N⟩ (F.of sl lc) a w)
  (hk9:k9=rows.length) (hn:lc.lookup n=some (.rowc ty es (X.map (List.map C.d)++[pre.map C.d++[.own m k9]]))) (hm:lc.lookup m=some (.row ty2 es2 rows)) (hnm:Nat.beq n m=false)
  (h1:zcg rows.length (sl.flatMap (·.2.owns m))) (h2:zcg rows.length ((lc.filter fun p=>!Nat.beq p.1 n).flatMap (·.2.owns m)))
  (h3:leS (((F.of sl lc).pub m es2 rows).setL n (.row ty es (X++[pre++[.sl es2 rows]]))) sl'=sl'.map fun p=>some p.2)
  (h4:leN (((F.of sl lc).pub m es2 rows).setL n (.row ty es (X++[pre++[.sl es2 rows]]))) lc'=lc'.map fun p=>some p.2):St ⟨w0,H0,B0,[],N⟩ (F.of sl' lc') a w:=by
 subst hk9
 have ho:∀ k ∈ L.owns m (.rowc ty es (X.map (List.map C.d)++[pre.map C.d++[.own m rows.length]])),k=rows.length:=fun k hk=>by
  simp only [L.owns,List.flatten_append,List.flatMap_append,zev,owns_mapd,bP,cH,bG,List.nil_append,cU,List.flatMap_nil,C.owns,cG,if_true,bO] at hk
  exact hk
 have hp:=h.pub m es2 ty2 rows hm (fun t v hv k hk=>zcg.mem h1 k (cV.2 ⟨(t,v),ofS_mem hv,hk⟩)) fun x l hx k hk=>by
  by_cases e:x=n
  ·subst e
   have:some l=some _:=hx.symm.trans hn
   cases this
   exact ho k hk
  ·exact zcg.mem h2 k (cV.2 ⟨(x,l),List.mem_filter.2 ⟨ofL_mem hx,by simp only [Bool.not_eq_true'];exact zck e⟩,hk⟩)
 have hat:((F.of sl lc).pub m es2 rows).l n=some (.rowc ty es ((X++[pre++[D.sl es2 rows]]).map (List.map C.d))):=by
  show (if Nat.beq n m then none else ((F.of sl lc).l n).map (L.pub m es2 rows))=_
  rw [hnm,if_neg (by simp),show (F.of sl lc).l n=_ from hn]
  show some (L.rowc ty es _)=_
  congr 2
  rw [bI,bI,List.map_map]
  congr 1
  ·exact cJ fun x _=>pub_mapd x
  ·rw [bJ,bS,bJ,bS,bI,bI,pub_mapd]
   simp only [bJ,bS,C.pub,cG,if_true]
 exact (hp.toRR hat).weaken (zf8 h3 h4)
end
theorem vd0_9:Sz dI 37 3 true:=Sz.mk' (by kernel_rfl) Tryz.underlying37 _ rfl
theorem vd0_10:SlT dI 75 81 2:=SlT.mk' Tryz.underlying75 (by kernel_rfl)
theorem vd0_11:Sz dI 81 2 true:=Sz.mk' (by kernel_rfl) Tryz.underlying81 _ rfl
theorem numP_ok (hnd:al.Nodup) (hin:∀ q ∈ al,zgr q) (hp:zgr p):(zbr al p).1.Nodup/\(∀ q ∈ (zbr al p).1,zgr q)/\(zbr al p).1.length<=al.length+1/\∃ ext,(zbr al p).1=al++ext:=by
 by_cases h:p ∈ al
 ·rw [num_in h];exact ⟨hnd,hin,by simp,[],by simp⟩
 ·rw [num_out h]
  refine ⟨List.nodup_append.2 ⟨hnd,by simp,fun a ha b hb e=>?_⟩,fun q hq=>?_,by simp,[p],rfl⟩
  ·rw [bO.1 hb] at e;exact h (e ▸ ha)
  ·rcases cK.1 hq with h1 | h1
   ·exact hin q h1
   ·rw [bO.1 h1];exact hp
theorem fold_ok:∀ (ps:List PrD) (al:List PrD) (ns:List Int),al.Nodup->(∀ q ∈ al,zgr q)->(∀ q ∈ ps,zgr q)->(ps.foldl (fun s p=>((zbr s.1 p).1,s.2++[(zbr s.1 p).2])) (al,ns)).1.Nodup/\(∀ q ∈ (ps.foldl (fun s p=>((zbr s.1 p).1,s.2++[(zbr s.1 p).2])) (al,ns)).1,zgr q) /\
  (ps.foldl (fun s p=>((zbr s.1 p).1,s.2++[(zbr s.1 p).2])) (al,ns)).1.length<=al.length+ps.length/\(ps.foldl (fun s p=>((zbr s.1 p).1,s.2++[(zbr s.1 p).2])) (al,ns)).2.length=ns.length+ps.length/\∃ ext,(ps.foldl (fun s p=>((zbr s.1 p).1,s.2++[(zbr s.1 p).2])) (al,ns)).1=al++ext
 | [],al,ns,h1,h2,_=>⟨h1,h2,by simp,by simp,[],by simp⟩
 | p :: ps,al,ns,h1,h2,h3=>by
  obtain ⟨a1,a2,a3,e1,a4⟩:=numP_ok h1 h2 (h3 p (by simp))
  obtain ⟨b1,b2,b3,b4,e2,b5⟩:=fold_ok ps (zbr al p).1 (ns++[(zbr al p).2]) a1 a2 (fun q hq=>h3 q (by simp [hq]))
  rw [List.foldl_cons]
  refine ⟨b1,b2,?_,?_,e1++e2,?_⟩
  ·refine bC b3 ?_
   simp only [bV];omega
  ·rw [b4];simp only [bF,bV,cW];omega
  ·rw [b5,a4,List.append_assoc]
theorem numPs_ok {ps:List PrD} (h1:al.Nodup) (h2:∀ q ∈ al,zgr q) (h3:∀ q ∈ ps,zgr q):(zaq al ps).1.Nodup/\(∀ q ∈ (zaq al ps).1,zgr q)/\(zaq al ps).1.length<=al.length+ps.length/\(zaq al ps).2.length=ps.length/\∃ ext,(zaq al ps).1=al++ext:=by
 have h:=fold_ok ps al [] h1 h2 h3
 simpa [zaq] using h
def nmJ (al:List PrD) (ks:List Int) (b:Int) (j:Nat):List PrD × List Int:=zaq al ((ks.take j).map fun k=>PrD.mk k b)
theorem nmJ_step {b:Int} {k:Int} (h:ks[j]?=some k):nmJ al ks b (j+1)=((zbr (nmJ al ks b j).1 ⟨k,b⟩).1,(nmJ al ks b j).2++[(zbr (nmJ al ks b j).1 ⟨k,b⟩).2]):=by
 unfold nmJ zaq
 rw [List.take_add_one,h,dD,bI,List.foldl_append]
 rfl
def InI6 (n:Int):Prop:=-9223372036854775808<=n/\n<=9223372036854775807
theorem nmJ_ok {b:Int} (j:Nat) (h1:al.Nodup) (h2:∀ q ∈ al,zgr q) (hk:∀ k ∈ ks,InI6 k) (hb:InI6 b):(nmJ al ks b j).1.Nodup/\(∀ q ∈ (nmJ al ks b j).1,zgr q)/\(nmJ al ks b j).1.length<=al.length+ks.length/\(nmJ al ks b j).2.length<=ks.length:=by
 obtain ⟨a1,a2,a3,a4,_⟩:=numPs_ok (ps:=(ks.take j).map fun k=>PrD.mk k b) h1 h2 fun q hq=>by
  obtain ⟨k,hk2,rfl⟩:=bE.1 hq
  exact ⟨hk k (List.mem_of_mem_take hk2),hb⟩
 rw [bA,cL] at a3 a4
 refine ⟨a1,a2,?_,?_⟩
 ·exact bC a3 (by omega)
 ·have:(nmJ al ks b j).2.length=min j ks.length:=a4
  omega
theorem thr_in (hn:n<=1000000):∀ k ∈ zac n ks,InI6 k:=fun k hk=>by
 obtain ⟨_,h1,h2⟩:=zc6.1 hk
 unfold InI6;omega
theorem PrOk.in {g:GbD} (hg:zff g) (hst:zep g) (h:PrOk g p):zgr p:=by
 obtain ⟨⟨h1,h2⟩,h3,h4⟩:=h
 have:=hg.1;have:=hst.1
 refine ⟨⟨?_,?_⟩,?_,?_⟩ <;> omega
theorem beh_in {g:GbD} (hst:zep g) (h:PrOk g p):InI6 (zcb g p):=by
 obtain ⟨h1,h2⟩:=beh_ok h
 have:=hst.1
 unfold InI6;omega
def zhy (g:GbD):Option zca:=(runO g 4098 ⟨(zc9 g).1,[]⟩).map (autO g)
def az (r:Option zca):zca:=r.getD ⟨[],[],[]⟩
theorem runO_end {g:GbD} (h:s.al.length<=s.nodes.length):runO g (n+1) s=some s:=by
 show (match s.al[s.nodes.length]? with | none=>some s | some p=>_)=_
 rw [bQ h]
theorem runO_big {g:GbD} (h:s.al[s.nodes.length]?=some p) (hb:s.al.length>4096):runO g (n+1) s=none:=by
 show (match s.al[s.nodes.length]? with | none=>some s | some p=>_)=_
 rw [h];exact if_pos hb
theorem runO_step {g:GbD} (h:s.al[s.nodes.length]?=some p) (hb:¬ s.al.length>4096):runO g (n+1) s=runO g n (zf7 g s p):=by
 show (match s.al[s.nodes.length]? with | none=>some s | some p=>_)=_
 rw [h];exact if_neg hb
def ze8 (g:GbD) (s:OfS):List Bool:=(s.al.take s.nodes.length).map (zen g)
theorem gooJ_step {g:GbD} (h:s.al[s.nodes.length]?=some p) (h1:(zf7 g s p).al[s.nodes.length]?=some p) (h2:∃ ext,(zf7 g s p).al=s.al++ext):ze8 g (zf7 g s p)=ze8 g s++[zen g p]:=by
 unfold ze8
 obtain ⟨ext,h2⟩:=h2
 have hl:(zf7 g s p).nodes.length=s.nodes.length+1:=by simp [zf7]
 rw [hl,List.take_add_one,h1,dD,bI]
 congr 1
 rw [h2,List.take_append_of_le_length (Nat.le_of_lt (bK.1 h).1)]
structure OfI (g:GbD) (s:OfS):Prop where
  inv:OInv g s
  al:s.al.length<=20000
  nl:s.nodes.length<=4096
theorem aft_in {g:GbD} (hg:zff g) (hst:zep g) (h:PrOk g p):∀ q ∈ zbk g p,zgr q:=fun q hq=>(aft_ok h hq).in hg hst
theorem aft_le {g:GbD} (hg:zff g) (p:PrD):(zbk g p).length<=10000:=by
 unfold zbk
 rw [bA]
 refine bC (zfa _ _) ?_
 unfold gnd ndI
 split
 ·cases h:g.nodes[p.st.toNat]? with
  | none=>simp
  | some n=>exact (hg.2 n (bL h)).2.2
 ·simp
theorem stp_al {g:GbD} (hg:zff g) (hst:zep g) (h:OInv g s) (hp:s.al[s.nodes.length]?=some p):(zf7 g s p).al.length<=s.al.length+10000/\(∃ ext,(zf7 g s p).al=s.al++ext)/\(zf7 g s p).al[s.nodes.length]?=some p:=by
 have hpo:=h.ok p (bL hp)
 obtain ⟨a1,a2,a3,a4,e,a5⟩:=numPs_ok (ps:=zbk g p) h.nd (fun q hq=>(h.ok q hq).in hg hst) (aft_in hg hst hpo)
 have:=aft_le hg p
 refine ⟨?_,⟨e,a5⟩,?_⟩
 ·show (zaq s.al (zbk g p)).1.length<=_
  omega
 ·show (zaq s.al (zbk g p)).1[s.nodes.length]?=some p
  rw [a5,List.getElem?_append_left (bK.1 hp).1,hp]
theorem OfI.step {g:GbD} (hg:zff g) (hst:zep g) (h:OfI g s) (hp:s.al[s.nodes.length]?=some p) (hb:¬ s.al.length>4096):OfI g (zf7 g s p):=by
 obtain ⟨h1,_,_⟩:=stp_al hg hst h.inv hp
 refine ⟨stp_inv h.inv hp,by omega,?_⟩
 have hl:(zf7 g s p).nodes.length=s.nodes.length+1:=by simp [zf7]
 have:=(bK.1 hp).1
 omega
theorem OfI.beg {g:GbD} (hg:zff g) (hf:g.first.length<=10000):OfI g ⟨(zc9 g).1,[]⟩:=by
 refine ⟨beg_inv g,?_,bB _⟩
 have h:=(nmJ_ok (al:=[]) (ks:=zac g.nodes.length g.first) (b:=0) g.first.length cM (fun q hq=>by cases hq) (thr_in (by have:=hg.1;omega)) ⟨by decide,by decide⟩).2.2.1
 have h1:=zfa g.nodes.length g.first
 have e:nmJ [] (zac g.nodes.length g.first) 0 g.first.length=zc9 g:=by unfold nmJ zc9;rw [bR h1]
 rw [e] at h
 show (zc9 g).1.length<=20000
 simp at h;omega
theorem zew (ks:List Int) (n:Nat) (hks:ks.length<=1000000):Fn dI 30 [] [(vIs ks),vi .i64 (n:Int)] (vO 40 (zac n ks).length) [(40,.row 3 1 ((zac n ks).map za3))] :=
 Fn.renA 0 40 (SBThere ks n hks) rfl rfl rfl rfl rfl rfl rfl
theorem SBehindC (len:Nat) (g:GbD) (p:PrD) (hp:PrOk g p) (hst:zep g):Fn dI 67 [(0,.box [.d (.sl 3 (g.nodes.map dM)),cIs g.first,.d (.sl 1 (g.sets.map (slD 1 za3))),.mp 1,.own 2 len])] [vp 0 0,vG [cI p.st,cI p.nd]] (vi .i64 (zcb g p)) [(0,.box [.d (.sl 3 (g.nodes.map dM)),cIs g.first,.d (.sl 1 (g.sets.map (slD 1 za3))),.mp 1,.own 2 len])] :=
 Fn.idle (j:=3) (x:=.mp 1) (fun v3 _=>Fn.idle (j:=4) (x:=.own 2 len) (fun v4 _=>SBehind v3 v4 g p hp hst) rfl rfl rfl) rfl rfl rfl
theorem SGoodD (len:Nat) (g:GbD) (p:PrD) (hst:zep g):Fn dI 33 [(0,.box [.d (.sl 3 (g.nodes.map dM)),cIs g.first,.d (.sl 1 (g.sets.map (slD 1 za3))),.mp 1,.own 22 len])] [vp 0 0,vG [cI p.st,cI p.nd]] (vb (zen g p)) [(0,.box [.d (.sl 3 (g.nodes.map dM)),cIs g.first,.d (.sl 1 (g.sets.map (slD 1 za3))),.mp 1,.own 22 len])] :=
 Fn.idle (j:=3) (x:=.mp 1) (fun v3 _=>Fn.idle (j:=4) (x:=.own 22 len) (fun v4 _=>SGoodC v3 v4 g p hst) rfl rfl rfl) rfl rfl rfl
theorem SNumD (g:GbD) (al:List PrD) (p:PrD) (hnd:al.Nodup) (hin:∀ q ∈ al,zgr q) (hip:zgr p) (hal:al.length<=1000000):Fn dI 31 [(0,.box [.d (.sl 3 (g.nodes.map dM)),cIs g.first,.d (.sl 1 (g.sets.map (slD 1 za3))),.mp 1,.own 22 al.length]),(1,.mp (knM al)),(22,.row 81 2 (al.map dL))] [vp 0 0,vG [cI p.st,cI p.nd]] (vi .i64 (zbr al p).2) [(0,.box [.d (.sl 3 (g.nodes.map dM)),cIs g.first,.d (.sl 1 (g.sets.map (slD 1 za3))),.mp 1,.own 32 (zbr al p).1.length]),(1,.mp (knM (zbr al p).1)),(32,.row 81 2 ((zbr al p).1.map dL))]:=by
 have h2:Fn dI 31 [(0,.box [.d (.sl 3 (g.nodes.map dM)),cIs g.first,.d (.sl 1 (g.sets.map (slD 1 za3))),.mp 1,.own 22 al.length]),(1,.mp (knM al)),(22,.row 81 2 (al.map dL))] [vp 0 0,vG [cI p.st,cI p.nd]] (vi .i64 (zbr al p).2) [(0,.box [.d (.sl 3 (g.nodes.map dM)),cIs g.first,.d (.sl 1 (g.sets.map (slD 1 za3))),.mp 1,.own 12 (zbr al p).1.length]),(1,.mp (knM (zbr al p).1)),(12,.row 81 2 ((zbr al p).1.map dL))]:=by
  refine Fn.renP (args':=[vp 0 0,vG [cI p.st,cI p.nd]]) 2 22 (SNumC g al p hnd hin hip hal) (by decide) rfl rfl ?_ ?_ <;> kernel_rfl
 refine Fn.renA 12 32 h2 rfl rfl rfl rfl ?_ ?_ ?_ <;> kernel_rfl
theorem SNodeC (g:GbD) (al:List PrD) (p:PrD) (hg:zff g) (hst:zep g) (hpo:PrOk g p) (hnd:al.Nodup) (hin:∀ q ∈ al,zgr q) (hal:al.length<=900000):Fn dI 32 [(0,.box [.d (.sl 3 (g.nodes.map dM)),cIs g.first,.d (.sl 1 (g.sets.map (slD 1 za3))),.mp 1,.own 2 al.length]),(1,.mp (knM al)),(2,.row 81 2 (al.map dL))] [vp 0 0,vG [cI p.st,cI p.nd]] (vG [cIs (gnd g p.st).must,cIs (gnd g p.st).never,.own 24 (zaq al (zbk g p)).2.length]) [(0,.box [.d (.sl 3 (g.nodes.map dM)),cIs g.first,.d (.sl 1 (g.sets.map (slD 1 za3))),.mp 1,.own 12 (zaq al (zbk g p)).1.length]),(1,.mp (knM (zaq al (zbk g p)).1)),(12,.row 81 2 ((zaq al (zbk g p)).1.map dL)),(24,.row 3 1 ((zaq al (zbk g p)).2.map za3))]:=by
 have hg1:=hg.1;have hbi:=beh_in hst hpo;refine fB Tryz.func32 rfl 55 fun w H B a h=>Jq 50 [] [(0,vp 0 0),(3,vp 50 0),(4,vp 51 0)] [(0,.box [.d (.sl 3 (g.nodes.map dM)),cIs g.first,.d (.sl 1 (g.sets.map (slD 1 za3))),.mp 1,.own 2 al.length]),(1,.mp (knM al)),(2,.row 81 2 (al.map dL)),(50,.box [cI p.st,cI p.nd]),(51,.box [nCl,nCl,nCl])] h fun a w h=>?_
 obtain ⟨k,hkk⟩:∃ k_:Nat,p.st=(k_:Int):=⟨_,(cN (hpo.1.1)).symm⟩;replace h:=cvM [] [] [] [(50,.box [cI (k:Int),cI p.nd])] (by rw [hkk]; try kernel_rfl) h;obtain ⟨x1,hx1⟩:∃ z_:za4,g.nodes[k]?=some z_:=⟨_,bH (by have:=hpo.1.2;omega)⟩;refine Jg 52 [(1,.g (Op.nilQ (d:=11) (t:=10) (n:=0) (o:=0))),(7,.g (xD 17 14 zh8 (zab hx1 (f:=dM)) (dJ 16 _)))] [] [(5,vp 52 0)] [] [(52,.box [cIs x1.must,cIs x1.never,cIs x1.next])] h fun a w h=>?_;replace h:=cvM [] [] [] [(50,.box [cI p.st,cI p.nd])] (by rw [hkk]; try kernel_rfl) h;have hgn:gnd g p.st=x1:=by unfold gnd;rw [hkk,ndI_at hx1];rfl
 have hnb:=hg.2 x1 (lM hx1);refine Jg 53 [(2,.call (SClI x1.must (by have:=hg.2 x1 (lM hx1);omega))),(5,.call (SClI x1.never (by have:=hg.2 x1 (lM hx1);omega)))] [] [(6,vp 53 0)] [] [(53,.box [cIs x1.must,cIs x1.never,nCl])] h fun a w h=>Jg 54 [(2,.call (SBehindC al.length g p hpo hst))] [3] [(7,vI (zcb g p))] [50] [] h fun a w h=>qW (Jg 54 [(3,.g (Op.nilQ (d:=32) (t:=31) (n:=0) (o:=0))),(7,.len (za9 3 dM g.nodes)),(8,.call (zew x1.next g.nodes.length (by omega)))] [5] [(37,vO 40 (zac g.nodes.length x1.next).length),(38,vI ((zac g.nodes.length x1.next).length:Int)),(39,vI 0)] [52] [(40,.row 3 1 ((zac g.nodes.length x1.next).map za3))] h fun a w h=>qZ ?_);replace h:=pubKX 40 1 3 ((zac g.nodes.length x1.next).map za3) h [(zac g.nodes.length x1.next).length] ⟨by first | exact (bA _).symm | (simp;done) | (simp;omega),trivial⟩;replace h:=zb7 2 22 h;replace h:=zft 53 2 54 1 3 [cIs x1.must,cIs x1.never,nCl] h;replace h:=zb7 54 24 h;replace h:=cvM [] [] [] [(0,.box [.d (.sl 3 (g.nodes.map dM)),cIs g.first,.d (.sl 1 (g.sets.map (slD 1 za3))),.mp 1,.own 22 (nmJ al (zac g.nodes.length x1.next) (zcb g p) 0).1.length]),(1,.mp (knM (nmJ al (zac g.nodes.length x1.next) (zcb g p) 0).1)),(53,.box [cIs x1.must,cIs x1.never,.own 24 (nmJ al (zac g.nodes.length x1.next) (zcb g p) 0).2.length]),(22,.row 81 2 ((nmJ al (zac g.nodes.length x1.next) (zcb g p) 0).1.map dL)),(24,.row 3 1 ((nmJ al (zac g.nodes.length x1.next) (zcb g p) 0).2.map za3))] (by kernel_rfl) h
 refine zdp (ι:=(Nat)) (fun j=>j<=(zac g.nodes.length x1.next).length)
   [] (fun j=>[(39,vN j)])
   [] (fun j=>[(0,.box [.d (.sl 3 (g.nodes.map dM)),cIs g.first,.d (.sl 1 (g.sets.map (slD 1 za3))),.mp 1,.own 22 (nmJ al (zac g.nodes.length x1.next) (zcb g p) j).1.length]),(1,.mp (knM (nmJ al (zac g.nodes.length x1.next) (zcb g p) j).1)),(53,.box [cIs x1.must,cIs x1.never,.own 24 (nmJ al (zac g.nodes.length x1.next) (zcb g p) j).2.length]),(22,.row 81 2 ((nmJ al (zac g.nodes.length x1.next) (zcb g p) j).1.map dL)),(24,.row 3 1 ((nmJ al (zac g.nodes.length x1.next) (zcb g p) j).2.map za3))])
   (fun j=>(zac g.nodes.length x1.next).length - j) 0 ?_ h ?_
 ·exact bB _
 clear h;rintro j a w hI h;obtain ⟨hJ1,hJ2,hJ3,hJ4⟩:=nmJ_ok (ks:=(zac g.nodes.length x1.next)) (b:=zcb g p) j hnd hin (thr_in (by omega)) hbi;have hJ5:=zfa g.nodes.length x1.next;refine Je 55 [] [] [(40,vb (decide ((j:Int)<((zac g.nodes.length x1.next).length:Int))))] h fun a w h=>qW (zav ((j:Int)<((zac g.nodes.length x1.next).length:Int)) h (fun hc1 hc1'=>?_) (fun hc2 hc2'=>?_))
 ·refine qU (za1 (qW (qZ ?_)));obtain ⟨x6,hx6⟩:=gl (zac g.nodes.length x1.next) j;refine Je 55 [(0,.g (xD 41 37 tb_1 (zab hx6 (f:=za3)) (dJ 39 _)))] [40] [(9,vI x6)] h fun a w h=>Jh 55 [(6,.call (SNumD g (nmJ al (zac g.nodes.length x1.next) (zcb g p) j).1 (PrD.mk x6 (zcb g p)) hJ1 hJ2 ⟨thr_in (by omega) _ (lM hx6),hbi⟩ (by omega))),(7,.g (bD 50 ([(zbr (nmJ al (zac g.nodes.length x1.next) (zcb g p) j).1 (PrD.mk x6 (zcb g p))).2].map za3) [(49,vI (zbr (nmJ al (zac g.nodes.length x1.next) (zcb g p) j).1 (PrD.mk x6 (zcb g p))).2)] zgv (.cons (i:=0) (dJ 49 _) (.nil)) (by kernel_rfl) (by simp [za3]))),(8,.g (Op.appOD (d:=51) (t:=44) (u:=50) (n:=24) (n':=55) (len:=(nmJ al (zac g.nodes.length x1.next) (zcb g p) j).2.length) (len':=((nmJ al (zac g.nodes.length x1.next) (zcb g p) j).2++[(zbr (nmJ al (zac g.nodes.length x1.next) (zcb g p) j).1 (PrD.mk x6 (zcb g p))).2]).length) (rows:=(nmJ al (zac g.nodes.length x1.next) (zcb g p) j).2.map za3) (rows2:=[(zbr (nmJ al (zac g.nodes.length x1.next) (zcb g p) j).1 (PrD.mk x6 (zcb g p))).2].map za3) (rows':=((nmJ al (zac g.nodes.length x1.next) (zcb g p) j).2++[(zbr (nmJ al (zac g.nodes.length x1.next) (zcb g p) j).1 (PrD.mk x6 (zcb g p))).2]).map za3) tb_2 (by first | exact (bA _).symm | simp) (by first | (rw [bF,bA];done) | (simp;done) | (simp;omega)) (by simp) (by simp [za3]) (by first | omega | (simp at *;done) | (simp at *;omega))))] [9] [] [22,24] [(0,.box [.d (.sl 3 (g.nodes.map dM)),cIs g.first,.d (.sl 1 (g.sets.map (slD 1 za3))),.mp 1,.own 32 (zbr (nmJ al (zac g.nodes.length x1.next) (zcb g p) j).1 (PrD.mk x6 (zcb g p))).1.length]),(1,.mp (knM (zbr (nmJ al (zac g.nodes.length x1.next) (zcb g p) j).1 (PrD.mk x6 (zcb g p))).1)),(53,.box ([cIs x1.must,cIs x1.never,.own 55 ((nmJ al (zac g.nodes.length x1.next) (zcb g p) j).2++[(zbr (nmJ al (zac g.nodes.length x1.next) (zcb g p) j).1 (PrD.mk x6 (zcb g p))).2]).length])),(32,.row 81 2 ((zbr (nmJ al (zac g.nodes.length x1.next) (zcb g p) j).1 (PrD.mk x6 (zcb g p))).1.map dL)),(55,.row 3 1 (((nmJ al (zac g.nodes.length x1.next) (zcb g p) j).2++[(zbr (nmJ al (zac g.nodes.length x1.next) (zcb g p) j).1 (PrD.mk x6 (zcb g p))).2]).map za3))] h fun a w h=>za7 (za1 (Jf 56 [(0,.j1 j)] [] [(39,vI ((j:Int)+1))] h fun a w h=>za1 ?_));replace h:=zb7 32 22 h;replace h:=zb7 55 24 h;replace h:=cvM [] [] [] [(0,.box [.d (.sl 3 (g.nodes.map dM)),cIs g.first,.d (.sl 1 (g.sets.map (slD 1 za3))),.mp 1,.own 22 (nmJ al (zac g.nodes.length x1.next) (zcb g p) (j+1)).1.length]),(1,.mp (knM (nmJ al (zac g.nodes.length x1.next) (zcb g p) (j+1)).1)),(53,.box [cIs x1.must,cIs x1.never,.own 24 (nmJ al (zac g.nodes.length x1.next) (zcb g p) (j+1)).2.length]),(22,.row 81 2 ((nmJ al (zac g.nodes.length x1.next) (zcb g p) (j+1)).1.map dL)),(24,.row 3 1 ((nmJ al (zac g.nodes.length x1.next) (zcb g p) (j+1)).2.map za3))] (by rw [nmJ_step hx6]; try kernel_rfl) h;refine zaj (x:=j) (y:=j+1) h ?_ ?_
  ·have:=zal hx6;show j+1<=(zac g.nodes.length x1.next).length;omega
  have:=zal hx6;show (zac g.nodes.length x1.next).length - (j+1)<(zac g.nodes.length x1.next).length - j;omega
 refine exA (Jg 56 [] [0,6,7,37,38,39,40] [] [53] [(51,.box [cIs x1.must,cIs x1.never,.own 24 (nmJ al (zac g.nodes.length x1.next) (zcb g p) j).2.length])] h fun a w h=>qV ?_);replace h:=zb7 22 12 h;have hjn:(nmJ al (zac g.nodes.length x1.next) (zcb g p) j)=zaq al (zbk g p):=by unfold nmJ zbk;rw [bR (by have:=dF hc2;omega),hgn]
 replace h:=cvM [] [] [] [(0,.box [.d (.sl 3 (g.nodes.map dM)),cIs g.first,.d (.sl 1 (g.sets.map (slD 1 za3))),.mp 1,.own 12 (zaq al (zbk g p)).1.length]),(1,.mp (knM (zaq al (zbk g p)).1)),(51,.box [cIs x1.must,cIs x1.never,.own 24 (zaq al (zbk g p)).2.length]),(24,.row 3 1 ((zaq al (zbk g p)).2.map za3)),(12,.row 81 2 ((zaq al (zbk g p)).1.map dL))] (by rw [hjn]; try kernel_rfl) h;refine rA 51 [cIs x1.must,cIs x1.never,.own 24 (zaq al (zbk g p)).2.length] h vb8_5 rfl ?_;rw [hgn];try rfl
theorem SNodeE (g:GbD) (al:List PrD) (p:PrD) (hg:zff g) (hst:zep g) (hpo:PrOk g p) (hnd:al.Nodup) (hin:∀ q ∈ al,zgr q) (hal:al.length<=900000):Fn dI 32 [(0,.box [.d (.sl 3 (g.nodes.map dM)),cIs g.first,.d (.sl 1 (g.sets.map (slD 1 za3))),.mp 1,.own 22 al.length]),(1,.mp (knM al)),(22,.row 81 2 (al.map dL))] [vp 0 0,vG [cI p.st,cI p.nd]] (vG [cIs (gnd g p.st).must,cIs (gnd g p.st).never,.own 24 (zaq al (zbk g p)).2.length]) [(0,.box [.d (.sl 3 (g.nodes.map dM)),cIs g.first,.d (.sl 1 (g.sets.map (slD 1 za3))),.mp 1,.own 32 (zaq al (zbk g p)).1.length]),(1,.mp (knM (zaq al (zbk g p)).1)),(32,.row 81 2 ((zaq al (zbk g p)).1.map dL)),(24,.row 3 1 ((zaq al (zbk g p)).2.map za3))]:=by
 have h2:Fn dI 32 [(0,.box [.d (.sl 3 (g.nodes.map dM)),cIs g.first,.d (.sl 1 (g.sets.map (slD 1 za3))),.mp 1,.own 22 al.length]),(1,.mp (knM al)),(22,.row 81 2 (al.map dL))] [vp 0 0,vG [cI p.st,cI p.nd]] (vG [cIs (gnd g p.st).must,cIs (gnd g p.st).never,.own 24 (zaq al (zbk g p)).2.length]) [(0,.box [.d (.sl 3 (g.nodes.map dM)),cIs g.first,.d (.sl 1 (g.sets.map (slD 1 za3))),.mp 1,.own 12 (zaq al (zbk g p)).1.length]),(1,.mp (knM (zaq al (zbk g p)).1)),(12,.row 81 2 ((zaq al (zbk g p)).1.map dL)),(24,.row 3 1 ((zaq al (zbk g p)).2.map za3))]:=by
  refine Fn.renP (args':=[vp 0 0,vG [cI p.st,cI p.nd]]) 2 22 (SNodeC g al p hg hst hpo hnd hin hal) (by decide) rfl rfl ?_ ?_ <;> kernel_rfl
 refine Fn.renA 12 32 h2 rfl rfl rfl rfl ?_ ?_ ?_ <;> kernel_rfl
theorem SBOf (g:GbD) (hg:zff g) (hst:zep g) (hf:g.first.length<=10000):Fn dI 16 [] [vG [.d (.sl 3 (g.nodes.map dM)),cIs g.first,.d (.sl 1 (g.sets.map (slD 1 za3)))]] (.tup [.agg [.d (.sl 3 ((az (zhy g)).nodes.map dM)),cIs (az (zhy g)).first,.d (.sl 1 ((az (zhy g)).good.map za0))],.c (cI (ge (zhy g)))]) []:=by
 have hg1:=hg.1;refine fB Tryz.func16 rfl 79 fun w H B a h=>Jq 50 [] [(1,vp 50 0),(2,vp 51 0),(3,vI 0)] [(50,.box [.d (.sl 3 (g.nodes.map dM)),cIs g.first,.d (.sl 1 (g.sets.map (slD 1 za3)))]),(51,.box [nCl,nCl,nCl])] h fun a w h=>Jq 52 [(1,.g (Op.mkMap (d:=10) (n:=53) (t:=74)))] [(1,vp 50 0),(2,vp 51 0),(3,vI 0),(4,vp 52 0)] [(50,.box [.d (.sl 3 (g.nodes.map dM)),cIs g.first,.d (.sl 1 (g.sets.map (slD 1 za3)))]),(51,.box [nCl,nCl,nCl]),(53,.mp (knM [])),(52,.box [.d (.sl 3 (g.nodes.map dM)),cIs g.first,.d (.sl 1 (g.sets.map (slD 1 za3))),.mp 53,nCl])] h fun a w h=>?_
 replace h:=renS 52 0 [(1,vp 50 0),(2,vp 51 0),(3,vI 0),(4,vp 0 0)] [(50,.box [.d (.sl 3 (g.nodes.map dM)),cIs g.first,.d (.sl 1 (g.sets.map (slD 1 za3)))]),(51,.box [nCl,nCl,nCl]),(53,.mp (knM [])),(0,.box [.d (.sl 3 (g.nodes.map dM)),cIs g.first,.d (.sl 1 (g.sets.map (slD 1 za3))),.mp 53,nCl])] h;replace h:=renS 53 1 [(1,vp 50 0),(2,vp 51 0),(3,vI 0),(4,vp 0 0)] [(50,.box [.d (.sl 3 (g.nodes.map dM)),cIs g.first,.d (.sl 1 (g.sets.map (slD 1 za3)))]),(51,.box [nCl,nCl,nCl]),(0,.box [.d (.sl 3 (g.nodes.map dM)),cIs g.first,.d (.sl 1 (g.sets.map (slD 1 za3))),.mp 1,nCl]),(1,.mp (knM []))] h;replace h:=zgy 0 4 54 2 81 [.d (.sl 3 (g.nodes.map dM)),cIs g.first,.d (.sl 1 (g.sets.map (slD 1 za3))),.mp 1,nCl] [(1,vp 50 0),(2,vp 51 0),(3,vI 0),(4,vp 0 0)] [(50,.box [.d (.sl 3 (g.nodes.map dM)),cIs g.first,.d (.sl 1 (g.sets.map (slD 1 za3)))]),(51,.box [nCl,nCl,nCl]),(0,.box [.d (.sl 3 (g.nodes.map dM)),cIs g.first,.d (.sl 1 (g.sets.map (slD 1 za3))),.mp 1,.own 54 0]),(1,.mp (knM [])),(54,.row 81 2 ([].map dL))] h (by kernel_rfl) rfl rfl;replace h:=renS 54 22 [(1,vp 50 0),(2,vp 51 0),(3,vI 0),(4,vp 0 0)] [(50,.box [.d (.sl 3 (g.nodes.map dM)),cIs g.first,.d (.sl 1 (g.sets.map (slD 1 za3)))]),(51,.box [nCl,nCl,nCl]),(0,.box [.d (.sl 3 (g.nodes.map dM)),cIs g.first,.d (.sl 1 (g.sets.map (slD 1 za3))),.mp 1,.own 22 0]),(1,.mp (knM [])),(22,.row 81 2 ([].map dL))] h;refine Jq 55 [] [(1,vp 50 0),(2,vp 51 0),(3,vI 0),(4,vp 0 0),(5,vp 55 0)] [(50,.box [.d (.sl 3 (g.nodes.map dM)),cIs g.first,.d (.sl 1 (g.sets.map (slD 1 za3)))]),(51,.box [nCl,nCl,nCl]),(0,.box [.d (.sl 3 (g.nodes.map dM)),cIs g.first,.d (.sl 1 (g.sets.map (slD 1 za3))),.mp 1,.own 22 0]),(1,.mp (knM [])),(22,.row 81 2 ([].map dL)),(55,.box [nCl,nCl,nCl])] h fun a w h=>qW (Jq 56 [(4,.len (za9 3 dM g.nodes)),(5,.call (zew g.first g.nodes.length (by omega)))] [(2,vp 51 0),(3,vI 0),(4,vp 0 0),(5,vp 55 0),(18,vO 40 (zac g.nodes.length g.first).length),(19,vI ((zac g.nodes.length g.first).length:Int)),(20,vI 0)] [(51,.box [nCl,nCl,nCl]),(0,.box [.d (.sl 3 (g.nodes.map dM)),cIs g.first,.d (.sl 1 (g.sets.map (slD 1 za3))),.mp 1,.own 22 0]),(1,.mp (knM [])),(22,.row 81 2 ([].map dL)),(55,.box [nCl,nCl,nCl]),(40,.row 3 1 ((zac g.nodes.length g.first).map za3))] h fun a w h=>qZ ?_);replace h:=pubS 40 1 3 ((zac g.nodes.length g.first).map za3) [(2,vp 51 0),(3,vI 0),(4,vp 0 0),(5,vp 55 0),(18,(vIs (zac g.nodes.length g.first))),(19,vI ((zac g.nodes.length g.first).length:Int)),(20,vI 0)] [(51,.box [nCl,nCl,nCl]),(0,.box [.d (.sl 3 (g.nodes.map dM)),cIs g.first,.d (.sl 1 (g.sets.map (slD 1 za3))),.mp 1,.own 22 0]),(1,.mp (knM [])),(22,.row 81 2 ([].map dL)),(55,.box [nCl,nCl,nCl])] h rfl (show zcg _ [(zac g.nodes.length g.first).length] from ⟨by first | exact (bA _).symm | (simp;done) | (simp;omega),trivial⟩) trivial;replace h:=zgy 55 1 56 1 3 [nCl,nCl,nCl] [(2,vp 51 0),(3,vI 0),(4,vp 0 0),(5,vp 55 0),(18,(vIs (zac g.nodes.length g.first))),(19,vI ((zac g.nodes.length g.first).length:Int)),(20,vI 0)] [(51,.box [nCl,nCl,nCl]),(0,.box [.d (.sl 3 (g.nodes.map dM)),cIs g.first,.d (.sl 1 (g.sets.map (slD 1 za3))),.mp 1,.own 22 0]),(1,.mp (knM [])),(22,.row 81 2 ([].map dL)),(55,.box [nCl,.own 56 0,nCl]),(56,.row 3 1 ([].map za3))] h (by kernel_rfl) rfl rfl;replace h:=renS 56 42 [(2,vp 51 0),(3,vI 0),(4,vp 0 0),(5,vp 55 0),(18,(vIs (zac g.nodes.length g.first))),(19,vI ((zac g.nodes.length g.first).length:Int)),(20,vI 0)] [(51,.box [nCl,nCl,nCl]),(0,.box [.d (.sl 3 (g.nodes.map dM)),cIs g.first,.d (.sl 1 (g.sets.map (slD 1 za3))),.mp 1,.own 22 0]),(1,.mp (knM [])),(22,.row 81 2 ([].map dL)),(55,.box [nCl,.own 42 0,nCl]),(42,.row 3 1 ([].map za3))] h;replace h:=h.conv (f':=F.of [(2,vp 51 0),(3,vI 0),(4,vp 0 0),(5,vp 55 0),(18,(vIs (zac g.nodes.length g.first))),(19,vI ((zac g.nodes.length g.first).length:Int)),(20,vI 0)] [(51,.box [nCl,nCl,nCl]),(0,.box [.d (.sl 3 (g.nodes.map dM)),cIs g.first,.d (.sl 1 (g.sets.map (slD 1 za3))),.mp 1,.own 22 (nmJ [] (zac g.nodes.length g.first) 0 0).1.length]),(1,.mp (knM (nmJ [] (zac g.nodes.length g.first) 0 0).1)),(22,.row 81 2 ((nmJ [] (zac g.nodes.length g.first) 0 0).1.map dL)),(55,.box [nCl,.own 42 (nmJ [] (zac g.nodes.length g.first) 0 0).2.length,nCl]),(42,.row 3 1 ((nmJ [] (zac g.nodes.length g.first) 0 0).2.map za3))]) (rfl)
 refine loopS (ι:=(Nat)) (fun j=>j<=(zac g.nodes.length g.first).length)
   (fun j=>[(2,vp 51 0),(3,vI 0),(4,vp 0 0),(5,vp 55 0),(18,(vIs (zac g.nodes.length g.first))),(19,vI ((zac g.nodes.length g.first).length:Int)),(20,vN j)])
   (fun j=>[(51,.box [nCl,nCl,nCl]),(0,.box [.d (.sl 3 (g.nodes.map dM)),cIs g.first,.d (.sl 1 (g.sets.map (slD 1 za3))),.mp 1,.own 22 (nmJ [] (zac g.nodes.length g.first) 0 j).1.length]),(1,.mp (knM (nmJ [] (zac g.nodes.length g.first) 0 j).1)),(22,.row 81 2 ((nmJ [] (zac g.nodes.length g.first) 0 j).1.map dL)),(55,.box [nCl,.own 42 (nmJ [] (zac g.nodes.length g.first) 0 j).2.length,nCl]),(42,.row 3 1 ((nmJ [] (zac g.nodes.length g.first) 0 j).2.map za3))])
   (fun j=>(zac g.nodes.length g.first).length - j) 0 ?_ h (by kernel_rfl) (by kernel_rfl) ?_
 ·exact bB _
 clear h;rintro j a w hI h;obtain ⟨hJ1,hJ2,hJ3,hJ4⟩:=nmJ_ok (al:=[]) (ks:=(zac g.nodes.length g.first)) (b:=0) j cM (fun q hq=>by cases hq) (thr_in (by omega)) ⟨by decide,by decide⟩;have hJ5:=zfa g.nodes.length g.first
 have hJ6:([]:List PrD).length=0:=rfl;refine Jp 57 [] [(2,vp 51 0),(3,vI 0),(4,vp 0 0),(5,vp 55 0),(18,(vIs (zac g.nodes.length g.first))),(19,vI ((zac g.nodes.length g.first).length:Int)),(20,vN j),(21,vb (decide ((j:Int)<((zac g.nodes.length g.first).length:Int))))] h fun a w h=>qW (zav ((j:Int)<((zac g.nodes.length g.first).length:Int)) h (fun hc1 hc1'=>?_) (fun hc2 hc2'=>?_))
 ·refine qU (za1 (qW (qZ ?_)));obtain ⟨x2,hx2⟩:=gl (zac g.nodes.length g.first) j;refine Jp 57 [(0,.g (xD 22 18 tb_1 (zab hx2 (f:=za3)) (dJ 20 _)))] [(2,vp 51 0),(3,vI 0),(4,vp 0 0),(5,vp 55 0),(7,vI x2),(18,(vIs (zac g.nodes.length g.first))),(19,vI ((zac g.nodes.length g.first).length:Int)),(20,vN j)] h fun a w h=>Jn 57 [(5,.call (SNumD g (nmJ [] (zac g.nodes.length g.first) 0 j).1 (PrD.mk x2 0) hJ1 hJ2 ⟨thr_in (by omega) _ (lM hx2),show (-9223372036854775808:Int)<=0 by decide,show (0:Int)<=9223372036854775807 by decide⟩ (by omega))),(6,.g (bD 30 ([(zbr (nmJ [] (zac g.nodes.length g.first) 0 j).1 (PrD.mk x2 0)).2].map za3) [(29,vI (zbr (nmJ [] (zac g.nodes.length g.first) 0 j).1 (PrD.mk x2 0)).2)] zgv (.cons (i:=0) (dJ 29 _) (.nil)) (by kernel_rfl) (by simp [za3]))),(7,.g (Op.appOD (d:=31) (t:=25) (u:=30) (n:=42) (n':=57) (len:=(nmJ [] (zac g.nodes.length g.first) 0 j).2.length) (len':=((nmJ [] (zac g.nodes.length g.first) 0 j).2++[(zbr (nmJ [] (zac g.nodes.length g.first) 0 j).1 (PrD.mk x2 0)).2]).length) (rows:=(nmJ [] (zac g.nodes.length g.first) 0 j).2.map za3) (rows2:=[(zbr (nmJ [] (zac g.nodes.length g.first) 0 j).1 (PrD.mk x2 0)).2].map za3) (rows':=((nmJ [] (zac g.nodes.length g.first) 0 j).2++[(zbr (nmJ [] (zac g.nodes.length g.first) 0 j).1 (PrD.mk x2 0)).2]).map za3) tb_2 (by first | exact (bA _).symm | simp) (by first | (rw [bF,bA];done) | (simp;done) | (simp;omega)) (by simp) (by simp [za3]) (by first | omega | (simp at *;done) | (simp at *;omega))))] [(2,vp 51 0),(3,vI 0),(4,vp 0 0),(5,vp 55 0),(18,(vIs (zac g.nodes.length g.first))),(19,vI ((zac g.nodes.length g.first).length:Int)),(20,vN j)] [(51,.box [nCl,nCl,nCl]),(0,.box [.d (.sl 3 (g.nodes.map dM)),cIs g.first,.d (.sl 1 (g.sets.map (slD 1 za3))),.mp 1,.own 32 (zbr (nmJ [] (zac g.nodes.length g.first) 0 j).1 (PrD.mk x2 0)).1.length]),(1,.mp (knM (zbr (nmJ [] (zac g.nodes.length g.first) 0 j).1 (PrD.mk x2 0)).1)),(55,.box ([nCl,.own 57 ((nmJ [] (zac g.nodes.length g.first) 0 j).2++[(zbr (nmJ [] (zac g.nodes.length g.first) 0 j).1 (PrD.mk x2 0)).2]).length,nCl])),(32,.row 81 2 ((zbr (nmJ [] (zac g.nodes.length g.first) 0 j).1 (PrD.mk x2 0)).1.map dL)),(57,.row 3 1 (((nmJ [] (zac g.nodes.length g.first) 0 j).2++[(zbr (nmJ [] (zac g.nodes.length g.first) 0 j).1 (PrD.mk x2 0)).2]).map za3))] h fun a w h=>za7 (za1 (Jl 58 [(0,.j1 j)] [(2,vp 51 0),(3,vI 0),(4,vp 0 0),(5,vp 55 0),(18,(vIs (zac g.nodes.length g.first))),(19,vI ((zac g.nodes.length g.first).length:Int)),(20,vI ((j:Int)+1))] h fun a w h=>za1 ?_));replace h:=renS 32 22 [(2,vp 51 0),(3,vI 0),(4,vp 0 0),(5,vp 55 0),(18,(vIs (zac g.nodes.length g.first))),(19,vI ((zac g.nodes.length g.first).length:Int)),(20,vI ((j:Int)+1))] [(51,.box [nCl,nCl,nCl]),(0,.box [.d (.sl 3 (g.nodes.map dM)),cIs g.first,.d (.sl 1 (g.sets.map (slD 1 za3))),.mp 1,.own 22 (zbr (nmJ [] (zac g.nodes.length g.first) 0 j).1 (PrD.mk x2 0)).1.length]),(1,.mp (knM (zbr (nmJ [] (zac g.nodes.length g.first) 0 j).1 (PrD.mk x2 0)).1)),(55,.box ([nCl,.own 57 ((nmJ [] (zac g.nodes.length g.first) 0 j).2++[(zbr (nmJ [] (zac g.nodes.length g.first) 0 j).1 (PrD.mk x2 0)).2]).length,nCl])),(57,.row 3 1 (((nmJ [] (zac g.nodes.length g.first) 0 j).2++[(zbr (nmJ [] (zac g.nodes.length g.first) 0 j).1 (PrD.mk x2 0)).2]).map za3)),(22,.row 81 2 ((zbr (nmJ [] (zac g.nodes.length g.first) 0 j).1 (PrD.mk x2 0)).1.map dL))] h;replace h:=renS 57 42 [(2,vp 51 0),(3,vI 0),(4,vp 0 0),(5,vp 55 0),(18,(vIs (zac g.nodes.length g.first))),(19,vI ((zac g.nodes.length g.first).length:Int)),(20,vI ((j:Int)+1))] [(51,.box [nCl,nCl,nCl]),(0,.box [.d (.sl 3 (g.nodes.map dM)),cIs g.first,.d (.sl 1 (g.sets.map (slD 1 za3))),.mp 1,.own 22 (zbr (nmJ [] (zac g.nodes.length g.first) 0 j).1 (PrD.mk x2 0)).1.length]),(1,.mp (knM (zbr (nmJ [] (zac g.nodes.length g.first) 0 j).1 (PrD.mk x2 0)).1)),(55,.box ([nCl,.own 42 ((nmJ [] (zac g.nodes.length g.first) 0 j).2++[(zbr (nmJ [] (zac g.nodes.length g.first) 0 j).1 (PrD.mk x2 0)).2]).length,nCl])),(22,.row 81 2 ((zbr (nmJ [] (zac g.nodes.length g.first) 0 j).1 (PrD.mk x2 0)).1.map dL)),(42,.row 3 1 (((nmJ [] (zac g.nodes.length g.first) 0 j).2++[(zbr (nmJ [] (zac g.nodes.length g.first) 0 j).1 (PrD.mk x2 0)).2]).map za3))] h;replace h:=h.conv (f':=F.of [(2,vp 51 0),(3,vI 0),(4,vp 0 0),(5,vp 55 0),(18,(vIs (zac g.nodes.length g.first))),(19,vI ((zac g.nodes.length g.first).length:Int)),(20,vI ((j:Int)+1))] [(51,.box [nCl,nCl,nCl]),(0,.box [.d (.sl 3 (g.nodes.map dM)),cIs g.first,.d (.sl 1 (g.sets.map (slD 1 za3))),.mp 1,.own 22 (nmJ [] (zac g.nodes.length g.first) 0 (j+1)).1.length]),(1,.mp (knM (nmJ [] (zac g.nodes.length g.first) 0 (j+1)).1)),(55,.box [nCl,.own 42 (nmJ [] (zac g.nodes.length g.first) 0 (j+1)).2.length,nCl]),(22,.row 81 2 ((nmJ [] (zac g.nodes.length g.first) 0 (j+1)).1.map dL)),(42,.row 3 1 ((nmJ [] (zac g.nodes.length g.first) 0 (j+1)).2.map za3))]) (by rw [nmJ_step hx2]; try kernel_rfl);refine zaj (x:=j) (y:=j+1) h ?_ ?_
  ·have:=zal hx2;show j+1<=(zac g.nodes.length g.first).length;omega
  have:=zal hx2;show (zac g.nodes.length g.first).length - (j+1)<(zac g.nodes.length g.first).length - j;omega
 refine exA (qW (Jp 58 [] [(2,vp 51 0),(3,vI 0),(4,vp 0 0),(5,vp 55 0),(8,vI 0)] h fun a w h=>qZ ?_));have hbg:(nmJ [] (zac g.nodes.length g.first) 0 j)=zc9 g:=by unfold nmJ zc9;rw [bR (by have:=dF hc2;omega)]
 replace h:=zgy 55 0 58 3 83 [nCl,.own 42 (nmJ [] (zac g.nodes.length g.first) 0 j).2.length,nCl] [(2,vp 51 0),(3,vI 0),(4,vp 0 0),(5,vp 55 0),(8,vI 0)] [(51,.box [nCl,nCl,nCl]),(0,.box [.d (.sl 3 (g.nodes.map dM)),cIs g.first,.d (.sl 1 (g.sets.map (slD 1 za3))),.mp 1,.own 22 (nmJ [] (zac g.nodes.length g.first) 0 j).1.length]),(1,.mp (knM (nmJ [] (zac g.nodes.length g.first) 0 j).1)),(22,.row 81 2 ((nmJ [] (zac g.nodes.length g.first) 0 j).1.map dL)),(55,.box [.own 58 0,.own 42 (nmJ [] (zac g.nodes.length g.first) 0 j).2.length,nCl]),(42,.row 3 1 ((nmJ [] (zac g.nodes.length g.first) 0 j).2.map za3)),(58,.row 83 3 ([].map dM))] h (by kernel_rfl) rfl rfl;replace h:=renS 58 41 [(2,vp 51 0),(3,vI 0),(4,vp 0 0),(5,vp 55 0),(8,vI 0)] [(51,.box [nCl,nCl,nCl]),(0,.box [.d (.sl 3 (g.nodes.map dM)),cIs g.first,.d (.sl 1 (g.sets.map (slD 1 za3))),.mp 1,.own 22 (nmJ [] (zac g.nodes.length g.first) 0 j).1.length]),(1,.mp (knM (nmJ [] (zac g.nodes.length g.first) 0 j).1)),(22,.row 81 2 ((nmJ [] (zac g.nodes.length g.first) 0 j).1.map dL)),(55,.box [.own 41 0,.own 42 (nmJ [] (zac g.nodes.length g.first) 0 j).2.length,nCl]),(42,.row 3 1 ((nmJ [] (zac g.nodes.length g.first) 0 j).2.map za3)),(41,.row 83 3 ([].map dM))] h;replace h:=zgy 55 2 59 1 4 [.own 41 0,.own 42 (nmJ [] (zac g.nodes.length g.first) 0 j).2.length,nCl] [(2,vp 51 0),(3,vI 0),(4,vp 0 0),(5,vp 55 0),(8,vI 0)] [(51,.box [nCl,nCl,nCl]),(0,.box [.d (.sl 3 (g.nodes.map dM)),cIs g.first,.d (.sl 1 (g.sets.map (slD 1 za3))),.mp 1,.own 22 (nmJ [] (zac g.nodes.length g.first) 0 j).1.length]),(1,.mp (knM (nmJ [] (zac g.nodes.length g.first) 0 j).1)),(22,.row 81 2 ((nmJ [] (zac g.nodes.length g.first) 0 j).1.map dL)),(55,.box [.own 41 0,.own 42 (nmJ [] (zac g.nodes.length g.first) 0 j).2.length,.own 59 0]),(42,.row 3 1 ((nmJ [] (zac g.nodes.length g.first) 0 j).2.map za3)),(41,.row 83 3 ([].map dM)),(59,.row 4 1 ([].map za0))] h (by kernel_rfl) rfl rfl;replace h:=renS 59 43 [(2,vp 51 0),(3,vI 0),(4,vp 0 0),(5,vp 55 0),(8,vI 0)] [(51,.box [nCl,nCl,nCl]),(0,.box [.d (.sl 3 (g.nodes.map dM)),cIs g.first,.d (.sl 1 (g.sets.map (slD 1 za3))),.mp 1,.own 22 (nmJ [] (zac g.nodes.length g.first) 0 j).1.length]),(1,.mp (knM (nmJ [] (zac g.nodes.length g.first) 0 j).1)),(22,.row 81 2 ((nmJ [] (zac g.nodes.length g.first) 0 j).1.map dL)),(55,.box [.own 41 0,.own 42 (nmJ [] (zac g.nodes.length g.first) 0 j).2.length,.own 43 0]),(42,.row 3 1 ((nmJ [] (zac g.nodes.length g.first) 0 j).2.map za3)),(41,.row 83 3 ([].map dM)),(43,.row 4 1 ([].map za0))] h;replace h:=h.conv (f':=F.of [(2,vp 51 0),(3,vI 0),(4,vp 0 0),(5,vp 55 0),(8,vI 0)] [(51,.box [nCl,nCl,nCl]),(0,.box [.d (.sl 3 (g.nodes.map dM)),cIs g.first,.d (.sl 1 (g.sets.map (slD 1 za3))),.mp 1,.own 22 (OfS.mk (zc9 g).1 []).al.length]),(1,.mp (knM (OfS.mk (zc9 g).1 []).al)),(22,.row 81 2 ((OfS.mk (zc9 g).1 []).al.map dL)),(55,.box [.own 41 (OfS.mk (zc9 g).1 []).nodes.length,.own 42 (zc9 g).2.length,.own 43 (ze8 g (OfS.mk (zc9 g).1 [])).length]),(42,.row 3 1 ((zc9 g).2.map za3)),(41,.row 83 3 ((OfS.mk (zc9 g).1 []).nodes.map dM)),(43,.row 4 1 ((ze8 g (OfS.mk (zc9 g).1 [])).map za0))]) (by rw [hbg]; try kernel_rfl)
 refine loopS (ι:=(OfS)) (fun s=>OfI g s/\runO g (4098 - s.nodes.length) s=runO g 4098 (OfS.mk (zc9 g).1 []))
   (fun s=>[(2,vp 51 0),(4,vp 0 0),(5,vp 55 0),(8,vN s.nodes.length)])
   (fun s=>[(51,.box [nCl,nCl,nCl]),(0,.box [.d (.sl 3 (g.nodes.map dM)),cIs g.first,.d (.sl 1 (g.sets.map (slD 1 za3))),.mp 1,.own 22 s.al.length]),(1,.mp (knM s.al)),(22,.row 81 2 (s.al.map dL)),(55,.box [.own 41 s.nodes.length,.own 42 (zc9 g).2.length,.own 43 (ze8 g s).length]),(42,.row 3 1 ((zc9 g).2.map za3)),(41,.row 83 3 (s.nodes.map dM)),(43,.row 4 1 ((ze8 g s).map za0))])
   (fun s=>4098 - s.nodes.length) (OfS.mk (zc9 g).1 []) ?_ h (by kernel_rfl) (by kernel_rfl) ?_
 ·exact ⟨OfI.beg hg hf,rfl⟩
 clear h;rintro s a w hI h;obtain ⟨hI1,hI2⟩:=hI;have hIn:=hI1.nl;have hIa:=hI1.al;have hIl:=hI1.inv.len;have hgl:(ze8 g s).length<=4096:=by unfold ze8;rw [bA,cL];omega
 refine qW (Jp 60 [(2,.g (Op.nilQ (d:=36) (t:=35) (n:=0) (o:=0)))] [(2,vp 51 0),(4,vp 0 0),(5,vp 55 0),(8,vN s.nodes.length),(40,vb (decide ((s.nodes.length:Int)<(s.al.length:Int))))] h fun a w h=>zav ((s.nodes.length:Int)<(s.al.length:Int)) h (fun hc3 hc3'=>?_) (fun hc6 hc6'=>?_))
 ·refine qU (za1 (qW (qZ (qW (Jp 60 [(1,.g (Op.nilQ (d:=44) (t:=43) (n:=0) (o:=0)))] [(2,vp 51 0),(4,vp 0 0),(5,vp 55 0),(8,vN s.nodes.length),(48,vb (decide ((s.al.length:Int)>4096)))] h fun a w h=>zav ((s.al.length:Int)>4096) h (fun hc4 hc4'=>?_) (fun hc5 hc5'=>?_))))))
  ·refine Jp 60 [] [(2,vp 51 0),(3,vI 3),(4,vp 0 0),(5,vp 55 0),(8,vN s.nodes.length)] h fun a w h=>qV (za5 (zaa (za5 (za5 (zaa (za5 ?_))))));have hof:zhy g=none:=by unfold zhy;rw [show runO g 4098 (OfS.mk (zc9 g).1 [])=none by rw [<- hI2,show 4098 - s.nodes.length=(4097 - s.nodes.length)+1 by omega,runO_big (bH (by have:=dT hc3;omega)) (by have:=dT hc4;omega)]];rfl
   replace h:=nilDLs 51 0 3 [nCl,nCl,nCl] [(2,vp 51 0),(3,vI 3),(4,vp 0 0),(5,vp 55 0),(8,vN s.nodes.length)] [(51,.box [.d (.sl 3 ([].map dM)),nCl,nCl]),(0,.box [.d (.sl 3 (g.nodes.map dM)),cIs g.first,.d (.sl 1 (g.sets.map (slD 1 za3))),.mp 1,.own 22 s.al.length]),(1,.mp (knM s.al)),(22,.row 81 2 (s.al.map dL)),(55,.box [.own 41 s.nodes.length,.own 42 (zc9 g).2.length,.own 43 (ze8 g s).length]),(42,.row 3 1 ((zc9 g).2.map za3)),(41,.row 83 3 (s.nodes.map dM)),(43,.row 4 1 ((ze8 g s).map za0))] h rfl rfl;replace h:=nilDLs 51 1 1 [.d (.sl 3 ([].map dM)),nCl,nCl] [(2,vp 51 0),(3,vI 3),(4,vp 0 0),(5,vp 55 0),(8,vN s.nodes.length)] [(51,.box [.d (.sl 3 ([].map dM)),cIs [],nCl]),(0,.box [.d (.sl 3 (g.nodes.map dM)),cIs g.first,.d (.sl 1 (g.sets.map (slD 1 za3))),.mp 1,.own 22 s.al.length]),(1,.mp (knM s.al)),(22,.row 81 2 (s.al.map dL)),(55,.box [.own 41 s.nodes.length,.own 42 (zc9 g).2.length,.own 43 (ze8 g s).length]),(42,.row 3 1 ((zc9 g).2.map za3)),(41,.row 83 3 (s.nodes.map dM)),(43,.row 4 1 ((ze8 g s).map za0))] h rfl rfl;replace h:=nilDLs 51 2 1 [.d (.sl 3 ([].map dM)),cIs [],nCl] [(2,vp 51 0),(3,vI 3),(4,vp 0 0),(5,vp 55 0),(8,vN s.nodes.length)] [(51,.box [.d (.sl 3 ([].map dM)),cIs [],.d (.sl 1 ([].map za0))]),(0,.box [.d (.sl 3 (g.nodes.map dM)),cIs g.first,.d (.sl 1 (g.sets.map (slD 1 za3))),.mp 1,.own 22 s.al.length]),(1,.mp (knM s.al)),(22,.row 81 2 (s.al.map dL)),(55,.box [.own 41 s.nodes.length,.own 42 (zc9 g).2.length,.own 43 (ze8 g s).length]),(42,.row 3 1 ((zc9 g).2.map za3)),(41,.row 83 3 (s.nodes.map dM)),(43,.row 4 1 ((ze8 g s).map za0))] h rfl rfl;refine zgx [.agg [.d (.sl 3 ([].map dM)),cIs [],.d (.sl 1 ([].map za0))],.c (cI 3)] h Exit.ret (.inl rfl)  rfl ⟨RV.agg _ 51 0 _ _ _ _ vd0_9 rfl rfl rfl rfl,vT9,trivial⟩ ?_;rw [hof];try rfl
  refine qU (za1 ?_);obtain ⟨x4,hx4⟩:=gl s.al s.nodes.length;have hpo:=hI1.inv.ok x4 (lM hx4);refine Jq 60 [(4,.g (Op.nilQ (d:=54) (t:=53) (n:=0) (o:=0))),(8,.g (xO 58 56 22 s.al.length s.nodes.length vd0_10 (dJ 57 _))),(9,.g (Op.loadR_agg (d:=59) (t:=58) (n:=22) (i:=s.nodes.length) (fo:=0) (rty:=81) (es:=2) (xs:=[.raw (.int .i64 x4.st),.raw (.int .i64 x4.nd)]) vd0_11 rfl (zab hx4 (f:=dL)) rfl rfl)),(10,.call (SNodeE g s.al x4 hg hst hpo hI1.inv.nd (fun q hq=>(hI1.inv.ok q hq).in hg hst) (by omega))),(11,.g (Op.buildOC (d:=61) (n:=60) (len:=1) (rows:=[[cIs (gnd g x4.st).must,cIs (gnd g x4.st).never,.own 24 (zaq s.al (zbk g x4)).2.length]]) (rs:=[(60,vG [cIs (gnd g x4.st).must,cIs (gnd g x4.st).never,.own 24 (zaq s.al (zbk g x4)).2.length])]) vb9_2 (.cons (i:=0) (dJ 60 _) .nil) (by kernel_rfl) rfl (fun r hr=>by rw [bO.1 hr];rfl) (by decide) (by decide) (fun x hx=>by simp only [bP,cH,bG,cF,List.not_mem_nil,or_false] at hx;rcases hx with rfl | rfl | rfl <;> simp [C.tags]))),(12,.g (Op.appOR (d:=62) (t:=51) (u:=61) (n:=41) (sn:=60) (n':=61) (len:=s.nodes.length) (len2:=1) (len':=s.nodes.length+1) (X:=s.nodes.map dM) (rows2:=[[cIs (gnd g x4.st).must,cIs (gnd g x4.st).never,.own 24 (zaq s.al (zbk g x4)).2.length]]) (rows':=((s.nodes.map dM).map (List.map C.d)++[[cIs (gnd g x4.st).must,cIs (gnd g x4.st).never,.own 24 (zaq s.al (zbk g x4)).2.length]])) vb9_3 (by rw [bA]) rfl rfl rfl (by show (s.nodes.length+1)*_<=_;omega)))] [(2,vp 51 0),(4,vp 0 0),(5,vp 55 0),(8,vN s.nodes.length)] [(51,.box [nCl,nCl,nCl]),(0,.box [.d (.sl 3 (g.nodes.map dM)),cIs g.first,.d (.sl 1 (g.sets.map (slD 1 za3))),.mp 1,.own 32 (zaq s.al (zbk g x4)).1.length]),(1,.mp (knM (zaq s.al (zbk g x4)).1)),(55,.box [.own 61 (s.nodes.length+1),.own 42 (zc9 g).2.length,.own 43 (ze8 g s).length]),(42,.row 3 1 ((zc9 g).2.map za3)),(43,.row 4 1 ((ze8 g s).map za0)),(32,.row 81 2 ((zaq s.al (zbk g x4)).1.map dL)),(24,.row 3 1 ((zaq s.al (zbk g x4)).2.map za3)),(61,.rowc 83 3 ((s.nodes.map dM).map (List.map C.d)++[[cIs (gnd g x4.st).must,cIs (gnd g x4.st).never,.own 24 (zaq s.al (zbk g x4)).2.length]]))] h fun a w h=>?_;replace h:=pubRow 61 24 3 1 (zaq s.al (zbk g x4)).2.length 83 3 (s.nodes.map dM) [.sl 1 ((gnd g x4.st).must.map za3),.sl 1 ((gnd g x4.st).never.map za3)] ((zaq s.al (zbk g x4)).2.map za3) [(2,vp 51 0),(4,vp 0 0),(5,vp 55 0),(8,vN s.nodes.length)] [(51,.box [nCl,nCl,nCl]),(0,.box [.d (.sl 3 (g.nodes.map dM)),cIs g.first,.d (.sl 1 (g.sets.map (slD 1 za3))),.mp 1,.own 32 (zaq s.al (zbk g x4)).1.length]),(1,.mp (knM (zaq s.al (zbk g x4)).1)),(55,.box [.own 61 (s.nodes.length+1),.own 42 (zc9 g).2.length,.own 43 (ze8 g s).length]),(42,.row 3 1 ((zc9 g).2.map za3)),(43,.row 4 1 ((ze8 g s).map za0)),(32,.row 81 2 ((zaq s.al (zbk g x4)).1.map dL)),(61,.row 83 3 ((s.nodes.map dM)++[[.sl 1 ((gnd g x4.st).must.map za3),.sl 1 ((gnd g x4.st).never.map za3)]++[.sl 1 ((zaq s.al (zbk g x4)).2.map za3)]]))] h (bA _).symm (by kernel_rfl) rfl rfl trivial trivial (by kernel_rfl) (by kernel_rfl);replace h:=h.conv (f':=F.of [(2,vp 51 0),(4,vp 0 0),(5,vp 55 0),(8,vN s.nodes.length)] [(51,.box [nCl,nCl,nCl]),(0,.box [.d (.sl 3 (g.nodes.map dM)),cIs g.first,.d (.sl 1 (g.sets.map (slD 1 za3))),.mp 1,.own 32 (zaq s.al (zbk g x4)).1.length]),(1,.mp (knM (zaq s.al (zbk g x4)).1)),(55,.box ([.own 61 (s.nodes++[(za4.mk (gnd g x4.st).must (gnd g x4.st).never (zaq s.al (zbk g x4)).2)]).length,.own 42 (zc9 g).2.length,.own 43 (ze8 g s).length])),(42,.row 3 1 ((zc9 g).2.map za3)),(43,.row 4 1 ((ze8 g s).map za0)),(32,.row 81 2 ((zaq s.al (zbk g x4)).1.map dL)),(61,.row 83 3 ((s.nodes++[(za4.mk (gnd g x4.st).must (gnd g x4.st).never (zaq s.al (zbk g x4)).2)]).map dM))]) (by rw [bI,bF]; try kernel_rfl);replace h:=renS 61 41 [(2,vp 51 0),(4,vp 0 0),(5,vp 55 0),(8,vN s.nodes.length)] [(51,.box [nCl,nCl,nCl]),(0,.box [.d (.sl 3 (g.nodes.map dM)),cIs g.first,.d (.sl 1 (g.sets.map (slD 1 za3))),.mp 1,.own 32 (zaq s.al (zbk g x4)).1.length]),(1,.mp (knM (zaq s.al (zbk g x4)).1)),(55,.box ([.own 41 (s.nodes++[(za4.mk (gnd g x4.st).must (gnd g x4.st).never (zaq s.al (zbk g x4)).2)]).length,.own 42 (zc9 g).2.length,.own 43 (ze8 g s).length])),(42,.row 3 1 ((zc9 g).2.map za3)),(43,.row 4 1 ((ze8 g s).map za0)),(32,.row 81 2 ((zaq s.al (zbk g x4)).1.map dL)),(41,.row 83 3 ((s.nodes++[(za4.mk (gnd g x4.st).must (gnd g x4.st).never (zaq s.al (zbk g x4)).2)]).map dM))] h;replace h:=renS 32 22 [(2,vp 51 0),(4,vp 0 0),(5,vp 55 0),(8,vN s.nodes.length)] [(51,.box [nCl,nCl,nCl]),(0,.box [.d (.sl 3 (g.nodes.map dM)),cIs g.first,.d (.sl 1 (g.sets.map (slD 1 za3))),.mp 1,.own 22 (zaq s.al (zbk g x4)).1.length]),(1,.mp (knM (zaq s.al (zbk g x4)).1)),(55,.box ([.own 41 (s.nodes++[(za4.mk (gnd g x4.st).must (gnd g x4.st).never (zaq s.al (zbk g x4)).2)]).length,.own 42 (zc9 g).2.length,.own 43 (ze8 g s).length])),(42,.row 3 1 ((zc9 g).2.map za3)),(43,.row 4 1 ((ze8 g s).map za0)),(41,.row 83 3 ((s.nodes++[(za4.mk (gnd g x4.st).must (gnd g x4.st).never (zaq s.al (zbk g x4)).2)]).map dM)),(22,.row 81 2 ((zaq s.al (zbk g x4)).1.map dL))] h;have hnb9:¬ s.al.length>4096:=by have:=dF hc5;omega
  have hat9:(zaq s.al (zbk g x4)).1[s.nodes.length]?=some x4:=(stp_al hg hst hI1.inv hx4).2.2;have hln9:(zaq s.al (zbk g x4)).1.length<=s.al.length+10000:=(stp_al hg hst hI1.inv hx4).1;have hlt9:=(bK.1 hat9).1;refine Jn 62 [(4,.g (Op.nilQ (d:=68) (t:=67) (n:=0) (o:=0))),(8,.g (xO 72 70 22 (zaq s.al (zbk g x4)).1.length s.nodes.length vd0_10 (dJ 71 _))),(9,.g (Op.loadR_agg (d:=73) (t:=72) (n:=22) (i:=s.nodes.length) (fo:=0) (rty:=81) (es:=2) (xs:=[.raw (.int .i64 x4.st),.raw (.int .i64 x4.nd)]) vd0_11 rfl (zab hat9 (f:=dL)) rfl rfl)),(10,.call (SGoodD (zaq s.al (zbk g x4)).1.length g x4 hst)),(11,.g (bD 75 ([(zen g x4)].map za0) [(74,vb (zen g x4))] zgc (.cons (i:=0) (dJ 74 _) (.nil)) (by kernel_rfl) (fun r_ h_=>by obtain ⟨x_,_,rfl⟩:=bE.1 h_;rfl))),(12,.g (Op.appOD (d:=76) (t:=65) (u:=75) (n:=43) (n':=62) (len:=(ze8 g s).length) (len':=((ze8 g s)++[(zen g x4)]).length) (rows:=(ze8 g s).map za0) (rows2:=[(zen g x4)].map za0) (rows':=((ze8 g s)++[(zen g x4)]).map za0) zf9 (by first | exact (bA _).symm | simp) (by first | (rw [bF,bA];done) | (simp;done) | (simp;omega)) (by simp) (fun r_ h_=>by obtain ⟨x_,_,rfl⟩:=bE.1 h_;rfl) (by first | omega | (simp at *;done) | (simp at *;omega))))] [(2,vp 51 0),(4,vp 0 0),(5,vp 55 0),(8,vN s.nodes.length)] [(51,.box [nCl,nCl,nCl]),(0,.box [.d (.sl 3 (g.nodes.map dM)),cIs g.first,.d (.sl 1 (g.sets.map (slD 1 za3))),.mp 1,.own 22 (zaq s.al (zbk g x4)).1.length]),(1,.mp (knM (zaq s.al (zbk g x4)).1)),(55,.box ([.own 41 (s.nodes++[(za4.mk (gnd g x4.st).must (gnd g x4.st).never (zaq s.al (zbk g x4)).2)]).length,.own 42 (zc9 g).2.length,.own 62 ((ze8 g s)++[(zen g x4)]).length])),(42,.row 3 1 ((zc9 g).2.map za3)),(41,.row 83 3 ((s.nodes++[(za4.mk (gnd g x4.st).must (gnd g x4.st).never (zaq s.al (zbk g x4)).2)]).map dM)),(22,.row 81 2 ((zaq s.al (zbk g x4)).1.map dL)),(62,.row 4 1 (((ze8 g s)++[(zen g x4)]).map za0))] h fun a w h=>za7 (za1 (Jl 63 [(1,.add .i64 (m:=(s.nodes.length:Int)) (n:=1) i6)] [(2,vp 51 0),(4,vp 0 0),(5,vp 55 0),(8,vI ((s.nodes.length:Int)+1))] h fun a w h=>za1 ?_));replace h:=renS 62 43 [(2,vp 51 0),(4,vp 0 0),(5,vp 55 0),(8,vI ((s.nodes.length:Int)+1))] [(51,.box [nCl,nCl,nCl]),(0,.box [.d (.sl 3 (g.nodes.map dM)),cIs g.first,.d (.sl 1 (g.sets.map (slD 1 za3))),.mp 1,.own 22 (zaq s.al (zbk g x4)).1.length]),(1,.mp (knM (zaq s.al (zbk g x4)).1)),(55,.box ([.own 41 (s.nodes++[(za4.mk (gnd g x4.st).must (gnd g x4.st).never (zaq s.al (zbk g x4)).2)]).length,.own 42 (zc9 g).2.length,.own 43 ((ze8 g s)++[(zen g x4)]).length])),(42,.row 3 1 ((zc9 g).2.map za3)),(41,.row 83 3 ((s.nodes++[(za4.mk (gnd g x4.st).must (gnd g x4.st).never (zaq s.al (zbk g x4)).2)]).map dM)),(22,.row 81 2 ((zaq s.al (zbk g x4)).1.map dL)),(43,.row 4 1 (((ze8 g s)++[(zen g x4)]).map za0))] h;have hgj:=gooJ_step (g:=g) hx4 hat9 (stp_al hg hst hI1.inv hx4).2.1;have hnl9:(s.nodes.length:Int)+1=((zf7 g s x4).nodes.length:Int):=by simp [zf7]
  replace h:=h.conv (f':=F.of [(2,vp 51 0),(4,vp 0 0),(5,vp 55 0),(8,vI ((zf7 g s x4).nodes.length:Int))] [(51,.box [nCl,nCl,nCl]),(0,.box [.d (.sl 3 (g.nodes.map dM)),cIs g.first,.d (.sl 1 (g.sets.map (slD 1 za3))),.mp 1,.own 22 (zf7 g s x4).al.length]),(1,.mp (knM (zf7 g s x4).al)),(55,.box [.own 41 (zf7 g s x4).nodes.length,.own 42 (zc9 g).2.length,.own 43 (ze8 g (zf7 g s x4)).length]),(42,.row 3 1 ((zc9 g).2.map za3)),(41,.row 83 3 ((zf7 g s x4).nodes.map dM)),(22,.row 81 2 ((zf7 g s x4).al.map dL)),(43,.row 4 1 ((ze8 g (zf7 g s x4)).map za0))]) (by rw [<- hnl9,hgj]; try kernel_rfl);refine zaj (x:=s) (y:=(zf7 g s x4)) h ?_ ?_
  ·refine ⟨hI1.step hg hst hx4 hnb9,?_⟩;rw [<- hI2,show 4098 - s.nodes.length=(4097 - s.nodes.length)+1 by have:=hI1.nl;omega,runO_step hx4 hnb9,show (zf7 g s x4).nodes.length=s.nodes.length+1 by simp [zf7]]
   congr 1
   omega
  show 4098 - (zf7 g s x4).nodes.length<4098 - s.nodes.length;have:=hI1.nl;have:(zf7 g s x4).nodes.length=s.nodes.length+1:=by simp [zf7]
  omega
 refine exA (Jq 63 [] [(2,vp 51 0),(3,vI 0)] [(51,.box [.own 41 s.nodes.length,.own 42 (zc9 g).2.length,.own 43 (ze8 g s).length]),(42,.row 3 1 ((zc9 g).2.map za3)),(41,.row 83 3 (s.nodes.map dM)),(43,.row 4 1 ((ze8 g s).map za0))] h fun a w h=>qV ?_);have hof:zhy g=some (autO g s):=by unfold zhy;rw [show runO g 4098 (OfS.mk (zc9 g).1 [])=some s by rw [<- hI2,show 4098 - s.nodes.length=(4097 - s.nodes.length)+1 by omega,runO_end (by have:=dF hc6;omega)]];rfl
 have hgj:ze8 g s=s.al.map (zen g):=by unfold ze8;rw [bR (by have:=dF hc6;omega)]
 replace h:=cv (fun z_:List Bool=>F.of [(2,vp 51 0),(3,vI 0)] [(51,.box [.own 41 s.nodes.length,.own 42 (zc9 g).2.length,.own 43 z_.length]),(42,.row 3 1 ((zc9 g).2.map za3)),(41,.row 83 3 (s.nodes.map dM)),(43,.row 4 1 (z_.map za0))]) (show ((ze8 g s):List Bool)=(s.al.map (zen g)) from hgj) h;replace h:=pubS 41 3 83 (s.nodes.map dM) [(2,vp 51 0),(3,vI 0)] [(51,.box [.d (.sl 3 (s.nodes.map dM)),.own 42 (zc9 g).2.length,.own 43 (s.al.map (zen g)).length]),(42,.row 3 1 ((zc9 g).2.map za3)),(43,.row 4 1 ((s.al.map (zen g)).map za0))] h rfl trivial (show zcg _ [s.nodes.length] from ⟨by first | exact (bA _).symm | (simp;done) | (simp;omega),trivial⟩);replace h:=pubS 42 1 3 ((zc9 g).2.map za3) [(2,vp 51 0),(3,vI 0)] [(51,.box [.d (.sl 3 (s.nodes.map dM)),cIs (zc9 g).2,.own 43 (s.al.map (zen g)).length]),(43,.row 4 1 ((s.al.map (zen g)).map za0))] h rfl trivial (show zcg _ [(zc9 g).2.length] from ⟨by first | exact (bA _).symm | (simp;done) | (simp;omega),trivial⟩);replace h:=pubS 43 1 4 ((s.al.map (zen g)).map za0) [(2,vp 51 0),(3,vI 0)] [(51,.box [.d (.sl 3 (s.nodes.map dM)),cIs (zc9 g).2,.d (.sl 1 ((s.al.map (zen g)).map za0))])] h rfl trivial (show zcg _ [(s.al.map (zen g)).length] from ⟨by first | exact (bA _).symm | (simp;done) | (simp;omega),trivial⟩);refine zgx [.agg [.d (.sl 3 (s.nodes.map dM)),cIs (zc9 g).2,.d (.sl 1 ((s.al.map (zen g)).map za0))],.c (cI 0)] h Exit.ret (.inl rfl)  rfl ⟨RV.agg _ 51 0 _ _ _ _ vd0_9 rfl rfl rfl rfl,vT9,trivial⟩ ?_;rw [hof];try rfl
def flsB (xs:List Bool):Nat:=(xs.filter fun b=>!b).length
theorem fls_set:∀ {xs:List Bool} {i:Nat}, xs[i]?=some false->flsB (xs.set i true)+1=flsB xs
 | [],i,h=>by cases i <;> cases h
 | x :: xs,0,h=>by
  have h:x=false:=Option.some.inj h
  subst h
  simp [flsB]
 | x :: xs,i+1,h=>by
  have ih:=fls_set (xs:=xs) (i:=i) h
  unfold flsB at ih ⊢
  rw [List.set_cons_succ,List.filter_cons,List.filter_cons]
  cases x
  ·simp only [Bool.not_false,if_true,bV];omega
  ·simpa using ih
theorem fls_rep (n:Nat):flsB (List.replicate n false)=n:=by unfold flsB;rw [List.filter_eq_self.2 (fun b hb=>by rw [(cX.1 hb).2];rfl),cY]
def muB (out:List Bool) (todo:List Int):Nat:=flsB out*10001+todo.length
theorem mu_c {f g l t C:Nat} (h2:g+1=f) (h3:t+1<=C) (h4:0<l):g*C+(l - 1+t)<f*C+l:=by
 subst h2
 rw [Nat.add_mul,Nat.one_mul]
 generalize g*C=z
 omega
theorem muB_new (h:0<todo.length) (ho:out[n]?=some false) (hl:x.next.length<=10000):muB (out.set n true) (todo.dropLast++zac ns.length x.next)<muB out todo:=by
 unfold muB
 rw [bF,bW]
 exact mu_c (fls_set ho) (Nat.succ_le_succ (bC (zfa ns.length x.next) hl)) h
structure RbI (ns:List za4) (ks:List Int) (out:List Bool) (todo:List Int):Prop where
  len:out.length=ns.length
  rng:∀ x ∈ todo,0<=x/\x<(ns.length:Int)
  s1:∀ i,out[i]?=some true->Rch (edgA ns) (frmA ns ks) i
  s2:∀ x ∈ todo,Rch (edgA ns) (frmA ns ks) x.toNat
  c1:∀ j,frmA ns ks j->out[j]?=some true\/((j:Nat):Int) ∈ todo
  c2:∀ i,out[i]?=some true->∀ j,edgA ns i j->out[j]?=some true\/((j:Nat):Int) ∈ todo
  tl:muB out todo<=ns.length*10001+10000
theorem RbI.start (hk:ks.length<=10000):RbI ns ks (List.replicate ns.length false) (zac ns.length ks) where
 len:=cY
 rng:=fun x hx=>(zc6.1 hx).2
 s1:=fun i h=>by
  have:=bL h
  cases (cX.1 this).2
 s2:=fun x hx=>by
  obtain ⟨h1,h2,h3⟩:=zc6.1 hx
  refine .base ⟨?_,by omega⟩
  rw [cN h2];exact h1
 c1:=fun j h => .inr (zc6.2 ⟨h.1,by omega,by have:=h.2;omega⟩)
 c2:=fun i h=>by
  have:=bL h
  cases (cX.1 this).2
 tl:=by
  unfold muB
  rw [fls_rep]
  have:=zfa ns.length ks
  omega
theorem RbI.nat (h:RbI ns ks out todo) (hj:j<todo.length):∃ n:Nat,todo[j]?=some (n:Int)/\n<ns.length:=by
 have h1:=h.rng todo[j] (bM hj)
 exact ⟨todo[j].toNat,by rw [bH hj];congr 1;omega,by omega⟩
theorem RbI.old (h:RbI ns ks out todo) (ht:todo[todo.length - 1]?=some (n:Int)) (ho:out[n]?=some true):RbI ns ks out todo.dropLast where
 len:=h.len
 rng:=fun x hx=>h.rng x (cO _ hx)
 s1:=h.s1
 s2:=fun x hx=>h.s2 x (cO _ hx)
 c1:=fun j hj=>by
  rcases h.c1 j hj with h1 | h1
  ·exact .inl h1
  ·rcases zdi ht h1 with h2 | h2
   ·have e:j=n:=by omega
    subst e;exact .inl ho
   ·exact .inr h2
 c2:=fun i hi j hj=>by
  rcases h.c2 i hi j hj with h1 | h1
  ·exact .inl h1
  ·rcases zdi ht h1 with h2 | h2
   ·have e:j=n:=by omega
    subst e;exact .inl ho
   ·exact .inr h2
 tl:=by
  have:=h.tl
  unfold muB at this ⊢
  rw [bW];omega
theorem RbI.fresh (h:RbI ns ks out todo) (ht:todo[todo.length - 1]?=some (n:Int)) (ho:out[n]?=some false) (hx:ns[n]?=some x) (hl:x.next.length<=10000) :
  RbI ns ks (out.set n true) (todo.dropLast++zac ns.length x.next) where
 len:=by rw [List.length_set];exact h.len
 rng:=fun y hy=>by
  rcases cK.1 hy with h1 | h1
  ·exact h.rng y (cO _ h1)
  ·exact (zc6.1 h1).2
 s1:=fun i hi=>by
  by_cases e:n=i
  ·subst e
   have:=h.s2 (n:Int) (bL ht)
   simpa using this
  ·rw [bX e] at hi;exact h.s1 i hi
 s2:=fun y hy=>by
  rcases cK.1 hy with h1 | h1
  ·exact h.s2 y (cO _ h1)
  ·obtain ⟨h2,h3,h4⟩:=zc6.1 h1
   have hn:=h.s2 (n:Int) (bL ht)
   refine .step (by simpa using hn) ⟨x,hx,?_,by omega⟩
   rw [cN h3];exact h2
 c1:=fun j hj=>by
  by_cases e:n=j
  ·subst e;exact .inl (bY (bK.1 ho).1)
  ·rcases h.c1 j hj with h1 | h1
   ·exact .inl (by rw [bX e];exact h1)
   ·rcases zdi ht h1 with h2 | h2
    ·exact absurd (by omega) e
    ·exact .inr (dE _ h2)
 c2:=fun i hi j hj=>by
  by_cases e:n=i
  ·subst e
   obtain ⟨m,h1,h2,h3⟩:=hj
   rw [hx] at h1;have h1:=Option.some.inj h1;subst h1
   exact .inr (List.mem_append_right _ (zc6.2 ⟨h2,by omega,by omega⟩))
  ·rw [bX e] at hi
   by_cases e2:n=j
   ·subst e2;exact .inl (bY (bK.1 ho).1)
   ·rcases h.c2 i hi j hj with h1 | h1
    ·exact .inl (by rw [bX e2];exact h1)
    ·rcases zdi ht h1 with h2 | h2
     ·exact absurd (by omega) e2
     ·exact .inr (dE _ h2)
 tl:=by
  exact bC (Nat.le_of_lt (muB_new (Nat.lt_of_le_of_lt (bB _) (bK.1 ht).1) ho hl)) h.tl
theorem RbI.less_old (h:0<todo.length):muB out todo.dropLast<muB out todo:=by
 unfold muB;rw [bW];omega
theorem RbI.done (h:RbI ns ks out []):out=rchT ns ks:=by
 refine cP fun i=>?_
 by_cases hi:i<ns.length
 ·have h1:out[i]?=some true ↔ Rch (edgA ns) (frmA ns ks) i:=by
   constructor
   ·exact h.s1 i
   ·intro hr
    induction hr with
    | base hb=>exact (h.c1 _ hb).resolve_right (by simp)
    | @step a b _ he ih =>
     have ha:a<ns.length:=by obtain ⟨m,h5,_,_⟩:=he;exact (bK.1 h5).1
     exact (h.c2 _ (ih ha) _ he).resolve_right (by simp)
  have hi2:i<out.length:=by rw [h.len];exact hi
  have h2:out[i]?=some out[i]:=bH hi2
  unfold rchT
  rw [bT,cQ hi]
  rw [bZ]
  by_cases e:Rch (edgA ns) (frmA ns ks) i
  ·rw [h1.2 e];simp [e]
  ·rw [h2]
   cases e2:out[i] with
   | true=>exact absurd (h1.1 (by rw [h2,e2])) e
   | false=>simp [e]
 ·rw [bQ (by rw [h.len];omega),bQ (by unfold rchT;simp;omega)]
theorem rch_len (ns:List za4) (ks:List Int):(rchT ns ks).length=ns.length:=by unfold rchT;simp
def nxA (a:zca) (i:Nat):List Int:=(a.nodes[i]?).map za4.next |>.getD []
noncomputable def goaB (a:zca) (i:Nat):Bool:=zd7 a i && ((rchT a.nodes (nxA a i))[i]?).getD false
noncomputable def goaJ (a:zca) (j:Nat):List Int:=((List.range j).filter (goaB a)).map fun i:Nat=>(i:Int)
theorem goaJ_step (a:zca) (j:Nat):goaJ a (j+1)=goaJ a j++if goaB a j=true then [(j:Int)] else []:=by
 unfold goaJ
 rw [b7,b8,bI]
 congr 1
 by_cases e:goaB a j=true
 ·rw [if_pos e];simp [e]
 ·rw [if_neg e];simp [e]
theorem goaJ_le (a:zca) (j:Nat):(goaJ a j).length<=j:=by unfold goaJ;rw [bA];exact bC (b9 _ _) (by simp)
theorem goaJ_all (a:zca):goaJ a a.nodes.length=goaT a:=rfl
def zfm (a:zca):Prop:=a.nodes.length<=10000/\(∀ n ∈ a.nodes,n.must.length<=10000/\n.never.length<=10000/\n.next.length<=10000)/\a.good.length<=10000
theorem SAGood (au:zca) (i:Nat) (hi:i<=1000000):Fn dI 23 [] [vG [.d (.sl 3 (au.nodes.map dM)),cIs au.first,.d (.sl 1 (au.good.map za0))],vN i] (vb (zd7 au i)) []:=by
 refine fB Tryz.func23 rfl 17 fun w H B a h=>Jq 0 [] [(1,vN i),(2,vp 0 0),(4,vb false)] [(0,.box [.d (.sl 3 (au.nodes.map dM)),cIs au.first,.d (.sl 1 (au.good.map za0))])] h fun a w h=>?_
 rcases bN (decide ((i:Int)<(au.good.length:Int))) with hc1 | hc2
 ·have hc1':=dT hc1;obtain ⟨x1,hx1⟩:=gl au.good i;refine Jq 1 [(3,.len (za9 1 za0 au.good)),(4,.cmp (op:=.lss) (m:=(i:Int)) (n:=(au.good.length:Int)) (b:=true) .i64 hc1),(9,.g (xD 14 12 zbo (zab hx1 (f:=za0)) (dJ 13 _)))] [(4,vb x1)] [] h fun a w h=>qV (rT (.c (cB x1)) h rfl ?_);have hz:zd7 au i=x1:=by unfold zd7;rw [hx1];rfl
  rw [hz];try rfl
 have hc2':=dF hc2;refine Jq 1 [(3,.len (za9 1 za0 au.good)),(4,.cmp (op:=.lss) (m:=(i:Int)) (n:=(au.good.length:Int)) (b:=false) .i64 hc2)] [(4,vb false)] [] h fun a w h=>qV (rT (.c (cB false)) h rfl ?_);have hz:zd7 au i=false:=by unfold zd7;rw [bQ (by have:=dF hc2;omega)];rfl
 rw [hz];try rfl
theorem SAReach (au:zca) (ks:List Int) (hao:zfm au) (hks:ks.length<=10000):Fn dI 34 [] [vG [.d (.sl 3 (au.nodes.map dM)),cIs au.first,.d (.sl 1 (au.good.map za0))],(vIs ks)] (vO 0 (rchT au.nodes ks).length) [(0,.row 4 1 ((rchT au.nodes ks).map za0))]:=by
 have ha1:=hao.1;refine fB Tryz.func34 rfl 52 fun w H B a h=>Jq 50 [] [(1,(vIs ks)),(2,vp 50 0),(4,vW za6)] [(50,.box [.d (.sl 3 (au.nodes.map dM)),cIs au.first,.d (.sl 1 (au.good.map za0))])] h fun a w h=>Jg 51 [(2,.len (za9 3 dM au.nodes)),(3,.g (Op.makeO' (d:=11) (n:=51) (L:=au.nodes.length) (zs:=[.raw (.bool false)]) (rows:=(List.replicate au.nodes.length false).map za0) zf9 va6_3 rfl (dJ 10 _) (dJ 10 _) (by omega) (by rw [cA];rfl)))] [] [(5,vO 51 au.nodes.length)] [] [(51,.row 4 1 ((List.replicate au.nodes.length false).map za0))] h fun a w h=>Jg 52 [(3,.len (za9 3 dM au.nodes)),(4,.call (zew ks au.nodes.length (by omega)))] [1] [(6,vO 40 (zac au.nodes.length ks).length)] [] [(40,.row 3 1 ((zac au.nodes.length ks).map za3))] h fun a w h=>qW (qZ ?_)
 replace h:=zb7 40 20 h;replace h:=zb7 51 21 h;replace h:=cvM [] [(5,vO 21 (List.replicate au.nodes.length false).length)] [] [] (by rw [cY]; try kernel_rfl) h
 refine zdp (ι:=(List Bool) × (List Int)) (fun (out,todo)=>RbI au.nodes ks out todo)
   [] (fun (out,todo)=>[(5,vO 21 out.length),(6,vO 20 todo.length)])
   [] (fun (out,todo)=>[(20,.row 3 1 (todo.map za3)),(21,.row 4 1 (out.map za0))])
   (fun (out,todo)=>muB out todo) ((List.replicate au.nodes.length false),(zac au.nodes.length ks)) ?_ h ?_
 ·exact RbI.start hks
 clear h;rintro ⟨out,todo⟩ a w hI h;dsimp only at h;have hlo:=hI.len;have htl9:todo.length<=au.nodes.length*10001+10000:=by have:=hI.tl;unfold muB at this;omega
 refine qW (Je 52 [] [] [(19,vb (decide ((todo.length:Int)>0)))] h fun a w h=>zav ((todo.length:Int)>0) h (fun hc1 hc1'=>?_) (fun hc4 hc4'=>?_))
 ·refine qU (za1 (qZ ?_));obtain ⟨n2,hn2,bn2⟩:=hI.nat (j:=todo.length - 1) (by first | omega | (simp at *;omega));refine Jp 52 [(3,.g (Op.arith (op:=.sub) (d:=23) (xt:=3) (yt:=3) (k:=.i64) (m:=(todo.length:Int)) (n:=1) (r:=((todo.length - 1:Nat):Int)) (dJ 22 _) (OV.const (.int .i64 1) rfl) (.inr (.inl ⟨rfl,(by omega)⟩)) i6)),(4,.g (xO 24 20 20 todo.length (todo.length - 1) tb_1 (dJ 23 _))),(5,.g (Op.loadR_c (d:=25) (t:=24) (n:=20) (i:=(todo.length - 1)) (fo:=0) (rty:=3) (es:=1) (x:=(.raw (.int .i64 (n2:Int)))) tl_7 rfl (zab hn2 (f:=za3)) rfl))] [(2,vp 50 0),(4,vW za6),(5,vO 21 out.length),(6,vO 20 todo.length),(7,vN n2)] h fun a w h=>Je 52 [(3,.g (Op.arith (op:=.sub) (d:=29) (xt:=3) (yt:=3) (k:=.i64) (m:=(todo.length:Int)) (n:=1) (r:=((todo.length - 1:Nat):Int)) (dJ 28 _) (OV.const (.int .i64 1) rfl) (.inr (.inl ⟨rfl,(by omega)⟩)) i6)),(4,.g (Op.sliceHi (d:=30) (t:=26) (k:=.i64) (n:=20) (len:=todo.length) (h:=(todo.length - 1)) (rows:=todo.map za3) (rty:=3) tb_1 (by first | omega | (simp;done) | (simp at *;omega)) (dJ 29 _)))] [] [(6,vO 20 (todo.length - 1))] h fun a w h=>?_;replace h:=cutS 20 (todo.length - 1) 1 3 (todo.map za3) [(2,vp 50 0),(4,vW za6),(5,vO 21 out.length),(6,vO 20 (todo.length - 1)),(7,vN n2)] [(50,.box [.d (.sl 3 (au.nodes.map dM)),cIs au.first,.d (.sl 1 (au.good.map za0))]),(20,.row 3 1 ((todo.map za3).take (todo.length - 1))),(21,.row 4 1 (out.map za0))] h rfl (by kernel_rfl) (by kernel_rfl);replace h:=cvM [] [(6,vO 20 todo.dropLast.length)] [] [(20,.row 3 1 (todo.dropLast.map za3))] (by rw [bW,List.dropLast_eq_take,List.map_take]; try kernel_rfl) h;obtain ⟨x3,hx3⟩:=gl out n2;refine Jg 52 [(2,.g (xO 33 31 21 out.length n2 zbo (dJ 32 _))),(3,.g (Op.loadR_c (d:=34) (t:=33) (n:=21) (i:=n2) (fo:=0) (rty:=4) (es:=1) (x:=(.raw (.bool x3))) zh9 rfl (zab hx3 (f:=za0)) rfl))] [] [(35,vb (!x3))] [] [] h fun a w h=>cS (!x3) h (fun hc2=>?_) (fun hc3=>?_)
  ·refine Jg 52 [(2,.g (xO 38 36 21 out.length n2 zbo (dJ 37 _))),(3,.g (Op.storeR (t:=38) (n:=21) (i:=n2) (fo:=0) (rty:=4) (es:=1) (r:=za0 x3) (ds:=[.raw (.bool true)]) (rs:=[]) (rows:=out.map za0) (rows':=(out.set n2 true).map za0) zh9 (OV.const (.bool true) rfl) rfl rfl rfl (zab hx3 (f:=za0)) (by simp [za0]) (zfg (xs:=out) (F:=za0) n2 _ _ rfl)))] [35] [] [] [(21,.row 4 1 ((out.set n2 true).map za0))] h fun a w h=>?_;obtain ⟨x4,hx4⟩:=gl au.nodes n2;have htr:=zfa au.nodes.length x4.next;have hnb9:=hao.2.1 x4 (lM hx4);have hdl9:todo.dropLast.length=todo.length - 1:=bW;refine Jh 52 [(4,.g (xD 43 41 zh8 (zab hx4 (f:=dM)) (dJ 42 _))),(9,.len (za9 3 dM au.nodes)),(10,.call (zew x4.next au.nodes.length (by omega))),(11,.g (Op.appOO (d:=50) (t:=39) (u:=49) (n:=20) (sn:=40) (n':=52) (len:=todo.dropLast.length) (len2:=(zac au.nodes.length x4.next).length) (len':=(todo.dropLast++(zac au.nodes.length x4.next)).length) (rows:=todo.dropLast.map za3) (rows2:=(zac au.nodes.length x4.next).map za3) (rows':=(todo.dropLast++(zac au.nodes.length x4.next)).map za3) tb_2 (by first | exact (bA _).symm | simp) (by first | exact (bA _).symm | simp) (by first | (rw [bF,bA];done) | simp) (by simp) (by first | omega | (simp only [bA];omega))))] [7] [(6,vO 52 (todo.dropLast++(zac au.nodes.length x4.next)).length)] [20] [(52,.row 3 1 ((todo.dropLast++(zac au.nodes.length x4.next)).map za3))] h fun a w h=>za7 (za1 ?_);replace h:=zb7 52 20 h;replace h:=cvM [] [(5,vO 21 (out.set n2 true).length)] [] [] (by rw [List.length_set]; try kernel_rfl) h;refine zaj (x:=(out,todo)) (y:=((out.set n2 true),(todo.dropLast++(zac au.nodes.length x4.next)))) h ?_ ?_
   ·exact hI.fresh hn2 (hx3.trans (congrArg some (by have:=hc2;simpa using this))) hx4 (hao.2.1 x4 (lM hx4)).2.2
   exact muB_new (by have:=(bK.1 hn2).1;omega) (hx3.trans (congrArg some (by have:=hc2;simpa using this))) (hao.2.1 x4 (lM hx4)).2.2
  refine qU (za7 (za1 (zaj (x:=(out,todo)) (y:=(out,todo.dropLast)) h ?_ ?_)))
  ·exact hI.old hn2 (hx3.trans (congrArg some (by have:=hc3;simpa using this)))
  exact RbI.less_old (by have:=(bK.1 hn2).1;omega)
 refine exA (Jg 53 [] [2,5,6,19] [(4,vO 21 out.length)] [50,20] [] h fun a w h=>qV ?_);have hte:todo=[]:=cZ.1 (by have:=dF hc4;omega);subst hte;have hR:out=(rchT au.nodes ks):=hI.done;replace h:=zb7 21 0 h;replace h:=cv (fun z_:List Bool=>F.of [(4,vO 0 z_.length)] [(0,.row 4 1 (z_.map za0))]) (show (out:List Bool)=(rchT au.nodes ks) from hR) (h.conv (by kernel_rfl));refine rT (.c (.own 0 (rchT au.nodes ks).length)) h rfl ?_;rfl
theorem SGoals (au:zca) (hao:zfm au):Fn dI 36 [] [vG [.d (.sl 3 (au.nodes.map dM)),cIs au.first,.d (.sl 1 (au.good.map za0))]] (vIs (goaT au)) []:=by
 have ha1:=hao.1;refine fB Tryz.func36 rfl 33 fun w H B a h=>Jq 50 [] [(1,vp 50 0),(2,vW za6)] [(50,.box [.d (.sl 3 (au.nodes.map dM)),cIs au.first,.d (.sl 1 (au.good.map za0))])] h fun a w h=>Je 51 [] [] [(3,vW za6)] h fun a w h=>qW (Je 51 [(2,.len (za9 3 dM au.nodes))] [] [(7,vN au.nodes.length),(8,vI 0)] h fun a w h=>qZ ?_)
 replace h:=zdb 3 0 51 1 3 (vW za6) h;replace h:=zb7 51 20 h;replace h:=cvM [] [(3,vO 20 (goaJ au 0).length)] [] [(20,.row 3 1 ((goaJ au 0).map za3))] (by kernel_rfl) h
 refine zdp (ι:=(Nat)) (fun j=>j<=au.nodes.length)
   [] (fun j=>[(3,vO 20 (goaJ au j).length),(8,vN j)])
   [] (fun j=>[(20,.row 3 1 ((goaJ au j).map za3))])
   (fun j=>au.nodes.length - j) 0 ?_ h ?_
 ·exact bB _
 clear h;rintro j a w hI h;have hgl:=goaJ_le au j;refine Je 52 [] [] [(9,vb (decide ((j:Int)<(au.nodes.length:Int))))] h fun a w h=>qW (zav ((j:Int)<(au.nodes.length:Int)) h (fun hc1 hc1'=>?_) (fun hc6 hc6'=>?_))
 ·refine qU (za1 (qW (qZ (Je 52 [] [9] [(4,vN j)] h fun a w h=>?_))))
  rcases bN (zd7 au j) with hc2 | hc5
  ·obtain ⟨x3,hx3⟩:=gl au.nodes j;have hrl:=rch_len au.nodes x3.next;obtain ⟨x5,hx5⟩:=gl (rchT au.nodes x3.next) j;refine Je 52 [(2,.call (Fn.cast (SAGood au j (by omega)) (congrArg vb hc2))),(8,.g (xD 19 17 zh8 (zab hx3 (f:=dM)) (dJ 18 _))),(11,.call (SAReach au x3.next hao (hao.2.1 x3 (lM hx3)).2.2)),(13,.g (xO 24 22 0 (rchT au.nodes x3.next).length j zbo (dJ 23 _))),(14,.g (Op.loadR_c (d:=25) (t:=24) (n:=0) (i:=j) (fo:=0) (rty:=4) (es:=1) (x:=(.raw (.bool x5))) zh9 rfl (zab hx5 (f:=za0)) rfl))] [] [(26,vb x5)] h fun a w h=>cS x5 h (fun hc3=>?_) (fun hc4=>?_)
   ·refine Jh 52 [(2,.g (bD 29 ([(j:Int)].map za3) [(28,vN j)] zgv (.cons (i:=0) (dJ 28 _) (.nil)) (by kernel_rfl) (by simp [za3]))),(3,.g (Op.appOD (d:=30) (t:=27) (u:=29) (n:=20) (n':=52) (len:=(goaJ au j).length) (len':=((goaJ au j)++[(j:Int)]).length) (rows:=(goaJ au j).map za3) (rows2:=[(j:Int)].map za3) (rows':=((goaJ au j)++[(j:Int)]).map za3) tb_2 (by first | exact (bA _).symm | simp) (by first | (rw [bF,bA];done) | (simp;done) | (simp;omega)) (by simp) (by simp [za3]) (by first | omega | (simp at *;done) | (simp at *;omega))))] [4,26] [(3,vO 52 ((goaJ au j)++[(j:Int)]).length)] [20] [(52,.row 3 1 (((goaJ au j)++[(j:Int)]).map za3))] h fun a w h=>za7 (za1 (Jf 53 [(0,.j1 j)] [] [(8,vI ((j:Int)+1))] h fun a w h=>za1 ?_));replace h:=zb7 52 20 h;have hfb:goaB au j=true:=by unfold goaB;rw [hc2,show nxA au j=x3.next by unfold nxA;rw [hx3];rfl,hx5];exact hc3
    have hrw:((goaJ au j)++[(j:Int)])=(goaJ au (j+1)):=by rw [goaJ_step,hfb];first | done | rfl | exact (bG _).symm
    replace h:=cvM [] [(3,vO 20 (goaJ au (j+1)).length)] [] [(20,.row 3 1 ((goaJ au (j+1)).map za3))] (by rw [hrw]; try kernel_rfl) h;refine zaj (x:=j) (y:=j+1) h ?_ ?_
    ·have:=dT hc1;show j+1<=au.nodes.length;omega
    have:=dT hc1;show au.nodes.length - (j+1)<au.nodes.length - j;omega
   refine qU (za7 (za1 (Jf 53 [(0,.j1 j)] [4,26] [(8,vI ((j:Int)+1))] h fun a w h=>za1 ?_)));have hfb:goaB au j=false:=by unfold goaB;rw [hc2,show nxA au j=x3.next by unfold nxA;rw [hx3];rfl,hx5];exact hc4
   have hrw:(goaJ au j)=(goaJ au (j+1)):=by rw [goaJ_step,hfb];first | done | rfl | exact (bG _).symm
   replace h:=cvM [] [(3,vO 20 (goaJ au (j+1)).length)] [] [(20,.row 3 1 ((goaJ au (j+1)).map za3))] (by rw [hrw]; try kernel_rfl) h;refine zaj (x:=j) (y:=j+1) h ?_ ?_
   ·have:=dT hc1;show j+1<=au.nodes.length;omega
   have:=dT hc1;show au.nodes.length - (j+1)<au.nodes.length - j;omega
  refine Je 53 [(2,.call (Fn.cast (SAGood au j (by omega)) (congrArg vb hc5)))] [] [(26,vb false)] h fun a w h=>zd1 h (qU (za7 (za1 (Jf 53 [(0,.j1 j)] [4,26] [(8,vI ((j:Int)+1))] h fun a w h=>za1 ?_))));have hfb:goaB au j=false:=by unfold goaB;rw [hc5];rfl
  have hrw:(goaJ au j)=(goaJ au (j+1)):=by rw [goaJ_step,hfb];first | done | rfl | exact (bG _).symm
  replace h:=cvM [] [(3,vO 20 (goaJ au (j+1)).length)] [] [(20,.row 3 1 ((goaJ au (j+1)).map za3))] (by rw [hrw]; try kernel_rfl) h;refine zaj (x:=j) (y:=j+1) h ?_ ?_
  ·have:=dT hc1;show j+1<=au.nodes.length;omega
  have:=dT hc1;show au.nodes.length - (j+1)<au.nodes.length - j;omega
 refine exA (Jg 53 [] [1,3,7,8,9] [(2,vO 20 (goaJ au j).length)] [50] [] h fun a w h=>qV ?_);replace h:=cv (fun z_:List Int=>F.of [(2,vO 20 z_.length)] [(20,.row 3 1 (z_.map za3))]) (show ((goaJ au j):List Int)=(goaT au) from (by rw [show j=au.nodes.length by have:=dF hc6;omega];exact goaJ_all au)) (h.conv (by kernel_rfl));replace h:=zg6 20 1 3 ((goaT au).map za3) h [(goaT au).length] ⟨by first | exact (bA _).symm | (simp;done) | (simp;omega),trivial⟩;refine rT (.c (cIs (goaT au))) h rfl ?_;rfl
theorem vd2_6:Zero dI 83 [.d (.raw za6),.d (.raw za6),.d (.raw za6)]:=⟨(Value.agg #[.slice none 0 0,.slice none 0 0,.slice none 0 0]),[.slice none 0 0,.slice none 0 0,.slice none 0 0],by kernel_rfl,rfl,(fun _ _=>⟨DR.raw _ rfl,DR.raw _ rfl,DR.raw _ rfl,trivial⟩)⟩
def kpF (an:List Int) (i:Int):Option Int:=if 0<=i/\i<(an.length:Int)/\0<=(an[i.toNat]?).getD (-1) then some ((an[i.toNat]?).getD (-1)) else none
theorem kpt_def (an ks:List Int):zdg an ks=ks.filterMap (kpF an):=rfl
theorem kpF_neg {i:Int} (h:i<0):kpF an i=none:=if_neg (by omega)
theorem kpF_big {i:Int} (h:¬ i<(an.length:Int)):kpF an i=none:=if_neg (by omega)
theorem kpF_at {x:Int} (h:an[k]?=some x):kpF an (k:Int)=if 0<=x then some x else none:=by
 have h1:=(bK.1 h).1
 unfold kpF
 rw [Int.toNat_natCast,h,Option.getD_some]
 by_cases e:0<=x
 ·rw [if_pos ⟨by omega,by omega,e⟩,if_pos e]
 ·rw [if_neg (by omega),if_neg e]
theorem comR_take (xs:List Int):(comR xs).take (zdu xs).length=zdu xs:=cP fun i=>by
 by_cases h:i<(zdu xs).length
 ·rw [List.getElem?_take,if_pos h,bH h];exact comR_at (bH h)
 ·rw [List.getElem?_take,if_neg h,bQ (by omega)]
def nxN (ns:List za4) (i:Nat):List Int:=(ns[i]?).map za4.next |>.getD []
def trJ (ns:List za4) (j:Nat):List za4:=(List.range ns.length).map fun k=>⟨[],[],((List.range j).filter fun i=>(nxN ns i).contains ((k:Nat):Int)).map fun i:Nat=>(i:Int)⟩
theorem trJ_all (ns:List za4):trJ ns ns.length=zfn ns:=rfl
theorem trJ_len (ns:List za4) (j:Nat):(trJ ns j).length=ns.length:=by unfold trJ;simp
theorem trJ_ok (ns:List za4) (j:Nat):GOk ns.length j ⟨trJ ns j,[]⟩:=⟨trJ_len ns j,bB _,fun nd hn=>by
 have hn:nd ∈ trJ ns j:=hn
 unfold trJ at hn
 obtain ⟨k,_,rfl⟩:=bE.1 hn
 show (List.map _ _).length<=j
 rw [bA]
 exact bC (b9 _ _) (by simp)⟩
theorem trJ_zero (ns:List za4):((ndX (List.replicate ns.length (NdN.mk [] []))).map fun p=>(p,([]:List (List D))))=ndN (trJ ns 0):=by
 unfold ndX ndN trJ
 rw [cA,cA,List.map_map]
 have e:(List.range ns.length).map (ndR ∘ fun k=>(⟨[],[],((List.range 0).filter fun i=>(nxN ns i).contains ((k:Nat):Int)).map fun i:Nat=>(i:Int)⟩:za4))=(List.range ns.length).map fun _=>([D.sl 1 [],D.sl 1 []],[]):=cJ fun k _=>rfl
 rw [e,List.map_const', List.length_range];rfl
theorem thr_nodup (n:Nat) (ks:List Int):(zac n ks).Nodup:=by
 have key:∀ (ks out:List Int),out.Nodup->(ks.foldl (fun out i=>if (decide (0<=i) && decide (i<(n:Int)) && !out.contains i)=true then out++[i] else out) out).Nodup:=by
  intro ks
  induction ks with
  | nil=>intro out h;exact h
  | cons k ks ih =>
   intro out h
   rw [List.foldl_cons]
   refine ih _ ?_
   split
   ·rename_i h1
    refine List.nodup_append.2 ⟨h,by simp,fun a ha b hb e=>?_⟩
    rw [bO.1 hb] at e
    subst e
    simp [ha] at h1
   ·exact h
 exact key ks [] cM
theorem zg9 {α β:Type} [DecidableEq α] {f:β}:∀ {l:List α} (k:α),l.Nodup->(l.filter fun x=>decide (x=k)).map (fun _=>f)=if k ∈ l then [f] else []
 | [],k,_=>by simp
 | x :: l,k,h=>by
  obtain ⟨h1,h2⟩:=List.nodup_cons.1 h
  have ih:=zg9 (f:=f) k h2
  by_cases e:x=k
  ·subst e
   rw [cC (by simp),bJ,ih,if_neg h1,if_pos (List.mem_cons_self ..)]
  ·rw [cD (by simpa using e),ih]
   by_cases e2:k ∈ l
   ·rw [if_pos e2,if_pos (List.mem_cons_of_mem _ e2)]
   ·rw [if_neg e2,if_neg (by simp only [cF,not_or];exact ⟨fun q=>e q.symm,e2⟩)]
theorem trJ_step (h:ns[j]?=some x):(zah ⟨trJ ns j,[]⟩ j (zac ns.length x.next)).nodes=trJ ns (j+1):=cP fun k=>by
 rw [addFs_at]
 show ((trJ ns j)[k]?).map _=_
 unfold trJ
 rw [bT,bT]
 by_cases hk:k<ns.length
 ·rw [cQ hk]
  simp only [bZ,Option.some.injEq,za4.mk.injEq,true_and]
  rw [zg9 _ (thr_nodup _ _),b7,b8,bI]
  congr 1
  have e:nxN ns j=x.next:=by unfold nxN;rw [h];rfl
  by_cases e2:(k:Int) ∈ x.next
  ·rw [if_pos (zc6.2 ⟨e2,by omega,by omega⟩),cC (by rw [e];simpa using e2)];rfl
  ·rw [if_neg (fun q=>e2 (zc6.1 q).1),cD (by rw [e];simpa using e2)];rfl
 ·rw [bQ (by simp;omega)];rfl
def ndzD (_:Unit):List D:=[.raw za6,.raw za6,.raw za6]
theorem ndz_w {H:Im}:∀ (n:Nat) (ys:List Value),zat (DR H) ((List.replicate n ()).map ndzD).flatten ys->zat (DR H) ((List.replicate n (NdN.mk [] [])).map NdN.d).flatten ys
 | 0,_,h=>h
 | n+1,ys,h=>by
  rw [List.replicate_succ,bJ,bP] at h ⊢
  match ys,h with
  | y1 :: y2 :: y3 :: ys,h =>
   obtain ⟨h1,h2,h3,h4⟩:=h
   refine ⟨?_,?_,h3,ndz_w n ys h4⟩
   ·cases h1;exact DR.nil _ _ _ (fun _=>rfl) (bB _)
   ·cases h2;exact DR.nil _ _ _ (fun _=>rfl) (bB _)
  | [],h=>exact h.elim
  | [_],h=>exact h.2.elim
  | [_,_],h=>exact h.2.2.elim
theorem St.rowW {a:Act} (h:St e f a w) {X':List (List D)} (hl:f.l n=some (.row ty es X)) (hlen:X'.length=X.length) (hes:∀ r ∈ X', r.length=es) (hw:∀ H ys,zat (DR H) X.flatten ys->zat (DR H) X'.flatten ys):St e (f.setL n (.row ty es X')) a w:=by
 obtain ⟨H,B,hok⟩:=h
 refine ⟨H,B,hok.setL n _ _ hl fun h3=>?_⟩
 simp only [LR] at h3 ⊢
 cases hB:B n with
 | none=>rw [hB] at h3;have h3:X=[]:=h3;subst h3;exact cZ.1 hlen
 | some q =>
  rw [hB] at h3
  obtain ⟨arr,g1,g2,g3,g4,g5,g6⟩:=h3
  exact ⟨arr,g1,g2,by rw [hlen];exact g3,g4,hes,by rw [hlen];exact hw H _ g6⟩
theorem rowWS {w0:World} {H0:Im} {B0:Bl} {N:Nat} {sl:List (Nat × V)} {lc:List (Nat × L)} {a:Act} {K:List Nat} (n es:Nat) (ty:TypeId) (X X':List (List D)) (sl':List (Nat × V)) (lc':List (Nat × L)) (h:St ⟨w0,H0,B0,K,N⟩ (F.of sl lc) a w) (hl:lc.lookup n=some (.row ty es X)) (hlen:X'.length=X.length) (hes:∀ r ∈ X', r.length=es) (hw:∀ H ys,zat (DR H) X.flatten ys->zat (DR H) X'.flatten ys)
  (h3:leS ((F.of sl lc).setL n (.row ty es X')) sl'=sl'.map fun p=>some p.2) (h4:leN ((F.of sl lc).setL n (.row ty es X')) lc'=lc'.map fun p=>some p.2):St ⟨w0,H0,B0,K,N⟩ (F.of sl' lc') a w :=
 (h.rowW hl hlen hes hw).weaken (zf8 h3 h4)
theorem SKept (ks an:List Int) (hks:ks.length<=10000) (han:an.length<=10000):Fn dI 37 [] [(vIs ks),(vIs an)] (vIs (zad (zdg an ks))) []:=by
 refine fB Tryz.func37 rfl 41 fun w H B a h=>Jq 50 [] [(0,(vIs ks)),(1,(vIs an)),(4,vW za6)] [] h fun a w h=>Jg 50 [] [] [(5,vW za6)] [] [] h fun a w h=>qW (Jg 50 [(1,.len (za9 1 za3 ks))] [0] [(8,(vIs ks)),(9,vN ks.length),(10,vI 0)] [] [] h fun a w h=>qZ ?_)
 replace h:=zdb 5 0 50 1 3 (vW za6) h;replace h:=zb7 50 20 h;replace h:=cvM [] [(5,vO 20 ((ks.take 0).filterMap (kpF an)).length)] [] [(20,.row 3 1 (((ks.take 0).filterMap (kpF an)).map za3))] (by kernel_rfl) h
 refine zdp (ι:=(Nat)) (fun j=>j<=ks.length)
   [] (fun j=>[(5,vO 20 ((ks.take j).filterMap (kpF an)).length),(10,vN j)])
   [] (fun j=>[(20,.row 3 1 (((ks.take j).filterMap (kpF an)).map za3))])
   (fun j=>ks.length - j) 0 ?_ h ?_
 ·exact bB _
 clear h;rintro j a w hI h;have hfl:=cE (kpF an) (ks.take j);rw [cL] at hfl;refine Je 51 [] [] [(11,vb (decide ((j:Int)<(ks.length:Int))))] h fun a w h=>qW (zav ((j:Int)<(ks.length:Int)) h (fun hc1 hc1'=>?_) (fun hc6 hc6'=>?_))
 ·refine qU (za1 (qW (qZ ?_)));obtain ⟨x1,hx1⟩:=gl ks j;refine Je 51 [(0,.g (xD 12 8 tb_1 (zab hx1 (f:=za3)) (dJ 10 _)))] [11] [(7,vI x1)] h fun a w h=>?_
  rcases Int.lt_or_le x1 0 with hx0 | hx0
  ·skip
   refine Je 51 [(1,.cmp (op:=.geq) (m:=x1) (n:=0) (b:=false) .i64 (show decide (x1>=0)=false from decide_eq_false (by omega)))] [] [(28,vb false)] h fun a w h=>zd1 h (qU (za7 (za1 (Jf 51 [(0,.j1 j)] [7,28] [(10,vI ((j:Int)+1))] h fun a w h=>za1 ?_))));have hkf:kpF an x1=none:=kpF_neg hx0;have hrw:((ks.take j).filterMap (kpF an))=((ks.take (j+1)).filterMap (kpF an)):=by rw [zce (f:=kpF an) hx1,hkf];first | done | rfl | exact (bG _).symm
   replace h:=cvM [] [(5,vO 20 ((ks.take (j+1)).filterMap (kpF an)).length)] [] [(20,.row 3 1 (((ks.take (j+1)).filterMap (kpF an)).map za3))] (by rw [hrw]; try kernel_rfl) h;refine zaj (x:=j) (y:=j+1) h ?_ ?_
   ·have:=zal hx1;show j+1<=ks.length;omega
   have:=zal hx1;show ks.length - (j+1)<ks.length - j;omega
  skip
  obtain ⟨k9,hkk9⟩:∃ k_:Nat,x1=(k_:Int):=⟨_,(cN (hx0)).symm⟩;replace h:=cvM [] [(7,vN k9)] [] [] (by rw [hkk9]; try kernel_rfl) h
  rcases bN (decide ((k9:Int)<(an.length:Int))) with hc2 | hc5
  ·have hc2':=dT hc2;obtain ⟨x2,hx2⟩:=gl an k9;refine Jg 51 [(1,.cmp (op:=.geq) (m:=(k9:Int)) (n:=0) (b:=true) .i64 (show decide ((k9:Int)>=0)=true from decide_eq_true (by omega))),(5,.len (za9 1 za3 an)),(6,.cmp (op:=.lss) (m:=(k9:Int)) (n:=(an.length:Int)) (b:=true) .i64 hc2),(11,.g (xD 25 23 tb_1 (zab hx2 (f:=za3)) (dJ 24 _)))] [] [(28,vb (decide (x2>=0)))] [] [] h fun a w h=>zav (x2>=0) h (fun hc3 hc3'=>?_) (fun hc4 hc4'=>?_)
   ·refine Jh 51 [(3,.g (xD 32 30 tb_1 (zab hx2 (f:=za3)) (dJ 31 _))),(5,.g (bD 34 ([x2].map za3) [(33,vI x2)] zgv (.cons (i:=0) (dJ 33 _) (.nil)) (by kernel_rfl) (by simp [za3]))),(6,.g (Op.appOD (d:=35) (t:=29) (u:=34) (n:=20) (n':=51) (len:=((ks.take j).filterMap (kpF an)).length) (len':=(((ks.take j).filterMap (kpF an))++[x2]).length) (rows:=((ks.take j).filterMap (kpF an)).map za3) (rows2:=[x2].map za3) (rows':=(((ks.take j).filterMap (kpF an))++[x2]).map za3) tb_2 (by first | exact (bA _).symm | simp) (by first | (rw [bF,bA];done) | (simp;done) | (simp;omega)) (by simp) (by simp [za3]) (by first | omega | (simp at *;done) | (simp at *;omega))))] [7,28] [(5,vO 51 (((ks.take j).filterMap (kpF an))++[x2]).length)] [20] [(51,.row 3 1 ((((ks.take j).filterMap (kpF an))++[x2]).map za3))] h fun a w h=>za7 (za1 (Jf 52 [(0,.j1 j)] [] [(10,vI ((j:Int)+1))] h fun a w h=>za1 ?_));replace h:=zb7 51 20 h;have hkf:kpF an x1=some x2:=(by rw [hkk9,kpF_at hx2,if_pos (dT hc3)]);have hrw:(((ks.take j).filterMap (kpF an))++[x2])=((ks.take (j+1)).filterMap (kpF an)):=by rw [zce (f:=kpF an) hx1,hkf];first | done | rfl | exact (bG _).symm
    replace h:=cvM [] [(5,vO 20 ((ks.take (j+1)).filterMap (kpF an)).length)] [] [(20,.row 3 1 (((ks.take (j+1)).filterMap (kpF an)).map za3))] (by rw [hrw]; try kernel_rfl) h;refine zaj (x:=j) (y:=j+1) h ?_ ?_
    ·have:=zal hx1;show j+1<=ks.length;omega
    have:=zal hx1;show ks.length - (j+1)<ks.length - j;omega
   refine qU (za7 (za1 (Jf 52 [(0,.j1 j)] [7,28] [(10,vI ((j:Int)+1))] h fun a w h=>za1 ?_)));have hkf:kpF an x1=none:=(by rw [hkk9,kpF_at hx2,if_neg (dF hc4)]);have hrw:((ks.take j).filterMap (kpF an))=((ks.take (j+1)).filterMap (kpF an)):=by rw [zce (f:=kpF an) hx1,hkf];first | done | rfl | exact (bG _).symm
   replace h:=cvM [] [(5,vO 20 ((ks.take (j+1)).filterMap (kpF an)).length)] [] [(20,.row 3 1 (((ks.take (j+1)).filterMap (kpF an)).map za3))] (by rw [hrw]; try kernel_rfl) h;refine zaj (x:=j) (y:=j+1) h ?_ ?_
   ·have:=zal hx1;show j+1<=ks.length;omega
   have:=zal hx1;show ks.length - (j+1)<ks.length - j;omega
  have hc5':=dF hc5;refine Jg 52 [(1,.cmp (op:=.geq) (m:=(k9:Int)) (n:=0) (b:=true) .i64 (show decide ((k9:Int)>=0)=true from decide_eq_true (by omega))),(5,.len (za9 1 za3 an)),(6,.cmp (op:=.lss) (m:=(k9:Int)) (n:=(an.length:Int)) (b:=false) .i64 hc5)] [] [(28,vb false)] [] [] h fun a w h=>zd1 h (qU (za7 (za1 (Jf 52 [(0,.j1 j)] [7,28] [(10,vI ((j:Int)+1))] h fun a w h=>za1 ?_))));have hkf:kpF an x1=none:=(by rw [hkk9];exact kpF_big (dF hc5));have hrw:((ks.take j).filterMap (kpF an))=((ks.take (j+1)).filterMap (kpF an)):=by rw [zce (f:=kpF an) hx1,hkf];first | done | rfl | exact (bG _).symm
  replace h:=cvM [] [(5,vO 20 ((ks.take (j+1)).filterMap (kpF an)).length)] [] [(20,.row 3 1 (((ks.take (j+1)).filterMap (kpF an)).map za3))] (by rw [hrw]; try kernel_rfl) h;refine zaj (x:=j) (y:=j+1) h ?_ ?_
  ·have:=zal hx1;show j+1<=ks.length;omega
  have:=zal hx1;show ks.length - (j+1)<ks.length - j;omega
 refine exA ?_;replace h:=zb7 20 0 h;rw [show (((ks.take j).filterMap (kpF an)):List Int)=(zdg an ks) from (by rw [bR (by have:=dF hc6;omega),kpt_def])] at h;have hka:(zdg an ks).length<=ks.length:=by rw [kpt_def];exact cE _ _
 refine Jq 52 [(1,.call (SSortI (zdg an ks) (by omega)))] [(4,vW za6),(5,vO 0 (zdg an ks).length)] [(0,.row 3 1 ((zb2 (zdg an ks)).map za3))] h fun a w h=>?_;replace h:=cvM [] [(5,vO 0 (zb2 (zdg an ks)).length)] [] [] (by rw [zbs]; try kernel_rfl) h;refine Jq 52 [(1,.call (SCompactI (zb2 (zdg an ks)) (by rw [zbs];omega)))] [(4,vO 0 (zdu (zb2 (zdg an ks))).length)] [(0,.row 3 1 ((comR (zb2 (zdg an ks))).map za3))] h fun a w h=>qV ?_;replace h:=cutS 0 (zdu (zb2 (zdg an ks))).length 1 3 ((comR (zb2 (zdg an ks))).map za3) [(4,vO 0 (zdu (zb2 (zdg an ks))).length)] [(0,.row 3 1 (((comR (zb2 (zdg an ks))).map za3).take (zdu (zb2 (zdg an ks))).length))] h rfl (by kernel_rfl) (by kernel_rfl);replace h:=cvM [] [] [] [(0,.row 3 1 ((zdu (zb2 (zdg an ks))).map za3))] (by rw [<- List.map_take,comR_take]; try kernel_rfl) h;replace h:=zg6 0 1 3 ((zdu (zb2 (zdg an ks))).map za3) h [(zdu (zb2 (zdg an ks))).length] ⟨by first | exact (bA _).symm | (simp;done) | (simp;omega),trivial⟩;refine rT (.c (cIs (zdu (zb2 (zdg an ks))))) h rfl ?_;rfl
abbrev q14 (au:zca):L:=.box [.d (.sl 3 (au.nodes.map dM)),.d (.sl 1 (au.first.map za3)),.d (.sl 1 (au.good.map za0))]
abbrev q15 (au:zca):L:=.box [.own 999 au.nodes.length,.d (.raw za6),.d (.raw za6)]
abbrev q16:L:=.box [.d (.raw za6),.d (.raw za6),.d (.raw za6)]
abbrev q17 (au:zca):V:=.t (.c (.d (.sl 3 (au.nodes.map dM))))
theorem STurned (au:zca) (hao:zfm au):Fn dI 35 [] [.t (.agg [.d (.sl 3 (au.nodes.map dM)),.d (.sl 1 (au.first.map za3)),.d (.sl 1 (au.good.map za0))])] (.t (.agg [.d (.sl 3 ((zfn au.nodes).map dM)),.d (.sl 1 ([].map za3)),.d (.sl 1 ([].map za0))])) []:=by
 have ha1:=hao.1;refine fB Tryz.func35 rfl 49 fun w H B a h=>Jq 100 [] [(1,vp 100 0),(2,vp 101 0)] [(100,q14 au),(101,q16)] h fun a w h=>Jg 102 [(2,.len (za9 3 dM au.nodes)),(3,.g (Op.makeO' (d:=11) (n:=103) (L:=au.nodes.length) (zs:=[.raw za6,.raw za6,.raw za6]) (rows:=(List.replicate au.nodes.length ()).map ndzD) vb9_3 vd2_6 rfl (dJ 10 _) (dJ 10 _) (by omega) (by rw [cA];rfl)))] [] [(3,vp 102 0)] [] [(103,.row 83 3 ((List.replicate au.nodes.length ()).map ndzD)),(102,.box [.own 103 au.nodes.length,.d (.raw za6),.d (.raw za6)])] h fun a w h=>qW (Je 104 [(2,.len (za9 3 dM au.nodes))] [] [(14,q17 au),(15,vN au.nodes.length),(16,vI 0)] h fun a w h=>qZ ?_)
 replace h:=rowWS 103 3 83 ((List.replicate au.nodes.length ()).map ndzD) ((List.replicate au.nodes.length (NdN.mk [] [])).map NdN.d) [(1,vp 100 0),(2,vp 101 0),(3,vp 102 0),(14,q17 au),(15,vN au.nodes.length),(16,vI 0)] [(100,q14 au),(101,q16),(103,.row 83 3 ((List.replicate au.nodes.length (NdN.mk [] [])).map NdN.d)),(102,.box [.own 103 au.nodes.length,.d (.raw za6),.d (.raw za6)])] h (by kernel_rfl) (by simp) (fun r hr=>by obtain ⟨x,_,rfl⟩:=bE.1 hr;rfl) (fun H ys hy=>ndz_w _ ys hy) (by kernel_rfl) (by kernel_rfl);replace h:=zb7 103 999 h;replace h:=atS (sl':=[(1,vp 100 0),(2,vp 101 0),(3,vp 102 0),(14,q17 au),(15,vN au.nodes.length),(16,vI 0)]) (lc':=[(999,.row 83 3 ((List.replicate au.nodes.length (NdN.mk [] [])).map NdN.d)),(100,q14 au),(101,q16),(102,q15 au)]) h;rw [show (List.replicate au.nodes.length (NdN.mk [] [])).map NdN.d=(ndX (List.replicate au.nodes.length (NdN.mk [] []))).map (fun p=>p++[D.raw za6]) from (ndX_row _).symm] at h;replace h:=ns_begin (ty:=3) (es:=1) _ h (by kernel_rfl) (by kernel_rfl) (by kernel_rfl);rw [trJ_zero] at h;replace h:St _ (F.oft [(1,vp 100 0),(2,vp 101 0),(3,vp 102 0),(14,q17 au),(15,vN au.nodes.length),(16,vI 0)] [(100,q14 au),(101,q16),(102,q15 au)] (nsT 83 3 3 1 (ndN (trJ au.nodes 0)))) a w:=h
 refine loopST (ι:=(Nat)) (fun j=>j<=au.nodes.length)
   (fun j=>[(1,vp 100 0),(2,vp 101 0),(3,vp 102 0),(14,q17 au),(15,vN au.nodes.length),(16,vN j)])
   (fun j=>[(100,q14 au),(101,q16),(102,q15 au)])
   (fun j=>nsT 83 3 3 1 (ndN (trJ au.nodes j)))
   (fun j=>au.nodes.length - j) 0 ?_ (zap _) h (by kernel_rfl) (by kernel_rfl) (by kernel_rfl) ?_
 ·exact bB _
 clear h;rintro j a w hI h
 skip
 have hG:=trJ_ok au.nodes j;refine zb8 zak (zap _) 104 [] [] [(1,vp 100 0),(2,vp 101 0),(3,vp 102 0),(14,q17 au),(15,vN au.nodes.length),(16,vN j),(17,vb (decide ((j:Int)<(au.nodes.length:Int))))] [(100,q14 au),(101,q16),(102,q15 au)] (by kernel_rfl) (fun n_ h_=>by cases h_) h fun a w h=>qW (ze6 (decide ((j:Int)<(au.nodes.length:Int))) h rfl (fun hc1=>?_) (fun hc4=>?_))
 ·have hc1':=dT hc1;refine qU (za1 (qW (qZ ?_)));obtain ⟨x1,hx1⟩:=gl au.nodes j;refine zb8 zak (zap _) 104 [(1,.g (xD 19 14 zh8 (zab hx1 (f:=dM)) (dJ 16 _)))] [104] [(1,vp 100 0),(2,vp 101 0),(3,vp 102 0),(4,vN j),(5,vp 104 0),(14,q17 au),(15,vN au.nodes.length),(16,vN j)] [(100,q14 au),(101,q16),(102,q15 au),(104,.box [.d (.sl 1 (x1.must.map za3)),.d (.sl 1 (x1.never.map za3)),.d (.sl 1 (x1.next.map za3))])] (by kernel_rfl) (zdf [] (fun n_ _ h_=>h_) (by kernel_rfl)) h fun a w h=>zb8 zak (zap _) 105 [(4,.len (za9 3 dM au.nodes)),(5,.call (zew x1.next au.nodes.length (by have:=hao.2.1 x1 (lM hx1);omega)))] [40] [(1,vp 100 0),(2,vp 101 0),(3,vp 102 0),(4,vN j),(14,q17 au),(15,vN au.nodes.length),(16,vN j),(26,.t (.c (.own 40 (zac au.nodes.length x1.next).length))),(27,vI ((zac au.nodes.length x1.next).length:Int)),(28,vI 0)] [(100,q14 au),(101,q16),(102,q15 au),(40,.row 3 1 ((zac au.nodes.length x1.next).map za3))] (by kernel_rfl) (zdf [] (fun n_ _ h_=>h_) (by kernel_rfl)) h fun a w h=>qZ ?_;replace h:=cvT [] [(4,vN j),(26,.t (.c (.own 40 (zac au.nodes.length x1.next).length))),(27,vI ((zac au.nodes.length x1.next).length:Int)),(28,vI 0)] [] [(40,.row 3 1 ((zac au.nodes.length x1.next).map za3))] (nsT 83 3 3 1 (ndN (zah (GS.mk (trJ au.nodes j) []) j ((zac au.nodes.length x1.next).take 0)).nodes)) (by kernel_rfl) h
  refine loopST (ι:=(Nat)) (fun m=>m<=(zac au.nodes.length x1.next).length/\GOk au.nodes.length (10000+m) (zah (GS.mk (trJ au.nodes j) []) j ((zac au.nodes.length x1.next).take m)))
    (fun m=>[(1,vp 100 0),(2,vp 101 0),(3,vp 102 0),(4,vN j),(14,q17 au),(15,vN au.nodes.length),(16,vN j),(26,.t (.c (.own 40 (zac au.nodes.length x1.next).length))),(27,vI ((zac au.nodes.length x1.next).length:Int)),(28,vN m)])
    (fun m=>[(100,q14 au),(101,q16),(102,q15 au),(40,.row 3 1 ((zac au.nodes.length x1.next).map za3))])
    (fun m=>nsT 83 3 3 1 (ndN (zah (GS.mk (trJ au.nodes j) []) j ((zac au.nodes.length x1.next).take m)).nodes))
    (fun m=>(zac au.nodes.length x1.next).length - m) 0 ?_ (zap _) h (by kernel_rfl) (by kernel_rfl) (by kernel_rfl) ?_
  ·exact ⟨bB _,hG.mono (by omega)⟩
  clear h;rintro m a w hI h
  skip
  obtain ⟨hJ1,hJ⟩:=hI;have hJn:=hJ.nxt;have hJl:=hJ.len;have htr:=zfa au.nodes.length x1.next;have hnb9:=hao.2.1 x1 (lM hx1);refine zb8 zak (zap _) 105 [] [] [(1,vp 100 0),(2,vp 101 0),(3,vp 102 0),(4,vN j),(14,q17 au),(15,vN au.nodes.length),(16,vN j),(26,.t (.c (.own 40 (zac au.nodes.length x1.next).length))),(27,vI ((zac au.nodes.length x1.next).length:Int)),(28,vN m),(29,vb (decide ((m:Int)<((zac au.nodes.length x1.next).length:Int))))] [(100,q14 au),(101,q16),(102,q15 au),(40,.row 3 1 ((zac au.nodes.length x1.next).map za3))] (by kernel_rfl) (fun n_ h_=>by cases h_) h fun a w h=>qW (ze6 (decide ((m:Int)<((zac au.nodes.length x1.next).length:Int))) h rfl (fun hc2=>?_) (fun hc3=>?_))
  ·have hc2':=dT hc2;refine qU (za1 (qW (qZ ?_)));obtain ⟨x3,hx3⟩:=gl (zac au.nodes.length x1.next) m;refine zb8 zak (zap _) 105 [(0,.g (xO 30 26 40 (zac au.nodes.length x1.next).length m tb_1 (dJ 28 _))),(1,.g (Op.loadR_c (d:=31) (t:=30) (n:=40) (i:=m) (fo:=0) (rty:=3) (es:=1) (x:=(.raw (.int .i64 x3))) tl_7 rfl (zab hx3 (f:=za3)) rfl))] [] [(1,vp 100 0),(2,vp 101 0),(3,vp 102 0),(4,vN j),(7,vI x3),(14,q17 au),(15,vN au.nodes.length),(16,vN j),(26,.t (.c (.own 40 (zac au.nodes.length x1.next).length))),(27,vI ((zac au.nodes.length x1.next).length:Int)),(28,vN m)] [(100,q14 au),(101,q16),(102,q15 au),(40,.row 3 1 ((zac au.nodes.length x1.next).map za3))] (by kernel_rfl) (fun n_ h_=>by cases h_) h fun a w h=>?_;obtain ⟨hy1,hy2,hy3⟩:=zc6.1 (lM hx3);obtain ⟨k9,hk9⟩:∃ k:Nat,x3=(k:Int):=⟨(x3).toNat,by omega⟩;replace h:=h.conv (f':=F.oft [(1,vp 100 0),(2,vp 101 0),(3,vp 102 0),(4,vN j),(7,vN k9),(14,q17 au),(15,vN au.nodes.length),(16,vN j),(26,.t (.c (.own 40 (zac au.nodes.length x1.next).length))),(27,vI ((zac au.nodes.length x1.next).length:Int)),(28,vN m)] [(100,q14 au),(101,q16),(102,q15 au),(40,.row 3 1 ((zac au.nodes.length x1.next).map za3))] (nsT 83 3 3 1 (ndN (zah (GS.mk (trJ au.nodes j) []) j ((zac au.nodes.length x1.next).take m)).nodes))) (by rw [hk9]; try kernel_rfl);have hk7:k9<au.nodes.length:=by omega
   have hk8:k9<(zah (GS.mk (trJ au.nodes j) []) j ((zac au.nodes.length x1.next).take m)).nodes.length:=by rw [hJ.len];exact hk7
   obtain ⟨x4,hx4⟩:=gl ((zah (GS.mk (trJ au.nodes j) []) j ((zac au.nodes.length x1.next).take m)).nodes) k9;replace h:=ns_open k9 5 (zei hx4) rfl (by simp) h (by kernel_rfl) (by kernel_rfl) (by kernel_rfl);replace h:St _ (F.oft [(1,vp 100 0),(2,vp 101 0),(3,vp 102 0),(4,vN j),(7,vN k9),(14,q17 au),(15,vN au.nodes.length),(16,vN j),(26,.t (.c (.own 40 (zac au.nodes.length x1.next).length))),(27,vI ((zac au.nodes.length x1.next).length:Int)),(28,vN m)] [(999,.rowc 83 3 (nsH (nmP k9 5) (ndN (zah (GS.mk (trJ au.nodes j) []) j ((zac au.nodes.length x1.next).take m)).nodes))),(5,.row 3 1 (x4.next.map za3)),(100,q14 au),(101,q16),(102,q15 au),(40,.row 3 1 ((zac au.nodes.length x1.next).map za3))] (nsN 83 3 3 1 none (nmP k9 5) (ndN (zah (GS.mk (trJ au.nodes j) []) j ((zac au.nodes.length x1.next).take m)).nodes))) a w:=h;have hxn9:=hJn x4 (lM hx4);refine rSTn zak (zdl _ _) 105 [(6,.g (xO 38 36 999 au.nodes.length k9 zh8 (dJ 37 _))),(8,.g (Op.loadC_c (d:=40) (t:=39) (n:=999) (i:=k9) (fo:=2) (es:=3) (rty:=83) (rows:=(nsH (nmP k9 5) (ndN (zah (GS.mk (trJ au.nodes j) []) j ((zac au.nodes.length x1.next).take m)).nodes))) (x:=.own 5 x4.next.length) vb6_3 rfl ((zfd (nm:=(nmP k9 5)) (zei hx4)).trans (by unfold nsR ndR;rw [zc3,bA])) rfl)),(10,.g (bD 42 ([(j:Int)].map za3) [(41,vN j)] zgv (.cons (i:=0) (dJ 41 _) (.nil)) (by kernel_rfl) (by simp [za3]))),(11,.g (Op.appOD (d:=43) (t:=40) (u:=42) (n:=5) (n':=50) (len:=x4.next.length) (len':=(x4.next++[(j:Int)]).length) (rows:=x4.next.map za3) (rows2:=[(j:Int)].map za3) (rows':=(x4.next++[(j:Int)]).map za3) tb_2 (by first | exact (bA _).symm | simp) (by first | (rw [bF,bA];done) | (simp;done) | (simp;omega)) (by simp) (by simp [za3]) (by first | omega | (simp at *;done) | (simp at *;omega)))),(12,.g (xO 44 33 999 au.nodes.length k9 zh8 (dJ 34 _))),(14,.g (Op.storeC (t:=45) (n:=999) (i:=k9) (fo:=2) (es:=3) (rty:=83) (c:=.own 50 (x4.next++[(j:Int)]).length) (rs:=[(43,.t (.c (.own 50 (x4.next++[(j:Int)]).length)))]) (rows:=(nsH (nmP k9 5) (ndN (zah (GS.mk (trJ au.nodes j) []) j ((zac au.nodes.length x1.next).take m)).nodes))) (rows':=((nsH (nmP k9 5) (ndN (zah (GS.mk (trJ au.nodes j) []) j ((zac au.nodes.length x1.next).take m)).nodes)).set k9 ((ndR x4).1.map C.d++[.own 50 (x4.next++[(j:Int)]).length]))) vb6_3 (dJ 43 _) rfl (zfd (nm:=(nmP k9 5)) (zei hx4)) (show 2<3 by decide) rfl))] [50] [(1,vp 100 0),(2,vp 101 0),(3,vp 102 0),(4,vN j),(14,q17 au),(15,vN au.nodes.length),(16,vN j),(26,.t (.c (.own 40 (zac au.nodes.length x1.next).length))),(27,vI ((zac au.nodes.length x1.next).length:Int)),(28,vN m)] [(999,.rowc 83 3 ((nsH (nmP k9 5) (ndN (zah (GS.mk (trJ au.nodes j) []) j ((zac au.nodes.length x1.next).take m)).nodes)).set k9 ((ndR x4).1.map C.d++[.own 50 (x4.next++[(j:Int)]).length]))),(100,q14 au),(101,q16),(102,q15 au),(40,.row 3 1 ((zac au.nodes.length x1.next).map za3)),(50,.row 3 1 ((x4.next++[(j:Int)]).map za3))] (by kernel_rfl) (zhm [] (fun n_ _ h_=>h_) zf1 (by kernel_rfl)) h fun a w h=>za7 (za1 (rSTn zak (zdl _ _) 105 [(0,.add .i64 (m:=(m:Int)) (n:=1) i6)] [] [(1,vp 100 0),(2,vp 101 0),(3,vp 102 0),(4,vN j),(14,q17 au),(15,vN au.nodes.length),(16,vN j),(26,.t (.c (.own 40 (zac au.nodes.length x1.next).length))),(27,vI ((zac au.nodes.length x1.next).length:Int)),(28,vI ((m:Int)+1))] [(999,.rowc 83 3 ((nsH (nmP k9 5) (ndN (zah (GS.mk (trJ au.nodes j) []) j ((zac au.nodes.length x1.next).take m)).nodes)).set k9 ((ndR x4).1.map C.d++[.own 50 (x4.next++[(j:Int)]).length]))),(100,q14 au),(101,q16),(102,q15 au),(40,.row 3 1 ((zac au.nodes.length x1.next).map za3)),(50,.row 3 1 ((x4.next++[(j:Int)]).map za3))] (by kernel_rfl) (fun n_ h_=>by cases h_) h fun a w h=>za1 ?_));replace h:=atST (zdl _ _) (sl':=[(1,vp 100 0),(2,vp 101 0),(3,vp 102 0),(4,vN j),(14,q17 au),(15,vN au.nodes.length),(16,vN j),(26,.t (.c (.own 40 (zac au.nodes.length x1.next).length))),(27,vI ((zac au.nodes.length x1.next).length:Int)),(28,vI ((m:Int)+1))]) (lc':=[(999,.rowc 83 3 ((nsH (nmP k9 5) (ndN (zah (GS.mk (trJ au.nodes j) []) j ((zac au.nodes.length x1.next).take m)).nodes)).set k9 ((ndR x4).1.map C.d++[.own 50 (x4.next++[(j:Int)]).length]))),(50,.row 3 1 ((x4.next++[(j:Int)]).map za3)),(100,q14 au),(101,q16),(102,q15 au),(40,.row 3 1 ((zac au.nodes.length x1.next).map za3))]) h (by kernel_rfl) (by kernel_rfl) (by kernel_rfl);have hup:((nsH (nmP k9 5) (ndN (zah (GS.mk (trJ au.nodes j) []) j ((zac au.nodes.length x1.next).take m)).nodes)).set k9 ((ndR x4).1.map C.d++[.own 50 (x4.next++[(j:Int)]).length]))=nsH (nmP k9 50) (ndN ((zah (GS.mk (trJ au.nodes j) []) j ((zac au.nodes.length x1.next).take m)).nodes.set k9 (za4.mk x4.must x4.never (x4.next++[(j:Int)])))):=by rw [<- ndN_set];have h9:=nsH_upd (p:=5) (q:=50) (zei hx4) (ndR (za4.mk x4.must x4.never (x4.next++[(j:Int)]))).2;rw [show (ndR (za4.mk x4.must x4.never (x4.next++[(j:Int)]))).2.length=(x4.next++[(j:Int)]).length from bA _] at h9;exact h9
   have hut:nsN 83 3 3 1 none (nmP k9 5) (ndN (zah (GS.mk (trJ au.nodes j) []) j ((zac au.nodes.length x1.next).take m)).nodes)=nsN 83 3 3 1 none (nmP k9 50) (ndN ((zah (GS.mk (trJ au.nodes j) []) j ((zac au.nodes.length x1.next).take m)).nodes.set k9 (za4.mk x4.must x4.never (x4.next++[(j:Int)])))):=by rw [<- ndN_set];exact nsN_upd (zei hx4) (by decide) (by decide) (ndR (za4.mk x4.must x4.never (x4.next++[(j:Int)]))).2
   replace h:=h.conv (f':=F.oft [(1,vp 100 0),(2,vp 101 0),(3,vp 102 0),(4,vN j),(14,q17 au),(15,vN au.nodes.length),(16,vN j),(26,.t (.c (.own 40 (zac au.nodes.length x1.next).length))),(27,vI ((zac au.nodes.length x1.next).length:Int)),(28,vI ((m:Int)+1))] [(999,.rowc 83 3 (nsH (nmP k9 50) (ndN ((zah (GS.mk (trJ au.nodes j) []) j ((zac au.nodes.length x1.next).take m)).nodes.set k9 (za4.mk x4.must x4.never (x4.next++[(j:Int)])))))),(50,.row 3 1 ((x4.next++[(j:Int)]).map za3)),(100,q14 au),(101,q16),(102,q15 au),(40,.row 3 1 ((zac au.nodes.length x1.next).map za3))] (nsN 83 3 3 1 none (nmP k9 50) (ndN ((zah (GS.mk (trJ au.nodes j) []) j ((zac au.nodes.length x1.next).take m)).nodes.set k9 (za4.mk x4.must x4.never (x4.next++[(j:Int)])))))) (by rw [hup,hut]; try kernel_rfl);replace h:=ns_shut k9 50 (zei (bY (zal hx4))) rfl (by simp) h (by kernel_rfl) (by kernel_rfl) (by kernel_rfl);replace h:St _ (F.oft [(1,vp 100 0),(2,vp 101 0),(3,vp 102 0),(4,vN j),(14,q17 au),(15,vN au.nodes.length),(16,vN j),(26,.t (.c (.own 40 (zac au.nodes.length x1.next).length))),(27,vI ((zac au.nodes.length x1.next).length:Int)),(28,vI ((m:Int)+1))] [(100,q14 au),(101,q16),(102,q15 au),(40,.row 3 1 ((zac au.nodes.length x1.next).map za3))] (nsT 83 3 3 1 (ndN ((zah (GS.mk (trJ au.nodes j) []) j ((zac au.nodes.length x1.next).take m)).nodes.set k9 (za4.mk x4.must x4.never (x4.next++[(j:Int)])))))) a w:=h;have hS9:(zah (GS.mk (trJ au.nodes j) []) j ((zac au.nodes.length x1.next).take (m+1)))=addF (zah (GS.mk (trJ au.nodes j) []) j ((zac au.nodes.length x1.next).take m)) j x3:=zgn hx3;have hS8:addF (zah (GS.mk (trJ au.nodes j) []) j ((zac au.nodes.length x1.next).take m)) j x3=⟨((zah (GS.mk (trJ au.nodes j) []) j ((zac au.nodes.length x1.next).take m)).nodes.set k9 (za4.mk x4.must x4.never (x4.next++[(j:Int)]))),(zah (GS.mk (trJ au.nodes j) []) j ((zac au.nodes.length x1.next).take m)).first⟩:=by rw [hk9];exact addF_pos hx4
   have hS1:((zah (GS.mk (trJ au.nodes j) []) j ((zac au.nodes.length x1.next).take m)).nodes.set k9 (za4.mk x4.must x4.never (x4.next++[(j:Int)])))=(zah (GS.mk (trJ au.nodes j) []) j ((zac au.nodes.length x1.next).take (m+1))).nodes:=by rw [hS9,hS8]
   replace h:=cvT [] [] [] [] (nsT 83 3 3 1 (ndN (zah (GS.mk (trJ au.nodes j) []) j ((zac au.nodes.length x1.next).take (m+1))).nodes)) (by rw [hS1]; try kernel_rfl) h;refine zeb (x:=m) (y:=m+1) (zap _) h ?_ ?_ (by kernel_rfl) (by kernel_rfl) (by kernel_rfl)
   ·have:=zal hx3;exact ⟨by omega,by rw [hS9];exact (addF_ok hJ).mono (by omega)⟩
   have:=zal hx3;show (zac au.nodes.length x1.next).length - (m+1)<(zac au.nodes.length x1.next).length - m;omega
  have hc3':=dF hc3;refine wp_exit (zgt (zgt (zdt (za7 (za1 (rSTn zak (zap _) 105 [(0,.j1 j)] [] [(1,vp 100 0),(2,vp 101 0),(3,vp 102 0),(14,q17 au),(15,vN au.nodes.length),(16,vI ((j:Int)+1))] [(100,q14 au),(101,q16),(102,q15 au)] (by kernel_rfl) (fun n_ h_=>by cases h_) h fun a w h=>za1 ?_))))));have hG9:(zah (GS.mk (trJ au.nodes j) []) j ((zac au.nodes.length x1.next).take m)).nodes=(trJ au.nodes (j+1)):=by rw [bR (by have:=dF hc3;omega)];exact trJ_step hx1
  replace h:=cvT [4,26,27,28] [(16,vI ((j:Int)+1))] [40] [] (nsT 83 3 3 1 (ndN (trJ au.nodes (j+1)))) (by rw [hG9]; try kernel_rfl) h;refine zeb (x:=j) (y:=j+1) (zap _) h ?_ ?_ (by kernel_rfl) (by kernel_rfl) (by kernel_rfl)
  ·have:=zal hx1;show j+1<=au.nodes.length;omega
  have:=zal hx1;show au.nodes.length - (j+1)<au.nodes.length - j;omega
 have hc4':=dF hc4;refine exA ?_;have hjp:j=au.nodes.length:=by have:=dF hc4;omega
 have hGn:(trJ au.nodes j)=zfn au.nodes:=by rw [hjp];exact trJ_all _
 replace h:=cvT [] [(17,vb (decide ((j:Int)<(au.nodes.length:Int))))] [] [] (nsT 83 3 3 1 (ndN (zfn au.nodes))) (by rw [hGn]; try kernel_rfl) h;replace h:=ns_pub h (by kernel_rfl) (by kernel_rfl) (by kernel_rfl);rw [ndN_pub] at h;replace h:=h.conv (f':=F.of [(1,vp 100 0),(2,vp 101 0),(3,vp 102 0),(14,q17 au),(15,vN au.nodes.length),(16,vN j),(17,vb (decide ((j:Int)<(au.nodes.length:Int))))] [(999,.row 83 3 ((zfn au.nodes).map dM)),(100,q14 au),(101,q16),(102,.box [.own 999 (zfn au.nodes).length,.d (.raw za6),.d (.raw za6)])]) (by rw [zfz]; try kernel_rfl);replace h:=zg6 999 3 83 ((zfn au.nodes).map dM) h [(zfn au.nodes).length] ⟨by first | exact (bA _).symm | (simp;done) | (simp;omega),trivial⟩;refine Jq 105 [] [(2,vp 101 0)] [(101,.box [.d (.sl 3 ((zfn au.nodes).map dM)),.d (.raw za6),.d (.raw za6)])] h fun a w h=>qV ?_;replace h:=zdm 101 1 1 [.d (.sl 3 ((zfn au.nodes).map dM)),.d (.raw za6),.d (.raw za6)] h;replace h:=zdm 101 2 1 [.d (.sl 3 ((zfn au.nodes).map dM)),.d (.sl 1 ([].map za3)),.d (.raw za6)] h;refine rA 101 [.d (.sl 3 ((zfn au.nodes).map dM)),.d (.sl 1 ([].map za3)),.d (.sl 1 ([].map za0))] h vd0_9 rfl ?_;rfl
noncomputable def rkJ (a:zca) (j:Nat):Nat:=((List.range j).filter (kepB a)).length
noncomputable def aneI (a:zca) (i:Nat):Int:=if kepB a i=true then ((rkJ a i:Nat):Int) else -1
noncomputable def anJ (a:zca) (j:Nat):List Int:=(List.range a.nodes.length).map fun i=>if i<j then aneI a i else 0
theorem anJ_len (a:zca) (j:Nat):(anJ a j).length=a.nodes.length:=by unfold anJ;simp
theorem anJ_zero (a:zca):anJ a 0=List.replicate a.nodes.length 0:=by
 unfold anJ
 have:(List.range a.nodes.length).map (fun i=>if i<0 then aneI a i else 0)=(List.range a.nodes.length).map fun _=>(0:Int):=cJ fun i _=>if_neg (Nat.not_lt_zero i)
 rw [this,List.map_const', List.length_range]
theorem anJ_all (a:zca):anJ a a.nodes.length=aneT a:=by
 unfold anJ aneT
 refine cJ fun i hi=>?_
 rw [if_pos (List.mem_range.1 hi)];rfl
theorem anJ_set (hj:j<a.nodes.length) {x:Int} (hx:x=aneI a j):(anJ a j).set j x=anJ a (j+1):=by
 refine cP fun i=>?_
 by_cases e:j=i
 ·subst e
  rw [bY (by rw [anJ_len];exact hj)]
  unfold anJ
  rw [bT,cQ hj,bZ,if_pos (by omega),hx]
 ·rw [bX e]
  unfold anJ
  rw [bT,bT]
  by_cases hi:i<a.nodes.length
  ·rw [cQ hi,bZ,bZ]
   by_cases h2:i<j
   ·rw [if_pos h2,if_pos (by omega)]
   ·rw [if_neg h2,if_neg (by omega)]
  ·rw [bQ (by simp;omega)];rfl
theorem kep_of {i:Nat} {b c:Bool} (h1:(rchT a.nodes a.first)[i]?=some b) (h2:(rchT (zfn a.nodes) (goaT a))[i]?=some c):kepB a i=(b && c):=by unfold kepB;rw [h1,h2];rfl
theorem kep_of1 {i:Nat} (h1:(rchT a.nodes a.first)[i]?=some false):kepB a i=false:=by unfold kepB;rw [h1];rfl
theorem rkJ_step (a:zca) (j:Nat):rkJ a (j+1)=rkJ a j+if kepB a j=true then 1 else 0:=by
 unfold rkJ
 rw [b7,b8,bF]
 congr 1
 by_cases e:kepB a j=true
 ·rw [if_pos e,cC e];rfl
 ·rw [if_neg e,cD (by simpa using e)];rfl
theorem rkJ_le (a:zca) (j:Nat):rkJ a j<=j:=by unfold rkJ;exact bC (b9 _ _) (by simp)
noncomputable def keJ (a:zca) (j:Nat):List Nat:=(List.range j).filter (kepB a)
theorem zhr (a:zca) (j:Nat):keJ a (j+1)=keJ a j++if kepB a j=true then [j] else []:=by
 unfold keJ
 rw [b7,b8]
 congr 1
 by_cases e:kepB a j=true
 ·rw [if_pos e,cC e];rfl
 ·rw [if_neg e,cD (by simpa using e)];rfl
theorem keJ_le (a:zca) (j:Nat):(keJ a j).length<=j:=by unfold keJ;exact bC (b9 _ _) (by simp)
theorem ane_el {x:Int} (hj:j<a.nodes.length) (h:(aneT a)[j]?=some x):(decide (x>=0))=kepB a j:=by
 have h1:=ane_at (a:=a) hj
 rw [h,Option.getD_some] at h1
 rw [h1]
 by_cases e:kepB a j=true
 ·rw [if_pos e,e];exact decide_eq_true (by omega)
 ·rw [if_neg e]
  have:kepB a j=false:=by simpa using e
  rw [this];decide
theorem tnd_of (h:a.nodes[j]?=some x):tnd a j=⟨x.must,x.never,zad (zdg (aneT a) x.next)⟩:=by unfold tnd;rw [h];rfl
theorem trn_ok (h:zfm a):zfm ⟨zfn a.nodes,[],[]⟩:=by
 refine ⟨by show (zfn a.nodes).length<=_;rw [zfz];exact h.1,fun n hn=>?_,bB _⟩
 have hn:n ∈ trJ a.nodes a.nodes.length:=hn
 have h1:=(trJ_ok a.nodes a.nodes.length).nxt n hn
 have h2:=h.1
 unfold trJ at hn
 obtain ⟨k,_,rfl⟩:=bE.1 hn
 exact ⟨bB _,bB _,bC h1 h2⟩
theorem goa_le (h:zfm a):(goaT a).length<=10000:=bC (goaJ_all a ▸ goaJ_le a a.nodes.length) h.1
def zc5 (a:zca) (j:Nat):List Int:=((List.range j).filter (zd7 a)).map fun i:Nat=>(i:Int)
theorem setJ9_step (a:zca) (j:Nat):zc5 a (j+1)=zc5 a j++if zd7 a j=true then [(j:Int)] else []:=by
 unfold zc5
 rw [b7,b8,bI]
 congr 1
 by_cases e:zd7 a j=true
 ·rw [if_pos e,cC e];rfl
 ·rw [if_neg e,cD e];rfl
theorem setJ9_le (a:zca) (j:Nat):(zc5 a j).length<=j:=by unfold zc5;rw [bA];exact bC (b9 _ _) (by simp)
theorem autG_nd (h:zfm a):zff (zgk a):=⟨h.1,h.2.1⟩
theorem autG_set (h:zfm a):zep (zgk a):=⟨show [zc5 a a.nodes.length].length<=1000000 from by simp,fun l hl=>by
 have:l ∈ [zc5 a a.nodes.length]:=hl
 rw [bO.1 this]
 have:=setJ9_le a a.nodes.length;have:=h.1;omega⟩
theorem STrim (au:zca) (hao:zfm au) (hf:au.first.length<=10000):Fn dI 17 [] [vG [.d (.sl 3 (au.nodes.map dM)),cIs au.first,.d (.sl 1 (au.good.map za0))]] (vG [.d (.sl 3 ((trmT au).nodes.map dM)),cIs (trmT au).first,.d (.sl 1 ((trmT au).good.map za0))]) []:=by
 have ha1:=hao.1;refine fB Tryz.func17 rfl 93 fun w H B a h=>Jq 50 [] [(1,vp 50 0),(2,vp 51 0)] [(50,.box [.d (.sl 3 (au.nodes.map dM)),cIs au.first,.d (.sl 1 (au.good.map za0))]),(51,.box [nCl,nCl,nCl])] h fun a w h=>Jg 52 [(3,.call (SAReach au au.first hao hf))] [] [(3,vO 0 (rchT au.nodes au.first).length)] [] [(0,.row 4 1 ((rchT au.nodes au.first).map za0))] h fun a w h=>?_
 replace h:=zg6 0 1 4 ((rchT au.nodes au.first).map za0) h [(rchT au.nodes au.first).length] ⟨by first | exact (bA _).symm | (simp;done) | (simp;omega),trivial⟩;refine Jg 52 [(1,.call (STurned au hao)),(3,.call (SGoals au hao)),(4,.call (SAReach (zca.mk (zfn au.nodes) [] []) (goaT au) (trn_ok hao) (goa_le hao)))] [] [(4,vO 0 (rchT (zfn au.nodes) (goaT au)).length)] [] [(0,.row 4 1 ((rchT (zfn au.nodes) (goaT au)).map za0))] h fun a w h=>?_;replace h:=zg6 0 1 4 ((rchT (zfn au.nodes) (goaT au)).map za0) h [(rchT (zfn au.nodes) (goaT au)).length] ⟨by first | exact (bA _).symm | (simp;done) | (simp;omega),trivial⟩;refine Jg 52 [(2,.len (za9 3 dM au.nodes)),(3,.g (Op.makeO' (d:=23) (n:=52) (L:=au.nodes.length) (zs:=[.raw (.int .i64 0)]) (rows:=(List.replicate au.nodes.length 0).map za3) tb_2 od1_4 rfl (dJ 22 _) (dJ 22 _) (by omega) (by rw [cA];rfl)))] [] [(5,vO 52 au.nodes.length)] [] [(52,.row 3 1 ((List.replicate au.nodes.length 0).map za3))] h fun a w h=>Je 53 [] [] [(6,vI 0)] h fun a w h=>qW (Je 53 [] [] [(25,vN au.nodes.length),(26,vI 0)] h fun a w h=>qZ ?_);replace h:=zb7 52 20 h;replace h:=cvM [] [(6,vI ((rkJ au 0:Nat):Int))] [] [(20,.row 3 1 ((anJ au 0).map za3))] (by rw [anJ_zero]; try kernel_rfl) h
 refine zdp (ι:=(Nat)) (fun j=>j<=au.nodes.length)
   [] (fun j=>[(6,vI ((rkJ au j:Nat):Int)),(26,vN j)])
   [] (fun j=>[(20,.row 3 1 ((anJ au j).map za3))])
   (fun j=>au.nodes.length - j) 0 ?_ h ?_
 ·exact bB _
 clear h;rintro j a w hI h;have hal9:=anJ_len au j;have hrf:=rch_len au.nodes au.first
 have hrg:(rchT (zfn au.nodes) (goaT au)).length=au.nodes.length:=(rch_len _ _).trans (zfz _);have hrk9:=rkJ_le au j;refine Je 53 [] [] [(27,vb (decide ((j:Int)<(au.nodes.length:Int))))] h fun a w h=>qW (zav ((j:Int)<(au.nodes.length:Int)) h (fun hc1 hc1'=>?_) (fun hc6 hc6'=>?_))
 ·refine qU (za1 (qW (qZ (Je 53 [] [27] [(7,vN j)] h fun a w h=>?_))));obtain ⟨x5,hx5⟩:=gl (anJ au j) j;refine Jg 53 [(2,.g (xO 31 29 20 au.nodes.length j tb_1 (dJ 30 _))),(3,.g (Op.storeR (t:=31) (n:=20) (i:=j) (fo:=0) (rty:=3) (es:=1) (r:=za3 x5) (ds:=[.raw (.int .i64 (-1))]) (rs:=[]) (rows:=(anJ au j).map za3) (rows':=((anJ au j).set j (-1)).map za3) tl_7 (OV.const (.int .i64 (-1)) rfl) rfl rfl rfl (zab hx5 (f:=za3)) (by simp [za3]) (zfg (xs:=(anJ au j)) (F:=za3) j _ _ rfl)))] [] [] [] [(20,.row 3 1 (((anJ au j).set j (-1)).map za3))] h fun a w h=>?_;obtain ⟨x6,hx6⟩:=gl (rchT au.nodes au.first) j
  rcases bN x6 with hc2 | hc5
  ·obtain ⟨x7,hx7⟩:=gl (rchT (zfn au.nodes) (goaT au)) j;refine Je 53 [(2,.g (xD 34 32 zbo (zab (hx6.trans (congrArg some hc2)) (f:=za0)) (dJ 33 _))),(7,.g (xD 39 37 zbo (zab hx7 (f:=za0)) (dJ 38 _)))] [] [(41,vb x7)] h fun a w h=>cS x7 h (fun hc3=>?_) (fun hc4=>?_)
   ·refine Jg 53 [(3,.g (xO 45 42 20 au.nodes.length j tb_1 (dJ 43 _))),(4,.g (Op.storeR (t:=45) (n:=20) (i:=j) (fo:=0) (rty:=3) (es:=1) (r:=za3 (-1)) (ds:=[.raw (.int .i64 ((rkJ au j:Nat):Int))]) (rs:=[(44,vI ((rkJ au j:Nat):Int))]) (rows:=((anJ au j).set j (-1)).map za3) (rows':=(((anJ au j).set j (-1)).set j ((rkJ au j:Nat):Int)).map za3) tl_7 (dJ 44 _) rfl rfl rfl (zab (bY (bK.1 hx5).1) (f:=za3)) (by simp [za3]) (zfg (xs:=((anJ au j).set j (-1))) (F:=za3) j _ _ rfl)))] [7,41] [] [] [(20,.row 3 1 ((((anJ au j).set j (-1)).set j ((rkJ au j:Nat):Int)).map za3))] h fun a w h=>?_;refine Jf 53 [(1,.add .i64 (m:=((rkJ au j:Nat):Int)) (n:=1) i6)] [] [(6,vI (((rkJ au j:Nat):Int)+1))] h fun a w h=>za7 (za1 (Jf 53 [(0,.j1 j)] [] [(26,vI ((j:Int)+1))] h fun a w h=>za1 ?_));have hke:kepB au j=true:=by rw [kep_of hx6 hx7,hc2,hc3];rfl
    have hjl:j<au.nodes.length:=by have:=(dT hc1);omega
    have hrw:(((anJ au j).set j (-1)).set j ((rkJ au j:Nat):Int))=(anJ au (j+1)):=by rw [List.set_set];exact anJ_set hjl (by unfold aneI;rw [if_pos hke])
    have hrk:(rkJ au j:Int)+1=(rkJ au (j+1):Int):=by rw [rkJ_step,if_pos hke];omega
    replace h:=cvM [] [(6,vI ((rkJ au (j+1):Nat):Int))] [] [(20,.row 3 1 ((anJ au (j+1)).map za3))] (by rw [hrw,<- hrk]; try kernel_rfl) h;refine zaj (x:=j) (y:=j+1) h ?_ ?_
    ·show j+1<=au.nodes.length;omega
    show au.nodes.length - (j+1)<au.nodes.length - j;omega
   refine qU (za7 (za1 (Jf 53 [(0,.j1 j)] [7,41] [(26,vI ((j:Int)+1))] h fun a w h=>za1 ?_)));have hke:kepB au j=false:=by rw [kep_of hx6 hx7,hc2,hc4];rfl
   have hjl:j<au.nodes.length:=by have:=(dT hc1);omega
   have hrw:((anJ au j).set j (-1))=(anJ au (j+1)):=anJ_set hjl (by unfold aneI;rw [if_neg (by rw [hke];exact Bool.noConfusion)]);have hrk:(rkJ au j:Int)=(rkJ au (j+1):Int):=by rw [rkJ_step,if_neg (by rw [hke];exact Bool.noConfusion)];omega
   replace h:=cvM [] [(6,vI ((rkJ au (j+1):Nat):Int))] [] [(20,.row 3 1 ((anJ au (j+1)).map za3))] (by rw [hrw,<- hrk]; try kernel_rfl) h;refine zaj (x:=j) (y:=j+1) h ?_ ?_
   ·show j+1<=au.nodes.length;omega
   show au.nodes.length - (j+1)<au.nodes.length - j;omega
  refine Je 53 [(2,.g (xD 34 32 zbo (zab (hx6.trans (congrArg some hc5)) (f:=za0)) (dJ 33 _)))] [] [(41,vb false)] h fun a w h=>zd1 h (qU (za7 (za1 (Jf 53 [(0,.j1 j)] [7,41] [(26,vI ((j:Int)+1))] h fun a w h=>za1 ?_))));have hke:kepB au j=false:=kep_of1 (hx6.trans (congrArg some hc5));have hjl:j<au.nodes.length:=by have:=(dT hc1);omega
  have hrw:((anJ au j).set j (-1))=(anJ au (j+1)):=anJ_set hjl (by unfold aneI;rw [if_neg (by rw [hke];exact Bool.noConfusion)]);have hrk:(rkJ au j:Int)=(rkJ au (j+1):Int):=by rw [rkJ_step,if_neg (by rw [hke];exact Bool.noConfusion)];omega
  replace h:=cvM [] [(6,vI ((rkJ au (j+1):Nat):Int))] [] [(20,.row 3 1 ((anJ au (j+1)).map za3))] (by rw [hrw,<- hrk]; try kernel_rfl) h;refine zaj (x:=j) (y:=j+1) h ?_ ?_
  ·show j+1<=au.nodes.length;omega
  show au.nodes.length - (j+1)<au.nodes.length - j;omega
 refine exA ?_;have hja:(anJ au j)=aneT au:=by rw [show j=au.nodes.length by have:=dF hc6;omega];exact anJ_all au
 replace h:=cvM [] [(5,vO 20 (aneT au).length)] [] [(20,.row 3 1 ((aneT au).map za3))] (by rw [hja,zgm]; try kernel_rfl) h;replace h:=zg6 20 1 3 ((aneT au).map za3) h [(aneT au).length] ⟨by first | exact (bA _).symm | (simp;done) | (simp;omega),trivial⟩;have hann:=zgm au;refine Jg 53 [(3,.call (SKept au.first (aneT au) hf (by rw [zgm];omega)))] [3,4,6,25,26,27] [(8,vp 53 0)] [] [(53,.box [nCl,cIs (zad (zdg (aneT au) au.first)),nCl])] h fun a w h=>qW (Je 54 [(2,.len (za9 3 dM au.nodes))] [] [(55,vS 3 (au.nodes.map dM)),(56,vN au.nodes.length),(57,vI 0)] h fun a w h=>qZ ?_);replace h:=zft 53 0 54 3 83 [nCl,cIs (zad (zdg (aneT au) au.first)),nCl] h;replace h:=zb7 54 41 h;replace h:=zft 53 2 55 1 4 [.own 41 0,cIs (zad (zdg (aneT au) au.first)),nCl] h;replace h:=zb7 55 43 h;replace h:=cvM [] [] [] [(53,.box [.own 41 ((keJ au 0).map (tnd au)).length,cIs (zad (zdg (aneT au) au.first)),.own 43 ((keJ au 0).map (zd7 au)).length]),(41,.row 83 3 (((keJ au 0).map (tnd au)).map dM)),(43,.row 4 1 (((keJ au 0).map (zd7 au)).map za0))] (by kernel_rfl) h
 refine zdp (ι:=(Nat)) (fun i=>i<=au.nodes.length)
   [] (fun i=>[(57,vN i)])
   [] (fun i=>[(53,.box [.own 41 ((keJ au i).map (tnd au)).length,cIs (zad (zdg (aneT au) au.first)),.own 43 ((keJ au i).map (zd7 au)).length]),(41,.row 83 3 (((keJ au i).map (tnd au)).map dM)),(43,.row 4 1 (((keJ au i).map (zd7 au)).map za0))])
   (fun i=>au.nodes.length - i) 0 ?_ h ?_
 ·exact bB _
 clear h;rintro i a w hI h;have hkl9:=keJ_le au i;have hkm:((keJ au i).map (tnd au)).length=(keJ au i).length:=bA _;have hkg:((keJ au i).map (zd7 au)).length=(keJ au i).length:=bA _;refine Je 56 [] [] [(58,vb (decide ((i:Int)<(au.nodes.length:Int))))] h fun a w h=>qW (zav ((i:Int)<(au.nodes.length:Int)) h (fun hc7 hc7'=>?_) (fun hc10 hc10'=>?_))
 ·refine qU (za1 (qW (qZ ?_)));obtain ⟨x9,hx9⟩:=gl au.nodes i;refine Jg 56 [(1,.g (xD 60 55 zh8 (zab hx9 (f:=dM)) (dJ 57 _)))] [58] [(9,vN i),(10,vp 56 0)] [] [(56,.box [cIs x9.must,cIs x9.never,cIs x9.next])] h fun a w h=>?_;obtain ⟨x10,hx10⟩:=gl (aneT au) i;refine Je 57 [(2,.g (xD 64 62 tb_1 (zab hx10 (f:=za3)) (dJ 63 _)))] [] [(66,vb (decide (x10>=0)))] h fun a w h=>zav (x10>=0) h (fun hc8 hc8'=>?_) (fun hc9 hc9'=>?_)
  ·refine Jg 57 [(4,.call (SClI x9.must (by have:=hao.2.1 x9 (lM hx9);omega))),(7,.call (SClI x9.never (by have:=hao.2.1 x9 (lM hx9);omega))),(11,.call (SKept x9.next (aneT au) (by have:=hao.2.1 x9 (lM hx9);omega) (by rw [zgm];omega))),(13,.g (bD 80 ([(za4.mk x9.must x9.never (zad (zdg (aneT au) x9.next)))].map dM) [(79,vG [cIs x9.must,cIs x9.never,cIs (zad (zdg (aneT au) x9.next))])] vb9_2 (.cons (i:=0) (dJ 79 _) (.nil)) (by kernel_rfl) (by simp [dM]))),(14,.g (Op.appOD (d:=81) (t:=68) (u:=80) (n:=41) (n':=57) (len:=((keJ au i).map (tnd au)).length) (len':=(((keJ au i).map (tnd au))++[(za4.mk x9.must x9.never (zad (zdg (aneT au) x9.next)))]).length) (rows:=((keJ au i).map (tnd au)).map dM) (rows2:=[(za4.mk x9.must x9.never (zad (zdg (aneT au) x9.next)))].map dM) (rows':=(((keJ au i).map (tnd au))++[(za4.mk x9.must x9.never (zad (zdg (aneT au) x9.next)))]).map dM) vb9_3 (by first | exact (bA _).symm | simp) (by first | (rw [bF,bA];done) | (simp;done) | (simp;omega)) (by simp) (by simp [dM]) (by first | omega | (simp at *;done) | (simp at *;omega))))] [10,66] [] [41,56] [(53,.box ([.own 57 (((keJ au i).map (tnd au))++[(za4.mk x9.must x9.never (zad (zdg (aneT au) x9.next)))]).length,cIs (zad (zdg (aneT au) au.first)),.own 43 ((keJ au i).map (zd7 au)).length])),(57,.row 83 3 ((((keJ au i).map (tnd au))++[(za4.mk x9.must x9.never (zad (zdg (aneT au) x9.next)))]).map dM))] h fun a w h=>Jh 58 [(4,.call (SAGood au i (by omega))),(5,.g (bD 88 ([(zd7 au i)].map za0) [(87,vb (zd7 au i))] zgc (.cons (i:=0) (dJ 87 _) (.nil)) (by kernel_rfl) (fun r_ h_=>by obtain ⟨x_,_,rfl⟩:=bE.1 h_;rfl))),(6,.g (Op.appOD (d:=89) (t:=84) (u:=88) (n:=43) (n':=58) (len:=((keJ au i).map (zd7 au)).length) (len':=(((keJ au i).map (zd7 au))++[(zd7 au i)]).length) (rows:=((keJ au i).map (zd7 au)).map za0) (rows2:=[(zd7 au i)].map za0) (rows':=(((keJ au i).map (zd7 au))++[(zd7 au i)]).map za0) zf9 (by first | exact (bA _).symm | simp) (by first | (rw [bF,bA];done) | (simp;done) | (simp;omega)) (by simp) (fun r_ h_=>by obtain ⟨x_,_,rfl⟩:=bE.1 h_;rfl) (by first | omega | (simp at *;done) | (simp at *;omega))))] [9] [] [43] [(53,.box ([.own 57 (((keJ au i).map (tnd au))++[(za4.mk x9.must x9.never (zad (zdg (aneT au) x9.next)))]).length,cIs (zad (zdg (aneT au) au.first)),.own 58 (((keJ au i).map (zd7 au))++[(zd7 au i)]).length])),(58,.row 4 1 ((((keJ au i).map (zd7 au))++[(zd7 au i)]).map za0))] h fun a w h=>za7 (za1 (Jf 59 [(0,.j1 i)] [] [(57,vI ((i:Int)+1))] h fun a w h=>za1 ?_));replace h:=zb7 57 41 h;replace h:=zb7 58 43 h;have hke:kepB au i=true:=(ane_el (zal hx9) hx10).symm.trans hc8;have hr1:(((keJ au i).map (tnd au))++[(za4.mk x9.must x9.never (zad (zdg (aneT au) x9.next)))])=((keJ au (i+1)).map (tnd au)):=by rw [zhr,if_pos hke,bI,bJ,bS,tnd_of hx9]
   have hr2:(((keJ au i).map (zd7 au))++[(zd7 au i)])=((keJ au (i+1)).map (zd7 au)):=by rw [zhr,if_pos hke,bI];rfl
   replace h:=cvM [] [] [] [(53,.box [.own 41 ((keJ au (i+1)).map (tnd au)).length,cIs (zad (zdg (aneT au) au.first)),.own 43 ((keJ au (i+1)).map (zd7 au)).length]),(41,.row 83 3 (((keJ au (i+1)).map (tnd au)).map dM)),(43,.row 4 1 (((keJ au (i+1)).map (zd7 au)).map za0))] (by rw [hr1,hr2]; try kernel_rfl) h;refine zaj (x:=i) (y:=i+1) h ?_ ?_
   ·have:=zal hx9;show i+1<=au.nodes.length;omega
   have:=zal hx9;show au.nodes.length - (i+1)<au.nodes.length - i;omega
  refine qU (za7 (za1 (Jh 59 [(0,.j1 i)] [9,10,66] [(57,vI ((i:Int)+1))] [56] [] h fun a w h=>za1 ?_)));have hke:kepB au i=false:=(ane_el (zal hx9) hx10).symm.trans hc9;have hr1:((keJ au i).map (tnd au))=((keJ au (i+1)).map (tnd au)):=by rw [zhr,if_neg (by rw [hke];exact Bool.noConfusion),bG]
  have hr2:((keJ au i).map (zd7 au))=((keJ au (i+1)).map (zd7 au)):=by rw [zhr,if_neg (by rw [hke];exact Bool.noConfusion),bG]
  replace h:=cvM [] [] [] [(53,.box [.own 41 ((keJ au (i+1)).map (tnd au)).length,cIs (zad (zdg (aneT au) au.first)),.own 43 ((keJ au (i+1)).map (zd7 au)).length]),(41,.row 83 3 (((keJ au (i+1)).map (tnd au)).map dM)),(43,.row 4 1 (((keJ au (i+1)).map (zd7 au)).map za0))] (by rw [hr1,hr2]; try kernel_rfl) h;refine zaj (x:=i) (y:=i+1) h ?_ ?_
  ·have:=zal hx9;show i+1<=au.nodes.length;omega
  have:=zal hx9;show au.nodes.length - (i+1)<au.nodes.length - i;omega
 refine exA (Jg 59 [] [1,5,8,55,56,57,58] [] [50,53] [(51,.box [.own 41 ((keJ au i).map (tnd au)).length,cIs (zad (zdg (aneT au) au.first)),.own 43 ((keJ au i).map (zd7 au)).length])] h fun a w h=>qV ?_);have hil:i=au.nodes.length:=by have:=dF hc10;omega
 replace h:=cvM [] [] [] [(51,.box [.own 41 (trmT au).nodes.length,cIs (zad (zdg (aneT au) au.first)),.own 43 ((keJ au i).map (zd7 au)).length]),(41,.row 83 3 ((trmT au).nodes.map dM))] (by rw [<- show (((keJ au i).map (tnd au)):List za4)=(trmT au).nodes from (by rw [hil];rfl)]; try kernel_rfl) h;replace h:=cvM [] [] [] [(51,.box [.own 41 (trmT au).nodes.length,cIs (zad (zdg (aneT au) au.first)),.own 43 (trmT au).good.length]),(43,.row 4 1 ((trmT au).good.map za0))] (by rw [<- show (((keJ au i).map (zd7 au)):List Bool)=(trmT au).good from (by rw [hil];rfl)]; try kernel_rfl) h;replace h:=zg6 41 3 83 ((trmT au).nodes.map dM) h [(trmT au).nodes.length] ⟨by first | exact (bA _).symm | (simp;done) | (simp;omega),trivial⟩;replace h:=zg6 43 1 4 ((trmT au).good.map za0) h [(trmT au).good.length] ⟨by first | exact (bA _).symm | (simp;done) | (simp;omega),trivial⟩;refine rA 51 [.d (.sl 3 ((trmT au).nodes.map dM)),cIs (zad (zdg (aneT au) au.first)),.d (.sl 1 ((trmT au).good.map za0))] h vd0_9 rfl ?_;rfl
theorem zgp (au:zca) (wd:zaf) (hlt:LtOk wd) (hl:wN wd<=1000) (hao:zfm au) (hf:au.first.length<=10000):Fn dI 11 [] [vG [.d (.sl 3 (au.nodes.map dM)),cIs au.first,.d (.sl 1 (au.good.map za0))],vG [.d (.sl 1 (wd.stem.map (slD 1 za0))),.d (.sl 1 (wd.cycle.map (slD 1 za0)))]] (vb (takB (zgk au) wd)) []:=by
 have ha1:=hao.1;refine fB Tryz.func11 rfl 30 fun w H B a h=>Jq 50 [] [(2,vp 50 0),(3,vp 51 0),(4,vb false)] [(50,.box [.d (.sl 3 (au.nodes.map dM)),cIs au.first,.d (.sl 1 (au.good.map za0))]),(51,.box [.d (.sl 1 (wd.stem.map (slD 1 za0))),.d (.sl 1 (wd.cycle.map (slD 1 za0)))])] h fun a w h=>Je 52 [] [] [(5,vW za6)] h fun a w h=>qW (Je 52 [(2,.len (za9 3 dM au.nodes))] [] [(9,vN au.nodes.length),(10,vI 0)] h fun a w h=>qZ ?_)
 replace h:=zdb 5 0 52 1 3 (vW za6) h;replace h:=zb7 52 20 h;replace h:=cvM [] [(5,vO 20 (zc5 au 0).length)] [] [(20,.row 3 1 ((zc5 au 0).map za3))] (by kernel_rfl) h
 refine zdp (ι:=(Nat)) (fun j=>j<=au.nodes.length)
   [] (fun j=>[(5,vO 20 (zc5 au j).length),(10,vN j)])
   [] (fun j=>[(20,.row 3 1 ((zc5 au j).map za3))])
   (fun j=>au.nodes.length - j) 0 ?_ h ?_
 ·exact bB _
 clear h;rintro j a w hI h;have hgl:=setJ9_le au j;refine Je 53 [] [] [(11,vb (decide ((j:Int)<(au.nodes.length:Int))))] h fun a w h=>qW (zav ((j:Int)<(au.nodes.length:Int)) h (fun hc1 hc1'=>?_) (fun hc4 hc4'=>?_))
 ·refine qU (za1 (qW (qZ (Je 53 [] [11] [(6,vN j)] h fun a w h=>Je 53 [(2,.call (SAGood au j (by omega)))] [] [(15,vb (zd7 au j))] h fun a w h=>cS (zd7 au j) h (fun hc2=>?_) (fun hc3=>?_)))))
  ·refine Jh 53 [(2,.g (bD 18 ([(j:Int)].map za3) [(17,vN j)] zgv (.cons (i:=0) (dJ 17 _) (.nil)) (by kernel_rfl) (by simp [za3]))),(3,.g (Op.appOD (d:=19) (t:=16) (u:=18) (n:=20) (n':=53) (len:=(zc5 au j).length) (len':=((zc5 au j)++[(j:Int)]).length) (rows:=(zc5 au j).map za3) (rows2:=[(j:Int)].map za3) (rows':=((zc5 au j)++[(j:Int)]).map za3) tb_2 (by first | exact (bA _).symm | simp) (by first | (rw [bF,bA];done) | (simp;done) | (simp;omega)) (by simp) (by simp [za3]) (by first | omega | (simp at *;done) | (simp at *;omega))))] [6,15] [(5,vO 53 ((zc5 au j)++[(j:Int)]).length)] [20] [(53,.row 3 1 (((zc5 au j)++[(j:Int)]).map za3))] h fun a w h=>za7 (za1 (Jf 54 [(0,.j1 j)] [] [(10,vI ((j:Int)+1))] h fun a w h=>za1 ?_));replace h:=zb7 53 20 h;have hrw:((zc5 au j)++[(j:Int)])=(zc5 au (j+1)):=by rw [setJ9_step,hc2];first | done | rfl | exact (bG _).symm
   replace h:=cvM [] [(5,vO 20 (zc5 au (j+1)).length)] [] [(20,.row 3 1 ((zc5 au (j+1)).map za3))] (by rw [hrw]; try kernel_rfl) h;refine zaj (x:=j) (y:=j+1) h ?_ ?_
   ·have:=dT hc1;show j+1<=au.nodes.length;omega
   have:=dT hc1;show au.nodes.length - (j+1)<au.nodes.length - j;omega
  refine qU (za7 (za1 (Jf 54 [(0,.j1 j)] [6,15] [(10,vI ((j:Int)+1))] h fun a w h=>za1 ?_)));have hrw:(zc5 au j)=(zc5 au (j+1)):=by rw [setJ9_step,hc3];first | done | rfl | exact (bG _).symm
  replace h:=cvM [] [(5,vO 20 (zc5 au (j+1)).length)] [] [(20,.row 3 1 ((zc5 au (j+1)).map za3))] (by rw [hrw]; try kernel_rfl) h;refine zaj (x:=j) (y:=j+1) h ?_ ?_
  ·have:=dT hc1;show j+1<=au.nodes.length;omega
  have:=dT hc1;show au.nodes.length - (j+1)<au.nodes.length - j;omega
 refine exA ?_;replace h:=cvM [] [(5,vO 20 (zc5 au au.nodes.length).length)] [] [(20,.row 3 1 ((zc5 au au.nodes.length).map za3))] (by rw [<- show ((zc5 au j):List Int)=(zc5 au au.nodes.length) from (by rw [show j=au.nodes.length by have:=dF hc4;omega])]; try kernel_rfl) h;replace h:=zg6 20 1 3 ((zc5 au au.nodes.length).map za3) h [(zc5 au au.nodes.length).length] ⟨by first | exact (bA _).symm | (simp;done) | (simp;omega),trivial⟩;refine Jq 54 [(5,.g (bD 26 ([(zc5 au au.nodes.length)].map (slD 1 za3)) [(25,(vIs (zc5 au au.nodes.length)))] vb9_12 (.cons (i:=0) (dJ 25 _) (.nil)) (by kernel_rfl) (by simp [slD]))),(8,.call (SGTakes (zgk au) wd hlt hl (autG_nd hao) hf (autG_set hao)))] [(4,vb (takB (zgk au) wd))] [] h fun a w h=>qV (rT (.c (cB (takB (zgk au) wd))) h rfl ?_);rfl
theorem sri_nodup {xs:List Int} (h:SRi xs):xs.Nodup:=List.Pairwise.imp (fun {a b} (q:a<b)=>by omega) h
theorem sri_bd {xs:List Int} (h:SRi xs) (hb:∀ i ∈ xs,InZ m i):xs.length<=m:=by
 have h1:(xs.map Int.toNat).Nodup:=by
  refine cR.2 fun i j hi hj hij=>?_
  simp only [bA] at hi hj
  rw [bU,bU]
  have h2:=cR.1 h i j hi hj hij
  have h3:=hb _ (bM hi)
  have h4:=hb _ (bM hj)
  have h5:=h3.1;have h6:=h4.1
  omega
 have h2:=zfs m _ h1 fun x hx=>by
  obtain ⟨y,hy,rfl⟩:=bE.1 hx
  have h3:=hb y hy
  have h4:=h3.1;have h5:=h3.2
  omega
 simpa using h2
theorem flat_le1 {β:Type} {f:α->List β}:∀ {xs:List α}, (∀ x ∈ xs,(f x).length<=1)->(xs.flatMap f).length<=xs.length
 | [],_=>by simp
 | x :: xs,h=>by
  have ih:=flat_le1 (xs:=xs) fun y hy=>h y (by simp [hy])
  have h1:=h x (by simp)
  rw [cU,bF,bV];omega
theorem only_le1 {k:Int} {f:Int} {l:List Int} (h:l.Nodup):((l.filter fun x=>decide (x=k)).map fun _=>f).length<=1:=by
 rw [zg9 k h];split <;> simp
theorem gba_ok {p:PF} {g:GbD} (h:gbaF p=some g) (hp:psz p<=1000):zff g/\zep g/\g.first.length<=10000:=by
 unfold gbaF at h
 obtain ⟨ps,h1,rfl⟩:=c7.1 h
 obtain ⟨hpo,hpn,hpf⟩:=places_ok h1
 have hal:=tab_len p
 have hI:=run_inv (tab_ok p).1 _ _ _ (start_inv (zbv p)) h1
 refine ⟨⟨?_,fun n hn=>?_⟩,⟨?_,fun l hl=>?_⟩,?_⟩
 ·show (List.map _ _).length<=_
  rw [bA,c8];omega
 ·have hn:n ∈ ps.zipIdx.map fun q=>nodT (zb1 p).al ps q.1 q.2:=hn
  obtain ⟨q,hq,rfl⟩:=bE.1 hn
  have hq2:q.1 ∈ ps:=(List.mem_zipIdx' hq).2 ▸ bM _
  have h2:=sri_bd (hpo q.1 hq2).seen (hpo q.1 hq2).sz
  have h3:=cE (paT (zb1 p).al) q.1.seen
  have h4:=cE (naT (zb1 p).al) q.1.seen
  refine ⟨?_,?_,?_⟩
  ·show (zb2 _).length<=_
   rw [zbs];omega
  ·show (zb2 _).length<=_
   rw [zbs];omega
  ·show (List.flatMap _ _).length<=_
   refine bC (flat_le1 fun r _=>?_) (by rw [c8];omega)
   exact only_le1 (sri_nodup (zex _))
 ·rw [<- set_all]
  exact bC (set_le _ _ _ _) (by omega)
 ·have hl:l ∈ ((zb1 p).al.zipIdx.filter fun q=>isU q.1).map fun q=>zhe ps (zb1 p).kids ((q.2:Nat):Int):=hl
  obtain ⟨q,_,rfl⟩:=bE.1 hl
  rw [<- ful_all]
  exact bC (ful_le _ _ _ _) (by omega)
 ·show (List.flatMap _ _).length<=_
  refine bC (flat_le1 fun r hr=>?_) (by rw [c8];omega)
  have hr2:r.1 ∈ ps:=(List.mem_zipIdx' hr).2 ▸ bM _
  have e:(zad r.1.frm).filter (fun x=>decide (x<0))=(zad r.1.frm).filter fun x=>decide (x=-1):=List.filter_congr fun x hx=>by
   rw [zb4] at hx
   rcases (hI.pok r.1 hr2).2 x hx with ⟨e,_⟩ | ⟨k,r', e,_⟩
   ·rw [e];rfl
   ·rw [e,decide_eq_false (by omega),decide_eq_false (by omega)]
  rw [e]
  exact only_le1 (sri_nodup (zex _))
def NbOk (n:za4):Prop:=n.must.length<=10000/\n.never.length<=10000/\n.next.length<=10000
theorem gnd_ok {g:GbD} (hg:zff g) (k:Int):NbOk (gnd g k):=by
 unfold gnd ndI
 split
 ·cases h:g.nodes[k.toNat]? with
  | none=>exact ⟨bB _,bB _,bB _⟩
  | some n=>exact hg.2 n (bL h)
 ·exact ⟨bB _,bB _,bB _⟩
theorem runO_ok {g:GbD} (hg:zff g) (hst:zep g):∀ (n:Nat) (s t:OfS),OfI g s->(∀ nd ∈ s.nodes,NbOk nd)->runO g n s=some t->OfI g t/\(∀ nd ∈ t.nodes,NbOk nd)/\t.al.length<=t.nodes.length
 | 0,s,t,_,_,h=>by cases h
 | n+1,s,t,hI,hn,h=>by
  cases hp:s.al[s.nodes.length]? with
  | none =>
   rw [runO_end (dA.1 hp)] at h
   have h:=Option.some.inj h
   subst h
   exact ⟨hI,hn,dA.1 hp⟩
  | some p =>
   by_cases hb:s.al.length>4096
   ·rw [runO_big hp hb] at h;cases h
   ·rw [runO_step hp hb] at h
    refine runO_ok hg hst n _ t (hI.step hg hst hp hb) (fun nd hnd=>?_) h
    rcases cK.1 hnd with h1 | h1
    ·exact hn nd h1
    ·rw [bO.1 h1]
     have hpo:=hI.inv.ok p (bL hp)
     obtain ⟨_,_,_,h4,_⟩:=numPs_ok (ps:=zbk g p) hI.inv.nd (fun q hq=>(hI.inv.ok q hq).in hg hst) (aft_in hg hst hpo)
     exact ⟨(gnd_ok hg p.st).1,(gnd_ok hg p.st).2.1,by show (zaq s.al (zbk g p)).2.length<=_;rw [h4];exact aft_le hg p⟩
theorem of_ok {g:GbD} (hg:zff g) (hst:zep g) (hf:g.first.length<=10000) (h:zhy g=some a):zfm a/\a.first.length<=10000:=by
 unfold zhy at h
 obtain ⟨t,h1,rfl⟩:=c7.1 h
 obtain ⟨hI,hn,hl⟩:=runO_ok hg hst _ _ t (OfI.beg hg hf) (fun nd h=>by cases h) h1
 have:=hI.nl
 refine ⟨⟨?_,hn,?_⟩,?_⟩
 ·show t.nodes.length<=_;omega
 ·show (t.al.map _).length<=_;rw [bA];omega
 ·show (zc9 g).2.length<=_
  have h2:=(nmJ_ok (al:=[]) (ks:=zac g.nodes.length g.first) (b:=0) g.first.length cM (fun q hq=>by cases hq) (thr_in (by have:=hg.1;omega)) ⟨by decide,by decide⟩).2.2.2
  have h3:=zfa g.nodes.length g.first
  have e:nmJ [] (zac g.nodes.length g.first) 0 g.first.length=zc9 g:=by unfold nmJ zc9;rw [bR h3]
  rw [e] at h2;omega
theorem kpt_le (an ks:List Int):(zad (zdg an ks)).length<=ks.length:=bC (zay _) (by rw [kpt_def];exact cE _ _)
theorem trm_ok (h:zfm a) (hf:a.first.length<=10000):zfm (trmT a)/\(trmT a).first.length<=10000:=by
 have hk:(kepL a).length<=a.nodes.length:=keJ_le a a.nodes.length
 have:=h.1
 refine ⟨⟨?_,fun n hn=>?_,?_⟩,bC (kpt_le _ _) hf⟩
 ·show (List.map _ _).length<=_;rw [bA];omega
 ·have hn:n ∈ (kepL a).map (tnd a):=hn
  obtain ⟨i,_,rfl⟩:=bE.1 hn
  unfold tnd
  cases e:a.nodes[i]? with
  | none=>exact ⟨bB _,bB _,bC (kpt_le _ _) (bB _)⟩
  | some x=>exact ⟨(h.2.1 x (bL e)).1,(h.2.1 x (bL e)).2.1,bC (kpt_le _ _) (h.2.1 x (bL e)).2.2⟩
 ·show (List.map _ _).length<=_;rw [bA];omega
theorem for_eq (p:PF):forF p=(gbaF p).bind fun g=>(zhy g).map trmT:=by
 unfold forF zhy
 cases gbaF p with
 | none=>rfl
 | some g=>simp [Option.map_map,Function.comp_def]
theorem for_ok {p:PF} (h:forF p=some a) (hp:psz p<=1000):zfm a/\a.first.length<=10000:=by
 rw [for_eq] at h
 cases hg:gbaF p with
 | none=>rw [hg] at h;cases h
 | some g =>
  rw [hg] at h
  obtain ⟨b,h1,rfl⟩:=c7.1 (show (zhy g).map trmT=some a from h)
  obtain ⟨g1,g2,g3⟩:=gba_ok hg hp
  obtain ⟨b1,b2⟩:=of_ok g1 g2 g3 h1
  exact trm_ok b1 b2
theorem SFor (f:za2) (hp:psz (f.pfD false)<=1000):Fn dI 8 [] [vG [cI f.kind,cI f.prop,.d (.sl 3 (f.kids.map za2.d))]] (.tup [.agg [.d (.sl 3 ((az (forF (f.pfD false))).nodes.map dM)),cIs (az (forF (f.pfD false))).first,.d (.sl 1 ((az (forF (f.pfD false))).good.map za0))],.c (cI (ge (forF (f.pfD false))))]) []:=by
 refine fB Tryz.func8 rfl 27 fun w H B a h=>Jq 50 [] [(1,vp 50 0),(2,vp 51 0),(3,vI 0)] [(50,.box [cI f.kind,cI f.prop,.d (.sl 3 (f.kids.map za2.d))]),(51,.box [nCl,nCl,nCl])] h fun a w h=>Jg 52 [(1,.call (SGOf f hp))] [1] [(4,vp 52 0),(5,vI (ge (gbaF (f.pfD false))))] [50] [(52,.box [.d (.sl 3 ((gz (gbaF (f.pfD false))).nodes.map dM)),cIs (gz (gbaF (f.pfD false))).first,.d (.sl 1 ((gz (gbaF (f.pfD false))).sets.map (slD 1 za3)))])] h fun a w h=>qW ?_
 rcases (show gbaF (f.pfD false)=none\/∃ z_,gbaF (f.pfD false)=some z_ by cases gbaF (f.pfD false) with | none=>exact .inl rfl | some z=>exact .inr ⟨z,rfl⟩) with hgb | ⟨g,hgb⟩
 ·replace h:=cvM [] [(5,vI 3)] [] [] (by rw [hgb]; try kernel_rfl) h;refine Jg 53 [(1,.cmp (op:=.neq) (m:=3) (n:=0) (b:=true) .i64 rfl)] [] [(13,vb true)] [] [] h fun a w h=>cS true h (fun _=>?_) nofun
  refine Je 53 [] [13] [(3,vI 3)] h fun a w h=>qV (za5 ?_);replace h:=zdm 51 0 3 [nCl,nCl,nCl] h;replace h:=zdm 51 1 1 [.d (.sl 3 ([].map dM)),nCl,nCl] h;replace h:=zdm 51 2 1 [.d (.sl 3 ([].map dM)),cIs [],nCl] h;refine zgx [.agg [.d (.sl 3 ([].map dM)),cIs [],.d (.sl 1 ([].map za0))],.c (cI 3)] h Exit.ret (.inl rfl)  rfl ⟨RV.agg _ 51 0 _ _ _ _ vd0_9 rfl rfl rfl rfl,vT9,trivial⟩ ?_;have hff:forF (f.pfD false)=none:=by rw [for_eq,hgb];rfl
  rw [hff];try rfl
 replace h:=cvM [] [(5,vI 0)] [] [(52,.box [.d (.sl 3 (g.nodes.map dM)),cIs g.first,.d (.sl 1 (g.sets.map (slD 1 za3)))])] (by rw [hgb]; try kernel_rfl) h;obtain ⟨hg1,hg2,hg3⟩:=gba_ok hgb hp;refine Jg 53 [(1,.cmp (op:=.neq) (m:=0) (n:=0) (b:=false) .i64 rfl)] [] [(13,vb false)] [] [] h fun a w h=>zd1 h (qU (za1 (Jg 53 [(1,.call (SBOf g hg1 hg2 hg3))] [4,13] [(5,vI (ge (zhy g))),(6,vp 53 0)] [52] [(53,.box [.d (.sl 3 ((az (zhy g)).nodes.map dM)),cIs (az (zhy g)).first,.d (.sl 1 ((az (zhy g)).good.map za0))])] h fun a w h=>qW ?_)))
 rcases (show zhy g=none\/∃ z_,zhy g=some z_ by cases zhy g with | none=>exact .inl rfl | some z=>exact .inr ⟨z,rfl⟩) with hof | ⟨b,hof⟩
 ·replace h:=cvM [] [(5,vI 3)] [] [] (by rw [hof]; try kernel_rfl) h;refine Jg 54 [(1,.cmp (op:=.neq) (m:=3) (n:=0) (b:=true) .i64 rfl)] [] [(22,vb true)] [] [] h fun a w h=>cS true h (fun _=>?_) nofun
  refine Je 54 [] [5,22] [(3,vI 3)] h fun a w h=>qV (za5 ?_);replace h:=zdm 51 0 3 [nCl,nCl,nCl] h;replace h:=zdm 51 1 1 [.d (.sl 3 ([].map dM)),nCl,nCl] h;replace h:=zdm 51 2 1 [.d (.sl 3 ([].map dM)),cIs [],nCl] h;refine zgx [.agg [.d (.sl 3 ([].map dM)),cIs [],.d (.sl 1 ([].map za0))],.c (cI 3)] h Exit.ret (.inl rfl)  rfl ⟨RV.agg _ 51 0 _ _ _ _ vd0_9 rfl rfl rfl rfl,vT9,trivial⟩ ?_;have hff:forF (f.pfD false)=none:=by rw [for_eq,hgb];show (zhy g).map trmT=none;rw [hof];rfl
  rw [hff];try rfl
 replace h:=cvM [] [(5,vI 0)] [] [(53,.box [.d (.sl 3 (b.nodes.map dM)),cIs b.first,.d (.sl 1 (b.good.map za0))])] (by rw [hof]; try kernel_rfl) h;obtain ⟨hb1,hb2⟩:=of_ok hg1 hg2 hg3 hof;refine Jg 54 [(1,.cmp (op:=.neq) (m:=0) (n:=0) (b:=false) .i64 rfl)] [] [(22,vb false)] [] [] h fun a w h=>zd1 h (qU (za1 (Jg 54 [(1,.call (STrim b hb1 hb2))] [5,6,22] [] [53] [(51,.box [.d (.sl 3 ((trmT b).nodes.map dM)),cIs (trmT b).first,.d (.sl 1 ((trmT b).good.map za0))])] h fun a w h=>qV (zgx [.agg [.d (.sl 3 ((trmT b).nodes.map dM)),cIs (trmT b).first,.d (.sl 1 ((trmT b).good.map za0))],.c (cI 0)] h Exit.ret (.inl rfl)  rfl ⟨RV.agg _ 51 0 _ _ _ _ vd0_9 rfl rfl rfl rfl,vT9,trivial⟩ ?_))));have hff:forF (f.pfD false)=some (trmT b):=by rw [for_eq,hgb];show (zhy g).map trmT=_;rw [hof];rfl
 rw [hff];try rfl
theorem uni_one (x:Int):zad [x]=[x]:=uniZ_eq (List.pairwise_singleton _ _) fun v=>Iff.rfl
theorem tab_tt:(zb1 .tt).al=[.tt]/\(zb1 .tt).kids=[(0,0)]/\zbv .tt=0:=by
 refine ⟨?_,?_,?_⟩ <;> simp [zb1,zbv,zb0,ze9,zbf,psh]
theorem run_tt:runT9 [.tt] [(0,0)] 65536 ⟨[],[⟨[0],[],[],-1⟩]⟩=some [⟨[0],[],[-1]⟩,⟨[],[],[0,1]⟩]:=by
 rw [show (65536:Nat)=65531+1+1+1+1+1 from rfl]
 rw [zd6 (x:=⟨[0],[],[],-1⟩) rfl]
 have e1:stpT [.tt] [(0,0)] ⟨[],[⟨[0],[],[],-1⟩]⟩ ⟨[0],[],[],-1⟩=some ⟨[],[⟨[],[0],[],-1⟩]⟩:=by
  have e2:lkT [.tt] [(0,0)] ⟨[0],[],[],-1⟩=[⟨[],[0],[],-1⟩]:=by
   simp [lkT,lk1,uni_one,zcp]
  unfold stpT
  rw [e2];rfl
 rw [e1,cT,zd6 (x:=⟨[],[0],[],-1⟩) rfl]
 have e3:stpT [.tt] [(0,0)] ⟨[],[⟨[],[0],[],-1⟩]⟩ ⟨[],[0],[],-1⟩=some ⟨[⟨[0],[],[-1]⟩],[⟨[],[],[],0⟩]⟩:=by
  simp [stpT,finT,zbf]
 rw [e3,cT,zd6 (x:=⟨[],[],[],0⟩) rfl]
 have e4:stpT [.tt] [(0,0)] ⟨[⟨[0],[],[-1]⟩],[⟨[],[],[],0⟩]⟩ ⟨[],[],[],0⟩=some ⟨[⟨[0],[],[-1]⟩,⟨[],[],[0]⟩],[⟨[],[],[],1⟩]⟩:=by
  simp [stpT,finT,zbf,zdd]
 rw [e4,cT,zd6 (x:=⟨[],[],[],1⟩) rfl]
 have e5:stpT [.tt] [(0,0)] ⟨[⟨[0],[],[-1]⟩,⟨[],[],[0]⟩],[⟨[],[],[],1⟩]⟩ ⟨[],[],[],1⟩=some ⟨[⟨[0],[],[-1]⟩,⟨[],[],[0,1]⟩],[]⟩:=by
  simp [stpT,finT,zbf,zdd]
 rw [e5,cT,runT_none rfl]
theorem gba_tt:gbaF .tt=some (gbT [.tt] [(0,0)] [⟨[0],[],[-1]⟩,⟨[],[],[0,1]⟩]):=by
 obtain ⟨h1,h2,h3⟩:=tab_tt
 unfold gbaF
 rw [h1,h2,h3,run_tt];rfl
theorem prok_le {g:GbD} (h:∀ p ∈ al,PrOk g p) (hd:al.Nodup):al.length<=g.nodes.length*(g.sets.length+1):=by
  have h1:(al.map fun p=>p.st.toNat*(g.sets.length+1)+p.nd.toNat).Nodup:=by
    have h2:=cR.1 hd
    refine cR.2 fun i j hi hj hij=>?_
    simp only [bA] at hi hj
    simp only [bU]
    intro e
    have hp:=h _ (bM hi)
    have hq:=h _ (bM hj)
    refine h2 i j hi hj hij ?_
    generalize al[i]=p at e hp ⊢
    generalize al[j]=q at e hq ⊢
    obtain ⟨⟨p1,p2⟩,p3,p4⟩:=hp
    obtain ⟨⟨q1,q2⟩,q3,q4⟩:=hq
    have hpn:p.nd.toNat<g.sets.length+1:=by omega
    have hqn:q.nd.toNat<g.sets.length+1:=by omega
    have e1:p.nd.toNat=q.nd.toNat:=by
      have:=congrArg (· % (g.sets.length+1)) e
      simp only [dG hpn,dG hqn] at this
      exact this
    have e2:p.st.toNat*(g.sets.length+1)=q.st.toNat*(g.sets.length+1):=by omega
    have e3:=Nat.eq_of_mul_eq_mul_right (by omega) e2
    cases p;cases q
    simp only [PrD.mk.injEq]
    simp only at e1 e3 p1 p3 q1 q3
    omega
  have h3:=zfs (g.nodes.length*(g.sets.length+1)) _ h1 fun x hx=>by
    obtain ⟨p,hp,rfl⟩:=bE.1 hx
    obtain ⟨⟨k1,k2⟩,k3,k4⟩:=h p hp
    have:p.nd.toNat<g.sets.length+1:=by omega
    calc p.st.toNat*(g.sets.length+1)+p.nd.toNat<p.st.toNat*(g.sets.length+1)+(g.sets.length+1):=by omega
      _=(p.st.toNat+1)*(g.sets.length+1):=by rw [Nat.succ_mul]
      _<=g.nodes.length*(g.sets.length+1):=Nat.mul_le_mul_right _ (by omega)
  simpa using h3
theorem runO_some {g:GbD} (hN:g.nodes.length*(g.sets.length+1)<=4096):∀ (n:Nat) (s:OfS),OInv g s->4096<n+s.nodes.length->∃ t,runO g n s=some t
 | 0,s,hI,h=>by
  have h1:=hI.len
  have h2:=prok_le hI.ok hI.nd
  omega
 | n+1,s,hI,h=>by
  cases hp:s.al[s.nodes.length]? with
  | none=>exact ⟨s,runO_end (dA.1 hp)⟩
  | some p =>
   have h2:=prok_le hI.ok hI.nd
   rw [runO_step hp (by omega)]
   refine runO_some hN n _ (stp_inv hI hp) ?_
   have hl:(zf7 g s p).nodes.length=s.nodes.length+1:=by simp [zf7]
   omega
theorem for_tt:∃ a,forF .tt=some a:=by
 rw [for_eq,gba_tt]
 show ∃ a,(zhy _).map trmT=some a
 obtain ⟨t,ht⟩:=runO_some (g:=gbT [.tt] [(0,0)] [⟨[0],[],[-1]⟩,⟨[],[],[0,1]⟩]) (by decide) 4098 ⟨(zc9 _).1,[]⟩ (beg_inv _) (by simp)
 unfold zhy
 rw [ht]
 exact ⟨_,rfl⟩
theorem zdk:∀ p:PF,psz p<=psw p
 | .tt=>by simp [psz,psw]
 | .ff=>by simp [psz,psw]
 | .pa p=>by simp [psz,psw]
 | .na p=>by simp [psz,psw]
 | .and p q=>by have:=zdk p;have:=zdk q;simp only [psz,psw];omega
 | .or p q=>by have:=zdk p;have:=zdk q;simp only [psz,psw];omega
 | .nx p=>by have:=zdk p;simp only [psz,psw];omega
 | .un p q=>by have:=zdk p;have:=zdk q;simp only [psz,psw];omega
 | .fr p q=>by have:=zdk p;have:=zdk q;simp only [psz,psw];omega
theorem pfD_f (f:za2):f.pfD false=f.pf:=if_neg (by simp)
theorem pf_not (f:za2):(za2.mk 3 0 [f]).pf=f.pf.neg:=by rw [zct];rfl
theorem pf_nx (f:za2):(za2.mk 8 0 [f]).pf = .nx f.pf:=by rw [zct];rfl
theorem pf_tt:(za2.mk 0 0 []).pf = .tt:=by rw [zct];rfl
theorem small {f:za2} (h:zem f 6<=6):psw f.pf<=12:=by
 have h1:=sizF_is f 6 h
 have h2:=psw_pf f
 omega
theorem zgg {m:Int} (h:fewW wd m=true) (hc:0<wd.cycle.length) (i:Nat):(zc4 wd i).length<=100:=by
 unfold fewW at h
 simp only [dB,List.all_eq_true] at h
 have key:∀ l:List Bool,few9 l=true->l.length<=100:=fun l hl=>by unfold few9 at hl;simp at hl;omega
 unfold zc4
 split
 ·rename_i h1
  rw [bH h1]
  exact key _ (h.1.2 _ (bM h1))
 ·have h2:=Nat.mod_lt (i - wd.stem.length) hc
  rw [bH h2]
  exact key _ (h.2 _ (bM h2))
theorem few_mem {m:Int} (h:fewW wd m=true):∀ l,l ∈ wd.stem\/l ∈ wd.cycle->l.length<=1000000:=fun l hl=>by
 unfold fewW at h
 simp only [dB,List.all_eq_true] at h
 have key:few9 l=true->l.length<=1000000:=fun q=>by unfold few9 at q;simp at q;omega
 rcases hl with h1 | h1
 ·exact key (h.1.2 l h1)
 ·exact key (h.2 l h1)
theorem few_wN (h:fewW wd 5=true):wN wd<=5:=by
 unfold fewW at h
 simp only [dB,Bool.not_eq_true', decide_eq_false_iff_not] at h
 unfold wN;omega
theorem shf_wN (hc:0<wd.cycle.length):wN (shfT wd)<=wN wd:=by
 unfold shfT wN
 split
 ·simp only [cW,bF,List.length_drop,cL]
  have:=Nat.mod_lt 1 hc
  omega
 ·split
  ·simp only [List.length_drop];omega
  ·simp only [cW];omega
theorem some_of {r:Option α} (h:(ge r != 0)=false):∃ a,r=some a:=by
 cases r with
 | some a=>exact ⟨a,rfl⟩
 | none =>
  have e:ge (none:Option α)=3:=rfl
  rw [e] at h
  exact absurd h (by decide)
theorem az_le {p:PF} (hp:psz p<=1000):(az (forF p)).nodes.length<=10000:=by
 cases h:forF p with
 | none=>exact bB _
 | some a=>exact (for_ok h hp).1.1
theorem hold_ps (hc:0<wd.cycle.length) (p:PF):zag (truT wd p) (zbx wd 0)=true ↔ ps (sg wd) p 0:=by
 rw [ps_pl hc p 0]
 exact zbu (plW_lt hc 0)
theorem sound_facts:∃ a0,forF ((za2.mk 0 0 []).pfD false)=some a0/\zfm a0/\a0.first.length<=10000/\takB (zgk a0) (zaf.mk [] [[]])=true/\zag (truT (zaf.mk [] [[]]) (za2.mk 0 0 []).pf) (zbx (zaf.mk [] [[]]) 0)=true:=by
 obtain ⟨a,ha⟩:=for_tt
 have hc:0<(zaf.mk [] [[]]).cycle.length:=by decide
 obtain ⟨h1,h2⟩:=for_ok ha (by decide)
 refine ⟨a,by rw [pfD_f,pf_tt];exact ha,h1,h2,(zg0 ha hc).2 trivial,?_⟩
 rw [pf_tt]
 exact (hold_ps hc _).2 trivial
theorem four {f:za2} {b p x:zca} (hc:0<wd.cycle.length) (ha:forF (f.pfD false)=some a) (hb:forF ((za2.mk 3 0 [f]).pfD false)=some b) (hp:forF ((f.pfD false).l.pfD false)=some p) (hx:forF ((za2.mk 8 0 [f]).pfD false)=some x) {hh:Bool} (e:hh=zag (truT wd f.pf) (zbx wd 0)) :
  takB (zgk a) wd=hh/\takB (zgk b) wd=(!hh)/\takB (zgk p) wd=hh/\takB (zgk x) wd=takB (zgk a) (shfT wd):=by
 rw [pfD_f] at ha hb hx hp
 rw [pfD_f,pf_l] at hp
 rw [pf_not] at hb
 rw [pf_nx] at hx
 obtain ⟨h1,h2,h3,h4⟩:=words hc ha hb hp hx
 have h5:=hold_ps hc f.pf
 rw [<- e] at h5
 refine ⟨?_,?_,?_,h4⟩
 ·rw [dC,h1,h5]
 ·rw [dC,h2]
  cases hh <;> simp_all
 ·rw [dC,h3,h5]
theorem SSound :Fn dI 4 [] [] (vb true) []:=by
 refine fB Tryz.func4 rfl 24 fun w H B a h=>Jq 50 [] [(0,vb false)] [] h fun a w h=>?_
 obtain ⟨a0,ha0,hb1,hb2,htk,hho⟩:=sound_facts;refine Jg 50 [(1,.call (Fn.argw (SFor (za2.mk 0 0 []) (by rw [pfD_f,pf_tt];decide)) (.cons _ _ _ _ (.agg _ _ (.same _ _ _ (.same _ _ _ (.d _ _ _ _ (.nil _) .nil)))) .nil)))] [] [(1,vp 50 0),(2,vI (ge (forF ((za2.mk 0 0 []).pfD false))))] [] [(50,.box [.d (.sl 3 ((az (forF ((za2.mk 0 0 []).pfD false))).nodes.map dM)),cIs (az (forF ((za2.mk 0 0 []).pfD false))).first,.d (.sl 1 ((az (forF ((za2.mk 0 0 []).pfD false))).good.map za0))])] h fun a w h=>?_;replace h:=cvM [] [(2,vI 0)] [] [(50,.box [.d (.sl 3 (a0.nodes.map dM)),cIs a0.first,.d (.sl 1 (a0.good.map za0))])] (by rw [ha0]; try kernel_rfl) h;refine Jg 51 [(0,.g (Op.buildED (d:=9) zgc)),(1,.g (bD 10 ([[]].map (slD 1 za0)) [(9,vS 1 ([].map za0))] kn_15 (.cons (i:=0) (dJ 9 _) (.nil)) (by kernel_rfl) (by simp [slD])))] [] [(3,vp 51 0)] [] [(51,.box [nCl,.d (.sl 1 ([[]].map (slD 1 za0)))])] h fun a w h=>Jq 52 [(1,.cmp (op:=.eql) (m:=0) (n:=0) (b:=true) .i64 rfl),(5,.call (Fn.cast (Fn.argw (zgp a0 (zaf.mk [] [[]]) (fun i hi=>by have:i<1:=hi;obtain rfl:i=0:=(by omega);decide) (by decide) hb1 hb2) (.cons _ _ _ _ (.refl _) (.cons _ _ _ _ (.agg _ _ (.d _ _ _ _ (.nil _) (.same _ _ _ .nil))) .nil))) (congrArg vb htk))),(10,.call (Fn.cast (Fn.argw (SWHolds (za2.mk 0 0 []) (zaf.mk [] [[]]) 0 (fun i hi=>by have:i<1:=hi;obtain rfl:i=0:=(by omega);decide) (by decide) (by decide) (by decide)) (.cons _ _ _ _ (.agg _ _ (.same _ _ _ (.same _ _ _ (.d _ _ _ _ (.nil _) .nil)))) (.cons _ _ _ _ (.agg _ _ (.d _ _ _ _ (.nil _) (.same _ _ _ .nil))) (.cons _ _ _ _ (.refl _) .nil)))) (congrArg vb hho)))] [(0,vb true)] [] h fun a w h=>qV (rT (.c (cB true)) h rfl ?_);rfl
theorem SWholeWords (f:za2) (wd:zaf) (hw:wd.stem.length+wd.cycle.length<=9223372036854775807):Fn dI 3 [] [vG [cI f.kind,cI f.prop,.d (.sl 3 (f.kids.map za2.d))],vG [.d (.sl 1 (wd.stem.map (slD 1 za0))),.d (.sl 1 (wd.cycle.map (slD 1 za0)))]] (vb true) []:=by
 refine fB Tryz.func3 rfl 124 fun w H B a h=>Jq 50 [] [(2,vp 50 0),(3,vp 51 0),(4,vb false)] [(50,.box [cI f.kind,cI f.prop,.d (.sl 3 (f.kids.map za2.d))]),(51,.box [.d (.sl 1 (wd.stem.map (slD 1 za0))),.d (.sl 1 (wd.cycle.map (slD 1 za0)))])] h fun a w h=>qW (Je 52 [(0,.call (SSound))] [] [(15,vb false)] h fun a w h=>zd1 h (qU (za1 (qW ?_))))
 rcases bN (decide (zem f 6>6)) with hc1 | hc2
 ·have hc1':=dT hc1;refine Je 52 [(1,.call (SWRSize f 6 (by decide) (by decide))),(2,.cmp (op:=.gtr) (m:=(zem f 6)) (n:=6) (b:=true) .i64 hc1)] [15] [(38,vb true)] h fun a w h=>cS true h (fun _=>?_) nofun
  refine Je 52 [] [38] [(4,vb true)] h fun a w h=>qV (za5 (rT (.c (cB true)) h rfl ?_));rfl
 have hc2':=dF hc2
 rcases bN (zdv f 4) with hc3 | hc18
 ·rcases bN (fewW wd 5) with hc4 | hc17
  ·refine Je 52 [(1,.call (SWRSize f 6 (by decide) (by decide))),(2,.cmp (op:=.gtr) (m:=(zem f 6)) (n:=6) (b:=false) .i64 hc2),(5,.call (Fn.cast (SWRDeep f 4 (by decide) (by decide)) (congrArg vb hc3))),(14,.call (Fn.cast (SWRFew wd 5 hw) (congrArg vb hc4))),(20,.len (c:=(.d (.sl 1 (wd.cycle.map (slD 1 za0))))) (n:=wd.cycle.length) (za9 _ _ _))] [15] [(38,vb ((wd.cycle.length:Int) == 0))] h fun a w h=>cS ((wd.cycle.length:Int) == 0) h (fun hc5=>?_) (fun hc6=>?_)
   ·refine Je 52 [] [38] [(4,vb true)] h fun a w h=>qV (za5 (rT (.c (cB true)) h rfl ?_));rfl
   refine qU (za1 ?_);have hsm:=small (f:=f) (by have:=dF hc2;omega);have hpz:=zdk f.pf;have hpA:psz (f.pfD false)<=1000:=by rw [pfD_f];omega
   have hpB:psz ((za2.mk 3 0 [f]).pfD false)<=1000:=by rw [pfD_f,pf_not];have:=zdk f.pf.neg;have:=zd9 f.pf;omega
   have hpP:psz ((f.pfD false).l.pfD false)<=1000:=by rw [pfD_f,pf_l,pfD_f];omega
   have hpX:psz ((za2.mk 8 0 [f]).pfD false)<=1000:=by rw [pfD_f,pf_nx];show 1+psz f.pf<=1000;omega
   have hfew:fewW wd 5=true:=hc4;have hc:0<wd.cycle.length:=by have h9:=hc6;rw [beq_eq_false_iff_ne] at h9;omega
   have hwN:=few_wN hfew;refine Jg 52 [(1,.call (SFor f hpA))] [38] [(5,vp 52 0),(6,vI (ge (forF (f.pfD false))))] [] [(52,.box [.d (.sl 3 ((az (forF (f.pfD false))).nodes.map dM)),cIs (az (forF (f.pfD false))).first,.d (.sl 1 ((az (forF (f.pfD false))).good.map za0))])] h fun a w h=>Jg 53 [(1,.g (bD 46 ([f].map za2.d) [(45,vG [cI f.kind,cI f.prop,.d (.sl 3 (f.kids.map za2.d))])] va1_4 (.cons (i:=0) (dJ 45 _) (.nil)) (by simp only [bJ,bS,bP,cH,bG,za2.d_eq]; try kernel_rfl) (by simp [za2.d_len]))),(3,.call (SFor (za2.mk 3 0 [f]) hpB))] [] [(7,vp 53 0),(8,vI (ge (forF ((za2.mk 3 0 [f]).pfD false))))] [] [(53,.box [.d (.sl 3 ((az (forF ((za2.mk 3 0 [f]).pfD false))).nodes.map dM)),cIs (az (forF ((za2.mk 3 0 [f]).pfD false))).first,.d (.sl 1 ((az (forF ((za2.mk 3 0 [f]).pfD false))).good.map za0))])] h fun a w h=>Jg 54 [(1,.call (SWPlain f false)),(2,.call (SFor (f.pfD false).l hpP))] [] [(9,vp 54 0),(10,vI (ge (forF ((f.pfD false).l.pfD false))))] [] [(54,.box [.d (.sl 3 ((az (forF ((f.pfD false).l.pfD false))).nodes.map dM)),cIs (az (forF ((f.pfD false).l.pfD false))).first,.d (.sl 1 ((az (forF ((f.pfD false).l.pfD false))).good.map za0))])] h fun a w h=>Jg 55 [(1,.g (bD 59 ([f].map za2.d) [(58,vG [cI f.kind,cI f.prop,.d (.sl 3 (f.kids.map za2.d))])] va1_4 (.cons (i:=0) (dJ 58 _) (.nil)) (by simp only [bJ,bS,bP,cH,bG,za2.d_eq]; try kernel_rfl) (by simp [za2.d_len]))),(3,.call (SFor (za2.mk 8 0 [f]) hpX))] [] [(11,vp 55 0),(12,vI (ge (forF ((za2.mk 8 0 [f]).pfD false))))] [] [(55,.box [.d (.sl 3 ((az (forF ((za2.mk 8 0 [f]).pfD false))).nodes.map dM)),cIs (az (forF ((za2.mk 8 0 [f]).pfD false))).first,.d (.sl 1 ((az (forF ((za2.mk 8 0 [f]).pfD false))).good.map za0))])] h fun a w h=>qW ?_;have hzA:=az_le hpA;have hzB:=az_le hpB;have hzX:=az_le hpX
   rcases bN (ge (forF (f.pfD false)) != 0) with hc7 | hc8
   ·refine Je 56 [(1,.cmp (op:=.neq) (m:=(ge (forF (f.pfD false)))) (n:=0) (b:=true) .i64 hc7)] [6,8,10,12] [(91,vb true)] h fun a w h=>cS true h (fun _=>?_) nofun
    refine Je 56 [] [91] [(4,vb true)] h fun a w h=>qV (za5 (rT (.c (cB true)) h rfl ?_));rfl
   rcases bN (ge (forF ((za2.mk 3 0 [f]).pfD false)) != 0) with hc9 | hc10
   ·refine Je 56 [(1,.cmp (op:=.neq) (m:=(ge (forF (f.pfD false)))) (n:=0) (b:=false) .i64 hc8),(4,.cmp (op:=.neq) (m:=(ge (forF ((za2.mk 3 0 [f]).pfD false)))) (n:=0) (b:=true) .i64 hc9)] [6,8,10,12] [(91,vb true)] h fun a w h=>cS true h (fun _=>?_) nofun
    refine Je 56 [] [91] [(4,vb true)] h fun a w h=>qV (za5 (rT (.c (cB true)) h rfl ?_));rfl
   rcases bN (ge (forF ((f.pfD false).l.pfD false)) != 0) with hc11 | hc12
   ·refine Je 56 [(1,.cmp (op:=.neq) (m:=(ge (forF (f.pfD false)))) (n:=0) (b:=false) .i64 hc8),(4,.cmp (op:=.neq) (m:=(ge (forF ((za2.mk 3 0 [f]).pfD false)))) (n:=0) (b:=false) .i64 hc10),(8,.cmp (op:=.neq) (m:=(ge (forF ((f.pfD false).l.pfD false)))) (n:=0) (b:=true) .i64 hc11)] [6,8,10,12] [(91,vb true)] h fun a w h=>cS true h (fun _=>?_) nofun
    refine Je 56 [] [91] [(4,vb true)] h fun a w h=>qV (za5 (rT (.c (cB true)) h rfl ?_));rfl
   rcases bN (ge (forF ((za2.mk 8 0 [f]).pfD false)) != 0) with hc13 | hc14
   ·refine Je 56 [(1,.cmp (op:=.neq) (m:=(ge (forF (f.pfD false)))) (n:=0) (b:=false) .i64 hc8),(4,.cmp (op:=.neq) (m:=(ge (forF ((za2.mk 3 0 [f]).pfD false)))) (n:=0) (b:=false) .i64 hc10),(8,.cmp (op:=.neq) (m:=(ge (forF ((f.pfD false).l.pfD false)))) (n:=0) (b:=false) .i64 hc12),(12,.cmp (op:=.neq) (m:=(ge (forF ((za2.mk 8 0 [f]).pfD false)))) (n:=0) (b:=true) .i64 hc13)] [6,8,10,12] [(91,vb true)] h fun a w h=>cS true h (fun _=>?_) nofun
    refine Je 56 [] [91] [(4,vb true)] h fun a w h=>qV (za5 (rT (.c (cB true)) h rfl ?_));rfl
   refine Je 56 [(1,.cmp (op:=.neq) (m:=(ge (forF (f.pfD false)))) (n:=0) (b:=false) .i64 hc8),(4,.cmp (op:=.neq) (m:=(ge (forF ((za2.mk 3 0 [f]).pfD false)))) (n:=0) (b:=false) .i64 hc10),(8,.cmp (op:=.neq) (m:=(ge (forF ((f.pfD false).l.pfD false)))) (n:=0) (b:=false) .i64 hc12),(12,.cmp (op:=.neq) (m:=(ge (forF ((za2.mk 8 0 [f]).pfD false)))) (n:=0) (b:=false) .i64 hc14),(17,.len (za9 3 dM ((az (forF (f.pfD false))).nodes))),(20,.len (za9 3 dM ((az (forF ((za2.mk 3 0 [f]).pfD false))).nodes))),(21,.add .i64 (m:=((az (forF (f.pfD false))).nodes.length:Int)) (n:=((az (forF ((za2.mk 3 0 [f]).pfD false))).nodes.length:Int)) i6),(24,.len (za9 3 dM ((az (forF ((za2.mk 8 0 [f]).pfD false))).nodes))),(25,.add .i64 (m:=(((az (forF (f.pfD false))).nodes.length:Int)+((az (forF ((za2.mk 3 0 [f]).pfD false))).nodes.length:Int))) (n:=((az (forF ((za2.mk 8 0 [f]).pfD false))).nodes.length:Int)) i6)] [6,8,10,12] [(91,vb (decide (((((az (forF (f.pfD false))).nodes.length:Int)+((az (forF ((za2.mk 3 0 [f]).pfD false))).nodes.length:Int))+((az (forF ((za2.mk 8 0 [f]).pfD false))).nodes.length:Int))>150)))] h fun a w h=>zav (((((az (forF (f.pfD false))).nodes.length:Int)+((az (forF ((za2.mk 3 0 [f]).pfD false))).nodes.length:Int))+((az (forF ((za2.mk 8 0 [f]).pfD false))).nodes.length:Int))>150) h (fun hc15 hc15'=>?_) (fun hc16 hc16'=>?_)
   ·refine Je 56 [] [91] [(4,vb true)] h fun a w h=>qV (za5 (rT (.c (cB true)) h rfl ?_));rfl
   refine qU (za1 ?_);obtain ⟨aua,haua⟩:=some_of hc8;have hoka:=for_ok haua hpA;obtain ⟨aub,haub⟩:=some_of hc10;have hokb:=for_ok haub hpB;obtain ⟨aup,haup⟩:=some_of hc12;have hokp:=for_ok haup hpP;obtain ⟨aux,haux⟩:=some_of hc14;have hokx:=for_ok haux hpX;replace h:=cvM [] [] [] [(52,.box [.d (.sl 3 (aua.nodes.map dM)),cIs aua.first,.d (.sl 1 (aua.good.map za0))]),(53,.box [.d (.sl 3 (aub.nodes.map dM)),cIs aub.first,.d (.sl 1 (aub.good.map za0))]),(54,.box [.d (.sl 3 (aup.nodes.map dM)),cIs aup.first,.d (.sl 1 (aup.good.map za0))]),(55,.box [.d (.sl 3 (aux.nodes.map dM)),cIs aux.first,.d (.sl 1 (aux.good.map za0))])] (by rw [haua,haub,haup,haux]; try kernel_rfl) h;refine Jg 56 [(2,.call (SWHolds f wd 0 (fun i hi=>by have:=zgg hfew hc i;omega) hc (by omega) (by decide)))] [2,91] [(13,vb (zag (truT wd f.pf) (zbx wd 0)))] [50] [] h fun a w h=>?_;obtain ⟨hh,ehh⟩:∃ z:Bool,z=zag (truT wd f.pf) (zbx wd 0):=⟨_,rfl⟩;obtain ⟨kk,ekk⟩:∃ z:Bool,z=takB (zgk aua) (shfT wd):=⟨_,rfl⟩;obtain ⟨tA,tB,tP,tX⟩:=four hc haua haub haup haux ehh;replace h:=cvM [] [(13,vb hh)] [] [] (by rw [ehh]; try kernel_rfl) h;refine Jq 56 [(2,.call (Fn.cast (zgp aua wd (fun i hi=>by have:=zgg hfew hc i;omega) (by omega) hoka.1 hoka.2) (congrArg vb tA))),(4,.cmpb .eql (m:=hh) (n:=hh) (b:=true) (.inl ⟨rfl,(show (hh == hh)=true from by first | (cases hh <;> rfl) | (cases kk <;> rfl)).symm⟩)),(8,.call (Fn.cast (zgp aub wd (fun i hi=>by have:=zgg hfew hc i;omega) (by omega) hokb.1 hokb.2) (congrArg vb tB))),(10,.cmpb .neq (m:=(!hh)) (n:=hh) (b:=true) (.inr ⟨rfl,(show ((!hh) != hh)=true from by first | (cases hh <;> rfl) | (cases kk <;> rfl)).symm⟩)),(15,.call (Fn.cast (zgp aup wd (fun i hi=>by have:=zgg hfew hc i;omega) (by omega) hokp.1 hokp.2) (congrArg vb tP))),(17,.cmpb .eql (m:=hh) (n:=hh) (b:=true) (.inl ⟨rfl,(show (hh == hh)=true from by first | (cases hh <;> rfl) | (cases kk <;> rfl)).symm⟩)),(22,.call (Fn.cast (zgp aux wd (fun i hi=>by have:=zgg hfew hc i;omega) (by omega) hokx.1 hokx.2) (congrArg vb (tX.trans ekk.symm)))),(25,.call (SWShift wd (few_mem hfew) hc (by omega))),(26,.call (Fn.cast (zgp aua (shfT wd) (fun i hi=>by rw [shf_let hc];have:=zgg hfew hc (i+1);omega) (by have:=shf_wN hc;omega) hoka.1 hoka.2) (congrArg vb ekk.symm))),(27,.cmpb .eql (m:=kk) (n:=kk) (b:=true) (.inl ⟨rfl,(show (kk == kk)=true from by first | (cases hh <;> rfl) | (cases kk <;> rfl)).symm⟩))] [(4,vb true)] [] h fun a w h=>qV (rT (.c (cB true)) h rfl ?_);rfl
  refine Je 56 [(1,.call (SWRSize f 6 (by decide) (by decide))),(2,.cmp (op:=.gtr) (m:=(zem f 6)) (n:=6) (b:=false) .i64 hc2),(5,.call (Fn.cast (SWRDeep f 4 (by decide) (by decide)) (congrArg vb hc3))),(14,.call (Fn.cast (SWRFew wd 5 hw) (congrArg vb hc17)))] [15] [(38,vb true)] h fun a w h=>cS true h (fun _=>?_) nofun
  refine Je 56 [] [38] [(4,vb true)] h fun a w h=>qV (za5 (rT (.c (cB true)) h rfl ?_));rfl
 refine Je 56 [(1,.call (SWRSize f 6 (by decide) (by decide))),(2,.cmp (op:=.gtr) (m:=(zem f 6)) (n:=6) (b:=false) .i64 hc2),(5,.call (Fn.cast (SWRDeep f 4 (by decide) (by decide)) (congrArg vb hc18)))] [15] [(38,vb true)] h fun a w h=>cS true h (fun _=>?_) nofun
 refine Je 56 [] [38] [(4,vb true)] h fun a w h=>qV (za5 (rT (.c (cB true)) h rfl ?_));rfl
section
open Go.RowKit Go.WideShapes
section
theorem bk_one (d:DataW H):1<=Rows.uptoBulk d:=by
 cases d with
 | lit l=>cases l <;> simp [Rows.uptoBulk]
 | _=>simp [Rows.uptoBulk]
theorem bk_part {d:DataW H} {l:List (DataW H)} (h:d ∈ l):Rows.uptoBulk d<=Rows.uptoBulkAll l:=by
 induction l with
 | nil=>cases h
 | cons x r ih =>
  simp only [Rows.uptoBulkAll]
  cases cF.1 h with
  | inl e=>subst e;omega
  | inr e=>have:=ih e;omega
theorem bk_len (l:List (DataW H)):l.length<=Rows.uptoBulkAll l:=by
 induction l with
 | nil=>simp [Rows.uptoBulkAll]
 | cons x r ih=>have:=bk_one x;simp only [Rows.uptoBulkAll,bV];omega
theorem bk_elems (elems spare:List (DataW H)):Rows.uptoBulkAll elems+1<=Rows.uptoBulk (.slice elems spare):=by
 simp only [Rows.uptoBulk];omega
theorem bk_agg (parts:List (DataW H)):Rows.uptoBulkAll parts<=Rows.uptoBulk (.agg parts):=by
 simp only [Rows.uptoBulk];omega
theorem bk_all {l:List (DataW H)} (hk:Rows.uptoSmall H l=true):Rows.uptoBulkAll l<=1048576:=of_decide_eq_true hk
variable {w:World} {n:Nat} {t:TypeId} {α β:Type} {f:α->List D} {good:α->Prop}
def RepU (w:World) (n:Nat) (t:TypeId) {α:Type} (f:α->List D) (good:α->Prop):Prop :=
  ∀ (H:Type) (enc:TypeId × Value->H) (base:Nat) (spare:Nat->Bool) (held:Bool) (fuel:Nat) (cs:List Value) (x:DataW H × List MemPlace),fuel<=n->DataW.trod enc dI w base spare held fuel t cs=some x->Rows.uptoBulk x.1<=1048576->∃ a:α,good a/\zat (DR (all w)) (f a) cs
theorem RepN.u (h:RepN w n t f good):RepU w n t f good:=fun H enc base spare held fuel cs x hn hx _=>h H enc base spare held fuel cs x hn hx
theorem RepU.mono (h:RepU w n t f good) (hm:m<=n):RepU w m t f good:=fun H enc base spare held fuel cs x hn hx=>h H enc base spare held fuel cs x (by omega) hx
theorem RepU.map {f':β->List D} {good':β->Prop} (h:RepU w n t f good) (g:α->β) (hf:∀ a,f' (g a)=f a) (hg:∀ a,good a->good' (g a)):RepU w n t f' good':=fun H enc base spare held fuel cs x hn hx hw=>by
 obtain ⟨a,h1,h2⟩:=h H enc base spare held fuel cs x hn hx hw
 exact ⟨g a,hg a h1,by rw [hf];exact h2⟩
theorem rep_sliceU {e:TypeId} (hu:Tryz.prog.underlying t=some (.slice e)) (hc:Tryz.prog.cellsOf e=k) (hk:0<k) (hl:∀ a,(f a).length=k) (he:RepU w n e f good):RepU w n t (slD k f) (fun xs=>(xs.length<=maxLen/\xs.length<=1048576)/\∀ x ∈ xs,good x):=fun H enc base spare held fuel cs x hn hx hw=>by
 rcases DataW.trod_slice hu hx with ⟨rfl,_⟩ | ⟨a,len,cap,elems,rest,m,rfl,rfl,rfl,_,h2,h3,h4,h5,_,_⟩
 ·exact ⟨[],⟨⟨bB _,bB _⟩,by simp⟩,DR.nil _ _ _ (fun _=>rfl) (bB _),trivial⟩
 ·rw [hc] at h5
  obtain ⟨xs,hxl,hxs⟩:=listOf (P:=fun i (y:α)=>good y/\∃ cs', w.cells? base (a.add (i*k)) k=some cs'/\zat (DR (all w)) (f y) cs') len fun i hi=>by
   have h6:=h5 i hi
   rw [bH (by omega)] at h6
   obtain ⟨cs', g1,g2⟩:=Option.bind_eq_some_iff.1 h6
   obtain ⟨y,g3,g4⟩:=he H enc base spare held m cs' _ (by omega) g2 (bC (bk_part (bE.2 ⟨elems[i],bM _,rfl⟩)) (bC (Nat.le_succ _) (bC (bk_elems _ _) hw)))
   exact ⟨y,g3,cs', g1,g4⟩
  have hb9:=bC (bk_elems _ _) hw
  have hb8:=bk_len (elems.map (·.1))
  rw [bA] at hb8
  refine ⟨xs,⟨⟨by omega,by omega⟩,fun y hy=>?_⟩,?_,trivial⟩
  ·obtain ⟨i,hi⟩:=dH.1 hy
   exact (hxs i y hi).1
  ·show DR (all w) (.sl k (xs.map f)) _
   rcases Nat.eq_zero_or_pos len with h0 | h0
   ·subst h0
    have:xs=[]:=cZ.1 hxl
    subst this
    exact DR.nil _ _ _ (fun e=>by cases e) h3
   ·have cells:∀ i y,xs[i]?=some y->∀ j,j<k->∃ v d,w.cell? ((a.add (i*k)).add j)=some v/\(f y)[j]?=some d/\DR (all w) d v:=fun i y hy j hj=>by
     obtain ⟨_,cs', g1,g2⟩:=hxs i y hy
     obtain ⟨_,g4,g5⟩:=World.cells?_some g1
     obtain ⟨v,g6,g7⟩:=g2.get j (by rw [hl];exact hj)
     exact ⟨v,_,by rw [g5 j hj];exact g6,bH (by rw [hl];exact hj),g7⟩
    obtain ⟨y0,hy0⟩:∃ y,xs[0]?=some y:=⟨_,bH (by omega)⟩
    obtain ⟨v0,_,c0,_,_⟩:=cells 0 y0 hy0 0 hk
    obtain ⟨b,o,sp⟩:=a
    have hsp:sp=none:=by
     have:=World.cell?_spot c0
     simpa [Addr.add] using this
    subst hsp
    have c0':w.cell? ⟨b,o,none⟩=some v0:=by simpa [Addr.add_mid] using c0
    obtain ⟨arr,ty,fz,hb,_⟩:=cell_at c0'
    have at_:∀ i y,xs[i]?=some y->∀ j,j<k->∃ v d,arr[o+i*k+j]?=some v/\(f y)[j]?=some d/\DR (all w) d v:=fun i y hy j hj=>by
     obtain ⟨v,d,g1,g2,g3⟩:=cells i y hy j hj
     rw [Addr.add_mid,Addr.add_mid] at g1
     obtain ⟨arr', ty', fz', hb', g4⟩:=cell_at g1
     rw [hb] at hb'
     injection hb' with hb'
     injection hb' with e1
     subst e1
     exact ⟨v,d,g4,g2,g3⟩
    have:=DR.sl (H:=all w) k (xs.map f) b o cap arr ty fz (fun i j=>(arr[o+i*k+j]?).getD v0) (by rw [bA];omega) hb (by rw [bA];omega) h3 (fun i hi=>by rw [bU];exact hl _)
     (fun i hi j hj=>by
      have hi':i<xs.length:=by simpa using hi
      obtain ⟨v,d,g1,_,_⟩:=at_ i xs[i] (bH hi') j hj
      rw [g1];rfl)
     (fun i hi j hj=>by
      have hi':i<xs.length:=by simpa using hi
      have hj':j<k:=by rw [bU,hl] at hj;exact hj
      obtain ⟨v,d,g1,g2,g3⟩:=at_ i xs[i] (bH hi') j hj'
      have e1:((xs.map f)[i])[j]?=some d:=by rw [bU];exact g2
      rw [bH hj] at e1
      injection e1 with e1
      rw [e1,g1];exact g3)
    rwa [bA,hxl] at this
def FsU (w:World) (n:Nat) (fs:List Field) (o k:Nat) {α:Type} (f:α->List D) (good:α->Prop):Prop :=
  ∀ (H:Type) (enc:TypeId × Value->H) (base:Nat) (spare:Nat->Bool) (held:Bool) (cs:List Value),(∀ fl ∈ fs,∃ m x,m<=n/\DataW.trod enc dI w base spare held m fl.type ((cs.drop fl.offset).take (Tryz.prog.cellsOf fl.type))=some x/\Rows.uptoBulk x.1<=1048576)->o+k=cs.length->∃ a:α,good a/\zat (DR (all w)) (f a) (cs.drop o)
theorem FsU.nil {o:Nat}:FsU w n [] o 0 (fun _:Unit=>[]) (fun _=>True):=fun H enc base spare held cs _ hl=>⟨(),trivial,by rw [List.drop_of_length_le (by omega)];trivial⟩
theorem FsU.cons {fl:Field} {fs:List Field} {o k0 k1:Nat} {f1:β->List D} {good1:β->Prop} (ho:fl.offset=o) (hc:Tryz.prog.cellsOf fl.type=k0) (h0:RepU w n fl.type f good) (h1:FsU w n fs (o+k0) k1 f1 good1) :
  FsU w n (fl :: fs) o (k0+k1) (fun p:α × β=>f p.1++f1 p.2) (fun p=>good p.1/\good1 p.2):=fun H enc base spare held cs hf hl=>by
 obtain ⟨m,x,hm,hx,hw⟩:=hf fl (by simp)
 rw [ho,hc] at hx
 obtain ⟨a,g1,g2⟩:=h0 H enc base spare held m _ x hm hx hw
 obtain ⟨b,g3,g4⟩:=h1 H enc base spare held cs (fun fl' h'=>hf fl' (by simp [h'])) (by omega)
 refine ⟨(a,b),⟨g1,g3⟩,?_⟩
 have e:cs.drop o=(cs.drop o).take k0++cs.drop (o+k0):=by rw [<- List.drop_drop,List.take_append_drop]
 rw [e]
 exact g2.append g4
theorem rep_structU {fs:Array Field} (hu:Tryz.prog.underlying t=some (.struct fs)) (hc:Tryz.prog.cellsOf t=k) (h:FsU w n fs.toList 0 k f good):RepU w (n+1) t f good:=fun H enc base spare held fuel cs x hn hx hw=>by
 obtain ⟨xs,m,rfl,rfl,h2,h3,h4⟩:=DataW.trod_struct hu hx
 obtain ⟨a,g1,g2⟩:=h H enc base spare held cs (fun fl hfl=>by
  obtain ⟨i,hi⟩:=dH.1 hfl
  have hi':fs[i]?=some fl:=by simpa using hi
  have:=h4 i fl hi'
  have hlt:i<xs.length:=by rw [h3];exact (Array.getElem?_eq_some_iff.1 hi').1
  rw [bH hlt] at this
  exact ⟨m,_,by omega,this,bC (bk_part (bE.2 ⟨xs[i],bM _,rfl⟩)) (bC (bk_agg _) hw)⟩) (by rw [h2,hc];omega)
 exact ⟨a,g1,by simpa using g2⟩
theorem rep_aggU {fs:Array Field} (hu:Tryz.prog.underlying t=some (.struct fs)) (hr:∀ n,RepU w n t f good) {enc:TypeId × Value->H} {base:Nat} {spare:Nat->Bool} {held:Bool} {r:Reach} {b0:Nat} {v:Value} {d:DataW H} {p:List MemPlace} (hv:Value.okWide dI w r b0 t v) (h:DataW.Trod enc dI w base spare held t v d p) (hw:Rows.uptoBulk d<=1048576) :
  ∃ (a:α) (cs:List Value),good a/\v = .agg ⟨cs⟩/\zat (DR (all w)) (f a) cs:=by
 obtain ⟨cs,rfl,_⟩:=okWide_struct hu hv
 obtain ⟨fuel,hf⟩:=h
 obtain ⟨a,g1,g2⟩:=hr fuel H enc base spare held fuel _ _ (Nat.le_refl _) hf hw
 exact ⟨a,cs.toList,g1,rfl,g2⟩
end
section
variable {w:World} {n:Nat}
theorem rep_Ltl:∀ {n:Nat}, RepN w n 24 za2.d (fun _=>True)
 | 0=>RepN.zero
 | n+1=>(rep_struct (n:=n) Tryz.underlying24 (by kernel_rfl) (.cons (k0:=1) rfl (by kernel_rfl) (rep_i64 Tryz.underlying3) (.cons (k0:=1) rfl (by kernel_rfl) (rep_i64 Tryz.underlying3) (.cons (k0:=1) rfl (by kernel_rfl) (rep_slice (k:=3) Tryz.underlying22 (by kernel_rfl) (by decide) za2.d_len rep_Ltl) .nil)))).map (fun p=>⟨p.1,p.2.1,p.2.2.1⟩) (fun _=>(za2.d_eq _).trans rfl) fun _ _=>trivial
theorem rep_boolsW:RepN w n 35 (slD 1 za0) (fun xs=>xs.length<=maxLen/\∀ x ∈ xs,True) :=
 rep_slice (k:=1) Tryz.underlying35 (by kernel_rfl) (by decide) (fun _=>rfl) (rep_bool Tryz.underlying4)
theorem rep_letsU:RepU w n 25 (slD 1 (slD 1 za0)) (fun xs=>xs.length<=1048576) :=
 (rep_sliceU (k:=1) Tryz.underlying25 (by kernel_rfl) (by decide) (fun _=>rfl) rep_boolsW.u).map id (fun _=>rfl) fun _ h=>h.1.2
theorem rep_WordU:RepU w n 27 zaf.d (fun x=>x.stem.length<=1048576/\x.cycle.length<=1048576) :=
 ((rep_structU (n:=n) Tryz.underlying27 (by kernel_rfl) (.cons (k0:=1) rfl (by kernel_rfl) rep_letsU (.cons (k0:=1) rfl (by kernel_rfl) rep_letsU .nil))).map (fun p=>⟨p.1,p.2.1⟩) (fun _=>rfl) fun _ h=>⟨h.1,h.2.1⟩).mono (Nat.le_succ n)
end
end
end S
end Go.Proofs.YtjnkkdfojfjncaaGreat
section
namespace Go.Proofs.YtjnkkdfojfjncaaGreat.wholeWordsDone
open Go.ChangeShapes Go.WideShapes Go.ChangeAt Go.RowKit
open Go.ChangeMaps (open_string shut_string)
open Go.Proofs.YtjnkkdfojfjncaaGreat.S

theorem own:ownKnob Tryz.prog.godebug=none:=by kernel_rfl
theorem laidOut:laidOutB dI=true:=by kernel_rfl

theorem lifted (os:Os) (started:os.Started) (H:Type) (enc:TypeId × Value->H) (F0:Stop.Interp) :
  ReturnsInHanded {} Tryz.checked os 3 .any ((Rows.OpenSpec.upto Rows.wholeWordsSpec).pre6 enc dI Tryz.f3 Rows.wholeWordsUptoRow.domain false) (((Rows.OpenSpec.upto Rows.wholeWordsSpec).at F0).post enc dI Tryz.f3 false true false false):=by
 refine returnsInHanded_of_cond (C:=Tryz.checked) (s:=Rows.OpenSpec.upto Rows.wholeWordsSpec) (k:=Rows.uptoSmall) rfl own started (by kernel_rfl) Tryz.func3
  (OpenSpec.witness (enc:=enc) (C:=Tryz.checked) (s:=Rows.OpenSpec.upto Rows.wholeWordsSpec) (k:=Rows.uptoSmall) rfl false ⟨#[],#[.agg #[.int .i64 0,.int .i64 0,.slice none 0 0],.agg #[.slice none 0 0,.slice none 0 0]],[]⟩ 12 (by kernel_rfl) (by kernel_rfl) (by kernel_rfl)
   (x:=([.agg [.lit (.int .i64 0),.lit (.int .i64 0),.nil],.agg [.nil,.nil]],[],[])) (by kernel_rfl) rfl (by kernel_rfl)) ?_
 intro W base args ds gs before hval0 hW hcnd hk _
 have hval:∀ (j:Nat) t v,Tryz.f3.params[j]?=some t->args[j]?=some v->Value.okWide dI W .any base t v:=hval0
 have hW':=hW
 obtain ⟨p,q,hA0,hV,rfl,hfz,hnd⟩:=hW
 have hA:DataW.TrodAll enc dI W 0 (fun _=>true) true Tryz.f3.params.toList args.toList ds p:=hA0
 rw [Tryz.params3] at hA hval
 obtain ⟨v0,vs0,d0,ds0,p0,q0,hargs,rfl,rfl,h0,r0⟩:=trodAll_cons hA
 obtain ⟨v1,vs1,d1,ds1,p1,q1,rfl,rfl,rfl,h1,r1⟩:=trodAll_cons r0
 obtain ⟨rfl,rfl,rfl⟩:=trodAll_nil r1
 obtain rfl:args=#[v0,v1]:=by cases args;simp_all
 obtain ⟨rfl,rfl⟩:=trodVars_none hV
 have hB:=bk_all hk
 have hb1:Rows.uptoBulk d1<=1048576:=bC (bk_part (by simp)) hB
 have k0:=h0
 have lt0:∀ x ∈ p0,x.block<W.heap.size:=by obtain ⟨m,hm⟩:=k0;exact DataW.trod_lt m _ _ _ hm
 obtain ⟨a0,cs0,g0,rfl,dr0⟩:=rep_agg Tryz.underlying24 (fun _=>rep_Ltl) (hval 0 24 v0 rfl rfl) h0
 have k1:=h1
 have lt1:∀ x ∈ p1,x.block<W.heap.size:=by obtain ⟨m,hm⟩:=k1;exact DataW.trod_lt m _ _ _ hm
 obtain ⟨a1,cs1,g1,rfl,dr1⟩:=rep_aggU Tryz.underlying27 (fun _=>rep_WordU) (hval 1 27 v1 rfl rfl) h1 hb1
 clear hA0 hval0
 have e0:Go.Proofs.YtjnkkdfojfjncaaGreat.S.vd (za2.d a0) = .t (.agg [.d (.raw (.int .i64 a0.kind)),.d (.raw (.int .i64 a0.prop)),.d (.sl 3 (a0.kids.map za2.d))]):=by rw [za2.d_eq];rfl
 have dv0:∀ B,VR (all W) B (vG [.d (.raw (.int .i64 a0.kind)),.d (.raw (.int .i64 a0.prop)),.d (.sl 3 (a0.kids.map za2.d))]) (.agg ⟨cs0⟩):=fun B=>by have h9:=dr_vd dr0 B;rw [e0] at h9;exact h9
 refine ((SWholeWords a0 a1 (by have:=g1.1;have:=g1.2;omega)).calls (w:=W) (vals:=[.agg ⟨cs0⟩,.agg ⟨cs1⟩]) fun B=>⟨dv0 B,dr_vd dr1 B,trivial⟩).mono fun e W' ⟨he,bel⟩=>?_
 subst he
 exact ⟨_,rfl,_,_,_,[],_,[],hW', trodAll_mk1 (shut_bool Tryz.underlying4 _),(trodAll_cons_mk (Below.trod laidOut (by kernel_rfl) (of_decide_eq_true (by kernel_rfl)) k0 bel lt0) (trodAll_cons_mk (Below.trod laidOut (by kernel_rfl) (of_decide_eq_true (by kernel_rfl)) k1 bel lt1) trodAll_mk0)),rfl,bel.below.frame _,fun h=>by cases h⟩

theorem over:Rows.wholeWordsUptoRow.holds Tryz.pinned (Rows.OpenSpec.upto Rows.wholeWordsSpec) :=
 OpenClaim.holds_of_cond 3 Tryz.f3 rfl rfl rfl rfl rfl rfl rfl ⟨rfl,rfl,rfl,rfl,rfl⟩ rfl rfl rfl rfl rfl (by kernel_rfl) Tryz.func3 (by kernel_rfl)
  (of_decide_eq_true (by kernel_rfl)) (by unfold Func.isWrapper;first | (rw [if_pos (by decide +kernel)]; try kernel_rfl) | (rw [if_neg (by decide +kernel)];exact ⟨rfl,rfl⟩))
  (fun os started H enc _ F0=>lifted os started H enc F0)

theorem proved:Rows.WholeWordsUptoSaid:=over
end Go.Proofs.YtjnkkdfojfjncaaGreat.wholeWordsDone
end
