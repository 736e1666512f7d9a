/-
  The proof of the statement ConfineEdges: the walk through the program and the references lifted to the given row. It holds for every input.
-/
import Derived.Test.YtdnhcneallkljaaGreatCE4
import Derived.Test.YtdnhcneallkljaaGreatCE3
import Derived.Test.YtdnhcneallkljaaGreatCE2
import Derived.SizedLaws
import Derived.Test.YtdnhcneallkljaaGreatRows
set_option maxRecDepth 100000
set_option maxHeartbeats 20000000
open Go.RowKit
namespace Go.Proofs.YtdnhcneallkljaaGreat
namespace S
def CanS (y:StD):Prop:=∀ z ∈ y.vals,z=ZI.of z.val
theorem zof (z:Int):ZI.of z=ZI.of (ZI.of z).val:=by rw [ZI.val_of]
theorem can_vals {y:StD} (hy:CanS y):(y.vals.map ZI.val).map ZI.of=y.vals:=by
 rw [List.map_map]
 exact (List.map_congr_left (f:=ZI.of ∘ ZI.val) (g:=id) fun z hz=>(hy z hz).symm).trans (List.map_id _)
theorem can_same {y z:StD} (hy:CanS y) (hz:CanS z) (h:zbu y z=true):y=z:=by
 unfold zbu at h
 rw [Bool.and_eq_true,decide_eq_true_eq,decide_eq_true_eq] at h
 have h2:y.vals=z.vals:=by rw [<- can_vals hy,<- can_vals hz,h.2]
 have h1:=h.1
 cases y;cases z
 simp only at h1 h2
 rw [h1,h2]
theorem can_stN (s:zaj) (n:Int):CanS (stN s n):=fun z hz=>by
 obtain ⟨v,_,rfl⟩:=List.mem_map.1 hz
 exact zof _
def unD:List Int->List Int->Int
  | _ :: ns,d :: ds=>d*prd ns+unD ns ds
  | _,_=>0
theorem unD_dgs:∀ (ns:List Int) (n:Int),unD ns (dgs ns n).1+(dgs ns n).2*prd ns=n
 | [],n=>by show 0+n*1=n;omega
 | w :: ns,n=>by
  show (dgs ns n).2 % w*prd ns+unD ns (dgs ns n).1+(dgs ns n).2 / w*(w*prd ns)=n
  have ih:=unD_dgs ns n
  have h1:=Int.emod_add_mul_ediv (dgs ns n).2 w
  have h2:(dgs ns n).2 / w*(w*prd ns)=w*((dgs ns n).2 / w)*prd ns:=by rw [<- Int.mul_assoc,Int.mul_comm ((dgs ns n).2 / w) w]
  have h3:(dgs ns n).2 % w*prd ns+w*((dgs ns n).2 / w)*prd ns=(dgs ns n).2*prd ns:=by rw [<- Int.add_mul,h1]
  omega
theorem dgs_un:∀ (ns ds:List Int) (q:Int),ns.length=ds.length->(∀ (i:Nat) (w:Int),ns[i]?=some w->0<=(ds[i]?).getD 0/\(ds[i]?).getD 0<w)->dgs ns (unD ns ds+q*prd ns)=(ds,q)
 | [],[],q,_,_=>by show (([]:List Int),0+q*1)=_;rw [Int.mul_one,Int.zero_add]
 | w :: ns,d :: ds,q,hl,h=>by
  have e:d*prd ns+unD ns ds+q*(w*prd ns)=unD ns ds+(d+q*w)*prd ns:=by rw [Int.add_mul,Int.mul_assoc];omega
  have ih:=dgs_un ns ds (d+q*w) (by simpa using hl) fun i w hw=>by simpa using h (i+1) w (by simpa using hw)
  have h0:0<=d/\d<w:=h 0 w rfl
  show ((dgs ns (d*prd ns+unD ns ds+q*(w*prd ns))).2 % w :: (dgs ns (d*prd ns+unD ns ds+q*(w*prd ns))).1,(dgs ns (d*prd ns+unD ns ds+q*(w*prd ns))).2 / w)=_
  rw [e,ih]
  show ((d+q*w) % w :: ds,(d+q*w) / w)=_
  rw [Int.add_mul_emod_self_right,Int.emod_eq_of_lt h0.1 h0.2,Int.add_mul_ediv_right _ _ (by omega),Int.ediv_eq_zero_of_lt h0.1 h0.2,Int.zero_add]
 | [],_ :: _,_,hl,_=>by cases hl
 | _ :: _,[],_,hl,_=>by cases hl
theorem dgs_lt {ns:List Int} (h:∀ w ∈ ns,1<=w) {n:Int} (h0:0<=n) (h1:n<prd ns):(dgs ns n).2=0:=by rw [dgs_div h];exact Int.ediv_eq_zero_of_lt h0 h1
theorem dgs_inj2 {ns:List Int} (h:∀ w ∈ ns,1<=w) {n m:Int} (h0:0<=n) (h1:n<prd ns) (h2:0<=m) (h3:m<prd ns) (e:(dgs ns n).1=(dgs ns m).1):n=m:=by
 have a:=unD_dgs ns n
 have b:=unD_dgs ns m
 rw [dgs_lt h h0 h1,Int.zero_mul] at a
 rw [dgs_lt h h2 h3,Int.zero_mul] at b
 rw [<- a,<- b,e]
theorem dgs_dig {ns:List Int} (h:∀ w ∈ ns,1<=w) (n:Int) {i:Nat} {w:Int} (hi:ns[i]?=some w):0<=((dgs ns n).1[i]?).getD 0/\((dgs ns n).1[i]?).getD 0<w:=by
 have hw:=h w (List.mem_of_getElem? hi)
 rw [dgs_get hi]
 exact ⟨Int.emod_nonneg _ (by omega),Int.emod_lt_of_pos _ (by omega)⟩
theorem digS_len (s:zaj) (n:Int):(zbx s n).length=s.procs.length+s.vars.length:=(zd8 _ _).trans (zef _ _)
theorem wd_within {b:zan} {d:Int} (h:(wdB b).2=true) (h0:0<=d) (h1:d<(wdB b).1):zaq b (ZI.of (b.lo.val+d))=true:=by
 cases hb:b.is_ with
 | false=>unfold zaq;rw [hb];rfl
 | true =>
  by_cases h2:0<b.hi.val - b.lo.val+1
  ·by_cases h3:b.hi.val - b.lo.val+1<=1048576
   ·rw [wdB_val hb h2 h3] at h1
    have h1:d<b.hi.val - b.lo.val+1:=h1
    unfold zaq
    rw [hb,ZI.val_of,zep,zep,decide_eq_true (show b.lo.val<=b.lo.val+d by omega),decide_eq_true (show b.lo.val+d<=b.hi.val by omega)];rfl
   ·rw [wdB_big hb (by omega)] at h;cases h
  ·rw [wdB_zero hb (by omega)] at h1;have h1:d<0:=h1;omega
theorem fit_stN {s:zaj} (hp:zc9 s) {n:Int} (hc:(zay s).2=true) (h0:0<=n) (h1:n<(zay s).1):zb2 s (stN s n)=true:=by
 obtain ⟨hpo,_⟩:=zg7 hp hc h0 h1
 have hl:=digS_len s n
 have hl1:(stN s n).locs.length=s.procs.length:=by show ((zbx s n).take _).length=_;rw [List.length_take];omega
 have hl2:(stN s n).vals.length=s.vars.length:=by show ((List.range _).map _).length=_;rw [List.length_map,List.length_range]
 unfold zb2
 rw [Bool.and_eq_true,Bool.and_eq_true,decide_eq_true_eq]
 refine ⟨⟨hl1,hl2⟩,zax.2 fun i hi=>?_,zax.2 fun v hv=>?_⟩
 ·rw [hl1] at hi
  have hw:(wdl s s.vars.length)[i]?=some (zco s.procs[i]):=by rw [wdl_loc hi,List.getElem?_eq_getElem hi];rfl
  have hd:=dgs_dig hpo n hw
  unfold ze2 zcr
  rw [decide_eq_true_eq,List.getElem?_eq_getElem hi]
  have e:(stN s n).locs[i]?=(zbx s n)[i]?:=by show ((zbx s n).take _)[i]?=_;rw [List.getElem?_take];exact if_pos hi
  rw [e];exact hd
 ·rw [hl2] at hv
  have hd:=dgs_dig hpo n (wdl_val (s:=s) hv)
  have e:(stN s n).vals[v]?=some (zdd s n v):=by show ((List.range _).map _)[v]?=_;rw [List.getElem?_map,List.getElem?_range hv];rfl
  unfold zf3
  rw [e]
  exact wd_within (zax.1 (zdo hc) v hv) hd.1 hd.2
theorem cnt_pos2 {s:zaj} {n:Int} (hc:(zay s).2=true) (h0:0<=n) (h1:n<(zay s).1):(zay s).1=prd (wdl s s.vars.length):=by
 rcases cnt_val hc with h | h
 ·omega
 ·exact h.1
theorem stN_inj {s:zaj} (hp:zc9 s) (hc:(zay s).2=true) {n m:Int} (h0:0<=n) (h1:n<(zay s).1) (h2:0<=m) (h3:m<(zay s).1) (e:stN s n=stN s m):n=m:=by
 obtain ⟨hpo,_⟩:=zg7 hp hc h0 h1
 have hcp:=cnt_pos2 hc h0 h1
 refine dgs_inj2 hpo h0 (by omega) h2 (by omega) (List.ext_getElem? fun i=>?_)
 show (zbx s n)[i]?=(zbx s m)[i]?
 have hln:=digS_len s n
 have hlm:=digS_len s m
 by_cases hi:i<s.procs.length
 ·have:=congrArg (fun y:StD=>y.locs[i]?) e
  simp only [stN] at this
  rwa [List.getElem?_take_of_lt hi,List.getElem?_take_of_lt hi] at this
 ·by_cases hi2:i<s.procs.length+s.vars.length
  ·obtain ⟨v,rfl⟩:∃ v,i=s.procs.length+v:=⟨i - s.procs.length,by omega⟩
   have:=congrArg (fun y:StD=>y.vals[v]?) e
   simp only [stN] at this
   rw [List.getElem?_map,List.getElem?_map,List.getElem?_range (by omega)] at this
   simp only [Option.map_some,Option.some.injEq] at this
   have:=congrArg ZI.val this
   unfold zdd at this
   rw [ZI.val_of,ZI.val_of] at this
   rw [List.getElem?_eq_getElem (by omega),List.getElem?_eq_getElem (by omega)] at this ⊢
   simp only [Option.getD_some] at this
   rw [show (zbx s n)[s.procs.length+v]=(zbx s m)[s.procs.length+v] by omega]
  ·rw [List.getElem?_eq_none (by omega),List.getElem?_eq_none (by omega)]
def dgL (s:zaj) (y:StD):List Int:=(List.range (s.procs.length+s.vars.length)).map (dgN s y)
theorem dgL_at (s:zaj) (y:StD) {i:Nat} (h:i<s.procs.length+s.vars.length):(dgL s y)[i]?=some (dgN s y i):=by unfold dgL;rw [List.getElem?_map,List.getElem?_range h];rfl
theorem stN_sur {s:zaj} {y:StD} (hc:(zay s).2=true) (hf:zb2 s y=true) (hy:CanS y):∃ k:Nat,(k:Int)<(zay s).1/\stI s k=y:=by
 have hpo:=fit_pos hc hf
 have hpp:=zek hpo
 have hcp:(zay s).1=prd (wdl s s.vars.length):=by
  have h1:=fit_prd hc hf
  unfold zay prdB
  rw [if_pos (zdo hc),if_neg (fun h0=>by have:=hpo 0 h0;omega),if_pos h1]
 have hlw:=zef s s.vars.length
 have hd:=dgs_un (wdl s s.vars.length) (dgL s y) 0 (by rw [hlw];unfold dgL;rw [List.length_map,List.length_range]) fun i w hw=>by
  rw [dgL_at s y (by have:=zak hw;omega)]
  exact dgN_in hc hf hw
 rw [Int.zero_mul,Int.add_zero] at hd
 have h0:=dgs_div hpo (unD (wdl s s.vars.length) (dgL s y))
 rw [hd] at h0
 have h1:=Int.emod_add_mul_ediv (unD (wdl s s.vars.length) (dgL s y)) (prd (wdl s s.vars.length))
 rw [<- show (0:Int)=_ from h0,Int.mul_zero] at h1
 have h2:=Int.emod_nonneg (unD (wdl s s.vars.length) (dgL s y)) (show prd (wdl s s.vars.length)≠0 by omega)
 have h3:=Int.emod_lt_of_pos (unD (wdl s s.vars.length) (dgL s y)) (show 0<prd (wdl s s.vars.length) by omega)
 generalize hN:unD (wdl s s.vars.length) (dgL s y)=n at *
 have hdg:zbx s n=dgL s y:=congrArg Prod.fst hd
 obtain ⟨k,rfl⟩:∃ k:Nat,n=(k:Int):=⟨n.toNat,by omega⟩
 refine ⟨k,by omega,?_⟩
 have hfl:=zbv hf
 unfold stI stN
 have e1:(zbx s (k:Int)).take s.procs.length=y.locs:=List.ext_getElem? fun i=>by
  by_cases hi:i<s.procs.length
  ·rw [List.getElem?_take_of_lt hi,hdg,dgL_at s y (by omega)]
   unfold dgN
   rw [if_pos hi,List.getElem?_eq_getElem (by omega)];rfl
  ·rw [List.getElem?_eq_none (by rw [List.length_take];omega),List.getElem?_eq_none (by omega)]
 have e2:(List.range s.vars.length).map (zdd s (k:Int))=y.vals:=List.ext_getElem? fun v=>by
  by_cases hv:v<s.vars.length
  ·rw [List.getElem?_map,List.getElem?_range hv]
   show some (zdd s (k:Int) v)=_
   unfold zdd
   rw [hdg,dgL_at s y (by omega)]
   unfold dgN
   rw [if_neg (by omega),Nat.add_sub_cancel_left,List.getElem?_eq_getElem (show v<y.vals.length by omega)]
   show some (ZI.of (_+(_ - _)))=_
   rw [show ∀ a b:Int,a+(b - a)=b from fun a b=>by omega]
   exact congrArg some (hy _ (List.getElem_mem _)).symm
  ·rw [List.getElem?_eq_none (by rw [List.length_map,List.length_range];omega),List.getElem?_eq_none (by omega)]
 rw [e1,e2]
theorem pv_inj {s:zaj} {v d e:Nat} (h:pv s v d=pv s v e):d=e:=by
 have:=congrArg ZI.val h
 unfold pv at this
 rw [ZI.val_of,ZI.val_of] at this
 omega
theorem pkS_nodup {s:zaj} {v:Nat} {ps:List (List ZI)} (h:ps.Nodup):(pkS s v ps).Nodup:=by
 unfold pkS List.Nodup
 rw [List.pairwise_flatMap]
 refine ⟨fun p _=>?_,h.imp fun {a b} hab x hx y hy e=>?_⟩
 ·unfold pk1
  rw [List.pairwise_map]
  exact List.nodup_range.imp fun {a b} hab e=>hab (pv_inj (by simpa using e))
 ·obtain ⟨d,_,rfl⟩:=List.mem_map.1 hx
  obtain ⟨d2,_,rfl⟩:=List.mem_map.1 hy
  exact hab (List.append_inj_left' e rfl)
theorem pkT_nodup {s:zaj}:∀ (n:Nat) {vs:List Int}, vs.length=n->(pkT s vs).Nodup
 | 0,vs,hn=>by rw [List.length_eq_zero_iff.1 hn];exact List.pairwise_singleton _ _
 | n+1,vs,hn=>by
  rcases List.eq_nil_or_concat vs with rfl | ⟨ws,x,rfl⟩
  ·cases hn
  ·rw [List.concat_eq_append] at hn ⊢
   rw [zfs]
   exact pkS_nodup (pkT_nodup n (by simpa using hn))
theorem zero_of:zci=ZI.of zci.val:=by kernel_rfl
theorem can_new (x:StD) (c:zat) (v:Nat):zbc x c v=ZI.of (zbc x c v).val:=by
 unfold zbc
 split
 ·exact zof _
 ·split
  ·exact zero_of
  ·exact zof _
theorem can_newV (x:StD) (c:zat) (p:List ZI) (v:Nat):zbg x c p v=ZI.of (zbg x c p v).val:=by
 unfold zbg
 split
 ·split
  ·exact zof _
  ·exact zero_of
 ·exact can_new x c v
theorem can_outS (s:zaj) (x:StD) (c:zat) (p:List ZI):CanS (zbs s x c p):=fun z hz=>by
 obtain ⟨v,_,rfl⟩:=List.mem_map.1 hz
 exact can_newV x c p v
theorem can_clone {x:StD} (h:CanS x):cloneS x=x:=by
 have:=can_vals h
 rw [List.map_map] at this
 unfold cloneS clZ
 cases x
 simp only at this ⊢
 rw [show (fun z:ZI=>ZI.of z.val)=ZI.of ∘ ZI.val from rfl,this]
theorem goC_yes {s:zaj} {x:StD} {c:zat} {p:List ZI} (h:(goC s x c p).2=true):zag s x c=true/\zb2 s (zbs s x c p)=true/\(goC s x c p).1=zbs s x c p:=by
 unfold goC at h ⊢
 split at h
 ·rename_i hh;rw [if_pos hh];exact ⟨hh.1,hh.2,rfl⟩
 ·cases h
theorem act_nat {s:zaj} {i:Nat} {c:zat} (hc:s.acts[i]?=some c):zdc s (i:Int)=some c:=by
 unfold zdc;rw [if_pos (by omega),Int.toNat_natCast,hc]
theorem goS_act {s:zaj} {x:StD} {i:Nat} {c:zat} (hc:s.acts[i]?=some c) (p:List ZI):goS s x (i:Int) p=goC s x c p:=by
 unfold goS;rw [if_neg (fun h=>by have:=h.1;omega),act_nat hc]
theorem leads_act {s:zaj} {x y:StD} {i:Nat} {c:zat} (hc:s.acts[i]?=some c):leads s x (i:Int) y=zen s x c y:=by
 unfold leads;rw [if_neg (by omega),act_nat hc]
theorem can_act {s:zaj} {x:StD} {i:Nat} {c:zat} (hc:s.acts[i]?=some c):can s x (i:Int)=canC s x c:=by
 unfold can;rw [act_nat hc]
theorem cntFree_mono (c:zat):∀ {a b:Nat}, a<=b->zai c a<=zai c b:=by
 intro a b h
 induction h with
 | refl=>exact Nat.le_refl _
 | step h ih=>rw [zai];omega
theorem freeI_cnt (c:zat):∀ v,(zar c v).length=zai c v
 | 0=>rfl
 | v+1=>by
  cases h:zas c v with
  | true=>rw [<- freeI_yes h,List.length_append,freeI_cnt c v,zdi h];rfl
  | false=>rw [<- zh9 h,freeI_cnt c v,zfz h]
theorem pick_eq {s:zaj} {x:StD} {c:zat} {p:List ZI} (hp:p ∈ pkT s (zar c s.vars.length)):zbn (zbs s x c p) c s.vars.length=p:=by
 have hl:p.length=zai c s.vars.length:=(pk_each hp).trans (freeI_cnt c _)
 have key:∀ n,n<=s.vars.length->zbn (zbs s x c p) c n=p.take (zai c n):=by
  intro n
  induction n with
  | zero=>intro _;rfl
  | succ n ih =>
   intro hn
   rw [zbn,ih (by omega)]
   cases h:zas c n with
   | false=>rw [if_neg Bool.noConfusion,zfz h]
   | true =>
    have h1:=cntFree_mono c hn
    rw [zdi h] at h1
    have hz:=List.getElem?_eq_getElem (l:=p) (i:=zai c n) (by omega)
    have hm:=List.mem_of_getElem? hz
    generalize p[zai c n]=z at hz hm
    obtain ⟨v,d,_,e⟩:=pk_val _ rfl hp z hm
    have ez:z=ZI.of z.val:=by rw [e];exact zof _
    have eo:((zbs s x c p).vals[n]?).getD zci=z:=by
     show (((List.range s.vars.length).map (zbg x c p))[n]?).getD zci=z
     rw [List.getElem?_map,List.getElem?_range (by omega)]
     show zbg x c p n=z
     unfold zbg
     rw [if_pos h,hz]
     exact ez.symm
    rw [if_pos rfl,zdi h,List.take_add_one,hz,eo];rfl
 rw [key _ (Nat.le_refl _),<- hl,List.take_length]
theorem pick_mem {s:zaj} {y:StD} (c:zat) (hc:(zay s).2=true) (hf:zb2 s y=true) (hy:CanS y):∀ n,n<=s.vars.length->zbn y c n ∈ pkT s (zar c n)
 | 0,_=>by show [] ∈ [[]];simp
 | n+1,hn=>by
  have ih:=pick_mem c hc hf hy n (by omega)
  rw [zbn]
  cases h:zas c n with
  | false=>rw [if_neg Bool.noConfusion,<- zh9 h];exact ih
  | true =>
   rw [if_pos rfl,<- freeI_yes h,zfs]
   refine List.mem_flatMap.2 ⟨_,ih,List.mem_map.2 ?_⟩
   have hf0:=hf
   unfold zb2 at hf
   simp only [Bool.and_eq_true,decide_eq_true_eq] at hf
   obtain ⟨⟨_,hv⟩,_,h2⟩:=hf
   have hz:=List.getElem?_eq_getElem (l:=y.vals) (i:=n) (by omega)
   have hm:=List.mem_of_getElem? hz
   generalize y.vals[n]=z at hz hm
   have h3:=zax.1 h2 n (by omega)
   unfold zf3 at h3
   rw [hz] at h3
   have h4:=wd_in (zax.1 (zdo hc) n (by omega)) h3
   rw [Int.toNat_natCast]
   refine ⟨(z.val - (zal s n).lo.val).toNat,List.mem_range.2 ?_,?_⟩
   ·unfold wdV;simp only [Option.getD_some] at h4;omega
   ·rw [hz]
    show _++[pv s n _]=_++[z]
    simp only [Option.getD_some] at h4
    have e:pv s n (z.val - (zal s n).lo.val).toNat=z:=by
     unfold pv
     rw [Int.toNat_of_nonneg h4.1,show (zal s n).lo.val+(z.val - (zal s n).lo.val)=z.val by omega]
     exact (hy z hm).symm
    rw [e]
theorem zfp (y:StD):zbu y y=true:=by unfold zbu;simp
theorem leads_can {s:zaj} {x y:StD} {c:zat} (_hc:(zay s).2=true) (h:zen s x c y=true):canC s x c=true:=by
 unfold zen at h
 simp only [Bool.and_eq_true] at h
 obtain ⟨⟨he,hfy⟩,hg,_⟩:=h
 obtain ⟨_,hfo,_⟩:=goC_yes hg
 unfold canC
 rw [he,Bool.true_and]
 unfold zb2 at hfo hfy
 simp only [Bool.and_eq_true,decide_eq_true_eq] at hfo hfy
 obtain ⟨⟨_,hv1⟩,_,h1⟩:=hfo
 obtain ⟨⟨_,hv2⟩,_,h2⟩:=hfy
 refine zax.2 fun v hv=>?_
 unfold zgr
 cases hfr:zas c v with
 | true =>
  rw [if_pos rfl]
  have h3:=zax.1 h2 v (by omega)
  unfold zf3 zaq at h3
  cases hb:(zal s v).is_ with
  | false=>rfl
  | true =>
   rw [hb] at h3
   simp only [Bool.not_true,Bool.false_or,Bool.and_eq_true,decide_eq_true_eq] at h3
   have h4:=of_decide_eq_true ((zep _ _).symm.trans (decide_eq_true h3.1))
   have h5:=of_decide_eq_true ((zep _ _).symm.trans (decide_eq_true h3.2))
   rw [zd9,decide_eq_false (by omega)];rfl
 | false =>
  rw [if_neg Bool.noConfusion]
  have h3:=zax.1 h1 v (by omega)
  unfold zf3 at h3
  have e:((zbs s x c (zbn y c s.vars.length)).vals[v]?).getD zci=zbc x c v:=by
   show (((List.range s.vars.length).map (zbg x c _))[v]?).getD zci=_
   rw [List.getElem?_map,List.getElem?_range hv]
   exact zez hfr
  rw [e] at h3
  exact h3
def isE (a:Int) (y:StD) (e:zaf):Bool:=e.act == a && zbu e.to_ y
def met (es:List zaf) (a:Int) (y:StD):Nat:=(es.filter (isE a y)).length
theorem met_app (xs ys:List zaf) (a:Int) (y:StD):met (xs++ys) a y=met xs a y+met ys a y:=by unfold met;rw [List.filter_append,List.length_append]
theorem met_cons (e:zaf) (es:List zaf) (a:Int) (y:StD):met (e :: es) a y=(if isE a y e=true then 1 else 0)+met es a y:=by
 unfold met
 cases h:isE a y e with
 | true=>rw [List.filter_cons_of_pos h,List.length_cons,if_pos rfl];omega
 | false=>rw [List.filter_cons_of_neg (by rw [h];exact Bool.noConfusion),if_neg Bool.noConfusion];omega
theorem met_none {es:List zaf} {a:Int} {y:StD} (h:∀ e ∈ es,e.act≠a):met es a y=0:=by
 unfold met
 rw [List.length_eq_zero_iff,List.filter_eq_nil_iff]
 intro e he h2
 unfold isE at h2
 rw [Bool.and_eq_true,beq_iff_eq] at h2
 exact h e he h2.1
theorem egP_act {s:zaj} {x:StD} {i:Int} {ps:List (List ZI)} {e:zaf} (h:e ∈ egP s x i ps):∃ p ∈ ps,(goS s x i p).2=true/\e=⟨i,(goS s x i p).1⟩:=by
 obtain ⟨p,hp,h2⟩:=List.mem_flatMap.1 h
 split at h2
 ·rename_i hk;exact ⟨p,hp,hk,List.mem_singleton.1 h2⟩
 ·cases h2
theorem egA_act {s:zaj} {x:StD} {i:Nat} {e:zaf} (h:e ∈ egA s x i):∃ c p,s.acts[i]?=some c/\p ∈ pkT s (zar c s.vars.length)/\(goS s x (i:Int) p).2=true/\e=⟨(i:Int),(goS s x (i:Int) p).1⟩:=by
 unfold egA at h
 split at h
 ·cases h
 ·rename_i c hc
  split at h
  ·obtain ⟨p,hp,h2⟩:=egP_act h;exact ⟨c,p,hc,hp,h2⟩
  ·cases h
theorem met_P (s:zaj) (x y:StD) (i:Int):∀ ps:List (List ZI),met (egP s x i ps) i y=(ps.filter fun p=>(goS s x i p).2 && zbu (goS s x i p).1 y).length
 | []=>rfl
 | p :: ps=>by
  show met ((if (goS s x i p).2=true then [(⟨i,(goS s x i p).1⟩:zaf)] else [])++egP s x i ps) i y=_
  rw [met_app,met_P s x y i ps]
  cases h:(goS s x i p).2 with
  | false =>
   rw [if_neg Bool.noConfusion,List.filter_cons_of_neg (by rw [h];simp)]
   show 0+_=_;omega
  | true =>
   rw [if_pos rfl]
   have e:met [(⟨i,(goS s x i p).1⟩:zaf)] i y=if zbu (goS s x i p).1 y=true then 1 else 0:=by
    rw [met_cons];unfold isE;simp [met]
   rw [e]
   cases h2:zbu (goS s x i p).1 y with
   | true=>rw [List.filter_cons_of_pos (by rw [h,h2];rfl),List.length_cons,if_pos rfl];omega
   | false=>rw [List.filter_cons_of_neg (by rw [h,h2];simp),if_neg Bool.noConfusion];omega
theorem nodup_one {α:Type} {q:α}:∀ {l:List α}, l.Nodup->(∀ p ∈ l,p=q)->q ∈ l->l.length=1
 | [],_,_,h=>by cases h
 | [_],_,_,_=>rfl
 | a :: b :: t,hn,ha,_=>by
  have h1:=ha a (by simp)
  have h2:=ha b (by simp)
  rw [h1,h2] at hn
  simp at hn
theorem met_A {s:zaj} {x y:StD} {i:Nat} {c:zat} (hc:(zay s).2=true) (ha:s.acts[i]?=some c) (hf:zb2 s y=true) (hy:CanS y):met (egA s x i) (i:Int) y=if leads s x (i:Int) y=true then 1 else 0:=by
 rw [leads_act ha]
 cases hk:can s x (i:Int) with
 | false =>
  rw [egA_no hk,if_neg (fun h=>by have:=leads_can hc h;rw [<- can_act ha,hk] at this;cases this)];rfl
 | true =>
  rw [egA_yes ha hk,met_P]
  have one:∀ p ∈ pkT s (zar c s.vars.length),((goS s x (i:Int) p).2 && zbu (goS s x (i:Int) p).1 y)=true->p=zbn y c s.vars.length/\zen s x c y=true:=by
   intro p hp h
   rw [Bool.and_eq_true,goS_act ha] at h
   obtain ⟨he,hfo,e1⟩:=goC_yes h.1
   have e2:zbs s x c p=y:=can_same (can_outS s x c p) hy (by rw [<- e1];exact h.2)
   have e3:=pick_eq (x:=x) hp
   rw [e2] at e3
   refine ⟨e3.symm,?_⟩
   unfold zen
   rw [e3,e1,h.1,he,hf,e2,zfp];rfl
  cases hl:zen s x c y with
  | true =>
   rw [if_pos rfl]
   have hl0:=hl
   unfold zen at hl
   simp only [Bool.and_eq_true] at hl
   refine nodup_one (q:=zbn y c s.vars.length) ((pkT_nodup _ rfl).filter _) (fun p hp=>(one p (List.mem_filter.1 hp).1 (List.mem_filter.1 hp).2).1) (List.mem_filter.2 ⟨pick_mem c hc hf hy _ (Nat.le_refl _),?_⟩)
   rw [goS_act ha,hl.2.1]
   obtain ⟨_,_,e1⟩:=goC_yes hl.2.1
   have e2:=can_same hy (by rw [e1];exact can_outS _ _ _ _) hl.2.2
   rw [<- e2,zfp];rfl
  | false =>
   rw [if_neg Bool.noConfusion,List.length_eq_zero_iff,List.filter_eq_nil_iff]
   intro p hp h
   have:=(one p hp h).2
   rw [hl] at this;cases this
theorem stay {s:zaj} {x:StD} (h:CanS x):goS s x (-1) []=if zcv s x=true then (x,true) else (st0,false):=by
 unfold goS
 cases hk:zcv s x with
 | true=>rw [if_pos ⟨rfl,rfl⟩,can_clone h];rfl
 | false=>rw [if_neg (fun h=>by cases h.2)];rfl
theorem met_S {s:zaj} {x y:StD} (hx:CanS x):met (egP s x (-1) [[]]) (-1) y=if leads s x (-1) y=true then 1 else 0:=by
 rw [met_P,show leads s x (-1) y=(zcv s x && zbu x y) from if_pos rfl]
 have e:((goS s x (-1) []).2 && zbu (goS s x (-1) []).1 y)=(zcv s x && zbu x y):=by
  rw [stay hx]
  cases zcv s x <;> rfl
 cases h:(zcv s x && zbu x y) with
 | true=>rw [List.filter_cons_of_pos (by rw [e,h])];rfl
 | false=>rw [List.filter_cons_of_neg (by rw [e,h];exact Bool.noConfusion)];rfl
theorem met_N {s:zaj} {x y:StD} {a:Nat}:∀ n,met (egN s x n) (a:Int) y=if a<n then met (egA s x a) (a:Int) y else 0
 | 0=>rfl
 | n+1=>by
  rw [egN_at,met_app,met_N n]
  by_cases h:a=n
  ·subst h;rw [if_neg (by omega),if_pos (by omega),Nat.zero_add]
  ·rw [met_none (es:=egA s x n) (fun e he=>by obtain ⟨c,p,_,_,_,rfl⟩:=egA_act he;show (n:Int)≠a;omega)]
   by_cases h2:a<n
   ·rw [if_pos h2,if_pos (by omega)];rfl
   ·rw [if_neg h2,if_neg (by omega)]
theorem met_N1 {s:zaj} {x y:StD}:∀ n,met (egN s x n) (-1) y=0:=fun n=>met_none fun e he=>by
 obtain ⟨i,_,h⟩:=List.mem_flatMap.1 he
 obtain ⟨c,p,_,_,_,rfl⟩:=egA_act h
 show (i:Int)≠-1;omega
theorem met_all {s:zaj} {x y:StD} (hc:(zay s).2=true) (hfx:zb2 s x=true) (hx:CanS x) (hf:zb2 s y=true) (hy:CanS y) {k:Nat} (hk:k<s.acts.length+1):met (edT s x) ((k:Int) - 1) y=if leads s x ((k:Int) - 1) y=true then 1 else 0:=by
 rw [show edT s x=egN s x s.acts.length++egP s x (-1) [[]] from if_pos ⟨hc,hfx⟩,met_app]
 cases k with
 | zero =>
  show met _ (-1) y+met _ (-1) y=_
  rw [met_N1,met_S hx,Nat.zero_add];rfl
 | succ k =>
  rw [show ((k+1:Nat):Int) - 1=(k:Int) by omega,met_N,if_pos (by omega),met_A hc (List.getElem?_eq_getElem (by omega)) hf hy,met_none (es:=egP s x (-1) [[]]) (fun e he=>by obtain ⟨p,_,_,rfl⟩:=egP_act he;show (-1:Int)≠k;omega),Nat.add_zero]
theorem ed_each {s:zaj} {x:StD} (hc:(zay s).2=true) (hx:CanS x) {e:zaf} (he:e ∈ edT s x):∃ k:Nat,k<cN s/\e.to_=stI s k/\∃ a:Nat,a<s.acts.length+1/\e.act=(a:Int) - 1:=by
 unfold edT at he
 split at he
 ·rename_i hh
  rcases List.mem_append.1 he with he | he
  ·obtain ⟨i,hi,h⟩:=List.mem_flatMap.1 he
   obtain ⟨c,p,ha,hp,h1,rfl⟩:=egA_act h
   rw [goS_act ha] at h1 ⊢
   obtain ⟨_,hfo,e1⟩:=goC_yes h1
   obtain ⟨k,hk,ek⟩:=stN_sur hc hfo (can_outS s x c p)
   exact ⟨k,cN_lt hk,by rw [e1,ek],i+1,by have:=List.mem_range.1 hi;omega,by show (i:Int)=_;omega⟩
  ·obtain ⟨p,hp,h1,rfl⟩:=egP_act he
   rw [List.mem_singleton.1 hp,stay hx] at h1 ⊢
   split at h1
   ·rename_i hk
    obtain ⟨k,hk2,ek⟩:=stN_sur hc hh.2 hx
    exact ⟨k,cN_lt hk2,by rw [if_pos hk,ek],0,by omega,rfl⟩
   ·cases h1
 ·cases he
def sumU (f:Nat->Nat):Nat->Nat
  | 0=>0
  | n+1=>sumU f n+f n
theorem zdq {f g:Nat->Nat}:∀ {n:Nat}, (∀ i,i<n->f i=g i)->sumU f n=sumU g n
 | 0,_=>rfl
 | n+1,h=>by rw [sumU,sumU,zdq (n:=n) fun i hi=>h i (by omega),h n (by omega)]
theorem sumU_add (f g:Nat->Nat):∀ n,sumU (fun i=>f i+g i) n=sumU f n+sumU g n
 | 0=>rfl
 | n+1=>by rw [sumU,sumU,sumU,sumU_add f g n];omega
theorem sumU_zero:∀ n,sumU (fun _=>0) n=0
 | 0=>rfl
 | n+1=>by rw [sumU,sumU_zero n]
theorem sumU_one (k c:Nat):∀ n,sumU (fun i=>if i=k then c else 0) n=if k<n then c else 0
 | 0=>rfl
 | n+1=>by
  rw [sumU,sumU_one k c n]
  by_cases h:n=k
  ·rw [if_pos h,if_neg (by omega),if_pos (by omega),Nat.zero_add]
  ·rw [if_neg h,Nat.add_zero]
   by_cases h2:k<n
   ·rw [if_pos h2,if_pos (by omega)]
   ·rw [if_neg h2,if_neg (by omega)]
def zc2 (es:List zaf) (y:StD) (n:Nat):Nat:=sumU (fun a=>met es ((a:Int) - 1) y) n
def zc1 (es:List zaf) (s:zaj) (m n:Nat):Nat:=sumU (fun i=>zc2 es (stI s i) n) m
theorem met_total {s:zaj} (hp:zc9 s) (hc:(zay s).2=true) {n:Nat}:∀ {es:List zaf}, (∀ e ∈ es,∃ k:Nat,k<cN s/\e.to_=stI s k/\∃ a:Nat,a<n/\e.act=(a:Int) - 1)->zc1 es s (cN s) n=es.length
 | [],_=>by
  unfold zc1 zc2 met
  show sumU (fun i=>sumU (fun a=>0) n) _=0
  simp only [sumU_zero]
 | e :: es,h=>by
  have ih:=met_total hp hc (n:=n) (es:=es) fun e he=>h e (by simp [he])
  obtain ⟨k,hk,ek,a0,ha,ea⟩:=h e (by simp)
  have h1:∀ i,i<cN s->zc2 (e :: es) (stI s i) n=(if i=k then 1 else 0)+zc2 es (stI s i) n:=fun i hi=>by
   unfold zc2
   rw [zdq (fun a _=>met_cons e es ((a:Int) - 1) (stI s i)),sumU_add]
   congr 1
   by_cases hik:i=k
   ·subst hik
    rw [if_pos rfl,zdq (g:=fun a=>if a=a0 then 1 else 0) fun a _=>?_,sumU_one,if_pos ha]
    unfold isE
    rw [ek,zfp,ea,Bool.and_true]
    by_cases h2:a=a0
    ·rw [h2,if_pos (by simp),if_pos rfl]
    ·rw [if_neg (by simp;omega),if_neg h2]
   ·rw [if_neg hik,zdq (g:=fun _=>0) fun a _=>?_,sumU_zero]
    refine if_neg fun h2=>hik ?_
    unfold isE at h2
    rw [Bool.and_eq_true,ek] at h2
    have h3:=can_same (can_stN s _) (can_stN s _) h2.2
    unfold cN at hk hi
    have h4:=stN_inj hp hc (show (0:Int)<=k by omega) (by omega) (show (0:Int)<=i by omega) (by omega) h3
    omega
  unfold zc1 at ih ⊢
  rw [zdq h1,sumU_add,sumU_one,if_pos hk,ih,List.length_cons];omega
theorem same7 (z:ZI):(z.neg == z.neg && decide (z.abs=z.abs))=true:=by simp
theorem SSame7 (z:ZI) (h:Lb z.abs):Fn Tryz.prog 29 [] [vz z,vz z] (vb true) []:=by have:=SRSame z z h h;rwa [same7] at this
theorem ol1_3:ElZ Tryz.prog 23 89 5:=ElZ.mk' Tryz.underlying23 _ _ rfl rfl (by kernel_rfl) (by kernel_rfl) (by kernel_rfl) (by decide)
theorem ol1_4:ElZ Tryz.prog 36 93 3:=ElZ.mk' Tryz.underlying36 _ _ rfl rfl (by kernel_rfl) (by kernel_rfl) (by kernel_rfl) (by decide)
theorem ol1_5:ElZ Tryz.prog 94 105 5:=ElZ.mk' Tryz.underlying94 _ _ rfl rfl (by kernel_rfl) (by kernel_rfl) (by kernel_rfl) (by decide)
theorem ol1_6:ElZ Tryz.prog 37 96 10:=ElZ.mk' Tryz.underlying37 _ _ rfl rfl (by kernel_rfl) (by kernel_rfl) (by kernel_rfl) (by decide)
theorem ol1_7:Sz Tryz.prog 39 10 true:=Sz.mk' (by kernel_rfl) Tryz.underlying39 _ rfl
theorem ol1_8:za3 Tryz.prog 24:=za3.mk' (by kernel_rfl)
theorem ol1_11:za3 Tryz.prog 27:=za3.mk' (by kernel_rfl)
theorem ol1_14:za3 Tryz.prog 13:=za3.mk' (by kernel_rfl)
theorem ol1_18:za3 Tryz.prog 8:=za3.mk' (by kernel_rfl)
theorem ol1_19:SlT Tryz.prog 52 56 3:=SlT.mk' Tryz.underlying52 (by kernel_rfl)
theorem ol1_20:za3 Tryz.prog 30:=za3.mk' (by kernel_rfl)
def zcn:zaj:=⟨[⟨#[120]⟩],[⟨true,zci,ZI.of 3⟩],form0,[⟨⟨#[112]⟩,[⟨#[97]⟩,⟨#[98]⟩],.raw za6⟩],[⟨0,0,1,form0,[⟨0,false,⟨[⟨0,ZI.of 1⟩],ZI.of 1⟩⟩]⟩]⟩
def sysN:zaj:=⟨[⟨#[120]⟩],[],form0,[],[]⟩
def xN:StD:=⟨[1],[ZI.of 1]⟩
def xM:StD:=⟨[0],[ZI.of 2]⟩
def eN:zaf:=⟨0,⟨[1],[ZI.of 3]⟩⟩
theorem n1:zay zcn=(8,true):=by kernel_rfl
theorem n2:za9 zcn 5=(xN,true):=by kernel_rfl
theorem n3:nmT zcn xN=(5,true):=by kernel_rfl
theorem n4:zay sysN=(0,false):=by kernel_rfl
theorem n5:edT zcn xM=[eN]:=by kernel_rfl
theorem n6:(zcf zcn).length=4:=by kernel_rfl
theorem mem1 {α:Type} {x y:α} (h:x ∈ [y]):x=y:=by simpa using h
theorem form0_lb:form0.lb:=(za5.lb_eq _).2 ⟨⟨⟨zf6,fun p hp=>(by cases hp)⟩,Nat.zero_le _⟩,fun g hg=>(by cases hg)⟩
theorem few19:zba 3 zcn=true:=by kernel_rfl
theorem sys19_rd:SysRd zcn:=⟨form0_lb,fun b hb=>by rw [mem1 hb];exact ⟨zf6,ZI.lb_of 3⟩,fun c hc=>by
 rw [mem1 hc]
 exact ⟨form0_lb,fun m hm=>by rw [mem1 hm];exact ⟨ZI.lb_of 1,fun p hp=>by rw [mem1 hp];exact ZI.lb_of 1⟩⟩,by decide,fun c hc=>by rw [mem1 hc];decide⟩
theorem zfk:zb4 3 zcn:=few_sys few19 sys19_rd
theorem prc19:zc9 zcn:=fun p hp=>by rw [mem1 hp];decide
theorem fewN:zba 3 sysN=true:=by kernel_rfl
theorem sysN_ok:zb4 3 sysN:=few_sys fewN ⟨form0_lb,fun b hb=>(by cases hb),fun c hc=>(by cases hc),(by decide),fun c hc=>(by cases hc)⟩
theorem prcN:zc9 sysN:=fun p hp=>by cases hp
theorem xN_ok:zcx 6 xN:=⟨by decide,by decide,fun z hz=>by rw [mem1 hz];exact ⟨ZI.lb_of 1,by decide⟩⟩
theorem xM_ok:zcx 6 xM:=⟨by decide,by decide,fun z hz=>by rw [mem1 hz];exact ⟨ZI.lb_of 2,by decide⟩⟩
theorem SSys19_0 :Fn Tryz.prog 24 [] [] (vG [.d (.sl 1 ([(⟨#[120]⟩:ByteArray)].map zcz)),.d (.sl 5 ([(zan.mk true (ZI.mk false []) (ZI.of 3))].map zan.d)),cI 0,cPs [],cB false,.d (nsl []),cB false,cFs [],.d (.sl 3 ([(zaw.mk (⟨#[112]⟩:ByteArray) [(⟨#[97]⟩:ByteArray),(⟨#[98]⟩:ByteArray)] (.raw za6))].map zaw.d)),.d (.sl 10 [[.raw (.int .i64 0),.raw (.int .i64 0),.raw (.int .i64 1),.raw (.int .i64 0),.raw za6,.raw (.bool false),nsl [],.raw (.bool false),.raw za6,.sl 5 ([(zab.mk 0 false (zfg.mk [(zbb.mk 0 (ZI.of 1))] (ZI.of 1)))].map zab.d)]])]) []:=by
 refine Fn.body Tryz.func24 rfl 20 rfl fun w H B a h=>Jq 0 [] [(0,vp 0 0)] [(0,.box [.d (.raw za6),.d (.raw za6),cI 0,.d (.raw za6),cB false,.d (nsl []),cB false,.d (.raw za6),.d (.raw za6),.d (.raw za6)])] h fun a w h=>Jd 1 [(0,.call (SROf 1 ⟨by decide,by decide⟩) tc_0),(2,.g (bD 4 ([(zbb.mk 0 (ZI.of 1))].map zbb.d) [(3,vG ([cI 0]++zi (ZI.of 1)))] tb_9 (.cons (i:=0) (OV.tmp 3 _) (.nil)) (by kernel_rfl) (by simp [zbb.d]))),(3,.call (SROf 1 ⟨by decide,by decide⟩) tc_0)] [] [(1,vp 1 0)] [(0,.box [.d (.raw za6),.d (.raw za6),cI 0,.d (.raw za6),cB false,.d (nsl []),cB false,.d (.raw za6),.d (.raw za6),.d (.raw za6)]),(1,.box ([cPs [(zbb.mk 0 (ZI.of 1))]]++zi (ZI.of 1)))] h fun a w h=>Jd 2 [(0,.g (Op.buildD (d:=7) (len:=1) (rows:=[(⟨#[120]⟩:ByteArray)].map zcz) (rs:=[]) ty_16 (.cons (i:=0) (OV.const (.string (⟨#[120]⟩:ByteArray)) rfl) (.nil)) (by kernel_rfl) rfl (by simp [zcz]) (by decide) (by decide))),(1,.call (SROf 3 ⟨by decide,by decide⟩) tc_0),(3,.g (bD 10 ([(zan.mk true (ZI.mk false []) (ZI.of 3))].map zan.d) [(9,vG ([cB true,cB false,.d (nsl [])]++zi (ZI.of 3)))] ol1_3 (.cons (i:=0) (OV.tmp 9 _) (.nil)) (by kernel_rfl) (by simp [zan.d]))),(4,.g (Op.buildD (d:=11) (len:=2) (rows:=[(⟨#[97]⟩:ByteArray),(⟨#[98]⟩:ByteArray)].map zcz) (rs:=[]) ty_16 (.cons (i:=0) (OV.const (.string (⟨#[97]⟩:ByteArray)) rfl) (.cons (i:=1) (OV.const (.string (⟨#[98]⟩:ByteArray)) rfl) (.nil))) (by kernel_rfl) rfl (by simp [zcz]) (by decide) (by decide))),(6,.g (bD 13 ([(zaw.mk (⟨#[112]⟩:ByteArray) [(⟨#[97]⟩:ByteArray),(⟨#[98]⟩:ByteArray)] (.raw za6))].map zaw.d) [(12,vG [.d (.raw (.string (⟨#[112]⟩:ByteArray))),.d (.sl 1 ([(⟨#[97]⟩:ByteArray),(⟨#[98]⟩:ByteArray)].map zcz)),.d (.raw za6)])] ol1_4 (.cons (i:=0) (OV.tmp 12 _) (.nil)) (by kernel_rfl) (by simp [zaw.d]))),(9,.g (bD 16 ([(zab.mk 0 false (zfg.mk [(zbb.mk 0 (ZI.of 1))] (ZI.of 1)))].map zab.d) [(15,vG ([cI 0,cB false,cPs [(zbb.mk 0 (ZI.of 1))]]++zi (ZI.of 1)))] ol1_5 (.cons (i:=0) (OV.tmp 15 _) (.nil)) (by kernel_rfl) (by simp [zab.d]))),(11,.g (bD 18 ([[.raw (.int .i64 0),.raw (.int .i64 0),.raw (.int .i64 1),.raw (.int .i64 0),.raw za6,.raw (.bool false),nsl [],.raw (.bool false),.raw za6,.sl 5 ([(zab.mk 0 false (zfg.mk [(zbb.mk 0 (ZI.of 1))] (ZI.of 1)))].map zab.d)]]) [(17,vG [cI 0,cI 0,cI 1,cI 0,.d (.raw za6),cB false,.d (nsl []),cB false,.d (.raw za6),.d (.sl 5 ([(zab.mk 0 false (zfg.mk [(zbb.mk 0 (ZI.of 1))] (ZI.of 1)))].map zab.d))])] ol1_6 (.cons (i:=0) (OV.tmp 17 _) (.nil)) (by kernel_rfl) (by simp)))] [1] [] [(0,.box [.d (.sl 1 ([(⟨#[120]⟩:ByteArray)].map zcz)),.d (.sl 5 ([(zan.mk true (ZI.mk false []) (ZI.of 3))].map zan.d)),cI 0,.d (.raw za6),cB false,.d (nsl []),cB false,.d (.raw za6),.d (.sl 3 ([(zaw.mk (⟨#[112]⟩:ByteArray) [(⟨#[97]⟩:ByteArray),(⟨#[98]⟩:ByteArray)] (.raw za6))].map zaw.d)),.d (.sl 10 [[.raw (.int .i64 0),.raw (.int .i64 0),.raw (.int .i64 1),.raw (.int .i64 0),.raw za6,.raw (.bool false),nsl [],.raw (.bool false),.raw za6,.sl 5 ([(zab.mk 0 false (zfg.mk [(zbb.mk 0 (ZI.of 1))] (ZI.of 1)))].map zab.d)]])])] h fun a w h=>qV ?_
 replace h:=zbd 0 3 3 [.d (.sl 1 ([(⟨#[120]⟩:ByteArray)].map zcz)),.d (.sl 5 ([(zan.mk true (ZI.mk false []) (ZI.of 3))].map zan.d)),cI 0,.d (.raw za6),cB false,.d (nsl []),cB false,.d (.raw za6),.d (.sl 3 ([(zaw.mk (⟨#[112]⟩:ByteArray) [(⟨#[97]⟩:ByteArray),(⟨#[98]⟩:ByteArray)] (.raw za6))].map zaw.d)),.d (.sl 10 [[.raw (.int .i64 0),.raw (.int .i64 0),.raw (.int .i64 1),.raw (.int .i64 0),.raw za6,.raw (.bool false),nsl [],.raw (.bool false),.raw za6,.sl 5 ([(zab.mk 0 false (zfg.mk [(zbb.mk 0 (ZI.of 1))] (ZI.of 1)))].map zab.d)]])] [(0,vp 0 0)] [(0,.box [.d (.sl 1 ([(⟨#[120]⟩:ByteArray)].map zcz)),.d (.sl 5 ([(zan.mk true (ZI.mk false []) (ZI.of 3))].map zan.d)),cI 0,cPs [],cB false,.d (nsl []),cB false,.d (.raw za6),.d (.sl 3 ([(zaw.mk (⟨#[112]⟩:ByteArray) [(⟨#[97]⟩:ByteArray),(⟨#[98]⟩:ByteArray)] (.raw za6))].map zaw.d)),.d (.sl 10 [[.raw (.int .i64 0),.raw (.int .i64 0),.raw (.int .i64 1),.raw (.int .i64 0),.raw za6,.raw (.bool false),nsl [],.raw (.bool false),.raw za6,.sl 5 ([(zab.mk 0 false (zfg.mk [(zbb.mk 0 (ZI.of 1))] (ZI.of 1)))].map zab.d)]])])] h rfl rfl;replace h:=zbd 0 7 6 [.d (.sl 1 ([(⟨#[120]⟩:ByteArray)].map zcz)),.d (.sl 5 ([(zan.mk true (ZI.mk false []) (ZI.of 3))].map zan.d)),cI 0,cPs [],cB false,.d (nsl []),cB false,.d (.raw za6),.d (.sl 3 ([(zaw.mk (⟨#[112]⟩:ByteArray) [(⟨#[97]⟩:ByteArray),(⟨#[98]⟩:ByteArray)] (.raw za6))].map zaw.d)),.d (.sl 10 [[.raw (.int .i64 0),.raw (.int .i64 0),.raw (.int .i64 1),.raw (.int .i64 0),.raw za6,.raw (.bool false),nsl [],.raw (.bool false),.raw za6,.sl 5 ([(zab.mk 0 false (zfg.mk [(zbb.mk 0 (ZI.of 1))] (ZI.of 1)))].map zab.d)]])] [(0,vp 0 0)] [(0,.box [.d (.sl 1 ([(⟨#[120]⟩:ByteArray)].map zcz)),.d (.sl 5 ([(zan.mk true (ZI.mk false []) (ZI.of 3))].map zan.d)),cI 0,cPs [],cB false,.d (nsl []),cB false,cFs [],.d (.sl 3 ([(zaw.mk (⟨#[112]⟩:ByteArray) [(⟨#[97]⟩:ByteArray),(⟨#[98]⟩:ByteArray)] (.raw za6))].map zaw.d)),.d (.sl 10 [[.raw (.int .i64 0),.raw (.int .i64 0),.raw (.int .i64 1),.raw (.int .i64 0),.raw za6,.raw (.bool false),nsl [],.raw (.bool false),.raw za6,.sl 5 ([(zab.mk 0 false (zfg.mk [(zbb.mk 0 (ZI.of 1))] (ZI.of 1)))].map zab.d)]])])] h rfl rfl;refine rA 0 [.d (.sl 1 ([(⟨#[120]⟩:ByteArray)].map zcz)),.d (.sl 5 ([(zan.mk true (ZI.mk false []) (ZI.of 3))].map zan.d)),cI 0,cPs [],cB false,.d (nsl []),cB false,cFs [],.d (.sl 3 ([(zaw.mk (⟨#[112]⟩:ByteArray) [(⟨#[97]⟩:ByteArray),(⟨#[98]⟩:ByteArray)] (.raw za6))].map zaw.d)),.d (.sl 10 [[.raw (.int .i64 0),.raw (.int .i64 0),.raw (.int .i64 1),.raw (.int .i64 0),.raw za6,.raw (.bool false),nsl [],.raw (.bool false),.raw za6,.sl 5 ([(zab.mk 0 false (zfg.mk [(zbb.mk 0 (ZI.of 1))] (ZI.of 1)))].map zab.d)]])] h ol1_7 rfl ?_;rfl
theorem SSys19:Fn Tryz.prog 24 [] [] (vG (zae zcn)) []:=by
 refine Fn.resw SSys19_0 (WkV.agg _ _ (.same _ _ _ (.same _ _ _ (.same _ _ _ (.same _ _ _ (.same _ _ _ (.same _ _ _ (.same _ _ _ (.same _ _ _ (.same _ _ _ (.d _ _ _ _ ?_ .nil)))))))))))
 refine Wk.sl _ _ _ (.cons _ _ _ _ ?_ .nil)
 refine .cons _ _ _ _ (.refl _) (.cons _ _ _ _ (.refl _) (.cons _ _ _ _ (.refl _) (.cons _ _ _ _ (.refl _) (.cons _ _ _ _ (.nil _) (.cons _ _ _ _ (.refl _) (.cons _ _ _ _ (.refl _) (.cons _ _ _ _ (.refl _) (.cons _ _ _ _ (.nil _) (.cons _ _ _ _ (.refl _) .nil)))))))))
theorem wkN:WkV (.t (.agg [.d (.sl 1 ([(⟨#[120]⟩:ByteArray)].map zcz)),.d (.raw za6),.d (.raw (.int .i64 0)),.d (.raw za6),.d (.raw (.bool false)),.d (nsl []),.d (.raw (.bool false)),.d (.raw za6),.d (.raw za6),.d (.raw za6)])) (.t (.agg (zae sysN))):=by
 refine WkV.agg _ _ ?_
 repeat (first | exact WkC.nil | refine WkC.d _ _ _ _ (by first | exact Wk.refl _ | exact Wk.nil _) ?_ | refine WkC.same _ _ _ ?_)
theorem Snumbering :Fn Tryz.prog 6 [] [] (vb true) []:=by
 refine Fn.body Tryz.func6 rfl 102 rfl fun w H B a h=>Jq 0 [] [(0,vb false)] [] h fun a w h=>Jd 0 [(0,.call (SSys19) ol1_8)] [] [(1,vp 0 0)] [(0,.box (zae zcn))] h fun a w h=>Je 1 [(1,.call (Fn.cast (OCount zcn zfk (by decide) prc19) (show (.tup [.c (cI (zay zcn).1),.c (cB (zay zcn).2)]:V) = .tup [.c (cI 8),.c (cB true)] from by rw [n1])) od1_0)] [] [(2,vI 8),(3,vb true)] h fun a w h=>Jd 1 [(1,.call (Fn.cast (OState zcn 5 zfk (by decide) prc19) (show (.tup [.agg [cIs (za9 zcn 5).1.locs,cZs (za9 zcn 5).1.vals],.c (cB (za9 zcn 5).2)]:V) = .tup [.agg [cIs xN.locs,cZs xN.vals],.c (cB true)] from by rw [n2])) of1_8)] [] [(4,vp 1 0),(5,vb true)] [(0,.box (zae zcn)),(1,.box [cIs xN.locs,cZs xN.vals])] h fun a w h=>Je 2 [(2,.call (Fn.cast (ONumber zcn xN (L:=3) (M:=6) zfk (by decide) prc19 (by decide) xN_ok) (show (.tup [.c (cI (nmT zcn xN).1),.c (cB (nmT zcn xN).2)]:V) = .tup [.c (cI 5),.c (cB true)] from by rw [n3])) ol1_11)] [] [(6,vI 5),(7,vb true)] h fun a w h=>Je 2 [(0,.g (Op.buildD (d:=29) (len:=1) (rows:=[(⟨#[120]⟩:ByteArray)].map zcz) (rs:=[]) ty_16 (.cons (i:=0) (OV.const (.string (⟨#[120]⟩:ByteArray)) rfl) (.nil)) (by kernel_rfl) rfl (by simp [zcz]) (by decide) (by decide))),(2,.call (Fn.argw (Fn.cast (OCount sysN sysN_ok (by decide) prcN) (show (.tup [.c (cI (zay sysN).1),.c (cB (zay sysN).2)]:V) = .tup [.c (cI 0),.c (cB false)] from by rw [n4])) (.cons _ _ _ _ wkN .nil)) od1_0)] [] [(9,vb false)] h fun a w h=>Je 2 [(1,.g (Op.buildD (d:=35) (len:=1) (rows:=[0].map za8) (rs:=[]) tb_0 (.cons (i:=0) (OV.const (.int .i64 0) rfl) (.nil)) (by kernel_rfl) rfl (by simp [za8]) (by decide) (by decide))),(2,.call (SROf 2 ⟨by decide,by decide⟩) tc_0),(3,.g (bD 37 ([(ZI.of 2)].map ziD) [(36,vz (ZI.of 2))] kk_3 (.cons (i:=0) (OV.tmp 36 _) (.nil)) (by kernel_rfl) (by simp [ziD]))),(5,.call ((show Fn _ _ _ [_,vG [cIs [0],cZs [(ZI.of 2)]]] _ _ from Fn.cast (OEdges zcn xM (L:=3) (M:=6) zfk (by decide) prc19 (by decide) (by decide) xM_ok) (show (vS 3 ((edT zcn xM).map zaf.d):V) = .t (.c (.d (.sl 3 ([eN].map zaf.d)))) from by rw [n5]))) ol1_14)] [] [(10,vS 3 ([eN].map zaf.d))] h fun a w h=>Jq 2 [(3,.cmp (op:=.eql) (m:=8) (n:=8) (b:=true) .i64 (show ((8:Int) == 8)=true from by decide)),(11,.g (xD 51 50 zee (zaa (show xN.locs[0]?=some (1:Int) from rfl) (f:=za8)) (OV.const (.int .i64 0) rfl))),(13,.cmp (op:=.eql) (m:=1) (n:=1) (b:=true) .i64 (show ((1:Int) == 1)=true from by decide)),(18,.g (xD 58 57 zff (zaa (show xN.vals[0]?=some (ZI.of 1) from rfl) (f:=ziD)) (OV.const (.int .i64 0) rfl))),(20,.call (SROf 1 ⟨by decide,by decide⟩) tc_0),(21,.call (SSame7 (ZI.of 1) (ZI.lb_of 1)) td_0),(28,.cmp (op:=.eql) (m:=5) (n:=5) (b:=true) .i64 (show ((5:Int) == 5)=true from by decide)),(36,.call (OFirsts zcn zfk (by decide) prc19) ol1_18),(37,.len (za2 2 StD.d (zcf zcn))),(38,.cmp (op:=.eql) (m:=((zcf zcn).length:Int)) (n:=4) (b:=true) .i64 (by rw [n6];rfl)),(42,.len (za2 3 zaf.d ([eN]))),(43,.cmp (op:=.eql) (m:=([eN].length:Int)) (n:=1) (b:=true) .i64 (show (([eN].length:Int) == 1)=true from by decide)),(47,.g (xD 87 86 ol1_19 (zaa (show [eN][0]?=some eN from rfl) (f:=zaf.d)) (OV.const (.int .i64 0) rfl))),(50,.cmp (op:=.eql) (m:=eN.act) (n:=0) (b:=true) .i64 (show (eN.act == 0)=true from by decide)),(54,.g (xD 94 93 ol1_19 (zaa (show [eN][0]?=some eN from rfl) (f:=zaf.d)) (OV.const (.int .i64 0) rfl))),(58,.g (xD 98 97 zee (zaa (show eN.to_.locs[0]?=some (1:Int) from rfl) (f:=za8)) (OV.const (.int .i64 0) rfl))),(60,.cmp (op:=.eql) (m:=1) (n:=1) (b:=true) .i64 (show ((1:Int) == 1)=true from by decide))] [(0,vb true)] [] h fun a w h=>qV (rT (.c (cB true)) h rfl ?_)
 rfl
def ze7 (s:zaj) (most:Int):Bool:=zba 3 s && (!(zay s).2 || decide ((zay s).1<=most))
theorem Ssmall (s:zaj) (most:Int) (hr:SysRd s) (hp:zc9 s):Fn Tryz.prog 7 [] [.t (.agg (zae s)),vI most] (vb (ze7 s most)) []:=by
 refine Fn.body Tryz.func7 rfl 22 rfl fun w H B a h=>Jq 0 [] [(1,vI most),(2,vp 0 0),(4,vb false)] [(0,.box (zae s))] h fun a w h=>qW (Je 1 [(1,.call (SFewSys s 3 hr) ol1_20)] [] [(9,vb (!(zba 3 s)))] h fun a w h=>cS (!(zba 3 s)) h (fun hc1=>?_) (fun hc2=>?_))
 ·have hc1':=hc1;(try simp at hc1');refine Je 1 [] [9] [] h fun a w h=>qV (za1 (rT (.c (.d (.raw (.bool false)))) h rfl ?_));rw [show ze7 s most=false by unfold ze7;rw [(show (zba 3 s)=false from by simpa using hc1)];rfl];rfl
 have hc2':=hc2;(try simp at hc2');refine qU (za0 (Jd 1 [(1,.call (ORCount s (few_sys (show (zba 3 s)=true from by simpa using hc2) hr) (by decide) hp) oe1_0)] [2,9] [(5,vI (zay s).1),(6,vb (zay s).2)] [] h fun a w h=>?_))
 rcases Bool.eq_false_or_eq_true (zay s).2 with hc3 | hc4
 ·rw [hc3] at h;refine Jq 1 [] [(4,vb (decide ((zay s).1<=most)))] [] h fun a w h=>qV (rT (.c (.d (.raw (.bool (decide ((zay s).1<=most)))))) h rfl ?_);rw [show ze7 s most=decide ((zay s).1<=most) by unfold ze7;rw [(show (zba 3 s)=true from by simpa using hc2),hc3];rfl];rfl
 rw [hc4] at h;refine Jq 1 [] [(4,vb true)] [] h fun a w h=>qV (rT (.c (.d (.raw (.bool true)))) h rfl ?_);rw [show ze7 s most=true by unfold ze7;rw [(show (zba 3 s)=true from by simpa using hc2),hc4];rfl];rfl
theorem om1_0:za3 Tryz.prog 6:=za3.mk' (by kernel_rfl)
theorem om1_1:za3 Tryz.prog 7:=za3.mk' (by kernel_rfl)
theorem om1_3:za3 Tryz.prog 9:=za3.mk' (by kernel_rfl)
theorem flt_at {α:Type} {p:α->Bool}:∀ {xs:List α} {j:Nat} {x:α}, xs[j]?=some x->p x=true->(xs.filter p)[((xs.take j).filter p).length]?=some x
 | [],j,x,h,_=>by cases h
 | y :: ys,0,x,h,hp=>by
  have h:y=x:=by simpa using h
  subst h
  rw [List.filter_cons_of_pos hp];rfl
 | y :: ys,j+1,x,h,hp=>by
  have ih:=flt_at (xs:=ys) (j:=j) (x:=x) (by simpa using h) hp
  rw [List.take_succ_cons]
  cases hy:p y with
  | true=>rw [List.filter_cons_of_pos hy,List.filter_cons_of_pos hy,List.length_cons,List.getElem?_cons_succ];exact ih
  | false=>rw [List.filter_cons_of_neg (by rw [hy];exact Bool.noConfusion),List.filter_cons_of_neg (by rw [hy];exact Bool.noConfusion)];exact ih
theorem flt_yes {α:Type} {p:α->Bool} {xs:List α} {j:Nat} {x:α} (h:xs[j]?=some x) (hp:p x=true):((xs.take (j+1)).filter p).length=((xs.take j).filter p).length+1:=by
 rw [List.take_add_one,h,List.filter_append,List.length_append];simp [hp]
theorem flt_no {α:Type} {p:α->Bool} {xs:List α} {j:Nat} {x:α} (h:xs[j]?=some x) (hp:p x=false):((xs.take (j+1)).filter p).length=((xs.take j).filter p).length:=by
 rw [List.take_add_one,h,List.filter_append,List.length_append];simp [hp]
theorem all_len (s:zaj):(zap s).length=cN s:=by unfold zap;rw [List.length_map,List.length_range]
theorem all_at {s:zaj} {j:Nat} {x:StD} (h:(zap s)[j]?=some x):j<cN s/\x=stI s j:=by
 have h1:=zak h
 rw [all_len] at h1
 unfold zap at h
 rw [List.getElem?_map,List.getElem?_range h1] at h
 exact ⟨h1,by injection h with h;exact h.symm⟩
theorem cN_int {s:zaj} {j:Nat} (h:j<cN s):(j:Int)<(zay s).1:=by unfold cN at h;omega
theorem all_ok {s:zaj} {L:Nat} (hs:zb4 L s) (hp:zc9 s) {j:Nat} {x:StD} (h:(zap s)[j]?=some x):zcx (L+3) x:=by
 obtain ⟨h1,rfl⟩:=all_at h
 have h2:=cN_int h1
 exact stN_ok hs hp ⟨cnt_pos (by omega),by omega,h2⟩
theorem fst_at {s:zaj} {j:Nat} {x:StD} (h:(zap s)[j]?=some x) (hf:first s x=true):(zcf s)[(((zap s).take j).filter (first s)).length]?=some x:=flt_at h hf
theorem st19_yes {s:zaj} {n:Int} (h:(za9 s n).2=true):(zay s).2=true/\0<=n/\n<(zay s).1/\(za9 s n).1=stN s n:=by
 unfold za9 at h ⊢
 split at h
 ·rename_i hh;rw [if_pos hh];exact ⟨hh.1,hh.2.1,hh.2.2,rfl⟩
 ·cases h
theorem st19_ok {s:zaj} {L:Nat} (hs:zb4 L s) (hp:zc9 s) (n:Int):zcx (L+3) (za9 s n).1:=by
 cases h:(za9 s n).2 with
 | true=>obtain ⟨h1,h2,h3,h4⟩:=st19_yes h;rw [h4];exact stN_ok hs hp ⟨h1,h2,h3⟩
 | false =>
  unfold za9 at h ⊢
  split at h
  ·cases h
  ·rename_i hh;rw [if_neg hh];exact ⟨by show 0<=10;decide,by show 0<=10;decide,fun z hz=>by cases hz⟩
theorem st19_can (s:zaj) (n:Int):CanS (za9 s n).1:=by
 unfold za9
 split
 ·exact can_stN s n
 ·exact fun z hz=>by cases hz
theorem st19_fit {s:zaj} (hp:zc9 s) {n:Int} (h:(za9 s n).2=true):zb2 s (za9 s n).1=true:=by
 obtain ⟨h1,h2,h3,h4⟩:=st19_yes h;rw [h4];exact fit_stN hp h1 h2 h3
theorem ed_ok {s:zaj} {L:Nat} (hs:zb4 L s) (hp:zc9 s) {x:StD} (hx:CanS x) {j:Nat} {e:zaf} (he:(edT s x)[j]?=some e):zcx (L+3) e.to_:=by
 have hm:=List.mem_of_getElem? he
 have hc:(zay s).2=true:=by
  unfold edT at hm
  split at hm
  ·rename_i hh;exact hh.1
  ·cases hm
 obtain ⟨k,hk,e1,_⟩:=ed_each hc hx hm
 rw [e1]
 have h2:=cN_int hk
 exact stN_ok hs hp ⟨hc,by omega,h2⟩
theorem ed_fits {s:zaj} {x:StD} (h:¬ (((edT s x).length:Int) == 0)=true):zb2 s x=true:=by
 unfold edT at h
 split at h
 ·rename_i hh;exact hh.2
 ·exact absurd rfl h
theorem met_yes {es:List zaf} {j:Nat} {e:zaf} {a:Int} {y:StD} (h:es[j]?=some e) (h1:(e.act == a)=true) (h2:zbu e.to_ y=true):met (es.take (j+1)) a y=met (es.take j) a y+1:=flt_yes h (by unfold isE;rw [h1,h2];rfl)
theorem met_no {es:List zaf} {j:Nat} {e:zaf} {a:Int} {y:StD} (h:es[j]?=some e) (h1:(e.act == a)=false\/zbu e.to_ y=false):met (es.take (j+1)) a y=met (es.take j) a y:=flt_no h (by unfold isE;rcases h1 with h1 | h1 <;> rw [h1];rfl;exact Bool.and_false _)
theorem met_le (es:List zaf) (a:Int) (y:StD):met es a y<=es.length:=List.length_filter_le _ _
theorem metA_le (es:List zaf) (y:StD):∀ n,zc2 es y n<=n*es.length
 | 0=>Nat.zero_le _
 | n+1=>by show zc2 es y n+met es _ y<=_;rw [Nat.succ_mul];have:=metA_le es y n;have:=met_le es ((n:Int) - 1) y;omega
theorem metT_le (es:List zaf) (s:zaj) (n:Nat):∀ m,zc1 es s m n<=m*(n*es.length)
 | 0=>Nat.zero_le _
 | m+1=>by show zc1 es s m n+zc2 es (stI s m) n<=_;rw [Nat.succ_mul];have:=metT_le es s n m;have:=metA_le es (stI s m) n;omega
theorem ed_len {s:zaj} {L:Nat} (hs:zb4 L s) (x:StD):(edT s x).length<=22020096:=by
 unfold edT
 split
 ·rename_i hh
  rw [List.length_append]
  have h1:=egN_len hs hh.1 hh.2 s.acts.length
  have h2:=egP_len s x (-1) [[]]
  have h3:=hs.acts
  have h4:s.acts.length*1048576<=20*1048576:=Nat.mul_le_mul_right _ h3
  have h5:([[]]:List (List ZI)).length=1:=rfl
  omega
 ·exact Nat.zero_le _
theorem SConfineEdges (s:zaj) (n:Int) (hr:SysRd s) (hp:zc9 s):Fn Tryz.prog 3 [] [.t (.agg (zae s)),vI n] (vb true) []:=by
 refine Fn.body Tryz.func3 rfl 141 rfl fun w H B a h=>?_
 refine Jq 4 [] [(1,vI n),(2,vp 4 0),(4,vb false)] [(4,.box (zae s))] h fun a w h=>?_;refine qW (Jp 5 [(0,.call (Snumbering) om1_0)] [(1,vI n),(2,vp 4 0),(4,vb false),(21,vb false)] h fun a w h=>?_);refine zbj false h rfl nofun (fun _=>?_)
 refine qU (za0 (qW (Jp 5 [(1,.call (Ssmall s 40 hr hp) om1_1)] [(1,vI n),(2,vp 4 0),(4,vb false),(24,vb (!(ze7 s 40)))] h fun a w h=>?_)));refine cS (!(ze7 s 40)) h (fun hc1=>?_) (fun hc2=>?_)
 ·have hc1':=hc1;(try simp at hc1');refine Jp 5 [] [(1,vI n),(2,vp 4 0),(4,vb true)] h fun a w h=>?_;refine qV (za1 ?_);refine rT (.c (.d (.raw (.bool true)))) h rfl ?_;rfl
 have hc2':=hc2;(try simp at hc2');refine qU (za0 ?_);have hsm:=(show (ze7 s 40)=true from by simpa using hc2);have hs:zb4 3 s:=few_sys (by unfold ze7 at hsm;rw [Bool.and_eq_true] at hsm;exact hsm.1) hr;have lall:=all_len s;have lcn:=cN_le s;have lac:=hs.acts;refine Jp 5 [(1,.call (OFirsts s hs (by decide) hp) ol1_18)] [(1,vI n),(2,vp 4 0),(4,vb false),(5,.t (.c (.d (.sl 2 ((zcf s).map StD.d)))))] h fun a w h=>?_;refine Jp 5 [] [(1,vI n),(2,vp 4 0),(4,vb false),(5,.t (.c (.d (.sl 2 ((zcf s).map StD.d))))),(6,vI 0)] h fun a w h=>?_;refine qW (Jp 5 [(1,.call (ORAll s hs (by decide) hp) om1_3),(2,.len (za2 2 StD.d (zap s)))] [(1,vI n),(2,vp 4 0),(4,vb false),(5,.t (.c (.d (.sl 2 ((zcf s).map StD.d))))),(6,vI 0),(28,.t (.c (.d (.sl 2 ((zap s).map StD.d))))),(29,vI ((zap s).length:Int)),(30,vI 0)] h fun a w h=>?_);refine qZ ?_
 refine zav (ι:=(Nat)) (fun j=>j<=(zap s).length)
   (fun j=>[(1,vI n),(2,vp 4 0),(5,.t (.c (.d (.sl 2 ((zcf s).map StD.d))))),(6,vI ((((zap s).take j).filter (first s)).length:Int)),(28,.t (.c (.d (.sl 2 ((zap s).map StD.d))))),(29,vI ((zap s).length:Int)),(30,vN j)])
   (fun j=>[(4,.box (zae s))])
   (fun j=>(zap s).length - j) 0 ?_ h (by kernel_rfl) (by kernel_rfl) ?_
 ·exact Nat.zero_le _
 clear h;rintro j a w hI h;have lkn:(((zap s).take j).filter (first s)).length<=j:=Nat.le_trans (List.length_filter_le _ _) (by rw [List.length_take];omega);refine Jp 5 [] [(1,vI n),(2,vp 4 0),(5,.t (.c (.d (.sl 2 ((zcf s).map StD.d))))),(6,vI ((((zap s).take j).filter (first s)).length:Int)),(28,.t (.c (.d (.sl 2 ((zap s).map StD.d))))),(29,vI ((zap s).length:Int)),(30,vN j),(31,vb (decide ((j:Int)<((zap s).length:Int))))] h fun a w h=>?_;refine qW ?_;refine zao ((j:Int)<((zap s).length:Int)) h (fun hc3 hc3'=>?_) (fun hc6 hc6'=>?_)
 ·refine qU (za0 (qW (qZ ?_)));obtain ⟨x5,hx5⟩:=gl (zap s) j;have gx5:=all_ok hs hp hx5;refine Jq 5 [(0,.g (xD 32 28 kn_0 (zaa hx5 (f:=StD.d)) (OV.tmp 30 _)))] [(1,vI n),(2,vp 4 0),(5,.t (.c (.d (.sl 2 ((zcf s).map StD.d))))),(6,vI ((((zap s).take j).filter (first s)).length:Int)),(8,vp 5 0),(28,.t (.c (.d (.sl 2 ((zap s).map StD.d))))),(29,vI ((zap s).length:Int)),(30,vN j)] [(4,.box (zae s)),(5,.box [.d (.sl 1 (x5.locs.map za8)),.d (.sl 2 (x5.vals.map ziD))])] h fun a w h=>?_;refine Jp 6 [(2,.call (SRFirst s x5 (L:=3) (M:=6) (by decide) hs gx5) ks_3)] [(1,vI n),(2,vp 4 0),(5,.t (.c (.d (.sl 2 ((zcf s).map StD.d))))),(6,vI ((((zap s).take j).filter (first s)).length:Int)),(8,vp 5 0),(28,.t (.c (.d (.sl 2 ((zap s).map StD.d))))),(29,vI ((zap s).length:Int)),(30,vN j),(36,vb (first s x5))] h fun a w h=>?_;refine cS (first s x5) h (fun hc4=>?_) (fun hc5=>?_)
  ·refine qW (Jq 6 [(2,.len (za2 2 StD.d (zcf s))),(3,.cmp (op:=.geq) (m:=((((zap s).take j).filter (first s)).length:Int)) (n:=((zcf s).length:Int)) (b:=false) .i64 (decide_eq_false (by have:=zak (fst_at hx5 hc4);omega))),(7,.g (xD 44 42 kn_0 (zaa (fst_at hx5 hc4) (f:=StD.d)) (OV.tmp 43 _))),(10,.call (Fn.cast (zhd x5 x5 (M:=6) (by decide) gx5 gx5) (congrArg vb (zfp x5))) kr_9)] [(1,vI n),(2,vp 4 0),(5,.t (.c (.d (.sl 2 ((zcf s).map StD.d))))),(6,vI ((((zap s).take j).filter (first s)).length:Int)),(28,.t (.c (.d (.sl 2 ((zap s).map StD.d))))),(29,vI ((zap s).length:Int)),(30,vN j),(49,vb false)] [(4,.box (zae s))] h fun a w h=>?_);refine zbj false h rfl nofun (fun _=>?_)
   refine qU (za0 (Jl 6 [(1,.add .i64 (m:=((((zap s).take j).filter (first s)).length:Int)) (n:=1) i6)] [(1,vI n),(2,vp 4 0),(5,.t (.c (.d (.sl 2 ((zcf s).map StD.d))))),(6,vI (((((zap s).take j).filter (first s)).length:Int)+1)),(28,.t (.c (.d (.sl 2 ((zap s).map StD.d))))),(29,vI ((zap s).length:Int)),(30,vN j)] h fun a w h=>?_));refine zac (za0 (Jl 6 [(0,.j1 j)] [(1,vI n),(2,vp 4 0),(5,.t (.c (.d (.sl 2 ((zcf s).map StD.d))))),(6,vI (((((zap s).take j).filter (first s)).length:Int)+1)),(28,.t (.c (.d (.sl 2 ((zap s).map StD.d))))),(29,vI ((zap s).length:Int)),(30,vI ((j:Int)+1))] h fun a w h=>?_));refine za0 ?_;replace h:=h.conv (f':=F.of [(1,vI n),(2,vp 4 0),(5,.t (.c (.d (.sl 2 ((zcf s).map StD.d))))),(6,vI ((((zap s).take (j+1)).filter (first s)).length:Int)),(28,.t (.c (.d (.sl 2 ((zap s).map StD.d))))),(29,vI ((zap s).length:Int)),(30,vI ((j:Int)+1))] [(4,.box (zae s))]) (by rw [show (((((zap s).take j).filter (first s)).length:Int)+1:Int)=((((zap s).take (j+1)).filter (first s)).length:Int) from (by rw [flt_yes hx5 hc4];rfl)]);refine zah (x:=j) (y:=j+1) h ?_ ?_
   ·have:=zak hx5;show j+1<=(zap s).length;omega
   show (zap s).length - (j+1)<(zap s).length - j;have:=zak hx5;omega
  refine qU (zac (za0 (Jn 6 [(0,.j1 j)] [(1,vI n),(2,vp 4 0),(5,.t (.c (.d (.sl 2 ((zcf s).map StD.d))))),(6,vI ((((zap s).take j).filter (first s)).length:Int)),(28,.t (.c (.d (.sl 2 ((zap s).map StD.d))))),(29,vI ((zap s).length:Int)),(30,vI ((j:Int)+1))] [(4,.box (zae s))] h fun a w h=>?_)));refine za0 ?_;replace h:=h.conv (f':=F.of [(1,vI n),(2,vp 4 0),(5,.t (.c (.d (.sl 2 ((zcf s).map StD.d))))),(6,vI ((((zap s).take (j+1)).filter (first s)).length:Int)),(28,.t (.c (.d (.sl 2 ((zap s).map StD.d))))),(29,vI ((zap s).length:Int)),(30,vI ((j:Int)+1))] [(4,.box (zae s))]) (by rw [show (((((zap s).take j).filter (first s)).length:Int):Int)=((((zap s).take (j+1)).filter (first s)).length:Int) from (by rw [flt_no hx5 hc5])]);refine zah (x:=j) (y:=j+1) h ?_ ?_
  ·have:=zak hx5;show j+1<=(zap s).length;omega
  show (zap s).length - (j+1)<(zap s).length - j;have:=zak hx5;omega
 refine wp_exit (zad (zad (za4 (za0 ?_))));replace h:=h.conv (f':=F.of [(1,vI n),(2,vp 4 0),(5,.t (.c (.d (.sl 2 ((zcf s).map StD.d))))),(6,vI ((zcf s).length:Int)),(28,.t (.c (.d (.sl 2 ((zap s).map StD.d))))),(29,vI ((zap s).length:Int)),(30,vN j),(31,vb (decide ((j:Int)<((zap s).length:Int))))] [(4,.box (zae s))]) (by rw [show (((((zap s).take j).filter (first s)).length:Int):Int)=((zcf s).length:Int) from (by rw [List.take_of_length_le (by have:=dF hc6;omega)];rfl)]);refine Jq 6 [(2,.call (ORState s n hs (by decide) hp) of1_2)] [(2,vp 4 0),(5,.t (.c (.d (.sl 2 ((zcf s).map StD.d))))),(6,vI ((zcf s).length:Int)),(9,vp 6 0),(10,vb (za9 s n).2)] [(4,.box (zae s)),(6,.box [.d (.sl 1 ((za9 s n).1.locs.map za8)),.d (.sl 2 ((za9 s n).1.vals.map ziD))])] h fun a w h=>?_;refine Jp 7 [(2,.call (OEdges s (za9 s n).1 (L:=3) (M:=6) hs (by decide) hp (by decide) (by decide) (st19_ok hs hp n)) ol1_14)] [(2,vp 4 0),(5,.t (.c (.d (.sl 2 ((zcf s).map StD.d))))),(6,vI ((zcf s).length:Int)),(9,vp 6 0),(10,vb (za9 s n).2),(11,.t (.c (.d (.sl 3 ((edT s (za9 s n).1).map zaf.d)))))] h fun a w h=>?_;refine qW (Jp 7 [(2,.len (za2 2 StD.d (zcf s))),(3,.cmp (op:=.neq) (m:=((zcf s).length:Int)) (n:=((zcf s).length:Int)) (b:=false) .i64 (show (((zcf s).length:Int) != ((zcf s).length:Int))=false by simp))] [(2,vp 4 0),(5,.t (.c (.d (.sl 2 ((zcf s).map StD.d))))),(6,vI ((zcf s).length:Int)),(9,vp 6 0),(10,vb (za9 s n).2),(11,.t (.c (.d (.sl 3 ((edT s (za9 s n).1).map zaf.d))))),(69,vb (!(za9 s n).2))] h fun a w h=>?_);refine cS (!(za9 s n).2) h (fun hc7=>?_) (fun hc12=>?_)
 ·have hc7':=hc7;(try simp at hc7')
  rcases Bool.eq_false_or_eq_true (za9 s n).2 with hc8 | hc9
  ·rw [hc8] at h;refine Jq 7 [(2,.len (za2 2 StD.d (zcf s))),(3,.cmp (op:=.eql) (m:=((zcf s).length:Int)) (n:=((zcf s).length:Int)) (b:=true) .i64 (show (((zcf s).length:Int) == ((zcf s).length:Int))=true by simp))] [(2,vp 4 0),(4,vb true),(9,vp 6 0),(11,.t (.c (.d (.sl 3 ((edT s (za9 s n).1).map zaf.d)))))] [(4,.box (zae s)),(6,.box [.d (.sl 1 ((za9 s n).1.locs.map za8)),.d (.sl 2 ((za9 s n).1.vals.map ziD))])] h fun a w h=>?_;refine qV (za1 ?_);refine rT (.c (.d (.raw (.bool true)))) h rfl ?_;rfl
  rw [hc9] at h
  rcases Bool.eq_false_or_eq_true (((edT s (za9 s n).1).length:Int) == 0) with hc10 | hc11
  ·have hc10':=hc10;(try simp at hc10');refine Jq 7 [(2,.len (za2 2 StD.d (zcf s))),(3,.cmp (op:=.eql) (m:=((zcf s).length:Int)) (n:=((zcf s).length:Int)) (b:=true) .i64 (show (((zcf s).length:Int) == ((zcf s).length:Int))=true by simp)),(8,.len (za2 3 zaf.d (edT s (za9 s n).1))),(9,.cmp (op:=.eql) (m:=((edT s (za9 s n).1).length:Int)) (n:=0) (b:=true) .i64 hc10)] [(2,vp 4 0),(4,vb true),(9,vp 6 0),(11,.t (.c (.d (.sl 3 ((edT s (za9 s n).1).map zaf.d)))))] [(4,.box (zae s)),(6,.box [.d (.sl 1 ((za9 s n).1.locs.map za8)),.d (.sl 2 ((za9 s n).1.vals.map ziD))])] h fun a w h=>?_;refine qV (za1 ?_);refine rT (.c (.d (.raw (.bool true)))) h rfl ?_;rfl
  have hc11':=hc11;(try simp at hc11');refine Jq 7 [(2,.len (za2 2 StD.d (zcf s))),(3,.cmp (op:=.eql) (m:=((zcf s).length:Int)) (n:=((zcf s).length:Int)) (b:=true) .i64 (show (((zcf s).length:Int) == ((zcf s).length:Int))=true by simp)),(8,.len (za2 3 zaf.d (edT s (za9 s n).1))),(9,.cmp (op:=.eql) (m:=((edT s (za9 s n).1).length:Int)) (n:=0) (b:=false) .i64 hc11),(14,.call (SRFits s (za9 s n).1 (L:=3) (M:=6) (by decide) hs (st19_ok hs hp n)) kh_6)] [(2,vp 4 0),(4,vb (zb2 s (za9 s n).1)),(9,vp 6 0),(11,.t (.c (.d (.sl 3 ((edT s (za9 s n).1).map zaf.d)))))] [(4,.box (zae s)),(6,.box [.d (.sl 1 ((za9 s n).1.locs.map za8)),.d (.sl 2 ((za9 s n).1.vals.map ziD))])] h fun a w h=>?_;refine qV (za1 ?_);refine rT (.c (.d (.raw (.bool (zb2 s (za9 s n).1))))) h rfl ?_;exact congrArg vb (ed_fits (by rw [hc11];exact Bool.noConfusion))
 have hc12':=hc12;(try simp at hc12');refine qU (za0 ?_);obtain ⟨hcn,hn0,hn1,hst⟩:=st19_yes (show ((za9 s n).2)=true from by simpa using hc12);have hfx:=st19_fit hp (show ((za9 s n).2)=true from by simpa using hc12);have hcx:=st19_can s n;have led:=ed_len hs (za9 s n).1;have hc40:(zay s).1<=40:=by have h8:=hsm;unfold ze7 at h8;rw [Bool.and_eq_true,hcn] at h8;exact dT (by have h9:=h8.2;rwa [Bool.not_true,Bool.false_or] at h9)
 have hcl:cN s<=40:=by unfold cN;omega
 refine Jp 7 [] [(2,vp 4 0),(9,vp 6 0),(11,.t (.c (.d (.sl 3 ((edT s (za9 s n).1).map zaf.d))))),(12,vI 0)] h fun a w h=>?_;refine qW (Jp 7 [(1,.call (ORAll s hs (by decide) hp) om1_3),(2,.len (za2 2 StD.d (zap s)))] [(2,vp 4 0),(9,vp 6 0),(11,.t (.c (.d (.sl 3 ((edT s (za9 s n).1).map zaf.d))))),(12,vI 0),(88,.t (.c (.d (.sl 2 ((zap s).map StD.d))))),(89,vI ((zap s).length:Int)),(90,vI 0)] h fun a w h=>?_);refine qZ ?_
 refine zav (ι:=(Nat)) (fun i=>i<=(zap s).length)
   (fun i=>[(2,vp 4 0),(9,vp 6 0),(11,.t (.c (.d (.sl 3 ((edT s (za9 s n).1).map zaf.d))))),(12,vI ((zc1 (edT s (za9 s n).1) s i (s.acts.length+1):Nat):Int)),(88,.t (.c (.d (.sl 2 ((zap s).map StD.d))))),(89,vI ((zap s).length:Int)),(90,vN i)])
   (fun i=>[(4,.box (zae s)),(6,.box [.d (.sl 1 ((za9 s n).1.locs.map za8)),.d (.sl 2 ((za9 s n).1.vals.map ziD))])])
   (fun i=>(zap s).length - i) 0 ?_ h (by kernel_rfl) (by kernel_rfl) ?_
 ·exact Nat.zero_le _
 clear h;rintro i a w hI h;have lmt:zc1 (edT s (za9 s n).1) s i (s.acts.length+1)<=41*(21*22020096):=Nat.le_trans (metT_le _ _ _ _) (Nat.mul_le_mul (by omega) (Nat.mul_le_mul (by omega) led));refine Jp 7 [] [(2,vp 4 0),(9,vp 6 0),(11,.t (.c (.d (.sl 3 ((edT s (za9 s n).1).map zaf.d))))),(12,vI ((zc1 (edT s (za9 s n).1) s i (s.acts.length+1):Nat):Int)),(88,.t (.c (.d (.sl 2 ((zap s).map StD.d))))),(89,vI ((zap s).length:Int)),(90,vN i),(91,vb (decide ((i:Int)<((zap s).length:Int))))] h fun a w h=>?_;refine qW ?_;refine zao ((i:Int)<((zap s).length:Int)) h (fun hc13 hc13'=>?_) (fun hc28 hc28'=>?_)
 ·refine qU (za0 (qW (qZ ?_)));obtain ⟨x12,hx12⟩:=gl (zap s) i;have gx12:=all_ok hs hp hx12;refine Jq 7 [(0,.g (xD 92 88 kn_0 (zaa hx12 (f:=StD.d)) (OV.tmp 90 _)))] [(2,vp 4 0),(9,vp 6 0),(11,.t (.c (.d (.sl 3 ((edT s (za9 s n).1).map zaf.d))))),(12,vI ((zc1 (edT s (za9 s n).1) s i (s.acts.length+1):Nat):Int)),(14,vp 7 0),(88,.t (.c (.d (.sl 2 ((zap s).map StD.d))))),(89,vI ((zap s).length:Int)),(90,vN i)] [(4,.box (zae s)),(6,.box [.d (.sl 1 ((za9 s n).1.locs.map za8)),.d (.sl 2 ((za9 s n).1.vals.map ziD))]),(7,.box [.d (.sl 1 (x12.locs.map za8)),.d (.sl 2 (x12.vals.map ziD))])] h fun a w h=>?_;refine Jp 8 [] [(2,vp 4 0),(9,vp 6 0),(11,.t (.c (.d (.sl 3 ((edT s (za9 s n).1).map zaf.d))))),(12,vI ((zc1 (edT s (za9 s n).1) s i (s.acts.length+1):Nat):Int)),(14,vp 7 0),(15,vI (-1)),(88,.t (.c (.d (.sl 2 ((zap s).map StD.d))))),(89,vI ((zap s).length:Int)),(90,vN i)] h fun a w h=>?_;refine qZ ?_;replace h:=h.conv (f':=F.of [(2,vp 4 0),(9,vp 6 0),(11,.t (.c (.d (.sl 3 ((edT s (za9 s n).1).map zaf.d))))),(12,vI ((zc1 (edT s (za9 s n).1) s i (s.acts.length+1):Nat):Int)),(14,vp 7 0),(15,vI ((0:Int) - 1)),(88,.t (.c (.d (.sl 2 ((zap s).map StD.d))))),(89,vI ((zap s).length:Int)),(90,vN i)] [(4,.box (zae s)),(6,.box [.d (.sl 1 ((za9 s n).1.locs.map za8)),.d (.sl 2 ((za9 s n).1.vals.map ziD))]),(7,.box [.d (.sl 1 (x12.locs.map za8)),.d (.sl 2 (x12.vals.map ziD))])]) (by rw [show ((-1):Int)=((0:Int) - 1) from rfl]);replace h:=h.conv (f':=F.of [(2,vp 4 0),(9,vp 6 0),(11,.t (.c (.d (.sl 3 ((edT s (za9 s n).1).map zaf.d))))),(12,vI ((zc1 (edT s (za9 s n).1) s i (s.acts.length+1)+zc2 (edT s (za9 s n).1) x12 0:Nat):Int)),(14,vp 7 0),(15,vI ((0:Int) - 1)),(88,.t (.c (.d (.sl 2 ((zap s).map StD.d))))),(89,vI ((zap s).length:Int)),(90,vN i)] [(4,.box (zae s)),(6,.box [.d (.sl 1 ((za9 s n).1.locs.map za8)),.d (.sl 2 ((za9 s n).1.vals.map ziD))]),(7,.box [.d (.sl 1 (x12.locs.map za8)),.d (.sl 2 (x12.vals.map ziD))])]) (by rw [show (((zc1 (edT s (za9 s n).1) s i (s.acts.length+1):Nat):Int):Int)=((zc1 (edT s (za9 s n).1) s i (s.acts.length+1)+zc2 (edT s (za9 s n).1) x12 0:Nat):Int) from (by rfl)])
  refine zav (ι:=(Nat)) (fun q=>q<=s.acts.length+1)
    (fun q=>[(2,vp 4 0),(9,vp 6 0),(11,.t (.c (.d (.sl 3 ((edT s (za9 s n).1).map zaf.d))))),(12,vI ((zc1 (edT s (za9 s n).1) s i (s.acts.length+1)+zc2 (edT s (za9 s n).1) x12 q:Nat):Int)),(14,vp 7 0),(15,vI ((q:Int) - 1)),(88,.t (.c (.d (.sl 2 ((zap s).map StD.d))))),(89,vI ((zap s).length:Int)),(90,vN i)])
    (fun q=>[(4,.box (zae s)),(6,.box [.d (.sl 1 ((za9 s n).1.locs.map za8)),.d (.sl 2 ((za9 s n).1.vals.map ziD))]),(7,.box [.d (.sl 1 (x12.locs.map za8)),.d (.sl 2 (x12.vals.map ziD))])])
    (fun q=>s.acts.length+1 - q) 0 ?_ h (by kernel_rfl) (by kernel_rfl) ?_
  ·exact Nat.zero_le _
  clear h;rintro q a w hI h;have lma:zc2 (edT s (za9 s n).1) x12 q<=21*22020096:=Nat.le_trans (metA_le _ _ _) (Nat.mul_le_mul (by omega) led);refine qW (Jp 8 [(3,.len (za2 10 zat.d s.acts))] [(2,vp 4 0),(9,vp 6 0),(11,.t (.c (.d (.sl 3 ((edT s (za9 s n).1).map zaf.d))))),(12,vI ((zc1 (edT s (za9 s n).1) s i (s.acts.length+1)+zc2 (edT s (za9 s n).1) x12 q:Nat):Int)),(14,vp 7 0),(15,vI ((q:Int) - 1)),(88,.t (.c (.d (.sl 2 ((zap s).map StD.d))))),(89,vI ((zap s).length:Int)),(90,vN i),(98,vb (decide (((q:Int) - 1)<(s.acts.length:Int))))] h fun a w h=>?_);refine zao (((q:Int) - 1)<(s.acts.length:Int)) h (fun hc14 hc14'=>?_) (fun hc27 hc27'=>?_)
  ·refine qU (za0 (qW (qZ ?_)))
   rcases Bool.eq_false_or_eq_true (leads s (za9 s n).1 ((q:Int) - 1) x12) with hld | hld
   ·have hyk:=all_at hx12;have hm9:met (edT s (za9 s n).1) ((q:Int) - 1) x12=1:=by rw [met_all hcn hfx hcx (by rw [hyk.2];exact fit_stN hp hcn (by omega) (cN_int hyk.1)) (by rw [hyk.2];exact can_stN s _) (by have:=dT hc14;omega),hld];rfl
    refine Jp 8 [(4,.call (Fn.cast (SRLeads s (za9 s n).1 ((q:Int) - 1) x12 (L:=3) (M:=6) (by decide) hs (st19_ok hs hp n) (all_ok hs hp hx12)) (congrArg vb hld)) ks_5)] [(2,vp 4 0),(9,vp 6 0),(11,.t (.c (.d (.sl 3 ((edT s (za9 s n).1).map zaf.d))))),(12,vI ((zc1 (edT s (za9 s n).1) s i (s.acts.length+1)+zc2 (edT s (za9 s n).1) x12 q:Nat):Int)),(14,vp 7 0),(15,vI ((q:Int) - 1)),(16,vb true),(88,.t (.c (.d (.sl 2 ((zap s).map StD.d))))),(89,vI ((zap s).length:Int)),(90,vN i)] h fun a w h=>?_;refine Jp 8 [] [(2,vp 4 0),(9,vp 6 0),(11,.t (.c (.d (.sl 3 ((edT s (za9 s n).1).map zaf.d))))),(12,vI ((zc1 (edT s (za9 s n).1) s i (s.acts.length+1)+zc2 (edT s (za9 s n).1) x12 q:Nat):Int)),(14,vp 7 0),(15,vI ((q:Int) - 1)),(16,vb true),(17,vI 0),(88,.t (.c (.d (.sl 2 ((zap s).map StD.d))))),(89,vI ((zap s).length:Int)),(90,vN i)] h fun a w h=>?_;refine qW (Jp 8 [(1,.len (za2 3 zaf.d (edT s (za9 s n).1)))] [(2,vp 4 0),(9,vp 6 0),(11,.t (.c (.d (.sl 3 ((edT s (za9 s n).1).map zaf.d))))),(12,vI ((zc1 (edT s (za9 s n).1) s i (s.acts.length+1)+zc2 (edT s (za9 s n).1) x12 q:Nat):Int)),(14,vp 7 0),(15,vI ((q:Int) - 1)),(16,vb true),(17,vI 0),(88,.t (.c (.d (.sl 2 ((zap s).map StD.d))))),(89,vI ((zap s).length:Int)),(90,vN i),(106,.t (.c (.d (.sl 3 ((edT s (za9 s n).1).map zaf.d))))),(107,vI ((edT s (za9 s n).1).length:Int)),(108,vI 0)] h fun a w h=>?_);refine qZ ?_;replace h:=h.conv (f':=F.of [(2,vp 4 0),(9,vp 6 0),(11,.t (.c (.d (.sl 3 ((edT s (za9 s n).1).map zaf.d))))),(12,vI ((zc1 (edT s (za9 s n).1) s i (s.acts.length+1)+zc2 (edT s (za9 s n).1) x12 q:Nat):Int)),(14,vp 7 0),(15,vI ((q:Int) - 1)),(16,vb true),(17,vI ((met ((edT s (za9 s n).1).take 0) ((q:Int) - 1) x12:Nat):Int)),(88,.t (.c (.d (.sl 2 ((zap s).map StD.d))))),(89,vI ((zap s).length:Int)),(90,vN i),(106,.t (.c (.d (.sl 3 ((edT s (za9 s n).1).map zaf.d))))),(107,vI ((edT s (za9 s n).1).length:Int)),(108,vI ((met ((edT s (za9 s n).1).take 0) ((q:Int) - 1) x12:Nat):Int))] [(4,.box (zae s)),(6,.box [.d (.sl 1 ((za9 s n).1.locs.map za8)),.d (.sl 2 ((za9 s n).1.vals.map ziD))]),(7,.box [.d (.sl 1 (x12.locs.map za8)),.d (.sl 2 (x12.vals.map ziD))])]) (by rw [show (0:Int)=((met ((edT s (za9 s n).1).take 0) ((q:Int) - 1) x12:Nat):Int) from (by rfl)])
    refine zav (ι:=(Nat)) (fun j=>j<=(edT s (za9 s n).1).length)
      (fun j=>[(2,vp 4 0),(9,vp 6 0),(11,.t (.c (.d (.sl 3 ((edT s (za9 s n).1).map zaf.d))))),(12,vI ((zc1 (edT s (za9 s n).1) s i (s.acts.length+1)+zc2 (edT s (za9 s n).1) x12 q:Nat):Int)),(14,vp 7 0),(15,vI ((q:Int) - 1)),(16,vb true),(17,vI ((met ((edT s (za9 s n).1).take j) ((q:Int) - 1) x12:Nat):Int)),(88,.t (.c (.d (.sl 2 ((zap s).map StD.d))))),(89,vI ((zap s).length:Int)),(90,vN i),(106,.t (.c (.d (.sl 3 ((edT s (za9 s n).1).map zaf.d))))),(107,vI ((edT s (za9 s n).1).length:Int)),(108,vN j)])
      (fun j=>[(4,.box (zae s)),(6,.box [.d (.sl 1 ((za9 s n).1.locs.map za8)),.d (.sl 2 ((za9 s n).1.vals.map ziD))]),(7,.box [.d (.sl 1 (x12.locs.map za8)),.d (.sl 2 (x12.vals.map ziD))])])
      (fun j=>(edT s (za9 s n).1).length - j) 0 ?_ h (by kernel_rfl) (by kernel_rfl) ?_
    ·exact Nat.zero_le _
    clear h;rintro j a w hI h;have lme:=met_le ((edT s (za9 s n).1).take j) ((q:Int) - 1) x12;rw [List.length_take] at lme;refine Jp 8 [] [(2,vp 4 0),(9,vp 6 0),(11,.t (.c (.d (.sl 3 ((edT s (za9 s n).1).map zaf.d))))),(12,vI ((zc1 (edT s (za9 s n).1) s i (s.acts.length+1)+zc2 (edT s (za9 s n).1) x12 q:Nat):Int)),(14,vp 7 0),(15,vI ((q:Int) - 1)),(16,vb true),(17,vI ((met ((edT s (za9 s n).1).take j) ((q:Int) - 1) x12:Nat):Int)),(88,.t (.c (.d (.sl 2 ((zap s).map StD.d))))),(89,vI ((zap s).length:Int)),(90,vN i),(106,.t (.c (.d (.sl 3 ((edT s (za9 s n).1).map zaf.d))))),(107,vI ((edT s (za9 s n).1).length:Int)),(108,vN j),(109,vb (decide ((j:Int)<((edT s (za9 s n).1).length:Int))))] h fun a w h=>?_;refine qW ?_;refine zao ((j:Int)<((edT s (za9 s n).1).length:Int)) h (fun hc15 hc15'=>?_) (fun hc20 hc20'=>?_)
    ·refine qU (za0 (qW (qZ ?_)));obtain ⟨x14,hx14⟩:=gl (edT s (za9 s n).1) j;have gx14:=ed_ok hs hp hcx hx14;refine Jq 8 [(0,.g (xD 110 106 ol1_19 (zaa hx14 (f:=zaf.d)) (OV.tmp 108 _)))] [(2,vp 4 0),(9,vp 6 0),(11,.t (.c (.d (.sl 3 ((edT s (za9 s n).1).map zaf.d))))),(12,vI ((zc1 (edT s (za9 s n).1) s i (s.acts.length+1)+zc2 (edT s (za9 s n).1) x12 q:Nat):Int)),(14,vp 7 0),(15,vI ((q:Int) - 1)),(16,vb true),(17,vI ((met ((edT s (za9 s n).1).take j) ((q:Int) - 1) x12:Nat):Int)),(19,vp 8 0),(88,.t (.c (.d (.sl 2 ((zap s).map StD.d))))),(89,vI ((zap s).length:Int)),(90,vN i),(106,.t (.c (.d (.sl 3 ((edT s (za9 s n).1).map zaf.d))))),(107,vI ((edT s (za9 s n).1).length:Int)),(108,vN j)] [(4,.box (zae s)),(6,.box [.d (.sl 1 ((za9 s n).1.locs.map za8)),.d (.sl 2 ((za9 s n).1.vals.map ziD))]),(7,.box [.d (.sl 1 (x12.locs.map za8)),.d (.sl 2 (x12.vals.map ziD))]),(8,.box [.d (.raw (.int .i64 x14.act)),.d (.sl 1 (x14.to_.locs.map za8)),.d (.sl 2 (x14.to_.vals.map ziD))])] h fun a w h=>?_
     rcases Bool.eq_false_or_eq_true (x14.act == ((q:Int) - 1)) with hc16 | hc19
     ·have hc16':=hc16;(try simp at hc16');refine Jq 9 [(3,.cmp (op:=.eql) (m:=x14.act) (n:=((q:Int) - 1)) (b:=true) .i64 hc16),(8,.call (zhd x14.to_ x12 (M:=6) (by decide) gx14 gx12) kr_9)] [(2,vp 4 0),(9,vp 6 0),(11,.t (.c (.d (.sl 3 ((edT s (za9 s n).1).map zaf.d))))),(12,vI ((zc1 (edT s (za9 s n).1) s i (s.acts.length+1)+zc2 (edT s (za9 s n).1) x12 q:Nat):Int)),(14,vp 7 0),(15,vI ((q:Int) - 1)),(16,vb true),(17,vI ((met ((edT s (za9 s n).1).take j) ((q:Int) - 1) x12:Nat):Int)),(88,.t (.c (.d (.sl 2 ((zap s).map StD.d))))),(89,vI ((zap s).length:Int)),(90,vN i),(106,.t (.c (.d (.sl 3 ((edT s (za9 s n).1).map zaf.d))))),(107,vI ((edT s (za9 s n).1).length:Int)),(108,vN j),(121,vb (zbu x14.to_ x12))] [(4,.box (zae s)),(6,.box [.d (.sl 1 ((za9 s n).1.locs.map za8)),.d (.sl 2 ((za9 s n).1.vals.map ziD))]),(7,.box [.d (.sl 1 (x12.locs.map za8)),.d (.sl 2 (x12.vals.map ziD))])] h fun a w h=>?_;refine cS (zbu x14.to_ x12) h (fun hc17=>?_) (fun hc18=>?_)
      ·refine Jl 9 [(1,.add .i64 (m:=((met ((edT s (za9 s n).1).take j) ((q:Int) - 1) x12:Nat):Int)) (n:=1) i6)] [(2,vp 4 0),(9,vp 6 0),(11,.t (.c (.d (.sl 3 ((edT s (za9 s n).1).map zaf.d))))),(12,vI ((zc1 (edT s (za9 s n).1) s i (s.acts.length+1)+zc2 (edT s (za9 s n).1) x12 q:Nat):Int)),(14,vp 7 0),(15,vI ((q:Int) - 1)),(16,vb true),(17,vI (((met ((edT s (za9 s n).1).take j) ((q:Int) - 1) x12:Nat):Int)+1)),(88,.t (.c (.d (.sl 2 ((zap s).map StD.d))))),(89,vI ((zap s).length:Int)),(90,vN i),(106,.t (.c (.d (.sl 3 ((edT s (za9 s n).1).map zaf.d))))),(107,vI ((edT s (za9 s n).1).length:Int)),(108,vN j)] h fun a w h=>?_;refine zac (za0 (Jl 9 [(0,.j1 j)] [(2,vp 4 0),(9,vp 6 0),(11,.t (.c (.d (.sl 3 ((edT s (za9 s n).1).map zaf.d))))),(12,vI ((zc1 (edT s (za9 s n).1) s i (s.acts.length+1)+zc2 (edT s (za9 s n).1) x12 q:Nat):Int)),(14,vp 7 0),(15,vI ((q:Int) - 1)),(16,vb true),(17,vI (((met ((edT s (za9 s n).1).take j) ((q:Int) - 1) x12:Nat):Int)+1)),(88,.t (.c (.d (.sl 2 ((zap s).map StD.d))))),(89,vI ((zap s).length:Int)),(90,vN i),(106,.t (.c (.d (.sl 3 ((edT s (za9 s n).1).map zaf.d))))),(107,vI ((edT s (za9 s n).1).length:Int)),(108,vI ((j:Int)+1))] h fun a w h=>?_));refine za0 ?_;replace h:=h.conv (f':=F.of [(2,vp 4 0),(9,vp 6 0),(11,.t (.c (.d (.sl 3 ((edT s (za9 s n).1).map zaf.d))))),(12,vI ((zc1 (edT s (za9 s n).1) s i (s.acts.length+1)+zc2 (edT s (za9 s n).1) x12 q:Nat):Int)),(14,vp 7 0),(15,vI ((q:Int) - 1)),(16,vb true),(17,vI ((met ((edT s (za9 s n).1).take (j+1)) ((q:Int) - 1) x12:Nat):Int)),(88,.t (.c (.d (.sl 2 ((zap s).map StD.d))))),(89,vI ((zap s).length:Int)),(90,vN i),(106,.t (.c (.d (.sl 3 ((edT s (za9 s n).1).map zaf.d))))),(107,vI ((edT s (za9 s n).1).length:Int)),(108,vI ((j:Int)+1))] [(4,.box (zae s)),(6,.box [.d (.sl 1 ((za9 s n).1.locs.map za8)),.d (.sl 2 ((za9 s n).1.vals.map ziD))]),(7,.box [.d (.sl 1 (x12.locs.map za8)),.d (.sl 2 (x12.vals.map ziD))])]) (by rw [show (((met ((edT s (za9 s n).1).take j) ((q:Int) - 1) x12:Nat):Int)+1:Int)=((met ((edT s (za9 s n).1).take (j+1)) ((q:Int) - 1) x12:Nat):Int) from (by rw [met_yes hx14 hc16 hc17];rfl)]);refine zah (x:=j) (y:=j+1) h ?_ ?_
       ·have:=zak hx14;show j+1<=(edT s (za9 s n).1).length;omega
       show (edT s (za9 s n).1).length - (j+1)<(edT s (za9 s n).1).length - j;have:=zak hx14;omega
      refine qU (zac (za0 (Jl 9 [(0,.j1 j)] [(2,vp 4 0),(9,vp 6 0),(11,.t (.c (.d (.sl 3 ((edT s (za9 s n).1).map zaf.d))))),(12,vI ((zc1 (edT s (za9 s n).1) s i (s.acts.length+1)+zc2 (edT s (za9 s n).1) x12 q:Nat):Int)),(14,vp 7 0),(15,vI ((q:Int) - 1)),(16,vb true),(17,vI ((met ((edT s (za9 s n).1).take j) ((q:Int) - 1) x12:Nat):Int)),(88,.t (.c (.d (.sl 2 ((zap s).map StD.d))))),(89,vI ((zap s).length:Int)),(90,vN i),(106,.t (.c (.d (.sl 3 ((edT s (za9 s n).1).map zaf.d))))),(107,vI ((edT s (za9 s n).1).length:Int)),(108,vI ((j:Int)+1))] h fun a w h=>?_)));refine za0 ?_;replace h:=h.conv (f':=F.of [(2,vp 4 0),(9,vp 6 0),(11,.t (.c (.d (.sl 3 ((edT s (za9 s n).1).map zaf.d))))),(12,vI ((zc1 (edT s (za9 s n).1) s i (s.acts.length+1)+zc2 (edT s (za9 s n).1) x12 q:Nat):Int)),(14,vp 7 0),(15,vI ((q:Int) - 1)),(16,vb true),(17,vI ((met ((edT s (za9 s n).1).take (j+1)) ((q:Int) - 1) x12:Nat):Int)),(88,.t (.c (.d (.sl 2 ((zap s).map StD.d))))),(89,vI ((zap s).length:Int)),(90,vN i),(106,.t (.c (.d (.sl 3 ((edT s (za9 s n).1).map zaf.d))))),(107,vI ((edT s (za9 s n).1).length:Int)),(108,vI ((j:Int)+1))] [(4,.box (zae s)),(6,.box [.d (.sl 1 ((za9 s n).1.locs.map za8)),.d (.sl 2 ((za9 s n).1.vals.map ziD))]),(7,.box [.d (.sl 1 (x12.locs.map za8)),.d (.sl 2 (x12.vals.map ziD))])]) (by rw [show (((met ((edT s (za9 s n).1).take j) ((q:Int) - 1) x12:Nat):Int):Int)=((met ((edT s (za9 s n).1).take (j+1)) ((q:Int) - 1) x12:Nat):Int) from (by rw [met_no hx14 (.inr hc18)])]);refine zah (x:=j) (y:=j+1) h ?_ ?_
      ·have:=zak hx14;show j+1<=(edT s (za9 s n).1).length;omega
      show (edT s (za9 s n).1).length - (j+1)<(edT s (za9 s n).1).length - j;have:=zak hx14;omega
     have hc19':=hc19;(try simp at hc19');refine Jq 9 [(3,.cmp (op:=.eql) (m:=x14.act) (n:=((q:Int) - 1)) (b:=false) .i64 hc19)] [(2,vp 4 0),(9,vp 6 0),(11,.t (.c (.d (.sl 3 ((edT s (za9 s n).1).map zaf.d))))),(12,vI ((zc1 (edT s (za9 s n).1) s i (s.acts.length+1)+zc2 (edT s (za9 s n).1) x12 q:Nat):Int)),(14,vp 7 0),(15,vI ((q:Int) - 1)),(16,vb true),(17,vI ((met ((edT s (za9 s n).1).take j) ((q:Int) - 1) x12:Nat):Int)),(88,.t (.c (.d (.sl 2 ((zap s).map StD.d))))),(89,vI ((zap s).length:Int)),(90,vN i),(106,.t (.c (.d (.sl 3 ((edT s (za9 s n).1).map zaf.d))))),(107,vI ((edT s (za9 s n).1).length:Int)),(108,vN j),(121,vb false)] [(4,.box (zae s)),(6,.box [.d (.sl 1 ((za9 s n).1.locs.map za8)),.d (.sl 2 ((za9 s n).1.vals.map ziD))]),(7,.box [.d (.sl 1 (x12.locs.map za8)),.d (.sl 2 (x12.vals.map ziD))])] h fun a w h=>?_;refine zbj false h rfl nofun (fun _=>?_)
     refine qU (zac (za0 (Jl 9 [(0,.j1 j)] [(2,vp 4 0),(9,vp 6 0),(11,.t (.c (.d (.sl 3 ((edT s (za9 s n).1).map zaf.d))))),(12,vI ((zc1 (edT s (za9 s n).1) s i (s.acts.length+1)+zc2 (edT s (za9 s n).1) x12 q:Nat):Int)),(14,vp 7 0),(15,vI ((q:Int) - 1)),(16,vb true),(17,vI ((met ((edT s (za9 s n).1).take j) ((q:Int) - 1) x12:Nat):Int)),(88,.t (.c (.d (.sl 2 ((zap s).map StD.d))))),(89,vI ((zap s).length:Int)),(90,vN i),(106,.t (.c (.d (.sl 3 ((edT s (za9 s n).1).map zaf.d))))),(107,vI ((edT s (za9 s n).1).length:Int)),(108,vI ((j:Int)+1))] h fun a w h=>?_)));refine za0 ?_;replace h:=h.conv (f':=F.of [(2,vp 4 0),(9,vp 6 0),(11,.t (.c (.d (.sl 3 ((edT s (za9 s n).1).map zaf.d))))),(12,vI ((zc1 (edT s (za9 s n).1) s i (s.acts.length+1)+zc2 (edT s (za9 s n).1) x12 q:Nat):Int)),(14,vp 7 0),(15,vI ((q:Int) - 1)),(16,vb true),(17,vI ((met ((edT s (za9 s n).1).take (j+1)) ((q:Int) - 1) x12:Nat):Int)),(88,.t (.c (.d (.sl 2 ((zap s).map StD.d))))),(89,vI ((zap s).length:Int)),(90,vN i),(106,.t (.c (.d (.sl 3 ((edT s (za9 s n).1).map zaf.d))))),(107,vI ((edT s (za9 s n).1).length:Int)),(108,vI ((j:Int)+1))] [(4,.box (zae s)),(6,.box [.d (.sl 1 ((za9 s n).1.locs.map za8)),.d (.sl 2 ((za9 s n).1.vals.map ziD))]),(7,.box [.d (.sl 1 (x12.locs.map za8)),.d (.sl 2 (x12.vals.map ziD))])]) (by rw [show (((met ((edT s (za9 s n).1).take j) ((q:Int) - 1) x12:Nat):Int):Int)=((met ((edT s (za9 s n).1).take (j+1)) ((q:Int) - 1) x12:Nat):Int) from (by rw [met_no hx14 (.inl hc19)])]);refine zah (x:=j) (y:=j+1) h ?_ ?_
     ·have:=zak hx14;show j+1<=(edT s (za9 s n).1).length;omega
     show (edT s (za9 s n).1).length - (j+1)<(edT s (za9 s n).1).length - j;have:=zak hx14;omega
    refine wp_exit (zad (zad (za4 (za0 (qW ?_)))));replace h:=h.conv (f':=F.of [(2,vp 4 0),(9,vp 6 0),(11,.t (.c (.d (.sl 3 ((edT s (za9 s n).1).map zaf.d))))),(12,vI ((zc1 (edT s (za9 s n).1) s i (s.acts.length+1)+zc2 (edT s (za9 s n).1) x12 q:Nat):Int)),(14,vp 7 0),(15,vI ((q:Int) - 1)),(16,vb true),(17,vI (1:Int)),(88,.t (.c (.d (.sl 2 ((zap s).map StD.d))))),(89,vI ((zap s).length:Int)),(90,vN i),(106,.t (.c (.d (.sl 3 ((edT s (za9 s n).1).map zaf.d))))),(107,vI ((edT s (za9 s n).1).length:Int)),(108,vN j),(109,vb (decide ((j:Int)<((edT s (za9 s n).1).length:Int))))] [(4,.box (zae s)),(6,.box [.d (.sl 1 ((za9 s n).1.locs.map za8)),.d (.sl 2 ((za9 s n).1.vals.map ziD))]),(7,.box [.d (.sl 1 (x12.locs.map za8)),.d (.sl 2 (x12.vals.map ziD))])]) (by rw [show (((met ((edT s (za9 s n).1).take j) ((q:Int) - 1) x12:Nat):Int):Int)=(1:Int) from (by rw [List.take_of_length_le (by have:=dF hc20;omega),hm9];rfl)]);refine Jq 9 [(2,.cmp (op:=.eql) (m:=(1:Int)) (n:=1) (b:=true) .i64 (show ((1:Int) == 1)=true from by decide)),(3,.cmpb .neq (m:=true) (n:=true) (b:=false) (.inr ⟨rfl,(show (true != true)=false by simp).symm⟩)),(6,.cmp (op:=.gtr) (m:=(1:Int)) (n:=1) (b:=false) .i64 (show (decide ((1:Int)>1))=false from by decide))] [(2,vp 4 0),(9,vp 6 0),(11,.t (.c (.d (.sl 3 ((edT s (za9 s n).1).map zaf.d))))),(12,vI ((zc1 (edT s (za9 s n).1) s i (s.acts.length+1)+zc2 (edT s (za9 s n).1) x12 q:Nat):Int)),(14,vp 7 0),(15,vI ((q:Int) - 1)),(17,vI (1:Int)),(88,.t (.c (.d (.sl 2 ((zap s).map StD.d))))),(89,vI ((zap s).length:Int)),(90,vN i),(132,vb false)] [(4,.box (zae s)),(6,.box [.d (.sl 1 ((za9 s n).1.locs.map za8)),.d (.sl 2 ((za9 s n).1.vals.map ziD))]),(7,.box [.d (.sl 1 (x12.locs.map za8)),.d (.sl 2 (x12.vals.map ziD))])] h fun a w h=>?_;refine zbj false h rfl nofun (fun _=>?_)
    refine qU (za0 (Jl 9 [(2,.add .i64 (m:=((zc1 (edT s (za9 s n).1) s i (s.acts.length+1)+zc2 (edT s (za9 s n).1) x12 q:Nat):Int)) (n:=(1:Int)) i6)] [(2,vp 4 0),(9,vp 6 0),(11,.t (.c (.d (.sl 3 ((edT s (za9 s n).1).map zaf.d))))),(12,vI (((zc1 (edT s (za9 s n).1) s i (s.acts.length+1)+zc2 (edT s (za9 s n).1) x12 q:Nat):Int)+(1:Int))),(14,vp 7 0),(15,vI ((q:Int) - 1)),(88,.t (.c (.d (.sl 2 ((zap s).map StD.d))))),(89,vI ((zap s).length:Int)),(90,vN i)] h fun a w h=>?_));refine zac (za0 (Jl 9 [(1,.add .i64 (m:=((q:Int) - 1)) (n:=1) i6)] [(2,vp 4 0),(9,vp 6 0),(11,.t (.c (.d (.sl 3 ((edT s (za9 s n).1).map zaf.d))))),(12,vI (((zc1 (edT s (za9 s n).1) s i (s.acts.length+1)+zc2 (edT s (za9 s n).1) x12 q:Nat):Int)+(1:Int))),(14,vp 7 0),(15,vI (((q:Int) - 1)+1)),(88,.t (.c (.d (.sl 2 ((zap s).map StD.d))))),(89,vI ((zap s).length:Int)),(90,vN i)] h fun a w h=>?_));refine za0 ?_;replace h:=h.conv (f':=F.of [(2,vp 4 0),(9,vp 6 0),(11,.t (.c (.d (.sl 3 ((edT s (za9 s n).1).map zaf.d))))),(12,vI ((zc1 (edT s (za9 s n).1) s i (s.acts.length+1)+zc2 (edT s (za9 s n).1) x12 (q+1):Nat):Int)),(14,vp 7 0),(15,vI (((q:Int) - 1)+1)),(88,.t (.c (.d (.sl 2 ((zap s).map StD.d))))),(89,vI ((zap s).length:Int)),(90,vN i)] [(4,.box (zae s)),(6,.box [.d (.sl 1 ((za9 s n).1.locs.map za8)),.d (.sl 2 ((za9 s n).1.vals.map ziD))]),(7,.box [.d (.sl 1 (x12.locs.map za8)),.d (.sl 2 (x12.vals.map ziD))])]) (by rw [show (((zc1 (edT s (za9 s n).1) s i (s.acts.length+1)+zc2 (edT s (za9 s n).1) x12 q:Nat):Int)+(1:Int):Int)=((zc1 (edT s (za9 s n).1) s i (s.acts.length+1)+zc2 (edT s (za9 s n).1) x12 (q+1):Nat):Int) from (by have h8:zc2 (edT s (za9 s n).1) x12 (q+1)=zc2 (edT s (za9 s n).1) x12 q+met (edT s (za9 s n).1) ((q:Int) - 1) x12:=rfl;omega)]);replace h:=h.conv (f':=F.of [(2,vp 4 0),(9,vp 6 0),(11,.t (.c (.d (.sl 3 ((edT s (za9 s n).1).map zaf.d))))),(12,vI ((zc1 (edT s (za9 s n).1) s i (s.acts.length+1)+zc2 (edT s (za9 s n).1) x12 (q+1):Nat):Int)),(14,vp 7 0),(15,vI ((q:Int)+1 - 1)),(88,.t (.c (.d (.sl 2 ((zap s).map StD.d))))),(89,vI ((zap s).length:Int)),(90,vN i)] [(4,.box (zae s)),(6,.box [.d (.sl 1 ((za9 s n).1.locs.map za8)),.d (.sl 2 ((za9 s n).1.vals.map ziD))]),(7,.box [.d (.sl 1 (x12.locs.map za8)),.d (.sl 2 (x12.vals.map ziD))])]) (by rw [show (((q:Int) - 1)+1:Int)=((q:Int)+1 - 1) from (by omega)]);refine zah (x:=q) (y:=q+1) h ?_ ?_
    ·have:=dT hc14;show q+1<=s.acts.length+1;omega
    show s.acts.length+1 - (q+1)<s.acts.length+1 - q;have:=dT hc14;omega
   have hyk:=all_at hx12;have hm9:met (edT s (za9 s n).1) ((q:Int) - 1) x12=0:=by rw [met_all hcn hfx hcx (by rw [hyk.2];exact fit_stN hp hcn (by omega) (cN_int hyk.1)) (by rw [hyk.2];exact can_stN s _) (by have:=dT hc14;omega),hld];rfl
   refine Jp 8 [(4,.call (Fn.cast (SRLeads s (za9 s n).1 ((q:Int) - 1) x12 (L:=3) (M:=6) (by decide) hs (st19_ok hs hp n) (all_ok hs hp hx12)) (congrArg vb hld)) ks_5)] [(2,vp 4 0),(9,vp 6 0),(11,.t (.c (.d (.sl 3 ((edT s (za9 s n).1).map zaf.d))))),(12,vI ((zc1 (edT s (za9 s n).1) s i (s.acts.length+1)+zc2 (edT s (za9 s n).1) x12 q:Nat):Int)),(14,vp 7 0),(15,vI ((q:Int) - 1)),(16,vb false),(88,.t (.c (.d (.sl 2 ((zap s).map StD.d))))),(89,vI ((zap s).length:Int)),(90,vN i)] h fun a w h=>?_;refine Jp 8 [] [(2,vp 4 0),(9,vp 6 0),(11,.t (.c (.d (.sl 3 ((edT s (za9 s n).1).map zaf.d))))),(12,vI ((zc1 (edT s (za9 s n).1) s i (s.acts.length+1)+zc2 (edT s (za9 s n).1) x12 q:Nat):Int)),(14,vp 7 0),(15,vI ((q:Int) - 1)),(16,vb false),(17,vI 0),(88,.t (.c (.d (.sl 2 ((zap s).map StD.d))))),(89,vI ((zap s).length:Int)),(90,vN i)] h fun a w h=>?_;refine qW (Jp 8 [(1,.len (za2 3 zaf.d (edT s (za9 s n).1)))] [(2,vp 4 0),(9,vp 6 0),(11,.t (.c (.d (.sl 3 ((edT s (za9 s n).1).map zaf.d))))),(12,vI ((zc1 (edT s (za9 s n).1) s i (s.acts.length+1)+zc2 (edT s (za9 s n).1) x12 q:Nat):Int)),(14,vp 7 0),(15,vI ((q:Int) - 1)),(16,vb false),(17,vI 0),(88,.t (.c (.d (.sl 2 ((zap s).map StD.d))))),(89,vI ((zap s).length:Int)),(90,vN i),(106,.t (.c (.d (.sl 3 ((edT s (za9 s n).1).map zaf.d))))),(107,vI ((edT s (za9 s n).1).length:Int)),(108,vI 0)] h fun a w h=>?_);refine qZ ?_;replace h:=h.conv (f':=F.of [(2,vp 4 0),(9,vp 6 0),(11,.t (.c (.d (.sl 3 ((edT s (za9 s n).1).map zaf.d))))),(12,vI ((zc1 (edT s (za9 s n).1) s i (s.acts.length+1)+zc2 (edT s (za9 s n).1) x12 q:Nat):Int)),(14,vp 7 0),(15,vI ((q:Int) - 1)),(16,vb false),(17,vI ((met ((edT s (za9 s n).1).take 0) ((q:Int) - 1) x12:Nat):Int)),(88,.t (.c (.d (.sl 2 ((zap s).map StD.d))))),(89,vI ((zap s).length:Int)),(90,vN i),(106,.t (.c (.d (.sl 3 ((edT s (za9 s n).1).map zaf.d))))),(107,vI ((edT s (za9 s n).1).length:Int)),(108,vI ((met ((edT s (za9 s n).1).take 0) ((q:Int) - 1) x12:Nat):Int))] [(4,.box (zae s)),(6,.box [.d (.sl 1 ((za9 s n).1.locs.map za8)),.d (.sl 2 ((za9 s n).1.vals.map ziD))]),(7,.box [.d (.sl 1 (x12.locs.map za8)),.d (.sl 2 (x12.vals.map ziD))])]) (by rw [show (0:Int)=((met ((edT s (za9 s n).1).take 0) ((q:Int) - 1) x12:Nat):Int) from (by rfl)])
   refine zav (ι:=(Nat)) (fun j=>j<=(edT s (za9 s n).1).length)
     (fun j=>[(2,vp 4 0),(9,vp 6 0),(11,.t (.c (.d (.sl 3 ((edT s (za9 s n).1).map zaf.d))))),(12,vI ((zc1 (edT s (za9 s n).1) s i (s.acts.length+1)+zc2 (edT s (za9 s n).1) x12 q:Nat):Int)),(14,vp 7 0),(15,vI ((q:Int) - 1)),(16,vb false),(17,vI ((met ((edT s (za9 s n).1).take j) ((q:Int) - 1) x12:Nat):Int)),(88,.t (.c (.d (.sl 2 ((zap s).map StD.d))))),(89,vI ((zap s).length:Int)),(90,vN i),(106,.t (.c (.d (.sl 3 ((edT s (za9 s n).1).map zaf.d))))),(107,vI ((edT s (za9 s n).1).length:Int)),(108,vN j)])
     (fun j=>[(4,.box (zae s)),(6,.box [.d (.sl 1 ((za9 s n).1.locs.map za8)),.d (.sl 2 ((za9 s n).1.vals.map ziD))]),(7,.box [.d (.sl 1 (x12.locs.map za8)),.d (.sl 2 (x12.vals.map ziD))])])
     (fun j=>(edT s (za9 s n).1).length - j) 0 ?_ h (by kernel_rfl) (by kernel_rfl) ?_
   ·exact Nat.zero_le _
   clear h;rintro j a w hI h;have lme:=met_le ((edT s (za9 s n).1).take j) ((q:Int) - 1) x12;rw [List.length_take] at lme;refine Jp 8 [] [(2,vp 4 0),(9,vp 6 0),(11,.t (.c (.d (.sl 3 ((edT s (za9 s n).1).map zaf.d))))),(12,vI ((zc1 (edT s (za9 s n).1) s i (s.acts.length+1)+zc2 (edT s (za9 s n).1) x12 q:Nat):Int)),(14,vp 7 0),(15,vI ((q:Int) - 1)),(16,vb false),(17,vI ((met ((edT s (za9 s n).1).take j) ((q:Int) - 1) x12:Nat):Int)),(88,.t (.c (.d (.sl 2 ((zap s).map StD.d))))),(89,vI ((zap s).length:Int)),(90,vN i),(106,.t (.c (.d (.sl 3 ((edT s (za9 s n).1).map zaf.d))))),(107,vI ((edT s (za9 s n).1).length:Int)),(108,vN j),(109,vb (decide ((j:Int)<((edT s (za9 s n).1).length:Int))))] h fun a w h=>?_;refine qW ?_;refine zao ((j:Int)<((edT s (za9 s n).1).length:Int)) h (fun hc21 hc21'=>?_) (fun hc26 hc26'=>?_)
   ·refine qU (za0 (qW (qZ ?_)));obtain ⟨x17,hx17⟩:=gl (edT s (za9 s n).1) j;have gx17:=ed_ok hs hp hcx hx17;refine Jq 8 [(0,.g (xD 110 106 ol1_19 (zaa hx17 (f:=zaf.d)) (OV.tmp 108 _)))] [(2,vp 4 0),(9,vp 6 0),(11,.t (.c (.d (.sl 3 ((edT s (za9 s n).1).map zaf.d))))),(12,vI ((zc1 (edT s (za9 s n).1) s i (s.acts.length+1)+zc2 (edT s (za9 s n).1) x12 q:Nat):Int)),(14,vp 7 0),(15,vI ((q:Int) - 1)),(16,vb false),(17,vI ((met ((edT s (za9 s n).1).take j) ((q:Int) - 1) x12:Nat):Int)),(19,vp 8 0),(88,.t (.c (.d (.sl 2 ((zap s).map StD.d))))),(89,vI ((zap s).length:Int)),(90,vN i),(106,.t (.c (.d (.sl 3 ((edT s (za9 s n).1).map zaf.d))))),(107,vI ((edT s (za9 s n).1).length:Int)),(108,vN j)] [(4,.box (zae s)),(6,.box [.d (.sl 1 ((za9 s n).1.locs.map za8)),.d (.sl 2 ((za9 s n).1.vals.map ziD))]),(7,.box [.d (.sl 1 (x12.locs.map za8)),.d (.sl 2 (x12.vals.map ziD))]),(8,.box [.d (.raw (.int .i64 x17.act)),.d (.sl 1 (x17.to_.locs.map za8)),.d (.sl 2 (x17.to_.vals.map ziD))])] h fun a w h=>?_
    rcases Bool.eq_false_or_eq_true (x17.act == ((q:Int) - 1)) with hc22 | hc25
    ·have hc22':=hc22;(try simp at hc22');refine Jq 9 [(3,.cmp (op:=.eql) (m:=x17.act) (n:=((q:Int) - 1)) (b:=true) .i64 hc22),(8,.call (zhd x17.to_ x12 (M:=6) (by decide) gx17 gx12) kr_9)] [(2,vp 4 0),(9,vp 6 0),(11,.t (.c (.d (.sl 3 ((edT s (za9 s n).1).map zaf.d))))),(12,vI ((zc1 (edT s (za9 s n).1) s i (s.acts.length+1)+zc2 (edT s (za9 s n).1) x12 q:Nat):Int)),(14,vp 7 0),(15,vI ((q:Int) - 1)),(16,vb false),(17,vI ((met ((edT s (za9 s n).1).take j) ((q:Int) - 1) x12:Nat):Int)),(88,.t (.c (.d (.sl 2 ((zap s).map StD.d))))),(89,vI ((zap s).length:Int)),(90,vN i),(106,.t (.c (.d (.sl 3 ((edT s (za9 s n).1).map zaf.d))))),(107,vI ((edT s (za9 s n).1).length:Int)),(108,vN j),(121,vb (zbu x17.to_ x12))] [(4,.box (zae s)),(6,.box [.d (.sl 1 ((za9 s n).1.locs.map za8)),.d (.sl 2 ((za9 s n).1.vals.map ziD))]),(7,.box [.d (.sl 1 (x12.locs.map za8)),.d (.sl 2 (x12.vals.map ziD))])] h fun a w h=>?_;refine cS (zbu x17.to_ x12) h (fun hc23=>?_) (fun hc24=>?_)
     ·refine Jl 9 [(1,.add .i64 (m:=((met ((edT s (za9 s n).1).take j) ((q:Int) - 1) x12:Nat):Int)) (n:=1) i6)] [(2,vp 4 0),(9,vp 6 0),(11,.t (.c (.d (.sl 3 ((edT s (za9 s n).1).map zaf.d))))),(12,vI ((zc1 (edT s (za9 s n).1) s i (s.acts.length+1)+zc2 (edT s (za9 s n).1) x12 q:Nat):Int)),(14,vp 7 0),(15,vI ((q:Int) - 1)),(16,vb false),(17,vI (((met ((edT s (za9 s n).1).take j) ((q:Int) - 1) x12:Nat):Int)+1)),(88,.t (.c (.d (.sl 2 ((zap s).map StD.d))))),(89,vI ((zap s).length:Int)),(90,vN i),(106,.t (.c (.d (.sl 3 ((edT s (za9 s n).1).map zaf.d))))),(107,vI ((edT s (za9 s n).1).length:Int)),(108,vN j)] h fun a w h=>?_;refine zac (za0 (Jl 9 [(0,.j1 j)] [(2,vp 4 0),(9,vp 6 0),(11,.t (.c (.d (.sl 3 ((edT s (za9 s n).1).map zaf.d))))),(12,vI ((zc1 (edT s (za9 s n).1) s i (s.acts.length+1)+zc2 (edT s (za9 s n).1) x12 q:Nat):Int)),(14,vp 7 0),(15,vI ((q:Int) - 1)),(16,vb false),(17,vI (((met ((edT s (za9 s n).1).take j) ((q:Int) - 1) x12:Nat):Int)+1)),(88,.t (.c (.d (.sl 2 ((zap s).map StD.d))))),(89,vI ((zap s).length:Int)),(90,vN i),(106,.t (.c (.d (.sl 3 ((edT s (za9 s n).1).map zaf.d))))),(107,vI ((edT s (za9 s n).1).length:Int)),(108,vI ((j:Int)+1))] h fun a w h=>?_));refine za0 ?_;replace h:=h.conv (f':=F.of [(2,vp 4 0),(9,vp 6 0),(11,.t (.c (.d (.sl 3 ((edT s (za9 s n).1).map zaf.d))))),(12,vI ((zc1 (edT s (za9 s n).1) s i (s.acts.length+1)+zc2 (edT s (za9 s n).1) x12 q:Nat):Int)),(14,vp 7 0),(15,vI ((q:Int) - 1)),(16,vb false),(17,vI ((met ((edT s (za9 s n).1).take (j+1)) ((q:Int) - 1) x12:Nat):Int)),(88,.t (.c (.d (.sl 2 ((zap s).map StD.d))))),(89,vI ((zap s).length:Int)),(90,vN i),(106,.t (.c (.d (.sl 3 ((edT s (za9 s n).1).map zaf.d))))),(107,vI ((edT s (za9 s n).1).length:Int)),(108,vI ((j:Int)+1))] [(4,.box (zae s)),(6,.box [.d (.sl 1 ((za9 s n).1.locs.map za8)),.d (.sl 2 ((za9 s n).1.vals.map ziD))]),(7,.box [.d (.sl 1 (x12.locs.map za8)),.d (.sl 2 (x12.vals.map ziD))])]) (by rw [show (((met ((edT s (za9 s n).1).take j) ((q:Int) - 1) x12:Nat):Int)+1:Int)=((met ((edT s (za9 s n).1).take (j+1)) ((q:Int) - 1) x12:Nat):Int) from (by rw [met_yes hx17 hc22 hc23];rfl)]);refine zah (x:=j) (y:=j+1) h ?_ ?_
      ·have:=zak hx17;show j+1<=(edT s (za9 s n).1).length;omega
      show (edT s (za9 s n).1).length - (j+1)<(edT s (za9 s n).1).length - j;have:=zak hx17;omega
     refine qU (zac (za0 (Jl 9 [(0,.j1 j)] [(2,vp 4 0),(9,vp 6 0),(11,.t (.c (.d (.sl 3 ((edT s (za9 s n).1).map zaf.d))))),(12,vI ((zc1 (edT s (za9 s n).1) s i (s.acts.length+1)+zc2 (edT s (za9 s n).1) x12 q:Nat):Int)),(14,vp 7 0),(15,vI ((q:Int) - 1)),(16,vb false),(17,vI ((met ((edT s (za9 s n).1).take j) ((q:Int) - 1) x12:Nat):Int)),(88,.t (.c (.d (.sl 2 ((zap s).map StD.d))))),(89,vI ((zap s).length:Int)),(90,vN i),(106,.t (.c (.d (.sl 3 ((edT s (za9 s n).1).map zaf.d))))),(107,vI ((edT s (za9 s n).1).length:Int)),(108,vI ((j:Int)+1))] h fun a w h=>?_)));refine za0 ?_;replace h:=h.conv (f':=F.of [(2,vp 4 0),(9,vp 6 0),(11,.t (.c (.d (.sl 3 ((edT s (za9 s n).1).map zaf.d))))),(12,vI ((zc1 (edT s (za9 s n).1) s i (s.acts.length+1)+zc2 (edT s (za9 s n).1) x12 q:Nat):Int)),(14,vp 7 0),(15,vI ((q:Int) - 1)),(16,vb false),(17,vI ((met ((edT s (za9 s n).1).take (j+1)) ((q:Int) - 1) x12:Nat):Int)),(88,.t (.c (.d (.sl 2 ((zap s).map StD.d))))),(89,vI ((zap s).length:Int)),(90,vN i),(106,.t (.c (.d (.sl 3 ((edT s (za9 s n).1).map zaf.d))))),(107,vI ((edT s (za9 s n).1).length:Int)),(108,vI ((j:Int)+1))] [(4,.box (zae s)),(6,.box [.d (.sl 1 ((za9 s n).1.locs.map za8)),.d (.sl 2 ((za9 s n).1.vals.map ziD))]),(7,.box [.d (.sl 1 (x12.locs.map za8)),.d (.sl 2 (x12.vals.map ziD))])]) (by rw [show (((met ((edT s (za9 s n).1).take j) ((q:Int) - 1) x12:Nat):Int):Int)=((met ((edT s (za9 s n).1).take (j+1)) ((q:Int) - 1) x12:Nat):Int) from (by rw [met_no hx17 (.inr hc24)])]);refine zah (x:=j) (y:=j+1) h ?_ ?_
     ·have:=zak hx17;show j+1<=(edT s (za9 s n).1).length;omega
     show (edT s (za9 s n).1).length - (j+1)<(edT s (za9 s n).1).length - j;have:=zak hx17;omega
    have hc25':=hc25;(try simp at hc25');refine Jq 9 [(3,.cmp (op:=.eql) (m:=x17.act) (n:=((q:Int) - 1)) (b:=false) .i64 hc25)] [(2,vp 4 0),(9,vp 6 0),(11,.t (.c (.d (.sl 3 ((edT s (za9 s n).1).map zaf.d))))),(12,vI ((zc1 (edT s (za9 s n).1) s i (s.acts.length+1)+zc2 (edT s (za9 s n).1) x12 q:Nat):Int)),(14,vp 7 0),(15,vI ((q:Int) - 1)),(16,vb false),(17,vI ((met ((edT s (za9 s n).1).take j) ((q:Int) - 1) x12:Nat):Int)),(88,.t (.c (.d (.sl 2 ((zap s).map StD.d))))),(89,vI ((zap s).length:Int)),(90,vN i),(106,.t (.c (.d (.sl 3 ((edT s (za9 s n).1).map zaf.d))))),(107,vI ((edT s (za9 s n).1).length:Int)),(108,vN j),(121,vb false)] [(4,.box (zae s)),(6,.box [.d (.sl 1 ((za9 s n).1.locs.map za8)),.d (.sl 2 ((za9 s n).1.vals.map ziD))]),(7,.box [.d (.sl 1 (x12.locs.map za8)),.d (.sl 2 (x12.vals.map ziD))])] h fun a w h=>?_;refine zbj false h rfl nofun (fun _=>?_)
    refine qU (zac (za0 (Jl 9 [(0,.j1 j)] [(2,vp 4 0),(9,vp 6 0),(11,.t (.c (.d (.sl 3 ((edT s (za9 s n).1).map zaf.d))))),(12,vI ((zc1 (edT s (za9 s n).1) s i (s.acts.length+1)+zc2 (edT s (za9 s n).1) x12 q:Nat):Int)),(14,vp 7 0),(15,vI ((q:Int) - 1)),(16,vb false),(17,vI ((met ((edT s (za9 s n).1).take j) ((q:Int) - 1) x12:Nat):Int)),(88,.t (.c (.d (.sl 2 ((zap s).map StD.d))))),(89,vI ((zap s).length:Int)),(90,vN i),(106,.t (.c (.d (.sl 3 ((edT s (za9 s n).1).map zaf.d))))),(107,vI ((edT s (za9 s n).1).length:Int)),(108,vI ((j:Int)+1))] h fun a w h=>?_)));refine za0 ?_;replace h:=h.conv (f':=F.of [(2,vp 4 0),(9,vp 6 0),(11,.t (.c (.d (.sl 3 ((edT s (za9 s n).1).map zaf.d))))),(12,vI ((zc1 (edT s (za9 s n).1) s i (s.acts.length+1)+zc2 (edT s (za9 s n).1) x12 q:Nat):Int)),(14,vp 7 0),(15,vI ((q:Int) - 1)),(16,vb false),(17,vI ((met ((edT s (za9 s n).1).take (j+1)) ((q:Int) - 1) x12:Nat):Int)),(88,.t (.c (.d (.sl 2 ((zap s).map StD.d))))),(89,vI ((zap s).length:Int)),(90,vN i),(106,.t (.c (.d (.sl 3 ((edT s (za9 s n).1).map zaf.d))))),(107,vI ((edT s (za9 s n).1).length:Int)),(108,vI ((j:Int)+1))] [(4,.box (zae s)),(6,.box [.d (.sl 1 ((za9 s n).1.locs.map za8)),.d (.sl 2 ((za9 s n).1.vals.map ziD))]),(7,.box [.d (.sl 1 (x12.locs.map za8)),.d (.sl 2 (x12.vals.map ziD))])]) (by rw [show (((met ((edT s (za9 s n).1).take j) ((q:Int) - 1) x12:Nat):Int):Int)=((met ((edT s (za9 s n).1).take (j+1)) ((q:Int) - 1) x12:Nat):Int) from (by rw [met_no hx17 (.inl hc25)])]);refine zah (x:=j) (y:=j+1) h ?_ ?_
    ·have:=zak hx17;show j+1<=(edT s (za9 s n).1).length;omega
    show (edT s (za9 s n).1).length - (j+1)<(edT s (za9 s n).1).length - j;have:=zak hx17;omega
   refine wp_exit (zad (zad (za4 (za0 (qW ?_)))));replace h:=h.conv (f':=F.of [(2,vp 4 0),(9,vp 6 0),(11,.t (.c (.d (.sl 3 ((edT s (za9 s n).1).map zaf.d))))),(12,vI ((zc1 (edT s (za9 s n).1) s i (s.acts.length+1)+zc2 (edT s (za9 s n).1) x12 q:Nat):Int)),(14,vp 7 0),(15,vI ((q:Int) - 1)),(16,vb false),(17,vI (0:Int)),(88,.t (.c (.d (.sl 2 ((zap s).map StD.d))))),(89,vI ((zap s).length:Int)),(90,vN i),(106,.t (.c (.d (.sl 3 ((edT s (za9 s n).1).map zaf.d))))),(107,vI ((edT s (za9 s n).1).length:Int)),(108,vN j),(109,vb (decide ((j:Int)<((edT s (za9 s n).1).length:Int))))] [(4,.box (zae s)),(6,.box [.d (.sl 1 ((za9 s n).1.locs.map za8)),.d (.sl 2 ((za9 s n).1.vals.map ziD))]),(7,.box [.d (.sl 1 (x12.locs.map za8)),.d (.sl 2 (x12.vals.map ziD))])]) (by rw [show (((met ((edT s (za9 s n).1).take j) ((q:Int) - 1) x12:Nat):Int):Int)=(0:Int) from (by rw [List.take_of_length_le (by have:=dF hc26;omega),hm9];rfl)]);refine Jq 9 [(2,.cmp (op:=.eql) (m:=(0:Int)) (n:=1) (b:=false) .i64 (show ((0:Int) == 1)=false from by decide)),(3,.cmpb .neq (m:=false) (n:=false) (b:=false) (.inr ⟨rfl,(show (false != false)=false by simp).symm⟩)),(6,.cmp (op:=.gtr) (m:=(0:Int)) (n:=1) (b:=false) .i64 (show (decide ((0:Int)>1))=false from by decide))] [(2,vp 4 0),(9,vp 6 0),(11,.t (.c (.d (.sl 3 ((edT s (za9 s n).1).map zaf.d))))),(12,vI ((zc1 (edT s (za9 s n).1) s i (s.acts.length+1)+zc2 (edT s (za9 s n).1) x12 q:Nat):Int)),(14,vp 7 0),(15,vI ((q:Int) - 1)),(17,vI (0:Int)),(88,.t (.c (.d (.sl 2 ((zap s).map StD.d))))),(89,vI ((zap s).length:Int)),(90,vN i),(132,vb false)] [(4,.box (zae s)),(6,.box [.d (.sl 1 ((za9 s n).1.locs.map za8)),.d (.sl 2 ((za9 s n).1.vals.map ziD))]),(7,.box [.d (.sl 1 (x12.locs.map za8)),.d (.sl 2 (x12.vals.map ziD))])] h fun a w h=>?_;refine zbj false h rfl nofun (fun _=>?_)
   refine qU (za0 (Jl 9 [(2,.add .i64 (m:=((zc1 (edT s (za9 s n).1) s i (s.acts.length+1)+zc2 (edT s (za9 s n).1) x12 q:Nat):Int)) (n:=(0:Int)) i6)] [(2,vp 4 0),(9,vp 6 0),(11,.t (.c (.d (.sl 3 ((edT s (za9 s n).1).map zaf.d))))),(12,vI (((zc1 (edT s (za9 s n).1) s i (s.acts.length+1)+zc2 (edT s (za9 s n).1) x12 q:Nat):Int)+(0:Int))),(14,vp 7 0),(15,vI ((q:Int) - 1)),(88,.t (.c (.d (.sl 2 ((zap s).map StD.d))))),(89,vI ((zap s).length:Int)),(90,vN i)] h fun a w h=>?_));refine zac (za0 (Jl 9 [(1,.add .i64 (m:=((q:Int) - 1)) (n:=1) i6)] [(2,vp 4 0),(9,vp 6 0),(11,.t (.c (.d (.sl 3 ((edT s (za9 s n).1).map zaf.d))))),(12,vI (((zc1 (edT s (za9 s n).1) s i (s.acts.length+1)+zc2 (edT s (za9 s n).1) x12 q:Nat):Int)+(0:Int))),(14,vp 7 0),(15,vI (((q:Int) - 1)+1)),(88,.t (.c (.d (.sl 2 ((zap s).map StD.d))))),(89,vI ((zap s).length:Int)),(90,vN i)] h fun a w h=>?_));refine za0 ?_;replace h:=h.conv (f':=F.of [(2,vp 4 0),(9,vp 6 0),(11,.t (.c (.d (.sl 3 ((edT s (za9 s n).1).map zaf.d))))),(12,vI ((zc1 (edT s (za9 s n).1) s i (s.acts.length+1)+zc2 (edT s (za9 s n).1) x12 (q+1):Nat):Int)),(14,vp 7 0),(15,vI (((q:Int) - 1)+1)),(88,.t (.c (.d (.sl 2 ((zap s).map StD.d))))),(89,vI ((zap s).length:Int)),(90,vN i)] [(4,.box (zae s)),(6,.box [.d (.sl 1 ((za9 s n).1.locs.map za8)),.d (.sl 2 ((za9 s n).1.vals.map ziD))]),(7,.box [.d (.sl 1 (x12.locs.map za8)),.d (.sl 2 (x12.vals.map ziD))])]) (by rw [show (((zc1 (edT s (za9 s n).1) s i (s.acts.length+1)+zc2 (edT s (za9 s n).1) x12 q:Nat):Int)+(0:Int):Int)=((zc1 (edT s (za9 s n).1) s i (s.acts.length+1)+zc2 (edT s (za9 s n).1) x12 (q+1):Nat):Int) from (by have h8:zc2 (edT s (za9 s n).1) x12 (q+1)=zc2 (edT s (za9 s n).1) x12 q+met (edT s (za9 s n).1) ((q:Int) - 1) x12:=rfl;omega)]);replace h:=h.conv (f':=F.of [(2,vp 4 0),(9,vp 6 0),(11,.t (.c (.d (.sl 3 ((edT s (za9 s n).1).map zaf.d))))),(12,vI ((zc1 (edT s (za9 s n).1) s i (s.acts.length+1)+zc2 (edT s (za9 s n).1) x12 (q+1):Nat):Int)),(14,vp 7 0),(15,vI ((q:Int)+1 - 1)),(88,.t (.c (.d (.sl 2 ((zap s).map StD.d))))),(89,vI ((zap s).length:Int)),(90,vN i)] [(4,.box (zae s)),(6,.box [.d (.sl 1 ((za9 s n).1.locs.map za8)),.d (.sl 2 ((za9 s n).1.vals.map ziD))]),(7,.box [.d (.sl 1 (x12.locs.map za8)),.d (.sl 2 (x12.vals.map ziD))])]) (by rw [show (((q:Int) - 1)+1:Int)=((q:Int)+1 - 1) from (by omega)]);refine zah (x:=q) (y:=q+1) h ?_ ?_
   ·have:=dT hc14;show q+1<=s.acts.length+1;omega
   show s.acts.length+1 - (q+1)<s.acts.length+1 - q;have:=dT hc14;omega
  refine wp_exit (zad (zad (za4 (zac (za0 (Jn 9 [(0,.j1 i)] [(2,vp 4 0),(9,vp 6 0),(11,.t (.c (.d (.sl 3 ((edT s (za9 s n).1).map zaf.d))))),(12,vI ((zc1 (edT s (za9 s n).1) s i (s.acts.length+1)+zc2 (edT s (za9 s n).1) x12 q:Nat):Int)),(88,.t (.c (.d (.sl 2 ((zap s).map StD.d))))),(89,vI ((zap s).length:Int)),(90,vI ((i:Int)+1))] [(4,.box (zae s)),(6,.box [.d (.sl 1 ((za9 s n).1.locs.map za8)),.d (.sl 2 ((za9 s n).1.vals.map ziD))])] h fun a w h=>?_))))));refine za0 ?_;replace h:=h.conv (f':=F.of [(2,vp 4 0),(9,vp 6 0),(11,.t (.c (.d (.sl 3 ((edT s (za9 s n).1).map zaf.d))))),(12,vI ((zc1 (edT s (za9 s n).1) s (i+1) (s.acts.length+1):Nat):Int)),(88,.t (.c (.d (.sl 2 ((zap s).map StD.d))))),(89,vI ((zap s).length:Int)),(90,vI ((i:Int)+1))] [(4,.box (zae s)),(6,.box [.d (.sl 1 ((za9 s n).1.locs.map za8)),.d (.sl 2 ((za9 s n).1.vals.map ziD))])]) (by rw [show (((zc1 (edT s (za9 s n).1) s i (s.acts.length+1)+zc2 (edT s (za9 s n).1) x12 q:Nat):Int):Int)=((zc1 (edT s (za9 s n).1) s (i+1) (s.acts.length+1):Nat):Int) from (by rw [show q=s.acts.length+1 by have:=dF hc27;omega,show x12=stI s i from (all_at hx12).2];rfl)]);refine zah (x:=i) (y:=i+1) h ?_ ?_
  ·have:=zak hx12;show i+1<=(zap s).length;omega
  show (zap s).length - (i+1)<(zap s).length - i;have:=zak hx12;omega
 refine wp_exit (zad (zad (za4 (za0 ?_))));replace h:=h.conv (f':=F.of [(2,vp 4 0),(9,vp 6 0),(11,.t (.c (.d (.sl 3 ((edT s (za9 s n).1).map zaf.d))))),(12,vI ((edT s (za9 s n).1).length:Int)),(88,.t (.c (.d (.sl 2 ((zap s).map StD.d))))),(89,vI ((zap s).length:Int)),(90,vN i),(91,vb (decide ((i:Int)<((zap s).length:Int))))] [(4,.box (zae s)),(6,.box [.d (.sl 1 ((za9 s n).1.locs.map za8)),.d (.sl 2 ((za9 s n).1.vals.map ziD))])]) (by rw [show (((zc1 (edT s (za9 s n).1) s i (s.acts.length+1):Nat):Int):Int)=((edT s (za9 s n).1).length:Int) from (by rw [show i=cN s by have:=dF hc28;omega,met_total hp hcn (fun e he=>ed_each hcn hcx he)])]);refine Jq 9 [(2,.len (za2 3 zaf.d (edT s (za9 s n).1))),(3,.cmp (op:=.eql) (m:=((edT s (za9 s n).1).length:Int)) (n:=((edT s (za9 s n).1).length:Int)) (b:=true) .i64 (show (((edT s (za9 s n).1).length:Int) == ((edT s (za9 s n).1).length:Int))=true by simp))] [(4,vb true)] [] h fun a w h=>?_;refine qV ?_;refine rT (.c (.d (.raw (.bool true)))) h rfl ?_;rfl
section
open Go.WideShapes
section
variable {w:World} {n:Nat}
theorem rep_raw {t e:TypeId} (hu:Tryz.prog.underlying t=some (.slice e)):zes w n t rawD (fun _=>True):=fun H enc base spare held fuel cs x hn hx=>by
 rcases DataW.trod_slice hu hx with ⟨rfl,_⟩ | ⟨a,len,cap,elems,rest,m,rfl,rfl,_⟩
 ·exact ⟨.raw _,trivial,DR.raw _ rfl,trivial⟩
 ·exact ⟨.raw _,trivial,DR.raw _ rfl,trivial⟩
theorem rep_strs:zes w n 22 (slD 1 zcz) (fun xs=>xs.length<=maxLen/\∀ x ∈ xs,x.size<=maxLen) :=
 zd3 (k:=1) Tryz.underlying22 (by kernel_rfl) (by decide) (fun _=>rfl) (rep_str Tryz.underlying9)
theorem rep_Rel:zes w n 32 zf4.d (fun r=>TLb r.t) :=
 ((zcd (n:=n) Tryz.underlying32 (by kernel_rfl) (.cons (k0:=3) rfl (by kernel_rfl) rep_Term (.cons (k0:=1) rfl (by kernel_rfl) (zh4 Tryz.underlying4) .nil))).map (fun p=>⟨p.1,p.2.1⟩) (fun _=>rfl) fun _ h=>h.1).mono (Nat.le_succ n)
theorem rep_Form:∀ {n:Nat}, zes w n 35 za5.d za5.lb
 | 0=>zes.zero
 | n+1=>(zcd (n:=n) Tryz.underlying35 (by kernel_rfl) (.cons (k0:=1) rfl (by kernel_rfl) (zge Tryz.underlying3) (.cons (k0:=4) rfl (by kernel_rfl) rep_Rel (.cons (k0:=1) rfl (by kernel_rfl) (zd3 (k:=6) Tryz.underlying33 (by kernel_rfl) (by decide) za5.d_len rep_Form) .nil)))).map (fun p=>⟨p.1,p.2.1,p.2.2.1⟩) (fun _=>(za5.d_eq _).trans rfl) fun _ h=>(za5.lb_eq _).2 ⟨⟨h.2.1,Nat.le_trans h.2.2.1.1 (by decide)⟩,h.2.2.1.2⟩
theorem rep_Bound:zes w n 89 zan.d (fun b=>Lb b.lo.abs/\Lb b.hi.abs) :=
 ((zcd (n:=n) Tryz.underlying89 (by kernel_rfl) (.cons (k0:=1) rfl (by kernel_rfl) (zh4 Tryz.underlying4) (.cons (k0:=2) rfl (by kernel_rfl) rep_ZI (.cons (k0:=2) rfl (by kernel_rfl) rep_ZI .nil)))).map (fun p=>⟨p.1,p.2.1,p.2.2.1⟩) (fun _=>rfl) fun _ h=>⟨h.2.1,h.2.2.1⟩).mono (Nat.le_succ n)
theorem rep_Move:zes w n 105 zab.d (fun m=>TLb m.t) :=
 ((zcd (n:=n) Tryz.underlying105 (by kernel_rfl) (.cons (k0:=1) rfl (by kernel_rfl) (zge Tryz.underlying3) (.cons (k0:=1) rfl (by kernel_rfl) (zh4 Tryz.underlying4) (.cons (k0:=3) rfl (by kernel_rfl) rep_Term .nil)))).map (fun p=>⟨p.1,p.2.1,p.2.2.1⟩) (fun _=>rfl) fun _ h=>h.2.2.1).mono (Nat.le_succ n)
theorem rep_Moves:zes w n 94 (slD 5 zab.d) (fun xs=>xs.length<=maxLen/\∀ x ∈ xs,TLb x.t) :=
 zd3 (k:=5) Tryz.underlying94 (by kernel_rfl) (by decide) (fun _=>rfl) rep_Move
theorem rep_Bounds:zes w n 23 (slD 5 zan.d) (fun xs=>xs.length<=maxLen/\∀ x ∈ xs,Lb x.lo.abs/\Lb x.hi.abs) :=
 zd3 (k:=5) Tryz.underlying23 (by kernel_rfl) (by decide) (fun _=>rfl) rep_Bound
theorem rep_Act:zes w n 96 zat.d (fun c=>c.guard.lb/\c.moves.length<=maxLen/\∀ m ∈ c.moves,TLb m.t) :=
 ((zcd (n:=n) Tryz.underlying96 (by kernel_rfl) (.cons (k0:=1) rfl (by kernel_rfl) (zge Tryz.underlying3) (.cons (k0:=1) rfl (by kernel_rfl) (zge Tryz.underlying3) (.cons (k0:=1) rfl (by kernel_rfl) (zge Tryz.underlying3) (.cons (k0:=6) rfl (by kernel_rfl) rep_Form (.cons (k0:=1) rfl (by kernel_rfl) rep_Moves .nil)))))).map (fun p=>⟨p.1,p.2.1,p.2.2.1,p.2.2.2.1,p.2.2.2.2.1⟩) (fun _=>by rw [za5.d_eq];rfl) fun _ h=>⟨h.2.2.2.1,h.2.2.2.2.1⟩).mono (Nat.le_succ n)
theorem rep_Acts:zes w n 37 (slD 10 zat.d) (fun xs=>xs.length<=maxLen/\∀ x ∈ xs,x.guard.lb/\x.moves.length<=maxLen/\∀ m ∈ x.moves,TLb m.t) :=
 zd3 (k:=10) Tryz.underlying37 (by kernel_rfl) (by decide) (fun _=>rfl) rep_Act
end
section
variable {w:World} {n:Nat} {t:TypeId} {α β:Type} {f:α->List D} {good:α->Prop}
def RepS (w:World) (n:Nat) (t:TypeId) {α:Type} (f:α->List D) (good:α->Prop):Prop :=
  ∀ (H:Type) (enc:TypeId × Value->H) (base:Nat) (spare:Nat->Bool) (held:Bool) (fuel:Nat) (cs:List Value) (x:DataW H × List MemPlace),fuel<=n->DataW.trod enc Tryz.prog w base spare held fuel t cs=some x->(∀ q ∈ x.1.weights Tryz.prog t,q<=reachBytes)->∃ a:α,good a/\zb1 (DR (all w)) (f a) cs
theorem zes.s (h:zes w n t f good):RepS w n t f good:=fun H enc base spare held fuel cs x hn hx _=>h H enc base spare held fuel cs x hn hx
theorem RepS.mono {m:Nat} (h:RepS w n t f good) (hm:m<=n):RepS w m t f good:=fun H enc base spare held fuel cs x hn hx=>h H enc base spare held fuel cs x (by omega) hx
theorem RepS.map {f':β->List D} {good':β->Prop} (h:RepS w n t f good) (g:α->β) (hf:∀ a,f' (g a)=f a) (hg:∀ a,good a->good' (g a)):RepS w n t f' good':=fun H enc base spare held fuel cs x hn hx hw=>by
 obtain ⟨a,h1,h2⟩:=h H enc base spare held fuel cs x hn hx hw
 exact ⟨g a,hg a h1,by rw [hf];exact h2⟩
theorem weights_all {H:Type} {P:Program} {e:TypeId} {q:Nat}:∀ {ds:List (DataW H)} {d:DataW H}, d ∈ ds->q ∈ d.weights P e->q ∈ DataW.weightsAll P e ds
 | [],_,h,_=>by cases h
 | c :: ds,d,h,hq=>by
  rw [DataW.weightsAll]
  rcases List.mem_cons.1 h with rfl | h
  ·exact List.mem_append_left _ hq
  ·exact List.mem_append_right _ (weights_all h hq)
theorem rep_sliceS {e:TypeId} {k:Nat} (hu:Tryz.prog.underlying t=some (.slice e)) (hc:Tryz.prog.cellsOf e=k) (hk:0<k) (hl:∀ a,(f a).length=k) (he:RepS w n e f good):RepS w n t (slD k f) (fun xs=>(xs.length<=maxLen/\xs.length*Tryz.prog.bytesOf e<=reachBytes)/\∀ x ∈ xs,good x):=fun H enc base spare held fuel cs x hn hx hw=>by
 rcases DataW.trod_slice hu hx with ⟨rfl,_⟩ | ⟨a,len,cap,elems,rest,m,rfl,rfl,rfl,_,h2,h3,h4,h5,_,_⟩
 ·exact ⟨[],⟨⟨Nat.zero_le _,by rw [List.length_nil,Nat.zero_mul];exact Nat.zero_le _⟩,by simp⟩,DR.nil _ _ _ (fun _=>rfl) (Nat.zero_le _),trivial⟩
 ·rw [hc] at h5
  obtain ⟨xs,hxl,hxs⟩:=listOf (P:=fun i (y:α)=>good y/\∃ cs', w.cells? base (a.add (i*k)) k=some cs'/\zb1 (DR (all w)) (f y) cs') len fun i hi=>by
   have h6:=h5 i hi
   rw [List.getElem?_eq_getElem (by omega)] at h6
   obtain ⟨cs', g1,g2⟩:=Option.bind_eq_some_iff.1 h6
   obtain ⟨y,g3,g4⟩:=he H enc base spare held m cs' _ (by omega) g2 fun q hq=>hw q (by
    simp only [DataW.weights,hu]
    exact List.mem_cons_of_mem _ (List.mem_append_left _ (weights_all (List.mem_map.2 ⟨elems[i],List.getElem_mem _,rfl⟩) hq)))
   exact ⟨y,g3,cs', g1,g4⟩
  have hb9:(elems.length+rest.length)*Tryz.prog.bytesOf e<=reachBytes:=by
   have:=hw ((elems.length+rest.length)*Tryz.prog.bytesOf e) (by simp [DataW.weights,hu])
   exact this
  refine ⟨xs,⟨⟨by omega,Nat.le_trans (Nat.mul_le_mul_right _ (by omega)) hb9⟩,fun y hy=>?_⟩,?_,trivial⟩
  ·obtain ⟨i,hi⟩:=List.mem_iff_getElem?.1 hy
   exact (hxs i y hi).1
  ·show DR (all w) (.sl k (xs.map f)) _
   rcases Nat.eq_zero_or_pos len with h0 | h0
   ·subst h0
    have:xs=[]:=List.length_eq_zero_iff.1 hxl
    subst this
    exact DR.nil _ _ _ (fun e=>by cases e) h3
   ·have cells:∀ i y,xs[i]?=some y->∀ j,j<k->∃ v d,w.cell? ((a.add (i*k)).add j)=some v/\(f y)[j]?=some d/\DR (all w) d v:=fun i y hy j hj=>by
     obtain ⟨_,cs', g1,g2⟩:=hxs i y hy
     obtain ⟨_,g4,g5⟩:=World.cells?_some g1
     obtain ⟨v,g6,g7⟩:=g2.get j (by rw [hl];exact hj)
     exact ⟨v,_,by rw [g5 j hj];exact g6,List.getElem?_eq_getElem (by rw [hl];exact hj),g7⟩
    obtain ⟨y0,hy0⟩:∃ y,xs[0]?=some y:=⟨_,List.getElem?_eq_getElem (by omega)⟩
    obtain ⟨v0,_,c0,_,_⟩:=cells 0 y0 hy0 0 hk
    obtain ⟨b,o,sp⟩:=a
    have hsp:sp=none:=by
     have:=World.cell?_spot c0
     simpa [Addr.add] using this
    subst hsp
    have c0':w.cell? ⟨b,o,none⟩=some v0:=by simpa [Addr.add_mid] using c0
    obtain ⟨arr,ty,fz,hb,_⟩:=cell_at c0'
    have at_:∀ i y,xs[i]?=some y->∀ j,j<k->∃ v d,arr[o+i*k+j]?=some v/\(f y)[j]?=some d/\DR (all w) d v:=fun i y hy j hj=>by
     obtain ⟨v,d,g1,g2,g3⟩:=cells i y hy j hj
     rw [Addr.add_mid,Addr.add_mid] at g1
     obtain ⟨arr', ty', fz', hb', g4⟩:=cell_at g1
     rw [hb] at hb'
     injection hb' with hb'
     injection hb' with e1
     subst e1
     exact ⟨v,d,g4,g2,g3⟩
    have:=DR.sl (H:=all w) k (xs.map f) b o cap arr ty fz (fun i j=>(arr[o+i*k+j]?).getD v0) (by rw [List.length_map];omega) hb (by rw [List.length_map];omega) h3 (fun i hi=>by rw [List.getElem_map];exact hl _)
     (fun i hi j hj=>by
      have hi':i<xs.length:=by simpa using hi
      obtain ⟨v,d,g1,_,_⟩:=at_ i xs[i] (List.getElem?_eq_getElem hi') j hj
      rw [g1];rfl)
     (fun i hi j hj=>by
      have hi':i<xs.length:=by simpa using hi
      have hj':j<k:=by rw [List.getElem_map,hl] at hj;exact hj
      obtain ⟨v,d,g1,g2,g3⟩:=at_ i xs[i] (List.getElem?_eq_getElem hi') j hj'
      have e1:((xs.map f)[i])[j]?=some d:=by rw [List.getElem_map];exact g2
      rw [List.getElem?_eq_getElem hj] at e1
      injection e1 with e1
      rw [e1,g1];exact g3)
    rwa [List.length_map,hxl] at this
def FsS (w:World) (n:Nat) (fs:List Field) (o k:Nat) {α:Type} (f:α->List D) (good:α->Prop):Prop :=
  ∀ (H:Type) (enc:TypeId × Value->H) (base:Nat) (spare:Nat->Bool) (held:Bool) (cs:List Value),(∀ fl ∈ fs,∃ m x,m<=n/\DataW.trod enc Tryz.prog w base spare held m fl.type ((cs.drop fl.offset).take (Tryz.prog.cellsOf fl.type))=some x/\∀ q ∈ x.1.weights Tryz.prog fl.type,q<=reachBytes)->o+k=cs.length->∃ a:α,good a/\zb1 (DR (all w)) (f a) (cs.drop o)
theorem FsS.nil {o:Nat}:FsS w n [] o 0 (fun _:Unit=>[]) (fun _=>True):=fun H enc base spare held cs _ hl=>⟨(),trivial,by rw [List.drop_of_length_le (by omega)];trivial⟩
theorem FsS.cons {fl:Field} {fs:List Field} {o k0 k1:Nat} {f1:β->List D} {good1:β->Prop} (ho:fl.offset=o) (hc:Tryz.prog.cellsOf fl.type=k0) (h0:RepS w n fl.type f good) (h1:FsS w n fs (o+k0) k1 f1 good1) :
  FsS w n (fl :: fs) o (k0+k1) (fun p:α × β=>f p.1++f1 p.2) (fun p=>good p.1/\good1 p.2):=fun H enc base spare held cs hf hl=>by
 obtain ⟨m,x,hm,hx,hw⟩:=hf fl (by simp)
 rw [ho,hc] at hx
 obtain ⟨a,g1,g2⟩:=h0 H enc base spare held m _ x hm hx hw
 obtain ⟨b,g3,g4⟩:=h1 H enc base spare held cs (fun fl' h'=>hf fl' (by simp [h'])) (by omega)
 refine ⟨(a,b),⟨g1,g3⟩,?_⟩
 have e:cs.drop o=(cs.drop o).take k0++cs.drop (o+k0):=by rw [<- List.drop_drop,List.take_append_drop]
 rw [e]
 exact g2.append g4
theorem rep_structS {k:Nat} {fs:Array Field} (hu:Tryz.prog.underlying t=some (.struct fs)) (hc:Tryz.prog.cellsOf t=k) (h:FsS w n fs.toList 0 k f good):RepS w (n+1) t f good:=fun H enc base spare held fuel cs x hn hx hw=>by
 obtain ⟨xs,m,rfl,rfl,h2,h3,h4⟩:=DataW.trod_struct hu hx
 obtain ⟨a,g1,g2⟩:=h H enc base spare held cs (fun fl hfl=>by
  obtain ⟨i,hi⟩:=List.mem_iff_getElem?.1 hfl
  have hi':fs[i]?=some fl:=by simpa using hi
  have:=h4 i fl hi'
  have hlt:i<xs.length:=by rw [h3];exact (Array.getElem?_eq_some_iff.1 hi').1
  rw [List.getElem?_eq_getElem hlt] at this
  exact ⟨m,_,by omega,this,fun q hq=>hw q (by
   simp only [DataW.weights,hu]
   exact DataW.weights_mem_each (j:=i) (t:=fl.type) (by rw [List.getElem?_map,hi];rfl) (by rw [List.getElem?_map,List.getElem?_eq_getElem hlt];rfl) q hq)⟩) (by rw [h2,hc];omega)
 exact ⟨a,g1,by simpa using g2⟩
/-- a struct that came in -/
theorem rep_aggS {fs:Array Field} (hu:Tryz.prog.underlying t=some (.struct fs)) (hr:∀ n,RepS w n t f good) {H:Type} {enc:TypeId × Value->H} {base:Nat} {spare:Nat->Bool} {held:Bool} {r:Reach} {b0:Nat} {v:Value} {d:DataW H} {p:List MemPlace} (hv:Value.okWide Tryz.prog w r b0 t v) (h:DataW.Trod enc Tryz.prog w base spare held t v d p) (hw:∀ q ∈ d.weights Tryz.prog t,q<=reachBytes) :
  ∃ (a:α) (cs:List Value),good a/\v = .agg ⟨cs⟩/\zb1 (DR (all w)) (f a) cs:=by
 obtain ⟨cs,rfl,_⟩:=okWide_struct hu hv
 obtain ⟨fuel,hf⟩:=h
 obtain ⟨a,g1,g2⟩:=hr fuel H enc base spare held fuel _ _ (Nat.le_refl _) hf hw
 exact ⟨a,cs.toList,g1,rfl,g2⟩
end
section
variable {w:World} {n:Nat}
theorem rep_strsS:RepS w n 22 (slD 1 zcz) (fun xs=>(xs.length<=maxLen/\xs.length*Tryz.prog.bytesOf 9<=reachBytes)/\∀ x ∈ xs,x.size<=maxLen) :=
 rep_sliceS (k:=1) Tryz.underlying22 (by kernel_rfl) (by decide) (fun _=>rfl) (rep_str Tryz.underlying9).s
theorem rep_ProcS:RepS w n 93 zaw.d (fun p=>p.locs.length*Tryz.prog.bytesOf 9<=reachBytes) :=
 ((rep_structS (n:=n) Tryz.underlying93 (by kernel_rfl) (.cons (k0:=1) rfl (by kernel_rfl) (rep_str Tryz.underlying9).s (.cons (k0:=1) rfl (by kernel_rfl) rep_strsS (.cons (k0:=1) rfl (by kernel_rfl) (rep_raw Tryz.underlying91).s .nil)))).map (fun p=>⟨p.1,p.2.1,p.2.2.1⟩) (fun _=>rfl) fun _ h=>h.2.1.1.2).mono (Nat.le_succ n)
theorem rep_ProcsS:RepS w n 36 (slD 3 zaw.d) (fun xs=>(xs.length<=maxLen/\xs.length*Tryz.prog.bytesOf 93<=reachBytes)/\∀ x ∈ xs,x.locs.length*Tryz.prog.bytesOf 9<=reachBytes) :=
 rep_sliceS (k:=3) Tryz.underlying36 (by kernel_rfl) (by decide) (fun _=>rfl) rep_ProcS
theorem bytes_str:Tryz.prog.bytesOf 9=16:=by kernel_rfl
theorem rep_SysS:RepS w n 39 zaj.d (fun s=>SysRd s/\zc9 s) :=
 ((rep_structS (n:=n) Tryz.underlying39 (by kernel_rfl) (.cons (k0:=1) rfl (by kernel_rfl) rep_strs.s (.cons (k0:=1) rfl (by kernel_rfl) rep_Bounds.s (.cons (k0:=6) rfl (by kernel_rfl) rep_Form.s (.cons (k0:=1) rfl (by kernel_rfl) rep_ProcsS (.cons (k0:=1) rfl (by kernel_rfl) rep_Acts.s .nil)))))).map (fun p=>⟨p.1,p.2.1,p.2.2.1,p.2.2.2.1,p.2.2.2.2.1⟩) (fun _=>by rw [za5.d_eq];rfl) fun _ h=>⟨⟨h.2.2.1,h.2.1.2,fun c hc=>⟨(h.2.2.2.2.1.2 c hc).1,(h.2.2.2.2.1.2 c hc).2.2⟩,⟨Nat.le_trans h.2.1.1 (by decide),Nat.le_trans h.2.2.2.2.1.1 (by decide)⟩,fun c hc=>Nat.le_trans (h.2.2.2.2.1.2 c hc).2.1 (by decide)⟩,fun p hp=>by
  have h9:=h.2.2.2.1.2 p hp
  rw [bytes_str] at h9
  have h8:reachBytes=140737488351232:=rfl
  omega⟩).mono (Nat.le_succ n)
end
theorem SConfineEdgesW (s:zaj) (n:Int) (hs:SysRd s/\zc9 s):Fn Tryz.prog 3 [] [vd (zaj.d s),vi .i64 n] (vb true) [] :=
 SConfineEdges s n hs.1 hs.2
end
end S
end Go.Proofs.YtdnhcneallkljaaGreat
section
namespace Go.Proofs.YtdnhcneallkljaaGreat.confineEdgesDone
open Go.ChangeShapes Go.WideShapes Go.ChangeAt Go.RowKit
open Go.ChangeMaps (open_string shut_string)
open Go.Proofs.YtdnhcneallkljaaGreat.S

theorem own:ownKnob Tryz.prog.godebug=none:=by kernel_rfl
theorem laidOut:laidOutB Tryz.prog=true:=by kernel_rfl

theorem lifted (os:Os) (started:os.Started) (H:Type) (enc:TypeId × Value->H) :
  ReturnsInHanded {} Tryz.checked os 3 .any (Rows.confineEdgesSpec.pre6 enc Tryz.prog Tryz.f3 Rows.confineEdgesRow.domain false) (Rows.confineEdgesSpec.post enc Tryz.prog Tryz.f3 false true false false):=by
 refine returnsInHanded_of_change_sized (C:=Tryz.checked) own started (by kernel_rfl) Tryz.func3
  (ChangeSpec.witness6 (enc:=enc) (C:=Tryz.checked) false ⟨#[],#[.agg #[.slice none 0 0,.slice none 0 0,.int .i64 0,.slice none 0 0,.bool false,.slice none 0 0,.bool false,.slice none 0 0,.slice none 0 0,.slice none 0 0],.int .i64 0],[]⟩ 12 (by kernel_rfl) (by kernel_rfl) (by kernel_rfl) (by kernel_rfl)) ?_
 intro W base args ds gs before hval0 hW hcnd hsz _
 have hval:∀ (j:Nat) t v,Tryz.f3.params[j]?=some t->args[j]?=some v->Value.okWide Tryz.prog W .any base t v:=hval0
 have hW':=hW
 obtain ⟨p,q,hA0,hV,rfl,hfz,hnd⟩:=hW
 have hA:DataW.TrodAll enc Tryz.prog W 0 (fun _=>true) true Tryz.f3.params.toList args.toList ds p:=hA0
 rw [Tryz.params3] at hA hval hsz
 obtain ⟨v0,vs0,d0,ds0,p0,q0,hargs,rfl,rfl,h0,r0⟩:=trodAll_cons hA
 obtain ⟨v1,vs1,d1,ds1,p1,q1,rfl,rfl,rfl,h1,r1⟩:=trodAll_cons r0
 obtain ⟨rfl,rfl,rfl⟩:=trodAll_nil r1
 obtain rfl:args=#[v0,v1]:=by cases args;simp_all
 obtain ⟨rfl,rfl⟩:=trodVars_none hV
 have k0:=h0
 have lt0:∀ x ∈ p0,x.block<W.heap.size:=by obtain ⟨m,hm⟩:=k0;exact DataW.trod_lt m _ _ _ hm
 obtain ⟨a0,cs0,g0,rfl,dr0⟩:=rep_aggS Tryz.underlying39 (fun _=>rep_SysS) (hval 0 39 v0 rfl rfl) h0 (fun n hn=>of_decide_eq_true (List.all_eq_true.1 hsz n (DataW.weights_mem_each (j:=0) rfl rfl n hn)))
 obtain ⟨a1,rfl,rfl,rfl,g10⟩:=open_int Tryz.underlying3 (hval 1 3 v1 rfl rfl) h1
 clear hA0 hval0
 refine ((SConfineEdgesW a0 a1 g0).calls (w:=W) (vals:=[.agg ⟨cs0⟩,.int .i64 a1]) fun B=>⟨dr_vd dr0 B,DR.raw _ rfl,trivial⟩).mono fun e W' ⟨he,bel⟩=>?_
 subst he
 exact ⟨_,rfl,_,_,_,[],_,[],hW', trodAll_mk1 (shut_bool Tryz.underlying4 _),(trodAll_cons_mk (Below.trod laidOut (by kernel_rfl) (of_decide_eq_true (by kernel_rfl)) k0 bel lt0) (trodAll_cons_mk (shut_int Tryz.underlying3 g10) trodAll_mk0)),rfl,bel.below.frame _,fun h=>by cases h⟩

theorem over:Rows.confineEdgesRow.holds Tryz.pinned (OpenSpec.ofChange Rows.confineEdgesSpec) :=
 OpenClaim.holds_of_wide 3 Tryz.f3 rfl rfl rfl rfl rfl rfl rfl ⟨rfl,rfl,rfl,rfl,rfl⟩ rfl rfl rfl rfl rfl (by kernel_rfl) Tryz.func3 (by kernel_rfl)
  (of_decide_eq_true (by kernel_rfl)) (by unfold Func.isWrapper;first | (rw [if_pos (by decide +kernel)];kernel_rfl) | (rw [if_neg (by decide +kernel)];exact ⟨rfl,rfl⟩))
  (fun os started H enc _=>lifted os started H enc)

theorem proved:Rows.ConfineEdgesSaid:=over
end Go.Proofs.YtdnhcneallkljaaGreat.confineEdgesDone
end
