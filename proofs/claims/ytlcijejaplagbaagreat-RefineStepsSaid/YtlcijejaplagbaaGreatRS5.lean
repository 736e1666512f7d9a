/-
  Part 5 of the proof of the statement RefineSteps. It holds for every input.
-/
import Derived.Test.YtlcijejaplagbaaGreatRS4
import Derived.Test.YtlcijejaplagbaaGreatRS2
import Derived.SizedLaws
import Derived.Shelf.Sort.Plain
import Derived.Ground.Names2Prog
import Derived.Shelf.Slices.CompactI
import Derived.Shelf.Slices.In.SortNone
import Derived.Test.YtlcijejaplagbaaGreatProg
import Derived.Test.YtlcijejaplagbaaGreatRS3
import Derived.Lib.RowBridge
import Derived.Test.YtlcijejaplagbaaGreatRS1
set_option maxRecDepth 100000
set_option maxHeartbeats 20000000
open Go.RowKit
open Bool renaming true_and->bC,eq_false_or_eq_true->bG,and_eq_true->bU,and_false->c7
open Nat renaming zero_le->bE,le_trans->bF,le_refl->bI,le_succ->cF
open List renaming length_map->bJ,take_of_length_le->bK,mem_map->bL,mem_singleton->bN,map_cons->bP,mem_cons_self->bS,mem_append->bV,foldl_cons->bW,take_add_one->bX,mem_cons_of_mem->b5,mem_of_getElem?->b7,sum_cons->b8,length_take->cC,append_nil->cD,map_nil->cG,flatten_cons->cH,flatten_nil->cJ,drop_of_length_le->cK,all_cons->cL,length_cons->cM,mem_cons->cN,mem_of_mem_take->cO,getElem?_eq_some_iff->cP,not_mem_nil->cQ,mem_of_find?_eq_some->cR,length_append->cT,take_append_drop->cU,map_append->cV,length_zipWith->cW,foldl_append->cX,drop_eq_getElem_cons->cY,range_succ->cZ,append_assoc->c6,getElem?_eq_none->c8,getElem?_eq_getElem->dA,all_eq_true->dB,find?_cons->dC,getElem?_set_self->dD,length_eq_zero_iff->dE,zipWith_cons_cons->dG
open Int renaming toNat_of_nonneg->b6
open Option renaming getD_some->b9
namespace Go.Proofs.YtlcijejaplagbaaGreat
namespace S
variable {s:zam} {i k:Int} {a:zap} {v M j n m:Nat} {x:StD} {ps:List za8} {bs:List Bool} {b:Bool} {f:za0} {ks fs:List za0} {α β:Type} {picks:List ZI} {t:zag} {H:Im} {B:Bl}
theorem ki_0:Sz Tryz.prog 73 10 true:=Sz.mk' (by kernel_rfl) Tryz.underlying73 _ rfl
theorem ki_1:SlT Tryz.prog 37 73 10:=SlT.mk' Tryz.underlying37 (by kernel_rfl)
theorem ki_2:SlT Tryz.prog 71 75 5:=SlT.mk' Tryz.underlying71 (by kernel_rfl)
theorem ki_5:Sz Tryz.prog 75 5 true:=Sz.mk' (by kernel_rfl) Tryz.underlying75 _ rfl
def zdh (s:zam) (i:Int):Option zap:=if 0<=i then s.acts[i.toNat]? else none
def form0:za0:=⟨0,⟨⟨[],zft⟩,false⟩,[]⟩
def act0:zap:=⟨0,0,0,form0,[]⟩
def mv0:zai:=⟨0,false,⟨[],zft⟩⟩
def zif (a:zap) (v:Nat):Option zai:=a.moves.find? fun m=>m.v == (v:Int)
def zbw (a:zap) (v:Nat):Bool:=match zif a v with | some m=>m.any | none=>false
def zjs (x:StD) (a:zap) (v:Nat):ZI:=match zif a v with | none=>ZI.of ((x.vals[v]?).getD zft).val | some m=>if m.any=true then zft else ZI.of (zdi m.t x.vals)
def zf5 (s:zam) (m:zai):Bool:=decide (m.v>=0) && decide (m.v<(s.vars.length:Int))
def zar (s:zam) (x:StD) (c:zap):Bool:=(zed s x && (decide (0<=c.proc/\c.proc<(s.procs.length:Int)) && ((x.locs[c.proc.toNat]?).getD 0 == c.from_) && decide (0<=c.to_/\c.to_<(zf7 s c.proc.toNat:Int)))) && (!(c.moves.any fun m=>!zf5 s m) && c.guard.holds x.vals)
theorem zht (h:zdh s i=some a):∃ k:Nat,i=(k:Int)/\s.acts[k]?=some a:=by
 unfold zdh at h
 split at h
 ·exact ⟨i.toNat,(b6 (by assumption)).symm,h⟩
 ·cases h
theorem actAt_none (h:zdh s i=none):i<0\/(s.acts.length:Int)<=i:=by
 unfold zdh at h
 split at h
 ·have:=List.getElem?_eq_none_iff.1 h;omega
 ·omega
theorem mv_mem {m:zai} (h:zif a v=some m):m ∈ a.moves:=cR h
theorem new_ok {L:Nat} (ha:zgo L a) (hx:zjb M x) (v:Nat):ZOk (L+M+2) (zjs x a v):=by
 unfold zjs
 split
 ·refine ⟨ZI.lb_of _,bF (ZI.len_of ?_) (bF (bI M) (by omega))⟩
  cases hv:x.vals[v]? with
  | none=>exact zer M
  | some z=>have g:=hx.val z (b7 hv);exact Nat.lt_of_lt_of_le (ZI.abs_lt g.1) (zdm g.2)
 ·rename_i m hm
  split
  ·exact ZOk.zero
  ·exact ⟨ZI.lb_of _,bF (val_len (ha.mv m (mv_mem hm)) (by decide) hx.vok (fun p hp=>hp) (bI _)) (by omega)⟩
theorem zhm (h:zed s x=true):x.locs.length=s.procs.length/\x.vals.length=s.vars.length:=by
 unfold zed at h;rw [bU] at h;exact of_decide_eq_true h.1
theorem le5_3:ElZ Tryz.prog 67 4 1:=ElZ.mk' Tryz.underlying67 _ _ rfl rfl (by kernel_rfl) (by kernel_rfl) (by kernel_rfl) (by decide)
theorem le5_9:SlT Tryz.prog 67 4 1:=SlT.mk' Tryz.underlying67 (by kernel_rfl)
structure zcw where
  locs:List Int
  bits:List Bool
def zcw.d (x:zcw):List D:=[.sl 1 (x.locs.map zak),.sl 1 (x.bits.map zd0)]
def litF (r:za8) (b:Bool):za0:=if b=true then zfa r else zi7 (zfa r)
def zhw (ps:List za8):Prop:=ps.length<=1000/\∀ r ∈ ps,TokR 10 r
theorem lit_okB {r:za8} (hr:TOk 20 10 r.t) (b:Bool):(litF r b).okB 400000000 100:=by
 have h:(zfa r).okB 20 11:=zhj (hr.plain (by decide))
 unfold litF
 split
 ·exact za0.okB_mono (by decide) (by decide) _ h
 ·exact zhi (by decide) (by simp) fun g hg=>by rw [bN.1 hg];exact za0.okB_mono (by decide) (by decide) _ (okB_cl (by decide) _ h)
def ze6 (ps:List za8) (bs:List Bool):List za0:=List.zipWith litF ps bs
def zay (ps:List za8) (bs:List Bool):za0:=zca (ze6 ps bs)
theorem cube_at {r:za8} (h:ps[j]?=some r) (k:bs[j]?=some b):(ze6 ps bs).take j++[litF r b]=(ze6 ps bs).take (j+1):=by
 have:(ze6 ps bs)[j]?=some (litF r b):=by unfold ze6;rw [List.getElem?_zipWith,h,k]
 rw [bX,this];rfl
theorem zhp (ps:List za8) (bs:List Bool):(ze6 ps bs).length=min ps.length bs.length:=by unfold ze6;exact cW ..
theorem cube_okB (hps:zhw ps) (bs:List Bool):∀ g ∈ ze6 ps bs,g.okB 400000000 100:=fun g hg=>by
 obtain ⟨j,hj,rfl⟩:=List.getElem_of_mem hg
 have hl:=zhp ps bs
 have e:(ze6 ps bs)[j]'hj=litF (ps[j]'(by omega)) (bs[j]'(by omega)):=List.getElem_zipWith ..
 rw [e]
 exact lit_okB (hps.2 _ (List.getElem_mem _)) _
theorem Lliteral (r:za8) (b:Bool) (hr:TOk 20 10 r.t):Fn Tryz.prog 68 [] [(vR r),vb b] (vF (litF r b)) []:=by
 refine fB Tryz.func68 rfl 11 fun w H B a h=>Jq 0 [] [(1,vb b),(2,vp 0 0),(4,vp 1 0)] [(0,.box (zR_ r)),(1,.box zF0)] h fun a w h=>qW (Je 2 [] [1] [(5,vb b)] h fun a w h=>cS b h (fun hc1=>?_) (fun hc2=>?_))
 ·refine Jg 2 [(1,.call (LOf r (hr.mono (by decide) (by decide))))] [5] [] [] [(1,.box (zF (zfa r)))] h fun a w h=>qV (za5 (rA 1 (zF (zfa r)) h zdb rfl ?_));unfold litF;rw [hc1];try rfl
 refine qU (za1 (Jq 2 [(1,.call (LOf r (hr.mono (by decide) (by decide)))),(2,.call (LDeny (zfa r) (za0.okB_mono (by decide) (by decide) _ (zhj (n:=20) (L:=11) (hr.plain (by decide))))))] [(4,vp 1 0)] [(1,.box (zF (zi7 (zfa r))))] h fun a w h=>qV (rA 1 (zF (zi7 (zfa r))) h zdb rfl ?_)));unfold litF;rw [hc2];try rfl
theorem LCube (ps:List za8) (bs:List Bool) (hps:zhw ps) (hb:bs.length<=9223372036854775807):Fn Tryz.prog 33 [] [(vRs ps),vS 1 (bs.map zd0)] (vF (zay ps bs)) []:=by
 have lps:=hps.1;have lcb:=zhp ps bs;refine fB Tryz.func33 rfl 30 fun w H B a h=>Jq 5 [] [(0,(vRs ps)),(1,vS 1 (bs.map zd0)),(4,vp 5 0)] [(5,.box zF0)] h fun a w h=>Je 6 [] [] [(5,vW zal)] h fun a w h=>qW (Je 6 [(1,.len (za4 4 za8.d ps)),(3,.len (za4 1 zd0 bs)),(4,.g (Op.min2 (d:=11) (tys:=#[3,3]) (k:=.i64) (m:=(ps.length:Int)) (n:=(bs.length:Int)) (r:=((min ps.length bs.length:Nat):Int)) (OV.tmp 8 _) (OV.tmp 10 _) (by omega)))] [] [(11,vI ((min ps.length bs.length:Nat):Int)),(12,vI 0)] h fun a w h=>qZ ?_)
 replace h:=zfc 5 0 6 6 35 (vW zal) h
 refine zbx (ι:=(Nat)) (fun j=>j<=min ps.length bs.length)
   [] (fun j=>[(5,vO 6 ((ze6 ps bs).take j).length),(12,vN j)])
   [] (fun j=>[(6,.row 35 6 (((ze6 ps bs).take j).map za0.d))])
   (fun j=>min ps.length bs.length - j) 0 ?_ h ?_
 ·exact bE _
 clear h;rintro j a w hI h;have lcj:((ze6 ps bs).take j).length<=j:=by rw [cC];omega
 refine Je 7 [] [] [(13,vb (decide ((j:Int)<((min ps.length bs.length:Nat):Int))))] h fun a w h=>qW (zae ((j:Int)<((min ps.length bs.length:Nat):Int)) h (fun hc1 hc1'=>?_) (fun hc2 hc2'=>?_))
 ·refine qU (za1 (qW (qZ (Je 7 [] [13] [(6,vN j)] h fun a w h=>?_))));obtain ⟨x1,hx1⟩:=gl ps j;obtain ⟨x2,hx2⟩:=gl bs j;refine Jh 7 [(3,.g (xD 18 16 kc_3 (za7 hx1 (f:=za8.d)) (OV.tmp 17 _))),(7,.g (xD 22 20 le5_9 (za7 hx2 (f:=zd0)) (OV.tmp 21 _))),(9,.call (Lliteral x1 x2 (hps.2 x1 (lM hx1)))),(10,.g (bD 25 ([(litF x1 x2)].map za0.d) [(24,(vF (litF x1 x2)))] kb_1 (.cons (i:=0) (OV.tmp 24 _) (.nil)) (by simp only [bP,cG,cH,cJ,cD,za0.d_eq];kernel_rfl) (by simp [za0.d_len]))),(11,.g (aD 26 15 25 6 7 ((ze6 ps bs).take j) [(litF x1 x2)] za0.d la_7 (by simp [za0.d_len])))] [6] [(5,vO 7 (((ze6 ps bs).take j)++[(litF x1 x2)]).length)] [6] [(7,.row 35 6 ((((ze6 ps bs).take j)++[(litF x1 x2)]).map za0.d))] h fun a w h=>za6 (za1 (Jf 8 [(0,.j1 j)] [] [(12,vI ((j:Int)+1))] h fun a w h=>za1 ?_));rw [show ((((ze6 ps bs).take j)++[(litF x1 x2)]):List za0)=((ze6 ps bs).take (j+1)) from (cube_at hx1 hx2)] at h;replace h:=zcz 7 6 h;refine zaa (x:=j) (y:=j+1) h ?_ ?_
  ·have:=zac hx1;have:=zac hx2;show j+1<=min ps.length bs.length;omega
  show min ps.length bs.length - (j+1)<min ps.length bs.length - j;have:=zac hx1;have:=zac hx2;omega
 refine exA ?_;rw [show (((ze6 ps bs).take j):List za0)=(ze6 ps bs) from (by rw [bK (by rw [zhp];omega)])] at h;replace h:=zie 6 6 35 ((ze6 ps bs).map za0.d) h [(ze6 ps bs).length] ⟨by first | exact (bJ _).symm | (simp;done) | (simp;omega),trivial⟩;refine Jq 8 [(1,.call (LAll (ze6 ps bs) (fun g hg=>za0.okB_mono (by decide) (by decide) _ (cube_okB hps bs g hg)) (by omega)))] [(4,vp 5 0)] [(5,.box (zF (zay ps bs)))] h fun a w h=>qV (rA 5 (zF (zay ps bs)) h zdb rfl ?_);rfl
theorem lf6_2:zbm Tryz.prog 166:=zbm.mk' (by kernel_rfl)
theorem Lindex1b (p r:za8) (hp:TOk 200000000 3000 p.t) (hr:TOk 200000000 3000 r.t):Fn Tryz.prog 166 [(10,.box (zR_ r))] [(vR p),vp 10 0] (vb (zde p r == 0)) [(10,.box (zR_ r))]:=by
 refine fB Tryz.func166 rfl 7 fun w H B a h=>Jq 12 [] [(1,vp 10 0),(2,vp 12 0),(3,vb false)] [(10,.box (zR_ r)),(12,.box (zR_ p))] h fun a w h=>Jg 13 [(2,.call (LSame p r hp hr (by decide) (by decide)))] [1,2] [(3,vb (zde p r == 0))] [12] [] h fun a w h=>qV (rT (.c (cB (zde p r == 0))) h rfl ?_)
 rfl
theorem LIdxO (xs:List za8) (r:za8) (hf:∀ x ∈ xs,TOk 200000000 3000 x.t) (hr:TOk 200000000 3000 r.t) (hl:xs.length<=1000000000000):Fn Tryz.prog 165 [(9,.row 32 4 (xs.map za8.d)),(10,.box (zR_ r))] [vO 9 xs.length,.t (.c (.fn (.func 166) [] [.ptr 10 0]))] (vI (zdk (fun p=>zde p r == 0) xs 0)) [(9,.row 32 4 (xs.map za8.d)),(10,.box (zR_ r))]:=by
 refine fB Tryz.func165 rfl 19 fun w H B a h=>Jq 12 [] [(0,vO 9 xs.length),(1,.t (.c (.fn (.func 166) [] [.ptr 10 0]))),(4,vI 0)] [(9,.row 32 4 (xs.map za8.d)),(10,.box (zR_ r))] h fun a w h=>qW (Je 12 [] [] [(7,vN xs.length),(8,vI 0)] h fun a w h=>qZ ?_)
 refine zbx (ι:=(Nat)) (fun j=>j<=xs.length/\zdk (fun p=>zde p r == 0) xs 0=zdk (fun p=>zde p r == 0) (xs.drop j) j)
   [4] (fun j=>[(8,vN j)])
   [] (fun j=>[])
   (fun j=>xs.length - j) 0 ?_ h ?_
 ·exact ⟨bE _,rfl⟩
 clear h;rintro j a w hI h;obtain ⟨hI1,hI2⟩:=hI;refine Je 12 [] [] [(9,vb (decide ((j:Int)<(xs.length:Int))))] h fun a w h=>qW (zae ((j:Int)<(xs.length:Int)) h (fun hc1 hc1'=>?_) (fun hc4 hc4'=>?_))
 ·refine qU (za1 (qW (qZ (Je 12 [] [9] [(5,vN j)] h fun a w h=>?_))));obtain ⟨x1,hx1⟩:=gl xs j;refine Je 12 [(3,.g (xO 14 12 9 xs.length j kc_3 (OV.tmp 13 _))),(4,.g (Op.loadR_agg (d:=15) (t:=14) (n:=9) (i:=j) (fo:=0) (rty:=32) (es:=4) (xs:=[.sl 3 (x1.t.parts.map za3.d),.raw (.bool x1.t.k.neg),nsl x1.t.k.abs,.raw (.bool x1.eq)]) la_1 rfl (za7 hx1 (f:=za8.d)) rfl rfl)),(5,.g (Op.callV (d:=16) (t:=11) (cap:=[.ptr 10 0]) (args:=[(vR x1)]) (rs:=[(15,(vR x1))]) (tys:=#[32]) (Lindex1b x1 r (hf x1 (lM hx1)) hr) lf6_2 (OVs.cons (OV.tmp 15 _) (OVs.nil))))] [] [(16,vb (zde x1 r == 0))] h fun a w h=>cS (zde x1 r == 0) h (fun hc2=>?_) (fun hc3=>?_)
  ·refine Je 12 [] [5,16] [(4,vN j)] h fun a w h=>qV (za9 (za5 (za5 (za9 (za5 (rT (.c (cI (j:Int))) h rfl ?_))))));have hz:zdk (fun p=>zde p r == 0) xs 0=(j:Int):=by rw [hI2,zfo hx1,if_pos hc2]
   rw [hz];try rfl
  refine qU (za6 (za1 (Jf 12 [(0,.j1 j)] [5,16] [(8,vI ((j:Int)+1))] h fun a w h=>za1 (zaa (x:=j) (y:=j+1) h ?_ ?_))))
  ·exact ⟨by have:=zac hx1;omega,by rw [hI2,zfo hx1,if_neg (by rw [hc3];exact Bool.noConfusion)]⟩
  show xs.length - (j+1)<xs.length - j;have:=zac hx1;omega
 refine exA (Jp 12 [] [(4,vI (-1))] h fun a w h=>qV (rT (.c (cI (-1))) h rfl ?_));have hz:zdk (fun p=>zde p r == 0) xs 0=-1:=by rw [hI2,cK (by omega)];rfl
 rw [hz];try rfl
theorem LindexO (xs:List za8) (r:za8) (hf:∀ x ∈ xs,TOk 200000000 3000 x.t) (hr:TOk 200000000 3000 r.t) (hl:xs.length<=1000000000000):Fn Tryz.prog 117 [(9,.row 32 4 (xs.map za8.d))] [vO 9 xs.length,(vR r)] (vI (zdk (fun p=>zde p r == 0) xs 0)) [(9,.row 32 4 (xs.map za8.d))]:=by
 refine fB Tryz.func117 rfl 8 fun w H B a h=>Jq 10 [] [(0,vO 9 xs.length),(3,vp 10 0),(4,vI 0)] [(9,.row 32 4 (xs.map za8.d)),(10,.box (zR_ r))] h fun a w h=>Jg 11 [(1,.g (Op.makeFs (d:=6) (fn:=.func 166) [(3,10,0)])),(2,.call (LIdxO xs r hf hr hl))] [0,3] [(4,vI (zdk (fun p=>zde p r == 0) xs 0))] [10] [] h fun a w h=>qV (rT (.c (cI (zdk (fun p=>zde p r == 0) xs 0))) h rfl ?_)
 rfl
def za0.okA (n L:Nat) (f:za0):Prop:=f.fold fun k r _ ps=>(k=2->TOk n L r.t)/\∀ p ∈ ps,p
theorem za0.okA_eq (n L:Nat) (f:za0):f.okA n L ↔ (f.kind=2->TOk n L f.r.t)/\∀ g ∈ f.kids,g.okA n L:=by
 have:=za0.fold_eq (fun k r _ (ps:List Prop)=>(k=2->TOk n L r.t)/\∀ p ∈ ps,p) f
 unfold za0.okA
 rw [this]
 refine and_congr_right fun _=>⟨fun h g hg=>h _ (bL.2 ⟨g,hg,rfl⟩),fun h p hp=>?_⟩
 obtain ⟨g,hg,rfl⟩:=bL.1 hp
 exact h g hg
theorem za0.okA_mono {L n' L':Nat} (hn:n<=n') (hL:L<=L') (f:za0):f.okA n L->f.okA n' L' :=
 za0.ind (P:=fun f=>f.okA n L->f.okA n' L') (fun k r ks ih hf=>by
  rw [za0.okA_eq] at hf ⊢
  exact ⟨fun e=>(hf.1 e).mono hn hL,fun g hg=>ih g hg (hf.2 g hg)⟩) f
theorem okA_tru (n L:Nat) (b:Bool):(zcj b).okA n L:=by
 rw [za0.okA_eq];cases b <;> exact ⟨fun e=>absurd e (by decide),fun g hg=>by cases hg⟩
theorem okA_atom {L:Nat} {r:za8} (h:TOk n L r.t):(za0.mk 2 r []).okA n L:=by
 rw [za0.okA_eq];exact ⟨fun _=>h,fun g hg=>by cases hg⟩
theorem zg3 {L:Nat} (hk:k=4\/k=5):∀ (fs out:List za0),(∀ g ∈ out,g.okA n L)->(∀ g ∈ fs,g.okA n L)->(zbb k fs out).okA n L
 | [],out,h,_=>by
  unfold zbb
  match out with
  | []=>exact okA_tru _ _ _
  | [g]=>exact h g (bS ..)
  | g :: q :: l=>rw [za0.okA_eq];exact ⟨fun e=>absurd e (by show k≠2;omega),h⟩
 | f :: fs,out,h,h2=>by
  rw [zbb]
  have hf:=h2 f (bS ..)
  have hfs:∀ g ∈ fs,g.okA n L:=fun g hg=>h2 g (b5 _ hg)
  split
  ·exact hf
  ·split
   ·exact zg3 hk fs out h hfs
   ·split
    ·exact zg3 hk fs _ (fun g hg=>(bV.1 hg).elim (h g) fun hg=>((za0.okA_eq _ _ _).1 hf).2 g hg) hfs
    ·exact zg3 hk fs _ (fun g hg=>(bV.1 hg).elim (h g) fun hg=>by rw [bN.1 hg];exact hf) hfs
theorem tight_okA {L:Nat} {r:za8} (h:TOk n L r.t) (hn:n<=1000000000):(zax r).okA n (L+4):=by
 unfold zax
 split
 ·exact okA_atom (tight_tok h hn)
 ·exact okA_tru _ _ _
def atR (ps:List za8) (r:za8):Int:=zdk (fun p=>zde p r == 0) ps 0
def gathK (k:Int) (r:za8) (gs:List (List za8->List za8)) (ps:List za8):List za8:=if k=2/\atR ps r<0 then ps++[cpR r] else gs.foldl (fun a g=>g a) ps
def za0.gath (f:za0):List za8->List za8:=f.fold fun k r _ gs ps=>gathK k r gs ps
theorem za0.gath_eq (f:za0) (ps:List za8):f.gath ps=if f.kind=2/\atR ps f.r<0 then ps++[cpR f.r] else f.kids.foldl (fun a g=>g.gath a) ps:=by
 have:=congrFun (za0.fold_eq (fun k r _ (gs:List (List za8->List za8)) ps=>gathK k r gs ps) f) ps
 refine this.trans ?_
 unfold gathK
 rw [List.foldl_map];rfl
theorem gath_len (f:za0):∀ ps,(f.gath ps).length<=ps.length+f.nodes :=
 za0.ind (P:=fun f=>∀ ps,(f.gath ps).length<=ps.length+f.nodes) (fun k r ks ih ps=>by
  rw [za0.gath_eq,za0.nodes_eq]
  split
  ·rw [cT];show ps.length+1<=ps.length+(1+_);omega
  ·have:∀ (xs:List za0),(∀ g ∈ xs,g ∈ ks)->∀ qs:List za8,(xs.foldl (fun a g=>g.gath a) qs).length<=qs.length+(xs.map za0.nodes).sum:=fun xs=>by
    induction xs with
    | nil=>intro _ qs;exact bI _
    | cons x xs ihx =>
     intro hx qs
     rw [bW,bP,b8]
     have h1:=ihx (fun g hg=>hx g (b5 _ hg)) (x.gath qs)
     have h2:=ih x (hx x (bS ..)) qs
     omega
   have:=this ks (fun g hg=>hg) ps
   show (ks.foldl _ ps).length<=ps.length+(1+(ks.map za0.nodes).sum)
   omega) f
theorem zlh (xs:List za0) (qs:List za8):(xs.foldl (fun a g=>g.gath a) qs).length<=qs.length+(xs.map za0.nodes).sum:=by
 induction xs generalizing qs with
 | nil=>exact bI _
 | cons x xs ih =>
  rw [bW,bP,b8]
  have h1:=ih (x.gath qs)
  have h2:=gath_len x qs
  omega
theorem gath_all {P:za8->Prop} (hP:∀ r,TOk 200000000 2900 r.t->P (cpR r)) (f:za0):f.okA 200000000 2900->∀ ps,(∀ r ∈ ps,P r)->∀ r ∈ f.gath ps,P r :=
 za0.ind (P:=fun f=>f.okA 200000000 2900->∀ ps,(∀ r ∈ ps,P r)->∀ r ∈ f.gath ps,P r) (fun k r ks ih hf ps hps=>by
  obtain ⟨h1,h2⟩:=(za0.okA_eq _ _ _).1 hf
  rw [za0.gath_eq]
  split
  ·rename_i e
   intro q hq
   rcases bV.1 hq with hq | hq
   ·exact hps q hq
   ·rw [bN.1 hq];exact hP r (h1 e.1)
  ·have:∀ (xs:List za0),(∀ g ∈ xs,g ∈ ks)->∀ qs:List za8,(∀ r ∈ qs,P r)->∀ r ∈ xs.foldl (fun a g=>g.gath a) qs,P r:=fun xs=>by
    induction xs with
    | nil=>intro _ qs h;exact h
    | cons x xs ihx =>
     intro hx qs h
     rw [bW]
     exact ihx (fun g hg=>hx g (b5 _ hg)) _ (ih x (hx x (bS ..)) (h2 x (hx x (bS ..))) qs h)
   exact this ks (fun g hg=>hg) ps hps) f
theorem gath_tok (hf:f.okA 200000000 2900) (hps:∀ r ∈ ps,TOk 200000000 3000 r.t):∀ r ∈ f.gath ps,TOk 200000000 3000 r.t:=gath_all (P:=fun r=>TOk 200000000 3000 r.t) (fun r hr=>(hr.plain (by decide)).mono (by decide) (by decide)) f hf ps hps
theorem zli {g:za0} (h:ks[j]?=some g):(ks.take (j+1)).foldl (fun a g=>g.gath a) ps=g.gath ((ks.take j).foldl (fun a g=>g.gath a) ps):=by
 rw [bX,h,cX];rfl
theorem gath_new (h:f.kind=2) (hi:atR ps f.r<0):f.gath ps=ps++[cpR f.r]:=by rw [za0.gath_eq,if_pos ⟨h,hi⟩]
theorem zlf (h:¬ (f.kind=2/\atR ps f.r<0)):f.gath ps=f.kids.foldl (fun a g=>g.gath a) ps:=by rw [za0.gath_eq,if_neg h]
theorem lh8_3:ElT Tryz.prog 40 32 4 64:=ElT.mk' Tryz.underlying40 _ _ rfl rfl (by kernel_rfl) (by kernel_rfl) (by kernel_rfl) (by decide) (by decide)
theorem rel_okA (h:f.okA 200000000 2900) (e:(f.kind == 2)=true):TOk 200000000 3000 f.r.t:=(((za0.okA_eq _ _ _).1 h).1 (by simpa using e)).mono (by decide) (by decide)
theorem zjw {g:za0} (h:f.okA 200000000 2900) (hg:g ∈ f.kids):g.okA 200000000 2900:=((za0.okA_eq _ _ _).1 h).2 g hg
theorem fold_ok (h:∀ g ∈ ks,g.okA 200000000 2900) (hps:∀ r ∈ ps,TOk 200000000 3000 r.t):∀ r ∈ ks.foldl (fun a g=>g.gath a) ps,TOk 200000000 3000 r.t:=by
 induction ks generalizing ps with
 | nil=>exact hps
 | cons x xs ih=>rw [bW];exact ih (fun g hg=>h g (b5 _ hg)) (gath_tok (h x (bS ..)) hps)
theorem zij (ks:List za0) (j:Nat) {x:za0} (h:ks[j]?=some x):((ks.take j).map za0.nodes).sum+x.nodes<=(ks.map za0.nodes).sum:=by
 have e:ks=ks.take j++ks.drop j:=(cU j ks).symm
 have h1:=zen h
 have h2:(ks.map za0.nodes).sum=((ks.take j).map za0.nodes).sum+((ks.drop j).map za0.nodes).sum:=by rw [<- zg7,cU]
 omega
theorem take_le (ks:List za0) (j:Nat):((ks.take j).map za0.nodes).sum<=(ks.map za0.nodes).sum:=by
 have h2:(ks.map za0.nodes).sum=((ks.take j).map za0.nodes).sum+((ks.drop j).map za0.nodes).sum:=by rw [<- zg7,cU]
 omega
theorem Lgather9 (ps:List za8) (f:za0) (ih:∀ g ∈ f.kids,∀ ps:List za8,(∀ r ∈ ps,TOk 200000000 3000 r.t)->ps.length+g.nodes<=1000000000000->Fn Tryz.prog 80 [(13,.row 32 4 (ps.map za8.d))] [vO 13 ps.length,(vF g)] (vO 14 (za0.gath g ps).length) [(14,.row 32 4 ((za0.gath g ps).map za8.d))]) (hf:f.okA 200000000 2900) (hps:∀ r ∈ ps,TOk 200000000 3000 r.t) (hl:ps.length+f.nodes<=1000000000000):Fn Tryz.prog 80 [(9,.row 32 4 (ps.map za8.d))] [vO 9 ps.length,(vF f)] (vO 14 (za0.gath f ps).length) [(14,.row 32 4 ((za0.gath f ps).map za8.d))]:=by
 have hnf:=za0.nodes_eq f;have lkn:=zgx f.kids;refine fB Tryz.func80 rfl 40 fun w H B a h=>Jq 20 [] [(0,vO 9 ps.length),(3,vp 20 0),(4,vW zal)] [(9,.row 32 4 (ps.map za8.d)),(20,.box (zF f))] h fun a w h=>qW ?_
 rcases bG (f.kind == 2) with hc1 | hc6
 ·refine Je 21 [(2,.cmp (op:=.eql) (m:=f.kind) (n:=2) (b:=true) .i64 hc1),(7,.call (LindexO ps f.r hps (rel_okA hf hc1) (by omega)))] [] [(16,vb (decide ((atR ps f.r)<0)))] h fun a w h=>zae ((atR ps f.r)<0) h (fun hc2 hc2'=>?_) (fun hc3 hc3'=>?_)
  ·refine Jg 21 [(4,.call (zdz f.r.t (rel_okA hf hc1) (by decide) (by decide))),(9,.g (bD 26 ([(za8.mk (za2 f.r.t) f.r.eq)].map za8.d) [(25,vG ((zT (za2 f.r.t))++[cB f.r.eq]))] kc_5 (.cons (i:=0) (OV.tmp 25 _) (.nil)) (by kernel_rfl) (by simp [za8.d]))),(10,.g (aD 27 17 26 9 21 ps [(za8.mk (za2 f.r.t) f.r.eq)] za8.d lh8_3 (by simp [za8.d])))] [16] [(4,vO 21 (ps++[(za8.mk (za2 f.r.t) f.r.eq)]).length)] [9] [(21,.row 32 4 ((ps++[(za8.mk (za2 f.r.t) f.r.eq)]).map za8.d))] h fun a w h=>qV (za5 ?_);replace h:=cvM [] [(4,vO 21 (za0.gath f ps).length)] [] [(21,.row 32 4 ((za0.gath f ps).map za8.d))] (by rw [<- show ((ps++[(za8.mk (za2 f.r.t) f.r.eq)]):List za8)=(za0.gath f ps) from (gath_new (by have:=hc1;simpa using this) (dT hc2)).symm];kernel_rfl) h;replace h:=zcz 21 14 h;refine rT (.c (.own 14 (za0.gath f ps).length)) h rfl ?_;rfl
  refine qU (za1 (qW (Jg 22 [(2,.len (za4 6 za0.d f.kids))] [3,16] [(29,(vFs f.kids)),(30,vN f.kids.length),(31,vI 0)] [20] [] h fun a w h=>qZ ?_)));replace h:=zcz 9 13 h
  refine zbx (ι:=(Nat)) (fun j=>j<=f.kids.length)
    [] (fun j=>[(0,vO 13 ((f.kids.take j).foldl (fun a g=>g.gath a) ps).length),(31,vN j)])
    [] (fun j=>[(13,.row 32 4 (((f.kids.take j).foldl (fun a g=>g.gath a) ps).map za8.d))])
    (fun j=>f.kids.length - j) 0 ?_ h ?_
  ·exact bE _
  clear h;rintro j a w hI h;have lfj:=zlh (f.kids.take j) ps;have ltj:=take_le f.kids j;refine Je 22 [] [] [(32,vb (decide ((j:Int)<(f.kids.length:Int))))] h fun a w h=>qW (zae ((j:Int)<(f.kids.length:Int)) h (fun hc4 hc4'=>?_) (fun hc5 hc5'=>?_))
  ·refine qU (za1 (qW (qZ ?_)));obtain ⟨x3,hx3⟩:=gl f.kids j;refine Jg 22 [(0,.g (xD 33 29 zgm ((za7 hx3 (f:=za0.d)).trans (congrArg some (za0.d_eq x3))) (OV.tmp 31 _)))] [32] [(6,vp 22 0)] [] [(22,.box (zF x3))] h fun a w h=>Jh 23 [(2,.call (ih x3 (lM hx3) ((f.kids.take j).foldl (fun a g=>g.gath a) ps) (fold_ok (fun q hq=>zjw hf (cO hq)) hps) (by have:=zij f.kids j hx3;omega)))] [6] [(0,vO 14 (za0.gath x3 ((f.kids.take j).foldl (fun a g=>g.gath a) ps)).length)] [13,22] [(14,.row 32 4 ((za0.gath x3 ((f.kids.take j).foldl (fun a g=>g.gath a) ps)).map za8.d))] h fun a w h=>za6 (za1 (Jf 23 [(0,.j1 j)] [] [(31,vI ((j:Int)+1))] h fun a w h=>za1 ?_));replace h:=zcz 14 13 h;replace h:=cvM [] [(0,vO 13 ((f.kids.take (j+1)).foldl (fun a g=>g.gath a) ps).length)] [] [(13,.row 32 4 (((f.kids.take (j+1)).foldl (fun a g=>g.gath a) ps).map za8.d))] (by rw [<- show ((za0.gath x3 ((f.kids.take j).foldl (fun a g=>g.gath a) ps)):List za8)=((f.kids.take (j+1)).foldl (fun a g=>g.gath a) ps) from (zli hx3).symm];kernel_rfl) h;refine zaa (x:=j) (y:=j+1) h ?_ ?_
   ·have:=zac hx3;show j+1<=f.kids.length;omega
   show f.kids.length - (j+1)<f.kids.length - j;have:=zac hx3;omega
  refine exA (Jp 23 [] [(4,vO 13 ((f.kids.take j).foldl (fun a g=>g.gath a) ps).length)] h fun a w h=>qV ?_);replace h:=cv (fun z_:List za8=>F.of [(4,vO 13 z_.length)] [(13,.row 32 4 (z_.map za8.d))]) (show (((f.kids.take j).foldl (fun a g=>g.gath a) ps):List za8)=(za0.gath f ps) from (by rw [bK (by omega)];exact (zlf (fun e=>dF hc3 e.2)).symm)) (h.conv (by kernel_rfl));replace h:=zcz 13 14 h;refine rT (.c (.own 14 (za0.gath f ps).length)) h rfl ?_;rfl
 refine Je 23 [(2,.cmp (op:=.eql) (m:=f.kind) (n:=2) (b:=false) .i64 hc6)] [] [(16,vb false)] h fun a w h=>zaz h (qU (za1 (qW (Jg 23 [(2,.len (za4 6 za0.d f.kids))] [3,16] [(29,(vFs f.kids)),(30,vN f.kids.length),(31,vI 0)] [20] [] h fun a w h=>qZ ?_))));replace h:=zcz 9 13 h
 refine zbx (ι:=(Nat)) (fun j=>j<=f.kids.length)
   [] (fun j=>[(0,vO 13 ((f.kids.take j).foldl (fun a g=>g.gath a) ps).length),(31,vN j)])
   [] (fun j=>[(13,.row 32 4 (((f.kids.take j).foldl (fun a g=>g.gath a) ps).map za8.d))])
   (fun j=>f.kids.length - j) 0 ?_ h ?_
 ·exact bE _
 clear h;rintro j a w hI h;have lfj:=zlh (f.kids.take j) ps;have ltj:=take_le f.kids j;refine Je 23 [] [] [(32,vb (decide ((j:Int)<(f.kids.length:Int))))] h fun a w h=>qW (zae ((j:Int)<(f.kids.length:Int)) h (fun hc7 hc7'=>?_) (fun hc8 hc8'=>?_))
 ·refine qU (za1 (qW (qZ ?_)));obtain ⟨x5,hx5⟩:=gl f.kids j;refine Jg 23 [(0,.g (xD 33 29 zgm ((za7 hx5 (f:=za0.d)).trans (congrArg some (za0.d_eq x5))) (OV.tmp 31 _)))] [32] [(6,vp 23 0)] [] [(23,.box (zF x5))] h fun a w h=>Jh 24 [(2,.call (ih x5 (lM hx5) ((f.kids.take j).foldl (fun a g=>g.gath a) ps) (fold_ok (fun q hq=>zjw hf (cO hq)) hps) (by have:=zij f.kids j hx5;omega)))] [6] [(0,vO 14 (za0.gath x5 ((f.kids.take j).foldl (fun a g=>g.gath a) ps)).length)] [13,23] [(14,.row 32 4 ((za0.gath x5 ((f.kids.take j).foldl (fun a g=>g.gath a) ps)).map za8.d))] h fun a w h=>za6 (za1 (Jf 24 [(0,.j1 j)] [] [(31,vI ((j:Int)+1))] h fun a w h=>za1 ?_));replace h:=zcz 14 13 h;replace h:=cvM [] [(0,vO 13 ((f.kids.take (j+1)).foldl (fun a g=>g.gath a) ps).length)] [] [(13,.row 32 4 (((f.kids.take (j+1)).foldl (fun a g=>g.gath a) ps).map za8.d))] (by rw [<- show ((za0.gath x5 ((f.kids.take j).foldl (fun a g=>g.gath a) ps)):List za8)=((f.kids.take (j+1)).foldl (fun a g=>g.gath a) ps) from (zli hx5).symm];kernel_rfl) h;refine zaa (x:=j) (y:=j+1) h ?_ ?_
  ·have:=zac hx5;show j+1<=f.kids.length;omega
  show f.kids.length - (j+1)<f.kids.length - j;have:=zac hx5;omega
 refine exA (Jp 24 [] [(4,vO 13 ((f.kids.take j).foldl (fun a g=>g.gath a) ps).length)] h fun a w h=>qV ?_);replace h:=cv (fun z_:List za8=>F.of [(4,vO 13 z_.length)] [(13,.row 32 4 (z_.map za8.d))]) (show (((f.kids.take j).foldl (fun a g=>g.gath a) ps):List za8)=(za0.gath f ps) from (by rw [bK (by omega)];exact (zlf (fun e=>by have:=hc6;simp at this;omega)).symm)) (h.conv (by kernel_rfl));replace h:=zcz 13 14 h;refine rT (.c (.own 14 (za0.gath f ps).length)) h rfl ?_;rfl
theorem Lgather13 (ps:List za8) (f:za0) (ih:∀ g ∈ f.kids,∀ ps:List za8,(∀ r ∈ ps,TOk 200000000 3000 r.t)->ps.length+g.nodes<=1000000000000->Fn Tryz.prog 80 [(9,.row 32 4 (ps.map za8.d))] [vO 9 ps.length,(vF g)] (vO 14 (za0.gath g ps).length) [(14,.row 32 4 ((za0.gath g ps).map za8.d))]) (hf:f.okA 200000000 2900) (hps:∀ r ∈ ps,TOk 200000000 3000 r.t) (hl:ps.length+f.nodes<=1000000000000):Fn Tryz.prog 80 [(13,.row 32 4 (ps.map za8.d))] [vO 13 ps.length,(vF f)] (vO 14 (za0.gath f ps).length) [(14,.row 32 4 ((za0.gath f ps).map za8.d))]:=by
 have hnf:=za0.nodes_eq f;have lkn:=zgx f.kids;refine fB Tryz.func80 rfl 40 fun w H B a h=>?_
 replace h:=zcz 13 9 h;refine Jg 20 [] [1] [(3,vp 20 0),(4,vW zal)] [] [(20,.box (zF f))] h fun a w h=>qW ?_
 rcases bG (f.kind == 2) with hc1 | hc6
 ·refine Je 21 [(2,.cmp (op:=.eql) (m:=f.kind) (n:=2) (b:=true) .i64 hc1),(7,.call (LindexO ps f.r hps (rel_okA hf hc1) (by omega)))] [] [(16,vb (decide ((atR ps f.r)<0)))] h fun a w h=>zae ((atR ps f.r)<0) h (fun hc2 hc2'=>?_) (fun hc3 hc3'=>?_)
  ·refine Jg 21 [(4,.call (zdz f.r.t (rel_okA hf hc1) (by decide) (by decide))),(9,.g (bD 26 ([(za8.mk (za2 f.r.t) f.r.eq)].map za8.d) [(25,vG ((zT (za2 f.r.t))++[cB f.r.eq]))] kc_5 (.cons (i:=0) (OV.tmp 25 _) (.nil)) (by kernel_rfl) (by simp [za8.d]))),(10,.g (aD 27 17 26 9 21 ps [(za8.mk (za2 f.r.t) f.r.eq)] za8.d lh8_3 (by simp [za8.d])))] [16] [(4,vO 21 (ps++[(za8.mk (za2 f.r.t) f.r.eq)]).length)] [9] [(21,.row 32 4 ((ps++[(za8.mk (za2 f.r.t) f.r.eq)]).map za8.d))] h fun a w h=>qV (za5 ?_);replace h:=cvM [] [(4,vO 21 (za0.gath f ps).length)] [] [(21,.row 32 4 ((za0.gath f ps).map za8.d))] (by rw [<- show ((ps++[(za8.mk (za2 f.r.t) f.r.eq)]):List za8)=(za0.gath f ps) from (gath_new (by have:=hc1;simpa using this) (dT hc2)).symm];kernel_rfl) h;replace h:=zcz 21 14 h;refine rT (.c (.own 14 (za0.gath f ps).length)) h rfl ?_;rfl
  refine qU (za1 (qW (Jg 22 [(2,.len (za4 6 za0.d f.kids))] [3,16] [(29,(vFs f.kids)),(30,vN f.kids.length),(31,vI 0)] [20] [] h fun a w h=>qZ ?_)))
  refine zbx (ι:=(Nat)) (fun j=>j<=f.kids.length)
    [] (fun j=>[(0,vO 9 ((f.kids.take j).foldl (fun a g=>g.gath a) ps).length),(31,vN j)])
    [] (fun j=>[(9,.row 32 4 (((f.kids.take j).foldl (fun a g=>g.gath a) ps).map za8.d))])
    (fun j=>f.kids.length - j) 0 ?_ h ?_
  ·exact bE _
  clear h;rintro j a w hI h;have lfj:=zlh (f.kids.take j) ps;have ltj:=take_le f.kids j;refine Je 22 [] [] [(32,vb (decide ((j:Int)<(f.kids.length:Int))))] h fun a w h=>qW (zae ((j:Int)<(f.kids.length:Int)) h (fun hc4 hc4'=>?_) (fun hc5 hc5'=>?_))
  ·refine qU (za1 (qW (qZ ?_)));obtain ⟨x3,hx3⟩:=gl f.kids j;refine Jg 22 [(0,.g (xD 33 29 zgm ((za7 hx3 (f:=za0.d)).trans (congrArg some (za0.d_eq x3))) (OV.tmp 31 _)))] [32] [(6,vp 22 0)] [] [(22,.box (zF x3))] h fun a w h=>Jh 23 [(2,.call (ih x3 (lM hx3) ((f.kids.take j).foldl (fun a g=>g.gath a) ps) (fold_ok (fun q hq=>zjw hf (cO hq)) hps) (by have:=zij f.kids j hx3;omega)))] [6] [(0,vO 14 (za0.gath x3 ((f.kids.take j).foldl (fun a g=>g.gath a) ps)).length)] [9,22] [(14,.row 32 4 ((za0.gath x3 ((f.kids.take j).foldl (fun a g=>g.gath a) ps)).map za8.d))] h fun a w h=>za6 (za1 (Jf 23 [(0,.j1 j)] [] [(31,vI ((j:Int)+1))] h fun a w h=>za1 ?_));replace h:=zcz 14 9 h;replace h:=cvM [] [(0,vO 9 ((f.kids.take (j+1)).foldl (fun a g=>g.gath a) ps).length)] [] [(9,.row 32 4 (((f.kids.take (j+1)).foldl (fun a g=>g.gath a) ps).map za8.d))] (by rw [<- show ((za0.gath x3 ((f.kids.take j).foldl (fun a g=>g.gath a) ps)):List za8)=((f.kids.take (j+1)).foldl (fun a g=>g.gath a) ps) from (zli hx3).symm];kernel_rfl) h;refine zaa (x:=j) (y:=j+1) h ?_ ?_
   ·have:=zac hx3;show j+1<=f.kids.length;omega
   show f.kids.length - (j+1)<f.kids.length - j;have:=zac hx3;omega
  refine exA (Jp 23 [] [(4,vO 9 ((f.kids.take j).foldl (fun a g=>g.gath a) ps).length)] h fun a w h=>qV ?_);replace h:=cv (fun z_:List za8=>F.of [(4,vO 9 z_.length)] [(9,.row 32 4 (z_.map za8.d))]) (show (((f.kids.take j).foldl (fun a g=>g.gath a) ps):List za8)=(za0.gath f ps) from (by rw [bK (by omega)];exact (zlf (fun e=>dF hc3 e.2)).symm)) (h.conv (by kernel_rfl));replace h:=zcz 9 14 h;refine rT (.c (.own 14 (za0.gath f ps).length)) h rfl ?_;rfl
 refine Je 23 [(2,.cmp (op:=.eql) (m:=f.kind) (n:=2) (b:=false) .i64 hc6)] [] [(16,vb false)] h fun a w h=>zaz h (qU (za1 (qW (Jg 23 [(2,.len (za4 6 za0.d f.kids))] [3,16] [(29,(vFs f.kids)),(30,vN f.kids.length),(31,vI 0)] [20] [] h fun a w h=>qZ ?_))))
 refine zbx (ι:=(Nat)) (fun j=>j<=f.kids.length)
   [] (fun j=>[(0,vO 9 ((f.kids.take j).foldl (fun a g=>g.gath a) ps).length),(31,vN j)])
   [] (fun j=>[(9,.row 32 4 (((f.kids.take j).foldl (fun a g=>g.gath a) ps).map za8.d))])
   (fun j=>f.kids.length - j) 0 ?_ h ?_
 ·exact bE _
 clear h;rintro j a w hI h;have lfj:=zlh (f.kids.take j) ps;have ltj:=take_le f.kids j;refine Je 23 [] [] [(32,vb (decide ((j:Int)<(f.kids.length:Int))))] h fun a w h=>qW (zae ((j:Int)<(f.kids.length:Int)) h (fun hc7 hc7'=>?_) (fun hc8 hc8'=>?_))
 ·refine qU (za1 (qW (qZ ?_)));obtain ⟨x5,hx5⟩:=gl f.kids j;refine Jg 23 [(0,.g (xD 33 29 zgm ((za7 hx5 (f:=za0.d)).trans (congrArg some (za0.d_eq x5))) (OV.tmp 31 _)))] [32] [(6,vp 23 0)] [] [(23,.box (zF x5))] h fun a w h=>Jh 24 [(2,.call (ih x5 (lM hx5) ((f.kids.take j).foldl (fun a g=>g.gath a) ps) (fold_ok (fun q hq=>zjw hf (cO hq)) hps) (by have:=zij f.kids j hx5;omega)))] [6] [(0,vO 14 (za0.gath x5 ((f.kids.take j).foldl (fun a g=>g.gath a) ps)).length)] [9,23] [(14,.row 32 4 ((za0.gath x5 ((f.kids.take j).foldl (fun a g=>g.gath a) ps)).map za8.d))] h fun a w h=>za6 (za1 (Jf 24 [(0,.j1 j)] [] [(31,vI ((j:Int)+1))] h fun a w h=>za1 ?_));replace h:=zcz 14 9 h;replace h:=cvM [] [(0,vO 9 ((f.kids.take (j+1)).foldl (fun a g=>g.gath a) ps).length)] [] [(9,.row 32 4 (((f.kids.take (j+1)).foldl (fun a g=>g.gath a) ps).map za8.d))] (by rw [<- show ((za0.gath x5 ((f.kids.take j).foldl (fun a g=>g.gath a) ps)):List za8)=((f.kids.take (j+1)).foldl (fun a g=>g.gath a) ps) from (zli hx5).symm];kernel_rfl) h;refine zaa (x:=j) (y:=j+1) h ?_ ?_
  ·have:=zac hx5;show j+1<=f.kids.length;omega
  show f.kids.length - (j+1)<f.kids.length - j;have:=zac hx5;omega
 refine exA (Jp 24 [] [(4,vO 9 ((f.kids.take j).foldl (fun a g=>g.gath a) ps).length)] h fun a w h=>qV ?_);replace h:=cv (fun z_:List za8=>F.of [(4,vO 9 z_.length)] [(9,.row 32 4 (z_.map za8.d))]) (show (((f.kids.take j).foldl (fun a g=>g.gath a) ps):List za8)=(za0.gath f ps) from (by rw [bK (by omega)];exact (zlf (fun e=>by have:=hc6;simp at this;omega)).symm)) (h.conv (by kernel_rfl));replace h:=zcz 9 14 h;refine rT (.c (.own 14 (za0.gath f ps).length)) h rfl ?_;rfl
theorem Lgather (f:za0):f.okA 200000000 2900->(∀ ps:List za8,(∀ r ∈ ps,TOk 200000000 3000 r.t)->ps.length+f.nodes<=1000000000000->Fn Tryz.prog 80 [(9,.row 32 4 (ps.map za8.d))] [vO 9 ps.length,(vF f)] (vO 14 (za0.gath f ps).length) [(14,.row 32 4 ((za0.gath f ps).map za8.d))])/\(∀ ps:List za8,(∀ r ∈ ps,TOk 200000000 3000 r.t)->ps.length+f.nodes<=1000000000000->Fn Tryz.prog 80 [(13,.row 32 4 (ps.map za8.d))] [vO 13 ps.length,(vF f)] (vO 14 (za0.gath f ps).length) [(14,.row 32 4 ((za0.gath f ps).map za8.d))]) :=
 za0.ind (P:=fun f=>f.okA 200000000 2900->(∀ ps:List za8,(∀ r ∈ ps,TOk 200000000 3000 r.t)->ps.length+f.nodes<=1000000000000->Fn Tryz.prog 80 [(9,.row 32 4 (ps.map za8.d))] [vO 9 ps.length,(vF f)] (vO 14 (za0.gath f ps).length) [(14,.row 32 4 ((za0.gath f ps).map za8.d))])/\(∀ ps:List za8,(∀ r ∈ ps,TOk 200000000 3000 r.t)->ps.length+f.nodes<=1000000000000->Fn Tryz.prog 80 [(13,.row 32 4 (ps.map za8.d))] [vO 13 ps.length,(vF f)] (vO 14 (za0.gath f ps).length) [(14,.row 32 4 ((za0.gath f ps).map za8.d))])) (fun k r ks ih hf=>⟨fun ps hps hl=>Lgather9 ps ⟨k,r,ks⟩ (fun g hg=>(ih g hg (zjw hf hg)).2) hf hps hl,fun ps hps hl=>Lgather13 ps ⟨k,r,ks⟩ (fun g hg=>(ih g hg (zjw hf hg)).1) hf hps hl⟩) f
def gathT (ps:List za8) (f:za0):List za8:=f.gath (ps.map cpR)
theorem cps_tok (h:∀ r ∈ ps,TOk 200000000 2900 r.t):∀ r ∈ ps.map cpR,TOk 200000000 3000 r.t:=fun r hr=>by
 obtain ⟨q,hq,rfl⟩:=bL.1 hr
 exact ((h q hq).plain (by decide)).mono (by decide) (by decide)
theorem LGather (ps:List za8) (f:za0) (hps:∀ r ∈ ps,TOk 200000000 2900 r.t) (hf:f.okA 200000000 2900) (hl:ps.length+f.nodes<=1000000000000):Fn Tryz.prog 48 [] [(vRs ps),(vF f)] (vRs (gathT ps f)) []:=by
 refine fB Tryz.func48 rfl 27 fun w H B a h=>Jq 20 [] [(0,(vRs ps)),(3,vp 20 0),(4,vW zal)] [(20,.box (zF f))] h fun a w h=>Je 21 [] [] [(5,vW zal)] h fun a w h=>qW (Je 21 [(1,.len (za4 4 za8.d ps))] [0] [(8,(vRs ps)),(9,vN ps.length),(10,vI 0)] h fun a w h=>qZ ?_)
 replace h:=zfc 5 0 21 4 32 (vW zal) h
 refine zbx (ι:=(Nat)) (fun j=>j<=ps.length)
   [] (fun j=>[(5,vO 21 ((ps.take j).map cpR).length),(10,vN j)])
   [] (fun j=>[(21,.row 32 4 (((ps.take j).map cpR).map za8.d))])
   (fun j=>ps.length - j) 0 ?_ h ?_
 ·exact bE _
 clear h;rintro j a w hI h;have lmj:((ps.take j).map cpR).length<=j:=by rw [bJ,cC];omega
 refine Je 22 [] [] [(11,vb (decide ((j:Int)<(ps.length:Int))))] h fun a w h=>qW (zae ((j:Int)<(ps.length:Int)) h (fun hc1 hc1'=>?_) (fun hc2 hc2'=>?_))
 ·refine qU (za1 (qW (qZ ?_)));obtain ⟨x1,hx1⟩:=gl ps j;refine Jg 22 [(0,.g (xD 12 8 kc_3 (za7 hx1 (f:=za8.d)) (OV.tmp 10 _)))] [11] [(7,vp 22 0)] [] [(22,.box (zR_ x1))] h fun a w h=>Jh 23 [(3,.call (zdz x1.t (hps x1 (lM hx1)) (by decide) (by decide))),(7,.g (bD 21 ([(za8.mk (za2 x1.t) x1.eq)].map za8.d) [(20,vG ((zT (za2 x1.t))++[cB x1.eq]))] kc_5 (.cons (i:=0) (OV.tmp 20 _) (.nil)) (by kernel_rfl) (by simp [za8.d]))),(8,.g (aD 22 14 21 21 23 ((ps.take j).map cpR) [(za8.mk (za2 x1.t) x1.eq)] za8.d lh8_3 (by simp [za8.d])))] [7] [(5,vO 23 (((ps.take j).map cpR)++[(za8.mk (za2 x1.t) x1.eq)]).length)] [21,22] [(23,.row 32 4 ((((ps.take j).map cpR)++[(za8.mk (za2 x1.t) x1.eq)]).map za8.d))] h fun a w h=>za6 (za1 (Jf 24 [(0,.j1 j)] [] [(10,vI ((j:Int)+1))] h fun a w h=>za1 ?_));rw [show ((((ps.take j).map cpR)++[(za8.mk (za2 x1.t) x1.eq)]):List za8)=((ps.take (j+1)).map cpR) from (zej hx1)] at h;replace h:=zcz 23 21 h;refine zaa (x:=j) (y:=j+1) h ?_ ?_
  ·have:=zac hx1;show j+1<=ps.length;omega
  show ps.length - (j+1)<ps.length - j;have:=zac hx1;omega
 refine exA ?_;rw [show (((ps.take j).map cpR):List za8)=(ps.map cpR) from (by rw [bK (by omega)])] at h;replace h:=zcz 21 9 h;refine Jq 24 [(2,.call ((Lgather f hf).1 (ps.map cpR) (cps_tok hps) (by rw [bJ];exact hl)))] [(4,vO 14 (gathT ps f).length)] [(14,.row 32 4 ((gathT ps f).map za8.d))] h fun a w h=>qV ?_;replace h:=zie 14 4 32 ((gathT ps f).map za8.d) h [(gathT ps f).length] ⟨by first | exact (bJ _).symm | (simp;done) | (simp;omega),trivial⟩;refine rT (.c (cRs (gathT ps f))) h rfl ?_;rfl
def zan (n:Int):za8:=⟨⟨[⟨0,ZI.of 1⟩],ZI.of (0 - n)⟩,false⟩
def atE (r:za8):za0:=⟨2,r,[]⟩
theorem kk_4:ElT Tryz.prog 52 28 2 32:=ElT.mk' Tryz.underlying52 _ _ rfl rfl (by kernel_rfl) (by kernel_rfl) (by kernel_rfl) (by decide) (by decide)
theorem kk_5:Sz Tryz.prog 54 2 true:=Sz.mk' (by kernel_rfl) Tryz.underlying54 _ rfl
def clZ (z:ZI):ZI:=ZI.of z.val
def cloneS (x:StD):StD:=⟨x.locs,x.vals.map clZ⟩
def st0:StD:=⟨[],[]⟩
def canAt (s:zam) (x:StD) (c:zap) (v:Nat):Bool:=if zbw c v=true then !((zbl s v).is_ && decide (zcb (zbl s v).lo.val (zbl s v).hi.val>0)) else zc3 (zbl s v) (zjs x c v)
def canC (s:zam) (x:StD) (c:zap):Bool:=zar s x c && zjh s.vars.length (canAt s x c)
def can (s:zam) (x:StD) (i:Int):Bool:=match zdh s i with | none=>false | some c=>canC s x c
def stuck (s:zam) (x:StD):Bool:=zjh s.acts.length (fun i=>!can s x (i:Int)) && zed s x
def zau (c:zap):Nat->Nat
  | 0=>0
  | v+1=>zau c v+if zbw c v=true then 1 else 0
def zf8 (x:StD) (c:zap) (picks:List ZI) (v:Nat):ZI:=if zbw c v=true then (match picks[zau c v]? with | some p=>ZI.of p.val | none=>zft) else zjs x c v
def zga (s:zam) (x:StD) (c:zap) (picks:List ZI):StD:=⟨x.locs.set c.proc.toNat c.to_,(List.range s.vars.length).map (zf8 x c picks)⟩
def goC (s:zam) (x:StD) (c:zap) (picks:List ZI):StD × Bool:=if zar s x c=true/\zed s (zga s x c picks)=true then (zga s x c picks,true) else (st0,false)
def goS (s:zam) (x:StD) (i:Int) (picks:List ZI):StD × Bool:=if i=-1/\stuck s x=true then (cloneS x,true) else match zdh s i with | none=>(st0,false) | some c=>goC s x c picks
theorem cl_len {z:ZI} (h:ZOk M z):ZOk M (clZ z):=⟨ZI.lb_of _,bF (zcl h.1) h.2⟩
theorem zh2 {c:zap} (h:zar s x c=true):zed s x=true:=by unfold zar at h;simp only [bU] at h;exact h.1.1
theorem zkm {c:zap} (h:zar s x c=true):0<=c.proc/\c.proc<(s.procs.length:Int):=by unfold zar at h;simp only [bU,decide_eq_true_eq] at h;exact h.1.2.1.1
theorem range_set {f:Nat->α} {cl:List α} {y:α} (hj:j<cl.length) (hy:y=f j):((List.range j).map f++cl.drop j).set j y=(List.range (j+1)).map f++cl.drop (j+1):=by
 subst hy
 have hl:((List.range j).map f).length=j:=by simp
 rw [List.set_append_right _ _ (by omega),hl,Nat.sub_self,cY hj,List.set_cons_zero,cZ,cV,c6];rfl
theorem range_end {f:Nat->α} {cl:List α} (hn:cl.length=n):(List.range n).map f++cl.drop n=(List.range n).map f:=by rw [cK (by omega),cD]
theorem range_len {f:Nat->α} {cl:List α} (hj:j<=cl.length):((List.range j).map f++cl.drop j).length=cl.length:=by rw [cT,bJ,List.length_range,List.length_drop];omega
theorem map_snoc {f:α->β} {xs:List α} {x:α} (h:xs[j]?=some x):(xs.take j).map f++[f x]=(xs.take (j+1)).map f:=by rw [bX,h,cV];rfl
theorem zit {c:zap} (h:zbw c v=false):zf8 x c picks v=zjs x c v:=by unfold zf8;rw [if_neg (by rw [h];exact Bool.noConfusion)]
theorem cnt_free {c:zap} (h:zbw c v=true):zau c (v+1)=zau c v+1:=by rw [zau,if_pos h]
theorem cnt_kept {c:zap} (h:zbw c v=false):zau c (v+1)=zau c v:=by rw [zau,if_neg (by rw [h];exact Bool.noConfusion),Nat.add_zero]
theorem outS_ok {L:Nat} {c:zap} (hs:zbg L s) (hx:zjb M x) (hc:zgo L c) (hp:∀ z ∈ picks,ZOk M z):zjb (L+M+2) (zga s x c picks):=by
 refine ⟨by simp only [zga,List.length_set];exact hx.locs,by simp only [zga,bJ,List.length_range];exact bF hs.vars (by decide),fun z hz=>?_⟩
 simp only [zga,bL] at hz
 obtain ⟨v,_,rfl⟩:=hz
 unfold zf8
 split
 ·split
  ·rename_i p hp2
   have g:=hp p (b7 hp2)
   exact ⟨ZI.lb_of _,bF (zcl g.1) (by have:=g.2;omega)⟩
  ·exact ZOk.zero
 ·exact new_ok hc hx v
def picksOf (y:StD) (c:zap):Nat->List ZI
  | 0=>[]
  | v+1=>if zbw c v=true then picksOf y c v++[(y.vals[v]?).getD zft] else picksOf y c v
def leadsC (s:zam) (x:StD) (c:zap) (y:StD):Bool:=(zar s x c && zed s y) && ((goC s x c (picksOf y c s.vars.length)).2 && sameS y (goC s x c (picksOf y c s.vars.length)).1)
def leads (s:zam) (x:StD) (i:Int) (y:StD):Bool:=if i=-1 then stuck s x && sameS x y else match zdh s i with | none=>false | some c=>leadsC s x c y
theorem st0_ok:zjb M st0:=⟨bE _,bE _,fun z hz=>(by cases hz)⟩
structure RunOk (M:Nat) (r:RunD):Prop where
  len:r.stem.length+r.cycle.length<=20
  stem:∀ x ∈ r.stem,zjb M x
  cycle:∀ x ∈ r.cycle,zjb M x
theorem RunOk.all {r:RunD} (h:RunOk M r):∀ x ∈ r.stem++r.cycle,zjb M x:=fun x hx=>(bV.1 hx).elim (h.stem x) (h.cycle x)
def nxt (r:RunD) (i:Nat):StD:=if i+1<(r.stem++r.cycle).length then ((r.stem++r.cycle)[i+1]?).getD st0 else (r.cycle[0]?).getD st0
def stepOk (s:zam) (r:RunD) (i:Nat):Bool:=leads s (((r.stem++r.cycle)[i]?).getD st0) ((r.acts[i]?).getD 0) (nxt r i)
def right (s:zam) (r:RunD):Bool:=decide (r.cycle.length≠0/\r.acts.length=(r.stem++r.cycle).length) && (first s (((r.stem++r.cycle)[0]?).getD st0) && zjh (r.stem++r.cycle).length (stepOk s r))
theorem SRmove (c:zap) (v:Nat) (hl:c.moves.length<=20):Fn Tryz.prog 46 [] [vG (acC c),vN v] (vI (zdk (fun m=>m.v == (v:Int)) c.moves 0)) []:=by
 refine fB Tryz.func46 rfl 22 fun w H B a h=>Jq 0 [] [(1,vN v),(2,vp 0 0),(4,vI 0)] [(0,.box (acC c))] h fun a w h=>qW (Je 1 [] [] [(5,vI 0)] h fun a w h=>qZ ?_)
 refine zbx (ι:=(Nat)) (fun j=>j<=c.moves.length/\zdk (fun m=>m.v == (v:Int)) c.moves 0=zdk (fun m=>m.v == (v:Int)) (c.moves.drop j) j)
   [4] (fun j=>[(5,vN j)])
   [] (fun j=>[])
   (fun j=>c.moves.length - j) 0 ?_ h ?_
 ·exact ⟨bE _,rfl⟩
 clear h;rintro j a w hI h;obtain ⟨hI1,hI2⟩:=hI;refine qW (Je 1 [(3,.len (za4 5 zai.d c.moves))] [] [(10,vb (decide ((j:Int)<(c.moves.length:Int))))] h fun a w h=>zae ((j:Int)<(c.moves.length:Int)) h (fun hc1 hc1'=>?_) (fun hc4 hc4'=>?_))
 ·refine qU (za1 (qW (qZ ?_)));obtain ⟨x1,hx1⟩:=gl c.moves j;refine Je 1 [(3,.g (xD 16 14 ki_2 (za7 hx1 (f:=zai.d)) (OV.tmp 15 _)))] [10] [(20,vb (x1.v == (v:Int)))] h fun a w h=>cS (x1.v == (v:Int)) h (fun hc2=>?_) (fun hc3=>?_)
  ·refine Je 1 [] [20] [(4,vN j)] h fun a w h=>qV (za9 (za5 (za5 (za9 (za5 (rT (.c (cI (j:Int))) h rfl ?_))))));have hz:zdk (fun m=>m.v == (v:Int)) c.moves 0=(j:Int):=by rw [hI2,zfo hx1,if_pos hc2]
   rw [hz];try rfl
  refine qU (za6 (za1 (Jf 1 [(1,.j1 j)] [20] [(5,vI ((j:Int)+1))] h fun a w h=>za1 (zaa (x:=j) (y:=j+1) h ?_ ?_))))
  ·exact ⟨by have:=zac hx1;omega,by rw [hI2,zfo hx1,if_neg (by rw [hc3];exact Bool.noConfusion)]⟩
  show c.moves.length - (j+1)<c.moves.length - j;have:=zac hx1;omega
 refine exA (Jq 1 [] [(4,vI (-1))] [] h fun a w h=>qV (rT (.c (cI (-1))) h rfl ?_));have hz:zdk (fun m=>m.v == (v:Int)) c.moves 0=-1:=by rw [hI2,cK (by omega)];rfl
 rw [hz];try rfl
theorem there_no {m:zai} (h1:decide (m.v<0)=false) (h2:decide (m.v>=(s.vars.length:Int))=false):(!zf5 s m)=false:=by
 have:=of_decide_eq_false h1;have:=of_decide_eq_false h2
 unfold zf5;rw [decide_eq_true (by omega),decide_eq_true (by omega)];rfl
theorem there_lo {m:zai} (h1:decide (m.v<0)=true):(!zf5 s m)=true:=by
 have:=of_decide_eq_true h1;unfold zf5;rw [decide_eq_false (by omega)];rfl
theorem there_hi {m:zai} (h2:decide (m.v>=(s.vars.length:Int))=true):(!zf5 s m)=true:=by
 have:=of_decide_eq_true h2;unfold zf5;rw [decide_eq_false (p:=m.v<(s.vars.length:Int)) (by omega),c7];rfl
theorem SRbeginsN (s:zam) (x:StD) (i:Int) {L:Nat} (hL:L+M<=4000) (hs:zbg L s) (hx:zjb M x) (hi:zdh s i=none):Fn Tryz.prog 45 [] [vG (zcn s),vG [cIs x.locs,cZs x.vals],vI i] (vb false) []:=by
 refine fB Tryz.func45 rfl 100 fun w H B a h=>Jq 0 [] [(2,vI i),(3,vp 0 0),(4,vp 1 0),(6,vb false)] [(0,.box (zcn s)),(1,.box [cIs x.locs,cZs x.vals])] h fun a w h=>qW ?_
 rcases bG (decide (i<0)) with hc1 | hc2
 ·have hc1':=dT hc1;refine Je 2 [(1,.cmp (op:=.lss) (m:=i) (n:=0) (b:=true) .i64 hc1)] [] [(23,vb true)] h fun a w h=>cS true h (fun _=>?_) nofun
  refine Je 2 [] [23] [] h fun a w h=>qV (za5 (rT (.c (cB false)) h rfl ?_));rfl
 have hc2':=dF hc2;refine Je 2 [(1,.cmp (op:=.lss) (m:=i) (n:=0) (b:=false) .i64 hc2),(6,.len (za4 10 zap.d s.acts)),(7,.cmp (op:=.geq) (m:=i) (n:=(s.acts.length:Int)) (b:=true) .i64 (decide_eq_true (by have:=actAt_none hi;have:=dF hc2;omega)))] [] [(23,vb true)] h fun a w h=>cS true h (fun _=>?_) nofun
 refine Je 2 [] [23] [] h fun a w h=>qV (za5 (rT (.c (cB false)) h rfl ?_));rfl
theorem SRbeginsS (s:zam) (x:StD) (ki:Nat) (c:zap) {L:Nat} (hL:L+M<=4000) (hs:zbg L s) (hx:zjb M x) (hka:s.acts[ki]?=some c):Fn Tryz.prog 45 [] [vG (zcn s),vG [cIs x.locs,cZs x.vals],vN ki] (vb (zar s x c)) []:=by
 have lx1:=hx.locs;have lx2:=hx.vals;have ls1:=hs.vars;have ls2:=hs.procs;have lki:=zac hka;have hc:zgo L c:=hs.act c (lM hka);have lmv:=hc.len;refine fB Tryz.func45 rfl 100 fun w H B a h=>Jq 0 [] [(2,vN ki),(3,vp 0 0),(4,vp 1 0),(6,vb false)] [(0,.box (zcn s)),(1,.box [cIs x.locs,cZs x.vals])] h fun a w h=>qW (Je 2 [(1,.cmp (op:=.lss) (m:=(ki:Int)) (n:=0) (b:=false) .i64 (show (decide ((ki:Int)<0))=false from decide_eq_false (by omega))),(6,.len (za4 10 zap.d s.acts)),(7,.cmp (op:=.geq) (m:=(ki:Int)) (n:=(s.acts.length:Int)) (b:=false) .i64 (show (decide ((ki:Int)>=(s.acts.length:Int)))=false from decide_eq_false (by omega))),(12,.call (SRFits s x (L:=L) (M:=M) (by omega) hs hx))] [] [(23,vb (!(zed s x)))] h fun a w h=>cS (!(zed s x)) h (fun hc1=>?_) (fun hc2=>?_))
 ·refine Je 2 [] [23] [] h fun a w h=>qV (za5 (rT (.c (cB false)) h rfl ?_));have hz:zar s x c=false:=by unfold zar;rw [(show (zed s x)=false from by simpa using hc1)];rfl
  rw [hz];try rfl
 refine qU (za1 (Jg 2 [(3,.g (xD 27 25 ki_1 (za7 hka (f:=zap.d)) (OV.tmp 26 _)))] [2,23] [(7,vp 2 0)] [] [(2,.box ([cI c.proc,cI c.from_,cI c.to_,cI c.guard.kind,cPs c.guard.r.t.parts]++zi c.guard.r.t.k++[cB c.guard.r.eq,cFs c.guard.kids,.d (.sl 5 (c.moves.map zai.d))]))] h fun a w h=>qW ?_))
 rcases bG (decide (c.proc<0)) with hc3 | hc4
 ·have hc3':=dT hc3;refine Je 3 [(2,.cmp (op:=.lss) (m:=c.proc) (n:=0) (b:=true) .i64 hc3)] [] [(68,vb true)] h fun a w h=>cS true h (fun _=>?_) nofun
  refine Je 3 [] [68] [] h fun a w h=>qV (za5 (rT (.c (cB false)) h rfl ?_));have hz:zar s x c=(false):=by unfold zar;rw [(show (zed s x)=true from by simpa using hc2),bC];rw [decide_eq_false (p:=0<=c.proc/\c.proc<(s.procs.length:Int)) (by have:=dT hc3;omega)];rfl
  rw [hz];try rfl
 have hc4':=dF hc4
 rcases bG (decide (c.proc>=(s.procs.length:Int))) with hc5 | hc6
 ·have hc5':=dT hc5;refine Je 3 [(2,.cmp (op:=.lss) (m:=c.proc) (n:=0) (b:=false) .i64 hc4),(8,.len (za4 3 zb9.d s.procs)),(9,.cmp (op:=.geq) (m:=c.proc) (n:=(s.procs.length:Int)) (b:=true) .i64 hc5)] [] [(68,vb true)] h fun a w h=>cS true h (fun _=>?_) nofun
  refine Je 3 [] [68] [] h fun a w h=>qV (za5 (rT (.c (cB false)) h rfl ?_));have hz:zar s x c=(false):=by unfold zar;rw [(show (zed s x)=true from by simpa using hc2),bC];rw [decide_eq_false (p:=0<=c.proc/\c.proc<(s.procs.length:Int)) (by have:=dT hc5;omega)];rfl
  rw [hz];try rfl
 have hc6':=dF hc6;have hfl:=zhm (show (zed s x)=true from by simpa using hc2);obtain ⟨k,hkk⟩:∃ k_:Nat,c.proc=(k_:Int):=⟨_,(b6 (by have:=dF hc4;omega)).symm⟩;replace h:=cvM [] [] [] [(2,.box ([cI (k:Int),cI c.from_,cI c.to_,cI c.guard.kind,cPs c.guard.r.t.parts]++zi c.guard.r.t.k++[cB c.guard.r.eq,cFs c.guard.kids,.d (.sl 5 (c.moves.map zai.d))]))] (by rw [hkk];kernel_rfl) h;obtain ⟨x2,hx2⟩:=gl x.locs k
 rcases bG (x2 != c.from_) with hc7 | hc8
 ·refine Jg 3 [(2,.cmp (op:=.lss) (m:=(k:Int)) (n:=0) (b:=false) .i64 (show (decide ((k:Int)<0))=false from by rw [<- hkk];exact hc4)),(8,.len (za4 3 zb9.d s.procs)),(9,.cmp (op:=.geq) (m:=(k:Int)) (n:=(s.procs.length:Int)) (b:=false) .i64 (show (decide ((k:Int)>=(s.procs.length:Int)))=false from by rw [<- hkk];exact hc6)),(16,.g (xD 45 42 zjl (za7 hx2 (f:=zak)) (OV.tmp 44 _))),(20,.cmp (op:=.neq) (m:=x2) (n:=c.from_) (b:=true) .i64 hc7)] [] [(68,vb true)] [] [] h fun a w h=>cS true h (fun _=>?_) nofun
  refine Je 3 [] [68] [] h fun a w h=>qV (za5 (rT (.c (cB false)) h rfl ?_));have hz:zar s x c=(false):=by unfold zar;rw [(show (zed s x)=true from by simpa using hc2),bC];rw [decide_eq_true (p:=0<=c.proc/\c.proc<(s.procs.length:Int)) (by have:=dF hc4;have:=dF hc6;omega),show c.proc.toNat=k by omega,hx2,b9,bC];rw [show (x2 == c.from_)=false by have:=hc7;simpa using this];rfl
  rw [hz];try rfl
 rcases bG (decide (c.to_<0)) with hc9 | hc10
 ·have hc9':=dT hc9;refine Jg 3 [(2,.cmp (op:=.lss) (m:=(k:Int)) (n:=0) (b:=false) .i64 (show (decide ((k:Int)<0))=false from by rw [<- hkk];exact hc4)),(8,.len (za4 3 zb9.d s.procs)),(9,.cmp (op:=.geq) (m:=(k:Int)) (n:=(s.procs.length:Int)) (b:=false) .i64 (show (decide ((k:Int)>=(s.procs.length:Int)))=false from by rw [<- hkk];exact hc6)),(16,.g (xD 45 42 zjl (za7 hx2 (f:=zak)) (OV.tmp 44 _))),(20,.cmp (op:=.neq) (m:=x2) (n:=c.from_) (b:=false) .i64 hc8),(25,.cmp (op:=.lss) (m:=c.to_) (n:=0) (b:=true) .i64 hc9)] [] [(68,vb true)] [] [] h fun a w h=>cS true h (fun _=>?_) nofun
  refine Je 3 [] [68] [] h fun a w h=>qV (za5 (rT (.c (cB false)) h rfl ?_));have hz:zar s x c=(false):=by unfold zar;rw [(show (zed s x)=true from by simpa using hc2),bC];rw [decide_eq_true (p:=0<=c.proc/\c.proc<(s.procs.length:Int)) (by have:=dF hc4;have:=dF hc6;omega),show c.proc.toNat=k by omega,hx2,b9,bC];rw [show (x2 == c.from_)=true by have:=hc8;simpa using this,bC];rw [decide_eq_false (by have:=dT hc9;omega)];rfl
  rw [hz];try rfl
 have hc10':=dF hc10;obtain ⟨x3,hx3⟩:=gl s.procs k;refine Jg 3 [(2,.cmp (op:=.lss) (m:=(k:Int)) (n:=0) (b:=false) .i64 (show (decide ((k:Int)<0))=false from by rw [<- hkk];exact hc4)),(8,.len (za4 3 zb9.d s.procs)),(9,.cmp (op:=.geq) (m:=(k:Int)) (n:=(s.procs.length:Int)) (b:=false) .i64 (show (decide ((k:Int)>=(s.procs.length:Int)))=false from by rw [<- hkk];exact hc6)),(16,.g (xD 45 42 zjl (za7 hx2 (f:=zak)) (OV.tmp 44 _))),(20,.cmp (op:=.neq) (m:=x2) (n:=c.from_) (b:=false) .i64 hc8),(25,.cmp (op:=.lss) (m:=c.to_) (n:=0) (b:=false) .i64 hc10),(34,.g (xD 63 60 kf_5 (za7 hx3 (f:=zb9.d)) (OV.tmp 62 _))),(37,.len (za4 1 zdy x3.locs))] [] [(68,vb (decide (c.to_>=(x3.locs.length:Int))))] [] [] h fun a w h=>zae (c.to_>=(x3.locs.length:Int)) h (fun hc11 hc11'=>?_) (fun hc12 hc12'=>?_)
 ·refine Je 3 [] [68] [] h fun a w h=>qV (za5 (rT (.c (cB false)) h rfl ?_));have hz:zar s x c=(false):=by unfold zar;rw [(show (zed s x)=true from by simpa using hc2),bC];rw [decide_eq_true (p:=0<=c.proc/\c.proc<(s.procs.length:Int)) (by have:=dF hc4;have:=dF hc6;omega),show c.proc.toNat=k by omega,hx2,b9,bC];rw [show (x2 == c.from_)=true by have:=hc8;simpa using this,bC];rw [show zf7 s k=x3.locs.length by unfold zf7;rw [hx3];rfl];rw [decide_eq_false (by have:=dT hc11;omega)];rfl
  rw [hz];try rfl
 refine qU (za1 (qW (Je 3 [] [68] [(8,vI 0)] h fun a w h=>qZ ?_)))
 refine zbx (ι:=(Nat)) (fun j=>j<=c.moves.length/\(c.moves.take j).any (fun m=>!zf5 s m)=false)
   [6] (fun j=>[(8,vN j)])
   [] (fun j=>[])
   (fun j=>c.moves.length - j) 0 ?_ h ?_
 ·exact ⟨bE _,rfl⟩
 clear h;rintro j a w hI h;obtain ⟨hI1,hI2⟩:=hI;refine qW (Je 3 [(3,.len (za4 5 zai.d c.moves))] [] [(73,vb (decide ((j:Int)<(c.moves.length:Int))))] h fun a w h=>zae ((j:Int)<(c.moves.length:Int)) h (fun hc13 hc13'=>?_) (fun hc18 hc18'=>?_))
 ·refine qU (za1 (qW (qZ ?_)));obtain ⟨x4,hx4⟩:=gl c.moves j
  rcases bG (decide (x4.v<0)) with hc14 | hc15
  ·have hc14':=dT hc14;refine Je 3 [(3,.g (xD 79 77 ki_2 (za7 hx4 (f:=zai.d)) (OV.tmp 78 _))),(6,.cmp (op:=.lss) (m:=x4.v) (n:=0) (b:=true) .i64 hc14)] [73] [(94,vb true)] h fun a w h=>cS true h (fun _=>?_) nofun
   refine Je 3 [] [94] [(6,vb false)] h fun a w h=>qV (za9 (za5 (za5 (za9 (za5 (rT (.c (cB false)) h rfl ?_))))));have hz:zar s x c=(false):=by unfold zar;rw [(show (zed s x)=true from by simpa using hc2),bC];rw [decide_eq_true (p:=0<=c.proc/\c.proc<(s.procs.length:Int)) (by have:=dF hc4;have:=dF hc6;omega),show c.proc.toNat=k by omega,hx2,b9,bC];rw [show (x2 == c.from_)=true by have:=hc8;simpa using this,bC];rw [show zf7 s k=x3.locs.length by unfold zf7;rw [hx3];rfl];rw [decide_eq_true (p:=0<=c.to_/\c.to_<(x3.locs.length:Int)) (by have:=dF hc10;have:=dF hc12;omega),bC,(zlr (q:=(fun m=>!zf5 s m)) hx4 (there_lo hc14))];rfl
   rw [hz];try rfl
  have hc15':=dF hc15;refine Je 3 [(3,.g (xD 79 77 ki_2 (za7 hx4 (f:=zai.d)) (OV.tmp 78 _))),(6,.cmp (op:=.lss) (m:=x4.v) (n:=0) (b:=false) .i64 hc15),(11,.g (xD 87 85 ki_2 (za7 hx4 (f:=zai.d)) (OV.tmp 86 _))),(16,.len (za4 1 zdy s.vars))] [73] [(94,vb (decide (x4.v>=(s.vars.length:Int))))] h fun a w h=>zae (x4.v>=(s.vars.length:Int)) h (fun hc16 hc16'=>?_) (fun hc17 hc17'=>?_)
  ·refine Je 3 [] [94] [(6,vb false)] h fun a w h=>qV (za9 (za5 (za5 (za9 (za5 (rT (.c (cB false)) h rfl ?_))))));have hz:zar s x c=(false):=by unfold zar;rw [(show (zed s x)=true from by simpa using hc2),bC];rw [decide_eq_true (p:=0<=c.proc/\c.proc<(s.procs.length:Int)) (by have:=dF hc4;have:=dF hc6;omega),show c.proc.toNat=k by omega,hx2,b9,bC];rw [show (x2 == c.from_)=true by have:=hc8;simpa using this,bC];rw [show zf7 s k=x3.locs.length by unfold zf7;rw [hx3];rfl];rw [decide_eq_true (p:=0<=c.to_/\c.to_<(x3.locs.length:Int)) (by have:=dF hc10;have:=dF hc12;omega),bC,(zlr (q:=(fun m=>!zf5 s m)) hx4 (there_hi hc16))];rfl
   rw [hz];try rfl
  refine qU (za6 (za1 (Jf 3 [(1,.j1 j)] [94] [(8,vI ((j:Int)+1))] h fun a w h=>za1 (zaa (x:=j) (y:=j+1) h ?_ ?_))))
  ·exact ⟨by have:=zac hx4;omega,any_step hx4 hI2 (there_no hc15 hc17)⟩
  show c.moves.length - (j+1)<c.moves.length - j;have:=zac hx4;omega
 refine exA (Jq 3 [(4,.call (SRHolds x.vals (L:=L) (M:=M) (by omega) hx.vok c.guard hc.guard.1 hc.guard.2))] [(6,vb (za0.holds x.vals c.guard))] [] h fun a w h=>qV (rT (.c (cB (za0.holds x.vals c.guard))) h rfl ?_));have hz:zar s x c=(za0.holds x.vals c.guard):=by unfold zar;rw [(show (zed s x)=true from by simpa using hc2),bC];rw [decide_eq_true (p:=0<=c.proc/\c.proc<(s.procs.length:Int)) (by have:=dF hc4;have:=dF hc6;omega),show c.proc.toNat=k by omega,hx2,b9,bC];rw [show (x2 == c.from_)=true by have:=hc8;simpa using this,bC];rw [show zf7 s k=x3.locs.length by unfold zf7;rw [hx3];rfl];rw [decide_eq_true (p:=0<=c.to_/\c.to_<(x3.locs.length:Int)) (by have:=dF hc10;have:=dF hc12;omega),bC,(any_end (q:=(fun m=>!zf5 s m)) (dF hc18) hI2)];rfl
 rw [hz];try rfl
theorem range_keep {f:Nat->α} {cl:List α} {y:α} (hj:cl[j]?=some y) (hy:y=f j):(List.range j).map f++cl.drop j=(List.range (j+1)).map f++cl.drop (j+1):=by
 obtain ⟨hlt,rfl⟩:=cP.1 hj
 rw [cY hlt,hy,cZ,cV,c6];rfl
theorem newV_at {c:zap} {p:ZI} (h:zbw c v=true) (hp:picks[zau c v]?=some p):zf8 x c picks v=ZI.of p.val:=by unfold zf8;rw [if_pos h,hp]
theorem newV_no {c:zap} (h:zbw c v=true) (hp:¬ ((zau c v:Nat):Int)<(picks.length:Int)):zf8 x c picks v=zft:=by unfold zf8;rw [if_pos h,c8 (by omega)]
theorem zd9 {c:zap} {m:zai} (hm:zif c v=some m) (h:m.any=b):zbw c v=b:=by unfold zbw;rw [hm];exact h
theorem free_none {c:zap} (hm:zif c v=none):zbw c v=false:=by unfold zbw;rw [hm]
theorem new_some {c:zap} {m:zai} (hm:zif c v=some m) (h:m.any=false):zjs x c v=ZI.of (zdi m.t x.vals):=by unfold zjs;rw [hm];simp only;rw [if_neg (by rw [h];exact Bool.noConfusion)]
theorem new_none {c:zap} {z:ZI} (hm:zif c v=none) (hz:x.vals[v]?=some z):zjs x c v=clZ z:=by unfold zjs;rw [hm,hz];rfl
theorem cnt_le (c:zap):∀ v,zau c v<=v
 | 0=>bI _
 | v+1=>by rw [zau];have:=cnt_le c v;split <;> omega
theorem SRGo3 (s:zam) (x:StD) (ki:Nat) (picks:List ZI) (c:zap) {L:Nat} (hL:L+M<=4000) (hs:zbg L s) (hx:zjb M x) (hp:∀ z ∈ picks,ZOk M z) (hka:s.acts[ki]?=some c) (hpl:picks.length<=9223372036854775807):Fn Tryz.prog 20 [] [vG (zcn s),vG [cIs x.locs,cZs x.vals],vN ki,(vZs picks)] (.tup [.agg [cIs (goC s x c picks).1.locs,cZs (goC s x c picks).1.vals],.c (cB (goC s x c picks).2)]) []:=by
 have lx1:=hx.locs;have lx2:=hx.vals;have ls1:=hs.vars;have ls2:=hs.procs;have lki:=zac hka;have hc:zgo L c:=hs.act c (lM hka);have lmv:=hc.len;have lvv:=hx.vals;refine fB Tryz.func20 rfl 139 fun w H B a h=>Jq 5 [] [(2,vN ki),(3,(vZs picks)),(4,vp 5 0),(5,vp 6 0),(8,vp 7 0),(9,vb false)] [(5,.box (zcn s)),(6,.box [cIs x.locs,cZs x.vals]),(7,.box [nCl,nCl])] h fun a w h=>Jg 8 [] [] [(10,vp 8 0)] [] [(8,.box [nCl,nCl])] h fun a w h=>qW ?_
 replace h:=zgv 8 0 9 1 3 [nCl,nCl] h;replace h:=zgv 8 1 10 2 28 [.own 9 0,nCl] h;refine Je 11 [] [] [(11,vI 0)] h fun a w h=>qZ ?_
 refine zbx (ι:=(Nat)) (fun j=>j<=x.locs.length)
   [] (fun j=>[(11,vN j)])
   [] (fun j=>[(8,.box [.own 9 (x.locs.take j).length,.own 10 0]),(9,.row 3 1 ((x.locs.take j).map zak))])
   (fun j=>x.locs.length - j) 0 ?_ h ?_
 ·exact bE _
 clear h;rintro j a w hI h;refine qW (Je 11 [(3,.len (za4 1 zak x.locs))] [] [(22,vb (decide ((j:Int)<(x.locs.length:Int))))] h fun a w h=>zae ((j:Int)<(x.locs.length:Int)) h (fun hc1 hc1'=>?_) (fun hc2 hc2'=>?_))
 ·refine qU (za1 (qW (qZ ?_)));obtain ⟨x1,hx1⟩:=gl x.locs j;refine Jh 11 [(5,.g (xD 30 28 zjl (za7 hx1 (f:=zak)) (OV.tmp 29 _))),(7,.g (bD 32 ([x1].map zak) [(31,vI x1)] tb_0 (.cons (i:=0) (OV.tmp 31 _) (.nil)) (by kernel_rfl) (by simp [zak]))),(8,.g (aD 33 26 32 9 11 (x.locs.take j) [x1] zak tb_2 (by simp [zak])))] [22] [] [9] [(8,.box ([.own 11 ((x.locs.take j)++[x1]).length,.own 10 0])),(11,.row 3 1 (((x.locs.take j)++[x1]).map zak))] h fun a w h=>za6 (za1 (Jf 12 [(1,.j1 j)] [] [(11,vI ((j:Int)+1))] h fun a w h=>za1 ?_));rw [show (((x.locs.take j)++[x1]):List Int)=(x.locs.take (j+1)) from (by rw [bX,hx1];rfl)] at h;replace h:=zcz 11 9 h;refine zaa (x:=j) (y:=j+1) h ?_ ?_
  ·show j+1<=x.locs.length;omega
  show x.locs.length - (j+1)<x.locs.length - j;omega
 refine exA (qW ?_);rw [show ((x.locs.take j):List Int)=x.locs from (by rw [bK (by omega)])] at h;refine Jp 12 [] [(2,vN ki),(3,(vZs picks)),(4,vp 5 0),(5,vp 6 0),(8,vp 7 0),(9,vb false),(10,vp 8 0),(12,vI 0)] h fun a w h=>qZ ?_
 refine loopS (ι:=(Nat)) (fun i=>i<=x.vals.length)
   (fun i=>[(2,vN ki),(3,(vZs picks)),(4,vp 5 0),(5,vp 6 0),(8,vp 7 0),(9,vb false),(10,vp 8 0),(12,vN i)])
   (fun i=>[(5,.box (zcn s)),(6,.box [cIs x.locs,cZs x.vals]),(7,.box [nCl,nCl]),(8,.box [.own 9 x.locs.length,.own 10 ((x.vals.take i).map clZ).length]),(9,.row 3 1 (x.locs.map zak)),(10,.row 28 2 (((x.vals.take i).map clZ).map ziD))])
   (fun i=>x.vals.length - i) 0 ?_ h (by kernel_rfl) (by kernel_rfl) ?_
 ·exact bE _
 clear h;rintro i a w hI h;refine qW (Je 12 [(3,.len (za4 2 ziD x.vals))] [] [(39,vb (decide ((i:Int)<(x.vals.length:Int))))] h fun a w h=>zae ((i:Int)<(x.vals.length:Int)) h (fun hc3 hc3'=>?_) (fun hc4 hc4'=>?_))
 ·refine qU (za1 (qW (qZ ?_)));obtain ⟨x2,hx2⟩:=gl x.vals i;have gx2:=hx.val x2 (lM hx2);have lgx2:=gx2.2;obtain ⟨r3,er3,vr3,or3,lr3⟩:=mkZ (v:=x2.val) (m:=M) (bF (zcl gx2.1) gx2.2);refine Jh 12 [(5,.g (xD 47 45 tt_6 (za7 hx2 (f:=ziD)) (OV.tmp 46 _))),(7,.call (Fn.cast ((show Fn _ _ _ _ (vz (ZI.of x2.val)) _ from SRClean x2 gx2.1 (by omega))) (congrArg vz er3.symm))),(8,.g (bD 50 ([r3].map ziD) [(49,vz r3)] ty_5 (.cons (i:=0) (OV.tmp 49 _) (.nil)) (by kernel_rfl) (by simp [ziD]))),(9,.g (aD 51 43 50 10 12 ((x.vals.take i).map clZ) [r3] ziD kk_4 (by simp [ziD])))] [39] [] [10] [(8,.box ([.own 9 x.locs.length,.own 12 (((x.vals.take i).map clZ)++[r3]).length])),(12,.row 28 2 ((((x.vals.take i).map clZ)++[r3]).map ziD))] h fun a w h=>za6 (za1 (Jf 13 [(1,.j1 i)] [] [(12,vI ((i:Int)+1))] h fun a w h=>za1 ?_));rw [show ((((x.vals.take i).map clZ)++[r3]):List ZI)=((x.vals.take (i+1)).map clZ) from (by rw [<- map_snoc hx2];congr 1;simp [clZ, *])] at h;replace h:=zcz 12 10 h;refine zaa (x:=i) (y:=i+1) h ?_ ?_
  ·show i+1<=x.vals.length;omega
  show x.vals.length - (i+1)<x.vals.length - i;omega
 refine exA (qW ?_);rw [show (((x.vals.take i).map clZ):List ZI)=(x.vals.map clZ) from (by rw [bK (by omega)])] at h;refine Jp 13 [(1,.cmp (op:=.eql) (m:=(ki:Int)) (n:=(-1)) (b:=false) .i64 (beq_eq_false_iff_ne.2 (by omega)))] [(2,vN ki),(3,(vZs picks)),(4,vp 5 0),(5,vp 6 0),(8,vp 7 0),(9,vb false),(10,vp 8 0),(54,vb false)] h fun a w h=>zaz h (qU (za1 (qW (Je 13 [(3,.call (SRbeginsS s x ki c hL hs hx hka))] [54] [(64,vb (!(zar s x c)))] h fun a w h=>cS (!(zar s x c)) h (fun hc5=>?_) (fun hc6=>?_)))))
 ·refine Je 13 [] [64] [] h fun a w h=>qV (za5 ?_);replace h:=zbi 7 0 1 [nCl,nCl] h;replace h:=zbi 7 1 2 [cIs [],nCl] h;refine zel [.agg [cIs [],cZs []],.c (cB false)] h Exit.ret (.inl rfl)  rfl ⟨RV.agg _ 7 0 _ _ _ _ kk_5 rfl rfl rfl rfl,RV.tmp _ _ rfl,trivial⟩ ?_;have hz:goC s x c picks=(st0,false):=by unfold goC;rw [if_neg (fun h=>by have:=h.1;rw [(show (zar s x c)=false from by simpa using hc5)] at this;cases this)]
  rw [hz];try rfl
 refine qU (za1 (Jd 13 [(3,.g (xD 69 67 ki_1 (za7 hka (f:=zap.d)) (OV.tmp 68 _)))] [2,64] [(13,vp 13 0)] [(5,.box (zcn s)),(6,.box [cIs x.locs,cZs x.vals]),(7,.box [nCl,nCl]),(8,.box [.own 9 x.locs.length,.own 10 (x.vals.map clZ).length]),(9,.row 3 1 (x.locs.map zak)),(10,.row 28 2 ((x.vals.map clZ).map ziD)),(13,.box ([cI c.proc,cI c.from_,cI c.to_,cI c.guard.kind,cPs c.guard.r.t.parts]++zi c.guard.r.t.k++[cB c.guard.r.eq,cFs c.guard.kids,.d (.sl 5 (c.moves.map zai.d))]))] h fun a w h=>?_));have hen:=(show (zar s x c)=true from by simpa using hc6);have hfl:=zhm (zh2 hen);have hpr:=zkm hen;obtain ⟨k0,hkk0⟩:∃ k_:Nat,c.proc=(k_:Int):=⟨_,(b6 (by omega)).symm⟩;replace h:=cvM [] [] [] [(13,.box ([cI (k0:Int),cI c.from_,cI c.to_,cI c.guard.kind,cPs c.guard.r.t.parts]++zi c.guard.r.t.k++[cB c.guard.r.eq,cFs c.guard.kids,.d (.sl 5 (c.moves.map zai.d))]))] (by rw [hkk0];kernel_rfl) h;obtain ⟨x5,hx5⟩:=gl x.locs k0;refine Jg 14 [(6,.g (xO 77 72 9 x.locs.length k0 zjl (OV.tmp 74 _))),(7,.g (Op.storeR (t:=77) (n:=9) (i:=k0) (fo:=0) (rty:=3) (es:=1) (r:=zak x5) (ds:=[.raw (.int .i64 c.to_)]) (rs:=[(76,vI c.to_)]) (rows:=x.locs.map zak) (rows':=(x.locs.set k0 c.to_).map zak) tl_7 (OV.tmp 76 _) rfl rfl rfl (za7 hx5 (f:=zak)) (by simp [zak]) (zbs (xs:=x.locs) (F:=zak) k0 _ _ rfl)))] [] [] [] [(9,.row 3 1 ((x.locs.set k0 c.to_).map zak))] h fun a w h=>?_;replace h:=cvM [] [] [] [(13,.box ([cI c.proc,cI c.from_,cI c.to_,cI c.guard.kind,cPs c.guard.r.t.parts]++zi c.guard.r.t.k++[cB c.guard.r.eq,cFs c.guard.kids,.d (.sl 5 (c.moves.map zai.d))]))] (by rw [hkk0];kernel_rfl) h;refine Jg 14 [] [] [(14,vI 0)] [] [] h fun a w h=>qW (Je 14 [] [] [(15,vI 0)] h fun a w h=>qZ ?_)
 refine zbx (ι:=(Nat)) (fun j=>j<=x.vals.length)
   [] (fun j=>[(14,vI ((zau c j:Nat):Int)),(15,vN j)])
   [] (fun j=>[(10,.row 28 2 (((List.range j).map (zf8 x c picks)++(x.vals.map clZ).drop j).map ziD))])
   (fun j=>x.vals.length - j) 0 ?_ h ?_
 ·exact bE _
 clear h;rintro j a w hI h;have hrl:=range_len (f:=(zf8 x c picks)) (cl:=(x.vals.map clZ)) (j:=j) (by rw [bJ];omega);rw [bJ] at hrl;have hcf:=cnt_le c j;refine qW (Je 14 [(3,.len (za4 2 ziD x.vals))] [] [(82,vb (decide ((j:Int)<(x.vals.length:Int))))] h fun a w h=>zae ((j:Int)<(x.vals.length:Int)) h (fun hc7 hc7'=>?_) (fun hc12 hc12'=>?_))
 ·refine qU (za1 (qW (qZ ?_)))
  rcases idxB_find (fun m=>m.v == (j:Int)) c.moves with ⟨hix,hm⟩ | ⟨k,m,hix,hmk,hm⟩
  ·replace hm:zif c j=none:=hm;refine Jq 14 [(2,.call (Fn.cast (SRmove c j lmv) (congrArg (vi .i64) hix)))] [(3,(vZs picks)),(4,vp 5 0),(5,vp 6 0),(8,vp 7 0),(9,vb false),(10,vp 8 0),(13,vp 13 0),(14,vI ((zau c j:Nat):Int)),(15,vN j),(16,vI (-1))] [(5,.box (zcn s)),(6,.box [cIs x.locs,cZs x.vals]),(7,.box [nCl,nCl]),(8,.box [.own 9 x.locs.length,.own 10 (x.vals.map clZ).length]),(9,.row 3 1 ((x.locs.set k0 c.to_).map zak)),(10,.row 28 2 (((List.range j).map (zf8 x c picks)++(x.vals.map clZ).drop j).map ziD)),(13,.box ([cI c.proc,cI c.from_,cI c.to_,cI c.guard.kind,cPs c.guard.r.t.parts]++zi c.guard.r.t.k++[cB c.guard.r.eq,cFs c.guard.kids,.d (.sl 5 (c.moves.map zai.d))]))] h fun a w h=>Je 14 [(1,.cmp (op:=.geq) (m:=(-1)) (n:=0) (b:=false) .i64 rfl)] [] [(97,vb false)] h fun a w h=>zaz h (Je 14 [(1,.cmp (op:=.geq) (m:=(-1)) (n:=0) (b:=false) .i64 rfl)] [97] [(119,vb false)] h fun a w h=>zaz h (qU (za6 (za1 (Jf 14 [(1,.j1 j)] [16,119] [(15,vI ((j:Int)+1))] h fun a w h=>za1 ?_)))));obtain ⟨zq,hzq⟩:∃ z_:ZI,x.vals[j]?=some z_:=⟨_,dA (by omega)⟩;rw [show (((List.range j).map (zf8 x c picks)++(x.vals.map clZ).drop j):List ZI)=((List.range (j+1)).map (zf8 x c picks)++(x.vals.map clZ).drop (j+1)) from (range_keep (za7 hzq (f:=clZ)) (by rw [zit (free_none hm),new_none hm hzq]))] at h;replace h:=cv (fun z_:Int=>F.of [(3,(vZs picks)),(4,vp 5 0),(5,vp 6 0),(8,vp 7 0),(9,vb false),(10,vp 8 0),(13,vp 13 0),(14,vI z_),(15,vI ((j:Int)+1))] [(5,.box (zcn s)),(6,.box [cIs x.locs,cZs x.vals]),(7,.box [nCl,nCl]),(8,.box [.own 9 x.locs.length,.own 10 (x.vals.map clZ).length]),(9,.row 3 1 ((x.locs.set k0 c.to_).map zak)),(10,.row 28 2 (((List.range (j+1)).map (zf8 x c picks)++(x.vals.map clZ).drop (j+1)).map ziD)),(13,.box ([cI c.proc,cI c.from_,cI c.to_,cI c.guard.kind,cPs c.guard.r.t.parts]++zi c.guard.r.t.k++[cB c.guard.r.eq,cFs c.guard.kids,.d (.sl 5 (c.moves.map zai.d))]))]) (show (((zau c j:Nat):Int):Int)=((zau c (j+1):Nat):Int) from (by rw [cnt_kept (free_none hm)])) (h.conv (by kernel_rfl));refine zaa (x:=j) (y:=j+1) h ?_ ?_
   ·show j+1<=x.vals.length;omega
   show x.vals.length - (j+1)<x.vals.length - j;omega
  replace hm:zif c j=some m:=hm;have lmk:=zac hmk;refine Jq 14 [(2,.call (Fn.cast (SRmove c j lmv) (congrArg (vi .i64) hix)))] [(3,(vZs picks)),(4,vp 5 0),(5,vp 6 0),(8,vp 7 0),(9,vb false),(10,vp 8 0),(13,vp 13 0),(14,vI ((zau c j:Nat):Int)),(15,vN j),(16,vN k)] [(5,.box (zcn s)),(6,.box [cIs x.locs,cZs x.vals]),(7,.box [nCl,nCl]),(8,.box [.own 9 x.locs.length,.own 10 (x.vals.map clZ).length]),(9,.row 3 1 ((x.locs.set k0 c.to_).map zak)),(10,.row 28 2 (((List.range j).map (zf8 x c picks)++(x.vals.map clZ).drop j).map ziD)),(13,.box ([cI c.proc,cI c.from_,cI c.to_,cI c.guard.kind,cPs c.guard.r.t.parts]++zi c.guard.r.t.k++[cB c.guard.r.eq,cFs c.guard.kids,.d (.sl 5 (c.moves.map zai.d))]))] h fun a w h=>Je 14 [(1,.cmp (op:=.geq) (m:=(k:Int)) (n:=0) (b:=true) .i64 (show (decide ((k:Int)>=0))=true from decide_eq_true (by omega))),(6,.g (xD 94 92 ki_2 (za7 hmk (f:=zai.d)) (OV.tmp 93 _)))] [] [(97,vb m.any)] h fun a w h=>cS m.any h (fun hc8=>?_) (fun hc11=>?_)
  ·obtain ⟨x8,hx8⟩:=gl ((List.range j).map (zf8 x c picks)++(x.vals.map clZ).drop j) j;refine Jg 14 [(4,.g (xO 102 99 10 (x.vals.map clZ).length j tt_6 (OV.tmp 100 _))),(5,.g (Op.storeR (t:=102) (n:=10) (i:=j) (fo:=0) (rty:=28) (es:=2) (r:=ziD x8) (ds:=[.raw (.bool false),nsl []]) (rs:=[(101,vG [cB false,.d (nsl [])])]) (rows:=((List.range j).map (zf8 x c picks)++(x.vals.map clZ).drop j).map ziD) (rows':=(((List.range j).map (zf8 x c picks)++(x.vals.map clZ).drop j).set j (ZI.mk false [])).map ziD) zef (OV.tmp 101 _) rfl rfl rfl (za7 hx8 (f:=ziD)) (by simp [ziD]) (zbs (xs:=((List.range j).map (zf8 x c picks)++(x.vals.map clZ).drop j)) (F:=ziD) j _ _ rfl)))] [16,97] [] [] [(10,.row 28 2 ((((List.range j).map (zf8 x c picks)++(x.vals.map clZ).drop j).set j (ZI.mk false [])).map ziD))] h fun a w h=>qW (Je 14 [(2,.len (za4 2 ziD picks))] [] [(106,vb (decide (((zau c j:Nat):Int)<(picks.length:Int))))] h fun a w h=>zae (((zau c j:Nat):Int)<(picks.length:Int)) h (fun hc9 hc9'=>?_) (fun hc10 hc10'=>?_))
   ·obtain ⟨x9,hx9⟩:=gl picks (zau c j);have gx9:=hp x9 (lM hx9);have lgx9:=gx9.2;obtain ⟨r10,er10,vr10,or10,lr10⟩:=mkZ (v:=x9.val) (m:=M) (bF (zcl gx9.1) gx9.2);refine Jh 14 [(5,.g (xD 112 110 tt_6 (za7 hx9 (f:=ziD)) (OV.tmp 111 _))),(7,.call (Fn.cast ((show Fn _ _ _ _ (vz (ZI.of x9.val)) _ from SRClean x9 gx9.1 (by omega))) (congrArg vz er10.symm))),(8,.g (xO 115 108 10 (x.vals.map clZ).length j tt_6 (OV.tmp 109 _))),(9,.g (Op.storeR (t:=115) (n:=10) (i:=j) (fo:=0) (rty:=28) (es:=2) (r:=ziD (ZI.mk false [])) (ds:=[.raw (.bool r10.neg),nsl r10.abs]) (rs:=[(114,vz r10)]) (rows:=(((List.range j).map (zf8 x c picks)++(x.vals.map clZ).drop j).set j (ZI.mk false [])).map ziD) (rows':=((((List.range j).map (zf8 x c picks)++(x.vals.map clZ).drop j).set j (ZI.mk false [])).set j r10).map ziD) zef (OV.tmp 114 _) rfl rfl rfl (za7 (dD (cP.1 hx8).1) (f:=ziD)) (by simp [ziD]) (zbs (xs:=(((List.range j).map (zf8 x c picks)++(x.vals.map clZ).drop j).set j (ZI.mk false []))) (F:=ziD) j _ _ rfl)))] [106] [] [] [(10,.row 28 2 (((((List.range j).map (zf8 x c picks)++(x.vals.map clZ).drop j).set j (ZI.mk false [])).set j r10).map ziD))] h fun a w h=>?_;refine za1 (Jf 14 [(1,.add .i64 (m:=((zau c j:Nat):Int)) (n:=1) i6)] [] [(14,vI (((zau c j:Nat):Int)+1))] h fun a w h=>za6 (za1 (Jf 14 [(1,.j1 j)] [] [(15,vI ((j:Int)+1))] h fun a w h=>za1 ?_)));rw [show (((((List.range j).map (zf8 x c picks)++(x.vals.map clZ).drop j).set j (ZI.mk false [])).set j r10):List ZI)=((List.range (j+1)).map (zf8 x c picks)++(x.vals.map clZ).drop (j+1)) from (by rw [List.set_set];exact range_set (by rw [bJ];omega) (by rw [newV_at (zd9 hm hc8) hx9];simp [*]))] at h;replace h:=cv (fun z_:Int=>F.of [(3,(vZs picks)),(4,vp 5 0),(5,vp 6 0),(8,vp 7 0),(9,vb false),(10,vp 8 0),(13,vp 13 0),(14,vI z_),(15,vI ((j:Int)+1))] [(5,.box (zcn s)),(6,.box [cIs x.locs,cZs x.vals]),(7,.box [nCl,nCl]),(8,.box [.own 9 x.locs.length,.own 10 (x.vals.map clZ).length]),(9,.row 3 1 ((x.locs.set k0 c.to_).map zak)),(10,.row 28 2 (((List.range (j+1)).map (zf8 x c picks)++(x.vals.map clZ).drop (j+1)).map ziD)),(13,.box ([cI c.proc,cI c.from_,cI c.to_,cI c.guard.kind,cPs c.guard.r.t.parts]++zi c.guard.r.t.k++[cB c.guard.r.eq,cFs c.guard.kids,.d (.sl 5 (c.moves.map zai.d))]))]) (show (((zau c j:Nat):Int)+1:Int)=((zau c (j+1):Nat):Int) from (by rw [cnt_free (zd9 hm hc8)];omega)) (h.conv (by kernel_rfl));refine zaa (x:=j) (y:=j+1) h ?_ ?_
    ·show j+1<=x.vals.length;omega
    show x.vals.length - (j+1)<x.vals.length - j;omega
   refine qU (za1 (Jf 14 [(1,.add .i64 (m:=((zau c j:Nat):Int)) (n:=1) i6)] [106] [(14,vI (((zau c j:Nat):Int)+1))] h fun a w h=>za6 (za1 (Jf 14 [(1,.j1 j)] [] [(15,vI ((j:Int)+1))] h fun a w h=>za1 ?_))));rw [show ((((List.range j).map (zf8 x c picks)++(x.vals.map clZ).drop j).set j (ZI.mk false [])):List ZI)=((List.range (j+1)).map (zf8 x c picks)++(x.vals.map clZ).drop (j+1)) from (range_set (by rw [bJ];omega) (by rw [newV_no (zd9 hm hc8) (dF hc10)];rfl))] at h;replace h:=cv (fun z_:Int=>F.of [(3,(vZs picks)),(4,vp 5 0),(5,vp 6 0),(8,vp 7 0),(9,vb false),(10,vp 8 0),(13,vp 13 0),(14,vI z_),(15,vI ((j:Int)+1))] [(5,.box (zcn s)),(6,.box [cIs x.locs,cZs x.vals]),(7,.box [nCl,nCl]),(8,.box [.own 9 x.locs.length,.own 10 (x.vals.map clZ).length]),(9,.row 3 1 ((x.locs.set k0 c.to_).map zak)),(10,.row 28 2 (((List.range (j+1)).map (zf8 x c picks)++(x.vals.map clZ).drop (j+1)).map ziD)),(13,.box ([cI c.proc,cI c.from_,cI c.to_,cI c.guard.kind,cPs c.guard.r.t.parts]++zi c.guard.r.t.k++[cB c.guard.r.eq,cFs c.guard.kids,.d (.sl 5 (c.moves.map zai.d))]))]) (show (((zau c j:Nat):Int)+1:Int)=((zau c (j+1):Nat):Int) from (by rw [cnt_free (zd9 hm hc8)];omega)) (h.conv (by kernel_rfl));refine zaa (x:=j) (y:=j+1) h ?_ ?_
   ·show j+1<=x.vals.length;omega
   show x.vals.length - (j+1)<x.vals.length - j;omega
  refine Je 14 [(1,.cmp (op:=.geq) (m:=(k:Int)) (n:=0) (b:=true) .i64 (show (decide ((k:Int)>=0))=true from decide_eq_true (by omega)))] [97] [(119,vb true)] h fun a w h=>cS true h (fun _=>?_) nofun
  obtain ⟨r11,er11,vr11,or11,lr11⟩:=mkZ (v:=zdi m.t x.vals) (m:=L+M+2) (bF (val_len (hc.mv m (lM hmk)) (by decide) hx.vok (fun p hp=>hp) (bI _)) (by omega));obtain ⟨x12,hx12⟩:=gl ((List.range j).map (zf8 x c picks)++(x.vals.map clZ).drop j) j;refine Jh 14 [(6,.g (xD 126 124 ki_2 (za7 hmk (f:=zai.d)) (OV.tmp 125 _))),(11,.call (Fn.cast (SRValue m.t x.vals (hc.mv m (lM hmk)) (by decide) (by omega) hx.vok) (congrArg vz er11.symm))),(12,.g (xO 132 121 10 (x.vals.map clZ).length j tt_6 (OV.tmp 122 _))),(13,.g (Op.storeR (t:=132) (n:=10) (i:=j) (fo:=0) (rty:=28) (es:=2) (r:=ziD x12) (ds:=[.raw (.bool r11.neg),nsl r11.abs]) (rs:=[(131,vz r11)]) (rows:=((List.range j).map (zf8 x c picks)++(x.vals.map clZ).drop j).map ziD) (rows':=(((List.range j).map (zf8 x c picks)++(x.vals.map clZ).drop j).set j r11).map ziD) zef (OV.tmp 131 _) rfl rfl rfl (za7 hx12 (f:=ziD)) (by simp [ziD]) (zbs (xs:=((List.range j).map (zf8 x c picks)++(x.vals.map clZ).drop j)) (F:=ziD) j _ _ rfl)))] [16,119] [] [] [(10,.row 28 2 ((((List.range j).map (zf8 x c picks)++(x.vals.map clZ).drop j).set j r11).map ziD))] h fun a w h=>za6 (za1 (Jf 14 [(1,.j1 j)] [] [(15,vI ((j:Int)+1))] h fun a w h=>za1 ?_));rw [show ((((List.range j).map (zf8 x c picks)++(x.vals.map clZ).drop j).set j r11):List ZI)=((List.range (j+1)).map (zf8 x c picks)++(x.vals.map clZ).drop (j+1)) from (range_set (by rw [bJ];omega) (by rw [zit (zd9 hm hc11),new_some hm hc11];simp [*]))] at h;replace h:=cv (fun z_:Int=>F.of [(3,(vZs picks)),(4,vp 5 0),(5,vp 6 0),(8,vp 7 0),(9,vb false),(10,vp 8 0),(13,vp 13 0),(14,vI z_),(15,vI ((j:Int)+1))] [(5,.box (zcn s)),(6,.box [cIs x.locs,cZs x.vals]),(7,.box [nCl,nCl]),(8,.box [.own 9 x.locs.length,.own 10 (x.vals.map clZ).length]),(9,.row 3 1 ((x.locs.set k0 c.to_).map zak)),(10,.row 28 2 (((List.range (j+1)).map (zf8 x c picks)++(x.vals.map clZ).drop (j+1)).map ziD)),(13,.box ([cI c.proc,cI c.from_,cI c.to_,cI c.guard.kind,cPs c.guard.r.t.parts]++zi c.guard.r.t.k++[cB c.guard.r.eq,cFs c.guard.kids,.d (.sl 5 (c.moves.map zai.d))]))]) (show (((zau c j:Nat):Int):Int)=((zau c (j+1):Nat):Int) from (by rw [cnt_kept (zd9 hm hc11)])) (h.conv (by kernel_rfl));refine zaa (x:=j) (y:=j+1) h ?_ ?_
  ·show j+1<=x.vals.length;omega
  show x.vals.length - (j+1)<x.vals.length - j;omega
 refine exA (qW ?_);replace h:=zie 9 1 3 ((x.locs.set k0 c.to_).map zak) h [x.locs.length] ⟨by first | exact (bJ _).symm | (simp;done) | (simp;omega),trivial⟩;replace h:=zie 10 2 28 (((List.range j).map (zf8 x c picks)++(x.vals.map clZ).drop j).map ziD) h [(x.vals.map clZ).length] ⟨by first | exact (bJ _).symm | (simp;done) | (simp;omega),trivial⟩;replace h:=cvM [] [] [] [(8,.box ([cIs (zga s x c picks).locs,cZs ((List.range j).map (zf8 x c picks)++(x.vals.map clZ).drop j)]))] (by rw [<- show ((x.locs.set k0 c.to_):List Int)=(zga s x c picks).locs from (by show _=x.locs.set c.proc.toNat c.to_;rw [show c.proc.toNat=k0 by omega])];kernel_rfl) h;rw [show (((List.range j).map (zf8 x c picks)++(x.vals.map clZ).drop j):List ZI)=(zga s x c picks).vals from (by rw [show j=s.vars.length by omega,range_end (by rw [bJ];omega)];rfl)] at h;refine Jq 14 [(2,.call (SRFits s (zga s x c picks) (L:=L) (M:=L+M+2) (by omega) hs (outS_ok hs hx hc hp)))] [(8,vp 7 0),(9,vb false),(10,vp 8 0),(136,vb (!(zed s (zga s x c picks))))] [(7,.box [nCl,nCl]),(8,.box [cIs (zga s x c picks).locs,cZs (zga s x c picks).vals])] h fun a w h=>cS (!(zed s (zga s x c picks))) h (fun hc13=>?_) (fun hc14=>?_)
 ·refine Je 14 [] [136] [] h fun a w h=>qV (za5 ?_);replace h:=zbi 7 0 1 [nCl,nCl] h;replace h:=zbi 7 1 2 [cIs [],nCl] h;refine zel [.agg [cIs [],cZs []],.c (cB false)] h Exit.ret (.inl rfl)  rfl ⟨RV.agg _ 7 0 _ _ _ _ kk_5 rfl rfl rfl rfl,RV.tmp _ _ rfl,trivial⟩ ?_;have hz:goC s x c picks=(st0,false):=by unfold goC;rw [if_neg (fun h=>by have:=h.2;rw [(show (zed s (zga s x c picks))=false from by simpa using hc13)] at this;cases this)]
  rw [hz];try rfl
 refine qU (za1 (Jq 14 [] [(8,vp 7 0),(9,vb true)] [(7,.box [cIs (zga s x c picks).locs,cZs (zga s x c picks).vals])] h fun a w h=>qV (zel [.agg [cIs (zga s x c picks).locs,cZs (zga s x c picks).vals],.c (cB true)] h Exit.ret (.inl rfl)  rfl ⟨RV.agg _ 7 0 _ _ _ _ kk_5 rfl rfl rfl rfl,RV.tmp _ _ rfl,trivial⟩ ?_)));have hz:goC s x c picks=(zga s x c picks,true):=by unfold goC;rw [if_pos ⟨(show (zar s x c)=true from by simpa using hc6),(show (zed s (zga s x c picks))=true from by simpa using hc14)⟩]
 rw [hz];try rfl
theorem cnt_step_le (c:zap) (v:Nat):zau c v<=zau c (v+1):=by rw [zau];omega
theorem cnt_mono (c:zap) {u:Nat} (h:u<=v):zau c u<=zau c v:=by
 induction v with
 | zero=>rw [Nat.le_zero.1 h];exact bI _
 | succ v ih =>
  rcases Nat.lt_or_ge u (v+1) with h1 | h1
  ·exact bF (ih (by omega)) (cnt_step_le c v)
  ·rw [show u=v+1 by omega];exact bI _
def zbf (f:Nat->ZI) (c:zap):Nat->List ZI
  | 0=>[]
  | v+1=>if zbw c v=true then zbf f c v++[f v] else zbf f c v
theorem zez (f:Nat->ZI) (c:zap):∀ n,(zbf f c n).length=zau c n
 | 0=>rfl
 | n+1=>by
  rw [zbf,zau]
  split
  ·rw [cT,zez f c n];rfl
  ·rw [zez f c n];rfl
theorem freeL_at (f:Nat->ZI) (c:zap) (hv:zbw c v=true):∀ n,v<n->(zbf f c n)[zau c v]?=some (f v)
 | n+1,h=>by
  rw [zbf]
  rcases Nat.lt_or_ge v n with h1 | h1
  ·have ih:=freeL_at f c hv n h1
   split
   ·rw [List.getElem?_append_left (by rw [zez];exact Nat.lt_of_lt_of_le (by rw [cnt_free hv];omega) (cnt_mono c h1))];exact ih
   ·exact ih
  ·obtain rfl:v=n:=by omega
   rw [if_pos hv,List.getElem?_append_right (by rw [zez];exact bI _),zez,Nat.sub_self];rfl
theorem zlg {f:Nat->ZI} (h:∀ v,ZOk M (f v)) (c:zap):∀ n,∀ z ∈ zbf f c n,ZOk M z
 | 0,z,hz=>by cases hz
 | n+1,z,hz=>by
  rw [zbf] at hz
  split at hz
  ·rcases bV.1 hz with h1 | h1
   ·exact zlg h c n z h1
   ·rw [bN.1 h1];exact h n
  ·exact zlg h c n z hz
def zbp (s:zam) (v:Nat):ZI:=if (zbl s v).is_=true then (zbl s v).lo else zft
theorem low_ok {L:Nat} (hs:zbg L s) (v:Nat):ZOk L (zbp s v):=by
 unfold zbp;split
 ·exact (bnd_ok hs v).1
 ·exact ZOk.zero
theorem cmp_self (x:Int):decide (zcb x x<=0)=true:=by unfold zcb;simp
theorem within_of (b:zaj) (z:ZI):zc3 b (ZI.of z.val)=zc3 b z:=by unfold zc3;rw [ZI.val_of]
theorem nlocs_in (h:zed s x=true) {i:Nat} (hi:i<x.locs.length):zks s x i=true:=by
 unfold zed at h;simp only [bU] at h;exact zj9.1 h.2.1 i hi
theorem enabled_to {c:zap} (h:zar s x c=true):0<=c.to_/\c.to_<(zf7 s c.proc.toNat:Int):=by unfold zar at h;simp only [bU,decide_eq_true_eq] at h;exact h.1.2.2
theorem fits_out {c:zap} (picks:List ZI) (h:zar s x c=true):zed s (zga s x c picks)=zjh s.vars.length (fun v=>zc3 (zbl s v) (zf8 x c picks v)):=by
 have hf:=zh2 h;have hl:=zhm hf;have hp:=zkm h;have ht:=enabled_to h
 have e1:(zga s x c picks).locs.length=s.procs.length:=by simp only [zga,List.length_set];exact hl.1
 have e2:(zga s x c picks).vals.length=s.vars.length:=by simp [zga]
 unfold zed
 rw [decide_eq_true ⟨e1,e2⟩,bC]
 have a1:zjh (zga s x c picks).locs.length (zks s (zga s x c picks))=true:=zj9.2 fun i hi=>by
  rw [e1] at hi
  have h1:=nlocs_in hf (i:=i) (by omega)
  unfold zks at h1 ⊢
  by_cases hi2:i=c.proc.toNat
  ·subst hi2
   have:(zga s x c picks).locs[c.proc.toNat]?=some c.to_:=by simp only [zga];exact dD (by omega)
   rw [this];exact decide_eq_true ht
  ·have:(zga s x c picks).locs[i]?=x.locs[i]?:=by simp only [zga];exact List.getElem?_set_ne (Ne.symm hi2)
   rw [this];exact h1
 rw [a1,bC,e2]
 refine zhs fun v hv=>?_
 unfold valOk
 have:(zga s x c picks).vals[v]?=some (zf8 x c picks v):=by simp [zga,List.getElem?_map,List.getElem?_range hv]
 rw [this];rfl
theorem fits_lows {c:zap} (h:zar s x c=true):zed s (zga s x c (zbf (zbp s) c s.vars.length))=zjh s.vars.length (canAt s x c):=by
 rw [fits_out _ h]
 refine zhs fun v hv=>?_
 unfold canAt
 by_cases hf:zbw c v=true
 ·rw [if_pos hf,newV_at hf (freeL_at (zbp s) c hf _ hv),within_of]
  unfold zc3 zbp
  cases hb:(zbl s v).is_ with
  | false=>simp
  | true =>
   simp only [if_true,Bool.not_true,Bool.false_or,bC,cmp_self]
   by_cases hc:zcb (zbl s v).lo.val (zbl s v).hi.val<=0
   ·rw [decide_eq_true hc,decide_eq_false (by omega)];rfl
   ·rw [decide_eq_false hc,decide_eq_true (by omega)];rfl
 ·rw [if_neg hf,zit (by simpa using hf)]
theorem can_goC {c:zap}:(goC s x c (zbf (zbp s) c s.vars.length)).2=canC s x c:=by
 unfold goC canC
 cases he:zar s x c with
 | false=>rfl
 | true =>
  rw [fits_lows he]
  cases ha:zjh s.vars.length (canAt s x c) with
  | false=>rfl
  | true=>rfl
theorem zjz {f:Nat->ZI} {c:zap} {q:ZI} (h:zbw c v=true) (hq:q=f v):zbf f c v++[q]=zbf f c (v+1):=by rw [zbf,if_pos h,hq]
theorem freeL_kept {f:Nat->ZI} {c:zap} (h:zbw c v=false):zbf f c v=zbf f c (v+1):=by rw [zbf,if_neg (by rw [h];exact Bool.noConfusion)]
theorem SRGo2 (s:zam) (x:StD) (ia:Int) (picks:List ZI) {L:Nat} (hL:L+M<=4000) (hs:zbg L s) (hx:zjb M x) (hp:∀ z ∈ picks,ZOk M z) (hi:zdh s ia=none) (hn:ia≠-1):Fn Tryz.prog 20 [] [vG (zcn s),vG [cIs x.locs,cZs x.vals],vI ia,(vZs picks)] (.tup [.agg [cIs st0.locs,cZs st0.vals],.c (cB false)]) []:=by
 have lx1:=hx.locs;have lx2:=hx.vals;have ls1:=hs.vars;have ls2:=hs.procs;have lvv:=hx.vals;refine fB Tryz.func20 rfl 139 fun w H B a h=>Jq 5 [] [(2,vI ia),(3,(vZs picks)),(4,vp 5 0),(5,vp 6 0),(8,vp 7 0),(9,vb false)] [(5,.box (zcn s)),(6,.box [cIs x.locs,cZs x.vals]),(7,.box [nCl,nCl])] h fun a w h=>Jg 8 [] [] [(10,vp 8 0)] [] [(8,.box [nCl,nCl])] h fun a w h=>qW ?_
 replace h:=zgv 8 0 9 1 3 [nCl,nCl] h;replace h:=zgv 8 1 10 2 28 [.own 9 0,nCl] h;refine Je 11 [] [] [(11,vI 0)] h fun a w h=>qZ ?_
 refine zbx (ι:=(Nat)) (fun j=>j<=x.locs.length)
   [] (fun j=>[(11,vN j)])
   [] (fun j=>[(8,.box [.own 9 (x.locs.take j).length,.own 10 0]),(9,.row 3 1 ((x.locs.take j).map zak))])
   (fun j=>x.locs.length - j) 0 ?_ h ?_
 ·exact bE _
 clear h;rintro j a w hI h;refine qW (Je 11 [(3,.len (za4 1 zak x.locs))] [] [(22,vb (decide ((j:Int)<(x.locs.length:Int))))] h fun a w h=>zae ((j:Int)<(x.locs.length:Int)) h (fun hc1 hc1'=>?_) (fun hc2 hc2'=>?_))
 ·refine qU (za1 (qW (qZ ?_)));obtain ⟨x1,hx1⟩:=gl x.locs j;refine Jh 11 [(5,.g (xD 30 28 zjl (za7 hx1 (f:=zak)) (OV.tmp 29 _))),(7,.g (bD 32 ([x1].map zak) [(31,vI x1)] tb_0 (.cons (i:=0) (OV.tmp 31 _) (.nil)) (by kernel_rfl) (by simp [zak]))),(8,.g (aD 33 26 32 9 11 (x.locs.take j) [x1] zak tb_2 (by simp [zak])))] [22] [] [9] [(8,.box ([.own 11 ((x.locs.take j)++[x1]).length,.own 10 0])),(11,.row 3 1 (((x.locs.take j)++[x1]).map zak))] h fun a w h=>za6 (za1 (Jf 12 [(1,.j1 j)] [] [(11,vI ((j:Int)+1))] h fun a w h=>za1 ?_));rw [show (((x.locs.take j)++[x1]):List Int)=(x.locs.take (j+1)) from (by rw [bX,hx1];rfl)] at h;replace h:=zcz 11 9 h;refine zaa (x:=j) (y:=j+1) h ?_ ?_
  ·show j+1<=x.locs.length;omega
  show x.locs.length - (j+1)<x.locs.length - j;omega
 refine exA (qW ?_);rw [show ((x.locs.take j):List Int)=x.locs from (by rw [bK (by omega)])] at h;refine Jp 12 [] [(2,vI ia),(3,(vZs picks)),(4,vp 5 0),(5,vp 6 0),(8,vp 7 0),(9,vb false),(10,vp 8 0),(12,vI 0)] h fun a w h=>qZ ?_
 refine loopS (ι:=(Nat)) (fun i=>i<=x.vals.length)
   (fun i=>[(2,vI ia),(3,(vZs picks)),(4,vp 5 0),(5,vp 6 0),(8,vp 7 0),(9,vb false),(10,vp 8 0),(12,vN i)])
   (fun i=>[(5,.box (zcn s)),(6,.box [cIs x.locs,cZs x.vals]),(7,.box [nCl,nCl]),(8,.box [.own 9 x.locs.length,.own 10 ((x.vals.take i).map clZ).length]),(9,.row 3 1 (x.locs.map zak)),(10,.row 28 2 (((x.vals.take i).map clZ).map ziD))])
   (fun i=>x.vals.length - i) 0 ?_ h (by kernel_rfl) (by kernel_rfl) ?_
 ·exact bE _
 clear h;rintro i a w hI h;refine qW (Je 12 [(3,.len (za4 2 ziD x.vals))] [] [(39,vb (decide ((i:Int)<(x.vals.length:Int))))] h fun a w h=>zae ((i:Int)<(x.vals.length:Int)) h (fun hc3 hc3'=>?_) (fun hc4 hc4'=>?_))
 ·refine qU (za1 (qW (qZ ?_)));obtain ⟨x2,hx2⟩:=gl x.vals i;have gx2:=hx.val x2 (lM hx2);have lgx2:=gx2.2;obtain ⟨r3,er3,vr3,or3,lr3⟩:=mkZ (v:=x2.val) (m:=M) (bF (zcl gx2.1) gx2.2);refine Jh 12 [(5,.g (xD 47 45 tt_6 (za7 hx2 (f:=ziD)) (OV.tmp 46 _))),(7,.call (Fn.cast ((show Fn _ _ _ _ (vz (ZI.of x2.val)) _ from SRClean x2 gx2.1 (by omega))) (congrArg vz er3.symm))),(8,.g (bD 50 ([r3].map ziD) [(49,vz r3)] ty_5 (.cons (i:=0) (OV.tmp 49 _) (.nil)) (by kernel_rfl) (by simp [ziD]))),(9,.g (aD 51 43 50 10 12 ((x.vals.take i).map clZ) [r3] ziD kk_4 (by simp [ziD])))] [39] [] [10] [(8,.box ([.own 9 x.locs.length,.own 12 (((x.vals.take i).map clZ)++[r3]).length])),(12,.row 28 2 ((((x.vals.take i).map clZ)++[r3]).map ziD))] h fun a w h=>za6 (za1 (Jf 13 [(1,.j1 i)] [] [(12,vI ((i:Int)+1))] h fun a w h=>za1 ?_));rw [show ((((x.vals.take i).map clZ)++[r3]):List ZI)=((x.vals.take (i+1)).map clZ) from (by rw [<- map_snoc hx2];congr 1;simp [clZ, *])] at h;replace h:=zcz 12 10 h;refine zaa (x:=i) (y:=i+1) h ?_ ?_
  ·show i+1<=x.vals.length;omega
  show x.vals.length - (i+1)<x.vals.length - i;omega
 refine exA (qW ?_);rw [show (((x.vals.take i).map clZ):List ZI)=(x.vals.map clZ) from (by rw [bK (by omega)])] at h;refine Jp 13 [(1,.cmp (op:=.eql) (m:=ia) (n:=(-1)) (b:=false) .i64 (beq_eq_false_iff_ne.2 hn))] [(2,vI ia),(3,(vZs picks)),(4,vp 5 0),(5,vp 6 0),(8,vp 7 0),(9,vb false),(10,vp 8 0),(54,vb false)] h fun a w h=>zaz h (qU (za1 (qW (Je 13 [(3,.call (SRbeginsN s x ia hL hs hx hi))] [54] [(64,vb true)] h fun a w h=>cS true h (fun _=>?_) nofun))));refine Je 13 [] [64] [] h fun a w h=>qV (za5 ?_);replace h:=zbi 7 0 1 [nCl,nCl] h;replace h:=zbi 7 1 2 [cIs [],nCl] h;refine zel [.agg [cIs [],cZs []],.c (cB false)] h Exit.ret (.inl rfl)  rfl ⟨RV.agg _ 7 0 _ _ _ _ kk_5 rfl rfl rfl rfl,RV.tmp _ _ rfl,trivial⟩ ?_;rfl
theorem SRCanN (s:zam) (x:StD) (i:Int) {L:Nat} (hL:L+M<=1900) (hs:zbg L s) (hx:zjb M x) (hi:zdh s i=none):Fn Tryz.prog 78 [] [vG (zcn s),vG [cIs x.locs,cZs x.vals],vI i] (vb false) []:=by
 refine fB Tryz.func78 rfl 80 fun w H B a h=>Jq 0 [] [(2,vI i),(3,vp 0 0),(4,vp 1 0),(6,vb false)] [(0,.box (zcn s)),(1,.box [cIs x.locs,cZs x.vals])] h fun a w h=>qW (Je 2 [(3,.call (SRbeginsN s x i (by omega) hs hx hi))] [] [(17,vb true)] h fun a w h=>cS true h (fun _=>?_) nofun)
 refine Je 2 [] [17] [] h fun a w h=>qV (za5 (rT (.c (cB false)) h rfl ?_));rfl
theorem SRCanS (s:zam) (x:StD) (ki:Nat) (c:zap) {L:Nat} (hL:L+M<=1900) (hs:zbg L s) (hx:zjb M x) (hka:s.acts[ki]?=some c):Fn Tryz.prog 78 [] [vG (zcn s),vG [cIs x.locs,cZs x.vals],vN ki] (vb (canC s x c)) []:=by
 have lx1:=hx.locs;have lx2:=hx.vals;have ls1:=hs.vars;have ls2:=hs.procs;have lki:=zac hka;have hc:zgo L c:=hs.act c (lM hka);have lmv:=hc.len;have lvv:=hx.vals;have lbn:=hs.bnds;refine fB Tryz.func78 rfl 80 fun w H B a h=>Jq 5 [] [(2,vN ki),(3,vp 5 0),(4,vp 6 0),(6,vb false)] [(5,.box (zcn s)),(6,.box [cIs x.locs,cZs x.vals])] h fun a w h=>qW (Je 7 [(3,.call (SRbeginsS s x ki c (L:=L) (M:=M) (by omega) hs hx hka))] [] [(17,vb (!(zar s x c)))] h fun a w h=>cS (!(zar s x c)) h (fun hc1=>?_) (fun hc2=>?_))
 ·refine Je 7 [] [17] [] h fun a w h=>qV (za5 (rT (.c (cB false)) h rfl ?_));have hz:canC s x c=false:=by unfold canC;rw [(show (zar s x c)=false from by simpa using hc1)];rfl
  rw [hz];try rfl
 refine qU (za1 ?_);have hen:=(show (zar s x c)=true from by simpa using hc2);have hfl:=zhm (zh2 hen);refine Jg 7 [(0,.g (Op.buildE (d:=18) (n:=7) ty_5))] [17] [(7,vO 7 0)] [] [(7,.row 28 2 ([].map ziD))] h fun a w h=>qW (Je 8 [] [] [(8,vI 0)] h fun a w h=>qZ ?_)
 refine zbx (ι:=(Nat)) (fun j=>j<=x.vals.length)
   [] (fun j=>[(7,vO 7 (zbf (zbp s) c j).length),(8,vN j)])
   [] (fun j=>[(7,.row 28 2 ((zbf (zbp s) c j).map ziD))])
   (fun j=>x.vals.length - j) 0 ?_ h ?_
 ·exact bE _
 clear h;rintro j a w hI h;have hcf:=cnt_le c j;have hfll:=zez (zbp s) c j;refine qW (Je 8 [(3,.len (za4 2 ziD x.vals))] [] [(23,vb (decide ((j:Int)<(x.vals.length:Int))))] h fun a w h=>zae ((j:Int)<(x.vals.length:Int)) h (fun hc3 hc3'=>?_) (fun hc10 hc10'=>?_))
 ·refine qU (za1 (qW (qZ ?_)))
  rcases idxB_find (fun m=>m.v == (j:Int)) c.moves with ⟨hix,hm⟩ | ⟨k,m,hix,hmk,hm⟩
  ·replace hm:zif c j=none:=hm;refine Jq 8 [(3,.g (xD 29 27 ki_1 (za7 hka (f:=zap.d)) (OV.tmp 28 _))),(6,.call (Fn.cast (SRmove c j lmv) (congrArg (vi .i64) hix)))] [(2,vN ki),(3,vp 5 0),(4,vp 6 0),(6,vb false),(7,vO 7 (zbf (zbp s) c j).length),(8,vN j),(9,vI (-1))] [(5,.box (zcn s)),(6,.box [cIs x.locs,cZs x.vals]),(7,.row 28 2 ((zbf (zbp s) c j).map ziD))] h fun a w h=>Je 8 [(1,.cmp (op:=.geq) (m:=(-1)) (n:=0) (b:=false) .i64 rfl)] [9] [(46,vb false)] h fun a w h=>zaz h (qU (za6 (za1 (Jf 8 [(1,.j1 j)] [46] [(8,vI ((j:Int)+1))] h fun a w h=>za1 ?_))));replace h:=cvM [] [(7,vO 7 (zbf (zbp s) c (j+1)).length)] [] [(7,.row 28 2 ((zbf (zbp s) c (j+1)).map ziD))] (by rw [<- show ((zbf (zbp s) c j):List ZI)=(zbf (zbp s) c (j+1)) from (freeL_kept (free_none hm))];kernel_rfl) h;refine zaa (x:=j) (y:=j+1) h ?_ ?_
   ·show j+1<=x.vals.length;omega
   show x.vals.length - (j+1)<x.vals.length - j;omega
  replace hm:zif c j=some m:=hm;have lmk:=zac hmk;refine Jq 8 [(3,.g (xD 29 27 ki_1 (za7 hka (f:=zap.d)) (OV.tmp 28 _))),(6,.call (Fn.cast (SRmove c j lmv) (congrArg (vi .i64) hix)))] [(2,vN ki),(3,vp 5 0),(4,vp 6 0),(6,vb false),(7,vO 7 (zbf (zbp s) c j).length),(8,vN j),(9,vN k)] [(5,.box (zcn s)),(6,.box [cIs x.locs,cZs x.vals]),(7,.row 28 2 ((zbf (zbp s) c j).map ziD))] h fun a w h=>Je 8 [(1,.cmp (op:=.geq) (m:=(k:Int)) (n:=0) (b:=true) .i64 (show (decide ((k:Int)>=0))=true from decide_eq_true (by omega))),(6,.g (xD 39 37 ki_1 (za7 hka (f:=zap.d)) (OV.tmp 38 _))),(10,.g (xD 43 41 ki_2 (za7 hmk (f:=zai.d)) (OV.tmp 42 _)))] [9] [(46,vb m.any)] h fun a w h=>cS m.any h (fun hc4=>?_) (fun hc9=>?_)
  ·refine Jg 8 [] [46] [(10,vp 8 0)] [] [(8,.box [cB false,.d (nsl [])])] h fun a w h=>qW ?_
   rcases bG (decide ((j:Int)<(s.bounds.length:Int))) with hc5 | hc8
   ·have hc5':=dT hc5;obtain ⟨x4,hx4⟩:=gl s.bounds j;refine Je 9 [(3,.len (za4 5 zaj.d s.bounds)),(4,.cmp (op:=.lss) (m:=(j:Int)) (n:=(s.bounds.length:Int)) (b:=true) .i64 hc5),(9,.g (xD 57 55 kf_0 (za7 hx4 (f:=zaj.d)) (OV.tmp 56 _)))] [] [(60,vb x4.is_)] h fun a w h=>cS x4.is_ h (fun hc6=>?_) (fun hc7=>?_)
    ·refine Jh 9 [(3,.g (xD 64 62 kf_0 (za7 hx4 (f:=zaj.d)) (OV.tmp 63 _)))] [60] [] [] [(8,.box (zi x4.lo))] h fun a w h=>za1 (Jh 9 [(2,.g (bD 69 ([x4.lo].map ziD) [(68,vz x4.lo)] ty_5 (.cons (i:=0) (OV.tmp 68 _) (.nil)) (by kernel_rfl) (by simp [ziD]))),(3,.g (aD 70 67 69 7 9 (zbf (zbp s) c j) [x4.lo] ziD kk_4 (by simp [ziD])))] [10] [(7,vO 9 ((zbf (zbp s) c j)++[x4.lo]).length)] [7,8] [(9,.row 28 2 (((zbf (zbp s) c j)++[x4.lo]).map ziD))] h fun a w h=>za6 (za1 (Jf 10 [(1,.j1 j)] [] [(8,vI ((j:Int)+1))] h fun a w h=>za1 ?_)));rw [show (((zbf (zbp s) c j)++[x4.lo]):List ZI)=(zbf (zbp s) c (j+1)) from (zjz (zd9 hm hc4) (by unfold zbp zbl;rw [hx4,b9,if_pos hc6]))] at h;replace h:=zcz 9 7 h;refine zaa (x:=j) (y:=j+1) h ?_ ?_
     ·show j+1<=x.vals.length;omega
     show x.vals.length - (j+1)<x.vals.length - j;omega
    refine qU (za1 (Jh 10 [(2,.g (bD 69 ([(ZI.mk false [])].map ziD) [(68,vG [cB false,.d (nsl [])])] ty_5 (.cons (i:=0) (OV.tmp 68 _) (.nil)) (by kernel_rfl) (by simp [ziD]))),(3,.g (aD 70 67 69 7 10 (zbf (zbp s) c j) [(ZI.mk false [])] ziD kk_4 (by simp [ziD])))] [10,60] [(7,vO 10 ((zbf (zbp s) c j)++[(ZI.mk false [])]).length)] [7,8] [(10,.row 28 2 (((zbf (zbp s) c j)++[(ZI.mk false [])]).map ziD))] h fun a w h=>za6 (za1 (Jf 11 [(1,.j1 j)] [] [(8,vI ((j:Int)+1))] h fun a w h=>za1 ?_))));rw [show (((zbf (zbp s) c j)++[(ZI.mk false [])]):List ZI)=(zbf (zbp s) c (j+1)) from (zjz (zd9 hm hc4) (by unfold zbp zbl;rw [hx4,b9,if_neg (by rw [hc7];exact Bool.noConfusion)];try rfl))] at h;replace h:=zcz 10 7 h;refine zaa (x:=j) (y:=j+1) h ?_ ?_
    ·show j+1<=x.vals.length;omega
    show x.vals.length - (j+1)<x.vals.length - j;omega
   have hc8':=dF hc8;refine Je 11 [(3,.len (za4 5 zaj.d s.bounds)),(4,.cmp (op:=.lss) (m:=(j:Int)) (n:=(s.bounds.length:Int)) (b:=false) .i64 hc8)] [] [(60,vb false)] h fun a w h=>zaz h (qU (za1 (Jh 11 [(2,.g (bD 69 ([(ZI.mk false [])].map ziD) [(68,vG [cB false,.d (nsl [])])] ty_5 (.cons (i:=0) (OV.tmp 68 _) (.nil)) (by kernel_rfl) (by simp [ziD]))),(3,.g (aD 70 67 69 7 11 (zbf (zbp s) c j) [(ZI.mk false [])] ziD kk_4 (by simp [ziD])))] [10,60] [(7,vO 11 ((zbf (zbp s) c j)++[(ZI.mk false [])]).length)] [7,8] [(11,.row 28 2 (((zbf (zbp s) c j)++[(ZI.mk false [])]).map ziD))] h fun a w h=>za6 (za1 (Jf 12 [(1,.j1 j)] [] [(8,vI ((j:Int)+1))] h fun a w h=>za1 ?_)))));rw [show (((zbf (zbp s) c j)++[(ZI.mk false [])]):List ZI)=(zbf (zbp s) c (j+1)) from (zjz (zd9 hm hc4) (by unfold zbp zbl;rw [c8 (by have:=dF hc8;omega)];rfl))] at h;replace h:=zcz 11 7 h;refine zaa (x:=j) (y:=j+1) h ?_ ?_
   ·show j+1<=x.vals.length;omega
   show x.vals.length - (j+1)<x.vals.length - j;omega
  refine qU (za6 (za1 (Jf 12 [(1,.j1 j)] [46] [(8,vI ((j:Int)+1))] h fun a w h=>za1 ?_)));replace h:=cvM [] [(7,vO 7 (zbf (zbp s) c (j+1)).length)] [] [(7,.row 28 2 ((zbf (zbp s) c (j+1)).map ziD))] (by rw [<- show ((zbf (zbp s) c j):List ZI)=(zbf (zbp s) c (j+1)) from (freeL_kept (zd9 hm hc9))];kernel_rfl) h;refine zaa (x:=j) (y:=j+1) h ?_ ?_
  ·show j+1<=x.vals.length;omega
  show x.vals.length - (j+1)<x.vals.length - j;omega
 refine exA ?_;replace h:=cvM [] [(7,vO 7 (zbf (zbp s) c s.vars.length).length)] [] [(7,.row 28 2 ((zbf (zbp s) c s.vars.length).map ziD))] (by rw [<- show ((zbf (zbp s) c j):List ZI)=(zbf (zbp s) c s.vars.length) from (by rw [show j=s.vars.length by omega])];kernel_rfl) h;replace h:=zie 7 2 28 ((zbf (zbp s) c s.vars.length).map ziD) h [(zbf (zbp s) c s.vars.length).length] ⟨by first | exact (bJ _).symm | (simp;done) | (simp;omega),trivial⟩;refine Jq 12 [(4,.call (SRGo3 s x ki (zbf (zbp s) c s.vars.length) c (L:=L) (M:=L+M) (by omega) hs (hx.mono (by omega)) (fun z hz=>⟨(zlg (low_ok hs) c _ z hz).1,bF (zlg (low_ok hs) c _ z hz).2 (by omega)⟩) hka (by rw [zez];have:=cnt_le c s.vars.length;omega)))] [(6,vb false),(12,vb (goC s x c (zbf (zbp s) c s.vars.length)).2)] [] h fun a w h=>Jq 13 [] [(6,vb (goC s x c (zbf (zbp s) c s.vars.length)).2)] [] h fun a w h=>qV (rT (.c (cB (goC s x c (zbf (zbp s) c s.vars.length)).2)) h rfl ?_);rw [<- can_goC];try rfl
theorem SRCan (s:zam) (x:StD) (i:Int) {L:Nat} (hL:L+M<=1900) (hs:zbg L s) (hx:zjb M x):Fn Tryz.prog 78 [] [vG (zcn s),vG [cIs x.locs,cZs x.vals],vi .i64 i] (vb (can s x i)) []:=by
 unfold can
 cases hi:zdh s i with
 | none=>exact SRCanN s x i hL hs hx hi
 | some c=>obtain ⟨ki,rfl,hka⟩:=zht hi;exact SRCanS s x ki c hL hs hx hka
theorem SRStuck (s:zam) (x:StD) {L:Nat} (hL:L+M<=1900) (hs:zbg L s) (hx:zjb M x):Fn Tryz.prog 44 [] [vG (zcn s),vG [cIs x.locs,cZs x.vals]] (vb (stuck s x)) []:=by
 have lx1:=hx.locs;have lx2:=hx.vals;have ls1:=hs.vars;have ls2:=hs.procs;have las:=hs.acts;refine fB Tryz.func44 rfl 20 fun w H B a h=>Jq 0 [] [(2,vp 0 0),(3,vp 1 0),(4,vb false)] [(0,.box (zcn s)),(1,.box [cIs x.locs,cZs x.vals])] h fun a w h=>qW (Je 2 [] [] [(5,vI 0)] h fun a w h=>qZ ?_)
 refine zbx (ι:=(Nat)) (fun j=>j<=s.acts.length/\zjh j (fun i=>!can s x (i:Int))=true)
   [4] (fun j=>[(5,vN j)])
   [] (fun j=>[])
   (fun j=>s.acts.length - j) 0 ?_ h ?_
 ·exact ⟨bE _,rfl⟩
 clear h;rintro j a w hI h;obtain ⟨hI1,hI2⟩:=hI;refine qW (Je 2 [(3,.len (za4 10 zap.d s.acts))] [] [(10,vb (decide ((j:Int)<(s.acts.length:Int))))] h fun a w h=>zae ((j:Int)<(s.acts.length:Int)) h (fun hc1 hc1'=>?_) (fun hc4 hc4'=>?_))
 ·refine qU (za1 (qW (qZ (Je 2 [(3,.call (SRCan s x (j:Int) hL hs hx))] [10] [(16,vb (can s x (j:Int)))] h fun a w h=>cS (can s x (j:Int)) h (fun hc2=>?_) (fun hc3=>?_)))))
  ·refine Je 2 [] [16] [(4,vb false)] h fun a w h=>qV (za9 (za5 (za5 (za9 (za5 (rT (.c (cB false)) h rfl ?_))))));have hz:stuck s x=false:=by unfold stuck;rw [zja (j:=j) (by have:=dT hc1;omega) (show (!can s x (j:Int))=false by rw [hc2];rfl)];rfl
   rw [hz];try rfl
  refine qU (za6 (za1 (Jf 2 [(1,.j1 j)] [16] [(5,vI ((j:Int)+1))] h fun a w h=>za1 (zaa (x:=j) (y:=j+1) h ?_ ?_))))
  ·exact ⟨by omega,allN_step hI2 (by rw [hc3];rfl)⟩
  show s.acts.length - (j+1)<s.acts.length - j;omega
 refine exA (Jq 2 [(2,.call (SRFits s x (L:=L) (M:=M) (by omega) hs hx))] [(4,vb (zed s x))] [] h fun a w h=>qV (rT (.c (cB (zed s x))) h rfl ?_));have hz:stuck s x=(zed s x):=by unfold stuck;rw [show s.acts.length=j by have:=dF hc4;omega,hI2];rfl
 rw [hz];try rfl
theorem out_val {c:zap} (hv:v<s.vars.length):(zga s x c picks).vals[v]?=some (zf8 x c picks v):=by simp [zga,List.getElem?_map,List.getElem?_range hv]
theorem SRGo1 (s:zam) (x:StD) (picks:List ZI) {L:Nat} (hL:L+M<=1900) (hs:zbg L s) (hx:zjb M x) (hp:∀ z ∈ picks,ZOk M z):Fn Tryz.prog 20 [] [vG (zcn s),vG [cIs x.locs,cZs x.vals],vI (-1),(vZs picks)] (.tup [.agg [cIs (goS s x (-1) picks).1.locs,cZs (goS s x (-1) picks).1.vals],.c (cB (goS s x (-1) picks).2)]) []:=by
 have lx1:=hx.locs;have lx2:=hx.vals;have ls1:=hs.vars;have ls2:=hs.procs;have lvv:=hx.vals;refine fB Tryz.func20 rfl 139 fun w H B a h=>Jq 5 [] [(2,vI (-1)),(3,(vZs picks)),(4,vp 5 0),(5,vp 6 0),(8,vp 7 0),(9,vb false)] [(5,.box (zcn s)),(6,.box [cIs x.locs,cZs x.vals]),(7,.box [nCl,nCl])] h fun a w h=>Jg 8 [] [] [(10,vp 8 0)] [] [(8,.box [nCl,nCl])] h fun a w h=>qW ?_
 replace h:=zgv 8 0 9 1 3 [nCl,nCl] h;replace h:=zgv 8 1 10 2 28 [.own 9 0,nCl] h;refine Je 11 [] [] [(11,vI 0)] h fun a w h=>qZ ?_
 refine zbx (ι:=(Nat)) (fun j=>j<=x.locs.length)
   [] (fun j=>[(11,vN j)])
   [] (fun j=>[(8,.box [.own 9 (x.locs.take j).length,.own 10 0]),(9,.row 3 1 ((x.locs.take j).map zak))])
   (fun j=>x.locs.length - j) 0 ?_ h ?_
 ·exact bE _
 clear h;rintro j a w hI h;refine qW (Je 11 [(3,.len (za4 1 zak x.locs))] [] [(22,vb (decide ((j:Int)<(x.locs.length:Int))))] h fun a w h=>zae ((j:Int)<(x.locs.length:Int)) h (fun hc1 hc1'=>?_) (fun hc2 hc2'=>?_))
 ·refine qU (za1 (qW (qZ ?_)));obtain ⟨x1,hx1⟩:=gl x.locs j;refine Jh 11 [(5,.g (xD 30 28 zjl (za7 hx1 (f:=zak)) (OV.tmp 29 _))),(7,.g (bD 32 ([x1].map zak) [(31,vI x1)] tb_0 (.cons (i:=0) (OV.tmp 31 _) (.nil)) (by kernel_rfl) (by simp [zak]))),(8,.g (aD 33 26 32 9 11 (x.locs.take j) [x1] zak tb_2 (by simp [zak])))] [22] [] [9] [(8,.box ([.own 11 ((x.locs.take j)++[x1]).length,.own 10 0])),(11,.row 3 1 (((x.locs.take j)++[x1]).map zak))] h fun a w h=>za6 (za1 (Jf 12 [(1,.j1 j)] [] [(11,vI ((j:Int)+1))] h fun a w h=>za1 ?_));rw [show (((x.locs.take j)++[x1]):List Int)=(x.locs.take (j+1)) from (by rw [bX,hx1];rfl)] at h;replace h:=zcz 11 9 h;refine zaa (x:=j) (y:=j+1) h ?_ ?_
  ·show j+1<=x.locs.length;omega
  show x.locs.length - (j+1)<x.locs.length - j;omega
 refine exA (qW ?_);rw [show ((x.locs.take j):List Int)=x.locs from (by rw [bK (by omega)])] at h;refine Jp 12 [] [(2,vI (-1)),(3,(vZs picks)),(4,vp 5 0),(5,vp 6 0),(8,vp 7 0),(9,vb false),(10,vp 8 0),(12,vI 0)] h fun a w h=>qZ ?_
 refine loopS (ι:=(Nat)) (fun i=>i<=x.vals.length)
   (fun i=>[(2,vI (-1)),(3,(vZs picks)),(4,vp 5 0),(5,vp 6 0),(8,vp 7 0),(9,vb false),(10,vp 8 0),(12,vN i)])
   (fun i=>[(5,.box (zcn s)),(6,.box [cIs x.locs,cZs x.vals]),(7,.box [nCl,nCl]),(8,.box [.own 9 x.locs.length,.own 10 ((x.vals.take i).map clZ).length]),(9,.row 3 1 (x.locs.map zak)),(10,.row 28 2 (((x.vals.take i).map clZ).map ziD))])
   (fun i=>x.vals.length - i) 0 ?_ h (by kernel_rfl) (by kernel_rfl) ?_
 ·exact bE _
 clear h;rintro i a w hI h;refine qW (Je 12 [(3,.len (za4 2 ziD x.vals))] [] [(39,vb (decide ((i:Int)<(x.vals.length:Int))))] h fun a w h=>zae ((i:Int)<(x.vals.length:Int)) h (fun hc3 hc3'=>?_) (fun hc4 hc4'=>?_))
 ·refine qU (za1 (qW (qZ ?_)));obtain ⟨x2,hx2⟩:=gl x.vals i;have gx2:=hx.val x2 (lM hx2);have lgx2:=gx2.2;obtain ⟨r3,er3,vr3,or3,lr3⟩:=mkZ (v:=x2.val) (m:=M) (bF (zcl gx2.1) gx2.2);refine Jh 12 [(5,.g (xD 47 45 tt_6 (za7 hx2 (f:=ziD)) (OV.tmp 46 _))),(7,.call (Fn.cast ((show Fn _ _ _ _ (vz (ZI.of x2.val)) _ from SRClean x2 gx2.1 (by omega))) (congrArg vz er3.symm))),(8,.g (bD 50 ([r3].map ziD) [(49,vz r3)] ty_5 (.cons (i:=0) (OV.tmp 49 _) (.nil)) (by kernel_rfl) (by simp [ziD]))),(9,.g (aD 51 43 50 10 12 ((x.vals.take i).map clZ) [r3] ziD kk_4 (by simp [ziD])))] [39] [] [10] [(8,.box ([.own 9 x.locs.length,.own 12 (((x.vals.take i).map clZ)++[r3]).length])),(12,.row 28 2 ((((x.vals.take i).map clZ)++[r3]).map ziD))] h fun a w h=>za6 (za1 (Jf 13 [(1,.j1 i)] [] [(12,vI ((i:Int)+1))] h fun a w h=>za1 ?_));rw [show ((((x.vals.take i).map clZ)++[r3]):List ZI)=((x.vals.take (i+1)).map clZ) from (by rw [<- map_snoc hx2];congr 1;simp [clZ, *])] at h;replace h:=zcz 12 10 h;refine zaa (x:=i) (y:=i+1) h ?_ ?_
  ·show i+1<=x.vals.length;omega
  show x.vals.length - (i+1)<x.vals.length - i;omega
 refine exA (qW ?_);rw [show (((x.vals.take i).map clZ):List ZI)=(x.vals.map clZ) from (by rw [bK (by omega)])] at h;refine Jp 13 [(1,.cmp (op:=.eql) (m:=(-1)) (n:=(-1)) (b:=true) .i64 rfl)] [(2,vI (-1)),(3,(vZs picks)),(4,vp 5 0),(5,vp 6 0),(8,vp 7 0),(9,vb false),(10,vp 8 0),(54,vb true)] h fun a w h=>cS true h (fun _=>?_) nofun
 refine qW (Je 13 [(2,.call (SRStuck s x hL hs hx))] [54] [(57,vb (stuck s x))] h fun a w h=>cS (stuck s x) h (fun hc5=>?_) (fun hc6=>?_))
 ·refine Jd 13 [] [57] [(9,vb true)] [(5,.box (zcn s)),(6,.box [cIs x.locs,cZs x.vals]),(7,.box [.own 9 x.locs.length,.own 10 (x.vals.map clZ).length]),(8,.box [.own 9 x.locs.length,.own 10 (x.vals.map clZ).length]),(9,.row 3 1 (x.locs.map zak)),(10,.row 28 2 ((x.vals.map clZ).map ziD))] h fun a w h=>qV (za5 (za5 ?_));replace h:=zie 9 1 3 (x.locs.map zak) h [x.locs.length,x.locs.length] ⟨by first | exact (bJ _).symm | (simp;done) | (simp;omega),by first | exact (bJ _).symm | (simp;done) | (simp;omega),trivial⟩;replace h:=zie 10 2 28 ((x.vals.map clZ).map ziD) h [(x.vals.map clZ).length,(x.vals.map clZ).length] ⟨by first | exact (bJ _).symm | (simp;done) | (simp;omega),by first | exact (bJ _).symm | (simp;done) | (simp;omega),trivial⟩;refine zel [.agg [cIs x.locs,cZs (x.vals.map clZ)],.c (cB true)] h Exit.ret (.inl rfl)  rfl ⟨RV.agg _ 7 0 _ _ _ _ kk_5 rfl rfl rfl rfl,RV.tmp _ _ rfl,trivial⟩ ?_;have hz:goS s x (-1) picks=(cloneS x,true):=by unfold goS;rw [if_pos ⟨rfl,hc5⟩]
  rw [hz];try rfl
 refine qU (za1 (Je 13 [] [57] [] h fun a w h=>qV (za5 ?_)));replace h:=zbi 7 0 1 [nCl,nCl] h;replace h:=zbi 7 1 2 [cIs [],nCl] h;refine zel [.agg [cIs [],cZs []],.c (cB false)] h Exit.ret (.inl rfl)  rfl ⟨RV.agg _ 7 0 _ _ _ _ kk_5 rfl rfl rfl rfl,RV.tmp _ _ rfl,trivial⟩ ?_;have hz:goS s x (-1) picks=(st0,false):=by unfold goS;rw [if_neg (fun h=>by have:=h.2;rw [hc6] at this;cases this)];rfl
 rw [hz];try rfl
theorem SRGo (s:zam) (x:StD) (i:Int) (picks:List ZI) {L:Nat} (hL:L+M<=1900) (hs:zbg L s) (hx:zjb M x) (hp:∀ z ∈ picks,ZOk M z) (hpl:picks.length<=9223372036854775807):Fn Tryz.prog 20 [] [vG (zcn s),vG [cIs x.locs,cZs x.vals],vi .i64 i,(vZs picks)] (.tup [.agg [cIs (goS s x i picks).1.locs,cZs (goS s x i picks).1.vals],.c (cB (goS s x i picks).2)]) []:=by
 by_cases hn:i=-1
 ·subst hn;exact SRGo1 s x picks hL hs hx hp
 ·cases hi:zdh s i with
  | none =>
   have:goS s x i picks=(st0,false):=by unfold goS;rw [if_neg (fun h=>hn h.1),hi]
   rw [this];exact SRGo2 s x i picks (by omega) hs hx hp hi hn
  | some c =>
   have:goS s x i picks=goC s x c picks:=by unfold goS;rw [if_neg (fun h=>hn h.1),hi]
   obtain ⟨ki,rfl,hka⟩:=zht hi
   rw [this];exact SRGo3 s x ki picks c (by omega) hs hx hp hka hpl
def runAt (r:RunD) (i:Nat):StD:=((r.stem++r.cycle)[i]?).getD st0
theorem all2c {R:α->β->Prop} {x:α} {xs:List α} {us:List β} (h:zb8 R (x :: xs) us):∃ u vs,us=u :: vs/\R x u/\zb8 R xs vs:=by
 cases us with
 | nil=>exact h.elim
 | cons u us=>exact ⟨u,us,rfl,h⟩
theorem Fn.agg6 {P:Program} {k:FuncId} {ps qs:List (Nat × L)} {es:Nat} {c1 c2 c3 c4 c5:C} {x y res:V} (h:Fn P k ps [vG [c1,c2,c3,c4,c5,.d (.sl es [])],x,y] res qs):Fn P k ps [vG [c1,c2,c3,c4,c5,nCl],x,y] res qs:=by
 intro w H B vals pre
 obtain ⟨h1,h2,h3,h4,h5,h0⟩:=pre
 cases vals with
 | nil=>exact h5.elim
 | cons v vs =>
  obtain ⟨⟨us,rfl,ha⟩,ht⟩:=h5
  obtain ⟨u1,us,rfl,a1,ha⟩:=all2c ha
  obtain ⟨u2,us,rfl,a2,ha⟩:=all2c ha
  obtain ⟨u3,us,rfl,a3,ha⟩:=all2c ha
  obtain ⟨u4,us,rfl,a4,ha⟩:=all2c ha
  obtain ⟨u5,us,rfl,a5,ha⟩:=all2c ha
  obtain ⟨u6,us,rfl,a6,hz⟩:=all2c ha
  have h6:u6=zal:=VR.rawI (B:=B) a6
  subst h6
  exact h w H B _ ⟨h1,h2,h3,h4,⟨⟨_,rfl,a1,a2,a3,a4,a5,DR.nil _ _ _ (fun _=>rfl) (bE _),hz⟩,ht⟩,h0⟩
def fewB (L:Nat) (b:zaj):Bool:=decide ((b.lo.abs.length:Int)<=(L:Int)) && decide ((b.hi.abs.length:Int)<=(L:Int))
def formT (t:zag):za0:=⟨2,⟨t,false⟩,[]⟩
def fewM (L:Nat) (m:zai):Bool:=zlk (formT m.t) 5 L
def fewA (L:Nat) (c:zap):Bool:=(zlk c.guard 30 L && decide ((c.moves.length:Int)<=20)) && c.moves.all (fewM L)
def zc2 (L:Nat) (s:zam):Bool:=(decide ((s.vars.length:Int)<=8/\(s.bounds.length:Int)<=20/\(s.procs.length:Int)<=6/\(s.acts.length:Int)<=20) && zlk s.init 30 L) && (s.bounds.all (fewB L) && s.acts.all (fewA L))
def zkt (L:Nat) (x:StD):Bool:=decide ((x.locs.length:Int)<=10/\(x.vals.length:Int)<=10) && x.vals.all fun z=>decide ((z.abs.length:Int)<=(L:Int))
structure SysRd (s:zam):Prop where
  init:s.init.lb
  bnd:∀ b ∈ s.bounds,Lb b.lo.abs/\Lb b.hi.abs
  act:∀ c ∈ s.acts,c.guard.lb/\∀ m ∈ c.moves,TLb m.t
  len:s.bounds.length<=9223372036854775807/\s.acts.length<=9223372036854775807
  mlen:∀ c ∈ s.acts,c.moves.length<=9223372036854775807
def StRd (x:StD):Prop:=(∀ z ∈ x.vals,Lb z.abs)/\x.vals.length<=9223372036854775807
theorem fewF_ok {most:Int} {L:Nat} (h:zlk f most L=true) (hl:f.lb):f.ok L:=by unfold zlk at h;rw [bU] at h;exact za0.few_ok f h.2 hl
theorem formT_lb (h:TLb t):(formT t).lb:=(za0.lb_eq _).2 ⟨⟨h,bE _⟩,fun g hg=>(by cases hg)⟩
theorem formT_ok {L:Nat} (h:(formT t).ok L):TOk 20 L t:=((za0.ok_eq L _).1 h).1 rfl
theorem few_sys {L:Nat} (h:zc2 L s=true) (hr:SysRd s):zbg L s:=by
 unfold zc2 at h
 simp only [bU,decide_eq_true_eq,dB] at h
 obtain ⟨⟨⟨h1,h2,h3,h4⟩,h5⟩,h6,h7⟩:=h
 refine ⟨by omega,by omega,by omega,by omega,fun b hb=>?_,⟨hr.init,fewF_ok h5 hr.init⟩,fun c hc=>?_⟩
 ·have:=h6 b hb;unfold fewB at this;simp only [bU,decide_eq_true_eq] at this
  exact ⟨⟨(hr.bnd b hb).1,by omega⟩,(hr.bnd b hb).2,by omega⟩
 ·have:=h7 c hc;unfold fewA at this;simp only [bU,decide_eq_true_eq,dB] at this
  exact ⟨⟨(hr.act c hc).1,fewF_ok this.1.1 (hr.act c hc).1⟩,by omega,fun m hm=>formT_ok (fewF_ok (this.2 m hm) (formT_lb ((hr.act c hc).2 m hm)))⟩
theorem few_st {L:Nat} (h:zkt L x=true) (hr:StRd x):zjb L x:=by
 unfold zkt at h
 simp only [bU,decide_eq_true_eq,dB] at h
 exact ⟨by omega,by omega,fun z hz=>⟨hr.1 z hz,by have:=h.2 z hz;omega⟩⟩
theorem SFewSt (x:StD) (L:Nat) (hr:StRd x):Fn Tryz.prog 10 [] [vG [cIs x.locs,cZs x.vals],vN L] (vb (zkt L x)) []:=by
 have lv:=hr.2;refine fB Tryz.func10 rfl 32 fun w H B a h=>Jq 0 [] [(1,vN L),(2,vp 0 0),(4,vb false)] [(0,.box [cIs x.locs,cZs x.vals])] h fun a w h=>qW ?_
 rcases bG (decide ((x.locs.length:Int)>10)) with hc1 | hc2
 ·have hc1':=dT hc1;refine Je 1 [(2,.len (za4 1 zak x.locs)),(3,.cmp (op:=.gtr) (m:=(x.locs.length:Int)) (n:=10) (b:=true) .i64 hc1)] [] [(15,vb true)] h fun a w h=>cS true h (fun _=>?_) nofun
  refine Je 1 [] [15] [] h fun a w h=>qV (za5 (rT (.c (cB false)) h rfl ?_));have hz:zkt L x=false:=by unfold zkt;rw [decide_eq_false (p:=(x.locs.length:Int)<=10/\(x.vals.length:Int)<=10) (by have:=dT hc1;omega)];rfl
  rw [hz];try rfl
 have hc2':=dF hc2;refine Je 1 [(2,.len (za4 1 zak x.locs)),(3,.cmp (op:=.gtr) (m:=(x.locs.length:Int)) (n:=10) (b:=false) .i64 hc2),(7,.len (za4 2 ziD x.vals))] [] [(15,vb (decide ((x.vals.length:Int)>10)))] h fun a w h=>zae ((x.vals.length:Int)>10) h (fun hc3 hc3'=>?_) (fun hc4 hc4'=>?_)
 ·refine Je 1 [] [15] [] h fun a w h=>qV (za5 (rT (.c (cB false)) h rfl ?_));have hz:zkt L x=false:=by unfold zkt;rw [decide_eq_false (p:=(x.locs.length:Int)<=10/\(x.vals.length:Int)<=10) (by have:=dT hc3;omega)];rfl
  rw [hz];try rfl
 refine qU (za1 (qW (Je 1 [] [15] [(5,vI 0)] h fun a w h=>qZ ?_)))
 refine zbx (ι:=(Nat)) (fun j=>j<=x.vals.length/\(x.vals.take j).all (fun z=>decide ((z.abs.length:Int)<=(L:Int)))=true)
   [4] (fun j=>[(5,vN j)])
   [] (fun j=>[])
   (fun j=>x.vals.length - j) 0 ?_ h ?_
 ·exact ⟨bE _,rfl⟩
 clear h;rintro j a w hI h;obtain ⟨hI1,hI2⟩:=hI;refine qW (Je 1 [(3,.len (za4 2 ziD x.vals))] [] [(20,vb (decide ((j:Int)<(x.vals.length:Int))))] h fun a w h=>zae ((j:Int)<(x.vals.length:Int)) h (fun hc5 hc5'=>?_) (fun hc8 hc8'=>?_))
 ·refine qU (za1 (qW (qZ ?_)));obtain ⟨x1,hx1⟩:=gl x.vals j;refine Je 1 [(3,.g (xD 26 24 tt_6 (za7 hx1 (f:=ziD)) (OV.tmp 25 _))),(6,.len (zes x1.abs))] [20] [(31,vb (decide ((x1.abs.length:Int)>(L:Int))))] h fun a w h=>zae ((x1.abs.length:Int)>(L:Int)) h (fun hc6 hc6'=>?_) (fun hc7 hc7'=>?_)
  ·refine Je 1 [] [31] [(4,vb false)] h fun a w h=>qV (za9 (za5 (za5 (za9 (za5 (rT (.c (cB false)) h rfl ?_))))));have hz:zkt L x=false:=by unfold zkt;rw [decide_eq_true (p:=(x.locs.length:Int)<=10/\(x.vals.length:Int)<=10) (by have:=dF hc2;have:=dF hc4;omega),bC];exact zbu hx1 (decide_eq_false (by have:=dT hc6;omega))
   rw [hz];try rfl
  refine qU (za6 (za1 (Jf 1 [(1,.j1 j)] [31] [(5,vI ((j:Int)+1))] h fun a w h=>za1 (zaa (x:=j) (y:=j+1) h ?_ ?_))))
  ·exact ⟨by have:=zac hx1;omega,zcm hx1 hI2 (decide_eq_true (by have:=dF hc7;omega))⟩
  show x.vals.length - (j+1)<x.vals.length - j;have:=zac hx1;omega
 refine exA (Jq 1 [] [(4,vb true)] [] h fun a w h=>qV (rT (.c (cB true)) h rfl ?_));have hz:zkt L x=true:=by unfold zkt;rw [decide_eq_true (p:=(x.locs.length:Int)<=10/\(x.vals.length:Int)<=10) (by have:=dF hc2;have:=dF hc4;omega),bC];exact zd1 (dF hc8) hI2
 rw [hz];try rfl
theorem SFewSys (s:zam) (L:Nat) (hr:SysRd s):Fn Tryz.prog 30 [] [vG (zcn s),vN L] (vb (zc2 L s)) []:=by
 have lb1:=hr.len.1;have lb2:=hr.len.2;refine fB Tryz.func30 rfl 118 fun w H B a h=>Jq 0 [] [(1,vN L),(2,vp 0 0),(4,vb false)] [(0,.box (zcn s))] h fun a w h=>qW ?_
 rcases bG (decide ((s.vars.length:Int)>8)) with hc1 | hc2
 ·have hc1':=dT hc1;refine Je 1 [(2,.len (za4 1 zdy s.vars)),(3,.cmp (op:=.gtr) (m:=(s.vars.length:Int)) (n:=8) (b:=true) .i64 hc1)] [] [(36,vb true)] h fun a w h=>cS true h (fun _=>?_) nofun
  refine Je 1 [] [36] [] h fun a w h=>qV (za5 (rT (.c (cB false)) h rfl ?_));have hz:zc2 L s=false:=by unfold zc2;rw [decide_eq_false (p:=(s.vars.length:Int)<=8/\(s.bounds.length:Int)<=20/\(s.procs.length:Int)<=6/\(s.acts.length:Int)<=20) (by have:=dT hc1;omega)];rfl
  rw [hz];try rfl
 have hc2':=dF hc2
 rcases bG (decide ((s.bounds.length:Int)>20)) with hc3 | hc4
 ·have hc3':=dT hc3;refine Je 1 [(2,.len (za4 1 zdy s.vars)),(3,.cmp (op:=.gtr) (m:=(s.vars.length:Int)) (n:=8) (b:=false) .i64 hc2),(7,.len (za4 5 zaj.d s.bounds)),(8,.cmp (op:=.gtr) (m:=(s.bounds.length:Int)) (n:=20) (b:=true) .i64 hc3)] [] [(36,vb true)] h fun a w h=>cS true h (fun _=>?_) nofun
  refine Je 1 [] [36] [] h fun a w h=>qV (za5 (rT (.c (cB false)) h rfl ?_));have hz:zc2 L s=false:=by unfold zc2;rw [decide_eq_false (p:=(s.vars.length:Int)<=8/\(s.bounds.length:Int)<=20/\(s.procs.length:Int)<=6/\(s.acts.length:Int)<=20) (by have:=dT hc3;omega)];rfl
  rw [hz];try rfl
 have hc4':=dF hc4
 rcases bG (decide ((s.procs.length:Int)>6)) with hc5 | hc6
 ·have hc5':=dT hc5;refine Je 1 [(2,.len (za4 1 zdy s.vars)),(3,.cmp (op:=.gtr) (m:=(s.vars.length:Int)) (n:=8) (b:=false) .i64 hc2),(7,.len (za4 5 zaj.d s.bounds)),(8,.cmp (op:=.gtr) (m:=(s.bounds.length:Int)) (n:=20) (b:=false) .i64 hc4),(13,.len (za4 3 zb9.d s.procs)),(14,.cmp (op:=.gtr) (m:=(s.procs.length:Int)) (n:=6) (b:=true) .i64 hc5)] [] [(36,vb true)] h fun a w h=>cS true h (fun _=>?_) nofun
  refine Je 1 [] [36] [] h fun a w h=>qV (za5 (rT (.c (cB false)) h rfl ?_));have hz:zc2 L s=false:=by unfold zc2;rw [decide_eq_false (p:=(s.vars.length:Int)<=8/\(s.bounds.length:Int)<=20/\(s.procs.length:Int)<=6/\(s.acts.length:Int)<=20) (by have:=dT hc5;omega)];rfl
  rw [hz];try rfl
 have hc6':=dF hc6
 rcases bG (decide ((s.acts.length:Int)>20)) with hc7 | hc8
 ·have hc7':=dT hc7;refine Je 1 [(2,.len (za4 1 zdy s.vars)),(3,.cmp (op:=.gtr) (m:=(s.vars.length:Int)) (n:=8) (b:=false) .i64 hc2),(7,.len (za4 5 zaj.d s.bounds)),(8,.cmp (op:=.gtr) (m:=(s.bounds.length:Int)) (n:=20) (b:=false) .i64 hc4),(13,.len (za4 3 zb9.d s.procs)),(14,.cmp (op:=.gtr) (m:=(s.procs.length:Int)) (n:=6) (b:=false) .i64 hc6),(19,.len (za4 10 zap.d s.acts)),(20,.cmp (op:=.gtr) (m:=(s.acts.length:Int)) (n:=20) (b:=true) .i64 hc7)] [] [(36,vb true)] h fun a w h=>cS true h (fun _=>?_) nofun
  refine Je 1 [] [36] [] h fun a w h=>qV (za5 (rT (.c (cB false)) h rfl ?_));have hz:zc2 L s=false:=by unfold zc2;rw [decide_eq_false (p:=(s.vars.length:Int)<=8/\(s.bounds.length:Int)<=20/\(s.procs.length:Int)<=6/\(s.acts.length:Int)<=20) (by have:=dT hc7;omega)];rfl
  rw [hz];try rfl
 have hc8':=dF hc8;refine Je 1 [(2,.len (za4 1 zdy s.vars)),(3,.cmp (op:=.gtr) (m:=(s.vars.length:Int)) (n:=8) (b:=false) .i64 hc2),(7,.len (za4 5 zaj.d s.bounds)),(8,.cmp (op:=.gtr) (m:=(s.bounds.length:Int)) (n:=20) (b:=false) .i64 hc4),(13,.len (za4 3 zb9.d s.procs)),(14,.cmp (op:=.gtr) (m:=(s.procs.length:Int)) (n:=6) (b:=false) .i64 hc6),(19,.len (za4 10 zap.d s.acts)),(20,.cmp (op:=.gtr) (m:=(s.acts.length:Int)) (n:=20) (b:=false) .i64 hc8),(26,.call (SFewF s.init 30 (L:Int) hr.init (by decide) (by decide)))] [] [(36,vb (!(zlk s.init 30 L)))] h fun a w h=>cS (!(zlk s.init 30 L)) h (fun hc9=>?_) (fun hc10=>?_)
 ·refine Je 1 [] [36] [] h fun a w h=>qV (za5 (rT (.c (cB false)) h rfl ?_));have hz:zc2 L s=false:=by unfold zc2;rw [decide_eq_true (p:=(s.vars.length:Int)<=8/\(s.bounds.length:Int)<=20/\(s.procs.length:Int)<=6/\(s.acts.length:Int)<=20) (by have:=dF hc2;have:=dF hc4;have:=dF hc6;have:=dF hc8;omega),bC];rw [(show (zlk s.init 30 L)=false from by simpa using hc9)];rfl
  rw [hz];try rfl
 refine qU (za1 (qW (Je 1 [] [36] [(5,vI 0)] h fun a w h=>qZ ?_)))
 refine zbx (ι:=(Nat)) (fun j=>j<=s.bounds.length/\(s.bounds.take j).all (fewB L)=true)
   [4] (fun j=>[(5,vN j)])
   [] (fun j=>[])
   (fun j=>s.bounds.length - j) 0 ?_ h ?_
 ·exact ⟨bE _,rfl⟩
 clear h;rintro j a w hI h;obtain ⟨hI1,hI2⟩:=hI;refine qW (Je 1 [(3,.len (za4 5 zaj.d s.bounds))] [] [(41,vb (decide ((j:Int)<(s.bounds.length:Int))))] h fun a w h=>zae ((j:Int)<(s.bounds.length:Int)) h (fun hc11 hc11'=>?_) (fun hc16 hc16'=>?_))
 ·refine qU (za1 (qW (qZ ?_)));obtain ⟨x2,hx2⟩:=gl s.bounds j
  rcases bG (decide ((x2.lo.abs.length:Int)>(L:Int))) with hc12 | hc13
  ·have hc12':=dT hc12;refine Je 1 [(3,.g (xD 47 45 kf_0 (za7 hx2 (f:=zaj.d)) (OV.tmp 46 _))),(7,.len (zes x2.lo.abs)),(9,.cmp (op:=.gtr) (m:=(x2.lo.abs.length:Int)) (n:=(L:Int)) (b:=true) .i64 hc12)] [41] [(65,vb true)] h fun a w h=>cS true h (fun _=>?_) nofun
   refine Je 1 [] [65] [(4,vb false)] h fun a w h=>qV (za9 (za5 (za5 (za9 (za5 (rT (.c (cB false)) h rfl ?_))))));have hz:zc2 L s=false:=by unfold zc2;rw [decide_eq_true (p:=(s.vars.length:Int)<=8/\(s.bounds.length:Int)<=20/\(s.procs.length:Int)<=6/\(s.acts.length:Int)<=20) (by have:=dF hc2;have:=dF hc4;have:=dF hc6;have:=dF hc8;omega),bC];rw [(show (zlk s.init 30 L)=true from by simpa using hc10)];rw [zbu hx2 (show fewB L x2=false from (by unfold fewB;rw [decide_eq_false (by have:=dT hc12;omega)];rfl))];rfl
   rw [hz];try rfl
  have hc13':=dF hc13;refine Je 1 [(3,.g (xD 47 45 kf_0 (za7 hx2 (f:=zaj.d)) (OV.tmp 46 _))),(7,.len (zes x2.lo.abs)),(9,.cmp (op:=.gtr) (m:=(x2.lo.abs.length:Int)) (n:=(L:Int)) (b:=false) .i64 hc13),(14,.g (xD 58 56 kf_0 (za7 hx2 (f:=zaj.d)) (OV.tmp 57 _))),(18,.len (zes x2.hi.abs))] [41] [(65,vb (decide ((x2.hi.abs.length:Int)>(L:Int))))] h fun a w h=>zae ((x2.hi.abs.length:Int)>(L:Int)) h (fun hc14 hc14'=>?_) (fun hc15 hc15'=>?_)
  ·refine Je 1 [] [65] [(4,vb false)] h fun a w h=>qV (za9 (za5 (za5 (za9 (za5 (rT (.c (cB false)) h rfl ?_))))));have hz:zc2 L s=false:=by unfold zc2;rw [decide_eq_true (p:=(s.vars.length:Int)<=8/\(s.bounds.length:Int)<=20/\(s.procs.length:Int)<=6/\(s.acts.length:Int)<=20) (by have:=dF hc2;have:=dF hc4;have:=dF hc6;have:=dF hc8;omega),bC];rw [(show (zlk s.init 30 L)=true from by simpa using hc10)];rw [zbu hx2 (show fewB L x2=false from (by unfold fewB;rw [decide_eq_false (p:=(x2.hi.abs.length:Int)<=(L:Int)) (by have:=dT hc14;omega),c7]))];rfl
   rw [hz];try rfl
  refine qU (za6 (za1 (Jf 1 [(1,.j1 j)] [65] [(5,vI ((j:Int)+1))] h fun a w h=>za1 (zaa (x:=j) (y:=j+1) h ?_ ?_))))
  ·exact ⟨by have:=zac hx2;omega,zcm hx2 hI2 (by unfold fewB;rw [decide_eq_true (by have:=dF hc13;omega),decide_eq_true (by have:=dF hc15;omega)];rfl)⟩
  show s.bounds.length - (j+1)<s.bounds.length - j;have:=zac hx2;omega
 refine exA (qW (Je 1 [] [5,41] [(6,vI 0)] h fun a w h=>qZ ?_))
 refine zbx (ι:=(Nat)) (fun q=>q<=s.acts.length/\(s.acts.take q).all (fewA L)=true)
   [] (fun q=>[(6,vN q)])
   [] (fun q=>[])
   (fun q=>s.acts.length - q) 0 ?_ h ?_
 ·exact ⟨bE _,rfl⟩
 clear h;rintro q a w hI h;obtain ⟨hQ1,hQ2⟩:=hI;refine qW (Je 1 [(3,.len (za4 10 zap.d s.acts))] [] [(70,vb (decide ((q:Int)<(s.acts.length:Int))))] h fun a w h=>zae ((q:Int)<(s.acts.length:Int)) h (fun hc17 hc17'=>?_) (fun hc26 hc26'=>?_))
 ·refine qU (za1 (qW (qZ (qW ?_))));obtain ⟨x3,hx3⟩:=gl s.acts q;have lmx3:=hr.mlen x3 (lM hx3)
  rcases bG (zlk x3.guard 30 L) with hc18 | hc25
  ·refine Je 1 [(3,.g (xD 76 74 ki_1 (za7 hx3 (f:=zap.d)) (OV.tmp 75 _))),(7,.call (Fn.cast (SFewF x3.guard 30 (L:Int) (hr.act x3 (lM hx3)).1 (by decide) (by decide)) (congrArg vb hc18))),(13,.g (xD 86 84 ki_1 (za7 hx3 (f:=zap.d)) (OV.tmp 85 _))),(16,.len (za4 5 zai.d x3.moves))] [70] [(91,vb (decide ((x3.moves.length:Int)>20)))] h fun a w h=>zae ((x3.moves.length:Int)>20) h (fun hc19 hc19'=>?_) (fun hc20 hc20'=>?_)
   ·refine Je 1 [] [91] [(4,vb false)] h fun a w h=>qV (za5 (za9 (za5 (za5 (za9 (za5 (rT (.c (cB false)) h rfl ?_)))))));have hz:zc2 L s=false:=by unfold zc2;rw [decide_eq_true (p:=(s.vars.length:Int)<=8/\(s.bounds.length:Int)<=20/\(s.procs.length:Int)<=6/\(s.acts.length:Int)<=20) (by have:=dF hc2;have:=dF hc4;have:=dF hc6;have:=dF hc8;omega),bC];rw [(show (zlk s.init 30 L)=true from by simpa using hc10)];rw [zd1 (dF hc16) hI2];rw [zbu hx3 (show fewA L x3=false from (by unfold fewA;rw [decide_eq_false (p:=(x3.moves.length:Int)<=20) (by have:=dT hc19;omega),c7];rfl))];rfl
    rw [hz];try rfl
   refine qU (za1 (Je 1 [] [91] [(7,vI 0)] h fun a w h=>qZ ?_))
   refine zbx (ι:=(Nat)) (fun i=>i<=x3.moves.length/\(x3.moves.take i).all (fewM L)=true)
     [] (fun i=>[(7,vN i)])
     [] (fun i=>[])
     (fun i=>x3.moves.length - i) 0 ?_ h ?_
   ·exact ⟨bE _,rfl⟩
   clear h;rintro i a w hI h;obtain ⟨hJ1,hJ2⟩:=hI;refine qW (Je 1 [(4,.g (xD 96 94 ki_1 (za7 hx3 (f:=zap.d)) (OV.tmp 95 _))),(7,.len (za4 5 zai.d x3.moves))] [] [(100,vb (decide ((i:Int)<(x3.moves.length:Int))))] h fun a w h=>zae ((i:Int)<(x3.moves.length:Int)) h (fun hc21 hc21'=>?_) (fun hc24 hc24'=>?_))
   ·refine qU (za1 (qW (qZ ?_)));obtain ⟨x6,hx6⟩:=gl x3.moves i;refine Je 1 [(3,.g (xD 106 104 ki_1 (za7 hx3 (f:=zap.d)) (OV.tmp 105 _))),(7,.g (xD 110 108 ki_2 (za7 hx6 (f:=zai.d)) (OV.tmp 109 _))),(13,.call (Fn.agg6 (SFewF (formT x6.t) 5 (L:Int) (formT_lb ((hr.act x3 (lM hx3)).2 x6 (lM hx6))) (by decide) (by decide))))] [100] [(117,vb (!(zlk (formT x6.t) 5 L)))] h fun a w h=>cS (!(zlk (formT x6.t) 5 L)) h (fun hc22=>?_) (fun hc23=>?_)
    ·refine Je 1 [] [117] [(4,vb false)] h fun a w h=>qV (za9 (za5 (za5 (za9 (za9 (za5 (za5 (za9 (za5 (rT (.c (cB false)) h rfl ?_))))))))));have hz:zc2 L s=false:=by unfold zc2;rw [decide_eq_true (p:=(s.vars.length:Int)<=8/\(s.bounds.length:Int)<=20/\(s.procs.length:Int)<=6/\(s.acts.length:Int)<=20) (by have:=dF hc2;have:=dF hc4;have:=dF hc6;have:=dF hc8;omega),bC];rw [(show (zlk s.init 30 L)=true from by simpa using hc10)];rw [zd1 (dF hc16) hI2];rw [zbu hx3 (show fewA L x3=false from (by unfold fewA;rw [hc18,decide_eq_true (p:=(x3.moves.length:Int)<=20) (by have:=dF hc20;omega),bC,bC];exact zbu hx6 (show fewM L x6=false from (show (zlk (formT x6.t) 5 L)=false from by simpa using hc22))))];rfl
     rw [hz];try rfl
    refine qU (za6 (za1 (Jf 1 [(1,.j1 i)] [117] [(7,vI ((i:Int)+1))] h fun a w h=>za1 (zaa (x:=i) (y:=i+1) h ?_ ?_))))
    ·have:=zac hx6;exact ⟨by omega,zcm hx6 hJ2 (show fewM L x6=true from (show (zlk (formT x6.t) 5 L)=true from by simpa using hc23))⟩
    show x3.moves.length - (i+1)<x3.moves.length - i;have:=zac hx6;omega
   refine wp_exit (zc0 (zc0 (zaw (za6 (za1 (Jf 1 [(1,.add .i64 (m:=(q:Int)) (n:=1) i6)] [7,100] [(6,vI ((q:Int)+1))] h fun a w h=>za1 (zaa (x:=q) (y:=q+1) h ?_ ?_)))))))
   ·have:=zac hx3;exact ⟨by omega,zcm hx3 hQ2 (by unfold fewA;rw [hc18,decide_eq_true (p:=(x3.moves.length:Int)<=20) (by have:=dF hc20;omega),bC,bC];exact zd1 (dF hc24) hJ2)⟩
   show s.acts.length - (q+1)<s.acts.length - q;have:=zac hx3;omega
  refine Je 1 [(3,.g (xD 76 74 ki_1 (za7 hx3 (f:=zap.d)) (OV.tmp 75 _))),(7,.call (Fn.cast (SFewF x3.guard 30 (L:Int) (hr.act x3 (lM hx3)).1 (by decide) (by decide)) (congrArg vb hc25)))] [70] [(91,vb true)] h fun a w h=>cS true h (fun _=>?_) nofun
  refine Je 1 [] [91] [(4,vb false)] h fun a w h=>qV (za5 (za9 (za5 (za5 (za9 (za5 (rT (.c (cB false)) h rfl ?_)))))));have hz:zc2 L s=false:=by unfold zc2;rw [decide_eq_true (p:=(s.vars.length:Int)<=8/\(s.bounds.length:Int)<=20/\(s.procs.length:Int)<=6/\(s.acts.length:Int)<=20) (by have:=dF hc2;have:=dF hc4;have:=dF hc6;have:=dF hc8;omega),bC];rw [(show (zlk s.init 30 L)=true from by simpa using hc10)];rw [zd1 (dF hc16) hI2];rw [zbu hx3 (show fewA L x3=false from (by unfold fewA;rw [hc25];rfl))];rfl
  rw [hz];try rfl
 refine exA (Jq 1 [] [(4,vb true)] [] h fun a w h=>qV (rT (.c (cB true)) h rfl ?_));have hz:zc2 L s=true:=by unfold zc2;rw [decide_eq_true (p:=(s.vars.length:Int)<=8/\(s.bounds.length:Int)<=20/\(s.procs.length:Int)<=6/\(s.acts.length:Int)<=20) (by have:=dF hc2;have:=dF hc4;have:=dF hc6;have:=dF hc8;omega),bC];rw [(show (zlk s.init 30 L)=true from by simpa using hc10)];rw [zd1 (dF hc16) hI2];rw [zd1 (dF hc26) hQ2];rfl
 rw [hz];try rfl
def atD (loc v:Int):StD:=⟨[loc],[ZI.of v]⟩
mutual
inductive Wk:D->D->Prop
  | refl (x:D):Wk x x
  | nil (es:Nat):Wk (.raw zal) (.sl es [])
  | sl (es:Nat) (a b:List (List D)) (h:WkR a b):Wk (.sl es a) (.sl es b)
inductive WkL:List D->List D->Prop
  | nil:WkL [] []
  | cons (x y:D) (xs ys:List D) (h:Wk x y) (hs:WkL xs ys):WkL (x :: xs) (y :: ys)
inductive WkR:List (List D)->List (List D)->Prop
  | nil:WkR [] []
  | cons (x y:List D) (xs ys:List (List D)) (h:WkL x y) (hs:WkR xs ys):WkR (x :: xs) (y :: ys)
end
def WkM (x y:D):Prop:=∀ (H:Im) (v:Value),DR H x v->DR H y v
def WkLM (xs ys:List D):Prop:=xs.length=ys.length/\∀ j (h:j<xs.length) (h':j<ys.length),WkM xs[j] ys[j]
def WkRM (xs ys:List (List D)):Prop:=xs.length=ys.length/\∀ i (h:i<xs.length) (h':i<ys.length),WkLM xs[i] ys[i]
theorem Wk.sound {x y:D} (h:Wk x y):WkM x y:=by
 refine Wk.rec (motive_1:=fun x y _=>WkM x y) (motive_2:=fun x y _=>WkLM x y) (motive_3:=fun x y _=>WkRM x y) ?_ ?_ ?_ ?_ ?_ ?_ ?_ h
 ·intro x H v h;exact h
 ·intro es H v h
  cases h with
  | raw v h=>exact DR.nil _ _ _ (fun _=>rfl) (bE _)
 ·intro es a b _ ih H v h
  cases h with
  | nil es ao c h hc =>
   have:b=[]:=dE.1 ih.1.symm
   subst this
   exact DR.nil _ _ _ h hc
  | sl es rows bb o c arr ty fz vs hp hb hl hc hes hv hr =>
   rw [ih.1] at hp hl ⊢
   refine DR.sl es b bb o c arr ty fz vs hp hb hl hc (fun i hi=>?_) (fun i hi=>?_) (fun i hi j hj=>?_)
   ·have h0:i<a.length:=by rw [ih.1];exact hi
    rw [<- (ih.2 i h0 hi).1];exact hes i h0
   ·exact hv i (by rw [ih.1];exact hi)
   ·have h0:i<a.length:=by rw [ih.1];exact hi
    have hj0:j<a[i].length:=by rw [(ih.2 i h0 hi).1];exact hj
    exact (ih.2 i h0 hi).2 j hj0 hj _ _ (hr i h0 j hj0)
 ·exact ⟨rfl,fun j h=>absurd h (Nat.not_lt_zero j)⟩
 ·intro x y xs ys _ _ h hs
  refine ⟨by simp [hs.1],fun j hj hj'=>?_⟩
  cases j with
  | zero=>exact h
  | succ j=>exact hs.2 j (by simpa using hj) (by simpa using hj')
 ·exact ⟨rfl,fun j h=>absurd h (Nat.not_lt_zero j)⟩
 ·intro x y xs ys _ _ h hs
  refine ⟨by simp [hs.1],fun j hj hj'=>?_⟩
  cases j with
  | zero=>exact h
  | succ j=>exact hs.2 j (by simpa using hj) (by simpa using hj')
inductive WkC:List C->List C->Prop
  | nil:WkC [] []
  | same (x:C) (xs ys:List C) (hs:WkC xs ys):WkC (x :: xs) (x :: ys)
  | d (x y:D) (xs ys:List C) (h:Wk x y) (hs:WkC xs ys):WkC (.d x :: xs) (.d y :: ys)
theorem WkC.sound {xs ys:List C} (h:WkC xs ys):∀ {vs:List Value}, zb8 (CR H B) xs vs->zb8 (CR H B) ys vs:=by
 induction h with
 | nil=>exact fun h=>h
 | same x xs ys _ ih =>
  intro vs k
  cases vs with
  | nil=>exact k.elim
  | cons v vs=>exact ⟨k.1,ih k.2⟩
 | d x y xs ys h _ ih =>
  intro vs k
  cases vs with
  | nil=>exact k.elim
  | cons v vs=>exact ⟨h.sound H v k.1,ih k.2⟩
inductive WkV:V->V->Prop
  | refl (x:V):WkV x x
  | c (x y:D) (h:Wk x y):WkV (.t (.c (.d x))) (.t (.c (.d y)))
  | agg (xs ys:List C) (h:WkC xs ys):WkV (.t (.agg xs)) (.t (.agg ys))
theorem WkV.sound {x y:V} (h:WkV x y) {v:Value} (k:VR H B x v):VR H B y v:=by
 cases h with
 | refl=>exact k
 | c x y h=>exact h.sound H v k
 | agg xs ys h=>obtain ⟨vs,e,k⟩:=k;exact ⟨vs,e,h.sound k⟩
inductive WkA:List V->List V->Prop
  | nil:WkA [] []
  | cons (x y:V) (xs ys:List V) (h:WkV x y) (hs:WkA xs ys):WkA (x :: xs) (y :: ys)
theorem WkA.sound {xs ys:List V} (h:WkA xs ys):∀ {vs:List Value}, zb8 (VR H B) xs vs->zb8 (VR H B) ys vs:=by
 induction h with
 | nil=>exact fun h=>h
 | cons x y xs ys h _ ih =>
  intro vs k
  cases vs with
  | nil=>exact k.elim
  | cons v vs=>exact ⟨h.sound k.1,ih k.2⟩
theorem Fn.argw {P:Program} {k:FuncId} {ps qs:List (Nat × L)} {args args':List V} {res:V} (h:Fn P k ps args' res qs) (hw:WkA args args'):Fn P k ps args res qs :=
 fun w H B vals pre=>h w H B vals ⟨pre.sat,pre.loc,pre.priv,pre.inj,hw.sound pre.arg,pre.tab⟩
theorem lea_tok (n:Int) (hn:-1000<=n/\n<=1000):TOk 20 3 (zan n).t:=⟨(show 1<=20 by decide),fun p hp=>by
 rw [bN.1 hp];exact ⟨ZI.lb_of _,show (ZI.of 1).abs.length<=3 from by decide⟩,ZI.lb_of _,bF (ZI.len_of (L:=2) (by have:=pw2;show ((0:Int) - n).natAbs<_;omega)) (by decide)⟩
theorem le2:TOk 20 3 (zan 2).t:=lea_tok 2 (by decide)
theorem psE_ok:zhw [zan 2]:=⟨by decide,fun r hr=>by rw [bN.1 hr];exact le2.mono (by decide) (by decide)⟩
theorem lit_holds (vs:List ZI) (r:za8) (b:Bool):(litF r b).holds vs=(zb7 vs r == b):=by
 unfold litF
 cases b with
 | true=>rw [if_pos rfl,zhr];cases zb7 vs r <;> rfl
 | false=>rw [if_neg Bool.noConfusion,deny_holds,zhr];cases zb7 vs r <;> rfl
def zdx (ps:List za8) (bs:List Bool) (vs:List ZI):Bool:=(List.zipWith (fun r b=>zb7 vs r == b) ps bs).all id
theorem cube_holds (ps:List za8) (bs:List Bool) (vs:List ZI):(zay ps bs).holds vs=zdx ps bs vs:=by
 unfold zay zdx
 rw [zj8]
 unfold ze6
 induction ps generalizing bs with
 | nil=>rfl
 | cons p ps ih =>
  cases bs with
  | nil=>rfl
  | cons b bs=>rw [dG,dG,cL,cL,lit_holds,ih];rfl
theorem want_at {vs:List ZI} {r:za8} (h:ps[j]?=some r) (k:bs[j]?=some b):zdx (ps.take (j+1)) (bs.take (j+1)) vs=(zdx (ps.take j) (bs.take j) vs && (zb7 vs r == b)):=by
 obtain ⟨hj,rfl⟩:=cP.1 h
 obtain ⟨hk,rfl⟩:=cP.1 k
 unfold zdx
 rw [bX,bX,dA hj,dA hk]
 show (List.zipWith _ (ps.take j++[ps[j]]) (bs.take j++[bs[j]])).all id=_
 rw [List.zipWith_append (by rw [cC,cC];omega),List.all_append];simp
theorem want_out {vs:List ZI} (h:bs.length<=j):zdx (ps.take (j+1)) (bs.take (j+1)) vs=zdx (ps.take j) (bs.take j) vs:=by
 unfold zdx
 have e:∀ n,bs.length<=n->List.zipWith (fun r b=>zb7 vs r == b) (ps.take n) (bs.take n)=List.zipWith (fun r b=>zb7 vs r == b) ps bs:=fun n hn=>by
  rw [bK hn]
  have:List.zipWith (fun r b=>zb7 vs r == b) (ps.take n) bs=(List.zipWith (fun r b=>zb7 vs r == b) ps bs).take n:=by
   rw [List.take_zipWith,bK hn]
  rw [this,bK (by rw [cW];omega)]
 rw [e (j+1) (by omega),e j h]
theorem ln14_4:SlT Tryz.prog 41 69 2:=SlT.mk' Tryz.underlying41 (by kernel_rfl)
theorem LFewRs (rs:List za8) (most L:Int) (hl:rs.length<=9223372036854775807):Fn Tryz.prog 31 [] [(vRs rs),vi .i64 most,vi .i64 L] (vb (zh1 rs most L)) []:=SFewRs rs most L hl
theorem want_end {vs:List ZI} (h:ps.length<=j):zdx (ps.take j) (bs.take j) vs=zdx ps bs vs:=by
 unfold zdx
 rw [bK h]
 have:List.zipWith (fun r b=>zb7 vs r == b) ps (bs.take j)=(List.zipWith (fun r b=>zb7 vs r == b) ps bs).take j:=by
  rw [List.take_zipWith,bK h]
 rw [this,bK (by rw [cW];omega)]
theorem kw_4:ElZ Tryz.prog 36 102 3:=ElZ.mk' Tryz.underlying36 _ _ rfl rfl (by kernel_rfl) (by kernel_rfl) (by kernel_rfl) (by decide)
theorem kw_5:ElZ Tryz.prog 71 75 5:=ElZ.mk' Tryz.underlying71 _ _ rfl rfl (by kernel_rfl) (by kernel_rfl) (by kernel_rfl) (by decide)
theorem kw_6:ElZ Tryz.prog 37 73 10:=ElZ.mk' Tryz.underlying37 _ _ rfl rfl (by kernel_rfl) (by kernel_rfl) (by kernel_rfl) (by decide)
theorem kw_7:Sz Tryz.prog 39 10 true:=Sz.mk' (by kernel_rfl) Tryz.underlying39 _ rfl
def sysE:zam:=⟨[⟨#[120]⟩],[⟨true,zft,ZI.of 3⟩],form0,[⟨⟨#[112]⟩,[⟨#[97]⟩,⟨#[98]⟩],.raw zal⟩],[⟨0,0,1,form0,[⟨0,false,⟨[⟨0,ZI.of 1⟩],ZI.of 1⟩⟩]⟩]⟩
theorem e1:goS sysE (atD 0 2) 0 []=(atD 1 3,true):=by kernel_rfl
theorem e2:(goS sysE (atD 0 3) 0 []).2=false:=by kernel_rfl
theorem e3:stuck sysE (atD 0 3)=true:=by kernel_rfl
theorem e4:can sysE (atD 0 0) 0=true:=by kernel_rfl
theorem e5:leads sysE (atD 0 1) 0 (atD 1 2)=true:=by kernel_rfl
theorem cloneS_ok (hx:zjb M x):zjb M (cloneS x):=⟨hx.locs,by show (x.vals.map clZ).length<=10;rw [bJ];exact hx.vals,fun z hz=>by
 obtain ⟨u,hu,rfl⟩:=bL.1 (show z ∈ x.vals.map clZ from hz)
 exact cl_len (hx.val u hu)⟩
theorem goS_ok {L:Nat} (hs:zbg L s) (hx:zjb M x) (hp:∀ z ∈ picks,ZOk M z):zjb (L+M+2) (goS s x i picks).1:=by
 unfold goS
 split
 ·exact (cloneS_ok hx).mono (by omega)
 ·split
  ·exact st0_ok
  ·next c hc =>
   unfold goC
   split
   ·obtain ⟨k,_,hk⟩:=zht hc
    exact outS_ok hs hx (hs.act c (b7 hk)) hp
   ·exact st0_ok
section
variable {w:World} {n:Nat}
theorem rep_raw {t e:TypeId} (hu:Tryz.prog.underlying t=some (.slice e)):zf4 w n t rawD (fun _=>True):=fun H enc base spare held fuel cs x hn hx=>by
 rcases DataW.trod_slice hu hx with ⟨rfl,_⟩ | ⟨a,len,cap,elems,rest,m,rfl,rfl,_⟩
 ·exact ⟨.raw _,trivial,DR.raw _ rfl,trivial⟩
 ·exact ⟨.raw _,trivial,DR.raw _ rfl,trivial⟩
theorem rep_ZIl:zf4 w n 52 (slD 2 ziD) (fun xs=>xs.length<=maxLen/\∀ x ∈ xs,Lb x.abs) :=
 zc6 (k:=2) Tryz.underlying52 (by kernel_rfl) (by decide) (fun _=>rfl) rep_ZI
theorem rep_strs:zf4 w n 22 (slD 1 zdy) (fun xs=>xs.length<=maxLen/\∀ x ∈ xs,x.size<=maxLen) :=
 zc6 (k:=1) Tryz.underlying22 (by kernel_rfl) (by decide) (fun _=>rfl) (rep_str Tryz.underlying9)
theorem rep_Rel:zf4 w n 32 za8.d (fun r=>TLb r.t) :=
 ((zbq (n:=n) Tryz.underlying32 (by kernel_rfl) (.cons (k0:=3) rfl (by kernel_rfl) rep_Term (.cons (k0:=1) rfl (by kernel_rfl) (ziq Tryz.underlying4) .nil))).map (fun p=>⟨p.1,p.2.1⟩) (fun _=>rfl) fun _ h=>h.1).mono (cF n)
theorem rep_Form:∀ {n:Nat}, zf4 w n 35 za0.d za0.lb
 | 0=>zf4.zero
 | n+1=>(zbq (n:=n) Tryz.underlying35 (by kernel_rfl) (.cons (k0:=1) rfl (by kernel_rfl) (zi6 Tryz.underlying3) (.cons (k0:=4) rfl (by kernel_rfl) rep_Rel (.cons (k0:=1) rfl (by kernel_rfl) (zc6 (k:=6) Tryz.underlying33 (by kernel_rfl) (by decide) za0.d_len rep_Form) .nil)))).map (fun p=>⟨p.1,p.2.1,p.2.2.1⟩) (fun _=>(za0.d_eq _).trans rfl) fun _ h=>(za0.lb_eq _).2 ⟨⟨h.2.1,bF h.2.2.1.1 (by decide)⟩,h.2.2.1.2⟩
theorem rep_Bound:zf4 w n 132 zaj.d (fun b=>Lb b.lo.abs/\Lb b.hi.abs) :=
 ((zbq (n:=n) Tryz.underlying132 (by kernel_rfl) (.cons (k0:=1) rfl (by kernel_rfl) (ziq Tryz.underlying4) (.cons (k0:=2) rfl (by kernel_rfl) rep_ZI (.cons (k0:=2) rfl (by kernel_rfl) rep_ZI .nil)))).map (fun p=>⟨p.1,p.2.1,p.2.2.1⟩) (fun _=>rfl) fun _ h=>⟨h.2.1,h.2.2.1⟩).mono (cF n)
theorem rep_Move:zf4 w n 75 zai.d (fun m=>TLb m.t) :=
 ((zbq (n:=n) Tryz.underlying75 (by kernel_rfl) (.cons (k0:=1) rfl (by kernel_rfl) (zi6 Tryz.underlying3) (.cons (k0:=1) rfl (by kernel_rfl) (ziq Tryz.underlying4) (.cons (k0:=3) rfl (by kernel_rfl) rep_Term .nil)))).map (fun p=>⟨p.1,p.2.1,p.2.2.1⟩) (fun _=>rfl) fun _ h=>h.2.2.1).mono (cF n)
theorem rep_Moves:zf4 w n 71 (slD 5 zai.d) (fun xs=>xs.length<=maxLen/\∀ x ∈ xs,TLb x.t) :=
 zc6 (k:=5) Tryz.underlying71 (by kernel_rfl) (by decide) (fun _=>rfl) rep_Move
theorem rep_Bounds:zf4 w n 23 (slD 5 zaj.d) (fun xs=>xs.length<=maxLen/\∀ x ∈ xs,Lb x.lo.abs/\Lb x.hi.abs) :=
 zc6 (k:=5) Tryz.underlying23 (by kernel_rfl) (by decide) (fun _=>rfl) rep_Bound
theorem rep_Act:zf4 w n 73 zap.d (fun c=>c.guard.lb/\c.moves.length<=maxLen/\∀ m ∈ c.moves,TLb m.t) :=
 ((zbq (n:=n) Tryz.underlying73 (by kernel_rfl) (.cons (k0:=1) rfl (by kernel_rfl) (zi6 Tryz.underlying3) (.cons (k0:=1) rfl (by kernel_rfl) (zi6 Tryz.underlying3) (.cons (k0:=1) rfl (by kernel_rfl) (zi6 Tryz.underlying3) (.cons (k0:=6) rfl (by kernel_rfl) rep_Form (.cons (k0:=1) rfl (by kernel_rfl) rep_Moves .nil)))))).map (fun p=>⟨p.1,p.2.1,p.2.2.1,p.2.2.2.1,p.2.2.2.2.1⟩) (fun _=>by rw [za0.d_eq];rfl) fun _ h=>⟨h.2.2.2.1,h.2.2.2.2.1⟩).mono (cF n)
theorem rep_Proc:zf4 w n 102 zb9.d (fun _=>True) :=
 ((zbq (n:=n) Tryz.underlying102 (by kernel_rfl) (.cons (k0:=1) rfl (by kernel_rfl) (rep_str Tryz.underlying9) (.cons (k0:=1) rfl (by kernel_rfl) rep_strs (.cons (k0:=1) rfl (by kernel_rfl) (rep_raw Tryz.underlying100) .nil)))).map (fun p=>⟨p.1,p.2.1,p.2.2.1⟩) (fun _=>rfl) fun _ _=>trivial).mono (cF n)
theorem rep_Procs:zf4 w n 36 (slD 3 zb9.d) (fun xs=>xs.length<=maxLen/\∀ x ∈ xs,True) :=
 zc6 (k:=3) Tryz.underlying36 (by kernel_rfl) (by decide) (fun _=>rfl) rep_Proc
theorem rep_Acts:zf4 w n 37 (slD 10 zap.d) (fun xs=>xs.length<=maxLen/\∀ x ∈ xs,x.guard.lb/\x.moves.length<=maxLen/\∀ m ∈ x.moves,TLb m.t) :=
 zc6 (k:=10) Tryz.underlying37 (by kernel_rfl) (by decide) (fun _=>rfl) rep_Act
theorem rep_Sys:zf4 w n 39 zam.d SysRd :=
 ((zbq (n:=n) Tryz.underlying39 (by kernel_rfl) (.cons (k0:=1) rfl (by kernel_rfl) rep_strs (.cons (k0:=1) rfl (by kernel_rfl) rep_Bounds (.cons (k0:=6) rfl (by kernel_rfl) rep_Form (.cons (k0:=1) rfl (by kernel_rfl) rep_Procs (.cons (k0:=1) rfl (by kernel_rfl) rep_Acts .nil)))))).map (fun p=>⟨p.1,p.2.1,p.2.2.1,p.2.2.2.1,p.2.2.2.2.1⟩) (fun _=>by rw [za0.d_eq];rfl) fun _ h=>⟨h.2.2.1,h.2.1.2,fun c hc=>⟨(h.2.2.2.2.1.2 c hc).1,(h.2.2.2.2.1.2 c hc).2.2⟩,⟨bF h.2.1.1 (by decide),bF h.2.2.2.2.1.1 (by decide)⟩,fun c hc=>bF (h.2.2.2.2.1.2 c hc).2.1 (by decide)⟩).mono (cF n)
theorem rep_State:zf4 w n 54 StD.d StRd :=
 ((zbq (n:=n) Tryz.underlying54 (by kernel_rfl) (.cons (k0:=1) rfl (by kernel_rfl) rep_ints (.cons (k0:=1) rfl (by kernel_rfl) rep_ZIl .nil))).map (fun p=>⟨p.1,p.2.1⟩) (fun _=>rfl) fun _ h=>⟨h.2.1.2,bF h.2.1.1 (by decide)⟩).mono (cF n)
end
section
variable {w:World} {n:Nat}
theorem rep_RelsL:zf4 w n 40 (slD 4 za8.d) (fun xs=>xs.length<=maxLen/\∀ x ∈ xs,TLb x.t) :=
 zc6 (k:=4) Tryz.underlying40 (by kernel_rfl) (by decide) (fun _=>rfl) rep_Rel
theorem rep_bools:zf4 w n 67 (slD 1 zd0) (fun xs=>xs.length<=maxLen/\∀ x ∈ xs,True) :=
 zc6 (k:=1) Tryz.underlying67 (by kernel_rfl) (by decide) (fun _=>rfl) (ziq Tryz.underlying4)
end
theorem valT_var (v:Int) (vs:List ZI):zdi (zgp v) vs=zfk vs v:=by
 unfold zgp
 rw [zd4]
 simp [zdi,oneT,zfs,ZI.val_of]
 rw [show (⟨false,[]⟩:ZI).val=0 from rfl,Int.zero_add]
theorem coefZ_far {ps:List za3} {v:Int} (h:∀ p ∈ ps,p.v≠v):zah ps v=0:=by
 induction ps with
 | nil=>rfl
 | cons p ps ih=>simp only [zah];rw [if_neg (fun e=>h p (by simp) e.1),ih (fun q hq=>h q (by simp [hq]))];rfl
theorem cmpZ_refl (a:Int):zcb a a=0:=by unfold zcb;split <;> (try split) <;> omega
theorem cmpRl_cp (r:za8):zde (cpR r) r=0:=by
 unfold zde cpR
 rw [show cmpT (za2 r.t) r.t=0 from cmpT_eq (zbr _),show zge ⟨za2 r.t,r.eq⟩=zge r from rfl,cmpZ_refl];rfl
theorem gath_pre (f:za0):∀ ps,∃ ys,f.gath ps=ps++ys :=
 za0.ind (P:=fun f=>∀ ps,∃ ys,f.gath ps=ps++ys) (fun k r ks ih ps=>by
  rw [za0.gath_eq]
  split
  ·exact ⟨_,rfl⟩
  ·have:∀ (xs:List za0),(∀ g ∈ xs,g ∈ ks)->∀ qs:List za8,∃ ys,xs.foldl (fun a g=>g.gath a) qs=qs++ys:=fun xs=>by
    induction xs with
    | nil=>intro _ qs;exact ⟨[],by simp⟩
    | cons x xs ihx =>
     intro hx qs
     obtain ⟨y1,h1⟩:=ih x (hx x (bS ..)) qs
     obtain ⟨y2,h2⟩:=ihx (fun g hg=>hx g (b5 _ hg)) (x.gath qs)
     exact ⟨y1++y2,by rw [bW,h2,h1,c6]⟩
   exact this ks (fun g hg=>hg) ps) f
def za0.fl (f:za0):Prop:=f.fold fun k _ _ hs=>(k=0\/k=1\/k=2\/k=4\/k=5)/\∀ h ∈ hs,h
theorem za0.fl_eq (f:za0):f.fl ↔ (f.kind=0\/f.kind=1\/f.kind=2\/f.kind=4\/f.kind=5)/\∀ g ∈ f.kids,g.fl:=by
 have:=za0.fold_eq (fun k _ _ (hs:List Prop)=>(k=0\/k=1\/k=2\/k=4\/k=5)/\∀ h ∈ hs,h) f
 unfold za0.fl
 rw [this]
 refine and_congr_right fun _=>⟨fun h g hg=>h _ (bL.2 ⟨g,hg,rfl⟩),fun h p hp=>?_⟩
 obtain ⟨g,hg,rfl⟩:=bL.1 hp
 exact h g hg
theorem fl_tru (b:Bool):(zcj b).fl:=by rw [za0.fl_eq];exact ⟨by cases b;exact .inr (.inl rfl);exact .inl rfl,fun g hg=>by cases hg⟩
theorem fl_tight (r:za8):(zax r).fl:=by
 unfold zax;split
 ·rw [za0.fl_eq];exact ⟨.inr (.inr (.inl rfl)),fun g hg=>by cases hg⟩
 ·exact fl_tru _
theorem zgz (hk:k=4\/k=5):∀ (fs out:List za0),(∀ g ∈ out,g.fl)->(∀ g ∈ fs,g.fl)->(zbb k fs out).fl
 | [],out,h,_=>by
  unfold zbb
  match out with
  | []=>exact fl_tru _
  | [g]=>exact h g (bS ..)
  | g :: q :: l=>rw [za0.fl_eq];exact ⟨by rcases hk with hk | hk <;> subst hk;exact .inr (.inr (.inr (.inl rfl)));exact .inr (.inr (.inr (.inr rfl))),h⟩
 | f :: fs,out,h,h2=>by
  rw [zbb]
  have hf:=h2 f (bS ..)
  have hfs:∀ g ∈ fs,g.fl:=fun g hg=>h2 g (b5 _ hg)
  split
  ·exact hf
  ·split
   ·exact zgz hk fs out h hfs
   ·split
    ·exact zgz hk fs _ (fun g hg=>(bV.1 hg).elim (h g) fun hg=>((za0.fl_eq _).1 hf).2 g hg) hfs
    ·exact zgz hk fs _ (fun g hg=>(bV.1 hg).elim (h g) fun hg=>by rw [bN.1 hg];exact hf) hfs
theorem flat_fl (f:za0):∀ d,(f.flat d).fl :=
 za0.ind (P:=fun f=>∀ d,(f.flat d).fl) (fun k r ks ih d=>by
  rw [za0.flat_eq]
  show (zgg k r (ks.map za0.flat) d).fl
  unfold zgg
  split
  ·exact fl_tru _
  ·split
   ·split
    ·refine zgz (.inr rfl) _ [] (fun g hg=>by cases hg) fun g hg=>?_
     obtain ⟨q,hq,rfl⟩:=bL.1 hg
     exact fl_tight q
    ·exact fl_tight r
   ·split
    ·cases ks with
     | nil=>exact fl_tru _
     | cons g gs=>exact ih g (bS ..) (!d)
    ·split
     ·rename_i h4
      refine zgz (by cases d <;> simp <;> omega) _ [] (fun g hg=>by cases hg) fun g hg=>?_
      rw [List.map_map] at hg
      obtain ⟨q,hq,rfl⟩:=bL.1 hg
      exact ih q hq d
     ·exact fl_tru _) f
theorem sizeGo_ge {lim:Int}:∀ (ks:List za0) (n:Int),n<=zdj lim (ks.map za0.size) n
 | [],n=>Int.le_refl _
 | g :: ks,n=>by
  rw [bP,zdj]
  split
  ·rename_i h
   have h1:=sizeGo_ge (lim:=lim) ks (n+g.size (lim - n))
   have h2:=(g.size_bd (lim - n) (by omega)).1
   omega
  ·exact Int.le_refl _
theorem size_wid (f:za0):∀ lim:Int,0<=lim->f.size lim<=lim->(f.wid:Int)<=3*f.size lim :=
 za0.ind (P:=fun f=>∀ lim:Int,0<=lim->f.size lim<=lim->(f.wid:Int)<=3*f.size lim) (fun k r ks ih lim hl h=>by
  rw [za0.size_eq] at h ⊢
  rw [za0.wid_eq]
  have key:∀ (xs:List za0),(∀ g ∈ xs,g ∈ ks)->∀ n:Int,zdj lim (xs.map za0.size) n<=lim->(((xs.map za0.wid).sum:Nat):Int)<=3*(zdj lim (xs.map za0.size) n - n):=fun xs=>by
   induction xs with
   | nil=>intro _ n _;show (0:Int)<=3*(n - n);omega
   | cons x xs ihx =>
    intro hx n hn
    rw [bP,zdj] at hn
    rw [bP,bP,b8,zdj]
    split at hn
    ·rename_i e
     rw [if_pos e]
     have h1:=sizeGo_ge (lim:=lim) xs (n+x.size (lim - n))
     have h2:=ih x (hx x (bS ..)) (lim - n) (by omega) (by omega)
     have h3:=ihx (fun g hg=>hx g (b5 _ hg)) _ hn
     omega
    ·omega
  have:=key (cnt k ks) (fun g hg=>zb6 hg) 1 h
  show (((3+((cnt k ks).map za0.wid).sum:Nat)):Int)<=3*zdj lim ((cnt k ks).map za0.size) 1
  omega) f
theorem ok_okB {L:Nat} (f:za0):f.ok L->f.lb->f.wid<=1000000000000->f.okB 20 L :=
 za0.ind (P:=fun f=>f.ok L->f.lb->f.wid<=1000000000000->f.okB 20 L) (fun k r ks ih h1 h2 h3=>by
  rw [za0.okB_eq]
  have o1:=(za0.ok_eq _ _).1 h1
  have o2:=(za0.lb_eq _).1 h2
  refine ⟨⟨o1.1,o2.1.2,?_⟩,fun g hg=>ih g (zb6 hg) (o1.2 g hg) (o2.2 g (zb6 hg)) (bF (wid_kid hg) h3)⟩
  rw [za0.wid_eq] at h3
  have:∀ xs:List za0,xs.length<=(xs.map za0.wid).sum:=fun xs=>by
   induction xs with
   | nil=>exact bI _
   | cons x xs ih=>rw [bP,b8,cM,za0.wid_eq];omega
  have:=this (cnt k ks)
  change 3+((cnt k ks).map za0.wid).sum<=1000000000000 at h3
  show (cnt k ks).length<=1000000000000
  omega) f
def geF (l r:zag):za0:=zfa (leaR (subT l r))
def leF (l r:zag):za0:=zfa (leaR (subT r l))
def bndF (s:zam) (v:Nat) (t:zag):List za0:=if (zbl s v).is_=true then [geF t (zco (zbl s v).lo),leF t (zco (zbl s v).hi)] else []
def sndB (s:zam) (c:zap):Bool:=((decide (0<=c.proc/\c.proc<(s.procs.length:Int)) && decide (0<=c.from_/\c.from_<(zf7 s c.proc.toNat:Int))) && decide (0<=c.to_/\c.to_<(zf7 s c.proc.toNat:Int))) && !(c.moves.any fun m=>!zf5 s m)
def zab (s:zam) (i:Int):zap × Bool:=match zdh s i with | none=>(act0,false) | some c=>(c,sndB s c)
def mvA (c:zap) (v:Nat):zai × Bool:=match zif c v with | none=>(mv0,false) | some m=>(m,true)
def zcx (c:zap) (v:Nat):zag × Bool:=match zif c v with | none=>(zgp (v:Int),true) | some m=>if m.any=true then (⟨[],zft⟩,false) else (za2 m.t,true)
def zfh (s:zam) (c:zap) (v:Nat):List za0:=if (zcx c v).2=true then bndF s v (zcx c v).1 else if (zbl s v).is_=true then [leF (zco (zbl s v).lo) (zco (zbl s v).hi)] else []
def canL (s:zam) (c:zap):List za0:=c.guard :: (List.range s.vars.length).flatMap (zfh s c)
def zep (s:zam) (c:zap):za0:=zca (canL s c)
theorem zdr (F:Nat->List β) (j:Nat):(List.range (j+1)).flatMap F=(List.range j).flatMap F++F j:=by rw [cZ,List.flatMap_append];simp
theorem zdq (F:Nat->List β) (h:∀ v,(F v).length<=m) (j:Nat):((List.range j).flatMap F).length<=j*m:=by
 induction j with
 | zero=>simp
 | succ j ih=>rw [zdr,cT,Nat.succ_mul];have:=h j;omega
theorem zds {F:Nat->List β} {Q:β->Prop} (h:∀ v,v<n->∀ x ∈ F v,Q x):∀ x ∈ (List.range n).flatMap F,Q x:=fun x hx=>by
 obtain ⟨v,hv,hx⟩:=List.mem_flatMap.1 hx
 exact h v (List.mem_range.1 hv) x hx
theorem zjr {L:Nat} {k:ZI} (h:ZOk L k):TOk 20 L (zco k):=(TOk.num (ZI.lb_of _) (bF (zcl h.1) h.2)).mono (bE _) (bI _)
theorem sub_tok {l r:zag} {L:Nat} (hl:TOk n L l) (hr:TOk m L r) (hn:n+m<=400000000):TOk (n+m) (2*(L+3)+2) (subT l r) :=
 (addT_ok (hl.mono (bI _) (show L<=L+3 by omega)) ((TOk.mul hr (ZI.lb_of _) (show (ZI.of (-1)).abs.length<=2 from by decide)).plain (by omega)) (by omega)).mono (bI _) (by omega)
theorem at_okB {l r:zag} (hl:TOk n 20 l) (hr:TOk m 20 r) (hn:n+m<=400000000) (e:Bool):(zfa ⟨za2 (subT l r),e⟩).okB (n+m) 50 :=
 zhj ((((sub_tok hl hr hn).plain (by omega)).plain (by omega)).mono (bI _) (by omega))
theorem var_tok (v:Int):TOk 1 20 (zgp v):=(TOk.plain TOk.one (by decide)).mono (bI _) (by decide)
theorem bnd_num (hs:zbg 3 s) (v:Nat):TOk 20 20 (zco (zbl s v).lo)/\TOk 20 20 (zco (zbl s v).hi) :=
 ⟨(zjr (bnd_ok hs v).1).mono (bI _) (by decide),(zjr (bnd_ok hs v).2).mono (bI _) (by decide)⟩
theorem bndF_ok (hs:zbg 3 s) (v:Nat) (ht:TOk 20 20 t):∀ g ∈ bndF s v t,g.okB 40 50:=fun g hg=>by
 unfold bndF at hg
 split at hg
 ·rcases cN.1 hg with rfl | hg
  ·exact at_okB (n:=20) (m:=20) ht (bnd_num hs v).1 (by decide) false
  ·rw [bN.1 hg];exact at_okB (n:=20) (m:=20) (bnd_num hs v).2 ht (by decide) false
 ·cases hg
theorem bndF_len (s:zam) (v:Nat) (t:zag):(bndF s v t).length<=2:=by unfold bndF;split <;> simp
theorem zib {L:Nat} (hn:n<=1000000000) (h:∀ g ∈ fs,g.okB n L) (hl:fs.length<=1000000000000):(zca fs).okB n (L+1) :=
 zhi (by decide) (by rw [bJ];exact hl) fun g hg=>by
  obtain ⟨q,hq,rfl⟩:=bL.1 hg
  exact okB_cl hn q (h q hq)
theorem val_tok {c:zap} (hc:zgo 3 c) (v:Nat):TOk 20 20 (zcx c v).1:=by
 unfold zcx
 cases e:zif c v with
 | none=>exact (var_tok _).mono (by decide) (bI _)
 | some m =>
  show TOk 20 20 (if m.any=true then _ else _:zag × Bool).1
  split
  ·exact ⟨bE _,(fun p hp=>by cases hp),zfj,bE _⟩
  ·exact ((hc.mv m (by unfold zif at e;exact cR e)).plain (by decide)).mono (bI _) (by decide)
theorem canS_ok (hs:zbg 3 s) {c:zap} (hc:zgo 3 c) (v:Nat):∀ g ∈ zfh s c v,g.okB 40 50:=fun g hg=>by
 unfold zfh at hg
 split at hg
 ·exact bndF_ok hs v (val_tok hc v) g hg
 ·split at hg
  ·rw [bN.1 hg];exact at_okB (n:=20) (m:=20) (bnd_num hs v).2 (bnd_num hs v).1 (by decide) false
  ·cases hg
theorem zlq (s:zam) (c:zap) (v:Nat):(zfh s c v).length<=2:=by
 unfold zfh;split
 ·exact bndF_len _ _ _
 ·split <;> simp
theorem form_okB {L:Nat} (hf:f.lb/\f.ok L) (hw:f.wid<=1000000000000):f.okB 20 L:=ok_okB f hf.2 hf.1 hw
theorem act0_ok:zgo 3 act0:=⟨⟨by rw [za0.lb_eq];exact ⟨⟨⟨zfj,fun p hp=>by cases hp⟩,bE _⟩,fun g hg=>by cases hg⟩,by rw [za0.ok_eq];exact ⟨fun e=>absurd e (by decide),fun g hg=>absurd (zb6 hg) (by show g ∉ [];exact cQ)⟩⟩,bE _,fun m hm=>by cases hm⟩
theorem zfm (hs:zbg 3 s) (i:Int):zgo 3 (zab s i).1:=by
 unfold zab
 cases e:zdh s i with
 | none=>exact act0_ok
 | some c =>
  refine hs.act c ?_
  unfold zdh at e
  split at e
  ·exact b7 e
  ·cases e
def zkv (s:zam):Prop:=s.init.wid<=100/\∀ c ∈ s.acts,c.guard.wid<=100
theorem zkh (hs:zkv s) (i:Int):(zab s i).1.guard.wid<=100:=by
 unfold zab
 cases e:zdh s i with
 | none=>show act0.guard.wid<=100;rw [za0.wid_eq];decide
 | some c =>
  refine hs.2 c ?_
  unfold zdh at e
  split at e
  ·exact b7 e
  ·cases e
theorem can_ok (hs:zbg 3 s) {c:zap} (hc:zgo 3 c) (hw:c.guard.wid<=100):∀ g ∈ canL s c,g.okB 40 50:=fun g hg=>by
 unfold canL at hg
 rcases cN.1 hg with rfl | hg
 ·exact za0.okB_mono (by decide) (by decide) _ (form_okB hc.guard (by omega))
 ·exact zds (fun v _=>canS_ok hs hc v) g hg
theorem bnd_is {b:zaj} (h:s.bounds[v]?=some b):zbl s v=b:=by unfold zbl;rw [h];rfl
theorem bnd_no (h:s.bounds.length<=v):(zbl s v).is_=false:=by unfold zbl;rw [c8 h];rfl
theorem bndF_at {b:zaj} (h:s.bounds[v]?=some b) (e:b.is_=true):bndF s v t=[geF t (zco b.lo),leF t (zco b.hi)]:=by unfold bndF;rw [bnd_is h,if_pos e]
theorem bndF_no (h:(zbl s v).is_=false):bndF s v t=[]:=by unfold bndF;rw [h];rfl
theorem LCmpLe (l r:zag) (hl:TOk 20 20 l) (hr:TOk 20 20 r):Fn Tryz.prog 154 [] [vI 3,(vT l),(vT r)] (vF (leF l r)) []:=by
 refine fB Tryz.func154 rfl 51 fun w H B a h=>Jq 0 [] [(0,vI 3),(4,vp 0 0),(5,vp 1 0),(6,vp 2 0)] [(0,.box (zT l)),(1,.box (zT r)),(2,.box zF0)] h fun a w h=>?_
 obtain ⟨r1,er1,vr1,or1,lr1⟩:=mkZ (v:=1) (m:=2) (ZI.len_of (by have:=pw2;omega));refine Jg 3 [(0,.call (Fn.cast (SOf 1 ⟨by omega,by omega⟩) (congrArg vz er1.symm))),(1,.call (zh8 r1 or1 (by omega)))] [] [(7,vp 3 0)] [] [(3,.box (zT (zco r1)))] h fun a w h=>qW (Je 4 [] [0] [(10,vI 3)] h fun a w h=>qZ (Je 4 [(0,.cmp (op:=.eql) (m:=3) (n:=0) (b:=false) .i64 rfl)] [] [(11,vb false)] h fun a w h=>zaz h (Je 4 [(0,.cmp (op:=.eql) (m:=3) (n:=1) (b:=false) .i64 rfl)] [11] [(18,vb false)] h fun a w h=>zaz h (Je 4 [(0,.cmp (op:=.eql) (m:=3) (n:=2) (b:=false) .i64 rfl)] [18] [(24,vb false)] h fun a w h=>zaz h (Jg 4 [(0,.cmp (op:=.eql) (m:=3) (n:=3) (b:=true) .i64 rfl)] [7,24] [(33,vb true)] [3] [] h fun a w h=>cS true h (fun _=>?_) nofun)))));refine Jq 4 [(2,.call (STSub r l (hr.mono (by decide) (by decide)) (hl.mono (by decide) (by decide)))),(3,.call (LLeast (subT r l) ((sub_tok hr hl (by decide)).mono (by decide) (by decide)))),(4,.call (LOf (leaR (subT r l)) (TOk.mono ((sub_tok hr hl (by decide)).plain (by decide)) (by decide) (by decide))))] [(6,vp 2 0)] [(2,.box (zF (zfa (leaR (subT r l)))))] h fun a w h=>qV (za9 (za5 (rA 2 (zF (zfa (leaR (subT r l)))) h zdb rfl ?_)));rfl
theorem LCmpGe (l r:zag) (hl:TOk 20 20 l) (hr:TOk 20 20 r):Fn Tryz.prog 154 [] [vI 5,(vT l),(vT r)] (vF (geF l r)) []:=by
 refine fB Tryz.func154 rfl 51 fun w H B a h=>Jq 0 [] [(0,vI 5),(4,vp 0 0),(5,vp 1 0),(6,vp 2 0)] [(0,.box (zT l)),(1,.box (zT r)),(2,.box zF0)] h fun a w h=>?_
 obtain ⟨r1,er1,vr1,or1,lr1⟩:=mkZ (v:=1) (m:=2) (ZI.len_of (by have:=pw2;omega));refine Jg 3 [(0,.call (Fn.cast (SOf 1 ⟨by omega,by omega⟩) (congrArg vz er1.symm))),(1,.call (zh8 r1 or1 (by omega)))] [] [(7,vp 3 0)] [] [(3,.box (zT (zco r1)))] h fun a w h=>qW (Je 4 [] [0] [(10,vI 5)] h fun a w h=>qZ (Je 4 [(0,.cmp (op:=.eql) (m:=5) (n:=0) (b:=false) .i64 rfl)] [] [(11,vb false)] h fun a w h=>zaz h (Je 4 [(0,.cmp (op:=.eql) (m:=5) (n:=1) (b:=false) .i64 rfl)] [11] [(18,vb false)] h fun a w h=>zaz h (Je 4 [(0,.cmp (op:=.eql) (m:=5) (n:=2) (b:=false) .i64 rfl)] [18] [(24,vb false)] h fun a w h=>zaz h (Jg 4 [(0,.cmp (op:=.eql) (m:=5) (n:=3) (b:=false) .i64 rfl)] [7,24] [(33,vb false)] [3] [] h fun a w h=>zaz h (Je 4 [(0,.cmp (op:=.eql) (m:=5) (n:=4) (b:=false) .i64 rfl)] [33] [(40,vb false)] h fun a w h=>zaz h (Je 4 [(0,.cmp (op:=.eql) (m:=5) (n:=5) (b:=true) .i64 rfl)] [10,40] [(45,vb true)] h fun a w h=>cS true h (fun _=>?_) nofun)))))));refine Jq 4 [(2,.call (LCmpLe r l hr hl))] [(6,vp 2 0)] [(2,.box (zF (leF r l)))] h fun a w h=>qV (za9 (za5 (rA 2 (zF (leF r l)) h zdb rfl ?_)));rfl
theorem Lvariable (v:Nat) :Fn Tryz.prog 152 [] [vN v] (vT (zgp (v:Int))) []:=by
 refine fB Tryz.func152 rfl 5 fun w H B a h=>Jq 0 [] [(0,vN v),(2,vp 0 0)] [(0,.box zT0)] h fun a w h=>Jd 1 [(1,.call (SVar (v:Int)))] [0] [] [(0,.box (zT (zgp (v:Int))))] h fun a w h=>qV (rA 0 (zT (zgp (v:Int))) h zgl rfl ?_)
 rfl
theorem Lbounded (s:zam) (v:Nat) (t:zag) (hs:zbg 3 s) (ht:TOk 20 20 t):Fn Tryz.prog 153 [] [vG (zcn s),vN v,(vT t)] (vFs (bndF s v t)) []:=by
 have lbs:=hs.bnds;refine fB Tryz.func153 rfl 38 fun w H B a h=>Jq 0 [] [(1,vN v),(3,vp 0 0),(5,vp 1 0),(6,vW zal)] [(0,.box (zcn s)),(1,.box (zT t))] h fun a w h=>qW ?_
 rcases bG (decide ((v:Int)>=(s.bounds.length:Int))) with hc1 | hc2
 ·have hc1':=dT hc1;refine Je 2 [(3,.len (za4 5 zaj.d s.bounds)),(4,.cmp (op:=.geq) (m:=(v:Int)) (n:=(s.bounds.length:Int)) (b:=true) .i64 hc1)] [] [(21,vb true)] h fun a w h=>cS true h (fun _=>?_) nofun
  refine Je 2 [] [21] [] h fun a w h=>qV (za5 ?_);replace h:=nilDSx 6 0 6 (vW zal) h;refine rT (.c (cFs [])) h rfl ?_;have hz:bndF s v t=[]:=bndF_no (bnd_no (by omega));rw [hz];try rfl
 have hc2':=dF hc2;obtain ⟨x1,hx1⟩:=gl s.bounds v;refine Je 2 [(3,.len (za4 5 zaj.d s.bounds)),(4,.cmp (op:=.geq) (m:=(v:Int)) (n:=(s.bounds.length:Int)) (b:=false) .i64 hc2),(9,.g (xD 17 15 kf_0 (za7 hx1 (f:=zaj.d)) (OV.tmp 16 _)))] [] [(21,vb (!x1.is_))] h fun a w h=>cS (!x1.is_) h (fun hc3=>?_) (fun hc4=>?_)
 ·refine Je 2 [] [21] [] h fun a w h=>qV (za5 ?_);replace h:=nilDSx 6 0 6 (vW zal) h;refine rT (.c (cFs [])) h rfl ?_;have hz:bndF s v t=[]:=bndF_no (by rw [bnd_is hx1];exact (show (x1.is_)=false from by simpa using hc3));rw [hz];try rfl
 refine qU (za1 (Jg 2 [(3,.g (xD 25 23 kf_0 (za7 hx1 (f:=zaj.d)) (OV.tmp 24 _)))] [1,3,21] [(7,vp 2 0)] [0] [(2,.box ([cB x1.is_]++zi x1.lo++zi x1.hi))] h fun a w h=>Jq 3 [(3,.call (zh8 x1.lo (hs.bnd x1 (lM hx1)).1.1 (by have:=(hs.bnd x1 (lM hx1)).1.2;omega))),(4,.call (LCmpGe t (zco x1.lo) ht ((zjr (hs.bnd x1 (lM hx1)).1).mono (bI _) (by decide)))),(8,.call (zh8 x1.hi (hs.bnd x1 (lM hx1)).2.1 (by have:=(hs.bnd x1 (lM hx1)).2.2;omega))),(9,.call (LCmpLe t (zco x1.hi) ht ((zjr (hs.bnd x1 (lM hx1)).2).mono (bI _) (by decide)))),(10,.g (Op.buildD (d:=37) (len:=2) (rows:=[(geF t (zco x1.lo)),(leF t (zco x1.hi))].map za0.d) (rs:=[(31,(vF (geF t (zco x1.lo)))),(36,(vF (leF t (zco x1.hi))))]) kb_1 (.cons (i:=0) (OV.tmp 31 _) (.cons (i:=1) (OV.tmp 36 _) (.nil))) (by simp only [bP,cG,cH,cJ,cD,za0.d_eq];kernel_rfl) rfl (by simp [za0.d_len]) (by decide) (by decide)))] [(6,(vFs [(geF t (zco x1.lo)),(leF t (zco x1.hi))]))] [] h fun a w h=>qV (rT (.c (cFs [(geF t (zco x1.lo)),(leF t (zco x1.hi))])) h rfl ?_)));have hz:bndF s v t=[(geF t (zco x1.lo)),(leF t (zco x1.hi))]:=bndF_at hx1 (by have:=(show (x1.is_)=true from by simpa using hc4);simpa using this);rw [hz];try rfl
theorem mc2_1:zbm Tryz.prog 150:=zbm.mk' (by kernel_rfl)
theorem mc2_7:zbm Tryz.prog 148:=zbm.mk' (by kernel_rfl)
theorem mc2_8:zbm Tryz.prog 187:=zbm.mk' (by kernel_rfl)
theorem Lsound1 (x l:Int) :Fn Tryz.prog 148 [(3,.box [cI l])] [vI x,vp 3 0] (vb (decide (0<=x/\x<l))) [(3,.box [cI l])]:=by
 refine fB Tryz.func148 rfl 11 fun w H B a h=>Jq 6 [] [(0,vI x),(1,vp 3 0),(3,vb false)] [(3,.box [cI l])] h fun a w h=>?_
 rcases bG (decide (x>=0)) with hc1 | hc2
 ·have hc1':=dT hc1;refine Jp 6 [(1,.cmp (op:=.geq) (m:=x) (n:=0) (b:=true) .i64 hc1)] [(3,vb (decide (x<l)))] h fun a w h=>qV (rT (.c (cB (decide (x<l)))) h rfl ?_);have hz:decide (0<=x/\x<l)=(decide (x<l)):=by have h0:=dT hc1;exact decide_eq_decide.2 ⟨fun e=>e.2,fun e=>⟨h0,e⟩⟩
  rw [hz];try rfl
 have hc2':=dF hc2;refine Jp 6 [(1,.cmp (op:=.geq) (m:=x) (n:=0) (b:=false) .i64 hc2)] [(3,vb false)] h fun a w h=>qV (rT (.c (cB false)) h rfl ?_);have hz:decide (0<=x/\x<l)=(false):=by exact decide_eq_false (fun e=>dF hc2 e.1)
 rw [hz];try rfl
theorem Lsound2 (s:zam) (m:zai) :Fn Tryz.prog 150 [(0,.box (zcn s))] [vG ([cI m.v,cB m.any,cPs m.t.parts]++zi m.t.k),vp 0 0] (vb (!zf5 s m)) [(0,.box (zcn s))]:=by
 refine fB Tryz.func150 rfl 15 fun w H B a h=>Jq 6 [] [(1,vp 0 0),(2,vp 6 0),(3,vb false)] [(0,.box (zcn s)),(6,.box ([cI m.v,cB m.any,cPs m.t.parts]++zi m.t.k))] h fun a w h=>?_
 rcases bG (decide (m.v<0)) with hc1 | hc2
 ·have hc1':=dT hc1;refine Jg 7 [(2,.cmp (op:=.lss) (m:=m.v) (n:=0) (b:=true) .i64 hc1)] [1,2] [(3,vb true)] [6] [] h fun a w h=>qV (rT (.c (cB true)) h rfl ?_);have hz:(!zf5 s m)=(true):=(there_lo hc1);rw [hz];try rfl
 have hc2':=dF hc2;refine Jg 7 [(2,.cmp (op:=.lss) (m:=m.v) (n:=0) (b:=false) .i64 hc2),(8,.len (za4 1 zdy s.vars))] [1,2] [(3,vb (decide (m.v>=(s.vars.length:Int))))] [6] [] h fun a w h=>qV (rT (.c (cB (decide (m.v>=(s.vars.length:Int))))) h rfl ?_);have hz:(!zf5 s m)=(decide (m.v>=(s.vars.length:Int))):=(by have:=dF hc2;unfold zf5;rw [decide_eq_true (p:=m.v>=0) (by omega),bC,<- decide_not];exact decide_eq_decide.2 (by omega));rw [hz];try rfl
theorem SIdxWS (pr:zai->Bool) (xs:List zai) (s:zam) (hf:∀ x ∈ xs,Fn Tryz.prog 150 [(0,.box (zcn s))] [vG ([cI x.v,cB x.any,cPs x.t.parts]++zi x.t.k),vp 0 0] (vb (pr x)) [(0,.box (zcn s))]) (hl:xs.length<=9223372036854775807):Fn Tryz.prog 186 [(0,.box (zcn s))] [vS 5 (xs.map zai.d),.t (.c (.fn (.func 150) [] [.ptr 0 0]))] (vI (zdk pr xs 0)) [(0,.box (zcn s))]:=by
 refine fB Tryz.func186 rfl 19 fun w H B a h=>Jq 5 [] [(0,vS 5 (xs.map zai.d)),(1,.t (.c (.fn (.func 150) [] [.ptr 0 0]))),(4,vI 0)] [(0,.box (zcn s))] h fun a w h=>qW (Je 5 [(1,.len (za4 5 zai.d xs))] [] [(7,vN xs.length),(8,vI 0)] h fun a w h=>qZ ?_)
 refine zbx (ι:=(Nat)) (fun j=>j<=xs.length/\zdk pr xs 0=zdk pr (xs.drop j) j)
   [4] (fun j=>[(8,vN j)])
   [] (fun j=>[])
   (fun j=>xs.length - j) 0 ?_ h ?_
 ·exact ⟨bE _,rfl⟩
 clear h;rintro j a w hI h;obtain ⟨hI1,hI2⟩:=hI;refine Je 5 [] [] [(9,vb (decide ((j:Int)<(xs.length:Int))))] h fun a w h=>qW (zae ((j:Int)<(xs.length:Int)) h (fun hc1 hc1'=>?_) (fun hc4 hc4'=>?_))
 ·refine qU (za1 (qW (qZ (Je 5 [] [9] [(5,vN j)] h fun a w h=>?_))));obtain ⟨x1,hx1⟩:=gl xs j;refine Je 5 [(3,.g (xD 14 12 ki_2 (za7 hx1 (f:=zai.d)) (OV.tmp 13 _))),(5,.g (Op.callV (d:=16) (t:=11) (cap:=[.ptr 0 0]) (args:=[vG ([cI x1.v,cB x1.any,cPs x1.t.parts]++zi x1.t.k)]) (rs:=[(15,vG ([cI x1.v,cB x1.any,cPs x1.t.parts]++zi x1.t.k))]) (tys:=#[75]) (hf x1 (lM hx1)) mc2_1 (OVs.cons (OV.tmp 15 _) (OVs.nil))))] [] [(16,vb (pr x1))] h fun a w h=>cS (pr x1) h (fun hc2=>?_) (fun hc3=>?_)
  ·refine Je 5 [] [5,16] [(4,vN j)] h fun a w h=>qV (za9 (za5 (za5 (za9 (za5 (rT (.c (cI (j:Int))) h rfl ?_))))));have hz:zdk pr xs 0=(j:Int):=by rw [hI2,zfo hx1,if_pos hc2]
   rw [hz];try rfl
  refine qU (za6 (za1 (Jf 5 [(0,.j1 j)] [5,16] [(8,vI ((j:Int)+1))] h fun a w h=>za1 (zaa (x:=j) (y:=j+1) h ?_ ?_))))
  ·exact ⟨by have:=zac hx1;omega,by rw [hI2,zfo hx1,if_neg (by rw [hc3];exact Bool.noConfusion)]⟩
  (try simp);omega
 refine exA (Jp 5 [] [(4,vI (-1))] h fun a w h=>qV (rT (.c (cI (-1))) h rfl ?_));have hz:zdk pr xs 0=-1:=by rw [hI2,cK (by omega)];rfl
 rw [hz];try rfl
theorem SAnyWS (pr:zai->Bool) (xs:List zai) (s:zam) (hf:∀ x ∈ xs,Fn Tryz.prog 150 [(0,.box (zcn s))] [vG ([cI x.v,cB x.any,cPs x.t.parts]++zi x.t.k),vp 0 0] (vb (pr x)) [(0,.box (zcn s))]) (hl:xs.length<=9223372036854775807):Fn Tryz.prog 149 [(0,.box (zcn s))] [vS 5 (xs.map zai.d),.t (.c (.fn (.func 150) [] [.ptr 0 0]))] (vb (xs.any pr)) [(0,.box (zcn s))]:=by
 refine fB Tryz.func149 rfl 9 fun w H B a h=>Jq 5 [] [(0,vS 5 (xs.map zai.d)),(1,.t (.c (.fn (.func 150) [] [.ptr 0 0]))),(4,vb false)] [(0,.box (zcn s))] h fun a w h=>Jp 5 [(2,.call (SIdxWS pr xs s hf  hl))] [(4,vb (decide (zdk pr xs 0>=0)))] h fun a w h=>qV (rT (.c (cB (decide (zdk pr xs 0>=0)))) h rfl ?_)
 rw [<- idxB_any];try rfl
theorem LsoundN (s:zam) (i:Int) (hi:zdh s i=none):Fn Tryz.prog 108 [] [vG (zcn s),vI i] (.tup [.agg (acC act0),.c (cB false)]) []:=by
 refine fB Tryz.func108 rfl 65 fun w H B a h=>Jq 0 [] [(1,vI i),(2,vp 0 0),(4,vp 1 0),(5,vb false)] [(0,.box (zcn s)),(1,.box [cI 0,cI 0,cI 0,cI 0,nCl,cB false,.d (nsl []),cB false,nCl,nCl])] h fun a w h=>qW ?_
 rcases bG (decide (i<0)) with hc1 | hc2
 ·have hc1':=dT hc1;refine Je 2 [(1,.cmp (op:=.lss) (m:=i) (n:=0) (b:=true) .i64 hc1)] [] [(18,vb true)] h fun a w h=>cS true h (fun _=>?_) nofun
  refine Je 2 [] [18] [] h fun a w h=>qV (za5 ?_);replace h:=zbi 1 4 3 [cI 0,cI 0,cI 0,cI 0,nCl,cB false,.d (nsl []),cB false,nCl,nCl] h;replace h:=zbi 1 8 6 [cI 0,cI 0,cI 0,cI 0,cPs [],cB false,.d (nsl []),cB false,nCl,nCl] h;replace h:=zbi 1 9 5 [cI 0,cI 0,cI 0,cI 0,cPs [],cB false,.d (nsl []),cB false,cFs [],nCl] h;refine zel [.agg [cI 0,cI 0,cI 0,cI 0,cPs [],cB false,.d (nsl []),cB false,cFs [],.d (.sl 5 ([].map zai.d))],.c (cB false)] h Exit.ret (.inl rfl)  rfl ⟨RV.agg _ 1 0 _ _ _ _ ki_0 rfl rfl rfl rfl,RV.tmp _ _ rfl,trivial⟩ ?_;rfl
 have hc2':=dF hc2;refine Je 2 [(1,.cmp (op:=.lss) (m:=i) (n:=0) (b:=false) .i64 hc2),(6,.len (za4 10 zap.d s.acts)),(7,.cmp (op:=.geq) (m:=i) (n:=(s.acts.length:Int)) (b:=true) .i64 (decide_eq_true (by have:=actAt_none hi;have:=dF hc2;omega)))] [] [(18,vb true)] h fun a w h=>cS true h (fun _=>?_) nofun
 refine Je 2 [] [18] [] h fun a w h=>qV (za5 ?_);replace h:=zbi 1 4 3 [cI 0,cI 0,cI 0,cI 0,nCl,cB false,.d (nsl []),cB false,nCl,nCl] h;replace h:=zbi 1 8 6 [cI 0,cI 0,cI 0,cI 0,cPs [],cB false,.d (nsl []),cB false,nCl,nCl] h;replace h:=zbi 1 9 5 [cI 0,cI 0,cI 0,cI 0,cPs [],cB false,.d (nsl []),cB false,cFs [],nCl] h;refine zel [.agg [cI 0,cI 0,cI 0,cI 0,cPs [],cB false,.d (nsl []),cB false,cFs [],.d (.sl 5 ([].map zai.d))],.c (cB false)] h Exit.ret (.inl rfl)  rfl ⟨RV.agg _ 1 0 _ _ _ _ ki_0 rfl rfl rfl rfl,RV.tmp _ _ rfl,trivial⟩ ?_;rfl
theorem LsoundS (s:zam) (ki:Nat) (c:zap) (hc:zgo 3 c) (hps:s.procs.length<=6) (hka:s.acts[ki]?=some c):Fn Tryz.prog 108 [] [vG (zcn s),vN ki] (.tup [.agg ([cI c.proc,cI c.from_,cI c.to_,cI c.guard.kind,cPs c.guard.r.t.parts]++zi c.guard.r.t.k++[cB c.guard.r.eq,cFs c.guard.kids,.d (.sl 5 (c.moves.map zai.d))]),.c (cB (sndB s c))]) []:=by
 have lki:=zac hka;refine fB Tryz.func108 rfl 65 fun w H B a h=>Jq 0 [] [(1,vN ki),(2,vp 0 0),(4,vp 1 0),(5,vb false)] [(0,.box (zcn s)),(1,.box [cI 0,cI 0,cI 0,cI 0,nCl,cB false,.d (nsl []),cB false,nCl,nCl])] h fun a w h=>qW (Je 2 [(1,.cmp (op:=.lss) (m:=(ki:Int)) (n:=0) (b:=false) .i64 (show (decide ((ki:Int)<0))=false from decide_eq_false (by omega))),(6,.len (za4 10 zap.d s.acts)),(7,.cmp (op:=.geq) (m:=(ki:Int)) (n:=(s.acts.length:Int)) (b:=false) .i64 (show (decide ((ki:Int)>=(s.acts.length:Int)))=false from decide_eq_false (by omega)))] [] [(18,vb false)] h fun a w h=>zaz h (qU (za1 (Jg 2 [(3,.g (xD 23 21 ki_1 (za7 hka (f:=zap.d)) (OV.tmp 22 _)))] [1,18] [(6,vp 2 0)] [] [(2,.box ([cI c.proc,cI c.from_,cI c.to_,cI c.guard.kind,cPs c.guard.r.t.parts]++zi c.guard.r.t.k++[cB c.guard.r.eq,cFs c.guard.kids,.d (.sl 5 (c.moves.map zai.d))]))] h fun a w h=>qW ?_))))
 rcases bG (decide (c.proc<0)) with hc1 | hc2
 ·have hc1':=dT hc1;refine Je 3 [(2,.cmp (op:=.lss) (m:=c.proc) (n:=0) (b:=true) .i64 hc1)] [] [(35,vb true)] h fun a w h=>cS true h (fun _=>?_) nofun
  refine Jg 3 [] [35] [] [] [(1,.box ([cI c.proc,cI c.from_,cI c.to_,cI c.guard.kind,cPs c.guard.r.t.parts]++zi c.guard.r.t.k++[cB c.guard.r.eq,cFs c.guard.kids,.d (.sl 5 (c.moves.map zai.d))]))] h fun a w h=>qV (za5 (zel [.agg ([cI c.proc,cI c.from_,cI c.to_,cI c.guard.kind,cPs c.guard.r.t.parts]++zi c.guard.r.t.k++[cB c.guard.r.eq,cFs c.guard.kids,.d (.sl 5 (c.moves.map zai.d))]),.c (cB false)] h Exit.ret (.inl rfl)  rfl ⟨RV.agg _ 1 0 _ _ _ _ ki_0 rfl rfl rfl rfl,RV.tmp _ _ rfl,trivial⟩ ?_));have hz:sndB s c=(false):=by unfold sndB;rw [decide_eq_false (p:=0<=c.proc/\c.proc<(s.procs.length:Int)) (by have:=dT hc1;omega)];rfl
  rw [hz];try rfl
 have hc2':=dF hc2;refine Je 3 [(2,.cmp (op:=.lss) (m:=c.proc) (n:=0) (b:=false) .i64 hc2),(8,.len (za4 3 zb9.d s.procs))] [] [(35,vb (decide (c.proc>=(s.procs.length:Int))))] h fun a w h=>zae (c.proc>=(s.procs.length:Int)) h (fun hc3 hc3'=>?_) (fun hc4 hc4'=>?_)
 ·refine Jg 3 [] [35] [] [] [(1,.box ([cI c.proc,cI c.from_,cI c.to_,cI c.guard.kind,cPs c.guard.r.t.parts]++zi c.guard.r.t.k++[cB c.guard.r.eq,cFs c.guard.kids,.d (.sl 5 (c.moves.map zai.d))]))] h fun a w h=>qV (za5 (zel [.agg ([cI c.proc,cI c.from_,cI c.to_,cI c.guard.kind,cPs c.guard.r.t.parts]++zi c.guard.r.t.k++[cB c.guard.r.eq,cFs c.guard.kids,.d (.sl 5 (c.moves.map zai.d))]),.c (cB false)] h Exit.ret (.inl rfl)  rfl ⟨RV.agg _ 1 0 _ _ _ _ ki_0 rfl rfl rfl rfl,RV.tmp _ _ rfl,trivial⟩ ?_));have hz:sndB s c=(false):=by unfold sndB;rw [decide_eq_false (p:=0<=c.proc/\c.proc<(s.procs.length:Int)) (by have:=dT hc3;omega)];rfl
  rw [hz];try rfl
 refine qU (za1 ?_);obtain ⟨k,hkk⟩:∃ k_:Nat,c.proc=(k_:Int):=⟨_,(b6 (by have:=dF hc2;omega)).symm⟩;replace h:=cvM [] [] [] [(2,.box ([cI (k:Int),cI c.from_,cI c.to_,cI c.guard.kind,cPs c.guard.r.t.parts]++zi c.guard.r.t.k++[cB c.guard.r.eq,cFs c.guard.kids,.d (.sl 5 (c.moves.map zai.d))]))] (by rw [hkk];kernel_rfl) h;obtain ⟨x1,hx1⟩:=gl s.procs k;refine Jg 3 [(4,.g (xD 41 38 kf_5 (za7 hx1 (f:=zb9.d)) (OV.tmp 40 _))),(7,.len (za4 1 zdy x1.locs))] [35] [(7,vp 3 0)] [] [(3,.box [cI (x1.locs.length:Int)])] h fun a w h=>Je 4 [(0,.g (Op.makeFs (d:=45) (fn:=.func 148) [(7,3,0)]))] [7] [(8,.t (.c (.fn (.func 148) [] [.ptr 3 0])))] h fun a w h=>Jg 4 [(2,.g (Op.makeFs (d:=48) (fn:=.func 150) [(2,0,0)])),(3,.call (SAnyWS (fun m=>!zf5 s m) c.moves s (fun m _=>Lsound2 s m) (by have:=hc.len;omega)))] [2] [(9,vb (c.moves.any fun m=>!zf5 s m))] [0] [] h fun a w h=>?_
 rcases bG (decide (0<=c.from_/\c.from_<(x1.locs.length:Int))) with hc5 | hc8
 ·have hc5':=dT hc5
  rcases bG (decide (0<=c.to_/\c.to_<(x1.locs.length:Int))) with hc6 | hc7
  ·have hc6':=dT hc6;refine Jq 4 [(4,.g (Op.callV (d:=54) (t:=51) (cap:=[.ptr 3 0]) (args:=[vI c.from_]) (rs:=[(53,vI c.from_)]) (tys:=#[3]) (Fn.cast (Lsound1 c.from_ (x1.locs.length:Int)) (congrArg vb hc5)) mc2_7 (OVs.cons (OV.tmp 53 _) (OVs.nil)))),(9,.g (Op.callV (d:=59) (t:=56) (cap:=[.ptr 3 0]) (args:=[vI c.to_]) (rs:=[(58,vI c.to_)]) (tys:=#[3]) (Fn.cast (Lsound1 c.to_ (x1.locs.length:Int)) (congrArg vb hc6)) mc2_7 (OVs.cons (OV.tmp 58 _) (OVs.nil))))] [(4,vp 1 0),(5,vb (!(c.moves.any fun m=>!zf5 s m)))] [(1,.box ([cI (k:Int),cI c.from_,cI c.to_,cI c.guard.kind,cPs c.guard.r.t.parts]++zi c.guard.r.t.k++[cB c.guard.r.eq,cFs c.guard.kids,.d (.sl 5 (c.moves.map zai.d))]))] h fun a w h=>qV (zel [.agg ([cI (k:Int),cI c.from_,cI c.to_,cI c.guard.kind,cPs c.guard.r.t.parts]++zi c.guard.r.t.k++[cB c.guard.r.eq,cFs c.guard.kids,.d (.sl 5 (c.moves.map zai.d))]),.c (cB (!(c.moves.any fun m=>!zf5 s m)))] h Exit.ret (.inl rfl)  rfl ⟨RV.agg _ 1 0 _ _ _ _ ki_0 rfl rfl rfl rfl,RV.tmp _ _ rfl,trivial⟩ ?_);have hz:sndB s c=(!(c.moves.any fun m=>!zf5 s m)):=by unfold sndB;rw [decide_eq_true (p:=0<=c.proc/\c.proc<(s.procs.length:Int)) (by have:=dF hc2;have:=dF hc4;omega),show c.proc.toNat=k by omega,show zf7 s k=x1.locs.length by unfold zf7;rw [hx1];rfl,bC];rw [hc5,hc6];simp
   rw [hz,hkk];try rfl
  have hc7':=dF hc7;refine Jg 4 [(4,.g (Op.callV (d:=54) (t:=51) (cap:=[.ptr 3 0]) (args:=[vI c.from_]) (rs:=[(53,vI c.from_)]) (tys:=#[3]) (Fn.cast (Lsound1 c.from_ (x1.locs.length:Int)) (congrArg vb hc5)) mc2_7 (OVs.cons (OV.tmp 53 _) (OVs.nil)))),(9,.g (Op.callV (d:=59) (t:=56) (cap:=[.ptr 3 0]) (args:=[vI c.to_]) (rs:=[(58,vI c.to_)]) (tys:=#[3]) (Fn.cast (Lsound1 c.to_ (x1.locs.length:Int)) (congrArg vb hc7)) mc2_7 (OVs.cons (OV.tmp 58 _) (OVs.nil))))] [6,8,9] [] [2,3] [(1,.box ([cI (k:Int),cI c.from_,cI c.to_,cI c.guard.kind,cPs c.guard.r.t.parts]++zi c.guard.r.t.k++[cB c.guard.r.eq,cFs c.guard.kids,.d (.sl 5 (c.moves.map zai.d))]))] h fun a w h=>qV (zel [.agg ([cI (k:Int),cI c.from_,cI c.to_,cI c.guard.kind,cPs c.guard.r.t.parts]++zi c.guard.r.t.k++[cB c.guard.r.eq,cFs c.guard.kids,.d (.sl 5 (c.moves.map zai.d))]),.c (cB false)] h Exit.ret (.inl rfl)  rfl ⟨RV.agg _ 1 0 _ _ _ _ ki_0 rfl rfl rfl rfl,RV.tmp _ _ rfl,trivial⟩ ?_);have hz:sndB s c=(false):=by unfold sndB;rw [decide_eq_true (p:=0<=c.proc/\c.proc<(s.procs.length:Int)) (by have:=dF hc2;have:=dF hc4;omega),show c.proc.toNat=k by omega,show zf7 s k=x1.locs.length by unfold zf7;rw [hx1];rfl,bC];rw [hc5,hc7];simp
  rw [hz,hkk];try rfl
 have hc8':=dF hc8;refine Jg 4 [(4,.g (Op.callV (d:=54) (t:=51) (cap:=[.ptr 3 0]) (args:=[vI c.from_]) (rs:=[(53,vI c.from_)]) (tys:=#[3]) (Fn.cast (Lsound1 c.from_ (x1.locs.length:Int)) (congrArg vb hc8)) mc2_7 (OVs.cons (OV.tmp 53 _) (OVs.nil))))] [6,8,9] [] [2,3] [(1,.box ([cI (k:Int),cI c.from_,cI c.to_,cI c.guard.kind,cPs c.guard.r.t.parts]++zi c.guard.r.t.k++[cB c.guard.r.eq,cFs c.guard.kids,.d (.sl 5 (c.moves.map zai.d))]))] h fun a w h=>qV (zel [.agg ([cI (k:Int),cI c.from_,cI c.to_,cI c.guard.kind,cPs c.guard.r.t.parts]++zi c.guard.r.t.k++[cB c.guard.r.eq,cFs c.guard.kids,.d (.sl 5 (c.moves.map zai.d))]),.c (cB false)] h Exit.ret (.inl rfl)  rfl ⟨RV.agg _ 1 0 _ _ _ _ ki_0 rfl rfl rfl rfl,RV.tmp _ _ rfl,trivial⟩ ?_);have hz:sndB s c=(false):=by unfold sndB;rw [decide_eq_true (p:=0<=c.proc/\c.proc<(s.procs.length:Int)) (by have:=dF hc2;have:=dF hc4;omega),show c.proc.toNat=k by omega,show zf7 s k=x1.locs.length by unfold zf7;rw [hx1];rfl,bC];rw [hc8];simp
 rw [hz,hkk];try rfl
theorem Lsound (s:zam) (i:Int) (hs:zbg 3 s):Fn Tryz.prog 108 [] [vG (zcn s),vi .i64 i] (.tup [.agg (acC (zab s i).1),.c (cB (zab s i).2)]) []:=by
 unfold zab
 cases hi:zdh s i with
 | none=>exact LsoundN s i hi
 | some c=>obtain ⟨ki,rfl,hka⟩:=zht hi;exact LsoundS s ki c (hs.act c (b7 hka)) hs.procs hka
theorem Lmove1 (m:zai) (v:Nat) :Fn Tryz.prog 187 [(1,.box [cI (v:Int)])] [vG ([cI m.v,cB m.any,cPs m.t.parts]++zi m.t.k),vp 1 0] (vb (m.v == (v:Int))) [(1,.box [cI (v:Int)])]:=by
 refine fB Tryz.func187 rfl 8 fun w H B a h=>Jq 6 [] [(1,vp 1 0),(2,vp 6 0),(3,vb false)] [(1,.box [cI (v:Int)]),(6,.box ([cI m.v,cB m.any,cPs m.t.parts]++zi m.t.k))] h fun a w h=>Jg 7 [] [1,2] [(3,vb (m.v == (v:Int)))] [6] [] h fun a w h=>qV (rT (.c (cB (m.v == (v:Int)))) h rfl ?_)
 rfl
theorem SIdxWM (pr:zai->Bool) (xs:List zai) (v:Nat) (hf:∀ x ∈ xs,Fn Tryz.prog 187 [(1,.box [cI (v:Int)])] [vG ([cI x.v,cB x.any,cPs x.t.parts]++zi x.t.k),vp 1 0] (vb (pr x)) [(1,.box [cI (v:Int)])]) (hl:xs.length<=9223372036854775807):Fn Tryz.prog 186 [(1,.box [cI (v:Int)])] [vS 5 (xs.map zai.d),.t (.c (.fn (.func 187) [] [.ptr 1 0]))] (vI (zdk pr xs 0)) [(1,.box [cI (v:Int)])]:=by
 refine fB Tryz.func186 rfl 19 fun w H B a h=>Jq 5 [] [(0,vS 5 (xs.map zai.d)),(1,.t (.c (.fn (.func 187) [] [.ptr 1 0]))),(4,vI 0)] [(1,.box [cI (v:Int)])] h fun a w h=>qW (Je 5 [(1,.len (za4 5 zai.d xs))] [] [(7,vN xs.length),(8,vI 0)] h fun a w h=>qZ ?_)
 refine zbx (ι:=(Nat)) (fun j=>j<=xs.length/\zdk pr xs 0=zdk pr (xs.drop j) j)
   [4] (fun j=>[(8,vN j)])
   [] (fun j=>[])
   (fun j=>xs.length - j) 0 ?_ h ?_
 ·exact ⟨bE _,rfl⟩
 clear h;rintro j a w hI h;obtain ⟨hI1,hI2⟩:=hI;refine Je 5 [] [] [(9,vb (decide ((j:Int)<(xs.length:Int))))] h fun a w h=>qW (zae ((j:Int)<(xs.length:Int)) h (fun hc1 hc1'=>?_) (fun hc4 hc4'=>?_))
 ·refine qU (za1 (qW (qZ (Je 5 [] [9] [(5,vN j)] h fun a w h=>?_))));obtain ⟨x1,hx1⟩:=gl xs j;refine Je 5 [(3,.g (xD 14 12 ki_2 (za7 hx1 (f:=zai.d)) (OV.tmp 13 _))),(5,.g (Op.callV (d:=16) (t:=11) (cap:=[.ptr 1 0]) (args:=[vG ([cI x1.v,cB x1.any,cPs x1.t.parts]++zi x1.t.k)]) (rs:=[(15,vG ([cI x1.v,cB x1.any,cPs x1.t.parts]++zi x1.t.k))]) (tys:=#[75]) (hf x1 (lM hx1)) mc2_8 (OVs.cons (OV.tmp 15 _) (OVs.nil))))] [] [(16,vb (pr x1))] h fun a w h=>cS (pr x1) h (fun hc2=>?_) (fun hc3=>?_)
  ·refine Je 5 [] [5,16] [(4,vN j)] h fun a w h=>qV (za9 (za5 (za5 (za9 (za5 (rT (.c (cI (j:Int))) h rfl ?_))))));have hz:zdk pr xs 0=(j:Int):=by rw [hI2,zfo hx1,if_pos hc2]
   rw [hz];try rfl
  refine qU (za6 (za1 (Jf 5 [(0,.j1 j)] [5,16] [(8,vI ((j:Int)+1))] h fun a w h=>za1 (zaa (x:=j) (y:=j+1) h ?_ ?_))))
  ·exact ⟨by have:=zac hx1;omega,by rw [hI2,zfo hx1,if_neg (by rw [hc3];exact Bool.noConfusion)]⟩
  (try simp);omega
 refine exA (Jp 5 [] [(4,vI (-1))] h fun a w h=>qV (rT (.c (cI (-1))) h rfl ?_));have hz:zdk pr xs 0=-1:=by rw [hI2,cK (by omega)];rfl
 rw [hz];try rfl
theorem find_idx (pr:α->Bool):∀ (xs:List α) (n:Nat),(zdk pr xs n<0->xs.find? pr=none)/\∀ k:Nat,zdk pr xs n=((n+k:Nat):Int)->∃ x,xs[k]?=some x/\xs.find? pr=some x
 | [],n=>⟨fun _=>rfl,fun k h=>by unfold zdk at h;omega⟩
 | x :: xs,n=>by
  unfold zdk
  by_cases e:pr x=true
  ·rw [if_pos e]
   refine ⟨fun h=>by omega,fun k h=>⟨x,?_,by rw [dC,e]⟩⟩
   have:k=0:=by omega
   subst this;rfl
  ·rw [if_neg e]
   have ih:=find_idx pr xs (n+1)
   have he:pr x=false:=by simpa using e
   refine ⟨fun h=>by rw [dC,he];exact ih.1 h,fun k h=>?_⟩
   cases k with
   | zero =>
    exfalso
    have hx:∀ (ys:List α) (m:Nat),zdk pr ys m<0\/(m:Int)<=zdk pr ys m:=fun ys=>by
     induction ys with
     | nil=>intro m;left;unfold zdk;omega
     | cons y ys ihy =>
      intro m;unfold zdk;split
      ·right;omega
      ·rcases ihy (m+1) with h1 | h1
       ·left;exact h1
       ·right;omega
    rcases hx xs (n+1) with h1 | h1 <;> omega
   | succ k =>
    obtain ⟨y,h1,h2⟩:=ih.2 k (by rw [h];congr 1;omega)
    exact ⟨y,h1,by rw [dC,he];exact h2⟩
theorem idxB_len (pr:α->Bool):∀ (xs:List α) (n:Nat),zdk pr xs n<0\/zdk pr xs n<((n+xs.length:Nat):Int)
 | [],n=>by left;unfold zdk;omega
 | x :: xs,n=>by
  unfold zdk
  split
  ·right;rw [cM];omega
  ·rcases idxB_len pr xs (n+1) with h | h
   ·exact .inl h
   ·right;rw [cM];omega
theorem mvA_no {c:zap} (h:zdk (fun m:zai=>m.v == (v:Int)) c.moves 0<0):mvA c v=(mv0,false):=by
 unfold mvA zif;rw [(find_idx _ c.moves 0).1 h]
theorem mvA_at {c:zap} {k:Nat} {m:zai} (h:zdk (fun m:zai=>m.v == (v:Int)) c.moves 0=(k:Int)) (hm:c.moves[k]?=some m):mvA c v=(m,true):=by
 obtain ⟨x,h1,h2⟩:=(find_idx _ c.moves 0).2 k (by rw [h,Nat.zero_add])
 rw [hm] at h1;injection h1 with h1
 unfold mvA zif;rw [h2,h1]
theorem Lmove (c:zap) (v:Nat) (hc:zgo 3 c):Fn Tryz.prog 151 [] [vG (acC c),vN v] (.tup [.agg ([cI (mvA c v).1.v,cB (mvA c v).1.any,cPs (mvA c v).1.t.parts]++zi (mvA c v).1.t.k),.c (cB (mvA c v).2)]) []:=by
 have lcm:=hc.len;have lix:=idxB_len (fun m:zai=>m.v == (v:Int)) c.moves 0;refine fB Tryz.func151 rfl 19 fun w H B a h=>Jq 0 [] [(2,vp 0 0),(3,vp 1 0),(4,vp 2 0),(5,vb false)] [(0,.box (acC c)),(1,.box [cI (v:Int)]),(2,.box [cI 0,cB false,nCl,cB false,.d (nsl [])])] h fun a w h=>Jg 3 [(2,.g (Op.makeFs (d:=9) (fn:=.func 187) [(3,1,0)])),(3,.call (SIdxWM (fun m:zai=>m.v == (v:Int)) c.moves v (fun m _=>Lmove1 m v) (by have:=hc.len;omega)))] [3] [(6,vI (zdk (fun m:zai=>m.v == (v:Int)) c.moves 0))] [1] [] h fun a w h=>qW (Je 3 [] [] [(12,vb (decide ((zdk (fun m:zai=>m.v == (v:Int)) c.moves 0)<0)))] h fun a w h=>zae ((zdk (fun m:zai=>m.v == (v:Int)) c.moves 0)<0) h (fun hc1 hc1'=>?_) (fun hc2 hc2'=>?_))
 ·refine Je 3 [] [12] [] h fun a w h=>qV (za5 ?_);replace h:=zbi 2 2 3 [cI 0,cB false,nCl,cB false,.d (nsl [])] h;refine zel [.agg [cI 0,cB false,cPs [],cB false,.d (nsl [])],.c (cB false)] h Exit.ret (.inl rfl)  rfl ⟨RV.agg _ 2 0 _ _ _ _ ki_5 rfl rfl rfl rfl,RV.tmp _ _ rfl,trivial⟩ ?_;rw [mvA_no (dT hc1)];try rfl
 refine qU (za1 ?_);obtain ⟨kx,hkkx⟩:∃ k_:Nat,(zdk (fun m:zai=>m.v == (v:Int)) c.moves 0)=(k_:Int):=⟨_,(b6 (by have:=dF hc2;omega)).symm⟩;replace h:=cvM [] [(6,vN kx)] [] [] (by rw [hkkx];kernel_rfl) h;obtain ⟨x2,hx2⟩:=gl c.moves kx;refine Jq 3 [(3,.g (xD 17 15 ki_2 (za7 hx2 (f:=zai.d)) (OV.tmp 16 _)))] [(4,vp 2 0),(5,vb true)] [(2,.box ([cI x2.v,cB x2.any,cPs x2.t.parts]++zi x2.t.k))] h fun a w h=>qV (zel [.agg ([cI x2.v,cB x2.any,cPs x2.t.parts]++zi x2.t.k),.c (cB true)] h Exit.ret (.inl rfl)  rfl ⟨RV.agg _ 2 0 _ _ _ _ ki_5 rfl rfl rfl rfl,RV.tmp _ _ rfl,trivial⟩ ?_);rw [mvA_at hkkx hx2];try rfl
theorem mvA_tok {c:zap} (hc:zgo 3 c) (v:Nat):TOk 20 3 (mvA c v).1.t:=by
 unfold mvA
 cases e:zif c v with
 | none=>exact ⟨bE _,(fun p hp=>by cases hp),zfj,bE _⟩
 | some m=>exact hc.mv m (by unfold zif at e;exact cR e)
theorem valA_no {c:zap} (h:(mvA c v).2=false):zcx c v=(zgp (v:Int),true):=by
 unfold mvA at h;unfold zcx
 cases e:zif c v with
 | none=>rfl
 | some m=>rw [e] at h;cases h
theorem valA_any {c:zap} (h:(mvA c v).2=true) (a:(mvA c v).1.any=true):zcx c v=(⟨[],zft⟩,false):=by
 unfold mvA at h a;unfold zcx
 cases e:zif c v with
 | none=>rw [e] at h;cases h
 | some m=>rw [e] at a;exact if_pos a
theorem valA_set {c:zap} (h:(mvA c v).2=true) (a:(mvA c v).1.any=false):zcx c v=(za2 (mvA c v).1.t,true):=by
 unfold mvA at h a ⊢;unfold zcx
 cases e:zif c v with
 | none=>rw [e] at h;cases h
 | some m=>rw [e] at a;exact if_neg (by rw [show m.any=false from a];exact Bool.noConfusion)
theorem Lvalue (c:zap) (v:Nat) (hc:zgo 3 c):Fn Tryz.prog 110 [] [vG (acC c),vN v] (.tup [.agg (zT (zcx c v).1),.c (cB (zcx c v).2)]) []:=by
 refine fB Tryz.func110 rfl 26 fun w H B a h=>Jq 0 [] [(1,vN v),(2,vp 0 0),(4,vp 1 0),(5,vb false)] [(0,.box (acC c)),(1,.box zT0)] h fun a w h=>Jg 2 [(2,.call (Lmove c v hc))] [2] [(6,vp 2 0),(7,vb (mvA c v).2)] [0] [(2,.box ([cI (mvA c v).1.v,cB (mvA c v).1.any,cPs (mvA c v).1.t.parts]++zi (mvA c v).1.t.k))] h fun a w h=>qW (qZ (Je 3 [] [7] [(14,vb (!(mvA c v).2))] h fun a w h=>cS (!(mvA c v).2) h (fun hc1=>?_) (fun hc2=>?_)))
 ·refine Jg 3 [(1,.call (Lvariable v))] [1,14] [(5,vb true)] [] [(1,.box (zT (zgp (v:Int))))] h fun a w h=>qV (za9 (za5 (zel [.agg (zT (zgp (v:Int))),.c (cB true)] h Exit.ret (.inl rfl)  rfl ⟨RV.agg _ 1 0 _ _ _ _ zgl rfl rfl rfl rfl,RV.tmp _ _ rfl,trivial⟩ ?_)));rw [valA_no (by have:=hc1;simpa using this)];try rfl
 refine Je 3 [] [1,14] [(19,vb (mvA c v).1.any)] h fun a w h=>cS (mvA c v).1.any h (fun hc3=>?_) (fun hc4=>?_)
 ·refine Je 3 [] [19] [] h fun a w h=>qV (za9 (za5 ?_));replace h:=zbi 1 0 3 zT0 h;refine zel [.agg [cPs [],cB false,.d (nsl [])],.c (cB false)] h Exit.ret (.inl rfl)  rfl ⟨RV.agg _ 1 0 _ _ _ _ zgl rfl rfl rfl rfl,RV.tmp _ _ rfl,trivial⟩ ?_;rw [valA_any (by have:=hc2;simpa using this) hc3];try rfl
 refine qU (za6 (za1 (Jq 3 [(2,.call (zdz (mvA c v).1.t (mvA_tok hc v) (by decide) (by decide)))] [(4,vp 1 0),(5,vb true)] [(1,.box (zT (za2 (mvA c v).1.t)))] h fun a w h=>qV (zel [.agg (zT (za2 (mvA c v).1.t)),.c (cB true)] h Exit.ret (.inl rfl)  rfl ⟨RV.agg _ 1 0 _ _ _ _ zgl rfl rfl rfl rfl,RV.tmp _ _ rfl,trivial⟩ ?_))));rw [valA_set (by have:=hc2;simpa using this) hc4];try rfl
theorem canS_t {c:zap} (h:(zcx c v).2=true):zfh s c v=bndF s v (zcx c v).1:=by unfold zfh;rw [if_pos h]
theorem canS_a {c:zap} {b:zaj} (h:(zcx c v).2=false) (hb:s.bounds[v]?=some b) (e:b.is_=true):zfh s c v=[leF (zco b.lo) (zco b.hi)]:=by unfold zfh;rw [h,if_neg Bool.noConfusion,bnd_is hb,if_pos e]
theorem canS_n {c:zap} (h:(zcx c v).2=false) (e:(zbl s v).is_=false):zfh s c v=[]:=by unfold zfh;rw [h,if_neg Bool.noConfusion,e];rfl
theorem Lcan (s:zam) (c:zap) (hs:zbg 3 s) (hc:zgo 3 c) (hg:c.guard.wid<=100):Fn Tryz.prog 111 [] [vG (zcn s),vG (acC c)] (vF (zep s c)) []:=by
 have lvs:=hs.vars;have lbs:=hs.bnds;have lcn:=zdq (zfh s c) (zlq s c) s.vars.length;refine fB Tryz.func111 rfl 63 fun w H B a h=>Jq 5 [] [(2,vp 5 0),(3,vp 6 0),(4,vp 7 0)] [(5,.box (zcn s)),(6,.box (acC c)),(7,.box zF0)] h fun a w h=>Jg 8 [(2,.g (Op.buildO (d:=12) (n:=8) (len:=1) (rows:=[c.guard].map za0.d) (rs:=[(11,(vF c.guard))]) kb_1 (.cons (i:=0) (OV.tmp 11 _) (.nil)) (by simp only [bP,cG,cH,cJ,cD,za0.d_eq];kernel_rfl) rfl (by simp [za0.d_len]) (by decide) (by decide)))] [] [(5,vO 8 1)] [] [(8,.row 35 6 ([c.guard].map za0.d))] h fun a w h=>qW (Je 9 [(2,.len (za4 1 zdy s.vars))] [] [(15,vN s.vars.length),(16,vI 0)] h fun a w h=>qZ ?_)
 replace h:=cvM [] [] [] [(8,.row 35 6 (([c.guard]++(List.range 0).flatMap (zfh s c)).map za0.d))] (by rw [<- show ([c.guard]:List za0)=([c.guard]++(List.range 0).flatMap (zfh s c)) from (by simp)];kernel_rfl) h
 refine zbx (ι:=(Nat)) (fun j=>j<=s.vars.length)
   [] (fun j=>[(5,vO 8 ([c.guard]++(List.range j).flatMap (zfh s c)).length),(16,vN j)])
   [] (fun j=>[(8,.row 35 6 (([c.guard]++(List.range j).flatMap (zfh s c)).map za0.d))])
   (fun j=>s.vars.length - j) 0 ?_ h ?_
 ·exact bE _
 clear h;rintro j a w hI h;have lcj:=zdq (zfh s c) (zlq s c) j;have lbj:=bndF_len s j (zcx c j).1;refine Je 9 [] [] [(17,vb (decide ((j:Int)<(s.vars.length:Int))))] h fun a w h=>qW (zae ((j:Int)<(s.vars.length:Int)) h (fun hc1 hc1'=>?_) (fun hc8 hc8'=>?_))
 ·refine qU (za1 (qW (qZ (Je 9 [] [17] [(6,vN j)] h fun a w h=>Jg 9 [(2,.call (Lvalue c j hc))] [] [(7,vp 9 0),(8,vb (zcx c j).2)] [] [(9,.box (zT (zcx c j).1))] h fun a w h=>Je 10 [] [8] [(25,vb (zcx c j).2)] h fun a w h=>cS (zcx c j).2 h (fun hc2=>?_) (fun hc3=>?_)))))
  ·refine Jh 10 [(4,.call (Lbounded s j (zcx c j).1 hs (val_tok hc j))),(5,.g (aD 31 26 30 8 10 ([c.guard]++(List.range j).flatMap (zfh s c)) (bndF s j (zcx c j).1) za0.d la_7 (by simp [za0.d_len])))] [6,7,25] [(5,vO 10 (([c.guard]++(List.range j).flatMap (zfh s c))++(bndF s j (zcx c j).1)).length)] [8,9] [(10,.row 35 6 ((([c.guard]++(List.range j).flatMap (zfh s c))++(bndF s j (zcx c j).1)).map za0.d))] h fun a w h=>za6 (za1 (Jf 11 [(0,.j1 j)] [] [(16,vI ((j:Int)+1))] h fun a w h=>za1 ?_));rw [show ((([c.guard]++(List.range j).flatMap (zfh s c))++(bndF s j (zcx c j).1)):List za0)=([c.guard]++(List.range (j+1)).flatMap (zfh s c)) from (by rw [zdr (zfh s c) j,canS_t hc2];simp)] at h;replace h:=zcz 10 8 h;refine zaa (x:=j) (y:=j+1) h ?_ ?_
   ·have:=dT hc1;show j+1<=s.vars.length;omega
   show s.vars.length - (j+1)<s.vars.length - j;have:=dT hc1;omega
  rcases bG (decide ((j:Int)<(s.bounds.length:Int))) with hc4 | hc7
  ·have hc4':=dT hc4;obtain ⟨x3,hx3⟩:=gl s.bounds j;refine Jg 11 [(3,.len (za4 5 zaj.d s.bounds)),(4,.cmp (op:=.lss) (m:=(j:Int)) (n:=(s.bounds.length:Int)) (b:=true) .i64 hc4),(9,.g (xD 41 39 kf_0 (za7 hx3 (f:=zaj.d)) (OV.tmp 40 _)))] [7,25] [(44,vb x3.is_)] [9] [] h fun a w h=>cS x3.is_ h (fun hc5=>?_) (fun hc6=>?_)
   ·refine Jg 11 [(3,.g (xD 48 46 kf_0 (za7 hx3 (f:=zaj.d)) (OV.tmp 47 _)))] [6,44] [(9,vp 11 0)] [] [(11,.box ([cB x3.is_]++zi x3.lo++zi x3.hi))] h fun a w h=>Jh 12 [(3,.call (zh8 x3.lo (hs.bnd x3 (lM hx3)).1.1 (by have:=(hs.bnd x3 (lM hx3)).1.2;omega))),(6,.call (zh8 x3.hi (hs.bnd x3 (lM hx3)).2.1 (by have:=(hs.bnd x3 (lM hx3)).2.2;omega))),(7,.call (LCmpLe (zco x3.lo) (zco x3.hi) ((zjr (hs.bnd x3 (lM hx3)).1).mono (bI _) (by decide)) ((zjr (hs.bnd x3 (lM hx3)).2).mono (bI _) (by decide)))),(8,.g (bD 58 ([(leF (zco x3.lo) (zco x3.hi))].map za0.d) [(57,(vF (leF (zco x3.lo) (zco x3.hi))))] kb_1 (.cons (i:=0) (OV.tmp 57 _) (.nil)) (by simp only [bP,cG,cH,cJ,cD,za0.d_eq];kernel_rfl) (by simp [za0.d_len]))),(9,.g (aD 59 50 58 8 12 ([c.guard]++(List.range j).flatMap (zfh s c)) [(leF (zco x3.lo) (zco x3.hi))] za0.d la_7 (by simp [za0.d_len])))] [9] [(5,vO 12 (([c.guard]++(List.range j).flatMap (zfh s c))++[(leF (zco x3.lo) (zco x3.hi))]).length)] [8,11] [(12,.row 35 6 ((([c.guard]++(List.range j).flatMap (zfh s c))++[(leF (zco x3.lo) (zco x3.hi))]).map za0.d))] h fun a w h=>za6 (za1 (Jf 13 [(0,.j1 j)] [] [(16,vI ((j:Int)+1))] h fun a w h=>za1 ?_));rw [show ((([c.guard]++(List.range j).flatMap (zfh s c))++[(leF (zco x3.lo) (zco x3.hi))]):List za0)=([c.guard]++(List.range (j+1)).flatMap (zfh s c)) from (by rw [zdr (zfh s c) j,canS_a hc3 hx3 hc5];simp)] at h;replace h:=zcz 12 8 h;refine zaa (x:=j) (y:=j+1) h ?_ ?_
    ·have:=dT hc1;show j+1<=s.vars.length;omega
    show s.vars.length - (j+1)<s.vars.length - j;have:=dT hc1;omega
   refine qU (za6 (za1 (Jf 13 [(0,.j1 j)] [6,44] [(16,vI ((j:Int)+1))] h fun a w h=>za1 ?_)));rw [show (([c.guard]++(List.range j).flatMap (zfh s c)):List za0)=([c.guard]++(List.range (j+1)).flatMap (zfh s c)) from (by rw [zdr (zfh s c) j,canS_n hc3 (by rw [bnd_is hx3];exact hc6)];simp)] at h;refine zaa (x:=j) (y:=j+1) h ?_ ?_
   ·have:=dT hc1;show j+1<=s.vars.length;omega
   show s.vars.length - (j+1)<s.vars.length - j;have:=dT hc1;omega
  have hc7':=dF hc7;refine Jg 13 [(3,.len (za4 5 zaj.d s.bounds)),(4,.cmp (op:=.lss) (m:=(j:Int)) (n:=(s.bounds.length:Int)) (b:=false) .i64 hc7)] [7,25] [(44,vb false)] [9] [] h fun a w h=>zaz h (qU (za6 (za1 (Jf 13 [(0,.j1 j)] [6,44] [(16,vI ((j:Int)+1))] h fun a w h=>za1 ?_))));rw [show (([c.guard]++(List.range j).flatMap (zfh s c)):List za0)=([c.guard]++(List.range (j+1)).flatMap (zfh s c)) from (by rw [zdr (zfh s c) j,canS_n hc3 (bnd_no (by omega))];simp)] at h;refine zaa (x:=j) (y:=j+1) h ?_ ?_
  ·have:=dT hc1;show j+1<=s.vars.length;omega
  show s.vars.length - (j+1)<s.vars.length - j;have:=dT hc1;omega
 refine exA ?_;rw [show (([c.guard]++(List.range j).flatMap (zfh s c)):List za0)=(canL s c) from (by rw [show j=s.vars.length by have:=dF hc8;omega];rfl)] at h;replace h:=zie 8 6 35 ((canL s c).map za0.d) h [(canL s c).length] ⟨by first | exact (bJ _).symm | (simp;done) | (simp;omega),trivial⟩;refine Jq 13 [(1,.call (LAll (canL s c) (fun g hg_=>za0.okB_mono (by decide) (by decide) _ (can_ok hs hc hg g hg_)) (by show List.length _<=_;unfold canL;rw [cM];omega)))] [(4,vp 7 0)] [(7,.box (zF (zep s c)))] h fun a w h=>qV (rA 7 (zF (zep s c)) h zdb rfl ?_);rfl
def offZ (s:zam) (k:Nat):Int:=(k:Int)*(s.vars.length:Int)
def atF (s:zam) (f:za0) (k:Nat):za0:=f.each (zcy (offZ s k))
def begB (s:zam) (locs:List Int) (a:zap):Bool:=decide (locs.length=s.procs.length) && ((locs[a.proc.toNat]?).getD 0 == a.from_)
def zgn (s:zam) (locs:List Int) (i:Int):zap × Bool:=((zab s i).1,(zab s i).2 && begB s locs (zab s i).1)
def zgs (s:zam) (locs:List Int) (v:Nat):List za0:=if (zgn s locs (v:Int)).2=true then [zi7 (zep s (zgn s locs (v:Int)).1)] else []
def stkF (s:zam) (locs:List Int):za0:=zca ((List.range s.acts.length).flatMap (zgs s locs))
theorem zim (h:(zab s i).2=true):0<=(zab s i).1.proc/\(zab s i).1.proc<(s.procs.length:Int):=by
 unfold zab at h ⊢
 cases e:zdh s i with
 | none=>rw [e] at h;cases h
 | some c =>
  rw [e] at h
  change sndB s c=true at h
  unfold sndB at h
  simp only [bU,decide_eq_true_eq] at h
  exact h.1.1.1
theorem canF_ok (hs:zbg 3 s) {c:zap} (hc:zgo 3 c) (hw:c.guard.wid<=100):(zep s c).okB 40 51:=zib (by decide) (can_ok hs hc hw) (by unfold canL;rw [cM];have:=zdq (zfh s c) (zlq s c) s.vars.length;have:=hs.vars;omega)
theorem stkS_ok (hs:zbg 3 s) (hw:zkv s) (locs:List Int) (v:Nat):∀ g ∈ zgs s locs v,g.okB 40 52:=fun g hg=>by
 unfold zgs at hg
 split at hg
 ·rw [bN.1 hg]
  exact zhi (by decide) (by simp) fun q hq=>by rw [bN.1 hq];exact okB_cl (by decide) _ (canF_ok hs (zfm hs _) (zkh hw _))
 ·cases hg
theorem zkz (s:zam) (locs:List Int) (v:Nat):(zgs s locs v).length<=1:=by unfold zgs;split <;> simp
theorem stkF_ok (hs:zbg 3 s) (hw:zkv s) (locs:List Int):(stkF s locs).okB 40 53:=zib (by decide) (zds fun v _=>stkS_ok hs hw locs v) (by have:=zdq (zgs s locs) (zkz s locs) s.acts.length;have:=hs.acts;omega)
theorem Loffset (s:zam) (k:Nat) (hs:zbg 3 s) (hk:k<=4096):Fn Tryz.prog 146 [] [vG (zcn s),vN k] (vI (offZ s k)) []:=by
 have lvs:=hs.vars;obtain ⟨mkv,hmkv⟩:∃ z_:Nat,z_=k*s.vars.length:=⟨_,rfl⟩;have hmk2:mkv<=4096*8:=by rw [hmkv];exact Nat.mul_le_mul hk lvs
 have hmk3:(k:Int)*(s.vars.length:Int)=(mkv:Int):=by rw [hmkv,Int.natCast_mul]
 refine fB Tryz.func146 rfl 12 fun w H B a h=>Jq 0 [] [(1,vN k),(2,vp 0 0),(4,vI 0)] [(0,.box (zcn s))] h fun a w h=>Jq 1 [(1,.g (Op.max2 (d:=6) (tys:=#[3,3]) (k:=.i64) (m:=(k:Int)) (n:=0) (r:=(k:Int)) (OV.tmp 5 _) (OV.const (.int .i64 0) rfl) (by omega))),(2,.g (Op.min2 (d:=7) (tys:=#[3,3]) (k:=.i64) (m:=(k:Int)) (n:=4096) (r:=(k:Int)) (OV.tmp 6 _) (OV.const (.int .i64 4096) rfl) (by omega))),(5,.len (za4 1 zdy s.vars)),(6,.mul .i64 (m:=(k:Int)) (n:=(s.vars.length:Int)) i6)] [(4,vI ((k:Int)*(s.vars.length:Int)))] [] h fun a w h=>qV (rT (.c (cI ((k:Int)*(s.vars.length:Int)))) h rfl ?_)
 rfl
theorem Lat (s:zam) (f:za0) (k:Nat) (hs:zbg 3 s) (hk:k<=4096) (hf:f.okB 40 200):Fn Tryz.prog 106 [] [vG (zcn s),(vF f),vN k] (vF (atF s f k)) []:=by
 refine fB Tryz.func106 rfl 12 fun w H B a h=>Jq 0 [] [(2,vN k),(3,vp 0 0),(4,vp 1 0),(6,vp 2 0)] [(0,.box (zcn s)),(1,.box (zF f)),(2,.box zF0)] h fun a w h=>Jq 3 [(3,.call (Loffset s k hs (by omega))),(4,.call (LMoveF f (offZ s k) (za0.okB_mono (by decide) (by decide) _ hf) (za0.okB_mono (by decide) (by decide) _ (okB_cl (by decide) _ hf))))] [(6,vp 2 0)] [(2,.box (zF (za0.each (zcy (offZ s k)) f)))] h fun a w h=>qV (rA 2 (zF (za0.each (zcy (offZ s k)) f)) h zdb rfl ?_)
 rfl
theorem Lbegins (s:zam) (locs:List Int) (i:Int) (hs:zbg 3 s) (hl:locs.length<=9223372036854775807):Fn Tryz.prog 147 [] [.t (.agg (zcn s)),.t (.c (.d (.sl 1 (locs.map zak)))),vI i] (.tup [.agg ([.d (.raw (.int .i64 (zgn s locs i).1.proc)),.d (.raw (.int .i64 (zgn s locs i).1.from_)),.d (.raw (.int .i64 (zgn s locs i).1.to_)),.d (.raw (.int .i64 (zgn s locs i).1.guard.kind)),.d (.sl 3 ((zgn s locs i).1.guard.r.t.parts.map za3.d))]++zi (zgn s locs i).1.guard.r.t.k++[.d (.raw (.bool (zgn s locs i).1.guard.r.eq)),.d (.sl 6 ((zgn s locs i).1.guard.kids.map za0.d)),.d (.sl 5 ((zgn s locs i).1.moves.map zai.d))]),.c (.d (.raw (.bool (zgn s locs i).2)))]) []:=by
 have lps:=hs.procs;have lpr:(zab s i).2=true->0<=(zab s i).1.proc/\(zab s i).1.proc<(s.procs.length:Int):=zim;refine fB Tryz.func147 rfl 36 fun w H B a h=>?_
 refine Jq 0 [] [(1,.t (.c (.d (.sl 1 (locs.map zak))))),(2,vI i),(3,vp 0 0),(6,vp 1 0),(7,vb false)] [(0,.box (zcn s)),(1,.box [.d (.raw (.int .i64 0)),.d (.raw (.int .i64 0)),.d (.raw (.int .i64 0)),.d (.raw (.int .i64 0)),.d (.raw zal),.d (.raw (.bool false)),.d (nsl []),.d (.raw (.bool false)),.d (.raw zal),.d (.raw zal)])] h fun a w h=>?_;refine Jq 2 [(2,.call (Lsound s i hs))] [(1,.t (.c (.d (.sl 1 (locs.map zak))))),(3,vp 0 0),(6,vp 1 0),(7,vb false),(8,vp 2 0),(9,vb (zab s i).2)] [(0,.box (zcn s)),(1,.box [.d (.raw (.int .i64 0)),.d (.raw (.int .i64 0)),.d (.raw (.int .i64 0)),.d (.raw (.int .i64 0)),.d (.raw zal),.d (.raw (.bool false)),.d (nsl []),.d (.raw (.bool false)),.d (.raw zal),.d (.raw zal)]),(2,.box ([.d (.raw (.int .i64 (zab s i).1.proc)),.d (.raw (.int .i64 (zab s i).1.from_)),.d (.raw (.int .i64 (zab s i).1.to_)),.d (.raw (.int .i64 (zab s i).1.guard.kind)),.d (.sl 3 ((zab s i).1.guard.r.t.parts.map za3.d))]++zi (zab s i).1.guard.r.t.k++[.d (.raw (.bool (zab s i).1.guard.r.eq)),.d (.sl 6 ((zab s i).1.guard.kids.map za0.d)),.d (.sl 5 ((zab s i).1.moves.map zai.d))]))] h fun a w h=>?_
 rcases bG (zab s i).2 with hc1 | hc4
 ·have lpx:=zim hc1;rw [hc1] at h
  rcases bG ((locs.length:Int) == (s.procs.length:Int)) with hc2 | hc3
  ·have hc2':=hc2;(try simp at hc2');obtain ⟨kp,hkkp⟩:∃ k_:Nat,(zab s i).1.proc=(k_:Int):=⟨_,(b6 ((zim hc1).1)).symm⟩;replace h:=h.conv (f':=F.of [(1,.t (.c (.d (.sl 1 (locs.map zak))))),(3,vp 0 0),(6,vp 1 0),(7,vb false),(8,vp 2 0),(9,vb true)] [(0,.box (zcn s)),(1,.box [.d (.raw (.int .i64 0)),.d (.raw (.int .i64 0)),.d (.raw (.int .i64 0)),.d (.raw (.int .i64 0)),.d (.raw zal),.d (.raw (.bool false)),.d (nsl []),.d (.raw (.bool false)),.d (.raw zal),.d (.raw zal)]),(2,.box ([.d (.raw (.int .i64 (kp:Int))),.d (.raw (.int .i64 (zab s i).1.from_)),.d (.raw (.int .i64 (zab s i).1.to_)),.d (.raw (.int .i64 (zab s i).1.guard.kind)),.d (.sl 3 ((zab s i).1.guard.r.t.parts.map za3.d))]++zi (zab s i).1.guard.r.t.k++[.d (.raw (.bool (zab s i).1.guard.r.eq)),.d (.sl 6 ((zab s i).1.guard.kids.map za0.d)),.d (.sl 5 ((zab s i).1.moves.map zai.d))]))]) (by rw [hkkp]);obtain ⟨x2,hx2⟩:=gl locs kp;refine Jq 3 [(4,.len (za4 1 zak locs)),(7,.len (za4 3 zb9.d s.procs)),(8,.cmp (op:=.eql) (m:=(locs.length:Int)) (n:=(s.procs.length:Int)) (b:=true) .i64 hc2),(14,.g (xD 30 27 zjl (za7 hx2 (f:=zak)) (OV.tmp 29 _)))] [(6,vp 1 0),(7,vb (x2 == (zab s i).1.from_))] [(1,.box ([.d (.raw (.int .i64 (kp:Int))),.d (.raw (.int .i64 (zab s i).1.from_)),.d (.raw (.int .i64 (zab s i).1.to_)),.d (.raw (.int .i64 (zab s i).1.guard.kind)),.d (.sl 3 ((zab s i).1.guard.r.t.parts.map za3.d))]++zi (zab s i).1.guard.r.t.k++[.d (.raw (.bool (zab s i).1.guard.r.eq)),.d (.sl 6 ((zab s i).1.guard.kids.map za0.d)),.d (.sl 5 ((zab s i).1.moves.map zai.d))]))] h fun a w h=>?_;refine qV ?_;refine zel [.agg ([.d (.raw (.int .i64 (kp:Int))),.d (.raw (.int .i64 (zab s i).1.from_)),.d (.raw (.int .i64 (zab s i).1.to_)),.d (.raw (.int .i64 (zab s i).1.guard.kind)),.d (.sl 3 ((zab s i).1.guard.r.t.parts.map za3.d))]++zi (zab s i).1.guard.r.t.k++[.d (.raw (.bool (zab s i).1.guard.r.eq)),.d (.sl 6 ((zab s i).1.guard.kids.map za0.d)),.d (.sl 5 ((zab s i).1.moves.map zai.d))]),.c (.d (.raw (.bool (x2 == (zab s i).1.from_))))] h Exit.ret (.inl rfl)  rfl ⟨RV.agg _ 1 0 _ _ _ _ ki_0 rfl rfl rfl rfl,RV.tmp _ _ rfl,trivial⟩ ?_;have hz:(zgn s locs i).2=(x2 == (zab s i).1.from_):=by show ((zab s i).2 && begB s locs (zab s i).1)=_;rw [hc1,bC];unfold begB;rw [decide_eq_true (p:=locs.length=s.procs.length) (by have:=hc2;simp at this;omega),bC,show (zab s i).1.proc.toNat=kp by omega,hx2];rfl
   rw [hz,show (zgn s locs i).1.proc=(kp:Int) from hkkp];try rfl
  have hc3':=hc3;(try simp at hc3');obtain ⟨kp,hkkp⟩:∃ k_:Nat,(zab s i).1.proc=(k_:Int):=⟨_,(b6 ((zim hc1).1)).symm⟩;replace h:=h.conv (f':=F.of [(1,.t (.c (.d (.sl 1 (locs.map zak))))),(3,vp 0 0),(6,vp 1 0),(7,vb false),(8,vp 2 0),(9,vb true)] [(0,.box (zcn s)),(1,.box [.d (.raw (.int .i64 0)),.d (.raw (.int .i64 0)),.d (.raw (.int .i64 0)),.d (.raw (.int .i64 0)),.d (.raw zal),.d (.raw (.bool false)),.d (nsl []),.d (.raw (.bool false)),.d (.raw zal),.d (.raw zal)]),(2,.box ([.d (.raw (.int .i64 (kp:Int))),.d (.raw (.int .i64 (zab s i).1.from_)),.d (.raw (.int .i64 (zab s i).1.to_)),.d (.raw (.int .i64 (zab s i).1.guard.kind)),.d (.sl 3 ((zab s i).1.guard.r.t.parts.map za3.d))]++zi (zab s i).1.guard.r.t.k++[.d (.raw (.bool (zab s i).1.guard.r.eq)),.d (.sl 6 ((zab s i).1.guard.kids.map za0.d)),.d (.sl 5 ((zab s i).1.moves.map zai.d))]))]) (by rw [hkkp]);refine Jq 3 [(4,.len (za4 1 zak locs)),(7,.len (za4 3 zb9.d s.procs)),(8,.cmp (op:=.eql) (m:=(locs.length:Int)) (n:=(s.procs.length:Int)) (b:=false) .i64 hc3)] [(6,vp 1 0),(7,vb false)] [(1,.box ([.d (.raw (.int .i64 (kp:Int))),.d (.raw (.int .i64 (zab s i).1.from_)),.d (.raw (.int .i64 (zab s i).1.to_)),.d (.raw (.int .i64 (zab s i).1.guard.kind)),.d (.sl 3 ((zab s i).1.guard.r.t.parts.map za3.d))]++zi (zab s i).1.guard.r.t.k++[.d (.raw (.bool (zab s i).1.guard.r.eq)),.d (.sl 6 ((zab s i).1.guard.kids.map za0.d)),.d (.sl 5 ((zab s i).1.moves.map zai.d))]))] h fun a w h=>?_;refine qV ?_;refine zel [.agg ([.d (.raw (.int .i64 (kp:Int))),.d (.raw (.int .i64 (zab s i).1.from_)),.d (.raw (.int .i64 (zab s i).1.to_)),.d (.raw (.int .i64 (zab s i).1.guard.kind)),.d (.sl 3 ((zab s i).1.guard.r.t.parts.map za3.d))]++zi (zab s i).1.guard.r.t.k++[.d (.raw (.bool (zab s i).1.guard.r.eq)),.d (.sl 6 ((zab s i).1.guard.kids.map za0.d)),.d (.sl 5 ((zab s i).1.moves.map zai.d))]),.c (.d (.raw (.bool false)))] h Exit.ret (.inl rfl)  rfl ⟨RV.agg _ 1 0 _ _ _ _ ki_0 rfl rfl rfl rfl,RV.tmp _ _ rfl,trivial⟩ ?_;have hz:(zgn s locs i).2=(false):=by show ((zab s i).2 && begB s locs (zab s i).1)=_;rw [hc1,bC];unfold begB;rw [decide_eq_false (p:=locs.length=s.procs.length) (by have:=hc3;simp at this;omega),Bool.false_and]
  rw [hz,show (zgn s locs i).1.proc=(kp:Int) from hkkp];try rfl
 rw [hc4] at h;refine Jq 3 [] [(6,vp 1 0),(7,vb false)] [(1,.box ([.d (.raw (.int .i64 (zab s i).1.proc)),.d (.raw (.int .i64 (zab s i).1.from_)),.d (.raw (.int .i64 (zab s i).1.to_)),.d (.raw (.int .i64 (zab s i).1.guard.kind)),.d (.sl 3 ((zab s i).1.guard.r.t.parts.map za3.d))]++zi (zab s i).1.guard.r.t.k++[.d (.raw (.bool (zab s i).1.guard.r.eq)),.d (.sl 6 ((zab s i).1.guard.kids.map za0.d)),.d (.sl 5 ((zab s i).1.moves.map zai.d))]))] h fun a w h=>?_;refine qV ?_;refine zel [.agg ([.d (.raw (.int .i64 (zab s i).1.proc)),.d (.raw (.int .i64 (zab s i).1.from_)),.d (.raw (.int .i64 (zab s i).1.to_)),.d (.raw (.int .i64 (zab s i).1.guard.kind)),.d (.sl 3 ((zab s i).1.guard.r.t.parts.map za3.d))]++zi (zab s i).1.guard.r.t.k++[.d (.raw (.bool (zab s i).1.guard.r.eq)),.d (.sl 6 ((zab s i).1.guard.kids.map za0.d)),.d (.sl 5 ((zab s i).1.moves.map zai.d))]),.c (.d (.raw (.bool false)))] h Exit.ret (.inl rfl)  rfl ⟨RV.agg _ 1 0 _ _ _ _ ki_0 rfl rfl rfl rfl,RV.tmp _ _ rfl,trivial⟩ ?_;have hz:(zgn s locs i).2=(false):=by show ((zab s i).2 && begB s locs (zab s i).1)=_;rw [hc4,Bool.false_and]
 rw [hz];try rfl
theorem Lstuck (s:zam) (locs:List Int) (hs:zbg 3 s) (hw:zkv s) (hl:locs.length<=9223372036854775807):Fn Tryz.prog 107 [] [vG (zcn s),(vIs locs)] (vF (stkF s locs)) []:=by
 have las:=hs.acts;have lsn:=zdq (zgs s locs) (zkz s locs) s.acts.length;refine fB Tryz.func107 rfl 33 fun w H B a h=>Jq 5 [] [(1,(vIs locs)),(2,vp 5 0),(4,vp 6 0)] [(5,.box (zcn s)),(6,.box zF0)] h fun a w h=>Je 7 [] [] [(5,vW zal)] h fun a w h=>qW (Je 7 [(2,.len (za4 10 zap.d s.acts))] [] [(11,vN s.acts.length),(12,vI 0)] h fun a w h=>qZ ?_)
 replace h:=zfc 5 0 7 6 35 (vW zal) h
 refine zbx (ι:=(Nat)) (fun j=>j<=s.acts.length)
   [] (fun j=>[(5,vO 7 ((List.range j).flatMap (zgs s locs)).length),(12,vN j)])
   [] (fun j=>[(7,.row 35 6 (((List.range j).flatMap (zgs s locs)).map za0.d))])
   (fun j=>s.acts.length - j) 0 ?_ h ?_
 ·exact bE _
 clear h;rintro j a w hI h;have lsj:=zdq (zgs s locs) (zkz s locs) j;refine Je 8 [] [] [(13,vb (decide ((j:Int)<(s.acts.length:Int))))] h fun a w h=>qW (zae ((j:Int)<(s.acts.length:Int)) h (fun hc1 hc1'=>?_) (fun hc4 hc4'=>?_))
 ·refine qU (za1 (qW (qZ (Je 8 [] [13] [(6,vN j)] h fun a w h=>Jg 8 [(3,.call (Lbegins s locs (j:Int) hs hl))] [6] [(7,vp 8 0),(8,vb (zgn s locs (j:Int)).2)] [] [(8,.box (acC (zgn s locs (j:Int)).1))] h fun a w h=>Je 9 [] [8] [(22,vb (zgn s locs (j:Int)).2)] h fun a w h=>cS (zgn s locs (j:Int)).2 h (fun hc2=>?_) (fun hc3=>?_)))))
  ·refine Jh 9 [(3,.call (Lcan s (zgn s locs (j:Int)).1 hs (zfm hs _) (zkh hw _))),(4,.call (LDeny (zep s (zgn s locs (j:Int)).1) (za0.okB_mono (by decide) (by decide) _ (canF_ok hs (zfm hs _) (zkh hw _))))),(5,.g (bD 28 ([(zi7 (zep s (zgn s locs (j:Int)).1))].map za0.d) [(27,(vF (zi7 (zep s (zgn s locs (j:Int)).1))))] kb_1 (.cons (i:=0) (OV.tmp 27 _) (.nil)) (by simp only [bP,cG,cH,cJ,cD,za0.d_eq];kernel_rfl) (by simp [za0.d_len]))),(6,.g (aD 29 23 28 7 9 ((List.range j).flatMap (zgs s locs)) [(zi7 (zep s (zgn s locs (j:Int)).1))] za0.d la_7 (by simp [za0.d_len])))] [7,22] [(5,vO 9 (((List.range j).flatMap (zgs s locs))++[(zi7 (zep s (zgn s locs (j:Int)).1))]).length)] [7,8] [(9,.row 35 6 ((((List.range j).flatMap (zgs s locs))++[(zi7 (zep s (zgn s locs (j:Int)).1))]).map za0.d))] h fun a w h=>za6 (za1 (Jf 10 [(0,.j1 j)] [] [(12,vI ((j:Int)+1))] h fun a w h=>za1 ?_));rw [show ((((List.range j).flatMap (zgs s locs))++[(zi7 (zep s (zgn s locs (j:Int)).1))]):List za0)=((List.range (j+1)).flatMap (zgs s locs)) from (by rw [zdr (zgs s locs) j,show zgs s locs j=[zi7 (zep s (zgn s locs (j:Int)).1)] from if_pos hc2];first | done | simp)] at h;replace h:=zcz 9 7 h;refine zaa (x:=j) (y:=j+1) h ?_ ?_
   ·have:=dT hc1;show j+1<=s.acts.length;omega
   show s.acts.length - (j+1)<s.acts.length - j;have:=dT hc1;omega
  refine qU (za6 (za1 (Jh 10 [(0,.j1 j)] [7,22] [(12,vI ((j:Int)+1))] [8] [] h fun a w h=>za1 ?_)));replace h:=cvM [] [(5,vO 7 ((List.range (j+1)).flatMap (zgs s locs)).length)] [] [(7,.row 35 6 (((List.range (j+1)).flatMap (zgs s locs)).map za0.d))] (by rw [<- show (((List.range j).flatMap (zgs s locs)):List za0)=((List.range (j+1)).flatMap (zgs s locs)) from (by rw [zdr (zgs s locs) j,show zgs s locs j=[] from if_neg (by rw [hc3];exact Bool.noConfusion)];first | done | simp)];kernel_rfl) h;refine zaa (x:=j) (y:=j+1) h ?_ ?_
  ·have:=dT hc1;show j+1<=s.acts.length;omega
  show s.acts.length - (j+1)<s.acts.length - j;have:=dT hc1;omega
 refine exA ?_;replace h:=cvM [] [(5,vO 7 ((List.range s.acts.length).flatMap (zgs s locs)).length)] [] [(7,.row 35 6 (((List.range s.acts.length).flatMap (zgs s locs)).map za0.d))] (by rw [<- show (((List.range j).flatMap (zgs s locs)):List za0)=((List.range s.acts.length).flatMap (zgs s locs)) from (by rw [show j=s.acts.length by have:=dF hc4;omega])];kernel_rfl) h;replace h:=zie 7 6 35 (((List.range s.acts.length).flatMap (zgs s locs)).map za0.d) h [((List.range s.acts.length).flatMap (zgs s locs)).length] ⟨by first | exact (bJ _).symm | (simp;done) | (simp;omega),trivial⟩;refine Jq 10 [(1,.call (LAll ((List.range s.acts.length).flatMap (zgs s locs)) (fun g hg=>za0.okB_mono (by decide) (by decide) _ (zds (fun v _=>stkS_ok hs hw locs v) g hg)) (by omega)))] [(4,vp 6 0)] [(6,.box (zF (stkF s locs)))] h fun a w h=>qV (rA 6 (zF (stkF s locs)) h zdb rfl ?_);rfl
theorem LStuck (s:zam) (locs:List Int) (k:Nat) (hs:zbg 3 s) (hw:zkv s) (hl:locs.length<=9223372036854775807) (hk:k<=4096):Fn Tryz.prog 69 [] [vG (zcn s),(vIs locs),vN k] (vF (atF s (stkF s locs) k)) []:=by
 refine fB Tryz.func69 rfl 13 fun w H B a h=>Jq 0 [] [(1,(vIs locs)),(2,vN k),(3,vp 0 0),(6,vp 1 0)] [(0,.box (zcn s)),(1,.box zF0)] h fun a w h=>Jq 2 [(3,.call (Lstuck s locs hs hw hl)),(5,.call (Lat s (stkF s locs) k hs hk (za0.okB_mono (by decide) (by decide) _ (stkF_ok hs hw locs))))] [(6,vp 1 0)] [(1,.box (zF (atF s (stkF s locs) k)))] h fun a w h=>qV (rA 1 (zF (atF s (stkF s locs) k)) h zdb rfl ?_)
 rfl
structure RunRd (r:RunD):Prop where
  stem:∀ x ∈ r.stem,StRd x
  cycle:∀ x ∈ r.cycle,StRd x
  len:r.stem.length+r.cycle.length<=9223372036854775807
  acts:r.acts.length<=9223372036854775807
theorem st0_rd:StRd st0:=⟨fun z hz=>(by cases hz),bE _⟩
theorem RunRd.at {r:RunD} (h:RunRd r) (i:Nat):StRd (runAt r i):=by
 unfold runAt
 cases hx:(r.stem++r.cycle)[i]? with
 | none=>exact st0_rd
 | some x=>exact (bV.1 (b7 hx)).elim (h.stem x) (h.cycle x)
def PsOkW (ps:List za8):Prop:=ps.length<=1000/\∀ r ∈ ps,TokR 100 r
theorem PsOkW.tok (h:PsOkW ps):ps.length<=1000000000000/\∀ p ∈ ps,TOk 200000000 3000 p.t:=⟨bF h.1 (by decide),fun p hp=>(h.2 p hp).mono (by decide) (by decide)⟩
end S
end Go.Proofs.YtlcijejaplagbaaGreat
section
namespace Go.Proofs
open Go.Shelf

end Go.Proofs
end
namespace Go.Proofs.YtlcijejaplagbaaGreat
namespace S
structure SideD where
  times:ZI
  rest:zag
def SideD.d (x:SideD):List D:=[.raw (.bool x.times.neg),nsl x.times.abs,.sl 3 (x.rest.parts.map za3.d),.raw (.bool x.rest.k.neg),nsl x.rest.k.abs]
structure SidesD where
  lows:List SideD
  highs:List SideD
  others:List za8
def SidesD.d (x:SidesD):List D:=[.sl 5 (x.lows.map SideD.d),.sl 5 (x.highs.map SideD.d),.sl 4 (x.others.map za8.d)]
def RsOk (rs:List za8):Prop:=rs.length<=20/\∀ r ∈ rs,TokR 8 r
theorem mask_mod (m:Int) (k:Nat) (hk:k<=62):IntKind.i64.wrap ((BitVec.ofInt 64 m &&& BitVec.ofInt 64 (((2 ^ k - 1:Nat):Int))).toNat:Int)=m % ((2 ^ k:Nat):Int):=by
 have hp:2 ^ k<=2 ^ 62:=Nat.pow_le_pow_right (by decide) hk
 have h0:0<2 ^ k:=Nat.pos_of_ne_zero (by simp)
 have h62:(2:Nat) ^ 62=4611686018427387904:=by decide
 have h1:(BitVec.ofInt 64 (((2 ^ k - 1:Nat):Int))).toNat=2 ^ k - 1:=by
  rw [BitVec.toNat_ofInt,Int.emod_eq_of_lt (by omega) (by omega)];simp
 have hdvd:((2 ^ k:Nat):Int)∣((2 ^ 64:Nat):Int):=Int.natCast_dvd_natCast.2 (Nat.pow_dvd_pow 2 (by omega))
 have h2:((BitVec.ofInt 64 m &&& BitVec.ofInt 64 (((2 ^ k - 1:Nat):Int))).toNat:Int)=m % ((2 ^ k:Nat):Int):=by
  rw [BitVec.toNat_and,h1,Nat.and_two_pow_sub_one_eq_mod,BitVec.toNat_ofInt,Int.natCast_emod,b6 (Int.emod_nonneg _ (by simp))]
  exact Int.emod_emod_of_dvd m hdvd
 have h3:=Int.emod_nonneg m (show ((2 ^ k:Nat):Int)≠0 by omega)
 have h4:=Int.emod_lt_of_pos m (show (0:Int)<((2 ^ k:Nat):Int) by omega)
 rw [h2]
 exact i64_id (by omega) (by omega)
section
variable {P:Program}
theorem Op.mask {d:Nat} {x y:Operand} {m r:Int} {n:Int} (k:Nat) {rs rs':List (Nat × V)} {xt yt ty:TypeId} {pos af gd} (h:OV x (vi .i64 m) rs) (h':OV y (vi .i64 n) rs') (hk:k<=62) (hn:n=((2 ^ k - 1:Nat):Int)) (he:m % ((2 ^ k:Nat):Int)=r) :
  zbc P ⟨some d,.binOp .and xt x y yt,ty,pos,af,gd⟩ { rs:=rs++rs', ws:=[(d,some (vi .i64 r))] }:=by
 subst he hn
 refine Op.raw2 rfl h h' rfl fun ρ w h1 h2=>?_
 have hs:Op.intBits .and .i64 m ((2 ^ k - 1:Nat):Int)=pure (.int .i64 (m % ((2 ^ k:Nat):Int))):=by
  rw [<- mask_mod m k hk];rfl
 generalize ((2 ^ k - 1:Nat):Int)=c at h2 hs
 generalize m % ((2 ^ k:Nat):Int)=q at hs ⊢
 simp [execOp,h1,h2,eqGuard,binOp,hs,go_sem]
end
section
open Go.RowKit Go.Sort
end
end S
theorem zin {x y:Int} (hx:-1<=x/\x<=1) (hy:-1<=y/\y<=1):-1<=x*y/\x*y<=1:=by
 have h1:x=-1\/x=0\/x=1:=by omega
 rcases h1 with rfl | rfl | rfl <;> omega
theorem val_two (x:Nat):nV [x % 4294967296,x / 4294967296]=x:=by simp only [nV];omega
namespace S
variable {n j M m m' v:Nat} {f:za0} {t:zag} {ks fs:List za0} {k i:Int} {s:zam} {x:StD}
def RkOk (r:za8):Prop:=TOk 200000000 200 r.t
theorem RkOk.of {L:Nat} {r:za8} (h:TOk n L r.t) (hn:n<=200000000) (hL:L<=200):RkOk r:=h.mono hn hL
theorem zih (k:ZI) (vs:List ZI):zdi (zco k) vs=k.val:=by simp [zdi,zco,zfs,ZI.val_of]
theorem RsOk.take {rs:List za8} (h:RsOk rs) (j:Nat):RsOk (rs.take j):=⟨by rw [cC];have:=h.1;omega,fun r hr=>h.2 r (cO hr)⟩
theorem kid_okA2 {L:Nat} {g:za0} (h:f.okA n L) (hg:g ∈ f.kids):g.okA n L:=((za0.okA_eq _ _ _).1 h).2 g hg
theorem kid_nodes9 {g:za0} (hg:g ∈ f.kids):g.nodes<=f.nodes:=by
 rw [za0.nodes_eq f]
 obtain ⟨j,hj⟩:=List.getElem?_of_mem hg
 have:=zij f.kids j hj;omega
theorem me4_2:zbm Tryz.prog 160:=zbm.mk' (by kernel_rfl)
def hasV (t:zag) (v:Int):Bool:=sgn (zah t.parts v) != 0
def forgK (vs:List Int) (k:Int) (r:za8) (ks cs:List za0):za0:=if k=2 then (if vs.any (hasV r.t)=true then zcj true else ⟨k,r,ks⟩) else ⟨k,zR,cs⟩
def za0.forg (vs:List Int) (f:za0):za0:=f.fold (forgK vs)
theorem za0.forg_eq (vs:List Int) (f:za0):f.forg vs=forgK vs f.kind f.r f.kids (f.kids.map (za0.forg vs)):=za0.fold_eq _ f
theorem forg_t {vs:List Int} (h:f.kind=2) (k:vs.any (hasV f.r.t)=true):f.forg vs=zcj true:=by rw [za0.forg_eq];unfold forgK;rw [if_pos h,if_pos k]
theorem forg_f {vs:List Int} (h:f.kind=2) (k:vs.any (hasV f.r.t)=false):f.forg vs=f:=by rw [za0.forg_eq];unfold forgK;rw [if_pos h,k,if_neg Bool.noConfusion];cases f;rfl
theorem forg_k {vs:List Int} (h:¬ f.kind=2):f.forg vs=⟨f.kind,zR,f.kids.map (za0.forg vs)⟩:=by rw [za0.forg_eq];unfold forgK;rw [if_neg h]
def zcc (c:zap) (n:Nat):List Int:=(List.range n).flatMap fun v=>if (zcx c v).2=true then [(v:Int)] else []
def zd2 (c:zap) (n:Nat):List zag:=(List.range n).flatMap fun v=>if (zcx c v).2=true then [(zcx c v).1] else []
def zd6 (c:zap) (n:Nat):List Int:=(List.range n).flatMap fun v=>if (zcx c v).2=true then [] else [(v:Int)]
def zl4 (s:zam) (act:Int) (f:za0):za0:=if act=-1 then zca [f] else if (zab s act).2=true then zca [zep s (zab s act).1,((f.flat false).forg (zd6 (zab s act).1 s.vars.length)).each (zbn (zcc (zab s act).1 s.vars.length) (zd2 (zab s act).1 s.vars.length))] else zcj false
theorem pre_len (c:zap) (n:Nat):(zcc c n).length<=n/\(zd2 c n).length<=n/\(zd6 c n).length<=n:=by
 have:=zdq (fun v=>if (zcx c v).2=true then [(v:Int)] else []) (m:=1) (fun v=>by split <;> simp) n
 have:=zdq (fun v=>if (zcx c v).2=true then [(zcx c v).1] else []) (m:=1) (fun v=>by split <;> simp) n
 have:=zdq (fun v=>if (zcx c v).2=true then [] else [(v:Int)]) (m:=1) (fun v=>by split <;> simp) n
 unfold zcc zd2 zd6
 omega
theorem zgj (c:zap) (j:Nat):zcc c (j+1)=zcc c j++(if (zcx c j).2=true then [(j:Int)] else [])/\zd2 c (j+1)=zd2 c j++(if (zcx c j).2=true then [(zcx c j).1] else [])/\zd6 c (j+1)=zd6 c j++(if (zcx c j).2=true then [] else [(j:Int)]) :=
 ⟨zdr _ j,zdr _ j,zdr _ j⟩
theorem preB_ok {c:zap} (hc:zgo 3 c) (n:Nat):∀ b ∈ zd2 c n,zji b:=zds fun v _ b hb=>by
 split at hb
 ·rw [bN.1 hb];exact (val_tok hc v).mono (by decide) (bI _)
 ·cases hb
theorem forg_ok {L:Nat} (vs:List Int) (f:za0):f.okA n L->f.nodes<=1000000000000->(f.forg vs).okB n L :=
 za0.ind (P:=fun f=>f.okA n L->f.nodes<=1000000000000->(f.forg vs).okB n L) (fun k r ks ih hf hn=>by
  obtain ⟨h1,h2⟩:=(za0.okA_eq _ _ _).1 hf
  have hk:=zjv ⟨k,r,ks⟩
  change ks.length+1<=_ at hk
  rw [za0.forg_eq]
  show (forgK vs k r ks (ks.map (za0.forg vs))).okB n L
  unfold forgK
  split
  ·rename_i e
   split
   ·exact okB_tru _ _ _
   ·rw [za0.okB_eq]
    refine ⟨⟨h1,by show ks.length<=_;omega,?_⟩,fun g hg=>?_⟩
    ·show (cnt k ks).length<=_;rw [e];exact bE _
    ·change g ∈ cnt k ks at hg;rw [e] at hg;cases hg
  ·rename_i e
   exact zhi e (by rw [bJ];omega) fun g hg=>by
    obtain ⟨q,hq,rfl⟩:=bL.1 hg
    exact ih q hq (h2 q hq) (bF (kid_nodes9 (f:=⟨k,r,ks⟩) hq) hn)) f
theorem Lforget1 (v:Int) (f:za0) (hf:TOk 300000000 3000 f.r.t):Fn Tryz.prog 160 [(0,.box (zF f))] [vI v,vp 0 0] (vb (hasV f.r.t v)) [(0,.box (zF f))]:=by
 refine fB Tryz.func160 rfl 9 fun w H B a h=>Jq 6 [] [(0,vI v),(1,vp 0 0),(3,vb false)] [(0,.box (zF f))] h fun a w h=>Jp 6 [(4,.call (SHas f.r.t v hf (by decide) (by decide)))] [(3,vb (hasV f.r.t v))] h fun a w h=>qV (rT (.c (cB (hasV f.r.t v))) h rfl ?_)
 rfl
theorem SIdxFG (pr:Int->Bool) (xs:List Int) (f:za0) (hf:∀ x ∈ xs,Fn Tryz.prog 160 [(0,.box (zF f))] [vI x,vp 0 0] (vb (pr x)) [(0,.box (zF f))]) (hl:xs.length<=9223372036854775807):Fn Tryz.prog 193 [(0,.box (zF f))] [(vIs xs),.t (.c (.fn (.func 160) [] [.ptr 0 0]))] (vI (zdk pr xs 0)) [(0,.box (zF f))]:=by
 refine fB Tryz.func193 rfl 19 fun w H B a h=>Jq 5 [] [(0,(vIs xs)),(1,.t (.c (.fn (.func 160) [] [.ptr 0 0]))),(4,vI 0)] [(0,.box (zF f))] h fun a w h=>qW (Je 5 [(1,.len (za4 1 zak xs))] [] [(7,vN xs.length),(8,vI 0)] h fun a w h=>qZ ?_)
 refine zbx (ι:=(Nat)) (fun j=>j<=xs.length/\zdk pr xs 0=zdk pr (xs.drop j) j)
   [4] (fun j=>[(8,vN j)])
   [] (fun j=>[])
   (fun j=>xs.length - j) 0 ?_ h ?_
 ·exact ⟨bE _,rfl⟩
 clear h;rintro j a w hI h;obtain ⟨hI1,hI2⟩:=hI;refine Je 5 [] [] [(9,vb (decide ((j:Int)<(xs.length:Int))))] h fun a w h=>qW (zae ((j:Int)<(xs.length:Int)) h (fun hc1 hc1'=>?_) (fun hc4 hc4'=>?_))
 ·refine qU (za1 (qW (qZ (Je 5 [] [9] [(5,vN j)] h fun a w h=>?_))));obtain ⟨x1,hx1⟩:=gl xs j;refine Je 5 [(3,.g (xD 14 12 zjl (za7 hx1 (f:=zak)) (OV.tmp 13 _))),(5,.g (Op.callV (d:=16) (t:=11) (cap:=[.ptr 0 0]) (args:=[vI x1]) (rs:=[(15,vI x1)]) (tys:=#[3]) (hf x1 (lM hx1)) me4_2 (OVs.cons (OV.tmp 15 _) (OVs.nil))))] [] [(16,vb (pr x1))] h fun a w h=>cS (pr x1) h (fun hc2=>?_) (fun hc3=>?_)
  ·refine Je 5 [] [5,16] [(4,vN j)] h fun a w h=>qV (za9 (za5 (za5 (za9 (za5 (rT (.c (cI (j:Int))) h rfl ?_))))));have hz:zdk pr xs 0=(j:Int):=by rw [hI2,zfo hx1,if_pos hc2]
   rw [hz];try rfl
  refine qU (za6 (za1 (Jf 5 [(0,.j1 j)] [5,16] [(8,vI ((j:Int)+1))] h fun a w h=>za1 (zaa (x:=j) (y:=j+1) h ?_ ?_))))
  ·exact ⟨by have:=zac hx1;omega,by rw [hI2,zfo hx1,if_neg (by rw [hc3];exact Bool.noConfusion)]⟩
  (try simp);omega
 refine exA (Jp 5 [] [(4,vI (-1))] h fun a w h=>qV (rT (.c (cI (-1))) h rfl ?_));have hz:zdk pr xs 0=-1:=by rw [hI2,cK (by omega)];rfl
 rw [hz];try rfl
theorem SAnyFG (pr:Int->Bool) (xs:List Int) (f:za0) (hf:∀ x ∈ xs,Fn Tryz.prog 160 [(0,.box (zF f))] [vI x,vp 0 0] (vb (pr x)) [(0,.box (zF f))]) (hl:xs.length<=9223372036854775807):Fn Tryz.prog 159 [(0,.box (zF f))] [(vIs xs),.t (.c (.fn (.func 160) [] [.ptr 0 0]))] (vb (xs.any pr)) [(0,.box (zF f))]:=by
 refine fB Tryz.func159 rfl 9 fun w H B a h=>Jq 5 [] [(0,(vIs xs)),(1,.t (.c (.fn (.func 160) [] [.ptr 0 0]))),(4,vb false)] [(0,.box (zF f))] h fun a w h=>Jp 5 [(2,.call (SIdxFG pr xs f hf  hl))] [(4,vb (decide (zdk pr xs 0>=0)))] h fun a w h=>qV (rT (.c (cB (decide (zdk pr xs 0>=0)))) h rfl ?_)
 rw [<- idxB_any];try rfl
theorem rel_okF {L:Nat} (h:f.okA n L) (e:f.kind=2):TOk n L f.r.t:=((za0.okA_eq _ _ _).1 h).1 e
theorem Lforget0 (f:za0) (vs:List Int) (ih:∀ g ∈ f.kids,Fn Tryz.prog 113 [] [(vF g),(vIs vs)] (vF (za0.forg vs g)) []) (hf:f.okA 300000000 3000) (hn:f.nodes<=1000000000000) (hlv:vs.length<=9223372036854775807):Fn Tryz.prog 113 [] [(vF f),(vIs vs)] (vF (za0.forg vs f)) []:=by
 have lkn:=zjv f;refine fB Tryz.func113 rfl 36 fun w H B a h=>Jq 0 [] [(1,(vIs vs)),(2,vp 0 0),(4,vp 1 0)] [(0,.box (zF f)),(1,.box zF0)] h fun a w h=>qW (Je 2 [] [] [(10,vb (f.kind == 2))] h fun a w h=>cS (f.kind == 2) h (fun hc1=>?_) (fun hc4=>?_))
 ·refine qW (Je 2 [(1,.g (Op.makeFs (d:=12) (fn:=.func 160) [(2,0,0)])),(2,.call (SAnyFG (hasV f.r.t) vs f (fun v _=>Lforget1 v f (rel_okF hf (by have:=hc1;simpa using this))) hlv))] [10] [(13,vb (vs.any (hasV f.r.t)))] h fun a w h=>cS (vs.any (hasV f.r.t)) h (fun hc2=>?_) (fun hc3=>?_))
  ·refine Jg 2 [(0,.call (zjf true))] [13] [] [] [(1,.box (zF (zcj true)))] h fun a w h=>qV (za5 (za5 (rA 1 (zF (zcj true)) h zdb rfl ?_)));rw [forg_t (by have:=hc1;simpa using this) hc2];try rfl
  refine qU (za1 (Jg 2 [] [13] [] [] [(1,.box (zF f))] h fun a w h=>qV (za5 (rA 1 (zF f) h zdb rfl ?_))));rw [forg_f (by have:=hc1;simpa using this) hc3];try rfl
 refine qU (za1 (Jg 2 [] [10] [(5,vp 2 0)] [] [(2,.box [cI f.kind,nCl,cB false,.d (nsl []),cB false,nCl])] h fun a w h=>qW (Jg 3 [(2,.len (za4 6 za0.d f.kids))] [2] [(20,(vFs f.kids)),(21,vN f.kids.length),(22,vI 0)] [0] [] h fun a w h=>qZ ?_)));replace h:=zgv 2 5 3 6 35 [cI f.kind,nCl,cB false,.d (nsl []),cB false,nCl] h
 refine zbx (ι:=(Nat)) (fun j=>j<=f.kids.length)
   [] (fun j=>[(22,vN j)])
   [] (fun j=>[(2,.box [cI f.kind,nCl,cB false,.d (nsl []),cB false,.own 3 ((f.kids.take j).map (za0.forg vs)).length]),(3,.row 35 6 (((f.kids.take j).map (za0.forg vs)).map za0.d))])
   (fun j=>f.kids.length - j) 0 ?_ h ?_
 ·exact bE _
 clear h;rintro j a w hI h;have lmj:((f.kids.take j).map (za0.forg vs)).length<=j:=by rw [bJ,cC];omega
 refine Je 4 [] [] [(23,vb (decide ((j:Int)<(f.kids.length:Int))))] h fun a w h=>qW (zae ((j:Int)<(f.kids.length:Int)) h (fun hc5 hc5'=>?_) (fun hc6 hc6'=>?_))
 ·refine qU (za1 (qW (qZ ?_)));obtain ⟨x3,hx3⟩:=gl f.kids j;refine Jg 4 [(0,.g (xD 24 20 zgm ((za7 hx3 (f:=za0.d)).trans (congrArg some (za0.d_eq x3))) (OV.tmp 22 _)))] [23] [(7,vp 4 0)] [] [(4,.box (zF x3))] h fun a w h=>Jh 5 [(4,.call (ih x3 (lM hx3))),(5,.g (bD 31 ([(za0.forg vs x3)].map za0.d) [(30,(vF (za0.forg vs x3)))] kb_1 (.cons (i:=0) (OV.tmp 30 _) (.nil)) (by simp only [bP,cG,cH,cJ,cD,za0.d_eq];kernel_rfl) (by simp [za0.d_len]))),(6,.g (aD 32 27 31 3 5 ((f.kids.take j).map (za0.forg vs)) [(za0.forg vs x3)] za0.d la_7 (by simp [za0.d_len])))] [7] [] [3,4] [(2,.box ([cI f.kind,nCl,cB false,.d (nsl []),cB false,.own 5 (((f.kids.take j).map (za0.forg vs))++[(za0.forg vs x3)]).length])),(5,.row 35 6 ((((f.kids.take j).map (za0.forg vs))++[(za0.forg vs x3)]).map za0.d))] h fun a w h=>za6 (za1 (Jf 6 [(0,.j1 j)] [] [(22,vI ((j:Int)+1))] h fun a w h=>za1 ?_));rw [show ((((f.kids.take j).map (za0.forg vs))++[(za0.forg vs x3)]):List za0)=((f.kids.take (j+1)).map (za0.forg vs)) from (zej hx3)] at h;replace h:=zcz 5 3 h;refine zaa (x:=j) (y:=j+1) h ?_ ?_
  ·have:=zac hx3;show j+1<=f.kids.length;omega
  show f.kids.length - (j+1)<f.kids.length - j;have:=zac hx3;omega
 refine exA (Jg 6 [] [1,5,20,21,22,23] [] [2] [(1,.box [cI f.kind,nCl,cB false,.d (nsl []),cB false,.own 3 ((f.kids.take j).map (za0.forg vs)).length])] h fun a w h=>qV ?_);rw [show (((f.kids.take j).map (za0.forg vs)):List za0)=(f.kids.map (za0.forg vs)) from (by rw [bK (by omega)])] at h;replace h:=zbi 1 1 3 [cI f.kind,nCl,cB false,.d (nsl []),cB false,.own 3 (f.kids.map (za0.forg vs)).length] h;replace h:=zie 3 6 35 ((f.kids.map (za0.forg vs)).map za0.d) h [(f.kids.map (za0.forg vs)).length] ⟨by first | exact (bJ _).symm | (simp;done) | (simp;omega),trivial⟩;refine rA 1 [cI f.kind,cPs [],cB false,.d (nsl []),cB false,cFs (f.kids.map (za0.forg vs))] h zdb rfl ?_;rw [forg_k (by have:=hc4;simpa using this)];try rfl
theorem Lforget (vs:List Int) (hlv:vs.length<=9223372036854775807) (f:za0):f.okA 300000000 3000->f.nodes<=1000000000000->Fn Tryz.prog 113 [] [(vF f),(vIs vs)] (vF (za0.forg vs f)) [] :=
 za0.ind (P:=fun f=>f.okA 300000000 3000->f.nodes<=1000000000000->Fn Tryz.prog 113 [] [(vF f),(vIs vs)] (vF (za0.forg vs f)) []) (fun k r ks ih hf hn=>Lforget0 ⟨k,r,ks⟩ vs (fun g hg=>ih g hg (kid_okA2 hf hg) (bF (kid_nodes9 (f:=⟨k,r,ks⟩) hg) hn)) hf hn hlv) f
theorem rel_psok {L:Nat} (h:TOk n L t) (hn:n<=1000000000:=by decide) (hL:L<=40000:=by decide):PsOk 40000 t.parts:=⟨bF h.len hn,fun p hp=>⟨(h.ps p hp).1,bF (h.ps p hp).2 hL⟩⟩
def za0.vars (f:za0):List Int:=f.fold fun k r _ vs=>if k=2 then ze1 r.t.parts else (cnt k vs).foldl (fun a v=>v.foldl zee a) []
theorem za0.vars_eq (f:za0):f.vars=if f.kind=2 then ze1 f.r.t.parts else (cnt f.kind f.kids).foldl (fun a g=>(za0.vars g).foldl zee a) []:=by
 have:=za0.fold_eq (fun k r _ (vs:List (List Int))=>if k=2 then ze1 r.t.parts else (cnt k vs).foldl (fun a v=>v.foldl zee a) []) f
 rw [zct,List.foldl_map] at this;exact this
theorem foldl_take_v {g:za0} (h:ks[j]?=some g):(ks.take (j+1)).foldl (fun a g=>(za0.vars g).foldl zee a) []=(za0.vars g).foldl zee ((ks.take j).foldl (fun a g=>(za0.vars g).foldl zee a) []):=by
 rw [bX,h,cX];rfl
theorem insF_len (vs a:List Int):(vs.foldl zee a).length<=a.length+vs.length:=by
 induction vs generalizing a with
 | nil=>exact bI _
 | cons v vs ih=>rw [bW,cM];have:=ih (zee a v);have:=zld a v;omega
theorem vf_len (gs:List za0) (a:List Int):(gs.foldl (fun a g=>(za0.vars g).foldl zee a) a).length<=a.length+(gs.map fun g=>g.vars.length).sum:=by
 induction gs generalizing a with
 | nil=>simp
 | cons g gs ih =>
  rw [bW,bP,b8]
  have h1:=ih (g.vars.foldl zee a)
  have h2:=insF_len g.vars a
  omega
theorem sum_mul40 {F G:za0->Nat}:∀ {xs:List za0}, (∀ x ∈ xs,F x<=40*G x)->(xs.map F).sum<=40*(xs.map G).sum
 | [],_=>bI _
 | x :: xs,h=>by
  rw [bP,bP,b8,b8]
  have:=h x (bS ..);have:=sum_mul40 (xs:=xs) fun y hy=>h y (b5 _ hy);omega
theorem vars_len (f:za0):f.okB 40 400->f.vars.length<=40*f.wid :=
 za0.ind (P:=fun f=>f.okB 40 400->f.vars.length<=40*f.wid) (fun k r ks ih hf=>by
  rw [za0.vars_eq,za0.wid_eq]
  split
  ·rename_i e
   have h1:=varsZ_len (za0.mk k r ks).r.t.parts
   have h2:=(((za0.okB_eq _ _ _).1 hf).1.1 e).len
   omega
  ·have h1:=vf_len (cnt k ks) []
   have h2:((cnt k ks).map fun g=>g.vars.length).sum<=40*((cnt k ks).map za0.wid).sum:=sum_mul40 fun g hg=>ih g (zb6 hg) (zg2 hf hg)
   show ((cnt k ks).foldl (fun a g=>(za0.vars g).foldl zee a) []).length<=40*(3+((cnt k ks).map za0.wid).sum)
   simp only [List.length_nil] at h1
   omega) f
theorem vars_room {x:za0} (hf:f.okB 40 400) (hx:(cnt f.kind f.kids)[j]?=some x):(((cnt f.kind f.kids).take j).foldl (fun a g=>(za0.vars g).foldl zee a) []).length+x.vars.length<=40*f.wid:=by
 have h1:=vf_len ((cnt f.kind f.kids).take j) []
 have h2:((cnt f.kind f.kids).map fun g=>g.vars.length).sum<=40*((cnt f.kind f.kids).map za0.wid).sum:=sum_mul40 fun g hg=>vars_len g (zg2 hf hg)
 have h3:=za0.wid_eq f
 have h4:(((cnt f.kind f.kids).take j).map fun g=>g.vars.length).sum+x.vars.length<=((cnt f.kind f.kids).map fun g=>g.vars.length).sum:=by
  obtain ⟨hj,rfl⟩:=cP.1 hx
  have e:(cnt f.kind f.kids)=(cnt f.kind f.kids).take j++(cnt f.kind f.kids)[j] :: (cnt f.kind f.kids).drop (j+1):=by rw [<- cY hj,cU]
  have e2:=congrArg (fun l:List za0=>(l.map fun g=>g.vars.length).sum) e
  simp only [cV,List.sum_append,bP,b8] at e2
  omega
 simp only [List.length_nil] at h1
 omega
def inB (s:zam) (f:za0):Bool:=match f.vars.getLast? with | none=>true | some v=>decide (v<(s.vars.length:Int))
theorem last_at {vs:List Int} {v:Int} (hj:vs[j]?=some v) (h:j+1=vs.length):vs.getLast?=some v:=by
 rw [List.getLast?_eq_getElem?, show vs.length - 1=j by omega];exact hj
theorem LR4HoldsW (r:za8) (vs:List ZI) (hM:M<=300) (hv:VOk M vs) (hr:TOk 1000000000 1000 r.t):Fn Tryz.prog 19 [] [(vR r),(vZs vs)] (vb (zb7 vs r)) []:=by
 refine fB Tryz.func19 rfl 17 fun w H B a h=>Jq 0 [] [(1,(vZs vs)),(2,vp 0 0),(4,vb false)] [(0,.box (zR_ r))] h fun a w h=>?_
 obtain ⟨r1,er1,vr1,or1,lr1⟩:=mkZ (v:=zdi r.t vs) (m:=1600) (bF (valT_len hr (by decide) hv) (by omega));refine Je 1 [(3,.call (Fn.cast (SRValue r.t vs hr (by decide) (by omega) hv) (congrArg vz er1.symm))),(4,.call (zdv r1 or1 (by omega)))] [1] [(5,vI (sgn r1.val))] h fun a w h=>qW (Jg 1 [] [2] [(12,vb r.eq)] [0] [] h fun a w h=>cS r.eq h (fun hc1=>?_) (fun hc2=>?_))
 ·refine Jg 1 [] [12] [(4,vb (sgn r1.val == 0))] [] [] h fun a w h=>qV (za5 (rT (.c (cB (sgn r1.val == 0))) h rfl ?_))
  have hz:zb7 vs r=(sgn r1.val == 0):=by
   unfold zb7;rw [<- vr1]
   cases he:r.eq <;> simp_all <;> omega
  rw [hz];try rfl
 refine qU (za1 (Jq 1 [] [(4,vb (decide (sgn r1.val>=0)))] [] h fun a w h=>qV (rT (.c (cB (decide (sgn r1.val>=0)))) h rfl ?_)))
 have hz:zb7 vs r=(decide (sgn r1.val>=0)):=by
  unfold zb7;rw [<- vr1]
  cases he:r.eq <;> simp_all <;> omega
 rw [hz];try rfl
theorem LR5HoldsW0 (f:za0) (vs:List ZI) (ih:∀ g ∈ f.kids,g.okB 1000000000 1000->Fn Tryz.prog 16 [] [(vF g),(vZs vs)] (vb (za0.holds vs g)) []) (hM:M<=300) (hv:VOk M vs) (hf:f.okB 1000000000 1000):Fn Tryz.prog 16 [] [(vF f),(vZs vs)] (vb (f.holds vs)) []:=by
 have hk:=zdo hf;refine fB Tryz.func16 rfl 65 fun w H B a h=>?_
 refine Jq 0 [] [(1,(vZs vs)),(2,vp 0 0),(4,vb false)] [(0,.box (zF f))] h fun a w h=>?_;refine qW (Je 1 [] [] [(8,vI f.kind)] h fun a w h=>?_);refine qZ (Je 1 [] [] [(9,vb (f.kind == 0))] h fun a w h=>?_);refine cS (f.kind == 0) h (fun hc1=>?_) (fun hc2=>?_)
 ·have hc1':=hc1;(try simp at hc1');refine Jq 1 [] [(4,vb true)] [] h fun a w h=>?_;refine qV (za9 (za5 ?_));refine rT (.c (cB true)) h rfl ?_;have hz:f.holds vs=(true):=by rw [za0.holds_eq,if_pos (by omega)];try rfl
  rw [hz];try rfl
 have hc2':=hc2;(try simp at hc2');refine Je 1 [] [9] [(11,vb (f.kind == 2))] h fun a w h=>?_;refine cS (f.kind == 2) h (fun hc3=>?_) (fun hc4=>?_)
 ·have hc3':=hc3;(try simp at hc3');refine Jq 1 [(3,.call (LR4HoldsW f.r vs hM hv (((za0.okB_eq _ _ f).1 hf).1.1 (by omega))))] [(4,vb (zb7 vs f.r))] [] h fun a w h=>?_;refine qV (za9 (za5 ?_));refine rT (.c (cB (zb7 vs f.r))) h rfl ?_;have hz:f.holds vs=(zb7 vs f.r):=by rw [za0.holds_eq,if_neg (by omega),if_pos (by omega)];try rfl
  rw [hz];try rfl
 have hc4':=hc4;(try simp at hc4');refine Je 1 [] [11] [(17,vb (f.kind == 3))] h fun a w h=>?_;refine cS (f.kind == 3) h (fun hc5=>?_) (fun hc8=>?_)
 ·have hc5':=hc5;(try simp at hc5')
  rcases bG (decide ((f.kids.length:Int)>0)) with hc6 | hc7
  ·have hc6':=dT hc6;obtain ⟨x2,hx2⟩:=gl f.kids 0;refine Jq 1 [(2,.len (za4 6 za0.d f.kids)),(3,.cmp (op:=.gtr) (m:=(f.kids.length:Int)) (n:=0) (b:=true) .i64 hc6),(7,.g (xD 26 25 zgm ((za7 hx2 (f:=za0.d)).trans (congrArg some (za0.d_eq x2))) (OV.const (.int .i64 0) rfl))),(10,.call (ih x2 (lM hx2) (zg2 hf (by unfold cnt;first | (rw [if_pos (by omega)];exact lM hx2) | (rw [if_neg (by omega),if_pos (by omega)];exact zet hx2)))))] [(4,vb (!(za0.holds vs x2)))] [] h fun a w h=>?_;refine qV (za9 (za5 ?_));refine rT (.c (cB (!(za0.holds vs x2)))) h rfl ?_;have hz:f.holds vs=(!(za0.holds vs x2)):=by rw [za0.holds_eq,if_neg (by omega),if_neg (by omega),if_pos (by omega)];obtain ⟨tl,htl⟩:=zk3 hx2;rw [htl];try rfl
   rw [hz];try rfl
  have hc7':=dF hc7;refine Jq 1 [(2,.len (za4 6 za0.d f.kids)),(3,.cmp (op:=.gtr) (m:=(f.kids.length:Int)) (n:=0) (b:=false) .i64 hc7)] [(4,vb false)] [] h fun a w h=>?_;refine qV (za9 (za5 ?_));refine rT (.c (cB false)) h rfl ?_;have hz:f.holds vs=(false):=by rw [za0.holds_eq,if_neg (by omega),if_neg (by omega),if_pos (by omega)];rw [dE.1 (show f.kids.length=0 by have:=dF hc7;omega)];try rfl
  rw [hz];try rfl
 have hc8':=hc8;(try simp at hc8');refine Je 1 [] [17] [(32,vb (f.kind == 4))] h fun a w h=>?_;refine cS (f.kind == 4) h (fun hc9=>?_) (fun hc14=>?_)
 ·have hc9':=hc9;(try simp at hc9');refine qW (Je 1 [] [8,32] [(5,vI 0)] h fun a w h=>?_);refine qZ ?_
  refine zbx (ι:=(Nat)) (fun j=>j<=f.kids.length/\(f.kids.take j).all (za0.holds vs)=true)
    [4] (fun j=>[(5,vN j)])
    [] (fun j=>[])
    (fun j=>f.kids.length - j) 0 ?_ h ?_
  ·exact ⟨bE _,rfl⟩
  clear h;rintro j a w hI h;obtain ⟨hI1,hI2⟩:=hI;refine qW (Je 1 [(3,.len (za4 6 za0.d f.kids))] [] [(38,vb (decide ((j:Int)<(f.kids.length:Int))))] h fun a w h=>?_);refine zae ((j:Int)<(f.kids.length:Int)) h (fun hc10 hc10'=>?_) (fun hc13 hc13'=>?_)
  ·refine qU (za1 (qW (qZ ?_)));obtain ⟨x4,hx4⟩:=gl f.kids j;refine Je 1 [(3,.g (xD 44 42 zgm ((za7 hx4 (f:=za0.d)).trans (congrArg some (za0.d_eq x4))) (OV.tmp 43 _))),(6,.call (ih x4 (lM hx4) (zg2 hf (by unfold cnt;first | (rw [if_pos (by omega)];exact lM hx4) | (rw [if_neg (by omega),if_pos (by omega)];exact zet hx4)))))] [38] [(48,vb (!(za0.holds vs x4)))] h fun a w h=>?_;refine cS (!(za0.holds vs x4)) h (fun hc11=>?_) (fun hc12=>?_)
   ·have hc11':=hc11;(try simp at hc11');refine Je 1 [] [48] [(4,vb false)] h fun a w h=>?_;refine qV (za9 (za5 (za5 (za9 (za5 (za9 (za5 ?_)))))));refine rT (.c (cB false)) h rfl ?_;have hz:f.holds vs=(false):=by rw [za0.holds_eq,if_neg (by omega),if_neg (by omega),if_neg (by omega),if_pos (by omega)];exact zbu hx4 (show (za0.holds vs x4)=false from by simpa using hc11)
    rw [hz];try rfl
   have hc12':=hc12;(try simp at hc12');refine qU (za6 (za1 (Jf 1 [(1,.j1 j)] [48] [(5,vI ((j:Int)+1))] h fun a w h=>?_)));refine za1 ?_;refine zaa (x:=j) (y:=j+1) h ?_ ?_
   ·exact ⟨by have:=zac hx4;omega,zcm hx4 hI2 (show (za0.holds vs x4)=true from by simpa using hc12)⟩
   show f.kids.length - (j+1)<f.kids.length - j;have:=zac hx4;omega
  refine exA (Jq 1 [] [(4,vb true)] [] h fun a w h=>?_);refine qV (za9 (za5 ?_));refine rT (.c (cB true)) h rfl ?_;have hz:f.holds vs=(true):=by rw [za0.holds_eq,if_neg (by omega),if_neg (by omega),if_neg (by omega),if_pos (by omega)];exact zd1 (dF hc13) hI2
  rw [hz];try rfl
 have hc14':=hc14;(try simp at hc14');refine Je 1 [] [8,32] [(49,vb (f.kind == 5))] h fun a w h=>?_;refine cS (f.kind == 5) h (fun hc15=>?_) (fun hc20=>?_)
 ·have hc15':=hc15;(try simp at hc15');refine Je 1 [] [49] [(6,vI 0)] h fun a w h=>?_;refine qZ ?_
  refine zbx (ι:=(Nat)) (fun j=>j<=f.kids.length/\(f.kids.take j).any (za0.holds vs)=false)
    [4] (fun j=>[(6,vN j)])
    [] (fun j=>[])
    (fun j=>f.kids.length - j) 0 ?_ h ?_
  ·exact ⟨bE _,rfl⟩
  clear h;rintro j a w hI h;obtain ⟨hI1,hI2⟩:=hI;refine qW (Je 1 [(3,.len (za4 6 za0.d f.kids))] [] [(55,vb (decide ((j:Int)<(f.kids.length:Int))))] h fun a w h=>?_);refine zae ((j:Int)<(f.kids.length:Int)) h (fun hc16 hc16'=>?_) (fun hc19 hc19'=>?_)
  ·refine qU (za1 (qW (qZ ?_)));obtain ⟨x6,hx6⟩:=gl f.kids j;refine Je 1 [(3,.g (xD 61 59 zgm ((za7 hx6 (f:=za0.d)).trans (congrArg some (za0.d_eq x6))) (OV.tmp 60 _))),(6,.call (ih x6 (lM hx6) (zg2 hf (by unfold cnt;first | (rw [if_pos (by omega)];exact lM hx6) | (rw [if_neg (by omega),if_pos (by omega)];exact zet hx6)))))] [55] [(64,vb (za0.holds vs x6))] h fun a w h=>?_;refine cS (za0.holds vs x6) h (fun hc17=>?_) (fun hc18=>?_)
   ·refine Je 1 [] [64] [(4,vb true)] h fun a w h=>?_;refine qV (za9 (za5 (za5 (za9 (za9 (za5 ?_))))));refine rT (.c (cB true)) h rfl ?_;have hz:f.holds vs=(true):=by rw [za0.holds_eq,if_neg (by omega),if_neg (by omega),if_neg (by omega),if_neg (by omega),if_pos (by omega)];exact zlr hx6 hc17
    rw [hz];try rfl
   refine qU (za6 (za1 (Jf 1 [(1,.j1 j)] [64] [(6,vI ((j:Int)+1))] h fun a w h=>?_)));refine za1 ?_;refine zaa (x:=j) (y:=j+1) h ?_ ?_
   ·exact ⟨by have:=zac hx6;omega,any_step hx6 hI2 hc18⟩
   show f.kids.length - (j+1)<f.kids.length - j;have:=zac hx6;omega
  refine wp_exit (zc0 (zc0 (zaw (za6 (za1 (Jq 1 [] [(4,vb false)] [] h fun a w h=>?_))))));refine qV ?_;refine rT (.c (cB false)) h rfl ?_;have hz:f.holds vs=(false):=by rw [za0.holds_eq,if_neg (by omega),if_neg (by omega),if_neg (by omega),if_neg (by omega),if_pos (by omega)];exact any_end (dF hc19) hI2
  rw [hz];try rfl
 have hc20':=hc20;(try simp at hc20');refine qU (za6 (za1 (Jq 1 [] [(4,vb false)] [] h fun a w h=>?_)));refine qV ?_;refine rT (.c (cB false)) h rfl ?_;have hz:f.holds vs=(false):=by rw [za0.holds_eq,if_neg (by omega),if_neg (by omega),if_neg (by omega),if_neg (by omega),if_neg (by omega)];try rfl
 rw [hz];try rfl
theorem zg9 (vs:List ZI) (hM:M<=300) (hv:VOk M vs) (f:za0):f.okB 1000000000 1000->Fn Tryz.prog 16 [] [(vF f),(vZs vs)] (vb (za0.holds vs f)) [] :=
 za0.ind (P:=fun f=>f.okB 1000000000 1000->Fn Tryz.prog 16 [] [(vF f),(vZs vs)] (vb (za0.holds vs f)) []) (fun k r ks ih hf=>LR5HoldsW0 ⟨k,r,ks⟩ vs (fun g hg h=>ih g hg h) hM hv hf) f
theorem LR5Vars0 (f:za0) (ih:∀ g ∈ (cnt f.kind f.kids),Fn Tryz.prog 32 [] [(vF g)] (vIs (za0.vars g)) []) (hf:f.okB 40 400) (hw:f.wid<=20000):Fn Tryz.prog 32 [] [(vF f)] (vIs (za0.vars f)) []:=by
 have lck:=zf2 hf;have lkm:=zdo hf;refine fB Tryz.func32 rfl 42 fun w H B a h=>Jq 0 [] [(1,vp 0 0),(2,vW zal)] [(0,.box (zF f))] h fun a w h=>Je 1 [(0,.g (Op.buildED (d:=8) tb_0))] [] [(3,(vIs []))] h fun a w h=>qW (Je 1 [] [] [(11,vb (f.kind == 2))] h fun a w h=>cS (f.kind == 2) h (fun hc1=>?_) (fun hc2=>?_))
 ·refine Je 1 [(3,.call (SVars f.r.t (rel_psok (rel_ok hf hc1))))] [11] [(2,(vIs (ze1 f.r.t.parts)))] h fun a w h=>qV (za5 (rT (.c (cIs (ze1 f.r.t.parts))) h rfl ?_));have hz:f.vars=ze1 f.r.t.parts:=by rw [za0.vars_eq,if_pos (by have:=hc1;simpa using this)]
  rw [hz];try rfl
 refine qU (za1 (Jg 1 [(1,.call (SKids f))] [1,11] [(4,(vFs (cnt f.kind f.kids)))] [0] [] h fun a w h=>qW (Jg 1 [] [] [(5,vI 0)] [] [] h fun a w h=>qZ ?_)))
 refine zbx (ι:=(Nat)) (fun j=>j<=(cnt f.kind f.kids).length)
   [] (fun j=>[(3,(vIs (((cnt f.kind f.kids).take j).foldl (fun a g=>(za0.vars g).foldl zee a) []))),(5,vN j)])
   [] (fun j=>[])
   (fun j=>(cnt f.kind f.kids).length - j) 0 ?_ h ?_
 ·exact bE _
 clear h;rintro j a w hI h;refine qW (Jg 1 [(2,.len (za4 6 za0.d (cnt f.kind f.kids)))] [] [(21,vb (decide ((j:Int)<((cnt f.kind f.kids).length:Int))))] [] [] h fun a w h=>zae ((j:Int)<((cnt f.kind f.kids).length:Int)) h (fun hc3 hc3'=>?_) (fun hc6 hc6'=>?_))
 ·refine qU (za1 (qW (qZ ?_)));obtain ⟨x3,hx3⟩:=gl (cnt f.kind f.kids) j;refine Jg 1 [(2,.g (xD 26 24 zgm ((za7 hx3 (f:=za0.d)).trans (congrArg some (za0.d_eq x3))) (OV.tmp 25 _))),(4,.call (ih x3 (lM hx3)))] [21] [(6,(vIs (za0.vars x3)))] [] [] h fun a w h=>Jg 1 [] [] [(7,vI 0)] [] [] h fun a w h=>qZ ?_
  refine zbx (ι:=(Nat)) (fun i=>i<=(za0.vars x3).length)
    [] (fun i=>[(3,(vIs (((za0.vars x3).take i).foldl zee (((cnt f.kind f.kids).take j).foldl (fun a g=>(za0.vars g).foldl zee a) [])))),(7,vN i)])
    [] (fun i=>[])
    (fun i=>(za0.vars x3).length - i) 0 ?_ h ?_
  ·exact bE _
  clear h;rintro i a w hI h;have lvi:=insF_len ((za0.vars x3).take i) (((cnt f.kind f.kids).take j).foldl (fun a g=>(za0.vars g).foldl zee a) []);have lti:((za0.vars x3).take i).length<=i:=by rw [cC];omega
  have lvr:=vars_room hf hx3;refine qW (Jg 1 [(2,.len (za4 1 zak (za0.vars x3)))] [] [(32,vb (decide ((i:Int)<((za0.vars x3).length:Int))))] [] [] h fun a w h=>zae ((i:Int)<((za0.vars x3).length:Int)) h (fun hc4 hc4'=>?_) (fun hc5 hc5'=>?_))
  ·refine qU (za1 (qW (qZ ?_)));obtain ⟨x5,hx5⟩:=gl (za0.vars x3) i;refine Jh 1 [(3,.g (xD 38 36 zjl (za7 hx5 (f:=zak)) (OV.tmp 37 _))),(5,.call (SInsert (((za0.vars x3).take i).foldl zee (((cnt f.kind f.kids).take j).foldl (fun a g=>(za0.vars g).foldl zee a) [])) x5 (by omega)))] [32] [(3,(vIs (zee (((za0.vars x3).take i).foldl zee (((cnt f.kind f.kids).take j).foldl (fun a g=>(za0.vars g).foldl zee a) [])) x5)))] [] [] h fun a w h=>za6 (za1 (Jh 1 [(1,.j1 i)] [] [(7,vI ((i:Int)+1))] [] [] h fun a w h=>za1 ?_));rw [show ((zee (((za0.vars x3).take i).foldl zee (((cnt f.kind f.kids).take j).foldl (fun a g=>(za0.vars g).foldl zee a) [])) x5):List Int)=(((za0.vars x3).take (i+1)).foldl zee (((cnt f.kind f.kids).take j).foldl (fun a g=>(za0.vars g).foldl zee a) [])) from (by rw [bX,hx5,cX];rfl)] at h;refine zaa (x:=i) (y:=i+1) h ?_ ?_
   ·have:=zac hx5;show i+1<=(za0.vars x3).length;omega
   show (za0.vars x3).length - (i+1)<(za0.vars x3).length - i;have:=zac hx5;omega
  refine wp_exit (zc0 (zc0 (zaw (za6 (za1 (Jh 1 [(1,.j1 j)] [6,7,32] [(5,vI ((j:Int)+1))] [] [] h fun a w h=>za1 ?_))))));rw [show ((((za0.vars x3).take i).foldl zee (((cnt f.kind f.kids).take j).foldl (fun a g=>(za0.vars g).foldl zee a) [])):List Int)=(((cnt f.kind f.kids).take (j+1)).foldl (fun a g=>(za0.vars g).foldl zee a) []) from (by rw [show i=(za0.vars x3).length by omega,List.take_length];exact (foldl_take_v hx3).symm)] at h;refine zaa (x:=j) (y:=j+1) h ?_ ?_
  ·have:=zac hx3;show j+1<=(cnt f.kind f.kids).length;omega
  show (cnt f.kind f.kids).length - (j+1)<(cnt f.kind f.kids).length - j;have:=zac hx3;omega
 refine exA (Jq 1 [] [(2,(vIs (((cnt f.kind f.kids).take j).foldl (fun a g=>(za0.vars g).foldl zee a) [])))] [] h fun a w h=>qV (rT (.c (cIs (((cnt f.kind f.kids).take j).foldl (fun a g=>(za0.vars g).foldl zee a) []))) h rfl ?_));have hz:f.vars=(((cnt f.kind f.kids).take j).foldl (fun a g=>(za0.vars g).foldl zee a) []):=by rw [za0.vars_eq,if_neg (by have:=hc2;simpa using this),bK (by omega)]
 rw [hz];try rfl
theorem LR5Vars (f:za0):f.okB 40 400->f.wid<=20000->Fn Tryz.prog 32 [] [(vF f)] (vIs (za0.vars f)) [] :=
 za0.ind (P:=fun f=>f.okB 40 400->f.wid<=20000->Fn Tryz.prog 32 [] [(vF f)] (vIs (za0.vars f)) []) (fun k r ks ih hf hw=>LR5Vars0 ⟨k,r,ks⟩ (fun g hg=>ih g (zb6 hg) (zg2 hf hg) (bF (wid_kid hg) hw)) hf hw) f
def Bel (m:Nat) (t:zag):Prop:=∀ v:Int,(m:Int)<=v->zah t.parts v=0
theorem plain_bel (h:Bel m t):∀ p ∈ (za2 t).parts,0<=p.v/\p.v<(m:Int):=fun p hp=>by
 obtain ⟨_,h2,_⟩:=zav t
 obtain ⟨h0,_,hne⟩:=h2 p hp
 refine ⟨h0,Int.lt_of_not_ge fun hv=>hne ?_⟩
 have e:(za2 t).parts=(ze1 t.parts).map fun v=>⟨v,ZI.of (zah t.parts v)⟩:=rfl
 rw [e] at hp
 obtain ⟨v,_,rfl⟩:=bL.1 hp
 show (ZI.of (zah t.parts v)).val=0
 rw [ZI.val_of];exact h v hv
theorem zdu (h:Bel m t):Bel m (za2 t):=fun v hv=>by rw [ze7];exact h v hv
theorem bel_add {s:zag} (hs:Bel m s) (ht:Bel m t):Bel m (zka s t):=fun v hv=>by rw [coef_add,hs v hv,ht v hv];rfl
theorem zh5 (h:Bel m t) (q:ZI):Bel m (zbh t q):=fun v hv=>by rw [coef_scale,h v hv,Int.zero_mul]
theorem bel_sub {s:zag} (hs:Bel m s) (ht:Bel m t):Bel m (subT s t):=bel_add hs (zh5 ht _)
theorem zk9 (m:Nat) (k:ZI):Bel m (zco k):=fun v _=>coef_num k v
theorem bel_var {v:Int} (h:v<(m:Int)):Bel m (zgp v):=fun u hu=>by rw [coef_var,if_neg (by omega)]
theorem Bel.mono (h:Bel m t) (hm:m<=m'):Bel m' t:=fun v hv=>h v (by omega)
def zd3 (m:Nat) (f:za0):Prop:=f.rels fun r=>Bel m r.t
theorem zdf (m:Nat) (f:za0):zd3 m f ↔ (f.kind=2->Bel m f.r.t)/\∀ g ∈ cnt f.kind f.kids,zd3 m g:=za0.rels_eq _ f
theorem zeb (m:Nat) (b:Bool):zd3 m (zcj b):=by
 rw [zdf];exact ⟨fun e=>by cases b <;> exact absurd e (by decide),fun g hg=>absurd (zb6 hg) (by show g ∉ [];exact cQ)⟩
theorem zh6 {r:za8} (h:Bel m r.t):zd3 m (zfa r):=by
 rw [zdf];exact ⟨fun _=>zdu h,fun g hg=>absurd (zb6 hg) (by show g ∉ [];exact cQ)⟩
theorem belF_each {t:za8->za8} (ht:∀ r,Bel m r.t->Bel m' (t (cpR r)).t) (f:za0):zd3 m f->zd3 m' (f.each t) :=
 za0.ind (P:=fun f=>zd3 m f->zd3 m' (f.each t)) (fun k r ks ih h=>by
  obtain ⟨h1,h2⟩:=(zdf _ _).1 h
  rw [za0.each_eq]
  show zd3 m' (zf0 t k r (ks.map (za0.each t)))
  unfold zf0
  split
  ·exact zeb _ _
  ·split
   ·rename_i e
    rw [zdf];exact ⟨fun _=>ht r (h1 e),fun g hg=>absurd (zb6 hg) (by show g ∉ [];exact cQ)⟩
   ·split
    ·rename_i hk2 _
     rw [zdf]
     refine ⟨fun e=>absurd e hk2,fun g hg=>?_⟩
     change g ∈ cnt k (cnt k (ks.map (za0.each t))) at hg
     rw [cnt_cnt,zct] at hg
     obtain ⟨q,hq,rfl⟩:=bL.1 hg
     exact ih q (zb6 hq) (h2 q hq)
    ·exact zeb _ _) f
theorem belF_cl (f:za0) (h:zd3 m f):zd3 m f.cl:=belF_each (t:=id) (fun r hr=>zdu hr) f h
theorem belF_kids (hk:k=3\/k=4\/k=5) (h:∀ f ∈ fs,zd3 m f):zd3 m ⟨k,zR,fs⟩:=by
 rw [zdf];exact ⟨fun e=>by change k=2 at e;omega,fun g hg=>h g (zb6 hg)⟩
theorem zfi (h:∀ f ∈ fs,zd3 m f):zd3 m (zca fs):=belF_kids (.inr (.inl rfl)) fun g hg=>by
 obtain ⟨q,hq,rfl⟩:=bL.1 hg;exact belF_cl q (h q hq)
theorem belF_deny (h:zd3 m f):zd3 m (zi7 f):=belF_kids (.inl rfl) fun g hg=>by
 rw [bN.1 hg];exact belF_cl f h
theorem zd3.mono (h:zd3 m f) (hm:m<=m'):zd3 m' f:=za0.rels_mono (fun _ hr=>Bel.mono hr hm) f h
theorem vars_mem {ps:List za3} {v:Int} (h0:0<=v) (h:zah ps v≠0):v ∈ ze1 ps:=by
 refine ((zkx ps ps [] List.Pairwise.nil).2 v).2 (.inr (Classical.byContradiction fun hn=>h (coefZ_far fun p hp e=>hn ⟨p,hp,e,h⟩)))
theorem insF_mem (x:Int):∀ (vs a:List Int),x ∈ vs.foldl zee a ↔ x ∈ a\/x ∈ vs
 | [],a=>by simp
 | v :: vs,a=>by
  rw [bW,insF_mem x vs (zee a v),insZ_eq,zle]
  simp only [cN]
  constructor
  ·rintro ((h | h) | h) <;> simp [h]
  ·rintro (h | h | h) <;> simp [h]
theorem insF_sr:∀ (vs a:List Int),SRi a->SRi (vs.foldl zee a)
 | [],_,h=>h
 | v :: vs,a,h=>by rw [bW];exact insF_sr vs _ (by rw [insZ_eq];exact insR_sr v h)
theorem varsG_mem (x:Int):∀ (gs:List za0) (a:List Int),x ∈ gs.foldl (fun a g=>(za0.vars g).foldl zee a) a ↔ x ∈ a\/∃ g ∈ gs,x ∈ g.vars
 | [],a=>by simp
 | g :: gs,a=>by
  rw [bW,varsG_mem x gs,insF_mem]
  constructor
  ·rintro ((h | h) | ⟨q,hq,h⟩)
   ·exact .inl h
   ·exact .inr ⟨g,bS .., h⟩
   ·exact .inr ⟨q,b5 _ hq,h⟩
  ·rintro (h | ⟨q,hq,h⟩)
   ·exact .inl (.inl h)
   ·rcases cN.1 hq with rfl | hq
    ·exact .inl (.inr h)
    ·exact .inr ⟨q,hq,h⟩
theorem varsG_sr:∀ (gs:List za0) (a:List Int),SRi a->SRi (gs.foldl (fun a g=>(za0.vars g).foldl zee a) a)
 | [],_,h=>h
 | g :: gs,a,h=>by rw [bW];exact varsG_sr gs _ (insF_sr _ _ h)
theorem vars_sr (f:za0):SRi f.vars:=by
 rw [za0.vars_eq]
 split
 ·exact (zkx _ _ [] List.Pairwise.nil).1
 ·exact varsG_sr _ [] List.Pairwise.nil
theorem belF_vars (f:za0):(∀ v ∈ f.vars,v<(m:Int))->zd3 m f :=
 za0.ind (P:=fun f=>(∀ v ∈ f.vars,v<(m:Int))->zd3 m f) (fun k r ks ih h=>by
  rw [za0.vars_eq] at h
  change ∀ v ∈ (if k=2 then ze1 r.t.parts else (cnt k ks).foldl (fun a g=>(za0.vars g).foldl zee a) []),v<(m:Int) at h
  rw [zdf]
  show (k=2->Bel m r.t)/\∀ g ∈ cnt k ks,zd3 m g
  refine ⟨fun e v hv=>?_,fun g hg=>ih g (zb6 hg) fun v hv=>?_⟩
  ·rw [if_pos e] at h
   exact Classical.byContradiction fun hn=>by have:=h v (vars_mem (by omega) hn);omega
  ·by_cases e:k=2
   ·rw [e] at hg;cases hg
   ·rw [if_neg e] at h
    exact h v ((varsG_mem v _ []).2 (.inr ⟨g,hg,hv⟩))) f
theorem last_max {l:List Int} {v:Int} (hs:SRi l) (h:l.getLast?=some v):∀ x ∈ l,x<=v:=fun x hx=>by
 obtain ⟨ys,rfl⟩:=List.getLast?_eq_some_iff.1 h
 rcases bV.1 hx with hx | hx
 ·exact Int.le_of_lt ((List.pairwise_append.1 hs).2.2 x hx v (List.mem_singleton_self _))
 ·rw [bN.1 hx];exact Int.le_refl _
theorem in_bel (h:inB s f=true):zd3 s.vars.length f:=by
 refine belF_vars f fun v hv=>?_
 unfold inB at h
 cases e:f.vars.getLast? with
 | none=>rw [List.getLast?_eq_none_iff.1 e] at hv;cases hv
 | some u =>
  rw [e] at h
  have h:=of_decide_eq_true h
  have:=last_max (vars_sr f) e v hv
  omega
structure ProS (s:zam):Prop where
  init:zd3 s.vars.length s.init
  act:∀ c ∈ s.acts,zd3 s.vars.length c.guard/\∀ m ∈ c.moves,Bel s.vars.length m.t
theorem snd_pro (hp:ProS s) (i:Int):zd3 s.vars.length (zab s i).1.guard/\∀ m ∈ (zab s i).1.moves,Bel s.vars.length m.t:=by
 unfold zab
 cases e:zdh s i with
 | none=>exact ⟨by rw [zdf];exact ⟨fun e=>absurd (show (0:Int)=2 from e) (by decide),fun g hg=>absurd (zb6 hg) (by show g ∉ [];exact cQ)⟩,fun m hm=>by cases hm⟩
 | some c =>
  refine hp.act c ?_
  unfold zdh at e
  split at e
  ·exact b7 e
  ·cases e
def wB (b:zaj) (z:Int):Bool:=!b.is_ || (decide (b.lo.val<=z) && decide (z<=b.hi.val))
theorem within_w (b:zaj) (n:ZI):zc3 b n=wB b n.val:=by unfold zc3 wB;rw [cmpZ_le,cmpZ_le]
theorem ge_holds (vs:List ZI) (l r:zag):(geF l r).holds vs=decide (zdi r vs<=zdi l vs):=by
 unfold geF leaR;rw [zhr,zfw rfl,zd4,val_sub];exact decide_eq_decide.2 (by omega)
theorem le_holds (vs:List ZI) (l r:zag):(leF l r).holds vs=decide (zdi l vs<=zdi r vs):=by
 unfold leF leaR;rw [zhr,zfw rfl,zd4,val_sub];exact decide_eq_decide.2 (by omega)
theorem bnd_holds (s:zam) (v:Nat) (t:zag) (vs:List ZI):(bndF s v t).all (za0.holds vs)=wB (zbl s v) (zdi t vs):=by
 unfold bndF wB
 split
 ·rename_i e
  rw [e,cL,cL,List.all_nil,ge_holds,le_holds,zih,zih,Bool.and_true];rfl
 ·rename_i e
  rw [show (zbl s v).is_=false by simpa using e];rfl
theorem all_flat {F:Nat->List za0} {p:za0->Bool} (n:Nat):((List.range n).flatMap F).all p=zjh n fun v=>(F v).all p:=by
 induction n with
 | zero=>rfl
 | succ n ih=>rw [zdr,List.all_append,ih];rfl
theorem bel_bnd (h:Bel m t):∀ g ∈ bndF s v t,zd3 m g:=fun g hg=>by
 unfold bndF at hg
 split at hg
 ·rcases cN.1 hg with rfl | hg
  ·exact zh6 (zdu (bel_sub h (zk9 _ _)))
  ·rw [bN.1 hg];exact zh6 (zdu (bel_sub (zk9 _ _) h))
 ·cases hg
theorem vals_at:zfk x.vals (v:Int)=((x.vals[v]?).getD zft).val:=by
 unfold zfk
 rw [if_pos (by omega),Int.toNat_natCast]
 cases x.vals[v]? <;> rfl
theorem val_mv {c:zap} {m:zai} (h:zif c v=some m):m ∈ c.moves:=by unfold zif at h;exact cR h
theorem valA_bel {c:zap} (hc:∀ m ∈ c.moves,Bel n m.t) (hv:v<n):Bel n (zcx c v).1:=by
 unfold zcx
 cases e:zif c v with
 | none=>exact bel_var (by omega)
 | some m =>
  show Bel n (if m.any=true then _ else _:zag × Bool).1
  split
  ·exact fun u _=>rfl
  ·exact zdu (hc m (val_mv e))
theorem valA_free (c:zap) (v:Nat):(zcx c v).2=!zbw c v:=by
 unfold zcx zbw
 cases zif c v with
 | none=>rfl
 | some m=>show (if m.any=true then _ else _:zag × Bool).2=!m.any;cases m.any <;> rfl
theorem valA_new {c:zap} (hf:zbw c v=false):zdi (zcx c v).1 x.vals=(zjs x c v).val:=by
 unfold zbw at hf
 unfold zcx zjs
 cases e:zif c v with
 | none=>show zdi (zgp (v:Int)) x.vals=(ZI.of ((x.vals[v]?).getD zft).val).val;rw [valT_var,vals_at,ZI.val_of]
 | some m =>
  rw [e] at hf
  show zdi (if m.any=true then _ else _:zag × Bool).1 x.vals=(if m.any=true then zft else ZI.of (zdi m.t x.vals)).val
  rw [show m.any=false from hf,if_neg Bool.noConfusion,if_neg Bool.noConfusion,ZI.val_of,zd4]
theorem canS_holds (s:zam) (x:StD) (c:zap) (v:Nat):(zfh s c v).all (za0.holds x.vals)=canAt s x c v:=by
 unfold zfh canAt
 rw [valA_free]
 cases hf:zbw c v with
 | true =>
  rw [if_neg (by simp),if_pos rfl]
  cases e:(zbl s v).is_ with
  | true=>rw [if_pos rfl,cL,List.all_nil,le_holds,zih,zih,Bool.and_true,bC,cmpZ_gt,<- decide_not];exact decide_eq_decide.2 (by omega)
  | false=>rw [if_neg Bool.noConfusion];rfl
 | false=>rw [Bool.not_false,if_pos rfl,if_neg Bool.noConfusion,bnd_holds,within_w,valA_new hf]
theorem canF_holds (s:zam) (x:StD) (c:zap):(zep s c).holds x.vals=(c.guard.holds x.vals && zjh s.vars.length (canAt s x c)):=by
 unfold zep canL
 rw [zj8,cL,all_flat]
 congr 1
 exact zhs fun v _=>canS_holds s x c v
theorem canF_bel {c:zap} (hg:zd3 s.vars.length c.guard) (hm:∀ m ∈ c.moves,Bel s.vars.length m.t):zd3 s.vars.length (zep s c):=zfi fun g hx=>by
 unfold canL at hx
 rcases cN.1 hx with rfl | hx
 ·exact hg
 ·refine zds (fun v hv g hg=>?_) g hx
  unfold zfh at hg
  split at hg
  ·exact bel_bnd (valA_bel hm hv) g hg
  ·split at hg
   ·rw [bN.1 hg];exact zh6 (zdu (bel_sub (zk9 _ _) (zk9 _ _)))
   ·cases hg
theorem enabled_beg {c:zap} (hf:zed s x=true) (hi:zdh s i=some c):zar s x c=((zgn s x.locs i).2 && c.guard.holds x.vals):=by
 have hc:(zab s i).1=c:=by unfold zab;rw [hi]
 have hb:(zab s i).2=sndB s c:=by unfold zab;rw [hi]
 show zar s x c=(((zab s i).2 && begB s x.locs (zab s i).1) && c.guard.holds x.vals)
 rw [hc,hb]
 unfold zar begB sndB
 rw [hf,bC]
 have hl:=zhm hf
 rw [decide_eq_true hl.1,bC]
 by_cases hp:0<=c.proc/\c.proc<(s.procs.length:Int)
 ·rw [decide_eq_true hp]
  cases e:((x.locs[c.proc.toNat]?).getD 0 == c.from_) with
  | false=>simp
  | true =>
   have e':(x.locs[c.proc.toNat]?).getD 0=c.from_:=by simpa using e
   have hloc:zks s x c.proc.toNat=true:=by
    unfold zed at hf
    rw [bU,bU] at hf
    exact zj9.1 hf.2.1 _ (by omega)
   unfold zks at hloc
   rw [e'] at hloc
   rw [hloc]
   simp [Bool.and_assoc,Bool.and_comm,Bool.and_left_comm]
 ·rw [decide_eq_false hp];simp
theorem beg_none {locs:List Int} (hi:zdh s i=none):(zgn s locs i).2=false:=by
 show ((zab s i).2 && _)=false;unfold zab;rw [hi];rfl
theorem stk_bel (hp:ProS s) (locs:List Int):zd3 s.vars.length (stkF s locs):=zfi (zds fun v _ g hg=>by
 unfold zgs at hg
 split at hg
 ·rw [bN.1 hg];exact belF_deny (canF_bel (snd_pro hp _).1 (snd_pro hp _).2)
 ·cases hg)
theorem mov_bel (h:Bel m t) (hn:n<=1000000) (hm:m<=1000000):Bel (m+n) (movZ t (zad (n:Int))):=fun v hv=>by
 have hc:zad (n:Int)=(n:Int):=by unfold zad;omega
 rw [hc,movZ,ze7]
 refine coefZ_far fun p hp e=>?_
 obtain ⟨q,hq,rfl⟩:=bL.1 hp
 have:=(plain_bel h q (List.mem_filter.1 hq).1).2
 change q.v+(n:Int)=v at e
 omega
theorem movF_bel (hn:n<=1000000) (hm:m<=1000000) (f:za0) (h:zd3 m f):zd3 (m+n) (f.each (zcy (n:Int))):=belF_each (t:=zcy (n:Int)) (fun r hr=>mov_bel (t:=(cpR r).t) (zdu hr) hn hm) f h
theorem off_nat (s:zam) (k:Nat):offZ s k=((k*s.vars.length:Nat):Int):=by unfold offZ;rw [Int.natCast_mul]
theorem at_bel {k:Nat} (hv:s.vars.length<=8) (hk:k<=4096) (hm:m<=1000000) (f:za0) (h:zd3 m f):zd3 (m+k*s.vars.length) (atF s f k):=by
 unfold atF;rw [off_nat]
 have hb:k*s.vars.length<=4096*8:=Nat.mul_le_mul hk hv
 exact movF_bel (by omega) hm f h
def za0.fk (f:za0):Prop:=f.fold fun k r ks hs=>((k=4\/k=5\/ks=[])/\(k=2->cpR r=r))/\∀ h ∈ hs,h
theorem za0.fk_eq (f:za0):f.fk ↔ ((f.kind=4\/f.kind=5\/f.kids=[])/\(f.kind=2->cpR f.r=f.r))/\∀ g ∈ f.kids,g.fk:=by
 have:=za0.fold_eq (fun k r ks (hs:List Prop)=>((k=4\/k=5\/ks=[])/\(k=2->cpR r=r))/\∀ h ∈ hs,h) f
 unfold za0.fk
 rw [this]
 refine and_congr_right fun _=>⟨fun h g hg=>h _ (bL.2 ⟨g,hg,rfl⟩),fun h p hp=>?_⟩
 obtain ⟨g,hg,rfl⟩:=bL.1 hp
 exact h g hg
theorem fk_tru (b:Bool):(zcj b).fk:=by rw [za0.fk_eq];exact ⟨⟨.inr (.inr rfl),fun e=>by cases b <;> exact absurd e (by decide)⟩,fun g hg=>by cases hg⟩
theorem tight_cp (r:za8):cpR (zas r).1=(zas r).1:=by
 unfold zas
 split
 ·rfl
 ·split
  ·rfl
  ·unfold cpR
   show (⟨za2 (if _ then zki (zck r.t) else zck r.t),r.eq⟩:za8)=_
   split
   ·show (⟨za2 (zki (zck r.t)),r.eq⟩:za8)=_
    unfold zki zbh;rw [zbr]
   ·rw [shr_plain]
theorem fk_tight (r:za8):(zax r).fk:=by
 unfold zax;split
 ·rw [za0.fk_eq];exact ⟨⟨.inr (.inr rfl),fun _=>tight_cp r⟩,fun g hg=>by cases hg⟩
 ·exact fk_tru _
theorem zh0 (hk:k=4\/k=5):∀ (fs out:List za0),(∀ g ∈ out,g.fk)->(∀ g ∈ fs,g.fk)->(zbb k fs out).fk
 | [],out,h,_=>by
  unfold zbb
  match out with
  | []=>exact fk_tru _
  | [g]=>exact h g (bS ..)
  | g :: q :: l=>rw [za0.fk_eq];exact ⟨⟨by rcases hk with hk | hk;exact .inl hk;exact .inr (.inl hk),fun e=>by exfalso;change k=2 at e;omega⟩,h⟩
 | f :: fs,out,h,h2=>by
  rw [zbb]
  have hf:=h2 f (bS ..)
  have hfs:∀ g ∈ fs,g.fk:=fun g hg=>h2 g (b5 _ hg)
  split
  ·exact hf
  ·split
   ·exact zh0 hk fs out h hfs
   ·split
    ·exact zh0 hk fs _ (fun g hg=>(bV.1 hg).elim (h g) fun hg=>((za0.fk_eq _).1 hf).2 g hg) hfs
    ·exact zh0 hk fs _ (fun g hg=>(bV.1 hg).elim (h g) fun hg=>by rw [bN.1 hg];exact hf) hfs
theorem flat_fk (f:za0):∀ d,(f.flat d).fk :=
 za0.ind (P:=fun f=>∀ d,(f.flat d).fk) (fun k r ks ih d=>by
  rw [za0.flat_eq]
  show (zgg k r (ks.map za0.flat) d).fk
  unfold zgg
  split
  ·exact fk_tru _
  ·split
   ·split
    ·refine zh0 (.inr rfl) _ [] (fun g hg=>by cases hg) fun g hg=>?_
     obtain ⟨q,hq,rfl⟩:=bL.1 hg
     exact fk_tight q
    ·exact fk_tight r
   ·split
    ·cases ks with
     | nil=>exact fk_tru _
     | cons g gs=>exact ih g (bS ..) (!d)
    ·split
     ·rename_i h4
      refine zh0 (by cases d <;> simp <;> omega) _ [] (fun g hg=>by cases hg) fun g hg=>?_
      rw [List.map_map] at hg
      obtain ⟨q,hq,rfl⟩:=bL.1 hg
      exact ih q hq d
     ·exact fk_tru _) f
theorem cmpRl_cpl (p r:za8):zde (cpR p) r=zde p r:=by
 unfold zde cpR cmpT
 simp only [zbr];rfl
def za0.rd (ps:List za8) (bs:List Bool) (f:za0):Bool:=f.fold fun k r _ hs=>if k=0 then true else if k=2 then (bs[(atR ps r).toNat]?).getD false else if k=4 then hs.all id else if k=5 then hs.any id else false
end S
end Go.Proofs.YtlcijejaplagbaaGreat
