/-
  Part 5 of the proof of the statement RefineTight. It holds for every input.
-/
import Derived.Test.YtlcijejaplagbaaGreatRT4
import Derived.Test.YtlcijejaplagbaaGreatRT2
import Derived.SizedLaws
import Derived.Shelf.Sort.Plain
import Derived.Ground.Names2Prog
import Derived.Shelf.Slices.CompactI
import Derived.Shelf.Slices.In.SortNone
import Derived.Test.YtlcijejaplagbaaGreatProg
import Derived.Test.YtlcijejaplagbaaGreatRT3
import Derived.Lib.RowBridge
import Derived.Test.YtlcijejaplagbaaGreatRT1
import Derived.OrdersIn
import Derived.RangeFuncFrom
import Derived.RangeFuncLeaves
import Derived.RangeFuncCalls
set_option maxRecDepth 100000
set_option maxHeartbeats 20000000
open Go.RowKit
open Nat renaming zero_le->bC,le_refl->bG,le_trans->bK,le_succ->b9,mul_le_mul_left->cP,pow_le_pow_right->cQ,lt_of_lt_of_le->cV,le_of_eq->cZ
open List renaming mem_singleton->bE,map_cons->bF,length_map->bI,length_cons->bN,map_nil->bP,sum_cons->bS,append_nil->bU,mem_cons_self->bV,flatten_cons->bW,flatten_nil->bX,mem_cons->b5,mem_map->b6,length_append->b7,all_eq_true->b8,take_of_length_le->cC,mem_cons_of_mem->cD,mem_of_getElem?->cF,mem_append->cH,map_map->cK,drop_of_length_le->cL,foldl_cons->cM,mem_of_mem_take->cN,sum_nil->cO,length_replicate->cR,length_take->cT,mem_range->cU,length_nil->cW,take_append_drop->cX,find?_cons->cY,getElem?_cons_succ->c6,getElem?_eq_getElem->c7,getElem_zipWith->c8,mem_of_find?_eq_some->dA
open Bool renaming eq_false_or_eq_true->bJ,true_and->bL,and_eq_true->cJ
open Int renaming toNat_of_nonneg->cG
open Array renaming getElem?_eq_some_iff->dB,getD_eq_getD_getElem?->dC
namespace Go.Proofs.YtlcijejaplagbaaGreat
namespace S
variable {M n m v k:Nat} {s:zaz} {i:Int} {ps:List za8} {f:za0} {α β:Type} {t:zaf}
theorem kf_0:SlT Tryz.prog 23 132 5:=SlT.mk' Tryz.underlying23 (by kernel_rfl)
theorem kf_5:SlT Tryz.prog 36 102 3:=SlT.mk' Tryz.underlying36 (by kernel_rfl)
def zi4:ZI:=⟨false,[]⟩
def bnd0:zan:=⟨false,zi4,zi4⟩
def zed (s:zaz) (v:Nat):zan:=(s.bounds[v]?).getD bnd0
def withinB (b:zan) (n:ZI):Bool:=!b.is_ || (decide (zbr b.lo.val n.val<=0) && decide (zbr n.val b.hi.val<=0))
def nlocs (s:zaz) (i:Nat):Nat:=((s.procs[i]?).map fun p=>p.locs.length).getD 0
def locOk (s:zaz) (x:StD) (i:Nat):Bool:=decide (0<=(x.locs[i]?).getD 0/\(x.locs[i]?).getD 0<(nlocs s i:Int))
def valOk (s:zaz) (x:StD) (v:Nat):Bool:=withinB (zed s v) ((x.vals[v]?).getD zi4)
def fits (s:zaz) (x:StD):Bool:=decide (x.locs.length=s.procs.length/\x.vals.length=s.vars.length) && (allN x.locs.length (locOk s x) && allN x.vals.length (valOk s x))
def first (s:zaz) (x:StD):Bool:=(fits s x && !x.locs.any fun l=>l != 0) && s.init.holds x.vals
def sameS (x y:StD):Bool:=decide (x.locs=y.locs) && decide (x.vals.map ZI.val=y.vals.map ZI.val)
def ZOk (L:Nat) (z:ZI):Prop:=Lb z.abs/\z.abs.length<=L
structure ziv (L:Nat) (a:zb9):Prop where
  guard:a.guard.lb/\a.guard.ok L
  len:a.moves.length<=20
  mv:∀ m ∈ a.moves,TOk 20 L m.t
structure zcc (L:Nat) (s:zaz):Prop where
  vars:s.vars.length<=8
  bnds:s.bounds.length<=20
  procs:s.procs.length<=6
  acts:s.acts.length<=20
  bnd:∀ b ∈ s.bounds,ZOk L b.lo/\ZOk L b.hi
  init:s.init.lb/\s.init.ok L
  act:∀ a ∈ s.acts,ziv L a
structure StOk (M:Nat) (x:StD):Prop where
  locs:x.locs.length<=10
  vals:x.vals.length<=10
  val:∀ z ∈ x.vals,ZOk M z
theorem StOk.mono {M':Nat} {x:StD} (h:StOk M x) (hm:M<=M'):StOk M' x:=⟨h.locs,h.vals,fun z hz=>⟨(h.val z hz).1,bK (h.val z hz).2 hm⟩⟩
theorem ZOk.zero {L:Nat}:ZOk L zi4:=⟨zel,bC _⟩
theorem bnd_ok {L:Nat} (h:zcc L s) (v:Nat):ZOk L (zed s v).lo/\ZOk L (zed s v).hi:=by
 unfold zed
 cases hb:s.bounds[v]? with
 | none=>exact ⟨ZOk.zero,ZOk.zero⟩
 | some b=>exact h.bnd b (cF hb)
theorem ki_0:Sz Tryz.prog 73 10 true:=Sz.mk' (by kernel_rfl) Tryz.underlying73 _ rfl
theorem ki_1:SlT Tryz.prog 37 73 10:=SlT.mk' Tryz.underlying37 (by kernel_rfl)
theorem ki_2:SlT Tryz.prog 71 75 5:=SlT.mk' Tryz.underlying71 (by kernel_rfl)
theorem ki_5:Sz Tryz.prog 75 5 true:=Sz.mk' (by kernel_rfl) Tryz.underlying75 _ rfl
def zh3 (s:zaz) (i:Int):Option zb9:=if 0<=i then s.acts[i.toNat]? else none
def form0:za0:=⟨0,⟨⟨[],zi4⟩,false⟩,[]⟩
def act0:zb9:=⟨0,0,0,form0,[]⟩
def mv0:zao:=⟨0,false,⟨[],zi4⟩⟩
def mvAt (a:zb9) (v:Nat):Option zao:=a.moves.find? fun m=>m.v == (v:Int)
def freeAt (a:zb9) (v:Nat):Bool:=match mvAt a v with | some m=>m.any | none=>false
def newAt (x:StD) (a:zb9) (v:Nat):ZI:=match mvAt a v with | none=>ZI.of ((x.vals[v]?).getD zi4).val | some m=>if m.any=true then zi4 else ZI.of (valT m.t x.vals)
def zh9 (s:zaz) (m:zao):Bool:=decide (m.v>=0) && decide (m.v<(s.vars.length:Int))
def enabled (s:zaz) (x:StD) (c:zb9):Bool:=(fits s x && (decide (0<=c.proc/\c.proc<(s.procs.length:Int)) && ((x.locs[c.proc.toNat]?).getD 0 == c.from_) && decide (0<=c.to_/\c.to_<(nlocs s c.proc.toNat:Int)))) && (!(c.moves.any fun m=>!zh9 s m) && c.guard.holds x.vals)
theorem actAt_some {a:zb9} (h:zh3 s i=some a):∃ k:Nat,i=(k:Int)/\s.acts[k]?=some a:=by
 unfold zh3 at h
 split at h
 ·exact ⟨i.toNat,(cG (by assumption)).symm,h⟩
 ·cases h
theorem actAt_none (h:zh3 s i=none):i<0\/(s.acts.length:Int)<=i:=by
 unfold zh3 at h
 split at h
 ·have:=List.getElem?_eq_none_iff.1 h;omega
 ·omega
theorem le5_3:ElZ Tryz.prog 67 4 1:=ElZ.mk' Tryz.underlying67 _ _ rfl rfl (by kernel_rfl) (by kernel_rfl) (by kernel_rfl) (by decide)
theorem le5_9:SlT Tryz.prog 67 4 1:=SlT.mk' Tryz.underlying67 (by kernel_rfl)
structure zdk where
  locs:List Int
  bits:List Bool
def zdk.d (x:zdk):List D:=[.sl 1 (x.locs.map zb0),.sl 1 (x.bits.map zdr)]
def litF (r:za8) (b:Bool):za0:=if b=true then zfb r else zim (zfb r)
def zhz (ps:List za8):Prop:=ps.length<=1000/\∀ r ∈ ps,TokR 10 r
theorem lit_okB {r:za8} (hr:TOk 20 10 r.t) (b:Bool):(litF r b).okB 400000000 100:=by
 have h:(zfb r).okB 20 11:=zhi (hr.plain (by decide))
 unfold litF
 split
 ·exact za0.okB_mono (by decide) (by decide) _ h
 ·exact zge (by decide) (by simp) fun g hg=>by rw [bE.1 hg];exact za0.okB_mono (by decide) (by decide) _ (okB_cl (by decide) _ h)
def zdq (ps:List za8) (bs:List Bool):List za0:=List.zipWith litF ps bs
def zau (ps:List za8) (bs:List Bool):za0:=zc5 (zdq ps bs)
theorem cube_at {bs:List Bool} {j:Nat} {r:za8} {b:Bool} (h:ps[j]?=some r) (k:bs[j]?=some b):(zdq ps bs).take j++[litF r b]=(zdq ps bs).take (j+1):=by
 have:(zdq ps bs)[j]?=some (litF r b):=by unfold zdq;rw [List.getElem?_zipWith,h,k]
 rw [List.take_add_one,this];rfl
theorem zgj (ps:List za8) (bs:List Bool):(zdq ps bs).length=min ps.length bs.length:=by unfold zdq;exact List.length_zipWith ..
theorem cube_okB (hps:zhz ps) (bs:List Bool):∀ g ∈ zdq ps bs,g.okB 400000000 100:=fun g hg=>by
 obtain ⟨j,hj,rfl⟩:=List.getElem_of_mem hg
 have hl:=zgj ps bs
 have e:(zdq ps bs)[j]'hj=litF (ps[j]'(by omega)) (bs[j]'(by omega)):=c8 ..
 rw [e]
 exact lit_okB (hps.2 _ (List.getElem_mem _)) _
theorem Lliteral (r:za8) (b:Bool) (hr:TOk 20 10 r.t):Fn Tryz.prog 68 [] [(vR r),vb b] (vF (litF r b)) []:=by
 refine fB Tryz.func68 rfl 11 fun w H B a h=>Jq 0 [] [(1,vb b),(2,vp 0 0),(4,vp 1 0)] [(0,.box (zR_ r)),(1,.box zF0)] h fun a w h=>qW (Je 2 [] [1] [(5,vb b)] h fun a w h=>cS b h (fun hc1=>?_) (fun hc2=>?_))
 ·refine Jg 2 [(1,.call (LOf r (hr.mono (by decide) (by decide))))] [5] [] [] [(1,.box (zF (zfb r)))] h fun a w h=>qV (za5 (rA 1 (zF (zfb r)) h zcq rfl ?_));unfold litF;rw [hc1];try rfl
 refine qU (za2 (Jq 2 [(1,.call (LOf r (hr.mono (by decide) (by decide)))),(2,.call (LDeny (zfb r) (za0.okB_mono (by decide) (by decide) _ (zhi (n:=20) (L:=11) (hr.plain (by decide))))))] [(4,vp 1 0)] [(1,.box (zF (zim (zfb r))))] h fun a w h=>qV (rA 1 (zF (zim (zfb r))) h zcq rfl ?_)));unfold litF;rw [hc2];try rfl
theorem LCube (ps:List za8) (bs:List Bool) (hps:zhz ps) (hb:bs.length<=9223372036854775807):Fn Tryz.prog 33 [] [(vRs ps),vS 1 (bs.map zdr)] (vF (zau ps bs)) []:=by
 have lps:=hps.1;have lcb:=zgj ps bs;refine fB Tryz.func33 rfl 30 fun w H B a h=>Jq 5 [] [(0,(vRs ps)),(1,vS 1 (bs.map zdr)),(4,vp 5 0)] [(5,.box zF0)] h fun a w h=>Je 6 [] [] [(5,vW zaj)] h fun a w h=>qW (Je 6 [(1,.len (za4 4 za8.d ps)),(3,.len (za4 1 zdr bs)),(4,.g (Op.min2 (d:=11) (tys:=#[3,3]) (k:=.i64) (m:=(ps.length:Int)) (n:=(bs.length:Int)) (r:=((min ps.length bs.length:Nat):Int)) (OV.tmp 8 _) (OV.tmp 10 _) (by omega)))] [] [(11,vI ((min ps.length bs.length:Nat):Int)),(12,vI 0)] h fun a w h=>qZ ?_)
 replace h:=zeg 5 0 6 6 35 (vW zaj) h
 refine zc7 (ι:=(Nat)) (fun j=>j<=min ps.length bs.length)
   [] (fun j=>[(5,vO 6 ((zdq ps bs).take j).length),(12,vN j)])
   [] (fun j=>[(6,.row 35 6 (((zdq ps bs).take j).map za0.d))])
   (fun j=>min ps.length bs.length - j) 0 ?_ h ?_
 ·exact bC _
 clear h;rintro j a w hI h;have lcj:((zdq ps bs).take j).length<=j:=by rw [cT];omega
 refine Je 7 [] [] [(13,vb (decide ((j:Int)<((min ps.length bs.length:Nat):Int))))] h fun a w h=>qW (zae ((j:Int)<((min ps.length bs.length:Nat):Int)) h (fun hc1 hc1'=>?_) (fun hc2 hc2'=>?_))
 ·refine qU (za2 (qW (qZ (Je 7 [] [13] [(6,vN j)] h fun a w h=>?_))));obtain ⟨x1,hx1⟩:=gl ps j;obtain ⟨x2,hx2⟩:=gl bs j;refine Jh 7 [(3,.g (xD 18 16 kc_3 (za7 hx1 (f:=za8.d)) (OV.tmp 17 _))),(7,.g (xD 22 20 le5_9 (za7 hx2 (f:=zdr)) (OV.tmp 21 _))),(9,.call (Lliteral x1 x2 (hps.2 x1 (lM hx1)))),(10,.g (bD 25 ([(litF x1 x2)].map za0.d) [(24,(vF (litF x1 x2)))] kb_1 (.cons (i:=0) (OV.tmp 24 _) (.nil)) (by simp only [bF,bP,bW,bX,bU,za0.d_eq];kernel_rfl) (by simp [za0.d_len]))),(11,.g (aD 26 15 25 6 7 ((zdq ps bs).take j) [(litF x1 x2)] za0.d la_7 (by simp [za0.d_len])))] [6] [(5,vO 7 (((zdq ps bs).take j)++[(litF x1 x2)]).length)] [6] [(7,.row 35 6 ((((zdq ps bs).take j)++[(litF x1 x2)]).map za0.d))] h fun a w h=>za6 (za2 (Jf 8 [(0,.j1 j)] [] [(12,vI ((j:Int)+1))] h fun a w h=>za2 ?_));rw [show ((((zdq ps bs).take j)++[(litF x1 x2)]):List za0)=((zdq ps bs).take (j+1)) from (cube_at hx1 hx2)] at h;replace h:=zcz 7 6 h;refine zab (x:=j) (y:=j+1) h ?_ ?_
  ·have:=zac hx1;have:=zac hx2;show j+1<=min ps.length bs.length;omega
  show min ps.length bs.length - (j+1)<min ps.length bs.length - j;have:=zac hx1;have:=zac hx2;omega
 refine exA ?_;rw [show (((zdq ps bs).take j):List za0)=(zdq ps bs) from (by rw [cC (by rw [zgj];omega)])] at h;replace h:=zia 6 6 35 ((zdq ps bs).map za0.d) h [(zdq ps bs).length] ⟨by first | exact (bI _).symm | (simp;done) | (simp;omega),trivial⟩;refine Jq 8 [(1,.call (LAll (zdq ps bs) (fun g hg=>za0.okB_mono (by decide) (by decide) _ (cube_okB hps bs g hg)) (by omega)))] [(4,vp 5 0)] [(5,.box (zF (zau ps bs)))] h fun a w h=>qV (rA 5 (zF (zau ps bs)) h zcq rfl ?_);rfl
theorem lf6_2:zbd Tryz.prog 166:=zbd.mk' (by kernel_rfl)
theorem Lindex1b (p r:za8) (hp:TOk 200000000 3000 p.t) (hr:TOk 200000000 3000 r.t):Fn Tryz.prog 166 [(10,.box (zR_ r))] [(vR p),vp 10 0] (vb (zc3 p r == 0)) [(10,.box (zR_ r))]:=by
 refine fB Tryz.func166 rfl 7 fun w H B a h=>Jq 12 [] [(1,vp 10 0),(2,vp 12 0),(3,vb false)] [(10,.box (zR_ r)),(12,.box (zR_ p))] h fun a w h=>Jg 13 [(2,.call (LSame p r hp hr (by decide) (by decide)))] [1,2] [(3,vb (zc3 p r == 0))] [12] [] h fun a w h=>qV (rT (.c (cB (zc3 p r == 0))) h rfl ?_)
 rfl
theorem LIdxO (xs:List za8) (r:za8) (hf:∀ x ∈ xs,TOk 200000000 3000 x.t) (hr:TOk 200000000 3000 r.t) (hl:xs.length<=1000000000000):Fn Tryz.prog 165 [(9,.row 32 4 (xs.map za8.d)),(10,.box (zR_ r))] [vO 9 xs.length,.t (.c (.fn (.func 166) [] [.ptr 10 0]))] (vI (zde (fun p=>zc3 p r == 0) xs 0)) [(9,.row 32 4 (xs.map za8.d)),(10,.box (zR_ r))]:=by
 refine fB Tryz.func165 rfl 19 fun w H B a h=>Jq 12 [] [(0,vO 9 xs.length),(1,.t (.c (.fn (.func 166) [] [.ptr 10 0]))),(4,vI 0)] [(9,.row 32 4 (xs.map za8.d)),(10,.box (zR_ r))] h fun a w h=>qW (Je 12 [] [] [(7,vN xs.length),(8,vI 0)] h fun a w h=>qZ ?_)
 refine zc7 (ι:=(Nat)) (fun j=>j<=xs.length/\zde (fun p=>zc3 p r == 0) xs 0=zde (fun p=>zc3 p r == 0) (xs.drop j) j)
   [4] (fun j=>[(8,vN j)])
   [] (fun j=>[])
   (fun j=>xs.length - j) 0 ?_ h ?_
 ·exact ⟨bC _,rfl⟩
 clear h;rintro j a w hI h;obtain ⟨hI1,hI2⟩:=hI;refine Je 12 [] [] [(9,vb (decide ((j:Int)<(xs.length:Int))))] h fun a w h=>qW (zae ((j:Int)<(xs.length:Int)) h (fun hc1 hc1'=>?_) (fun hc4 hc4'=>?_))
 ·refine qU (za2 (qW (qZ (Je 12 [] [9] [(5,vN j)] h fun a w h=>?_))));obtain ⟨x1,hx1⟩:=gl xs j;refine Je 12 [(3,.g (xO 14 12 9 xs.length j kc_3 (OV.tmp 13 _))),(4,.g (Op.loadR_agg (d:=15) (t:=14) (n:=9) (i:=j) (fo:=0) (rty:=32) (es:=4) (xs:=[.sl 3 (x1.t.parts.map za3.d),.raw (.bool x1.t.k.neg),nsl x1.t.k.abs,.raw (.bool x1.eq)]) zj5 rfl (za7 hx1 (f:=za8.d)) rfl rfl)),(5,.g (Op.callV (d:=16) (t:=11) (cap:=[.ptr 10 0]) (args:=[(vR x1)]) (rs:=[(15,(vR x1))]) (tys:=#[32]) (Lindex1b x1 r (hf x1 (lM hx1)) hr) lf6_2 (OVs.cons (OV.tmp 15 _) (OVs.nil))))] [] [(16,vb (zc3 x1 r == 0))] h fun a w h=>cS (zc3 x1 r == 0) h (fun hc2=>?_) (fun hc3=>?_)
  ·refine Je 12 [] [5,16] [(4,vN j)] h fun a w h=>qV (za9 (za5 (za5 (za9 (za5 (rT (.c (cI (j:Int))) h rfl ?_))))));have hz:zde (fun p=>zc3 p r == 0) xs 0=(j:Int):=by rw [hI2,zfx hx1,if_pos hc2]
   rw [hz];try rfl
  refine qU (za6 (za2 (Jf 12 [(0,.j1 j)] [5,16] [(8,vI ((j:Int)+1))] h fun a w h=>za2 (zab (x:=j) (y:=j+1) h ?_ ?_))))
  ·exact ⟨by have:=zac hx1;omega,by rw [hI2,zfx hx1,if_neg (by rw [hc3];exact Bool.noConfusion)]⟩
  show xs.length - (j+1)<xs.length - j;have:=zac hx1;omega
 refine exA (Jp 12 [] [(4,vI (-1))] h fun a w h=>qV (rT (.c (cI (-1))) h rfl ?_));have hz:zde (fun p=>zc3 p r == 0) xs 0=-1:=by rw [hI2,cL (by omega)];rfl
 rw [hz];try rfl
theorem LindexO (xs:List za8) (r:za8) (hf:∀ x ∈ xs,TOk 200000000 3000 x.t) (hr:TOk 200000000 3000 r.t) (hl:xs.length<=1000000000000):Fn Tryz.prog 117 [(9,.row 32 4 (xs.map za8.d))] [vO 9 xs.length,(vR r)] (vI (zde (fun p=>zc3 p r == 0) xs 0)) [(9,.row 32 4 (xs.map za8.d))]:=by
 refine fB Tryz.func117 rfl 8 fun w H B a h=>Jq 10 [] [(0,vO 9 xs.length),(3,vp 10 0),(4,vI 0)] [(9,.row 32 4 (xs.map za8.d)),(10,.box (zR_ r))] h fun a w h=>Jg 11 [(1,.g (Op.makeFs (d:=6) (fn:=.func 166) [(3,10,0)])),(2,.call (LIdxO xs r hf hr hl))] [0,3] [(4,vI (zde (fun p=>zc3 p r == 0) xs 0))] [10] [] h fun a w h=>qV (rT (.c (cI (zde (fun p=>zc3 p r == 0) xs 0))) h rfl ?_)
 rfl
def za0.okA (n L:Nat) (f:za0):Prop:=f.fold fun k r _ ps=>(k=2->TOk n L r.t)/\∀ p ∈ ps,p
theorem za0.okA_eq (n L:Nat) (f:za0):f.okA n L ↔ (f.kind=2->TOk n L f.r.t)/\∀ g ∈ f.kids,g.okA n L:=by
 have:=za0.fold_eq (fun k r _ (ps:List Prop)=>(k=2->TOk n L r.t)/\∀ p ∈ ps,p) f
 unfold za0.okA
 rw [this]
 refine and_congr_right fun _=>⟨fun h g hg=>h _ (b6.2 ⟨g,hg,rfl⟩),fun h p hp=>?_⟩
 obtain ⟨g,hg,rfl⟩:=b6.1 hp
 exact h g hg
theorem za0.okA_mono {L n' L':Nat} (hn:n<=n') (hL:L<=L') (f:za0):f.okA n L->f.okA n' L' :=
 za0.ind (P:=fun f=>f.okA n L->f.okA n' L') (fun k r ks ih hf=>by
  rw [za0.okA_eq] at hf ⊢
  exact ⟨fun e=>(hf.1 e).mono hn hL,fun g hg=>ih g hg (hf.2 g hg)⟩) f
theorem okA_tru (n L:Nat) (b:Bool):(zck b).okA n L:=by
 rw [za0.okA_eq];cases b <;> exact ⟨fun e=>absurd e (by decide),fun g hg=>by cases hg⟩
theorem okA_atom {L:Nat} {r:za8} (h:TOk n L r.t):(za0.mk 2 r []).okA n L:=by
 rw [za0.okA_eq];exact ⟨fun _=>h,fun g hg=>by cases hg⟩
theorem zf2 {L:Nat} {k:Int} (hk:k=4\/k=5):∀ (fs out:List za0),(∀ g ∈ out,g.okA n L)->(∀ g ∈ fs,g.okA n L)->(zbx k fs out).okA n L
 | [],out,h,_=>by
  unfold zbx
  match out with
  | []=>exact okA_tru _ _ _
  | [g]=>exact h g (bV ..)
  | g :: q :: l=>rw [za0.okA_eq];exact ⟨fun e=>absurd e (by show k≠2;omega),h⟩
 | f :: fs,out,h,h2=>by
  rw [zbx]
  have hf:=h2 f (bV ..)
  have hfs:∀ g ∈ fs,g.okA n L:=fun g hg=>h2 g (cD _ hg)
  split
  ·exact hf
  ·split
   ·exact zf2 hk fs out h hfs
   ·split
    ·exact zf2 hk fs _ (fun g hg=>(cH.1 hg).elim (h g) fun hg=>((za0.okA_eq _ _ _).1 hf).2 g hg) hfs
    ·exact zf2 hk fs _ (fun g hg=>(cH.1 hg).elim (h g) fun hg=>by rw [bE.1 hg];exact hf) hfs
theorem tight_okA {L:Nat} {r:za8} (h:TOk n L r.t) (hn:n<=1000000000):(zb2 r).okA n (L+4):=by
 unfold zb2
 split
 ·exact okA_atom (tight_tok h hn)
 ·exact okA_tru _ _ _
def atR (ps:List za8) (r:za8):Int:=zde (fun p=>zc3 p r == 0) ps 0
def gathK (k:Int) (r:za8) (gs:List (List za8->List za8)) (ps:List za8):List za8:=if k=2/\atR ps r<0 then ps++[cpR r] else gs.foldl (fun a g=>g a) ps
def za0.gath (f:za0):List za8->List za8:=f.fold fun k r _ gs ps=>gathK k r gs ps
theorem za0.gath_eq (f:za0) (ps:List za8):f.gath ps=if f.kind=2/\atR ps f.r<0 then ps++[cpR f.r] else f.kids.foldl (fun a g=>g.gath a) ps:=by
 have:=congrFun (za0.fold_eq (fun k r _ (gs:List (List za8->List za8)) ps=>gathK k r gs ps) f) ps
 refine this.trans ?_
 unfold gathK
 rw [List.foldl_map];rfl
theorem gath_len (f:za0):∀ ps,(f.gath ps).length<=ps.length+f.nodes :=
 za0.ind (P:=fun f=>∀ ps,(f.gath ps).length<=ps.length+f.nodes) (fun k r ks ih ps=>by
  rw [za0.gath_eq,za0.nodes_eq]
  split
  ·rw [b7];show ps.length+1<=ps.length+(1+_);omega
  ·have:∀ (xs:List za0),(∀ g ∈ xs,g ∈ ks)->∀ qs:List za8,(xs.foldl (fun a g=>g.gath a) qs).length<=qs.length+(xs.map za0.nodes).sum:=fun xs=>by
    induction xs with
    | nil=>intro _ qs;exact bG _
    | cons x xs ihx =>
     intro hx qs
     rw [cM,bF,bS]
     have h1:=ihx (fun g hg=>hx g (cD _ hg)) (x.gath qs)
     have h2:=ih x (hx x (bV ..)) qs
     omega
   have:=this ks (fun g hg=>hg) ps
   show (ks.foldl _ ps).length<=ps.length+(1+(ks.map za0.nodes).sum)
   omega) f
theorem zjs (xs:List za0) (qs:List za8):(xs.foldl (fun a g=>g.gath a) qs).length<=qs.length+(xs.map za0.nodes).sum:=by
 induction xs generalizing qs with
 | nil=>exact bG _
 | cons x xs ih =>
  rw [cM,bF,bS]
  have h1:=ih (x.gath qs)
  have h2:=gath_len x qs
  omega
theorem gath_all {P:za8->Prop} (hP:∀ r,TOk 200000000 2900 r.t->P (cpR r)) (f:za0):f.okA 200000000 2900->∀ ps,(∀ r ∈ ps,P r)->∀ r ∈ f.gath ps,P r :=
 za0.ind (P:=fun f=>f.okA 200000000 2900->∀ ps,(∀ r ∈ ps,P r)->∀ r ∈ f.gath ps,P r) (fun k r ks ih hf ps hps=>by
  obtain ⟨h1,h2⟩:=(za0.okA_eq _ _ _).1 hf
  rw [za0.gath_eq]
  split
  ·rename_i e
   intro q hq
   rcases cH.1 hq with hq | hq
   ·exact hps q hq
   ·rw [bE.1 hq];exact hP r (h1 e.1)
  ·have:∀ (xs:List za0),(∀ g ∈ xs,g ∈ ks)->∀ qs:List za8,(∀ r ∈ qs,P r)->∀ r ∈ xs.foldl (fun a g=>g.gath a) qs,P r:=fun xs=>by
    induction xs with
    | nil=>intro _ qs h;exact h
    | cons x xs ihx =>
     intro hx qs h
     rw [cM]
     exact ihx (fun g hg=>hx g (cD _ hg)) _ (ih x (hx x (bV ..)) (h2 x (hx x (bV ..))) qs h)
   exact this ks (fun g hg=>hg) ps hps) f
theorem gath_tok (hf:f.okA 200000000 2900) (hps:∀ r ∈ ps,TOk 200000000 3000 r.t):∀ r ∈ f.gath ps,TOk 200000000 3000 r.t:=gath_all (P:=fun r=>TOk 200000000 3000 r.t) (fun r hr=>(hr.plain (by decide)).mono (by decide) (by decide)) f hf ps hps
theorem zjt {ks:List za0} {j:Nat} {g:za0} (h:ks[j]?=some g):(ks.take (j+1)).foldl (fun a g=>g.gath a) ps=g.gath ((ks.take j).foldl (fun a g=>g.gath a) ps):=by
 rw [List.take_add_one,h,List.foldl_append];rfl
theorem gath_new (h:f.kind=2) (hi:atR ps f.r<0):f.gath ps=ps++[cpR f.r]:=by rw [za0.gath_eq,if_pos ⟨h,hi⟩]
theorem zjr (h:¬ (f.kind=2/\atR ps f.r<0)):f.gath ps=f.kids.foldl (fun a g=>g.gath a) ps:=by rw [za0.gath_eq,if_neg h]
theorem lh8_3:ElT Tryz.prog 40 32 4 64:=ElT.mk' Tryz.underlying40 _ _ rfl rfl (by kernel_rfl) (by kernel_rfl) (by kernel_rfl) (by decide) (by decide)
theorem rel_okA (h:f.okA 200000000 2900) (e:(f.kind == 2)=true):TOk 200000000 3000 f.r.t:=(((za0.okA_eq _ _ _).1 h).1 (by simpa using e)).mono (by decide) (by decide)
theorem zig {g:za0} (h:f.okA 200000000 2900) (hg:g ∈ f.kids):g.okA 200000000 2900:=((za0.okA_eq _ _ _).1 h).2 g hg
theorem fold_ok {ks:List za0} (h:∀ g ∈ ks,g.okA 200000000 2900) (hps:∀ r ∈ ps,TOk 200000000 3000 r.t):∀ r ∈ ks.foldl (fun a g=>g.gath a) ps,TOk 200000000 3000 r.t:=by
 induction ks generalizing ps with
 | nil=>exact hps
 | cons x xs ih=>rw [cM];exact ih (fun g hg=>h g (cD _ hg)) (gath_tok (h x (bV ..)) hps)
theorem zha (ks:List za0) (j:Nat) {x:za0} (h:ks[j]?=some x):((ks.take j).map za0.nodes).sum+x.nodes<=(ks.map za0.nodes).sum:=by
 have e:ks=ks.take j++ks.drop j:=(cX j ks).symm
 have h1:=ze1 h
 have h2:(ks.map za0.nodes).sum=((ks.take j).map za0.nodes).sum+((ks.drop j).map za0.nodes).sum:=by rw [<- zfc,cX]
 omega
theorem take_le (ks:List za0) (j:Nat):((ks.take j).map za0.nodes).sum<=(ks.map za0.nodes).sum:=by
 have h2:(ks.map za0.nodes).sum=((ks.take j).map za0.nodes).sum+((ks.drop j).map za0.nodes).sum:=by rw [<- zfc,cX]
 omega
theorem Lgather9 (ps:List za8) (f:za0) (ih:∀ g ∈ f.kids,∀ ps:List za8,(∀ r ∈ ps,TOk 200000000 3000 r.t)->ps.length+g.nodes<=1000000000000->Fn Tryz.prog 80 [(13,.row 32 4 (ps.map za8.d))] [vO 13 ps.length,(vF g)] (vO 14 (za0.gath g ps).length) [(14,.row 32 4 ((za0.gath g ps).map za8.d))]) (hf:f.okA 200000000 2900) (hps:∀ r ∈ ps,TOk 200000000 3000 r.t) (hl:ps.length+f.nodes<=1000000000000):Fn Tryz.prog 80 [(9,.row 32 4 (ps.map za8.d))] [vO 9 ps.length,(vF f)] (vO 14 (za0.gath f ps).length) [(14,.row 32 4 ((za0.gath f ps).map za8.d))]:=by
 have hnf:=za0.nodes_eq f;have lkn:=zfu f.kids;refine fB Tryz.func80 rfl 40 fun w H B a h=>Jq 20 [] [(0,vO 9 ps.length),(3,vp 20 0),(4,vW zaj)] [(9,.row 32 4 (ps.map za8.d)),(20,.box (zF f))] h fun a w h=>qW ?_
 rcases bJ (f.kind == 2) with hc1 | hc6
 ·refine Je 21 [(2,.cmp (op:=.eql) (m:=f.kind) (n:=2) (b:=true) .i64 hc1),(7,.call (LindexO ps f.r hps (rel_okA hf hc1) (by omega)))] [] [(16,vb (decide ((atR ps f.r)<0)))] h fun a w h=>zae ((atR ps f.r)<0) h (fun hc2 hc2'=>?_) (fun hc3 hc3'=>?_)
  ·refine Jg 21 [(4,.call (zdb f.r.t (rel_okA hf hc1) (by decide) (by decide))),(9,.g (bD 26 ([(za8.mk (za1 f.r.t) f.r.eq)].map za8.d) [(25,vG ((zT (za1 f.r.t))++[cB f.r.eq]))] kc_5 (.cons (i:=0) (OV.tmp 25 _) (.nil)) (by kernel_rfl) (by simp [za8.d]))),(10,.g (aD 27 17 26 9 21 ps [(za8.mk (za1 f.r.t) f.r.eq)] za8.d lh8_3 (by simp [za8.d])))] [16] [(4,vO 21 (ps++[(za8.mk (za1 f.r.t) f.r.eq)]).length)] [9] [(21,.row 32 4 ((ps++[(za8.mk (za1 f.r.t) f.r.eq)]).map za8.d))] h fun a w h=>qV (za5 ?_);replace h:=cvM [] [(4,vO 21 (za0.gath f ps).length)] [] [(21,.row 32 4 ((za0.gath f ps).map za8.d))] (by rw [<- show ((ps++[(za8.mk (za1 f.r.t) f.r.eq)]):List za8)=(za0.gath f ps) from (gath_new (by have:=hc1;simpa using this) (dT hc2)).symm];kernel_rfl) h;replace h:=zcz 21 14 h;refine rT (.c (.own 14 (za0.gath f ps).length)) h rfl ?_;rfl
  refine qU (za2 (qW (Jg 22 [(2,.len (za4 6 za0.d f.kids))] [3,16] [(29,(vFs f.kids)),(30,vN f.kids.length),(31,vI 0)] [20] [] h fun a w h=>qZ ?_)));replace h:=zcz 9 13 h
  refine zc7 (ι:=(Nat)) (fun j=>j<=f.kids.length)
    [] (fun j=>[(0,vO 13 ((f.kids.take j).foldl (fun a g=>g.gath a) ps).length),(31,vN j)])
    [] (fun j=>[(13,.row 32 4 (((f.kids.take j).foldl (fun a g=>g.gath a) ps).map za8.d))])
    (fun j=>f.kids.length - j) 0 ?_ h ?_
  ·exact bC _
  clear h;rintro j a w hI h;have lfj:=zjs (f.kids.take j) ps;have ltj:=take_le f.kids j;refine Je 22 [] [] [(32,vb (decide ((j:Int)<(f.kids.length:Int))))] h fun a w h=>qW (zae ((j:Int)<(f.kids.length:Int)) h (fun hc4 hc4'=>?_) (fun hc5 hc5'=>?_))
  ·refine qU (za2 (qW (qZ ?_)));obtain ⟨x3,hx3⟩:=gl f.kids j;refine Jg 22 [(0,.g (xD 33 29 zh5 ((za7 hx3 (f:=za0.d)).trans (congrArg some (za0.d_eq x3))) (OV.tmp 31 _)))] [32] [(6,vp 22 0)] [] [(22,.box (zF x3))] h fun a w h=>Jh 23 [(2,.call (ih x3 (lM hx3) ((f.kids.take j).foldl (fun a g=>g.gath a) ps) (fold_ok (fun q hq=>zig hf (cN hq)) hps) (by have:=zha f.kids j hx3;omega)))] [6] [(0,vO 14 (za0.gath x3 ((f.kids.take j).foldl (fun a g=>g.gath a) ps)).length)] [13,22] [(14,.row 32 4 ((za0.gath x3 ((f.kids.take j).foldl (fun a g=>g.gath a) ps)).map za8.d))] h fun a w h=>za6 (za2 (Jf 23 [(0,.j1 j)] [] [(31,vI ((j:Int)+1))] h fun a w h=>za2 ?_));replace h:=zcz 14 13 h;replace h:=cvM [] [(0,vO 13 ((f.kids.take (j+1)).foldl (fun a g=>g.gath a) ps).length)] [] [(13,.row 32 4 (((f.kids.take (j+1)).foldl (fun a g=>g.gath a) ps).map za8.d))] (by rw [<- show ((za0.gath x3 ((f.kids.take j).foldl (fun a g=>g.gath a) ps)):List za8)=((f.kids.take (j+1)).foldl (fun a g=>g.gath a) ps) from (zjt hx3).symm];kernel_rfl) h;refine zab (x:=j) (y:=j+1) h ?_ ?_
   ·have:=zac hx3;show j+1<=f.kids.length;omega
   show f.kids.length - (j+1)<f.kids.length - j;have:=zac hx3;omega
  refine exA (Jp 23 [] [(4,vO 13 ((f.kids.take j).foldl (fun a g=>g.gath a) ps).length)] h fun a w h=>qV ?_);replace h:=cv (fun z_:List za8=>F.of [(4,vO 13 z_.length)] [(13,.row 32 4 (z_.map za8.d))]) (show (((f.kids.take j).foldl (fun a g=>g.gath a) ps):List za8)=(za0.gath f ps) from (by rw [cC (by omega)];exact (zjr (fun e=>dF hc3 e.2)).symm)) (h.conv (by kernel_rfl));replace h:=zcz 13 14 h;refine rT (.c (.own 14 (za0.gath f ps).length)) h rfl ?_;rfl
 refine Je 23 [(2,.cmp (op:=.eql) (m:=f.kind) (n:=2) (b:=false) .i64 hc6)] [] [(16,vb false)] h fun a w h=>zas h (qU (za2 (qW (Jg 23 [(2,.len (za4 6 za0.d f.kids))] [3,16] [(29,(vFs f.kids)),(30,vN f.kids.length),(31,vI 0)] [20] [] h fun a w h=>qZ ?_))));replace h:=zcz 9 13 h
 refine zc7 (ι:=(Nat)) (fun j=>j<=f.kids.length)
   [] (fun j=>[(0,vO 13 ((f.kids.take j).foldl (fun a g=>g.gath a) ps).length),(31,vN j)])
   [] (fun j=>[(13,.row 32 4 (((f.kids.take j).foldl (fun a g=>g.gath a) ps).map za8.d))])
   (fun j=>f.kids.length - j) 0 ?_ h ?_
 ·exact bC _
 clear h;rintro j a w hI h;have lfj:=zjs (f.kids.take j) ps;have ltj:=take_le f.kids j;refine Je 23 [] [] [(32,vb (decide ((j:Int)<(f.kids.length:Int))))] h fun a w h=>qW (zae ((j:Int)<(f.kids.length:Int)) h (fun hc7 hc7'=>?_) (fun hc8 hc8'=>?_))
 ·refine qU (za2 (qW (qZ ?_)));obtain ⟨x5,hx5⟩:=gl f.kids j;refine Jg 23 [(0,.g (xD 33 29 zh5 ((za7 hx5 (f:=za0.d)).trans (congrArg some (za0.d_eq x5))) (OV.tmp 31 _)))] [32] [(6,vp 23 0)] [] [(23,.box (zF x5))] h fun a w h=>Jh 24 [(2,.call (ih x5 (lM hx5) ((f.kids.take j).foldl (fun a g=>g.gath a) ps) (fold_ok (fun q hq=>zig hf (cN hq)) hps) (by have:=zha f.kids j hx5;omega)))] [6] [(0,vO 14 (za0.gath x5 ((f.kids.take j).foldl (fun a g=>g.gath a) ps)).length)] [13,23] [(14,.row 32 4 ((za0.gath x5 ((f.kids.take j).foldl (fun a g=>g.gath a) ps)).map za8.d))] h fun a w h=>za6 (za2 (Jf 24 [(0,.j1 j)] [] [(31,vI ((j:Int)+1))] h fun a w h=>za2 ?_));replace h:=zcz 14 13 h;replace h:=cvM [] [(0,vO 13 ((f.kids.take (j+1)).foldl (fun a g=>g.gath a) ps).length)] [] [(13,.row 32 4 (((f.kids.take (j+1)).foldl (fun a g=>g.gath a) ps).map za8.d))] (by rw [<- show ((za0.gath x5 ((f.kids.take j).foldl (fun a g=>g.gath a) ps)):List za8)=((f.kids.take (j+1)).foldl (fun a g=>g.gath a) ps) from (zjt hx5).symm];kernel_rfl) h;refine zab (x:=j) (y:=j+1) h ?_ ?_
  ·have:=zac hx5;show j+1<=f.kids.length;omega
  show f.kids.length - (j+1)<f.kids.length - j;have:=zac hx5;omega
 refine exA (Jp 24 [] [(4,vO 13 ((f.kids.take j).foldl (fun a g=>g.gath a) ps).length)] h fun a w h=>qV ?_);replace h:=cv (fun z_:List za8=>F.of [(4,vO 13 z_.length)] [(13,.row 32 4 (z_.map za8.d))]) (show (((f.kids.take j).foldl (fun a g=>g.gath a) ps):List za8)=(za0.gath f ps) from (by rw [cC (by omega)];exact (zjr (fun e=>by have:=hc6;simp at this;omega)).symm)) (h.conv (by kernel_rfl));replace h:=zcz 13 14 h;refine rT (.c (.own 14 (za0.gath f ps).length)) h rfl ?_;rfl
theorem Lgather13 (ps:List za8) (f:za0) (ih:∀ g ∈ f.kids,∀ ps:List za8,(∀ r ∈ ps,TOk 200000000 3000 r.t)->ps.length+g.nodes<=1000000000000->Fn Tryz.prog 80 [(9,.row 32 4 (ps.map za8.d))] [vO 9 ps.length,(vF g)] (vO 14 (za0.gath g ps).length) [(14,.row 32 4 ((za0.gath g ps).map za8.d))]) (hf:f.okA 200000000 2900) (hps:∀ r ∈ ps,TOk 200000000 3000 r.t) (hl:ps.length+f.nodes<=1000000000000):Fn Tryz.prog 80 [(13,.row 32 4 (ps.map za8.d))] [vO 13 ps.length,(vF f)] (vO 14 (za0.gath f ps).length) [(14,.row 32 4 ((za0.gath f ps).map za8.d))]:=by
 have hnf:=za0.nodes_eq f;have lkn:=zfu f.kids;refine fB Tryz.func80 rfl 40 fun w H B a h=>?_
 replace h:=zcz 13 9 h;refine Jg 20 [] [1] [(3,vp 20 0),(4,vW zaj)] [] [(20,.box (zF f))] h fun a w h=>qW ?_
 rcases bJ (f.kind == 2) with hc1 | hc6
 ·refine Je 21 [(2,.cmp (op:=.eql) (m:=f.kind) (n:=2) (b:=true) .i64 hc1),(7,.call (LindexO ps f.r hps (rel_okA hf hc1) (by omega)))] [] [(16,vb (decide ((atR ps f.r)<0)))] h fun a w h=>zae ((atR ps f.r)<0) h (fun hc2 hc2'=>?_) (fun hc3 hc3'=>?_)
  ·refine Jg 21 [(4,.call (zdb f.r.t (rel_okA hf hc1) (by decide) (by decide))),(9,.g (bD 26 ([(za8.mk (za1 f.r.t) f.r.eq)].map za8.d) [(25,vG ((zT (za1 f.r.t))++[cB f.r.eq]))] kc_5 (.cons (i:=0) (OV.tmp 25 _) (.nil)) (by kernel_rfl) (by simp [za8.d]))),(10,.g (aD 27 17 26 9 21 ps [(za8.mk (za1 f.r.t) f.r.eq)] za8.d lh8_3 (by simp [za8.d])))] [16] [(4,vO 21 (ps++[(za8.mk (za1 f.r.t) f.r.eq)]).length)] [9] [(21,.row 32 4 ((ps++[(za8.mk (za1 f.r.t) f.r.eq)]).map za8.d))] h fun a w h=>qV (za5 ?_);replace h:=cvM [] [(4,vO 21 (za0.gath f ps).length)] [] [(21,.row 32 4 ((za0.gath f ps).map za8.d))] (by rw [<- show ((ps++[(za8.mk (za1 f.r.t) f.r.eq)]):List za8)=(za0.gath f ps) from (gath_new (by have:=hc1;simpa using this) (dT hc2)).symm];kernel_rfl) h;replace h:=zcz 21 14 h;refine rT (.c (.own 14 (za0.gath f ps).length)) h rfl ?_;rfl
  refine qU (za2 (qW (Jg 22 [(2,.len (za4 6 za0.d f.kids))] [3,16] [(29,(vFs f.kids)),(30,vN f.kids.length),(31,vI 0)] [20] [] h fun a w h=>qZ ?_)))
  refine zc7 (ι:=(Nat)) (fun j=>j<=f.kids.length)
    [] (fun j=>[(0,vO 9 ((f.kids.take j).foldl (fun a g=>g.gath a) ps).length),(31,vN j)])
    [] (fun j=>[(9,.row 32 4 (((f.kids.take j).foldl (fun a g=>g.gath a) ps).map za8.d))])
    (fun j=>f.kids.length - j) 0 ?_ h ?_
  ·exact bC _
  clear h;rintro j a w hI h;have lfj:=zjs (f.kids.take j) ps;have ltj:=take_le f.kids j;refine Je 22 [] [] [(32,vb (decide ((j:Int)<(f.kids.length:Int))))] h fun a w h=>qW (zae ((j:Int)<(f.kids.length:Int)) h (fun hc4 hc4'=>?_) (fun hc5 hc5'=>?_))
  ·refine qU (za2 (qW (qZ ?_)));obtain ⟨x3,hx3⟩:=gl f.kids j;refine Jg 22 [(0,.g (xD 33 29 zh5 ((za7 hx3 (f:=za0.d)).trans (congrArg some (za0.d_eq x3))) (OV.tmp 31 _)))] [32] [(6,vp 22 0)] [] [(22,.box (zF x3))] h fun a w h=>Jh 23 [(2,.call (ih x3 (lM hx3) ((f.kids.take j).foldl (fun a g=>g.gath a) ps) (fold_ok (fun q hq=>zig hf (cN hq)) hps) (by have:=zha f.kids j hx3;omega)))] [6] [(0,vO 14 (za0.gath x3 ((f.kids.take j).foldl (fun a g=>g.gath a) ps)).length)] [9,22] [(14,.row 32 4 ((za0.gath x3 ((f.kids.take j).foldl (fun a g=>g.gath a) ps)).map za8.d))] h fun a w h=>za6 (za2 (Jf 23 [(0,.j1 j)] [] [(31,vI ((j:Int)+1))] h fun a w h=>za2 ?_));replace h:=zcz 14 9 h;replace h:=cvM [] [(0,vO 9 ((f.kids.take (j+1)).foldl (fun a g=>g.gath a) ps).length)] [] [(9,.row 32 4 (((f.kids.take (j+1)).foldl (fun a g=>g.gath a) ps).map za8.d))] (by rw [<- show ((za0.gath x3 ((f.kids.take j).foldl (fun a g=>g.gath a) ps)):List za8)=((f.kids.take (j+1)).foldl (fun a g=>g.gath a) ps) from (zjt hx3).symm];kernel_rfl) h;refine zab (x:=j) (y:=j+1) h ?_ ?_
   ·have:=zac hx3;show j+1<=f.kids.length;omega
   show f.kids.length - (j+1)<f.kids.length - j;have:=zac hx3;omega
  refine exA (Jp 23 [] [(4,vO 9 ((f.kids.take j).foldl (fun a g=>g.gath a) ps).length)] h fun a w h=>qV ?_);replace h:=cv (fun z_:List za8=>F.of [(4,vO 9 z_.length)] [(9,.row 32 4 (z_.map za8.d))]) (show (((f.kids.take j).foldl (fun a g=>g.gath a) ps):List za8)=(za0.gath f ps) from (by rw [cC (by omega)];exact (zjr (fun e=>dF hc3 e.2)).symm)) (h.conv (by kernel_rfl));replace h:=zcz 9 14 h;refine rT (.c (.own 14 (za0.gath f ps).length)) h rfl ?_;rfl
 refine Je 23 [(2,.cmp (op:=.eql) (m:=f.kind) (n:=2) (b:=false) .i64 hc6)] [] [(16,vb false)] h fun a w h=>zas h (qU (za2 (qW (Jg 23 [(2,.len (za4 6 za0.d f.kids))] [3,16] [(29,(vFs f.kids)),(30,vN f.kids.length),(31,vI 0)] [20] [] h fun a w h=>qZ ?_))))
 refine zc7 (ι:=(Nat)) (fun j=>j<=f.kids.length)
   [] (fun j=>[(0,vO 9 ((f.kids.take j).foldl (fun a g=>g.gath a) ps).length),(31,vN j)])
   [] (fun j=>[(9,.row 32 4 (((f.kids.take j).foldl (fun a g=>g.gath a) ps).map za8.d))])
   (fun j=>f.kids.length - j) 0 ?_ h ?_
 ·exact bC _
 clear h;rintro j a w hI h;have lfj:=zjs (f.kids.take j) ps;have ltj:=take_le f.kids j;refine Je 23 [] [] [(32,vb (decide ((j:Int)<(f.kids.length:Int))))] h fun a w h=>qW (zae ((j:Int)<(f.kids.length:Int)) h (fun hc7 hc7'=>?_) (fun hc8 hc8'=>?_))
 ·refine qU (za2 (qW (qZ ?_)));obtain ⟨x5,hx5⟩:=gl f.kids j;refine Jg 23 [(0,.g (xD 33 29 zh5 ((za7 hx5 (f:=za0.d)).trans (congrArg some (za0.d_eq x5))) (OV.tmp 31 _)))] [32] [(6,vp 23 0)] [] [(23,.box (zF x5))] h fun a w h=>Jh 24 [(2,.call (ih x5 (lM hx5) ((f.kids.take j).foldl (fun a g=>g.gath a) ps) (fold_ok (fun q hq=>zig hf (cN hq)) hps) (by have:=zha f.kids j hx5;omega)))] [6] [(0,vO 14 (za0.gath x5 ((f.kids.take j).foldl (fun a g=>g.gath a) ps)).length)] [9,23] [(14,.row 32 4 ((za0.gath x5 ((f.kids.take j).foldl (fun a g=>g.gath a) ps)).map za8.d))] h fun a w h=>za6 (za2 (Jf 24 [(0,.j1 j)] [] [(31,vI ((j:Int)+1))] h fun a w h=>za2 ?_));replace h:=zcz 14 9 h;replace h:=cvM [] [(0,vO 9 ((f.kids.take (j+1)).foldl (fun a g=>g.gath a) ps).length)] [] [(9,.row 32 4 (((f.kids.take (j+1)).foldl (fun a g=>g.gath a) ps).map za8.d))] (by rw [<- show ((za0.gath x5 ((f.kids.take j).foldl (fun a g=>g.gath a) ps)):List za8)=((f.kids.take (j+1)).foldl (fun a g=>g.gath a) ps) from (zjt hx5).symm];kernel_rfl) h;refine zab (x:=j) (y:=j+1) h ?_ ?_
  ·have:=zac hx5;show j+1<=f.kids.length;omega
  show f.kids.length - (j+1)<f.kids.length - j;have:=zac hx5;omega
 refine exA (Jp 24 [] [(4,vO 9 ((f.kids.take j).foldl (fun a g=>g.gath a) ps).length)] h fun a w h=>qV ?_);replace h:=cv (fun z_:List za8=>F.of [(4,vO 9 z_.length)] [(9,.row 32 4 (z_.map za8.d))]) (show (((f.kids.take j).foldl (fun a g=>g.gath a) ps):List za8)=(za0.gath f ps) from (by rw [cC (by omega)];exact (zjr (fun e=>by have:=hc6;simp at this;omega)).symm)) (h.conv (by kernel_rfl));replace h:=zcz 9 14 h;refine rT (.c (.own 14 (za0.gath f ps).length)) h rfl ?_;rfl
theorem Lgather (f:za0):f.okA 200000000 2900->(∀ ps:List za8,(∀ r ∈ ps,TOk 200000000 3000 r.t)->ps.length+f.nodes<=1000000000000->Fn Tryz.prog 80 [(9,.row 32 4 (ps.map za8.d))] [vO 9 ps.length,(vF f)] (vO 14 (za0.gath f ps).length) [(14,.row 32 4 ((za0.gath f ps).map za8.d))])/\(∀ ps:List za8,(∀ r ∈ ps,TOk 200000000 3000 r.t)->ps.length+f.nodes<=1000000000000->Fn Tryz.prog 80 [(13,.row 32 4 (ps.map za8.d))] [vO 13 ps.length,(vF f)] (vO 14 (za0.gath f ps).length) [(14,.row 32 4 ((za0.gath f ps).map za8.d))]) :=
 za0.ind (P:=fun f=>f.okA 200000000 2900->(∀ ps:List za8,(∀ r ∈ ps,TOk 200000000 3000 r.t)->ps.length+f.nodes<=1000000000000->Fn Tryz.prog 80 [(9,.row 32 4 (ps.map za8.d))] [vO 9 ps.length,(vF f)] (vO 14 (za0.gath f ps).length) [(14,.row 32 4 ((za0.gath f ps).map za8.d))])/\(∀ ps:List za8,(∀ r ∈ ps,TOk 200000000 3000 r.t)->ps.length+f.nodes<=1000000000000->Fn Tryz.prog 80 [(13,.row 32 4 (ps.map za8.d))] [vO 13 ps.length,(vF f)] (vO 14 (za0.gath f ps).length) [(14,.row 32 4 ((za0.gath f ps).map za8.d))])) (fun k r ks ih hf=>⟨fun ps hps hl=>Lgather9 ps ⟨k,r,ks⟩ (fun g hg=>(ih g hg (zig hf hg)).2) hf hps hl,fun ps hps hl=>Lgather13 ps ⟨k,r,ks⟩ (fun g hg=>(ih g hg (zig hf hg)).1) hf hps hl⟩) f
def gathT (ps:List za8) (f:za0):List za8:=f.gath (ps.map cpR)
theorem cps_tok (h:∀ r ∈ ps,TOk 200000000 2900 r.t):∀ r ∈ ps.map cpR,TOk 200000000 3000 r.t:=fun r hr=>by
 obtain ⟨q,hq,rfl⟩:=b6.1 hr
 exact ((h q hq).plain (by decide)).mono (by decide) (by decide)
theorem LGather (ps:List za8) (f:za0) (hps:∀ r ∈ ps,TOk 200000000 2900 r.t) (hf:f.okA 200000000 2900) (hl:ps.length+f.nodes<=1000000000000):Fn Tryz.prog 48 [] [(vRs ps),(vF f)] (vRs (gathT ps f)) []:=by
 refine fB Tryz.func48 rfl 27 fun w H B a h=>Jq 20 [] [(0,(vRs ps)),(3,vp 20 0),(4,vW zaj)] [(20,.box (zF f))] h fun a w h=>Je 21 [] [] [(5,vW zaj)] h fun a w h=>qW (Je 21 [(1,.len (za4 4 za8.d ps))] [0] [(8,(vRs ps)),(9,vN ps.length),(10,vI 0)] h fun a w h=>qZ ?_)
 replace h:=zeg 5 0 21 4 32 (vW zaj) h
 refine zc7 (ι:=(Nat)) (fun j=>j<=ps.length)
   [] (fun j=>[(5,vO 21 ((ps.take j).map cpR).length),(10,vN j)])
   [] (fun j=>[(21,.row 32 4 (((ps.take j).map cpR).map za8.d))])
   (fun j=>ps.length - j) 0 ?_ h ?_
 ·exact bC _
 clear h;rintro j a w hI h;have lmj:((ps.take j).map cpR).length<=j:=by rw [bI,cT];omega
 refine Je 22 [] [] [(11,vb (decide ((j:Int)<(ps.length:Int))))] h fun a w h=>qW (zae ((j:Int)<(ps.length:Int)) h (fun hc1 hc1'=>?_) (fun hc2 hc2'=>?_))
 ·refine qU (za2 (qW (qZ ?_)));obtain ⟨x1,hx1⟩:=gl ps j;refine Jg 22 [(0,.g (xD 12 8 kc_3 (za7 hx1 (f:=za8.d)) (OV.tmp 10 _)))] [11] [(7,vp 22 0)] [] [(22,.box (zR_ x1))] h fun a w h=>Jh 23 [(3,.call (zdb x1.t (hps x1 (lM hx1)) (by decide) (by decide))),(7,.g (bD 21 ([(za8.mk (za1 x1.t) x1.eq)].map za8.d) [(20,vG ((zT (za1 x1.t))++[cB x1.eq]))] kc_5 (.cons (i:=0) (OV.tmp 20 _) (.nil)) (by kernel_rfl) (by simp [za8.d]))),(8,.g (aD 22 14 21 21 23 ((ps.take j).map cpR) [(za8.mk (za1 x1.t) x1.eq)] za8.d lh8_3 (by simp [za8.d])))] [7] [(5,vO 23 (((ps.take j).map cpR)++[(za8.mk (za1 x1.t) x1.eq)]).length)] [21,22] [(23,.row 32 4 ((((ps.take j).map cpR)++[(za8.mk (za1 x1.t) x1.eq)]).map za8.d))] h fun a w h=>za6 (za2 (Jf 24 [(0,.j1 j)] [] [(10,vI ((j:Int)+1))] h fun a w h=>za2 ?_));rw [show ((((ps.take j).map cpR)++[(za8.mk (za1 x1.t) x1.eq)]):List za8)=((ps.take (j+1)).map cpR) from (zfh hx1)] at h;replace h:=zcz 23 21 h;refine zab (x:=j) (y:=j+1) h ?_ ?_
  ·have:=zac hx1;show j+1<=ps.length;omega
  show ps.length - (j+1)<ps.length - j;have:=zac hx1;omega
 refine exA ?_;rw [show (((ps.take j).map cpR):List za8)=(ps.map cpR) from (by rw [cC (by omega)])] at h;replace h:=zcz 21 9 h;refine Jq 24 [(2,.call ((Lgather f hf).1 (ps.map cpR) (cps_tok hps) (by rw [bI];exact hl)))] [(4,vO 14 (gathT ps f).length)] [(14,.row 32 4 ((gathT ps f).map za8.d))] h fun a w h=>qV ?_;replace h:=zia 14 4 32 ((gathT ps f).map za8.d) h [(gathT ps f).length] ⟨by first | exact (bI _).symm | (simp;done) | (simp;omega),trivial⟩;refine rT (.c (cRs (gathT ps f))) h rfl ?_;rfl
def zal (n:Int):za8:=⟨⟨[⟨0,ZI.of 1⟩],ZI.of (0 - n)⟩,false⟩
def clZ (z:ZI):ZI:=ZI.of z.val
def cloneS (x:StD):StD:=⟨x.locs,x.vals.map clZ⟩
def st0:StD:=⟨[],[]⟩
def canAt (s:zaz) (x:StD) (c:zb9) (v:Nat):Bool:=if freeAt c v=true then !((zed s v).is_ && decide (zbr (zed s v).lo.val (zed s v).hi.val>0)) else withinB (zed s v) (newAt x c v)
def canC (s:zaz) (x:StD) (c:zb9):Bool:=enabled s x c && allN s.vars.length (canAt s x c)
def can (s:zaz) (x:StD) (i:Int):Bool:=match zh3 s i with | none=>false | some c=>canC s x c
def stuck (s:zaz) (x:StD):Bool:=allN s.acts.length (fun i=>!can s x (i:Int)) && fits s x
def cntFree (c:zb9):Nat->Nat
  | 0=>0
  | v+1=>cntFree c v+if freeAt c v=true then 1 else 0
def newV (x:StD) (c:zb9) (picks:List ZI) (v:Nat):ZI:=if freeAt c v=true then (match picks[cntFree c v]? with | some p=>ZI.of p.val | none=>zi4) else newAt x c v
def outS (s:zaz) (x:StD) (c:zb9) (picks:List ZI):StD:=⟨x.locs.set c.proc.toNat c.to_,(List.range s.vars.length).map (newV x c picks)⟩
def goC (s:zaz) (x:StD) (c:zb9) (picks:List ZI):StD × Bool:=if enabled s x c=true/\fits s (outS s x c picks)=true then (outS s x c picks,true) else (st0,false)
def goS (s:zaz) (x:StD) (i:Int) (picks:List ZI):StD × Bool:=if i=-1/\stuck s x=true then (cloneS x,true) else match zh3 s i with | none=>(st0,false) | some c=>goC s x c picks
def picksOf (y:StD) (c:zb9):Nat->List ZI
  | 0=>[]
  | v+1=>if freeAt c v=true then picksOf y c v++[(y.vals[v]?).getD zi4] else picksOf y c v
def leadsC (s:zaz) (x:StD) (c:zb9) (y:StD):Bool:=(enabled s x c && fits s y) && ((goC s x c (picksOf y c s.vars.length)).2 && sameS y (goC s x c (picksOf y c s.vars.length)).1)
def leads (s:zaz) (x:StD) (i:Int) (y:StD):Bool:=if i=-1 then stuck s x && sameS x y else match zh3 s i with | none=>false | some c=>leadsC s x c y
structure RunOk (M:Nat) (r:RunD):Prop where
  len:r.stem.length+r.cycle.length<=20
  stem:∀ x ∈ r.stem,StOk M x
  cycle:∀ x ∈ r.cycle,StOk M x
theorem RunOk.all {r:RunD} (h:RunOk M r):∀ x ∈ r.stem++r.cycle,StOk M x:=fun x hx=>(cH.1 hx).elim (h.stem x) (h.cycle x)
def nxt (r:RunD) (i:Nat):StD:=if i+1<(r.stem++r.cycle).length then ((r.stem++r.cycle)[i+1]?).getD st0 else (r.cycle[0]?).getD st0
def stepOk (s:zaz) (r:RunD) (i:Nat):Bool:=leads s (((r.stem++r.cycle)[i]?).getD st0) ((r.acts[i]?).getD 0) (nxt r i)
def right (s:zaz) (r:RunD):Bool:=decide (r.cycle.length≠0/\r.acts.length=(r.stem++r.cycle).length) && (first s (((r.stem++r.cycle)[0]?).getD st0) && allN (r.stem++r.cycle).length (stepOk s r))
theorem there_lo {m:zao} (h1:decide (m.v<0)=true):(!zh9 s m)=true:=by
 have:=of_decide_eq_true h1;unfold zh9;rw [decide_eq_false (by omega)];rfl
def runAt (r:RunD) (i:Nat):StD:=((r.stem++r.cycle)[i]?).getD st0
theorem all2c {R:α->β->Prop} {x:α} {xs:List α} {us:List β} (h:zb3 R (x :: xs) us):∃ u vs,us=u :: vs/\R x u/\zb3 R xs vs:=by
 cases us with
 | nil=>exact h.elim
 | cons u us=>exact ⟨u,us,rfl,h⟩
theorem Fn.agg6 {P:Program} {k:FuncId} {ps qs:List (Nat × L)} {es:Nat} {c1 c2 c3 c4 c5:C} {x y res:V} (h:Fn P k ps [vG [c1,c2,c3,c4,c5,.d (.sl es [])],x,y] res qs):Fn P k ps [vG [c1,c2,c3,c4,c5,nCl],x,y] res qs:=by
 intro w H B vals pre
 obtain ⟨h1,h2,h3,h4,h5,h0⟩:=pre
 cases vals with
 | nil=>exact h5.elim
 | cons v vs =>
  obtain ⟨⟨us,rfl,ha⟩,ht⟩:=h5
  obtain ⟨u1,us,rfl,a1,ha⟩:=all2c ha
  obtain ⟨u2,us,rfl,a2,ha⟩:=all2c ha
  obtain ⟨u3,us,rfl,a3,ha⟩:=all2c ha
  obtain ⟨u4,us,rfl,a4,ha⟩:=all2c ha
  obtain ⟨u5,us,rfl,a5,ha⟩:=all2c ha
  obtain ⟨u6,us,rfl,a6,hz⟩:=all2c ha
  have h6:u6=zaj:=VR.rawI (B:=B) a6
  subst h6
  exact h w H B _ ⟨h1,h2,h3,h4,⟨⟨_,rfl,a1,a2,a3,a4,a5,DR.nil _ _ _ (fun _=>rfl) (bC _),hz⟩,ht⟩,h0⟩
def fewB (L:Nat) (b:zan):Bool:=decide ((b.lo.abs.length:Int)<=(L:Int)) && decide ((b.hi.abs.length:Int)<=(L:Int))
def formT (t:zaf):za0:=⟨2,⟨t,false⟩,[]⟩
def fewM (L:Nat) (m:zao):Bool:=zjw (formT m.t) 5 L
def fewA (L:Nat) (c:zb9):Bool:=(zjw c.guard 30 L && decide ((c.moves.length:Int)<=20)) && c.moves.all (fewM L)
def zbo (L:Nat) (s:zaz):Bool:=(decide ((s.vars.length:Int)<=8/\(s.bounds.length:Int)<=20/\(s.procs.length:Int)<=6/\(s.acts.length:Int)<=20) && zjw s.init 30 L) && (s.bounds.all (fewB L) && s.acts.all (fewA L))
structure SysRd (s:zaz):Prop where
  init:s.init.lb
  bnd:∀ b ∈ s.bounds,Lb b.lo.abs/\Lb b.hi.abs
  act:∀ c ∈ s.acts,c.guard.lb/\∀ m ∈ c.moves,TLb m.t
  len:s.bounds.length<=9223372036854775807/\s.acts.length<=9223372036854775807
  mlen:∀ c ∈ s.acts,c.moves.length<=9223372036854775807
def StRd (x:StD):Prop:=(∀ z ∈ x.vals,Lb z.abs)/\x.vals.length<=9223372036854775807
theorem fewF_ok {most:Int} {L:Nat} (h:zjw f most L=true) (hl:f.lb):f.ok L:=by unfold zjw at h;rw [cJ] at h;exact za0.few_ok f h.2 hl
theorem formT_lb (h:TLb t):(formT t).lb:=(za0.lb_eq _).2 ⟨⟨h,bC _⟩,fun g hg=>(by cases hg)⟩
theorem formT_ok {L:Nat} (h:(formT t).ok L):TOk 20 L t:=((za0.ok_eq L _).1 h).1 rfl
theorem few_sys {L:Nat} (h:zbo L s=true) (hr:SysRd s):zcc L s:=by
 unfold zbo at h
 simp only [cJ,decide_eq_true_eq,b8] at h
 obtain ⟨⟨⟨h1,h2,h3,h4⟩,h5⟩,h6,h7⟩:=h
 refine ⟨by omega,by omega,by omega,by omega,fun b hb=>?_,⟨hr.init,fewF_ok h5 hr.init⟩,fun c hc=>?_⟩
 ·have:=h6 b hb;unfold fewB at this;simp only [cJ,decide_eq_true_eq] at this
  exact ⟨⟨(hr.bnd b hb).1,by omega⟩,(hr.bnd b hb).2,by omega⟩
 ·have:=h7 c hc;unfold fewA at this;simp only [cJ,decide_eq_true_eq,b8] at this
  exact ⟨⟨(hr.act c hc).1,fewF_ok this.1.1 (hr.act c hc).1⟩,by omega,fun m hm=>formT_ok (fewF_ok (this.2 m hm) (formT_lb ((hr.act c hc).2 m hm)))⟩
theorem SFewSys (s:zaz) (L:Nat) (hr:SysRd s):Fn Tryz.prog 30 [] [vG (zfo s),vN L] (vb (zbo L s)) []:=by
 have lb1:=hr.len.1;have lb2:=hr.len.2;refine fB Tryz.func30 rfl 118 fun w H B a h=>Jq 0 [] [(1,vN L),(2,vp 0 0),(4,vb false)] [(0,.box (zfo s))] h fun a w h=>qW ?_
 rcases bJ (decide ((s.vars.length:Int)>8)) with hc1 | hc2
 ·have hc1':=dT hc1;refine Je 1 [(2,.len (za4 1 zen s.vars)),(3,.cmp (op:=.gtr) (m:=(s.vars.length:Int)) (n:=8) (b:=true) .i64 hc1)] [] [(36,vb true)] h fun a w h=>cS true h (fun _=>?_) nofun
  refine Je 1 [] [36] [] h fun a w h=>qV (za5 (rT (.c (cB false)) h rfl ?_));have hz:zbo L s=false:=by unfold zbo;rw [decide_eq_false (p:=(s.vars.length:Int)<=8/\(s.bounds.length:Int)<=20/\(s.procs.length:Int)<=6/\(s.acts.length:Int)<=20) (by have:=dT hc1;omega)];rfl
  rw [hz];try rfl
 have hc2':=dF hc2
 rcases bJ (decide ((s.bounds.length:Int)>20)) with hc3 | hc4
 ·have hc3':=dT hc3;refine Je 1 [(2,.len (za4 1 zen s.vars)),(3,.cmp (op:=.gtr) (m:=(s.vars.length:Int)) (n:=8) (b:=false) .i64 hc2),(7,.len (za4 5 zan.d s.bounds)),(8,.cmp (op:=.gtr) (m:=(s.bounds.length:Int)) (n:=20) (b:=true) .i64 hc3)] [] [(36,vb true)] h fun a w h=>cS true h (fun _=>?_) nofun
  refine Je 1 [] [36] [] h fun a w h=>qV (za5 (rT (.c (cB false)) h rfl ?_));have hz:zbo L s=false:=by unfold zbo;rw [decide_eq_false (p:=(s.vars.length:Int)<=8/\(s.bounds.length:Int)<=20/\(s.procs.length:Int)<=6/\(s.acts.length:Int)<=20) (by have:=dT hc3;omega)];rfl
  rw [hz];try rfl
 have hc4':=dF hc4
 rcases bJ (decide ((s.procs.length:Int)>6)) with hc5 | hc6
 ·have hc5':=dT hc5;refine Je 1 [(2,.len (za4 1 zen s.vars)),(3,.cmp (op:=.gtr) (m:=(s.vars.length:Int)) (n:=8) (b:=false) .i64 hc2),(7,.len (za4 5 zan.d s.bounds)),(8,.cmp (op:=.gtr) (m:=(s.bounds.length:Int)) (n:=20) (b:=false) .i64 hc4),(13,.len (za4 3 zbp.d s.procs)),(14,.cmp (op:=.gtr) (m:=(s.procs.length:Int)) (n:=6) (b:=true) .i64 hc5)] [] [(36,vb true)] h fun a w h=>cS true h (fun _=>?_) nofun
  refine Je 1 [] [36] [] h fun a w h=>qV (za5 (rT (.c (cB false)) h rfl ?_));have hz:zbo L s=false:=by unfold zbo;rw [decide_eq_false (p:=(s.vars.length:Int)<=8/\(s.bounds.length:Int)<=20/\(s.procs.length:Int)<=6/\(s.acts.length:Int)<=20) (by have:=dT hc5;omega)];rfl
  rw [hz];try rfl
 have hc6':=dF hc6
 rcases bJ (decide ((s.acts.length:Int)>20)) with hc7 | hc8
 ·have hc7':=dT hc7;refine Je 1 [(2,.len (za4 1 zen s.vars)),(3,.cmp (op:=.gtr) (m:=(s.vars.length:Int)) (n:=8) (b:=false) .i64 hc2),(7,.len (za4 5 zan.d s.bounds)),(8,.cmp (op:=.gtr) (m:=(s.bounds.length:Int)) (n:=20) (b:=false) .i64 hc4),(13,.len (za4 3 zbp.d s.procs)),(14,.cmp (op:=.gtr) (m:=(s.procs.length:Int)) (n:=6) (b:=false) .i64 hc6),(19,.len (za4 10 zb9.d s.acts)),(20,.cmp (op:=.gtr) (m:=(s.acts.length:Int)) (n:=20) (b:=true) .i64 hc7)] [] [(36,vb true)] h fun a w h=>cS true h (fun _=>?_) nofun
  refine Je 1 [] [36] [] h fun a w h=>qV (za5 (rT (.c (cB false)) h rfl ?_));have hz:zbo L s=false:=by unfold zbo;rw [decide_eq_false (p:=(s.vars.length:Int)<=8/\(s.bounds.length:Int)<=20/\(s.procs.length:Int)<=6/\(s.acts.length:Int)<=20) (by have:=dT hc7;omega)];rfl
  rw [hz];try rfl
 have hc8':=dF hc8;refine Je 1 [(2,.len (za4 1 zen s.vars)),(3,.cmp (op:=.gtr) (m:=(s.vars.length:Int)) (n:=8) (b:=false) .i64 hc2),(7,.len (za4 5 zan.d s.bounds)),(8,.cmp (op:=.gtr) (m:=(s.bounds.length:Int)) (n:=20) (b:=false) .i64 hc4),(13,.len (za4 3 zbp.d s.procs)),(14,.cmp (op:=.gtr) (m:=(s.procs.length:Int)) (n:=6) (b:=false) .i64 hc6),(19,.len (za4 10 zb9.d s.acts)),(20,.cmp (op:=.gtr) (m:=(s.acts.length:Int)) (n:=20) (b:=false) .i64 hc8),(26,.call (SFewF s.init 30 (L:Int) hr.init (by decide) (by decide)))] [] [(36,vb (!(zjw s.init 30 L)))] h fun a w h=>cS (!(zjw s.init 30 L)) h (fun hc9=>?_) (fun hc10=>?_)
 ·refine Je 1 [] [36] [] h fun a w h=>qV (za5 (rT (.c (cB false)) h rfl ?_));have hz:zbo L s=false:=by unfold zbo;rw [decide_eq_true (p:=(s.vars.length:Int)<=8/\(s.bounds.length:Int)<=20/\(s.procs.length:Int)<=6/\(s.acts.length:Int)<=20) (by have:=dF hc2;have:=dF hc4;have:=dF hc6;have:=dF hc8;omega),bL];rw [(show (zjw s.init 30 L)=false from by simpa using hc9)];rfl
  rw [hz];try rfl
 refine qU (za2 (qW (Je 1 [] [36] [(5,vI 0)] h fun a w h=>qZ ?_)))
 refine zc7 (ι:=(Nat)) (fun j=>j<=s.bounds.length/\(s.bounds.take j).all (fewB L)=true)
   [4] (fun j=>[(5,vN j)])
   [] (fun j=>[])
   (fun j=>s.bounds.length - j) 0 ?_ h ?_
 ·exact ⟨bC _,rfl⟩
 clear h;rintro j a w hI h;obtain ⟨hI1,hI2⟩:=hI;refine qW (Je 1 [(3,.len (za4 5 zan.d s.bounds))] [] [(41,vb (decide ((j:Int)<(s.bounds.length:Int))))] h fun a w h=>zae ((j:Int)<(s.bounds.length:Int)) h (fun hc11 hc11'=>?_) (fun hc16 hc16'=>?_))
 ·refine qU (za2 (qW (qZ ?_)));obtain ⟨x2,hx2⟩:=gl s.bounds j
  rcases bJ (decide ((x2.lo.abs.length:Int)>(L:Int))) with hc12 | hc13
  ·have hc12':=dT hc12;refine Je 1 [(3,.g (xD 47 45 kf_0 (za7 hx2 (f:=zan.d)) (OV.tmp 46 _))),(7,.len (zep x2.lo.abs)),(9,.cmp (op:=.gtr) (m:=(x2.lo.abs.length:Int)) (n:=(L:Int)) (b:=true) .i64 hc12)] [41] [(65,vb true)] h fun a w h=>cS true h (fun _=>?_) nofun
   refine Je 1 [] [65] [(4,vb false)] h fun a w h=>qV (za9 (za5 (za5 (za9 (za5 (rT (.c (cB false)) h rfl ?_))))));have hz:zbo L s=false:=by unfold zbo;rw [decide_eq_true (p:=(s.vars.length:Int)<=8/\(s.bounds.length:Int)<=20/\(s.procs.length:Int)<=6/\(s.acts.length:Int)<=20) (by have:=dF hc2;have:=dF hc4;have:=dF hc6;have:=dF hc8;omega),bL];rw [(show (zjw s.init 30 L)=true from by simpa using hc10)];rw [zc4 hx2 (show fewB L x2=false from (by unfold fewB;rw [decide_eq_false (by have:=dT hc12;omega)];rfl))];rfl
   rw [hz];try rfl
  have hc13':=dF hc13;refine Je 1 [(3,.g (xD 47 45 kf_0 (za7 hx2 (f:=zan.d)) (OV.tmp 46 _))),(7,.len (zep x2.lo.abs)),(9,.cmp (op:=.gtr) (m:=(x2.lo.abs.length:Int)) (n:=(L:Int)) (b:=false) .i64 hc13),(14,.g (xD 58 56 kf_0 (za7 hx2 (f:=zan.d)) (OV.tmp 57 _))),(18,.len (zep x2.hi.abs))] [41] [(65,vb (decide ((x2.hi.abs.length:Int)>(L:Int))))] h fun a w h=>zae ((x2.hi.abs.length:Int)>(L:Int)) h (fun hc14 hc14'=>?_) (fun hc15 hc15'=>?_)
  ·refine Je 1 [] [65] [(4,vb false)] h fun a w h=>qV (za9 (za5 (za5 (za9 (za5 (rT (.c (cB false)) h rfl ?_))))));have hz:zbo L s=false:=by unfold zbo;rw [decide_eq_true (p:=(s.vars.length:Int)<=8/\(s.bounds.length:Int)<=20/\(s.procs.length:Int)<=6/\(s.acts.length:Int)<=20) (by have:=dF hc2;have:=dF hc4;have:=dF hc6;have:=dF hc8;omega),bL];rw [(show (zjw s.init 30 L)=true from by simpa using hc10)];rw [zc4 hx2 (show fewB L x2=false from (by unfold fewB;rw [decide_eq_false (p:=(x2.hi.abs.length:Int)<=(L:Int)) (by have:=dT hc14;omega),Bool.and_false]))];rfl
   rw [hz];try rfl
  refine qU (za6 (za2 (Jf 1 [(1,.j1 j)] [65] [(5,vI ((j:Int)+1))] h fun a w h=>za2 (zab (x:=j) (y:=j+1) h ?_ ?_))))
  ·exact ⟨by have:=zac hx2;omega,zdy hx2 hI2 (by unfold fewB;rw [decide_eq_true (by have:=dF hc13;omega),decide_eq_true (by have:=dF hc15;omega)];rfl)⟩
  show s.bounds.length - (j+1)<s.bounds.length - j;have:=zac hx2;omega
 refine exA (qW (Je 1 [] [5,41] [(6,vI 0)] h fun a w h=>qZ ?_))
 refine zc7 (ι:=(Nat)) (fun q=>q<=s.acts.length/\(s.acts.take q).all (fewA L)=true)
   [] (fun q=>[(6,vN q)])
   [] (fun q=>[])
   (fun q=>s.acts.length - q) 0 ?_ h ?_
 ·exact ⟨bC _,rfl⟩
 clear h;rintro q a w hI h;obtain ⟨hQ1,hQ2⟩:=hI;refine qW (Je 1 [(3,.len (za4 10 zb9.d s.acts))] [] [(70,vb (decide ((q:Int)<(s.acts.length:Int))))] h fun a w h=>zae ((q:Int)<(s.acts.length:Int)) h (fun hc17 hc17'=>?_) (fun hc26 hc26'=>?_))
 ·refine qU (za2 (qW (qZ (qW ?_))));obtain ⟨x3,hx3⟩:=gl s.acts q;have lmx3:=hr.mlen x3 (lM hx3)
  rcases bJ (zjw x3.guard 30 L) with hc18 | hc25
  ·refine Je 1 [(3,.g (xD 76 74 ki_1 (za7 hx3 (f:=zb9.d)) (OV.tmp 75 _))),(7,.call (Fn.cast (SFewF x3.guard 30 (L:Int) (hr.act x3 (lM hx3)).1 (by decide) (by decide)) (congrArg vb hc18))),(13,.g (xD 86 84 ki_1 (za7 hx3 (f:=zb9.d)) (OV.tmp 85 _))),(16,.len (za4 5 zao.d x3.moves))] [70] [(91,vb (decide ((x3.moves.length:Int)>20)))] h fun a w h=>zae ((x3.moves.length:Int)>20) h (fun hc19 hc19'=>?_) (fun hc20 hc20'=>?_)
   ·refine Je 1 [] [91] [(4,vb false)] h fun a w h=>qV (za5 (za9 (za5 (za5 (za9 (za5 (rT (.c (cB false)) h rfl ?_)))))));have hz:zbo L s=false:=by unfold zbo;rw [decide_eq_true (p:=(s.vars.length:Int)<=8/\(s.bounds.length:Int)<=20/\(s.procs.length:Int)<=6/\(s.acts.length:Int)<=20) (by have:=dF hc2;have:=dF hc4;have:=dF hc6;have:=dF hc8;omega),bL];rw [(show (zjw s.init 30 L)=true from by simpa using hc10)];rw [zdt (dF hc16) hI2];rw [zc4 hx3 (show fewA L x3=false from (by unfold fewA;rw [decide_eq_false (p:=(x3.moves.length:Int)<=20) (by have:=dT hc19;omega),Bool.and_false];rfl))];rfl
    rw [hz];try rfl
   refine qU (za2 (Je 1 [] [91] [(7,vI 0)] h fun a w h=>qZ ?_))
   refine zc7 (ι:=(Nat)) (fun i=>i<=x3.moves.length/\(x3.moves.take i).all (fewM L)=true)
     [] (fun i=>[(7,vN i)])
     [] (fun i=>[])
     (fun i=>x3.moves.length - i) 0 ?_ h ?_
   ·exact ⟨bC _,rfl⟩
   clear h;rintro i a w hI h;obtain ⟨hJ1,hJ2⟩:=hI;refine qW (Je 1 [(4,.g (xD 96 94 ki_1 (za7 hx3 (f:=zb9.d)) (OV.tmp 95 _))),(7,.len (za4 5 zao.d x3.moves))] [] [(100,vb (decide ((i:Int)<(x3.moves.length:Int))))] h fun a w h=>zae ((i:Int)<(x3.moves.length:Int)) h (fun hc21 hc21'=>?_) (fun hc24 hc24'=>?_))
   ·refine qU (za2 (qW (qZ ?_)));obtain ⟨x6,hx6⟩:=gl x3.moves i;refine Je 1 [(3,.g (xD 106 104 ki_1 (za7 hx3 (f:=zb9.d)) (OV.tmp 105 _))),(7,.g (xD 110 108 ki_2 (za7 hx6 (f:=zao.d)) (OV.tmp 109 _))),(13,.call (Fn.agg6 (SFewF (formT x6.t) 5 (L:Int) (formT_lb ((hr.act x3 (lM hx3)).2 x6 (lM hx6))) (by decide) (by decide))))] [100] [(117,vb (!(zjw (formT x6.t) 5 L)))] h fun a w h=>cS (!(zjw (formT x6.t) 5 L)) h (fun hc22=>?_) (fun hc23=>?_)
    ·refine Je 1 [] [117] [(4,vb false)] h fun a w h=>qV (za9 (za5 (za5 (za9 (za9 (za5 (za5 (za9 (za5 (rT (.c (cB false)) h rfl ?_))))))))));have hz:zbo L s=false:=by unfold zbo;rw [decide_eq_true (p:=(s.vars.length:Int)<=8/\(s.bounds.length:Int)<=20/\(s.procs.length:Int)<=6/\(s.acts.length:Int)<=20) (by have:=dF hc2;have:=dF hc4;have:=dF hc6;have:=dF hc8;omega),bL];rw [(show (zjw s.init 30 L)=true from by simpa using hc10)];rw [zdt (dF hc16) hI2];rw [zc4 hx3 (show fewA L x3=false from (by unfold fewA;rw [hc18,decide_eq_true (p:=(x3.moves.length:Int)<=20) (by have:=dF hc20;omega),bL,bL];exact zc4 hx6 (show fewM L x6=false from (show (zjw (formT x6.t) 5 L)=false from by simpa using hc22))))];rfl
     rw [hz];try rfl
    refine qU (za6 (za2 (Jf 1 [(1,.j1 i)] [117] [(7,vI ((i:Int)+1))] h fun a w h=>za2 (zab (x:=i) (y:=i+1) h ?_ ?_))))
    ·have:=zac hx6;exact ⟨by omega,zdy hx6 hJ2 (show fewM L x6=true from (show (zjw (formT x6.t) 5 L)=true from by simpa using hc23))⟩
    show x3.moves.length - (i+1)<x3.moves.length - i;have:=zac hx6;omega
   refine wp_exit (zc0 (zc0 (zat (za6 (za2 (Jf 1 [(1,.add .i64 (m:=(q:Int)) (n:=1) i6)] [7,100] [(6,vI ((q:Int)+1))] h fun a w h=>za2 (zab (x:=q) (y:=q+1) h ?_ ?_)))))))
   ·have:=zac hx3;exact ⟨by omega,zdy hx3 hQ2 (by unfold fewA;rw [hc18,decide_eq_true (p:=(x3.moves.length:Int)<=20) (by have:=dF hc20;omega),bL,bL];exact zdt (dF hc24) hJ2)⟩
   show s.acts.length - (q+1)<s.acts.length - q;have:=zac hx3;omega
  refine Je 1 [(3,.g (xD 76 74 ki_1 (za7 hx3 (f:=zb9.d)) (OV.tmp 75 _))),(7,.call (Fn.cast (SFewF x3.guard 30 (L:Int) (hr.act x3 (lM hx3)).1 (by decide) (by decide)) (congrArg vb hc25)))] [70] [(91,vb true)] h fun a w h=>cS true h (fun _=>?_) nofun
  refine Je 1 [] [91] [(4,vb false)] h fun a w h=>qV (za5 (za9 (za5 (za5 (za9 (za5 (rT (.c (cB false)) h rfl ?_)))))));have hz:zbo L s=false:=by unfold zbo;rw [decide_eq_true (p:=(s.vars.length:Int)<=8/\(s.bounds.length:Int)<=20/\(s.procs.length:Int)<=6/\(s.acts.length:Int)<=20) (by have:=dF hc2;have:=dF hc4;have:=dF hc6;have:=dF hc8;omega),bL];rw [(show (zjw s.init 30 L)=true from by simpa using hc10)];rw [zdt (dF hc16) hI2];rw [zc4 hx3 (show fewA L x3=false from (by unfold fewA;rw [hc25];rfl))];rfl
  rw [hz];try rfl
 refine exA (Jq 1 [] [(4,vb true)] [] h fun a w h=>qV (rT (.c (cB true)) h rfl ?_));have hz:zbo L s=true:=by unfold zbo;rw [decide_eq_true (p:=(s.vars.length:Int)<=8/\(s.bounds.length:Int)<=20/\(s.procs.length:Int)<=6/\(s.acts.length:Int)<=20) (by have:=dF hc2;have:=dF hc4;have:=dF hc6;have:=dF hc8;omega),bL];rw [(show (zjw s.init 30 L)=true from by simpa using hc10)];rw [zdt (dF hc16) hI2];rw [zdt (dF hc26) hQ2];rfl
 rw [hz];try rfl
def atD (loc v:Int):StD:=⟨[loc],[ZI.of v]⟩
mutual
inductive Wk:D->D->Prop
  | refl (x:D):Wk x x
  | nil (es:Nat):Wk (.raw zaj) (.sl es [])
  | sl (es:Nat) (a b:List (List D)) (h:WkR a b):Wk (.sl es a) (.sl es b)
inductive WkL:List D->List D->Prop
  | nil:WkL [] []
  | cons (x y:D) (xs ys:List D) (h:Wk x y) (hs:WkL xs ys):WkL (x :: xs) (y :: ys)
inductive WkR:List (List D)->List (List D)->Prop
  | nil:WkR [] []
  | cons (x y:List D) (xs ys:List (List D)) (h:WkL x y) (hs:WkR xs ys):WkR (x :: xs) (y :: ys)
end
theorem lea_tok (n:Int) (hn:-1000<=n/\n<=1000):TOk 20 3 (zal n).t:=⟨(show 1<=20 by decide),fun p hp=>by
 rw [bE.1 hp];exact ⟨ZI.lb_of _,show (ZI.of 1).abs.length<=3 from by decide⟩,ZI.lb_of _,bK (ZI.len_of (L:=2) (by have:=pw2;show ((0:Int) - n).natAbs<_;omega)) (by decide)⟩
theorem le2:TOk 20 3 (zal 2).t:=lea_tok 2 (by decide)
theorem psE_ok:zhz [zal 2]:=⟨by decide,fun r hr=>by rw [bE.1 hr];exact le2.mono (by decide) (by decide)⟩
theorem ln14_4:SlT Tryz.prog 41 69 2:=SlT.mk' Tryz.underlying41 (by kernel_rfl)
theorem LFewRs (rs:List za8) (most L:Int) (hl:rs.length<=9223372036854775807):Fn Tryz.prog 31 [] [(vRs rs),vi .i64 most,vi .i64 L] (vb (zfz rs most L)) []:=SFewRs rs most L hl
theorem kw_4:ElZ Tryz.prog 36 102 3:=ElZ.mk' Tryz.underlying36 _ _ rfl rfl (by kernel_rfl) (by kernel_rfl) (by kernel_rfl) (by decide)
theorem kw_5:ElZ Tryz.prog 71 75 5:=ElZ.mk' Tryz.underlying71 _ _ rfl rfl (by kernel_rfl) (by kernel_rfl) (by kernel_rfl) (by decide)
theorem kw_6:ElZ Tryz.prog 37 73 10:=ElZ.mk' Tryz.underlying37 _ _ rfl rfl (by kernel_rfl) (by kernel_rfl) (by kernel_rfl) (by decide)
theorem kw_7:Sz Tryz.prog 39 10 true:=Sz.mk' (by kernel_rfl) Tryz.underlying39 _ rfl
def sysE:zaz:=⟨[⟨#[120]⟩],[⟨true,zi4,ZI.of 3⟩],form0,[⟨⟨#[112]⟩,[⟨#[97]⟩,⟨#[98]⟩],.raw zaj⟩],[⟨0,0,1,form0,[⟨0,false,⟨[⟨0,ZI.of 1⟩],ZI.of 1⟩⟩]⟩]⟩
theorem e1:goS sysE (atD 0 2) 0 []=(atD 1 3,true):=by kernel_rfl
theorem e2:(goS sysE (atD 0 3) 0 []).2=false:=by kernel_rfl
theorem e3:stuck sysE (atD 0 3)=true:=by kernel_rfl
theorem e4:can sysE (atD 0 0) 0=true:=by kernel_rfl
section
variable {w:World} {n:Nat}
theorem rep_raw {t e:TypeId} (hu:Tryz.prog.underlying t=some (.slice e)):zek w n t rawD (fun _=>True):=fun H enc base spare held fuel cs x hn hx=>by
 rcases DataW.trod_slice hu hx with ⟨rfl,_⟩ | ⟨a,len,cap,elems,rest,m,rfl,rfl,_⟩
 ·exact ⟨.raw _,trivial,DR.raw _ rfl,trivial⟩
 ·exact ⟨.raw _,trivial,DR.raw _ rfl,trivial⟩
theorem rep_strs:zek w n 22 (slD 1 zen) (fun xs=>xs.length<=maxLen/\∀ x ∈ xs,x.size<=maxLen) :=
 zc6 (k:=1) Tryz.underlying22 (by kernel_rfl) (by decide) (fun _=>rfl) (rep_str Tryz.underlying9)
theorem rep_Rel:zek w n 32 za8.d (fun r=>TLb r.t) :=
 ((zbj (n:=n) Tryz.underlying32 (by kernel_rfl) (.cons (k0:=3) rfl (by kernel_rfl) rep_Term (.cons (k0:=1) rfl (by kernel_rfl) (zhg Tryz.underlying4) .nil))).map (fun p=>⟨p.1,p.2.1⟩) (fun _=>rfl) fun _ h=>h.1).mono (b9 n)
theorem rep_Form:∀ {n:Nat}, zek w n 35 za0.d za0.lb
 | 0=>zek.zero
 | n+1=>(zbj (n:=n) Tryz.underlying35 (by kernel_rfl) (.cons (k0:=1) rfl (by kernel_rfl) (zgz Tryz.underlying3) (.cons (k0:=4) rfl (by kernel_rfl) rep_Rel (.cons (k0:=1) rfl (by kernel_rfl) (zc6 (k:=6) Tryz.underlying33 (by kernel_rfl) (by decide) za0.d_len rep_Form) .nil)))).map (fun p=>⟨p.1,p.2.1,p.2.2.1⟩) (fun _=>(za0.d_eq _).trans rfl) fun _ h=>(za0.lb_eq _).2 ⟨⟨h.2.1,bK h.2.2.1.1 (by decide)⟩,h.2.2.1.2⟩
theorem rep_Bound:zek w n 132 zan.d (fun b=>Lb b.lo.abs/\Lb b.hi.abs) :=
 ((zbj (n:=n) Tryz.underlying132 (by kernel_rfl) (.cons (k0:=1) rfl (by kernel_rfl) (zhg Tryz.underlying4) (.cons (k0:=2) rfl (by kernel_rfl) rep_ZI (.cons (k0:=2) rfl (by kernel_rfl) rep_ZI .nil)))).map (fun p=>⟨p.1,p.2.1,p.2.2.1⟩) (fun _=>rfl) fun _ h=>⟨h.2.1,h.2.2.1⟩).mono (b9 n)
theorem rep_Move:zek w n 75 zao.d (fun m=>TLb m.t) :=
 ((zbj (n:=n) Tryz.underlying75 (by kernel_rfl) (.cons (k0:=1) rfl (by kernel_rfl) (zgz Tryz.underlying3) (.cons (k0:=1) rfl (by kernel_rfl) (zhg Tryz.underlying4) (.cons (k0:=3) rfl (by kernel_rfl) rep_Term .nil)))).map (fun p=>⟨p.1,p.2.1,p.2.2.1⟩) (fun _=>rfl) fun _ h=>h.2.2.1).mono (b9 n)
theorem rep_Moves:zek w n 71 (slD 5 zao.d) (fun xs=>xs.length<=maxLen/\∀ x ∈ xs,TLb x.t) :=
 zc6 (k:=5) Tryz.underlying71 (by kernel_rfl) (by decide) (fun _=>rfl) rep_Move
theorem rep_Bounds:zek w n 23 (slD 5 zan.d) (fun xs=>xs.length<=maxLen/\∀ x ∈ xs,Lb x.lo.abs/\Lb x.hi.abs) :=
 zc6 (k:=5) Tryz.underlying23 (by kernel_rfl) (by decide) (fun _=>rfl) rep_Bound
theorem rep_Act:zek w n 73 zb9.d (fun c=>c.guard.lb/\c.moves.length<=maxLen/\∀ m ∈ c.moves,TLb m.t) :=
 ((zbj (n:=n) Tryz.underlying73 (by kernel_rfl) (.cons (k0:=1) rfl (by kernel_rfl) (zgz Tryz.underlying3) (.cons (k0:=1) rfl (by kernel_rfl) (zgz Tryz.underlying3) (.cons (k0:=1) rfl (by kernel_rfl) (zgz Tryz.underlying3) (.cons (k0:=6) rfl (by kernel_rfl) rep_Form (.cons (k0:=1) rfl (by kernel_rfl) rep_Moves .nil)))))).map (fun p=>⟨p.1,p.2.1,p.2.2.1,p.2.2.2.1,p.2.2.2.2.1⟩) (fun _=>by rw [za0.d_eq];rfl) fun _ h=>⟨h.2.2.2.1,h.2.2.2.2.1⟩).mono (b9 n)
theorem rep_Proc:zek w n 102 zbp.d (fun _=>True) :=
 ((zbj (n:=n) Tryz.underlying102 (by kernel_rfl) (.cons (k0:=1) rfl (by kernel_rfl) (rep_str Tryz.underlying9) (.cons (k0:=1) rfl (by kernel_rfl) rep_strs (.cons (k0:=1) rfl (by kernel_rfl) (rep_raw Tryz.underlying100) .nil)))).map (fun p=>⟨p.1,p.2.1,p.2.2.1⟩) (fun _=>rfl) fun _ _=>trivial).mono (b9 n)
theorem rep_Procs:zek w n 36 (slD 3 zbp.d) (fun xs=>xs.length<=maxLen/\∀ x ∈ xs,True) :=
 zc6 (k:=3) Tryz.underlying36 (by kernel_rfl) (by decide) (fun _=>rfl) rep_Proc
theorem rep_Acts:zek w n 37 (slD 10 zb9.d) (fun xs=>xs.length<=maxLen/\∀ x ∈ xs,x.guard.lb/\x.moves.length<=maxLen/\∀ m ∈ x.moves,TLb m.t) :=
 zc6 (k:=10) Tryz.underlying37 (by kernel_rfl) (by decide) (fun _=>rfl) rep_Act
theorem rep_Sys:zek w n 39 zaz.d SysRd :=
 ((zbj (n:=n) Tryz.underlying39 (by kernel_rfl) (.cons (k0:=1) rfl (by kernel_rfl) rep_strs (.cons (k0:=1) rfl (by kernel_rfl) rep_Bounds (.cons (k0:=6) rfl (by kernel_rfl) rep_Form (.cons (k0:=1) rfl (by kernel_rfl) rep_Procs (.cons (k0:=1) rfl (by kernel_rfl) rep_Acts .nil)))))).map (fun p=>⟨p.1,p.2.1,p.2.2.1,p.2.2.2.1,p.2.2.2.2.1⟩) (fun _=>by rw [za0.d_eq];rfl) fun _ h=>⟨h.2.2.1,h.2.1.2,fun c hc=>⟨(h.2.2.2.2.1.2 c hc).1,(h.2.2.2.2.1.2 c hc).2.2⟩,⟨bK h.2.1.1 (by decide),bK h.2.2.2.2.1.1 (by decide)⟩,fun c hc=>bK (h.2.2.2.2.1.2 c hc).2.1 (by decide)⟩).mono (b9 n)
end
section
variable {w:World} {n:Nat}
theorem rep_RelsL:zek w n 40 (slD 4 za8.d) (fun xs=>xs.length<=maxLen/\∀ x ∈ xs,TLb x.t) :=
 zc6 (k:=4) Tryz.underlying40 (by kernel_rfl) (by decide) (fun _=>rfl) rep_Rel
theorem rep_bools:zek w n 67 (slD 1 zdr) (fun xs=>xs.length<=maxLen/\∀ x ∈ xs,True) :=
 zc6 (k:=1) Tryz.underlying67 (by kernel_rfl) (by decide) (fun _=>rfl) (zhg Tryz.underlying4)
end
theorem cmpZ_refl (a:Int):zbr a a=0:=by unfold zbr;split <;> (try split) <;> omega
theorem cmpRl_cp (r:za8):zc3 (cpR r) r=0:=by
 unfold zc3 cpR
 rw [show zgr (za1 r.t) r.t=0 from cmpT_eq (zbk _),show ze4 ⟨za1 r.t,r.eq⟩=ze4 r from rfl,cmpZ_refl];rfl
theorem gath_pre (f:za0):∀ ps,∃ ys,f.gath ps=ps++ys :=
 za0.ind (P:=fun f=>∀ ps,∃ ys,f.gath ps=ps++ys) (fun k r ks ih ps=>by
  rw [za0.gath_eq]
  split
  ·exact ⟨_,rfl⟩
  ·have:∀ (xs:List za0),(∀ g ∈ xs,g ∈ ks)->∀ qs:List za8,∃ ys,xs.foldl (fun a g=>g.gath a) qs=qs++ys:=fun xs=>by
    induction xs with
    | nil=>intro _ qs;exact ⟨[],by simp⟩
    | cons x xs ihx =>
     intro hx qs
     obtain ⟨y1,h1⟩:=ih x (hx x (bV ..)) qs
     obtain ⟨y2,h2⟩:=ihx (fun g hg=>hx g (cD _ hg)) (x.gath qs)
     exact ⟨y1++y2,by rw [cM,h2,h1,List.append_assoc]⟩
   exact this ks (fun g hg=>hg) ps) f
theorem sizeGo_ge {lim:Int}:∀ (ks:List za0) (n:Int),n<=zcu lim (ks.map za0.size) n
 | [],n=>Int.le_refl _
 | g :: ks,n=>by
  rw [bF,zcu]
  split
  ·rename_i h
   have h1:=sizeGo_ge (lim:=lim) ks (n+g.size (lim - n))
   have h2:=(g.size_bd (lim - n) (by omega)).1
   omega
  ·exact Int.le_refl _
theorem size_wid (f:za0):∀ lim:Int,0<=lim->f.size lim<=lim->(f.wid:Int)<=3*f.size lim :=
 za0.ind (P:=fun f=>∀ lim:Int,0<=lim->f.size lim<=lim->(f.wid:Int)<=3*f.size lim) (fun k r ks ih lim hl h=>by
  rw [za0.size_eq] at h ⊢
  rw [za0.wid_eq]
  have key:∀ (xs:List za0),(∀ g ∈ xs,g ∈ ks)->∀ n:Int,zcu lim (xs.map za0.size) n<=lim->(((xs.map za0.wid).sum:Nat):Int)<=3*(zcu lim (xs.map za0.size) n - n):=fun xs=>by
   induction xs with
   | nil=>intro _ n _;show (0:Int)<=3*(n - n);omega
   | cons x xs ihx =>
    intro hx n hn
    rw [bF,zcu] at hn
    rw [bF,bF,bS,zcu]
    split at hn
    ·rename_i e
     rw [if_pos e]
     have h1:=sizeGo_ge (lim:=lim) xs (n+x.size (lim - n))
     have h2:=ih x (hx x (bV ..)) (lim - n) (by omega) (by omega)
     have h3:=ihx (fun g hg=>hx g (cD _ hg)) _ hn
     omega
    ·omega
  have:=key (cnt k ks) (fun g hg=>zby hg) 1 h
  show (((3+((cnt k ks).map za0.wid).sum:Nat)):Int)<=3*zcu lim ((cnt k ks).map za0.size) 1
  omega) f
theorem ok_okB {L:Nat} (f:za0):f.ok L->f.lb->f.wid<=1000000000000->f.okB 20 L :=
 za0.ind (P:=fun f=>f.ok L->f.lb->f.wid<=1000000000000->f.okB 20 L) (fun k r ks ih h1 h2 h3=>by
  rw [za0.okB_eq]
  have o1:=(za0.ok_eq _ _).1 h1
  have o2:=(za0.lb_eq _).1 h2
  refine ⟨⟨o1.1,o2.1.2,?_⟩,fun g hg=>ih g (zby hg) (o1.2 g hg) (o2.2 g (zby hg)) (bK (wid_kid hg) h3)⟩
  rw [za0.wid_eq] at h3
  have:∀ xs:List za0,xs.length<=(xs.map za0.wid).sum:=fun xs=>by
   induction xs with
   | nil=>exact bG _
   | cons x xs ih=>rw [bF,bS,bN,za0.wid_eq];omega
  have:=this (cnt k ks)
  change 3+((cnt k ks).map za0.wid).sum<=1000000000000 at h3
  show (cnt k ks).length<=1000000000000
  omega) f
def geF (l r:zaf):za0:=zfb (leaR (subT l r))
def leF (l r:zaf):za0:=zfb (leaR (subT r l))
def bndF (s:zaz) (v:Nat) (t:zaf):List za0:=if (zed s v).is_=true then [geF t (zcn (zed s v).lo),leF t (zcn (zed s v).hi)] else []
def sndB (s:zaz) (c:zb9):Bool:=((decide (0<=c.proc/\c.proc<(s.procs.length:Int)) && decide (0<=c.from_/\c.from_<(nlocs s c.proc.toNat:Int))) && decide (0<=c.to_/\c.to_<(nlocs s c.proc.toNat:Int))) && !(c.moves.any fun m=>!zh9 s m)
def zaa (s:zaz) (i:Int):zb9 × Bool:=match zh3 s i with | none=>(act0,false) | some c=>(c,sndB s c)
def mvA (c:zb9) (v:Nat):zao × Bool:=match mvAt c v with | none=>(mv0,false) | some m=>(m,true)
def zd8 (c:zb9) (v:Nat):zaf × Bool:=match mvAt c v with | none=>(zh7 (v:Int),true) | some m=>if m.any=true then (⟨[],zi4⟩,false) else (za1 m.t,true)
def zf9 (s:zaz) (c:zb9) (v:Nat):List za0:=if (zd8 c v).2=true then bndF s v (zd8 c v).1 else if (zed s v).is_=true then [leF (zcn (zed s v).lo) (zcn (zed s v).hi)] else []
def canL (s:zaz) (c:zb9):List za0:=c.guard :: (List.range s.vars.length).flatMap (zf9 s c)
def zec (s:zaz) (c:zb9):za0:=zc5 (canL s c)
theorem zdn (F:Nat->List β) (j:Nat):(List.range (j+1)).flatMap F=(List.range j).flatMap F++F j:=by rw [List.range_succ,List.flatMap_append];simp
theorem zd5 (F:Nat->List β) (h:∀ v,(F v).length<=m) (j:Nat):((List.range j).flatMap F).length<=j*m:=by
 induction j with
 | zero=>simp
 | succ j ih=>rw [zdn,b7,Nat.succ_mul];have:=h j;omega
theorem zf4 {F:Nat->List β} {Q:β->Prop} (h:∀ v,v<n->∀ x ∈ F v,Q x):∀ x ∈ (List.range n).flatMap F,Q x:=fun x hx=>by
 obtain ⟨v,hv,hx⟩:=List.mem_flatMap.1 hx
 exact h v (cU.1 hv) x hx
theorem zic {L:Nat} {k:ZI} (h:ZOk L k):TOk 20 L (zcn k):=(TOk.num (ZI.lb_of _) (bK (zd2 h.1) h.2)).mono (bC _) (bG _)
theorem sub_tok {l r:zaf} {L:Nat} (hl:TOk n L l) (hr:TOk m L r) (hn:n+m<=400000000):TOk (n+m) (2*(L+3)+2) (subT l r) :=
 (addT_ok (hl.mono (bG _) (show L<=L+3 by omega)) ((TOk.mul hr (ZI.lb_of _) (show (ZI.of (-1)).abs.length<=2 from by decide)).plain (by omega)) (by omega)).mono (bG _) (by omega)
theorem at_okB {l r:zaf} (hl:TOk n 20 l) (hr:TOk m 20 r) (hn:n+m<=400000000) (e:Bool):(zfb ⟨za1 (subT l r),e⟩).okB (n+m) 50 :=
 zhi ((((sub_tok hl hr hn).plain (by omega)).plain (by omega)).mono (bG _) (by omega))
theorem var_tok (v:Int):TOk 1 20 (zh7 v):=(TOk.plain TOk.one (by decide)).mono (bG _) (by decide)
theorem bnd_num (hs:zcc 3 s) (v:Nat):TOk 20 20 (zcn (zed s v).lo)/\TOk 20 20 (zcn (zed s v).hi) :=
 ⟨(zic (bnd_ok hs v).1).mono (bG _) (by decide),(zic (bnd_ok hs v).2).mono (bG _) (by decide)⟩
theorem bndF_ok (hs:zcc 3 s) (v:Nat) (ht:TOk 20 20 t):∀ g ∈ bndF s v t,g.okB 40 50:=fun g hg=>by
 unfold bndF at hg
 split at hg
 ·rcases b5.1 hg with rfl | hg
  ·exact at_okB (n:=20) (m:=20) ht (bnd_num hs v).1 (by decide) false
  ·rw [bE.1 hg];exact at_okB (n:=20) (m:=20) (bnd_num hs v).2 ht (by decide) false
 ·cases hg
theorem bndF_len (s:zaz) (v:Nat) (t:zaf):(bndF s v t).length<=2:=by unfold bndF;split <;> simp
theorem zh2 {L:Nat} (hn:n<=1000000000) {fs:List za0} (h:∀ g ∈ fs,g.okB n L) (hl:fs.length<=1000000000000):(zc5 fs).okB n (L+1) :=
 zge (by decide) (by rw [bI];exact hl) fun g hg=>by
  obtain ⟨q,hq,rfl⟩:=b6.1 hg
  exact okB_cl hn q (h q hq)
theorem val_tok {c:zb9} (hc:ziv 3 c) (v:Nat):TOk 20 20 (zd8 c v).1:=by
 unfold zd8
 cases e:mvAt c v with
 | none=>exact (var_tok _).mono (by decide) (bG _)
 | some m =>
  show TOk 20 20 (if m.any=true then _ else _:zaf × Bool).1
  split
  ·exact ⟨bC _,(fun p hp=>by cases hp),zel,bC _⟩
  ·exact ((hc.mv m (by unfold mvAt at e;exact dA e)).plain (by decide)).mono (bG _) (by decide)
theorem canS_ok (hs:zcc 3 s) {c:zb9} (hc:ziv 3 c) (v:Nat):∀ g ∈ zf9 s c v,g.okB 40 50:=fun g hg=>by
 unfold zf9 at hg
 split at hg
 ·exact bndF_ok hs v (val_tok hc v) g hg
 ·split at hg
  ·rw [bE.1 hg];exact at_okB (n:=20) (m:=20) (bnd_num hs v).2 (bnd_num hs v).1 (by decide) false
  ·cases hg
theorem zk1 (s:zaz) (c:zb9) (v:Nat):(zf9 s c v).length<=2:=by
 unfold zf9;split
 ·exact bndF_len _ _ _
 ·split <;> simp
theorem form_okB {L:Nat} (hf:f.lb/\f.ok L) (hw:f.wid<=1000000000000):f.okB 20 L:=ok_okB f hf.2 hf.1 hw
theorem act0_ok:ziv 3 act0:=⟨⟨by rw [za0.lb_eq];exact ⟨⟨⟨zel,fun p hp=>by cases hp⟩,bC _⟩,fun g hg=>by cases hg⟩,by rw [za0.ok_eq];exact ⟨fun e=>absurd e (by decide),fun g hg=>absurd (zby hg) (by show g ∉ [];exact List.not_mem_nil)⟩⟩,bC _,fun m hm=>by cases hm⟩
theorem zeo (hs:zcc 3 s) (i:Int):ziv 3 (zaa s i).1:=by
 unfold zaa
 cases e:zh3 s i with
 | none=>exact act0_ok
 | some c =>
  refine hs.act c ?_
  unfold zh3 at e
  split at e
  ·exact cF e
  ·cases e
def SysW (s:zaz):Prop:=s.init.wid<=100/\∀ c ∈ s.acts,c.guard.wid<=100
theorem zj1 (hs:SysW s) (i:Int):(zaa s i).1.guard.wid<=100:=by
 unfold zaa
 cases e:zh3 s i with
 | none=>show act0.guard.wid<=100;rw [za0.wid_eq];decide
 | some c =>
  refine hs.2 c ?_
  unfold zh3 at e
  split at e
  ·exact cF e
  ·cases e
theorem can_ok (hs:zcc 3 s) {c:zb9} (hc:ziv 3 c) (hw:c.guard.wid<=100):∀ g ∈ canL s c,g.okB 40 50:=fun g hg=>by
 unfold canL at hg
 rcases b5.1 hg with rfl | hg
 ·exact za0.okB_mono (by decide) (by decide) _ (form_okB hc.guard (by omega))
 ·exact zf4 (fun v _=>canS_ok hs hc v) g hg
theorem bnd_is {b:zan} (h:s.bounds[v]?=some b):zed s v=b:=by unfold zed;rw [h];rfl
theorem bnd_no (h:s.bounds.length<=v):(zed s v).is_=false:=by unfold zed;rw [List.getElem?_eq_none h];rfl
theorem bndF_at {b:zan} (h:s.bounds[v]?=some b) (e:b.is_=true):bndF s v t=[geF t (zcn b.lo),leF t (zcn b.hi)]:=by unfold bndF;rw [bnd_is h,if_pos e]
theorem bndF_no (h:(zed s v).is_=false):bndF s v t=[]:=by unfold bndF;rw [h];rfl
theorem LCmpLe (l r:zaf) (hl:TOk 20 20 l) (hr:TOk 20 20 r):Fn Tryz.prog 154 [] [vI 3,(vT l),(vT r)] (vF (leF l r)) []:=by
 refine fB Tryz.func154 rfl 51 fun w H B a h=>Jq 0 [] [(0,vI 3),(4,vp 0 0),(5,vp 1 0),(6,vp 2 0)] [(0,.box (zT l)),(1,.box (zT r)),(2,.box zF0)] h fun a w h=>?_
 obtain ⟨r1,er1,vr1,or1,lr1⟩:=mkZ (v:=1) (m:=2) (ZI.len_of (by have:=pw2;omega));refine Jg 3 [(0,.call (Fn.cast (SOf 1 ⟨by omega,by omega⟩) (congrArg vz er1.symm))),(1,.call (zg4 r1 or1 (by omega)))] [] [(7,vp 3 0)] [] [(3,.box (zT (zcn r1)))] h fun a w h=>qW (Je 4 [] [0] [(10,vI 3)] h fun a w h=>qZ (Je 4 [(0,.cmp (op:=.eql) (m:=3) (n:=0) (b:=false) .i64 rfl)] [] [(11,vb false)] h fun a w h=>zas h (Je 4 [(0,.cmp (op:=.eql) (m:=3) (n:=1) (b:=false) .i64 rfl)] [11] [(18,vb false)] h fun a w h=>zas h (Je 4 [(0,.cmp (op:=.eql) (m:=3) (n:=2) (b:=false) .i64 rfl)] [18] [(24,vb false)] h fun a w h=>zas h (Jg 4 [(0,.cmp (op:=.eql) (m:=3) (n:=3) (b:=true) .i64 rfl)] [7,24] [(33,vb true)] [3] [] h fun a w h=>cS true h (fun _=>?_) nofun)))));refine Jq 4 [(2,.call (STSub r l (hr.mono (by decide) (by decide)) (hl.mono (by decide) (by decide)))),(3,.call (LLeast (subT r l) ((sub_tok hr hl (by decide)).mono (by decide) (by decide)))),(4,.call (LOf (leaR (subT r l)) (TOk.mono ((sub_tok hr hl (by decide)).plain (by decide)) (by decide) (by decide))))] [(6,vp 2 0)] [(2,.box (zF (zfb (leaR (subT r l)))))] h fun a w h=>qV (za9 (za5 (rA 2 (zF (zfb (leaR (subT r l)))) h zcq rfl ?_)));rfl
theorem LCmpGe (l r:zaf) (hl:TOk 20 20 l) (hr:TOk 20 20 r):Fn Tryz.prog 154 [] [vI 5,(vT l),(vT r)] (vF (geF l r)) []:=by
 refine fB Tryz.func154 rfl 51 fun w H B a h=>Jq 0 [] [(0,vI 5),(4,vp 0 0),(5,vp 1 0),(6,vp 2 0)] [(0,.box (zT l)),(1,.box (zT r)),(2,.box zF0)] h fun a w h=>?_
 obtain ⟨r1,er1,vr1,or1,lr1⟩:=mkZ (v:=1) (m:=2) (ZI.len_of (by have:=pw2;omega));refine Jg 3 [(0,.call (Fn.cast (SOf 1 ⟨by omega,by omega⟩) (congrArg vz er1.symm))),(1,.call (zg4 r1 or1 (by omega)))] [] [(7,vp 3 0)] [] [(3,.box (zT (zcn r1)))] h fun a w h=>qW (Je 4 [] [0] [(10,vI 5)] h fun a w h=>qZ (Je 4 [(0,.cmp (op:=.eql) (m:=5) (n:=0) (b:=false) .i64 rfl)] [] [(11,vb false)] h fun a w h=>zas h (Je 4 [(0,.cmp (op:=.eql) (m:=5) (n:=1) (b:=false) .i64 rfl)] [11] [(18,vb false)] h fun a w h=>zas h (Je 4 [(0,.cmp (op:=.eql) (m:=5) (n:=2) (b:=false) .i64 rfl)] [18] [(24,vb false)] h fun a w h=>zas h (Jg 4 [(0,.cmp (op:=.eql) (m:=5) (n:=3) (b:=false) .i64 rfl)] [7,24] [(33,vb false)] [3] [] h fun a w h=>zas h (Je 4 [(0,.cmp (op:=.eql) (m:=5) (n:=4) (b:=false) .i64 rfl)] [33] [(40,vb false)] h fun a w h=>zas h (Je 4 [(0,.cmp (op:=.eql) (m:=5) (n:=5) (b:=true) .i64 rfl)] [10,40] [(45,vb true)] h fun a w h=>cS true h (fun _=>?_) nofun)))))));refine Jq 4 [(2,.call (LCmpLe r l hr hl))] [(6,vp 2 0)] [(2,.box (zF (leF r l)))] h fun a w h=>qV (za9 (za5 (rA 2 (zF (leF r l)) h zcq rfl ?_)));rfl
theorem Lvariable (v:Nat) :Fn Tryz.prog 152 [] [vN v] (vT (zh7 (v:Int))) []:=by
 refine fB Tryz.func152 rfl 5 fun w H B a h=>Jq 0 [] [(0,vN v),(2,vp 0 0)] [(0,.box zT0)] h fun a w h=>Jd 1 [(1,.call (SVar (v:Int)))] [0] [] [(0,.box (zT (zh7 (v:Int))))] h fun a w h=>qV (rA 0 (zT (zh7 (v:Int))) h zea rfl ?_)
 rfl
theorem Lbounded (s:zaz) (v:Nat) (t:zaf) (hs:zcc 3 s) (ht:TOk 20 20 t):Fn Tryz.prog 153 [] [vG (zfo s),vN v,(vT t)] (vFs (bndF s v t)) []:=by
 have lbs:=hs.bnds;refine fB Tryz.func153 rfl 38 fun w H B a h=>Jq 0 [] [(1,vN v),(3,vp 0 0),(5,vp 1 0),(6,vW zaj)] [(0,.box (zfo s)),(1,.box (zT t))] h fun a w h=>qW ?_
 rcases bJ (decide ((v:Int)>=(s.bounds.length:Int))) with hc1 | hc2
 ·have hc1':=dT hc1;refine Je 2 [(3,.len (za4 5 zan.d s.bounds)),(4,.cmp (op:=.geq) (m:=(v:Int)) (n:=(s.bounds.length:Int)) (b:=true) .i64 hc1)] [] [(21,vb true)] h fun a w h=>cS true h (fun _=>?_) nofun
  refine Je 2 [] [21] [] h fun a w h=>qV (za5 ?_);replace h:=nilDSx 6 0 6 (vW zaj) h;refine rT (.c (cFs [])) h rfl ?_;have hz:bndF s v t=[]:=bndF_no (bnd_no (by omega));rw [hz];try rfl
 have hc2':=dF hc2;obtain ⟨x1,hx1⟩:=gl s.bounds v;refine Je 2 [(3,.len (za4 5 zan.d s.bounds)),(4,.cmp (op:=.geq) (m:=(v:Int)) (n:=(s.bounds.length:Int)) (b:=false) .i64 hc2),(9,.g (xD 17 15 kf_0 (za7 hx1 (f:=zan.d)) (OV.tmp 16 _)))] [] [(21,vb (!x1.is_))] h fun a w h=>cS (!x1.is_) h (fun hc3=>?_) (fun hc4=>?_)
 ·refine Je 2 [] [21] [] h fun a w h=>qV (za5 ?_);replace h:=nilDSx 6 0 6 (vW zaj) h;refine rT (.c (cFs [])) h rfl ?_;have hz:bndF s v t=[]:=bndF_no (by rw [bnd_is hx1];exact (show (x1.is_)=false from by simpa using hc3));rw [hz];try rfl
 refine qU (za2 (Jg 2 [(3,.g (xD 25 23 kf_0 (za7 hx1 (f:=zan.d)) (OV.tmp 24 _)))] [1,3,21] [(7,vp 2 0)] [0] [(2,.box ([cB x1.is_]++zi x1.lo++zi x1.hi))] h fun a w h=>Jq 3 [(3,.call (zg4 x1.lo (hs.bnd x1 (lM hx1)).1.1 (by have:=(hs.bnd x1 (lM hx1)).1.2;omega))),(4,.call (LCmpGe t (zcn x1.lo) ht ((zic (hs.bnd x1 (lM hx1)).1).mono (bG _) (by decide)))),(8,.call (zg4 x1.hi (hs.bnd x1 (lM hx1)).2.1 (by have:=(hs.bnd x1 (lM hx1)).2.2;omega))),(9,.call (LCmpLe t (zcn x1.hi) ht ((zic (hs.bnd x1 (lM hx1)).2).mono (bG _) (by decide)))),(10,.g (Op.buildD (d:=37) (len:=2) (rows:=[(geF t (zcn x1.lo)),(leF t (zcn x1.hi))].map za0.d) (rs:=[(31,(vF (geF t (zcn x1.lo)))),(36,(vF (leF t (zcn x1.hi))))]) kb_1 (.cons (i:=0) (OV.tmp 31 _) (.cons (i:=1) (OV.tmp 36 _) (.nil))) (by simp only [bF,bP,bW,bX,bU,za0.d_eq];kernel_rfl) rfl (by simp [za0.d_len]) (by decide) (by decide)))] [(6,(vFs [(geF t (zcn x1.lo)),(leF t (zcn x1.hi))]))] [] h fun a w h=>qV (rT (.c (cFs [(geF t (zcn x1.lo)),(leF t (zcn x1.hi))])) h rfl ?_)));have hz:bndF s v t=[(geF t (zcn x1.lo)),(leF t (zcn x1.hi))]:=bndF_at hx1 (by have:=(show (x1.is_)=true from by simpa using hc4);simpa using this);rw [hz];try rfl
theorem mc2_1:zbd Tryz.prog 150:=zbd.mk' (by kernel_rfl)
theorem mc2_7:zbd Tryz.prog 148:=zbd.mk' (by kernel_rfl)
theorem mc2_8:zbd Tryz.prog 187:=zbd.mk' (by kernel_rfl)
theorem Lsound1 (x l:Int) :Fn Tryz.prog 148 [(3,.box [cI l])] [vI x,vp 3 0] (vb (decide (0<=x/\x<l))) [(3,.box [cI l])]:=by
 refine fB Tryz.func148 rfl 11 fun w H B a h=>Jq 6 [] [(0,vI x),(1,vp 3 0),(3,vb false)] [(3,.box [cI l])] h fun a w h=>?_
 rcases bJ (decide (x>=0)) with hc1 | hc2
 ·have hc1':=dT hc1;refine Jp 6 [(1,.cmp (op:=.geq) (m:=x) (n:=0) (b:=true) .i64 hc1)] [(3,vb (decide (x<l)))] h fun a w h=>qV (rT (.c (cB (decide (x<l)))) h rfl ?_);have hz:decide (0<=x/\x<l)=(decide (x<l)):=by have h0:=dT hc1;exact decide_eq_decide.2 ⟨fun e=>e.2,fun e=>⟨h0,e⟩⟩
  rw [hz];try rfl
 have hc2':=dF hc2;refine Jp 6 [(1,.cmp (op:=.geq) (m:=x) (n:=0) (b:=false) .i64 hc2)] [(3,vb false)] h fun a w h=>qV (rT (.c (cB false)) h rfl ?_);have hz:decide (0<=x/\x<l)=(false):=by exact decide_eq_false (fun e=>dF hc2 e.1)
 rw [hz];try rfl
theorem Lsound2 (s:zaz) (m:zao) :Fn Tryz.prog 150 [(0,.box (zfo s))] [vG ([cI m.v,cB m.any,cPs m.t.parts]++zi m.t.k),vp 0 0] (vb (!zh9 s m)) [(0,.box (zfo s))]:=by
 refine fB Tryz.func150 rfl 15 fun w H B a h=>Jq 6 [] [(1,vp 0 0),(2,vp 6 0),(3,vb false)] [(0,.box (zfo s)),(6,.box ([cI m.v,cB m.any,cPs m.t.parts]++zi m.t.k))] h fun a w h=>?_
 rcases bJ (decide (m.v<0)) with hc1 | hc2
 ·have hc1':=dT hc1;refine Jg 7 [(2,.cmp (op:=.lss) (m:=m.v) (n:=0) (b:=true) .i64 hc1)] [1,2] [(3,vb true)] [6] [] h fun a w h=>qV (rT (.c (cB true)) h rfl ?_);have hz:(!zh9 s m)=(true):=(there_lo hc1);rw [hz];try rfl
 have hc2':=dF hc2;refine Jg 7 [(2,.cmp (op:=.lss) (m:=m.v) (n:=0) (b:=false) .i64 hc2),(8,.len (za4 1 zen s.vars))] [1,2] [(3,vb (decide (m.v>=(s.vars.length:Int))))] [6] [] h fun a w h=>qV (rT (.c (cB (decide (m.v>=(s.vars.length:Int))))) h rfl ?_);have hz:(!zh9 s m)=(decide (m.v>=(s.vars.length:Int))):=(by have:=dF hc2;unfold zh9;rw [decide_eq_true (p:=m.v>=0) (by omega),bL,<- decide_not];exact decide_eq_decide.2 (by omega));rw [hz];try rfl
theorem SIdxWS (pr:zao->Bool) (xs:List zao) (s:zaz) (hf:∀ x ∈ xs,Fn Tryz.prog 150 [(0,.box (zfo s))] [vG ([cI x.v,cB x.any,cPs x.t.parts]++zi x.t.k),vp 0 0] (vb (pr x)) [(0,.box (zfo s))]) (hl:xs.length<=9223372036854775807):Fn Tryz.prog 186 [(0,.box (zfo s))] [vS 5 (xs.map zao.d),.t (.c (.fn (.func 150) [] [.ptr 0 0]))] (vI (zde pr xs 0)) [(0,.box (zfo s))]:=by
 refine fB Tryz.func186 rfl 19 fun w H B a h=>Jq 5 [] [(0,vS 5 (xs.map zao.d)),(1,.t (.c (.fn (.func 150) [] [.ptr 0 0]))),(4,vI 0)] [(0,.box (zfo s))] h fun a w h=>qW (Je 5 [(1,.len (za4 5 zao.d xs))] [] [(7,vN xs.length),(8,vI 0)] h fun a w h=>qZ ?_)
 refine zc7 (ι:=(Nat)) (fun j=>j<=xs.length/\zde pr xs 0=zde pr (xs.drop j) j)
   [4] (fun j=>[(8,vN j)])
   [] (fun j=>[])
   (fun j=>xs.length - j) 0 ?_ h ?_
 ·exact ⟨bC _,rfl⟩
 clear h;rintro j a w hI h;obtain ⟨hI1,hI2⟩:=hI;refine Je 5 [] [] [(9,vb (decide ((j:Int)<(xs.length:Int))))] h fun a w h=>qW (zae ((j:Int)<(xs.length:Int)) h (fun hc1 hc1'=>?_) (fun hc4 hc4'=>?_))
 ·refine qU (za2 (qW (qZ (Je 5 [] [9] [(5,vN j)] h fun a w h=>?_))));obtain ⟨x1,hx1⟩:=gl xs j;refine Je 5 [(3,.g (xD 14 12 ki_2 (za7 hx1 (f:=zao.d)) (OV.tmp 13 _))),(5,.g (Op.callV (d:=16) (t:=11) (cap:=[.ptr 0 0]) (args:=[vG ([cI x1.v,cB x1.any,cPs x1.t.parts]++zi x1.t.k)]) (rs:=[(15,vG ([cI x1.v,cB x1.any,cPs x1.t.parts]++zi x1.t.k))]) (tys:=#[75]) (hf x1 (lM hx1)) mc2_1 (OVs.cons (OV.tmp 15 _) (OVs.nil))))] [] [(16,vb (pr x1))] h fun a w h=>cS (pr x1) h (fun hc2=>?_) (fun hc3=>?_)
  ·refine Je 5 [] [5,16] [(4,vN j)] h fun a w h=>qV (za9 (za5 (za5 (za9 (za5 (rT (.c (cI (j:Int))) h rfl ?_))))));have hz:zde pr xs 0=(j:Int):=by rw [hI2,zfx hx1,if_pos hc2]
   rw [hz];try rfl
  refine qU (za6 (za2 (Jf 5 [(0,.j1 j)] [5,16] [(8,vI ((j:Int)+1))] h fun a w h=>za2 (zab (x:=j) (y:=j+1) h ?_ ?_))))
  ·exact ⟨by have:=zac hx1;omega,by rw [hI2,zfx hx1,if_neg (by rw [hc3];exact Bool.noConfusion)]⟩
  (try simp);omega
 refine exA (Jp 5 [] [(4,vI (-1))] h fun a w h=>qV (rT (.c (cI (-1))) h rfl ?_));have hz:zde pr xs 0=-1:=by rw [hI2,cL (by omega)];rfl
 rw [hz];try rfl
theorem SAnyWS (pr:zao->Bool) (xs:List zao) (s:zaz) (hf:∀ x ∈ xs,Fn Tryz.prog 150 [(0,.box (zfo s))] [vG ([cI x.v,cB x.any,cPs x.t.parts]++zi x.t.k),vp 0 0] (vb (pr x)) [(0,.box (zfo s))]) (hl:xs.length<=9223372036854775807):Fn Tryz.prog 149 [(0,.box (zfo s))] [vS 5 (xs.map zao.d),.t (.c (.fn (.func 150) [] [.ptr 0 0]))] (vb (xs.any pr)) [(0,.box (zfo s))]:=by
 refine fB Tryz.func149 rfl 9 fun w H B a h=>Jq 5 [] [(0,vS 5 (xs.map zao.d)),(1,.t (.c (.fn (.func 150) [] [.ptr 0 0]))),(4,vb false)] [(0,.box (zfo s))] h fun a w h=>Jp 5 [(2,.call (SIdxWS pr xs s hf  hl))] [(4,vb (decide (zde pr xs 0>=0)))] h fun a w h=>qV (rT (.c (cB (decide (zde pr xs 0>=0)))) h rfl ?_)
 rw [<- idxB_any];try rfl
theorem LsoundN (s:zaz) (i:Int) (hi:zh3 s i=none):Fn Tryz.prog 108 [] [vG (zfo s),vI i] (.tup [.agg (acC act0),.c (cB false)]) []:=by
 refine fB Tryz.func108 rfl 65 fun w H B a h=>Jq 0 [] [(1,vI i),(2,vp 0 0),(4,vp 1 0),(5,vb false)] [(0,.box (zfo s)),(1,.box [cI 0,cI 0,cI 0,cI 0,nCl,cB false,.d (nsl []),cB false,nCl,nCl])] h fun a w h=>qW ?_
 rcases bJ (decide (i<0)) with hc1 | hc2
 ·have hc1':=dT hc1;refine Je 2 [(1,.cmp (op:=.lss) (m:=i) (n:=0) (b:=true) .i64 hc1)] [] [(18,vb true)] h fun a w h=>cS true h (fun _=>?_) nofun
  refine Je 2 [] [18] [] h fun a w h=>qV (za5 ?_);replace h:=zbe 1 4 3 [cI 0,cI 0,cI 0,cI 0,nCl,cB false,.d (nsl []),cB false,nCl,nCl] h;replace h:=zbe 1 8 6 [cI 0,cI 0,cI 0,cI 0,cPs [],cB false,.d (nsl []),cB false,nCl,nCl] h;replace h:=zbe 1 9 5 [cI 0,cI 0,cI 0,cI 0,cPs [],cB false,.d (nsl []),cB false,cFs [],nCl] h;refine zdl [.agg [cI 0,cI 0,cI 0,cI 0,cPs [],cB false,.d (nsl []),cB false,cFs [],.d (.sl 5 ([].map zao.d))],.c (cB false)] h Exit.ret (.inl rfl)  rfl ⟨RV.agg _ 1 0 _ _ _ _ ki_0 rfl rfl rfl rfl,RV.tmp _ _ rfl,trivial⟩ ?_;rfl
 have hc2':=dF hc2;refine Je 2 [(1,.cmp (op:=.lss) (m:=i) (n:=0) (b:=false) .i64 hc2),(6,.len (za4 10 zb9.d s.acts)),(7,.cmp (op:=.geq) (m:=i) (n:=(s.acts.length:Int)) (b:=true) .i64 (decide_eq_true (by have:=actAt_none hi;have:=dF hc2;omega)))] [] [(18,vb true)] h fun a w h=>cS true h (fun _=>?_) nofun
 refine Je 2 [] [18] [] h fun a w h=>qV (za5 ?_);replace h:=zbe 1 4 3 [cI 0,cI 0,cI 0,cI 0,nCl,cB false,.d (nsl []),cB false,nCl,nCl] h;replace h:=zbe 1 8 6 [cI 0,cI 0,cI 0,cI 0,cPs [],cB false,.d (nsl []),cB false,nCl,nCl] h;replace h:=zbe 1 9 5 [cI 0,cI 0,cI 0,cI 0,cPs [],cB false,.d (nsl []),cB false,cFs [],nCl] h;refine zdl [.agg [cI 0,cI 0,cI 0,cI 0,cPs [],cB false,.d (nsl []),cB false,cFs [],.d (.sl 5 ([].map zao.d))],.c (cB false)] h Exit.ret (.inl rfl)  rfl ⟨RV.agg _ 1 0 _ _ _ _ ki_0 rfl rfl rfl rfl,RV.tmp _ _ rfl,trivial⟩ ?_;rfl
theorem LsoundS (s:zaz) (ki:Nat) (c:zb9) (hc:ziv 3 c) (hps:s.procs.length<=6) (hka:s.acts[ki]?=some c):Fn Tryz.prog 108 [] [vG (zfo s),vN ki] (.tup [.agg ([cI c.proc,cI c.from_,cI c.to_,cI c.guard.kind,cPs c.guard.r.t.parts]++zi c.guard.r.t.k++[cB c.guard.r.eq,cFs c.guard.kids,.d (.sl 5 (c.moves.map zao.d))]),.c (cB (sndB s c))]) []:=by
 have lki:=zac hka;refine fB Tryz.func108 rfl 65 fun w H B a h=>Jq 0 [] [(1,vN ki),(2,vp 0 0),(4,vp 1 0),(5,vb false)] [(0,.box (zfo s)),(1,.box [cI 0,cI 0,cI 0,cI 0,nCl,cB false,.d (nsl []),cB false,nCl,nCl])] h fun a w h=>qW (Je 2 [(1,.cmp (op:=.lss) (m:=(ki:Int)) (n:=0) (b:=false) .i64 (show (decide ((ki:Int)<0))=false from decide_eq_false (by omega))),(6,.len (za4 10 zb9.d s.acts)),(7,.cmp (op:=.geq) (m:=(ki:Int)) (n:=(s.acts.length:Int)) (b:=false) .i64 (show (decide ((ki:Int)>=(s.acts.length:Int)))=false from decide_eq_false (by omega)))] [] [(18,vb false)] h fun a w h=>zas h (qU (za2 (Jg 2 [(3,.g (xD 23 21 ki_1 (za7 hka (f:=zb9.d)) (OV.tmp 22 _)))] [1,18] [(6,vp 2 0)] [] [(2,.box ([cI c.proc,cI c.from_,cI c.to_,cI c.guard.kind,cPs c.guard.r.t.parts]++zi c.guard.r.t.k++[cB c.guard.r.eq,cFs c.guard.kids,.d (.sl 5 (c.moves.map zao.d))]))] h fun a w h=>qW ?_))))
 rcases bJ (decide (c.proc<0)) with hc1 | hc2
 ·have hc1':=dT hc1;refine Je 3 [(2,.cmp (op:=.lss) (m:=c.proc) (n:=0) (b:=true) .i64 hc1)] [] [(35,vb true)] h fun a w h=>cS true h (fun _=>?_) nofun
  refine Jg 3 [] [35] [] [] [(1,.box ([cI c.proc,cI c.from_,cI c.to_,cI c.guard.kind,cPs c.guard.r.t.parts]++zi c.guard.r.t.k++[cB c.guard.r.eq,cFs c.guard.kids,.d (.sl 5 (c.moves.map zao.d))]))] h fun a w h=>qV (za5 (zdl [.agg ([cI c.proc,cI c.from_,cI c.to_,cI c.guard.kind,cPs c.guard.r.t.parts]++zi c.guard.r.t.k++[cB c.guard.r.eq,cFs c.guard.kids,.d (.sl 5 (c.moves.map zao.d))]),.c (cB false)] h Exit.ret (.inl rfl)  rfl ⟨RV.agg _ 1 0 _ _ _ _ ki_0 rfl rfl rfl rfl,RV.tmp _ _ rfl,trivial⟩ ?_));have hz:sndB s c=(false):=by unfold sndB;rw [decide_eq_false (p:=0<=c.proc/\c.proc<(s.procs.length:Int)) (by have:=dT hc1;omega)];rfl
  rw [hz];try rfl
 have hc2':=dF hc2;refine Je 3 [(2,.cmp (op:=.lss) (m:=c.proc) (n:=0) (b:=false) .i64 hc2),(8,.len (za4 3 zbp.d s.procs))] [] [(35,vb (decide (c.proc>=(s.procs.length:Int))))] h fun a w h=>zae (c.proc>=(s.procs.length:Int)) h (fun hc3 hc3'=>?_) (fun hc4 hc4'=>?_)
 ·refine Jg 3 [] [35] [] [] [(1,.box ([cI c.proc,cI c.from_,cI c.to_,cI c.guard.kind,cPs c.guard.r.t.parts]++zi c.guard.r.t.k++[cB c.guard.r.eq,cFs c.guard.kids,.d (.sl 5 (c.moves.map zao.d))]))] h fun a w h=>qV (za5 (zdl [.agg ([cI c.proc,cI c.from_,cI c.to_,cI c.guard.kind,cPs c.guard.r.t.parts]++zi c.guard.r.t.k++[cB c.guard.r.eq,cFs c.guard.kids,.d (.sl 5 (c.moves.map zao.d))]),.c (cB false)] h Exit.ret (.inl rfl)  rfl ⟨RV.agg _ 1 0 _ _ _ _ ki_0 rfl rfl rfl rfl,RV.tmp _ _ rfl,trivial⟩ ?_));have hz:sndB s c=(false):=by unfold sndB;rw [decide_eq_false (p:=0<=c.proc/\c.proc<(s.procs.length:Int)) (by have:=dT hc3;omega)];rfl
  rw [hz];try rfl
 refine qU (za2 ?_);obtain ⟨k,hkk⟩:∃ k_:Nat,c.proc=(k_:Int):=⟨_,(cG (by have:=dF hc2;omega)).symm⟩;replace h:=cvM [] [] [] [(2,.box ([cI (k:Int),cI c.from_,cI c.to_,cI c.guard.kind,cPs c.guard.r.t.parts]++zi c.guard.r.t.k++[cB c.guard.r.eq,cFs c.guard.kids,.d (.sl 5 (c.moves.map zao.d))]))] (by rw [hkk];kernel_rfl) h;obtain ⟨x1,hx1⟩:=gl s.procs k;refine Jg 3 [(4,.g (xD 41 38 kf_5 (za7 hx1 (f:=zbp.d)) (OV.tmp 40 _))),(7,.len (za4 1 zen x1.locs))] [35] [(7,vp 3 0)] [] [(3,.box [cI (x1.locs.length:Int)])] h fun a w h=>Je 4 [(0,.g (Op.makeFs (d:=45) (fn:=.func 148) [(7,3,0)]))] [7] [(8,.t (.c (.fn (.func 148) [] [.ptr 3 0])))] h fun a w h=>Jg 4 [(2,.g (Op.makeFs (d:=48) (fn:=.func 150) [(2,0,0)])),(3,.call (SAnyWS (fun m=>!zh9 s m) c.moves s (fun m _=>Lsound2 s m) (by have:=hc.len;omega)))] [2] [(9,vb (c.moves.any fun m=>!zh9 s m))] [0] [] h fun a w h=>?_
 rcases bJ (decide (0<=c.from_/\c.from_<(x1.locs.length:Int))) with hc5 | hc8
 ·have hc5':=dT hc5
  rcases bJ (decide (0<=c.to_/\c.to_<(x1.locs.length:Int))) with hc6 | hc7
  ·have hc6':=dT hc6;refine Jq 4 [(4,.g (Op.callV (d:=54) (t:=51) (cap:=[.ptr 3 0]) (args:=[vI c.from_]) (rs:=[(53,vI c.from_)]) (tys:=#[3]) (Fn.cast (Lsound1 c.from_ (x1.locs.length:Int)) (congrArg vb hc5)) mc2_7 (OVs.cons (OV.tmp 53 _) (OVs.nil)))),(9,.g (Op.callV (d:=59) (t:=56) (cap:=[.ptr 3 0]) (args:=[vI c.to_]) (rs:=[(58,vI c.to_)]) (tys:=#[3]) (Fn.cast (Lsound1 c.to_ (x1.locs.length:Int)) (congrArg vb hc6)) mc2_7 (OVs.cons (OV.tmp 58 _) (OVs.nil))))] [(4,vp 1 0),(5,vb (!(c.moves.any fun m=>!zh9 s m)))] [(1,.box ([cI (k:Int),cI c.from_,cI c.to_,cI c.guard.kind,cPs c.guard.r.t.parts]++zi c.guard.r.t.k++[cB c.guard.r.eq,cFs c.guard.kids,.d (.sl 5 (c.moves.map zao.d))]))] h fun a w h=>qV (zdl [.agg ([cI (k:Int),cI c.from_,cI c.to_,cI c.guard.kind,cPs c.guard.r.t.parts]++zi c.guard.r.t.k++[cB c.guard.r.eq,cFs c.guard.kids,.d (.sl 5 (c.moves.map zao.d))]),.c (cB (!(c.moves.any fun m=>!zh9 s m)))] h Exit.ret (.inl rfl)  rfl ⟨RV.agg _ 1 0 _ _ _ _ ki_0 rfl rfl rfl rfl,RV.tmp _ _ rfl,trivial⟩ ?_);have hz:sndB s c=(!(c.moves.any fun m=>!zh9 s m)):=by unfold sndB;rw [decide_eq_true (p:=0<=c.proc/\c.proc<(s.procs.length:Int)) (by have:=dF hc2;have:=dF hc4;omega),show c.proc.toNat=k by omega,show nlocs s k=x1.locs.length by unfold nlocs;rw [hx1];rfl,bL];rw [hc5,hc6];simp
   rw [hz,hkk];try rfl
  have hc7':=dF hc7;refine Jg 4 [(4,.g (Op.callV (d:=54) (t:=51) (cap:=[.ptr 3 0]) (args:=[vI c.from_]) (rs:=[(53,vI c.from_)]) (tys:=#[3]) (Fn.cast (Lsound1 c.from_ (x1.locs.length:Int)) (congrArg vb hc5)) mc2_7 (OVs.cons (OV.tmp 53 _) (OVs.nil)))),(9,.g (Op.callV (d:=59) (t:=56) (cap:=[.ptr 3 0]) (args:=[vI c.to_]) (rs:=[(58,vI c.to_)]) (tys:=#[3]) (Fn.cast (Lsound1 c.to_ (x1.locs.length:Int)) (congrArg vb hc7)) mc2_7 (OVs.cons (OV.tmp 58 _) (OVs.nil))))] [6,8,9] [] [2,3] [(1,.box ([cI (k:Int),cI c.from_,cI c.to_,cI c.guard.kind,cPs c.guard.r.t.parts]++zi c.guard.r.t.k++[cB c.guard.r.eq,cFs c.guard.kids,.d (.sl 5 (c.moves.map zao.d))]))] h fun a w h=>qV (zdl [.agg ([cI (k:Int),cI c.from_,cI c.to_,cI c.guard.kind,cPs c.guard.r.t.parts]++zi c.guard.r.t.k++[cB c.guard.r.eq,cFs c.guard.kids,.d (.sl 5 (c.moves.map zao.d))]),.c (cB false)] h Exit.ret (.inl rfl)  rfl ⟨RV.agg _ 1 0 _ _ _ _ ki_0 rfl rfl rfl rfl,RV.tmp _ _ rfl,trivial⟩ ?_);have hz:sndB s c=(false):=by unfold sndB;rw [decide_eq_true (p:=0<=c.proc/\c.proc<(s.procs.length:Int)) (by have:=dF hc2;have:=dF hc4;omega),show c.proc.toNat=k by omega,show nlocs s k=x1.locs.length by unfold nlocs;rw [hx1];rfl,bL];rw [hc5,hc7];simp
  rw [hz,hkk];try rfl
 have hc8':=dF hc8;refine Jg 4 [(4,.g (Op.callV (d:=54) (t:=51) (cap:=[.ptr 3 0]) (args:=[vI c.from_]) (rs:=[(53,vI c.from_)]) (tys:=#[3]) (Fn.cast (Lsound1 c.from_ (x1.locs.length:Int)) (congrArg vb hc8)) mc2_7 (OVs.cons (OV.tmp 53 _) (OVs.nil))))] [6,8,9] [] [2,3] [(1,.box ([cI (k:Int),cI c.from_,cI c.to_,cI c.guard.kind,cPs c.guard.r.t.parts]++zi c.guard.r.t.k++[cB c.guard.r.eq,cFs c.guard.kids,.d (.sl 5 (c.moves.map zao.d))]))] h fun a w h=>qV (zdl [.agg ([cI (k:Int),cI c.from_,cI c.to_,cI c.guard.kind,cPs c.guard.r.t.parts]++zi c.guard.r.t.k++[cB c.guard.r.eq,cFs c.guard.kids,.d (.sl 5 (c.moves.map zao.d))]),.c (cB false)] h Exit.ret (.inl rfl)  rfl ⟨RV.agg _ 1 0 _ _ _ _ ki_0 rfl rfl rfl rfl,RV.tmp _ _ rfl,trivial⟩ ?_);have hz:sndB s c=(false):=by unfold sndB;rw [decide_eq_true (p:=0<=c.proc/\c.proc<(s.procs.length:Int)) (by have:=dF hc2;have:=dF hc4;omega),show c.proc.toNat=k by omega,show nlocs s k=x1.locs.length by unfold nlocs;rw [hx1];rfl,bL];rw [hc8];simp
 rw [hz,hkk];try rfl
theorem Lsound (s:zaz) (i:Int) (hs:zcc 3 s):Fn Tryz.prog 108 [] [vG (zfo s),vi .i64 i] (.tup [.agg (acC (zaa s i).1),.c (cB (zaa s i).2)]) []:=by
 unfold zaa
 cases hi:zh3 s i with
 | none=>exact LsoundN s i hi
 | some c=>obtain ⟨ki,rfl,hka⟩:=actAt_some hi;exact LsoundS s ki c (hs.act c (cF hka)) hs.procs hka
theorem Lmove1 (m:zao) (v:Nat) :Fn Tryz.prog 187 [(1,.box [cI (v:Int)])] [vG ([cI m.v,cB m.any,cPs m.t.parts]++zi m.t.k),vp 1 0] (vb (m.v == (v:Int))) [(1,.box [cI (v:Int)])]:=by
 refine fB Tryz.func187 rfl 8 fun w H B a h=>Jq 6 [] [(1,vp 1 0),(2,vp 6 0),(3,vb false)] [(1,.box [cI (v:Int)]),(6,.box ([cI m.v,cB m.any,cPs m.t.parts]++zi m.t.k))] h fun a w h=>Jg 7 [] [1,2] [(3,vb (m.v == (v:Int)))] [6] [] h fun a w h=>qV (rT (.c (cB (m.v == (v:Int)))) h rfl ?_)
 rfl
theorem SIdxWM (pr:zao->Bool) (xs:List zao) (v:Nat) (hf:∀ x ∈ xs,Fn Tryz.prog 187 [(1,.box [cI (v:Int)])] [vG ([cI x.v,cB x.any,cPs x.t.parts]++zi x.t.k),vp 1 0] (vb (pr x)) [(1,.box [cI (v:Int)])]) (hl:xs.length<=9223372036854775807):Fn Tryz.prog 186 [(1,.box [cI (v:Int)])] [vS 5 (xs.map zao.d),.t (.c (.fn (.func 187) [] [.ptr 1 0]))] (vI (zde pr xs 0)) [(1,.box [cI (v:Int)])]:=by
 refine fB Tryz.func186 rfl 19 fun w H B a h=>Jq 5 [] [(0,vS 5 (xs.map zao.d)),(1,.t (.c (.fn (.func 187) [] [.ptr 1 0]))),(4,vI 0)] [(1,.box [cI (v:Int)])] h fun a w h=>qW (Je 5 [(1,.len (za4 5 zao.d xs))] [] [(7,vN xs.length),(8,vI 0)] h fun a w h=>qZ ?_)
 refine zc7 (ι:=(Nat)) (fun j=>j<=xs.length/\zde pr xs 0=zde pr (xs.drop j) j)
   [4] (fun j=>[(8,vN j)])
   [] (fun j=>[])
   (fun j=>xs.length - j) 0 ?_ h ?_
 ·exact ⟨bC _,rfl⟩
 clear h;rintro j a w hI h;obtain ⟨hI1,hI2⟩:=hI;refine Je 5 [] [] [(9,vb (decide ((j:Int)<(xs.length:Int))))] h fun a w h=>qW (zae ((j:Int)<(xs.length:Int)) h (fun hc1 hc1'=>?_) (fun hc4 hc4'=>?_))
 ·refine qU (za2 (qW (qZ (Je 5 [] [9] [(5,vN j)] h fun a w h=>?_))));obtain ⟨x1,hx1⟩:=gl xs j;refine Je 5 [(3,.g (xD 14 12 ki_2 (za7 hx1 (f:=zao.d)) (OV.tmp 13 _))),(5,.g (Op.callV (d:=16) (t:=11) (cap:=[.ptr 1 0]) (args:=[vG ([cI x1.v,cB x1.any,cPs x1.t.parts]++zi x1.t.k)]) (rs:=[(15,vG ([cI x1.v,cB x1.any,cPs x1.t.parts]++zi x1.t.k))]) (tys:=#[75]) (hf x1 (lM hx1)) mc2_8 (OVs.cons (OV.tmp 15 _) (OVs.nil))))] [] [(16,vb (pr x1))] h fun a w h=>cS (pr x1) h (fun hc2=>?_) (fun hc3=>?_)
  ·refine Je 5 [] [5,16] [(4,vN j)] h fun a w h=>qV (za9 (za5 (za5 (za9 (za5 (rT (.c (cI (j:Int))) h rfl ?_))))));have hz:zde pr xs 0=(j:Int):=by rw [hI2,zfx hx1,if_pos hc2]
   rw [hz];try rfl
  refine qU (za6 (za2 (Jf 5 [(0,.j1 j)] [5,16] [(8,vI ((j:Int)+1))] h fun a w h=>za2 (zab (x:=j) (y:=j+1) h ?_ ?_))))
  ·exact ⟨by have:=zac hx1;omega,by rw [hI2,zfx hx1,if_neg (by rw [hc3];exact Bool.noConfusion)]⟩
  (try simp);omega
 refine exA (Jp 5 [] [(4,vI (-1))] h fun a w h=>qV (rT (.c (cI (-1))) h rfl ?_));have hz:zde pr xs 0=-1:=by rw [hI2,cL (by omega)];rfl
 rw [hz];try rfl
theorem find_idx (pr:α->Bool):∀ (xs:List α) (n:Nat),(zde pr xs n<0->xs.find? pr=none)/\∀ k:Nat,zde pr xs n=((n+k:Nat):Int)->∃ x,xs[k]?=some x/\xs.find? pr=some x
 | [],n=>⟨fun _=>rfl,fun k h=>by unfold zde at h;omega⟩
 | x :: xs,n=>by
  unfold zde
  by_cases e:pr x=true
  ·rw [if_pos e]
   refine ⟨fun h=>by omega,fun k h=>⟨x,?_,by rw [cY,e]⟩⟩
   have:k=0:=by omega
   subst this;rfl
  ·rw [if_neg e]
   have ih:=find_idx pr xs (n+1)
   have he:pr x=false:=by simpa using e
   refine ⟨fun h=>by rw [cY,he];exact ih.1 h,fun k h=>?_⟩
   cases k with
   | zero =>
    exfalso
    have hx:∀ (ys:List α) (m:Nat),zde pr ys m<0\/(m:Int)<=zde pr ys m:=fun ys=>by
     induction ys with
     | nil=>intro m;left;unfold zde;omega
     | cons y ys ihy =>
      intro m;unfold zde;split
      ·right;omega
      ·rcases ihy (m+1) with h1 | h1
       ·left;exact h1
       ·right;omega
    rcases hx xs (n+1) with h1 | h1 <;> omega
   | succ k =>
    obtain ⟨y,h1,h2⟩:=ih.2 k (by rw [h];congr 1;omega)
    exact ⟨y,h1,by rw [cY,he];exact h2⟩
theorem idxB_len (pr:α->Bool):∀ (xs:List α) (n:Nat),zde pr xs n<0\/zde pr xs n<((n+xs.length:Nat):Int)
 | [],n=>by left;unfold zde;omega
 | x :: xs,n=>by
  unfold zde
  split
  ·right;rw [bN];omega
  ·rcases idxB_len pr xs (n+1) with h | h
   ·exact .inl h
   ·right;rw [bN];omega
theorem mvA_no {c:zb9} (h:zde (fun m:zao=>m.v == (v:Int)) c.moves 0<0):mvA c v=(mv0,false):=by
 unfold mvA mvAt;rw [(find_idx _ c.moves 0).1 h]
theorem mvA_at {c:zb9} {m:zao} (h:zde (fun m:zao=>m.v == (v:Int)) c.moves 0=(k:Int)) (hm:c.moves[k]?=some m):mvA c v=(m,true):=by
 obtain ⟨x,h1,h2⟩:=(find_idx _ c.moves 0).2 k (by rw [h,Nat.zero_add])
 rw [hm] at h1;injection h1 with h1
 unfold mvA mvAt;rw [h2,h1]
theorem Lmove (c:zb9) (v:Nat) (hc:ziv 3 c):Fn Tryz.prog 151 [] [vG (acC c),vN v] (.tup [.agg ([cI (mvA c v).1.v,cB (mvA c v).1.any,cPs (mvA c v).1.t.parts]++zi (mvA c v).1.t.k),.c (cB (mvA c v).2)]) []:=by
 have lcm:=hc.len;have lix:=idxB_len (fun m:zao=>m.v == (v:Int)) c.moves 0;refine fB Tryz.func151 rfl 19 fun w H B a h=>Jq 0 [] [(2,vp 0 0),(3,vp 1 0),(4,vp 2 0),(5,vb false)] [(0,.box (acC c)),(1,.box [cI (v:Int)]),(2,.box [cI 0,cB false,nCl,cB false,.d (nsl [])])] h fun a w h=>Jg 3 [(2,.g (Op.makeFs (d:=9) (fn:=.func 187) [(3,1,0)])),(3,.call (SIdxWM (fun m:zao=>m.v == (v:Int)) c.moves v (fun m _=>Lmove1 m v) (by have:=hc.len;omega)))] [3] [(6,vI (zde (fun m:zao=>m.v == (v:Int)) c.moves 0))] [1] [] h fun a w h=>qW (Je 3 [] [] [(12,vb (decide ((zde (fun m:zao=>m.v == (v:Int)) c.moves 0)<0)))] h fun a w h=>zae ((zde (fun m:zao=>m.v == (v:Int)) c.moves 0)<0) h (fun hc1 hc1'=>?_) (fun hc2 hc2'=>?_))
 ·refine Je 3 [] [12] [] h fun a w h=>qV (za5 ?_);replace h:=zbe 2 2 3 [cI 0,cB false,nCl,cB false,.d (nsl [])] h;refine zdl [.agg [cI 0,cB false,cPs [],cB false,.d (nsl [])],.c (cB false)] h Exit.ret (.inl rfl)  rfl ⟨RV.agg _ 2 0 _ _ _ _ ki_5 rfl rfl rfl rfl,RV.tmp _ _ rfl,trivial⟩ ?_;rw [mvA_no (dT hc1)];try rfl
 refine qU (za2 ?_);obtain ⟨kx,hkkx⟩:∃ k_:Nat,(zde (fun m:zao=>m.v == (v:Int)) c.moves 0)=(k_:Int):=⟨_,(cG (by have:=dF hc2;omega)).symm⟩;replace h:=cvM [] [(6,vN kx)] [] [] (by rw [hkkx];kernel_rfl) h;obtain ⟨x2,hx2⟩:=gl c.moves kx;refine Jq 3 [(3,.g (xD 17 15 ki_2 (za7 hx2 (f:=zao.d)) (OV.tmp 16 _)))] [(4,vp 2 0),(5,vb true)] [(2,.box ([cI x2.v,cB x2.any,cPs x2.t.parts]++zi x2.t.k))] h fun a w h=>qV (zdl [.agg ([cI x2.v,cB x2.any,cPs x2.t.parts]++zi x2.t.k),.c (cB true)] h Exit.ret (.inl rfl)  rfl ⟨RV.agg _ 2 0 _ _ _ _ ki_5 rfl rfl rfl rfl,RV.tmp _ _ rfl,trivial⟩ ?_);rw [mvA_at hkkx hx2];try rfl
theorem mvA_tok {c:zb9} (hc:ziv 3 c) (v:Nat):TOk 20 3 (mvA c v).1.t:=by
 unfold mvA
 cases e:mvAt c v with
 | none=>exact ⟨bC _,(fun p hp=>by cases hp),zel,bC _⟩
 | some m=>exact hc.mv m (by unfold mvAt at e;exact dA e)
theorem valA_no {c:zb9} (h:(mvA c v).2=false):zd8 c v=(zh7 (v:Int),true):=by
 unfold mvA at h;unfold zd8
 cases e:mvAt c v with
 | none=>rfl
 | some m=>rw [e] at h;cases h
theorem valA_any {c:zb9} (h:(mvA c v).2=true) (a:(mvA c v).1.any=true):zd8 c v=(⟨[],zi4⟩,false):=by
 unfold mvA at h a;unfold zd8
 cases e:mvAt c v with
 | none=>rw [e] at h;cases h
 | some m=>rw [e] at a;exact if_pos a
theorem valA_set {c:zb9} (h:(mvA c v).2=true) (a:(mvA c v).1.any=false):zd8 c v=(za1 (mvA c v).1.t,true):=by
 unfold mvA at h a ⊢;unfold zd8
 cases e:mvAt c v with
 | none=>rw [e] at h;cases h
 | some m=>rw [e] at a;exact if_neg (by rw [show m.any=false from a];exact Bool.noConfusion)
theorem Lvalue (c:zb9) (v:Nat) (hc:ziv 3 c):Fn Tryz.prog 110 [] [vG (acC c),vN v] (.tup [.agg (zT (zd8 c v).1),.c (cB (zd8 c v).2)]) []:=by
 refine fB Tryz.func110 rfl 26 fun w H B a h=>Jq 0 [] [(1,vN v),(2,vp 0 0),(4,vp 1 0),(5,vb false)] [(0,.box (acC c)),(1,.box zT0)] h fun a w h=>Jg 2 [(2,.call (Lmove c v hc))] [2] [(6,vp 2 0),(7,vb (mvA c v).2)] [0] [(2,.box ([cI (mvA c v).1.v,cB (mvA c v).1.any,cPs (mvA c v).1.t.parts]++zi (mvA c v).1.t.k))] h fun a w h=>qW (qZ (Je 3 [] [7] [(14,vb (!(mvA c v).2))] h fun a w h=>cS (!(mvA c v).2) h (fun hc1=>?_) (fun hc2=>?_)))
 ·refine Jg 3 [(1,.call (Lvariable v))] [1,14] [(5,vb true)] [] [(1,.box (zT (zh7 (v:Int))))] h fun a w h=>qV (za9 (za5 (zdl [.agg (zT (zh7 (v:Int))),.c (cB true)] h Exit.ret (.inl rfl)  rfl ⟨RV.agg _ 1 0 _ _ _ _ zea rfl rfl rfl rfl,RV.tmp _ _ rfl,trivial⟩ ?_)));rw [valA_no (by have:=hc1;simpa using this)];try rfl
 refine Je 3 [] [1,14] [(19,vb (mvA c v).1.any)] h fun a w h=>cS (mvA c v).1.any h (fun hc3=>?_) (fun hc4=>?_)
 ·refine Je 3 [] [19] [] h fun a w h=>qV (za9 (za5 ?_));replace h:=zbe 1 0 3 zT0 h;refine zdl [.agg [cPs [],cB false,.d (nsl [])],.c (cB false)] h Exit.ret (.inl rfl)  rfl ⟨RV.agg _ 1 0 _ _ _ _ zea rfl rfl rfl rfl,RV.tmp _ _ rfl,trivial⟩ ?_;rw [valA_any (by have:=hc2;simpa using this) hc3];try rfl
 refine qU (za6 (za2 (Jq 3 [(2,.call (zdb (mvA c v).1.t (mvA_tok hc v) (by decide) (by decide)))] [(4,vp 1 0),(5,vb true)] [(1,.box (zT (za1 (mvA c v).1.t)))] h fun a w h=>qV (zdl [.agg (zT (za1 (mvA c v).1.t)),.c (cB true)] h Exit.ret (.inl rfl)  rfl ⟨RV.agg _ 1 0 _ _ _ _ zea rfl rfl rfl rfl,RV.tmp _ _ rfl,trivial⟩ ?_))));rw [valA_set (by have:=hc2;simpa using this) hc4];try rfl
theorem canS_t {c:zb9} (h:(zd8 c v).2=true):zf9 s c v=bndF s v (zd8 c v).1:=by unfold zf9;rw [if_pos h]
theorem canS_a {c:zb9} {b:zan} (h:(zd8 c v).2=false) (hb:s.bounds[v]?=some b) (e:b.is_=true):zf9 s c v=[leF (zcn b.lo) (zcn b.hi)]:=by unfold zf9;rw [h,if_neg Bool.noConfusion,bnd_is hb,if_pos e]
theorem canS_n {c:zb9} (h:(zd8 c v).2=false) (e:(zed s v).is_=false):zf9 s c v=[]:=by unfold zf9;rw [h,if_neg Bool.noConfusion,e];rfl
theorem Lcan (s:zaz) (c:zb9) (hs:zcc 3 s) (hc:ziv 3 c) (hg:c.guard.wid<=100):Fn Tryz.prog 111 [] [vG (zfo s),vG (acC c)] (vF (zec s c)) []:=by
 have lvs:=hs.vars;have lbs:=hs.bnds;have lcn:=zd5 (zf9 s c) (zk1 s c) s.vars.length;refine fB Tryz.func111 rfl 63 fun w H B a h=>Jq 5 [] [(2,vp 5 0),(3,vp 6 0),(4,vp 7 0)] [(5,.box (zfo s)),(6,.box (acC c)),(7,.box zF0)] h fun a w h=>Jg 8 [(2,.g (Op.buildO (d:=12) (n:=8) (len:=1) (rows:=[c.guard].map za0.d) (rs:=[(11,(vF c.guard))]) kb_1 (.cons (i:=0) (OV.tmp 11 _) (.nil)) (by simp only [bF,bP,bW,bX,bU,za0.d_eq];kernel_rfl) rfl (by simp [za0.d_len]) (by decide) (by decide)))] [] [(5,vO 8 1)] [] [(8,.row 35 6 ([c.guard].map za0.d))] h fun a w h=>qW (Je 9 [(2,.len (za4 1 zen s.vars))] [] [(15,vN s.vars.length),(16,vI 0)] h fun a w h=>qZ ?_)
 replace h:=cvM [] [] [] [(8,.row 35 6 (([c.guard]++(List.range 0).flatMap (zf9 s c)).map za0.d))] (by rw [<- show ([c.guard]:List za0)=([c.guard]++(List.range 0).flatMap (zf9 s c)) from (by simp)];kernel_rfl) h
 refine zc7 (ι:=(Nat)) (fun j=>j<=s.vars.length)
   [] (fun j=>[(5,vO 8 ([c.guard]++(List.range j).flatMap (zf9 s c)).length),(16,vN j)])
   [] (fun j=>[(8,.row 35 6 (([c.guard]++(List.range j).flatMap (zf9 s c)).map za0.d))])
   (fun j=>s.vars.length - j) 0 ?_ h ?_
 ·exact bC _
 clear h;rintro j a w hI h;have lcj:=zd5 (zf9 s c) (zk1 s c) j;have lbj:=bndF_len s j (zd8 c j).1;refine Je 9 [] [] [(17,vb (decide ((j:Int)<(s.vars.length:Int))))] h fun a w h=>qW (zae ((j:Int)<(s.vars.length:Int)) h (fun hc1 hc1'=>?_) (fun hc8 hc8'=>?_))
 ·refine qU (za2 (qW (qZ (Je 9 [] [17] [(6,vN j)] h fun a w h=>Jg 9 [(2,.call (Lvalue c j hc))] [] [(7,vp 9 0),(8,vb (zd8 c j).2)] [] [(9,.box (zT (zd8 c j).1))] h fun a w h=>Je 10 [] [8] [(25,vb (zd8 c j).2)] h fun a w h=>cS (zd8 c j).2 h (fun hc2=>?_) (fun hc3=>?_)))))
  ·refine Jh 10 [(4,.call (Lbounded s j (zd8 c j).1 hs (val_tok hc j))),(5,.g (aD 31 26 30 8 10 ([c.guard]++(List.range j).flatMap (zf9 s c)) (bndF s j (zd8 c j).1) za0.d la_7 (by simp [za0.d_len])))] [6,7,25] [(5,vO 10 (([c.guard]++(List.range j).flatMap (zf9 s c))++(bndF s j (zd8 c j).1)).length)] [8,9] [(10,.row 35 6 ((([c.guard]++(List.range j).flatMap (zf9 s c))++(bndF s j (zd8 c j).1)).map za0.d))] h fun a w h=>za6 (za2 (Jf 11 [(0,.j1 j)] [] [(16,vI ((j:Int)+1))] h fun a w h=>za2 ?_));rw [show ((([c.guard]++(List.range j).flatMap (zf9 s c))++(bndF s j (zd8 c j).1)):List za0)=([c.guard]++(List.range (j+1)).flatMap (zf9 s c)) from (by rw [zdn (zf9 s c) j,canS_t hc2];simp)] at h;replace h:=zcz 10 8 h;refine zab (x:=j) (y:=j+1) h ?_ ?_
   ·have:=dT hc1;show j+1<=s.vars.length;omega
   show s.vars.length - (j+1)<s.vars.length - j;have:=dT hc1;omega
  rcases bJ (decide ((j:Int)<(s.bounds.length:Int))) with hc4 | hc7
  ·have hc4':=dT hc4;obtain ⟨x3,hx3⟩:=gl s.bounds j;refine Jg 11 [(3,.len (za4 5 zan.d s.bounds)),(4,.cmp (op:=.lss) (m:=(j:Int)) (n:=(s.bounds.length:Int)) (b:=true) .i64 hc4),(9,.g (xD 41 39 kf_0 (za7 hx3 (f:=zan.d)) (OV.tmp 40 _)))] [7,25] [(44,vb x3.is_)] [9] [] h fun a w h=>cS x3.is_ h (fun hc5=>?_) (fun hc6=>?_)
   ·refine Jg 11 [(3,.g (xD 48 46 kf_0 (za7 hx3 (f:=zan.d)) (OV.tmp 47 _)))] [6,44] [(9,vp 11 0)] [] [(11,.box ([cB x3.is_]++zi x3.lo++zi x3.hi))] h fun a w h=>Jh 12 [(3,.call (zg4 x3.lo (hs.bnd x3 (lM hx3)).1.1 (by have:=(hs.bnd x3 (lM hx3)).1.2;omega))),(6,.call (zg4 x3.hi (hs.bnd x3 (lM hx3)).2.1 (by have:=(hs.bnd x3 (lM hx3)).2.2;omega))),(7,.call (LCmpLe (zcn x3.lo) (zcn x3.hi) ((zic (hs.bnd x3 (lM hx3)).1).mono (bG _) (by decide)) ((zic (hs.bnd x3 (lM hx3)).2).mono (bG _) (by decide)))),(8,.g (bD 58 ([(leF (zcn x3.lo) (zcn x3.hi))].map za0.d) [(57,(vF (leF (zcn x3.lo) (zcn x3.hi))))] kb_1 (.cons (i:=0) (OV.tmp 57 _) (.nil)) (by simp only [bF,bP,bW,bX,bU,za0.d_eq];kernel_rfl) (by simp [za0.d_len]))),(9,.g (aD 59 50 58 8 12 ([c.guard]++(List.range j).flatMap (zf9 s c)) [(leF (zcn x3.lo) (zcn x3.hi))] za0.d la_7 (by simp [za0.d_len])))] [9] [(5,vO 12 (([c.guard]++(List.range j).flatMap (zf9 s c))++[(leF (zcn x3.lo) (zcn x3.hi))]).length)] [8,11] [(12,.row 35 6 ((([c.guard]++(List.range j).flatMap (zf9 s c))++[(leF (zcn x3.lo) (zcn x3.hi))]).map za0.d))] h fun a w h=>za6 (za2 (Jf 13 [(0,.j1 j)] [] [(16,vI ((j:Int)+1))] h fun a w h=>za2 ?_));rw [show ((([c.guard]++(List.range j).flatMap (zf9 s c))++[(leF (zcn x3.lo) (zcn x3.hi))]):List za0)=([c.guard]++(List.range (j+1)).flatMap (zf9 s c)) from (by rw [zdn (zf9 s c) j,canS_a hc3 hx3 hc5];simp)] at h;replace h:=zcz 12 8 h;refine zab (x:=j) (y:=j+1) h ?_ ?_
    ·have:=dT hc1;show j+1<=s.vars.length;omega
    show s.vars.length - (j+1)<s.vars.length - j;have:=dT hc1;omega
   refine qU (za6 (za2 (Jf 13 [(0,.j1 j)] [6,44] [(16,vI ((j:Int)+1))] h fun a w h=>za2 ?_)));rw [show (([c.guard]++(List.range j).flatMap (zf9 s c)):List za0)=([c.guard]++(List.range (j+1)).flatMap (zf9 s c)) from (by rw [zdn (zf9 s c) j,canS_n hc3 (by rw [bnd_is hx3];exact hc6)];simp)] at h;refine zab (x:=j) (y:=j+1) h ?_ ?_
   ·have:=dT hc1;show j+1<=s.vars.length;omega
   show s.vars.length - (j+1)<s.vars.length - j;have:=dT hc1;omega
  have hc7':=dF hc7;refine Jg 13 [(3,.len (za4 5 zan.d s.bounds)),(4,.cmp (op:=.lss) (m:=(j:Int)) (n:=(s.bounds.length:Int)) (b:=false) .i64 hc7)] [7,25] [(44,vb false)] [9] [] h fun a w h=>zas h (qU (za6 (za2 (Jf 13 [(0,.j1 j)] [6,44] [(16,vI ((j:Int)+1))] h fun a w h=>za2 ?_))));rw [show (([c.guard]++(List.range j).flatMap (zf9 s c)):List za0)=([c.guard]++(List.range (j+1)).flatMap (zf9 s c)) from (by rw [zdn (zf9 s c) j,canS_n hc3 (bnd_no (by omega))];simp)] at h;refine zab (x:=j) (y:=j+1) h ?_ ?_
  ·have:=dT hc1;show j+1<=s.vars.length;omega
  show s.vars.length - (j+1)<s.vars.length - j;have:=dT hc1;omega
 refine exA ?_;rw [show (([c.guard]++(List.range j).flatMap (zf9 s c)):List za0)=(canL s c) from (by rw [show j=s.vars.length by have:=dF hc8;omega];rfl)] at h;replace h:=zia 8 6 35 ((canL s c).map za0.d) h [(canL s c).length] ⟨by first | exact (bI _).symm | (simp;done) | (simp;omega),trivial⟩;refine Jq 13 [(1,.call (LAll (canL s c) (fun g hg_=>za0.okB_mono (by decide) (by decide) _ (can_ok hs hc hg g hg_)) (by show List.length _<=_;unfold canL;rw [bN];omega)))] [(4,vp 7 0)] [(7,.box (zF (zec s c)))] h fun a w h=>qV (rA 7 (zF (zec s c)) h zcq rfl ?_);rfl
def offZ (s:zaz) (k:Nat):Int:=(k:Int)*(s.vars.length:Int)
def atF (s:zaz) (f:za0) (k:Nat):za0:=f.each (zcl (offZ s k))
def begB (s:zaz) (locs:List Int) (a:zb9):Bool:=decide (locs.length=s.procs.length) && ((locs[a.proc.toNat]?).getD 0 == a.from_)
def zgs (s:zaz) (locs:List Int) (i:Int):zb9 × Bool:=((zaa s i).1,(zaa s i).2 && begB s locs (zaa s i).1)
def zg9 (s:zaz) (locs:List Int) (v:Nat):List za0:=if (zgs s locs (v:Int)).2=true then [zim (zec s (zgs s locs (v:Int)).1)] else []
def stkF (s:zaz) (locs:List Int):za0:=zc5 ((List.range s.acts.length).flatMap (zg9 s locs))
theorem zhd (h:(zaa s i).2=true):0<=(zaa s i).1.proc/\(zaa s i).1.proc<(s.procs.length:Int):=by
 unfold zaa at h ⊢
 cases e:zh3 s i with
 | none=>rw [e] at h;cases h
 | some c =>
  rw [e] at h
  change sndB s c=true at h
  unfold sndB at h
  simp only [cJ,decide_eq_true_eq] at h
  exact h.1.1.1
theorem canF_ok (hs:zcc 3 s) {c:zb9} (hc:ziv 3 c) (hw:c.guard.wid<=100):(zec s c).okB 40 51:=zh2 (by decide) (can_ok hs hc hw) (by unfold canL;rw [bN];have:=zd5 (zf9 s c) (zk1 s c) s.vars.length;have:=hs.vars;omega)
theorem stkS_ok (hs:zcc 3 s) (hw:SysW s) (locs:List Int) (v:Nat):∀ g ∈ zg9 s locs v,g.okB 40 52:=fun g hg=>by
 unfold zg9 at hg
 split at hg
 ·rw [bE.1 hg]
  exact zge (by decide) (by simp) fun q hq=>by rw [bE.1 hq];exact okB_cl (by decide) _ (canF_ok hs (zeo hs _) (zj1 hw _))
 ·cases hg
theorem zjh (s:zaz) (locs:List Int) (v:Nat):(zg9 s locs v).length<=1:=by unfold zg9;split <;> simp
theorem stkF_ok (hs:zcc 3 s) (hw:SysW s) (locs:List Int):(stkF s locs).okB 40 53:=zh2 (by decide) (zf4 fun v _=>stkS_ok hs hw locs v) (by have:=zd5 (zg9 s locs) (zjh s locs) s.acts.length;have:=hs.acts;omega)
theorem Loffset (s:zaz) (k:Nat) (hs:zcc 3 s) (hk:k<=4096):Fn Tryz.prog 146 [] [vG (zfo s),vN k] (vI (offZ s k)) []:=by
 have lvs:=hs.vars;obtain ⟨mkv,hmkv⟩:∃ z_:Nat,z_=k*s.vars.length:=⟨_,rfl⟩;have hmk2:mkv<=4096*8:=by rw [hmkv];exact Nat.mul_le_mul hk lvs
 have hmk3:(k:Int)*(s.vars.length:Int)=(mkv:Int):=by rw [hmkv,Int.natCast_mul]
 refine fB Tryz.func146 rfl 12 fun w H B a h=>Jq 0 [] [(1,vN k),(2,vp 0 0),(4,vI 0)] [(0,.box (zfo s))] h fun a w h=>Jq 1 [(1,.g (Op.max2 (d:=6) (tys:=#[3,3]) (k:=.i64) (m:=(k:Int)) (n:=0) (r:=(k:Int)) (OV.tmp 5 _) (OV.const (.int .i64 0) rfl) (by omega))),(2,.g (Op.min2 (d:=7) (tys:=#[3,3]) (k:=.i64) (m:=(k:Int)) (n:=4096) (r:=(k:Int)) (OV.tmp 6 _) (OV.const (.int .i64 4096) rfl) (by omega))),(5,.len (za4 1 zen s.vars)),(6,.mul .i64 (m:=(k:Int)) (n:=(s.vars.length:Int)) i6)] [(4,vI ((k:Int)*(s.vars.length:Int)))] [] h fun a w h=>qV (rT (.c (cI ((k:Int)*(s.vars.length:Int)))) h rfl ?_)
 rfl
theorem Lat (s:zaz) (f:za0) (k:Nat) (hs:zcc 3 s) (hk:k<=4096) (hf:f.okB 40 200):Fn Tryz.prog 106 [] [vG (zfo s),(vF f),vN k] (vF (atF s f k)) []:=by
 refine fB Tryz.func106 rfl 12 fun w H B a h=>Jq 0 [] [(2,vN k),(3,vp 0 0),(4,vp 1 0),(6,vp 2 0)] [(0,.box (zfo s)),(1,.box (zF f)),(2,.box zF0)] h fun a w h=>Jq 3 [(3,.call (Loffset s k hs (by omega))),(4,.call (LMoveF f (offZ s k) (za0.okB_mono (by decide) (by decide) _ hf) (za0.okB_mono (by decide) (by decide) _ (okB_cl (by decide) _ hf))))] [(6,vp 2 0)] [(2,.box (zF (za0.each (zcl (offZ s k)) f)))] h fun a w h=>qV (rA 2 (zF (za0.each (zcl (offZ s k)) f)) h zcq rfl ?_)
 rfl
theorem Lbegins (s:zaz) (locs:List Int) (i:Int) (hs:zcc 3 s) (hl:locs.length<=9223372036854775807):Fn Tryz.prog 147 [] [.t (.agg (zfo s)),.t (.c (.d (.sl 1 (locs.map zb0)))),vI i] (.tup [.agg ([.d (.raw (.int .i64 (zgs s locs i).1.proc)),.d (.raw (.int .i64 (zgs s locs i).1.from_)),.d (.raw (.int .i64 (zgs s locs i).1.to_)),.d (.raw (.int .i64 (zgs s locs i).1.guard.kind)),.d (.sl 3 ((zgs s locs i).1.guard.r.t.parts.map za3.d))]++zi (zgs s locs i).1.guard.r.t.k++[.d (.raw (.bool (zgs s locs i).1.guard.r.eq)),.d (.sl 6 ((zgs s locs i).1.guard.kids.map za0.d)),.d (.sl 5 ((zgs s locs i).1.moves.map zao.d))]),.c (.d (.raw (.bool (zgs s locs i).2)))]) []:=by
 have lps:=hs.procs;have lpr:(zaa s i).2=true->0<=(zaa s i).1.proc/\(zaa s i).1.proc<(s.procs.length:Int):=zhd;refine fB Tryz.func147 rfl 36 fun w H B a h=>?_
 refine Jq 0 [] [(1,.t (.c (.d (.sl 1 (locs.map zb0))))),(2,vI i),(3,vp 0 0),(6,vp 1 0),(7,vb false)] [(0,.box (zfo s)),(1,.box [.d (.raw (.int .i64 0)),.d (.raw (.int .i64 0)),.d (.raw (.int .i64 0)),.d (.raw (.int .i64 0)),.d (.raw zaj),.d (.raw (.bool false)),.d (nsl []),.d (.raw (.bool false)),.d (.raw zaj),.d (.raw zaj)])] h fun a w h=>?_;refine Jq 2 [(2,.call (Lsound s i hs))] [(1,.t (.c (.d (.sl 1 (locs.map zb0))))),(3,vp 0 0),(6,vp 1 0),(7,vb false),(8,vp 2 0),(9,vb (zaa s i).2)] [(0,.box (zfo s)),(1,.box [.d (.raw (.int .i64 0)),.d (.raw (.int .i64 0)),.d (.raw (.int .i64 0)),.d (.raw (.int .i64 0)),.d (.raw zaj),.d (.raw (.bool false)),.d (nsl []),.d (.raw (.bool false)),.d (.raw zaj),.d (.raw zaj)]),(2,.box ([.d (.raw (.int .i64 (zaa s i).1.proc)),.d (.raw (.int .i64 (zaa s i).1.from_)),.d (.raw (.int .i64 (zaa s i).1.to_)),.d (.raw (.int .i64 (zaa s i).1.guard.kind)),.d (.sl 3 ((zaa s i).1.guard.r.t.parts.map za3.d))]++zi (zaa s i).1.guard.r.t.k++[.d (.raw (.bool (zaa s i).1.guard.r.eq)),.d (.sl 6 ((zaa s i).1.guard.kids.map za0.d)),.d (.sl 5 ((zaa s i).1.moves.map zao.d))]))] h fun a w h=>?_
 rcases bJ (zaa s i).2 with hc1 | hc4
 ·have lpx:=zhd hc1;rw [hc1] at h
  rcases bJ ((locs.length:Int) == (s.procs.length:Int)) with hc2 | hc3
  ·have hc2':=hc2;(try simp at hc2');obtain ⟨kp,hkkp⟩:∃ k_:Nat,(zaa s i).1.proc=(k_:Int):=⟨_,(cG ((zhd hc1).1)).symm⟩;replace h:=h.conv (f':=F.of [(1,.t (.c (.d (.sl 1 (locs.map zb0))))),(3,vp 0 0),(6,vp 1 0),(7,vb false),(8,vp 2 0),(9,vb true)] [(0,.box (zfo s)),(1,.box [.d (.raw (.int .i64 0)),.d (.raw (.int .i64 0)),.d (.raw (.int .i64 0)),.d (.raw (.int .i64 0)),.d (.raw zaj),.d (.raw (.bool false)),.d (nsl []),.d (.raw (.bool false)),.d (.raw zaj),.d (.raw zaj)]),(2,.box ([.d (.raw (.int .i64 (kp:Int))),.d (.raw (.int .i64 (zaa s i).1.from_)),.d (.raw (.int .i64 (zaa s i).1.to_)),.d (.raw (.int .i64 (zaa s i).1.guard.kind)),.d (.sl 3 ((zaa s i).1.guard.r.t.parts.map za3.d))]++zi (zaa s i).1.guard.r.t.k++[.d (.raw (.bool (zaa s i).1.guard.r.eq)),.d (.sl 6 ((zaa s i).1.guard.kids.map za0.d)),.d (.sl 5 ((zaa s i).1.moves.map zao.d))]))]) (by rw [hkkp]);obtain ⟨x2,hx2⟩:=gl locs kp;refine Jq 3 [(4,.len (za4 1 zb0 locs)),(7,.len (za4 3 zbp.d s.procs)),(8,.cmp (op:=.eql) (m:=(locs.length:Int)) (n:=(s.procs.length:Int)) (b:=true) .i64 hc2),(14,.g (xD 30 27 tb_1 (za7 hx2 (f:=zb0)) (OV.tmp 29 _)))] [(6,vp 1 0),(7,vb (x2 == (zaa s i).1.from_))] [(1,.box ([.d (.raw (.int .i64 (kp:Int))),.d (.raw (.int .i64 (zaa s i).1.from_)),.d (.raw (.int .i64 (zaa s i).1.to_)),.d (.raw (.int .i64 (zaa s i).1.guard.kind)),.d (.sl 3 ((zaa s i).1.guard.r.t.parts.map za3.d))]++zi (zaa s i).1.guard.r.t.k++[.d (.raw (.bool (zaa s i).1.guard.r.eq)),.d (.sl 6 ((zaa s i).1.guard.kids.map za0.d)),.d (.sl 5 ((zaa s i).1.moves.map zao.d))]))] h fun a w h=>?_;refine qV ?_;refine zdl [.agg ([.d (.raw (.int .i64 (kp:Int))),.d (.raw (.int .i64 (zaa s i).1.from_)),.d (.raw (.int .i64 (zaa s i).1.to_)),.d (.raw (.int .i64 (zaa s i).1.guard.kind)),.d (.sl 3 ((zaa s i).1.guard.r.t.parts.map za3.d))]++zi (zaa s i).1.guard.r.t.k++[.d (.raw (.bool (zaa s i).1.guard.r.eq)),.d (.sl 6 ((zaa s i).1.guard.kids.map za0.d)),.d (.sl 5 ((zaa s i).1.moves.map zao.d))]),.c (.d (.raw (.bool (x2 == (zaa s i).1.from_))))] h Exit.ret (.inl rfl)  rfl ⟨RV.agg _ 1 0 _ _ _ _ ki_0 rfl rfl rfl rfl,RV.tmp _ _ rfl,trivial⟩ ?_;have hz:(zgs s locs i).2=(x2 == (zaa s i).1.from_):=by show ((zaa s i).2 && begB s locs (zaa s i).1)=_;rw [hc1,bL];unfold begB;rw [decide_eq_true (p:=locs.length=s.procs.length) (by have:=hc2;simp at this;omega),bL,show (zaa s i).1.proc.toNat=kp by omega,hx2];rfl
   rw [hz,show (zgs s locs i).1.proc=(kp:Int) from hkkp];try rfl
  have hc3':=hc3;(try simp at hc3');obtain ⟨kp,hkkp⟩:∃ k_:Nat,(zaa s i).1.proc=(k_:Int):=⟨_,(cG ((zhd hc1).1)).symm⟩;replace h:=h.conv (f':=F.of [(1,.t (.c (.d (.sl 1 (locs.map zb0))))),(3,vp 0 0),(6,vp 1 0),(7,vb false),(8,vp 2 0),(9,vb true)] [(0,.box (zfo s)),(1,.box [.d (.raw (.int .i64 0)),.d (.raw (.int .i64 0)),.d (.raw (.int .i64 0)),.d (.raw (.int .i64 0)),.d (.raw zaj),.d (.raw (.bool false)),.d (nsl []),.d (.raw (.bool false)),.d (.raw zaj),.d (.raw zaj)]),(2,.box ([.d (.raw (.int .i64 (kp:Int))),.d (.raw (.int .i64 (zaa s i).1.from_)),.d (.raw (.int .i64 (zaa s i).1.to_)),.d (.raw (.int .i64 (zaa s i).1.guard.kind)),.d (.sl 3 ((zaa s i).1.guard.r.t.parts.map za3.d))]++zi (zaa s i).1.guard.r.t.k++[.d (.raw (.bool (zaa s i).1.guard.r.eq)),.d (.sl 6 ((zaa s i).1.guard.kids.map za0.d)),.d (.sl 5 ((zaa s i).1.moves.map zao.d))]))]) (by rw [hkkp]);refine Jq 3 [(4,.len (za4 1 zb0 locs)),(7,.len (za4 3 zbp.d s.procs)),(8,.cmp (op:=.eql) (m:=(locs.length:Int)) (n:=(s.procs.length:Int)) (b:=false) .i64 hc3)] [(6,vp 1 0),(7,vb false)] [(1,.box ([.d (.raw (.int .i64 (kp:Int))),.d (.raw (.int .i64 (zaa s i).1.from_)),.d (.raw (.int .i64 (zaa s i).1.to_)),.d (.raw (.int .i64 (zaa s i).1.guard.kind)),.d (.sl 3 ((zaa s i).1.guard.r.t.parts.map za3.d))]++zi (zaa s i).1.guard.r.t.k++[.d (.raw (.bool (zaa s i).1.guard.r.eq)),.d (.sl 6 ((zaa s i).1.guard.kids.map za0.d)),.d (.sl 5 ((zaa s i).1.moves.map zao.d))]))] h fun a w h=>?_;refine qV ?_;refine zdl [.agg ([.d (.raw (.int .i64 (kp:Int))),.d (.raw (.int .i64 (zaa s i).1.from_)),.d (.raw (.int .i64 (zaa s i).1.to_)),.d (.raw (.int .i64 (zaa s i).1.guard.kind)),.d (.sl 3 ((zaa s i).1.guard.r.t.parts.map za3.d))]++zi (zaa s i).1.guard.r.t.k++[.d (.raw (.bool (zaa s i).1.guard.r.eq)),.d (.sl 6 ((zaa s i).1.guard.kids.map za0.d)),.d (.sl 5 ((zaa s i).1.moves.map zao.d))]),.c (.d (.raw (.bool false)))] h Exit.ret (.inl rfl)  rfl ⟨RV.agg _ 1 0 _ _ _ _ ki_0 rfl rfl rfl rfl,RV.tmp _ _ rfl,trivial⟩ ?_;have hz:(zgs s locs i).2=(false):=by show ((zaa s i).2 && begB s locs (zaa s i).1)=_;rw [hc1,bL];unfold begB;rw [decide_eq_false (p:=locs.length=s.procs.length) (by have:=hc3;simp at this;omega),Bool.false_and]
  rw [hz,show (zgs s locs i).1.proc=(kp:Int) from hkkp];try rfl
 rw [hc4] at h;refine Jq 3 [] [(6,vp 1 0),(7,vb false)] [(1,.box ([.d (.raw (.int .i64 (zaa s i).1.proc)),.d (.raw (.int .i64 (zaa s i).1.from_)),.d (.raw (.int .i64 (zaa s i).1.to_)),.d (.raw (.int .i64 (zaa s i).1.guard.kind)),.d (.sl 3 ((zaa s i).1.guard.r.t.parts.map za3.d))]++zi (zaa s i).1.guard.r.t.k++[.d (.raw (.bool (zaa s i).1.guard.r.eq)),.d (.sl 6 ((zaa s i).1.guard.kids.map za0.d)),.d (.sl 5 ((zaa s i).1.moves.map zao.d))]))] h fun a w h=>?_;refine qV ?_;refine zdl [.agg ([.d (.raw (.int .i64 (zaa s i).1.proc)),.d (.raw (.int .i64 (zaa s i).1.from_)),.d (.raw (.int .i64 (zaa s i).1.to_)),.d (.raw (.int .i64 (zaa s i).1.guard.kind)),.d (.sl 3 ((zaa s i).1.guard.r.t.parts.map za3.d))]++zi (zaa s i).1.guard.r.t.k++[.d (.raw (.bool (zaa s i).1.guard.r.eq)),.d (.sl 6 ((zaa s i).1.guard.kids.map za0.d)),.d (.sl 5 ((zaa s i).1.moves.map zao.d))]),.c (.d (.raw (.bool false)))] h Exit.ret (.inl rfl)  rfl ⟨RV.agg _ 1 0 _ _ _ _ ki_0 rfl rfl rfl rfl,RV.tmp _ _ rfl,trivial⟩ ?_;have hz:(zgs s locs i).2=(false):=by show ((zaa s i).2 && begB s locs (zaa s i).1)=_;rw [hc4,Bool.false_and]
 rw [hz];try rfl
theorem Lstuck (s:zaz) (locs:List Int) (hs:zcc 3 s) (hw:SysW s) (hl:locs.length<=9223372036854775807):Fn Tryz.prog 107 [] [vG (zfo s),(vIs locs)] (vF (stkF s locs)) []:=by
 have las:=hs.acts;have lsn:=zd5 (zg9 s locs) (zjh s locs) s.acts.length;refine fB Tryz.func107 rfl 33 fun w H B a h=>Jq 5 [] [(1,(vIs locs)),(2,vp 5 0),(4,vp 6 0)] [(5,.box (zfo s)),(6,.box zF0)] h fun a w h=>Je 7 [] [] [(5,vW zaj)] h fun a w h=>qW (Je 7 [(2,.len (za4 10 zb9.d s.acts))] [] [(11,vN s.acts.length),(12,vI 0)] h fun a w h=>qZ ?_)
 replace h:=zeg 5 0 7 6 35 (vW zaj) h
 refine zc7 (ι:=(Nat)) (fun j=>j<=s.acts.length)
   [] (fun j=>[(5,vO 7 ((List.range j).flatMap (zg9 s locs)).length),(12,vN j)])
   [] (fun j=>[(7,.row 35 6 (((List.range j).flatMap (zg9 s locs)).map za0.d))])
   (fun j=>s.acts.length - j) 0 ?_ h ?_
 ·exact bC _
 clear h;rintro j a w hI h;have lsj:=zd5 (zg9 s locs) (zjh s locs) j;refine Je 8 [] [] [(13,vb (decide ((j:Int)<(s.acts.length:Int))))] h fun a w h=>qW (zae ((j:Int)<(s.acts.length:Int)) h (fun hc1 hc1'=>?_) (fun hc4 hc4'=>?_))
 ·refine qU (za2 (qW (qZ (Je 8 [] [13] [(6,vN j)] h fun a w h=>Jg 8 [(3,.call (Lbegins s locs (j:Int) hs hl))] [6] [(7,vp 8 0),(8,vb (zgs s locs (j:Int)).2)] [] [(8,.box (acC (zgs s locs (j:Int)).1))] h fun a w h=>Je 9 [] [8] [(22,vb (zgs s locs (j:Int)).2)] h fun a w h=>cS (zgs s locs (j:Int)).2 h (fun hc2=>?_) (fun hc3=>?_)))))
  ·refine Jh 9 [(3,.call (Lcan s (zgs s locs (j:Int)).1 hs (zeo hs _) (zj1 hw _))),(4,.call (LDeny (zec s (zgs s locs (j:Int)).1) (za0.okB_mono (by decide) (by decide) _ (canF_ok hs (zeo hs _) (zj1 hw _))))),(5,.g (bD 28 ([(zim (zec s (zgs s locs (j:Int)).1))].map za0.d) [(27,(vF (zim (zec s (zgs s locs (j:Int)).1))))] kb_1 (.cons (i:=0) (OV.tmp 27 _) (.nil)) (by simp only [bF,bP,bW,bX,bU,za0.d_eq];kernel_rfl) (by simp [za0.d_len]))),(6,.g (aD 29 23 28 7 9 ((List.range j).flatMap (zg9 s locs)) [(zim (zec s (zgs s locs (j:Int)).1))] za0.d la_7 (by simp [za0.d_len])))] [7,22] [(5,vO 9 (((List.range j).flatMap (zg9 s locs))++[(zim (zec s (zgs s locs (j:Int)).1))]).length)] [7,8] [(9,.row 35 6 ((((List.range j).flatMap (zg9 s locs))++[(zim (zec s (zgs s locs (j:Int)).1))]).map za0.d))] h fun a w h=>za6 (za2 (Jf 10 [(0,.j1 j)] [] [(12,vI ((j:Int)+1))] h fun a w h=>za2 ?_));rw [show ((((List.range j).flatMap (zg9 s locs))++[(zim (zec s (zgs s locs (j:Int)).1))]):List za0)=((List.range (j+1)).flatMap (zg9 s locs)) from (by rw [zdn (zg9 s locs) j,show zg9 s locs j=[zim (zec s (zgs s locs (j:Int)).1)] from if_pos hc2];first | done | simp)] at h;replace h:=zcz 9 7 h;refine zab (x:=j) (y:=j+1) h ?_ ?_
   ·have:=dT hc1;show j+1<=s.acts.length;omega
   show s.acts.length - (j+1)<s.acts.length - j;have:=dT hc1;omega
  refine qU (za6 (za2 (Jh 10 [(0,.j1 j)] [7,22] [(12,vI ((j:Int)+1))] [8] [] h fun a w h=>za2 ?_)));replace h:=cvM [] [(5,vO 7 ((List.range (j+1)).flatMap (zg9 s locs)).length)] [] [(7,.row 35 6 (((List.range (j+1)).flatMap (zg9 s locs)).map za0.d))] (by rw [<- show (((List.range j).flatMap (zg9 s locs)):List za0)=((List.range (j+1)).flatMap (zg9 s locs)) from (by rw [zdn (zg9 s locs) j,show zg9 s locs j=[] from if_neg (by rw [hc3];exact Bool.noConfusion)];first | done | simp)];kernel_rfl) h;refine zab (x:=j) (y:=j+1) h ?_ ?_
  ·have:=dT hc1;show j+1<=s.acts.length;omega
  show s.acts.length - (j+1)<s.acts.length - j;have:=dT hc1;omega
 refine exA ?_;replace h:=cvM [] [(5,vO 7 ((List.range s.acts.length).flatMap (zg9 s locs)).length)] [] [(7,.row 35 6 (((List.range s.acts.length).flatMap (zg9 s locs)).map za0.d))] (by rw [<- show (((List.range j).flatMap (zg9 s locs)):List za0)=((List.range s.acts.length).flatMap (zg9 s locs)) from (by rw [show j=s.acts.length by have:=dF hc4;omega])];kernel_rfl) h;replace h:=zia 7 6 35 (((List.range s.acts.length).flatMap (zg9 s locs)).map za0.d) h [((List.range s.acts.length).flatMap (zg9 s locs)).length] ⟨by first | exact (bI _).symm | (simp;done) | (simp;omega),trivial⟩;refine Jq 10 [(1,.call (LAll ((List.range s.acts.length).flatMap (zg9 s locs)) (fun g hg=>za0.okB_mono (by decide) (by decide) _ (zf4 (fun v _=>stkS_ok hs hw locs v) g hg)) (by omega)))] [(4,vp 6 0)] [(6,.box (zF (stkF s locs)))] h fun a w h=>qV (rA 6 (zF (stkF s locs)) h zcq rfl ?_);rfl
theorem LStuck (s:zaz) (locs:List Int) (k:Nat) (hs:zcc 3 s) (hw:SysW s) (hl:locs.length<=9223372036854775807) (hk:k<=4096):Fn Tryz.prog 69 [] [vG (zfo s),(vIs locs),vN k] (vF (atF s (stkF s locs) k)) []:=by
 refine fB Tryz.func69 rfl 13 fun w H B a h=>Jq 0 [] [(1,(vIs locs)),(2,vN k),(3,vp 0 0),(6,vp 1 0)] [(0,.box (zfo s)),(1,.box zF0)] h fun a w h=>Jq 2 [(3,.call (Lstuck s locs hs hw hl)),(5,.call (Lat s (stkF s locs) k hs hk (za0.okB_mono (by decide) (by decide) _ (stkF_ok hs hw locs))))] [(6,vp 1 0)] [(1,.box (zF (atF s (stkF s locs) k)))] h fun a w h=>qV (rA 1 (zF (atF s (stkF s locs) k)) h zcq rfl ?_)
 rfl
structure RunRd (r:RunD):Prop where
  stem:∀ x ∈ r.stem,StRd x
  cycle:∀ x ∈ r.cycle,StRd x
  len:r.stem.length+r.cycle.length<=9223372036854775807
  acts:r.acts.length<=9223372036854775807
theorem st0_rd:StRd st0:=⟨fun z hz=>(by cases hz),bC _⟩
theorem RunRd.at {r:RunD} (h:RunRd r) (i:Nat):StRd (runAt r i):=by
 unfold runAt
 cases hx:(r.stem++r.cycle)[i]? with
 | none=>exact st0_rd
 | some x=>exact (cH.1 (cF hx)).elim (h.stem x) (h.cycle x)
def PsOkW (ps:List za8):Prop:=ps.length<=1000/\∀ r ∈ ps,TokR 100 r
theorem PsOkW.tok (h:PsOkW ps):ps.length<=1000000000000/\∀ p ∈ ps,TOk 200000000 3000 p.t:=⟨bK h.1 (by decide),fun p hp=>(h.2 p hp).mono (by decide) (by decide)⟩
end S
end Go.Proofs.YtlcijejaplagbaaGreat
section
namespace Go.Proofs
open Go.Shelf

end Go.Proofs
end
namespace Go.Proofs.YtlcijejaplagbaaGreat
namespace S
structure SideD where
  times:ZI
  rest:zaf
def SideD.d (x:SideD):List D:=[.raw (.bool x.times.neg),nsl x.times.abs,.sl 3 (x.rest.parts.map za3.d),.raw (.bool x.rest.k.neg),nsl x.rest.k.abs]
structure SidesD where
  lows:List SideD
  highs:List SideD
  others:List za8
def SidesD.d (x:SidesD):List D:=[.sl 5 (x.lows.map SideD.d),.sl 5 (x.highs.map SideD.d),.sl 4 (x.others.map za8.d)]
def RsOk (rs:List za8):Prop:=rs.length<=20/\∀ r ∈ rs,TokR 8 r
section
open Go.RowKit Go.Sort
end
end S
theorem zhe {x y:Int} (hx:-1<=x/\x<=1) (hy:-1<=y/\y<=1):-1<=x*y/\x*y<=1:=by
 have h1:x=-1\/x=0\/x=1:=by omega
 rcases h1 with rfl | rfl | rfl <;> omega
theorem val_two (x:Nat):nV [x % 4294967296,x / 4294967296]=x:=by simp only [nV];omega
namespace S
variable {n M m k b:Nat} {q:za3} {t:zaf} {f:za0} {s:zaz} {α:Type} {ps:List za8} {i:Int} {y:Code} {sl:List (Nat × V)} {lc:List (Nat × L)} {K:Act->World->Prop} {ops:Array Oper} {draw:Bool} {a:Act} {w:World} {o:Obj} {H1 H:Im}
def RkOk (r:za8):Prop:=TOk 200000000 200 r.t
theorem RkOk.of {L:Nat} {r:za8} (h:TOk n L r.t) (hn:n<=200000000) (hL:L<=200):RkOk r:=h.mono hn hL
theorem RsOk.take {rs:List za8} (h:RsOk rs) (j:Nat):RsOk (rs.take j):=⟨by rw [cT];have:=h.1;omega,fun r hr=>h.2 r (cN hr)⟩
theorem SRScale (t:zaf) (q:ZI) {L:Nat} (ht:TOk n L t) (hn:n<=1000000000) (hq:Lb q.abs) (lq:q.abs.length<=M) (hL:L+M<=40000):Fn Tryz.prog 60 [] [(vT t),vz q] (vd (zb4 t q).d) []:=by
 have kt:=ht.kl;have nt:=ht.len;refine fB Tryz.func60 rfl 41 fun w H B a h=>Jq 0 [] [(2,vp 0 0),(3,vp 1 0),(4,vp 2 0)] [(0,.box (zT t)),(1,.box (zi q)),(2,.box zT0)] h fun a w h=>?_
 obtain ⟨r1,er1,vr1,or1,lr1⟩:=mkZ (v:=t.k.val*q.val) (m:=t.k.abs.length+q.abs.length) (zfv ht.kb hq);refine Jg 3 [(3,.call (Fn.cast (SRMul t.k q ht.kb hq (by omega) (by omega)) (congrArg vz er1.symm)))] [] [(5,vp 3 0)] [] [(3,.box ([nCl]++zi r1))] h fun a w h=>qW ?_;replace h:=zj2 3 0 4 3 124 ([nCl]++zi r1) h;refine Je 5 [] [] [(6,vI 0)] h fun a w h=>qZ ?_
 refine zc7 (ι:=(Nat) × (List za3)) (fun (j,out)=>out=(t.parts.take j).map (fun p=>za3.mk p.v (ZI.of (p.c.val*q.val)))/\j<=t.parts.length/\out.length<=j)
   [] (fun (j,out)=>[(6,vN j)])
   [] (fun (j,out)=>[(3,.box ([.own 4 out.length]++zi r1)),(4,.row 124 3 (out.map za3.d))])
   (fun (j,out)=>t.parts.length - j) (0,[]) ?_ h ?_
 ·exact ⟨by simp,bC _,bC _⟩
 clear h;rintro ⟨j,out⟩ a w hI h;dsimp only at h;obtain ⟨hI1,hI2,hI3⟩:=hI;refine qW (Je 5 [(3,.len (za4 3 za3.d t.parts))] [] [(16,vb (decide ((j:Int)<(t.parts.length:Int))))] h fun a w h=>zae ((j:Int)<(t.parts.length:Int)) h (fun hc1 hc1'=>?_) (fun hc2 hc2'=>?_))
 ·refine qU (za2 (qW (qZ ?_)));obtain ⟨x2,hx2⟩:=gl t.parts j;obtain ⟨ox2,lx2⟩:=ht.get hx2;obtain ⟨r3,er3,vr3,or3,lr3⟩:=mkZ (v:=x2.c.val*q.val) (m:=x2.c.abs.length+q.abs.length) (zfv ox2 hq);refine Jh 5 [(5,.g (xD 24 22 zbz (za7 hx2 (f:=za3.d)) (OV.tmp 23 _))),(11,.g (xD 30 28 zbz (za7 hx2 (f:=za3.d)) (OV.tmp 29 _))),(15,.call (Fn.cast (SRMul x2.c q ox2 hq (by omega) (by omega)) (congrArg vz er3.symm))),(17,.g (bD 36 ([(za3.mk x2.v r3)].map za3.d) [(35,vG ([cI x2.v]++zi r3))] tb_9 (.cons (i:=0) (OV.tmp 35 _) (.nil)) (by kernel_rfl) (by simp [za3.d]))),(18,.g (aD 37 20 36 4 5 out [(za3.mk x2.v r3)] za3.d zgw (by simp [za3.d])))] [16] [] [4] [(3,.box ([.own 5 (out++[(za3.mk x2.v r3)]).length]++zi r1)),(5,.row 124 3 ((out++[(za3.mk x2.v r3)]).map za3.d))] h fun a w h=>za6 (za2 (Jf 6 [(1,.j1 j)] [] [(6,vI ((j:Int)+1))] h fun a w h=>za2 ?_));replace h:=zcz 5 4 h;refine zab (x:=(j,out)) (y:=(j+1,(out++[(za3.mk x2.v r3)]))) h ?_ ?_
  ·refine ⟨?_,by have:=zac hx2;omega,by simp;omega⟩;rw [zjg hx2,<- hI1,er3]
  (try simp);omega
 refine exA ?_;have hj:j=t.parts.length:=by have:=hc2';omega
 rw [hj,List.take_length] at hI1;have hq2:zaf.mk out r1=mulT t q:=by rw [hI1,er1];try rfl
 replace h:=zia 4 3 124 (out.map za3.d) h [out.length] ⟨by first | exact (bI _).symm | (simp;done) | (simp;omega),trivial⟩;refine Jq 6 [(1,.call ((show Fn _ _ _ [vd (zaf.mk out r1).d] _ _ from by rw [hq2];exact SRPlain' (mulT t q) (TOk.mul ht hq lq) (by omega) (by omega))))] [(4,vp 2 0)] [(2,.box (zT (zb4 t q)))] h fun a w h=>qV (rA 2 (zT (zb4 t q)) h zea rfl ?_);rfl
theorem orZ2_r (a b:Int) (h:a=0):orZ [a,b]=b:=by
 unfold orZ;rw [if_neg (fun e=>e h)];unfold orZ
 split
 ·rfl
 ·rename_i e;exact (Classical.not_not.1 e).symm
theorem orZ2_l (a b:Int) (h:a≠0):orZ [a,b]=a:=by unfold orZ;rw [if_pos h]
theorem cmpP_same {p:za3} (h:p.v=q.v) (k:zbr p.c.val q.c.val=0):cmpP p q=0:=by
 unfold cmpP;rw [h,orZ2_r _ _ (cmpZ_refl _),k]
theorem cmpP_lt {p:za3} (h:p.v<q.v):cmpP p q=-1:=by
 have e:zbr p.v q.v=-1:=by unfold zbr;split <;> (try split) <;> omega
 unfold cmpP;rw [e];rfl
theorem cmpP_gt {p:za3} (h:p.v>q.v):cmpP p q=1:=by
 have e:zbr p.v q.v=1:=by unfold zbr;split <;> (try split) <;> omega
 unfold cmpP;rw [e];rfl
theorem cmpP_c {p:za3} (h:p.v=q.v) (_k:¬ zbr p.c.val q.c.val=0):cmpP p q=zbr p.c.val q.c.val:=by
 unfold cmpP;rw [h,orZ2_r _ _ (cmpZ_refl _)]
theorem cmpT_l0 {s:zaf} {c:Int} (h:zeb (za1 s).parts (za1 t).parts=c) (hc:c≠0):zgr s t=c:=by
 unfold zgr;rw [h,orZ2_l _ _ hc]
theorem cmpT_left {s:zaf} {a b c:Int} (h:zeb (za1 s).parts (za1 t).parts=if a≠0 then a else b) (ha:a=c) (hc:c≠0:=by first | decide | assumption):zgr s t=c:=by
 subst ha;rw [if_pos hc] at h;exact cmpT_l0 h hc
theorem cmpT_r {s:zaf} (h:zeb (za1 s).parts (za1 t).parts=0):zgr s t=zbr (za1 s).k.val (za1 t).k.val:=by
 unfold zgr;rw [h,orZ2_r _ _ rfl]
theorem LR3Cmp (s t:zaf) (hs:TOk 400000000 20000 s) (ht:TOk 400000000 20000 t):Fn Tryz.prog 55 [] [(vT s),(vT t)] (vI (zgr s t)) []:=by
 have lsp:=(hs.plain (by decide)).len;have ltp:=(ht.plain (by decide)).len;have lsk:=(hs.plain (by decide)).kl;have ltk:=(ht.plain (by decide)).kl;refine fB Tryz.func55 rfl 76 fun w H B a h=>Jq 0 [] [(2,vp 0 0),(3,vp 1 0),(4,vI 0)] [(0,.box (zT s)),(1,.box (zT t))] h fun a w h=>Jd 2 [(1,.call (SRPlain' s hs (by decide) (by decide))),(3,.call (SRPlain' t ht (by decide) (by decide)))] [2,3] [(5,vp 2 0),(6,vp 3 0)] [(2,.box (zT (za1 s))),(3,.box (zT (za1 t)))] h fun a w h=>qW (Je 4 [] [] [(7,vI 0)] h fun a w h=>qZ ?_)
 refine zc7 (ι:=(Nat)) (fun j=>j<=(za1 s).parts.length/\j<=(za1 t).parts.length/\zeb (za1 s).parts (za1 t).parts=zeb ((za1 s).parts.drop j) ((za1 t).parts.drop j))
   [4] (fun j=>[(7,vN j)])
   [] (fun j=>[])
   (fun j=>(za1 s).parts.length - j) 0 ?_ h ?_
 ·exact ⟨bC _,bC _,rfl⟩
 clear h;rintro j a w hI h;obtain ⟨hI1,hI2,hI3⟩:=hI;have hce:=cps_end hI1 hI2;refine qW ?_
 rcases bJ (decide ((j:Int)<((za1 s).parts.length:Int))) with hc1 | hc14
 ·have hc1':=dT hc1;refine Je 4 [(3,.len (za4 3 za3.d ((za1 s).parts))),(4,.cmp (op:=.lss) (m:=(j:Int)) (n:=((za1 s).parts.length:Int)) (b:=true) .i64 hc1),(9,.len (za4 3 za3.d ((za1 t).parts)))] [] [(26,vb (decide ((j:Int)<((za1 t).parts.length:Int))))] h fun a w h=>zae ((j:Int)<((za1 t).parts.length:Int)) h (fun hc2 hc2'=>?_) (fun hc9 hc9'=>?_)
  ·refine qU (za2 (qW (qZ ?_)));obtain ⟨x3,hx3⟩:=gl ((za1 s).parts) j;obtain ⟨ox3,lx3⟩:=((TOk.plain hs (by decide))).get hx3;obtain ⟨x4,hx4⟩:=gl ((za1 t).parts) j;obtain ⟨ox4,lx4⟩:=((TOk.plain ht (by decide))).get hx4;refine Jg 4 [(3,.g (xD 32 30 zbz (za7 hx3 (f:=za3.d)) (OV.tmp 31 _))),(8,.g (xD 37 35 zbz (za7 hx4 (f:=za3.d)) (OV.tmp 36 _)))] [26] [(8,vp 4 0),(9,vp 5 0)] [] [(4,.box ([cI x3.v]++zi x3.c)),(5,.box ([cI x4.v]++zi x4.c))] h fun a w h=>qW (Je 6 [] [] [(43,vb (decide (x3.v<x4.v)))] h fun a w h=>zae (x3.v<x4.v) h (fun hc3 hc3'=>?_) (fun hc4 hc4'=>?_))
   ·refine Je 6 [] [43] [(4,vI (-1))] h fun a w h=>qV (za5 (za9 (za5 (za5 (za9 (za5 (rT (.c (cI (-1))) h rfl ?_)))))));have p0:=dT hc3;have hz:zgr s t=-1:=cmpT_left (hI3.trans (cps_at hx3 hx4)) (cmpP_lt p0);rw [hz];try rfl
   refine qU (za2 (qW (Je 6 [] [43] [(48,vb (decide (x3.v>x4.v)))] h fun a w h=>zae (x3.v>x4.v) h (fun hc5 hc5'=>?_) (fun hc6 hc6'=>?_))))
   ·refine Je 6 [] [48] [(4,vI 1)] h fun a w h=>qV (za5 (za9 (za5 (za5 (za9 (za5 (rT (.c (cI 1)) h rfl ?_)))))));have p0:=dF hc4;have p1:=dT hc5;have hz:zgr s t=1:=cmpT_left (hI3.trans (cps_at hx3 hx4)) (cmpP_gt p1);rw [hz];try rfl
   refine qU (za2 (Jg 6 [(4,.call (SRCmp x3.c x4.c ox3 ox4 (by omega) (by omega)))] [8,9,48] [(10,vI (zbr x3.c.val x4.c.val))] [4,5] [] h fun a w h=>Je 6 [] [] [(55,vb (zbr x3.c.val x4.c.val != 0))] h fun a w h=>cS (zbr x3.c.val x4.c.val != 0) h (fun hc7=>?_) (fun hc8=>?_)))
   ·refine Je 6 [] [10,55] [(4,vI (zbr x3.c.val x4.c.val))] h fun a w h=>qV (za9 (za5 (za5 (za9 (za5 (rT (.c (cI (zbr x3.c.val x4.c.val))) h rfl ?_))))));have p0:=dF hc4;have p1:=dF hc6;have p2:¬zbr x3.c.val x4.c.val=0:=by have:=hc7;simpa using this
    have hz:zgr s t=zbr x3.c.val x4.c.val:=cmpT_left (hI3.trans (cps_at hx3 hx4)) (cmpP_c (by omega) p2);rw [hz];try rfl
   refine qU (za6 (za2 (Jf 6 [(1,.j1 j)] [10,55] [(7,vI ((j:Int)+1))] h fun a w h=>za2 (zab (x:=j) (y:=j+1) h ?_ ?_))))
   ·have:=zac hx3;have:=zac hx4;have p0:=dF hc4;have p1:=dF hc6;have p2:zbr x3.c.val x4.c.val=0:=by have:=hc8;simpa using this
    exact ⟨by omega,by omega,by rw [hI3,cps_at hx3 hx4,if_neg (fun e=>e (cmpP_same (by omega) p2))]⟩
   show (za1 s).parts.length - (j+1)<(za1 s).parts.length - j;have:=zac hx3;omega
  refine exA (qW (Je 6 [(2,.len (za4 3 za3.d ((za1 s).parts))),(5,.len (za4 3 za3.d ((za1 t).parts)))] [7,26] [(63,vb (decide (((za1 s).parts.length:Int)<((za1 t).parts.length:Int))))] h fun a w h=>zae (((za1 s).parts.length:Int)<((za1 t).parts.length:Int)) h (fun hc10 hc10'=>?_) (fun hc11 hc11'=>?_)))
  ·refine Je 6 [] [63] [(4,vI (-1))] h fun a w h=>qV (za5 (rT (.c (cI (-1))) h rfl ?_));have l0:=dT hc10;have hz:zgr s t=-1:=cmpT_l0 (hI3.trans (hce.2.1 (by omega) (by omega))) (by decide);rw [hz];try rfl
  refine qU (za2 (qW (Je 6 [(2,.len (za4 3 za3.d ((za1 s).parts))),(5,.len (za4 3 za3.d ((za1 t).parts)))] [63] [(70,vb (decide (((za1 s).parts.length:Int)>((za1 t).parts.length:Int))))] h fun a w h=>zae (((za1 s).parts.length:Int)>((za1 t).parts.length:Int)) h (fun hc12 hc12'=>?_) (fun hc13 hc13'=>?_))))
  ·refine Je 6 [] [70] [(4,vI 1)] h fun a w h=>qV (za5 (rT (.c (cI 1)) h rfl ?_));have l0:=dF hc11;have l1:=dT hc12;have hz:zgr s t=1:=cmpT_l0 (hI3.trans (hce.1 (by omega) (by omega))) (by decide);rw [hz];try rfl
  refine qU (za2 (Jq 6 [(4,.call (SRCmp (za1 s).k (za1 t).k ((TOk.plain hs (by decide))).kb ((TOk.plain ht (by decide))).kb (by omega) (by omega)))] [(4,vI (zbr (za1 s).k.val (za1 t).k.val))] [] h fun a w h=>qV (rT (.c (cI (zbr (za1 s).k.val (za1 t).k.val))) h rfl ?_)));have l0:=dF hc11;have l1:=dF hc13;have hz:zgr s t=zbr (za1 s).k.val (za1 t).k.val:=cmpT_r (hI3.trans (hce.2.2 (by omega) (by omega)));rw [hz];try rfl
 have hc14':=dF hc14;refine Je 6 [(3,.len (za4 3 za3.d ((za1 s).parts))),(4,.cmp (op:=.lss) (m:=(j:Int)) (n:=((za1 s).parts.length:Int)) (b:=false) .i64 hc14)] [] [(26,vb false)] h fun a w h=>zas h (exA (qW (Je 6 [(2,.len (za4 3 za3.d ((za1 s).parts))),(5,.len (za4 3 za3.d ((za1 t).parts)))] [7,26] [(63,vb (decide (((za1 s).parts.length:Int)<((za1 t).parts.length:Int))))] h fun a w h=>zae (((za1 s).parts.length:Int)<((za1 t).parts.length:Int)) h (fun hc15 hc15'=>?_) (fun hc16 hc16'=>?_))))
 ·refine Je 6 [] [63] [(4,vI (-1))] h fun a w h=>qV (za5 (rT (.c (cI (-1))) h rfl ?_));have l0:=dT hc15;have hz:zgr s t=-1:=cmpT_l0 (hI3.trans (hce.2.1 (by omega) (by omega))) (by decide);rw [hz];try rfl
 refine qU (za2 (qW (Je 6 [(2,.len (za4 3 za3.d ((za1 s).parts))),(5,.len (za4 3 za3.d ((za1 t).parts)))] [63] [(70,vb (decide (((za1 s).parts.length:Int)>((za1 t).parts.length:Int))))] h fun a w h=>zae (((za1 s).parts.length:Int)>((za1 t).parts.length:Int)) h (fun hc17 hc17'=>?_) (fun hc18 hc18'=>?_))))
 ·refine Je 6 [] [70] [(4,vI 1)] h fun a w h=>qV (za5 (rT (.c (cI 1)) h rfl ?_));have l0:=dF hc16;have l1:=dT hc17;have hz:zgr s t=1:=cmpT_l0 (hI3.trans (hce.1 (by omega) (by omega))) (by decide);rw [hz];try rfl
 refine qU (za2 (Jq 6 [(4,.call (SRCmp (za1 s).k (za1 t).k ((TOk.plain hs (by decide))).kb ((TOk.plain ht (by decide))).kb (by omega) (by omega)))] [(4,vI (zbr (za1 s).k.val (za1 t).k.val))] [] h fun a w h=>qV (rT (.c (cI (zbr (za1 s).k.val (za1 t).k.val))) h rfl ?_)));have l0:=dF hc16;have l1:=dF hc18;have hz:zgr s t=zbr (za1 s).k.val (za1 t).k.val:=cmpT_r (hI3.trans (hce.2.2 (by omega) (by omega)));rw [hz];try rfl
theorem LR4Cmp (x y:za8) (hx:TOk 400000000 20000 x.t) (hy:TOk 400000000 20000 y.t):Fn Tryz.prog 24 [] [.t (.agg ([.d (.sl 3 (x.t.parts.map za3.d))]++zi x.t.k++[.d (.raw (.bool x.eq))])),.t (.agg ([.d (.sl 3 (y.t.parts.map za3.d))]++zi y.t.k++[.d (.raw (.bool y.eq))]))] (vI (zc3 x y)) []:=by
 refine fB Tryz.func24 rfl 28 fun w H B a h=>Jq 0 [] [(2,vp 0 0),(3,vp 1 0),(4,vI 0)] [(0,.box ([.d (.sl 3 (x.t.parts.map za3.d))]++zi x.t.k++[.d (.raw (.bool x.eq))])),(1,.box ([.d (.sl 3 (y.t.parts.map za3.d))]++zi y.t.k++[.d (.raw (.bool y.eq))]))] h fun a w h=>qW (Je 2 [(4,.call (LR3Cmp x.t y.t hx hy))] [] [(5,vI (zgr x.t y.t))] h fun a w h=>Je 2 [] [] [(12,vb ((zgr x.t y.t) != 0))] h fun a w h=>cS ((zgr x.t y.t) != 0) h (fun hc1=>?_) (fun hc2=>?_))
 ·refine Je 2 [] [5,12] [(4,vI (zgr x.t y.t))] h fun a w h=>qV (za5 (rT (.c (.d (.raw (.int .i64 (zgr x.t y.t))))) h rfl ?_));have hz:zc3 x y=zgr x.t y.t:=orZ2_l _ _ (by have:=hc1;simpa using this);rw [hz];try rfl
 refine qU (za2 (qW ?_))
 rcases bJ x.eq with hc3 | hc6
 ·rw [hc3] at h;refine Jq 2 [] [(2,vp 0 0),(3,vp 1 0),(4,vI 0),(20,vb false)] [(0,.box ([.d (.sl 3 (x.t.parts.map za3.d))]++zi x.t.k++[.d (.raw (.bool true))])),(1,.box ([.d (.sl 3 (y.t.parts.map za3.d))]++zi y.t.k++[.d (.raw (.bool y.eq))]))] h fun a w h=>zas h (qU (za2 (qW (Jq 2 [] [(4,vI 0),(27,vb (!y.eq))] [] h fun a w h=>cS (!y.eq) h (fun hc4=>?_) (fun hc5=>?_)))))
  ·refine Jq 2 [] [(4,vI 1)] [] h fun a w h=>qV (za5 (rT (.c (.d (.raw (.int .i64 1)))) h rfl ?_));have hz:zc3 x y=1:=(orZ2_r _ _ (by have:=hc2;simpa using this)).trans (by unfold ze4 zbr;first | (simp [hc3,(show (y.eq)=false from by simpa using hc4)];done) | (cases hx_:x.eq <;> cases hy_:y.eq <;> simp_all));rw [hz];try rfl
  refine qU (za2 (Jd 2 [] [27] [] [] h fun a w h=>qV (rT (.c (.d (.raw (.int .i64 0)))) h rfl ?_)));have hz:zc3 x y=0:=(orZ2_r _ _ (by have:=hc2;simpa using this)).trans (by unfold ze4 zbr;first | (simp [hc3,(show (y.eq)=true from by simpa using hc5)];done) | (cases hx_:x.eq <;> cases hy_:y.eq <;> simp_all));rw [hz];try rfl
 rw [hc6] at h;refine Jq 2 [] [(2,vp 0 0),(3,vp 1 0),(4,vI 0),(20,vb y.eq)] [(0,.box ([.d (.sl 3 (x.t.parts.map za3.d))]++zi x.t.k++[.d (.raw (.bool false))])),(1,.box ([.d (.sl 3 (y.t.parts.map za3.d))]++zi y.t.k++[.d (.raw (.bool y.eq))]))] h fun a w h=>cS y.eq h (fun hc7=>?_) (fun hc8=>?_)
 ·refine Je 2 [] [20] [(4,vI (-1))] h fun a w h=>qV (za5 (rT (.c (.d (.raw (.int .i64 (-1))))) h rfl ?_));have hz:zc3 x y=(-1):=(orZ2_r _ _ (by have:=hc2;simpa using this)).trans (by unfold ze4 zbr;first | (simp [hc6,hc7];done) | (cases hx_:x.eq <;> cases hy_:y.eq <;> simp_all));rw [hz];try rfl
 refine qU (za2 (qW (Jq 2 [] [(4,vI 0),(27,vb false)] [] h fun a w h=>zas h (qU (za2 (Jd 2 [] [27] [] [] h fun a w h=>qV (rT (.c (.d (.raw (.int .i64 0)))) h rfl ?_)))))));have hz:zc3 x y=0:=(orZ2_r _ _ (by have:=hc2;simpa using this)).trans (by unfold ze4 zbr;first | (simp [hc6,hc8];done) | (cases hx_:x.eq <;> cases hy_:y.eq <;> simp_all));rw [hz];try rfl
theorem LR4Tight (r:za8) (hr:TOk 400000000 9000 r.t):Fn Tryz.prog 25 [] [.t (.agg ([.d (.sl 3 (r.t.parts.map za3.d))]++zi r.t.k++[.d (.raw (.bool r.eq))]))] (.tup [.agg ([.d (.sl 3 ((zam r).1.t.parts.map za3.d))]++zi (zam r).1.t.k++[.d (.raw (.bool (zam r).1.eq))]),.c (.d (.raw (.int .i64 (zam r).2)))]) []:=by
 have hpk:=(hr.plain (by decide)).kl;refine fB Tryz.func25 rfl 76 fun w H B a h=>Jq 0 [] [(1,vp 0 0),(2,vp 1 0),(3,vI 0)] [(0,.box ([.d (.sl 3 (r.t.parts.map za3.d))]++zi r.t.k++[.d (.raw (.bool r.eq))])),(1,.box zR0)] h fun a w h=>Jg 2 [(2,.call (SRPlain' r.t hr (by decide) (by decide)))] [] [(4,vp 2 0)] [] [(2,.box ([.d (.sl 3 ((za1 r.t).parts.map za3.d))]++zi (za1 r.t).k))] h fun a w h=>Je 3 [(2,.call (zc1 (za1 r.t).k ((TOk.plain hr (by decide))).kb (by omega)))] [] [(5,vI (sgn (za1 r.t).k.val))] h fun a w h=>qW (Je 3 [(2,.len (za4 3 za3.d ((za1 r.t).parts)))] [] [(21,vb (((za1 r.t).parts.length:Int) == 0))] h fun a w h=>cS (((za1 r.t).parts.length:Int) == 0) h (fun hc1=>?_) (fun hc8=>?_))
 ·refine qW ?_;have hpl:(za1 r.t).parts.length=0:=by have:=hc1;simpa using this
  rcases bJ (sgn (za1 r.t).k.val == 0) with hc2 | hc3
  ·refine Je 3 [(1,.cmp (op:=.eql) (m:=(sgn (za1 r.t).k.val)) (n:=0) (b:=true) .i64 hc2)] [5,21] [(32,vb true)] h fun a w h=>cS true h (fun _=>?_) nofun
   refine Je 3 [] [32] [(3,vI 1)] h fun a w h=>qV (za5 (za5 ?_));replace h:=zbe 1 0 3 zR0 h;refine zdl [.agg [.d (.sl 3 ([].map za3.d)),.d (.raw (.bool false)),.d (nsl []),.d (.raw (.bool false))],.c (.d (.raw (.int .i64 1)))] h Exit.ret (.inl rfl)  rfl ⟨RV.agg _ 1 0 _ _ _ _ zj5 rfl rfl rfl rfl,RV.tmp _ _ rfl,trivial⟩ ?_;rw [zgv hpl,hc2];try rfl
  rcases bJ r.eq with hc4 | hc5
  ·rw [hc4] at h;refine Jq 3 [(1,.cmp (op:=.eql) (m:=(sgn (za1 r.t).k.val)) (n:=0) (b:=false) .i64 hc3)] [(1,vp 0 0),(2,vp 1 0),(3,vI 0),(4,vp 2 0),(32,vb false)] [(0,.box ([.d (.sl 3 (r.t.parts.map za3.d))]++zi r.t.k++[.d (.raw (.bool true))])),(1,.box zR0),(2,.box ([.d (.sl 3 ((za1 r.t).parts.map za3.d))]++zi (za1 r.t).k))] h fun a w h=>zas h (qU (za2 (Je 3 [] [32] [(3,vI (-1))] h fun a w h=>qV (za5 ?_))));replace h:=zbe 1 0 3 zR0 h;refine zdl [.agg [.d (.sl 3 ([].map za3.d)),.d (.raw (.bool false)),.d (nsl []),.d (.raw (.bool false))],.c (.d (.raw (.int .i64 (-1))))] h Exit.ret (.inl rfl)  rfl ⟨RV.agg _ 1 0 _ _ _ _ zj5 rfl rfl rfl rfl,RV.tmp _ _ rfl,trivial⟩ ?_;rw [zgv hpl,hc3,hc4];try rfl
  rw [hc5] at h;refine Jq 3 [(1,.cmp (op:=.eql) (m:=(sgn (za1 r.t).k.val)) (n:=0) (b:=false) .i64 hc3)] [(1,vp 0 0),(2,vp 1 0),(3,vI 0),(4,vp 2 0),(32,vb (decide (sgn (za1 r.t).k.val>0)))] [(0,.box ([.d (.sl 3 (r.t.parts.map za3.d))]++zi r.t.k++[.d (.raw (.bool false))])),(1,.box zR0),(2,.box ([.d (.sl 3 ((za1 r.t).parts.map za3.d))]++zi (za1 r.t).k))] h fun a w h=>zae (sgn (za1 r.t).k.val>0) h (fun hc6 hc6'=>?_) (fun hc7 hc7'=>?_)
  ·refine Je 3 [] [32] [(3,vI 1)] h fun a w h=>qV (za5 (za5 ?_));replace h:=zbe 1 0 3 zR0 h;refine zdl [.agg [.d (.sl 3 ([].map za3.d)),.d (.raw (.bool false)),.d (nsl []),.d (.raw (.bool false))],.c (.d (.raw (.int .i64 1)))] h Exit.ret (.inl rfl)  rfl ⟨RV.agg _ 1 0 _ _ _ _ zj5 rfl rfl rfl rfl,RV.tmp _ _ rfl,trivial⟩ ?_;rw [zgv hpl,hc3,hc5,hc6];try rfl
  refine qU (za2 (Je 3 [] [32] [(3,vI (-1))] h fun a w h=>qV (za5 ?_)));replace h:=zbe 1 0 3 zR0 h;refine zdl [.agg [.d (.sl 3 ([].map za3.d)),.d (.raw (.bool false)),.d (nsl []),.d (.raw (.bool false))],.c (.d (.raw (.int .i64 (-1))))] h Exit.ret (.inl rfl)  rfl ⟨RV.agg _ 1 0 _ _ _ _ zj5 rfl rfl rfl rfl,RV.tmp _ _ rfl,trivial⟩ ?_;rw [zgv hpl,hc3,hc5,hc7];try rfl
 refine qU (za2 ?_);have hpl:(za1 r.t).parts.length≠0:=by have:=hc8;simpa using this
 have hcon:=con_pos (t:=r.t) (by omega);have hcon2:zbg (za1 (za1 r.t)).parts=zbg (za1 r.t).parts:=zfl _;have hsl:=shr_len r.t;obtain ⟨r3,er3,vr3,or3,lr3⟩:=mkZ (v:=zbg (za1 (za1 r.t)).parts) (m:=9002) (con_len' (TOk.plain hr (by decide)) (by decide));refine Jg 3 [(1,.call (Fn.cast (SRContent (za1 r.t) (TOk.plain hr (by decide)) (by decide) (by decide)) (congrArg vz er3.symm)))] [5,21] [(6,vp 3 0)] [] [(3,.box (zi r3))] h fun a w h=>?_;obtain ⟨r4q,er4q,vr4q,or4q,lr4q⟩:=mkZ (v:=(za1 r.t).k.val.fdiv r3.val) (m:=(za1 r.t).k.abs.length) (zfj ((TOk.plain hr (by decide))).kb (by omega));obtain ⟨r4r,er4r,vr4r,or4r,lr4r⟩:=mkZ (v:=(za1 r.t).k.val.fmod r3.val) (m:=r3.abs.length) (zgf or3 (by omega));refine Jg 4 [(3,.call (Fn.cast (SRDiv (za1 r.t).k r3 ((TOk.plain hr (by decide))).kb or3 (by omega) (by omega) (by omega)) (show _=(.tup [.agg (zi r4q),.agg (zi r4r),.c (.d (.raw (.int .i64 0)))]:V) by rw [er4q,er4r];try rfl)))] [6] [(8,vp 5 0)] [3] [(5,.box (zi r4r))] h fun a w h=>qW ?_
 rcases bJ r.eq with hc9 | hc14
 ·rw [hc9] at h;refine Jq 6 [(4,.call (zc1 r4r or4r (by omega)))] [(1,vp 0 0),(2,vp 1 0),(3,vI 0),(4,vp 2 0),(51,vb (sgn r4r.val != 0))] [(0,.box ([.d (.sl 3 (r.t.parts.map za3.d))]++zi r.t.k++[.d (.raw (.bool true))])),(1,.box zR0),(2,.box ([.d (.sl 3 ((za1 r.t).parts.map za3.d))]++zi (za1 r.t).k))] h fun a w h=>cS (sgn r4r.val != 0) h (fun hc10=>?_) (fun hc11=>?_)
  ·refine Je 6 [] [51] [(3,vI (-1))] h fun a w h=>qV (za5 ?_);replace h:=zbe 1 0 3 zR0 h;refine zdl [.agg [.d (.sl 3 ([].map za3.d)),.d (.raw (.bool false)),.d (nsl []),.d (.raw (.bool false))],.c (.d (.raw (.int .i64 (-1))))] h Exit.ret (.inl rfl)  rfl ⟨RV.agg _ 1 0 _ _ _ _ zj5 rfl rfl rfl rfl,RV.tmp _ _ rfl,trivial⟩ ?_;rw [tight_no hpl hc9 (by rw [<- vr3,<- vr4r];exact sgn_ne hc10)];try rfl
  refine qU (za2 (Jg 6 [(1,.call (SRShrink (za1 r.t) (TOk.plain hr (by decide)) (by decide) (by decide)))] [4,51] [(10,vp 6 0)] [2] [(6,.box ([.d (.sl 3 ((zbt (za1 r.t)).parts.map za3.d))]++zi (zbt (za1 r.t)).k))] h fun a w h=>qW ?_));obtain ⟨x7,hx7⟩:=gl ((zbt (za1 r.t)).parts) 0;obtain ⟨ox7,lx7⟩:=((shr_tok (TOk.plain hr (by decide)) (by decide))).get hx7;refine Je 8 [(5,.g (xD 63 62 zbz (za7 hx7 (f:=za3.d)) (OV.const (.int .i64 0) rfl))),(8,.call (zc1 x7.c ox7 (by omega)))] [] [(68,vb (decide (sgn x7.c.val<0)))] h fun a w h=>zae (sgn x7.c.val<0) h (fun hc12 hc12'=>?_) (fun hc13 hc13'=>?_)
  ·obtain ⟨r9,er9,vr9,or9,lr9⟩:=mkZ (v:=(-1)) (m:=2) (ZI.len_of (by have:=pw2;omega));refine Jh 8 [(1,.call (Fn.cast (SROf (-1) ⟨by omega,by omega⟩) (congrArg vz er9.symm))),(2,.call (SRScale (zbt (za1 r.t)) r9 (shr_tok (TOk.plain hr (by decide)) (by decide)) (by decide) or9 lr9 (by decide)))] [68] [] [] [(6,.box ([.d (.sl 3 ((zb4 (zbt (za1 r.t)) r9).parts.map za3.d))]++zi (zb4 (zbt (za1 r.t)) r9).k))] h fun a w h=>za2 (Jg 8 [] [1,10] [] [0,6] [(1,.box ([.d (.sl 3 ((zb4 (zbt (za1 r.t)) r9).parts.map za3.d))]++zi (zb4 (zbt (za1 r.t)) r9).k++[.d (.raw (.bool true))]))] h fun a w h=>qV (zdl [.agg ([.d (.sl 3 ((zb4 (zbt (za1 r.t)) r9).parts.map za3.d))]++zi (zb4 (zbt (za1 r.t)) r9).k++[.d (.raw (.bool true))]),.c (.d (.raw (.int .i64 0)))] h Exit.ret (.inl rfl)  rfl ⟨RV.agg _ 1 0 _ _ _ _ zj5 rfl rfl rfl rfl,RV.tmp _ _ rfl,trivial⟩ ?_));rw [er9];rw [zjf hpl hc9 (by rw [<- vr3,<- vr4r];exact sgn_eq hc11) (b:=true) (by rw [zju hx7];exact hc12)];try rfl
  refine qU (za2 (Jg 8 [] [1,10,68] [] [0,6] [(1,.box ([.d (.sl 3 ((zbt (za1 r.t)).parts.map za3.d))]++zi (zbt (za1 r.t)).k++[.d (.raw (.bool true))]))] h fun a w h=>qV (zdl [.agg ([.d (.sl 3 ((zbt (za1 r.t)).parts.map za3.d))]++zi (zbt (za1 r.t)).k++[.d (.raw (.bool true))]),.c (.d (.raw (.int .i64 0)))] h Exit.ret (.inl rfl)  rfl ⟨RV.agg _ 1 0 _ _ _ _ zj5 rfl rfl rfl rfl,RV.tmp _ _ rfl,trivial⟩ ?_)));rw [zjf hpl hc9 (by rw [<- vr3,<- vr4r];exact sgn_eq hc11) (b:=false) (by rw [zju hx7];exact hc13)];try rfl
 rw [hc14] at h;refine Jq 8 [] [(1,vp 0 0),(2,vp 1 0),(3,vI 0),(4,vp 2 0),(51,vb false)] [(0,.box ([.d (.sl 3 (r.t.parts.map za3.d))]++zi r.t.k++[.d (.raw (.bool false))])),(1,.box zR0),(2,.box ([.d (.sl 3 ((za1 r.t).parts.map za3.d))]++zi (za1 r.t).k))] h fun a w h=>zas h (qU (za2 (Jg 8 [(1,.call (SRShrink (za1 r.t) (TOk.plain hr (by decide)) (by decide) (by decide)))] [4,51] [(10,vp 8 0)] [2] [(8,.box ([.d (.sl 3 ((zbt (za1 r.t)).parts.map za3.d))]++zi (zbt (za1 r.t)).k))] h fun a w h=>qW (Je 10 [] [] [(68,vb false)] h fun a w h=>zas h (qU (za2 (Jg 10 [] [1,10,68] [] [0,8] [(1,.box ([.d (.sl 3 ((zbt (za1 r.t)).parts.map za3.d))]++zi (zbt (za1 r.t)).k++[.d (.raw (.bool false))]))] h fun a w h=>qV (zdl [.agg ([.d (.sl 3 ((zbt (za1 r.t)).parts.map za3.d))]++zi (zbt (za1 r.t)).k++[.d (.raw (.bool false))]),.c (.d (.raw (.int .i64 0)))] h Exit.ret (.inl rfl)  rfl ⟨RV.agg _ 1 0 _ _ _ _ zj5 rfl rfl rfl rfl,RV.tmp _ _ rfl,trivial⟩ ?_))))))));rw [tight_le hpl hc14];try rfl
theorem kid_okA2 {L:Nat} {g:za0} (h:f.okA n L) (hg:g ∈ f.kids):g.okA n L:=((za0.okA_eq _ _ _).1 h).2 g hg
theorem kid_nodes9 {g:za0} (hg:g ∈ f.kids):g.nodes<=f.nodes:=by
 rw [za0.nodes_eq f]
 obtain ⟨j,hj⟩:=List.getElem?_of_mem hg
 have:=zha f.kids j hj;omega
theorem me4_2:zbd Tryz.prog 160:=zbd.mk' (by kernel_rfl)
def hasV (t:zaf) (v:Int):Bool:=sgn (zai t.parts v) != 0
def forgK (vs:List Int) (k:Int) (r:za8) (ks cs:List za0):za0:=if k=2 then (if vs.any (hasV r.t)=true then zck true else ⟨k,r,ks⟩) else ⟨k,zR,cs⟩
def za0.forg (vs:List Int) (f:za0):za0:=f.fold (forgK vs)
theorem za0.forg_eq (vs:List Int) (f:za0):f.forg vs=forgK vs f.kind f.r f.kids (f.kids.map (za0.forg vs)):=za0.fold_eq _ f
theorem forg_t {vs:List Int} (h:f.kind=2) (k:vs.any (hasV f.r.t)=true):f.forg vs=zck true:=by rw [za0.forg_eq];unfold forgK;rw [if_pos h,if_pos k]
theorem forg_f {vs:List Int} (h:f.kind=2) (k:vs.any (hasV f.r.t)=false):f.forg vs=f:=by rw [za0.forg_eq];unfold forgK;rw [if_pos h,k,if_neg Bool.noConfusion];cases f;rfl
theorem forg_k {vs:List Int} (h:¬ f.kind=2):f.forg vs=⟨f.kind,zR,f.kids.map (za0.forg vs)⟩:=by rw [za0.forg_eq];unfold forgK;rw [if_neg h]
def zcv (c:zb9) (n:Nat):List Int:=(List.range n).flatMap fun v=>if (zd8 c v).2=true then [(v:Int)] else []
def zd9 (c:zb9) (n:Nat):List zaf:=(List.range n).flatMap fun v=>if (zd8 c v).2=true then [(zd8 c v).1] else []
def zcw (c:zb9) (n:Nat):List Int:=(List.range n).flatMap fun v=>if (zd8 c v).2=true then [] else [(v:Int)]
def preF (s:zaz) (act:Int) (f:za0):za0:=if act=-1 then zc5 [f] else if (zaa s act).2=true then zc5 [zec s (zaa s act).1,((f.flat false).forg (zcw (zaa s act).1 s.vars.length)).each (zbf (zcv (zaa s act).1 s.vars.length) (zd9 (zaa s act).1 s.vars.length))] else zck false
theorem pre_len (c:zb9) (n:Nat):(zcv c n).length<=n/\(zd9 c n).length<=n/\(zcw c n).length<=n:=by
 have:=zd5 (fun v=>if (zd8 c v).2=true then [(v:Int)] else []) (m:=1) (fun v=>by split <;> simp) n
 have:=zd5 (fun v=>if (zd8 c v).2=true then [(zd8 c v).1] else []) (m:=1) (fun v=>by split <;> simp) n
 have:=zd5 (fun v=>if (zd8 c v).2=true then [] else [(v:Int)]) (m:=1) (fun v=>by split <;> simp) n
 unfold zcv zd9 zcw
 omega
theorem pre_at (c:zb9) (j:Nat):zcv c (j+1)=zcv c j++(if (zd8 c j).2=true then [(j:Int)] else [])/\zd9 c (j+1)=zd9 c j++(if (zd8 c j).2=true then [(zd8 c j).1] else [])/\zcw c (j+1)=zcw c j++(if (zd8 c j).2=true then [] else [(j:Int)]) :=
 ⟨zdn _ j,zdn _ j,zdn _ j⟩
theorem preB_ok {c:zb9} (hc:ziv 3 c) (n:Nat):∀ b ∈ zd9 c n,zi3 b:=zf4 fun v _ b hb=>by
 split at hb
 ·rw [bE.1 hb];exact (val_tok hc v).mono (by decide) (bG _)
 ·cases hb
theorem forg_ok {L:Nat} (vs:List Int) (f:za0):f.okA n L->f.nodes<=1000000000000->(f.forg vs).okB n L :=
 za0.ind (P:=fun f=>f.okA n L->f.nodes<=1000000000000->(f.forg vs).okB n L) (fun k r ks ih hf hn=>by
  obtain ⟨h1,h2⟩:=(za0.okA_eq _ _ _).1 hf
  have hk:=zif ⟨k,r,ks⟩
  change ks.length+1<=_ at hk
  rw [za0.forg_eq]
  show (forgK vs k r ks (ks.map (za0.forg vs))).okB n L
  unfold forgK
  split
  ·rename_i e
   split
   ·exact okB_tru _ _ _
   ·rw [za0.okB_eq]
    refine ⟨⟨h1,by show ks.length<=_;omega,?_⟩,fun g hg=>?_⟩
    ·show (cnt k ks).length<=_;rw [e];exact bC _
    ·change g ∈ cnt k ks at hg;rw [e] at hg;cases hg
  ·rename_i e
   exact zge e (by rw [bI];omega) fun g hg=>by
    obtain ⟨q,hq,rfl⟩:=b6.1 hg
    exact ih q hq (h2 q hq) (bK (kid_nodes9 (f:=⟨k,r,ks⟩) hq) hn)) f
theorem Lforget1 (v:Int) (f:za0) (hf:TOk 300000000 3000 f.r.t):Fn Tryz.prog 160 [(0,.box (zF f))] [vI v,vp 0 0] (vb (hasV f.r.t v)) [(0,.box (zF f))]:=by
 refine fB Tryz.func160 rfl 9 fun w H B a h=>Jq 6 [] [(0,vI v),(1,vp 0 0),(3,vb false)] [(0,.box (zF f))] h fun a w h=>Jp 6 [(4,.call (SHas f.r.t v hf (by decide) (by decide)))] [(3,vb (hasV f.r.t v))] h fun a w h=>qV (rT (.c (cB (hasV f.r.t v))) h rfl ?_)
 rfl
theorem SIdxFG (pr:Int->Bool) (xs:List Int) (f:za0) (hf:∀ x ∈ xs,Fn Tryz.prog 160 [(0,.box (zF f))] [vI x,vp 0 0] (vb (pr x)) [(0,.box (zF f))]) (hl:xs.length<=9223372036854775807):Fn Tryz.prog 193 [(0,.box (zF f))] [(vIs xs),.t (.c (.fn (.func 160) [] [.ptr 0 0]))] (vI (zde pr xs 0)) [(0,.box (zF f))]:=by
 refine fB Tryz.func193 rfl 19 fun w H B a h=>Jq 5 [] [(0,(vIs xs)),(1,.t (.c (.fn (.func 160) [] [.ptr 0 0]))),(4,vI 0)] [(0,.box (zF f))] h fun a w h=>qW (Je 5 [(1,.len (za4 1 zb0 xs))] [] [(7,vN xs.length),(8,vI 0)] h fun a w h=>qZ ?_)
 refine zc7 (ι:=(Nat)) (fun j=>j<=xs.length/\zde pr xs 0=zde pr (xs.drop j) j)
   [4] (fun j=>[(8,vN j)])
   [] (fun j=>[])
   (fun j=>xs.length - j) 0 ?_ h ?_
 ·exact ⟨bC _,rfl⟩
 clear h;rintro j a w hI h;obtain ⟨hI1,hI2⟩:=hI;refine Je 5 [] [] [(9,vb (decide ((j:Int)<(xs.length:Int))))] h fun a w h=>qW (zae ((j:Int)<(xs.length:Int)) h (fun hc1 hc1'=>?_) (fun hc4 hc4'=>?_))
 ·refine qU (za2 (qW (qZ (Je 5 [] [9] [(5,vN j)] h fun a w h=>?_))));obtain ⟨x1,hx1⟩:=gl xs j;refine Je 5 [(3,.g (xD 14 12 tb_1 (za7 hx1 (f:=zb0)) (OV.tmp 13 _))),(5,.g (Op.callV (d:=16) (t:=11) (cap:=[.ptr 0 0]) (args:=[vI x1]) (rs:=[(15,vI x1)]) (tys:=#[3]) (hf x1 (lM hx1)) me4_2 (OVs.cons (OV.tmp 15 _) (OVs.nil))))] [] [(16,vb (pr x1))] h fun a w h=>cS (pr x1) h (fun hc2=>?_) (fun hc3=>?_)
  ·refine Je 5 [] [5,16] [(4,vN j)] h fun a w h=>qV (za9 (za5 (za5 (za9 (za5 (rT (.c (cI (j:Int))) h rfl ?_))))));have hz:zde pr xs 0=(j:Int):=by rw [hI2,zfx hx1,if_pos hc2]
   rw [hz];try rfl
  refine qU (za6 (za2 (Jf 5 [(0,.j1 j)] [5,16] [(8,vI ((j:Int)+1))] h fun a w h=>za2 (zab (x:=j) (y:=j+1) h ?_ ?_))))
  ·exact ⟨by have:=zac hx1;omega,by rw [hI2,zfx hx1,if_neg (by rw [hc3];exact Bool.noConfusion)]⟩
  (try simp);omega
 refine exA (Jp 5 [] [(4,vI (-1))] h fun a w h=>qV (rT (.c (cI (-1))) h rfl ?_));have hz:zde pr xs 0=-1:=by rw [hI2,cL (by omega)];rfl
 rw [hz];try rfl
theorem SAnyFG (pr:Int->Bool) (xs:List Int) (f:za0) (hf:∀ x ∈ xs,Fn Tryz.prog 160 [(0,.box (zF f))] [vI x,vp 0 0] (vb (pr x)) [(0,.box (zF f))]) (hl:xs.length<=9223372036854775807):Fn Tryz.prog 159 [(0,.box (zF f))] [(vIs xs),.t (.c (.fn (.func 160) [] [.ptr 0 0]))] (vb (xs.any pr)) [(0,.box (zF f))]:=by
 refine fB Tryz.func159 rfl 9 fun w H B a h=>Jq 5 [] [(0,(vIs xs)),(1,.t (.c (.fn (.func 160) [] [.ptr 0 0]))),(4,vb false)] [(0,.box (zF f))] h fun a w h=>Jp 5 [(2,.call (SIdxFG pr xs f hf  hl))] [(4,vb (decide (zde pr xs 0>=0)))] h fun a w h=>qV (rT (.c (cB (decide (zde pr xs 0>=0)))) h rfl ?_)
 rw [<- idxB_any];try rfl
theorem rel_okF {L:Nat} (h:f.okA n L) (e:f.kind=2):TOk n L f.r.t:=((za0.okA_eq _ _ _).1 h).1 e
theorem Lforget0 (f:za0) (vs:List Int) (ih:∀ g ∈ f.kids,Fn Tryz.prog 113 [] [(vF g),(vIs vs)] (vF (za0.forg vs g)) []) (hf:f.okA 300000000 3000) (hn:f.nodes<=1000000000000) (hlv:vs.length<=9223372036854775807):Fn Tryz.prog 113 [] [(vF f),(vIs vs)] (vF (za0.forg vs f)) []:=by
 have lkn:=zif f;refine fB Tryz.func113 rfl 36 fun w H B a h=>Jq 0 [] [(1,(vIs vs)),(2,vp 0 0),(4,vp 1 0)] [(0,.box (zF f)),(1,.box zF0)] h fun a w h=>qW (Je 2 [] [] [(10,vb (f.kind == 2))] h fun a w h=>cS (f.kind == 2) h (fun hc1=>?_) (fun hc4=>?_))
 ·refine qW (Je 2 [(1,.g (Op.makeFs (d:=12) (fn:=.func 160) [(2,0,0)])),(2,.call (SAnyFG (hasV f.r.t) vs f (fun v _=>Lforget1 v f (rel_okF hf (by have:=hc1;simpa using this))) hlv))] [10] [(13,vb (vs.any (hasV f.r.t)))] h fun a w h=>cS (vs.any (hasV f.r.t)) h (fun hc2=>?_) (fun hc3=>?_))
  ·refine Jg 2 [(0,.call (zi0 true))] [13] [] [] [(1,.box (zF (zck true)))] h fun a w h=>qV (za5 (za5 (rA 1 (zF (zck true)) h zcq rfl ?_)));rw [forg_t (by have:=hc1;simpa using this) hc2];try rfl
  refine qU (za2 (Jg 2 [] [13] [] [] [(1,.box (zF f))] h fun a w h=>qV (za5 (rA 1 (zF f) h zcq rfl ?_))));rw [forg_f (by have:=hc1;simpa using this) hc3];try rfl
 refine qU (za2 (Jg 2 [] [10] [(5,vp 2 0)] [] [(2,.box [cI f.kind,nCl,cB false,.d (nsl []),cB false,nCl])] h fun a w h=>qW (Jg 3 [(2,.len (za4 6 za0.d f.kids))] [2] [(20,(vFs f.kids)),(21,vN f.kids.length),(22,vI 0)] [0] [] h fun a w h=>qZ ?_)));replace h:=zj2 2 5 3 6 35 [cI f.kind,nCl,cB false,.d (nsl []),cB false,nCl] h
 refine zc7 (ι:=(Nat)) (fun j=>j<=f.kids.length)
   [] (fun j=>[(22,vN j)])
   [] (fun j=>[(2,.box [cI f.kind,nCl,cB false,.d (nsl []),cB false,.own 3 ((f.kids.take j).map (za0.forg vs)).length]),(3,.row 35 6 (((f.kids.take j).map (za0.forg vs)).map za0.d))])
   (fun j=>f.kids.length - j) 0 ?_ h ?_
 ·exact bC _
 clear h;rintro j a w hI h;have lmj:((f.kids.take j).map (za0.forg vs)).length<=j:=by rw [bI,cT];omega
 refine Je 4 [] [] [(23,vb (decide ((j:Int)<(f.kids.length:Int))))] h fun a w h=>qW (zae ((j:Int)<(f.kids.length:Int)) h (fun hc5 hc5'=>?_) (fun hc6 hc6'=>?_))
 ·refine qU (za2 (qW (qZ ?_)));obtain ⟨x3,hx3⟩:=gl f.kids j;refine Jg 4 [(0,.g (xD 24 20 zh5 ((za7 hx3 (f:=za0.d)).trans (congrArg some (za0.d_eq x3))) (OV.tmp 22 _)))] [23] [(7,vp 4 0)] [] [(4,.box (zF x3))] h fun a w h=>Jh 5 [(4,.call (ih x3 (lM hx3))),(5,.g (bD 31 ([(za0.forg vs x3)].map za0.d) [(30,(vF (za0.forg vs x3)))] kb_1 (.cons (i:=0) (OV.tmp 30 _) (.nil)) (by simp only [bF,bP,bW,bX,bU,za0.d_eq];kernel_rfl) (by simp [za0.d_len]))),(6,.g (aD 32 27 31 3 5 ((f.kids.take j).map (za0.forg vs)) [(za0.forg vs x3)] za0.d la_7 (by simp [za0.d_len])))] [7] [] [3,4] [(2,.box ([cI f.kind,nCl,cB false,.d (nsl []),cB false,.own 5 (((f.kids.take j).map (za0.forg vs))++[(za0.forg vs x3)]).length])),(5,.row 35 6 ((((f.kids.take j).map (za0.forg vs))++[(za0.forg vs x3)]).map za0.d))] h fun a w h=>za6 (za2 (Jf 6 [(0,.j1 j)] [] [(22,vI ((j:Int)+1))] h fun a w h=>za2 ?_));rw [show ((((f.kids.take j).map (za0.forg vs))++[(za0.forg vs x3)]):List za0)=((f.kids.take (j+1)).map (za0.forg vs)) from (zfh hx3)] at h;replace h:=zcz 5 3 h;refine zab (x:=j) (y:=j+1) h ?_ ?_
  ·have:=zac hx3;show j+1<=f.kids.length;omega
  show f.kids.length - (j+1)<f.kids.length - j;have:=zac hx3;omega
 refine exA (Jg 6 [] [1,5,20,21,22,23] [] [2] [(1,.box [cI f.kind,nCl,cB false,.d (nsl []),cB false,.own 3 ((f.kids.take j).map (za0.forg vs)).length])] h fun a w h=>qV ?_);rw [show (((f.kids.take j).map (za0.forg vs)):List za0)=(f.kids.map (za0.forg vs)) from (by rw [cC (by omega)])] at h;replace h:=zbe 1 1 3 [cI f.kind,nCl,cB false,.d (nsl []),cB false,.own 3 (f.kids.map (za0.forg vs)).length] h;replace h:=zia 3 6 35 ((f.kids.map (za0.forg vs)).map za0.d) h [(f.kids.map (za0.forg vs)).length] ⟨by first | exact (bI _).symm | (simp;done) | (simp;omega),trivial⟩;refine rA 1 [cI f.kind,cPs [],cB false,.d (nsl []),cB false,cFs (f.kids.map (za0.forg vs))] h zcq rfl ?_;rw [forg_k (by have:=hc4;simpa using this)];try rfl
theorem Lforget (vs:List Int) (hlv:vs.length<=9223372036854775807) (f:za0):f.okA 300000000 3000->f.nodes<=1000000000000->Fn Tryz.prog 113 [] [(vF f),(vIs vs)] (vF (za0.forg vs f)) [] :=
 za0.ind (P:=fun f=>f.okA 300000000 3000->f.nodes<=1000000000000->Fn Tryz.prog 113 [] [(vF f),(vIs vs)] (vF (za0.forg vs f)) []) (fun k r ks ih hf hn=>Lforget0 ⟨k,r,ks⟩ vs (fun g hg=>ih g hg (kid_okA2 hf hg) (bK (kid_nodes9 (f:=⟨k,r,ks⟩) hg) hn)) hf hn hlv) f
def za0.vars (f:za0):List Int:=f.fold fun k r _ vs=>if k=2 then zbi r.t.parts else (cnt k vs).foldl (fun a v=>v.foldl insZ a) []
theorem LR4HoldsW (r:za8) (vs:List ZI) (hM:M<=300) (hv:VOk M vs) (hr:TOk 1000000000 1000 r.t):Fn Tryz.prog 19 [] [(vR r),(vZs vs)] (vb (relOk vs r)) []:=by
 refine fB Tryz.func19 rfl 17 fun w H B a h=>Jq 0 [] [(1,(vZs vs)),(2,vp 0 0),(4,vb false)] [(0,.box (zR_ r))] h fun a w h=>?_
 obtain ⟨r1,er1,vr1,or1,lr1⟩:=mkZ (v:=valT r.t vs) (m:=1600) (bK (valT_len hr (by decide) hv) (by omega));refine Je 1 [(3,.call (Fn.cast (SRValue r.t vs hr (by decide) (by omega) hv) (congrArg vz er1.symm))),(4,.call (zc1 r1 or1 (by omega)))] [1] [(5,vI (sgn r1.val))] h fun a w h=>qW (Jg 1 [] [2] [(12,vb r.eq)] [0] [] h fun a w h=>cS r.eq h (fun hc1=>?_) (fun hc2=>?_))
 ·refine Jg 1 [] [12] [(4,vb (sgn r1.val == 0))] [] [] h fun a w h=>qV (za5 (rT (.c (cB (sgn r1.val == 0))) h rfl ?_))
  have hz:relOk vs r=(sgn r1.val == 0):=by
   unfold relOk;rw [<- vr1]
   cases he:r.eq <;> simp_all <;> omega
  rw [hz];try rfl
 refine qU (za2 (Jq 1 [] [(4,vb (decide (sgn r1.val>=0)))] [] h fun a w h=>qV (rT (.c (cB (decide (sgn r1.val>=0)))) h rfl ?_)))
 have hz:relOk vs r=(decide (sgn r1.val>=0)):=by
  unfold relOk;rw [<- vr1]
  cases he:r.eq <;> simp_all <;> omega
 rw [hz];try rfl
theorem LR5HoldsW0 (f:za0) (vs:List ZI) (ih:∀ g ∈ f.kids,g.okB 1000000000 1000->Fn Tryz.prog 16 [] [(vF g),(vZs vs)] (vb (za0.holds vs g)) []) (hM:M<=300) (hv:VOk M vs) (hf:f.okB 1000000000 1000):Fn Tryz.prog 16 [] [(vF f),(vZs vs)] (vb (f.holds vs)) []:=by
 have hk:=zdm hf;refine fB Tryz.func16 rfl 65 fun w H B a h=>?_
 refine Jq 0 [] [(1,(vZs vs)),(2,vp 0 0),(4,vb false)] [(0,.box (zF f))] h fun a w h=>?_;refine qW (Je 1 [] [] [(8,vI f.kind)] h fun a w h=>?_);refine qZ (Je 1 [] [] [(9,vb (f.kind == 0))] h fun a w h=>?_);refine cS (f.kind == 0) h (fun hc1=>?_) (fun hc2=>?_)
 ·have hc1':=hc1;(try simp at hc1');refine Jq 1 [] [(4,vb true)] [] h fun a w h=>?_;refine qV (za9 (za5 ?_));refine rT (.c (cB true)) h rfl ?_;have hz:f.holds vs=(true):=by rw [za0.holds_eq,if_pos (by omega)];try rfl
  rw [hz];try rfl
 have hc2':=hc2;(try simp at hc2');refine Je 1 [] [9] [(11,vb (f.kind == 2))] h fun a w h=>?_;refine cS (f.kind == 2) h (fun hc3=>?_) (fun hc4=>?_)
 ·have hc3':=hc3;(try simp at hc3');refine Jq 1 [(3,.call (LR4HoldsW f.r vs hM hv (((za0.okB_eq _ _ f).1 hf).1.1 (by omega))))] [(4,vb (relOk vs f.r))] [] h fun a w h=>?_;refine qV (za9 (za5 ?_));refine rT (.c (cB (relOk vs f.r))) h rfl ?_;have hz:f.holds vs=(relOk vs f.r):=by rw [za0.holds_eq,if_neg (by omega),if_pos (by omega)];try rfl
  rw [hz];try rfl
 have hc4':=hc4;(try simp at hc4');refine Je 1 [] [11] [(17,vb (f.kind == 3))] h fun a w h=>?_;refine cS (f.kind == 3) h (fun hc5=>?_) (fun hc8=>?_)
 ·have hc5':=hc5;(try simp at hc5')
  rcases bJ (decide ((f.kids.length:Int)>0)) with hc6 | hc7
  ·have hc6':=dT hc6;obtain ⟨x2,hx2⟩:=gl f.kids 0;refine Jq 1 [(2,.len (za4 6 za0.d f.kids)),(3,.cmp (op:=.gtr) (m:=(f.kids.length:Int)) (n:=0) (b:=true) .i64 hc6),(7,.g (xD 26 25 zh5 ((za7 hx2 (f:=za0.d)).trans (congrArg some (za0.d_eq x2))) (OV.const (.int .i64 0) rfl))),(10,.call (ih x2 (lM hx2) (zgo hf (by unfold cnt;first | (rw [if_pos (by omega)];exact lM hx2) | (rw [if_neg (by omega),if_pos (by omega)];exact zhl hx2)))))] [(4,vb (!(za0.holds vs x2)))] [] h fun a w h=>?_;refine qV (za9 (za5 ?_));refine rT (.c (cB (!(za0.holds vs x2)))) h rfl ?_;have hz:f.holds vs=(!(za0.holds vs x2)):=by rw [za0.holds_eq,if_neg (by omega),if_neg (by omega),if_pos (by omega)];obtain ⟨tl,htl⟩:=cons_of_at hx2;rw [htl];try rfl
   rw [hz];try rfl
  have hc7':=dF hc7;refine Jq 1 [(2,.len (za4 6 za0.d f.kids)),(3,.cmp (op:=.gtr) (m:=(f.kids.length:Int)) (n:=0) (b:=false) .i64 hc7)] [(4,vb false)] [] h fun a w h=>?_;refine qV (za9 (za5 ?_));refine rT (.c (cB false)) h rfl ?_;have hz:f.holds vs=(false):=by rw [za0.holds_eq,if_neg (by omega),if_neg (by omega),if_pos (by omega)];rw [List.length_eq_zero_iff.1 (show f.kids.length=0 by have:=dF hc7;omega)];try rfl
  rw [hz];try rfl
 have hc8':=hc8;(try simp at hc8');refine Je 1 [] [17] [(32,vb (f.kind == 4))] h fun a w h=>?_;refine cS (f.kind == 4) h (fun hc9=>?_) (fun hc14=>?_)
 ·have hc9':=hc9;(try simp at hc9');refine qW (Je 1 [] [8,32] [(5,vI 0)] h fun a w h=>?_);refine qZ ?_
  refine zc7 (ι:=(Nat)) (fun j=>j<=f.kids.length/\(f.kids.take j).all (za0.holds vs)=true)
    [4] (fun j=>[(5,vN j)])
    [] (fun j=>[])
    (fun j=>f.kids.length - j) 0 ?_ h ?_
  ·exact ⟨bC _,rfl⟩
  clear h;rintro j a w hI h;obtain ⟨hI1,hI2⟩:=hI;refine qW (Je 1 [(3,.len (za4 6 za0.d f.kids))] [] [(38,vb (decide ((j:Int)<(f.kids.length:Int))))] h fun a w h=>?_);refine zae ((j:Int)<(f.kids.length:Int)) h (fun hc10 hc10'=>?_) (fun hc13 hc13'=>?_)
  ·refine qU (za2 (qW (qZ ?_)));obtain ⟨x4,hx4⟩:=gl f.kids j;refine Je 1 [(3,.g (xD 44 42 zh5 ((za7 hx4 (f:=za0.d)).trans (congrArg some (za0.d_eq x4))) (OV.tmp 43 _))),(6,.call (ih x4 (lM hx4) (zgo hf (by unfold cnt;first | (rw [if_pos (by omega)];exact lM hx4) | (rw [if_neg (by omega),if_pos (by omega)];exact zhl hx4)))))] [38] [(48,vb (!(za0.holds vs x4)))] h fun a w h=>?_;refine cS (!(za0.holds vs x4)) h (fun hc11=>?_) (fun hc12=>?_)
   ·have hc11':=hc11;(try simp at hc11');refine Je 1 [] [48] [(4,vb false)] h fun a w h=>?_;refine qV (za9 (za5 (za5 (za9 (za5 (za9 (za5 ?_)))))));refine rT (.c (cB false)) h rfl ?_;have hz:f.holds vs=(false):=by rw [za0.holds_eq,if_neg (by omega),if_neg (by omega),if_neg (by omega),if_pos (by omega)];exact zc4 hx4 (show (za0.holds vs x4)=false from by simpa using hc11)
    rw [hz];try rfl
   have hc12':=hc12;(try simp at hc12');refine qU (za6 (za2 (Jf 1 [(1,.j1 j)] [48] [(5,vI ((j:Int)+1))] h fun a w h=>?_)));refine za2 ?_;refine zab (x:=j) (y:=j+1) h ?_ ?_
   ·exact ⟨by have:=zac hx4;omega,zdy hx4 hI2 (show (za0.holds vs x4)=true from by simpa using hc12)⟩
   show f.kids.length - (j+1)<f.kids.length - j;have:=zac hx4;omega
  refine exA (Jq 1 [] [(4,vb true)] [] h fun a w h=>?_);refine qV (za9 (za5 ?_));refine rT (.c (cB true)) h rfl ?_;have hz:f.holds vs=(true):=by rw [za0.holds_eq,if_neg (by omega),if_neg (by omega),if_neg (by omega),if_pos (by omega)];exact zdt (dF hc13) hI2
  rw [hz];try rfl
 have hc14':=hc14;(try simp at hc14');refine Je 1 [] [8,32] [(49,vb (f.kind == 5))] h fun a w h=>?_;refine cS (f.kind == 5) h (fun hc15=>?_) (fun hc20=>?_)
 ·have hc15':=hc15;(try simp at hc15');refine Je 1 [] [49] [(6,vI 0)] h fun a w h=>?_;refine qZ ?_
  refine zc7 (ι:=(Nat)) (fun j=>j<=f.kids.length/\(f.kids.take j).any (za0.holds vs)=false)
    [4] (fun j=>[(6,vN j)])
    [] (fun j=>[])
    (fun j=>f.kids.length - j) 0 ?_ h ?_
  ·exact ⟨bC _,rfl⟩
  clear h;rintro j a w hI h;obtain ⟨hI1,hI2⟩:=hI;refine qW (Je 1 [(3,.len (za4 6 za0.d f.kids))] [] [(55,vb (decide ((j:Int)<(f.kids.length:Int))))] h fun a w h=>?_);refine zae ((j:Int)<(f.kids.length:Int)) h (fun hc16 hc16'=>?_) (fun hc19 hc19'=>?_)
  ·refine qU (za2 (qW (qZ ?_)));obtain ⟨x6,hx6⟩:=gl f.kids j;refine Je 1 [(3,.g (xD 61 59 zh5 ((za7 hx6 (f:=za0.d)).trans (congrArg some (za0.d_eq x6))) (OV.tmp 60 _))),(6,.call (ih x6 (lM hx6) (zgo hf (by unfold cnt;first | (rw [if_pos (by omega)];exact lM hx6) | (rw [if_neg (by omega),if_pos (by omega)];exact zhl hx6)))))] [55] [(64,vb (za0.holds vs x6))] h fun a w h=>?_;refine cS (za0.holds vs x6) h (fun hc17=>?_) (fun hc18=>?_)
   ·refine Je 1 [] [64] [(4,vb true)] h fun a w h=>?_;refine qV (za9 (za5 (za5 (za9 (za9 (za5 ?_))))));refine rT (.c (cB true)) h rfl ?_;have hz:f.holds vs=(true):=by rw [za0.holds_eq,if_neg (by omega),if_neg (by omega),if_neg (by omega),if_neg (by omega),if_pos (by omega)];exact any_stop hx6 hc17
    rw [hz];try rfl
   refine qU (za6 (za2 (Jf 1 [(1,.j1 j)] [64] [(6,vI ((j:Int)+1))] h fun a w h=>?_)));refine za2 ?_;refine zab (x:=j) (y:=j+1) h ?_ ?_
   ·exact ⟨by have:=zac hx6;omega,any_step hx6 hI2 hc18⟩
   show f.kids.length - (j+1)<f.kids.length - j;have:=zac hx6;omega
  refine wp_exit (zc0 (zc0 (zat (za6 (za2 (Jq 1 [] [(4,vb false)] [] h fun a w h=>?_))))));refine qV ?_;refine rT (.c (cB false)) h rfl ?_;have hz:f.holds vs=(false):=by rw [za0.holds_eq,if_neg (by omega),if_neg (by omega),if_neg (by omega),if_neg (by omega),if_pos (by omega)];exact any_end (dF hc19) hI2
  rw [hz];try rfl
 have hc20':=hc20;(try simp at hc20');refine qU (za6 (za2 (Jq 1 [] [(4,vb false)] [] h fun a w h=>?_)));refine qV ?_;refine rT (.c (cB false)) h rfl ?_;have hz:f.holds vs=(false):=by rw [za0.holds_eq,if_neg (by omega),if_neg (by omega),if_neg (by omega),if_neg (by omega),if_neg (by omega)];try rfl
 rw [hz];try rfl
theorem zi1 (vs:List ZI) (hM:M<=300) (hv:VOk M vs) (f:za0):f.okB 1000000000 1000->Fn Tryz.prog 16 [] [(vF f),(vZs vs)] (vb (za0.holds vs f)) [] :=
 za0.ind (P:=fun f=>f.okB 1000000000 1000->Fn Tryz.prog 16 [] [(vF f),(vZs vs)] (vb (za0.holds vs f)) []) (fun k r ks ih hf=>LR5HoldsW0 ⟨k,r,ks⟩ vs (fun g hg h=>ih g hg h) hM hv hf) f
def Bel (m:Nat) (t:zaf):Prop:=∀ v:Int,(m:Int)<=v->zai t.parts v=0
theorem Bel.mono {m':Nat} (h:Bel m t) (hm:m<=m'):Bel m' t:=fun v hv=>h v (by omega)
def BelF (m:Nat) (f:za0):Prop:=f.rels fun r=>Bel m r.t
theorem BelF.mono {m':Nat} (h:BelF m f) (hm:m<=m'):BelF m' f:=za0.rels_mono (fun _ hr=>Bel.mono hr hm) f h
theorem cmpRl_cpl (p r:za8):zc3 (cpR p) r=zc3 p r:=by
 unfold zc3 cpR zgr
 simp only [zbk];rfl
def za0.rd (ps:List za8) (bs:List Bool) (f:za0):Bool:=f.fold fun k r _ hs=>if k=0 then true else if k=2 then (bs[(atR ps r).toNat]?).getD false else if k=4 then hs.all id else if k=5 then hs.any id else false
theorem mi7_9:ElT Tryz.prog 168 30 3 56:=ElT.mk' Tryz.underlying168 _ _ rfl rfl (by kernel_rfl) (by kernel_rfl) (by kernel_rfl) (by decide) (by decide)
theorem addT_ok2 {L:Nat} {s:zaf} (hs:TOk n L s) (ht:TOk m L t) (hn:n+m<=1000000000):TOk (n+m) (L+2) (addT s t):=by
 have h1:TOk (n+m) (L+1) ⟨s.parts++t.parts,ZI.of (s.k.val+t.k.val)⟩:=by
  refine ⟨by rw [b7];have:=hs.len;have:=ht.len;omega,fun p hp=>?_,ZI.lb_of _,ZI.len_of ?_⟩
  ·rcases cH.1 hp with hp | hp
   ·exact ⟨(hs.ps p hp).1,bK (hs.ps p hp).2 (b9 _)⟩
   ·exact ⟨(ht.ps p hp).1,bK (ht.ps p hp).2 (b9 _)⟩
  ·have a:=cV (ZI.abs_lt hs.kb) (zd0 hs.kl);have b:=cV (ZI.abs_lt ht.kb) (zd0 ht.kl);have c:=Int.natAbs_add_le s.k.val t.k.val
   have e:pw (L+1)=4294967296*pw L:=zak L
   omega
 exact h1.plain hn
theorem low_tok2 {L:Nat} (h:TOk n L t) (hn:n<=1000000000) (hL:3<=L):TOk n (L+5) (lowR t).t:=by
 have h1:=zjl h hn
 have h0:TOk 0 2 (zcn (ZI.of 1)):=TOk.num (ZI.lb_of _) (by decide)
 have h2:TOk 0 (L+3) (zb4 (zcn (ZI.of 1)) (ZI.of (-1))):=((TOk.mul h0 (ZI.lb_of _) (show (ZI.of (-1)).abs.length<=2 from by decide)).plain (by decide)).mono (bG _) (by omega)
 exact (addT_ok2 h1 h2 (by omega)).mono (by omega) (by omega)
theorem deny_tok2 {L:Nat} {r:za8} (h:TOk n L r.t) (hn:n<=1000000000) (hL:3<=L):∀ q ∈ zbq r,TOk n (L+8) q.t:=fun q hq=>by
 unfold zbq at hq
 split at hq
 ·rcases b5.1 hq with rfl | hq
  ·exact low_tok2 (zjl h hn) hn (by omega)
  ·rw [bE.1 hq];exact (low_tok2 h hn hL).mono (bG _) (by omega)
 ·rw [bE.1 hq];exact (low_tok2 h hn hL).mono (bG _) (by omega)
theorem zhq {L:Nat} (hn:n<=1000000000) (hL:3<=L) (f:za0):f.okB n L->∀ d,(f.flat d).okA n (L+12) :=
 za0.ind (P:=fun f=>f.okB n L->∀ d,(f.flat d).okA n (L+12)) (fun k r ks ih hf d=>by
  obtain ⟨⟨h1,h2⟩,h3⟩:=(za0.okB_eq _ _ _).1 hf
  change k=2->_ at h1
  change ∀ g ∈ cnt k ks,_ at h3
  rw [za0.flat_eq]
  show (flatK k r (ks.map za0.flat) d).okA n (L+12)
  unfold flatK
  split
  ·exact okA_tru _ _ _
  ·split
   ·rename_i e
    split
    ·refine zf2 (.inr rfl) _ [] (fun g hg=>by cases hg) fun g hg=>?_
     obtain ⟨q,hq,rfl⟩:=b6.1 hg
     exact tight_okA (deny_tok2 (h1 e) hn hL q hq) hn
    ·exact za0.okA_mono (bG _) (by omega) _ (tight_okA (h1 e) hn)
   ·split
    ·rename_i e
     subst e
     cases ks with
     | nil=>exact okA_tru _ _ _
     | cons g gs=>exact ih g (bV ..) (h3 g (bV ..)) (!d)
    ·split
     ·rename_i h4
      have hc:cnt k ks=ks:=by unfold cnt;rw [if_pos h4]
      rw [hc] at h3
      refine zf2 (by cases d <;> simp <;> omega) _ [] (fun g hg=>by cases hg) fun g hg=>?_
      rw [cK] at hg
      obtain ⟨q,hq,rfl⟩:=b6.1 hg
      exact ih q hq (h3 q hq) d
     ·exact okA_tru _ _ _) f
theorem put_ok {L:Nat} (hn:n<=33000000) {vs:List Int} {bys:List zaf} (hf:f.okB n L) (hb:∀ b ∈ bys,zi3 b):(f.each (zbf vs bys)).okB (30*n) (L+24):=okB_each (t:=zbf vs bys) (fun r hr=>by
 have:=putZ_tok (t:=(cpR r).t) (vs:=vs) (hr.plain (bK hn (by decide))) hn hb
 exact this) f hf
theorem preT_ok {L:Nat} (hn:n<=33000000) (hL:3<=L) (hf:f.okB n L) (hfw:f.wid<=1000000000000) (act:Int):(((f.flat false).forg (zcw (zaa s act).1 s.vars.length)).okB n (L+12)) :=
 forg_ok _ _ (zhq (bK hn (by decide)) hL f hf false) (bK (ze0 f false) hfw)
theorem LPreM (s:zaz) (f:za0) {L:Nat} (hf:f.okB n L) (hn:n<=33000000) (h30:30<=n) (hL3:3<=L) (hL:L<=1900) (hfw:f.wid<=1000000000000):Fn Tryz.prog 70 [] [vG [.d (.sl 1 (s.vars.map zen)),.d (.sl 5 (s.bounds.map zan.d)),cI s.init.kind,cPs s.init.r.t.parts,cB s.init.r.t.k.neg,.d (nsl s.init.r.t.k.abs),cB s.init.r.eq,cFs s.init.kids,.d (.sl 3 (s.procs.map zbp.d)),.d (.sl 10 (s.acts.map zb9.d))],vI (-1),vG [cI f.kind,cPs f.r.t.parts,cB f.r.t.k.neg,.d (nsl f.r.t.k.abs),cB f.r.eq,cFs f.kids]] (vG [cI (zc5 [f]).kind,cPs (zc5 [f]).r.t.parts,cB (zc5 [f]).r.t.k.neg,.d (nsl (zc5 [f]).r.t.k.abs),cB (zc5 [f]).r.eq,cFs (zc5 [f]).kids]) []:=by
 refine fB Tryz.func70 rfl 67 fun w H B a h=>Jq 0 [] [(1,vI (-1)),(3,vp 0 0),(5,vp 1 0),(6,vp 2 0)] [(0,.box [.d (.sl 1 (s.vars.map zen)),.d (.sl 5 (s.bounds.map zan.d)),cI s.init.kind,cPs s.init.r.t.parts,cB s.init.r.t.k.neg,.d (nsl s.init.r.t.k.abs),cB s.init.r.eq,cFs s.init.kids,.d (.sl 3 (s.procs.map zbp.d)),.d (.sl 10 (s.acts.map zb9.d))]),(1,.box [cI f.kind,cPs f.r.t.parts,cB f.r.t.k.neg,.d (nsl f.r.t.k.abs),cB f.r.eq,cFs f.kids]),(2,.box zF0)] h fun a w h=>qW (Je 3 [(1,.cmp (op:=.eql) (m:=(-1)) (n:=(-1)) (b:=true) .i64 rfl)] [] [(16,vb true)] h fun a w h=>cS true h (fun _=>?_) nofun)
 refine Jg 3 [(1,.g (bD 18 ([f].map za0.d) [(17,vG [cI f.kind,cPs f.r.t.parts,cB f.r.t.k.neg,.d (nsl f.r.t.k.abs),cB f.r.eq,cFs f.kids])] kb_1 (.cons (i:=0) (OV.tmp 17 _) (.nil)) (by simp only [bF,bP,bW,bX,bU,za0.d_eq];kernel_rfl) (by simp [za0.d_len]))),(2,.call (LAll [f] (fun g hg=>by rw [bE.1 hg];exact za0.okB_mono (by omega) (by omega) _ hf) (show List.length _<=1000000000000 from by simp)))] [16] [] [] [(2,.box [cI (zc5 [f]).kind,cPs (zc5 [f]).r.t.parts,cB (zc5 [f]).r.t.k.neg,.d (nsl (zc5 [f]).r.t.k.abs),cB (zc5 [f]).r.eq,cFs (zc5 [f]).kids])] h fun a w h=>qV (za5 (rA 2 [cI (zc5 [f]).kind,cPs (zc5 [f]).r.t.parts,cB (zc5 [f]).r.t.k.neg,.d (nsl (zc5 [f]).r.t.k.abs),cB (zc5 [f]).r.eq,cFs (zc5 [f]).kids] h zcq rfl ?_));rfl
theorem LPreS (s:zaz) (act:Int) (f:za0) (ha:act≠-1) (hs:zcc 3 s) (hw:SysW s) {L:Nat} (hf:f.okB n L) (hn:n<=33000000) (h30:30<=n) (hL3:3<=L) (hL:L<=1900) (hfw:f.wid<=1000000000000):Fn Tryz.prog 70 [] [vG [.d (.sl 1 (s.vars.map zen)),.d (.sl 5 (s.bounds.map zan.d)),cI s.init.kind,cPs s.init.r.t.parts,cB s.init.r.t.k.neg,.d (nsl s.init.r.t.k.abs),cB s.init.r.eq,cFs s.init.kids,.d (.sl 3 (s.procs.map zbp.d)),.d (.sl 10 (s.acts.map zb9.d))],vI act,vG [cI f.kind,cPs f.r.t.parts,cB f.r.t.k.neg,.d (nsl f.r.t.k.abs),cB f.r.eq,cFs f.kids]] (vG [cI (if (zaa s act).2=true then zc5 [zec s (zaa s act).1,(za0.each (zbf (zcv (zaa s act).1 s.vars.length) (zd9 (zaa s act).1 s.vars.length)) (za0.forg (zcw (zaa s act).1 s.vars.length) (za0.flat f false)))] else zck false).kind,cPs (if (zaa s act).2=true then zc5 [zec s (zaa s act).1,(za0.each (zbf (zcv (zaa s act).1 s.vars.length) (zd9 (zaa s act).1 s.vars.length)) (za0.forg (zcw (zaa s act).1 s.vars.length) (za0.flat f false)))] else zck false).r.t.parts,cB (if (zaa s act).2=true then zc5 [zec s (zaa s act).1,(za0.each (zbf (zcv (zaa s act).1 s.vars.length) (zd9 (zaa s act).1 s.vars.length)) (za0.forg (zcw (zaa s act).1 s.vars.length) (za0.flat f false)))] else zck false).r.t.k.neg,.d (nsl (if (zaa s act).2=true then zc5 [zec s (zaa s act).1,(za0.each (zbf (zcv (zaa s act).1 s.vars.length) (zd9 (zaa s act).1 s.vars.length)) (za0.forg (zcw (zaa s act).1 s.vars.length) (za0.flat f false)))] else zck false).r.t.k.abs),cB (if (zaa s act).2=true then zc5 [zec s (zaa s act).1,(za0.each (zbf (zcv (zaa s act).1 s.vars.length) (zd9 (zaa s act).1 s.vars.length)) (za0.forg (zcw (zaa s act).1 s.vars.length) (za0.flat f false)))] else zck false).r.eq,cFs (if (zaa s act).2=true then zc5 [zec s (zaa s act).1,(za0.each (zbf (zcv (zaa s act).1 s.vars.length) (zd9 (zaa s act).1 s.vars.length)) (za0.forg (zcw (zaa s act).1 s.vars.length) (za0.flat f false)))] else zck false).kids]) []:=by
 have lvs:=hs.vars;obtain ⟨lq1,lq2,lq3⟩:=pre_len (zaa s act).1 s.vars.length;have hpt:=preT_ok (s:=s) hn hL3 hf hfw act;have hcl:(za0.forg (zcw (zaa s act).1 s.vars.length) (za0.flat f false)).cl.okB n (L+13):=okB_cl (by omega) _ hpt
 have hsl:∀ g ∈ [zec s (zaa s act).1,(za0.each (zbf (zcv (zaa s act).1 s.vars.length) (zd9 (zaa s act).1 s.vars.length)) (za0.forg (zcw (zaa s act).1 s.vars.length) (za0.flat f false)))],g.okB (30*n) (L+60):=fun g hg=>by
  rcases b5.1 hg with rfl | hg
  ·exact za0.okB_mono (by omega) (by omega) _ (canF_ok hs (zeo hs act) (zj1 hw act))
  rw [bE.1 hg];exact za0.okB_mono (by omega) (by omega) _ (put_ok hn hpt (preB_ok (zeo hs act) _))
 refine fB Tryz.func70 rfl 67 fun w H B a h=>Jq 5 [] [(1,vI act),(3,vp 5 0),(5,vp 6 0),(6,vp 7 0)] [(5,.box [.d (.sl 1 (s.vars.map zen)),.d (.sl 5 (s.bounds.map zan.d)),cI s.init.kind,cPs s.init.r.t.parts,cB s.init.r.t.k.neg,.d (nsl s.init.r.t.k.abs),cB s.init.r.eq,cFs s.init.kids,.d (.sl 3 (s.procs.map zbp.d)),.d (.sl 10 (s.acts.map zb9.d))]),(6,.box [cI f.kind,cPs f.r.t.parts,cB f.r.t.k.neg,.d (nsl f.r.t.k.abs),cB f.r.eq,cFs f.kids]),(7,.box zF0)] h fun a w h=>qW (Je 8 [(1,.cmp (op:=.eql) (m:=act) (n:=(-1)) (b:=false) .i64 (beq_eq_false_iff_ne.2 ha))] [] [(16,vb false)] h fun a w h=>zas h (qU (za2 (Jg 8 [(2,.call (Lsound s act hs))] [1,16] [(7,vp 8 0),(8,vb (zaa s act).2)] [] [(8,.box [cI (zaa s act).1.proc,cI (zaa s act).1.from_,cI (zaa s act).1.to_,cI (zaa s act).1.guard.kind,cPs (zaa s act).1.guard.r.t.parts,cB (zaa s act).1.guard.r.t.k.neg,.d (nsl (zaa s act).1.guard.r.t.k.abs),cB (zaa s act).1.guard.r.eq,cFs (zaa s act).1.guard.kids,.d (.sl 5 ((zaa s act).1.moves.map zao.d))])] h fun a w h=>qW (Je 9 [] [8] [(27,vb (!(zaa s act).2))] h fun a w h=>cS (!(zaa s act).2) h (fun hc1=>?_) (fun hc2=>?_))))))
 ·refine Jg 9 [(0,.call (zi0 false))] [27] [] [] [(7,.box [cI (zck false).kind,cPs (zck false).r.t.parts,cB (zck false).r.t.k.neg,.d (nsl (zck false).r.t.k.abs),cB (zck false).r.eq,cFs (zck false).kids])] h fun a w h=>qV (za5 (rA 7 [cI (zck false).kind,cPs (zck false).r.t.parts,cB (zck false).r.t.k.neg,.d (nsl (zck false).r.t.k.abs),cB (zck false).r.eq,cFs (zck false).kids] h zcq rfl ?_));rw [if_neg (by rw [(show ((zaa s act).2)=false from by simpa using hc1)];exact Bool.noConfusion)];try rfl
 refine qU (za2 (Je 9 [] [27] [(9,vW zaj),(10,vW zaj)] h fun a w h=>Je 9 [] [] [(11,vW zaj)] h fun a w h=>qW (Je 9 [(2,.len (za4 1 zen s.vars))] [] [(31,vN s.vars.length),(32,vI 0)] h fun a w h=>qZ ?_)));replace h:=zeg 9 0 9 1 3 (vW zaj) h;replace h:=zeg 10 0 10 1 3 (vW zaj) h;replace h:=zeg 11 0 11 3 30 (vW zaj) h;replace h:=cvM [] [(9,vO 9 (zcv (zaa s act).1 0).length)] [] [(9,.row 3 1 ((zcv (zaa s act).1 0).map zb0))] (by rw [<- show ([]:List Int)=(zcv (zaa s act).1 0) from rfl];kernel_rfl) h;replace h:=cvM [] [(10,vO 10 (zcw (zaa s act).1 0).length)] [] [(10,.row 3 1 ((zcw (zaa s act).1 0).map zb0))] (by rw [<- show ([]:List Int)=(zcw (zaa s act).1 0) from rfl];kernel_rfl) h
 refine zc7 (ι:=(Nat)) (fun j=>j<=s.vars.length)
   [] (fun j=>[(9,vO 9 (zcv (zaa s act).1 j).length),(10,vO 10 (zcw (zaa s act).1 j).length),(11,vO 11 (zd9 (zaa s act).1 j).length),(32,vN j)])
   [] (fun j=>[(9,.row 3 1 ((zcv (zaa s act).1 j).map zb0)),(10,.row 3 1 ((zcw (zaa s act).1 j).map zb0)),(11,.row 30 3 ((zd9 (zaa s act).1 j).map zaf.d))])
   (fun j=>s.vars.length - j) 0 ?_ h ?_
 ·exact bC _
 clear h;rintro j a w hI h;obtain ⟨lp1,lp2,lp3⟩:=pre_len (zaa s act).1 j;refine Je 12 [] [] [(33,vb (decide ((j:Int)<(s.vars.length:Int))))] h fun a w h=>qW (zae ((j:Int)<(s.vars.length:Int)) h (fun hc3 hc3'=>?_) (fun hc6 hc6'=>?_))
 ·refine qU (za2 (qW (qZ (Je 12 [] [33] [(12,vN j)] h fun a w h=>Jg 12 [(2,.call (Lvalue (zaa s act).1 j (zeo hs _)))] [] [(13,vp 12 0),(14,vb (zd8 (zaa s act).1 j).2)] [] [(12,.box [cPs (zd8 (zaa s act).1 j).1.parts,cB (zd8 (zaa s act).1 j).1.k.neg,.d (nsl (zd8 (zaa s act).1 j).1.k.abs)])] h fun a w h=>Je 13 [] [14] [(41,vb (zd8 (zaa s act).1 j).2)] h fun a w h=>cS (zd8 (zaa s act).1 j).2 h (fun hc4=>?_) (fun hc5=>?_)))))
  ·refine Jh 13 [(2,.g (bD 44 ([(j:Int)].map zb0) [(43,vN j)] tb_0 (.cons (i:=0) (OV.tmp 43 _) (.nil)) (by kernel_rfl) (by simp [zb0]))),(3,.g (Op.appOD (d:=45) (t:=42) (u:=44) (n:=9) (n':=13) (len:=(zcv (zaa s act).1 j).length) (len':=((zcv (zaa s act).1 j)++[(j:Int)]).length) (rows:=(zcv (zaa s act).1 j).map zb0) (rows2:=[(j:Int)].map zb0) (rows':=((zcv (zaa s act).1 j)++[(j:Int)]).map zb0) tb_2 (by first | exact (bI _).symm | simp) (by first | (rw [b7,bI];done) | (simp;done) | (simp;omega)) (by simp) (by simp [zb0]) (by first | omega | (simp at *;done) | (simp at *;omega)))),(6,.g (bD 48 ([(zd8 (zaa s act).1 j).1].map zaf.d) [(47,vG [cPs (zd8 (zaa s act).1 j).1.parts,cB (zd8 (zaa s act).1 j).1.k.neg,.d (nsl (zd8 (zaa s act).1 j).1.k.abs)])] tq_13 (.cons (i:=0) (OV.tmp 47 _) (.nil)) (by kernel_rfl) (by simp [zaf.d]))),(7,.g (Op.appOD (d:=49) (t:=46) (u:=48) (n:=11) (n':=14) (len:=(zd9 (zaa s act).1 j).length) (len':=((zd9 (zaa s act).1 j)++[(zd8 (zaa s act).1 j).1]).length) (rows:=(zd9 (zaa s act).1 j).map zaf.d) (rows2:=[(zd8 (zaa s act).1 j).1].map zaf.d) (rows':=((zd9 (zaa s act).1 j)++[(zd8 (zaa s act).1 j).1]).map zaf.d) mi7_9 (by first | exact (bI _).symm | simp) (by first | (rw [b7,bI];done) | (simp;done) | (simp;omega)) (by simp) (by simp [zaf.d]) (by first | omega | (simp at *;done) | (simp at *;omega))))] [12,13,41] [(9,vO 13 ((zcv (zaa s act).1 j)++[(j:Int)]).length),(11,vO 14 ((zd9 (zaa s act).1 j)++[(zd8 (zaa s act).1 j).1]).length)] [9,11,12] [(13,.row 3 1 (((zcv (zaa s act).1 j)++[(j:Int)]).map zb0)),(14,.row 30 3 (((zd9 (zaa s act).1 j)++[(zd8 (zaa s act).1 j).1]).map zaf.d))] h fun a w h=>za6 (za2 (Jf 15 [(0,.j1 j)] [] [(32,vI ((j:Int)+1))] h fun a w h=>za2 ?_));rw [show (((zcv (zaa s act).1 j)++[(j:Int)]):List Int)=(zcv (zaa s act).1 (j+1)) from (by rw [(pre_at (zaa s act).1 j).1,if_pos hc4];first | done | simp)] at h;replace h:=cv (fun z_:List Int=>F.of [(3,vp 5 0),(5,vp 6 0),(6,vp 7 0),(7,vp 8 0),(9,vO 13 (zcv (zaa s act).1 (j+1)).length),(10,vO 10 z_.length),(11,vO 14 ((zd9 (zaa s act).1 j)++[(zd8 (zaa s act).1 j).1]).length),(31,vN s.vars.length),(32,vI ((j:Int)+1))] [(5,.box [.d (.sl 1 (s.vars.map zen)),.d (.sl 5 (s.bounds.map zan.d)),cI s.init.kind,cPs s.init.r.t.parts,cB s.init.r.t.k.neg,.d (nsl s.init.r.t.k.abs),cB s.init.r.eq,cFs s.init.kids,.d (.sl 3 (s.procs.map zbp.d)),.d (.sl 10 (s.acts.map zb9.d))]),(6,.box [cI f.kind,cPs f.r.t.parts,cB f.r.t.k.neg,.d (nsl f.r.t.k.abs),cB f.r.eq,cFs f.kids]),(7,.box zF0),(8,.box [cI (zaa s act).1.proc,cI (zaa s act).1.from_,cI (zaa s act).1.to_,cI (zaa s act).1.guard.kind,cPs (zaa s act).1.guard.r.t.parts,cB (zaa s act).1.guard.r.t.k.neg,.d (nsl (zaa s act).1.guard.r.t.k.abs),cB (zaa s act).1.guard.r.eq,cFs (zaa s act).1.guard.kids,.d (.sl 5 ((zaa s act).1.moves.map zao.d))]),(10,.row 3 1 (z_.map zb0)),(13,.row 3 1 ((zcv (zaa s act).1 (j+1)).map zb0)),(14,.row 30 3 (((zd9 (zaa s act).1 j)++[(zd8 (zaa s act).1 j).1]).map zaf.d))]) (show ((zcw (zaa s act).1 j):List Int)=(zcw (zaa s act).1 (j+1)) from (by rw [(pre_at (zaa s act).1 j).2.2,if_pos hc4];first | done | simp)) (h.conv (by kernel_rfl));rw [show (((zd9 (zaa s act).1 j)++[(zd8 (zaa s act).1 j).1]):List zaf)=(zd9 (zaa s act).1 (j+1)) from (by rw [(pre_at (zaa s act).1 j).2.1,if_pos hc4];first | done | simp)] at h;replace h:=zcz 13 9 h;replace h:=zcz 14 11 h;refine zab (x:=j) (y:=j+1) h ?_ ?_
   ·have:=dT hc3;show j+1<=s.vars.length;omega
   show s.vars.length - (j+1)<s.vars.length - j;have:=dT hc3;omega
  refine Jh 15 [(2,.g (bD 52 ([(j:Int)].map zb0) [(51,vN j)] tb_0 (.cons (i:=0) (OV.tmp 51 _) (.nil)) (by kernel_rfl) (by simp [zb0]))),(3,.g (Op.appOD (d:=53) (t:=50) (u:=52) (n:=10) (n':=15) (len:=(zcw (zaa s act).1 j).length) (len':=((zcw (zaa s act).1 j)++[(j:Int)]).length) (rows:=(zcw (zaa s act).1 j).map zb0) (rows2:=[(j:Int)].map zb0) (rows':=((zcw (zaa s act).1 j)++[(j:Int)]).map zb0) tb_2 (by first | exact (bI _).symm | simp) (by first | (rw [b7,bI];done) | (simp;done) | (simp;omega)) (by simp) (by simp [zb0]) (by first | omega | (simp at *;done) | (simp at *;omega))))] [12,13,41] [(10,vO 15 ((zcw (zaa s act).1 j)++[(j:Int)]).length)] [10,12] [(15,.row 3 1 (((zcw (zaa s act).1 j)++[(j:Int)]).map zb0))] h fun a w h=>za6 (za2 (Jf 16 [(0,.j1 j)] [] [(32,vI ((j:Int)+1))] h fun a w h=>za2 ?_));replace h:=cvM [] [(9,vO 9 (zcv (zaa s act).1 (j+1)).length)] [] [(9,.row 3 1 ((zcv (zaa s act).1 (j+1)).map zb0))] (by rw [<- show ((zcv (zaa s act).1 j):List Int)=(zcv (zaa s act).1 (j+1)) from (by rw [(pre_at (zaa s act).1 j).1,if_neg (by rw [hc5];exact Bool.noConfusion)];first | done | simp)];kernel_rfl) h;rw [show (((zcw (zaa s act).1 j)++[(j:Int)]):List Int)=(zcw (zaa s act).1 (j+1)) from (by rw [(pre_at (zaa s act).1 j).2.2,if_neg (by rw [hc5];exact Bool.noConfusion)];first | done | simp)] at h;replace h:=cv (fun z_:List zaf=>F.of [(3,vp 5 0),(5,vp 6 0),(6,vp 7 0),(7,vp 8 0),(9,vO 9 (zcv (zaa s act).1 (j+1)).length),(10,vO 15 (zcw (zaa s act).1 (j+1)).length),(11,vO 11 z_.length),(31,vN s.vars.length),(32,vI ((j:Int)+1))] [(5,.box [.d (.sl 1 (s.vars.map zen)),.d (.sl 5 (s.bounds.map zan.d)),cI s.init.kind,cPs s.init.r.t.parts,cB s.init.r.t.k.neg,.d (nsl s.init.r.t.k.abs),cB s.init.r.eq,cFs s.init.kids,.d (.sl 3 (s.procs.map zbp.d)),.d (.sl 10 (s.acts.map zb9.d))]),(6,.box [cI f.kind,cPs f.r.t.parts,cB f.r.t.k.neg,.d (nsl f.r.t.k.abs),cB f.r.eq,cFs f.kids]),(7,.box zF0),(8,.box [cI (zaa s act).1.proc,cI (zaa s act).1.from_,cI (zaa s act).1.to_,cI (zaa s act).1.guard.kind,cPs (zaa s act).1.guard.r.t.parts,cB (zaa s act).1.guard.r.t.k.neg,.d (nsl (zaa s act).1.guard.r.t.k.abs),cB (zaa s act).1.guard.r.eq,cFs (zaa s act).1.guard.kids,.d (.sl 5 ((zaa s act).1.moves.map zao.d))]),(9,.row 3 1 ((zcv (zaa s act).1 (j+1)).map zb0)),(11,.row 30 3 (z_.map zaf.d)),(15,.row 3 1 ((zcw (zaa s act).1 (j+1)).map zb0))]) (show ((zd9 (zaa s act).1 j):List zaf)=(zd9 (zaa s act).1 (j+1)) from (by rw [(pre_at (zaa s act).1 j).2.1,if_neg (by rw [hc5];exact Bool.noConfusion)];first | done | simp)) (h.conv (by kernel_rfl));replace h:=zcz 15 10 h;refine zab (x:=j) (y:=j+1) h ?_ ?_
  ·have:=dT hc3;show j+1<=s.vars.length;omega
  show s.vars.length - (j+1)<s.vars.length - j;have:=dT hc3;omega
 refine exA ?_;replace h:=cvM [] [(9,vO 9 (zcv (zaa s act).1 s.vars.length).length)] [] [(9,.row 3 1 ((zcv (zaa s act).1 s.vars.length).map zb0))] (by rw [<- show ((zcv (zaa s act).1 j):List Int)=(zcv (zaa s act).1 s.vars.length) from (by rw [show j=s.vars.length by have:=dF hc6;omega])];kernel_rfl) h;replace h:=zia 9 1 3 ((zcv (zaa s act).1 s.vars.length).map zb0) h [(zcv (zaa s act).1 s.vars.length).length] ⟨by first | exact (bI _).symm | (simp;done) | (simp;omega),trivial⟩;replace h:=cvM [] [(10,vO 10 (zcw (zaa s act).1 s.vars.length).length)] [] [(10,.row 3 1 ((zcw (zaa s act).1 s.vars.length).map zb0))] (by rw [<- show ((zcw (zaa s act).1 j):List Int)=(zcw (zaa s act).1 s.vars.length) from (by rw [show j=s.vars.length by have:=dF hc6;omega])];kernel_rfl) h;replace h:=zia 10 1 3 ((zcw (zaa s act).1 s.vars.length).map zb0) h [(zcw (zaa s act).1 s.vars.length).length] ⟨by first | exact (bI _).symm | (simp;done) | (simp;omega),trivial⟩;replace h:=cvM [] [(11,vO 11 (zd9 (zaa s act).1 s.vars.length).length)] [] [(11,.row 30 3 ((zd9 (zaa s act).1 s.vars.length).map zaf.d))] (by rw [<- show ((zd9 (zaa s act).1 j):List zaf)=(zd9 (zaa s act).1 s.vars.length) from (by rw [show j=s.vars.length by have:=dF hc6;omega])];kernel_rfl) h;replace h:=zia 11 3 30 ((zd9 (zaa s act).1 s.vars.length).map zaf.d) h [(zd9 (zaa s act).1 s.vars.length).length] ⟨by first | exact (bI _).symm | (simp;done) | (simp;omega),trivial⟩;refine Jq 16 [(2,.call (Lcan s (zaa s act).1 hs (zeo hs _) (zj1 hw _))),(4,.call (LFlat f (za0.okB_mono (by omega) (by omega) _ hf) (by omega))),(6,.call (Lforget (zcw (zaa s act).1 s.vars.length) (by omega) (za0.flat f false) (za0.okA_mono (by omega) (by omega) _ (zhq (by omega) hL3 f hf false)) (bK (ze0 f false) (by omega)))),(9,.call (LPutAllF (za0.forg (zcw (zaa s act).1 s.vars.length) (za0.flat f false)) (zcv (zaa s act).1 s.vars.length) (zd9 (zaa s act).1 s.vars.length) (za0.okB_mono (by omega) (by omega) _ hpt) hcl (by omega) (by omega) (preB_ok (zeo hs act) _) (by omega) (by omega))),(10,.g (Op.buildD (d:=65) (len:=2) (rows:=[(zec s (zaa s act).1),(za0.each (zbf (zcv (zaa s act).1 s.vars.length) (zd9 (zaa s act).1 s.vars.length)) (za0.forg (zcw (zaa s act).1 s.vars.length) (za0.flat f false)))].map za0.d) (rs:=[(57,vG [cI (zec s (zaa s act).1).kind,cPs (zec s (zaa s act).1).r.t.parts,cB (zec s (zaa s act).1).r.t.k.neg,.d (nsl (zec s (zaa s act).1).r.t.k.abs),cB (zec s (zaa s act).1).r.eq,cFs (zec s (zaa s act).1).kids]),(64,vG [cI (za0.each (zbf (zcv (zaa s act).1 s.vars.length) (zd9 (zaa s act).1 s.vars.length)) (za0.forg (zcw (zaa s act).1 s.vars.length) (za0.flat f false))).kind,cPs (za0.each (zbf (zcv (zaa s act).1 s.vars.length) (zd9 (zaa s act).1 s.vars.length)) (za0.forg (zcw (zaa s act).1 s.vars.length) (za0.flat f false))).r.t.parts,cB (za0.each (zbf (zcv (zaa s act).1 s.vars.length) (zd9 (zaa s act).1 s.vars.length)) (za0.forg (zcw (zaa s act).1 s.vars.length) (za0.flat f false))).r.t.k.neg,.d (nsl (za0.each (zbf (zcv (zaa s act).1 s.vars.length) (zd9 (zaa s act).1 s.vars.length)) (za0.forg (zcw (zaa s act).1 s.vars.length) (za0.flat f false))).r.t.k.abs),cB (za0.each (zbf (zcv (zaa s act).1 s.vars.length) (zd9 (zaa s act).1 s.vars.length)) (za0.forg (zcw (zaa s act).1 s.vars.length) (za0.flat f false))).r.eq,cFs (za0.each (zbf (zcv (zaa s act).1 s.vars.length) (zd9 (zaa s act).1 s.vars.length)) (za0.forg (zcw (zaa s act).1 s.vars.length) (za0.flat f false))).kids])]) kb_1 (.cons (i:=0) (OV.tmp 57 _) (.cons (i:=1) (OV.tmp 64 _) (.nil))) (by simp only [bF,bP,bW,bX,bU,za0.d_eq];kernel_rfl) rfl (by simp [za0.d_len]) (by decide) (by decide))),(11,.call (LAll [zec s (zaa s act).1,(za0.each (zbf (zcv (zaa s act).1 s.vars.length) (zd9 (zaa s act).1 s.vars.length)) (za0.forg (zcw (zaa s act).1 s.vars.length) (za0.flat f false)))] (fun g hg=>za0.okB_mono (by omega) (by omega) _ (hsl g hg)) (show List.length _<=1000000000000 from by simp)))] [(6,vp 7 0)] [(7,.box [cI (zc5 [zec s (zaa s act).1,(za0.each (zbf (zcv (zaa s act).1 s.vars.length) (zd9 (zaa s act).1 s.vars.length)) (za0.forg (zcw (zaa s act).1 s.vars.length) (za0.flat f false)))]).kind,cPs (zc5 [zec s (zaa s act).1,(za0.each (zbf (zcv (zaa s act).1 s.vars.length) (zd9 (zaa s act).1 s.vars.length)) (za0.forg (zcw (zaa s act).1 s.vars.length) (za0.flat f false)))]).r.t.parts,cB (zc5 [zec s (zaa s act).1,(za0.each (zbf (zcv (zaa s act).1 s.vars.length) (zd9 (zaa s act).1 s.vars.length)) (za0.forg (zcw (zaa s act).1 s.vars.length) (za0.flat f false)))]).r.t.k.neg,.d (nsl (zc5 [zec s (zaa s act).1,(za0.each (zbf (zcv (zaa s act).1 s.vars.length) (zd9 (zaa s act).1 s.vars.length)) (za0.forg (zcw (zaa s act).1 s.vars.length) (za0.flat f false)))]).r.t.k.abs),cB (zc5 [zec s (zaa s act).1,(za0.each (zbf (zcv (zaa s act).1 s.vars.length) (zd9 (zaa s act).1 s.vars.length)) (za0.forg (zcw (zaa s act).1 s.vars.length) (za0.flat f false)))]).r.eq,cFs (zc5 [zec s (zaa s act).1,(za0.each (zbf (zcv (zaa s act).1 s.vars.length) (zd9 (zaa s act).1 s.vars.length)) (za0.forg (zcw (zaa s act).1 s.vars.length) (za0.flat f false)))]).kids])] h fun a w h=>?_;refine qV (rA 7 [cI (zc5 [zec s (zaa s act).1,(za0.each (zbf (zcv (zaa s act).1 s.vars.length) (zd9 (zaa s act).1 s.vars.length)) (za0.forg (zcw (zaa s act).1 s.vars.length) (za0.flat f false)))]).kind,cPs (zc5 [zec s (zaa s act).1,(za0.each (zbf (zcv (zaa s act).1 s.vars.length) (zd9 (zaa s act).1 s.vars.length)) (za0.forg (zcw (zaa s act).1 s.vars.length) (za0.flat f false)))]).r.t.parts,cB (zc5 [zec s (zaa s act).1,(za0.each (zbf (zcv (zaa s act).1 s.vars.length) (zd9 (zaa s act).1 s.vars.length)) (za0.forg (zcw (zaa s act).1 s.vars.length) (za0.flat f false)))]).r.t.k.neg,.d (nsl (zc5 [zec s (zaa s act).1,(za0.each (zbf (zcv (zaa s act).1 s.vars.length) (zd9 (zaa s act).1 s.vars.length)) (za0.forg (zcw (zaa s act).1 s.vars.length) (za0.flat f false)))]).r.t.k.abs),cB (zc5 [zec s (zaa s act).1,(za0.each (zbf (zcv (zaa s act).1 s.vars.length) (zd9 (zaa s act).1 s.vars.length)) (za0.forg (zcw (zaa s act).1 s.vars.length) (za0.flat f false)))]).r.eq,cFs (zc5 [zec s (zaa s act).1,(za0.each (zbf (zcv (zaa s act).1 s.vars.length) (zd9 (zaa s act).1 s.vars.length)) (za0.forg (zcw (zaa s act).1 s.vars.length) (za0.flat f false)))]).kids] h zcq rfl ?_);rw [if_pos (show ((zaa s act).2)=true from by simpa using hc2)];try rfl
theorem at_ok9 (h:f.okB 40 200) (s:zaz) (k:Nat):(atF s f k).okB 40 203:=okB_each (t:=zcl (offZ s k)) (fun r hr=>by
 have:=movZ_tok (hr.plain (by decide)) (by decide) (zad (offZ s k))
 exact this) f h
theorem preK_ok (hs:zcc 3 s) (hw:SysW s) (act:Int) {L:Nat} (hf:f.okB n L) (hn:n<=33000000) (h30:30<=n) (hL3:3<=L) (hL:L<=1900) (hfw:f.wid<=1000000000000):(preF s act f).okB (30*n) (L+61):=by
 unfold preF;split
 ·exact za0.okB_mono (by omega) (by omega) _ (zh2 (n:=n) (L:=L) (by omega) (fun g hg=>by rw [bE.1 hg];exact hf) (show List.length _<=1000000000000 from by simp))
 ·split
  ·refine zh2 (n:=30*n) (L:=L+60) (by omega) (fun g hg=>?_) (show List.length _<=1000000000000 from by simp)
   rcases b5.1 hg with rfl | hg
   ·exact za0.okB_mono (by omega) (by omega) _ (canF_ok hs (zeo hs act) (zj1 hw act))
   ·rw [bE.1 hg];exact za0.okB_mono (by omega) (by omega) _ (put_ok hn (preT_ok hn hL3 hf hfw act) (preB_ok (zeo hs act) _))
  ·exact okB_tru _ _ _
theorem LPre (s:zaz) (act:Int) (f:za0) (hs:zcc 3 s) (hw:SysW s) {L:Nat} (hf:f.okB n L) (hn:n<=33000000) (h30:30<=n) (hL3:3<=L) (hL:L<=1900) (hfw:f.wid<=1000000000000):Fn Tryz.prog 70 [] [vG (zfo s),vi .i64 act,(vF f)] (vF (preF s act f)) []:=by
 by_cases ha:act=-1
 ·subst ha;rw [show preF s (-1) f=_ from if_pos rfl];exact LPreM s f hf hn h30 hL3 hL hfw
 ·rw [show preF s act f=_ from if_neg ha];exact LPreS s act f ha hs hw hf hn h30 hL3 hL hfw
theorem vokE (ns:List Int) (hl:ns.length<=2000) (h:∀ z ∈ ns,-9223372036854775808<=z/\z<=9223372036854775807):VOk 3 (ns.map ZI.of):=⟨by rw [bI];exact hl,fun y hy=>by
 obtain ⟨z,hz,rfl⟩:=b6.1 hy
 have:=h z hz
 exact ⟨ZI.lb_of _,bK (ZI.len_of (L:=2) (by have:=pw2;omega)) (by decide)⟩⟩
theorem sum_cnt (k:Int) (xs:List za0):((cnt k xs).map za0.nodes).sum<=(xs.map za0.nodes).sum:=by
 unfold cnt
 split
 ·exact bG _
 ·split
  ·cases xs with
   | nil=>exact bG _
   | cons x xs=>simp
  ·exact bC _
theorem sum_mul3 (xs:List za0):(xs.map fun g=>3*g.nodes).sum=3*(xs.map za0.nodes).sum:=by
 induction xs with
 | nil=>rfl
 | cons x xs ih=>rw [bF,bF,bS,bS,ih];omega
theorem ze3 (f:za0):f.wid<=3*f.nodes :=
 za0.ind (P:=fun f=>f.wid<=3*f.nodes) (fun k r ks ih=>by
  rw [za0.wid_eq,za0.nodes_eq]
  show 3+((cnt k ks).map za0.wid).sum<=3*(1+(ks.map za0.nodes).sum)
  have h1:=ziz (xs:=cnt k ks) (F:=za0.wid) (G:=fun g=>3*g.nodes) fun g hg=>ih g (zby hg)
  have h2:=sum_mul3 (cnt k ks)
  have h3:=sum_cnt k ks
  omega) f
theorem each_wid (t:za8->za8) (f:za0):(f.each t).nodes<=f.wid :=
 za0.ind (P:=fun f=>(f.each t).nodes<=f.wid) (fun k r ks ih=>by
  rw [za0.each_eq,za0.wid_eq]
  show (zf7 t k r (ks.map (za0.each t))).nodes<=3+((cnt k ks).map za0.wid).sum
  unfold zf7
  split
  ·rw [za0.nodes_eq];show 1+0<=_;omega
  ·split
   ·rw [za0.nodes_eq];show 1+0<=_;omega
   ·split
    ·rw [za0.nodes_eq]
     show 1+((cnt k (ks.map (za0.each t))).map za0.nodes).sum<=_
     rw [zd6,cK]
     have:=ziz (xs:=cnt k ks) (F:=za0.nodes ∘ za0.each t) (G:=za0.wid) fun g hg=>ih g (zby hg)
     omega
    ·rw [za0.nodes_eq];show 1+0<=_;omega) f
theorem zf5 (t:za8->za8) (f:za0):(f.each t).nodes<=f.nodes :=
 za0.ind (P:=fun f=>(f.each t).nodes<=f.nodes) (fun k r ks ih=>by
  rw [za0.each_eq,za0.nodes_eq ⟨k,r,ks⟩]
  show (zf7 t k r (ks.map (za0.each t))).nodes<=1+(ks.map za0.nodes).sum
  unfold zf7
  split
  ·rw [za0.nodes_eq];show 1+0<=_;omega
  ·split
   ·rw [za0.nodes_eq];show 1+0<=_;omega
   ·split
    ·rw [za0.nodes_eq]
     show 1+((cnt k (ks.map (za0.each t))).map za0.nodes).sum<=_
     rw [zd6,cK]
     have h1:=ziz (xs:=cnt k ks) (F:=za0.nodes ∘ za0.each t) (G:=za0.nodes) fun g hg=>ih g (zby hg)
     have h2:=sum_cnt k ks
     omega
    ·rw [za0.nodes_eq];show 1+0<=_;omega) f
theorem zfd (fs:List za0):(zc5 fs).nodes<=1+(fs.map za0.nodes).sum:=by
 rw [za0.nodes_eq]
 show 1+((fs.map za0.cl).map za0.nodes).sum<=_
 rw [cK]
 have:=ziz (xs:=fs) (F:=za0.nodes ∘ za0.cl) (G:=za0.nodes) fun g _=>zf5 id g
 omega
theorem deny_nodes (f:za0):(zim f).nodes<=1+f.nodes:=by
 rw [za0.nodes_eq];show 1+(f.cl.nodes+0)<=_;have:f.cl.nodes<=f.nodes:=zf5 id f;omega
theorem zfa (r:za8):(zfb r).nodes=1:=by rw [za0.nodes_eq];rfl
theorem forg_nodes (vs:List Int) (f:za0):(f.forg vs).nodes<=f.nodes :=
 za0.ind (P:=fun f=>(f.forg vs).nodes<=f.nodes) (fun k r ks ih=>by
  rw [za0.forg_eq,za0.nodes_eq ⟨k,r,ks⟩]
  show (forgK vs k r ks (ks.map (za0.forg vs))).nodes<=1+(ks.map za0.nodes).sum
  unfold forgK
  split
  ·split
   ·rw [za0.nodes_eq];show 1+0<=_;omega
   ·rw [za0.nodes_eq];exact bG _
  ·rw [za0.nodes_eq]
   show 1+((ks.map (za0.forg vs)).map za0.nodes).sum<=_
   rw [cK]
   have:=ziz (xs:=ks) (F:=za0.nodes ∘ za0.forg vs) (G:=za0.nodes) fun g hg=>ih g hg
   omega) f
theorem sum_c {F:α->Nat} {c:Nat}:∀ {xs:List α}, (∀ x ∈ xs,F x<=c)->(xs.map F).sum<=xs.length*c
 | [],_=>bC _
 | x :: xs,h=>by
  rw [bF,bS,bN,Nat.succ_mul]
  have:=h x (bV ..);have:=sum_c (xs:=xs) fun y hy=>h y (cD _ hy);omega
theorem canS_nodes (s:zaz) (c:zb9) (v:Nat):∀ g ∈ zf9 s c v,g.nodes<=1:=fun g hg=>by
 unfold zf9 bndF at hg
 split at hg
 ·split at hg
  ·rcases b5.1 hg with rfl | hg
   ·exact cZ (zfa _)
   ·rw [bE.1 hg];exact cZ (zfa _)
  ·cases hg
 ·split at hg
  ·rw [bE.1 hg];exact cZ (zfa _)
  ·cases hg
theorem canF_nodes {c:zb9} (hv:s.vars.length<=8) (hw:c.guard.wid<=100):(zec s c).nodes<=120:=by
 unfold zec
 rw [za0.nodes_eq]
 show 1+(((canL s c).map za0.cl).map za0.nodes).sum<=_
 unfold canL
 rw [cK,bF,bS]
 have h1:(za0.nodes ∘ za0.cl) c.guard<=c.guard.wid:=each_wid id _
 have h2:=sum_c (F:=za0.nodes ∘ za0.cl) (c:=1) (xs:=(List.range s.vars.length).flatMap (zf9 s c)) fun g hg=>bK (zf5 id g) (zf4 (Q:=fun g=>g.nodes<=1) (fun v _=>canS_nodes s c v) g hg)
 have h3:=zd5 (zf9 s c) (zk1 s c) s.vars.length
 omega
theorem stkF_nodes (hs:zcc 3 s) (hw:SysW s) (locs:List Int):(stkF s locs).nodes<=2421:=by
 have h0:=zfd ((List.range s.acts.length).flatMap (zg9 s locs))
 have h2:=sum_c (F:=za0.nodes) (c:=121) (xs:=(List.range s.acts.length).flatMap (zg9 s locs)) fun g hg=>zf4 (Q:=fun g=>g.nodes<=121) (fun v _ g hg=>by
  unfold zg9 at hg
  split at hg
  ·rw [bE.1 hg];have:=deny_nodes (zec s (zgs s locs (v:Int)).1);have:=canF_nodes (s:=s) (c:=(zgs s locs (v:Int)).1) hs.vars (zj1 hw _);omega
  ·cases hg) g hg
 have h3:=zd5 (zg9 s locs) (zjh s locs) s.acts.length
 have:=hs.acts
 unfold stkF
 omega
theorem lit_nodes (r:za8) (b:Bool):(litF r b).nodes<=2:=by
 unfold litF
 split
 ·rw [zfa];omega
 ·have:=deny_nodes (zfb r);rw [zfa] at this;exact this
theorem cube_lits {bs:List Bool} {g:za0} (hg:g ∈ zdq ps bs):∃ r b,r ∈ ps/\g=litF r b:=by
 obtain ⟨j,hj,rfl⟩:=List.getElem_of_mem hg
 have hl:=zgj ps bs
 have e:(zdq ps bs)[j]'hj=litF (ps[j]'(by omega)) (bs[j]'(by omega)):=c8 ..
 exact ⟨_,_,List.getElem_mem _,e⟩
theorem cubeF_nodes (hps:zhz ps) (bs:List Bool):(zau ps bs).nodes<=2001:=by
 have h0:=zfd (zdq ps bs)
 have h1:=sum_c (F:=za0.nodes) (c:=2) (xs:=zdq ps bs) fun g hg=>by obtain ⟨r,b,_,rfl⟩:=cube_lits hg;exact lit_nodes r b
 have h2:=zgj ps bs
 have h3:=hps.1
 unfold zau
 omega
theorem zjx (hps:zhz ps) (bs:List Bool):(zau ps bs).okB 40 100:=by
 refine za0.okB_mono (n:=20) (L:=13) (by decide) (by decide) _ (zh2 (by decide) (fun g hg=>?_) ?_)
 ·obtain ⟨r,b,hr,rfl⟩:=cube_lits hg
  have h:(zfb r).okB 20 11:=zhi ((hps.2 r hr).plain (by decide))
  unfold litF
  split
  ·exact za0.okB_mono (by decide) (by decide) _ h
  ·exact zge (by decide) (by simp) fun g hg=>by rw [bE.1 hg];exact okB_cl (by decide) _ h
 ·have:=zgj ps bs;have:=hps.1;omega
theorem pre_nodes (hs:zcc 3 s) (hw:SysW s) (act:Int) (f:za0):(preF s act f).nodes<=122+3*f.nodes:=by
 unfold preF
 split
 ·have:=zfd [f];simp only [bF,bP,bS,cO] at this;omega
 ·split
  ·have h1:=zfd [zec s (zaa s act).1,((f.flat false).forg (zcw (zaa s act).1 s.vars.length)).each (zbf (zcv (zaa s act).1 s.vars.length) (zd9 (zaa s act).1 s.vars.length))]
   simp only [bF,bP,bS,cO] at h1
   have h2:=canF_nodes (s:=s) (c:=(zaa s act).1) hs.vars (zj1 hw act)
   have h3:=zf5 (zbf (zcv (zaa s act).1 s.vars.length) (zd9 (zaa s act).1 s.vars.length)) ((f.flat false).forg (zcw (zaa s act).1 s.vars.length))
   have h4:=forg_nodes (zcw (zaa s act).1 s.vars.length) (f.flat false)
   have h5:=ze0 f false
   have h6:=ze3 f
   omega
  ·show (zck false).nodes<=_;rw [za0.nodes_eq];show 1+0<=_;omega
def zav (s:zaz) (locs:List Int) (act:Int) (f:za0):List za0:=if act=-1 then [atF s (stkF s locs) 0,f] else [preF s act f]
def cndF (ps:List za8) (x:zdk) (tl:List za0):za0:=zc5 (zau ps x.bits :: tl)
def zag (s:zaz) (ps:List za8):List zdk->List Int->List za0
  | [],_=>[]
  | [x],_=>[cndF ps x []]
  | x :: _ :: _,[]=>[cndF ps x []]
  | x :: y :: ys,c :: cs=>cndF ps x (zav s x.locs c ((zag s ps (y :: ys) cs).headD (zck false))) :: zag s ps (y :: ys) cs
theorem zet (s:zaz) (ps:List za8):∀ (xs:List zdk) (cs:List Int),(zag s ps xs cs).length=min xs.length (cs.length+1)
 | [],_=>by simp [zag]
 | [x],cs=>by simp [zag]
 | x :: y :: ys,[]=>by simp [zag]
 | x :: y :: ys,c :: cs=>by
  rw [zag,bN,zet s ps (y :: ys) cs];simp only [bN];omega
theorem cnd_last (s:zaz) (ps:List za8):∀ (xs:List zdk) (cs:List Int) {i:Nat} {x:zdk}, xs[i]?=some x->i+1=min xs.length (cs.length+1)->(zag s ps xs cs)[i]?=some (cndF ps x [])
 | [],_,i,x,h,_=>by simp at h
 | [y],cs,i,x,h,hi=>by
  obtain rfl:i=0:=by simp only [bN,cW] at hi;omega
  simp at h;subst h;rfl
 | y :: z :: ys,[],i,x,h,hi=>by
  obtain rfl:i=0:=by simp only [bN,cW] at hi;omega
  simp at h;subst h;rfl
 | y :: z :: ys,c :: cs,i,x,h,hi=>by
  obtain ⟨k,rfl⟩:∃ k,i=k+1:=⟨i - 1,by simp only [bN] at hi;omega⟩
  rw [zag,c6]
  exact cnd_last s ps (z :: ys) cs (by simpa using h) (by simp only [bN] at hi ⊢;omega)
theorem cnd_mid (s:zaz) (ps:List za8):∀ (xs:List zdk) (cs:List Int) {i:Nat} {x:zdk} {c:Int} {g:za0}, xs[i]?=some x->cs[i]?=some c->(zag s ps xs cs)[i+1]?=some g->(zag s ps xs cs)[i]?=some (cndF ps x (zav s x.locs c g))
 | [],_,i,x,c,g,h,_,_=>by simp at h
 | [y],cs,i,x,c,g,h,_,hg=>by simp [zag] at hg
 | y :: z :: ys,[],i,x,c,g,h,hc,hg=>by simp at hc
 | y :: z :: ys,b :: cs,0,x,c,g,h,hc,hg=>by
  simp at h hc;subst h;subst hc
  rw [zag,c6] at hg
  rw [zag,List.getElem?_cons_zero]
  cases e:zag s ps (z :: ys) cs with
  | nil=>rw [e] at hg;simp at hg
  | cons q l=>rw [e] at hg;simp at hg;subst hg;rfl
 | y :: z :: ys,b :: cs,i+1,x,c,g,h,hc,hg=>by
  rw [zag,c6] at hg ⊢
  exact cnd_mid s ps (z :: ys) cs (by simpa using h) (by simpa using hc) hg
def CdOk (k:Nat) (f:za0):Prop:=f.okB (40*30 ^ k) (210+70*k)/\f.nodes<=6000*4 ^ k
theorem CdOk.mono (h:k<=m) (hf:CdOk k f):CdOk m f :=
 ⟨za0.okB_mono (cP _ (cQ (by decide) h)) (by omega) _ hf.1,bK hf.2 (cP _ (cQ (by decide) h))⟩
theorem cnd_one (hps:zhz ps) (x:zdk) (k:Nat):CdOk k (cndF ps x []):=by
 refine CdOk.mono (bC k) ⟨?_,?_⟩
 ·exact za0.okB_mono (by decide) (by decide) _ (zh2 (n:=40) (L:=100) (by decide) (fun g hg=>by rw [bE.1 hg];exact zjx hps _) (by show 1<=_;decide))
 ·have:=zfd [zau ps x.bits];have:=cubeF_nodes hps x.bits;simp only [bF,bP,bS,cO] at *
  show (zc5 [zau ps x.bits]).nodes<=_;omega
theorem ahead_ok (hs:zcc 3 s) (hw:SysW s) (hk:k<=3) (hf:CdOk k f) (locs:List Int) (act:Int):(∀ g ∈ zav s locs act f,g.okB (40*30 ^ (k+1)) (210+70*k+61))/\((zav s locs act f).map za0.nodes).sum<=2500+3*f.nodes/\(zav s locs act f).length<=2:=by
 have e:40*30 ^ (k+1)=30*(40*30 ^ k):=by rw [Nat.pow_succ];omega
 have h0:40*30 ^ k<=40*30 ^ 3:=cP _ (cQ (by decide) hk)
 have h1:1<=30 ^ k:=Nat.pow_pos (by decide)
 have hwd:f.wid<=1000000000000:=by
  have:=ze3 f;have:=hf.2
  have:6000*4 ^ k<=6000*4 ^ 3:=cP _ (cQ (by decide) hk)
  omega
 unfold zav
 split
 ·refine ⟨fun g hg=>?_,?_,by simp⟩
  ·rcases b5.1 hg with rfl | hg
   ·exact za0.okB_mono (by omega) (by omega) _ (at_ok9 (za0.okB_mono (by decide) (by decide) _ (stkF_ok hs hw locs)) s 0)
   ·rw [bE.1 hg];exact za0.okB_mono (by omega) (by omega) _ hf.1
  ·simp only [bF,bP,bS,cO]
   have:=stkF_nodes hs hw locs
   have:(atF s (stkF s locs) 0).nodes<=(stkF s locs).nodes:=zf5 _ _
   omega
 ·refine ⟨fun g hg=>?_,?_,by simp⟩
  ·rw [bE.1 hg,e]
   exact preK_ok hs hw act hf.1 (by omega) (by omega) (by omega) (by omega) hwd
  ·simp only [bF,bP,bS,cO]
   have:=pre_nodes hs hw act f;omega
theorem cnd_next (hs:zcc 3 s) (hw:SysW s) (hps:zhz ps) (x:zdk) (hk:k<=3) (hf:CdOk k f) (act:Int):CdOk (k+1) (cndF ps x (zav s x.locs act f)):=by
 obtain ⟨h1,h2,h3⟩:=ahead_ok hs hw hk hf x.locs act
 have h0:40*30 ^ (k+1)<=40*30 ^ 4:=cP _ (cQ (by decide) (by omega))
 have h4:1<=30 ^ (k+1):=Nat.pow_pos (by decide)
 refine ⟨?_,?_⟩
 ·refine za0.okB_mono (bG _) (by omega) _ (zh2 (n:=40*30 ^ (k+1)) (L:=210+70*k+61) (by omega) (fun g hg=>?_) (by rw [bN];omega))
  rcases b5.1 hg with rfl | hg
  ·exact za0.okB_mono (by omega) (by omega) _ (zjx hps _)
  ·exact h1 g hg
 ·have h5:=zfd (zau ps x.bits :: zav s x.locs act f)
  have h6:=cubeF_nodes hps x.bits
  have h7:=hf.2
  have h8:1<=4 ^ k:=Nat.pow_pos (by decide)
  have h9:6000*4 ^ (k+1)=4*(6000*4 ^ k):=by rw [Nat.pow_succ];omega
  rw [bF,bS] at h5
  show (zc5 (zau ps x.bits :: zav s x.locs act f)).nodes<=_
  omega
theorem cnd_ok (hs:zcc 3 s) (hw:SysW s) (hps:zhz ps):∀ (xs:List zdk) (cs:List Int),xs.length<=5->∀ f ∈ zag s ps xs cs,CdOk (xs.length - 1) f
 | [],_,_,f,hf=>by simp [zag] at hf
 | [x],_,_,f,hf=>by rw [zag] at hf;rw [bE.1 hf];exact cnd_one hps x _
 | x :: y :: ys,[],_,f,hf=>by rw [zag] at hf;rw [bE.1 hf];exact cnd_one hps x _
 | x :: y :: ys,c :: cs,hl,f,hf=>by
  have ih:=cnd_ok hs hw hps (y :: ys) cs (by simp only [bN] at hl ⊢;omega)
  have e:(x :: y :: ys).length - 1=((y :: ys).length - 1)+1:=by simp
  have hk:(y :: ys).length - 1<=3:=by simp only [bN] at hl ⊢;omega
  rw [zag] at hf
  rw [e]
  rcases b5.1 hf with rfl | hf
  ·refine cnd_next hs hw hps x hk ?_ c
   have hn:=zet s ps (y :: ys) cs
   cases e2:zag s ps (y :: ys) cs with
   | nil=>rw [e2] at hn;simp only [bN,cW] at hn;omega
   | cons q l=>exact ih q (by rw [e2];exact bV ..)
  ·exact (ih f hf).mono (by omega)
theorem zir (hs:zcc 3 s) (hw:SysW s) (hps:zhz ps) {xs:List zdk} (cs:List Int) (hl:xs.length<=5) (hf:f ∈ zag s ps xs cs):f.okB 32400000 490/\f.nodes<=1536000:=by
 have h:=(cnd_ok hs hw hps xs cs hl f hf).mono (show xs.length - 1<=4 by omega)
 exact ⟨h.1,h.2⟩
theorem nb1_4:Zero Tryz.prog 35 [.d (.raw (.int .i64 0)),.d (.sl 3 []),.d (.raw (.bool false)),.d (nsl []),.d (.raw (.bool false)),.d (.sl 6 [])]:=⟨(Value.agg #[.int .i64 0,.slice none 0 0,.bool false,.slice none 0 0,.bool false,.slice none 0 0]),[.int .i64 0,.slice none 0 0,.bool false,.slice none 0 0,.bool false,.slice none 0 0],by kernel_rfl,rfl,(fun _ _=>⟨DR.raw _ rfl,DR.nil _ _ _ (fun _=>rfl) (bC _),DR.raw _ rfl,DR.nil _ _ _ (fun _=>rfl) (bC _),DR.raw _ rfl,DR.nil _ _ _ (fun _=>rfl) (bC _),trivial⟩)⟩
structure zds where
  states:List zdk
  acts:List Int
def zds.d (x:zds):List D:=[.sl 2 (x.states.map zdk.d),.sl 1 (x.acts.map zb0)]
def zFm:za0:=⟨0,zR,[]⟩
def zfq (s:zaz) (ps:List za8) (p:zds) (i:Int):List za0:=List.replicate (i+1).toNat zFm++(zag s ps p.states p.acts).drop (i+1).toNat
variable {p:zds}
theorem cndO_len (h:(i+1).toNat<=(zag s ps p.states p.acts).length):(zfq s ps p i).length=(zag s ps p.states p.acts).length:=by
 unfold zfq;rw [b7,cR,List.length_drop];omega
theorem cndO_start (h:(zag s ps p.states p.acts).length<=n):List.replicate n zFm=zfq s ps p ((n:Int) - 1):=by
 unfold zfq;rw [show ((n:Int) - 1+1).toNat=n by omega,cL h,bU]
theorem cndO_end (h:i<0):zfq s ps p i=zag s ps p.states p.acts:=by
 unfold zfq;rw [show (i+1).toNat=0 by omega];rfl
theorem cndO_at {g:za0} (h:(zfq s ps p (k:Int))[k+1]?=some g):(zag s ps p.states p.acts)[k+1]?=some g:=by
 unfold zfq at h
 rw [show ((k:Int)+1).toNat=k+1 by omega,List.getElem?_append_right (by rw [cR];exact bG _),cR,Nat.sub_self,List.getElem?_drop,Nat.add_zero] at h
 exact h
theorem cndO_set {g:za0} (h:(zag s ps p.states p.acts)[k]?=some g):(zfq s ps p (k:Int)).set k g=zfq s ps p ((k:Int) - 1):=by
 obtain ⟨hk,rfl⟩:=List.getElem?_eq_some_iff.1 h
 unfold zfq
 rw [show ((k:Int)+1).toNat=k+1 by omega,show ((k:Int) - 1+1).toNat=k by omega,List.drop_eq_getElem_cons hk,List.replicate_succ', List.append_assoc,List.set_append_right _ _ (by rw [cR];exact bG _),cR,Nat.sub_self]
 rfl
theorem aheadW (hs:zcc 3 s) (hw:SysW s) (hf:f.okB 32400000 490/\f.nodes<=1536000) (locs:List Int) (act:Int):(∀ g ∈ zav s locs act f,g.okB 972000000 560)/\(zav s locs act f).length<=2:=by
 have hwd:f.wid<=1000000000000:=by have:=ze3 f;have:=hf.2;omega
 unfold zav
 split
 ·refine ⟨fun g hg=>?_,by simp⟩
  rcases b5.1 hg with rfl | hg
  ·exact za0.okB_mono (by decide) (by decide) _ (at_ok9 (za0.okB_mono (by decide) (by decide) _ (stkF_ok hs hw locs)) s 0)
  ·rw [bE.1 hg];exact za0.okB_mono (by decide) (by decide) _ hf.1
 ·refine ⟨fun g hg=>?_,by simp⟩
  rw [bE.1 hg]
  exact za0.okB_mono (by decide) (by decide) _ (preK_ok hs hw act hf.1 (by decide) (by decide) (by decide) (by decide) hwd)
theorem Lahead (s:zaz) (x:zdk) (act:Int) (f:za0) (hs:zcc 3 s) (hw:SysW s) (hl:x.locs.length<=9223372036854775807) {L:Nat} (hf:f.okB n L) (hn:n<=33000000) (h30:30<=n) (hL3:3<=L) (hL:L<=1900) (hfw:f.wid<=1000000000000):Fn Tryz.prog 34 [] [vG [.d (.sl 1 (s.vars.map zen)),.d (.sl 5 (s.bounds.map zan.d)),cI s.init.kind,cPs s.init.r.t.parts,cB s.init.r.t.k.neg,.d (nsl s.init.r.t.k.abs),cB s.init.r.eq,cFs s.init.kids,.d (.sl 3 (s.procs.map zbp.d)),.d (.sl 10 (s.acts.map zb9.d))],vG [cIs x.locs,.d (.sl 1 (x.bits.map zdr))],vI act,vG [cI f.kind,cPs f.r.t.parts,cB f.r.t.k.neg,.d (nsl f.r.t.k.abs),cB f.r.eq,cFs f.kids]] (vFs (zav s x.locs act f)) []:=by
 refine fB Tryz.func34 rfl 22 fun w H B a h=>Jq 5 [] [(2,vI act),(4,vp 5 0),(5,vp 6 0),(7,vp 7 0),(8,vW zaj)] [(5,.box [.d (.sl 1 (s.vars.map zen)),.d (.sl 5 (s.bounds.map zan.d)),cI s.init.kind,cPs s.init.r.t.parts,cB s.init.r.t.k.neg,.d (nsl s.init.r.t.k.abs),cB s.init.r.eq,cFs s.init.kids,.d (.sl 3 (s.procs.map zbp.d)),.d (.sl 10 (s.acts.map zb9.d))]),(6,.box [cIs x.locs,.d (.sl 1 (x.bits.map zdr))]),(7,.box [cI f.kind,cPs f.r.t.parts,cB f.r.t.k.neg,.d (nsl f.r.t.k.abs),cB f.r.eq,cFs f.kids])] h fun a w h=>qW (Je 8 [] [] [(10,vb (act == (-1)))] h fun a w h=>cS (act == (-1)) h (fun hc1=>?_) (fun hc2=>?_))
 ·refine Jg 8 [(3,.call (LStuck s x.locs 0 hs hw hl (by decide))),(5,.g (Op.buildD (d:=16) (len:=2) (rows:=[(atF s (stkF s x.locs) 0),f].map za0.d) (rs:=[(14,vG [cI (atF s (stkF s x.locs) 0).kind,cPs (atF s (stkF s x.locs) 0).r.t.parts,cB (atF s (stkF s x.locs) 0).r.t.k.neg,.d (nsl (atF s (stkF s x.locs) 0).r.t.k.abs),cB (atF s (stkF s x.locs) 0).r.eq,cFs (atF s (stkF s x.locs) 0).kids]),(15,vG [cI f.kind,cPs f.r.t.parts,cB f.r.t.k.neg,.d (nsl f.r.t.k.abs),cB f.r.eq,cFs f.kids])]) kb_1 (.cons (i:=0) (OV.tmp 14 _) (.cons (i:=1) (OV.tmp 15 _) (.nil))) (by simp only [bF,bP,bW,bX,bU,za0.d_eq];kernel_rfl) rfl (by simp [za0.d_len]) (by decide) (by decide)))] [5,10] [(8,(vFs [(atF s (stkF s x.locs) 0),f]))] [6] [] h fun a w h=>qV (za5 (rT (.c (cFs [(atF s (stkF s x.locs) 0),f])) h rfl ?_));unfold zav;rw [if_pos (by have:=hc1;simpa using this)];try rfl
 refine qU (za2 (Jq 8 [(3,.call (LPre s act f hs hw hf hn h30 hL3 hL hfw)),(4,.g (bD 21 ([(preF s act f)].map za0.d) [(20,vG [cI (preF s act f).kind,cPs (preF s act f).r.t.parts,cB (preF s act f).r.t.k.neg,.d (nsl (preF s act f).r.t.k.abs),cB (preF s act f).r.eq,cFs (preF s act f).kids])] kb_1 (.cons (i:=0) (OV.tmp 20 _) (.nil)) (by simp only [bF,bP,bW,bX,bU,za0.d_eq];kernel_rfl) (by simp [za0.d_len])))] [(8,(vFs [(preF s act f)]))] [] h fun a w h=>qV (rT (.c (cFs [(preF s act f)])) h rfl ?_)));unfold zav;rw [if_neg (by have:=hc2;simpa using this)];try rfl
theorem LConditions (s:zaz) (ps:List za8) (p:zds) (hs:zcc 3 s) (hw:SysW s) (hps:zhz ps) (hpl:p.states.length<=5) (hpa:p.acts.length<=6) (hpx:∀ x ∈ p.states,x.locs.length<=8/\x.bits.length<=30):Fn Tryz.prog 12 [] [vG [.d (.sl 1 (s.vars.map zen)),.d (.sl 5 (s.bounds.map zan.d)),cI s.init.kind,cPs s.init.r.t.parts,cB s.init.r.t.k.neg,.d (nsl s.init.r.t.k.abs),cB s.init.r.eq,cFs s.init.kids,.d (.sl 3 (s.procs.map zbp.d)),.d (.sl 10 (s.acts.map zb9.d))],(vRs ps),vG [.d (.sl 2 (p.states.map zdk.d)),cIs p.acts]] (vFs (zag s ps p.states p.acts)) []:=by
 have lps:=hps.1;refine fB Tryz.func12 rfl 63 fun w H B a h=>Jq 5 [] [(1,(vRs ps)),(3,vp 5 0),(5,vp 6 0),(6,vW zaj)] [(5,.box [.d (.sl 1 (s.vars.map zen)),.d (.sl 5 (s.bounds.map zan.d)),cI s.init.kind,cPs s.init.r.t.parts,cB s.init.r.t.k.neg,.d (nsl s.init.r.t.k.abs),cB s.init.r.eq,cFs s.init.kids,.d (.sl 3 (s.procs.map zbp.d)),.d (.sl 10 (s.acts.map zb9.d))]),(6,.box [.d (.sl 2 (p.states.map zdk.d)),cIs p.acts])] h fun a w h=>?_
 obtain ⟨n9,hn9⟩:∃ z_:Nat,z_=min p.states.length (p.acts.length+1):=⟨_,rfl⟩;refine Je 7 [(2,.len (za4 2 zdk.d p.states)),(5,.len (za4 1 zb0 p.acts)),(6,.add .i64 (m:=(p.acts.length:Int)) (n:=1) i6),(7,.g (Op.min2 (d:=19) (tys:=#[3,3]) (k:=.i64) (m:=(p.states.length:Int)) (n:=((p.acts.length:Int)+1)) (r:=(n9:Int)) (OV.tmp 14 _) (OV.tmp 18 _) (by omega)))] [] [(7,vN n9)] h fun a w h=>Jg 7 [(1,.g (Op.makeO' (d:=21) (n:=7) (L:=n9) (zs:=[.raw (.int .i64 0),.sl 3 [],.raw (.bool false),nsl [],.raw (.bool false),.sl 6 []]) (rows:=(List.replicate n9 zFm).map za0.d) la_7 nb1_4 rfl (OV.tmp 20 _) (OV.tmp 20 _) (by omega) (by rw [List.map_replicate,za0.d_eq];rfl)))] [] [(8,vO 7 n9)] [] [(7,.row 35 6 ((List.replicate n9 zFm).map za0.d))] h fun a w h=>qW (Je 8 [(1,.sub .i64 (m:=(n9:Int)) (n:=1) i6)] [] [(9,vI ((n9:Int) - 1))] h fun a w h=>qZ ?_);replace h:=cvM [] [] [] [(7,.row 35 6 ((zfq s ps p ((n9:Int) - 1)).map za0.d))] (by rw [<- show ((List.replicate n9 zFm):List za0)=(zfq s ps p ((n9:Int) - 1)) from (cndO_start (by rw [zet];omega))];kernel_rfl) h
 refine zc7 (ι:=(Int)) (fun i=>-1<=i/\i<(n9:Int))
   [] (fun i=>[(9,vI i)])
   [] (fun i=>[(7,.row 35 6 ((zfq s ps p i).map za0.d))])
   (fun i=>(i+1).toNat) ((n9:Int) - 1) ?_ h ?_
 ·constructor <;> omega
 clear h;rintro i a w hI h;obtain ⟨hI1,hI2⟩:=hI;have lco:(zfq s ps p i).length=n9:=by rw [cndO_len (by rw [zet];omega),zet];omega
 refine qW (Je 8 [] [] [(25,vb (decide (i>=0)))] h fun a w h=>zae (i>=0) h (fun hc1 hc1'=>?_) (fun hc4 hc4'=>?_))
 ·refine qU (za2 (qW (qZ ?_)));obtain ⟨k,hkk⟩:∃ k_:Nat,i=(k_:Int):=⟨_,(cG (dT hc1)).symm⟩;replace h:=cvM [] [(9,vN k)] [] [] (by rw [hkk];kernel_rfl) h;replace h:=cvM [] [] [] [(7,.row 35 6 ((zfq s ps p (k:Int)).map za0.d))] (by rw [<- show ((zfq s ps p i):List za0)=(zfq s ps p (k:Int)) from (by rw [hkk])];kernel_rfl) h;rw [hkk] at lco;obtain ⟨x1,hx1⟩:=gl p.states k;refine Jg 8 [(3,.g (xD 31 29 ln14_4 (za7 hx1 (f:=zdk.d)) (OV.tmp 30 _)))] [25] [(10,vp 8 0)] [] [(8,.box [cIs x1.locs,.d (.sl 1 (x1.bits.map zdr))])] h fun a w h=>Jg 9 [(3,.call (LCube ps x1.bits hps (by have:=(hpx x1 (lM hx1)).2;omega))),(4,.g (Op.buildO (d:=37) (n:=9) (len:=1) (rows:=[(zau ps x1.bits)].map za0.d) (rs:=[(36,vG [cI (zau ps x1.bits).kind,cPs (zau ps x1.bits).r.t.parts,cB (zau ps x1.bits).r.t.k.neg,.d (nsl (zau ps x1.bits).r.t.k.abs),cB (zau ps x1.bits).r.eq,cFs (zau ps x1.bits).kids])]) kb_1 (.cons (i:=0) (OV.tmp 36 _) (.nil)) (by simp only [bF,bP,bW,bX,bU,za0.d_eq];kernel_rfl) rfl (by simp [za0.d_len]) (by decide) (by decide)))] [] [(11,vO 9 1)] [] [(9,.row 35 6 ([(zau ps x1.bits)].map za0.d))] h fun a w h=>qW (Je 10 [(1,.add .i64 (m:=(k:Int)) (n:=1) i6)] [] [(41,vb (decide (((k:Int)+1)<(n9:Int))))] h fun a w h=>zae (((k:Int)+1)<(n9:Int)) h (fun hc2 hc2'=>?_) (fun hc3 hc3'=>?_))
  ·obtain ⟨x3,hx3⟩:=gl p.acts k;obtain ⟨x4,hx4⟩:∃ z_:za0,(zfq s ps p (k:Int))[k+1]?=some z_:=⟨_,c7 (by first | omega | (have:=dT hc2;omega))⟩;have hxc:=zir hs hw hps p.acts hpl (lM (cndO_at hx4));have lah9:=(aheadW hs hw hxc x1.locs x3).2;refine Jh 10 [(6,.g (xD 48 46 tb_1 (za7 hx3 (f:=zb0)) (OV.tmp 47 _))),(10,.add .i64 (m:=(k:Int)) (n:=1) i6),(11,.g (xO 53 50 7 n9 (k+1) zh5 (OV.tmp 52 _))),(12,.g (Op.loadR_agg (d:=54) (t:=53) (n:=7) (i:=(k+1)) (fo:=0) (rty:=35) (es:=6) (xs:=[.raw (.int .i64 x4.kind),.sl 3 (x4.r.t.parts.map za3.d),.raw (.bool x4.r.t.k.neg),nsl x4.r.t.k.abs,.raw (.bool x4.r.eq),.sl 6 (x4.kids.map za0.d)]) zcq rfl ((za7 hx4 (f:=za0.d)).trans (congrArg some (za0.d_eq x4))) rfl rfl)),(13,.call (Lahead s x1 x3 x4 hs hw (by have:=(hpx x1 (lM hx1)).1;omega) hxc.1 (by decide) (by decide) (by decide) (by decide) (by have:=ze3 x4;have:=hxc.2;omega))),(14,.g (Op.appOD (d:=56) (t:=42) (u:=55) (n:=9) (n':=10) (len:=1) (len':=([(zau ps x1.bits)]++(zav s x1.locs x3 x4)).length) (rows:=[(zau ps x1.bits)].map za0.d) (rows2:=(zav s x1.locs x3 x4).map za0.d) (rows':=([(zau ps x1.bits)]++(zav s x1.locs x3 x4)).map za0.d) la_7 (by first | exact (bI _).symm | simp) (by first | (rw [b7,bI];done) | (simp;done) | (simp;omega)) (by simp) (by simp [za0.d_len]) (by first | omega | (simp at *;done) | (simp at *;omega))))] [10,41] [(11,vO 10 ([(zau ps x1.bits)]++(zav s x1.locs x3 x4)).length)] [8,9] [(10,.row 35 6 (([(zau ps x1.bits)]++(zav s x1.locs x3 x4)).map za0.d))] h fun a w h=>za2 ?_;rw [show (([(zau ps x1.bits)]++(zav s x1.locs x3 x4)):List za0)=(zau ps x1.bits :: (zav s x1.locs x3 x4)) from rfl] at h;replace h:=zia 10 6 35 ((zau ps x1.bits :: (zav s x1.locs x3 x4)).map za0.d) h [(zau ps x1.bits :: (zav s x1.locs x3 x4)).length] ⟨by first | exact (bI _).symm | (simp;done) | (simp;omega),trivial⟩;have hall:∀ g ∈ (zau ps x1.bits :: (zav s x1.locs x3 x4)),g.okB 1000000000 700/\True:=fun g hg=>⟨(b5.1 hg).elim (fun e=>by rw [e];exact za0.okB_mono (by decide) (by decide) _ (zjx hps _)) (fun hg=>za0.okB_mono (by decide) (by decide) _ ((aheadW hs hw hxc x1.locs _).1 g hg)),trivial⟩
   have hall:=fun g hg=>(hall g hg).1
   have lah:(zau ps x1.bits :: (zav s x1.locs x3 x4)).length<=3:=by rw [bN];have:=(aheadW hs hw hxc x1.locs x3).2;omega
   obtain ⟨x7,hx7⟩:∃ z_:za0,(zfq s ps p (k:Int))[k]?=some z_:=⟨_,c7 (by first | omega | (have:=dT hc2;omega))⟩;refine Jh 11 [(3,.call (LAll (zau ps x1.bits :: (zav s x1.locs x3 x4)) (fun g hg=>za0.okB_mono (by decide) (by decide) _ (hall g hg)) (by omega))),(4,.g (xO 61 57 7 n9 k zh5 (OV.tmp 58 _))),(5,.g (Op.storeR (t:=61) (n:=7) (i:=k) (fo:=0) (rty:=35) (es:=6) (r:=za0.d x7) (ds:=[.raw (.int .i64 (zc5 (zau ps x1.bits :: (zav s x1.locs x3 x4))).kind),.sl 3 ((zc5 (zau ps x1.bits :: (zav s x1.locs x3 x4))).r.t.parts.map za3.d),.raw (.bool (zc5 (zau ps x1.bits :: (zav s x1.locs x3 x4))).r.t.k.neg),nsl (zc5 (zau ps x1.bits :: (zav s x1.locs x3 x4))).r.t.k.abs,.raw (.bool (zc5 (zau ps x1.bits :: (zav s x1.locs x3 x4))).r.eq),.sl 6 ((zc5 (zau ps x1.bits :: (zav s x1.locs x3 x4))).kids.map za0.d)]) (rs:=[(60,vG [cI (zc5 (zau ps x1.bits :: (zav s x1.locs x3 x4))).kind,cPs (zc5 (zau ps x1.bits :: (zav s x1.locs x3 x4))).r.t.parts,cB (zc5 (zau ps x1.bits :: (zav s x1.locs x3 x4))).r.t.k.neg,.d (nsl (zc5 (zau ps x1.bits :: (zav s x1.locs x3 x4))).r.t.k.abs),cB (zc5 (zau ps x1.bits :: (zav s x1.locs x3 x4))).r.eq,cFs (zc5 (zau ps x1.bits :: (zav s x1.locs x3 x4))).kids])]) (rows:=(zfq s ps p (k:Int)).map za0.d) (rows':=((zfq s ps p (k:Int)).set k (zc5 (zau ps x1.bits :: (zav s x1.locs x3 x4)))).map za0.d) zcq (OV.tmp 60 _) rfl rfl rfl (za7 hx7 (f:=za0.d)) (by rw [za0.d_len];decide) (zc2 (xs:=(zfq s ps p (k:Int))) (F:=za0.d) k _ _ (by rw [za0.d_eq x7,za0.d_eq (zc5 (zau ps x1.bits :: (zav s x1.locs x3 x4)))];rfl))))] [11] [] [] [(7,.row 35 6 (((zfq s ps p (k:Int)).set k (zc5 (zau ps x1.bits :: (zav s x1.locs x3 x4)))).map za0.d))] h fun a w h=>za6 (za2 (Jf 11 [(1,.sub .i64 (m:=(k:Int)) (n:=1) i6)] [] [(9,vI ((k:Int) - 1))] h fun a w h=>za2 ?_));replace h:=cvM [] [] [] [(7,.row 35 6 ((zfq s ps p ((k:Int) - 1)).map za0.d))] (by rw [<- show (((zfq s ps p (k:Int)).set k (zc5 (zau ps x1.bits :: (zav s x1.locs x3 x4)))):List za0)=(zfq s ps p ((k:Int) - 1)) from (cndO_set (cnd_mid s ps p.states p.acts hx1 hx3 (cndO_at hx4)))];kernel_rfl) h;refine zab (x:=i) (y:=(k:Int) - 1) h ?_ ?_
   ·constructor <;> omega
   show ((k:Int) - 1+1).toNat<(i+1).toNat;omega
  refine qU (za2 ?_);replace h:=cvM [] [] [] [(9,.row 35 6 ([zau ps x1.bits].map za0.d))] (by rw [<- show ([(zau ps x1.bits)]:List za0)=[zau ps x1.bits] from rfl];kernel_rfl) h;replace h:=zia 9 6 35 ([zau ps x1.bits].map za0.d) h [1] ⟨by first | exact (bI _).symm | (simp;done) | (simp;omega),trivial⟩;have hall:∀ g ∈ [zau ps x1.bits],g.okB 1000000000 700:=fun g hg=>by rw [bE.1 hg];exact za0.okB_mono (by decide) (by decide) _ (zjx hps _)
  have lah:[zau ps x1.bits].length<=3:=by simp
  obtain ⟨x9,hx9⟩:∃ z_:za0,(zfq s ps p (k:Int))[k]?=some z_:=⟨_,c7 (by first | omega | (have:=dT hc3;omega))⟩;refine Jh 11 [(3,.call (LAll [zau ps x1.bits] (fun g hg=>za0.okB_mono (by decide) (by decide) _ (hall g hg)) (by omega))),(4,.g (xO 61 57 7 n9 k zh5 (OV.tmp 58 _))),(5,.g (Op.storeR (t:=61) (n:=7) (i:=k) (fo:=0) (rty:=35) (es:=6) (r:=za0.d x9) (ds:=[.raw (.int .i64 (zc5 [zau ps x1.bits]).kind),.sl 3 ((zc5 [zau ps x1.bits]).r.t.parts.map za3.d),.raw (.bool (zc5 [zau ps x1.bits]).r.t.k.neg),nsl (zc5 [zau ps x1.bits]).r.t.k.abs,.raw (.bool (zc5 [zau ps x1.bits]).r.eq),.sl 6 ((zc5 [zau ps x1.bits]).kids.map za0.d)]) (rs:=[(60,vG [cI (zc5 [zau ps x1.bits]).kind,cPs (zc5 [zau ps x1.bits]).r.t.parts,cB (zc5 [zau ps x1.bits]).r.t.k.neg,.d (nsl (zc5 [zau ps x1.bits]).r.t.k.abs),cB (zc5 [zau ps x1.bits]).r.eq,cFs (zc5 [zau ps x1.bits]).kids])]) (rows:=(zfq s ps p (k:Int)).map za0.d) (rows':=((zfq s ps p (k:Int)).set k (zc5 [zau ps x1.bits])).map za0.d) zcq (OV.tmp 60 _) rfl rfl rfl (za7 hx9 (f:=za0.d)) (by rw [za0.d_len];decide) (zc2 (xs:=(zfq s ps p (k:Int))) (F:=za0.d) k _ _ (by rw [za0.d_eq x9,za0.d_eq (zc5 [zau ps x1.bits])];rfl))))] [10,11,41] [] [8] [(7,.row 35 6 (((zfq s ps p (k:Int)).set k (zc5 [zau ps x1.bits])).map za0.d))] h fun a w h=>za6 (za2 (Jf 11 [(1,.sub .i64 (m:=(k:Int)) (n:=1) i6)] [] [(9,vI ((k:Int) - 1))] h fun a w h=>za2 ?_));replace h:=cvM [] [] [] [(7,.row 35 6 ((zfq s ps p ((k:Int) - 1)).map za0.d))] (by rw [<- show (((zfq s ps p (k:Int)).set k (zc5 [zau ps x1.bits])):List za0)=(zfq s ps p ((k:Int) - 1)) from (cndO_set (cnd_last s ps p.states p.acts hx1 (by have:=dF hc3;omega)))];kernel_rfl) h;refine zab (x:=i) (y:=(k:Int) - 1) h ?_ ?_
  ·constructor <;> omega
  show ((k:Int) - 1+1).toNat<(i+1).toNat;omega
 refine exA (Jg 11 [] [1,3,5,7,8,9,25] [(6,vO 7 n9)] [5,6] [] h fun a w h=>qV ?_);have lcl:(zag s ps p.states p.acts).length=n9:=by rw [zet];omega
 replace h:=cv (fun z_:List za0=>F.of [(6,vO 7 n9)] [(7,.row 35 6 (z_.map za0.d))]) (show ((zfq s ps p i):List za0)=(zag s ps p.states p.acts) from (cndO_end (by have:=dF hc4;omega))) (h.conv (by kernel_rfl));replace h:=zia 7 6 35 ((zag s ps p.states p.acts).map za0.d) h [n9] ⟨by first | exact (bI _).symm | (simp;done) | (simp;omega),trivial⟩;refine rT (.c (cFs (zag s ps p.states p.acts))) h rfl ?_;rfl
def tgtB (r:za8):Bool:=((zam r).2 == 0) && (zc3 (zam r).1 r == 0)
theorem LtightB (r:za8) (hr:TOk 400000000 9000 r.t):Fn Tryz.prog 51 [] [vG [cPs r.t.parts,cB r.t.k.neg,.d (nsl r.t.k.abs),cB r.eq]] (vb (tgtB r)) []:=by
 refine fB Tryz.func51 rfl 17 fun w H B a h=>Jq 0 [] [(1,vp 0 0),(2,vb false)] [(0,.box [cPs r.t.parts,cB r.t.k.neg,.d (nsl r.t.k.abs),cB r.eq])] h fun a w h=>Jg 1 [(1,.call (LTight r hr))] [] [(3,vp 1 0),(4,vI (zam r).2)] [] [(1,.box [cPs (zam r).1.t.parts,cB (zam r).1.t.k.neg,.d (nsl (zam r).1.t.k.abs),cB (zam r).1.eq])] h fun a w h=>?_
 rcases bJ ((zam r).2 == 0) with hc1 | hc2
 ·refine Jq 2 [(1,.cmp (op:=.eql) (m:=(zam r).2) (n:=0) (b:=true) .i64 hc1),(5,.call (LSame (zam r).1 r (tight_tok hr (by decide)) (hr.mono (bG _) (by decide)) (by decide) (by decide)))] [(2,vb (zc3 (zam r).1 r == 0))] [] h fun a w h=>qV (rT (.c (cB (zc3 (zam r).1 r == 0))) h rfl ?_);unfold tgtB;rw [hc1];try rfl
 refine Jq 2 [(1,.cmp (op:=.eql) (m:=(zam r).2) (n:=0) (b:=false) .i64 hc2)] [(2,vb false)] [] h fun a w h=>qV (rT (.c (cB false)) h rfl ?_);unfold tgtB;rw [hc2];try rfl
def wpX (r:Option Nat) (ds:List Deferred) (P:Program) (c:Code) (Q:Exit->Act->World->Prop) (a:Act) (w:World):Prop :=
  c.wpIn { Fence.wide with round:=r } 9 P (fun ex a' w'=>a'.defers=ds/\Q ex { a' with defers:=[] } w') { a with defers:=ds } w
section
variable {r:Option Nat} {ds:List Deferred} {P:Program} {Q:Exit->Act->World->Prop} {a:Act} {w:World}
theorem zgi (h:a.defers=ds):{ { a with defers:=[] } with defers:=ds }=a:=by cases a;cases h;rfl
theorem wpX_mono {c:Code} {Q':Exit->Act->World->Prop} (h:wpX r ds P c Q a w) (hq:∀ e a w,Q e a w->Q' e a w):wpX r ds P c Q' a w :=
 wpIn_mono h fun _ _ _ ⟨h1,h2⟩=>⟨h1,hq _ _ _ h2⟩
theorem wpX_seq {x:Code} (h:wpX r ds P x (Exit.then (fun a w=>wpX r ds P y Q a w) Q) a w):wpX r ds P (.seq x y) Q a w:=by
 refine wpIn_seq (wpIn_mono h fun e a' w' hq=>?_)
 obtain ⟨h1,h2⟩:=hq
 cases e with
 | normal =>
  have h2:wpX r ds P y Q { a' with defers:=[] } w':=h2
  unfold wpX at h2
  rw [zgi h1] at h2
  exact h2
 | _=>exact ⟨h1,h2⟩
theorem wpX_block {id:Nat} {c:Code} (h:wpX r ds P c (Exit.inBlock id Q) a w):wpX r ds P (.block id c) Q a w:=by
 refine wpIn_block (wpIn_mono h fun e a' w' hq=>?_)
 obtain ⟨h1,h2⟩:=hq
 cases e with
 | exit id' =>
  simp only [Exit.inBlock] at h2 ⊢
  split
  ·rename_i he;rw [if_pos he] at h2;exact ⟨h1,h2⟩
  ·rename_i he;rw [if_neg he] at h2;exact ⟨h1,h2⟩
 | _=>exact ⟨h1,h2⟩
theorem wpX_skip (hd:a.defers=[]) (h:Q .normal a w):wpX r ds P .skip Q a w:=wpIn_skip ⟨rfl,by cases a;cases hd;exact h⟩
theorem wpX_exit {id:Nat} (hd:a.defers=[]) (h:Q (.exit id) a w):wpX r ds P (.exit id) Q a w:=wpIn_exit ⟨rfl,by cases a;cases hd;exact h⟩
theorem wpX_ret (hd:a.defers=[]) (h:Q .ret a w):wpX r ds P .ret Q a w:=wpIn_ret ⟨rfl,by cases a;cases hd;exact h⟩
theorem condX {w0:World} {H0:Im} {B0:Bl} {K:List Nat} {N:Nat} {t:Nat} {x:Code} (b:Bool) (h:St ⟨w0,H0,B0,K,N⟩ (F.of sl lc) a w) (ht:(F.of sl lc).s t=some (vb b)) (hx:b=true->wpX r ds P x Q a w) (hy:b=false->wpX r ds P y Q a w):wpX r ds P (.cond (.tmp t) x y) Q a w:=by
 obtain ⟨H,B,hok⟩:=h
 have:=(hok.slot t _ ht).rawI
 exact wpIn_cond_split (t:=b) this hx hy
theorem loopX0 {ι:Type} {e:E} {c:Code} (fs:ι->F) (μ:ι->Nat) (x:ι) (h:St e (fs x) a w) (round:∀ x a w,St e (fs x) a w->wpX r ds P c (Exit.then (fun a' w'=>∃ y,μ y<μ x/\St e (fs y) a' w') Q) a w):wpX r ds P (.loop c) Q a w:=by
 have key:∀ n x a w,μ x=n->St e (fs x) a w->∀ (b:Frame) (k:List Item) (cs:List Frame),b.roundOf=({ Fence.wide with round:=r }:Fence).round->({ Fence.wide with round:=r }:Fence).fn b.fn->({ Fence.wide with round:=r }:Fence).room (cs.length+1+9) ->
   ∃ en a' w', (a'.defers=ds/\Q en { a' with defers:=[] } w')/\ArrivesIn (Machine.fenced P { Fence.wide with round:=r }) P (lone (b.atR { a with defers:=ds } (.code c :: .inLoop c :: k)) cs w) b k cs en a' w':=by
  intro n
  induction n using Nat.strongRecOn with
  | _ n ih =>
   intro x a w hn hI b k cs hro hb hr
   obtain ⟨en,a₁,w₁,⟨hd,hq⟩,harr⟩:=round x a w hI b (.inLoop c :: k) cs hro hb hr
   cases en with
   | normal =>
    obtain ⟨y,hlt,hI₁⟩:=hq
    obtain ⟨e₂,a₂,w₂,hq₂,harr₂⟩:=ih (μ y) (hn ▸ hlt) y _ w₁ rfl hI₁ b k cs hro hb hr
    rw [zgi hd] at harr₂
    exact ⟨e₂,a₂,w₂,hq₂,.of_steps (StepsIn.trans harr (.one (fenced_calm hb hr rfl) stepR_inLoop)) harr₂⟩
   | exit id=>exact ⟨_,a₁,w₁,⟨hd,hq⟩,.pass (x:=.inLoop c) rfl (fun _ _ => .inl (by simp)) harr⟩
   | goto l=>exact ⟨_,a₁,w₁,⟨hd,hq⟩,.pass (x:=.inLoop c) rfl (fun _ _ => .inl (by simp)) harr⟩
   | ret=>exact ⟨_,a₁,w₁,⟨hd,hq⟩,.pass (x:=.inLoop c) rfl (fun _ _ => .inl (by simp)) harr⟩
   | panic ch=>exact ⟨_,a₁,w₁,⟨hd,hq⟩,.pass (x:=.inLoop c) rfl (fun _ _ => .inl (by simp)) harr⟩
   | outgrown=>exact ⟨_,a₁,w₁,⟨hd,hq⟩,.pass (x:=.inLoop c) rfl (fun _ _ => .inl (by simp)) harr⟩
 intro b k cs hro hb hr
 obtain ⟨en,a', w', hq,harr⟩:=key _ x a w rfl h b k cs hro hb hr
 exact ⟨en,a', w', hq,.of_steps (.one (fenced_calm hb hr rfl) stepR_loop) harr⟩
theorem loopX {w0:World} {H0:Im} {B0:Bl} {K:List Nat} {N:Nat} {ι:Type} {c:Code} (I:ι->Prop) (sls:ι->List (Nat × V)) (lcs:ι->List (Nat × L)) (μ:ι->Nat) (x:ι) (hI:I x) (h:St ⟨w0,H0,B0,K,N⟩ (F.of sl lc) a w)
  (h1:leS (F.of sl lc) (sls x)=(sls x).map fun p=>some p.2) (h2:leN (F.of sl lc) (lcs x)=(lcs x).map fun p=>some p.2)
  (round:∀ x a w,I x->St ⟨w0,H0,B0,K,N⟩ (F.of (sls x) (lcs x)) a w->wpX r ds P c (Exit.then (fun a' w'=>∃ y,(I y/\μ y<μ x)/\St ⟨w0,H0,B0,K,N⟩ (F.of (sls y) (lcs y)) a' w') Q) a w):wpX r ds P (.loop c) Q a w:=by
 refine loopX0 (ι:={x // I x}) (fun x=>F.of (sls x.1) (lcs x.1)) (fun x=>μ x.1) ⟨x,hI⟩ (h.weaken (zhm h1 h2)) fun x a w hst=>wpX_mono (round x.1 a w x.2 hst) fun en a w hq=>?_
 cases en with
 | normal=>obtain ⟨y,⟨hy,hlt⟩,hst⟩:=hq;exact ⟨⟨y,hy⟩,hlt,hst⟩
 | _=>exact hq
theorem op_nil {o:Oper} (hK:∀ a w,K a w->a.defers=[]) (hQ:∀ e a w,Q e a w->e = .normal) (h:o.wp P a w K Q):a.defers=[]:=by
 unfold Oper.wp at h
 have hput:∀ v w', K (a.put o.dst v) w'->a.defers=[]:=fun v w' hk=>by
  have:=hK _ _ hk
  cases hd:o.dst <;> rw [hd] at this <;> exact this
 cases hr:(execOp a.eval o).run P w with
 | ok x w' =>
  rw [hr] at h
  cases x with
  | value v=>exact hput _ _ h
  | skip=>exact hput _ _ h
  | defer d =>
   have:=hK _ _ h
   cases hd:o.dst <;> rw [hd] at this <;> simp [Act.put] at this
  | enter f args =>
   obtain ⟨e,w'', fr,he,_⟩:=(show Calls P f args w' _ from h) []
   cases e with
   | returned v=>exact hput _ _ he
   | panicked chain=>cases hQ _ _ _ he
   | outgrown=>obtain ⟨_,_,h2⟩:=he;cases hQ _ _ _ h2
  | row row args =>
   obtain ⟨v,w'', he,_⟩:=(show Rows P row args w' _ from h) default []
   exact hput _ _ he
  | _=>exact h.elim
 | halt x w' =>
  rw [hr] at h
  cases x with
  | panic v=>cases hQ _ _ _ h
  | _=>exact h.elim
theorem opI_nil {i:Nat} (hK:∀ a w,K a w->a.defers=[]) (hQ:∀ e a w,Q e a w->e = .normal) (h:wpOp P ops Q i K a w):a.defers=[]:=by
 unfold wpOp at h
 cases ho:ops[i]? with
 | none=>rw [ho] at h;exact hK _ _ h
 | some o =>
  rw [ho] at h
  dsimp only at h
  split at h
  ·exact op_nil hK hQ (h.resolve_right fun ⟨_,h2⟩=>by obtain ⟨a2,w2,h2⟩:=h2;cases hQ _ _ _ h2)
  ·have:=hK _ _ h
   cases hd:o.dst <;> rw [hd] at this <;> exact this
theorem ops_nil (hQ:∀ e a w,Q e a w->e = .normal/\a.defers=[]):∀ (l:List Nat) (a:Act) (w:World),wpOps P ops Q l a w->a.defers=[]
 | [],a,w,h=>(hQ _ _ _ h).2
 | i :: l,a,w,h=>by rw [wpOps_cons] at h;exact opI_nil (ops_nil hQ l) (fun e a w h=>(hQ e a w h).1) h
theorem any_nil {md:Region.Mode} (hQ:∀ e a w,Q e a w->e = .normal/\a.defers=[]):∀ (fuel:Nat) (listed:Array Bool) (a:Act) (w:World),wpAny P md ops Q fuel listed a w->a.defers=[]
 | 0,_,a,w,h=>(hQ _ _ _ h.2).2
 | fuel+1,listed,a,w,h=>by
  cases hr:Region.ready md ops listed with
  | nil=>exact (hQ _ _ _ (h.1 hr)).2
  | cons i l=>exact opI_nil (any_nil hQ fuel _) (fun e a w h=>(hQ e a w h).1) (h.2 i (by rw [hr];simp))
theorem opX {o:Oper} {K':Act->World->Prop} (hnd:∀ c,o.op ≠ .defer c) (ha:a.defers=[]) (hK:∀ a w,K a w->a.defers=[]) (hK':∀ a w,a.defers=ds->K { a with defers:=[] } w->K' a w) (hQ:∀ a w,¬ Q .outgrown a w) (h:o.wp P a w K Q) :
  o.wpIn { Fence.wide with round:=r } 9 P { a with defers:=ds } w K' (fun ex a' w'=>a'.defers=ds/\Q ex { a' with defers:=[] } w'):=by
 refine ⟨fun _ _=>trivial,?_⟩
 rw [Oper.semAt_eq _ _ _ hnd]
 unfold Oper.wp at h
 have he:({ a with defers:=ds }:Act).eval=a.eval:=by funext x;cases x <;> rfl
 rw [he]
 have hput:∀ v w', K (a.put o.dst v) w'->K' (({ a with defers:=ds }:Act).put o.dst v) w':=by
  intro v w' hk
  refine hK' _ _ ?_ ?_
  ·cases o.dst <;> rfl
  ·have:({ (({ a with defers:=ds }:Act).put o.dst v) with defers:=[] }:Act)=a.put o.dst v:=by
    cases a;cases ha;cases o.dst <;> rfl
   rw [this];exact hk
 generalize (execOp a.eval o).run P w=res at h
 have hbare:({ ({ a with defers:=ds }:Act) with defers:=[] }:Act)=a:=by cases a;cases ha;rfl
 cases res with
 | ok x w' =>
  cases x with
  | value v=>exact hput _ _ h
  | skip=>exact hput _ _ h
  | defer d =>
   have:=hK _ _ h
   cases hd:o.dst with
   | none=>rw [hd] at this;simp [Act.put] at this
   | some q=>rw [hd] at this;simp [Act.put] at this
  | enter f args =>
   have h:Calls P f args w' _:=h
   refine ⟨fun h=>(by cases h),?_⟩
   refine CallsIn.mono (show CallsIn { Fence.wide with round:=r } (9 - 1) P f args w' _ from callsIn_wide.2 h) ?_
   intro e w'' he
   cases e with
   | returned v=>exact hput _ _ he
   | panicked chain=>exact ⟨rfl,by rw [hbare];exact he⟩
   | outgrown=>obtain ⟨a2,w2,h2⟩:=he;exact absurd h2 (hQ _ _)
  | row row args =>
   have h:Rows P row args w' _:=h
   refine ⟨fun h=>(by cases h),fun c cs _=>?_⟩
   obtain ⟨v,w'', h1,h2⟩:=h c cs
   exact ⟨v,w'', hput _ _ h1,(stepsIn_wide (P:=P)).2 h2⟩
  | _=>exact h.elim
 | halt x w' =>
  cases x with
  | panic v=>exact ⟨rfl,by rw [hbare];exact h⟩
  | _=>exact h.elim
theorem opIX {i:Nat} {K':Act->World->Prop} (hnd:∀ o ∈ ops,∀ c,o.op ≠ .defer c) (hK:∀ a w,K a w->a.defers=[]) (hK':∀ a w,a.defers=ds->K { a with defers:=[] } w->K' a w) (hQ:∀ e a w,Q e a w->e = .normal) (h:wpOp P ops Q i K a w) :
  wpOpIn { Fence.wide with round:=r } 9 P ops (fun ex a' w'=>a'.defers=ds/\Q ex { a' with defers:=[] } w') i K' { a with defers:=ds } w:=by
 have ha:=opI_nil hK hQ h
 unfold wpOp at h
 unfold wpOpIn
 cases ho:ops[i]? with
 | none=>rw [ho] at h;exact hK' _ _ rfl (by cases a;cases ha;exact h)
 | some o =>
  rw [ho] at h
  dsimp only at h ⊢
  by_cases hw:Region.wanted o (yielded ops a.tmps)=true
  ·rw [if_pos hw] at h
   rw [if_pos hw]
   have h:=h.resolve_right fun ⟨_,h2⟩=>by obtain ⟨a2,w2,h2⟩:=h2;cases hQ _ _ _ h2
   exact opX (hnd o (Array.mem_of_getElem? ho)) ha hK hK' (fun a w hq=>by cases hQ _ _ _ hq) h
  ·rw [if_neg hw] at h
   rw [if_neg hw]
   refine ⟨fun _ _=>trivial,hK' _ _ ?_ ?_⟩
   ·cases o.dst <;> rfl
   ·have:({ (({ a with defers:=ds }:Act).put o.dst undef) with defers:=[] }:Act)=a.put o.dst undef:=by
     cases a;cases ha;cases o.dst <;> rfl
    rw [this];exact h
theorem opsX (hnd:∀ o ∈ ops,∀ c,o.op ≠ .defer c) (hQ:∀ e a w,Q e a w->e = .normal/\a.defers=[]):∀ (l:List Nat) (a:Act) (w:World),wpOps P ops Q l a w ->
  wpOpsIn { Fence.wide with round:=r } 9 P ops (fun ex a' w'=>a'.defers=ds/\Q ex { a' with defers:=[] } w') l { a with defers:=ds } w
 | [],a,w,h=>⟨rfl,by have ha:=(hQ _ _ _ h).2;cases a;cases ha;exact h⟩
 | i :: l,a,w,h=>by
  rw [wpOps_cons] at h
  rw [wpOpsIn_cons]
  exact opIX hnd (ops_nil hQ l) (fun a w hd hk=>by have:=opsX hnd hQ l _ w hk;rw [zgi hd] at this;exact this) (fun e a w h=>(hQ e a w h).1) h
theorem anyX {md:Region.Mode} (hnd:∀ o ∈ ops,∀ c,o.op ≠ .defer c) (hQ:∀ e a w,Q e a w->e = .normal/\a.defers=[]):∀ (fuel:Nat) (listed:Array Bool) (a:Act) (w:World),wpAny P md ops Q fuel listed a w ->
  wpAnyIn { Fence.wide with round:=r } 9 P md ops (fun ex a' w'=>a'.defers=ds/\Q ex { a' with defers:=[] } w') fuel listed { a with defers:=ds } w
 | 0,_,a,w,h=>⟨h.1,rfl,by have ha:=(hQ _ _ _ h.2).2;cases a;cases ha;exact h.2⟩
 | fuel+1,listed,a,w,h=>by
  refine ⟨fun h0=>⟨rfl,?_⟩,fun i hi=>?_⟩
  ·have h1:=h.1 h0
   have ha:=(hQ _ _ _ h1).2
   cases a;cases ha;exact h1
  ·exact opIX hnd (any_nil hQ fuel _) (fun a w hd hk=>by have:=anyX hnd hQ fuel _ _ w hk;rw [zgi hd] at this;exact this) (fun e a w h=>(hQ e a w h).1) (h.2 i hi)
end
def noDefer (o:Oper):Bool:=match o.op with | .defer _=>false | _=>true
section
variable {r:Option Nat} {ds:List Deferred} {P:Program} {Q:Exit->Act->World->Prop} {w0:World} {H0:Im} {B0:Bl} {K:List Nat} {N:Nat}
theorem wpX_region_S {e:E} (hnd:∀ o ∈ ops,∀ c,o.op ≠ .defer c) {id:Nat} {f:F} (is:List I) (g:F) (hm:P.follows .mixedOrders=true) (hpo:pairsOk draw ops.toList is=true)
  (hdo:∀ k o,ops[k]?=some o->Does P ops o (at_ is k)) (hb:∀ k,FitsE e (at_ is k)) (hn:∀ k,∀ n ∈ (at_ is k).nw,New e.K f n)
  (hr:RunL is f (List.range ops.size) g) (h:St e f a w) (hQ:∀ a w,St e g a w->Q .normal a w):wpX r ds P (Code.region id ops draw) Q a w:=by
 have hN:∀ (ex:Exit) (a:Act) (w:World),(ex = .normal/\St e g a w)->ex = .normal/\a.defers=[]:=fun ex a w h=>⟨h.1,by obtain ⟨_,H,B,hok⟩:=h;exact hok.df⟩
 refine wpX_mono (Q:=fun ex a w=>ex = .normal/\St e g a w) ?_ (fun ex a w h=>by obtain ⟨rfl,h⟩:=h;exact hQ a w h)
 cases draw with
 | false =>
  refine wpIn_region (opsX hnd hN _ _ _ (wpOps_run hdo hb (fun a w h=>⟨rfl,h⟩) _ f a w (fun k hk=>cU.1 hk) ?_ (fun k _=>hn k) hr h))
  refine List.Pairwise.imp_of_mem ?_ List.pairwise_lt_range
  intro j k hj hk hjk
  exact ((zf0 hpo (k:=k) (by simpa using cU.1 hk)).2 j hjk).1
 | true =>
  refine wpIn_region_any hm (anyX hnd hN _ _ _ _ (wpAny_run hdo hb (fun a w h=>⟨rfl,h⟩) hpo _ _ f a _ (by simp) ?_ ?_ (fun k _=>hn k) ?_ h.drew))
  ·intro k o ho hl
   have hks:=(dB.1 ho).1
   simp [dC, hks] at hl
  ·refine bK (List.length_filter_le _ _) (by simp)
  ·have:left (Array.replicate ops.size false) ops.size=List.range ops.size:=by
    unfold left
    refine List.filter_eq_self.2 fun k hk=>?_
    have:=cU.1 hk
    simp [dC, this]
   rw [this]
   exact hr
theorem regionX (hnd:ops.toList.all noDefer=true) {id:Nat} (is:List I) (sl':List (Nat × V)) (lc':List (Nat × L)) (hm:P.follows .mixedOrders=true)
  (hdo:AllDo P ops ops.toList is) (hc:chk draw ops.toList is N K sl lc=true) (h1:runS (F.of sl lc) is=wantS is) (h2:runN (F.of sl lc) is=wantN is)
  (h3:leS (runF (F.of sl lc) is) sl'=sl'.map fun p=>some p.2) (h4:leN (runF (F.of sl lc) is) lc'=lc'.map fun p=>some p.2)
  (h:St ⟨w0,H0,B0,K,N⟩ (F.of sl lc) a w) (hQ:∀ a w,St ⟨w0,H0,B0,K,N⟩ (F.of sl' lc') a w->Q .normal a w):wpX r ds P (Code.region id ops draw) Q a w:=by
 simp only [chk,cJ] at hc
 obtain ⟨⟨⟨c1,c2⟩,c3⟩,c4⟩:=hc
 have hmem:∀ k,at_ is k ∈ is\/at_ is k={}:=by
  intro k
  unfold at_
  rw [List.getD_eq_getElem?_getD]
  cases hk:is[k]? with
  | none=>exact .inr rfl
  | some x=>exact .inl (cF hk)
 refine wpX_region_S (fun o ho c hc=>by have:=b8.1 hnd o (by simpa using ho);unfold noDefer at this;rw [hc] at this;cases this) is (F.of sl' lc') hm c1 (fun k o ho=>hdo.get k o (by simpa using ho)) ?_ ?_ ?_ h hQ
 ·intro k
  refine ⟨fun p hp=>?_,fun h0=>?_⟩
  ·rcases hmem k with hk | hk
   ·have:=b8.1 (b8.1 c2 _ hk) p hp
    simpa [Nat.blt_eq] using this
   ·rw [hk] at hp;cases hp
  ·rcases hmem k with hk | hk
   ·have:=b8.1 c4 _ hk
    rw [h0] at this
    simpa using this
   ·rw [hk] at h0;cases h0
 ·intro k n hn
  rcases hmem k with hk | hk
  ·exact zft (b8.1 (b8.1 c3 _ hk) n hn)
  ·rw [hk] at hn;cases hn
 ·have:=RunL.of (g:=F.of sl' lc') [] is (F.of sl lc) h1 h2 (zhm h3 h4)
  have hl:=hdo.length
  simp only [List.nil_append,cW] at this
  rw [List.range_eq_range', <- Array.length_toList,hl]
  exact this
end
section
variable {r:Option Nat} {ds:List Deferred} {Q:Exit->Act->World->Prop} {w0:World} {H0:Im} {B0:Bl} {K:List Nat} {N:Nat}
theorem rSX {tb:Tb} (htb:zjc Tryz.prog tb) {id:Nat} (nx:Nat) (cs:List (Nat × Orc Tryz.prog)) (sl':List (Nat × V)) (lc':List (Nat × L))
  (hnd:ops.toList.all noDefer=true)
  (hc:((gens ops.toList cs).map (·.1),(zeq tb ops (F.of sl lc) nx 0 ops.toList cs).isSome,(zeq tb ops (F.of sl lc) nx 0 ops.toList cs).map fun is=>Seen.mk (chk draw ops.toList is N K sl lc) (runS (F.of sl lc) is) (runN (F.of sl lc) is) (leS (runF (F.of sl lc) is) sl') (leN (runF (F.of sl lc) is) lc')) =
   ((gens ops.toList cs).map (·.2),true,(zeq tb ops (F.of sl lc) nx 0 ops.toList cs).map fun is=>Seen.mk true (wantS is) (wantN is) (sl'.map fun p=>some p.2) (lc'.map fun p=>some p.2)))
  (h:St ⟨w0,H0,B0,K,N⟩ (F.of sl lc) a w) (hQ:∀ a w,St ⟨w0,H0,B0,K,N⟩ (F.of sl' lc') a w->Q .normal a w):wpX r ds Tryz.prog (Code.region id ops draw) Q a w:=by
 simp only [Prod.mk.injEq] at hc
 obtain ⟨hg,hs,hm⟩:=hc
 cases hi:zeq tb ops (F.of sl lc) nx 0 ops.toList cs with
 | none=>rw [hi] at hs;cases hs
 | some is =>
  rw [hi] at hm
  simp only [Option.map_some,Option.some.injEq,Seen.mk.injEq] at hm
  exact regionX hnd is sl' lc' mixed (insts_ok htb hg _ _ _ _ _ rfl hi) hm.1 hm.2.1 hm.2.2.1 hm.2.2.2.1 hm.2.2.2.2 h hQ
theorem rSeqX {tb:Tb} (htb:zjc Tryz.prog tb) {id:Nat} (nx:Nat) (cs:List (Nat × Orc Tryz.prog)) (sl':List (Nat × V)) (lc':List (Nat × L))
  (hnd:ops.toList.all noDefer=true)
  (hc:((gens ops.toList cs).map (·.1),(zeq tb ops (F.of sl lc) nx 0 ops.toList cs).isSome,(zeq tb ops (F.of sl lc) nx 0 ops.toList cs).map fun is=>Seen.mk (chk draw ops.toList is N K sl lc) (runS (F.of sl lc) is) (runN (F.of sl lc) is) (leS (runF (F.of sl lc) is) sl') (leN (runF (F.of sl lc) is) lc')) =
   ((gens ops.toList cs).map (·.2),true,(zeq tb ops (F.of sl lc) nx 0 ops.toList cs).map fun is=>Seen.mk true (wantS is) (wantN is) (sl'.map fun p=>some p.2) (lc'.map fun p=>some p.2)))
  (h:St ⟨w0,H0,B0,K,N⟩ (F.of sl lc) a w) (hQ:∀ a w,St ⟨w0,H0,B0,K,N⟩ (F.of sl' lc') a w->wpX r ds Tryz.prog y Q a w):wpX r ds Tryz.prog (Code.seq (Code.region id ops draw) y) Q a w :=
 wpX_seq (rSX htb nx cs sl' lc' hnd hc h hQ)
end
def dat:Obj->Bool
  | .cells _ _ _ | .map _ _=>true
  | _=>false
theorem dat_cells (h:dat o=false):o.isCells=false:=by cases o <;> first | rfl | cases h
def LeC (H H':Im):Prop:=∀ b o,H b=some o->dat o=true->H' b=some o
section
variable {H H':Im} {B:Bl}
theorem DR.monoC (hl:LeC H H') {x:D} {v:Value} (h:DR H x v):DR H' x v:=by
 induction h with
 | raw v h=>exact .raw v h
 | nil es ao c h hc=>exact .nil es ao c h hc
 | sl es rows b o c arr ty fz vs hp hb hl2 hc hes hv _ ih=>exact .sl es rows b o c arr ty fz vs hp (hl _ _ hb rfl) hl2 hc hes hv ih
theorem AR.monoC (hl:LeC H H') {x:A} {v:Value} (h:AR H B x v):AR H' B x v:=by
 cases x with
 | d x=>exact DR.monoC hl h
 | ptr n o=>exact h
theorem CR.monoC (hl:LeC H H') {x:C} {v:Value} (h:CR H B x v):CR H' B x v:=by
 cases x with
 | d x=>exact DR.monoC hl h
 | ptr n o=>exact h
 | own n k=>exact h
 | el xs =>
  obtain ⟨b,o,arr,ty,fz,hb,hv,hx⟩:=h
  exact ⟨b,o,arr,ty,fz,hl _ _ hb rfl,hv,fun j hj=>let ⟨u,h1,h2⟩:=hx j hj;⟨u,h1,h2.monoC hl⟩⟩
 | fn f fs cs =>
  obtain ⟨vs,ws,hv,h1,h2⟩:=h
  exact ⟨vs,ws,hv,h1.mono fun a _ b=>AR.monoC hl,h2.mono fun a _ b=>AR.monoC hl⟩
 | sub n o len=>exact h
 | any=>exact h
 | mp n=>exact h
theorem TR.monoC (hl:LeC H H') {x:T} {v:Value} (h:TR H B x v):TR H' B x v:=by
 cases x with
 | c x=>exact CR.monoC hl h
 | agg cs =>
  obtain ⟨vs,hv,h1⟩:=h
  exact ⟨vs,hv,h1.mono fun a _ b=>CR.monoC hl⟩
theorem VR.monoC (hl:LeC H H') {x:V} {v:Value} (h:VR H B x v):VR H' B x v:=by
 cases x with
 | t x=>exact TR.monoC hl h
 | tup xs =>
  obtain ⟨vs,hv,h1⟩:=h
  exact ⟨vs,hv,h1.mono fun a _ b=>TR.monoC hl⟩
theorem LR.monoC (hl:LeC H H') {x:L} {w':World} (hw:∀ b c,B n=some (b,c)->w'.heap[b]?=w.heap[b]?) (h:LR H B w n x):LR H' B w' n x:=by
 cases x with
 | box cs =>
  obtain ⟨b,c,arr,ty,hb,hc,h1⟩:=h
  exact ⟨b,c,arr,ty,hb,(hw b c hb).trans hc,h1.mono fun a _ v=>CR.monoC hl⟩
 | row ty es rows =>
  simp only [LR] at h ⊢
  cases hb:B n with
  | none=>rw [hb] at h;exact h
  | some p =>
   obtain ⟨b,c⟩:=p
   rw [hb] at h
   obtain ⟨arr,h1,h2,h3,h4,h5,h6⟩:=h
   exact ⟨arr,(hw b c hb).trans h1,h2,h3,h4,h5,h6.mono fun a _ v=>DR.monoC hl⟩
 | rowc ty es rows =>
  simp only [LR] at h ⊢
  cases hb:B n with
  | none=>rw [hb] at h;exact h
  | some p =>
   obtain ⟨b,c⟩:=p
   rw [hb] at h
   obtain ⟨arr,h1,h2,h3,h4,h5,h6⟩:=h
   exact ⟨arr,(hw b c hb).trans h1,h2,h3,h4,h5,h6.mono fun a _ v=>CR.monoC hl⟩
 | bld ty x rest =>
  obtain ⟨b,c,v1,v2,vr,hb,hc,h1,h0,h2,h3⟩:=h
  exact ⟨b,c,v1,v2,vr,hb,(hw b c hb).trans hc,h1,h0,CR.monoC hl h2,h3.mono fun a _ v=>CR.monoC hl⟩
 | mp es =>
  obtain ⟨b,c,arr,cl,hb,hc,h1⟩:=h
  exact ⟨b,c,arr,cl,hb,(hw b c hb).trans hc,h1.mono fun a _ e h2=>⟨h2.1,h2.2.monoC hl⟩⟩
theorem LR.cells {x:L} {c:Nat} (h:LR H B w n x) (hb:B n=some (b,c)):∃ o,w.heap[b]?=some o/\dat o=true:=by
 cases x with
 | box cs=>obtain ⟨b', c', arr,ty,hb', hc,_⟩:=h;rw [hb] at hb';cases hb';exact ⟨_,hc,rfl⟩
 | row ty es rows =>
  simp only [LR] at h
  rw [hb] at h
  obtain ⟨arr,h1,_⟩:=h
  exact ⟨_,h1,rfl⟩
 | rowc ty es rows =>
  simp only [LR] at h
  rw [hb] at h
  obtain ⟨arr,h1,_⟩:=h
  exact ⟨_,h1,rfl⟩
 | bld ty x rest=>obtain ⟨b', c', v1,v2,vr,hb', hc,_⟩:=h;rw [hb] at hb';cases hb';exact ⟨_,hc,rfl⟩
 | mp es=>obtain ⟨b', c', arr,cl,hb', hc,_⟩:=h;rw [hb] at hb';cases hb';exact ⟨_,hc,rfl⟩
end
def cutH (H1 H:Im):Im:=fun b=>match H b with
  | some o=>if dat o || (H1 b).isSome then some o else none
  | none=>none
theorem cutH_some (h:cutH H1 H b=some o):H b=some o/\(dat o=true\/(H1 b).isSome=true):=by
 unfold cutH at h
 cases hb:H b with
 | none=>rw [hb] at h;cases h
 | some o' =>
  rw [hb] at h
  dsimp only at h
  split at h
  ·rename_i hc;cases h;exact ⟨rfl,by simpa using hc⟩
  ·cases h
theorem cutH_leC (H1 H:Im):LeC H (cutH H1 H):=fun b o h ho=>by unfold cutH;rw [h];dsimp only;rw [ho];rfl
theorem cutH_none (h:H b=none):cutH H1 H b=none:=by unfold cutH;rw [h]
theorem zin (h:H b=some o) (h1:(H1 b).isSome=true):cutH H1 H b=some o:=by unfold cutH;rw [h];dsimp only;rw [h1,Bool.or_true];rfl
theorem TabH.back {Hx:Im} (h:∀ b o,Hx b=some o->H1 b=some o\/o.isCells=false) (ht:TabH Hx):TabH H1:=by
 have _:=h;have _:=ht;exact trivial
def ze8 (H M:Im):Im:=fun b=>match H b with
  | some o=>some o
  | none=>M b
theorem zjp (H M:Im):Le H (ze8 H M):=fun b o h=>by unfold ze8;rw [h]
theorem zgg {M:Im} (h:ze8 H M b=some o):H b=some o\/(H b=none/\M b=some o):=by
 unfold ze8 at h
 cases hb:H b with
 | none=>rw [hb] at h;exact .inr ⟨rfl,h⟩
 | some o'=>rw [hb] at h;exact .inl h
def Clean (H1 H:Im):Prop:=∀ b o,H b=some o->H1 b=some o\/dat o=true
section
variable {w0:World} {Hx H1 H:Im} {B0 B:Bl} {K:List Nat} {N:Nat} {f:F} {a:Act} {w:World}
theorem Ok.cut (h:Ok ⟨w0,Hx,B0,K,N⟩ f H B a w) (h1:Le H1 Hx) (h2:∀ b o,Hx b=some o->H1 b=some o\/dat o=false):Ok ⟨w0,H1,B0,K,N⟩ f (cutH H1 H) B a w/\Clean H1 (cutH H1 H):=by
 have hc:LeC H (cutH H1 H):=cutH_leC H1 H
 refine ⟨⟨h.df,h.n,h.ext,fun b o hb=>h.sat b o (cutH_some hb).1,fun t v hv=>VR.monoC hc (h.slot t v hv),fun n l hn=>LR.monoC hc (fun _ _ _=>rfl) (h.loc n l hn),?_,h.inj,?_,?_,h.keep,TabH.back (fun b o hb=>(h2 b o hb).imp id dat_cells) h.tab⟩,?_⟩
 ·intro n l b c hn hb
  obtain ⟨p1,p2,p3⟩:=h.priv n l b c hn hb
  exact ⟨p1,cutH_none p2,p3⟩
 ·intro b hb
  have hlow:H b=Hx b:=h.low b hb
  cases hx:Hx b with
  | none =>
   rw [hx] at hlow
   rw [cutH_none hlow]
   cases h1b:H1 b with
   | none=>exact h1b.symm
   | some o=>have:=h1 b o h1b;rw [hx] at this;cases this
  | some o =>
   rw [hx] at hlow
   rcases h2 b o hx with h3 | h3
   ·rw [zin hlow (by rw [h3];rfl)];exact h3.symm
   ·cases h1b:H1 b with
    | none=>unfold cutH;rw [hlow];dsimp only;rw [h3,h1b];rfl
    | some o'=>rw [zin hlow (by rw [h1b];rfl)];have:=h1 b o' h1b;rw [hx] at this;exact this.trans h1b.symm
 ·intro b o hb
  exact zin (h.le b o (h1 b o hb)) (by show (H1 b).isSome=true;rw [show H1 b=some o from hb];rfl)
 ·intro b o hb
  obtain ⟨h3,h4⟩:=cutH_some hb
  rcases h4 with h4 | h4
  ·exact .inr h4
  ·obtain ⟨o', h5⟩:=Option.isSome_iff_exists.1 h4
   have:=h.le b o' (h1 b o' h5)
   rw [h3] at this
   cases this
   exact .inl h5
theorem Ok.join (h:Ok ⟨w0,H1,B0,K,N⟩ f H B a w) (M:Im) (hM:∀ b o,M b=some o->w.heap[b]?=some o/\dat o=false):Ok ⟨w0,ze8 H1 M,B0,K,N⟩ f (ze8 H M) B a w:=by
 have hl:=zjp H M
 refine ⟨h.df,h.n,h.ext,?_,fun t v hv=>VR.mono hl (fun _ _=>rfl) (h.slot t v hv),fun n l hn=>LR.mono hl rfl (fun _ _=>rfl) (fun _ _ _=>rfl) (h.loc n l hn),?_,h.inj,?_,?_,h.keep,h.tab.mono (zjp H1 M)⟩
 ·intro b o hb
  rcases zgg hb with h1 | ⟨_,h1⟩
  ·exact h.sat b o h1
  ·exact (hM b o h1).1
 ·intro n l b c hn hb
  obtain ⟨p1,p2,p3⟩:=h.priv n l b c hn hb
  refine ⟨p1,?_,p3⟩
  unfold ze8
  rw [p2]
  show M b=none
  cases hm:M b with
  | none=>rfl
  | some o =>
   obtain ⟨h1,h2⟩:=hM b o hm
   obtain ⟨o', h3,h4⟩:=(h.loc n l hn).cells hb
   rw [h1] at h3;cases h3;rw [h2] at h4;cases h4
 ·intro b hb
  have:H b=H1 b:=h.low b hb
  show ze8 H M b=ze8 H1 M b
  unfold ze8;rw [this]
 ·intro b o hb
  show ze8 H M b=some o
  rcases zgg hb with h1 | ⟨h0,h1⟩
  ·exact hl b o (h.le b o h1)
  ·cases hx:H b with
   | none=>unfold ze8;rw [hx];exact h1
   | some o'=>unfold ze8;rw [hx];have:=h.sat b o' hx;rw [(hM b o h1).1] at this;exact this.symm
def StC (w0:World) (H1:Im) (B0:Bl) (K:List Nat) (N:Nat) (f:F) (a:Act) (w:World):Prop:=∃ H B,Ok ⟨w0,H1,B0,K,N⟩ f H B a w/\Clean H1 H
theorem StC.st (h:StC w0 H1 B0 K N f a w):St ⟨w0,H1,B0,K,N⟩ f a w:=let ⟨H,B,h,_⟩:=h;⟨H,B,h⟩
theorem StC.of (h:St ⟨w0,Hx,B0,K,N⟩ f a w) (h1:Le H1 Hx) (h2:∀ b o,Hx b=some o->H1 b=some o\/dat o=false):StC w0 H1 B0 K N f a w:=let ⟨_,B,h⟩:=h;⟨_,B,h.cut h1 h2⟩
theorem St.join (h:St ⟨w0,H1,B0,K,N⟩ f a w) (M:Im) (hM:∀ b o,M b=some o->w.heap[b]?=some o/\dat o=false):St ⟨w0,ze8 H1 M,B0,K,N⟩ f a w:=let ⟨_,B,h⟩:=h;⟨_,B,h.join M hM⟩
theorem StC.turn (h:StC w0 H1 B0 K N f a w) {w':World} {r:Nat} {z:Nat} (hos:w'.os=w.os) (htape:w'.tape=w.tape) (hout:w'.output=w.output) (hsize:w.heap.size<=w'.heap.size)
  (hblock:∀ b,b<w.heap.size->b≠r->w'.heap[b]?=w.heap[b]?) (hz:w0.heap.size<=z) (hr:z<=r) (hro:∀ o,w.heap[r]?=some o->dat o=false) (h1:∀ b o,H1 b=some o->b<z):StC w0 H1 B0 K N f a w':=by
 obtain ⟨H,B,h,hcl⟩:=h
 have hne:∀ b o,H b=some o->b≠r:=fun b o hb e=>by
  subst e
  rcases hcl b o hb with h2 | h2
  ·have:=h1 b o h2;omega
  ·have:=hro o (h.sat b o hb);rw [h2] at this;cases this
 have hown:∀ n l b c,f.l n=some l->B n=some (b,c)->w'.heap[b]?=w.heap[b]?:=fun n l b c hn hb=>by
  obtain ⟨o', h3,h4⟩:=(h.loc n l hn).cells hb
  refine hblock b (h.priv n l b c hn hb).1 fun e=>?_
  subst e
  have:=hro _ h3
  rw [h4] at this
  cases this
 refine ⟨H,B,⟨h.df,h.n,⟨hos.trans h.ext.os,htape.trans h.ext.tape,hout.trans h.ext.output,bK h.ext.size hsize,fun b hb hm=>?_⟩,?_,h.slot,?_,?_,h.inj,h.low,h.le,h.keep,h.tab⟩,hcl⟩
 ·have hb:b<w0.heap.size:=hb
  exact (hblock b (cV hb h.ext.size) (by omega)).trans (h.ext.block b hb hm)
 ·intro b o hb
  have hs:=h.sat b o hb
  exact (hblock b (dB.1 hs).1 (hne b o hb)).trans hs
 ·intro n l hn
  exact LR.mono (Le.refl _) rfl (fun _ _=>rfl) (fun b c hb=>hown n l b c hn hb) (h.loc n l hn)
 ·intro n l b c hn hb
  obtain ⟨p1,p2,p3⟩:=h.priv n l b c hn hb
  exact ⟨cV p1 hsize,p2,p3⟩
end
end S
end Go.Proofs.YtlcijejaplagbaaGreat
