/-
  Part 5 of the proof of the statement RefineNew. It holds for every input.
-/
import Derived.Test.YtlcijejaplagbaaGreatRN4
import Derived.Test.YtlcijejaplagbaaGreatRN3
import Derived.Test.YtlcijejaplagbaaGreatRN2
import Derived.SizedLaws
import Derived.Shelf.Sort.Plain
import Derived.Ground.Names2Prog
import Derived.Shelf.Slices.CompactI
import Derived.Shelf.Slices.In.SortNone
import Derived.Test.YtlcijejaplagbaaGreatProg
import Derived.Lib.RowBridge
import Derived.Test.YtlcijejaplagbaaGreatRN1
set_option maxRecDepth 100000
set_option maxHeartbeats 20000000
open Go.RowKit
open Nat renaming zero_le->bC,le_refl->bI,le_trans->bK,le_succ->cC
open Bool renaming eq_false_or_eq_true->bE,true_and->bJ,and_eq_true->cL
open List renaming length_map->bF,map_cons->bG,map_nil->bL,append_nil->bN,take_of_length_le->bP,length_take->bS,flatten_cons->bU,flatten_nil->bV,mem_cons_self->bW,mem_singleton->bX,drop_of_length_le->b5,mem_map->b6,map_map->b7,take_add_one->b8,mem_cons_of_mem->b9,mem_of_getElem?->cD,mem_append->cG,foldl_cons->cH,sum_cons->cJ,mem_of_mem_take->cK,length_cons->cM,length_append->cN,append_assoc->cO,take_append_drop->cP,find?_cons->cQ,take_length->cR,getElem?_eq_some_iff->cT,mem_of_find?_eq_some->cU,length_eq_zero_iff->cV
open Int renaming toNat_of_nonneg->cF
namespace Go.Proofs.YtlcijejaplagbaaGreat
namespace S
variable {f x:za0} {j nt Lt n M m v:Nat} {s:zb3} {i:Int} {ps:List za6} {α β:Type} {t:zaf} {b:zao}
theorem ma0_13:zbj Tryz.prog 184:=zbj.mk' (by kernel_rfl)
theorem ma0_14:zbj Tryz.prog 157:=zbj.mk' (by kernel_rfl)
theorem zie (h:f.kind=3\/f.kind=4\/f.kind=5):f.cl.kids=(cnt f.kind f.kids).map za0.cl:=by rw [cl_kids h];rfl
theorem cl_out9 (h:¬ (f.kind=3\/f.kind=4\/f.kind=5)) (h2:(f.kind == 2)=false) (h0:(f.kind == 0)=false):f.cl=zbo false:=by
 simp only [beq_eq_false_iff_ne] at h0 h2
 rw [cl_eq,zge _ _ _ h0 h2 h]
theorem cl_kids_cl {q:za0} (h:q ∈ f.cl.kids):q.cl=q:=by
 by_cases e:f.kind=3\/f.kind=4\/f.kind=5
 ·rw [zie e] at h
  obtain ⟨g,_,rfl⟩:=b6.1 h
  exact cl_cl g
 ·exfalso
  have:f.cl.kids=[]:=by
   rw [cl_eq];unfold zfg
   split
   ·rfl
   ·split
    ·rfl
    ·rfl
  rw [this] at h;cases h
theorem cnt_of_cl (f:za0):cnt f.cl.kind f.cl.kids=f.cl.kids:=by
 by_cases e:f.kind=3\/f.kind=4\/f.kind=5
 ·rw [cl_kids e]
  show cnt f.kind ((cnt f.kind f.kids).map za0.cl)=(cnt f.kind f.kids).map za0.cl
  rw [<- zdf,cnt_cnt]
 ·have h0:f.cl.kids=[]:=by
   rw [cl_eq];unfold zfg
   split
   ·rfl
   ·split
    ·rfl
    ·rfl
  rw [h0];unfold cnt;split;rfl;split;rfl;rfl
theorem mvx_at {F:za0->za0} {xs:List za0} (h:xs[j]?=some x):((xs.take j).map F++xs.drop j)[j]?=some x:=by
 obtain ⟨hj,rfl⟩:=cT.1 h
 rw [List.getElem?_append_right (by rw [bF,bS];omega),bF,bS,List.getElem?_drop,show j+(j - min j xs.length)=j by omega]
 exact h
theorem mvx_set {F:za0->za0} {xs:List za0} (h:xs[j]?=some x):((xs.take j).map F++xs.drop j).set j (F x)=(xs.take (j+1)).map F++xs.drop (j+1):=by
 obtain ⟨hj,rfl⟩:=cT.1 h
 have hl:((xs.take j).map F).length=j:=by rw [bF,bS];omega
 rw [List.set_append_right _ _ (by omega),hl,Nat.sub_self,List.drop_eq_getElem_cons hj,List.set_cons_zero,b8,List.map_append,cO]
 congr 1
 rw [h];rfl
theorem mvx_len {F:za0->za0} (xs:List za0) (j:Nat) (h:j<=xs.length):((xs.take j).map F++xs.drop j).length=xs.length:=by
 rw [cN,bF,bS,List.length_drop];omega
theorem each_kids (t:za6->za6) (h:f.kind=3\/f.kind=4\/f.kind=5):f.each t=⟨f.kind,zR,f.cl.kids.map (za0.each t)⟩:=by
 rw [za0.each_eq,zff _ _ _ h,zdf,zie h,b7]
 congr 1
 exact List.map_congr_left fun g _=>(each_cl t g).symm
theorem each_0 (t:za6->za6) (h:f.kind=0):f.each t=zbo true:=by rw [za0.each_eq];unfold zfg;rw [if_pos h]
theorem each_x (t:za6->za6) (h:¬ (f.kind=3\/f.kind=4\/f.kind=5)) (h2:f.kind≠2) (h0:f.kind≠0):f.each t=zbo false:=by rw [za0.each_eq,zge _ _ _ h0 h2 h]
def zcq (n:Int) (r:za6):za6:=⟨movZ r.t (zad n),r.eq⟩
def zbk (vs:List Int) (bys:List zaf) (r:za6):za6:=⟨putZ r.t vs bys,r.eq⟩
theorem LclonesO (fs:List za0) (hcl:∀ g ∈ fs,Fn Tryz.prog 114 [] [(vF g)] (vF (za0.cl g)) []) (hl:fs.length<=1000000000000):Fn Tryz.prog 71 [] [(vFs fs)] (vO 0 (fs.map za0.cl).length) [(0,.row 35 6 ((fs.map za0.cl).map za0.d))]:=by
 refine fB Tryz.func71 rfl 19 fun w H B a h=>Jq 5 [] [(0,(vFs fs)),(2,vW zai)] [] h fun a w h=>Jg 5 [] [] [(3,vW zai)] [] [] h fun a w h=>qW (Jg 5 [(1,.len (za4 6 za0.d fs))] [0] [(6,(vFs fs)),(7,vN fs.length),(8,vI 0)] [] [] h fun a w h=>qZ ?_)
 replace h:=zep 3 0 5 6 35 (vW zai) h
 refine zbz (ι:=(Nat)) (fun j=>j<=fs.length)
   [] (fun j=>[(3,vO 5 ((fs.take j).map za0.cl).length),(8,vN j)])
   [] (fun j=>[(5,.row 35 6 (((fs.take j).map za0.cl).map za0.d))])
   (fun j=>fs.length - j) 0 ?_ h ?_
 ·exact bC _
 clear h;rintro j a w hI h;have lmj:((fs.take j).map za0.cl).length<=j:=by rw [bF,bS];omega
 refine Je 6 [] [] [(9,vb (decide ((j:Int)<(fs.length:Int))))] h fun a w h=>qW (zae ((j:Int)<(fs.length:Int)) h (fun hc1 hc1'=>?_) (fun hc2 hc2'=>?_))
 ·refine qU (za2 (qW (qZ ?_)));obtain ⟨x1,hx1⟩:=gl fs j;refine Jg 6 [(0,.g (xD 10 6 zfx ((za8 hx1 (f:=za0.d)).trans (congrArg some (za0.d_eq x1))) (OV.tmp 8 _)))] [9] [(5,vp 6 0)] [] [(6,.box (zF x1))] h fun a w h=>Jh 7 [(2,.call (hcl x1 (lM hx1))),(3,.g (bD 15 ([(za0.cl x1)].map za0.d) [(14,(vF (za0.cl x1)))] kb_1 (.cons (i:=0) (OV.tmp 14 _) (.nil)) (by simp only [bG,bL,bU,bV,bN,za0.d_eq];kernel_rfl) (by simp [za0.d_len]))),(4,.g (aD 16 12 15 5 7 ((fs.take j).map za0.cl) [(za0.cl x1)] za0.d la_7 (by simp [za0.d_len])))] [5] [(3,vO 7 (((fs.take j).map za0.cl)++[(za0.cl x1)]).length)] [5,6] [(7,.row 35 6 ((((fs.take j).map za0.cl)++[(za0.cl x1)]).map za0.d))] h fun a w h=>za7 (za2 (Jf 8 [(0,.j1 j)] [] [(8,vI ((j:Int)+1))] h fun a w h=>za2 ?_));rw [show ((((fs.take j).map za0.cl)++[(za0.cl x1)]):List za0)=((fs.take (j+1)).map za0.cl) from (ze6 hx1)] at h;replace h:=zcr 7 5 h;refine zaa (x:=j) (y:=j+1) h ?_ ?_
  ·have:=zac hx1;show j+1<=fs.length;omega
  show fs.length - (j+1)<fs.length - j;have:=zac hx1;omega
 refine exA (Jp 8 [] [(2,vO 5 ((fs.take j).map za0.cl).length)] h fun a w h=>qV ?_);rw [show (((fs.take j).map za0.cl):List za0)=(fs.map za0.cl) from (by rw [bP (by omega)])] at h;replace h:=zcr 5 0 h;refine rT (.c (.own 0 (fs.map za0.cl).length)) h rfl ?_;rfl
theorem LcloneO (f:za0) (hf:f.okB 1000000000 10000) (hkd:f.kind=3\/f.kind=4\/f.kind=5):Fn Tryz.prog 114 [] [(vF f)] (vG ([cI f.kind,cPs zR.t.parts]++zi zR.t.k++[cB zR.eq,.own 0 f.cl.kids.length])) [(0,.row 35 6 (f.cl.kids.map za0.d))]:=by
 refine fB Tryz.func114 rfl 24 fun w H B a h=>Jq 5 [] [(1,vp 5 0),(2,vp 6 0)] [(5,.box (zF f)),(6,.box zF0)] h fun a w h=>qW (Je 7 [] [] [(4,vI f.kind)] h fun a w h=>qZ (Je 7 [(0,.cmp (op:=.eql) (m:=f.kind) (n:=0) (b:=false) .i64 (beq_eq_false_iff_ne.2 (by omega)))] [] [(5,vb false)] h fun a w h=>zaw h (Je 7 [(0,.cmp (op:=.eql) (m:=f.kind) (n:=2) (b:=false) .i64 (beq_eq_false_iff_ne.2 (by omega)))] [5] [(8,vb false)] h fun a w h=>zaw h (qW (Je 7 [] [8] [(13,vb (f.kind == 3))] h fun a w h=>cS (f.kind == 3) h (fun hc1=>?_) (fun hc2=>?_))))))
 ·refine qU (za2 (cS (f.kind == 3) h (fun hc=>?_) (fun hc=>?_)))
  ·clear hc;refine Jq 7 [(3,.call (Lkids f (zdc hf))),(4,.call (LclonesO (cnt f.kind f.kids) (fun g hg=>zgj g (zga hf hg)) (zeh hf)))] [(2,vp 6 0)] [(6,.box [cI f.kind,nCl,cB false,.d (nsl []),cB false,.own 0 ((cnt f.kind f.kids).map za0.cl).length]),(0,.row 35 6 (((cnt f.kind f.kids).map za0.cl).map za0.d))] h fun a w h=>qV (za9 (za5 ?_));replace h:=cv (fun z_:List za0=>F.of [(2,vp 6 0)] [(6,.box [cI f.kind,nCl,cB false,.d (nsl []),cB false,.own 0 z_.length]),(0,.row 35 6 (z_.map za0.d))]) (show (((cnt f.kind f.kids).map za0.cl):List za0)=f.cl.kids from (zie hkd).symm) (h.conv (by kernel_rfl));replace h:=zb2 6 1 3 [cI f.kind,nCl,cB false,.d (nsl []),cB false,.own 0 f.cl.kids.length] h;refine rA 6 [cI f.kind,cPs [],cB false,.d (nsl []),cB false,.own 0 f.cl.kids.length] h zc0 rfl ?_;rfl
  rw [hc1] at hc;cases hc
 refine Je 7 [] [] [(13,vb (f.kind == 4))] h fun a w h=>cS (f.kind == 4) h (fun hc3=>?_) (fun hc4=>?_)
 ·refine qU (za2 (cS (f.kind == 4) h (fun hc=>?_) (fun hc=>?_)))
  ·clear hc;refine Jq 7 [(3,.call (Lkids f (zdc hf))),(4,.call (LclonesO (cnt f.kind f.kids) (fun g hg=>zgj g (zga hf hg)) (zeh hf)))] [(2,vp 6 0)] [(6,.box [cI f.kind,nCl,cB false,.d (nsl []),cB false,.own 0 ((cnt f.kind f.kids).map za0.cl).length]),(0,.row 35 6 (((cnt f.kind f.kids).map za0.cl).map za0.d))] h fun a w h=>qV (za9 (za5 ?_));replace h:=cv (fun z_:List za0=>F.of [(2,vp 6 0)] [(6,.box [cI f.kind,nCl,cB false,.d (nsl []),cB false,.own 0 z_.length]),(0,.row 35 6 (z_.map za0.d))]) (show (((cnt f.kind f.kids).map za0.cl):List za0)=f.cl.kids from (zie hkd).symm) (h.conv (by kernel_rfl));replace h:=zb2 6 1 3 [cI f.kind,nCl,cB false,.d (nsl []),cB false,.own 0 f.cl.kids.length] h;refine rA 6 [cI f.kind,cPs [],cB false,.d (nsl []),cB false,.own 0 f.cl.kids.length] h zc0 rfl ?_;rfl
  rw [hc3] at hc;cases hc
 refine Jf 7 [] [4] [(13,vb (f.kind == 5))] h fun a w h=>za2 (cS (f.kind == 5) h (fun hc5=>?_) (fun hc6=>?_))
 ·refine Jq 7 [(3,.call (Lkids f (zdc hf))),(4,.call (LclonesO (cnt f.kind f.kids) (fun g hg=>zgj g (zga hf hg)) (zeh hf)))] [(2,vp 6 0)] [(6,.box [cI f.kind,nCl,cB false,.d (nsl []),cB false,.own 0 ((cnt f.kind f.kids).map za0.cl).length]),(0,.row 35 6 (((cnt f.kind f.kids).map za0.cl).map za0.d))] h fun a w h=>qV (za9 (za5 ?_));replace h:=cv (fun z_:List za0=>F.of [(2,vp 6 0)] [(6,.box [cI f.kind,nCl,cB false,.d (nsl []),cB false,.own 0 z_.length]),(0,.row 35 6 (z_.map za0.d))]) (show (((cnt f.kind f.kids).map za0.cl):List za0)=f.cl.kids from (zie hkd).symm) (h.conv (by kernel_rfl));replace h:=zb2 6 1 3 [cI f.kind,nCl,cB false,.d (nsl []),cB false,.own 0 f.cl.kids.length] h;refine rA 6 [cI f.kind,cPs [],cB false,.d (nsl []),cB false,.own 0 f.cl.kids.length] h zc0 rfl ?_;rfl
 exfalso;simp_all <;> omega
theorem LrMove (r:za6) (n:Int) (hr:TOk 1000000000 20000 r.t):Fn Tryz.prog 185 [] [(vR r),vI n] (vR (zcq n r)) []:=by
 refine fB Tryz.func185 rfl 12 fun w H B a h=>Jq 0 [] [(1,vI n),(2,vp 0 0),(4,vp 1 0)] [(0,.box (zR_ r)),(1,.box zR0)] h fun a w h=>Jq 2 [(3,.call (SMove r.t n hr (by decide) (by decide)))] [(4,vp 1 0)] [(1,.box ((zT (movZ r.t (zad n)))++[cB r.eq]))] h fun a w h=>qV (rA 1 ((zT (movZ r.t (zad n)))++[cB r.eq]) h zjm rfl ?_)
 rfl
theorem LMove1 (r:za6) (n:Int) (hr:TOk 1000000000 20000 r.t):Fn Tryz.prog 184 [(1,.box [cI n])] [(vR r),vp 1 0] (vR (zcq n r)) [(1,.box [cI n])]:=by
 refine fB Tryz.func184 rfl 7 fun w H B a h=>Jq 5 [] [(1,vp 1 0),(2,vp 5 0),(3,vp 6 0)] [(1,.box [cI n]),(5,.box (zR_ r)),(6,.box zR0)] h fun a w h=>Jg 7 [(2,.call (LrMove r n hr))] [1,2] [] [5] [(6,.box (zR_ (zcq n r)))] h fun a w h=>qV (rA 6 (zR_ (zcq n r)) h zjm rfl ?_)
 rfl
theorem LrPutAll (r:za6) (vs:List Int) (bys:List zaf) (hr:TOk nt Lt r.t) (hnt:nt<=33000000) (hLt:Lt<=10000) (hb:∀ b ∈ bys,zil b) (hlv:vs.length<=1000000000000) (hlb:bys.length<=1000000000000):Fn Tryz.prog 158 [] [(vR r),(vIs vs),vS 3 (bys.map zaf.d)] (vR (zbk vs bys r)) []:=by
 refine fB Tryz.func158 rfl 15 fun w H B a h=>Jq 0 [] [(1,(vIs vs)),(2,vS 3 (bys.map zaf.d)),(3,vp 0 0),(6,vp 1 0)] [(0,.box (zR_ r)),(1,.box zR0)] h fun a w h=>Jq 2 [(4,.call (SPutAll r.t vs bys hr hnt hLt hb hlv hlb))] [(6,vp 1 0)] [(1,.box ((zT (putZ r.t vs bys))++[cB r.eq]))] h fun a w h=>qV (rA 1 ((zT (putZ r.t vs bys))++[cB r.eq]) h zjm rfl ?_)
 rfl
theorem LPutAll1 (r:za6) (vs:List Int) (bys:List zaf) (hr:TOk nt Lt r.t) (hnt:nt<=33000000) (hLt:Lt<=10000) (hb:∀ b ∈ bys,zil b) (hlv:vs.length<=1000000000000) (hlb:bys.length<=1000000000000):Fn Tryz.prog 157 [(1,.box [cIs vs]),(2,.box [.d (.sl 3 (bys.map zaf.d))])] [(vR r),vp 1 0,vp 2 0] (vR (zbk vs bys r)) [(1,.box [cIs vs]),(2,.box [.d (.sl 3 (bys.map zaf.d))])]:=by
 refine fB Tryz.func157 rfl 9 fun w H B a h=>Jq 5 [] [(1,vp 1 0),(2,vp 2 0),(3,vp 5 0),(4,vp 6 0)] [(1,.box [cIs vs]),(2,.box [.d (.sl 3 (bys.map zaf.d))]),(5,.box (zR_ r)),(6,.box zR0)] h fun a w h=>Jg 7 [(3,.call (LrPutAll r vs bys hr hnt hLt hb hlv hlb))] [1,2,3] [] [5] [(6,.box (zR_ (zbk vs bys r)))] h fun a w h=>qV (rA 6 (zR_ (zbk vs bys r)) h zjm rfl ?_)
 rfl
theorem cl_rel {L:Nat} (h:f.cl.okB n L) (e:(f.kind == 2)=true):TOk n L (cpR f.r).t:=by
 rw [cl_at e] at h;exact ((za0.okB_eq _ _ _).1 h).1.1 rfl
theorem LeachM0 (f:za0) (n:Int) (hf:f.okB 1000000000 10000) (hc:f.cl.okB 1000000000 10000)  (ih:∀ q ∈ f.cl.kids,Fn Tryz.prog 156 [(1,.box [cI n])] [(vF q),.t (.c (.fn (.func 184) [] [.ptr 1 0]))] (vF (za0.each (zcq n) q)) [(1,.box [cI n])]):Fn Tryz.prog 156 [(1,.box [cI n])] [(vF f),.t (.c (.fn (.func 184) [] [.ptr 1 0]))] (vF (za0.each (zcq n) f)) [(1,.box [cI n])]:=by
 have lkc:f.cl.kids.length<=9223372036854775807:=zdc hc;refine fB Tryz.func156 rfl 35 fun w H B a h=>Jq 5 [] [(1,.t (.c (.fn (.func 184) [] [.ptr 1 0]))),(2,vp 5 0),(4,vp 6 0)] [(1,.box [cI n]),(5,.box (zF f)),(6,.box zF0)] h fun a w h=>?_
 rcases bE (decide (f.kind=3\/f.kind=4\/f.kind=5)) with hc1 | hc4
 ·have hc1':=dT hc1;have hkd:=dT hc1;refine Jg 7 [(1,.call (LcloneO f hf hkd))] [2] [(5,vp 7 0)] [5] [(0,.row 35 6 (f.cl.kids.map za0.d)),(7,.box ([cI f.kind,cPs zR.t.parts]++zi zR.t.k++[cB zR.eq,.own 0 f.cl.kids.length]))] h fun a w h=>qW (Je 8 [(2,.cmp (op:=.eql) (m:=f.kind) (n:=2) (b:=false) .i64 (beq_eq_false_iff_ne.2 (by omega)))] [] [(12,vb false)] h fun a w h=>zaw h (qU (za2 (qW (Je 8 [] [12] [(19,vO 0 f.cl.kids.length),(20,vN f.cl.kids.length),(21,vI 0)] h fun a w h=>qZ ?_)))));replace h:=cvM [] [] [] [(0,.row 35 6 (((f.cl.kids.take 0).map (za0.each (zcq n))++f.cl.kids.drop 0).map za0.d))] (by rw [<- show (f.cl.kids:List za0)=((f.cl.kids.take 0).map (za0.each (zcq n))++f.cl.kids.drop 0) from (by simp)];kernel_rfl) h
  refine zbz (ι:=(Nat)) (fun j=>j<=f.cl.kids.length)
    [] (fun j=>[(21,vN j)])
    [] (fun j=>[(0,.row 35 6 (((f.cl.kids.take j).map (za0.each (zcq n))++f.cl.kids.drop j).map za0.d))])
    (fun j=>f.cl.kids.length - j) 0 ?_ h ?_
  ·exact bC _
  clear h;rintro j a w hI h;have lej:((f.cl.kids.take j).map (za0.each (zcq n))++f.cl.kids.drop j).length=f.cl.kids.length:=mvx_len f.cl.kids _ hI;refine Je 8 [] [] [(22,vb (decide ((j:Int)<(f.cl.kids.length:Int))))] h fun a w h=>qW (zae ((j:Int)<(f.cl.kids.length:Int)) h (fun hc2 hc2'=>?_) (fun hc3 hc3'=>?_))
  ·refine qU (za2 (qW (qZ ?_)));obtain ⟨x3,hx3⟩:=gl f.cl.kids j;refine Jg 8 [(1,.g (xO 24 19 0 f.cl.kids.length j zfx (OV.tmp 21 _))),(2,.g (Op.loadR_agg (d:=25) (t:=24) (n:=0) (i:=j) (fo:=0) (rty:=35) (es:=6) (xs:=[.raw (.int .i64 x3.kind),.sl 3 (x3.r.t.parts.map za3.d),.raw (.bool x3.r.t.k.neg),nsl x3.r.t.k.abs,.raw (.bool x3.r.eq),.sl 6 (x3.kids.map za0.d)]) zc0 rfl ((za8 (mvx_at (F:=za0.each (zcq n)) hx3) (f:=za0.d)).trans (congrArg some (za0.d_eq x3))) rfl rfl))] [22] [(6,vN j),(7,vp 8 0)] [] [(8,.box (zF x3))] h fun a w h=>Jh 9 [(5,.call (ih x3 (lM hx3))),(6,.g (xO 32 27 0 f.cl.kids.length j zfx (OV.tmp 28 _))),(7,.g (Op.storeR (t:=32) (n:=0) (i:=j) (fo:=0) (rty:=35) (es:=6) (r:=za0.d x3) (ds:=[.raw (.int .i64 (za0.each (zcq n) x3).kind),.sl 3 ((za0.each (zcq n) x3).r.t.parts.map za3.d),.raw (.bool (za0.each (zcq n) x3).r.t.k.neg),nsl (za0.each (zcq n) x3).r.t.k.abs,.raw (.bool (za0.each (zcq n) x3).r.eq),.sl 6 ((za0.each (zcq n) x3).kids.map za0.d)]) (rs:=[(31,(vF (za0.each (zcq n) x3)))]) (rows:=((f.cl.kids.take j).map (za0.each (zcq n))++f.cl.kids.drop j).map za0.d) (rows':=(((f.cl.kids.take j).map (za0.each (zcq n))++f.cl.kids.drop j).set j (za0.each (zcq n) x3)).map za0.d) zc0 (OV.tmp 31 _) rfl rfl rfl (za8 (mvx_at (F:=za0.each (zcq n)) hx3) (f:=za0.d)) (by rw [za0.d_len];decide) (zc8 (xs:=((f.cl.kids.take j).map (za0.each (zcq n))++f.cl.kids.drop j)) (F:=za0.d) j _ _ (by rw [za0.d_eq x3,za0.d_eq (za0.each (zcq n) x3)];rfl))))] [6,7] [] [8] [(0,.row 35 6 ((((f.cl.kids.take j).map (za0.each (zcq n))++f.cl.kids.drop j).set j (za0.each (zcq n) x3)).map za0.d))] h fun a w h=>za7 (za2 (Jf 9 [(0,.j1 j)] [] [(21,vI ((j:Int)+1))] h fun a w h=>za2 ?_));replace h:=cvM [] [] [] [(0,.row 35 6 (((f.cl.kids.take (j+1)).map (za0.each (zcq n))++f.cl.kids.drop (j+1)).map za0.d))] (by rw [<- show ((((f.cl.kids.take j).map (za0.each (zcq n))++f.cl.kids.drop j).set j (za0.each (zcq n) x3)):List za0)=((f.cl.kids.take (j+1)).map (za0.each (zcq n))++f.cl.kids.drop (j+1)) from (mvx_set (F:=za0.each (zcq n)) hx3)];kernel_rfl) h;refine zaa (x:=j) (y:=j+1) h ?_ ?_
   ·have:=zac hx3;show j+1<=f.cl.kids.length;omega
   show f.cl.kids.length - (j+1)<f.cl.kids.length - j;have:=zac hx3;omega
  refine exA (Jg 9 [] [1,5,19,20,21,22] [] [7] [(6,.box ([cI f.kind,cPs zR.t.parts]++zi zR.t.k++[cB zR.eq,.own 0 f.cl.kids.length]))] h fun a w h=>qV ?_);replace h:=cvM [] [] [] [(0,.row 35 6 ((f.cl.kids.map (za0.each (zcq n))).map za0.d))] (by rw [<- show (((f.cl.kids.take j).map (za0.each (zcq n))++f.cl.kids.drop j):List za0)=(f.cl.kids.map (za0.each (zcq n))) from (by rw [bP (by omega),b5 (by omega),bN])];kernel_rfl) h;replace h:=pubKX 0 6 35 ((f.cl.kids.map (za0.each (zcq n))).map za0.d) h [f.cl.kids.length] ⟨by first | exact (bF _).symm | (simp;done) | (simp;omega),trivial⟩;refine rA 6 ([cI f.kind,cPs zR.t.parts]++zi zR.t.k++[cB zR.eq,cFs (f.cl.kids.map (za0.each (zcq n)))]) h zc0 rfl ?_;rw [each_kids (zcq n) hkd];try rfl
 have hc4':=dF hc4
 rcases bE (f.kind == 2) with hc5 | hc6
 ·refine Jg 9 [(1,.call (Fn.cast (zgj f hf) (show ((vF (za0.cl f)):V) = .t (.agg ([cI 2,cPs (cpR f.r).t.parts]++zi (cpR f.r).t.k++[cB (cpR f.r).eq,cFs ([]:List za0)])) from by rw [cl_at hc5];rfl)))] [2] [(5,vp 9 0)] [5] [(9,.box ([cI 2,cPs (cpR f.r).t.parts]++zi (cpR f.r).t.k++[cB (cpR f.r).eq,cFs ([]:List za0)]))] h fun a w h=>qW (Je 10 [(2,.cmp (op:=.eql) (m:=2) (n:=2) (b:=true) .i64 rfl)] [] [(12,vb true)] h fun a w h=>cS true h (fun _=>?_) nofun);refine Jh 10 [(3,.g (Op.callV (d:=16) (t:=13) (cap:=[.ptr 1 0]) (args:=[(vR (cpR f.r))]) (rs:=[(15,(vR (cpR f.r)))]) (tys:=#[32]) (LMove1 (cpR f.r) n ((cl_rel hc hc5).mono (by decide) (by decide))) ma0_13 (OVs.cons (OV.tmp 15 _) (OVs.nil))))] [12] [] [] [(9,.box ([cI 2,cPs (zcq n (cpR f.r)).t.parts]++zi (zcq n (cpR f.r)).t.k++[cB (zcq n (cpR f.r)).eq,cFs ([]:List za0)]))] h fun a w h=>za2 (qW (Je 10 [(2,.len (za4 6 za0.d ([]:List za0)))] [] [(19,(vFs ([]:List za0))),(20,vI (([]:List za0).length:Int)),(21,vI 0)] h fun a w h=>qZ ?_))
  refine loopS (ι:=Unit) (fun (z_:Unit)=>match z_ with | ()=>True)
    (fun (z_:Unit)=>match z_ with | ()=>[(1,.t (.c (.fn (.func 184) [] [.ptr 1 0]))),(4,vp 6 0),(5,vp 9 0),(19,(vFs ([]:List za0))),(20,vI (([]:List za0).length:Int)),(21,vI 0)])
    (fun (z_:Unit)=>match z_ with | ()=>[(1,.box [cI n]),(6,.box zF0),(9,.box ([cI 2,cPs (zcq n (cpR f.r)).t.parts]++zi (zcq n (cpR f.r)).t.k++[cB (zcq n (cpR f.r)).eq,cFs ([]:List za0)]))])
    (fun (z_:Unit)=>match z_ with | ()=>0) () ?_ h (by kernel_rfl) (by kernel_rfl) ?_
  ·trivial
  clear h;rintro ⟨⟩ a w hI h;change St _ (F.of [(1,.t (.c (.fn (.func 184) [] [.ptr 1 0]))),(4,vp 6 0),(5,vp 9 0),(19,(vFs ([]:List za0))),(20,vI (([]:List za0).length:Int)),(21,vI 0)] [(1,.box [cI n]),(6,.box zF0),(9,.box ([cI 2,cPs (zcq n (cpR f.r)).t.parts]++zi (zcq n (cpR f.r)).t.k++[cB (zcq n (cpR f.r)).eq,cFs ([]:List za0)]))]) a w at h;refine Jq 10 [(0,.cmp (op:=.lss) (m:=0) (n:=(([]:List za0).length:Int)) (b:=false) .i64 rfl)] [(1,.t (.c (.fn (.func 184) [] [.ptr 1 0]))),(4,vp 6 0),(5,vp 9 0),(19,(vFs ([]:List za0))),(20,vI (([]:List za0).length:Int)),(21,vI 0),(22,vb false)] [(1,.box [cI n]),(6,.box zF0),(9,.box ([cI 2,cPs (zcq n (cpR f.r)).t.parts]++zi (zcq n (cpR f.r)).t.k++[cB (zcq n (cpR f.r)).eq,cFs ([]:List za0)]))] h fun a w h=>qW (zaw h (exA (Jg 10 [] [1,5,19,20,21,22] [] [9] [(6,.box ([cI 2,cPs (zcq n (cpR f.r)).t.parts]++zi (zcq n (cpR f.r)).t.k++[cB (zcq n (cpR f.r)).eq,cFs ([]:List za0)]))] h fun a w h=>qV (rA 6 ([cI 2,cPs (zcq n (cpR f.r)).t.parts]++zi (zcq n (cpR f.r)).t.k++[cB (zcq n (cpR f.r)).eq,cFs ([]:List za0)]) h zc0 rfl ?_))));rw [each_atom (zcq n) (by have:=hc5;simpa using this)];try rfl
 rcases bE (f.kind == 0) with hc7 | hc8
 ·refine Jg 10 [(1,.call (Fn.cast (zgj f hf) (show ((vF (za0.cl f)):V) = .t (.agg ([cI 0,cPs zR.t.parts]++zi zR.t.k++[cB zR.eq,cFs ([]:List za0)])) from by rw [cl_tru hc7];rfl)))] [2] [(5,vp 10 0)] [5] [(10,.box ([cI 0,cPs zR.t.parts]++zi zR.t.k++[cB zR.eq,cFs ([]:List za0)]))] h fun a w h=>qW (Je 11 [(2,.cmp (op:=.eql) (m:=0) (n:=2) (b:=false) .i64 rfl)] [] [(12,vb false)] h fun a w h=>zaw h (qU (za2 (qW (Je 11 [(2,.len (za4 6 za0.d ([]:List za0)))] [12] [(19,(vFs ([]:List za0))),(20,vI (([]:List za0).length:Int)),(21,vI 0)] h fun a w h=>qZ ?_)))))
  refine loopS (ι:=Unit) (fun (z_:Unit)=>match z_ with | ()=>True)
    (fun (z_:Unit)=>match z_ with | ()=>[(1,.t (.c (.fn (.func 184) [] [.ptr 1 0]))),(4,vp 6 0),(5,vp 10 0),(19,(vFs ([]:List za0))),(20,vI (([]:List za0).length:Int)),(21,vI 0)])
    (fun (z_:Unit)=>match z_ with | ()=>[(1,.box [cI n]),(6,.box zF0),(10,.box ([cI 0,cPs zR.t.parts]++zi zR.t.k++[cB zR.eq,cFs ([]:List za0)]))])
    (fun (z_:Unit)=>match z_ with | ()=>0) () ?_ h (by kernel_rfl) (by kernel_rfl) ?_
  ·trivial
  clear h;rintro ⟨⟩ a w hI h;change St _ (F.of [(1,.t (.c (.fn (.func 184) [] [.ptr 1 0]))),(4,vp 6 0),(5,vp 10 0),(19,(vFs ([]:List za0))),(20,vI (([]:List za0).length:Int)),(21,vI 0)] [(1,.box [cI n]),(6,.box zF0),(10,.box ([cI 0,cPs zR.t.parts]++zi zR.t.k++[cB zR.eq,cFs ([]:List za0)]))]) a w at h;refine Jq 11 [(0,.cmp (op:=.lss) (m:=0) (n:=(([]:List za0).length:Int)) (b:=false) .i64 rfl)] [(1,.t (.c (.fn (.func 184) [] [.ptr 1 0]))),(4,vp 6 0),(5,vp 10 0),(19,(vFs ([]:List za0))),(20,vI (([]:List za0).length:Int)),(21,vI 0),(22,vb false)] [(1,.box [cI n]),(6,.box zF0),(10,.box ([cI 0,cPs zR.t.parts]++zi zR.t.k++[cB zR.eq,cFs ([]:List za0)]))] h fun a w h=>qW (zaw h (exA (Jg 11 [] [1,5,19,20,21,22] [] [10] [(6,.box ([cI 0,cPs zR.t.parts]++zi zR.t.k++[cB zR.eq,cFs ([]:List za0)]))] h fun a w h=>qV (rA 6 ([cI 0,cPs zR.t.parts]++zi zR.t.k++[cB zR.eq,cFs ([]:List za0)]) h zc0 rfl ?_))));rw [each_0 (zcq n) (by have:=hc7;simpa using this)];try rfl
 refine Jg 11 [(1,.call (Fn.cast (zgj f hf) (show ((vF (za0.cl f)):V) = .t (.agg ([cI 1,cPs zR.t.parts]++zi zR.t.k++[cB zR.eq,cFs ([]:List za0)])) from by rw [cl_out9 (dF hc4) hc6 hc8];rfl)))] [2] [(5,vp 11 0)] [5] [(11,.box ([cI 1,cPs zR.t.parts]++zi zR.t.k++[cB zR.eq,cFs ([]:List za0)]))] h fun a w h=>qW (Je 12 [(2,.cmp (op:=.eql) (m:=1) (n:=2) (b:=false) .i64 rfl)] [] [(12,vb false)] h fun a w h=>zaw h (qU (za2 (qW (Je 12 [(2,.len (za4 6 za0.d ([]:List za0)))] [12] [(19,(vFs ([]:List za0))),(20,vI (([]:List za0).length:Int)),(21,vI 0)] h fun a w h=>qZ ?_)))))
 refine loopS (ι:=Unit) (fun (z_:Unit)=>match z_ with | ()=>True)
   (fun (z_:Unit)=>match z_ with | ()=>[(1,.t (.c (.fn (.func 184) [] [.ptr 1 0]))),(4,vp 6 0),(5,vp 11 0),(19,(vFs ([]:List za0))),(20,vI (([]:List za0).length:Int)),(21,vI 0)])
   (fun (z_:Unit)=>match z_ with | ()=>[(1,.box [cI n]),(6,.box zF0),(11,.box ([cI 1,cPs zR.t.parts]++zi zR.t.k++[cB zR.eq,cFs ([]:List za0)]))])
   (fun (z_:Unit)=>match z_ with | ()=>0) () ?_ h (by kernel_rfl) (by kernel_rfl) ?_
 ·trivial
 clear h;rintro ⟨⟩ a w hI h;change St _ (F.of [(1,.t (.c (.fn (.func 184) [] [.ptr 1 0]))),(4,vp 6 0),(5,vp 11 0),(19,(vFs ([]:List za0))),(20,vI (([]:List za0).length:Int)),(21,vI 0)] [(1,.box [cI n]),(6,.box zF0),(11,.box ([cI 1,cPs zR.t.parts]++zi zR.t.k++[cB zR.eq,cFs ([]:List za0)]))]) a w at h;refine Jq 12 [(0,.cmp (op:=.lss) (m:=0) (n:=(([]:List za0).length:Int)) (b:=false) .i64 rfl)] [(1,.t (.c (.fn (.func 184) [] [.ptr 1 0]))),(4,vp 6 0),(5,vp 11 0),(19,(vFs ([]:List za0))),(20,vI (([]:List za0).length:Int)),(21,vI 0),(22,vb false)] [(1,.box [cI n]),(6,.box zF0),(11,.box ([cI 1,cPs zR.t.parts]++zi zR.t.k++[cB zR.eq,cFs ([]:List za0)]))] h fun a w h=>qW (zaw h (exA (Jg 12 [] [1,5,19,20,21,22] [] [11] [(6,.box ([cI 1,cPs zR.t.parts]++zi zR.t.k++[cB zR.eq,cFs ([]:List za0)]))] h fun a w h=>qV (rA 6 ([cI 1,cPs zR.t.parts]++zi zR.t.k++[cB zR.eq,cFs ([]:List za0)]) h zc0 rfl ?_))));rw [each_x (zcq n) (dF hc4) (by have:=hc6;simpa using this) (by have:=hc8;simpa using this)];try rfl
theorem LeachM (n:Int) :∀ c:za0,c.okB 1000000000 10000->∀ f:za0,f.cl=c->f.okB 1000000000 10000->Fn Tryz.prog 156 [(1,.box [cI n])] [(vF f),.t (.c (.fn (.func 184) [] [.ptr 1 0]))] (vF (za0.each (zcq n) f)) [(1,.box [cI n])] :=
 fun c=>za0.ind (P:=fun c=>c.okB 1000000000 10000->∀ f:za0,f.cl=c->f.okB 1000000000 10000->Fn Tryz.prog 156 [(1,.box [cI n])] [(vF f),.t (.c (.fn (.func 184) [] [.ptr 1 0]))] (vF (za0.each (zcq n) f)) [(1,.box [cI n])]) (fun k r ks ih hc f e hf=>by
  refine LeachM0 f n hf (by rw [e];exact hc)  fun q hq=>?_
  have hq2:q ∈ ks:=by have:=hq;rw [e] at this;exact this
  have hk:q.okB 1000000000 10000:=by
   refine zga hc (?_:q ∈ cnt k ks)
   have hcc:f.cl.cl=f.cl:=cl_cl f
   have:=cnt_of_cl f
   rw [e] at this;rw [show cnt k ks=ks from this];exact hq2
  exact ih q hq2 hk q (cl_kids_cl hq) (za0.okB_mono (by omega) (by omega) _ hk)) c
theorem LeachP0 (f:za0) (vs:List Int) (bys:List zaf) (hf:f.okB 1000000000 10000) (hc9:f.cl.okB nt Lt) (hnt:nt<=33000000) (hLt:Lt<=10000) (hb:∀ b ∈ bys,zil b) (hlv:vs.length<=1000000000000) (hlb:bys.length<=1000000000000) (ih:∀ q ∈ f.cl.kids,Fn Tryz.prog 156 [(1,.box [cIs vs]),(2,.box [.d (.sl 3 (bys.map zaf.d))])] [(vF q),.t (.c (.fn (.func 157) [] [.ptr 1 0,.ptr 2 0]))] (vF (za0.each (zbk vs bys) q)) [(1,.box [cIs vs]),(2,.box [.d (.sl 3 (bys.map zaf.d))])]):Fn Tryz.prog 156 [(1,.box [cIs vs]),(2,.box [.d (.sl 3 (bys.map zaf.d))])] [(vF f),.t (.c (.fn (.func 157) [] [.ptr 1 0,.ptr 2 0]))] (vF (za0.each (zbk vs bys) f)) [(1,.box [cIs vs]),(2,.box [.d (.sl 3 (bys.map zaf.d))])]:=by
 have lkc:f.cl.kids.length<=9223372036854775807:=zdc hc9;refine fB Tryz.func156 rfl 35 fun w H B a h=>Jq 5 [] [(1,.t (.c (.fn (.func 157) [] [.ptr 1 0,.ptr 2 0]))),(2,vp 5 0),(4,vp 6 0)] [(1,.box [cIs vs]),(2,.box [.d (.sl 3 (bys.map zaf.d))]),(5,.box (zF f)),(6,.box zF0)] h fun a w h=>?_
 rcases bE (decide (f.kind=3\/f.kind=4\/f.kind=5)) with hc1 | hc4
 ·have hc1':=dT hc1;have hkd:=dT hc1;refine Jg 7 [(1,.call (LcloneO f hf hkd))] [2] [(5,vp 7 0)] [5] [(0,.row 35 6 (f.cl.kids.map za0.d)),(7,.box ([cI f.kind,cPs zR.t.parts]++zi zR.t.k++[cB zR.eq,.own 0 f.cl.kids.length]))] h fun a w h=>qW (Je 8 [(2,.cmp (op:=.eql) (m:=f.kind) (n:=2) (b:=false) .i64 (beq_eq_false_iff_ne.2 (by omega)))] [] [(12,vb false)] h fun a w h=>zaw h (qU (za2 (qW (Je 8 [] [12] [(19,vO 0 f.cl.kids.length),(20,vN f.cl.kids.length),(21,vI 0)] h fun a w h=>qZ ?_)))));replace h:=cvM [] [] [] [(0,.row 35 6 (((f.cl.kids.take 0).map (za0.each (zbk vs bys))++f.cl.kids.drop 0).map za0.d))] (by rw [<- show (f.cl.kids:List za0)=((f.cl.kids.take 0).map (za0.each (zbk vs bys))++f.cl.kids.drop 0) from (by simp)];kernel_rfl) h
  refine zbz (ι:=(Nat)) (fun j=>j<=f.cl.kids.length)
    [] (fun j=>[(21,vN j)])
    [] (fun j=>[(0,.row 35 6 (((f.cl.kids.take j).map (za0.each (zbk vs bys))++f.cl.kids.drop j).map za0.d))])
    (fun j=>f.cl.kids.length - j) 0 ?_ h ?_
  ·exact bC _
  clear h;rintro j a w hI h;have lej:((f.cl.kids.take j).map (za0.each (zbk vs bys))++f.cl.kids.drop j).length=f.cl.kids.length:=mvx_len f.cl.kids _ hI;refine Je 8 [] [] [(22,vb (decide ((j:Int)<(f.cl.kids.length:Int))))] h fun a w h=>qW (zae ((j:Int)<(f.cl.kids.length:Int)) h (fun hc2 hc2'=>?_) (fun hc3 hc3'=>?_))
  ·refine qU (za2 (qW (qZ ?_)));obtain ⟨x3,hx3⟩:=gl f.cl.kids j;refine Jg 8 [(1,.g (xO 24 19 0 f.cl.kids.length j zfx (OV.tmp 21 _))),(2,.g (Op.loadR_agg (d:=25) (t:=24) (n:=0) (i:=j) (fo:=0) (rty:=35) (es:=6) (xs:=[.raw (.int .i64 x3.kind),.sl 3 (x3.r.t.parts.map za3.d),.raw (.bool x3.r.t.k.neg),nsl x3.r.t.k.abs,.raw (.bool x3.r.eq),.sl 6 (x3.kids.map za0.d)]) zc0 rfl ((za8 (mvx_at (F:=za0.each (zbk vs bys)) hx3) (f:=za0.d)).trans (congrArg some (za0.d_eq x3))) rfl rfl))] [22] [(6,vN j),(7,vp 8 0)] [] [(8,.box (zF x3))] h fun a w h=>Jh 9 [(5,.call (ih x3 (lM hx3))),(6,.g (xO 32 27 0 f.cl.kids.length j zfx (OV.tmp 28 _))),(7,.g (Op.storeR (t:=32) (n:=0) (i:=j) (fo:=0) (rty:=35) (es:=6) (r:=za0.d x3) (ds:=[.raw (.int .i64 (za0.each (zbk vs bys) x3).kind),.sl 3 ((za0.each (zbk vs bys) x3).r.t.parts.map za3.d),.raw (.bool (za0.each (zbk vs bys) x3).r.t.k.neg),nsl (za0.each (zbk vs bys) x3).r.t.k.abs,.raw (.bool (za0.each (zbk vs bys) x3).r.eq),.sl 6 ((za0.each (zbk vs bys) x3).kids.map za0.d)]) (rs:=[(31,(vF (za0.each (zbk vs bys) x3)))]) (rows:=((f.cl.kids.take j).map (za0.each (zbk vs bys))++f.cl.kids.drop j).map za0.d) (rows':=(((f.cl.kids.take j).map (za0.each (zbk vs bys))++f.cl.kids.drop j).set j (za0.each (zbk vs bys) x3)).map za0.d) zc0 (OV.tmp 31 _) rfl rfl rfl (za8 (mvx_at (F:=za0.each (zbk vs bys)) hx3) (f:=za0.d)) (by rw [za0.d_len];decide) (zc8 (xs:=((f.cl.kids.take j).map (za0.each (zbk vs bys))++f.cl.kids.drop j)) (F:=za0.d) j _ _ (by rw [za0.d_eq x3,za0.d_eq (za0.each (zbk vs bys) x3)];rfl))))] [6,7] [] [8] [(0,.row 35 6 ((((f.cl.kids.take j).map (za0.each (zbk vs bys))++f.cl.kids.drop j).set j (za0.each (zbk vs bys) x3)).map za0.d))] h fun a w h=>za7 (za2 (Jf 9 [(0,.j1 j)] [] [(21,vI ((j:Int)+1))] h fun a w h=>za2 ?_));replace h:=cvM [] [] [] [(0,.row 35 6 (((f.cl.kids.take (j+1)).map (za0.each (zbk vs bys))++f.cl.kids.drop (j+1)).map za0.d))] (by rw [<- show ((((f.cl.kids.take j).map (za0.each (zbk vs bys))++f.cl.kids.drop j).set j (za0.each (zbk vs bys) x3)):List za0)=((f.cl.kids.take (j+1)).map (za0.each (zbk vs bys))++f.cl.kids.drop (j+1)) from (mvx_set (F:=za0.each (zbk vs bys)) hx3)];kernel_rfl) h;refine zaa (x:=j) (y:=j+1) h ?_ ?_
   ·have:=zac hx3;show j+1<=f.cl.kids.length;omega
   show f.cl.kids.length - (j+1)<f.cl.kids.length - j;have:=zac hx3;omega
  refine exA (Jg 9 [] [1,5,19,20,21,22] [] [7] [(6,.box ([cI f.kind,cPs zR.t.parts]++zi zR.t.k++[cB zR.eq,.own 0 f.cl.kids.length]))] h fun a w h=>qV ?_);replace h:=cvM [] [] [] [(0,.row 35 6 ((f.cl.kids.map (za0.each (zbk vs bys))).map za0.d))] (by rw [<- show (((f.cl.kids.take j).map (za0.each (zbk vs bys))++f.cl.kids.drop j):List za0)=(f.cl.kids.map (za0.each (zbk vs bys))) from (by rw [bP (by omega),b5 (by omega),bN])];kernel_rfl) h;replace h:=pubKX 0 6 35 ((f.cl.kids.map (za0.each (zbk vs bys))).map za0.d) h [f.cl.kids.length] ⟨by first | exact (bF _).symm | (simp;done) | (simp;omega),trivial⟩;refine rA 6 ([cI f.kind,cPs zR.t.parts]++zi zR.t.k++[cB zR.eq,cFs (f.cl.kids.map (za0.each (zbk vs bys)))]) h zc0 rfl ?_;rw [each_kids (zbk vs bys) hkd];try rfl
 have hc4':=dF hc4
 rcases bE (f.kind == 2) with hc5 | hc6
 ·refine Jg 9 [(1,.call (Fn.cast (zgj f hf) (show ((vF (za0.cl f)):V) = .t (.agg ([cI 2,cPs (cpR f.r).t.parts]++zi (cpR f.r).t.k++[cB (cpR f.r).eq,cFs ([]:List za0)])) from by rw [cl_at hc5];rfl)))] [2] [(5,vp 9 0)] [5] [(9,.box ([cI 2,cPs (cpR f.r).t.parts]++zi (cpR f.r).t.k++[cB (cpR f.r).eq,cFs ([]:List za0)]))] h fun a w h=>qW (Je 10 [(2,.cmp (op:=.eql) (m:=2) (n:=2) (b:=true) .i64 rfl)] [] [(12,vb true)] h fun a w h=>cS true h (fun _=>?_) nofun);refine Jh 10 [(3,.g (Op.callV (d:=16) (t:=13) (cap:=[.ptr 1 0,.ptr 2 0]) (args:=[(vR (cpR f.r))]) (rs:=[(15,(vR (cpR f.r)))]) (tys:=#[32]) (LPutAll1 (cpR f.r) vs bys (cl_rel hc9 hc5) hnt hLt hb hlv hlb) ma0_14 (OVs.cons (OV.tmp 15 _) (OVs.nil))))] [12] [] [] [(9,.box ([cI 2,cPs (zbk vs bys (cpR f.r)).t.parts]++zi (zbk vs bys (cpR f.r)).t.k++[cB (zbk vs bys (cpR f.r)).eq,cFs ([]:List za0)]))] h fun a w h=>za2 (qW (Je 10 [(2,.len (za4 6 za0.d ([]:List za0)))] [] [(19,(vFs ([]:List za0))),(20,vI (([]:List za0).length:Int)),(21,vI 0)] h fun a w h=>qZ ?_))
  refine loopS (ι:=Unit) (fun (z_:Unit)=>match z_ with | ()=>True)
    (fun (z_:Unit)=>match z_ with | ()=>[(1,.t (.c (.fn (.func 157) [] [.ptr 1 0,.ptr 2 0]))),(4,vp 6 0),(5,vp 9 0),(19,(vFs ([]:List za0))),(20,vI (([]:List za0).length:Int)),(21,vI 0)])
    (fun (z_:Unit)=>match z_ with | ()=>[(1,.box [cIs vs]),(2,.box [.d (.sl 3 (bys.map zaf.d))]),(6,.box zF0),(9,.box ([cI 2,cPs (zbk vs bys (cpR f.r)).t.parts]++zi (zbk vs bys (cpR f.r)).t.k++[cB (zbk vs bys (cpR f.r)).eq,cFs ([]:List za0)]))])
    (fun (z_:Unit)=>match z_ with | ()=>0) () ?_ h (by kernel_rfl) (by kernel_rfl) ?_
  ·trivial
  clear h;rintro ⟨⟩ a w hI h;change St _ (F.of [(1,.t (.c (.fn (.func 157) [] [.ptr 1 0,.ptr 2 0]))),(4,vp 6 0),(5,vp 9 0),(19,(vFs ([]:List za0))),(20,vI (([]:List za0).length:Int)),(21,vI 0)] [(1,.box [cIs vs]),(2,.box [.d (.sl 3 (bys.map zaf.d))]),(6,.box zF0),(9,.box ([cI 2,cPs (zbk vs bys (cpR f.r)).t.parts]++zi (zbk vs bys (cpR f.r)).t.k++[cB (zbk vs bys (cpR f.r)).eq,cFs ([]:List za0)]))]) a w at h;refine Jq 10 [(0,.cmp (op:=.lss) (m:=0) (n:=(([]:List za0).length:Int)) (b:=false) .i64 rfl)] [(1,.t (.c (.fn (.func 157) [] [.ptr 1 0,.ptr 2 0]))),(4,vp 6 0),(5,vp 9 0),(19,(vFs ([]:List za0))),(20,vI (([]:List za0).length:Int)),(21,vI 0),(22,vb false)] [(1,.box [cIs vs]),(2,.box [.d (.sl 3 (bys.map zaf.d))]),(6,.box zF0),(9,.box ([cI 2,cPs (zbk vs bys (cpR f.r)).t.parts]++zi (zbk vs bys (cpR f.r)).t.k++[cB (zbk vs bys (cpR f.r)).eq,cFs ([]:List za0)]))] h fun a w h=>qW (zaw h (exA (Jg 10 [] [1,5,19,20,21,22] [] [9] [(6,.box ([cI 2,cPs (zbk vs bys (cpR f.r)).t.parts]++zi (zbk vs bys (cpR f.r)).t.k++[cB (zbk vs bys (cpR f.r)).eq,cFs ([]:List za0)]))] h fun a w h=>qV (rA 6 ([cI 2,cPs (zbk vs bys (cpR f.r)).t.parts]++zi (zbk vs bys (cpR f.r)).t.k++[cB (zbk vs bys (cpR f.r)).eq,cFs ([]:List za0)]) h zc0 rfl ?_))));rw [each_atom (zbk vs bys) (by have:=hc5;simpa using this)];try rfl
 rcases bE (f.kind == 0) with hc7 | hc8
 ·refine Jg 10 [(1,.call (Fn.cast (zgj f hf) (show ((vF (za0.cl f)):V) = .t (.agg ([cI 0,cPs zR.t.parts]++zi zR.t.k++[cB zR.eq,cFs ([]:List za0)])) from by rw [cl_tru hc7];rfl)))] [2] [(5,vp 10 0)] [5] [(10,.box ([cI 0,cPs zR.t.parts]++zi zR.t.k++[cB zR.eq,cFs ([]:List za0)]))] h fun a w h=>qW (Je 11 [(2,.cmp (op:=.eql) (m:=0) (n:=2) (b:=false) .i64 rfl)] [] [(12,vb false)] h fun a w h=>zaw h (qU (za2 (qW (Je 11 [(2,.len (za4 6 za0.d ([]:List za0)))] [12] [(19,(vFs ([]:List za0))),(20,vI (([]:List za0).length:Int)),(21,vI 0)] h fun a w h=>qZ ?_)))))
  refine loopS (ι:=Unit) (fun (z_:Unit)=>match z_ with | ()=>True)
    (fun (z_:Unit)=>match z_ with | ()=>[(1,.t (.c (.fn (.func 157) [] [.ptr 1 0,.ptr 2 0]))),(4,vp 6 0),(5,vp 10 0),(19,(vFs ([]:List za0))),(20,vI (([]:List za0).length:Int)),(21,vI 0)])
    (fun (z_:Unit)=>match z_ with | ()=>[(1,.box [cIs vs]),(2,.box [.d (.sl 3 (bys.map zaf.d))]),(6,.box zF0),(10,.box ([cI 0,cPs zR.t.parts]++zi zR.t.k++[cB zR.eq,cFs ([]:List za0)]))])
    (fun (z_:Unit)=>match z_ with | ()=>0) () ?_ h (by kernel_rfl) (by kernel_rfl) ?_
  ·trivial
  clear h;rintro ⟨⟩ a w hI h;change St _ (F.of [(1,.t (.c (.fn (.func 157) [] [.ptr 1 0,.ptr 2 0]))),(4,vp 6 0),(5,vp 10 0),(19,(vFs ([]:List za0))),(20,vI (([]:List za0).length:Int)),(21,vI 0)] [(1,.box [cIs vs]),(2,.box [.d (.sl 3 (bys.map zaf.d))]),(6,.box zF0),(10,.box ([cI 0,cPs zR.t.parts]++zi zR.t.k++[cB zR.eq,cFs ([]:List za0)]))]) a w at h;refine Jq 11 [(0,.cmp (op:=.lss) (m:=0) (n:=(([]:List za0).length:Int)) (b:=false) .i64 rfl)] [(1,.t (.c (.fn (.func 157) [] [.ptr 1 0,.ptr 2 0]))),(4,vp 6 0),(5,vp 10 0),(19,(vFs ([]:List za0))),(20,vI (([]:List za0).length:Int)),(21,vI 0),(22,vb false)] [(1,.box [cIs vs]),(2,.box [.d (.sl 3 (bys.map zaf.d))]),(6,.box zF0),(10,.box ([cI 0,cPs zR.t.parts]++zi zR.t.k++[cB zR.eq,cFs ([]:List za0)]))] h fun a w h=>qW (zaw h (exA (Jg 11 [] [1,5,19,20,21,22] [] [10] [(6,.box ([cI 0,cPs zR.t.parts]++zi zR.t.k++[cB zR.eq,cFs ([]:List za0)]))] h fun a w h=>qV (rA 6 ([cI 0,cPs zR.t.parts]++zi zR.t.k++[cB zR.eq,cFs ([]:List za0)]) h zc0 rfl ?_))));rw [each_0 (zbk vs bys) (by have:=hc7;simpa using this)];try rfl
 refine Jg 11 [(1,.call (Fn.cast (zgj f hf) (show ((vF (za0.cl f)):V) = .t (.agg ([cI 1,cPs zR.t.parts]++zi zR.t.k++[cB zR.eq,cFs ([]:List za0)])) from by rw [cl_out9 (dF hc4) hc6 hc8];rfl)))] [2] [(5,vp 11 0)] [5] [(11,.box ([cI 1,cPs zR.t.parts]++zi zR.t.k++[cB zR.eq,cFs ([]:List za0)]))] h fun a w h=>qW (Je 12 [(2,.cmp (op:=.eql) (m:=1) (n:=2) (b:=false) .i64 rfl)] [] [(12,vb false)] h fun a w h=>zaw h (qU (za2 (qW (Je 12 [(2,.len (za4 6 za0.d ([]:List za0)))] [12] [(19,(vFs ([]:List za0))),(20,vI (([]:List za0).length:Int)),(21,vI 0)] h fun a w h=>qZ ?_)))))
 refine loopS (ι:=Unit) (fun (z_:Unit)=>match z_ with | ()=>True)
   (fun (z_:Unit)=>match z_ with | ()=>[(1,.t (.c (.fn (.func 157) [] [.ptr 1 0,.ptr 2 0]))),(4,vp 6 0),(5,vp 11 0),(19,(vFs ([]:List za0))),(20,vI (([]:List za0).length:Int)),(21,vI 0)])
   (fun (z_:Unit)=>match z_ with | ()=>[(1,.box [cIs vs]),(2,.box [.d (.sl 3 (bys.map zaf.d))]),(6,.box zF0),(11,.box ([cI 1,cPs zR.t.parts]++zi zR.t.k++[cB zR.eq,cFs ([]:List za0)]))])
   (fun (z_:Unit)=>match z_ with | ()=>0) () ?_ h (by kernel_rfl) (by kernel_rfl) ?_
 ·trivial
 clear h;rintro ⟨⟩ a w hI h;change St _ (F.of [(1,.t (.c (.fn (.func 157) [] [.ptr 1 0,.ptr 2 0]))),(4,vp 6 0),(5,vp 11 0),(19,(vFs ([]:List za0))),(20,vI (([]:List za0).length:Int)),(21,vI 0)] [(1,.box [cIs vs]),(2,.box [.d (.sl 3 (bys.map zaf.d))]),(6,.box zF0),(11,.box ([cI 1,cPs zR.t.parts]++zi zR.t.k++[cB zR.eq,cFs ([]:List za0)]))]) a w at h;refine Jq 12 [(0,.cmp (op:=.lss) (m:=0) (n:=(([]:List za0).length:Int)) (b:=false) .i64 rfl)] [(1,.t (.c (.fn (.func 157) [] [.ptr 1 0,.ptr 2 0]))),(4,vp 6 0),(5,vp 11 0),(19,(vFs ([]:List za0))),(20,vI (([]:List za0).length:Int)),(21,vI 0),(22,vb false)] [(1,.box [cIs vs]),(2,.box [.d (.sl 3 (bys.map zaf.d))]),(6,.box zF0),(11,.box ([cI 1,cPs zR.t.parts]++zi zR.t.k++[cB zR.eq,cFs ([]:List za0)]))] h fun a w h=>qW (zaw h (exA (Jg 12 [] [1,5,19,20,21,22] [] [11] [(6,.box ([cI 1,cPs zR.t.parts]++zi zR.t.k++[cB zR.eq,cFs ([]:List za0)]))] h fun a w h=>qV (rA 6 ([cI 1,cPs zR.t.parts]++zi zR.t.k++[cB zR.eq,cFs ([]:List za0)]) h zc0 rfl ?_))));rw [each_x (zbk vs bys) (dF hc4) (by have:=hc6;simpa using this) (by have:=hc8;simpa using this)];try rfl
theorem LeachP (vs:List Int) (bys:List zaf) (hnt:nt<=33000000) (hLt:Lt<=10000) (hb:∀ b ∈ bys,zil b) (hlv:vs.length<=1000000000000) (hlb:bys.length<=1000000000000):∀ c:za0,c.okB nt Lt->∀ f:za0,f.cl=c->f.okB 1000000000 10000->Fn Tryz.prog 156 [(1,.box [cIs vs]),(2,.box [.d (.sl 3 (bys.map zaf.d))])] [(vF f),.t (.c (.fn (.func 157) [] [.ptr 1 0,.ptr 2 0]))] (vF (za0.each (zbk vs bys) f)) [(1,.box [cIs vs]),(2,.box [.d (.sl 3 (bys.map zaf.d))])] :=
 fun c=>za0.ind (P:=fun c=>c.okB nt Lt->∀ f:za0,f.cl=c->f.okB 1000000000 10000->Fn Tryz.prog 156 [(1,.box [cIs vs]),(2,.box [.d (.sl 3 (bys.map zaf.d))])] [(vF f),.t (.c (.fn (.func 157) [] [.ptr 1 0,.ptr 2 0]))] (vF (za0.each (zbk vs bys) f)) [(1,.box [cIs vs]),(2,.box [.d (.sl 3 (bys.map zaf.d))])]) (fun k r ks ih hc f e hf=>by
  refine LeachP0 f vs bys hf (by rw [e];exact hc) hnt hLt hb hlv hlb fun q hq=>?_
  have hq2:q ∈ ks:=by have:=hq;rw [e] at this;exact this
  have hk:q.okB nt Lt:=by
   refine zga hc (?_:q ∈ cnt k ks)
   have hcc:f.cl.cl=f.cl:=cl_cl f
   have:=cnt_of_cl f
   rw [e] at this;rw [show cnt k ks=ks from this];exact hq2
  exact ih q hq2 hk q (cl_kids_cl hq) (za0.okB_mono (by omega) (by omega) _ hk)) c
theorem LMoveF (f:za0) (n:Int) (hf:f.okB 1000000000 10000) (hc:f.cl.okB 1000000000 10000):Fn Tryz.prog 145 [] [(vF f),vI n] (vF (za0.each (zcq n) f)) []:=by
 refine fB Tryz.func145 rfl 8 fun w H B a h=>Jq 0 [] [(2,vp 0 0),(3,vp 1 0),(4,vp 2 0)] [(0,.box (zF f)),(1,.box [cI n]),(2,.box zF0)] h fun a w h=>Jq 3 [(1,.g (Op.makeFs (d:=6) (fn:=.func 184) [(3,1,0)])),(2,.call (LeachM n f.cl hc f rfl hf))] [(4,vp 2 0)] [(2,.box (zF (za0.each (zcq n) f)))] h fun a w h=>qV (rA 2 (zF (za0.each (zcq n) f)) h zc0 rfl ?_)
 rfl
theorem LPutAllF (f:za0) (vs:List Int) (bys:List zaf) (hf:f.okB 1000000000 10000) (hc9:f.cl.okB nt Lt) (hnt:nt<=33000000) (hLt:Lt<=10000) (hb:∀ b ∈ bys,zil b) (hlv:vs.length<=1000000000000) (hlb:bys.length<=1000000000000):Fn Tryz.prog 112 [] [(vF f),(vIs vs),vS 3 (bys.map zaf.d)] (vF (za0.each (zbk vs bys) f)) []:=by
 refine fB Tryz.func112 rfl 10 fun w H B a h=>Jq 0 [] [(3,vp 0 0),(4,vp 1 0),(5,vp 2 0),(6,vp 3 0)] [(0,.box (zF f)),(1,.box [cIs vs]),(2,.box [.d (.sl 3 (bys.map zaf.d))]),(3,.box zF0)] h fun a w h=>Jq 4 [(1,.g (Op.makeFs (d:=8) (fn:=.func 157) [(4,1,0),(5,2,0)])),(2,.call (LeachP vs bys hnt hLt hb hlv hlb f.cl hc9 f rfl hf))] [(6,vp 3 0)] [(3,.box (zF (za0.each (zbk vs bys) f)))] h fun a w h=>qV (rA 3 (zF (za0.each (zbk vs bys) f)) h zc0 rfl ?_)
 rfl
theorem kf_0:SlT Tryz.prog 23 132 5:=SlT.mk' Tryz.underlying23 (by kernel_rfl)
theorem kf_5:SlT Tryz.prog 36 102 3:=SlT.mk' Tryz.underlying36 (by kernel_rfl)
def zim:ZI:=⟨false,[]⟩
def bnd0:zao:=⟨false,zim,zim⟩
def zel (s:zb3) (v:Nat):zao:=(s.bounds[v]?).getD bnd0
def withinB (b:zao) (n:ZI):Bool:=!b.is_ || (decide (zbx b.lo.val n.val<=0) && decide (zbx n.val b.hi.val<=0))
def nlocs (s:zb3) (i:Nat):Nat:=((s.procs[i]?).map fun p=>p.locs.length).getD 0
def locOk (s:zb3) (x:StD) (i:Nat):Bool:=decide (0<=(x.locs[i]?).getD 0/\(x.locs[i]?).getD 0<(nlocs s i:Int))
def valOk (s:zb3) (x:StD) (v:Nat):Bool:=withinB (zel s v) ((x.vals[v]?).getD zim)
def fits (s:zb3) (x:StD):Bool:=decide (x.locs.length=s.procs.length/\x.vals.length=s.vars.length) && (allN x.locs.length (locOk s x) && allN x.vals.length (valOk s x))
def first (s:zb3) (x:StD):Bool:=(fits s x && !x.locs.any fun l=>l != 0) && s.init.holds x.vals
def sameS (x y:StD):Bool:=decide (x.locs=y.locs) && decide (x.vals.map ZI.val=y.vals.map ZI.val)
def ZOk (L:Nat) (z:ZI):Prop:=Lb z.abs/\z.abs.length<=L
structure zje (L:Nat) (a:zbe):Prop where
  guard:a.guard.lb/\a.guard.ok L
  len:a.moves.length<=20
  mv:∀ m ∈ a.moves,TOk 20 L m.t
structure zcg (L:Nat) (s:zb3):Prop where
  vars:s.vars.length<=8
  bnds:s.bounds.length<=20
  procs:s.procs.length<=6
  acts:s.acts.length<=20
  bnd:∀ b ∈ s.bounds,ZOk L b.lo/\ZOk L b.hi
  init:s.init.lb/\s.init.ok L
  act:∀ a ∈ s.acts,zje L a
structure StOk (M:Nat) (x:StD):Prop where
  locs:x.locs.length<=10
  vals:x.vals.length<=10
  val:∀ z ∈ x.vals,ZOk M z
theorem StOk.mono {M':Nat} {x:StD} (h:StOk M x) (hm:M<=M'):StOk M' x:=⟨h.locs,h.vals,fun z hz=>⟨(h.val z hz).1,bK (h.val z hz).2 hm⟩⟩
theorem ZOk.zero {L:Nat}:ZOk L zim:=⟨zeu,bC _⟩
theorem bnd_ok {L:Nat} (h:zcg L s) (v:Nat):ZOk L (zel s v).lo/\ZOk L (zel s v).hi:=by
 unfold zel
 cases hb:s.bounds[v]? with
 | none=>exact ⟨ZOk.zero,ZOk.zero⟩
 | some b=>exact h.bnd b (cD hb)
theorem ki_0:Sz Tryz.prog 73 10 true:=Sz.mk' (by kernel_rfl) Tryz.underlying73 _ rfl
theorem ki_1:SlT Tryz.prog 37 73 10:=SlT.mk' Tryz.underlying37 (by kernel_rfl)
theorem ki_2:SlT Tryz.prog 71 75 5:=SlT.mk' Tryz.underlying71 (by kernel_rfl)
theorem ki_5:Sz Tryz.prog 75 5 true:=Sz.mk' (by kernel_rfl) Tryz.underlying75 _ rfl
def zhm (s:zb3) (i:Int):Option zbe:=if 0<=i then s.acts[i.toNat]? else none
def form0:za0:=⟨0,⟨⟨[],zim⟩,false⟩,[]⟩
def act0:zbe:=⟨0,0,0,form0,[]⟩
def mv0:zap:=⟨0,false,⟨[],zim⟩⟩
def mvAt (a:zbe) (v:Nat):Option zap:=a.moves.find? fun m=>m.v == (v:Int)
def freeAt (a:zbe) (v:Nat):Bool:=match mvAt a v with | some m=>m.any | none=>false
def newAt (x:StD) (a:zbe) (v:Nat):ZI:=match mvAt a v with | none=>ZI.of ((x.vals[v]?).getD zim).val | some m=>if m.any=true then zim else ZI.of (valT m.t x.vals)
def zhs (s:zb3) (m:zap):Bool:=decide (m.v>=0) && decide (m.v<(s.vars.length:Int))
def enabled (s:zb3) (x:StD) (c:zbe):Bool:=(fits s x && (decide (0<=c.proc/\c.proc<(s.procs.length:Int)) && ((x.locs[c.proc.toNat]?).getD 0 == c.from_) && decide (0<=c.to_/\c.to_<(nlocs s c.proc.toNat:Int)))) && (!(c.moves.any fun m=>!zhs s m) && c.guard.holds x.vals)
theorem actAt_some {a:zbe} (h:zhm s i=some a):∃ k:Nat,i=(k:Int)/\s.acts[k]?=some a:=by
 unfold zhm at h
 split at h
 ·exact ⟨i.toNat,(cF (by assumption)).symm,h⟩
 ·cases h
theorem actAt_none (h:zhm s i=none):i<0\/(s.acts.length:Int)<=i:=by
 unfold zhm at h
 split at h
 ·have:=List.getElem?_eq_none_iff.1 h;omega
 ·omega
theorem le5_3:ElZ Tryz.prog 67 4 1:=ElZ.mk' Tryz.underlying67 _ _ rfl rfl (by kernel_rfl) (by kernel_rfl) (by kernel_rfl) (by decide)
theorem le5_9:SlT Tryz.prog 67 4 1:=SlT.mk' Tryz.underlying67 (by kernel_rfl)
structure zdr where
  locs:List Int
  bits:List Bool
def zdr.d (x:zdr):List D:=[.sl 1 (x.locs.map zb4),.sl 1 (x.bits.map zdz)]
def litF (r:za6) (b:Bool):za0:=if b=true then zbd r else zj4 (zbd r)
def zfy (ps:List za6):Prop:=ps.length<=1000/\∀ r ∈ ps,TokR 10 r
theorem lit_okB {r:za6} (hr:TOk 20 10 r.t) (b:Bool):(litF r b).okB 400000000 100:=by
 have h:(zbd r).okB 20 11:=zi1 (hr.plain (by decide))
 unfold litF
 split
 ·exact za0.okB_mono (by decide) (by decide) _ h
 ·exact zgu (by decide) (by simp) fun g hg=>by rw [bX.1 hg];exact za0.okB_mono (by decide) (by decide) _ (okB_cl (by decide) _ h)
def zdx (ps:List za6) (bs:List Bool):List za0:=List.zipWith litF ps bs
def zax (ps:List za6) (bs:List Bool):za0:=zca (zdx ps bs)
theorem cube_at {bs:List Bool} {r:za6} {b:Bool} (h:ps[j]?=some r) (k:bs[j]?=some b):(zdx ps bs).take j++[litF r b]=(zdx ps bs).take (j+1):=by
 have:(zdx ps bs)[j]?=some (litF r b):=by unfold zdx;rw [List.getElem?_zipWith,h,k]
 rw [b8,this];rfl
theorem zh0 (ps:List za6) (bs:List Bool):(zdx ps bs).length=min ps.length bs.length:=by unfold zdx;exact List.length_zipWith ..
theorem cube_okB (hps:zfy ps) (bs:List Bool):∀ g ∈ zdx ps bs,g.okB 400000000 100:=fun g hg=>by
 obtain ⟨j,hj,rfl⟩:=List.getElem_of_mem hg
 have hl:=zh0 ps bs
 have e:(zdx ps bs)[j]'hj=litF (ps[j]'(by omega)) (bs[j]'(by omega)):=List.getElem_zipWith ..
 rw [e]
 exact lit_okB (hps.2 _ (List.getElem_mem _)) _
theorem Lliteral (r:za6) (b:Bool) (hr:TOk 20 10 r.t):Fn Tryz.prog 68 [] [(vR r),vb b] (vF (litF r b)) []:=by
 refine fB Tryz.func68 rfl 11 fun w H B a h=>Jq 0 [] [(1,vb b),(2,vp 0 0),(4,vp 1 0)] [(0,.box (zR_ r)),(1,.box zF0)] h fun a w h=>qW (Je 2 [] [1] [(5,vb b)] h fun a w h=>cS b h (fun hc1=>?_) (fun hc2=>?_))
 ·refine Jg 2 [(1,.call (LOf r (hr.mono (by decide) (by decide))))] [5] [] [] [(1,.box (zF (zbd r)))] h fun a w h=>qV (za5 (rA 1 (zF (zbd r)) h zc0 rfl ?_));unfold litF;rw [hc1];try rfl
 refine qU (za2 (Jq 2 [(1,.call (LOf r (hr.mono (by decide) (by decide)))),(2,.call (LDeny (zbd r) (za0.okB_mono (by decide) (by decide) _ (zi1 (n:=20) (L:=11) (hr.plain (by decide))))))] [(4,vp 1 0)] [(1,.box (zF (zj4 (zbd r))))] h fun a w h=>qV (rA 1 (zF (zj4 (zbd r))) h zc0 rfl ?_)));unfold litF;rw [hc2];try rfl
theorem LCube (ps:List za6) (bs:List Bool) (hps:zfy ps) (hb:bs.length<=9223372036854775807):Fn Tryz.prog 33 [] [(vRs ps),vS 1 (bs.map zdz)] (vF (zax ps bs)) []:=by
 have lps:=hps.1;have lcb:=zh0 ps bs;refine fB Tryz.func33 rfl 30 fun w H B a h=>Jq 5 [] [(0,(vRs ps)),(1,vS 1 (bs.map zdz)),(4,vp 5 0)] [(5,.box zF0)] h fun a w h=>Je 6 [] [] [(5,vW zai)] h fun a w h=>qW (Je 6 [(1,.len (za4 4 za6.d ps)),(3,.len (za4 1 zdz bs)),(4,.g (Op.min2 (d:=11) (tys:=#[3,3]) (k:=.i64) (m:=(ps.length:Int)) (n:=(bs.length:Int)) (r:=((min ps.length bs.length:Nat):Int)) (OV.tmp 8 _) (OV.tmp 10 _) (by omega)))] [] [(11,vI ((min ps.length bs.length:Nat):Int)),(12,vI 0)] h fun a w h=>qZ ?_)
 replace h:=zep 5 0 6 6 35 (vW zai) h
 refine zbz (ι:=(Nat)) (fun j=>j<=min ps.length bs.length)
   [] (fun j=>[(5,vO 6 ((zdx ps bs).take j).length),(12,vN j)])
   [] (fun j=>[(6,.row 35 6 (((zdx ps bs).take j).map za0.d))])
   (fun j=>min ps.length bs.length - j) 0 ?_ h ?_
 ·exact bC _
 clear h;rintro j a w hI h;have lcj:((zdx ps bs).take j).length<=j:=by rw [bS];omega
 refine Je 7 [] [] [(13,vb (decide ((j:Int)<((min ps.length bs.length:Nat):Int))))] h fun a w h=>qW (zae ((j:Int)<((min ps.length bs.length:Nat):Int)) h (fun hc1 hc1'=>?_) (fun hc2 hc2'=>?_))
 ·refine qU (za2 (qW (qZ (Je 7 [] [13] [(6,vN j)] h fun a w h=>?_))));obtain ⟨x1,hx1⟩:=gl ps j;obtain ⟨x2,hx2⟩:=gl bs j;refine Jh 7 [(3,.g (xD 18 16 kc_3 (za8 hx1 (f:=za6.d)) (OV.tmp 17 _))),(7,.g (xD 22 20 le5_9 (za8 hx2 (f:=zdz)) (OV.tmp 21 _))),(9,.call (Lliteral x1 x2 (hps.2 x1 (lM hx1)))),(10,.g (bD 25 ([(litF x1 x2)].map za0.d) [(24,(vF (litF x1 x2)))] kb_1 (.cons (i:=0) (OV.tmp 24 _) (.nil)) (by simp only [bG,bL,bU,bV,bN,za0.d_eq];kernel_rfl) (by simp [za0.d_len]))),(11,.g (aD 26 15 25 6 7 ((zdx ps bs).take j) [(litF x1 x2)] za0.d la_7 (by simp [za0.d_len])))] [6] [(5,vO 7 (((zdx ps bs).take j)++[(litF x1 x2)]).length)] [6] [(7,.row 35 6 ((((zdx ps bs).take j)++[(litF x1 x2)]).map za0.d))] h fun a w h=>za7 (za2 (Jf 8 [(0,.j1 j)] [] [(12,vI ((j:Int)+1))] h fun a w h=>za2 ?_));rw [show ((((zdx ps bs).take j)++[(litF x1 x2)]):List za0)=((zdx ps bs).take (j+1)) from (cube_at hx1 hx2)] at h;replace h:=zcr 7 6 h;refine zaa (x:=j) (y:=j+1) h ?_ ?_
  ·have:=zac hx1;have:=zac hx2;show j+1<=min ps.length bs.length;omega
  show min ps.length bs.length - (j+1)<min ps.length bs.length - j;have:=zac hx1;have:=zac hx2;omega
 refine exA ?_;rw [show (((zdx ps bs).take j):List za0)=(zdx ps bs) from (by rw [bP (by rw [zh0];omega)])] at h;replace h:=zh5 6 6 35 ((zdx ps bs).map za0.d) h [(zdx ps bs).length] ⟨by first | exact (bF _).symm | (simp;done) | (simp;omega),trivial⟩;refine Jq 8 [(1,.call (LAll (zdx ps bs) (fun g hg=>za0.okB_mono (by decide) (by decide) _ (cube_okB hps bs g hg)) (by omega)))] [(4,vp 5 0)] [(5,.box (zF (zax ps bs)))] h fun a w h=>qV (rA 5 (zF (zax ps bs)) h zc0 rfl ?_);rfl
theorem lf6_2:zbj Tryz.prog 166:=zbj.mk' (by kernel_rfl)
theorem Lindex1b (p r:za6) (hp:TOk 200000000 3000 p.t) (hr:TOk 200000000 3000 r.t):Fn Tryz.prog 166 [(10,.box (zR_ r))] [(vR p),vp 10 0] (vb (zbp p r == 0)) [(10,.box (zR_ r))]:=by
 refine fB Tryz.func166 rfl 7 fun w H B a h=>Jq 12 [] [(1,vp 10 0),(2,vp 12 0),(3,vb false)] [(10,.box (zR_ r)),(12,.box (zR_ p))] h fun a w h=>Jg 13 [(2,.call (LSame p r hp hr (by decide) (by decide)))] [1,2] [(3,vb (zbp p r == 0))] [12] [] h fun a w h=>qV (rT (.c (cB (zbp p r == 0))) h rfl ?_)
 rfl
theorem LIdxO (xs:List za6) (r:za6) (hf:∀ x ∈ xs,TOk 200000000 3000 x.t) (hr:TOk 200000000 3000 r.t) (hl:xs.length<=1000000000000):Fn Tryz.prog 165 [(9,.row 32 4 (xs.map za6.d)),(10,.box (zR_ r))] [vO 9 xs.length,.t (.c (.fn (.func 166) [] [.ptr 10 0]))] (vI (zd8 (fun p=>zbp p r == 0) xs 0)) [(9,.row 32 4 (xs.map za6.d)),(10,.box (zR_ r))]:=by
 refine fB Tryz.func165 rfl 19 fun w H B a h=>Jq 12 [] [(0,vO 9 xs.length),(1,.t (.c (.fn (.func 166) [] [.ptr 10 0]))),(4,vI 0)] [(9,.row 32 4 (xs.map za6.d)),(10,.box (zR_ r))] h fun a w h=>qW (Je 12 [] [] [(7,vN xs.length),(8,vI 0)] h fun a w h=>qZ ?_)
 refine zbz (ι:=(Nat)) (fun j=>j<=xs.length/\zd8 (fun p=>zbp p r == 0) xs 0=zd8 (fun p=>zbp p r == 0) (xs.drop j) j)
   [4] (fun j=>[(8,vN j)])
   [] (fun j=>[])
   (fun j=>xs.length - j) 0 ?_ h ?_
 ·exact ⟨bC _,rfl⟩
 clear h;rintro j a w hI h;obtain ⟨hI1,hI2⟩:=hI;refine Je 12 [] [] [(9,vb (decide ((j:Int)<(xs.length:Int))))] h fun a w h=>qW (zae ((j:Int)<(xs.length:Int)) h (fun hc1 hc1'=>?_) (fun hc4 hc4'=>?_))
 ·refine qU (za2 (qW (qZ (Je 12 [] [9] [(5,vN j)] h fun a w h=>?_))));obtain ⟨x1,hx1⟩:=gl xs j;refine Je 12 [(3,.g (xO 14 12 9 xs.length j kc_3 (OV.tmp 13 _))),(4,.g (Op.loadR_agg (d:=15) (t:=14) (n:=9) (i:=j) (fo:=0) (rty:=32) (es:=4) (xs:=[.sl 3 (x1.t.parts.map za3.d),.raw (.bool x1.t.k.neg),nsl x1.t.k.abs,.raw (.bool x1.eq)]) zjm rfl (za8 hx1 (f:=za6.d)) rfl rfl)),(5,.g (Op.callV (d:=16) (t:=11) (cap:=[.ptr 10 0]) (args:=[(vR x1)]) (rs:=[(15,(vR x1))]) (tys:=#[32]) (Lindex1b x1 r (hf x1 (lM hx1)) hr) lf6_2 (OVs.cons (OV.tmp 15 _) (OVs.nil))))] [] [(16,vb (zbp x1 r == 0))] h fun a w h=>cS (zbp x1 r == 0) h (fun hc2=>?_) (fun hc3=>?_)
  ·refine Je 12 [] [5,16] [(4,vN j)] h fun a w h=>qV (za9 (za5 (za5 (za9 (za5 (rT (.c (cI (j:Int))) h rfl ?_))))));have hz:zd8 (fun p=>zbp p r == 0) xs 0=(j:Int):=by rw [hI2,zf0 hx1,if_pos hc2]
   rw [hz];try rfl
  refine qU (za7 (za2 (Jf 12 [(0,.j1 j)] [5,16] [(8,vI ((j:Int)+1))] h fun a w h=>za2 (zaa (x:=j) (y:=j+1) h ?_ ?_))))
  ·exact ⟨by have:=zac hx1;omega,by rw [hI2,zf0 hx1,if_neg (by rw [hc3];exact Bool.noConfusion)]⟩
  show xs.length - (j+1)<xs.length - j;have:=zac hx1;omega
 refine exA (Jp 12 [] [(4,vI (-1))] h fun a w h=>qV (rT (.c (cI (-1))) h rfl ?_));have hz:zd8 (fun p=>zbp p r == 0) xs 0=-1:=by rw [hI2,b5 (by omega)];rfl
 rw [hz];try rfl
theorem LindexO (xs:List za6) (r:za6) (hf:∀ x ∈ xs,TOk 200000000 3000 x.t) (hr:TOk 200000000 3000 r.t) (hl:xs.length<=1000000000000):Fn Tryz.prog 117 [(9,.row 32 4 (xs.map za6.d))] [vO 9 xs.length,(vR r)] (vI (zd8 (fun p=>zbp p r == 0) xs 0)) [(9,.row 32 4 (xs.map za6.d))]:=by
 refine fB Tryz.func117 rfl 8 fun w H B a h=>Jq 10 [] [(0,vO 9 xs.length),(3,vp 10 0),(4,vI 0)] [(9,.row 32 4 (xs.map za6.d)),(10,.box (zR_ r))] h fun a w h=>Jg 11 [(1,.g (Op.makeFs (d:=6) (fn:=.func 166) [(3,10,0)])),(2,.call (LIdxO xs r hf hr hl))] [0,3] [(4,vI (zd8 (fun p=>zbp p r == 0) xs 0))] [10] [] h fun a w h=>qV (rT (.c (cI (zd8 (fun p=>zbp p r == 0) xs 0))) h rfl ?_)
 rfl
def za0.okA (n L:Nat) (f:za0):Prop:=f.fold fun k r _ ps=>(k=2->TOk n L r.t)/\∀ p ∈ ps,p
theorem za0.okA_eq (n L:Nat) (f:za0):f.okA n L ↔ (f.kind=2->TOk n L f.r.t)/\∀ g ∈ f.kids,g.okA n L:=by
 have:=za0.fold_eq (fun k r _ (ps:List Prop)=>(k=2->TOk n L r.t)/\∀ p ∈ ps,p) f
 unfold za0.okA
 rw [this]
 refine and_congr_right fun _=>⟨fun h g hg=>h _ (b6.2 ⟨g,hg,rfl⟩),fun h p hp=>?_⟩
 obtain ⟨g,hg,rfl⟩:=b6.1 hp
 exact h g hg
theorem za0.okA_mono {L n' L':Nat} (hn:n<=n') (hL:L<=L') (f:za0):f.okA n L->f.okA n' L' :=
 za0.ind (P:=fun f=>f.okA n L->f.okA n' L') (fun k r ks ih hf=>by
  rw [za0.okA_eq] at hf ⊢
  exact ⟨fun e=>(hf.1 e).mono hn hL,fun g hg=>ih g hg (hf.2 g hg)⟩) f
theorem zg4 (n L:Nat) (b:Bool):(zbo b).okA n L:=by
 rw [za0.okA_eq];cases b <;> exact ⟨fun e=>absurd e (by decide),fun g hg=>by cases hg⟩
theorem okA_atom {L:Nat} {r:za6} (h:TOk n L r.t):(za0.mk 2 r []).okA n L:=by
 rw [za0.okA_eq];exact ⟨fun _=>h,fun g hg=>by cases hg⟩
theorem zfb {L:Nat} {k:Int} (hk:k=4\/k=5):∀ (fs out:List za0),(∀ g ∈ out,g.okA n L)->(∀ g ∈ fs,g.okA n L)->(zb7 k fs out).okA n L
 | [],out,h,_=>by
  unfold zb7
  match out with
  | []=>exact zg4 _ _ _
  | [g]=>exact h g (bW ..)
  | g :: q :: l=>rw [za0.okA_eq];exact ⟨fun e=>absurd e (by show k≠2;omega),h⟩
 | f :: fs,out,h,h2=>by
  rw [zb7]
  have hf:=h2 f (bW ..)
  have hfs:∀ g ∈ fs,g.okA n L:=fun g hg=>h2 g (b9 _ hg)
  split
  ·exact hf
  ·split
   ·exact zfb hk fs out h hfs
   ·split
    ·exact zfb hk fs _ (fun g hg=>(cG.1 hg).elim (h g) fun hg=>((za0.okA_eq _ _ _).1 hf).2 g hg) hfs
    ·exact zfb hk fs _ (fun g hg=>(cG.1 hg).elim (h g) fun hg=>by rw [bX.1 hg];exact hf) hfs
theorem tight_okA {L:Nat} {r:za6} (h:TOk n L r.t) (hn:n<=1000000000):(zav r).okA n (L+4):=by
 unfold zav
 split
 ·exact okA_atom (tight_tok h hn)
 ·exact zg4 _ _ _
def atR (ps:List za6) (r:za6):Int:=zd8 (fun p=>zbp p r == 0) ps 0
def gathK (k:Int) (r:za6) (gs:List (List za6->List za6)) (ps:List za6):List za6:=if k=2/\atR ps r<0 then ps++[cpR r] else gs.foldl (fun a g=>g a) ps
def za0.gath (f:za0):List za6->List za6:=f.fold fun k r _ gs ps=>gathK k r gs ps
theorem za0.gath_eq (f:za0) (ps:List za6):f.gath ps=if f.kind=2/\atR ps f.r<0 then ps++[cpR f.r] else f.kids.foldl (fun a g=>g.gath a) ps:=by
 have:=congrFun (za0.fold_eq (fun k r _ (gs:List (List za6->List za6)) ps=>gathK k r gs ps) f) ps
 refine this.trans ?_
 unfold gathK
 rw [List.foldl_map];rfl
theorem gath_len (f:za0):∀ ps,(f.gath ps).length<=ps.length+f.nodes :=
 za0.ind (P:=fun f=>∀ ps,(f.gath ps).length<=ps.length+f.nodes) (fun k r ks ih ps=>by
  rw [za0.gath_eq,za0.nodes_eq]
  split
  ·rw [cN];show ps.length+1<=ps.length+(1+_);omega
  ·have:∀ (xs:List za0),(∀ g ∈ xs,g ∈ ks)->∀ qs:List za6,(xs.foldl (fun a g=>g.gath a) qs).length<=qs.length+(xs.map za0.nodes).sum:=fun xs=>by
    induction xs with
    | nil=>intro _ qs;exact bI _
    | cons x xs ihx =>
     intro hx qs
     rw [cH,bG,cJ]
     have h1:=ihx (fun g hg=>hx g (b9 _ hg)) (x.gath qs)
     have h2:=ih x (hx x (bW ..)) qs
     omega
   have:=this ks (fun g hg=>hg) ps
   show (ks.foldl _ ps).length<=ps.length+(1+(ks.map za0.nodes).sum)
   omega) f
theorem zka (xs:List za0) (qs:List za6):(xs.foldl (fun a g=>g.gath a) qs).length<=qs.length+(xs.map za0.nodes).sum:=by
 induction xs generalizing qs with
 | nil=>exact bI _
 | cons x xs ih =>
  rw [cH,bG,cJ]
  have h1:=ih (x.gath qs)
  have h2:=gath_len x qs
  omega
theorem gath_all {P:za6->Prop} (hP:∀ r,TOk 200000000 2900 r.t->P (cpR r)) (f:za0):f.okA 200000000 2900->∀ ps,(∀ r ∈ ps,P r)->∀ r ∈ f.gath ps,P r :=
 za0.ind (P:=fun f=>f.okA 200000000 2900->∀ ps,(∀ r ∈ ps,P r)->∀ r ∈ f.gath ps,P r) (fun k r ks ih hf ps hps=>by
  obtain ⟨h1,h2⟩:=(za0.okA_eq _ _ _).1 hf
  rw [za0.gath_eq]
  split
  ·rename_i e
   intro q hq
   rcases cG.1 hq with hq | hq
   ·exact hps q hq
   ·rw [bX.1 hq];exact hP r (h1 e.1)
  ·have:∀ (xs:List za0),(∀ g ∈ xs,g ∈ ks)->∀ qs:List za6,(∀ r ∈ qs,P r)->∀ r ∈ xs.foldl (fun a g=>g.gath a) qs,P r:=fun xs=>by
    induction xs with
    | nil=>intro _ qs h;exact h
    | cons x xs ihx =>
     intro hx qs h
     rw [cH]
     exact ihx (fun g hg=>hx g (b9 _ hg)) _ (ih x (hx x (bW ..)) (h2 x (hx x (bW ..))) qs h)
   exact this ks (fun g hg=>hg) ps hps) f
theorem gath_tok (hf:f.okA 200000000 2900) (hps:∀ r ∈ ps,TOk 200000000 3000 r.t):∀ r ∈ f.gath ps,TOk 200000000 3000 r.t:=gath_all (P:=fun r=>TOk 200000000 3000 r.t) (fun r hr=>(hr.plain (by decide)).mono (by decide) (by decide)) f hf ps hps
theorem zkb {ks:List za0} {g:za0} (h:ks[j]?=some g):(ks.take (j+1)).foldl (fun a g=>g.gath a) ps=g.gath ((ks.take j).foldl (fun a g=>g.gath a) ps):=by
 rw [b8,h,List.foldl_append];rfl
theorem gath_new (h:f.kind=2) (hi:atR ps f.r<0):f.gath ps=ps++[cpR f.r]:=by rw [za0.gath_eq,if_pos ⟨h,hi⟩]
theorem zk9 (h:¬ (f.kind=2/\atR ps f.r<0)):f.gath ps=f.kids.foldl (fun a g=>g.gath a) ps:=by rw [za0.gath_eq,if_neg h]
theorem lh8_3:ElT Tryz.prog 40 32 4 64:=ElT.mk' Tryz.underlying40 _ _ rfl rfl (by kernel_rfl) (by kernel_rfl) (by kernel_rfl) (by decide) (by decide)
theorem rel_okA (h:f.okA 200000000 2900) (e:(f.kind == 2)=true):TOk 200000000 3000 f.r.t:=(((za0.okA_eq _ _ _).1 h).1 (by simpa using e)).mono (by decide) (by decide)
theorem zg9 {g:za0} (h:f.okA 200000000 2900) (hg:g ∈ f.kids):g.okA 200000000 2900:=((za0.okA_eq _ _ _).1 h).2 g hg
theorem fold_ok {ks:List za0} (h:∀ g ∈ ks,g.okA 200000000 2900) (hps:∀ r ∈ ps,TOk 200000000 3000 r.t):∀ r ∈ ks.foldl (fun a g=>g.gath a) ps,TOk 200000000 3000 r.t:=by
 induction ks generalizing ps with
 | nil=>exact hps
 | cons x xs ih=>rw [cH];exact ih (fun g hg=>h g (b9 _ hg)) (gath_tok (h x (bW ..)) hps)
theorem zgn (ks:List za0) (j:Nat) (h:ks[j]?=some x):((ks.take j).map za0.nodes).sum+x.nodes<=(ks.map za0.nodes).sum:=by
 have e:ks=ks.take j++ks.drop j:=(cP j ks).symm
 have h1:=zd6 h
 have h2:(ks.map za0.nodes).sum=((ks.take j).map za0.nodes).sum+((ks.drop j).map za0.nodes).sum:=by rw [<- zcw,cP]
 omega
theorem take_le (ks:List za0) (j:Nat):((ks.take j).map za0.nodes).sum<=(ks.map za0.nodes).sum:=by
 have h2:(ks.map za0.nodes).sum=((ks.take j).map za0.nodes).sum+((ks.drop j).map za0.nodes).sum:=by rw [<- zcw,cP]
 omega
theorem Lgather9 (ps:List za6) (f:za0) (ih:∀ g ∈ f.kids,∀ ps:List za6,(∀ r ∈ ps,TOk 200000000 3000 r.t)->ps.length+g.nodes<=1000000000000->Fn Tryz.prog 80 [(13,.row 32 4 (ps.map za6.d))] [vO 13 ps.length,(vF g)] (vO 14 (za0.gath g ps).length) [(14,.row 32 4 ((za0.gath g ps).map za6.d))]) (hf:f.okA 200000000 2900) (hps:∀ r ∈ ps,TOk 200000000 3000 r.t) (hl:ps.length+f.nodes<=1000000000000):Fn Tryz.prog 80 [(9,.row 32 4 (ps.map za6.d))] [vO 9 ps.length,(vF f)] (vO 14 (za0.gath f ps).length) [(14,.row 32 4 ((za0.gath f ps).map za6.d))]:=by
 have hnf:=za0.nodes_eq f;have lkn:=zdw f.kids;refine fB Tryz.func80 rfl 40 fun w H B a h=>Jq 20 [] [(0,vO 9 ps.length),(3,vp 20 0),(4,vW zai)] [(9,.row 32 4 (ps.map za6.d)),(20,.box (zF f))] h fun a w h=>qW ?_
 rcases bE (f.kind == 2) with hc1 | hc6
 ·refine Je 21 [(2,.cmp (op:=.eql) (m:=f.kind) (n:=2) (b:=true) .i64 hc1),(7,.call (LindexO ps f.r hps (rel_okA hf hc1) (by omega)))] [] [(16,vb (decide ((atR ps f.r)<0)))] h fun a w h=>zae ((atR ps f.r)<0) h (fun hc2 hc2'=>?_) (fun hc3 hc3'=>?_)
  ·refine Jg 21 [(4,.call (zdj f.r.t (rel_okA hf hc1) (by decide) (by decide))),(9,.g (bD 26 ([(za6.mk (za1 f.r.t) f.r.eq)].map za6.d) [(25,vG ((zT (za1 f.r.t))++[cB f.r.eq]))] kc_5 (.cons (i:=0) (OV.tmp 25 _) (.nil)) (by kernel_rfl) (by simp [za6.d]))),(10,.g (aD 27 17 26 9 21 ps [(za6.mk (za1 f.r.t) f.r.eq)] za6.d lh8_3 (by simp [za6.d])))] [16] [(4,vO 21 (ps++[(za6.mk (za1 f.r.t) f.r.eq)]).length)] [9] [(21,.row 32 4 ((ps++[(za6.mk (za1 f.r.t) f.r.eq)]).map za6.d))] h fun a w h=>qV (za5 ?_);replace h:=cvM [] [(4,vO 21 (za0.gath f ps).length)] [] [(21,.row 32 4 ((za0.gath f ps).map za6.d))] (by rw [<- show ((ps++[(za6.mk (za1 f.r.t) f.r.eq)]):List za6)=(za0.gath f ps) from (gath_new (by have:=hc1;simpa using this) (dT hc2)).symm];kernel_rfl) h;replace h:=zcr 21 14 h;refine rT (.c (.own 14 (za0.gath f ps).length)) h rfl ?_;rfl
  refine qU (za2 (qW (Jg 22 [(2,.len (za4 6 za0.d f.kids))] [3,16] [(29,(vFs f.kids)),(30,vN f.kids.length),(31,vI 0)] [20] [] h fun a w h=>qZ ?_)));replace h:=zcr 9 13 h
  refine zbz (ι:=(Nat)) (fun j=>j<=f.kids.length)
    [] (fun j=>[(0,vO 13 ((f.kids.take j).foldl (fun a g=>g.gath a) ps).length),(31,vN j)])
    [] (fun j=>[(13,.row 32 4 (((f.kids.take j).foldl (fun a g=>g.gath a) ps).map za6.d))])
    (fun j=>f.kids.length - j) 0 ?_ h ?_
  ·exact bC _
  clear h;rintro j a w hI h;have lfj:=zka (f.kids.take j) ps;have ltj:=take_le f.kids j;refine Je 22 [] [] [(32,vb (decide ((j:Int)<(f.kids.length:Int))))] h fun a w h=>qW (zae ((j:Int)<(f.kids.length:Int)) h (fun hc4 hc4'=>?_) (fun hc5 hc5'=>?_))
  ·refine qU (za2 (qW (qZ ?_)));obtain ⟨x3,hx3⟩:=gl f.kids j;refine Jg 22 [(0,.g (xD 33 29 zfx ((za8 hx3 (f:=za0.d)).trans (congrArg some (za0.d_eq x3))) (OV.tmp 31 _)))] [32] [(6,vp 22 0)] [] [(22,.box (zF x3))] h fun a w h=>Jh 23 [(2,.call (ih x3 (lM hx3) ((f.kids.take j).foldl (fun a g=>g.gath a) ps) (fold_ok (fun q hq=>zg9 hf (cK hq)) hps) (by have:=zgn f.kids j hx3;omega)))] [6] [(0,vO 14 (za0.gath x3 ((f.kids.take j).foldl (fun a g=>g.gath a) ps)).length)] [13,22] [(14,.row 32 4 ((za0.gath x3 ((f.kids.take j).foldl (fun a g=>g.gath a) ps)).map za6.d))] h fun a w h=>za7 (za2 (Jf 23 [(0,.j1 j)] [] [(31,vI ((j:Int)+1))] h fun a w h=>za2 ?_));replace h:=zcr 14 13 h;replace h:=cvM [] [(0,vO 13 ((f.kids.take (j+1)).foldl (fun a g=>g.gath a) ps).length)] [] [(13,.row 32 4 (((f.kids.take (j+1)).foldl (fun a g=>g.gath a) ps).map za6.d))] (by rw [<- show ((za0.gath x3 ((f.kids.take j).foldl (fun a g=>g.gath a) ps)):List za6)=((f.kids.take (j+1)).foldl (fun a g=>g.gath a) ps) from (zkb hx3).symm];kernel_rfl) h;refine zaa (x:=j) (y:=j+1) h ?_ ?_
   ·have:=zac hx3;show j+1<=f.kids.length;omega
   show f.kids.length - (j+1)<f.kids.length - j;have:=zac hx3;omega
  refine exA (Jp 23 [] [(4,vO 13 ((f.kids.take j).foldl (fun a g=>g.gath a) ps).length)] h fun a w h=>qV ?_);replace h:=cv (fun z_:List za6=>F.of [(4,vO 13 z_.length)] [(13,.row 32 4 (z_.map za6.d))]) (show (((f.kids.take j).foldl (fun a g=>g.gath a) ps):List za6)=(za0.gath f ps) from (by rw [bP (by omega)];exact (zk9 (fun e=>dF hc3 e.2)).symm)) (h.conv (by kernel_rfl));replace h:=zcr 13 14 h;refine rT (.c (.own 14 (za0.gath f ps).length)) h rfl ?_;rfl
 refine Je 23 [(2,.cmp (op:=.eql) (m:=f.kind) (n:=2) (b:=false) .i64 hc6)] [] [(16,vb false)] h fun a w h=>zaw h (qU (za2 (qW (Jg 23 [(2,.len (za4 6 za0.d f.kids))] [3,16] [(29,(vFs f.kids)),(30,vN f.kids.length),(31,vI 0)] [20] [] h fun a w h=>qZ ?_))));replace h:=zcr 9 13 h
 refine zbz (ι:=(Nat)) (fun j=>j<=f.kids.length)
   [] (fun j=>[(0,vO 13 ((f.kids.take j).foldl (fun a g=>g.gath a) ps).length),(31,vN j)])
   [] (fun j=>[(13,.row 32 4 (((f.kids.take j).foldl (fun a g=>g.gath a) ps).map za6.d))])
   (fun j=>f.kids.length - j) 0 ?_ h ?_
 ·exact bC _
 clear h;rintro j a w hI h;have lfj:=zka (f.kids.take j) ps;have ltj:=take_le f.kids j;refine Je 23 [] [] [(32,vb (decide ((j:Int)<(f.kids.length:Int))))] h fun a w h=>qW (zae ((j:Int)<(f.kids.length:Int)) h (fun hc7 hc7'=>?_) (fun hc8 hc8'=>?_))
 ·refine qU (za2 (qW (qZ ?_)));obtain ⟨x5,hx5⟩:=gl f.kids j;refine Jg 23 [(0,.g (xD 33 29 zfx ((za8 hx5 (f:=za0.d)).trans (congrArg some (za0.d_eq x5))) (OV.tmp 31 _)))] [32] [(6,vp 23 0)] [] [(23,.box (zF x5))] h fun a w h=>Jh 24 [(2,.call (ih x5 (lM hx5) ((f.kids.take j).foldl (fun a g=>g.gath a) ps) (fold_ok (fun q hq=>zg9 hf (cK hq)) hps) (by have:=zgn f.kids j hx5;omega)))] [6] [(0,vO 14 (za0.gath x5 ((f.kids.take j).foldl (fun a g=>g.gath a) ps)).length)] [13,23] [(14,.row 32 4 ((za0.gath x5 ((f.kids.take j).foldl (fun a g=>g.gath a) ps)).map za6.d))] h fun a w h=>za7 (za2 (Jf 24 [(0,.j1 j)] [] [(31,vI ((j:Int)+1))] h fun a w h=>za2 ?_));replace h:=zcr 14 13 h;replace h:=cvM [] [(0,vO 13 ((f.kids.take (j+1)).foldl (fun a g=>g.gath a) ps).length)] [] [(13,.row 32 4 (((f.kids.take (j+1)).foldl (fun a g=>g.gath a) ps).map za6.d))] (by rw [<- show ((za0.gath x5 ((f.kids.take j).foldl (fun a g=>g.gath a) ps)):List za6)=((f.kids.take (j+1)).foldl (fun a g=>g.gath a) ps) from (zkb hx5).symm];kernel_rfl) h;refine zaa (x:=j) (y:=j+1) h ?_ ?_
  ·have:=zac hx5;show j+1<=f.kids.length;omega
  show f.kids.length - (j+1)<f.kids.length - j;have:=zac hx5;omega
 refine exA (Jp 24 [] [(4,vO 13 ((f.kids.take j).foldl (fun a g=>g.gath a) ps).length)] h fun a w h=>qV ?_);replace h:=cv (fun z_:List za6=>F.of [(4,vO 13 z_.length)] [(13,.row 32 4 (z_.map za6.d))]) (show (((f.kids.take j).foldl (fun a g=>g.gath a) ps):List za6)=(za0.gath f ps) from (by rw [bP (by omega)];exact (zk9 (fun e=>by have:=hc6;simp at this;omega)).symm)) (h.conv (by kernel_rfl));replace h:=zcr 13 14 h;refine rT (.c (.own 14 (za0.gath f ps).length)) h rfl ?_;rfl
theorem Lgather13 (ps:List za6) (f:za0) (ih:∀ g ∈ f.kids,∀ ps:List za6,(∀ r ∈ ps,TOk 200000000 3000 r.t)->ps.length+g.nodes<=1000000000000->Fn Tryz.prog 80 [(9,.row 32 4 (ps.map za6.d))] [vO 9 ps.length,(vF g)] (vO 14 (za0.gath g ps).length) [(14,.row 32 4 ((za0.gath g ps).map za6.d))]) (hf:f.okA 200000000 2900) (hps:∀ r ∈ ps,TOk 200000000 3000 r.t) (hl:ps.length+f.nodes<=1000000000000):Fn Tryz.prog 80 [(13,.row 32 4 (ps.map za6.d))] [vO 13 ps.length,(vF f)] (vO 14 (za0.gath f ps).length) [(14,.row 32 4 ((za0.gath f ps).map za6.d))]:=by
 have hnf:=za0.nodes_eq f;have lkn:=zdw f.kids;refine fB Tryz.func80 rfl 40 fun w H B a h=>?_
 replace h:=zcr 13 9 h;refine Jg 20 [] [1] [(3,vp 20 0),(4,vW zai)] [] [(20,.box (zF f))] h fun a w h=>qW ?_
 rcases bE (f.kind == 2) with hc1 | hc6
 ·refine Je 21 [(2,.cmp (op:=.eql) (m:=f.kind) (n:=2) (b:=true) .i64 hc1),(7,.call (LindexO ps f.r hps (rel_okA hf hc1) (by omega)))] [] [(16,vb (decide ((atR ps f.r)<0)))] h fun a w h=>zae ((atR ps f.r)<0) h (fun hc2 hc2'=>?_) (fun hc3 hc3'=>?_)
  ·refine Jg 21 [(4,.call (zdj f.r.t (rel_okA hf hc1) (by decide) (by decide))),(9,.g (bD 26 ([(za6.mk (za1 f.r.t) f.r.eq)].map za6.d) [(25,vG ((zT (za1 f.r.t))++[cB f.r.eq]))] kc_5 (.cons (i:=0) (OV.tmp 25 _) (.nil)) (by kernel_rfl) (by simp [za6.d]))),(10,.g (aD 27 17 26 9 21 ps [(za6.mk (za1 f.r.t) f.r.eq)] za6.d lh8_3 (by simp [za6.d])))] [16] [(4,vO 21 (ps++[(za6.mk (za1 f.r.t) f.r.eq)]).length)] [9] [(21,.row 32 4 ((ps++[(za6.mk (za1 f.r.t) f.r.eq)]).map za6.d))] h fun a w h=>qV (za5 ?_);replace h:=cvM [] [(4,vO 21 (za0.gath f ps).length)] [] [(21,.row 32 4 ((za0.gath f ps).map za6.d))] (by rw [<- show ((ps++[(za6.mk (za1 f.r.t) f.r.eq)]):List za6)=(za0.gath f ps) from (gath_new (by have:=hc1;simpa using this) (dT hc2)).symm];kernel_rfl) h;replace h:=zcr 21 14 h;refine rT (.c (.own 14 (za0.gath f ps).length)) h rfl ?_;rfl
  refine qU (za2 (qW (Jg 22 [(2,.len (za4 6 za0.d f.kids))] [3,16] [(29,(vFs f.kids)),(30,vN f.kids.length),(31,vI 0)] [20] [] h fun a w h=>qZ ?_)))
  refine zbz (ι:=(Nat)) (fun j=>j<=f.kids.length)
    [] (fun j=>[(0,vO 9 ((f.kids.take j).foldl (fun a g=>g.gath a) ps).length),(31,vN j)])
    [] (fun j=>[(9,.row 32 4 (((f.kids.take j).foldl (fun a g=>g.gath a) ps).map za6.d))])
    (fun j=>f.kids.length - j) 0 ?_ h ?_
  ·exact bC _
  clear h;rintro j a w hI h;have lfj:=zka (f.kids.take j) ps;have ltj:=take_le f.kids j;refine Je 22 [] [] [(32,vb (decide ((j:Int)<(f.kids.length:Int))))] h fun a w h=>qW (zae ((j:Int)<(f.kids.length:Int)) h (fun hc4 hc4'=>?_) (fun hc5 hc5'=>?_))
  ·refine qU (za2 (qW (qZ ?_)));obtain ⟨x3,hx3⟩:=gl f.kids j;refine Jg 22 [(0,.g (xD 33 29 zfx ((za8 hx3 (f:=za0.d)).trans (congrArg some (za0.d_eq x3))) (OV.tmp 31 _)))] [32] [(6,vp 22 0)] [] [(22,.box (zF x3))] h fun a w h=>Jh 23 [(2,.call (ih x3 (lM hx3) ((f.kids.take j).foldl (fun a g=>g.gath a) ps) (fold_ok (fun q hq=>zg9 hf (cK hq)) hps) (by have:=zgn f.kids j hx3;omega)))] [6] [(0,vO 14 (za0.gath x3 ((f.kids.take j).foldl (fun a g=>g.gath a) ps)).length)] [9,22] [(14,.row 32 4 ((za0.gath x3 ((f.kids.take j).foldl (fun a g=>g.gath a) ps)).map za6.d))] h fun a w h=>za7 (za2 (Jf 23 [(0,.j1 j)] [] [(31,vI ((j:Int)+1))] h fun a w h=>za2 ?_));replace h:=zcr 14 9 h;replace h:=cvM [] [(0,vO 9 ((f.kids.take (j+1)).foldl (fun a g=>g.gath a) ps).length)] [] [(9,.row 32 4 (((f.kids.take (j+1)).foldl (fun a g=>g.gath a) ps).map za6.d))] (by rw [<- show ((za0.gath x3 ((f.kids.take j).foldl (fun a g=>g.gath a) ps)):List za6)=((f.kids.take (j+1)).foldl (fun a g=>g.gath a) ps) from (zkb hx3).symm];kernel_rfl) h;refine zaa (x:=j) (y:=j+1) h ?_ ?_
   ·have:=zac hx3;show j+1<=f.kids.length;omega
   show f.kids.length - (j+1)<f.kids.length - j;have:=zac hx3;omega
  refine exA (Jp 23 [] [(4,vO 9 ((f.kids.take j).foldl (fun a g=>g.gath a) ps).length)] h fun a w h=>qV ?_);replace h:=cv (fun z_:List za6=>F.of [(4,vO 9 z_.length)] [(9,.row 32 4 (z_.map za6.d))]) (show (((f.kids.take j).foldl (fun a g=>g.gath a) ps):List za6)=(za0.gath f ps) from (by rw [bP (by omega)];exact (zk9 (fun e=>dF hc3 e.2)).symm)) (h.conv (by kernel_rfl));replace h:=zcr 9 14 h;refine rT (.c (.own 14 (za0.gath f ps).length)) h rfl ?_;rfl
 refine Je 23 [(2,.cmp (op:=.eql) (m:=f.kind) (n:=2) (b:=false) .i64 hc6)] [] [(16,vb false)] h fun a w h=>zaw h (qU (za2 (qW (Jg 23 [(2,.len (za4 6 za0.d f.kids))] [3,16] [(29,(vFs f.kids)),(30,vN f.kids.length),(31,vI 0)] [20] [] h fun a w h=>qZ ?_))))
 refine zbz (ι:=(Nat)) (fun j=>j<=f.kids.length)
   [] (fun j=>[(0,vO 9 ((f.kids.take j).foldl (fun a g=>g.gath a) ps).length),(31,vN j)])
   [] (fun j=>[(9,.row 32 4 (((f.kids.take j).foldl (fun a g=>g.gath a) ps).map za6.d))])
   (fun j=>f.kids.length - j) 0 ?_ h ?_
 ·exact bC _
 clear h;rintro j a w hI h;have lfj:=zka (f.kids.take j) ps;have ltj:=take_le f.kids j;refine Je 23 [] [] [(32,vb (decide ((j:Int)<(f.kids.length:Int))))] h fun a w h=>qW (zae ((j:Int)<(f.kids.length:Int)) h (fun hc7 hc7'=>?_) (fun hc8 hc8'=>?_))
 ·refine qU (za2 (qW (qZ ?_)));obtain ⟨x5,hx5⟩:=gl f.kids j;refine Jg 23 [(0,.g (xD 33 29 zfx ((za8 hx5 (f:=za0.d)).trans (congrArg some (za0.d_eq x5))) (OV.tmp 31 _)))] [32] [(6,vp 23 0)] [] [(23,.box (zF x5))] h fun a w h=>Jh 24 [(2,.call (ih x5 (lM hx5) ((f.kids.take j).foldl (fun a g=>g.gath a) ps) (fold_ok (fun q hq=>zg9 hf (cK hq)) hps) (by have:=zgn f.kids j hx5;omega)))] [6] [(0,vO 14 (za0.gath x5 ((f.kids.take j).foldl (fun a g=>g.gath a) ps)).length)] [9,23] [(14,.row 32 4 ((za0.gath x5 ((f.kids.take j).foldl (fun a g=>g.gath a) ps)).map za6.d))] h fun a w h=>za7 (za2 (Jf 24 [(0,.j1 j)] [] [(31,vI ((j:Int)+1))] h fun a w h=>za2 ?_));replace h:=zcr 14 9 h;replace h:=cvM [] [(0,vO 9 ((f.kids.take (j+1)).foldl (fun a g=>g.gath a) ps).length)] [] [(9,.row 32 4 (((f.kids.take (j+1)).foldl (fun a g=>g.gath a) ps).map za6.d))] (by rw [<- show ((za0.gath x5 ((f.kids.take j).foldl (fun a g=>g.gath a) ps)):List za6)=((f.kids.take (j+1)).foldl (fun a g=>g.gath a) ps) from (zkb hx5).symm];kernel_rfl) h;refine zaa (x:=j) (y:=j+1) h ?_ ?_
  ·have:=zac hx5;show j+1<=f.kids.length;omega
  show f.kids.length - (j+1)<f.kids.length - j;have:=zac hx5;omega
 refine exA (Jp 24 [] [(4,vO 9 ((f.kids.take j).foldl (fun a g=>g.gath a) ps).length)] h fun a w h=>qV ?_);replace h:=cv (fun z_:List za6=>F.of [(4,vO 9 z_.length)] [(9,.row 32 4 (z_.map za6.d))]) (show (((f.kids.take j).foldl (fun a g=>g.gath a) ps):List za6)=(za0.gath f ps) from (by rw [bP (by omega)];exact (zk9 (fun e=>by have:=hc6;simp at this;omega)).symm)) (h.conv (by kernel_rfl));replace h:=zcr 9 14 h;refine rT (.c (.own 14 (za0.gath f ps).length)) h rfl ?_;rfl
theorem Lgather (f:za0):f.okA 200000000 2900->(∀ ps:List za6,(∀ r ∈ ps,TOk 200000000 3000 r.t)->ps.length+f.nodes<=1000000000000->Fn Tryz.prog 80 [(9,.row 32 4 (ps.map za6.d))] [vO 9 ps.length,(vF f)] (vO 14 (za0.gath f ps).length) [(14,.row 32 4 ((za0.gath f ps).map za6.d))])/\(∀ ps:List za6,(∀ r ∈ ps,TOk 200000000 3000 r.t)->ps.length+f.nodes<=1000000000000->Fn Tryz.prog 80 [(13,.row 32 4 (ps.map za6.d))] [vO 13 ps.length,(vF f)] (vO 14 (za0.gath f ps).length) [(14,.row 32 4 ((za0.gath f ps).map za6.d))]) :=
 za0.ind (P:=fun f=>f.okA 200000000 2900->(∀ ps:List za6,(∀ r ∈ ps,TOk 200000000 3000 r.t)->ps.length+f.nodes<=1000000000000->Fn Tryz.prog 80 [(9,.row 32 4 (ps.map za6.d))] [vO 9 ps.length,(vF f)] (vO 14 (za0.gath f ps).length) [(14,.row 32 4 ((za0.gath f ps).map za6.d))])/\(∀ ps:List za6,(∀ r ∈ ps,TOk 200000000 3000 r.t)->ps.length+f.nodes<=1000000000000->Fn Tryz.prog 80 [(13,.row 32 4 (ps.map za6.d))] [vO 13 ps.length,(vF f)] (vO 14 (za0.gath f ps).length) [(14,.row 32 4 ((za0.gath f ps).map za6.d))])) (fun k r ks ih hf=>⟨fun ps hps hl=>Lgather9 ps ⟨k,r,ks⟩ (fun g hg=>(ih g hg (zg9 hf hg)).2) hf hps hl,fun ps hps hl=>Lgather13 ps ⟨k,r,ks⟩ (fun g hg=>(ih g hg (zg9 hf hg)).1) hf hps hl⟩) f
def gathT (ps:List za6) (f:za0):List za6:=f.gath (ps.map cpR)
theorem cps_tok (h:∀ r ∈ ps,TOk 200000000 2900 r.t):∀ r ∈ ps.map cpR,TOk 200000000 3000 r.t:=fun r hr=>by
 obtain ⟨q,hq,rfl⟩:=b6.1 hr
 exact ((h q hq).plain (by decide)).mono (by decide) (by decide)
theorem LGather (ps:List za6) (f:za0) (hps:∀ r ∈ ps,TOk 200000000 2900 r.t) (hf:f.okA 200000000 2900) (hl:ps.length+f.nodes<=1000000000000):Fn Tryz.prog 48 [] [(vRs ps),(vF f)] (vRs (gathT ps f)) []:=by
 refine fB Tryz.func48 rfl 27 fun w H B a h=>Jq 20 [] [(0,(vRs ps)),(3,vp 20 0),(4,vW zai)] [(20,.box (zF f))] h fun a w h=>Je 21 [] [] [(5,vW zai)] h fun a w h=>qW (Je 21 [(1,.len (za4 4 za6.d ps))] [0] [(8,(vRs ps)),(9,vN ps.length),(10,vI 0)] h fun a w h=>qZ ?_)
 replace h:=zep 5 0 21 4 32 (vW zai) h
 refine zbz (ι:=(Nat)) (fun j=>j<=ps.length)
   [] (fun j=>[(5,vO 21 ((ps.take j).map cpR).length),(10,vN j)])
   [] (fun j=>[(21,.row 32 4 (((ps.take j).map cpR).map za6.d))])
   (fun j=>ps.length - j) 0 ?_ h ?_
 ·exact bC _
 clear h;rintro j a w hI h;have lmj:((ps.take j).map cpR).length<=j:=by rw [bF,bS];omega
 refine Je 22 [] [] [(11,vb (decide ((j:Int)<(ps.length:Int))))] h fun a w h=>qW (zae ((j:Int)<(ps.length:Int)) h (fun hc1 hc1'=>?_) (fun hc2 hc2'=>?_))
 ·refine qU (za2 (qW (qZ ?_)));obtain ⟨x1,hx1⟩:=gl ps j;refine Jg 22 [(0,.g (xD 12 8 kc_3 (za8 hx1 (f:=za6.d)) (OV.tmp 10 _)))] [11] [(7,vp 22 0)] [] [(22,.box (zR_ x1))] h fun a w h=>Jh 23 [(3,.call (zdj x1.t (hps x1 (lM hx1)) (by decide) (by decide))),(7,.g (bD 21 ([(za6.mk (za1 x1.t) x1.eq)].map za6.d) [(20,vG ((zT (za1 x1.t))++[cB x1.eq]))] kc_5 (.cons (i:=0) (OV.tmp 20 _) (.nil)) (by kernel_rfl) (by simp [za6.d]))),(8,.g (aD 22 14 21 21 23 ((ps.take j).map cpR) [(za6.mk (za1 x1.t) x1.eq)] za6.d lh8_3 (by simp [za6.d])))] [7] [(5,vO 23 (((ps.take j).map cpR)++[(za6.mk (za1 x1.t) x1.eq)]).length)] [21,22] [(23,.row 32 4 ((((ps.take j).map cpR)++[(za6.mk (za1 x1.t) x1.eq)]).map za6.d))] h fun a w h=>za7 (za2 (Jf 24 [(0,.j1 j)] [] [(10,vI ((j:Int)+1))] h fun a w h=>za2 ?_));rw [show ((((ps.take j).map cpR)++[(za6.mk (za1 x1.t) x1.eq)]):List za6)=((ps.take (j+1)).map cpR) from (ze6 hx1)] at h;replace h:=zcr 23 21 h;refine zaa (x:=j) (y:=j+1) h ?_ ?_
  ·have:=zac hx1;show j+1<=ps.length;omega
  show ps.length - (j+1)<ps.length - j;have:=zac hx1;omega
 refine exA ?_;rw [show (((ps.take j).map cpR):List za6)=(ps.map cpR) from (by rw [bP (by omega)])] at h;replace h:=zcr 21 9 h;refine Jq 24 [(2,.call ((Lgather f hf).1 (ps.map cpR) (cps_tok hps) (by rw [bF];exact hl)))] [(4,vO 14 (gathT ps f).length)] [(14,.row 32 4 ((gathT ps f).map za6.d))] h fun a w h=>qV ?_;replace h:=zh5 14 4 32 ((gathT ps f).map za6.d) h [(gathT ps f).length] ⟨by first | exact (bF _).symm | (simp;done) | (simp;omega),trivial⟩;refine rT (.c (cRs (gathT ps f))) h rfl ?_;rfl
def zan (n:Int):za6:=⟨⟨[⟨0,ZI.of 1⟩],ZI.of (0 - n)⟩,false⟩
def clZ (z:ZI):ZI:=ZI.of z.val
def cloneS (x:StD):StD:=⟨x.locs,x.vals.map clZ⟩
def st0:StD:=⟨[],[]⟩
def canAt (s:zb3) (x:StD) (c:zbe) (v:Nat):Bool:=if freeAt c v=true then !((zel s v).is_ && decide (zbx (zel s v).lo.val (zel s v).hi.val>0)) else withinB (zel s v) (newAt x c v)
def canC (s:zb3) (x:StD) (c:zbe):Bool:=enabled s x c && allN s.vars.length (canAt s x c)
def can (s:zb3) (x:StD) (i:Int):Bool:=match zhm s i with | none=>false | some c=>canC s x c
def stuck (s:zb3) (x:StD):Bool:=allN s.acts.length (fun i=>!can s x (i:Int)) && fits s x
def cntFree (c:zbe):Nat->Nat
  | 0=>0
  | v+1=>cntFree c v+if freeAt c v=true then 1 else 0
def newV (x:StD) (c:zbe) (picks:List ZI) (v:Nat):ZI:=if freeAt c v=true then (match picks[cntFree c v]? with | some p=>ZI.of p.val | none=>zim) else newAt x c v
def outS (s:zb3) (x:StD) (c:zbe) (picks:List ZI):StD:=⟨x.locs.set c.proc.toNat c.to_,(List.range s.vars.length).map (newV x c picks)⟩
def goC (s:zb3) (x:StD) (c:zbe) (picks:List ZI):StD × Bool:=if enabled s x c=true/\fits s (outS s x c picks)=true then (outS s x c picks,true) else (st0,false)
def goS (s:zb3) (x:StD) (i:Int) (picks:List ZI):StD × Bool:=if i=-1/\stuck s x=true then (cloneS x,true) else match zhm s i with | none=>(st0,false) | some c=>goC s x c picks
def picksOf (y:StD) (c:zbe):Nat->List ZI
  | 0=>[]
  | v+1=>if freeAt c v=true then picksOf y c v++[(y.vals[v]?).getD zim] else picksOf y c v
def leadsC (s:zb3) (x:StD) (c:zbe) (y:StD):Bool:=(enabled s x c && fits s y) && ((goC s x c (picksOf y c s.vars.length)).2 && sameS y (goC s x c (picksOf y c s.vars.length)).1)
def leads (s:zb3) (x:StD) (i:Int) (y:StD):Bool:=if i=-1 then stuck s x && sameS x y else match zhm s i with | none=>false | some c=>leadsC s x c y
structure RunOk (M:Nat) (r:RunD):Prop where
  len:r.stem.length+r.cycle.length<=20
  stem:∀ x ∈ r.stem,StOk M x
  cycle:∀ x ∈ r.cycle,StOk M x
theorem RunOk.all {r:RunD} (h:RunOk M r):∀ x ∈ r.stem++r.cycle,StOk M x:=fun x hx=>(cG.1 hx).elim (h.stem x) (h.cycle x)
def nxt (r:RunD) (i:Nat):StD:=if i+1<(r.stem++r.cycle).length then ((r.stem++r.cycle)[i+1]?).getD st0 else (r.cycle[0]?).getD st0
def stepOk (s:zb3) (r:RunD) (i:Nat):Bool:=leads s (((r.stem++r.cycle)[i]?).getD st0) ((r.acts[i]?).getD 0) (nxt r i)
def right (s:zb3) (r:RunD):Bool:=decide (r.cycle.length≠0/\r.acts.length=(r.stem++r.cycle).length) && (first s (((r.stem++r.cycle)[0]?).getD st0) && allN (r.stem++r.cycle).length (stepOk s r))
theorem there_lo {m:zap} (h1:decide (m.v<0)=true):(!zhs s m)=true:=by
 have:=of_decide_eq_true h1;unfold zhs;rw [decide_eq_false (by omega)];rfl
def runAt (r:RunD) (i:Nat):StD:=((r.stem++r.cycle)[i]?).getD st0
theorem all2c {R:α->β->Prop} {x:α} {xs:List α} {us:List β} (h:zb8 R (x :: xs) us):∃ u vs,us=u :: vs/\R x u/\zb8 R xs vs:=by
 cases us with
 | nil=>exact h.elim
 | cons u us=>exact ⟨u,us,rfl,h⟩
theorem Fn.agg6 {P:Program} {k:FuncId} {ps qs:List (Nat × L)} {es:Nat} {c1 c2 c3 c4 c5:C} {x y res:V} (h:Fn P k ps [vG [c1,c2,c3,c4,c5,.d (.sl es [])],x,y] res qs):Fn P k ps [vG [c1,c2,c3,c4,c5,nCl],x,y] res qs:=by
 intro w H B vals pre
 obtain ⟨h1,h2,h3,h4,h5,h0⟩:=pre
 cases vals with
 | nil=>exact h5.elim
 | cons v vs =>
  obtain ⟨⟨us,rfl,ha⟩,ht⟩:=h5
  obtain ⟨u1,us,rfl,a1,ha⟩:=all2c ha
  obtain ⟨u2,us,rfl,a2,ha⟩:=all2c ha
  obtain ⟨u3,us,rfl,a3,ha⟩:=all2c ha
  obtain ⟨u4,us,rfl,a4,ha⟩:=all2c ha
  obtain ⟨u5,us,rfl,a5,ha⟩:=all2c ha
  obtain ⟨u6,us,rfl,a6,hz⟩:=all2c ha
  have h6:u6=zai:=VR.rawI (B:=B) a6
  subst h6
  exact h w H B _ ⟨h1,h2,h3,h4,⟨⟨_,rfl,a1,a2,a3,a4,a5,DR.nil _ _ _ (fun _=>rfl) (bC _),hz⟩,ht⟩,h0⟩
def fewB (L:Nat) (b:zao):Bool:=decide ((b.lo.abs.length:Int)<=(L:Int)) && decide ((b.hi.abs.length:Int)<=(L:Int))
def formT (t:zaf):za0:=⟨2,⟨t,false⟩,[]⟩
def fewM (L:Nat) (m:zap):Bool:=zke (formT m.t) 5 L
def fewA (L:Nat) (c:zbe):Bool:=(zke c.guard 30 L && decide ((c.moves.length:Int)<=20)) && c.moves.all (fewM L)
def zbu (L:Nat) (s:zb3):Bool:=(decide ((s.vars.length:Int)<=8/\(s.bounds.length:Int)<=20/\(s.procs.length:Int)<=6/\(s.acts.length:Int)<=20) && zke s.init 30 L) && (s.bounds.all (fewB L) && s.acts.all (fewA L))
structure SysRd (s:zb3):Prop where
  init:s.init.lb
  bnd:∀ b ∈ s.bounds,Lb b.lo.abs/\Lb b.hi.abs
  act:∀ c ∈ s.acts,c.guard.lb/\∀ m ∈ c.moves,TLb m.t
  len:s.bounds.length<=9223372036854775807/\s.acts.length<=9223372036854775807
  mlen:∀ c ∈ s.acts,c.moves.length<=9223372036854775807
def StRd (x:StD):Prop:=(∀ z ∈ x.vals,Lb z.abs)/\x.vals.length<=9223372036854775807
theorem fewF_ok {most:Int} {L:Nat} (h:zke f most L=true) (hl:f.lb):f.ok L:=by unfold zke at h;rw [cL] at h;exact za0.few_ok f h.2 hl
theorem formT_lb (h:TLb t):(formT t).lb:=(za0.lb_eq _).2 ⟨⟨h,bC _⟩,fun g hg=>(by cases hg)⟩
theorem formT_ok {L:Nat} (h:(formT t).ok L):TOk 20 L t:=((za0.ok_eq L _).1 h).1 rfl
theorem few_sys {L:Nat} (h:zbu L s=true) (hr:SysRd s):zcg L s:=by
 unfold zbu at h
 simp only [cL,decide_eq_true_eq,List.all_eq_true] at h
 obtain ⟨⟨⟨h1,h2,h3,h4⟩,h5⟩,h6,h7⟩:=h
 refine ⟨by omega,by omega,by omega,by omega,fun b hb=>?_,⟨hr.init,fewF_ok h5 hr.init⟩,fun c hc=>?_⟩
 ·have:=h6 b hb;unfold fewB at this;simp only [cL,decide_eq_true_eq] at this
  exact ⟨⟨(hr.bnd b hb).1,by omega⟩,(hr.bnd b hb).2,by omega⟩
 ·have:=h7 c hc;unfold fewA at this;simp only [cL,decide_eq_true_eq,List.all_eq_true] at this
  exact ⟨⟨(hr.act c hc).1,fewF_ok this.1.1 (hr.act c hc).1⟩,by omega,fun m hm=>formT_ok (fewF_ok (this.2 m hm) (formT_lb ((hr.act c hc).2 m hm)))⟩
theorem SFewSys (s:zb3) (L:Nat) (hr:SysRd s):Fn Tryz.prog 30 [] [vG (zfu s),vN L] (vb (zbu L s)) []:=by
 have lb1:=hr.len.1;have lb2:=hr.len.2;refine fB Tryz.func30 rfl 118 fun w H B a h=>Jq 0 [] [(1,vN L),(2,vp 0 0),(4,vb false)] [(0,.box (zfu s))] h fun a w h=>qW ?_
 rcases bE (decide ((s.vars.length:Int)>8)) with hc1 | hc2
 ·have hc1':=dT hc1;refine Je 1 [(2,.len (za4 1 zew s.vars)),(3,.cmp (op:=.gtr) (m:=(s.vars.length:Int)) (n:=8) (b:=true) .i64 hc1)] [] [(36,vb true)] h fun a w h=>cS true h (fun _=>?_) nofun
  refine Je 1 [] [36] [] h fun a w h=>qV (za5 (rT (.c (cB false)) h rfl ?_));have hz:zbu L s=false:=by unfold zbu;rw [decide_eq_false (p:=(s.vars.length:Int)<=8/\(s.bounds.length:Int)<=20/\(s.procs.length:Int)<=6/\(s.acts.length:Int)<=20) (by have:=dT hc1;omega)];rfl
  rw [hz];try rfl
 have hc2':=dF hc2
 rcases bE (decide ((s.bounds.length:Int)>20)) with hc3 | hc4
 ·have hc3':=dT hc3;refine Je 1 [(2,.len (za4 1 zew s.vars)),(3,.cmp (op:=.gtr) (m:=(s.vars.length:Int)) (n:=8) (b:=false) .i64 hc2),(7,.len (za4 5 zao.d s.bounds)),(8,.cmp (op:=.gtr) (m:=(s.bounds.length:Int)) (n:=20) (b:=true) .i64 hc3)] [] [(36,vb true)] h fun a w h=>cS true h (fun _=>?_) nofun
  refine Je 1 [] [36] [] h fun a w h=>qV (za5 (rT (.c (cB false)) h rfl ?_));have hz:zbu L s=false:=by unfold zbu;rw [decide_eq_false (p:=(s.vars.length:Int)<=8/\(s.bounds.length:Int)<=20/\(s.procs.length:Int)<=6/\(s.acts.length:Int)<=20) (by have:=dT hc3;omega)];rfl
  rw [hz];try rfl
 have hc4':=dF hc4
 rcases bE (decide ((s.procs.length:Int)>6)) with hc5 | hc6
 ·have hc5':=dT hc5;refine Je 1 [(2,.len (za4 1 zew s.vars)),(3,.cmp (op:=.gtr) (m:=(s.vars.length:Int)) (n:=8) (b:=false) .i64 hc2),(7,.len (za4 5 zao.d s.bounds)),(8,.cmp (op:=.gtr) (m:=(s.bounds.length:Int)) (n:=20) (b:=false) .i64 hc4),(13,.len (za4 3 zbv.d s.procs)),(14,.cmp (op:=.gtr) (m:=(s.procs.length:Int)) (n:=6) (b:=true) .i64 hc5)] [] [(36,vb true)] h fun a w h=>cS true h (fun _=>?_) nofun
  refine Je 1 [] [36] [] h fun a w h=>qV (za5 (rT (.c (cB false)) h rfl ?_));have hz:zbu L s=false:=by unfold zbu;rw [decide_eq_false (p:=(s.vars.length:Int)<=8/\(s.bounds.length:Int)<=20/\(s.procs.length:Int)<=6/\(s.acts.length:Int)<=20) (by have:=dT hc5;omega)];rfl
  rw [hz];try rfl
 have hc6':=dF hc6
 rcases bE (decide ((s.acts.length:Int)>20)) with hc7 | hc8
 ·have hc7':=dT hc7;refine Je 1 [(2,.len (za4 1 zew s.vars)),(3,.cmp (op:=.gtr) (m:=(s.vars.length:Int)) (n:=8) (b:=false) .i64 hc2),(7,.len (za4 5 zao.d s.bounds)),(8,.cmp (op:=.gtr) (m:=(s.bounds.length:Int)) (n:=20) (b:=false) .i64 hc4),(13,.len (za4 3 zbv.d s.procs)),(14,.cmp (op:=.gtr) (m:=(s.procs.length:Int)) (n:=6) (b:=false) .i64 hc6),(19,.len (za4 10 zbe.d s.acts)),(20,.cmp (op:=.gtr) (m:=(s.acts.length:Int)) (n:=20) (b:=true) .i64 hc7)] [] [(36,vb true)] h fun a w h=>cS true h (fun _=>?_) nofun
  refine Je 1 [] [36] [] h fun a w h=>qV (za5 (rT (.c (cB false)) h rfl ?_));have hz:zbu L s=false:=by unfold zbu;rw [decide_eq_false (p:=(s.vars.length:Int)<=8/\(s.bounds.length:Int)<=20/\(s.procs.length:Int)<=6/\(s.acts.length:Int)<=20) (by have:=dT hc7;omega)];rfl
  rw [hz];try rfl
 have hc8':=dF hc8;refine Je 1 [(2,.len (za4 1 zew s.vars)),(3,.cmp (op:=.gtr) (m:=(s.vars.length:Int)) (n:=8) (b:=false) .i64 hc2),(7,.len (za4 5 zao.d s.bounds)),(8,.cmp (op:=.gtr) (m:=(s.bounds.length:Int)) (n:=20) (b:=false) .i64 hc4),(13,.len (za4 3 zbv.d s.procs)),(14,.cmp (op:=.gtr) (m:=(s.procs.length:Int)) (n:=6) (b:=false) .i64 hc6),(19,.len (za4 10 zbe.d s.acts)),(20,.cmp (op:=.gtr) (m:=(s.acts.length:Int)) (n:=20) (b:=false) .i64 hc8),(26,.call (SFewF s.init 30 (L:Int) hr.init (by decide) (by decide)))] [] [(36,vb (!(zke s.init 30 L)))] h fun a w h=>cS (!(zke s.init 30 L)) h (fun hc9=>?_) (fun hc10=>?_)
 ·refine Je 1 [] [36] [] h fun a w h=>qV (za5 (rT (.c (cB false)) h rfl ?_));have hz:zbu L s=false:=by unfold zbu;rw [decide_eq_true (p:=(s.vars.length:Int)<=8/\(s.bounds.length:Int)<=20/\(s.procs.length:Int)<=6/\(s.acts.length:Int)<=20) (by have:=dF hc2;have:=dF hc4;have:=dF hc6;have:=dF hc8;omega),bJ];rw [(show (zke s.init 30 L)=false from by simpa using hc9)];rfl
  rw [hz];try rfl
 refine qU (za2 (qW (Je 1 [] [36] [(5,vI 0)] h fun a w h=>qZ ?_)))
 refine zbz (ι:=(Nat)) (fun j=>j<=s.bounds.length/\(s.bounds.take j).all (fewB L)=true)
   [4] (fun j=>[(5,vN j)])
   [] (fun j=>[])
   (fun j=>s.bounds.length - j) 0 ?_ h ?_
 ·exact ⟨bC _,rfl⟩
 clear h;rintro j a w hI h;obtain ⟨hI1,hI2⟩:=hI;refine qW (Je 1 [(3,.len (za4 5 zao.d s.bounds))] [] [(41,vb (decide ((j:Int)<(s.bounds.length:Int))))] h fun a w h=>zae ((j:Int)<(s.bounds.length:Int)) h (fun hc11 hc11'=>?_) (fun hc16 hc16'=>?_))
 ·refine qU (za2 (qW (qZ ?_)));obtain ⟨x2,hx2⟩:=gl s.bounds j
  rcases bE (decide ((x2.lo.abs.length:Int)>(L:Int))) with hc12 | hc13
  ·have hc12':=dT hc12;refine Je 1 [(3,.g (xD 47 45 kf_0 (za8 hx2 (f:=zao.d)) (OV.tmp 46 _))),(7,.len (zey x2.lo.abs)),(9,.cmp (op:=.gtr) (m:=(x2.lo.abs.length:Int)) (n:=(L:Int)) (b:=true) .i64 hc12)] [41] [(65,vb true)] h fun a w h=>cS true h (fun _=>?_) nofun
   refine Je 1 [] [65] [(4,vb false)] h fun a w h=>qV (za9 (za5 (za5 (za9 (za5 (rT (.c (cB false)) h rfl ?_))))));have hz:zbu L s=false:=by unfold zbu;rw [decide_eq_true (p:=(s.vars.length:Int)<=8/\(s.bounds.length:Int)<=20/\(s.procs.length:Int)<=6/\(s.acts.length:Int)<=20) (by have:=dF hc2;have:=dF hc4;have:=dF hc6;have:=dF hc8;omega),bJ];rw [(show (zke s.init 30 L)=true from by simpa using hc10)];rw [zc9 hx2 (show fewB L x2=false from (by unfold fewB;rw [decide_eq_false (by have:=dT hc12;omega)];rfl))];rfl
   rw [hz];try rfl
  have hc13':=dF hc13;refine Je 1 [(3,.g (xD 47 45 kf_0 (za8 hx2 (f:=zao.d)) (OV.tmp 46 _))),(7,.len (zey x2.lo.abs)),(9,.cmp (op:=.gtr) (m:=(x2.lo.abs.length:Int)) (n:=(L:Int)) (b:=false) .i64 hc13),(14,.g (xD 58 56 kf_0 (za8 hx2 (f:=zao.d)) (OV.tmp 57 _))),(18,.len (zey x2.hi.abs))] [41] [(65,vb (decide ((x2.hi.abs.length:Int)>(L:Int))))] h fun a w h=>zae ((x2.hi.abs.length:Int)>(L:Int)) h (fun hc14 hc14'=>?_) (fun hc15 hc15'=>?_)
  ·refine Je 1 [] [65] [(4,vb false)] h fun a w h=>qV (za9 (za5 (za5 (za9 (za5 (rT (.c (cB false)) h rfl ?_))))));have hz:zbu L s=false:=by unfold zbu;rw [decide_eq_true (p:=(s.vars.length:Int)<=8/\(s.bounds.length:Int)<=20/\(s.procs.length:Int)<=6/\(s.acts.length:Int)<=20) (by have:=dF hc2;have:=dF hc4;have:=dF hc6;have:=dF hc8;omega),bJ];rw [(show (zke s.init 30 L)=true from by simpa using hc10)];rw [zc9 hx2 (show fewB L x2=false from (by unfold fewB;rw [decide_eq_false (p:=(x2.hi.abs.length:Int)<=(L:Int)) (by have:=dT hc14;omega),Bool.and_false]))];rfl
   rw [hz];try rfl
  refine qU (za7 (za2 (Jf 1 [(1,.j1 j)] [65] [(5,vI ((j:Int)+1))] h fun a w h=>za2 (zaa (x:=j) (y:=j+1) h ?_ ?_))))
  ·exact ⟨by have:=zac hx2;omega,ze8 hx2 hI2 (by unfold fewB;rw [decide_eq_true (by have:=dF hc13;omega),decide_eq_true (by have:=dF hc15;omega)];rfl)⟩
  show s.bounds.length - (j+1)<s.bounds.length - j;have:=zac hx2;omega
 refine exA (qW (Je 1 [] [5,41] [(6,vI 0)] h fun a w h=>qZ ?_))
 refine zbz (ι:=(Nat)) (fun q=>q<=s.acts.length/\(s.acts.take q).all (fewA L)=true)
   [] (fun q=>[(6,vN q)])
   [] (fun q=>[])
   (fun q=>s.acts.length - q) 0 ?_ h ?_
 ·exact ⟨bC _,rfl⟩
 clear h;rintro q a w hI h;obtain ⟨hQ1,hQ2⟩:=hI;refine qW (Je 1 [(3,.len (za4 10 zbe.d s.acts))] [] [(70,vb (decide ((q:Int)<(s.acts.length:Int))))] h fun a w h=>zae ((q:Int)<(s.acts.length:Int)) h (fun hc17 hc17'=>?_) (fun hc26 hc26'=>?_))
 ·refine qU (za2 (qW (qZ (qW ?_))));obtain ⟨x3,hx3⟩:=gl s.acts q;have lmx3:=hr.mlen x3 (lM hx3)
  rcases bE (zke x3.guard 30 L) with hc18 | hc25
  ·refine Je 1 [(3,.g (xD 76 74 ki_1 (za8 hx3 (f:=zbe.d)) (OV.tmp 75 _))),(7,.call (Fn.cast (SFewF x3.guard 30 (L:Int) (hr.act x3 (lM hx3)).1 (by decide) (by decide)) (congrArg vb hc18))),(13,.g (xD 86 84 ki_1 (za8 hx3 (f:=zbe.d)) (OV.tmp 85 _))),(16,.len (za4 5 zap.d x3.moves))] [70] [(91,vb (decide ((x3.moves.length:Int)>20)))] h fun a w h=>zae ((x3.moves.length:Int)>20) h (fun hc19 hc19'=>?_) (fun hc20 hc20'=>?_)
   ·refine Je 1 [] [91] [(4,vb false)] h fun a w h=>qV (za5 (za9 (za5 (za5 (za9 (za5 (rT (.c (cB false)) h rfl ?_)))))));have hz:zbu L s=false:=by unfold zbu;rw [decide_eq_true (p:=(s.vars.length:Int)<=8/\(s.bounds.length:Int)<=20/\(s.procs.length:Int)<=6/\(s.acts.length:Int)<=20) (by have:=dF hc2;have:=dF hc4;have:=dF hc6;have:=dF hc8;omega),bJ];rw [(show (zke s.init 30 L)=true from by simpa using hc10)];rw [ze2 (dF hc16) hI2];rw [zc9 hx3 (show fewA L x3=false from (by unfold fewA;rw [decide_eq_false (p:=(x3.moves.length:Int)<=20) (by have:=dT hc19;omega),Bool.and_false];rfl))];rfl
    rw [hz];try rfl
   refine qU (za2 (Je 1 [] [91] [(7,vI 0)] h fun a w h=>qZ ?_))
   refine zbz (ι:=(Nat)) (fun i=>i<=x3.moves.length/\(x3.moves.take i).all (fewM L)=true)
     [] (fun i=>[(7,vN i)])
     [] (fun i=>[])
     (fun i=>x3.moves.length - i) 0 ?_ h ?_
   ·exact ⟨bC _,rfl⟩
   clear h;rintro i a w hI h;obtain ⟨hJ1,hJ2⟩:=hI;refine qW (Je 1 [(4,.g (xD 96 94 ki_1 (za8 hx3 (f:=zbe.d)) (OV.tmp 95 _))),(7,.len (za4 5 zap.d x3.moves))] [] [(100,vb (decide ((i:Int)<(x3.moves.length:Int))))] h fun a w h=>zae ((i:Int)<(x3.moves.length:Int)) h (fun hc21 hc21'=>?_) (fun hc24 hc24'=>?_))
   ·refine qU (za2 (qW (qZ ?_)));obtain ⟨x6,hx6⟩:=gl x3.moves i;refine Je 1 [(3,.g (xD 106 104 ki_1 (za8 hx3 (f:=zbe.d)) (OV.tmp 105 _))),(7,.g (xD 110 108 ki_2 (za8 hx6 (f:=zap.d)) (OV.tmp 109 _))),(13,.call (Fn.agg6 (SFewF (formT x6.t) 5 (L:Int) (formT_lb ((hr.act x3 (lM hx3)).2 x6 (lM hx6))) (by decide) (by decide))))] [100] [(117,vb (!(zke (formT x6.t) 5 L)))] h fun a w h=>cS (!(zke (formT x6.t) 5 L)) h (fun hc22=>?_) (fun hc23=>?_)
    ·refine Je 1 [] [117] [(4,vb false)] h fun a w h=>qV (za9 (za5 (za5 (za9 (za9 (za5 (za5 (za9 (za5 (rT (.c (cB false)) h rfl ?_))))))))));have hz:zbu L s=false:=by unfold zbu;rw [decide_eq_true (p:=(s.vars.length:Int)<=8/\(s.bounds.length:Int)<=20/\(s.procs.length:Int)<=6/\(s.acts.length:Int)<=20) (by have:=dF hc2;have:=dF hc4;have:=dF hc6;have:=dF hc8;omega),bJ];rw [(show (zke s.init 30 L)=true from by simpa using hc10)];rw [ze2 (dF hc16) hI2];rw [zc9 hx3 (show fewA L x3=false from (by unfold fewA;rw [hc18,decide_eq_true (p:=(x3.moves.length:Int)<=20) (by have:=dF hc20;omega),bJ,bJ];exact zc9 hx6 (show fewM L x6=false from (show (zke (formT x6.t) 5 L)=false from by simpa using hc22))))];rfl
     rw [hz];try rfl
    refine qU (za7 (za2 (Jf 1 [(1,.j1 i)] [117] [(7,vI ((i:Int)+1))] h fun a w h=>za2 (zaa (x:=i) (y:=i+1) h ?_ ?_))))
    ·have:=zac hx6;exact ⟨by omega,ze8 hx6 hJ2 (show fewM L x6=true from (show (zke (formT x6.t) 5 L)=true from by simpa using hc23))⟩
    show x3.moves.length - (i+1)<x3.moves.length - i;have:=zac hx6;omega
   refine wp_exit (zc2 (zc2 (zau (za7 (za2 (Jf 1 [(1,.add .i64 (m:=(q:Int)) (n:=1) i6)] [7,100] [(6,vI ((q:Int)+1))] h fun a w h=>za2 (zaa (x:=q) (y:=q+1) h ?_ ?_)))))))
   ·have:=zac hx3;exact ⟨by omega,ze8 hx3 hQ2 (by unfold fewA;rw [hc18,decide_eq_true (p:=(x3.moves.length:Int)<=20) (by have:=dF hc20;omega),bJ,bJ];exact ze2 (dF hc24) hJ2)⟩
   show s.acts.length - (q+1)<s.acts.length - q;have:=zac hx3;omega
  refine Je 1 [(3,.g (xD 76 74 ki_1 (za8 hx3 (f:=zbe.d)) (OV.tmp 75 _))),(7,.call (Fn.cast (SFewF x3.guard 30 (L:Int) (hr.act x3 (lM hx3)).1 (by decide) (by decide)) (congrArg vb hc25)))] [70] [(91,vb true)] h fun a w h=>cS true h (fun _=>?_) nofun
  refine Je 1 [] [91] [(4,vb false)] h fun a w h=>qV (za5 (za9 (za5 (za5 (za9 (za5 (rT (.c (cB false)) h rfl ?_)))))));have hz:zbu L s=false:=by unfold zbu;rw [decide_eq_true (p:=(s.vars.length:Int)<=8/\(s.bounds.length:Int)<=20/\(s.procs.length:Int)<=6/\(s.acts.length:Int)<=20) (by have:=dF hc2;have:=dF hc4;have:=dF hc6;have:=dF hc8;omega),bJ];rw [(show (zke s.init 30 L)=true from by simpa using hc10)];rw [ze2 (dF hc16) hI2];rw [zc9 hx3 (show fewA L x3=false from (by unfold fewA;rw [hc25];rfl))];rfl
  rw [hz];try rfl
 refine exA (Jq 1 [] [(4,vb true)] [] h fun a w h=>qV (rT (.c (cB true)) h rfl ?_));have hz:zbu L s=true:=by unfold zbu;rw [decide_eq_true (p:=(s.vars.length:Int)<=8/\(s.bounds.length:Int)<=20/\(s.procs.length:Int)<=6/\(s.acts.length:Int)<=20) (by have:=dF hc2;have:=dF hc4;have:=dF hc6;have:=dF hc8;omega),bJ];rw [(show (zke s.init 30 L)=true from by simpa using hc10)];rw [ze2 (dF hc16) hI2];rw [ze2 (dF hc26) hQ2];rfl
 rw [hz];try rfl
def atD (loc v:Int):StD:=⟨[loc],[ZI.of v]⟩
mutual
inductive Wk:D->D->Prop
  | refl (x:D):Wk x x
  | nil (es:Nat):Wk (.raw zai) (.sl es [])
  | sl (es:Nat) (a b:List (List D)) (h:WkR a b):Wk (.sl es a) (.sl es b)
inductive WkL:List D->List D->Prop
  | nil:WkL [] []
  | cons (x y:D) (xs ys:List D) (h:Wk x y) (hs:WkL xs ys):WkL (x :: xs) (y :: ys)
inductive WkR:List (List D)->List (List D)->Prop
  | nil:WkR [] []
  | cons (x y:List D) (xs ys:List (List D)) (h:WkL x y) (hs:WkR xs ys):WkR (x :: xs) (y :: ys)
end
theorem lea_tok (n:Int) (hn:-1000<=n/\n<=1000):TOk 20 3 (zan n).t:=⟨(show 1<=20 by decide),fun p hp=>by
 rw [bX.1 hp];exact ⟨ZI.lb_of _,show (ZI.of 1).abs.length<=3 from by decide⟩,ZI.lb_of _,bK (ZI.len_of (L:=2) (by have:=pw2;show ((0:Int) - n).natAbs<_;omega)) (by decide)⟩
theorem le2:TOk 20 3 (zan 2).t:=lea_tok 2 (by decide)
theorem psE_ok:zfy [zan 2]:=⟨by decide,fun r hr=>by rw [bX.1 hr];exact le2.mono (by decide) (by decide)⟩
theorem ln14_4:SlT Tryz.prog 41 69 2:=SlT.mk' Tryz.underlying41 (by kernel_rfl)
theorem LFewRs (rs:List za6) (most L:Int) (hl:rs.length<=9223372036854775807):Fn Tryz.prog 31 [] [(vRs rs),vi .i64 most,vi .i64 L] (vb (zgd rs most L)) []:=SFewRs rs most L hl
theorem kw_4:ElZ Tryz.prog 36 102 3:=ElZ.mk' Tryz.underlying36 _ _ rfl rfl (by kernel_rfl) (by kernel_rfl) (by kernel_rfl) (by decide)
theorem kw_5:ElZ Tryz.prog 71 75 5:=ElZ.mk' Tryz.underlying71 _ _ rfl rfl (by kernel_rfl) (by kernel_rfl) (by kernel_rfl) (by decide)
theorem kw_6:ElZ Tryz.prog 37 73 10:=ElZ.mk' Tryz.underlying37 _ _ rfl rfl (by kernel_rfl) (by kernel_rfl) (by kernel_rfl) (by decide)
theorem kw_7:Sz Tryz.prog 39 10 true:=Sz.mk' (by kernel_rfl) Tryz.underlying39 _ rfl
def sysE:zb3:=⟨[⟨#[120]⟩],[⟨true,zim,ZI.of 3⟩],form0,[⟨⟨#[112]⟩,[⟨#[97]⟩,⟨#[98]⟩],.raw zai⟩],[⟨0,0,1,form0,[⟨0,false,⟨[⟨0,ZI.of 1⟩],ZI.of 1⟩⟩]⟩]⟩
theorem e1:goS sysE (atD 0 2) 0 []=(atD 1 3,true):=by kernel_rfl
theorem e2:(goS sysE (atD 0 3) 0 []).2=false:=by kernel_rfl
theorem e3:stuck sysE (atD 0 3)=true:=by kernel_rfl
theorem e4:can sysE (atD 0 0) 0=true:=by kernel_rfl
section
variable {w:World} {n:Nat}
theorem rep_raw {t e:TypeId} (hu:Tryz.prog.underlying t=some (.slice e)):zet w n t rawD (fun _=>True):=fun H enc base spare held fuel cs x hn hx=>by
 rcases DataW.trod_slice hu hx with ⟨rfl,_⟩ | ⟨a,len,cap,elems,rest,m,rfl,rfl,_⟩
 ·exact ⟨.raw _,trivial,DR.raw _ rfl,trivial⟩
 ·exact ⟨.raw _,trivial,DR.raw _ rfl,trivial⟩
theorem rep_strs:zet w n 22 (slD 1 zew) (fun xs=>xs.length<=maxLen/\∀ x ∈ xs,x.size<=maxLen) :=
 zcb (k:=1) Tryz.underlying22 (by kernel_rfl) (by decide) (fun _=>rfl) (rep_str Tryz.underlying9)
theorem rep_Rel:zet w n 32 za6.d (fun r=>TLb r.t) :=
 ((zbq (n:=n) Tryz.underlying32 (by kernel_rfl) (.cons (k0:=3) rfl (by kernel_rfl) rep_Term (.cons (k0:=1) rfl (by kernel_rfl) (zhz Tryz.underlying4) .nil))).map (fun p=>⟨p.1,p.2.1⟩) (fun _=>rfl) fun _ h=>h.1).mono (cC n)
theorem rep_Form:∀ {n:Nat}, zet w n 35 za0.d za0.lb
 | 0=>zet.zero
 | n+1=>(zbq (n:=n) Tryz.underlying35 (by kernel_rfl) (.cons (k0:=1) rfl (by kernel_rfl) (zhg Tryz.underlying3) (.cons (k0:=4) rfl (by kernel_rfl) rep_Rel (.cons (k0:=1) rfl (by kernel_rfl) (zcb (k:=6) Tryz.underlying33 (by kernel_rfl) (by decide) za0.d_len rep_Form) .nil)))).map (fun p=>⟨p.1,p.2.1,p.2.2.1⟩) (fun _=>(za0.d_eq _).trans rfl) fun _ h=>(za0.lb_eq _).2 ⟨⟨h.2.1,bK h.2.2.1.1 (by decide)⟩,h.2.2.1.2⟩
theorem rep_Bound:zet w n 132 zao.d (fun b=>Lb b.lo.abs/\Lb b.hi.abs) :=
 ((zbq (n:=n) Tryz.underlying132 (by kernel_rfl) (.cons (k0:=1) rfl (by kernel_rfl) (zhz Tryz.underlying4) (.cons (k0:=2) rfl (by kernel_rfl) rep_ZI (.cons (k0:=2) rfl (by kernel_rfl) rep_ZI .nil)))).map (fun p=>⟨p.1,p.2.1,p.2.2.1⟩) (fun _=>rfl) fun _ h=>⟨h.2.1,h.2.2.1⟩).mono (cC n)
theorem rep_Move:zet w n 75 zap.d (fun m=>TLb m.t) :=
 ((zbq (n:=n) Tryz.underlying75 (by kernel_rfl) (.cons (k0:=1) rfl (by kernel_rfl) (zhg Tryz.underlying3) (.cons (k0:=1) rfl (by kernel_rfl) (zhz Tryz.underlying4) (.cons (k0:=3) rfl (by kernel_rfl) rep_Term .nil)))).map (fun p=>⟨p.1,p.2.1,p.2.2.1⟩) (fun _=>rfl) fun _ h=>h.2.2.1).mono (cC n)
theorem rep_Moves:zet w n 71 (slD 5 zap.d) (fun xs=>xs.length<=maxLen/\∀ x ∈ xs,TLb x.t) :=
 zcb (k:=5) Tryz.underlying71 (by kernel_rfl) (by decide) (fun _=>rfl) rep_Move
theorem rep_Bounds:zet w n 23 (slD 5 zao.d) (fun xs=>xs.length<=maxLen/\∀ x ∈ xs,Lb x.lo.abs/\Lb x.hi.abs) :=
 zcb (k:=5) Tryz.underlying23 (by kernel_rfl) (by decide) (fun _=>rfl) rep_Bound
theorem rep_Act:zet w n 73 zbe.d (fun c=>c.guard.lb/\c.moves.length<=maxLen/\∀ m ∈ c.moves,TLb m.t) :=
 ((zbq (n:=n) Tryz.underlying73 (by kernel_rfl) (.cons (k0:=1) rfl (by kernel_rfl) (zhg Tryz.underlying3) (.cons (k0:=1) rfl (by kernel_rfl) (zhg Tryz.underlying3) (.cons (k0:=1) rfl (by kernel_rfl) (zhg Tryz.underlying3) (.cons (k0:=6) rfl (by kernel_rfl) rep_Form (.cons (k0:=1) rfl (by kernel_rfl) rep_Moves .nil)))))).map (fun p=>⟨p.1,p.2.1,p.2.2.1,p.2.2.2.1,p.2.2.2.2.1⟩) (fun _=>by rw [za0.d_eq];rfl) fun _ h=>⟨h.2.2.2.1,h.2.2.2.2.1⟩).mono (cC n)
theorem rep_Proc:zet w n 102 zbv.d (fun _=>True) :=
 ((zbq (n:=n) Tryz.underlying102 (by kernel_rfl) (.cons (k0:=1) rfl (by kernel_rfl) (rep_str Tryz.underlying9) (.cons (k0:=1) rfl (by kernel_rfl) rep_strs (.cons (k0:=1) rfl (by kernel_rfl) (rep_raw Tryz.underlying100) .nil)))).map (fun p=>⟨p.1,p.2.1,p.2.2.1⟩) (fun _=>rfl) fun _ _=>trivial).mono (cC n)
theorem rep_Procs:zet w n 36 (slD 3 zbv.d) (fun xs=>xs.length<=maxLen/\∀ x ∈ xs,True) :=
 zcb (k:=3) Tryz.underlying36 (by kernel_rfl) (by decide) (fun _=>rfl) rep_Proc
theorem rep_Acts:zet w n 37 (slD 10 zbe.d) (fun xs=>xs.length<=maxLen/\∀ x ∈ xs,x.guard.lb/\x.moves.length<=maxLen/\∀ m ∈ x.moves,TLb m.t) :=
 zcb (k:=10) Tryz.underlying37 (by kernel_rfl) (by decide) (fun _=>rfl) rep_Act
theorem rep_Sys:zet w n 39 zb3.d SysRd :=
 ((zbq (n:=n) Tryz.underlying39 (by kernel_rfl) (.cons (k0:=1) rfl (by kernel_rfl) rep_strs (.cons (k0:=1) rfl (by kernel_rfl) rep_Bounds (.cons (k0:=6) rfl (by kernel_rfl) rep_Form (.cons (k0:=1) rfl (by kernel_rfl) rep_Procs (.cons (k0:=1) rfl (by kernel_rfl) rep_Acts .nil)))))).map (fun p=>⟨p.1,p.2.1,p.2.2.1,p.2.2.2.1,p.2.2.2.2.1⟩) (fun _=>by rw [za0.d_eq];rfl) fun _ h=>⟨h.2.2.1,h.2.1.2,fun c hc=>⟨(h.2.2.2.2.1.2 c hc).1,(h.2.2.2.2.1.2 c hc).2.2⟩,⟨bK h.2.1.1 (by decide),bK h.2.2.2.2.1.1 (by decide)⟩,fun c hc=>bK (h.2.2.2.2.1.2 c hc).2.1 (by decide)⟩).mono (cC n)
end
section
variable {w:World} {n:Nat}
theorem rep_RelsL:zet w n 40 (slD 4 za6.d) (fun xs=>xs.length<=maxLen/\∀ x ∈ xs,TLb x.t) :=
 zcb (k:=4) Tryz.underlying40 (by kernel_rfl) (by decide) (fun _=>rfl) rep_Rel
theorem rep_bools:zet w n 67 (slD 1 zdz) (fun xs=>xs.length<=maxLen/\∀ x ∈ xs,True) :=
 zcb (k:=1) Tryz.underlying67 (by kernel_rfl) (by decide) (fun _=>rfl) (zhz Tryz.underlying4)
end
theorem cmpZ_refl (a:Int):zbx a a=0:=by unfold zbx;split <;> (try split) <;> omega
theorem cmpRl_cp (r:za6):zbp (cpR r) r=0:=by
 unfold zbp cpR
 rw [show zha (za1 r.t) r.t=0 from cmpT_eq (zbc _),show zeb ⟨za1 r.t,r.eq⟩=zeb r from rfl,cmpZ_refl];rfl
theorem gath_pre (f:za0):∀ ps,∃ ys,f.gath ps=ps++ys :=
 za0.ind (P:=fun f=>∀ ps,∃ ys,f.gath ps=ps++ys) (fun k r ks ih ps=>by
  rw [za0.gath_eq]
  split
  ·exact ⟨_,rfl⟩
  ·have:∀ (xs:List za0),(∀ g ∈ xs,g ∈ ks)->∀ qs:List za6,∃ ys,xs.foldl (fun a g=>g.gath a) qs=qs++ys:=fun xs=>by
    induction xs with
    | nil=>intro _ qs;exact ⟨[],by simp⟩
    | cons x xs ihx =>
     intro hx qs
     obtain ⟨y1,h1⟩:=ih x (hx x (bW ..)) qs
     obtain ⟨y2,h2⟩:=ihx (fun g hg=>hx g (b9 _ hg)) (x.gath qs)
     exact ⟨y1++y2,by rw [cH,h2,h1,cO]⟩
   exact this ks (fun g hg=>hg) ps) f
theorem sizeGo_ge {lim:Int}:∀ (ks:List za0) (n:Int),n<=zd1 lim (ks.map za0.size) n
 | [],n=>Int.le_refl _
 | g :: ks,n=>by
  rw [bG,zd1]
  split
  ·rename_i h
   have h1:=sizeGo_ge (lim:=lim) ks (n+g.size (lim - n))
   have h2:=(g.size_bd (lim - n) (by omega)).1
   omega
  ·exact Int.le_refl _
theorem size_wid (f:za0):∀ lim:Int,0<=lim->f.size lim<=lim->(f.wid:Int)<=3*f.size lim :=
 za0.ind (P:=fun f=>∀ lim:Int,0<=lim->f.size lim<=lim->(f.wid:Int)<=3*f.size lim) (fun k r ks ih lim hl h=>by
  rw [za0.size_eq] at h ⊢
  rw [za0.wid_eq]
  have key:∀ (xs:List za0),(∀ g ∈ xs,g ∈ ks)->∀ n:Int,zd1 lim (xs.map za0.size) n<=lim->(((xs.map za0.wid).sum:Nat):Int)<=3*(zd1 lim (xs.map za0.size) n - n):=fun xs=>by
   induction xs with
   | nil=>intro _ n _;show (0:Int)<=3*(n - n);omega
   | cons x xs ihx =>
    intro hx n hn
    rw [bG,zd1] at hn
    rw [bG,bG,cJ,zd1]
    split at hn
    ·rename_i e
     rw [if_pos e]
     have h1:=sizeGo_ge (lim:=lim) xs (n+x.size (lim - n))
     have h2:=ih x (hx x (bW ..)) (lim - n) (by omega) (by omega)
     have h3:=ihx (fun g hg=>hx g (b9 _ hg)) _ hn
     omega
    ·omega
  have:=key (cnt k ks) (fun g hg=>zbw hg) 1 h
  show (((3+((cnt k ks).map za0.wid).sum:Nat)):Int)<=3*zd1 lim ((cnt k ks).map za0.size) 1
  omega) f
theorem ok_okB {L:Nat} (f:za0):f.ok L->f.lb->f.wid<=1000000000000->f.okB 20 L :=
 za0.ind (P:=fun f=>f.ok L->f.lb->f.wid<=1000000000000->f.okB 20 L) (fun k r ks ih h1 h2 h3=>by
  rw [za0.okB_eq]
  have o1:=(za0.ok_eq _ _).1 h1
  have o2:=(za0.lb_eq _).1 h2
  refine ⟨⟨o1.1,o2.1.2,?_⟩,fun g hg=>ih g (zbw hg) (o1.2 g hg) (o2.2 g (zbw hg)) (bK (wid_kid hg) h3)⟩
  rw [za0.wid_eq] at h3
  have:∀ xs:List za0,xs.length<=(xs.map za0.wid).sum:=fun xs=>by
   induction xs with
   | nil=>exact bI _
   | cons x xs ih=>rw [bG,cJ,cM,za0.wid_eq];omega
  have:=this (cnt k ks)
  change 3+((cnt k ks).map za0.wid).sum<=1000000000000 at h3
  show (cnt k ks).length<=1000000000000
  omega) f
def geF (l r:zaf):za0:=zbd (leaR (zgo l r))
def leF (l r:zaf):za0:=zbd (leaR (zgo r l))
def bndF (s:zb3) (v:Nat) (t:zaf):List za0:=if (zel s v).is_=true then [geF t (zc4 (zel s v).lo),leF t (zc4 (zel s v).hi)] else []
def sndB (s:zb3) (c:zbe):Bool:=((decide (0<=c.proc/\c.proc<(s.procs.length:Int)) && decide (0<=c.from_/\c.from_<(nlocs s c.proc.toNat:Int))) && decide (0<=c.to_/\c.to_<(nlocs s c.proc.toNat:Int))) && !(c.moves.any fun m=>!zhs s m)
def zab (s:zb3) (i:Int):zbe × Bool:=match zhm s i with | none=>(act0,false) | some c=>(c,sndB s c)
def mvA (c:zbe) (v:Nat):zap × Bool:=match mvAt c v with | none=>(mv0,false) | some m=>(m,true)
def zdh (c:zbe) (v:Nat):zaf × Bool:=match mvAt c v with | none=>(zhq (v:Int),true) | some m=>if m.any=true then (⟨[],zim⟩,false) else (za1 m.t,true)
def zfh (s:zb3) (c:zbe) (v:Nat):List za0:=if (zdh c v).2=true then bndF s v (zdh c v).1 else if (zel s v).is_=true then [leF (zc4 (zel s v).lo) (zc4 (zel s v).hi)] else []
def canL (s:zb3) (c:zbe):List za0:=c.guard :: (List.range s.vars.length).flatMap (zfh s c)
def zek (s:zb3) (c:zbe):za0:=zca (canL s c)
theorem zdt (F:Nat->List β) (j:Nat):(List.range (j+1)).flatMap F=(List.range j).flatMap F++F j:=by rw [List.range_succ,List.flatMap_append];simp
theorem zde (F:Nat->List β) (h:∀ v,(F v).length<=m) (j:Nat):((List.range j).flatMap F).length<=j*m:=by
 induction j with
 | zero=>simp
 | succ j ih=>rw [zdt,cN,Nat.succ_mul];have:=h j;omega
theorem zfd {F:Nat->List β} {Q:β->Prop} (h:∀ v,v<n->∀ x ∈ F v,Q x):∀ x ∈ (List.range n).flatMap F,Q x:=fun x hx=>by
 obtain ⟨v,hv,hx⟩:=List.mem_flatMap.1 hx
 exact h v (List.mem_range.1 hv) x hx
theorem ziv {L:Nat} {k:ZI} (h:ZOk L k):TOk 20 L (zc4 k):=(TOk.num (ZI.lb_of _) (bK (zcp h.1) h.2)).mono (bC _) (bI _)
theorem sub_tok {l r:zaf} {L:Nat} (hl:TOk n L l) (hr:TOk m L r) (hn:n+m<=400000000):TOk (n+m) (2*(L+3)+2) (zgo l r) :=
 (addT_ok (hl.mono (bI _) (show L<=L+3 by omega)) ((TOk.mul hr (ZI.lb_of _) (show (ZI.of (-1)).abs.length<=2 from by decide)).plain (by omega)) (by omega)).mono (bI _) (by omega)
theorem at_okB {l r:zaf} (hl:TOk n 20 l) (hr:TOk m 20 r) (hn:n+m<=400000000) (e:Bool):(zbd ⟨za1 (zgo l r),e⟩).okB (n+m) 50 :=
 zi1 ((((sub_tok hl hr hn).plain (by omega)).plain (by omega)).mono (bI _) (by omega))
theorem var_tok (v:Int):TOk 1 20 (zhq v):=(TOk.plain TOk.one (by decide)).mono (bI _) (by decide)
theorem bnd_num (hs:zcg 3 s) (v:Nat):TOk 20 20 (zc4 (zel s v).lo)/\TOk 20 20 (zc4 (zel s v).hi) :=
 ⟨(ziv (bnd_ok hs v).1).mono (bI _) (by decide),(ziv (bnd_ok hs v).2).mono (bI _) (by decide)⟩
theorem bndF_ok (hs:zcg 3 s) (v:Nat) (ht:TOk 20 20 t):∀ g ∈ bndF s v t,g.okB 40 50:=fun g hg=>by
 unfold bndF at hg
 split at hg
 ·rcases List.mem_cons.1 hg with rfl | hg
  ·exact at_okB (n:=20) (m:=20) ht (bnd_num hs v).1 (by decide) false
  ·rw [bX.1 hg];exact at_okB (n:=20) (m:=20) (bnd_num hs v).2 ht (by decide) false
 ·cases hg
theorem bndF_len (s:zb3) (v:Nat) (t:zaf):(bndF s v t).length<=2:=by unfold bndF;split <;> simp
theorem zhl {L:Nat} (hn:n<=1000000000) {fs:List za0} (h:∀ g ∈ fs,g.okB n L) (hl:fs.length<=1000000000000):(zca fs).okB n (L+1) :=
 zgu (by decide) (by rw [bF];exact hl) fun g hg=>by
  obtain ⟨q,hq,rfl⟩:=b6.1 hg
  exact okB_cl hn q (h q hq)
theorem val_tok {c:zbe} (hc:zje 3 c) (v:Nat):TOk 20 20 (zdh c v).1:=by
 unfold zdh
 cases e:mvAt c v with
 | none=>exact (var_tok _).mono (by decide) (bI _)
 | some m =>
  show TOk 20 20 (if m.any=true then _ else _:zaf × Bool).1
  split
  ·exact ⟨bC _,(fun p hp=>by cases hp),zeu,bC _⟩
  ·exact ((hc.mv m (by unfold mvAt at e;exact cU e)).plain (by decide)).mono (bI _) (by decide)
theorem canS_ok (hs:zcg 3 s) {c:zbe} (hc:zje 3 c) (v:Nat):∀ g ∈ zfh s c v,g.okB 40 50:=fun g hg=>by
 unfold zfh at hg
 split at hg
 ·exact bndF_ok hs v (val_tok hc v) g hg
 ·split at hg
  ·rw [bX.1 hg];exact at_okB (n:=20) (m:=20) (bnd_num hs v).2 (bnd_num hs v).1 (by decide) false
  ·cases hg
theorem zkj (s:zb3) (c:zbe) (v:Nat):(zfh s c v).length<=2:=by
 unfold zfh;split
 ·exact bndF_len _ _ _
 ·split <;> simp
theorem form_okB {L:Nat} (hf:f.lb/\f.ok L) (hw:f.wid<=1000000000000):f.okB 20 L:=ok_okB f hf.2 hf.1 hw
theorem act0_ok:zje 3 act0:=⟨⟨by rw [za0.lb_eq];exact ⟨⟨⟨zeu,fun p hp=>by cases hp⟩,bC _⟩,fun g hg=>by cases hg⟩,by rw [za0.ok_eq];exact ⟨fun e=>absurd e (by decide),fun g hg=>absurd (zbw hg) (by show g ∉ [];exact List.not_mem_nil)⟩⟩,bC _,fun m hm=>by cases hm⟩
theorem zex (hs:zcg 3 s) (i:Int):zje 3 (zab s i).1:=by
 unfold zab
 cases e:zhm s i with
 | none=>exact act0_ok
 | some c =>
  refine hs.act c ?_
  unfold zhm at e
  split at e
  ·exact cD e
  ·cases e
def SysW (s:zb3):Prop:=s.init.wid<=100/\∀ c ∈ s.acts,c.guard.wid<=100
theorem zjj (hs:SysW s) (i:Int):(zab s i).1.guard.wid<=100:=by
 unfold zab
 cases e:zhm s i with
 | none=>show act0.guard.wid<=100;rw [za0.wid_eq];decide
 | some c =>
  refine hs.2 c ?_
  unfold zhm at e
  split at e
  ·exact cD e
  ·cases e
theorem can_ok (hs:zcg 3 s) {c:zbe} (hc:zje 3 c) (hw:c.guard.wid<=100):∀ g ∈ canL s c,g.okB 40 50:=fun g hg=>by
 unfold canL at hg
 rcases List.mem_cons.1 hg with rfl | hg
 ·exact za0.okB_mono (by decide) (by decide) _ (form_okB hc.guard (by omega))
 ·exact zfd (fun v _=>canS_ok hs hc v) g hg
theorem bnd_is (h:s.bounds[v]?=some b):zel s v=b:=by unfold zel;rw [h];rfl
theorem bnd_no (h:s.bounds.length<=v):(zel s v).is_=false:=by unfold zel;rw [List.getElem?_eq_none h];rfl
theorem bndF_at (h:s.bounds[v]?=some b) (e:b.is_=true):bndF s v t=[geF t (zc4 b.lo),leF t (zc4 b.hi)]:=by unfold bndF;rw [bnd_is h,if_pos e]
theorem bndF_no (h:(zel s v).is_=false):bndF s v t=[]:=by unfold bndF;rw [h];rfl
theorem LCmpLe (l r:zaf) (hl:TOk 20 20 l) (hr:TOk 20 20 r):Fn Tryz.prog 154 [] [vI 3,(vT l),(vT r)] (vF (leF l r)) []:=by
 refine fB Tryz.func154 rfl 51 fun w H B a h=>Jq 0 [] [(0,vI 3),(4,vp 0 0),(5,vp 1 0),(6,vp 2 0)] [(0,.box (zT l)),(1,.box (zT r)),(2,.box zF0)] h fun a w h=>?_
 obtain ⟨r1,er1,vr1,or1,lr1⟩:=mkZ (v:=1) (m:=2) (ZI.len_of (by have:=pw2;omega));refine Jg 3 [(0,.call (Fn.cast (SOf 1 ⟨by omega,by omega⟩) (congrArg vz er1.symm))),(1,.call (zgi r1 or1 (by omega)))] [] [(7,vp 3 0)] [] [(3,.box (zT (zc4 r1)))] h fun a w h=>qW (Je 4 [] [0] [(10,vI 3)] h fun a w h=>qZ (Je 4 [(0,.cmp (op:=.eql) (m:=3) (n:=0) (b:=false) .i64 rfl)] [] [(11,vb false)] h fun a w h=>zaw h (Je 4 [(0,.cmp (op:=.eql) (m:=3) (n:=1) (b:=false) .i64 rfl)] [11] [(18,vb false)] h fun a w h=>zaw h (Je 4 [(0,.cmp (op:=.eql) (m:=3) (n:=2) (b:=false) .i64 rfl)] [18] [(24,vb false)] h fun a w h=>zaw h (Jg 4 [(0,.cmp (op:=.eql) (m:=3) (n:=3) (b:=true) .i64 rfl)] [7,24] [(33,vb true)] [3] [] h fun a w h=>cS true h (fun _=>?_) nofun)))));refine Jq 4 [(2,.call (STSub r l (hr.mono (by decide) (by decide)) (hl.mono (by decide) (by decide)))),(3,.call (LLeast (zgo r l) ((sub_tok hr hl (by decide)).mono (by decide) (by decide)))),(4,.call (LOf (leaR (zgo r l)) (TOk.mono ((sub_tok hr hl (by decide)).plain (by decide)) (by decide) (by decide))))] [(6,vp 2 0)] [(2,.box (zF (zbd (leaR (zgo r l)))))] h fun a w h=>qV (za9 (za5 (rA 2 (zF (zbd (leaR (zgo r l)))) h zc0 rfl ?_)));rfl
theorem LCmpGe (l r:zaf) (hl:TOk 20 20 l) (hr:TOk 20 20 r):Fn Tryz.prog 154 [] [vI 5,(vT l),(vT r)] (vF (geF l r)) []:=by
 refine fB Tryz.func154 rfl 51 fun w H B a h=>Jq 0 [] [(0,vI 5),(4,vp 0 0),(5,vp 1 0),(6,vp 2 0)] [(0,.box (zT l)),(1,.box (zT r)),(2,.box zF0)] h fun a w h=>?_
 obtain ⟨r1,er1,vr1,or1,lr1⟩:=mkZ (v:=1) (m:=2) (ZI.len_of (by have:=pw2;omega));refine Jg 3 [(0,.call (Fn.cast (SOf 1 ⟨by omega,by omega⟩) (congrArg vz er1.symm))),(1,.call (zgi r1 or1 (by omega)))] [] [(7,vp 3 0)] [] [(3,.box (zT (zc4 r1)))] h fun a w h=>qW (Je 4 [] [0] [(10,vI 5)] h fun a w h=>qZ (Je 4 [(0,.cmp (op:=.eql) (m:=5) (n:=0) (b:=false) .i64 rfl)] [] [(11,vb false)] h fun a w h=>zaw h (Je 4 [(0,.cmp (op:=.eql) (m:=5) (n:=1) (b:=false) .i64 rfl)] [11] [(18,vb false)] h fun a w h=>zaw h (Je 4 [(0,.cmp (op:=.eql) (m:=5) (n:=2) (b:=false) .i64 rfl)] [18] [(24,vb false)] h fun a w h=>zaw h (Jg 4 [(0,.cmp (op:=.eql) (m:=5) (n:=3) (b:=false) .i64 rfl)] [7,24] [(33,vb false)] [3] [] h fun a w h=>zaw h (Je 4 [(0,.cmp (op:=.eql) (m:=5) (n:=4) (b:=false) .i64 rfl)] [33] [(40,vb false)] h fun a w h=>zaw h (Je 4 [(0,.cmp (op:=.eql) (m:=5) (n:=5) (b:=true) .i64 rfl)] [10,40] [(45,vb true)] h fun a w h=>cS true h (fun _=>?_) nofun)))))));refine Jq 4 [(2,.call (LCmpLe r l hr hl))] [(6,vp 2 0)] [(2,.box (zF (leF r l)))] h fun a w h=>qV (za9 (za5 (rA 2 (zF (leF r l)) h zc0 rfl ?_)));rfl
theorem Lvariable (v:Nat) :Fn Tryz.prog 152 [] [vN v] (vT (zhq (v:Int))) []:=by
 refine fB Tryz.func152 rfl 5 fun w H B a h=>Jq 0 [] [(0,vN v),(2,vp 0 0)] [(0,.box zT0)] h fun a w h=>Jd 1 [(1,.call (SVar (v:Int)))] [0] [] [(0,.box (zT (zhq (v:Int))))] h fun a w h=>qV (rA 0 (zT (zhq (v:Int))) h ze1 rfl ?_)
 rfl
theorem Lbounded (s:zb3) (v:Nat) (t:zaf) (hs:zcg 3 s) (ht:TOk 20 20 t):Fn Tryz.prog 153 [] [vG (zfu s),vN v,(vT t)] (vFs (bndF s v t)) []:=by
 have lbs:=hs.bnds;refine fB Tryz.func153 rfl 38 fun w H B a h=>Jq 0 [] [(1,vN v),(3,vp 0 0),(5,vp 1 0),(6,vW zai)] [(0,.box (zfu s)),(1,.box (zT t))] h fun a w h=>qW ?_
 rcases bE (decide ((v:Int)>=(s.bounds.length:Int))) with hc1 | hc2
 ·have hc1':=dT hc1;refine Je 2 [(3,.len (za4 5 zao.d s.bounds)),(4,.cmp (op:=.geq) (m:=(v:Int)) (n:=(s.bounds.length:Int)) (b:=true) .i64 hc1)] [] [(21,vb true)] h fun a w h=>cS true h (fun _=>?_) nofun
  refine Je 2 [] [21] [] h fun a w h=>qV (za5 ?_);replace h:=nilDSx 6 0 6 (vW zai) h;refine rT (.c (cFs [])) h rfl ?_;have hz:bndF s v t=[]:=bndF_no (bnd_no (by omega));rw [hz];try rfl
 have hc2':=dF hc2;obtain ⟨x1,hx1⟩:=gl s.bounds v;refine Je 2 [(3,.len (za4 5 zao.d s.bounds)),(4,.cmp (op:=.geq) (m:=(v:Int)) (n:=(s.bounds.length:Int)) (b:=false) .i64 hc2),(9,.g (xD 17 15 kf_0 (za8 hx1 (f:=zao.d)) (OV.tmp 16 _)))] [] [(21,vb (!x1.is_))] h fun a w h=>cS (!x1.is_) h (fun hc3=>?_) (fun hc4=>?_)
 ·refine Je 2 [] [21] [] h fun a w h=>qV (za5 ?_);replace h:=nilDSx 6 0 6 (vW zai) h;refine rT (.c (cFs [])) h rfl ?_;have hz:bndF s v t=[]:=bndF_no (by rw [bnd_is hx1];exact (show (x1.is_)=false from by simpa using hc3));rw [hz];try rfl
 refine qU (za2 (Jg 2 [(3,.g (xD 25 23 kf_0 (za8 hx1 (f:=zao.d)) (OV.tmp 24 _)))] [1,3,21] [(7,vp 2 0)] [0] [(2,.box ([cB x1.is_]++zi x1.lo++zi x1.hi))] h fun a w h=>Jq 3 [(3,.call (zgi x1.lo (hs.bnd x1 (lM hx1)).1.1 (by have:=(hs.bnd x1 (lM hx1)).1.2;omega))),(4,.call (LCmpGe t (zc4 x1.lo) ht ((ziv (hs.bnd x1 (lM hx1)).1).mono (bI _) (by decide)))),(8,.call (zgi x1.hi (hs.bnd x1 (lM hx1)).2.1 (by have:=(hs.bnd x1 (lM hx1)).2.2;omega))),(9,.call (LCmpLe t (zc4 x1.hi) ht ((ziv (hs.bnd x1 (lM hx1)).2).mono (bI _) (by decide)))),(10,.g (Op.buildD (d:=37) (len:=2) (rows:=[(geF t (zc4 x1.lo)),(leF t (zc4 x1.hi))].map za0.d) (rs:=[(31,(vF (geF t (zc4 x1.lo)))),(36,(vF (leF t (zc4 x1.hi))))]) kb_1 (.cons (i:=0) (OV.tmp 31 _) (.cons (i:=1) (OV.tmp 36 _) (.nil))) (by simp only [bG,bL,bU,bV,bN,za0.d_eq];kernel_rfl) rfl (by simp [za0.d_len]) (by decide) (by decide)))] [(6,(vFs [(geF t (zc4 x1.lo)),(leF t (zc4 x1.hi))]))] [] h fun a w h=>qV (rT (.c (cFs [(geF t (zc4 x1.lo)),(leF t (zc4 x1.hi))])) h rfl ?_)));have hz:bndF s v t=[(geF t (zc4 x1.lo)),(leF t (zc4 x1.hi))]:=bndF_at hx1 (by have:=(show (x1.is_)=true from by simpa using hc4);simpa using this);rw [hz];try rfl
theorem mc2_1:zbj Tryz.prog 150:=zbj.mk' (by kernel_rfl)
theorem mc2_7:zbj Tryz.prog 148:=zbj.mk' (by kernel_rfl)
theorem mc2_8:zbj Tryz.prog 187:=zbj.mk' (by kernel_rfl)
theorem Lsound1 (x l:Int) :Fn Tryz.prog 148 [(3,.box [cI l])] [vI x,vp 3 0] (vb (decide (0<=x/\x<l))) [(3,.box [cI l])]:=by
 refine fB Tryz.func148 rfl 11 fun w H B a h=>Jq 6 [] [(0,vI x),(1,vp 3 0),(3,vb false)] [(3,.box [cI l])] h fun a w h=>?_
 rcases bE (decide (x>=0)) with hc1 | hc2
 ·have hc1':=dT hc1;refine Jp 6 [(1,.cmp (op:=.geq) (m:=x) (n:=0) (b:=true) .i64 hc1)] [(3,vb (decide (x<l)))] h fun a w h=>qV (rT (.c (cB (decide (x<l)))) h rfl ?_);have hz:decide (0<=x/\x<l)=(decide (x<l)):=by have h0:=dT hc1;exact decide_eq_decide.2 ⟨fun e=>e.2,fun e=>⟨h0,e⟩⟩
  rw [hz];try rfl
 have hc2':=dF hc2;refine Jp 6 [(1,.cmp (op:=.geq) (m:=x) (n:=0) (b:=false) .i64 hc2)] [(3,vb false)] h fun a w h=>qV (rT (.c (cB false)) h rfl ?_);have hz:decide (0<=x/\x<l)=(false):=by exact decide_eq_false (fun e=>dF hc2 e.1)
 rw [hz];try rfl
theorem Lsound2 (s:zb3) (m:zap) :Fn Tryz.prog 150 [(0,.box (zfu s))] [vG ([cI m.v,cB m.any,cPs m.t.parts]++zi m.t.k),vp 0 0] (vb (!zhs s m)) [(0,.box (zfu s))]:=by
 refine fB Tryz.func150 rfl 15 fun w H B a h=>Jq 6 [] [(1,vp 0 0),(2,vp 6 0),(3,vb false)] [(0,.box (zfu s)),(6,.box ([cI m.v,cB m.any,cPs m.t.parts]++zi m.t.k))] h fun a w h=>?_
 rcases bE (decide (m.v<0)) with hc1 | hc2
 ·have hc1':=dT hc1;refine Jg 7 [(2,.cmp (op:=.lss) (m:=m.v) (n:=0) (b:=true) .i64 hc1)] [1,2] [(3,vb true)] [6] [] h fun a w h=>qV (rT (.c (cB true)) h rfl ?_);have hz:(!zhs s m)=(true):=(there_lo hc1);rw [hz];try rfl
 have hc2':=dF hc2;refine Jg 7 [(2,.cmp (op:=.lss) (m:=m.v) (n:=0) (b:=false) .i64 hc2),(8,.len (za4 1 zew s.vars))] [1,2] [(3,vb (decide (m.v>=(s.vars.length:Int))))] [6] [] h fun a w h=>qV (rT (.c (cB (decide (m.v>=(s.vars.length:Int))))) h rfl ?_);have hz:(!zhs s m)=(decide (m.v>=(s.vars.length:Int))):=(by have:=dF hc2;unfold zhs;rw [decide_eq_true (p:=m.v>=0) (by omega),bJ,<- decide_not];exact decide_eq_decide.2 (by omega));rw [hz];try rfl
theorem SIdxWS (pr:zap->Bool) (xs:List zap) (s:zb3) (hf:∀ x ∈ xs,Fn Tryz.prog 150 [(0,.box (zfu s))] [vG ([cI x.v,cB x.any,cPs x.t.parts]++zi x.t.k),vp 0 0] (vb (pr x)) [(0,.box (zfu s))]) (hl:xs.length<=9223372036854775807):Fn Tryz.prog 186 [(0,.box (zfu s))] [vS 5 (xs.map zap.d),.t (.c (.fn (.func 150) [] [.ptr 0 0]))] (vI (zd8 pr xs 0)) [(0,.box (zfu s))]:=by
 refine fB Tryz.func186 rfl 19 fun w H B a h=>Jq 5 [] [(0,vS 5 (xs.map zap.d)),(1,.t (.c (.fn (.func 150) [] [.ptr 0 0]))),(4,vI 0)] [(0,.box (zfu s))] h fun a w h=>qW (Je 5 [(1,.len (za4 5 zap.d xs))] [] [(7,vN xs.length),(8,vI 0)] h fun a w h=>qZ ?_)
 refine zbz (ι:=(Nat)) (fun j=>j<=xs.length/\zd8 pr xs 0=zd8 pr (xs.drop j) j)
   [4] (fun j=>[(8,vN j)])
   [] (fun j=>[])
   (fun j=>xs.length - j) 0 ?_ h ?_
 ·exact ⟨bC _,rfl⟩
 clear h;rintro j a w hI h;obtain ⟨hI1,hI2⟩:=hI;refine Je 5 [] [] [(9,vb (decide ((j:Int)<(xs.length:Int))))] h fun a w h=>qW (zae ((j:Int)<(xs.length:Int)) h (fun hc1 hc1'=>?_) (fun hc4 hc4'=>?_))
 ·refine qU (za2 (qW (qZ (Je 5 [] [9] [(5,vN j)] h fun a w h=>?_))));obtain ⟨x1,hx1⟩:=gl xs j;refine Je 5 [(3,.g (xD 14 12 ki_2 (za8 hx1 (f:=zap.d)) (OV.tmp 13 _))),(5,.g (Op.callV (d:=16) (t:=11) (cap:=[.ptr 0 0]) (args:=[vG ([cI x1.v,cB x1.any,cPs x1.t.parts]++zi x1.t.k)]) (rs:=[(15,vG ([cI x1.v,cB x1.any,cPs x1.t.parts]++zi x1.t.k))]) (tys:=#[75]) (hf x1 (lM hx1)) mc2_1 (OVs.cons (OV.tmp 15 _) (OVs.nil))))] [] [(16,vb (pr x1))] h fun a w h=>cS (pr x1) h (fun hc2=>?_) (fun hc3=>?_)
  ·refine Je 5 [] [5,16] [(4,vN j)] h fun a w h=>qV (za9 (za5 (za5 (za9 (za5 (rT (.c (cI (j:Int))) h rfl ?_))))));have hz:zd8 pr xs 0=(j:Int):=by rw [hI2,zf0 hx1,if_pos hc2]
   rw [hz];try rfl
  refine qU (za7 (za2 (Jf 5 [(0,.j1 j)] [5,16] [(8,vI ((j:Int)+1))] h fun a w h=>za2 (zaa (x:=j) (y:=j+1) h ?_ ?_))))
  ·exact ⟨by have:=zac hx1;omega,by rw [hI2,zf0 hx1,if_neg (by rw [hc3];exact Bool.noConfusion)]⟩
  (try simp);omega
 refine exA (Jp 5 [] [(4,vI (-1))] h fun a w h=>qV (rT (.c (cI (-1))) h rfl ?_));have hz:zd8 pr xs 0=-1:=by rw [hI2,b5 (by omega)];rfl
 rw [hz];try rfl
theorem SAnyWS (pr:zap->Bool) (xs:List zap) (s:zb3) (hf:∀ x ∈ xs,Fn Tryz.prog 150 [(0,.box (zfu s))] [vG ([cI x.v,cB x.any,cPs x.t.parts]++zi x.t.k),vp 0 0] (vb (pr x)) [(0,.box (zfu s))]) (hl:xs.length<=9223372036854775807):Fn Tryz.prog 149 [(0,.box (zfu s))] [vS 5 (xs.map zap.d),.t (.c (.fn (.func 150) [] [.ptr 0 0]))] (vb (xs.any pr)) [(0,.box (zfu s))]:=by
 refine fB Tryz.func149 rfl 9 fun w H B a h=>Jq 5 [] [(0,vS 5 (xs.map zap.d)),(1,.t (.c (.fn (.func 150) [] [.ptr 0 0]))),(4,vb false)] [(0,.box (zfu s))] h fun a w h=>Jp 5 [(2,.call (SIdxWS pr xs s hf  hl))] [(4,vb (decide (zd8 pr xs 0>=0)))] h fun a w h=>qV (rT (.c (cB (decide (zd8 pr xs 0>=0)))) h rfl ?_)
 rw [<- idxB_any];try rfl
theorem LsoundN (s:zb3) (i:Int) (hi:zhm s i=none):Fn Tryz.prog 108 [] [vG (zfu s),vI i] (.tup [.agg (acC act0),.c (cB false)]) []:=by
 refine fB Tryz.func108 rfl 65 fun w H B a h=>Jq 0 [] [(1,vI i),(2,vp 0 0),(4,vp 1 0),(5,vb false)] [(0,.box (zfu s)),(1,.box [cI 0,cI 0,cI 0,cI 0,nCl,cB false,.d (nsl []),cB false,nCl,nCl])] h fun a w h=>qW ?_
 rcases bE (decide (i<0)) with hc1 | hc2
 ·have hc1':=dT hc1;refine Je 2 [(1,.cmp (op:=.lss) (m:=i) (n:=0) (b:=true) .i64 hc1)] [] [(18,vb true)] h fun a w h=>cS true h (fun _=>?_) nofun
  refine Je 2 [] [18] [] h fun a w h=>qV (za5 ?_);replace h:=zb2 1 4 3 [cI 0,cI 0,cI 0,cI 0,nCl,cB false,.d (nsl []),cB false,nCl,nCl] h;replace h:=zb2 1 8 6 [cI 0,cI 0,cI 0,cI 0,cPs [],cB false,.d (nsl []),cB false,nCl,nCl] h;replace h:=zb2 1 9 5 [cI 0,cI 0,cI 0,cI 0,cPs [],cB false,.d (nsl []),cB false,cFs [],nCl] h;refine zds [.agg [cI 0,cI 0,cI 0,cI 0,cPs [],cB false,.d (nsl []),cB false,cFs [],.d (.sl 5 ([].map zap.d))],.c (cB false)] h Exit.ret (.inl rfl)  rfl ⟨RV.agg _ 1 0 _ _ _ _ ki_0 rfl rfl rfl rfl,RV.tmp _ _ rfl,trivial⟩ ?_;rfl
 have hc2':=dF hc2;refine Je 2 [(1,.cmp (op:=.lss) (m:=i) (n:=0) (b:=false) .i64 hc2),(6,.len (za4 10 zbe.d s.acts)),(7,.cmp (op:=.geq) (m:=i) (n:=(s.acts.length:Int)) (b:=true) .i64 (decide_eq_true (by have:=actAt_none hi;have:=dF hc2;omega)))] [] [(18,vb true)] h fun a w h=>cS true h (fun _=>?_) nofun
 refine Je 2 [] [18] [] h fun a w h=>qV (za5 ?_);replace h:=zb2 1 4 3 [cI 0,cI 0,cI 0,cI 0,nCl,cB false,.d (nsl []),cB false,nCl,nCl] h;replace h:=zb2 1 8 6 [cI 0,cI 0,cI 0,cI 0,cPs [],cB false,.d (nsl []),cB false,nCl,nCl] h;replace h:=zb2 1 9 5 [cI 0,cI 0,cI 0,cI 0,cPs [],cB false,.d (nsl []),cB false,cFs [],nCl] h;refine zds [.agg [cI 0,cI 0,cI 0,cI 0,cPs [],cB false,.d (nsl []),cB false,cFs [],.d (.sl 5 ([].map zap.d))],.c (cB false)] h Exit.ret (.inl rfl)  rfl ⟨RV.agg _ 1 0 _ _ _ _ ki_0 rfl rfl rfl rfl,RV.tmp _ _ rfl,trivial⟩ ?_;rfl
theorem LsoundS (s:zb3) (ki:Nat) (c:zbe) (hc:zje 3 c) (hps:s.procs.length<=6) (hka:s.acts[ki]?=some c):Fn Tryz.prog 108 [] [vG (zfu s),vN ki] (.tup [.agg ([cI c.proc,cI c.from_,cI c.to_,cI c.guard.kind,cPs c.guard.r.t.parts]++zi c.guard.r.t.k++[cB c.guard.r.eq,cFs c.guard.kids,.d (.sl 5 (c.moves.map zap.d))]),.c (cB (sndB s c))]) []:=by
 have lki:=zac hka;refine fB Tryz.func108 rfl 65 fun w H B a h=>Jq 0 [] [(1,vN ki),(2,vp 0 0),(4,vp 1 0),(5,vb false)] [(0,.box (zfu s)),(1,.box [cI 0,cI 0,cI 0,cI 0,nCl,cB false,.d (nsl []),cB false,nCl,nCl])] h fun a w h=>qW (Je 2 [(1,.cmp (op:=.lss) (m:=(ki:Int)) (n:=0) (b:=false) .i64 (show (decide ((ki:Int)<0))=false from decide_eq_false (by omega))),(6,.len (za4 10 zbe.d s.acts)),(7,.cmp (op:=.geq) (m:=(ki:Int)) (n:=(s.acts.length:Int)) (b:=false) .i64 (show (decide ((ki:Int)>=(s.acts.length:Int)))=false from decide_eq_false (by omega)))] [] [(18,vb false)] h fun a w h=>zaw h (qU (za2 (Jg 2 [(3,.g (xD 23 21 ki_1 (za8 hka (f:=zbe.d)) (OV.tmp 22 _)))] [1,18] [(6,vp 2 0)] [] [(2,.box ([cI c.proc,cI c.from_,cI c.to_,cI c.guard.kind,cPs c.guard.r.t.parts]++zi c.guard.r.t.k++[cB c.guard.r.eq,cFs c.guard.kids,.d (.sl 5 (c.moves.map zap.d))]))] h fun a w h=>qW ?_))))
 rcases bE (decide (c.proc<0)) with hc1 | hc2
 ·have hc1':=dT hc1;refine Je 3 [(2,.cmp (op:=.lss) (m:=c.proc) (n:=0) (b:=true) .i64 hc1)] [] [(35,vb true)] h fun a w h=>cS true h (fun _=>?_) nofun
  refine Jg 3 [] [35] [] [] [(1,.box ([cI c.proc,cI c.from_,cI c.to_,cI c.guard.kind,cPs c.guard.r.t.parts]++zi c.guard.r.t.k++[cB c.guard.r.eq,cFs c.guard.kids,.d (.sl 5 (c.moves.map zap.d))]))] h fun a w h=>qV (za5 (zds [.agg ([cI c.proc,cI c.from_,cI c.to_,cI c.guard.kind,cPs c.guard.r.t.parts]++zi c.guard.r.t.k++[cB c.guard.r.eq,cFs c.guard.kids,.d (.sl 5 (c.moves.map zap.d))]),.c (cB false)] h Exit.ret (.inl rfl)  rfl ⟨RV.agg _ 1 0 _ _ _ _ ki_0 rfl rfl rfl rfl,RV.tmp _ _ rfl,trivial⟩ ?_));have hz:sndB s c=(false):=by unfold sndB;rw [decide_eq_false (p:=0<=c.proc/\c.proc<(s.procs.length:Int)) (by have:=dT hc1;omega)];rfl
  rw [hz];try rfl
 have hc2':=dF hc2;refine Je 3 [(2,.cmp (op:=.lss) (m:=c.proc) (n:=0) (b:=false) .i64 hc2),(8,.len (za4 3 zbv.d s.procs))] [] [(35,vb (decide (c.proc>=(s.procs.length:Int))))] h fun a w h=>zae (c.proc>=(s.procs.length:Int)) h (fun hc3 hc3'=>?_) (fun hc4 hc4'=>?_)
 ·refine Jg 3 [] [35] [] [] [(1,.box ([cI c.proc,cI c.from_,cI c.to_,cI c.guard.kind,cPs c.guard.r.t.parts]++zi c.guard.r.t.k++[cB c.guard.r.eq,cFs c.guard.kids,.d (.sl 5 (c.moves.map zap.d))]))] h fun a w h=>qV (za5 (zds [.agg ([cI c.proc,cI c.from_,cI c.to_,cI c.guard.kind,cPs c.guard.r.t.parts]++zi c.guard.r.t.k++[cB c.guard.r.eq,cFs c.guard.kids,.d (.sl 5 (c.moves.map zap.d))]),.c (cB false)] h Exit.ret (.inl rfl)  rfl ⟨RV.agg _ 1 0 _ _ _ _ ki_0 rfl rfl rfl rfl,RV.tmp _ _ rfl,trivial⟩ ?_));have hz:sndB s c=(false):=by unfold sndB;rw [decide_eq_false (p:=0<=c.proc/\c.proc<(s.procs.length:Int)) (by have:=dT hc3;omega)];rfl
  rw [hz];try rfl
 refine qU (za2 ?_);obtain ⟨k,hkk⟩:∃ k_:Nat,c.proc=(k_:Int):=⟨_,(cF (by have:=dF hc2;omega)).symm⟩;replace h:=cvM [] [] [] [(2,.box ([cI (k:Int),cI c.from_,cI c.to_,cI c.guard.kind,cPs c.guard.r.t.parts]++zi c.guard.r.t.k++[cB c.guard.r.eq,cFs c.guard.kids,.d (.sl 5 (c.moves.map zap.d))]))] (by rw [hkk];kernel_rfl) h;obtain ⟨x1,hx1⟩:=gl s.procs k;refine Jg 3 [(4,.g (xD 41 38 kf_5 (za8 hx1 (f:=zbv.d)) (OV.tmp 40 _))),(7,.len (za4 1 zew x1.locs))] [35] [(7,vp 3 0)] [] [(3,.box [cI (x1.locs.length:Int)])] h fun a w h=>Je 4 [(0,.g (Op.makeFs (d:=45) (fn:=.func 148) [(7,3,0)]))] [7] [(8,.t (.c (.fn (.func 148) [] [.ptr 3 0])))] h fun a w h=>Jg 4 [(2,.g (Op.makeFs (d:=48) (fn:=.func 150) [(2,0,0)])),(3,.call (SAnyWS (fun m=>!zhs s m) c.moves s (fun m _=>Lsound2 s m) (by have:=hc.len;omega)))] [2] [(9,vb (c.moves.any fun m=>!zhs s m))] [0] [] h fun a w h=>?_
 rcases bE (decide (0<=c.from_/\c.from_<(x1.locs.length:Int))) with hc5 | hc8
 ·have hc5':=dT hc5
  rcases bE (decide (0<=c.to_/\c.to_<(x1.locs.length:Int))) with hc6 | hc7
  ·have hc6':=dT hc6;refine Jq 4 [(4,.g (Op.callV (d:=54) (t:=51) (cap:=[.ptr 3 0]) (args:=[vI c.from_]) (rs:=[(53,vI c.from_)]) (tys:=#[3]) (Fn.cast (Lsound1 c.from_ (x1.locs.length:Int)) (congrArg vb hc5)) mc2_7 (OVs.cons (OV.tmp 53 _) (OVs.nil)))),(9,.g (Op.callV (d:=59) (t:=56) (cap:=[.ptr 3 0]) (args:=[vI c.to_]) (rs:=[(58,vI c.to_)]) (tys:=#[3]) (Fn.cast (Lsound1 c.to_ (x1.locs.length:Int)) (congrArg vb hc6)) mc2_7 (OVs.cons (OV.tmp 58 _) (OVs.nil))))] [(4,vp 1 0),(5,vb (!(c.moves.any fun m=>!zhs s m)))] [(1,.box ([cI (k:Int),cI c.from_,cI c.to_,cI c.guard.kind,cPs c.guard.r.t.parts]++zi c.guard.r.t.k++[cB c.guard.r.eq,cFs c.guard.kids,.d (.sl 5 (c.moves.map zap.d))]))] h fun a w h=>qV (zds [.agg ([cI (k:Int),cI c.from_,cI c.to_,cI c.guard.kind,cPs c.guard.r.t.parts]++zi c.guard.r.t.k++[cB c.guard.r.eq,cFs c.guard.kids,.d (.sl 5 (c.moves.map zap.d))]),.c (cB (!(c.moves.any fun m=>!zhs s m)))] h Exit.ret (.inl rfl)  rfl ⟨RV.agg _ 1 0 _ _ _ _ ki_0 rfl rfl rfl rfl,RV.tmp _ _ rfl,trivial⟩ ?_);have hz:sndB s c=(!(c.moves.any fun m=>!zhs s m)):=by unfold sndB;rw [decide_eq_true (p:=0<=c.proc/\c.proc<(s.procs.length:Int)) (by have:=dF hc2;have:=dF hc4;omega),show c.proc.toNat=k by omega,show nlocs s k=x1.locs.length by unfold nlocs;rw [hx1];rfl,bJ];rw [hc5,hc6];simp
   rw [hz,hkk];try rfl
  have hc7':=dF hc7;refine Jg 4 [(4,.g (Op.callV (d:=54) (t:=51) (cap:=[.ptr 3 0]) (args:=[vI c.from_]) (rs:=[(53,vI c.from_)]) (tys:=#[3]) (Fn.cast (Lsound1 c.from_ (x1.locs.length:Int)) (congrArg vb hc5)) mc2_7 (OVs.cons (OV.tmp 53 _) (OVs.nil)))),(9,.g (Op.callV (d:=59) (t:=56) (cap:=[.ptr 3 0]) (args:=[vI c.to_]) (rs:=[(58,vI c.to_)]) (tys:=#[3]) (Fn.cast (Lsound1 c.to_ (x1.locs.length:Int)) (congrArg vb hc7)) mc2_7 (OVs.cons (OV.tmp 58 _) (OVs.nil))))] [6,8,9] [] [2,3] [(1,.box ([cI (k:Int),cI c.from_,cI c.to_,cI c.guard.kind,cPs c.guard.r.t.parts]++zi c.guard.r.t.k++[cB c.guard.r.eq,cFs c.guard.kids,.d (.sl 5 (c.moves.map zap.d))]))] h fun a w h=>qV (zds [.agg ([cI (k:Int),cI c.from_,cI c.to_,cI c.guard.kind,cPs c.guard.r.t.parts]++zi c.guard.r.t.k++[cB c.guard.r.eq,cFs c.guard.kids,.d (.sl 5 (c.moves.map zap.d))]),.c (cB false)] h Exit.ret (.inl rfl)  rfl ⟨RV.agg _ 1 0 _ _ _ _ ki_0 rfl rfl rfl rfl,RV.tmp _ _ rfl,trivial⟩ ?_);have hz:sndB s c=(false):=by unfold sndB;rw [decide_eq_true (p:=0<=c.proc/\c.proc<(s.procs.length:Int)) (by have:=dF hc2;have:=dF hc4;omega),show c.proc.toNat=k by omega,show nlocs s k=x1.locs.length by unfold nlocs;rw [hx1];rfl,bJ];rw [hc5,hc7];simp
  rw [hz,hkk];try rfl
 have hc8':=dF hc8;refine Jg 4 [(4,.g (Op.callV (d:=54) (t:=51) (cap:=[.ptr 3 0]) (args:=[vI c.from_]) (rs:=[(53,vI c.from_)]) (tys:=#[3]) (Fn.cast (Lsound1 c.from_ (x1.locs.length:Int)) (congrArg vb hc8)) mc2_7 (OVs.cons (OV.tmp 53 _) (OVs.nil))))] [6,8,9] [] [2,3] [(1,.box ([cI (k:Int),cI c.from_,cI c.to_,cI c.guard.kind,cPs c.guard.r.t.parts]++zi c.guard.r.t.k++[cB c.guard.r.eq,cFs c.guard.kids,.d (.sl 5 (c.moves.map zap.d))]))] h fun a w h=>qV (zds [.agg ([cI (k:Int),cI c.from_,cI c.to_,cI c.guard.kind,cPs c.guard.r.t.parts]++zi c.guard.r.t.k++[cB c.guard.r.eq,cFs c.guard.kids,.d (.sl 5 (c.moves.map zap.d))]),.c (cB false)] h Exit.ret (.inl rfl)  rfl ⟨RV.agg _ 1 0 _ _ _ _ ki_0 rfl rfl rfl rfl,RV.tmp _ _ rfl,trivial⟩ ?_);have hz:sndB s c=(false):=by unfold sndB;rw [decide_eq_true (p:=0<=c.proc/\c.proc<(s.procs.length:Int)) (by have:=dF hc2;have:=dF hc4;omega),show c.proc.toNat=k by omega,show nlocs s k=x1.locs.length by unfold nlocs;rw [hx1];rfl,bJ];rw [hc8];simp
 rw [hz,hkk];try rfl
theorem Lsound (s:zb3) (i:Int) (hs:zcg 3 s):Fn Tryz.prog 108 [] [vG (zfu s),vi .i64 i] (.tup [.agg (acC (zab s i).1),.c (cB (zab s i).2)]) []:=by
 unfold zab
 cases hi:zhm s i with
 | none=>exact LsoundN s i hi
 | some c=>obtain ⟨ki,rfl,hka⟩:=actAt_some hi;exact LsoundS s ki c (hs.act c (cD hka)) hs.procs hka
theorem Lmove1 (m:zap) (v:Nat) :Fn Tryz.prog 187 [(1,.box [cI (v:Int)])] [vG ([cI m.v,cB m.any,cPs m.t.parts]++zi m.t.k),vp 1 0] (vb (m.v == (v:Int))) [(1,.box [cI (v:Int)])]:=by
 refine fB Tryz.func187 rfl 8 fun w H B a h=>Jq 6 [] [(1,vp 1 0),(2,vp 6 0),(3,vb false)] [(1,.box [cI (v:Int)]),(6,.box ([cI m.v,cB m.any,cPs m.t.parts]++zi m.t.k))] h fun a w h=>Jg 7 [] [1,2] [(3,vb (m.v == (v:Int)))] [6] [] h fun a w h=>qV (rT (.c (cB (m.v == (v:Int)))) h rfl ?_)
 rfl
theorem SIdxWM (pr:zap->Bool) (xs:List zap) (v:Nat) (hf:∀ x ∈ xs,Fn Tryz.prog 187 [(1,.box [cI (v:Int)])] [vG ([cI x.v,cB x.any,cPs x.t.parts]++zi x.t.k),vp 1 0] (vb (pr x)) [(1,.box [cI (v:Int)])]) (hl:xs.length<=9223372036854775807):Fn Tryz.prog 186 [(1,.box [cI (v:Int)])] [vS 5 (xs.map zap.d),.t (.c (.fn (.func 187) [] [.ptr 1 0]))] (vI (zd8 pr xs 0)) [(1,.box [cI (v:Int)])]:=by
 refine fB Tryz.func186 rfl 19 fun w H B a h=>Jq 5 [] [(0,vS 5 (xs.map zap.d)),(1,.t (.c (.fn (.func 187) [] [.ptr 1 0]))),(4,vI 0)] [(1,.box [cI (v:Int)])] h fun a w h=>qW (Je 5 [(1,.len (za4 5 zap.d xs))] [] [(7,vN xs.length),(8,vI 0)] h fun a w h=>qZ ?_)
 refine zbz (ι:=(Nat)) (fun j=>j<=xs.length/\zd8 pr xs 0=zd8 pr (xs.drop j) j)
   [4] (fun j=>[(8,vN j)])
   [] (fun j=>[])
   (fun j=>xs.length - j) 0 ?_ h ?_
 ·exact ⟨bC _,rfl⟩
 clear h;rintro j a w hI h;obtain ⟨hI1,hI2⟩:=hI;refine Je 5 [] [] [(9,vb (decide ((j:Int)<(xs.length:Int))))] h fun a w h=>qW (zae ((j:Int)<(xs.length:Int)) h (fun hc1 hc1'=>?_) (fun hc4 hc4'=>?_))
 ·refine qU (za2 (qW (qZ (Je 5 [] [9] [(5,vN j)] h fun a w h=>?_))));obtain ⟨x1,hx1⟩:=gl xs j;refine Je 5 [(3,.g (xD 14 12 ki_2 (za8 hx1 (f:=zap.d)) (OV.tmp 13 _))),(5,.g (Op.callV (d:=16) (t:=11) (cap:=[.ptr 1 0]) (args:=[vG ([cI x1.v,cB x1.any,cPs x1.t.parts]++zi x1.t.k)]) (rs:=[(15,vG ([cI x1.v,cB x1.any,cPs x1.t.parts]++zi x1.t.k))]) (tys:=#[75]) (hf x1 (lM hx1)) mc2_8 (OVs.cons (OV.tmp 15 _) (OVs.nil))))] [] [(16,vb (pr x1))] h fun a w h=>cS (pr x1) h (fun hc2=>?_) (fun hc3=>?_)
  ·refine Je 5 [] [5,16] [(4,vN j)] h fun a w h=>qV (za9 (za5 (za5 (za9 (za5 (rT (.c (cI (j:Int))) h rfl ?_))))));have hz:zd8 pr xs 0=(j:Int):=by rw [hI2,zf0 hx1,if_pos hc2]
   rw [hz];try rfl
  refine qU (za7 (za2 (Jf 5 [(0,.j1 j)] [5,16] [(8,vI ((j:Int)+1))] h fun a w h=>za2 (zaa (x:=j) (y:=j+1) h ?_ ?_))))
  ·exact ⟨by have:=zac hx1;omega,by rw [hI2,zf0 hx1,if_neg (by rw [hc3];exact Bool.noConfusion)]⟩
  (try simp);omega
 refine exA (Jp 5 [] [(4,vI (-1))] h fun a w h=>qV (rT (.c (cI (-1))) h rfl ?_));have hz:zd8 pr xs 0=-1:=by rw [hI2,b5 (by omega)];rfl
 rw [hz];try rfl
theorem find_idx (pr:α->Bool):∀ (xs:List α) (n:Nat),(zd8 pr xs n<0->xs.find? pr=none)/\∀ k:Nat,zd8 pr xs n=((n+k:Nat):Int)->∃ x,xs[k]?=some x/\xs.find? pr=some x
 | [],n=>⟨fun _=>rfl,fun k h=>by unfold zd8 at h;omega⟩
 | x :: xs,n=>by
  unfold zd8
  by_cases e:pr x=true
  ·rw [if_pos e]
   refine ⟨fun h=>by omega,fun k h=>⟨x,?_,by rw [cQ,e]⟩⟩
   have:k=0:=by omega
   subst this;rfl
  ·rw [if_neg e]
   have ih:=find_idx pr xs (n+1)
   have he:pr x=false:=by simpa using e
   refine ⟨fun h=>by rw [cQ,he];exact ih.1 h,fun k h=>?_⟩
   cases k with
   | zero =>
    exfalso
    have hx:∀ (ys:List α) (m:Nat),zd8 pr ys m<0\/(m:Int)<=zd8 pr ys m:=fun ys=>by
     induction ys with
     | nil=>intro m;left;unfold zd8;omega
     | cons y ys ihy =>
      intro m;unfold zd8;split
      ·right;omega
      ·rcases ihy (m+1) with h1 | h1
       ·left;exact h1
       ·right;omega
    rcases hx xs (n+1) with h1 | h1 <;> omega
   | succ k =>
    obtain ⟨y,h1,h2⟩:=ih.2 k (by rw [h];congr 1;omega)
    exact ⟨y,h1,by rw [cQ,he];exact h2⟩
theorem idxB_len (pr:α->Bool):∀ (xs:List α) (n:Nat),zd8 pr xs n<0\/zd8 pr xs n<((n+xs.length:Nat):Int)
 | [],n=>by left;unfold zd8;omega
 | x :: xs,n=>by
  unfold zd8
  split
  ·right;rw [cM];omega
  ·rcases idxB_len pr xs (n+1) with h | h
   ·exact .inl h
   ·right;rw [cM];omega
theorem mvA_no {c:zbe} (h:zd8 (fun m:zap=>m.v == (v:Int)) c.moves 0<0):mvA c v=(mv0,false):=by
 unfold mvA mvAt;rw [(find_idx _ c.moves 0).1 h]
theorem mvA_at {c:zbe} {k:Nat} {m:zap} (h:zd8 (fun m:zap=>m.v == (v:Int)) c.moves 0=(k:Int)) (hm:c.moves[k]?=some m):mvA c v=(m,true):=by
 obtain ⟨x,h1,h2⟩:=(find_idx _ c.moves 0).2 k (by rw [h,Nat.zero_add])
 rw [hm] at h1;injection h1 with h1
 unfold mvA mvAt;rw [h2,h1]
theorem Lmove (c:zbe) (v:Nat) (hc:zje 3 c):Fn Tryz.prog 151 [] [vG (acC c),vN v] (.tup [.agg ([cI (mvA c v).1.v,cB (mvA c v).1.any,cPs (mvA c v).1.t.parts]++zi (mvA c v).1.t.k),.c (cB (mvA c v).2)]) []:=by
 have lcm:=hc.len;have lix:=idxB_len (fun m:zap=>m.v == (v:Int)) c.moves 0;refine fB Tryz.func151 rfl 19 fun w H B a h=>Jq 0 [] [(2,vp 0 0),(3,vp 1 0),(4,vp 2 0),(5,vb false)] [(0,.box (acC c)),(1,.box [cI (v:Int)]),(2,.box [cI 0,cB false,nCl,cB false,.d (nsl [])])] h fun a w h=>Jg 3 [(2,.g (Op.makeFs (d:=9) (fn:=.func 187) [(3,1,0)])),(3,.call (SIdxWM (fun m:zap=>m.v == (v:Int)) c.moves v (fun m _=>Lmove1 m v) (by have:=hc.len;omega)))] [3] [(6,vI (zd8 (fun m:zap=>m.v == (v:Int)) c.moves 0))] [1] [] h fun a w h=>qW (Je 3 [] [] [(12,vb (decide ((zd8 (fun m:zap=>m.v == (v:Int)) c.moves 0)<0)))] h fun a w h=>zae ((zd8 (fun m:zap=>m.v == (v:Int)) c.moves 0)<0) h (fun hc1 hc1'=>?_) (fun hc2 hc2'=>?_))
 ·refine Je 3 [] [12] [] h fun a w h=>qV (za5 ?_);replace h:=zb2 2 2 3 [cI 0,cB false,nCl,cB false,.d (nsl [])] h;refine zds [.agg [cI 0,cB false,cPs [],cB false,.d (nsl [])],.c (cB false)] h Exit.ret (.inl rfl)  rfl ⟨RV.agg _ 2 0 _ _ _ _ ki_5 rfl rfl rfl rfl,RV.tmp _ _ rfl,trivial⟩ ?_;rw [mvA_no (dT hc1)];try rfl
 refine qU (za2 ?_);obtain ⟨kx,hkkx⟩:∃ k_:Nat,(zd8 (fun m:zap=>m.v == (v:Int)) c.moves 0)=(k_:Int):=⟨_,(cF (by have:=dF hc2;omega)).symm⟩;replace h:=cvM [] [(6,vN kx)] [] [] (by rw [hkkx];kernel_rfl) h;obtain ⟨x2,hx2⟩:=gl c.moves kx;refine Jq 3 [(3,.g (xD 17 15 ki_2 (za8 hx2 (f:=zap.d)) (OV.tmp 16 _)))] [(4,vp 2 0),(5,vb true)] [(2,.box ([cI x2.v,cB x2.any,cPs x2.t.parts]++zi x2.t.k))] h fun a w h=>qV (zds [.agg ([cI x2.v,cB x2.any,cPs x2.t.parts]++zi x2.t.k),.c (cB true)] h Exit.ret (.inl rfl)  rfl ⟨RV.agg _ 2 0 _ _ _ _ ki_5 rfl rfl rfl rfl,RV.tmp _ _ rfl,trivial⟩ ?_);rw [mvA_at hkkx hx2];try rfl
theorem mvA_tok {c:zbe} (hc:zje 3 c) (v:Nat):TOk 20 3 (mvA c v).1.t:=by
 unfold mvA
 cases e:mvAt c v with
 | none=>exact ⟨bC _,(fun p hp=>by cases hp),zeu,bC _⟩
 | some m=>exact hc.mv m (by unfold mvAt at e;exact cU e)
theorem valA_no {c:zbe} (h:(mvA c v).2=false):zdh c v=(zhq (v:Int),true):=by
 unfold mvA at h;unfold zdh
 cases e:mvAt c v with
 | none=>rfl
 | some m=>rw [e] at h;cases h
theorem valA_any {c:zbe} (h:(mvA c v).2=true) (a:(mvA c v).1.any=true):zdh c v=(⟨[],zim⟩,false):=by
 unfold mvA at h a;unfold zdh
 cases e:mvAt c v with
 | none=>rw [e] at h;cases h
 | some m=>rw [e] at a;exact if_pos a
theorem valA_set {c:zbe} (h:(mvA c v).2=true) (a:(mvA c v).1.any=false):zdh c v=(za1 (mvA c v).1.t,true):=by
 unfold mvA at h a ⊢;unfold zdh
 cases e:mvAt c v with
 | none=>rw [e] at h;cases h
 | some m=>rw [e] at a;exact if_neg (by rw [show m.any=false from a];exact Bool.noConfusion)
theorem Lvalue (c:zbe) (v:Nat) (hc:zje 3 c):Fn Tryz.prog 110 [] [vG (acC c),vN v] (.tup [.agg (zT (zdh c v).1),.c (cB (zdh c v).2)]) []:=by
 refine fB Tryz.func110 rfl 26 fun w H B a h=>Jq 0 [] [(1,vN v),(2,vp 0 0),(4,vp 1 0),(5,vb false)] [(0,.box (acC c)),(1,.box zT0)] h fun a w h=>Jg 2 [(2,.call (Lmove c v hc))] [2] [(6,vp 2 0),(7,vb (mvA c v).2)] [0] [(2,.box ([cI (mvA c v).1.v,cB (mvA c v).1.any,cPs (mvA c v).1.t.parts]++zi (mvA c v).1.t.k))] h fun a w h=>qW (qZ (Je 3 [] [7] [(14,vb (!(mvA c v).2))] h fun a w h=>cS (!(mvA c v).2) h (fun hc1=>?_) (fun hc2=>?_)))
 ·refine Jg 3 [(1,.call (Lvariable v))] [1,14] [(5,vb true)] [] [(1,.box (zT (zhq (v:Int))))] h fun a w h=>qV (za9 (za5 (zds [.agg (zT (zhq (v:Int))),.c (cB true)] h Exit.ret (.inl rfl)  rfl ⟨RV.agg _ 1 0 _ _ _ _ ze1 rfl rfl rfl rfl,RV.tmp _ _ rfl,trivial⟩ ?_)));rw [valA_no (by have:=hc1;simpa using this)];try rfl
 refine Je 3 [] [1,14] [(19,vb (mvA c v).1.any)] h fun a w h=>cS (mvA c v).1.any h (fun hc3=>?_) (fun hc4=>?_)
 ·refine Je 3 [] [19] [] h fun a w h=>qV (za9 (za5 ?_));replace h:=zb2 1 0 3 zT0 h;refine zds [.agg [cPs [],cB false,.d (nsl [])],.c (cB false)] h Exit.ret (.inl rfl)  rfl ⟨RV.agg _ 1 0 _ _ _ _ ze1 rfl rfl rfl rfl,RV.tmp _ _ rfl,trivial⟩ ?_;rw [valA_any (by have:=hc2;simpa using this) hc3];try rfl
 refine qU (za7 (za2 (Jq 3 [(2,.call (zdj (mvA c v).1.t (mvA_tok hc v) (by decide) (by decide)))] [(4,vp 1 0),(5,vb true)] [(1,.box (zT (za1 (mvA c v).1.t)))] h fun a w h=>qV (zds [.agg (zT (za1 (mvA c v).1.t)),.c (cB true)] h Exit.ret (.inl rfl)  rfl ⟨RV.agg _ 1 0 _ _ _ _ ze1 rfl rfl rfl rfl,RV.tmp _ _ rfl,trivial⟩ ?_))));rw [valA_set (by have:=hc2;simpa using this) hc4];try rfl
theorem canS_t {c:zbe} (h:(zdh c v).2=true):zfh s c v=bndF s v (zdh c v).1:=by unfold zfh;rw [if_pos h]
theorem canS_a {c:zbe} (h:(zdh c v).2=false) (hb:s.bounds[v]?=some b) (e:b.is_=true):zfh s c v=[leF (zc4 b.lo) (zc4 b.hi)]:=by unfold zfh;rw [h,if_neg Bool.noConfusion,bnd_is hb,if_pos e]
theorem canS_n {c:zbe} (h:(zdh c v).2=false) (e:(zel s v).is_=false):zfh s c v=[]:=by unfold zfh;rw [h,if_neg Bool.noConfusion,e];rfl
theorem Lcan (s:zb3) (c:zbe) (hs:zcg 3 s) (hc:zje 3 c) (hg:c.guard.wid<=100):Fn Tryz.prog 111 [] [vG (zfu s),vG (acC c)] (vF (zek s c)) []:=by
 have lvs:=hs.vars;have lbs:=hs.bnds;have lcn:=zde (zfh s c) (zkj s c) s.vars.length;refine fB Tryz.func111 rfl 63 fun w H B a h=>Jq 5 [] [(2,vp 5 0),(3,vp 6 0),(4,vp 7 0)] [(5,.box (zfu s)),(6,.box (acC c)),(7,.box zF0)] h fun a w h=>Jg 8 [(2,.g (Op.buildO (d:=12) (n:=8) (len:=1) (rows:=[c.guard].map za0.d) (rs:=[(11,(vF c.guard))]) kb_1 (.cons (i:=0) (OV.tmp 11 _) (.nil)) (by simp only [bG,bL,bU,bV,bN,za0.d_eq];kernel_rfl) rfl (by simp [za0.d_len]) (by decide) (by decide)))] [] [(5,vO 8 1)] [] [(8,.row 35 6 ([c.guard].map za0.d))] h fun a w h=>qW (Je 9 [(2,.len (za4 1 zew s.vars))] [] [(15,vN s.vars.length),(16,vI 0)] h fun a w h=>qZ ?_)
 replace h:=cvM [] [] [] [(8,.row 35 6 (([c.guard]++(List.range 0).flatMap (zfh s c)).map za0.d))] (by rw [<- show ([c.guard]:List za0)=([c.guard]++(List.range 0).flatMap (zfh s c)) from (by simp)];kernel_rfl) h
 refine zbz (ι:=(Nat)) (fun j=>j<=s.vars.length)
   [] (fun j=>[(5,vO 8 ([c.guard]++(List.range j).flatMap (zfh s c)).length),(16,vN j)])
   [] (fun j=>[(8,.row 35 6 (([c.guard]++(List.range j).flatMap (zfh s c)).map za0.d))])
   (fun j=>s.vars.length - j) 0 ?_ h ?_
 ·exact bC _
 clear h;rintro j a w hI h;have lcj:=zde (zfh s c) (zkj s c) j;have lbj:=bndF_len s j (zdh c j).1;refine Je 9 [] [] [(17,vb (decide ((j:Int)<(s.vars.length:Int))))] h fun a w h=>qW (zae ((j:Int)<(s.vars.length:Int)) h (fun hc1 hc1'=>?_) (fun hc8 hc8'=>?_))
 ·refine qU (za2 (qW (qZ (Je 9 [] [17] [(6,vN j)] h fun a w h=>Jg 9 [(2,.call (Lvalue c j hc))] [] [(7,vp 9 0),(8,vb (zdh c j).2)] [] [(9,.box (zT (zdh c j).1))] h fun a w h=>Je 10 [] [8] [(25,vb (zdh c j).2)] h fun a w h=>cS (zdh c j).2 h (fun hc2=>?_) (fun hc3=>?_)))))
  ·refine Jh 10 [(4,.call (Lbounded s j (zdh c j).1 hs (val_tok hc j))),(5,.g (aD 31 26 30 8 10 ([c.guard]++(List.range j).flatMap (zfh s c)) (bndF s j (zdh c j).1) za0.d la_7 (by simp [za0.d_len])))] [6,7,25] [(5,vO 10 (([c.guard]++(List.range j).flatMap (zfh s c))++(bndF s j (zdh c j).1)).length)] [8,9] [(10,.row 35 6 ((([c.guard]++(List.range j).flatMap (zfh s c))++(bndF s j (zdh c j).1)).map za0.d))] h fun a w h=>za7 (za2 (Jf 11 [(0,.j1 j)] [] [(16,vI ((j:Int)+1))] h fun a w h=>za2 ?_));rw [show ((([c.guard]++(List.range j).flatMap (zfh s c))++(bndF s j (zdh c j).1)):List za0)=([c.guard]++(List.range (j+1)).flatMap (zfh s c)) from (by rw [zdt (zfh s c) j,canS_t hc2];simp)] at h;replace h:=zcr 10 8 h;refine zaa (x:=j) (y:=j+1) h ?_ ?_
   ·have:=dT hc1;show j+1<=s.vars.length;omega
   show s.vars.length - (j+1)<s.vars.length - j;have:=dT hc1;omega
  rcases bE (decide ((j:Int)<(s.bounds.length:Int))) with hc4 | hc7
  ·have hc4':=dT hc4;obtain ⟨x3,hx3⟩:=gl s.bounds j;refine Jg 11 [(3,.len (za4 5 zao.d s.bounds)),(4,.cmp (op:=.lss) (m:=(j:Int)) (n:=(s.bounds.length:Int)) (b:=true) .i64 hc4),(9,.g (xD 41 39 kf_0 (za8 hx3 (f:=zao.d)) (OV.tmp 40 _)))] [7,25] [(44,vb x3.is_)] [9] [] h fun a w h=>cS x3.is_ h (fun hc5=>?_) (fun hc6=>?_)
   ·refine Jg 11 [(3,.g (xD 48 46 kf_0 (za8 hx3 (f:=zao.d)) (OV.tmp 47 _)))] [6,44] [(9,vp 11 0)] [] [(11,.box ([cB x3.is_]++zi x3.lo++zi x3.hi))] h fun a w h=>Jh 12 [(3,.call (zgi x3.lo (hs.bnd x3 (lM hx3)).1.1 (by have:=(hs.bnd x3 (lM hx3)).1.2;omega))),(6,.call (zgi x3.hi (hs.bnd x3 (lM hx3)).2.1 (by have:=(hs.bnd x3 (lM hx3)).2.2;omega))),(7,.call (LCmpLe (zc4 x3.lo) (zc4 x3.hi) ((ziv (hs.bnd x3 (lM hx3)).1).mono (bI _) (by decide)) ((ziv (hs.bnd x3 (lM hx3)).2).mono (bI _) (by decide)))),(8,.g (bD 58 ([(leF (zc4 x3.lo) (zc4 x3.hi))].map za0.d) [(57,(vF (leF (zc4 x3.lo) (zc4 x3.hi))))] kb_1 (.cons (i:=0) (OV.tmp 57 _) (.nil)) (by simp only [bG,bL,bU,bV,bN,za0.d_eq];kernel_rfl) (by simp [za0.d_len]))),(9,.g (aD 59 50 58 8 12 ([c.guard]++(List.range j).flatMap (zfh s c)) [(leF (zc4 x3.lo) (zc4 x3.hi))] za0.d la_7 (by simp [za0.d_len])))] [9] [(5,vO 12 (([c.guard]++(List.range j).flatMap (zfh s c))++[(leF (zc4 x3.lo) (zc4 x3.hi))]).length)] [8,11] [(12,.row 35 6 ((([c.guard]++(List.range j).flatMap (zfh s c))++[(leF (zc4 x3.lo) (zc4 x3.hi))]).map za0.d))] h fun a w h=>za7 (za2 (Jf 13 [(0,.j1 j)] [] [(16,vI ((j:Int)+1))] h fun a w h=>za2 ?_));rw [show ((([c.guard]++(List.range j).flatMap (zfh s c))++[(leF (zc4 x3.lo) (zc4 x3.hi))]):List za0)=([c.guard]++(List.range (j+1)).flatMap (zfh s c)) from (by rw [zdt (zfh s c) j,canS_a hc3 hx3 hc5];simp)] at h;replace h:=zcr 12 8 h;refine zaa (x:=j) (y:=j+1) h ?_ ?_
    ·have:=dT hc1;show j+1<=s.vars.length;omega
    show s.vars.length - (j+1)<s.vars.length - j;have:=dT hc1;omega
   refine qU (za7 (za2 (Jf 13 [(0,.j1 j)] [6,44] [(16,vI ((j:Int)+1))] h fun a w h=>za2 ?_)));rw [show (([c.guard]++(List.range j).flatMap (zfh s c)):List za0)=([c.guard]++(List.range (j+1)).flatMap (zfh s c)) from (by rw [zdt (zfh s c) j,canS_n hc3 (by rw [bnd_is hx3];exact hc6)];simp)] at h;refine zaa (x:=j) (y:=j+1) h ?_ ?_
   ·have:=dT hc1;show j+1<=s.vars.length;omega
   show s.vars.length - (j+1)<s.vars.length - j;have:=dT hc1;omega
  have hc7':=dF hc7;refine Jg 13 [(3,.len (za4 5 zao.d s.bounds)),(4,.cmp (op:=.lss) (m:=(j:Int)) (n:=(s.bounds.length:Int)) (b:=false) .i64 hc7)] [7,25] [(44,vb false)] [9] [] h fun a w h=>zaw h (qU (za7 (za2 (Jf 13 [(0,.j1 j)] [6,44] [(16,vI ((j:Int)+1))] h fun a w h=>za2 ?_))));rw [show (([c.guard]++(List.range j).flatMap (zfh s c)):List za0)=([c.guard]++(List.range (j+1)).flatMap (zfh s c)) from (by rw [zdt (zfh s c) j,canS_n hc3 (bnd_no (by omega))];simp)] at h;refine zaa (x:=j) (y:=j+1) h ?_ ?_
  ·have:=dT hc1;show j+1<=s.vars.length;omega
  show s.vars.length - (j+1)<s.vars.length - j;have:=dT hc1;omega
 refine exA ?_;rw [show (([c.guard]++(List.range j).flatMap (zfh s c)):List za0)=(canL s c) from (by rw [show j=s.vars.length by have:=dF hc8;omega];rfl)] at h;replace h:=zh5 8 6 35 ((canL s c).map za0.d) h [(canL s c).length] ⟨by first | exact (bF _).symm | (simp;done) | (simp;omega),trivial⟩;refine Jq 13 [(1,.call (LAll (canL s c) (fun g hg_=>za0.okB_mono (by decide) (by decide) _ (can_ok hs hc hg g hg_)) (by show List.length _<=_;unfold canL;rw [cM];omega)))] [(4,vp 7 0)] [(7,.box (zF (zek s c)))] h fun a w h=>qV (rA 7 (zF (zek s c)) h zc0 rfl ?_);rfl
def offZ (s:zb3) (k:Nat):Int:=(k:Int)*(s.vars.length:Int)
def atF (s:zb3) (f:za0) (k:Nat):za0:=f.each (zcq (offZ s k))
def begB (s:zb3) (locs:List Int) (a:zbe):Bool:=decide (locs.length=s.procs.length) && ((locs[a.proc.toNat]?).getD 0 == a.from_)
def zhb (s:zb3) (locs:List Int) (i:Int):zbe × Bool:=((zab s i).1,(zab s i).2 && begB s locs (zab s i).1)
def zgp (s:zb3) (locs:List Int) (v:Nat):List za0:=if (zhb s locs (v:Int)).2=true then [zj4 (zek s (zhb s locs (v:Int)).1)] else []
def stkF (s:zb3) (locs:List Int):za0:=zca ((List.range s.acts.length).flatMap (zgp s locs))
theorem zhv (h:(zab s i).2=true):0<=(zab s i).1.proc/\(zab s i).1.proc<(s.procs.length:Int):=by
 unfold zab at h ⊢
 cases e:zhm s i with
 | none=>rw [e] at h;cases h
 | some c =>
  rw [e] at h
  change sndB s c=true at h
  unfold sndB at h
  simp only [cL,decide_eq_true_eq] at h
  exact h.1.1.1
theorem canF_ok (hs:zcg 3 s) {c:zbe} (hc:zje 3 c) (hw:c.guard.wid<=100):(zek s c).okB 40 51:=zhl (by decide) (can_ok hs hc hw) (by unfold canL;rw [cM];have:=zde (zfh s c) (zkj s c) s.vars.length;have:=hs.vars;omega)
theorem stkS_ok (hs:zcg 3 s) (hw:SysW s) (locs:List Int) (v:Nat):∀ g ∈ zgp s locs v,g.okB 40 52:=fun g hg=>by
 unfold zgp at hg
 split at hg
 ·rw [bX.1 hg]
  exact zgu (by decide) (by simp) fun q hq=>by rw [bX.1 hq];exact okB_cl (by decide) _ (canF_ok hs (zex hs _) (zjj hw _))
 ·cases hg
theorem zjz (s:zb3) (locs:List Int) (v:Nat):(zgp s locs v).length<=1:=by unfold zgp;split <;> simp
theorem stkF_ok (hs:zcg 3 s) (hw:SysW s) (locs:List Int):(stkF s locs).okB 40 53:=zhl (by decide) (zfd fun v _=>stkS_ok hs hw locs v) (by have:=zde (zgp s locs) (zjz s locs) s.acts.length;have:=hs.acts;omega)
theorem Loffset (s:zb3) (k:Nat) (hs:zcg 3 s) (hk:k<=4096):Fn Tryz.prog 146 [] [vG (zfu s),vN k] (vI (offZ s k)) []:=by
 have lvs:=hs.vars;obtain ⟨mkv,hmkv⟩:∃ z_:Nat,z_=k*s.vars.length:=⟨_,rfl⟩;have hmk2:mkv<=4096*8:=by rw [hmkv];exact Nat.mul_le_mul hk lvs
 have hmk3:(k:Int)*(s.vars.length:Int)=(mkv:Int):=by rw [hmkv,Int.natCast_mul]
 refine fB Tryz.func146 rfl 12 fun w H B a h=>Jq 0 [] [(1,vN k),(2,vp 0 0),(4,vI 0)] [(0,.box (zfu s))] h fun a w h=>Jq 1 [(1,.g (Op.max2 (d:=6) (tys:=#[3,3]) (k:=.i64) (m:=(k:Int)) (n:=0) (r:=(k:Int)) (OV.tmp 5 _) (OV.const (.int .i64 0) rfl) (by omega))),(2,.g (Op.min2 (d:=7) (tys:=#[3,3]) (k:=.i64) (m:=(k:Int)) (n:=4096) (r:=(k:Int)) (OV.tmp 6 _) (OV.const (.int .i64 4096) rfl) (by omega))),(5,.len (za4 1 zew s.vars)),(6,.mul .i64 (m:=(k:Int)) (n:=(s.vars.length:Int)) i6)] [(4,vI ((k:Int)*(s.vars.length:Int)))] [] h fun a w h=>qV (rT (.c (cI ((k:Int)*(s.vars.length:Int)))) h rfl ?_)
 rfl
theorem Lat (s:zb3) (f:za0) (k:Nat) (hs:zcg 3 s) (hk:k<=4096) (hf:f.okB 40 200):Fn Tryz.prog 106 [] [vG (zfu s),(vF f),vN k] (vF (atF s f k)) []:=by
 refine fB Tryz.func106 rfl 12 fun w H B a h=>Jq 0 [] [(2,vN k),(3,vp 0 0),(4,vp 1 0),(6,vp 2 0)] [(0,.box (zfu s)),(1,.box (zF f)),(2,.box zF0)] h fun a w h=>Jq 3 [(3,.call (Loffset s k hs (by omega))),(4,.call (LMoveF f (offZ s k) (za0.okB_mono (by decide) (by decide) _ hf) (za0.okB_mono (by decide) (by decide) _ (okB_cl (by decide) _ hf))))] [(6,vp 2 0)] [(2,.box (zF (za0.each (zcq (offZ s k)) f)))] h fun a w h=>qV (rA 2 (zF (za0.each (zcq (offZ s k)) f)) h zc0 rfl ?_)
 rfl
theorem Lbegins (s:zb3) (locs:List Int) (i:Int) (hs:zcg 3 s) (hl:locs.length<=9223372036854775807):Fn Tryz.prog 147 [] [.t (.agg (zfu s)),.t (.c (.d (.sl 1 (locs.map zb4)))),vI i] (.tup [.agg ([.d (.raw (.int .i64 (zhb s locs i).1.proc)),.d (.raw (.int .i64 (zhb s locs i).1.from_)),.d (.raw (.int .i64 (zhb s locs i).1.to_)),.d (.raw (.int .i64 (zhb s locs i).1.guard.kind)),.d (.sl 3 ((zhb s locs i).1.guard.r.t.parts.map za3.d))]++zi (zhb s locs i).1.guard.r.t.k++[.d (.raw (.bool (zhb s locs i).1.guard.r.eq)),.d (.sl 6 ((zhb s locs i).1.guard.kids.map za0.d)),.d (.sl 5 ((zhb s locs i).1.moves.map zap.d))]),.c (.d (.raw (.bool (zhb s locs i).2)))]) []:=by
 have lps:=hs.procs;have lpr:(zab s i).2=true->0<=(zab s i).1.proc/\(zab s i).1.proc<(s.procs.length:Int):=zhv;refine fB Tryz.func147 rfl 36 fun w H B a h=>?_
 refine Jq 0 [] [(1,.t (.c (.d (.sl 1 (locs.map zb4))))),(2,vI i),(3,vp 0 0),(6,vp 1 0),(7,vb false)] [(0,.box (zfu s)),(1,.box [.d (.raw (.int .i64 0)),.d (.raw (.int .i64 0)),.d (.raw (.int .i64 0)),.d (.raw (.int .i64 0)),.d (.raw zai),.d (.raw (.bool false)),.d (nsl []),.d (.raw (.bool false)),.d (.raw zai),.d (.raw zai)])] h fun a w h=>?_;refine Jq 2 [(2,.call (Lsound s i hs))] [(1,.t (.c (.d (.sl 1 (locs.map zb4))))),(3,vp 0 0),(6,vp 1 0),(7,vb false),(8,vp 2 0),(9,vb (zab s i).2)] [(0,.box (zfu s)),(1,.box [.d (.raw (.int .i64 0)),.d (.raw (.int .i64 0)),.d (.raw (.int .i64 0)),.d (.raw (.int .i64 0)),.d (.raw zai),.d (.raw (.bool false)),.d (nsl []),.d (.raw (.bool false)),.d (.raw zai),.d (.raw zai)]),(2,.box ([.d (.raw (.int .i64 (zab s i).1.proc)),.d (.raw (.int .i64 (zab s i).1.from_)),.d (.raw (.int .i64 (zab s i).1.to_)),.d (.raw (.int .i64 (zab s i).1.guard.kind)),.d (.sl 3 ((zab s i).1.guard.r.t.parts.map za3.d))]++zi (zab s i).1.guard.r.t.k++[.d (.raw (.bool (zab s i).1.guard.r.eq)),.d (.sl 6 ((zab s i).1.guard.kids.map za0.d)),.d (.sl 5 ((zab s i).1.moves.map zap.d))]))] h fun a w h=>?_
 rcases bE (zab s i).2 with hc1 | hc4
 ·have lpx:=zhv hc1;rw [hc1] at h
  rcases bE ((locs.length:Int) == (s.procs.length:Int)) with hc2 | hc3
  ·have hc2':=hc2;(try simp at hc2');obtain ⟨kp,hkkp⟩:∃ k_:Nat,(zab s i).1.proc=(k_:Int):=⟨_,(cF ((zhv hc1).1)).symm⟩;replace h:=h.conv (f':=F.of [(1,.t (.c (.d (.sl 1 (locs.map zb4))))),(3,vp 0 0),(6,vp 1 0),(7,vb false),(8,vp 2 0),(9,vb true)] [(0,.box (zfu s)),(1,.box [.d (.raw (.int .i64 0)),.d (.raw (.int .i64 0)),.d (.raw (.int .i64 0)),.d (.raw (.int .i64 0)),.d (.raw zai),.d (.raw (.bool false)),.d (nsl []),.d (.raw (.bool false)),.d (.raw zai),.d (.raw zai)]),(2,.box ([.d (.raw (.int .i64 (kp:Int))),.d (.raw (.int .i64 (zab s i).1.from_)),.d (.raw (.int .i64 (zab s i).1.to_)),.d (.raw (.int .i64 (zab s i).1.guard.kind)),.d (.sl 3 ((zab s i).1.guard.r.t.parts.map za3.d))]++zi (zab s i).1.guard.r.t.k++[.d (.raw (.bool (zab s i).1.guard.r.eq)),.d (.sl 6 ((zab s i).1.guard.kids.map za0.d)),.d (.sl 5 ((zab s i).1.moves.map zap.d))]))]) (by rw [hkkp]);obtain ⟨x2,hx2⟩:=gl locs kp;refine Jq 3 [(4,.len (za4 1 zb4 locs)),(7,.len (za4 3 zbv.d s.procs)),(8,.cmp (op:=.eql) (m:=(locs.length:Int)) (n:=(s.procs.length:Int)) (b:=true) .i64 hc2),(14,.g (xD 30 27 tb_1 (za8 hx2 (f:=zb4)) (OV.tmp 29 _)))] [(6,vp 1 0),(7,vb (x2 == (zab s i).1.from_))] [(1,.box ([.d (.raw (.int .i64 (kp:Int))),.d (.raw (.int .i64 (zab s i).1.from_)),.d (.raw (.int .i64 (zab s i).1.to_)),.d (.raw (.int .i64 (zab s i).1.guard.kind)),.d (.sl 3 ((zab s i).1.guard.r.t.parts.map za3.d))]++zi (zab s i).1.guard.r.t.k++[.d (.raw (.bool (zab s i).1.guard.r.eq)),.d (.sl 6 ((zab s i).1.guard.kids.map za0.d)),.d (.sl 5 ((zab s i).1.moves.map zap.d))]))] h fun a w h=>?_;refine qV ?_;refine zds [.agg ([.d (.raw (.int .i64 (kp:Int))),.d (.raw (.int .i64 (zab s i).1.from_)),.d (.raw (.int .i64 (zab s i).1.to_)),.d (.raw (.int .i64 (zab s i).1.guard.kind)),.d (.sl 3 ((zab s i).1.guard.r.t.parts.map za3.d))]++zi (zab s i).1.guard.r.t.k++[.d (.raw (.bool (zab s i).1.guard.r.eq)),.d (.sl 6 ((zab s i).1.guard.kids.map za0.d)),.d (.sl 5 ((zab s i).1.moves.map zap.d))]),.c (.d (.raw (.bool (x2 == (zab s i).1.from_))))] h Exit.ret (.inl rfl)  rfl ⟨RV.agg _ 1 0 _ _ _ _ ki_0 rfl rfl rfl rfl,RV.tmp _ _ rfl,trivial⟩ ?_;have hz:(zhb s locs i).2=(x2 == (zab s i).1.from_):=by show ((zab s i).2 && begB s locs (zab s i).1)=_;rw [hc1,bJ];unfold begB;rw [decide_eq_true (p:=locs.length=s.procs.length) (by have:=hc2;simp at this;omega),bJ,show (zab s i).1.proc.toNat=kp by omega,hx2];rfl
   rw [hz,show (zhb s locs i).1.proc=(kp:Int) from hkkp];try rfl
  have hc3':=hc3;(try simp at hc3');obtain ⟨kp,hkkp⟩:∃ k_:Nat,(zab s i).1.proc=(k_:Int):=⟨_,(cF ((zhv hc1).1)).symm⟩;replace h:=h.conv (f':=F.of [(1,.t (.c (.d (.sl 1 (locs.map zb4))))),(3,vp 0 0),(6,vp 1 0),(7,vb false),(8,vp 2 0),(9,vb true)] [(0,.box (zfu s)),(1,.box [.d (.raw (.int .i64 0)),.d (.raw (.int .i64 0)),.d (.raw (.int .i64 0)),.d (.raw (.int .i64 0)),.d (.raw zai),.d (.raw (.bool false)),.d (nsl []),.d (.raw (.bool false)),.d (.raw zai),.d (.raw zai)]),(2,.box ([.d (.raw (.int .i64 (kp:Int))),.d (.raw (.int .i64 (zab s i).1.from_)),.d (.raw (.int .i64 (zab s i).1.to_)),.d (.raw (.int .i64 (zab s i).1.guard.kind)),.d (.sl 3 ((zab s i).1.guard.r.t.parts.map za3.d))]++zi (zab s i).1.guard.r.t.k++[.d (.raw (.bool (zab s i).1.guard.r.eq)),.d (.sl 6 ((zab s i).1.guard.kids.map za0.d)),.d (.sl 5 ((zab s i).1.moves.map zap.d))]))]) (by rw [hkkp]);refine Jq 3 [(4,.len (za4 1 zb4 locs)),(7,.len (za4 3 zbv.d s.procs)),(8,.cmp (op:=.eql) (m:=(locs.length:Int)) (n:=(s.procs.length:Int)) (b:=false) .i64 hc3)] [(6,vp 1 0),(7,vb false)] [(1,.box ([.d (.raw (.int .i64 (kp:Int))),.d (.raw (.int .i64 (zab s i).1.from_)),.d (.raw (.int .i64 (zab s i).1.to_)),.d (.raw (.int .i64 (zab s i).1.guard.kind)),.d (.sl 3 ((zab s i).1.guard.r.t.parts.map za3.d))]++zi (zab s i).1.guard.r.t.k++[.d (.raw (.bool (zab s i).1.guard.r.eq)),.d (.sl 6 ((zab s i).1.guard.kids.map za0.d)),.d (.sl 5 ((zab s i).1.moves.map zap.d))]))] h fun a w h=>?_;refine qV ?_;refine zds [.agg ([.d (.raw (.int .i64 (kp:Int))),.d (.raw (.int .i64 (zab s i).1.from_)),.d (.raw (.int .i64 (zab s i).1.to_)),.d (.raw (.int .i64 (zab s i).1.guard.kind)),.d (.sl 3 ((zab s i).1.guard.r.t.parts.map za3.d))]++zi (zab s i).1.guard.r.t.k++[.d (.raw (.bool (zab s i).1.guard.r.eq)),.d (.sl 6 ((zab s i).1.guard.kids.map za0.d)),.d (.sl 5 ((zab s i).1.moves.map zap.d))]),.c (.d (.raw (.bool false)))] h Exit.ret (.inl rfl)  rfl ⟨RV.agg _ 1 0 _ _ _ _ ki_0 rfl rfl rfl rfl,RV.tmp _ _ rfl,trivial⟩ ?_;have hz:(zhb s locs i).2=(false):=by show ((zab s i).2 && begB s locs (zab s i).1)=_;rw [hc1,bJ];unfold begB;rw [decide_eq_false (p:=locs.length=s.procs.length) (by have:=hc3;simp at this;omega),Bool.false_and]
  rw [hz,show (zhb s locs i).1.proc=(kp:Int) from hkkp];try rfl
 rw [hc4] at h;refine Jq 3 [] [(6,vp 1 0),(7,vb false)] [(1,.box ([.d (.raw (.int .i64 (zab s i).1.proc)),.d (.raw (.int .i64 (zab s i).1.from_)),.d (.raw (.int .i64 (zab s i).1.to_)),.d (.raw (.int .i64 (zab s i).1.guard.kind)),.d (.sl 3 ((zab s i).1.guard.r.t.parts.map za3.d))]++zi (zab s i).1.guard.r.t.k++[.d (.raw (.bool (zab s i).1.guard.r.eq)),.d (.sl 6 ((zab s i).1.guard.kids.map za0.d)),.d (.sl 5 ((zab s i).1.moves.map zap.d))]))] h fun a w h=>?_;refine qV ?_;refine zds [.agg ([.d (.raw (.int .i64 (zab s i).1.proc)),.d (.raw (.int .i64 (zab s i).1.from_)),.d (.raw (.int .i64 (zab s i).1.to_)),.d (.raw (.int .i64 (zab s i).1.guard.kind)),.d (.sl 3 ((zab s i).1.guard.r.t.parts.map za3.d))]++zi (zab s i).1.guard.r.t.k++[.d (.raw (.bool (zab s i).1.guard.r.eq)),.d (.sl 6 ((zab s i).1.guard.kids.map za0.d)),.d (.sl 5 ((zab s i).1.moves.map zap.d))]),.c (.d (.raw (.bool false)))] h Exit.ret (.inl rfl)  rfl ⟨RV.agg _ 1 0 _ _ _ _ ki_0 rfl rfl rfl rfl,RV.tmp _ _ rfl,trivial⟩ ?_;have hz:(zhb s locs i).2=(false):=by show ((zab s i).2 && begB s locs (zab s i).1)=_;rw [hc4,Bool.false_and]
 rw [hz];try rfl
theorem Lstuck (s:zb3) (locs:List Int) (hs:zcg 3 s) (hw:SysW s) (hl:locs.length<=9223372036854775807):Fn Tryz.prog 107 [] [vG (zfu s),(vIs locs)] (vF (stkF s locs)) []:=by
 have las:=hs.acts;have lsn:=zde (zgp s locs) (zjz s locs) s.acts.length;refine fB Tryz.func107 rfl 33 fun w H B a h=>Jq 5 [] [(1,(vIs locs)),(2,vp 5 0),(4,vp 6 0)] [(5,.box (zfu s)),(6,.box zF0)] h fun a w h=>Je 7 [] [] [(5,vW zai)] h fun a w h=>qW (Je 7 [(2,.len (za4 10 zbe.d s.acts))] [] [(11,vN s.acts.length),(12,vI 0)] h fun a w h=>qZ ?_)
 replace h:=zep 5 0 7 6 35 (vW zai) h
 refine zbz (ι:=(Nat)) (fun j=>j<=s.acts.length)
   [] (fun j=>[(5,vO 7 ((List.range j).flatMap (zgp s locs)).length),(12,vN j)])
   [] (fun j=>[(7,.row 35 6 (((List.range j).flatMap (zgp s locs)).map za0.d))])
   (fun j=>s.acts.length - j) 0 ?_ h ?_
 ·exact bC _
 clear h;rintro j a w hI h;have lsj:=zde (zgp s locs) (zjz s locs) j;refine Je 8 [] [] [(13,vb (decide ((j:Int)<(s.acts.length:Int))))] h fun a w h=>qW (zae ((j:Int)<(s.acts.length:Int)) h (fun hc1 hc1'=>?_) (fun hc4 hc4'=>?_))
 ·refine qU (za2 (qW (qZ (Je 8 [] [13] [(6,vN j)] h fun a w h=>Jg 8 [(3,.call (Lbegins s locs (j:Int) hs hl))] [6] [(7,vp 8 0),(8,vb (zhb s locs (j:Int)).2)] [] [(8,.box (acC (zhb s locs (j:Int)).1))] h fun a w h=>Je 9 [] [8] [(22,vb (zhb s locs (j:Int)).2)] h fun a w h=>cS (zhb s locs (j:Int)).2 h (fun hc2=>?_) (fun hc3=>?_)))))
  ·refine Jh 9 [(3,.call (Lcan s (zhb s locs (j:Int)).1 hs (zex hs _) (zjj hw _))),(4,.call (LDeny (zek s (zhb s locs (j:Int)).1) (za0.okB_mono (by decide) (by decide) _ (canF_ok hs (zex hs _) (zjj hw _))))),(5,.g (bD 28 ([(zj4 (zek s (zhb s locs (j:Int)).1))].map za0.d) [(27,(vF (zj4 (zek s (zhb s locs (j:Int)).1))))] kb_1 (.cons (i:=0) (OV.tmp 27 _) (.nil)) (by simp only [bG,bL,bU,bV,bN,za0.d_eq];kernel_rfl) (by simp [za0.d_len]))),(6,.g (aD 29 23 28 7 9 ((List.range j).flatMap (zgp s locs)) [(zj4 (zek s (zhb s locs (j:Int)).1))] za0.d la_7 (by simp [za0.d_len])))] [7,22] [(5,vO 9 (((List.range j).flatMap (zgp s locs))++[(zj4 (zek s (zhb s locs (j:Int)).1))]).length)] [7,8] [(9,.row 35 6 ((((List.range j).flatMap (zgp s locs))++[(zj4 (zek s (zhb s locs (j:Int)).1))]).map za0.d))] h fun a w h=>za7 (za2 (Jf 10 [(0,.j1 j)] [] [(12,vI ((j:Int)+1))] h fun a w h=>za2 ?_));rw [show ((((List.range j).flatMap (zgp s locs))++[(zj4 (zek s (zhb s locs (j:Int)).1))]):List za0)=((List.range (j+1)).flatMap (zgp s locs)) from (by rw [zdt (zgp s locs) j,show zgp s locs j=[zj4 (zek s (zhb s locs (j:Int)).1)] from if_pos hc2];first | done | simp)] at h;replace h:=zcr 9 7 h;refine zaa (x:=j) (y:=j+1) h ?_ ?_
   ·have:=dT hc1;show j+1<=s.acts.length;omega
   show s.acts.length - (j+1)<s.acts.length - j;have:=dT hc1;omega
  refine qU (za7 (za2 (Jh 10 [(0,.j1 j)] [7,22] [(12,vI ((j:Int)+1))] [8] [] h fun a w h=>za2 ?_)));replace h:=cvM [] [(5,vO 7 ((List.range (j+1)).flatMap (zgp s locs)).length)] [] [(7,.row 35 6 (((List.range (j+1)).flatMap (zgp s locs)).map za0.d))] (by rw [<- show (((List.range j).flatMap (zgp s locs)):List za0)=((List.range (j+1)).flatMap (zgp s locs)) from (by rw [zdt (zgp s locs) j,show zgp s locs j=[] from if_neg (by rw [hc3];exact Bool.noConfusion)];first | done | simp)];kernel_rfl) h;refine zaa (x:=j) (y:=j+1) h ?_ ?_
  ·have:=dT hc1;show j+1<=s.acts.length;omega
  show s.acts.length - (j+1)<s.acts.length - j;have:=dT hc1;omega
 refine exA ?_;replace h:=cvM [] [(5,vO 7 ((List.range s.acts.length).flatMap (zgp s locs)).length)] [] [(7,.row 35 6 (((List.range s.acts.length).flatMap (zgp s locs)).map za0.d))] (by rw [<- show (((List.range j).flatMap (zgp s locs)):List za0)=((List.range s.acts.length).flatMap (zgp s locs)) from (by rw [show j=s.acts.length by have:=dF hc4;omega])];kernel_rfl) h;replace h:=zh5 7 6 35 (((List.range s.acts.length).flatMap (zgp s locs)).map za0.d) h [((List.range s.acts.length).flatMap (zgp s locs)).length] ⟨by first | exact (bF _).symm | (simp;done) | (simp;omega),trivial⟩;refine Jq 10 [(1,.call (LAll ((List.range s.acts.length).flatMap (zgp s locs)) (fun g hg=>za0.okB_mono (by decide) (by decide) _ (zfd (fun v _=>stkS_ok hs hw locs v) g hg)) (by omega)))] [(4,vp 6 0)] [(6,.box (zF (stkF s locs)))] h fun a w h=>qV (rA 6 (zF (stkF s locs)) h zc0 rfl ?_);rfl
theorem LStuck (s:zb3) (locs:List Int) (k:Nat) (hs:zcg 3 s) (hw:SysW s) (hl:locs.length<=9223372036854775807) (hk:k<=4096):Fn Tryz.prog 69 [] [vG (zfu s),(vIs locs),vN k] (vF (atF s (stkF s locs) k)) []:=by
 refine fB Tryz.func69 rfl 13 fun w H B a h=>Jq 0 [] [(1,(vIs locs)),(2,vN k),(3,vp 0 0),(6,vp 1 0)] [(0,.box (zfu s)),(1,.box zF0)] h fun a w h=>Jq 2 [(3,.call (Lstuck s locs hs hw hl)),(5,.call (Lat s (stkF s locs) k hs hk (za0.okB_mono (by decide) (by decide) _ (stkF_ok hs hw locs))))] [(6,vp 1 0)] [(1,.box (zF (atF s (stkF s locs) k)))] h fun a w h=>qV (rA 1 (zF (atF s (stkF s locs) k)) h zc0 rfl ?_)
 rfl
structure RunRd (r:RunD):Prop where
  stem:∀ x ∈ r.stem,StRd x
  cycle:∀ x ∈ r.cycle,StRd x
  len:r.stem.length+r.cycle.length<=9223372036854775807
  acts:r.acts.length<=9223372036854775807
theorem st0_rd:StRd st0:=⟨fun z hz=>(by cases hz),bC _⟩
theorem RunRd.at {r:RunD} (h:RunRd r) (i:Nat):StRd (runAt r i):=by
 unfold runAt
 cases hx:(r.stem++r.cycle)[i]? with
 | none=>exact st0_rd
 | some x=>exact (cG.1 (cD hx)).elim (h.stem x) (h.cycle x)
def PsOkW (ps:List za6):Prop:=ps.length<=1000/\∀ r ∈ ps,TokR 100 r
theorem PsOkW.tok (h:PsOkW ps):ps.length<=1000000000000/\∀ p ∈ ps,TOk 200000000 3000 p.t:=⟨bK h.1 (by decide),fun p hp=>(h.2 p hp).mono (by decide) (by decide)⟩
end S
end Go.Proofs.YtlcijejaplagbaaGreat
section
namespace Go.Proofs
open Go.Shelf

end Go.Proofs
end
namespace Go.Proofs.YtlcijejaplagbaaGreat
namespace S
structure SideD where
  times:ZI
  rest:zaf
def SideD.d (x:SideD):List D:=[.raw (.bool x.times.neg),nsl x.times.abs,.sl 3 (x.rest.parts.map za3.d),.raw (.bool x.rest.k.neg),nsl x.rest.k.abs]
structure SidesD where
  lows:List SideD
  highs:List SideD
  others:List za6
def SidesD.d (x:SidesD):List D:=[.sl 5 (x.lows.map SideD.d),.sl 5 (x.highs.map SideD.d),.sl 4 (x.others.map za6.d)]
def RsOk (rs:List za6):Prop:=rs.length<=20/\∀ r ∈ rs,TokR 8 r
section
open Go.RowKit Go.Sort
end
end S
theorem zhw {x y:Int} (hx:-1<=x/\x<=1) (hy:-1<=y/\y<=1):-1<=x*y/\x*y<=1:=by
 have h1:x=-1\/x=0\/x=1:=by omega
 rcases h1 with rfl | rfl | rfl <;> omega
theorem val_two (x:Nat):nV [x % 4294967296,x / 4294967296]=x:=by simp only [nV];omega
namespace S
variable {n M m:Nat} {p q:za3} {t:zaf} {f:za0}
def RkOk (r:za6):Prop:=TOk 200000000 200 r.t
theorem RkOk.of {L:Nat} {r:za6} (h:TOk n L r.t) (hn:n<=200000000) (hL:L<=200):RkOk r:=h.mono hn hL
theorem RsOk.take {rs:List za6} (h:RsOk rs) (j:Nat):RsOk (rs.take j):=⟨by rw [bS];have:=h.1;omega,fun r hr=>h.2 r (cK hr)⟩
theorem SRboth (xs ys:List za3) (ha:xs.length<=1000000000) (hb:ys.length<=1000000000):Fn Tryz.prog 218 [] [(vPs xs),(vPs ys)] (vPs (xs++ys)) []:=by
 refine fB Tryz.func218 rfl 36 fun w H B a h=>Jq 0 [] [(0,(vPs xs)),(1,(vPs ys)),(4,vW zai)] [] h fun a w h=>Jg 0 [(0,.g (Op.buildE (d:=8) (n:=0) tb_9))] [] [(5,vO 0 0)] [] [(0,.row 124 3 ([].map za3.d))] h fun a w h=>qW (Je 1 [] [] [(6,vI 0)] h fun a w h=>qZ ?_)
 refine zbz (ι:=(Nat) × (List za3)) (fun (j1,out1)=>out1=[]++xs.take j1/\j1<=xs.length)
   [] (fun (j1,out1)=>[(5,vO 0 out1.length),(6,vN j1)])
   [] (fun (j1,out1)=>[(0,.row 124 3 (out1.map za3.d))])
   (fun (j1,out1)=>xs.length - j1) (0,[]) ?_ h ?_
 ·exact ⟨by simp,bC _⟩
 clear h;rintro ⟨j1,out1⟩ a w hI h;dsimp only at h;obtain ⟨hI1a,hI1b⟩:=hI;have lo1:out1.length<=1000000000:=by rw [hI1a];simp;omega
 refine qW (Je 1 [(2,.len (za4 3 za3.d xs))] [] [(12,vb (decide ((j1:Int)<(xs.length:Int))))] h fun a w h=>zae ((j1:Int)<(xs.length:Int)) h (fun hc1 hc1'=>?_) (fun hc2 hc2'=>?_))
 ·refine qU (za2 (qW (qZ ?_)));obtain ⟨x1,hx1⟩:=gl xs j1;refine Jh 1 [(3,.g (xD 18 16 zc1 (za8 hx1 (f:=za3.d)) (OV.tmp 17 _))),(5,.g (bD 20 ([x1].map za3.d) [(19,vG ([cI x1.v]++zi x1.c))] tb_9 (.cons (i:=0) (OV.tmp 19 _) (.nil)) (by kernel_rfl) (by simp [za3.d]))),(6,.g (aD 21 15 20 0 1 out1 [x1] za3.d zg1 (by simp [za3.d])))] [12] [(5,vO 1 (out1++[x1]).length)] [0] [(1,.row 124 3 ((out1++[x1]).map za3.d))] h fun a w h=>za7 (za2 (Jf 2 [(1,.add .i64 (m:=(j1:Int)) (n:=1) i6)] [] [(6,vI ((j1:Int)+1))] h fun a w h=>za2 ?_));replace h:=zcr 1 0 h;refine zaa (x:=(j1,out1)) (y:=(j1+1,(out1++[x1]))) h ?_ ?_
  ·refine ⟨?_,by have:=zac hx1;omega⟩;rw [b8,hx1,hI1a];simp
  (try simp);omega
 refine exA (qW (Je 2 [] [0,6,12] [(7,vI 0)] h fun a w h=>qZ ?_))
 refine zbz (ι:=(Nat) × (List za3)) (fun (j2,out2)=>out2=out1++ys.take j2/\j2<=ys.length)
   [] (fun (j2,out2)=>[(5,vO 0 out2.length),(7,vN j2)])
   [] (fun (j2,out2)=>[(0,.row 124 3 (out2.map za3.d))])
   (fun (j2,out2)=>ys.length - j2) (0,out1) ?_ h ?_
 ·exact ⟨by simp,bC _⟩
 clear h;rintro ⟨j2,out2⟩ a w hI h;dsimp only at h;obtain ⟨hI2a,hI2b⟩:=hI;have lo2:out2.length<=2000000000:=by rw [hI2a];simp;omega
 refine qW (Je 2 [(2,.len (za4 3 za3.d ys))] [] [(25,vb (decide ((j2:Int)<(ys.length:Int))))] h fun a w h=>zae ((j2:Int)<(ys.length:Int)) h (fun hc3 hc3'=>?_) (fun hc4 hc4'=>?_))
 ·refine qU (za2 (qW (qZ ?_)));obtain ⟨x2,hx2⟩:=gl ys j2;refine Jh 2 [(3,.g (xD 31 29 zc1 (za8 hx2 (f:=za3.d)) (OV.tmp 30 _))),(5,.g (bD 33 ([x2].map za3.d) [(32,vG ([cI x2.v]++zi x2.c))] tb_9 (.cons (i:=0) (OV.tmp 32 _) (.nil)) (by kernel_rfl) (by simp [za3.d]))),(6,.g (aD 34 28 33 0 2 out2 [x2] za3.d zg1 (by simp [za3.d])))] [25] [(5,vO 2 (out2++[x2]).length)] [0] [(2,.row 124 3 ((out2++[x2]).map za3.d))] h fun a w h=>za7 (za2 (Jf 3 [(1,.add .i64 (m:=(j2:Int)) (n:=1) i6)] [] [(7,vI ((j2:Int)+1))] h fun a w h=>za2 ?_));replace h:=zcr 2 0 h;refine zaa (x:=(j2,out2)) (y:=(j2+1,(out2++[x2]))) h ?_ ?_
  ·refine ⟨?_,by have:=zac hx2;omega⟩;rw [b8,hx2,hI2a];simp
  (try simp);omega
 refine exA (Jp 3 [] [(4,vO 0 out2.length)] h fun a w h=>qV ?_);replace h:=zh5 0 3 124 (out2.map za3.d) h [out2.length] ⟨by first | exact (bF _).symm | (simp;done) | (simp;omega),trivial⟩;refine rT (.c (cPs out2)) h rfl ?_;have h1:j1=xs.length:=by have:=hc2';omega
 have h2:j2=ys.length:=by have:=hc4';omega
 subst h1 h2;rw [hI2a,hI1a,cR,cR];try rfl
theorem SRTAdd (s t:zaf) (hs:TOk 400000000 15000 s) (ht:TOk 400000000 15000 t):Fn Tryz.prog 206 [] [(vT s),(vT t)] (vd (zh4 s t).d) []:=by
 have ks:=hs.kl;have kt:=ht.kl;refine fB Tryz.func206 rfl 17 fun w H B a h=>Jq 0 [] [(2,vp 0 0),(3,vp 1 0),(4,vp 2 0)] [(0,.box (zT s)),(1,.box (zT t)),(2,.box zT0)] h fun a w h=>?_
 obtain ⟨r2,er2,vr2,or2,lr2⟩:=mkZ (v:=s.k.val+t.k.val) (m:=s.k.abs.length+t.k.abs.length+1) (zcz hs.kb ht.kb);refine Jq 3 [(4,.call (SRboth s.parts t.parts (by have:=hs.len;omega) (by have:=ht.len;omega))),(9,.call (Fn.cast (SRAdd s.k t.k hs.kb ht.kb (by omega) (by omega)) (congrArg vz er2.symm))),(11,.call (SRPlain' (zaf.mk (s.parts++t.parts) r2) (TOk.add hs ht r2 or2 (by have:=hs.kl;have:=ht.kl;omega)) (by decide) (by decide)))] [(4,vp 2 0)] [(2,.box (zT (za1 (zaf.mk (s.parts++t.parts) r2))))] h fun a w h=>qV (rA 2 (zT (za1 (zaf.mk (s.parts++t.parts) r2))) h ze1 rfl ?_);rw [er2];try rfl
theorem SRNumber (k:ZI) (hk:Lb k.abs) (lk:k.abs.length<=40000):Fn Tryz.prog 182 [] [vz k] (vd (zc4 k).d) []:=by
 refine fB Tryz.func182 rfl 6 fun w H B a h=>Jq 0 [] [(1,vp 0 0),(2,vp 1 0)] [(0,.box (zi k)),(1,.box zT0)] h fun a w h=>?_
 obtain ⟨r1,er1,vr1,or1,lr1⟩:=mkZ (v:=k.val) (m:=k.abs.length) (zcp hk);refine Jd 2 [(1,.call (Fn.cast (SRClean k hk (by omega)) (congrArg vz er1.symm)))] [1] [] [(1,.box ([nCl]++zi r1))] h fun a w h=>qV ?_;replace h:=zb2 1 0 3 ([nCl]++zi r1) h;refine rA 1 ([cPs []]++zi r1) h ze1 rfl ?_;rw [er1];try rfl
theorem SRScale (t:zaf) (q:ZI) {L:Nat} (ht:TOk n L t) (hn:n<=1000000000) (hq:Lb q.abs) (lq:q.abs.length<=M) (hL:L+M<=40000):Fn Tryz.prog 60 [] [(vT t),vz q] (vd (zam t q).d) []:=by
 have kt:=ht.kl;have nt:=ht.len;refine fB Tryz.func60 rfl 41 fun w H B a h=>Jq 0 [] [(2,vp 0 0),(3,vp 1 0),(4,vp 2 0)] [(0,.box (zT t)),(1,.box (zi q)),(2,.box zT0)] h fun a w h=>?_
 obtain ⟨r1,er1,vr1,or1,lr1⟩:=mkZ (v:=t.k.val*q.val) (m:=t.k.abs.length+q.abs.length) (zg8 ht.kb hq);refine Jg 3 [(3,.call (Fn.cast (SRMul t.k q ht.kb hq (by omega) (by omega)) (congrArg vz er1.symm)))] [] [(5,vp 3 0)] [] [(3,.box ([nCl]++zi r1))] h fun a w h=>qW ?_;replace h:=zg5 3 0 4 3 124 ([nCl]++zi r1) h;refine Je 5 [] [] [(6,vI 0)] h fun a w h=>qZ ?_
 refine zbz (ι:=(Nat) × (List za3)) (fun (j,out)=>out=(t.parts.take j).map (fun p=>za3.mk p.v (ZI.of (p.c.val*q.val)))/\j<=t.parts.length/\out.length<=j)
   [] (fun (j,out)=>[(6,vN j)])
   [] (fun (j,out)=>[(3,.box ([.own 4 out.length]++zi r1)),(4,.row 124 3 (out.map za3.d))])
   (fun (j,out)=>t.parts.length - j) (0,[]) ?_ h ?_
 ·exact ⟨by simp,bC _,bC _⟩
 clear h;rintro ⟨j,out⟩ a w hI h;dsimp only at h;obtain ⟨hI1,hI2,hI3⟩:=hI;refine qW (Je 5 [(3,.len (za4 3 za3.d t.parts))] [] [(16,vb (decide ((j:Int)<(t.parts.length:Int))))] h fun a w h=>zae ((j:Int)<(t.parts.length:Int)) h (fun hc1 hc1'=>?_) (fun hc2 hc2'=>?_))
 ·refine qU (za2 (qW (qZ ?_)));obtain ⟨x2,hx2⟩:=gl t.parts j;obtain ⟨ox2,lx2⟩:=ht.get hx2;obtain ⟨r3,er3,vr3,or3,lr3⟩:=mkZ (v:=x2.c.val*q.val) (m:=x2.c.abs.length+q.abs.length) (zg8 ox2 hq);refine Jh 5 [(5,.g (xD 24 22 zc1 (za8 hx2 (f:=za3.d)) (OV.tmp 23 _))),(11,.g (xD 30 28 zc1 (za8 hx2 (f:=za3.d)) (OV.tmp 29 _))),(15,.call (Fn.cast (SRMul x2.c q ox2 hq (by omega) (by omega)) (congrArg vz er3.symm))),(17,.g (bD 36 ([(za3.mk x2.v r3)].map za3.d) [(35,vG ([cI x2.v]++zi r3))] tb_9 (.cons (i:=0) (OV.tmp 35 _) (.nil)) (by kernel_rfl) (by simp [za3.d]))),(18,.g (aD 37 20 36 4 5 out [(za3.mk x2.v r3)] za3.d zg1 (by simp [za3.d])))] [16] [] [4] [(3,.box ([.own 5 (out++[(za3.mk x2.v r3)]).length]++zi r1)),(5,.row 124 3 ((out++[(za3.mk x2.v r3)]).map za3.d))] h fun a w h=>za7 (za2 (Jf 6 [(1,.j1 j)] [] [(6,vI ((j:Int)+1))] h fun a w h=>za2 ?_));replace h:=zcr 5 4 h;refine zaa (x:=(j,out)) (y:=(j+1,(out++[(za3.mk x2.v r3)]))) h ?_ ?_
  ·refine ⟨?_,by have:=zac hx2;omega,by simp;omega⟩;rw [zjy hx2,<- hI1,er3]
  (try simp);omega
 refine exA ?_;have hj:j=t.parts.length:=by have:=hc2';omega
 rw [hj,cR] at hI1;have hq2:zaf.mk out r1=mulT t q:=by rw [hI1,er1];try rfl
 replace h:=zh5 4 3 124 (out.map za3.d) h [out.length] ⟨by first | exact (bF _).symm | (simp;done) | (simp;omega),trivial⟩;refine Jq 6 [(1,.call ((show Fn _ _ _ [vd (zaf.mk out r1).d] _ _ from by rw [hq2];exact SRPlain' (mulT t q) (TOk.mul ht hq lq) (by omega) (by omega))))] [(4,vp 2 0)] [(2,.box (zT (zam t q)))] h fun a w h=>qV (rA 2 (zT (zam t q)) h ze1 rfl ?_);rfl
theorem SRTSub (s t:zaf) (hs:TOk 400000000 10000 s) (ht:TOk 400000000 10000 t):Fn Tryz.prog 183 [] [(vT s),(vT t)] (vd (zgo s t).d) []:=by
 refine fB Tryz.func183 rfl 10 fun w H B a h=>Jq 0 [] [(2,vp 0 0),(3,vp 1 0),(4,vp 2 0)] [(0,.box (zT s)),(1,.box (zT t)),(2,.box zT0)] h fun a w h=>?_
 obtain ⟨r1,er1,vr1,or1,lr1⟩:=mkZ (v:=(-1)) (m:=2) (ZI.len_of (by have:=pw2;omega));refine Jq 3 [(2,.call (Fn.cast (SROf (-1) ⟨by omega,by omega⟩) (congrArg vz er1.symm))),(3,.call (SRScale t r1 ht (by decide) or1 lr1 (by decide))),(4,.call (SRTAdd s (zam t r1) (hs.mono (by decide) (by decide)) (((TOk.mul ht or1 lr1).plain (by decide)).mono (by decide) (by decide))))] [(4,vp 2 0)] [(2,.box (zT (zh4 s (zam t r1))))] h fun a w h=>qV (rA 2 (zT (zh4 s (zam t r1))) h ze1 rfl ?_);rw [er1];try rfl
theorem orZ2_r (a b:Int) (h:a=0):orZ [a,b]=b:=by
 unfold orZ;rw [if_neg (fun e=>e h)];unfold orZ
 split
 ·rfl
 ·rename_i e;exact (Classical.not_not.1 e).symm
theorem orZ2_l (a b:Int) (h:a≠0):orZ [a,b]=a:=by unfold orZ;rw [if_pos h]
theorem cmpP_same (h:p.v=q.v) (k:zbx p.c.val q.c.val=0):cmpP p q=0:=by
 unfold cmpP;rw [h,orZ2_r _ _ (cmpZ_refl _),k]
theorem cmpP_lt (h:p.v<q.v):cmpP p q=-1:=by
 have e:zbx p.v q.v=-1:=by unfold zbx;split <;> (try split) <;> omega
 unfold cmpP;rw [e];rfl
theorem cmpP_gt (h:p.v>q.v):cmpP p q=1:=by
 have e:zbx p.v q.v=1:=by unfold zbx;split <;> (try split) <;> omega
 unfold cmpP;rw [e];rfl
theorem cmpP_c (h:p.v=q.v) (_k:¬ zbx p.c.val q.c.val=0):cmpP p q=zbx p.c.val q.c.val:=by
 unfold cmpP;rw [h,orZ2_r _ _ (cmpZ_refl _)]
theorem cmpT_l0 {s:zaf} {c:Int} (h:zej (za1 s).parts (za1 t).parts=c) (hc:c≠0):zha s t=c:=by
 unfold zha;rw [h,orZ2_l _ _ hc]
theorem cmpT_left {s:zaf} {a b c:Int} (h:zej (za1 s).parts (za1 t).parts=if a≠0 then a else b) (ha:a=c) (hc:c≠0:=by first | decide | assumption):zha s t=c:=by
 subst ha;rw [if_pos hc] at h;exact cmpT_l0 h hc
theorem cmpT_r {s:zaf} (h:zej (za1 s).parts (za1 t).parts=0):zha s t=zbx (za1 s).k.val (za1 t).k.val:=by
 unfold zha;rw [h,orZ2_r _ _ rfl]
theorem LR3Cmp (s t:zaf) (hs:TOk 400000000 20000 s) (ht:TOk 400000000 20000 t):Fn Tryz.prog 55 [] [(vT s),(vT t)] (vI (zha s t)) []:=by
 have lsp:=(hs.plain (by decide)).len;have ltp:=(ht.plain (by decide)).len;have lsk:=(hs.plain (by decide)).kl;have ltk:=(ht.plain (by decide)).kl;refine fB Tryz.func55 rfl 76 fun w H B a h=>Jq 0 [] [(2,vp 0 0),(3,vp 1 0),(4,vI 0)] [(0,.box (zT s)),(1,.box (zT t))] h fun a w h=>Jd 2 [(1,.call (SRPlain' s hs (by decide) (by decide))),(3,.call (SRPlain' t ht (by decide) (by decide)))] [2,3] [(5,vp 2 0),(6,vp 3 0)] [(2,.box (zT (za1 s))),(3,.box (zT (za1 t)))] h fun a w h=>qW (Je 4 [] [] [(7,vI 0)] h fun a w h=>qZ ?_)
 refine zbz (ι:=(Nat)) (fun j=>j<=(za1 s).parts.length/\j<=(za1 t).parts.length/\zej (za1 s).parts (za1 t).parts=zej ((za1 s).parts.drop j) ((za1 t).parts.drop j))
   [4] (fun j=>[(7,vN j)])
   [] (fun j=>[])
   (fun j=>(za1 s).parts.length - j) 0 ?_ h ?_
 ·exact ⟨bC _,bC _,rfl⟩
 clear h;rintro j a w hI h;obtain ⟨hI1,hI2,hI3⟩:=hI;have hce:=cps_end hI1 hI2;refine qW ?_
 rcases bE (decide ((j:Int)<((za1 s).parts.length:Int))) with hc1 | hc14
 ·have hc1':=dT hc1;refine Je 4 [(3,.len (za4 3 za3.d ((za1 s).parts))),(4,.cmp (op:=.lss) (m:=(j:Int)) (n:=((za1 s).parts.length:Int)) (b:=true) .i64 hc1),(9,.len (za4 3 za3.d ((za1 t).parts)))] [] [(26,vb (decide ((j:Int)<((za1 t).parts.length:Int))))] h fun a w h=>zae ((j:Int)<((za1 t).parts.length:Int)) h (fun hc2 hc2'=>?_) (fun hc9 hc9'=>?_)
  ·refine qU (za2 (qW (qZ ?_)));obtain ⟨x3,hx3⟩:=gl ((za1 s).parts) j;obtain ⟨ox3,lx3⟩:=((TOk.plain hs (by decide))).get hx3;obtain ⟨x4,hx4⟩:=gl ((za1 t).parts) j;obtain ⟨ox4,lx4⟩:=((TOk.plain ht (by decide))).get hx4;refine Jg 4 [(3,.g (xD 32 30 zc1 (za8 hx3 (f:=za3.d)) (OV.tmp 31 _))),(8,.g (xD 37 35 zc1 (za8 hx4 (f:=za3.d)) (OV.tmp 36 _)))] [26] [(8,vp 4 0),(9,vp 5 0)] [] [(4,.box ([cI x3.v]++zi x3.c)),(5,.box ([cI x4.v]++zi x4.c))] h fun a w h=>qW (Je 6 [] [] [(43,vb (decide (x3.v<x4.v)))] h fun a w h=>zae (x3.v<x4.v) h (fun hc3 hc3'=>?_) (fun hc4 hc4'=>?_))
   ·refine Je 6 [] [43] [(4,vI (-1))] h fun a w h=>qV (za5 (za9 (za5 (za5 (za9 (za5 (rT (.c (cI (-1))) h rfl ?_)))))));have p0:=dT hc3;have hz:zha s t=-1:=cmpT_left (hI3.trans (cps_at hx3 hx4)) (cmpP_lt p0);rw [hz];try rfl
   refine qU (za2 (qW (Je 6 [] [43] [(48,vb (decide (x3.v>x4.v)))] h fun a w h=>zae (x3.v>x4.v) h (fun hc5 hc5'=>?_) (fun hc6 hc6'=>?_))))
   ·refine Je 6 [] [48] [(4,vI 1)] h fun a w h=>qV (za5 (za9 (za5 (za5 (za9 (za5 (rT (.c (cI 1)) h rfl ?_)))))));have p0:=dF hc4;have p1:=dT hc5;have hz:zha s t=1:=cmpT_left (hI3.trans (cps_at hx3 hx4)) (cmpP_gt p1);rw [hz];try rfl
   refine qU (za2 (Jg 6 [(4,.call (SRCmp x3.c x4.c ox3 ox4 (by omega) (by omega)))] [8,9,48] [(10,vI (zbx x3.c.val x4.c.val))] [4,5] [] h fun a w h=>Je 6 [] [] [(55,vb (zbx x3.c.val x4.c.val != 0))] h fun a w h=>cS (zbx x3.c.val x4.c.val != 0) h (fun hc7=>?_) (fun hc8=>?_)))
   ·refine Je 6 [] [10,55] [(4,vI (zbx x3.c.val x4.c.val))] h fun a w h=>qV (za9 (za5 (za5 (za9 (za5 (rT (.c (cI (zbx x3.c.val x4.c.val))) h rfl ?_))))));have p0:=dF hc4;have p1:=dF hc6;have p2:¬zbx x3.c.val x4.c.val=0:=by have:=hc7;simpa using this
    have hz:zha s t=zbx x3.c.val x4.c.val:=cmpT_left (hI3.trans (cps_at hx3 hx4)) (cmpP_c (by omega) p2);rw [hz];try rfl
   refine qU (za7 (za2 (Jf 6 [(1,.j1 j)] [10,55] [(7,vI ((j:Int)+1))] h fun a w h=>za2 (zaa (x:=j) (y:=j+1) h ?_ ?_))))
   ·have:=zac hx3;have:=zac hx4;have p0:=dF hc4;have p1:=dF hc6;have p2:zbx x3.c.val x4.c.val=0:=by have:=hc8;simpa using this
    exact ⟨by omega,by omega,by rw [hI3,cps_at hx3 hx4,if_neg (fun e=>e (cmpP_same (by omega) p2))]⟩
   show (za1 s).parts.length - (j+1)<(za1 s).parts.length - j;have:=zac hx3;omega
  refine exA (qW (Je 6 [(2,.len (za4 3 za3.d ((za1 s).parts))),(5,.len (za4 3 za3.d ((za1 t).parts)))] [7,26] [(63,vb (decide (((za1 s).parts.length:Int)<((za1 t).parts.length:Int))))] h fun a w h=>zae (((za1 s).parts.length:Int)<((za1 t).parts.length:Int)) h (fun hc10 hc10'=>?_) (fun hc11 hc11'=>?_)))
  ·refine Je 6 [] [63] [(4,vI (-1))] h fun a w h=>qV (za5 (rT (.c (cI (-1))) h rfl ?_));have l0:=dT hc10;have hz:zha s t=-1:=cmpT_l0 (hI3.trans (hce.2.1 (by omega) (by omega))) (by decide);rw [hz];try rfl
  refine qU (za2 (qW (Je 6 [(2,.len (za4 3 za3.d ((za1 s).parts))),(5,.len (za4 3 za3.d ((za1 t).parts)))] [63] [(70,vb (decide (((za1 s).parts.length:Int)>((za1 t).parts.length:Int))))] h fun a w h=>zae (((za1 s).parts.length:Int)>((za1 t).parts.length:Int)) h (fun hc12 hc12'=>?_) (fun hc13 hc13'=>?_))))
  ·refine Je 6 [] [70] [(4,vI 1)] h fun a w h=>qV (za5 (rT (.c (cI 1)) h rfl ?_));have l0:=dF hc11;have l1:=dT hc12;have hz:zha s t=1:=cmpT_l0 (hI3.trans (hce.1 (by omega) (by omega))) (by decide);rw [hz];try rfl
  refine qU (za2 (Jq 6 [(4,.call (SRCmp (za1 s).k (za1 t).k ((TOk.plain hs (by decide))).kb ((TOk.plain ht (by decide))).kb (by omega) (by omega)))] [(4,vI (zbx (za1 s).k.val (za1 t).k.val))] [] h fun a w h=>qV (rT (.c (cI (zbx (za1 s).k.val (za1 t).k.val))) h rfl ?_)));have l0:=dF hc11;have l1:=dF hc13;have hz:zha s t=zbx (za1 s).k.val (za1 t).k.val:=cmpT_r (hI3.trans (hce.2.2 (by omega) (by omega)));rw [hz];try rfl
 have hc14':=dF hc14;refine Je 6 [(3,.len (za4 3 za3.d ((za1 s).parts))),(4,.cmp (op:=.lss) (m:=(j:Int)) (n:=((za1 s).parts.length:Int)) (b:=false) .i64 hc14)] [] [(26,vb false)] h fun a w h=>zaw h (exA (qW (Je 6 [(2,.len (za4 3 za3.d ((za1 s).parts))),(5,.len (za4 3 za3.d ((za1 t).parts)))] [7,26] [(63,vb (decide (((za1 s).parts.length:Int)<((za1 t).parts.length:Int))))] h fun a w h=>zae (((za1 s).parts.length:Int)<((za1 t).parts.length:Int)) h (fun hc15 hc15'=>?_) (fun hc16 hc16'=>?_))))
 ·refine Je 6 [] [63] [(4,vI (-1))] h fun a w h=>qV (za5 (rT (.c (cI (-1))) h rfl ?_));have l0:=dT hc15;have hz:zha s t=-1:=cmpT_l0 (hI3.trans (hce.2.1 (by omega) (by omega))) (by decide);rw [hz];try rfl
 refine qU (za2 (qW (Je 6 [(2,.len (za4 3 za3.d ((za1 s).parts))),(5,.len (za4 3 za3.d ((za1 t).parts)))] [63] [(70,vb (decide (((za1 s).parts.length:Int)>((za1 t).parts.length:Int))))] h fun a w h=>zae (((za1 s).parts.length:Int)>((za1 t).parts.length:Int)) h (fun hc17 hc17'=>?_) (fun hc18 hc18'=>?_))))
 ·refine Je 6 [] [70] [(4,vI 1)] h fun a w h=>qV (za5 (rT (.c (cI 1)) h rfl ?_));have l0:=dF hc16;have l1:=dT hc17;have hz:zha s t=1:=cmpT_l0 (hI3.trans (hce.1 (by omega) (by omega))) (by decide);rw [hz];try rfl
 refine qU (za2 (Jq 6 [(4,.call (SRCmp (za1 s).k (za1 t).k ((TOk.plain hs (by decide))).kb ((TOk.plain ht (by decide))).kb (by omega) (by omega)))] [(4,vI (zbx (za1 s).k.val (za1 t).k.val))] [] h fun a w h=>qV (rT (.c (cI (zbx (za1 s).k.val (za1 t).k.val))) h rfl ?_)));have l0:=dF hc16;have l1:=dF hc18;have hz:zha s t=zbx (za1 s).k.val (za1 t).k.val:=cmpT_r (hI3.trans (hce.2.2 (by omega) (by omega)));rw [hz];try rfl
theorem LR4Cmp (x y:za6) (hx:TOk 400000000 20000 x.t) (hy:TOk 400000000 20000 y.t):Fn Tryz.prog 24 [] [.t (.agg ([.d (.sl 3 (x.t.parts.map za3.d))]++zi x.t.k++[.d (.raw (.bool x.eq))])),.t (.agg ([.d (.sl 3 (y.t.parts.map za3.d))]++zi y.t.k++[.d (.raw (.bool y.eq))]))] (vI (zbp x y)) []:=by
 refine fB Tryz.func24 rfl 28 fun w H B a h=>Jq 0 [] [(2,vp 0 0),(3,vp 1 0),(4,vI 0)] [(0,.box ([.d (.sl 3 (x.t.parts.map za3.d))]++zi x.t.k++[.d (.raw (.bool x.eq))])),(1,.box ([.d (.sl 3 (y.t.parts.map za3.d))]++zi y.t.k++[.d (.raw (.bool y.eq))]))] h fun a w h=>qW (Je 2 [(4,.call (LR3Cmp x.t y.t hx hy))] [] [(5,vI (zha x.t y.t))] h fun a w h=>Je 2 [] [] [(12,vb ((zha x.t y.t) != 0))] h fun a w h=>cS ((zha x.t y.t) != 0) h (fun hc1=>?_) (fun hc2=>?_))
 ·refine Je 2 [] [5,12] [(4,vI (zha x.t y.t))] h fun a w h=>qV (za5 (rT (.c (.d (.raw (.int .i64 (zha x.t y.t))))) h rfl ?_));have hz:zbp x y=zha x.t y.t:=orZ2_l _ _ (by have:=hc1;simpa using this);rw [hz];try rfl
 refine qU (za2 (qW ?_))
 rcases bE x.eq with hc3 | hc6
 ·rw [hc3] at h;refine Jq 2 [] [(2,vp 0 0),(3,vp 1 0),(4,vI 0),(20,vb false)] [(0,.box ([.d (.sl 3 (x.t.parts.map za3.d))]++zi x.t.k++[.d (.raw (.bool true))])),(1,.box ([.d (.sl 3 (y.t.parts.map za3.d))]++zi y.t.k++[.d (.raw (.bool y.eq))]))] h fun a w h=>zaw h (qU (za2 (qW (Jq 2 [] [(4,vI 0),(27,vb (!y.eq))] [] h fun a w h=>cS (!y.eq) h (fun hc4=>?_) (fun hc5=>?_)))))
  ·refine Jq 2 [] [(4,vI 1)] [] h fun a w h=>qV (za5 (rT (.c (.d (.raw (.int .i64 1)))) h rfl ?_));have hz:zbp x y=1:=(orZ2_r _ _ (by have:=hc2;simpa using this)).trans (by unfold zeb zbx;first | (simp [hc3,(show (y.eq)=false from by simpa using hc4)];done) | (cases hx_:x.eq <;> cases hy_:y.eq <;> simp_all));rw [hz];try rfl
  refine qU (za2 (Jd 2 [] [27] [] [] h fun a w h=>qV (rT (.c (.d (.raw (.int .i64 0)))) h rfl ?_)));have hz:zbp x y=0:=(orZ2_r _ _ (by have:=hc2;simpa using this)).trans (by unfold zeb zbx;first | (simp [hc3,(show (y.eq)=true from by simpa using hc5)];done) | (cases hx_:x.eq <;> cases hy_:y.eq <;> simp_all));rw [hz];try rfl
 rw [hc6] at h;refine Jq 2 [] [(2,vp 0 0),(3,vp 1 0),(4,vI 0),(20,vb y.eq)] [(0,.box ([.d (.sl 3 (x.t.parts.map za3.d))]++zi x.t.k++[.d (.raw (.bool false))])),(1,.box ([.d (.sl 3 (y.t.parts.map za3.d))]++zi y.t.k++[.d (.raw (.bool y.eq))]))] h fun a w h=>cS y.eq h (fun hc7=>?_) (fun hc8=>?_)
 ·refine Je 2 [] [20] [(4,vI (-1))] h fun a w h=>qV (za5 (rT (.c (.d (.raw (.int .i64 (-1))))) h rfl ?_));have hz:zbp x y=(-1):=(orZ2_r _ _ (by have:=hc2;simpa using this)).trans (by unfold zeb zbx;first | (simp [hc6,hc7];done) | (cases hx_:x.eq <;> cases hy_:y.eq <;> simp_all));rw [hz];try rfl
 refine qU (za2 (qW (Jq 2 [] [(4,vI 0),(27,vb false)] [] h fun a w h=>zaw h (qU (za2 (Jd 2 [] [27] [] [] h fun a w h=>qV (rT (.c (.d (.raw (.int .i64 0)))) h rfl ?_)))))));have hz:zbp x y=0:=(orZ2_r _ _ (by have:=hc2;simpa using this)).trans (by unfold zeb zbx;first | (simp [hc6,hc8];done) | (cases hx_:x.eq <;> cases hy_:y.eq <;> simp_all));rw [hz];try rfl
theorem LR4Tight (r:za6) (hr:TOk 400000000 9000 r.t):Fn Tryz.prog 25 [] [.t (.agg ([.d (.sl 3 (r.t.parts.map za3.d))]++zi r.t.k++[.d (.raw (.bool r.eq))]))] (.tup [.agg ([.d (.sl 3 ((zag r).1.t.parts.map za3.d))]++zi (zag r).1.t.k++[.d (.raw (.bool (zag r).1.eq))]),.c (.d (.raw (.int .i64 (zag r).2)))]) []:=by
 have hpk:=(hr.plain (by decide)).kl;refine fB Tryz.func25 rfl 76 fun w H B a h=>Jq 0 [] [(1,vp 0 0),(2,vp 1 0),(3,vI 0)] [(0,.box ([.d (.sl 3 (r.t.parts.map za3.d))]++zi r.t.k++[.d (.raw (.bool r.eq))])),(1,.box zR0)] h fun a w h=>Jg 2 [(2,.call (SRPlain' r.t hr (by decide) (by decide)))] [] [(4,vp 2 0)] [] [(2,.box ([.d (.sl 3 ((za1 r.t).parts.map za3.d))]++zi (za1 r.t).k))] h fun a w h=>Je 3 [(2,.call (zc7 (za1 r.t).k ((TOk.plain hr (by decide))).kb (by omega)))] [] [(5,vI (sgn (za1 r.t).k.val))] h fun a w h=>qW (Je 3 [(2,.len (za4 3 za3.d ((za1 r.t).parts)))] [] [(21,vb (((za1 r.t).parts.length:Int) == 0))] h fun a w h=>cS (((za1 r.t).parts.length:Int) == 0) h (fun hc1=>?_) (fun hc8=>?_))
 ·refine qW ?_;have hpl:(za1 r.t).parts.length=0:=by have:=hc1;simpa using this
  rcases bE (sgn (za1 r.t).k.val == 0) with hc2 | hc3
  ·refine Je 3 [(1,.cmp (op:=.eql) (m:=(sgn (za1 r.t).k.val)) (n:=0) (b:=true) .i64 hc2)] [5,21] [(32,vb true)] h fun a w h=>cS true h (fun _=>?_) nofun
   refine Je 3 [] [32] [(3,vI 1)] h fun a w h=>qV (za5 (za5 ?_));replace h:=zb2 1 0 3 zR0 h;refine zds [.agg [.d (.sl 3 ([].map za3.d)),.d (.raw (.bool false)),.d (nsl []),.d (.raw (.bool false))],.c (.d (.raw (.int .i64 1)))] h Exit.ret (.inl rfl)  rfl ⟨RV.agg _ 1 0 _ _ _ _ zjm rfl rfl rfl rfl,RV.tmp _ _ rfl,trivial⟩ ?_;rw [zhd hpl,hc2];try rfl
  rcases bE r.eq with hc4 | hc5
  ·rw [hc4] at h;refine Jq 3 [(1,.cmp (op:=.eql) (m:=(sgn (za1 r.t).k.val)) (n:=0) (b:=false) .i64 hc3)] [(1,vp 0 0),(2,vp 1 0),(3,vI 0),(4,vp 2 0),(32,vb false)] [(0,.box ([.d (.sl 3 (r.t.parts.map za3.d))]++zi r.t.k++[.d (.raw (.bool true))])),(1,.box zR0),(2,.box ([.d (.sl 3 ((za1 r.t).parts.map za3.d))]++zi (za1 r.t).k))] h fun a w h=>zaw h (qU (za2 (Je 3 [] [32] [(3,vI (-1))] h fun a w h=>qV (za5 ?_))));replace h:=zb2 1 0 3 zR0 h;refine zds [.agg [.d (.sl 3 ([].map za3.d)),.d (.raw (.bool false)),.d (nsl []),.d (.raw (.bool false))],.c (.d (.raw (.int .i64 (-1))))] h Exit.ret (.inl rfl)  rfl ⟨RV.agg _ 1 0 _ _ _ _ zjm rfl rfl rfl rfl,RV.tmp _ _ rfl,trivial⟩ ?_;rw [zhd hpl,hc3,hc4];try rfl
  rw [hc5] at h;refine Jq 3 [(1,.cmp (op:=.eql) (m:=(sgn (za1 r.t).k.val)) (n:=0) (b:=false) .i64 hc3)] [(1,vp 0 0),(2,vp 1 0),(3,vI 0),(4,vp 2 0),(32,vb (decide (sgn (za1 r.t).k.val>0)))] [(0,.box ([.d (.sl 3 (r.t.parts.map za3.d))]++zi r.t.k++[.d (.raw (.bool false))])),(1,.box zR0),(2,.box ([.d (.sl 3 ((za1 r.t).parts.map za3.d))]++zi (za1 r.t).k))] h fun a w h=>zae (sgn (za1 r.t).k.val>0) h (fun hc6 hc6'=>?_) (fun hc7 hc7'=>?_)
  ·refine Je 3 [] [32] [(3,vI 1)] h fun a w h=>qV (za5 (za5 ?_));replace h:=zb2 1 0 3 zR0 h;refine zds [.agg [.d (.sl 3 ([].map za3.d)),.d (.raw (.bool false)),.d (nsl []),.d (.raw (.bool false))],.c (.d (.raw (.int .i64 1)))] h Exit.ret (.inl rfl)  rfl ⟨RV.agg _ 1 0 _ _ _ _ zjm rfl rfl rfl rfl,RV.tmp _ _ rfl,trivial⟩ ?_;rw [zhd hpl,hc3,hc5,hc6];try rfl
  refine qU (za2 (Je 3 [] [32] [(3,vI (-1))] h fun a w h=>qV (za5 ?_)));replace h:=zb2 1 0 3 zR0 h;refine zds [.agg [.d (.sl 3 ([].map za3.d)),.d (.raw (.bool false)),.d (nsl []),.d (.raw (.bool false))],.c (.d (.raw (.int .i64 (-1))))] h Exit.ret (.inl rfl)  rfl ⟨RV.agg _ 1 0 _ _ _ _ zjm rfl rfl rfl rfl,RV.tmp _ _ rfl,trivial⟩ ?_;rw [zhd hpl,hc3,hc5,hc7];try rfl
 refine qU (za2 ?_);have hpl:(za1 r.t).parts.length≠0:=by have:=hc8;simpa using this
 have hcon:=con_pos (t:=r.t) (by omega);have hcon2:zbm (za1 (za1 r.t)).parts=zbm (za1 r.t).parts:=zfr _;have hsl:=shr_len r.t;obtain ⟨r3,er3,vr3,or3,lr3⟩:=mkZ (v:=zbm (za1 (za1 r.t)).parts) (m:=9002) (con_len' (TOk.plain hr (by decide)) (by decide));refine Jg 3 [(1,.call (Fn.cast (SRContent (za1 r.t) (TOk.plain hr (by decide)) (by decide) (by decide)) (congrArg vz er3.symm)))] [5,21] [(6,vp 3 0)] [] [(3,.box (zi r3))] h fun a w h=>?_;obtain ⟨r4q,er4q,vr4q,or4q,lr4q⟩:=mkZ (v:=(za1 r.t).k.val.fdiv r3.val) (m:=(za1 r.t).k.abs.length) (zfp ((TOk.plain hr (by decide))).kb (by omega));obtain ⟨r4r,er4r,vr4r,or4r,lr4r⟩:=mkZ (v:=(za1 r.t).k.val.fmod r3.val) (m:=r3.abs.length) (zgv or3 (by omega));refine Jg 4 [(3,.call (Fn.cast (SRDiv (za1 r.t).k r3 ((TOk.plain hr (by decide))).kb or3 (by omega) (by omega) (by omega)) (show _=(.tup [.agg (zi r4q),.agg (zi r4r),.c (.d (.raw (.int .i64 0)))]:V) by rw [er4q,er4r];try rfl)))] [6] [(8,vp 5 0)] [3] [(5,.box (zi r4r))] h fun a w h=>qW ?_
 rcases bE r.eq with hc9 | hc14
 ·rw [hc9] at h;refine Jq 6 [(4,.call (zc7 r4r or4r (by omega)))] [(1,vp 0 0),(2,vp 1 0),(3,vI 0),(4,vp 2 0),(51,vb (sgn r4r.val != 0))] [(0,.box ([.d (.sl 3 (r.t.parts.map za3.d))]++zi r.t.k++[.d (.raw (.bool true))])),(1,.box zR0),(2,.box ([.d (.sl 3 ((za1 r.t).parts.map za3.d))]++zi (za1 r.t).k))] h fun a w h=>cS (sgn r4r.val != 0) h (fun hc10=>?_) (fun hc11=>?_)
  ·refine Je 6 [] [51] [(3,vI (-1))] h fun a w h=>qV (za5 ?_);replace h:=zb2 1 0 3 zR0 h;refine zds [.agg [.d (.sl 3 ([].map za3.d)),.d (.raw (.bool false)),.d (nsl []),.d (.raw (.bool false))],.c (.d (.raw (.int .i64 (-1))))] h Exit.ret (.inl rfl)  rfl ⟨RV.agg _ 1 0 _ _ _ _ zjm rfl rfl rfl rfl,RV.tmp _ _ rfl,trivial⟩ ?_;rw [tight_no hpl hc9 (by rw [<- vr3,<- vr4r];exact sgn_ne hc10)];try rfl
  refine qU (za2 (Jg 6 [(1,.call (SRShrink (za1 r.t) (TOk.plain hr (by decide)) (by decide) (by decide)))] [4,51] [(10,vp 6 0)] [2] [(6,.box ([.d (.sl 3 ((zby (za1 r.t)).parts.map za3.d))]++zi (zby (za1 r.t)).k))] h fun a w h=>qW ?_));obtain ⟨x7,hx7⟩:=gl ((zby (za1 r.t)).parts) 0;obtain ⟨ox7,lx7⟩:=((shr_tok (TOk.plain hr (by decide)) (by decide))).get hx7;refine Je 8 [(5,.g (xD 63 62 zc1 (za8 hx7 (f:=za3.d)) (OV.const (.int .i64 0) rfl))),(8,.call (zc7 x7.c ox7 (by omega)))] [] [(68,vb (decide (sgn x7.c.val<0)))] h fun a w h=>zae (sgn x7.c.val<0) h (fun hc12 hc12'=>?_) (fun hc13 hc13'=>?_)
  ·obtain ⟨r9,er9,vr9,or9,lr9⟩:=mkZ (v:=(-1)) (m:=2) (ZI.len_of (by have:=pw2;omega));refine Jh 8 [(1,.call (Fn.cast (SROf (-1) ⟨by omega,by omega⟩) (congrArg vz er9.symm))),(2,.call (SRScale (zby (za1 r.t)) r9 (shr_tok (TOk.plain hr (by decide)) (by decide)) (by decide) or9 lr9 (by decide)))] [68] [] [] [(6,.box ([.d (.sl 3 ((zam (zby (za1 r.t)) r9).parts.map za3.d))]++zi (zam (zby (za1 r.t)) r9).k))] h fun a w h=>za2 (Jg 8 [] [1,10] [] [0,6] [(1,.box ([.d (.sl 3 ((zam (zby (za1 r.t)) r9).parts.map za3.d))]++zi (zam (zby (za1 r.t)) r9).k++[.d (.raw (.bool true))]))] h fun a w h=>qV (zds [.agg ([.d (.sl 3 ((zam (zby (za1 r.t)) r9).parts.map za3.d))]++zi (zam (zby (za1 r.t)) r9).k++[.d (.raw (.bool true))]),.c (.d (.raw (.int .i64 0)))] h Exit.ret (.inl rfl)  rfl ⟨RV.agg _ 1 0 _ _ _ _ zjm rfl rfl rfl rfl,RV.tmp _ _ rfl,trivial⟩ ?_));rw [er9];rw [zjx hpl hc9 (by rw [<- vr3,<- vr4r];exact sgn_eq hc11) (b:=true) (by rw [zkc hx7];exact hc12)];try rfl
  refine qU (za2 (Jg 8 [] [1,10,68] [] [0,6] [(1,.box ([.d (.sl 3 ((zby (za1 r.t)).parts.map za3.d))]++zi (zby (za1 r.t)).k++[.d (.raw (.bool true))]))] h fun a w h=>qV (zds [.agg ([.d (.sl 3 ((zby (za1 r.t)).parts.map za3.d))]++zi (zby (za1 r.t)).k++[.d (.raw (.bool true))]),.c (.d (.raw (.int .i64 0)))] h Exit.ret (.inl rfl)  rfl ⟨RV.agg _ 1 0 _ _ _ _ zjm rfl rfl rfl rfl,RV.tmp _ _ rfl,trivial⟩ ?_)));rw [zjx hpl hc9 (by rw [<- vr3,<- vr4r];exact sgn_eq hc11) (b:=false) (by rw [zkc hx7];exact hc13)];try rfl
 rw [hc14] at h;refine Jq 8 [] [(1,vp 0 0),(2,vp 1 0),(3,vI 0),(4,vp 2 0),(51,vb false)] [(0,.box ([.d (.sl 3 (r.t.parts.map za3.d))]++zi r.t.k++[.d (.raw (.bool false))])),(1,.box zR0),(2,.box ([.d (.sl 3 ((za1 r.t).parts.map za3.d))]++zi (za1 r.t).k))] h fun a w h=>zaw h (qU (za2 (Jg 8 [(1,.call (SRShrink (za1 r.t) (TOk.plain hr (by decide)) (by decide) (by decide)))] [4,51] [(10,vp 8 0)] [2] [(8,.box ([.d (.sl 3 ((zby (za1 r.t)).parts.map za3.d))]++zi (zby (za1 r.t)).k))] h fun a w h=>qW (Je 10 [] [] [(68,vb false)] h fun a w h=>zaw h (qU (za2 (Jg 10 [] [1,10,68] [] [0,8] [(1,.box ([.d (.sl 3 ((zby (za1 r.t)).parts.map za3.d))]++zi (zby (za1 r.t)).k++[.d (.raw (.bool false))]))] h fun a w h=>qV (zds [.agg ([.d (.sl 3 ((zby (za1 r.t)).parts.map za3.d))]++zi (zby (za1 r.t)).k++[.d (.raw (.bool false))]),.c (.d (.raw (.int .i64 0)))] h Exit.ret (.inl rfl)  rfl ⟨RV.agg _ 1 0 _ _ _ _ zjm rfl rfl rfl rfl,RV.tmp _ _ rfl,trivial⟩ ?_))))))));rw [tight_le hpl hc14];try rfl
theorem neg_neg (t:zaf) (s:zaf):zgo (za1 t) s=zgo (zhh (zhh t)) s:=by
 unfold zgo
 rw [add_eq (u:=zh4 (zhh (zhh t)) (zam s (ZI.of (-1)))) ?_ ?_]
 ·unfold zh4;rw [zbc]
 ·intro v;rw [coef_add,zj8];unfold zhh;simp only [coef_scale,ZI.val_of];omega
 ·rw [show (zh4 (zhh (zhh t)) (zam s (ZI.of (-1)))).k.val=(zhh (zhh t)).k.val+(zam s (ZI.of (-1))).k.val from k_add _ _,show (za1 t).k.val=t.k.val from ZI.val_of _]
  unfold zhh;simp only [k_scale,ZI.val_of];omega
theorem low_two (t:zaf):(⟨zgo (za1 t) (zc4 (ZI.of 1)),false⟩:za6)=lowR (zhh t):=by unfold lowR;rw [neg_neg]
theorem LR4Deny (r:za6) (hr:TOk 300000000 2000 r.t):Fn Tryz.prog 137 [] [(vR r)] (vRs (zat r)) []:=by
 refine fB Tryz.func137 rfl 29 fun w H B a h=>Jq 0 [] [(1,vp 0 0),(2,vW zai)] [(0,.box (zR_ r))] h fun a w h=>?_
 obtain ⟨r1,er1,vr1,or1,lr1⟩:=mkZ (v:=1) (m:=2) (ZI.len_of (by have:=pw2;omega));refine Jg 1 [(0,.call (Fn.cast (SROf 1 ⟨by omega,by omega⟩) (congrArg vz er1.symm))),(1,.call (SRNumber r1 or1 (by omega)))] [] [(3,vp 1 0)] [] [(1,.box (zT (zc4 r1)))] h fun a w h=>?_;obtain ⟨r3,er3,vr3,or3,lr3⟩:=mkZ (v:=(-1)) (m:=2) (ZI.len_of (by have:=pw2;omega));refine Jg 2 [(2,.call (Fn.cast (SROf (-1) ⟨by omega,by omega⟩) (congrArg vz er3.symm))),(3,.call (SRScale r.t r3 hr (by decide) or3 lr3 (by decide)))] [] [(4,vp 2 0)] [] [(2,.box (zT (zam r.t r3)))] h fun a w h=>Jg 3 [(2,.call (SRTSub (zam r.t r3) (zc4 r1) (((TOk.mul hr or3 lr3).plain (by decide)).mono (by decide) (by decide)) ((TOk.num (ZI.lb_of _) (bK (zcp or1) (by omega))).mono (by decide) (by decide))))] [4] [(5,vp 3 0)] [2] [(3,.box ((zT (zgo (zam r.t r3) (zc4 r1)))++[cB false]))] h fun a w h=>qW (Je 4 [] [] [(18,vb (!r.eq))] h fun a w h=>cS (!r.eq) h (fun hc1=>?_) (fun hc2=>?_))
 ·refine Je 4 [(1,.g (bD 20 ([(za6.mk (zgo (zam r.t r3) (zc4 r1)) false)].map za6.d) [(19,vG ((zT (zgo (zam r.t r3) (zc4 r1)))++[cB false]))] kc_5 (.cons (i:=0) (OV.tmp 19 _) (.nil)) (by kernel_rfl) (by simp [za6.d])))] [18] [(2,(vRs [(za6.mk (zgo (zam r.t r3) (zc4 r1)) false)]))] h fun a w h=>qV (za5 (rT (.c (cRs [(za6.mk (zgo (zam r.t r3) (zc4 r1)) false)])) h rfl ?_));subst er1;subst er3;unfold zat;rw [if_neg (by rw [(show (r.eq)=false from by simpa using hc1)];exact Bool.noConfusion)];first | (rw [<- low_two];try rfl) | rfl
 refine qU (za2 (Jq 4 [(2,.call (SRPlain' r.t hr (by decide) (by decide))),(4,.call (SRTSub (za1 r.t) (zc4 r1) ((TOk.plain hr (by decide)).mono (by decide) (by decide)) ((TOk.num (ZI.lb_of _) (bK (zcp or1) (by omega))).mono (by decide) (by decide)))),(7,.g (Op.buildD (d:=28) (len:=2) (rows:=[(za6.mk (zgo (za1 r.t) (zc4 r1)) false),(za6.mk (zgo (zam r.t r3) (zc4 r1)) false)].map za6.d) (rs:=[(26,vG ((zT (zgo (za1 r.t) (zc4 r1)))++[cB false])),(27,vG ((zT (zgo (zam r.t r3) (zc4 r1)))++[cB false]))]) kc_5 (.cons (i:=0) (OV.tmp 26 _) (.cons (i:=1) (OV.tmp 27 _) (.nil))) (by kernel_rfl) rfl (by simp [za6.d]) (by decide) (by decide)))] [(2,(vRs [(za6.mk (zgo (za1 r.t) (zc4 r1)) false),(za6.mk (zgo (zam r.t r3) (zc4 r1)) false)]))] [] h fun a w h=>qV (rT (.c (cRs [(za6.mk (zgo (za1 r.t) (zc4 r1)) false),(za6.mk (zgo (zam r.t r3) (zc4 r1)) false)])) h rfl ?_)));subst er1;subst er3;unfold zat;rw [if_pos (show (r.eq)=true from by simpa using hc2)];first | (rw [<- low_two];try rfl) | rfl
theorem zii (b:Bool) :Fn Tryz.prog 135 [] [vb b] (vF (zbo b)) []:=by
 refine fB Tryz.func135 rfl 6 fun w H B a h=>Jq 0 [] [(0,vb b),(2,vp 0 0)] [(0,.box zF0)] h fun a w h=>qW (Je 1 [] [0] [(3,vb b)] h fun a w h=>cS b h (fun hc1=>?_) (fun hc2=>?_))
 ·refine Je 1 [] [3] [] h fun a w h=>qV (za5 ?_);replace h:=zb2 0 1 3 zF0 h;replace h:=zb2 0 5 6 [cI 0,cPs [],cB false,.d (nsl []),cB false,nCl] h;refine rA 0 [cI 0,cPs [],cB false,.d (nsl []),cB false,cFs []] h zc0 rfl ?_;rw [hc1];rfl
 refine qU (za2 (Jd 1 [] [3] [] [(0,.box [cI 1,nCl,cB false,.d (nsl []),cB false,nCl])] h fun a w h=>qV ?_));replace h:=zb2 0 1 3 [cI 1,nCl,cB false,.d (nsl []),cB false,nCl] h;replace h:=zb2 0 5 6 [cI 1,cPs [],cB false,.d (nsl []),cB false,nCl] h;refine rA 0 [cI 1,cPs [],cB false,.d (nsl []),cB false,cFs []] h zc0 rfl ?_;rw [hc2];rfl
theorem LR5Atom (r:za6) (hr:TOk 1000000000 10000 r.t):Fn Tryz.prog 136 [] [(vR r)] (vF (zbd r)) []:=by
 refine fB Tryz.func136 rfl 10 fun w H B a h=>Jq 0 [] [(1,vp 0 0),(2,vp 1 0)] [(0,.box (zR_ r)),(1,.box zF0)] h fun a w h=>Jd 2 [(2,.call (SRPlain' r.t hr (by decide) (by decide)))] [1] [] [(1,.box ([cI 2,cPs (za1 r.t).parts]++zi (za1 r.t).k++[cB r.eq,nCl]))] h fun a w h=>qV ?_
 replace h:=zb2 1 5 6 ([cI 2,cPs (za1 r.t).parts]++zi (za1 r.t).k++[cB r.eq,nCl]) h;refine rA 1 ([cI 2,cPs (za1 r.t).parts]++zi (za1 r.t).k++[cB r.eq,cFs []]) h zc0 rfl ?_;rfl
theorem inw_0 {d:Bool} (h:f.kind=0):f.inw d=zbo (!d):=by rw [za0.inw_eq,h];rfl
theorem inw_2f {d:Bool} (h:f.kind=2) (hd:d=false):f.inw d=zbd f.r:=by rw [za0.inw_eq,h,hd];rfl
theorem inw_2t {d:Bool} (h:f.kind=2) (hd:d=true):f.inw d=⟨5,zR,(zat f.r).map zbd⟩:=by rw [za0.inw_eq,h,hd];rfl
theorem inw_3n {d:Bool} (h:f.kind=3) (hl:f.kids.length=0):f.inw d=zbo d:=by rw [za0.inw_eq,h,cV.1 hl];rfl
theorem inw_3c {g:za0} {d:Bool} (h:f.kind=3) (hg:f.kids[0]?=some g):f.inw d=g.inw (!d):=by
 obtain ⟨tl,e⟩:=zj6 hg
 rw [za0.inw_eq,h,e];rfl
theorem inw_45 {d:Bool} (h:f.kind=4\/f.kind=5):f.inw d=⟨if d=true then 9 - f.kind else f.kind,zR,f.kids.map fun g=>g.inw d⟩:=by
 rw [za0.inw_eq];unfold inwK
 rw [if_neg (by omega),if_neg (by omega),if_neg (by omega),if_pos h,b7];rfl
theorem inw_x {d:Bool} (h0:f.kind≠0) (h2:f.kind≠2) (h3:f.kind≠3) (h4:f.kind≠4) (h5:f.kind≠5):f.inw d=zbo d:=by
 rw [za0.inw_eq];unfold inwK
 rw [if_neg h0,if_neg h2,if_neg h3,if_neg (by omega)]
theorem merge_2k (h:f.kind=2) (hk:(zag f.r).2≠0):f.merge=zbo (decide ((zag f.r).2>0)):=by
 rw [za0.merge_eq];unfold zfv zav;rw [if_pos h,if_neg hk]
theorem merge_2o (h:f.kind=2) (hk:(zag f.r).2=0):f.merge=⟨2,(zag f.r).1,[]⟩:=by
 rw [za0.merge_eq];unfold zfv zav;rw [if_pos h,if_pos hk]
theorem merge_x (h2:¬ f.kind=2) (h4:¬ f.kind=4) (h5:¬ f.kind=5):f.merge=f:=by
 rw [za0.merge_eq];unfold zfv;rw [if_neg h2,if_neg (by omega)];cases f;rfl
theorem zi4 (h:f.kind=4\/f.kind=5):f.merge=zb7 f.kind (f.kids.map za0.merge) []:=by
 rw [za0.merge_eq];unfold zfv;rw [if_neg (by omega),if_pos h];rfl
theorem merge_nodes (f:za0):f.merge.nodes<=f.nodes :=
 za0.ind (P:=fun f=>f.merge.nodes<=f.nodes) (fun k r ks ih=>by
  rw [za0.merge_eq,za0.nodes_eq ⟨k,r,ks⟩]
  show (zfv k r ks (ks.map za0.merge)).nodes<=1+(ks.map za0.nodes).sum
  unfold zfv
  split
  ·rw [zfl];omega
  ·split
   ·have h1:=zd4 (k:=k) (ks.map za0.merge) []
    rw [b7] at h1
    have h2:(ks.map (za0.nodes ∘ za0.merge)).sum<=(ks.map za0.nodes).sum:=zg2 fun g hg=>ih g hg
    show (zb7 k _ []).nodes<=_
    simp only [bL,List.sum_nil] at h1
    omega
   ·rw [za0.nodes_eq];exact bI _) f
theorem merges_nodes (f:za0):((f.kids.map za0.merge).map za0.nodes).sum<=f.nodes:=by
 rw [b7,za0.nodes_eq]
 have h2:(f.kids.map (za0.nodes ∘ za0.merge)).sum<=(f.kids.map za0.nodes).sum:=zg2 fun g _=>merge_nodes g
 omega
theorem Linward0 (f:za0) (d:Bool) (ih:∀ g ∈ cnt f.kind f.kids,∀ d:Bool,Fn Tryz.prog 95 [] [(vF g),vb d] (vF (za0.inw g d)) []) (hf:f.okB 300000000 2000):Fn Tryz.prog 95 [] [(vF f),vb d] (vF (za0.inw f d)) []:=by
 have ldn:=deny_len f.r;have lkm:=zdc hf;have lck:=zeh hf;refine fB Tryz.func95 rfl 91 fun w H B a h=>?_
 refine Jq 0 [] [(1,vb d),(2,vp 0 0),(4,vp 1 0)] [(0,.box (zF f)),(1,.box zF0)] h fun a w h=>?_;refine qW (Je 2 [] [] [(11,vI f.kind)] h fun a w h=>?_);refine qZ (Je 2 [] [] [(12,vb (f.kind == 0))] h fun a w h=>?_);refine cS (f.kind == 0) h (fun hc1=>?_) (fun hc2=>?_)
 ·have hc1':=hc1;(try simp at hc1');refine Jd 2 [(2,.call (zii (!d)))] [2,11,12] [] [(1,.box (zF (zbo (!d))))] h fun a w h=>?_;refine qV (za9 (za5 ?_));refine rA 1 (zF (zbo (!d))) h zc0 rfl ?_;rw [inw_0 (by have:=hc1;simpa using this)];try rfl
 have hc2':=hc2;(try simp at hc2');refine Je 2 [] [12] [(17,vb (f.kind == 2))] h fun a w h=>?_;refine cS (f.kind == 2) h (fun hc3=>?_) (fun hc8=>?_)
 ·have hc3':=hc3;(try simp at hc3');refine qW (Je 2 [] [11,17] [(20,vb (!d))] h fun a w h=>?_);refine cS (!d) h (fun hc4=>?_) (fun hc5=>?_)
  ·have hc4':=hc4;(try simp at hc4');refine Jg 2 [(2,.call (LR5Atom f.r ((rel_ok hf hc3).mono (by decide) (by decide))))] [20] [] [] [(1,.box (zF (zbd f.r)))] h fun a w h=>?_;refine qV (za5 (za9 (za5 ?_)));refine rA 1 (zF (zbd f.r)) h zc0 rfl ?_;rw [inw_2f (by have:=hc3;simpa using this) (by have:=hc4;simpa using this)];try rfl
  have hc5':=hc5;(try simp at hc5');refine qU (za2 (Jg 2 [] [20] [(5,vp 2 0)] [] [(2,.box [cI 5,nCl,cB false,.d (nsl []),cB false,nCl])] h fun a w h=>?_));refine Jg 3 [(2,.call (LR4Deny f.r (rel_ok hf hc3)))] [2] [(6,(vRs (zat f.r)))] [0] [] h fun a w h=>?_;refine qW (Je 3 [] [] [(7,vI 0)] h fun a w h=>?_);refine qZ ?_;replace h:=zg5 2 5 3 6 35 [cI 5,nCl,cB false,.d (nsl []),cB false,nCl] h
  refine zbz (ι:=(Nat)) (fun j=>j<=(zat f.r).length)
    [] (fun j=>[(7,vN j)])
    [] (fun j=>[(2,.box [cI 5,nCl,cB false,.d (nsl []),cB false,.own 3 (((zat f.r).take j).map zbd).length]),(3,.row 35 6 ((((zat f.r).take j).map zbd).map za0.d))])
    (fun j=>(zat f.r).length - j) 0 ?_ h ?_
  ·exact bC _
  clear h;rintro j a w hI h;have lmj:(((zat f.r).take j).map zbd).length<=j:=by rw [bF,bS];omega
  refine qW (Je 4 [(2,.len (za4 4 za6.d (zat f.r)))] [] [(31,vb (decide ((j:Int)<((zat f.r).length:Int))))] h fun a w h=>?_);refine zae ((j:Int)<((zat f.r).length:Int)) h (fun hc6 hc6'=>?_) (fun hc7 hc7'=>?_)
  ·refine qU (za2 (qW (qZ ?_)));obtain ⟨x4,hx4⟩:=gl (zat f.r) j;refine Jh 4 [(4,.g (xD 38 36 kc_3 (za8 hx4 (f:=za6.d)) (OV.tmp 37 _))),(6,.call (LR5Atom x4 ((deny_tok (rel_ok hf hc3) (by decide) x4 (lM hx4)).mono (by decide) (by decide)))),(7,.g (bD 41 ([(zbd x4)].map za0.d) [(40,(vF (zbd x4)))] kb_1 (.cons (i:=0) (OV.tmp 40 _) (.nil)) (by simp only [bG,bL,bU,bV,bN,za0.d_eq];kernel_rfl) (by simp [za0.d_len]))),(8,.g (aD 42 35 41 3 4 (((zat f.r).take j).map zbd) [(zbd x4)] za0.d la_7 (by simp [za0.d_len])))] [31] [] [3] [(2,.box ([cI 5,nCl,cB false,.d (nsl []),cB false,.own 4 ((((zat f.r).take j).map zbd)++[(zbd x4)]).length])),(4,.row 35 6 (((((zat f.r).take j).map zbd)++[(zbd x4)]).map za0.d))] h fun a w h=>?_;refine za7 (za2 (Jf 5 [(1,.j1 j)] [] [(7,vI ((j:Int)+1))] h fun a w h=>?_));refine za2 ?_;rw [show (((((zat f.r).take j).map zbd)++[(zbd x4)]):List za0)=(((zat f.r).take (j+1)).map zbd) from (ze6 hx4)] at h;replace h:=zcr 4 3 h;refine zaa (x:=j) (y:=j+1) h ?_ ?_
   ·have:=zac hx4;show j+1<=(zat f.r).length;omega
   show (zat f.r).length - (j+1)<(zat f.r).length - j;have:=zac hx4;omega
  refine exA (Jg 5 [] [5,6,7,31] [] [2] [(1,.box [cI 5,nCl,cB false,.d (nsl []),cB false,.own 3 (((zat f.r).take j).map zbd).length])] h fun a w h=>?_);refine qV (za9 (za5 ?_));rw [show ((((zat f.r).take j).map zbd):List za0)=((zat f.r).map zbd) from (by rw [bP (by omega)])] at h;replace h:=zb2 1 1 3 [cI 5,nCl,cB false,.d (nsl []),cB false,.own 3 ((zat f.r).map zbd).length] h;replace h:=zh5 3 6 35 (((zat f.r).map zbd).map za0.d) h [((zat f.r).map zbd).length] ⟨by first | exact (bF _).symm | (simp;done) | (simp;omega),trivial⟩;refine rA 1 [cI 5,cPs [],cB false,.d (nsl []),cB false,cFs ((zat f.r).map zbd)] h zc0 rfl ?_;rw [inw_2t (by have:=hc3;simpa using this) (by have:=hc5;simpa using this)];try rfl
 have hc8':=hc8;(try simp at hc8');refine Je 5 [] [17] [(45,vb (f.kind == 3))] h fun a w h=>?_;refine cS (f.kind == 3) h (fun hc9=>?_) (fun hc12=>?_)
 ·have hc9':=hc9;(try simp at hc9');refine Je 5 [(2,.len (za4 6 za0.d f.kids))] [11,45] [(50,vb (decide ((f.kids.length:Int)>0)))] h fun a w h=>?_;refine zae ((f.kids.length:Int)>0) h (fun hc10 hc10'=>?_) (fun hc11 hc11'=>?_)
  ·obtain ⟨x6,hx6⟩:=gl f.kids 0;refine Jg 5 [(2,.g (xD 53 52 zfx ((za8 hx6 (f:=za0.d)).trans (congrArg some (za0.d_eq x6))) (OV.const (.int .i64 0) rfl))),(6,.call (ih x6 (by unfold cnt;rw [if_neg (by omega),if_pos (by omega)];exact zg7 hx6) (!d)))] [2,50] [] [0] [(1,.box (zF (za0.inw x6 (!d))))] h fun a w h=>?_;refine qV (za9 (za5 ?_));refine rA 1 (zF (za0.inw x6 (!d))) h zc0 rfl ?_;rw [inw_3c (by have:=hc9;simpa using this) hx6];try rfl
  refine qU (za7 (za2 (Jq 5 [(1,.call (zii d))] [(4,vp 1 0)] [(1,.box (zF (zbo d)))] h fun a w h=>?_)));refine qV ?_;refine rA 1 (zF (zbo d)) h zc0 rfl ?_;rw [inw_3n (by have:=hc9;simpa using this) (by have:=hc11;simp at this;first | omega | (rw [this];rfl))];try rfl
 have hc12':=hc12;(try simp at hc12');refine midH h [(1,vb d),(2,vp 0 0),(4,vp 1 0),(58,vb (decide (f.kind=4\/f.kind=5)))] [(0,.box (zF f)),(1,.box zF0)] ?_ (fun a w h=>?_)
 ·refine Je 5 [] [45] [(58,vb (f.kind == 4))] h fun a w h=>?_;refine cS (f.kind == 4) h (fun hc13=>?_) (fun hc14=>?_)
  ·have hc13':=hc13;(try simp at hc13');refine qU (za2 ?_);have hjn:decide (f.kind=4\/f.kind=5)=(f.kind == 4):=by rw [hc13];exact decide_eq_true (.inl (by have:=hc13;simpa using this))
   replace h:=cvM [] [(58,vb (decide (f.kind=4\/f.kind=5)))] [] [] (by rw [hjn];kernel_rfl) h;exact atS h
  have hc14':=hc14;(try simp at hc14');refine Jf 5 [] [11] [(58,vb (f.kind == 5))] h fun a w h=>?_;refine za2 ?_;have hjn:decide (f.kind=4\/f.kind=5)=(f.kind == 5):=by exact decide_eq_decide.2 ⟨fun e=>e.resolve_left (by have:=hc14;simpa using this),.inr⟩
  replace h:=cvM [] [(58,vb (decide (f.kind=4\/f.kind=5)))] [] [] (by rw [hjn];kernel_rfl) h;exact atS h
 refine zae (f.kind=4\/f.kind=5) h (fun hc15 hc15'=>?_) (fun hc20 hc20'=>?_)
 ·refine Jg 5 [] [58] [(8,vp 5 0)] [] [(5,.box [cI f.kind,nCl,cB false,.d (nsl []),cB false,nCl])] h fun a w h=>?_;refine midH h [(1,vb d),(2,vp 0 0),(4,vp 1 0),(8,vp 5 0)] [(0,.box (zF f)),(1,.box zF0),(5,.box [cI (if d=true then 9 - f.kind else f.kind),nCl,cB false,.d (nsl []),cB false,nCl])] ?_ (fun a w h=>?_)
  ·refine Je 6 [] [] [(64,vb d)] h fun a w h=>?_;refine cS d h (fun hc16=>?_) (fun hc17=>?_)
   ·refine Jh 6 [(2,.sub .i64 (m:=9) (n:=f.kind) i6)] [64] [] [] [(5,.box [cI (9 - f.kind),nCl,cB false,.d (nsl []),cB false,nCl])] h fun a w h=>?_;refine za2 ?_;have hjn:(if d=true then 9 - f.kind else f.kind)=9 - f.kind:=if_pos hc16;replace h:=cvM [] [] [] [(5,.box [cI (if d=true then 9 - f.kind else f.kind),nCl,cB false,.d (nsl []),cB false,nCl])] (by rw [hjn];kernel_rfl) h;exact atS h
   refine qU (za2 ?_);have hjn:(if d=true then 9 - f.kind else f.kind)=f.kind:=if_neg (by rw [hc17];exact Bool.noConfusion);replace h:=cvM [] [] [] [(5,.box [cI (if d=true then 9 - f.kind else f.kind),nCl,cB false,.d (nsl []),cB false,nCl])] (by rw [hjn];kernel_rfl) h;exact atS h
  refine qW (Je 6 [] [] [(9,vI 0)] h fun a w h=>?_);refine qZ ?_;have lck2:f.kids.length<=1000000000000:=by have:=lck;unfold cnt at this;rw [if_pos (by omega)] at this;exact this
  replace h:=zg5 5 5 6 6 35 [cI (if d=true then 9 - f.kind else f.kind),nCl,cB false,.d (nsl []),cB false,nCl] h
  refine zbz (ι:=(Nat)) (fun j=>j<=f.kids.length)
    [] (fun j=>[(9,vN j)])
    [] (fun j=>[(5,.box [cI (if d=true then 9 - f.kind else f.kind),nCl,cB false,.d (nsl []),cB false,.own 6 ((f.kids.take j).map (fun g=>za0.inw g d)).length]),(6,.row 35 6 (((f.kids.take j).map (fun g=>za0.inw g d)).map za0.d))])
    (fun j=>f.kids.length - j) 0 ?_ h ?_
  ·exact bC _
  clear h;rintro j a w hI h;have lmj:((f.kids.take j).map (fun g=>za0.inw g d)).length<=j:=by rw [bF,bS];omega
  refine qW (Je 7 [(3,.len (za4 6 za0.d f.kids))] [] [(73,vb (decide ((j:Int)<(f.kids.length:Int))))] h fun a w h=>?_);refine zae ((j:Int)<(f.kids.length:Int)) h (fun hc18 hc18'=>?_) (fun hc19 hc19'=>?_)
  ·refine qU (za2 (qW (qZ ?_)));obtain ⟨x9,hx9⟩:=gl f.kids j;refine Jh 7 [(5,.g (xD 81 79 zfx ((za8 hx9 (f:=za0.d)).trans (congrArg some (za0.d_eq x9))) (OV.tmp 80 _))),(8,.call (ih x9 (by unfold cnt;rw [if_pos (by omega)];exact lM hx9) d)),(9,.g (bD 85 ([(za0.inw x9 d)].map za0.d) [(84,(vF (za0.inw x9 d)))] kb_1 (.cons (i:=0) (OV.tmp 84 _) (.nil)) (by simp only [bG,bL,bU,bV,bN,za0.d_eq];kernel_rfl) (by simp [za0.d_len]))),(10,.g (aD 86 77 85 6 7 ((f.kids.take j).map (fun g=>za0.inw g d)) [(za0.inw x9 d)] za0.d la_7 (by simp [za0.d_len])))] [73] [] [6] [(5,.box ([cI (if d=true then 9 - f.kind else f.kind),nCl,cB false,.d (nsl []),cB false,.own 7 (((f.kids.take j).map (fun g=>za0.inw g d))++[(za0.inw x9 d)]).length])),(7,.row 35 6 ((((f.kids.take j).map (fun g=>za0.inw g d))++[(za0.inw x9 d)]).map za0.d))] h fun a w h=>?_;refine za7 (za2 (Jf 8 [(1,.j1 j)] [] [(9,vI ((j:Int)+1))] h fun a w h=>?_));refine za2 ?_;rw [show ((((f.kids.take j).map (fun g=>za0.inw g d))++[(za0.inw x9 d)]):List za0)=((f.kids.take (j+1)).map (fun g=>za0.inw g d)) from (ze6 hx9)] at h;replace h:=zcr 7 6 h;refine zaa (x:=j) (y:=j+1) h ?_ ?_
   ·have:=zac hx9;show j+1<=f.kids.length;omega
   show f.kids.length - (j+1)<f.kids.length - j;have:=zac hx9;omega
  refine exA (Jg 8 [] [2,8,9,73] [] [0,5] [(1,.box [cI (if d=true then 9 - f.kind else f.kind),nCl,cB false,.d (nsl []),cB false,.own 6 ((f.kids.take j).map (fun g=>za0.inw g d)).length])] h fun a w h=>?_);refine qV (za9 (za5 ?_));rw [show (((f.kids.take j).map (fun g=>za0.inw g d)):List za0)=(f.kids.map (fun g=>za0.inw g d)) from (by rw [bP (by omega)])] at h;replace h:=zb2 1 1 3 [cI (if d=true then 9 - f.kind else f.kind),nCl,cB false,.d (nsl []),cB false,.own 6 (f.kids.map (fun g=>za0.inw g d)).length] h;replace h:=zh5 6 6 35 ((f.kids.map (fun g=>za0.inw g d)).map za0.d) h [(f.kids.map (fun g=>za0.inw g d)).length] ⟨by first | exact (bF _).symm | (simp;done) | (simp;omega),trivial⟩;refine rA 1 [cI (if d=true then 9 - f.kind else f.kind),cPs [],cB false,.d (nsl []),cB false,cFs (f.kids.map (fun g=>za0.inw g d))] h zc0 rfl ?_;rw [inw_45 (dT hc15)];try rfl
 refine qU (za7 (za2 (Jq 8 [(1,.call (zii d))] [(4,vp 1 0)] [(1,.box (zF (zbo d)))] h fun a w h=>?_)));refine qV ?_;refine rA 1 (zF (zbo d)) h zc0 rfl ?_;rw [inw_x (by have:=hc2;simpa using this) (by have:=hc8;simpa using this) (by have:=hc12;simpa using this) (fun e4=>dF hc20 (.inl e4)) (fun e5=>dF hc20 (.inr e5))];try rfl
theorem Linward (f:za0):f.okB 300000000 2000->∀ d:Bool,Fn Tryz.prog 95 [] [(vF f),vb d] (vF (za0.inw f d)) [] :=
 za0.ind (P:=fun f=>f.okB 300000000 2000->∀ d:Bool,Fn Tryz.prog 95 [] [(vF f),vb d] (vF (za0.inw f d)) []) (fun k r ks ih hf d=>Linward0 ⟨k,r,ks⟩ d (fun g hg d=>ih g (zbw hg) (zga hf hg) d) hf) f
theorem Lmerge0 (f:za0) (ih:∀ g ∈ f.kids,Fn Tryz.prog 94 [] [(vF g)] (vF (za0.merge g)) []) (hf:f.okA 300000000 4100) (hn:f.nodes<=1000000000000):Fn Tryz.prog 94 [] [(vF f)] (vF (za0.merge f)) []:=by
 have lkn:=zgw f;have lmn:=merges_nodes f;refine fB Tryz.func94 rfl 111 fun w H B a h=>Jq 0 [] [(1,vp 0 0),(2,vp 1 0)] [(0,.box (zF f)),(1,.box zF0)] h fun a w h=>qW (Je 2 [] [] [(11,vb (f.kind == 2))] h fun a w h=>cS (f.kind == 2) h (fun hc1=>?_) (fun hc4=>?_))
 ·refine Jg 2 [(2,.call (LR4Tight f.r ((((za0.okA_eq _ _ _).1 hf).1 (by have:=hc1;simpa using this)).mono (by decide) (by decide))))] [11] [(3,vp 2 0),(4,vI (zag f.r).2)] [] [(2,.box (zR_ (zag f.r).1))] h fun a w h=>qW (Je 3 [] [] [(19,vb ((zag f.r).2 != 0))] h fun a w h=>cS ((zag f.r).2 != 0) h (fun hc2=>?_) (fun hc3=>?_))
  ·refine Jg 3 [(2,.call (zii (decide ((zag f.r).2>0))))] [4,19] [] [] [(1,.box (zF (zbo (decide ((zag f.r).2>0)))))] h fun a w h=>qV (za5 (za5 (rA 1 (zF (zbo (decide ((zag f.r).2>0)))) h zc0 rfl ?_)));rw [merge_2k (by have:=hc1;simpa using this) (by have:=hc2;simpa using this)];try rfl
  refine qU (za2 (Jg 3 [] [3,4,19] [] [2] [(1,.box ([cI 2,cPs (zag f.r).1.t.parts]++zi (zag f.r).1.t.k++[cB (zag f.r).1.eq,nCl]))] h fun a w h=>qV (za5 ?_)));replace h:=zb2 1 5 6 ([cI 2,cPs (zag f.r).1.t.parts]++zi (zag f.r).1.t.k++[cB (zag f.r).1.eq,nCl]) h;refine rA 1 ([cI 2,cPs (zag f.r).1.t.parts]++zi (zag f.r).1.t.k++[cB (zag f.r).1.eq,cFs []]) h zc0 rfl ?_;rw [merge_2o (by have:=hc1;simpa using this) (by have:=hc3;simpa using this)];try rfl
 refine qU (za2 ?_)
 by_cases h45:f.kind=4\/f.kind=5
 ·refine midH h [(1,vp 0 0),(2,vp 1 0)] [(0,.box (zF f)),(1,.box zF0)] ?_ (fun a w h=>?_)
  ·rcases bE (f.kind != 4) with hc5 | hc8
   ·refine Je 3 [(2,.cmp (op:=.neq) (m:=f.kind) (n:=4) (b:=true) .i64 hc5)] [11] [(32,vb (f.kind != 5))] h fun a w h=>cS (f.kind != 5) h (fun hc6=>?_) (fun hc7=>?_)
    ·refine Jg 3 [] [32] [] [] [(1,.box (zF f))] h fun a w h=>qV (za5 (rA 1 (zF f) h zc0 rfl ?_));rw [merge_x (by have:=hc4;simpa using this) (by have:=hc5;simpa using this) (by have:=hc6;simpa using this)];try rfl
    refine qU (za2 ?_);exact atS h
   refine Je 3 [(2,.cmp (op:=.neq) (m:=f.kind) (n:=4) (b:=false) .i64 hc8)] [11] [(32,vb false)] h fun a w h=>zaw h (qU (za2 ?_));exact atS h
  refine Jg 3 [] [] [(5,vp 3 0)] [] [(3,.box [cI f.kind,nCl,cB false,.d (nsl []),cB false,nCl])] h fun a w h=>qW (Je 4 [] [] [(6,vI 0)] h fun a w h=>qZ ?_);replace h:=zg5 3 5 4 6 35 [cI f.kind,nCl,cB false,.d (nsl []),cB false,nCl] h
  refine zbz (ι:=(Nat) × (List za0)) (fun (j,out)=>j<=f.kids.length/\zb7 f.kind (f.kids.map za0.merge) []=zb7 f.kind ((f.kids.map za0.merge).drop j) out/\(out.map za0.nodes).sum+(((f.kids.map za0.merge).drop j).map za0.nodes).sum<=1000000000000)
    [] (fun (j,out)=>[(6,vN j)])
    [] (fun (j,out)=>[(3,.box [cI f.kind,nCl,cB false,.d (nsl []),cB false,.own 4 out.length]),(4,.row 35 6 (out.map za0.d))])
    (fun (j,out)=>f.kids.length - j) (0,[]) ?_ h ?_
  ·exact ⟨bC _,rfl,by show 0+((f.kids.map za0.merge).map za0.nodes).sum<=_;omega⟩
  clear h;rintro ⟨j,out⟩ a w hI h;dsimp only at h;obtain ⟨hI1,hI2,hI3⟩:=hI;have lo:=zdw out;refine qW (Je 5 [(3,.len (za4 6 za0.d f.kids))] [] [(41,vb (decide ((j:Int)<(f.kids.length:Int))))] h fun a w h=>zae ((j:Int)<(f.kids.length:Int)) h (fun hc9 hc9'=>?_) (fun hc22 hc22'=>?_))
  ·refine qU (za2 (qW (qZ ?_)));obtain ⟨x3,hx3⟩:=gl f.kids j;refine Jg 5 [(3,.g (xD 47 45 zfx ((za8 hx3 (f:=za0.d)).trans (congrArg some (za0.d_eq x3))) (OV.tmp 46 _))),(5,.call (ih x3 (lM hx3)))] [41] [(7,vp 5 0)] [] [(5,.box (zF (za0.merge x3)))] h fun a w h=>qW ?_
   rcases bE ((za0.merge x3).kind == 0) with hc10 | hc13
   ·have hmx:(f.kids.map za0.merge)[j]?=some (za0.merge x3):=by rw [List.getElem?_map,hx3];rfl
    have hdn:=zd6 hmx;have hxn:=za0.nodes_eq (za0.merge x3);refine Je 6 [(2,.cmp (op:=.eql) (m:=(za0.merge x3).kind) (n:=0) (b:=true) .i64 hc10)] [] [(57,vb true)] h fun a w h=>cS true h (fun _=>?_) nofun
    refine qW (Je 6 [] [57] [(64,vb ((f.kind == 4) == ((za0.merge x3).kind == 1)))] h fun a w h=>cS ((f.kind == 4) == ((za0.merge x3).kind == 1)) h (fun hc11=>?_) (fun hc12=>?_))
    ·refine Jg 6 [] [64] [] [] [(1,.box (zF (za0.merge x3)))] h fun a w h=>qV (za5 (za5 (za9 (za5 (za5 (za9 (za5 (rA 1 (zF (za0.merge x3)) h zc0 rfl ?_))))))));have h45:=h45;have p0:¬ f.kind=2:=by have:=hc4;simpa using this
     have p1: (za0.merge x3).kind=0:=by have:=hc10;simpa using this
     have pq:=hc11;have hz:f.merge=za0.merge x3:=by rw [zi4 h45,hI2,zcm hmx,if_pos (by rcases h45 with h45 | h45 <;> simp_all)]
     rw [hz];try rfl
    refine qU (za2 (wp_exit (zc2 (zau (za2 (Jh 6 [(1,.j1 j)] [7,64] [(6,vI ((j:Int)+1))] [5] [] h fun a w h=>za2 (zaa (x:=(j,out)) (y:=(j+1,out)) h ?_ ?_)))))))
    ·have:=zac hx3;have p0:¬ f.kind=2:=by have:=hc4;simpa using this
     have p1: (za0.merge x3).kind=0:=by have:=hc10;simpa using this
     have pq:=hc12;exact ⟨by omega,by rw [hI2,zcm hmx,if_neg (fun e=>by simp_all),if_pos (by omega)],by first | omega | (rw [zcw];(try rw [zdv]);omega)⟩
    show f.kids.length - (j+1)<f.kids.length - j;have:=zac hx3;omega
   have hmx:(f.kids.map za0.merge)[j]?=some (za0.merge x3):=by rw [List.getElem?_map,hx3];rfl
   have hdn:=zd6 hmx;have hxn:=za0.nodes_eq (za0.merge x3);refine Je 6 [(2,.cmp (op:=.eql) (m:=(za0.merge x3).kind) (n:=0) (b:=false) .i64 hc13)] [] [(57,vb ((za0.merge x3).kind == 1))] h fun a w h=>cS ((za0.merge x3).kind == 1) h (fun hc14=>?_) (fun hc17=>?_)
   ·refine qW (Je 6 [(5,.cmp (op:=.eql) (m:=(za0.merge x3).kind) (n:=1) (b:=true) .i64 hc14)] [57] [(64,vb ((f.kind == 4) == true))] h fun a w h=>cS ((f.kind == 4) == true) h (fun hc15=>?_) (fun hc16=>?_))
    ·refine Jg 6 [] [64] [] [] [(1,.box (zF (za0.merge x3)))] h fun a w h=>qV (za5 (za5 (za9 (za5 (za5 (za9 (za5 (rA 1 (zF (za0.merge x3)) h zc0 rfl ?_))))))));have h45:=h45;have p0:¬ f.kind=2:=by have:=hc4;simpa using this
     have p1:¬ (za0.merge x3).kind=0:=by have:=hc13;simpa using this
     have p2: (za0.merge x3).kind=1:=by have:=hc14;simpa using this
     have hz:f.merge=za0.merge x3:=by rw [zi4 h45,hI2,zcm hmx,if_pos (by rcases h45 with h45 | h45 <;> simp_all)]
     rw [hz];try rfl
    refine qU (za2 (wp_exit (zc2 (zau (za2 (Jh 6 [(1,.j1 j)] [7,64] [(6,vI ((j:Int)+1))] [5] [] h fun a w h=>za2 (zaa (x:=(j,out)) (y:=(j+1,out)) h ?_ ?_)))))))
    ·have:=zac hx3;have p0:¬ f.kind=2:=by have:=hc4;simpa using this
     have p1:¬ (za0.merge x3).kind=0:=by have:=hc13;simpa using this
     have p2: (za0.merge x3).kind=1:=by have:=hc14;simpa using this
     exact ⟨by omega,by rw [hI2,zcm hmx,if_neg (fun e=>by simp_all),if_pos (by omega)],by first | omega | (rw [zcw];(try rw [zdv]);omega)⟩
    show f.kids.length - (j+1)<f.kids.length - j;have:=zac hx3;omega
   refine qU (za2 (Je 6 [] [57] [(70,vb ((za0.merge x3).kind == f.kind))] h fun a w h=>cS ((za0.merge x3).kind == f.kind) h (fun hc18=>?_) (fun hc21=>?_)))
   ·refine Je 6 [] [70] [(8,vI 0)] h fun a w h=>qZ ?_;replace h:=cvM [] [] [] [(3,.box [cI f.kind,nCl,cB false,.d (nsl []),cB false,.own 4 (out++((za0.merge x3).kids.take 0)).length]),(4,.row 35 6 ((out++((za0.merge x3).kids.take 0)).map za0.d))] (by rw [<- show (out:List za0)=(out++((za0.merge x3).kids.take 0)) from (by simp)];kernel_rfl) h
    refine zbz (ι:=(Nat)) (fun i=>i<=(za0.merge x3).kids.length)
      [] (fun i=>[(8,vN i)])
      [] (fun i=>[(3,.box ([cI f.kind,nCl,cB false,.d (nsl []),cB false,.own 4 (out++((za0.merge x3).kids.take i)).length])),(4,.row 35 6 ((out++((za0.merge x3).kids.take i)).map za0.d))])
      (fun i=>(za0.merge x3).kids.length - i) 0 ?_ h ?_
    ·exact bC _
    clear h;rintro i a w hI h;have lti:(out++((za0.merge x3).kids.take i)).length=out.length+i:=by rw [cN,bS];omega
    have lkg:=zdw (za0.merge x3).kids;refine qW (Je 6 [(3,.len (za4 6 za0.d ((za0.merge x3).kids)))] [] [(75,vb (decide ((i:Int)<((za0.merge x3).kids.length:Int))))] h fun a w h=>zae ((i:Int)<((za0.merge x3).kids.length:Int)) h (fun hc19 hc19'=>?_) (fun hc20 hc20'=>?_))
    ·refine qU (za2 (qW (qZ ?_)));obtain ⟨x5,hx5⟩:=gl ((za0.merge x3).kids) i;refine Jh 6 [(5,.g (xD 83 81 zfx ((za8 hx5 (f:=za0.d)).trans (congrArg some (za0.d_eq x5))) (OV.tmp 82 _))),(7,.g (bD 85 ([x5].map za0.d) [(84,(vF x5))] kb_1 (.cons (i:=0) (OV.tmp 84 _) (.nil)) (by simp only [bG,bL,bU,bV,bN,za0.d_eq];kernel_rfl) (by simp [za0.d_len]))),(8,.g (aD 86 79 85 4 6 (out++((za0.merge x3).kids.take i)) [x5] za0.d la_7 (by simp [za0.d_len])))] [75] [] [4] [(3,.box ([cI f.kind,nCl,cB false,.d (nsl []),cB false,.own 6 ((out++((za0.merge x3).kids.take i))++[x5]).length])),(6,.row 35 6 (((out++((za0.merge x3).kids.take i))++[x5]).map za0.d))] h fun a w h=>za7 (za2 (Jf 7 [(1,.j1 i)] [] [(8,vI ((i:Int)+1))] h fun a w h=>za2 ?_));rw [show (((out++((za0.merge x3).kids.take i))++[x5]):List za0)=(out++((za0.merge x3).kids.take (i+1))) from (by rw [b8,hx5,<- cO];rfl)] at h;replace h:=zcr 6 4 h;refine zaa (x:=i) (y:=i+1) h ?_ ?_
     ·have:=zac hx5;show i+1<=(za0.merge x3).kids.length;omega
     show (za0.merge x3).kids.length - (i+1)<(za0.merge x3).kids.length - i;have:=zac hx5;omega
    refine wp_exit (zc2 (zc2 (zau (za7 (za2 (Jh 7 [(1,.j1 j)] [7,8,75] [(6,vI ((j:Int)+1))] [5] [] h fun a w h=>za2 ?_))))));rw [show ((out++((za0.merge x3).kids.take i)):List za0)=(out++(za0.merge x3).kids) from (by rw [bP (by omega)])] at h;refine zaa (x:=(j,out)) (y:=(j+1,(out++(za0.merge x3).kids))) h ?_ ?_
    ·have:=zac hx3;have p0:¬ f.kind=2:=by have:=hc4;simpa using this
     have p1:¬ (za0.merge x3).kind=0:=by have:=hc13;simpa using this
     have p2:¬ (za0.merge x3).kind=1:=by have:=hc17;simpa using this
     have p3: (za0.merge x3).kind=f.kind:=by have:=hc18;simpa using this
     exact ⟨by omega,by rw [hI2,zcm hmx,if_neg (by omega),if_neg (by omega),if_pos (by omega)],by first | omega | (rw [zcw];(try rw [zdv]);omega)⟩
    show f.kids.length - (j+1)<f.kids.length - j;have:=zac hx3;omega
   refine Jh 7 [(3,.g (bD 91 ([(za0.merge x3)].map za0.d) [(90,(vF (za0.merge x3)))] kb_1 (.cons (i:=0) (OV.tmp 90 _) (.nil)) (by simp only [bG,bL,bU,bV,bN,za0.d_eq];kernel_rfl) (by simp [za0.d_len]))),(4,.g (aD 92 89 91 4 7 out [(za0.merge x3)] za0.d la_7 (by simp [za0.d_len])))] [7,70] [] [4,5] [(3,.box ([cI f.kind,nCl,cB false,.d (nsl []),cB false,.own 7 (out++[(za0.merge x3)]).length])),(7,.row 35 6 ((out++[(za0.merge x3)]).map za0.d))] h fun a w h=>za7 (za2 (Jf 8 [(1,.j1 j)] [] [(6,vI ((j:Int)+1))] h fun a w h=>za2 ?_));replace h:=zcr 7 4 h;refine zaa (x:=(j,out)) (y:=(j+1,(out++[(za0.merge x3)]))) h ?_ ?_
   ·have:=zac hx3;have p0:¬ f.kind=2:=by have:=hc4;simpa using this
    have p1:¬ (za0.merge x3).kind=0:=by have:=hc13;simpa using this
    have p2:¬ (za0.merge x3).kind=1:=by have:=hc17;simpa using this
    have p3:¬ (za0.merge x3).kind=f.kind:=by have:=hc21;simpa using this
    exact ⟨by omega,by rw [hI2,zcm hmx,if_neg (by omega),if_neg (by omega),if_neg (by omega)],by first | omega | (rw [zcw];(try rw [zdv]);omega)⟩
   show f.kids.length - (j+1)<f.kids.length - j;have:=zac hx3;omega
  refine exA (qW (Je 8 [] [6,41] [(97,vb ((out.length:Int) == 0))] h fun a w h=>cS ((out.length:Int) == 0) h (fun hc23=>?_) (fun hc24=>?_)))
  ·refine Jg 8 [(3,.call (zii (f.kind == 4)))] [1,97] [] [0] [(1,.box (zF (zbo (f.kind == 4))))] h fun a w h=>qV (za5 (rA 1 (zF (zbo (f.kind == 4))) h zc0 rfl ?_));have h45:=h45;have hje:zb7 f.kind (f.kids.map za0.merge) []=zb7 f.kind [] out:=by rw [hI2,b5 (by rw [bF];omega)]
   have hz:f.merge=zbo (f.kind == 4):=by rw [zi4 h45,hje,join_nil (by have:=hc23;simpa using this)]
   rw [hz];try rfl
  refine qU (za2 (qW (Jg 8 [] [1,97] [(105,vb ((out.length:Int) == 1))] [0] [] h fun a w h=>cS ((out.length:Int) == 1) h (fun hc25=>?_) (fun hc26=>?_))))
  ·obtain ⟨x7,hx7⟩:=gl out 0;refine Jg 8 [(2,.g (xO 108 107 4 out.length 0 zfx (OV.const (.int .i64 0) rfl))),(3,.g (Op.loadR_agg (d:=109) (t:=108) (n:=4) (i:=0) (fo:=0) (rty:=35) (es:=6) (xs:=[.raw (.int .i64 x7.kind),.sl 3 (x7.r.t.parts.map za3.d),.raw (.bool x7.r.t.k.neg),nsl x7.r.t.k.abs,.raw (.bool x7.r.eq),.sl 6 (x7.kids.map za0.d)]) zc0 rfl ((za8 hx7 (f:=za0.d)).trans (congrArg some (za0.d_eq x7))) rfl rfl))] [105] [] [] [(1,.box (zF x7))] h fun a w h=>qV (za5 (rA 1 (zF x7) h zc0 rfl ?_));have h45:=h45;have hje:zb7 f.kind (f.kids.map za0.merge) []=zb7 f.kind [] out:=by rw [hI2,b5 (by rw [bF];omega)]
   have hz:f.merge=x7:=by rw [zi4 h45,hje,join_one (by have:=hc25;simp at this;omega) hx7]
   rw [hz];try rfl
  refine qU (za2 (Jg 8 [] [5,105] [] [3] [(1,.box [cI f.kind,nCl,cB false,.d (nsl []),cB false,.own 4 out.length])] h fun a w h=>qV ?_));replace h:=zb2 1 1 3 [cI f.kind,nCl,cB false,.d (nsl []),cB false,.own 4 out.length] h;replace h:=zh5 4 6 35 (out.map za0.d) h [out.length] ⟨by first | exact (bF _).symm | (simp;done) | (simp;omega),trivial⟩;refine rA 1 [cI f.kind,cPs [],cB false,.d (nsl []),cB false,cFs out] h zc0 rfl ?_;have h45:=h45;have hje:zb7 f.kind (f.kids.map za0.merge) []=zb7 f.kind [] out:=by rw [hI2,b5 (by rw [bF];omega)]
  have hz:f.merge=⟨f.kind,zR,out⟩:=by rw [zi4 h45,hje,join_two (by have:=hc24;simpa using this) (by have:=hc26;simp at this;omega)]
  rw [hz];try rfl
 have hk4:(f.kind != 4)=true:=bne_iff_ne.2 fun e=>h45 (.inl e)
 have hk5:(f.kind != 5)=true:=bne_iff_ne.2 fun e=>h45 (.inr e)
 refine qW (Je 8 [(2,.cmp (op:=.neq) (m:=f.kind) (n:=4) (b:=true) .i64 hk4),(6,.cmp (op:=.neq) (m:=f.kind) (n:=5) (b:=true) .i64 hk5)] [11] [(32,vb true)] h fun a w h=>cS true h (fun _=>?_) nofun);refine Jg 8 [] [32] [] [] [(1,.box (zF f))] h fun a w h=>qV (za5 (rA 1 (zF f) h zc0 rfl ?_));rw [merge_x (by have:=hc4;simpa using this) (by have:=hk4;simpa using this) (by have:=hk5;simpa using this)];try rfl
theorem kid_okA2 {L:Nat} {g:za0} (h:f.okA n L) (hg:g ∈ f.kids):g.okA n L:=((za0.okA_eq _ _ _).1 h).2 g hg
theorem ziy {g:za0} (hg:g ∈ f.kids):g.nodes<=f.nodes:=by
 rw [za0.nodes_eq f]
 obtain ⟨j,hj⟩:=List.getElem?_of_mem hg
 have:=zgn f.kids j hj;omega
theorem Lmerge (f:za0):f.okA 300000000 4100->f.nodes<=1000000000000->Fn Tryz.prog 94 [] [(vF f)] (vF (za0.merge f)) [] :=
 za0.ind (P:=fun f=>f.okA 300000000 4100->f.nodes<=1000000000000->Fn Tryz.prog 94 [] [(vF f)] (vF (za0.merge f)) []) (fun k r ks ih hf hn=>Lmerge0 ⟨k,r,ks⟩ (fun g hg=>ih g hg (kid_okA2 hf hg) (bK (ziy (f:=⟨k,r,ks⟩) hg) hn)) hf hn) f
theorem inw_okA {L:Nat} (hn:n<=1000000000) (f:za0):f.okB n L->∀ d,(f.inw d).okA n (2*L+23) :=
 za0.ind (P:=fun f=>f.okB n L->∀ d,(f.inw d).okA n (2*L+23)) (fun k r ks ih hf d=>by
  obtain ⟨⟨h1,h2⟩,h3⟩:=(za0.okB_eq _ _ _).1 hf
  change k=2->_ at h1
  change ∀ g ∈ cnt k ks,_ at h3
  have hat:∀ q:za6,TOk n (2*L+22) q.t->(zbd q).okA n (2*L+23):=fun q hq=>okA_atom (hq.plain hn)
  rw [za0.inw_eq]
  show (inwK k r (ks.map za0.inw) d).okA n (2*L+23)
  unfold inwK
  split
  ·exact zg4 _ _ _
  ·split
   ·rename_i e
    split
    ·rw [za0.okA_eq]
     refine ⟨fun e=>absurd e (by show (5:Int)≠2;decide),fun g hg=>?_⟩
     obtain ⟨q,hq,rfl⟩:=b6.1 hg
     exact hat q (deny_tok (h1 e) hn q hq)
    ·exact hat r ((h1 e).mono (bI _) (by omega))
   ·split
    ·rename_i e
     subst e
     cases ks with
     | nil=>exact zg4 _ _ _
     | cons g gs=>exact ih g (bW ..) (h3 g (bW ..)) (!d)
    ·split
     ·rename_i h4
      have hc:cnt k ks=ks:=by unfold cnt;rw [if_pos h4]
      rw [hc] at h3
      rw [za0.okA_eq]
      refine ⟨fun e=>by exfalso;revert e;show (if d=true then 9 - k else k)=2->False;cases d <;> simp <;> omega,fun g hg=>?_⟩
      rw [b7] at hg
      obtain ⟨q,hq,rfl⟩:=b6.1 hg
      exact ih q hq (h3 q hq) d
     ·exact zg4 _ _ _) f
theorem inw_nodes (f:za0):∀ d,(f.inw d).nodes<=f.wid :=
 za0.ind (P:=fun f=>∀ d,(f.inw d).nodes<=f.wid) (fun k r ks ih d=>by
  rw [za0.inw_eq,za0.wid_eq]
  show (inwK k r (ks.map za0.inw) d).nodes<=3+((cnt k ks).map za0.wid).sum
  have ht:∀ b,(zbo b).nodes=1:=fun b=>by rw [za0.nodes_eq];rfl
  have ha:∀ q,(zbd q).nodes=1:=fun q=>by rw [za0.nodes_eq];rfl
  unfold inwK
  split
  ·rw [ht];omega
  ·split
   ·split
    ·rw [za0.nodes_eq]
     show 1+(((zat r).map zbd).map za0.nodes).sum<=_
     rw [b7]
     have e:(za0.nodes ∘ zbd)=fun _=>1:=funext fun q=>ha q
     rw [e]
     have h2:((zat r).map fun _=>(1:Nat)).sum<=2:=by unfold zat;split <;> simp
     omega
    ·rw [ha];omega
   ·split
    ·rename_i h3
     cases ks with
     | nil=>show (zbo d).nodes<=_;rw [ht];omega
     | cons g gs =>
      subst h3
      have:=ih g (bW ..) (!d)
      show (g.inw (!d)).nodes<=3+(([g]).map za0.wid).sum
      simp only [bG,bL,cJ,List.sum_nil];omega
    ·split
     ·rename_i h4
      rw [za0.nodes_eq,show cnt k ks=ks from by unfold cnt;rw [if_pos h4]]
      show 1+(((ks.map za0.inw).map fun c=>c d).map za0.nodes).sum<=_
      rw [b7,b7]
      have h2:(ks.map ((za0.nodes ∘ fun c=>c d) ∘ za0.inw)).sum<=(ks.map za0.wid).sum:=zg2 fun g hg=>ih g hg d
      have e:(za0.nodes ∘ (fun c=>c d) ∘ za0.inw)=(za0.nodes ∘ ((fun c=>c d) ∘ za0.inw)):=rfl
      omega
     ·rw [ht];omega) f
theorem LR5Flat (f:za0) (hf:f.okB 300000000 2000) (hw:f.wid<=1000000000000):Fn Tryz.prog 54 [] [(vF f)] (vF (za0.flat f false)) []:=by
 refine fB Tryz.func54 rfl 6 fun w H B a h=>Jq 0 [] [(1,vp 0 0),(2,vp 1 0)] [(0,.box (zF f)),(1,.box zF0)] h fun a w h=>Jd 2 [(1,.call (Linward f hf false)),(2,.call (Fn.cast (Lmerge (za0.inw f false) (za0.okA_mono (by decide) (by decide) _ (inw_okA (by decide) f hf false)) (bK (inw_nodes f false) hw)) (show ((vF (za0.merge (za0.inw f false))):V)=(vF (za0.flat f false)) from by rw [flat_merge])))] [1] [] [(1,.box (zF (za0.flat f false)))] h fun a w h=>qV (rA 1 (zF (za0.flat f false)) h zc0 rfl ?_)
 rfl
theorem me4_2:zbj Tryz.prog 160:=zbj.mk' (by kernel_rfl)
def hasV (t:zaf) (v:Int):Bool:=sgn (zaj t.parts v) != 0
def forgK (vs:List Int) (k:Int) (r:za6) (ks cs:List za0):za0:=if k=2 then (if vs.any (hasV r.t)=true then zbo true else ⟨k,r,ks⟩) else ⟨k,zR,cs⟩
def za0.forg (vs:List Int) (f:za0):za0:=f.fold (forgK vs)
theorem za0.forg_eq (vs:List Int) (f:za0):f.forg vs=forgK vs f.kind f.r f.kids (f.kids.map (za0.forg vs)):=za0.fold_eq _ f
theorem forg_t {vs:List Int} (h:f.kind=2) (k:vs.any (hasV f.r.t)=true):f.forg vs=zbo true:=by rw [za0.forg_eq];unfold forgK;rw [if_pos h,if_pos k]
theorem forg_f {vs:List Int} (h:f.kind=2) (k:vs.any (hasV f.r.t)=false):f.forg vs=f:=by rw [za0.forg_eq];unfold forgK;rw [if_pos h,k,if_neg Bool.noConfusion];cases f;rfl
theorem forg_k {vs:List Int} (h:¬ f.kind=2):f.forg vs=⟨f.kind,zR,f.kids.map (za0.forg vs)⟩:=by rw [za0.forg_eq];unfold forgK;rw [if_neg h]
def zd2 (c:zbe) (n:Nat):List Int:=(List.range n).flatMap fun v=>if (zdh c v).2=true then [(v:Int)] else []
def zdi (c:zbe) (n:Nat):List zaf:=(List.range n).flatMap fun v=>if (zdh c v).2=true then [(zdh c v).1] else []
def zd3 (c:zbe) (n:Nat):List Int:=(List.range n).flatMap fun v=>if (zdh c v).2=true then [] else [(v:Int)]
def preF (s:zb3) (act:Int) (f:za0):za0:=if act=-1 then zca [f] else if (zab s act).2=true then zca [zek s (zab s act).1,((f.flat false).forg (zd3 (zab s act).1 s.vars.length)).each (zbk (zd2 (zab s act).1 s.vars.length) (zdi (zab s act).1 s.vars.length))] else zbo false
theorem pre_len (c:zbe) (n:Nat):(zd2 c n).length<=n/\(zdi c n).length<=n/\(zd3 c n).length<=n:=by
 have:=zde (fun v=>if (zdh c v).2=true then [(v:Int)] else []) (m:=1) (fun v=>by split <;> simp) n
 have:=zde (fun v=>if (zdh c v).2=true then [(zdh c v).1] else []) (m:=1) (fun v=>by split <;> simp) n
 have:=zde (fun v=>if (zdh c v).2=true then [] else [(v:Int)]) (m:=1) (fun v=>by split <;> simp) n
 unfold zd2 zdi zd3
 omega
theorem pre_at (c:zbe) (j:Nat):zd2 c (j+1)=zd2 c j++(if (zdh c j).2=true then [(j:Int)] else [])/\zdi c (j+1)=zdi c j++(if (zdh c j).2=true then [(zdh c j).1] else [])/\zd3 c (j+1)=zd3 c j++(if (zdh c j).2=true then [] else [(j:Int)]) :=
 ⟨zdt _ j,zdt _ j,zdt _ j⟩
theorem preB_ok {c:zbe} (hc:zje 3 c) (n:Nat):∀ b ∈ zdi c n,zil b:=zfd fun v _ b hb=>by
 split at hb
 ·rw [bX.1 hb];exact (val_tok hc v).mono (by decide) (bI _)
 ·cases hb
theorem forg_ok {L:Nat} (vs:List Int) (f:za0):f.okA n L->f.nodes<=1000000000000->(f.forg vs).okB n L :=
 za0.ind (P:=fun f=>f.okA n L->f.nodes<=1000000000000->(f.forg vs).okB n L) (fun k r ks ih hf hn=>by
  obtain ⟨h1,h2⟩:=(za0.okA_eq _ _ _).1 hf
  have hk:=zgw ⟨k,r,ks⟩
  change ks.length+1<=_ at hk
  rw [za0.forg_eq]
  show (forgK vs k r ks (ks.map (za0.forg vs))).okB n L
  unfold forgK
  split
  ·rename_i e
   split
   ·exact okB_tru _ _ _
   ·rw [za0.okB_eq]
    refine ⟨⟨h1,by show ks.length<=_;omega,?_⟩,fun g hg=>?_⟩
    ·show (cnt k ks).length<=_;rw [e];exact bC _
    ·change g ∈ cnt k ks at hg;rw [e] at hg;cases hg
  ·rename_i e
   exact zgu e (by rw [bF];omega) fun g hg=>by
    obtain ⟨q,hq,rfl⟩:=b6.1 hg
    exact ih q hq (h2 q hq) (bK (ziy (f:=⟨k,r,ks⟩) hq) hn)) f
theorem Lforget1 (v:Int) (f:za0) (hf:TOk 300000000 3000 f.r.t):Fn Tryz.prog 160 [(0,.box (zF f))] [vI v,vp 0 0] (vb (hasV f.r.t v)) [(0,.box (zF f))]:=by
 refine fB Tryz.func160 rfl 9 fun w H B a h=>Jq 6 [] [(0,vI v),(1,vp 0 0),(3,vb false)] [(0,.box (zF f))] h fun a w h=>Jp 6 [(4,.call (SHas f.r.t v hf (by decide) (by decide)))] [(3,vb (hasV f.r.t v))] h fun a w h=>qV (rT (.c (cB (hasV f.r.t v))) h rfl ?_)
 rfl
theorem SIdxFG (pr:Int->Bool) (xs:List Int) (f:za0) (hf:∀ x ∈ xs,Fn Tryz.prog 160 [(0,.box (zF f))] [vI x,vp 0 0] (vb (pr x)) [(0,.box (zF f))]) (hl:xs.length<=9223372036854775807):Fn Tryz.prog 193 [(0,.box (zF f))] [(vIs xs),.t (.c (.fn (.func 160) [] [.ptr 0 0]))] (vI (zd8 pr xs 0)) [(0,.box (zF f))]:=by
 refine fB Tryz.func193 rfl 19 fun w H B a h=>Jq 5 [] [(0,(vIs xs)),(1,.t (.c (.fn (.func 160) [] [.ptr 0 0]))),(4,vI 0)] [(0,.box (zF f))] h fun a w h=>qW (Je 5 [(1,.len (za4 1 zb4 xs))] [] [(7,vN xs.length),(8,vI 0)] h fun a w h=>qZ ?_)
 refine zbz (ι:=(Nat)) (fun j=>j<=xs.length/\zd8 pr xs 0=zd8 pr (xs.drop j) j)
   [4] (fun j=>[(8,vN j)])
   [] (fun j=>[])
   (fun j=>xs.length - j) 0 ?_ h ?_
 ·exact ⟨bC _,rfl⟩
 clear h;rintro j a w hI h;obtain ⟨hI1,hI2⟩:=hI;refine Je 5 [] [] [(9,vb (decide ((j:Int)<(xs.length:Int))))] h fun a w h=>qW (zae ((j:Int)<(xs.length:Int)) h (fun hc1 hc1'=>?_) (fun hc4 hc4'=>?_))
 ·refine qU (za2 (qW (qZ (Je 5 [] [9] [(5,vN j)] h fun a w h=>?_))));obtain ⟨x1,hx1⟩:=gl xs j;refine Je 5 [(3,.g (xD 14 12 tb_1 (za8 hx1 (f:=zb4)) (OV.tmp 13 _))),(5,.g (Op.callV (d:=16) (t:=11) (cap:=[.ptr 0 0]) (args:=[vI x1]) (rs:=[(15,vI x1)]) (tys:=#[3]) (hf x1 (lM hx1)) me4_2 (OVs.cons (OV.tmp 15 _) (OVs.nil))))] [] [(16,vb (pr x1))] h fun a w h=>cS (pr x1) h (fun hc2=>?_) (fun hc3=>?_)
  ·refine Je 5 [] [5,16] [(4,vN j)] h fun a w h=>qV (za9 (za5 (za5 (za9 (za5 (rT (.c (cI (j:Int))) h rfl ?_))))));have hz:zd8 pr xs 0=(j:Int):=by rw [hI2,zf0 hx1,if_pos hc2]
   rw [hz];try rfl
  refine qU (za7 (za2 (Jf 5 [(0,.j1 j)] [5,16] [(8,vI ((j:Int)+1))] h fun a w h=>za2 (zaa (x:=j) (y:=j+1) h ?_ ?_))))
  ·exact ⟨by have:=zac hx1;omega,by rw [hI2,zf0 hx1,if_neg (by rw [hc3];exact Bool.noConfusion)]⟩
  (try simp);omega
 refine exA (Jp 5 [] [(4,vI (-1))] h fun a w h=>qV (rT (.c (cI (-1))) h rfl ?_));have hz:zd8 pr xs 0=-1:=by rw [hI2,b5 (by omega)];rfl
 rw [hz];try rfl
theorem SAnyFG (pr:Int->Bool) (xs:List Int) (f:za0) (hf:∀ x ∈ xs,Fn Tryz.prog 160 [(0,.box (zF f))] [vI x,vp 0 0] (vb (pr x)) [(0,.box (zF f))]) (hl:xs.length<=9223372036854775807):Fn Tryz.prog 159 [(0,.box (zF f))] [(vIs xs),.t (.c (.fn (.func 160) [] [.ptr 0 0]))] (vb (xs.any pr)) [(0,.box (zF f))]:=by
 refine fB Tryz.func159 rfl 9 fun w H B a h=>Jq 5 [] [(0,(vIs xs)),(1,.t (.c (.fn (.func 160) [] [.ptr 0 0]))),(4,vb false)] [(0,.box (zF f))] h fun a w h=>Jp 5 [(2,.call (SIdxFG pr xs f hf  hl))] [(4,vb (decide (zd8 pr xs 0>=0)))] h fun a w h=>qV (rT (.c (cB (decide (zd8 pr xs 0>=0)))) h rfl ?_)
 rw [<- idxB_any];try rfl
theorem rel_okF {L:Nat} (h:f.okA n L) (e:f.kind=2):TOk n L f.r.t:=((za0.okA_eq _ _ _).1 h).1 e
theorem Lforget0 (f:za0) (vs:List Int) (ih:∀ g ∈ f.kids,Fn Tryz.prog 113 [] [(vF g),(vIs vs)] (vF (za0.forg vs g)) []) (hf:f.okA 300000000 3000) (hn:f.nodes<=1000000000000) (hlv:vs.length<=9223372036854775807):Fn Tryz.prog 113 [] [(vF f),(vIs vs)] (vF (za0.forg vs f)) []:=by
 have lkn:=zgw f;refine fB Tryz.func113 rfl 36 fun w H B a h=>Jq 0 [] [(1,(vIs vs)),(2,vp 0 0),(4,vp 1 0)] [(0,.box (zF f)),(1,.box zF0)] h fun a w h=>qW (Je 2 [] [] [(10,vb (f.kind == 2))] h fun a w h=>cS (f.kind == 2) h (fun hc1=>?_) (fun hc4=>?_))
 ·refine qW (Je 2 [(1,.g (Op.makeFs (d:=12) (fn:=.func 160) [(2,0,0)])),(2,.call (SAnyFG (hasV f.r.t) vs f (fun v _=>Lforget1 v f (rel_okF hf (by have:=hc1;simpa using this))) hlv))] [10] [(13,vb (vs.any (hasV f.r.t)))] h fun a w h=>cS (vs.any (hasV f.r.t)) h (fun hc2=>?_) (fun hc3=>?_))
  ·refine Jg 2 [(0,.call (zih true))] [13] [] [] [(1,.box (zF (zbo true)))] h fun a w h=>qV (za5 (za5 (rA 1 (zF (zbo true)) h zc0 rfl ?_)));rw [forg_t (by have:=hc1;simpa using this) hc2];try rfl
  refine qU (za2 (Jg 2 [] [13] [] [] [(1,.box (zF f))] h fun a w h=>qV (za5 (rA 1 (zF f) h zc0 rfl ?_))));rw [forg_f (by have:=hc1;simpa using this) hc3];try rfl
 refine qU (za2 (Jg 2 [] [10] [(5,vp 2 0)] [] [(2,.box [cI f.kind,nCl,cB false,.d (nsl []),cB false,nCl])] h fun a w h=>qW (Jg 3 [(2,.len (za4 6 za0.d f.kids))] [2] [(20,(vFs f.kids)),(21,vN f.kids.length),(22,vI 0)] [0] [] h fun a w h=>qZ ?_)));replace h:=zg5 2 5 3 6 35 [cI f.kind,nCl,cB false,.d (nsl []),cB false,nCl] h
 refine zbz (ι:=(Nat)) (fun j=>j<=f.kids.length)
   [] (fun j=>[(22,vN j)])
   [] (fun j=>[(2,.box [cI f.kind,nCl,cB false,.d (nsl []),cB false,.own 3 ((f.kids.take j).map (za0.forg vs)).length]),(3,.row 35 6 (((f.kids.take j).map (za0.forg vs)).map za0.d))])
   (fun j=>f.kids.length - j) 0 ?_ h ?_
 ·exact bC _
 clear h;rintro j a w hI h;have lmj:((f.kids.take j).map (za0.forg vs)).length<=j:=by rw [bF,bS];omega
 refine Je 4 [] [] [(23,vb (decide ((j:Int)<(f.kids.length:Int))))] h fun a w h=>qW (zae ((j:Int)<(f.kids.length:Int)) h (fun hc5 hc5'=>?_) (fun hc6 hc6'=>?_))
 ·refine qU (za2 (qW (qZ ?_)));obtain ⟨x3,hx3⟩:=gl f.kids j;refine Jg 4 [(0,.g (xD 24 20 zfx ((za8 hx3 (f:=za0.d)).trans (congrArg some (za0.d_eq x3))) (OV.tmp 22 _)))] [23] [(7,vp 4 0)] [] [(4,.box (zF x3))] h fun a w h=>Jh 5 [(4,.call (ih x3 (lM hx3))),(5,.g (bD 31 ([(za0.forg vs x3)].map za0.d) [(30,(vF (za0.forg vs x3)))] kb_1 (.cons (i:=0) (OV.tmp 30 _) (.nil)) (by simp only [bG,bL,bU,bV,bN,za0.d_eq];kernel_rfl) (by simp [za0.d_len]))),(6,.g (aD 32 27 31 3 5 ((f.kids.take j).map (za0.forg vs)) [(za0.forg vs x3)] za0.d la_7 (by simp [za0.d_len])))] [7] [] [3,4] [(2,.box ([cI f.kind,nCl,cB false,.d (nsl []),cB false,.own 5 (((f.kids.take j).map (za0.forg vs))++[(za0.forg vs x3)]).length])),(5,.row 35 6 ((((f.kids.take j).map (za0.forg vs))++[(za0.forg vs x3)]).map za0.d))] h fun a w h=>za7 (za2 (Jf 6 [(0,.j1 j)] [] [(22,vI ((j:Int)+1))] h fun a w h=>za2 ?_));rw [show ((((f.kids.take j).map (za0.forg vs))++[(za0.forg vs x3)]):List za0)=((f.kids.take (j+1)).map (za0.forg vs)) from (ze6 hx3)] at h;replace h:=zcr 5 3 h;refine zaa (x:=j) (y:=j+1) h ?_ ?_
  ·have:=zac hx3;show j+1<=f.kids.length;omega
  show f.kids.length - (j+1)<f.kids.length - j;have:=zac hx3;omega
 refine exA (Jg 6 [] [1,5,20,21,22,23] [] [2] [(1,.box [cI f.kind,nCl,cB false,.d (nsl []),cB false,.own 3 ((f.kids.take j).map (za0.forg vs)).length])] h fun a w h=>qV ?_);rw [show (((f.kids.take j).map (za0.forg vs)):List za0)=(f.kids.map (za0.forg vs)) from (by rw [bP (by omega)])] at h;replace h:=zb2 1 1 3 [cI f.kind,nCl,cB false,.d (nsl []),cB false,.own 3 (f.kids.map (za0.forg vs)).length] h;replace h:=zh5 3 6 35 ((f.kids.map (za0.forg vs)).map za0.d) h [(f.kids.map (za0.forg vs)).length] ⟨by first | exact (bF _).symm | (simp;done) | (simp;omega),trivial⟩;refine rA 1 [cI f.kind,cPs [],cB false,.d (nsl []),cB false,cFs (f.kids.map (za0.forg vs))] h zc0 rfl ?_;rw [forg_k (by have:=hc4;simpa using this)];try rfl
theorem Lforget (vs:List Int) (hlv:vs.length<=9223372036854775807) (f:za0):f.okA 300000000 3000->f.nodes<=1000000000000->Fn Tryz.prog 113 [] [(vF f),(vIs vs)] (vF (za0.forg vs f)) [] :=
 za0.ind (P:=fun f=>f.okA 300000000 3000->f.nodes<=1000000000000->Fn Tryz.prog 113 [] [(vF f),(vIs vs)] (vF (za0.forg vs f)) []) (fun k r ks ih hf hn=>Lforget0 ⟨k,r,ks⟩ vs (fun g hg=>ih g hg (kid_okA2 hf hg) (bK (ziy (f:=⟨k,r,ks⟩) hg) hn)) hf hn hlv) f
def za0.vars (f:za0):List Int:=f.fold fun k r _ vs=>if k=2 then zbn r.t.parts else (cnt k vs).foldl (fun a v=>v.foldl insZ a) []
theorem LR4HoldsW (r:za6) (vs:List ZI) (hM:M<=300) (hv:VOk M vs) (hr:TOk 1000000000 1000 r.t):Fn Tryz.prog 19 [] [(vR r),(vZs vs)] (vb (relOk vs r)) []:=by
 refine fB Tryz.func19 rfl 17 fun w H B a h=>Jq 0 [] [(1,(vZs vs)),(2,vp 0 0),(4,vb false)] [(0,.box (zR_ r))] h fun a w h=>?_
 obtain ⟨r1,er1,vr1,or1,lr1⟩:=mkZ (v:=valT r.t vs) (m:=1600) (bK (valT_len hr (by decide) hv) (by omega));refine Je 1 [(3,.call (Fn.cast (SRValue r.t vs hr (by decide) (by omega) hv) (congrArg vz er1.symm))),(4,.call (zc7 r1 or1 (by omega)))] [1] [(5,vI (sgn r1.val))] h fun a w h=>qW (Jg 1 [] [2] [(12,vb r.eq)] [0] [] h fun a w h=>cS r.eq h (fun hc1=>?_) (fun hc2=>?_))
 ·refine Jg 1 [] [12] [(4,vb (sgn r1.val == 0))] [] [] h fun a w h=>qV (za5 (rT (.c (cB (sgn r1.val == 0))) h rfl ?_))
  have hz:relOk vs r=(sgn r1.val == 0):=by
   unfold relOk;rw [<- vr1]
   cases he:r.eq <;> simp_all <;> omega
  rw [hz];try rfl
 refine qU (za2 (Jq 1 [] [(4,vb (decide (sgn r1.val>=0)))] [] h fun a w h=>qV (rT (.c (cB (decide (sgn r1.val>=0)))) h rfl ?_)))
 have hz:relOk vs r=(decide (sgn r1.val>=0)):=by
  unfold relOk;rw [<- vr1]
  cases he:r.eq <;> simp_all <;> omega
 rw [hz];try rfl
theorem LR5HoldsW0 (f:za0) (vs:List ZI) (ih:∀ g ∈ f.kids,g.okB 1000000000 1000->Fn Tryz.prog 16 [] [(vF g),(vZs vs)] (vb (za0.holds vs g)) []) (hM:M<=300) (hv:VOk M vs) (hf:f.okB 1000000000 1000):Fn Tryz.prog 16 [] [(vF f),(vZs vs)] (vb (f.holds vs)) []:=by
 have hk:=zdc hf;refine fB Tryz.func16 rfl 65 fun w H B a h=>?_
 refine Jq 0 [] [(1,(vZs vs)),(2,vp 0 0),(4,vb false)] [(0,.box (zF f))] h fun a w h=>?_;refine qW (Je 1 [] [] [(8,vI f.kind)] h fun a w h=>?_);refine qZ (Je 1 [] [] [(9,vb (f.kind == 0))] h fun a w h=>?_);refine cS (f.kind == 0) h (fun hc1=>?_) (fun hc2=>?_)
 ·have hc1':=hc1;(try simp at hc1');refine Jq 1 [] [(4,vb true)] [] h fun a w h=>?_;refine qV (za9 (za5 ?_));refine rT (.c (cB true)) h rfl ?_;have hz:f.holds vs=(true):=by rw [za0.holds_eq,if_pos (by omega)];try rfl
  rw [hz];try rfl
 have hc2':=hc2;(try simp at hc2');refine Je 1 [] [9] [(11,vb (f.kind == 2))] h fun a w h=>?_;refine cS (f.kind == 2) h (fun hc3=>?_) (fun hc4=>?_)
 ·have hc3':=hc3;(try simp at hc3');refine Jq 1 [(3,.call (LR4HoldsW f.r vs hM hv (((za0.okB_eq _ _ f).1 hf).1.1 (by omega))))] [(4,vb (relOk vs f.r))] [] h fun a w h=>?_;refine qV (za9 (za5 ?_));refine rT (.c (cB (relOk vs f.r))) h rfl ?_;have hz:f.holds vs=(relOk vs f.r):=by rw [za0.holds_eq,if_neg (by omega),if_pos (by omega)];try rfl
  rw [hz];try rfl
 have hc4':=hc4;(try simp at hc4');refine Je 1 [] [11] [(17,vb (f.kind == 3))] h fun a w h=>?_;refine cS (f.kind == 3) h (fun hc5=>?_) (fun hc8=>?_)
 ·have hc5':=hc5;(try simp at hc5')
  rcases bE (decide ((f.kids.length:Int)>0)) with hc6 | hc7
  ·have hc6':=dT hc6;obtain ⟨x2,hx2⟩:=gl f.kids 0;refine Jq 1 [(2,.len (za4 6 za0.d f.kids)),(3,.cmp (op:=.gtr) (m:=(f.kids.length:Int)) (n:=0) (b:=true) .i64 hc6),(7,.g (xD 26 25 zfx ((za8 hx2 (f:=za0.d)).trans (congrArg some (za0.d_eq x2))) (OV.const (.int .i64 0) rfl))),(10,.call (ih x2 (lM hx2) (zga hf (by unfold cnt;first | (rw [if_pos (by omega)];exact lM hx2) | (rw [if_neg (by omega),if_pos (by omega)];exact zg7 hx2)))))] [(4,vb (!(za0.holds vs x2)))] [] h fun a w h=>?_;refine qV (za9 (za5 ?_));refine rT (.c (cB (!(za0.holds vs x2)))) h rfl ?_;have hz:f.holds vs=(!(za0.holds vs x2)):=by rw [za0.holds_eq,if_neg (by omega),if_neg (by omega),if_pos (by omega)];obtain ⟨tl,htl⟩:=zj6 hx2;rw [htl];try rfl
   rw [hz];try rfl
  have hc7':=dF hc7;refine Jq 1 [(2,.len (za4 6 za0.d f.kids)),(3,.cmp (op:=.gtr) (m:=(f.kids.length:Int)) (n:=0) (b:=false) .i64 hc7)] [(4,vb false)] [] h fun a w h=>?_;refine qV (za9 (za5 ?_));refine rT (.c (cB false)) h rfl ?_;have hz:f.holds vs=(false):=by rw [za0.holds_eq,if_neg (by omega),if_neg (by omega),if_pos (by omega)];rw [cV.1 (show f.kids.length=0 by have:=dF hc7;omega)];try rfl
  rw [hz];try rfl
 have hc8':=hc8;(try simp at hc8');refine Je 1 [] [17] [(32,vb (f.kind == 4))] h fun a w h=>?_;refine cS (f.kind == 4) h (fun hc9=>?_) (fun hc14=>?_)
 ·have hc9':=hc9;(try simp at hc9');refine qW (Je 1 [] [8,32] [(5,vI 0)] h fun a w h=>?_);refine qZ ?_
  refine zbz (ι:=(Nat)) (fun j=>j<=f.kids.length/\(f.kids.take j).all (za0.holds vs)=true)
    [4] (fun j=>[(5,vN j)])
    [] (fun j=>[])
    (fun j=>f.kids.length - j) 0 ?_ h ?_
  ·exact ⟨bC _,rfl⟩
  clear h;rintro j a w hI h;obtain ⟨hI1,hI2⟩:=hI;refine qW (Je 1 [(3,.len (za4 6 za0.d f.kids))] [] [(38,vb (decide ((j:Int)<(f.kids.length:Int))))] h fun a w h=>?_);refine zae ((j:Int)<(f.kids.length:Int)) h (fun hc10 hc10'=>?_) (fun hc13 hc13'=>?_)
  ·refine qU (za2 (qW (qZ ?_)));obtain ⟨x4,hx4⟩:=gl f.kids j;refine Je 1 [(3,.g (xD 44 42 zfx ((za8 hx4 (f:=za0.d)).trans (congrArg some (za0.d_eq x4))) (OV.tmp 43 _))),(6,.call (ih x4 (lM hx4) (zga hf (by unfold cnt;first | (rw [if_pos (by omega)];exact lM hx4) | (rw [if_neg (by omega),if_pos (by omega)];exact zg7 hx4)))))] [38] [(48,vb (!(za0.holds vs x4)))] h fun a w h=>?_;refine cS (!(za0.holds vs x4)) h (fun hc11=>?_) (fun hc12=>?_)
   ·have hc11':=hc11;(try simp at hc11');refine Je 1 [] [48] [(4,vb false)] h fun a w h=>?_;refine qV (za9 (za5 (za5 (za9 (za5 (za9 (za5 ?_)))))));refine rT (.c (cB false)) h rfl ?_;have hz:f.holds vs=(false):=by rw [za0.holds_eq,if_neg (by omega),if_neg (by omega),if_neg (by omega),if_pos (by omega)];exact zc9 hx4 (show (za0.holds vs x4)=false from by simpa using hc11)
    rw [hz];try rfl
   have hc12':=hc12;(try simp at hc12');refine qU (za7 (za2 (Jf 1 [(1,.j1 j)] [48] [(5,vI ((j:Int)+1))] h fun a w h=>?_)));refine za2 ?_;refine zaa (x:=j) (y:=j+1) h ?_ ?_
   ·exact ⟨by have:=zac hx4;omega,ze8 hx4 hI2 (show (za0.holds vs x4)=true from by simpa using hc12)⟩
   show f.kids.length - (j+1)<f.kids.length - j;have:=zac hx4;omega
  refine exA (Jq 1 [] [(4,vb true)] [] h fun a w h=>?_);refine qV (za9 (za5 ?_));refine rT (.c (cB true)) h rfl ?_;have hz:f.holds vs=(true):=by rw [za0.holds_eq,if_neg (by omega),if_neg (by omega),if_neg (by omega),if_pos (by omega)];exact ze2 (dF hc13) hI2
  rw [hz];try rfl
 have hc14':=hc14;(try simp at hc14');refine Je 1 [] [8,32] [(49,vb (f.kind == 5))] h fun a w h=>?_;refine cS (f.kind == 5) h (fun hc15=>?_) (fun hc20=>?_)
 ·have hc15':=hc15;(try simp at hc15');refine Je 1 [] [49] [(6,vI 0)] h fun a w h=>?_;refine qZ ?_
  refine zbz (ι:=(Nat)) (fun j=>j<=f.kids.length/\(f.kids.take j).any (za0.holds vs)=false)
    [4] (fun j=>[(6,vN j)])
    [] (fun j=>[])
    (fun j=>f.kids.length - j) 0 ?_ h ?_
  ·exact ⟨bC _,rfl⟩
  clear h;rintro j a w hI h;obtain ⟨hI1,hI2⟩:=hI;refine qW (Je 1 [(3,.len (za4 6 za0.d f.kids))] [] [(55,vb (decide ((j:Int)<(f.kids.length:Int))))] h fun a w h=>?_);refine zae ((j:Int)<(f.kids.length:Int)) h (fun hc16 hc16'=>?_) (fun hc19 hc19'=>?_)
  ·refine qU (za2 (qW (qZ ?_)));obtain ⟨x6,hx6⟩:=gl f.kids j;refine Je 1 [(3,.g (xD 61 59 zfx ((za8 hx6 (f:=za0.d)).trans (congrArg some (za0.d_eq x6))) (OV.tmp 60 _))),(6,.call (ih x6 (lM hx6) (zga hf (by unfold cnt;first | (rw [if_pos (by omega)];exact lM hx6) | (rw [if_neg (by omega),if_pos (by omega)];exact zg7 hx6)))))] [55] [(64,vb (za0.holds vs x6))] h fun a w h=>?_;refine cS (za0.holds vs x6) h (fun hc17=>?_) (fun hc18=>?_)
   ·refine Je 1 [] [64] [(4,vb true)] h fun a w h=>?_;refine qV (za9 (za5 (za5 (za9 (za9 (za5 ?_))))));refine rT (.c (cB true)) h rfl ?_;have hz:f.holds vs=(true):=by rw [za0.holds_eq,if_neg (by omega),if_neg (by omega),if_neg (by omega),if_neg (by omega),if_pos (by omega)];exact any_stop hx6 hc17
    rw [hz];try rfl
   refine qU (za7 (za2 (Jf 1 [(1,.j1 j)] [64] [(6,vI ((j:Int)+1))] h fun a w h=>?_)));refine za2 ?_;refine zaa (x:=j) (y:=j+1) h ?_ ?_
   ·exact ⟨by have:=zac hx6;omega,any_step hx6 hI2 hc18⟩
   show f.kids.length - (j+1)<f.kids.length - j;have:=zac hx6;omega
  refine wp_exit (zc2 (zc2 (zau (za7 (za2 (Jq 1 [] [(4,vb false)] [] h fun a w h=>?_))))));refine qV ?_;refine rT (.c (cB false)) h rfl ?_;have hz:f.holds vs=(false):=by rw [za0.holds_eq,if_neg (by omega),if_neg (by omega),if_neg (by omega),if_neg (by omega),if_pos (by omega)];exact any_end (dF hc19) hI2
  rw [hz];try rfl
 have hc20':=hc20;(try simp at hc20');refine qU (za7 (za2 (Jq 1 [] [(4,vb false)] [] h fun a w h=>?_)));refine qV ?_;refine rT (.c (cB false)) h rfl ?_;have hz:f.holds vs=(false):=by rw [za0.holds_eq,if_neg (by omega),if_neg (by omega),if_neg (by omega),if_neg (by omega),if_neg (by omega)];try rfl
 rw [hz];try rfl
theorem zij (vs:List ZI) (hM:M<=300) (hv:VOk M vs) (f:za0):f.okB 1000000000 1000->Fn Tryz.prog 16 [] [(vF f),(vZs vs)] (vb (za0.holds vs f)) [] :=
 za0.ind (P:=fun f=>f.okB 1000000000 1000->Fn Tryz.prog 16 [] [(vF f),(vZs vs)] (vb (za0.holds vs f)) []) (fun k r ks ih hf=>LR5HoldsW0 ⟨k,r,ks⟩ vs (fun g hg h=>ih g hg h) hM hv hf) f
def Bel (m:Nat) (t:zaf):Prop:=∀ v:Int,(m:Int)<=v->zaj t.parts v=0
theorem Bel.mono {m':Nat} (h:Bel m t) (hm:m<=m'):Bel m' t:=fun v hv=>h v (by omega)
def BelF (m:Nat) (f:za0):Prop:=f.rels fun r=>Bel m r.t
theorem BelF.mono {m':Nat} (h:BelF m f) (hm:m<=m'):BelF m' f:=za0.rels_mono (fun _ hr=>Bel.mono hr hm) f h
end S
end Go.Proofs.YtlcijejaplagbaaGreat
