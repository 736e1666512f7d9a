/-
  Part 3 of the proof of the statement ConfineFuel: the walk through the program and the references lifted to the given row. It holds for every input.
-/
import Derived.Test.YtdnhcneallkljaaGreatCF2
set_option maxRecDepth 100000
set_option maxHeartbeats 20000000
open Go.RowKit
namespace Go.Proofs.YtdnhcneallkljaaGreat
namespace S
theorem ke_0:za6 Tryz.prog 126:=za6.mk' (by kernel_rfl)
theorem ke_2:za6 Tryz.prog 47:=za6.mk' (by kernel_rfl)
theorem ke_4:za6 Tryz.prog 69:=za6.mk' (by kernel_rfl)
theorem ke_5:za6 Tryz.prog 116:=za6.mk' (by kernel_rfl)
theorem ke_7:za6 Tryz.prog 142:=za6.mk' (by kernel_rfl)
theorem ke_8:za6 Tryz.prog 119:=za6.mk' (by kernel_rfl)
theorem ke_9:za6 Tryz.prog 70:=za6.mk' (by kernel_rfl)
theorem ke_10:za6 Tryz.prog 34:=za6.mk' (by kernel_rfl)
theorem ke_11:za6 Tryz.prog 117:=za6.mk' (by kernel_rfl)
theorem ke_12:za6 Tryz.prog 118:=za6.mk' (by kernel_rfl)
theorem SrelHolds (r:zg6) (vs:List ZI) {L M:Nat} (hL:L+M<=20000) (hv:VOk M vs) (hr:TokR L r):Fn Tryz.prog 117 [] [.t (.agg ([.d (.sl 3 (r.t.parts.map zbr.d))]++zi r.t.k++[.d (.raw (.bool r.eq))])),.t (.c (.d (.sl 2 (vs.map ziD))))] (vb (zeg vs r)) []:=by
 refine Fn.body Tryz.func117 rfl 22 rfl fun w H B a h=>Jq (htb:=zas) 0 [] [(1,.t (.c (.d (.sl 2 (vs.map ziD))))),(2,vp 0 0),(4,vb false)] [(0,.box ([.d (.sl 3 (r.t.parts.map zbr.d))]++zi r.t.k++[.d (.raw (.bool r.eq))]))] h fun a w h=>?_
 obtain ⟨r1,er1,vr1,or1,lr1⟩:=mkZ (v:=valT r.t vs) (m:=L+M+2) (Nat.le_trans (zfg hr (by decide) hv (fun p hp=>hp) (Nat.le_refl _)) (by omega));refine Je (htb:=zas) 1 [(3,.call (Fn.cast (SValue r.t vs hr (by decide) hL hv) (congrArg vz er1.symm)) ke_0),(4,.call (SSign r1 or1 (by omega)) td_6)] [1] [(5,vI (sgn r1.val))] h fun a w h=>?_
 rcases Bool.eq_false_or_eq_true (sgn r1.val == 0) with hc1 | hc2
 ·have hc1':=hc1;(try simp at hc1');refine Jq (htb:=zas) 1 [(1,.cmp (op:=.eql) (m:=(sgn r1.val)) (n:=0) (b:=true) .i64 hc1)] [(4,vb true)] [] h fun a w h=>qV (rT (.c (.d (.raw (.bool true)))) h rfl ?_)
  have hz:zeg vs r=(true):=by
   unfold zeg;rw [<- vr1]
   cases he:r.eq <;> simp_all <;> omega
  rw [hz];try rfl
 have hc2':=hc2;(try simp at hc2')
 rcases Bool.eq_false_or_eq_true r.eq with hc3 | hc4
 ·rw [hc3] at h;refine Jq (htb:=zas) 1 [(1,.cmp (op:=.eql) (m:=(sgn r1.val)) (n:=0) (b:=false) .i64 hc2)] [(4,vb false)] [] h fun a w h=>qV (rT (.c (.d (.raw (.bool false)))) h rfl ?_)
  have hz:zeg vs r=(false):=by
   unfold zeg;rw [<- vr1]
   cases he:r.eq <;> simp_all <;> omega
  rw [hz];try rfl
 rw [hc4] at h;refine Jq (htb:=zas) 1 [(1,.cmp (op:=.eql) (m:=(sgn r1.val)) (n:=0) (b:=false) .i64 hc2)] [(4,vb (decide (sgn r1.val>0)))] [] h fun a w h=>qV (rT (.c (.d (.raw (.bool (decide (sgn r1.val>0)))))) h rfl ?_)
 have hz:zeg vs r=(decide (sgn r1.val>0)):=by
  unfold zeg;rw [<- vr1]
  cases he:r.eq <;> simp_all <;> omega
 rw [hz];try rfl
theorem SRrelHolds (r:zg6) (vs:List ZI) {L M:Nat} (hL:L+M<=20000) (hv:VOk M vs) (hr:TokR L r):Fn Tryz.prog 70 [] [(vR r),(vZs vs)] (vb (zeg vs r)) []:=by
 refine Fn.body Tryz.func70 rfl 17 rfl fun w H B a h=>Jq (htb:=zas) 0 [] [(1,(vZs vs)),(2,vp 0 0),(4,vb false)] [(0,.box (zR_ r))] h fun a w h=>?_
 obtain ⟨r1,er1,vr1,or1,lr1⟩:=mkZ (v:=valT r.t vs) (m:=L+M+2) (Nat.le_trans (zfg hr (by decide) hv (fun p hp=>hp) (Nat.le_refl _)) (by omega));refine Je (htb:=zas) 1 [(3,.call (Fn.cast (SRValue r.t vs hr (by decide) hL hv) (congrArg vz er1.symm)) ke_2),(4,.call (zd6 r1 or1 (by omega)) ib_0)] [1] [(5,vI (sgn r1.val))] h fun a w h=>qW (Jd (htb:=zas) 1 [] [2] [(12,vb r.eq)] [] h fun a w h=>cS r.eq h (fun hc1=>?_) (fun hc2=>?_))
 ·refine Jd (htb:=zas) 1 [] [12] [(4,vb (sgn r1.val == 0))] [] h fun a w h=>qV (za2 (rT (.c (cB (sgn r1.val == 0))) h rfl ?_))
  have hz:zeg vs r=(sgn r1.val == 0):=by
   unfold zeg;rw [<- vr1]
   cases he:r.eq <;> simp_all <;> omega
  rw [hz];try rfl
 refine qU (za0 (Jq (htb:=zas) 1 [] [(4,vb (decide (sgn r1.val>=0)))] [] h fun a w h=>qV (rT (.c (cB (decide (sgn r1.val>=0)))) h rfl ?_)))
 have hz:zeg vs r=(decide (sgn r1.val>=0)):=by
  unfold zeg;rw [<- vr1]
  cases he:r.eq <;> simp_all <;> omega
 rw [hz];try rfl
theorem SHolds1 (g:za8) (vs:List ZI) (hg:Fn Tryz.prog 69 [] [(vF g),(vZs vs)] (vb (za8.holds vs g)) []):Fn Tryz.prog 116 [(1,.box [cZs vs])] [(vF g),vp 1 0] (vb (za8.holds vs g)) [(1,.box [cZs vs])]:=by
 refine Fn.body Tryz.func116 rfl 7 rfl fun w H B a h=>Jq (htb:=zas) 5 [] [(1,vp 1 0),(2,vp 5 0),(3,vb false)] [(1,.box [cZs vs]),(5,.box (zF g))] h fun a w h=>Jq (htb:=zas) 6 [(2,.call (hg) ke_4)] [(3,vb (za8.holds vs g))] [(1,.box [cZs vs])] h fun a w h=>qV (rT (.c (cB (za8.holds vs g))) h rfl ?_)
 rfl
theorem SHolds2 (g:za8) (vs:List ZI) (hg:Fn Tryz.prog 69 [] [(vF g),(vZs vs)] (vb (za8.holds vs g)) []):Fn Tryz.prog 119 [(2,.box [.fn (.func 116) [] [.ptr 1 0]]),(1,.box [cZs vs])] [(vF g),vp 2 0] (vb (!za8.holds vs g)) [(2,.box [.fn (.func 116) [] [.ptr 1 0]]),(1,.box [cZs vs])]:=by
 refine Fn.body Tryz.func119 rfl 8 rfl fun w H B a h=>Jq (htb:=zas) 5 [] [(1,vp 2 0),(2,vp 5 0),(3,vb false)] [(2,.box [.fn (.func 116) [] [.ptr 1 0]]),(1,.box [cZs vs]),(5,.box (zF g))] h fun a w h=>Jq (htb:=zas) 6 [(2,.g (Op.callV (d:=6) (t:=4) (cap:=[.ptr 1 0]) (args:=[(vF g)]) (rs:=[(5,(vF g))]) (tys:=#[35]) (SHolds1 g vs hg) ke_5 (OVs.cons (OV.tmp 5 _) (OVs.nil))))] [(3,vb (!(za8.holds vs g)))] [(2,.box [.fn (.func 116) [] [.ptr 1 0]]),(1,.box [cZs vs])] h fun a w h=>qV (rT (.c (cB (!(za8.holds vs g)))) h rfl ?_)
 rfl
theorem SIdxH1 (pr:za8->Bool) (xs:List za8) (vs:List ZI) (hf:∀ x ∈ xs,Fn Tryz.prog 116 [(1,.box [cZs vs])] [(vF x),vp 1 0] (vb (pr x)) [(1,.box [cZs vs])]) (hl:xs.length<=9223372036854775807):Fn Tryz.prog 142 [(1,.box [cZs vs])] [(vFs xs),.t (.c (.fn (.func 116) [] [.ptr 1 0]))] (vI (zcf pr xs 0)) [(1,.box [cZs vs])]:=by
 refine Fn.body Tryz.func142 rfl 19 rfl fun w H B a h=>Jq (htb:=zas) 5 [] [(0,(vFs xs)),(1,.t (.c (.fn (.func 116) [] [.ptr 1 0]))),(4,vI 0)] [(1,.box [cZs vs])] h fun a w h=>qW (Je (htb:=zas) 5 [(1,.len (za3 6 za8.d xs))] [] [(7,vN xs.length),(8,vI 0)] h fun a w h=>qZ ?_)
 refine zb5 (ι:=(Nat)) (fun j=>j<=xs.length/\zcf pr xs 0=zcf pr (xs.drop j) j)
   (fun j=>[(0,(vFs xs)),(1,.t (.c (.fn (.func 116) [] [.ptr 1 0]))),(7,vN xs.length),(8,vN j)])
   (fun j=>[(1,.box [cZs vs])])
   (fun j=>xs.length - j) 0 ?_ h (by kernel_rfl) (by kernel_rfl) ?_
 ·exact ⟨Nat.zero_le _,rfl⟩
 clear h;rintro j a w hI h;obtain ⟨hI1,hI2⟩:=hI;refine Je (htb:=zas) 5 [] [] [(9,vb (decide ((j:Int)<(xs.length:Int))))] h fun a w h=>qW (zap ((j:Int)<(xs.length:Int)) h (fun hc1 hc1'=>?_) (fun hc4 hc4'=>?_))
 ·refine qU (za0 (qW (qZ (Je (htb:=zas) 5 [] [9] [(5,vN j)] h fun a w h=>?_))));obtain ⟨x1,hx1⟩:=gl xs j;refine Je (htb:=zas) 5 [(3,.g (xD 14 12 kb_0 ((zab hx1 (f:=za8.d)).trans (congrArg some (za8.d_eq x1))) (OV.tmp 13 _))),(5,.g (Op.callV (d:=16) (t:=11) (cap:=[.ptr 1 0]) (args:=[(vF x1)]) (rs:=[(15,(vF x1))]) (tys:=#[35]) (hf x1 (lM hx1)) ke_5 (OVs.cons (OV.tmp 15 _) (OVs.nil))))] [] [(16,vb (pr x1))] h fun a w h=>cS (pr x1) h (fun hc2=>?_) (fun hc3=>?_)
  ·refine Je (htb:=zas) 5 [] [5,16] [(4,vN j)] h fun a w h=>qV (za7 (za2 (za2 (za7 (za2 (rT (.c (cI (j:Int))) h rfl ?_))))));have hz:zcf pr xs 0=(j:Int):=by rw [hI2,zca hx1,if_pos hc2]
   rw [hz];try rfl
  refine qU (zac (za0 (Jf (htb:=zas) 5 [(0,.j1 j)] [5,16] [(8,vI ((j:Int)+1))] h fun a w h=>za0 (zag (x:=j) (y:=j+1) h ?_ ?_))))
  ·exact ⟨by have:=zak hx1;omega,by rw [hI2,zca hx1,if_neg (by rw [hc3];exact Bool.noConfusion)]⟩
  (try simp);omega
 refine wp_exit (zaa (zaa (za5 (za0 (Jp (htb:=zas) 5 [] [(4,vI (-1))] h fun a w h=>qV (rT (.c (cI (-1))) h rfl ?_))))));have hz:zcf pr xs 0=-1:=by rw [hI2,List.drop_of_length_le (by omega)];rfl
 rw [hz];try rfl
theorem SAnyH1 (pr:za8->Bool) (xs:List za8) (vs:List ZI) (hf:∀ x ∈ xs,Fn Tryz.prog 116 [(1,.box [cZs vs])] [(vF x),vp 1 0] (vb (pr x)) [(1,.box [cZs vs])]) (hl:xs.length<=9223372036854775807):Fn Tryz.prog 118 [(1,.box [cZs vs])] [(vFs xs),.t (.c (.fn (.func 116) [] [.ptr 1 0]))] (vb (xs.any pr)) [(1,.box [cZs vs])]:=by
 refine Fn.body Tryz.func118 rfl 9 rfl fun w H B a h=>Jq (htb:=zas) 5 [] [(0,(vFs xs)),(1,.t (.c (.fn (.func 116) [] [.ptr 1 0]))),(4,vb false)] [(1,.box [cZs vs])] h fun a w h=>Jp (htb:=zas) 5 [(2,.call (SIdxH1 pr xs vs hf  hl) ke_7)] [(4,vb (decide (zcf pr xs 0>=0)))] h fun a w h=>qV (rT (.c (cB (decide (zcf pr xs 0>=0)))) h rfl ?_)
 rw [<- zf1];try rfl
theorem SIdxH2 (pr:za8->Bool) (xs:List za8) (vs:List ZI) (hf:∀ x ∈ xs,Fn Tryz.prog 119 [(2,.box [.fn (.func 116) [] [.ptr 1 0]]),(1,.box [cZs vs])] [(vF x),vp 2 0] (vb (pr x)) [(2,.box [.fn (.func 116) [] [.ptr 1 0]]),(1,.box [cZs vs])]) (hl:xs.length<=9223372036854775807):Fn Tryz.prog 142 [(2,.box [.fn (.func 116) [] [.ptr 1 0]]),(1,.box [cZs vs])] [(vFs xs),.t (.c (.fn (.func 119) [] [.ptr 2 0]))] (vI (zcf pr xs 0)) [(2,.box [.fn (.func 116) [] [.ptr 1 0]]),(1,.box [cZs vs])]:=by
 refine Fn.body Tryz.func142 rfl 19 rfl fun w H B a h=>Jq (htb:=zas) 5 [] [(0,(vFs xs)),(1,.t (.c (.fn (.func 119) [] [.ptr 2 0]))),(4,vI 0)] [(2,.box [.fn (.func 116) [] [.ptr 1 0]]),(1,.box [cZs vs])] h fun a w h=>qW (Je (htb:=zas) 5 [(1,.len (za3 6 za8.d xs))] [] [(7,vN xs.length),(8,vI 0)] h fun a w h=>qZ ?_)
 refine zb5 (ι:=(Nat)) (fun j=>j<=xs.length/\zcf pr xs 0=zcf pr (xs.drop j) j)
   (fun j=>[(0,(vFs xs)),(1,.t (.c (.fn (.func 119) [] [.ptr 2 0]))),(7,vN xs.length),(8,vN j)])
   (fun j=>[(2,.box [.fn (.func 116) [] [.ptr 1 0]]),(1,.box [cZs vs])])
   (fun j=>xs.length - j) 0 ?_ h (by kernel_rfl) (by kernel_rfl) ?_
 ·exact ⟨Nat.zero_le _,rfl⟩
 clear h;rintro j a w hI h;obtain ⟨hI1,hI2⟩:=hI;refine Je (htb:=zas) 5 [] [] [(9,vb (decide ((j:Int)<(xs.length:Int))))] h fun a w h=>qW (zap ((j:Int)<(xs.length:Int)) h (fun hc1 hc1'=>?_) (fun hc4 hc4'=>?_))
 ·refine qU (za0 (qW (qZ (Je (htb:=zas) 5 [] [9] [(5,vN j)] h fun a w h=>?_))));obtain ⟨x1,hx1⟩:=gl xs j;refine Je (htb:=zas) 5 [(3,.g (xD 14 12 kb_0 ((zab hx1 (f:=za8.d)).trans (congrArg some (za8.d_eq x1))) (OV.tmp 13 _))),(5,.g (Op.callV (d:=16) (t:=11) (cap:=[.ptr 2 0]) (args:=[(vF x1)]) (rs:=[(15,(vF x1))]) (tys:=#[35]) (hf x1 (lM hx1)) ke_8 (OVs.cons (OV.tmp 15 _) (OVs.nil))))] [] [(16,vb (pr x1))] h fun a w h=>cS (pr x1) h (fun hc2=>?_) (fun hc3=>?_)
  ·refine Je (htb:=zas) 5 [] [5,16] [(4,vN j)] h fun a w h=>qV (za7 (za2 (za2 (za7 (za2 (rT (.c (cI (j:Int))) h rfl ?_))))));have hz:zcf pr xs 0=(j:Int):=by rw [hI2,zca hx1,if_pos hc2]
   rw [hz];try rfl
  refine qU (zac (za0 (Jf (htb:=zas) 5 [(0,.j1 j)] [5,16] [(8,vI ((j:Int)+1))] h fun a w h=>za0 (zag (x:=j) (y:=j+1) h ?_ ?_))))
  ·exact ⟨by have:=zak hx1;omega,by rw [hI2,zca hx1,if_neg (by rw [hc3];exact Bool.noConfusion)]⟩
  (try simp);omega
 refine wp_exit (zaa (zaa (za5 (za0 (Jp (htb:=zas) 5 [] [(4,vI (-1))] h fun a w h=>qV (rT (.c (cI (-1))) h rfl ?_))))));have hz:zcf pr xs 0=-1:=by rw [hI2,List.drop_of_length_le (by omega)];rfl
 rw [hz];try rfl
theorem SAnyH2 (pr:za8->Bool) (xs:List za8) (vs:List ZI) (hf:∀ x ∈ xs,Fn Tryz.prog 119 [(2,.box [.fn (.func 116) [] [.ptr 1 0]]),(1,.box [cZs vs])] [(vF x),vp 2 0] (vb (pr x)) [(2,.box [.fn (.func 116) [] [.ptr 1 0]]),(1,.box [cZs vs])]) (hl:xs.length<=9223372036854775807):Fn Tryz.prog 118 [(2,.box [.fn (.func 116) [] [.ptr 1 0]]),(1,.box [cZs vs])] [(vFs xs),.t (.c (.fn (.func 119) [] [.ptr 2 0]))] (vb (xs.any pr)) [(2,.box [.fn (.func 116) [] [.ptr 1 0]]),(1,.box [cZs vs])]:=by
 refine Fn.body Tryz.func118 rfl 9 rfl fun w H B a h=>Jq (htb:=zas) 5 [] [(0,(vFs xs)),(1,.t (.c (.fn (.func 119) [] [.ptr 2 0]))),(4,vb false)] [(2,.box [.fn (.func 116) [] [.ptr 1 0]]),(1,.box [cZs vs])] h fun a w h=>Jp (htb:=zas) 5 [(2,.call (SIdxH2 pr xs vs hf  hl) ke_7)] [(4,vb (decide (zcf pr xs 0>=0)))] h fun a w h=>qV (rT (.c (cB (decide (zcf pr xs 0>=0)))) h rfl ?_)
 rw [<- zf1];try rfl
theorem zgv {α:Type} {xs:List α} {x:α} (h:xs[0]?=some x):x ∈ xs.take 1:=by
 cases xs with
 | nil=>cases h
 | cons y ys=>simp at h;subst h;simp
theorem cons_of_at {α:Type} {xs:List α} {x:α} (h:xs[0]?=some x):∃ tl,xs=x :: tl:=by
 cases xs with
 | nil=>cases h
 | cons y ys=>simp at h;subst h;exact ⟨ys,rfl⟩
theorem SRHolds0 (f:za8) (vs:List ZI) {L M:Nat} (ih:∀ g ∈ f.kids,g.ok L->Fn Tryz.prog 34 [] [(vF g),(vZs vs)] (vb (za8.holds vs g)) []) (hL:L+M<=20000) (hv:VOk M vs) (hf:f.ok L) (hk:f.kids.length<=9223372036854775807):Fn Tryz.prog 34 [] [(vF f),(vZs vs)] (vb (f.holds vs)) []:=by
 refine Fn.body Tryz.func34 rfl 65 rfl fun w H B a h=>Jq (htb:=zas) 0 [] [(1,(vZs vs)),(2,vp 0 0),(4,vb false)] [(0,.box (zF f))] h fun a w h=>qW (Je (htb:=zas) 1 [] [] [(8,vI f.kind)] h fun a w h=>qZ (Je (htb:=zas) 1 [] [] [(9,vb (f.kind == 0))] h fun a w h=>cS (f.kind == 0) h (fun hc1=>?_) (fun hc2=>?_)))
 ·have hc1':=hc1;(try simp at hc1');refine Jq (htb:=zas) 1 [] [(4,vb true)] [] h fun a w h=>qV (za7 (za2 (rT (.c (cB true)) h rfl ?_)));have hz:f.holds vs=(true):=by rw [za8.holds_eq,if_pos (by omega)];try rfl
  rw [hz];try rfl
 have hc2':=hc2;(try simp at hc2');refine Je (htb:=zas) 1 [] [9] [(11,vb (f.kind == 2))] h fun a w h=>cS (f.kind == 2) h (fun hc3=>?_) (fun hc4=>?_)
 ·have hc3':=hc3;(try simp at hc3');refine Jq (htb:=zas) 1 [(3,.call (SRrelHolds f.r vs hL hv (((za8.ok_eq L f).1 hf).1 (by omega))) ke_9)] [(4,vb (zeg vs f.r))] [] h fun a w h=>qV (za7 (za2 (rT (.c (cB (zeg vs f.r))) h rfl ?_)));have hz:f.holds vs=(zeg vs f.r):=by rw [za8.holds_eq,if_neg (by omega),if_pos (by omega)];try rfl
  rw [hz];try rfl
 have hc4':=hc4;(try simp at hc4');refine Je (htb:=zas) 1 [] [11] [(17,vb (f.kind == 3))] h fun a w h=>cS (f.kind == 3) h (fun hc5=>?_) (fun hc8=>?_)
 ·have hc5':=hc5;(try simp at hc5')
  rcases Bool.eq_false_or_eq_true (decide ((f.kids.length:Int)>0)) with hc6 | hc7
  ·have hc6':=dT hc6;obtain ⟨x2,hx2⟩:=gl f.kids 0;refine Jq (htb:=zas) 1 [(2,.len (za3 6 za8.d f.kids)),(3,.cmp (op:=.gtr) (m:=(f.kids.length:Int)) (n:=0) (b:=true) .i64 hc6),(7,.g (xD 26 25 kb_0 ((zab hx2 (f:=za8.d)).trans (congrArg some (za8.d_eq x2))) (OV.const (.int .i64 0) rfl))),(10,.call (ih x2 (lM hx2) (((za8.ok_eq L f).1 hf).2 _ (by unfold cnt;first | (rw [if_pos (by omega)];exact lM hx2) | (rw [if_neg (by omega),if_pos (by omega)];exact zgv hx2)))) ke_10)] [(4,vb (!(za8.holds vs x2)))] [] h fun a w h=>qV (za7 (za2 (rT (.c (cB (!(za8.holds vs x2)))) h rfl ?_)));have hz:f.holds vs=(!(za8.holds vs x2)):=by rw [za8.holds_eq,if_neg (by omega),if_neg (by omega),if_pos (by omega)];obtain ⟨tl,htl⟩:=cons_of_at hx2;rw [htl];try rfl
   rw [hz];try rfl
  have hc7':=dF hc7;refine Jq (htb:=zas) 1 [(2,.len (za3 6 za8.d f.kids)),(3,.cmp (op:=.gtr) (m:=(f.kids.length:Int)) (n:=0) (b:=false) .i64 hc7)] [(4,vb false)] [] h fun a w h=>qV (za7 (za2 (rT (.c (cB false)) h rfl ?_)));have hz:f.holds vs=(false):=by rw [za8.holds_eq,if_neg (by omega),if_neg (by omega),if_pos (by omega)];rw [List.length_eq_zero_iff.1 (show f.kids.length=0 by have:=dF hc7;omega)];try rfl
  rw [hz];try rfl
 have hc8':=hc8;(try simp at hc8');refine Je (htb:=zas) 1 [] [17] [(32,vb (f.kind == 4))] h fun a w h=>cS (f.kind == 4) h (fun hc9=>?_) (fun hc14=>?_)
 ·have hc9':=hc9;(try simp at hc9');refine qW (Je (htb:=zas) 1 [] [8,32] [(5,vI 0)] h fun a w h=>qZ ?_)
  refine zb5 (ι:=(Nat)) (fun j=>j<=f.kids.length/\(f.kids.take j).all (za8.holds vs)=true)
    (fun j=>[(1,(vZs vs)),(2,vp 0 0),(5,vN j)])
    (fun j=>[(0,.box (zF f))])
    (fun j=>f.kids.length - j) 0 ?_ h (by kernel_rfl) (by kernel_rfl) ?_
  ·exact ⟨Nat.zero_le _,rfl⟩
  clear h;rintro j a w hI h;obtain ⟨hI1,hI2⟩:=hI;refine qW (Je (htb:=zas) 1 [(3,.len (za3 6 za8.d f.kids))] [] [(38,vb (decide ((j:Int)<(f.kids.length:Int))))] h fun a w h=>zap ((j:Int)<(f.kids.length:Int)) h (fun hc10 hc10'=>?_) (fun hc13 hc13'=>?_))
  ·refine qU (za0 (qW (qZ ?_)));obtain ⟨x4,hx4⟩:=gl f.kids j;refine Je (htb:=zas) 1 [(3,.g (xD 44 42 kb_0 ((zab hx4 (f:=za8.d)).trans (congrArg some (za8.d_eq x4))) (OV.tmp 43 _))),(6,.call (ih x4 (lM hx4) (((za8.ok_eq L f).1 hf).2 _ (by unfold cnt;first | (rw [if_pos (by omega)];exact lM hx4) | (rw [if_neg (by omega),if_pos (by omega)];exact zgv hx4)))) ke_10)] [38] [(48,vb (!(za8.holds vs x4)))] h fun a w h=>cS (!(za8.holds vs x4)) h (fun hc11=>?_) (fun hc12=>?_)
   ·have hc11':=hc11;(try simp at hc11');refine Je (htb:=zas) 1 [] [48] [(4,vb false)] h fun a w h=>qV (za7 (za2 (za2 (za7 (za2 (za7 (za2 (rT (.c (cB false)) h rfl ?_))))))));have hz:f.holds vs=(false):=by rw [za8.holds_eq,if_neg (by omega),if_neg (by omega),if_neg (by omega),if_pos (by omega)];exact zcq hx4 (show (za8.holds vs x4)=false from by simpa using hc11)
    rw [hz];try rfl
   have hc12':=hc12;(try simp at hc12');refine qU (zac (za0 (Jf (htb:=zas) 1 [(1,.j1 j)] [48] [(5,vI ((j:Int)+1))] h fun a w h=>za0 (zag (x:=j) (y:=j+1) h ?_ ?_))))
   ·exact ⟨by have:=zak hx4;omega,zea hx4 hI2 (show (za8.holds vs x4)=true from by simpa using hc12)⟩
   show f.kids.length - (j+1)<f.kids.length - j;have:=zak hx4;omega
  refine wp_exit (zaa (zaa (za5 (za0 (Jq (htb:=zas) 1 [] [(4,vb true)] [] h fun a w h=>qV (za7 (za2 (rT (.c (cB true)) h rfl ?_))))))));have hz:f.holds vs=(true):=by rw [za8.holds_eq,if_neg (by omega),if_neg (by omega),if_neg (by omega),if_pos (by omega)];exact zdx (dF hc13) hI2
  rw [hz];try rfl
 have hc14':=hc14;(try simp at hc14');refine Je (htb:=zas) 1 [] [8,32] [(49,vb (f.kind == 5))] h fun a w h=>cS (f.kind == 5) h (fun hc15=>?_) (fun hc20=>?_)
 ·have hc15':=hc15;(try simp at hc15');refine Je (htb:=zas) 1 [] [49] [(6,vI 0)] h fun a w h=>qZ ?_
  refine zb5 (ι:=(Nat)) (fun j=>j<=f.kids.length/\(f.kids.take j).any (za8.holds vs)=false)
    (fun j=>[(1,(vZs vs)),(2,vp 0 0),(6,vN j)])
    (fun j=>[(0,.box (zF f))])
    (fun j=>f.kids.length - j) 0 ?_ h (by kernel_rfl) (by kernel_rfl) ?_
  ·exact ⟨Nat.zero_le _,rfl⟩
  clear h;rintro j a w hI h;obtain ⟨hI1,hI2⟩:=hI;refine qW (Je (htb:=zas) 1 [(3,.len (za3 6 za8.d f.kids))] [] [(55,vb (decide ((j:Int)<(f.kids.length:Int))))] h fun a w h=>zap ((j:Int)<(f.kids.length:Int)) h (fun hc16 hc16'=>?_) (fun hc19 hc19'=>?_))
  ·refine qU (za0 (qW (qZ ?_)));obtain ⟨x6,hx6⟩:=gl f.kids j;refine Je (htb:=zas) 1 [(3,.g (xD 61 59 kb_0 ((zab hx6 (f:=za8.d)).trans (congrArg some (za8.d_eq x6))) (OV.tmp 60 _))),(6,.call (ih x6 (lM hx6) (((za8.ok_eq L f).1 hf).2 _ (by unfold cnt;first | (rw [if_pos (by omega)];exact lM hx6) | (rw [if_neg (by omega),if_pos (by omega)];exact zgv hx6)))) ke_10)] [55] [(64,vb (za8.holds vs x6))] h fun a w h=>cS (za8.holds vs x6) h (fun hc17=>?_) (fun hc18=>?_)
   ·refine Je (htb:=zas) 1 [] [64] [(4,vb true)] h fun a w h=>qV (za7 (za2 (za2 (za7 (za7 (za2 (rT (.c (cB true)) h rfl ?_)))))));have hz:f.holds vs=(true):=by rw [za8.holds_eq,if_neg (by omega),if_neg (by omega),if_neg (by omega),if_neg (by omega),if_pos (by omega)];exact zit hx6 hc17
    rw [hz];try rfl
   refine qU (zac (za0 (Jf (htb:=zas) 1 [(1,.j1 j)] [64] [(6,vI ((j:Int)+1))] h fun a w h=>za0 (zag (x:=j) (y:=j+1) h ?_ ?_))))
   ·exact ⟨by have:=zak hx6;omega,any_step hx6 hI2 hc18⟩
   show f.kids.length - (j+1)<f.kids.length - j;have:=zak hx6;omega
  refine wp_exit (zaa (zaa (za5 (zac (za0 (Jq (htb:=zas) 1 [] [(4,vb false)] [] h fun a w h=>qV (rT (.c (cB false)) h rfl ?_)))))));have hz:f.holds vs=(false):=by rw [za8.holds_eq,if_neg (by omega),if_neg (by omega),if_neg (by omega),if_neg (by omega),if_pos (by omega)];exact any_end (dF hc19) hI2
  rw [hz];try rfl
 have hc20':=hc20;(try simp at hc20');refine qU (zac (za0 (Jq (htb:=zas) 1 [] [(4,vb false)] [] h fun a w h=>qV (rT (.c (cB false)) h rfl ?_))));have hz:f.holds vs=(false):=by rw [za8.holds_eq,if_neg (by omega),if_neg (by omega),if_neg (by omega),if_neg (by omega),if_neg (by omega)];try rfl
 rw [hz];try rfl
theorem SHolds0 (f:za8) (vs:List ZI) {L M:Nat} (ih:∀ g ∈ f.kids,g.ok L->Fn Tryz.prog 69 [] [(vF g),(vZs vs)] (vb (za8.holds vs g)) []) (hL:L+M<=20000) (hv:VOk M vs) (hf:f.ok L) (hk:f.kids.length<=9223372036854775807):Fn Tryz.prog 69 [] [(vF f),(vZs vs)] (vb (f.holds vs)) []:=by
 refine Fn.body Tryz.func69 rfl 45 rfl fun w H B a h=>Jq (htb:=zas) 0 [] [(2,vp 0 0),(3,vp 1 0),(4,vb false)] [(0,.box (zF f)),(1,.box [cZs vs])] h fun a w h=>Jd (htb:=zas) 2 [(0,.g (Op.makeFs (d:=6) (fn:=.func 116) [(3,1,0)]))] [] [(5,vp 2 0)] [(0,.box (zF f)),(1,.box [cZs vs]),(2,.box [.fn (.func 116) [] [.ptr 1 0]])] h fun a w h=>qW (Je (htb:=zas) 3 [] [] [(8,vI f.kind)] h fun a w h=>qZ (Je (htb:=zas) 3 [] [] [(9,vb (f.kind == 0))] h fun a w h=>cS (f.kind == 0) h (fun hc1=>?_) (fun hc2=>?_)))
 ·have hc1':=hc1;(try simp at hc1');refine Jq (htb:=zas) 3 [] [(4,vb true)] [] h fun a w h=>qV (za7 (za2 (rT (.c (cB true)) h rfl ?_)));have hz:f.holds vs=(true):=by rw [za8.holds_eq,if_pos (by omega)];try rfl
  rw [hz];try rfl
 have hc2':=hc2;(try simp at hc2');refine Je (htb:=zas) 3 [] [9] [(11,vb (f.kind == 2))] h fun a w h=>cS (f.kind == 2) h (fun hc3=>?_) (fun hc4=>?_)
 ·have hc3':=hc3;(try simp at hc3');refine Jq (htb:=zas) 3 [(3,.call (SrelHolds f.r vs hL hv (((za8.ok_eq L f).1 hf).1 (by omega))) ke_11)] [(4,vb (zeg vs f.r))] [] h fun a w h=>qV (za7 (za2 (rT (.c (cB (zeg vs f.r))) h rfl ?_)));have hz:f.holds vs=(zeg vs f.r):=by rw [za8.holds_eq,if_neg (by omega),if_pos (by omega)];try rfl
  rw [hz];try rfl
 have hc4':=hc4;(try simp at hc4');refine Je (htb:=zas) 3 [] [3,11] [(17,vb (f.kind == 3))] h fun a w h=>cS (f.kind == 3) h (fun hc5=>?_) (fun hc8=>?_)
 ·have hc5':=hc5;(try simp at hc5')
  rcases Bool.eq_false_or_eq_true (decide ((f.kids.length:Int)>0)) with hc6 | hc7
  ·have hc6':=dT hc6;obtain ⟨x2,hx2⟩:=gl f.kids 0;refine Jq (htb:=zas) 3 [(2,.len (za3 6 za8.d f.kids)),(3,.cmp (op:=.gtr) (m:=(f.kids.length:Int)) (n:=0) (b:=true) .i64 hc6),(8,.g (xD 27 26 kb_0 ((zab hx2 (f:=za8.d)).trans (congrArg some (za8.d_eq x2))) (OV.const (.int .i64 0) rfl))),(10,.g (Op.callV (d:=29) (t:=24) (cap:=[.ptr 1 0]) (args:=[(vF x2)]) (rs:=[(28,(vF x2))]) (tys:=#[35]) (SHolds1 x2 vs (ih x2 (lM hx2) (((za8.ok_eq L f).1 hf).2 _ (by unfold cnt;first | (rw [if_pos (by omega)];exact lM hx2) | (rw [if_neg (by omega),if_pos (by omega)];exact zgv hx2))))) ke_5 (OVs.cons (OV.tmp 28 _) (OVs.nil))))] [(4,vb (!(za8.holds vs x2)))] [] h fun a w h=>qV (za7 (za2 (rT (.c (cB (!(za8.holds vs x2)))) h rfl ?_)));have hz:f.holds vs=(!(za8.holds vs x2)):=by rw [za8.holds_eq,if_neg (by omega),if_neg (by omega),if_pos (by omega)];obtain ⟨tl,htl⟩:=cons_of_at hx2;rw [htl];try rfl
   rw [hz];try rfl
  have hc7':=dF hc7;refine Jq (htb:=zas) 3 [(2,.len (za3 6 za8.d f.kids)),(3,.cmp (op:=.gtr) (m:=(f.kids.length:Int)) (n:=0) (b:=false) .i64 hc7)] [(4,vb false)] [] h fun a w h=>qV (za7 (za2 (rT (.c (cB false)) h rfl ?_)));have hz:f.holds vs=(false):=by rw [za8.holds_eq,if_neg (by omega),if_neg (by omega),if_pos (by omega)];rw [List.length_eq_zero_iff.1 (show f.kids.length=0 by have:=dF hc7;omega)];try rfl
  rw [hz];try rfl
 have hc8':=hc8;(try simp at hc8');refine Je (htb:=zas) 3 [] [17] [(32,vb (f.kind == 4))] h fun a w h=>cS (f.kind == 4) h (fun hc9=>?_) (fun hc10=>?_)
 ·have hc9':=hc9;(try simp at hc9');refine Jq (htb:=zas) 3 [(2,.g (Op.makeFs (d:=36) (fn:=.func 119) [(5,2,0)])),(3,.call (SAnyH2 (fun g=>!za8.holds vs g) f.kids vs (fun g hg=>SHolds2 g vs (ih g hg (((za8.ok_eq L f).1 hf).2 _ (by unfold cnt;rw [if_pos (by omega)];exact hg)))) hk) ke_12)] [(4,vb (!(f.kids.any (fun g=>!za8.holds vs g))))] [] h fun a w h=>qV (za7 (za2 (rT (.c (cB (!(f.kids.any (fun g=>!za8.holds vs g))))) h rfl ?_)));have hz:f.holds vs=(!(f.kids.any (fun g=>!za8.holds vs g))):=by rw [za8.holds_eq,if_neg (by omega),if_neg (by omega),if_neg (by omega),if_pos (by omega)];rw [List.all_eq_not_any_not];try rfl
  rw [hz];try rfl
 have hc10':=hc10;(try simp at hc10');refine Je (htb:=zas) 3 [] [8,32] [(39,vb (f.kind == 5))] h fun a w h=>cS (f.kind == 5) h (fun hc11=>?_) (fun hc12=>?_)
 ·have hc11':=hc11;(try simp at hc11');refine Jq (htb:=zas) 3 [(3,.call (SAnyH1 (za8.holds vs) f.kids vs (fun g hg=>SHolds1 g vs (ih g hg (((za8.ok_eq L f).1 hf).2 _ (by unfold cnt;rw [if_pos (by omega)];exact hg)))) hk) ke_12)] [(4,vb (f.kids.any (za8.holds vs)))] [] h fun a w h=>qV (za7 (za2 (rT (.c (cB (f.kids.any (za8.holds vs)))) h rfl ?_)));have hz:f.holds vs=(f.kids.any (za8.holds vs)):=by rw [za8.holds_eq,if_neg (by omega),if_neg (by omega),if_neg (by omega),if_neg (by omega),if_pos (by omega)];try rfl
  rw [hz];try rfl
 have hc12':=hc12;(try simp at hc12');refine qU (zac (za0 (Jq (htb:=zas) 3 [] [(4,vb false)] [] h fun a w h=>qV (rT (.c (cB false)) h rfl ?_))));have hz:f.holds vs=(false):=by rw [za8.holds_eq,if_neg (by omega),if_neg (by omega),if_neg (by omega),if_neg (by omega),if_neg (by omega)];try rfl
 rw [hz];try rfl
theorem SRHolds (vs:List ZI) {L M:Nat} (hL:L+M<=20000) (hv:VOk M vs) (f:za8):f.lb->f.ok L->Fn Tryz.prog 34 [] [(vF f),(vZs vs)] (vb (za8.holds vs f)) [] :=
 za8.ind (P:=fun f=>f.lb->f.ok L->Fn Tryz.prog 34 [] [(vF f),(vZs vs)] (vb (za8.holds vs f)) []) (fun k r ks ih hl hf=>by
  have hl:=(za8.lb_eq _).1 hl
  exact SRHolds0 ⟨k,r,ks⟩ vs (fun g hg h=>ih g hg (hl.2 g hg) h) hL hv hf hl.1.2) f
theorem SHolds (vs:List ZI) {L M:Nat} (hL:L+M<=20000) (hv:VOk M vs) (f:za8):f.lb->f.ok L->Fn Tryz.prog 69 [] [(vF f),(vZs vs)] (vb (za8.holds vs f)) [] :=
 za8.ind (P:=fun f=>f.lb->f.ok L->Fn Tryz.prog 69 [] [(vF f),(vZs vs)] (vb (za8.holds vs f)) []) (fun k r ks ih hl hf=>by
  have hl:=(za8.lb_eq _).1 hl
  exact SHolds0 ⟨k,r,ks⟩ vs (fun g hg h=>ih g hg (hl.2 g hg) h) hL hv hf hl.1.2) f
theorem kf_0:SlT Tryz.prog 23 89 5:=SlT.mk' Tryz.underlying23 (by kernel_rfl)
theorem kf_1:Sz Tryz.prog 89 5 true:=Sz.mk' (by kernel_rfl) Tryz.underlying89 _ rfl
theorem kf_2:za6 Tryz.prog 79:=za6.mk' (by kernel_rfl)
theorem kf_3:za6 Tryz.prog 80:=za6.mk' (by kernel_rfl)
theorem kf_5:SlT Tryz.prog 36 93 3:=SlT.mk' Tryz.underlying36 (by kernel_rfl)
theorem kf_7:za6 Tryz.prog 75:=za6.mk' (by kernel_rfl)
def zdz:ZI:=⟨false,[]⟩
def bnd0:zah:=⟨false,zdz,zdz⟩
def zat (s:zan) (v:Nat):zah:=(s.bounds[v]?).getD bnd0
def zb0 (b:zah) (n:ZI):Bool:=!b.is_ || (decide (zdl b.lo.val n.val<=0) && decide (zdl n.val b.hi.val<=0))
def zdj (s:zan) (i:Nat):Nat:=((s.procs[i]?).map fun p=>p.locs.length).getD 0
def zfb (s:zan) (x:StD) (i:Nat):Bool:=decide (0<=(x.locs[i]?).getD 0/\(x.locs[i]?).getD 0<(zdj s i:Int))
def zi1 (s:zan) (x:StD) (v:Nat):Bool:=zb0 (zat s v) ((x.vals[v]?).getD zdz)
def zbu (s:zan) (x:StD):Bool:=decide (x.locs.length=s.procs.length/\x.vals.length=s.vars.length) && (zer x.locs.length (zfb s x) && zer x.vals.length (zi1 s x))
def first (s:zan) (x:StD):Bool:=(zbu s x && !x.locs.any fun l=>l != 0) && s.init.holds x.vals
def zek (x y:StD):Bool:=decide (x.locs=y.locs) && decide (x.vals.map ZI.val=y.vals.map ZI.val)
def ZOk (L:Nat) (z:ZI):Prop:=Lb z.abs/\z.abs.length<=L
structure zgk (L:Nat) (a:zaz):Prop where
  guard:a.guard.lb/\a.guard.ok L
  len:a.moves.length<=20
  mv:∀ m ∈ a.moves,TOk 20 L m.t
structure zb1 (L:Nat) (s:zan):Prop where
  vars:s.vars.length<=8
  bnds:s.bounds.length<=20
  procs:s.procs.length<=6
  acts:s.acts.length<=20
  bnd:∀ b ∈ s.bounds,ZOk L b.lo/\ZOk L b.hi
  init:s.init.lb/\s.init.ok L
  act:∀ a ∈ s.acts,zgk L a
structure zd0 (M:Nat) (x:StD):Prop where
  locs:x.locs.length<=10
  vals:x.vals.length<=10
  val:∀ z ∈ x.vals,ZOk M z
theorem zd0.vok {M:Nat} {x:StD} (h:zd0 M x):VOk M x.vals:=⟨Nat.le_trans h.vals (by decide),h.val⟩
theorem zd0.mono {M M':Nat} {x:StD} (h:zd0 M x) (hm:M<=M'):zd0 M' x:=⟨h.locs,h.vals,fun z hz=>⟨(h.val z hz).1,Nat.le_trans (h.val z hz).2 hm⟩⟩
theorem ZOk.zero {L:Nat}:ZOk L zdz:=⟨zg9,Nat.zero_le _⟩
theorem zf8 {L:Nat} {s:zan} (h:zb1 L s) (v:Nat):ZOk L (zat s v).lo/\ZOk L (zat s v).hi:=by
 unfold zat
 cases hb:s.bounds[v]? with
 | none=>exact ⟨ZOk.zero,ZOk.zero⟩
 | some b=>exact h.bnd b (List.mem_of_getElem? hb)
theorem cmpZ_le (x y:Int):decide (zdl x y<=0)=decide (x<=y):=by unfold zdl;split;simp;omega;split <;> simp <;> omega
theorem cmpZ_geI (x y:Int):decide (zdl x y>=0)=decide (zdl y x<=0):=by unfold zdl;split <;> split <;> (try split) <;> simp <;> omega
theorem zei (x y:Int):decide (zdl x y>0)=decide (y<x):=by unfold zdl;split;simp;omega;split <;> simp <;> omega
theorem cmpZ_0 (x y:Int):(zdl x y == 0)=decide (x=y):=by unfold zdl;split;simp;omega;split <;> simp <;> omega
theorem zht (x y:Int):(zdl x y != 0)=!decide (x=y):=by rw [bne,cmpZ_0]
theorem Sbound (s:zan) (v:Nat) (_hb:s.bounds.length<=9223372036854775807):Fn Tryz.prog 79 [] [vG (zai s),vN v] (vG ([cB (zat s v).is_]++zi (zat s v).lo++zi (zat s v).hi)) []:=by
 refine Fn.body Tryz.func79 rfl 16 rfl fun w H B a h=>Jq 0 [] [(1,vN v),(2,vp 0 0),(4,vp 1 0)] [(0,.box (zai s)),(1,.box [cB false,cB false,.d (nsl []),cB false,.d (nsl [])])] h fun a w h=>qW (Je 2 [(3,.len (za3 5 zah.d s.bounds))] [] [(9,vb (decide ((v:Int)<(s.bounds.length:Int))))] h fun a w h=>zap ((v:Int)<(s.bounds.length:Int)) h (fun hc1 hc1'=>?_) (fun hc2 hc2'=>?_))
 ·obtain ⟨x1,hx1⟩:=gl s.bounds v;refine Jq 2 [(3,.g (xD 13 11 kf_0 (zab hx1 (f:=zah.d)) (OV.tmp 12 _)))] [(4,vp 1 0)] [(1,.box ([cB x1.is_]++zi x1.lo++zi x1.hi))] h fun a w h=>qV (za2 (rA 1 ([cB x1.is_]++zi x1.lo++zi x1.hi) h kf_1 rfl ?_));have hz:zat s v=x1:=by unfold zat;rw [hx1];rfl
  rw [hz];try rfl
 refine qU (za0 (Jq 2 [] [(4,vp 1 0)] [(1,.box [cB false,cB false,.d (nsl []),cB false,.d (nsl [])])] h fun a w h=>qV (rA 1 [cB false,cB false,.d (nsl []),cB false,.d (nsl [])] h kf_1 rfl ?_)));have hz:zat s v=bnd0:=by unfold zat;rw [List.getElem?_eq_none (by have:=dF hc2;omega)];rfl
 rw [hz];try rfl
theorem Swithin (s:zan) (v:Nat) (n:ZI) {L M:Nat} (hL:L+M<=10000) (hs:zb1 L s) (hn:ZOk M n):Fn Tryz.prog 75 [] [.t (.agg (zai s)),vN v,vz n] (vb (zb0 (zat s v) n)) []:=by
 have lb1:=(zf8 hs v).1.2;have lb2:=(zf8 hs v).2.2;have ln:=hn.2;refine Fn.body Tryz.func75 rfl 28 rfl fun w H B a h=>Jq 0 [] [(1,vN v),(3,vp 0 0),(5,vp 1 0),(6,vb false)] [(0,.box (zai s)),(1,.box (zi n))] h fun a w h=>Jd 2 [(2,.call (Sbound s v (by have:=hs.bnds;omega)) kf_2)] [1,3] [(7,vp 2 0)] [(1,.box (zi n)),(2,.box ([.d (.raw (.bool (zat s v).is_))]++zi (zat s v).lo++zi (zat s v).hi))] h fun a w h=>?_
 rcases Bool.eq_false_or_eq_true (zat s v).is_ with hc1 | hc4
 ·rw [hc1] at h
  rcases Bool.eq_false_or_eq_true (decide (zdl (zat s v).lo.val n.val<=0)) with hc2 | hc3
  ·have hc2':=dT hc2;refine Jq 3 [(7,.call (SCmp (zat s v).lo n (zf8 hs v).1.1 hn.1 (by omega) (by omega)) kf_3),(8,.cmp (op:=.leq) (m:=(zdl (zat s v).lo.val n.val)) (n:=0) (b:=true) .i64 hc2),(13,.call (SCmp n (zat s v).hi hn.1 (zf8 hs v).2.1 (by omega) (by omega)) kf_3)] [(6,vb (decide (zdl n.val (zat s v).hi.val<=0)))] [] h fun a w h=>qV (rT (.c (.d (.raw (.bool (decide (zdl n.val (zat s v).hi.val<=0)))))) h rfl ?_)
   have hz:zb0 (zat s v) n=(decide (zdl n.val (zat s v).hi.val<=0)):=by
    unfold zb0;simp only [hc1,hc2]
    try rfl
   rw [hz];try rfl
  have hc3':=dF hc3;refine Jq 3 [(7,.call (SCmp (zat s v).lo n (zf8 hs v).1.1 hn.1 (by omega) (by omega)) kf_3),(8,.cmp (op:=.leq) (m:=(zdl (zat s v).lo.val n.val)) (n:=0) (b:=false) .i64 hc3)] [(6,vb false)] [] h fun a w h=>qV (rT (.c (.d (.raw (.bool false)))) h rfl ?_)
  have hz:zb0 (zat s v) n=(false):=by
   unfold zb0;simp only [hc1,hc3]
   try rfl
  rw [hz];try rfl
 rw [hc4] at h;refine Jq 3 [] [(6,vb true)] [] h fun a w h=>qV (rT (.c (.d (.raw (.bool true)))) h rfl ?_)
 have hz:zb0 (zat s v) n=(true):=by
  unfold zb0;simp only [hc4]
  try rfl
 rw [hz];try rfl
theorem zhv (s:zan) (x:StD) {L M:Nat} (hL:L+M<=10000) (hs:zb1 L s) (hx:zd0 M x):Fn Tryz.prog 38 [] [vG (zai s),vG [cIs x.locs,cZs x.vals]] (vb (zbu s x)) []:=by
 have lx1:=hx.locs;have lx2:=hx.vals;have ls1:=hs.vars;have ls2:=hs.procs;refine Fn.body Tryz.func38 rfl 61 rfl fun w H B a h=>Jq 0 [] [(2,vp 0 0),(3,vp 1 0),(4,vb false)] [(0,.box (zai s)),(1,.box [cIs x.locs,cZs x.vals])] h fun a w h=>qW ?_
 rcases Bool.eq_false_or_eq_true ((x.locs.length:Int) != (s.procs.length:Int)) with hc1 | hc2
 ·have hc1':=hc1;(try simp at hc1');refine Je 2 [(2,.len (za3 1 zad x.locs)),(5,.len (za3 3 zav.d s.procs)),(6,.cmp (op:=.neq) (m:=(x.locs.length:Int)) (n:=(s.procs.length:Int)) (b:=true) .i64 hc1)] [] [(24,vb true)] h fun a w h=>cS true h (fun _=>?_) nofun
  refine Je 2 [] [24] [] h fun a w h=>qV (za2 (rT (.c (cB false)) h rfl ?_));have hz:zbu s x=false:=by unfold zbu;rw [decide_eq_false (by have:=hc1;simp at this;omega)];rfl
  rw [hz];try rfl
 have hc2':=hc2;(try simp at hc2');refine Je 2 [(2,.len (za3 1 zad x.locs)),(5,.len (za3 3 zav.d s.procs)),(6,.cmp (op:=.neq) (m:=(x.locs.length:Int)) (n:=(s.procs.length:Int)) (b:=false) .i64 hc2),(10,.len (za3 2 ziD x.vals)),(13,.len (za3 1 zc6 s.vars))] [] [(24,vb ((x.vals.length:Int) != (s.vars.length:Int)))] h fun a w h=>cS ((x.vals.length:Int) != (s.vars.length:Int)) h (fun hc3=>?_) (fun hc4=>?_)
 ·have hc3':=hc3;(try simp at hc3');refine Je 2 [] [24] [] h fun a w h=>qV (za2 (rT (.c (cB false)) h rfl ?_));have hz:zbu s x=false:=by unfold zbu;rw [decide_eq_false (by have:=hc3;simp at this;omega)];rfl
  rw [hz];try rfl
 have hc4':=hc4;(try simp at hc4');refine qU (za0 (qW (Je 2 [(2,.len (za3 1 zad x.locs))] [24] [(26,(vIs x.locs)),(27,vN x.locs.length),(28,vI 0)] h fun a w h=>qZ ?_)))
 refine zb5 (ι:=(Nat)) (fun j=>j<=x.locs.length/\zer j (zfb s x)=true)
   (fun j=>[(2,vp 0 0),(3,vp 1 0),(26,(vIs x.locs)),(27,vN x.locs.length),(28,vN j)])
   (fun j=>[(0,.box (zai s)),(1,.box [cIs x.locs,cZs x.vals])])
   (fun j=>x.locs.length - j) 0 ?_ h (by kernel_rfl) (by kernel_rfl) ?_
 ·exact ⟨Nat.zero_le _,rfl⟩
 clear h;rintro j a w hI h;obtain ⟨hI1,hI2⟩:=hI;refine Je 2 [] [] [(29,vb (decide ((j:Int)<(x.locs.length:Int))))] h fun a w h=>qW (zap ((j:Int)<(x.locs.length:Int)) h (fun hc5 hc5'=>?_) (fun hc10 hc10'=>?_))
 ·refine qU (za0 (qW (qZ ?_)));obtain ⟨x1,hx1⟩:=gl x.locs j;refine Je 2 [(1,.g (xD 31 26 zdo (zab hx1 (f:=zad)) (OV.tmp 28 _)))] [29] [(5,vN j),(6,vI x1)] h fun a w h=>?_
  rcases Bool.eq_false_or_eq_true (decide (x1<0)) with hc6 | hc7
  ·have hc6':=dT hc6;refine Je 2 [(1,.cmp (op:=.lss) (m:=x1) (n:=0) (b:=true) .i64 hc6)] [5,6] [(45,vb true)] h fun a w h=>cS true h (fun _=>?_) nofun
   refine Je 2 [] [45] [(4,vb false)] h fun a w h=>qV (za7 (za2 (za2 (za7 (za2 (rT (.c (cB false)) h rfl ?_))))));have hz:zbu s x=false:=by unfold zbu;rw [decide_eq_true (by have h1:=hc2;have h2:=hc4;simp at h1 h2;omega),Bool.true_and];rw [zbf (zak hx1) (show zfb s x j=false by unfold zfb zdj;rw [hx1];exact decide_eq_false (by have:=dT hc6;intro h;have:=h.1;simp at this;omega))];rfl
   rw [hz];try rfl
  have hc7':=dF hc7;obtain ⟨x2,hx2⟩:=gl s.procs j;refine Je 2 [(1,.cmp (op:=.lss) (m:=x1) (n:=0) (b:=false) .i64 hc7),(7,.g (xD 40 38 kf_5 (zab hx2 (f:=zav.d)) (OV.tmp 39 _))),(10,.len (za3 1 zc6 x2.locs))] [5,6] [(45,vb (decide (x1>=(x2.locs.length:Int))))] h fun a w h=>zap (x1>=(x2.locs.length:Int)) h (fun hc8 hc8'=>?_) (fun hc9 hc9'=>?_)
  ·refine Je 2 [] [45] [(4,vb false)] h fun a w h=>qV (za7 (za2 (za2 (za7 (za2 (rT (.c (cB false)) h rfl ?_))))));have hz:zbu s x=false:=by unfold zbu;rw [decide_eq_true (by have h1:=hc2;have h2:=hc4;simp at h1 h2;omega),Bool.true_and];rw [zbf (zak hx1) (show zfb s x j=false by unfold zfb zdj;rw [hx1,hx2];exact decide_eq_false (by have:=dT hc8;intro h;have:=h.2;simp at this;omega))];rfl
   rw [hz];try rfl
  refine qU (zac (za0 (Jf 2 [(0,.j1 j)] [45] [(28,vI ((j:Int)+1))] h fun a w h=>za0 (zag (x:=j) (y:=j+1) h ?_ ?_))))
  ·have:=zak hx1;exact ⟨by omega,zbe hI2 (by unfold zfb zdj;rw [hx1,hx2];exact decide_eq_true ⟨by have:=dF hc7;simpa using this,by have:=dF hc9;simpa using this⟩)⟩
  show x.locs.length - (j+1)<x.locs.length - j;have:=zak hx1;omega
 refine wp_exit (zaa (zaa (za5 (za0 (qW (Jq 2 [(2,.len (za3 2 ziD x.vals))] [(2,vp 0 0),(48,(vZs x.vals)),(49,vN x.vals.length),(50,vI 0)] [(0,.box (zai s))] h fun a w h=>qZ ?_))))))
 refine zb5 (ι:=(Nat)) (fun i=>i<=x.vals.length/\zer i (zi1 s x)=true)
   (fun i=>[(2,vp 0 0),(48,(vZs x.vals)),(49,vN x.vals.length),(50,vN i)])
   (fun i=>[(0,.box (zai s))])
   (fun i=>x.vals.length - i) 0 ?_ h (by kernel_rfl) (by kernel_rfl) ?_
 ·exact ⟨Nat.zero_le _,rfl⟩
 clear h;rintro i a w hI h;obtain ⟨hJ1,hJ2⟩:=hI;refine Je 2 [] [] [(51,vb (decide ((i:Int)<(x.vals.length:Int))))] h fun a w h=>qW (zap ((i:Int)<(x.vals.length:Int)) h (fun hc11 hc11'=>?_) (fun hc14 hc14'=>?_))
 ·refine qU (za0 (qW (qZ ?_)));obtain ⟨x3,hx3⟩:=gl x.vals i;have gx3:=hx.val x3 (lM hx3);refine Jd 2 [(1,.g (xD 53 48 zh9 (zab hx3 (f:=ziD)) (OV.tmp 50 _)))] [51] [(7,vN i),(8,vp 2 0)] [(0,.box (zai s)),(2,.box (zi x3))] h fun a w h=>Jd 3 [(3,.call (Swithin s i x3 hL hs gx3) kf_7)] [7,8] [(59,vb (!(zb0 (zat s i) x3)))] [(0,.box (zai s))] h fun a w h=>cS (!(zb0 (zat s i) x3)) h (fun hc12=>?_) (fun hc13=>?_)
  ·have hc12':=hc12;(try simp at hc12');refine Je 3 [] [59] [(4,vb false)] h fun a w h=>qV (za7 (za2 (za2 (za7 (za2 (rT (.c (cB false)) h rfl ?_))))));have hz:zbu s x=false:=by unfold zbu;rw [decide_eq_true (by have h1:=hc2;have h2:=hc4;simp at h1 h2;omega),Bool.true_and];rw [zbf (zak hx3) (show zi1 s x i=false by unfold zi1;rw [hx3];exact (show (zb0 (zat s i) x3)=false from by simpa using hc12)),Bool.and_false]
   rw [hz];try rfl
  have hc13':=hc13;(try simp at hc13');refine qU (zac (za0 (Jf 3 [(0,.j1 i)] [59] [(50,vI ((i:Int)+1))] h fun a w h=>za0 (zag (x:=i) (y:=i+1) h ?_ ?_))))
  ·have:=zak hx3;exact ⟨by omega,zbe hJ2 (by unfold zi1;rw [hx3];exact (show (zb0 (zat s i) x3)=true from by simpa using hc13))⟩
  show x.vals.length - (i+1)<x.vals.length - i;have:=zak hx3;omega
 refine wp_exit (zaa (zaa (za5 (za0 (Jq 3 [] [(4,vb true)] [] h fun a w h=>qV (rT (.c (cB true)) h rfl ?_))))));have hz:zbu s x=true:=by unfold zbu;rw [decide_eq_true (by have h1:=hc2;have h2:=hc4;simp at h1 h2;omega),Bool.true_and];rw [show x.locs.length=j by have:=dF hc10;omega,hI2,show x.vals.length=i by have:=dF hc14;omega,hJ2];rfl
 rw [hz];try rfl
theorem kg_6:za6 Tryz.prog 68:=za6.mk' (by kernel_rfl)
theorem kg_7:za6 Tryz.prog 67:=za6.mk' (by kernel_rfl)
theorem kg_8:za6 Tryz.prog 31:=za6.mk' (by kernel_rfl)
theorem kg_9:za6 Tryz.prog 38:=za6.mk' (by kernel_rfl)
theorem map_take {α β:Type} {f:α->β} {xs ys:List α} {j:Nat} {a b:α} (hx:xs[j]?=some a) (hy:ys[j]?=some b) (h:(xs.take j).map f=(ys.take j).map f) (e:f a=f b):(xs.take (j+1)).map f=(ys.take (j+1)).map f:=by
 rw [List.take_add_one,List.take_add_one,hx,hy,List.map_append,List.map_append,h];simp [e]
theorem map_ne {α β:Type} {f:α->β} {xs ys:List α} {j:Nat} {a b:α} (hx:xs[j]?=some a) (hy:ys[j]?=some b) (e:f a≠f b):xs.map f≠ys.map f:=by
 intro h
 have:=congrArg (fun l=>l[j]?) h
 simp only [List.getElem?_map,hx,hy,Option.map_some,Option.some.injEq] at this
 exact e this
theorem map_len_ne {α β:Type} {f:α->β} {xs ys:List α} (e:xs.length≠ys.length):xs.map f≠ys.map f:=fun h=>e (by simpa using congrArg List.length h)
theorem map_end {α β:Type} {f:α->β} {xs ys:List α} {j:Nat} (hl:xs.length=ys.length) (hj:¬ (j:Int)<(xs.length:Int)) (h:(xs.take j).map f=(ys.take j).map f):xs.map f=ys.map f:=by
 rwa [List.take_of_length_le (by omega),List.take_of_length_le (by omega)] at h
theorem SFirst1 (l:Int) :Fn Tryz.prog 68 [] [vI l] (vb (l != 0)) []:=by
 refine Fn.body Tryz.func68 rfl 5 rfl fun w H B a h=>Jq 0 [] [(0,vI l),(2,vb false)] [] h fun a w h=>Jq 0 [] [(2,vb (l != 0))] [] h fun a w h=>qV (rT (.c (cB (l != 0))) h rfl ?_)
 rfl
theorem SIdxF1 (pr:Int->Bool) (xs:List Int) (hf:∀ x ∈ xs,Fn Tryz.prog 68 [] [vI x] (vb (pr x)) []) (hl:xs.length<=9223372036854775807):Fn Tryz.prog 67 [] [(vIs xs),.t (.c (.fn (.func 68) [] []))] (vI (zcf pr xs 0)) []:=by
 refine Fn.body Tryz.func67 rfl 19 rfl fun w H B a h=>Jq 5 [] [(0,(vIs xs)),(1,.t (.c (.fn (.func 68) [] []))),(4,vI 0)] [] h fun a w h=>qW (Jd 5 [(1,.len (za3 1 zad xs))] [] [(7,vN xs.length),(8,vI 0)] [] h fun a w h=>qZ ?_)
 refine zb5 (ι:=(Nat)) (fun j=>j<=xs.length/\zcf pr xs 0=zcf pr (xs.drop j) j)
   (fun j=>[(0,(vIs xs)),(1,.t (.c (.fn (.func 68) [] []))),(7,vN xs.length),(8,vN j)])
   (fun j=>[])
   (fun j=>xs.length - j) 0 ?_ h (by kernel_rfl) (by kernel_rfl) ?_
 ·exact ⟨Nat.zero_le _,rfl⟩
 clear h;rintro j a w hI h;obtain ⟨hI1,hI2⟩:=hI;refine Jd 5 [] [] [(9,vb (decide ((j:Int)<(xs.length:Int))))] [] h fun a w h=>qW (zap ((j:Int)<(xs.length:Int)) h (fun hc1 hc1'=>?_) (fun hc4 hc4'=>?_))
 ·refine qU (za0 (qW (qZ (Jd 5 [] [9] [(5,vN j)] [] h fun a w h=>?_))));obtain ⟨x1,hx1⟩:=gl xs j;refine Jd 5 [(3,.g (xD 14 12 zdo (zab hx1 (f:=zad)) (OV.tmp 13 _))),(5,.g (Op.callV (d:=16) (t:=11) (cap:=[]) (args:=[vI x1]) (rs:=[(15,vI x1)]) (tys:=#[3]) (hf x1 (lM hx1)) kg_6 (OVs.cons (OV.tmp 15 _) (OVs.nil))))] [] [(16,vb (pr x1))] [] h fun a w h=>cS (pr x1) h (fun hc2=>?_) (fun hc3=>?_)
  ·refine Jd 5 [] [5,16] [(4,vN j)] [] h fun a w h=>qV (za7 (za2 (za2 (za7 (za2 (rT (.c (cI (j:Int))) h rfl ?_))))));have hz:zcf pr xs 0=(j:Int):=by rw [hI2,zca hx1,if_pos hc2]
   rw [hz];try rfl
  refine qU (zac (za0 (Jm 5 [(0,.j1 j)] [5,16] [(8,vI ((j:Int)+1))] [] h fun a w h=>za0 (zag (x:=j) (y:=j+1) h ?_ ?_))))
  ·exact ⟨by have:=zak hx1;omega,by rw [hI2,zca hx1,if_neg (by rw [hc3];exact Bool.noConfusion)]⟩
  (try simp);omega
 refine wp_exit (zaa (zaa (za5 (za0 (Jq 5 [] [(4,vI (-1))] [] h fun a w h=>qV (rT (.c (cI (-1))) h rfl ?_))))));have hz:zcf pr xs 0=-1:=by rw [hI2,List.drop_of_length_le (by omega)];rfl
 rw [hz];try rfl
theorem SAnyF1 (pr:Int->Bool) (xs:List Int) (hf:∀ x ∈ xs,Fn Tryz.prog 68 [] [vI x] (vb (pr x)) []) (hl:xs.length<=9223372036854775807):Fn Tryz.prog 31 [] [(vIs xs),.t (.c (.fn (.func 68) [] []))] (vb (xs.any pr)) []:=by
 refine Fn.body Tryz.func31 rfl 9 rfl fun w H B a h=>Jq 5 [] [(0,(vIs xs)),(1,.t (.c (.fn (.func 68) [] []))),(4,vb false)] [] h fun a w h=>Jq 5 [(2,.call (SIdxF1 pr xs  hf  hl) kg_7)] [(4,vb (decide (zcf pr xs 0>=0)))] [] h fun a w h=>qV (rT (.c (cB (decide (zcf pr xs 0>=0)))) h rfl ?_)
 rw [<- zf1];try rfl
theorem SFirst (s:zan) (x:StD) {L M:Nat} (hL:L+M<=10000) (hs:zb1 L s) (hx:zd0 M x):Fn Tryz.prog 33 [] [.t (.agg (zai s)),.t (.agg [.d (.sl 1 (x.locs.map zad)),.d (.sl 2 (x.vals.map ziD))])] (vb (first s x)) []:=by
 refine Fn.body Tryz.func33 rfl 23 rfl fun w H B a h=>Jq 0 [] [(2,vp 0 0),(3,vp 1 0),(4,vb false)] [(0,.box (zai s)),(1,.box [.d (.sl 1 (x.locs.map zad)),.d (.sl 2 (x.vals.map ziD))])] h fun a w h=>Je 2 [(2,.call (SAnyF1 (fun l=>l != 0) x.locs (fun l _=>SFirst1 l) (by have:=hx.locs;omega)) kg_8)] [] [(5,vb (x.locs.any fun l=>l != 0))] h fun a w h=>?_
 rcases Bool.eq_false_or_eq_true (zbu s x) with hc1 | hc4
 ·rcases Bool.eq_false_or_eq_true (x.locs.any fun l=>l != 0) with hc2 | hc3
  ·have hc2':=hc2;(try simp at hc2');rw [hc2] at h;refine Jq 2 [(2,.call (Fn.cast (zhv s x hL hs hx) (congrArg vb hc1)) kg_9)] [(4,vb false)] [] h fun a w h=>qV (rT (.c (.d (.raw (.bool false)))) h rfl ?_);have hz:first s x=(false):=by unfold first;rw [hc1];rw [hc2];rfl
   rw [hz];try rfl
  have hc3':=hc3;(try simp at hc3');rw [hc3] at h;refine Jq 2 [(2,.call (Fn.cast (zhv s x hL hs hx) (congrArg vb hc1)) kg_9),(12,.call (SHolds x.vals (L:=L) (M:=M) (by omega) hx.vok s.init hs.init.1 hs.init.2) ke_4)] [(4,vb (za8.holds x.vals s.init))] [] h fun a w h=>qV (rT (.c (.d (.raw (.bool (za8.holds x.vals s.init))))) h rfl ?_);have hz:first s x=(za8.holds x.vals s.init):=by unfold first;rw [hc1];rw [hc3];rfl
  rw [hz];try rfl
 refine Jq 2 [(2,.call (Fn.cast (zhv s x hL hs hx) (congrArg vb hc4)) kg_9)] [(4,vb false)] [] h fun a w h=>qV (rT (.c (.d (.raw (.bool false)))) h rfl ?_);have hz:first s x=(false):=by unfold first;rw [hc4];rfl
 rw [hz];try rfl
theorem kh_1:za6 Tryz.prog 35:=za6.mk' (by kernel_rfl)
theorem kh_5:za6 Tryz.prog 43:=za6.mk' (by kernel_rfl)
theorem kh_6:za6 Tryz.prog 14:=za6.mk' (by kernel_rfl)
theorem SRwithin (s:zan) (v:Nat) (n:ZI) {L M:Nat} (hL:L+M<=10000) (hs:zb1 L s) (hn:ZOk M n):Fn Tryz.prog 43 [] [vG (zai s),vN v,vz n] (vb (zb0 (zat s v) n)) []:=by
 have ln:=hn.2;have lbs:=hs.bnds;refine Fn.body Tryz.func43 rfl 41 rfl fun w H B a h=>Jq 0 [] [(1,vN v),(3,vp 0 0),(5,vp 1 0),(6,vb false)] [(0,.box (zai s)),(1,.box (zi n))] h fun a w h=>qW ?_
 rcases Bool.eq_false_or_eq_true (decide ((v:Int)>=(s.bounds.length:Int))) with hc1 | hc2
 ·have hc1':=dT hc1;refine Je 2 [(3,.len (za3 5 zah.d s.bounds)),(4,.cmp (op:=.geq) (m:=(v:Int)) (n:=(s.bounds.length:Int)) (b:=true) .i64 hc1)] [] [(20,vb true)] h fun a w h=>cS true h (fun _=>?_) nofun
  refine Je 2 [] [20] [(6,vb true)] h fun a w h=>qV (za2 (rT (.c (cB true)) h rfl ?_));have hz:zb0 (zat s v) n=(true):=by rw [show zat s v=bnd0 by unfold zat;rw [List.getElem?_eq_none (by have:=dT hc1;omega)];rfl];rfl
  rw [hz];try rfl
 have hc2':=dF hc2;obtain ⟨x1,hx1⟩:=gl s.bounds v;have gx1:=hs.bnd x1 (lM hx1);have l1x1:=gx1.1.2;have l2x1:=gx1.2.2;refine Je 2 [(3,.len (za3 5 zah.d s.bounds)),(4,.cmp (op:=.geq) (m:=(v:Int)) (n:=(s.bounds.length:Int)) (b:=false) .i64 hc2),(9,.g (xD 16 14 kf_0 (zab hx1 (f:=zah.d)) (OV.tmp 15 _)))] [] [(20,vb (!x1.is_))] h fun a w h=>cS (!x1.is_) h (fun hc3=>?_) (fun hc4=>?_)
 ·have hc3':=hc3;(try simp at hc3');refine Je 2 [] [20] [(6,vb true)] h fun a w h=>qV (za2 (rT (.c (cB true)) h rfl ?_));have hz:zb0 (zat s v) n=(true):=by rw [show zat s v=x1 by unfold zat;rw [hx1];rfl];unfold zb0;rw [<- cmpZ_geI];simp only [hc3];try rfl
  rw [hz];try rfl
 have hc4':=hc4;(try simp at hc4');refine qU (za0 ?_)
 rcases Bool.eq_false_or_eq_true (decide (zdl n.val x1.lo.val>=0)) with hc5 | hc6
 ·have hc5':=dT hc5;refine Jq 2 [(4,.g (xD 25 23 kf_0 (zab hx1 (f:=zah.d)) (OV.tmp 24 _))),(7,.call (SRCmp n x1.lo hn.1 gx1.1.1 (by omega) (by omega)) kh_1),(8,.cmp (op:=.geq) (m:=(zdl n.val x1.lo.val)) (n:=0) (b:=true) .i64 hc5),(14,.g (xD 35 33 kf_0 (zab hx1 (f:=zah.d)) (OV.tmp 34 _))),(17,.call (SRCmp n x1.hi hn.1 gx1.2.1 (by omega) (by omega)) kh_1)] [(6,vb (decide (zdl n.val x1.hi.val<=0)))] [] h fun a w h=>qV (rT (.c (cB (decide (zdl n.val x1.hi.val<=0)))) h rfl ?_);have hz:zb0 (zat s v) n=(decide (zdl n.val x1.hi.val<=0)):=by rw [show zat s v=x1 by unfold zat;rw [hx1];rfl];unfold zb0;rw [<- cmpZ_geI];simp only [hc4,hc5];try rfl
  rw [hz];try rfl
 have hc6':=dF hc6;refine Jq 2 [(4,.g (xD 25 23 kf_0 (zab hx1 (f:=zah.d)) (OV.tmp 24 _))),(7,.call (SRCmp n x1.lo hn.1 gx1.1.1 (by omega) (by omega)) kh_1),(8,.cmp (op:=.geq) (m:=(zdl n.val x1.lo.val)) (n:=0) (b:=false) .i64 hc6)] [(6,vb false)] [] h fun a w h=>qV (rT (.c (cB false)) h rfl ?_);have hz:zb0 (zat s v) n=(false):=by rw [show zat s v=x1 by unfold zat;rw [hx1];rfl];unfold zb0;rw [<- cmpZ_geI];simp only [hc4,hc6];try rfl
 rw [hz];try rfl
theorem SRFits (s:zan) (x:StD) {L M:Nat} (hL:L+M<=10000) (hs:zb1 L s) (hx:zd0 M x):Fn Tryz.prog 14 [] [vG (zai s),vG [cIs x.locs,cZs x.vals]] (vb (zbu s x)) []:=by
 have lx1:=hx.locs;have lx2:=hx.vals;have ls1:=hs.vars;have ls2:=hs.procs;refine Fn.body Tryz.func14 rfl 67 rfl fun w H B a h=>Jq 0 [] [(2,vp 0 0),(3,vp 1 0),(4,vb false)] [(0,.box (zai s)),(1,.box [cIs x.locs,cZs x.vals])] h fun a w h=>qW ?_
 rcases Bool.eq_false_or_eq_true ((x.locs.length:Int) != (s.procs.length:Int)) with hc1 | hc2
 ·have hc1':=hc1;(try simp at hc1');refine Je 2 [(2,.len (za3 1 zad x.locs)),(5,.len (za3 3 zav.d s.procs)),(6,.cmp (op:=.neq) (m:=(x.locs.length:Int)) (n:=(s.procs.length:Int)) (b:=true) .i64 hc1)] [] [(22,vb true)] h fun a w h=>cS true h (fun _=>?_) nofun
  refine Je 2 [] [22] [] h fun a w h=>qV (za2 (rT (.c (cB false)) h rfl ?_));have hz:zbu s x=false:=by unfold zbu;rw [decide_eq_false (by have:=hc1;simp at this;omega)];rfl
  rw [hz];try rfl
 have hc2':=hc2;(try simp at hc2');refine Je 2 [(2,.len (za3 1 zad x.locs)),(5,.len (za3 3 zav.d s.procs)),(6,.cmp (op:=.neq) (m:=(x.locs.length:Int)) (n:=(s.procs.length:Int)) (b:=false) .i64 hc2),(10,.len (za3 2 ziD x.vals)),(13,.len (za3 1 zc6 s.vars))] [] [(22,vb ((x.vals.length:Int) != (s.vars.length:Int)))] h fun a w h=>cS ((x.vals.length:Int) != (s.vars.length:Int)) h (fun hc3=>?_) (fun hc4=>?_)
 ·have hc3':=hc3;(try simp at hc3');refine Je 2 [] [22] [] h fun a w h=>qV (za2 (rT (.c (cB false)) h rfl ?_));have hz:zbu s x=false:=by unfold zbu;rw [decide_eq_false (by have:=hc3;simp at this;omega)];rfl
  rw [hz];try rfl
 have hc4':=hc4;(try simp at hc4');refine qU (za0 (qW (Je 2 [] [22] [(5,vI 0)] h fun a w h=>qZ ?_)))
 refine zb5 (ι:=(Nat)) (fun j=>j<=x.locs.length/\zer j (zfb s x)=true)
   (fun j=>[(2,vp 0 0),(3,vp 1 0),(5,vN j)])
   (fun j=>[(0,.box (zai s)),(1,.box [cIs x.locs,cZs x.vals])])
   (fun j=>x.locs.length - j) 0 ?_ h (by kernel_rfl) (by kernel_rfl) ?_
 ·exact ⟨Nat.zero_le _,rfl⟩
 clear h;rintro j a w hI h;obtain ⟨hI1,hI2⟩:=hI;refine qW (Je 2 [(3,.len (za3 1 zad x.locs))] [] [(27,vb (decide ((j:Int)<(x.locs.length:Int))))] h fun a w h=>zap ((j:Int)<(x.locs.length:Int)) h (fun hc5 hc5'=>?_) (fun hc10 hc10'=>?_))
 ·refine qU (za0 (qW (qZ ?_)));obtain ⟨x1,hx1⟩:=gl x.locs j
  rcases Bool.eq_false_or_eq_true (decide (x1<0)) with hc6 | hc7
  ·have hc6':=dT hc6;refine Je 2 [(3,.g (xD 33 31 zdo (zab hx1 (f:=zad)) (OV.tmp 32 _))),(5,.cmp (op:=.lss) (m:=x1) (n:=0) (b:=true) .i64 hc6)] [27] [(50,vb true)] h fun a w h=>cS true h (fun _=>?_) nofun
   refine Je 2 [] [50] [(4,vb false)] h fun a w h=>qV (za7 (za2 (za2 (za7 (za2 (rT (.c (cB false)) h rfl ?_))))));have hz:zbu s x=false:=by unfold zbu;rw [decide_eq_true (by have h1:=hc2;have h2:=hc4;simp at h1 h2;omega),Bool.true_and];rw [zbf (zak hx1) (show zfb s x j=false by unfold zfb zdj;rw [hx1];exact decide_eq_false (by have:=dT hc6;intro h;have:=h.1;simp at this;omega))];rfl
   rw [hz];try rfl
  have hc7':=dF hc7;obtain ⟨x2,hx2⟩:=gl s.procs j;refine Je 2 [(3,.g (xD 33 31 zdo (zab hx1 (f:=zad)) (OV.tmp 32 _))),(5,.cmp (op:=.lss) (m:=x1) (n:=0) (b:=false) .i64 hc7),(10,.g (xD 40 38 zdo (zab hx1 (f:=zad)) (OV.tmp 39 _))),(15,.g (xD 45 43 kf_5 (zab hx2 (f:=zav.d)) (OV.tmp 44 _))),(18,.len (za3 1 zc6 x2.locs))] [27] [(50,vb (decide (x1>=(x2.locs.length:Int))))] h fun a w h=>zap (x1>=(x2.locs.length:Int)) h (fun hc8 hc8'=>?_) (fun hc9 hc9'=>?_)
  ·refine Je 2 [] [50] [(4,vb false)] h fun a w h=>qV (za7 (za2 (za2 (za7 (za2 (rT (.c (cB false)) h rfl ?_))))));have hz:zbu s x=false:=by unfold zbu;rw [decide_eq_true (by have h1:=hc2;have h2:=hc4;simp at h1 h2;omega),Bool.true_and];rw [zbf (zak hx1) (show zfb s x j=false by unfold zfb zdj;rw [hx1,hx2];exact decide_eq_false (by have:=dT hc8;intro h;have:=h.2;simp at this;omega))];rfl
   rw [hz];try rfl
  refine qU (zac (za0 (Jf 2 [(1,.j1 j)] [50] [(5,vI ((j:Int)+1))] h fun a w h=>za0 (zag (x:=j) (y:=j+1) h ?_ ?_))))
  ·have:=zak hx1;exact ⟨by omega,zbe hI2 (by unfold zfb zdj;rw [hx1,hx2];exact decide_eq_true ⟨by have:=dF hc7;simpa using this,by have:=dF hc9;simpa using this⟩)⟩
  show x.locs.length - (j+1)<x.locs.length - j;have:=zak hx1;omega
 refine wp_exit (zaa (zaa (za5 (za0 (qW (Je 2 [] [5,27] [(6,vI 0)] h fun a w h=>qZ ?_))))))
 refine zb5 (ι:=(Nat)) (fun i=>i<=x.vals.length/\zer i (zi1 s x)=true)
   (fun i=>[(2,vp 0 0),(3,vp 1 0),(6,vN i)])
   (fun i=>[(0,.box (zai s)),(1,.box [cIs x.locs,cZs x.vals])])
   (fun i=>x.vals.length - i) 0 ?_ h (by kernel_rfl) (by kernel_rfl) ?_
 ·exact ⟨Nat.zero_le _,rfl⟩
 clear h;rintro i a w hI h;obtain ⟨hJ1,hJ2⟩:=hI;refine qW (Je 2 [(3,.len (za3 2 ziD x.vals))] [] [(55,vb (decide ((i:Int)<(x.vals.length:Int))))] h fun a w h=>zap ((i:Int)<(x.vals.length:Int)) h (fun hc11 hc11'=>?_) (fun hc14 hc14'=>?_))
 ·refine qU (za0 (qW (qZ ?_)));obtain ⟨x3,hx3⟩:=gl x.vals i;have gx3:=hx.val x3 (lM hx3);refine Je 2 [(5,.g (xD 63 61 zh9 (zab hx3 (f:=ziD)) (OV.tmp 62 _))),(7,.call (SRwithin s i x3 hL hs gx3) kh_5)] [55] [(66,vb (!(zb0 (zat s i) x3)))] h fun a w h=>cS (!(zb0 (zat s i) x3)) h (fun hc12=>?_) (fun hc13=>?_)
  ·have hc12':=hc12;(try simp at hc12');refine Je 2 [] [66] [(4,vb false)] h fun a w h=>qV (za7 (za2 (za2 (za7 (za2 (rT (.c (cB false)) h rfl ?_))))));have hz:zbu s x=false:=by unfold zbu;rw [decide_eq_true (by have h1:=hc2;have h2:=hc4;simp at h1 h2;omega),Bool.true_and];rw [zbf (zak hx3) (show zi1 s x i=false by unfold zi1;rw [hx3];exact (show (zb0 (zat s i) x3)=false from by simpa using hc12)),Bool.and_false]
   rw [hz];try rfl
  have hc13':=hc13;(try simp at hc13');refine qU (zac (za0 (Jf 2 [(1,.j1 i)] [66] [(6,vI ((i:Int)+1))] h fun a w h=>za0 (zag (x:=i) (y:=i+1) h ?_ ?_))))
  ·have:=zak hx3;exact ⟨by omega,zbe hJ2 (by unfold zi1;rw [hx3];exact (show (zb0 (zat s i) x3)=true from by simpa using hc13))⟩
  show x.vals.length - (i+1)<x.vals.length - i;have:=zak hx3;omega
 refine wp_exit (zaa (zaa (za5 (za0 (Jq 2 [] [(4,vb true)] [] h fun a w h=>qV (rT (.c (cB true)) h rfl ?_))))));have hz:zbu s x=true:=by unfold zbu;rw [decide_eq_true (by have h1:=hc2;have h2:=hc4;simp at h1 h2;omega),Bool.true_and];rw [show x.locs.length=j by have:=dF hc10;omega,hI2,show x.vals.length=i by have:=dF hc14;omega,hJ2];rfl
 rw [hz];try rfl
theorem SRFirst (s:zan) (x:StD) {L M:Nat} (hL:L+M<=10000) (hs:zb1 L s) (hx:zd0 M x):Fn Tryz.prog 10 [] [vG (zai s),vG [cIs x.locs,cZs x.vals]] (vb (first s x)) []:=by
 have lx1:=hx.locs;have lx2:=hx.vals;have ls1:=hs.vars;have ls2:=hs.procs;refine Fn.body Tryz.func10 rfl 29 rfl fun w H B a h=>Jq 0 [] [(2,vp 0 0),(3,vp 1 0),(4,vb false)] [(0,.box (zai s)),(1,.box [cIs x.locs,cZs x.vals])] h fun a w h=>qW (Je 2 [] [] [(5,vI 0)] h fun a w h=>qZ ?_)
 refine zb5 (ι:=(Nat)) (fun j=>j<=x.locs.length/\(x.locs.take j).any (fun l:Int=>l != 0)=false)
   (fun j=>[(2,vp 0 0),(3,vp 1 0),(5,vN j)])
   (fun j=>[(0,.box (zai s)),(1,.box [cIs x.locs,cZs x.vals])])
   (fun j=>x.locs.length - j) 0 ?_ h (by kernel_rfl) (by kernel_rfl) ?_
 ·exact ⟨Nat.zero_le _,rfl⟩
 clear h;rintro j a w hI h;obtain ⟨hI1,hI2⟩:=hI;refine qW (Je 2 [(3,.len (za3 1 zad x.locs))] [] [(10,vb (decide ((j:Int)<(x.locs.length:Int))))] h fun a w h=>zap ((j:Int)<(x.locs.length:Int)) h (fun hc1 hc1'=>?_) (fun hc4 hc4'=>?_))
 ·refine qU (za0 (qW (qZ ?_)));obtain ⟨x1,hx1⟩:=gl x.locs j;refine Je 2 [(3,.g (xD 16 14 zdo (zab hx1 (f:=zad)) (OV.tmp 15 _)))] [10] [(18,vb (x1 != 0))] h fun a w h=>cS (x1 != 0) h (fun hc2=>?_) (fun hc3=>?_)
  ·have hc2':=hc2;(try simp at hc2');refine Je 2 [] [18] [(4,vb false)] h fun a w h=>qV (za7 (za2 (za2 (za7 (za2 (rT (.c (cB false)) h rfl ?_))))));have hz:first s x=(false):=by unfold first;rw [zit (q:=(fun l:Int=>l != 0)) hx1 hc2,Bool.not_true,Bool.and_false];rfl
   rw [hz];try rfl
  have hc3':=hc3;(try simp at hc3');refine qU (zac (za0 (Jf 2 [(1,.j1 j)] [18] [(5,vI ((j:Int)+1))] h fun a w h=>za0 (zag (x:=j) (y:=j+1) h ?_ ?_))))
  ·exact ⟨by have:=zak hx1;omega,any_step hx1 hI2 hc3⟩
  show x.locs.length - (j+1)<x.locs.length - j;have:=zak hx1;omega
 refine wp_exit (zaa (zaa (za5 (za0 ?_))))
 rcases Bool.eq_false_or_eq_true (zbu s x) with hc5 | hc6
 ·refine Jq 2 [(2,.call (Fn.cast (SRFits s x hL hs hx) (congrArg vb hc5)) kh_6),(8,.call (SRHolds x.vals (L:=L) (M:=M) (by omega) hx.vok s.init hs.init.1 hs.init.2) ke_10)] [(4,vb (za8.holds x.vals s.init))] [] h fun a w h=>qV (rT (.c (cB (za8.holds x.vals s.init))) h rfl ?_);have hz:first s x=(za8.holds x.vals s.init):=by unfold first;rw [hc5,any_end (q:=(fun l:Int=>l != 0)) (dF hc4) hI2];rfl
  rw [hz];try rfl
 refine Jq 2 [(2,.call (Fn.cast (SRFits s x hL hs hx) (congrArg vb hc6)) kh_6)] [(4,vb false)] [] h fun a w h=>qV (rT (.c (cB false)) h rfl ?_);have hz:first s x=(false):=by unfold first;rw [hc6,any_end (q:=(fun l:Int=>l != 0)) (dF hc4) hI2];rfl
 rw [hz];try rfl
theorem SRSame18 (x y:StD) {M:Nat} (hM:M<=40000) (hx:zd0 M x) (hy:zd0 M y):Fn Tryz.prog 11 [] [vG [cIs x.locs,cZs x.vals],vG [cIs y.locs,cZs y.vals]] (vb (zek x y)) []:=by
 have lx1:=hx.locs;have lx2:=hx.vals;refine Fn.body Tryz.func11 rfl 60 rfl fun w H B a h=>Jq 0 [] [(2,vp 0 0),(3,vp 1 0),(4,vb false)] [(0,.box [cIs x.locs,cZs x.vals]),(1,.box [cIs y.locs,cZs y.vals])] h fun a w h=>qW ?_
 rcases Bool.eq_false_or_eq_true ((x.locs.length:Int) != (y.locs.length:Int)) with hc1 | hc2
 ·have hc1':=hc1;(try simp at hc1');refine Je 2 [(2,.len (za3 1 zad x.locs)),(5,.len (za3 1 zad y.locs)),(6,.cmp (op:=.neq) (m:=(x.locs.length:Int)) (n:=(y.locs.length:Int)) (b:=true) .i64 hc1)] [] [(22,vb true)] h fun a w h=>cS true h (fun _=>?_) nofun
  refine Je 2 [] [22] [] h fun a w h=>qV (za2 (rT (.c (cB false)) h rfl ?_));have hz:zek x y=false:=by unfold zek;rw [decide_eq_false (p:=x.locs=y.locs) (fun h=>by have:=hc1;rw [h] at this;simp at this)];rfl
  rw [hz];try rfl
 have hc2':=hc2;(try simp at hc2');refine Je 2 [(2,.len (za3 1 zad x.locs)),(5,.len (za3 1 zad y.locs)),(6,.cmp (op:=.neq) (m:=(x.locs.length:Int)) (n:=(y.locs.length:Int)) (b:=false) .i64 hc2),(10,.len (za3 2 ziD x.vals)),(13,.len (za3 2 ziD y.vals))] [] [(22,vb ((x.vals.length:Int) != (y.vals.length:Int)))] h fun a w h=>cS ((x.vals.length:Int) != (y.vals.length:Int)) h (fun hc3=>?_) (fun hc4=>?_)
 ·have hc3':=hc3;(try simp at hc3');refine Je 2 [] [22] [] h fun a w h=>qV (za2 (rT (.c (cB false)) h rfl ?_));have hz:zek x y=false:=by unfold zek;rw [decide_eq_false (p:=x.vals.map ZI.val=y.vals.map ZI.val) (map_len_ne (by have:=hc3;simp at this;omega)),Bool.and_false]
  rw [hz];try rfl
 have hc4':=hc4;(try simp at hc4');refine qU (za0 (qW (Je 2 [] [22] [(5,vI 0)] h fun a w h=>qZ ?_)))
 refine zb5 (ι:=(Nat)) (fun j=>j<=x.locs.length/\(x.locs.take j).map (fun l:Int=>l)=(y.locs.take j).map (fun l:Int=>l))
   (fun j=>[(2,vp 0 0),(3,vp 1 0),(5,vN j)])
   (fun j=>[(0,.box [cIs x.locs,cZs x.vals]),(1,.box [cIs y.locs,cZs y.vals])])
   (fun j=>x.locs.length - j) 0 ?_ h (by kernel_rfl) (by kernel_rfl) ?_
 ·exact ⟨Nat.zero_le _,rfl⟩
 clear h;rintro j a w hI h;obtain ⟨hj1,hj2⟩:=hI;refine qW (Je 2 [(3,.len (za3 1 zad x.locs))] [] [(27,vb (decide ((j:Int)<(x.locs.length:Int))))] h fun a w h=>zap ((j:Int)<(x.locs.length:Int)) h (fun hc5 hc5'=>?_) (fun hc8 hc8'=>?_))
 ·refine qU (za0 (qW (qZ ?_)));obtain ⟨x1,hx1⟩:=gl x.locs j;obtain ⟨x2,hx2⟩:=gl y.locs j;refine Je 2 [(3,.g (xD 33 31 zdo (zab hx1 (f:=zad)) (OV.tmp 32 _))),(8,.g (xD 38 36 zdo (zab hx2 (f:=zad)) (OV.tmp 37 _)))] [27] [(40,vb (x1 != x2))] h fun a w h=>cS (x1 != x2) h (fun hc6=>?_) (fun hc7=>?_)
  ·have hc6':=hc6;(try simp at hc6');refine Je 2 [] [40] [(4,vb false)] h fun a w h=>qV (za7 (za2 (za2 (za7 (za2 (rT (.c (cB false)) h rfl ?_))))));have hz:zek x y=false:=by unfold zek;rw [decide_eq_false (p:=x.locs=y.locs) (fun h=>map_ne (f:=(fun l:Int=>l)) hx1 hx2 (by have:=hc6;simpa using this) (by rw [h]))];rfl
   rw [hz];try rfl
  have hc7':=hc7;(try simp at hc7');refine qU (zac (za0 (Jf 2 [(1,.j1 j)] [40] [(5,vI ((j:Int)+1))] h fun a w h=>za0 (zag (x:=j) (y:=j+1) h ?_ ?_))))
  ·have:=zak hx1;exact ⟨by omega,map_take hx1 hx2 hj2 (by have:=hc7;simpa using this)⟩
  show x.locs.length - (j+1)<x.locs.length - j;have:=zak hx1;omega
 refine wp_exit (zaa (zaa (za5 (za0 (qW (Je 2 [] [5,27] [(6,vI 0)] h fun a w h=>qZ ?_))))))
 refine zb5 (ι:=(Nat)) (fun i=>i<=x.vals.length/\(x.vals.take i).map ZI.val=(y.vals.take i).map ZI.val)
   (fun i=>[(2,vp 0 0),(3,vp 1 0),(6,vN i)])
   (fun i=>[(0,.box [cIs x.locs,cZs x.vals]),(1,.box [cIs y.locs,cZs y.vals])])
   (fun i=>x.vals.length - i) 0 ?_ h (by kernel_rfl) (by kernel_rfl) ?_
 ·exact ⟨Nat.zero_le _,rfl⟩
 clear h;rintro i a w hI h;obtain ⟨hi1,hi2⟩:=hI;refine qW (Je 2 [(3,.len (za3 2 ziD x.vals))] [] [(45,vb (decide ((i:Int)<(x.vals.length:Int))))] h fun a w h=>zap ((i:Int)<(x.vals.length:Int)) h (fun hc9 hc9'=>?_) (fun hc12 hc12'=>?_))
 ·refine qU (za0 (qW (qZ ?_)));obtain ⟨x3,hx3⟩:=gl x.vals i;have gx3:=hx.val x3 (lM hx3);have lx3:=gx3.2;obtain ⟨x4,hx4⟩:=gl y.vals i;have gx4:=hy.val x4 (lM hx4);have lx4:=gx4.2;refine Je 2 [(3,.g (xD 51 49 zh9 (zab hx3 (f:=ziD)) (OV.tmp 50 _))),(8,.g (xD 56 54 zh9 (zab hx4 (f:=ziD)) (OV.tmp 55 _))),(10,.call (SRCmp x3 x4 gx3.1 gx4.1 (by omega) (by omega)) kh_1)] [45] [(59,vb (zdl x3.val x4.val != 0))] h fun a w h=>cS (zdl x3.val x4.val != 0) h (fun hc10=>?_) (fun hc11=>?_)
  ·have hc10':=hc10;(try simp at hc10');refine Je 2 [] [59] [(4,vb false)] h fun a w h=>qV (za7 (za2 (za2 (za7 (za2 (rT (.c (cB false)) h rfl ?_))))));have hz:zek x y=false:=by unfold zek;rw [decide_eq_true (p:=x.locs=y.locs) (by have:=map_end (by have:=hc2;simp at this;omega) (dF hc8) hj2;simpa using this)];rw [decide_eq_false (p:=x.vals.map ZI.val=y.vals.map ZI.val) (map_ne hx3 hx4 (by have:=hc10;rw [zht] at this;simpa using this))];rfl
   rw [hz];try rfl
  have hc11':=hc11;(try simp at hc11');refine qU (zac (za0 (Jf 2 [(1,.j1 i)] [59] [(6,vI ((i:Int)+1))] h fun a w h=>za0 (zag (x:=i) (y:=i+1) h ?_ ?_))))
  ·have:=zak hx3;exact ⟨by omega,map_take hx3 hx4 hi2 (by have:=hc11;rw [zht] at this;simpa using this)⟩
  show x.vals.length - (i+1)<x.vals.length - i;have:=zak hx3;omega
 refine wp_exit (zaa (zaa (za5 (za0 (Jq 2 [] [(4,vb true)] [] h fun a w h=>qV (rT (.c (cB true)) h rfl ?_))))));have hz:zek x y=true:=by unfold zek;rw [decide_eq_true (p:=x.locs=y.locs) (by have:=map_end (by have:=hc2;simp at this;omega) (dF hc8) hj2;simpa using this)];rw [decide_eq_true (p:=x.vals.map ZI.val=y.vals.map ZI.val) (map_end (by have:=hc4;simp at this;omega) (dF hc12) hi2)];rfl
 rw [hz];try rfl
theorem ki_0:Sz Tryz.prog 96 10 true:=Sz.mk' (by kernel_rfl) Tryz.underlying96 _ rfl
theorem ki_1:SlT Tryz.prog 37 96 10:=SlT.mk' Tryz.underlying37 (by kernel_rfl)
theorem ki_2:SlT Tryz.prog 94 105 5:=SlT.mk' Tryz.underlying94 (by kernel_rfl)
theorem ki_3:za6 Tryz.prog 143:=za6.mk' (by kernel_rfl)
theorem ki_4:za6 Tryz.prog 83:=za6.mk' (by kernel_rfl)
theorem ki_5:Sz Tryz.prog 105 5 true:=Sz.mk' (by kernel_rfl) Tryz.underlying105 _ rfl
theorem ki_6:za6 Tryz.prog 125:=za6.mk' (by kernel_rfl)
def zdy (s:zan) (i:Int):Option zaz:=if 0<=i then s.acts[i.toNat]? else none
def form0:za8:=⟨0,⟨⟨[],zdz⟩,false⟩,[]⟩
def zck:zaz:=⟨0,0,0,form0,[]⟩
def mv0:zaf:=⟨0,false,⟨[],zdz⟩⟩
def zih (a:zaz) (v:Nat):Option zaf:=a.moves.find? fun m=>m.v == (v:Int)
def zb7 (a:zaz) (v:Nat):Bool:=match zih a v with | some m=>m.any | none=>false
def zbx (x:StD) (a:zaz) (v:Nat):ZI:=match zih a v with | none=>ZI.of ((x.vals[v]?).getD zdz).val | some m=>if m.any=true then zdz else ZI.of (valT m.t x.vals)
def zdq (s:zan) (m:zaf):Bool:=decide (m.v>=0) && decide (m.v<(s.vars.length:Int))
def zaj (s:zan) (x:StD) (c:zaz):Bool:=(zbu s x && (decide (0<=c.proc/\c.proc<(s.procs.length:Int)) && ((x.locs[c.proc.toNat]?).getD 0 == c.from_) && decide (0<=c.to_/\c.to_<(zdj s c.proc.toNat:Int)))) && (!(c.moves.any fun m=>!zdq s m) && c.guard.holds x.vals)
theorem zes {s:zan} {i:Int} {a:zaz} (h:zdy s i=some a):∃ k:Nat,i=(k:Int)/\s.acts[k]?=some a:=by
 unfold zdy at h
 split at h
 ·exact ⟨i.toNat,(Int.toNat_of_nonneg (by assumption)).symm,h⟩
 ·cases h
theorem actAt_none {s:zan} {i:Int} (h:zdy s i=none):i<0\/(s.acts.length:Int)<=i:=by
 unfold zdy at h
 split at h
 ·have:=List.getElem?_eq_none_iff.1 h;omega
 ·omega
theorem act_ok {L:Nat} {s:zan} (hs:zb1 L s) {i:Int} {a:zaz} (h:zdy s i=some a):zgk L a:=by
 obtain ⟨k,_,hk⟩:=zes h
 exact hs.act a (List.mem_of_getElem? hk)
theorem mv_mem {a:zaz} {v:Nat} {m:zaf} (h:zih a v=some m):m ∈ a.moves:=List.mem_of_find?_eq_some h
theorem new_ok {L M:Nat} {x:StD} {a:zaz} (ha:zgk L a) (hx:zd0 M x) (v:Nat):ZOk (L+M+2) (zbx x a v):=by
 unfold zbx
 split
 ·refine ⟨ZI.lb_of _,Nat.le_trans (ZI.len_of ?_) (Nat.le_trans (Nat.le_refl M) (by omega))⟩
  cases hv:x.vals[v]? with
  | none=>exact zen M
  | some z=>have g:=hx.val z (List.mem_of_getElem? hv);exact Nat.lt_of_lt_of_le (ZI.abs_lt g.1) (zfa g.2)
 ·rename_i m hm
  split
  ·exact ZOk.zero
  ·exact ⟨ZI.lb_of _,Nat.le_trans (zfg (ha.mv m (mv_mem hm)) (by decide) hx.vok (fun p hp=>hp) (Nat.le_refl _)) (by omega)⟩
theorem SactN (s:zan) (i:Int) (hi:zdy s i=none):Fn Tryz.prog 76 [] [vG (zai s),vI i] (.tup [.agg ([cI zck.proc,cI zck.from_,cI zck.to_,cI zck.guard.kind,cPs zck.guard.r.t.parts]++zi zck.guard.r.t.k++[cB zck.guard.r.eq,cFs zck.guard.kids,.d (.sl 5 (zck.moves.map zaf.d))]),.c (cB false)]) []:=by
 refine Fn.body Tryz.func76 rfl 21 rfl fun w H B a h=>Jq 0 [] [(1,vI i),(2,vp 0 0),(4,vp 1 0),(5,vb false)] [(0,.box (zai s)),(1,.box [cI 0,cI 0,cI 0,cI 0,.d (.raw za4),cB false,.d (nsl []),cB false,.d (.raw za4),.d (.raw za4)])] h fun a w h=>qW ?_
 rcases Bool.eq_false_or_eq_true (decide (i<0)) with hc1 | hc2
 ·have hc1':=dT hc1;refine Je 2 [(1,.cmp (op:=.lss) (m:=i) (n:=0) (b:=true) .i64 hc1)] [] [(14,vb true)] h fun a w h=>cS true h (fun _=>?_) nofun
  refine Je 2 [] [14] [] h fun a w h=>qV (za2 ?_);replace h:=zbj 1 4 3 [cI 0,cI 0,cI 0,cI 0,.d (.raw za4),cB false,.d (nsl []),cB false,.d (.raw za4),.d (.raw za4)] [(1,vI i),(2,vp 0 0),(4,vp 1 0),(5,vb false)] [(0,.box (zai s)),(1,.box [cI 0,cI 0,cI 0,cI 0,cPs [],cB false,.d (nsl []),cB false,.d (.raw za4),.d (.raw za4)])] h rfl rfl;replace h:=zbj 1 8 6 [cI 0,cI 0,cI 0,cI 0,cPs [],cB false,.d (nsl []),cB false,.d (.raw za4),.d (.raw za4)] [(1,vI i),(2,vp 0 0),(4,vp 1 0),(5,vb false)] [(0,.box (zai s)),(1,.box [cI 0,cI 0,cI 0,cI 0,cPs [],cB false,.d (nsl []),cB false,cFs [],.d (.raw za4)])] h rfl rfl;replace h:=zbj 1 9 5 [cI 0,cI 0,cI 0,cI 0,cPs [],cB false,.d (nsl []),cB false,cFs [],.d (.raw za4)] [(1,vI i),(2,vp 0 0),(4,vp 1 0),(5,vb false)] [(0,.box (zai s)),(1,.box [cI 0,cI 0,cI 0,cI 0,cPs [],cB false,.d (nsl []),cB false,cFs [],.d (.sl 5 ([].map zaf.d))])] h rfl rfl;refine zdb [.agg [cI 0,cI 0,cI 0,cI 0,cPs [],cB false,.d (nsl []),cB false,cFs [],.d (.sl 5 ([].map zaf.d))],.c (cB false)] h Exit.ret (.inl rfl)  rfl ⟨RV.agg _ 1 0 _ _ _ _ ki_0 rfl rfl rfl rfl,RV.tmp _ _ rfl,trivial⟩ ?_;rfl
 have hc2':=dF hc2;refine Je 2 [(1,.cmp (op:=.lss) (m:=i) (n:=0) (b:=false) .i64 hc2),(6,.len (za3 10 zaz.d s.acts)),(7,.cmp (op:=.geq) (m:=i) (n:=(s.acts.length:Int)) (b:=true) .i64 (decide_eq_true (by have:=actAt_none hi;have:=dF hc2;omega)))] [] [(14,vb true)] h fun a w h=>cS true h (fun _=>?_) nofun
 refine Je 2 [] [14] [] h fun a w h=>qV (za2 ?_);replace h:=zbj 1 4 3 [cI 0,cI 0,cI 0,cI 0,.d (.raw za4),cB false,.d (nsl []),cB false,.d (.raw za4),.d (.raw za4)] [(1,vI i),(2,vp 0 0),(4,vp 1 0),(5,vb false)] [(0,.box (zai s)),(1,.box [cI 0,cI 0,cI 0,cI 0,cPs [],cB false,.d (nsl []),cB false,.d (.raw za4),.d (.raw za4)])] h rfl rfl;replace h:=zbj 1 8 6 [cI 0,cI 0,cI 0,cI 0,cPs [],cB false,.d (nsl []),cB false,.d (.raw za4),.d (.raw za4)] [(1,vI i),(2,vp 0 0),(4,vp 1 0),(5,vb false)] [(0,.box (zai s)),(1,.box [cI 0,cI 0,cI 0,cI 0,cPs [],cB false,.d (nsl []),cB false,cFs [],.d (.raw za4)])] h rfl rfl;replace h:=zbj 1 9 5 [cI 0,cI 0,cI 0,cI 0,cPs [],cB false,.d (nsl []),cB false,cFs [],.d (.raw za4)] [(1,vI i),(2,vp 0 0),(4,vp 1 0),(5,vb false)] [(0,.box (zai s)),(1,.box [cI 0,cI 0,cI 0,cI 0,cPs [],cB false,.d (nsl []),cB false,cFs [],.d (.sl 5 ([].map zaf.d))])] h rfl rfl;refine zdb [.agg [cI 0,cI 0,cI 0,cI 0,cPs [],cB false,.d (nsl []),cB false,cFs [],.d (.sl 5 ([].map zaf.d))],.c (cB false)] h Exit.ret (.inl rfl)  rfl ⟨RV.agg _ 1 0 _ _ _ _ ki_0 rfl rfl rfl rfl,RV.tmp _ _ rfl,trivial⟩ ?_;rfl
theorem SactS0 (s:zan) (k:Nat) (c:zaz) (hka:s.acts[k]?=some c):Fn Tryz.prog 76 [] [vG (zai s),vN k] (.tup [.agg ([cI c.proc,cI c.from_,cI c.to_,cI c.guard.kind,cPs c.guard.r.t.parts]++zi c.guard.r.t.k++[cB c.guard.r.eq,cFs c.guard.kids,.d (.sl 5 (c.moves.map zaf.d))]),.c (cB true)]) []:=by
 have lk:=zak hka;refine Fn.body Tryz.func76 rfl 21 rfl fun w H B a h=>Jq 0 [] [(1,vN k),(2,vp 0 0),(4,vp 1 0),(5,vb false)] [(0,.box (zai s)),(1,.box [cI 0,cI 0,cI 0,cI 0,.d (.raw za4),cB false,.d (nsl []),cB false,.d (.raw za4),.d (.raw za4)])] h fun a w h=>qW (Je 2 [(1,.cmp (op:=.lss) (m:=(k:Int)) (n:=0) (b:=false) .i64 (show (decide ((k:Int)<0))=false from decide_eq_false (by omega))),(6,.len (za3 10 zaz.d s.acts)),(7,.cmp (op:=.geq) (m:=(k:Int)) (n:=(s.acts.length:Int)) (b:=false) .i64 (show (decide ((k:Int)>=(s.acts.length:Int)))=false from decide_eq_false (by omega)))] [] [(14,vb false)] h fun a w h=>zbn false h rfl nofun (fun _=>qU (za0 (Jq 2 [(3,.g (xD 19 17 ki_1 (zab hka (f:=zaz.d)) (OV.tmp 18 _)))] [(4,vp 1 0),(5,vb true)] [(1,.box ([cI c.proc,cI c.from_,cI c.to_,cI c.guard.kind,cPs c.guard.r.t.parts]++zi c.guard.r.t.k++[cB c.guard.r.eq,cFs c.guard.kids,.d (.sl 5 (c.moves.map zaf.d))]))] h fun a w h=>qV (zdb [.agg ([cI c.proc,cI c.from_,cI c.to_,cI c.guard.kind,cPs c.guard.r.t.parts]++zi c.guard.r.t.k++[cB c.guard.r.eq,cFs c.guard.kids,.d (.sl 5 (c.moves.map zaf.d))]),.c (cB true)] h Exit.ret (.inl rfl)  rfl ⟨RV.agg _ 1 0 _ _ _ _ ki_0 rfl rfl rfl rfl,RV.tmp _ _ rfl,trivial⟩ ?_)))))
 rfl
theorem SactS (s:zan) (i:Int) (c:zaz) (hi:zdy s i=some c):Fn Tryz.prog 76 [] [vG (zai s),vi .i64 i] (.tup [.agg ([cI c.proc,cI c.from_,cI c.to_,cI c.guard.kind,cPs c.guard.r.t.parts]++zi c.guard.r.t.k++[cB c.guard.r.eq,cFs c.guard.kids,.d (.sl 5 (c.moves.map zaf.d))]),.c (cB true)]) []:=by
 obtain ⟨k,rfl,hk⟩:=zes hi
 exact SactS0 s k c hk
theorem SKMove1 (m:zaf) (v:Nat) :Fn Tryz.prog 143 [(1,.box [cI (v:Int)])] [vG ([cI m.v,cB m.any,cPs m.t.parts]++zi m.t.k),vp 1 0] (vb (m.v == (v:Int))) [(1,.box [cI (v:Int)])]:=by
 refine Fn.body Tryz.func143 rfl 8 rfl fun w H B a h=>Jq 5 [] [(1,vp 1 0),(2,vp 5 0),(3,vb false)] [(1,.box [cI (v:Int)]),(5,.box ([cI m.v,cB m.any,cPs m.t.parts]++zi m.t.k))] h fun a w h=>Jq 6 [] [(3,vb (m.v == (v:Int)))] [(1,.box [cI (v:Int)])] h fun a w h=>qV (rT (.c (cB (m.v == (v:Int)))) h rfl ?_)
 rfl
theorem SIdxMV (pr:zaf->Bool) (xs:List zaf) (v:Nat) (hf:∀ x ∈ xs,Fn Tryz.prog 143 [(1,.box [cI (v:Int)])] [vG ([cI x.v,cB x.any,cPs x.t.parts]++zi x.t.k),vp 1 0] (vb (pr x)) [(1,.box [cI (v:Int)])]) (hl:xs.length<=9223372036854775807):Fn Tryz.prog 83 [(1,.box [cI (v:Int)])] [vS 5 (xs.map zaf.d),.t (.c (.fn (.func 143) [] [.ptr 1 0]))] (vI (zcf pr xs 0)) [(1,.box [cI (v:Int)])]:=by
 refine Fn.body Tryz.func83 rfl 19 rfl fun w H B a h=>Jq 5 [] [(0,vS 5 (xs.map zaf.d)),(1,.t (.c (.fn (.func 143) [] [.ptr 1 0]))),(4,vI 0)] [(1,.box [cI (v:Int)])] h fun a w h=>qW (Je 5 [(1,.len (za3 5 zaf.d xs))] [] [(7,vN xs.length),(8,vI 0)] h fun a w h=>qZ ?_)
 refine zb5 (ι:=(Nat)) (fun j=>j<=xs.length/\zcf pr xs 0=zcf pr (xs.drop j) j)
   (fun j=>[(0,vS 5 (xs.map zaf.d)),(1,.t (.c (.fn (.func 143) [] [.ptr 1 0]))),(7,vN xs.length),(8,vN j)])
   (fun j=>[(1,.box [cI (v:Int)])])
   (fun j=>xs.length - j) 0 ?_ h (by kernel_rfl) (by kernel_rfl) ?_
 ·exact ⟨Nat.zero_le _,rfl⟩
 clear h;rintro j a w hI h;obtain ⟨hI1,hI2⟩:=hI;refine Je 5 [] [] [(9,vb (decide ((j:Int)<(xs.length:Int))))] h fun a w h=>qW (zap ((j:Int)<(xs.length:Int)) h (fun hc1 hc1'=>?_) (fun hc4 hc4'=>?_))
 ·refine qU (za0 (qW (qZ (Je 5 [] [9] [(5,vN j)] h fun a w h=>?_))));obtain ⟨x1,hx1⟩:=gl xs j;refine Je 5 [(3,.g (xD 14 12 ki_2 (zab hx1 (f:=zaf.d)) (OV.tmp 13 _))),(5,.g (Op.callV (d:=16) (t:=11) (cap:=[.ptr 1 0]) (args:=[vG ([cI x1.v,cB x1.any,cPs x1.t.parts]++zi x1.t.k)]) (rs:=[(15,vG ([cI x1.v,cB x1.any,cPs x1.t.parts]++zi x1.t.k))]) (tys:=#[105]) (hf x1 (lM hx1)) ki_3 (OVs.cons (OV.tmp 15 _) (OVs.nil))))] [] [(16,vb (pr x1))] h fun a w h=>cS (pr x1) h (fun hc2=>?_) (fun hc3=>?_)
  ·refine Je 5 [] [5,16] [(4,vN j)] h fun a w h=>qV (za7 (za2 (za2 (za7 (za2 (rT (.c (cI (j:Int))) h rfl ?_))))));have hz:zcf pr xs 0=(j:Int):=by rw [hI2,zca hx1,if_pos hc2]
   rw [hz];try rfl
  refine qU (zac (za0 (Jf 5 [(0,.j1 j)] [5,16] [(8,vI ((j:Int)+1))] h fun a w h=>za0 (zag (x:=j) (y:=j+1) h ?_ ?_))))
  ·exact ⟨by have:=zak hx1;omega,by rw [hI2,zca hx1,if_neg (by rw [hc3];exact Bool.noConfusion)]⟩
  (try simp);omega
 refine wp_exit (zaa (zaa (za5 (za0 (Jp 5 [] [(4,vI (-1))] h fun a w h=>qV (rT (.c (cI (-1))) h rfl ?_))))));have hz:zcf pr xs 0=-1:=by rw [hI2,List.drop_of_length_le (by omega)];rfl
 rw [hz];try rfl
theorem SmoveN0 (c:zaz) (v:Nat) (hl:c.moves.length<=20) (hix:zcf (fun m=>m.v == (v:Int)) c.moves 0=-1):Fn Tryz.prog 125 [] [vG ([cI c.proc,cI c.from_,cI c.to_,cI c.guard.kind,cPs c.guard.r.t.parts]++zi c.guard.r.t.k++[cB c.guard.r.eq,cFs c.guard.kids,.d (.sl 5 (c.moves.map zaf.d))]),vN v] (.tup [.agg ([cI mv0.v,cB mv0.any,cPs mv0.t.parts]++zi mv0.t.k),.c (cB false)]) []:=by
 refine Fn.body Tryz.func125 rfl 19 rfl fun w H B a h=>Jq 0 [] [(2,vp 0 0),(3,vp 1 0),(4,vp 2 0),(5,vb false)] [(0,.box ([cI c.proc,cI c.from_,cI c.to_,cI c.guard.kind,cPs c.guard.r.t.parts]++zi c.guard.r.t.k++[cB c.guard.r.eq,cFs c.guard.kids,.d (.sl 5 (c.moves.map zaf.d))])),(1,.box [cI (v:Int)]),(2,.box [cI 0,cB false,.d (.raw za4),cB false,.d (nsl [])])] h fun a w h=>Jd 3 [(2,.g (Op.makeFs (d:=9) (fn:=.func 143) [(3,1,0)])),(3,.call (Fn.cast (SIdxMV (fun m=>m.v == (v:Int)) c.moves v (fun m _=>SKMove1 m v) (by omega)) (congrArg (vi .i64) hix)) ki_4)] [3] [(6,vI (-1))] [(0,.box ([cI c.proc,cI c.from_,cI c.to_,cI c.guard.kind,cPs c.guard.r.t.parts]++zi c.guard.r.t.k++[cB c.guard.r.eq,cFs c.guard.kids,.d (.sl 5 (c.moves.map zaf.d))])),(2,.box [cI 0,cB false,.d (.raw za4),cB false,.d (nsl [])])] h fun a w h=>qW (Je 3 [(1,.cmp (op:=.lss) (m:=(-1)) (n:=0) (b:=true) .i64 rfl)] [] [(12,vb true)] h fun a w h=>cS true h (fun _=>?_) nofun)
 refine Je 3 [] [12] [] h fun a w h=>qV (za2 ?_);replace h:=zbj 2 2 3 [cI 0,cB false,.d (.raw za4),cB false,.d (nsl [])] [(2,vp 0 0),(4,vp 2 0),(5,vb false),(6,vI (-1))] [(0,.box ([cI c.proc,cI c.from_,cI c.to_,cI c.guard.kind,cPs c.guard.r.t.parts]++zi c.guard.r.t.k++[cB c.guard.r.eq,cFs c.guard.kids,.d (.sl 5 (c.moves.map zaf.d))])),(2,.box [cI 0,cB false,cPs [],cB false,.d (nsl [])])] h rfl rfl;refine zdb [.agg [cI 0,cB false,cPs [],cB false,.d (nsl [])],.c (cB false)] h Exit.ret (.inl rfl)  rfl ⟨RV.agg _ 2 0 _ _ _ _ ki_5 rfl rfl rfl rfl,RV.tmp _ _ rfl,trivial⟩ ?_;rfl
theorem SmoveS0 (c:zaz) (v:Nat) (m:zaf) (k:Nat) (hl:c.moves.length<=20) (hix:zcf (fun m=>m.v == (v:Int)) c.moves 0=(k:Int)) (hk:c.moves[k]?=some m):Fn Tryz.prog 125 [] [vG ([cI c.proc,cI c.from_,cI c.to_,cI c.guard.kind,cPs c.guard.r.t.parts]++zi c.guard.r.t.k++[cB c.guard.r.eq,cFs c.guard.kids,.d (.sl 5 (c.moves.map zaf.d))]),vN v] (.tup [.agg ([cI m.v,cB m.any,cPs m.t.parts]++zi m.t.k),.c (cB true)]) []:=by
 have lk:=zak hk;refine Fn.body Tryz.func125 rfl 19 rfl fun w H B a h=>Jq 0 [] [(2,vp 0 0),(3,vp 1 0),(4,vp 2 0),(5,vb false)] [(0,.box ([cI c.proc,cI c.from_,cI c.to_,cI c.guard.kind,cPs c.guard.r.t.parts]++zi c.guard.r.t.k++[cB c.guard.r.eq,cFs c.guard.kids,.d (.sl 5 (c.moves.map zaf.d))])),(1,.box [cI (v:Int)]),(2,.box [cI 0,cB false,.d (.raw za4),cB false,.d (nsl [])])] h fun a w h=>Jd 3 [(2,.g (Op.makeFs (d:=9) (fn:=.func 143) [(3,1,0)])),(3,.call (Fn.cast (SIdxMV (fun m=>m.v == (v:Int)) c.moves v (fun m _=>SKMove1 m v) (by omega)) (congrArg (vi .i64) hix)) ki_4)] [3] [(6,vN k)] [(0,.box ([cI c.proc,cI c.from_,cI c.to_,cI c.guard.kind,cPs c.guard.r.t.parts]++zi c.guard.r.t.k++[cB c.guard.r.eq,cFs c.guard.kids,.d (.sl 5 (c.moves.map zaf.d))])),(2,.box [cI 0,cB false,.d (.raw za4),cB false,.d (nsl [])])] h fun a w h=>qW (Je 3 [(1,.cmp (op:=.lss) (m:=(k:Int)) (n:=0) (b:=false) .i64 (show (decide ((k:Int)<0))=false from decide_eq_false (by omega)))] [] [(12,vb false)] h fun a w h=>zbn false h rfl nofun (fun _=>qU (za0 (Jq 3 [(3,.g (xD 17 15 ki_2 (zab hk (f:=zaf.d)) (OV.tmp 16 _)))] [(4,vp 2 0),(5,vb true)] [(2,.box ([cI m.v,cB m.any,cPs m.t.parts]++zi m.t.k))] h fun a w h=>qV (zdb [.agg ([cI m.v,cB m.any,cPs m.t.parts]++zi m.t.k),.c (cB true)] h Exit.ret (.inl rfl)  rfl ⟨RV.agg _ 2 0 _ _ _ _ ki_5 rfl rfl rfl rfl,RV.tmp _ _ rfl,trivial⟩ ?_)))))
 rfl
theorem SmoveN (c:zaz) (v:Nat) (hl:c.moves.length<=20) (hm:zih c v=none):Fn Tryz.prog 125 [] [vG ([cI c.proc,cI c.from_,cI c.to_,cI c.guard.kind,cPs c.guard.r.t.parts]++zi c.guard.r.t.k++[cB c.guard.r.eq,cFs c.guard.kids,.d (.sl 5 (c.moves.map zaf.d))]),vi .i64 (v:Int)] (.tup [.agg ([cI mv0.v,cB mv0.any,cPs mv0.t.parts]++zi mv0.t.k),.c (cB false)]) []:=by
 rcases zeq (fun m=>m.v == (v:Int)) c.moves with ⟨h1,_⟩ | ⟨k,m,_,_,h3⟩
 ·exact SmoveN0 c v hl h1
 ·unfold zih at hm;rw [hm] at h3;cases h3
theorem SmoveS (c:zaz) (v:Nat) (m:zaf) (hl:c.moves.length<=20) (hm:zih c v=some m):Fn Tryz.prog 125 [] [vG ([cI c.proc,cI c.from_,cI c.to_,cI c.guard.kind,cPs c.guard.r.t.parts]++zi c.guard.r.t.k++[cB c.guard.r.eq,cFs c.guard.kids,.d (.sl 5 (c.moves.map zaf.d))]),vi .i64 (v:Int)] (.tup [.agg ([cI m.v,cB m.any,cPs m.t.parts]++zi m.t.k),.c (cB true)]) []:=by
 rcases zeq (fun m=>m.v == (v:Int)) c.moves with ⟨_,h2⟩ | ⟨k,m', h1,h2,h3⟩
 ·unfold zih at hm;rw [hm] at h2;cases h2
 ·unfold zih at hm
  rw [hm] at h3
  injection h3 with h3
  subst h3
  exact SmoveS0 c v m k hl h1 h2
theorem SafterN (x:StD) (c:zaz) (v:Nat) {L M:Nat} (hL:L+M<=10000) (hc:zgk L c) (hx:zd0 M x) (hv:v<x.vals.length) (hm:zih c v=none):Fn Tryz.prog 78 [] [vG [cIs x.locs,cZs x.vals],vG ([cI c.proc,cI c.from_,cI c.to_,cI c.guard.kind,cPs c.guard.r.t.parts]++zi c.guard.r.t.k++[cB c.guard.r.eq,cFs c.guard.kids,.d (.sl 5 (c.moves.map zaf.d))]),vN v] (.tup [.agg (zi (zbx x c v)),.c (cB (zb7 c v))]) []:=by
 refine Fn.body Tryz.func78 rfl 41 rfl fun w H B a h=>Jq 0 [] [(2,vN v),(3,vp 0 0),(4,vp 1 0),(6,vp 2 0),(7,vb false)] [(0,.box [cIs x.locs,cZs x.vals]),(1,.box ([cI c.proc,cI c.from_,cI c.to_,cI c.guard.kind,cPs c.guard.r.t.parts]++zi c.guard.r.t.k++[cB c.guard.r.eq,cFs c.guard.kids,.d (.sl 5 (c.moves.map zaf.d))])),(2,.box [cB false,.d (nsl [])])] h fun a w h=>Jd 3 [(2,.call (SmoveN c v hc.len hm) ki_6)] [4] [(8,vp 3 0),(9,vb false)] [(0,.box [cIs x.locs,cZs x.vals]),(2,.box [cB false,.d (nsl [])]),(3,.box ([cI mv0.v,cB mv0.any,cPs mv0.t.parts]++zi mv0.t.k))] h fun a w h=>qW (qZ (Je 4 [] [9] [(16,vb true)] h fun a w h=>cS true h (fun _=>?_) nofun))
 obtain ⟨x2,hx2⟩:=gl x.vals v;have gx2:=hx.val x2 (lM hx2);have lgx2:=gx2.2;obtain ⟨r3,er3,vr3,or3,lr3⟩:=mkZ (v:=x2.val) (m:=M) (Nat.le_trans (zgy gx2.1) gx2.2);refine Jd 4 [(3,.g (xD 22 20 zh9 (zab hx2 (f:=ziD)) (OV.tmp 21 _))),(9,.g (xD 28 26 zh9 (zab hx2 (f:=ziD)) (OV.tmp 27 _))),(12,.call (Fn.cast ((show Fn _ _ _ _ (vz (ZI.of x2.val)) _ from zi7 x2.neg x2.abs gx2.1 (by omega))) (congrArg vz er3.symm)) ia_3)] [2,16] [] [(0,.box [cIs x.locs,cZs x.vals]),(2,.box (zi r3)),(3,.box ([cI mv0.v,cB mv0.any,cPs mv0.t.parts]++zi mv0.t.k))] h fun a w h=>qV (za7 (za2 (zdb [.agg (zi r3),.c (cB false)] h Exit.ret (.inl rfl)  rfl ⟨RV.agg _ 2 0 _ _ _ _ zfd rfl rfl rfl rfl,RV.tmp _ _ rfl,trivial⟩ ?_)));have hz:zbx x c v=r3:=by unfold zbx;rw [hm,er3,hx2];rfl
 have hf:zb7 c v=false:=by unfold zb7;rw [hm]
 rw [hz,hf];try rfl
theorem SafterS (x:StD) (c:zaz) (v:Nat) (m:zaf) {L M:Nat} (hL:L+M<=10000) (hc:zgk L c) (hx:zd0 M x) (_hv:v<x.vals.length) (hm:zih c v=some m):Fn Tryz.prog 78 [] [vG [cIs x.locs,cZs x.vals],vG ([cI c.proc,cI c.from_,cI c.to_,cI c.guard.kind,cPs c.guard.r.t.parts]++zi c.guard.r.t.k++[cB c.guard.r.eq,cFs c.guard.kids,.d (.sl 5 (c.moves.map zaf.d))]),vN v] (.tup [.agg (zi (zbx x c v)),.c (cB (zb7 c v))]) []:=by
 refine Fn.body Tryz.func78 rfl 41 rfl fun w H B a h=>Jq 0 [] [(2,vN v),(3,vp 0 0),(4,vp 1 0),(6,vp 2 0),(7,vb false)] [(0,.box [cIs x.locs,cZs x.vals]),(1,.box ([cI c.proc,cI c.from_,cI c.to_,cI c.guard.kind,cPs c.guard.r.t.parts]++zi c.guard.r.t.k++[cB c.guard.r.eq,cFs c.guard.kids,.d (.sl 5 (c.moves.map zaf.d))])),(2,.box [cB false,.d (nsl [])])] h fun a w h=>Jd 3 [(2,.call (SmoveS c v m hc.len hm) ki_6)] [4] [(8,vp 3 0),(9,vb true)] [(0,.box [cIs x.locs,cZs x.vals]),(2,.box [cB false,.d (nsl [])]),(3,.box ([cI m.v,cB m.any,cPs m.t.parts]++zi m.t.k))] h fun a w h=>qW (qZ (Je 4 [] [9] [(16,vb false)] h fun a w h=>zbn false h rfl nofun (fun _=>Je 4 [] [2,16] [(32,vb m.any)] h fun a w h=>cS m.any h (fun hc1=>?_) (fun hc2=>?_))))
 ·refine Je 4 [] [32] [(7,vb true)] h fun a w h=>qV (za7 (za2 (zdb [.agg [cB false,.d (nsl [])],.c (cB true)] h Exit.ret (.inl rfl)  rfl ⟨RV.agg _ 2 0 _ _ _ _ zfd rfl rfl rfl rfl,RV.tmp _ _ rfl,trivial⟩ ?_)));have hz:zbx x c v=zdz:=by unfold zbx;rw [hm];simp only;rw [if_pos hc1]
  have hf:zb7 c v=true:=by unfold zb7;rw [hm];exact hc1
  rw [hz,hf];try rfl
 refine qU (zac (za0 ?_));obtain ⟨r2,er2,vr2,or2,lr2⟩:=mkZ (v:=valT m.t x.vals) (m:=L+M+2) (Nat.le_trans (zfg (hc.mv m (mv_mem hm)) (by decide) hx.vok (fun p hp=>hp) (Nat.le_refl _)) (by omega));refine Jd 4 [(4,.call (Fn.cast (SValue m.t x.vals (hc.mv m (mv_mem hm)) (by decide) (by omega) hx.vok) (congrArg vz er2.symm)) ke_0)] [3,8,32] [] [(2,.box (zi r2))] h fun a w h=>qV (zdb [.agg (zi r2),.c (cB false)] h Exit.ret (.inl rfl)  rfl ⟨RV.agg _ 2 0 _ _ _ _ zfd rfl rfl rfl rfl,RV.tmp _ _ rfl,trivial⟩ ?_);have hz:zbx x c v=r2:=by unfold zbx;rw [hm,er2];simp only;rw [if_neg (by rw [hc2];exact Bool.noConfusion)]
 have hf:zb7 c v=false:=by unfold zb7;rw [hm];exact hc2
 rw [hz,hf];try rfl
theorem Safter (x:StD) (c:zaz) (v:Nat) {L M:Nat} (hL:L+M<=10000) (hc:zgk L c) (hx:zd0 M x) (hv:v<x.vals.length):Fn Tryz.prog 78 [] [vG [cIs x.locs,cZs x.vals],vG ([cI c.proc,cI c.from_,cI c.to_,cI c.guard.kind,cPs c.guard.r.t.parts]++zi c.guard.r.t.k++[cB c.guard.r.eq,cFs c.guard.kids,.d (.sl 5 (c.moves.map zaf.d))]),vi .i64 (v:Int)] (.tup [.agg (zi (zbx x c v)),.c (cB (zb7 c v))]) []:=by
 cases hm:zih c v with
 | none=>exact SafterN x c v hL hc hx hv hm
 | some m=>exact SafterS x c v m hL hc hx hv hm
def fam2tb:Tb:=[(3,⟨1,false,[],[.d (.raw (.int .i64 0))],13⟩),(4,⟨1,false,[],[.d (.raw (.bool false))],3⟩),(24,⟨1,false,[],[.d (.raw za4)],1⟩),(26,⟨1,false,[],[.d (nsl [])],1⟩),(28,⟨2,true,[(0,1,false),(1,1,false)],[.d (.raw (.bool false)),.d (nsl [])],0⟩),(30,⟨3,true,[(0,1,false),(1,2,true)],[.d (.raw za4),.d (.raw (.bool false)),.d (nsl [])],0⟩),(105,⟨5,true,[(0,1,false),(1,1,false),(2,3,true)],[.d (.raw (.int .i64 0)),.d (.raw (.bool false)),.d (.raw za4),.d (.raw (.bool false)),.d (nsl [])],0⟩),(22,⟨1,false,[],[.d (.raw za4)],1⟩),(23,⟨1,false,[],[.d (.raw za4)],1⟩),(32,⟨4,true,[(0,3,true),(3,1,false)],[.d (.raw za4),.d (.raw (.bool false)),.d (nsl []),.d (.raw (.bool false))],0⟩),(33,⟨1,false,[],[.d (.raw za4)],1⟩),(35,⟨6,true,[(0,1,false),(1,4,true),(5,1,false)],[.d (.raw (.int .i64 0)),.d (.raw za4),.d (.raw (.bool false)),.d (nsl []),.d (.raw (.bool false)),.d (.raw za4)],0⟩),(36,⟨1,false,[],[.d (.raw za4)],1⟩),(37,⟨1,false,[],[.d (.raw za4)],1⟩),(39,⟨10,true,[(0,1,false),(1,1,false),(2,6,true),(8,1,false),(9,1,false)],[.d (.raw za4),.d (.raw za4),.d (.raw (.int .i64 0)),.d (.raw za4),.d (.raw (.bool false)),.d (nsl []),.d (.raw (.bool false)),.d (.raw za4),.d (.raw za4),.d (.raw za4)],0⟩),(159,⟨1,false,[],[.d (.raw .nilFunc)],4⟩),(94,⟨1,false,[],[.d (.raw za4)],1⟩),(44,⟨1,false,[],[.d (.raw za4)],1⟩),(45,⟨1,false,[],[.d (.raw za4)],1⟩),(47,⟨2,true,[(0,1,false),(1,1,false)],[.d (.raw za4),.d (.raw za4)],0⟩),(96,⟨10,true,[(0,1,false),(1,1,false),(2,1,false),(3,6,true),(9,1,false)],[.d (.raw (.int .i64 0)),.d (.raw (.int .i64 0)),.d (.raw (.int .i64 0)),.d (.raw (.int .i64 0)),.d (.raw za4),.d (.raw (.bool false)),.d (nsl []),.d (.raw (.bool false)),.d (.raw za4),.d (.raw za4)],0⟩),(9,⟨1,false,[],[.d (.raw (.string ByteArray.empty))],2⟩),(91,⟨1,false,[],[.d (.raw za4)],1⟩),(93,⟨3,true,[(0,1,false),(1,1,false),(2,1,false)],[.d (.raw (.string ByteArray.empty)),.d (.raw za4),.d (.raw za4)],0⟩)]
theorem zbk:zi6 Tryz.prog fam2tb:=⟨zbb.int Tryz.underlying3 rfl (by kernel_rfl) ⟨(.int .i64 0:Value),[.int .i64 0],by kernel_rfl,rfl,(fun _ _=>⟨DR.raw _ rfl,trivial⟩)⟩,
 zbb.bl Tryz.underlying4 (by kernel_rfl) ⟨(.bool false:Value),[.bool false],by kernel_rfl,rfl,(fun _ _=>⟨DR.raw _ rfl,trivial⟩)⟩,
 zbb.slc Tryz.underlying24 (by kernel_rfl) ⟨(.slice none 0 0:Value),[.slice none 0 0],by kernel_rfl,rfl,(fun _ _=>⟨DR.raw _ rfl,trivial⟩)⟩,
 zbb.slc Tryz.underlying26 (by kernel_rfl) ⟨(.slice none 0 0:Value),[.slice none 0 0],by kernel_rfl,rfl,(fun _ _=>⟨DR.nil _ _ _ (fun _=>rfl) (Nat.zero_le _),trivial⟩)⟩,
 zbb.st Tryz.underlying28 (by kernel_rfl) ⟨⟨by decide,Fd.mk' _ _ Tryz.underlying28 rfl rfl (Sz.mk' (by kernel_rfl) Tryz.underlying4 _ rfl)⟩,⟨by decide,Fd.mk' _ _ Tryz.underlying28 rfl rfl (Sz.mk' (by kernel_rfl) Tryz.underlying26 _ rfl)⟩,trivial⟩ ⟨(Value.agg #[.bool false,.slice none 0 0]),[.bool false,.slice none 0 0],by kernel_rfl,rfl,(fun _ _=>⟨DR.raw _ rfl,DR.nil _ _ _ (fun _=>rfl) (Nat.zero_le _),trivial⟩)⟩ ⟨_,Tryz.underlying28,⟨⟨rfl,by kernel_rfl⟩,⟨rfl,by kernel_rfl⟩,trivial⟩⟩,
 zbb.st Tryz.underlying30 (by kernel_rfl) ⟨⟨by decide,Fd.mk' _ _ Tryz.underlying30 rfl rfl (Sz.mk' (by kernel_rfl) Tryz.underlying24 _ rfl)⟩,⟨by decide,Fd.mk' _ _ Tryz.underlying30 rfl rfl (Sz.mk' (by kernel_rfl) Tryz.underlying28 _ rfl)⟩,trivial⟩ ⟨(Value.agg #[.slice none 0 0,.bool false,.slice none 0 0]),[.slice none 0 0,.bool false,.slice none 0 0],by kernel_rfl,rfl,(fun _ _=>⟨DR.raw _ rfl,DR.raw _ rfl,DR.nil _ _ _ (fun _=>rfl) (Nat.zero_le _),trivial⟩)⟩ ⟨_,Tryz.underlying30,⟨⟨rfl,by kernel_rfl⟩,⟨rfl,by kernel_rfl⟩,trivial⟩⟩,
 zbb.st Tryz.underlying105 (by kernel_rfl) ⟨⟨by decide,Fd.mk' _ _ Tryz.underlying105 rfl rfl (Sz.mk' (by kernel_rfl) Tryz.underlying3 _ rfl)⟩,⟨by decide,Fd.mk' _ _ Tryz.underlying105 rfl rfl (Sz.mk' (by kernel_rfl) Tryz.underlying4 _ rfl)⟩,⟨by decide,Fd.mk' _ _ Tryz.underlying105 rfl rfl (Sz.mk' (by kernel_rfl) Tryz.underlying30 _ rfl)⟩,trivial⟩ ⟨(Value.agg #[.int .i64 0,.bool false,.slice none 0 0,.bool false,.slice none 0 0]),[.int .i64 0,.bool false,.slice none 0 0,.bool false,.slice none 0 0],by kernel_rfl,rfl,(fun _ _=>⟨DR.raw _ rfl,DR.raw _ rfl,DR.raw _ rfl,DR.raw _ rfl,DR.nil _ _ _ (fun _=>rfl) (Nat.zero_le _),trivial⟩)⟩ ⟨_,Tryz.underlying105,⟨⟨rfl,by kernel_rfl⟩,⟨rfl,by kernel_rfl⟩,⟨rfl,by kernel_rfl⟩,trivial⟩⟩,
 zbb.slc Tryz.underlying22 (by kernel_rfl) ⟨(.slice none 0 0:Value),[.slice none 0 0],by kernel_rfl,rfl,(fun _ _=>⟨DR.raw _ rfl,trivial⟩)⟩,
 zbb.slc Tryz.underlying23 (by kernel_rfl) ⟨(.slice none 0 0:Value),[.slice none 0 0],by kernel_rfl,rfl,(fun _ _=>⟨DR.raw _ rfl,trivial⟩)⟩,
 zbb.st Tryz.underlying32 (by kernel_rfl) ⟨⟨by decide,Fd.mk' _ _ Tryz.underlying32 rfl rfl (Sz.mk' (by kernel_rfl) Tryz.underlying30 _ rfl)⟩,⟨by decide,Fd.mk' _ _ Tryz.underlying32 rfl rfl (Sz.mk' (by kernel_rfl) Tryz.underlying4 _ rfl)⟩,trivial⟩ ⟨(Value.agg #[.slice none 0 0,.bool false,.slice none 0 0,.bool false]),[.slice none 0 0,.bool false,.slice none 0 0,.bool false],by kernel_rfl,rfl,(fun _ _=>⟨DR.raw _ rfl,DR.raw _ rfl,DR.nil _ _ _ (fun _=>rfl) (Nat.zero_le _),DR.raw _ rfl,trivial⟩)⟩ ⟨_,Tryz.underlying32,⟨⟨rfl,by kernel_rfl⟩,⟨rfl,by kernel_rfl⟩,trivial⟩⟩,
 zbb.slc Tryz.underlying33 (by kernel_rfl) ⟨(.slice none 0 0:Value),[.slice none 0 0],by kernel_rfl,rfl,(fun _ _=>⟨DR.raw _ rfl,trivial⟩)⟩,
 zbb.st Tryz.underlying35 (by kernel_rfl) ⟨⟨by decide,Fd.mk' _ _ Tryz.underlying35 rfl rfl (Sz.mk' (by kernel_rfl) Tryz.underlying3 _ rfl)⟩,⟨by decide,Fd.mk' _ _ Tryz.underlying35 rfl rfl (Sz.mk' (by kernel_rfl) Tryz.underlying32 _ rfl)⟩,⟨by decide,Fd.mk' _ _ Tryz.underlying35 rfl rfl (Sz.mk' (by kernel_rfl) Tryz.underlying33 _ rfl)⟩,trivial⟩ ⟨(Value.agg #[.int .i64 0,.slice none 0 0,.bool false,.slice none 0 0,.bool false,.slice none 0 0]),[.int .i64 0,.slice none 0 0,.bool false,.slice none 0 0,.bool false,.slice none 0 0],by kernel_rfl,rfl,(fun _ _=>⟨DR.raw _ rfl,DR.raw _ rfl,DR.raw _ rfl,DR.nil _ _ _ (fun _=>rfl) (Nat.zero_le _),DR.raw _ rfl,DR.raw _ rfl,trivial⟩)⟩ ⟨_,Tryz.underlying35,⟨⟨rfl,by kernel_rfl⟩,⟨rfl,by kernel_rfl⟩,⟨rfl,by kernel_rfl⟩,trivial⟩⟩,
 zbb.slc Tryz.underlying36 (by kernel_rfl) ⟨(.slice none 0 0:Value),[.slice none 0 0],by kernel_rfl,rfl,(fun _ _=>⟨DR.raw _ rfl,trivial⟩)⟩,
 zbb.slc Tryz.underlying37 (by kernel_rfl) ⟨(.slice none 0 0:Value),[.slice none 0 0],by kernel_rfl,rfl,(fun _ _=>⟨DR.raw _ rfl,trivial⟩)⟩,
 zbb.st Tryz.underlying39 (by kernel_rfl) ⟨⟨by decide,Fd.mk' _ _ Tryz.underlying39 rfl rfl (Sz.mk' (by kernel_rfl) Tryz.underlying22 _ rfl)⟩,⟨by decide,Fd.mk' _ _ Tryz.underlying39 rfl rfl (Sz.mk' (by kernel_rfl) Tryz.underlying23 _ rfl)⟩,⟨by decide,Fd.mk' _ _ Tryz.underlying39 rfl rfl (Sz.mk' (by kernel_rfl) Tryz.underlying35 _ rfl)⟩,⟨by decide,Fd.mk' _ _ Tryz.underlying39 rfl rfl (Sz.mk' (by kernel_rfl) Tryz.underlying36 _ rfl)⟩,⟨by decide,Fd.mk' _ _ Tryz.underlying39 rfl rfl (Sz.mk' (by kernel_rfl) Tryz.underlying37 _ rfl)⟩,trivial⟩ ⟨(Value.agg #[.slice none 0 0,.slice none 0 0,.int .i64 0,.slice none 0 0,.bool false,.slice none 0 0,.bool false,.slice none 0 0,.slice none 0 0,.slice none 0 0]),[.slice none 0 0,.slice none 0 0,.int .i64 0,.slice none 0 0,.bool false,.slice none 0 0,.bool false,.slice none 0 0,.slice none 0 0,.slice none 0 0],by kernel_rfl,rfl,(fun _ _=>⟨DR.raw _ rfl,DR.raw _ rfl,DR.raw _ rfl,DR.raw _ rfl,DR.raw _ rfl,DR.nil _ _ _ (fun _=>rfl) (Nat.zero_le _),DR.raw _ rfl,DR.raw _ rfl,DR.raw _ rfl,DR.raw _ rfl,trivial⟩)⟩ ⟨_,Tryz.underlying39,⟨⟨rfl,by kernel_rfl⟩,⟨rfl,by kernel_rfl⟩,⟨rfl,by kernel_rfl⟩,⟨rfl,by kernel_rfl⟩,⟨rfl,by kernel_rfl⟩,trivial⟩⟩,
 zbb.fnc Tryz.underlying159 rfl (by kernel_rfl) ⟨(.nilFunc:Value),[.nilFunc],by kernel_rfl,rfl,(fun _ _=>⟨DR.raw _ rfl,trivial⟩)⟩,
 zbb.slc Tryz.underlying94 (by kernel_rfl) ⟨(.slice none 0 0:Value),[.slice none 0 0],by kernel_rfl,rfl,(fun _ _=>⟨DR.raw _ rfl,trivial⟩)⟩,
 zbb.slc Tryz.underlying44 (by kernel_rfl) ⟨(.slice none 0 0:Value),[.slice none 0 0],by kernel_rfl,rfl,(fun _ _=>⟨DR.raw _ rfl,trivial⟩)⟩,
 zbb.slc Tryz.underlying45 (by kernel_rfl) ⟨(.slice none 0 0:Value),[.slice none 0 0],by kernel_rfl,rfl,(fun _ _=>⟨DR.raw _ rfl,trivial⟩)⟩,
 zbb.st Tryz.underlying47 (by kernel_rfl) ⟨⟨by decide,Fd.mk' _ _ Tryz.underlying47 rfl rfl (Sz.mk' (by kernel_rfl) Tryz.underlying44 _ rfl)⟩,⟨by decide,Fd.mk' _ _ Tryz.underlying47 rfl rfl (Sz.mk' (by kernel_rfl) Tryz.underlying45 _ rfl)⟩,trivial⟩ ⟨(Value.agg #[.slice none 0 0,.slice none 0 0]),[.slice none 0 0,.slice none 0 0],by kernel_rfl,rfl,(fun _ _=>⟨DR.raw _ rfl,DR.raw _ rfl,trivial⟩)⟩ ⟨_,Tryz.underlying47,⟨⟨rfl,by kernel_rfl⟩,⟨rfl,by kernel_rfl⟩,trivial⟩⟩,
 zbb.st Tryz.underlying96 (by kernel_rfl) ⟨⟨by decide,Fd.mk' _ _ Tryz.underlying96 rfl rfl (Sz.mk' (by kernel_rfl) Tryz.underlying3 _ rfl)⟩,⟨by decide,Fd.mk' _ _ Tryz.underlying96 rfl rfl (Sz.mk' (by kernel_rfl) Tryz.underlying3 _ rfl)⟩,⟨by decide,Fd.mk' _ _ Tryz.underlying96 rfl rfl (Sz.mk' (by kernel_rfl) Tryz.underlying3 _ rfl)⟩,⟨by decide,Fd.mk' _ _ Tryz.underlying96 rfl rfl (Sz.mk' (by kernel_rfl) Tryz.underlying35 _ rfl)⟩,⟨by decide,Fd.mk' _ _ Tryz.underlying96 rfl rfl (Sz.mk' (by kernel_rfl) Tryz.underlying94 _ rfl)⟩,trivial⟩ ⟨(Value.agg #[.int .i64 0,.int .i64 0,.int .i64 0,.int .i64 0,.slice none 0 0,.bool false,.slice none 0 0,.bool false,.slice none 0 0,.slice none 0 0]),[.int .i64 0,.int .i64 0,.int .i64 0,.int .i64 0,.slice none 0 0,.bool false,.slice none 0 0,.bool false,.slice none 0 0,.slice none 0 0],by kernel_rfl,rfl,(fun _ _=>⟨DR.raw _ rfl,DR.raw _ rfl,DR.raw _ rfl,DR.raw _ rfl,DR.raw _ rfl,DR.raw _ rfl,DR.nil _ _ _ (fun _=>rfl) (Nat.zero_le _),DR.raw _ rfl,DR.raw _ rfl,DR.raw _ rfl,trivial⟩)⟩ ⟨_,Tryz.underlying96,⟨⟨rfl,by kernel_rfl⟩,⟨rfl,by kernel_rfl⟩,⟨rfl,by kernel_rfl⟩,⟨rfl,by kernel_rfl⟩,⟨rfl,by kernel_rfl⟩,trivial⟩⟩,
 zbb.str Tryz.underlying9 (by kernel_rfl) ⟨(.string ByteArray.empty:Value),[.string ByteArray.empty],by kernel_rfl,rfl,(fun _ _=>⟨DR.raw _ rfl,trivial⟩)⟩,
 zbb.slc Tryz.underlying91 (by kernel_rfl) ⟨(.slice none 0 0:Value),[.slice none 0 0],by kernel_rfl,rfl,(fun _ _=>⟨DR.raw _ rfl,trivial⟩)⟩,
 zbb.st Tryz.underlying93 (by kernel_rfl) ⟨⟨by decide,Fd.mk' _ _ Tryz.underlying93 rfl rfl (Sz.mk' (by kernel_rfl) Tryz.underlying9 _ rfl)⟩,⟨by decide,Fd.mk' _ _ Tryz.underlying93 rfl rfl (Sz.mk' (by kernel_rfl) Tryz.underlying22 _ rfl)⟩,⟨by decide,Fd.mk' _ _ Tryz.underlying93 rfl rfl (Sz.mk' (by kernel_rfl) Tryz.underlying91 _ rfl)⟩,trivial⟩ ⟨(Value.agg #[.string ByteArray.empty,.slice none 0 0,.slice none 0 0]),[.string ByteArray.empty,.slice none 0 0,.slice none 0 0],by kernel_rfl,rfl,(fun _ _=>⟨DR.raw _ rfl,DR.raw _ rfl,DR.raw _ rfl,trivial⟩)⟩ ⟨_,Tryz.underlying93,⟨⟨rfl,by kernel_rfl⟩,⟨rfl,by kernel_rfl⟩,⟨rfl,by kernel_rfl⟩,trivial⟩⟩,
 trivial⟩
theorem kj_0:za6 Tryz.prog 122:=za6.mk' (by kernel_rfl)
theorem kj_2:za6 Tryz.prog 124:=za6.mk' (by kernel_rfl)
theorem kj_7:za6 Tryz.prog 123:=za6.mk' (by kernel_rfl)
theorem zch {s:zan} {x:StD} (h:zbu s x=true):x.locs.length=s.procs.length/\x.vals.length=s.vars.length:=by
 unfold zbu at h;rw [Bool.and_eq_true] at h;exact of_decide_eq_true h.1
theorem SEn1 (s:zan) (m:zaf) :Fn Tryz.prog 122 [(0,.box (zai s))] [vG ([cI m.v,cB m.any,cPs m.t.parts]++zi m.t.k),vp 0 0] (vb (zdq s m)) [(0,.box (zai s))]:=by
 refine Fn.body Tryz.func122 rfl 15 rfl fun w H B a h=>Jq (htb:=zbk) 5 [] [(1,vp 0 0),(2,vp 5 0),(3,vb false)] [(0,.box (zai s)),(5,.box ([cI m.v,cB m.any,cPs m.t.parts]++zi m.t.k))] h fun a w h=>?_
 rcases Bool.eq_false_or_eq_true (decide (m.v>=0)) with hc1 | hc2
 ·have hc1':=dT hc1;refine Jq (htb:=zbk) 6 [(2,.cmp (op:=.geq) (m:=m.v) (n:=0) (b:=true) .i64 hc1),(8,.len (za3 1 zc6 s.vars))] [(3,vb (decide (m.v<(s.vars.length:Int))))] [(0,.box (zai s))] h fun a w h=>qV (rT (.c (cB (decide (m.v<(s.vars.length:Int))))) h rfl ?_);have hz:zdq s m=(decide (m.v<(s.vars.length:Int))):=by unfold zdq;rw [hc1];rfl
  rw [hz];try rfl
 have hc2':=dF hc2;refine Jq (htb:=zbk) 6 [(2,.cmp (op:=.geq) (m:=m.v) (n:=0) (b:=false) .i64 hc2)] [(3,vb false)] [(0,.box (zai s))] h fun a w h=>qV (rT (.c (cB false)) h rfl ?_);have hz:zdq s m=(false):=by unfold zdq;rw [hc2];rfl
 rw [hz];try rfl
theorem SEn2 (s:zan) (m:zaf) :Fn Tryz.prog 124 [(3,.box [.fn (.func 122) [] [.ptr 0 0]]),(0,.box (zai s))] [vG ([cI m.v,cB m.any,cPs m.t.parts]++zi m.t.k),vp 3 0] (vb (!zdq s m)) [(3,.box [.fn (.func 122) [] [.ptr 0 0]]),(0,.box (zai s))]:=by
 refine Fn.body Tryz.func124 rfl 8 rfl fun w H B a h=>Jq (htb:=zbk) 5 [] [(1,vp 3 0),(2,vp 5 0),(3,vb false)] [(3,.box [.fn (.func 122) [] [.ptr 0 0]]),(0,.box (zai s)),(5,.box ([cI m.v,cB m.any,cPs m.t.parts]++zi m.t.k))] h fun a w h=>Jq (htb:=zbk) 6 [(2,.g (Op.callV (d:=6) (t:=4) (cap:=[.ptr 0 0]) (args:=[vG ([cI m.v,cB m.any,cPs m.t.parts]++zi m.t.k)]) (rs:=[(5,vG ([cI m.v,cB m.any,cPs m.t.parts]++zi m.t.k))]) (tys:=#[105]) (SEn1 s m) kj_0 (OVs.cons (OV.tmp 5 _) (OVs.nil))))] [(3,vb (!(zdq s m)))] [(3,.box [.fn (.func 122) [] [.ptr 0 0]]),(0,.box (zai s))] h fun a w h=>qV (rT (.c (cB (!(zdq s m)))) h rfl ?_)
 rfl
theorem SIdxEN (pr:zaf->Bool) (xs:List zaf) (s:zan) (hf:∀ x ∈ xs,Fn Tryz.prog 124 [(3,.box [.fn (.func 122) [] [.ptr 0 0]]),(0,.box (zai s))] [vG ([cI x.v,cB x.any,cPs x.t.parts]++zi x.t.k),vp 3 0] (vb (pr x)) [(3,.box [.fn (.func 122) [] [.ptr 0 0]]),(0,.box (zai s))]) (hl:xs.length<=9223372036854775807):Fn Tryz.prog 83 [(3,.box [.fn (.func 122) [] [.ptr 0 0]]),(0,.box (zai s))] [vS 5 (xs.map zaf.d),.t (.c (.fn (.func 124) [] [.ptr 3 0]))] (vI (zcf pr xs 0)) [(3,.box [.fn (.func 122) [] [.ptr 0 0]]),(0,.box (zai s))]:=by
 refine Fn.body Tryz.func83 rfl 19 rfl fun w H B a h=>Jq (htb:=zbk) 5 [] [(0,vS 5 (xs.map zaf.d)),(1,.t (.c (.fn (.func 124) [] [.ptr 3 0]))),(4,vI 0)] [(3,.box [.fn (.func 122) [] [.ptr 0 0]]),(0,.box (zai s))] h fun a w h=>qW (Je (htb:=zbk) 5 [(1,.len (za3 5 zaf.d xs))] [] [(7,vN xs.length),(8,vI 0)] h fun a w h=>qZ ?_)
 refine zb5 (ι:=(Nat)) (fun j=>j<=xs.length/\zcf pr xs 0=zcf pr (xs.drop j) j)
   (fun j=>[(0,vS 5 (xs.map zaf.d)),(1,.t (.c (.fn (.func 124) [] [.ptr 3 0]))),(7,vN xs.length),(8,vN j)])
   (fun j=>[(3,.box [.fn (.func 122) [] [.ptr 0 0]]),(0,.box (zai s))])
   (fun j=>xs.length - j) 0 ?_ h (by kernel_rfl) (by kernel_rfl) ?_
 ·exact ⟨Nat.zero_le _,rfl⟩
 clear h;rintro j a w hI h;obtain ⟨hI1,hI2⟩:=hI;refine Je (htb:=zbk) 5 [] [] [(9,vb (decide ((j:Int)<(xs.length:Int))))] h fun a w h=>qW (zap ((j:Int)<(xs.length:Int)) h (fun hc1 hc1'=>?_) (fun hc4 hc4'=>?_))
 ·refine qU (za0 (qW (qZ (Je (htb:=zbk) 5 [] [9] [(5,vN j)] h fun a w h=>?_))));obtain ⟨x1,hx1⟩:=gl xs j;refine Je (htb:=zbk) 5 [(3,.g (xD 14 12 ki_2 (zab hx1 (f:=zaf.d)) (OV.tmp 13 _))),(5,.g (Op.callV (d:=16) (t:=11) (cap:=[.ptr 3 0]) (args:=[vG ([cI x1.v,cB x1.any,cPs x1.t.parts]++zi x1.t.k)]) (rs:=[(15,vG ([cI x1.v,cB x1.any,cPs x1.t.parts]++zi x1.t.k))]) (tys:=#[105]) (hf x1 (lM hx1)) kj_2 (OVs.cons (OV.tmp 15 _) (OVs.nil))))] [] [(16,vb (pr x1))] h fun a w h=>cS (pr x1) h (fun hc2=>?_) (fun hc3=>?_)
  ·refine Je (htb:=zbk) 5 [] [5,16] [(4,vN j)] h fun a w h=>qV (za7 (za2 (za2 (za7 (za2 (rT (.c (cI (j:Int))) h rfl ?_))))));have hz:zcf pr xs 0=(j:Int):=by rw [hI2,zca hx1,if_pos hc2]
   rw [hz];try rfl
  refine qU (zac (za0 (Jf (htb:=zbk) 5 [(0,.j1 j)] [5,16] [(8,vI ((j:Int)+1))] h fun a w h=>za0 (zag (x:=j) (y:=j+1) h ?_ ?_))))
  ·exact ⟨by have:=zak hx1;omega,by rw [hI2,zca hx1,if_neg (by rw [hc3];exact Bool.noConfusion)]⟩
  (try simp);omega
 refine wp_exit (zaa (zaa (za5 (za0 (Jp (htb:=zbk) 5 [] [(4,vI (-1))] h fun a w h=>qV (rT (.c (cI (-1))) h rfl ?_))))));have hz:zcf pr xs 0=-1:=by rw [hI2,List.drop_of_length_le (by omega)];rfl
 rw [hz];try rfl
theorem SAnyEN (pr:zaf->Bool) (xs:List zaf) (s:zan) (hf:∀ x ∈ xs,Fn Tryz.prog 124 [(3,.box [.fn (.func 122) [] [.ptr 0 0]]),(0,.box (zai s))] [vG ([cI x.v,cB x.any,cPs x.t.parts]++zi x.t.k),vp 3 0] (vb (pr x)) [(3,.box [.fn (.func 122) [] [.ptr 0 0]]),(0,.box (zai s))]) (hl:xs.length<=9223372036854775807):Fn Tryz.prog 123 [(3,.box [.fn (.func 122) [] [.ptr 0 0]]),(0,.box (zai s))] [vS 5 (xs.map zaf.d),.t (.c (.fn (.func 124) [] [.ptr 3 0]))] (vb (xs.any pr)) [(3,.box [.fn (.func 122) [] [.ptr 0 0]]),(0,.box (zai s))]:=by
 refine Fn.body Tryz.func123 rfl 9 rfl fun w H B a h=>Jq (htb:=zbk) 5 [] [(0,vS 5 (xs.map zaf.d)),(1,.t (.c (.fn (.func 124) [] [.ptr 3 0]))),(4,vb false)] [(3,.box [.fn (.func 122) [] [.ptr 0 0]]),(0,.box (zai s))] h fun a w h=>Jp (htb:=zbk) 5 [(2,.call (SIdxEN pr xs s hf  hl) ki_4)] [(4,vb (decide (zcf pr xs 0>=0)))] h fun a w h=>qV (rT (.c (cB (decide (zcf pr xs 0>=0)))) h rfl ?_)
 rw [<- zf1];try rfl
theorem Senabled (s:zan) (x:StD) (c:zaz) {L M:Nat} (hL:L+M<=10000) (hs:zb1 L s) (hx:zd0 M x) (hc:zgk L c):Fn Tryz.prog 77 [] [vG (zai s),vG [cIs x.locs,cZs x.vals],vG ([cI c.proc,cI c.from_,cI c.to_,cI c.guard.kind,cPs c.guard.r.t.parts]++zi c.guard.r.t.k++[cB c.guard.r.eq,cFs c.guard.kids,.d (.sl 5 (c.moves.map zaf.d))])] (vb (zaj s x c)) []:=by
 have lx1:=hx.locs;have lx2:=hx.vals;have ls1:=hs.vars;have ls2:=hs.procs;refine Fn.body Tryz.func77 rfl 67 rfl fun w H B a h=>?_
 refine Jq (htb:=zbk) 0 [] [(3,vp 0 0),(4,vp 1 0),(5,vp 2 0),(6,vb false)] [(0,.box (zai s)),(1,.box [cIs x.locs,cZs x.vals]),(2,.box ([cI c.proc,cI c.from_,cI c.to_,cI c.guard.kind,cPs c.guard.r.t.parts]++zi c.guard.r.t.k++[cB c.guard.r.eq,cFs c.guard.kids,.d (.sl 5 (c.moves.map zaf.d))]))] h fun a w h=>?_;refine qW ?_
 rcases Bool.eq_false_or_eq_true (zbu s x) with hc1 | hc14
 ·rcases Bool.eq_false_or_eq_true (decide (c.proc<0)) with hc2 | hc3
  ·have hc2':=dT hc2;refine Jp (htb:=zbk) 3 [(2,.call (Fn.cast (zhv s x hL hs hx) (congrArg vb hc1)) kg_9),(7,.cmp (op:=.lss) (m:=c.proc) (n:=0) (b:=true) .i64 hc2)] [(3,vp 0 0),(4,vp 1 0),(5,vp 2 0),(6,vb false),(53,vb true)] h fun a w h=>?_;refine cS true h (fun _=>?_) nofun
   refine Jp (htb:=zbk) 3 [] [(3,vp 0 0),(4,vp 1 0),(5,vp 2 0),(6,vb false)] h fun a w h=>?_;refine qV (za2 ?_);refine rT (.c (cB false)) h rfl ?_;have hz:zaj s x c=(false):=by unfold zaj;rw [hc1,Bool.true_and];rw [decide_eq_false (p:=0<=c.proc/\c.proc<(s.procs.length:Int)) (by have:=dT hc2;omega)];rfl
   rw [hz];try rfl
  have hc3':=dF hc3
  rcases Bool.eq_false_or_eq_true (decide (c.proc>=(s.procs.length:Int))) with hc4 | hc5
  ·have hc4':=dT hc4;refine Jp (htb:=zbk) 3 [(2,.call (Fn.cast (zhv s x hL hs hx) (congrArg vb hc1)) kg_9),(7,.cmp (op:=.lss) (m:=c.proc) (n:=0) (b:=false) .i64 hc3),(14,.len (za3 3 zav.d s.procs)),(15,.cmp (op:=.geq) (m:=c.proc) (n:=(s.procs.length:Int)) (b:=true) .i64 hc4)] [(3,vp 0 0),(4,vp 1 0),(5,vp 2 0),(6,vb false),(53,vb true)] h fun a w h=>?_;refine cS true h (fun _=>?_) nofun
   refine Jp (htb:=zbk) 3 [] [(3,vp 0 0),(4,vp 1 0),(5,vp 2 0),(6,vb false)] h fun a w h=>?_;refine qV (za2 ?_);refine rT (.c (cB false)) h rfl ?_;have hz:zaj s x c=(false):=by unfold zaj;rw [hc1,Bool.true_and];rw [decide_eq_false (p:=0<=c.proc/\c.proc<(s.procs.length:Int)) (by have:=dT hc4;omega)];rfl
   rw [hz];try rfl
  have hc5':=dF hc5;have hfl:=zch hc1;obtain ⟨k,hkk⟩:∃ k_:Nat,c.proc=(k_:Int):=⟨_,(Int.toNat_of_nonneg (by have:=dF hc3;omega)).symm⟩;replace h:=h.conv (f':=F.of [(3,vp 0 0),(4,vp 1 0),(5,vp 2 0),(6,vb false)] [(0,.box (zai s)),(1,.box [cIs x.locs,cZs x.vals]),(2,.box ([cI (k:Int),cI c.from_,cI c.to_,cI c.guard.kind,cPs c.guard.r.t.parts]++zi c.guard.r.t.k++[cB c.guard.r.eq,cFs c.guard.kids,.d (.sl 5 (c.moves.map zaf.d))]))]) (by rw [hkk]);obtain ⟨x7,hx7⟩:=gl x.locs k
  rcases Bool.eq_false_or_eq_true (x7 != c.from_) with hc6 | hc7
  ·have hc6':=hc6;(try simp at hc6');refine Jq (htb:=zbk) 3 [(2,.call (Fn.cast (zhv s x hL hs hx) (congrArg vb hc1)) kg_9),(7,.cmp (op:=.lss) (m:=(k:Int)) (n:=0) (b:=false) .i64 (show (decide ((k:Int)<0))=false from by rw [<- hkk];exact hc3)),(14,.len (za3 3 zav.d s.procs)),(15,.cmp (op:=.geq) (m:=(k:Int)) (n:=(s.procs.length:Int)) (b:=false) .i64 (show (decide ((k:Int)>=(s.procs.length:Int)))=false from by rw [<- hkk];exact hc5)),(22,.g (xD 30 27 zdo (zab hx7 (f:=zad)) (OV.tmp 29 _))),(26,.cmp (op:=.neq) (m:=x7) (n:=c.from_) (b:=true) .i64 hc6)] [(3,vp 0 0),(4,vp 1 0),(5,vp 2 0),(6,vb false),(53,vb true)] [(0,.box (zai s)),(1,.box [cIs x.locs,cZs x.vals]),(2,.box ([cI (k:Int),cI c.from_,cI c.to_,cI c.guard.kind,cPs c.guard.r.t.parts]++zi c.guard.r.t.k++[cB c.guard.r.eq,cFs c.guard.kids,.d (.sl 5 (c.moves.map zaf.d))]))] h fun a w h=>?_;refine cS true h (fun _=>?_) nofun
   refine Jp (htb:=zbk) 3 [] [(3,vp 0 0),(4,vp 1 0),(5,vp 2 0),(6,vb false)] h fun a w h=>?_;refine qV (za2 ?_);refine rT (.c (cB false)) h rfl ?_;have hz:zaj s x c=(false):=by unfold zaj;rw [hc1,Bool.true_and];rw [decide_eq_true (p:=0<=c.proc/\c.proc<(s.procs.length:Int)) (by have:=dF hc3;have:=dF hc5;omega),show c.proc.toNat=k by omega,hx7,Option.getD_some,Bool.true_and];rw [show (x7 == c.from_)=false by have:=hc6;simpa using this];rfl
   rw [hz];try rfl
  have hc7':=hc7;(try simp at hc7')
  rcases Bool.eq_false_or_eq_true (decide (c.to_<0)) with hc8 | hc9
  ·have hc8':=dT hc8;refine Jq (htb:=zbk) 3 [(2,.call (Fn.cast (zhv s x hL hs hx) (congrArg vb hc1)) kg_9),(7,.cmp (op:=.lss) (m:=(k:Int)) (n:=0) (b:=false) .i64 (show (decide ((k:Int)<0))=false from by rw [<- hkk];exact hc3)),(14,.len (za3 3 zav.d s.procs)),(15,.cmp (op:=.geq) (m:=(k:Int)) (n:=(s.procs.length:Int)) (b:=false) .i64 (show (decide ((k:Int)>=(s.procs.length:Int)))=false from by rw [<- hkk];exact hc5)),(22,.g (xD 30 27 zdo (zab hx7 (f:=zad)) (OV.tmp 29 _))),(26,.cmp (op:=.neq) (m:=x7) (n:=c.from_) (b:=false) .i64 hc7),(31,.cmp (op:=.lss) (m:=c.to_) (n:=0) (b:=true) .i64 hc8)] [(3,vp 0 0),(4,vp 1 0),(5,vp 2 0),(6,vb false),(53,vb true)] [(0,.box (zai s)),(1,.box [cIs x.locs,cZs x.vals]),(2,.box ([cI (k:Int),cI c.from_,cI c.to_,cI c.guard.kind,cPs c.guard.r.t.parts]++zi c.guard.r.t.k++[cB c.guard.r.eq,cFs c.guard.kids,.d (.sl 5 (c.moves.map zaf.d))]))] h fun a w h=>?_;refine cS true h (fun _=>?_) nofun
   refine Jp (htb:=zbk) 3 [] [(3,vp 0 0),(4,vp 1 0),(5,vp 2 0),(6,vb false)] h fun a w h=>?_;refine qV (za2 ?_);refine rT (.c (cB false)) h rfl ?_;have hz:zaj s x c=(false):=by unfold zaj;rw [hc1,Bool.true_and];rw [decide_eq_true (p:=0<=c.proc/\c.proc<(s.procs.length:Int)) (by have:=dF hc3;have:=dF hc5;omega),show c.proc.toNat=k by omega,hx7,Option.getD_some,Bool.true_and];rw [show (x7 == c.from_)=true by have:=hc7;simpa using this,Bool.true_and];rw [decide_eq_false (by have:=dT hc8;omega)];rfl
   rw [hz];try rfl
  have hc9':=dF hc9;obtain ⟨x12,hx12⟩:=gl s.procs k;refine Jq (htb:=zbk) 3 [(2,.call (Fn.cast (zhv s x hL hs hx) (congrArg vb hc1)) kg_9),(7,.cmp (op:=.lss) (m:=(k:Int)) (n:=0) (b:=false) .i64 (show (decide ((k:Int)<0))=false from by rw [<- hkk];exact hc3)),(14,.len (za3 3 zav.d s.procs)),(15,.cmp (op:=.geq) (m:=(k:Int)) (n:=(s.procs.length:Int)) (b:=false) .i64 (show (decide ((k:Int)>=(s.procs.length:Int)))=false from by rw [<- hkk];exact hc5)),(22,.g (xD 30 27 zdo (zab hx7 (f:=zad)) (OV.tmp 29 _))),(26,.cmp (op:=.neq) (m:=x7) (n:=c.from_) (b:=false) .i64 hc7),(31,.cmp (op:=.lss) (m:=c.to_) (n:=0) (b:=false) .i64 hc9),(40,.g (xD 48 45 kf_5 (zab hx12 (f:=zav.d)) (OV.tmp 47 _))),(43,.len (za3 1 zc6 x12.locs))] [(3,vp 0 0),(4,vp 1 0),(5,vp 2 0),(6,vb false),(53,vb (decide (c.to_>=(x12.locs.length:Int))))] [(0,.box (zai s)),(1,.box [cIs x.locs,cZs x.vals]),(2,.box ([cI (k:Int),cI c.from_,cI c.to_,cI c.guard.kind,cPs c.guard.r.t.parts]++zi c.guard.r.t.k++[cB c.guard.r.eq,cFs c.guard.kids,.d (.sl 5 (c.moves.map zaf.d))]))] h fun a w h=>?_;refine zap (c.to_>=(x12.locs.length:Int)) h (fun hc10 hc10'=>?_) (fun hc11 hc11'=>?_)
  ·refine Jp (htb:=zbk) 3 [] [(3,vp 0 0),(4,vp 1 0),(5,vp 2 0),(6,vb false)] h fun a w h=>?_;refine qV (za2 ?_);refine rT (.c (cB false)) h rfl ?_;have hz:zaj s x c=(false):=by unfold zaj;rw [hc1,Bool.true_and];rw [decide_eq_true (p:=0<=c.proc/\c.proc<(s.procs.length:Int)) (by have:=dF hc3;have:=dF hc5;omega),show c.proc.toNat=k by omega,hx7,Option.getD_some,Bool.true_and];rw [show (x7 == c.from_)=true by have:=hc7;simpa using this,Bool.true_and];rw [show zdj s k=x12.locs.length by unfold zdj;rw [hx12];rfl];rw [decide_eq_false (by have:=dT hc10;omega)];rfl
   rw [hz];try rfl
  refine qU (za0 (Jq (htb:=zbk) 3 [(0,.g (Op.makeFs (d:=54) (fn:=.func 122) [(3,0,0)]))] [(4,vp 1 0),(5,vp 2 0),(6,vb false),(7,vp 3 0)] [(0,.box (zai s)),(1,.box [cIs x.locs,cZs x.vals]),(2,.box ([cI (k:Int),cI c.from_,cI c.to_,cI c.guard.kind,cPs c.guard.r.t.parts]++zi c.guard.r.t.k++[cB c.guard.r.eq,cFs c.guard.kids,.d (.sl 5 (c.moves.map zaf.d))])),(3,.box [.fn (.func 122) [] [.ptr 0 0]])] h fun a w h=>?_))
  rcases Bool.eq_false_or_eq_true (c.moves.any fun m=>!zdq s m) with hc12 | hc13
  ·refine Jq (htb:=zbk) 4 [(2,.g (Op.makeFs (d:=57) (fn:=.func 124) [(7,3,0)])),(3,.call (Fn.cast (SAnyEN (fun m=>!zdq s m) c.moves s (fun m _=>SEn2 s m) (by have:=hc.len;omega)) (congrArg vb hc12)) kj_7)] [(6,vb false)] [] h fun a w h=>?_;refine qV ?_;refine rT (.c (cB false)) h rfl ?_;have hz:zaj s x c=(false):=by unfold zaj;rw [hc1,Bool.true_and];rw [decide_eq_true (p:=0<=c.proc/\c.proc<(s.procs.length:Int)) (by have:=dF hc3;have:=dF hc5;omega),show c.proc.toNat=k by omega,hx7,Option.getD_some,Bool.true_and];rw [show (x7 == c.from_)=true by have:=hc7;simpa using this,Bool.true_and];rw [show zdj s k=x12.locs.length by unfold zdj;rw [hx12];rfl];rw [decide_eq_true (p:=0<=c.to_/\c.to_<(x12.locs.length:Int)) (by have:=dF hc9;have:=dF hc11;omega),Bool.true_and,hc12];rfl
   rw [hz];try rfl
  refine Jq (htb:=zbk) 4 [(2,.g (Op.makeFs (d:=57) (fn:=.func 124) [(7,3,0)])),(3,.call (Fn.cast (SAnyEN (fun m=>!zdq s m) c.moves s (fun m _=>SEn2 s m) (by have:=hc.len;omega)) (congrArg vb hc13)) kj_7),(10,.call (SHolds x.vals (L:=L) (M:=M) (by omega) hx.vok c.guard hc.guard.1 hc.guard.2) ke_4)] [(6,vb (za8.holds x.vals c.guard))] [] h fun a w h=>?_;refine qV ?_;refine rT (.c (cB (za8.holds x.vals c.guard))) h rfl ?_;have hz:zaj s x c=(za8.holds x.vals c.guard):=by unfold zaj;rw [hc1,Bool.true_and];rw [decide_eq_true (p:=0<=c.proc/\c.proc<(s.procs.length:Int)) (by have:=dF hc3;have:=dF hc5;omega),show c.proc.toNat=k by omega,hx7,Option.getD_some,Bool.true_and];rw [show (x7 == c.from_)=true by have:=hc7;simpa using this,Bool.true_and];rw [show zdj s k=x12.locs.length by unfold zdj;rw [hx12];rfl];rw [decide_eq_true (p:=0<=c.to_/\c.to_<(x12.locs.length:Int)) (by have:=dF hc9;have:=dF hc11;omega),Bool.true_and,hc13];rfl
  rw [hz];try rfl
 refine Jp (htb:=zbk) 4 [(2,.call (Fn.cast (zhv s x hL hs hx) (congrArg vb hc14)) kg_9)] [(3,vp 0 0),(4,vp 1 0),(5,vp 2 0),(6,vb false),(53,vb true)] h fun a w h=>?_;refine cS true h (fun _=>?_) nofun
 refine Jp (htb:=zbk) 4 [] [(3,vp 0 0),(4,vp 1 0),(5,vp 2 0),(6,vb false)] h fun a w h=>?_;refine qV (za2 ?_);refine rT (.c (cB false)) h rfl ?_;have hz:zaj s x c=false:=by unfold zaj;rw [hc14];rfl
 rw [hz];try rfl
theorem SCloneI1 (xs:List Int) (hn:0<xs.length) (hl:xs.length<=1000000):Fn Tryz.prog 129 [] [(vIs xs)] (vO 0 xs.length) [(0,.row 3 1 (xs.map zad))]:=by
 refine Fn.body Tryz.func129 rfl 8 rfl fun w H B a h=>Jq (htb:=zbk) 1 [] [(0,(vIs xs)),(2,vW za4)] [] h fun a w h=>qW (Jd (htb:=zbk) 1 [(1,.g (Op.eqNilD (d:=4) (t:=3) (es:=1) (xt:=44) (yt:=44) (rows:=xs.map zad) zdo.hu ((by rw [List.length_map];exact hn)) (OV.const za4 rfl)))] [] [(4,vb false)] [] h fun a w h=>zbn false h rfl nofun (fun _=>qU (za0 (Jq (htb:=zbk) 1 [(0,.g (Op.buildE (d:=5) (n:=1) tb_0)),(2,.g (Op.appOD (d:=7) (t:=5) (u:=6) (n:=1) (n':=2) (len:=0) (len':=xs.length) (rows:=[].map zad) (rows2:=xs.map zad) (rows':=xs.map zad) tb_2 (by first | exact (List.length_map _).symm | simp) (by first | (rw [List.length_append,List.length_map];done) | simp) (by simp) (by simp [zad]) (by first | omega | (simp at *;done) | (simp at *;omega))))] [(2,vO 2 xs.length)] [(2,.row 3 1 (xs.map zad))] h fun a w h=>qV ?_))))
 replace h:=zd9 2 0 [(2,vO 0 xs.length)] [(0,.row 3 1 (xs.map zad))] h;refine rT (.c (.own 0 xs.length)) h rfl ?_;rfl
theorem SCloneI2 :Fn Tryz.prog 129 [] [vW za4] (vO 0 0) [(0,.row 3 1 ([].map zad))]:=by
 refine Fn.body Tryz.func129 rfl 8 rfl fun w H B a h=>Jq (htb:=zbk) 1 [] [(0,vW za4),(2,vW za4)] [] h fun a w h=>qW (Jd (htb:=zbk) 1 [(1,.g (Op.eqNilR (d:=4) (xt:=44) (yt:=44) (ao:=none) (n:=0) (c:=0) zdo.hu (OV.tmp 3 _) (OV.const za4 rfl)))] [] [(4,vb true)] [] h fun a w h=>cS true h (fun _=>?_) nofun)
 refine Jd (htb:=zbk) 1 [] [4] [] [] h fun a w h=>qV (za2 ?_);replace h:=ze5 2 0 1 1 3 (vW za4) [(0,vW za4),(2,vO 1 0)] [(1,.row 3 1 ([].map zad))] h (by kernel_rfl) rfl rfl;replace h:=zd9 1 0 [(0,vW za4),(2,vO 0 0)] [(0,.row 3 1 ([].map zad))] h;refine rT (.c (.own 0 0)) h rfl ?_;rfl
theorem SCloneI3 (ao:Addr) (c:Nat) (hc:c<=maxLen):Fn Tryz.prog 129 [] [vW (.slice (some ao) 0 c)] (vO 0 0) [(0,.row 3 1 ([].map zad))]:=by
 refine Fn.body Tryz.func129 rfl 8 rfl fun w H B a h=>Jq (htb:=zbk) 1 [] [(0,vW (.slice (some ao) 0 c)),(2,vW za4)] [] h fun a w h=>qW (Jd (htb:=zbk) 1 [(1,.g (Op.eqNilR (d:=4) (xt:=44) (yt:=44) (ao:=some ao) (n:=0) (c:=c) zdo.hu (OV.tmp 3 _) (OV.const za4 rfl)))] [] [(4,vb false)] [] h fun a w h=>zbn false h rfl nofun (fun _=>qU (za0 ?_)))
 replace h:=nilDSr 0 0 1 (vW (.slice (some ao) 0 c)) (some ao) c (fun e=>by cases e) hc [(0,(vIs [])),(2,vW za4),(4,vb false)] [] h rfl rfl;refine Jq (htb:=zbk) 1 [(0,.g (Op.buildE (d:=5) (n:=1) tb_0)),(2,.g (Op.appOD (d:=7) (t:=5) (u:=6) (n:=1) (n':=2) (len:=0) (len':=0) (rows:=[].map zad) (rows2:=[].map zad) (rows':=[].map zad) tb_2 (by first | exact (List.length_map _).symm | simp) (by first | (rw [List.length_append,List.length_map];done) | simp) (by simp) (by simp [zad]) (by first | omega | (simp at *;done) | (simp at *;omega))))] [(2,vO 2 0)] [(2,.row 3 1 ([].map zad))] h fun a w h=>qV ?_;replace h:=zd9 2 0 [(2,vO 0 0)] [(0,.row 3 1 ([].map zad))] h;refine rT (.c (.own 0 0)) h rfl ?_;rfl
theorem SCloneI (xs:List Int) (hl:xs.length<=1000000):Fn Tryz.prog 129 [] [(vIs xs)] (vO 0 xs.length) [(0,.row 3 1 (xs.map zad))]:=by
 cases xs with
 | nil =>
  refine Fn.rawE fun ao c h1 h2=>?_
  cases ao with
  | none=>obtain rfl:=h1 rfl;exact SCloneI2
  | some ao=>exact SCloneI3 ao c h2
 | cons x xs=>exact SCloneI1 (x :: xs) (by simp) hl
theorem kk_0:za6 Tryz.prog 129:=za6.mk' (by kernel_rfl)
theorem kk_3:ElZ Tryz.prog 45 28 2:=ElZ.mk' Tryz.underlying45 _ _ rfl rfl (by kernel_rfl) (by kernel_rfl) (by kernel_rfl) (by decide)
theorem kk_4:ElT Tryz.prog 45 28 2 32:=ElT.mk' Tryz.underlying45 _ _ rfl rfl (by kernel_rfl) (by kernel_rfl) (by kernel_rfl) (by decide) (by decide)
theorem kk_5:Sz Tryz.prog 47 2 true:=Sz.mk' (by kernel_rfl) Tryz.underlying47 _ rfl
theorem kk_6:za6 Tryz.prog 76:=za6.mk' (by kernel_rfl)
theorem kk_7:za6 Tryz.prog 77:=za6.mk' (by kernel_rfl)
theorem kk_8:za6 Tryz.prog 78:=za6.mk' (by kernel_rfl)
theorem kk_12:za6 Tryz.prog 39:=za6.mk' (by kernel_rfl)
def clZ (z:ZI):ZI:=ZI.of z.val
def cloneS (x:StD):StD:=⟨x.locs,x.vals.map clZ⟩
def st0:StD:=⟨[],[]⟩
def zi5 (s:zan) (x:StD) (c:zaz) (v:Nat):Bool:=if zb7 c v=true then !((zat s v).is_ && decide (zdl (zat s v).lo.val (zat s v).hi.val>0)) else zb0 (zat s v) (zbx x c v)
def canC (s:zan) (x:StD) (c:zaz):Bool:=zaj s x c && zer s.vars.length (zi5 s x c)
def can (s:zan) (x:StD) (i:Int):Bool:=match zdy s i with | none=>false | some c=>canC s x c
def zee (s:zan) (x:StD):Bool:=zer s.acts.length (fun i=>!can s x (i:Int)) && zbu s x
def zao (c:zaz):Nat->Nat
  | 0=>0
  | v+1=>zao c v+if zb7 c v=true then 1 else 0
def zc4 (x:StD) (c:zaz) (picks:List ZI) (v:Nat):ZI:=if zb7 c v=true then (match picks[zao c v]? with | some p=>ZI.of p.val | none=>zdz) else zbx x c v
def zcn (s:zan) (x:StD) (c:zaz) (picks:List ZI):StD:=⟨x.locs.set c.proc.toNat c.to_,(List.range s.vars.length).map (zc4 x c picks)⟩
def goC (s:zan) (x:StD) (c:zaz) (picks:List ZI):StD × Bool:=if zaj s x c=true/\zbu s (zcn s x c picks)=true then (zcn s x c picks,true) else (st0,false)
def goS (s:zan) (x:StD) (i:Int) (picks:List ZI):StD × Bool:=if i=-1/\zee s x=true then (cloneS x,true) else match zdy s i with | none=>(st0,false) | some c=>goC s x c picks
theorem zcd {s:zan} {x:StD} {c:zaz} (h:zaj s x c=true):zbu s x=true:=by unfold zaj at h;simp only [Bool.and_eq_true] at h;exact h.1.1
theorem zdg {s:zan} {x:StD} {c:zaz} (h:zaj s x c=true):0<=c.proc/\c.proc<(s.procs.length:Int):=by unfold zaj at h;simp only [Bool.and_eq_true,decide_eq_true_eq] at h;exact h.1.2.1.1
theorem zem {α:Type} {f:Nat->α} {cl:List α} {j:Nat} {y:α} (hj:j<cl.length) (hy:y=f j):((List.range j).map f++cl.drop j).set j y=(List.range (j+1)).map f++cl.drop (j+1):=by
 subst hy
 have hl:((List.range j).map f).length=j:=by simp
 rw [List.set_append_right _ _ (by omega),hl,Nat.sub_self,List.drop_eq_getElem_cons hj,List.set_cons_zero,List.range_succ,List.map_append,List.append_assoc];rfl
theorem range_end {α:Type} {f:Nat->α} {cl:List α} {n:Nat} (hn:cl.length=n):(List.range n).map f++cl.drop n=(List.range n).map f:=by rw [List.drop_of_length_le (by omega),List.append_nil]
theorem range_len {α:Type} {f:Nat->α} {cl:List α} {j:Nat} (hj:j<=cl.length):((List.range j).map f++cl.drop j).length=cl.length:=by rw [List.length_append,List.length_map,List.length_range,List.length_drop];omega
theorem map_snoc {α β:Type} {f:α->β} {xs:List α} {j:Nat} {x:α} (h:xs[j]?=some x):(xs.take j).map f++[f x]=(xs.take (j+1)).map f:=by rw [List.take_add_one,h,List.map_append];rfl
theorem Sclone (x:StD) {M:Nat} (hM:M<=40000) (hx:zd0 M x):Fn Tryz.prog 86 [] [vG [cIs x.locs,cZs x.vals]] (vG [.own 0 x.locs.length,.own 1 (x.vals.map clZ).length]) [(0,.row 3 1 (x.locs.map zad)),(1,.row 28 2 ((x.vals.map clZ).map ziD))]:=by
 have lx1:=hx.locs;have lx2:=hx.vals;refine Fn.body Tryz.func86 rfl 29 rfl fun w H B a h=>Jq 5 [] [(1,vp 5 0),(2,vp 6 0)] [(5,.box [cIs x.locs,cZs x.vals]),(6,.box [.d (.raw za4),.d (.raw za4)])] h fun a w h=>Jd 7 [(2,.call (SCloneI x.locs (by omega)) kk_0)] [] [(3,vp 7 0)] [(5,.box [cIs x.locs,cZs x.vals]),(6,.box [.d (.raw za4),.d (.raw za4)]),(0,.row 3 1 (x.locs.map zad)),(7,.box [.own 0 x.locs.length,.d (.raw za4)])] h fun a w h=>qW ?_
 replace h:=nilOLs 7 1 8 2 28 [.own 0 x.locs.length,.d (.raw za4)] [(1,vp 5 0),(2,vp 6 0),(3,vp 7 0)] [(5,.box [cIs x.locs,cZs x.vals]),(6,.box [.d (.raw za4),.d (.raw za4)]),(0,.row 3 1 (x.locs.map zad)),(7,.box [.own 0 x.locs.length,.own 8 0]),(8,.row 28 2 ([].map ziD))] h (by kernel_rfl) rfl rfl;refine Jd 9 [(2,.len (za3 2 ziD x.vals))] [1] [(11,(vZs x.vals)),(12,vN x.vals.length),(13,vI 0)] [(6,.box [.d (.raw za4),.d (.raw za4)]),(0,.row 3 1 (x.locs.map zad)),(7,.box [.own 0 x.locs.length,.own 8 0]),(8,.row 28 2 ([].map ziD))] h fun a w h=>qZ ?_
 refine zb5 (ι:=(Nat)) (fun j=>j<=x.vals.length)
   (fun j=>[(2,vp 6 0),(3,vp 7 0),(11,(vZs x.vals)),(12,vN x.vals.length),(13,vN j)])
   (fun j=>[(6,.box [.d (.raw za4),.d (.raw za4)]),(0,.row 3 1 (x.locs.map zad)),(7,.box [.own 0 x.locs.length,.own 8 ((x.vals.take j).map clZ).length]),(8,.row 28 2 (((x.vals.take j).map clZ).map ziD))])
   (fun j=>x.vals.length - j) 0 ?_ h (by kernel_rfl) (by kernel_rfl) ?_
 ·exact Nat.zero_le _
 clear h;rintro j a w hI h;refine Je 9 [] [] [(14,vb (decide ((j:Int)<(x.vals.length:Int))))] h fun a w h=>qW (zap ((j:Int)<(x.vals.length:Int)) h (fun hc1 hc1'=>?_) (fun hc2 hc2'=>?_))
 ·refine qU (za0 (qW (qZ ?_)));obtain ⟨x2,hx2⟩:=gl x.vals j;have gx2:=hx.val x2 (lM hx2);have lgx2:=gx2.2;refine Jd 9 [(0,.g (xD 15 11 zh9 (zab hx2 (f:=ziD)) (OV.tmp 13 _)))] [14] [(5,vp 9 0)] [(6,.box [.d (.raw za4),.d (.raw za4)]),(0,.row 3 1 (x.locs.map zad)),(7,.box [.own 0 x.locs.length,.own 8 ((x.vals.take j).map clZ).length]),(8,.row 28 2 (((x.vals.take j).map clZ).map ziD)),(9,.box (zi x2))] h fun a w h=>?_;obtain ⟨r3,er3,vr3,or3,lr3⟩:=mkZ (v:=x2.val) (m:=M) (Nat.le_trans (zgy gx2.1) gx2.2);refine Jm 10 [(6,.call (Fn.cast ((show Fn _ _ _ _ (vz (ZI.of x2.val)) _ from zi7 x2.neg x2.abs gx2.1 (by omega))) (congrArg vz er3.symm)) ia_3),(7,.g (bD 24 ([r3].map ziD) [(23,vz r3)] kk_3 (.cons (i:=0) (OV.tmp 23 _) (.nil)) (by kernel_rfl) (by simp [ziD]))),(8,.g (aD 25 18 24 8 10 ((x.vals.take j).map clZ) [r3] ziD kk_4 (by simp [ziD])))] [5] [] [(6,.box [.d (.raw za4),.d (.raw za4)]),(0,.row 3 1 (x.locs.map zad)),(7,.box ([.own 0 x.locs.length,.own 10 (((x.vals.take j).map clZ)++[r3]).length])),(10,.row 28 2 ((((x.vals.take j).map clZ)++[r3]).map ziD))] h fun a w h=>zac (za0 (Jf 11 [(0,.j1 j)] [] [(13,vI ((j:Int)+1))] h fun a w h=>za0 ?_));rw [show ((((x.vals.take j).map clZ)++[r3]):List ZI)=((x.vals.take (j+1)).map clZ) from (by rw [<- map_snoc hx2];congr 1;simp [clZ, *])] at h;replace h:=zd9 10 8 [(2,vp 6 0),(3,vp 7 0),(11,(vZs x.vals)),(12,vN x.vals.length),(13,vI ((j:Int)+1))] [(6,.box [.d (.raw za4),.d (.raw za4)]),(0,.row 3 1 (x.locs.map zad)),(7,.box [.own 0 x.locs.length,.own 8 ((x.vals.take (j+1)).map clZ).length]),(8,.row 28 2 (((x.vals.take (j+1)).map clZ).map ziD))] h;refine zag (x:=j) (y:=j+1) h ?_ ?_
  ·have:=zak hx2;show j+1<=x.vals.length;omega
  show x.vals.length - (j+1)<x.vals.length - j;have:=zak hx2;omega
 refine wp_exit (zaa (zaa (za5 (za0 (Jq 11 [] [(2,vp 6 0)] [(6,.box [.own 0 x.locs.length,.own 8 ((x.vals.take j).map clZ).length]),(0,.row 3 1 (x.locs.map zad)),(8,.row 28 2 (((x.vals.take j).map clZ).map ziD))] h fun a w h=>qV ?_)))));rw [show (((x.vals.take j).map clZ):List ZI)=(x.vals.map clZ) from (by rw [List.take_of_length_le (by omega)])] at h;replace h:=zd9 8 1 [(2,vp 6 0)] [(6,.box [.own 0 x.locs.length,.own 1 (x.vals.map clZ).length]),(0,.row 3 1 (x.locs.map zad)),(1,.row 28 2 ((x.vals.map clZ).map ziD))] h;refine rA 6 [.own 0 x.locs.length,.own 1 (x.vals.map clZ).length] h kk_5 rfl ?_;rfl
theorem SCanN (s:zan) (x:StD) (i:Int) {L M:Nat} (_hL:L+M<=4000) (_hs:zb1 L s) (_hx:zd0 M x) (hi:zdy s i=none):Fn Tryz.prog 39 [] [vG (zai s),vG [cIs x.locs,cZs x.vals],vI i] (vb (can s x i)) []:=by
 refine Fn.body Tryz.func39 rfl 67 rfl fun w H B a h=>Jq 0 [] [(2,vI i),(3,vp 0 0),(4,vp 1 0),(6,vb false)] [(0,.box (zai s)),(1,.box [cIs x.locs,cZs x.vals])] h fun a w h=>Jd 2 [(2,.call (SactN s i hi) kk_6)] [2] [(7,vp 2 0),(8,vb false)] [(0,.box (zai s)),(1,.box [cIs x.locs,cZs x.vals]),(2,.box ([cI zck.proc,cI zck.from_,cI zck.to_,cI zck.guard.kind,cPs zck.guard.r.t.parts]++zi zck.guard.r.t.k++[cB zck.guard.r.eq,cFs zck.guard.kids,.d (.sl 5 (zck.moves.map zaf.d))]))] h fun a w h=>qW (Je 3 [] [8] [(27,vb true)] h fun a w h=>cS true h (fun _=>?_) nofun)
 refine Je 3 [] [27] [] h fun a w h=>qV (za2 (rT (.c (cB false)) h rfl ?_));unfold can;rw [hi];try rfl
theorem SCanS (s:zan) (x:StD) (i:Int) (c:zaz) {L M:Nat} (hL:L+M<=4000) (hs:zb1 L s) (hx:zd0 M x) (hi:zdy s i=some c):Fn Tryz.prog 39 [] [.t (.agg (zai s)),.t (.agg [.d (.sl 1 (x.locs.map zad)),.d (.sl 2 (x.vals.map ziD))]),vI i] (vb (can s x i)) []:=by
 have lx1:=hx.locs;have lx2:=hx.vals;have ls1:=hs.vars;have ls2:=hs.procs;have hc:zgk L c:=act_ok hs hi;refine Fn.body Tryz.func39 rfl 67 rfl fun w H B a h=>Jq 0 [] [(2,vI i),(3,vp 0 0),(4,vp 1 0),(6,vb false)] [(0,.box (zai s)),(1,.box [.d (.sl 1 (x.locs.map zad)),.d (.sl 2 (x.vals.map ziD))])] h fun a w h=>Jd 2 [(2,.call (SactS s i c hi) kk_6)] [2] [(7,vp 2 0),(8,vb true)] [(0,.box (zai s)),(1,.box [.d (.sl 1 (x.locs.map zad)),.d (.sl 2 (x.vals.map ziD))]),(2,.box ([.d (.raw (.int .i64 c.proc)),.d (.raw (.int .i64 c.from_)),.d (.raw (.int .i64 c.to_)),.d (.raw (.int .i64 c.guard.kind)),.d (.sl 3 (c.guard.r.t.parts.map zbr.d))]++zi c.guard.r.t.k++[.d (.raw (.bool c.guard.r.eq)),.d (.sl 6 (c.guard.kids.map za8.d)),.d (.sl 5 (c.moves.map zaf.d))]))] h fun a w h=>qW (Je 3 [(6,.call (Senabled s x c (L:=L) (M:=M) (by omega) hs hx hc) kk_7)] [8] [(27,vb (!(zaj s x c)))] h fun a w h=>cS (!(zaj s x c)) h (fun hc1=>?_) (fun hc2=>?_))
 ·have hc1':=hc1;(try simp at hc1');refine Je 3 [] [27] [] h fun a w h=>qV (za2 (rT (.c (.d (.raw (.bool false)))) h rfl ?_));have hz:can s x i=false:=by unfold can;rw [hi];show canC s x c=_;unfold canC;rw [(show (zaj s x c)=false from by simpa using hc1),Bool.false_and]
  rw [hz];try rfl
 have hc2':=hc2;(try simp at hc2');refine qU (za0 (qW ?_));have hen:=(show (zaj s x c)=true from by simpa using hc2);refine Je 3 [(2,.len (za3 1 zc6 s.vars))] [27] [(30,vN s.vars.length),(31,vI 0)] h fun a w h=>qZ ?_
 refine zb5 (ι:=(Nat)) (fun j=>j<=s.vars.length/\zer j (zi5 s x c)=true)
   (fun j=>[(3,vp 0 0),(4,vp 1 0),(7,vp 2 0),(30,vN s.vars.length),(31,vN j)])
   (fun j=>[(0,.box (zai s)),(1,.box [.d (.sl 1 (x.locs.map zad)),.d (.sl 2 (x.vals.map ziD))]),(2,.box ([.d (.raw (.int .i64 c.proc)),.d (.raw (.int .i64 c.from_)),.d (.raw (.int .i64 c.to_)),.d (.raw (.int .i64 c.guard.kind)),.d (.sl 3 (c.guard.r.t.parts.map zbr.d))]++zi c.guard.r.t.k++[.d (.raw (.bool c.guard.r.eq)),.d (.sl 6 (c.guard.kids.map za8.d)),.d (.sl 5 (c.moves.map zaf.d))]))])
   (fun j=>s.vars.length - j) 0 ?_ h (by kernel_rfl) (by kernel_rfl) ?_
 ·exact ⟨Nat.zero_le _,rfl⟩
 clear h;rintro j a w hI h;obtain ⟨hI1,hI2⟩:=hI;have lb1:=(zf8 hs j).1.2;have lb2:=(zf8 hs j).2.2;refine Je 3 [] [] [(32,vb (decide ((j:Int)<(s.vars.length:Int))))] h fun a w h=>qW (zap ((j:Int)<(s.vars.length:Int)) h (fun hc3 hc3'=>?_) (fun hc12 hc12'=>?_))
 ·refine qU (za0 (qW (qZ (Je 3 [] [32] [(9,vN j)] h fun a w h=>?_))));have gn:=new_ok hc hx j;have lgn:=gn.2;refine Jd 3 [(3,.call (Safter x c j (L:=L) (M:=M) (by omega) hc hx (by have:=zch (zcd hen);omega)) kk_8)] [] [(10,vp 3 0),(11,vb (zb7 c j))] [(0,.box (zai s)),(1,.box [.d (.sl 1 (x.locs.map zad)),.d (.sl 2 (x.vals.map ziD))]),(2,.box ([.d (.raw (.int .i64 c.proc)),.d (.raw (.int .i64 c.from_)),.d (.raw (.int .i64 c.to_)),.d (.raw (.int .i64 c.guard.kind)),.d (.sl 3 (c.guard.r.t.parts.map zbr.d))]++zi c.guard.r.t.k++[.d (.raw (.bool c.guard.r.eq)),.d (.sl 6 (c.guard.kids.map za8.d)),.d (.sl 5 (c.moves.map zaf.d))])),(3,.box (zi (zbx x c j)))] h fun a w h=>qW (Jd 4 [(2,.call (Sbound s j (by have:=hs.bnds;omega)) kf_2)] [] [(12,vp 4 0)] [(0,.box (zai s)),(1,.box [.d (.sl 1 (x.locs.map zad)),.d (.sl 2 (x.vals.map ziD))]),(2,.box ([.d (.raw (.int .i64 c.proc)),.d (.raw (.int .i64 c.from_)),.d (.raw (.int .i64 c.to_)),.d (.raw (.int .i64 c.guard.kind)),.d (.sl 3 (c.guard.r.t.parts.map zbr.d))]++zi c.guard.r.t.k++[.d (.raw (.bool c.guard.r.eq)),.d (.sl 6 (c.guard.kids.map za8.d)),.d (.sl 5 (c.moves.map zaf.d))])),(3,.box (zi (zbx x c j))),(4,.box ([.d (.raw (.bool (zat s j).is_))]++zi (zat s j).lo++zi (zat s j).hi))] h fun a w h=>?_)
  rcases Bool.eq_false_or_eq_true (zb7 c j) with hc4 | hc9
  ·rw [hc4] at h
   rcases Bool.eq_false_or_eq_true (zat s j).is_ with hc5 | hc8
   ·rw [hc5] at h;refine Jq 5 [(10,.call (SCmp (zat s j).lo (zat s j).hi (zf8 hs j).1.1 (zf8 hs j).2.1 (by omega) (by omega)) kf_3)] [(3,vp 0 0),(4,vp 1 0),(7,vp 2 0),(9,vN j),(10,vp 3 0),(11,vb true),(30,vN s.vars.length),(31,vN j),(56,vb (decide (zdl (zat s j).lo.val (zat s j).hi.val>0)))] [(0,.box (zai s)),(1,.box [.d (.sl 1 (x.locs.map zad)),.d (.sl 2 (x.vals.map ziD))]),(2,.box ([.d (.raw (.int .i64 c.proc)),.d (.raw (.int .i64 c.from_)),.d (.raw (.int .i64 c.to_)),.d (.raw (.int .i64 c.guard.kind)),.d (.sl 3 (c.guard.r.t.parts.map zbr.d))]++zi c.guard.r.t.k++[.d (.raw (.bool c.guard.r.eq)),.d (.sl 6 (c.guard.kids.map za8.d)),.d (.sl 5 (c.moves.map zaf.d))])),(3,.box (zi (zbx x c j)))] h fun a w h=>zap (zdl (zat s j).lo.val (zat s j).hi.val>0) h (fun hc6 hc6'=>?_) (fun hc7 hc7'=>?_)
    ·refine Je 5 [] [56] [(6,vb false)] h fun a w h=>qV (za2 (za7 (za2 (za2 (za7 (za2 (rT (.c (.d (.raw (.bool false)))) h rfl ?_)))))));have hz:can s x i=false:=by unfold can;rw [hi];show canC s x c=_;unfold canC;rw [(show (zaj s x c)=true from by simpa using hc2),Bool.true_and,zbf (j:=j) (by have:=dT hc3;omega) (show zi5 s x c j=false by unfold zi5;rw [if_pos hc4,hc5,hc6];rfl)]
     rw [hz];try rfl
    refine qU (za0 (Jd 5 [] [9,10,11,56] [(65,vb false)] [(0,.box (zai s)),(1,.box [.d (.sl 1 (x.locs.map zad)),.d (.sl 2 (x.vals.map ziD))]),(2,.box ([.d (.raw (.int .i64 c.proc)),.d (.raw (.int .i64 c.from_)),.d (.raw (.int .i64 c.to_)),.d (.raw (.int .i64 c.guard.kind)),.d (.sl 3 (c.guard.r.t.parts.map zbr.d))]++zi c.guard.r.t.k++[.d (.raw (.bool c.guard.r.eq)),.d (.sl 6 (c.guard.kids.map za8.d)),.d (.sl 5 (c.moves.map zaf.d))]))] h fun a w h=>zbn false h rfl nofun (fun _=>qU (zac (za0 (Jf 5 [(0,.j1 j)] [65] [(31,vI ((j:Int)+1))] h fun a w h=>za0 (zag (x:=j) (y:=j+1) h ?_ ?_)))))))
    ·exact ⟨by omega,zbe hI2 (by unfold zi5;rw [if_pos hc4,hc5,hc7];rfl)⟩
    show s.vars.length - (j+1)<s.vars.length - j;omega
   rw [hc8] at h;refine Jq 5 [] [(3,vp 0 0),(4,vp 1 0),(7,vp 2 0),(9,vN j),(10,vp 3 0),(11,vb true),(30,vN s.vars.length),(31,vN j),(56,vb false)] [(0,.box (zai s)),(1,.box [.d (.sl 1 (x.locs.map zad)),.d (.sl 2 (x.vals.map ziD))]),(2,.box ([.d (.raw (.int .i64 c.proc)),.d (.raw (.int .i64 c.from_)),.d (.raw (.int .i64 c.to_)),.d (.raw (.int .i64 c.guard.kind)),.d (.sl 3 (c.guard.r.t.parts.map zbr.d))]++zi c.guard.r.t.k++[.d (.raw (.bool c.guard.r.eq)),.d (.sl 6 (c.guard.kids.map za8.d)),.d (.sl 5 (c.moves.map zaf.d))])),(3,.box (zi (zbx x c j)))] h fun a w h=>zbn false h rfl nofun (fun _=>qU (za0 (Jd 5 [] [9,10,11,56] [(65,vb false)] [(0,.box (zai s)),(1,.box [.d (.sl 1 (x.locs.map zad)),.d (.sl 2 (x.vals.map ziD))]),(2,.box ([.d (.raw (.int .i64 c.proc)),.d (.raw (.int .i64 c.from_)),.d (.raw (.int .i64 c.to_)),.d (.raw (.int .i64 c.guard.kind)),.d (.sl 3 (c.guard.r.t.parts.map zbr.d))]++zi c.guard.r.t.k++[.d (.raw (.bool c.guard.r.eq)),.d (.sl 6 (c.guard.kids.map za8.d)),.d (.sl 5 (c.moves.map zaf.d))]))] h fun a w h=>zbn false h rfl nofun (fun _=>qU (zac (za0 (Jf 5 [(0,.j1 j)] [65] [(31,vI ((j:Int)+1))] h fun a w h=>za0 (zag (x:=j) (y:=j+1) h ?_ ?_))))))))
   ·exact ⟨by omega,zbe hI2 (by unfold zi5;rw [if_pos hc4,hc8];rfl)⟩
   show s.vars.length - (j+1)<s.vars.length - j;omega
  rw [hc9] at h;refine Jq 5 [] [(3,vp 0 0),(4,vp 1 0),(7,vp 2 0),(9,vN j),(10,vp 3 0),(11,vb false),(30,vN s.vars.length),(31,vN j),(56,vb false)] [(0,.box (zai s)),(1,.box [.d (.sl 1 (x.locs.map zad)),.d (.sl 2 (x.vals.map ziD))]),(2,.box ([.d (.raw (.int .i64 c.proc)),.d (.raw (.int .i64 c.from_)),.d (.raw (.int .i64 c.to_)),.d (.raw (.int .i64 c.guard.kind)),.d (.sl 3 (c.guard.r.t.parts.map zbr.d))]++zi c.guard.r.t.k++[.d (.raw (.bool c.guard.r.eq)),.d (.sl 6 (c.guard.kids.map za8.d)),.d (.sl 5 (c.moves.map zaf.d))])),(3,.box (zi (zbx x c j)))] h fun a w h=>zbn false h rfl nofun (fun _=>qU (za0 (Jd 5 [(6,.call (Swithin s j (zbx x c j) (L:=L) (M:=L+M+2) (by omega) hs gn) kf_7)] [9,10,11,56] [(65,vb (!(zb0 (zat s j) (zbx x c j))))] [(0,.box (zai s)),(1,.box [.d (.sl 1 (x.locs.map zad)),.d (.sl 2 (x.vals.map ziD))]),(2,.box ([.d (.raw (.int .i64 c.proc)),.d (.raw (.int .i64 c.from_)),.d (.raw (.int .i64 c.to_)),.d (.raw (.int .i64 c.guard.kind)),.d (.sl 3 (c.guard.r.t.parts.map zbr.d))]++zi c.guard.r.t.k++[.d (.raw (.bool c.guard.r.eq)),.d (.sl 6 (c.guard.kids.map za8.d)),.d (.sl 5 (c.moves.map zaf.d))]))] h fun a w h=>cS (!(zb0 (zat s j) (zbx x c j))) h (fun hc10=>?_) (fun hc11=>?_))))
  ·have hc10':=hc10;(try simp at hc10');refine Je 5 [] [65] [(6,vb false)] h fun a w h=>qV (za7 (za2 (za2 (za7 (za2 (rT (.c (.d (.raw (.bool false)))) h rfl ?_))))));have hz:can s x i=false:=by unfold can;rw [hi];show canC s x c=_;unfold canC;rw [(show (zaj s x c)=true from by simpa using hc2),Bool.true_and,zbf (j:=j) (by have:=dT hc3;omega) (show zi5 s x c j=false by unfold zi5;rw [if_neg (by rw [hc9];exact Bool.noConfusion)];exact (show (zb0 (zat s j) (zbx x c j))=false from by simpa using hc10))]
   rw [hz];try rfl
  have hc11':=hc11;(try simp at hc11');refine qU (zac (za0 (Jf 5 [(0,.j1 j)] [65] [(31,vI ((j:Int)+1))] h fun a w h=>za0 (zag (x:=j) (y:=j+1) h ?_ ?_))))
  ·exact ⟨by omega,zbe hI2 (by unfold zi5;rw [if_neg (by rw [hc9];exact Bool.noConfusion)];exact (show (zb0 (zat s j) (zbx x c j))=true from by simpa using hc11))⟩
  show s.vars.length - (j+1)<s.vars.length - j;omega
 refine wp_exit (zaa (zaa (za5 (za0 (Jq 5 [] [(6,vb true)] [] h fun a w h=>qV (rT (.c (.d (.raw (.bool true)))) h rfl ?_))))));have hz:can s x i=true:=by unfold can;rw [hi];show canC s x c=_;unfold canC;rw [(show (zaj s x c)=true from by simpa using hc2),Bool.true_and,show s.vars.length=j by have:=dF hc12;omega,hI2]
 rw [hz];try rfl
theorem SCan (s:zan) (x:StD) (i:Int) {L M:Nat} (hL:L+M<=4000) (hs:zb1 L s) (hx:zd0 M x):Fn Tryz.prog 39 [] [vG (zai s),vG [cIs x.locs,cZs x.vals],vi .i64 i] (vb (can s x i)) []:=by
 cases hi:zdy s i with
 | none=>exact SCanN s x i hL hs hx hi
 | some c=>exact SCanS s x i c hL hs hx hi
theorem SStuck (s:zan) (x:StD) {L M:Nat} (hL:L+M<=4000) (hs:zb1 L s) (hx:zd0 M x):Fn Tryz.prog 85 [] [vG (zai s),vG [cIs x.locs,cZs x.vals]] (vb (zee s x)) []:=by
 have lx1:=hx.locs;have lx2:=hx.vals;have ls1:=hs.vars;have ls2:=hs.procs;have las:=hs.acts;refine Fn.body Tryz.func85 rfl 20 rfl fun w H B a h=>Jq 0 [] [(2,vp 0 0),(3,vp 1 0),(4,vb false)] [(0,.box (zai s)),(1,.box [cIs x.locs,cZs x.vals])] h fun a w h=>qW (Je 2 [(2,.len (za3 10 zaz.d s.acts))] [] [(8,vN s.acts.length),(9,vI 0)] h fun a w h=>qZ ?_)
 refine zb5 (ι:=(Nat)) (fun j=>j<=s.acts.length/\zer j (fun i=>!can s x (i:Int))=true)
   (fun j=>[(2,vp 0 0),(3,vp 1 0),(8,vN s.acts.length),(9,vN j)])
   (fun j=>[(0,.box (zai s)),(1,.box [cIs x.locs,cZs x.vals])])
   (fun j=>s.acts.length - j) 0 ?_ h (by kernel_rfl) (by kernel_rfl) ?_
 ·exact ⟨Nat.zero_le _,rfl⟩
 clear h;rintro j a w hI h;obtain ⟨hI1,hI2⟩:=hI;refine Je 2 [] [] [(10,vb (decide ((j:Int)<(s.acts.length:Int))))] h fun a w h=>qW (zap ((j:Int)<(s.acts.length:Int)) h (fun hc1 hc1'=>?_) (fun hc4 hc4'=>?_))
 ·refine qU (za0 (qW (qZ (Je 2 [] [10] [(5,vN j)] h fun a w h=>Je 2 [(3,.call (SCan s x (j:Int) hL hs hx) kk_12)] [5] [(15,vb (can s x (j:Int)))] h fun a w h=>cS (can s x (j:Int)) h (fun hc2=>?_) (fun hc3=>?_)))))
  ·refine Je 2 [] [15] [(4,vb false)] h fun a w h=>qV (za7 (za2 (za2 (za7 (za2 (rT (.c (cB false)) h rfl ?_))))));have hz:zee s x=false:=by unfold zee;rw [zbf (j:=j) (by have:=dT hc1;omega) (show (!can s x (j:Int))=false by rw [hc2];rfl)];rfl
   rw [hz];try rfl
  refine qU (zac (za0 (Jf 2 [(0,.j1 j)] [15] [(9,vI ((j:Int)+1))] h fun a w h=>za0 (zag (x:=j) (y:=j+1) h ?_ ?_))))
  ·exact ⟨by omega,zbe hI2 (by rw [hc3];rfl)⟩
  show s.acts.length - (j+1)<s.acts.length - j;omega
 refine wp_exit (zaa (zaa (za5 (za0 (Jq 2 [(2,.call (zhv s x (L:=L) (M:=M) (by omega) hs hx) kg_9)] [(4,vb (zbu s x))] [] h fun a w h=>qV (rT (.c (cB (zbu s x))) h rfl ?_))))));have hz:zee s x=(zbu s x):=by unfold zee;rw [show s.acts.length=j by have:=dF hc4;omega,hI2];rfl
 rw [hz];try rfl
theorem kl_0:za6 Tryz.prog 85:=za6.mk' (by kernel_rfl)
theorem kl_1:za6 Tryz.prog 86:=za6.mk' (by kernel_rfl)
theorem free_new {x:StD} {c:zaz} {v:Nat} (h:zb7 c v=true):zbx x c v=zdz:=by
 unfold zb7 at h;unfold zbx
 cases hm:zih c v with
 | none=>rw [hm] at h;cases h
 | some m=>rw [hm] at h;simp only at h ⊢;rw [if_pos h]
theorem newV_pick {x:StD} {c:zaz} {picks:List ZI} {v:Nat} {p:ZI} (h:zb7 c v=true) (hp:(picks.drop (zao c v))[0]?=some p):zc4 x c picks v=ZI.of p.val:=by
 rw [List.getElem?_drop,Nat.add_zero] at hp;unfold zc4;rw [if_pos h,hp]
theorem newV_out {x:StD} {c:zaz} {picks:List ZI} {v:Nat} (h:zb7 c v=true) (hp:¬ ((picks.drop (zao c v)).length:Int)>0):zc4 x c picks v=zdz:=by
 rw [List.length_drop] at hp;unfold zc4;rw [if_pos h,List.getElem?_eq_none (by omega)]
theorem zgu {x:StD} {c:zaz} {picks:List ZI} {v:Nat} (h:zb7 c v=false):zc4 x c picks v=zbx x c v:=by unfold zc4;rw [if_neg (by rw [h];exact Bool.noConfusion)]
theorem zh1 {c:zaz} {v:Nat} (h:zb7 c v=true):zao c (v+1)=zao c v+1:=by rw [zao,if_pos h]
theorem cnt_kept {c:zaz} {v:Nat} (h:zb7 c v=false):zao c (v+1)=zao c v:=by rw [zao,if_neg (by rw [h];exact Bool.noConfusion),Nat.add_zero]
theorem outS_ok {L M:Nat} {s:zan} {x:StD} {c:zaz} {picks:List ZI} (hs:zb1 L s) (hx:zd0 M x) (hc:zgk L c) (hp:∀ z ∈ picks,ZOk M z):zd0 (L+M+2) (zcn s x c picks):=by
 refine ⟨by simp only [zcn,List.length_set];exact hx.locs,by simp only [zcn,List.length_map,List.length_range];exact Nat.le_trans hs.vars (by decide),fun z hz=>?_⟩
 simp only [zcn,List.mem_map] at hz
 obtain ⟨v,_,rfl⟩:=hz
 unfold zc4
 split
 ·split
  ·rename_i p hp2
   have g:=hp p (List.mem_of_getElem? hp2)
   exact ⟨ZI.lb_of _,Nat.le_trans (zgy g.1) (by have:=g.2;omega)⟩
  ·exact ZOk.zero
 ·exact new_ok hc hx v
theorem SGo1 (s:zan) (x:StD) (picks:List ZI) {L M:Nat} (hL:L+M<=4000) (hs:zb1 L s) (hx:zd0 M x) (_hp:∀ z ∈ picks,ZOk M z) (hst:zee s x=true):Fn Tryz.prog 42 [] [vG (zai s),vG [cIs x.locs,cZs x.vals],vI (-1),(vZs picks)] (.tup [.agg [cIs (cloneS x).locs,cZs (cloneS x).vals],.c (cB true)]) []:=by
 refine Fn.body Tryz.func42 rfl 92 rfl fun w H B a h=>Jq 5 [] [(2,vI (-1)),(3,(vZs picks)),(4,vp 5 0),(5,vp 6 0),(8,vp 7 0),(9,vb false)] [(5,.box (zai s)),(6,.box [cIs x.locs,cZs x.vals]),(7,.box [.d (.raw za4),.d (.raw za4)])] h fun a w h=>qW (Je 8 [(1,.cmp (op:=.eql) (m:=(-1)) (n:=(-1)) (b:=true) .i64 rfl),(5,.call (Fn.cast (SStuck s x hL hs hx) (congrArg vb hst)) kl_0)] [] [(22,vb true)] h fun a w h=>cS true h (fun _=>?_) nofun)
 refine Jd 8 [(1,.call (Sclone x (by omega) hx) kl_1)] [22] [(9,vb true)] [(5,.box (zai s)),(6,.box [cIs x.locs,cZs x.vals]),(7,.box [.own 0 x.locs.length,.own 1 (x.vals.map clZ).length]),(0,.row 3 1 (x.locs.map zad)),(1,.row 28 2 ((x.vals.map clZ).map ziD))] h fun a w h=>qV (za2 ?_);replace h:=pubS 0 1 3 (x.locs.map zad) [(2,vI (-1)),(3,(vZs picks)),(4,vp 5 0),(5,vp 6 0),(8,vp 7 0),(9,vb true)] [(5,.box (zai s)),(6,.box [cIs x.locs,cZs x.vals]),(7,.box [cIs x.locs,.own 1 (x.vals.map clZ).length]),(1,.row 28 2 ((x.vals.map clZ).map ziD))] h rfl trivial (show zcj _ [x.locs.length] from ⟨by first | exact (List.length_map _).symm | (simp;done) | (simp;omega),trivial⟩);replace h:=pubS 1 2 28 ((x.vals.map clZ).map ziD) [(2,vI (-1)),(3,(vZs picks)),(4,vp 5 0),(5,vp 6 0),(8,vp 7 0),(9,vb true)] [(5,.box (zai s)),(6,.box [cIs x.locs,cZs x.vals]),(7,.box [cIs x.locs,cZs (x.vals.map clZ)])] h rfl trivial (show zcj _ [(x.vals.map clZ).length] from ⟨by first | exact (List.length_map _).symm | (simp;done) | (simp;omega),trivial⟩);refine zdb [.agg [cIs x.locs,cZs (x.vals.map clZ)],.c (cB true)] h Exit.ret (.inl rfl)  rfl ⟨RV.agg _ 7 0 _ _ _ _ kk_5 rfl rfl rfl rfl,RV.tmp _ _ rfl,trivial⟩ ?_;rfl
theorem SGo2 (s:zan) (x:StD) (i:Int) (picks:List ZI) {L M:Nat} (hL:L+M<=4000) (hs:zb1 L s) (hx:zd0 M x) (_hp:∀ z ∈ picks,ZOk M z) (hst:¬ (i=-1/\zee s x=true)) (hi:zdy s i=none):Fn Tryz.prog 42 [] [vG (zai s),vG [cIs x.locs,cZs x.vals],vI i,(vZs picks)] (.tup [.agg [cIs st0.locs,cZs st0.vals],.c (cB false)]) []:=by
 refine Fn.body Tryz.func42 rfl 92 rfl fun w H B a h=>Jq 5 [] [(2,vI i),(3,(vZs picks)),(4,vp 5 0),(5,vp 6 0),(8,vp 7 0),(9,vb false)] [(5,.box (zai s)),(6,.box [cIs x.locs,cZs x.vals]),(7,.box [.d (.raw za4),.d (.raw za4)])] h fun a w h=>qW ?_
 rcases Bool.eq_false_or_eq_true (i == (-1)) with hc1 | hc2
 ·have hc1':=hc1;(try simp at hc1');refine Je 8 [(1,.cmp (op:=.eql) (m:=i) (n:=(-1)) (b:=true) .i64 hc1),(5,.call (Fn.cast (SStuck s x hL hs hx) (congrArg vb (show zee s x=false by cases hq:zee s x with | false=>rfl | true=>exact absurd ⟨by have:=hc1;simpa using this,hq⟩ hst))) kl_0)] [] [(22,vb false)] h fun a w h=>zbn false h rfl nofun (fun _=>qU (za0 (Jd 8 [(2,.call (SactN s i hi) kk_6)] [2,22] [(10,vp 8 0),(11,vb false)] [(5,.box (zai s)),(6,.box [cIs x.locs,cZs x.vals]),(7,.box [.d (.raw za4),.d (.raw za4)]),(8,.box ([cI zck.proc,cI zck.from_,cI zck.to_,cI zck.guard.kind,cPs zck.guard.r.t.parts]++zi zck.guard.r.t.k++[cB zck.guard.r.eq,cFs zck.guard.kids,.d (.sl 5 (zck.moves.map zaf.d))]))] h fun a w h=>qW (Je 9 [] [11] [(39,vb true)] h fun a w h=>cS true h (fun _=>?_) nofun))))
  refine Je 9 [] [39] [] h fun a w h=>qV (za2 ?_);replace h:=zbj 7 0 1 [.d (.raw za4),.d (.raw za4)] [(3,(vZs picks)),(4,vp 5 0),(5,vp 6 0),(8,vp 7 0),(9,vb false),(10,vp 8 0)] [(5,.box (zai s)),(6,.box [cIs x.locs,cZs x.vals]),(7,.box [cIs [],.d (.raw za4)]),(8,.box ([cI zck.proc,cI zck.from_,cI zck.to_,cI zck.guard.kind,cPs zck.guard.r.t.parts]++zi zck.guard.r.t.k++[cB zck.guard.r.eq,cFs zck.guard.kids,.d (.sl 5 (zck.moves.map zaf.d))]))] h rfl rfl;replace h:=zbj 7 1 2 [cIs [],.d (.raw za4)] [(3,(vZs picks)),(4,vp 5 0),(5,vp 6 0),(8,vp 7 0),(9,vb false),(10,vp 8 0)] [(5,.box (zai s)),(6,.box [cIs x.locs,cZs x.vals]),(7,.box [cIs [],cZs []]),(8,.box ([cI zck.proc,cI zck.from_,cI zck.to_,cI zck.guard.kind,cPs zck.guard.r.t.parts]++zi zck.guard.r.t.k++[cB zck.guard.r.eq,cFs zck.guard.kids,.d (.sl 5 (zck.moves.map zaf.d))]))] h rfl rfl;refine zdb [.agg [cIs [],cZs []],.c (cB false)] h Exit.ret (.inl rfl)  rfl ⟨RV.agg _ 7 0 _ _ _ _ kk_5 rfl rfl rfl rfl,RV.tmp _ _ rfl,trivial⟩ ?_;rfl
 have hc2':=hc2;(try simp at hc2');refine Je 9 [(1,.cmp (op:=.eql) (m:=i) (n:=(-1)) (b:=false) .i64 hc2)] [] [(22,vb false)] h fun a w h=>zbn false h rfl nofun (fun _=>qU (za0 (Jd 9 [(2,.call (SactN s i hi) kk_6)] [2,22] [(10,vp 9 0),(11,vb false)] [(5,.box (zai s)),(6,.box [cIs x.locs,cZs x.vals]),(7,.box [.d (.raw za4),.d (.raw za4)]),(9,.box ([cI zck.proc,cI zck.from_,cI zck.to_,cI zck.guard.kind,cPs zck.guard.r.t.parts]++zi zck.guard.r.t.k++[cB zck.guard.r.eq,cFs zck.guard.kids,.d (.sl 5 (zck.moves.map zaf.d))]))] h fun a w h=>qW (Je 10 [] [11] [(39,vb true)] h fun a w h=>cS true h (fun _=>?_) nofun))))
 refine Je 10 [] [39] [] h fun a w h=>qV (za2 ?_);replace h:=zbj 7 0 1 [.d (.raw za4),.d (.raw za4)] [(3,(vZs picks)),(4,vp 5 0),(5,vp 6 0),(8,vp 7 0),(9,vb false),(10,vp 9 0)] [(5,.box (zai s)),(6,.box [cIs x.locs,cZs x.vals]),(7,.box [cIs [],.d (.raw za4)]),(9,.box ([cI zck.proc,cI zck.from_,cI zck.to_,cI zck.guard.kind,cPs zck.guard.r.t.parts]++zi zck.guard.r.t.k++[cB zck.guard.r.eq,cFs zck.guard.kids,.d (.sl 5 (zck.moves.map zaf.d))]))] h rfl rfl;replace h:=zbj 7 1 2 [cIs [],.d (.raw za4)] [(3,(vZs picks)),(4,vp 5 0),(5,vp 6 0),(8,vp 7 0),(9,vb false),(10,vp 9 0)] [(5,.box (zai s)),(6,.box [cIs x.locs,cZs x.vals]),(7,.box [cIs [],cZs []]),(9,.box ([cI zck.proc,cI zck.from_,cI zck.to_,cI zck.guard.kind,cPs zck.guard.r.t.parts]++zi zck.guard.r.t.k++[cB zck.guard.r.eq,cFs zck.guard.kids,.d (.sl 5 (zck.moves.map zaf.d))]))] h rfl rfl;refine zdb [.agg [cIs [],cZs []],.c (cB false)] h Exit.ret (.inl rfl)  rfl ⟨RV.agg _ 7 0 _ _ _ _ kk_5 rfl rfl rfl rfl,RV.tmp _ _ rfl,trivial⟩ ?_;rfl
theorem SGo3 (s:zan) (x:StD) (i:Int) (picks:List ZI) (c:zaz) {L M:Nat} (hL:L+M<=4000) (hs:zb1 L s) (hx:zd0 M x) (hp:∀ z ∈ picks,ZOk M z) (hi:zdy s i=some c):Fn Tryz.prog 42 [] [.t (.agg (zai s)),.t (.agg [.d (.sl 1 (x.locs.map zad)),.d (.sl 2 (x.vals.map ziD))]),vI i,.t (.c (.d (.sl 2 (picks.map ziD))))] (.tup [.agg [.d (.sl 1 ((goC s x c picks).1.locs.map zad)),.d (.sl 2 ((goC s x c picks).1.vals.map ziD))],.c (.d (.raw (.bool (goC s x c picks).2)))]) []:=by
 have lx1:=hx.locs;have lx2:=hx.vals;have ls1:=hs.vars;have ls2:=hs.procs;have hc:zgk L c:=act_ok hs hi;refine Fn.body Tryz.func42 rfl 92 rfl fun w H B a h=>Jq 5 [] [(2,vI i),(3,.t (.c (.d (.sl 2 (picks.map ziD))))),(4,vp 5 0),(5,vp 6 0),(8,vp 7 0),(9,vb false)] [(5,.box (zai s)),(6,.box [.d (.sl 1 (x.locs.map zad)),.d (.sl 2 (x.vals.map ziD))]),(7,.box [.d (.raw za4),.d (.raw za4)])] h fun a w h=>qW (Je 8 [(1,.cmp (op:=.eql) (m:=i) (n:=(-1)) (b:=false) .i64 (by obtain ⟨k,rfl,_⟩:=zes hi;exact beq_eq_false_iff_ne.2 (by omega)))] [] [(22,vb false)] h fun a w h=>zbn false h rfl nofun (fun _=>qU (za0 (Jd 8 [(2,.call (SactS s i c hi) kk_6)] [2,22] [(10,vp 8 0),(11,vb true)] [(5,.box (zai s)),(6,.box [.d (.sl 1 (x.locs.map zad)),.d (.sl 2 (x.vals.map ziD))]),(7,.box [.d (.raw za4),.d (.raw za4)]),(8,.box ([.d (.raw (.int .i64 c.proc)),.d (.raw (.int .i64 c.from_)),.d (.raw (.int .i64 c.to_)),.d (.raw (.int .i64 c.guard.kind)),.d (.sl 3 (c.guard.r.t.parts.map zbr.d))]++zi c.guard.r.t.k++[.d (.raw (.bool c.guard.r.eq)),.d (.sl 6 (c.guard.kids.map za8.d)),.d (.sl 5 (c.moves.map zaf.d))]))] h fun a w h=>qW (Je 9 [(6,.call (Senabled s x c (L:=L) (M:=M) (by omega) hs hx hc) kk_7)] [11] [(39,vb (!(zaj s x c)))] h fun a w h=>cS (!(zaj s x c)) h (fun hc1=>?_) (fun hc2=>?_))))))
 ·have hc1':=hc1;(try simp at hc1');refine Je 9 [] [39] [] h fun a w h=>qV (za2 ?_);replace h:=zbj 7 0 1 [.d (.raw za4),.d (.raw za4)] [(3,.t (.c (.d (.sl 2 (picks.map ziD))))),(4,vp 5 0),(5,vp 6 0),(8,vp 7 0),(9,vb false),(10,vp 8 0)] [(5,.box (zai s)),(6,.box [.d (.sl 1 (x.locs.map zad)),.d (.sl 2 (x.vals.map ziD))]),(7,.box [.d (.sl 1 ([].map zad)),.d (.raw za4)]),(8,.box ([.d (.raw (.int .i64 c.proc)),.d (.raw (.int .i64 c.from_)),.d (.raw (.int .i64 c.to_)),.d (.raw (.int .i64 c.guard.kind)),.d (.sl 3 (c.guard.r.t.parts.map zbr.d))]++zi c.guard.r.t.k++[.d (.raw (.bool c.guard.r.eq)),.d (.sl 6 (c.guard.kids.map za8.d)),.d (.sl 5 (c.moves.map zaf.d))]))] h rfl rfl;replace h:=zbj 7 1 2 [.d (.sl 1 ([].map zad)),.d (.raw za4)] [(3,.t (.c (.d (.sl 2 (picks.map ziD))))),(4,vp 5 0),(5,vp 6 0),(8,vp 7 0),(9,vb false),(10,vp 8 0)] [(5,.box (zai s)),(6,.box [.d (.sl 1 (x.locs.map zad)),.d (.sl 2 (x.vals.map ziD))]),(7,.box [.d (.sl 1 ([].map zad)),.d (.sl 2 ([].map ziD))]),(8,.box ([.d (.raw (.int .i64 c.proc)),.d (.raw (.int .i64 c.from_)),.d (.raw (.int .i64 c.to_)),.d (.raw (.int .i64 c.guard.kind)),.d (.sl 3 (c.guard.r.t.parts.map zbr.d))]++zi c.guard.r.t.k++[.d (.raw (.bool c.guard.r.eq)),.d (.sl 6 (c.guard.kids.map za8.d)),.d (.sl 5 (c.moves.map zaf.d))]))] h rfl rfl;refine zdb [.agg [.d (.sl 1 ([].map zad)),.d (.sl 2 ([].map ziD))],.c (.d (.raw (.bool false)))] h Exit.ret (.inl rfl)  rfl ⟨RV.agg _ 7 0 _ _ _ _ kk_5 rfl rfl rfl rfl,RV.tmp _ _ rfl,trivial⟩ ?_;have hz:goC s x c picks=(st0,false):=by unfold goC;rw [if_neg (fun h=>by have:=h.1;rw [(show (zaj s x c)=false from by simpa using hc1)] at this;cases this)]
  rw [hz];try rfl
 have hc2':=hc2;(try simp at hc2');refine qU (za0 ?_);have hen:=(show (zaj s x c)=true from by simpa using hc2);have hfl:=zch (zcd hen);have hpr:=zdg hen;refine Jd 9 [(1,.call (Sclone x (by omega) hx) kl_1)] [39] [(12,vp 9 0)] [(5,.box (zai s)),(6,.box [.d (.sl 1 (x.locs.map zad)),.d (.sl 2 (x.vals.map ziD))]),(7,.box [.d (.raw za4),.d (.raw za4)]),(8,.box ([.d (.raw (.int .i64 c.proc)),.d (.raw (.int .i64 c.from_)),.d (.raw (.int .i64 c.to_)),.d (.raw (.int .i64 c.guard.kind)),.d (.sl 3 (c.guard.r.t.parts.map zbr.d))]++zi c.guard.r.t.k++[.d (.raw (.bool c.guard.r.eq)),.d (.sl 6 (c.guard.kids.map za8.d)),.d (.sl 5 (c.moves.map zaf.d))])),(0,.row 3 1 (x.locs.map zad)),(1,.row 28 2 ((x.vals.map clZ).map ziD)),(9,.box [.own 0 x.locs.length,.own 1 (x.vals.map clZ).length])] h fun a w h=>?_;obtain ⟨k,hkk⟩:∃ k_:Nat,c.proc=(k_:Int):=⟨_,(Int.toNat_of_nonneg (by omega)).symm⟩;replace h:=h.conv (f':=F.of [(3,.t (.c (.d (.sl 2 (picks.map ziD))))),(4,vp 5 0),(5,vp 6 0),(8,vp 7 0),(9,vb false),(10,vp 8 0),(12,vp 9 0)] [(5,.box (zai s)),(6,.box [.d (.sl 1 (x.locs.map zad)),.d (.sl 2 (x.vals.map ziD))]),(7,.box [.d (.raw za4),.d (.raw za4)]),(8,.box ([.d (.raw (.int .i64 (k:Int))),.d (.raw (.int .i64 c.from_)),.d (.raw (.int .i64 c.to_)),.d (.raw (.int .i64 c.guard.kind)),.d (.sl 3 (c.guard.r.t.parts.map zbr.d))]++zi c.guard.r.t.k++[.d (.raw (.bool c.guard.r.eq)),.d (.sl 6 (c.guard.kids.map za8.d)),.d (.sl 5 (c.moves.map zaf.d))])),(0,.row 3 1 (x.locs.map zad)),(1,.row 28 2 ((x.vals.map clZ).map ziD)),(9,.box [.own 0 x.locs.length,.own 1 (x.vals.map clZ).length])]) (by rw [hkk];kernel_rfl);obtain ⟨x4,hx4⟩:=gl x.locs k;refine Jq 10 [(6,.g (xO 49 44 0 x.locs.length k zdo (OV.tmp 46 _))),(7,.g (Op.storeR (t:=49) (n:=0) (i:=k) (fo:=0) (rty:=3) (es:=1) (r:=zad x4) (ds:=[.raw (.int .i64 c.to_)]) (rs:=[(48,vI c.to_)]) (rows:=x.locs.map zad) (rows':=(x.locs.set k c.to_).map zad) tl_7 (OV.tmp 48 _) rfl rfl rfl (zab hx4 (f:=zad)) (by simp [zad]) (zef (xs:=x.locs) (F:=zad) k _ _ rfl)))] [(3,.t (.c (.d (.sl 2 (picks.map ziD))))),(4,vp 5 0),(5,vp 6 0),(8,vp 7 0),(9,vb false),(10,vp 8 0),(12,vp 9 0)] [(5,.box (zai s)),(6,.box [.d (.sl 1 (x.locs.map zad)),.d (.sl 2 (x.vals.map ziD))]),(7,.box [.d (.raw za4),.d (.raw za4)]),(8,.box ([.d (.raw (.int .i64 (k:Int))),.d (.raw (.int .i64 c.from_)),.d (.raw (.int .i64 c.to_)),.d (.raw (.int .i64 c.guard.kind)),.d (.sl 3 (c.guard.r.t.parts.map zbr.d))]++zi c.guard.r.t.k++[.d (.raw (.bool c.guard.r.eq)),.d (.sl 6 (c.guard.kids.map za8.d)),.d (.sl 5 (c.moves.map zaf.d))])),(0,.row 3 1 ((x.locs.set k c.to_).map zad)),(1,.row 28 2 ((x.vals.map clZ).map ziD)),(9,.box [.own 0 x.locs.length,.own 1 (x.vals.map clZ).length])] h fun a w h=>qW ?_;replace h:=h.conv (f':=F.of [(3,.t (.c (.d (.sl 2 (picks.map ziD))))),(4,vp 5 0),(5,vp 6 0),(8,vp 7 0),(9,vb false),(10,vp 8 0),(12,vp 9 0)] [(5,.box (zai s)),(6,.box [.d (.sl 1 (x.locs.map zad)),.d (.sl 2 (x.vals.map ziD))]),(7,.box [.d (.raw za4),.d (.raw za4)]),(8,.box ([.d (.raw (.int .i64 c.proc)),.d (.raw (.int .i64 c.from_)),.d (.raw (.int .i64 c.to_)),.d (.raw (.int .i64 c.guard.kind)),.d (.sl 3 (c.guard.r.t.parts.map zbr.d))]++zi c.guard.r.t.k++[.d (.raw (.bool c.guard.r.eq)),.d (.sl 6 (c.guard.kids.map za8.d)),.d (.sl 5 (c.moves.map zaf.d))])),(0,.row 3 1 ((x.locs.set k c.to_).map zad)),(1,.row 28 2 ((x.vals.map clZ).map ziD)),(9,.box [.own 0 x.locs.length,.own 1 (x.vals.map clZ).length])]) (by rw [hkk]);refine Jq 10 [(2,.len (za3 1 zc6 s.vars))] [(3,.t (.c (.d (.sl 2 (picks.map ziD))))),(4,vp 5 0),(5,vp 6 0),(8,vp 7 0),(9,vb false),(10,vp 8 0),(12,vp 9 0),(52,vN s.vars.length),(53,vI 0)] [(5,.box (zai s)),(6,.box [.d (.sl 1 (x.locs.map zad)),.d (.sl 2 (x.vals.map ziD))]),(7,.box [.d (.raw za4),.d (.raw za4)]),(8,.box ([.d (.raw (.int .i64 c.proc)),.d (.raw (.int .i64 c.from_)),.d (.raw (.int .i64 c.to_)),.d (.raw (.int .i64 c.guard.kind)),.d (.sl 3 (c.guard.r.t.parts.map zbr.d))]++zi c.guard.r.t.k++[.d (.raw (.bool c.guard.r.eq)),.d (.sl 6 (c.guard.kids.map za8.d)),.d (.sl 5 (c.moves.map zaf.d))])),(0,.row 3 1 ((x.locs.set k c.to_).map zad)),(1,.row 28 2 ((x.vals.map clZ).map ziD)),(9,.box [.own 0 x.locs.length,.own 1 (x.vals.map clZ).length])] h fun a w h=>qZ ?_
 refine zb5 (ι:=(Nat)) (fun j=>j<=s.vars.length)
   (fun j=>[(3,.t (.c (.d (.sl 2 ((picks.drop (zao c j)).map ziD))))),(4,vp 5 0),(5,vp 6 0),(8,vp 7 0),(9,vb false),(10,vp 8 0),(12,vp 9 0),(52,vN s.vars.length),(53,vN j)])
   (fun j=>[(5,.box (zai s)),(6,.box [.d (.sl 1 (x.locs.map zad)),.d (.sl 2 (x.vals.map ziD))]),(7,.box [.d (.raw za4),.d (.raw za4)]),(8,.box ([.d (.raw (.int .i64 c.proc)),.d (.raw (.int .i64 c.from_)),.d (.raw (.int .i64 c.to_)),.d (.raw (.int .i64 c.guard.kind)),.d (.sl 3 (c.guard.r.t.parts.map zbr.d))]++zi c.guard.r.t.k++[.d (.raw (.bool c.guard.r.eq)),.d (.sl 6 (c.guard.kids.map za8.d)),.d (.sl 5 (c.moves.map zaf.d))])),(0,.row 3 1 ((x.locs.set k c.to_).map zad)),(1,.row 28 2 (((List.range j).map (zc4 x c picks)++(x.vals.map clZ).drop j).map ziD)),(9,.box [.own 0 x.locs.length,.own 1 (x.vals.map clZ).length])])
   (fun j=>s.vars.length - j) 0 ?_ h (by kernel_rfl) (by kernel_rfl) ?_
 ·exact Nat.zero_le _
 clear h;rintro j a w hI h;have hrl:=range_len (f:=(zc4 x c picks)) (cl:=(x.vals.map clZ)) (j:=j) (by rw [List.length_map];omega);rw [List.length_map] at hrl;refine Je 10 [] [] [(54,vb (decide ((j:Int)<(s.vars.length:Int))))] h fun a w h=>qW (zap ((j:Int)<(s.vars.length:Int)) h (fun hc3 hc3'=>?_) (fun hc8 hc8'=>?_))
 ·refine qU (za0 (qW (qZ (Je 10 [] [54] [(13,vN j)] h fun a w h=>?_))));have gn:=new_ok hc hx j;have lgn:=gn.2;refine Jd 10 [(3,.call (Safter x c j (L:=L) (M:=M) (by omega) hc hx (by have:=zch (zcd hen);omega)) kk_8)] [] [(14,vp 10 0),(15,vb (zb7 c j))] [(5,.box (zai s)),(6,.box [.d (.sl 1 (x.locs.map zad)),.d (.sl 2 (x.vals.map ziD))]),(7,.box [.d (.raw za4),.d (.raw za4)]),(8,.box ([.d (.raw (.int .i64 c.proc)),.d (.raw (.int .i64 c.from_)),.d (.raw (.int .i64 c.to_)),.d (.raw (.int .i64 c.guard.kind)),.d (.sl 3 (c.guard.r.t.parts.map zbr.d))]++zi c.guard.r.t.k++[.d (.raw (.bool c.guard.r.eq)),.d (.sl 6 (c.guard.kids.map za8.d)),.d (.sl 5 (c.moves.map zaf.d))])),(0,.row 3 1 ((x.locs.set k c.to_).map zad)),(1,.row 28 2 (((List.range j).map (zc4 x c picks)++(x.vals.map clZ).drop j).map ziD)),(9,.box [.own 0 x.locs.length,.own 1 (x.vals.map clZ).length]),(10,.box (zi (zbx x c j)))] h fun a w h=>qW ?_
  rcases Bool.eq_false_or_eq_true (zb7 c j) with hc4 | hc7
  ·rw [hc4] at h;refine Jq 11 [(3,.len (za3 2 ziD (picks.drop (zao c j))))] [(3,.t (.c (.d (.sl 2 ((picks.drop (zao c j)).map ziD))))),(4,vp 5 0),(5,vp 6 0),(8,vp 7 0),(9,vb false),(10,vp 8 0),(12,vp 9 0),(13,vN j),(14,vp 10 0),(52,vN s.vars.length),(53,vN j),(68,vb (decide (((picks.drop (zao c j)).length:Int)>0)))] [(5,.box (zai s)),(6,.box [.d (.sl 1 (x.locs.map zad)),.d (.sl 2 (x.vals.map ziD))]),(7,.box [.d (.raw za4),.d (.raw za4)]),(8,.box ([.d (.raw (.int .i64 c.proc)),.d (.raw (.int .i64 c.from_)),.d (.raw (.int .i64 c.to_)),.d (.raw (.int .i64 c.guard.kind)),.d (.sl 3 (c.guard.r.t.parts.map zbr.d))]++zi c.guard.r.t.k++[.d (.raw (.bool c.guard.r.eq)),.d (.sl 6 (c.guard.kids.map za8.d)),.d (.sl 5 (c.moves.map zaf.d))])),(0,.row 3 1 ((x.locs.set k c.to_).map zad)),(1,.row 28 2 (((List.range j).map (zc4 x c picks)++(x.vals.map clZ).drop j).map ziD)),(9,.box [.own 0 x.locs.length,.own 1 (x.vals.map clZ).length]),(10,.box (zi (zbx x c j)))] h fun a w h=>zap (((picks.drop (zao c j)).length:Int)>0) h (fun hc5 hc5'=>?_) (fun hc6 hc6'=>?_)
   ·obtain ⟨x6,hx6⟩:=gl (picks.drop (zao c j)) 0;have gx6:=hp x6 (List.mem_of_mem_drop (lM hx6));have lgx6:=gx6.2;obtain ⟨r7,er7,vr7,or7,lr7⟩:=mkZ (v:=x6.val) (m:=M) (Nat.le_trans (zgy gx6.1) gx6.2);refine Jd 11 [(1,.g (xD 70 69 zh9 (zab hx6 (f:=ziD)) (OV.const (.int .i64 0) rfl))),(5,.g (xD 74 73 zh9 (zab hx6 (f:=ziD)) (OV.const (.int .i64 0) rfl))),(8,.call (Fn.cast ((show Fn _ _ _ _ (vz (ZI.of x6.val)) _ from zi7 x6.neg x6.abs gx6.1 (by omega))) (congrArg vz er7.symm)) ia_3)] [68] [] [(5,.box (zai s)),(6,.box [.d (.sl 1 (x.locs.map zad)),.d (.sl 2 (x.vals.map ziD))]),(7,.box [.d (.raw za4),.d (.raw za4)]),(8,.box ([.d (.raw (.int .i64 c.proc)),.d (.raw (.int .i64 c.from_)),.d (.raw (.int .i64 c.to_)),.d (.raw (.int .i64 c.guard.kind)),.d (.sl 3 (c.guard.r.t.parts.map zbr.d))]++zi c.guard.r.t.k++[.d (.raw (.bool c.guard.r.eq)),.d (.sl 6 (c.guard.kids.map za8.d)),.d (.sl 5 (c.moves.map zaf.d))])),(0,.row 3 1 ((x.locs.set k c.to_).map zad)),(1,.row 28 2 (((List.range j).map (zc4 x c picks)++(x.vals.map clZ).drop j).map ziD)),(9,.box [.own 0 x.locs.length,.own 1 (x.vals.map clZ).length]),(10,.box (zi r7))] h fun a w h=>Jf 11 [(1,.g (Op.sliceD (d:=79) (t:=78) (l:=1) (h:=(picks.drop (zao c j)).length) (rows:=(picks.drop (zao c j)).map ziD) (rows':=((picks.drop (zao c j)).drop 1).map ziD) zh9 (BO.yes _ (OV.const (.int .i64 1) rfl)) (by rw [List.length_map];exact BO.no _) (by first | omega | (simp at *;omega)) (by first | omega | (simp only [List.length_map];omega) | (simp at *;omega)) (by first | (simp [List.map_drop];done) | (rw [List.take_of_length_le (by simp <;> omega)];simp [List.map_drop]))))] [] [(3,.t (.c (.d (.sl 2 (((picks.drop (zao c j)).drop 1).map ziD)))))] h fun a w h=>za0 ?_;obtain ⟨x8,hx8⟩:=gl ((List.range j).map (zc4 x c picks)++(x.vals.map clZ).drop j) j;refine Jm 11 [(4,.g (xO 84 81 1 (x.vals.map clZ).length j zh9 (OV.tmp 82 _))),(5,.g (Op.storeR (t:=84) (n:=1) (i:=j) (fo:=0) (rty:=28) (es:=2) (r:=ziD x8) (ds:=[.raw (.bool r7.neg),nsl r7.abs]) (rs:=[(83,vz r7)]) (rows:=((List.range j).map (zc4 x c picks)++(x.vals.map clZ).drop j).map ziD) (rows':=(((List.range j).map (zc4 x c picks)++(x.vals.map clZ).drop j).set j r7).map ziD) zfd (OV.tmp 83 _) rfl rfl rfl (zab hx8 (f:=ziD)) (by simp [ziD]) (zef (xs:=((List.range j).map (zc4 x c picks)++(x.vals.map clZ).drop j)) (F:=ziD) j _ _ rfl)))] [13,14] [] [(5,.box (zai s)),(6,.box [.d (.sl 1 (x.locs.map zad)),.d (.sl 2 (x.vals.map ziD))]),(7,.box [.d (.raw za4),.d (.raw za4)]),(8,.box ([.d (.raw (.int .i64 c.proc)),.d (.raw (.int .i64 c.from_)),.d (.raw (.int .i64 c.to_)),.d (.raw (.int .i64 c.guard.kind)),.d (.sl 3 (c.guard.r.t.parts.map zbr.d))]++zi c.guard.r.t.k++[.d (.raw (.bool c.guard.r.eq)),.d (.sl 6 (c.guard.kids.map za8.d)),.d (.sl 5 (c.moves.map zaf.d))])),(0,.row 3 1 ((x.locs.set k c.to_).map zad)),(1,.row 28 2 ((((List.range j).map (zc4 x c picks)++(x.vals.map clZ).drop j).set j r7).map ziD)),(9,.box [.own 0 x.locs.length,.own 1 (x.vals.map clZ).length])] h fun a w h=>zac (za0 (Jf 11 [(0,.j1 j)] [] [(53,vI ((j:Int)+1))] h fun a w h=>za0 ?_));rw [show ((((List.range j).map (zc4 x c picks)++(x.vals.map clZ).drop j).set j r7):List ZI)=((List.range (j+1)).map (zc4 x c picks)++(x.vals.map clZ).drop (j+1)) from (zem (by rw [List.length_map];omega) (by rw [newV_pick hc4 hx6];simp [*]))] at h;replace h:=cv (fun z_:List ZI=>F.of [(3,.t (.c (.d (.sl 2 (z_.map ziD))))),(4,vp 5 0),(5,vp 6 0),(8,vp 7 0),(9,vb false),(10,vp 8 0),(12,vp 9 0),(52,vN s.vars.length),(53,vI ((j:Int)+1))] [(5,.box (zai s)),(6,.box [.d (.sl 1 (x.locs.map zad)),.d (.sl 2 (x.vals.map ziD))]),(7,.box [.d (.raw za4),.d (.raw za4)]),(8,.box ([.d (.raw (.int .i64 c.proc)),.d (.raw (.int .i64 c.from_)),.d (.raw (.int .i64 c.to_)),.d (.raw (.int .i64 c.guard.kind)),.d (.sl 3 (c.guard.r.t.parts.map zbr.d))]++zi c.guard.r.t.k++[.d (.raw (.bool c.guard.r.eq)),.d (.sl 6 (c.guard.kids.map za8.d)),.d (.sl 5 (c.moves.map zaf.d))])),(0,.row 3 1 ((x.locs.set k c.to_).map zad)),(1,.row 28 2 (((List.range (j+1)).map (zc4 x c picks)++(x.vals.map clZ).drop (j+1)).map ziD)),(9,.box [.own 0 x.locs.length,.own 1 (x.vals.map clZ).length])]) (show (((picks.drop (zao c j)).drop 1):List ZI)=(picks.drop (zao c (j+1))) from (by rw [zh1 hc4,List.drop_drop])) h;refine zag (x:=j) (y:=j+1) h ?_ ?_
    ·show j+1<=s.vars.length;omega
    show s.vars.length - (j+1)<s.vars.length - j;omega
   refine qU (za0 ?_);obtain ⟨x9,hx9⟩:=gl ((List.range j).map (zc4 x c picks)++(x.vals.map clZ).drop j) j;refine Jm 11 [(4,.g (xO 84 81 1 (x.vals.map clZ).length j zh9 (OV.tmp 82 _))),(5,.g (Op.storeR (t:=84) (n:=1) (i:=j) (fo:=0) (rty:=28) (es:=2) (r:=ziD x9) (ds:=[.raw (.bool (zbx x c j).neg),nsl (zbx x c j).abs]) (rs:=[(83,vz (zbx x c j))]) (rows:=((List.range j).map (zc4 x c picks)++(x.vals.map clZ).drop j).map ziD) (rows':=(((List.range j).map (zc4 x c picks)++(x.vals.map clZ).drop j).set j (zbx x c j)).map ziD) zfd (OV.tmp 83 _) rfl rfl rfl (zab hx9 (f:=ziD)) (by simp [ziD]) (zef (xs:=((List.range j).map (zc4 x c picks)++(x.vals.map clZ).drop j)) (F:=ziD) j _ _ rfl)))] [13,14,68] [] [(5,.box (zai s)),(6,.box [.d (.sl 1 (x.locs.map zad)),.d (.sl 2 (x.vals.map ziD))]),(7,.box [.d (.raw za4),.d (.raw za4)]),(8,.box ([.d (.raw (.int .i64 c.proc)),.d (.raw (.int .i64 c.from_)),.d (.raw (.int .i64 c.to_)),.d (.raw (.int .i64 c.guard.kind)),.d (.sl 3 (c.guard.r.t.parts.map zbr.d))]++zi c.guard.r.t.k++[.d (.raw (.bool c.guard.r.eq)),.d (.sl 6 (c.guard.kids.map za8.d)),.d (.sl 5 (c.moves.map zaf.d))])),(0,.row 3 1 ((x.locs.set k c.to_).map zad)),(1,.row 28 2 ((((List.range j).map (zc4 x c picks)++(x.vals.map clZ).drop j).set j (zbx x c j)).map ziD)),(9,.box [.own 0 x.locs.length,.own 1 (x.vals.map clZ).length])] h fun a w h=>zac (za0 (Jf 11 [(0,.j1 j)] [] [(53,vI ((j:Int)+1))] h fun a w h=>za0 ?_));rw [show ((((List.range j).map (zc4 x c picks)++(x.vals.map clZ).drop j).set j (zbx x c j)):List ZI)=((List.range (j+1)).map (zc4 x c picks)++(x.vals.map clZ).drop (j+1)) from (zem (by rw [List.length_map];omega) (by rw [newV_out hc4 (dF hc6)];exact free_new hc4))] at h;replace h:=cv (fun z_:List ZI=>F.of [(3,.t (.c (.d (.sl 2 (z_.map ziD))))),(4,vp 5 0),(5,vp 6 0),(8,vp 7 0),(9,vb false),(10,vp 8 0),(12,vp 9 0),(52,vN s.vars.length),(53,vI ((j:Int)+1))] [(5,.box (zai s)),(6,.box [.d (.sl 1 (x.locs.map zad)),.d (.sl 2 (x.vals.map ziD))]),(7,.box [.d (.raw za4),.d (.raw za4)]),(8,.box ([.d (.raw (.int .i64 c.proc)),.d (.raw (.int .i64 c.from_)),.d (.raw (.int .i64 c.to_)),.d (.raw (.int .i64 c.guard.kind)),.d (.sl 3 (c.guard.r.t.parts.map zbr.d))]++zi c.guard.r.t.k++[.d (.raw (.bool c.guard.r.eq)),.d (.sl 6 (c.guard.kids.map za8.d)),.d (.sl 5 (c.moves.map zaf.d))])),(0,.row 3 1 ((x.locs.set k c.to_).map zad)),(1,.row 28 2 (((List.range (j+1)).map (zc4 x c picks)++(x.vals.map clZ).drop (j+1)).map ziD)),(9,.box [.own 0 x.locs.length,.own 1 (x.vals.map clZ).length])]) (show ((picks.drop (zao c j)):List ZI)=(picks.drop (zao c (j+1))) from (by rw [zh1 hc4];have:=dF hc6;rw [List.length_drop] at this;rw [List.drop_of_length_le (by omega),List.drop_of_length_le (by omega)])) h;refine zag (x:=j) (y:=j+1) h ?_ ?_
   ·show j+1<=s.vars.length;omega
   show s.vars.length - (j+1)<s.vars.length - j;omega
  rw [hc7] at h;refine Jq 11 [] [(3,.t (.c (.d (.sl 2 ((picks.drop (zao c j)).map ziD))))),(4,vp 5 0),(5,vp 6 0),(8,vp 7 0),(9,vb false),(10,vp 8 0),(12,vp 9 0),(13,vN j),(14,vp 10 0),(52,vN s.vars.length),(53,vN j),(68,vb false)] [(5,.box (zai s)),(6,.box [.d (.sl 1 (x.locs.map zad)),.d (.sl 2 (x.vals.map ziD))]),(7,.box [.d (.raw za4),.d (.raw za4)]),(8,.box ([.d (.raw (.int .i64 c.proc)),.d (.raw (.int .i64 c.from_)),.d (.raw (.int .i64 c.to_)),.d (.raw (.int .i64 c.guard.kind)),.d (.sl 3 (c.guard.r.t.parts.map zbr.d))]++zi c.guard.r.t.k++[.d (.raw (.bool c.guard.r.eq)),.d (.sl 6 (c.guard.kids.map za8.d)),.d (.sl 5 (c.moves.map zaf.d))])),(0,.row 3 1 ((x.locs.set k c.to_).map zad)),(1,.row 28 2 (((List.range j).map (zc4 x c picks)++(x.vals.map clZ).drop j).map ziD)),(9,.box [.own 0 x.locs.length,.own 1 (x.vals.map clZ).length]),(10,.box (zi (zbx x c j)))] h fun a w h=>zbn false h rfl nofun (fun _=>qU (za0 ?_))
  obtain ⟨x10,hx10⟩:=gl ((List.range j).map (zc4 x c picks)++(x.vals.map clZ).drop j) j;refine Jm 11 [(4,.g (xO 84 81 1 (x.vals.map clZ).length j zh9 (OV.tmp 82 _))),(5,.g (Op.storeR (t:=84) (n:=1) (i:=j) (fo:=0) (rty:=28) (es:=2) (r:=ziD x10) (ds:=[.raw (.bool (zbx x c j).neg),nsl (zbx x c j).abs]) (rs:=[(83,vz (zbx x c j))]) (rows:=((List.range j).map (zc4 x c picks)++(x.vals.map clZ).drop j).map ziD) (rows':=(((List.range j).map (zc4 x c picks)++(x.vals.map clZ).drop j).set j (zbx x c j)).map ziD) zfd (OV.tmp 83 _) rfl rfl rfl (zab hx10 (f:=ziD)) (by simp [ziD]) (zef (xs:=((List.range j).map (zc4 x c picks)++(x.vals.map clZ).drop j)) (F:=ziD) j _ _ rfl)))] [13,14,68] [] [(5,.box (zai s)),(6,.box [.d (.sl 1 (x.locs.map zad)),.d (.sl 2 (x.vals.map ziD))]),(7,.box [.d (.raw za4),.d (.raw za4)]),(8,.box ([.d (.raw (.int .i64 c.proc)),.d (.raw (.int .i64 c.from_)),.d (.raw (.int .i64 c.to_)),.d (.raw (.int .i64 c.guard.kind)),.d (.sl 3 (c.guard.r.t.parts.map zbr.d))]++zi c.guard.r.t.k++[.d (.raw (.bool c.guard.r.eq)),.d (.sl 6 (c.guard.kids.map za8.d)),.d (.sl 5 (c.moves.map zaf.d))])),(0,.row 3 1 ((x.locs.set k c.to_).map zad)),(1,.row 28 2 ((((List.range j).map (zc4 x c picks)++(x.vals.map clZ).drop j).set j (zbx x c j)).map ziD)),(9,.box [.own 0 x.locs.length,.own 1 (x.vals.map clZ).length])] h fun a w h=>zac (za0 (Jf 11 [(0,.j1 j)] [] [(53,vI ((j:Int)+1))] h fun a w h=>za0 ?_));rw [show ((((List.range j).map (zc4 x c picks)++(x.vals.map clZ).drop j).set j (zbx x c j)):List ZI)=((List.range (j+1)).map (zc4 x c picks)++(x.vals.map clZ).drop (j+1)) from (zem (by rw [List.length_map];omega) (zgu hc7).symm)] at h;replace h:=cv (fun z_:List ZI=>F.of [(3,.t (.c (.d (.sl 2 (z_.map ziD))))),(4,vp 5 0),(5,vp 6 0),(8,vp 7 0),(9,vb false),(10,vp 8 0),(12,vp 9 0),(52,vN s.vars.length),(53,vI ((j:Int)+1))] [(5,.box (zai s)),(6,.box [.d (.sl 1 (x.locs.map zad)),.d (.sl 2 (x.vals.map ziD))]),(7,.box [.d (.raw za4),.d (.raw za4)]),(8,.box ([.d (.raw (.int .i64 c.proc)),.d (.raw (.int .i64 c.from_)),.d (.raw (.int .i64 c.to_)),.d (.raw (.int .i64 c.guard.kind)),.d (.sl 3 (c.guard.r.t.parts.map zbr.d))]++zi c.guard.r.t.k++[.d (.raw (.bool c.guard.r.eq)),.d (.sl 6 (c.guard.kids.map za8.d)),.d (.sl 5 (c.moves.map zaf.d))])),(0,.row 3 1 ((x.locs.set k c.to_).map zad)),(1,.row 28 2 (((List.range (j+1)).map (zc4 x c picks)++(x.vals.map clZ).drop (j+1)).map ziD)),(9,.box [.own 0 x.locs.length,.own 1 (x.vals.map clZ).length])]) (show ((picks.drop (zao c j)):List ZI)=(picks.drop (zao c (j+1))) from (by rw [cnt_kept hc7])) h;refine zag (x:=j) (y:=j+1) h ?_ ?_
  ·show j+1<=s.vars.length;omega
  show s.vars.length - (j+1)<s.vars.length - j;omega
 refine wp_exit (zaa (zaa (za5 (za0 (qW ?_)))));replace h:=pubS 0 1 3 ((x.locs.set k c.to_).map zad) [(3,.t (.c (.d (.sl 2 ((picks.drop (zao c j)).map ziD))))),(4,vp 5 0),(5,vp 6 0),(8,vp 7 0),(9,vb false),(10,vp 8 0),(12,vp 9 0),(52,vN s.vars.length),(53,vN j),(54,vb (decide ((j:Int)<(s.vars.length:Int))))] [(5,.box (zai s)),(6,.box [.d (.sl 1 (x.locs.map zad)),.d (.sl 2 (x.vals.map ziD))]),(7,.box [.d (.raw za4),.d (.raw za4)]),(8,.box ([.d (.raw (.int .i64 c.proc)),.d (.raw (.int .i64 c.from_)),.d (.raw (.int .i64 c.to_)),.d (.raw (.int .i64 c.guard.kind)),.d (.sl 3 (c.guard.r.t.parts.map zbr.d))]++zi c.guard.r.t.k++[.d (.raw (.bool c.guard.r.eq)),.d (.sl 6 (c.guard.kids.map za8.d)),.d (.sl 5 (c.moves.map zaf.d))])),(1,.row 28 2 (((List.range j).map (zc4 x c picks)++(x.vals.map clZ).drop j).map ziD)),(9,.box [.d (.sl 1 ((x.locs.set k c.to_).map zad)),.own 1 (x.vals.map clZ).length])] h rfl trivial (show zcj _ [x.locs.length] from ⟨by first | exact (List.length_map _).symm | (simp;done) | (simp;omega),trivial⟩);replace h:=pubS 1 2 28 (((List.range j).map (zc4 x c picks)++(x.vals.map clZ).drop j).map ziD) [(3,.t (.c (.d (.sl 2 ((picks.drop (zao c j)).map ziD))))),(4,vp 5 0),(5,vp 6 0),(8,vp 7 0),(9,vb false),(10,vp 8 0),(12,vp 9 0),(52,vN s.vars.length),(53,vN j),(54,vb (decide ((j:Int)<(s.vars.length:Int))))] [(5,.box (zai s)),(6,.box [.d (.sl 1 (x.locs.map zad)),.d (.sl 2 (x.vals.map ziD))]),(7,.box [.d (.raw za4),.d (.raw za4)]),(8,.box ([.d (.raw (.int .i64 c.proc)),.d (.raw (.int .i64 c.from_)),.d (.raw (.int .i64 c.to_)),.d (.raw (.int .i64 c.guard.kind)),.d (.sl 3 (c.guard.r.t.parts.map zbr.d))]++zi c.guard.r.t.k++[.d (.raw (.bool c.guard.r.eq)),.d (.sl 6 (c.guard.kids.map za8.d)),.d (.sl 5 (c.moves.map zaf.d))])),(9,.box ([.d (.sl 1 ((x.locs.set k c.to_).map zad)),.d (.sl 2 (((List.range j).map (zc4 x c picks)++(x.vals.map clZ).drop j).map ziD))]))] h rfl trivial (show zcj _ [(x.vals.map clZ).length] from ⟨by first | exact (List.length_map _).symm | (simp;done) | (simp;omega),trivial⟩);replace h:=cv (fun z_:List Int=>F.of [(3,.t (.c (.d (.sl 2 ((picks.drop (zao c j)).map ziD))))),(4,vp 5 0),(5,vp 6 0),(8,vp 7 0),(9,vb false),(10,vp 8 0),(12,vp 9 0),(52,vN s.vars.length),(53,vN j),(54,vb (decide ((j:Int)<(s.vars.length:Int))))] [(5,.box (zai s)),(6,.box [.d (.sl 1 (x.locs.map zad)),.d (.sl 2 (x.vals.map ziD))]),(7,.box [.d (.raw za4),.d (.raw za4)]),(8,.box ([.d (.raw (.int .i64 c.proc)),.d (.raw (.int .i64 c.from_)),.d (.raw (.int .i64 c.to_)),.d (.raw (.int .i64 c.guard.kind)),.d (.sl 3 (c.guard.r.t.parts.map zbr.d))]++zi c.guard.r.t.k++[.d (.raw (.bool c.guard.r.eq)),.d (.sl 6 (c.guard.kids.map za8.d)),.d (.sl 5 (c.moves.map zaf.d))])),(9,.box ([.d (.sl 1 (z_.map zad)),.d (.sl 2 (((List.range j).map (zc4 x c picks)++(x.vals.map clZ).drop j).map ziD))]))]) (show ((x.locs.set k c.to_):List Int)=(zcn s x c picks).locs from (by show _=x.locs.set c.proc.toNat c.to_;rw [show c.proc.toNat=k by omega])) h;rw [show (((List.range j).map (zc4 x c picks)++(x.vals.map clZ).drop j):List ZI)=(zcn s x c picks).vals from (by rw [show j=s.vars.length by omega,range_end (by rw [List.length_map];omega)];rfl)] at h;refine Jq 11 [(2,.call (zhv s (zcn s x c picks) (L:=L) (M:=L+M+2) (by omega) hs (outS_ok hs hx hc hp)) kg_9)] [(8,vp 7 0),(9,vb false),(12,vp 9 0),(89,vb (!(zbu s (zcn s x c picks))))] [(7,.box [.d (.raw za4),.d (.raw za4)]),(9,.box [.d (.sl 1 ((zcn s x c picks).locs.map zad)),.d (.sl 2 ((zcn s x c picks).vals.map ziD))])] h fun a w h=>cS (!(zbu s (zcn s x c picks))) h (fun hc9=>?_) (fun hc10=>?_)
 ·have hc9':=hc9;(try simp at hc9');refine Je 11 [] [89] [] h fun a w h=>qV (za2 ?_);replace h:=zbj 7 0 1 [.d (.raw za4),.d (.raw za4)] [(8,vp 7 0),(9,vb false),(12,vp 9 0)] [(7,.box [.d (.sl 1 ([].map zad)),.d (.raw za4)]),(9,.box [.d (.sl 1 ((zcn s x c picks).locs.map zad)),.d (.sl 2 ((zcn s x c picks).vals.map ziD))])] h rfl rfl;replace h:=zbj 7 1 2 [.d (.sl 1 ([].map zad)),.d (.raw za4)] [(8,vp 7 0),(9,vb false),(12,vp 9 0)] [(7,.box [.d (.sl 1 ([].map zad)),.d (.sl 2 ([].map ziD))]),(9,.box [.d (.sl 1 ((zcn s x c picks).locs.map zad)),.d (.sl 2 ((zcn s x c picks).vals.map ziD))])] h rfl rfl;refine zdb [.agg [.d (.sl 1 ([].map zad)),.d (.sl 2 ([].map ziD))],.c (.d (.raw (.bool false)))] h Exit.ret (.inl rfl)  rfl ⟨RV.agg _ 7 0 _ _ _ _ kk_5 rfl rfl rfl rfl,RV.tmp _ _ rfl,trivial⟩ ?_;have hz:goC s x c picks=(st0,false):=by unfold goC;rw [if_neg (fun h=>by have:=h.2;rw [(show (zbu s (zcn s x c picks))=false from by simpa using hc9)] at this;cases this)]
  rw [hz];try rfl
 have hc10':=hc10;(try simp at hc10');refine qU (za0 (Jq 11 [] [(8,vp 7 0),(9,vb true)] [(7,.box [.d (.sl 1 ((zcn s x c picks).locs.map zad)),.d (.sl 2 ((zcn s x c picks).vals.map ziD))])] h fun a w h=>qV (zdb [.agg [.d (.sl 1 ((zcn s x c picks).locs.map zad)),.d (.sl 2 ((zcn s x c picks).vals.map ziD))],.c (.d (.raw (.bool true)))] h Exit.ret (.inl rfl)  rfl ⟨RV.agg _ 7 0 _ _ _ _ kk_5 rfl rfl rfl rfl,RV.tmp _ _ rfl,trivial⟩ ?_)));have hz:goC s x c picks=(zcn s x c picks,true):=by unfold goC;rw [if_pos ⟨(show (zaj s x c)=true from by simpa using hc2),(show (zbu s (zcn s x c picks))=true from by simpa using hc10)⟩]
 rw [hz];try rfl
theorem km_9:za6 Tryz.prog 42:=za6.mk' (by kernel_rfl)
def zdi (y:StD) (c:zaz):Nat->List ZI
  | 0=>[]
  | v+1=>if zb7 c v=true then zdi y c v++[(y.vals[v]?).getD zdz] else zdi y c v
def leadsC (s:zan) (x:StD) (c:zaz) (y:StD):Bool:=(zaj s x c && zbu s y) && ((goC s x c (zdi y c s.vars.length)).2 && zek y (goC s x c (zdi y c s.vars.length)).1)
def ze0 (s:zan) (x:StD) (i:Int) (y:StD):Bool:=if i=-1 then zee s x && zek x y else match zdy s i with | none=>false | some c=>leadsC s x c y
theorem st0_ok {M:Nat}:zd0 M st0:=⟨Nat.zero_le _,Nat.zero_le _,fun z hz=>(by cases hz)⟩
theorem SGo (s:zan) (x:StD) (i:Int) (picks:List ZI) {L M:Nat} (hL:L+M<=4000) (hs:zb1 L s) (hx:zd0 M x) (hp:∀ z ∈ picks,ZOk M z):Fn Tryz.prog 42 [] [vG (zai s),vG [cIs x.locs,cZs x.vals],vi .i64 i,(vZs picks)] (.tup [.agg [cIs (goS s x i picks).1.locs,cZs (goS s x i picks).1.vals],.c (cB (goS s x i picks).2)]) []:=by
 by_cases hn:i=-1/\zee s x=true
 ·obtain ⟨rfl,hst⟩:=hn
  have:goS s x (-1) picks=(cloneS x,true):=by unfold goS;rw [if_pos ⟨rfl,hst⟩]
  rw [this];exact SGo1 s x picks hL hs hx hp hst
 ·cases hi:zdy s i with
  | none =>
   have:goS s x i picks=(st0,false):=by unfold goS;rw [if_neg hn,hi]
   rw [this];exact SGo2 s x i picks hL hs hx hp hn hi
  | some c =>
   have:goS s x i picks=goC s x c picks:=by unfold goS;rw [if_neg hn,hi]
   rw [this];exact SGo3 s x i picks c hL hs hx hp hi
theorem kn_0:SlT Tryz.prog 42 47 2:=SlT.mk' Tryz.underlying42 (by kernel_rfl)
theorem kn_1:ElT Tryz.prog 42 47 2 48:=ElT.mk' Tryz.underlying42 _ _ rfl rfl (by kernel_rfl) (by kernel_rfl) (by kernel_rfl) (by decide) (by decide)
theorem kn_6:za6 Tryz.prog 33:=za6.mk' (by kernel_rfl)
theorem kn_10:SlT Tryz.prog 57 110 9:=SlT.mk' Tryz.underlying57 (by kernel_rfl)
theorem kn_11:za6 Tryz.prog 148:=za6.mk' (by kernel_rfl)
theorem kn_12:ElZ Tryz.prog 59 4 1:=ElZ.mk' Tryz.underlying59 _ _ rfl rfl (by kernel_rfl) (by kernel_rfl) (by kernel_rfl) (by decide)
theorem kn_13:ElT Tryz.prog 59 4 1 1:=ElT.mk' Tryz.underlying59 _ _ rfl rfl (by kernel_rfl) (by kernel_rfl) (by kernel_rfl) (by decide) (by decide)
theorem kn_14:za6 Tryz.prog 138:=za6.mk' (by kernel_rfl)
structure RunOk (M:Nat) (r:RunD):Prop where
  len:r.stem.length+r.cycle.length<=20
  stem:∀ x ∈ r.stem,zd0 M x
  cycle:∀ x ∈ r.cycle,zd0 M x
theorem RunOk.all {M:Nat} {r:RunD} (h:RunOk M r):∀ x ∈ r.stem++r.cycle,zd0 M x:=fun x hx=>(List.mem_append.1 hx).elim (h.stem x) (h.cycle x)
def nxt (r:RunD) (i:Nat):StD:=if i+1<(r.stem++r.cycle).length then ((r.stem++r.cycle)[i+1]?).getD st0 else (r.cycle[0]?).getD st0
def stepOk (s:zan) (r:RunD) (i:Nat):Bool:=ze0 s (((r.stem++r.cycle)[i]?).getD st0) ((r.acts[i]?).getD 0) (nxt r i)
def right (s:zan) (r:RunD):Bool:=decide (r.cycle.length≠0/\r.acts.length=(r.stem++r.cycle).length) && (first s (((r.stem++r.cycle)[0]?).getD st0) && zer (r.stem++r.cycle).length (stepOk s r))
def zbq (p:zb4) (x:StD):Bool:=if p.at_=true then decide (0<=p.proc/\p.proc<(x.locs.length:Int)) && ((x.locs[p.proc.toNat]?).getD 0 == p.loc) else p.f.holds x.vals
def zec (L:Nat) (p:zb4):Prop:=p.f.lb/\p.f.ok L
def letter (ps:List zb4) (x:StD):List Bool:=ps.map fun p=>zbq p x
theorem SholdsP (p:zb4) (x:StD) {L M:Nat} (hL:L+M<=4000) (hp:zec L p) (hx:zd0 M x):Fn Tryz.prog 148 [] [vG ([cB p.at_,cI p.proc,cI p.loc,cI p.f.kind,cPs p.f.r.t.parts]++zi p.f.r.t.k++[cB p.f.r.eq,cFs p.f.kids]),vG [cIs x.locs,cZs x.vals]] (vb (zbq p x)) []:=by
 have lx1:=hx.locs;refine Fn.body Tryz.func148 rfl 34 rfl fun w H B a h=>Jq 0 [] [(2,vp 0 0),(3,vp 1 0),(4,vb false)] [(0,.box ([cB p.at_,cI p.proc,cI p.loc,cI p.f.kind,cPs p.f.r.t.parts]++zi p.f.r.t.k++[cB p.f.r.eq,cFs p.f.kids])),(1,.box [cIs x.locs,cZs x.vals])] h fun a w h=>qW (Je 2 [] [] [(6,vb p.at_)] h fun a w h=>cS p.at_ h (fun hc1=>?_) (fun hc6=>?_))
 ·rcases Bool.eq_false_or_eq_true (decide (p.proc>=0)) with hc2 | hc5
  ·have hc2':=dT hc2
   rcases Bool.eq_false_or_eq_true (decide (p.proc<(x.locs.length:Int))) with hc3 | hc4
   ·have hc3':=dT hc3;obtain ⟨k,hkk⟩:∃ k_:Nat,p.proc=(k_:Int):=⟨_,(Int.toNat_of_nonneg (by have:=dT hc2;omega)).symm⟩;replace h:=h.conv (f':=F.of [(2,vp 0 0),(3,vp 1 0),(4,vb false),(6,vb p.at_)] [(0,.box ([cB p.at_,cI (k:Int),cI p.loc,cI p.f.kind,cPs p.f.r.t.parts]++zi p.f.r.t.k++[cB p.f.r.eq,cFs p.f.kids])),(1,.box [cIs x.locs,cZs x.vals])]) (by rw [hkk];kernel_rfl);obtain ⟨x1,hx1⟩:=gl x.locs k;refine Jq 2 [(2,.cmp (op:=.geq) (m:=(k:Int)) (n:=0) (b:=true) .i64 (show (decide ((k:Int)>=0))=true from by rw [<- hkk];exact hc2)),(8,.len (za3 1 zad x.locs)),(9,.cmp (op:=.lss) (m:=(k:Int)) (n:=(x.locs.length:Int)) (b:=true) .i64 (show (decide ((k:Int)<(x.locs.length:Int)))=true from by rw [<- hkk];exact hc3)),(16,.g (xD 23 20 zdo (zab hx1 (f:=zad)) (OV.tmp 22 _)))] [(2,vp 0 0),(3,vp 1 0),(4,vb (x1 == p.loc))] [(0,.box ([cB p.at_,cI (k:Int),cI p.loc,cI p.f.kind,cPs p.f.r.t.parts]++zi p.f.r.t.k++[cB p.f.r.eq,cFs p.f.kids])),(1,.box [cIs x.locs,cZs x.vals])] h fun a w h=>qV (za2 (rT (.c (cB (x1 == p.loc))) h rfl ?_));have hz:zbq p x=(x1 == p.loc):=by unfold zbq;rw [if_pos hc1];rw [decide_eq_true (p:=0<=p.proc/\p.proc<(x.locs.length:Int)) (by have:=dT hc2;have:=dT hc3;omega),show p.proc.toNat=k by omega,hx1];rfl
    rw [hz];try rfl
   have hc4':=dF hc4;refine Je 2 [(2,.cmp (op:=.geq) (m:=p.proc) (n:=0) (b:=true) .i64 hc2),(8,.len (za3 1 zad x.locs)),(9,.cmp (op:=.lss) (m:=p.proc) (n:=(x.locs.length:Int)) (b:=false) .i64 hc4)] [6] [] h fun a w h=>qV (za2 (rT (.c (cB false)) h rfl ?_));have hz:zbq p x=(false):=by unfold zbq;rw [if_pos hc1];rw [decide_eq_false (by have:=dF hc4;omega)];rfl
   rw [hz];try rfl
  have hc5':=dF hc5;refine Je 2 [(2,.cmp (op:=.geq) (m:=p.proc) (n:=0) (b:=false) .i64 hc5)] [6] [] h fun a w h=>qV (za2 (rT (.c (cB false)) h rfl ?_));have hz:zbq p x=(false):=by unfold zbq;rw [if_pos hc1];rw [decide_eq_false (by have:=dF hc5;omega)];rfl
  rw [hz];try rfl
 refine qU (za0 (Jq 2 [(4,.call (SHolds x.vals (L:=L) (M:=M) (by omega) hx.vok p.f hp.1 hp.2) ke_4)] [(4,vb (za8.holds x.vals p.f))] [] h fun a w h=>qV (rT (.c (cB (za8.holds x.vals p.f))) h rfl ?_)));have hz:zbq p x=(za8.holds x.vals p.f):=by unfold zbq;rw [if_neg (by rw [hc6];exact Bool.noConfusion)]
 rw [hz];try rfl
theorem SLetter (ps:List zb4) (x:StD) {L M:Nat} (hL:L+M<=4000) (hps:∀ p ∈ ps,zec L p) (hpl:ps.length<=1000) (hx:zd0 M x):Fn Tryz.prog 138 [] [vS 9 (ps.map zb4.d),vG [cIs x.locs,cZs x.vals]] (vS 1 ((letter ps x).map zaq)) []:=by
 refine Fn.body Tryz.func138 rfl 22 rfl fun w H B a h=>Jq 0 [] [(0,vS 9 (ps.map zb4.d)),(3,vp 0 0),(4,vW za4)] [(0,.box [cIs x.locs,cZs x.vals])] h fun a w h=>Je 1 [] [] [(5,vW za4)] h fun a w h=>qW ?_
 replace h:=ze5 5 0 1 1 4 (vW za4) [(0,vS 9 (ps.map zb4.d)),(3,vp 0 0),(4,vW za4),(5,vO 1 0)] [(0,.box [cIs x.locs,cZs x.vals]),(1,.row 4 1 ([].map zaq))] h (by kernel_rfl) rfl rfl;refine Je 2 [(1,.len (za3 9 zb4.d ps))] [0] [(8,vS 9 (ps.map zb4.d)),(9,vN ps.length),(10,vI 0)] h fun a w h=>qZ ?_
 refine zb5 (ι:=(Nat)) (fun j=>j<=ps.length)
   (fun j=>[(3,vp 0 0),(4,vW za4),(5,vO 1 ((ps.take j).map (fun p=>zbq p x)).length),(8,vS 9 (ps.map zb4.d)),(9,vN ps.length),(10,vN j)])
   (fun j=>[(0,.box [cIs x.locs,cZs x.vals]),(1,.row 4 1 (((ps.take j).map (fun p=>zbq p x)).map zaq))])
   (fun j=>ps.length - j) 0 ?_ h (by kernel_rfl) (by kernel_rfl) ?_
 ·exact Nat.zero_le _
 clear h;rintro j a w hI h;have hfl:((ps.take j).map (fun p=>zbq p x)).length<=j:=by rw [List.length_map,List.length_take];omega
 refine Je 2 [] [] [(11,vb (decide ((j:Int)<(ps.length:Int))))] h fun a w h=>qW (zap ((j:Int)<(ps.length:Int)) h (fun hc1 hc1'=>?_) (fun hc2 hc2'=>?_))
 ·refine qU (za0 (qW (qZ ?_)));obtain ⟨x1,hx1⟩:=gl ps j;refine Jd 2 [(0,.g (xD 12 8 kn_10 (zab hx1 (f:=zb4.d)) (OV.tmp 10 _)))] [11] [(7,vp 2 0)] [(0,.box [cIs x.locs,cZs x.vals]),(1,.row 4 1 (((ps.take j).map (fun p=>zbq p x)).map zaq)),(2,.box ([cB x1.at_,cI x1.proc,cI x1.loc,cI x1.f.kind,cPs x1.f.r.t.parts]++zi x1.f.r.t.k++[cB x1.f.r.eq,cFs x1.f.kids]))] h fun a w h=>Jm 3 [(3,.call (SholdsP x1 x hL (hps x1 (lM hx1)) hx) kn_11),(4,.g (bD 18 ([zbq x1 x].map zaq) [(17,vb (zbq x1 x))] kn_12 (.cons (i:=0) (OV.tmp 17 _) (.nil)) (by kernel_rfl) (by simp [zaq]))),(5,.g (aD 19 14 18 1 3 ((ps.take j).map (fun p=>zbq p x)) [zbq x1 x] zaq kn_13 (by simp [zaq])))] [7] [(5,vO 3 (((ps.take j).map (fun p=>zbq p x))++[zbq x1 x]).length)] [(0,.box [cIs x.locs,cZs x.vals]),(3,.row 4 1 ((((ps.take j).map (fun p=>zbq p x))++[zbq x1 x]).map zaq))] h fun a w h=>zac (za0 (Jf 4 [(0,.j1 j)] [] [(10,vI ((j:Int)+1))] h fun a w h=>za0 ?_));rw [show ((((ps.take j).map (fun p=>zbq p x))++[zbq x1 x]):List Bool)=((ps.take (j+1)).map (fun p=>zbq p x)) from (by rw [<- map_snoc hx1])] at h;replace h:=zd9 3 1 [(3,vp 0 0),(4,vW za4),(5,vO 1 ((ps.take (j+1)).map (fun p=>zbq p x)).length),(8,vS 9 (ps.map zb4.d)),(9,vN ps.length),(10,vI ((j:Int)+1))] [(0,.box [cIs x.locs,cZs x.vals]),(1,.row 4 1 (((ps.take (j+1)).map (fun p=>zbq p x)).map zaq))] h;refine zag (x:=j) (y:=j+1) h ?_ ?_
  ·have:=zak hx1;show j+1<=ps.length;omega
  show ps.length - (j+1)<ps.length - j;have:=zak hx1;omega
 refine wp_exit (zaa (zaa (za5 (za0 (Jq 4 [] [(4,vO 1 ((ps.take j).map (fun p=>zbq p x)).length)] [(1,.row 4 1 (((ps.take j).map (fun p=>zbq p x)).map zaq))] h fun a w h=>qV ?_)))));rw [show (((ps.take j).map (fun p=>zbq p x)):List Bool)=(ps.map (fun p=>zbq p x)) from (by rw [List.take_of_length_le (by omega)])] at h;replace h:=pubS 1 1 4 ((ps.map (fun p=>zbq p x)).map zaq) [(4,vS 1 ((ps.map (fun p=>zbq p x)).map zaq))] [] h rfl (show zcj _ [(ps.map (fun p=>zbq p x)).length] from ⟨by first | exact (List.length_map _).symm | (simp;done) | (simp;omega),trivial⟩) trivial;refine rT (.c (.d (.sl 1 ((ps.map (fun p=>zbq p x)).map zaq)))) h rfl ?_;rfl
theorem SRmove (c:zaz) (v:Nat) (hl:c.moves.length<=20):Fn Tryz.prog 46 [] [vG ([cI c.proc,cI c.from_,cI c.to_,cI c.guard.kind,cPs c.guard.r.t.parts]++zi c.guard.r.t.k++[cB c.guard.r.eq,cFs c.guard.kids,.d (.sl 5 (c.moves.map zaf.d))]),vN v] (vI (zcf (fun m=>m.v == (v:Int)) c.moves 0)) []:=by
 refine Fn.body Tryz.func46 rfl 22 rfl fun w H B a h=>Jq 0 [] [(1,vN v),(2,vp 0 0),(4,vI 0)] [(0,.box ([cI c.proc,cI c.from_,cI c.to_,cI c.guard.kind,cPs c.guard.r.t.parts]++zi c.guard.r.t.k++[cB c.guard.r.eq,cFs c.guard.kids,.d (.sl 5 (c.moves.map zaf.d))]))] h fun a w h=>qW (Je 1 [] [] [(5,vI 0)] h fun a w h=>qZ ?_)
 refine zb5 (ι:=(Nat)) (fun j=>j<=c.moves.length/\zcf (fun m=>m.v == (v:Int)) c.moves 0=zcf (fun m=>m.v == (v:Int)) (c.moves.drop j) j)
   (fun j=>[(1,vN v),(2,vp 0 0),(5,vN j)])
   (fun j=>[(0,.box ([cI c.proc,cI c.from_,cI c.to_,cI c.guard.kind,cPs c.guard.r.t.parts]++zi c.guard.r.t.k++[cB c.guard.r.eq,cFs c.guard.kids,.d (.sl 5 (c.moves.map zaf.d))]))])
   (fun j=>c.moves.length - j) 0 ?_ h (by kernel_rfl) (by kernel_rfl) ?_
 ·exact ⟨Nat.zero_le _,rfl⟩
 clear h;rintro j a w hI h;obtain ⟨hI1,hI2⟩:=hI;refine qW (Je 1 [(3,.len (za3 5 zaf.d c.moves))] [] [(10,vb (decide ((j:Int)<(c.moves.length:Int))))] h fun a w h=>zap ((j:Int)<(c.moves.length:Int)) h (fun hc1 hc1'=>?_) (fun hc4 hc4'=>?_))
 ·refine qU (za0 (qW (qZ ?_)));obtain ⟨x1,hx1⟩:=gl c.moves j;refine Je 1 [(3,.g (xD 16 14 ki_2 (zab hx1 (f:=zaf.d)) (OV.tmp 15 _)))] [10] [(20,vb (x1.v == (v:Int)))] h fun a w h=>cS (x1.v == (v:Int)) h (fun hc2=>?_) (fun hc3=>?_)
  ·have hc2':=hc2;(try simp at hc2');refine Je 1 [] [20] [(4,vN j)] h fun a w h=>qV (za7 (za2 (za2 (za7 (za2 (rT (.c (cI (j:Int))) h rfl ?_))))));have hz:zcf (fun m=>m.v == (v:Int)) c.moves 0=(j:Int):=by rw [hI2,zca hx1,if_pos hc2]
   rw [hz];try rfl
  have hc3':=hc3;(try simp at hc3');refine qU (zac (za0 (Jf 1 [(1,.j1 j)] [20] [(5,vI ((j:Int)+1))] h fun a w h=>za0 (zag (x:=j) (y:=j+1) h ?_ ?_))))
  ·exact ⟨by have:=zak hx1;omega,by rw [hI2,zca hx1,if_neg (by rw [hc3];exact Bool.noConfusion)]⟩
  show c.moves.length - (j+1)<c.moves.length - j;have:=zak hx1;omega
 refine wp_exit (zaa (zaa (za5 (za0 (Jq 1 [] [(4,vI (-1))] [] h fun a w h=>qV (rT (.c (cI (-1))) h rfl ?_))))));have hz:zcf (fun m=>m.v == (v:Int)) c.moves 0=-1:=by rw [hI2,List.drop_of_length_le (by omega)];rfl
 rw [hz];try rfl
theorem there_no {s:zan} {m:zaf} (h1:decide (m.v<0)=false) (h2:decide (m.v>=(s.vars.length:Int))=false):(!zdq s m)=false:=by
 have:=of_decide_eq_false h1;have:=of_decide_eq_false h2
 unfold zdq;rw [decide_eq_true (by omega),decide_eq_true (by omega)];rfl
theorem there_lo {s:zan} {m:zaf} (h1:decide (m.v<0)=true):(!zdq s m)=true:=by
 have:=of_decide_eq_true h1;unfold zdq;rw [decide_eq_false (by omega)];rfl
theorem there_hi {s:zan} {m:zaf} (h2:decide (m.v>=(s.vars.length:Int))=true):(!zdq s m)=true:=by
 have:=of_decide_eq_true h2;unfold zdq;rw [decide_eq_false (p:=m.v<(s.vars.length:Int)) (by omega),Bool.and_false];rfl
theorem SRbeginsN (s:zan) (x:StD) (i:Int) {L M:Nat} (_hL:L+M<=4000) (_hs:zb1 L s) (_hx:zd0 M x) (hi:zdy s i=none):Fn Tryz.prog 45 [] [vG (zai s),vG [cIs x.locs,cZs x.vals],vI i] (vb false) []:=by
 refine Fn.body Tryz.func45 rfl 100 rfl fun w H B a h=>Jq 0 [] [(2,vI i),(3,vp 0 0),(4,vp 1 0),(6,vb false)] [(0,.box (zai s)),(1,.box [cIs x.locs,cZs x.vals])] h fun a w h=>qW ?_
 rcases Bool.eq_false_or_eq_true (decide (i<0)) with hc1 | hc2
 ·have hc1':=dT hc1;refine Je 2 [(1,.cmp (op:=.lss) (m:=i) (n:=0) (b:=true) .i64 hc1)] [] [(23,vb true)] h fun a w h=>cS true h (fun _=>?_) nofun
  refine Je 2 [] [23] [] h fun a w h=>qV (za2 (rT (.c (cB false)) h rfl ?_));rfl
 have hc2':=dF hc2;refine Je 2 [(1,.cmp (op:=.lss) (m:=i) (n:=0) (b:=false) .i64 hc2),(6,.len (za3 10 zaz.d s.acts)),(7,.cmp (op:=.geq) (m:=i) (n:=(s.acts.length:Int)) (b:=true) .i64 (decide_eq_true (by have:=actAt_none hi;have:=dF hc2;omega)))] [] [(23,vb true)] h fun a w h=>cS true h (fun _=>?_) nofun
 refine Je 2 [] [23] [] h fun a w h=>qV (za2 (rT (.c (cB false)) h rfl ?_));rfl
theorem zh6 (s:zan) (x:StD) (ki:Nat) (c:zaz) {L M:Nat} (hL:L+M<=4000) (hs:zb1 L s) (hx:zd0 M x) (hka:s.acts[ki]?=some c):Fn Tryz.prog 45 [] [vG (zai s),vG [cIs x.locs,cZs x.vals],vN ki] (vb (zaj s x c)) []:=by
 have lx1:=hx.locs;have lx2:=hx.vals;have ls1:=hs.vars;have ls2:=hs.procs;have lki:=zak hka;have hc:zgk L c:=hs.act c (lM hka);have lmv:=hc.len;refine Fn.body Tryz.func45 rfl 100 rfl fun w H B a h=>Jq 0 [] [(2,vN ki),(3,vp 0 0),(4,vp 1 0),(6,vb false)] [(0,.box (zai s)),(1,.box [cIs x.locs,cZs x.vals])] h fun a w h=>qW (Je 2 [(1,.cmp (op:=.lss) (m:=(ki:Int)) (n:=0) (b:=false) .i64 (show (decide ((ki:Int)<0))=false from decide_eq_false (by omega))),(6,.len (za3 10 zaz.d s.acts)),(7,.cmp (op:=.geq) (m:=(ki:Int)) (n:=(s.acts.length:Int)) (b:=false) .i64 (show (decide ((ki:Int)>=(s.acts.length:Int)))=false from decide_eq_false (by omega))),(12,.call (SRFits s x (L:=L) (M:=M) (by omega) hs hx) kh_6)] [] [(23,vb (!(zbu s x)))] h fun a w h=>cS (!(zbu s x)) h (fun hc1=>?_) (fun hc2=>?_))
 ·have hc1':=hc1;(try simp at hc1');refine Je 2 [] [23] [] h fun a w h=>qV (za2 (rT (.c (cB false)) h rfl ?_));have hz:zaj s x c=false:=by unfold zaj;rw [(show (zbu s x)=false from by simpa using hc1)];rfl
  rw [hz];try rfl
 have hc2':=hc2;(try simp at hc2');refine qU (za0 (Jd 2 [(3,.g (xD 27 25 ki_1 (zab hka (f:=zaz.d)) (OV.tmp 26 _)))] [2,23] [(7,vp 2 0)] [(0,.box (zai s)),(1,.box [cIs x.locs,cZs x.vals]),(2,.box ([cI c.proc,cI c.from_,cI c.to_,cI c.guard.kind,cPs c.guard.r.t.parts]++zi c.guard.r.t.k++[cB c.guard.r.eq,cFs c.guard.kids,.d (.sl 5 (c.moves.map zaf.d))]))] h fun a w h=>qW ?_))
 rcases Bool.eq_false_or_eq_true (decide (c.proc<0)) with hc3 | hc4
 ·have hc3':=dT hc3;refine Je 3 [(2,.cmp (op:=.lss) (m:=c.proc) (n:=0) (b:=true) .i64 hc3)] [] [(68,vb true)] h fun a w h=>cS true h (fun _=>?_) nofun
  refine Je 3 [] [68] [] h fun a w h=>qV (za2 (rT (.c (cB false)) h rfl ?_));have hz:zaj s x c=(false):=by unfold zaj;rw [(show (zbu s x)=true from by simpa using hc2),Bool.true_and];rw [decide_eq_false (p:=0<=c.proc/\c.proc<(s.procs.length:Int)) (by have:=dT hc3;omega)];rfl
  rw [hz];try rfl
 have hc4':=dF hc4
 rcases Bool.eq_false_or_eq_true (decide (c.proc>=(s.procs.length:Int))) with hc5 | hc6
 ·have hc5':=dT hc5;refine Je 3 [(2,.cmp (op:=.lss) (m:=c.proc) (n:=0) (b:=false) .i64 hc4),(8,.len (za3 3 zav.d s.procs)),(9,.cmp (op:=.geq) (m:=c.proc) (n:=(s.procs.length:Int)) (b:=true) .i64 hc5)] [] [(68,vb true)] h fun a w h=>cS true h (fun _=>?_) nofun
  refine Je 3 [] [68] [] h fun a w h=>qV (za2 (rT (.c (cB false)) h rfl ?_));have hz:zaj s x c=(false):=by unfold zaj;rw [(show (zbu s x)=true from by simpa using hc2),Bool.true_and];rw [decide_eq_false (p:=0<=c.proc/\c.proc<(s.procs.length:Int)) (by have:=dT hc5;omega)];rfl
  rw [hz];try rfl
 have hc6':=dF hc6;have hfl:=zch (show (zbu s x)=true from by simpa using hc2);obtain ⟨k,hkk⟩:∃ k_:Nat,c.proc=(k_:Int):=⟨_,(Int.toNat_of_nonneg (by have:=dF hc4;omega)).symm⟩;replace h:=h.conv (f':=F.of [(3,vp 0 0),(4,vp 1 0),(6,vb false),(7,vp 2 0)] [(0,.box (zai s)),(1,.box [cIs x.locs,cZs x.vals]),(2,.box ([cI (k:Int),cI c.from_,cI c.to_,cI c.guard.kind,cPs c.guard.r.t.parts]++zi c.guard.r.t.k++[cB c.guard.r.eq,cFs c.guard.kids,.d (.sl 5 (c.moves.map zaf.d))]))]) (by rw [hkk];kernel_rfl);obtain ⟨x2,hx2⟩:=gl x.locs k
 rcases Bool.eq_false_or_eq_true (x2 != c.from_) with hc7 | hc8
 ·have hc7':=hc7;(try simp at hc7');refine Jq 3 [(2,.cmp (op:=.lss) (m:=(k:Int)) (n:=0) (b:=false) .i64 (show (decide ((k:Int)<0))=false from by rw [<- hkk];exact hc4)),(8,.len (za3 3 zav.d s.procs)),(9,.cmp (op:=.geq) (m:=(k:Int)) (n:=(s.procs.length:Int)) (b:=false) .i64 (show (decide ((k:Int)>=(s.procs.length:Int)))=false from by rw [<- hkk];exact hc6)),(16,.g (xD 45 42 zdo (zab hx2 (f:=zad)) (OV.tmp 44 _))),(20,.cmp (op:=.neq) (m:=x2) (n:=c.from_) (b:=true) .i64 hc7)] [(3,vp 0 0),(4,vp 1 0),(6,vb false),(7,vp 2 0),(68,vb true)] [(0,.box (zai s)),(1,.box [cIs x.locs,cZs x.vals]),(2,.box ([cI (k:Int),cI c.from_,cI c.to_,cI c.guard.kind,cPs c.guard.r.t.parts]++zi c.guard.r.t.k++[cB c.guard.r.eq,cFs c.guard.kids,.d (.sl 5 (c.moves.map zaf.d))]))] h fun a w h=>cS true h (fun _=>?_) nofun
  refine Je 3 [] [68] [] h fun a w h=>qV (za2 (rT (.c (cB false)) h rfl ?_));have hz:zaj s x c=(false):=by unfold zaj;rw [(show (zbu s x)=true from by simpa using hc2),Bool.true_and];rw [decide_eq_true (p:=0<=c.proc/\c.proc<(s.procs.length:Int)) (by have:=dF hc4;have:=dF hc6;omega),show c.proc.toNat=k by omega,hx2,Option.getD_some,Bool.true_and];rw [show (x2 == c.from_)=false by have:=hc7;simpa using this];rfl
  rw [hz];try rfl
 have hc8':=hc8;(try simp at hc8')
 rcases Bool.eq_false_or_eq_true (decide (c.to_<0)) with hc9 | hc10
 ·have hc9':=dT hc9;refine Jq 3 [(2,.cmp (op:=.lss) (m:=(k:Int)) (n:=0) (b:=false) .i64 (show (decide ((k:Int)<0))=false from by rw [<- hkk];exact hc4)),(8,.len (za3 3 zav.d s.procs)),(9,.cmp (op:=.geq) (m:=(k:Int)) (n:=(s.procs.length:Int)) (b:=false) .i64 (show (decide ((k:Int)>=(s.procs.length:Int)))=false from by rw [<- hkk];exact hc6)),(16,.g (xD 45 42 zdo (zab hx2 (f:=zad)) (OV.tmp 44 _))),(20,.cmp (op:=.neq) (m:=x2) (n:=c.from_) (b:=false) .i64 hc8),(25,.cmp (op:=.lss) (m:=c.to_) (n:=0) (b:=true) .i64 hc9)] [(3,vp 0 0),(4,vp 1 0),(6,vb false),(7,vp 2 0),(68,vb true)] [(0,.box (zai s)),(1,.box [cIs x.locs,cZs x.vals]),(2,.box ([cI (k:Int),cI c.from_,cI c.to_,cI c.guard.kind,cPs c.guard.r.t.parts]++zi c.guard.r.t.k++[cB c.guard.r.eq,cFs c.guard.kids,.d (.sl 5 (c.moves.map zaf.d))]))] h fun a w h=>cS true h (fun _=>?_) nofun
  refine Je 3 [] [68] [] h fun a w h=>qV (za2 (rT (.c (cB false)) h rfl ?_));have hz:zaj s x c=(false):=by unfold zaj;rw [(show (zbu s x)=true from by simpa using hc2),Bool.true_and];rw [decide_eq_true (p:=0<=c.proc/\c.proc<(s.procs.length:Int)) (by have:=dF hc4;have:=dF hc6;omega),show c.proc.toNat=k by omega,hx2,Option.getD_some,Bool.true_and];rw [show (x2 == c.from_)=true by have:=hc8;simpa using this,Bool.true_and];rw [decide_eq_false (by have:=dT hc9;omega)];rfl
  rw [hz];try rfl
 have hc10':=dF hc10;obtain ⟨x3,hx3⟩:=gl s.procs k;refine Jq 3 [(2,.cmp (op:=.lss) (m:=(k:Int)) (n:=0) (b:=false) .i64 (show (decide ((k:Int)<0))=false from by rw [<- hkk];exact hc4)),(8,.len (za3 3 zav.d s.procs)),(9,.cmp (op:=.geq) (m:=(k:Int)) (n:=(s.procs.length:Int)) (b:=false) .i64 (show (decide ((k:Int)>=(s.procs.length:Int)))=false from by rw [<- hkk];exact hc6)),(16,.g (xD 45 42 zdo (zab hx2 (f:=zad)) (OV.tmp 44 _))),(20,.cmp (op:=.neq) (m:=x2) (n:=c.from_) (b:=false) .i64 hc8),(25,.cmp (op:=.lss) (m:=c.to_) (n:=0) (b:=false) .i64 hc10),(34,.g (xD 63 60 kf_5 (zab hx3 (f:=zav.d)) (OV.tmp 62 _))),(37,.len (za3 1 zc6 x3.locs))] [(3,vp 0 0),(4,vp 1 0),(6,vb false),(7,vp 2 0),(68,vb (decide (c.to_>=(x3.locs.length:Int))))] [(0,.box (zai s)),(1,.box [cIs x.locs,cZs x.vals]),(2,.box ([cI (k:Int),cI c.from_,cI c.to_,cI c.guard.kind,cPs c.guard.r.t.parts]++zi c.guard.r.t.k++[cB c.guard.r.eq,cFs c.guard.kids,.d (.sl 5 (c.moves.map zaf.d))]))] h fun a w h=>zap (c.to_>=(x3.locs.length:Int)) h (fun hc11 hc11'=>?_) (fun hc12 hc12'=>?_)
 ·refine Je 3 [] [68] [] h fun a w h=>qV (za2 (rT (.c (cB false)) h rfl ?_));have hz:zaj s x c=(false):=by unfold zaj;rw [(show (zbu s x)=true from by simpa using hc2),Bool.true_and];rw [decide_eq_true (p:=0<=c.proc/\c.proc<(s.procs.length:Int)) (by have:=dF hc4;have:=dF hc6;omega),show c.proc.toNat=k by omega,hx2,Option.getD_some,Bool.true_and];rw [show (x2 == c.from_)=true by have:=hc8;simpa using this,Bool.true_and];rw [show zdj s k=x3.locs.length by unfold zdj;rw [hx3];rfl];rw [decide_eq_false (by have:=dT hc11;omega)];rfl
  rw [hz];try rfl
 refine qU (za0 (qW (Je 3 [] [68] [(8,vI 0)] h fun a w h=>qZ ?_)))
 refine zb5 (ι:=(Nat)) (fun j=>j<=c.moves.length/\(c.moves.take j).any (fun m=>!zdq s m)=false)
   (fun j=>[(3,vp 0 0),(4,vp 1 0),(7,vp 2 0),(8,vN j)])
   (fun j=>[(0,.box (zai s)),(1,.box [cIs x.locs,cZs x.vals]),(2,.box ([cI (k:Int),cI c.from_,cI c.to_,cI c.guard.kind,cPs c.guard.r.t.parts]++zi c.guard.r.t.k++[cB c.guard.r.eq,cFs c.guard.kids,.d (.sl 5 (c.moves.map zaf.d))]))])
   (fun j=>c.moves.length - j) 0 ?_ h (by kernel_rfl) (by kernel_rfl) ?_
 ·exact ⟨Nat.zero_le _,rfl⟩
 clear h;rintro j a w hI h;obtain ⟨hI1,hI2⟩:=hI;refine qW (Je 3 [(3,.len (za3 5 zaf.d c.moves))] [] [(73,vb (decide ((j:Int)<(c.moves.length:Int))))] h fun a w h=>zap ((j:Int)<(c.moves.length:Int)) h (fun hc13 hc13'=>?_) (fun hc18 hc18'=>?_))
 ·refine qU (za0 (qW (qZ ?_)));obtain ⟨x4,hx4⟩:=gl c.moves j
  rcases Bool.eq_false_or_eq_true (decide (x4.v<0)) with hc14 | hc15
  ·have hc14':=dT hc14;refine Je 3 [(3,.g (xD 79 77 ki_2 (zab hx4 (f:=zaf.d)) (OV.tmp 78 _))),(6,.cmp (op:=.lss) (m:=x4.v) (n:=0) (b:=true) .i64 hc14)] [73] [(94,vb true)] h fun a w h=>cS true h (fun _=>?_) nofun
   refine Je 3 [] [94] [(6,vb false)] h fun a w h=>qV (za7 (za2 (za2 (za7 (za2 (rT (.c (cB false)) h rfl ?_))))));have hz:zaj s x c=(false):=by unfold zaj;rw [(show (zbu s x)=true from by simpa using hc2),Bool.true_and];rw [decide_eq_true (p:=0<=c.proc/\c.proc<(s.procs.length:Int)) (by have:=dF hc4;have:=dF hc6;omega),show c.proc.toNat=k by omega,hx2,Option.getD_some,Bool.true_and];rw [show (x2 == c.from_)=true by have:=hc8;simpa using this,Bool.true_and];rw [show zdj s k=x3.locs.length by unfold zdj;rw [hx3];rfl];rw [decide_eq_true (p:=0<=c.to_/\c.to_<(x3.locs.length:Int)) (by have:=dF hc10;have:=dF hc12;omega),Bool.true_and,(zit (q:=(fun m=>!zdq s m)) hx4 (there_lo hc14))];rfl
   rw [hz];try rfl
  have hc15':=dF hc15;refine Je 3 [(3,.g (xD 79 77 ki_2 (zab hx4 (f:=zaf.d)) (OV.tmp 78 _))),(6,.cmp (op:=.lss) (m:=x4.v) (n:=0) (b:=false) .i64 hc15),(11,.g (xD 87 85 ki_2 (zab hx4 (f:=zaf.d)) (OV.tmp 86 _))),(16,.len (za3 1 zc6 s.vars))] [73] [(94,vb (decide (x4.v>=(s.vars.length:Int))))] h fun a w h=>zap (x4.v>=(s.vars.length:Int)) h (fun hc16 hc16'=>?_) (fun hc17 hc17'=>?_)
  ·refine Je 3 [] [94] [(6,vb false)] h fun a w h=>qV (za7 (za2 (za2 (za7 (za2 (rT (.c (cB false)) h rfl ?_))))));have hz:zaj s x c=(false):=by unfold zaj;rw [(show (zbu s x)=true from by simpa using hc2),Bool.true_and];rw [decide_eq_true (p:=0<=c.proc/\c.proc<(s.procs.length:Int)) (by have:=dF hc4;have:=dF hc6;omega),show c.proc.toNat=k by omega,hx2,Option.getD_some,Bool.true_and];rw [show (x2 == c.from_)=true by have:=hc8;simpa using this,Bool.true_and];rw [show zdj s k=x3.locs.length by unfold zdj;rw [hx3];rfl];rw [decide_eq_true (p:=0<=c.to_/\c.to_<(x3.locs.length:Int)) (by have:=dF hc10;have:=dF hc12;omega),Bool.true_and,(zit (q:=(fun m=>!zdq s m)) hx4 (there_hi hc16))];rfl
   rw [hz];try rfl
  refine qU (zac (za0 (Jf 3 [(1,.j1 j)] [94] [(8,vI ((j:Int)+1))] h fun a w h=>za0 (zag (x:=j) (y:=j+1) h ?_ ?_))))
  ·exact ⟨by have:=zak hx4;omega,any_step hx4 hI2 (there_no hc15 hc17)⟩
  show c.moves.length - (j+1)<c.moves.length - j;have:=zak hx4;omega
 refine wp_exit (zaa (zaa (za5 (za0 (Jq 3 [(4,.call (SRHolds x.vals (L:=L) (M:=M) (by omega) hx.vok c.guard hc.guard.1 hc.guard.2) ke_10)] [(6,vb (za8.holds x.vals c.guard))] [] h fun a w h=>qV (rT (.c (cB (za8.holds x.vals c.guard))) h rfl ?_))))));have hz:zaj s x c=(za8.holds x.vals c.guard):=by unfold zaj;rw [(show (zbu s x)=true from by simpa using hc2),Bool.true_and];rw [decide_eq_true (p:=0<=c.proc/\c.proc<(s.procs.length:Int)) (by have:=dF hc4;have:=dF hc6;omega),show c.proc.toNat=k by omega,hx2,Option.getD_some,Bool.true_and];rw [show (x2 == c.from_)=true by have:=hc8;simpa using this,Bool.true_and];rw [show zdj s k=x3.locs.length by unfold zdj;rw [hx3];rfl];rw [decide_eq_true (p:=0<=c.to_/\c.to_<(x3.locs.length:Int)) (by have:=dF hc10;have:=dF hc12;omega),Bool.true_and,(any_end (q:=(fun m=>!zdq s m)) (dF hc18) hI2)];rfl
 rw [hz];try rfl
theorem kp_7:za6 Tryz.prog 45:=za6.mk' (by kernel_rfl)
theorem kp_11:za6 Tryz.prog 46:=za6.mk' (by kernel_rfl)
theorem range_keep {α:Type} {f:Nat->α} {cl:List α} {j:Nat} {y:α} (hj:cl[j]?=some y) (hy:y=f j):(List.range j).map f++cl.drop j=(List.range (j+1)).map f++cl.drop (j+1):=by
 obtain ⟨hlt,rfl⟩:=List.getElem?_eq_some_iff.1 hj
 rw [List.drop_eq_getElem_cons hlt,hy,List.range_succ,List.map_append,List.append_assoc];rfl
theorem newV_at {x:StD} {c:zaz} {picks:List ZI} {v:Nat} {p:ZI} (h:zb7 c v=true) (hp:picks[zao c v]?=some p):zc4 x c picks v=ZI.of p.val:=by unfold zc4;rw [if_pos h,hp]
theorem newV_no {x:StD} {c:zaz} {picks:List ZI} {v:Nat} (h:zb7 c v=true) (hp:¬ ((zao c v:Nat):Int)<(picks.length:Int)):zc4 x c picks v=zdz:=by unfold zc4;rw [if_pos h,List.getElem?_eq_none (by omega)]
theorem zcb {c:zaz} {v:Nat} {m:zaf} {b:Bool} (hm:zih c v=some m) (h:m.any=b):zb7 c v=b:=by unfold zb7;rw [hm];exact h
theorem zfp {c:zaz} {v:Nat} (hm:zih c v=none):zb7 c v=false:=by unfold zb7;rw [hm]
theorem new_some {x:StD} {c:zaz} {v:Nat} {m:zaf} (hm:zih c v=some m) (h:m.any=false):zbx x c v=ZI.of (valT m.t x.vals):=by unfold zbx;rw [hm];simp only;rw [if_neg (by rw [h];exact Bool.noConfusion)]
theorem new_none {x:StD} {c:zaz} {v:Nat} {z:ZI} (hm:zih c v=none) (hz:x.vals[v]?=some z):zbx x c v=clZ z:=by unfold zbx;rw [hm,hz];rfl
theorem cnt_le (c:zaz):∀ v,zao c v<=v
 | 0=>Nat.le_refl _
 | v+1=>by rw [zao];have:=cnt_le c v;split <;> omega
theorem SRGo3 (s:zan) (x:StD) (ki:Nat) (picks:List ZI) (c:zaz) {L M:Nat} (hL:L+M<=4000) (hs:zb1 L s) (hx:zd0 M x) (hp:∀ z ∈ picks,ZOk M z) (hka:s.acts[ki]?=some c) (hpl:picks.length<=9223372036854775807):Fn Tryz.prog 131 [] [vG (zai s),vG [cIs x.locs,cZs x.vals],vN ki,(vZs picks)] (.tup [.agg [cIs (goC s x c picks).1.locs,cZs (goC s x c picks).1.vals],.c (cB (goC s x c picks).2)]) []:=by
 have lx1:=hx.locs;have lx2:=hx.vals;have ls1:=hs.vars;have ls2:=hs.procs;have lki:=zak hka;have hc:zgk L c:=hs.act c (lM hka);have lmv:=hc.len;have lvv:=hx.vals;refine Fn.body Tryz.func131 rfl 139 rfl fun w H B a h=>Jq 5 [] [(2,vN ki),(3,(vZs picks)),(4,vp 5 0),(5,vp 6 0),(8,vp 7 0),(9,vb false)] [(5,.box (zai s)),(6,.box [cIs x.locs,cZs x.vals]),(7,.box [.d (.raw za4),.d (.raw za4)])] h fun a w h=>Jd 8 [] [] [(10,vp 8 0)] [(5,.box (zai s)),(6,.box [cIs x.locs,cZs x.vals]),(7,.box [.d (.raw za4),.d (.raw za4)]),(8,.box [.d (.raw za4),.d (.raw za4)])] h fun a w h=>qW ?_
 replace h:=nilOLs 8 0 9 1 3 [.d (.raw za4),.d (.raw za4)] [(2,vN ki),(3,(vZs picks)),(4,vp 5 0),(5,vp 6 0),(8,vp 7 0),(9,vb false),(10,vp 8 0)] [(5,.box (zai s)),(6,.box [cIs x.locs,cZs x.vals]),(7,.box [.d (.raw za4),.d (.raw za4)]),(8,.box [.own 9 0,.d (.raw za4)]),(9,.row 3 1 ([].map zad))] h (by kernel_rfl) rfl rfl;replace h:=nilOLs 8 1 10 2 28 [.own 9 0,.d (.raw za4)] [(2,vN ki),(3,(vZs picks)),(4,vp 5 0),(5,vp 6 0),(8,vp 7 0),(9,vb false),(10,vp 8 0)] [(5,.box (zai s)),(6,.box [cIs x.locs,cZs x.vals]),(7,.box [.d (.raw za4),.d (.raw za4)]),(8,.box [.own 9 0,.own 10 0]),(9,.row 3 1 ([].map zad)),(10,.row 28 2 ([].map ziD))] h (by kernel_rfl) rfl rfl;refine Je 11 [] [] [(11,vI 0)] h fun a w h=>qZ ?_
 refine zb5 (ι:=(Nat)) (fun j=>j<=x.locs.length)
   (fun j=>[(2,vN ki),(3,(vZs picks)),(4,vp 5 0),(5,vp 6 0),(8,vp 7 0),(9,vb false),(10,vp 8 0),(11,vN j)])
   (fun j=>[(5,.box (zai s)),(6,.box [cIs x.locs,cZs x.vals]),(7,.box [.d (.raw za4),.d (.raw za4)]),(8,.box [.own 9 (x.locs.take j).length,.own 10 0]),(9,.row 3 1 ((x.locs.take j).map zad)),(10,.row 28 2 ([].map ziD))])
   (fun j=>x.locs.length - j) 0 ?_ h (by kernel_rfl) (by kernel_rfl) ?_
 ·exact Nat.zero_le _
 clear h;rintro j a w hI h;refine qW (Je 11 [(3,.len (za3 1 zad x.locs))] [] [(22,vb (decide ((j:Int)<(x.locs.length:Int))))] h fun a w h=>zap ((j:Int)<(x.locs.length:Int)) h (fun hc1 hc1'=>?_) (fun hc2 hc2'=>?_))
 ·refine qU (za0 (qW (qZ ?_)));obtain ⟨x1,hx1⟩:=gl x.locs j;refine Jm 11 [(5,.g (xD 30 28 zdo (zab hx1 (f:=zad)) (OV.tmp 29 _))),(7,.g (bD 32 ([x1].map zad) [(31,vI x1)] tb_0 (.cons (i:=0) (OV.tmp 31 _) (.nil)) (by kernel_rfl) (by simp [zad]))),(8,.g (aD 33 26 32 9 11 (x.locs.take j) [x1] zad tb_2 (by simp [zad])))] [22] [] [(5,.box (zai s)),(6,.box [cIs x.locs,cZs x.vals]),(7,.box [.d (.raw za4),.d (.raw za4)]),(8,.box ([.own 11 ((x.locs.take j)++[x1]).length,.own 10 0])),(10,.row 28 2 ([].map ziD)),(11,.row 3 1 (((x.locs.take j)++[x1]).map zad))] h fun a w h=>zac (za0 (Jf 12 [(1,.j1 j)] [] [(11,vI ((j:Int)+1))] h fun a w h=>za0 ?_));rw [show (((x.locs.take j)++[x1]):List Int)=(x.locs.take (j+1)) from (by rw [List.take_add_one,hx1];rfl)] at h;replace h:=zd9 11 9 [(2,vN ki),(3,(vZs picks)),(4,vp 5 0),(5,vp 6 0),(8,vp 7 0),(9,vb false),(10,vp 8 0),(11,vI ((j:Int)+1))] [(5,.box (zai s)),(6,.box [cIs x.locs,cZs x.vals]),(7,.box [.d (.raw za4),.d (.raw za4)]),(8,.box [.own 9 (x.locs.take (j+1)).length,.own 10 0]),(10,.row 28 2 ([].map ziD)),(9,.row 3 1 ((x.locs.take (j+1)).map zad))] h;refine zag (x:=j) (y:=j+1) h ?_ ?_
  ·show j+1<=x.locs.length;omega
  show x.locs.length - (j+1)<x.locs.length - j;omega
 refine wp_exit (zaa (zaa (za5 (za0 (qW ?_)))));rw [show ((x.locs.take j):List Int)=x.locs from (by rw [List.take_of_length_le (by omega)])] at h;refine Jp 12 [] [(2,vN ki),(3,(vZs picks)),(4,vp 5 0),(5,vp 6 0),(8,vp 7 0),(9,vb false),(10,vp 8 0),(12,vI 0)] h fun a w h=>qZ ?_
 refine zb5 (ι:=(Nat)) (fun i=>i<=x.vals.length)
   (fun i=>[(2,vN ki),(3,(vZs picks)),(4,vp 5 0),(5,vp 6 0),(8,vp 7 0),(9,vb false),(10,vp 8 0),(12,vN i)])
   (fun i=>[(5,.box (zai s)),(6,.box [cIs x.locs,cZs x.vals]),(7,.box [.d (.raw za4),.d (.raw za4)]),(8,.box [.own 9 x.locs.length,.own 10 ((x.vals.take i).map clZ).length]),(9,.row 3 1 (x.locs.map zad)),(10,.row 28 2 (((x.vals.take i).map clZ).map ziD))])
   (fun i=>x.vals.length - i) 0 ?_ h (by kernel_rfl) (by kernel_rfl) ?_
 ·exact Nat.zero_le _
 clear h;rintro i a w hI h;refine qW (Je 12 [(3,.len (za3 2 ziD x.vals))] [] [(39,vb (decide ((i:Int)<(x.vals.length:Int))))] h fun a w h=>zap ((i:Int)<(x.vals.length:Int)) h (fun hc3 hc3'=>?_) (fun hc4 hc4'=>?_))
 ·refine qU (za0 (qW (qZ ?_)));obtain ⟨x2,hx2⟩:=gl x.vals i;have gx2:=hx.val x2 (lM hx2);have lgx2:=gx2.2;obtain ⟨r3,er3,vr3,or3,lr3⟩:=mkZ (v:=x2.val) (m:=M) (Nat.le_trans (zgy gx2.1) gx2.2);refine Jm 12 [(5,.g (xD 47 45 zh9 (zab hx2 (f:=ziD)) (OV.tmp 46 _))),(7,.call (Fn.cast ((show Fn _ _ _ _ (vz (ZI.of x2.val)) _ from SRClean x2 gx2.1 (by omega))) (congrArg vz er3.symm)) tb_7),(8,.g (bD 50 ([r3].map ziD) [(49,vz r3)] kk_3 (.cons (i:=0) (OV.tmp 49 _) (.nil)) (by kernel_rfl) (by simp [ziD]))),(9,.g (aD 51 43 50 10 12 ((x.vals.take i).map clZ) [r3] ziD kk_4 (by simp [ziD])))] [39] [] [(5,.box (zai s)),(6,.box [cIs x.locs,cZs x.vals]),(7,.box [.d (.raw za4),.d (.raw za4)]),(8,.box ([.own 9 x.locs.length,.own 12 (((x.vals.take i).map clZ)++[r3]).length])),(9,.row 3 1 (x.locs.map zad)),(12,.row 28 2 ((((x.vals.take i).map clZ)++[r3]).map ziD))] h fun a w h=>zac (za0 (Jf 13 [(1,.j1 i)] [] [(12,vI ((i:Int)+1))] h fun a w h=>za0 ?_));rw [show ((((x.vals.take i).map clZ)++[r3]):List ZI)=((x.vals.take (i+1)).map clZ) from (by rw [<- map_snoc hx2];congr 1;simp [clZ, *])] at h;replace h:=zd9 12 10 [(2,vN ki),(3,(vZs picks)),(4,vp 5 0),(5,vp 6 0),(8,vp 7 0),(9,vb false),(10,vp 8 0),(12,vI ((i:Int)+1))] [(5,.box (zai s)),(6,.box [cIs x.locs,cZs x.vals]),(7,.box [.d (.raw za4),.d (.raw za4)]),(8,.box [.own 9 x.locs.length,.own 10 ((x.vals.take (i+1)).map clZ).length]),(9,.row 3 1 (x.locs.map zad)),(10,.row 28 2 (((x.vals.take (i+1)).map clZ).map ziD))] h;refine zag (x:=i) (y:=i+1) h ?_ ?_
  ·show i+1<=x.vals.length;omega
  show x.vals.length - (i+1)<x.vals.length - i;omega
 refine wp_exit (zaa (zaa (za5 (za0 (qW ?_)))));rw [show (((x.vals.take i).map clZ):List ZI)=(x.vals.map clZ) from (by rw [List.take_of_length_le (by omega)])] at h;refine Jp 13 [(1,.cmp (op:=.eql) (m:=(ki:Int)) (n:=(-1)) (b:=false) .i64 (beq_eq_false_iff_ne.2 (by omega)))] [(2,vN ki),(3,(vZs picks)),(4,vp 5 0),(5,vp 6 0),(8,vp 7 0),(9,vb false),(10,vp 8 0),(54,vb false)] h fun a w h=>zbn false h rfl nofun (fun _=>qU (za0 (qW (Je 13 [(3,.call (zh6 s x ki c hL hs hx hka) kp_7)] [54] [(64,vb (!(zaj s x c)))] h fun a w h=>cS (!(zaj s x c)) h (fun hc5=>?_) (fun hc6=>?_)))))
 ·have hc5':=hc5;(try simp at hc5');refine Je 13 [] [64] [] h fun a w h=>qV (za2 ?_);replace h:=zbj 7 0 1 [.d (.raw za4),.d (.raw za4)] [(2,vN ki),(3,(vZs picks)),(4,vp 5 0),(5,vp 6 0),(8,vp 7 0),(9,vb false),(10,vp 8 0)] [(5,.box (zai s)),(6,.box [cIs x.locs,cZs x.vals]),(7,.box [cIs [],.d (.raw za4)]),(8,.box [.own 9 x.locs.length,.own 10 (x.vals.map clZ).length]),(9,.row 3 1 (x.locs.map zad)),(10,.row 28 2 ((x.vals.map clZ).map ziD))] h rfl rfl;replace h:=zbj 7 1 2 [cIs [],.d (.raw za4)] [(2,vN ki),(3,(vZs picks)),(4,vp 5 0),(5,vp 6 0),(8,vp 7 0),(9,vb false),(10,vp 8 0)] [(5,.box (zai s)),(6,.box [cIs x.locs,cZs x.vals]),(7,.box [cIs [],cZs []]),(8,.box [.own 9 x.locs.length,.own 10 (x.vals.map clZ).length]),(9,.row 3 1 (x.locs.map zad)),(10,.row 28 2 ((x.vals.map clZ).map ziD))] h rfl rfl;refine zdb [.agg [cIs [],cZs []],.c (cB false)] h Exit.ret (.inl rfl)  rfl ⟨RV.agg _ 7 0 _ _ _ _ kk_5 rfl rfl rfl rfl,RV.tmp _ _ rfl,trivial⟩ ?_;have hz:goC s x c picks=(st0,false):=by unfold goC;rw [if_neg (fun h=>by have:=h.1;rw [(show (zaj s x c)=false from by simpa using hc5)] at this;cases this)]
  rw [hz];try rfl
 have hc6':=hc6;(try simp at hc6');refine qU (za0 (Jd 13 [(3,.g (xD 69 67 ki_1 (zab hka (f:=zaz.d)) (OV.tmp 68 _)))] [2,64] [(13,vp 13 0)] [(5,.box (zai s)),(6,.box [cIs x.locs,cZs x.vals]),(7,.box [.d (.raw za4),.d (.raw za4)]),(8,.box [.own 9 x.locs.length,.own 10 (x.vals.map clZ).length]),(9,.row 3 1 (x.locs.map zad)),(10,.row 28 2 ((x.vals.map clZ).map ziD)),(13,.box ([cI c.proc,cI c.from_,cI c.to_,cI c.guard.kind,cPs c.guard.r.t.parts]++zi c.guard.r.t.k++[cB c.guard.r.eq,cFs c.guard.kids,.d (.sl 5 (c.moves.map zaf.d))]))] h fun a w h=>?_));have hen:=(show (zaj s x c)=true from by simpa using hc6);have hfl:=zch (zcd hen);have hpr:=zdg hen;obtain ⟨k0,hkk0⟩:∃ k_:Nat,c.proc=(k_:Int):=⟨_,(Int.toNat_of_nonneg (by omega)).symm⟩;replace h:=h.conv (f':=F.of [(3,(vZs picks)),(4,vp 5 0),(5,vp 6 0),(8,vp 7 0),(9,vb false),(10,vp 8 0),(13,vp 13 0)] [(5,.box (zai s)),(6,.box [cIs x.locs,cZs x.vals]),(7,.box [.d (.raw za4),.d (.raw za4)]),(8,.box [.own 9 x.locs.length,.own 10 (x.vals.map clZ).length]),(9,.row 3 1 (x.locs.map zad)),(10,.row 28 2 ((x.vals.map clZ).map ziD)),(13,.box ([cI (k0:Int),cI c.from_,cI c.to_,cI c.guard.kind,cPs c.guard.r.t.parts]++zi c.guard.r.t.k++[cB c.guard.r.eq,cFs c.guard.kids,.d (.sl 5 (c.moves.map zaf.d))]))]) (by rw [hkk0];kernel_rfl);obtain ⟨x5,hx5⟩:=gl x.locs k0;refine Jq 14 [(6,.g (xO 77 72 9 x.locs.length k0 zdo (OV.tmp 74 _))),(7,.g (Op.storeR (t:=77) (n:=9) (i:=k0) (fo:=0) (rty:=3) (es:=1) (r:=zad x5) (ds:=[.raw (.int .i64 c.to_)]) (rs:=[(76,vI c.to_)]) (rows:=x.locs.map zad) (rows':=(x.locs.set k0 c.to_).map zad) tl_7 (OV.tmp 76 _) rfl rfl rfl (zab hx5 (f:=zad)) (by simp [zad]) (zef (xs:=x.locs) (F:=zad) k0 _ _ rfl)))] [(3,(vZs picks)),(4,vp 5 0),(5,vp 6 0),(8,vp 7 0),(9,vb false),(10,vp 8 0),(13,vp 13 0)] [(5,.box (zai s)),(6,.box [cIs x.locs,cZs x.vals]),(7,.box [.d (.raw za4),.d (.raw za4)]),(8,.box [.own 9 x.locs.length,.own 10 (x.vals.map clZ).length]),(9,.row 3 1 ((x.locs.set k0 c.to_).map zad)),(10,.row 28 2 ((x.vals.map clZ).map ziD)),(13,.box ([cI (k0:Int),cI c.from_,cI c.to_,cI c.guard.kind,cPs c.guard.r.t.parts]++zi c.guard.r.t.k++[cB c.guard.r.eq,cFs c.guard.kids,.d (.sl 5 (c.moves.map zaf.d))]))] h fun a w h=>?_;replace h:=h.conv (f':=F.of [(3,(vZs picks)),(4,vp 5 0),(5,vp 6 0),(8,vp 7 0),(9,vb false),(10,vp 8 0),(13,vp 13 0)] [(5,.box (zai s)),(6,.box [cIs x.locs,cZs x.vals]),(7,.box [.d (.raw za4),.d (.raw za4)]),(8,.box [.own 9 x.locs.length,.own 10 (x.vals.map clZ).length]),(9,.row 3 1 ((x.locs.set k0 c.to_).map zad)),(10,.row 28 2 ((x.vals.map clZ).map ziD)),(13,.box ([cI c.proc,cI c.from_,cI c.to_,cI c.guard.kind,cPs c.guard.r.t.parts]++zi c.guard.r.t.k++[cB c.guard.r.eq,cFs c.guard.kids,.d (.sl 5 (c.moves.map zaf.d))]))]) (by rw [hkk0]);refine Jq 14 [] [(3,(vZs picks)),(4,vp 5 0),(5,vp 6 0),(8,vp 7 0),(9,vb false),(10,vp 8 0),(13,vp 13 0),(14,vI 0)] [(5,.box (zai s)),(6,.box [cIs x.locs,cZs x.vals]),(7,.box [.d (.raw za4),.d (.raw za4)]),(8,.box [.own 9 x.locs.length,.own 10 (x.vals.map clZ).length]),(9,.row 3 1 ((x.locs.set k0 c.to_).map zad)),(10,.row 28 2 ((x.vals.map clZ).map ziD)),(13,.box ([cI c.proc,cI c.from_,cI c.to_,cI c.guard.kind,cPs c.guard.r.t.parts]++zi c.guard.r.t.k++[cB c.guard.r.eq,cFs c.guard.kids,.d (.sl 5 (c.moves.map zaf.d))]))] h fun a w h=>qW (Je 14 [] [] [(15,vI 0)] h fun a w h=>qZ ?_)
 refine zb5 (ι:=(Nat)) (fun j=>j<=x.vals.length)
   (fun j=>[(3,(vZs picks)),(4,vp 5 0),(5,vp 6 0),(8,vp 7 0),(9,vb false),(10,vp 8 0),(13,vp 13 0),(14,vI ((zao c j:Nat):Int)),(15,vN j)])
   (fun j=>[(5,.box (zai s)),(6,.box [cIs x.locs,cZs x.vals]),(7,.box [.d (.raw za4),.d (.raw za4)]),(8,.box [.own 9 x.locs.length,.own 10 (x.vals.map clZ).length]),(9,.row 3 1 ((x.locs.set k0 c.to_).map zad)),(10,.row 28 2 (((List.range j).map (zc4 x c picks)++(x.vals.map clZ).drop j).map ziD)),(13,.box ([cI c.proc,cI c.from_,cI c.to_,cI c.guard.kind,cPs c.guard.r.t.parts]++zi c.guard.r.t.k++[cB c.guard.r.eq,cFs c.guard.kids,.d (.sl 5 (c.moves.map zaf.d))]))])
   (fun j=>x.vals.length - j) 0 ?_ h (by kernel_rfl) (by kernel_rfl) ?_
 ·exact Nat.zero_le _
 clear h;rintro j a w hI h;have hrl:=range_len (f:=(zc4 x c picks)) (cl:=(x.vals.map clZ)) (j:=j) (by rw [List.length_map];omega);rw [List.length_map] at hrl;have hcf:=cnt_le c j;refine qW (Je 14 [(3,.len (za3 2 ziD x.vals))] [] [(82,vb (decide ((j:Int)<(x.vals.length:Int))))] h fun a w h=>zap ((j:Int)<(x.vals.length:Int)) h (fun hc7 hc7'=>?_) (fun hc12 hc12'=>?_))
 ·refine qU (za0 (qW (qZ ?_)))
  rcases zeq (fun m=>m.v == (j:Int)) c.moves with ⟨hix,hm⟩ | ⟨k,m,hix,hmk,hm⟩
  ·replace hm:zih c j=none:=hm;refine Jq 14 [(2,.call (Fn.cast (SRmove c j lmv) (congrArg (vi .i64) hix)) kp_11)] [(3,(vZs picks)),(4,vp 5 0),(5,vp 6 0),(8,vp 7 0),(9,vb false),(10,vp 8 0),(13,vp 13 0),(14,vI ((zao c j:Nat):Int)),(15,vN j),(16,vI (-1))] [(5,.box (zai s)),(6,.box [cIs x.locs,cZs x.vals]),(7,.box [.d (.raw za4),.d (.raw za4)]),(8,.box [.own 9 x.locs.length,.own 10 (x.vals.map clZ).length]),(9,.row 3 1 ((x.locs.set k0 c.to_).map zad)),(10,.row 28 2 (((List.range j).map (zc4 x c picks)++(x.vals.map clZ).drop j).map ziD)),(13,.box ([cI c.proc,cI c.from_,cI c.to_,cI c.guard.kind,cPs c.guard.r.t.parts]++zi c.guard.r.t.k++[cB c.guard.r.eq,cFs c.guard.kids,.d (.sl 5 (c.moves.map zaf.d))]))] h fun a w h=>Je 14 [(1,.cmp (op:=.geq) (m:=(-1)) (n:=0) (b:=false) .i64 rfl)] [] [(97,vb false)] h fun a w h=>zbn false h rfl nofun (fun _=>Je 14 [(1,.cmp (op:=.geq) (m:=(-1)) (n:=0) (b:=false) .i64 rfl)] [97] [(119,vb false)] h fun a w h=>zbn false h rfl nofun (fun _=>qU (zac (za0 (Jf 14 [(1,.j1 j)] [16,119] [(15,vI ((j:Int)+1))] h fun a w h=>za0 ?_)))))
   obtain ⟨zq,hzq⟩:∃ z_:ZI,x.vals[j]?=some z_:=⟨_,List.getElem?_eq_getElem (by omega)⟩;rw [show (((List.range j).map (zc4 x c picks)++(x.vals.map clZ).drop j):List ZI)=((List.range (j+1)).map (zc4 x c picks)++(x.vals.map clZ).drop (j+1)) from (range_keep (zab hzq (f:=clZ)) (by rw [zgu (zfp hm),new_none hm hzq]))] at h;replace h:=cv (fun z_:Int=>F.of [(3,(vZs picks)),(4,vp 5 0),(5,vp 6 0),(8,vp 7 0),(9,vb false),(10,vp 8 0),(13,vp 13 0),(14,vI z_),(15,vI ((j:Int)+1))] [(5,.box (zai s)),(6,.box [cIs x.locs,cZs x.vals]),(7,.box [.d (.raw za4),.d (.raw za4)]),(8,.box [.own 9 x.locs.length,.own 10 (x.vals.map clZ).length]),(9,.row 3 1 ((x.locs.set k0 c.to_).map zad)),(10,.row 28 2 (((List.range (j+1)).map (zc4 x c picks)++(x.vals.map clZ).drop (j+1)).map ziD)),(13,.box ([cI c.proc,cI c.from_,cI c.to_,cI c.guard.kind,cPs c.guard.r.t.parts]++zi c.guard.r.t.k++[cB c.guard.r.eq,cFs c.guard.kids,.d (.sl 5 (c.moves.map zaf.d))]))]) (show (((zao c j:Nat):Int):Int)=((zao c (j+1):Nat):Int) from (by rw [cnt_kept (zfp hm)])) h;refine zag (x:=j) (y:=j+1) h ?_ ?_
   ·show j+1<=x.vals.length;omega
   show x.vals.length - (j+1)<x.vals.length - j;omega
  replace hm:zih c j=some m:=hm;have lmk:=zak hmk;refine Jq 14 [(2,.call (Fn.cast (SRmove c j lmv) (congrArg (vi .i64) hix)) kp_11)] [(3,(vZs picks)),(4,vp 5 0),(5,vp 6 0),(8,vp 7 0),(9,vb false),(10,vp 8 0),(13,vp 13 0),(14,vI ((zao c j:Nat):Int)),(15,vN j),(16,vN k)] [(5,.box (zai s)),(6,.box [cIs x.locs,cZs x.vals]),(7,.box [.d (.raw za4),.d (.raw za4)]),(8,.box [.own 9 x.locs.length,.own 10 (x.vals.map clZ).length]),(9,.row 3 1 ((x.locs.set k0 c.to_).map zad)),(10,.row 28 2 (((List.range j).map (zc4 x c picks)++(x.vals.map clZ).drop j).map ziD)),(13,.box ([cI c.proc,cI c.from_,cI c.to_,cI c.guard.kind,cPs c.guard.r.t.parts]++zi c.guard.r.t.k++[cB c.guard.r.eq,cFs c.guard.kids,.d (.sl 5 (c.moves.map zaf.d))]))] h fun a w h=>Je 14 [(1,.cmp (op:=.geq) (m:=(k:Int)) (n:=0) (b:=true) .i64 (show (decide ((k:Int)>=0))=true from decide_eq_true (by omega))),(6,.g (xD 94 92 ki_2 (zab hmk (f:=zaf.d)) (OV.tmp 93 _)))] [] [(97,vb m.any)] h fun a w h=>cS m.any h (fun hc8=>?_) (fun hc11=>?_)
  ·obtain ⟨x8,hx8⟩:=gl ((List.range j).map (zc4 x c picks)++(x.vals.map clZ).drop j) j;refine Jd 14 [(4,.g (xO 102 99 10 (x.vals.map clZ).length j zh9 (OV.tmp 100 _))),(5,.g (Op.storeR (t:=102) (n:=10) (i:=j) (fo:=0) (rty:=28) (es:=2) (r:=ziD x8) (ds:=[.raw (.bool false),nsl []]) (rs:=[(101,vG [cB false,.d (nsl [])])]) (rows:=((List.range j).map (zc4 x c picks)++(x.vals.map clZ).drop j).map ziD) (rows':=(((List.range j).map (zc4 x c picks)++(x.vals.map clZ).drop j).set j (ZI.mk false [])).map ziD) zfd (OV.tmp 101 _) rfl rfl rfl (zab hx8 (f:=ziD)) (by simp [ziD]) (zef (xs:=((List.range j).map (zc4 x c picks)++(x.vals.map clZ).drop j)) (F:=ziD) j _ _ rfl)))] [16,97] [] [(5,.box (zai s)),(6,.box [cIs x.locs,cZs x.vals]),(7,.box [.d (.raw za4),.d (.raw za4)]),(8,.box [.own 9 x.locs.length,.own 10 (x.vals.map clZ).length]),(9,.row 3 1 ((x.locs.set k0 c.to_).map zad)),(10,.row 28 2 ((((List.range j).map (zc4 x c picks)++(x.vals.map clZ).drop j).set j (ZI.mk false [])).map ziD)),(13,.box ([cI c.proc,cI c.from_,cI c.to_,cI c.guard.kind,cPs c.guard.r.t.parts]++zi c.guard.r.t.k++[cB c.guard.r.eq,cFs c.guard.kids,.d (.sl 5 (c.moves.map zaf.d))]))] h fun a w h=>qW (Je 14 [(2,.len (za3 2 ziD picks))] [] [(106,vb (decide (((zao c j:Nat):Int)<(picks.length:Int))))] h fun a w h=>zap (((zao c j:Nat):Int)<(picks.length:Int)) h (fun hc9 hc9'=>?_) (fun hc10 hc10'=>?_))
   ·obtain ⟨x9,hx9⟩:=gl picks (zao c j);have gx9:=hp x9 (lM hx9);have lgx9:=gx9.2;obtain ⟨r10,er10,vr10,or10,lr10⟩:=mkZ (v:=x9.val) (m:=M) (Nat.le_trans (zgy gx9.1) gx9.2);refine Jm 14 [(5,.g (xD 112 110 zh9 (zab hx9 (f:=ziD)) (OV.tmp 111 _))),(7,.call (Fn.cast ((show Fn _ _ _ _ (vz (ZI.of x9.val)) _ from SRClean x9 gx9.1 (by omega))) (congrArg vz er10.symm)) tb_7),(8,.g (xO 115 108 10 (x.vals.map clZ).length j zh9 (OV.tmp 109 _))),(9,.g (Op.storeR (t:=115) (n:=10) (i:=j) (fo:=0) (rty:=28) (es:=2) (r:=ziD (ZI.mk false [])) (ds:=[.raw (.bool r10.neg),nsl r10.abs]) (rs:=[(114,vz r10)]) (rows:=(((List.range j).map (zc4 x c picks)++(x.vals.map clZ).drop j).set j (ZI.mk false [])).map ziD) (rows':=((((List.range j).map (zc4 x c picks)++(x.vals.map clZ).drop j).set j (ZI.mk false [])).set j r10).map ziD) zfd (OV.tmp 114 _) rfl rfl rfl (zab (List.getElem?_set_self (List.getElem?_eq_some_iff.1 hx8).1) (f:=ziD)) (by simp [ziD]) (zef (xs:=(((List.range j).map (zc4 x c picks)++(x.vals.map clZ).drop j).set j (ZI.mk false []))) (F:=ziD) j _ _ rfl)))] [106] [] [(5,.box (zai s)),(6,.box [cIs x.locs,cZs x.vals]),(7,.box [.d (.raw za4),.d (.raw za4)]),(8,.box [.own 9 x.locs.length,.own 10 (x.vals.map clZ).length]),(9,.row 3 1 ((x.locs.set k0 c.to_).map zad)),(10,.row 28 2 (((((List.range j).map (zc4 x c picks)++(x.vals.map clZ).drop j).set j (ZI.mk false [])).set j r10).map ziD)),(13,.box ([cI c.proc,cI c.from_,cI c.to_,cI c.guard.kind,cPs c.guard.r.t.parts]++zi c.guard.r.t.k++[cB c.guard.r.eq,cFs c.guard.kids,.d (.sl 5 (c.moves.map zaf.d))]))] h fun a w h=>?_;refine za0 (Jf 14 [(1,.add .i64 (m:=((zao c j:Nat):Int)) (n:=1) i6)] [] [(14,vI (((zao c j:Nat):Int)+1))] h fun a w h=>zac (za0 (Jf 14 [(1,.j1 j)] [] [(15,vI ((j:Int)+1))] h fun a w h=>za0 ?_)));rw [show (((((List.range j).map (zc4 x c picks)++(x.vals.map clZ).drop j).set j (ZI.mk false [])).set j r10):List ZI)=((List.range (j+1)).map (zc4 x c picks)++(x.vals.map clZ).drop (j+1)) from (by rw [List.set_set];exact zem (by rw [List.length_map];omega) (by rw [newV_at (zcb hm hc8) hx9];simp [*]))] at h;replace h:=cv (fun z_:Int=>F.of [(3,(vZs picks)),(4,vp 5 0),(5,vp 6 0),(8,vp 7 0),(9,vb false),(10,vp 8 0),(13,vp 13 0),(14,vI z_),(15,vI ((j:Int)+1))] [(5,.box (zai s)),(6,.box [cIs x.locs,cZs x.vals]),(7,.box [.d (.raw za4),.d (.raw za4)]),(8,.box [.own 9 x.locs.length,.own 10 (x.vals.map clZ).length]),(9,.row 3 1 ((x.locs.set k0 c.to_).map zad)),(10,.row 28 2 (((List.range (j+1)).map (zc4 x c picks)++(x.vals.map clZ).drop (j+1)).map ziD)),(13,.box ([cI c.proc,cI c.from_,cI c.to_,cI c.guard.kind,cPs c.guard.r.t.parts]++zi c.guard.r.t.k++[cB c.guard.r.eq,cFs c.guard.kids,.d (.sl 5 (c.moves.map zaf.d))]))]) (show (((zao c j:Nat):Int)+1:Int)=((zao c (j+1):Nat):Int) from (by rw [zh1 (zcb hm hc8)];omega)) h;refine zag (x:=j) (y:=j+1) h ?_ ?_
    ·show j+1<=x.vals.length;omega
    show x.vals.length - (j+1)<x.vals.length - j;omega
   refine qU (za0 (Jf 14 [(1,.add .i64 (m:=((zao c j:Nat):Int)) (n:=1) i6)] [106] [(14,vI (((zao c j:Nat):Int)+1))] h fun a w h=>zac (za0 (Jf 14 [(1,.j1 j)] [] [(15,vI ((j:Int)+1))] h fun a w h=>za0 ?_))));rw [show ((((List.range j).map (zc4 x c picks)++(x.vals.map clZ).drop j).set j (ZI.mk false [])):List ZI)=((List.range (j+1)).map (zc4 x c picks)++(x.vals.map clZ).drop (j+1)) from (zem (by rw [List.length_map];omega) (by rw [newV_no (zcb hm hc8) (dF hc10)];rfl))] at h;replace h:=cv (fun z_:Int=>F.of [(3,(vZs picks)),(4,vp 5 0),(5,vp 6 0),(8,vp 7 0),(9,vb false),(10,vp 8 0),(13,vp 13 0),(14,vI z_),(15,vI ((j:Int)+1))] [(5,.box (zai s)),(6,.box [cIs x.locs,cZs x.vals]),(7,.box [.d (.raw za4),.d (.raw za4)]),(8,.box [.own 9 x.locs.length,.own 10 (x.vals.map clZ).length]),(9,.row 3 1 ((x.locs.set k0 c.to_).map zad)),(10,.row 28 2 (((List.range (j+1)).map (zc4 x c picks)++(x.vals.map clZ).drop (j+1)).map ziD)),(13,.box ([cI c.proc,cI c.from_,cI c.to_,cI c.guard.kind,cPs c.guard.r.t.parts]++zi c.guard.r.t.k++[cB c.guard.r.eq,cFs c.guard.kids,.d (.sl 5 (c.moves.map zaf.d))]))]) (show (((zao c j:Nat):Int)+1:Int)=((zao c (j+1):Nat):Int) from (by rw [zh1 (zcb hm hc8)];omega)) h;refine zag (x:=j) (y:=j+1) h ?_ ?_
   ·show j+1<=x.vals.length;omega
   show x.vals.length - (j+1)<x.vals.length - j;omega
  refine Je 14 [(1,.cmp (op:=.geq) (m:=(k:Int)) (n:=0) (b:=true) .i64 (show (decide ((k:Int)>=0))=true from decide_eq_true (by omega)))] [97] [(119,vb true)] h fun a w h=>cS true h (fun _=>?_) nofun
  obtain ⟨r11,er11,vr11,or11,lr11⟩:=mkZ (v:=valT m.t x.vals) (m:=L+M+2) (Nat.le_trans (zfg (hc.mv m (lM hmk)) (by decide) hx.vok (fun p hp=>hp) (Nat.le_refl _)) (by omega));obtain ⟨x12,hx12⟩:=gl ((List.range j).map (zc4 x c picks)++(x.vals.map clZ).drop j) j;refine Jm 14 [(6,.g (xD 126 124 ki_2 (zab hmk (f:=zaf.d)) (OV.tmp 125 _))),(11,.call (Fn.cast (SRValue m.t x.vals (hc.mv m (lM hmk)) (by decide) (by omega) hx.vok) (congrArg vz er11.symm)) ke_2),(12,.g (xO 132 121 10 (x.vals.map clZ).length j zh9 (OV.tmp 122 _))),(13,.g (Op.storeR (t:=132) (n:=10) (i:=j) (fo:=0) (rty:=28) (es:=2) (r:=ziD x12) (ds:=[.raw (.bool r11.neg),nsl r11.abs]) (rs:=[(131,vz r11)]) (rows:=((List.range j).map (zc4 x c picks)++(x.vals.map clZ).drop j).map ziD) (rows':=(((List.range j).map (zc4 x c picks)++(x.vals.map clZ).drop j).set j r11).map ziD) zfd (OV.tmp 131 _) rfl rfl rfl (zab hx12 (f:=ziD)) (by simp [ziD]) (zef (xs:=((List.range j).map (zc4 x c picks)++(x.vals.map clZ).drop j)) (F:=ziD) j _ _ rfl)))] [16,119] [] [(5,.box (zai s)),(6,.box [cIs x.locs,cZs x.vals]),(7,.box [.d (.raw za4),.d (.raw za4)]),(8,.box [.own 9 x.locs.length,.own 10 (x.vals.map clZ).length]),(9,.row 3 1 ((x.locs.set k0 c.to_).map zad)),(10,.row 28 2 ((((List.range j).map (zc4 x c picks)++(x.vals.map clZ).drop j).set j r11).map ziD)),(13,.box ([cI c.proc,cI c.from_,cI c.to_,cI c.guard.kind,cPs c.guard.r.t.parts]++zi c.guard.r.t.k++[cB c.guard.r.eq,cFs c.guard.kids,.d (.sl 5 (c.moves.map zaf.d))]))] h fun a w h=>zac (za0 (Jf 14 [(1,.j1 j)] [] [(15,vI ((j:Int)+1))] h fun a w h=>za0 ?_));rw [show ((((List.range j).map (zc4 x c picks)++(x.vals.map clZ).drop j).set j r11):List ZI)=((List.range (j+1)).map (zc4 x c picks)++(x.vals.map clZ).drop (j+1)) from (zem (by rw [List.length_map];omega) (by rw [zgu (zcb hm hc11),new_some hm hc11];simp [*]))] at h;replace h:=cv (fun z_:Int=>F.of [(3,(vZs picks)),(4,vp 5 0),(5,vp 6 0),(8,vp 7 0),(9,vb false),(10,vp 8 0),(13,vp 13 0),(14,vI z_),(15,vI ((j:Int)+1))] [(5,.box (zai s)),(6,.box [cIs x.locs,cZs x.vals]),(7,.box [.d (.raw za4),.d (.raw za4)]),(8,.box [.own 9 x.locs.length,.own 10 (x.vals.map clZ).length]),(9,.row 3 1 ((x.locs.set k0 c.to_).map zad)),(10,.row 28 2 (((List.range (j+1)).map (zc4 x c picks)++(x.vals.map clZ).drop (j+1)).map ziD)),(13,.box ([cI c.proc,cI c.from_,cI c.to_,cI c.guard.kind,cPs c.guard.r.t.parts]++zi c.guard.r.t.k++[cB c.guard.r.eq,cFs c.guard.kids,.d (.sl 5 (c.moves.map zaf.d))]))]) (show (((zao c j:Nat):Int):Int)=((zao c (j+1):Nat):Int) from (by rw [cnt_kept (zcb hm hc11)])) h;refine zag (x:=j) (y:=j+1) h ?_ ?_
  ·show j+1<=x.vals.length;omega
  show x.vals.length - (j+1)<x.vals.length - j;omega
 refine wp_exit (zaa (zaa (za5 (za0 (qW ?_)))));replace h:=pubS 9 1 3 ((x.locs.set k0 c.to_).map zad) [(3,(vZs picks)),(4,vp 5 0),(5,vp 6 0),(8,vp 7 0),(9,vb false),(10,vp 8 0),(13,vp 13 0),(14,vI ((zao c j:Nat):Int)),(15,vN j),(82,vb (decide ((j:Int)<(x.vals.length:Int))))] [(5,.box (zai s)),(6,.box [cIs x.locs,cZs x.vals]),(7,.box [.d (.raw za4),.d (.raw za4)]),(8,.box [cIs (x.locs.set k0 c.to_),.own 10 (x.vals.map clZ).length]),(10,.row 28 2 (((List.range j).map (zc4 x c picks)++(x.vals.map clZ).drop j).map ziD)),(13,.box ([cI c.proc,cI c.from_,cI c.to_,cI c.guard.kind,cPs c.guard.r.t.parts]++zi c.guard.r.t.k++[cB c.guard.r.eq,cFs c.guard.kids,.d (.sl 5 (c.moves.map zaf.d))]))] h rfl trivial (show zcj _ [x.locs.length] from ⟨by first | exact (List.length_map _).symm | (simp;done) | (simp;omega),trivial⟩);replace h:=pubS 10 2 28 (((List.range j).map (zc4 x c picks)++(x.vals.map clZ).drop j).map ziD) [(3,(vZs picks)),(4,vp 5 0),(5,vp 6 0),(8,vp 7 0),(9,vb false),(10,vp 8 0),(13,vp 13 0),(14,vI ((zao c j:Nat):Int)),(15,vN j),(82,vb (decide ((j:Int)<(x.vals.length:Int))))] [(5,.box (zai s)),(6,.box [cIs x.locs,cZs x.vals]),(7,.box [.d (.raw za4),.d (.raw za4)]),(8,.box ([cIs (x.locs.set k0 c.to_),cZs ((List.range j).map (zc4 x c picks)++(x.vals.map clZ).drop j)])),(13,.box ([cI c.proc,cI c.from_,cI c.to_,cI c.guard.kind,cPs c.guard.r.t.parts]++zi c.guard.r.t.k++[cB c.guard.r.eq,cFs c.guard.kids,.d (.sl 5 (c.moves.map zaf.d))]))] h rfl trivial (show zcj _ [(x.vals.map clZ).length] from ⟨by first | exact (List.length_map _).symm | (simp;done) | (simp;omega),trivial⟩);replace h:=cv (fun z_:List Int=>F.of [(3,(vZs picks)),(4,vp 5 0),(5,vp 6 0),(8,vp 7 0),(9,vb false),(10,vp 8 0),(13,vp 13 0),(14,vI ((zao c j:Nat):Int)),(15,vN j),(82,vb (decide ((j:Int)<(x.vals.length:Int))))] [(5,.box (zai s)),(6,.box [cIs x.locs,cZs x.vals]),(7,.box [.d (.raw za4),.d (.raw za4)]),(8,.box ([cIs z_,cZs ((List.range j).map (zc4 x c picks)++(x.vals.map clZ).drop j)])),(13,.box ([cI c.proc,cI c.from_,cI c.to_,cI c.guard.kind,cPs c.guard.r.t.parts]++zi c.guard.r.t.k++[cB c.guard.r.eq,cFs c.guard.kids,.d (.sl 5 (c.moves.map zaf.d))]))]) (show ((x.locs.set k0 c.to_):List Int)=(zcn s x c picks).locs from (by show _=x.locs.set c.proc.toNat c.to_;rw [show c.proc.toNat=k0 by omega])) h;rw [show (((List.range j).map (zc4 x c picks)++(x.vals.map clZ).drop j):List ZI)=(zcn s x c picks).vals from (by rw [show j=s.vars.length by omega,range_end (by rw [List.length_map];omega)];rfl)] at h;refine Jq 14 [(2,.call (SRFits s (zcn s x c picks) (L:=L) (M:=L+M+2) (by omega) hs (outS_ok hs hx hc hp)) kh_6)] [(8,vp 7 0),(9,vb false),(10,vp 8 0),(136,vb (!(zbu s (zcn s x c picks))))] [(7,.box [.d (.raw za4),.d (.raw za4)]),(8,.box [cIs (zcn s x c picks).locs,cZs (zcn s x c picks).vals])] h fun a w h=>cS (!(zbu s (zcn s x c picks))) h (fun hc13=>?_) (fun hc14=>?_)
 ·have hc13':=hc13;(try simp at hc13');refine Je 14 [] [136] [] h fun a w h=>qV (za2 ?_);replace h:=zbj 7 0 1 [.d (.raw za4),.d (.raw za4)] [(8,vp 7 0),(9,vb false),(10,vp 8 0)] [(7,.box [cIs [],.d (.raw za4)]),(8,.box [cIs (zcn s x c picks).locs,cZs (zcn s x c picks).vals])] h rfl rfl;replace h:=zbj 7 1 2 [cIs [],.d (.raw za4)] [(8,vp 7 0),(9,vb false),(10,vp 8 0)] [(7,.box [cIs [],cZs []]),(8,.box [cIs (zcn s x c picks).locs,cZs (zcn s x c picks).vals])] h rfl rfl;refine zdb [.agg [cIs [],cZs []],.c (cB false)] h Exit.ret (.inl rfl)  rfl ⟨RV.agg _ 7 0 _ _ _ _ kk_5 rfl rfl rfl rfl,RV.tmp _ _ rfl,trivial⟩ ?_;have hz:goC s x c picks=(st0,false):=by unfold goC;rw [if_neg (fun h=>by have:=h.2;rw [(show (zbu s (zcn s x c picks))=false from by simpa using hc13)] at this;cases this)]
  rw [hz];try rfl
 have hc14':=hc14;(try simp at hc14');refine qU (za0 (Jq 14 [] [(8,vp 7 0),(9,vb true)] [(7,.box [cIs (zcn s x c picks).locs,cZs (zcn s x c picks).vals])] h fun a w h=>qV (zdb [.agg [cIs (zcn s x c picks).locs,cZs (zcn s x c picks).vals],.c (cB true)] h Exit.ret (.inl rfl)  rfl ⟨RV.agg _ 7 0 _ _ _ _ kk_5 rfl rfl rfl rfl,RV.tmp _ _ rfl,trivial⟩ ?_)));have hz:goC s x c picks=(zcn s x c picks,true):=by unfold goC;rw [if_pos ⟨(show (zaj s x c)=true from by simpa using hc6),(show (zbu s (zcn s x c picks))=true from by simpa using hc14)⟩]
 rw [hz];try rfl
theorem kq_13:za6 Tryz.prog 131:=za6.mk' (by kernel_rfl)
theorem kq_14:za6 Tryz.prog 88:=za6.mk' (by kernel_rfl)
theorem cnt_step_le (c:zaz) (v:Nat):zao c v<=zao c (v+1):=by rw [zao];omega
theorem cnt_mono (c:zaz) {u v:Nat} (h:u<=v):zao c u<=zao c v:=by
 induction v with
 | zero=>rw [Nat.le_zero.1 h];exact Nat.le_refl _
 | succ v ih =>
  rcases Nat.lt_or_ge u (v+1) with h1 | h1
  ·exact Nat.le_trans (ih (by omega)) (cnt_step_le c v)
  ·rw [show u=v+1 by omega];exact Nat.le_refl _
def zbl (f:Nat->ZI) (c:zaz):Nat->List ZI
  | 0=>[]
  | v+1=>if zb7 c v=true then zbl f c v++[f v] else zbl f c v
theorem zdu (f:Nat->ZI) (c:zaz):∀ n,(zbl f c n).length=zao c n
 | 0=>rfl
 | n+1=>by
  rw [zbl,zao]
  split
  ·rw [List.length_append,zdu f c n];rfl
  ·rw [zdu f c n];rfl
theorem freeL_at (f:Nat->ZI) (c:zaz) {v:Nat} (hv:zb7 c v=true):∀ n,v<n->(zbl f c n)[zao c v]?=some (f v)
 | n+1,h=>by
  rw [zbl]
  rcases Nat.lt_or_ge v n with h1 | h1
  ·have ih:=freeL_at f c hv n h1
   split
   ·rw [List.getElem?_append_left (by rw [zdu];exact Nat.lt_of_lt_of_le (by rw [zh1 hv];omega) (cnt_mono c h1))];exact ih
   ·exact ih
  ·obtain rfl:v=n:=by omega
   rw [if_pos hv,List.getElem?_append_right (by rw [zdu];exact Nat.le_refl _),zdu,Nat.sub_self];rfl
theorem picks_freeL (y:StD) (c:zaz):∀ n,zdi y c n=zbl (fun v=>(y.vals[v]?).getD zdz) c n
 | 0=>rfl
 | n+1=>by rw [zdi,zbl,picks_freeL y c n]
theorem zim {M:Nat} {f:Nat->ZI} (h:∀ v,ZOk M (f v)) (c:zaz):∀ n,∀ z ∈ zbl f c n,ZOk M z
 | 0,z,hz=>by cases hz
 | n+1,z,hz=>by
  rw [zbl] at hz
  split at hz
  ·rcases List.mem_append.1 hz with h1 | h1
   ·exact zim h c n z h1
   ·rw [List.mem_singleton.1 h1];exact h n
  ·exact zim h c n z hz
def zbs (s:zan) (v:Nat):ZI:=if (zat s v).is_=true then (zat s v).lo else zdz
theorem low_ok {L:Nat} {s:zan} (hs:zb1 L s) (v:Nat):ZOk L (zbs s v):=by
 unfold zbs;split
 ·exact (zf8 hs v).1
 ·exact ZOk.zero
theorem cmp_self (x:Int):decide (zdl x x<=0)=true:=by unfold zdl;simp
theorem within_of (b:zah) (z:ZI):zb0 b (ZI.of z.val)=zb0 b z:=by unfold zb0;rw [ZI.val_of]
theorem within_val {b:zah} {p q:ZI} (h:p.val=q.val):zb0 b p=zb0 b q:=by unfold zb0;rw [h]
theorem nlocs_in {s:zan} {x:StD} (h:zbu s x=true) {i:Nat} (hi:i<x.locs.length):zfb s x i=true:=by
 unfold zbu at h;simp only [Bool.and_eq_true] at h;exact zce.1 h.2.1 i hi
theorem vals_in {s:zan} {x:StD} (h:zbu s x=true) {i:Nat} (hi:i<x.vals.length):zi1 s x i=true:=by
 unfold zbu at h;simp only [Bool.and_eq_true] at h;exact zce.1 h.2.2 i hi
theorem enabled_to {s:zan} {x:StD} {c:zaz} (h:zaj s x c=true):0<=c.to_/\c.to_<(zdj s c.proc.toNat:Int):=by unfold zaj at h;simp only [Bool.and_eq_true,decide_eq_true_eq] at h;exact h.1.2.2
theorem fits_out {s:zan} {x:StD} {c:zaz} (picks:List ZI) (h:zaj s x c=true):zbu s (zcn s x c picks)=zer s.vars.length (fun v=>zb0 (zat s v) (zc4 x c picks v)):=by
 have hf:=zcd h;have hl:=zch hf;have hp:=zdg h;have ht:=enabled_to h
 have e1:(zcn s x c picks).locs.length=s.procs.length:=by simp only [zcn,List.length_set];exact hl.1
 have e2:(zcn s x c picks).vals.length=s.vars.length:=by simp [zcn]
 unfold zbu
 rw [decide_eq_true ⟨e1,e2⟩,Bool.true_and]
 have a1:zer (zcn s x c picks).locs.length (zfb s (zcn s x c picks))=true:=zce.2 fun i hi=>by
  rw [e1] at hi
  have h1:=nlocs_in hf (i:=i) (by omega)
  unfold zfb at h1 ⊢
  by_cases hi2:i=c.proc.toNat
  ·subst hi2
   have:(zcn s x c picks).locs[c.proc.toNat]?=some c.to_:=by simp only [zcn];exact List.getElem?_set_self (by omega)
   rw [this];exact decide_eq_true ht
  ·have:(zcn s x c picks).locs[i]?=x.locs[i]?:=by simp only [zcn];exact List.getElem?_set_ne (Ne.symm hi2)
   rw [this];exact h1
 rw [a1,Bool.true_and,e2]
 refine allN_congr fun v hv=>?_
 unfold zi1
 have:(zcn s x c picks).vals[v]?=some (zc4 x c picks v):=by simp [zcn,List.getElem?_map,List.getElem?_range hv]
 rw [this];rfl
theorem fits_lows {s:zan} {x:StD} {c:zaz} (h:zaj s x c=true):zbu s (zcn s x c (zbl (zbs s) c s.vars.length))=zer s.vars.length (zi5 s x c):=by
 rw [fits_out _ h]
 refine allN_congr fun v hv=>?_
 unfold zi5
 by_cases hf:zb7 c v=true
 ·rw [if_pos hf,newV_at hf (freeL_at (zbs s) c hf _ hv),within_of]
  unfold zb0 zbs
  cases hb:(zat s v).is_ with
  | false=>simp
  | true =>
   simp only [if_true,Bool.not_true,Bool.false_or,Bool.true_and,cmp_self]
   by_cases hc:zdl (zat s v).lo.val (zat s v).hi.val<=0
   ·rw [decide_eq_true hc,decide_eq_false (by omega)];rfl
   ·rw [decide_eq_false hc,decide_eq_true (by omega)];rfl
 ·rw [if_neg hf,zgu (by simpa using hf)]
theorem can_goC {s:zan} {x:StD} {c:zaz}:(goC s x c (zbl (zbs s) c s.vars.length)).2=canC s x c:=by
 unfold goC canC
 cases he:zaj s x c with
 | false=>rfl
 | true =>
  rw [fits_lows he]
  cases ha:zer s.vars.length (zi5 s x c) with
  | false=>rfl
  | true=>rfl
theorem zhn {f:Nat->ZI} {c:zaz} {v:Nat} {q:ZI} (h:zb7 c v=true) (hq:q=f v):zbl f c v++[q]=zbl f c (v+1):=by rw [zbl,if_pos h,hq]
theorem freeL_kept {f:Nat->ZI} {c:zaz} {v:Nat} (h:zb7 c v=false):zbl f c v=zbl f c (v+1):=by rw [zbl,if_neg (by rw [h];exact Bool.noConfusion)]
theorem SRCanN (s:zan) (x:StD) (i:Int) {L M:Nat} (hL:L+M<=1900) (hs:zb1 L s) (hx:zd0 M x) (hi:zdy s i=none):Fn Tryz.prog 88 [] [vG (zai s),vG [cIs x.locs,cZs x.vals],vI i] (vb false) []:=by
 refine Fn.body Tryz.func88 rfl 80 rfl fun w H B a h=>Jq 0 [] [(2,vI i),(3,vp 0 0),(4,vp 1 0),(6,vb false)] [(0,.box (zai s)),(1,.box [cIs x.locs,cZs x.vals])] h fun a w h=>qW (Je 2 [(3,.call (SRbeginsN s x i (by omega) hs hx hi) kp_7)] [] [(17,vb true)] h fun a w h=>cS true h (fun _=>?_) nofun)
 refine Je 2 [] [17] [] h fun a w h=>qV (za2 (rT (.c (cB false)) h rfl ?_));rfl
theorem SRCanS (s:zan) (x:StD) (ki:Nat) (c:zaz) {L M:Nat} (hL:L+M<=1900) (hs:zb1 L s) (hx:zd0 M x) (hka:s.acts[ki]?=some c):Fn Tryz.prog 88 [] [vG (zai s),vG [cIs x.locs,cZs x.vals],vN ki] (vb (canC s x c)) []:=by
 have lx1:=hx.locs;have lx2:=hx.vals;have ls1:=hs.vars;have ls2:=hs.procs;have lki:=zak hka;have hc:zgk L c:=hs.act c (lM hka);have lmv:=hc.len;have lvv:=hx.vals;have lbn:=hs.bnds;refine Fn.body Tryz.func88 rfl 80 rfl fun w H B a h=>Jq 5 [] [(2,vN ki),(3,vp 5 0),(4,vp 6 0),(6,vb false)] [(5,.box (zai s)),(6,.box [cIs x.locs,cZs x.vals])] h fun a w h=>qW (Je 7 [(3,.call (zh6 s x ki c (L:=L) (M:=M) (by omega) hs hx hka) kp_7)] [] [(17,vb (!(zaj s x c)))] h fun a w h=>cS (!(zaj s x c)) h (fun hc1=>?_) (fun hc2=>?_))
 ·have hc1':=hc1;(try simp at hc1');refine Je 7 [] [17] [] h fun a w h=>qV (za2 (rT (.c (cB false)) h rfl ?_));have hz:canC s x c=false:=by unfold canC;rw [(show (zaj s x c)=false from by simpa using hc1)];rfl
  rw [hz];try rfl
 have hc2':=hc2;(try simp at hc2');refine qU (za0 ?_);have hen:=(show (zaj s x c)=true from by simpa using hc2);have hfl:=zch (zcd hen);refine Jd 7 [(0,.g (Op.buildE (d:=18) (n:=7) kk_3))] [17] [(7,vO 7 0)] [(5,.box (zai s)),(6,.box [cIs x.locs,cZs x.vals]),(7,.row 28 2 ([].map ziD))] h fun a w h=>qW (Je 8 [] [] [(8,vI 0)] h fun a w h=>qZ ?_)
 refine zb5 (ι:=(Nat)) (fun j=>j<=x.vals.length)
   (fun j=>[(2,vN ki),(3,vp 5 0),(4,vp 6 0),(6,vb false),(7,vO 7 (zbl (zbs s) c j).length),(8,vN j)])
   (fun j=>[(5,.box (zai s)),(6,.box [cIs x.locs,cZs x.vals]),(7,.row 28 2 ((zbl (zbs s) c j).map ziD))])
   (fun j=>x.vals.length - j) 0 ?_ h (by kernel_rfl) (by kernel_rfl) ?_
 ·exact Nat.zero_le _
 clear h;rintro j a w hI h;have hcf:=cnt_le c j;have hfll:=zdu (zbs s) c j;refine qW (Je 8 [(3,.len (za3 2 ziD x.vals))] [] [(23,vb (decide ((j:Int)<(x.vals.length:Int))))] h fun a w h=>zap ((j:Int)<(x.vals.length:Int)) h (fun hc3 hc3'=>?_) (fun hc10 hc10'=>?_))
 ·refine qU (za0 (qW (qZ ?_)))
  rcases zeq (fun m=>m.v == (j:Int)) c.moves with ⟨hix,hm⟩ | ⟨k,m,hix,hmk,hm⟩
  ·replace hm:zih c j=none:=hm;refine Jq 8 [(3,.g (xD 29 27 ki_1 (zab hka (f:=zaz.d)) (OV.tmp 28 _))),(6,.call (Fn.cast (SRmove c j lmv) (congrArg (vi .i64) hix)) kp_11)] [(2,vN ki),(3,vp 5 0),(4,vp 6 0),(6,vb false),(7,vO 7 (zbl (zbs s) c j).length),(8,vN j),(9,vI (-1))] [(5,.box (zai s)),(6,.box [cIs x.locs,cZs x.vals]),(7,.row 28 2 ((zbl (zbs s) c j).map ziD))] h fun a w h=>Je 8 [(1,.cmp (op:=.geq) (m:=(-1)) (n:=0) (b:=false) .i64 rfl)] [9] [(46,vb false)] h fun a w h=>zbn false h rfl nofun (fun _=>qU (zac (za0 (Jf 8 [(1,.j1 j)] [46] [(8,vI ((j:Int)+1))] h fun a w h=>za0 ?_))))
   replace h:=cv (fun z_:List ZI=>F.of [(2,vN ki),(3,vp 5 0),(4,vp 6 0),(6,vb false),(7,vO 7 z_.length),(8,vI ((j:Int)+1))] [(5,.box (zai s)),(6,.box [cIs x.locs,cZs x.vals]),(7,.row 28 2 (z_.map ziD))]) (show ((zbl (zbs s) c j):List ZI)=(zbl (zbs s) c (j+1)) from (freeL_kept (zfp hm))) h;refine zag (x:=j) (y:=j+1) h ?_ ?_
   ·show j+1<=x.vals.length;omega
   show x.vals.length - (j+1)<x.vals.length - j;omega
  replace hm:zih c j=some m:=hm;have lmk:=zak hmk;refine Jq 8 [(3,.g (xD 29 27 ki_1 (zab hka (f:=zaz.d)) (OV.tmp 28 _))),(6,.call (Fn.cast (SRmove c j lmv) (congrArg (vi .i64) hix)) kp_11)] [(2,vN ki),(3,vp 5 0),(4,vp 6 0),(6,vb false),(7,vO 7 (zbl (zbs s) c j).length),(8,vN j),(9,vN k)] [(5,.box (zai s)),(6,.box [cIs x.locs,cZs x.vals]),(7,.row 28 2 ((zbl (zbs s) c j).map ziD))] h fun a w h=>Je 8 [(1,.cmp (op:=.geq) (m:=(k:Int)) (n:=0) (b:=true) .i64 (show (decide ((k:Int)>=0))=true from decide_eq_true (by omega))),(6,.g (xD 39 37 ki_1 (zab hka (f:=zaz.d)) (OV.tmp 38 _))),(10,.g (xD 43 41 ki_2 (zab hmk (f:=zaf.d)) (OV.tmp 42 _)))] [9] [(46,vb m.any)] h fun a w h=>cS m.any h (fun hc4=>?_) (fun hc9=>?_)
  ·refine Jd 8 [] [46] [(10,vp 8 0)] [(5,.box (zai s)),(6,.box [cIs x.locs,cZs x.vals]),(7,.row 28 2 ((zbl (zbs s) c j).map ziD)),(8,.box [cB false,.d (nsl [])])] h fun a w h=>qW ?_
   rcases Bool.eq_false_or_eq_true (decide ((j:Int)<(s.bounds.length:Int))) with hc5 | hc8
   ·have hc5':=dT hc5;obtain ⟨x4,hx4⟩:=gl s.bounds j;refine Je 9 [(3,.len (za3 5 zah.d s.bounds)),(4,.cmp (op:=.lss) (m:=(j:Int)) (n:=(s.bounds.length:Int)) (b:=true) .i64 hc5),(9,.g (xD 57 55 kf_0 (zab hx4 (f:=zah.d)) (OV.tmp 56 _)))] [] [(60,vb x4.is_)] h fun a w h=>cS x4.is_ h (fun hc6=>?_) (fun hc7=>?_)
    ·refine Jm 9 [(3,.g (xD 64 62 kf_0 (zab hx4 (f:=zah.d)) (OV.tmp 63 _)))] [60] [] [(5,.box (zai s)),(6,.box [cIs x.locs,cZs x.vals]),(7,.row 28 2 ((zbl (zbs s) c j).map ziD)),(8,.box (zi x4.lo))] h fun a w h=>za0 (Jm 9 [(2,.g (bD 69 ([x4.lo].map ziD) [(68,vz x4.lo)] kk_3 (.cons (i:=0) (OV.tmp 68 _) (.nil)) (by kernel_rfl) (by simp [ziD]))),(3,.g (aD 70 67 69 7 9 (zbl (zbs s) c j) [x4.lo] ziD kk_4 (by simp [ziD])))] [10] [(7,vO 9 ((zbl (zbs s) c j)++[x4.lo]).length)] [(5,.box (zai s)),(6,.box [cIs x.locs,cZs x.vals]),(9,.row 28 2 (((zbl (zbs s) c j)++[x4.lo]).map ziD))] h fun a w h=>zac (za0 (Jf 10 [(1,.j1 j)] [] [(8,vI ((j:Int)+1))] h fun a w h=>za0 ?_)));rw [show (((zbl (zbs s) c j)++[x4.lo]):List ZI)=(zbl (zbs s) c (j+1)) from (zhn (zcb hm hc4) (by unfold zbs zat;rw [hx4,Option.getD_some,if_pos hc6]))] at h;replace h:=zd9 9 7 [(2,vN ki),(3,vp 5 0),(4,vp 6 0),(6,vb false),(7,vO 7 (zbl (zbs s) c (j+1)).length),(8,vI ((j:Int)+1))] [(5,.box (zai s)),(6,.box [cIs x.locs,cZs x.vals]),(7,.row 28 2 ((zbl (zbs s) c (j+1)).map ziD))] h;refine zag (x:=j) (y:=j+1) h ?_ ?_
     ·show j+1<=x.vals.length;omega
     show x.vals.length - (j+1)<x.vals.length - j;omega
    refine qU (za0 (Jm 10 [(2,.g (bD 69 ([(ZI.mk false [])].map ziD) [(68,vG [cB false,.d (nsl [])])] kk_3 (.cons (i:=0) (OV.tmp 68 _) (.nil)) (by kernel_rfl) (by simp [ziD]))),(3,.g (aD 70 67 69 7 10 (zbl (zbs s) c j) [(ZI.mk false [])] ziD kk_4 (by simp [ziD])))] [10,60] [(7,vO 10 ((zbl (zbs s) c j)++[(ZI.mk false [])]).length)] [(5,.box (zai s)),(6,.box [cIs x.locs,cZs x.vals]),(10,.row 28 2 (((zbl (zbs s) c j)++[(ZI.mk false [])]).map ziD))] h fun a w h=>zac (za0 (Jf 11 [(1,.j1 j)] [] [(8,vI ((j:Int)+1))] h fun a w h=>za0 ?_))));rw [show (((zbl (zbs s) c j)++[(ZI.mk false [])]):List ZI)=(zbl (zbs s) c (j+1)) from (zhn (zcb hm hc4) (by unfold zbs zat;rw [hx4,Option.getD_some,if_neg (by rw [hc7];exact Bool.noConfusion)];try rfl))] at h;replace h:=zd9 10 7 [(2,vN ki),(3,vp 5 0),(4,vp 6 0),(6,vb false),(7,vO 7 (zbl (zbs s) c (j+1)).length),(8,vI ((j:Int)+1))] [(5,.box (zai s)),(6,.box [cIs x.locs,cZs x.vals]),(7,.row 28 2 ((zbl (zbs s) c (j+1)).map ziD))] h;refine zag (x:=j) (y:=j+1) h ?_ ?_
    ·show j+1<=x.vals.length;omega
    show x.vals.length - (j+1)<x.vals.length - j;omega
   have hc8':=dF hc8;refine Je 11 [(3,.len (za3 5 zah.d s.bounds)),(4,.cmp (op:=.lss) (m:=(j:Int)) (n:=(s.bounds.length:Int)) (b:=false) .i64 hc8)] [] [(60,vb false)] h fun a w h=>zbn false h rfl nofun (fun _=>qU (za0 (Jm 11 [(2,.g (bD 69 ([(ZI.mk false [])].map ziD) [(68,vG [cB false,.d (nsl [])])] kk_3 (.cons (i:=0) (OV.tmp 68 _) (.nil)) (by kernel_rfl) (by simp [ziD]))),(3,.g (aD 70 67 69 7 11 (zbl (zbs s) c j) [(ZI.mk false [])] ziD kk_4 (by simp [ziD])))] [10,60] [(7,vO 11 ((zbl (zbs s) c j)++[(ZI.mk false [])]).length)] [(5,.box (zai s)),(6,.box [cIs x.locs,cZs x.vals]),(11,.row 28 2 (((zbl (zbs s) c j)++[(ZI.mk false [])]).map ziD))] h fun a w h=>zac (za0 (Jf 12 [(1,.j1 j)] [] [(8,vI ((j:Int)+1))] h fun a w h=>za0 ?_)))))
   rw [show (((zbl (zbs s) c j)++[(ZI.mk false [])]):List ZI)=(zbl (zbs s) c (j+1)) from (zhn (zcb hm hc4) (by unfold zbs zat;rw [List.getElem?_eq_none (by have:=dF hc8;omega)];rfl))] at h;replace h:=zd9 11 7 [(2,vN ki),(3,vp 5 0),(4,vp 6 0),(6,vb false),(7,vO 7 (zbl (zbs s) c (j+1)).length),(8,vI ((j:Int)+1))] [(5,.box (zai s)),(6,.box [cIs x.locs,cZs x.vals]),(7,.row 28 2 ((zbl (zbs s) c (j+1)).map ziD))] h;refine zag (x:=j) (y:=j+1) h ?_ ?_
   ·show j+1<=x.vals.length;omega
   show x.vals.length - (j+1)<x.vals.length - j;omega
  refine qU (zac (za0 (Jf 12 [(1,.j1 j)] [46] [(8,vI ((j:Int)+1))] h fun a w h=>za0 ?_)));replace h:=cv (fun z_:List ZI=>F.of [(2,vN ki),(3,vp 5 0),(4,vp 6 0),(6,vb false),(7,vO 7 z_.length),(8,vI ((j:Int)+1))] [(5,.box (zai s)),(6,.box [cIs x.locs,cZs x.vals]),(7,.row 28 2 (z_.map ziD))]) (show ((zbl (zbs s) c j):List ZI)=(zbl (zbs s) c (j+1)) from (freeL_kept (zcb hm hc9))) h;refine zag (x:=j) (y:=j+1) h ?_ ?_
  ·show j+1<=x.vals.length;omega
  show x.vals.length - (j+1)<x.vals.length - j;omega
 refine wp_exit (zaa (zaa (za5 (za0 ?_))));replace h:=cv (fun z_:List ZI=>F.of [(2,vN ki),(3,vp 5 0),(4,vp 6 0),(6,vb false),(7,vO 7 z_.length),(8,vN j),(23,vb (decide ((j:Int)<(x.vals.length:Int))))] [(5,.box (zai s)),(6,.box [cIs x.locs,cZs x.vals]),(7,.row 28 2 (z_.map ziD))]) (show ((zbl (zbs s) c j):List ZI)=(zbl (zbs s) c s.vars.length) from (by rw [show j=s.vars.length by omega])) h;replace h:=pubS 7 2 28 ((zbl (zbs s) c s.vars.length).map ziD) [(2,vN ki),(3,vp 5 0),(4,vp 6 0),(6,vb false),(7,(vZs (zbl (zbs s) c s.vars.length))),(8,vN j),(23,vb (decide ((j:Int)<(x.vals.length:Int))))] [(5,.box (zai s)),(6,.box [cIs x.locs,cZs x.vals])] h rfl (show zcj _ [(zbl (zbs s) c s.vars.length).length] from ⟨by first | exact (List.length_map _).symm | (simp;done) | (simp;omega),trivial⟩) trivial;refine Jq 12 [(4,.call (SRGo3 s x ki (zbl (zbs s) c s.vars.length) c (L:=L) (M:=L+M) (by omega) hs (hx.mono (by omega)) (fun z hz=>⟨(zim (low_ok hs) c _ z hz).1,Nat.le_trans (zim (low_ok hs) c _ z hz).2 (by omega)⟩) hka (by rw [zdu];have:=cnt_le c s.vars.length;omega)) kq_13)] [(6,vb false),(12,vb (goC s x c (zbl (zbs s) c s.vars.length)).2)] [] h fun a w h=>Jq 13 [] [(6,vb (goC s x c (zbl (zbs s) c s.vars.length)).2)] [] h fun a w h=>qV (rT (.c (cB (goC s x c (zbl (zbs s) c s.vars.length)).2)) h rfl ?_);rw [<- can_goC];try rfl
theorem SRCan (s:zan) (x:StD) (i:Int) {L M:Nat} (hL:L+M<=1900) (hs:zb1 L s) (hx:zd0 M x):Fn Tryz.prog 88 [] [vG (zai s),vG [cIs x.locs,cZs x.vals],vi .i64 i] (vb (can s x i)) []:=by
 unfold can
 cases hi:zdy s i with
 | none=>exact SRCanN s x i hL hs hx hi
 | some c=>obtain ⟨ki,rfl,hka⟩:=zes hi;exact SRCanS s x ki c hL hs hx hka
theorem SRStuck (s:zan) (x:StD) {L M:Nat} (hL:L+M<=1900) (hs:zb1 L s) (hx:zd0 M x):Fn Tryz.prog 44 [] [vG (zai s),vG [cIs x.locs,cZs x.vals]] (vb (zee s x)) []:=by
 have lx1:=hx.locs;have lx2:=hx.vals;have ls1:=hs.vars;have ls2:=hs.procs;have las:=hs.acts;refine Fn.body Tryz.func44 rfl 20 rfl fun w H B a h=>Jq 0 [] [(2,vp 0 0),(3,vp 1 0),(4,vb false)] [(0,.box (zai s)),(1,.box [cIs x.locs,cZs x.vals])] h fun a w h=>qW (Je 2 [] [] [(5,vI 0)] h fun a w h=>qZ ?_)
 refine zb5 (ι:=(Nat)) (fun j=>j<=s.acts.length/\zer j (fun i=>!can s x (i:Int))=true)
   (fun j=>[(2,vp 0 0),(3,vp 1 0),(5,vN j)])
   (fun j=>[(0,.box (zai s)),(1,.box [cIs x.locs,cZs x.vals])])
   (fun j=>s.acts.length - j) 0 ?_ h (by kernel_rfl) (by kernel_rfl) ?_
 ·exact ⟨Nat.zero_le _,rfl⟩
 clear h;rintro j a w hI h;obtain ⟨hI1,hI2⟩:=hI;refine qW (Je 2 [(3,.len (za3 10 zaz.d s.acts))] [] [(10,vb (decide ((j:Int)<(s.acts.length:Int))))] h fun a w h=>zap ((j:Int)<(s.acts.length:Int)) h (fun hc1 hc1'=>?_) (fun hc4 hc4'=>?_))
 ·refine qU (za0 (qW (qZ (Je 2 [(3,.call (SRCan s x (j:Int) hL hs hx) kq_14)] [10] [(16,vb (can s x (j:Int)))] h fun a w h=>cS (can s x (j:Int)) h (fun hc2=>?_) (fun hc3=>?_)))))
  ·refine Je 2 [] [16] [(4,vb false)] h fun a w h=>qV (za7 (za2 (za2 (za7 (za2 (rT (.c (cB false)) h rfl ?_))))));have hz:zee s x=false:=by unfold zee;rw [zbf (j:=j) (by have:=dT hc1;omega) (show (!can s x (j:Int))=false by rw [hc2];rfl)];rfl
   rw [hz];try rfl
  refine qU (zac (za0 (Jf 2 [(1,.j1 j)] [16] [(5,vI ((j:Int)+1))] h fun a w h=>za0 (zag (x:=j) (y:=j+1) h ?_ ?_))))
  ·exact ⟨by omega,zbe hI2 (by rw [hc3];rfl)⟩
  show s.acts.length - (j+1)<s.acts.length - j;omega
 refine wp_exit (zaa (zaa (za5 (za0 (Jq 2 [(2,.call (SRFits s x (L:=L) (M:=M) (by omega) hs hx) kh_6)] [(4,vb (zbu s x))] [] h fun a w h=>qV (rT (.c (cB (zbu s x))) h rfl ?_))))));have hz:zee s x=(zbu s x):=by unfold zee;rw [show s.acts.length=j by have:=dF hc4;omega,hI2];rfl
 rw [hz];try rfl
theorem kr_7:za6 Tryz.prog 44:=za6.mk' (by kernel_rfl)
theorem kr_9:za6 Tryz.prog 11:=za6.mk' (by kernel_rfl)
def zi3 (x:StD) (c:zaz) (y:StD) (p:Nat):Bool:=(y.locs[p]?).getD 0 == (if (p:Int)=c.proc then c.to_ else (x.locs[p]?).getD 0)
def zhb (x:StD) (c:zaz) (y:StD) (v:Nat):Bool:=zb7 c v || decide ((zbx x c v).val=((y.vals[v]?).getD zdz).val)
def zcs (s:zan) (x:StD) (c:zaz) (y:StD):Bool:=(zaj s x c && zbu s y) && (zer x.locs.length (zi3 x c y) && zer x.vals.length (zhb x c y))
theorem out_loc {s:zan} {x:StD} {c:zaz} {picks:List ZI} (h:zaj s x c=true) {p:Nat} (hp:p<x.locs.length):(zcn s x c picks).locs[p]?=some (if (p:Int)=c.proc then c.to_ else (x.locs[p]?).getD 0):=by
 have hpr:=zdg h
 by_cases e:(p:Int)=c.proc
 ·rw [if_pos e,show p=c.proc.toNat by omega];simp only [zcn];exact List.getElem?_set_self (by omega)
 ·rw [if_neg e];simp only [zcn];rw [List.getElem?_set_ne (by omega),List.getElem?_eq_getElem hp];rfl
theorem out_val {s:zan} {x:StD} {c:zaz} {picks:List ZI} {v:Nat} (hv:v<s.vars.length):(zcn s x c picks).vals[v]?=some (zc4 x c picks v):=by simp [zcn,List.getElem?_map,List.getElem?_range hv]
theorem zf0 (s:zan) (x:StD) (c:zaz) (y:StD):zcs s x c y=leadsC s x c y:=by
 unfold zcs leadsC
 cases he:zaj s x c with
 | false=>rfl
 | true =>
  cases hy:zbu s y with
  | false=>rfl
  | true =>
   rw [Bool.true_and,Bool.true_and,Bool.true_and]
   have lx:=zch (zcd he);have ly:=zch hy
   have hn:∀ v,v<s.vars.length->(zc4 x c (zdi y c s.vars.length) v).val=if zb7 c v=true then ((y.vals[v]?).getD zdz).val else (zbx x c v).val:=fun v hv=>by
    by_cases hf:zb7 c v=true
    ·rw [if_pos hf,newV_at hf (by rw [picks_freeL];exact freeL_at _ c hf _ hv),ZI.val_of]
    ·rw [if_neg hf,zgu (by simpa using hf)]
   have key:(zbu s (zcn s x c (zdi y c s.vars.length))=true/\zek y (zcn s x c (zdi y c s.vars.length))=true) ↔ (zer x.locs.length (zi3 x c y)=true/\zer x.vals.length (zhb x c y)=true):=by
    unfold zek
    simp only [Bool.and_eq_true,decide_eq_true_eq,zce]
    constructor
    ·rintro ⟨_,h1,h2⟩
     refine ⟨fun p hp=>?_,fun v hv=>?_⟩
     ·unfold zi3;rw [h1,out_loc he hp];simp
     ·unfold zhb
      have hv':v<s.vars.length:=by omega
      have h3:=congrArg (fun l=>l[v]?) h2
      simp only [List.getElem?_map,out_val hv', Option.map_some] at h3
      cases hz:y.vals[v]? with
      | none=>rw [hz] at h3;cases h3
      | some z =>
       rw [hz] at h3
       simp only [Option.map_some,Option.some.injEq] at h3
       rw [hn v hv', hz] at h3
       by_cases hf:zb7 c v=true
       ·rw [hf];rfl
       ·rw [if_neg hf] at h3;rw [Option.getD_some,decide_eq_true h3.symm,Bool.or_true]
    ·rintro ⟨h1,h2⟩
     have e1:y.locs=(zcn s x c (zdi y c s.vars.length)).locs:=by
      refine List.ext_getElem? fun p=>?_
      by_cases hp:p<x.locs.length
      ·have:=h1 p hp;unfold zi3 at this;rw [out_loc he hp]
       rw [List.getElem?_eq_getElem (by omega)] at this ⊢
       simp at this;rw [this]
      ·rw [List.getElem?_eq_none (by omega),List.getElem?_eq_none (by simp only [zcn,List.length_set];omega)]
     have e2:y.vals.map ZI.val=(zcn s x c (zdi y c s.vars.length)).vals.map ZI.val:=by
      refine List.ext_getElem? fun v=>?_
      simp only [List.getElem?_map]
      by_cases hv:v<s.vars.length
      ·rw [out_val hv]
       have:=h2 v (by omega);unfold zhb at this
       rw [List.getElem?_eq_getElem (by omega)] at this ⊢
       simp only [Option.map_some,Option.some.injEq,Option.getD_some] at this ⊢
       rw [hn v hv]
       by_cases hf:zb7 c v=true
       ·rw [if_pos hf,List.getElem?_eq_getElem (by omega)];rfl
       ·rw [if_neg hf];rw [show zb7 c v=false by simpa using hf,Bool.false_or] at this;exact (of_decide_eq_true this).symm
      ·rw [List.getElem?_eq_none (by omega),List.getElem?_eq_none (by simp [zcn];omega)]
     refine ⟨?_,e1,e2⟩
     rw [fits_out _ he,zce]
     intro v hv
     have h3:=vals_in hy (i:=v) (by omega)
     unfold zi1 at h3
     rw [<- h3]
     refine within_val ?_
     have h4:=congrArg (fun l=>l[v]?) e2
     simp only [List.getElem?_map,out_val hv] at h4
     rw [List.getElem?_eq_getElem (by omega)] at h4 ⊢
     simp only [Option.map_some,Option.some.injEq,Option.getD_some] at h4 ⊢
     exact h4.symm
   unfold goC
   by_cases hfo:zbu s (zcn s x c (zdi y c s.vars.length))=true
   ·rw [if_pos ⟨he,hfo⟩,Bool.true_and]
    rw [Bool.eq_iff_iff,Bool.and_eq_true]
    exact ⟨fun h=>(key.2 h).2,fun h=>key.1 ⟨hfo,h⟩⟩
   ·rw [if_neg (fun h=>hfo h.2)]
    have:¬ (zer x.locs.length (zi3 x c y)=true/\zer x.vals.length (zhb x c y)=true):=fun h=>hfo (key.2 h).1
    rw [<- Bool.and_eq_true] at this
    simpa using this
theorem SRLeads1 (s:zan) (x y:StD) {L M:Nat} (hL:L+M<=1900) (hs:zb1 L s) (hx:zd0 M x) (hy:zd0 M y):Fn Tryz.prog 15 [] [vG (zai s),vG [cIs x.locs,cZs x.vals],vI (-1),vG [cIs y.locs,cZs y.vals]] (vb (zee s x && zek x y)) []:=by
 refine Fn.body Tryz.func15 rfl 110 rfl fun w H B a h=>Jq 0 [] [(2,vI (-1)),(4,vp 0 0),(5,vp 1 0),(7,vp 2 0),(8,vb false)] [(0,.box (zai s)),(1,.box [cIs x.locs,cZs x.vals]),(2,.box [cIs y.locs,cZs y.vals])] h fun a w h=>qW (Je 3 [(1,.cmp (op:=.eql) (m:=(-1)) (n:=(-1)) (b:=true) .i64 rfl)] [] [(16,vb true)] h fun a w h=>cS true h (fun _=>?_) nofun)
 rcases Bool.eq_false_or_eq_true (zee s x) with hc1 | hc2
 ·refine Je 3 [(2,.call (Fn.cast (SRStuck s x hL hs hx) (congrArg vb hc1)) kr_7),(6,.call (SRSame18 x y (M:=M) (by omega) hx hy) kr_9)] [16] [(8,vb (zek x y))] h fun a w h=>qV (za2 (rT (.c (cB (zek x y))) h rfl ?_));rw [hc1];try rfl
 refine Je 3 [(2,.call (Fn.cast (SRStuck s x hL hs hx) (congrArg vb hc2)) kr_7)] [16] [] h fun a w h=>qV (za2 (rT (.c (cB false)) h rfl ?_));rw [hc2];try rfl
theorem SRLeads2 (s:zan) (x:StD) (i:Int) (y:StD) {L M:Nat} (hL:L+M<=1900) (hs:zb1 L s) (hx:zd0 M x) (_hy:zd0 M y) (hi:zdy s i=none) (hn:i≠-1):Fn Tryz.prog 15 [] [vG (zai s),vG [cIs x.locs,cZs x.vals],vI i,vG [cIs y.locs,cZs y.vals]] (vb false) []:=by
 refine Fn.body Tryz.func15 rfl 110 rfl fun w H B a h=>Jq 0 [] [(2,vI i),(4,vp 0 0),(5,vp 1 0),(7,vp 2 0),(8,vb false)] [(0,.box (zai s)),(1,.box [cIs x.locs,cZs x.vals]),(2,.box [cIs y.locs,cZs y.vals])] h fun a w h=>qW (Je 3 [(1,.cmp (op:=.eql) (m:=i) (n:=(-1)) (b:=false) .i64 (beq_eq_false_iff_ne.2 hn))] [] [(16,vb false)] h fun a w h=>zbn false h rfl nofun (fun _=>qU (za0 (qW (Je 3 [(3,.call (SRbeginsN s x i (by omega) hs hx hi) kp_7)] [16] [(35,vb true)] h fun a w h=>cS true h (fun _=>?_) nofun)))))
 refine Je 3 [] [35] [] h fun a w h=>qV (za2 (rT (.c (cB false)) h rfl ?_));rfl
theorem SRLeads3 (s:zan) (x:StD) (ki:Nat) (y:StD) (c:zaz) {L M:Nat} (hL:L+M<=1900) (hs:zb1 L s) (hx:zd0 M x) (hy:zd0 M y) (hka:s.acts[ki]?=some c):Fn Tryz.prog 15 [] [vG (zai s),vG [cIs x.locs,cZs x.vals],vN ki,vG [cIs y.locs,cZs y.vals]] (vb (leadsC s x c y)) []:=by
 have lx1:=hx.locs;have lx2:=hx.vals;have ls1:=hs.vars;have ls2:=hs.procs;have lki:=zak hka;have hc:zgk L c:=hs.act c (lM hka);have lmv:=hc.len;have lvv:=hx.vals;refine Fn.body Tryz.func15 rfl 110 rfl fun w H B a h=>Jq 5 [] [(2,vN ki),(4,vp 5 0),(5,vp 6 0),(7,vp 7 0),(8,vb false)] [(5,.box (zai s)),(6,.box [cIs x.locs,cZs x.vals]),(7,.box [cIs y.locs,cZs y.vals])] h fun a w h=>qW (Je 8 [(1,.cmp (op:=.eql) (m:=(ki:Int)) (n:=(-1)) (b:=false) .i64 (beq_eq_false_iff_ne.2 (by omega)))] [] [(16,vb false)] h fun a w h=>zbn false h rfl nofun (fun _=>qU (za0 (qW ?_))))
 rcases Bool.eq_false_or_eq_true (zaj s x c) with hc1 | hc20
 ·refine Je 8 [(3,.call (Fn.cast (zh6 s x ki c (L:=L) (M:=M) (by omega) hs hx hka) (congrArg vb hc1)) kp_7),(8,.call (SRFits s y (L:=L) (M:=M) (by omega) hs hy) kh_6)] [16] [(35,vb (!(zbu s y)))] h fun a w h=>cS (!(zbu s y)) h (fun hc2=>?_) (fun hc3=>?_)
  ·have hc2':=hc2;(try simp at hc2');refine Je 8 [] [35] [] h fun a w h=>qV (za2 (rT (.c (cB false)) h rfl ?_));have hz:zcs s x c y=false:=by unfold zcs;rw [hc1,(show (zbu s y)=false from by simpa using hc2)];rfl
   rw [<- zf0,hz];try rfl
  have hc3':=hc3;(try simp at hc3');refine qU (za0 (Jd 8 [(3,.g (xD 39 37 ki_1 (zab hka (f:=zaz.d)) (OV.tmp 38 _)))] [2,4,35] [(9,vp 8 0)] [(6,.box [cIs x.locs,cZs x.vals]),(7,.box [cIs y.locs,cZs y.vals]),(8,.box ([cI c.proc,cI c.from_,cI c.to_,cI c.guard.kind,cPs c.guard.r.t.parts]++zi c.guard.r.t.k++[cB c.guard.r.eq,cFs c.guard.kids,.d (.sl 5 (c.moves.map zaf.d))]))] h fun a w h=>qW ?_));have hen:=hc1;have hfl:=zch (zcd hen);have hpr:=zdg hen;have hfy:=zch (show (zbu s y)=true from by simpa using hc3);refine Je 9 [] [] [(10,vI 0)] h fun a w h=>qZ ?_
  refine zb5 (ι:=(Nat)) (fun j=>j<=x.locs.length/\zer j (zi3 x c y)=true)
    (fun j=>[(5,vp 6 0),(7,vp 7 0),(9,vp 8 0),(10,vN j)])
    (fun j=>[(6,.box [cIs x.locs,cZs x.vals]),(7,.box [cIs y.locs,cZs y.vals]),(8,.box ([cI c.proc,cI c.from_,cI c.to_,cI c.guard.kind,cPs c.guard.r.t.parts]++zi c.guard.r.t.k++[cB c.guard.r.eq,cFs c.guard.kids,.d (.sl 5 (c.moves.map zaf.d))]))])
    (fun j=>x.locs.length - j) 0 ?_ h (by kernel_rfl) (by kernel_rfl) ?_
  ·exact ⟨Nat.zero_le _,rfl⟩
  clear h;rintro j a w hI h;obtain ⟨hj1,hj2⟩:=hI;refine qW (Je 9 [(3,.len (za3 1 zad x.locs))] [] [(45,vb (decide ((j:Int)<(x.locs.length:Int))))] h fun a w h=>zap ((j:Int)<(x.locs.length:Int)) h (fun hc4 hc4'=>?_) (fun hc11 hc11'=>?_))
  ·refine qU (za0 (qW (qZ ?_)));obtain ⟨x4,hx4⟩:=gl x.locs j;refine Je 9 [(3,.g (xD 51 49 zdo (zab hx4 (f:=zad)) (OV.tmp 50 _)))] [45] [(11,vI x4)] h fun a w h=>qW (Je 9 [] [] [(56,vb ((j:Int) == c.proc))] h fun a w h=>cS ((j:Int) == c.proc) h (fun hc5=>?_) (fun hc8=>?_))
   ·have hc5':=hc5;(try simp at hc5');refine Jf 9 [] [56] [(11,vI c.to_)] h fun a w h=>za0 ?_;obtain ⟨x5,hx5⟩:=gl y.locs j;refine Je 9 [(3,.g (xD 62 60 zdo (zab hx5 (f:=zad)) (OV.tmp 61 _)))] [11] [(65,vb (x5 != c.to_))] h fun a w h=>cS (x5 != c.to_) h (fun hc6=>?_) (fun hc7=>?_)
    ·have hc6':=hc6;(try simp at hc6');refine Je 9 [] [65] [(8,vb false)] h fun a w h=>qV (za7 (za2 (za2 (za7 (za2 (rT (.c (cB false)) h rfl ?_))))));have hz:zcs s x c y=false:=by unfold zcs;rw [hc1,(show (zbu s y)=true from by simpa using hc3),Bool.true_and,Bool.true_and];rw [zbf (j:=j) (by have:=dT hc4;omega) (show zi3 x c y j=false from (by unfold zi3;rw [if_pos (by have:=hc5;simpa using this),hx5];have:=hc6;simpa using this))];rfl
     rw [<- zf0,hz];try rfl
    have hc7':=hc7;(try simp at hc7');refine qU (zac (za0 (Jf 9 [(1,.j1 j)] [65] [(10,vI ((j:Int)+1))] h fun a w h=>za0 (zag (x:=j) (y:=j+1) h ?_ ?_))))
    ·exact ⟨by omega,zbe hj2 (by unfold zi3;rw [if_pos (by have:=hc5;simpa using this),hx5];have:=hc7;simpa using this)⟩
    show x.locs.length - (j+1)<x.locs.length - j;omega
   have hc8':=hc8;(try simp at hc8');refine qU (za0 ?_);obtain ⟨x6,hx6⟩:=gl y.locs j;refine Je 9 [(3,.g (xD 62 60 zdo (zab hx6 (f:=zad)) (OV.tmp 61 _)))] [11,56] [(65,vb (x6 != x4))] h fun a w h=>cS (x6 != x4) h (fun hc9=>?_) (fun hc10=>?_)
   ·have hc9':=hc9;(try simp at hc9');refine Je 9 [] [65] [(8,vb false)] h fun a w h=>qV (za7 (za2 (za2 (za7 (za2 (rT (.c (cB false)) h rfl ?_))))));have hz:zcs s x c y=false:=by unfold zcs;rw [hc1,(show (zbu s y)=true from by simpa using hc3),Bool.true_and,Bool.true_and];rw [zbf (j:=j) (by have:=dT hc4;omega) (show zi3 x c y j=false from (by unfold zi3;rw [if_neg (by have:=hc8;simpa using this),hx4,hx6];have:=hc9;simpa using this))];rfl
    rw [<- zf0,hz];try rfl
   have hc10':=hc10;(try simp at hc10');refine qU (zac (za0 (Jf 9 [(1,.j1 j)] [65] [(10,vI ((j:Int)+1))] h fun a w h=>za0 (zag (x:=j) (y:=j+1) h ?_ ?_))))
   ·exact ⟨by omega,zbe hj2 (by unfold zi3;rw [if_neg (by have:=hc8;simpa using this),hx4,hx6];have:=hc10;simpa using this)⟩
   show x.locs.length - (j+1)<x.locs.length - j;omega
  refine wp_exit (zaa (zaa (za5 (za0 (qW (Je 9 [] [10,45] [(12,vI 0)] h fun a w h=>qZ ?_))))))
  refine zb5 (ι:=(Nat)) (fun i=>i<=x.vals.length/\zer i (zhb x c y)=true)
    (fun i=>[(5,vp 6 0),(7,vp 7 0),(9,vp 8 0),(12,vN i)])
    (fun i=>[(6,.box [cIs x.locs,cZs x.vals]),(7,.box [cIs y.locs,cZs y.vals]),(8,.box ([cI c.proc,cI c.from_,cI c.to_,cI c.guard.kind,cPs c.guard.r.t.parts]++zi c.guard.r.t.k++[cB c.guard.r.eq,cFs c.guard.kids,.d (.sl 5 (c.moves.map zaf.d))]))])
    (fun i=>x.vals.length - i) 0 ?_ h (by kernel_rfl) (by kernel_rfl) ?_
  ·exact ⟨Nat.zero_le _,rfl⟩
  clear h;rintro i a w hI h;obtain ⟨hi1,hi2⟩:=hI;refine qW (Je 9 [(3,.len (za3 2 ziD x.vals))] [] [(70,vb (decide ((i:Int)<(x.vals.length:Int))))] h fun a w h=>zap ((i:Int)<(x.vals.length:Int)) h (fun hc12 hc12'=>?_) (fun hc19 hc19'=>?_))
  ·refine qU (za0 (qW (qZ ?_)))
   rcases zeq (fun m=>m.v == (i:Int)) c.moves with ⟨hix,hm⟩ | ⟨k,m,hix,hmk,hm⟩
   ·replace hm:zih c i=none:=hm;refine Jq 9 [(2,.call (Fn.cast (SRmove c i lmv) (congrArg (vi .i64) hix)) kp_11)] [(5,vp 6 0),(7,vp 7 0),(9,vp 8 0),(12,vN i),(13,vI (-1))] [(6,.box [cIs x.locs,cZs x.vals]),(7,.box [cIs y.locs,cZs y.vals]),(8,.box ([cI c.proc,cI c.from_,cI c.to_,cI c.guard.kind,cPs c.guard.r.t.parts]++zi c.guard.r.t.k++[cB c.guard.r.eq,cFs c.guard.kids,.d (.sl 5 (c.moves.map zaf.d))]))] h fun a w h=>?_;obtain ⟨x8,hx8⟩:=gl x.vals i;have gx8:=hx.val x8 (lM hx8);have lgx8:=gx8.2;refine Jd 9 [(3,.g (xD 79 77 zh9 (zab hx8 (f:=ziD)) (OV.tmp 78 _)))] [] [(14,vp 9 0)] [(6,.box [cIs x.locs,cZs x.vals]),(7,.box [cIs y.locs,cZs y.vals]),(8,.box ([cI c.proc,cI c.from_,cI c.to_,cI c.guard.kind,cPs c.guard.r.t.parts]++zi c.guard.r.t.k++[cB c.guard.r.eq,cFs c.guard.kids,.d (.sl 5 (c.moves.map zaf.d))])),(9,.box (zi x8))] h fun a w h=>qW (Je 10 [(1,.cmp (op:=.geq) (m:=(-1)) (n:=0) (b:=false) .i64 rfl)] [] [(90,vb false)] h fun a w h=>zbn false h rfl nofun (fun _=>qU (za0 (qW (Je 10 [(1,.cmp (op:=.geq) (m:=(-1)) (n:=0) (b:=false) .i64 rfl)] [90] [(92,vb false)] h fun a w h=>zbn false h rfl nofun (fun _=>qU (za0 ?_)))))));obtain ⟨x9,hx9⟩:=gl y.vals i;have gx9:=hy.val x9 (lM hx9);have lgx9:=gx9.2;refine Jd 10 [(4,.g (xD 106 104 zh9 (zab hx9 (f:=ziD)) (OV.tmp 105 _))),(6,.call (SRCmp x8 x9 gx8.1 gx9.1 (by omega) (by omega)) kh_1)] [13,14,92] [(109,vb (zdl x8.val x9.val != 0))] [(6,.box [cIs x.locs,cZs x.vals]),(7,.box [cIs y.locs,cZs y.vals]),(8,.box ([cI c.proc,cI c.from_,cI c.to_,cI c.guard.kind,cPs c.guard.r.t.parts]++zi c.guard.r.t.k++[cB c.guard.r.eq,cFs c.guard.kids,.d (.sl 5 (c.moves.map zaf.d))]))] h fun a w h=>cS (zdl x8.val x9.val != 0) h (fun hc13=>?_) (fun hc14=>?_)
    ·have hc13':=hc13;(try simp at hc13');refine Je 10 [] [109] [(8,vb false)] h fun a w h=>qV (za7 (za2 (za2 (za7 (za2 (rT (.c (cB false)) h rfl ?_))))));have hz:zcs s x c y=false:=by unfold zcs;rw [hc1,(show (zbu s y)=true from by simpa using hc3),Bool.true_and,Bool.true_and];rw [show x.locs.length=j by have:=dF hc11;omega,hj2,Bool.true_and];rw [zbf (j:=i) (by have:=dT hc12;omega) (show zhb x c y i=false from (by unfold zhb;rw [zfp hm,new_none hm hx8,show (clZ x8).val=x8.val from ZI.val_of _,hx9];have:=hc13;rw [zht] at this;simpa using this))]
     rw [<- zf0,hz];try rfl
    have hc14':=hc14;(try simp at hc14');refine qU (zac (za0 (Jf 10 [(1,.j1 i)] [109] [(12,vI ((i:Int)+1))] h fun a w h=>za0 (zag (x:=i) (y:=i+1) h ?_ ?_))))
    ·exact ⟨by omega,zbe hi2 (by unfold zhb;rw [zfp hm,new_none hm hx8,show (clZ x8).val=x8.val from ZI.val_of _,hx9];have:=hc14;rw [zht] at this;simpa using this)⟩
    show x.vals.length - (i+1)<x.vals.length - i;omega
   replace hm:zih c i=some m:=hm;have lmk:=zak hmk;refine Jq 9 [(2,.call (Fn.cast (SRmove c i lmv) (congrArg (vi .i64) hix)) kp_11)] [(5,vp 6 0),(7,vp 7 0),(9,vp 8 0),(12,vN i),(13,vN k)] [(6,.box [cIs x.locs,cZs x.vals]),(7,.box [cIs y.locs,cZs y.vals]),(8,.box ([cI c.proc,cI c.from_,cI c.to_,cI c.guard.kind,cPs c.guard.r.t.parts]++zi c.guard.r.t.k++[cB c.guard.r.eq,cFs c.guard.kids,.d (.sl 5 (c.moves.map zaf.d))]))] h fun a w h=>?_;obtain ⟨x12,hx12⟩:=gl x.vals i;have gx12:=hx.val x12 (lM hx12);have lgx12:=gx12.2;refine Jd 9 [(3,.g (xD 79 77 zh9 (zab hx12 (f:=ziD)) (OV.tmp 78 _)))] [] [(14,vp 9 0)] [(6,.box [cIs x.locs,cZs x.vals]),(7,.box [cIs y.locs,cZs y.vals]),(8,.box ([cI c.proc,cI c.from_,cI c.to_,cI c.guard.kind,cPs c.guard.r.t.parts]++zi c.guard.r.t.k++[cB c.guard.r.eq,cFs c.guard.kids,.d (.sl 5 (c.moves.map zaf.d))])),(9,.box (zi x12))] h fun a w h=>qW (Je 10 [(1,.cmp (op:=.geq) (m:=(k:Int)) (n:=0) (b:=true) .i64 (show (decide ((k:Int)>=0))=true from decide_eq_true (by omega))),(6,.g (xD 87 85 ki_2 (zab hmk (f:=zaf.d)) (OV.tmp 86 _)))] [] [(90,vb m.any)] h fun a w h=>cS m.any h (fun hc15=>?_) (fun hc16=>?_))
   ·refine wp_exit (zaa (za5 (za0 (Jm 10 [(1,.j1 i)] [13,14,90] [(12,vI ((i:Int)+1))] [(6,.box [cIs x.locs,cZs x.vals]),(7,.box [cIs y.locs,cZs y.vals]),(8,.box ([cI c.proc,cI c.from_,cI c.to_,cI c.guard.kind,cPs c.guard.r.t.parts]++zi c.guard.r.t.k++[cB c.guard.r.eq,cFs c.guard.kids,.d (.sl 5 (c.moves.map zaf.d))]))] h fun a w h=>za0 (zag (x:=i) (y:=i+1) h ?_ ?_)))))
    ·exact ⟨by omega,zbe hi2 (by unfold zhb;rw [zcb hm hc15];rfl)⟩
    show x.vals.length - (i+1)<x.vals.length - i;omega
   refine qU (za0 (qW (Je 10 [(1,.cmp (op:=.geq) (m:=(k:Int)) (n:=0) (b:=true) .i64 (show (decide ((k:Int)>=0))=true from decide_eq_true (by omega)))] [90] [(92,vb true)] h fun a w h=>cS true h (fun _=>?_) nofun)));obtain ⟨r13,er13,vr13,or13,lr13⟩:=mkZ (v:=valT m.t x.vals) (m:=L+M+2) (Nat.le_trans (zfg (hc.mv m (lM hmk)) (by decide) hx.vok (fun p hp=>hp) (Nat.le_refl _)) (by omega));refine Jm 10 [(3,.g (xD 96 94 ki_2 (zab hmk (f:=zaf.d)) (OV.tmp 95 _))),(8,.call (Fn.cast (SRValue m.t x.vals (hc.mv m (lM hmk)) (by decide) (by omega) hx.vok) (congrArg vz er13.symm)) ke_2)] [13,92] [] [(6,.box [cIs x.locs,cZs x.vals]),(7,.box [cIs y.locs,cZs y.vals]),(8,.box ([cI c.proc,cI c.from_,cI c.to_,cI c.guard.kind,cPs c.guard.r.t.parts]++zi c.guard.r.t.k++[cB c.guard.r.eq,cFs c.guard.kids,.d (.sl 5 (c.moves.map zaf.d))])),(9,.box (zi r13))] h fun a w h=>za0 ?_;obtain ⟨x14,hx14⟩:=gl y.vals i;have gx14:=hy.val x14 (lM hx14);have lgx14:=gx14.2;refine Jd 10 [(4,.g (xD 106 104 zh9 (zab hx14 (f:=ziD)) (OV.tmp 105 _))),(6,.call (SRCmp r13 x14 or13 gx14.1 (by omega) (by omega)) kh_1)] [14] [(109,vb (zdl r13.val x14.val != 0))] [(6,.box [cIs x.locs,cZs x.vals]),(7,.box [cIs y.locs,cZs y.vals]),(8,.box ([cI c.proc,cI c.from_,cI c.to_,cI c.guard.kind,cPs c.guard.r.t.parts]++zi c.guard.r.t.k++[cB c.guard.r.eq,cFs c.guard.kids,.d (.sl 5 (c.moves.map zaf.d))]))] h fun a w h=>cS (zdl r13.val x14.val != 0) h (fun hc17=>?_) (fun hc18=>?_)
   ·have hc17':=hc17;(try simp at hc17');refine Je 10 [] [109] [(8,vb false)] h fun a w h=>qV (za7 (za2 (za2 (za7 (za2 (rT (.c (cB false)) h rfl ?_))))));have hz:zcs s x c y=false:=by unfold zcs;rw [hc1,(show (zbu s y)=true from by simpa using hc3),Bool.true_and,Bool.true_and];rw [show x.locs.length=j by have:=dF hc11;omega,hj2,Bool.true_and];rw [zbf (j:=i) (by have:=dT hc12;omega) (show zhb x c y i=false from (by unfold zhb;rw [zcb hm hc16,new_some hm hc16,ZI.val_of,<- vr13,hx14];have:=hc17;rw [zht] at this;simpa using this))]
    rw [<- zf0,hz];try rfl
   have hc18':=hc18;(try simp at hc18');refine qU (zac (za0 (Jf 10 [(1,.j1 i)] [109] [(12,vI ((i:Int)+1))] h fun a w h=>za0 (zag (x:=i) (y:=i+1) h ?_ ?_))))
   ·exact ⟨by omega,zbe hi2 (by unfold zhb;rw [zcb hm hc16,new_some hm hc16,ZI.val_of,<- vr13,hx14];have:=hc18;rw [zht] at this;simpa using this)⟩
   show x.vals.length - (i+1)<x.vals.length - i;omega
  refine wp_exit (zaa (zaa (za5 (za0 (Jq 10 [] [(8,vb true)] [] h fun a w h=>qV (rT (.c (cB true)) h rfl ?_))))));have hz:zcs s x c y=true:=by unfold zcs;rw [hc1,(show (zbu s y)=true from by simpa using hc3),Bool.true_and,Bool.true_and];rw [show x.locs.length=j by have:=dF hc11;omega,hj2,Bool.true_and];rw [show x.vals.length=i by have:=dF hc19;omega,hi2]
  rw [<- zf0,hz];try rfl
 refine Je 10 [(3,.call (Fn.cast (zh6 s x ki c (L:=L) (M:=M) (by omega) hs hx hka) (congrArg vb hc20)) kp_7)] [16] [(35,vb true)] h fun a w h=>cS true h (fun _=>?_) nofun
 refine Je 10 [] [35] [] h fun a w h=>qV (za2 (rT (.c (cB false)) h rfl ?_));have hz:zcs s x c y=false:=by unfold zcs;rw [hc20];rfl
 rw [<- zf0,hz];try rfl
theorem SRLeads (s:zan) (x:StD) (i:Int) (y:StD) {L M:Nat} (hL:L+M<=1900) (hs:zb1 L s) (hx:zd0 M x) (hy:zd0 M y):Fn Tryz.prog 15 [] [vG (zai s),vG [cIs x.locs,cZs x.vals],vi .i64 i,vG [cIs y.locs,cZs y.vals]] (vb (ze0 s x i y)) []:=by
 by_cases hn:i=-1
 ·subst hn;unfold ze0;rw [if_pos rfl];exact SRLeads1 s x y hL hs hx hy
 ·cases hi:zdy s i with
  | none=>unfold ze0;rw [if_neg hn,hi];exact SRLeads2 s x i y hL hs hx hy hi hn
  | some c=>unfold ze0;rw [if_neg hn,hi];obtain ⟨ki,rfl,hka⟩:=zes hi;exact SRLeads3 s x ki y c hL hs hx hy hka
end S
end Go.Proofs.YtdnhcneallkljaaGreat
