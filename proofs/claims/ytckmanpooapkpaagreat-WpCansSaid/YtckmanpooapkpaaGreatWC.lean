/-
  The proof of the statement WpCans: the walk through the program and the references lifted to the given row. It holds for every input.
-/
import Derived.Test.YtckmanpooapkpaaGreatWC5
import Derived.Test.YtckmanpooapkpaaGreatWC4
import Derived.Test.YtckmanpooapkpaaGreatRows
import Derived.Test.YtckmanpooapkpaaGreatWC2
set_option maxRecDepth 100000
set_option maxHeartbeats 20000000
open Go.RowKit
namespace Go.Proofs.YtckmanpooapkpaaGreat
namespace S
theorem mf5_8:za4 Tryz.prog 29:=za4.mk' (by kernel_rfl)
theorem mf5_11:za4 Tryz.prog 25:=za4.mk' (by kernel_rfl)
theorem rel_psok {n L:Nat} {t:zal} (h:TOk n L t) (hn:n<=1000:=by decide) (hL:L<=40000:=by decide):PsOk 40000 t.parts:=⟨Nat.le_trans h.len hn,fun p hp=>⟨(h.ps p hp).1,Nat.le_trans (h.ps p hp).2 hL⟩⟩
def za0.vars (f:za0):List Int:=f.fold fun k r _ vs=>if k=2 then zc7 r.t.parts else (cnt k vs).foldl (fun a v=>v.foldl ze1 a) []
theorem za0.vars_eq (f:za0):f.vars=if f.kind=2 then zc7 f.r.t.parts else (cnt f.kind f.kids).foldl (fun a g=>(za0.vars g).foldl ze1 a) []:=by
 have:=za0.fold_eq (fun k r _ (vs:List (List Int))=>if k=2 then zc7 r.t.parts else (cnt k vs).foldl (fun a v=>v.foldl ze1 a) []) f
 rw [zdf,List.foldl_map] at this;exact this
theorem foldl_take_v {ks:List za0} {j:Nat} {g:za0} (h:ks[j]?=some g):(ks.take (j+1)).foldl (fun a g=>(za0.vars g).foldl ze1 a) []=(za0.vars g).foldl ze1 ((ks.take j).foldl (fun a g=>(za0.vars g).foldl ze1 a) []):=by
 rw [List.take_add_one,h,List.foldl_append];rfl
theorem insF_len (vs a:List Int):(vs.foldl ze1 a).length<=a.length+vs.length:=by
 induction vs generalizing a with
 | nil=>exact Nat.le_refl _
 | cons v vs ih=>rw [List.foldl_cons,List.length_cons];have:=ih (ze1 a v);have:=zkh a v;omega
theorem vf_len (gs:List za0) (a:List Int):(gs.foldl (fun a g=>(za0.vars g).foldl ze1 a) a).length<=a.length+(gs.map fun g=>g.vars.length).sum:=by
 induction gs generalizing a with
 | nil=>simp
 | cons g gs ih =>
  rw [List.foldl_cons,List.map_cons,List.sum_cons]
  have h1:=ih (g.vars.foldl ze1 a)
  have h2:=insF_len g.vars a
  omega
theorem sum_mul40 {F G:za0->Nat}:∀ {xs:List za0}, (∀ x ∈ xs,F x<=40*G x)->(xs.map F).sum<=40*(xs.map G).sum
 | [],_=>Nat.le_refl _
 | x :: xs,h=>by
  rw [List.map_cons,List.map_cons,List.sum_cons,List.sum_cons]
  have:=h x (List.mem_cons_self ..);have:=sum_mul40 (xs:=xs) fun y hy=>h y (List.mem_cons_of_mem _ hy);omega
theorem vars_len (f:za0):f.okB 40 400->f.vars.length<=40*f.wid :=
 za0.ind (P:=fun f=>f.okB 40 400->f.vars.length<=40*f.wid) (fun k r ks ih hf=>by
  rw [za0.vars_eq,za0.wid_eq]
  split
  ·rename_i e
   have h1:=zho (za0.mk k r ks).r.t.parts
   have h2:=(((za0.okB_eq _ _ _).1 hf).1.1 e).len
   omega
  ·have h1:=vf_len (cnt k ks) []
   have h2:((cnt k ks).map fun g=>g.vars.length).sum<=40*((cnt k ks).map za0.wid).sum:=sum_mul40 fun g hg=>ih g (zbf hg) (zfk hf hg)
   show ((cnt k ks).foldl (fun a g=>(za0.vars g).foldl ze1 a) []).length<=40*(3+((cnt k ks).map za0.wid).sum)
   simp only [List.length_nil] at h1
   omega) f
theorem vars_room {f x:za0} (hf:f.okB 40 400) {j:Nat} (hx:(cnt f.kind f.kids)[j]?=some x):(((cnt f.kind f.kids).take j).foldl (fun a g=>(za0.vars g).foldl ze1 a) []).length+x.vars.length<=40*f.wid:=by
 have h1:=vf_len ((cnt f.kind f.kids).take j) []
 have h2:((cnt f.kind f.kids).map fun g=>g.vars.length).sum<=40*((cnt f.kind f.kids).map za0.wid).sum:=sum_mul40 fun g hg=>vars_len g (zfk hf hg)
 have h3:=za0.wid_eq f
 have h4:(((cnt f.kind f.kids).take j).map fun g=>g.vars.length).sum+x.vars.length<=((cnt f.kind f.kids).map fun g=>g.vars.length).sum:=by
  obtain ⟨hj,rfl⟩:=List.getElem?_eq_some_iff.1 hx
  have e:(cnt f.kind f.kids)=(cnt f.kind f.kids).take j++(cnt f.kind f.kids)[j] :: (cnt f.kind f.kids).drop (j+1):=by rw [<- List.drop_eq_getElem_cons hj,List.take_append_drop]
  have e2:=congrArg (fun l:List za0=>(l.map fun g=>g.vars.length).sum) e
  simp only [List.map_append,List.sum_append,List.map_cons,List.sum_cons] at e2
  omega
 simp only [List.length_nil] at h1
 omega
def inB (s:zao) (f:za0):Bool:=match f.vars.getLast? with | none=>true | some v=>decide (v<(s.vars.length:Int))
def proB (s:zao):Bool:=inB s s.init && s.acts.all fun c=>inB s c.guard && c.moves.all fun m=>inB s (zdi ⟨m.t,false⟩)
def zav (s:zao) (x y:StD) (k:Nat):List ZI:=(List.replicate (k*s.vars.length) zfb++x.vals)++y.vals
def smB (s:zao) (xs:List StD):Bool:=xs.all (zgc 3) && zbo 3 s
theorem last_at {vs:List Int} {j:Nat} {v:Int} (hj:vs[j]?=some v) (h:j+1=vs.length):vs.getLast?=some v:=by
 rw [List.getLast?_eq_getElem?, show vs.length - 1=j by omega];exact hj
theorem LR4HoldsW (r:zb1) (vs:List ZI) {M:Nat} (hM:M<=300) (hv:VOk M vs) (hr:TOk 1000 1000 r.t):Fn Tryz.prog 40 [] [(vR r),(vZs vs)] (vb (zco vs r)) []:=by
 refine Fn.body Tryz.func40 rfl 17 rfl fun w H B a h=>Jq 0 [] [(1,(vZs vs)),(2,vp 0 0),(4,vb false)] [(0,.box (zR_ r))] h fun a w h=>?_
 obtain ⟨r1,er1,vr1,or1,lr1⟩:=mkZ (v:=zf3 r.t vs) (m:=1600) (Nat.le_trans (valT_len hr (by decide) hv) (by omega));refine Je 1 [(3,.call (Fn.cast (SRValue r.t vs hr (by decide) (by omega) hv) (congrArg vz er1.symm)) ke_2),(4,.call (zdj r1 or1 (by omega)) ib_0)] [1] [(5,vI (sgn r1.val))] h fun a w h=>qW (Jd 1 [] [2] [(12,vb r.eq)] [] h fun a w h=>cS r.eq h (fun hc1=>?_) (fun hc2=>?_))
 ·refine Jd 1 [] [12] [(4,vb (sgn r1.val == 0))] [] h fun a w h=>qV (za7 (rT (.c (cB (sgn r1.val == 0))) h rfl ?_))
  have hz:zco vs r=(sgn r1.val == 0):=by
   unfold zco;rw [<- vr1]
   cases he:r.eq <;> simp_all <;> omega
  rw [hz];try rfl
 refine qU (za1 (Jq 1 [] [(4,vb (decide (sgn r1.val>=0)))] [] h fun a w h=>qV (rT (.c (cB (decide (sgn r1.val>=0)))) h rfl ?_)))
 have hz:zco vs r=(decide (sgn r1.val>=0)):=by
  unfold zco;rw [<- vr1]
  cases he:r.eq <;> simp_all <;> omega
 rw [hz];try rfl
theorem LR5HoldsW0 (f:za0) (vs:List ZI) {M:Nat} (ih:∀ g ∈ f.kids,g.okB 1000 1000->Fn Tryz.prog 12 [] [(vF g),(vZs vs)] (vb (za0.holds vs g)) []) (hM:M<=300) (hv:VOk M vs) (hf:f.okB 1000 1000):Fn Tryz.prog 12 [] [(vF f),(vZs vs)] (vb (f.holds vs)) []:=by
 have hk:=zdc hf;refine Fn.body Tryz.func12 rfl 65 rfl fun w H B a h=>Jq 0 [] [(1,(vZs vs)),(2,vp 0 0),(4,vb false)] [(0,.box (zF f))] h fun a w h=>qW (Je 1 [] [] [(8,vI f.kind)] h fun a w h=>qZ (Je 1 [] [] [(9,vb (f.kind == 0))] h fun a w h=>cS (f.kind == 0) h (fun hc1=>?_) (fun hc2=>?_)))
 ·have hc1':=hc1;(try simp at hc1');refine Jq 1 [] [(4,vb true)] [] h fun a w h=>qV (zac (za7 (rT (.c (cB true)) h rfl ?_)));have hz:f.holds vs=(true):=by rw [za0.holds_eq,if_pos (by omega)];try rfl
  rw [hz];try rfl
 have hc2':=hc2;(try simp at hc2');refine Je 1 [] [9] [(11,vb (f.kind == 2))] h fun a w h=>cS (f.kind == 2) h (fun hc3=>?_) (fun hc4=>?_)
 ·have hc3':=hc3;(try simp at hc3');refine Jq 1 [(3,.call (LR4HoldsW f.r vs hM hv (((za0.okB_eq _ _ f).1 hf).1.1 (by omega))) ke_9)] [(4,vb (zco vs f.r))] [] h fun a w h=>qV (zac (za7 (rT (.c (cB (zco vs f.r))) h rfl ?_)));have hz:f.holds vs=(zco vs f.r):=by rw [za0.holds_eq,if_neg (by omega),if_pos (by omega)];try rfl
  rw [hz];try rfl
 have hc4':=hc4;(try simp at hc4');refine Je 1 [] [11] [(17,vb (f.kind == 3))] h fun a w h=>cS (f.kind == 3) h (fun hc5=>?_) (fun hc8=>?_)
 ·have hc5':=hc5;(try simp at hc5')
  rcases Bool.eq_false_or_eq_true (decide ((f.kids.length:Int)>0)) with hc6 | hc7
  ·have hc6':=dT hc6;obtain ⟨x2,hx2⟩:=gl f.kids 0;refine Jq 1 [(2,.len (za6 6 za0.d f.kids)),(3,.cmp (op:=.gtr) (m:=(f.kids.length:Int)) (n:=0) (b:=true) .i64 hc6),(7,.g (xD 26 25 kb_0 ((zab hx2 (f:=za0.d)).trans (congrArg some (za0.d_eq x2))) (OV.const (.int .i64 0) rfl))),(10,.call (ih x2 (lM hx2) (zfk hf (by unfold cnt;first | (rw [if_pos (by omega)];exact lM hx2) | (rw [if_neg (by omega),if_pos (by omega)];exact zej hx2)))) zfy)] [(4,vb (!(za0.holds vs x2)))] [] h fun a w h=>qV (zac (za7 (rT (.c (cB (!(za0.holds vs x2)))) h rfl ?_)));have hz:f.holds vs=(!(za0.holds vs x2)):=by rw [za0.holds_eq,if_neg (by omega),if_neg (by omega),if_pos (by omega)];obtain ⟨tl,htl⟩:=zj1 hx2;rw [htl];try rfl
   rw [hz];try rfl
  have hc7':=dF hc7;refine Jq 1 [(2,.len (za6 6 za0.d f.kids)),(3,.cmp (op:=.gtr) (m:=(f.kids.length:Int)) (n:=0) (b:=false) .i64 hc7)] [(4,vb false)] [] h fun a w h=>qV (zac (za7 (rT (.c (cB false)) h rfl ?_)));have hz:f.holds vs=(false):=by rw [za0.holds_eq,if_neg (by omega),if_neg (by omega),if_pos (by omega)];rw [List.length_eq_zero_iff.1 (show f.kids.length=0 by have:=dF hc7;omega)];try rfl
  rw [hz];try rfl
 have hc8':=hc8;(try simp at hc8');refine Je 1 [] [17] [(32,vb (f.kind == 4))] h fun a w h=>cS (f.kind == 4) h (fun hc9=>?_) (fun hc14=>?_)
 ·have hc9':=hc9;(try simp at hc9');refine qW (Je 1 [] [8,32] [(5,vI 0)] h fun a w h=>qZ ?_)
  refine zaq (ι:=(Nat)) (fun j=>j<=f.kids.length/\(f.kids.take j).all (za0.holds vs)=true)
    (fun j=>[(1,(vZs vs)),(2,vp 0 0),(5,vN j)])
    (fun j=>[(0,.box (zF f))])
    (fun j=>f.kids.length - j) 0 ?_ h (by kernel_rfl) (by kernel_rfl) ?_
  ·exact ⟨Nat.zero_le _,rfl⟩
  clear h;rintro j a w hI h;obtain ⟨hI1,hI2⟩:=hI;refine qW (Je 1 [(3,.len (za6 6 za0.d f.kids))] [] [(38,vb (decide ((j:Int)<(f.kids.length:Int))))] h fun a w h=>zam ((j:Int)<(f.kids.length:Int)) h (fun hc10 hc10'=>?_) (fun hc13 hc13'=>?_))
  ·refine qU (za1 (qW (qZ ?_)));obtain ⟨x4,hx4⟩:=gl f.kids j;refine Je 1 [(3,.g (xD 44 42 kb_0 ((zab hx4 (f:=za0.d)).trans (congrArg some (za0.d_eq x4))) (OV.tmp 43 _))),(6,.call (ih x4 (lM hx4) (zfk hf (by unfold cnt;first | (rw [if_pos (by omega)];exact lM hx4) | (rw [if_neg (by omega),if_pos (by omega)];exact zej hx4)))) zfy)] [38] [(48,vb (!(za0.holds vs x4)))] h fun a w h=>cS (!(za0.holds vs x4)) h (fun hc11=>?_) (fun hc12=>?_)
   ·have hc11':=hc11;(try simp at hc11');refine Je 1 [] [48] [(4,vb false)] h fun a w h=>qV (zac (za7 (za7 (zac (za7 (zac (za7 (rT (.c (cB false)) h rfl ?_))))))));have hz:f.holds vs=(false):=by rw [za0.holds_eq,if_neg (by omega),if_neg (by omega),if_neg (by omega),if_pos (by omega)];exact zbn hx4 (show (za0.holds vs x4)=false from by simpa using hc11)
    rw [hz];try rfl
   have hc12':=hc12;(try simp at hc12');refine qU (za8 (za1 (Jf 1 [(1,.j1 j)] [48] [(5,vI ((j:Int)+1))] h fun a w h=>za1 (zag (x:=j) (y:=j+1) h ?_ ?_))))
   ·exact ⟨by have:=zai hx4;omega,zcp hx4 hI2 (show (za0.holds vs x4)=true from by simpa using hc12)⟩
   show f.kids.length - (j+1)<f.kids.length - j;have:=zai hx4;omega
  refine wp_exit (za9 (za9 (za5 (za1 (Jq 1 [] [(4,vb true)] [] h fun a w h=>qV (zac (za7 (rT (.c (cB true)) h rfl ?_))))))));have hz:f.holds vs=(true):=by rw [za0.holds_eq,if_neg (by omega),if_neg (by omega),if_neg (by omega),if_pos (by omega)];exact zcu (dF hc13) hI2
  rw [hz];try rfl
 have hc14':=hc14;(try simp at hc14');refine Je 1 [] [8,32] [(49,vb (f.kind == 5))] h fun a w h=>cS (f.kind == 5) h (fun hc15=>?_) (fun hc20=>?_)
 ·have hc15':=hc15;(try simp at hc15');refine Je 1 [] [49] [(6,vI 0)] h fun a w h=>qZ ?_
  refine zaq (ι:=(Nat)) (fun j=>j<=f.kids.length/\(f.kids.take j).any (za0.holds vs)=false)
    (fun j=>[(1,(vZs vs)),(2,vp 0 0),(6,vN j)])
    (fun j=>[(0,.box (zF f))])
    (fun j=>f.kids.length - j) 0 ?_ h (by kernel_rfl) (by kernel_rfl) ?_
  ·exact ⟨Nat.zero_le _,rfl⟩
  clear h;rintro j a w hI h;obtain ⟨hI1,hI2⟩:=hI;refine qW (Je 1 [(3,.len (za6 6 za0.d f.kids))] [] [(55,vb (decide ((j:Int)<(f.kids.length:Int))))] h fun a w h=>zam ((j:Int)<(f.kids.length:Int)) h (fun hc16 hc16'=>?_) (fun hc19 hc19'=>?_))
  ·refine qU (za1 (qW (qZ ?_)));obtain ⟨x6,hx6⟩:=gl f.kids j;refine Je 1 [(3,.g (xD 61 59 kb_0 ((zab hx6 (f:=za0.d)).trans (congrArg some (za0.d_eq x6))) (OV.tmp 60 _))),(6,.call (ih x6 (lM hx6) (zfk hf (by unfold cnt;first | (rw [if_pos (by omega)];exact lM hx6) | (rw [if_neg (by omega),if_pos (by omega)];exact zej hx6)))) zfy)] [55] [(64,vb (za0.holds vs x6))] h fun a w h=>cS (za0.holds vs x6) h (fun hc17=>?_) (fun hc18=>?_)
   ·refine Je 1 [] [64] [(4,vb true)] h fun a w h=>qV (zac (za7 (za7 (zac (zac (za7 (rT (.c (cB true)) h rfl ?_)))))));have hz:f.holds vs=(true):=by rw [za0.holds_eq,if_neg (by omega),if_neg (by omega),if_neg (by omega),if_neg (by omega),if_pos (by omega)];exact zi6 hx6 hc17
    rw [hz];try rfl
   refine qU (za8 (za1 (Jf 1 [(1,.j1 j)] [64] [(6,vI ((j:Int)+1))] h fun a w h=>za1 (zag (x:=j) (y:=j+1) h ?_ ?_))))
   ·exact ⟨by have:=zai hx6;omega,zkp hx6 hI2 hc18⟩
   show f.kids.length - (j+1)<f.kids.length - j;have:=zai hx6;omega
  refine wp_exit (za9 (za9 (za5 (za8 (za1 (Jq 1 [] [(4,vb false)] [] h fun a w h=>qV (rT (.c (cB false)) h rfl ?_)))))));have hz:f.holds vs=(false):=by rw [za0.holds_eq,if_neg (by omega),if_neg (by omega),if_neg (by omega),if_neg (by omega),if_pos (by omega)];exact any_end (dF hc19) hI2
  rw [hz];try rfl
 have hc20':=hc20;(try simp at hc20');refine qU (za8 (za1 (Jq 1 [] [(4,vb false)] [] h fun a w h=>qV (rT (.c (cB false)) h rfl ?_))));have hz:f.holds vs=(false):=by rw [za0.holds_eq,if_neg (by omega),if_neg (by omega),if_neg (by omega),if_neg (by omega),if_neg (by omega)];try rfl
 rw [hz];try rfl
theorem zcn (vs:List ZI) {M:Nat} (hM:M<=300) (hv:VOk M vs) (f:za0):f.okB 1000 1000->Fn Tryz.prog 12 [] [(vF f),(vZs vs)] (vb (za0.holds vs f)) [] :=
 za0.ind (P:=fun f=>f.okB 1000 1000->Fn Tryz.prog 12 [] [(vF f),(vZs vs)] (vb (za0.holds vs f)) []) (fun k r ks ih hf=>LR5HoldsW0 ⟨k,r,ks⟩ vs (fun g hg h=>ih g hg h) hM hv hf) f
theorem LR5Vars0 (f:za0) (ih:∀ g ∈ (cnt f.kind f.kids),Fn Tryz.prog 29 [] [(vF g)] (vIs (za0.vars g)) []) (hf:f.okB 40 400) (hw:f.wid<=20000):Fn Tryz.prog 29 [] [(vF f)] (vIs (za0.vars f)) []:=by
 have lck:=zep hf;have lkm:=zdc hf;refine Fn.body Tryz.func29 rfl 42 rfl fun w H B a h=>Jq 0 [] [(1,vp 0 0),(2,vW zae)] [(0,.box (zF f))] h fun a w h=>Je 1 [(0,.g (Op.buildED (d:=8) tb_0))] [] [(3,(vIs []))] h fun a w h=>qW (Je 1 [] [] [(11,vb (f.kind == 2))] h fun a w h=>cS (f.kind == 2) h (fun hc1=>?_) (fun hc2=>?_))
 ·have hc1':=hc1;(try simp at hc1');refine Je 1 [(3,.call (SVars f.r.t (rel_psok (rel_ok hf hc1))) tb_8)] [11] [(2,(vIs (zc7 f.r.t.parts)))] h fun a w h=>qV (za7 (rT (.c (cIs (zc7 f.r.t.parts))) h rfl ?_));have hz:f.vars=zc7 f.r.t.parts:=by rw [za0.vars_eq,if_pos (by have:=hc1;simpa using this)]
  rw [hz];try rfl
 have hc2':=hc2;(try simp at hc2');refine qU (za1 (Jd 1 [(1,.call (SKids f) kc_0)] [1,11] [(4,(vFs (cnt f.kind f.kids)))] [] h fun a w h=>qW (Jd 1 [] [] [(5,vI 0)] [] h fun a w h=>qZ ?_)))
 refine zaq (ι:=(Nat)) (fun j=>j<=(cnt f.kind f.kids).length)
   (fun j=>[(2,vW zae),(3,(vIs (((cnt f.kind f.kids).take j).foldl (fun a g=>(za0.vars g).foldl ze1 a) []))),(4,(vFs (cnt f.kind f.kids))),(5,vN j)])
   (fun j=>[])
   (fun j=>(cnt f.kind f.kids).length - j) 0 ?_ h (by kernel_rfl) (by kernel_rfl) ?_
 ·exact Nat.zero_le _
 clear h;rintro j a w hI h;refine qW (Jd 1 [(2,.len (za6 6 za0.d (cnt f.kind f.kids)))] [] [(21,vb (decide ((j:Int)<((cnt f.kind f.kids).length:Int))))] [] h fun a w h=>zam ((j:Int)<((cnt f.kind f.kids).length:Int)) h (fun hc3 hc3'=>?_) (fun hc6 hc6'=>?_))
 ·refine qU (za1 (qW (qZ ?_)));obtain ⟨x3,hx3⟩:=gl (cnt f.kind f.kids) j;refine Jd 1 [(2,.g (xD 26 24 kb_0 ((zab hx3 (f:=za0.d)).trans (congrArg some (za0.d_eq x3))) (OV.tmp 25 _))),(4,.call (ih x3 (lM hx3)) mf5_8)] [21] [(6,(vIs (za0.vars x3)))] [] h fun a w h=>Jd 1 [] [] [(7,vI 0)] [] h fun a w h=>qZ ?_
  refine zaq (ι:=(Nat)) (fun i=>i<=(za0.vars x3).length)
    (fun i=>[(2,vW zae),(3,(vIs (((za0.vars x3).take i).foldl ze1 (((cnt f.kind f.kids).take j).foldl (fun a g=>(za0.vars g).foldl ze1 a) [])))),(4,(vFs (cnt f.kind f.kids))),(5,vN j),(6,(vIs (za0.vars x3))),(7,vN i)])
    (fun i=>[])
    (fun i=>(za0.vars x3).length - i) 0 ?_ h (by kernel_rfl) (by kernel_rfl) ?_
  ·exact Nat.zero_le _
  clear h;rintro i a w hI h;have lvi:=insF_len ((za0.vars x3).take i) (((cnt f.kind f.kids).take j).foldl (fun a g=>(za0.vars g).foldl ze1 a) []);have lti:((za0.vars x3).take i).length<=i:=by rw [List.length_take];omega
  have lvr:=vars_room hf hx3;refine qW (Jd 1 [(2,.len (za6 1 zaj (za0.vars x3)))] [] [(32,vb (decide ((i:Int)<((za0.vars x3).length:Int))))] [] h fun a w h=>zam ((i:Int)<((za0.vars x3).length:Int)) h (fun hc4 hc4'=>?_) (fun hc5 hc5'=>?_))
  ·refine qU (za1 (qW (qZ ?_)));obtain ⟨x5,hx5⟩:=gl (za0.vars x3) i;refine Jm 1 [(3,.g (xD 38 36 zh8 (zab hx5 (f:=zaj)) (OV.tmp 37 _))),(5,.call (SInsert (((za0.vars x3).take i).foldl ze1 (((cnt f.kind f.kids).take j).foldl (fun a g=>(za0.vars g).foldl ze1 a) [])) x5 (by omega)) tb_6)] [32] [(3,(vIs (ze1 (((za0.vars x3).take i).foldl ze1 (((cnt f.kind f.kids).take j).foldl (fun a g=>(za0.vars g).foldl ze1 a) [])) x5)))] [] h fun a w h=>za8 (za1 (Jm 1 [(1,.j1 i)] [] [(7,vI ((i:Int)+1))] [] h fun a w h=>za1 ?_));rw [show ((ze1 (((za0.vars x3).take i).foldl ze1 (((cnt f.kind f.kids).take j).foldl (fun a g=>(za0.vars g).foldl ze1 a) [])) x5):List Int)=(((za0.vars x3).take (i+1)).foldl ze1 (((cnt f.kind f.kids).take j).foldl (fun a g=>(za0.vars g).foldl ze1 a) [])) from (by rw [List.take_add_one,hx5,List.foldl_append];rfl)] at h;refine zag (x:=i) (y:=i+1) h ?_ ?_
   ·have:=zai hx5;show i+1<=(za0.vars x3).length;omega
   show (za0.vars x3).length - (i+1)<(za0.vars x3).length - i;have:=zai hx5;omega
  refine wp_exit (za9 (za9 (za5 (za8 (za1 (Jm 1 [(1,.j1 j)] [6,7,32] [(5,vI ((j:Int)+1))] [] h fun a w h=>za1 ?_))))));rw [show ((((za0.vars x3).take i).foldl ze1 (((cnt f.kind f.kids).take j).foldl (fun a g=>(za0.vars g).foldl ze1 a) [])):List Int)=(((cnt f.kind f.kids).take (j+1)).foldl (fun a g=>(za0.vars g).foldl ze1 a) []) from (by rw [show i=(za0.vars x3).length by omega,List.take_length];exact (foldl_take_v hx3).symm)] at h;refine zag (x:=j) (y:=j+1) h ?_ ?_
  ·have:=zai hx3;show j+1<=(cnt f.kind f.kids).length;omega
  show (cnt f.kind f.kids).length - (j+1)<(cnt f.kind f.kids).length - j;have:=zai hx3;omega
 refine wp_exit (za9 (za9 (za5 (za1 (Jq 1 [] [(2,(vIs (((cnt f.kind f.kids).take j).foldl (fun a g=>(za0.vars g).foldl ze1 a) [])))] [] h fun a w h=>qV (rT (.c (cIs (((cnt f.kind f.kids).take j).foldl (fun a g=>(za0.vars g).foldl ze1 a) []))) h rfl ?_))))));have hz:f.vars=(((cnt f.kind f.kids).take j).foldl (fun a g=>(za0.vars g).foldl ze1 a) []):=by rw [za0.vars_eq,if_neg (by have:=hc2;simpa using this),List.take_of_length_le (by omega)]
 rw [hz];try rfl
theorem LR5Vars (f:za0):f.okB 40 400->f.wid<=20000->Fn Tryz.prog 29 [] [(vF f)] (vIs (za0.vars f)) [] :=
 za0.ind (P:=fun f=>f.okB 40 400->f.wid<=20000->Fn Tryz.prog 29 [] [(vF f)] (vIs (za0.vars f)) []) (fun k r ks ih hf hw=>LR5Vars0 ⟨k,r,ks⟩ (fun g hg=>ih g (zbf hg) (zfk hf hg) (Nat.le_trans (wid_kid hg) hw)) hf hw) f
theorem Linside (s:zao) (f:za0) (hf:f.okB 40 400) (hw:f.wid<=20000):Fn Tryz.prog 25 [] [vG (zak s),(vF f)] (vb (inB s f)) []:=by
 have lvf:=vars_len f hf;refine Fn.body Tryz.func25 rfl 23 rfl fun w H B a h=>Jq 0 [] [(2,vp 0 0),(3,vp 1 0),(4,vb false)] [(0,.box (zak s)),(1,.box (zF f))] h fun a w h=>Jd 2 [(1,.call (LR5Vars f hf hw) mf5_8)] [3] [(5,(vIs (za0.vars f)))] [(0,.box (zak s))] h fun a w h=>?_
 rcases Bool.eq_false_or_eq_true (((za0.vars f).length:Int) == 0) with hc1 | hc2
 ·have hc1':=hc1;(try simp at hc1');refine Jq 2 [(1,.len (za6 1 zaj (za0.vars f))),(2,.cmp (op:=.eql) (m:=((za0.vars f).length:Int)) (n:=0) (b:=true) .i64 hc1)] [(4,vb true)] [] h fun a w h=>qV (rT (.c (cB true)) h rfl ?_);have hz:inB s f=true:=by unfold inB;rw [List.length_eq_zero_iff.1 (show (za0.vars f).length=0 by have:=beq_iff_eq.1 hc1;omega)];rfl
  rw [hz];try rfl
 have hc2':=hc2;(try simp at hc2');obtain ⟨jl,hjl⟩:∃ j_:Nat,j_+1=(za0.vars f).length:=⟨(za0.vars f).length - 1,by have:=beq_eq_false_iff_ne.1 hc2;omega⟩;obtain ⟨x2,hx2⟩:=gl (za0.vars f) jl;refine Jq 2 [(1,.len (za6 1 zaj (za0.vars f))),(2,.cmp (op:=.eql) (m:=((za0.vars f).length:Int)) (n:=0) (b:=false) .i64 hc2),(6,.len (za6 1 zaj (za0.vars f))),(7,.g (Op.arith (op:=.sub) (d:=15) (xt:=3) (yt:=3) (k:=.i64) (m:=((za0.vars f).length:Int)) (n:=1) (r:=(jl:Int)) (OV.tmp 14 _) (OV.const (.int .i64 1) rfl) (.inr (.inl ⟨rfl,(by omega)⟩)) i6)),(8,.g (xD 16 12 zh8 (zab hx2 (f:=zaj)) (OV.tmp 15 _))),(12,.len (za6 1 zfu s.vars))] [(4,vb (decide (x2<(s.vars.length:Int))))] [] h fun a w h=>qV (rT (.c (cB (decide (x2<(s.vars.length:Int))))) h rfl ?_);have hz:inB s f=(decide (x2<(s.vars.length:Int))):=by unfold inB;rw [last_at hx2 hjl]
 rw [hz];try rfl
theorem Lproper (s:zao) (hs:zbc 3 s) (hw:SysW s):Fn Tryz.prog 9 [] [vG (zak s)] (vb (proB s)) []:=by
 have las:=hs.acts;refine Fn.body Tryz.func9 rfl 40 rfl fun w H B a h=>Jq 0 [] [(1,vp 0 0),(2,vb false)] [(0,.box (zak s))] h fun a w h=>qW (Je 1 [(3,.call (Linside s s.init (za0.okB_mono (by decide) (by decide) _ (zg0 hs.init (by have:=hw.1;omega))) (by have:=hw.1;omega)) mf5_11)] [] [(11,vb (!(inB s s.init)))] h fun a w h=>cS (!(inB s s.init)) h (fun hc1=>?_) (fun hc2=>?_))
 ·have hc1':=hc1;(try simp at hc1');refine Je 1 [] [11] [] h fun a w h=>qV (za7 (rT (.c (cB false)) h rfl ?_));have hz:proB s=false:=by unfold proB;rw [(show (inB s s.init)=false from by simpa using hc1)];rfl
  rw [hz];try rfl
 have hc2':=hc2;(try simp at hc2');refine qU (za1 (qW (Je 1 [(2,.len (za6 10 zb4.d s.acts))] [11] [(13,vS 10 (s.acts.map zb4.d)),(14,vN s.acts.length),(15,vI 0)] h fun a w h=>qZ ?_)))
 refine zaq (ι:=(Nat)) (fun j=>j<=s.acts.length/\(s.acts.take j).all (fun c=>inB s c.guard && c.moves.all fun m=>inB s (zdi ⟨m.t,false⟩))=true)
   (fun j=>[(1,vp 0 0),(13,vS 10 (s.acts.map zb4.d)),(14,vN s.acts.length),(15,vN j)])
   (fun j=>[(0,.box (zak s))])
   (fun j=>s.acts.length - j) 0 ?_ h (by kernel_rfl) (by kernel_rfl) ?_
 ·exact ⟨Nat.zero_le _,rfl⟩
 clear h;rintro j a w hI h;obtain ⟨hP1,hP2⟩:=hI;refine Je 1 [] [] [(16,vb (decide ((j:Int)<(s.acts.length:Int))))] h fun a w h=>qW (zam ((j:Int)<(s.acts.length:Int)) h (fun hc3 hc3'=>?_) (fun hc10 hc10'=>?_))
 ·refine qU (za1 (qW (qZ ?_)));obtain ⟨x2,hx2⟩:=gl s.acts j;have hcx2:=hs.act x2 (lM hx2);have hgx2:=hw.2 x2 (lM hx2);have lmx2:=hcx2.len;refine Jd 1 [(0,.g (xD 17 13 ki_1 (zab hx2 (f:=zb4.d)) (OV.tmp 15 _)))] [16] [(4,vp 1 0)] [(0,.box (zak s)),(1,.box ([cI x2.proc,cI x2.from_,cI x2.to_,cI x2.guard.kind,cPs x2.guard.r.t.parts]++zi x2.guard.r.t.k++[cB x2.guard.r.eq,cFs x2.guard.kids,.d (.sl 5 (x2.moves.map zaf.d))]))] h fun a w h=>qW (Je 2 [(3,.call (Linside s x2.guard (za0.okB_mono (by decide) (by decide) _ (zg0 hcx2.guard (by omega))) (by omega)) mf5_11)] [] [(23,vb (!(inB s x2.guard)))] h fun a w h=>cS (!(inB s x2.guard)) h (fun hc4=>?_) (fun hc5=>?_))
  ·have hc4':=hc4;(try simp at hc4');refine Je 2 [] [23] [(2,vb false)] h fun a w h=>qV (za7 (zac (za7 (za7 (zac (za7 (rT (.c (cB false)) h rfl ?_)))))));have hz:proB s=false:=by unfold proB;rw [zbn (q:=(fun c=>inB s c.guard && c.moves.all fun m=>inB s (zdi ⟨m.t,false⟩))) hx2 (by show (inB s x2.guard && _)=false;rw [(show (inB s x2.guard)=false from by simpa using hc4)];rfl),Bool.and_false]
   rw [hz];try rfl
  have hc5':=hc5;(try simp at hc5');refine qU (za1 (Jd 2 [(2,.len (za6 5 zaf.d x2.moves))] [4,23] [(25,vS 5 (x2.moves.map zaf.d)),(26,vN x2.moves.length),(27,vI 0)] [(0,.box (zak s))] h fun a w h=>qZ ?_))
  refine zaq (ι:=(Nat)) (fun i=>i<=x2.moves.length/\(x2.moves.take i).all (fun m=>inB s (zdi ⟨m.t,false⟩))=true)
    (fun i=>[(1,vp 0 0),(13,vS 10 (s.acts.map zb4.d)),(14,vN s.acts.length),(15,vN j),(25,vS 5 (x2.moves.map zaf.d)),(26,vN x2.moves.length),(27,vN i)])
    (fun i=>[(0,.box (zak s))])
    (fun i=>x2.moves.length - i) 0 ?_ h (by kernel_rfl) (by kernel_rfl) ?_
  ·exact ⟨Nat.zero_le _,rfl⟩
  clear h;rintro i a w hI h;obtain ⟨hQ1,hQ2⟩:=hI;refine Je 2 [] [] [(28,vb (decide ((i:Int)<(x2.moves.length:Int))))] h fun a w h=>qW (zam ((i:Int)<(x2.moves.length:Int)) h (fun hc6 hc6'=>?_) (fun hc9 hc9'=>?_))
  ·refine qU (za1 (qW (qZ ?_)));obtain ⟨x4,hx4⟩:=gl x2.moves i;refine Jd 2 [(0,.g (xD 29 25 ki_2 (zab hx4 (f:=zaf.d)) (OV.tmp 27 _)))] [28] [(6,vp 2 0)] [(0,.box (zak s)),(2,.box ([cI x4.v,cB x4.any,cPs x4.t.parts]++zi x4.t.k))] h fun a w h=>Jd 3 [(4,.call (LR5Atom (zb1.mk x4.t false) ((hcx2.mv x4 (lM hx4)).mono (by decide) (by decide))) ls19_8),(5,.call (Linside s (zdi (zb1.mk x4.t false)) (za0.okB_mono (by decide) (by decide) _ (okB_atom ((hcx2.mv x4 (lM hx4)).plain (by decide)))) (by rw [za0.wid_eq];show 3+(List.map za0.wid (cnt (2:Int) [])).sum<=20000;decide)) mf5_11)] [6] [(37,vb (!(inB s (zdi (zb1.mk x4.t false)))))] [(0,.box (zak s))] h fun a w h=>cS (!(inB s (zdi (zb1.mk x4.t false)))) h (fun hc7=>?_) (fun hc8=>?_)
   ·have hc7':=hc7;(try simp at hc7');refine Je 3 [] [37] [(2,vb false)] h fun a w h=>qV (zac (za7 (za7 (zac (zac (za7 (za7 (zac (za7 (rT (.c (cB false)) h rfl ?_))))))))));have hz:proB s=false:=by unfold proB;rw [zbn (q:=(fun c=>inB s c.guard && c.moves.all fun m=>inB s (zdi ⟨m.t,false⟩))) hx2 (by show (inB s x2.guard && x2.moves.all fun m=>inB s (zdi ⟨m.t,false⟩))=false;rw [zbn (q:=fun m:zaf=>inB s (zdi ⟨m.t,false⟩)) hx4 (show (inB s (zdi (zb1.mk x4.t false)))=false from by simpa using hc7),Bool.and_false]),Bool.and_false]
    rw [hz];try rfl
   have hc8':=hc8;(try simp at hc8');refine qU (za8 (za1 (Jf 3 [(0,.j1 i)] [37] [(27,vI ((i:Int)+1))] h fun a w h=>za1 (zag (x:=i) (y:=i+1) h ?_ ?_))))
   ·exact ⟨by have:=zai hx4;omega,zcp hx4 hQ2 (show (inB s (zdi (zb1.mk x4.t false)))=true from by simpa using hc8)⟩
   show x2.moves.length - (i+1)<x2.moves.length - i;have:=zai hx4;omega
  refine wp_exit (za9 (za9 (za5 (za8 (za1 (Jf 3 [(0,.j1 j)] [25,26,27,28] [(15,vI ((j:Int)+1))] h fun a w h=>za1 (zag (x:=j) (y:=j+1) h ?_ ?_)))))))
  ·exact ⟨by have:=zai hx2;omega,zcp hx2 hP2 (by show (inB s x2.guard && x2.moves.all fun m=>inB s (zdi ⟨m.t,false⟩))=true;rw [(show (inB s x2.guard)=true from by simpa using hc5),zcu (by omega) hQ2];rfl)⟩
  show s.acts.length - (j+1)<s.acts.length - j;have:=zai hx2;omega
 refine wp_exit (za9 (za9 (za5 (za1 (Jq 3 [] [(2,vb true)] [] h fun a w h=>qV (rT (.c (cB true)) h rfl ?_))))));have hz:proB s=true:=by unfold proB;rw [(show (inB s s.init)=true from by simpa using hc2),Bool.true_and];exact zcu (by omega) hP2
 rw [hz];try rfl
theorem Lboth (s:zao) (x y:StD) (k:Nat) (hk:k<=4096) (hv:s.vars.length<=8) (hx:x.vals.length<=1000) (hy:y.vals.length<=1000):Fn Tryz.prog 14 [] [vG (zak s),vG [cIs x.locs,cZs x.vals],vG [cIs y.locs,cZs y.vals],vN k] (vZs (zav s x y k)) []:=by
 obtain ⟨mkv,hmkv⟩:∃ z_:Nat,z_=k*s.vars.length:=⟨_,rfl⟩;have hmk2:mkv<=4096*8:=by rw [hmkv];exact Nat.mul_le_mul hk hv
 have hmk3:(k:Int)*(s.vars.length:Int)=(mkv:Int):=by rw [hmkv,Int.natCast_mul]
 refine Fn.body Tryz.func14 rfl 23 rfl fun w H B a h=>Jq 0 [] [(3,vN k),(4,vp 0 0),(5,vp 1 0),(6,vp 2 0),(8,vW zae)] [(0,.box (zak s)),(1,.box [cIs x.locs,cZs x.vals]),(2,.box [cIs y.locs,cZs y.vals])] h fun a w h=>Jd 3 [(3,.len (za6 1 zfu s.vars)),(4,.g (Op.arith (op:=.mul) (d:=14) (xt:=3) (yt:=3) (k:=.i64) (m:=(k:Int)) (n:=(s.vars.length:Int)) (r:=(mkv:Int)) (OV.tmp 10 _) (OV.tmp 13 _) (.inr (.inr ⟨rfl,hmk3.symm⟩)) i6)),(5,.g (Op.makeO' (d:=15) (n:=3) (L:=mkv) (zs:=[.raw (.bool false),nsl []]) (rows:=(List.replicate mkv (ZI.mk false [])).map ziD) kk_4 ue_9 rfl (OV.tmp 14 _) (OV.tmp 14 _) (by omega) (by rw [List.map_replicate];rfl)))] [3,4] [(9,vO 3 mkv)] [(1,.box [cIs x.locs,cZs x.vals]),(2,.box [cIs y.locs,cZs y.vals]),(3,.row 28 2 ((List.replicate mkv (ZI.mk false [])).map ziD))] h fun a w h=>Jq 4 [(3,.g (Op.appOD (d:=19) (t:=16) (u:=18) (n:=3) (n':=4) (len:=mkv) (len':=((List.replicate mkv (ZI.mk false []))++x.vals).length) (rows:=(List.replicate mkv (ZI.mk false [])).map ziD) (rows2:=x.vals.map ziD) (rows':=((List.replicate mkv (ZI.mk false []))++x.vals).map ziD) kk_4 (by first | exact (List.length_map _).symm | simp) (by first | (rw [List.length_append,List.length_map];done) | simp) (by simp) (by simp [ziD]) (by first | omega | (simp at *;done) | (simp at *;omega)))),(6,.g (aD 22 19 21 4 5 ((List.replicate mkv (ZI.mk false []))++x.vals) y.vals ziD kk_4 (by simp [ziD])))] [(8,vO 5 (((List.replicate mkv (ZI.mk false []))++x.vals)++y.vals).length)] [(5,.row 28 2 ((((List.replicate mkv (ZI.mk false []))++x.vals)++y.vals).map ziD))] h fun a w h=>qV ?_
 replace h:=zht 5 2 28 ((((List.replicate mkv (ZI.mk false []))++x.vals)++y.vals).map ziD) [(8,(vZs (((List.replicate mkv (ZI.mk false []))++x.vals)++y.vals)))] [] h rfl (show zbx _ [(((List.replicate mkv (ZI.mk false []))++x.vals)++y.vals).length] from ⟨by first | exact (List.length_map _).symm | (simp;done) | (simp;omega),trivial⟩) trivial;refine rT (.c (cZs (((List.replicate mkv (ZI.mk false []))++x.vals)++y.vals))) h rfl ?_;have hz:zav s x y k=(((List.replicate mkv (ZI.mk false []))++x.vals)++y.vals):=by unfold zav;rw [<- hmkv];rfl
 rw [hz];try rfl
theorem Lsmall (s:zao) (xs:List StD) (hr:SysRd s) (hxr:∀ x ∈ xs,StRd x) (hl:xs.length<=1000):Fn Tryz.prog 8 [] [vG (zak s),vS 2 (xs.map StD.d)] (vb (smB s xs)) []:=by
 refine Fn.body Tryz.func8 rfl 19 rfl fun w H B a h=>Jq 0 [] [(1,vS 2 (xs.map StD.d)),(2,vp 0 0),(4,vb false)] [(0,.box (zak s))] h fun a w h=>qW (Je 1 [(1,.len (za6 2 StD.d xs))] [1] [(7,vS 2 (xs.map StD.d)),(8,vN xs.length),(9,vI 0)] h fun a w h=>qZ ?_)
 refine zaq (ι:=(Nat)) (fun j=>j<=xs.length/\(xs.take j).all (zgc 3)=true)
   (fun j=>[(2,vp 0 0),(7,vS 2 (xs.map StD.d)),(8,vN xs.length),(9,vN j)])
   (fun j=>[(0,.box (zak s))])
   (fun j=>xs.length - j) 0 ?_ h (by kernel_rfl) (by kernel_rfl) ?_
 ·exact ⟨Nat.zero_le _,rfl⟩
 clear h;rintro j a w hI h;obtain ⟨hI1,hI2⟩:=hI;refine Je 1 [] [] [(10,vb (decide ((j:Int)<(xs.length:Int))))] h fun a w h=>qW (zam ((j:Int)<(xs.length:Int)) h (fun hc1 hc1'=>?_) (fun hc4 hc4'=>?_))
 ·refine qU (za1 (qW (qZ ?_)));obtain ⟨x1,hx1⟩:=gl xs j;refine Jd 1 [(0,.g (xD 11 7 kn_0 (zab hx1 (f:=StD.d)) (OV.tmp 9 _)))] [10] [(6,vp 1 0)] [(0,.box (zak s)),(1,.box [cIs x1.locs,cZs x1.vals])] h fun a w h=>Jd 2 [(1,.call (SFewSt x1 3 (hxr x1 (lM hx1))) lo15_2)] [6] [(15,vb (!(zgc 3 x1)))] [(0,.box (zak s))] h fun a w h=>cS (!(zgc 3 x1)) h (fun hc2=>?_) (fun hc3=>?_)
  ·have hc2':=hc2;(try simp at hc2');refine Je 2 [] [15] [(4,vb false)] h fun a w h=>qV (zac (za7 (za7 (zac (za7 (rT (.c (cB false)) h rfl ?_))))));have hz:smB s xs=(false):=by unfold smB;rw [zbn (q:=zgc 3) hx1 (show (zgc 3 x1)=false from by simpa using hc2)];rfl
   rw [hz];try rfl
  have hc3':=hc3;(try simp at hc3');refine qU (za8 (za1 (Jf 2 [(0,.j1 j)] [15] [(9,vI ((j:Int)+1))] h fun a w h=>za1 (zag (x:=j) (y:=j+1) h ?_ ?_))))
  ·exact ⟨by have:=zai hx1;omega,zcp hx1 hI2 (show (zgc 3 x1)=true from by simpa using hc3)⟩
  show xs.length - (j+1)<xs.length - j;have:=zai hx1;omega
 refine wp_exit (za9 (za9 (za5 (za1 (Jq 2 [(1,.call (SFewSys s 3 hr) ky_1)] [(4,vb (zbo 3 s))] [] h fun a w h=>qV (rT (.c (cB (zbo 3 s))) h rfl ?_))))));have hz:smB s xs=(zbo 3 s):=by unfold smB;rw [zcu (dF hc4) hI2,Bool.true_and]
 rw [hz];try rfl
theorem SSys0 :Fn Tryz.prog 30 [] [] (vG [.d (.sl 1 ([(⟨#[120]⟩:ByteArray)].map zfu)),.d (.sl 5 ([(zap.mk true (ZI.mk false []) (ZI.of 3))].map zap.d)),cI 0,cPs [],cB false,.d (nsl []),cB false,cFs [],.d (.sl 3 ([(zc0.mk (⟨#[112]⟩:ByteArray) [(⟨#[97]⟩:ByteArray),(⟨#[98]⟩:ByteArray)] (.raw zae))].map zc0.d)),.d (.sl 10 [[.raw (.int .i64 0),.raw (.int .i64 0),.raw (.int .i64 1),.raw (.int .i64 0),.raw zae,.raw (.bool false),nsl [],.raw (.bool false),.raw zae,.sl 5 ([(zaf.mk 0 false (zal.mk [(za3.mk 0 (ZI.of 1))] (ZI.of 1)))].map zaf.d)]])]) []:=by
 refine Fn.body Tryz.func30 rfl 21 rfl fun w H B a h=>Jq 0 [] [(0,vp 0 0)] [(0,.box [.d (.raw zae),.d (.raw zae),cI 0,.d (.raw zae),cB false,.d (nsl []),cB false,.d (.raw zae),.d (.raw zae),.d (.raw zae)])] h fun a w h=>Jd 1 [(0,.call (SROf 1 ⟨by decide,by decide⟩) tc_0),(2,.g (bD 4 ([(za3.mk 0 (ZI.of 1))].map za3.d) [(3,vG ([cI 0]++zi (ZI.of 1)))] tb_9 (.cons (i:=0) (OV.tmp 3 _) (.nil)) (by kernel_rfl) (by simp [za3.d]))),(3,.call (SROf 1 ⟨by decide,by decide⟩) tc_0)] [] [(1,vp 1 0)] [(0,.box [.d (.raw zae),.d (.raw zae),cI 0,.d (.raw zae),cB false,.d (nsl []),cB false,.d (.raw zae),.d (.raw zae),.d (.raw zae)]),(1,.box ([cPs [(za3.mk 0 (ZI.of 1))]]++zi (ZI.of 1)))] h fun a w h=>Jd 2 [(0,.g (Op.buildD (d:=7) (len:=1) (rows:=[(⟨#[120]⟩:ByteArray)].map zfu) (rs:=[]) ty_16 (.cons (i:=0) (OV.const (.string (⟨#[120]⟩:ByteArray)) rfl) (.nil)) (by kernel_rfl) rfl (by simp [zfu]) (by decide) (by decide))),(1,.call (SROf 3 ⟨by decide,by decide⟩) tc_0),(3,.g (bD 10 ([(zap.mk true (ZI.mk false []) (ZI.of 3))].map zap.d) [(9,vG ([cB true,cB false,.d (nsl [])]++zi (ZI.of 3)))] kw_3 (.cons (i:=0) (OV.tmp 9 _) (.nil)) (by kernel_rfl) (by simp [zap.d]))),(5,.g (Op.buildD (d:=12) (len:=2) (rows:=[(⟨#[97]⟩:ByteArray),(⟨#[98]⟩:ByteArray)].map zfu) (rs:=[]) ty_16 (.cons (i:=0) (OV.const (.string (⟨#[97]⟩:ByteArray)) rfl) (.cons (i:=1) (OV.const (.string (⟨#[98]⟩:ByteArray)) rfl) (.nil))) (by kernel_rfl) rfl (by simp [zfu]) (by decide) (by decide))),(7,.g (bD 14 ([(zc0.mk (⟨#[112]⟩:ByteArray) [(⟨#[97]⟩:ByteArray),(⟨#[98]⟩:ByteArray)] (.raw zae))].map zc0.d) [(13,vG [.d (.raw (.string (⟨#[112]⟩:ByteArray))),.d (.sl 1 ([(⟨#[97]⟩:ByteArray),(⟨#[98]⟩:ByteArray)].map zfu)),.d (.raw zae)])] kw_4 (.cons (i:=0) (OV.tmp 13 _) (.nil)) (by kernel_rfl) (by simp [zc0.d]))),(10,.g (bD 17 ([(zaf.mk 0 false (zal.mk [(za3.mk 0 (ZI.of 1))] (ZI.of 1)))].map zaf.d) [(16,vG ([cI 0,cB false,cPs [(za3.mk 0 (ZI.of 1))]]++zi (ZI.of 1)))] kw_5 (.cons (i:=0) (OV.tmp 16 _) (.nil)) (by kernel_rfl) (by simp [zaf.d]))),(12,.g (bD 19 ([[.raw (.int .i64 0),.raw (.int .i64 0),.raw (.int .i64 1),.raw (.int .i64 0),.raw zae,.raw (.bool false),nsl [],.raw (.bool false),.raw zae,.sl 5 ([(zaf.mk 0 false (zal.mk [(za3.mk 0 (ZI.of 1))] (ZI.of 1)))].map zaf.d)]]) [(18,vG [cI 0,cI 0,cI 1,cI 0,.d (.raw zae),cB false,.d (nsl []),cB false,.d (.raw zae),.d (.sl 5 ([(zaf.mk 0 false (zal.mk [(za3.mk 0 (ZI.of 1))] (ZI.of 1)))].map zaf.d))])] kw_6 (.cons (i:=0) (OV.tmp 18 _) (.nil)) (by kernel_rfl) (by simp)))] [1] [] [(0,.box [.d (.sl 1 ([(⟨#[120]⟩:ByteArray)].map zfu)),.d (.sl 5 ([(zap.mk true (ZI.mk false []) (ZI.of 3))].map zap.d)),cI 0,.d (.raw zae),cB false,.d (nsl []),cB false,.d (.raw zae),.d (.sl 3 ([(zc0.mk (⟨#[112]⟩:ByteArray) [(⟨#[97]⟩:ByteArray),(⟨#[98]⟩:ByteArray)] (.raw zae))].map zc0.d)),.d (.sl 10 [[.raw (.int .i64 0),.raw (.int .i64 0),.raw (.int .i64 1),.raw (.int .i64 0),.raw zae,.raw (.bool false),nsl [],.raw (.bool false),.raw zae,.sl 5 ([(zaf.mk 0 false (zal.mk [(za3.mk 0 (ZI.of 1))] (ZI.of 1)))].map zaf.d)]])])] h fun a w h=>qV ?_
 replace h:=zbi 0 3 3 [.d (.sl 1 ([(⟨#[120]⟩:ByteArray)].map zfu)),.d (.sl 5 ([(zap.mk true (ZI.mk false []) (ZI.of 3))].map zap.d)),cI 0,.d (.raw zae),cB false,.d (nsl []),cB false,.d (.raw zae),.d (.sl 3 ([(zc0.mk (⟨#[112]⟩:ByteArray) [(⟨#[97]⟩:ByteArray),(⟨#[98]⟩:ByteArray)] (.raw zae))].map zc0.d)),.d (.sl 10 [[.raw (.int .i64 0),.raw (.int .i64 0),.raw (.int .i64 1),.raw (.int .i64 0),.raw zae,.raw (.bool false),nsl [],.raw (.bool false),.raw zae,.sl 5 ([(zaf.mk 0 false (zal.mk [(za3.mk 0 (ZI.of 1))] (ZI.of 1)))].map zaf.d)]])] [(0,vp 0 0)] [(0,.box [.d (.sl 1 ([(⟨#[120]⟩:ByteArray)].map zfu)),.d (.sl 5 ([(zap.mk true (ZI.mk false []) (ZI.of 3))].map zap.d)),cI 0,cPs [],cB false,.d (nsl []),cB false,.d (.raw zae),.d (.sl 3 ([(zc0.mk (⟨#[112]⟩:ByteArray) [(⟨#[97]⟩:ByteArray),(⟨#[98]⟩:ByteArray)] (.raw zae))].map zc0.d)),.d (.sl 10 [[.raw (.int .i64 0),.raw (.int .i64 0),.raw (.int .i64 1),.raw (.int .i64 0),.raw zae,.raw (.bool false),nsl [],.raw (.bool false),.raw zae,.sl 5 ([(zaf.mk 0 false (zal.mk [(za3.mk 0 (ZI.of 1))] (ZI.of 1)))].map zaf.d)]])])] h rfl rfl;replace h:=zbi 0 7 6 [.d (.sl 1 ([(⟨#[120]⟩:ByteArray)].map zfu)),.d (.sl 5 ([(zap.mk true (ZI.mk false []) (ZI.of 3))].map zap.d)),cI 0,cPs [],cB false,.d (nsl []),cB false,.d (.raw zae),.d (.sl 3 ([(zc0.mk (⟨#[112]⟩:ByteArray) [(⟨#[97]⟩:ByteArray),(⟨#[98]⟩:ByteArray)] (.raw zae))].map zc0.d)),.d (.sl 10 [[.raw (.int .i64 0),.raw (.int .i64 0),.raw (.int .i64 1),.raw (.int .i64 0),.raw zae,.raw (.bool false),nsl [],.raw (.bool false),.raw zae,.sl 5 ([(zaf.mk 0 false (zal.mk [(za3.mk 0 (ZI.of 1))] (ZI.of 1)))].map zaf.d)]])] [(0,vp 0 0)] [(0,.box [.d (.sl 1 ([(⟨#[120]⟩:ByteArray)].map zfu)),.d (.sl 5 ([(zap.mk true (ZI.mk false []) (ZI.of 3))].map zap.d)),cI 0,cPs [],cB false,.d (nsl []),cB false,cFs [],.d (.sl 3 ([(zc0.mk (⟨#[112]⟩:ByteArray) [(⟨#[97]⟩:ByteArray),(⟨#[98]⟩:ByteArray)] (.raw zae))].map zc0.d)),.d (.sl 10 [[.raw (.int .i64 0),.raw (.int .i64 0),.raw (.int .i64 1),.raw (.int .i64 0),.raw zae,.raw (.bool false),nsl [],.raw (.bool false),.raw zae,.sl 5 ([(zaf.mk 0 false (zal.mk [(za3.mk 0 (ZI.of 1))] (ZI.of 1)))].map zaf.d)]])])] h rfl rfl;refine rA 0 [.d (.sl 1 ([(⟨#[120]⟩:ByteArray)].map zfu)),.d (.sl 5 ([(zap.mk true (ZI.mk false []) (ZI.of 3))].map zap.d)),cI 0,cPs [],cB false,.d (nsl []),cB false,cFs [],.d (.sl 3 ([(zc0.mk (⟨#[112]⟩:ByteArray) [(⟨#[97]⟩:ByteArray),(⟨#[98]⟩:ByteArray)] (.raw zae))].map zc0.d)),.d (.sl 10 [[.raw (.int .i64 0),.raw (.int .i64 0),.raw (.int .i64 1),.raw (.int .i64 0),.raw zae,.raw (.bool false),nsl [],.raw (.bool false),.raw zae,.sl 5 ([(zaf.mk 0 false (zal.mk [(za3.mk 0 (ZI.of 1))] (ZI.of 1)))].map zaf.d)]])] h kw_7 rfl ?_;rfl
theorem SSys:Fn Tryz.prog 30 [] [] (vG (zak zc5)) []:=by
 refine Fn.resw SSys0 (WkV.agg _ _ (.same _ _ _ (.same _ _ _ (.same _ _ _ (.same _ _ _ (.same _ _ _ (.same _ _ _ (.same _ _ _ (.same _ _ _ (.same _ _ _ (.d _ _ _ _ ?_ .nil)))))))))))
 refine Wk.sl _ _ _ (.cons _ _ _ _ ?_ .nil)
 refine .cons _ _ _ _ (.refl _) (.cons _ _ _ _ (.refl _) (.cons _ _ _ _ (.refl _) (.cons _ _ _ _ (.refl _) (.cons _ _ _ _ (.nil _) (.cons _ _ _ _ (.refl _) (.cons _ _ _ _ (.refl _) (.cons _ _ _ _ (.refl _) (.cons _ _ _ _ (.nil _) (.cons _ _ _ _ (.refl _) .nil)))))))))
theorem zjy (ns:List Int) (hl:ns.length<=1000) (hns:∀ z ∈ ns,-9223372036854775808<=z/\z<=9223372036854775807):Fn Tryz.prog 33 [] [(vIs ns)] (vZs (ns.map ZI.of)) []:=by
 refine Fn.body Tryz.func33 rfl 20 rfl fun w H B a h=>Jq 5 [] [(0,(vIs ns)),(2,vW zae)] [] h fun a w h=>Jd 5 [(0,.g (Op.buildE (d:=6) (n:=5) ty_5))] [] [(3,vO 5 0)] [(5,.row 28 2 ([].map ziD))] h fun a w h=>qW (Je 6 [(1,.len (za6 1 zaj ns))] [0] [(7,(vIs ns)),(8,vN ns.length),(9,vI 0)] h fun a w h=>qZ ?_)
 refine zaq (ι:=(Nat)) (fun j=>j<=ns.length)
   (fun j=>[(2,vW zae),(3,vO 5 ((ns.take j).map ZI.of).length),(7,(vIs ns)),(8,vN ns.length),(9,vN j)])
   (fun j=>[(5,.row 28 2 (((ns.take j).map ZI.of).map ziD))])
   (fun j=>ns.length - j) 0 ?_ h (by kernel_rfl) (by kernel_rfl) ?_
 ·exact Nat.zero_le _
 clear h;rintro j a w hI h;have lmj:((ns.take j).map ZI.of).length<=j:=by rw [List.length_map,List.length_take];omega
 refine Je 6 [] [] [(10,vb (decide ((j:Int)<(ns.length:Int))))] h fun a w h=>qW (zam ((j:Int)<(ns.length:Int)) h (fun hc1 hc1'=>?_) (fun hc2 hc2'=>?_))
 ·refine qU (za1 (qW (qZ ?_)));obtain ⟨x1,hx1⟩:=gl ns j;refine Je 6 [(0,.g (xD 11 7 tn_1 (zab hx1 (f:=zaj)) (OV.tmp 9 _)))] [10] [(5,vI x1)] h fun a w h=>Jm 6 [(2,.call (SROf x1 (hns x1 (lM hx1))) tc_0),(3,.g (Op.buildO (d:=16) (n:=6) (len:=1) (rows:=[(ZI.of x1)].map ziD) (rs:=[(15,vz (ZI.of x1))]) ty_5 (.cons (i:=0) (OV.tmp 15 _) (.nil)) (by kernel_rfl) rfl (by simp [ziD]) (by decide) (by decide))),(4,.g (Op.appOO (d:=17) (t:=13) (u:=16) (n:=5) (sn:=6) (n':=7) (len:=((ns.take j).map ZI.of).length) (len2:=1) (len':=(((ns.take j).map ZI.of)++[(ZI.of x1)]).length) (rows:=((ns.take j).map ZI.of).map ziD) (rows2:=[(ZI.of x1)].map ziD) (rows':=(((ns.take j).map ZI.of)++[(ZI.of x1)]).map ziD) kk_4 (by first | exact (List.length_map _).symm | simp) (by first | exact (List.length_map _).symm | simp) (by first | (rw [List.length_append,List.length_map];done) | simp) (by simp) (by first | omega | (simp at *;done) | (simp at *;omega))))] [5] [(3,vO 7 (((ns.take j).map ZI.of)++[(ZI.of x1)]).length)] [(7,.row 28 2 ((((ns.take j).map ZI.of)++[(ZI.of x1)]).map ziD))] h fun a w h=>za8 (za1 (Jf 8 [(0,.j1 j)] [] [(9,vI ((j:Int)+1))] h fun a w h=>za1 ?_));rw [show ((((ns.take j).map ZI.of)++[(ZI.of x1)]):List ZI)=((ns.take (j+1)).map ZI.of) from (zh1 hx1)] at h;replace h:=ze0 7 5 [(2,vW zae),(3,vO 5 ((ns.take (j+1)).map ZI.of).length),(7,(vIs ns)),(8,vN ns.length),(9,vI ((j:Int)+1))] [(5,.row 28 2 (((ns.take (j+1)).map ZI.of).map ziD))] h;refine zag (x:=j) (y:=j+1) h ?_ ?_
  ·have:=zai hx1;show j+1<=ns.length;omega
  show ns.length - (j+1)<ns.length - j;have:=zai hx1;omega
 refine wp_exit (za9 (za9 (za5 (za1 (Jp 8 [] [(2,vO 5 ((ns.take j).map ZI.of).length)] h fun a w h=>qV ?_)))));rw [show (((ns.take j).map ZI.of):List ZI)=(ns.map ZI.of) from (by rw [List.take_of_length_le (by omega)])] at h;replace h:=zht 5 2 28 ((ns.map ZI.of).map ziD) [(2,(vZs (ns.map ZI.of)))] [] h rfl (show zbx _ [(ns.map ZI.of).length] from ⟨by first | exact (List.length_map _).symm | (simp;done) | (simp;omega),trivial⟩) trivial;refine rT (.c (cZs (ns.map ZI.of))) h rfl ?_;rfl
theorem zjz (f:za0) (vs:List ZI) {M:Nat} (hM:M<=300) (hv:VOk M vs) (hf:f.okB 1000 1000):Fn Tryz.prog 32 [] [(vF f),(vZs vs)] (vb (za0.holds vs f)) []:=by
 refine Fn.body Tryz.func32 rfl 8 rfl fun w H B a h=>Jq 5 [] [(1,(vZs vs)),(2,vp 5 0),(4,vb false)] [(5,.box (zF f))] h fun a w h=>Jq 6 [(2,.call (zcn vs hM hv f hf) zfy)] [(4,vb (za0.holds vs f))] [] h fun a w h=>qV (rT (.c (cB (za0.holds vs f))) h rfl ?_)
 rfl
def Bel (m:Nat) (t:zal):Prop:=∀ v:Int,(m:Int)<=v->zan t.parts v=0
theorem plain_bel {m:Nat} {t:zal} (h:Bel m t):∀ p ∈ (za2 t).parts,0<=p.v/\p.v<(m:Int):=fun p hp=>by
 obtain ⟨_,h2,_⟩:=zbd t
 obtain ⟨h0,_,hne⟩:=h2 p hp
 refine ⟨h0,Int.lt_of_not_ge fun hv=>hne ?_⟩
 have e:(za2 t).parts=(zc7 t.parts).map fun v=>⟨v,ZI.of (zan t.parts v)⟩:=rfl
 rw [e] at hp
 obtain ⟨v,_,rfl⟩:=List.mem_map.1 hp
 show (ZI.of (zan t.parts v)).val=0
 rw [ZI.val_of];exact h v hv
theorem valP_cong9 {vs ws:List ZI}:∀ {ps:List za3}, (∀ p ∈ ps,zcb vs p.v=zcb ws p.v)->zfc vs ps=zfc ws ps
 | [],_=>rfl
 | p :: ps,h=>by
  unfold zfc
  rw [h p (List.mem_cons_self ..),valP_cong9 fun q hq=>h q (List.mem_cons_of_mem _ hq)]
theorem valAt_app {vs ws:List ZI} {v:Int} (h:v<(vs.length:Int)):zcb (vs++ws) v=zcb vs v:=by
 unfold zcb
 split
 ·rw [List.getElem?_append_left (by omega)]
 ·rfl
theorem valAt_far {vs ws:List ZI} {v:Int} (h:0<=v):zcb (vs++ws) (v+(vs.length:Int))=zcb ws v:=by
 unfold zcb
 rw [if_pos (by omega),if_pos h,show (v+(vs.length:Int)).toNat=vs.length+v.toNat by omega,List.getElem?_append_right (by omega),Nat.add_sub_cancel_left]
theorem val_bel {m:Nat} {t:zal} (h:Bel m t) {vs ws:List ZI} (hl:∀ v:Int,0<=v->v<(m:Int)->zcb vs v=zcb ws v):zf3 t vs=zf3 t ws:=by
 rw [<- zcg t vs,<- zcg t ws]
 unfold zf3
 rw [valP_cong9 fun p hp=>hl p.v (plain_bel h p hp).1 (plain_bel h p hp).2]
theorem mov_val {m:Nat} {t:zal} (h:Bel m t) {n:Nat} {vs ws:List ZI} (hm:m<=1000000) (hn:n<=1000000) (hl:∀ v:Int,0<=v->v<(m:Int)->zcb ws (v+(n:Int))=zcb vs v):zf3 (movZ t (zah (n:Int))) ws=zf3 t vs:=by
 have hc:zah (n:Int)=(n:Int):=by unfold zah;omega
 rw [hc,movZ,zcg,<- zcg t vs]
 unfold zf3
 show (ZI.of t.k.val).val+zfc ws (((za2 t).parts.filter fun p=>!zaz (n:Int) p).map (zkc (n:Int)))=(za2 t).k.val+zfc vs (za2 t).parts
 have hk:(za2 t).k.val=t.k.val:=ZI.val_of _
 rw [ZI.val_of,hk]
 congr 1
 have key:∀ ps:List za3,(∀ p ∈ ps,0<=p.v/\p.v<(m:Int))->zfc ws ((ps.filter fun p=>!zaz (n:Int) p).map (zkc (n:Int)))=zfc vs ps:=fun ps=>by
  induction ps with
  | nil=>intro _;rfl
  | cons p ps ih =>
   intro hp
   obtain ⟨p0,p1⟩:=hp p (List.mem_cons_self ..)
   have hf:zaz (n:Int) p=false:=by unfold zaz;exact decide_eq_false (by omega)
   rw [List.filter_cons,hf,Bool.not_false,if_pos rfl,List.map_cons]
   unfold zfc
   rw [ih fun q hq=>hp q (List.mem_cons_of_mem _ hq)]
   show p.c.val*zcb ws (p.v+(n:Int))+_=_
   rw [hl p.v p0 p1]
 exact key _ (plain_bel h)
theorem zes {m:Nat} {t:zal} (h:Bel m t):Bel m (za2 t):=fun v hv=>by rw [zfo];exact h v hv
theorem bel_add {m:Nat} {s t:zal} (hs:Bel m s) (ht:Bel m t):Bel m (zj8 s t):=fun v hv=>by rw [coef_add,hs v hv,ht v hv];rfl
theorem bel_scale {m:Nat} {t:zal} (h:Bel m t) (q:ZI):Bel m (zbl t q):=fun v hv=>by rw [coef_scale,h v hv,Int.zero_mul]
theorem bel_sub {m:Nat} {s t:zal} (hs:Bel m s) (ht:Bel m t):Bel m (zk3 s t):=bel_add hs (bel_scale ht _)
theorem bel_num (m:Nat) (k:ZI):Bel m (zck k):=fun v _=>coef_num k v
theorem bel_var {m:Nat} {v:Int} (h:v<(m:Int)):Bel m (zdy v):=fun u hu=>by rw [coef_var,if_neg (by omega)]
def zh5 (m:Nat) (f:za0):Prop:=f.rels fun r=>Bel m r.t
theorem holds_bel {m:Nat} {vs ws:List ZI} (hl:∀ v:Int,0<=v->v<(m:Int)->zcb vs v=zcb ws v) (f:za0):zh5 m f->f.holds vs=f.holds ws:=fun h=>by
 rw [<- cl_holds vs f]
 exact zj0 (t:=id) f (za0.rels_mono (fun r hr=>by show zco vs (cpR r)=_;rw [zk7];unfold zco;rw [val_bel hr hl]) f h)
theorem holds_app {m:Nat} {vs:List ZI} (ws:List ZI) (hm:m<=vs.length) (f:za0) (h:zh5 m f):f.holds (vs++ws)=f.holds vs:=holds_bel (fun v _ hv=>valAt_app (by omega)) f h
theorem mov_holds {m:Nat} {n:Nat} (hm:m<=1000000) (hn:n<=1000000) {vs ws:List ZI} (hl:∀ v:Int,0<=v->v<(m:Int)->zcb ws (v+(n:Int))=zcb vs v) (f:za0) (h:zh5 m f):(f.each (zcd (n:Int))).holds ws=f.holds vs :=
 zj0 f (za0.rels_mono (fun r hr=>by
  show zco ws (zcd (n:Int) (cpR r))=zco vs r
  rw [<- zk7 vs r]
  unfold zco zcd
  rw [mov_val (t:=(cpR r).t) (zes hr) hm hn hl]) f h)
theorem zko {m:Nat} {s:zao} {k:Nat} (hv:s.vars.length<=8) (hk:k<=4096) (hm:m<=1000000) {pre vs:List ZI} (hp:pre.length=k*s.vars.length) (f:za0) (h:zh5 m f):(atF s f k).holds (pre++vs)=f.holds vs:=by
 have e:offZ s k=((k*s.vars.length:Nat):Int):=by unfold offZ;rw [Int.natCast_mul]
 unfold atF
 rw [e]
 have hb:k*s.vars.length<=4096*8:=Nat.mul_le_mul hk hv
 exact mov_holds hm (by omega) (fun v h0 _=>by rw [<- hp];exact valAt_far h0) f h
theorem zg4 (m:Nat) (f:za0):zh5 m f ↔ (f.kind=2->Bel m f.r.t)/\∀ g ∈ cnt f.kind f.kids,zh5 m g:=za0.rels_eq _ f
theorem belF_tru (m:Nat) (b:Bool):zh5 m (zda b):=by
 rw [zg4];exact ⟨fun e=>by cases b <;> exact absurd e (by decide),fun g hg=>absurd (zbf hg) (by show g ∉ [];exact List.not_mem_nil)⟩
theorem belF_atom {m:Nat} {r:zb1} (h:Bel m r.t):zh5 m (zdi r):=by
 rw [zg4];exact ⟨fun _=>zes h,fun g hg=>absurd (zbf hg) (by show g ∉ [];exact List.not_mem_nil)⟩
theorem belF_each {m m':Nat} {t:zb1->zb1} (ht:∀ r,Bel m r.t->Bel m' (t (cpR r)).t) (f:za0):zh5 m f->zh5 m' (f.each t) :=
 za0.ind (P:=fun f=>zh5 m f->zh5 m' (f.each t)) (fun k r ks ih h=>by
  obtain ⟨h1,h2⟩:=(zg4 _ _).1 h
  rw [za0.each_eq]
  show zh5 m' (zg2 t k r (ks.map (za0.each t)))
  unfold zg2
  split
  ·exact belF_tru _ _
  ·split
   ·rename_i e
    rw [zg4];exact ⟨fun _=>ht r (h1 e),fun g hg=>absurd (zbf hg) (by show g ∉ [];exact List.not_mem_nil)⟩
   ·split
    ·rename_i hk2 _
     rw [zg4]
     refine ⟨fun e=>absurd e hk2,fun g hg=>?_⟩
     change g ∈ cnt k (cnt k (ks.map (za0.each t))) at hg
     rw [cnt_cnt,zdf] at hg
     obtain ⟨q,hq,rfl⟩:=List.mem_map.1 hg
     exact ih q (zbf hq) (h2 q hq)
    ·exact belF_tru _ _) f
theorem belF_cl {m:Nat} (f:za0) (h:zh5 m f):zh5 m f.cl:=belF_each (t:=id) (fun _r hr=>zes hr) f h
theorem belF_kids {m:Nat} {k:Int} (hk:k=3\/k=4\/k=5) {fs:List za0} (h:∀ f ∈ fs,zh5 m f):zh5 m ⟨k,zR,fs⟩:=by
 rw [zg4];exact ⟨fun e=>by change k=2 at e;omega,fun g hg=>h g (zbf hg)⟩
theorem zkn {m:Nat} {fs:List za0} (h:∀ f ∈ fs,zh5 m f):zh5 m (zgd fs):=belF_kids (.inr (.inl rfl)) fun g hg=>by
 obtain ⟨q,hq,rfl⟩:=List.mem_map.1 hg;exact belF_cl q (h q hq)
theorem belF_deny {m:Nat} {f:za0} (h:zh5 m f):zh5 m (denyF f):=belF_kids (.inl rfl) fun g hg=>by
 rw [List.mem_singleton.1 hg];exact belF_cl f h
theorem vars_mem {ps:List za3} {v:Int} (_h0:0<=v) (h:zan ps v≠0):v ∈ zc7 ps:=by
 refine ((zk0 ps ps [] List.Pairwise.nil).2 v).2 (.inr (Classical.byContradiction fun hn=>h (coefZ_far fun p hp e=>hn ⟨p,hp,e,h⟩)))
theorem insF_mem (x:Int):∀ (vs a:List Int),x ∈ vs.foldl ze1 a ↔ x ∈ a\/x ∈ vs
 | [],a=>by simp
 | v :: vs,a=>by
  rw [List.foldl_cons,insF_mem x vs (ze1 a v),insZ_eq,zki]
  simp only [List.mem_cons]
  constructor
  ·rintro ((h | h) | h) <;> simp [h]
  ·rintro (h | h | h) <;> simp [h]
theorem insF_sr:∀ (vs a:List Int),SRi a->SRi (vs.foldl ze1 a)
 | [],_,h=>h
 | v :: vs,a,h=>by rw [List.foldl_cons];exact insF_sr vs _ (by rw [insZ_eq];exact insR_sr v h)
theorem varsG_mem (x:Int):∀ (gs:List za0) (a:List Int),x ∈ gs.foldl (fun a g=>(za0.vars g).foldl ze1 a) a ↔ x ∈ a\/∃ g ∈ gs,x ∈ g.vars
 | [],a=>by simp
 | g :: gs,a=>by
  rw [List.foldl_cons,varsG_mem x gs,insF_mem]
  constructor
  ·rintro ((h | h) | ⟨q,hq,h⟩)
   ·exact .inl h
   ·exact .inr ⟨g,List.mem_cons_self .., h⟩
   ·exact .inr ⟨q,List.mem_cons_of_mem _ hq,h⟩
  ·rintro (h | ⟨q,hq,h⟩)
   ·exact .inl (.inl h)
   ·rcases List.mem_cons.1 hq with rfl | hq
    ·exact .inl (.inr h)
    ·exact .inr ⟨q,hq,h⟩
theorem varsG_sr:∀ (gs:List za0) (a:List Int),SRi a->SRi (gs.foldl (fun a g=>(za0.vars g).foldl ze1 a) a)
 | [],_,h=>h
 | g :: gs,a,h=>by rw [List.foldl_cons];exact varsG_sr gs _ (insF_sr _ _ h)
theorem vars_sr (f:za0):SRi f.vars:=by
 rw [za0.vars_eq]
 split
 ·exact (zk0 _ _ [] List.Pairwise.nil).1
 ·exact varsG_sr _ [] List.Pairwise.nil
theorem belF_vars {m:Nat} (f:za0):(∀ v ∈ f.vars,v<(m:Int))->zh5 m f :=
 za0.ind (P:=fun f=>(∀ v ∈ f.vars,v<(m:Int))->zh5 m f) (fun k r ks ih h=>by
  rw [za0.vars_eq] at h
  change ∀ v ∈ (if k=2 then zc7 r.t.parts else (cnt k ks).foldl (fun a g=>(za0.vars g).foldl ze1 a) []),v<(m:Int) at h
  rw [zg4]
  show (k=2->Bel m r.t)/\∀ g ∈ cnt k ks,zh5 m g
  refine ⟨fun e v hv=>?_,fun g hg=>ih g (zbf hg) fun v hv=>?_⟩
  ·rw [if_pos e] at h
   exact Classical.byContradiction fun hn=>by have:=h v (vars_mem (by omega) hn);omega
  ·by_cases e:k=2
   ·rw [e] at hg;cases hg
   ·rw [if_neg e] at h
    exact h v ((varsG_mem v _ []).2 (.inr ⟨g,hg,hv⟩))) f
theorem last_max {l:List Int} {v:Int} (hs:SRi l) (h:l.getLast?=some v):∀ x ∈ l,x<=v:=fun x hx=>by
 obtain ⟨ys,rfl⟩:=List.getLast?_eq_some_iff.1 h
 rcases List.mem_append.1 hx with hx | hx
 ·exact Int.le_of_lt ((List.pairwise_append.1 hs).2.2 x hx v (List.mem_singleton_self _))
 ·rw [List.mem_singleton.1 hx];exact Int.le_refl _
theorem in_bel {s:zao} {f:za0} (h:inB s f=true):zh5 s.vars.length f:=by
 refine belF_vars f fun v hv=>?_
 unfold inB at h
 cases e:f.vars.getLast? with
 | none=>rw [List.getLast?_eq_none_iff.1 e] at hv;cases hv
 | some u =>
  rw [e] at h
  have h:=of_decide_eq_true h
  have:=last_max (vars_sr f) e v hv
  omega
/-- a system's own variables alone -/
structure ProS (s:zao):Prop where
  init:zh5 s.vars.length s.init
  act:∀ c ∈ s.acts,zh5 s.vars.length c.guard/\∀ m ∈ c.moves,Bel s.vars.length m.t
theorem atom_bel {m:Nat} {r:zb1} (h:zh5 m (zdi r)):Bel m r.t:=fun v hv=>by
 have:=((zg4 _ _).1 h).1 rfl v hv
 change zan (za2 r.t).parts v=0 at this
 rwa [zfo] at this
theorem zfe {s:zao} (h:proB s=true):ProS s:=by
 unfold proB at h
 rw [Bool.and_eq_true,List.all_eq_true] at h
 refine ⟨in_bel h.1,fun c hc=>?_⟩
 have:=h.2 c hc
 rw [Bool.and_eq_true,List.all_eq_true] at this
 exact ⟨in_bel this.1,fun m hm=>atom_bel (in_bel (this.2 m hm))⟩
theorem zij {s:zao} (hp:ProS s) (i:Int):zh5 s.vars.length (zaa s i).1.guard/\∀ m ∈ (zaa s i).1.moves,Bel s.vars.length m.t:=by
 unfold zaa
 cases e:zf8 s i with
 | none=>exact ⟨by rw [zg4];exact ⟨fun e=>absurd (show (0:Int)=2 from e) (by decide),fun g hg=>absurd (zbf hg) (by show g ∉ [];exact List.not_mem_nil)⟩,fun m hm=>by cases hm⟩
 | some c =>
  refine hp.act c ?_
  unfold zf8 at e
  split at e
  ·exact List.mem_of_getElem? e
  ·cases e
def wB (b:zap) (z:Int):Bool:=!b.is_ || (decide (b.lo.val<=z) && decide (z<=b.hi.val))
theorem within_w (b:zap) (n:ZI):zby b n=wB b n.val:=by unfold zby wB;rw [cmpZ_le,cmpZ_le]
theorem ge_holds (vs:List ZI) (l r:zal):(geF l r).holds vs=decide (zf3 r vs<=zf3 l vs):=by
 unfold geF leaR;rw [atom_holds,relOk_le2 rfl,zcg,val_sub];exact decide_eq_decide.2 (by omega)
theorem le_holds (vs:List ZI) (l r:zal):(leF l r).holds vs=decide (zf3 l vs<=zf3 r vs):=by
 unfold leF leaR;rw [atom_holds,relOk_le2 rfl,zcg,val_sub];exact decide_eq_decide.2 (by omega)
theorem bnd_holds (s:zao) (v:Nat) (t:zal) (vs:List ZI):(zj7 s v t).all (za0.holds vs)=wB (zbh s v) (zf3 t vs):=by
 unfold zj7 wB
 split
 ·rename_i e
  rw [e,List.all_cons,List.all_cons,List.all_nil,ge_holds,le_holds,zk1,zk1,Bool.and_true];rfl
 ·rename_i e
  rw [show (zbh s v).is_=false by simpa using e];rfl
theorem all_flat {F:Nat->List za0} {p:za0->Bool} (n:Nat):((List.range n).flatMap F).all p=zh3 n fun v=>(F v).all p:=by
 induction n with
 | zero=>rfl
 | succ n ih=>rw [zc1,List.all_append,ih];rfl
theorem bel_bnd {s:zao} {m v:Nat} {t:zal} (h:Bel m t):∀ g ∈ zj7 s v t,zh5 m g:=fun g hg=>by
 unfold zj7 at hg
 split at hg
 ·rcases List.mem_cons.1 hg with rfl | hg
  ·exact belF_atom (zes (bel_sub h (bel_num _ _)))
  ·rw [List.mem_singleton.1 hg];exact belF_atom (zes (bel_sub (bel_num _ _) h))
 ·cases hg
theorem rng_bel (s:zao):zh5 s.vars.length (zcq s):=zkn (zde fun v hv=>bel_bnd (bel_var (by omega)))
theorem rng_holds (s:zao) (vs:List ZI):(zcq s).holds vs=zh3 s.vars.length fun v=>wB (zbh s v) (zcb vs (v:Int)):=by
 unfold zcq
 rw [zi7,all_flat]
 exact zef fun v _=>by unfold rngS;rw [bnd_holds,valT_var]
theorem vals_at {x:StD} {v:Nat}:zcb x.vals (v:Int)=((x.vals[v]?).getD zfb).val:=by
 unfold zcb
 rw [if_pos (by omega),Int.toNat_natCast]
 cases x.vals[v]? <;> rfl
theorem rng_fits {s:zao} {x:StD} (hl:x.vals.length=s.vars.length):(zcq s).holds x.vals=zh3 x.vals.length (valOk s x):=by
 rw [rng_holds,hl]
 exact zef fun v _=>by unfold valOk;rw [within_w,vals_at]
theorem val_mv {c:zb4} {v:Nat} {m:zaf} (h:zin c v=some m):m ∈ c.moves:=by unfold zin at h;exact List.mem_of_find?_eq_some h
theorem valA_bel {n:Nat} {c:zb4} (hc:∀ m ∈ c.moves,Bel n m.t) {v:Nat} (hv:v<n):Bel n (zbz c v).1:=by
 unfold zbz
 cases e:zin c v with
 | none=>exact bel_var (by omega)
 | some m =>
  show Bel n (if m.any=true then _ else _:zal × Bool).1
  split
  ·exact fun u _=>rfl
  ·exact zes (hc m (val_mv e))
theorem valA_free (c:zb4) (v:Nat):(zbz c v).2=!zct c v:=by
 unfold zbz zct
 cases zin c v with
 | none=>rfl
 | some m=>show (if m.any=true then _ else _:zal × Bool).2=!m.any;cases m.any <;> rfl
theorem valA_new {x:StD} {c:zb4} {v:Nat} (hf:zct c v=false):zf3 (zbz c v).1 x.vals=(newAt x c v).val:=by
 unfold zct at hf
 unfold zbz newAt
 cases e:zin c v with
 | none=>show zf3 (zdy (v:Int)) x.vals=(ZI.of ((x.vals[v]?).getD zfb).val).val;rw [valT_var,vals_at,ZI.val_of]
 | some m =>
  rw [e] at hf
  show zf3 (if m.any=true then _ else _:zal × Bool).1 x.vals=(if m.any=true then zfb else ZI.of (zf3 m.t x.vals)).val
  rw [show m.any=false from hf,if_neg Bool.noConfusion,if_neg Bool.noConfusion,ZI.val_of,zcg]
theorem canS_holds (s:zao) (x:StD) (c:zb4) (v:Nat):(zer s c v).all (za0.holds x.vals)=canAt s x c v:=by
 unfold zer canAt
 rw [valA_free]
 cases hf:zct c v with
 | true =>
  rw [if_neg (by simp),if_pos rfl]
  cases e:(zbh s v).is_ with
  | true=>rw [if_pos rfl,List.all_cons,List.all_nil,le_holds,zk1,zk1,Bool.and_true,Bool.true_and,cmpZ_gt,<- decide_not];exact decide_eq_decide.2 (by omega)
  | false=>rw [if_neg Bool.noConfusion];rfl
 | false=>rw [Bool.not_false,if_pos rfl,if_neg Bool.noConfusion,bnd_holds,within_w,valA_new hf]
theorem canF_holds (s:zao) (x:StD) (c:zb4):(zhn s c).holds x.vals=(c.guard.holds x.vals && zh3 s.vars.length (canAt s x c)):=by
 unfold zhn canL
 rw [zi7,List.all_cons,all_flat]
 congr 1
 exact zef fun v _=>canS_holds s x c v
theorem canF_bel {s:zao} {c:zb4} (hg:zh5 s.vars.length c.guard) (hm:∀ m ∈ c.moves,Bel s.vars.length m.t):zh5 s.vars.length (zhn s c):=zkn fun g hx=>by
 unfold canL at hx
 rcases List.mem_cons.1 hx with rfl | hx
 ·exact hg
 ·refine zde (fun v hv g hg=>?_) g hx
  unfold zer at hg
  split at hg
  ·exact bel_bnd (valA_bel hm hv) g hg
  ·split at hg
   ·rw [List.mem_singleton.1 hg];exact belF_atom (zes (bel_sub (bel_num _ _) (bel_num _ _)))
   ·cases hg
theorem enabled_beg {s:zao} {x:StD} {i:Int} {c:zb4} (hf:zd2 s x=true) (hi:zf8 s i=some c):zar s x c=((zad s x.locs i).2 && c.guard.holds x.vals):=by
 have hc:(zaa s i).1=c:=by unfold zaa;rw [hi]
 have hb:(zaa s i).2=sndB s c:=by unfold zaa;rw [hi]
 show zar s x c=(((zaa s i).2 && begB s x.locs (zaa s i).1) && c.guard.holds x.vals)
 rw [hc,hb]
 unfold zar begB sndB
 rw [hf,Bool.true_and]
 have hl:=zg1 hf
 rw [decide_eq_true hl.1,Bool.true_and]
 by_cases hp:0<=c.proc/\c.proc<(s.procs.length:Int)
 ·rw [decide_eq_true hp]
  cases e:((x.locs[c.proc.toNat]?).getD 0 == c.from_) with
  | false=>simp
  | true =>
   have e':(x.locs[c.proc.toNat]?).getD 0=c.from_:=by simpa using e
   have hloc:zfj s x c.proc.toNat=true:=by
    unfold zd2 at hf
    rw [Bool.and_eq_true,Bool.and_eq_true] at hf
    exact zi8.1 hf.2.1 _ (by omega)
   unfold zfj at hloc
   rw [e'] at hloc
   rw [hloc]
   simp [Bool.and_assoc,Bool.and_comm,Bool.and_left_comm]
 ·rw [decide_eq_false hp];simp
theorem beg_none {s:zao} {locs:List Int} {i:Int} (hi:zf8 s i=none):(zad s locs i).2=false:=by
 show ((zaa s i).2 && _)=false;unfold zaa;rw [hi];rfl
theorem can_law {s:zao} {x:StD} (i:Int) (hf:zd2 s x=true):can s x i=((zad s x.locs i).2 && (zhn s (zad s x.locs i).1).holds x.vals):=by
 unfold can
 cases hi:zf8 s i with
 | none=>rw [beg_none hi];rfl
 | some c =>
  have hc:(zad s x.locs i).1=c:=by show (zaa s i).1=c;unfold zaa;rw [hi]
  rw [hc,canF_holds]
  show canC s x c=_
  unfold canC
  rw [enabled_beg hf hi,Bool.and_assoc]
theorem stk_holds {s:zao} {x:StD} (hf:zd2 s x=true):(zbv s x.locs).holds x.vals=zh3 s.acts.length fun i=>!can s x (i:Int):=by
 unfold zbv
 rw [zi7,all_flat]
 refine zef fun i _=>?_
 rw [can_law (i:Int) hf]
 unfold zh6
 cases e:(zad s x.locs (i:Int)).2 with
 | true=>rw [if_pos rfl,List.all_cons,List.all_nil,deny_holds,Bool.and_true,Bool.true_and]
 | false=>rw [if_neg Bool.noConfusion];rfl
theorem stk_stuck {s:zao} {x:StD} (hf:zd2 s x=true):(zbv s x.locs).holds x.vals=zcw s x:=by
 rw [stk_holds hf];unfold zcw;rw [hf,Bool.and_true]
theorem stk_bel {s:zao} (hp:ProS s) (locs:List Int):zh5 s.vars.length (zbv s locs):=zkn (zde fun v _ g hg=>by
 unfold zh6 at hg
 split at hg
 ·rw [List.mem_singleton.1 hg];exact belF_deny (canF_bel (zij hp _).1 (zij hp _).2)
 ·cases hg)
def zh7 (s:zao) (locs:List Int) (act:Int) (k:Nat):za0:=if act=-1 then atF s (zgd (zga s (zbv s locs) (zad s locs (-1)).1)) k else if (zad s locs act).2=true then atF s (zgd (zga s (zad s locs act).1.guard (zad s locs act).1++[atF s (zcq s) 1])) k else zda false
def canK (s:zao) (act:Int) (k:Nat):za0:=if (zaa s act).2=true then atF s (zhn s (zaa s act).1) k else zda false
theorem zj6 (s:zao) (x y:StD) (k:Nat):zav s x y k=List.replicate (k*s.vars.length) zfb++(x.vals++y.vals):=by unfold zav;rw [List.append_assoc]
theorem zkm (s:zao) (k:Nat):(List.replicate (k*s.vars.length) zfb).length=k*s.vars.length:=List.length_replicate
theorem cans_within {s:zao} (hv8:s.vars.length<=8) {x y:StD} {k:Nat} (hk:k<=4096):(atF s (zcq s) k).holds (zav s x y k)=(zcq s).holds (x.vals++y.vals):=by
 rw [zj6];exact zko hv8 hk (by omega) (zkm s k) _ (rng_bel s)
theorem cans_start {s:zao} (hp:ProS s) (hv8:s.vars.length<=8) {x y:StD} {k:Nat} (hk:k<=4096):(atF s (zgd [s.init,zcq s]) k).holds (zav s x y k)=(s.init.holds (x.vals++y.vals) && (zcq s).holds (x.vals++y.vals)):=by
 rw [zj6,zko hv8 hk (show s.vars.length<=1000000 by omega) (zkm s k),zi7]
 ·simp
 ·exact zkn fun g hg=>by
   rcases List.mem_cons.1 hg with rfl | hg
   ·exact hp.init
   ·rw [List.mem_singleton.1 hg];exact rng_bel s
theorem cans_can {s:zao} (hp:ProS s) (hv8:s.vars.length<=8) {x y:StD} {k:Nat} (hk:k<=4096) (hf:zd2 s x=true) (act:Int):can s x act=((zad s x.locs act).2 && (canK s act k).holds (zav s x y k)):=by
 rw [can_law act hf]
 cases hb:(zad s x.locs act).2 with
 | false=>rfl
 | true =>
  have h2:((zaa s act).2 && begB s x.locs (zaa s act).1)=true:=hb
  rw [Bool.and_eq_true] at h2
  unfold canK
  rw [if_pos h2.1,zj6,zko hv8 hk (show s.vars.length<=1000000 by omega) (zkm s k) _ (canF_bel (zij hp act).1 (zij hp act).2),holds_app y.vals (by rw [(zg1 hf).2];exact Nat.le_refl _) _ (canF_bel (zij hp act).1 (zij hp act).2)]
  rfl
theorem zee {s:zao} (hp:ProS s) (hv8:s.vars.length<=8) {x y:StD} {k:Nat} (hk:k<=4096) (hf:zd2 s x=true):(atF s (zbv s x.locs) k).holds (zav s x y k)=zcw s x:=by
 rw [zj6,zko hv8 hk (show s.vars.length<=1000000 by omega) (zkm s k) _ (stk_bel hp x.locs),holds_app y.vals (by rw [(zg1 hf).2];exact Nat.le_refl _) _ (stk_bel hp x.locs),stk_stuck hf]
theorem mg6_10:za4 Tryz.prog 44:=za4.mk' (by kernel_rfl)
theorem mg6_13:za4 Tryz.prog 17:=za4.mk' (by kernel_rfl)
theorem Lsame (s:zao) (v:Nat) (t:zal) (hs:zbc 3 s) (hv:v<=1000) (ht:TOk 20 20 t):Fn Tryz.prog 44 [] [vG (zak s),vN v,(vT t)] (vF (samF s v t)) []:=by
 have lvs:=hs.vars;refine Fn.body Tryz.func44 rfl 17 rfl fun w H B a h=>Jq 0 [] [(1,vN v),(3,vp 0 0),(5,vp 1 0),(6,vp 2 0)] [(0,.box (zak s)),(1,.box (zT t)),(2,.box zF0)] h fun a w h=>Jq 3 [(3,.len (za6 1 zfu s.vars)),(4,.add .i64 (m:=(v:Int)) (n:=(s.vars.length:Int)) i6),(5,.call (Lvariable (v+s.vars.length)) mb1_11),(7,.call (STSub (zdy ((v+s.vars.length:Nat):Int)) t ((zhf _).mono (by decide) (by decide)) (ht.mono (by decide) (by decide))) to_9),(8,.call (LZero (zk3 (zdy ((v+s.vars.length:Nat):Int)) t) ((sub_tok (n:=1) (m:=20) (L:=20) (zhf _) ht (by decide)).mono (by decide) (by decide))) hc_14),(9,.call (LOf (zroR (zk3 (zdy ((v+s.vars.length:Nat):Int)) t)) (((sub_tok (n:=1) (m:=20) (L:=20) (zhf _) ht (by decide)).plain (by decide)).mono (by decide) (by decide))) la_9)] [(6,vp 2 0)] [(2,.box (zF (zdi (zroR (zk3 (zdy ((v+s.vars.length:Nat):Int)) t)))))] h fun a w h=>qV (rA 2 (zF (zdi (zroR (zk3 (zdy ((v+s.vars.length:Nat):Int)) t)))) h zcs rfl ?_)
 rfl
theorem LStepM (s:zao) (locs:List Int) (k:Nat) (hs:zbc 3 s) (hw:SysW s) (hl:locs.length<=9223372036854775807) (hk:k<=4096):Fn Tryz.prog 13 [] [vG (zak s),(vIs locs),vI (-1),vN k] (vF (atF s (zgd (zga s (zbv s locs) (zad s locs (-1)).1)) k)) []:=by
 have lvs:=hs.vars;have hsl:∀ g ∈ (zga s (zbv s locs) (zad s locs (-1)).1),g.okB 40 60:=stpL_ok (za0.okB_mono (by decide) (by decide) _ (stkF_ok hs hw locs)) (zbq hs _);have hslen:=stpL_len s (zbv s locs) (zad s locs (-1)).1;refine Fn.body Tryz.func13 rfl 74 rfl fun w H B a h=>Jq 5 [] [(1,(vIs locs)),(2,vI (-1)),(3,vN k),(4,vp 5 0),(8,vp 6 0)] [(5,.box (zak s)),(6,.box zF0)] h fun a w h=>Jd 7 [(0,.g (Op.buildE (d:=15) (n:=7) zkf))] [] [(9,vO 7 0)] [(5,.box (zak s)),(6,.box zF0),(7,.row 35 6 ([].map za0.d))] h fun a w h=>Jd 8 [(3,.call (Lbegins s locs (-1) hs hl) md3_12)] [] [(10,vp 8 0),(11,vb (zad s locs (-1)).2)] [(5,.box (zak s)),(6,.box zF0),(7,.row 35 6 ([].map za0.d)),(8,.box ([cI (zad s locs (-1)).1.proc,cI (zad s locs (-1)).1.from_,cI (zad s locs (-1)).1.to_,cI (zad s locs (-1)).1.guard.kind,cPs (zad s locs (-1)).1.guard.r.t.parts]++zi (zad s locs (-1)).1.guard.r.t.k++[cB (zad s locs (-1)).1.guard.r.eq,cFs (zad s locs (-1)).1.guard.kids,.d (.sl 5 ((zad s locs (-1)).1.moves.map zaf.d))]))] h fun a w h=>qW (qZ (Je 9 [(1,.cmp (op:=.eql) (m:=(-1)) (n:=(-1)) (b:=true) .i64 rfl)] [] [(28,vb true)] h fun a w h=>cS true h (fun _=>?_) nofun))
 refine Jm 9 [(3,.call (Lstuck s locs hs hw hl) md3_15),(4,.g (Op.buildO (d:=35) (n:=9) (len:=1) (rows:=[(zbv s locs)].map za0.d) (rs:=[(34,(vF (zbv s locs)))]) zkf (.cons (i:=0) (OV.tmp 34 _) (.nil)) (by simp only [List.map_cons,List.map_nil,List.flatten_cons,List.flatten_nil,List.append_nil,za0.d_eq];kernel_rfl) rfl (by simp [za0.d_len]) (by decide) (by decide))),(5,.g (Op.appOO (d:=36) (t:=31) (u:=35) (n:=7) (sn:=9) (n':=10) (len:=0) (len2:=1) (len':=[(zbv s locs)].length) (rows:=[].map za0.d) (rows2:=[(zbv s locs)].map za0.d) (rows':=[(zbv s locs)].map za0.d) la_7 (by first | exact (List.length_map _).symm | simp) (by first | exact (List.length_map _).symm | simp) (by first | (rw [List.length_append,List.length_map];done) | simp) (by simp) (by first | omega | (simp at *;done) | (simp at *;omega))))] [1,11,28] [(9,vO 10 ([(zbv s locs)].length))] [(5,.box (zak s)),(6,.box zF0),(8,.box ([cI (zad s locs (-1)).1.proc,cI (zad s locs (-1)).1.from_,cI (zad s locs (-1)).1.to_,cI (zad s locs (-1)).1.guard.kind,cPs (zad s locs (-1)).1.guard.r.t.parts]++zi (zad s locs (-1)).1.guard.r.t.k++[cB (zad s locs (-1)).1.guard.r.eq,cFs (zad s locs (-1)).1.guard.kids,.d (.sl 5 ((zad s locs (-1)).1.moves.map zaf.d))])),(10,.row 35 6 ([(zbv s locs)].map za0.d))] h fun a w h=>za8 (za1 (qW (Je 11 [(2,.len (za6 1 zfu s.vars))] [] [(43,vN s.vars.length),(44,vI 0)] h fun a w h=>qZ ?_)));replace h:=cv (fun z_:List za0=>F.of [(2,vI (-1)),(3,vN k),(4,vp 5 0),(8,vp 6 0),(9,vO 10 z_.length),(10,vp 8 0),(43,vN s.vars.length),(44,vI 0)] [(5,.box (zak s)),(6,.box zF0),(8,.box ([cI (zad s locs (-1)).1.proc,cI (zad s locs (-1)).1.from_,cI (zad s locs (-1)).1.to_,cI (zad s locs (-1)).1.guard.kind,cPs (zad s locs (-1)).1.guard.r.t.parts]++zi (zad s locs (-1)).1.guard.r.t.k++[cB (zad s locs (-1)).1.guard.r.eq,cFs (zad s locs (-1)).1.guard.kids,.d (.sl 5 ((zad s locs (-1)).1.moves.map zaf.d))])),(10,.row 35 6 (z_.map za0.d))]) (show ([(zbv s locs)]:List za0)=([(zbv s locs)]++(List.range 0).flatMap (zdx s (zad s locs (-1)).1)) from (by simp)) h
 refine zaq (ι:=(Nat)) (fun j=>j<=s.vars.length)
   (fun j=>[(2,vI (-1)),(3,vN k),(4,vp 5 0),(8,vp 6 0),(9,vO 10 ([(zbv s locs)]++(List.range j).flatMap (zdx s (zad s locs (-1)).1)).length),(10,vp 8 0),(43,vN s.vars.length),(44,vN j)])
   (fun j=>[(5,.box (zak s)),(6,.box zF0),(8,.box ([cI (zad s locs (-1)).1.proc,cI (zad s locs (-1)).1.from_,cI (zad s locs (-1)).1.to_,cI (zad s locs (-1)).1.guard.kind,cPs (zad s locs (-1)).1.guard.r.t.parts]++zi (zad s locs (-1)).1.guard.r.t.k++[cB (zad s locs (-1)).1.guard.r.eq,cFs (zad s locs (-1)).1.guard.kids,.d (.sl 5 ((zad s locs (-1)).1.moves.map zaf.d))])),(10,.row 35 6 (([(zbv s locs)]++(List.range j).flatMap (zdx s (zad s locs (-1)).1)).map za0.d))])
   (fun j=>s.vars.length - j) 0 ?_ h (by kernel_rfl) (by kernel_rfl) ?_
 ·exact Nat.zero_le _
 clear h;rintro j a w hI h;have lsj:=zc6 (zdx s (zad s locs (-1)).1) (stpS_len s (zad s locs (-1)).1) j;refine Je 11 [] [] [(45,vb (decide ((j:Int)<(s.vars.length:Int))))] h fun a w h=>qW (zam ((j:Int)<(s.vars.length:Int)) h (fun hc1 hc1'=>?_) (fun hc4 hc4'=>?_))
 ·refine qU (za1 (qW (qZ (Je 11 [] [45] [(12,vN j)] h fun a w h=>Jd 11 [(2,.call (Lvalue (zad s locs (-1)).1 j (zbq hs _)) mc2_15)] [] [(13,vp 11 0),(14,vb (zbz (zad s locs (-1)).1 j).2)] [(5,.box (zak s)),(6,.box zF0),(8,.box ([cI (zad s locs (-1)).1.proc,cI (zad s locs (-1)).1.from_,cI (zad s locs (-1)).1.to_,cI (zad s locs (-1)).1.guard.kind,cPs (zad s locs (-1)).1.guard.r.t.parts]++zi (zad s locs (-1)).1.guard.r.t.k++[cB (zad s locs (-1)).1.guard.r.eq,cFs (zad s locs (-1)).1.guard.kids,.d (.sl 5 ((zad s locs (-1)).1.moves.map zaf.d))])),(10,.row 35 6 (([(zbv s locs)]++(List.range j).flatMap (zdx s (zad s locs (-1)).1)).map za0.d)),(11,.box (zT (zbz (zad s locs (-1)).1 j).1))] h fun a w h=>Je 12 [] [14] [(53,vb (zbz (zad s locs (-1)).1 j).2)] h fun a w h=>cS (zbz (zad s locs (-1)).1 j).2 h (fun hc2=>?_) (fun hc3=>?_)))))
  ·refine Jm 12 [(4,.call (Lsame s j (zbz (zad s locs (-1)).1 j).1 hs (by omega) (zic (zbq hs _) _)) mg6_10),(5,.g (Op.buildO (d:=59) (n:=12) (len:=1) (rows:=[(samF s j (zbz (zad s locs (-1)).1 j).1)].map za0.d) (rs:=[(58,(vF (samF s j (zbz (zad s locs (-1)).1 j).1)))]) zkf (.cons (i:=0) (OV.tmp 58 _) (.nil)) (by simp only [List.map_cons,List.map_nil,List.flatten_cons,List.flatten_nil,List.append_nil,za0.d_eq];kernel_rfl) rfl (by simp [za0.d_len]) (by decide) (by decide))),(6,.g (Op.appOO (d:=60) (t:=54) (u:=59) (n:=10) (sn:=12) (n':=13) (len:=([(zbv s locs)]++(List.range j).flatMap (zdx s (zad s locs (-1)).1)).length) (len2:=1) (len':=(([(zbv s locs)]++(List.range j).flatMap (zdx s (zad s locs (-1)).1))++[(samF s j (zbz (zad s locs (-1)).1 j).1)]).length) (rows:=([(zbv s locs)]++(List.range j).flatMap (zdx s (zad s locs (-1)).1)).map za0.d) (rows2:=[(samF s j (zbz (zad s locs (-1)).1 j).1)].map za0.d) (rows':=(([(zbv s locs)]++(List.range j).flatMap (zdx s (zad s locs (-1)).1))++[(samF s j (zbz (zad s locs (-1)).1 j).1)]).map za0.d) la_7 (by first | exact (List.length_map _).symm | simp) (by first | exact (List.length_map _).symm | simp) (by first | (rw [List.length_append,List.length_map];done) | simp) (by simp) (by first | omega | (simp at *;done) | (simp at *;omega))))] [12,13,53] [(9,vO 13 (([(zbv s locs)]++(List.range j).flatMap (zdx s (zad s locs (-1)).1))++[(samF s j (zbz (zad s locs (-1)).1 j).1)]).length)] [(5,.box (zak s)),(6,.box zF0),(8,.box ([cI (zad s locs (-1)).1.proc,cI (zad s locs (-1)).1.from_,cI (zad s locs (-1)).1.to_,cI (zad s locs (-1)).1.guard.kind,cPs (zad s locs (-1)).1.guard.r.t.parts]++zi (zad s locs (-1)).1.guard.r.t.k++[cB (zad s locs (-1)).1.guard.r.eq,cFs (zad s locs (-1)).1.guard.kids,.d (.sl 5 ((zad s locs (-1)).1.moves.map zaf.d))])),(13,.row 35 6 ((([(zbv s locs)]++(List.range j).flatMap (zdx s (zad s locs (-1)).1))++[(samF s j (zbz (zad s locs (-1)).1 j).1)]).map za0.d))] h fun a w h=>za8 (za1 (Jf 14 [(0,.j1 j)] [] [(44,vI ((j:Int)+1))] h fun a w h=>za1 ?_));rw [show ((([(zbv s locs)]++(List.range j).flatMap (zdx s (zad s locs (-1)).1))++[(samF s j (zbz (zad s locs (-1)).1 j).1)]):List za0)=([(zbv s locs)]++(List.range (j+1)).flatMap (zdx s (zad s locs (-1)).1)) from (by rw [zc1 (zdx s (zad s locs (-1)).1) j,show zdx s (zad s locs (-1)).1 j=[samF s j (zbz (zad s locs (-1)).1 j).1] from if_pos hc2];first | done | simp)] at h;replace h:=ze0 13 10 [(2,vI (-1)),(3,vN k),(4,vp 5 0),(8,vp 6 0),(9,vO 10 ([(zbv s locs)]++(List.range (j+1)).flatMap (zdx s (zad s locs (-1)).1)).length),(10,vp 8 0),(43,vN s.vars.length),(44,vI ((j:Int)+1))] [(5,.box (zak s)),(6,.box zF0),(8,.box ([cI (zad s locs (-1)).1.proc,cI (zad s locs (-1)).1.from_,cI (zad s locs (-1)).1.to_,cI (zad s locs (-1)).1.guard.kind,cPs (zad s locs (-1)).1.guard.r.t.parts]++zi (zad s locs (-1)).1.guard.r.t.k++[cB (zad s locs (-1)).1.guard.r.eq,cFs (zad s locs (-1)).1.guard.kids,.d (.sl 5 ((zad s locs (-1)).1.moves.map zaf.d))])),(10,.row 35 6 (([(zbv s locs)]++(List.range (j+1)).flatMap (zdx s (zad s locs (-1)).1)).map za0.d))] h;refine zag (x:=j) (y:=j+1) h ?_ ?_
   ·have:=dT hc1;show j+1<=s.vars.length;omega
   show s.vars.length - (j+1)<s.vars.length - j;have:=dT hc1;omega
  refine qU (za8 (za1 (Jm 14 [(0,.j1 j)] [12,13,53] [(44,vI ((j:Int)+1))] [(5,.box (zak s)),(6,.box zF0),(8,.box ([cI (zad s locs (-1)).1.proc,cI (zad s locs (-1)).1.from_,cI (zad s locs (-1)).1.to_,cI (zad s locs (-1)).1.guard.kind,cPs (zad s locs (-1)).1.guard.r.t.parts]++zi (zad s locs (-1)).1.guard.r.t.k++[cB (zad s locs (-1)).1.guard.r.eq,cFs (zad s locs (-1)).1.guard.kids,.d (.sl 5 ((zad s locs (-1)).1.moves.map zaf.d))])),(10,.row 35 6 (([(zbv s locs)]++(List.range j).flatMap (zdx s (zad s locs (-1)).1)).map za0.d))] h fun a w h=>za1 ?_)));rw [show (([(zbv s locs)]++(List.range j).flatMap (zdx s (zad s locs (-1)).1)):List za0)=([(zbv s locs)]++(List.range (j+1)).flatMap (zdx s (zad s locs (-1)).1)) from (by rw [zc1 (zdx s (zad s locs (-1)).1) j,show zdx s (zad s locs (-1)).1 j=[] from if_neg (by rw [hc3];exact Bool.noConfusion)];first | done | simp)] at h;refine zag (x:=j) (y:=j+1) h ?_ ?_
  ·have:=dT hc1;show j+1<=s.vars.length;omega
  show s.vars.length - (j+1)<s.vars.length - j;have:=dT hc1;omega
 refine wp_exit (za9 (za9 (za5 (za1 (qW ?_)))));rw [show (([(zbv s locs)]++(List.range j).flatMap (zdx s (zad s locs (-1)).1)):List za0)=(zga s (zbv s locs) (zad s locs (-1)).1) from (by rw [show j=s.vars.length by have:=dF hc4;omega];rfl)] at h;replace h:=zht 10 6 35 ((zga s (zbv s locs) (zad s locs (-1)).1).map za0.d) [(2,vI (-1)),(3,vN k),(4,vp 5 0),(8,vp 6 0),(9,(vFs (zga s (zbv s locs) (zad s locs (-1)).1))),(10,vp 8 0),(43,vN s.vars.length),(44,vN j),(45,vb (decide ((j:Int)<(s.vars.length:Int))))] [(5,.box (zak s)),(6,.box zF0),(8,.box ([cI (zad s locs (-1)).1.proc,cI (zad s locs (-1)).1.from_,cI (zad s locs (-1)).1.to_,cI (zad s locs (-1)).1.guard.kind,cPs (zad s locs (-1)).1.guard.r.t.parts]++zi (zad s locs (-1)).1.guard.r.t.k++[cB (zad s locs (-1)).1.guard.r.eq,cFs (zad s locs (-1)).1.guard.kids,.d (.sl 5 ((zad s locs (-1)).1.moves.map zaf.d))]))] h rfl (show zbx _ [(zga s (zbv s locs) (zad s locs (-1)).1).length] from ⟨by first | exact (List.length_map _).symm | (simp;done) | (simp;omega),trivial⟩) trivial;refine Jd 14 [(1,.cmp (op:=.neq) (m:=(-1)) (n:=(-1)) (b:=false) .i64 rfl)] [2,10,43,44,45] [(63,vb false)] [(5,.box (zak s)),(6,.box zF0)] h fun a w h=>zaw false h rfl nofun (fun _=>qU (za1 (Jq 14 [(2,.call (LAll (zga s (zbv s locs) (zad s locs (-1)).1) (fun g hg=>za0.okB_mono (by decide) (by decide) _ (hsl g hg)) (by first | omega | (rw [List.length_append,List.length_singleton];omega))) zjg),(4,.call (Lat s (zgd (zga s (zbv s locs) (zad s locs (-1)).1)) k hs hk (za0.okB_mono (Nat.le_refl _) (by decide) _ (zet (by decide) hsl (by first | omega | (rw [List.length_append,List.length_singleton];omega))))) md3_4)] [(8,vp 6 0)] [(6,.box (zF (atF s (zgd (zga s (zbv s locs) (zad s locs (-1)).1)) k)))] h fun a w h=>qV (rA 6 (zF (atF s (zgd (zga s (zbv s locs) (zad s locs (-1)).1)) k)) h zcs rfl ?_))))
 rfl
theorem LStepS (s:zao) (locs:List Int) (act:Int) (k:Nat) (ha:act≠-1) (hb:(zad s locs act).2=true) (hs:zbc 3 s) (hw:SysW s) (hl:locs.length<=9223372036854775807) (hk:k<=4096):Fn Tryz.prog 13 [] [vG (zak s),(vIs locs),vI act,vN k] (vF (atF s (zgd ((zga s (zad s locs act).1.guard (zad s locs act).1)++[atF s (zcq s) 1])) k)) []:=by
 have lvs:=hs.vars;have hsl:∀ g ∈ (zga s (zad s locs act).1.guard (zad s locs act).1),g.okB 40 60:=stpL_ok (za0.okB_mono (by decide) (by decide) _ (zg0 (zbq hs act).guard (Nat.le_trans (zgg hw act) (by decide)))) (zbq hs _);have hslen:=stpL_len s (zad s locs act).1.guard (zad s locs act).1;have hsl2:∀ g ∈ ((zga s (zad s locs act).1.guard (zad s locs act).1)++[atF s (zcq s) 1]),g.okB 40 103:=fun g hg=>(List.mem_append.1 hg).elim (fun h=>za0.okB_mono (by decide) (by decide) _ (hsl g h)) (fun h=>by rw [List.mem_singleton.1 h];exact rng1_ok hs)
 refine Fn.body Tryz.func13 rfl 74 rfl fun w H B a h=>Jq 5 [] [(1,(vIs locs)),(2,vI act),(3,vN k),(4,vp 5 0),(8,vp 6 0)] [(5,.box (zak s)),(6,.box zF0)] h fun a w h=>Jd 7 [(0,.g (Op.buildE (d:=15) (n:=7) zkf))] [] [(9,vO 7 0)] [(5,.box (zak s)),(6,.box zF0),(7,.row 35 6 ([].map za0.d))] h fun a w h=>Jd 8 [(3,.call (Lbegins s locs act hs hl) md3_12)] [] [(10,vp 8 0),(11,vb (zad s locs act).2)] [(5,.box (zak s)),(6,.box zF0),(7,.row 35 6 ([].map za0.d)),(8,.box ([cI (zad s locs act).1.proc,cI (zad s locs act).1.from_,cI (zad s locs act).1.to_,cI (zad s locs act).1.guard.kind,cPs (zad s locs act).1.guard.r.t.parts]++zi (zad s locs act).1.guard.r.t.k++[cB (zad s locs act).1.guard.r.eq,cFs (zad s locs act).1.guard.kids,.d (.sl 5 ((zad s locs act).1.moves.map zaf.d))]))] h fun a w h=>qW (qZ (Je 9 [(1,.cmp (op:=.eql) (m:=act) (n:=(-1)) (b:=false) .i64 (beq_eq_false_iff_ne.2 ha))] [] [(28,vb false)] h fun a w h=>zaw false h rfl nofun (fun _=>Je 9 [] [1,11,28] [(37,vb (!(zad s locs act).2))] h fun a w h=>cS (!(zad s locs act).2) h (fun hc=>?_) (fun hc=>?_))))
 ·rw [(show (!(zad s locs act).2)=false from by rw [hb];rfl)] at hc;cases hc
 clear hc;refine Jm 9 [(3,.g (Op.buildO (d:=26) (n:=9) (len:=1) (rows:=[(zad s locs act).1.guard].map za0.d) (rs:=[(25,(vF (zad s locs act).1.guard))]) zkf (.cons (i:=0) (OV.tmp 25 _) (.nil)) (by simp only [List.map_cons,List.map_nil,List.flatten_cons,List.flatten_nil,List.append_nil,za0.d_eq];kernel_rfl) rfl (by simp [za0.d_len]) (by decide) (by decide))),(4,.g (Op.appOO (d:=27) (t:=23) (u:=26) (n:=7) (sn:=9) (n':=10) (len:=0) (len2:=1) (len':=[(zad s locs act).1.guard].length) (rows:=[].map za0.d) (rows2:=[(zad s locs act).1.guard].map za0.d) (rows':=[(zad s locs act).1.guard].map za0.d) la_7 (by first | exact (List.length_map _).symm | simp) (by first | exact (List.length_map _).symm | simp) (by first | (rw [List.length_append,List.length_map];done) | simp) (by simp) (by first | omega | (simp at *;done) | (simp at *;omega))))] [37] [(9,vO 10 ([(zad s locs act).1.guard].length))] [(5,.box (zak s)),(6,.box zF0),(8,.box ([cI (zad s locs act).1.proc,cI (zad s locs act).1.from_,cI (zad s locs act).1.to_,cI (zad s locs act).1.guard.kind,cPs (zad s locs act).1.guard.r.t.parts]++zi (zad s locs act).1.guard.r.t.k++[cB (zad s locs act).1.guard.r.eq,cFs (zad s locs act).1.guard.kids,.d (.sl 5 ((zad s locs act).1.moves.map zaf.d))])),(10,.row 35 6 ([(zad s locs act).1.guard].map za0.d))] h fun a w h=>za8 (za1 (qW (Je 11 [(2,.len (za6 1 zfu s.vars))] [] [(43,vN s.vars.length),(44,vI 0)] h fun a w h=>qZ ?_)));replace h:=cv (fun z_:List za0=>F.of [(2,vI act),(3,vN k),(4,vp 5 0),(8,vp 6 0),(9,vO 10 z_.length),(10,vp 8 0),(43,vN s.vars.length),(44,vI 0)] [(5,.box (zak s)),(6,.box zF0),(8,.box ([cI (zad s locs act).1.proc,cI (zad s locs act).1.from_,cI (zad s locs act).1.to_,cI (zad s locs act).1.guard.kind,cPs (zad s locs act).1.guard.r.t.parts]++zi (zad s locs act).1.guard.r.t.k++[cB (zad s locs act).1.guard.r.eq,cFs (zad s locs act).1.guard.kids,.d (.sl 5 ((zad s locs act).1.moves.map zaf.d))])),(10,.row 35 6 (z_.map za0.d))]) (show ([(zad s locs act).1.guard]:List za0)=([(zad s locs act).1.guard]++(List.range 0).flatMap (zdx s (zad s locs act).1)) from (by simp)) h
 refine zaq (ι:=(Nat)) (fun j=>j<=s.vars.length)
   (fun j=>[(2,vI act),(3,vN k),(4,vp 5 0),(8,vp 6 0),(9,vO 10 ([(zad s locs act).1.guard]++(List.range j).flatMap (zdx s (zad s locs act).1)).length),(10,vp 8 0),(43,vN s.vars.length),(44,vN j)])
   (fun j=>[(5,.box (zak s)),(6,.box zF0),(8,.box ([cI (zad s locs act).1.proc,cI (zad s locs act).1.from_,cI (zad s locs act).1.to_,cI (zad s locs act).1.guard.kind,cPs (zad s locs act).1.guard.r.t.parts]++zi (zad s locs act).1.guard.r.t.k++[cB (zad s locs act).1.guard.r.eq,cFs (zad s locs act).1.guard.kids,.d (.sl 5 ((zad s locs act).1.moves.map zaf.d))])),(10,.row 35 6 (([(zad s locs act).1.guard]++(List.range j).flatMap (zdx s (zad s locs act).1)).map za0.d))])
   (fun j=>s.vars.length - j) 0 ?_ h (by kernel_rfl) (by kernel_rfl) ?_
 ·exact Nat.zero_le _
 clear h;rintro j a w hI h;have lsj:=zc6 (zdx s (zad s locs act).1) (stpS_len s (zad s locs act).1) j;refine Je 11 [] [] [(45,vb (decide ((j:Int)<(s.vars.length:Int))))] h fun a w h=>qW (zam ((j:Int)<(s.vars.length:Int)) h (fun hc1 hc1'=>?_) (fun hc4 hc4'=>?_))
 ·refine qU (za1 (qW (qZ (Je 11 [] [45] [(12,vN j)] h fun a w h=>Jd 11 [(2,.call (Lvalue (zad s locs act).1 j (zbq hs _)) mc2_15)] [] [(13,vp 11 0),(14,vb (zbz (zad s locs act).1 j).2)] [(5,.box (zak s)),(6,.box zF0),(8,.box ([cI (zad s locs act).1.proc,cI (zad s locs act).1.from_,cI (zad s locs act).1.to_,cI (zad s locs act).1.guard.kind,cPs (zad s locs act).1.guard.r.t.parts]++zi (zad s locs act).1.guard.r.t.k++[cB (zad s locs act).1.guard.r.eq,cFs (zad s locs act).1.guard.kids,.d (.sl 5 ((zad s locs act).1.moves.map zaf.d))])),(10,.row 35 6 (([(zad s locs act).1.guard]++(List.range j).flatMap (zdx s (zad s locs act).1)).map za0.d)),(11,.box (zT (zbz (zad s locs act).1 j).1))] h fun a w h=>Je 12 [] [14] [(53,vb (zbz (zad s locs act).1 j).2)] h fun a w h=>cS (zbz (zad s locs act).1 j).2 h (fun hc2=>?_) (fun hc3=>?_)))))
  ·refine Jm 12 [(4,.call (Lsame s j (zbz (zad s locs act).1 j).1 hs (by omega) (zic (zbq hs _) _)) mg6_10),(5,.g (Op.buildO (d:=59) (n:=12) (len:=1) (rows:=[(samF s j (zbz (zad s locs act).1 j).1)].map za0.d) (rs:=[(58,(vF (samF s j (zbz (zad s locs act).1 j).1)))]) zkf (.cons (i:=0) (OV.tmp 58 _) (.nil)) (by simp only [List.map_cons,List.map_nil,List.flatten_cons,List.flatten_nil,List.append_nil,za0.d_eq];kernel_rfl) rfl (by simp [za0.d_len]) (by decide) (by decide))),(6,.g (Op.appOO (d:=60) (t:=54) (u:=59) (n:=10) (sn:=12) (n':=13) (len:=([(zad s locs act).1.guard]++(List.range j).flatMap (zdx s (zad s locs act).1)).length) (len2:=1) (len':=(([(zad s locs act).1.guard]++(List.range j).flatMap (zdx s (zad s locs act).1))++[(samF s j (zbz (zad s locs act).1 j).1)]).length) (rows:=([(zad s locs act).1.guard]++(List.range j).flatMap (zdx s (zad s locs act).1)).map za0.d) (rows2:=[(samF s j (zbz (zad s locs act).1 j).1)].map za0.d) (rows':=(([(zad s locs act).1.guard]++(List.range j).flatMap (zdx s (zad s locs act).1))++[(samF s j (zbz (zad s locs act).1 j).1)]).map za0.d) la_7 (by first | exact (List.length_map _).symm | simp) (by first | exact (List.length_map _).symm | simp) (by first | (rw [List.length_append,List.length_map];done) | simp) (by simp) (by first | omega | (simp at *;done) | (simp at *;omega))))] [12,13,53] [(9,vO 13 (([(zad s locs act).1.guard]++(List.range j).flatMap (zdx s (zad s locs act).1))++[(samF s j (zbz (zad s locs act).1 j).1)]).length)] [(5,.box (zak s)),(6,.box zF0),(8,.box ([cI (zad s locs act).1.proc,cI (zad s locs act).1.from_,cI (zad s locs act).1.to_,cI (zad s locs act).1.guard.kind,cPs (zad s locs act).1.guard.r.t.parts]++zi (zad s locs act).1.guard.r.t.k++[cB (zad s locs act).1.guard.r.eq,cFs (zad s locs act).1.guard.kids,.d (.sl 5 ((zad s locs act).1.moves.map zaf.d))])),(13,.row 35 6 ((([(zad s locs act).1.guard]++(List.range j).flatMap (zdx s (zad s locs act).1))++[(samF s j (zbz (zad s locs act).1 j).1)]).map za0.d))] h fun a w h=>za8 (za1 (Jf 14 [(0,.j1 j)] [] [(44,vI ((j:Int)+1))] h fun a w h=>za1 ?_));rw [show ((([(zad s locs act).1.guard]++(List.range j).flatMap (zdx s (zad s locs act).1))++[(samF s j (zbz (zad s locs act).1 j).1)]):List za0)=([(zad s locs act).1.guard]++(List.range (j+1)).flatMap (zdx s (zad s locs act).1)) from (by rw [zc1 (zdx s (zad s locs act).1) j,show zdx s (zad s locs act).1 j=[samF s j (zbz (zad s locs act).1 j).1] from if_pos hc2];first | done | simp)] at h;replace h:=ze0 13 10 [(2,vI act),(3,vN k),(4,vp 5 0),(8,vp 6 0),(9,vO 10 ([(zad s locs act).1.guard]++(List.range (j+1)).flatMap (zdx s (zad s locs act).1)).length),(10,vp 8 0),(43,vN s.vars.length),(44,vI ((j:Int)+1))] [(5,.box (zak s)),(6,.box zF0),(8,.box ([cI (zad s locs act).1.proc,cI (zad s locs act).1.from_,cI (zad s locs act).1.to_,cI (zad s locs act).1.guard.kind,cPs (zad s locs act).1.guard.r.t.parts]++zi (zad s locs act).1.guard.r.t.k++[cB (zad s locs act).1.guard.r.eq,cFs (zad s locs act).1.guard.kids,.d (.sl 5 ((zad s locs act).1.moves.map zaf.d))])),(10,.row 35 6 (([(zad s locs act).1.guard]++(List.range (j+1)).flatMap (zdx s (zad s locs act).1)).map za0.d))] h;refine zag (x:=j) (y:=j+1) h ?_ ?_
   ·have:=dT hc1;show j+1<=s.vars.length;omega
   show s.vars.length - (j+1)<s.vars.length - j;have:=dT hc1;omega
  refine qU (za8 (za1 (Jm 14 [(0,.j1 j)] [12,13,53] [(44,vI ((j:Int)+1))] [(5,.box (zak s)),(6,.box zF0),(8,.box ([cI (zad s locs act).1.proc,cI (zad s locs act).1.from_,cI (zad s locs act).1.to_,cI (zad s locs act).1.guard.kind,cPs (zad s locs act).1.guard.r.t.parts]++zi (zad s locs act).1.guard.r.t.k++[cB (zad s locs act).1.guard.r.eq,cFs (zad s locs act).1.guard.kids,.d (.sl 5 ((zad s locs act).1.moves.map zaf.d))])),(10,.row 35 6 (([(zad s locs act).1.guard]++(List.range j).flatMap (zdx s (zad s locs act).1)).map za0.d))] h fun a w h=>za1 ?_)));rw [show (([(zad s locs act).1.guard]++(List.range j).flatMap (zdx s (zad s locs act).1)):List za0)=([(zad s locs act).1.guard]++(List.range (j+1)).flatMap (zdx s (zad s locs act).1)) from (by rw [zc1 (zdx s (zad s locs act).1) j,show zdx s (zad s locs act).1 j=[] from if_neg (by rw [hc3];exact Bool.noConfusion)];first | done | simp)] at h;refine zag (x:=j) (y:=j+1) h ?_ ?_
  ·have:=dT hc1;show j+1<=s.vars.length;omega
  show s.vars.length - (j+1)<s.vars.length - j;have:=dT hc1;omega
 refine wp_exit (za9 (za9 (za5 (za1 (qW ?_)))));rw [show (([(zad s locs act).1.guard]++(List.range j).flatMap (zdx s (zad s locs act).1)):List za0)=(zga s (zad s locs act).1.guard (zad s locs act).1) from (by rw [show j=s.vars.length by have:=dF hc4;omega];rfl)] at h;refine Jq 14 [(1,.cmp (op:=.neq) (m:=act) (n:=(-1)) (b:=true) .i64 (bne_iff_ne.2 ha))] [(3,vN k),(4,vp 5 0),(8,vp 6 0),(9,vO 10 (zga s (zad s locs act).1.guard (zad s locs act).1).length),(63,vb true)] [(5,.box (zak s)),(6,.box zF0),(10,.row 35 6 ((zga s (zad s locs act).1.guard (zad s locs act).1).map za0.d))] h fun a w h=>cS true h (fun _=>?_) nofun
 refine Jm 14 [(2,.call (LRange s 1 hs (by decide)) mg6_13),(3,.g (Op.buildO (d:=67) (n:=14) (len:=1) (rows:=[(atF s (zcq s) 1)].map za0.d) (rs:=[(66,(vF (atF s (zcq s) 1)))]) zkf (.cons (i:=0) (OV.tmp 66 _) (.nil)) (by simp only [List.map_cons,List.map_nil,List.flatten_cons,List.flatten_nil,List.append_nil,za0.d_eq];kernel_rfl) rfl (by simp [za0.d_len]) (by decide) (by decide))),(4,.g (Op.appOO (d:=68) (t:=64) (u:=67) (n:=10) (sn:=14) (n':=15) (len:=(zga s (zad s locs act).1.guard (zad s locs act).1).length) (len2:=1) (len':=((zga s (zad s locs act).1.guard (zad s locs act).1)++[(atF s (zcq s) 1)]).length) (rows:=(zga s (zad s locs act).1.guard (zad s locs act).1).map za0.d) (rows2:=[(atF s (zcq s) 1)].map za0.d) (rows':=((zga s (zad s locs act).1.guard (zad s locs act).1)++[(atF s (zcq s) 1)]).map za0.d) la_7 (by first | exact (List.length_map _).symm | simp) (by first | exact (List.length_map _).symm | simp) (by first | (rw [List.length_append,List.length_map];done) | simp) (by simp) (by first | omega | (simp at *;done) | (simp at *;omega))))] [63] [(9,vO 15 ((zga s (zad s locs act).1.guard (zad s locs act).1)++[(atF s (zcq s) 1)]).length)] [(5,.box (zak s)),(6,.box zF0),(15,.row 35 6 (((zga s (zad s locs act).1.guard (zad s locs act).1)++[(atF s (zcq s) 1)]).map za0.d))] h fun a w h=>za1 ?_;rw [show (((zga s (zad s locs act).1.guard (zad s locs act).1)++[(atF s (zcq s) 1)]):List za0)=((zga s (zad s locs act).1.guard (zad s locs act).1)++[atF s (zcq s) 1]) from rfl] at h;replace h:=zht 15 6 35 (((zga s (zad s locs act).1.guard (zad s locs act).1)++[atF s (zcq s) 1]).map za0.d) [(3,vN k),(4,vp 5 0),(8,vp 6 0),(9,(vFs ((zga s (zad s locs act).1.guard (zad s locs act).1)++[atF s (zcq s) 1])))] [(5,.box (zak s)),(6,.box zF0)] h rfl (show zbx _ [((zga s (zad s locs act).1.guard (zad s locs act).1)++[atF s (zcq s) 1]).length] from ⟨by first | exact (List.length_map _).symm | (simp;done) | (simp;omega),trivial⟩) trivial;refine Jq 16 [(2,.call (LAll ((zga s (zad s locs act).1.guard (zad s locs act).1)++[atF s (zcq s) 1]) (fun g hg=>za0.okB_mono (by decide) (by decide) _ (hsl2 g hg)) (by first | omega | (rw [List.length_append,List.length_singleton];omega))) zjg),(4,.call (Lat s (zgd ((zga s (zad s locs act).1.guard (zad s locs act).1)++[atF s (zcq s) 1])) k hs hk (za0.okB_mono (Nat.le_refl _) (by decide) _ (zet (by decide) hsl2 (by first | omega | (rw [List.length_append,List.length_singleton];omega))))) md3_4)] [(8,vp 6 0)] [(6,.box (zF (atF s (zgd ((zga s (zad s locs act).1.guard (zad s locs act).1)++[atF s (zcq s) 1])) k)))] h fun a w h=>qV (rA 6 (zF (atF s (zgd ((zga s (zad s locs act).1.guard (zad s locs act).1)++[atF s (zcq s) 1])) k)) h zcs rfl ?_);rfl
theorem LStepN (s:zao) (locs:List Int) (act:Int) (k:Nat) (ha:act≠-1) (hb:(zad s locs act).2=false) (hs:zbc 3 s) (hl:locs.length<=9223372036854775807):Fn Tryz.prog 13 [] [vG (zak s),(vIs locs),vI act,vN k] (vF (zda false)) []:=by
 refine Fn.body Tryz.func13 rfl 74 rfl fun w H B a h=>Jq 5 [] [(1,(vIs locs)),(2,vI act),(3,vN k),(4,vp 5 0),(8,vp 6 0)] [(5,.box (zak s)),(6,.box zF0)] h fun a w h=>Jd 7 [(0,.g (Op.buildE (d:=15) (n:=7) zkf))] [] [(9,vO 7 0)] [(5,.box (zak s)),(6,.box zF0),(7,.row 35 6 ([].map za0.d))] h fun a w h=>Jd 8 [(3,.call (Lbegins s locs act hs hl) md3_12)] [] [(10,vp 8 0),(11,vb (zad s locs act).2)] [(5,.box (zak s)),(6,.box zF0),(7,.row 35 6 ([].map za0.d)),(8,.box ([cI (zad s locs act).1.proc,cI (zad s locs act).1.from_,cI (zad s locs act).1.to_,cI (zad s locs act).1.guard.kind,cPs (zad s locs act).1.guard.r.t.parts]++zi (zad s locs act).1.guard.r.t.k++[cB (zad s locs act).1.guard.r.eq,cFs (zad s locs act).1.guard.kids,.d (.sl 5 ((zad s locs act).1.moves.map zaf.d))]))] h fun a w h=>qW (qZ (Je 9 [(1,.cmp (op:=.eql) (m:=act) (n:=(-1)) (b:=false) .i64 (beq_eq_false_iff_ne.2 ha))] [] [(28,vb false)] h fun a w h=>zaw false h rfl nofun (fun _=>Je 9 [] [1,11,28] [(37,vb (!(zad s locs act).2))] h fun a w h=>cS (!(zad s locs act).2) h (fun hc1=>?_) (fun hc2=>?_))))
 ·have hc1':=hc1;(try simp at hc1');refine Jd 9 [(0,.call (zgs false) la_8)] [37] [] [(5,.box (zak s)),(6,.box (zF (zda false))),(7,.row 35 6 ([].map za0.d)),(8,.box ([cI (zad s locs act).1.proc,cI (zad s locs act).1.from_,cI (zad s locs act).1.to_,cI (zad s locs act).1.guard.kind,cPs (zad s locs act).1.guard.r.t.parts]++zi (zad s locs act).1.guard.r.t.k++[cB (zad s locs act).1.guard.r.eq,cFs (zad s locs act).1.guard.kids,.d (.sl 5 ((zad s locs act).1.moves.map zaf.d))]))] h fun a w h=>qV (zac (za7 (rA 6 (zF (zda false)) h zcs rfl ?_)));rfl
 have hc2':=hc2;(try simp at hc2');have hd_:(!(zad s locs act).2)=false:=by assumption
 rw [hb] at hd_;cases hd_
theorem mi7_9:ElT Tryz.prog 109 30 3 56:=ElT.mk' Tryz.underlying109 _ _ rfl rfl (by kernel_rfl) (by kernel_rfl) (by kernel_rfl) (by decide) (by decide)
theorem mi7_13:za4 Tryz.prog 57:=za4.mk' (by kernel_rfl)
theorem addT_ok2 {n m L:Nat} {s t:zal} (hs:TOk n L s) (ht:TOk m L t) (hn:n+m<=1000):TOk (n+m) (L+2) (zj8 s t):=by
 have h1:TOk (n+m) (L+1) ⟨s.parts++t.parts,ZI.of (s.k.val+t.k.val)⟩:=by
  refine ⟨by rw [List.length_append];have:=hs.len;have:=ht.len;omega,fun p hp=>?_,ZI.lb_of _,ZI.len_of ?_⟩
  ·rcases List.mem_append.1 hp with hp | hp
   ·exact ⟨(hs.ps p hp).1,Nat.le_trans (hs.ps p hp).2 (Nat.le_succ _)⟩
   ·exact ⟨(ht.ps p hp).1,Nat.le_trans (ht.ps p hp).2 (Nat.le_succ _)⟩
  ·have a:=Nat.lt_of_lt_of_le (ZI.abs_lt hs.kb) (zdm hs.kl);have b:=Nat.lt_of_lt_of_le (ZI.abs_lt ht.kb) (zdm ht.kl);have c:=Int.natAbs_add_le s.k.val t.k.val
   have e:pw (L+1)=4294967296*pw L:=zas L
   omega
 exact h1.plain hn
theorem low_tok2 {n L:Nat} {t:zal} (h:TOk n L t) (hn:n<=1000) (hL:3<=L):TOk n (L+5) (lowR t).t:=by
 have h1:=zkb h hn
 have h0:TOk 0 2 (zck (ZI.of 1)):=TOk.num (ZI.lb_of _) (by decide)
 have h2:TOk 0 (L+3) (zbl (zck (ZI.of 1)) (ZI.of (-1))):=((TOk.mul h0 (ZI.lb_of _) (show (ZI.of (-1)).abs.length<=2 from by decide)).plain (by decide)).mono (Nat.le_refl _) (by omega)
 exact (addT_ok2 h1 h2 (by omega)).mono (by omega) (by omega)
theorem deny_tok2 {n L:Nat} {r:zb1} (h:TOk n L r.t) (hn:n<=1000) (hL:3<=L):∀ q ∈ zbb r,TOk n (L+8) q.t:=fun q hq=>by
 unfold zbb at hq
 split at hq
 ·rcases List.mem_cons.1 hq with rfl | hq
  ·exact low_tok2 (zkb h hn) hn (by omega)
  ·rw [List.mem_singleton.1 hq];exact (low_tok2 h hn hL).mono (Nat.le_refl _) (by omega)
 ·rw [List.mem_singleton.1 hq];exact (low_tok2 h hn hL).mono (Nat.le_refl _) (by omega)
theorem flat_okA2 {n L:Nat} (hn:n<=1000) (hL:3<=L) (f:za0):f.okB n L->∀ d,(f.flat d).okA n (L+12) :=
 za0.ind (P:=fun f=>f.okB n L->∀ d,(f.flat d).okA n (L+12)) (fun k r ks ih hf d=>by
  obtain ⟨⟨h1,h2⟩,h3⟩:=(za0.okB_eq _ _ _).1 hf
  change k=2->_ at h1
  change ∀ g ∈ cnt k ks,_ at h3
  rw [za0.flat_eq]
  show (flatK k r (ks.map za0.flat) d).okA n (L+12)
  unfold flatK
  split
  ·exact okA_tru _ _ _
  ·split
   ·rename_i e
    split
    ·refine zfl (.inr rfl) _ [] (fun g hg=>by cases hg) fun g hg=>?_
     obtain ⟨q,hq,rfl⟩:=List.mem_map.1 hg
     exact tight_okA (deny_tok2 (h1 e) hn hL q hq) hn
    ·exact za0.okA_mono (Nat.le_refl _) (by omega) _ (tight_okA (h1 e) hn)
   ·split
    ·rename_i e
     subst e
     cases ks with
     | nil=>exact okA_tru _ _ _
     | cons g gs=>exact ih g (List.mem_cons_self ..) (h3 g (List.mem_cons_self ..)) (!d)
    ·split
     ·rename_i h4
      have hc:cnt k ks=ks:=by unfold cnt;rw [if_pos h4]
      rw [hc] at h3
      refine zfl (by cases d <;> simp <;> omega) _ [] (fun g hg=>by cases hg) fun g hg=>?_
      rw [List.map_map] at hg
      obtain ⟨q,hq,rfl⟩:=List.mem_map.1 hg
      exact ih q hq (h3 q hq) d
     ·exact okA_tru _ _ _) f
theorem put_ok {f:za0} {vs:List Int} {bys:List zal} (hf:f.okB 30 19) (hb:∀ b ∈ bys,zh4 b):(f.each (zcc vs bys)).okB 900 44:=zka (t:=zcc vs bys) (fun r hr=>by
 have:=putZ_tok (t:=(cpR r).t) (vs:=vs) (hr.plain (by decide)) hb
 exact this) f hf
theorem preT_ok {s:zao} (_hs:zbc 3 s) {f:za0} (hf:f.okB 20 3) (hfw:f.wid<=1000) (act:Int):(((f.flat false).forg (ze6 (zaa s act).1 s.vars.length)).okB 30 19) :=
 za0.okB_mono (by decide) (by decide) _ (forg_ok _ _ (flat_okA2 (by decide) (Nat.le_refl _) f hf false) (Nat.le_trans (ziw f false) (by omega)))
theorem LPreM (s:zao) (f:za0) (hf:f.okB 20 3) (_hfw:f.wid<=1000):Fn Tryz.prog 26 [] [vG (zak s),vI (-1),(vF f)] (vF (zgd [f])) []:=by
 refine Fn.body Tryz.func26 rfl 67 rfl fun w H B a h=>Jq 0 [] [(1,vI (-1)),(3,vp 0 0),(5,vp 1 0),(6,vp 2 0)] [(0,.box (zak s)),(1,.box (zF f)),(2,.box zF0)] h fun a w h=>qW (Je 3 [(1,.cmp (op:=.eql) (m:=(-1)) (n:=(-1)) (b:=true) .i64 rfl)] [] [(16,vb true)] h fun a w h=>cS true h (fun _=>?_) nofun)
 refine Jd 3 [(1,.g (bD 18 ([f].map za0.d) [(17,(vF f))] zkf (.cons (i:=0) (OV.tmp 17 _) (.nil)) (by simp only [List.map_cons,List.map_nil,List.flatten_cons,List.flatten_nil,List.append_nil,za0.d_eq];kernel_rfl) (by simp [za0.d_len]))),(2,.call (LAll [f] (fun g hg=>by rw [List.mem_singleton.1 hg];exact za0.okB_mono (by decide) (by decide) _ hf) (show List.length _<=1000000 from by simp)) zjg)] [16] [] [(0,.box (zak s)),(1,.box (zF f)),(2,.box (zF (zgd [f])))] h fun a w h=>qV (za7 (rA 2 (zF (zgd [f])) h zcs rfl ?_));rfl
theorem LPreS (s:zao) (act:Int) (f:za0) (ha:act≠-1) (hs:zbc 3 s) (hw:SysW s) (hf:f.okB 20 3) (hfw:f.wid<=1000):Fn Tryz.prog 26 [] [vG (zak s),vI act,(vF f)] (vF (if (zaa s act).2=true then zgd [zhn s (zaa s act).1,(za0.each (zcc (zeu (zaa s act).1 s.vars.length) (ze9 (zaa s act).1 s.vars.length)) (za0.forg (ze6 (zaa s act).1 s.vars.length) (za0.flat f false)))] else zda false)) []:=by
 have lvs:=hs.vars;obtain ⟨lq1,lq2,lq3⟩:=pre_len (zaa s act).1 s.vars.length;have hpt:=preT_ok hs hf hfw act;have hcl:(za0.forg (ze6 (zaa s act).1 s.vars.length) (za0.flat f false)).cl.okB 30 20:=okB_cl (by decide) _ hpt
 have hsl:∀ g ∈ [zhn s (zaa s act).1,(za0.each (zcc (zeu (zaa s act).1 s.vars.length) (ze9 (zaa s act).1 s.vars.length)) (za0.forg (ze6 (zaa s act).1 s.vars.length) (za0.flat f false)))],g.okB 900 60:=fun g hg=>by
  rcases List.mem_cons.1 hg with rfl | hg
  ·exact za0.okB_mono (by decide) (by decide) _ (zj5 hs (zbq hs act) (zgg hw act))
  rw [List.mem_singleton.1 hg];exact za0.okB_mono (by decide) (by decide) _ (put_ok hpt (preB_ok (zbq hs act) _))
 refine Fn.body Tryz.func26 rfl 67 rfl fun w H B a h=>Jq 5 [] [(1,vI act),(3,vp 5 0),(5,vp 6 0),(6,vp 7 0)] [(5,.box (zak s)),(6,.box (zF f)),(7,.box zF0)] h fun a w h=>qW (Je 8 [(1,.cmp (op:=.eql) (m:=act) (n:=(-1)) (b:=false) .i64 (beq_eq_false_iff_ne.2 ha))] [] [(16,vb false)] h fun a w h=>zaw false h rfl nofun (fun _=>qU (za1 (Jd 8 [(2,.call (Lsound s act hs) md3_7)] [1,16] [(7,vp 8 0),(8,vb (zaa s act).2)] [(5,.box (zak s)),(6,.box (zF f)),(7,.box zF0),(8,.box ([cI (zaa s act).1.proc,cI (zaa s act).1.from_,cI (zaa s act).1.to_,cI (zaa s act).1.guard.kind,cPs (zaa s act).1.guard.r.t.parts]++zi (zaa s act).1.guard.r.t.k++[cB (zaa s act).1.guard.r.eq,cFs (zaa s act).1.guard.kids,.d (.sl 5 ((zaa s act).1.moves.map zaf.d))]))] h fun a w h=>qW (Je 9 [] [8] [(27,vb (!(zaa s act).2))] h fun a w h=>cS (!(zaa s act).2) h (fun hc1=>?_) (fun hc2=>?_))))))
 ·have hc1':=hc1;(try simp at hc1');refine Jd 9 [(0,.call (zgs false) la_8)] [27] [] [(5,.box (zak s)),(6,.box (zF f)),(7,.box (zF (zda false))),(8,.box ([cI (zaa s act).1.proc,cI (zaa s act).1.from_,cI (zaa s act).1.to_,cI (zaa s act).1.guard.kind,cPs (zaa s act).1.guard.r.t.parts]++zi (zaa s act).1.guard.r.t.k++[cB (zaa s act).1.guard.r.eq,cFs (zaa s act).1.guard.kids,.d (.sl 5 ((zaa s act).1.moves.map zaf.d))]))] h fun a w h=>qV (za7 (rA 7 (zF (zda false)) h zcs rfl ?_));rw [if_neg (by rw [(show ((zaa s act).2)=false from by simpa using hc1)];exact Bool.noConfusion)];try rfl
 have hc2':=hc2;(try simp at hc2');refine qU (za1 (Je 9 [] [27] [(9,vW zae),(10,vW zae)] h fun a w h=>Je 9 [] [] [(11,vW zae)] h fun a w h=>qW (Je 9 [(2,.len (za6 1 zfu s.vars))] [] [(31,vN s.vars.length),(32,vI 0)] h fun a w h=>qZ ?_)));replace h:=zfh 9 0 9 1 3 (vW zae) [(3,vp 5 0),(5,vp 6 0),(6,vp 7 0),(7,vp 8 0),(9,vO 9 0),(10,vW zae),(11,vW zae),(31,vN s.vars.length),(32,vI 0)] [(5,.box (zak s)),(6,.box (zF f)),(7,.box zF0),(8,.box ([cI (zaa s act).1.proc,cI (zaa s act).1.from_,cI (zaa s act).1.to_,cI (zaa s act).1.guard.kind,cPs (zaa s act).1.guard.r.t.parts]++zi (zaa s act).1.guard.r.t.k++[cB (zaa s act).1.guard.r.eq,cFs (zaa s act).1.guard.kids,.d (.sl 5 ((zaa s act).1.moves.map zaf.d))])),(9,.row 3 1 ([].map zaj))] h (by kernel_rfl) rfl rfl;replace h:=zfh 10 0 10 1 3 (vW zae) [(3,vp 5 0),(5,vp 6 0),(6,vp 7 0),(7,vp 8 0),(9,vO 9 0),(10,vO 10 0),(11,vW zae),(31,vN s.vars.length),(32,vI 0)] [(5,.box (zak s)),(6,.box (zF f)),(7,.box zF0),(8,.box ([cI (zaa s act).1.proc,cI (zaa s act).1.from_,cI (zaa s act).1.to_,cI (zaa s act).1.guard.kind,cPs (zaa s act).1.guard.r.t.parts]++zi (zaa s act).1.guard.r.t.k++[cB (zaa s act).1.guard.r.eq,cFs (zaa s act).1.guard.kids,.d (.sl 5 ((zaa s act).1.moves.map zaf.d))])),(9,.row 3 1 ([].map zaj)),(10,.row 3 1 ([].map zaj))] h (by kernel_rfl) rfl rfl;replace h:=zfh 11 0 11 3 30 (vW zae) [(3,vp 5 0),(5,vp 6 0),(6,vp 7 0),(7,vp 8 0),(9,vO 9 0),(10,vO 10 0),(11,vO 11 0),(31,vN s.vars.length),(32,vI 0)] [(5,.box (zak s)),(6,.box (zF f)),(7,.box zF0),(8,.box ([cI (zaa s act).1.proc,cI (zaa s act).1.from_,cI (zaa s act).1.to_,cI (zaa s act).1.guard.kind,cPs (zaa s act).1.guard.r.t.parts]++zi (zaa s act).1.guard.r.t.k++[cB (zaa s act).1.guard.r.eq,cFs (zaa s act).1.guard.kids,.d (.sl 5 ((zaa s act).1.moves.map zaf.d))])),(9,.row 3 1 ([].map zaj)),(10,.row 3 1 ([].map zaj)),(11,.row 30 3 ([].map zal.d))] h (by kernel_rfl) rfl rfl;replace h:=cv (fun z_:List Int=>F.of [(3,vp 5 0),(5,vp 6 0),(6,vp 7 0),(7,vp 8 0),(9,vO 9 z_.length),(10,vO 10 0),(11,vO 11 0),(31,vN s.vars.length),(32,vI 0)] [(5,.box (zak s)),(6,.box (zF f)),(7,.box zF0),(8,.box ([cI (zaa s act).1.proc,cI (zaa s act).1.from_,cI (zaa s act).1.to_,cI (zaa s act).1.guard.kind,cPs (zaa s act).1.guard.r.t.parts]++zi (zaa s act).1.guard.r.t.k++[cB (zaa s act).1.guard.r.eq,cFs (zaa s act).1.guard.kids,.d (.sl 5 ((zaa s act).1.moves.map zaf.d))])),(9,.row 3 1 (z_.map zaj)),(10,.row 3 1 ([].map zaj)),(11,.row 30 3 ([].map zal.d))]) (show ([]:List Int)=(zeu (zaa s act).1 0) from rfl) h;replace h:=cv (fun z_:List Int=>F.of [(3,vp 5 0),(5,vp 6 0),(6,vp 7 0),(7,vp 8 0),(9,vO 9 (zeu (zaa s act).1 0).length),(10,vO 10 z_.length),(11,vO 11 0),(31,vN s.vars.length),(32,vI 0)] [(5,.box (zak s)),(6,.box (zF f)),(7,.box zF0),(8,.box ([cI (zaa s act).1.proc,cI (zaa s act).1.from_,cI (zaa s act).1.to_,cI (zaa s act).1.guard.kind,cPs (zaa s act).1.guard.r.t.parts]++zi (zaa s act).1.guard.r.t.k++[cB (zaa s act).1.guard.r.eq,cFs (zaa s act).1.guard.kids,.d (.sl 5 ((zaa s act).1.moves.map zaf.d))])),(9,.row 3 1 ((zeu (zaa s act).1 0).map zaj)),(10,.row 3 1 (z_.map zaj)),(11,.row 30 3 ([].map zal.d))]) (show ([]:List Int)=(ze6 (zaa s act).1 0) from rfl) h
 refine zaq (ι:=(Nat)) (fun j=>j<=s.vars.length)
   (fun j=>[(3,vp 5 0),(5,vp 6 0),(6,vp 7 0),(7,vp 8 0),(9,vO 9 (zeu (zaa s act).1 j).length),(10,vO 10 (ze6 (zaa s act).1 j).length),(11,vO 11 (ze9 (zaa s act).1 j).length),(31,vN s.vars.length),(32,vN j)])
   (fun j=>[(5,.box (zak s)),(6,.box (zF f)),(7,.box zF0),(8,.box ([cI (zaa s act).1.proc,cI (zaa s act).1.from_,cI (zaa s act).1.to_,cI (zaa s act).1.guard.kind,cPs (zaa s act).1.guard.r.t.parts]++zi (zaa s act).1.guard.r.t.k++[cB (zaa s act).1.guard.r.eq,cFs (zaa s act).1.guard.kids,.d (.sl 5 ((zaa s act).1.moves.map zaf.d))])),(9,.row 3 1 ((zeu (zaa s act).1 j).map zaj)),(10,.row 3 1 ((ze6 (zaa s act).1 j).map zaj)),(11,.row 30 3 ((ze9 (zaa s act).1 j).map zal.d))])
   (fun j=>s.vars.length - j) 0 ?_ h (by kernel_rfl) (by kernel_rfl) ?_
 ·exact Nat.zero_le _
 clear h;rintro j a w hI h;obtain ⟨lp1,lp2,lp3⟩:=pre_len (zaa s act).1 j;refine Je 12 [] [] [(33,vb (decide ((j:Int)<(s.vars.length:Int))))] h fun a w h=>qW (zam ((j:Int)<(s.vars.length:Int)) h (fun hc3 hc3'=>?_) (fun hc6 hc6'=>?_))
 ·refine qU (za1 (qW (qZ (Je 12 [] [33] [(12,vN j)] h fun a w h=>Jd 12 [(2,.call (Lvalue (zaa s act).1 j (zbq hs _)) mc2_15)] [] [(13,vp 12 0),(14,vb (zbz (zaa s act).1 j).2)] [(5,.box (zak s)),(6,.box (zF f)),(7,.box zF0),(8,.box ([cI (zaa s act).1.proc,cI (zaa s act).1.from_,cI (zaa s act).1.to_,cI (zaa s act).1.guard.kind,cPs (zaa s act).1.guard.r.t.parts]++zi (zaa s act).1.guard.r.t.k++[cB (zaa s act).1.guard.r.eq,cFs (zaa s act).1.guard.kids,.d (.sl 5 ((zaa s act).1.moves.map zaf.d))])),(9,.row 3 1 ((zeu (zaa s act).1 j).map zaj)),(10,.row 3 1 ((ze6 (zaa s act).1 j).map zaj)),(11,.row 30 3 ((ze9 (zaa s act).1 j).map zal.d)),(12,.box (zT (zbz (zaa s act).1 j).1))] h fun a w h=>Je 13 [] [14] [(41,vb (zbz (zaa s act).1 j).2)] h fun a w h=>cS (zbz (zaa s act).1 j).2 h (fun hc4=>?_) (fun hc5=>?_)))))
  ·refine Jm 13 [(2,.g (bD 44 ([(j:Int)].map zaj) [(43,vN j)] tb_0 (.cons (i:=0) (OV.tmp 43 _) (.nil)) (by kernel_rfl) (by simp [zaj]))),(3,.g (aD 45 42 44 9 13 (zeu (zaa s act).1 j) [(j:Int)] zaj tb_2 (by simp [zaj]))),(6,.g (bD 48 ([(zbz (zaa s act).1 j).1].map zal.d) [(47,(vT (zbz (zaa s act).1 j).1))] tq_13 (.cons (i:=0) (OV.tmp 47 _) (.nil)) (by kernel_rfl) (by simp [zal.d]))),(7,.g (aD 49 46 48 11 14 (ze9 (zaa s act).1 j) [(zbz (zaa s act).1 j).1] zal.d mi7_9 (by simp [zal.d])))] [12,13,41] [(9,vO 13 ((zeu (zaa s act).1 j)++[(j:Int)]).length),(11,vO 14 ((ze9 (zaa s act).1 j)++[(zbz (zaa s act).1 j).1]).length)] [(5,.box (zak s)),(6,.box (zF f)),(7,.box zF0),(8,.box ([cI (zaa s act).1.proc,cI (zaa s act).1.from_,cI (zaa s act).1.to_,cI (zaa s act).1.guard.kind,cPs (zaa s act).1.guard.r.t.parts]++zi (zaa s act).1.guard.r.t.k++[cB (zaa s act).1.guard.r.eq,cFs (zaa s act).1.guard.kids,.d (.sl 5 ((zaa s act).1.moves.map zaf.d))])),(10,.row 3 1 ((ze6 (zaa s act).1 j).map zaj)),(13,.row 3 1 (((zeu (zaa s act).1 j)++[(j:Int)]).map zaj)),(14,.row 30 3 (((ze9 (zaa s act).1 j)++[(zbz (zaa s act).1 j).1]).map zal.d))] h fun a w h=>za8 (za1 (Jf 15 [(0,.j1 j)] [] [(32,vI ((j:Int)+1))] h fun a w h=>za1 ?_));rw [show (((zeu (zaa s act).1 j)++[(j:Int)]):List Int)=(zeu (zaa s act).1 (j+1)) from (by rw [(pre_at (zaa s act).1 j).1,if_pos hc4];first | done | simp)] at h;replace h:=cv (fun z_:List Int=>F.of [(3,vp 5 0),(5,vp 6 0),(6,vp 7 0),(7,vp 8 0),(9,vO 13 (zeu (zaa s act).1 (j+1)).length),(10,vO 10 z_.length),(11,vO 14 ((ze9 (zaa s act).1 j)++[(zbz (zaa s act).1 j).1]).length),(31,vN s.vars.length),(32,vI ((j:Int)+1))] [(5,.box (zak s)),(6,.box (zF f)),(7,.box zF0),(8,.box ([cI (zaa s act).1.proc,cI (zaa s act).1.from_,cI (zaa s act).1.to_,cI (zaa s act).1.guard.kind,cPs (zaa s act).1.guard.r.t.parts]++zi (zaa s act).1.guard.r.t.k++[cB (zaa s act).1.guard.r.eq,cFs (zaa s act).1.guard.kids,.d (.sl 5 ((zaa s act).1.moves.map zaf.d))])),(10,.row 3 1 (z_.map zaj)),(13,.row 3 1 ((zeu (zaa s act).1 (j+1)).map zaj)),(14,.row 30 3 (((ze9 (zaa s act).1 j)++[(zbz (zaa s act).1 j).1]).map zal.d))]) (show ((ze6 (zaa s act).1 j):List Int)=(ze6 (zaa s act).1 (j+1)) from (by rw [(pre_at (zaa s act).1 j).2.2,if_pos hc4];first | done | simp)) h;rw [show (((ze9 (zaa s act).1 j)++[(zbz (zaa s act).1 j).1]):List zal)=(ze9 (zaa s act).1 (j+1)) from (by rw [(pre_at (zaa s act).1 j).2.1,if_pos hc4];first | done | simp)] at h;replace h:=ze0 13 9 [(3,vp 5 0),(5,vp 6 0),(6,vp 7 0),(7,vp 8 0),(9,vO 9 (zeu (zaa s act).1 (j+1)).length),(10,vO 10 (ze6 (zaa s act).1 (j+1)).length),(11,vO 14 (ze9 (zaa s act).1 (j+1)).length),(31,vN s.vars.length),(32,vI ((j:Int)+1))] [(5,.box (zak s)),(6,.box (zF f)),(7,.box zF0),(8,.box ([cI (zaa s act).1.proc,cI (zaa s act).1.from_,cI (zaa s act).1.to_,cI (zaa s act).1.guard.kind,cPs (zaa s act).1.guard.r.t.parts]++zi (zaa s act).1.guard.r.t.k++[cB (zaa s act).1.guard.r.eq,cFs (zaa s act).1.guard.kids,.d (.sl 5 ((zaa s act).1.moves.map zaf.d))])),(10,.row 3 1 ((ze6 (zaa s act).1 (j+1)).map zaj)),(14,.row 30 3 ((ze9 (zaa s act).1 (j+1)).map zal.d)),(9,.row 3 1 ((zeu (zaa s act).1 (j+1)).map zaj))] h;replace h:=ze0 14 11 [(3,vp 5 0),(5,vp 6 0),(6,vp 7 0),(7,vp 8 0),(9,vO 9 (zeu (zaa s act).1 (j+1)).length),(10,vO 10 (ze6 (zaa s act).1 (j+1)).length),(11,vO 11 (ze9 (zaa s act).1 (j+1)).length),(31,vN s.vars.length),(32,vI ((j:Int)+1))] [(5,.box (zak s)),(6,.box (zF f)),(7,.box zF0),(8,.box ([cI (zaa s act).1.proc,cI (zaa s act).1.from_,cI (zaa s act).1.to_,cI (zaa s act).1.guard.kind,cPs (zaa s act).1.guard.r.t.parts]++zi (zaa s act).1.guard.r.t.k++[cB (zaa s act).1.guard.r.eq,cFs (zaa s act).1.guard.kids,.d (.sl 5 ((zaa s act).1.moves.map zaf.d))])),(10,.row 3 1 ((ze6 (zaa s act).1 (j+1)).map zaj)),(9,.row 3 1 ((zeu (zaa s act).1 (j+1)).map zaj)),(11,.row 30 3 ((ze9 (zaa s act).1 (j+1)).map zal.d))] h;refine zag (x:=j) (y:=j+1) h ?_ ?_
   ·have:=dT hc3;show j+1<=s.vars.length;omega
   show s.vars.length - (j+1)<s.vars.length - j;have:=dT hc3;omega
  refine Jm 15 [(2,.g (bD 52 ([(j:Int)].map zaj) [(51,vN j)] tb_0 (.cons (i:=0) (OV.tmp 51 _) (.nil)) (by kernel_rfl) (by simp [zaj]))),(3,.g (aD 53 50 52 10 15 (ze6 (zaa s act).1 j) [(j:Int)] zaj tb_2 (by simp [zaj])))] [12,13,41] [(10,vO 15 ((ze6 (zaa s act).1 j)++[(j:Int)]).length)] [(5,.box (zak s)),(6,.box (zF f)),(7,.box zF0),(8,.box ([cI (zaa s act).1.proc,cI (zaa s act).1.from_,cI (zaa s act).1.to_,cI (zaa s act).1.guard.kind,cPs (zaa s act).1.guard.r.t.parts]++zi (zaa s act).1.guard.r.t.k++[cB (zaa s act).1.guard.r.eq,cFs (zaa s act).1.guard.kids,.d (.sl 5 ((zaa s act).1.moves.map zaf.d))])),(9,.row 3 1 ((zeu (zaa s act).1 j).map zaj)),(11,.row 30 3 ((ze9 (zaa s act).1 j).map zal.d)),(15,.row 3 1 (((ze6 (zaa s act).1 j)++[(j:Int)]).map zaj))] h fun a w h=>za8 (za1 (Jf 16 [(0,.j1 j)] [] [(32,vI ((j:Int)+1))] h fun a w h=>za1 ?_));replace h:=cv (fun z_:List Int=>F.of [(3,vp 5 0),(5,vp 6 0),(6,vp 7 0),(7,vp 8 0),(9,vO 9 z_.length),(10,vO 15 ((ze6 (zaa s act).1 j)++[(j:Int)]).length),(11,vO 11 (ze9 (zaa s act).1 j).length),(31,vN s.vars.length),(32,vI ((j:Int)+1))] [(5,.box (zak s)),(6,.box (zF f)),(7,.box zF0),(8,.box ([cI (zaa s act).1.proc,cI (zaa s act).1.from_,cI (zaa s act).1.to_,cI (zaa s act).1.guard.kind,cPs (zaa s act).1.guard.r.t.parts]++zi (zaa s act).1.guard.r.t.k++[cB (zaa s act).1.guard.r.eq,cFs (zaa s act).1.guard.kids,.d (.sl 5 ((zaa s act).1.moves.map zaf.d))])),(9,.row 3 1 (z_.map zaj)),(11,.row 30 3 ((ze9 (zaa s act).1 j).map zal.d)),(15,.row 3 1 (((ze6 (zaa s act).1 j)++[(j:Int)]).map zaj))]) (show ((zeu (zaa s act).1 j):List Int)=(zeu (zaa s act).1 (j+1)) from (by rw [(pre_at (zaa s act).1 j).1,if_neg (by rw [hc5];exact Bool.noConfusion)];first | done | simp)) h;rw [show (((ze6 (zaa s act).1 j)++[(j:Int)]):List Int)=(ze6 (zaa s act).1 (j+1)) from (by rw [(pre_at (zaa s act).1 j).2.2,if_neg (by rw [hc5];exact Bool.noConfusion)];first | done | simp)] at h;replace h:=cv (fun z_:List zal=>F.of [(3,vp 5 0),(5,vp 6 0),(6,vp 7 0),(7,vp 8 0),(9,vO 9 (zeu (zaa s act).1 (j+1)).length),(10,vO 15 (ze6 (zaa s act).1 (j+1)).length),(11,vO 11 z_.length),(31,vN s.vars.length),(32,vI ((j:Int)+1))] [(5,.box (zak s)),(6,.box (zF f)),(7,.box zF0),(8,.box ([cI (zaa s act).1.proc,cI (zaa s act).1.from_,cI (zaa s act).1.to_,cI (zaa s act).1.guard.kind,cPs (zaa s act).1.guard.r.t.parts]++zi (zaa s act).1.guard.r.t.k++[cB (zaa s act).1.guard.r.eq,cFs (zaa s act).1.guard.kids,.d (.sl 5 ((zaa s act).1.moves.map zaf.d))])),(9,.row 3 1 ((zeu (zaa s act).1 (j+1)).map zaj)),(11,.row 30 3 (z_.map zal.d)),(15,.row 3 1 ((ze6 (zaa s act).1 (j+1)).map zaj))]) (show ((ze9 (zaa s act).1 j):List zal)=(ze9 (zaa s act).1 (j+1)) from (by rw [(pre_at (zaa s act).1 j).2.1,if_neg (by rw [hc5];exact Bool.noConfusion)];first | done | simp)) h;replace h:=ze0 15 10 [(3,vp 5 0),(5,vp 6 0),(6,vp 7 0),(7,vp 8 0),(9,vO 9 (zeu (zaa s act).1 (j+1)).length),(10,vO 10 (ze6 (zaa s act).1 (j+1)).length),(11,vO 11 (ze9 (zaa s act).1 (j+1)).length),(31,vN s.vars.length),(32,vI ((j:Int)+1))] [(5,.box (zak s)),(6,.box (zF f)),(7,.box zF0),(8,.box ([cI (zaa s act).1.proc,cI (zaa s act).1.from_,cI (zaa s act).1.to_,cI (zaa s act).1.guard.kind,cPs (zaa s act).1.guard.r.t.parts]++zi (zaa s act).1.guard.r.t.k++[cB (zaa s act).1.guard.r.eq,cFs (zaa s act).1.guard.kids,.d (.sl 5 ((zaa s act).1.moves.map zaf.d))])),(9,.row 3 1 ((zeu (zaa s act).1 (j+1)).map zaj)),(11,.row 30 3 ((ze9 (zaa s act).1 (j+1)).map zal.d)),(10,.row 3 1 ((ze6 (zaa s act).1 (j+1)).map zaj))] h;refine zag (x:=j) (y:=j+1) h ?_ ?_
  ·have:=dT hc3;show j+1<=s.vars.length;omega
  show s.vars.length - (j+1)<s.vars.length - j;have:=dT hc3;omega
 refine wp_exit (za9 (za9 (za5 (za1 ?_))));replace h:=cv (fun z_:List Int=>F.of [(3,vp 5 0),(5,vp 6 0),(6,vp 7 0),(7,vp 8 0),(9,vO 9 z_.length),(10,vO 10 (ze6 (zaa s act).1 j).length),(11,vO 11 (ze9 (zaa s act).1 j).length),(31,vN s.vars.length),(32,vN j),(33,vb (decide ((j:Int)<(s.vars.length:Int))))] [(5,.box (zak s)),(6,.box (zF f)),(7,.box zF0),(8,.box ([cI (zaa s act).1.proc,cI (zaa s act).1.from_,cI (zaa s act).1.to_,cI (zaa s act).1.guard.kind,cPs (zaa s act).1.guard.r.t.parts]++zi (zaa s act).1.guard.r.t.k++[cB (zaa s act).1.guard.r.eq,cFs (zaa s act).1.guard.kids,.d (.sl 5 ((zaa s act).1.moves.map zaf.d))])),(9,.row 3 1 (z_.map zaj)),(10,.row 3 1 ((ze6 (zaa s act).1 j).map zaj)),(11,.row 30 3 ((ze9 (zaa s act).1 j).map zal.d))]) (show ((zeu (zaa s act).1 j):List Int)=(zeu (zaa s act).1 s.vars.length) from (by rw [show j=s.vars.length by have:=dF hc6;omega])) h;replace h:=zht 9 1 3 ((zeu (zaa s act).1 s.vars.length).map zaj) [(3,vp 5 0),(5,vp 6 0),(6,vp 7 0),(7,vp 8 0),(9,(vIs (zeu (zaa s act).1 s.vars.length))),(10,vO 10 (ze6 (zaa s act).1 j).length),(11,vO 11 (ze9 (zaa s act).1 j).length),(31,vN s.vars.length),(32,vN j),(33,vb (decide ((j:Int)<(s.vars.length:Int))))] [(5,.box (zak s)),(6,.box (zF f)),(7,.box zF0),(8,.box ([cI (zaa s act).1.proc,cI (zaa s act).1.from_,cI (zaa s act).1.to_,cI (zaa s act).1.guard.kind,cPs (zaa s act).1.guard.r.t.parts]++zi (zaa s act).1.guard.r.t.k++[cB (zaa s act).1.guard.r.eq,cFs (zaa s act).1.guard.kids,.d (.sl 5 ((zaa s act).1.moves.map zaf.d))])),(10,.row 3 1 ((ze6 (zaa s act).1 j).map zaj)),(11,.row 30 3 ((ze9 (zaa s act).1 j).map zal.d))] h rfl (show zbx _ [(zeu (zaa s act).1 s.vars.length).length] from ⟨by first | exact (List.length_map _).symm | (simp;done) | (simp;omega),trivial⟩) trivial;replace h:=cv (fun z_:List Int=>F.of [(3,vp 5 0),(5,vp 6 0),(6,vp 7 0),(7,vp 8 0),(9,(vIs (zeu (zaa s act).1 s.vars.length))),(10,vO 10 z_.length),(11,vO 11 (ze9 (zaa s act).1 j).length),(31,vN s.vars.length),(32,vN j),(33,vb (decide ((j:Int)<(s.vars.length:Int))))] [(5,.box (zak s)),(6,.box (zF f)),(7,.box zF0),(8,.box ([cI (zaa s act).1.proc,cI (zaa s act).1.from_,cI (zaa s act).1.to_,cI (zaa s act).1.guard.kind,cPs (zaa s act).1.guard.r.t.parts]++zi (zaa s act).1.guard.r.t.k++[cB (zaa s act).1.guard.r.eq,cFs (zaa s act).1.guard.kids,.d (.sl 5 ((zaa s act).1.moves.map zaf.d))])),(10,.row 3 1 (z_.map zaj)),(11,.row 30 3 ((ze9 (zaa s act).1 j).map zal.d))]) (show ((ze6 (zaa s act).1 j):List Int)=(ze6 (zaa s act).1 s.vars.length) from (by rw [show j=s.vars.length by have:=dF hc6;omega])) h;replace h:=zht 10 1 3 ((ze6 (zaa s act).1 s.vars.length).map zaj) [(3,vp 5 0),(5,vp 6 0),(6,vp 7 0),(7,vp 8 0),(9,(vIs (zeu (zaa s act).1 s.vars.length))),(10,(vIs (ze6 (zaa s act).1 s.vars.length))),(11,vO 11 (ze9 (zaa s act).1 j).length),(31,vN s.vars.length),(32,vN j),(33,vb (decide ((j:Int)<(s.vars.length:Int))))] [(5,.box (zak s)),(6,.box (zF f)),(7,.box zF0),(8,.box ([cI (zaa s act).1.proc,cI (zaa s act).1.from_,cI (zaa s act).1.to_,cI (zaa s act).1.guard.kind,cPs (zaa s act).1.guard.r.t.parts]++zi (zaa s act).1.guard.r.t.k++[cB (zaa s act).1.guard.r.eq,cFs (zaa s act).1.guard.kids,.d (.sl 5 ((zaa s act).1.moves.map zaf.d))])),(11,.row 30 3 ((ze9 (zaa s act).1 j).map zal.d))] h rfl (show zbx _ [(ze6 (zaa s act).1 s.vars.length).length] from ⟨by first | exact (List.length_map _).symm | (simp;done) | (simp;omega),trivial⟩) trivial;replace h:=cv (fun z_:List zal=>F.of [(3,vp 5 0),(5,vp 6 0),(6,vp 7 0),(7,vp 8 0),(9,(vIs (zeu (zaa s act).1 s.vars.length))),(10,(vIs (ze6 (zaa s act).1 s.vars.length))),(11,vO 11 z_.length),(31,vN s.vars.length),(32,vN j),(33,vb (decide ((j:Int)<(s.vars.length:Int))))] [(5,.box (zak s)),(6,.box (zF f)),(7,.box zF0),(8,.box ([cI (zaa s act).1.proc,cI (zaa s act).1.from_,cI (zaa s act).1.to_,cI (zaa s act).1.guard.kind,cPs (zaa s act).1.guard.r.t.parts]++zi (zaa s act).1.guard.r.t.k++[cB (zaa s act).1.guard.r.eq,cFs (zaa s act).1.guard.kids,.d (.sl 5 ((zaa s act).1.moves.map zaf.d))])),(11,.row 30 3 (z_.map zal.d))]) (show ((ze9 (zaa s act).1 j):List zal)=(ze9 (zaa s act).1 s.vars.length) from (by rw [show j=s.vars.length by have:=dF hc6;omega])) h;replace h:=zht 11 3 30 ((ze9 (zaa s act).1 s.vars.length).map zal.d) [(3,vp 5 0),(5,vp 6 0),(6,vp 7 0),(7,vp 8 0),(9,(vIs (zeu (zaa s act).1 s.vars.length))),(10,(vIs (ze6 (zaa s act).1 s.vars.length))),(11,vS 3 ((ze9 (zaa s act).1 s.vars.length).map zal.d)),(31,vN s.vars.length),(32,vN j),(33,vb (decide ((j:Int)<(s.vars.length:Int))))] [(5,.box (zak s)),(6,.box (zF f)),(7,.box zF0),(8,.box ([cI (zaa s act).1.proc,cI (zaa s act).1.from_,cI (zaa s act).1.to_,cI (zaa s act).1.guard.kind,cPs (zaa s act).1.guard.r.t.parts]++zi (zaa s act).1.guard.r.t.k++[cB (zaa s act).1.guard.r.eq,cFs (zaa s act).1.guard.kids,.d (.sl 5 ((zaa s act).1.moves.map zaf.d))]))] h rfl (show zbx _ [(ze9 (zaa s act).1 s.vars.length).length] from ⟨by first | exact (List.length_map _).symm | (simp;done) | (simp;omega),trivial⟩) trivial;refine Jq 16 [(2,.call (Lcan s (zaa s act).1 hs (zbq hs _) (zgg hw _)) md3_9),(4,.call (LFlat f (za0.okB_mono (by decide) (by decide) _ hf) (by omega)) li9_6),(6,.call (Lforget (ze6 (zaa s act).1 s.vars.length) (by omega) (za0.flat f false) (za0.okA_mono (by decide) (by decide) _ (flat_okA2 (by decide) (Nat.le_refl _) f hf false)) (Nat.le_trans (ziw f false) (by omega))) me4_8),(9,.call (LPutAllF (za0.forg (ze6 (zaa s act).1 s.vars.length) (za0.flat f false)) (zeu (zaa s act).1 s.vars.length) (ze9 (zaa s act).1 s.vars.length) (za0.okB_mono (by decide) (by decide) _ hpt) hcl (preB_ok (zbq hs act) _) (by omega) (by omega)) mi7_13),(10,.g (Op.buildD (d:=65) (len:=2) (rows:=[(zhn s (zaa s act).1),(za0.each (zcc (zeu (zaa s act).1 s.vars.length) (ze9 (zaa s act).1 s.vars.length)) (za0.forg (ze6 (zaa s act).1 s.vars.length) (za0.flat f false)))].map za0.d) (rs:=[(57,(vF (zhn s (zaa s act).1))),(64,(vF (za0.each (zcc (zeu (zaa s act).1 s.vars.length) (ze9 (zaa s act).1 s.vars.length)) (za0.forg (ze6 (zaa s act).1 s.vars.length) (za0.flat f false)))))]) zkf (.cons (i:=0) (OV.tmp 57 _) (.cons (i:=1) (OV.tmp 64 _) (.nil))) (by simp only [List.map_cons,List.map_nil,List.flatten_cons,List.flatten_nil,List.append_nil,za0.d_eq];kernel_rfl) rfl (by simp [za0.d_len]) (by decide) (by decide))),(11,.call (LAll [zhn s (zaa s act).1,(za0.each (zcc (zeu (zaa s act).1 s.vars.length) (ze9 (zaa s act).1 s.vars.length)) (za0.forg (ze6 (zaa s act).1 s.vars.length) (za0.flat f false)))] (fun g hg=>za0.okB_mono (by decide) (by decide) _ (hsl g hg)) (show List.length _<=1000000 from by simp)) zjg)] [(6,vp 7 0)] [(7,.box (zF (zgd [zhn s (zaa s act).1,(za0.each (zcc (zeu (zaa s act).1 s.vars.length) (ze9 (zaa s act).1 s.vars.length)) (za0.forg (ze6 (zaa s act).1 s.vars.length) (za0.flat f false)))])))] h fun a w h=>qV (rA 7 (zF (zgd [zhn s (zaa s act).1,(za0.each (zcc (zeu (zaa s act).1 s.vars.length) (ze9 (zaa s act).1 s.vars.length)) (za0.forg (ze6 (zaa s act).1 s.vars.length) (za0.flat f false)))])) h zcs rfl ?_);rw [if_pos (show ((zaa s act).2)=true from by simpa using hc2)];try rfl
theorem mj9_0:za4 Tryz.prog 30:=za4.mk' (by kernel_rfl)
theorem mj9_3:za4 Tryz.prog 26:=za4.mk' (by kernel_rfl)
theorem mj9_5:za4 Tryz.prog 13:=za4.mk' (by kernel_rfl)
theorem mj9_6:za4 Tryz.prog 11:=za4.mk' (by kernel_rfl)
theorem zjv:za4 Tryz.prog 33:=za4.mk' (by kernel_rfl)
theorem zju:za4 Tryz.prog 32:=za4.mk' (by kernel_rfl)
theorem mj9_10:za4 Tryz.prog 20:=za4.mk' (by kernel_rfl)
theorem zje:za4 Tryz.prog 22:=za4.mk' (by kernel_rfl)
theorem mj9_13:za4 Tryz.prog 18:=za4.mk' (by kernel_rfl)
theorem at_ok9 {f:za0} (h:f.okB 40 200) (s:zao) (k:Nat):(atF s f k).okB 40 203:=zka (t:=zcd (offZ s k)) (fun r hr=>by
 have:=movZ_tok (hr.plain (by decide)) (by decide) (zah (offZ s k))
 exact this) f h
theorem rngK_ok {s:zao} (hs:zbc 3 s) (k:Nat):(atF s (zcq s) k).okB 40 203:=at_ok9 (za0.okB_mono (by decide) (by decide) _ (rngF_ok hs)) s k
theorem startK_ok {s:zao} (hs:zbc 3 s) (hw:SysW s) (k:Nat):(atF s (zgd [s.init,zcq s]) k).okB 40 203:=at_ok9 (za0.okB_mono (Nat.le_refl _) (by decide) _ (zet (n:=40) (L:=60) (by decide) (fun g hg=>by
 rcases List.mem_cons.1 hg with rfl | hg
 ·exact za0.okB_mono (by decide) (by decide) _ (zg0 hs.init (by have:=hw.1;omega))
 ·rw [List.mem_singleton.1 hg];exact za0.okB_mono (by decide) (by decide) _ (rngF_ok hs)) (show List.length _<=1000000 from by simp))) s k
theorem canK_ok {s:zao} (hs:zbc 3 s) (hw:SysW s) (act:Int) (k:Nat):(canK s act k).okB 40 203:=by
 unfold canK;split
 ·exact at_ok9 (za0.okB_mono (by decide) (by decide) _ (zj5 hs (zbq hs act) (zgg hw act))) s k
 ·exact zil _ _ _
theorem zdv {s:zao} (hs:zbc 3 s) (hw:SysW s) (locs:List Int) (k:Nat):(atF s (zbv s locs) k).okB 40 203:=at_ok9 (za0.okB_mono (by decide) (by decide) _ (stkF_ok hs hw locs)) s k
theorem stepK_ok {s:zao} (hs:zbc 3 s) (hw:SysW s) (locs:List Int) (act:Int) (k:Nat):(zh7 s locs act k).okB 40 203:=by
 unfold zh7
 have hl:=stpL_len s
 have hv:=hs.vars
 split
 ·exact at_ok9 (za0.okB_mono (Nat.le_refl _) (by decide) _ (zet (n:=40) (L:=60) (by decide) (stpL_ok (za0.okB_mono (by decide) (by decide) _ (stkF_ok hs hw locs)) (zbq hs (-1))) (Nat.le_trans (hl (zbv s locs) (zad s locs (-1)).1) (by omega)))) s k
 ·split
  ·refine at_ok9 (za0.okB_mono (Nat.le_refl _) (by decide) _ (zet (n:=40) (L:=103) (by decide) (fun g hg=>?_) ?_)) s k
   ·rcases List.mem_append.1 hg with hg | hg
    ·exact za0.okB_mono (by decide) (by decide) _ (stpL_ok (za0.okB_mono (by decide) (by decide) _ (zg0 (zbq hs act).guard (Nat.le_trans (zgg hw act) (by decide)))) (zbq hs act) g hg)
    ·rw [List.mem_singleton.1 hg];exact rng1_ok hs
   ·rw [List.length_append,List.length_singleton];have:=hl (zad s locs act).1.guard (zad s locs act).1;omega
  ·exact zil _ _ _
theorem preK_ok {s:zao} (hs:zbc 3 s) (hw:SysW s) (act:Int) {f:za0} (hf:f.okB 20 3) (hfw:f.wid<=1000):(preF s act f).okB 900 61:=by
 unfold preF;split
 ·exact za0.okB_mono (by decide) (by decide) _ (zet (n:=20) (L:=3) (by decide) (fun g hg=>by rw [List.mem_singleton.1 hg];exact hf) (show List.length _<=1000000 from by simp))
 ·split
  ·refine zet (n:=900) (L:=60) (by decide) (fun g hg=>?_) (show List.length _<=1000000 from by simp)
   rcases List.mem_cons.1 hg with rfl | hg
   ·exact za0.okB_mono (by decide) (by decide) _ (zj5 hs (zbq hs act) (zgg hw act))
   ·rw [List.mem_singleton.1 hg];exact za0.okB_mono (by decide) (by decide) _ (put_ok (preT_ok hs hf hfw act) (preB_ok (zbq hs act) _))
  ·exact zil _ _ _
theorem LStep (s:zao) (locs:List Int) (act:Int) (k:Nat) (hs:zbc 3 s) (hw:SysW s) (hl:locs.length<=9223372036854775807) (hk:k<=4096):Fn Tryz.prog 13 [] [vG (zak s),(vIs locs),vi .i64 act,vi .i64 (k:Int)] (vF (zh7 s locs act k)) []:=by
 by_cases ha:act=-1
 ·subst ha;rw [show zh7 s locs (-1) k=_ from if_pos rfl];exact LStepM s locs k hs hw hl hk
 ·cases hb:(zad s locs act).2 with
  | true=>rw [show zh7 s locs act k=_ from (if_neg ha).trans (if_pos hb)];exact LStepS s locs act k ha hb hs hw hl hk
  | false=>rw [show zh7 s locs act k=_ from (if_neg ha).trans (if_neg (by rw [hb];exact Bool.noConfusion))];exact LStepN s locs act k ha hb hs hl
theorem LPre (s:zao) (act:Int) (f:za0) (hs:zbc 3 s) (hw:SysW s) (hf:f.okB 20 3) (hfw:f.wid<=1000):Fn Tryz.prog 26 [] [vG (zak s),vi .i64 act,(vF f)] (vF (preF s act f)) []:=by
 by_cases ha:act=-1
 ·subst ha;rw [show preF s (-1) f=_ from if_pos rfl];exact LPreM s f hf hfw
 ·rw [show preF s act f=_ from if_neg ha];exact LPreS s act f ha hs hw hf hfw
theorem LCanK (s:zao) (act:Int) (k:Nat) (hs:zbc 3 s) (hw:SysW s) (hk:k<=4096):Fn Tryz.prog 20 [] [vG (zak s),vi .i64 act,vi .i64 (k:Int)] (vF (canK s act k)) []:=LCan s act k hs hw hk
def zdz:za0:=⟨2,⟨⟨[⟨0,ZI.of 1⟩],ZI.of (-3)⟩,false⟩,[]⟩
theorem ev0:za0.holds ([2].map ZI.of) (preF zc5 0 zdz)=true:=by kernel_rfl
theorem ev1:za0.holds ([1].map ZI.of) (preF zc5 0 zdz)=false:=by kernel_rfl
theorem ev2:za0.holds ([3].map ZI.of) (preF zc5 0 zdz)=false:=by kernel_rfl
theorem ev3:za0.holds ([1,2].map ZI.of) (zh7 zc5 [0] 0 0)=true:=by kernel_rfl
theorem ev4:za0.holds ([1,1].map ZI.of) (zh7 zc5 [0] 0 0)=false:=by kernel_rfl
theorem ev5:za0.holds ([3,4].map ZI.of) (zh7 zc5 [0] 0 0)=false:=by kernel_rfl
theorem ev6:za0.holds ([2].map ZI.of) (canK zc5 0 0)=true:=by kernel_rfl
theorem ev7:za0.holds ([3].map ZI.of) (canK zc5 0 0)=false:=by kernel_rfl
theorem ev8:za0.holds ([0].map ZI.of) (atF zc5 (zbv zc5 [1]) 0)=true:=by kernel_rfl
theorem ev9:za0.holds ([0].map ZI.of) (atF zc5 (zbv zc5 [0]) 0)=false:=by kernel_rfl
theorem ev10:za0.holds ([9,3].map ZI.of) (atF zc5 (zcq zc5) 1)=true:=by kernel_rfl
theorem ev11:za0.holds ([0].map ZI.of) (atF zc5 (zgd [zc5.init,zcq zc5]) 0)=true:=by kernel_rfl
theorem evp1:(plcA zc5 [0] 0).1=[1]:=by kernel_rfl
theorem evp2:(plcA zc5 [0] 0).2=true:=by kernel_rfl
theorem evp3:(plcA zc5 [1] 0).2=false:=by kernel_rfl
theorem evp4:(plcA zc5 [1] 0).1=[]:=by kernel_rfl
theorem vokE (ns:List Int) (hl:ns.length<=2000) (h:∀ z ∈ ns,-9223372036854775808<=z/\z<=9223372036854775807):VOk 3 (ns.map ZI.of):=⟨by rw [List.length_map];exact hl,fun y hy=>by
 obtain ⟨z,hz,rfl⟩:=List.mem_map.1 hy
 have:=h z hz
 exact ⟨ZI.lb_of _,Nat.le_trans (ZI.len_of (L:=2) (by have:=pw2;omega)) (by decide)⟩⟩
theorem zdk:SysW zc5:=⟨Nat.le_of_ble_eq_true (by kernel_rfl),fun c hc=>by rw [mem1 hc];exact Nat.le_of_ble_eq_true (by kernel_rfl)⟩
theorem three_few:ziz zdz 20 3=true:=by kernel_rfl
theorem three_lb:zdz.lb:=(za0.lb_eq _).2 ⟨⟨⟨ZI.lb_of _,fun p hp=>by rw [mem1 hp];exact ZI.lb_of 1⟩,Nat.zero_le _⟩,fun g hg=>(by cases hg)⟩
theorem zex:zdz.okB 20 3/\zdz.wid<=60:=fewF_okB three_few three_lb
theorem LAlive :Fn Tryz.prog 7 [] [] (vb true) []:=by
 refine Fn.body Tryz.func7 rfl 137 rfl fun w H B a h=>Jq 0 [] [(0,vb false)] [] h fun a w h=>Jd 0 [(0,.call (SSys) mj9_0)] [] [(1,vp 0 0)] [(0,.box (zak zc5))] h fun a w h=>Jd 1 [(0,.call (SROf 1 ⟨by decide,by decide⟩) tc_0),(2,.g (bD 12 ([(za3.mk 0 (ZI.of 1))].map za3.d) [(11,vG ([cI 0]++zi (ZI.of 1)))] tb_9 (.cons (i:=0) (OV.tmp 11 _) (.nil)) (by kernel_rfl) (by simp [za3.d]))),(3,.call (SROf (-3) ⟨by decide,by decide⟩) tc_0)] [] [(2,vp 1 0)] [(0,.box (zak zc5)),(1,.box ([cI 2,cPs [(za3.mk 0 (ZI.of 1))]]++zi (ZI.of (-3))++[cB false,.d (.raw zae)]))] h fun a w h=>Jd 2 [(2,.call (Fn.argw (LPre zc5 0 zdz zbr zdk zex.1 (Nat.le_trans zex.2 (by decide))) (.cons _ _ _ _ (.refl _) (.cons _ _ _ _ (.refl _) (.cons _ _ _ _ (.agg _ _ (.same _ _ _ (.same _ _ _ (.same _ _ _ (.same _ _ _ (.same _ _ _ (.d _ _ _ _ (.nil _) .nil))))))) .nil)))) mj9_3)] [2] [(3,vp 2 0)] [(0,.box (zak zc5)),(2,.box (zF (preF zc5 0 zdz)))] h fun a w h=>Jd 3 [(1,.g (Op.buildD (d:=21) (len:=1) (rows:=[0].map zaj) (rs:=[]) tb_0 (.cons (i:=0) (OV.const (.int .i64 0) rfl) (.nil)) (by kernel_rfl) rfl (by simp [zaj]) (by decide) (by decide))),(2,.call (LStep zc5 [0] 0 0 zbr zdk (by decide) (by decide)) mj9_5)] [] [(4,vp 3 0)] [(0,.box (zak zc5)),(2,.box (zF (preF zc5 0 zdz))),(3,.box (zF (zh7 zc5 [0] 0 0)))] h fun a w h=>Je 4 [(1,.g (Op.buildD (d:=25) (len:=1) (rows:=[0].map zaj) (rs:=[]) tb_0 (.cons (i:=0) (OV.const (.int .i64 0) rfl) (.nil)) (by kernel_rfl) rfl (by simp [zaj]) (by decide) (by decide))),(2,.call (Fn.cast (LPlaces zc5 [0] 0 zbr (by decide)) (show (.tup [.c (cIs (plcA zc5 [0] 0).1),.c (cB (plcA zc5 [0] 0).2)]:V) = .tup [.c (cIs [1]),.c (cB true)] from by rw [evp1,evp2])) mj9_6)] [] [(5,(vIs [1])),(6,vb true)] h fun a w h=>Je 4 [(1,.g (Op.buildD (d:=31) (len:=1) (rows:=[1].map zaj) (rs:=[]) tb_0 (.cons (i:=0) (OV.const (.int .i64 1) rfl) (.nil)) (by kernel_rfl) rfl (by simp [zaj]) (by decide) (by decide))),(2,.call (Fn.cast (LPlaces zc5 [1] 0 zbr (by decide)) (show (.tup [.c (cIs (plcA zc5 [1] 0).1),.c (cB (plcA zc5 [1] 0).2)]:V) = .tup [.c (cIs []),.c (cB false)] from by rw [evp4,evp3])) mj9_6)] [] [(8,vb false)] h fun a w h=>?_
 refine Jq 4 [(1,.g (Op.buildD (d:=36) (len:=1) (rows:=[2].map zaj) (rs:=[]) to_1 (.cons (i:=0) (OV.const (.int .i64 2) rfl) (.nil)) (by kernel_rfl) rfl (by simp [zaj]) (by decide) (by decide))),(2,.call (zjy [2] (by decide) (by decide)) zjv),(3,.call (Fn.cast (zjz (preF zc5 0 zdz) ([2].map ZI.of) (M:=3) (by decide) (vokE _ (by decide) (by decide)) (za0.okB_mono (by decide) (by decide) _ (preK_ok zbr zdk 0 zex.1 (Nat.le_trans zex.2 (by decide))))) (show (vb (za0.holds ([2].map ZI.of) (preF zc5 0 zdz)):V)=vb true from by rw [ev0])) zju),(6,.g (Op.buildD (d:=41) (len:=1) (rows:=[1].map zaj) (rs:=[]) to_1 (.cons (i:=0) (OV.const (.int .i64 1) rfl) (.nil)) (by kernel_rfl) rfl (by simp [zaj]) (by decide) (by decide))),(7,.call (zjy [1] (by decide) (by decide)) zjv),(8,.call (Fn.cast (zjz (preF zc5 0 zdz) ([1].map ZI.of) (M:=3) (by decide) (vokE _ (by decide) (by decide)) (za0.okB_mono (by decide) (by decide) _ (preK_ok zbr zdk 0 zex.1 (Nat.le_trans zex.2 (by decide))))) (show (vb (za0.holds ([1].map ZI.of) (preF zc5 0 zdz)):V)=vb false from by rw [ev1])) zju),(13,.g (Op.buildD (d:=48) (len:=1) (rows:=[3].map zaj) (rs:=[]) to_1 (.cons (i:=0) (OV.const (.int .i64 3) rfl) (.nil)) (by kernel_rfl) rfl (by simp [zaj]) (by decide) (by decide))),(14,.call (zjy [3] (by decide) (by decide)) zjv),(15,.call (Fn.cast (zjz (preF zc5 0 zdz) ([3].map ZI.of) (M:=3) (by decide) (vokE _ (by decide) (by decide)) (za0.okB_mono (by decide) (by decide) _ (preK_ok zbr zdk 0 zex.1 (Nat.le_trans zex.2 (by decide))))) (show (vb (za0.holds ([3].map ZI.of) (preF zc5 0 zdz)):V)=vb false from by rw [ev2])) zju),(20,.g (Op.buildD (d:=55) (len:=2) (rows:=[1,2].map zaj) (rs:=[]) to_1 (.cons (i:=0) (OV.const (.int .i64 1) rfl) (.cons (i:=1) (OV.const (.int .i64 2) rfl) (.nil))) (by kernel_rfl) rfl (by simp [zaj]) (by decide) (by decide))),(21,.call (zjy [1,2] (by decide) (by decide)) zjv),(22,.call (Fn.cast (zjz (zh7 zc5 [0] 0 0) ([1,2].map ZI.of) (M:=3) (by decide) (vokE _ (by decide) (by decide)) (za0.okB_mono (by decide) (by decide) _ (stepK_ok zbr zdk [0] 0 0))) (show (vb (za0.holds ([1,2].map ZI.of) (zh7 zc5 [0] 0 0)):V)=vb true from by rw [ev3])) zju),(26,.g (Op.buildD (d:=61) (len:=2) (rows:=[1,1].map zaj) (rs:=[]) to_1 (.cons (i:=0) (OV.const (.int .i64 1) rfl) (.cons (i:=1) (OV.const (.int .i64 1) rfl) (.nil))) (by kernel_rfl) rfl (by simp [zaj]) (by decide) (by decide))),(27,.call (zjy [1,1] (by decide) (by decide)) zjv),(28,.call (Fn.cast (zjz (zh7 zc5 [0] 0 0) ([1,1].map ZI.of) (M:=3) (by decide) (vokE _ (by decide) (by decide)) (za0.okB_mono (by decide) (by decide) _ (stepK_ok zbr zdk [0] 0 0))) (show (vb (za0.holds ([1,1].map ZI.of) (zh7 zc5 [0] 0 0)):V)=vb false from by rw [ev4])) zju),(33,.g (Op.buildD (d:=68) (len:=2) (rows:=[3,4].map zaj) (rs:=[]) to_1 (.cons (i:=0) (OV.const (.int .i64 3) rfl) (.cons (i:=1) (OV.const (.int .i64 4) rfl) (.nil))) (by kernel_rfl) rfl (by simp [zaj]) (by decide) (by decide))),(34,.call (zjy [3,4] (by decide) (by decide)) zjv),(35,.call (Fn.cast (zjz (zh7 zc5 [0] 0 0) ([3,4].map ZI.of) (M:=3) (by decide) (vokE _ (by decide) (by decide)) (za0.okB_mono (by decide) (by decide) _ (stepK_ok zbr zdk [0] 0 0))) (show (vb (za0.holds ([3,4].map ZI.of) (zh7 zc5 [0] 0 0)):V)=vb false from by rw [ev5])) zju),(40,.call (LCanK zc5 0 0 zbr zdk (by decide)) mj9_10),(41,.g (Op.buildD (d:=76) (len:=1) (rows:=[2].map zaj) (rs:=[]) to_1 (.cons (i:=0) (OV.const (.int .i64 2) rfl) (.nil)) (by kernel_rfl) rfl (by simp [zaj]) (by decide) (by decide))),(42,.call (zjy [2] (by decide) (by decide)) zjv),(43,.call (Fn.cast (zjz (canK zc5 0 0) ([2].map ZI.of) (M:=3) (by decide) (vokE _ (by decide) (by decide)) (za0.okB_mono (by decide) (by decide) _ (canK_ok zbr zdk 0 0))) (show (vb (za0.holds ([2].map ZI.of) (canK zc5 0 0)):V)=vb true from by rw [ev6])) zju),(47,.call (LCanK zc5 0 0 zbr zdk (by decide)) mj9_10),(48,.g (Op.buildD (d:=83) (len:=1) (rows:=[3].map zaj) (rs:=[]) to_1 (.cons (i:=0) (OV.const (.int .i64 3) rfl) (.nil)) (by kernel_rfl) rfl (by simp [zaj]) (by decide) (by decide))),(49,.call (zjy [3] (by decide) (by decide)) zjv),(50,.call (Fn.cast (zjz (canK zc5 0 0) ([3].map ZI.of) (M:=3) (by decide) (vokE _ (by decide) (by decide)) (za0.okB_mono (by decide) (by decide) _ (canK_ok zbr zdk 0 0))) (show (vb (za0.holds ([3].map ZI.of) (canK zc5 0 0)):V)=vb false from by rw [ev7])) zju),(55,.g (Op.buildD (d:=90) (len:=1) (rows:=[1].map zaj) (rs:=[]) tb_0 (.cons (i:=0) (OV.const (.int .i64 1) rfl) (.nil)) (by kernel_rfl) rfl (by simp [zaj]) (by decide) (by decide))),(56,.call (zjp zc5 [1] 0 zbr zdk (by decide) (by decide)) zje),(57,.g (Op.buildD (d:=92) (len:=1) (rows:=[0].map zaj) (rs:=[]) to_1 (.cons (i:=0) (OV.const (.int .i64 0) rfl) (.nil)) (by kernel_rfl) rfl (by simp [zaj]) (by decide) (by decide))),(58,.call (zjy [0] (by decide) (by decide)) zjv),(59,.call (Fn.cast (zjz (atF zc5 (zbv zc5 [1]) 0) ([0].map ZI.of) (M:=3) (by decide) (vokE _ (by decide) (by decide)) (za0.okB_mono (by decide) (by decide) _ (zdv zbr zdk [1] 0))) (show (vb (za0.holds ([0].map ZI.of) (atF zc5 (zbv zc5 [1]) 0)):V)=vb true from by rw [ev8])) zju),(63,.g (Op.buildD (d:=98) (len:=1) (rows:=[0].map zaj) (rs:=[]) tb_0 (.cons (i:=0) (OV.const (.int .i64 0) rfl) (.nil)) (by kernel_rfl) rfl (by simp [zaj]) (by decide) (by decide))),(64,.call (zjp zc5 [0] 0 zbr zdk (by decide) (by decide)) zje),(65,.g (Op.buildD (d:=100) (len:=1) (rows:=[0].map zaj) (rs:=[]) to_1 (.cons (i:=0) (OV.const (.int .i64 0) rfl) (.nil)) (by kernel_rfl) rfl (by simp [zaj]) (by decide) (by decide))),(66,.call (zjy [0] (by decide) (by decide)) zjv),(67,.call (Fn.cast (zjz (atF zc5 (zbv zc5 [0]) 0) ([0].map ZI.of) (M:=3) (by decide) (vokE _ (by decide) (by decide)) (za0.okB_mono (by decide) (by decide) _ (zdv zbr zdk [0] 0))) (show (vb (za0.holds ([0].map ZI.of) (atF zc5 (zbv zc5 [0]) 0)):V)=vb false from by rw [ev9])) zju),(72,.call (LRange zc5 1 zbr (by decide)) mg6_13),(73,.g (Op.buildD (d:=108) (len:=2) (rows:=[9,3].map zaj) (rs:=[]) to_1 (.cons (i:=0) (OV.const (.int .i64 9) rfl) (.cons (i:=1) (OV.const (.int .i64 3) rfl) (.nil))) (by kernel_rfl) rfl (by simp [zaj]) (by decide) (by decide))),(74,.call (zjy [9,3] (by decide) (by decide)) zjv),(75,.call (Fn.cast (zjz (atF zc5 (zcq zc5) 1) ([9,3].map ZI.of) (M:=3) (by decide) (vokE _ (by decide) (by decide)) (za0.okB_mono (by decide) (by decide) _ (rngK_ok zbr 1))) (show (vb (za0.holds ([9,3].map ZI.of) (atF zc5 (zcq zc5) 1)):V)=vb true from by rw [ev10])) zju),(79,.call (LStart zc5 0 zbr zdk (by decide)) mj9_13),(80,.g (Op.buildD (d:=115) (len:=1) (rows:=[0].map zaj) (rs:=[]) to_1 (.cons (i:=0) (OV.const (.int .i64 0) rfl) (.nil)) (by kernel_rfl) rfl (by simp [zaj]) (by decide) (by decide))),(81,.call (zjy [0] (by decide) (by decide)) zjv),(82,.call (Fn.cast (zjz (atF zc5 (zgd [zc5.init,zcq zc5]) 0) ([0].map ZI.of) (M:=3) (by decide) (vokE _ (by decide) (by decide)) (za0.okB_mono (by decide) (by decide) _ (startK_ok zbr zdk 0))) (show (vb (za0.holds ([0].map ZI.of) (atF zc5 (zgd [zc5.init,zcq zc5]) 0)):V)=vb true from by rw [ev11])) zju),(89,.len (za6 1 zaj ([1]))),(90,.cmp (op:=.eql) (m:=([1].length:Int)) (n:=1) (b:=true) .i64 (show (([1].length:Int) == 1)=true from by decide)),(94,.g (xD 129 128 zh8 (zab (show [(1:Int)][0]?=some 1 from rfl) (f:=zaj)) (OV.const (.int .i64 0) rfl))),(96,.cmp (op:=.eql) (m:=1) (n:=1) (b:=true) .i64 (show ((1:Int) == 1)=true from by decide))] [(0,vb true)] [] h fun a w h=>?_;refine qV (rT (.c (cB true)) h rfl ?_);rfl
theorem few_wid {f:za0} {n:Int} (hn:0<=n) (hn2:n<=30) (h:ziz f n 3=true):f.wid<=100:=by
 unfold ziz at h
 rw [Bool.and_eq_true] at h
 have h1:f.size n<=n:=by have:=h.1;simpa using this
 have hw:=size_wid f n hn h1
 omega
theorem few_w {s:zao} (h:zbo 3 s=true):SysW s:=by
 unfold zbo at h
 simp only [Bool.and_eq_true,decide_eq_true_eq,List.all_eq_true] at h
 refine ⟨few_wid (by decide) (by decide) h.1.2,fun c hc=>?_⟩
 have:=h.2.2 c hc
 unfold fewA at this
 simp only [Bool.and_eq_true] at this
 first | exact few_wid (by decide) (by decide) this.1.2 | exact few_wid (by decide) (by decide) this.1 | exact few_wid (by decide) (by decide) this.2.1 | exact few_wid (by decide) (by decide) this.1.1
theorem smB_sys {s:zao} {xs:List StD} (h:smB s xs=true) (hs:SysRd s):zbc 3 s/\SysW s:=by
 unfold smB at h
 rw [Bool.and_eq_true] at h
 exact ⟨few_sys h.2 hs,few_w h.2⟩
theorem smB_st {s:zao} {xs:List StD} (h:smB s xs=true) {x:StD} (hm:x ∈ xs) (hx:StRd x):StOk 3 x:=by
 unfold smB at h
 rw [Bool.and_eq_true,List.all_eq_true] at h
 exact few_st (h.1 x hm) hx
theorem zf7 {s:zao} {x y:StD} {k:Nat} (hk:k<=8) (hv:s.vars.length<=8) (hx:StOk 3 x) (hy:StOk 3 y):VOk 3 (zav s x y k):=by
 have h64:k*s.vars.length<=8*8:=Nat.mul_le_mul hk hv
 refine ⟨?_,fun z hz=>?_⟩
 ·rw [zj6,List.length_append,List.length_append,List.length_replicate]
  have:=hx.vals;have:=hy.vals;omega
 ·rw [zj6] at hz
  rcases List.mem_append.1 hz with hz | hz
  ·rw [(List.mem_replicate.1 hz).2];exact ZOk.zero
  ·rcases List.mem_append.1 hz with hz | hz
   ·exact hx.val z hz
   ·exact hy.val z hz
theorem zf5:StOk 3 st0:=⟨Nat.zero_le _,Nat.zero_le _,fun z hz=>by cases hz⟩
def ZB (x:StD) (j:Nat):Bool:=(x.locs.take j).all fun l=>l == 0
def PB (s:zao) (x:StD) (j:Nat):Bool:=((x.locs.length:Int) == (s.procs.length:Int)) && zh3 j (zfj s x)
def zdu (s:zao) (x:StD) (k:Nat):Bool:=za0.holds (zav s x st0 k) (atF s (zcq s) k)
def zbp (s:zao) (x:StD) (k:Nat):Bool:=za0.holds (zav s x st0 k) (atF s (zgd [s.init,zcq s]) k)
theorem zb_zero (x:StD):ZB x 0=true:=rfl
theorem zb_step {x:StD} {j:Nat} {l:Int} (h:x.locs[j]?=some l):ZB x (j+1)=(ZB x j && (l == 0)):=by
 unfold ZB
 rw [List.take_add_one,h,List.all_append]
 show (_ && ((l == 0) && true))=_
 rw [Bool.and_true]
theorem zb_end {x:StD} {j:Nat} (h:x.locs.length<=j):ZB x j=ZB x x.locs.length:=by
 unfold ZB;rw [List.take_of_length_le h,List.take_length]
theorem pb_zero (s:zao) (x:StD):PB s x 0=((x.locs.length:Int) == (s.procs.length:Int)):=by unfold PB;exact Bool.and_true _
theorem pb_succ (s:zao) (x:StD) (j:Nat):PB s x (j+1)=(PB s x j && zfj s x j):=by unfold PB;rw [show zh3 (j+1) (zfj s x)=(zh3 j (zfj s x) && zfj s x j) from rfl,Bool.and_assoc]
theorem pb_false {s:zao} {x:StD} {j:Nat} (h:PB s x j=false):PB s x (j+1)=false:=by rw [pb_succ,h];rfl
theorem pb_neg {s:zao} {x:StD} {j:Nat} {l:Int} (hx:x.locs[j]?=some l) (h:decide (l>=0)=false):PB s x (j+1)=false:=by
 rw [pb_succ]
 have:zfj s x j=false:=by
  unfold zfj;rw [hx]
  exact decide_eq_false fun e=>of_decide_eq_false h e.1
 rw [this,Bool.and_false]
theorem pb_step {s:zao} {x:StD} {j:Nat} {l:Int} {p:zc0} (hx:x.locs[j]?=some l) (hp:s.procs[j]?=some p) (h0:PB s x j=true) (h:decide (l>=0)=true):PB s x (j+1)=decide (l<(p.locs.length:Int)):=by
 rw [pb_succ,h0,Bool.true_and]
 unfold zfj zei;rw [hx,hp]
 exact decide_eq_decide.2 ⟨fun e=>e.2,fun e=>⟨of_decide_eq_true h,e⟩⟩
theorem pb_len {s:zao} {x:StD} {j:Nat} (h:PB s x j=true):x.locs.length=s.procs.length:=by
 unfold PB at h
 rw [Bool.and_eq_true,beq_iff_eq] at h
 omega
theorem with_eq {s:zao} {x:StD} {k:Nat} (hv8:s.vars.length<=8) (hk:k<=4096) (hvl:x.vals.length=s.vars.length):zdu s x k=zh3 x.vals.length (valOk s x):=by
 unfold zdu
 rw [cans_within hv8 hk,show x.vals++st0.vals=x.vals from List.append_nil _,rng_fits hvl]
theorem start_eq {s:zao} (hp:ProS s) {x:StD} {k:Nat} (hv8:s.vars.length<=8) (hk:k<=4096) (hvl:x.vals.length=s.vars.length):zbp s x k=(s.init.holds x.vals && zh3 x.vals.length (valOk s x)):=by
 unfold zbp
 rw [cans_start hp hv8 hk,show x.vals++st0.vals=x.vals from List.append_nil _,rng_fits hvl]
theorem fits_with {s:zao} {x:StD} {k:Nat} (hv8:s.vars.length<=8) (hk:k<=4096) (hvl:x.vals.length=s.vars.length) (hf:zd2 s x=true):zdu s x k=true:=by
 rw [with_eq hv8 hk hvl]
 unfold zd2 at hf
 rw [Bool.and_eq_true,Bool.and_eq_true] at hf
 exact hf.2.2
theorem zie {s:zao} {x:StD} {k:Nat} (hv8:s.vars.length<=8) (hk:k<=4096) (hvl:x.vals.length=s.vars.length) (hf:zd2 s x=false) (hb:PB s x x.locs.length=true):zdu s x k=false:=by
 rw [with_eq hv8 hk hvl]
 have hl:=pb_len hb
 unfold PB at hb
 rw [Bool.and_eq_true] at hb
 unfold zd2 at hf
 rw [decide_eq_true ⟨hl,hvl⟩,hb.2,Bool.true_and,Bool.true_and] at hf
 exact hf
theorem unfit_start {s:zao} (hp:ProS s) {x:StD} {k:Nat} (hv8:s.vars.length<=8) (hk:k<=4096) (hvl:x.vals.length=s.vars.length) (hf:zd2 s x=false) (hb:PB s x x.locs.length=true):zbp s x k=false:=by
 have h:=zie hv8 hk hvl hf hb
 rw [with_eq hv8 hk hvl] at h
 rw [start_eq hp hv8 hk hvl,h,Bool.and_false]
theorem any_all (xs:List Int):(!xs.any fun l=>l != 0)=xs.all fun l=>l == 0:=by
 induction xs with
 | nil=>rfl
 | cons x xs ih=>rw [List.any_cons,List.all_cons,Bool.not_or,ih,show (!(x != 0))=(x == 0) from by unfold bne;rw [Bool.not_not]]
theorem first_eq {s:zao} (hp:ProS s) {x:StD} {k:Nat} (hv8:s.vars.length<=8) (hk:k<=4096) (hvl:x.vals.length=s.vars.length) (hf:zd2 s x=true):first s x=(ZB x x.locs.length && zbp s x k):=by
 have h:=fits_with hv8 hk hvl hf
 rw [with_eq hv8 hk hvl] at h
 rw [start_eq hp hv8 hk hvl,h,Bool.and_true]
 unfold first ZB
 rw [hf,Bool.true_and,any_all,List.take_length]
theorem can_eq {s:zao} (hp:ProS s) {x:StD} {k:Nat} (hv8:s.vars.length<=8) (hk:k<=4096) (hf:zd2 s x=true) {act:Int} (ha:act>=0):can s x act=((plcA s x.locs act).2 && za0.holds (zav s x st0 k) (canK s act k)):=by
 rw [cans_can hp hv8 hk hf act (y:=st0)]
 congr 1
 unfold plcA
 rw [if_neg (by omega)]
 cases h:(zad s x.locs act).2 with
 | true=>rw [if_pos rfl]
 | false=>rw [if_neg Bool.noConfusion]
theorem mn1_0:za4 Tryz.prog 7:=za4.mk' (by kernel_rfl)
theorem mn1_2:za4 Tryz.prog 8:=za4.mk' (by kernel_rfl)
theorem mn1_3:za4 Tryz.prog 9:=za4.mk' (by kernel_rfl)
theorem mn1_4:za4 Tryz.prog 14:=za4.mk' (by kernel_rfl)
theorem LWpCans (s:zao) (x:StD) (act k:Int) (hs:SysRd s) (hx:StRd x):Fn Tryz.prog 4 [] [.t (.agg (zak s)),.t (.agg [.d (.sl 1 (x.locs.map zaj)),.d (.sl 2 (x.vals.map ziD))]),vI act,vI k] (vb true) []:=by
 refine Fn.body Tryz.func4 rfl 173 rfl fun w H B a h=>Jq 8 [] [(2,vI act),(3,vI k),(4,vp 8 0),(5,vp 9 0),(8,vb false)] [(8,.box (zak s)),(9,.box [.d (.sl 1 (x.locs.map zaj)),.d (.sl 2 (x.vals.map ziD))])] h fun a w h=>qW (Je 10 [(0,.call (LAlive) mn1_0)] [] [(21,vb false)] h fun a w h=>zaw false h rfl nofun (fun _=>qU (za1 (qW ?_))))
 rcases Bool.eq_false_or_eq_true (smB s [x]) with hc1 | hc32
 ·obtain ⟨hs3,hw9⟩:=smB_sys hc1 hs;have lvs:=hs3.vars;have hx3:StOk 3 x:=smB_st hc1 (by simp) hx;have lxl:=hx3.locs;have lxv:=hx3.vals
  rcases Bool.eq_false_or_eq_true (proB s) with hc2 | hc31
  ·refine Je 10 [(2,.g (bD 24 ([x].map StD.d) [(23,.t (.agg [.d (.sl 1 (x.locs.map zaj)),.d (.sl 2 (x.vals.map ziD))]))] kx_3 (.cons (i:=0) (OV.tmp 23 _) (.nil)) (by kernel_rfl) (by simp [StD.d]))),(3,.call (Fn.cast (Lsmall s [x] hs (by intro x_ hx_;simp only [List.mem_cons,List.not_mem_nil,or_false] at hx_;subst hx_;assumption) (by simp)) (congrArg vb hc1)) mn1_2),(7,.call (Fn.cast (Lproper s hs3 hw9) (congrArg vb hc2)) mn1_3),(13,.len (za6 2 ziD x.vals)),(16,.len (za6 1 zfu s.vars))] [21] [(40,vb ((x.vals.length:Int) != (s.vars.length:Int)))] h fun a w h=>cS ((x.vals.length:Int) != (s.vars.length:Int)) h (fun hc3=>?_) (fun hc4=>?_)
   ·have hc3':=hc3;(try simp at hc3');refine Je 10 [] [40] [(8,vb true)] h fun a w h=>qV (za7 (rT (.c (.d (.raw (.bool true)))) h rfl ?_));rfl
   have hc4':=hc4;(try simp at hc4');have hvl:x.vals.length=s.vars.length:=by have:=hc4;simp at this;omega
   refine qU (za1 (Je 10 [(1,.g (Op.mask (d:=42) (xt:=3) (yt:=3) (m:=k) (n:=7) (r:=(k % 8)) 3 (OV.tmp 41 _) (OV.const (.int .i64 7) rfl) (by decide) (by decide) (by rw [show ((2 ^ 3:Nat):Int)=8 from rfl])))] [40] [(3,vI (k % 8))] h fun a w h=>?_));have hk0:0<=k % 8/\k % 8<8:=⟨Int.emod_nonneg _ (by decide),Int.emod_lt_of_pos _ (by decide)⟩;obtain ⟨kk,hkkk⟩:∃ k_:Nat,k % 8=(k_:Int):=⟨_,(Int.toNat_of_nonneg (by omega)).symm⟩;replace h:=h.conv (f':=F.of [(2,vI act),(3,vN kk),(4,vp 8 0),(5,vp 9 0),(8,vb false)] [(8,.box (zak s)),(9,.box [.d (.sl 1 (x.locs.map zaj)),.d (.sl 2 (x.vals.map ziD))])]) (by rw [hkkk];kernel_rfl);refine Jq 10 [(4,.call (Fn.argw (Lboth s x st0 kk (by omega) lvs (by omega) (by exact Nat.zero_le _)) (.cons _ _ _ _ (.refl _) (.cons _ _ _ _ (.refl _) (.cons _ _ _ _ (.agg _ _ (.d _ _ _ _ (.nil _) (.d _ _ _ _ (.nil _) .nil))) (.cons _ _ _ _ (.refl _) .nil))))) mn1_4)] [(2,vI act),(3,vN kk),(4,vp 8 0),(5,vp 9 0),(8,vb false),(9,.t (.c (.d (.sl 2 ((zav s x st0 kk).map ziD)))))] [(8,.box (zak s)),(9,.box [.d (.sl 1 (x.locs.map zaj)),.d (.sl 2 (x.vals.map ziD))])] h fun a w h=>Je 10 [(2,.call (LRange s kk hs3 (by omega)) mg6_13),(4,.call (zcn (zav s x st0 kk) (M:=3) (by decide) (zf7 (by omega) lvs hx3 zf5) (atF s (zcq s) kk) (za0.okB_mono (by decide) (by decide) _ (rngK_ok hs3 _))) zfy)] [] [(10,vb (zdu s x kk))] h fun a w h=>Je 10 [(2,.call (LStart s kk hs3 hw9 (by omega)) mj9_13),(4,.call (zcn (zav s x st0 kk) (M:=3) (by decide) (zf7 (by omega) lvs hx3 zf5) (atF s (zgd [s.init,zcq s]) kk) (za0.okB_mono (by decide) (by decide) _ (startK_ok hs3 hw9 _))) zfy)] [] [(11,vb (zbp s x kk))] h fun a w h=>Je 10 [] [] [(12,vb true)] h fun a w h=>qW (Je 10 [(2,.len (za6 1 zaj x.locs))] [] [(59,.t (.c (.d (.sl 1 (x.locs.map zaj))))),(60,vN x.locs.length),(61,vI 0)] h fun a w h=>qZ ?_);have hjn:(ZB x 0)=(true):=zb_zero x;replace h:=h.conv (f':=F.of [(2,vI act),(3,vN kk),(4,vp 8 0),(5,vp 9 0),(8,vb false),(9,.t (.c (.d (.sl 2 ((zav s x st0 kk).map ziD))))),(10,vb (zdu s x kk)),(11,vb (zbp s x kk)),(12,vb (ZB x 0)),(59,.t (.c (.d (.sl 1 (x.locs.map zaj))))),(60,vN x.locs.length),(61,vI 0)] [(8,.box (zak s)),(9,.box [.d (.sl 1 (x.locs.map zaj)),.d (.sl 2 (x.vals.map ziD))])]) (by rw [hjn];kernel_rfl)
   refine zaq (ι:=(Nat)) (fun j=>j<=x.locs.length)
     (fun j=>[(2,vI act),(3,vN kk),(4,vp 8 0),(5,vp 9 0),(8,vb false),(9,.t (.c (.d (.sl 2 ((zav s x st0 kk).map ziD))))),(10,vb (zdu s x kk)),(11,vb (zbp s x kk)),(12,vb (ZB x j)),(59,.t (.c (.d (.sl 1 (x.locs.map zaj))))),(60,vN x.locs.length),(61,vN j)])
     (fun j=>[(8,.box (zak s)),(9,.box [.d (.sl 1 (x.locs.map zaj)),.d (.sl 2 (x.vals.map ziD))])])
     (fun j=>x.locs.length - j) 0 ?_ h (by kernel_rfl) (by kernel_rfl) ?_
   ·exact Nat.zero_le _
   clear h;rintro j a w hI h;refine Je 10 [] [] [(62,vb (decide ((j:Int)<(x.locs.length:Int))))] h fun a w h=>qW (zam ((j:Int)<(x.locs.length:Int)) h (fun hc5 hc5'=>?_) (fun hc8 hc8'=>?_))
   ·refine qU (za1 (qW (qZ ?_)));obtain ⟨x12,hx12⟩:=gl x.locs j;refine Je 10 [(0,.g (xD 63 59 zh8 (zab hx12 (f:=zaj)) (OV.tmp 61 _)))] [62] [(14,vI x12)] h fun a w h=>?_
    rcases Bool.eq_false_or_eq_true (ZB x j) with hc6 | hc7
    ·rw [hc6] at h;refine Jn 10 [] [(2,vI act),(3,vN kk),(4,vp 8 0),(5,vp 9 0),(8,vb false),(9,.t (.c (.d (.sl 2 ((zav s x st0 kk).map ziD))))),(10,vb (zdu s x kk)),(11,vb (zbp s x kk)),(12,vb (x12 == 0)),(59,.t (.c (.d (.sl 1 (x.locs.map zaj))))),(60,vN x.locs.length),(61,vN j)] [(8,.box (zak s)),(9,.box [.d (.sl 1 (x.locs.map zaj)),.d (.sl 2 (x.vals.map ziD))])] h fun a w h=>za8 (za1 (Jf 10 [(0,.j1 j)] [] [(61,vI ((j:Int)+1))] h fun a w h=>za1 ?_));have hjn:(ZB x (j+1))=(x12 == 0):=(zb_step hx12).trans (by rw [hc6];rfl);replace h:=h.conv (f':=F.of [(2,vI act),(3,vN kk),(4,vp 8 0),(5,vp 9 0),(8,vb false),(9,.t (.c (.d (.sl 2 ((zav s x st0 kk).map ziD))))),(10,vb (zdu s x kk)),(11,vb (zbp s x kk)),(12,vb (ZB x (j+1))),(59,.t (.c (.d (.sl 1 (x.locs.map zaj))))),(60,vN x.locs.length),(61,vI ((j:Int)+1))] [(8,.box (zak s)),(9,.box [.d (.sl 1 (x.locs.map zaj)),.d (.sl 2 (x.vals.map ziD))])]) (by rw [hjn];kernel_rfl);refine zag (x:=j) (y:=j+1) h ?_ ?_
     ·show j+1<=x.locs.length;omega
     show x.locs.length - (j+1)<x.locs.length - j;omega
    rw [hc7] at h;refine Jn 10 [] [(2,vI act),(3,vN kk),(4,vp 8 0),(5,vp 9 0),(8,vb false),(9,.t (.c (.d (.sl 2 ((zav s x st0 kk).map ziD))))),(10,vb (zdu s x kk)),(11,vb (zbp s x kk)),(12,vb false),(59,.t (.c (.d (.sl 1 (x.locs.map zaj))))),(60,vN x.locs.length),(61,vN j)] [(8,.box (zak s)),(9,.box [.d (.sl 1 (x.locs.map zaj)),.d (.sl 2 (x.vals.map ziD))])] h fun a w h=>za8 (za1 (Jf 10 [(0,.j1 j)] [] [(61,vI ((j:Int)+1))] h fun a w h=>za1 ?_));have hjn:(ZB x (j+1))=(false):=(zb_step hx12).trans (by rw [hc7];rfl);replace h:=h.conv (f':=F.of [(2,vI act),(3,vN kk),(4,vp 8 0),(5,vp 9 0),(8,vb false),(9,.t (.c (.d (.sl 2 ((zav s x st0 kk).map ziD))))),(10,vb (zdu s x kk)),(11,vb (zbp s x kk)),(12,vb (ZB x (j+1))),(59,.t (.c (.d (.sl 1 (x.locs.map zaj))))),(60,vN x.locs.length),(61,vI ((j:Int)+1))] [(8,.box (zak s)),(9,.box [.d (.sl 1 (x.locs.map zaj)),.d (.sl 2 (x.vals.map ziD))])]) (by rw [hjn];kernel_rfl);refine zag (x:=j) (y:=j+1) h ?_ ?_
    ·show j+1<=x.locs.length;omega
    show x.locs.length - (j+1)<x.locs.length - j;omega
   refine wp_exit (za9 (za9 (za5 (za1 (qW ?_)))));have hjn:(ZB x x.locs.length)=(ZB x j):=(zb_end (by have:=dF hc8;omega)).symm;replace h:=h.conv (f':=F.of [(2,vI act),(3,vN kk),(4,vp 8 0),(5,vp 9 0),(8,vb false),(9,.t (.c (.d (.sl 2 ((zav s x st0 kk).map ziD))))),(10,vb (zdu s x kk)),(11,vb (zbp s x kk)),(12,vb (ZB x x.locs.length)),(59,.t (.c (.d (.sl 1 (x.locs.map zaj))))),(60,vN x.locs.length),(61,vN j),(62,vb (decide ((j:Int)<(x.locs.length:Int))))] [(8,.box (zak s)),(9,.box [.d (.sl 1 (x.locs.map zaj)),.d (.sl 2 (x.vals.map ziD))])]) (by rw [hjn];kernel_rfl);refine Jq 10 [(2,.call (SRFits s x (L:=3) (M:=3) (by decide) hs3 hx3) kh_6)] [(2,vI act),(3,vN kk),(4,vp 8 0),(5,vp 9 0),(8,vb false),(9,.t (.c (.d (.sl 2 ((zav s x st0 kk).map ziD))))),(10,vb (zdu s x kk)),(11,vb (zbp s x kk)),(12,vb (ZB x x.locs.length)),(74,vb (!(zd2 s x)))] [(8,.box (zak s)),(9,.box [.d (.sl 1 (x.locs.map zaj)),.d (.sl 2 (x.vals.map ziD))])] h fun a w h=>cS (!(zd2 s x)) h (fun hc9=>?_) (fun hc20=>?_)
   ·have hc9':=hc9;(try simp at hc9');have hf9:zd2 s x=false:=by have:=hc9;simpa using this
    refine Je 10 [(2,.len (za6 1 zaj x.locs)),(5,.len (za6 3 zc0.d s.procs))] [74] [(15,vb ((x.locs.length:Int) == (s.procs.length:Int)))] h fun a w h=>qW (Je 10 [(2,.len (za6 1 zaj x.locs))] [] [(84,vN x.locs.length),(85,vI 0)] h fun a w h=>qZ ?_);have hjn:(PB s x 0)=((x.locs.length:Int) == (s.procs.length:Int)):=pb_zero s x;replace h:=h.conv (f':=F.of [(2,vI act),(3,vN kk),(4,vp 8 0),(5,vp 9 0),(8,vb false),(9,.t (.c (.d (.sl 2 ((zav s x st0 kk).map ziD))))),(10,vb (zdu s x kk)),(11,vb (zbp s x kk)),(12,vb (ZB x x.locs.length)),(15,vb (PB s x 0)),(84,vN x.locs.length),(85,vI 0)] [(8,.box (zak s)),(9,.box [.d (.sl 1 (x.locs.map zaj)),.d (.sl 2 (x.vals.map ziD))])]) (by rw [hjn];kernel_rfl)
    refine zaq (ι:=(Nat)) (fun i=>i<=x.locs.length)
      (fun i=>[(2,vI act),(3,vN kk),(4,vp 8 0),(5,vp 9 0),(8,vb false),(9,.t (.c (.d (.sl 2 ((zav s x st0 kk).map ziD))))),(10,vb (zdu s x kk)),(11,vb (zbp s x kk)),(12,vb (ZB x x.locs.length)),(15,vb (PB s x i)),(84,vN x.locs.length),(85,vN i)])
      (fun i=>[(8,.box (zak s)),(9,.box [.d (.sl 1 (x.locs.map zaj)),.d (.sl 2 (x.vals.map ziD))])])
      (fun i=>x.locs.length - i) 0 ?_ h (by kernel_rfl) (by kernel_rfl) ?_
    ·exact Nat.zero_le _
    clear h;rintro i a w hI h;refine Je 10 [] [] [(86,vb (decide ((i:Int)<(x.locs.length:Int))))] h fun a w h=>qW (zam ((i:Int)<(x.locs.length:Int)) h (fun hc10 hc10'=>?_) (fun hc15 hc15'=>?_))
    ·refine qU (za1 (qW (qZ (Je 10 [] [86] [(16,vN i)] h fun a w h=>?_))))
     rcases Bool.eq_false_or_eq_true (PB s x i) with hc11 | hc14
     ·have lpq:=pb_len hc11;rw [hc11] at h;obtain ⟨x14,hx14⟩:=gl x.locs i
      rcases Bool.eq_false_or_eq_true (decide (x14>=0)) with hc12 | hc13
      ·have hc12':=dT hc12;obtain ⟨x15,hx15⟩:=gl s.procs i;refine Jn 10 [(5,.g (xD 93 91 zh8 (zab hx14 (f:=zaj)) (OV.tmp 92 _))),(7,.cmp (op:=.geq) (m:=x14) (n:=0) (b:=true) .i64 hc12),(13,.g (xD 101 99 zh8 (zab hx14 (f:=zaj)) (OV.tmp 100 _))),(18,.g (xD 106 104 kf_5 (zab hx15 (f:=zc0.d)) (OV.tmp 105 _))),(21,.len (za6 1 zfu x15.locs))] [(2,vI act),(3,vN kk),(4,vp 8 0),(5,vp 9 0),(8,vb false),(9,.t (.c (.d (.sl 2 ((zav s x st0 kk).map ziD))))),(10,vb (zdu s x kk)),(11,vb (zbp s x kk)),(12,vb (ZB x x.locs.length)),(15,vb (decide (x14<(x15.locs.length:Int)))),(84,vN x.locs.length),(85,vN i)] [(8,.box (zak s)),(9,.box [.d (.sl 1 (x.locs.map zaj)),.d (.sl 2 (x.vals.map ziD))])] h fun a w h=>za8 (za1 (Jf 10 [(0,.j1 i)] [] [(85,vI ((i:Int)+1))] h fun a w h=>za1 ?_));have hjn:(PB s x (i+1))=(decide (x14<(x15.locs.length:Int))):=pb_step hx14 hx15 hc11 hc12;replace h:=h.conv (f':=F.of [(2,vI act),(3,vN kk),(4,vp 8 0),(5,vp 9 0),(8,vb false),(9,.t (.c (.d (.sl 2 ((zav s x st0 kk).map ziD))))),(10,vb (zdu s x kk)),(11,vb (zbp s x kk)),(12,vb (ZB x x.locs.length)),(15,vb (PB s x (i+1))),(84,vN x.locs.length),(85,vI ((i:Int)+1))] [(8,.box (zak s)),(9,.box [.d (.sl 1 (x.locs.map zaj)),.d (.sl 2 (x.vals.map ziD))])]) (by rw [hjn];kernel_rfl);refine zag (x:=i) (y:=i+1) h ?_ ?_
       ·show i+1<=x.locs.length;omega
       show x.locs.length - (i+1)<x.locs.length - i;omega
      have hc13':=dF hc13;refine Jn 10 [(5,.g (xD 93 91 zh8 (zab hx14 (f:=zaj)) (OV.tmp 92 _))),(7,.cmp (op:=.geq) (m:=x14) (n:=0) (b:=false) .i64 hc13)] [(2,vI act),(3,vN kk),(4,vp 8 0),(5,vp 9 0),(8,vb false),(9,.t (.c (.d (.sl 2 ((zav s x st0 kk).map ziD))))),(10,vb (zdu s x kk)),(11,vb (zbp s x kk)),(12,vb (ZB x x.locs.length)),(15,vb false),(84,vN x.locs.length),(85,vN i)] [(8,.box (zak s)),(9,.box [.d (.sl 1 (x.locs.map zaj)),.d (.sl 2 (x.vals.map ziD))])] h fun a w h=>za8 (za1 (Jf 10 [(0,.j1 i)] [] [(85,vI ((i:Int)+1))] h fun a w h=>za1 ?_));have hjn:(PB s x (i+1))=(false):=pb_neg hx14 hc13;replace h:=h.conv (f':=F.of [(2,vI act),(3,vN kk),(4,vp 8 0),(5,vp 9 0),(8,vb false),(9,.t (.c (.d (.sl 2 ((zav s x st0 kk).map ziD))))),(10,vb (zdu s x kk)),(11,vb (zbp s x kk)),(12,vb (ZB x x.locs.length)),(15,vb (PB s x (i+1))),(84,vN x.locs.length),(85,vI ((i:Int)+1))] [(8,.box (zak s)),(9,.box [.d (.sl 1 (x.locs.map zaj)),.d (.sl 2 (x.vals.map ziD))])]) (by rw [hjn];kernel_rfl);refine zag (x:=i) (y:=i+1) h ?_ ?_
      ·show i+1<=x.locs.length;omega
      show x.locs.length - (i+1)<x.locs.length - i;omega
     rw [hc14] at h;refine Jn 10 [] [(2,vI act),(3,vN kk),(4,vp 8 0),(5,vp 9 0),(8,vb false),(9,.t (.c (.d (.sl 2 ((zav s x st0 kk).map ziD))))),(10,vb (zdu s x kk)),(11,vb (zbp s x kk)),(12,vb (ZB x x.locs.length)),(15,vb false),(84,vN x.locs.length),(85,vN i)] [(8,.box (zak s)),(9,.box [.d (.sl 1 (x.locs.map zaj)),.d (.sl 2 (x.vals.map ziD))])] h fun a w h=>za8 (za1 (Jf 10 [(0,.j1 i)] [] [(85,vI ((i:Int)+1))] h fun a w h=>za1 ?_));have hjn:(PB s x (i+1))=(false):=pb_false hc14;replace h:=h.conv (f':=F.of [(2,vI act),(3,vN kk),(4,vp 8 0),(5,vp 9 0),(8,vb false),(9,.t (.c (.d (.sl 2 ((zav s x st0 kk).map ziD))))),(10,vb (zdu s x kk)),(11,vb (zbp s x kk)),(12,vb (ZB x x.locs.length)),(15,vb (PB s x (i+1))),(84,vN x.locs.length),(85,vI ((i:Int)+1))] [(8,.box (zak s)),(9,.box [.d (.sl 1 (x.locs.map zaj)),.d (.sl 2 (x.vals.map ziD))])]) (by rw [hjn];kernel_rfl);refine zag (x:=i) (y:=i+1) h ?_ ?_
     ·show i+1<=x.locs.length;omega
     show x.locs.length - (i+1)<x.locs.length - i;omega
    refine wp_exit (za9 (za9 (za5 (za1 ?_))));have hjn:(PB s x x.locs.length)=(PB s x i):=(by rw [show x.locs.length=i by have:=dF hc15;omega]);replace h:=h.conv (f':=F.of [(2,vI act),(3,vN kk),(4,vp 8 0),(5,vp 9 0),(8,vb false),(9,.t (.c (.d (.sl 2 ((zav s x st0 kk).map ziD))))),(10,vb (zdu s x kk)),(11,vb (zbp s x kk)),(12,vb (ZB x x.locs.length)),(15,vb (PB s x x.locs.length)),(84,vN x.locs.length),(85,vN i),(86,vb (decide ((i:Int)<(x.locs.length:Int))))] [(8,.box (zak s)),(9,.box [.d (.sl 1 (x.locs.map zaj)),.d (.sl 2 (x.vals.map ziD))])]) (by rw [hjn];kernel_rfl)
    rcases Bool.eq_false_or_eq_true (PB s x x.locs.length) with hc16 | hc19
    ·rw [hc16] at h
     rcases Bool.eq_false_or_eq_true (zdu s x kk) with hc17 | hc18
     ·rw [hc17] at h;refine Jq 10 [] [(2,vI act),(3,vN kk),(4,vp 8 0),(5,vp 9 0),(8,vb false),(9,.t (.c (.d (.sl 2 ((zav s x st0 kk).map ziD))))),(10,vb true),(11,vb (zbp s x kk)),(12,vb (ZB x x.locs.length))] [(8,.box (zak s)),(9,.box [.d (.sl 1 (x.locs.map zaj)),.d (.sl 2 (x.vals.map ziD))])] h fun a w h=>qV (za7 (rT (.c (.d (.raw (.bool false)))) h rfl ?_));have hz:(false)=true:=by first | (rw [unfit_start (zfe hc2) (k:=kk) lvs (by omega) hvl hf9 hc16];rfl) | (exfalso;have h1:=zie (k:=kk) lvs (by omega) hvl hf9 hc16;simp_all)
      rw [hz];try rfl
     rw [hc18] at h;refine Jq 10 [] [(2,vI act),(3,vN kk),(4,vp 8 0),(5,vp 9 0),(8,vb (!(zbp s x kk))),(9,.t (.c (.d (.sl 2 ((zav s x st0 kk).map ziD))))),(10,vb false),(11,vb (zbp s x kk)),(12,vb (ZB x x.locs.length))] [(8,.box (zak s)),(9,.box [.d (.sl 1 (x.locs.map zaj)),.d (.sl 2 (x.vals.map ziD))])] h fun a w h=>qV (za7 (rT (.c (.d (.raw (.bool (!(zbp s x kk)))))) h rfl ?_));have hz:(!(zbp s x kk))=true:=by first | (rw [unfit_start (zfe hc2) (k:=kk) lvs (by omega) hvl hf9 hc16];rfl) | (exfalso;have h1:=zie (k:=kk) lvs (by omega) hvl hf9 hc16;simp_all)
     rw [hz];try rfl
    rw [hc19] at h;refine Jq 10 [] [(2,vI act),(3,vN kk),(4,vp 8 0),(5,vp 9 0),(8,vb true),(9,.t (.c (.d (.sl 2 ((zav s x st0 kk).map ziD))))),(10,vb (zdu s x kk)),(11,vb (zbp s x kk)),(12,vb (ZB x x.locs.length))] [(8,.box (zak s)),(9,.box [.d (.sl 1 (x.locs.map zaj)),.d (.sl 2 (x.vals.map ziD))])] h fun a w h=>qV (za7 (rT (.c (.d (.raw (.bool true)))) h rfl ?_));rfl
   have hc20':=hc20;(try simp at hc20');have hf9:zd2 s x=true:=by have:=hc20;simpa using this
   have hW9:zdu s x kk=true:=fits_with lvs (by omega) hvl hf9;have hF9:=first_eq (zfe hc2) (k:=kk) lvs (by omega) hvl hf9;refine qU (za1 (qW ?_));have hjn:(true)=(zdu s x kk):=hW9.symm;replace h:=h.conv (f':=F.of [(2,vI act),(3,vN kk),(4,vp 8 0),(5,vp 9 0),(8,vb false),(9,.t (.c (.d (.sl 2 ((zav s x st0 kk).map ziD))))),(10,vb true),(11,vb (zbp s x kk)),(12,vb (ZB x x.locs.length)),(74,vb (!(zd2 s x)))] [(8,.box (zak s)),(9,.box [.d (.sl 1 (x.locs.map zaj)),.d (.sl 2 (x.vals.map ziD))])]) (by rw [hjn])
   rcases Bool.eq_false_or_eq_true (ZB x x.locs.length) with hc21 | hc26
   ·rw [hc21] at h;refine Jq 10 [(5,.call (SRFirst s x (L:=3) (M:=3) (by decide) hs3 hx3) ks_3),(10,.cmpb .neq (m:=(first s x)) (n:=(zbp s x kk)) (b:=false) (.inr ⟨rfl,(show (first s x != zbp s x kk)=false from by rw [hF9,hc21];simp).symm⟩))] [(2,vI act),(3,vN kk),(4,vp 8 0),(5,vp 9 0),(8,vb false),(9,.t (.c (.d (.sl 2 ((zav s x st0 kk).map ziD))))),(134,vb false)] [(8,.box (zak s)),(9,.box [.d (.sl 1 (x.locs.map zaj)),.d (.sl 2 (x.vals.map ziD))])] h fun a w h=>zaw false h rfl nofun (fun _=>qU (za1 (Je 10 [(4,.call (LPlaces s x.locs act hs3 (by omega)) mj9_6)] [134] [(18,vb (plcA s x.locs act).2)] h fun a w h=>Je 10 [(3,.call (LCanK s act kk hs3 hw9 (by omega)) mj9_10),(5,.call (zcn (zav s x st0 kk) (M:=3) (by decide) (zf7 (by omega) lvs hx3 zf5) (canK s act kk) (za0.okB_mono (by decide) (by decide) _ (canK_ok hs3 hw9 _ _))) zfy)] [] [(19,vb (za0.holds (zav s x st0 kk) (canK s act kk)))] h fun a w h=>qW ?_)))
    rcases Bool.eq_false_or_eq_true (decide (act>=0)) with hc22 | hc25
    ·have hc22':=dT hc22
     rcases Bool.eq_false_or_eq_true (plcA s x.locs act).2 with hc23 | hc24
     ·rw [hc23] at h;refine Jq 10 [(1,.cmp (op:=.geq) (m:=act) (n:=0) (b:=true) .i64 hc22),(6,.call (SRCan s x act (L:=3) (M:=3) (by decide) hs3 hx3) kq_14),(11,.cmpb .neq (m:=(can s x act)) (n:=(za0.holds (zav s x st0 kk) (canK s act kk))) (b:=false) (.inr ⟨rfl,(show (can s x act != za0.holds (zav s x st0 kk) (canK s act kk))=false from by rw [can_eq (zfe hc2) (k:=kk) lvs (by omega) hf9 (dT hc22),hc23];simp).symm⟩))] [(3,vN kk),(4,vp 8 0),(5,vp 9 0),(8,vb false),(9,.t (.c (.d (.sl 2 ((zav s x st0 kk).map ziD))))),(161,vb false)] [(8,.box (zak s)),(9,.box [.d (.sl 1 (x.locs.map zaj)),.d (.sl 2 (x.vals.map ziD))])] h fun a w h=>zaw false h rfl nofun (fun _=>qU (za1 (Jq 10 [(4,.call (zjp s x.locs kk hs3 hw9 (by omega) (by omega)) zje),(6,.call (zcn (zav s x st0 kk) (M:=3) (by decide) (zf7 (by omega) lvs hx3 zf5) (atF s (zbv s x.locs) kk) (za0.okB_mono (by decide) (by decide) _ (zdv hs3 hw9 _ _))) zfy),(9,.call (zj9 s x (L:=3) (M:=3) (by decide) hs3 hx3) kr_7)] [(8,vb (za0.holds (zav s x st0 kk) (atF s (zbv s x.locs) kk) == zcw s x))] [] h fun a w h=>qV (rT (.c (.d (.raw (.bool (za0.holds (zav s x st0 kk) (atF s (zbv s x.locs) kk) == zcw s x))))) h rfl ?_))))
      have hz:(za0.holds (zav s x st0 kk) (atF s (zbv s x.locs) kk) == zcw s x)=true:=by rw [show za0.holds (zav s x st0 kk) (atF s (zbv s x.locs) kk)=zcw s x from zee (zfe hc2) lvs (by omega) hf9];simp
      rw [hz];try rfl
     rw [hc24] at h;refine Jq 10 [(1,.cmp (op:=.geq) (m:=act) (n:=0) (b:=true) .i64 hc22),(6,.call (SRCan s x act (L:=3) (M:=3) (by decide) hs3 hx3) kq_14),(11,.cmpb .neq (m:=(can s x act)) (n:=false) (b:=false) (.inr ⟨rfl,(show (can s x act != false)=false from by rw [can_eq (zfe hc2) (k:=kk) lvs (by omega) hf9 (dT hc22),hc24];simp).symm⟩))] [(3,vN kk),(4,vp 8 0),(5,vp 9 0),(8,vb false),(9,.t (.c (.d (.sl 2 ((zav s x st0 kk).map ziD))))),(161,vb false)] [(8,.box (zak s)),(9,.box [.d (.sl 1 (x.locs.map zaj)),.d (.sl 2 (x.vals.map ziD))])] h fun a w h=>zaw false h rfl nofun (fun _=>qU (za1 (Jq 10 [(4,.call (zjp s x.locs kk hs3 hw9 (by omega) (by omega)) zje),(6,.call (zcn (zav s x st0 kk) (M:=3) (by decide) (zf7 (by omega) lvs hx3 zf5) (atF s (zbv s x.locs) kk) (za0.okB_mono (by decide) (by decide) _ (zdv hs3 hw9 _ _))) zfy),(9,.call (zj9 s x (L:=3) (M:=3) (by decide) hs3 hx3) kr_7)] [(8,vb (za0.holds (zav s x st0 kk) (atF s (zbv s x.locs) kk) == zcw s x))] [] h fun a w h=>qV (rT (.c (.d (.raw (.bool (za0.holds (zav s x st0 kk) (atF s (zbv s x.locs) kk) == zcw s x))))) h rfl ?_))))
     have hz:(za0.holds (zav s x st0 kk) (atF s (zbv s x.locs) kk) == zcw s x)=true:=by rw [show za0.holds (zav s x st0 kk) (atF s (zbv s x.locs) kk)=zcw s x from zee (zfe hc2) lvs (by omega) hf9];simp
     rw [hz];try rfl
    have hc25':=dF hc25;refine Je 10 [(1,.cmp (op:=.geq) (m:=act) (n:=0) (b:=false) .i64 hc25)] [2,18,19] [(161,vb false)] h fun a w h=>zaw false h rfl nofun (fun _=>qU (za1 (Jq 10 [(4,.call (zjp s x.locs kk hs3 hw9 (by omega) (by omega)) zje),(6,.call (zcn (zav s x st0 kk) (M:=3) (by decide) (zf7 (by omega) lvs hx3 zf5) (atF s (zbv s x.locs) kk) (za0.okB_mono (by decide) (by decide) _ (zdv hs3 hw9 _ _))) zfy),(9,.call (zj9 s x (L:=3) (M:=3) (by decide) hs3 hx3) kr_7)] [(8,vb (za0.holds (zav s x st0 kk) (atF s (zbv s x.locs) kk) == zcw s x))] [] h fun a w h=>qV (rT (.c (.d (.raw (.bool (za0.holds (zav s x st0 kk) (atF s (zbv s x.locs) kk) == zcw s x))))) h rfl ?_))))
    have hz:(za0.holds (zav s x st0 kk) (atF s (zbv s x.locs) kk) == zcw s x)=true:=by rw [show za0.holds (zav s x st0 kk) (atF s (zbv s x.locs) kk)=zcw s x from zee (zfe hc2) lvs (by omega) hf9];simp
    rw [hz];try rfl
   rw [hc26] at h;refine Jq 10 [(5,.call (SRFirst s x (L:=3) (M:=3) (by decide) hs3 hx3) ks_3),(10,.cmpb .neq (m:=(first s x)) (n:=false) (b:=false) (.inr ⟨rfl,(show (first s x != false)=false from by rw [hF9,hc26];simp).symm⟩))] [(2,vI act),(3,vN kk),(4,vp 8 0),(5,vp 9 0),(8,vb false),(9,.t (.c (.d (.sl 2 ((zav s x st0 kk).map ziD))))),(134,vb false)] [(8,.box (zak s)),(9,.box [.d (.sl 1 (x.locs.map zaj)),.d (.sl 2 (x.vals.map ziD))])] h fun a w h=>zaw false h rfl nofun (fun _=>qU (za1 (Je 10 [(4,.call (LPlaces s x.locs act hs3 (by omega)) mj9_6)] [134] [(18,vb (plcA s x.locs act).2)] h fun a w h=>Je 10 [(3,.call (LCanK s act kk hs3 hw9 (by omega)) mj9_10),(5,.call (zcn (zav s x st0 kk) (M:=3) (by decide) (zf7 (by omega) lvs hx3 zf5) (canK s act kk) (za0.okB_mono (by decide) (by decide) _ (canK_ok hs3 hw9 _ _))) zfy)] [] [(19,vb (za0.holds (zav s x st0 kk) (canK s act kk)))] h fun a w h=>qW ?_)))
   rcases Bool.eq_false_or_eq_true (decide (act>=0)) with hc27 | hc30
   ·have hc27':=dT hc27
    rcases Bool.eq_false_or_eq_true (plcA s x.locs act).2 with hc28 | hc29
    ·rw [hc28] at h;refine Jq 10 [(1,.cmp (op:=.geq) (m:=act) (n:=0) (b:=true) .i64 hc27),(6,.call (SRCan s x act (L:=3) (M:=3) (by decide) hs3 hx3) kq_14),(11,.cmpb .neq (m:=(can s x act)) (n:=(za0.holds (zav s x st0 kk) (canK s act kk))) (b:=false) (.inr ⟨rfl,(show (can s x act != za0.holds (zav s x st0 kk) (canK s act kk))=false from by rw [can_eq (zfe hc2) (k:=kk) lvs (by omega) hf9 (dT hc27),hc28];simp).symm⟩))] [(3,vN kk),(4,vp 8 0),(5,vp 9 0),(8,vb false),(9,.t (.c (.d (.sl 2 ((zav s x st0 kk).map ziD))))),(161,vb false)] [(8,.box (zak s)),(9,.box [.d (.sl 1 (x.locs.map zaj)),.d (.sl 2 (x.vals.map ziD))])] h fun a w h=>zaw false h rfl nofun (fun _=>qU (za1 (Jq 10 [(4,.call (zjp s x.locs kk hs3 hw9 (by omega) (by omega)) zje),(6,.call (zcn (zav s x st0 kk) (M:=3) (by decide) (zf7 (by omega) lvs hx3 zf5) (atF s (zbv s x.locs) kk) (za0.okB_mono (by decide) (by decide) _ (zdv hs3 hw9 _ _))) zfy),(9,.call (zj9 s x (L:=3) (M:=3) (by decide) hs3 hx3) kr_7)] [(8,vb (za0.holds (zav s x st0 kk) (atF s (zbv s x.locs) kk) == zcw s x))] [] h fun a w h=>qV (rT (.c (.d (.raw (.bool (za0.holds (zav s x st0 kk) (atF s (zbv s x.locs) kk) == zcw s x))))) h rfl ?_))))
     have hz:(za0.holds (zav s x st0 kk) (atF s (zbv s x.locs) kk) == zcw s x)=true:=by rw [show za0.holds (zav s x st0 kk) (atF s (zbv s x.locs) kk)=zcw s x from zee (zfe hc2) lvs (by omega) hf9];simp
     rw [hz];try rfl
    rw [hc29] at h;refine Jq 10 [(1,.cmp (op:=.geq) (m:=act) (n:=0) (b:=true) .i64 hc27),(6,.call (SRCan s x act (L:=3) (M:=3) (by decide) hs3 hx3) kq_14),(11,.cmpb .neq (m:=(can s x act)) (n:=false) (b:=false) (.inr ⟨rfl,(show (can s x act != false)=false from by rw [can_eq (zfe hc2) (k:=kk) lvs (by omega) hf9 (dT hc27),hc29];simp).symm⟩))] [(3,vN kk),(4,vp 8 0),(5,vp 9 0),(8,vb false),(9,.t (.c (.d (.sl 2 ((zav s x st0 kk).map ziD))))),(161,vb false)] [(8,.box (zak s)),(9,.box [.d (.sl 1 (x.locs.map zaj)),.d (.sl 2 (x.vals.map ziD))])] h fun a w h=>zaw false h rfl nofun (fun _=>qU (za1 (Jq 10 [(4,.call (zjp s x.locs kk hs3 hw9 (by omega) (by omega)) zje),(6,.call (zcn (zav s x st0 kk) (M:=3) (by decide) (zf7 (by omega) lvs hx3 zf5) (atF s (zbv s x.locs) kk) (za0.okB_mono (by decide) (by decide) _ (zdv hs3 hw9 _ _))) zfy),(9,.call (zj9 s x (L:=3) (M:=3) (by decide) hs3 hx3) kr_7)] [(8,vb (za0.holds (zav s x st0 kk) (atF s (zbv s x.locs) kk) == zcw s x))] [] h fun a w h=>qV (rT (.c (.d (.raw (.bool (za0.holds (zav s x st0 kk) (atF s (zbv s x.locs) kk) == zcw s x))))) h rfl ?_))))
    have hz:(za0.holds (zav s x st0 kk) (atF s (zbv s x.locs) kk) == zcw s x)=true:=by rw [show za0.holds (zav s x st0 kk) (atF s (zbv s x.locs) kk)=zcw s x from zee (zfe hc2) lvs (by omega) hf9];simp
    rw [hz];try rfl
   have hc30':=dF hc30;refine Je 10 [(1,.cmp (op:=.geq) (m:=act) (n:=0) (b:=false) .i64 hc30)] [2,18,19] [(161,vb false)] h fun a w h=>zaw false h rfl nofun (fun _=>qU (za1 (Jq 10 [(4,.call (zjp s x.locs kk hs3 hw9 (by omega) (by omega)) zje),(6,.call (zcn (zav s x st0 kk) (M:=3) (by decide) (zf7 (by omega) lvs hx3 zf5) (atF s (zbv s x.locs) kk) (za0.okB_mono (by decide) (by decide) _ (zdv hs3 hw9 _ _))) zfy),(9,.call (zj9 s x (L:=3) (M:=3) (by decide) hs3 hx3) kr_7)] [(8,vb (za0.holds (zav s x st0 kk) (atF s (zbv s x.locs) kk) == zcw s x))] [] h fun a w h=>qV (rT (.c (.d (.raw (.bool (za0.holds (zav s x st0 kk) (atF s (zbv s x.locs) kk) == zcw s x))))) h rfl ?_))))
   have hz:(za0.holds (zav s x st0 kk) (atF s (zbv s x.locs) kk) == zcw s x)=true:=by rw [show za0.holds (zav s x st0 kk) (atF s (zbv s x.locs) kk)=zcw s x from zee (zfe hc2) lvs (by omega) hf9];simp
   rw [hz];try rfl
  refine Je 10 [(2,.g (bD 24 ([x].map StD.d) [(23,.t (.agg [.d (.sl 1 (x.locs.map zaj)),.d (.sl 2 (x.vals.map ziD))]))] kx_3 (.cons (i:=0) (OV.tmp 23 _) (.nil)) (by kernel_rfl) (by simp [StD.d]))),(3,.call (Fn.cast (Lsmall s [x] hs (by intro x_ hx_;simp only [List.mem_cons,List.not_mem_nil,or_false] at hx_;subst hx_;assumption) (by simp)) (congrArg vb hc1)) mn1_2),(7,.call (Fn.cast (Lproper s hs3 hw9) (congrArg vb hc31)) mn1_3)] [21] [(40,vb true)] h fun a w h=>cS true h (fun _=>?_) nofun
  refine Je 10 [] [40] [(8,vb true)] h fun a w h=>qV (za7 (rT (.c (.d (.raw (.bool true)))) h rfl ?_));rfl
 refine Je 10 [(2,.g (bD 24 ([x].map StD.d) [(23,.t (.agg [.d (.sl 1 (x.locs.map zaj)),.d (.sl 2 (x.vals.map ziD))]))] kx_3 (.cons (i:=0) (OV.tmp 23 _) (.nil)) (by kernel_rfl) (by simp [StD.d]))),(3,.call (Fn.cast (Lsmall s [x] hs (by intro x_ hx_;simp only [List.mem_cons,List.not_mem_nil,or_false] at hx_;subst hx_;assumption) (by simp)) (congrArg vb hc32)) mn1_2)] [21] [(40,vb true)] h fun a w h=>cS true h (fun _=>?_) nofun
 refine Je 10 [] [40] [(8,vb true)] h fun a w h=>qV (za7 (rT (.c (.d (.raw (.bool true)))) h rfl ?_));rfl
theorem LWpCansW (s:zao) (x:StD) (act k:Int) (hs:SysRd s) (hx:StRd x):Fn Tryz.prog 4 [] [vd (zao.d s),vd (StD.d x),vi .i64 act,vi .i64 k] (vb true) [] :=
 LWpCans s x act k hs hx
end S
end Go.Proofs.YtckmanpooapkpaaGreat
section
namespace Go.Proofs.YtckmanpooapkpaaGreat.wpCansDone
open Go.ChangeShapes Go.WideShapes Go.ChangeAt Go.RowKit
open Go.ChangeMaps (open_string shut_string)
open Go.Proofs.YtckmanpooapkpaaGreat.S

theorem own:ownKnob Tryz.prog.godebug=none:=by kernel_rfl
theorem laidOut:laidOutB Tryz.prog=true:=by kernel_rfl

theorem lifted (os:Os) (started:os.Started) (H:Type) (enc:TypeId × Value->H) :
  ReturnsInHanded {} Tryz.checked os 4 .any (Rows.wpCansSpec.pre6 enc Tryz.prog Tryz.f4 Rows.wpCansRow.domain false) (Rows.wpCansSpec.post enc Tryz.prog Tryz.f4 false true false false):=by
 refine returnsInHanded_of_change (C:=Tryz.checked) own started (by kernel_rfl) Tryz.func4
  (ChangeSpec.witness6 (enc:=enc) (C:=Tryz.checked) false ⟨#[],#[.agg #[.slice none 0 0,.slice none 0 0,.int .i64 0,.slice none 0 0,.bool false,.slice none 0 0,.bool false,.slice none 0 0,.slice none 0 0,.slice none 0 0],.agg #[.slice none 0 0,.slice none 0 0],.int .i64 0,.int .i64 0],[]⟩ 12 (by kernel_rfl) (by kernel_rfl) (by kernel_rfl) (by kernel_rfl)) ?_
 intro W base args ds gs before hval0 hW hcnd _
 have hval:∀ (j:Nat) t v,Tryz.f4.params[j]?=some t->args[j]?=some v->Value.okWide Tryz.prog W .any base t v:=hval0
 have hW':=hW
 obtain ⟨p,q,hA0,hV,rfl,hfz,hnd⟩:=hW
 have hA:DataW.TrodAll enc Tryz.prog W 0 (fun _=>true) true Tryz.f4.params.toList args.toList ds p:=hA0
 rw [Tryz.params4] at hA hval
 obtain ⟨v0,vs0,d0,ds0,p0,q0,hargs,rfl,rfl,h0,r0⟩:=trodAll_cons hA
 obtain ⟨v1,vs1,d1,ds1,p1,q1,rfl,rfl,rfl,h1,r1⟩:=trodAll_cons r0
 obtain ⟨v2,vs2,d2,ds2,p2,q2,rfl,rfl,rfl,h2,r2⟩:=trodAll_cons r1
 obtain ⟨v3,vs3,d3,ds3,p3,q3,rfl,rfl,rfl,h3,r3⟩:=trodAll_cons r2
 obtain ⟨rfl,rfl,rfl⟩:=trodAll_nil r3
 obtain rfl:args=#[v0,v1,v2,v3]:=by cases args;simp_all
 obtain ⟨rfl,rfl⟩:=trodVars_none hV
 have k0:=h0
 have lt0:∀ x ∈ p0,x.block<W.heap.size:=by obtain ⟨m,hm⟩:=k0;exact DataW.trod_lt m _ _ _ hm
 obtain ⟨a0,cs0,g0,rfl,dr0⟩:=rep_agg Tryz.underlying39 (fun _=>rep_Sys) (hval 0 39 v0 rfl rfl) h0
 have k1:=h1
 have lt1:∀ x ∈ p1,x.block<W.heap.size:=by obtain ⟨m,hm⟩:=k1;exact DataW.trod_lt m _ _ _ hm
 obtain ⟨a1,cs1,g1,rfl,dr1⟩:=rep_agg Tryz.underlying43 (fun _=>rep_State) (hval 1 43 v1 rfl rfl) h1
 obtain ⟨a2,rfl,rfl,rfl,g20⟩:=open_int Tryz.underlying3 (hval 2 3 v2 rfl rfl) h2
 have g2:-9223372036854775808<=a2/\a2<=9223372036854775807:=by have:=bounds_i64 g20;omega
 obtain ⟨a3,rfl,rfl,rfl,g30⟩:=open_int Tryz.underlying3 (hval 3 3 v3 rfl rfl) h3
 have g3:-9223372036854775808<=a3/\a3<=9223372036854775807:=by have:=bounds_i64 g30;omega
 clear hA0 hval0
 refine ((LWpCansW a0 a1 a2 a3 g0 g1).calls (w:=W) (vals:=[.agg ⟨cs0⟩,.agg ⟨cs1⟩,.int .i64 a2,.int .i64 a3]) fun B=>⟨dr_vd dr0 B,dr_vd dr1 B,DR.raw _ rfl,DR.raw _ rfl,trivial⟩).mono fun e W' ⟨he,bel⟩=>?_
 subst he
 exact ⟨_,rfl,_,_,_,[],_,[],hW', trodAll_mk1 (shut_bool Tryz.underlying4 _),(trodAll_cons_mk (Below.trod laidOut (by kernel_rfl) (of_decide_eq_true (by kernel_rfl)) k0 bel lt0) (trodAll_cons_mk (Below.trod laidOut (by kernel_rfl) (of_decide_eq_true (by kernel_rfl)) k1 bel lt1) (trodAll_cons_mk (shut_int Tryz.underlying3 g20) (trodAll_cons_mk (shut_int Tryz.underlying3 g30) trodAll_mk0)))),rfl,bel.below.frame _,fun h=>by cases h⟩

theorem over:Rows.wpCansRow.holds Tryz.pinned (OpenSpec.ofChange Rows.wpCansSpec) :=
 OpenClaim.holds_of_wide 4 Tryz.f4 rfl rfl rfl rfl rfl rfl rfl ⟨rfl,rfl,rfl,rfl,rfl⟩ rfl rfl rfl rfl rfl (by kernel_rfl) Tryz.func4 (by kernel_rfl)
  (of_decide_eq_true (by kernel_rfl)) (by unfold Func.isWrapper;first | (rw [if_pos (by decide +kernel)];kernel_rfl) | (rw [if_neg (by decide +kernel)];exact ⟨rfl,rfl⟩))
  (fun os started H enc _=>lifted os started H enc)

theorem proved:Rows.WpCansSaid:=over
end Go.Proofs.YtckmanpooapkpaaGreat.wpCansDone
end
