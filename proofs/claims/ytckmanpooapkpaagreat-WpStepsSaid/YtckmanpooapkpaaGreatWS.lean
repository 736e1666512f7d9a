/-
  The proof of the statement WpSteps: the walk through the program and the references lifted to the given row. It holds for every input.
-/
import Derived.Test.YtckmanpooapkpaaGreatWS5
import Derived.Test.YtckmanpooapkpaaGreatWS4
import Derived.Test.YtckmanpooapkpaaGreatRows
import Derived.Test.YtckmanpooapkpaaGreatWS2
set_option maxRecDepth 100000
set_option maxHeartbeats 20000000
open Go.RowKit
namespace Go.Proofs.YtckmanpooapkpaaGreat
namespace S
theorem mf5_8:za4 Tryz.prog 29:=za4.mk' (by kernel_rfl)
theorem mf5_11:za4 Tryz.prog 25:=za4.mk' (by kernel_rfl)
theorem sameI_end {xs ys:List Int} {j:Nat} (h:xs.length<=j) (hl:xs.length=ys.length) (hI:xs.take j=ys.take j):xs=ys:=by rwa [List.take_of_length_le h,List.take_of_length_le (by omega)] at hI
theorem sameI_at {xs ys:List Int} {j:Nat} {x y:Int} (hx:xs[j]?=some x) (hy:ys[j]?=some y) (hI:xs.take j=ys.take j) (e:x=y):xs.take (j+1)=ys.take (j+1):=by rw [List.take_add_one,List.take_add_one,hx,hy,hI,e]
theorem sameI_no {xs ys:List Int} {j:Nat} {x y:Int} (hx:xs[j]?=some x) (hy:ys[j]?=some y) (e:x≠y):xs≠ys:=fun h=>by subst h;rw [hx] at hy;injection hy with hy;exact e hy
theorem rel_psok {n L:Nat} {t:zak} (h:TOk n L t) (hn:n<=1000:=by decide) (hL:L<=40000:=by decide):PsOk 40000 t.parts:=⟨Nat.le_trans h.len hn,fun p hp=>⟨(h.ps p hp).1,Nat.le_trans (h.ps p hp).2 hL⟩⟩
def za0.vars (f:za0):List Int:=f.fold fun k r _ vs=>if k=2 then zc6 r.t.parts else (cnt k vs).foldl (fun a v=>v.foldl ze8 a) []
theorem za0.vars_eq (f:za0):f.vars=if f.kind=2 then zc6 f.r.t.parts else (cnt f.kind f.kids).foldl (fun a g=>(za0.vars g).foldl ze8 a) []:=by
 have:=za0.fold_eq (fun k r _ (vs:List (List Int))=>if k=2 then zc6 r.t.parts else (cnt k vs).foldl (fun a v=>v.foldl ze8 a) []) f
 rw [zdd,List.foldl_map] at this;exact this
theorem foldl_take_v {ks:List za0} {j:Nat} {g:za0} (h:ks[j]?=some g):(ks.take (j+1)).foldl (fun a g=>(za0.vars g).foldl ze8 a) []=(za0.vars g).foldl ze8 ((ks.take j).foldl (fun a g=>(za0.vars g).foldl ze8 a) []):=by
 rw [List.take_add_one,h,List.foldl_append];rfl
theorem insF_len (vs a:List Int):(vs.foldl ze8 a).length<=a.length+vs.length:=by
 induction vs generalizing a with
 | nil=>exact Nat.le_refl _
 | cons v vs ih=>rw [List.foldl_cons,List.length_cons];have:=ih (ze8 a v);have:=zko a v;omega
theorem vf_len (gs:List za0) (a:List Int):(gs.foldl (fun a g=>(za0.vars g).foldl ze8 a) a).length<=a.length+(gs.map fun g=>g.vars.length).sum:=by
 induction gs generalizing a with
 | nil=>simp
 | cons g gs ih =>
  rw [List.foldl_cons,List.map_cons,List.sum_cons]
  have h1:=ih (g.vars.foldl ze8 a)
  have h2:=insF_len g.vars a
  omega
theorem sum_mul40 {F G:za0->Nat}:∀ {xs:List za0}, (∀ x ∈ xs,F x<=40*G x)->(xs.map F).sum<=40*(xs.map G).sum
 | [],_=>Nat.le_refl _
 | x :: xs,h=>by
  rw [List.map_cons,List.map_cons,List.sum_cons,List.sum_cons]
  have:=h x (List.mem_cons_self ..);have:=sum_mul40 (xs:=xs) fun y hy=>h y (List.mem_cons_of_mem _ hy);omega
theorem vars_len (f:za0):f.okB 40 400->f.vars.length<=40*f.wid :=
 za0.ind (P:=fun f=>f.okB 40 400->f.vars.length<=40*f.wid) (fun k r ks ih hf=>by
  rw [za0.vars_eq,za0.wid_eq]
  split
  ·rename_i e
   have h1:=zhr (za0.mk k r ks).r.t.parts
   have h2:=(((za0.okB_eq _ _ _).1 hf).1.1 e).len
   omega
  ·have h1:=vf_len (cnt k ks) []
   have h2:((cnt k ks).map fun g=>g.vars.length).sum<=40*((cnt k ks).map za0.wid).sum:=sum_mul40 fun g hg=>ih g (zbe hg) (zfq hf hg)
   show ((cnt k ks).foldl (fun a g=>(za0.vars g).foldl ze8 a) []).length<=40*(3+((cnt k ks).map za0.wid).sum)
   simp only [List.length_nil] at h1
   omega) f
theorem vars_room {f x:za0} (hf:f.okB 40 400) {j:Nat} (hx:(cnt f.kind f.kids)[j]?=some x):(((cnt f.kind f.kids).take j).foldl (fun a g=>(za0.vars g).foldl ze8 a) []).length+x.vars.length<=40*f.wid:=by
 have h1:=vf_len ((cnt f.kind f.kids).take j) []
 have h2:((cnt f.kind f.kids).map fun g=>g.vars.length).sum<=40*((cnt f.kind f.kids).map za0.wid).sum:=sum_mul40 fun g hg=>vars_len g (zfq hf hg)
 have h3:=za0.wid_eq f
 have h4:(((cnt f.kind f.kids).take j).map fun g=>g.vars.length).sum+x.vars.length<=((cnt f.kind f.kids).map fun g=>g.vars.length).sum:=by
  obtain ⟨hj,rfl⟩:=List.getElem?_eq_some_iff.1 hx
  have e:(cnt f.kind f.kids)=(cnt f.kind f.kids).take j++(cnt f.kind f.kids)[j] :: (cnt f.kind f.kids).drop (j+1):=by rw [<- List.drop_eq_getElem_cons hj,List.take_append_drop]
  have e2:=congrArg (fun l:List za0=>(l.map fun g=>g.vars.length).sum) e
  simp only [List.map_append,List.sum_append,List.map_cons,List.sum_cons] at e2
  omega
 simp only [List.length_nil] at h1
 omega
def inB (s:zao) (f:za0):Bool:=match f.vars.getLast? with | none=>true | some v=>decide (v<(s.vars.length:Int))
def proB (s:zao):Bool:=inB s s.init && s.acts.all fun c=>inB s c.guard && c.moves.all fun m=>inB s (zdh ⟨m.t,false⟩)
def zk0 (s:zao) (x y:StD) (k:Nat):List ZI:=(List.replicate (k*s.vars.length) zdk++x.vals)++y.vals
def smB (s:zao) (xs:List StD):Bool:=xs.all (zgd 3) && zbo 3 s
theorem last_at {vs:List Int} {j:Nat} {v:Int} (hj:vs[j]?=some v) (h:j+1=vs.length):vs.getLast?=some v:=by
 rw [List.getLast?_eq_getElem?, show vs.length - 1=j by omega];exact hj
theorem LR4HoldsW (r:zb1) (vs:List ZI) {M:Nat} (hM:M<=300) (hv:VOk M vs) (hr:TOk 1000 1000 r.t):Fn Tryz.prog 40 [] [(vR r),(vZs vs)] (vb (zcd vs r)) []:=by
 refine Fn.body Tryz.func40 rfl 17 rfl fun w H B a h=>Jq 0 [] [(1,(vZs vs)),(2,vp 0 0),(4,vb false)] [(0,.box (zR_ r))] h fun a w h=>?_
 obtain ⟨r1,er1,vr1,or1,lr1⟩:=mkZ (v:=zec r.t vs) (m:=1600) (Nat.le_trans (valT_len hr (by decide) hv) (by omega));refine Je 1 [(3,.call (Fn.cast (SRValue r.t vs hr (by decide) (by omega) hv) (congrArg vz er1.symm)) ke_2),(4,.call (zdi r1 or1 (by omega)) ib_0)] [1] [(5,vI (sgn r1.val))] h fun a w h=>qW (Jd 1 [] [2] [(12,vb r.eq)] [] h fun a w h=>cS r.eq h (fun hc1=>?_) (fun hc2=>?_))
 ·refine Jd 1 [] [12] [(4,vb (sgn r1.val == 0))] [] h fun a w h=>qV (za6 (rT (.c (cB (sgn r1.val == 0))) h rfl ?_))
  have hz:zcd vs r=(sgn r1.val == 0):=by
   unfold zcd;rw [<- vr1]
   cases he:r.eq <;> simp_all <;> omega
  rw [hz];try rfl
 refine qU (za1 (Jq 1 [] [(4,vb (decide (sgn r1.val>=0)))] [] h fun a w h=>qV (rT (.c (cB (decide (sgn r1.val>=0)))) h rfl ?_)))
 have hz:zcd vs r=(decide (sgn r1.val>=0)):=by
  unfold zcd;rw [<- vr1]
  cases he:r.eq <;> simp_all <;> omega
 rw [hz];try rfl
theorem LR5HoldsW0 (f:za0) (vs:List ZI) {M:Nat} (ih:∀ g ∈ f.kids,g.okB 1000 1000->Fn Tryz.prog 12 [] [(vF g),(vZs vs)] (vb (za0.holds vs g)) []) (hM:M<=300) (hv:VOk M vs) (hf:f.okB 1000 1000):Fn Tryz.prog 12 [] [(vF f),(vZs vs)] (vb (f.holds vs)) []:=by
 have hk:=zdb hf;refine Fn.body Tryz.func12 rfl 65 rfl fun w H B a h=>Jq 0 [] [(1,(vZs vs)),(2,vp 0 0),(4,vb false)] [(0,.box (zF f))] h fun a w h=>qW (Je 1 [] [] [(8,vI f.kind)] h fun a w h=>qZ (Je 1 [] [] [(9,vb (f.kind == 0))] h fun a w h=>cS (f.kind == 0) h (fun hc1=>?_) (fun hc2=>?_)))
 ·have hc1':=hc1;(try simp at hc1');refine Jq 1 [] [(4,vb true)] [] h fun a w h=>qV (zac (za6 (rT (.c (cB true)) h rfl ?_)));have hz:f.holds vs=(true):=by rw [za0.holds_eq,if_pos (by omega)];try rfl
  rw [hz];try rfl
 have hc2':=hc2;(try simp at hc2');refine Je 1 [] [9] [(11,vb (f.kind == 2))] h fun a w h=>cS (f.kind == 2) h (fun hc3=>?_) (fun hc4=>?_)
 ·have hc3':=hc3;(try simp at hc3');refine Jq 1 [(3,.call (LR4HoldsW f.r vs hM hv (((za0.okB_eq _ _ f).1 hf).1.1 (by omega))) ke_9)] [(4,vb (zcd vs f.r))] [] h fun a w h=>qV (zac (za6 (rT (.c (cB (zcd vs f.r))) h rfl ?_)));have hz:f.holds vs=(zcd vs f.r):=by rw [za0.holds_eq,if_neg (by omega),if_pos (by omega)];try rfl
  rw [hz];try rfl
 have hc4':=hc4;(try simp at hc4');refine Je 1 [] [11] [(17,vb (f.kind == 3))] h fun a w h=>cS (f.kind == 3) h (fun hc5=>?_) (fun hc8=>?_)
 ·have hc5':=hc5;(try simp at hc5')
  rcases Bool.eq_false_or_eq_true (decide ((f.kids.length:Int)>0)) with hc6 | hc7
  ·have hc6':=dT hc6;obtain ⟨x2,hx2⟩:=gl f.kids 0;refine Jq 1 [(2,.len (za7 6 za0.d f.kids)),(3,.cmp (op:=.gtr) (m:=(f.kids.length:Int)) (n:=0) (b:=true) .i64 hc6),(7,.g (xD 26 25 kb_0 ((zab hx2 (f:=za0.d)).trans (congrArg some (za0.d_eq x2))) (OV.const (.int .i64 0) rfl))),(10,.call (ih x2 (lM hx2) (zfq hf (by unfold cnt;first | (rw [if_pos (by omega)];exact lM hx2) | (rw [if_neg (by omega),if_pos (by omega)];exact zes hx2)))) ke_10)] [(4,vb (!(za0.holds vs x2)))] [] h fun a w h=>qV (zac (za6 (rT (.c (cB (!(za0.holds vs x2)))) h rfl ?_)));have hz:f.holds vs=(!(za0.holds vs x2)):=by rw [za0.holds_eq,if_neg (by omega),if_neg (by omega),if_pos (by omega)];obtain ⟨tl,htl⟩:=zj6 hx2;rw [htl];try rfl
   rw [hz];try rfl
  have hc7':=dF hc7;refine Jq 1 [(2,.len (za7 6 za0.d f.kids)),(3,.cmp (op:=.gtr) (m:=(f.kids.length:Int)) (n:=0) (b:=false) .i64 hc7)] [(4,vb false)] [] h fun a w h=>qV (zac (za6 (rT (.c (cB false)) h rfl ?_)));have hz:f.holds vs=(false):=by rw [za0.holds_eq,if_neg (by omega),if_neg (by omega),if_pos (by omega)];rw [List.length_eq_zero_iff.1 (show f.kids.length=0 by have:=dF hc7;omega)];try rfl
  rw [hz];try rfl
 have hc8':=hc8;(try simp at hc8');refine Je 1 [] [17] [(32,vb (f.kind == 4))] h fun a w h=>cS (f.kind == 4) h (fun hc9=>?_) (fun hc14=>?_)
 ·have hc9':=hc9;(try simp at hc9');refine qW (Je 1 [] [8,32] [(5,vI 0)] h fun a w h=>qZ ?_)
  refine zar (ι:=(Nat)) (fun j=>j<=f.kids.length/\(f.kids.take j).all (za0.holds vs)=true)
    (fun j=>[(1,(vZs vs)),(2,vp 0 0),(5,vN j)])
    (fun j=>[(0,.box (zF f))])
    (fun j=>f.kids.length - j) 0 ?_ h (by kernel_rfl) (by kernel_rfl) ?_
  ·exact ⟨Nat.zero_le _,rfl⟩
  clear h;rintro j a w hI h;obtain ⟨hI1,hI2⟩:=hI;refine qW (Je 1 [(3,.len (za7 6 za0.d f.kids))] [] [(38,vb (decide ((j:Int)<(f.kids.length:Int))))] h fun a w h=>zam ((j:Int)<(f.kids.length:Int)) h (fun hc10 hc10'=>?_) (fun hc13 hc13'=>?_))
  ·refine qU (za1 (qW (qZ ?_)));obtain ⟨x4,hx4⟩:=gl f.kids j;refine Je 1 [(3,.g (xD 44 42 kb_0 ((zab hx4 (f:=za0.d)).trans (congrArg some (za0.d_eq x4))) (OV.tmp 43 _))),(6,.call (ih x4 (lM hx4) (zfq hf (by unfold cnt;first | (rw [if_pos (by omega)];exact lM hx4) | (rw [if_neg (by omega),if_pos (by omega)];exact zes hx4)))) ke_10)] [38] [(48,vb (!(za0.holds vs x4)))] h fun a w h=>cS (!(za0.holds vs x4)) h (fun hc11=>?_) (fun hc12=>?_)
   ·have hc11':=hc11;(try simp at hc11');refine Je 1 [] [48] [(4,vb false)] h fun a w h=>qV (zac (za6 (za6 (zac (za6 (zac (za6 (rT (.c (cB false)) h rfl ?_))))))));have hz:f.holds vs=(false):=by rw [za0.holds_eq,if_neg (by omega),if_neg (by omega),if_neg (by omega),if_pos (by omega)];exact zbn hx4 (show (za0.holds vs x4)=false from by simpa using hc11)
    rw [hz];try rfl
   have hc12':=hc12;(try simp at hc12');refine qU (za8 (za1 (Jf 1 [(1,.j1 j)] [48] [(5,vI ((j:Int)+1))] h fun a w h=>za1 (zag (x:=j) (y:=j+1) h ?_ ?_))))
   ·exact ⟨by have:=zai hx4;omega,zcq hx4 hI2 (show (za0.holds vs x4)=true from by simpa using hc12)⟩
   show f.kids.length - (j+1)<f.kids.length - j;have:=zai hx4;omega
  refine wp_exit (za9 (za9 (za5 (za1 (Jq 1 [] [(4,vb true)] [] h fun a w h=>qV (zac (za6 (rT (.c (cB true)) h rfl ?_))))))));have hz:f.holds vs=(true):=by rw [za0.holds_eq,if_neg (by omega),if_neg (by omega),if_neg (by omega),if_pos (by omega)];exact zct (dF hc13) hI2
  rw [hz];try rfl
 have hc14':=hc14;(try simp at hc14');refine Je 1 [] [8,32] [(49,vb (f.kind == 5))] h fun a w h=>cS (f.kind == 5) h (fun hc15=>?_) (fun hc20=>?_)
 ·have hc15':=hc15;(try simp at hc15');refine Je 1 [] [49] [(6,vI 0)] h fun a w h=>qZ ?_
  refine zar (ι:=(Nat)) (fun j=>j<=f.kids.length/\(f.kids.take j).any (za0.holds vs)=false)
    (fun j=>[(1,(vZs vs)),(2,vp 0 0),(6,vN j)])
    (fun j=>[(0,.box (zF f))])
    (fun j=>f.kids.length - j) 0 ?_ h (by kernel_rfl) (by kernel_rfl) ?_
  ·exact ⟨Nat.zero_le _,rfl⟩
  clear h;rintro j a w hI h;obtain ⟨hI1,hI2⟩:=hI;refine qW (Je 1 [(3,.len (za7 6 za0.d f.kids))] [] [(55,vb (decide ((j:Int)<(f.kids.length:Int))))] h fun a w h=>zam ((j:Int)<(f.kids.length:Int)) h (fun hc16 hc16'=>?_) (fun hc19 hc19'=>?_))
  ·refine qU (za1 (qW (qZ ?_)));obtain ⟨x6,hx6⟩:=gl f.kids j;refine Je 1 [(3,.g (xD 61 59 kb_0 ((zab hx6 (f:=za0.d)).trans (congrArg some (za0.d_eq x6))) (OV.tmp 60 _))),(6,.call (ih x6 (lM hx6) (zfq hf (by unfold cnt;first | (rw [if_pos (by omega)];exact lM hx6) | (rw [if_neg (by omega),if_pos (by omega)];exact zes hx6)))) ke_10)] [55] [(64,vb (za0.holds vs x6))] h fun a w h=>cS (za0.holds vs x6) h (fun hc17=>?_) (fun hc18=>?_)
   ·refine Je 1 [] [64] [(4,vb true)] h fun a w h=>qV (zac (za6 (za6 (zac (zac (za6 (rT (.c (cB true)) h rfl ?_)))))));have hz:f.holds vs=(true):=by rw [za0.holds_eq,if_neg (by omega),if_neg (by omega),if_neg (by omega),if_neg (by omega),if_pos (by omega)];exact zkt hx6 hc17
    rw [hz];try rfl
   refine qU (za8 (za1 (Jf 1 [(1,.j1 j)] [64] [(6,vI ((j:Int)+1))] h fun a w h=>za1 (zag (x:=j) (y:=j+1) h ?_ ?_))))
   ·exact ⟨by have:=zai hx6;omega,any_step hx6 hI2 hc18⟩
   show f.kids.length - (j+1)<f.kids.length - j;have:=zai hx6;omega
  refine wp_exit (za9 (za9 (za5 (za8 (za1 (Jq 1 [] [(4,vb false)] [] h fun a w h=>qV (rT (.c (cB false)) h rfl ?_)))))));have hz:f.holds vs=(false):=by rw [za0.holds_eq,if_neg (by omega),if_neg (by omega),if_neg (by omega),if_neg (by omega),if_pos (by omega)];exact any_end (dF hc19) hI2
  rw [hz];try rfl
 have hc20':=hc20;(try simp at hc20');refine qU (za8 (za1 (Jq 1 [] [(4,vb false)] [] h fun a w h=>qV (rT (.c (cB false)) h rfl ?_))));have hz:f.holds vs=(false):=by rw [za0.holds_eq,if_neg (by omega),if_neg (by omega),if_neg (by omega),if_neg (by omega),if_neg (by omega)];try rfl
 rw [hz];try rfl
theorem LR5HoldsW (vs:List ZI) {M:Nat} (hM:M<=300) (hv:VOk M vs) (f:za0):f.okB 1000 1000->Fn Tryz.prog 12 [] [(vF f),(vZs vs)] (vb (za0.holds vs f)) [] :=
 za0.ind (P:=fun f=>f.okB 1000 1000->Fn Tryz.prog 12 [] [(vF f),(vZs vs)] (vb (za0.holds vs f)) []) (fun k r ks ih hf=>LR5HoldsW0 ⟨k,r,ks⟩ vs (fun g hg h=>ih g hg h) hM hv hf) f
theorem LR5Vars0 (f:za0) (ih:∀ g ∈ (cnt f.kind f.kids),Fn Tryz.prog 29 [] [(vF g)] (vIs (za0.vars g)) []) (hf:f.okB 40 400) (hw:f.wid<=20000):Fn Tryz.prog 29 [] [(vF f)] (vIs (za0.vars f)) []:=by
 have lck:=zey hf;have lkm:=zdb hf;refine Fn.body Tryz.func29 rfl 42 rfl fun w H B a h=>Jq 0 [] [(1,vp 0 0),(2,vW zaf)] [(0,.box (zF f))] h fun a w h=>Je 1 [(0,.g (Op.buildED (d:=8) tb_0))] [] [(3,(vIs []))] h fun a w h=>qW (Je 1 [] [] [(11,vb (f.kind == 2))] h fun a w h=>cS (f.kind == 2) h (fun hc1=>?_) (fun hc2=>?_))
 ·have hc1':=hc1;(try simp at hc1');refine Je 1 [(3,.call (SVars f.r.t (rel_psok (rel_ok hf hc1))) tb_8)] [11] [(2,(vIs (zc6 f.r.t.parts)))] h fun a w h=>qV (za6 (rT (.c (cIs (zc6 f.r.t.parts))) h rfl ?_));have hz:f.vars=zc6 f.r.t.parts:=by rw [za0.vars_eq,if_pos (by have:=hc1;simpa using this)]
  rw [hz];try rfl
 have hc2':=hc2;(try simp at hc2');refine qU (za1 (Jd 1 [(1,.call (SKids f) kc_0)] [1,11] [(4,(vFs (cnt f.kind f.kids)))] [] h fun a w h=>qW (Jd 1 [] [] [(5,vI 0)] [] h fun a w h=>qZ ?_)))
 refine zar (ι:=(Nat)) (fun j=>j<=(cnt f.kind f.kids).length)
   (fun j=>[(2,vW zaf),(3,(vIs (((cnt f.kind f.kids).take j).foldl (fun a g=>(za0.vars g).foldl ze8 a) []))),(4,(vFs (cnt f.kind f.kids))),(5,vN j)])
   (fun j=>[])
   (fun j=>(cnt f.kind f.kids).length - j) 0 ?_ h (by kernel_rfl) (by kernel_rfl) ?_
 ·exact Nat.zero_le _
 clear h;rintro j a w hI h;refine qW (Jd 1 [(2,.len (za7 6 za0.d (cnt f.kind f.kids)))] [] [(21,vb (decide ((j:Int)<((cnt f.kind f.kids).length:Int))))] [] h fun a w h=>zam ((j:Int)<((cnt f.kind f.kids).length:Int)) h (fun hc3 hc3'=>?_) (fun hc6 hc6'=>?_))
 ·refine qU (za1 (qW (qZ ?_)));obtain ⟨x3,hx3⟩:=gl (cnt f.kind f.kids) j;refine Jd 1 [(2,.g (xD 26 24 kb_0 ((zab hx3 (f:=za0.d)).trans (congrArg some (za0.d_eq x3))) (OV.tmp 25 _))),(4,.call (ih x3 (lM hx3)) mf5_8)] [21] [(6,(vIs (za0.vars x3)))] [] h fun a w h=>Jd 1 [] [] [(7,vI 0)] [] h fun a w h=>qZ ?_
  refine zar (ι:=(Nat)) (fun i=>i<=(za0.vars x3).length)
    (fun i=>[(2,vW zaf),(3,(vIs (((za0.vars x3).take i).foldl ze8 (((cnt f.kind f.kids).take j).foldl (fun a g=>(za0.vars g).foldl ze8 a) [])))),(4,(vFs (cnt f.kind f.kids))),(5,vN j),(6,(vIs (za0.vars x3))),(7,vN i)])
    (fun i=>[])
    (fun i=>(za0.vars x3).length - i) 0 ?_ h (by kernel_rfl) (by kernel_rfl) ?_
  ·exact Nat.zero_le _
  clear h;rintro i a w hI h;have lvi:=insF_len ((za0.vars x3).take i) (((cnt f.kind f.kids).take j).foldl (fun a g=>(za0.vars g).foldl ze8 a) []);have lti:((za0.vars x3).take i).length<=i:=by rw [List.length_take];omega
  have lvr:=vars_room hf hx3;refine qW (Jd 1 [(2,.len (za7 1 zaj (za0.vars x3)))] [] [(32,vb (decide ((i:Int)<((za0.vars x3).length:Int))))] [] h fun a w h=>zam ((i:Int)<((za0.vars x3).length:Int)) h (fun hc4 hc4'=>?_) (fun hc5 hc5'=>?_))
  ·refine qU (za1 (qW (qZ ?_)));obtain ⟨x5,hx5⟩:=gl (za0.vars x3) i;refine Jm 1 [(3,.g (xD 38 36 zgx (zab hx5 (f:=zaj)) (OV.tmp 37 _))),(5,.call (SInsert (((za0.vars x3).take i).foldl ze8 (((cnt f.kind f.kids).take j).foldl (fun a g=>(za0.vars g).foldl ze8 a) [])) x5 (by omega)) tb_6)] [32] [(3,(vIs (ze8 (((za0.vars x3).take i).foldl ze8 (((cnt f.kind f.kids).take j).foldl (fun a g=>(za0.vars g).foldl ze8 a) [])) x5)))] [] h fun a w h=>za8 (za1 (Jm 1 [(1,.j1 i)] [] [(7,vI ((i:Int)+1))] [] h fun a w h=>za1 ?_));rw [show ((ze8 (((za0.vars x3).take i).foldl ze8 (((cnt f.kind f.kids).take j).foldl (fun a g=>(za0.vars g).foldl ze8 a) [])) x5):List Int)=(((za0.vars x3).take (i+1)).foldl ze8 (((cnt f.kind f.kids).take j).foldl (fun a g=>(za0.vars g).foldl ze8 a) [])) from (by rw [List.take_add_one,hx5,List.foldl_append];rfl)] at h;refine zag (x:=i) (y:=i+1) h ?_ ?_
   ·have:=zai hx5;show i+1<=(za0.vars x3).length;omega
   show (za0.vars x3).length - (i+1)<(za0.vars x3).length - i;have:=zai hx5;omega
  refine wp_exit (za9 (za9 (za5 (za8 (za1 (Jm 1 [(1,.j1 j)] [6,7,32] [(5,vI ((j:Int)+1))] [] h fun a w h=>za1 ?_))))));rw [show ((((za0.vars x3).take i).foldl ze8 (((cnt f.kind f.kids).take j).foldl (fun a g=>(za0.vars g).foldl ze8 a) [])):List Int)=(((cnt f.kind f.kids).take (j+1)).foldl (fun a g=>(za0.vars g).foldl ze8 a) []) from (by rw [show i=(za0.vars x3).length by omega,List.take_length];exact (foldl_take_v hx3).symm)] at h;refine zag (x:=j) (y:=j+1) h ?_ ?_
  ·have:=zai hx3;show j+1<=(cnt f.kind f.kids).length;omega
  show (cnt f.kind f.kids).length - (j+1)<(cnt f.kind f.kids).length - j;have:=zai hx3;omega
 refine wp_exit (za9 (za9 (za5 (za1 (Jq 1 [] [(2,(vIs (((cnt f.kind f.kids).take j).foldl (fun a g=>(za0.vars g).foldl ze8 a) [])))] [] h fun a w h=>qV (rT (.c (cIs (((cnt f.kind f.kids).take j).foldl (fun a g=>(za0.vars g).foldl ze8 a) []))) h rfl ?_))))));have hz:f.vars=(((cnt f.kind f.kids).take j).foldl (fun a g=>(za0.vars g).foldl ze8 a) []):=by rw [za0.vars_eq,if_neg (by have:=hc2;simpa using this),List.take_of_length_le (by omega)]
 rw [hz];try rfl
theorem LR5Vars (f:za0):f.okB 40 400->f.wid<=20000->Fn Tryz.prog 29 [] [(vF f)] (vIs (za0.vars f)) [] :=
 za0.ind (P:=fun f=>f.okB 40 400->f.wid<=20000->Fn Tryz.prog 29 [] [(vF f)] (vIs (za0.vars f)) []) (fun k r ks ih hf hw=>LR5Vars0 ⟨k,r,ks⟩ (fun g hg=>ih g (zbe hg) (zfq hf hg) (Nat.le_trans (wid_kid hg) hw)) hf hw) f
theorem Linside (s:zao) (f:za0) (hf:f.okB 40 400) (hw:f.wid<=20000):Fn Tryz.prog 25 [] [vG (zal s),(vF f)] (vb (inB s f)) []:=by
 have lvf:=vars_len f hf;refine Fn.body Tryz.func25 rfl 23 rfl fun w H B a h=>Jq 0 [] [(2,vp 0 0),(3,vp 1 0),(4,vb false)] [(0,.box (zal s)),(1,.box (zF f))] h fun a w h=>Jd 2 [(1,.call (LR5Vars f hf hw) mf5_8)] [3] [(5,(vIs (za0.vars f)))] [(0,.box (zal s))] h fun a w h=>?_
 rcases Bool.eq_false_or_eq_true (((za0.vars f).length:Int) == 0) with hc1 | hc2
 ·have hc1':=hc1;(try simp at hc1');refine Jq 2 [(1,.len (za7 1 zaj (za0.vars f))),(2,.cmp (op:=.eql) (m:=((za0.vars f).length:Int)) (n:=0) (b:=true) .i64 hc1)] [(4,vb true)] [] h fun a w h=>qV (rT (.c (cB true)) h rfl ?_);have hz:inB s f=true:=by unfold inB;rw [List.length_eq_zero_iff.1 (show (za0.vars f).length=0 by have:=beq_iff_eq.1 hc1;omega)];rfl
  rw [hz];try rfl
 have hc2':=hc2;(try simp at hc2');obtain ⟨jl,hjl⟩:∃ j_:Nat,j_+1=(za0.vars f).length:=⟨(za0.vars f).length - 1,by have:=beq_eq_false_iff_ne.1 hc2;omega⟩;obtain ⟨x2,hx2⟩:=gl (za0.vars f) jl;refine Jq 2 [(1,.len (za7 1 zaj (za0.vars f))),(2,.cmp (op:=.eql) (m:=((za0.vars f).length:Int)) (n:=0) (b:=false) .i64 hc2),(6,.len (za7 1 zaj (za0.vars f))),(7,.g (Op.arith (op:=.sub) (d:=15) (xt:=3) (yt:=3) (k:=.i64) (m:=((za0.vars f).length:Int)) (n:=1) (r:=(jl:Int)) (OV.tmp 14 _) (OV.const (.int .i64 1) rfl) (.inr (.inl ⟨rfl,(by omega)⟩)) i6)),(8,.g (xD 16 12 zgx (zab hx2 (f:=zaj)) (OV.tmp 15 _))),(12,.len (za7 1 zg9 s.vars))] [(4,vb (decide (x2<(s.vars.length:Int))))] [] h fun a w h=>qV (rT (.c (cB (decide (x2<(s.vars.length:Int))))) h rfl ?_);have hz:inB s f=(decide (x2<(s.vars.length:Int))):=by unfold inB;rw [last_at hx2 hjl]
 rw [hz];try rfl
theorem Lproper (s:zao) (hs:zb7 3 s) (hw:SysW s):Fn Tryz.prog 9 [] [vG (zal s)] (vb (proB s)) []:=by
 have las:=hs.acts;refine Fn.body Tryz.func9 rfl 40 rfl fun w H B a h=>Jq 0 [] [(1,vp 0 0),(2,vb false)] [(0,.box (zal s))] h fun a w h=>qW (Je 1 [(3,.call (Linside s s.init (za0.okB_mono (by decide) (by decide) _ (zg3 hs.init (by have:=hw.1;omega))) (by have:=hw.1;omega)) mf5_11)] [] [(11,vb (!(inB s s.init)))] h fun a w h=>cS (!(inB s s.init)) h (fun hc1=>?_) (fun hc2=>?_))
 ·have hc1':=hc1;(try simp at hc1');refine Je 1 [] [11] [] h fun a w h=>qV (za6 (rT (.c (cB false)) h rfl ?_));have hz:proB s=false:=by unfold proB;rw [(show (inB s s.init)=false from by simpa using hc1)];rfl
  rw [hz];try rfl
 have hc2':=hc2;(try simp at hc2');refine qU (za1 (qW (Je 1 [(2,.len (za7 10 zax.d s.acts))] [11] [(13,vS 10 (s.acts.map zax.d)),(14,vN s.acts.length),(15,vI 0)] h fun a w h=>qZ ?_)))
 refine zar (ι:=(Nat)) (fun j=>j<=s.acts.length/\(s.acts.take j).all (fun c=>inB s c.guard && c.moves.all fun m=>inB s (zdh ⟨m.t,false⟩))=true)
   (fun j=>[(1,vp 0 0),(13,vS 10 (s.acts.map zax.d)),(14,vN s.acts.length),(15,vN j)])
   (fun j=>[(0,.box (zal s))])
   (fun j=>s.acts.length - j) 0 ?_ h (by kernel_rfl) (by kernel_rfl) ?_
 ·exact ⟨Nat.zero_le _,rfl⟩
 clear h;rintro j a w hI h;obtain ⟨hP1,hP2⟩:=hI;refine Je 1 [] [] [(16,vb (decide ((j:Int)<(s.acts.length:Int))))] h fun a w h=>qW (zam ((j:Int)<(s.acts.length:Int)) h (fun hc3 hc3'=>?_) (fun hc10 hc10'=>?_))
 ·refine qU (za1 (qW (qZ ?_)));obtain ⟨x2,hx2⟩:=gl s.acts j;have hcx2:=hs.act x2 (lM hx2);have hgx2:=hw.2 x2 (lM hx2);have lmx2:=hcx2.len;refine Jd 1 [(0,.g (xD 17 13 ki_1 (zab hx2 (f:=zax.d)) (OV.tmp 15 _)))] [16] [(4,vp 1 0)] [(0,.box (zal s)),(1,.box ([cI x2.proc,cI x2.from_,cI x2.to_,cI x2.guard.kind,cPs x2.guard.r.t.parts]++zi x2.guard.r.t.k++[cB x2.guard.r.eq,cFs x2.guard.kids,.d (.sl 5 (x2.moves.map zad.d))]))] h fun a w h=>qW (Je 2 [(3,.call (Linside s x2.guard (za0.okB_mono (by decide) (by decide) _ (zg3 hcx2.guard (by omega))) (by omega)) mf5_11)] [] [(23,vb (!(inB s x2.guard)))] h fun a w h=>cS (!(inB s x2.guard)) h (fun hc4=>?_) (fun hc5=>?_))
  ·have hc4':=hc4;(try simp at hc4');refine Je 2 [] [23] [(2,vb false)] h fun a w h=>qV (za6 (zac (za6 (za6 (zac (za6 (rT (.c (cB false)) h rfl ?_)))))));have hz:proB s=false:=by unfold proB;rw [zbn (q:=(fun c=>inB s c.guard && c.moves.all fun m=>inB s (zdh ⟨m.t,false⟩))) hx2 (by show (inB s x2.guard && _)=false;rw [(show (inB s x2.guard)=false from by simpa using hc4)];rfl),Bool.and_false]
   rw [hz];try rfl
  have hc5':=hc5;(try simp at hc5');refine qU (za1 (Jd 2 [(2,.len (za7 5 zad.d x2.moves))] [4,23] [(25,vS 5 (x2.moves.map zad.d)),(26,vN x2.moves.length),(27,vI 0)] [(0,.box (zal s))] h fun a w h=>qZ ?_))
  refine zar (ι:=(Nat)) (fun i=>i<=x2.moves.length/\(x2.moves.take i).all (fun m=>inB s (zdh ⟨m.t,false⟩))=true)
    (fun i=>[(1,vp 0 0),(13,vS 10 (s.acts.map zax.d)),(14,vN s.acts.length),(15,vN j),(25,vS 5 (x2.moves.map zad.d)),(26,vN x2.moves.length),(27,vN i)])
    (fun i=>[(0,.box (zal s))])
    (fun i=>x2.moves.length - i) 0 ?_ h (by kernel_rfl) (by kernel_rfl) ?_
  ·exact ⟨Nat.zero_le _,rfl⟩
  clear h;rintro i a w hI h;obtain ⟨hQ1,hQ2⟩:=hI;refine Je 2 [] [] [(28,vb (decide ((i:Int)<(x2.moves.length:Int))))] h fun a w h=>qW (zam ((i:Int)<(x2.moves.length:Int)) h (fun hc6 hc6'=>?_) (fun hc9 hc9'=>?_))
  ·refine qU (za1 (qW (qZ ?_)));obtain ⟨x4,hx4⟩:=gl x2.moves i;refine Jd 2 [(0,.g (xD 29 25 ki_2 (zab hx4 (f:=zad.d)) (OV.tmp 27 _)))] [28] [(6,vp 2 0)] [(0,.box (zal s)),(2,.box ([cI x4.v,cB x4.any,cPs x4.t.parts]++zi x4.t.k))] h fun a w h=>Jd 3 [(4,.call (LR5Atom (zb1.mk x4.t false) ((hcx2.mv x4 (lM hx4)).mono (by decide) (by decide))) ls19_8),(5,.call (Linside s (zdh (zb1.mk x4.t false)) (za0.okB_mono (by decide) (by decide) _ (okB_atom ((hcx2.mv x4 (lM hx4)).plain (by decide)))) (by rw [za0.wid_eq];show 3+(List.map za0.wid (cnt (2:Int) [])).sum<=20000;decide)) mf5_11)] [6] [(37,vb (!(inB s (zdh (zb1.mk x4.t false)))))] [(0,.box (zal s))] h fun a w h=>cS (!(inB s (zdh (zb1.mk x4.t false)))) h (fun hc7=>?_) (fun hc8=>?_)
   ·have hc7':=hc7;(try simp at hc7');refine Je 3 [] [37] [(2,vb false)] h fun a w h=>qV (zac (za6 (za6 (zac (zac (za6 (za6 (zac (za6 (rT (.c (cB false)) h rfl ?_))))))))));have hz:proB s=false:=by unfold proB;rw [zbn (q:=(fun c=>inB s c.guard && c.moves.all fun m=>inB s (zdh ⟨m.t,false⟩))) hx2 (by show (inB s x2.guard && x2.moves.all fun m=>inB s (zdh ⟨m.t,false⟩))=false;rw [zbn (q:=fun m:zad=>inB s (zdh ⟨m.t,false⟩)) hx4 (show (inB s (zdh (zb1.mk x4.t false)))=false from by simpa using hc7),Bool.and_false]),Bool.and_false]
    rw [hz];try rfl
   have hc8':=hc8;(try simp at hc8');refine qU (za8 (za1 (Jf 3 [(0,.j1 i)] [37] [(27,vI ((i:Int)+1))] h fun a w h=>za1 (zag (x:=i) (y:=i+1) h ?_ ?_))))
   ·exact ⟨by have:=zai hx4;omega,zcq hx4 hQ2 (show (inB s (zdh (zb1.mk x4.t false)))=true from by simpa using hc8)⟩
   show x2.moves.length - (i+1)<x2.moves.length - i;have:=zai hx4;omega
  refine wp_exit (za9 (za9 (za5 (za8 (za1 (Jf 3 [(0,.j1 j)] [25,26,27,28] [(15,vI ((j:Int)+1))] h fun a w h=>za1 (zag (x:=j) (y:=j+1) h ?_ ?_)))))))
  ·exact ⟨by have:=zai hx2;omega,zcq hx2 hP2 (by show (inB s x2.guard && x2.moves.all fun m=>inB s (zdh ⟨m.t,false⟩))=true;rw [(show (inB s x2.guard)=true from by simpa using hc5),zct (by omega) hQ2];rfl)⟩
  show s.acts.length - (j+1)<s.acts.length - j;have:=zai hx2;omega
 refine wp_exit (za9 (za9 (za5 (za1 (Jq 3 [] [(2,vb true)] [] h fun a w h=>qV (rT (.c (cB true)) h rfl ?_))))));have hz:proB s=true:=by unfold proB;rw [(show (inB s s.init)=true from by simpa using hc2),Bool.true_and];exact zct (by omega) hP2
 rw [hz];try rfl
theorem Lboth (s:zao) (x y:StD) (k:Nat) (hk:k<=4096) (hv:s.vars.length<=8) (hx:x.vals.length<=1000) (hy:y.vals.length<=1000):Fn Tryz.prog 14 [] [vG (zal s),vG [cIs x.locs,cZs x.vals],vG [cIs y.locs,cZs y.vals],vN k] (vZs (zk0 s x y k)) []:=by
 obtain ⟨mkv,hmkv⟩:∃ z_:Nat,z_=k*s.vars.length:=⟨_,rfl⟩;have hmk2:mkv<=4096*8:=by rw [hmkv];exact Nat.mul_le_mul hk hv
 have hmk3:(k:Int)*(s.vars.length:Int)=(mkv:Int):=by rw [hmkv,Int.natCast_mul]
 refine Fn.body Tryz.func14 rfl 23 rfl fun w H B a h=>Jq 0 [] [(3,vN k),(4,vp 0 0),(5,vp 1 0),(6,vp 2 0),(8,vW zaf)] [(0,.box (zal s)),(1,.box [cIs x.locs,cZs x.vals]),(2,.box [cIs y.locs,cZs y.vals])] h fun a w h=>Jd 3 [(3,.len (za7 1 zg9 s.vars)),(4,.g (Op.arith (op:=.mul) (d:=14) (xt:=3) (yt:=3) (k:=.i64) (m:=(k:Int)) (n:=(s.vars.length:Int)) (r:=(mkv:Int)) (OV.tmp 10 _) (OV.tmp 13 _) (.inr (.inr ⟨rfl,hmk3.symm⟩)) i6)),(5,.g (Op.makeO' (d:=15) (n:=3) (L:=mkv) (zs:=[.raw (.bool false),nsl []]) (rows:=(List.replicate mkv (ZI.mk false [])).map ziD) kk_4 ue_9 rfl (OV.tmp 14 _) (OV.tmp 14 _) (by omega) (by rw [List.map_replicate];rfl)))] [3,4] [(9,vO 3 mkv)] [(1,.box [cIs x.locs,cZs x.vals]),(2,.box [cIs y.locs,cZs y.vals]),(3,.row 28 2 ((List.replicate mkv (ZI.mk false [])).map ziD))] h fun a w h=>Jq 4 [(3,.g (Op.appOD (d:=19) (t:=16) (u:=18) (n:=3) (n':=4) (len:=mkv) (len':=((List.replicate mkv (ZI.mk false []))++x.vals).length) (rows:=(List.replicate mkv (ZI.mk false [])).map ziD) (rows2:=x.vals.map ziD) (rows':=((List.replicate mkv (ZI.mk false []))++x.vals).map ziD) kk_4 (by first | exact (List.length_map _).symm | simp) (by first | (rw [List.length_append,List.length_map];done) | simp) (by simp) (by simp [ziD]) (by first | omega | (simp at *;done) | (simp at *;omega)))),(6,.g (aD 22 19 21 4 5 ((List.replicate mkv (ZI.mk false []))++x.vals) y.vals ziD kk_4 (by simp [ziD])))] [(8,vO 5 (((List.replicate mkv (ZI.mk false []))++x.vals)++y.vals).length)] [(5,.row 28 2 ((((List.replicate mkv (ZI.mk false []))++x.vals)++y.vals).map ziD))] h fun a w h=>qV ?_
 replace h:=zhw 5 2 28 ((((List.replicate mkv (ZI.mk false []))++x.vals)++y.vals).map ziD) [(8,(vZs (((List.replicate mkv (ZI.mk false []))++x.vals)++y.vals)))] [] h rfl (show zbw _ [(((List.replicate mkv (ZI.mk false []))++x.vals)++y.vals).length] from ⟨by first | exact (List.length_map _).symm | (simp;done) | (simp;omega),trivial⟩) trivial;refine rT (.c (cZs (((List.replicate mkv (ZI.mk false []))++x.vals)++y.vals))) h rfl ?_;have hz:zk0 s x y k=(((List.replicate mkv (ZI.mk false []))++x.vals)++y.vals):=by unfold zk0;rw [<- hmkv];rfl
 rw [hz];try rfl
theorem Lsmall (s:zao) (xs:List StD) (hr:SysRd s) (hxr:∀ x ∈ xs,StRd x) (hl:xs.length<=1000):Fn Tryz.prog 8 [] [vG (zal s),vS 2 (xs.map StD.d)] (vb (smB s xs)) []:=by
 refine Fn.body Tryz.func8 rfl 19 rfl fun w H B a h=>Jq 0 [] [(1,vS 2 (xs.map StD.d)),(2,vp 0 0),(4,vb false)] [(0,.box (zal s))] h fun a w h=>qW (Je 1 [(1,.len (za7 2 StD.d xs))] [1] [(7,vS 2 (xs.map StD.d)),(8,vN xs.length),(9,vI 0)] h fun a w h=>qZ ?_)
 refine zar (ι:=(Nat)) (fun j=>j<=xs.length/\(xs.take j).all (zgd 3)=true)
   (fun j=>[(2,vp 0 0),(7,vS 2 (xs.map StD.d)),(8,vN xs.length),(9,vN j)])
   (fun j=>[(0,.box (zal s))])
   (fun j=>xs.length - j) 0 ?_ h (by kernel_rfl) (by kernel_rfl) ?_
 ·exact ⟨Nat.zero_le _,rfl⟩
 clear h;rintro j a w hI h;obtain ⟨hI1,hI2⟩:=hI;refine Je 1 [] [] [(10,vb (decide ((j:Int)<(xs.length:Int))))] h fun a w h=>qW (zam ((j:Int)<(xs.length:Int)) h (fun hc1 hc1'=>?_) (fun hc4 hc4'=>?_))
 ·refine qU (za1 (qW (qZ ?_)));obtain ⟨x1,hx1⟩:=gl xs j;refine Jd 1 [(0,.g (xD 11 7 kn_0 (zab hx1 (f:=StD.d)) (OV.tmp 9 _)))] [10] [(6,vp 1 0)] [(0,.box (zal s)),(1,.box [cIs x1.locs,cZs x1.vals])] h fun a w h=>Jd 2 [(1,.call (SFewSt x1 3 (hxr x1 (lM hx1))) lo15_2)] [6] [(15,vb (!(zgd 3 x1)))] [(0,.box (zal s))] h fun a w h=>cS (!(zgd 3 x1)) h (fun hc2=>?_) (fun hc3=>?_)
  ·have hc2':=hc2;(try simp at hc2');refine Je 2 [] [15] [(4,vb false)] h fun a w h=>qV (zac (za6 (za6 (zac (za6 (rT (.c (cB false)) h rfl ?_))))));have hz:smB s xs=(false):=by unfold smB;rw [zbn (q:=zgd 3) hx1 (show (zgd 3 x1)=false from by simpa using hc2)];rfl
   rw [hz];try rfl
  have hc3':=hc3;(try simp at hc3');refine qU (za8 (za1 (Jf 2 [(0,.j1 j)] [15] [(9,vI ((j:Int)+1))] h fun a w h=>za1 (zag (x:=j) (y:=j+1) h ?_ ?_))))
  ·exact ⟨by have:=zai hx1;omega,zcq hx1 hI2 (show (zgd 3 x1)=true from by simpa using hc3)⟩
  show xs.length - (j+1)<xs.length - j;have:=zai hx1;omega
 refine wp_exit (za9 (za9 (za5 (za1 (Jq 2 [(1,.call (SFewSys s 3 hr) ky_1)] [(4,vb (zbo 3 s))] [] h fun a w h=>qV (rT (.c (cB (zbo 3 s))) h rfl ?_))))));have hz:smB s xs=(zbo 3 s):=by unfold smB;rw [zct (dF hc4) hI2,Bool.true_and]
 rw [hz];try rfl
theorem LSameI (xs ys:List Int) (hx:xs.length<=9223372036854775807) (hy:ys.length<=9223372036854775807):Fn Tryz.prog 16 [] [(vIs xs),(vIs ys)] (vb (decide (xs=ys))) []:=by
 refine Fn.body Tryz.func16 rfl 26 rfl fun w H B a h=>Jq 0 [] [(0,(vIs xs)),(1,(vIs ys)),(4,vb false)] [] h fun a w h=>qW (Jd 0 [(1,.len (za7 1 zaj xs)),(3,.len (za7 1 zaj ys))] [] [(10,vb ((xs.length:Int) != (ys.length:Int)))] [] h fun a w h=>cS ((xs.length:Int) != (ys.length:Int)) h (fun hc1=>?_) (fun hc2=>?_))
 ·have hc1':=hc1;(try simp at hc1');refine Jd 0 [] [10] [] [] h fun a w h=>qV (za6 (rT (.c (cB false)) h rfl ?_));have hz:decide (xs=ys)=false:=decide_eq_false (fun e=>by have:=hc1;subst e;simp at this);rw [hz];try rfl
 have hc2':=hc2;(try simp at hc2');refine qU (za1 (qW (Jd 0 [] [10] [(5,vI 0)] [] h fun a w h=>qZ ?_)))
 refine zar (ι:=(Nat)) (fun j=>j<=xs.length/\xs.take j=ys.take j)
   (fun j=>[(0,(vIs xs)),(1,(vIs ys)),(5,vN j)])
   (fun j=>[])
   (fun j=>xs.length - j) 0 ?_ h (by kernel_rfl) (by kernel_rfl) ?_
 ·exact ⟨Nat.zero_le _,rfl⟩
 clear h;rintro j a w hI h;obtain ⟨hI1,hI2⟩:=hI;refine qW (Jd 0 [(2,.len (za7 1 zaj xs))] [] [(14,vb (decide ((j:Int)<(xs.length:Int))))] [] h fun a w h=>zam ((j:Int)<(xs.length:Int)) h (fun hc3 hc3'=>?_) (fun hc6 hc6'=>?_))
 ·refine qU (za1 (qW (qZ ?_)));obtain ⟨x1,hx1⟩:=gl xs j;obtain ⟨x2,hx2⟩:=gl ys j;refine Jd 0 [(2,.g (xD 19 17 zgx (zab hx1 (f:=zaj)) (OV.tmp 18 _))),(6,.g (xD 23 21 zgx (zab hx2 (f:=zaj)) (OV.tmp 22 _)))] [14] [(25,vb (x1 != x2))] [] h fun a w h=>cS (x1 != x2) h (fun hc4=>?_) (fun hc5=>?_)
  ·have hc4':=hc4;(try simp at hc4');refine Jd 0 [] [25] [(4,vb false)] [] h fun a w h=>qV (zac (za6 (za6 (zac (za6 (rT (.c (cB false)) h rfl ?_))))));have hz:decide (xs=ys)=false:=decide_eq_false (sameI_no hx1 hx2 (by have:=hc4;simpa using this));rw [hz];try rfl
  have hc5':=hc5;(try simp at hc5');refine qU (za8 (za1 (Jm 0 [(1,.j1 j)] [25] [(5,vI ((j:Int)+1))] [] h fun a w h=>za1 (zag (x:=j) (y:=j+1) h ?_ ?_))))
  ·exact ⟨by have:=zai hx1;omega,sameI_at hx1 hx2 hI2 (by have:=hc5;simpa using this)⟩
  show xs.length - (j+1)<xs.length - j;have:=zai hx1;omega
 refine wp_exit (za9 (za9 (za5 (za1 (Jq 0 [] [(4,vb true)] [] h fun a w h=>qV (rT (.c (cB true)) h rfl ?_))))));have hz:decide (xs=ys)=true:=decide_eq_true (sameI_end (by omega) (by have:=hc2;simp at this;omega) hI2);rw [hz];try rfl
theorem SSys0 :Fn Tryz.prog 30 [] [] (vG [.d (.sl 1 ([(⟨#[120]⟩:ByteArray)].map zg9)),.d (.sl 5 ([(zaq.mk true (ZI.mk false []) (ZI.of 3))].map zaq.d)),cI 0,cPs [],cB false,.d (nsl []),cB false,cFs [],.d (.sl 3 ([(zc5.mk (⟨#[112]⟩:ByteArray) [(⟨#[97]⟩:ByteArray),(⟨#[98]⟩:ByteArray)] (.raw zaf))].map zc5.d)),.d (.sl 10 [[.raw (.int .i64 0),.raw (.int .i64 0),.raw (.int .i64 1),.raw (.int .i64 0),.raw zaf,.raw (.bool false),nsl [],.raw (.bool false),.raw zaf,.sl 5 ([(zad.mk 0 false (zak.mk [(za3.mk 0 (ZI.of 1))] (ZI.of 1)))].map zad.d)]])]) []:=by
 refine Fn.body Tryz.func30 rfl 21 rfl fun w H B a h=>Jq 0 [] [(0,vp 0 0)] [(0,.box [.d (.raw zaf),.d (.raw zaf),cI 0,.d (.raw zaf),cB false,.d (nsl []),cB false,.d (.raw zaf),.d (.raw zaf),.d (.raw zaf)])] h fun a w h=>Jd 1 [(0,.call (SROf 1 ⟨by decide,by decide⟩) tc_0),(2,.g (bD 4 ([(za3.mk 0 (ZI.of 1))].map za3.d) [(3,vG ([cI 0]++zi (ZI.of 1)))] tb_9 (.cons (i:=0) (OV.tmp 3 _) (.nil)) (by kernel_rfl) (by simp [za3.d]))),(3,.call (SROf 1 ⟨by decide,by decide⟩) tc_0)] [] [(1,vp 1 0)] [(0,.box [.d (.raw zaf),.d (.raw zaf),cI 0,.d (.raw zaf),cB false,.d (nsl []),cB false,.d (.raw zaf),.d (.raw zaf),.d (.raw zaf)]),(1,.box ([cPs [(za3.mk 0 (ZI.of 1))]]++zi (ZI.of 1)))] h fun a w h=>Jd 2 [(0,.g (Op.buildD (d:=7) (len:=1) (rows:=[(⟨#[120]⟩:ByteArray)].map zg9) (rs:=[]) ty_16 (.cons (i:=0) (OV.const (.string (⟨#[120]⟩:ByteArray)) rfl) (.nil)) (by kernel_rfl) rfl (by simp [zg9]) (by decide) (by decide))),(1,.call (SROf 3 ⟨by decide,by decide⟩) tc_0),(3,.g (bD 10 ([(zaq.mk true (ZI.mk false []) (ZI.of 3))].map zaq.d) [(9,vG ([cB true,cB false,.d (nsl [])]++zi (ZI.of 3)))] kw_3 (.cons (i:=0) (OV.tmp 9 _) (.nil)) (by kernel_rfl) (by simp [zaq.d]))),(5,.g (Op.buildD (d:=12) (len:=2) (rows:=[(⟨#[97]⟩:ByteArray),(⟨#[98]⟩:ByteArray)].map zg9) (rs:=[]) ty_16 (.cons (i:=0) (OV.const (.string (⟨#[97]⟩:ByteArray)) rfl) (.cons (i:=1) (OV.const (.string (⟨#[98]⟩:ByteArray)) rfl) (.nil))) (by kernel_rfl) rfl (by simp [zg9]) (by decide) (by decide))),(7,.g (bD 14 ([(zc5.mk (⟨#[112]⟩:ByteArray) [(⟨#[97]⟩:ByteArray),(⟨#[98]⟩:ByteArray)] (.raw zaf))].map zc5.d) [(13,vG [.d (.raw (.string (⟨#[112]⟩:ByteArray))),.d (.sl 1 ([(⟨#[97]⟩:ByteArray),(⟨#[98]⟩:ByteArray)].map zg9)),.d (.raw zaf)])] kw_4 (.cons (i:=0) (OV.tmp 13 _) (.nil)) (by kernel_rfl) (by simp [zc5.d]))),(10,.g (bD 17 ([(zad.mk 0 false (zak.mk [(za3.mk 0 (ZI.of 1))] (ZI.of 1)))].map zad.d) [(16,vG ([cI 0,cB false,cPs [(za3.mk 0 (ZI.of 1))]]++zi (ZI.of 1)))] kw_5 (.cons (i:=0) (OV.tmp 16 _) (.nil)) (by kernel_rfl) (by simp [zad.d]))),(12,.g (bD 19 ([[.raw (.int .i64 0),.raw (.int .i64 0),.raw (.int .i64 1),.raw (.int .i64 0),.raw zaf,.raw (.bool false),nsl [],.raw (.bool false),.raw zaf,.sl 5 ([(zad.mk 0 false (zak.mk [(za3.mk 0 (ZI.of 1))] (ZI.of 1)))].map zad.d)]]) [(18,vG [cI 0,cI 0,cI 1,cI 0,.d (.raw zaf),cB false,.d (nsl []),cB false,.d (.raw zaf),.d (.sl 5 ([(zad.mk 0 false (zak.mk [(za3.mk 0 (ZI.of 1))] (ZI.of 1)))].map zad.d))])] kw_6 (.cons (i:=0) (OV.tmp 18 _) (.nil)) (by kernel_rfl) (by simp)))] [1] [] [(0,.box [.d (.sl 1 ([(⟨#[120]⟩:ByteArray)].map zg9)),.d (.sl 5 ([(zaq.mk true (ZI.mk false []) (ZI.of 3))].map zaq.d)),cI 0,.d (.raw zaf),cB false,.d (nsl []),cB false,.d (.raw zaf),.d (.sl 3 ([(zc5.mk (⟨#[112]⟩:ByteArray) [(⟨#[97]⟩:ByteArray),(⟨#[98]⟩:ByteArray)] (.raw zaf))].map zc5.d)),.d (.sl 10 [[.raw (.int .i64 0),.raw (.int .i64 0),.raw (.int .i64 1),.raw (.int .i64 0),.raw zaf,.raw (.bool false),nsl [],.raw (.bool false),.raw zaf,.sl 5 ([(zad.mk 0 false (zak.mk [(za3.mk 0 (ZI.of 1))] (ZI.of 1)))].map zad.d)]])])] h fun a w h=>qV ?_
 replace h:=zbh 0 3 3 [.d (.sl 1 ([(⟨#[120]⟩:ByteArray)].map zg9)),.d (.sl 5 ([(zaq.mk true (ZI.mk false []) (ZI.of 3))].map zaq.d)),cI 0,.d (.raw zaf),cB false,.d (nsl []),cB false,.d (.raw zaf),.d (.sl 3 ([(zc5.mk (⟨#[112]⟩:ByteArray) [(⟨#[97]⟩:ByteArray),(⟨#[98]⟩:ByteArray)] (.raw zaf))].map zc5.d)),.d (.sl 10 [[.raw (.int .i64 0),.raw (.int .i64 0),.raw (.int .i64 1),.raw (.int .i64 0),.raw zaf,.raw (.bool false),nsl [],.raw (.bool false),.raw zaf,.sl 5 ([(zad.mk 0 false (zak.mk [(za3.mk 0 (ZI.of 1))] (ZI.of 1)))].map zad.d)]])] [(0,vp 0 0)] [(0,.box [.d (.sl 1 ([(⟨#[120]⟩:ByteArray)].map zg9)),.d (.sl 5 ([(zaq.mk true (ZI.mk false []) (ZI.of 3))].map zaq.d)),cI 0,cPs [],cB false,.d (nsl []),cB false,.d (.raw zaf),.d (.sl 3 ([(zc5.mk (⟨#[112]⟩:ByteArray) [(⟨#[97]⟩:ByteArray),(⟨#[98]⟩:ByteArray)] (.raw zaf))].map zc5.d)),.d (.sl 10 [[.raw (.int .i64 0),.raw (.int .i64 0),.raw (.int .i64 1),.raw (.int .i64 0),.raw zaf,.raw (.bool false),nsl [],.raw (.bool false),.raw zaf,.sl 5 ([(zad.mk 0 false (zak.mk [(za3.mk 0 (ZI.of 1))] (ZI.of 1)))].map zad.d)]])])] h rfl rfl;replace h:=zbh 0 7 6 [.d (.sl 1 ([(⟨#[120]⟩:ByteArray)].map zg9)),.d (.sl 5 ([(zaq.mk true (ZI.mk false []) (ZI.of 3))].map zaq.d)),cI 0,cPs [],cB false,.d (nsl []),cB false,.d (.raw zaf),.d (.sl 3 ([(zc5.mk (⟨#[112]⟩:ByteArray) [(⟨#[97]⟩:ByteArray),(⟨#[98]⟩:ByteArray)] (.raw zaf))].map zc5.d)),.d (.sl 10 [[.raw (.int .i64 0),.raw (.int .i64 0),.raw (.int .i64 1),.raw (.int .i64 0),.raw zaf,.raw (.bool false),nsl [],.raw (.bool false),.raw zaf,.sl 5 ([(zad.mk 0 false (zak.mk [(za3.mk 0 (ZI.of 1))] (ZI.of 1)))].map zad.d)]])] [(0,vp 0 0)] [(0,.box [.d (.sl 1 ([(⟨#[120]⟩:ByteArray)].map zg9)),.d (.sl 5 ([(zaq.mk true (ZI.mk false []) (ZI.of 3))].map zaq.d)),cI 0,cPs [],cB false,.d (nsl []),cB false,cFs [],.d (.sl 3 ([(zc5.mk (⟨#[112]⟩:ByteArray) [(⟨#[97]⟩:ByteArray),(⟨#[98]⟩:ByteArray)] (.raw zaf))].map zc5.d)),.d (.sl 10 [[.raw (.int .i64 0),.raw (.int .i64 0),.raw (.int .i64 1),.raw (.int .i64 0),.raw zaf,.raw (.bool false),nsl [],.raw (.bool false),.raw zaf,.sl 5 ([(zad.mk 0 false (zak.mk [(za3.mk 0 (ZI.of 1))] (ZI.of 1)))].map zad.d)]])])] h rfl rfl;refine rA 0 [.d (.sl 1 ([(⟨#[120]⟩:ByteArray)].map zg9)),.d (.sl 5 ([(zaq.mk true (ZI.mk false []) (ZI.of 3))].map zaq.d)),cI 0,cPs [],cB false,.d (nsl []),cB false,cFs [],.d (.sl 3 ([(zc5.mk (⟨#[112]⟩:ByteArray) [(⟨#[97]⟩:ByteArray),(⟨#[98]⟩:ByteArray)] (.raw zaf))].map zc5.d)),.d (.sl 10 [[.raw (.int .i64 0),.raw (.int .i64 0),.raw (.int .i64 1),.raw (.int .i64 0),.raw zaf,.raw (.bool false),nsl [],.raw (.bool false),.raw zaf,.sl 5 ([(zad.mk 0 false (zak.mk [(za3.mk 0 (ZI.of 1))] (ZI.of 1)))].map zad.d)]])] h kw_7 rfl ?_;rfl
theorem SSys:Fn Tryz.prog 30 [] [] (vG (zal zc3)) []:=by
 refine Fn.resw SSys0 (WkV.agg _ _ (.same _ _ _ (.same _ _ _ (.same _ _ _ (.same _ _ _ (.same _ _ _ (.same _ _ _ (.same _ _ _ (.same _ _ _ (.same _ _ _ (.d _ _ _ _ ?_ .nil)))))))))))
 refine Wk.sl _ _ _ (.cons _ _ _ _ ?_ .nil)
 refine .cons _ _ _ _ (.refl _) (.cons _ _ _ _ (.refl _) (.cons _ _ _ _ (.refl _) (.cons _ _ _ _ (.refl _) (.cons _ _ _ _ (.nil _) (.cons _ _ _ _ (.refl _) (.cons _ _ _ _ (.refl _) (.cons _ _ _ _ (.refl _) (.cons _ _ _ _ (.nil _) (.cons _ _ _ _ (.refl _) .nil)))))))))
theorem zk2 (ns:List Int) (hl:ns.length<=1000) (hns:∀ z ∈ ns,-9223372036854775808<=z/\z<=9223372036854775807):Fn Tryz.prog 33 [] [(vIs ns)] (vZs (ns.map ZI.of)) []:=by
 refine Fn.body Tryz.func33 rfl 20 rfl fun w H B a h=>Jq 5 [] [(0,(vIs ns)),(2,vW zaf)] [] h fun a w h=>Jd 5 [(0,.g (Op.buildE (d:=6) (n:=5) ty_5))] [] [(3,vO 5 0)] [(5,.row 28 2 ([].map ziD))] h fun a w h=>qW (Je 6 [(1,.len (za7 1 zaj ns))] [0] [(7,(vIs ns)),(8,vN ns.length),(9,vI 0)] h fun a w h=>qZ ?_)
 refine zar (ι:=(Nat)) (fun j=>j<=ns.length)
   (fun j=>[(2,vW zaf),(3,vO 5 ((ns.take j).map ZI.of).length),(7,(vIs ns)),(8,vN ns.length),(9,vN j)])
   (fun j=>[(5,.row 28 2 (((ns.take j).map ZI.of).map ziD))])
   (fun j=>ns.length - j) 0 ?_ h (by kernel_rfl) (by kernel_rfl) ?_
 ·exact Nat.zero_le _
 clear h;rintro j a w hI h;have lmj:((ns.take j).map ZI.of).length<=j:=by rw [List.length_map,List.length_take];omega
 refine Je 6 [] [] [(10,vb (decide ((j:Int)<(ns.length:Int))))] h fun a w h=>qW (zam ((j:Int)<(ns.length:Int)) h (fun hc1 hc1'=>?_) (fun hc2 hc2'=>?_))
 ·refine qU (za1 (qW (qZ ?_)));obtain ⟨x1,hx1⟩:=gl ns j;refine Je 6 [(0,.g (xD 11 7 tn_1 (zab hx1 (f:=zaj)) (OV.tmp 9 _)))] [10] [(5,vI x1)] h fun a w h=>Jm 6 [(2,.call (SROf x1 (hns x1 (lM hx1))) tc_0),(3,.g (Op.buildO (d:=16) (n:=6) (len:=1) (rows:=[(ZI.of x1)].map ziD) (rs:=[(15,vz (ZI.of x1))]) ty_5 (.cons (i:=0) (OV.tmp 15 _) (.nil)) (by kernel_rfl) rfl (by simp [ziD]) (by decide) (by decide))),(4,.g (Op.appOO (d:=17) (t:=13) (u:=16) (n:=5) (sn:=6) (n':=7) (len:=((ns.take j).map ZI.of).length) (len2:=1) (len':=(((ns.take j).map ZI.of)++[(ZI.of x1)]).length) (rows:=((ns.take j).map ZI.of).map ziD) (rows2:=[(ZI.of x1)].map ziD) (rows':=(((ns.take j).map ZI.of)++[(ZI.of x1)]).map ziD) kk_4 (by first | exact (List.length_map _).symm | simp) (by first | exact (List.length_map _).symm | simp) (by first | (rw [List.length_append,List.length_map];done) | simp) (by simp) (by first | omega | (simp at *;done) | (simp at *;omega))))] [5] [(3,vO 7 (((ns.take j).map ZI.of)++[(ZI.of x1)]).length)] [(7,.row 28 2 ((((ns.take j).map ZI.of)++[(ZI.of x1)]).map ziD))] h fun a w h=>za8 (za1 (Jf 8 [(0,.j1 j)] [] [(9,vI ((j:Int)+1))] h fun a w h=>za1 ?_));rw [show ((((ns.take j).map ZI.of)++[(ZI.of x1)]):List ZI)=((ns.take (j+1)).map ZI.of) from (zh3 hx1)] at h;replace h:=ze6 7 5 [(2,vW zaf),(3,vO 5 ((ns.take (j+1)).map ZI.of).length),(7,(vIs ns)),(8,vN ns.length),(9,vI ((j:Int)+1))] [(5,.row 28 2 (((ns.take (j+1)).map ZI.of).map ziD))] h;refine zag (x:=j) (y:=j+1) h ?_ ?_
  ·have:=zai hx1;show j+1<=ns.length;omega
  show ns.length - (j+1)<ns.length - j;have:=zai hx1;omega
 refine wp_exit (za9 (za9 (za5 (za1 (Jp 8 [] [(2,vO 5 ((ns.take j).map ZI.of).length)] h fun a w h=>qV ?_)))));rw [show (((ns.take j).map ZI.of):List ZI)=(ns.map ZI.of) from (by rw [List.take_of_length_le (by omega)])] at h;replace h:=zhw 5 2 28 ((ns.map ZI.of).map ziD) [(2,(vZs (ns.map ZI.of)))] [] h rfl (show zbw _ [(ns.map ZI.of).length] from ⟨by first | exact (List.length_map _).symm | (simp;done) | (simp;omega),trivial⟩) trivial;refine rT (.c (cZs (ns.map ZI.of))) h rfl ?_;rfl
theorem zk3 (f:za0) (vs:List ZI) {M:Nat} (hM:M<=300) (hv:VOk M vs) (hf:f.okB 1000 1000):Fn Tryz.prog 32 [] [(vF f),(vZs vs)] (vb (za0.holds vs f)) []:=by
 refine Fn.body Tryz.func32 rfl 8 rfl fun w H B a h=>Jq 5 [] [(1,(vZs vs)),(2,vp 5 0),(4,vb false)] [(5,.box (zF f))] h fun a w h=>Jq 6 [(2,.call (LR5HoldsW vs hM hv f hf) ke_10)] [(4,vb (za0.holds vs f))] [] h fun a w h=>qV (rT (.c (cB (za0.holds vs f))) h rfl ?_)
 rfl
def Bel (m:Nat) (t:zak):Prop:=∀ v:Int,(m:Int)<=v->zan t.parts v=0
theorem zhx {m:Nat} {t:zak} (h:Bel m t):∀ p ∈ (za2 t).parts,0<=p.v/\p.v<(m:Int):=fun p hp=>by
 obtain ⟨_,h2,_⟩:=zbc t
 obtain ⟨h0,_,hne⟩:=h2 p hp
 refine ⟨h0,Int.lt_of_not_ge fun hv=>hne ?_⟩
 have e:(za2 t).parts=(zc6 t.parts).map fun v=>⟨v,ZI.of (zan t.parts v)⟩:=rfl
 rw [e] at hp
 obtain ⟨v,_,rfl⟩:=List.mem_map.1 hp
 show (ZI.of (zan t.parts v)).val=0
 rw [ZI.val_of];exact h v hv
theorem valP_cong9 {vs ws:List ZI}:∀ {ps:List za3}, (∀ p ∈ ps,zcc vs p.v=zcc ws p.v)->zfk vs ps=zfk ws ps
 | [],_=>rfl
 | p :: ps,h=>by
  unfold zfk
  rw [h p (List.mem_cons_self ..),valP_cong9 fun q hq=>h q (List.mem_cons_of_mem _ hq)]
theorem valAt_app {vs ws:List ZI} {v:Int} (h:v<(vs.length:Int)):zcc (vs++ws) v=zcc vs v:=by
 unfold zcc
 split
 ·rw [List.getElem?_append_left (by omega)]
 ·rfl
theorem valAt_far {vs ws:List ZI} {v:Int} (h:0<=v):zcc (vs++ws) (v+(vs.length:Int))=zcc ws v:=by
 unfold zcc
 rw [if_pos (by omega),if_pos h,show (v+(vs.length:Int)).toNat=vs.length+v.toNat by omega,List.getElem?_append_right (by omega),Nat.add_sub_cancel_left]
theorem val_bel {m:Nat} {t:zak} (h:Bel m t) {vs ws:List ZI} (hl:∀ v:Int,0<=v->v<(m:Int)->zcc vs v=zcc ws v):zec t vs=zec t ws:=by
 rw [<- zc7 t vs,<- zc7 t ws]
 unfold zec
 rw [valP_cong9 fun p hp=>hl p.v (zhx h p hp).1 (zhx h p hp).2]
theorem val_app {m:Nat} {t:zak} (h:Bel m t) {vs:List ZI} (ws:List ZI) (hm:m<=vs.length):zec t (vs++ws)=zec t vs:=val_bel h fun v _ hv=>valAt_app (by omega)
theorem mov_val {m:Nat} {t:zak} (h:Bel m t) {n:Nat} {vs ws:List ZI} (hm:m<=1000000) (hn:n<=1000000) (hl:∀ v:Int,0<=v->v<(m:Int)->zcc ws (v+(n:Int))=zcc vs v):zec (movZ t (zah (n:Int))) ws=zec t vs:=by
 have hc:zah (n:Int)=(n:Int):=by unfold zah;omega
 rw [hc,movZ,zc7,<- zc7 t vs]
 unfold zec
 show (ZI.of t.k.val).val+zfk ws (((za2 t).parts.filter fun p=>!zaz (n:Int) p).map (zkj (n:Int)))=(za2 t).k.val+zfk vs (za2 t).parts
 have hk:(za2 t).k.val=t.k.val:=ZI.val_of _
 rw [ZI.val_of,hk]
 congr 1
 have key:∀ ps:List za3,(∀ p ∈ ps,0<=p.v/\p.v<(m:Int))->zfk ws ((ps.filter fun p=>!zaz (n:Int) p).map (zkj (n:Int)))=zfk vs ps:=fun ps=>by
  induction ps with
  | nil=>intro _;rfl
  | cons p ps ih =>
   intro hp
   obtain ⟨p0,p1⟩:=hp p (List.mem_cons_self ..)
   have hf:zaz (n:Int) p=false:=by unfold zaz;exact decide_eq_false (by omega)
   rw [List.filter_cons,hf,Bool.not_false,if_pos rfl,List.map_cons]
   unfold zfk
   rw [ih fun q hq=>hp q (List.mem_cons_of_mem _ hq)]
   show p.c.val*zcc ws (p.v+(n:Int))+_=_
   rw [hl p.v p0 p1]
 exact key _ (zhx h)
theorem zdg {m:Nat} {t:zak} (h:Bel m t):Bel m (za2 t):=fun v hv=>by rw [zem];exact h v hv
theorem bel_add {m:Nat} {s t:zak} (hs:Bel m s) (ht:Bel m t):Bel m (zje s t):=fun v hv=>by rw [coef_add,hs v hv,ht v hv];rfl
theorem bel_scale {m:Nat} {t:zak} (h:Bel m t) (q:ZI):Bel m (zbk t q):=fun v hv=>by rw [coef_scale,h v hv,Int.zero_mul]
theorem bel_sub {m:Nat} {s t:zak} (hs:Bel m s) (ht:Bel m t):Bel m (zk7 s t):=bel_add hs (bel_scale ht _)
theorem bel_num (m:Nat) (k:ZI):Bel m (zck k):=fun v _=>coef_num k v
theorem bel_var {m:Nat} {v:Int} (h:v<(m:Int)):Bel m (ze2 v):=fun u hu=>by rw [coef_var,if_neg (by omega)]
theorem Bel.mono {m m':Nat} {t:zak} (h:Bel m t) (hm:m<=m'):Bel m' t:=fun v hv=>h v (by omega)
def zef (m:Nat) (f:za0):Prop:=f.rels fun r=>Bel m r.t
theorem holds_bel {m:Nat} {vs ws:List ZI} (hl:∀ v:Int,0<=v->v<(m:Int)->zcc vs v=zcc ws v) (f:za0):zef m f->f.holds vs=f.holds ws:=fun h=>by
 rw [<- cl_holds vs f]
 exact zj5 (t:=id) f (za0.rels_mono (fun r hr=>by show zcd vs (cpR r)=_;rw [zkd];unfold zcd;rw [val_bel hr hl]) f h)
theorem holds_app {m:Nat} {vs:List ZI} (ws:List ZI) (hm:m<=vs.length) (f:za0) (h:zef m f):f.holds (vs++ws)=f.holds vs:=holds_bel (fun v _ hv=>valAt_app (by omega)) f h
theorem mov_holds {m:Nat} {n:Nat} (hm:m<=1000000) (hn:n<=1000000) {vs ws:List ZI} (hl:∀ v:Int,0<=v->v<(m:Int)->zcc ws (v+(n:Int))=zcc vs v) (f:za0) (h:zef m f):(f.each (zcb (n:Int))).holds ws=f.holds vs :=
 zj5 f (za0.rels_mono (fun r hr=>by
  show zcd ws (zcb (n:Int) (cpR r))=zcd vs r
  rw [<- zkd vs r]
  unfold zcd zcb
  rw [mov_val (t:=(cpR r).t) (zdg hr) hm hn hl]) f h)
theorem at_holds {m:Nat} {s:zao} {k:Nat} (hv:s.vars.length<=8) (hk:k<=4096) (hm:m<=1000000) {pre vs:List ZI} (hp:pre.length=k*s.vars.length) (f:za0) (h:zef m f):(atF s f k).holds (pre++vs)=f.holds vs:=by
 have e:offZ s k=((k*s.vars.length:Nat):Int):=by unfold offZ;rw [Int.natCast_mul]
 unfold atF
 rw [e]
 have hb:k*s.vars.length<=4096*8:=Nat.mul_le_mul hk hv
 exact mov_holds hm (by omega) (fun v h0 _=>by rw [<- hp];exact valAt_far h0) f h
theorem zg6 (m:Nat) (f:za0):zef m f ↔ (f.kind=2->Bel m f.r.t)/\∀ g ∈ cnt f.kind f.kids,zef m g:=za0.rels_eq _ f
theorem belF_tru (m:Nat) (b:Bool):zef m (zd9 b):=by
 rw [zg6];exact ⟨fun e=>by cases b <;> exact absurd e (by decide),fun g hg=>absurd (zbe hg) (by show g ∉ [];exact List.not_mem_nil)⟩
theorem zic {m:Nat} {r:zb1} (h:Bel m r.t):zef m (zdh r):=by
 rw [zg6];exact ⟨fun _=>zdg h,fun g hg=>absurd (zbe hg) (by show g ∉ [];exact List.not_mem_nil)⟩
theorem belF_each {m m':Nat} {t:zb1->zb1} (ht:∀ r,Bel m r.t->Bel m' (t (cpR r)).t) (f:za0):zef m f->zef m' (f.each t) :=
 za0.ind (P:=fun f=>zef m f->zef m' (f.each t)) (fun k r ks ih h=>by
  obtain ⟨h1,h2⟩:=(zg6 _ _).1 h
  rw [za0.each_eq]
  show zef m' (zg4 t k r (ks.map (za0.each t)))
  unfold zg4
  split
  ·exact belF_tru _ _
  ·split
   ·rename_i e
    rw [zg6];exact ⟨fun _=>ht r (h1 e),fun g hg=>absurd (zbe hg) (by show g ∉ [];exact List.not_mem_nil)⟩
   ·split
    ·rename_i hk2 _
     rw [zg6]
     refine ⟨fun e=>absurd e hk2,fun g hg=>?_⟩
     change g ∈ cnt k (cnt k (ks.map (za0.each t))) at hg
     rw [cnt_cnt,zdd] at hg
     obtain ⟨q,hq,rfl⟩:=List.mem_map.1 hg
     exact ih q (zbe hq) (h2 q hq)
    ·exact belF_tru _ _) f
theorem belF_cl {m:Nat} (f:za0) (h:zef m f):zef m f.cl:=belF_each (t:=id) (fun _r hr=>zdg hr) f h
theorem belF_kids {m:Nat} {k:Int} (hk:k=3\/k=4\/k=5) {fs:List za0} (h:∀ f ∈ fs,zef m f):zef m ⟨k,zR,fs⟩:=by
 rw [zg6];exact ⟨fun e=>by change k=2 at e;omega,fun g hg=>h g (zbe hg)⟩
theorem zid {m:Nat} {fs:List za0} (h:∀ f ∈ fs,zef m f):zef m (zh9 fs):=belF_kids (.inr (.inl rfl)) fun g hg=>by
 obtain ⟨q,hq,rfl⟩:=List.mem_map.1 hg;exact belF_cl q (h q hq)
theorem belF_deny {m:Nat} {f:za0} (h:zef m f):zef m (denyF f):=belF_kids (.inl rfl) fun g hg=>by
 rw [List.mem_singleton.1 hg];exact belF_cl f h
theorem zef.mono {m m':Nat} {f:za0} (h:zef m f) (hm:m<=m'):zef m' f:=za0.rels_mono (fun _ hr=>Bel.mono hr hm) f h
theorem vars_mem {ps:List za3} {v:Int} (_h0:0<=v) (h:zan ps v≠0):v ∈ zc6 ps:=by
 refine ((zk4 ps ps [] List.Pairwise.nil).2 v).2 (.inr (Classical.byContradiction fun hn=>h (coefZ_far fun p hp e=>hn ⟨p,hp,e,h⟩)))
theorem insF_mem (x:Int):∀ (vs a:List Int),x ∈ vs.foldl ze8 a ↔ x ∈ a\/x ∈ vs
 | [],a=>by simp
 | v :: vs,a=>by
  rw [List.foldl_cons,insF_mem x vs (ze8 a v),insZ_eq,zkp]
  simp only [List.mem_cons]
  constructor
  ·rintro ((h | h) | h) <;> simp [h]
  ·rintro (h | h | h) <;> simp [h]
theorem insF_sr:∀ (vs a:List Int),SRi a->SRi (vs.foldl ze8 a)
 | [],_,h=>h
 | v :: vs,a,h=>by rw [List.foldl_cons];exact insF_sr vs _ (by rw [insZ_eq];exact insR_sr v h)
theorem varsG_mem (x:Int):∀ (gs:List za0) (a:List Int),x ∈ gs.foldl (fun a g=>(za0.vars g).foldl ze8 a) a ↔ x ∈ a\/∃ g ∈ gs,x ∈ g.vars
 | [],a=>by simp
 | g :: gs,a=>by
  rw [List.foldl_cons,varsG_mem x gs,insF_mem]
  constructor
  ·rintro ((h | h) | ⟨q,hq,h⟩)
   ·exact .inl h
   ·exact .inr ⟨g,List.mem_cons_self .., h⟩
   ·exact .inr ⟨q,List.mem_cons_of_mem _ hq,h⟩
  ·rintro (h | ⟨q,hq,h⟩)
   ·exact .inl (.inl h)
   ·rcases List.mem_cons.1 hq with rfl | hq
    ·exact .inl (.inr h)
    ·exact .inr ⟨q,hq,h⟩
theorem varsG_sr:∀ (gs:List za0) (a:List Int),SRi a->SRi (gs.foldl (fun a g=>(za0.vars g).foldl ze8 a) a)
 | [],_,h=>h
 | g :: gs,a,h=>by rw [List.foldl_cons];exact varsG_sr gs _ (insF_sr _ _ h)
theorem vars_sr (f:za0):SRi f.vars:=by
 rw [za0.vars_eq]
 split
 ·exact (zk4 _ _ [] List.Pairwise.nil).1
 ·exact varsG_sr _ [] List.Pairwise.nil
theorem belF_vars {m:Nat} (f:za0):(∀ v ∈ f.vars,v<(m:Int))->zef m f :=
 za0.ind (P:=fun f=>(∀ v ∈ f.vars,v<(m:Int))->zef m f) (fun k r ks ih h=>by
  rw [za0.vars_eq] at h
  change ∀ v ∈ (if k=2 then zc6 r.t.parts else (cnt k ks).foldl (fun a g=>(za0.vars g).foldl ze8 a) []),v<(m:Int) at h
  rw [zg6]
  show (k=2->Bel m r.t)/\∀ g ∈ cnt k ks,zef m g
  refine ⟨fun e v hv=>?_,fun g hg=>ih g (zbe hg) fun v hv=>?_⟩
  ·rw [if_pos e] at h
   exact Classical.byContradiction fun hn=>by have:=h v (vars_mem (by omega) hn);omega
  ·by_cases e:k=2
   ·rw [e] at hg;cases hg
   ·rw [if_neg e] at h
    exact h v ((varsG_mem v _ []).2 (.inr ⟨g,hg,hv⟩))) f
theorem last_max {l:List Int} {v:Int} (hs:SRi l) (h:l.getLast?=some v):∀ x ∈ l,x<=v:=fun x hx=>by
 obtain ⟨ys,rfl⟩:=List.getLast?_eq_some_iff.1 h
 rcases List.mem_append.1 hx with hx | hx
 ·exact Int.le_of_lt ((List.pairwise_append.1 hs).2.2 x hx v (List.mem_singleton_self _))
 ·rw [List.mem_singleton.1 hx];exact Int.le_refl _
theorem in_bel {s:zao} {f:za0} (h:inB s f=true):zef s.vars.length f:=by
 refine belF_vars f fun v hv=>?_
 unfold inB at h
 cases e:f.vars.getLast? with
 | none=>rw [List.getLast?_eq_none_iff.1 e] at hv;cases hv
 | some u =>
  rw [e] at h
  have h:=of_decide_eq_true h
  have:=last_max (vars_sr f) e v hv
  omega
/-- a system's own variables alone -/
structure ProS (s:zao):Prop where
  init:zef s.vars.length s.init
  act:∀ c ∈ s.acts,zef s.vars.length c.guard/\∀ m ∈ c.moves,Bel s.vars.length m.t
theorem atom_bel {m:Nat} {r:zb1} (h:zef m (zdh r)):Bel m r.t:=fun v hv=>by
 have:=((zg6 _ _).1 h).1 rfl v hv
 change zan (za2 r.t).parts v=0 at this
 rwa [zem] at this
theorem pro_of {s:zao} (h:proB s=true):ProS s:=by
 unfold proB at h
 rw [Bool.and_eq_true,List.all_eq_true] at h
 refine ⟨in_bel h.1,fun c hc=>?_⟩
 have:=h.2 c hc
 rw [Bool.and_eq_true,List.all_eq_true] at this
 exact ⟨in_bel this.1,fun m hm=>atom_bel (in_bel (this.2 m hm))⟩
theorem snd_pro {s:zao} (hp:ProS s) (i:Int):zef s.vars.length (zaa s i).1.guard/\∀ m ∈ (zaa s i).1.moves,Bel s.vars.length m.t:=by
 unfold zaa
 cases e:ze4 s i with
 | none=>exact ⟨by rw [zg6];exact ⟨fun e=>absurd (show (0:Int)=2 from e) (by decide),fun g hg=>absurd (zbe hg) (by show g ∉ [];exact List.not_mem_nil)⟩,fun m hm=>by cases hm⟩
 | some c =>
  refine hp.act c ?_
  unfold ze4 at e
  split at e
  ·exact List.mem_of_getElem? e
  ·cases e
def wB (b:zaq) (z:Int):Bool:=!b.is_ || (decide (b.lo.val<=z) && decide (z<=b.hi.val))
theorem within_w (b:zaq) (n:ZI):zbl b n=wB b n.val:=by unfold zbl wB;rw [cmpZ_le,cmpZ_le]
theorem ge_holds (vs:List ZI) (l r:zak):(geF l r).holds vs=decide (zec r vs<=zec l vs):=by
 unfold geF leaR;rw [zjd,relOk_le2 rfl,zc7,val_sub];exact decide_eq_decide.2 (by omega)
theorem le_holds (vs:List ZI) (l r:zak):(leF l r).holds vs=decide (zec l vs<=zec r vs):=by
 unfold leF leaR;rw [zjd,relOk_le2 rfl,zc7,val_sub];exact decide_eq_decide.2 (by omega)
theorem bnd_holds (s:zao) (v:Nat) (t:zak) (vs:List ZI):(zjc s v t).all (za0.holds vs)=wB (zbg s v) (zec t vs):=by
 unfold zjc wB
 split
 ·rename_i e
  rw [e,List.all_cons,List.all_cons,List.all_nil,ge_holds,le_holds,zk5,zk5,Bool.and_true];rfl
 ·rename_i e
  rw [show (zbg s v).is_=false by simpa using e];rfl
theorem zku {F:Nat->List za0} {p:za0->Bool} (n:Nat):((List.range n).flatMap F).all p=zfj n fun v=>(F v).all p:=by
 induction n with
 | zero=>rfl
 | succ n ih=>rw [zby,List.all_append,ih];rfl
theorem bel_bnd {s:zao} {m v:Nat} {t:zak} (h:Bel m t):∀ g ∈ zjc s v t,zef m g:=fun g hg=>by
 unfold zjc at hg
 split at hg
 ·rcases List.mem_cons.1 hg with rfl | hg
  ·exact zic (zdg (bel_sub h (bel_num _ _)))
  ·rw [List.mem_singleton.1 hg];exact zic (zdg (bel_sub (bel_num _ _) h))
 ·cases hg
theorem rng_bel (s:zao):zef s.vars.length (zcv s):=zid (zd0 fun v hv=>bel_bnd (bel_var (by omega)))
theorem rng_holds (s:zao) (vs:List ZI):(zcv s).holds vs=zfj s.vars.length fun v=>wB (zbg s v) (zcc vs (v:Int)):=by
 unfold zcv
 rw [zgo,zku]
 exact zdw fun v _=>by unfold rngS;rw [bnd_holds,valT_var]
theorem vals_at {x:StD} {v:Nat}:zcc x.vals (v:Int)=((x.vals[v]?).getD zdk).val:=by
 unfold zcc
 rw [if_pos (by omega),Int.toNat_natCast]
 cases x.vals[v]? <;> rfl
theorem rng_fits {s:zao} {x:StD} (hl:x.vals.length=s.vars.length):(zcv s).holds x.vals=zfj x.vals.length (valOk s x):=by
 rw [rng_holds,hl]
 exact zdw fun v _=>by unfold valOk;rw [within_w,vals_at]
theorem val_mv {c:zax} {v:Nat} {m:zad} (h:zi1 c v=some m):m ∈ c.moves:=by unfold zi1 at h;exact List.mem_of_find?_eq_some h
theorem valA_bel {n:Nat} {c:zax} (hc:∀ m ∈ c.moves,Bel n m.t) {v:Nat} (hv:v<n):Bel n (zbx c v).1:=by
 unfold zbx
 cases e:zi1 c v with
 | none=>exact bel_var (by omega)
 | some m =>
  show Bel n (if m.any=true then _ else _:zak × Bool).1
  split
  ·exact fun u _=>rfl
  ·exact zdg (hc m (val_mv e))
theorem valA_free (c:zax) (v:Nat):(zbx c v).2=!zbq c v:=by
 unfold zbx zbq
 cases zi1 c v with
 | none=>rfl
 | some m=>show (if m.any=true then _ else _:zak × Bool).2=!m.any;cases m.any <;> rfl
theorem valA_new {x:StD} {c:zax} {v:Nat} (hf:zbq c v=false):zec (zbx c v).1 x.vals=(zi0 x c v).val:=by
 unfold zbq at hf
 unfold zbx zi0
 cases e:zi1 c v with
 | none=>show zec (ze2 (v:Int)) x.vals=(ZI.of ((x.vals[v]?).getD zdk).val).val;rw [valT_var,vals_at,ZI.val_of]
 | some m =>
  rw [e] at hf
  show zec (if m.any=true then _ else _:zak × Bool).1 x.vals=(if m.any=true then zdk else ZI.of (zec m.t x.vals)).val
  rw [show m.any=false from hf,if_neg Bool.noConfusion,if_neg Bool.noConfusion,ZI.val_of,zc7]
theorem canS_holds (s:zao) (x:StD) (c:zax) (v:Nat):(zf0 s c v).all (za0.holds x.vals)=canAt s x c v:=by
 unfold zf0 canAt
 rw [valA_free]
 cases hf:zbq c v with
 | true =>
  rw [if_neg (by simp),if_pos rfl]
  cases e:(zbg s v).is_ with
  | true=>rw [if_pos rfl,List.all_cons,List.all_nil,le_holds,zk5,zk5,Bool.and_true,Bool.true_and,cmpZ_gt,<- decide_not];exact decide_eq_decide.2 (by omega)
  | false=>rw [if_neg Bool.noConfusion];rfl
 | false=>rw [Bool.not_false,if_pos rfl,if_neg Bool.noConfusion,bnd_holds,within_w,valA_new hf]
theorem canF_holds (s:zao) (x:StD) (c:zax):(zhq s c).holds x.vals=(c.guard.holds x.vals && zfj s.vars.length (canAt s x c)):=by
 unfold zhq canL
 rw [zgo,List.all_cons,zku]
 congr 1
 exact zdw fun v _=>canS_holds s x c v
theorem canF_bel {s:zao} {c:zax} (hg:zef s.vars.length c.guard) (hm:∀ m ∈ c.moves,Bel s.vars.length m.t):zef s.vars.length (zhq s c):=zid fun g hx=>by
 unfold canL at hx
 rcases List.mem_cons.1 hx with rfl | hx
 ·exact hg
 ·refine zd0 (fun v hv g hg=>?_) g hx
  unfold zf0 at hg
  split at hg
  ·exact bel_bnd (valA_bel hm hv) g hg
  ·split at hg
   ·rw [List.mem_singleton.1 hg];exact zic (zdg (bel_sub (bel_num _ _) (bel_num _ _)))
   ·cases hg
theorem enabled_beg {s:zao} {x:StD} {i:Int} {c:zax} (hf:zco s x=true) (hi:ze4 s i=some c):zap s x c=((zae s x.locs i).2 && c.guard.holds x.vals):=by
 have hc:(zaa s i).1=c:=by unfold zaa;rw [hi]
 have hb:(zaa s i).2=sndB s c:=by unfold zaa;rw [hi]
 show zap s x c=(((zaa s i).2 && begB s x.locs (zaa s i).1) && c.guard.holds x.vals)
 rw [hc,hb]
 unfold zap begB sndB
 rw [hf,Bool.true_and]
 have hl:=zcp hf
 rw [decide_eq_true hl.1,Bool.true_and]
 by_cases hp:0<=c.proc/\c.proc<(s.procs.length:Int)
 ·rw [decide_eq_true hp]
  cases e:((x.locs[c.proc.toNat]?).getD 0 == c.from_) with
  | false=>simp
  | true =>
   have e':(x.locs[c.proc.toNat]?).getD 0=c.from_:=by simpa using e
   have hloc:zi4 s x c.proc.toNat=true:=by
    unfold zco at hf
    rw [Bool.and_eq_true,Bool.and_eq_true] at hf
    exact zd1.1 hf.2.1 _ (by omega)
   unfold zi4 at hloc
   rw [e'] at hloc
   rw [hloc]
   simp [Bool.and_assoc,Bool.and_comm,Bool.and_left_comm]
 ·rw [decide_eq_false hp];simp
theorem beg_none {s:zao} {locs:List Int} {i:Int} (hi:ze4 s i=none):(zae s locs i).2=false:=by
 show ((zaa s i).2 && _)=false;unfold zaa;rw [hi];rfl
theorem can_law {s:zao} {x:StD} (i:Int) (hf:zco s x=true):can s x i=((zae s x.locs i).2 && (zhq s (zae s x.locs i).1).holds x.vals):=by
 unfold can
 cases hi:ze4 s i with
 | none=>rw [beg_none hi];rfl
 | some c =>
  have hc:(zae s x.locs i).1=c:=by show (zaa s i).1=c;unfold zaa;rw [hi]
  rw [hc,canF_holds]
  show canC s x c=_
  unfold canC
  rw [enabled_beg hf hi,Bool.and_assoc]
theorem stk_holds {s:zao} {x:StD} (hf:zco s x=true):(zdj s x.locs).holds x.vals=zfj s.acts.length fun i=>!can s x (i:Int):=by
 unfold zdj
 rw [zgo,zku]
 refine zdw fun i _=>?_
 rw [can_law (i:Int) hf]
 unfold zh6
 cases e:(zae s x.locs (i:Int)).2 with
 | true=>rw [if_pos rfl,List.all_cons,List.all_nil,deny_holds,Bool.and_true,Bool.true_and]
 | false=>rw [if_neg Bool.noConfusion];rfl
theorem stk_stuck {s:zao} {x:StD} (hf:zco s x=true):(zdj s x.locs).holds x.vals=stuck s x:=by
 rw [stk_holds hf];unfold stuck;rw [hf,Bool.and_true]
theorem stk_bel {s:zao} (hp:ProS s) (locs:List Int):zef s.vars.length (zdj s locs):=zid (zd0 fun v _ g hg=>by
 unfold zh6 at hg
 split at hg
 ·rw [List.mem_singleton.1 hg];exact belF_deny (canF_bel (snd_pro hp _).1 (snd_pro hp _).2)
 ·cases hg)
def zeo (s:zao) (locs:List Int) (act:Int) (k:Nat):za0:=if act=-1 then atF s (zh9 (zfh s (zdj s locs) (zae s locs (-1)).1)) k else if (zae s locs act).2=true then atF s (zh9 (zfh s (zae s locs act).1.guard (zae s locs act).1++[atF s (zcv s) 1])) k else zd9 false
def canK (s:zao) (act:Int) (k:Nat):za0:=if (zaa s act).2=true then atF s (zhq s (zaa s act).1) k else zd9 false
theorem both_eq (s:zao) (x y:StD) (k:Nat):zk0 s x y k=List.replicate (k*s.vars.length) zdk++(x.vals++y.vals):=by unfold zk0;rw [List.append_assoc]
theorem both_len (s:zao) (k:Nat):(List.replicate (k*s.vars.length) zdk).length=k*s.vars.length:=List.length_replicate
theorem sam_bel {s:zao} {v:Nat} {t:zak} (hv:v<s.vars.length) (ht:Bel s.vars.length t):zef (2*s.vars.length) (zkb s v t):=zic (zdg (bel_sub (bel_var (by omega)) (ht.mono (by omega))))
theorem stpS_bel {s:zao} {c:zax} (hc:∀ m ∈ c.moves,Bel s.vars.length m.t):∀ g ∈ (List.range s.vars.length).flatMap (zdm s c),zef (2*s.vars.length) g:=zd0 fun v hv g hg=>by
 unfold zdm at hg
 split at hg
 ·rw [List.mem_singleton.1 hg];exact sam_bel hv (valA_bel hc hv)
 ·cases hg
theorem sam_holds {s:zao} {x y:StD} {v:Nat} {t:zak} (hx:x.vals.length=s.vars.length) (ht:Bel s.vars.length t):(zkb s v t).holds (x.vals++y.vals)=decide (((y.vals[v]?).getD zdk).val=zec t x.vals):=by
 unfold zkb zroR
 rw [zjd,relOk_eq2 rfl,zc7,val_sub,valT_var,val_app ht y.vals (by omega),Int.natCast_add,<- hx,valAt_far (by omega),vals_at]
 exact decide_eq_decide.2 (by omega)
theorem stpS_holds {s:zao} {x y:StD} {c:zax} {v:Nat} (hx:x.vals.length=s.vars.length) (hc:∀ m ∈ c.moves,Bel s.vars.length m.t) (hv:v<s.vars.length):(zdm s c v).all (za0.holds (x.vals++y.vals))=zfv x c y v:=by
 unfold zdm zfv
 rw [valA_free]
 cases hf:zbq c v with
 | true=>rw [if_neg (by simp)];rfl
 | false =>
  rw [Bool.not_false,if_pos rfl,List.all_cons,List.all_nil,sam_holds hx (valA_bel hc hv),valA_new hf,Bool.and_true,Bool.false_or]
  exact decide_eq_decide.2 ⟨fun e=>e.symm,fun e=>e.symm⟩
theorem stpL_holds {s:zao} {x y:StD} {h:za0} {c:zax} (hx:x.vals.length=s.vars.length) (hh:zef s.vars.length h) (hc:∀ m ∈ c.moves,Bel s.vars.length m.t):(zfh s h c).all (za0.holds (x.vals++y.vals))=(h.holds x.vals && zfj x.vals.length (zfv x c y)):=by
 unfold zfh
 rw [List.all_cons,holds_app y.vals (by omega) h hh,zku,hx]
 congr 1
 exact zdw fun v hv=>stpS_holds hx hc hv
theorem stpL_bel {s:zao} {h:za0} {c:zax} (hh:zef s.vars.length h) (hc:∀ m ∈ c.moves,Bel s.vars.length m.t):∀ g ∈ zfh s h c,zef (2*s.vars.length) g:=fun g hg=>by
 unfold zfh at hg
 rcases List.mem_cons.1 hg with rfl | hg
 ·exact hh.mono (by omega)
 ·exact stpS_bel hc g hg
theorem mov_bel {m n:Nat} {t:zak} (h:Bel m t) (hn:n<=1000000) (_hm:m<=1000000):Bel (m+n) (movZ t (zah (n:Int))):=fun v hv=>by
 have hc:zah (n:Int)=(n:Int):=by unfold zah;omega
 rw [hc,movZ,zem]
 refine coefZ_far fun p hp e=>?_
 obtain ⟨q,hq,rfl⟩:=List.mem_map.1 hp
 have:=(zhx h q (List.mem_filter.1 hq).1).2
 change q.v+(n:Int)=v at e
 omega
theorem movF_bel {m n:Nat} (hn:n<=1000000) (hm:m<=1000000) (f:za0) (h:zef m f):zef (m+n) (f.each (zcb (n:Int))):=belF_each (t:=zcb (n:Int)) (fun r hr=>mov_bel (t:=(cpR r).t) (zdg hr) hn hm) f h
theorem off_nat (s:zao) (k:Nat):offZ s k=((k*s.vars.length:Nat):Int):=by unfold offZ;rw [Int.natCast_mul]
theorem at_bel {m:Nat} {s:zao} {k:Nat} (hv:s.vars.length<=8) (hk:k<=4096) (hm:m<=1000000) (f:za0) (h:zef m f):zef (m+k*s.vars.length) (atF s f k):=by
 unfold atF;rw [off_nat]
 have hb:k*s.vars.length<=4096*8:=Nat.mul_le_mul hk hv
 exact movF_bel (by omega) hm f h
theorem rng1_holds {s:zao} (hv:s.vars.length<=8) {x y:StD} (hx:x.vals.length=s.vars.length):(atF s (zcv s) 1).holds (x.vals++y.vals)=(zcv s).holds y.vals :=
 at_holds hv (by decide) (Nat.le_trans hv (by decide)) (by rw [hx,Nat.one_mul]) _ (rng_bel s)
theorem locs_step {x:StD} {c:zax} {y:StD} (hp:0<=c.proc/\c.proc<(x.locs.length:Int)):(y.locs=x.locs.set c.proc.toNat c.to_) ↔ (y.locs.length=x.locs.length/\zfj x.locs.length (zh7 x c y)=true):=by
 rw [zd1]
 constructor
 ·intro e
  refine ⟨by rw [e,List.length_set],fun p hp2=>?_⟩
  unfold zh7
  rw [e]
  by_cases h:(p:Int)=c.proc
  ·rw [if_pos h,show p=c.proc.toNat by omega,List.getElem?_set_self (by omega)];simp
  ·rw [if_neg h,List.getElem?_set_ne (by omega)];simp
 ·rintro ⟨hl,h⟩
  refine List.ext_getElem? fun p=>?_
  by_cases hp2:p<x.locs.length
  ·have h1:=h p hp2
   unfold zh7 at h1
   rw [List.getElem?_eq_getElem (by omega)] at h1 ⊢
   by_cases e:(p:Int)=c.proc
   ·rw [if_pos e] at h1
    rw [show c.proc.toNat=p by omega,List.getElem?_set_self hp2]
    simp at h1;rw [h1]
   ·rw [if_neg e] at h1
    rw [List.getElem?_set_ne (by omega),List.getElem?_eq_getElem hp2]
    rw [List.getElem?_eq_getElem hp2] at h1
    simp at h1;rw [h1]
  ·rw [List.getElem?_eq_none (by omega),List.getElem?_eq_none (by rw [List.length_set];omega)]
theorem fits_step {s:zao} {x y:StD} {c:zax} (hf:zco s x=true) (hsb:sndB s c=true) (he:y.locs=x.locs.set c.proc.toNat c.to_) (hy:y.vals.length=s.vars.length):zco s y=(zcv s).holds y.vals:=by
 rw [rng_fits hy]
 unfold zco
 have hl:=zcp hf
 unfold sndB at hsb
 simp only [Bool.and_eq_true,decide_eq_true_eq] at hsb
 rw [decide_eq_true ⟨by rw [he,List.length_set];exact hl.1,hy⟩,Bool.true_and]
 have:zfj y.locs.length (zi4 s y)=true:=by
  rw [zd1]
  intro p hp
  unfold zco at hf
  rw [Bool.and_eq_true,Bool.and_eq_true] at hf
  have hp2:p<x.locs.length:=by rw [he,List.length_set] at hp;exact hp
  have h1:=zd1.1 hf.2.1 p hp2
  unfold zi4 at h1 ⊢
  rw [he]
  by_cases e:p=c.proc.toNat
  ·rw [e,List.getElem?_set_self (by omega),Option.getD_some];exact decide_eq_true hsb.1.2
  ·rw [List.getElem?_set_ne (by omega)];exact h1
 rw [this,Bool.true_and]
theorem step_law {s:zao} (hp:ProS s) (hv8:s.vars.length<=8) {x y:StD} (hf:zco s x=true) (hy:y.vals.length=s.vars.length) (act:Int) {k:Nat} (hk:k<=4096):zh8 s x act y=((zip s x.locs act).2 && (decide ((zip s x.locs act).1=y.locs) && (zeo s x.locs act k).holds (zk0 s x y k))):=by
 have hx:=(zcp hf).2
 have hm2:2*s.vars.length<=1000000:=by omega
 rw [both_eq]
 unfold zh8 zip zeo
 by_cases ha:act=-1
 ·rw [if_pos ha,if_pos ha,if_pos ha]
  have h0:∀ m ∈ (zae s x.locs (-1)).1.moves,Bel s.vars.length m.t:=(snd_pro hp (-1)).2
  rw [at_holds hv8 hk hm2 (both_len s k) _ (zid (stpL_bel (stk_bel hp x.locs) h0)),zgo,stpL_holds hx (stk_bel hp x.locs) h0,stk_stuck hf,Bool.true_and]
  have hvs:zfj x.vals.length (zfv x (zae s x.locs (-1)).1 y)=decide (x.vals.map ZI.val=y.vals.map ZI.val):=by
   have e0:(zae s x.locs (-1)).1=act0:=rfl
   rw [e0]
   rw [Bool.eq_iff_iff,zd1,decide_eq_true_eq]
   have hz:∀ v,v<x.vals.length->(zfv x act0 y v=true ↔ ((x.vals[v]?).getD zdk).val=((y.vals[v]?).getD zdk).val):=fun v _=>by
    have e1:zbq act0 v=false:=rfl
    have e2:(zi0 x act0 v).val=((x.vals[v]?).getD zdk).val:=ZI.val_of _
    unfold zfv;rw [e1,e2,Bool.false_or,decide_eq_true_eq]
   constructor
   ·intro h
    refine List.ext_getElem? fun v=>?_
    rw [List.getElem?_map,List.getElem?_map]
    by_cases hv:v<x.vals.length
    ·have:=(hz v hv).1 (h v hv)
     rw [List.getElem?_eq_getElem hv,List.getElem?_eq_getElem (by omega)] at this ⊢
     exact congrArg some this
    ·rw [List.getElem?_eq_none (by omega),List.getElem?_eq_none (by omega)]
   ·intro h v hv
    refine (hz v hv).2 ?_
    have h3:=congrArg (fun l=>l[v]?) h
    simp only [List.getElem?_map] at h3
    rw [List.getElem?_eq_getElem hv,List.getElem?_eq_getElem (by omega)] at h3 ⊢
    simpa using h3
  rw [hvs]
  unfold zfz
  cases stuck s x <;> simp
 ·rw [if_neg ha,if_neg ha,if_neg ha]
  cases hi:ze4 s act with
  | none=>rw [beg_none hi,if_neg Bool.noConfusion,if_neg Bool.noConfusion];rfl
  | some c =>
   have hc:(zae s x.locs act).1=c:=by show (zaa s act).1=c;unfold zaa;rw [hi]
   show leadsC s x c y=_
   rw [<- zfa]
   unfold zcm
   rw [enabled_beg hf hi]
   cases hb:(zae s x.locs act).2 with
   | false=>rw [if_neg Bool.noConfusion,if_neg Bool.noConfusion];rfl
   | true =>
    rw [if_pos rfl,if_pos rfl,hc,Bool.true_and,Bool.true_and]
    have hpr:zef s.vars.length c.guard/\∀ m ∈ c.moves,Bel s.vars.length m.t:=by have:=snd_pro hp act;rw [show (zaa s act).1=c from hc] at this;exact this
    have hproc:=begA_proc hb
    rw [hc] at hproc
    have hsb:sndB s c=true:=by
     have h2:((zaa s act).2 && begB s x.locs (zaa s act).1)=true:=hb
     rw [Bool.and_eq_true] at h2
     have h3:=h2.1
     unfold zaa at h3;rw [hi] at h3;exact h3
    have hr1:zef (2*s.vars.length) (atF s (zcv s) 1):=(at_bel hv8 (by decide) (by omega) _ (rng_bel s)).mono (by omega)
    have hall:∀ g ∈ zfh s c.guard c++[atF s (zcv s) 1],zef (2*s.vars.length) g:=fun g hg=>(List.mem_append.1 hg).elim (stpL_bel hpr.1 hpr.2 g) fun h=>by rw [List.mem_singleton.1 h];exact hr1
    rw [at_holds hv8 hk hm2 (both_len s k) _ (zid hall),zgo,List.all_append,stpL_holds hx hpr.1 hpr.2,List.all_cons,List.all_nil,rng1_holds hv8 hx,Bool.and_true]
    by_cases he:y.locs=x.locs.set c.proc.toNat c.to_
    ·have hls:=((locs_step hproc).1 he).2
     rw [fits_step hf hsb he hy,hls,decide_eq_true he.symm]
     cases c.guard.holds x.vals <;> cases (zcv s).holds y.vals <;> simp
    ·rw [decide_eq_false (fun e=>he e.symm),Bool.false_and]
     cases hfy:zco s y with
     | false=>simp
     | true =>
      cases hls:zfj x.locs.length (zh7 x c y) with
      | false=>simp
      | true=>exact absurd ((locs_step hproc).2 ⟨by rw [(zcp hfy).1,(zcp hf).1],hls⟩) he
theorem mg6_10:za4 Tryz.prog 44:=za4.mk' (by kernel_rfl)
theorem mg6_13:za4 Tryz.prog 17:=za4.mk' (by kernel_rfl)
theorem Lsame (s:zao) (v:Nat) (t:zak) (hs:zb7 3 s) (hv:v<=1000) (ht:TOk 20 20 t):Fn Tryz.prog 44 [] [vG (zal s),vN v,(vT t)] (vF (zkb s v t)) []:=by
 have lvs:=hs.vars;refine Fn.body Tryz.func44 rfl 17 rfl fun w H B a h=>Jq 0 [] [(1,vN v),(3,vp 0 0),(5,vp 1 0),(6,vp 2 0)] [(0,.box (zal s)),(1,.box (zT t)),(2,.box zF0)] h fun a w h=>Jq 3 [(3,.len (za7 1 zg9 s.vars)),(4,.add .i64 (m:=(v:Int)) (n:=(s.vars.length:Int)) i6),(5,.call (Lvariable (v+s.vars.length)) mb1_11),(7,.call (STSub (ze2 ((v+s.vars.length:Nat):Int)) t ((zhh _).mono (by decide) (by decide)) (ht.mono (by decide) (by decide))) to_9),(8,.call (LZero (zk7 (ze2 ((v+s.vars.length:Nat):Int)) t) ((sub_tok (n:=1) (m:=20) (L:=20) (zhh _) ht (by decide)).mono (by decide) (by decide))) hc_14),(9,.call (LOf (zroR (zk7 (ze2 ((v+s.vars.length:Nat):Int)) t)) (((sub_tok (n:=1) (m:=20) (L:=20) (zhh _) ht (by decide)).plain (by decide)).mono (by decide) (by decide))) la_9)] [(6,vp 2 0)] [(2,.box (zF (zdh (zroR (zk7 (ze2 ((v+s.vars.length:Nat):Int)) t)))))] h fun a w h=>qV (rA 2 (zF (zdh (zroR (zk7 (ze2 ((v+s.vars.length:Nat):Int)) t)))) h zcs rfl ?_)
 rfl
theorem LStepM (s:zao) (locs:List Int) (k:Nat) (hs:zb7 3 s) (hw:SysW s) (hl:locs.length<=9223372036854775807) (hk:k<=4096):Fn Tryz.prog 13 [] [vG (zal s),(vIs locs),vI (-1),vN k] (vF (atF s (zh9 (zfh s (zdj s locs) (zae s locs (-1)).1)) k)) []:=by
 have lvs:=hs.vars;have hsl:∀ g ∈ (zfh s (zdj s locs) (zae s locs (-1)).1),g.okB 40 60:=stpL_ok (za0.okB_mono (by decide) (by decide) _ (stkF_ok hs hw locs)) (zbp hs _);have hslen:=stpL_len s (zdj s locs) (zae s locs (-1)).1;refine Fn.body Tryz.func13 rfl 74 rfl fun w H B a h=>Jq 5 [] [(1,(vIs locs)),(2,vI (-1)),(3,vN k),(4,vp 5 0),(8,vp 6 0)] [(5,.box (zal s)),(6,.box zF0)] h fun a w h=>Jd 7 [(0,.g (Op.buildE (d:=15) (n:=7) zkm))] [] [(9,vO 7 0)] [(5,.box (zal s)),(6,.box zF0),(7,.row 35 6 ([].map za0.d))] h fun a w h=>Jd 8 [(3,.call (Lbegins s locs (-1) hs hl) md3_12)] [] [(10,vp 8 0),(11,vb (zae s locs (-1)).2)] [(5,.box (zal s)),(6,.box zF0),(7,.row 35 6 ([].map za0.d)),(8,.box ([cI (zae s locs (-1)).1.proc,cI (zae s locs (-1)).1.from_,cI (zae s locs (-1)).1.to_,cI (zae s locs (-1)).1.guard.kind,cPs (zae s locs (-1)).1.guard.r.t.parts]++zi (zae s locs (-1)).1.guard.r.t.k++[cB (zae s locs (-1)).1.guard.r.eq,cFs (zae s locs (-1)).1.guard.kids,.d (.sl 5 ((zae s locs (-1)).1.moves.map zad.d))]))] h fun a w h=>qW (qZ (Je 9 [(1,.cmp (op:=.eql) (m:=(-1)) (n:=(-1)) (b:=true) .i64 rfl)] [] [(28,vb true)] h fun a w h=>cS true h (fun _=>?_) nofun))
 refine Jm 9 [(3,.call (Lstuck s locs hs hw hl) md3_15),(4,.g (Op.buildO (d:=35) (n:=9) (len:=1) (rows:=[(zdj s locs)].map za0.d) (rs:=[(34,(vF (zdj s locs)))]) zkm (.cons (i:=0) (OV.tmp 34 _) (.nil)) (by simp only [List.map_cons,List.map_nil,List.flatten_cons,List.flatten_nil,List.append_nil,za0.d_eq];kernel_rfl) rfl (by simp [za0.d_len]) (by decide) (by decide))),(5,.g (Op.appOO (d:=36) (t:=31) (u:=35) (n:=7) (sn:=9) (n':=10) (len:=0) (len2:=1) (len':=[(zdj s locs)].length) (rows:=[].map za0.d) (rows2:=[(zdj s locs)].map za0.d) (rows':=[(zdj s locs)].map za0.d) la_7 (by first | exact (List.length_map _).symm | simp) (by first | exact (List.length_map _).symm | simp) (by first | (rw [List.length_append,List.length_map];done) | simp) (by simp) (by first | omega | (simp at *;done) | (simp at *;omega))))] [1,11,28] [(9,vO 10 ([(zdj s locs)].length))] [(5,.box (zal s)),(6,.box zF0),(8,.box ([cI (zae s locs (-1)).1.proc,cI (zae s locs (-1)).1.from_,cI (zae s locs (-1)).1.to_,cI (zae s locs (-1)).1.guard.kind,cPs (zae s locs (-1)).1.guard.r.t.parts]++zi (zae s locs (-1)).1.guard.r.t.k++[cB (zae s locs (-1)).1.guard.r.eq,cFs (zae s locs (-1)).1.guard.kids,.d (.sl 5 ((zae s locs (-1)).1.moves.map zad.d))])),(10,.row 35 6 ([(zdj s locs)].map za0.d))] h fun a w h=>za8 (za1 (qW (Je 11 [(2,.len (za7 1 zg9 s.vars))] [] [(43,vN s.vars.length),(44,vI 0)] h fun a w h=>qZ ?_)));replace h:=cv (fun z_:List za0=>F.of [(2,vI (-1)),(3,vN k),(4,vp 5 0),(8,vp 6 0),(9,vO 10 z_.length),(10,vp 8 0),(43,vN s.vars.length),(44,vI 0)] [(5,.box (zal s)),(6,.box zF0),(8,.box ([cI (zae s locs (-1)).1.proc,cI (zae s locs (-1)).1.from_,cI (zae s locs (-1)).1.to_,cI (zae s locs (-1)).1.guard.kind,cPs (zae s locs (-1)).1.guard.r.t.parts]++zi (zae s locs (-1)).1.guard.r.t.k++[cB (zae s locs (-1)).1.guard.r.eq,cFs (zae s locs (-1)).1.guard.kids,.d (.sl 5 ((zae s locs (-1)).1.moves.map zad.d))])),(10,.row 35 6 (z_.map za0.d))]) (show ([(zdj s locs)]:List za0)=([(zdj s locs)]++(List.range 0).flatMap (zdm s (zae s locs (-1)).1)) from (by simp)) h
 refine zar (ι:=(Nat)) (fun j=>j<=s.vars.length)
   (fun j=>[(2,vI (-1)),(3,vN k),(4,vp 5 0),(8,vp 6 0),(9,vO 10 ([(zdj s locs)]++(List.range j).flatMap (zdm s (zae s locs (-1)).1)).length),(10,vp 8 0),(43,vN s.vars.length),(44,vN j)])
   (fun j=>[(5,.box (zal s)),(6,.box zF0),(8,.box ([cI (zae s locs (-1)).1.proc,cI (zae s locs (-1)).1.from_,cI (zae s locs (-1)).1.to_,cI (zae s locs (-1)).1.guard.kind,cPs (zae s locs (-1)).1.guard.r.t.parts]++zi (zae s locs (-1)).1.guard.r.t.k++[cB (zae s locs (-1)).1.guard.r.eq,cFs (zae s locs (-1)).1.guard.kids,.d (.sl 5 ((zae s locs (-1)).1.moves.map zad.d))])),(10,.row 35 6 (([(zdj s locs)]++(List.range j).flatMap (zdm s (zae s locs (-1)).1)).map za0.d))])
   (fun j=>s.vars.length - j) 0 ?_ h (by kernel_rfl) (by kernel_rfl) ?_
 ·exact Nat.zero_le _
 clear h;rintro j a w hI h;have lsj:=zc4 (zdm s (zae s locs (-1)).1) (stpS_len s (zae s locs (-1)).1) j;refine Je 11 [] [] [(45,vb (decide ((j:Int)<(s.vars.length:Int))))] h fun a w h=>qW (zam ((j:Int)<(s.vars.length:Int)) h (fun hc1 hc1'=>?_) (fun hc4 hc4'=>?_))
 ·refine qU (za1 (qW (qZ (Je 11 [] [45] [(12,vN j)] h fun a w h=>Jd 11 [(2,.call (Lvalue (zae s locs (-1)).1 j (zbp hs _)) mc2_15)] [] [(13,vp 11 0),(14,vb (zbx (zae s locs (-1)).1 j).2)] [(5,.box (zal s)),(6,.box zF0),(8,.box ([cI (zae s locs (-1)).1.proc,cI (zae s locs (-1)).1.from_,cI (zae s locs (-1)).1.to_,cI (zae s locs (-1)).1.guard.kind,cPs (zae s locs (-1)).1.guard.r.t.parts]++zi (zae s locs (-1)).1.guard.r.t.k++[cB (zae s locs (-1)).1.guard.r.eq,cFs (zae s locs (-1)).1.guard.kids,.d (.sl 5 ((zae s locs (-1)).1.moves.map zad.d))])),(10,.row 35 6 (([(zdj s locs)]++(List.range j).flatMap (zdm s (zae s locs (-1)).1)).map za0.d)),(11,.box (zT (zbx (zae s locs (-1)).1 j).1))] h fun a w h=>Je 12 [] [14] [(53,vb (zbx (zae s locs (-1)).1 j).2)] h fun a w h=>cS (zbx (zae s locs (-1)).1 j).2 h (fun hc2=>?_) (fun hc3=>?_)))))
  ·refine Jm 12 [(4,.call (Lsame s j (zbx (zae s locs (-1)).1 j).1 hs (by omega) (zii (zbp hs _) _)) mg6_10),(5,.g (Op.buildO (d:=59) (n:=12) (len:=1) (rows:=[(zkb s j (zbx (zae s locs (-1)).1 j).1)].map za0.d) (rs:=[(58,(vF (zkb s j (zbx (zae s locs (-1)).1 j).1)))]) zkm (.cons (i:=0) (OV.tmp 58 _) (.nil)) (by simp only [List.map_cons,List.map_nil,List.flatten_cons,List.flatten_nil,List.append_nil,za0.d_eq];kernel_rfl) rfl (by simp [za0.d_len]) (by decide) (by decide))),(6,.g (Op.appOO (d:=60) (t:=54) (u:=59) (n:=10) (sn:=12) (n':=13) (len:=([(zdj s locs)]++(List.range j).flatMap (zdm s (zae s locs (-1)).1)).length) (len2:=1) (len':=(([(zdj s locs)]++(List.range j).flatMap (zdm s (zae s locs (-1)).1))++[(zkb s j (zbx (zae s locs (-1)).1 j).1)]).length) (rows:=([(zdj s locs)]++(List.range j).flatMap (zdm s (zae s locs (-1)).1)).map za0.d) (rows2:=[(zkb s j (zbx (zae s locs (-1)).1 j).1)].map za0.d) (rows':=(([(zdj s locs)]++(List.range j).flatMap (zdm s (zae s locs (-1)).1))++[(zkb s j (zbx (zae s locs (-1)).1 j).1)]).map za0.d) la_7 (by first | exact (List.length_map _).symm | simp) (by first | exact (List.length_map _).symm | simp) (by first | (rw [List.length_append,List.length_map];done) | simp) (by simp) (by first | omega | (simp at *;done) | (simp at *;omega))))] [12,13,53] [(9,vO 13 (([(zdj s locs)]++(List.range j).flatMap (zdm s (zae s locs (-1)).1))++[(zkb s j (zbx (zae s locs (-1)).1 j).1)]).length)] [(5,.box (zal s)),(6,.box zF0),(8,.box ([cI (zae s locs (-1)).1.proc,cI (zae s locs (-1)).1.from_,cI (zae s locs (-1)).1.to_,cI (zae s locs (-1)).1.guard.kind,cPs (zae s locs (-1)).1.guard.r.t.parts]++zi (zae s locs (-1)).1.guard.r.t.k++[cB (zae s locs (-1)).1.guard.r.eq,cFs (zae s locs (-1)).1.guard.kids,.d (.sl 5 ((zae s locs (-1)).1.moves.map zad.d))])),(13,.row 35 6 ((([(zdj s locs)]++(List.range j).flatMap (zdm s (zae s locs (-1)).1))++[(zkb s j (zbx (zae s locs (-1)).1 j).1)]).map za0.d))] h fun a w h=>za8 (za1 (Jf 14 [(0,.j1 j)] [] [(44,vI ((j:Int)+1))] h fun a w h=>za1 ?_));rw [show ((([(zdj s locs)]++(List.range j).flatMap (zdm s (zae s locs (-1)).1))++[(zkb s j (zbx (zae s locs (-1)).1 j).1)]):List za0)=([(zdj s locs)]++(List.range (j+1)).flatMap (zdm s (zae s locs (-1)).1)) from (by rw [zby (zdm s (zae s locs (-1)).1) j,show zdm s (zae s locs (-1)).1 j=[zkb s j (zbx (zae s locs (-1)).1 j).1] from if_pos hc2];first | done | simp)] at h;replace h:=ze6 13 10 [(2,vI (-1)),(3,vN k),(4,vp 5 0),(8,vp 6 0),(9,vO 10 ([(zdj s locs)]++(List.range (j+1)).flatMap (zdm s (zae s locs (-1)).1)).length),(10,vp 8 0),(43,vN s.vars.length),(44,vI ((j:Int)+1))] [(5,.box (zal s)),(6,.box zF0),(8,.box ([cI (zae s locs (-1)).1.proc,cI (zae s locs (-1)).1.from_,cI (zae s locs (-1)).1.to_,cI (zae s locs (-1)).1.guard.kind,cPs (zae s locs (-1)).1.guard.r.t.parts]++zi (zae s locs (-1)).1.guard.r.t.k++[cB (zae s locs (-1)).1.guard.r.eq,cFs (zae s locs (-1)).1.guard.kids,.d (.sl 5 ((zae s locs (-1)).1.moves.map zad.d))])),(10,.row 35 6 (([(zdj s locs)]++(List.range (j+1)).flatMap (zdm s (zae s locs (-1)).1)).map za0.d))] h;refine zag (x:=j) (y:=j+1) h ?_ ?_
   ·have:=dT hc1;show j+1<=s.vars.length;omega
   show s.vars.length - (j+1)<s.vars.length - j;have:=dT hc1;omega
  refine qU (za8 (za1 (Jm 14 [(0,.j1 j)] [12,13,53] [(44,vI ((j:Int)+1))] [(5,.box (zal s)),(6,.box zF0),(8,.box ([cI (zae s locs (-1)).1.proc,cI (zae s locs (-1)).1.from_,cI (zae s locs (-1)).1.to_,cI (zae s locs (-1)).1.guard.kind,cPs (zae s locs (-1)).1.guard.r.t.parts]++zi (zae s locs (-1)).1.guard.r.t.k++[cB (zae s locs (-1)).1.guard.r.eq,cFs (zae s locs (-1)).1.guard.kids,.d (.sl 5 ((zae s locs (-1)).1.moves.map zad.d))])),(10,.row 35 6 (([(zdj s locs)]++(List.range j).flatMap (zdm s (zae s locs (-1)).1)).map za0.d))] h fun a w h=>za1 ?_)));rw [show (([(zdj s locs)]++(List.range j).flatMap (zdm s (zae s locs (-1)).1)):List za0)=([(zdj s locs)]++(List.range (j+1)).flatMap (zdm s (zae s locs (-1)).1)) from (by rw [zby (zdm s (zae s locs (-1)).1) j,show zdm s (zae s locs (-1)).1 j=[] from if_neg (by rw [hc3];exact Bool.noConfusion)];first | done | simp)] at h;refine zag (x:=j) (y:=j+1) h ?_ ?_
  ·have:=dT hc1;show j+1<=s.vars.length;omega
  show s.vars.length - (j+1)<s.vars.length - j;have:=dT hc1;omega
 refine wp_exit (za9 (za9 (za5 (za1 (qW ?_)))));rw [show (([(zdj s locs)]++(List.range j).flatMap (zdm s (zae s locs (-1)).1)):List za0)=(zfh s (zdj s locs) (zae s locs (-1)).1) from (by rw [show j=s.vars.length by have:=dF hc4;omega];rfl)] at h;replace h:=zhw 10 6 35 ((zfh s (zdj s locs) (zae s locs (-1)).1).map za0.d) [(2,vI (-1)),(3,vN k),(4,vp 5 0),(8,vp 6 0),(9,(vFs (zfh s (zdj s locs) (zae s locs (-1)).1))),(10,vp 8 0),(43,vN s.vars.length),(44,vN j),(45,vb (decide ((j:Int)<(s.vars.length:Int))))] [(5,.box (zal s)),(6,.box zF0),(8,.box ([cI (zae s locs (-1)).1.proc,cI (zae s locs (-1)).1.from_,cI (zae s locs (-1)).1.to_,cI (zae s locs (-1)).1.guard.kind,cPs (zae s locs (-1)).1.guard.r.t.parts]++zi (zae s locs (-1)).1.guard.r.t.k++[cB (zae s locs (-1)).1.guard.r.eq,cFs (zae s locs (-1)).1.guard.kids,.d (.sl 5 ((zae s locs (-1)).1.moves.map zad.d))]))] h rfl (show zbw _ [(zfh s (zdj s locs) (zae s locs (-1)).1).length] from ⟨by first | exact (List.length_map _).symm | (simp;done) | (simp;omega),trivial⟩) trivial;refine Jd 14 [(1,.cmp (op:=.neq) (m:=(-1)) (n:=(-1)) (b:=false) .i64 rfl)] [2,10,43,44,45] [(63,vb false)] [(5,.box (zal s)),(6,.box zF0)] h fun a w h=>zav false h rfl nofun (fun _=>qU (za1 (Jq 14 [(2,.call (LAll (zfh s (zdj s locs) (zae s locs (-1)).1) (fun g hg=>za0.okB_mono (by decide) (by decide) _ (hsl g hg)) (by first | omega | (rw [List.length_append,List.length_singleton];omega))) zjl),(4,.call (Lat s (zh9 (zfh s (zdj s locs) (zae s locs (-1)).1)) k hs hk (za0.okB_mono (Nat.le_refl _) (by decide) _ (zf1 (by decide) hsl (by first | omega | (rw [List.length_append,List.length_singleton];omega))))) md3_4)] [(8,vp 6 0)] [(6,.box (zF (atF s (zh9 (zfh s (zdj s locs) (zae s locs (-1)).1)) k)))] h fun a w h=>qV (rA 6 (zF (atF s (zh9 (zfh s (zdj s locs) (zae s locs (-1)).1)) k)) h zcs rfl ?_))))
 rfl
theorem LStepS (s:zao) (locs:List Int) (act:Int) (k:Nat) (ha:act≠-1) (hb:(zae s locs act).2=true) (hs:zb7 3 s) (hw:SysW s) (hl:locs.length<=9223372036854775807) (hk:k<=4096):Fn Tryz.prog 13 [] [vG (zal s),(vIs locs),vI act,vN k] (vF (atF s (zh9 ((zfh s (zae s locs act).1.guard (zae s locs act).1)++[atF s (zcv s) 1])) k)) []:=by
 have lvs:=hs.vars;have hsl:∀ g ∈ (zfh s (zae s locs act).1.guard (zae s locs act).1),g.okB 40 60:=stpL_ok (za0.okB_mono (by decide) (by decide) _ (zg3 (zbp hs act).guard (Nat.le_trans (zgg hw act) (by decide)))) (zbp hs _);have hslen:=stpL_len s (zae s locs act).1.guard (zae s locs act).1;have hsl2:∀ g ∈ ((zfh s (zae s locs act).1.guard (zae s locs act).1)++[atF s (zcv s) 1]),g.okB 40 103:=fun g hg=>(List.mem_append.1 hg).elim (fun h=>za0.okB_mono (by decide) (by decide) _ (hsl g h)) (fun h=>by rw [List.mem_singleton.1 h];exact rng1_ok hs)
 refine Fn.body Tryz.func13 rfl 74 rfl fun w H B a h=>Jq 5 [] [(1,(vIs locs)),(2,vI act),(3,vN k),(4,vp 5 0),(8,vp 6 0)] [(5,.box (zal s)),(6,.box zF0)] h fun a w h=>Jd 7 [(0,.g (Op.buildE (d:=15) (n:=7) zkm))] [] [(9,vO 7 0)] [(5,.box (zal s)),(6,.box zF0),(7,.row 35 6 ([].map za0.d))] h fun a w h=>Jd 8 [(3,.call (Lbegins s locs act hs hl) md3_12)] [] [(10,vp 8 0),(11,vb (zae s locs act).2)] [(5,.box (zal s)),(6,.box zF0),(7,.row 35 6 ([].map za0.d)),(8,.box ([cI (zae s locs act).1.proc,cI (zae s locs act).1.from_,cI (zae s locs act).1.to_,cI (zae s locs act).1.guard.kind,cPs (zae s locs act).1.guard.r.t.parts]++zi (zae s locs act).1.guard.r.t.k++[cB (zae s locs act).1.guard.r.eq,cFs (zae s locs act).1.guard.kids,.d (.sl 5 ((zae s locs act).1.moves.map zad.d))]))] h fun a w h=>qW (qZ (Je 9 [(1,.cmp (op:=.eql) (m:=act) (n:=(-1)) (b:=false) .i64 (beq_eq_false_iff_ne.2 ha))] [] [(28,vb false)] h fun a w h=>zav false h rfl nofun (fun _=>Je 9 [] [1,11,28] [(37,vb (!(zae s locs act).2))] h fun a w h=>cS (!(zae s locs act).2) h (fun hc=>?_) (fun hc=>?_))))
 ·rw [(show (!(zae s locs act).2)=false from by rw [hb];rfl)] at hc;cases hc
 clear hc;refine Jm 9 [(3,.g (Op.buildO (d:=26) (n:=9) (len:=1) (rows:=[(zae s locs act).1.guard].map za0.d) (rs:=[(25,(vF (zae s locs act).1.guard))]) zkm (.cons (i:=0) (OV.tmp 25 _) (.nil)) (by simp only [List.map_cons,List.map_nil,List.flatten_cons,List.flatten_nil,List.append_nil,za0.d_eq];kernel_rfl) rfl (by simp [za0.d_len]) (by decide) (by decide))),(4,.g (Op.appOO (d:=27) (t:=23) (u:=26) (n:=7) (sn:=9) (n':=10) (len:=0) (len2:=1) (len':=[(zae s locs act).1.guard].length) (rows:=[].map za0.d) (rows2:=[(zae s locs act).1.guard].map za0.d) (rows':=[(zae s locs act).1.guard].map za0.d) la_7 (by first | exact (List.length_map _).symm | simp) (by first | exact (List.length_map _).symm | simp) (by first | (rw [List.length_append,List.length_map];done) | simp) (by simp) (by first | omega | (simp at *;done) | (simp at *;omega))))] [37] [(9,vO 10 ([(zae s locs act).1.guard].length))] [(5,.box (zal s)),(6,.box zF0),(8,.box ([cI (zae s locs act).1.proc,cI (zae s locs act).1.from_,cI (zae s locs act).1.to_,cI (zae s locs act).1.guard.kind,cPs (zae s locs act).1.guard.r.t.parts]++zi (zae s locs act).1.guard.r.t.k++[cB (zae s locs act).1.guard.r.eq,cFs (zae s locs act).1.guard.kids,.d (.sl 5 ((zae s locs act).1.moves.map zad.d))])),(10,.row 35 6 ([(zae s locs act).1.guard].map za0.d))] h fun a w h=>za8 (za1 (qW (Je 11 [(2,.len (za7 1 zg9 s.vars))] [] [(43,vN s.vars.length),(44,vI 0)] h fun a w h=>qZ ?_)));replace h:=cv (fun z_:List za0=>F.of [(2,vI act),(3,vN k),(4,vp 5 0),(8,vp 6 0),(9,vO 10 z_.length),(10,vp 8 0),(43,vN s.vars.length),(44,vI 0)] [(5,.box (zal s)),(6,.box zF0),(8,.box ([cI (zae s locs act).1.proc,cI (zae s locs act).1.from_,cI (zae s locs act).1.to_,cI (zae s locs act).1.guard.kind,cPs (zae s locs act).1.guard.r.t.parts]++zi (zae s locs act).1.guard.r.t.k++[cB (zae s locs act).1.guard.r.eq,cFs (zae s locs act).1.guard.kids,.d (.sl 5 ((zae s locs act).1.moves.map zad.d))])),(10,.row 35 6 (z_.map za0.d))]) (show ([(zae s locs act).1.guard]:List za0)=([(zae s locs act).1.guard]++(List.range 0).flatMap (zdm s (zae s locs act).1)) from (by simp)) h
 refine zar (ι:=(Nat)) (fun j=>j<=s.vars.length)
   (fun j=>[(2,vI act),(3,vN k),(4,vp 5 0),(8,vp 6 0),(9,vO 10 ([(zae s locs act).1.guard]++(List.range j).flatMap (zdm s (zae s locs act).1)).length),(10,vp 8 0),(43,vN s.vars.length),(44,vN j)])
   (fun j=>[(5,.box (zal s)),(6,.box zF0),(8,.box ([cI (zae s locs act).1.proc,cI (zae s locs act).1.from_,cI (zae s locs act).1.to_,cI (zae s locs act).1.guard.kind,cPs (zae s locs act).1.guard.r.t.parts]++zi (zae s locs act).1.guard.r.t.k++[cB (zae s locs act).1.guard.r.eq,cFs (zae s locs act).1.guard.kids,.d (.sl 5 ((zae s locs act).1.moves.map zad.d))])),(10,.row 35 6 (([(zae s locs act).1.guard]++(List.range j).flatMap (zdm s (zae s locs act).1)).map za0.d))])
   (fun j=>s.vars.length - j) 0 ?_ h (by kernel_rfl) (by kernel_rfl) ?_
 ·exact Nat.zero_le _
 clear h;rintro j a w hI h;have lsj:=zc4 (zdm s (zae s locs act).1) (stpS_len s (zae s locs act).1) j;refine Je 11 [] [] [(45,vb (decide ((j:Int)<(s.vars.length:Int))))] h fun a w h=>qW (zam ((j:Int)<(s.vars.length:Int)) h (fun hc1 hc1'=>?_) (fun hc4 hc4'=>?_))
 ·refine qU (za1 (qW (qZ (Je 11 [] [45] [(12,vN j)] h fun a w h=>Jd 11 [(2,.call (Lvalue (zae s locs act).1 j (zbp hs _)) mc2_15)] [] [(13,vp 11 0),(14,vb (zbx (zae s locs act).1 j).2)] [(5,.box (zal s)),(6,.box zF0),(8,.box ([cI (zae s locs act).1.proc,cI (zae s locs act).1.from_,cI (zae s locs act).1.to_,cI (zae s locs act).1.guard.kind,cPs (zae s locs act).1.guard.r.t.parts]++zi (zae s locs act).1.guard.r.t.k++[cB (zae s locs act).1.guard.r.eq,cFs (zae s locs act).1.guard.kids,.d (.sl 5 ((zae s locs act).1.moves.map zad.d))])),(10,.row 35 6 (([(zae s locs act).1.guard]++(List.range j).flatMap (zdm s (zae s locs act).1)).map za0.d)),(11,.box (zT (zbx (zae s locs act).1 j).1))] h fun a w h=>Je 12 [] [14] [(53,vb (zbx (zae s locs act).1 j).2)] h fun a w h=>cS (zbx (zae s locs act).1 j).2 h (fun hc2=>?_) (fun hc3=>?_)))))
  ·refine Jm 12 [(4,.call (Lsame s j (zbx (zae s locs act).1 j).1 hs (by omega) (zii (zbp hs _) _)) mg6_10),(5,.g (Op.buildO (d:=59) (n:=12) (len:=1) (rows:=[(zkb s j (zbx (zae s locs act).1 j).1)].map za0.d) (rs:=[(58,(vF (zkb s j (zbx (zae s locs act).1 j).1)))]) zkm (.cons (i:=0) (OV.tmp 58 _) (.nil)) (by simp only [List.map_cons,List.map_nil,List.flatten_cons,List.flatten_nil,List.append_nil,za0.d_eq];kernel_rfl) rfl (by simp [za0.d_len]) (by decide) (by decide))),(6,.g (Op.appOO (d:=60) (t:=54) (u:=59) (n:=10) (sn:=12) (n':=13) (len:=([(zae s locs act).1.guard]++(List.range j).flatMap (zdm s (zae s locs act).1)).length) (len2:=1) (len':=(([(zae s locs act).1.guard]++(List.range j).flatMap (zdm s (zae s locs act).1))++[(zkb s j (zbx (zae s locs act).1 j).1)]).length) (rows:=([(zae s locs act).1.guard]++(List.range j).flatMap (zdm s (zae s locs act).1)).map za0.d) (rows2:=[(zkb s j (zbx (zae s locs act).1 j).1)].map za0.d) (rows':=(([(zae s locs act).1.guard]++(List.range j).flatMap (zdm s (zae s locs act).1))++[(zkb s j (zbx (zae s locs act).1 j).1)]).map za0.d) la_7 (by first | exact (List.length_map _).symm | simp) (by first | exact (List.length_map _).symm | simp) (by first | (rw [List.length_append,List.length_map];done) | simp) (by simp) (by first | omega | (simp at *;done) | (simp at *;omega))))] [12,13,53] [(9,vO 13 (([(zae s locs act).1.guard]++(List.range j).flatMap (zdm s (zae s locs act).1))++[(zkb s j (zbx (zae s locs act).1 j).1)]).length)] [(5,.box (zal s)),(6,.box zF0),(8,.box ([cI (zae s locs act).1.proc,cI (zae s locs act).1.from_,cI (zae s locs act).1.to_,cI (zae s locs act).1.guard.kind,cPs (zae s locs act).1.guard.r.t.parts]++zi (zae s locs act).1.guard.r.t.k++[cB (zae s locs act).1.guard.r.eq,cFs (zae s locs act).1.guard.kids,.d (.sl 5 ((zae s locs act).1.moves.map zad.d))])),(13,.row 35 6 ((([(zae s locs act).1.guard]++(List.range j).flatMap (zdm s (zae s locs act).1))++[(zkb s j (zbx (zae s locs act).1 j).1)]).map za0.d))] h fun a w h=>za8 (za1 (Jf 14 [(0,.j1 j)] [] [(44,vI ((j:Int)+1))] h fun a w h=>za1 ?_));rw [show ((([(zae s locs act).1.guard]++(List.range j).flatMap (zdm s (zae s locs act).1))++[(zkb s j (zbx (zae s locs act).1 j).1)]):List za0)=([(zae s locs act).1.guard]++(List.range (j+1)).flatMap (zdm s (zae s locs act).1)) from (by rw [zby (zdm s (zae s locs act).1) j,show zdm s (zae s locs act).1 j=[zkb s j (zbx (zae s locs act).1 j).1] from if_pos hc2];first | done | simp)] at h;replace h:=ze6 13 10 [(2,vI act),(3,vN k),(4,vp 5 0),(8,vp 6 0),(9,vO 10 ([(zae s locs act).1.guard]++(List.range (j+1)).flatMap (zdm s (zae s locs act).1)).length),(10,vp 8 0),(43,vN s.vars.length),(44,vI ((j:Int)+1))] [(5,.box (zal s)),(6,.box zF0),(8,.box ([cI (zae s locs act).1.proc,cI (zae s locs act).1.from_,cI (zae s locs act).1.to_,cI (zae s locs act).1.guard.kind,cPs (zae s locs act).1.guard.r.t.parts]++zi (zae s locs act).1.guard.r.t.k++[cB (zae s locs act).1.guard.r.eq,cFs (zae s locs act).1.guard.kids,.d (.sl 5 ((zae s locs act).1.moves.map zad.d))])),(10,.row 35 6 (([(zae s locs act).1.guard]++(List.range (j+1)).flatMap (zdm s (zae s locs act).1)).map za0.d))] h;refine zag (x:=j) (y:=j+1) h ?_ ?_
   ·have:=dT hc1;show j+1<=s.vars.length;omega
   show s.vars.length - (j+1)<s.vars.length - j;have:=dT hc1;omega
  refine qU (za8 (za1 (Jm 14 [(0,.j1 j)] [12,13,53] [(44,vI ((j:Int)+1))] [(5,.box (zal s)),(6,.box zF0),(8,.box ([cI (zae s locs act).1.proc,cI (zae s locs act).1.from_,cI (zae s locs act).1.to_,cI (zae s locs act).1.guard.kind,cPs (zae s locs act).1.guard.r.t.parts]++zi (zae s locs act).1.guard.r.t.k++[cB (zae s locs act).1.guard.r.eq,cFs (zae s locs act).1.guard.kids,.d (.sl 5 ((zae s locs act).1.moves.map zad.d))])),(10,.row 35 6 (([(zae s locs act).1.guard]++(List.range j).flatMap (zdm s (zae s locs act).1)).map za0.d))] h fun a w h=>za1 ?_)));rw [show (([(zae s locs act).1.guard]++(List.range j).flatMap (zdm s (zae s locs act).1)):List za0)=([(zae s locs act).1.guard]++(List.range (j+1)).flatMap (zdm s (zae s locs act).1)) from (by rw [zby (zdm s (zae s locs act).1) j,show zdm s (zae s locs act).1 j=[] from if_neg (by rw [hc3];exact Bool.noConfusion)];first | done | simp)] at h;refine zag (x:=j) (y:=j+1) h ?_ ?_
  ·have:=dT hc1;show j+1<=s.vars.length;omega
  show s.vars.length - (j+1)<s.vars.length - j;have:=dT hc1;omega
 refine wp_exit (za9 (za9 (za5 (za1 (qW ?_)))));rw [show (([(zae s locs act).1.guard]++(List.range j).flatMap (zdm s (zae s locs act).1)):List za0)=(zfh s (zae s locs act).1.guard (zae s locs act).1) from (by rw [show j=s.vars.length by have:=dF hc4;omega];rfl)] at h;refine Jq 14 [(1,.cmp (op:=.neq) (m:=act) (n:=(-1)) (b:=true) .i64 (bne_iff_ne.2 ha))] [(3,vN k),(4,vp 5 0),(8,vp 6 0),(9,vO 10 (zfh s (zae s locs act).1.guard (zae s locs act).1).length),(63,vb true)] [(5,.box (zal s)),(6,.box zF0),(10,.row 35 6 ((zfh s (zae s locs act).1.guard (zae s locs act).1).map za0.d))] h fun a w h=>cS true h (fun _=>?_) nofun
 refine Jm 14 [(2,.call (LRange s 1 hs (by decide)) mg6_13),(3,.g (Op.buildO (d:=67) (n:=14) (len:=1) (rows:=[(atF s (zcv s) 1)].map za0.d) (rs:=[(66,(vF (atF s (zcv s) 1)))]) zkm (.cons (i:=0) (OV.tmp 66 _) (.nil)) (by simp only [List.map_cons,List.map_nil,List.flatten_cons,List.flatten_nil,List.append_nil,za0.d_eq];kernel_rfl) rfl (by simp [za0.d_len]) (by decide) (by decide))),(4,.g (Op.appOO (d:=68) (t:=64) (u:=67) (n:=10) (sn:=14) (n':=15) (len:=(zfh s (zae s locs act).1.guard (zae s locs act).1).length) (len2:=1) (len':=((zfh s (zae s locs act).1.guard (zae s locs act).1)++[(atF s (zcv s) 1)]).length) (rows:=(zfh s (zae s locs act).1.guard (zae s locs act).1).map za0.d) (rows2:=[(atF s (zcv s) 1)].map za0.d) (rows':=((zfh s (zae s locs act).1.guard (zae s locs act).1)++[(atF s (zcv s) 1)]).map za0.d) la_7 (by first | exact (List.length_map _).symm | simp) (by first | exact (List.length_map _).symm | simp) (by first | (rw [List.length_append,List.length_map];done) | simp) (by simp) (by first | omega | (simp at *;done) | (simp at *;omega))))] [63] [(9,vO 15 ((zfh s (zae s locs act).1.guard (zae s locs act).1)++[(atF s (zcv s) 1)]).length)] [(5,.box (zal s)),(6,.box zF0),(15,.row 35 6 (((zfh s (zae s locs act).1.guard (zae s locs act).1)++[(atF s (zcv s) 1)]).map za0.d))] h fun a w h=>za1 ?_;rw [show (((zfh s (zae s locs act).1.guard (zae s locs act).1)++[(atF s (zcv s) 1)]):List za0)=((zfh s (zae s locs act).1.guard (zae s locs act).1)++[atF s (zcv s) 1]) from rfl] at h;replace h:=zhw 15 6 35 (((zfh s (zae s locs act).1.guard (zae s locs act).1)++[atF s (zcv s) 1]).map za0.d) [(3,vN k),(4,vp 5 0),(8,vp 6 0),(9,(vFs ((zfh s (zae s locs act).1.guard (zae s locs act).1)++[atF s (zcv s) 1])))] [(5,.box (zal s)),(6,.box zF0)] h rfl (show zbw _ [((zfh s (zae s locs act).1.guard (zae s locs act).1)++[atF s (zcv s) 1]).length] from ⟨by first | exact (List.length_map _).symm | (simp;done) | (simp;omega),trivial⟩) trivial;refine Jq 16 [(2,.call (LAll ((zfh s (zae s locs act).1.guard (zae s locs act).1)++[atF s (zcv s) 1]) (fun g hg=>za0.okB_mono (by decide) (by decide) _ (hsl2 g hg)) (by first | omega | (rw [List.length_append,List.length_singleton];omega))) zjl),(4,.call (Lat s (zh9 ((zfh s (zae s locs act).1.guard (zae s locs act).1)++[atF s (zcv s) 1])) k hs hk (za0.okB_mono (Nat.le_refl _) (by decide) _ (zf1 (by decide) hsl2 (by first | omega | (rw [List.length_append,List.length_singleton];omega))))) md3_4)] [(8,vp 6 0)] [(6,.box (zF (atF s (zh9 ((zfh s (zae s locs act).1.guard (zae s locs act).1)++[atF s (zcv s) 1])) k)))] h fun a w h=>qV (rA 6 (zF (atF s (zh9 ((zfh s (zae s locs act).1.guard (zae s locs act).1)++[atF s (zcv s) 1])) k)) h zcs rfl ?_);rfl
theorem LStepN (s:zao) (locs:List Int) (act:Int) (k:Nat) (ha:act≠-1) (hb:(zae s locs act).2=false) (hs:zb7 3 s) (hl:locs.length<=9223372036854775807):Fn Tryz.prog 13 [] [vG (zal s),(vIs locs),vI act,vN k] (vF (zd9 false)) []:=by
 refine Fn.body Tryz.func13 rfl 74 rfl fun w H B a h=>Jq 5 [] [(1,(vIs locs)),(2,vI act),(3,vN k),(4,vp 5 0),(8,vp 6 0)] [(5,.box (zal s)),(6,.box zF0)] h fun a w h=>Jd 7 [(0,.g (Op.buildE (d:=15) (n:=7) zkm))] [] [(9,vO 7 0)] [(5,.box (zal s)),(6,.box zF0),(7,.row 35 6 ([].map za0.d))] h fun a w h=>Jd 8 [(3,.call (Lbegins s locs act hs hl) md3_12)] [] [(10,vp 8 0),(11,vb (zae s locs act).2)] [(5,.box (zal s)),(6,.box zF0),(7,.row 35 6 ([].map za0.d)),(8,.box ([cI (zae s locs act).1.proc,cI (zae s locs act).1.from_,cI (zae s locs act).1.to_,cI (zae s locs act).1.guard.kind,cPs (zae s locs act).1.guard.r.t.parts]++zi (zae s locs act).1.guard.r.t.k++[cB (zae s locs act).1.guard.r.eq,cFs (zae s locs act).1.guard.kids,.d (.sl 5 ((zae s locs act).1.moves.map zad.d))]))] h fun a w h=>qW (qZ (Je 9 [(1,.cmp (op:=.eql) (m:=act) (n:=(-1)) (b:=false) .i64 (beq_eq_false_iff_ne.2 ha))] [] [(28,vb false)] h fun a w h=>zav false h rfl nofun (fun _=>Je 9 [] [1,11,28] [(37,vb (!(zae s locs act).2))] h fun a w h=>cS (!(zae s locs act).2) h (fun hc1=>?_) (fun hc2=>?_))))
 ·have hc1':=hc1;(try simp at hc1');refine Jd 9 [(0,.call (zgt false) la_8)] [37] [] [(5,.box (zal s)),(6,.box (zF (zd9 false))),(7,.row 35 6 ([].map za0.d)),(8,.box ([cI (zae s locs act).1.proc,cI (zae s locs act).1.from_,cI (zae s locs act).1.to_,cI (zae s locs act).1.guard.kind,cPs (zae s locs act).1.guard.r.t.parts]++zi (zae s locs act).1.guard.r.t.k++[cB (zae s locs act).1.guard.r.eq,cFs (zae s locs act).1.guard.kids,.d (.sl 5 ((zae s locs act).1.moves.map zad.d))]))] h fun a w h=>qV (zac (za6 (rA 6 (zF (zd9 false)) h zcs rfl ?_)));rfl
 have hc2':=hc2;(try simp at hc2');have hd_:(!(zae s locs act).2)=false:=by assumption
 rw [hb] at hd_;cases hd_
theorem mi7_9:ElT Tryz.prog 109 30 3 56:=ElT.mk' Tryz.underlying109 _ _ rfl rfl (by kernel_rfl) (by kernel_rfl) (by kernel_rfl) (by decide) (by decide)
theorem mi7_13:za4 Tryz.prog 57:=za4.mk' (by kernel_rfl)
theorem addT_ok2 {n m L:Nat} {s t:zak} (hs:TOk n L s) (ht:TOk m L t) (hn:n+m<=1000):TOk (n+m) (L+2) (zje s t):=by
 have h1:TOk (n+m) (L+1) ⟨s.parts++t.parts,ZI.of (s.k.val+t.k.val)⟩:=by
  refine ⟨by rw [List.length_append];have:=hs.len;have:=ht.len;omega,fun p hp=>?_,ZI.lb_of _,ZI.len_of ?_⟩
  ·rcases List.mem_append.1 hp with hp | hp
   ·exact ⟨(hs.ps p hp).1,Nat.le_trans (hs.ps p hp).2 (Nat.le_succ _)⟩
   ·exact ⟨(ht.ps p hp).1,Nat.le_trans (ht.ps p hp).2 (Nat.le_succ _)⟩
  ·have a:=Nat.lt_of_lt_of_le (ZI.abs_lt hs.kb) (zdo hs.kl);have b:=Nat.lt_of_lt_of_le (ZI.abs_lt ht.kb) (zdo ht.kl);have c:=Int.natAbs_add_le s.k.val t.k.val
   have e:pw (L+1)=4294967296*pw L:=zas L
   omega
 exact h1.plain hn
theorem low_tok2 {n L:Nat} {t:zak} (h:TOk n L t) (hn:n<=1000) (hL:3<=L):TOk n (L+5) (lowR t).t:=by
 have h1:=zki h hn
 have h0:TOk 0 2 (zck (ZI.of 1)):=TOk.num (ZI.lb_of _) (by decide)
 have h2:TOk 0 (L+3) (zbk (zck (ZI.of 1)) (ZI.of (-1))):=((TOk.mul h0 (ZI.lb_of _) (show (ZI.of (-1)).abs.length<=2 from by decide)).plain (by decide)).mono (Nat.le_refl _) (by omega)
 exact (addT_ok2 h1 h2 (by omega)).mono (by omega) (by omega)
theorem deny_tok2 {n L:Nat} {r:zb1} (h:TOk n L r.t) (hn:n<=1000) (hL:3<=L):∀ q ∈ zbb r,TOk n (L+8) q.t:=fun q hq=>by
 unfold zbb at hq
 split at hq
 ·rcases List.mem_cons.1 hq with rfl | hq
  ·exact low_tok2 (zki h hn) hn (by omega)
  ·rw [List.mem_singleton.1 hq];exact (low_tok2 h hn hL).mono (Nat.le_refl _) (by omega)
 ·rw [List.mem_singleton.1 hq];exact (low_tok2 h hn hL).mono (Nat.le_refl _) (by omega)
theorem flat_okA2 {n L:Nat} (hn:n<=1000) (hL:3<=L) (f:za0):f.okB n L->∀ d,(f.flat d).okA n (L+12) :=
 za0.ind (P:=fun f=>f.okB n L->∀ d,(f.flat d).okA n (L+12)) (fun k r ks ih hf d=>by
  obtain ⟨⟨h1,h2⟩,h3⟩:=(za0.okB_eq _ _ _).1 hf
  change k=2->_ at h1
  change ∀ g ∈ cnt k ks,_ at h3
  rw [za0.flat_eq]
  show (flatK k r (ks.map za0.flat) d).okA n (L+12)
  unfold flatK
  split
  ·exact okA_tru _ _ _
  ·split
   ·rename_i e
    split
    ·refine zfr (.inr rfl) _ [] (fun g hg=>by cases hg) fun g hg=>?_
     obtain ⟨q,hq,rfl⟩:=List.mem_map.1 hg
     exact tight_okA (deny_tok2 (h1 e) hn hL q hq) hn
    ·exact za0.okA_mono (Nat.le_refl _) (by omega) _ (tight_okA (h1 e) hn)
   ·split
    ·rename_i e
     subst e
     cases ks with
     | nil=>exact okA_tru _ _ _
     | cons g gs=>exact ih g (List.mem_cons_self ..) (h3 g (List.mem_cons_self ..)) (!d)
    ·split
     ·rename_i h4
      have hc:cnt k ks=ks:=by unfold cnt;rw [if_pos h4]
      rw [hc] at h3
      refine zfr (by cases d <;> simp <;> omega) _ [] (fun g hg=>by cases hg) fun g hg=>?_
      rw [List.map_map] at hg
      obtain ⟨q,hq,rfl⟩:=List.mem_map.1 hg
      exact ih q hq (h3 q hq) d
     ·exact okA_tru _ _ _) f
theorem put_ok {f:za0} {vs:List Int} {bys:List zak} (hf:f.okB 30 19) (hb:∀ b ∈ bys,zh5 b):(f.each (zce vs bys)).okB 900 44:=zkg (t:=zce vs bys) (fun r hr=>by
 have:=putZ_tok (t:=(cpR r).t) (vs:=vs) (hr.plain (by decide)) hb
 exact this) f hf
theorem preT_ok {s:zao} (_hs:zb7 3 s) {f:za0} (hf:f.okB 20 3) (hfw:f.wid<=1000) (act:Int):(((f.flat false).forg (zee (zaa s act).1 s.vars.length)).okB 30 19) :=
 za0.okB_mono (by decide) (by decide) _ (forg_ok _ _ (flat_okA2 (by decide) (Nat.le_refl _) f hf false) (Nat.le_trans (zj1 f false) (by omega)))
theorem LPreM (s:zao) (f:za0) (hf:f.okB 20 3) (_hfw:f.wid<=1000):Fn Tryz.prog 26 [] [vG (zal s),vI (-1),(vF f)] (vF (zh9 [f])) []:=by
 refine Fn.body Tryz.func26 rfl 67 rfl fun w H B a h=>Jq 0 [] [(1,vI (-1)),(3,vp 0 0),(5,vp 1 0),(6,vp 2 0)] [(0,.box (zal s)),(1,.box (zF f)),(2,.box zF0)] h fun a w h=>qW (Je 3 [(1,.cmp (op:=.eql) (m:=(-1)) (n:=(-1)) (b:=true) .i64 rfl)] [] [(16,vb true)] h fun a w h=>cS true h (fun _=>?_) nofun)
 refine Jd 3 [(1,.g (bD 18 ([f].map za0.d) [(17,(vF f))] zkm (.cons (i:=0) (OV.tmp 17 _) (.nil)) (by simp only [List.map_cons,List.map_nil,List.flatten_cons,List.flatten_nil,List.append_nil,za0.d_eq];kernel_rfl) (by simp [za0.d_len]))),(2,.call (LAll [f] (fun g hg=>by rw [List.mem_singleton.1 hg];exact za0.okB_mono (by decide) (by decide) _ hf) (show List.length _<=1000000 from by simp)) zjl)] [16] [] [(0,.box (zal s)),(1,.box (zF f)),(2,.box (zF (zh9 [f])))] h fun a w h=>qV (za6 (rA 2 (zF (zh9 [f])) h zcs rfl ?_));rfl
theorem LPreS (s:zao) (act:Int) (f:za0) (ha:act≠-1) (hs:zb7 3 s) (hw:SysW s) (hf:f.okB 20 3) (hfw:f.wid<=1000):Fn Tryz.prog 26 [] [vG (zal s),vI act,(vF f)] (vF (if (zaa s act).2=true then zh9 [zhq s (zaa s act).1,(za0.each (zce (zf2 (zaa s act).1 s.vars.length) (zei (zaa s act).1 s.vars.length)) (za0.forg (zee (zaa s act).1 s.vars.length) (za0.flat f false)))] else zd9 false)) []:=by
 have lvs:=hs.vars;obtain ⟨lq1,lq2,lq3⟩:=pre_len (zaa s act).1 s.vars.length;have hpt:=preT_ok hs hf hfw act;have hcl:(za0.forg (zee (zaa s act).1 s.vars.length) (za0.flat f false)).cl.okB 30 20:=okB_cl (by decide) _ hpt
 have hsl:∀ g ∈ [zhq s (zaa s act).1,(za0.each (zce (zf2 (zaa s act).1 s.vars.length) (zei (zaa s act).1 s.vars.length)) (za0.forg (zee (zaa s act).1 s.vars.length) (za0.flat f false)))],g.okB 900 60:=fun g hg=>by
  rcases List.mem_cons.1 hg with rfl | hg
  ·exact za0.okB_mono (by decide) (by decide) _ (zjb hs (zbp hs act) (zgg hw act))
  rw [List.mem_singleton.1 hg];exact za0.okB_mono (by decide) (by decide) _ (put_ok hpt (preB_ok (zbp hs act) _))
 refine Fn.body Tryz.func26 rfl 67 rfl fun w H B a h=>Jq 5 [] [(1,vI act),(3,vp 5 0),(5,vp 6 0),(6,vp 7 0)] [(5,.box (zal s)),(6,.box (zF f)),(7,.box zF0)] h fun a w h=>qW (Je 8 [(1,.cmp (op:=.eql) (m:=act) (n:=(-1)) (b:=false) .i64 (beq_eq_false_iff_ne.2 ha))] [] [(16,vb false)] h fun a w h=>zav false h rfl nofun (fun _=>qU (za1 (Jd 8 [(2,.call (Lsound s act hs) md3_7)] [1,16] [(7,vp 8 0),(8,vb (zaa s act).2)] [(5,.box (zal s)),(6,.box (zF f)),(7,.box zF0),(8,.box ([cI (zaa s act).1.proc,cI (zaa s act).1.from_,cI (zaa s act).1.to_,cI (zaa s act).1.guard.kind,cPs (zaa s act).1.guard.r.t.parts]++zi (zaa s act).1.guard.r.t.k++[cB (zaa s act).1.guard.r.eq,cFs (zaa s act).1.guard.kids,.d (.sl 5 ((zaa s act).1.moves.map zad.d))]))] h fun a w h=>qW (Je 9 [] [8] [(27,vb (!(zaa s act).2))] h fun a w h=>cS (!(zaa s act).2) h (fun hc1=>?_) (fun hc2=>?_))))))
 ·have hc1':=hc1;(try simp at hc1');refine Jd 9 [(0,.call (zgt false) la_8)] [27] [] [(5,.box (zal s)),(6,.box (zF f)),(7,.box (zF (zd9 false))),(8,.box ([cI (zaa s act).1.proc,cI (zaa s act).1.from_,cI (zaa s act).1.to_,cI (zaa s act).1.guard.kind,cPs (zaa s act).1.guard.r.t.parts]++zi (zaa s act).1.guard.r.t.k++[cB (zaa s act).1.guard.r.eq,cFs (zaa s act).1.guard.kids,.d (.sl 5 ((zaa s act).1.moves.map zad.d))]))] h fun a w h=>qV (za6 (rA 7 (zF (zd9 false)) h zcs rfl ?_));rw [if_neg (by rw [(show ((zaa s act).2)=false from by simpa using hc1)];exact Bool.noConfusion)];try rfl
 have hc2':=hc2;(try simp at hc2');refine qU (za1 (Je 9 [] [27] [(9,vW zaf),(10,vW zaf)] h fun a w h=>Je 9 [] [] [(11,vW zaf)] h fun a w h=>qW (Je 9 [(2,.len (za7 1 zg9 s.vars))] [] [(31,vN s.vars.length),(32,vI 0)] h fun a w h=>qZ ?_)));replace h:=zfo 9 0 9 1 3 (vW zaf) [(3,vp 5 0),(5,vp 6 0),(6,vp 7 0),(7,vp 8 0),(9,vO 9 0),(10,vW zaf),(11,vW zaf),(31,vN s.vars.length),(32,vI 0)] [(5,.box (zal s)),(6,.box (zF f)),(7,.box zF0),(8,.box ([cI (zaa s act).1.proc,cI (zaa s act).1.from_,cI (zaa s act).1.to_,cI (zaa s act).1.guard.kind,cPs (zaa s act).1.guard.r.t.parts]++zi (zaa s act).1.guard.r.t.k++[cB (zaa s act).1.guard.r.eq,cFs (zaa s act).1.guard.kids,.d (.sl 5 ((zaa s act).1.moves.map zad.d))])),(9,.row 3 1 ([].map zaj))] h (by kernel_rfl) rfl rfl;replace h:=zfo 10 0 10 1 3 (vW zaf) [(3,vp 5 0),(5,vp 6 0),(6,vp 7 0),(7,vp 8 0),(9,vO 9 0),(10,vO 10 0),(11,vW zaf),(31,vN s.vars.length),(32,vI 0)] [(5,.box (zal s)),(6,.box (zF f)),(7,.box zF0),(8,.box ([cI (zaa s act).1.proc,cI (zaa s act).1.from_,cI (zaa s act).1.to_,cI (zaa s act).1.guard.kind,cPs (zaa s act).1.guard.r.t.parts]++zi (zaa s act).1.guard.r.t.k++[cB (zaa s act).1.guard.r.eq,cFs (zaa s act).1.guard.kids,.d (.sl 5 ((zaa s act).1.moves.map zad.d))])),(9,.row 3 1 ([].map zaj)),(10,.row 3 1 ([].map zaj))] h (by kernel_rfl) rfl rfl;replace h:=zfo 11 0 11 3 30 (vW zaf) [(3,vp 5 0),(5,vp 6 0),(6,vp 7 0),(7,vp 8 0),(9,vO 9 0),(10,vO 10 0),(11,vO 11 0),(31,vN s.vars.length),(32,vI 0)] [(5,.box (zal s)),(6,.box (zF f)),(7,.box zF0),(8,.box ([cI (zaa s act).1.proc,cI (zaa s act).1.from_,cI (zaa s act).1.to_,cI (zaa s act).1.guard.kind,cPs (zaa s act).1.guard.r.t.parts]++zi (zaa s act).1.guard.r.t.k++[cB (zaa s act).1.guard.r.eq,cFs (zaa s act).1.guard.kids,.d (.sl 5 ((zaa s act).1.moves.map zad.d))])),(9,.row 3 1 ([].map zaj)),(10,.row 3 1 ([].map zaj)),(11,.row 30 3 ([].map zak.d))] h (by kernel_rfl) rfl rfl;replace h:=cv (fun z_:List Int=>F.of [(3,vp 5 0),(5,vp 6 0),(6,vp 7 0),(7,vp 8 0),(9,vO 9 z_.length),(10,vO 10 0),(11,vO 11 0),(31,vN s.vars.length),(32,vI 0)] [(5,.box (zal s)),(6,.box (zF f)),(7,.box zF0),(8,.box ([cI (zaa s act).1.proc,cI (zaa s act).1.from_,cI (zaa s act).1.to_,cI (zaa s act).1.guard.kind,cPs (zaa s act).1.guard.r.t.parts]++zi (zaa s act).1.guard.r.t.k++[cB (zaa s act).1.guard.r.eq,cFs (zaa s act).1.guard.kids,.d (.sl 5 ((zaa s act).1.moves.map zad.d))])),(9,.row 3 1 (z_.map zaj)),(10,.row 3 1 ([].map zaj)),(11,.row 30 3 ([].map zak.d))]) (show ([]:List Int)=(zf2 (zaa s act).1 0) from rfl) h;replace h:=cv (fun z_:List Int=>F.of [(3,vp 5 0),(5,vp 6 0),(6,vp 7 0),(7,vp 8 0),(9,vO 9 (zf2 (zaa s act).1 0).length),(10,vO 10 z_.length),(11,vO 11 0),(31,vN s.vars.length),(32,vI 0)] [(5,.box (zal s)),(6,.box (zF f)),(7,.box zF0),(8,.box ([cI (zaa s act).1.proc,cI (zaa s act).1.from_,cI (zaa s act).1.to_,cI (zaa s act).1.guard.kind,cPs (zaa s act).1.guard.r.t.parts]++zi (zaa s act).1.guard.r.t.k++[cB (zaa s act).1.guard.r.eq,cFs (zaa s act).1.guard.kids,.d (.sl 5 ((zaa s act).1.moves.map zad.d))])),(9,.row 3 1 ((zf2 (zaa s act).1 0).map zaj)),(10,.row 3 1 (z_.map zaj)),(11,.row 30 3 ([].map zak.d))]) (show ([]:List Int)=(zee (zaa s act).1 0) from rfl) h
 refine zar (ι:=(Nat)) (fun j=>j<=s.vars.length)
   (fun j=>[(3,vp 5 0),(5,vp 6 0),(6,vp 7 0),(7,vp 8 0),(9,vO 9 (zf2 (zaa s act).1 j).length),(10,vO 10 (zee (zaa s act).1 j).length),(11,vO 11 (zei (zaa s act).1 j).length),(31,vN s.vars.length),(32,vN j)])
   (fun j=>[(5,.box (zal s)),(6,.box (zF f)),(7,.box zF0),(8,.box ([cI (zaa s act).1.proc,cI (zaa s act).1.from_,cI (zaa s act).1.to_,cI (zaa s act).1.guard.kind,cPs (zaa s act).1.guard.r.t.parts]++zi (zaa s act).1.guard.r.t.k++[cB (zaa s act).1.guard.r.eq,cFs (zaa s act).1.guard.kids,.d (.sl 5 ((zaa s act).1.moves.map zad.d))])),(9,.row 3 1 ((zf2 (zaa s act).1 j).map zaj)),(10,.row 3 1 ((zee (zaa s act).1 j).map zaj)),(11,.row 30 3 ((zei (zaa s act).1 j).map zak.d))])
   (fun j=>s.vars.length - j) 0 ?_ h (by kernel_rfl) (by kernel_rfl) ?_
 ·exact Nat.zero_le _
 clear h;rintro j a w hI h;obtain ⟨lp1,lp2,lp3⟩:=pre_len (zaa s act).1 j;refine Je 12 [] [] [(33,vb (decide ((j:Int)<(s.vars.length:Int))))] h fun a w h=>qW (zam ((j:Int)<(s.vars.length:Int)) h (fun hc3 hc3'=>?_) (fun hc6 hc6'=>?_))
 ·refine qU (za1 (qW (qZ (Je 12 [] [33] [(12,vN j)] h fun a w h=>Jd 12 [(2,.call (Lvalue (zaa s act).1 j (zbp hs _)) mc2_15)] [] [(13,vp 12 0),(14,vb (zbx (zaa s act).1 j).2)] [(5,.box (zal s)),(6,.box (zF f)),(7,.box zF0),(8,.box ([cI (zaa s act).1.proc,cI (zaa s act).1.from_,cI (zaa s act).1.to_,cI (zaa s act).1.guard.kind,cPs (zaa s act).1.guard.r.t.parts]++zi (zaa s act).1.guard.r.t.k++[cB (zaa s act).1.guard.r.eq,cFs (zaa s act).1.guard.kids,.d (.sl 5 ((zaa s act).1.moves.map zad.d))])),(9,.row 3 1 ((zf2 (zaa s act).1 j).map zaj)),(10,.row 3 1 ((zee (zaa s act).1 j).map zaj)),(11,.row 30 3 ((zei (zaa s act).1 j).map zak.d)),(12,.box (zT (zbx (zaa s act).1 j).1))] h fun a w h=>Je 13 [] [14] [(41,vb (zbx (zaa s act).1 j).2)] h fun a w h=>cS (zbx (zaa s act).1 j).2 h (fun hc4=>?_) (fun hc5=>?_)))))
  ·refine Jm 13 [(2,.g (bD 44 ([(j:Int)].map zaj) [(43,vN j)] tb_0 (.cons (i:=0) (OV.tmp 43 _) (.nil)) (by kernel_rfl) (by simp [zaj]))),(3,.g (aD 45 42 44 9 13 (zf2 (zaa s act).1 j) [(j:Int)] zaj tb_2 (by simp [zaj]))),(6,.g (bD 48 ([(zbx (zaa s act).1 j).1].map zak.d) [(47,(vT (zbx (zaa s act).1 j).1))] tq_13 (.cons (i:=0) (OV.tmp 47 _) (.nil)) (by kernel_rfl) (by simp [zak.d]))),(7,.g (aD 49 46 48 11 14 (zei (zaa s act).1 j) [(zbx (zaa s act).1 j).1] zak.d mi7_9 (by simp [zak.d])))] [12,13,41] [(9,vO 13 ((zf2 (zaa s act).1 j)++[(j:Int)]).length),(11,vO 14 ((zei (zaa s act).1 j)++[(zbx (zaa s act).1 j).1]).length)] [(5,.box (zal s)),(6,.box (zF f)),(7,.box zF0),(8,.box ([cI (zaa s act).1.proc,cI (zaa s act).1.from_,cI (zaa s act).1.to_,cI (zaa s act).1.guard.kind,cPs (zaa s act).1.guard.r.t.parts]++zi (zaa s act).1.guard.r.t.k++[cB (zaa s act).1.guard.r.eq,cFs (zaa s act).1.guard.kids,.d (.sl 5 ((zaa s act).1.moves.map zad.d))])),(10,.row 3 1 ((zee (zaa s act).1 j).map zaj)),(13,.row 3 1 (((zf2 (zaa s act).1 j)++[(j:Int)]).map zaj)),(14,.row 30 3 (((zei (zaa s act).1 j)++[(zbx (zaa s act).1 j).1]).map zak.d))] h fun a w h=>za8 (za1 (Jf 15 [(0,.j1 j)] [] [(32,vI ((j:Int)+1))] h fun a w h=>za1 ?_));rw [show (((zf2 (zaa s act).1 j)++[(j:Int)]):List Int)=(zf2 (zaa s act).1 (j+1)) from (by rw [(pre_at (zaa s act).1 j).1,if_pos hc4];first | done | simp)] at h;replace h:=cv (fun z_:List Int=>F.of [(3,vp 5 0),(5,vp 6 0),(6,vp 7 0),(7,vp 8 0),(9,vO 13 (zf2 (zaa s act).1 (j+1)).length),(10,vO 10 z_.length),(11,vO 14 ((zei (zaa s act).1 j)++[(zbx (zaa s act).1 j).1]).length),(31,vN s.vars.length),(32,vI ((j:Int)+1))] [(5,.box (zal s)),(6,.box (zF f)),(7,.box zF0),(8,.box ([cI (zaa s act).1.proc,cI (zaa s act).1.from_,cI (zaa s act).1.to_,cI (zaa s act).1.guard.kind,cPs (zaa s act).1.guard.r.t.parts]++zi (zaa s act).1.guard.r.t.k++[cB (zaa s act).1.guard.r.eq,cFs (zaa s act).1.guard.kids,.d (.sl 5 ((zaa s act).1.moves.map zad.d))])),(10,.row 3 1 (z_.map zaj)),(13,.row 3 1 ((zf2 (zaa s act).1 (j+1)).map zaj)),(14,.row 30 3 (((zei (zaa s act).1 j)++[(zbx (zaa s act).1 j).1]).map zak.d))]) (show ((zee (zaa s act).1 j):List Int)=(zee (zaa s act).1 (j+1)) from (by rw [(pre_at (zaa s act).1 j).2.2,if_pos hc4];first | done | simp)) h;rw [show (((zei (zaa s act).1 j)++[(zbx (zaa s act).1 j).1]):List zak)=(zei (zaa s act).1 (j+1)) from (by rw [(pre_at (zaa s act).1 j).2.1,if_pos hc4];first | done | simp)] at h;replace h:=ze6 13 9 [(3,vp 5 0),(5,vp 6 0),(6,vp 7 0),(7,vp 8 0),(9,vO 9 (zf2 (zaa s act).1 (j+1)).length),(10,vO 10 (zee (zaa s act).1 (j+1)).length),(11,vO 14 (zei (zaa s act).1 (j+1)).length),(31,vN s.vars.length),(32,vI ((j:Int)+1))] [(5,.box (zal s)),(6,.box (zF f)),(7,.box zF0),(8,.box ([cI (zaa s act).1.proc,cI (zaa s act).1.from_,cI (zaa s act).1.to_,cI (zaa s act).1.guard.kind,cPs (zaa s act).1.guard.r.t.parts]++zi (zaa s act).1.guard.r.t.k++[cB (zaa s act).1.guard.r.eq,cFs (zaa s act).1.guard.kids,.d (.sl 5 ((zaa s act).1.moves.map zad.d))])),(10,.row 3 1 ((zee (zaa s act).1 (j+1)).map zaj)),(14,.row 30 3 ((zei (zaa s act).1 (j+1)).map zak.d)),(9,.row 3 1 ((zf2 (zaa s act).1 (j+1)).map zaj))] h;replace h:=ze6 14 11 [(3,vp 5 0),(5,vp 6 0),(6,vp 7 0),(7,vp 8 0),(9,vO 9 (zf2 (zaa s act).1 (j+1)).length),(10,vO 10 (zee (zaa s act).1 (j+1)).length),(11,vO 11 (zei (zaa s act).1 (j+1)).length),(31,vN s.vars.length),(32,vI ((j:Int)+1))] [(5,.box (zal s)),(6,.box (zF f)),(7,.box zF0),(8,.box ([cI (zaa s act).1.proc,cI (zaa s act).1.from_,cI (zaa s act).1.to_,cI (zaa s act).1.guard.kind,cPs (zaa s act).1.guard.r.t.parts]++zi (zaa s act).1.guard.r.t.k++[cB (zaa s act).1.guard.r.eq,cFs (zaa s act).1.guard.kids,.d (.sl 5 ((zaa s act).1.moves.map zad.d))])),(10,.row 3 1 ((zee (zaa s act).1 (j+1)).map zaj)),(9,.row 3 1 ((zf2 (zaa s act).1 (j+1)).map zaj)),(11,.row 30 3 ((zei (zaa s act).1 (j+1)).map zak.d))] h;refine zag (x:=j) (y:=j+1) h ?_ ?_
   ·have:=dT hc3;show j+1<=s.vars.length;omega
   show s.vars.length - (j+1)<s.vars.length - j;have:=dT hc3;omega
  refine Jm 15 [(2,.g (bD 52 ([(j:Int)].map zaj) [(51,vN j)] tb_0 (.cons (i:=0) (OV.tmp 51 _) (.nil)) (by kernel_rfl) (by simp [zaj]))),(3,.g (aD 53 50 52 10 15 (zee (zaa s act).1 j) [(j:Int)] zaj tb_2 (by simp [zaj])))] [12,13,41] [(10,vO 15 ((zee (zaa s act).1 j)++[(j:Int)]).length)] [(5,.box (zal s)),(6,.box (zF f)),(7,.box zF0),(8,.box ([cI (zaa s act).1.proc,cI (zaa s act).1.from_,cI (zaa s act).1.to_,cI (zaa s act).1.guard.kind,cPs (zaa s act).1.guard.r.t.parts]++zi (zaa s act).1.guard.r.t.k++[cB (zaa s act).1.guard.r.eq,cFs (zaa s act).1.guard.kids,.d (.sl 5 ((zaa s act).1.moves.map zad.d))])),(9,.row 3 1 ((zf2 (zaa s act).1 j).map zaj)),(11,.row 30 3 ((zei (zaa s act).1 j).map zak.d)),(15,.row 3 1 (((zee (zaa s act).1 j)++[(j:Int)]).map zaj))] h fun a w h=>za8 (za1 (Jf 16 [(0,.j1 j)] [] [(32,vI ((j:Int)+1))] h fun a w h=>za1 ?_));replace h:=cv (fun z_:List Int=>F.of [(3,vp 5 0),(5,vp 6 0),(6,vp 7 0),(7,vp 8 0),(9,vO 9 z_.length),(10,vO 15 ((zee (zaa s act).1 j)++[(j:Int)]).length),(11,vO 11 (zei (zaa s act).1 j).length),(31,vN s.vars.length),(32,vI ((j:Int)+1))] [(5,.box (zal s)),(6,.box (zF f)),(7,.box zF0),(8,.box ([cI (zaa s act).1.proc,cI (zaa s act).1.from_,cI (zaa s act).1.to_,cI (zaa s act).1.guard.kind,cPs (zaa s act).1.guard.r.t.parts]++zi (zaa s act).1.guard.r.t.k++[cB (zaa s act).1.guard.r.eq,cFs (zaa s act).1.guard.kids,.d (.sl 5 ((zaa s act).1.moves.map zad.d))])),(9,.row 3 1 (z_.map zaj)),(11,.row 30 3 ((zei (zaa s act).1 j).map zak.d)),(15,.row 3 1 (((zee (zaa s act).1 j)++[(j:Int)]).map zaj))]) (show ((zf2 (zaa s act).1 j):List Int)=(zf2 (zaa s act).1 (j+1)) from (by rw [(pre_at (zaa s act).1 j).1,if_neg (by rw [hc5];exact Bool.noConfusion)];first | done | simp)) h;rw [show (((zee (zaa s act).1 j)++[(j:Int)]):List Int)=(zee (zaa s act).1 (j+1)) from (by rw [(pre_at (zaa s act).1 j).2.2,if_neg (by rw [hc5];exact Bool.noConfusion)];first | done | simp)] at h;replace h:=cv (fun z_:List zak=>F.of [(3,vp 5 0),(5,vp 6 0),(6,vp 7 0),(7,vp 8 0),(9,vO 9 (zf2 (zaa s act).1 (j+1)).length),(10,vO 15 (zee (zaa s act).1 (j+1)).length),(11,vO 11 z_.length),(31,vN s.vars.length),(32,vI ((j:Int)+1))] [(5,.box (zal s)),(6,.box (zF f)),(7,.box zF0),(8,.box ([cI (zaa s act).1.proc,cI (zaa s act).1.from_,cI (zaa s act).1.to_,cI (zaa s act).1.guard.kind,cPs (zaa s act).1.guard.r.t.parts]++zi (zaa s act).1.guard.r.t.k++[cB (zaa s act).1.guard.r.eq,cFs (zaa s act).1.guard.kids,.d (.sl 5 ((zaa s act).1.moves.map zad.d))])),(9,.row 3 1 ((zf2 (zaa s act).1 (j+1)).map zaj)),(11,.row 30 3 (z_.map zak.d)),(15,.row 3 1 ((zee (zaa s act).1 (j+1)).map zaj))]) (show ((zei (zaa s act).1 j):List zak)=(zei (zaa s act).1 (j+1)) from (by rw [(pre_at (zaa s act).1 j).2.1,if_neg (by rw [hc5];exact Bool.noConfusion)];first | done | simp)) h;replace h:=ze6 15 10 [(3,vp 5 0),(5,vp 6 0),(6,vp 7 0),(7,vp 8 0),(9,vO 9 (zf2 (zaa s act).1 (j+1)).length),(10,vO 10 (zee (zaa s act).1 (j+1)).length),(11,vO 11 (zei (zaa s act).1 (j+1)).length),(31,vN s.vars.length),(32,vI ((j:Int)+1))] [(5,.box (zal s)),(6,.box (zF f)),(7,.box zF0),(8,.box ([cI (zaa s act).1.proc,cI (zaa s act).1.from_,cI (zaa s act).1.to_,cI (zaa s act).1.guard.kind,cPs (zaa s act).1.guard.r.t.parts]++zi (zaa s act).1.guard.r.t.k++[cB (zaa s act).1.guard.r.eq,cFs (zaa s act).1.guard.kids,.d (.sl 5 ((zaa s act).1.moves.map zad.d))])),(9,.row 3 1 ((zf2 (zaa s act).1 (j+1)).map zaj)),(11,.row 30 3 ((zei (zaa s act).1 (j+1)).map zak.d)),(10,.row 3 1 ((zee (zaa s act).1 (j+1)).map zaj))] h;refine zag (x:=j) (y:=j+1) h ?_ ?_
  ·have:=dT hc3;show j+1<=s.vars.length;omega
  show s.vars.length - (j+1)<s.vars.length - j;have:=dT hc3;omega
 refine wp_exit (za9 (za9 (za5 (za1 ?_))));replace h:=cv (fun z_:List Int=>F.of [(3,vp 5 0),(5,vp 6 0),(6,vp 7 0),(7,vp 8 0),(9,vO 9 z_.length),(10,vO 10 (zee (zaa s act).1 j).length),(11,vO 11 (zei (zaa s act).1 j).length),(31,vN s.vars.length),(32,vN j),(33,vb (decide ((j:Int)<(s.vars.length:Int))))] [(5,.box (zal s)),(6,.box (zF f)),(7,.box zF0),(8,.box ([cI (zaa s act).1.proc,cI (zaa s act).1.from_,cI (zaa s act).1.to_,cI (zaa s act).1.guard.kind,cPs (zaa s act).1.guard.r.t.parts]++zi (zaa s act).1.guard.r.t.k++[cB (zaa s act).1.guard.r.eq,cFs (zaa s act).1.guard.kids,.d (.sl 5 ((zaa s act).1.moves.map zad.d))])),(9,.row 3 1 (z_.map zaj)),(10,.row 3 1 ((zee (zaa s act).1 j).map zaj)),(11,.row 30 3 ((zei (zaa s act).1 j).map zak.d))]) (show ((zf2 (zaa s act).1 j):List Int)=(zf2 (zaa s act).1 s.vars.length) from (by rw [show j=s.vars.length by have:=dF hc6;omega])) h;replace h:=zhw 9 1 3 ((zf2 (zaa s act).1 s.vars.length).map zaj) [(3,vp 5 0),(5,vp 6 0),(6,vp 7 0),(7,vp 8 0),(9,(vIs (zf2 (zaa s act).1 s.vars.length))),(10,vO 10 (zee (zaa s act).1 j).length),(11,vO 11 (zei (zaa s act).1 j).length),(31,vN s.vars.length),(32,vN j),(33,vb (decide ((j:Int)<(s.vars.length:Int))))] [(5,.box (zal s)),(6,.box (zF f)),(7,.box zF0),(8,.box ([cI (zaa s act).1.proc,cI (zaa s act).1.from_,cI (zaa s act).1.to_,cI (zaa s act).1.guard.kind,cPs (zaa s act).1.guard.r.t.parts]++zi (zaa s act).1.guard.r.t.k++[cB (zaa s act).1.guard.r.eq,cFs (zaa s act).1.guard.kids,.d (.sl 5 ((zaa s act).1.moves.map zad.d))])),(10,.row 3 1 ((zee (zaa s act).1 j).map zaj)),(11,.row 30 3 ((zei (zaa s act).1 j).map zak.d))] h rfl (show zbw _ [(zf2 (zaa s act).1 s.vars.length).length] from ⟨by first | exact (List.length_map _).symm | (simp;done) | (simp;omega),trivial⟩) trivial;replace h:=cv (fun z_:List Int=>F.of [(3,vp 5 0),(5,vp 6 0),(6,vp 7 0),(7,vp 8 0),(9,(vIs (zf2 (zaa s act).1 s.vars.length))),(10,vO 10 z_.length),(11,vO 11 (zei (zaa s act).1 j).length),(31,vN s.vars.length),(32,vN j),(33,vb (decide ((j:Int)<(s.vars.length:Int))))] [(5,.box (zal s)),(6,.box (zF f)),(7,.box zF0),(8,.box ([cI (zaa s act).1.proc,cI (zaa s act).1.from_,cI (zaa s act).1.to_,cI (zaa s act).1.guard.kind,cPs (zaa s act).1.guard.r.t.parts]++zi (zaa s act).1.guard.r.t.k++[cB (zaa s act).1.guard.r.eq,cFs (zaa s act).1.guard.kids,.d (.sl 5 ((zaa s act).1.moves.map zad.d))])),(10,.row 3 1 (z_.map zaj)),(11,.row 30 3 ((zei (zaa s act).1 j).map zak.d))]) (show ((zee (zaa s act).1 j):List Int)=(zee (zaa s act).1 s.vars.length) from (by rw [show j=s.vars.length by have:=dF hc6;omega])) h;replace h:=zhw 10 1 3 ((zee (zaa s act).1 s.vars.length).map zaj) [(3,vp 5 0),(5,vp 6 0),(6,vp 7 0),(7,vp 8 0),(9,(vIs (zf2 (zaa s act).1 s.vars.length))),(10,(vIs (zee (zaa s act).1 s.vars.length))),(11,vO 11 (zei (zaa s act).1 j).length),(31,vN s.vars.length),(32,vN j),(33,vb (decide ((j:Int)<(s.vars.length:Int))))] [(5,.box (zal s)),(6,.box (zF f)),(7,.box zF0),(8,.box ([cI (zaa s act).1.proc,cI (zaa s act).1.from_,cI (zaa s act).1.to_,cI (zaa s act).1.guard.kind,cPs (zaa s act).1.guard.r.t.parts]++zi (zaa s act).1.guard.r.t.k++[cB (zaa s act).1.guard.r.eq,cFs (zaa s act).1.guard.kids,.d (.sl 5 ((zaa s act).1.moves.map zad.d))])),(11,.row 30 3 ((zei (zaa s act).1 j).map zak.d))] h rfl (show zbw _ [(zee (zaa s act).1 s.vars.length).length] from ⟨by first | exact (List.length_map _).symm | (simp;done) | (simp;omega),trivial⟩) trivial;replace h:=cv (fun z_:List zak=>F.of [(3,vp 5 0),(5,vp 6 0),(6,vp 7 0),(7,vp 8 0),(9,(vIs (zf2 (zaa s act).1 s.vars.length))),(10,(vIs (zee (zaa s act).1 s.vars.length))),(11,vO 11 z_.length),(31,vN s.vars.length),(32,vN j),(33,vb (decide ((j:Int)<(s.vars.length:Int))))] [(5,.box (zal s)),(6,.box (zF f)),(7,.box zF0),(8,.box ([cI (zaa s act).1.proc,cI (zaa s act).1.from_,cI (zaa s act).1.to_,cI (zaa s act).1.guard.kind,cPs (zaa s act).1.guard.r.t.parts]++zi (zaa s act).1.guard.r.t.k++[cB (zaa s act).1.guard.r.eq,cFs (zaa s act).1.guard.kids,.d (.sl 5 ((zaa s act).1.moves.map zad.d))])),(11,.row 30 3 (z_.map zak.d))]) (show ((zei (zaa s act).1 j):List zak)=(zei (zaa s act).1 s.vars.length) from (by rw [show j=s.vars.length by have:=dF hc6;omega])) h;replace h:=zhw 11 3 30 ((zei (zaa s act).1 s.vars.length).map zak.d) [(3,vp 5 0),(5,vp 6 0),(6,vp 7 0),(7,vp 8 0),(9,(vIs (zf2 (zaa s act).1 s.vars.length))),(10,(vIs (zee (zaa s act).1 s.vars.length))),(11,vS 3 ((zei (zaa s act).1 s.vars.length).map zak.d)),(31,vN s.vars.length),(32,vN j),(33,vb (decide ((j:Int)<(s.vars.length:Int))))] [(5,.box (zal s)),(6,.box (zF f)),(7,.box zF0),(8,.box ([cI (zaa s act).1.proc,cI (zaa s act).1.from_,cI (zaa s act).1.to_,cI (zaa s act).1.guard.kind,cPs (zaa s act).1.guard.r.t.parts]++zi (zaa s act).1.guard.r.t.k++[cB (zaa s act).1.guard.r.eq,cFs (zaa s act).1.guard.kids,.d (.sl 5 ((zaa s act).1.moves.map zad.d))]))] h rfl (show zbw _ [(zei (zaa s act).1 s.vars.length).length] from ⟨by first | exact (List.length_map _).symm | (simp;done) | (simp;omega),trivial⟩) trivial;refine Jq 16 [(2,.call (Lcan s (zaa s act).1 hs (zbp hs _) (zgg hw _)) md3_9),(4,.call (LFlat f (za0.okB_mono (by decide) (by decide) _ hf) (by omega)) li9_6),(6,.call (Lforget (zee (zaa s act).1 s.vars.length) (by omega) (za0.flat f false) (za0.okA_mono (by decide) (by decide) _ (flat_okA2 (by decide) (Nat.le_refl _) f hf false)) (Nat.le_trans (zj1 f false) (by omega))) me4_8),(9,.call (LPutAllF (za0.forg (zee (zaa s act).1 s.vars.length) (za0.flat f false)) (zf2 (zaa s act).1 s.vars.length) (zei (zaa s act).1 s.vars.length) (za0.okB_mono (by decide) (by decide) _ hpt) hcl (preB_ok (zbp hs act) _) (by omega) (by omega)) mi7_13),(10,.g (Op.buildD (d:=65) (len:=2) (rows:=[(zhq s (zaa s act).1),(za0.each (zce (zf2 (zaa s act).1 s.vars.length) (zei (zaa s act).1 s.vars.length)) (za0.forg (zee (zaa s act).1 s.vars.length) (za0.flat f false)))].map za0.d) (rs:=[(57,(vF (zhq s (zaa s act).1))),(64,(vF (za0.each (zce (zf2 (zaa s act).1 s.vars.length) (zei (zaa s act).1 s.vars.length)) (za0.forg (zee (zaa s act).1 s.vars.length) (za0.flat f false)))))]) zkm (.cons (i:=0) (OV.tmp 57 _) (.cons (i:=1) (OV.tmp 64 _) (.nil))) (by simp only [List.map_cons,List.map_nil,List.flatten_cons,List.flatten_nil,List.append_nil,za0.d_eq];kernel_rfl) rfl (by simp [za0.d_len]) (by decide) (by decide))),(11,.call (LAll [zhq s (zaa s act).1,(za0.each (zce (zf2 (zaa s act).1 s.vars.length) (zei (zaa s act).1 s.vars.length)) (za0.forg (zee (zaa s act).1 s.vars.length) (za0.flat f false)))] (fun g hg=>za0.okB_mono (by decide) (by decide) _ (hsl g hg)) (show List.length _<=1000000 from by simp)) zjl)] [(6,vp 7 0)] [(7,.box (zF (zh9 [zhq s (zaa s act).1,(za0.each (zce (zf2 (zaa s act).1 s.vars.length) (zei (zaa s act).1 s.vars.length)) (za0.forg (zee (zaa s act).1 s.vars.length) (za0.flat f false)))])))] h fun a w h=>qV (rA 7 (zF (zh9 [zhq s (zaa s act).1,(za0.each (zce (zf2 (zaa s act).1 s.vars.length) (zei (zaa s act).1 s.vars.length)) (za0.forg (zee (zaa s act).1 s.vars.length) (za0.flat f false)))])) h zcs rfl ?_);rw [if_pos (show ((zaa s act).2)=true from by simpa using hc2)];try rfl
theorem mj9_0:za4 Tryz.prog 30:=za4.mk' (by kernel_rfl)
theorem mj9_3:za4 Tryz.prog 26:=za4.mk' (by kernel_rfl)
theorem mj9_5:za4 Tryz.prog 13:=za4.mk' (by kernel_rfl)
theorem mj9_6:za4 Tryz.prog 11:=za4.mk' (by kernel_rfl)
theorem zjy:za4 Tryz.prog 33:=za4.mk' (by kernel_rfl)
theorem zjx:za4 Tryz.prog 32:=za4.mk' (by kernel_rfl)
theorem mj9_10:za4 Tryz.prog 20:=za4.mk' (by kernel_rfl)
theorem mj9_11:za4 Tryz.prog 22:=za4.mk' (by kernel_rfl)
theorem mj9_13:za4 Tryz.prog 18:=za4.mk' (by kernel_rfl)
theorem at_ok9 {f:za0} (h:f.okB 40 200) (s:zao) (k:Nat):(atF s f k).okB 40 203:=zkg (t:=zcb (offZ s k)) (fun r hr=>by
 have:=movZ_tok (hr.plain (by decide)) (by decide) (zah (offZ s k))
 exact this) f h
theorem rngK_ok {s:zao} (hs:zb7 3 s) (k:Nat):(atF s (zcv s) k).okB 40 203:=at_ok9 (za0.okB_mono (by decide) (by decide) _ (rngF_ok hs)) s k
theorem startK_ok {s:zao} (hs:zb7 3 s) (hw:SysW s) (k:Nat):(atF s (zh9 [s.init,zcv s]) k).okB 40 203:=at_ok9 (za0.okB_mono (Nat.le_refl _) (by decide) _ (zf1 (n:=40) (L:=60) (by decide) (fun g hg=>by
 rcases List.mem_cons.1 hg with rfl | hg
 ·exact za0.okB_mono (by decide) (by decide) _ (zg3 hs.init (by have:=hw.1;omega))
 ·rw [List.mem_singleton.1 hg];exact za0.okB_mono (by decide) (by decide) _ (rngF_ok hs)) (show List.length _<=1000000 from by simp))) s k
theorem canK_ok {s:zao} (hs:zb7 3 s) (hw:SysW s) (act:Int) (k:Nat):(canK s act k).okB 40 203:=by
 unfold canK;split
 ·exact at_ok9 (za0.okB_mono (by decide) (by decide) _ (zjb hs (zbp hs act) (zgg hw act))) s k
 ·exact zir _ _ _
theorem stuckK_ok {s:zao} (hs:zb7 3 s) (hw:SysW s) (locs:List Int) (k:Nat):(atF s (zdj s locs) k).okB 40 203:=at_ok9 (za0.okB_mono (by decide) (by decide) _ (stkF_ok hs hw locs)) s k
theorem zk8 {s:zao} (hs:zb7 3 s) (hw:SysW s) (locs:List Int) (act:Int) (k:Nat):(zeo s locs act k).okB 40 203:=by
 unfold zeo
 have hl:=stpL_len s
 have hv:=hs.vars
 split
 ·exact at_ok9 (za0.okB_mono (Nat.le_refl _) (by decide) _ (zf1 (n:=40) (L:=60) (by decide) (stpL_ok (za0.okB_mono (by decide) (by decide) _ (stkF_ok hs hw locs)) (zbp hs (-1))) (Nat.le_trans (hl (zdj s locs) (zae s locs (-1)).1) (by omega)))) s k
 ·split
  ·refine at_ok9 (za0.okB_mono (Nat.le_refl _) (by decide) _ (zf1 (n:=40) (L:=103) (by decide) (fun g hg=>?_) ?_)) s k
   ·rcases List.mem_append.1 hg with hg | hg
    ·exact za0.okB_mono (by decide) (by decide) _ (stpL_ok (za0.okB_mono (by decide) (by decide) _ (zg3 (zbp hs act).guard (Nat.le_trans (zgg hw act) (by decide)))) (zbp hs act) g hg)
    ·rw [List.mem_singleton.1 hg];exact rng1_ok hs
   ·rw [List.length_append,List.length_singleton];have:=hl (zae s locs act).1.guard (zae s locs act).1;omega
  ·exact zir _ _ _
theorem preK_ok {s:zao} (hs:zb7 3 s) (hw:SysW s) (act:Int) {f:za0} (hf:f.okB 20 3) (hfw:f.wid<=1000):(preF s act f).okB 900 61:=by
 unfold preF;split
 ·exact za0.okB_mono (by decide) (by decide) _ (zf1 (n:=20) (L:=3) (by decide) (fun g hg=>by rw [List.mem_singleton.1 hg];exact hf) (show List.length _<=1000000 from by simp))
 ·split
  ·refine zf1 (n:=900) (L:=60) (by decide) (fun g hg=>?_) (show List.length _<=1000000 from by simp)
   rcases List.mem_cons.1 hg with rfl | hg
   ·exact za0.okB_mono (by decide) (by decide) _ (zjb hs (zbp hs act) (zgg hw act))
   ·rw [List.mem_singleton.1 hg];exact za0.okB_mono (by decide) (by decide) _ (put_ok (preT_ok hs hf hfw act) (preB_ok (zbp hs act) _))
  ·exact zir _ _ _
theorem LStep (s:zao) (locs:List Int) (act:Int) (k:Nat) (hs:zb7 3 s) (hw:SysW s) (hl:locs.length<=9223372036854775807) (hk:k<=4096):Fn Tryz.prog 13 [] [vG (zal s),(vIs locs),vi .i64 act,vi .i64 (k:Int)] (vF (zeo s locs act k)) []:=by
 by_cases ha:act=-1
 ·subst ha;rw [show zeo s locs (-1) k=_ from if_pos rfl];exact LStepM s locs k hs hw hl hk
 ·cases hb:(zae s locs act).2 with
  | true=>rw [show zeo s locs act k=_ from (if_neg ha).trans (if_pos hb)];exact LStepS s locs act k ha hb hs hw hl hk
  | false=>rw [show zeo s locs act k=_ from (if_neg ha).trans (if_neg (by rw [hb];exact Bool.noConfusion))];exact LStepN s locs act k ha hb hs hl
theorem LPre (s:zao) (act:Int) (f:za0) (hs:zb7 3 s) (hw:SysW s) (hf:f.okB 20 3) (hfw:f.wid<=1000):Fn Tryz.prog 26 [] [vG (zal s),vi .i64 act,(vF f)] (vF (preF s act f)) []:=by
 by_cases ha:act=-1
 ·subst ha;rw [show preF s (-1) f=_ from if_pos rfl];exact LPreM s f hf hfw
 ·rw [show preF s act f=_ from if_neg ha];exact LPreS s act f ha hs hw hf hfw
theorem LCanK (s:zao) (act:Int) (k:Nat) (hs:zb7 3 s) (hw:SysW s) (hk:k<=4096):Fn Tryz.prog 20 [] [vG (zal s),vi .i64 act,vi .i64 (k:Int)] (vF (canK s act k)) []:=LCan s act k hs hw hk
def ze5:za0:=⟨2,⟨⟨[⟨0,ZI.of 1⟩],ZI.of (-3)⟩,false⟩,[]⟩
theorem ev0:za0.holds ([2].map ZI.of) (preF zc3 0 ze5)=true:=by kernel_rfl
theorem ev1:za0.holds ([1].map ZI.of) (preF zc3 0 ze5)=false:=by kernel_rfl
theorem ev2:za0.holds ([3].map ZI.of) (preF zc3 0 ze5)=false:=by kernel_rfl
theorem ev3:za0.holds ([1,2].map ZI.of) (zeo zc3 [0] 0 0)=true:=by kernel_rfl
theorem ev4:za0.holds ([1,1].map ZI.of) (zeo zc3 [0] 0 0)=false:=by kernel_rfl
theorem ev5:za0.holds ([3,4].map ZI.of) (zeo zc3 [0] 0 0)=false:=by kernel_rfl
theorem ev6:za0.holds ([2].map ZI.of) (canK zc3 0 0)=true:=by kernel_rfl
theorem ev7:za0.holds ([3].map ZI.of) (canK zc3 0 0)=false:=by kernel_rfl
theorem ev8:za0.holds ([0].map ZI.of) (atF zc3 (zdj zc3 [1]) 0)=true:=by kernel_rfl
theorem ev9:za0.holds ([0].map ZI.of) (atF zc3 (zdj zc3 [0]) 0)=false:=by kernel_rfl
theorem ev10:za0.holds ([9,3].map ZI.of) (atF zc3 (zcv zc3) 1)=true:=by kernel_rfl
theorem ev11:za0.holds ([0].map ZI.of) (atF zc3 (zh9 [zc3.init,zcv zc3]) 0)=true:=by kernel_rfl
theorem evp1:(zip zc3 [0] 0).1=[1]:=by kernel_rfl
theorem evp2:(zip zc3 [0] 0).2=true:=by kernel_rfl
theorem evp3:(zip zc3 [1] 0).2=false:=by kernel_rfl
theorem evp4:(zip zc3 [1] 0).1=[]:=by kernel_rfl
theorem vokE (ns:List Int) (hl:ns.length<=2000) (h:∀ z ∈ ns,-9223372036854775808<=z/\z<=9223372036854775807):VOk 3 (ns.map ZI.of):=⟨by rw [List.length_map];exact hl,fun y hy=>by
 obtain ⟨z,hz,rfl⟩:=List.mem_map.1 hy
 have:=h z hz
 exact ⟨ZI.lb_of _,Nat.le_trans (ZI.len_of (L:=2) (by have:=pw2;omega)) (by decide)⟩⟩
theorem zdl:SysW zc3:=⟨Nat.le_of_ble_eq_true (by kernel_rfl),fun c hc=>by rw [mem1 hc];exact Nat.le_of_ble_eq_true (by kernel_rfl)⟩
theorem three_few:zj4 ze5 20 3=true:=by kernel_rfl
theorem three_lb:ze5.lb:=(za0.lb_eq _).2 ⟨⟨⟨ZI.lb_of _,fun p hp=>by rw [mem1 hp];exact ZI.lb_of 1⟩,Nat.zero_le _⟩,fun g hg=>(by cases hg)⟩
theorem zf5:ze5.okB 20 3/\ze5.wid<=60:=fewF_okB three_few three_lb
theorem LAlive :Fn Tryz.prog 7 [] [] (vb true) []:=by
 refine Fn.body Tryz.func7 rfl 137 rfl fun w H B a h=>Jq 0 [] [(0,vb false)] [] h fun a w h=>Jd 0 [(0,.call (SSys) mj9_0)] [] [(1,vp 0 0)] [(0,.box (zal zc3))] h fun a w h=>Jd 1 [(0,.call (SROf 1 ⟨by decide,by decide⟩) tc_0),(2,.g (bD 12 ([(za3.mk 0 (ZI.of 1))].map za3.d) [(11,vG ([cI 0]++zi (ZI.of 1)))] tb_9 (.cons (i:=0) (OV.tmp 11 _) (.nil)) (by kernel_rfl) (by simp [za3.d]))),(3,.call (SROf (-3) ⟨by decide,by decide⟩) tc_0)] [] [(2,vp 1 0)] [(0,.box (zal zc3)),(1,.box ([cI 2,cPs [(za3.mk 0 (ZI.of 1))]]++zi (ZI.of (-3))++[cB false,.d (.raw zaf)]))] h fun a w h=>Jd 2 [(2,.call (Fn.argw (LPre zc3 0 ze5 zbr zdl zf5.1 (Nat.le_trans zf5.2 (by decide))) (.cons _ _ _ _ (.refl _) (.cons _ _ _ _ (.refl _) (.cons _ _ _ _ (.agg _ _ (.same _ _ _ (.same _ _ _ (.same _ _ _ (.same _ _ _ (.same _ _ _ (.d _ _ _ _ (.nil _) .nil))))))) .nil)))) mj9_3)] [2] [(3,vp 2 0)] [(0,.box (zal zc3)),(2,.box (zF (preF zc3 0 ze5)))] h fun a w h=>Jd 3 [(1,.g (Op.buildD (d:=21) (len:=1) (rows:=[0].map zaj) (rs:=[]) tb_0 (.cons (i:=0) (OV.const (.int .i64 0) rfl) (.nil)) (by kernel_rfl) rfl (by simp [zaj]) (by decide) (by decide))),(2,.call (LStep zc3 [0] 0 0 zbr zdl (by decide) (by decide)) mj9_5)] [] [(4,vp 3 0)] [(0,.box (zal zc3)),(2,.box (zF (preF zc3 0 ze5))),(3,.box (zF (zeo zc3 [0] 0 0)))] h fun a w h=>Je 4 [(1,.g (Op.buildD (d:=25) (len:=1) (rows:=[0].map zaj) (rs:=[]) tb_0 (.cons (i:=0) (OV.const (.int .i64 0) rfl) (.nil)) (by kernel_rfl) rfl (by simp [zaj]) (by decide) (by decide))),(2,.call (Fn.cast (LPlaces zc3 [0] 0 zbr (by decide)) (show (.tup [.c (cIs (zip zc3 [0] 0).1),.c (cB (zip zc3 [0] 0).2)]:V) = .tup [.c (cIs [1]),.c (cB true)] from by rw [evp1,evp2])) mj9_6)] [] [(5,(vIs [1])),(6,vb true)] h fun a w h=>Je 4 [(1,.g (Op.buildD (d:=31) (len:=1) (rows:=[1].map zaj) (rs:=[]) tb_0 (.cons (i:=0) (OV.const (.int .i64 1) rfl) (.nil)) (by kernel_rfl) rfl (by simp [zaj]) (by decide) (by decide))),(2,.call (Fn.cast (LPlaces zc3 [1] 0 zbr (by decide)) (show (.tup [.c (cIs (zip zc3 [1] 0).1),.c (cB (zip zc3 [1] 0).2)]:V) = .tup [.c (cIs []),.c (cB false)] from by rw [evp4,evp3])) mj9_6)] [] [(8,vb false)] h fun a w h=>?_
 refine Jq 4 [(1,.g (Op.buildD (d:=36) (len:=1) (rows:=[2].map zaj) (rs:=[]) to_1 (.cons (i:=0) (OV.const (.int .i64 2) rfl) (.nil)) (by kernel_rfl) rfl (by simp [zaj]) (by decide) (by decide))),(2,.call (zk2 [2] (by decide) (by decide)) zjy),(3,.call (Fn.cast (zk3 (preF zc3 0 ze5) ([2].map ZI.of) (M:=3) (by decide) (vokE _ (by decide) (by decide)) (za0.okB_mono (by decide) (by decide) _ (preK_ok zbr zdl 0 zf5.1 (Nat.le_trans zf5.2 (by decide))))) (show (vb (za0.holds ([2].map ZI.of) (preF zc3 0 ze5)):V)=vb true from by rw [ev0])) zjx),(6,.g (Op.buildD (d:=41) (len:=1) (rows:=[1].map zaj) (rs:=[]) to_1 (.cons (i:=0) (OV.const (.int .i64 1) rfl) (.nil)) (by kernel_rfl) rfl (by simp [zaj]) (by decide) (by decide))),(7,.call (zk2 [1] (by decide) (by decide)) zjy),(8,.call (Fn.cast (zk3 (preF zc3 0 ze5) ([1].map ZI.of) (M:=3) (by decide) (vokE _ (by decide) (by decide)) (za0.okB_mono (by decide) (by decide) _ (preK_ok zbr zdl 0 zf5.1 (Nat.le_trans zf5.2 (by decide))))) (show (vb (za0.holds ([1].map ZI.of) (preF zc3 0 ze5)):V)=vb false from by rw [ev1])) zjx),(13,.g (Op.buildD (d:=48) (len:=1) (rows:=[3].map zaj) (rs:=[]) to_1 (.cons (i:=0) (OV.const (.int .i64 3) rfl) (.nil)) (by kernel_rfl) rfl (by simp [zaj]) (by decide) (by decide))),(14,.call (zk2 [3] (by decide) (by decide)) zjy),(15,.call (Fn.cast (zk3 (preF zc3 0 ze5) ([3].map ZI.of) (M:=3) (by decide) (vokE _ (by decide) (by decide)) (za0.okB_mono (by decide) (by decide) _ (preK_ok zbr zdl 0 zf5.1 (Nat.le_trans zf5.2 (by decide))))) (show (vb (za0.holds ([3].map ZI.of) (preF zc3 0 ze5)):V)=vb false from by rw [ev2])) zjx),(20,.g (Op.buildD (d:=55) (len:=2) (rows:=[1,2].map zaj) (rs:=[]) to_1 (.cons (i:=0) (OV.const (.int .i64 1) rfl) (.cons (i:=1) (OV.const (.int .i64 2) rfl) (.nil))) (by kernel_rfl) rfl (by simp [zaj]) (by decide) (by decide))),(21,.call (zk2 [1,2] (by decide) (by decide)) zjy),(22,.call (Fn.cast (zk3 (zeo zc3 [0] 0 0) ([1,2].map ZI.of) (M:=3) (by decide) (vokE _ (by decide) (by decide)) (za0.okB_mono (by decide) (by decide) _ (zk8 zbr zdl [0] 0 0))) (show (vb (za0.holds ([1,2].map ZI.of) (zeo zc3 [0] 0 0)):V)=vb true from by rw [ev3])) zjx),(26,.g (Op.buildD (d:=61) (len:=2) (rows:=[1,1].map zaj) (rs:=[]) to_1 (.cons (i:=0) (OV.const (.int .i64 1) rfl) (.cons (i:=1) (OV.const (.int .i64 1) rfl) (.nil))) (by kernel_rfl) rfl (by simp [zaj]) (by decide) (by decide))),(27,.call (zk2 [1,1] (by decide) (by decide)) zjy),(28,.call (Fn.cast (zk3 (zeo zc3 [0] 0 0) ([1,1].map ZI.of) (M:=3) (by decide) (vokE _ (by decide) (by decide)) (za0.okB_mono (by decide) (by decide) _ (zk8 zbr zdl [0] 0 0))) (show (vb (za0.holds ([1,1].map ZI.of) (zeo zc3 [0] 0 0)):V)=vb false from by rw [ev4])) zjx),(33,.g (Op.buildD (d:=68) (len:=2) (rows:=[3,4].map zaj) (rs:=[]) to_1 (.cons (i:=0) (OV.const (.int .i64 3) rfl) (.cons (i:=1) (OV.const (.int .i64 4) rfl) (.nil))) (by kernel_rfl) rfl (by simp [zaj]) (by decide) (by decide))),(34,.call (zk2 [3,4] (by decide) (by decide)) zjy),(35,.call (Fn.cast (zk3 (zeo zc3 [0] 0 0) ([3,4].map ZI.of) (M:=3) (by decide) (vokE _ (by decide) (by decide)) (za0.okB_mono (by decide) (by decide) _ (zk8 zbr zdl [0] 0 0))) (show (vb (za0.holds ([3,4].map ZI.of) (zeo zc3 [0] 0 0)):V)=vb false from by rw [ev5])) zjx),(40,.call (LCanK zc3 0 0 zbr zdl (by decide)) mj9_10),(41,.g (Op.buildD (d:=76) (len:=1) (rows:=[2].map zaj) (rs:=[]) to_1 (.cons (i:=0) (OV.const (.int .i64 2) rfl) (.nil)) (by kernel_rfl) rfl (by simp [zaj]) (by decide) (by decide))),(42,.call (zk2 [2] (by decide) (by decide)) zjy),(43,.call (Fn.cast (zk3 (canK zc3 0 0) ([2].map ZI.of) (M:=3) (by decide) (vokE _ (by decide) (by decide)) (za0.okB_mono (by decide) (by decide) _ (canK_ok zbr zdl 0 0))) (show (vb (za0.holds ([2].map ZI.of) (canK zc3 0 0)):V)=vb true from by rw [ev6])) zjx),(47,.call (LCanK zc3 0 0 zbr zdl (by decide)) mj9_10),(48,.g (Op.buildD (d:=83) (len:=1) (rows:=[3].map zaj) (rs:=[]) to_1 (.cons (i:=0) (OV.const (.int .i64 3) rfl) (.nil)) (by kernel_rfl) rfl (by simp [zaj]) (by decide) (by decide))),(49,.call (zk2 [3] (by decide) (by decide)) zjy),(50,.call (Fn.cast (zk3 (canK zc3 0 0) ([3].map ZI.of) (M:=3) (by decide) (vokE _ (by decide) (by decide)) (za0.okB_mono (by decide) (by decide) _ (canK_ok zbr zdl 0 0))) (show (vb (za0.holds ([3].map ZI.of) (canK zc3 0 0)):V)=vb false from by rw [ev7])) zjx),(55,.g (Op.buildD (d:=90) (len:=1) (rows:=[1].map zaj) (rs:=[]) tb_0 (.cons (i:=0) (OV.const (.int .i64 1) rfl) (.nil)) (by kernel_rfl) rfl (by simp [zaj]) (by decide) (by decide))),(56,.call (LStuck zc3 [1] 0 zbr zdl (by decide) (by decide)) mj9_11),(57,.g (Op.buildD (d:=92) (len:=1) (rows:=[0].map zaj) (rs:=[]) to_1 (.cons (i:=0) (OV.const (.int .i64 0) rfl) (.nil)) (by kernel_rfl) rfl (by simp [zaj]) (by decide) (by decide))),(58,.call (zk2 [0] (by decide) (by decide)) zjy),(59,.call (Fn.cast (zk3 (atF zc3 (zdj zc3 [1]) 0) ([0].map ZI.of) (M:=3) (by decide) (vokE _ (by decide) (by decide)) (za0.okB_mono (by decide) (by decide) _ (stuckK_ok zbr zdl [1] 0))) (show (vb (za0.holds ([0].map ZI.of) (atF zc3 (zdj zc3 [1]) 0)):V)=vb true from by rw [ev8])) zjx),(63,.g (Op.buildD (d:=98) (len:=1) (rows:=[0].map zaj) (rs:=[]) tb_0 (.cons (i:=0) (OV.const (.int .i64 0) rfl) (.nil)) (by kernel_rfl) rfl (by simp [zaj]) (by decide) (by decide))),(64,.call (LStuck zc3 [0] 0 zbr zdl (by decide) (by decide)) mj9_11),(65,.g (Op.buildD (d:=100) (len:=1) (rows:=[0].map zaj) (rs:=[]) to_1 (.cons (i:=0) (OV.const (.int .i64 0) rfl) (.nil)) (by kernel_rfl) rfl (by simp [zaj]) (by decide) (by decide))),(66,.call (zk2 [0] (by decide) (by decide)) zjy),(67,.call (Fn.cast (zk3 (atF zc3 (zdj zc3 [0]) 0) ([0].map ZI.of) (M:=3) (by decide) (vokE _ (by decide) (by decide)) (za0.okB_mono (by decide) (by decide) _ (stuckK_ok zbr zdl [0] 0))) (show (vb (za0.holds ([0].map ZI.of) (atF zc3 (zdj zc3 [0]) 0)):V)=vb false from by rw [ev9])) zjx),(72,.call (LRange zc3 1 zbr (by decide)) mg6_13),(73,.g (Op.buildD (d:=108) (len:=2) (rows:=[9,3].map zaj) (rs:=[]) to_1 (.cons (i:=0) (OV.const (.int .i64 9) rfl) (.cons (i:=1) (OV.const (.int .i64 3) rfl) (.nil))) (by kernel_rfl) rfl (by simp [zaj]) (by decide) (by decide))),(74,.call (zk2 [9,3] (by decide) (by decide)) zjy),(75,.call (Fn.cast (zk3 (atF zc3 (zcv zc3) 1) ([9,3].map ZI.of) (M:=3) (by decide) (vokE _ (by decide) (by decide)) (za0.okB_mono (by decide) (by decide) _ (rngK_ok zbr 1))) (show (vb (za0.holds ([9,3].map ZI.of) (atF zc3 (zcv zc3) 1)):V)=vb true from by rw [ev10])) zjx),(79,.call (LStart zc3 0 zbr zdl (by decide)) mj9_13),(80,.g (Op.buildD (d:=115) (len:=1) (rows:=[0].map zaj) (rs:=[]) to_1 (.cons (i:=0) (OV.const (.int .i64 0) rfl) (.nil)) (by kernel_rfl) rfl (by simp [zaj]) (by decide) (by decide))),(81,.call (zk2 [0] (by decide) (by decide)) zjy),(82,.call (Fn.cast (zk3 (atF zc3 (zh9 [zc3.init,zcv zc3]) 0) ([0].map ZI.of) (M:=3) (by decide) (vokE _ (by decide) (by decide)) (za0.okB_mono (by decide) (by decide) _ (startK_ok zbr zdl 0))) (show (vb (za0.holds ([0].map ZI.of) (atF zc3 (zh9 [zc3.init,zcv zc3]) 0)):V)=vb true from by rw [ev11])) zjx),(89,.len (za7 1 zaj ([1]))),(90,.cmp (op:=.eql) (m:=([1].length:Int)) (n:=1) (b:=true) .i64 (show (([1].length:Int) == 1)=true from by decide)),(94,.g (xD 129 128 zgx (zab (show [(1:Int)][0]?=some 1 from rfl) (f:=zaj)) (OV.const (.int .i64 0) rfl))),(96,.cmp (op:=.eql) (m:=1) (n:=1) (b:=true) .i64 (show ((1:Int) == 1)=true from by decide))] [(0,vb true)] [] h fun a w h=>?_;refine qV (rT (.c (cB true)) h rfl ?_);rfl
theorem few_wid {f:za0} {n:Int} (hn:0<=n) (hn2:n<=30) (h:zj4 f n 3=true):f.wid<=100:=by
 unfold zj4 at h
 rw [Bool.and_eq_true] at h
 have h1:f.size n<=n:=by have:=h.1;simpa using this
 have hw:=size_wid f n hn h1
 omega
theorem few_w {s:zao} (h:zbo 3 s=true):SysW s:=by
 unfold zbo at h
 simp only [Bool.and_eq_true,decide_eq_true_eq,List.all_eq_true] at h
 refine ⟨few_wid (by decide) (by decide) h.1.2,fun c hc=>?_⟩
 have:=h.2.2 c hc
 unfold fewA at this
 simp only [Bool.and_eq_true] at this
 first | exact few_wid (by decide) (by decide) this.1.2 | exact few_wid (by decide) (by decide) this.1 | exact few_wid (by decide) (by decide) this.2.1 | exact few_wid (by decide) (by decide) this.1.1
theorem smB_sys {s:zao} {xs:List StD} (h:smB s xs=true) (hs:SysRd s):zb7 3 s/\SysW s:=by
 unfold smB at h
 rw [Bool.and_eq_true] at h
 exact ⟨few_sys h.2 hs,few_w h.2⟩
theorem smB_st {s:zao} {xs:List StD} (h:smB s xs=true) {x:StD} (hm:x ∈ xs) (hx:StRd x):zhg 3 x:=by
 unfold smB at h
 rw [Bool.and_eq_true,List.all_eq_true] at h
 exact few_st (h.1 x hm) hx
theorem both_ok {s:zao} {x y:StD} {k:Nat} (hk:k<=8) (hv:s.vars.length<=8) (hx:zhg 3 x) (hy:zhg 3 y):VOk 3 (zk0 s x y k):=by
 have h64:k*s.vars.length<=8*8:=Nat.mul_le_mul hk hv
 refine ⟨?_,fun z hz=>?_⟩
 ·rw [both_eq,List.length_append,List.length_append,List.length_replicate]
  have:=hx.vals;have:=hy.vals;omega
 ·rw [both_eq] at hz
  rcases List.mem_append.1 hz with hz | hz
  ·rw [(List.mem_replicate.1 hz).2];exact ZOk.zero
  ·rcases List.mem_append.1 hz with hz | hz
   ·exact hx.val z hz
   ·exact hy.val z hz
theorem mk0_0:za4 Tryz.prog 7:=za4.mk' (by kernel_rfl)
theorem mk0_2:za4 Tryz.prog 8:=za4.mk' (by kernel_rfl)
theorem mk0_3:za4 Tryz.prog 9:=za4.mk' (by kernel_rfl)
theorem mk0_7:za4 Tryz.prog 14:=za4.mk' (by kernel_rfl)
theorem plcA_len (s:zao) (locs:List Int) (a:Int):(zip s locs a).1.length<=locs.length:=by
 unfold zip
 split
 ·exact Nat.le_refl _
 ·split
  ·show (List.set _ _ _).length<=_;rw [List.length_set];exact Nat.le_refl _
  ·exact Nat.zero_le _
theorem LWpSteps (s:zao) (x y:StD) (act k:Int) (hs:SysRd s) (hx:StRd x) (hy:StRd y):Fn Tryz.prog 3 [] [.t (.agg (zal s)),.t (.agg [.d (.sl 1 (x.locs.map zaj)),.d (.sl 2 (x.vals.map ziD))]),.t (.agg [.d (.sl 1 (y.locs.map zaj)),.d (.sl 2 (y.vals.map ziD))]),vI act,vI k] (vb true) []:=by
 refine Fn.body Tryz.func3 rfl 84 rfl fun w H B a h=>Jq 8 [] [(3,vI act),(4,vI k),(5,vp 8 0),(6,vp 9 0),(7,vp 10 0),(10,vb false)] [(8,.box (zal s)),(9,.box [.d (.sl 1 (x.locs.map zaj)),.d (.sl 2 (x.vals.map ziD))]),(10,.box [.d (.sl 1 (y.locs.map zaj)),.d (.sl 2 (y.vals.map ziD))])] h fun a w h=>qW (Je 11 [(0,.call (LAlive) mk0_0)] [] [(16,vb false)] h fun a w h=>zav false h rfl nofun (fun _=>qU (za1 (qW ?_))))
 rcases Bool.eq_false_or_eq_true (smB s [x,y]) with hc1 | hc14
 ·obtain ⟨hs3,hw9⟩:=smB_sys hc1 hs;have lvs:=hs3.vars;have hx3:zhg 3 x:=smB_st hc1 (by simp) hx;have lxl:=hx3.locs;have lxv:=hx3.vals;have hy3:zhg 3 y:=smB_st hc1 (by simp) hy;have lyl:=hy3.locs;have lyv:=hy3.vals
  rcases Bool.eq_false_or_eq_true (proB s) with hc2 | hc13
  ·rcases Bool.eq_false_or_eq_true (zco s x) with hc3 | hc12
   ·refine Je 11 [(3,.g (Op.buildD (d:=20) (len:=2) (rows:=[x,y].map StD.d) (rs:=[(18,.t (.agg [.d (.sl 1 (x.locs.map zaj)),.d (.sl 2 (x.vals.map ziD))])),(19,.t (.agg [.d (.sl 1 (y.locs.map zaj)),.d (.sl 2 (y.vals.map ziD))]))]) kx_3 (.cons (i:=0) (OV.tmp 18 _) (.cons (i:=1) (OV.tmp 19 _) (.nil))) (by kernel_rfl) rfl (by simp [StD.d]) (by decide) (by decide))),(4,.call (Fn.cast (Lsmall s [x,y] hs (by intro x_ hx_;simp only [List.mem_cons,List.not_mem_nil,or_false] at hx_;rcases hx_ with rfl | rfl <;> assumption) (by simp)) (congrArg vb hc1)) mk0_2),(8,.call (Fn.cast (Lproper s hs3 hw9) (congrArg vb hc2)) mk0_3),(14,.call (Fn.cast (SRFits s x (L:=3) (M:=3) (by decide) hs3 hx3) (congrArg vb hc3)) kh_6),(20,.len (za7 2 ziD y.vals)),(23,.len (za7 1 zg9 s.vars))] [16] [(42,vb ((y.vals.length:Int) != (s.vars.length:Int)))] h fun a w h=>cS ((y.vals.length:Int) != (s.vars.length:Int)) h (fun hc4=>?_) (fun hc5=>?_)
    ·have hc4':=hc4;(try simp at hc4');refine Je 11 [] [42] [(10,vb true)] h fun a w h=>qV (za6 (rT (.c (.d (.raw (.bool true)))) h rfl ?_));rfl
    have hc5':=hc5;(try simp at hc5');refine qU (za1 (midH h [(3,vI (max act (-1))),(4,vI k),(5,vp 8 0),(6,vp 9 0),(7,vp 10 0),(10,vb false)] [(8,.box (zal s)),(9,.box [.d (.sl 1 (x.locs.map zaj)),.d (.sl 2 (x.vals.map ziD))]),(10,.box [.d (.sl 1 (y.locs.map zaj)),.d (.sl 2 (y.vals.map ziD))])] ?_ (fun a w h=>?_)))
    ·refine Je 11 [] [42] [(44,vb (decide (act<(-1))))] h fun a w h=>zam (act<(-1)) h (fun hc6 hc6'=>?_) (fun hc7 hc7'=>?_)
     ·refine Jf 11 [] [44] [(3,vI (-1))] h fun a w h=>za1 ?_;have hcn:(max act (-1))=(-1):=by omega
      replace h:=h.conv (f':=F.of [(3,vI (max act (-1))),(4,vI k),(5,vp 8 0),(6,vp 9 0),(7,vp 10 0),(10,vb false)] [(8,.box (zal s)),(9,.box [.d (.sl 1 (x.locs.map zaj)),.d (.sl 2 (x.vals.map ziD))]),(10,.box [.d (.sl 1 (y.locs.map zaj)),.d (.sl 2 (y.vals.map ziD))])]) (by rw [hcn];kernel_rfl);exact atS h
     refine qU (za1 ?_);have hcn:(max act (-1))=act:=by omega
     replace h:=h.conv (f':=F.of [(3,vI (max act (-1))),(4,vI k),(5,vp 8 0),(6,vp 9 0),(7,vp 10 0),(10,vb false),(44,vb (decide (act<(-1))))] [(8,.box (zal s)),(9,.box [.d (.sl 1 (x.locs.map zaj)),.d (.sl 2 (x.vals.map ziD))]),(10,.box [.d (.sl 1 (y.locs.map zaj)),.d (.sl 2 (y.vals.map ziD))])]) (by rw [hcn];kernel_rfl);exact atS h
    refine Je 11 [(1,.g (Op.mask (d:=46) (xt:=3) (yt:=3) (m:=k) (n:=7) (r:=(k % 8)) 3 (OV.tmp 45 _) (OV.const (.int .i64 7) rfl) (by decide) (by decide) (by rw [show ((2 ^ 3:Nat):Int)=8 from rfl])))] [] [(4,vI (k % 8))] h fun a w h=>?_;have hk0:0<=k % 8/\k % 8<8:=⟨Int.emod_nonneg _ (by decide),Int.emod_lt_of_pos _ (by decide)⟩;obtain ⟨kk,hkkk⟩:∃ k_:Nat,k % 8=(k_:Int):=⟨_,(Int.toNat_of_nonneg (by omega)).symm⟩;replace h:=h.conv (f':=F.of [(3,vI (max act (-1))),(4,vN kk),(5,vp 8 0),(6,vp 9 0),(7,vp 10 0),(10,vb false)] [(8,.box (zal s)),(9,.box [.d (.sl 1 (x.locs.map zaj)),.d (.sl 2 (x.vals.map ziD))]),(10,.box [.d (.sl 1 (y.locs.map zaj)),.d (.sl 2 (y.vals.map ziD))])]) (by rw [hkkk];kernel_rfl);refine Jq 11 [(4,.call (LPlaces s x.locs (max act (-1)) hs3 (by omega)) mj9_6)] [(3,vI (max act (-1))),(4,vN kk),(5,vp 8 0),(6,vp 9 0),(7,vp 10 0),(10,vb false),(11,.t (.c (.d (.sl 1 ((zip s x.locs (max act (-1))).1.map zaj))))),(12,vb (zip s x.locs (max act (-1))).2)] [(8,.box (zal s)),(9,.box [.d (.sl 1 (x.locs.map zaj)),.d (.sl 2 (x.vals.map ziD))]),(10,.box [.d (.sl 1 (y.locs.map zaj)),.d (.sl 2 (y.vals.map ziD))])] h fun a w h=>Je 11 [(5,.call (LStep s x.locs (max act (-1)) kk hs3 hw9 (by omega) (by omega)) mj9_5),(10,.call (Lboth s x y kk (by omega) lvs (by omega) (by omega)) mk0_7),(11,.call (LR5HoldsW (zk0 s x y kk) (M:=3) (by decide) (both_ok (by omega) lvs hx3 hy3) (zeo s x.locs (max act (-1)) kk) (za0.okB_mono (by decide) (by decide) _ (zk8 hs3 hw9 _ _ _))) ke_10)] [4] [(13,vb (za0.holds (zk0 s x y kk) (zeo s x.locs (max act (-1)) kk)))] h fun a w h=>Jd 11 [(4,.call (SRLeads s x (max act (-1)) y (L:=3) (M:=3) (by decide) hs3 hx3 hy3) ks_5)] [3,5,6] [(14,vb (zh8 s x (max act (-1)) y))] [(10,.box [.d (.sl 1 (y.locs.map zaj)),.d (.sl 2 (y.vals.map ziD))])] h fun a w h=>?_
    rcases Bool.eq_false_or_eq_true (zip s x.locs (max act (-1))).2 with hc8 | hc11
    ·rw [hc8] at h
     rcases Bool.eq_false_or_eq_true (decide ((zip s x.locs (max act (-1))).1=y.locs)) with hc9 | hc10
     ·have hc9':=dT hc9;refine Jq 11 [(6,.call (Fn.cast (LSameI (zip s x.locs (max act (-1))).1 y.locs (Nat.le_trans (plcA_len s _ _) (by omega)) (by omega)) (congrArg vb hc9)) ua_14)] [(10,vb (zh8 s x (max act (-1)) y == za0.holds (zk0 s x y kk) (zeo s x.locs (max act (-1)) kk)))] [] h fun a w h=>qV (rT (.c (.d (.raw (.bool (zh8 s x (max act (-1)) y == za0.holds (zk0 s x y kk) (zeo s x.locs (max act (-1)) kk)))))) h rfl ?_);have hst:=step_law (pro_of hc2) lvs hc3 (by have:=hc5;simp at this;omega) (max act (-1)) (y:=y) (k:=kk) (by omega);rw [hc8,hc9] at hst;have hz:(zh8 s x (max act (-1)) y == za0.holds (zk0 s x y kk) (zeo s x.locs (max act (-1)) kk))=true:=by rw [hst];simp
      rw [hz];try rfl
     have hc10':=dF hc10;refine Jq 11 [(6,.call (Fn.cast (LSameI (zip s x.locs (max act (-1))).1 y.locs (Nat.le_trans (plcA_len s _ _) (by omega)) (by omega)) (congrArg vb hc10)) ua_14)] [(10,vb (zh8 s x (max act (-1)) y == false))] [] h fun a w h=>qV (rT (.c (.d (.raw (.bool (zh8 s x (max act (-1)) y == false))))) h rfl ?_);have hst:=step_law (pro_of hc2) lvs hc3 (by have:=hc5;simp at this;omega) (max act (-1)) (y:=y) (k:=kk) (by omega);rw [hc8,hc10] at hst;have hz:(zh8 s x (max act (-1)) y == false)=true:=by rw [hst];simp
     rw [hz];try rfl
    rw [hc11] at h;refine Jq 11 [] [(10,vb (zh8 s x (max act (-1)) y == false))] [] h fun a w h=>qV (rT (.c (.d (.raw (.bool (zh8 s x (max act (-1)) y == false))))) h rfl ?_);have hst:=step_law (pro_of hc2) lvs hc3 (by have:=hc5;simp at this;omega) (max act (-1)) (y:=y) (k:=kk) (by omega);rw [hc11] at hst;have hz:(zh8 s x (max act (-1)) y == false)=true:=by rw [hst];simp
    rw [hz];try rfl
   refine Je 11 [(3,.g (Op.buildD (d:=20) (len:=2) (rows:=[x,y].map StD.d) (rs:=[(18,.t (.agg [.d (.sl 1 (x.locs.map zaj)),.d (.sl 2 (x.vals.map ziD))])),(19,.t (.agg [.d (.sl 1 (y.locs.map zaj)),.d (.sl 2 (y.vals.map ziD))]))]) kx_3 (.cons (i:=0) (OV.tmp 18 _) (.cons (i:=1) (OV.tmp 19 _) (.nil))) (by kernel_rfl) rfl (by simp [StD.d]) (by decide) (by decide))),(4,.call (Fn.cast (Lsmall s [x,y] hs (by intro x_ hx_;simp only [List.mem_cons,List.not_mem_nil,or_false] at hx_;rcases hx_ with rfl | rfl <;> assumption) (by simp)) (congrArg vb hc1)) mk0_2),(8,.call (Fn.cast (Lproper s hs3 hw9) (congrArg vb hc2)) mk0_3),(14,.call (Fn.cast (SRFits s x (L:=3) (M:=3) (by decide) hs3 hx3) (congrArg vb hc12)) kh_6)] [16] [(42,vb true)] h fun a w h=>cS true h (fun _=>?_) nofun
   refine Je 11 [] [42] [(10,vb true)] h fun a w h=>qV (za6 (rT (.c (.d (.raw (.bool true)))) h rfl ?_));rfl
  refine Je 11 [(3,.g (Op.buildD (d:=20) (len:=2) (rows:=[x,y].map StD.d) (rs:=[(18,.t (.agg [.d (.sl 1 (x.locs.map zaj)),.d (.sl 2 (x.vals.map ziD))])),(19,.t (.agg [.d (.sl 1 (y.locs.map zaj)),.d (.sl 2 (y.vals.map ziD))]))]) kx_3 (.cons (i:=0) (OV.tmp 18 _) (.cons (i:=1) (OV.tmp 19 _) (.nil))) (by kernel_rfl) rfl (by simp [StD.d]) (by decide) (by decide))),(4,.call (Fn.cast (Lsmall s [x,y] hs (by intro x_ hx_;simp only [List.mem_cons,List.not_mem_nil,or_false] at hx_;rcases hx_ with rfl | rfl <;> assumption) (by simp)) (congrArg vb hc1)) mk0_2),(8,.call (Fn.cast (Lproper s hs3 hw9) (congrArg vb hc13)) mk0_3)] [16] [(42,vb true)] h fun a w h=>cS true h (fun _=>?_) nofun
  refine Je 11 [] [42] [(10,vb true)] h fun a w h=>qV (za6 (rT (.c (.d (.raw (.bool true)))) h rfl ?_));rfl
 refine Je 11 [(3,.g (Op.buildD (d:=20) (len:=2) (rows:=[x,y].map StD.d) (rs:=[(18,.t (.agg [.d (.sl 1 (x.locs.map zaj)),.d (.sl 2 (x.vals.map ziD))])),(19,.t (.agg [.d (.sl 1 (y.locs.map zaj)),.d (.sl 2 (y.vals.map ziD))]))]) kx_3 (.cons (i:=0) (OV.tmp 18 _) (.cons (i:=1) (OV.tmp 19 _) (.nil))) (by kernel_rfl) rfl (by simp [StD.d]) (by decide) (by decide))),(4,.call (Fn.cast (Lsmall s [x,y] hs (by intro x_ hx_;simp only [List.mem_cons,List.not_mem_nil,or_false] at hx_;rcases hx_ with rfl | rfl <;> assumption) (by simp)) (congrArg vb hc14)) mk0_2)] [16] [(42,vb true)] h fun a w h=>cS true h (fun _=>?_) nofun
 refine Je 11 [] [42] [(10,vb true)] h fun a w h=>qV (za6 (rT (.c (.d (.raw (.bool true)))) h rfl ?_));rfl
theorem LWpStepsW (s:zao) (x y:StD) (act k:Int) (hs:SysRd s) (hx:StRd x) (hy:StRd y):Fn Tryz.prog 3 [] [vd (zao.d s),vd (StD.d x),vd (StD.d y),vi .i64 act,vi .i64 k] (vb true) [] :=
 LWpSteps s x y act k hs hx hy
end S
end Go.Proofs.YtckmanpooapkpaaGreat
section
namespace Go.Proofs.YtckmanpooapkpaaGreat.wpStepsDone
open Go.ChangeShapes Go.WideShapes Go.ChangeAt Go.RowKit
open Go.ChangeMaps (open_string shut_string)
open Go.Proofs.YtckmanpooapkpaaGreat.S

theorem own:ownKnob Tryz.prog.godebug=none:=by kernel_rfl
theorem laidOut:laidOutB Tryz.prog=true:=by kernel_rfl

theorem lifted (os:Os) (started:os.Started) (H:Type) (enc:TypeId × Value->H) :
  ReturnsInHanded {} Tryz.checked os 3 .any (Rows.wpStepsSpec.pre6 enc Tryz.prog Tryz.f3 Rows.wpStepsRow.domain false) (Rows.wpStepsSpec.post enc Tryz.prog Tryz.f3 false true false false):=by
 refine returnsInHanded_of_change (C:=Tryz.checked) own started (by kernel_rfl) Tryz.func3
  (ChangeSpec.witness6 (enc:=enc) (C:=Tryz.checked) false ⟨#[],#[.agg #[.slice none 0 0,.slice none 0 0,.int .i64 0,.slice none 0 0,.bool false,.slice none 0 0,.bool false,.slice none 0 0,.slice none 0 0,.slice none 0 0],.agg #[.slice none 0 0,.slice none 0 0],.agg #[.slice none 0 0,.slice none 0 0],.int .i64 0,.int .i64 0],[]⟩ 12 (by kernel_rfl) (by kernel_rfl) (by kernel_rfl) (by kernel_rfl)) ?_
 intro W base args ds gs before hval0 hW hcnd _
 have hval:∀ (j:Nat) t v,Tryz.f3.params[j]?=some t->args[j]?=some v->Value.okWide Tryz.prog W .any base t v:=hval0
 have hW':=hW
 obtain ⟨p,q,hA0,hV,rfl,hfz,hnd⟩:=hW
 have hA:DataW.TrodAll enc Tryz.prog W 0 (fun _=>true) true Tryz.f3.params.toList args.toList ds p:=hA0
 rw [Tryz.params3] at hA hval
 obtain ⟨v0,vs0,d0,ds0,p0,q0,hargs,rfl,rfl,h0,r0⟩:=trodAll_cons hA
 obtain ⟨v1,vs1,d1,ds1,p1,q1,rfl,rfl,rfl,h1,r1⟩:=trodAll_cons r0
 obtain ⟨v2,vs2,d2,ds2,p2,q2,rfl,rfl,rfl,h2,r2⟩:=trodAll_cons r1
 obtain ⟨v3,vs3,d3,ds3,p3,q3,rfl,rfl,rfl,h3,r3⟩:=trodAll_cons r2
 obtain ⟨v4,vs4,d4,ds4,p4,q4,rfl,rfl,rfl,h4,r4⟩:=trodAll_cons r3
 obtain ⟨rfl,rfl,rfl⟩:=trodAll_nil r4
 obtain rfl:args=#[v0,v1,v2,v3,v4]:=by cases args;simp_all
 obtain ⟨rfl,rfl⟩:=trodVars_none hV
 have k0:=h0
 have lt0:∀ x ∈ p0,x.block<W.heap.size:=by obtain ⟨m,hm⟩:=k0;exact DataW.trod_lt m _ _ _ hm
 obtain ⟨a0,cs0,g0,rfl,dr0⟩:=rep_agg Tryz.underlying39 (fun _=>rep_Sys) (hval 0 39 v0 rfl rfl) h0
 have k1:=h1
 have lt1:∀ x ∈ p1,x.block<W.heap.size:=by obtain ⟨m,hm⟩:=k1;exact DataW.trod_lt m _ _ _ hm
 obtain ⟨a1,cs1,g1,rfl,dr1⟩:=rep_agg Tryz.underlying43 (fun _=>rep_State) (hval 1 43 v1 rfl rfl) h1
 have k2:=h2
 have lt2:∀ x ∈ p2,x.block<W.heap.size:=by obtain ⟨m,hm⟩:=k2;exact DataW.trod_lt m _ _ _ hm
 obtain ⟨a2,cs2,g2,rfl,dr2⟩:=rep_agg Tryz.underlying43 (fun _=>rep_State) (hval 2 43 v2 rfl rfl) h2
 obtain ⟨a3,rfl,rfl,rfl,g30⟩:=open_int Tryz.underlying3 (hval 3 3 v3 rfl rfl) h3
 have g3:-9223372036854775808<=a3/\a3<=9223372036854775807:=by have:=bounds_i64 g30;omega
 obtain ⟨a4,rfl,rfl,rfl,g40⟩:=open_int Tryz.underlying3 (hval 4 3 v4 rfl rfl) h4
 have g4:-9223372036854775808<=a4/\a4<=9223372036854775807:=by have:=bounds_i64 g40;omega
 clear hA0 hval0
 refine ((LWpStepsW a0 a1 a2 a3 a4 g0 g1 g2).calls (w:=W) (vals:=[.agg ⟨cs0⟩,.agg ⟨cs1⟩,.agg ⟨cs2⟩,.int .i64 a3,.int .i64 a4]) fun B=>⟨dr_vd dr0 B,dr_vd dr1 B,dr_vd dr2 B,DR.raw _ rfl,DR.raw _ rfl,trivial⟩).mono fun e W' ⟨he,bel⟩=>?_
 subst he
 exact ⟨_,rfl,_,_,_,[],_,[],hW', trodAll_mk1 (shut_bool Tryz.underlying4 _),(trodAll_cons_mk (Below.trod laidOut (by kernel_rfl) (of_decide_eq_true (by kernel_rfl)) k0 bel lt0) (trodAll_cons_mk (Below.trod laidOut (by kernel_rfl) (of_decide_eq_true (by kernel_rfl)) k1 bel lt1) (trodAll_cons_mk (Below.trod laidOut (by kernel_rfl) (of_decide_eq_true (by kernel_rfl)) k2 bel lt2) (trodAll_cons_mk (shut_int Tryz.underlying3 g30) (trodAll_cons_mk (shut_int Tryz.underlying3 g40) trodAll_mk0))))),rfl,bel.below.frame _,fun h=>by cases h⟩

theorem over:Rows.wpStepsRow.holds Tryz.pinned (OpenSpec.ofChange Rows.wpStepsSpec) :=
 OpenClaim.holds_of_wide 3 Tryz.f3 rfl rfl rfl rfl rfl rfl rfl ⟨rfl,rfl,rfl,rfl,rfl⟩ rfl rfl rfl rfl rfl (by kernel_rfl) Tryz.func3 (by kernel_rfl)
  (of_decide_eq_true (by kernel_rfl)) (by unfold Func.isWrapper;first | (rw [if_pos (by decide +kernel)];kernel_rfl) | (rw [if_neg (by decide +kernel)];exact ⟨rfl,rfl⟩))
  (fun os started H enc _=>lifted os started H enc)

theorem proved:Rows.WpStepsSaid:=over
end Go.Proofs.YtckmanpooapkpaaGreat.wpStepsDone
end
