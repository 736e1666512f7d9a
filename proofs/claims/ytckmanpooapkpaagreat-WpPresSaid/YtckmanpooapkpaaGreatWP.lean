/-
  The proof of the statement WpPres: the walk through the program and the references lifted to the given row. It holds for every input.
-/
import Derived.Test.YtckmanpooapkpaaGreatWP5
import Derived.Test.YtckmanpooapkpaaGreatWP4
import Derived.Test.YtckmanpooapkpaaGreatRows
import Derived.Test.YtckmanpooapkpaaGreatWP2
set_option maxRecDepth 100000
set_option maxHeartbeats 20000000
open Go.RowKit
namespace Go.Proofs.YtckmanpooapkpaaGreat
namespace S
theorem mf5_8:za4 Tryz.prog 29:=za4.mk' (by kernel_rfl)
theorem mf5_11:za4 Tryz.prog 25:=za4.mk' (by kernel_rfl)
theorem rel_psok {n L:Nat} {t:zal} (h:TOk n L t) (hn:n<=1000:=by decide) (hL:L<=40000:=by decide):PsOk 40000 t.parts:=⟨Nat.le_trans h.len hn,fun p hp=>⟨(h.ps p hp).1,Nat.le_trans (h.ps p hp).2 hL⟩⟩
def za0.vars (f:za0):List Int:=f.fold fun k r _ vs=>if k=2 then zc9 r.t.parts else (cnt k vs).foldl (fun a v=>v.foldl zee a) []
theorem za0.vars_eq (f:za0):f.vars=if f.kind=2 then zc9 f.r.t.parts else (cnt f.kind f.kids).foldl (fun a g=>(za0.vars g).foldl zee a) []:=by
 have:=za0.fold_eq (fun k r _ (vs:List (List Int))=>if k=2 then zc9 r.t.parts else (cnt k vs).foldl (fun a v=>v.foldl zee a) []) f
 rw [zdz,List.foldl_map] at this;exact this
theorem foldl_take_v {ks:List za0} {j:Nat} {g:za0} (h:ks[j]?=some g):(ks.take (j+1)).foldl (fun a g=>(za0.vars g).foldl zee a) []=(za0.vars g).foldl zee ((ks.take j).foldl (fun a g=>(za0.vars g).foldl zee a) []):=by
 rw [List.take_add_one,h,List.foldl_append];rfl
theorem insF_len (vs a:List Int):(vs.foldl zee a).length<=a.length+vs.length:=by
 induction vs generalizing a with
 | nil=>exact Nat.le_refl _
 | cons v vs ih=>rw [List.foldl_cons,List.length_cons];have:=ih (zee a v);have:=zkv a v;omega
theorem vf_len (gs:List za0) (a:List Int):(gs.foldl (fun a g=>(za0.vars g).foldl zee a) a).length<=a.length+(gs.map fun g=>g.vars.length).sum:=by
 induction gs generalizing a with
 | nil=>simp
 | cons g gs ih =>
  rw [List.foldl_cons,List.map_cons,List.sum_cons]
  have h1:=ih (g.vars.foldl zee a)
  have h2:=insF_len g.vars a
  omega
theorem sum_mul40 {F G:za0->Nat}:∀ {xs:List za0}, (∀ x ∈ xs,F x<=40*G x)->(xs.map F).sum<=40*(xs.map G).sum
 | [],_=>Nat.le_refl _
 | x :: xs,h=>by
  rw [List.map_cons,List.map_cons,List.sum_cons,List.sum_cons]
  have:=h x (List.mem_cons_self ..);have:=sum_mul40 (xs:=xs) fun y hy=>h y (List.mem_cons_of_mem _ hy);omega
theorem vars_len (f:za0):f.okB 40 400->f.vars.length<=40*f.wid :=
 za0.ind (P:=fun f=>f.okB 40 400->f.vars.length<=40*f.wid) (fun k r ks ih hf=>by
  rw [za0.vars_eq,za0.wid_eq]
  split
  ·rename_i e
   have h1:=zi1 (za0.mk k r ks).r.t.parts
   have h2:=(((za0.okB_eq _ _ _).1 hf).1.1 e).len
   omega
  ·have h1:=vf_len (cnt k ks) []
   have h2:((cnt k ks).map fun g=>g.vars.length).sum<=40*((cnt k ks).map za0.wid).sum:=sum_mul40 fun g hg=>ih g (zbv hg) (zfm hf hg)
   show ((cnt k ks).foldl (fun a g=>(za0.vars g).foldl zee a) []).length<=40*(3+((cnt k ks).map za0.wid).sum)
   simp only [List.length_nil] at h1
   omega) f
theorem vars_room {f x:za0} (hf:f.okB 40 400) {j:Nat} (hx:(cnt f.kind f.kids)[j]?=some x):(((cnt f.kind f.kids).take j).foldl (fun a g=>(za0.vars g).foldl zee a) []).length+x.vars.length<=40*f.wid:=by
 have h1:=vf_len ((cnt f.kind f.kids).take j) []
 have h2:((cnt f.kind f.kids).map fun g=>g.vars.length).sum<=40*((cnt f.kind f.kids).map za0.wid).sum:=sum_mul40 fun g hg=>vars_len g (zfm hf hg)
 have h3:=za0.wid_eq f
 have h4:(((cnt f.kind f.kids).take j).map fun g=>g.vars.length).sum+x.vars.length<=((cnt f.kind f.kids).map fun g=>g.vars.length).sum:=by
  obtain ⟨hj,rfl⟩:=List.getElem?_eq_some_iff.1 hx
  have e:(cnt f.kind f.kids)=(cnt f.kind f.kids).take j++(cnt f.kind f.kids)[j] :: (cnt f.kind f.kids).drop (j+1):=by rw [<- List.drop_eq_getElem_cons hj,List.take_append_drop]
  have e2:=congrArg (fun l:List za0=>(l.map fun g=>g.vars.length).sum) e
  simp only [List.map_append,List.sum_append,List.map_cons,List.sum_cons] at e2
  omega
 simp only [List.length_nil] at h1
 omega
def inB (s:zar) (f:za0):Bool:=match f.vars.getLast? with | none=>true | some v=>decide (v<(s.vars.length:Int))
def proB (s:zar):Bool:=inB s s.init && s.acts.all fun c=>inB s c.guard && c.moves.all fun m=>inB s (zdn ⟨m.t,false⟩)
def smB (s:zar) (xs:List StD):Bool:=xs.all (zgb 3) && zbq 3 s
theorem last_at {vs:List Int} {j:Nat} {v:Int} (hj:vs[j]?=some v) (h:j+1=vs.length):vs.getLast?=some v:=by
 rw [List.getLast?_eq_getElem?, show vs.length - 1=j by omega];exact hj
theorem sndL {s:zar} {ki:Nat} {c:zaw} (h:s.acts[ki]?=some c):(zaa s (ki:Int)).2=zh0 s c:=by
 unfold zaa zcs;rw [if_pos (by omega),Int.toNat_natCast,h]
theorem sndN {s:zar} {i:Int} (h:zcs s i=none):(zaa s i).2=false:=by unfold zaa;rw [h]
theorem LR4HoldsW (r:zay) (vs:List ZI) {M:Nat} (hM:M<=300) (hv:VOk M vs) (hr:TOk 1000 1000 r.t):Fn Tryz.prog 40 [] [(vR r),(vZs vs)] (vb (zbf vs r)) []:=by
 refine Fn.body Tryz.func40 rfl 17 rfl fun w H B a h=>Jq 0 [] [(1,(vZs vs)),(2,vp 0 0),(4,vb false)] [(0,.box (zR_ r))] h fun a w h=>?_
 obtain ⟨r1,er1,vr1,or1,lr1⟩:=mkZ (v:=zcw r.t vs) (m:=1600) (Nat.le_trans (valT_len hr (by decide) hv) (by omega));refine Je 1 [(3,.call (Fn.cast (SRValue r.t vs hr (by decide) (by omega) hv) (congrArg vz er1.symm)) ke_2),(4,.call (zdj r1 or1 (by omega)) ib_0)] [1] [(5,vI (sgn r1.val))] h fun a w h=>qW (Jd 1 [] [2] [(12,vb r.eq)] [] h fun a w h=>cS r.eq h (fun hc1=>?_) (fun hc2=>?_))
 ·refine Jd 1 [] [12] [(4,vb (sgn r1.val == 0))] [] h fun a w h=>qV (za6 (rT (.c (cB (sgn r1.val == 0))) h rfl ?_))
  have hz:zbf vs r=(sgn r1.val == 0):=by
   unfold zbf;rw [<- vr1]
   cases he:r.eq <;> simp_all <;> omega
  rw [hz];try rfl
 refine qU (za1 (Jq 1 [] [(4,vb (decide (sgn r1.val>=0)))] [] h fun a w h=>qV (rT (.c (cB (decide (sgn r1.val>=0)))) h rfl ?_)))
 have hz:zbf vs r=(decide (sgn r1.val>=0)):=by
  unfold zbf;rw [<- vr1]
  cases he:r.eq <;> simp_all <;> omega
 rw [hz];try rfl
theorem LR5HoldsW0 (f:za0) (vs:List ZI) {M:Nat} (ih:∀ g ∈ f.kids,g.okB 1000 1000->Fn Tryz.prog 12 [] [(vF g),(vZs vs)] (vb (za0.holds vs g)) []) (hM:M<=300) (hv:VOk M vs) (hf:f.okB 1000 1000):Fn Tryz.prog 12 [] [(vF f),(vZs vs)] (vb (f.holds vs)) []:=by
 have hk:=zdf hf;refine Fn.body Tryz.func12 rfl 65 rfl fun w H B a h=>Jq 0 [] [(1,(vZs vs)),(2,vp 0 0),(4,vb false)] [(0,.box (zF f))] h fun a w h=>qW (Je 1 [] [] [(8,vI f.kind)] h fun a w h=>qZ (Je 1 [] [] [(9,vb (f.kind == 0))] h fun a w h=>cS (f.kind == 0) h (fun hc1=>?_) (fun hc2=>?_)))
 ·have hc1':=hc1;(try simp at hc1');refine Jq 1 [] [(4,vb true)] [] h fun a w h=>qV (zac (za6 (rT (.c (cB true)) h rfl ?_)));have hz:f.holds vs=(true):=by rw [za0.holds_eq,if_pos (by omega)];try rfl
  rw [hz];try rfl
 have hc2':=hc2;(try simp at hc2');refine Je 1 [] [9] [(11,vb (f.kind == 2))] h fun a w h=>cS (f.kind == 2) h (fun hc3=>?_) (fun hc4=>?_)
 ·have hc3':=hc3;(try simp at hc3');refine Jq 1 [(3,.call (LR4HoldsW f.r vs hM hv (((za0.okB_eq _ _ f).1 hf).1.1 (by omega))) ke_9)] [(4,vb (zbf vs f.r))] [] h fun a w h=>qV (zac (za6 (rT (.c (cB (zbf vs f.r))) h rfl ?_)));have hz:f.holds vs=(zbf vs f.r):=by rw [za0.holds_eq,if_neg (by omega),if_pos (by omega)];try rfl
  rw [hz];try rfl
 have hc4':=hc4;(try simp at hc4');refine Je 1 [] [11] [(17,vb (f.kind == 3))] h fun a w h=>cS (f.kind == 3) h (fun hc5=>?_) (fun hc8=>?_)
 ·have hc5':=hc5;(try simp at hc5')
  rcases Bool.eq_false_or_eq_true (decide ((f.kids.length:Int)>0)) with hc6 | hc7
  ·have hc6':=dT hc6;obtain ⟨x2,hx2⟩:=gl f.kids 0;refine Jq 1 [(2,.len (za7 6 za0.d f.kids)),(3,.cmp (op:=.gtr) (m:=(f.kids.length:Int)) (n:=0) (b:=true) .i64 hc6),(7,.g (xD 26 25 kb_0 ((zab hx2 (f:=za0.d)).trans (congrArg some (za0.d_eq x2))) (OV.const (.int .i64 0) rfl))),(10,.call (ih x2 (lM hx2) (zfm hf (by unfold cnt;first | (rw [if_pos (by omega)];exact lM hx2) | (rw [if_neg (by omega),if_pos (by omega)];exact zer hx2)))) zhe)] [(4,vb (!(za0.holds vs x2)))] [] h fun a w h=>qV (zac (za6 (rT (.c (cB (!(za0.holds vs x2)))) h rfl ?_)));have hz:f.holds vs=(!(za0.holds vs x2)):=by rw [za0.holds_eq,if_neg (by omega),if_neg (by omega),if_pos (by omega)];obtain ⟨tl,htl⟩:=zjg hx2;rw [htl];try rfl
   rw [hz];try rfl
  have hc7':=dF hc7;refine Jq 1 [(2,.len (za7 6 za0.d f.kids)),(3,.cmp (op:=.gtr) (m:=(f.kids.length:Int)) (n:=0) (b:=false) .i64 hc7)] [(4,vb false)] [] h fun a w h=>qV (zac (za6 (rT (.c (cB false)) h rfl ?_)));have hz:f.holds vs=(false):=by rw [za0.holds_eq,if_neg (by omega),if_neg (by omega),if_pos (by omega)];rw [List.length_eq_zero_iff.1 (show f.kids.length=0 by have:=dF hc7;omega)];try rfl
  rw [hz];try rfl
 have hc8':=hc8;(try simp at hc8');refine Je 1 [] [17] [(32,vb (f.kind == 4))] h fun a w h=>cS (f.kind == 4) h (fun hc9=>?_) (fun hc14=>?_)
 ·have hc9':=hc9;(try simp at hc9');refine qW (Je 1 [] [8,32] [(5,vI 0)] h fun a w h=>qZ ?_)
  refine zap (ι:=(Nat)) (fun j=>j<=f.kids.length/\(f.kids.take j).all (za0.holds vs)=true)
    (fun j=>[(1,(vZs vs)),(2,vp 0 0),(5,vN j)])
    (fun j=>[(0,.box (zF f))])
    (fun j=>f.kids.length - j) 0 ?_ h (by kernel_rfl) (by kernel_rfl) ?_
  ·exact ⟨Nat.zero_le _,rfl⟩
  clear h;rintro j a w hI h;obtain ⟨hI1,hI2⟩:=hI;refine qW (Je 1 [(3,.len (za7 6 za0.d f.kids))] [] [(38,vb (decide ((j:Int)<(f.kids.length:Int))))] h fun a w h=>zam ((j:Int)<(f.kids.length:Int)) h (fun hc10 hc10'=>?_) (fun hc13 hc13'=>?_))
  ·refine qU (za1 (qW (qZ ?_)));obtain ⟨x4,hx4⟩:=gl f.kids j;refine Je 1 [(3,.g (xD 44 42 kb_0 ((zab hx4 (f:=za0.d)).trans (congrArg some (za0.d_eq x4))) (OV.tmp 43 _))),(6,.call (ih x4 (lM hx4) (zfm hf (by unfold cnt;first | (rw [if_pos (by omega)];exact lM hx4) | (rw [if_neg (by omega),if_pos (by omega)];exact zer hx4)))) zhe)] [38] [(48,vb (!(za0.holds vs x4)))] h fun a w h=>cS (!(za0.holds vs x4)) h (fun hc11=>?_) (fun hc12=>?_)
   ·have hc11':=hc11;(try simp at hc11');refine Je 1 [] [48] [(4,vb false)] h fun a w h=>qV (zac (za6 (za6 (zac (za6 (zac (za6 (rT (.c (cB false)) h rfl ?_))))))));have hz:f.holds vs=(false):=by rw [za0.holds_eq,if_neg (by omega),if_neg (by omega),if_neg (by omega),if_pos (by omega)];exact zbp hx4 (show (za0.holds vs x4)=false from by simpa using hc11)
    rw [hz];try rfl
   have hc12':=hc12;(try simp at hc12');refine qU (za8 (za1 (Jf 1 [(1,.j1 j)] [48] [(5,vI ((j:Int)+1))] h fun a w h=>za1 (zag (x:=j) (y:=j+1) h ?_ ?_))))
   ·exact ⟨by have:=zak hx4;omega,zc0 hx4 hI2 (show (za0.holds vs x4)=true from by simpa using hc12)⟩
   show f.kids.length - (j+1)<f.kids.length - j;have:=zak hx4;omega
  refine wp_exit (za9 (za9 (za5 (za1 (Jq 1 [] [(4,vb true)] [] h fun a w h=>qV (zac (za6 (rT (.c (cB true)) h rfl ?_))))))));have hz:f.holds vs=(true):=by rw [za0.holds_eq,if_neg (by omega),if_neg (by omega),if_neg (by omega),if_pos (by omega)];exact zc6 (dF hc13) hI2
  rw [hz];try rfl
 have hc14':=hc14;(try simp at hc14');refine Je 1 [] [8,32] [(49,vb (f.kind == 5))] h fun a w h=>cS (f.kind == 5) h (fun hc15=>?_) (fun hc20=>?_)
 ·have hc15':=hc15;(try simp at hc15');refine Je 1 [] [49] [(6,vI 0)] h fun a w h=>qZ ?_
  refine zap (ι:=(Nat)) (fun j=>j<=f.kids.length/\(f.kids.take j).any (za0.holds vs)=false)
    (fun j=>[(1,(vZs vs)),(2,vp 0 0),(6,vN j)])
    (fun j=>[(0,.box (zF f))])
    (fun j=>f.kids.length - j) 0 ?_ h (by kernel_rfl) (by kernel_rfl) ?_
  ·exact ⟨Nat.zero_le _,rfl⟩
  clear h;rintro j a w hI h;obtain ⟨hI1,hI2⟩:=hI;refine qW (Je 1 [(3,.len (za7 6 za0.d f.kids))] [] [(55,vb (decide ((j:Int)<(f.kids.length:Int))))] h fun a w h=>zam ((j:Int)<(f.kids.length:Int)) h (fun hc16 hc16'=>?_) (fun hc19 hc19'=>?_))
  ·refine qU (za1 (qW (qZ ?_)));obtain ⟨x6,hx6⟩:=gl f.kids j;refine Je 1 [(3,.g (xD 61 59 kb_0 ((zab hx6 (f:=za0.d)).trans (congrArg some (za0.d_eq x6))) (OV.tmp 60 _))),(6,.call (ih x6 (lM hx6) (zfm hf (by unfold cnt;first | (rw [if_pos (by omega)];exact lM hx6) | (rw [if_neg (by omega),if_pos (by omega)];exact zer hx6)))) zhe)] [55] [(64,vb (za0.holds vs x6))] h fun a w h=>cS (za0.holds vs x6) h (fun hc17=>?_) (fun hc18=>?_)
   ·refine Je 1 [] [64] [(4,vb true)] h fun a w h=>qV (zac (za6 (za6 (zac (zac (za6 (rT (.c (cB true)) h rfl ?_)))))));have hz:f.holds vs=(true):=by rw [za0.holds_eq,if_neg (by omega),if_neg (by omega),if_neg (by omega),if_neg (by omega),if_pos (by omega)];exact zh8 hx6 hc17
    rw [hz];try rfl
   refine qU (za8 (za1 (Jf 1 [(1,.j1 j)] [64] [(6,vI ((j:Int)+1))] h fun a w h=>za1 (zag (x:=j) (y:=j+1) h ?_ ?_))))
   ·exact ⟨by have:=zak hx6;omega,zl0 hx6 hI2 hc18⟩
   show f.kids.length - (j+1)<f.kids.length - j;have:=zak hx6;omega
  refine wp_exit (za9 (za9 (za5 (za8 (za1 (Jq 1 [] [(4,vb false)] [] h fun a w h=>qV (rT (.c (cB false)) h rfl ?_)))))));have hz:f.holds vs=(false):=by rw [za0.holds_eq,if_neg (by omega),if_neg (by omega),if_neg (by omega),if_neg (by omega),if_pos (by omega)];exact zhy (dF hc19) hI2
  rw [hz];try rfl
 have hc20':=hc20;(try simp at hc20');refine qU (za8 (za1 (Jq 1 [] [(4,vb false)] [] h fun a w h=>qV (rT (.c (cB false)) h rfl ?_))));have hz:f.holds vs=(false):=by rw [za0.holds_eq,if_neg (by omega),if_neg (by omega),if_neg (by omega),if_neg (by omega),if_neg (by omega)];try rfl
 rw [hz];try rfl
theorem zdk (vs:List ZI) {M:Nat} (hM:M<=300) (hv:VOk M vs) (f:za0):f.okB 1000 1000->Fn Tryz.prog 12 [] [(vF f),(vZs vs)] (vb (za0.holds vs f)) [] :=
 za0.ind (P:=fun f=>f.okB 1000 1000->Fn Tryz.prog 12 [] [(vF f),(vZs vs)] (vb (za0.holds vs f)) []) (fun k r ks ih hf=>LR5HoldsW0 ⟨k,r,ks⟩ vs (fun g hg h=>ih g hg h) hM hv hf) f
theorem LR5Vars0 (f:za0) (ih:∀ g ∈ (cnt f.kind f.kids),Fn Tryz.prog 29 [] [(vF g)] (vIs (za0.vars g)) []) (hf:f.okB 40 400) (hw:f.wid<=20000):Fn Tryz.prog 29 [] [(vF f)] (vIs (za0.vars f)) []:=by
 have lck:=zex hf;have lkm:=zdf hf;refine Fn.body Tryz.func29 rfl 42 rfl fun w H B a h=>Jq 0 [] [(1,vp 0 0),(2,vW zad)] [(0,.box (zF f))] h fun a w h=>Je 1 [(0,.g (Op.buildED (d:=8) tb_0))] [] [(3,(vIs []))] h fun a w h=>qW (Je 1 [] [] [(11,vb (f.kind == 2))] h fun a w h=>cS (f.kind == 2) h (fun hc1=>?_) (fun hc2=>?_))
 ·have hc1':=hc1;(try simp at hc1');refine Je 1 [(3,.call (SVars f.r.t (rel_psok (rel_ok hf hc1))) tb_8)] [11] [(2,(vIs (zc9 f.r.t.parts)))] h fun a w h=>qV (za6 (rT (.c (cIs (zc9 f.r.t.parts))) h rfl ?_));have hz:f.vars=zc9 f.r.t.parts:=by rw [za0.vars_eq,if_pos (by have:=hc1;simpa using this)]
  rw [hz];try rfl
 have hc2':=hc2;(try simp at hc2');refine qU (za1 (Jd 1 [(1,.call (SKids f) kc_0)] [1,11] [(4,(vFs (cnt f.kind f.kids)))] [] h fun a w h=>qW (Jd 1 [] [] [(5,vI 0)] [] h fun a w h=>qZ ?_)))
 refine zap (ι:=(Nat)) (fun j=>j<=(cnt f.kind f.kids).length)
   (fun j=>[(2,vW zad),(3,(vIs (((cnt f.kind f.kids).take j).foldl (fun a g=>(za0.vars g).foldl zee a) []))),(4,(vFs (cnt f.kind f.kids))),(5,vN j)])
   (fun j=>[])
   (fun j=>(cnt f.kind f.kids).length - j) 0 ?_ h (by kernel_rfl) (by kernel_rfl) ?_
 ·exact Nat.zero_le _
 clear h;rintro j a w hI h;refine qW (Jd 1 [(2,.len (za7 6 za0.d (cnt f.kind f.kids)))] [] [(21,vb (decide ((j:Int)<((cnt f.kind f.kids).length:Int))))] [] h fun a w h=>zam ((j:Int)<((cnt f.kind f.kids).length:Int)) h (fun hc3 hc3'=>?_) (fun hc6 hc6'=>?_))
 ·refine qU (za1 (qW (qZ ?_)));obtain ⟨x3,hx3⟩:=gl (cnt f.kind f.kids) j;refine Jd 1 [(2,.g (xD 26 24 kb_0 ((zab hx3 (f:=za0.d)).trans (congrArg some (za0.d_eq x3))) (OV.tmp 25 _))),(4,.call (ih x3 (lM hx3)) mf5_8)] [21] [(6,(vIs (za0.vars x3)))] [] h fun a w h=>Jd 1 [] [] [(7,vI 0)] [] h fun a w h=>qZ ?_
  refine zap (ι:=(Nat)) (fun i=>i<=(za0.vars x3).length)
    (fun i=>[(2,vW zad),(3,(vIs (((za0.vars x3).take i).foldl zee (((cnt f.kind f.kids).take j).foldl (fun a g=>(za0.vars g).foldl zee a) [])))),(4,(vFs (cnt f.kind f.kids))),(5,vN j),(6,(vIs (za0.vars x3))),(7,vN i)])
    (fun i=>[])
    (fun i=>(za0.vars x3).length - i) 0 ?_ h (by kernel_rfl) (by kernel_rfl) ?_
  ·exact Nat.zero_le _
  clear h;rintro i a w hI h;have lvi:=insF_len ((za0.vars x3).take i) (((cnt f.kind f.kids).take j).foldl (fun a g=>(za0.vars g).foldl zee a) []);have lti:((za0.vars x3).take i).length<=i:=by rw [List.length_take];omega
  have lvr:=vars_room hf hx3;refine qW (Jd 1 [(2,.len (za7 1 zai (za0.vars x3)))] [] [(32,vb (decide ((i:Int)<((za0.vars x3).length:Int))))] [] h fun a w h=>zam ((i:Int)<((za0.vars x3).length:Int)) h (fun hc4 hc4'=>?_) (fun hc5 hc5'=>?_))
  ·refine qU (za1 (qW (qZ ?_)));obtain ⟨x5,hx5⟩:=gl (za0.vars x3) i;refine Jm 1 [(3,.g (xD 38 36 zi5 (zab hx5 (f:=zai)) (OV.tmp 37 _))),(5,.call (SInsert (((za0.vars x3).take i).foldl zee (((cnt f.kind f.kids).take j).foldl (fun a g=>(za0.vars g).foldl zee a) [])) x5 (by omega)) tb_6)] [32] [(3,(vIs (zee (((za0.vars x3).take i).foldl zee (((cnt f.kind f.kids).take j).foldl (fun a g=>(za0.vars g).foldl zee a) [])) x5)))] [] h fun a w h=>za8 (za1 (Jm 1 [(1,.j1 i)] [] [(7,vI ((i:Int)+1))] [] h fun a w h=>za1 ?_));rw [show ((zee (((za0.vars x3).take i).foldl zee (((cnt f.kind f.kids).take j).foldl (fun a g=>(za0.vars g).foldl zee a) [])) x5):List Int)=(((za0.vars x3).take (i+1)).foldl zee (((cnt f.kind f.kids).take j).foldl (fun a g=>(za0.vars g).foldl zee a) [])) from (by rw [List.take_add_one,hx5,List.foldl_append];rfl)] at h;refine zag (x:=i) (y:=i+1) h ?_ ?_
   ·have:=zak hx5;show i+1<=(za0.vars x3).length;omega
   show (za0.vars x3).length - (i+1)<(za0.vars x3).length - i;have:=zak hx5;omega
  refine wp_exit (za9 (za9 (za5 (za8 (za1 (Jm 1 [(1,.j1 j)] [6,7,32] [(5,vI ((j:Int)+1))] [] h fun a w h=>za1 ?_))))));rw [show ((((za0.vars x3).take i).foldl zee (((cnt f.kind f.kids).take j).foldl (fun a g=>(za0.vars g).foldl zee a) [])):List Int)=(((cnt f.kind f.kids).take (j+1)).foldl (fun a g=>(za0.vars g).foldl zee a) []) from (by rw [show i=(za0.vars x3).length by omega,List.take_length];exact (foldl_take_v hx3).symm)] at h;refine zag (x:=j) (y:=j+1) h ?_ ?_
  ·have:=zak hx3;show j+1<=(cnt f.kind f.kids).length;omega
  show (cnt f.kind f.kids).length - (j+1)<(cnt f.kind f.kids).length - j;have:=zak hx3;omega
 refine wp_exit (za9 (za9 (za5 (za1 (Jq 1 [] [(2,(vIs (((cnt f.kind f.kids).take j).foldl (fun a g=>(za0.vars g).foldl zee a) [])))] [] h fun a w h=>qV (rT (.c (cIs (((cnt f.kind f.kids).take j).foldl (fun a g=>(za0.vars g).foldl zee a) []))) h rfl ?_))))));have hz:f.vars=(((cnt f.kind f.kids).take j).foldl (fun a g=>(za0.vars g).foldl zee a) []):=by rw [za0.vars_eq,if_neg (by have:=hc2;simpa using this),List.take_of_length_le (by omega)]
 rw [hz];try rfl
theorem LR5Vars (f:za0):f.okB 40 400->f.wid<=20000->Fn Tryz.prog 29 [] [(vF f)] (vIs (za0.vars f)) [] :=
 za0.ind (P:=fun f=>f.okB 40 400->f.wid<=20000->Fn Tryz.prog 29 [] [(vF f)] (vIs (za0.vars f)) []) (fun k r ks ih hf hw=>LR5Vars0 ⟨k,r,ks⟩ (fun g hg=>ih g (zbv hg) (zfm hf hg) (Nat.le_trans (wid_kid hg) hw)) hf hw) f
theorem zjp (s:zar) (f:za0) (hf:f.okB 40 400) (hw:f.wid<=20000):Fn Tryz.prog 25 [] [vG (zaj s),(vF f)] (vb (inB s f)) []:=by
 have lvf:=vars_len f hf;refine Fn.body Tryz.func25 rfl 23 rfl fun w H B a h=>Jq 0 [] [(2,vp 0 0),(3,vp 1 0),(4,vb false)] [(0,.box (zaj s)),(1,.box (zF f))] h fun a w h=>Jd 2 [(1,.call (LR5Vars f hf hw) mf5_8)] [3] [(5,(vIs (za0.vars f)))] [(0,.box (zaj s))] h fun a w h=>?_
 rcases Bool.eq_false_or_eq_true (((za0.vars f).length:Int) == 0) with hc1 | hc2
 ·have hc1':=hc1;(try simp at hc1');refine Jq 2 [(1,.len (za7 1 zai (za0.vars f))),(2,.cmp (op:=.eql) (m:=((za0.vars f).length:Int)) (n:=0) (b:=true) .i64 hc1)] [(4,vb true)] [] h fun a w h=>qV (rT (.c (cB true)) h rfl ?_);have hz:inB s f=true:=by unfold inB;rw [List.length_eq_zero_iff.1 (show (za0.vars f).length=0 by have:=beq_iff_eq.1 hc1;omega)];rfl
  rw [hz];try rfl
 have hc2':=hc2;(try simp at hc2');obtain ⟨jl,hjl⟩:∃ j_:Nat,j_+1=(za0.vars f).length:=⟨(za0.vars f).length - 1,by have:=beq_eq_false_iff_ne.1 hc2;omega⟩;obtain ⟨x2,hx2⟩:=gl (za0.vars f) jl;refine Jq 2 [(1,.len (za7 1 zai (za0.vars f))),(2,.cmp (op:=.eql) (m:=((za0.vars f).length:Int)) (n:=0) (b:=false) .i64 hc2),(6,.len (za7 1 zai (za0.vars f))),(7,.g (Op.arith (op:=.sub) (d:=15) (xt:=3) (yt:=3) (k:=.i64) (m:=((za0.vars f).length:Int)) (n:=1) (r:=(jl:Int)) (OV.tmp 14 _) (OV.const (.int .i64 1) rfl) (.inr (.inl ⟨rfl,(by omega)⟩)) i6)),(8,.g (xD 16 12 zi5 (zab hx2 (f:=zai)) (OV.tmp 15 _))),(12,.len (za7 1 zg4 s.vars))] [(4,vb (decide (x2<(s.vars.length:Int))))] [] h fun a w h=>qV (rT (.c (cB (decide (x2<(s.vars.length:Int))))) h rfl ?_);have hz:inB s f=(decide (x2<(s.vars.length:Int))):=by unfold inB;rw [last_at hx2 hjl]
 rw [hz];try rfl
theorem Lproper (s:zar) (hs:zb9 3 s) (hw:SysW s):Fn Tryz.prog 9 [] [vG (zaj s)] (vb (proB s)) []:=by
 have las:=hs.acts;refine Fn.body Tryz.func9 rfl 40 rfl fun w H B a h=>Jq 0 [] [(1,vp 0 0),(2,vb false)] [(0,.box (zaj s))] h fun a w h=>qW (Je 1 [(3,.call (zjp s s.init (za0.okB_mono (by decide) (by decide) _ (zfz hs.init (by have:=hw.1;omega))) (by have:=hw.1;omega)) mf5_11)] [] [(11,vb (!(inB s s.init)))] h fun a w h=>cS (!(inB s s.init)) h (fun hc1=>?_) (fun hc2=>?_))
 ·have hc1':=hc1;(try simp at hc1');refine Je 1 [] [11] [] h fun a w h=>qV (za6 (rT (.c (cB false)) h rfl ?_));have hz:proB s=false:=by unfold proB;rw [(show (inB s s.init)=false from by simpa using hc1)];rfl
  rw [hz];try rfl
 have hc2':=hc2;(try simp at hc2');refine qU (za1 (qW (Je 1 [(2,.len (za7 10 zaw.d s.acts))] [11] [(13,vS 10 (s.acts.map zaw.d)),(14,vN s.acts.length),(15,vI 0)] h fun a w h=>qZ ?_)))
 refine zap (ι:=(Nat)) (fun j=>j<=s.acts.length/\(s.acts.take j).all (fun c=>inB s c.guard && c.moves.all fun m=>inB s (zdn ⟨m.t,false⟩))=true)
   (fun j=>[(1,vp 0 0),(13,vS 10 (s.acts.map zaw.d)),(14,vN s.acts.length),(15,vN j)])
   (fun j=>[(0,.box (zaj s))])
   (fun j=>s.acts.length - j) 0 ?_ h (by kernel_rfl) (by kernel_rfl) ?_
 ·exact ⟨Nat.zero_le _,rfl⟩
 clear h;rintro j a w hI h;obtain ⟨hP1,hP2⟩:=hI;refine Je 1 [] [] [(16,vb (decide ((j:Int)<(s.acts.length:Int))))] h fun a w h=>qW (zam ((j:Int)<(s.acts.length:Int)) h (fun hc3 hc3'=>?_) (fun hc10 hc10'=>?_))
 ·refine qU (za1 (qW (qZ ?_)));obtain ⟨x2,hx2⟩:=gl s.acts j;have hcx2:=hs.act x2 (lM hx2);have hgx2:=hw.2 x2 (lM hx2);have lmx2:=hcx2.len;refine Jd 1 [(0,.g (xD 17 13 ki_1 (zab hx2 (f:=zaw.d)) (OV.tmp 15 _)))] [16] [(4,vp 1 0)] [(0,.box (zaj s)),(1,.box ([cI x2.proc,cI x2.from_,cI x2.to_,cI x2.guard.kind,cPs x2.guard.r.t.parts]++zi x2.guard.r.t.k++[cB x2.guard.r.eq,cFs x2.guard.kids,.d (.sl 5 (x2.moves.map zae.d))]))] h fun a w h=>qW (Je 2 [(3,.call (zjp s x2.guard (za0.okB_mono (by decide) (by decide) _ (zfz hcx2.guard (by omega))) (by omega)) mf5_11)] [] [(23,vb (!(inB s x2.guard)))] h fun a w h=>cS (!(inB s x2.guard)) h (fun hc4=>?_) (fun hc5=>?_))
  ·have hc4':=hc4;(try simp at hc4');refine Je 2 [] [23] [(2,vb false)] h fun a w h=>qV (za6 (zac (za6 (za6 (zac (za6 (rT (.c (cB false)) h rfl ?_)))))));have hz:proB s=false:=by unfold proB;rw [zbp (q:=(fun c=>inB s c.guard && c.moves.all fun m=>inB s (zdn ⟨m.t,false⟩))) hx2 (by show (inB s x2.guard && _)=false;rw [(show (inB s x2.guard)=false from by simpa using hc4)];rfl),Bool.and_false]
   rw [hz];try rfl
  have hc5':=hc5;(try simp at hc5');refine qU (za1 (Jd 2 [(2,.len (za7 5 zae.d x2.moves))] [4,23] [(25,vS 5 (x2.moves.map zae.d)),(26,vN x2.moves.length),(27,vI 0)] [(0,.box (zaj s))] h fun a w h=>qZ ?_))
  refine zap (ι:=(Nat)) (fun i=>i<=x2.moves.length/\(x2.moves.take i).all (fun m=>inB s (zdn ⟨m.t,false⟩))=true)
    (fun i=>[(1,vp 0 0),(13,vS 10 (s.acts.map zaw.d)),(14,vN s.acts.length),(15,vN j),(25,vS 5 (x2.moves.map zae.d)),(26,vN x2.moves.length),(27,vN i)])
    (fun i=>[(0,.box (zaj s))])
    (fun i=>x2.moves.length - i) 0 ?_ h (by kernel_rfl) (by kernel_rfl) ?_
  ·exact ⟨Nat.zero_le _,rfl⟩
  clear h;rintro i a w hI h;obtain ⟨hQ1,hQ2⟩:=hI;refine Je 2 [] [] [(28,vb (decide ((i:Int)<(x2.moves.length:Int))))] h fun a w h=>qW (zam ((i:Int)<(x2.moves.length:Int)) h (fun hc6 hc6'=>?_) (fun hc9 hc9'=>?_))
  ·refine qU (za1 (qW (qZ ?_)));obtain ⟨x4,hx4⟩:=gl x2.moves i;refine Jd 2 [(0,.g (xD 29 25 ki_2 (zab hx4 (f:=zae.d)) (OV.tmp 27 _)))] [28] [(6,vp 2 0)] [(0,.box (zaj s)),(2,.box ([cI x4.v,cB x4.any,cPs x4.t.parts]++zi x4.t.k))] h fun a w h=>Jd 3 [(4,.call (LR5Atom (zay.mk x4.t false) ((hcx2.mv x4 (lM hx4)).mono (by decide) (by decide))) ls19_8),(5,.call (zjp s (zdn (zay.mk x4.t false)) (za0.okB_mono (by decide) (by decide) _ (okB_atom ((hcx2.mv x4 (lM hx4)).plain (by decide)))) (by rw [za0.wid_eq];show 3+(List.map za0.wid (cnt (2:Int) [])).sum<=20000;decide)) mf5_11)] [6] [(37,vb (!(inB s (zdn (zay.mk x4.t false)))))] [(0,.box (zaj s))] h fun a w h=>cS (!(inB s (zdn (zay.mk x4.t false)))) h (fun hc7=>?_) (fun hc8=>?_)
   ·have hc7':=hc7;(try simp at hc7');refine Je 3 [] [37] [(2,vb false)] h fun a w h=>qV (zac (za6 (za6 (zac (zac (za6 (za6 (zac (za6 (rT (.c (cB false)) h rfl ?_))))))))));have hz:proB s=false:=by unfold proB;rw [zbp (q:=(fun c=>inB s c.guard && c.moves.all fun m=>inB s (zdn ⟨m.t,false⟩))) hx2 (by show (inB s x2.guard && x2.moves.all fun m=>inB s (zdn ⟨m.t,false⟩))=false;rw [zbp (q:=fun m:zae=>inB s (zdn ⟨m.t,false⟩)) hx4 (show (inB s (zdn (zay.mk x4.t false)))=false from by simpa using hc7),Bool.and_false]),Bool.and_false]
    rw [hz];try rfl
   have hc8':=hc8;(try simp at hc8');refine qU (za8 (za1 (Jf 3 [(0,.j1 i)] [37] [(27,vI ((i:Int)+1))] h fun a w h=>za1 (zag (x:=i) (y:=i+1) h ?_ ?_))))
   ·exact ⟨by have:=zak hx4;omega,zc0 hx4 hQ2 (show (inB s (zdn (zay.mk x4.t false)))=true from by simpa using hc8)⟩
   show x2.moves.length - (i+1)<x2.moves.length - i;have:=zak hx4;omega
  refine wp_exit (za9 (za9 (za5 (za8 (za1 (Jf 3 [(0,.j1 j)] [25,26,27,28] [(15,vI ((j:Int)+1))] h fun a w h=>za1 (zag (x:=j) (y:=j+1) h ?_ ?_)))))))
  ·exact ⟨by have:=zak hx2;omega,zc0 hx2 hP2 (by show (inB s x2.guard && x2.moves.all fun m=>inB s (zdn ⟨m.t,false⟩))=true;rw [(show (inB s x2.guard)=true from by simpa using hc5),zc6 (by omega) hQ2];rfl)⟩
  show s.acts.length - (j+1)<s.acts.length - j;have:=zak hx2;omega
 refine wp_exit (za9 (za9 (za5 (za1 (Jq 3 [] [(2,vb true)] [] h fun a w h=>qV (rT (.c (cB true)) h rfl ?_))))));have hz:proB s=true:=by unfold proB;rw [(show (inB s s.init)=true from by simpa using hc2),Bool.true_and];exact zc6 (by omega) hP2
 rw [hz];try rfl
theorem LsndN (s:zar) (i:Int) (hi:zcs s i=none):Fn Tryz.prog 28 [] [vG (zaj s),vI i] (vb false) []:=by
 refine Fn.body Tryz.func28 rfl 91 rfl fun w H B a h=>Jq 0 [] [(1,vI i),(2,vp 0 0),(4,vb false)] [(0,.box (zaj s))] h fun a w h=>qW ?_
 rcases Bool.eq_false_or_eq_true (decide (i<0)) with hc1 | hc2
 ·have hc1':=dT hc1;refine Je 1 [(1,.cmp (op:=.lss) (m:=i) (n:=0) (b:=true) .i64 hc1)] [] [(38,vb true)] h fun a w h=>cS true h (fun _=>?_) nofun
  refine Je 1 [] [38] [] h fun a w h=>qV (za6 (rT (.c (cB false)) h rfl ?_));rfl
 have hc2':=dF hc2;refine Je 1 [(1,.cmp (op:=.lss) (m:=i) (n:=0) (b:=false) .i64 hc2),(6,.len (za7 10 zaw.d s.acts)),(7,.cmp (op:=.geq) (m:=i) (n:=(s.acts.length:Int)) (b:=true) .i64 (decide_eq_true (by have:=zjm hi;have:=dF hc2;omega)))] [] [(38,vb true)] h fun a w h=>cS true h (fun _=>?_) nofun
 refine Je 1 [] [38] [] h fun a w h=>qV (za6 (rT (.c (cB false)) h rfl ?_));rfl
theorem LsndS (s:zar) (ki:Nat) (c:zaw) (hc:zff 3 c) (_hps:s.procs.length<=6) (hka:s.acts[ki]?=some c):Fn Tryz.prog 28 [] [vG (zaj s),vN ki] (vb (zh0 s c)) []:=by
 have lki:=zak hka;have lmv:=hc.len;refine Fn.body Tryz.func28 rfl 91 rfl fun w H B a h=>Jq 0 [] [(1,vN ki),(2,vp 0 0),(4,vb false)] [(0,.box (zaj s))] h fun a w h=>qW ?_
 rcases Bool.eq_false_or_eq_true (decide (c.proc<0)) with hc1 | hc2
 ·have hc1':=dT hc1;refine Je 1 [(1,.cmp (op:=.lss) (m:=(ki:Int)) (n:=0) (b:=false) .i64 (show (decide ((ki:Int)<0))=false from decide_eq_false (by omega))),(6,.len (za7 10 zaw.d s.acts)),(7,.cmp (op:=.geq) (m:=(ki:Int)) (n:=(s.acts.length:Int)) (b:=false) .i64 (show (decide ((ki:Int)>=(s.acts.length:Int)))=false from decide_eq_false (by omega))),(13,.g (xD 22 20 ki_1 (zab hka (f:=zaw.d)) (OV.tmp 21 _))),(16,.cmp (op:=.lss) (m:=c.proc) (n:=0) (b:=true) .i64 hc1)] [] [(38,vb true)] h fun a w h=>cS true h (fun _=>?_) nofun
  refine Je 1 [] [38] [] h fun a w h=>qV (za6 (rT (.c (cB false)) h rfl ?_));have hz:zh0 s c=(false):=by unfold zh0;rw [decide_eq_false (p:=0<=c.proc/\c.proc<(s.procs.length:Int)) (by have:=dT hc1;omega)];rfl
  rw [hz];try rfl
 have hc2':=dF hc2;refine Je 1 [(1,.cmp (op:=.lss) (m:=(ki:Int)) (n:=0) (b:=false) .i64 (show (decide ((ki:Int)<0))=false from decide_eq_false (by omega))),(6,.len (za7 10 zaw.d s.acts)),(7,.cmp (op:=.geq) (m:=(ki:Int)) (n:=(s.acts.length:Int)) (b:=false) .i64 (show (decide ((ki:Int)>=(s.acts.length:Int)))=false from decide_eq_false (by omega))),(13,.g (xD 22 20 ki_1 (zab hka (f:=zaw.d)) (OV.tmp 21 _))),(16,.cmp (op:=.lss) (m:=c.proc) (n:=0) (b:=false) .i64 hc2),(22,.g (xD 31 29 ki_1 (zab hka (f:=zaw.d)) (OV.tmp 30 _))),(27,.len (za7 3 zc7.d s.procs))] [] [(38,vb (decide (c.proc>=(s.procs.length:Int))))] h fun a w h=>zam (c.proc>=(s.procs.length:Int)) h (fun hc3 hc3'=>?_) (fun hc4 hc4'=>?_)
 ·refine Je 1 [] [38] [] h fun a w h=>qV (za6 (rT (.c (cB false)) h rfl ?_));have hz:zh0 s c=(false):=by unfold zh0;rw [decide_eq_false (p:=0<=c.proc/\c.proc<(s.procs.length:Int)) (by have:=dT hc3;omega)];rfl
  rw [hz];try rfl
 refine qU (za1 (Jd 1 [(3,.g (xD 42 40 ki_1 (zab hka (f:=zaw.d)) (OV.tmp 41 _)))] [1,38] [(5,vp 1 0)] [(0,.box (zaj s)),(1,.box ([cI c.proc,cI c.from_,cI c.to_,cI c.guard.kind,cPs c.guard.r.t.parts]++zi c.guard.r.t.k++[cB c.guard.r.eq,cFs c.guard.kids,.d (.sl 5 (c.moves.map zae.d))]))] h fun a w h=>?_));obtain ⟨k,hkk⟩:∃ k_:Nat,c.proc=(k_:Int):=⟨_,(Int.toNat_of_nonneg (by have:=dF hc2;omega)).symm⟩;replace h:=h.conv (f':=F.of [(2,vp 0 0),(4,vb false),(5,vp 1 0)] [(0,.box (zaj s)),(1,.box ([cI (k:Int),cI c.from_,cI c.to_,cI c.guard.kind,cPs c.guard.r.t.parts]++zi c.guard.r.t.k++[cB c.guard.r.eq,cFs c.guard.kids,.d (.sl 5 (c.moves.map zae.d))]))]) (by rw [hkk];kernel_rfl);obtain ⟨x1,hx1⟩:=gl s.procs k;refine Jq 2 [(4,.g (xD 48 45 kf_5 (zab hx1 (f:=zc7.d)) (OV.tmp 47 _))),(7,.len (za7 1 zg4 x1.locs))] [(2,vp 0 0),(4,vb false),(5,vp 1 0),(6,vN x1.locs.length)] [(0,.box (zaj s)),(1,.box ([cI (k:Int),cI c.from_,cI c.to_,cI c.guard.kind,cPs c.guard.r.t.parts]++zi c.guard.r.t.k++[cB c.guard.r.eq,cFs c.guard.kids,.d (.sl 5 (c.moves.map zae.d))]))] h fun a w h=>qW (Je 2 [(2,.len (za7 5 zae.d c.moves))] [] [(53,vS 5 (c.moves.map zae.d)),(54,vN c.moves.length),(55,vI 0)] h fun a w h=>qZ ?_)
 refine zap (ι:=(Nat)) (fun j=>j<=c.moves.length/\(c.moves.take j).any (fun m=>!zde s m)=false)
   (fun j=>[(2,vp 0 0),(5,vp 1 0),(6,vN x1.locs.length),(53,vS 5 (c.moves.map zae.d)),(54,vN c.moves.length),(55,vN j)])
   (fun j=>[(0,.box (zaj s)),(1,.box ([cI (k:Int),cI c.from_,cI c.to_,cI c.guard.kind,cPs c.guard.r.t.parts]++zi c.guard.r.t.k++[cB c.guard.r.eq,cFs c.guard.kids,.d (.sl 5 (c.moves.map zae.d))]))])
   (fun j=>c.moves.length - j) 0 ?_ h (by kernel_rfl) (by kernel_rfl) ?_
 ·exact ⟨Nat.zero_le _,rfl⟩
 clear h;rintro j a w hI h;obtain ⟨hI1,hI2⟩:=hI;refine Je 2 [] [] [(56,vb (decide ((j:Int)<(c.moves.length:Int))))] h fun a w h=>qW (zam ((j:Int)<(c.moves.length:Int)) h (fun hc5 hc5'=>?_) (fun hc10 hc10'=>?_))
 ·refine qU (za1 (qW (qZ ?_)));obtain ⟨x2,hx2⟩:=gl c.moves j;refine Jd 2 [(0,.g (xD 57 53 ki_2 (zab hx2 (f:=zae.d)) (OV.tmp 55 _)))] [56] [(8,vp 2 0)] [(0,.box (zaj s)),(1,.box ([cI (k:Int),cI c.from_,cI c.to_,cI c.guard.kind,cPs c.guard.r.t.parts]++zi c.guard.r.t.k++[cB c.guard.r.eq,cFs c.guard.kids,.d (.sl 5 (c.moves.map zae.d))])),(2,.box ([cI x2.v,cB x2.any,cPs x2.t.parts]++zi x2.t.k))] h fun a w h=>?_
  rcases Bool.eq_false_or_eq_true (decide (x2.v<0)) with hc6 | hc7
  ·have hc6':=dT hc6;refine Jd 3 [(2,.cmp (op:=.lss) (m:=x2.v) (n:=0) (b:=true) .i64 hc6)] [8] [(69,vb true)] [(0,.box (zaj s)),(1,.box ([cI (k:Int),cI c.from_,cI c.to_,cI c.guard.kind,cPs c.guard.r.t.parts]++zi c.guard.r.t.k++[cB c.guard.r.eq,cFs c.guard.kids,.d (.sl 5 (c.moves.map zae.d))]))] h fun a w h=>cS true h (fun _=>?_) nofun
   refine Je 3 [] [69] [(4,vb false)] h fun a w h=>qV (zac (za6 (za6 (zac (za6 (rT (.c (cB false)) h rfl ?_))))));have hz:zh0 s c=(false):=by unfold zh0;rw [decide_eq_true (p:=0<=c.proc/\c.proc<(s.procs.length:Int)) (by have:=dF hc2;have:=dF hc4;omega),show c.proc.toNat=k by omega,show zcq s k=x1.locs.length by unfold zcq;rw [hx1];rfl,Bool.true_and];rw [zh8 (q:=(fun m=>!zde s m)) hx2 (there_lo hc6)];simp
   rw [hz];try rfl
  have hc7':=dF hc7;refine Jd 3 [(2,.cmp (op:=.lss) (m:=x2.v) (n:=0) (b:=false) .i64 hc7),(8,.len (za7 1 zg4 s.vars))] [8] [(69,vb (decide (x2.v>=(s.vars.length:Int))))] [(0,.box (zaj s)),(1,.box ([cI (k:Int),cI c.from_,cI c.to_,cI c.guard.kind,cPs c.guard.r.t.parts]++zi c.guard.r.t.k++[cB c.guard.r.eq,cFs c.guard.kids,.d (.sl 5 (c.moves.map zae.d))]))] h fun a w h=>zam (x2.v>=(s.vars.length:Int)) h (fun hc8 hc8'=>?_) (fun hc9 hc9'=>?_)
  ·refine Je 3 [] [69] [(4,vb false)] h fun a w h=>qV (zac (za6 (za6 (zac (za6 (rT (.c (cB false)) h rfl ?_))))));have hz:zh0 s c=(false):=by unfold zh0;rw [decide_eq_true (p:=0<=c.proc/\c.proc<(s.procs.length:Int)) (by have:=dF hc2;have:=dF hc4;omega),show c.proc.toNat=k by omega,show zcq s k=x1.locs.length by unfold zcq;rw [hx1];rfl,Bool.true_and];rw [zh8 (q:=(fun m=>!zde s m)) hx2 (there_hi hc8)];simp
   rw [hz];try rfl
  refine qU (za8 (za1 (Jf 3 [(0,.j1 j)] [69] [(55,vI ((j:Int)+1))] h fun a w h=>za1 (zag (x:=j) (y:=j+1) h ?_ ?_))))
  ·exact ⟨by have:=zak hx2;omega,zl0 hx2 hI2 (there_no hc7 hc9)⟩
  show c.moves.length - (j+1)<c.moves.length - j;have:=zak hx2;omega
 refine wp_exit (za9 (za9 (za5 (za1 ?_))))
 rcases Bool.eq_false_or_eq_true (decide (c.from_>=0)) with hc11 | hc16
 ·have hc11':=dT hc11
  rcases Bool.eq_false_or_eq_true (decide (c.from_<(x1.locs.length:Int))) with hc12 | hc15
  ·have hc12':=dT hc12
   rcases Bool.eq_false_or_eq_true (decide (c.to_>=0)) with hc13 | hc14
   ·have hc13':=dT hc13;refine Jq 3 [(2,.cmp (op:=.geq) (m:=c.from_) (n:=0) (b:=true) .i64 hc11),(7,.cmp (op:=.lss) (m:=c.from_) (n:=(x1.locs.length:Int)) (b:=true) .i64 hc12),(12,.cmp (op:=.geq) (m:=c.to_) (n:=0) (b:=true) .i64 hc13)] [(4,vb (decide (c.to_<(x1.locs.length:Int))))] [] h fun a w h=>qV (rT (.c (cB (decide (c.to_<(x1.locs.length:Int))))) h rfl ?_);have hz:zh0 s c=(decide (c.to_<(x1.locs.length:Int))):=by unfold zh0;rw [decide_eq_true (p:=0<=c.proc/\c.proc<(s.procs.length:Int)) (by have:=dF hc2;have:=dF hc4;omega),show c.proc.toNat=k by omega,show zcq s k=x1.locs.length by unfold zcq;rw [hx1];rfl,Bool.true_and];rw [zhy (q:=(fun m=>!zde s m)) (dF hc10) hI2,Bool.not_false,Bool.and_true];have f0:=dT hc11;have f1:=dT hc12;have f2:=dT hc13;first | (rw [decide_eq_false (p:=0<=c.from_/\c.from_<_) (by omega)];rfl) | (rw [decide_eq_true (p:=0<=c.from_/\c.from_<_) (by omega),Bool.true_and];first | exact decide_eq_decide.2 (by omega) | exact decide_eq_false (by omega))
    rw [hz];try rfl
   have hc14':=dF hc14;refine Jq 3 [(2,.cmp (op:=.geq) (m:=c.from_) (n:=0) (b:=true) .i64 hc11),(7,.cmp (op:=.lss) (m:=c.from_) (n:=(x1.locs.length:Int)) (b:=true) .i64 hc12),(12,.cmp (op:=.geq) (m:=c.to_) (n:=0) (b:=false) .i64 hc14)] [(4,vb false)] [] h fun a w h=>qV (rT (.c (cB false)) h rfl ?_);have hz:zh0 s c=(false):=by unfold zh0;rw [decide_eq_true (p:=0<=c.proc/\c.proc<(s.procs.length:Int)) (by have:=dF hc2;have:=dF hc4;omega),show c.proc.toNat=k by omega,show zcq s k=x1.locs.length by unfold zcq;rw [hx1];rfl,Bool.true_and];rw [zhy (q:=(fun m=>!zde s m)) (dF hc10) hI2,Bool.not_false,Bool.and_true];have f0:=dT hc11;have f1:=dT hc12;have f2:=dF hc14;first | (rw [decide_eq_false (p:=0<=c.from_/\c.from_<_) (by omega)];rfl) | (rw [decide_eq_true (p:=0<=c.from_/\c.from_<_) (by omega),Bool.true_and];first | exact decide_eq_decide.2 (by omega) | exact decide_eq_false (by omega))
   rw [hz];try rfl
  have hc15':=dF hc15;refine Jq 3 [(2,.cmp (op:=.geq) (m:=c.from_) (n:=0) (b:=true) .i64 hc11),(7,.cmp (op:=.lss) (m:=c.from_) (n:=(x1.locs.length:Int)) (b:=false) .i64 hc15)] [(4,vb false)] [] h fun a w h=>qV (rT (.c (cB false)) h rfl ?_);have hz:zh0 s c=(false):=by unfold zh0;rw [decide_eq_true (p:=0<=c.proc/\c.proc<(s.procs.length:Int)) (by have:=dF hc2;have:=dF hc4;omega),show c.proc.toNat=k by omega,show zcq s k=x1.locs.length by unfold zcq;rw [hx1];rfl,Bool.true_and];rw [zhy (q:=(fun m=>!zde s m)) (dF hc10) hI2,Bool.not_false,Bool.and_true];have f0:=dT hc11;have f1:=dF hc15;first | (rw [decide_eq_false (p:=0<=c.from_/\c.from_<_) (by omega)];rfl) | (rw [decide_eq_true (p:=0<=c.from_/\c.from_<_) (by omega),Bool.true_and];first | exact decide_eq_decide.2 (by omega) | exact decide_eq_false (by omega))
  rw [hz];try rfl
 have hc16':=dF hc16;refine Jq 3 [(2,.cmp (op:=.geq) (m:=c.from_) (n:=0) (b:=false) .i64 hc16)] [(4,vb false)] [] h fun a w h=>qV (rT (.c (cB false)) h rfl ?_);have hz:zh0 s c=(false):=by unfold zh0;rw [decide_eq_true (p:=0<=c.proc/\c.proc<(s.procs.length:Int)) (by have:=dF hc2;have:=dF hc4;omega),show c.proc.toNat=k by omega,show zcq s k=x1.locs.length by unfold zcq;rw [hx1];rfl,Bool.true_and];rw [zhy (q:=(fun m=>!zde s m)) (dF hc10) hI2,Bool.not_false,Bool.and_true];have f0:=dF hc16;first | (rw [decide_eq_false (p:=0<=c.from_/\c.from_<_) (by omega)];rfl) | (rw [decide_eq_true (p:=0<=c.from_/\c.from_<_) (by omega),Bool.true_and];first | exact decide_eq_decide.2 (by omega) | exact decide_eq_false (by omega))
 rw [hz];try rfl
theorem Lsnd (s:zar) (i:Int) (hs:zb9 3 s):Fn Tryz.prog 28 [] [vG (zaj s),vi .i64 i] (vb (zaa s i).2) []:=by
 cases hi:zcs s i with
 | none=>rw [sndN hi];exact LsndN s i hi
 | some c=>obtain ⟨ki,rfl,hka⟩:=zep hi;rw [sndL hka];exact LsndS s ki c (hs.act c (List.mem_of_getElem? hka)) hs.procs hka
theorem Lsmall (s:zar) (xs:List StD) (hr:SysRd s) (hxr:∀ x ∈ xs,StRd x) (hl:xs.length<=1000):Fn Tryz.prog 8 [] [vG (zaj s),vS 2 (xs.map StD.d)] (vb (smB s xs)) []:=by
 refine Fn.body Tryz.func8 rfl 19 rfl fun w H B a h=>Jq 0 [] [(1,vS 2 (xs.map StD.d)),(2,vp 0 0),(4,vb false)] [(0,.box (zaj s))] h fun a w h=>qW (Je 1 [(1,.len (za7 2 StD.d xs))] [1] [(7,vS 2 (xs.map StD.d)),(8,vN xs.length),(9,vI 0)] h fun a w h=>qZ ?_)
 refine zap (ι:=(Nat)) (fun j=>j<=xs.length/\(xs.take j).all (zgb 3)=true)
   (fun j=>[(2,vp 0 0),(7,vS 2 (xs.map StD.d)),(8,vN xs.length),(9,vN j)])
   (fun j=>[(0,.box (zaj s))])
   (fun j=>xs.length - j) 0 ?_ h (by kernel_rfl) (by kernel_rfl) ?_
 ·exact ⟨Nat.zero_le _,rfl⟩
 clear h;rintro j a w hI h;obtain ⟨hI1,hI2⟩:=hI;refine Je 1 [] [] [(10,vb (decide ((j:Int)<(xs.length:Int))))] h fun a w h=>qW (zam ((j:Int)<(xs.length:Int)) h (fun hc1 hc1'=>?_) (fun hc4 hc4'=>?_))
 ·refine qU (za1 (qW (qZ ?_)));obtain ⟨x1,hx1⟩:=gl xs j;refine Jd 1 [(0,.g (xD 11 7 kn_0 (zab hx1 (f:=StD.d)) (OV.tmp 9 _)))] [10] [(6,vp 1 0)] [(0,.box (zaj s)),(1,.box [cIs x1.locs,cZs x1.vals])] h fun a w h=>Jd 2 [(1,.call (SFewSt x1 3 (hxr x1 (lM hx1))) lo15_2)] [6] [(15,vb (!(zgb 3 x1)))] [(0,.box (zaj s))] h fun a w h=>cS (!(zgb 3 x1)) h (fun hc2=>?_) (fun hc3=>?_)
  ·have hc2':=hc2;(try simp at hc2');refine Je 2 [] [15] [(4,vb false)] h fun a w h=>qV (zac (za6 (za6 (zac (za6 (rT (.c (cB false)) h rfl ?_))))));have hz:smB s xs=(false):=by unfold smB;rw [zbp (q:=zgb 3) hx1 (show (zgb 3 x1)=false from by simpa using hc2)];rfl
   rw [hz];try rfl
  have hc3':=hc3;(try simp at hc3');refine qU (za8 (za1 (Jf 2 [(0,.j1 j)] [15] [(9,vI ((j:Int)+1))] h fun a w h=>za1 (zag (x:=j) (y:=j+1) h ?_ ?_))))
  ·exact ⟨by have:=zak hx1;omega,zc0 hx1 hI2 (show (zgb 3 x1)=true from by simpa using hc3)⟩
  show xs.length - (j+1)<xs.length - j;have:=zak hx1;omega
 refine wp_exit (za9 (za9 (za5 (za1 (Jq 2 [(1,.call (SFewSys s 3 hr) ky_1)] [(4,vb (zbq 3 s))] [] h fun a w h=>qV (rT (.c (cB (zbq 3 s))) h rfl ?_))))));have hz:smB s xs=(zbq 3 s):=by unfold smB;rw [zc6 (dF hc4) hI2,Bool.true_and]
 rw [hz];try rfl
theorem SSys0 :Fn Tryz.prog 30 [] [] (vG [.d (.sl 1 ([(⟨#[120]⟩:ByteArray)].map zg4)),.d (.sl 5 ([(zaq.mk true (ZI.mk false []) (ZI.of 3))].map zaq.d)),cI 0,cPs [],cB false,.d (nsl []),cB false,cFs [],.d (.sl 3 ([(zc7.mk (⟨#[112]⟩:ByteArray) [(⟨#[97]⟩:ByteArray),(⟨#[98]⟩:ByteArray)] (.raw zad))].map zc7.d)),.d (.sl 10 [[.raw (.int .i64 0),.raw (.int .i64 0),.raw (.int .i64 1),.raw (.int .i64 0),.raw zad,.raw (.bool false),nsl [],.raw (.bool false),.raw zad,.sl 5 ([(zae.mk 0 false (zal.mk [(za3.mk 0 (ZI.of 1))] (ZI.of 1)))].map zae.d)]])]) []:=by
 refine Fn.body Tryz.func30 rfl 21 rfl fun w H B a h=>Jq 0 [] [(0,vp 0 0)] [(0,.box [.d (.raw zad),.d (.raw zad),cI 0,.d (.raw zad),cB false,.d (nsl []),cB false,.d (.raw zad),.d (.raw zad),.d (.raw zad)])] h fun a w h=>Jd 1 [(0,.call (SROf 1 ⟨by decide,by decide⟩) tc_0),(2,.g (bD 4 ([(za3.mk 0 (ZI.of 1))].map za3.d) [(3,vG ([cI 0]++zi (ZI.of 1)))] tb_9 (.cons (i:=0) (OV.tmp 3 _) (.nil)) (by kernel_rfl) (by simp [za3.d]))),(3,.call (SROf 1 ⟨by decide,by decide⟩) tc_0)] [] [(1,vp 1 0)] [(0,.box [.d (.raw zad),.d (.raw zad),cI 0,.d (.raw zad),cB false,.d (nsl []),cB false,.d (.raw zad),.d (.raw zad),.d (.raw zad)]),(1,.box ([cPs [(za3.mk 0 (ZI.of 1))]]++zi (ZI.of 1)))] h fun a w h=>Jd 2 [(0,.g (Op.buildD (d:=7) (len:=1) (rows:=[(⟨#[120]⟩:ByteArray)].map zg4) (rs:=[]) ty_16 (.cons (i:=0) (OV.const (.string (⟨#[120]⟩:ByteArray)) rfl) (.nil)) (by kernel_rfl) rfl (by simp [zg4]) (by decide) (by decide))),(1,.call (SROf 3 ⟨by decide,by decide⟩) tc_0),(3,.g (bD 10 ([(zaq.mk true (ZI.mk false []) (ZI.of 3))].map zaq.d) [(9,vG ([cB true,cB false,.d (nsl [])]++zi (ZI.of 3)))] kw_3 (.cons (i:=0) (OV.tmp 9 _) (.nil)) (by kernel_rfl) (by simp [zaq.d]))),(5,.g (Op.buildD (d:=12) (len:=2) (rows:=[(⟨#[97]⟩:ByteArray),(⟨#[98]⟩:ByteArray)].map zg4) (rs:=[]) ty_16 (.cons (i:=0) (OV.const (.string (⟨#[97]⟩:ByteArray)) rfl) (.cons (i:=1) (OV.const (.string (⟨#[98]⟩:ByteArray)) rfl) (.nil))) (by kernel_rfl) rfl (by simp [zg4]) (by decide) (by decide))),(7,.g (bD 14 ([(zc7.mk (⟨#[112]⟩:ByteArray) [(⟨#[97]⟩:ByteArray),(⟨#[98]⟩:ByteArray)] (.raw zad))].map zc7.d) [(13,vG [.d (.raw (.string (⟨#[112]⟩:ByteArray))),.d (.sl 1 ([(⟨#[97]⟩:ByteArray),(⟨#[98]⟩:ByteArray)].map zg4)),.d (.raw zad)])] kw_4 (.cons (i:=0) (OV.tmp 13 _) (.nil)) (by kernel_rfl) (by simp [zc7.d]))),(10,.g (bD 17 ([(zae.mk 0 false (zal.mk [(za3.mk 0 (ZI.of 1))] (ZI.of 1)))].map zae.d) [(16,vG ([cI 0,cB false,cPs [(za3.mk 0 (ZI.of 1))]]++zi (ZI.of 1)))] kw_5 (.cons (i:=0) (OV.tmp 16 _) (.nil)) (by kernel_rfl) (by simp [zae.d]))),(12,.g (bD 19 ([[.raw (.int .i64 0),.raw (.int .i64 0),.raw (.int .i64 1),.raw (.int .i64 0),.raw zad,.raw (.bool false),nsl [],.raw (.bool false),.raw zad,.sl 5 ([(zae.mk 0 false (zal.mk [(za3.mk 0 (ZI.of 1))] (ZI.of 1)))].map zae.d)]]) [(18,vG [cI 0,cI 0,cI 1,cI 0,.d (.raw zad),cB false,.d (nsl []),cB false,.d (.raw zad),.d (.sl 5 ([(zae.mk 0 false (zal.mk [(za3.mk 0 (ZI.of 1))] (ZI.of 1)))].map zae.d))])] kw_6 (.cons (i:=0) (OV.tmp 18 _) (.nil)) (by kernel_rfl) (by simp)))] [1] [] [(0,.box [.d (.sl 1 ([(⟨#[120]⟩:ByteArray)].map zg4)),.d (.sl 5 ([(zaq.mk true (ZI.mk false []) (ZI.of 3))].map zaq.d)),cI 0,.d (.raw zad),cB false,.d (nsl []),cB false,.d (.raw zad),.d (.sl 3 ([(zc7.mk (⟨#[112]⟩:ByteArray) [(⟨#[97]⟩:ByteArray),(⟨#[98]⟩:ByteArray)] (.raw zad))].map zc7.d)),.d (.sl 10 [[.raw (.int .i64 0),.raw (.int .i64 0),.raw (.int .i64 1),.raw (.int .i64 0),.raw zad,.raw (.bool false),nsl [],.raw (.bool false),.raw zad,.sl 5 ([(zae.mk 0 false (zal.mk [(za3.mk 0 (ZI.of 1))] (ZI.of 1)))].map zae.d)]])])] h fun a w h=>qV ?_
 replace h:=zbd 0 3 3 [.d (.sl 1 ([(⟨#[120]⟩:ByteArray)].map zg4)),.d (.sl 5 ([(zaq.mk true (ZI.mk false []) (ZI.of 3))].map zaq.d)),cI 0,.d (.raw zad),cB false,.d (nsl []),cB false,.d (.raw zad),.d (.sl 3 ([(zc7.mk (⟨#[112]⟩:ByteArray) [(⟨#[97]⟩:ByteArray),(⟨#[98]⟩:ByteArray)] (.raw zad))].map zc7.d)),.d (.sl 10 [[.raw (.int .i64 0),.raw (.int .i64 0),.raw (.int .i64 1),.raw (.int .i64 0),.raw zad,.raw (.bool false),nsl [],.raw (.bool false),.raw zad,.sl 5 ([(zae.mk 0 false (zal.mk [(za3.mk 0 (ZI.of 1))] (ZI.of 1)))].map zae.d)]])] [(0,vp 0 0)] [(0,.box [.d (.sl 1 ([(⟨#[120]⟩:ByteArray)].map zg4)),.d (.sl 5 ([(zaq.mk true (ZI.mk false []) (ZI.of 3))].map zaq.d)),cI 0,cPs [],cB false,.d (nsl []),cB false,.d (.raw zad),.d (.sl 3 ([(zc7.mk (⟨#[112]⟩:ByteArray) [(⟨#[97]⟩:ByteArray),(⟨#[98]⟩:ByteArray)] (.raw zad))].map zc7.d)),.d (.sl 10 [[.raw (.int .i64 0),.raw (.int .i64 0),.raw (.int .i64 1),.raw (.int .i64 0),.raw zad,.raw (.bool false),nsl [],.raw (.bool false),.raw zad,.sl 5 ([(zae.mk 0 false (zal.mk [(za3.mk 0 (ZI.of 1))] (ZI.of 1)))].map zae.d)]])])] h rfl rfl;replace h:=zbd 0 7 6 [.d (.sl 1 ([(⟨#[120]⟩:ByteArray)].map zg4)),.d (.sl 5 ([(zaq.mk true (ZI.mk false []) (ZI.of 3))].map zaq.d)),cI 0,cPs [],cB false,.d (nsl []),cB false,.d (.raw zad),.d (.sl 3 ([(zc7.mk (⟨#[112]⟩:ByteArray) [(⟨#[97]⟩:ByteArray),(⟨#[98]⟩:ByteArray)] (.raw zad))].map zc7.d)),.d (.sl 10 [[.raw (.int .i64 0),.raw (.int .i64 0),.raw (.int .i64 1),.raw (.int .i64 0),.raw zad,.raw (.bool false),nsl [],.raw (.bool false),.raw zad,.sl 5 ([(zae.mk 0 false (zal.mk [(za3.mk 0 (ZI.of 1))] (ZI.of 1)))].map zae.d)]])] [(0,vp 0 0)] [(0,.box [.d (.sl 1 ([(⟨#[120]⟩:ByteArray)].map zg4)),.d (.sl 5 ([(zaq.mk true (ZI.mk false []) (ZI.of 3))].map zaq.d)),cI 0,cPs [],cB false,.d (nsl []),cB false,cFs [],.d (.sl 3 ([(zc7.mk (⟨#[112]⟩:ByteArray) [(⟨#[97]⟩:ByteArray),(⟨#[98]⟩:ByteArray)] (.raw zad))].map zc7.d)),.d (.sl 10 [[.raw (.int .i64 0),.raw (.int .i64 0),.raw (.int .i64 1),.raw (.int .i64 0),.raw zad,.raw (.bool false),nsl [],.raw (.bool false),.raw zad,.sl 5 ([(zae.mk 0 false (zal.mk [(za3.mk 0 (ZI.of 1))] (ZI.of 1)))].map zae.d)]])])] h rfl rfl;refine rA 0 [.d (.sl 1 ([(⟨#[120]⟩:ByteArray)].map zg4)),.d (.sl 5 ([(zaq.mk true (ZI.mk false []) (ZI.of 3))].map zaq.d)),cI 0,cPs [],cB false,.d (nsl []),cB false,cFs [],.d (.sl 3 ([(zc7.mk (⟨#[112]⟩:ByteArray) [(⟨#[97]⟩:ByteArray),(⟨#[98]⟩:ByteArray)] (.raw zad))].map zc7.d)),.d (.sl 10 [[.raw (.int .i64 0),.raw (.int .i64 0),.raw (.int .i64 1),.raw (.int .i64 0),.raw zad,.raw (.bool false),nsl [],.raw (.bool false),.raw zad,.sl 5 ([(zae.mk 0 false (zal.mk [(za3.mk 0 (ZI.of 1))] (ZI.of 1)))].map zae.d)]])] h kw_7 rfl ?_;rfl
theorem SSys:Fn Tryz.prog 30 [] [] (vG (zaj zc8)) []:=by
 refine Fn.resw SSys0 (WkV.agg _ _ (.same _ _ _ (.same _ _ _ (.same _ _ _ (.same _ _ _ (.same _ _ _ (.same _ _ _ (.same _ _ _ (.same _ _ _ (.same _ _ _ (.d _ _ _ _ ?_ .nil)))))))))))
 refine Wk.sl _ _ _ (.cons _ _ _ _ ?_ .nil)
 refine .cons _ _ _ _ (.refl _) (.cons _ _ _ _ (.refl _) (.cons _ _ _ _ (.refl _) (.cons _ _ _ _ (.refl _) (.cons _ _ _ _ (.nil _) (.cons _ _ _ _ (.refl _) (.cons _ _ _ _ (.refl _) (.cons _ _ _ _ (.refl _) (.cons _ _ _ _ (.nil _) (.cons _ _ _ _ (.refl _) .nil)))))))))
theorem zkc (ns:List Int) (hl:ns.length<=1000) (hns:∀ z ∈ ns,-9223372036854775808<=z/\z<=9223372036854775807):Fn Tryz.prog 33 [] [(vIs ns)] (vZs (ns.map ZI.of)) []:=by
 refine Fn.body Tryz.func33 rfl 20 rfl fun w H B a h=>Jq 5 [] [(0,(vIs ns)),(2,vW zad)] [] h fun a w h=>Jd 5 [(0,.g (Op.buildE (d:=6) (n:=5) ty_5))] [] [(3,vO 5 0)] [(5,.row 28 2 ([].map ziD))] h fun a w h=>qW (Je 6 [(1,.len (za7 1 zai ns))] [0] [(7,(vIs ns)),(8,vN ns.length),(9,vI 0)] h fun a w h=>qZ ?_)
 refine zap (ι:=(Nat)) (fun j=>j<=ns.length)
   (fun j=>[(2,vW zad),(3,vO 5 ((ns.take j).map ZI.of).length),(7,(vIs ns)),(8,vN ns.length),(9,vN j)])
   (fun j=>[(5,.row 28 2 (((ns.take j).map ZI.of).map ziD))])
   (fun j=>ns.length - j) 0 ?_ h (by kernel_rfl) (by kernel_rfl) ?_
 ·exact Nat.zero_le _
 clear h;rintro j a w hI h;have lmj:((ns.take j).map ZI.of).length<=j:=by rw [List.length_map,List.length_take];omega
 refine Je 6 [] [] [(10,vb (decide ((j:Int)<(ns.length:Int))))] h fun a w h=>qW (zam ((j:Int)<(ns.length:Int)) h (fun hc1 hc1'=>?_) (fun hc2 hc2'=>?_))
 ·refine qU (za1 (qW (qZ ?_)));obtain ⟨x1,hx1⟩:=gl ns j;refine Je 6 [(0,.g (xD 11 7 tn_1 (zab hx1 (f:=zai)) (OV.tmp 9 _)))] [10] [(5,vI x1)] h fun a w h=>Jm 6 [(2,.call (SROf x1 (hns x1 (lM hx1))) tc_0),(3,.g (Op.buildO (d:=16) (n:=6) (len:=1) (rows:=[(ZI.of x1)].map ziD) (rs:=[(15,vz (ZI.of x1))]) ty_5 (.cons (i:=0) (OV.tmp 15 _) (.nil)) (by kernel_rfl) rfl (by simp [ziD]) (by decide) (by decide))),(4,.g (Op.appOO (d:=17) (t:=13) (u:=16) (n:=5) (sn:=6) (n':=7) (len:=((ns.take j).map ZI.of).length) (len2:=1) (len':=(((ns.take j).map ZI.of)++[(ZI.of x1)]).length) (rows:=((ns.take j).map ZI.of).map ziD) (rows2:=[(ZI.of x1)].map ziD) (rows':=(((ns.take j).map ZI.of)++[(ZI.of x1)]).map ziD) kk_4 (by first | exact (List.length_map _).symm | simp) (by first | exact (List.length_map _).symm | simp) (by first | (rw [List.length_append,List.length_map];done) | simp) (by simp) (by first | omega | (simp at *;done) | (simp at *;omega))))] [5] [(3,vO 7 (((ns.take j).map ZI.of)++[(ZI.of x1)]).length)] [(7,.row 28 2 ((((ns.take j).map ZI.of)++[(ZI.of x1)]).map ziD))] h fun a w h=>za8 (za1 (Jf 8 [(0,.j1 j)] [] [(9,vI ((j:Int)+1))] h fun a w h=>za1 ?_));rw [show ((((ns.take j).map ZI.of)++[(ZI.of x1)]):List ZI)=((ns.take (j+1)).map ZI.of) from (zh6 hx1)] at h;replace h:=ze3 7 5 [(2,vW zad),(3,vO 5 ((ns.take (j+1)).map ZI.of).length),(7,(vIs ns)),(8,vN ns.length),(9,vI ((j:Int)+1))] [(5,.row 28 2 (((ns.take (j+1)).map ZI.of).map ziD))] h;refine zag (x:=j) (y:=j+1) h ?_ ?_
  ·have:=zak hx1;show j+1<=ns.length;omega
  show ns.length - (j+1)<ns.length - j;have:=zak hx1;omega
 refine wp_exit (za9 (za9 (za5 (za1 (Jp 8 [] [(2,vO 5 ((ns.take j).map ZI.of).length)] h fun a w h=>qV ?_)))));rw [show (((ns.take j).map ZI.of):List ZI)=(ns.map ZI.of) from (by rw [List.take_of_length_le (by omega)])] at h;replace h:=zi0 5 2 28 ((ns.map ZI.of).map ziD) [(2,(vZs (ns.map ZI.of)))] [] h rfl (show zbw _ [(ns.map ZI.of).length] from ⟨by first | exact (List.length_map _).symm | (simp;done) | (simp;omega),trivial⟩) trivial;refine rT (.c (cZs (ns.map ZI.of))) h rfl ?_;rfl
theorem zkd (f:za0) (vs:List ZI) {M:Nat} (hM:M<=300) (hv:VOk M vs) (hf:f.okB 1000 1000):Fn Tryz.prog 32 [] [(vF f),(vZs vs)] (vb (za0.holds vs f)) []:=by
 refine Fn.body Tryz.func32 rfl 8 rfl fun w H B a h=>Jq 5 [] [(1,(vZs vs)),(2,vp 5 0),(4,vb false)] [(5,.box (zF f))] h fun a w h=>Jq 6 [(2,.call (zdk vs hM hv f hf) zhe)] [(4,vb (za0.holds vs f))] [] h fun a w h=>qV (rT (.c (cB (za0.holds vs f))) h rfl ?_)
 rfl
def Bel (m:Nat) (t:zal):Prop:=∀ v:Int,(m:Int)<=v->zan t.parts v=0
theorem plain_bel {m:Nat} {t:zal} (h:Bel m t):∀ p ∈ (za2 t).parts,0<=p.v/\p.v<(m:Int):=fun p hp=>by
 obtain ⟨_,h2,_⟩:=zb6 t
 obtain ⟨h0,_,hne⟩:=h2 p hp
 refine ⟨h0,Int.lt_of_not_ge fun hv=>hne ?_⟩
 have e:(za2 t).parts=(zc9 t.parts).map fun v=>⟨v,ZI.of (zan t.parts v)⟩:=rfl
 rw [e] at hp
 obtain ⟨v,_,rfl⟩:=List.mem_map.1 hp
 show (ZI.of (zan t.parts v)).val=0
 rw [ZI.val_of];exact h v hv
theorem valP_cong9 {vs ws:List ZI}:∀ {ps:List za3}, (∀ p ∈ ps,zdb vs p.v=zdb ws p.v)->zf2 vs ps=zf2 ws ps
 | [],_=>rfl
 | p :: ps,h=>by
  unfold zf2
  rw [h p (List.mem_cons_self ..),valP_cong9 fun q hq=>h q (List.mem_cons_of_mem _ hq)]
theorem val_bel {m:Nat} {t:zal} (h:Bel m t) {vs ws:List ZI} (hl:∀ v:Int,0<=v->v<(m:Int)->zdb vs v=zdb ws v):zcw t vs=zcw t ws:=by
 rw [<- zcd t vs,<- zcd t ws]
 unfold zcw
 rw [valP_cong9 fun p hp=>hl p.v (plain_bel h p hp).1 (plain_bel h p hp).2]
theorem bel_add {m:Nat} {s t:zal} (hs:Bel m s) (ht:Bel m t):Bel m (zjl s t):=fun v hv=>by rw [coef_add,hs v hv,ht v hv];rfl
theorem zim {m:Nat} {t:zal} (h:Bel m t) (q:ZI):Bel m (zbj t q):=fun v hv=>by rw [coef_scale,h v hv,Int.zero_mul]
theorem bel_sub {m:Nat} {s t:zal} (hs:Bel m s) (ht:Bel m t):Bel m (zk3 s t):=bel_add hs (zim ht _)
theorem bel_num (m:Nat) (k:ZI):Bel m (zcj k):=fun v _=>coef_num k v
def zhc (m:Nat) (f:za0):Prop:=f.rels fun r=>Bel m r.t
theorem holds_bel {m:Nat} {vs ws:List ZI} (hl:∀ v:Int,0<=v->v<(m:Int)->zdb vs v=zdb ws v) (f:za0):zhc m f->f.holds vs=f.holds ws:=fun h=>by
 rw [<- cl_holds vs f]
 exact each_holds (t:=id) f (za0.rels_mono (fun r hr=>by show zbf vs (cpR r)=_;rw [zkk];unfold zbf;rw [val_bel hr hl]) f h)
theorem zg1 (m:Nat) (f:za0):zhc m f ↔ (f.kind=2->Bel m f.r.t)/\∀ g ∈ cnt f.kind f.kids,zhc m g:=za0.rels_eq _ f
theorem zin (m:Nat) (b:Bool):zhc m (zd3 b):=by
 rw [zg1];exact ⟨fun e=>by cases b <;> exact absurd e (by decide),fun g hg=>absurd (zbv hg) (by show g ∉ [];exact List.not_mem_nil)⟩
theorem belF_kids {m:Nat} {k:Int} (hk:k=3\/k=4\/k=5) {fs:List za0} (h:∀ f ∈ fs,zhc m f):zhc m ⟨k,zR,fs⟩:=by
 rw [zg1];exact ⟨fun e=>by change k=2 at e;omega,fun g hg=>h g (zbv hg)⟩
theorem vars_mem {ps:List za3} {v:Int} (_h0:0<=v) (h:zan ps v≠0):v ∈ zc9 ps:=by
 refine ((zke ps ps [] List.Pairwise.nil).2 v).2 (.inr (Classical.byContradiction fun hn=>h (coefZ_far fun p hp e=>hn ⟨p,hp,e,h⟩)))
theorem insF_mem (x:Int):∀ (vs a:List Int),x ∈ vs.foldl zee a ↔ x ∈ a\/x ∈ vs
 | [],a=>by simp
 | v :: vs,a=>by
  rw [List.foldl_cons,insF_mem x vs (zee a v),insZ_eq,zkw]
  simp only [List.mem_cons]
  constructor
  ·rintro ((h | h) | h) <;> simp [h]
  ·rintro (h | h | h) <;> simp [h]
theorem insF_sr:∀ (vs a:List Int),SRi a->SRi (vs.foldl zee a)
 | [],_,h=>h
 | v :: vs,a,h=>by rw [List.foldl_cons];exact insF_sr vs _ (by rw [insZ_eq];exact insR_sr v h)
theorem varsG_mem (x:Int):∀ (gs:List za0) (a:List Int),x ∈ gs.foldl (fun a g=>(za0.vars g).foldl zee a) a ↔ x ∈ a\/∃ g ∈ gs,x ∈ g.vars
 | [],a=>by simp
 | g :: gs,a=>by
  rw [List.foldl_cons,varsG_mem x gs,insF_mem]
  constructor
  ·rintro ((h | h) | ⟨q,hq,h⟩)
   ·exact .inl h
   ·exact .inr ⟨g,List.mem_cons_self .., h⟩
   ·exact .inr ⟨q,List.mem_cons_of_mem _ hq,h⟩
  ·rintro (h | ⟨q,hq,h⟩)
   ·exact .inl (.inl h)
   ·rcases List.mem_cons.1 hq with rfl | hq
    ·exact .inl (.inr h)
    ·exact .inr ⟨q,hq,h⟩
theorem varsG_sr:∀ (gs:List za0) (a:List Int),SRi a->SRi (gs.foldl (fun a g=>(za0.vars g).foldl zee a) a)
 | [],_,h=>h
 | g :: gs,a,h=>by rw [List.foldl_cons];exact varsG_sr gs _ (insF_sr _ _ h)
theorem vars_sr (f:za0):SRi f.vars:=by
 rw [za0.vars_eq]
 split
 ·exact (zke _ _ [] List.Pairwise.nil).1
 ·exact varsG_sr _ [] List.Pairwise.nil
theorem belF_vars {m:Nat} (f:za0):(∀ v ∈ f.vars,v<(m:Int))->zhc m f :=
 za0.ind (P:=fun f=>(∀ v ∈ f.vars,v<(m:Int))->zhc m f) (fun k r ks ih h=>by
  rw [za0.vars_eq] at h
  change ∀ v ∈ (if k=2 then zc9 r.t.parts else (cnt k ks).foldl (fun a g=>(za0.vars g).foldl zee a) []),v<(m:Int) at h
  rw [zg1]
  show (k=2->Bel m r.t)/\∀ g ∈ cnt k ks,zhc m g
  refine ⟨fun e v hv=>?_,fun g hg=>ih g (zbv hg) fun v hv=>?_⟩
  ·rw [if_pos e] at h
   exact Classical.byContradiction fun hn=>by have:=h v (vars_mem (by omega) hn);omega
  ·by_cases e:k=2
   ·rw [e] at hg;cases hg
   ·rw [if_neg e] at h
    exact h v ((varsG_mem v _ []).2 (.inr ⟨g,hg,hv⟩))) f
theorem last_max {l:List Int} {v:Int} (hs:SRi l) (h:l.getLast?=some v):∀ x ∈ l,x<=v:=fun x hx=>by
 obtain ⟨ys,rfl⟩:=List.getLast?_eq_some_iff.1 h
 rcases List.mem_append.1 hx with hx | hx
 ·exact Int.le_of_lt ((List.pairwise_append.1 hs).2.2 x hx v (List.mem_singleton_self _))
 ·rw [List.mem_singleton.1 hx];exact Int.le_refl _
theorem in_bel {s:zar} {f:za0} (h:inB s f=true):zhc s.vars.length f:=by
 refine belF_vars f fun v hv=>?_
 unfold inB at h
 cases e:f.vars.getLast? with
 | none=>rw [List.getLast?_eq_none_iff.1 e] at hv;cases hv
 | some u =>
  rw [e] at h
  have h:=of_decide_eq_true h
  have:=last_max (vars_sr f) e v hv
  omega
/-- a system's own variables alone -/
structure ProS (s:zar):Prop where
  init:zhc s.vars.length s.init
  act:∀ c ∈ s.acts,zhc s.vars.length c.guard/\∀ m ∈ c.moves,Bel s.vars.length m.t
theorem atom_bel {m:Nat} {r:zay} (h:zhc m (zdn r)):Bel m r.t:=fun v hv=>by
 have:=((zg1 _ _).1 h).1 rfl v hv
 change zan (za2 r.t).parts v=0 at this
 rwa [zfq] at this
theorem pro_of {s:zar} (h:proB s=true):ProS s:=by
 unfold proB at h
 rw [Bool.and_eq_true,List.all_eq_true] at h
 refine ⟨in_bel h.1,fun c hc=>?_⟩
 have:=h.2 c hc
 rw [Bool.and_eq_true,List.all_eq_true] at this
 exact ⟨in_bel this.1,fun m hm=>atom_bel (in_bel (this.2 m hm))⟩
def wB (b:zaq) (z:Int):Bool:=!b.is_ || (decide (b.lo.val<=z) && decide (z<=b.hi.val))
theorem within_w (b:zaq) (n:ZI):zbl b n=wB b n.val:=by unfold zbl wB;rw [cmpZ_le,cmpZ_le]
theorem ge_holds (vs:List ZI) (l r:zal):(geF l r).holds vs=decide (zcw r vs<=zcw l vs):=by
 unfold geF leaR;rw [atom_holds,zfh rfl,zcd,val_sub];exact decide_eq_decide.2 (by omega)
theorem le_holds (vs:List ZI) (l r:zal):(leF l r).holds vs=decide (zcw l vs<=zcw r vs):=by
 unfold leF leaR;rw [atom_holds,zfh rfl,zcd,val_sub];exact decide_eq_decide.2 (by omega)
theorem bnd_holds (s:zar) (v:Nat) (t:zal) (vs:List ZI):(zka s v t).all (za0.holds vs)=wB (zbh s v) (zcw t vs):=by
 unfold zka wB
 split
 ·rename_i e
  rw [e,List.all_cons,List.all_cons,List.all_nil,ge_holds,le_holds,zi2,zi2,Bool.and_true];rfl
 ·rename_i e
  rw [show (zbh s v).is_=false by simpa using e];rfl
theorem all_flat {F:Nat->List za0} {p:za0->Bool} (n:Nat):((List.range n).flatMap F).all p=zha n fun v=>(F v).all p:=by
 induction n with
 | zero=>rfl
 | succ n ih=>rw [zc1,List.all_append,ih];rfl
theorem vals_at {x:StD} {v:Nat}:zdb x.vals (v:Int)=((x.vals[v]?).getD ze6).val:=by
 unfold zdb
 rw [if_pos (by omega),Int.toNat_natCast]
 cases x.vals[v]? <;> rfl
theorem val_mv {c:zaw} {v:Nat} {m:zae} (h:zj4 c v=some m):m ∈ c.moves:=by unfold zj4 at h;exact List.mem_of_find?_eq_some h
theorem zi4 (c:zaw) (v:Nat):(zbs c v).2=!zb1 c v:=by
 unfold zbs zb1
 cases zj4 c v with
 | none=>rfl
 | some m=>show (if m.any=true then _ else _:zal × Bool).2=!m.any;cases m.any <;> rfl
theorem valA_new {x:StD} {c:zaw} {v:Nat} (hf:zb1 c v=false):zcw (zbs c v).1 x.vals=(zgh x c v).val:=by
 unfold zb1 at hf
 unfold zbs zgh
 cases e:zj4 c v with
 | none=>show zcw (zej (v:Int)) x.vals=(ZI.of ((x.vals[v]?).getD ze6).val).val;rw [valT_var,vals_at,ZI.val_of]
 | some m =>
  rw [e] at hf
  show zcw (if m.any=true then _ else _:zal × Bool).1 x.vals=(if m.any=true then ze6 else ZI.of (zcw m.t x.vals)).val
  rw [show m.any=false from hf,if_neg Bool.noConfusion,if_neg Bool.noConfusion,ZI.val_of,zcd]
theorem canS_holds (s:zar) (x:StD) (c:zaw) (v:Nat):(zf1 s c v).all (za0.holds x.vals)=canAt s x c v:=by
 unfold zf1 canAt
 rw [zi4]
 cases hf:zb1 c v with
 | true =>
  rw [if_neg (by simp),if_pos rfl]
  cases e:(zbh s v).is_ with
  | true=>rw [if_pos rfl,List.all_cons,List.all_nil,le_holds,zi2,zi2,Bool.and_true,Bool.true_and,cmpZ_gt,<- decide_not];exact decide_eq_decide.2 (by omega)
  | false=>rw [if_neg Bool.noConfusion];rfl
 | false=>rw [Bool.not_false,if_pos rfl,if_neg Bool.noConfusion,bnd_holds,within_w,valA_new hf]
theorem canF_holds (s:zar) (x:StD) (c:zaw):(ziu s c).holds x.vals=(c.guard.holds x.vals && zha s.vars.length (canAt s x c)):=by
 unfold ziu canL
 rw [zgr,List.all_cons,all_flat]
 congr 1
 exact zh9 fun v _=>canS_holds s x c v
theorem enabled_beg {s:zar} {x:StD} {i:Int} {c:zaw} (hf:zdm s x=true) (hi:zcs s i=some c):zao s x c=((zaf s x.locs i).2 && c.guard.holds x.vals):=by
 have hc:(zaa s i).1=c:=by unfold zaa;rw [hi]
 have hb:(zaa s i).2=zh0 s c:=by unfold zaa;rw [hi]
 show zao s x c=(((zaa s i).2 && begB s x.locs (zaa s i).1) && c.guard.holds x.vals)
 rw [hc,hb]
 unfold zao begB zh0
 rw [hf,Bool.true_and]
 have hl:=ze4 hf
 rw [decide_eq_true hl.1,Bool.true_and]
 by_cases hp:0<=c.proc/\c.proc<(s.procs.length:Int)
 ·rw [decide_eq_true hp]
  cases e:((x.locs[c.proc.toNat]?).getD 0 == c.from_) with
  | false=>simp
  | true =>
   have e':(x.locs[c.proc.toNat]?).getD 0=c.from_:=by simpa using e
   have hloc:zk8 s x c.proc.toNat=true:=by
    unfold zdm at hf
    rw [Bool.and_eq_true,Bool.and_eq_true] at hf
    exact ze5.1 hf.2.1 _ (by omega)
   unfold zk8 at hloc
   rw [e'] at hloc
   rw [hloc]
   simp [Bool.and_assoc,Bool.and_comm,Bool.and_left_comm]
 ·rw [decide_eq_false hp];simp
theorem beg_none {s:zar} {locs:List Int} {i:Int} (hi:zcs s i=none):(zaf s locs i).2=false:=by
 show ((zaa s i).2 && _)=false;unfold zaa;rw [hi];rfl
def zhd (s:zar) (locs:List Int) (act:Int) (k:Nat):za0:=if act=-1 then atF s (zhn (zg9 s (ze2 s locs) (zaf s locs (-1)).1)) k else if (zaf s locs act).2=true then atF s (zhn (zg9 s (zaf s locs act).1.guard (zaf s locs act).1++[atF s (zdp s) 1])) k else zd3 false
def canK (s:zar) (act:Int) (k:Nat):za0:=if (zaa s act).2=true then atF s (ziu s (zaa s act).1) k else zd3 false
def za0.fk (f:za0):Prop:=f.fold fun k r ks hs=>((k=4\/k=5\/ks=[])/\(k=2->cpR r=r))/\∀ h ∈ hs,h
theorem za0.fk_eq (f:za0):f.fk ↔ ((f.kind=4\/f.kind=5\/f.kids=[])/\(f.kind=2->cpR f.r=f.r))/\∀ g ∈ f.kids,g.fk:=by
 have:=za0.fold_eq (fun k r ks (hs:List Prop)=>((k=4\/k=5\/ks=[])/\(k=2->cpR r=r))/\∀ h ∈ hs,h) f
 unfold za0.fk
 rw [this]
 refine and_congr_right fun _=>⟨fun h g hg=>h _ (List.mem_map.2 ⟨g,hg,rfl⟩),fun h p hp=>?_⟩
 obtain ⟨g,hg,rfl⟩:=List.mem_map.1 hp
 exact h g hg
theorem fk_tru (b:Bool):(zd3 b).fk:=by rw [za0.fk_eq];exact ⟨⟨.inr (.inr rfl),fun e=>by cases b <;> exact absurd e (by decide)⟩,fun g hg=>by cases hg⟩
theorem tight_cp (r:zay):cpR (zb2 r).1=(zb2 r).1:=by
 unfold zb2
 split
 ·rfl
 ·split
  ·rfl
  ·unfold cpR
   show (⟨za2 (if _ then neg1 (zdc r.t) else zdc r.t),r.eq⟩:zay)=_
   split
   ·show (⟨za2 (neg1 (zdc r.t)),r.eq⟩:zay)=_
    unfold neg1 zbj;rw [zcg]
   ·rw [shr_plain]
theorem fk_tight (r:zay):(zav r).fk:=by
 unfold zav;split
 ·rw [za0.fk_eq];exact ⟨⟨.inr (.inr rfl),fun _=>tight_cp r⟩,fun g hg=>by cases hg⟩
 ·exact fk_tru _
theorem zgm {k:Int} (hk:k=4\/k=5):∀ (fs out:List za0),(∀ g ∈ out,g.fk)->(∀ g ∈ fs,g.fk)->(zbn k fs out).fk
 | [],out,h,_=>by
  unfold zbn
  match out with
  | []=>exact fk_tru _
  | [g]=>exact h g (List.mem_cons_self ..)
  | g :: q :: l=>rw [za0.fk_eq];exact ⟨⟨by rcases hk with hk | hk;exact .inl hk;exact .inr (.inl hk),fun e=>by exfalso;change k=2 at e;omega⟩,h⟩
 | f :: fs,out,h,h2=>by
  rw [zbn]
  have hf:=h2 f (List.mem_cons_self ..)
  have hfs:∀ g ∈ fs,g.fk:=fun g hg=>h2 g (List.mem_cons_of_mem _ hg)
  split
  ·exact hf
  ·split
   ·exact zgm hk fs out h hfs
   ·split
    ·exact zgm hk fs _ (fun g hg=>(List.mem_append.1 hg).elim (h g) fun hg=>((za0.fk_eq _).1 hf).2 g hg) hfs
    ·exact zgm hk fs _ (fun g hg=>(List.mem_append.1 hg).elim (h g) fun hg=>by rw [List.mem_singleton.1 hg];exact hf) hfs
theorem flat_fk (f:za0):∀ d,(f.flat d).fk :=
 za0.ind (P:=fun f=>∀ d,(f.flat d).fk) (fun k r ks ih d=>by
  rw [za0.flat_eq]
  show (zgk k r (ks.map za0.flat) d).fk
  unfold zgk
  split
  ·exact fk_tru _
  ·split
   ·split
    ·refine zgm (.inr rfl) _ [] (fun g hg=>by cases hg) fun g hg=>?_
     obtain ⟨q,hq,rfl⟩:=List.mem_map.1 hg
     exact fk_tight q
    ·exact fk_tight r
   ·split
    ·cases ks with
     | nil=>exact fk_tru _
     | cons g gs=>exact ih g (List.mem_cons_self ..) (!d)
    ·split
     ·rename_i h4
      refine zgm (by cases d <;> simp <;> omega) _ [] (fun g hg=>by cases hg) fun g hg=>?_
      rw [List.map_map] at hg
      obtain ⟨q,hq,rfl⟩:=List.mem_map.1 hg
      exact ih q hq d
     ·exact fk_tru _) f
theorem putZ_val (vs:List Int) (bys:List zal) (ws:List ZI):∀ (ps:List za3) (o:zal),zcw (ps.foldl (zca vs bys) o) ws=zcw o ws+(ps.map fun p=>p.c.val*zcw (pickT vs bys p.v) ws).sum
 | [],o=>by simp
 | p :: ps,o=>by
  rw [List.foldl_cons,putZ_val vs bys ws ps,List.map_cons,List.sum_cons]
  unfold zca
  rw [val_add,val_scale,Int.mul_comm,Int.add_assoc]
theorem valP_sum9 (F:Int->Int) (ws:List ZI):∀ ps:List za3,(∀ p ∈ ps,F p.v=zdb ws p.v)->(ps.map fun p=>p.c.val*F p.v).sum=zf2 ws ps
 | [],_=>rfl
 | p :: ps,h=>by
  unfold zf2
  rw [List.map_cons,List.sum_cons,h p (List.mem_cons_self ..),valP_sum9 F ws ps fun q hq=>h q (List.mem_cons_of_mem _ hq)]
theorem put_val9 {t:zal} {vs:List Int} {bys:List zal} {us ws:List ZI} (h:∀ v:Int,0<=v->zan t.parts v≠0->zcw (pickT vs bys v) us=zdb ws v):zcw (putZ t vs bys) us=zcw t ws:=by
 unfold putZ
 rw [putZ_val vs bys us,zi2,valP_sum9 (fun v=>zcw (pickT vs bys v) us) ws,<- zcd t ws]
 ·unfold zcw;rw [show (za2 t).k.val=t.k.val from ZI.val_of _]
 ·intro p hp
  obtain ⟨_,h2,_⟩:=zb6 t
  obtain ⟨h0,_,hne⟩:=h2 p hp
  refine h p.v h0 fun e=>hne ?_
  have e2:(za2 t).parts=(zc9 t.parts).map fun v=>⟨v,ZI.of (zan t.parts v)⟩:=rfl
  rw [e2] at hp
  obtain ⟨v,_,rfl⟩:=List.mem_map.1 hp
  show (ZI.of (zan t.parts v)).val=0
  rw [ZI.val_of];exact e
theorem idxI_app {v:Int}:∀ (xs ys:List Int) (n:Nat),(v ∉ xs->zhf v (xs++ys) n=zhf v ys (n+xs.length))
 | [],ys,n,_=>by simp
 | x :: xs,ys,n,h=>by
  rw [List.cons_append,show zhf v (x :: (xs++ys)) n=if v=x then (n:Int) else zhf v (xs++ys) (n+1) from rfl,if_neg (fun e=>h (by rw [e];exact List.mem_cons_self ..)),idxI_app xs ys (n+1) (fun h2=>h (List.mem_cons_of_mem _ h2)),List.length_cons,show n+(xs.length+1)=n+1+xs.length by omega]
theorem preV_mem {c:zaw} {n:Nat} {v:Int} (h:v ∈ zd5 c n):∃ u:Nat,v=(u:Int)/\u<n/\(zbs c u).2=true:=by
 unfold zd5 at h
 obtain ⟨u,hu,hx⟩:=List.mem_flatMap.1 h
 split at hx
 ·rename_i e;exact ⟨u,List.mem_singleton.1 hx,List.mem_range.1 hu,e⟩
 ·cases hx
theorem preN_mem {c:zaw} {n:Nat} {v:Nat}:((v:Int) ∈ zdq c n) ↔ (v<n/\(zbs c v).2=false):=by
 unfold zdq
 rw [List.mem_flatMap]
 constructor
 ·rintro ⟨u,hu,hx⟩
  split at hx
  ·cases hx
  ·rename_i e
   have:v=u:=by have:=List.mem_singleton.1 hx;omega
   subst this
   exact ⟨List.mem_range.1 hu,by simpa using e⟩
 ·rintro ⟨h1,h2⟩
  exact ⟨v,List.mem_range.2 h1,by rw [h2];simp⟩
theorem pre_lens (c:zaw):∀ n,(zd5 c n).length=(zdl c n).length
 | 0=>rfl
 | n+1=>by
  rw [(zg5 c n).1,(zg5 c n).2.1,List.length_append,List.length_append,pre_lens c n]
  split <;> rfl
theorem pick_known {c:zaw} {v:Nat} (hk:(zbs c v).2=true):∀ n,v<n->pickT (zd5 c n) (zdl c n) (v:Int)=(zbs c v).1
 | 0,h=>absurd h (Nat.not_lt_zero _)
 | n+1,h=>by
  by_cases e:v=n
  ·subst e
   have hn:(v:Int) ∉ zd5 c v:=fun hm=>by obtain ⟨u,h1,h2,_⟩:=preV_mem hm;omega
   have h1:zhf (v:Int) (zd5 c (v+1)) 0=((zd5 c v).length:Int):=by
    rw [(zg5 c v).1,if_pos hk,idxI_app _ _ _ hn]
    unfold zhf
    rw [if_pos rfl];simp
   refine zkn h1 ?_
   rw [(zg5 c v).2.1,if_pos hk,pre_lens,List.getElem?_append_right (Nat.le_refl _),Nat.sub_self];rfl
  ·have ih:=pick_known hk n (by omega)
   have hm:∀ (m:Nat),v<m->(v:Int) ∈ zd5 c m:=fun m hm=>by
    unfold zd5;exact List.mem_flatMap.2 ⟨v,List.mem_range.2 hm,by rw [if_pos hk];exact List.mem_singleton_self _⟩
   have key:∀ (xs ys:List Int) (k:Nat),(v:Int) ∈ xs->zhf (v:Int) (xs++ys) k=zhf (v:Int) xs k/\(k:Int)<=zhf (v:Int) xs k/\zhf (v:Int) xs k<((k+xs.length:Nat):Int):=fun xs=>by
    induction xs with
    | nil=>intro ys k h;cases h
    | cons x xs ihx =>
     intro ys k h
     rw [List.cons_append]
     unfold zhf
     by_cases e:(v:Int)=x
     ·rw [if_pos e,if_pos e];exact ⟨rfl,by omega,by rw [List.length_cons];omega⟩
     ·rw [if_neg e,if_neg e]
      have:=ihx ys (k+1) ((List.mem_cons.1 h).resolve_left e)
      exact ⟨this.1,by omega,by rw [List.length_cons];omega⟩
   obtain ⟨k1,k2,k3⟩:=key (zd5 c n) (if (zbs c n).2=true then [(n:Int)] else []) 0 (hm n (by omega))
   obtain ⟨i,hi⟩:∃ i:Nat,zhf (v:Int) (zd5 c n) 0=(i:Int):=⟨_,(Int.toNat_of_nonneg (by omega)).symm⟩
   have hil:i<(zdl c n).length:=by rw [<- pre_lens];omega
   have h2:pickT (zd5 c n) (zdl c n) (v:Int)=(zdl c n)[i]:=zkn hi (List.getElem?_eq_getElem hil)
   rw [<- ih,h2]
   refine zkn (by rw [(zg5 c n).1,k1];exact hi) ?_
   rw [(zg5 c n).2.1,List.getElem?_append_left hil,List.getElem?_eq_getElem hil]
theorem tight_bel {m:Nat} {r:zay} (h:Bel m r.t):Bel m (zb2 r).1.t:=by
 have hs:Bel m (zdc r.t):=fun v hv=>by
  unfold zdc
  split
  ·rw [zfq];exact h v hv
  ·refine coefZ_far fun p hp e=>?_
   obtain ⟨q,hq,rfl⟩:=List.mem_map.1 hp
   have:=(plain_bel h q hq).2
   change q.v=v at e;omega
 unfold zb2
 split
 ·exact fun v _=>rfl
 ·split
  ·exact fun v _=>rfl
  ·show Bel m (if _ then neg1 (zdc r.t) else zdc r.t)
   split
   ·exact zim hs _
   ·exact hs
theorem belF_atomR {m:Nat} {r:zay} {ks:List za0} (h:Bel m r.t):zhc m ⟨2,r,ks⟩:=by
 rw [zg1];exact ⟨fun _=>h,fun g hg=>by cases hg⟩
theorem belF_tight {m:Nat} {r:zay} (h:Bel m r.t):zhc m (zav r):=by
 unfold zav;split
 ·exact belF_atomR (tight_bel h)
 ·exact zin _ _
theorem deny_bel {m:Nat} {r:zay} (h:Bel m r.t):∀ q ∈ zb8 r,Bel m q.t:=fun q hq=>by
 have hl:∀ t:zal,Bel m t->Bel m (lowR t).t:=fun t ht=>bel_sub (zim ht _) (bel_num _ _)
 unfold zb8 at hq
 split at hq
 ·rcases List.mem_cons.1 hq with rfl | hq
  ·exact hl _ (zim h _)
  ·rw [List.mem_singleton.1 hq];exact hl _ h
 ·rw [List.mem_singleton.1 hq];exact hl _ h
theorem zez {m:Nat} {k:Int} (hk:k=4\/k=5):∀ (fs out:List za0),(∀ g ∈ out,zhc m g)->(∀ g ∈ fs,zhc m g/\g.fl)->zhc m (zbn k fs out)
 | [],out,h,_=>by
  unfold zbn
  match out with
  | []=>exact zin _ _
  | [g]=>exact h g (List.mem_cons_self ..)
  | g :: q :: l=>exact belF_kids (.inr hk) h
 | f :: fs,out,h,h2=>by
  rw [zbn]
  have hf:=h2 f (List.mem_cons_self ..)
  have hfs:∀ g ∈ fs,zhc m g/\g.fl:=fun g hg=>h2 g (List.mem_cons_of_mem _ hg)
  split
  ·exact hf.1
  ·split
   ·exact zez hk fs out h hfs
   ·split
    ·rename_i e
     exact zez hk fs _ (fun g hg=>(List.mem_append.1 hg).elim (h g) fun hg=>((zg1 _ _).1 hf.1).2 g (by unfold cnt;rw [if_pos (by omega)];exact hg)) hfs
    ·exact zez hk fs _ (fun g hg=>(List.mem_append.1 hg).elim (h g) fun hg=>by rw [List.mem_singleton.1 hg];exact hf.1) hfs
theorem belF_flat {m:Nat} (f:za0):zhc m f->∀ d,zhc m (f.flat d) :=
 za0.ind (P:=fun f=>zhc m f->∀ d,zhc m (f.flat d)) (fun k r ks ih hf d=>by
  obtain ⟨h1,h3⟩:=(zg1 _ _).1 hf
  change k=2->_ at h1
  change ∀ g ∈ cnt k ks,_ at h3
  rw [za0.flat_eq]
  show zhc m (zgk k r (ks.map za0.flat) d)
  unfold zgk
  split
  ·exact zin _ _
  ·split
   ·rename_i e
    split
    ·refine zez (.inr rfl) _ [] (fun g hg=>by cases hg) fun g hg=>?_
     obtain ⟨q,hq,rfl⟩:=List.mem_map.1 hg
     exact ⟨belF_tight (deny_bel (h1 e) q hq),fl_tight q⟩
    ·exact belF_tight (h1 e)
   ·split
    ·rename_i e
     subst e
     cases ks with
     | nil=>exact zin _ _
     | cons g gs=>exact ih g (List.mem_cons_self ..) (h3 g (List.mem_cons_self ..)) (!d)
    ·split
     ·rename_i h4
      have hc:cnt k ks=ks:=by unfold cnt;rw [if_pos h4]
      rw [hc] at h3
      refine zez (by cases d <;> simp <;> omega) _ [] (fun g hg=>by cases hg) fun g hg=>?_
      rw [List.map_map] at hg
      obtain ⟨q,hq,rfl⟩:=List.mem_map.1 hg
      exact ⟨ih q hq (h3 q hq) d,flat_fl q d⟩
     ·exact zin _ _) f
theorem all_mem9 {α:Type} {p q:α->Bool}:∀ {l:List α}, (∀ x ∈ l,p x=q x)->l.all p=l.all q
 | [],_=>rfl
 | x :: l,h=>by rw [List.all_cons,List.all_cons,h x (List.mem_cons_self ..),all_mem9 fun y hy=>h y (List.mem_cons_of_mem _ hy)]
theorem any_mem9 {α:Type} {p q:α->Bool}:∀ {l:List α}, (∀ x ∈ l,p x=q x)->l.any p=l.any q
 | [],_=>rfl
 | x :: l,h=>by rw [List.any_cons,List.any_cons,h x (List.mem_cons_self ..),any_mem9 fun y hy=>h y (List.mem_cons_of_mem _ hy)]
theorem forg_holds {m:Nat} {xs:List Int} {us ws:List ZI} {tr:zay->zay} (h:∀ r,Bel m r.t->xs.any (hasV r.t)=false->zbf us (tr (cpR r))=zbf ws r) (f:za0):f.fl->f.fk->zhc m f->f.holds ws=true->((f.forg xs).each tr).holds us=true :=
 za0.ind (P:=fun f=>f.fl->f.fk->zhc m f->f.holds ws=true->((f.forg xs).each tr).holds us=true) (fun k r ks ih hfl hfk hb hh=>by
  obtain ⟨hk,hks⟩:=(za0.fl_eq _).1 hfl
  obtain ⟨⟨hkk,_⟩,hfks⟩:=(za0.fk_eq _).1 hfk
  obtain ⟨b1,b2⟩:=(zg1 _ _).1 hb
  change k=0\/k=1\/k=2\/k=4\/k=5 at hk
  change k=4\/k=5\/ks=[] at hkk
  change k=2->Bel m r.t at b1
  change ∀ g ∈ cnt k ks,zhc m g at b2
  rw [za0.holds_eq] at hh
  change (if k=0 then true else if k=2 then zbf ws r else if k=3 then _ else if k=4 then ks.all (za0.holds ws) else if k=5 then ks.any (za0.holds ws) else false)=true at hh
  by_cases e2:k=2
  ·rw [if_neg (by omega),if_pos e2] at hh
   cases hx:xs.any (hasV r.t) with
   | true=>rw [forg_t (f:=⟨k,r,ks⟩) e2 hx,(each_nil tr).1];exact zc2 us true
   | false =>
    rw [forg_f (f:=⟨k,r,ks⟩) e2 hx,zij tr (f:=⟨k,r,ks⟩) e2,za0.holds_eq]
    show (if (2:Int)=0 then true else if (2:Int)=2 then zbf us (tr (cpR r)) else _)=true
    rw [if_neg (by decide),if_pos rfl,h r (b1 e2) hx];exact hh
  ·rw [forg_k (f:=⟨k,r,ks⟩) e2]
   show (za0.each tr ⟨k,zR,ks.map (za0.forg xs)⟩).holds us=true
   by_cases e0:k=0
   ·rw [each_0 tr (f:=⟨k,zR,_⟩) e0];exact zc2 us true
   ·rw [if_neg e0,if_neg e2] at hh
    by_cases e1:k=1
    ·subst e1;rw [if_neg (show ¬ (1:Int)=3 by decide),if_neg (show ¬ (1:Int)=4 by decide),if_neg (show ¬ (1:Int)=5 by decide)] at hh;cases hh
    ·have h45:k=4\/k=5:=by omega
     rw [if_neg (by omega)] at hh
     have hc:cnt k ks=ks:=by unfold cnt;rw [if_pos h45]
     rw [hc] at b2
     have e:za0.each tr ⟨k,zR,ks.map (za0.forg xs)⟩=⟨k,zR,ks.map fun g=>(g.forg xs).each tr⟩:=by
      rw [za0.each_eq,zd9 _ _ _ (by show k=3\/k=4\/k=5;omega)]
      show (⟨k,zR,cnt k ((ks.map (za0.forg xs)).map (za0.each tr))⟩:za0)=_
      rw [List.map_map,show cnt k (ks.map (za0.each tr ∘ za0.forg xs))=ks.map (za0.each tr ∘ za0.forg xs) from by unfold cnt;rw [if_pos h45]];rfl
     rw [e,ze8 us zR _ (by omega),if_neg (show ¬ k=3 by omega)]
     rcases h45 with e4 | e5
     ·rw [if_pos e4] at hh ⊢
      rw [List.all_eq_true] at hh ⊢
      intro g hg
      obtain ⟨q,hq,rfl⟩:=List.mem_map.1 hg
      exact ih q hq (hks q hq) (hfks q hq) (b2 q hq) (hh q hq)
     ·rw [if_neg (show ¬ k=4 by omega),if_pos e5] at hh
      rw [if_neg (show ¬ k=4 by omega)]
      rw [List.any_eq_true] at hh ⊢
      obtain ⟨q,hq,hq2⟩:=hh
      exact ⟨_,List.mem_map.2 ⟨q,hq,rfl⟩,ih q hq (hks q hq) (hfks q hq) (b2 q hq) hq2⟩) f
theorem forg_all {m:Nat} {us ws:List ZI} {tr:zay->zay} (h:∀ r,Bel m r.t->zbf us (tr (cpR r))=zbf ws r) (f:za0):f.fl->f.fk->zhc m f->((f.forg []).each tr).holds us=f.holds ws :=
 za0.ind (P:=fun f=>f.fl->f.fk->zhc m f->((f.forg []).each tr).holds us=f.holds ws) (fun k r ks ih hfl hfk hb=>by
  obtain ⟨hk,hks⟩:=(za0.fl_eq _).1 hfl
  obtain ⟨⟨hkk,_⟩,hfks⟩:=(za0.fk_eq _).1 hfk
  obtain ⟨b1,b2⟩:=(zg1 _ _).1 hb
  change k=0\/k=1\/k=2\/k=4\/k=5 at hk
  change k=2->Bel m r.t at b1
  change ∀ g ∈ cnt k ks,zhc m g at b2
  rw [za0.holds_eq ws ⟨k,r,ks⟩]
  show _=(if k=0 then true else if k=2 then zbf ws r else if k=3 then _ else if k=4 then ks.all (za0.holds ws) else if k=5 then ks.any (za0.holds ws) else false)
  by_cases e2:k=2
  ·rw [forg_f (f:=⟨k,r,ks⟩) e2 rfl,zij tr (f:=⟨k,r,ks⟩) e2,za0.holds_eq,if_neg (show ¬ k=0 by omega),if_pos e2]
   exact h r (b1 e2)
  ·rw [forg_k (f:=⟨k,r,ks⟩) e2]
   show (za0.each tr ⟨k,zR,ks.map (za0.forg [])⟩).holds us=_
   by_cases e0:k=0
   ·rw [each_0 tr (f:=⟨k,zR,_⟩) e0,if_pos e0];exact zc2 us true
   ·rw [if_neg e0,if_neg e2]
    by_cases e1:k=1
    ·subst e1
     rw [each_x tr (f:=⟨1,zR,_⟩) (by show ¬ ((1:Int)=3\/(1:Int)=4\/(1:Int)=5);decide) (by show (1:Int)≠2;decide) (by show (1:Int)≠0;decide)]
     exact zc2 us false
    ·have h45:k=4\/k=5:=by omega
     have hc:cnt k ks=ks:=by unfold cnt;rw [if_pos h45]
     rw [hc] at b2
     have e:za0.each tr ⟨k,zR,ks.map (za0.forg [])⟩=⟨k,zR,ks.map fun g=>(g.forg []).each tr⟩:=by
      rw [za0.each_eq,zd9 _ _ _ (by show k=3\/k=4\/k=5;omega)]
      show (⟨k,zR,cnt k ((ks.map (za0.forg [])).map (za0.each tr))⟩:za0)=_
      rw [List.map_map,show cnt k (ks.map (za0.each tr ∘ za0.forg []))=ks.map (za0.each tr ∘ za0.forg []) from by unfold cnt;rw [if_pos h45]];rfl
     rw [e,ze8 us zR _ (by omega),if_neg (show ¬ k=3 by omega),if_neg (show ¬ k=3 by omega)]
     have ha:(ks.map fun g=>(g.forg []).each tr).all (za0.holds us)=ks.all (za0.holds ws):=by
      rw [List.all_map]
      refine all_mem9 fun g hg=>?_
      exact ih g hg (hks g hg) (hfks g hg) (b2 g hg)
     have hy:(ks.map fun g=>(g.forg []).each tr).any (za0.holds us)=ks.any (za0.holds ws):=by
      rw [List.any_map]
      refine any_mem9 fun g hg=>?_
      exact ih g hg (hks g hg) (hfks g hg) (b2 g hg)
     rw [ha,hy]
     rcases h45 with e4 | e5
     ·rw [if_pos e4,if_pos e4]
     ·rw [if_neg (show ¬ k=4 by omega),if_neg (show ¬ k=4 by omega),if_pos e5]) f
theorem mg6_10:za4 Tryz.prog 44:=za4.mk' (by kernel_rfl)
theorem mg6_13:za4 Tryz.prog 17:=za4.mk' (by kernel_rfl)
theorem Lsame (s:zar) (v:Nat) (t:zal) (hs:zb9 3 s) (hv:v<=1000) (ht:TOk 20 20 t):Fn Tryz.prog 44 [] [vG (zaj s),vN v,(vT t)] (vF (samF s v t)) []:=by
 have lvs:=hs.vars;refine Fn.body Tryz.func44 rfl 17 rfl fun w H B a h=>Jq 0 [] [(1,vN v),(3,vp 0 0),(5,vp 1 0),(6,vp 2 0)] [(0,.box (zaj s)),(1,.box (zT t)),(2,.box zF0)] h fun a w h=>Jq 3 [(3,.len (za7 1 zg4 s.vars)),(4,.add .i64 (m:=(v:Int)) (n:=(s.vars.length:Int)) i6),(5,.call (Lvariable (v+s.vars.length)) mb1_11),(7,.call (STSub (zej ((v+s.vars.length:Nat):Int)) t ((zho _).mono (by decide) (by decide)) (ht.mono (by decide) (by decide))) to_9),(8,.call (LZero (zk3 (zej ((v+s.vars.length:Nat):Int)) t) ((sub_tok (n:=1) (m:=20) (L:=20) (zho _) ht (by decide)).mono (by decide) (by decide))) hc_14),(9,.call (LOf (zroR (zk3 (zej ((v+s.vars.length:Nat):Int)) t)) (((sub_tok (n:=1) (m:=20) (L:=20) (zho _) ht (by decide)).plain (by decide)).mono (by decide) (by decide))) la_9)] [(6,vp 2 0)] [(2,.box (zF (zdn (zroR (zk3 (zej ((v+s.vars.length:Nat):Int)) t)))))] h fun a w h=>qV (rA 2 (zF (zdn (zroR (zk3 (zej ((v+s.vars.length:Nat):Int)) t)))) h zct rfl ?_)
 rfl
theorem LStepM (s:zar) (locs:List Int) (k:Nat) (hs:zb9 3 s) (hw:SysW s) (hl:locs.length<=9223372036854775807) (hk:k<=4096):Fn Tryz.prog 13 [] [vG (zaj s),(vIs locs),vI (-1),vN k] (vF (atF s (zhn (zg9 s (ze2 s locs) (zaf s locs (-1)).1)) k)) []:=by
 have lvs:=hs.vars;have hsl:∀ g ∈ (zg9 s (ze2 s locs) (zaf s locs (-1)).1),g.okB 40 60:=stpL_ok (za0.okB_mono (by decide) (by decide) _ (stkF_ok hs hw locs)) (zbr hs _);have hslen:=stpL_len s (ze2 s locs) (zaf s locs (-1)).1;refine Fn.body Tryz.func13 rfl 74 rfl fun w H B a h=>Jq 5 [] [(1,(vIs locs)),(2,vI (-1)),(3,vN k),(4,vp 5 0),(8,vp 6 0)] [(5,.box (zaj s)),(6,.box zF0)] h fun a w h=>Jd 7 [(0,.g (Op.buildE (d:=15) (n:=7) zkt))] [] [(9,vO 7 0)] [(5,.box (zaj s)),(6,.box zF0),(7,.row 35 6 ([].map za0.d))] h fun a w h=>Jd 8 [(3,.call (Lbegins s locs (-1) hs hl) md3_12)] [] [(10,vp 8 0),(11,vb (zaf s locs (-1)).2)] [(5,.box (zaj s)),(6,.box zF0),(7,.row 35 6 ([].map za0.d)),(8,.box ([cI (zaf s locs (-1)).1.proc,cI (zaf s locs (-1)).1.from_,cI (zaf s locs (-1)).1.to_,cI (zaf s locs (-1)).1.guard.kind,cPs (zaf s locs (-1)).1.guard.r.t.parts]++zi (zaf s locs (-1)).1.guard.r.t.k++[cB (zaf s locs (-1)).1.guard.r.eq,cFs (zaf s locs (-1)).1.guard.kids,.d (.sl 5 ((zaf s locs (-1)).1.moves.map zae.d))]))] h fun a w h=>qW (qZ (Je 9 [(1,.cmp (op:=.eql) (m:=(-1)) (n:=(-1)) (b:=true) .i64 rfl)] [] [(28,vb true)] h fun a w h=>cS true h (fun _=>?_) nofun))
 refine Jm 9 [(3,.call (Lstuck s locs hs hw hl) md3_15),(4,.g (Op.buildO (d:=35) (n:=9) (len:=1) (rows:=[(ze2 s locs)].map za0.d) (rs:=[(34,(vF (ze2 s locs)))]) zkt (.cons (i:=0) (OV.tmp 34 _) (.nil)) (by simp only [List.map_cons,List.map_nil,List.flatten_cons,List.flatten_nil,List.append_nil,za0.d_eq];kernel_rfl) rfl (by simp [za0.d_len]) (by decide) (by decide))),(5,.g (Op.appOO (d:=36) (t:=31) (u:=35) (n:=7) (sn:=9) (n':=10) (len:=0) (len2:=1) (len':=[(ze2 s locs)].length) (rows:=[].map za0.d) (rows2:=[(ze2 s locs)].map za0.d) (rows':=[(ze2 s locs)].map za0.d) la_7 (by first | exact (List.length_map _).symm | simp) (by first | exact (List.length_map _).symm | simp) (by first | (rw [List.length_append,List.length_map];done) | simp) (by simp) (by first | omega | (simp at *;done) | (simp at *;omega))))] [1,11,28] [(9,vO 10 ([(ze2 s locs)].length))] [(5,.box (zaj s)),(6,.box zF0),(8,.box ([cI (zaf s locs (-1)).1.proc,cI (zaf s locs (-1)).1.from_,cI (zaf s locs (-1)).1.to_,cI (zaf s locs (-1)).1.guard.kind,cPs (zaf s locs (-1)).1.guard.r.t.parts]++zi (zaf s locs (-1)).1.guard.r.t.k++[cB (zaf s locs (-1)).1.guard.r.eq,cFs (zaf s locs (-1)).1.guard.kids,.d (.sl 5 ((zaf s locs (-1)).1.moves.map zae.d))])),(10,.row 35 6 ([(ze2 s locs)].map za0.d))] h fun a w h=>za8 (za1 (qW (Je 11 [(2,.len (za7 1 zg4 s.vars))] [] [(43,vN s.vars.length),(44,vI 0)] h fun a w h=>qZ ?_)));replace h:=cv (fun z_:List za0=>F.of [(2,vI (-1)),(3,vN k),(4,vp 5 0),(8,vp 6 0),(9,vO 10 z_.length),(10,vp 8 0),(43,vN s.vars.length),(44,vI 0)] [(5,.box (zaj s)),(6,.box zF0),(8,.box ([cI (zaf s locs (-1)).1.proc,cI (zaf s locs (-1)).1.from_,cI (zaf s locs (-1)).1.to_,cI (zaf s locs (-1)).1.guard.kind,cPs (zaf s locs (-1)).1.guard.r.t.parts]++zi (zaf s locs (-1)).1.guard.r.t.k++[cB (zaf s locs (-1)).1.guard.r.eq,cFs (zaf s locs (-1)).1.guard.kids,.d (.sl 5 ((zaf s locs (-1)).1.moves.map zae.d))])),(10,.row 35 6 (z_.map za0.d))]) (show ([(ze2 s locs)]:List za0)=([(ze2 s locs)]++(List.range 0).flatMap (ze9 s (zaf s locs (-1)).1)) from (by simp)) h
 refine zap (ι:=(Nat)) (fun j=>j<=s.vars.length)
   (fun j=>[(2,vI (-1)),(3,vN k),(4,vp 5 0),(8,vp 6 0),(9,vO 10 ([(ze2 s locs)]++(List.range j).flatMap (ze9 s (zaf s locs (-1)).1)).length),(10,vp 8 0),(43,vN s.vars.length),(44,vN j)])
   (fun j=>[(5,.box (zaj s)),(6,.box zF0),(8,.box ([cI (zaf s locs (-1)).1.proc,cI (zaf s locs (-1)).1.from_,cI (zaf s locs (-1)).1.to_,cI (zaf s locs (-1)).1.guard.kind,cPs (zaf s locs (-1)).1.guard.r.t.parts]++zi (zaf s locs (-1)).1.guard.r.t.k++[cB (zaf s locs (-1)).1.guard.r.eq,cFs (zaf s locs (-1)).1.guard.kids,.d (.sl 5 ((zaf s locs (-1)).1.moves.map zae.d))])),(10,.row 35 6 (([(ze2 s locs)]++(List.range j).flatMap (ze9 s (zaf s locs (-1)).1)).map za0.d))])
   (fun j=>s.vars.length - j) 0 ?_ h (by kernel_rfl) (by kernel_rfl) ?_
 ·exact Nat.zero_le _
 clear h;rintro j a w hI h;have lsj:=zcc (ze9 s (zaf s locs (-1)).1) (stpS_len s (zaf s locs (-1)).1) j;refine Je 11 [] [] [(45,vb (decide ((j:Int)<(s.vars.length:Int))))] h fun a w h=>qW (zam ((j:Int)<(s.vars.length:Int)) h (fun hc1 hc1'=>?_) (fun hc4 hc4'=>?_))
 ·refine qU (za1 (qW (qZ (Je 11 [] [45] [(12,vN j)] h fun a w h=>Jd 11 [(2,.call (Lvalue (zaf s locs (-1)).1 j (zbr hs _)) mc2_15)] [] [(13,vp 11 0),(14,vb (zbs (zaf s locs (-1)).1 j).2)] [(5,.box (zaj s)),(6,.box zF0),(8,.box ([cI (zaf s locs (-1)).1.proc,cI (zaf s locs (-1)).1.from_,cI (zaf s locs (-1)).1.to_,cI (zaf s locs (-1)).1.guard.kind,cPs (zaf s locs (-1)).1.guard.r.t.parts]++zi (zaf s locs (-1)).1.guard.r.t.k++[cB (zaf s locs (-1)).1.guard.r.eq,cFs (zaf s locs (-1)).1.guard.kids,.d (.sl 5 ((zaf s locs (-1)).1.moves.map zae.d))])),(10,.row 35 6 (([(ze2 s locs)]++(List.range j).flatMap (ze9 s (zaf s locs (-1)).1)).map za0.d)),(11,.box (zT (zbs (zaf s locs (-1)).1 j).1))] h fun a w h=>Je 12 [] [14] [(53,vb (zbs (zaf s locs (-1)).1 j).2)] h fun a w h=>cS (zbs (zaf s locs (-1)).1 j).2 h (fun hc2=>?_) (fun hc3=>?_)))))
  ·refine Jm 12 [(4,.call (Lsame s j (zbs (zaf s locs (-1)).1 j).1 hs (by omega) (ziv (zbr hs _) _)) mg6_10),(5,.g (Op.buildO (d:=59) (n:=12) (len:=1) (rows:=[(samF s j (zbs (zaf s locs (-1)).1 j).1)].map za0.d) (rs:=[(58,(vF (samF s j (zbs (zaf s locs (-1)).1 j).1)))]) zkt (.cons (i:=0) (OV.tmp 58 _) (.nil)) (by simp only [List.map_cons,List.map_nil,List.flatten_cons,List.flatten_nil,List.append_nil,za0.d_eq];kernel_rfl) rfl (by simp [za0.d_len]) (by decide) (by decide))),(6,.g (Op.appOO (d:=60) (t:=54) (u:=59) (n:=10) (sn:=12) (n':=13) (len:=([(ze2 s locs)]++(List.range j).flatMap (ze9 s (zaf s locs (-1)).1)).length) (len2:=1) (len':=(([(ze2 s locs)]++(List.range j).flatMap (ze9 s (zaf s locs (-1)).1))++[(samF s j (zbs (zaf s locs (-1)).1 j).1)]).length) (rows:=([(ze2 s locs)]++(List.range j).flatMap (ze9 s (zaf s locs (-1)).1)).map za0.d) (rows2:=[(samF s j (zbs (zaf s locs (-1)).1 j).1)].map za0.d) (rows':=(([(ze2 s locs)]++(List.range j).flatMap (ze9 s (zaf s locs (-1)).1))++[(samF s j (zbs (zaf s locs (-1)).1 j).1)]).map za0.d) la_7 (by first | exact (List.length_map _).symm | simp) (by first | exact (List.length_map _).symm | simp) (by first | (rw [List.length_append,List.length_map];done) | simp) (by simp) (by first | omega | (simp at *;done) | (simp at *;omega))))] [12,13,53] [(9,vO 13 (([(ze2 s locs)]++(List.range j).flatMap (ze9 s (zaf s locs (-1)).1))++[(samF s j (zbs (zaf s locs (-1)).1 j).1)]).length)] [(5,.box (zaj s)),(6,.box zF0),(8,.box ([cI (zaf s locs (-1)).1.proc,cI (zaf s locs (-1)).1.from_,cI (zaf s locs (-1)).1.to_,cI (zaf s locs (-1)).1.guard.kind,cPs (zaf s locs (-1)).1.guard.r.t.parts]++zi (zaf s locs (-1)).1.guard.r.t.k++[cB (zaf s locs (-1)).1.guard.r.eq,cFs (zaf s locs (-1)).1.guard.kids,.d (.sl 5 ((zaf s locs (-1)).1.moves.map zae.d))])),(13,.row 35 6 ((([(ze2 s locs)]++(List.range j).flatMap (ze9 s (zaf s locs (-1)).1))++[(samF s j (zbs (zaf s locs (-1)).1 j).1)]).map za0.d))] h fun a w h=>za8 (za1 (Jf 14 [(0,.j1 j)] [] [(44,vI ((j:Int)+1))] h fun a w h=>za1 ?_));rw [show ((([(ze2 s locs)]++(List.range j).flatMap (ze9 s (zaf s locs (-1)).1))++[(samF s j (zbs (zaf s locs (-1)).1 j).1)]):List za0)=([(ze2 s locs)]++(List.range (j+1)).flatMap (ze9 s (zaf s locs (-1)).1)) from (by rw [zc1 (ze9 s (zaf s locs (-1)).1) j,show ze9 s (zaf s locs (-1)).1 j=[samF s j (zbs (zaf s locs (-1)).1 j).1] from if_pos hc2];first | done | simp)] at h;replace h:=ze3 13 10 [(2,vI (-1)),(3,vN k),(4,vp 5 0),(8,vp 6 0),(9,vO 10 ([(ze2 s locs)]++(List.range (j+1)).flatMap (ze9 s (zaf s locs (-1)).1)).length),(10,vp 8 0),(43,vN s.vars.length),(44,vI ((j:Int)+1))] [(5,.box (zaj s)),(6,.box zF0),(8,.box ([cI (zaf s locs (-1)).1.proc,cI (zaf s locs (-1)).1.from_,cI (zaf s locs (-1)).1.to_,cI (zaf s locs (-1)).1.guard.kind,cPs (zaf s locs (-1)).1.guard.r.t.parts]++zi (zaf s locs (-1)).1.guard.r.t.k++[cB (zaf s locs (-1)).1.guard.r.eq,cFs (zaf s locs (-1)).1.guard.kids,.d (.sl 5 ((zaf s locs (-1)).1.moves.map zae.d))])),(10,.row 35 6 (([(ze2 s locs)]++(List.range (j+1)).flatMap (ze9 s (zaf s locs (-1)).1)).map za0.d))] h;refine zag (x:=j) (y:=j+1) h ?_ ?_
   ·have:=dT hc1;show j+1<=s.vars.length;omega
   show s.vars.length - (j+1)<s.vars.length - j;have:=dT hc1;omega
  refine qU (za8 (za1 (Jm 14 [(0,.j1 j)] [12,13,53] [(44,vI ((j:Int)+1))] [(5,.box (zaj s)),(6,.box zF0),(8,.box ([cI (zaf s locs (-1)).1.proc,cI (zaf s locs (-1)).1.from_,cI (zaf s locs (-1)).1.to_,cI (zaf s locs (-1)).1.guard.kind,cPs (zaf s locs (-1)).1.guard.r.t.parts]++zi (zaf s locs (-1)).1.guard.r.t.k++[cB (zaf s locs (-1)).1.guard.r.eq,cFs (zaf s locs (-1)).1.guard.kids,.d (.sl 5 ((zaf s locs (-1)).1.moves.map zae.d))])),(10,.row 35 6 (([(ze2 s locs)]++(List.range j).flatMap (ze9 s (zaf s locs (-1)).1)).map za0.d))] h fun a w h=>za1 ?_)));rw [show (([(ze2 s locs)]++(List.range j).flatMap (ze9 s (zaf s locs (-1)).1)):List za0)=([(ze2 s locs)]++(List.range (j+1)).flatMap (ze9 s (zaf s locs (-1)).1)) from (by rw [zc1 (ze9 s (zaf s locs (-1)).1) j,show ze9 s (zaf s locs (-1)).1 j=[] from if_neg (by rw [hc3];exact Bool.noConfusion)];first | done | simp)] at h;refine zag (x:=j) (y:=j+1) h ?_ ?_
  ·have:=dT hc1;show j+1<=s.vars.length;omega
  show s.vars.length - (j+1)<s.vars.length - j;have:=dT hc1;omega
 refine wp_exit (za9 (za9 (za5 (za1 (qW ?_)))));rw [show (([(ze2 s locs)]++(List.range j).flatMap (ze9 s (zaf s locs (-1)).1)):List za0)=(zg9 s (ze2 s locs) (zaf s locs (-1)).1) from (by rw [show j=s.vars.length by have:=dF hc4;omega];rfl)] at h;replace h:=zi0 10 6 35 ((zg9 s (ze2 s locs) (zaf s locs (-1)).1).map za0.d) [(2,vI (-1)),(3,vN k),(4,vp 5 0),(8,vp 6 0),(9,(vFs (zg9 s (ze2 s locs) (zaf s locs (-1)).1))),(10,vp 8 0),(43,vN s.vars.length),(44,vN j),(45,vb (decide ((j:Int)<(s.vars.length:Int))))] [(5,.box (zaj s)),(6,.box zF0),(8,.box ([cI (zaf s locs (-1)).1.proc,cI (zaf s locs (-1)).1.from_,cI (zaf s locs (-1)).1.to_,cI (zaf s locs (-1)).1.guard.kind,cPs (zaf s locs (-1)).1.guard.r.t.parts]++zi (zaf s locs (-1)).1.guard.r.t.k++[cB (zaf s locs (-1)).1.guard.r.eq,cFs (zaf s locs (-1)).1.guard.kids,.d (.sl 5 ((zaf s locs (-1)).1.moves.map zae.d))]))] h rfl (show zbw _ [(zg9 s (ze2 s locs) (zaf s locs (-1)).1).length] from ⟨by first | exact (List.length_map _).symm | (simp;done) | (simp;omega),trivial⟩) trivial;refine Jd 14 [(1,.cmp (op:=.neq) (m:=(-1)) (n:=(-1)) (b:=false) .i64 rfl)] [2,10,43,44,45] [(63,vb false)] [(5,.box (zaj s)),(6,.box zF0)] h fun a w h=>zax false h rfl nofun (fun _=>qU (za1 (Jq 14 [(2,.call (LAll (zg9 s (ze2 s locs) (zaf s locs (-1)).1) (fun g hg=>za0.okB_mono (by decide) (by decide) _ (hsl g hg)) (by first | omega | (rw [List.length_append,List.length_singleton];omega))) zju),(4,.call (Lat s (zhn (zg9 s (ze2 s locs) (zaf s locs (-1)).1)) k hs hk (za0.okB_mono (Nat.le_refl _) (by decide) _ (zf0 (by decide) hsl (by first | omega | (rw [List.length_append,List.length_singleton];omega))))) md3_4)] [(8,vp 6 0)] [(6,.box (zF (atF s (zhn (zg9 s (ze2 s locs) (zaf s locs (-1)).1)) k)))] h fun a w h=>qV (rA 6 (zF (atF s (zhn (zg9 s (ze2 s locs) (zaf s locs (-1)).1)) k)) h zct rfl ?_))))
 rfl
theorem LStepS (s:zar) (locs:List Int) (act:Int) (k:Nat) (ha:act≠-1) (hb:(zaf s locs act).2=true) (hs:zb9 3 s) (hw:SysW s) (hl:locs.length<=9223372036854775807) (hk:k<=4096):Fn Tryz.prog 13 [] [vG (zaj s),(vIs locs),vI act,vN k] (vF (atF s (zhn ((zg9 s (zaf s locs act).1.guard (zaf s locs act).1)++[atF s (zdp s) 1])) k)) []:=by
 have lvs:=hs.vars;have hsl:∀ g ∈ (zg9 s (zaf s locs act).1.guard (zaf s locs act).1),g.okB 40 60:=stpL_ok (za0.okB_mono (by decide) (by decide) _ (zfz (zbr hs act).guard (Nat.le_trans (zge hw act) (by decide)))) (zbr hs _);have hslen:=stpL_len s (zaf s locs act).1.guard (zaf s locs act).1;have hsl2:∀ g ∈ ((zg9 s (zaf s locs act).1.guard (zaf s locs act).1)++[atF s (zdp s) 1]),g.okB 40 103:=fun g hg=>(List.mem_append.1 hg).elim (fun h=>za0.okB_mono (by decide) (by decide) _ (hsl g h)) (fun h=>by rw [List.mem_singleton.1 h];exact rng1_ok hs)
 refine Fn.body Tryz.func13 rfl 74 rfl fun w H B a h=>Jq 5 [] [(1,(vIs locs)),(2,vI act),(3,vN k),(4,vp 5 0),(8,vp 6 0)] [(5,.box (zaj s)),(6,.box zF0)] h fun a w h=>Jd 7 [(0,.g (Op.buildE (d:=15) (n:=7) zkt))] [] [(9,vO 7 0)] [(5,.box (zaj s)),(6,.box zF0),(7,.row 35 6 ([].map za0.d))] h fun a w h=>Jd 8 [(3,.call (Lbegins s locs act hs hl) md3_12)] [] [(10,vp 8 0),(11,vb (zaf s locs act).2)] [(5,.box (zaj s)),(6,.box zF0),(7,.row 35 6 ([].map za0.d)),(8,.box ([cI (zaf s locs act).1.proc,cI (zaf s locs act).1.from_,cI (zaf s locs act).1.to_,cI (zaf s locs act).1.guard.kind,cPs (zaf s locs act).1.guard.r.t.parts]++zi (zaf s locs act).1.guard.r.t.k++[cB (zaf s locs act).1.guard.r.eq,cFs (zaf s locs act).1.guard.kids,.d (.sl 5 ((zaf s locs act).1.moves.map zae.d))]))] h fun a w h=>qW (qZ (Je 9 [(1,.cmp (op:=.eql) (m:=act) (n:=(-1)) (b:=false) .i64 (beq_eq_false_iff_ne.2 ha))] [] [(28,vb false)] h fun a w h=>zax false h rfl nofun (fun _=>Je 9 [] [1,11,28] [(37,vb (!(zaf s locs act).2))] h fun a w h=>cS (!(zaf s locs act).2) h (fun hc=>?_) (fun hc=>?_))))
 ·rw [(show (!(zaf s locs act).2)=false from by rw [hb];rfl)] at hc;cases hc
 clear hc;refine Jm 9 [(3,.g (Op.buildO (d:=26) (n:=9) (len:=1) (rows:=[(zaf s locs act).1.guard].map za0.d) (rs:=[(25,(vF (zaf s locs act).1.guard))]) zkt (.cons (i:=0) (OV.tmp 25 _) (.nil)) (by simp only [List.map_cons,List.map_nil,List.flatten_cons,List.flatten_nil,List.append_nil,za0.d_eq];kernel_rfl) rfl (by simp [za0.d_len]) (by decide) (by decide))),(4,.g (Op.appOO (d:=27) (t:=23) (u:=26) (n:=7) (sn:=9) (n':=10) (len:=0) (len2:=1) (len':=[(zaf s locs act).1.guard].length) (rows:=[].map za0.d) (rows2:=[(zaf s locs act).1.guard].map za0.d) (rows':=[(zaf s locs act).1.guard].map za0.d) la_7 (by first | exact (List.length_map _).symm | simp) (by first | exact (List.length_map _).symm | simp) (by first | (rw [List.length_append,List.length_map];done) | simp) (by simp) (by first | omega | (simp at *;done) | (simp at *;omega))))] [37] [(9,vO 10 ([(zaf s locs act).1.guard].length))] [(5,.box (zaj s)),(6,.box zF0),(8,.box ([cI (zaf s locs act).1.proc,cI (zaf s locs act).1.from_,cI (zaf s locs act).1.to_,cI (zaf s locs act).1.guard.kind,cPs (zaf s locs act).1.guard.r.t.parts]++zi (zaf s locs act).1.guard.r.t.k++[cB (zaf s locs act).1.guard.r.eq,cFs (zaf s locs act).1.guard.kids,.d (.sl 5 ((zaf s locs act).1.moves.map zae.d))])),(10,.row 35 6 ([(zaf s locs act).1.guard].map za0.d))] h fun a w h=>za8 (za1 (qW (Je 11 [(2,.len (za7 1 zg4 s.vars))] [] [(43,vN s.vars.length),(44,vI 0)] h fun a w h=>qZ ?_)));replace h:=cv (fun z_:List za0=>F.of [(2,vI act),(3,vN k),(4,vp 5 0),(8,vp 6 0),(9,vO 10 z_.length),(10,vp 8 0),(43,vN s.vars.length),(44,vI 0)] [(5,.box (zaj s)),(6,.box zF0),(8,.box ([cI (zaf s locs act).1.proc,cI (zaf s locs act).1.from_,cI (zaf s locs act).1.to_,cI (zaf s locs act).1.guard.kind,cPs (zaf s locs act).1.guard.r.t.parts]++zi (zaf s locs act).1.guard.r.t.k++[cB (zaf s locs act).1.guard.r.eq,cFs (zaf s locs act).1.guard.kids,.d (.sl 5 ((zaf s locs act).1.moves.map zae.d))])),(10,.row 35 6 (z_.map za0.d))]) (show ([(zaf s locs act).1.guard]:List za0)=([(zaf s locs act).1.guard]++(List.range 0).flatMap (ze9 s (zaf s locs act).1)) from (by simp)) h
 refine zap (ι:=(Nat)) (fun j=>j<=s.vars.length)
   (fun j=>[(2,vI act),(3,vN k),(4,vp 5 0),(8,vp 6 0),(9,vO 10 ([(zaf s locs act).1.guard]++(List.range j).flatMap (ze9 s (zaf s locs act).1)).length),(10,vp 8 0),(43,vN s.vars.length),(44,vN j)])
   (fun j=>[(5,.box (zaj s)),(6,.box zF0),(8,.box ([cI (zaf s locs act).1.proc,cI (zaf s locs act).1.from_,cI (zaf s locs act).1.to_,cI (zaf s locs act).1.guard.kind,cPs (zaf s locs act).1.guard.r.t.parts]++zi (zaf s locs act).1.guard.r.t.k++[cB (zaf s locs act).1.guard.r.eq,cFs (zaf s locs act).1.guard.kids,.d (.sl 5 ((zaf s locs act).1.moves.map zae.d))])),(10,.row 35 6 (([(zaf s locs act).1.guard]++(List.range j).flatMap (ze9 s (zaf s locs act).1)).map za0.d))])
   (fun j=>s.vars.length - j) 0 ?_ h (by kernel_rfl) (by kernel_rfl) ?_
 ·exact Nat.zero_le _
 clear h;rintro j a w hI h;have lsj:=zcc (ze9 s (zaf s locs act).1) (stpS_len s (zaf s locs act).1) j;refine Je 11 [] [] [(45,vb (decide ((j:Int)<(s.vars.length:Int))))] h fun a w h=>qW (zam ((j:Int)<(s.vars.length:Int)) h (fun hc1 hc1'=>?_) (fun hc4 hc4'=>?_))
 ·refine qU (za1 (qW (qZ (Je 11 [] [45] [(12,vN j)] h fun a w h=>Jd 11 [(2,.call (Lvalue (zaf s locs act).1 j (zbr hs _)) mc2_15)] [] [(13,vp 11 0),(14,vb (zbs (zaf s locs act).1 j).2)] [(5,.box (zaj s)),(6,.box zF0),(8,.box ([cI (zaf s locs act).1.proc,cI (zaf s locs act).1.from_,cI (zaf s locs act).1.to_,cI (zaf s locs act).1.guard.kind,cPs (zaf s locs act).1.guard.r.t.parts]++zi (zaf s locs act).1.guard.r.t.k++[cB (zaf s locs act).1.guard.r.eq,cFs (zaf s locs act).1.guard.kids,.d (.sl 5 ((zaf s locs act).1.moves.map zae.d))])),(10,.row 35 6 (([(zaf s locs act).1.guard]++(List.range j).flatMap (ze9 s (zaf s locs act).1)).map za0.d)),(11,.box (zT (zbs (zaf s locs act).1 j).1))] h fun a w h=>Je 12 [] [14] [(53,vb (zbs (zaf s locs act).1 j).2)] h fun a w h=>cS (zbs (zaf s locs act).1 j).2 h (fun hc2=>?_) (fun hc3=>?_)))))
  ·refine Jm 12 [(4,.call (Lsame s j (zbs (zaf s locs act).1 j).1 hs (by omega) (ziv (zbr hs _) _)) mg6_10),(5,.g (Op.buildO (d:=59) (n:=12) (len:=1) (rows:=[(samF s j (zbs (zaf s locs act).1 j).1)].map za0.d) (rs:=[(58,(vF (samF s j (zbs (zaf s locs act).1 j).1)))]) zkt (.cons (i:=0) (OV.tmp 58 _) (.nil)) (by simp only [List.map_cons,List.map_nil,List.flatten_cons,List.flatten_nil,List.append_nil,za0.d_eq];kernel_rfl) rfl (by simp [za0.d_len]) (by decide) (by decide))),(6,.g (Op.appOO (d:=60) (t:=54) (u:=59) (n:=10) (sn:=12) (n':=13) (len:=([(zaf s locs act).1.guard]++(List.range j).flatMap (ze9 s (zaf s locs act).1)).length) (len2:=1) (len':=(([(zaf s locs act).1.guard]++(List.range j).flatMap (ze9 s (zaf s locs act).1))++[(samF s j (zbs (zaf s locs act).1 j).1)]).length) (rows:=([(zaf s locs act).1.guard]++(List.range j).flatMap (ze9 s (zaf s locs act).1)).map za0.d) (rows2:=[(samF s j (zbs (zaf s locs act).1 j).1)].map za0.d) (rows':=(([(zaf s locs act).1.guard]++(List.range j).flatMap (ze9 s (zaf s locs act).1))++[(samF s j (zbs (zaf s locs act).1 j).1)]).map za0.d) la_7 (by first | exact (List.length_map _).symm | simp) (by first | exact (List.length_map _).symm | simp) (by first | (rw [List.length_append,List.length_map];done) | simp) (by simp) (by first | omega | (simp at *;done) | (simp at *;omega))))] [12,13,53] [(9,vO 13 (([(zaf s locs act).1.guard]++(List.range j).flatMap (ze9 s (zaf s locs act).1))++[(samF s j (zbs (zaf s locs act).1 j).1)]).length)] [(5,.box (zaj s)),(6,.box zF0),(8,.box ([cI (zaf s locs act).1.proc,cI (zaf s locs act).1.from_,cI (zaf s locs act).1.to_,cI (zaf s locs act).1.guard.kind,cPs (zaf s locs act).1.guard.r.t.parts]++zi (zaf s locs act).1.guard.r.t.k++[cB (zaf s locs act).1.guard.r.eq,cFs (zaf s locs act).1.guard.kids,.d (.sl 5 ((zaf s locs act).1.moves.map zae.d))])),(13,.row 35 6 ((([(zaf s locs act).1.guard]++(List.range j).flatMap (ze9 s (zaf s locs act).1))++[(samF s j (zbs (zaf s locs act).1 j).1)]).map za0.d))] h fun a w h=>za8 (za1 (Jf 14 [(0,.j1 j)] [] [(44,vI ((j:Int)+1))] h fun a w h=>za1 ?_));rw [show ((([(zaf s locs act).1.guard]++(List.range j).flatMap (ze9 s (zaf s locs act).1))++[(samF s j (zbs (zaf s locs act).1 j).1)]):List za0)=([(zaf s locs act).1.guard]++(List.range (j+1)).flatMap (ze9 s (zaf s locs act).1)) from (by rw [zc1 (ze9 s (zaf s locs act).1) j,show ze9 s (zaf s locs act).1 j=[samF s j (zbs (zaf s locs act).1 j).1] from if_pos hc2];first | done | simp)] at h;replace h:=ze3 13 10 [(2,vI act),(3,vN k),(4,vp 5 0),(8,vp 6 0),(9,vO 10 ([(zaf s locs act).1.guard]++(List.range (j+1)).flatMap (ze9 s (zaf s locs act).1)).length),(10,vp 8 0),(43,vN s.vars.length),(44,vI ((j:Int)+1))] [(5,.box (zaj s)),(6,.box zF0),(8,.box ([cI (zaf s locs act).1.proc,cI (zaf s locs act).1.from_,cI (zaf s locs act).1.to_,cI (zaf s locs act).1.guard.kind,cPs (zaf s locs act).1.guard.r.t.parts]++zi (zaf s locs act).1.guard.r.t.k++[cB (zaf s locs act).1.guard.r.eq,cFs (zaf s locs act).1.guard.kids,.d (.sl 5 ((zaf s locs act).1.moves.map zae.d))])),(10,.row 35 6 (([(zaf s locs act).1.guard]++(List.range (j+1)).flatMap (ze9 s (zaf s locs act).1)).map za0.d))] h;refine zag (x:=j) (y:=j+1) h ?_ ?_
   ·have:=dT hc1;show j+1<=s.vars.length;omega
   show s.vars.length - (j+1)<s.vars.length - j;have:=dT hc1;omega
  refine qU (za8 (za1 (Jm 14 [(0,.j1 j)] [12,13,53] [(44,vI ((j:Int)+1))] [(5,.box (zaj s)),(6,.box zF0),(8,.box ([cI (zaf s locs act).1.proc,cI (zaf s locs act).1.from_,cI (zaf s locs act).1.to_,cI (zaf s locs act).1.guard.kind,cPs (zaf s locs act).1.guard.r.t.parts]++zi (zaf s locs act).1.guard.r.t.k++[cB (zaf s locs act).1.guard.r.eq,cFs (zaf s locs act).1.guard.kids,.d (.sl 5 ((zaf s locs act).1.moves.map zae.d))])),(10,.row 35 6 (([(zaf s locs act).1.guard]++(List.range j).flatMap (ze9 s (zaf s locs act).1)).map za0.d))] h fun a w h=>za1 ?_)));rw [show (([(zaf s locs act).1.guard]++(List.range j).flatMap (ze9 s (zaf s locs act).1)):List za0)=([(zaf s locs act).1.guard]++(List.range (j+1)).flatMap (ze9 s (zaf s locs act).1)) from (by rw [zc1 (ze9 s (zaf s locs act).1) j,show ze9 s (zaf s locs act).1 j=[] from if_neg (by rw [hc3];exact Bool.noConfusion)];first | done | simp)] at h;refine zag (x:=j) (y:=j+1) h ?_ ?_
  ·have:=dT hc1;show j+1<=s.vars.length;omega
  show s.vars.length - (j+1)<s.vars.length - j;have:=dT hc1;omega
 refine wp_exit (za9 (za9 (za5 (za1 (qW ?_)))));rw [show (([(zaf s locs act).1.guard]++(List.range j).flatMap (ze9 s (zaf s locs act).1)):List za0)=(zg9 s (zaf s locs act).1.guard (zaf s locs act).1) from (by rw [show j=s.vars.length by have:=dF hc4;omega];rfl)] at h;refine Jq 14 [(1,.cmp (op:=.neq) (m:=act) (n:=(-1)) (b:=true) .i64 (bne_iff_ne.2 ha))] [(3,vN k),(4,vp 5 0),(8,vp 6 0),(9,vO 10 (zg9 s (zaf s locs act).1.guard (zaf s locs act).1).length),(63,vb true)] [(5,.box (zaj s)),(6,.box zF0),(10,.row 35 6 ((zg9 s (zaf s locs act).1.guard (zaf s locs act).1).map za0.d))] h fun a w h=>cS true h (fun _=>?_) nofun
 refine Jm 14 [(2,.call (LRange s 1 hs (by decide)) mg6_13),(3,.g (Op.buildO (d:=67) (n:=14) (len:=1) (rows:=[(atF s (zdp s) 1)].map za0.d) (rs:=[(66,(vF (atF s (zdp s) 1)))]) zkt (.cons (i:=0) (OV.tmp 66 _) (.nil)) (by simp only [List.map_cons,List.map_nil,List.flatten_cons,List.flatten_nil,List.append_nil,za0.d_eq];kernel_rfl) rfl (by simp [za0.d_len]) (by decide) (by decide))),(4,.g (Op.appOO (d:=68) (t:=64) (u:=67) (n:=10) (sn:=14) (n':=15) (len:=(zg9 s (zaf s locs act).1.guard (zaf s locs act).1).length) (len2:=1) (len':=((zg9 s (zaf s locs act).1.guard (zaf s locs act).1)++[(atF s (zdp s) 1)]).length) (rows:=(zg9 s (zaf s locs act).1.guard (zaf s locs act).1).map za0.d) (rows2:=[(atF s (zdp s) 1)].map za0.d) (rows':=((zg9 s (zaf s locs act).1.guard (zaf s locs act).1)++[(atF s (zdp s) 1)]).map za0.d) la_7 (by first | exact (List.length_map _).symm | simp) (by first | exact (List.length_map _).symm | simp) (by first | (rw [List.length_append,List.length_map];done) | simp) (by simp) (by first | omega | (simp at *;done) | (simp at *;omega))))] [63] [(9,vO 15 ((zg9 s (zaf s locs act).1.guard (zaf s locs act).1)++[(atF s (zdp s) 1)]).length)] [(5,.box (zaj s)),(6,.box zF0),(15,.row 35 6 (((zg9 s (zaf s locs act).1.guard (zaf s locs act).1)++[(atF s (zdp s) 1)]).map za0.d))] h fun a w h=>za1 ?_;rw [show (((zg9 s (zaf s locs act).1.guard (zaf s locs act).1)++[(atF s (zdp s) 1)]):List za0)=((zg9 s (zaf s locs act).1.guard (zaf s locs act).1)++[atF s (zdp s) 1]) from rfl] at h;replace h:=zi0 15 6 35 (((zg9 s (zaf s locs act).1.guard (zaf s locs act).1)++[atF s (zdp s) 1]).map za0.d) [(3,vN k),(4,vp 5 0),(8,vp 6 0),(9,(vFs ((zg9 s (zaf s locs act).1.guard (zaf s locs act).1)++[atF s (zdp s) 1])))] [(5,.box (zaj s)),(6,.box zF0)] h rfl (show zbw _ [((zg9 s (zaf s locs act).1.guard (zaf s locs act).1)++[atF s (zdp s) 1]).length] from ⟨by first | exact (List.length_map _).symm | (simp;done) | (simp;omega),trivial⟩) trivial;refine Jq 16 [(2,.call (LAll ((zg9 s (zaf s locs act).1.guard (zaf s locs act).1)++[atF s (zdp s) 1]) (fun g hg=>za0.okB_mono (by decide) (by decide) _ (hsl2 g hg)) (by first | omega | (rw [List.length_append,List.length_singleton];omega))) zju),(4,.call (Lat s (zhn ((zg9 s (zaf s locs act).1.guard (zaf s locs act).1)++[atF s (zdp s) 1])) k hs hk (za0.okB_mono (Nat.le_refl _) (by decide) _ (zf0 (by decide) hsl2 (by first | omega | (rw [List.length_append,List.length_singleton];omega))))) md3_4)] [(8,vp 6 0)] [(6,.box (zF (atF s (zhn ((zg9 s (zaf s locs act).1.guard (zaf s locs act).1)++[atF s (zdp s) 1])) k)))] h fun a w h=>qV (rA 6 (zF (atF s (zhn ((zg9 s (zaf s locs act).1.guard (zaf s locs act).1)++[atF s (zdp s) 1])) k)) h zct rfl ?_);rfl
theorem LStepN (s:zar) (locs:List Int) (act:Int) (k:Nat) (ha:act≠-1) (hb:(zaf s locs act).2=false) (hs:zb9 3 s) (hl:locs.length<=9223372036854775807):Fn Tryz.prog 13 [] [vG (zaj s),(vIs locs),vI act,vN k] (vF (zd3 false)) []:=by
 refine Fn.body Tryz.func13 rfl 74 rfl fun w H B a h=>Jq 5 [] [(1,(vIs locs)),(2,vI act),(3,vN k),(4,vp 5 0),(8,vp 6 0)] [(5,.box (zaj s)),(6,.box zF0)] h fun a w h=>Jd 7 [(0,.g (Op.buildE (d:=15) (n:=7) zkt))] [] [(9,vO 7 0)] [(5,.box (zaj s)),(6,.box zF0),(7,.row 35 6 ([].map za0.d))] h fun a w h=>Jd 8 [(3,.call (Lbegins s locs act hs hl) md3_12)] [] [(10,vp 8 0),(11,vb (zaf s locs act).2)] [(5,.box (zaj s)),(6,.box zF0),(7,.row 35 6 ([].map za0.d)),(8,.box ([cI (zaf s locs act).1.proc,cI (zaf s locs act).1.from_,cI (zaf s locs act).1.to_,cI (zaf s locs act).1.guard.kind,cPs (zaf s locs act).1.guard.r.t.parts]++zi (zaf s locs act).1.guard.r.t.k++[cB (zaf s locs act).1.guard.r.eq,cFs (zaf s locs act).1.guard.kids,.d (.sl 5 ((zaf s locs act).1.moves.map zae.d))]))] h fun a w h=>qW (qZ (Je 9 [(1,.cmp (op:=.eql) (m:=act) (n:=(-1)) (b:=false) .i64 (beq_eq_false_iff_ne.2 ha))] [] [(28,vb false)] h fun a w h=>zax false h rfl nofun (fun _=>Je 9 [] [1,11,28] [(37,vb (!(zaf s locs act).2))] h fun a w h=>cS (!(zaf s locs act).2) h (fun hc1=>?_) (fun hc2=>?_))))
 ·have hc1':=hc1;(try simp at hc1');refine Jd 9 [(0,.call (zgw false) la_8)] [37] [] [(5,.box (zaj s)),(6,.box (zF (zd3 false))),(7,.row 35 6 ([].map za0.d)),(8,.box ([cI (zaf s locs act).1.proc,cI (zaf s locs act).1.from_,cI (zaf s locs act).1.to_,cI (zaf s locs act).1.guard.kind,cPs (zaf s locs act).1.guard.r.t.parts]++zi (zaf s locs act).1.guard.r.t.k++[cB (zaf s locs act).1.guard.r.eq,cFs (zaf s locs act).1.guard.kids,.d (.sl 5 ((zaf s locs act).1.moves.map zae.d))]))] h fun a w h=>qV (zac (za6 (rA 6 (zF (zd3 false)) h zct rfl ?_)));rfl
 have hc2':=hc2;(try simp at hc2');have hd_:(!(zaf s locs act).2)=false:=by assumption
 rw [hb] at hd_;cases hd_
theorem mi7_9:ElT Tryz.prog 109 30 3 56:=ElT.mk' Tryz.underlying109 _ _ rfl rfl (by kernel_rfl) (by kernel_rfl) (by kernel_rfl) (by decide) (by decide)
theorem mi7_13:za4 Tryz.prog 57:=za4.mk' (by kernel_rfl)
theorem addT_ok2 {n m L:Nat} {s t:zal} (hs:TOk n L s) (ht:TOk m L t) (hn:n+m<=1000):TOk (n+m) (L+2) (zjl s t):=by
 have h1:TOk (n+m) (L+1) ⟨s.parts++t.parts,ZI.of (s.k.val+t.k.val)⟩:=by
  refine ⟨by rw [List.length_append];have:=hs.len;have:=ht.len;omega,fun p hp=>?_,ZI.lb_of _,ZI.len_of ?_⟩
  ·rcases List.mem_append.1 hp with hp | hp
   ·exact ⟨(hs.ps p hp).1,Nat.le_trans (hs.ps p hp).2 (Nat.le_succ _)⟩
   ·exact ⟨(ht.ps p hp).1,Nat.le_trans (ht.ps p hp).2 (Nat.le_succ _)⟩
  ·have a:=Nat.lt_of_lt_of_le (ZI.abs_lt hs.kb) (zds hs.kl);have b:=Nat.lt_of_lt_of_le (ZI.abs_lt ht.kb) (zds ht.kl);have c:=Int.natAbs_add_le s.k.val t.k.val
   have e:pw (L+1)=4294967296*pw L:=zas L
   omega
 exact h1.plain hn
theorem low_tok2 {n L:Nat} {t:zal} (h:TOk n L t) (hn:n<=1000) (hL:3<=L):TOk n (L+5) (lowR t).t:=by
 have h1:=zkq h hn
 have h0:TOk 0 2 (zcj (ZI.of 1)):=TOk.num (ZI.lb_of _) (by decide)
 have h2:TOk 0 (L+3) (zbj (zcj (ZI.of 1)) (ZI.of (-1))):=((TOk.mul h0 (ZI.lb_of _) (show (ZI.of (-1)).abs.length<=2 from by decide)).plain (by decide)).mono (Nat.le_refl _) (by omega)
 exact (addT_ok2 h1 h2 (by omega)).mono (by omega) (by omega)
theorem deny_tok2 {n L:Nat} {r:zay} (h:TOk n L r.t) (hn:n<=1000) (hL:3<=L):∀ q ∈ zb8 r,TOk n (L+8) q.t:=fun q hq=>by
 unfold zb8 at hq
 split at hq
 ·rcases List.mem_cons.1 hq with rfl | hq
  ·exact low_tok2 (zkq h hn) hn (by omega)
  ·rw [List.mem_singleton.1 hq];exact (low_tok2 h hn hL).mono (Nat.le_refl _) (by omega)
 ·rw [List.mem_singleton.1 hq];exact (low_tok2 h hn hL).mono (Nat.le_refl _) (by omega)
theorem flat_okA2 {n L:Nat} (hn:n<=1000) (hL:3<=L) (f:za0):f.okB n L->∀ d,(f.flat d).okA n (L+12) :=
 za0.ind (P:=fun f=>f.okB n L->∀ d,(f.flat d).okA n (L+12)) (fun k r ks ih hf d=>by
  obtain ⟨⟨h1,h2⟩,h3⟩:=(za0.okB_eq _ _ _).1 hf
  change k=2->_ at h1
  change ∀ g ∈ cnt k ks,_ at h3
  rw [za0.flat_eq]
  show (zgk k r (ks.map za0.flat) d).okA n (L+12)
  unfold zgk
  split
  ·exact okA_tru _ _ _
  ·split
   ·rename_i e
    split
    ·refine zfn (.inr rfl) _ [] (fun g hg=>by cases hg) fun g hg=>?_
     obtain ⟨q,hq,rfl⟩:=List.mem_map.1 hg
     exact tight_okA (deny_tok2 (h1 e) hn hL q hq) hn
    ·exact za0.okA_mono (Nat.le_refl _) (by omega) _ (tight_okA (h1 e) hn)
   ·split
    ·rename_i e
     subst e
     cases ks with
     | nil=>exact okA_tru _ _ _
     | cons g gs=>exact ih g (List.mem_cons_self ..) (h3 g (List.mem_cons_self ..)) (!d)
    ·split
     ·rename_i h4
      have hc:cnt k ks=ks:=by unfold cnt;rw [if_pos h4]
      rw [hc] at h3
      refine zfn (by cases d <;> simp <;> omega) _ [] (fun g hg=>by cases hg) fun g hg=>?_
      rw [List.map_map] at hg
      obtain ⟨q,hq,rfl⟩:=List.mem_map.1 hg
      exact ih q hq (h3 q hq) d
     ·exact okA_tru _ _ _) f
theorem put_ok {f:za0} {vs:List Int} {bys:List zal} (hf:f.okB 30 19) (hb:∀ b ∈ bys,zhb b):(f.each (zcb vs bys)).okB 900 44:=zkp (t:=zcb vs bys) (fun r hr=>by
 have:=putZ_tok (t:=(cpR r).t) (vs:=vs) (hr.plain (by decide)) hb
 exact this) f hf
theorem preT_ok {s:zar} (_hs:zb9 3 s) {f:za0} (hf:f.okB 20 3) (hfw:f.wid<=1000) (act:Int):(((f.flat false).forg (zdq (zaa s act).1 s.vars.length)).okB 30 19) :=
 za0.okB_mono (by decide) (by decide) _ (forg_ok _ _ (flat_okA2 (by decide) (Nat.le_refl _) f hf false) (Nat.le_trans (zjd f false) (by omega)))
theorem LPreM (s:zar) (f:za0) (hf:f.okB 20 3) (_hfw:f.wid<=1000):Fn Tryz.prog 26 [] [vG (zaj s),vI (-1),(vF f)] (vF (zhn [f])) []:=by
 refine Fn.body Tryz.func26 rfl 67 rfl fun w H B a h=>Jq 0 [] [(1,vI (-1)),(3,vp 0 0),(5,vp 1 0),(6,vp 2 0)] [(0,.box (zaj s)),(1,.box (zF f)),(2,.box zF0)] h fun a w h=>qW (Je 3 [(1,.cmp (op:=.eql) (m:=(-1)) (n:=(-1)) (b:=true) .i64 rfl)] [] [(16,vb true)] h fun a w h=>cS true h (fun _=>?_) nofun)
 refine Jd 3 [(1,.g (bD 18 ([f].map za0.d) [(17,(vF f))] zkt (.cons (i:=0) (OV.tmp 17 _) (.nil)) (by simp only [List.map_cons,List.map_nil,List.flatten_cons,List.flatten_nil,List.append_nil,za0.d_eq];kernel_rfl) (by simp [za0.d_len]))),(2,.call (LAll [f] (fun g hg=>by rw [List.mem_singleton.1 hg];exact za0.okB_mono (by decide) (by decide) _ hf) (show List.length _<=1000000 from by simp)) zju)] [16] [] [(0,.box (zaj s)),(1,.box (zF f)),(2,.box (zF (zhn [f])))] h fun a w h=>qV (za6 (rA 2 (zF (zhn [f])) h zct rfl ?_));rfl
theorem LPreS (s:zar) (act:Int) (f:za0) (ha:act≠-1) (hs:zb9 3 s) (hw:SysW s) (hf:f.okB 20 3) (hfw:f.wid<=1000):Fn Tryz.prog 26 [] [vG (zaj s),vI act,(vF f)] (vF (if (zaa s act).2=true then zhn [ziu s (zaa s act).1,(za0.each (zcb (zd5 (zaa s act).1 s.vars.length) (zdl (zaa s act).1 s.vars.length)) (za0.forg (zdq (zaa s act).1 s.vars.length) (za0.flat f false)))] else zd3 false)) []:=by
 have lvs:=hs.vars;obtain ⟨lq1,lq2,lq3⟩:=pre_len (zaa s act).1 s.vars.length;have hpt:=preT_ok hs hf hfw act;have hcl:(za0.forg (zdq (zaa s act).1 s.vars.length) (za0.flat f false)).cl.okB 30 20:=okB_cl (by decide) _ hpt
 have hsl:∀ g ∈ [ziu s (zaa s act).1,(za0.each (zcb (zd5 (zaa s act).1 s.vars.length) (zdl (zaa s act).1 s.vars.length)) (za0.forg (zdq (zaa s act).1 s.vars.length) (za0.flat f false)))],g.okB 900 60:=fun g hg=>by
  rcases List.mem_cons.1 hg with rfl | hg
  ·exact za0.okB_mono (by decide) (by decide) _ (zjk hs (zbr hs act) (zge hw act))
  rw [List.mem_singleton.1 hg];exact za0.okB_mono (by decide) (by decide) _ (put_ok hpt (preB_ok (zbr hs act) _))
 refine Fn.body Tryz.func26 rfl 67 rfl fun w H B a h=>Jq 5 [] [(1,vI act),(3,vp 5 0),(5,vp 6 0),(6,vp 7 0)] [(5,.box (zaj s)),(6,.box (zF f)),(7,.box zF0)] h fun a w h=>qW (Je 8 [(1,.cmp (op:=.eql) (m:=act) (n:=(-1)) (b:=false) .i64 (beq_eq_false_iff_ne.2 ha))] [] [(16,vb false)] h fun a w h=>zax false h rfl nofun (fun _=>qU (za1 (Jd 8 [(2,.call (Lsound s act hs) md3_7)] [1,16] [(7,vp 8 0),(8,vb (zaa s act).2)] [(5,.box (zaj s)),(6,.box (zF f)),(7,.box zF0),(8,.box ([cI (zaa s act).1.proc,cI (zaa s act).1.from_,cI (zaa s act).1.to_,cI (zaa s act).1.guard.kind,cPs (zaa s act).1.guard.r.t.parts]++zi (zaa s act).1.guard.r.t.k++[cB (zaa s act).1.guard.r.eq,cFs (zaa s act).1.guard.kids,.d (.sl 5 ((zaa s act).1.moves.map zae.d))]))] h fun a w h=>qW (Je 9 [] [8] [(27,vb (!(zaa s act).2))] h fun a w h=>cS (!(zaa s act).2) h (fun hc1=>?_) (fun hc2=>?_))))))
 ·have hc1':=hc1;(try simp at hc1');refine Jd 9 [(0,.call (zgw false) la_8)] [27] [] [(5,.box (zaj s)),(6,.box (zF f)),(7,.box (zF (zd3 false))),(8,.box ([cI (zaa s act).1.proc,cI (zaa s act).1.from_,cI (zaa s act).1.to_,cI (zaa s act).1.guard.kind,cPs (zaa s act).1.guard.r.t.parts]++zi (zaa s act).1.guard.r.t.k++[cB (zaa s act).1.guard.r.eq,cFs (zaa s act).1.guard.kids,.d (.sl 5 ((zaa s act).1.moves.map zae.d))]))] h fun a w h=>qV (za6 (rA 7 (zF (zd3 false)) h zct rfl ?_));rw [if_neg (by rw [(show ((zaa s act).2)=false from by simpa using hc1)];exact Bool.noConfusion)];try rfl
 have hc2':=hc2;(try simp at hc2');refine qU (za1 (Je 9 [] [27] [(9,vW zad),(10,vW zad)] h fun a w h=>Je 9 [] [] [(11,vW zad)] h fun a w h=>qW (Je 9 [(2,.len (za7 1 zg4 s.vars))] [] [(31,vN s.vars.length),(32,vI 0)] h fun a w h=>qZ ?_)));replace h:=zfk 9 0 9 1 3 (vW zad) [(3,vp 5 0),(5,vp 6 0),(6,vp 7 0),(7,vp 8 0),(9,vO 9 0),(10,vW zad),(11,vW zad),(31,vN s.vars.length),(32,vI 0)] [(5,.box (zaj s)),(6,.box (zF f)),(7,.box zF0),(8,.box ([cI (zaa s act).1.proc,cI (zaa s act).1.from_,cI (zaa s act).1.to_,cI (zaa s act).1.guard.kind,cPs (zaa s act).1.guard.r.t.parts]++zi (zaa s act).1.guard.r.t.k++[cB (zaa s act).1.guard.r.eq,cFs (zaa s act).1.guard.kids,.d (.sl 5 ((zaa s act).1.moves.map zae.d))])),(9,.row 3 1 ([].map zai))] h (by kernel_rfl) rfl rfl;replace h:=zfk 10 0 10 1 3 (vW zad) [(3,vp 5 0),(5,vp 6 0),(6,vp 7 0),(7,vp 8 0),(9,vO 9 0),(10,vO 10 0),(11,vW zad),(31,vN s.vars.length),(32,vI 0)] [(5,.box (zaj s)),(6,.box (zF f)),(7,.box zF0),(8,.box ([cI (zaa s act).1.proc,cI (zaa s act).1.from_,cI (zaa s act).1.to_,cI (zaa s act).1.guard.kind,cPs (zaa s act).1.guard.r.t.parts]++zi (zaa s act).1.guard.r.t.k++[cB (zaa s act).1.guard.r.eq,cFs (zaa s act).1.guard.kids,.d (.sl 5 ((zaa s act).1.moves.map zae.d))])),(9,.row 3 1 ([].map zai)),(10,.row 3 1 ([].map zai))] h (by kernel_rfl) rfl rfl;replace h:=zfk 11 0 11 3 30 (vW zad) [(3,vp 5 0),(5,vp 6 0),(6,vp 7 0),(7,vp 8 0),(9,vO 9 0),(10,vO 10 0),(11,vO 11 0),(31,vN s.vars.length),(32,vI 0)] [(5,.box (zaj s)),(6,.box (zF f)),(7,.box zF0),(8,.box ([cI (zaa s act).1.proc,cI (zaa s act).1.from_,cI (zaa s act).1.to_,cI (zaa s act).1.guard.kind,cPs (zaa s act).1.guard.r.t.parts]++zi (zaa s act).1.guard.r.t.k++[cB (zaa s act).1.guard.r.eq,cFs (zaa s act).1.guard.kids,.d (.sl 5 ((zaa s act).1.moves.map zae.d))])),(9,.row 3 1 ([].map zai)),(10,.row 3 1 ([].map zai)),(11,.row 30 3 ([].map zal.d))] h (by kernel_rfl) rfl rfl;replace h:=cv (fun z_:List Int=>F.of [(3,vp 5 0),(5,vp 6 0),(6,vp 7 0),(7,vp 8 0),(9,vO 9 z_.length),(10,vO 10 0),(11,vO 11 0),(31,vN s.vars.length),(32,vI 0)] [(5,.box (zaj s)),(6,.box (zF f)),(7,.box zF0),(8,.box ([cI (zaa s act).1.proc,cI (zaa s act).1.from_,cI (zaa s act).1.to_,cI (zaa s act).1.guard.kind,cPs (zaa s act).1.guard.r.t.parts]++zi (zaa s act).1.guard.r.t.k++[cB (zaa s act).1.guard.r.eq,cFs (zaa s act).1.guard.kids,.d (.sl 5 ((zaa s act).1.moves.map zae.d))])),(9,.row 3 1 (z_.map zai)),(10,.row 3 1 ([].map zai)),(11,.row 30 3 ([].map zal.d))]) (show ([]:List Int)=(zd5 (zaa s act).1 0) from rfl) h;replace h:=cv (fun z_:List Int=>F.of [(3,vp 5 0),(5,vp 6 0),(6,vp 7 0),(7,vp 8 0),(9,vO 9 (zd5 (zaa s act).1 0).length),(10,vO 10 z_.length),(11,vO 11 0),(31,vN s.vars.length),(32,vI 0)] [(5,.box (zaj s)),(6,.box (zF f)),(7,.box zF0),(8,.box ([cI (zaa s act).1.proc,cI (zaa s act).1.from_,cI (zaa s act).1.to_,cI (zaa s act).1.guard.kind,cPs (zaa s act).1.guard.r.t.parts]++zi (zaa s act).1.guard.r.t.k++[cB (zaa s act).1.guard.r.eq,cFs (zaa s act).1.guard.kids,.d (.sl 5 ((zaa s act).1.moves.map zae.d))])),(9,.row 3 1 ((zd5 (zaa s act).1 0).map zai)),(10,.row 3 1 (z_.map zai)),(11,.row 30 3 ([].map zal.d))]) (show ([]:List Int)=(zdq (zaa s act).1 0) from rfl) h
 refine zap (ι:=(Nat)) (fun j=>j<=s.vars.length)
   (fun j=>[(3,vp 5 0),(5,vp 6 0),(6,vp 7 0),(7,vp 8 0),(9,vO 9 (zd5 (zaa s act).1 j).length),(10,vO 10 (zdq (zaa s act).1 j).length),(11,vO 11 (zdl (zaa s act).1 j).length),(31,vN s.vars.length),(32,vN j)])
   (fun j=>[(5,.box (zaj s)),(6,.box (zF f)),(7,.box zF0),(8,.box ([cI (zaa s act).1.proc,cI (zaa s act).1.from_,cI (zaa s act).1.to_,cI (zaa s act).1.guard.kind,cPs (zaa s act).1.guard.r.t.parts]++zi (zaa s act).1.guard.r.t.k++[cB (zaa s act).1.guard.r.eq,cFs (zaa s act).1.guard.kids,.d (.sl 5 ((zaa s act).1.moves.map zae.d))])),(9,.row 3 1 ((zd5 (zaa s act).1 j).map zai)),(10,.row 3 1 ((zdq (zaa s act).1 j).map zai)),(11,.row 30 3 ((zdl (zaa s act).1 j).map zal.d))])
   (fun j=>s.vars.length - j) 0 ?_ h (by kernel_rfl) (by kernel_rfl) ?_
 ·exact Nat.zero_le _
 clear h;rintro j a w hI h;obtain ⟨lp1,lp2,lp3⟩:=pre_len (zaa s act).1 j;refine Je 12 [] [] [(33,vb (decide ((j:Int)<(s.vars.length:Int))))] h fun a w h=>qW (zam ((j:Int)<(s.vars.length:Int)) h (fun hc3 hc3'=>?_) (fun hc6 hc6'=>?_))
 ·refine qU (za1 (qW (qZ (Je 12 [] [33] [(12,vN j)] h fun a w h=>Jd 12 [(2,.call (Lvalue (zaa s act).1 j (zbr hs _)) mc2_15)] [] [(13,vp 12 0),(14,vb (zbs (zaa s act).1 j).2)] [(5,.box (zaj s)),(6,.box (zF f)),(7,.box zF0),(8,.box ([cI (zaa s act).1.proc,cI (zaa s act).1.from_,cI (zaa s act).1.to_,cI (zaa s act).1.guard.kind,cPs (zaa s act).1.guard.r.t.parts]++zi (zaa s act).1.guard.r.t.k++[cB (zaa s act).1.guard.r.eq,cFs (zaa s act).1.guard.kids,.d (.sl 5 ((zaa s act).1.moves.map zae.d))])),(9,.row 3 1 ((zd5 (zaa s act).1 j).map zai)),(10,.row 3 1 ((zdq (zaa s act).1 j).map zai)),(11,.row 30 3 ((zdl (zaa s act).1 j).map zal.d)),(12,.box (zT (zbs (zaa s act).1 j).1))] h fun a w h=>Je 13 [] [14] [(41,vb (zbs (zaa s act).1 j).2)] h fun a w h=>cS (zbs (zaa s act).1 j).2 h (fun hc4=>?_) (fun hc5=>?_)))))
  ·refine Jm 13 [(2,.g (bD 44 ([(j:Int)].map zai) [(43,vN j)] tb_0 (.cons (i:=0) (OV.tmp 43 _) (.nil)) (by kernel_rfl) (by simp [zai]))),(3,.g (aD 45 42 44 9 13 (zd5 (zaa s act).1 j) [(j:Int)] zai tb_2 (by simp [zai]))),(6,.g (bD 48 ([(zbs (zaa s act).1 j).1].map zal.d) [(47,(vT (zbs (zaa s act).1 j).1))] tq_13 (.cons (i:=0) (OV.tmp 47 _) (.nil)) (by kernel_rfl) (by simp [zal.d]))),(7,.g (aD 49 46 48 11 14 (zdl (zaa s act).1 j) [(zbs (zaa s act).1 j).1] zal.d mi7_9 (by simp [zal.d])))] [12,13,41] [(9,vO 13 ((zd5 (zaa s act).1 j)++[(j:Int)]).length),(11,vO 14 ((zdl (zaa s act).1 j)++[(zbs (zaa s act).1 j).1]).length)] [(5,.box (zaj s)),(6,.box (zF f)),(7,.box zF0),(8,.box ([cI (zaa s act).1.proc,cI (zaa s act).1.from_,cI (zaa s act).1.to_,cI (zaa s act).1.guard.kind,cPs (zaa s act).1.guard.r.t.parts]++zi (zaa s act).1.guard.r.t.k++[cB (zaa s act).1.guard.r.eq,cFs (zaa s act).1.guard.kids,.d (.sl 5 ((zaa s act).1.moves.map zae.d))])),(10,.row 3 1 ((zdq (zaa s act).1 j).map zai)),(13,.row 3 1 (((zd5 (zaa s act).1 j)++[(j:Int)]).map zai)),(14,.row 30 3 (((zdl (zaa s act).1 j)++[(zbs (zaa s act).1 j).1]).map zal.d))] h fun a w h=>za8 (za1 (Jf 15 [(0,.j1 j)] [] [(32,vI ((j:Int)+1))] h fun a w h=>za1 ?_));rw [show (((zd5 (zaa s act).1 j)++[(j:Int)]):List Int)=(zd5 (zaa s act).1 (j+1)) from (by rw [(zg5 (zaa s act).1 j).1,if_pos hc4];first | done | simp)] at h;replace h:=cv (fun z_:List Int=>F.of [(3,vp 5 0),(5,vp 6 0),(6,vp 7 0),(7,vp 8 0),(9,vO 13 (zd5 (zaa s act).1 (j+1)).length),(10,vO 10 z_.length),(11,vO 14 ((zdl (zaa s act).1 j)++[(zbs (zaa s act).1 j).1]).length),(31,vN s.vars.length),(32,vI ((j:Int)+1))] [(5,.box (zaj s)),(6,.box (zF f)),(7,.box zF0),(8,.box ([cI (zaa s act).1.proc,cI (zaa s act).1.from_,cI (zaa s act).1.to_,cI (zaa s act).1.guard.kind,cPs (zaa s act).1.guard.r.t.parts]++zi (zaa s act).1.guard.r.t.k++[cB (zaa s act).1.guard.r.eq,cFs (zaa s act).1.guard.kids,.d (.sl 5 ((zaa s act).1.moves.map zae.d))])),(10,.row 3 1 (z_.map zai)),(13,.row 3 1 ((zd5 (zaa s act).1 (j+1)).map zai)),(14,.row 30 3 (((zdl (zaa s act).1 j)++[(zbs (zaa s act).1 j).1]).map zal.d))]) (show ((zdq (zaa s act).1 j):List Int)=(zdq (zaa s act).1 (j+1)) from (by rw [(zg5 (zaa s act).1 j).2.2,if_pos hc4];first | done | simp)) h;rw [show (((zdl (zaa s act).1 j)++[(zbs (zaa s act).1 j).1]):List zal)=(zdl (zaa s act).1 (j+1)) from (by rw [(zg5 (zaa s act).1 j).2.1,if_pos hc4];first | done | simp)] at h;replace h:=ze3 13 9 [(3,vp 5 0),(5,vp 6 0),(6,vp 7 0),(7,vp 8 0),(9,vO 9 (zd5 (zaa s act).1 (j+1)).length),(10,vO 10 (zdq (zaa s act).1 (j+1)).length),(11,vO 14 (zdl (zaa s act).1 (j+1)).length),(31,vN s.vars.length),(32,vI ((j:Int)+1))] [(5,.box (zaj s)),(6,.box (zF f)),(7,.box zF0),(8,.box ([cI (zaa s act).1.proc,cI (zaa s act).1.from_,cI (zaa s act).1.to_,cI (zaa s act).1.guard.kind,cPs (zaa s act).1.guard.r.t.parts]++zi (zaa s act).1.guard.r.t.k++[cB (zaa s act).1.guard.r.eq,cFs (zaa s act).1.guard.kids,.d (.sl 5 ((zaa s act).1.moves.map zae.d))])),(10,.row 3 1 ((zdq (zaa s act).1 (j+1)).map zai)),(14,.row 30 3 ((zdl (zaa s act).1 (j+1)).map zal.d)),(9,.row 3 1 ((zd5 (zaa s act).1 (j+1)).map zai))] h;replace h:=ze3 14 11 [(3,vp 5 0),(5,vp 6 0),(6,vp 7 0),(7,vp 8 0),(9,vO 9 (zd5 (zaa s act).1 (j+1)).length),(10,vO 10 (zdq (zaa s act).1 (j+1)).length),(11,vO 11 (zdl (zaa s act).1 (j+1)).length),(31,vN s.vars.length),(32,vI ((j:Int)+1))] [(5,.box (zaj s)),(6,.box (zF f)),(7,.box zF0),(8,.box ([cI (zaa s act).1.proc,cI (zaa s act).1.from_,cI (zaa s act).1.to_,cI (zaa s act).1.guard.kind,cPs (zaa s act).1.guard.r.t.parts]++zi (zaa s act).1.guard.r.t.k++[cB (zaa s act).1.guard.r.eq,cFs (zaa s act).1.guard.kids,.d (.sl 5 ((zaa s act).1.moves.map zae.d))])),(10,.row 3 1 ((zdq (zaa s act).1 (j+1)).map zai)),(9,.row 3 1 ((zd5 (zaa s act).1 (j+1)).map zai)),(11,.row 30 3 ((zdl (zaa s act).1 (j+1)).map zal.d))] h;refine zag (x:=j) (y:=j+1) h ?_ ?_
   ·have:=dT hc3;show j+1<=s.vars.length;omega
   show s.vars.length - (j+1)<s.vars.length - j;have:=dT hc3;omega
  refine Jm 15 [(2,.g (bD 52 ([(j:Int)].map zai) [(51,vN j)] tb_0 (.cons (i:=0) (OV.tmp 51 _) (.nil)) (by kernel_rfl) (by simp [zai]))),(3,.g (aD 53 50 52 10 15 (zdq (zaa s act).1 j) [(j:Int)] zai tb_2 (by simp [zai])))] [12,13,41] [(10,vO 15 ((zdq (zaa s act).1 j)++[(j:Int)]).length)] [(5,.box (zaj s)),(6,.box (zF f)),(7,.box zF0),(8,.box ([cI (zaa s act).1.proc,cI (zaa s act).1.from_,cI (zaa s act).1.to_,cI (zaa s act).1.guard.kind,cPs (zaa s act).1.guard.r.t.parts]++zi (zaa s act).1.guard.r.t.k++[cB (zaa s act).1.guard.r.eq,cFs (zaa s act).1.guard.kids,.d (.sl 5 ((zaa s act).1.moves.map zae.d))])),(9,.row 3 1 ((zd5 (zaa s act).1 j).map zai)),(11,.row 30 3 ((zdl (zaa s act).1 j).map zal.d)),(15,.row 3 1 (((zdq (zaa s act).1 j)++[(j:Int)]).map zai))] h fun a w h=>za8 (za1 (Jf 16 [(0,.j1 j)] [] [(32,vI ((j:Int)+1))] h fun a w h=>za1 ?_));replace h:=cv (fun z_:List Int=>F.of [(3,vp 5 0),(5,vp 6 0),(6,vp 7 0),(7,vp 8 0),(9,vO 9 z_.length),(10,vO 15 ((zdq (zaa s act).1 j)++[(j:Int)]).length),(11,vO 11 (zdl (zaa s act).1 j).length),(31,vN s.vars.length),(32,vI ((j:Int)+1))] [(5,.box (zaj s)),(6,.box (zF f)),(7,.box zF0),(8,.box ([cI (zaa s act).1.proc,cI (zaa s act).1.from_,cI (zaa s act).1.to_,cI (zaa s act).1.guard.kind,cPs (zaa s act).1.guard.r.t.parts]++zi (zaa s act).1.guard.r.t.k++[cB (zaa s act).1.guard.r.eq,cFs (zaa s act).1.guard.kids,.d (.sl 5 ((zaa s act).1.moves.map zae.d))])),(9,.row 3 1 (z_.map zai)),(11,.row 30 3 ((zdl (zaa s act).1 j).map zal.d)),(15,.row 3 1 (((zdq (zaa s act).1 j)++[(j:Int)]).map zai))]) (show ((zd5 (zaa s act).1 j):List Int)=(zd5 (zaa s act).1 (j+1)) from (by rw [(zg5 (zaa s act).1 j).1,if_neg (by rw [hc5];exact Bool.noConfusion)];first | done | simp)) h;rw [show (((zdq (zaa s act).1 j)++[(j:Int)]):List Int)=(zdq (zaa s act).1 (j+1)) from (by rw [(zg5 (zaa s act).1 j).2.2,if_neg (by rw [hc5];exact Bool.noConfusion)];first | done | simp)] at h;replace h:=cv (fun z_:List zal=>F.of [(3,vp 5 0),(5,vp 6 0),(6,vp 7 0),(7,vp 8 0),(9,vO 9 (zd5 (zaa s act).1 (j+1)).length),(10,vO 15 (zdq (zaa s act).1 (j+1)).length),(11,vO 11 z_.length),(31,vN s.vars.length),(32,vI ((j:Int)+1))] [(5,.box (zaj s)),(6,.box (zF f)),(7,.box zF0),(8,.box ([cI (zaa s act).1.proc,cI (zaa s act).1.from_,cI (zaa s act).1.to_,cI (zaa s act).1.guard.kind,cPs (zaa s act).1.guard.r.t.parts]++zi (zaa s act).1.guard.r.t.k++[cB (zaa s act).1.guard.r.eq,cFs (zaa s act).1.guard.kids,.d (.sl 5 ((zaa s act).1.moves.map zae.d))])),(9,.row 3 1 ((zd5 (zaa s act).1 (j+1)).map zai)),(11,.row 30 3 (z_.map zal.d)),(15,.row 3 1 ((zdq (zaa s act).1 (j+1)).map zai))]) (show ((zdl (zaa s act).1 j):List zal)=(zdl (zaa s act).1 (j+1)) from (by rw [(zg5 (zaa s act).1 j).2.1,if_neg (by rw [hc5];exact Bool.noConfusion)];first | done | simp)) h;replace h:=ze3 15 10 [(3,vp 5 0),(5,vp 6 0),(6,vp 7 0),(7,vp 8 0),(9,vO 9 (zd5 (zaa s act).1 (j+1)).length),(10,vO 10 (zdq (zaa s act).1 (j+1)).length),(11,vO 11 (zdl (zaa s act).1 (j+1)).length),(31,vN s.vars.length),(32,vI ((j:Int)+1))] [(5,.box (zaj s)),(6,.box (zF f)),(7,.box zF0),(8,.box ([cI (zaa s act).1.proc,cI (zaa s act).1.from_,cI (zaa s act).1.to_,cI (zaa s act).1.guard.kind,cPs (zaa s act).1.guard.r.t.parts]++zi (zaa s act).1.guard.r.t.k++[cB (zaa s act).1.guard.r.eq,cFs (zaa s act).1.guard.kids,.d (.sl 5 ((zaa s act).1.moves.map zae.d))])),(9,.row 3 1 ((zd5 (zaa s act).1 (j+1)).map zai)),(11,.row 30 3 ((zdl (zaa s act).1 (j+1)).map zal.d)),(10,.row 3 1 ((zdq (zaa s act).1 (j+1)).map zai))] h;refine zag (x:=j) (y:=j+1) h ?_ ?_
  ·have:=dT hc3;show j+1<=s.vars.length;omega
  show s.vars.length - (j+1)<s.vars.length - j;have:=dT hc3;omega
 refine wp_exit (za9 (za9 (za5 (za1 ?_))));replace h:=cv (fun z_:List Int=>F.of [(3,vp 5 0),(5,vp 6 0),(6,vp 7 0),(7,vp 8 0),(9,vO 9 z_.length),(10,vO 10 (zdq (zaa s act).1 j).length),(11,vO 11 (zdl (zaa s act).1 j).length),(31,vN s.vars.length),(32,vN j),(33,vb (decide ((j:Int)<(s.vars.length:Int))))] [(5,.box (zaj s)),(6,.box (zF f)),(7,.box zF0),(8,.box ([cI (zaa s act).1.proc,cI (zaa s act).1.from_,cI (zaa s act).1.to_,cI (zaa s act).1.guard.kind,cPs (zaa s act).1.guard.r.t.parts]++zi (zaa s act).1.guard.r.t.k++[cB (zaa s act).1.guard.r.eq,cFs (zaa s act).1.guard.kids,.d (.sl 5 ((zaa s act).1.moves.map zae.d))])),(9,.row 3 1 (z_.map zai)),(10,.row 3 1 ((zdq (zaa s act).1 j).map zai)),(11,.row 30 3 ((zdl (zaa s act).1 j).map zal.d))]) (show ((zd5 (zaa s act).1 j):List Int)=(zd5 (zaa s act).1 s.vars.length) from (by rw [show j=s.vars.length by have:=dF hc6;omega])) h;replace h:=zi0 9 1 3 ((zd5 (zaa s act).1 s.vars.length).map zai) [(3,vp 5 0),(5,vp 6 0),(6,vp 7 0),(7,vp 8 0),(9,(vIs (zd5 (zaa s act).1 s.vars.length))),(10,vO 10 (zdq (zaa s act).1 j).length),(11,vO 11 (zdl (zaa s act).1 j).length),(31,vN s.vars.length),(32,vN j),(33,vb (decide ((j:Int)<(s.vars.length:Int))))] [(5,.box (zaj s)),(6,.box (zF f)),(7,.box zF0),(8,.box ([cI (zaa s act).1.proc,cI (zaa s act).1.from_,cI (zaa s act).1.to_,cI (zaa s act).1.guard.kind,cPs (zaa s act).1.guard.r.t.parts]++zi (zaa s act).1.guard.r.t.k++[cB (zaa s act).1.guard.r.eq,cFs (zaa s act).1.guard.kids,.d (.sl 5 ((zaa s act).1.moves.map zae.d))])),(10,.row 3 1 ((zdq (zaa s act).1 j).map zai)),(11,.row 30 3 ((zdl (zaa s act).1 j).map zal.d))] h rfl (show zbw _ [(zd5 (zaa s act).1 s.vars.length).length] from ⟨by first | exact (List.length_map _).symm | (simp;done) | (simp;omega),trivial⟩) trivial;replace h:=cv (fun z_:List Int=>F.of [(3,vp 5 0),(5,vp 6 0),(6,vp 7 0),(7,vp 8 0),(9,(vIs (zd5 (zaa s act).1 s.vars.length))),(10,vO 10 z_.length),(11,vO 11 (zdl (zaa s act).1 j).length),(31,vN s.vars.length),(32,vN j),(33,vb (decide ((j:Int)<(s.vars.length:Int))))] [(5,.box (zaj s)),(6,.box (zF f)),(7,.box zF0),(8,.box ([cI (zaa s act).1.proc,cI (zaa s act).1.from_,cI (zaa s act).1.to_,cI (zaa s act).1.guard.kind,cPs (zaa s act).1.guard.r.t.parts]++zi (zaa s act).1.guard.r.t.k++[cB (zaa s act).1.guard.r.eq,cFs (zaa s act).1.guard.kids,.d (.sl 5 ((zaa s act).1.moves.map zae.d))])),(10,.row 3 1 (z_.map zai)),(11,.row 30 3 ((zdl (zaa s act).1 j).map zal.d))]) (show ((zdq (zaa s act).1 j):List Int)=(zdq (zaa s act).1 s.vars.length) from (by rw [show j=s.vars.length by have:=dF hc6;omega])) h;replace h:=zi0 10 1 3 ((zdq (zaa s act).1 s.vars.length).map zai) [(3,vp 5 0),(5,vp 6 0),(6,vp 7 0),(7,vp 8 0),(9,(vIs (zd5 (zaa s act).1 s.vars.length))),(10,(vIs (zdq (zaa s act).1 s.vars.length))),(11,vO 11 (zdl (zaa s act).1 j).length),(31,vN s.vars.length),(32,vN j),(33,vb (decide ((j:Int)<(s.vars.length:Int))))] [(5,.box (zaj s)),(6,.box (zF f)),(7,.box zF0),(8,.box ([cI (zaa s act).1.proc,cI (zaa s act).1.from_,cI (zaa s act).1.to_,cI (zaa s act).1.guard.kind,cPs (zaa s act).1.guard.r.t.parts]++zi (zaa s act).1.guard.r.t.k++[cB (zaa s act).1.guard.r.eq,cFs (zaa s act).1.guard.kids,.d (.sl 5 ((zaa s act).1.moves.map zae.d))])),(11,.row 30 3 ((zdl (zaa s act).1 j).map zal.d))] h rfl (show zbw _ [(zdq (zaa s act).1 s.vars.length).length] from ⟨by first | exact (List.length_map _).symm | (simp;done) | (simp;omega),trivial⟩) trivial;replace h:=cv (fun z_:List zal=>F.of [(3,vp 5 0),(5,vp 6 0),(6,vp 7 0),(7,vp 8 0),(9,(vIs (zd5 (zaa s act).1 s.vars.length))),(10,(vIs (zdq (zaa s act).1 s.vars.length))),(11,vO 11 z_.length),(31,vN s.vars.length),(32,vN j),(33,vb (decide ((j:Int)<(s.vars.length:Int))))] [(5,.box (zaj s)),(6,.box (zF f)),(7,.box zF0),(8,.box ([cI (zaa s act).1.proc,cI (zaa s act).1.from_,cI (zaa s act).1.to_,cI (zaa s act).1.guard.kind,cPs (zaa s act).1.guard.r.t.parts]++zi (zaa s act).1.guard.r.t.k++[cB (zaa s act).1.guard.r.eq,cFs (zaa s act).1.guard.kids,.d (.sl 5 ((zaa s act).1.moves.map zae.d))])),(11,.row 30 3 (z_.map zal.d))]) (show ((zdl (zaa s act).1 j):List zal)=(zdl (zaa s act).1 s.vars.length) from (by rw [show j=s.vars.length by have:=dF hc6;omega])) h;replace h:=zi0 11 3 30 ((zdl (zaa s act).1 s.vars.length).map zal.d) [(3,vp 5 0),(5,vp 6 0),(6,vp 7 0),(7,vp 8 0),(9,(vIs (zd5 (zaa s act).1 s.vars.length))),(10,(vIs (zdq (zaa s act).1 s.vars.length))),(11,vS 3 ((zdl (zaa s act).1 s.vars.length).map zal.d)),(31,vN s.vars.length),(32,vN j),(33,vb (decide ((j:Int)<(s.vars.length:Int))))] [(5,.box (zaj s)),(6,.box (zF f)),(7,.box zF0),(8,.box ([cI (zaa s act).1.proc,cI (zaa s act).1.from_,cI (zaa s act).1.to_,cI (zaa s act).1.guard.kind,cPs (zaa s act).1.guard.r.t.parts]++zi (zaa s act).1.guard.r.t.k++[cB (zaa s act).1.guard.r.eq,cFs (zaa s act).1.guard.kids,.d (.sl 5 ((zaa s act).1.moves.map zae.d))]))] h rfl (show zbw _ [(zdl (zaa s act).1 s.vars.length).length] from ⟨by first | exact (List.length_map _).symm | (simp;done) | (simp;omega),trivial⟩) trivial;refine Jq 16 [(2,.call (Lcan s (zaa s act).1 hs (zbr hs _) (zge hw _)) md3_9),(4,.call (LFlat f (za0.okB_mono (by decide) (by decide) _ hf) (by omega)) li9_6),(6,.call (Lforget (zdq (zaa s act).1 s.vars.length) (by omega) (za0.flat f false) (za0.okA_mono (by decide) (by decide) _ (flat_okA2 (by decide) (Nat.le_refl _) f hf false)) (Nat.le_trans (zjd f false) (by omega))) me4_8),(9,.call (LPutAllF (za0.forg (zdq (zaa s act).1 s.vars.length) (za0.flat f false)) (zd5 (zaa s act).1 s.vars.length) (zdl (zaa s act).1 s.vars.length) (za0.okB_mono (by decide) (by decide) _ hpt) hcl (preB_ok (zbr hs act) _) (by omega) (by omega)) mi7_13),(10,.g (Op.buildD (d:=65) (len:=2) (rows:=[(ziu s (zaa s act).1),(za0.each (zcb (zd5 (zaa s act).1 s.vars.length) (zdl (zaa s act).1 s.vars.length)) (za0.forg (zdq (zaa s act).1 s.vars.length) (za0.flat f false)))].map za0.d) (rs:=[(57,(vF (ziu s (zaa s act).1))),(64,(vF (za0.each (zcb (zd5 (zaa s act).1 s.vars.length) (zdl (zaa s act).1 s.vars.length)) (za0.forg (zdq (zaa s act).1 s.vars.length) (za0.flat f false)))))]) zkt (.cons (i:=0) (OV.tmp 57 _) (.cons (i:=1) (OV.tmp 64 _) (.nil))) (by simp only [List.map_cons,List.map_nil,List.flatten_cons,List.flatten_nil,List.append_nil,za0.d_eq];kernel_rfl) rfl (by simp [za0.d_len]) (by decide) (by decide))),(11,.call (LAll [ziu s (zaa s act).1,(za0.each (zcb (zd5 (zaa s act).1 s.vars.length) (zdl (zaa s act).1 s.vars.length)) (za0.forg (zdq (zaa s act).1 s.vars.length) (za0.flat f false)))] (fun g hg=>za0.okB_mono (by decide) (by decide) _ (hsl g hg)) (show List.length _<=1000000 from by simp)) zju)] [(6,vp 7 0)] [(7,.box (zF (zhn [ziu s (zaa s act).1,(za0.each (zcb (zd5 (zaa s act).1 s.vars.length) (zdl (zaa s act).1 s.vars.length)) (za0.forg (zdq (zaa s act).1 s.vars.length) (za0.flat f false)))])))] h fun a w h=>qV (rA 7 (zF (zhn [ziu s (zaa s act).1,(za0.each (zcb (zd5 (zaa s act).1 s.vars.length) (zdl (zaa s act).1 s.vars.length)) (za0.forg (zdq (zaa s act).1 s.vars.length) (za0.flat f false)))])) h zct rfl ?_);rw [if_pos (show ((zaa s act).2)=true from by simpa using hc2)];try rfl
theorem mj9_0:za4 Tryz.prog 30:=za4.mk' (by kernel_rfl)
theorem mj9_3:za4 Tryz.prog 26:=za4.mk' (by kernel_rfl)
theorem mj9_5:za4 Tryz.prog 13:=za4.mk' (by kernel_rfl)
theorem mj9_6:za4 Tryz.prog 11:=za4.mk' (by kernel_rfl)
theorem zk7:za4 Tryz.prog 33:=za4.mk' (by kernel_rfl)
theorem zk6:za4 Tryz.prog 32:=za4.mk' (by kernel_rfl)
theorem mj9_10:za4 Tryz.prog 20:=za4.mk' (by kernel_rfl)
theorem mj9_11:za4 Tryz.prog 22:=za4.mk' (by kernel_rfl)
theorem mj9_13:za4 Tryz.prog 18:=za4.mk' (by kernel_rfl)
theorem at_ok9 {f:za0} (h:f.okB 40 200) (s:zar) (k:Nat):(atF s f k).okB 40 203:=zkp (t:=zcr (offZ s k)) (fun r hr=>by
 have:=movZ_tok (hr.plain (by decide)) (by decide) (zah (offZ s k))
 exact this) f h
theorem rngK_ok {s:zar} (hs:zb9 3 s) (k:Nat):(atF s (zdp s) k).okB 40 203:=at_ok9 (za0.okB_mono (by decide) (by decide) _ (rngF_ok hs)) s k
theorem startK_ok {s:zar} (hs:zb9 3 s) (hw:SysW s) (k:Nat):(atF s (zhn [s.init,zdp s]) k).okB 40 203:=at_ok9 (za0.okB_mono (Nat.le_refl _) (by decide) _ (zf0 (n:=40) (L:=60) (by decide) (fun g hg=>by
 rcases List.mem_cons.1 hg with rfl | hg
 ·exact za0.okB_mono (by decide) (by decide) _ (zfz hs.init (by have:=hw.1;omega))
 ·rw [List.mem_singleton.1 hg];exact za0.okB_mono (by decide) (by decide) _ (rngF_ok hs)) (show List.length _<=1000000 from by simp))) s k
theorem canK_ok {s:zar} (hs:zb9 3 s) (hw:SysW s) (act:Int) (k:Nat):(canK s act k).okB 40 203:=by
 unfold canK;split
 ·exact at_ok9 (za0.okB_mono (by decide) (by decide) _ (zjk hs (zbr hs act) (zge hw act))) s k
 ·exact zj2 _ _ _
theorem stuckK_ok {s:zar} (hs:zb9 3 s) (hw:SysW s) (locs:List Int) (k:Nat):(atF s (ze2 s locs) k).okB 40 203:=at_ok9 (za0.okB_mono (by decide) (by decide) _ (stkF_ok hs hw locs)) s k
theorem stepK_ok {s:zar} (hs:zb9 3 s) (hw:SysW s) (locs:List Int) (act:Int) (k:Nat):(zhd s locs act k).okB 40 203:=by
 unfold zhd
 have hl:=stpL_len s
 have hv:=hs.vars
 split
 ·exact at_ok9 (za0.okB_mono (Nat.le_refl _) (by decide) _ (zf0 (n:=40) (L:=60) (by decide) (stpL_ok (za0.okB_mono (by decide) (by decide) _ (stkF_ok hs hw locs)) (zbr hs (-1))) (Nat.le_trans (hl (ze2 s locs) (zaf s locs (-1)).1) (by omega)))) s k
 ·split
  ·refine at_ok9 (za0.okB_mono (Nat.le_refl _) (by decide) _ (zf0 (n:=40) (L:=103) (by decide) (fun g hg=>?_) ?_)) s k
   ·rcases List.mem_append.1 hg with hg | hg
    ·exact za0.okB_mono (by decide) (by decide) _ (stpL_ok (za0.okB_mono (by decide) (by decide) _ (zfz (zbr hs act).guard (Nat.le_trans (zge hw act) (by decide)))) (zbr hs act) g hg)
    ·rw [List.mem_singleton.1 hg];exact rng1_ok hs
   ·rw [List.length_append,List.length_singleton];have:=hl (zaf s locs act).1.guard (zaf s locs act).1;omega
  ·exact zj2 _ _ _
theorem preK_ok {s:zar} (hs:zb9 3 s) (hw:SysW s) (act:Int) {f:za0} (hf:f.okB 20 3) (hfw:f.wid<=1000):(zcp s act f).okB 900 61:=by
 unfold zcp;split
 ·exact za0.okB_mono (by decide) (by decide) _ (zf0 (n:=20) (L:=3) (by decide) (fun g hg=>by rw [List.mem_singleton.1 hg];exact hf) (show List.length _<=1000000 from by simp))
 ·split
  ·refine zf0 (n:=900) (L:=60) (by decide) (fun g hg=>?_) (show List.length _<=1000000 from by simp)
   rcases List.mem_cons.1 hg with rfl | hg
   ·exact za0.okB_mono (by decide) (by decide) _ (zjk hs (zbr hs act) (zge hw act))
   ·rw [List.mem_singleton.1 hg];exact za0.okB_mono (by decide) (by decide) _ (put_ok (preT_ok hs hf hfw act) (preB_ok (zbr hs act) _))
  ·exact zj2 _ _ _
theorem LStep (s:zar) (locs:List Int) (act:Int) (k:Nat) (hs:zb9 3 s) (hw:SysW s) (hl:locs.length<=9223372036854775807) (hk:k<=4096):Fn Tryz.prog 13 [] [vG (zaj s),(vIs locs),vi .i64 act,vi .i64 (k:Int)] (vF (zhd s locs act k)) []:=by
 by_cases ha:act=-1
 ·subst ha;rw [show zhd s locs (-1) k=_ from if_pos rfl];exact LStepM s locs k hs hw hl hk
 ·cases hb:(zaf s locs act).2 with
  | true=>rw [show zhd s locs act k=_ from (if_neg ha).trans (if_pos hb)];exact LStepS s locs act k ha hb hs hw hl hk
  | false=>rw [show zhd s locs act k=_ from (if_neg ha).trans (if_neg (by rw [hb];exact Bool.noConfusion))];exact LStepN s locs act k ha hb hs hl
theorem LPre (s:zar) (act:Int) (f:za0) (hs:zb9 3 s) (hw:SysW s) (hf:f.okB 20 3) (hfw:f.wid<=1000):Fn Tryz.prog 26 [] [vG (zaj s),vi .i64 act,(vF f)] (vF (zcp s act f)) []:=by
 by_cases ha:act=-1
 ·subst ha;rw [show zcp s (-1) f=_ from if_pos rfl];exact LPreM s f hf hfw
 ·rw [show zcp s act f=_ from if_neg ha];exact LPreS s act f ha hs hw hf hfw
theorem LCanK (s:zar) (act:Int) (k:Nat) (hs:zb9 3 s) (hw:SysW s) (hk:k<=4096):Fn Tryz.prog 20 [] [vG (zaj s),vi .i64 act,vi .i64 (k:Int)] (vF (canK s act k)) []:=LCan s act k hs hw hk
def zed:za0:=⟨2,⟨⟨[⟨0,ZI.of 1⟩],ZI.of (-3)⟩,false⟩,[]⟩
theorem ev0:za0.holds ([2].map ZI.of) (zcp zc8 0 zed)=true:=by kernel_rfl
theorem ev1:za0.holds ([1].map ZI.of) (zcp zc8 0 zed)=false:=by kernel_rfl
theorem ev2:za0.holds ([3].map ZI.of) (zcp zc8 0 zed)=false:=by kernel_rfl
theorem ev3:za0.holds ([1,2].map ZI.of) (zhd zc8 [0] 0 0)=true:=by kernel_rfl
theorem ev4:za0.holds ([1,1].map ZI.of) (zhd zc8 [0] 0 0)=false:=by kernel_rfl
theorem ev5:za0.holds ([3,4].map ZI.of) (zhd zc8 [0] 0 0)=false:=by kernel_rfl
theorem ev6:za0.holds ([2].map ZI.of) (canK zc8 0 0)=true:=by kernel_rfl
theorem ev7:za0.holds ([3].map ZI.of) (canK zc8 0 0)=false:=by kernel_rfl
theorem ev8:za0.holds ([0].map ZI.of) (atF zc8 (ze2 zc8 [1]) 0)=true:=by kernel_rfl
theorem ev9:za0.holds ([0].map ZI.of) (atF zc8 (ze2 zc8 [0]) 0)=false:=by kernel_rfl
theorem ev10:za0.holds ([9,3].map ZI.of) (atF zc8 (zdp zc8) 1)=true:=by kernel_rfl
theorem ev11:za0.holds ([0].map ZI.of) (atF zc8 (zhn [zc8.init,zdp zc8]) 0)=true:=by kernel_rfl
theorem evp1:(zkm zc8 [0] 0).1=[1]:=by kernel_rfl
theorem evp2:(zkm zc8 [0] 0).2=true:=by kernel_rfl
theorem evp3:(zkm zc8 [1] 0).2=false:=by kernel_rfl
theorem evp4:(zkm zc8 [1] 0).1=[]:=by kernel_rfl
theorem vokE (ns:List Int) (hl:ns.length<=2000) (h:∀ z ∈ ns,-9223372036854775808<=z/\z<=9223372036854775807):VOk 3 (ns.map ZI.of):=⟨by rw [List.length_map];exact hl,fun y hy=>by
 obtain ⟨z,hz,rfl⟩:=List.mem_map.1 hy
 have:=h z hz
 exact ⟨ZI.lb_of _,Nat.le_trans (ZI.len_of (L:=2) (by have:=pw2;omega)) (by decide)⟩⟩
theorem zdo:SysW zc8:=⟨Nat.le_of_ble_eq_true (by kernel_rfl),fun c hc=>by rw [mem1 hc];exact Nat.le_of_ble_eq_true (by kernel_rfl)⟩
theorem three_few:zit zed 20 3=true:=by kernel_rfl
theorem three_lb:zed.lb:=(za0.lb_eq _).2 ⟨⟨⟨ZI.lb_of _,fun p hp=>by rw [mem1 hp];exact ZI.lb_of 1⟩,Nat.zero_le _⟩,fun g hg=>(by cases hg)⟩
theorem zf4:zed.okB 20 3/\zed.wid<=60:=fewF_okB three_few three_lb
theorem LAlive :Fn Tryz.prog 7 [] [] (vb true) []:=by
 refine Fn.body Tryz.func7 rfl 137 rfl fun w H B a h=>Jq 0 [] [(0,vb false)] [] h fun a w h=>Jd 0 [(0,.call (SSys) mj9_0)] [] [(1,vp 0 0)] [(0,.box (zaj zc8))] h fun a w h=>Jd 1 [(0,.call (SROf 1 ⟨by decide,by decide⟩) tc_0),(2,.g (bD 12 ([(za3.mk 0 (ZI.of 1))].map za3.d) [(11,vG ([cI 0]++zi (ZI.of 1)))] tb_9 (.cons (i:=0) (OV.tmp 11 _) (.nil)) (by kernel_rfl) (by simp [za3.d]))),(3,.call (SROf (-3) ⟨by decide,by decide⟩) tc_0)] [] [(2,vp 1 0)] [(0,.box (zaj zc8)),(1,.box ([cI 2,cPs [(za3.mk 0 (ZI.of 1))]]++zi (ZI.of (-3))++[cB false,.d (.raw zad)]))] h fun a w h=>Jd 2 [(2,.call (Fn.argw (LPre zc8 0 zed zbt zdo zf4.1 (Nat.le_trans zf4.2 (by decide))) (.cons _ _ _ _ (.refl _) (.cons _ _ _ _ (.refl _) (.cons _ _ _ _ (.agg _ _ (.same _ _ _ (.same _ _ _ (.same _ _ _ (.same _ _ _ (.same _ _ _ (.d _ _ _ _ (.nil _) .nil))))))) .nil)))) mj9_3)] [2] [(3,vp 2 0)] [(0,.box (zaj zc8)),(2,.box (zF (zcp zc8 0 zed)))] h fun a w h=>Jd 3 [(1,.g (Op.buildD (d:=21) (len:=1) (rows:=[0].map zai) (rs:=[]) tb_0 (.cons (i:=0) (OV.const (.int .i64 0) rfl) (.nil)) (by kernel_rfl) rfl (by simp [zai]) (by decide) (by decide))),(2,.call (LStep zc8 [0] 0 0 zbt zdo (by decide) (by decide)) mj9_5)] [] [(4,vp 3 0)] [(0,.box (zaj zc8)),(2,.box (zF (zcp zc8 0 zed))),(3,.box (zF (zhd zc8 [0] 0 0)))] h fun a w h=>Je 4 [(1,.g (Op.buildD (d:=25) (len:=1) (rows:=[0].map zai) (rs:=[]) tb_0 (.cons (i:=0) (OV.const (.int .i64 0) rfl) (.nil)) (by kernel_rfl) rfl (by simp [zai]) (by decide) (by decide))),(2,.call (Fn.cast (LPlaces zc8 [0] 0 zbt (by decide)) (show (.tup [.c (cIs (zkm zc8 [0] 0).1),.c (cB (zkm zc8 [0] 0).2)]:V) = .tup [.c (cIs [1]),.c (cB true)] from by rw [evp1,evp2])) mj9_6)] [] [(5,(vIs [1])),(6,vb true)] h fun a w h=>Je 4 [(1,.g (Op.buildD (d:=31) (len:=1) (rows:=[1].map zai) (rs:=[]) tb_0 (.cons (i:=0) (OV.const (.int .i64 1) rfl) (.nil)) (by kernel_rfl) rfl (by simp [zai]) (by decide) (by decide))),(2,.call (Fn.cast (LPlaces zc8 [1] 0 zbt (by decide)) (show (.tup [.c (cIs (zkm zc8 [1] 0).1),.c (cB (zkm zc8 [1] 0).2)]:V) = .tup [.c (cIs []),.c (cB false)] from by rw [evp4,evp3])) mj9_6)] [] [(8,vb false)] h fun a w h=>?_
 refine Jq 4 [(1,.g (Op.buildD (d:=36) (len:=1) (rows:=[2].map zai) (rs:=[]) to_1 (.cons (i:=0) (OV.const (.int .i64 2) rfl) (.nil)) (by kernel_rfl) rfl (by simp [zai]) (by decide) (by decide))),(2,.call (zkc [2] (by decide) (by decide)) zk7),(3,.call (Fn.cast (zkd (zcp zc8 0 zed) ([2].map ZI.of) (M:=3) (by decide) (vokE _ (by decide) (by decide)) (za0.okB_mono (by decide) (by decide) _ (preK_ok zbt zdo 0 zf4.1 (Nat.le_trans zf4.2 (by decide))))) (show (vb (za0.holds ([2].map ZI.of) (zcp zc8 0 zed)):V)=vb true from by rw [ev0])) zk6),(6,.g (Op.buildD (d:=41) (len:=1) (rows:=[1].map zai) (rs:=[]) to_1 (.cons (i:=0) (OV.const (.int .i64 1) rfl) (.nil)) (by kernel_rfl) rfl (by simp [zai]) (by decide) (by decide))),(7,.call (zkc [1] (by decide) (by decide)) zk7),(8,.call (Fn.cast (zkd (zcp zc8 0 zed) ([1].map ZI.of) (M:=3) (by decide) (vokE _ (by decide) (by decide)) (za0.okB_mono (by decide) (by decide) _ (preK_ok zbt zdo 0 zf4.1 (Nat.le_trans zf4.2 (by decide))))) (show (vb (za0.holds ([1].map ZI.of) (zcp zc8 0 zed)):V)=vb false from by rw [ev1])) zk6),(13,.g (Op.buildD (d:=48) (len:=1) (rows:=[3].map zai) (rs:=[]) to_1 (.cons (i:=0) (OV.const (.int .i64 3) rfl) (.nil)) (by kernel_rfl) rfl (by simp [zai]) (by decide) (by decide))),(14,.call (zkc [3] (by decide) (by decide)) zk7),(15,.call (Fn.cast (zkd (zcp zc8 0 zed) ([3].map ZI.of) (M:=3) (by decide) (vokE _ (by decide) (by decide)) (za0.okB_mono (by decide) (by decide) _ (preK_ok zbt zdo 0 zf4.1 (Nat.le_trans zf4.2 (by decide))))) (show (vb (za0.holds ([3].map ZI.of) (zcp zc8 0 zed)):V)=vb false from by rw [ev2])) zk6),(20,.g (Op.buildD (d:=55) (len:=2) (rows:=[1,2].map zai) (rs:=[]) to_1 (.cons (i:=0) (OV.const (.int .i64 1) rfl) (.cons (i:=1) (OV.const (.int .i64 2) rfl) (.nil))) (by kernel_rfl) rfl (by simp [zai]) (by decide) (by decide))),(21,.call (zkc [1,2] (by decide) (by decide)) zk7),(22,.call (Fn.cast (zkd (zhd zc8 [0] 0 0) ([1,2].map ZI.of) (M:=3) (by decide) (vokE _ (by decide) (by decide)) (za0.okB_mono (by decide) (by decide) _ (stepK_ok zbt zdo [0] 0 0))) (show (vb (za0.holds ([1,2].map ZI.of) (zhd zc8 [0] 0 0)):V)=vb true from by rw [ev3])) zk6),(26,.g (Op.buildD (d:=61) (len:=2) (rows:=[1,1].map zai) (rs:=[]) to_1 (.cons (i:=0) (OV.const (.int .i64 1) rfl) (.cons (i:=1) (OV.const (.int .i64 1) rfl) (.nil))) (by kernel_rfl) rfl (by simp [zai]) (by decide) (by decide))),(27,.call (zkc [1,1] (by decide) (by decide)) zk7),(28,.call (Fn.cast (zkd (zhd zc8 [0] 0 0) ([1,1].map ZI.of) (M:=3) (by decide) (vokE _ (by decide) (by decide)) (za0.okB_mono (by decide) (by decide) _ (stepK_ok zbt zdo [0] 0 0))) (show (vb (za0.holds ([1,1].map ZI.of) (zhd zc8 [0] 0 0)):V)=vb false from by rw [ev4])) zk6),(33,.g (Op.buildD (d:=68) (len:=2) (rows:=[3,4].map zai) (rs:=[]) to_1 (.cons (i:=0) (OV.const (.int .i64 3) rfl) (.cons (i:=1) (OV.const (.int .i64 4) rfl) (.nil))) (by kernel_rfl) rfl (by simp [zai]) (by decide) (by decide))),(34,.call (zkc [3,4] (by decide) (by decide)) zk7),(35,.call (Fn.cast (zkd (zhd zc8 [0] 0 0) ([3,4].map ZI.of) (M:=3) (by decide) (vokE _ (by decide) (by decide)) (za0.okB_mono (by decide) (by decide) _ (stepK_ok zbt zdo [0] 0 0))) (show (vb (za0.holds ([3,4].map ZI.of) (zhd zc8 [0] 0 0)):V)=vb false from by rw [ev5])) zk6),(40,.call (LCanK zc8 0 0 zbt zdo (by decide)) mj9_10),(41,.g (Op.buildD (d:=76) (len:=1) (rows:=[2].map zai) (rs:=[]) to_1 (.cons (i:=0) (OV.const (.int .i64 2) rfl) (.nil)) (by kernel_rfl) rfl (by simp [zai]) (by decide) (by decide))),(42,.call (zkc [2] (by decide) (by decide)) zk7),(43,.call (Fn.cast (zkd (canK zc8 0 0) ([2].map ZI.of) (M:=3) (by decide) (vokE _ (by decide) (by decide)) (za0.okB_mono (by decide) (by decide) _ (canK_ok zbt zdo 0 0))) (show (vb (za0.holds ([2].map ZI.of) (canK zc8 0 0)):V)=vb true from by rw [ev6])) zk6),(47,.call (LCanK zc8 0 0 zbt zdo (by decide)) mj9_10),(48,.g (Op.buildD (d:=83) (len:=1) (rows:=[3].map zai) (rs:=[]) to_1 (.cons (i:=0) (OV.const (.int .i64 3) rfl) (.nil)) (by kernel_rfl) rfl (by simp [zai]) (by decide) (by decide))),(49,.call (zkc [3] (by decide) (by decide)) zk7),(50,.call (Fn.cast (zkd (canK zc8 0 0) ([3].map ZI.of) (M:=3) (by decide) (vokE _ (by decide) (by decide)) (za0.okB_mono (by decide) (by decide) _ (canK_ok zbt zdo 0 0))) (show (vb (za0.holds ([3].map ZI.of) (canK zc8 0 0)):V)=vb false from by rw [ev7])) zk6),(55,.g (Op.buildD (d:=90) (len:=1) (rows:=[1].map zai) (rs:=[]) tb_0 (.cons (i:=0) (OV.const (.int .i64 1) rfl) (.nil)) (by kernel_rfl) rfl (by simp [zai]) (by decide) (by decide))),(56,.call (LStuck zc8 [1] 0 zbt zdo (by decide) (by decide)) mj9_11),(57,.g (Op.buildD (d:=92) (len:=1) (rows:=[0].map zai) (rs:=[]) to_1 (.cons (i:=0) (OV.const (.int .i64 0) rfl) (.nil)) (by kernel_rfl) rfl (by simp [zai]) (by decide) (by decide))),(58,.call (zkc [0] (by decide) (by decide)) zk7),(59,.call (Fn.cast (zkd (atF zc8 (ze2 zc8 [1]) 0) ([0].map ZI.of) (M:=3) (by decide) (vokE _ (by decide) (by decide)) (za0.okB_mono (by decide) (by decide) _ (stuckK_ok zbt zdo [1] 0))) (show (vb (za0.holds ([0].map ZI.of) (atF zc8 (ze2 zc8 [1]) 0)):V)=vb true from by rw [ev8])) zk6),(63,.g (Op.buildD (d:=98) (len:=1) (rows:=[0].map zai) (rs:=[]) tb_0 (.cons (i:=0) (OV.const (.int .i64 0) rfl) (.nil)) (by kernel_rfl) rfl (by simp [zai]) (by decide) (by decide))),(64,.call (LStuck zc8 [0] 0 zbt zdo (by decide) (by decide)) mj9_11),(65,.g (Op.buildD (d:=100) (len:=1) (rows:=[0].map zai) (rs:=[]) to_1 (.cons (i:=0) (OV.const (.int .i64 0) rfl) (.nil)) (by kernel_rfl) rfl (by simp [zai]) (by decide) (by decide))),(66,.call (zkc [0] (by decide) (by decide)) zk7),(67,.call (Fn.cast (zkd (atF zc8 (ze2 zc8 [0]) 0) ([0].map ZI.of) (M:=3) (by decide) (vokE _ (by decide) (by decide)) (za0.okB_mono (by decide) (by decide) _ (stuckK_ok zbt zdo [0] 0))) (show (vb (za0.holds ([0].map ZI.of) (atF zc8 (ze2 zc8 [0]) 0)):V)=vb false from by rw [ev9])) zk6),(72,.call (LRange zc8 1 zbt (by decide)) mg6_13),(73,.g (Op.buildD (d:=108) (len:=2) (rows:=[9,3].map zai) (rs:=[]) to_1 (.cons (i:=0) (OV.const (.int .i64 9) rfl) (.cons (i:=1) (OV.const (.int .i64 3) rfl) (.nil))) (by kernel_rfl) rfl (by simp [zai]) (by decide) (by decide))),(74,.call (zkc [9,3] (by decide) (by decide)) zk7),(75,.call (Fn.cast (zkd (atF zc8 (zdp zc8) 1) ([9,3].map ZI.of) (M:=3) (by decide) (vokE _ (by decide) (by decide)) (za0.okB_mono (by decide) (by decide) _ (rngK_ok zbt 1))) (show (vb (za0.holds ([9,3].map ZI.of) (atF zc8 (zdp zc8) 1)):V)=vb true from by rw [ev10])) zk6),(79,.call (LStart zc8 0 zbt zdo (by decide)) mj9_13),(80,.g (Op.buildD (d:=115) (len:=1) (rows:=[0].map zai) (rs:=[]) to_1 (.cons (i:=0) (OV.const (.int .i64 0) rfl) (.nil)) (by kernel_rfl) rfl (by simp [zai]) (by decide) (by decide))),(81,.call (zkc [0] (by decide) (by decide)) zk7),(82,.call (Fn.cast (zkd (atF zc8 (zhn [zc8.init,zdp zc8]) 0) ([0].map ZI.of) (M:=3) (by decide) (vokE _ (by decide) (by decide)) (za0.okB_mono (by decide) (by decide) _ (startK_ok zbt zdo 0))) (show (vb (za0.holds ([0].map ZI.of) (atF zc8 (zhn [zc8.init,zdp zc8]) 0)):V)=vb true from by rw [ev11])) zk6),(89,.len (za7 1 zai ([1]))),(90,.cmp (op:=.eql) (m:=([1].length:Int)) (n:=1) (b:=true) .i64 (show (([1].length:Int) == 1)=true from by decide)),(94,.g (xD 129 128 zi5 (zab (show [(1:Int)][0]?=some 1 from rfl) (f:=zai)) (OV.const (.int .i64 0) rfl))),(96,.cmp (op:=.eql) (m:=1) (n:=1) (b:=true) .i64 (show ((1:Int) == 1)=true from by decide))] [(0,vb true)] [] h fun a w h=>?_;refine qV (rT (.c (cB true)) h rfl ?_);rfl
theorem few_wid {f:za0} {n:Int} (hn:0<=n) (hn2:n<=30) (h:zit f n 3=true):f.wid<=100:=by
 unfold zit at h
 rw [Bool.and_eq_true] at h
 have h1:f.size n<=n:=by have:=h.1;simpa using this
 have hw:=size_wid f n hn h1
 omega
theorem few_w {s:zar} (h:zbq 3 s=true):SysW s:=by
 unfold zbq at h
 simp only [Bool.and_eq_true,decide_eq_true_eq,List.all_eq_true] at h
 refine ⟨few_wid (by decide) (by decide) h.1.2,fun c hc=>?_⟩
 have:=h.2.2 c hc
 unfold fewA at this
 simp only [Bool.and_eq_true] at this
 first | exact few_wid (by decide) (by decide) this.1.2 | exact few_wid (by decide) (by decide) this.1 | exact few_wid (by decide) (by decide) this.2.1 | exact few_wid (by decide) (by decide) this.1.1
theorem smB_sys {s:zar} {xs:List StD} (h:smB s xs=true) (hs:SysRd s):zb9 3 s/\SysW s:=by
 unfold smB at h
 rw [Bool.and_eq_true] at h
 exact ⟨few_sys h.2 hs,few_w h.2⟩
theorem smB_st {s:zar} {xs:List StD} (h:smB s xs=true) {x:StD} (hm:x ∈ xs) (hx:StRd x):zjn 3 x:=by
 unfold smB at h
 rw [Bool.and_eq_true,List.all_eq_true] at h
 exact few_st (h.1 x hm) hx
theorem put_rel {n:Nat} {c:zaw} {x y:StD} (hv:∀ v,v<n->zb1 c v=false->(zgh x c v).val=((y.vals[v]?).getD ze6).val) {r:zay} (hr:Bel n r.t) (hno:∀ v,v<n->zan r.t.parts (v:Int)≠0->zb1 c v=false):zbf x.vals (zcb (zd5 c n) (zdl c n) (cpR r))=zbf y.vals r:=by
 rw [<- zkk y.vals r]
 unfold zbf zcb
 rw [put_val9 (t:=(cpR r).t) (ws:=y.vals) fun v h0 hne=>?_]
 have hne:zan r.t.parts v≠0:=by rw [<- zfq];exact hne
 obtain ⟨u,rfl⟩:∃ u:Nat,v=(u:Int):=⟨v.toNat,(Int.toNat_of_nonneg h0).symm⟩
 have hu:u<n:=Nat.lt_of_not_le fun h=>hne (hr _ (by omega))
 have hf:=hno u hu hne
 have hk:(zbs c u).2=true:=by rw [zi4,hf];rfl
 rw [pick_known hk n hu,valA_new hf,vals_at,hv u hu hf]
theorem pre_put {n:Nat} {c:zaw} {x y:StD} {f:za0} (hB:zhc n f) (hv:∀ v,v<n->zb1 c v=false->(zgh x c v).val=((y.vals[v]?).getD ze6).val) (hh:f.holds y.vals=true):(((f.flat false).forg (zdq c n)).each (zcb (zd5 c n) (zdl c n))).holds x.vals=true:=by
 refine forg_holds (m:=n) (us:=x.vals) (ws:=y.vals) (tr:=zcb (zd5 c n) (zdl c n)) (fun r hr hno=>put_rel hv hr fun u hu hne=>?_) (f.flat false) (flat_fl f false) (flat_fk f false) (belF_flat f hB false) (by rw [flat_holds,hh];rfl)
 cases h:zb1 c u with
 | false=>rfl
 | true =>
  exfalso
  have hm:(u:Int) ∈ zdq c n:=preN_mem.2 ⟨hu,by rw [zi4,h];rfl⟩
  have h2:=List.any_eq_false.1 hno _ hm
  have:hasV r.t (u:Int)=false:=by simpa using h2
  unfold hasV sgn at this
  split at this <;> simp at this <;> first | omega | (split at this <;> simp at this <;> omega) | exact hne this
theorem pre_put_all {n:Nat} {c:zaw} {x y:StD} {f:za0} (hB:zhc n f) (hn:∀ v,zb1 c v=false) (hv:∀ v,v<n->zb1 c v=false->(zgh x c v).val=((y.vals[v]?).getD ze6).val):(((f.flat false).forg (zdq c n)).each (zcb (zd5 c n) (zdl c n))).holds x.vals=f.holds y.vals:=by
 have e:zdq c n=[]:=by
  refine List.eq_nil_iff_forall_not_mem.2 fun a ha=>?_
  unfold zdq at ha
  obtain ⟨u,_,hx⟩:=List.mem_flatMap.1 ha
  rw [show (zbs c u).2=true by rw [zi4,hn u];rfl,if_pos rfl] at hx
  cases hx
 rw [e,forg_all (m:=n) (us:=x.vals) (ws:=y.vals) (tr:=zcb (zd5 c n) (zdl c n)) (fun r hr=>put_rel hv hr fun u _ _=>hn u) (f.flat false) (flat_fl f false) (flat_fk f false) (belF_flat f hB false),flat_holds]
 cases f.holds y.vals <;> rfl
theorem same_at9 {x y:List ZI} (h:x.map ZI.val=y.map ZI.val) (v:Int):zdb x v=zdb y v:=by
 unfold zdb
 split
 ·have:=congrArg (fun l=>l[v.toNat]?) h
  simp only [List.getElem?_map] at this
  cases e1:x[v.toNat]? <;> cases e2:y[v.toNat]? <;> rw [e1,e2] at this <;> simp at this <;> first | rfl | exact this
 ·rfl
theorem snd_of_beg {s:zar} {locs:List Int} {i:Int} (h:(zaf s locs i).2=true):(zaa s i).2=true:=by
 have h:((zaa s i).2 && begB s locs (zaa s i).1)=true:=h
 rw [Bool.and_eq_true] at h;exact h.1
theorem snd_act {s:zar} {i:Int} {c:zaw} (h:zcs s i=some c):(zaa s i).1=c:=by unfold zaa;rw [h]
theorem lead_pre {s:zar} (_hp:ProS s) {x y:StD} {f:za0} (hB:zhc s.vars.length f) (act:Int) (hl:leads s x act y=true) (hh:f.holds y.vals=true):(zcp s act f).holds x.vals=true:=by
 unfold zcp
 by_cases ha:act=-1
 ·rw [if_pos ha]
  unfold leads at hl
  rw [if_pos ha,Bool.and_eq_true] at hl
  unfold sameS at hl
  rw [Bool.and_eq_true] at hl
  have hs:=of_decide_eq_true hl.2.2
  rw [zgr,List.all_cons,List.all_nil,Bool.and_true,holds_bel (fun v _ _=>same_at9 hs v) f hB]
  exact hh
 ·rw [if_neg ha]
  unfold leads at hl
  rw [if_neg ha] at hl
  cases hc:zcs s act with
  | none=>rw [hc] at hl;cases hl
  | some c =>
   rw [hc] at hl
   change leadsC s x c y=true at hl
   rw [<- leads_eq] at hl
   unfold leadsRC at hl
   simp only [Bool.and_eq_true] at hl
   obtain ⟨⟨he,hfy⟩,_,hvs⟩:=hl
   have hfx:=zd8 he
   have hxl:=ze4 hfx
   have hyl:=ze4 hfy
   have hb:=enabled_beg hfx hc
   rw [he] at hb
   have hb:=(Bool.and_eq_true _ _ ▸ hb.symm:_/\_)
   have hsn:=snd_of_beg hb.1
   have hca:=snd_act hc
   rw [if_pos hsn,hca,zgr,List.all_cons,List.all_cons,List.all_nil,Bool.and_true]
   have hnew:∀ v,v<s.vars.length->zb1 c v=false->(zgh x c v).val=((y.vals[v]?).getD ze6).val:=fun v hv hf=>by
    have:=ze5.1 hvs v (by rw [hxl.2];exact hv)
    unfold vstep at this
    rw [hf,Bool.false_or] at this
    exact of_decide_eq_true this
   have hok:∀ v,v<s.vars.length->zbl (zbh s v) ((y.vals[v]?).getD ze6)=true:=fun v hv=>by
    unfold zdm at hfy
    rw [Bool.and_eq_true,Bool.and_eq_true] at hfy
    exact ze5.1 hfy.2.2 v (by rw [hyl.2];exact hv)
   rw [Bool.and_eq_true]
   refine ⟨?_,pre_put hB hnew hh⟩
   rw [canF_holds,hb.2,Bool.true_and]
   refine allN_of fun v hv=>?_
   have hw:=hok v hv
   rw [within_w] at hw
   unfold canAt
   cases hf:zb1 c v with
   | true =>
    rw [if_pos rfl]
    unfold wB at hw
    cases hi:(zbh s v).is_ with
    | false=>rfl
    | true =>
     rw [hi] at hw
     simp only [Bool.not_true,Bool.false_or,Bool.and_eq_true,decide_eq_true_eq] at hw
     rw [Bool.true_and,cmpZ_gt,decide_eq_false (by omega)];rfl
   | false =>
    rw [if_neg Bool.noConfusion,within_w,hnew v hv hf];exact hw
theorem pre_exact {s:zar} (_hp:ProS s) {x:StD} {f:za0} (hB:zhc s.vars.length f) (hfx:zdm s x=true) {act:Int} {picks:List ZI} (hb:(zaf s x.locs act).2=true) (hn:∀ v,zb1 (zaa s act).1 v=false):(zcp s act f).holds x.vals=((goS s x act picks).2 && f.holds (goS s x act picks).1.vals):=by
 have hsn:=snd_of_beg hb
 cases hc:zcs s act with
 | none=>rw [beg_none hc] at hb;cases hb
 | some c =>
  have hca:=snd_act hc
  rw [hca] at hn
  have ha:act≠-1:=fun e=>by subst e;simp [zcs] at hc
  have he:=enabled_beg hfx hc
  rw [hb,Bool.true_and] at he
  unfold zcp goS
  rw [if_neg ha,if_pos hsn,if_neg (fun e=>ha e.1),hc,hca,zgr,List.all_cons,List.all_cons,List.all_nil,Bool.and_true,canF_holds,<- he]
  show _=((goC s x c picks).2 && f.holds (goC s x c picks).1.vals)
  unfold goC
  cases hen:zao s x c with
  | false=>rw [if_neg (fun e=>Bool.noConfusion e.1)];rfl
  | true =>
   have hfo:=fits_out picks hen
   have ec:zha s.vars.length (canAt s x c)=zdm s (zdu s x c picks):=by
    rw [hfo]
    refine zh9 fun v _=>?_
    unfold canAt
    rw [hn v,if_neg Bool.noConfusion,zfw (hn v)]
   rw [Bool.true_and,ec]
   cases hfi:zdm s (zdu s x c picks) with
   | false=>rw [if_neg (fun e=>Bool.noConfusion e.2)];rfl
   | true =>
    rw [if_pos ⟨rfl,rfl⟩,Bool.true_and]
    show _=(true && f.holds (zdu s x c picks).vals)
    rw [Bool.true_and]
    exact pre_put_all hB hn fun v hv _=>by rw [out_val hv];show _=(zel x c picks v).val;rw [zfw (hn v)]
theorem pre_self {s:zar} {x:StD} {f:za0}:(zcp s (-1) f).holds x.vals=f.holds x.vals:=by
 unfold zcp;rw [if_pos rfl,zgr,List.all_cons,List.all_nil,Bool.and_true]
theorem zhv {s:zar} {x:StD} {f:za0} {act:Int} (ha:act≠-1) (h:(zaa s act).2=false):(zcp s act f).holds x.vals=false:=by
 unfold zcp;rw [if_neg ha,h,if_neg Bool.noConfusion];exact zc2 _ false
theorem free_any {c:zaw} (h:∀ m ∈ c.moves,m.any=false) (v:Nat):zb1 c v=false:=by
 unfold zb1
 cases e:zj4 c v with
 | none=>rfl
 | some m=>exact h m (val_mv e)
theorem mo2_0:za4 Tryz.prog 7:=za4.mk' (by kernel_rfl)
theorem mo2_2:za4 Tryz.prog 8:=za4.mk' (by kernel_rfl)
theorem mo2_3:za4 Tryz.prog 9:=za4.mk' (by kernel_rfl)
theorem mo2_11:za4 Tryz.prog 28:=za4.mk' (by kernel_rfl)
theorem snd_idx {s:zar} {i:Int} (h:(zaa s i).2=true):0<=i/\i<(s.acts.length:Int):=by
 unfold zaa at h
 cases e:zcs s i with
 | none=>rw [e] at h;cases h
 | some c=>obtain ⟨k,rfl,hk⟩:=zep e;have:=zak hk;omega
theorem snd_at {s:zar} {k:Nat} {c:zaw} (h:s.acts[k]?=some c):(zaa s (k:Int)).1=c:=by
 unfold zaa zcs;rw [if_pos (by omega),Int.toNat_natCast,h]
theorem plc_beg {s:zar} {locs:List Int} {k:Nat} (h:(zkm s locs (k:Int)).2=true):(zaf s locs (k:Int)).2=true:=by
 unfold zkm at h
 rw [if_neg (by omega)] at h
 cases e:(zaf s locs (k:Int)).2 with
 | true=>rfl
 | false=>rw [e,if_neg Bool.noConfusion] at h;cases h
theorem LWpPres (s:zar) (x:StD) (act:Int) (picks:List ZI) (f:za0) (hs:SysRd s) (hx:StRd x) (hpb:∀ z ∈ picks,Lb z.abs) (hpl:picks.length<=9223372036854775807) (hfl:f.lb):Fn Tryz.prog 5 [] [.t (.agg (zaj s)),.t (.agg [.d (.sl 1 (x.locs.map zai)),.d (.sl 2 (x.vals.map ziD))]),vI act,.t (.c (.d (.sl 2 (picks.map ziD)))),.t (.agg ([.d (.raw (.int .i64 f.kind)),.d (.sl 3 (f.r.t.parts.map za3.d))]++zi f.r.t.k++[.d (.raw (.bool f.r.eq)),.d (.sl 6 (f.kids.map za0.d))]))] (vb true) []:=by
 refine Fn.body Tryz.func5 rfl 142 rfl fun w H B a h=>Jq 8 [] [(2,vI act),(3,.t (.c (.d (.sl 2 (picks.map ziD))))),(5,vp 8 0),(6,vp 9 0),(9,vp 10 0),(10,vb false)] [(8,.box (zaj s)),(9,.box [.d (.sl 1 (x.locs.map zai)),.d (.sl 2 (x.vals.map ziD))]),(10,.box ([.d (.raw (.int .i64 f.kind)),.d (.sl 3 (f.r.t.parts.map za3.d))]++zi f.r.t.k++[.d (.raw (.bool f.r.eq)),.d (.sl 6 (f.kids.map za0.d))]))] h fun a w h=>qW (Je 11 [(0,.call (LAlive) mo2_0)] [] [(21,vb false)] h fun a w h=>zax false h rfl nofun (fun _=>qU (za1 (qW ?_))))
 rcases Bool.eq_false_or_eq_true (smB s [x]) with hc1 | hc52
 ·obtain ⟨hs3,hw9⟩:=smB_sys hc1 hs;have lvs:=hs3.vars;have hx3:zjn 3 x:=smB_st hc1 (by simp) hx;have lxl:=hx3.locs;have lxv:=hx3.vals
  rcases Bool.eq_false_or_eq_true (proB s) with hc2 | hc51
  ·rcases Bool.eq_false_or_eq_true (zit f 20 3) with hc3 | hc50
   ·have hf3:=fewF_okB hc3 hfl
    rcases Bool.eq_false_or_eq_true (inB s f) with hc4 | hc49
    ·rcases Bool.eq_false_or_eq_true (zdm s x) with hc5 | hc48
     ·refine Je 11 [(2,.g (bD 24 ([x].map StD.d) [(23,.t (.agg [.d (.sl 1 (x.locs.map zai)),.d (.sl 2 (x.vals.map ziD))]))] kx_3 (.cons (i:=0) (OV.tmp 23 _) (.nil)) (by kernel_rfl) (by simp [StD.d]))),(3,.call (Fn.cast (Lsmall s [x] hs (by intro x_ hx_;simp only [List.mem_cons,List.not_mem_nil,or_false] at hx_;subst hx_;assumption) (by simp)) (congrArg vb hc1)) mo2_2),(7,.call (Fn.cast (Lproper s hs3 hw9) (congrArg vb hc2)) mo2_3),(12,.call (Fn.cast (SFewF f 20 3 hfl (by decide) (by decide)) (congrArg vb hc3)) kt_1),(18,.call (Fn.cast (zjp s f (za0.okB_mono (by decide) (by decide) _ hf3.1) (Nat.le_trans hf3.2 (by decide))) (congrArg vb hc4)) mf5_11),(24,.call (Fn.cast (SRFits s x (L:=3) (M:=3) (by decide) hs3 hx3) (congrArg vb hc5)) kh_6),(29,.len (za7 2 ziD picks))] [21] [(53,vb (decide ((picks.length:Int)>10)))] h fun a w h=>zam ((picks.length:Int)>10) h (fun hc6 hc6'=>?_) (fun hc7 hc7'=>?_)
      ·refine Je 11 [] [53] [(10,vb true)] h fun a w h=>qV (za6 (rT (.c (.d (.raw (.bool true)))) h rfl ?_));rfl
      refine qU (za1 (qW (Je 11 [(1,.len (za7 2 ziD picks))] [53] [(54,.t (.c (.d (.sl 2 (picks.map ziD))))),(55,vN picks.length),(56,vI 0)] h fun a w h=>qZ ?_)))
      refine zap (ι:=(Nat)) (fun j=>j<=picks.length/\(picks.take j).all (fun z=>decide ((z.abs.length:Int)<=3))=true)
        (fun j=>[(2,vI act),(3,.t (.c (.d (.sl 2 (picks.map ziD))))),(5,vp 8 0),(6,vp 9 0),(9,vp 10 0),(54,.t (.c (.d (.sl 2 (picks.map ziD))))),(55,vN picks.length),(56,vN j)])
        (fun j=>[(8,.box (zaj s)),(9,.box [.d (.sl 1 (x.locs.map zai)),.d (.sl 2 (x.vals.map ziD))]),(10,.box ([.d (.raw (.int .i64 f.kind)),.d (.sl 3 (f.r.t.parts.map za3.d))]++zi f.r.t.k++[.d (.raw (.bool f.r.eq)),.d (.sl 6 (f.kids.map za0.d))]))])
        (fun j=>picks.length - j) 0 ?_ h (by kernel_rfl) (by kernel_rfl) ?_
      ·exact ⟨Nat.zero_le _,rfl⟩
      clear h;rintro j a w hI h;obtain ⟨hI1,hI2⟩:=hI;refine Je 11 [] [] [(57,vb (decide ((j:Int)<(picks.length:Int))))] h fun a w h=>qW (zam ((j:Int)<(picks.length:Int)) h (fun hc8 hc8'=>?_) (fun hc11 hc11'=>?_))
      ·refine qU (za1 (qW (qZ ?_)));obtain ⟨x22,hx22⟩:=gl picks j;refine Jd 11 [(0,.g (xD 58 54 tt_6 (zab hx22 (f:=ziD)) (OV.tmp 56 _)))] [57] [(12,vp 11 0)] [(8,.box (zaj s)),(9,.box [.d (.sl 1 (x.locs.map zai)),.d (.sl 2 (x.vals.map ziD))]),(10,.box ([.d (.raw (.int .i64 f.kind)),.d (.sl 3 (f.r.t.parts.map za3.d))]++zi f.r.t.k++[.d (.raw (.bool f.r.eq)),.d (.sl 6 (f.kids.map za0.d))])),(11,.box (zi x22))] h fun a w h=>Jd 12 [(2,.len (zec x22.abs))] [12] [(63,vb (decide ((x22.abs.length:Int)>3)))] [(8,.box (zaj s)),(9,.box [.d (.sl 1 (x.locs.map zai)),.d (.sl 2 (x.vals.map ziD))]),(10,.box ([.d (.raw (.int .i64 f.kind)),.d (.sl 3 (f.r.t.parts.map za3.d))]++zi f.r.t.k++[.d (.raw (.bool f.r.eq)),.d (.sl 6 (f.kids.map za0.d))]))] h fun a w h=>zam ((x22.abs.length:Int)>3) h (fun hc9 hc9'=>?_) (fun hc10 hc10'=>?_)
       ·refine Je 12 [] [63] [(10,vb true)] h fun a w h=>qV (zac (za6 (za6 (zac (za6 (rT (.c (.d (.raw (.bool true)))) h rfl ?_))))));rfl
       refine qU (za8 (za1 (Jf 12 [(0,.j1 j)] [63] [(56,vI ((j:Int)+1))] h fun a w h=>za1 (zag (x:=j) (y:=j+1) h ?_ ?_))))
       ·exact ⟨by have:=zak hx22;omega,zc0 hx22 hI2 (decide_eq_true (by have:=dF hc10;omega))⟩
       show picks.length - (j+1)<picks.length - j;have:=zak hx22;omega
      refine wp_exit (za9 (za9 (za5 (za1 ?_))));have hal:=zc6 (dF hc11) hI2;have hpk:∀ z ∈ picks,ZOk 3 z:=fun z hz=>⟨hpb z hz,by have h0:=List.all_eq_true.1 hal z hz;have h1:=dT h0;omega⟩
      refine midH h [(2,vI (max act (-1))),(3,.t (.c (.d (.sl 2 (picks.map ziD))))),(5,vp 8 0),(6,vp 9 0),(9,vp 10 0)] [(8,.box (zaj s)),(9,.box [.d (.sl 1 (x.locs.map zai)),.d (.sl 2 (x.vals.map ziD))]),(10,.box ([.d (.raw (.int .i64 f.kind)),.d (.sl 3 (f.r.t.parts.map za3.d))]++zi f.r.t.k++[.d (.raw (.bool f.r.eq)),.d (.sl 6 (f.kids.map za0.d))]))] ?_ (fun a w h=>?_)
      ·refine Je 12 [] [54,55,56,57] [(66,vb (decide (act<(-1))))] h fun a w h=>zam (act<(-1)) h (fun hc12 hc12'=>?_) (fun hc13 hc13'=>?_)
       ·refine Jf 12 [] [66] [(2,vI (-1))] h fun a w h=>za1 ?_;have hcn:(max act (-1))=(-1):=by omega
        replace h:=h.conv (f':=F.of [(2,vI (max act (-1))),(3,.t (.c (.d (.sl 2 (picks.map ziD))))),(5,vp 8 0),(6,vp 9 0),(9,vp 10 0)] [(8,.box (zaj s)),(9,.box [.d (.sl 1 (x.locs.map zai)),.d (.sl 2 (x.vals.map ziD))]),(10,.box ([.d (.raw (.int .i64 f.kind)),.d (.sl 3 (f.r.t.parts.map za3.d))]++zi f.r.t.k++[.d (.raw (.bool f.r.eq)),.d (.sl 6 (f.kids.map za0.d))]))]) (by rw [hcn];kernel_rfl);exact atS h
       refine qU (za1 ?_);have hcn:(max act (-1))=act:=by omega
       replace h:=h.conv (f':=F.of [(2,vI (max act (-1))),(3,.t (.c (.d (.sl 2 (picks.map ziD))))),(5,vp 8 0),(6,vp 9 0),(9,vp 10 0),(66,vb (decide (act<(-1))))] [(8,.box (zaj s)),(9,.box [.d (.sl 1 (x.locs.map zai)),.d (.sl 2 (x.vals.map ziD))]),(10,.box ([.d (.raw (.int .i64 f.kind)),.d (.sl 3 (f.r.t.parts.map za3.d))]++zi f.r.t.k++[.d (.raw (.bool f.r.eq)),.d (.sl 6 (f.kids.map za0.d))]))]) (by rw [hcn];kernel_rfl);exact atS h
      refine Je 12 [(3,.call (LPre s (max act (-1)) f hs3 hw9 hf3.1 (Nat.le_trans hf3.2 (by decide))) mj9_3),(6,.call (zdk x.vals (M:=3) (by decide) (hx3.vok) (zcp s (max act (-1)) f) (za0.okB_mono (by decide) (by decide) _ (preK_ok hs3 hw9 _ hf3.1 (Nat.le_trans hf3.2 (by decide))))) zhe)] [] [(13,vb (za0.holds x.vals (zcp s (max act (-1)) f)))] h fun a w h=>Jd 12 [(4,.call (SRGo s x (max act (-1)) picks (L:=3) (M:=3) (by decide) hs3 hx3 hpk hpl) kq_13)] [3] [(14,vp 12 0),(15,vb (goS s x (max act (-1)) picks).2)] [(8,.box (zaj s)),(9,.box [.d (.sl 1 (x.locs.map zai)),.d (.sl 2 (x.vals.map ziD))]),(10,.box ([.d (.raw (.int .i64 f.kind)),.d (.sl 3 (f.r.t.parts.map za3.d))]++zi f.r.t.k++[.d (.raw (.bool f.r.eq)),.d (.sl 6 (f.kids.map za0.d))])),(12,.box [.d (.sl 1 ((goS s x (max act (-1)) picks).1.locs.map zai)),.d (.sl 2 ((goS s x (max act (-1)) picks).1.vals.map ziD))])] h fun a w h=>qW ?_
      rcases Bool.eq_false_or_eq_true (goS s x (max act (-1)) picks).2 with hc14 | hc37
      ·rw [hc14] at h
       rcases Bool.eq_false_or_eq_true (za0.holds (goS s x (max act (-1)) picks).1.vals f) with hc15 | hc26
       ·have hpr9:za0.holds x.vals (zcp s (max act (-1)) f)=true:=lead_pre (pro_of hc2) (in_bel hc4) _ (goS_leads hc14) hc15;have hnp9:(!(za0.holds x.vals (zcp s (max act (-1)) f)))=false:=by rw [hpr9];rfl
        refine Jq 13 [(5,.call (Fn.cast (zdk (goS s x (max act (-1)) picks).1.vals (M:=8) (by decide) (goS_ok (L:=3) (M:=3) hs3 hx3 hpk).vok f (za0.okB_mono (by decide) (by decide) _ hf3.1)) (congrArg vb hc15)) zhe)] [(2,vI (max act (-1))),(5,vp 8 0),(6,vp 9 0),(9,vp 10 0),(13,vb (za0.holds x.vals (zcp s (max act (-1)) f))),(14,vp 12 0),(15,vb true),(92,vb (!(za0.holds x.vals (zcp s (max act (-1)) f))))] [(8,.box (zaj s)),(9,.box [.d (.sl 1 (x.locs.map zai)),.d (.sl 2 (x.vals.map ziD))]),(10,.box ([.d (.raw (.int .i64 f.kind)),.d (.sl 3 (f.r.t.parts.map za3.d))]++zi f.r.t.k++[.d (.raw (.bool f.r.eq)),.d (.sl 6 (f.kids.map za0.d))])),(12,.box [.d (.sl 1 ((goS s x (max act (-1)) picks).1.locs.map zai)),.d (.sl 2 ((goS s x (max act (-1)) picks).1.vals.map ziD))])] h fun a w h=>cS (!(za0.holds x.vals (zcp s (max act (-1)) f))) h (fun hc=>?_) (fun hc=>?_)
        ·rw [hnp9] at hc;cases hc
        clear hc;refine qU (za1 (qW (Je 13 [] [92] [(94,vb ((max act (-1)) == (-1)))] h fun a w h=>cS ((max act (-1)) == (-1)) h (fun hc16=>?_) (fun hc17=>?_))))
        ·have hc16':=hc16;(try simp at hc16');refine Je 13 [(4,.call (zdk x.vals (M:=3) (by decide) (hx3.vok) f (za0.okB_mono (by decide) (by decide) _ hf3.1)) zhe)] [94] [(10,vb (za0.holds x.vals (zcp s (max act (-1)) f) == za0.holds x.vals f))] h fun a w h=>qV (za6 (rT (.c (.d (.raw (.bool (za0.holds x.vals (zcp s (max act (-1)) f) == za0.holds x.vals f))))) h rfl ?_));have ha9:(max act (-1))=-1:=by have:=hc16;simpa using this
         have hz:(za0.holds x.vals (zcp s (max act (-1)) f) == za0.holds x.vals f)=true:=by rw [ha9,pre_self];simp
         rw [hz];try rfl
        have hc17':=hc17;(try simp at hc17');refine qU (za1 (qW (Je 13 [(2,.call (Lsnd s (max act (-1)) hs3) mo2_11)] [94] [(104,vb (!(zaa s (max act (-1))).2))] h fun a w h=>cS (!(zaa s (max act (-1))).2) h (fun hc18=>?_) (fun hc19=>?_))))
        ·have hc18':=hc18;(try simp at hc18');refine Je 13 [] [104] [(10,vb (!(za0.holds x.vals (zcp s (max act (-1)) f))))] h fun a w h=>qV (za6 (rT (.c (.d (.raw (.bool (!(za0.holds x.vals (zcp s (max act (-1)) f))))))) h rfl ?_));have hz:(!(za0.holds x.vals (zcp s (max act (-1)) f)))=true:=by rw [zhv (fun e=>by have:=hc17;simp [e] at this) (by have:=(show ((zaa s (max act (-1))).2)=false from by simpa using hc18);simpa using this)];rfl
         rw [hz];try rfl
        have hc19':=hc19;(try simp at hc19');refine qU (za1 (qW ?_));obtain ⟨hs0,hs1⟩:=snd_idx (show ((zaa s (max act (-1))).2)=true from by simpa using hc19);obtain ⟨ka,hkka⟩:∃ k_:Nat,(max act (-1))=(k_:Int):=⟨_,(Int.toNat_of_nonneg (hs0)).symm⟩;replace h:=h.conv (f':=F.of [(2,vN ka),(5,vp 8 0),(6,vp 9 0),(9,vp 10 0),(13,vb (za0.holds x.vals (zcp s (max act (-1)) f))),(14,vp 12 0),(15,vb true),(104,vb (!(zaa s (max act (-1))).2))] [(8,.box (zaj s)),(9,.box [.d (.sl 1 (x.locs.map zai)),.d (.sl 2 (x.vals.map ziD))]),(10,.box ([.d (.raw (.int .i64 f.kind)),.d (.sl 3 (f.r.t.parts.map za3.d))]++zi f.r.t.k++[.d (.raw (.bool f.r.eq)),.d (.sl 6 (f.kids.map za0.d))])),(12,.box [.d (.sl 1 ((goS s x (max act (-1)) picks).1.locs.map zai)),.d (.sl 2 ((goS s x (max act (-1)) picks).1.vals.map ziD))])]) (by rw [hkka];kernel_rfl);obtain ⟨x30,hx30⟩:=gl s.acts ka;have hc9:=hs3.act x30 (lM hx30);have lm9:=hc9.len;refine Jq 13 [(3,.g (xD 110 108 ki_1 (zab hx30 (f:=zaw.d)) (OV.tmp 109 _))),(6,.len (za7 5 zae.d x30.moves))] [(2,vN ka),(5,vp 8 0),(6,vp 9 0),(9,vp 10 0),(13,vb (za0.holds x.vals (zcp s (max act (-1)) f))),(14,vp 12 0),(15,vb true),(112,.t (.c (.d (.sl 5 (x30.moves.map zae.d))))),(113,vN x30.moves.length),(114,vI 0)] [(8,.box (zaj s)),(9,.box [.d (.sl 1 (x.locs.map zai)),.d (.sl 2 (x.vals.map ziD))]),(10,.box ([.d (.raw (.int .i64 f.kind)),.d (.sl 3 (f.r.t.parts.map za3.d))]++zi f.r.t.k++[.d (.raw (.bool f.r.eq)),.d (.sl 6 (f.kids.map za0.d))])),(12,.box [.d (.sl 1 ((goS s x (max act (-1)) picks).1.locs.map zai)),.d (.sl 2 ((goS s x (max act (-1)) picks).1.vals.map ziD))])] h fun a w h=>qZ ?_
        refine zap (ι:=(Nat)) (fun j=>j<=x30.moves.length/\(x30.moves.take j).all (fun m=>!m.any)=true)
          (fun j=>[(2,vN ka),(5,vp 8 0),(6,vp 9 0),(9,vp 10 0),(13,vb (za0.holds x.vals (zcp s (max act (-1)) f))),(14,vp 12 0),(15,vb true),(112,.t (.c (.d (.sl 5 (x30.moves.map zae.d))))),(113,vN x30.moves.length),(114,vN j)])
          (fun j=>[(8,.box (zaj s)),(9,.box [.d (.sl 1 (x.locs.map zai)),.d (.sl 2 (x.vals.map ziD))]),(10,.box ([.d (.raw (.int .i64 f.kind)),.d (.sl 3 (f.r.t.parts.map za3.d))]++zi f.r.t.k++[.d (.raw (.bool f.r.eq)),.d (.sl 6 (f.kids.map za0.d))])),(12,.box [.d (.sl 1 ((goS s x (max act (-1)) picks).1.locs.map zai)),.d (.sl 2 ((goS s x (max act (-1)) picks).1.vals.map ziD))])])
          (fun j=>x30.moves.length - j) 0 ?_ h (by kernel_rfl) (by kernel_rfl) ?_
        ·exact ⟨Nat.zero_le _,rfl⟩
        clear h;rintro j a w hI h;obtain ⟨hI1,hI2⟩:=hI;refine Je 13 [] [] [(115,vb (decide ((j:Int)<(x30.moves.length:Int))))] h fun a w h=>qW (zam ((j:Int)<(x30.moves.length:Int)) h (fun hc20 hc20'=>?_) (fun hc23 hc23'=>?_))
        ·refine qU (za1 (qW (qZ ?_)));obtain ⟨x31,hx31⟩:=gl x30.moves j;refine Jd 13 [(0,.g (xD 116 112 ki_2 (zab hx31 (f:=zae.d)) (OV.tmp 114 _)))] [115] [(17,vp 13 0)] [(8,.box (zaj s)),(9,.box [.d (.sl 1 (x.locs.map zai)),.d (.sl 2 (x.vals.map ziD))]),(10,.box ([.d (.raw (.int .i64 f.kind)),.d (.sl 3 (f.r.t.parts.map za3.d))]++zi f.r.t.k++[.d (.raw (.bool f.r.eq)),.d (.sl 6 (f.kids.map za0.d))])),(12,.box [.d (.sl 1 ((goS s x (max act (-1)) picks).1.locs.map zai)),.d (.sl 2 ((goS s x (max act (-1)) picks).1.vals.map ziD))]),(13,.box ([.d (.raw (.int .i64 x31.v)),.d (.raw (.bool x31.any)),.d (.sl 3 (x31.t.parts.map za3.d))]++zi x31.t.k))] h fun a w h=>Jd 14 [] [17] [(119,vb x31.any)] [(8,.box (zaj s)),(9,.box [.d (.sl 1 (x.locs.map zai)),.d (.sl 2 (x.vals.map ziD))]),(10,.box ([.d (.raw (.int .i64 f.kind)),.d (.sl 3 (f.r.t.parts.map za3.d))]++zi f.r.t.k++[.d (.raw (.bool f.r.eq)),.d (.sl 6 (f.kids.map za0.d))])),(12,.box [.d (.sl 1 ((goS s x (max act (-1)) picks).1.locs.map zai)),.d (.sl 2 ((goS s x (max act (-1)) picks).1.vals.map ziD))])] h fun a w h=>cS x31.any h (fun hc21=>?_) (fun hc22=>?_)
         ·refine Je 14 [] [119] [(10,vb true)] h fun a w h=>qV (zac (za6 (za6 (zac (za6 (rT (.c (.d (.raw (.bool true)))) h rfl ?_))))));rfl
         refine qU (za8 (za1 (Jf 14 [(0,.j1 j)] [119] [(114,vI ((j:Int)+1))] h fun a w h=>za1 (zag (x:=j) (y:=j+1) h ?_ ?_))))
         ·exact ⟨by have:=zak hx31;omega,zc0 hx31 hI2 (by rw [hc22];rfl)⟩
         show x30.moves.length - (j+1)<x30.moves.length - j;have:=zak hx31;omega
        refine wp_exit (za9 (za9 (za5 (za1 (Jd 14 [(4,.call (LPlaces s x.locs (ka:Int) hs3 (by omega)) mj9_6)] [2,5,6,112,113,114,115] [(19,vb (zkm s x.locs (ka:Int)).2)] [(10,.box ([.d (.raw (.int .i64 f.kind)),.d (.sl 3 (f.r.t.parts.map za3.d))]++zi f.r.t.k++[.d (.raw (.bool f.r.eq)),.d (.sl 6 (f.kids.map za0.d))])),(12,.box [.d (.sl 1 ((goS s x (max act (-1)) picks).1.locs.map zai)),.d (.sl 2 ((goS s x (max act (-1)) picks).1.vals.map ziD))])] h fun a w h=>?_)))))
        rcases Bool.eq_false_or_eq_true (zkm s x.locs (ka:Int)).2 with hc24 | hc25
        ·rw [hc24] at h;refine Jq 14 [(9,.call (Fn.cast (zdk (goS s x (max act (-1)) picks).1.vals (M:=8) (by decide) (goS_ok (L:=3) (M:=3) hs3 hx3 hpk).vok f (za0.okB_mono (by decide) (by decide) _ hf3.1)) (congrArg vb hc15)) zhe)] [(10,vb (za0.holds x.vals (zcp s (max act (-1)) f) == true))] [] h fun a w h=>qV (rT (.c (.d (.raw (.bool (za0.holds x.vals (zcp s (max act (-1)) f) == true))))) h rfl ?_);have hna:∀ v,zb1 (zaa s (ka:Int)).1 v=false:=by rw [snd_at hx30];exact free_any fun m hm=>by have:=List.all_eq_true.1 (zc6 (dF hc23) hI2) m hm;simpa using this
         have hex:=pre_exact (act:=max act (-1)) (picks:=picks) (pro_of hc2) (in_bel hc4) hc5 (by rw [hkka];exact plc_beg hc24) (by rw [hkka];exact hna);have hz:(za0.holds x.vals (zcp s (max act (-1)) f) == true)=true:=by rw [hex];simp [hc14,hc15]
         rw [hz];try rfl
        rw [hc25] at h;refine Jq 14 [] [(10,vb true)] [] h fun a w h=>qV (rT (.c (.d (.raw (.bool true)))) h rfl ?_);rfl
       refine Jq 14 [(5,.call (Fn.cast (zdk (goS s x (max act (-1)) picks).1.vals (M:=8) (by decide) (goS_ok (L:=3) (M:=3) hs3 hx3 hpk).vok f (za0.okB_mono (by decide) (by decide) _ hf3.1)) (congrArg vb hc26)) zhe)] [(2,vI (max act (-1))),(5,vp 8 0),(6,vp 9 0),(9,vp 10 0),(13,vb (za0.holds x.vals (zcp s (max act (-1)) f))),(14,vp 12 0),(15,vb true),(92,vb false)] [(8,.box (zaj s)),(9,.box [.d (.sl 1 (x.locs.map zai)),.d (.sl 2 (x.vals.map ziD))]),(10,.box ([.d (.raw (.int .i64 f.kind)),.d (.sl 3 (f.r.t.parts.map za3.d))]++zi f.r.t.k++[.d (.raw (.bool f.r.eq)),.d (.sl 6 (f.kids.map za0.d))])),(12,.box [.d (.sl 1 ((goS s x (max act (-1)) picks).1.locs.map zai)),.d (.sl 2 ((goS s x (max act (-1)) picks).1.vals.map ziD))])] h fun a w h=>zax false h rfl nofun (fun _=>qU (za1 (qW (Je 14 [] [92] [(94,vb ((max act (-1)) == (-1)))] h fun a w h=>cS ((max act (-1)) == (-1)) h (fun hc27=>?_) (fun hc28=>?_)))))
       ·have hc27':=hc27;(try simp at hc27');refine Je 14 [(4,.call (zdk x.vals (M:=3) (by decide) (hx3.vok) f (za0.okB_mono (by decide) (by decide) _ hf3.1)) zhe)] [94] [(10,vb (za0.holds x.vals (zcp s (max act (-1)) f) == za0.holds x.vals f))] h fun a w h=>qV (za6 (rT (.c (.d (.raw (.bool (za0.holds x.vals (zcp s (max act (-1)) f) == za0.holds x.vals f))))) h rfl ?_));have ha9:(max act (-1))=-1:=by have:=hc27;simpa using this
        have hz:(za0.holds x.vals (zcp s (max act (-1)) f) == za0.holds x.vals f)=true:=by rw [ha9,pre_self];simp
        rw [hz];try rfl
       have hc28':=hc28;(try simp at hc28');refine qU (za1 (qW (Je 14 [(2,.call (Lsnd s (max act (-1)) hs3) mo2_11)] [94] [(104,vb (!(zaa s (max act (-1))).2))] h fun a w h=>cS (!(zaa s (max act (-1))).2) h (fun hc29=>?_) (fun hc30=>?_))))
       ·have hc29':=hc29;(try simp at hc29');refine Je 14 [] [104] [(10,vb (!(za0.holds x.vals (zcp s (max act (-1)) f))))] h fun a w h=>qV (za6 (rT (.c (.d (.raw (.bool (!(za0.holds x.vals (zcp s (max act (-1)) f))))))) h rfl ?_));have hz:(!(za0.holds x.vals (zcp s (max act (-1)) f)))=true:=by rw [zhv (fun e=>by have:=hc28;simp [e] at this) (by have:=(show ((zaa s (max act (-1))).2)=false from by simpa using hc29);simpa using this)];rfl
        rw [hz];try rfl
       have hc30':=hc30;(try simp at hc30');refine qU (za1 (qW ?_));obtain ⟨hs0,hs1⟩:=snd_idx (show ((zaa s (max act (-1))).2)=true from by simpa using hc30);obtain ⟨ka,hkka⟩:∃ k_:Nat,(max act (-1))=(k_:Int):=⟨_,(Int.toNat_of_nonneg (hs0)).symm⟩;replace h:=h.conv (f':=F.of [(2,vN ka),(5,vp 8 0),(6,vp 9 0),(9,vp 10 0),(13,vb (za0.holds x.vals (zcp s (max act (-1)) f))),(14,vp 12 0),(15,vb true),(104,vb (!(zaa s (max act (-1))).2))] [(8,.box (zaj s)),(9,.box [.d (.sl 1 (x.locs.map zai)),.d (.sl 2 (x.vals.map ziD))]),(10,.box ([.d (.raw (.int .i64 f.kind)),.d (.sl 3 (f.r.t.parts.map za3.d))]++zi f.r.t.k++[.d (.raw (.bool f.r.eq)),.d (.sl 6 (f.kids.map za0.d))])),(12,.box [.d (.sl 1 ((goS s x (max act (-1)) picks).1.locs.map zai)),.d (.sl 2 ((goS s x (max act (-1)) picks).1.vals.map ziD))])]) (by rw [hkka];kernel_rfl);obtain ⟨x37,hx37⟩:=gl s.acts ka;have hc9:=hs3.act x37 (lM hx37);have lm9:=hc9.len;refine Jq 14 [(3,.g (xD 110 108 ki_1 (zab hx37 (f:=zaw.d)) (OV.tmp 109 _))),(6,.len (za7 5 zae.d x37.moves))] [(2,vN ka),(5,vp 8 0),(6,vp 9 0),(9,vp 10 0),(13,vb (za0.holds x.vals (zcp s (max act (-1)) f))),(14,vp 12 0),(15,vb true),(112,.t (.c (.d (.sl 5 (x37.moves.map zae.d))))),(113,vN x37.moves.length),(114,vI 0)] [(8,.box (zaj s)),(9,.box [.d (.sl 1 (x.locs.map zai)),.d (.sl 2 (x.vals.map ziD))]),(10,.box ([.d (.raw (.int .i64 f.kind)),.d (.sl 3 (f.r.t.parts.map za3.d))]++zi f.r.t.k++[.d (.raw (.bool f.r.eq)),.d (.sl 6 (f.kids.map za0.d))])),(12,.box [.d (.sl 1 ((goS s x (max act (-1)) picks).1.locs.map zai)),.d (.sl 2 ((goS s x (max act (-1)) picks).1.vals.map ziD))])] h fun a w h=>qZ ?_
       refine zap (ι:=(Nat)) (fun j=>j<=x37.moves.length/\(x37.moves.take j).all (fun m=>!m.any)=true)
         (fun j=>[(2,vN ka),(5,vp 8 0),(6,vp 9 0),(9,vp 10 0),(13,vb (za0.holds x.vals (zcp s (max act (-1)) f))),(14,vp 12 0),(15,vb true),(112,.t (.c (.d (.sl 5 (x37.moves.map zae.d))))),(113,vN x37.moves.length),(114,vN j)])
         (fun j=>[(8,.box (zaj s)),(9,.box [.d (.sl 1 (x.locs.map zai)),.d (.sl 2 (x.vals.map ziD))]),(10,.box ([.d (.raw (.int .i64 f.kind)),.d (.sl 3 (f.r.t.parts.map za3.d))]++zi f.r.t.k++[.d (.raw (.bool f.r.eq)),.d (.sl 6 (f.kids.map za0.d))])),(12,.box [.d (.sl 1 ((goS s x (max act (-1)) picks).1.locs.map zai)),.d (.sl 2 ((goS s x (max act (-1)) picks).1.vals.map ziD))])])
         (fun j=>x37.moves.length - j) 0 ?_ h (by kernel_rfl) (by kernel_rfl) ?_
       ·exact ⟨Nat.zero_le _,rfl⟩
       clear h;rintro j a w hI h;obtain ⟨hI1,hI2⟩:=hI;refine Je 14 [] [] [(115,vb (decide ((j:Int)<(x37.moves.length:Int))))] h fun a w h=>qW (zam ((j:Int)<(x37.moves.length:Int)) h (fun hc31 hc31'=>?_) (fun hc34 hc34'=>?_))
       ·refine qU (za1 (qW (qZ ?_)));obtain ⟨x38,hx38⟩:=gl x37.moves j;refine Jd 14 [(0,.g (xD 116 112 ki_2 (zab hx38 (f:=zae.d)) (OV.tmp 114 _)))] [115] [(17,vp 14 0)] [(8,.box (zaj s)),(9,.box [.d (.sl 1 (x.locs.map zai)),.d (.sl 2 (x.vals.map ziD))]),(10,.box ([.d (.raw (.int .i64 f.kind)),.d (.sl 3 (f.r.t.parts.map za3.d))]++zi f.r.t.k++[.d (.raw (.bool f.r.eq)),.d (.sl 6 (f.kids.map za0.d))])),(12,.box [.d (.sl 1 ((goS s x (max act (-1)) picks).1.locs.map zai)),.d (.sl 2 ((goS s x (max act (-1)) picks).1.vals.map ziD))]),(14,.box ([.d (.raw (.int .i64 x38.v)),.d (.raw (.bool x38.any)),.d (.sl 3 (x38.t.parts.map za3.d))]++zi x38.t.k))] h fun a w h=>Jd 15 [] [17] [(119,vb x38.any)] [(8,.box (zaj s)),(9,.box [.d (.sl 1 (x.locs.map zai)),.d (.sl 2 (x.vals.map ziD))]),(10,.box ([.d (.raw (.int .i64 f.kind)),.d (.sl 3 (f.r.t.parts.map za3.d))]++zi f.r.t.k++[.d (.raw (.bool f.r.eq)),.d (.sl 6 (f.kids.map za0.d))])),(12,.box [.d (.sl 1 ((goS s x (max act (-1)) picks).1.locs.map zai)),.d (.sl 2 ((goS s x (max act (-1)) picks).1.vals.map ziD))])] h fun a w h=>cS x38.any h (fun hc32=>?_) (fun hc33=>?_)
        ·refine Je 15 [] [119] [(10,vb true)] h fun a w h=>qV (zac (za6 (za6 (zac (za6 (rT (.c (.d (.raw (.bool true)))) h rfl ?_))))));rfl
        refine qU (za8 (za1 (Jf 15 [(0,.j1 j)] [119] [(114,vI ((j:Int)+1))] h fun a w h=>za1 (zag (x:=j) (y:=j+1) h ?_ ?_))))
        ·exact ⟨by have:=zak hx38;omega,zc0 hx38 hI2 (by rw [hc33];rfl)⟩
        show x37.moves.length - (j+1)<x37.moves.length - j;have:=zak hx38;omega
       refine wp_exit (za9 (za9 (za5 (za1 (Jd 15 [(4,.call (LPlaces s x.locs (ka:Int) hs3 (by omega)) mj9_6)] [2,5,6,112,113,114,115] [(19,vb (zkm s x.locs (ka:Int)).2)] [(10,.box ([.d (.raw (.int .i64 f.kind)),.d (.sl 3 (f.r.t.parts.map za3.d))]++zi f.r.t.k++[.d (.raw (.bool f.r.eq)),.d (.sl 6 (f.kids.map za0.d))])),(12,.box [.d (.sl 1 ((goS s x (max act (-1)) picks).1.locs.map zai)),.d (.sl 2 ((goS s x (max act (-1)) picks).1.vals.map ziD))])] h fun a w h=>?_)))))
       rcases Bool.eq_false_or_eq_true (zkm s x.locs (ka:Int)).2 with hc35 | hc36
       ·rw [hc35] at h;refine Jq 15 [(9,.call (Fn.cast (zdk (goS s x (max act (-1)) picks).1.vals (M:=8) (by decide) (goS_ok (L:=3) (M:=3) hs3 hx3 hpk).vok f (za0.okB_mono (by decide) (by decide) _ hf3.1)) (congrArg vb hc26)) zhe)] [(10,vb (za0.holds x.vals (zcp s (max act (-1)) f) == false))] [] h fun a w h=>qV (rT (.c (.d (.raw (.bool (za0.holds x.vals (zcp s (max act (-1)) f) == false))))) h rfl ?_);have hna:∀ v,zb1 (zaa s (ka:Int)).1 v=false:=by rw [snd_at hx37];exact free_any fun m hm=>by have:=List.all_eq_true.1 (zc6 (dF hc34) hI2) m hm;simpa using this
        have hex:=pre_exact (act:=max act (-1)) (picks:=picks) (pro_of hc2) (in_bel hc4) hc5 (by rw [hkka];exact plc_beg hc35) (by rw [hkka];exact hna);have hz:(za0.holds x.vals (zcp s (max act (-1)) f) == false)=true:=by rw [hex];simp [hc14,hc26]
        rw [hz];try rfl
       rw [hc36] at h;refine Jq 15 [] [(10,vb true)] [] h fun a w h=>qV (rT (.c (.d (.raw (.bool true)))) h rfl ?_);rfl
      rw [hc37] at h;refine Jq 15 [] [(2,vI (max act (-1))),(5,vp 8 0),(6,vp 9 0),(9,vp 10 0),(13,vb (za0.holds x.vals (zcp s (max act (-1)) f))),(14,vp 12 0),(15,vb false),(92,vb false)] [(8,.box (zaj s)),(9,.box [.d (.sl 1 (x.locs.map zai)),.d (.sl 2 (x.vals.map ziD))]),(10,.box ([.d (.raw (.int .i64 f.kind)),.d (.sl 3 (f.r.t.parts.map za3.d))]++zi f.r.t.k++[.d (.raw (.bool f.r.eq)),.d (.sl 6 (f.kids.map za0.d))])),(12,.box [.d (.sl 1 ((goS s x (max act (-1)) picks).1.locs.map zai)),.d (.sl 2 ((goS s x (max act (-1)) picks).1.vals.map ziD))])] h fun a w h=>zax false h rfl nofun (fun _=>qU (za1 (qW (Je 15 [] [92] [(94,vb ((max act (-1)) == (-1)))] h fun a w h=>cS ((max act (-1)) == (-1)) h (fun hc38=>?_) (fun hc39=>?_)))))
      ·have hc38':=hc38;(try simp at hc38');refine Je 15 [(4,.call (zdk x.vals (M:=3) (by decide) (hx3.vok) f (za0.okB_mono (by decide) (by decide) _ hf3.1)) zhe)] [94] [(10,vb (za0.holds x.vals (zcp s (max act (-1)) f) == za0.holds x.vals f))] h fun a w h=>qV (za6 (rT (.c (.d (.raw (.bool (za0.holds x.vals (zcp s (max act (-1)) f) == za0.holds x.vals f))))) h rfl ?_));have ha9:(max act (-1))=-1:=by have:=hc38;simpa using this
       have hz:(za0.holds x.vals (zcp s (max act (-1)) f) == za0.holds x.vals f)=true:=by rw [ha9,pre_self];simp
       rw [hz];try rfl
      have hc39':=hc39;(try simp at hc39');refine qU (za1 (qW (Je 15 [(2,.call (Lsnd s (max act (-1)) hs3) mo2_11)] [94] [(104,vb (!(zaa s (max act (-1))).2))] h fun a w h=>cS (!(zaa s (max act (-1))).2) h (fun hc40=>?_) (fun hc41=>?_))))
      ·have hc40':=hc40;(try simp at hc40');refine Je 15 [] [104] [(10,vb (!(za0.holds x.vals (zcp s (max act (-1)) f))))] h fun a w h=>qV (za6 (rT (.c (.d (.raw (.bool (!(za0.holds x.vals (zcp s (max act (-1)) f))))))) h rfl ?_));have hz:(!(za0.holds x.vals (zcp s (max act (-1)) f)))=true:=by rw [zhv (fun e=>by have:=hc39;simp [e] at this) (by have:=(show ((zaa s (max act (-1))).2)=false from by simpa using hc40);simpa using this)];rfl
       rw [hz];try rfl
      have hc41':=hc41;(try simp at hc41');refine qU (za1 (qW ?_));obtain ⟨hs0,hs1⟩:=snd_idx (show ((zaa s (max act (-1))).2)=true from by simpa using hc41);obtain ⟨ka,hkka⟩:∃ k_:Nat,(max act (-1))=(k_:Int):=⟨_,(Int.toNat_of_nonneg (hs0)).symm⟩;replace h:=h.conv (f':=F.of [(2,vN ka),(5,vp 8 0),(6,vp 9 0),(9,vp 10 0),(13,vb (za0.holds x.vals (zcp s (max act (-1)) f))),(14,vp 12 0),(15,vb false),(104,vb (!(zaa s (max act (-1))).2))] [(8,.box (zaj s)),(9,.box [.d (.sl 1 (x.locs.map zai)),.d (.sl 2 (x.vals.map ziD))]),(10,.box ([.d (.raw (.int .i64 f.kind)),.d (.sl 3 (f.r.t.parts.map za3.d))]++zi f.r.t.k++[.d (.raw (.bool f.r.eq)),.d (.sl 6 (f.kids.map za0.d))])),(12,.box [.d (.sl 1 ((goS s x (max act (-1)) picks).1.locs.map zai)),.d (.sl 2 ((goS s x (max act (-1)) picks).1.vals.map ziD))])]) (by rw [hkka];kernel_rfl);obtain ⟨x43,hx43⟩:=gl s.acts ka;have hc9:=hs3.act x43 (lM hx43);have lm9:=hc9.len;refine Jq 15 [(3,.g (xD 110 108 ki_1 (zab hx43 (f:=zaw.d)) (OV.tmp 109 _))),(6,.len (za7 5 zae.d x43.moves))] [(2,vN ka),(5,vp 8 0),(6,vp 9 0),(9,vp 10 0),(13,vb (za0.holds x.vals (zcp s (max act (-1)) f))),(14,vp 12 0),(15,vb false),(112,.t (.c (.d (.sl 5 (x43.moves.map zae.d))))),(113,vN x43.moves.length),(114,vI 0)] [(8,.box (zaj s)),(9,.box [.d (.sl 1 (x.locs.map zai)),.d (.sl 2 (x.vals.map ziD))]),(10,.box ([.d (.raw (.int .i64 f.kind)),.d (.sl 3 (f.r.t.parts.map za3.d))]++zi f.r.t.k++[.d (.raw (.bool f.r.eq)),.d (.sl 6 (f.kids.map za0.d))])),(12,.box [.d (.sl 1 ((goS s x (max act (-1)) picks).1.locs.map zai)),.d (.sl 2 ((goS s x (max act (-1)) picks).1.vals.map ziD))])] h fun a w h=>qZ ?_
      refine zap (ι:=(Nat)) (fun j=>j<=x43.moves.length/\(x43.moves.take j).all (fun m=>!m.any)=true)
        (fun j=>[(2,vN ka),(5,vp 8 0),(6,vp 9 0),(9,vp 10 0),(13,vb (za0.holds x.vals (zcp s (max act (-1)) f))),(14,vp 12 0),(15,vb false),(112,.t (.c (.d (.sl 5 (x43.moves.map zae.d))))),(113,vN x43.moves.length),(114,vN j)])
        (fun j=>[(8,.box (zaj s)),(9,.box [.d (.sl 1 (x.locs.map zai)),.d (.sl 2 (x.vals.map ziD))]),(10,.box ([.d (.raw (.int .i64 f.kind)),.d (.sl 3 (f.r.t.parts.map za3.d))]++zi f.r.t.k++[.d (.raw (.bool f.r.eq)),.d (.sl 6 (f.kids.map za0.d))])),(12,.box [.d (.sl 1 ((goS s x (max act (-1)) picks).1.locs.map zai)),.d (.sl 2 ((goS s x (max act (-1)) picks).1.vals.map ziD))])])
        (fun j=>x43.moves.length - j) 0 ?_ h (by kernel_rfl) (by kernel_rfl) ?_
      ·exact ⟨Nat.zero_le _,rfl⟩
      clear h;rintro j a w hI h;obtain ⟨hI1,hI2⟩:=hI;refine Je 15 [] [] [(115,vb (decide ((j:Int)<(x43.moves.length:Int))))] h fun a w h=>qW (zam ((j:Int)<(x43.moves.length:Int)) h (fun hc42 hc42'=>?_) (fun hc45 hc45'=>?_))
      ·refine qU (za1 (qW (qZ ?_)));obtain ⟨x44,hx44⟩:=gl x43.moves j;refine Jd 15 [(0,.g (xD 116 112 ki_2 (zab hx44 (f:=zae.d)) (OV.tmp 114 _)))] [115] [(17,vp 15 0)] [(8,.box (zaj s)),(9,.box [.d (.sl 1 (x.locs.map zai)),.d (.sl 2 (x.vals.map ziD))]),(10,.box ([.d (.raw (.int .i64 f.kind)),.d (.sl 3 (f.r.t.parts.map za3.d))]++zi f.r.t.k++[.d (.raw (.bool f.r.eq)),.d (.sl 6 (f.kids.map za0.d))])),(12,.box [.d (.sl 1 ((goS s x (max act (-1)) picks).1.locs.map zai)),.d (.sl 2 ((goS s x (max act (-1)) picks).1.vals.map ziD))]),(15,.box ([.d (.raw (.int .i64 x44.v)),.d (.raw (.bool x44.any)),.d (.sl 3 (x44.t.parts.map za3.d))]++zi x44.t.k))] h fun a w h=>Jd 16 [] [17] [(119,vb x44.any)] [(8,.box (zaj s)),(9,.box [.d (.sl 1 (x.locs.map zai)),.d (.sl 2 (x.vals.map ziD))]),(10,.box ([.d (.raw (.int .i64 f.kind)),.d (.sl 3 (f.r.t.parts.map za3.d))]++zi f.r.t.k++[.d (.raw (.bool f.r.eq)),.d (.sl 6 (f.kids.map za0.d))])),(12,.box [.d (.sl 1 ((goS s x (max act (-1)) picks).1.locs.map zai)),.d (.sl 2 ((goS s x (max act (-1)) picks).1.vals.map ziD))])] h fun a w h=>cS x44.any h (fun hc43=>?_) (fun hc44=>?_)
       ·refine Je 16 [] [119] [(10,vb true)] h fun a w h=>qV (zac (za6 (za6 (zac (za6 (rT (.c (.d (.raw (.bool true)))) h rfl ?_))))));rfl
       refine qU (za8 (za1 (Jf 16 [(0,.j1 j)] [119] [(114,vI ((j:Int)+1))] h fun a w h=>za1 (zag (x:=j) (y:=j+1) h ?_ ?_))))
       ·exact ⟨by have:=zak hx44;omega,zc0 hx44 hI2 (by rw [hc44];rfl)⟩
       show x43.moves.length - (j+1)<x43.moves.length - j;have:=zak hx44;omega
      refine wp_exit (za9 (za9 (za5 (za1 (Jd 16 [(4,.call (LPlaces s x.locs (ka:Int) hs3 (by omega)) mj9_6)] [2,5,6,112,113,114,115] [(19,vb (zkm s x.locs (ka:Int)).2)] [(10,.box ([.d (.raw (.int .i64 f.kind)),.d (.sl 3 (f.r.t.parts.map za3.d))]++zi f.r.t.k++[.d (.raw (.bool f.r.eq)),.d (.sl 6 (f.kids.map za0.d))])),(12,.box [.d (.sl 1 ((goS s x (max act (-1)) picks).1.locs.map zai)),.d (.sl 2 ((goS s x (max act (-1)) picks).1.vals.map ziD))])] h fun a w h=>?_)))))
      rcases Bool.eq_false_or_eq_true (zkm s x.locs (ka:Int)).2 with hc46 | hc47
      ·rw [hc46] at h;refine Jq 16 [] [(10,vb (za0.holds x.vals (zcp s (max act (-1)) f) == false))] [] h fun a w h=>qV (rT (.c (.d (.raw (.bool (za0.holds x.vals (zcp s (max act (-1)) f) == false))))) h rfl ?_);have hna:∀ v,zb1 (zaa s (ka:Int)).1 v=false:=by rw [snd_at hx43];exact free_any fun m hm=>by have:=List.all_eq_true.1 (zc6 (dF hc45) hI2) m hm;simpa using this
       have hex:=pre_exact (act:=max act (-1)) (picks:=picks) (pro_of hc2) (in_bel hc4) hc5 (by rw [hkka];exact plc_beg hc46) (by rw [hkka];exact hna);have hz:(za0.holds x.vals (zcp s (max act (-1)) f) == false)=true:=by rw [hex];simp [hc37]
       rw [hz];try rfl
      rw [hc47] at h;refine Jq 16 [] [(10,vb true)] [] h fun a w h=>qV (rT (.c (.d (.raw (.bool true)))) h rfl ?_);rfl
     refine Je 16 [(2,.g (bD 24 ([x].map StD.d) [(23,.t (.agg [.d (.sl 1 (x.locs.map zai)),.d (.sl 2 (x.vals.map ziD))]))] kx_3 (.cons (i:=0) (OV.tmp 23 _) (.nil)) (by kernel_rfl) (by simp [StD.d]))),(3,.call (Fn.cast (Lsmall s [x] hs (by intro x_ hx_;simp only [List.mem_cons,List.not_mem_nil,or_false] at hx_;subst hx_;assumption) (by simp)) (congrArg vb hc1)) mo2_2),(7,.call (Fn.cast (Lproper s hs3 hw9) (congrArg vb hc2)) mo2_3),(12,.call (Fn.cast (SFewF f 20 3 hfl (by decide) (by decide)) (congrArg vb hc3)) kt_1),(18,.call (Fn.cast (zjp s f (za0.okB_mono (by decide) (by decide) _ hf3.1) (Nat.le_trans hf3.2 (by decide))) (congrArg vb hc4)) mf5_11),(24,.call (Fn.cast (SRFits s x (L:=3) (M:=3) (by decide) hs3 hx3) (congrArg vb hc48)) kh_6)] [21] [(53,vb true)] h fun a w h=>cS true h (fun _=>?_) nofun
     refine Je 16 [] [53] [(10,vb true)] h fun a w h=>qV (za6 (rT (.c (.d (.raw (.bool true)))) h rfl ?_));rfl
    refine Je 16 [(2,.g (bD 24 ([x].map StD.d) [(23,.t (.agg [.d (.sl 1 (x.locs.map zai)),.d (.sl 2 (x.vals.map ziD))]))] kx_3 (.cons (i:=0) (OV.tmp 23 _) (.nil)) (by kernel_rfl) (by simp [StD.d]))),(3,.call (Fn.cast (Lsmall s [x] hs (by intro x_ hx_;simp only [List.mem_cons,List.not_mem_nil,or_false] at hx_;subst hx_;assumption) (by simp)) (congrArg vb hc1)) mo2_2),(7,.call (Fn.cast (Lproper s hs3 hw9) (congrArg vb hc2)) mo2_3),(12,.call (Fn.cast (SFewF f 20 3 hfl (by decide) (by decide)) (congrArg vb hc3)) kt_1),(18,.call (Fn.cast (zjp s f (za0.okB_mono (by decide) (by decide) _ hf3.1) (Nat.le_trans hf3.2 (by decide))) (congrArg vb hc49)) mf5_11)] [21] [(53,vb true)] h fun a w h=>cS true h (fun _=>?_) nofun
    refine Je 16 [] [53] [(10,vb true)] h fun a w h=>qV (za6 (rT (.c (.d (.raw (.bool true)))) h rfl ?_));rfl
   refine Je 16 [(2,.g (bD 24 ([x].map StD.d) [(23,.t (.agg [.d (.sl 1 (x.locs.map zai)),.d (.sl 2 (x.vals.map ziD))]))] kx_3 (.cons (i:=0) (OV.tmp 23 _) (.nil)) (by kernel_rfl) (by simp [StD.d]))),(3,.call (Fn.cast (Lsmall s [x] hs (by intro x_ hx_;simp only [List.mem_cons,List.not_mem_nil,or_false] at hx_;subst hx_;assumption) (by simp)) (congrArg vb hc1)) mo2_2),(7,.call (Fn.cast (Lproper s hs3 hw9) (congrArg vb hc2)) mo2_3),(12,.call (Fn.cast (SFewF f 20 3 hfl (by decide) (by decide)) (congrArg vb hc50)) kt_1)] [21] [(53,vb true)] h fun a w h=>cS true h (fun _=>?_) nofun
   refine Je 16 [] [53] [(10,vb true)] h fun a w h=>qV (za6 (rT (.c (.d (.raw (.bool true)))) h rfl ?_));rfl
  refine Je 16 [(2,.g (bD 24 ([x].map StD.d) [(23,.t (.agg [.d (.sl 1 (x.locs.map zai)),.d (.sl 2 (x.vals.map ziD))]))] kx_3 (.cons (i:=0) (OV.tmp 23 _) (.nil)) (by kernel_rfl) (by simp [StD.d]))),(3,.call (Fn.cast (Lsmall s [x] hs (by intro x_ hx_;simp only [List.mem_cons,List.not_mem_nil,or_false] at hx_;subst hx_;assumption) (by simp)) (congrArg vb hc1)) mo2_2),(7,.call (Fn.cast (Lproper s hs3 hw9) (congrArg vb hc51)) mo2_3)] [21] [(53,vb true)] h fun a w h=>cS true h (fun _=>?_) nofun
  refine Je 16 [] [53] [(10,vb true)] h fun a w h=>qV (za6 (rT (.c (.d (.raw (.bool true)))) h rfl ?_));rfl
 refine Je 16 [(2,.g (bD 24 ([x].map StD.d) [(23,.t (.agg [.d (.sl 1 (x.locs.map zai)),.d (.sl 2 (x.vals.map ziD))]))] kx_3 (.cons (i:=0) (OV.tmp 23 _) (.nil)) (by kernel_rfl) (by simp [StD.d]))),(3,.call (Fn.cast (Lsmall s [x] hs (by intro x_ hx_;simp only [List.mem_cons,List.not_mem_nil,or_false] at hx_;subst hx_;assumption) (by simp)) (congrArg vb hc52)) mo2_2)] [21] [(53,vb true)] h fun a w h=>cS true h (fun _=>?_) nofun
 refine Je 16 [] [53] [(10,vb true)] h fun a w h=>qV (za6 (rT (.c (.d (.raw (.bool true)))) h rfl ?_));rfl
theorem LWpPresW (s:zar) (x:StD) (act:Int) (picks:List ZI) (f:za0) (hs:SysRd s) (hx:StRd x) (hp:picks.length<=maxLen/\∀ z ∈ picks,Lb z.abs) (hf:f.lb):Fn Tryz.prog 5 [] [vd (zar.d s),vd (StD.d x),vi .i64 act,(vZs picks),vd (za0.d f)] (vb true) []:=by
 rw [za0.d_eq]
 exact LWpPres s x act picks f hs hx hp.2 (Nat.le_trans hp.1 (by decide)) hf
end S
end Go.Proofs.YtckmanpooapkpaaGreat
section
namespace Go.Proofs.YtckmanpooapkpaaGreat.wpPresDone
open Go.ChangeShapes Go.WideShapes Go.ChangeAt Go.RowKit
open Go.ChangeMaps (open_string shut_string)
open Go.Proofs.YtckmanpooapkpaaGreat.S

theorem own:ownKnob Tryz.prog.godebug=none:=by kernel_rfl
theorem laidOut:laidOutB Tryz.prog=true:=by kernel_rfl

theorem lifted (os:Os) (started:os.Started) (H:Type) (enc:TypeId × Value->H) :
  ReturnsInHanded {} Tryz.checked os 5 .any (Rows.wpPresSpec.pre6 enc Tryz.prog Tryz.f5 Rows.wpPresRow.domain false) (Rows.wpPresSpec.post enc Tryz.prog Tryz.f5 false true false false):=by
 refine returnsInHanded_of_change (C:=Tryz.checked) own started (by kernel_rfl) Tryz.func5
  (ChangeSpec.witness6 (enc:=enc) (C:=Tryz.checked) false ⟨#[],#[.agg #[.slice none 0 0,.slice none 0 0,.int .i64 0,.slice none 0 0,.bool false,.slice none 0 0,.bool false,.slice none 0 0,.slice none 0 0,.slice none 0 0],.agg #[.slice none 0 0,.slice none 0 0],.int .i64 0,.slice none 0 0,.agg #[.int .i64 0,.slice none 0 0,.bool false,.slice none 0 0,.bool false,.slice none 0 0]],[]⟩ 12 (by kernel_rfl) (by kernel_rfl) (by kernel_rfl) (by kernel_rfl)) ?_
 intro W base args ds gs before hval0 hW hcnd _
 have hval:∀ (j:Nat) t v,Tryz.f5.params[j]?=some t->args[j]?=some v->Value.okWide Tryz.prog W .any base t v:=hval0
 have hW':=hW
 obtain ⟨p,q,hA0,hV,rfl,hfz,hnd⟩:=hW
 have hA:DataW.TrodAll enc Tryz.prog W 0 (fun _=>true) true Tryz.f5.params.toList args.toList ds p:=hA0
 rw [Tryz.params5] at hA hval
 obtain ⟨v0,vs0,d0,ds0,p0,q0,hargs,rfl,rfl,h0,r0⟩:=trodAll_cons hA
 obtain ⟨v1,vs1,d1,ds1,p1,q1,rfl,rfl,rfl,h1,r1⟩:=trodAll_cons r0
 obtain ⟨v2,vs2,d2,ds2,p2,q2,rfl,rfl,rfl,h2,r2⟩:=trodAll_cons r1
 obtain ⟨v3,vs3,d3,ds3,p3,q3,rfl,rfl,rfl,h3,r3⟩:=trodAll_cons r2
 obtain ⟨v4,vs4,d4,ds4,p4,q4,rfl,rfl,rfl,h4,r4⟩:=trodAll_cons r3
 obtain ⟨rfl,rfl,rfl⟩:=trodAll_nil r4
 obtain rfl:args=#[v0,v1,v2,v3,v4]:=by cases args;simp_all
 obtain ⟨rfl,rfl⟩:=trodVars_none hV
 have k0:=h0
 have lt0:∀ x ∈ p0,x.block<W.heap.size:=by obtain ⟨m,hm⟩:=k0;exact DataW.trod_lt m _ _ _ hm
 obtain ⟨a0,cs0,g0,rfl,dr0⟩:=rep_agg Tryz.underlying39 (fun _=>rep_Sys) (hval 0 39 v0 rfl rfl) h0
 have k1:=h1
 have lt1:∀ x ∈ p1,x.block<W.heap.size:=by obtain ⟨m,hm⟩:=k1;exact DataW.trod_lt m _ _ _ hm
 obtain ⟨a1,cs1,g1,rfl,dr1⟩:=rep_agg Tryz.underlying43 (fun _=>rep_State) (hval 1 43 v1 rfl rfl) h1
 obtain ⟨a2,rfl,rfl,rfl,g20⟩:=open_int Tryz.underlying3 (hval 2 3 v2 rfl rfl) h2
 have g2:-9223372036854775808<=a2/\a2<=9223372036854775807:=by have:=bounds_i64 g20;omega
 have k3:=h3
 have lt3:∀ x ∈ p3,x.block<W.heap.size:=by obtain ⟨m,hm⟩:=k3;exact DataW.trod_lt m _ _ _ hm
 obtain ⟨a3,ao3,len3,cap3,g3,rfl,dr3⟩:=rep_one Tryz.underlying41 (fun _=>rep_ZIl) (hval 3 41 v3 rfl rfl) h3
 have k4:=h4
 have lt4:∀ x ∈ p4,x.block<W.heap.size:=by obtain ⟨m,hm⟩:=k4;exact DataW.trod_lt m _ _ _ hm
 obtain ⟨a4,cs4,g4,rfl,dr4⟩:=rep_agg Tryz.underlying35 (fun _=>zkj) (hval 4 35 v4 rfl rfl) h4
 clear hA0 hval0
 refine ((LWpPresW a0 a1 a2 a3 a4 g0 g1 g3 g4).calls (w:=W) (vals:=[.agg ⟨cs0⟩,.agg ⟨cs1⟩,.int .i64 a2,.slice ao3 len3 cap3,.agg ⟨cs4⟩]) fun B=>⟨dr_vd dr0 B,dr_vd dr1 B,DR.raw _ rfl,dr3,dr_vd dr4 B,trivial⟩).mono fun e W' ⟨he,bel⟩=>?_
 subst he
 exact ⟨_,rfl,_,_,_,[],_,[],hW', trodAll_mk1 (shut_bool Tryz.underlying4 _),(trodAll_cons_mk (Below.trod laidOut (by kernel_rfl) (of_decide_eq_true (by kernel_rfl)) k0 bel lt0) (trodAll_cons_mk (Below.trod laidOut (by kernel_rfl) (of_decide_eq_true (by kernel_rfl)) k1 bel lt1) (trodAll_cons_mk (shut_int Tryz.underlying3 g20) (trodAll_cons_mk (Below.trod laidOut (by kernel_rfl) (of_decide_eq_true (by kernel_rfl)) k3 bel lt3) (trodAll_cons_mk (Below.trod laidOut (by kernel_rfl) (of_decide_eq_true (by kernel_rfl)) k4 bel lt4) trodAll_mk0))))),rfl,bel.below.frame _,fun h=>by cases h⟩

theorem over:Rows.wpPresRow.holds Tryz.pinned (OpenSpec.ofChange Rows.wpPresSpec) :=
 OpenClaim.holds_of_wide 5 Tryz.f5 rfl rfl rfl rfl rfl rfl rfl ⟨rfl,rfl,rfl,rfl,rfl⟩ rfl rfl rfl rfl rfl (by kernel_rfl) Tryz.func5 (by kernel_rfl)
  (of_decide_eq_true (by kernel_rfl)) (by unfold Func.isWrapper;first | (rw [if_pos (by decide +kernel)];kernel_rfl) | (rw [if_neg (by decide +kernel)];exact ⟨rfl,rfl⟩))
  (fun os started H enc _=>lifted os started H enc)

theorem proved:Rows.WpPresSaid:=over
end Go.Proofs.YtckmanpooapkpaaGreat.wpPresDone
end
