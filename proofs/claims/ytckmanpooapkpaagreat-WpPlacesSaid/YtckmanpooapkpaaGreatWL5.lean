/-
  Part 5 of the proof of the statement WpPlaces: the walk through the program and the references lifted to the given row. It holds for every input.
-/
import Derived.Test.YtckmanpooapkpaaGreatWL4
import Derived.Test.YtckmanpooapkpaaGreatWL2
import Derived.SizedLaws
import Derived.Shelf.Sort.Plain
import Derived.Ground.Names2Prog
import Derived.Shelf.Slices.CompactI
import Derived.Shelf.Slices.In.SortNone
import Derived.Test.YtckmanpooapkpaaGreatProg
import Derived.Lib.RowBridge
import Derived.Test.YtckmanpooapkpaaGreatWL1
set_option maxRecDepth 100000
set_option maxHeartbeats 20000000
open Go.RowKit
namespace Go.Proofs.YtckmanpooapkpaaGreat
namespace S
theorem kt_1:za4 Tryz.prog 24:=za4.mk' (by kernel_rfl)
theorem all2c {α β:Type} {R:α->β->Prop} {x:α} {xs:List α} {us:List β} (h:zb4 R (x :: xs) us):∃ u vs,us=u :: vs/\R x u/\zb4 R xs vs:=by
 cases us with
 | nil=>exact h.elim
 | cons u us=>exact ⟨u,us,rfl,h⟩
theorem Fn.agg6 {P:Program} {k:FuncId} {ps qs:List (Nat × L)} {es:Nat} {c1 c2 c3 c4 c5:C} {x y res:V} (h:Fn P k ps [vG [c1,c2,c3,c4,c5,.d (.sl es [])],x,y] res qs):Fn P k ps [vG [c1,c2,c3,c4,c5,.d (.raw zaf)],x,y] res qs:=by
 intro w H B vals pre
 obtain ⟨h1,h2,h3,h4,h5⟩:=pre
 cases vals with
 | nil=>exact h5.elim
 | cons v vs =>
  obtain ⟨⟨us,rfl,ha⟩,ht⟩:=h5
  obtain ⟨u1,us,rfl,a1,ha⟩:=all2c ha
  obtain ⟨u2,us,rfl,a2,ha⟩:=all2c ha
  obtain ⟨u3,us,rfl,a3,ha⟩:=all2c ha
  obtain ⟨u4,us,rfl,a4,ha⟩:=all2c ha
  obtain ⟨u5,us,rfl,a5,ha⟩:=all2c ha
  obtain ⟨u6,us,rfl,a6,hz⟩:=all2c ha
  have h6:u6=zaf:=VR.rawI (B:=B) a6
  subst h6
  exact h w H B _ ⟨h1,h2,h3,h4,⟨_,rfl,a1,a2,a3,a4,a5,DR.nil _ _ _ (fun _=>rfl) (Nat.zero_le _),hz⟩,ht⟩
def fewB (L:Nat) (b:zaw):Bool:=decide ((b.lo.abs.length:Int)<=(L:Int)) && decide ((b.hi.abs.length:Int)<=(L:Int))
def formT (t:zak):za0:=⟨2,⟨t,false⟩,[]⟩
def fewM (L:Nat) (m:zad):Bool:=zi4 (formT m.t) 5 L
def fewA (L:Nat) (c:zbi):Bool:=(zi4 c.guard 30 L && decide ((c.moves.length:Int)<=20)) && c.moves.all (fewM L)
def zbh (L:Nat) (s:zar):Bool:=(decide ((s.vars.length:Int)<=8/\(s.bounds.length:Int)<=20/\(s.procs.length:Int)<=6/\(s.acts.length:Int)<=20) && zi4 s.init 30 L) && (s.bounds.all (fewB L) && s.acts.all (fewA L))
def zgc (L:Nat) (x:StD):Bool:=decide ((x.locs.length:Int)<=10/\(x.vals.length:Int)<=10) && x.vals.all fun z=>decide ((z.abs.length:Int)<=(L:Int))
/-- limbs that are limbs -/
structure SysRd (s:zar):Prop where
  init:s.init.lb
  bnd:∀ b ∈ s.bounds,Lb b.lo.abs/\Lb b.hi.abs
  act:∀ c ∈ s.acts,c.guard.lb/\∀ m ∈ c.moves,TLb m.t
  len:s.bounds.length<=9223372036854775807/\s.acts.length<=9223372036854775807
  mlen:∀ c ∈ s.acts,c.moves.length<=9223372036854775807
def StRd (x:StD):Prop:=(∀ z ∈ x.vals,Lb z.abs)/\x.vals.length<=9223372036854775807
theorem fewF_ok {f:za0} {most:Int} {L:Nat} (h:zi4 f most L=true) (hl:f.lb):f.ok L:=by unfold zi4 at h;rw [Bool.and_eq_true] at h;exact za0.few_ok f h.2 hl
theorem formT_lb {t:zak} (h:TLb t):(formT t).lb:=(za0.lb_eq _).2 ⟨⟨h,Nat.zero_le _⟩,fun g hg=>(by cases hg)⟩
theorem formT_ok {t:zak} {L:Nat} (h:(formT t).ok L):TOk 20 L t:=((za0.ok_eq L _).1 h).1 rfl
theorem few_sys {L:Nat} {s:zar} (h:zbh L s=true) (hr:SysRd s):zba L s:=by
 unfold zbh at h
 simp only [Bool.and_eq_true,decide_eq_true_eq,List.all_eq_true] at h
 obtain ⟨⟨⟨h1,h2,h3,h4⟩,h5⟩,h6,h7⟩:=h
 refine ⟨by omega,by omega,by omega,by omega,fun b hb=>?_,⟨hr.init,fewF_ok h5 hr.init⟩,fun c hc=>?_⟩
 ·have:=h6 b hb;unfold fewB at this;simp only [Bool.and_eq_true,decide_eq_true_eq] at this
  exact ⟨⟨(hr.bnd b hb).1,by omega⟩,(hr.bnd b hb).2,by omega⟩
 ·have:=h7 c hc;unfold fewA at this;simp only [Bool.and_eq_true,decide_eq_true_eq,List.all_eq_true] at this
  exact ⟨⟨(hr.act c hc).1,fewF_ok this.1.1 (hr.act c hc).1⟩,by omega,fun m hm=>formT_ok (fewF_ok (this.2 m hm) (formT_lb ((hr.act c hc).2 m hm)))⟩
theorem SFewSt (x:StD) (L:Nat) (hr:StRd x):Fn Tryz.prog 34 [] [vG [cIs x.locs,cZs x.vals],vN L] (vb (zgc L x)) []:=by
 have lv:=hr.2;refine Fn.body Tryz.func34 rfl 32 rfl fun w H B a h=>Jq 0 [] [(1,vN L),(2,vp 0 0),(4,vb false)] [(0,.box [cIs x.locs,cZs x.vals])] h fun a w h=>qW ?_
 rcases Bool.eq_false_or_eq_true (decide ((x.locs.length:Int)>10)) with hc1 | hc2
 ·have hc1':=dT hc1;refine Je 1 [(2,.len (za6 1 zai x.locs)),(3,.cmp (op:=.gtr) (m:=(x.locs.length:Int)) (n:=10) (b:=true) .i64 hc1)] [] [(15,vb true)] h fun a w h=>cS true h (fun _=>?_) nofun
  refine Je 1 [] [15] [] h fun a w h=>qV (za7 (rT (.c (cB false)) h rfl ?_));have hz:zgc L x=false:=by unfold zgc;rw [decide_eq_false (p:=(x.locs.length:Int)<=10/\(x.vals.length:Int)<=10) (by have:=dT hc1;omega)];rfl
  rw [hz];try rfl
 have hc2':=dF hc2;refine Je 1 [(2,.len (za6 1 zai x.locs)),(3,.cmp (op:=.gtr) (m:=(x.locs.length:Int)) (n:=10) (b:=false) .i64 hc2),(7,.len (za6 2 ziD x.vals))] [] [(15,vb (decide ((x.vals.length:Int)>10)))] h fun a w h=>zam ((x.vals.length:Int)>10) h (fun hc3 hc3'=>?_) (fun hc4 hc4'=>?_)
 ·refine Je 1 [] [15] [] h fun a w h=>qV (za7 (rT (.c (cB false)) h rfl ?_));have hz:zgc L x=false:=by unfold zgc;rw [decide_eq_false (p:=(x.locs.length:Int)<=10/\(x.vals.length:Int)<=10) (by have:=dT hc3;omega)];rfl
  rw [hz];try rfl
 refine qU (za1 (qW (Je 1 [] [15] [(5,vI 0)] h fun a w h=>qZ ?_)))
 refine zaq (ι:=(Nat)) (fun j=>j<=x.vals.length/\(x.vals.take j).all (fun z=>decide ((z.abs.length:Int)<=(L:Int)))=true)
   (fun j=>[(1,vN L),(2,vp 0 0),(5,vN j)])
   (fun j=>[(0,.box [cIs x.locs,cZs x.vals])])
   (fun j=>x.vals.length - j) 0 ?_ h (by kernel_rfl) (by kernel_rfl) ?_
 ·exact ⟨Nat.zero_le _,rfl⟩
 clear h;rintro j a w hI h;obtain ⟨hI1,hI2⟩:=hI;refine qW (Je 1 [(3,.len (za6 2 ziD x.vals))] [] [(20,vb (decide ((j:Int)<(x.vals.length:Int))))] h fun a w h=>zam ((j:Int)<(x.vals.length:Int)) h (fun hc5 hc5'=>?_) (fun hc8 hc8'=>?_))
 ·refine qU (za1 (qW (qZ ?_)));obtain ⟨x1,hx1⟩:=gl x.vals j;refine Je 1 [(3,.g (xD 26 24 tt_6 (zab hx1 (f:=ziD)) (OV.tmp 25 _))),(6,.len (ze1 x1.abs))] [20] [(31,vb (decide ((x1.abs.length:Int)>(L:Int))))] h fun a w h=>zam ((x1.abs.length:Int)>(L:Int)) h (fun hc6 hc6'=>?_) (fun hc7 hc7'=>?_)
  ·refine Je 1 [] [31] [(4,vb false)] h fun a w h=>qV (zae (za7 (za7 (zae (za7 (rT (.c (cB false)) h rfl ?_))))));have hz:zgc L x=false:=by unfold zgc;rw [decide_eq_true (p:=(x.locs.length:Int)<=10/\(x.vals.length:Int)<=10) (by have:=dF hc2;have:=dF hc4;omega),Bool.true_and];exact zbl hx1 (decide_eq_false (by have:=dT hc6;omega))
   rw [hz];try rfl
  refine qU (za9 (za1 (Jf 1 [(1,.j1 j)] [31] [(5,vI ((j:Int)+1))] h fun a w h=>za1 (zag (x:=j) (y:=j+1) h ?_ ?_))))
  ·exact ⟨by have:=zaj hx1;omega,zco hx1 hI2 (decide_eq_true (by have:=dF hc7;omega))⟩
  show x.vals.length - (j+1)<x.vals.length - j;have:=zaj hx1;omega
 refine wp_exit (zaa (zaa (za5 (za1 (Jq 1 [] [(4,vb true)] [] h fun a w h=>qV (rT (.c (cB true)) h rfl ?_))))));have hz:zgc L x=true:=by unfold zgc;rw [decide_eq_true (p:=(x.locs.length:Int)<=10/\(x.vals.length:Int)<=10) (by have:=dF hc2;have:=dF hc4;omega),Bool.true_and];exact zcu (dF hc8) hI2
 rw [hz];try rfl
theorem SFewSys (s:zar) (L:Nat) (hr:SysRd s):Fn Tryz.prog 35 [] [vG (zan s),vN L] (vb (zbh L s)) []:=by
 have lb1:=hr.len.1;have lb2:=hr.len.2;refine Fn.body Tryz.func35 rfl 118 rfl fun w H B a h=>Jq 0 [] [(1,vN L),(2,vp 0 0),(4,vb false)] [(0,.box (zan s))] h fun a w h=>qW ?_
 rcases Bool.eq_false_or_eq_true (decide ((s.vars.length:Int)>8)) with hc1 | hc2
 ·have hc1':=dT hc1;refine Je 1 [(2,.len (za6 1 zfj s.vars)),(3,.cmp (op:=.gtr) (m:=(s.vars.length:Int)) (n:=8) (b:=true) .i64 hc1)] [] [(36,vb true)] h fun a w h=>cS true h (fun _=>?_) nofun
  refine Je 1 [] [36] [] h fun a w h=>qV (za7 (rT (.c (cB false)) h rfl ?_));have hz:zbh L s=false:=by unfold zbh;rw [decide_eq_false (p:=(s.vars.length:Int)<=8/\(s.bounds.length:Int)<=20/\(s.procs.length:Int)<=6/\(s.acts.length:Int)<=20) (by have:=dT hc1;omega)];rfl
  rw [hz];try rfl
 have hc2':=dF hc2
 rcases Bool.eq_false_or_eq_true (decide ((s.bounds.length:Int)>20)) with hc3 | hc4
 ·have hc3':=dT hc3;refine Je 1 [(2,.len (za6 1 zfj s.vars)),(3,.cmp (op:=.gtr) (m:=(s.vars.length:Int)) (n:=8) (b:=false) .i64 hc2),(7,.len (za6 5 zaw.d s.bounds)),(8,.cmp (op:=.gtr) (m:=(s.bounds.length:Int)) (n:=20) (b:=true) .i64 hc3)] [] [(36,vb true)] h fun a w h=>cS true h (fun _=>?_) nofun
  refine Je 1 [] [36] [] h fun a w h=>qV (za7 (rT (.c (cB false)) h rfl ?_));have hz:zbh L s=false:=by unfold zbh;rw [decide_eq_false (p:=(s.vars.length:Int)<=8/\(s.bounds.length:Int)<=20/\(s.procs.length:Int)<=6/\(s.acts.length:Int)<=20) (by have:=dT hc3;omega)];rfl
  rw [hz];try rfl
 have hc4':=dF hc4
 rcases Bool.eq_false_or_eq_true (decide ((s.procs.length:Int)>6)) with hc5 | hc6
 ·have hc5':=dT hc5;refine Je 1 [(2,.len (za6 1 zfj s.vars)),(3,.cmp (op:=.gtr) (m:=(s.vars.length:Int)) (n:=8) (b:=false) .i64 hc2),(7,.len (za6 5 zaw.d s.bounds)),(8,.cmp (op:=.gtr) (m:=(s.bounds.length:Int)) (n:=20) (b:=false) .i64 hc4),(13,.len (za6 3 zcg.d s.procs)),(14,.cmp (op:=.gtr) (m:=(s.procs.length:Int)) (n:=6) (b:=true) .i64 hc5)] [] [(36,vb true)] h fun a w h=>cS true h (fun _=>?_) nofun
  refine Je 1 [] [36] [] h fun a w h=>qV (za7 (rT (.c (cB false)) h rfl ?_));have hz:zbh L s=false:=by unfold zbh;rw [decide_eq_false (p:=(s.vars.length:Int)<=8/\(s.bounds.length:Int)<=20/\(s.procs.length:Int)<=6/\(s.acts.length:Int)<=20) (by have:=dT hc5;omega)];rfl
  rw [hz];try rfl
 have hc6':=dF hc6
 rcases Bool.eq_false_or_eq_true (decide ((s.acts.length:Int)>20)) with hc7 | hc8
 ·have hc7':=dT hc7;refine Je 1 [(2,.len (za6 1 zfj s.vars)),(3,.cmp (op:=.gtr) (m:=(s.vars.length:Int)) (n:=8) (b:=false) .i64 hc2),(7,.len (za6 5 zaw.d s.bounds)),(8,.cmp (op:=.gtr) (m:=(s.bounds.length:Int)) (n:=20) (b:=false) .i64 hc4),(13,.len (za6 3 zcg.d s.procs)),(14,.cmp (op:=.gtr) (m:=(s.procs.length:Int)) (n:=6) (b:=false) .i64 hc6),(19,.len (za6 10 zbi.d s.acts)),(20,.cmp (op:=.gtr) (m:=(s.acts.length:Int)) (n:=20) (b:=true) .i64 hc7)] [] [(36,vb true)] h fun a w h=>cS true h (fun _=>?_) nofun
  refine Je 1 [] [36] [] h fun a w h=>qV (za7 (rT (.c (cB false)) h rfl ?_));have hz:zbh L s=false:=by unfold zbh;rw [decide_eq_false (p:=(s.vars.length:Int)<=8/\(s.bounds.length:Int)<=20/\(s.procs.length:Int)<=6/\(s.acts.length:Int)<=20) (by have:=dT hc7;omega)];rfl
  rw [hz];try rfl
 have hc8':=dF hc8;refine Je 1 [(2,.len (za6 1 zfj s.vars)),(3,.cmp (op:=.gtr) (m:=(s.vars.length:Int)) (n:=8) (b:=false) .i64 hc2),(7,.len (za6 5 zaw.d s.bounds)),(8,.cmp (op:=.gtr) (m:=(s.bounds.length:Int)) (n:=20) (b:=false) .i64 hc4),(13,.len (za6 3 zcg.d s.procs)),(14,.cmp (op:=.gtr) (m:=(s.procs.length:Int)) (n:=6) (b:=false) .i64 hc6),(19,.len (za6 10 zbi.d s.acts)),(20,.cmp (op:=.gtr) (m:=(s.acts.length:Int)) (n:=20) (b:=false) .i64 hc8),(26,.call (SFewF s.init 30 (L:Int) hr.init (by decide) (by decide)) kt_1)] [] [(36,vb (!(zi4 s.init 30 L)))] h fun a w h=>cS (!(zi4 s.init 30 L)) h (fun hc9=>?_) (fun hc10=>?_)
 ·have hc9':=hc9;(try simp at hc9');refine Je 1 [] [36] [] h fun a w h=>qV (za7 (rT (.c (cB false)) h rfl ?_));have hz:zbh L s=false:=by unfold zbh;rw [decide_eq_true (p:=(s.vars.length:Int)<=8/\(s.bounds.length:Int)<=20/\(s.procs.length:Int)<=6/\(s.acts.length:Int)<=20) (by have:=dF hc2;have:=dF hc4;have:=dF hc6;have:=dF hc8;omega),Bool.true_and];rw [(show (zi4 s.init 30 L)=false from by simpa using hc9)];rfl
  rw [hz];try rfl
 have hc10':=hc10;(try simp at hc10');refine qU (za1 (qW (Je 1 [] [36] [(5,vI 0)] h fun a w h=>qZ ?_)))
 refine zaq (ι:=(Nat)) (fun j=>j<=s.bounds.length/\(s.bounds.take j).all (fewB L)=true)
   (fun j=>[(1,vN L),(2,vp 0 0),(5,vN j)])
   (fun j=>[(0,.box (zan s))])
   (fun j=>s.bounds.length - j) 0 ?_ h (by kernel_rfl) (by kernel_rfl) ?_
 ·exact ⟨Nat.zero_le _,rfl⟩
 clear h;rintro j a w hI h;obtain ⟨hI1,hI2⟩:=hI;refine qW (Je 1 [(3,.len (za6 5 zaw.d s.bounds))] [] [(41,vb (decide ((j:Int)<(s.bounds.length:Int))))] h fun a w h=>zam ((j:Int)<(s.bounds.length:Int)) h (fun hc11 hc11'=>?_) (fun hc16 hc16'=>?_))
 ·refine qU (za1 (qW (qZ ?_)));obtain ⟨x2,hx2⟩:=gl s.bounds j
  rcases Bool.eq_false_or_eq_true (decide ((x2.lo.abs.length:Int)>(L:Int))) with hc12 | hc13
  ·have hc12':=dT hc12;refine Je 1 [(3,.g (xD 47 45 kf_0 (zab hx2 (f:=zaw.d)) (OV.tmp 46 _))),(7,.len (ze1 x2.lo.abs)),(9,.cmp (op:=.gtr) (m:=(x2.lo.abs.length:Int)) (n:=(L:Int)) (b:=true) .i64 hc12)] [41] [(65,vb true)] h fun a w h=>cS true h (fun _=>?_) nofun
   refine Je 1 [] [65] [(4,vb false)] h fun a w h=>qV (zae (za7 (za7 (zae (za7 (rT (.c (cB false)) h rfl ?_))))));have hz:zbh L s=false:=by unfold zbh;rw [decide_eq_true (p:=(s.vars.length:Int)<=8/\(s.bounds.length:Int)<=20/\(s.procs.length:Int)<=6/\(s.acts.length:Int)<=20) (by have:=dF hc2;have:=dF hc4;have:=dF hc6;have:=dF hc8;omega),Bool.true_and];rw [(show (zi4 s.init 30 L)=true from by simpa using hc10)];rw [zbl hx2 (show fewB L x2=false from (by unfold fewB;rw [decide_eq_false (by have:=dT hc12;omega)];rfl))];rfl
   rw [hz];try rfl
  have hc13':=dF hc13;refine Je 1 [(3,.g (xD 47 45 kf_0 (zab hx2 (f:=zaw.d)) (OV.tmp 46 _))),(7,.len (ze1 x2.lo.abs)),(9,.cmp (op:=.gtr) (m:=(x2.lo.abs.length:Int)) (n:=(L:Int)) (b:=false) .i64 hc13),(14,.g (xD 58 56 kf_0 (zab hx2 (f:=zaw.d)) (OV.tmp 57 _))),(18,.len (ze1 x2.hi.abs))] [41] [(65,vb (decide ((x2.hi.abs.length:Int)>(L:Int))))] h fun a w h=>zam ((x2.hi.abs.length:Int)>(L:Int)) h (fun hc14 hc14'=>?_) (fun hc15 hc15'=>?_)
  ·refine Je 1 [] [65] [(4,vb false)] h fun a w h=>qV (zae (za7 (za7 (zae (za7 (rT (.c (cB false)) h rfl ?_))))));have hz:zbh L s=false:=by unfold zbh;rw [decide_eq_true (p:=(s.vars.length:Int)<=8/\(s.bounds.length:Int)<=20/\(s.procs.length:Int)<=6/\(s.acts.length:Int)<=20) (by have:=dF hc2;have:=dF hc4;have:=dF hc6;have:=dF hc8;omega),Bool.true_and];rw [(show (zi4 s.init 30 L)=true from by simpa using hc10)];rw [zbl hx2 (show fewB L x2=false from (by unfold fewB;rw [decide_eq_false (p:=(x2.hi.abs.length:Int)<=(L:Int)) (by have:=dT hc14;omega),Bool.and_false]))];rfl
   rw [hz];try rfl
  refine qU (za9 (za1 (Jf 1 [(1,.j1 j)] [65] [(5,vI ((j:Int)+1))] h fun a w h=>za1 (zag (x:=j) (y:=j+1) h ?_ ?_))))
  ·exact ⟨by have:=zaj hx2;omega,zco hx2 hI2 (by unfold fewB;rw [decide_eq_true (by have:=dF hc13;omega),decide_eq_true (by have:=dF hc15;omega)];rfl)⟩
  show s.bounds.length - (j+1)<s.bounds.length - j;have:=zaj hx2;omega
 refine wp_exit (zaa (zaa (za5 (za1 (qW (Je 1 [] [5,41] [(6,vI 0)] h fun a w h=>qZ ?_))))))
 refine zaq (ι:=(Nat)) (fun q=>q<=s.acts.length/\(s.acts.take q).all (fewA L)=true)
   (fun q=>[(1,vN L),(2,vp 0 0),(6,vN q)])
   (fun q=>[(0,.box (zan s))])
   (fun q=>s.acts.length - q) 0 ?_ h (by kernel_rfl) (by kernel_rfl) ?_
 ·exact ⟨Nat.zero_le _,rfl⟩
 clear h;rintro q a w hI h;obtain ⟨hQ1,hQ2⟩:=hI;refine qW (Je 1 [(3,.len (za6 10 zbi.d s.acts))] [] [(70,vb (decide ((q:Int)<(s.acts.length:Int))))] h fun a w h=>zam ((q:Int)<(s.acts.length:Int)) h (fun hc17 hc17'=>?_) (fun hc26 hc26'=>?_))
 ·refine qU (za1 (qW (qZ (qW ?_))));obtain ⟨x3,hx3⟩:=gl s.acts q;have lmx3:=hr.mlen x3 (lM hx3)
  rcases Bool.eq_false_or_eq_true (zi4 x3.guard 30 L) with hc18 | hc25
  ·refine Je 1 [(3,.g (xD 76 74 ki_1 (zab hx3 (f:=zbi.d)) (OV.tmp 75 _))),(7,.call (Fn.cast (SFewF x3.guard 30 (L:Int) (hr.act x3 (lM hx3)).1 (by decide) (by decide)) (congrArg vb hc18)) kt_1),(13,.g (xD 86 84 ki_1 (zab hx3 (f:=zbi.d)) (OV.tmp 85 _))),(16,.len (za6 5 zad.d x3.moves))] [70] [(91,vb (decide ((x3.moves.length:Int)>20)))] h fun a w h=>zam ((x3.moves.length:Int)>20) h (fun hc19 hc19'=>?_) (fun hc20 hc20'=>?_)
   ·refine Je 1 [] [91] [(4,vb false)] h fun a w h=>qV (za7 (zae (za7 (za7 (zae (za7 (rT (.c (cB false)) h rfl ?_)))))));have hz:zbh L s=false:=by unfold zbh;rw [decide_eq_true (p:=(s.vars.length:Int)<=8/\(s.bounds.length:Int)<=20/\(s.procs.length:Int)<=6/\(s.acts.length:Int)<=20) (by have:=dF hc2;have:=dF hc4;have:=dF hc6;have:=dF hc8;omega),Bool.true_and];rw [(show (zi4 s.init 30 L)=true from by simpa using hc10)];rw [zcu (dF hc16) hI2];rw [zbl hx3 (show fewA L x3=false from (by unfold fewA;rw [decide_eq_false (p:=(x3.moves.length:Int)<=20) (by have:=dT hc19;omega),Bool.and_false];rfl))];rfl
    rw [hz];try rfl
   refine qU (za1 (Je 1 [] [91] [(7,vI 0)] h fun a w h=>qZ ?_))
   refine zaq (ι:=(Nat)) (fun i=>i<=x3.moves.length/\(x3.moves.take i).all (fewM L)=true)
     (fun i=>[(1,vN L),(2,vp 0 0),(6,vN q),(7,vN i)])
     (fun i=>[(0,.box (zan s))])
     (fun i=>x3.moves.length - i) 0 ?_ h (by kernel_rfl) (by kernel_rfl) ?_
   ·exact ⟨Nat.zero_le _,rfl⟩
   clear h;rintro i a w hI h;obtain ⟨hJ1,hJ2⟩:=hI;refine qW (Je 1 [(4,.g (xD 96 94 ki_1 (zab hx3 (f:=zbi.d)) (OV.tmp 95 _))),(7,.len (za6 5 zad.d x3.moves))] [] [(100,vb (decide ((i:Int)<(x3.moves.length:Int))))] h fun a w h=>zam ((i:Int)<(x3.moves.length:Int)) h (fun hc21 hc21'=>?_) (fun hc24 hc24'=>?_))
   ·refine qU (za1 (qW (qZ ?_)));obtain ⟨x6,hx6⟩:=gl x3.moves i;refine Je 1 [(3,.g (xD 106 104 ki_1 (zab hx3 (f:=zbi.d)) (OV.tmp 105 _))),(7,.g (xD 110 108 ki_2 (zab hx6 (f:=zad.d)) (OV.tmp 109 _))),(13,.call (Fn.agg6 (SFewF (formT x6.t) 5 (L:Int) (formT_lb ((hr.act x3 (lM hx3)).2 x6 (lM hx6))) (by decide) (by decide))) kt_1)] [100] [(117,vb (!(zi4 (formT x6.t) 5 L)))] h fun a w h=>cS (!(zi4 (formT x6.t) 5 L)) h (fun hc22=>?_) (fun hc23=>?_)
    ·have hc22':=hc22;(try simp at hc22');refine Je 1 [] [117] [(4,vb false)] h fun a w h=>qV (zae (za7 (za7 (zae (zae (za7 (za7 (zae (za7 (rT (.c (cB false)) h rfl ?_))))))))));have hz:zbh L s=false:=by unfold zbh;rw [decide_eq_true (p:=(s.vars.length:Int)<=8/\(s.bounds.length:Int)<=20/\(s.procs.length:Int)<=6/\(s.acts.length:Int)<=20) (by have:=dF hc2;have:=dF hc4;have:=dF hc6;have:=dF hc8;omega),Bool.true_and];rw [(show (zi4 s.init 30 L)=true from by simpa using hc10)];rw [zcu (dF hc16) hI2];rw [zbl hx3 (show fewA L x3=false from (by unfold fewA;rw [hc18,decide_eq_true (p:=(x3.moves.length:Int)<=20) (by have:=dF hc20;omega),Bool.true_and,Bool.true_and];exact zbl hx6 (show fewM L x6=false from (show (zi4 (formT x6.t) 5 L)=false from by simpa using hc22))))];rfl
     rw [hz];try rfl
    have hc23':=hc23;(try simp at hc23');refine qU (za9 (za1 (Jf 1 [(1,.j1 i)] [117] [(7,vI ((i:Int)+1))] h fun a w h=>za1 (zag (x:=i) (y:=i+1) h ?_ ?_))))
    ·have:=zaj hx6;exact ⟨by omega,zco hx6 hJ2 (show fewM L x6=true from (show (zi4 (formT x6.t) 5 L)=true from by simpa using hc23))⟩
    show x3.moves.length - (i+1)<x3.moves.length - i;have:=zaj hx6;omega
   refine wp_exit (zaa (zaa (za5 (za9 (za1 (Jf 1 [(1,.add .i64 (m:=(q:Int)) (n:=1) i6)] [7,100] [(6,vI ((q:Int)+1))] h fun a w h=>za1 (zag (x:=q) (y:=q+1) h ?_ ?_)))))))
   ·have:=zaj hx3;exact ⟨by omega,zco hx3 hQ2 (by unfold fewA;rw [hc18,decide_eq_true (p:=(x3.moves.length:Int)<=20) (by have:=dF hc20;omega),Bool.true_and,Bool.true_and];exact zcu (dF hc24) hJ2)⟩
   show s.acts.length - (q+1)<s.acts.length - q;have:=zaj hx3;omega
  refine Je 1 [(3,.g (xD 76 74 ki_1 (zab hx3 (f:=zbi.d)) (OV.tmp 75 _))),(7,.call (Fn.cast (SFewF x3.guard 30 (L:Int) (hr.act x3 (lM hx3)).1 (by decide) (by decide)) (congrArg vb hc25)) kt_1)] [70] [(91,vb true)] h fun a w h=>cS true h (fun _=>?_) nofun
  refine Je 1 [] [91] [(4,vb false)] h fun a w h=>qV (za7 (zae (za7 (za7 (zae (za7 (rT (.c (cB false)) h rfl ?_)))))));have hz:zbh L s=false:=by unfold zbh;rw [decide_eq_true (p:=(s.vars.length:Int)<=8/\(s.bounds.length:Int)<=20/\(s.procs.length:Int)<=6/\(s.acts.length:Int)<=20) (by have:=dF hc2;have:=dF hc4;have:=dF hc6;have:=dF hc8;omega),Bool.true_and];rw [(show (zi4 s.init 30 L)=true from by simpa using hc10)];rw [zcu (dF hc16) hI2];rw [zbl hx3 (show fewA L x3=false from (by unfold fewA;rw [hc25];rfl))];rfl
  rw [hz];try rfl
 refine wp_exit (zaa (zaa (za5 (za1 (Jq 1 [] [(4,vb true)] [] h fun a w h=>qV (rT (.c (cB true)) h rfl ?_))))));have hz:zbh L s=true:=by unfold zbh;rw [decide_eq_true (p:=(s.vars.length:Int)<=8/\(s.bounds.length:Int)<=20/\(s.procs.length:Int)<=6/\(s.acts.length:Int)<=20) (by have:=dF hc2;have:=dF hc4;have:=dF hc6;have:=dF hc8;omega),Bool.true_and];rw [(show (zi4 s.init 30 L)=true from by simpa using hc10)];rw [zcu (dF hc16) hI2];rw [zcu (dF hc26) hQ2];rfl
 rw [hz];try rfl
mutual
/-- y is x, with nil read as an empty slice here and zdq -/
inductive Wk:D->D->Prop
  | refl (x:D):Wk x x
  | nil (es:Nat):Wk (.raw zaf) (.sl es [])
  | sl (es:Nat) (a b:List (List D)) (h:WkR a b):Wk (.sl es a) (.sl es b)
inductive WkL:List D->List D->Prop
  | nil:WkL [] []
  | cons (x y:D) (xs ys:List D) (h:Wk x y) (hs:WkL xs ys):WkL (x :: xs) (y :: ys)
inductive WkR:List (List D)->List (List D)->Prop
  | nil:WkR [] []
  | cons (x y:List D) (xs ys:List (List D)) (h:WkL x y) (hs:WkR xs ys):WkR (x :: xs) (y :: ys)
end
def WkM (x y:D):Prop:=∀ (H:Im) (v:Value),DR H x v->DR H y v
def WkLM (xs ys:List D):Prop:=xs.length=ys.length/\∀ j (h:j<xs.length) (h':j<ys.length),WkM xs[j] ys[j]
def WkRM (xs ys:List (List D)):Prop:=xs.length=ys.length/\∀ i (h:i<xs.length) (h':i<ys.length),WkLM xs[i] ys[i]
theorem Wk.sound {x y:D} (h:Wk x y):WkM x y:=by
 refine Wk.rec (motive_1:=fun x y _=>WkM x y) (motive_2:=fun x y _=>WkLM x y) (motive_3:=fun x y _=>WkRM x y) ?_ ?_ ?_ ?_ ?_ ?_ ?_ h
 ·intro x H v h;exact h
 ·intro es H v h
  cases h with
  | raw v h=>exact DR.nil _ _ _ (fun _=>rfl) (Nat.zero_le _)
 ·intro es a b _ ih H v h
  cases h with
  | nil es ao c h hc =>
   have:b=[]:=List.length_eq_zero_iff.1 ih.1.symm
   subst this
   exact DR.nil _ _ _ h hc
  | sl es rows bb o c arr ty fz vs hp hb hl hc hes hv hr =>
   rw [ih.1] at hp hl ⊢
   refine DR.sl es b bb o c arr ty fz vs hp hb hl hc (fun i hi=>?_) (fun i hi=>?_) (fun i hi j hj=>?_)
   ·have h0:i<a.length:=by rw [ih.1];exact hi
    rw [<- (ih.2 i h0 hi).1];exact hes i h0
   ·exact hv i (by rw [ih.1];exact hi)
   ·have h0:i<a.length:=by rw [ih.1];exact hi
    have hj0:j<a[i].length:=by rw [(ih.2 i h0 hi).1];exact hj
    exact (ih.2 i h0 hi).2 j hj0 hj _ _ (hr i h0 j hj0)
 ·exact ⟨rfl,fun j h=>absurd h (Nat.not_lt_zero j)⟩
 ·intro x y xs ys _ _ h hs
  refine ⟨by simp [hs.1],fun j hj hj'=>?_⟩
  cases j with
  | zero=>exact h
  | succ j=>exact hs.2 j (by simpa using hj) (by simpa using hj')
 ·exact ⟨rfl,fun j h=>absurd h (Nat.not_lt_zero j)⟩
 ·intro x y xs ys _ _ h hs
  refine ⟨by simp [hs.1],fun j hj hj'=>?_⟩
  cases j with
  | zero=>exact h
  | succ j=>exact hs.2 j (by simpa using hj) (by simpa using hj')
inductive WkC:List C->List C->Prop
  | nil:WkC [] []
  | same (x:C) (xs ys:List C) (hs:WkC xs ys):WkC (x :: xs) (x :: ys)
  | d (x y:D) (xs ys:List C) (h:Wk x y) (hs:WkC xs ys):WkC (.d x :: xs) (.d y :: ys)
theorem WkC.sound {H:Im} {B:Bl} {xs ys:List C} (h:WkC xs ys):∀ {vs:List Value}, zb4 (CR H B) xs vs->zb4 (CR H B) ys vs:=by
 induction h with
 | nil=>exact fun h=>h
 | same x xs ys _ ih =>
  intro vs k
  cases vs with
  | nil=>exact k.elim
  | cons v vs=>exact ⟨k.1,ih k.2⟩
 | d x y xs ys h _ ih =>
  intro vs k
  cases vs with
  | nil=>exact k.elim
  | cons v vs=>exact ⟨h.sound H v k.1,ih k.2⟩
inductive WkV:V->V->Prop
  | refl (x:V):WkV x x
  | c (x y:D) (h:Wk x y):WkV (.t (.c (.d x))) (.t (.c (.d y)))
  | agg (xs ys:List C) (h:WkC xs ys):WkV (.t (.agg xs)) (.t (.agg ys))
theorem WkV.sound {H:Im} {B:Bl} {x y:V} (h:WkV x y) {v:Value} (k:VR H B x v):VR H B y v:=by
 cases h with
 | refl=>exact k
 | c x y h=>exact h.sound H v k
 | agg xs ys h=>obtain ⟨vs,e,k⟩:=k;exact ⟨vs,e,h.sound k⟩
inductive WkA:List V->List V->Prop
  | nil:WkA [] []
  | cons (x y:V) (xs ys:List V) (h:WkV x y) (hs:WkA xs ys):WkA (x :: xs) (y :: ys)
theorem WkA.sound {H:Im} {B:Bl} {xs ys:List V} (h:WkA xs ys):∀ {vs:List Value}, zb4 (VR H B) xs vs->zb4 (VR H B) ys vs:=by
 induction h with
 | nil=>exact fun h=>h
 | cons x y xs ys h _ ih =>
  intro vs k
  cases vs with
  | nil=>exact k.elim
  | cons v vs=>exact ⟨h.sound k.1,ih k.2⟩
theorem Fn.argw {P:Program} {k:FuncId} {ps qs:List (Nat × L)} {args args':List V} {res:V} (h:Fn P k ps args' res qs) (hw:WkA args args'):Fn P k ps args res qs :=
 fun w H B vals pre=>h w H B vals ⟨pre.sat,pre.loc,pre.priv,pre.inj,hw.sound pre.arg⟩
theorem Fn.resw {P:Program} {k:FuncId} {ps qs:List (Nat × L)} {args:List V} {res res':V} (h:Fn P k ps args res qs) (hw:WkV res res'):Fn P k ps args res' qs :=
 fun w H B vals pre=>(h w H B vals pre).mono fun _en _w' ⟨v,H', B', e,p⟩=>⟨v,H', B', e,{ p with res:=hw.sound p.res }⟩
theorem lo15_2:za4 Tryz.prog 34:=za4.mk' (by kernel_rfl)
theorem kw_3:ElZ Tryz.prog 23 106 5:=ElZ.mk' Tryz.underlying23 _ _ rfl rfl (by kernel_rfl) (by kernel_rfl) (by kernel_rfl) (by decide)
theorem kw_4:ElZ Tryz.prog 36 59 3:=ElZ.mk' Tryz.underlying36 _ _ rfl rfl (by kernel_rfl) (by kernel_rfl) (by kernel_rfl) (by decide)
theorem kw_5:ElZ Tryz.prog 70 74 5:=ElZ.mk' Tryz.underlying70 _ _ rfl rfl (by kernel_rfl) (by kernel_rfl) (by kernel_rfl) (by decide)
theorem kw_6:ElZ Tryz.prog 37 72 10:=ElZ.mk' Tryz.underlying37 _ _ rfl rfl (by kernel_rfl) (by kernel_rfl) (by kernel_rfl) (by decide)
theorem kw_7:Sz Tryz.prog 39 10 true:=Sz.mk' (by kernel_rfl) Tryz.underlying39 _ rfl
def zbw:zar:=⟨[⟨#[120]⟩],[⟨true,zero0,ZI.of 3⟩],form0,[⟨⟨#[112]⟩,[⟨#[97]⟩,⟨#[98]⟩],.raw zaf⟩],[⟨0,0,1,form0,[⟨0,false,⟨[⟨0,ZI.of 1⟩],ZI.of 1⟩⟩]⟩]⟩
theorem form0_lb:form0.lb:=(za0.lb_eq _).2 ⟨⟨⟨zdo,fun p hp=>(by cases hp)⟩,Nat.zero_le _⟩,fun g hg=>(by cases hg)⟩
theorem fewE:zbh 3 zbw=true:=by kernel_rfl
theorem mem1 {α:Type} {x y:α} (h:x ∈ [y]):x=y:=by simpa using h
theorem sysRdE:SysRd zbw:=⟨form0_lb,fun b hb=>by rw [mem1 hb];exact ⟨zdo,ZI.lb_of 3⟩,fun c hc=>by
 rw [mem1 hc]
 exact ⟨form0_lb,fun m hm=>by rw [mem1 hm];exact ⟨ZI.lb_of 1,fun p hp=>by rw [mem1 hp];exact ZI.lb_of 1⟩⟩,by decide,fun c hc=>by rw [mem1 hc];decide⟩
theorem zbn:zba 3 zbw:=few_sys fewE sysRdE
theorem ky_1:za4 Tryz.prog 35:=za4.mk' (by kernel_rfl)
section
variable {w:World} {n:Nat}
theorem rep_raw {t e:TypeId} (hu:Tryz.prog.underlying t=some (.slice e)):zfe w n t rawD (fun _=>True):=fun H enc base spare held fuel cs x hn hx=>by
 rcases DataW.trod_slice hu hx with ⟨rfl,_⟩ | ⟨a,len,cap,elems,rest,m,rfl,rfl,_⟩
 ·exact ⟨.raw _,trivial,DR.raw _ rfl,trivial⟩
 ·exact ⟨.raw _,trivial,DR.raw _ rfl,trivial⟩
theorem rep_strs:zfe w n 22 (slD 1 zfj) (fun xs=>xs.length<=maxLen/\∀ x ∈ xs,x.size<=maxLen) :=
 zd0 (k:=1) Tryz.underlying22 (by kernel_rfl) (by decide) (fun _=>rfl) (rep_str Tryz.underlying9)
theorem rep_Rel:zfe w n 32 zb0.d (fun r=>TLb r.t) :=
 ((zc2 (n:=n) Tryz.underlying32 (by kernel_rfl) (.cons (k0:=3) rfl (by kernel_rfl) rep_Term (.cons (k0:=1) rfl (by kernel_rfl) (zja Tryz.underlying4) .nil))).map (fun p=>⟨p.1,p.2.1⟩) (fun _=>rfl) fun _ h=>h.1).mono (Nat.le_succ n)
theorem rep_Form:∀ {n:Nat}, zfe w n 35 za0.d za0.lb
 | 0=>zfe.zero
 | n+1=>(zc2 (n:=n) Tryz.underlying35 (by kernel_rfl) (.cons (k0:=1) rfl (by kernel_rfl) (zgq Tryz.underlying3) (.cons (k0:=4) rfl (by kernel_rfl) rep_Rel (.cons (k0:=1) rfl (by kernel_rfl) (zd0 (k:=6) Tryz.underlying33 (by kernel_rfl) (by decide) za0.d_len rep_Form) .nil)))).map (fun p=>⟨p.1,p.2.1,p.2.2.1⟩) (fun _=>(za0.d_eq _).trans rfl) fun _ h=>(za0.lb_eq _).2 ⟨⟨h.2.1,Nat.le_trans h.2.2.1.1 (by decide)⟩,h.2.2.1.2⟩
theorem rep_Bound:zfe w n 106 zaw.d (fun b=>Lb b.lo.abs/\Lb b.hi.abs) :=
 ((zc2 (n:=n) Tryz.underlying106 (by kernel_rfl) (.cons (k0:=1) rfl (by kernel_rfl) (zja Tryz.underlying4) (.cons (k0:=2) rfl (by kernel_rfl) rep_ZI (.cons (k0:=2) rfl (by kernel_rfl) rep_ZI .nil)))).map (fun p=>⟨p.1,p.2.1,p.2.2.1⟩) (fun _=>rfl) fun _ h=>⟨h.2.1,h.2.2.1⟩).mono (Nat.le_succ n)
theorem rep_Move:zfe w n 74 zad.d (fun m=>TLb m.t) :=
 ((zc2 (n:=n) Tryz.underlying74 (by kernel_rfl) (.cons (k0:=1) rfl (by kernel_rfl) (zgq Tryz.underlying3) (.cons (k0:=1) rfl (by kernel_rfl) (zja Tryz.underlying4) (.cons (k0:=3) rfl (by kernel_rfl) rep_Term .nil)))).map (fun p=>⟨p.1,p.2.1,p.2.2.1⟩) (fun _=>rfl) fun _ h=>h.2.2.1).mono (Nat.le_succ n)
theorem rep_Moves:zfe w n 70 (slD 5 zad.d) (fun xs=>xs.length<=maxLen/\∀ x ∈ xs,TLb x.t) :=
 zd0 (k:=5) Tryz.underlying70 (by kernel_rfl) (by decide) (fun _=>rfl) rep_Move
theorem rep_Bounds:zfe w n 23 (slD 5 zaw.d) (fun xs=>xs.length<=maxLen/\∀ x ∈ xs,Lb x.lo.abs/\Lb x.hi.abs) :=
 zd0 (k:=5) Tryz.underlying23 (by kernel_rfl) (by decide) (fun _=>rfl) rep_Bound
theorem rep_Act:zfe w n 72 zbi.d (fun c=>c.guard.lb/\c.moves.length<=maxLen/\∀ m ∈ c.moves,TLb m.t) :=
 ((zc2 (n:=n) Tryz.underlying72 (by kernel_rfl) (.cons (k0:=1) rfl (by kernel_rfl) (zgq Tryz.underlying3) (.cons (k0:=1) rfl (by kernel_rfl) (zgq Tryz.underlying3) (.cons (k0:=1) rfl (by kernel_rfl) (zgq Tryz.underlying3) (.cons (k0:=6) rfl (by kernel_rfl) rep_Form (.cons (k0:=1) rfl (by kernel_rfl) rep_Moves .nil)))))).map (fun p=>⟨p.1,p.2.1,p.2.2.1,p.2.2.2.1,p.2.2.2.2.1⟩) (fun _=>by rw [za0.d_eq];rfl) fun _ h=>⟨h.2.2.2.1,h.2.2.2.2.1⟩).mono (Nat.le_succ n)
theorem rep_Proc:zfe w n 59 zcg.d (fun _=>True) :=
 ((zc2 (n:=n) Tryz.underlying59 (by kernel_rfl) (.cons (k0:=1) rfl (by kernel_rfl) (rep_str Tryz.underlying9) (.cons (k0:=1) rfl (by kernel_rfl) rep_strs (.cons (k0:=1) rfl (by kernel_rfl) (rep_raw Tryz.underlying57) .nil)))).map (fun p=>⟨p.1,p.2.1,p.2.2.1⟩) (fun _=>rfl) fun _ _=>trivial).mono (Nat.le_succ n)
theorem rep_Procs:zfe w n 36 (slD 3 zcg.d) (fun xs=>xs.length<=maxLen/\∀ x ∈ xs,True) :=
 zd0 (k:=3) Tryz.underlying36 (by kernel_rfl) (by decide) (fun _=>rfl) rep_Proc
theorem rep_Acts:zfe w n 37 (slD 10 zbi.d) (fun xs=>xs.length<=maxLen/\∀ x ∈ xs,x.guard.lb/\x.moves.length<=maxLen/\∀ m ∈ x.moves,TLb m.t) :=
 zd0 (k:=10) Tryz.underlying37 (by kernel_rfl) (by decide) (fun _=>rfl) rep_Act
theorem rep_Sys:zfe w n 39 zar.d SysRd :=
 ((zc2 (n:=n) Tryz.underlying39 (by kernel_rfl) (.cons (k0:=1) rfl (by kernel_rfl) rep_strs (.cons (k0:=1) rfl (by kernel_rfl) rep_Bounds (.cons (k0:=6) rfl (by kernel_rfl) rep_Form (.cons (k0:=1) rfl (by kernel_rfl) rep_Procs (.cons (k0:=1) rfl (by kernel_rfl) rep_Acts .nil)))))).map (fun p=>⟨p.1,p.2.1,p.2.2.1,p.2.2.2.1,p.2.2.2.2.1⟩) (fun _=>by rw [za0.d_eq];rfl) fun _ h=>⟨h.2.2.1,h.2.1.2,fun c hc=>⟨(h.2.2.2.2.1.2 c hc).1,(h.2.2.2.2.1.2 c hc).2.2⟩,⟨Nat.le_trans h.2.1.1 (by decide),Nat.le_trans h.2.2.2.2.1.1 (by decide)⟩,fun c hc=>Nat.le_trans (h.2.2.2.2.1.2 c hc).2.1 (by decide)⟩).mono (Nat.le_succ n)
end
theorem coefZ_far {ps:List za3} {v:Int} (h:∀ p ∈ ps,p.v≠v):zao ps v=0:=by
 induction ps with
 | nil=>rfl
 | cons p ps ih=>simp only [zao];rw [if_neg (fun e=>h p (by simp) e.1),ih (fun q hq=>h q (by simp [hq]))];rfl
theorem sizeGo_ge {lim:Int}:∀ (ks:List za0) (n:Int),n<=zcv lim (ks.map za0.size) n
 | [],n=>Int.le_refl _
 | g :: ks,n=>by
  rw [List.map_cons,zcv]
  split
  ·rename_i h
   have h1:=sizeGo_ge (lim:=lim) ks (n+g.size (lim - n))
   have h2:=(g.size_bd (lim - n) (by omega)).1
   omega
  ·exact Int.le_refl _
theorem size_wid (f:za0):∀ lim:Int,0<=lim->f.size lim<=lim->(f.wid:Int)<=3*f.size lim :=
 za0.ind (P:=fun f=>∀ lim:Int,0<=lim->f.size lim<=lim->(f.wid:Int)<=3*f.size lim) (fun k r ks ih lim hl h=>by
  rw [za0.size_eq] at h ⊢
  rw [za0.wid_eq]
  have key:∀ (xs:List za0),(∀ g ∈ xs,g ∈ ks)->∀ n:Int,zcv lim (xs.map za0.size) n<=lim->(((xs.map za0.wid).sum:Nat):Int)<=3*(zcv lim (xs.map za0.size) n - n):=fun xs=>by
   induction xs with
   | nil=>intro _ n _;show (0:Int)<=3*(n - n);omega
   | cons x xs ihx =>
    intro hx n hn
    rw [List.map_cons,zcv] at hn
    rw [List.map_cons,List.map_cons,List.sum_cons,zcv]
    split at hn
    ·rename_i e
     rw [if_pos e]
     have h1:=sizeGo_ge (lim:=lim) xs (n+x.size (lim - n))
     have h2:=ih x (hx x (List.mem_cons_self ..)) (lim - n) (by omega) (by omega)
     have h3:=ihx (fun g hg=>hx g (List.mem_cons_of_mem _ hg)) _ hn
     omega
    ·omega
  have:=key (cnt k ks) (fun g hg=>zb3 hg) 1 h
  show (((3+((cnt k ks).map za0.wid).sum:Nat)):Int)<=3*zcv lim ((cnt k ks).map za0.size) 1
  omega) f
theorem ok_okB {L:Nat} (f:za0):f.ok L->f.lb->f.wid<=1000000->f.okB 20 L :=
 za0.ind (P:=fun f=>f.ok L->f.lb->f.wid<=1000000->f.okB 20 L) (fun k r ks ih h1 h2 h3=>by
  rw [za0.okB_eq]
  have o1:=(za0.ok_eq _ _).1 h1
  have o2:=(za0.lb_eq _).1 h2
  refine ⟨⟨o1.1,o2.1.2,?_⟩,fun g hg=>ih g (zb3 hg) (o1.2 g hg) (o2.2 g (zb3 hg)) (Nat.le_trans (wid_kid hg) h3)⟩
  rw [za0.wid_eq] at h3
  have:∀ xs:List za0,xs.length<=(xs.map za0.wid).sum:=fun xs=>by
   induction xs with
   | nil=>exact Nat.le_refl _
   | cons x xs ih=>rw [List.map_cons,List.sum_cons,List.length_cons,za0.wid_eq];omega
  have:=this (cnt k ks)
  change 3+((cnt k ks).map za0.wid).sum<=1000000 at h3
  show (cnt k ks).length<=1000000
  omega) f
theorem fewF_okB {f:za0} (h:zi4 f 20 3=true) (hl:f.lb):f.okB 20 3/\f.wid<=60:=by
 have ho:f.ok 3:=fewF_ok (L:=3) h hl
 unfold zi4 at h
 rw [Bool.and_eq_true] at h
 have h1:f.size 20<=20:=by have:=h.1;simpa using this
 have hw:=size_wid f 20 (by decide) h1
 have hw:f.wid<=60:=by omega
 exact ⟨ok_okB f ho hl (by omega),hw⟩
theorem mb1_6:za4 Tryz.prog 86:=za4.mk' (by kernel_rfl)
theorem mb1_11:za4 Tryz.prog 70:=za4.mk' (by kernel_rfl)
theorem mb1_12:za4 Tryz.prog 82:=za4.mk' (by kernel_rfl)
def geF (l r:zak):za0:=zd7 (leaR (subT l r))
def leF (l r:zak):za0:=zd7 (leaR (subT r l))
def zi9 (s:zar) (v:Nat) (t:zak):List za0:=if (zft s v).is_=true then [geF t (zcf (zft s v).lo),leF t (zcf (zft s v).hi)] else []
def rngS (s:zar) (v:Nat):List za0:=zi9 s v (zdt (v:Int))
def zav (s:zar):za0:=zc7 ((List.range s.vars.length).flatMap (rngS s))
def zgf (s:zar) (c:zbi):Bool:=((decide (0<=c.proc/\c.proc<(s.procs.length:Int)) && decide (0<=c.from_/\c.from_<(zev s c.proc.toNat:Int))) && decide (0<=c.to_/\c.to_<(zev s c.proc.toNat:Int))) && !(c.moves.any fun m=>!zdq s m)
def za8 (s:zar) (i:Int):zbi × Bool:=match zf2 s i with | none=>(act0,false) | some c=>(c,zgf s c)
def mvA (c:zbi) (v:Nat):zad × Bool:=match mvAt c v with | none=>(mv0,false) | some m=>(m,true)
def zbu (c:zbi) (v:Nat):zak × Bool:=match mvAt c v with | none=>(zdt (v:Int),true) | some m=>if m.any=true then (⟨[],zero0⟩,false) else (za2 m.t,true)
def ze8 (s:zar) (c:zbi) (v:Nat):List za0:=if (zbu c v).2=true then zi9 s v (zbu c v).1 else if (zft s v).is_=true then [leF (zcf (zft s v).lo) (zcf (zft s v).hi)] else []
def canL (s:zar) (c:zbi):List za0:=c.guard :: (List.range s.vars.length).flatMap (ze8 s c)
def zgu (s:zar) (c:zbi):za0:=zc7 (canL s c)
theorem zbr {β:Type} (F:Nat->List β) (j:Nat):(List.range (j+1)).flatMap F=(List.range j).flatMap F++F j:=by rw [List.range_succ,List.flatMap_append];simp
theorem zbz {β:Type} (F:Nat->List β) {m:Nat} (h:∀ v,(F v).length<=m) (j:Nat):((List.range j).flatMap F).length<=j*m:=by
 induction j with
 | zero=>simp
 | succ j ih=>rw [zbr,List.length_append,Nat.succ_mul];have:=h j;omega
theorem zcn {β:Type} {F:Nat->List β} {Q:β->Prop} {n:Nat} (h:∀ v,v<n->∀ x ∈ F v,Q x):∀ x ∈ (List.range n).flatMap F,Q x:=fun x hx=>by
 obtain ⟨v,hv,hx⟩:=List.mem_flatMap.1 hx
 exact h v (List.mem_range.1 hv) x hx
theorem zht {L:Nat} {k:ZI} (h:ZOk L k):TOk 20 L (zcf k):=(TOk.num (ZI.lb_of _) (Nat.le_trans (zd1 h.1) h.2)).mono (Nat.zero_le _) (Nat.le_refl _)
theorem sub_tok {l r:zak} {n m L:Nat} (hl:TOk n L l) (hr:TOk m L r) (hn:n+m<=400):TOk (n+m) (2*(L+3)+2) (subT l r) :=
 (addT_ok (hl.mono (Nat.le_refl _) (show L<=L+3 by omega)) ((TOk.mul hr (ZI.lb_of _) (show (ZI.of (-1)).abs.length<=2 from by decide)).plain (by omega)) (by omega)).mono (Nat.le_refl _) (by omega)
theorem at_okB {l r:zak} {n m:Nat} (hl:TOk n 20 l) (hr:TOk m 20 r) (hn:n+m<=400) (e:Bool):(zd7 ⟨za2 (subT l r),e⟩).okB (n+m) 50 :=
 okB_atom ((((sub_tok hl hr hn).plain (by omega)).plain (by omega)).mono (Nat.le_refl _) (by omega))
theorem zgl (v:Int):TOk 1 20 (zdt v):=(TOk.plain TOk.one (by decide)).mono (Nat.le_refl _) (by decide)
theorem bnd_num {s:zar} (hs:zba 3 s) (v:Nat):TOk 20 20 (zcf (zft s v).lo)/\TOk 20 20 (zcf (zft s v).hi) :=
 ⟨(zht (bnd_ok hs v).1).mono (Nat.le_refl _) (by decide),(zht (bnd_ok hs v).2).mono (Nat.le_refl _) (by decide)⟩
theorem bndF_ok {s:zar} (hs:zba 3 s) (v:Nat) {t:zak} (ht:TOk 20 20 t):∀ g ∈ zi9 s v t,g.okB 40 50:=fun g hg=>by
 unfold zi9 at hg
 split at hg
 ·rcases List.mem_cons.1 hg with rfl | hg
  ·exact at_okB (n:=20) (m:=20) ht (bnd_num hs v).1 (by decide) false
  ·rw [List.mem_singleton.1 hg];exact at_okB (n:=20) (m:=20) (bnd_num hs v).2 ht (by decide) false
 ·cases hg
theorem zg9 (s:zar) (v:Nat) (t:zak):(zi9 s v t).length<=2:=by unfold zi9;split <;> simp
theorem rng_ok {s:zar} (hs:zba 3 s):∀ g ∈ (List.range s.vars.length).flatMap (rngS s),g.okB 40 50:=zcn fun v _=>bndF_ok hs v ((zgl _).mono (by decide) (Nat.le_refl _))
theorem ze9 {n L:Nat} (hn:n<=1000) {fs:List za0} (h:∀ g ∈ fs,g.okB n L) (hl:fs.length<=1000000):(zc7 fs).okB n (L+1) :=
 zjc (by decide) (by rw [List.length_map];exact hl) fun g hg=>by
  obtain ⟨q,hq,rfl⟩:=List.mem_map.1 hg
  exact okB_cl hn q (h q hq)
theorem zhm {c:zbi} (hc:zgd 3 c) (v:Nat):TOk 20 20 (zbu c v).1:=by
 unfold zbu
 cases e:mvAt c v with
 | none=>exact (zgl _).mono (by decide) (Nat.le_refl _)
 | some m =>
  show TOk 20 20 (if m.any=true then _ else _:zak × Bool).1
  split
  ·exact ⟨Nat.zero_le _,(fun p hp=>by cases hp),zdo,Nat.zero_le _⟩
  ·exact ((hc.mv m (by unfold mvAt at e;exact List.mem_of_find?_eq_some e)).plain (by decide)).mono (Nat.le_refl _) (by decide)
theorem canS_ok {s:zar} (hs:zba 3 s) {c:zbi} (hc:zgd 3 c) (v:Nat):∀ g ∈ ze8 s c v,g.okB 40 50:=fun g hg=>by
 unfold ze8 at hg
 split at hg
 ·exact bndF_ok hs v (zhm hc v) g hg
 ·split at hg
  ·rw [List.mem_singleton.1 hg];exact at_okB (n:=20) (m:=20) (bnd_num hs v).2 (bnd_num hs v).1 (by decide) false
  ·cases hg
theorem canS_len (s:zar) (c:zbi) (v:Nat):(ze8 s c v).length<=2:=by
 unfold ze8;split
 ·exact zg9 _ _ _
 ·split <;> simp
theorem zfb {f:za0} {L:Nat} (hf:f.lb/\f.ok L) (hw:f.wid<=1000000):f.okB 20 L:=ok_okB f hf.2 hf.1 hw
theorem act0_ok:zgd 3 act0:=⟨⟨by rw [za0.lb_eq];exact ⟨⟨⟨zdo,fun p hp=>by cases hp⟩,Nat.zero_le _⟩,fun g hg=>by cases hg⟩,by rw [za0.ok_eq];exact ⟨fun e=>absurd e (by decide),fun g hg=>absurd (zb3 hg) (by show g ∉ [];exact List.not_mem_nil)⟩⟩,Nat.zero_le _,fun m hm=>by cases hm⟩
theorem zbj {s:zar} (hs:zba 3 s) (i:Int):zgd 3 (za8 s i).1:=by
 unfold za8
 cases e:zf2 s i with
 | none=>exact act0_ok
 | some c =>
  refine hs.act c ?_
  unfold zf2 at e
  split at e
  ·exact List.mem_of_getElem? e
  ·cases e
def zhk (s:zar):Prop:=s.init.wid<=100/\∀ c ∈ s.acts,c.guard.wid<=100
theorem zeg {s:zar} (hs:zhk s) (i:Int):(za8 s i).1.guard.wid<=100:=by
 unfold za8
 cases e:zf2 s i with
 | none=>show act0.guard.wid<=100;rw [za0.wid_eq];decide
 | some c =>
  refine hs.2 c ?_
  unfold zf2 at e
  split at e
  ·exact List.mem_of_getElem? e
  ·cases e
theorem can_ok {s:zar} (hs:zba 3 s) {c:zbi} (hc:zgd 3 c) (hw:c.guard.wid<=100):∀ g ∈ canL s c,g.okB 40 50:=fun g hg=>by
 unfold canL at hg
 rcases List.mem_cons.1 hg with rfl | hg
 ·exact za0.okB_mono (by decide) (by decide) _ (zfb hc.guard (by omega))
 ·exact zcn (fun v _=>canS_ok hs hc v) g hg
theorem bnd_is {s:zar} {v:Nat} {b:zaw} (h:s.bounds[v]?=some b):zft s v=b:=by unfold zft;rw [h];rfl
theorem bnd_no {s:zar} {v:Nat} (h:s.bounds.length<=v):(zft s v).is_=false:=by unfold zft;rw [List.getElem?_eq_none h];rfl
theorem bndF_at {s:zar} {v:Nat} {b:zaw} {t:zak} (h:s.bounds[v]?=some b) (e:b.is_=true):zi9 s v t=[geF t (zcf b.lo),leF t (zcf b.hi)]:=by unfold zi9;rw [bnd_is h,if_pos e]
theorem bndF_no {s:zar} {v:Nat} {t:zak} (h:(zft s v).is_=false):zi9 s v t=[]:=by unfold zi9;rw [h];rfl
theorem LCmpLe (l r:zak) (hl:TOk 20 20 l) (hr:TOk 20 20 r):Fn Tryz.prog 86 [] [vI 3,(vT l),(vT r)] (vF (leF l r)) []:=by
 refine Fn.body Tryz.func86 rfl 51 rfl fun w H B a h=>Jq 0 [] [(0,vI 3),(4,vp 0 0),(5,vp 1 0),(6,vp 2 0)] [(0,.box (zT l)),(1,.box (zT r)),(2,.box zF0)] h fun a w h=>?_
 obtain ⟨r1,er1,vr1,or1,lr1⟩:=mkZ (v:=1) (m:=2) (ZI.len_of (by have:=pw2;omega));refine Jd 3 [(0,.call (Fn.cast (SOf 1 ⟨by omega,by omega⟩) (congrArg vz er1.symm)) tm_10),(1,.call (zfw r1 or1 (by omega)) to_7)] [] [(7,vp 3 0)] [(0,.box (zT l)),(1,.box (zT r)),(2,.box zF0),(3,.box (zT (zcf r1)))] h fun a w h=>qW (Je 4 [] [0] [(10,vI 3)] h fun a w h=>qZ (Je 4 [(0,.cmp (op:=.eql) (m:=3) (n:=0) (b:=false) .i64 rfl)] [] [(11,vb false)] h fun a w h=>zap false h rfl nofun (fun _=>Je 4 [(0,.cmp (op:=.eql) (m:=3) (n:=1) (b:=false) .i64 rfl)] [11] [(18,vb false)] h fun a w h=>zap false h rfl nofun (fun _=>Je 4 [(0,.cmp (op:=.eql) (m:=3) (n:=2) (b:=false) .i64 rfl)] [18] [(24,vb false)] h fun a w h=>zap false h rfl nofun (fun _=>Jd 4 [(0,.cmp (op:=.eql) (m:=3) (n:=3) (b:=true) .i64 rfl)] [7,24] [(33,vb true)] [(0,.box (zT l)),(1,.box (zT r)),(2,.box zF0)] h fun a w h=>cS true h (fun _=>?_) nofun)))));refine Jq 4 [(2,.call (STSub r l (hr.mono (by decide) (by decide)) (hl.mono (by decide) (by decide))) to_9),(3,.call (LLeast (subT r l) ((sub_tok hr hl (by decide)).mono (by decide) (by decide))) lb_12),(4,.call (LOf (leaR (subT r l)) (TOk.mono ((sub_tok hr hl (by decide)).plain (by decide)) (by decide) (by decide))) la_9)] [(6,vp 2 0)] [(2,.box (zF (zd7 (leaR (subT r l)))))] h fun a w h=>qV (zae (za7 (rA 2 (zF (zd7 (leaR (subT r l)))) h zch rfl ?_)));rfl
theorem LCmpGe (l r:zak) (hl:TOk 20 20 l) (hr:TOk 20 20 r):Fn Tryz.prog 86 [] [vI 5,(vT l),(vT r)] (vF (geF l r)) []:=by
 refine Fn.body Tryz.func86 rfl 51 rfl fun w H B a h=>Jq 0 [] [(0,vI 5),(4,vp 0 0),(5,vp 1 0),(6,vp 2 0)] [(0,.box (zT l)),(1,.box (zT r)),(2,.box zF0)] h fun a w h=>?_
 obtain ⟨r1,er1,vr1,or1,lr1⟩:=mkZ (v:=1) (m:=2) (ZI.len_of (by have:=pw2;omega));refine Jd 3 [(0,.call (Fn.cast (SOf 1 ⟨by omega,by omega⟩) (congrArg vz er1.symm)) tm_10),(1,.call (zfw r1 or1 (by omega)) to_7)] [] [(7,vp 3 0)] [(0,.box (zT l)),(1,.box (zT r)),(2,.box zF0),(3,.box (zT (zcf r1)))] h fun a w h=>qW (Je 4 [] [0] [(10,vI 5)] h fun a w h=>qZ (Je 4 [(0,.cmp (op:=.eql) (m:=5) (n:=0) (b:=false) .i64 rfl)] [] [(11,vb false)] h fun a w h=>zap false h rfl nofun (fun _=>Je 4 [(0,.cmp (op:=.eql) (m:=5) (n:=1) (b:=false) .i64 rfl)] [11] [(18,vb false)] h fun a w h=>zap false h rfl nofun (fun _=>Je 4 [(0,.cmp (op:=.eql) (m:=5) (n:=2) (b:=false) .i64 rfl)] [18] [(24,vb false)] h fun a w h=>zap false h rfl nofun (fun _=>Jd 4 [(0,.cmp (op:=.eql) (m:=5) (n:=3) (b:=false) .i64 rfl)] [7,24] [(33,vb false)] [(0,.box (zT l)),(1,.box (zT r)),(2,.box zF0)] h fun a w h=>zap false h rfl nofun (fun _=>Je 4 [(0,.cmp (op:=.eql) (m:=5) (n:=4) (b:=false) .i64 rfl)] [33] [(40,vb false)] h fun a w h=>zap false h rfl nofun (fun _=>Je 4 [(0,.cmp (op:=.eql) (m:=5) (n:=5) (b:=true) .i64 rfl)] [10,40] [(45,vb true)] h fun a w h=>cS true h (fun _=>?_) nofun)))))));refine Jq 4 [(2,.call (LCmpLe r l hr hl) mb1_6)] [(6,vp 2 0)] [(2,.box (zF (leF r l)))] h fun a w h=>qV (zae (za7 (rA 2 (zF (leF r l)) h zch rfl ?_)));rfl
theorem Lvariable (v:Nat) :Fn Tryz.prog 70 [] [vN v] (vT (zdt (v:Int))) []:=by
 refine Fn.body Tryz.func70 rfl 5 rfl fun w H B a h=>Jq 0 [] [(0,vN v),(2,vp 0 0)] [(0,.box zT0)] h fun a w h=>Jd 1 [(1,.call (SVar (v:Int)) to_0)] [0] [] [(0,.box (zT (zdt (v:Int))))] h fun a w h=>qV (rA 0 (zT (zdt (v:Int))) h zf5 rfl ?_)
 rfl
theorem Lbounded (s:zar) (v:Nat) (t:zak) (hs:zba 3 s) (ht:TOk 20 20 t):Fn Tryz.prog 82 [] [vG (zan s),vN v,(vT t)] (vFs (zi9 s v t)) []:=by
 have lbs:=hs.bnds;refine Fn.body Tryz.func82 rfl 38 rfl fun w H B a h=>Jq 0 [] [(1,vN v),(3,vp 0 0),(5,vp 1 0),(6,vW zaf)] [(0,.box (zan s)),(1,.box (zT t))] h fun a w h=>qW ?_
 rcases Bool.eq_false_or_eq_true (decide ((v:Int)>=(s.bounds.length:Int))) with hc1 | hc2
 ·have hc1':=dT hc1;refine Je 2 [(3,.len (za6 5 zaw.d s.bounds)),(4,.cmp (op:=.geq) (m:=(v:Int)) (n:=(s.bounds.length:Int)) (b:=true) .i64 hc1)] [] [(21,vb true)] h fun a w h=>cS true h (fun _=>?_) nofun
  refine Je 2 [] [21] [] h fun a w h=>qV (za7 ?_);replace h:=nilDSs 6 0 6 (vW zaf) [(1,vN v),(3,vp 0 0),(5,vp 1 0),(6,(vFs []))] [(0,.box (zan s)),(1,.box (zT t))] h rfl rfl;refine rT (.c (cFs [])) h rfl ?_;have hz:zi9 s v t=[]:=bndF_no (bnd_no (by omega));rw [hz];try rfl
 have hc2':=dF hc2;obtain ⟨x1,hx1⟩:=gl s.bounds v;refine Je 2 [(3,.len (za6 5 zaw.d s.bounds)),(4,.cmp (op:=.geq) (m:=(v:Int)) (n:=(s.bounds.length:Int)) (b:=false) .i64 hc2),(9,.g (xD 17 15 kf_0 (zab hx1 (f:=zaw.d)) (OV.tmp 16 _)))] [] [(21,vb (!x1.is_))] h fun a w h=>cS (!x1.is_) h (fun hc3=>?_) (fun hc4=>?_)
 ·have hc3':=hc3;(try simp at hc3');refine Je 2 [] [21] [] h fun a w h=>qV (za7 ?_);replace h:=nilDSs 6 0 6 (vW zaf) [(1,vN v),(3,vp 0 0),(5,vp 1 0),(6,(vFs []))] [(0,.box (zan s)),(1,.box (zT t))] h rfl rfl;refine rT (.c (cFs [])) h rfl ?_;have hz:zi9 s v t=[]:=bndF_no (by rw [bnd_is hx1];exact (show (x1.is_)=false from by simpa using hc3));rw [hz];try rfl
 have hc4':=hc4;(try simp at hc4');refine qU (za1 (Jd 2 [(3,.g (xD 25 23 kf_0 (zab hx1 (f:=zaw.d)) (OV.tmp 24 _)))] [1,3,21] [(7,vp 2 0)] [(1,.box (zT t)),(2,.box ([cB x1.is_]++zi x1.lo++zi x1.hi))] h fun a w h=>Jq 3 [(3,.call (zfw x1.lo (hs.bnd x1 (lM hx1)).1.1 (by have:=(hs.bnd x1 (lM hx1)).1.2;omega)) to_7),(4,.call (LCmpGe t (zcf x1.lo) ht ((zht (hs.bnd x1 (lM hx1)).1).mono (Nat.le_refl _) (by decide))) mb1_6),(8,.call (zfw x1.hi (hs.bnd x1 (lM hx1)).2.1 (by have:=(hs.bnd x1 (lM hx1)).2.2;omega)) to_7),(9,.call (LCmpLe t (zcf x1.hi) ht ((zht (hs.bnd x1 (lM hx1)).2).mono (Nat.le_refl _) (by decide))) mb1_6),(10,.g (Op.buildD (d:=37) (len:=2) (rows:=[(geF t (zcf x1.lo)),(leF t (zcf x1.hi))].map za0.d) (rs:=[(31,(vF (geF t (zcf x1.lo)))),(36,(vF (leF t (zcf x1.hi))))]) zh7 (.cons (i:=0) (OV.tmp 31 _) (.cons (i:=1) (OV.tmp 36 _) (.nil))) (by simp only [List.map_cons,List.map_nil,List.flatten_cons,List.flatten_nil,List.append_nil,za0.d_eq];kernel_rfl) rfl (by simp [za0.d_len]) (by decide) (by decide)))] [(6,(vFs [(geF t (zcf x1.lo)),(leF t (zcf x1.hi))]))] [] h fun a w h=>qV (rT (.c (cFs [(geF t (zcf x1.lo)),(leF t (zcf x1.hi))])) h rfl ?_)));have hz:zi9 s v t=[(geF t (zcf x1.lo)),(leF t (zcf x1.hi))]:=bndF_at hx1 (by have:=(show (x1.is_)=true from by simpa using hc4);simpa using this);rw [hz];try rfl
theorem Lranges (s:zar) (hs:zba 3 s):Fn Tryz.prog 52 [] [.t (.agg (zan s))] (.t (.agg ([.d (.raw (.int .i64 (zav s).kind)),.d (.sl 3 ((zav s).r.t.parts.map za3.d))]++zi (zav s).r.t.k++[.d (.raw (.bool (zav s).r.eq)),.d (.sl 6 ((zav s).kids.map za0.d))]))) []:=by
 have lvs:=hs.vars;have lrn:=zbz (rngS s) (fun v=>zg9 s v (zdt (v:Int))) s.vars.length;refine Fn.body Tryz.func52 rfl 21 rfl fun w H B a h=>Jq 5 [] [(1,vp 5 0),(2,vp 6 0)] [(5,.box (zan s)),(6,.box zF0)] h fun a w h=>Je 7 [] [] [(3,.t (.c (.d (.raw zaf))))] h fun a w h=>qW (Je 7 [(2,.len (za6 1 zfj s.vars))] [] [(7,vN s.vars.length),(8,vI 0)] h fun a w h=>qZ ?_)
 replace h:=zew 3 0 7 6 35 (.t (.c (.d (.raw zaf)))) [(1,vp 5 0),(2,vp 6 0),(3,.t (.c (.own 7 0))),(7,vN s.vars.length),(8,vI 0)] [(5,.box (zan s)),(6,.box zF0),(7,.row 35 6 ([].map za0.d))] h (by kernel_rfl) rfl rfl
 refine zaq (ι:=(Nat)) (fun j=>j<=s.vars.length)
   (fun j=>[(1,vp 5 0),(2,vp 6 0),(3,.t (.c (.own 7 ((List.range j).flatMap (rngS s)).length))),(7,vN s.vars.length),(8,vN j)])
   (fun j=>[(5,.box (zan s)),(6,.box zF0),(7,.row 35 6 (((List.range j).flatMap (rngS s)).map za0.d))])
   (fun j=>s.vars.length - j) 0 ?_ h (by kernel_rfl) (by kernel_rfl) ?_
 ·exact Nat.zero_le _
 clear h;rintro j a w hI h;have lrj:=zbz (rngS s) (fun v=>zg9 s v (zdt (v:Int))) j;have lbj:=zg9 s j (zdt (j:Int));refine Je 8 [] [] [(9,vb (decide ((j:Int)<(s.vars.length:Int))))] h fun a w h=>qW (zam ((j:Int)<(s.vars.length:Int)) h (fun hc1 hc1'=>?_) (fun hc2 hc2'=>?_))
 ·refine qU (za1 (qW (qZ (Je 8 [] [9] [(4,vN j)] h fun a w h=>Jm 8 [(4,.call (Lvariable j) mb1_11),(5,.call (Lbounded s j (zdt (j:Int)) hs ((zgl _).mono (by decide) (Nat.le_refl _))) mb1_12),(6,.g (aD 17 11 16 7 8 ((List.range j).flatMap (rngS s)) (zi9 s j (zdt (j:Int))) za0.d la_7 (by simp [za0.d_len])))] [4] [(3,.t (.c (.own 8 (((List.range j).flatMap (rngS s))++(zi9 s j (zdt (j:Int)))).length)))] [(5,.box (zan s)),(6,.box zF0),(8,.row 35 6 ((((List.range j).flatMap (rngS s))++(zi9 s j (zdt (j:Int)))).map za0.d))] h fun a w h=>za9 (za1 (Jf 9 [(0,.j1 j)] [] [(8,vI ((j:Int)+1))] h fun a w h=>za1 ?_))))));rw [show ((((List.range j).flatMap (rngS s))++(zi9 s j (zdt (j:Int)))):List za0)=((List.range (j+1)).flatMap (rngS s)) from (zbr (rngS s) j).symm] at h;replace h:=zec 8 7 [(1,vp 5 0),(2,vp 6 0),(3,.t (.c (.own 7 ((List.range (j+1)).flatMap (rngS s)).length))),(7,vN s.vars.length),(8,vI ((j:Int)+1))] [(5,.box (zan s)),(6,.box zF0),(7,.row 35 6 (((List.range (j+1)).flatMap (rngS s)).map za0.d))] h;refine zag (x:=j) (y:=j+1) h ?_ ?_
  ·have:=dT hc1;show j+1<=s.vars.length;omega
  show s.vars.length - (j+1)<s.vars.length - j;have:=dT hc1;omega
 refine wp_exit (zaa (zaa (za5 (za1 ?_))));replace h:=cv (fun z_:List za0=>F.of [(1,vp 5 0),(2,vp 6 0),(3,.t (.c (.own 7 z_.length))),(7,vN s.vars.length),(8,vN j),(9,vb (decide ((j:Int)<(s.vars.length:Int))))] [(5,.box (zan s)),(6,.box zF0),(7,.row 35 6 (z_.map za0.d))]) (show (((List.range j).flatMap (rngS s)):List za0)=((List.range s.vars.length).flatMap (rngS s)) from (by rw [show j=s.vars.length by have:=dF hc2;omega])) h;replace h:=ziv 7 6 35 (((List.range s.vars.length).flatMap (rngS s)).map za0.d) [(1,vp 5 0),(2,vp 6 0),(3,.t (.c (.d (.sl 6 (((List.range s.vars.length).flatMap (rngS s)).map za0.d))))),(7,vN s.vars.length),(8,vN j),(9,vb (decide ((j:Int)<(s.vars.length:Int))))] [(5,.box (zan s)),(6,.box zF0)] h rfl (show zbx _ [((List.range s.vars.length).flatMap (rngS s)).length] from ⟨by first | exact (List.length_map _).symm | (simp;done) | (simp;omega),trivial⟩) trivial;refine Jq 9 [(1,.call (LAll ((List.range s.vars.length).flatMap (rngS s)) (fun g hg=>za0.okB_mono (by decide) (by decide) _ (rng_ok hs g hg)) (by omega)) zii)] [(2,vp 6 0)] [(6,.box ([.d (.raw (.int .i64 (zav s).kind)),.d (.sl 3 ((zav s).r.t.parts.map za3.d))]++zi (zav s).r.t.k++[.d (.raw (.bool (zav s).r.eq)),.d (.sl 6 ((zav s).kids.map za0.d))]))] h fun a w h=>qV (rA 6 ([.d (.raw (.int .i64 (zav s).kind)),.d (.sl 3 ((zav s).r.t.parts.map za3.d))]++zi (zav s).r.t.k++[.d (.raw (.bool (zav s).r.eq)),.d (.sl 6 ((zav s).kids.map za0.d))]) h zch rfl ?_);rfl
theorem mc2_1:za4 Tryz.prog 85:=za4.mk' (by kernel_rfl)
theorem mc2_7:za4 Tryz.prog 83:=za4.mk' (by kernel_rfl)
theorem mc2_8:za4 Tryz.prog 101:=za4.mk' (by kernel_rfl)
theorem mc2_10:za4 Tryz.prog 69:=za4.mk' (by kernel_rfl)
theorem mc2_15:za4 Tryz.prog 43:=za4.mk' (by kernel_rfl)
theorem Lsound1 (x l:Int) :Fn Tryz.prog 83 [(3,.box [cI l])] [vI x,vp 3 0] (vb (decide (0<=x/\x<l))) [(3,.box [cI l])]:=by
 refine Fn.body Tryz.func83 rfl 11 rfl fun w H B a h=>Jq 6 [] [(0,vI x),(1,vp 3 0),(3,vb false)] [(3,.box [cI l])] h fun a w h=>?_
 rcases Bool.eq_false_or_eq_true (decide (x>=0)) with hc1 | hc2
 ·have hc1':=dT hc1;refine Jp 6 [(1,.cmp (op:=.geq) (m:=x) (n:=0) (b:=true) .i64 hc1)] [(3,vb (decide (x<l)))] h fun a w h=>qV (rT (.c (cB (decide (x<l)))) h rfl ?_);have hz:decide (0<=x/\x<l)=(decide (x<l)):=by have h0:=dT hc1;exact decide_eq_decide.2 ⟨fun e=>e.2,fun e=>⟨h0,e⟩⟩
  rw [hz];try rfl
 have hc2':=dF hc2;refine Jp 6 [(1,.cmp (op:=.geq) (m:=x) (n:=0) (b:=false) .i64 hc2)] [(3,vb false)] h fun a w h=>qV (rT (.c (cB false)) h rfl ?_);have hz:decide (0<=x/\x<l)=(false):=by exact decide_eq_false (fun e=>dF hc2 e.1)
 rw [hz];try rfl
theorem Lsound2 (s:zar) (m:zad) :Fn Tryz.prog 85 [(0,.box (zan s))] [vG ([cI m.v,cB m.any,cPs m.t.parts]++zi m.t.k),vp 0 0] (vb (!zdq s m)) [(0,.box (zan s))]:=by
 refine Fn.body Tryz.func85 rfl 15 rfl fun w H B a h=>Jq 6 [] [(1,vp 0 0),(2,vp 6 0),(3,vb false)] [(0,.box (zan s)),(6,.box ([cI m.v,cB m.any,cPs m.t.parts]++zi m.t.k))] h fun a w h=>?_
 rcases Bool.eq_false_or_eq_true (decide (m.v<0)) with hc1 | hc2
 ·have hc1':=dT hc1;refine Jq 7 [(2,.cmp (op:=.lss) (m:=m.v) (n:=0) (b:=true) .i64 hc1)] [(3,vb true)] [(0,.box (zan s))] h fun a w h=>qV (rT (.c (cB true)) h rfl ?_);have hz:(!zdq s m)=(true):=(there_lo hc1);rw [hz];try rfl
 have hc2':=dF hc2;refine Jq 7 [(2,.cmp (op:=.lss) (m:=m.v) (n:=0) (b:=false) .i64 hc2),(8,.len (za6 1 zfj s.vars))] [(3,vb (decide (m.v>=(s.vars.length:Int))))] [(0,.box (zan s))] h fun a w h=>qV (rT (.c (cB (decide (m.v>=(s.vars.length:Int))))) h rfl ?_);have hz:(!zdq s m)=(decide (m.v>=(s.vars.length:Int))):=(by have:=dF hc2;unfold zdq;rw [decide_eq_true (p:=m.v>=0) (by omega),Bool.true_and,<- decide_not];exact decide_eq_decide.2 (by omega));rw [hz];try rfl
theorem SIdxWS (pr:zad->Bool) (xs:List zad) (s:zar) (hf:∀ x ∈ xs,Fn Tryz.prog 85 [(0,.box (zan s))] [vG ([cI x.v,cB x.any,cPs x.t.parts]++zi x.t.k),vp 0 0] (vb (pr x)) [(0,.box (zan s))]) (hl:xs.length<=9223372036854775807):Fn Tryz.prog 100 [(0,.box (zan s))] [vS 5 (xs.map zad.d),.t (.c (.fn (.func 85) [] [.ptr 0 0]))] (vI (zdx pr xs 0)) [(0,.box (zan s))]:=by
 refine Fn.body Tryz.func100 rfl 19 rfl fun w H B a h=>Jq 5 [] [(0,vS 5 (xs.map zad.d)),(1,.t (.c (.fn (.func 85) [] [.ptr 0 0]))),(4,vI 0)] [(0,.box (zan s))] h fun a w h=>qW (Je 5 [(1,.len (za6 5 zad.d xs))] [] [(7,vN xs.length),(8,vI 0)] h fun a w h=>qZ ?_)
 refine zaq (ι:=(Nat)) (fun j=>j<=xs.length/\zdx pr xs 0=zdx pr (xs.drop j) j)
   (fun j=>[(0,vS 5 (xs.map zad.d)),(1,.t (.c (.fn (.func 85) [] [.ptr 0 0]))),(7,vN xs.length),(8,vN j)])
   (fun j=>[(0,.box (zan s))])
   (fun j=>xs.length - j) 0 ?_ h (by kernel_rfl) (by kernel_rfl) ?_
 ·exact ⟨Nat.zero_le _,rfl⟩
 clear h;rintro j a w hI h;obtain ⟨hI1,hI2⟩:=hI;refine Je 5 [] [] [(9,vb (decide ((j:Int)<(xs.length:Int))))] h fun a w h=>qW (zam ((j:Int)<(xs.length:Int)) h (fun hc1 hc1'=>?_) (fun hc4 hc4'=>?_))
 ·refine qU (za1 (qW (qZ (Je 5 [] [9] [(5,vN j)] h fun a w h=>?_))));obtain ⟨x1,hx1⟩:=gl xs j;refine Je 5 [(3,.g (xD 14 12 ki_2 (zab hx1 (f:=zad.d)) (OV.tmp 13 _))),(5,.g (Op.callV (d:=16) (t:=11) (cap:=[.ptr 0 0]) (args:=[vG ([cI x1.v,cB x1.any,cPs x1.t.parts]++zi x1.t.k)]) (rs:=[(15,vG ([cI x1.v,cB x1.any,cPs x1.t.parts]++zi x1.t.k))]) (tys:=#[74]) (hf x1 (lM hx1)) mc2_1 (OVs.cons (OV.tmp 15 _) (OVs.nil))))] [] [(16,vb (pr x1))] h fun a w h=>cS (pr x1) h (fun hc2=>?_) (fun hc3=>?_)
  ·refine Je 5 [] [5,16] [(4,vN j)] h fun a w h=>qV (zae (za7 (za7 (zae (za7 (rT (.c (cI (j:Int))) h rfl ?_))))));have hz:zdx pr xs 0=(j:Int):=by rw [hI2,zhz hx1,if_pos hc2]
   rw [hz];try rfl
  refine qU (za9 (za1 (Jf 5 [(0,.j1 j)] [5,16] [(8,vI ((j:Int)+1))] h fun a w h=>za1 (zag (x:=j) (y:=j+1) h ?_ ?_))))
  ·exact ⟨by have:=zaj hx1;omega,by rw [hI2,zhz hx1,if_neg (by rw [hc3];exact Bool.noConfusion)]⟩
  (try simp);omega
 refine wp_exit (zaa (zaa (za5 (za1 (Jp 5 [] [(4,vI (-1))] h fun a w h=>qV (rT (.c (cI (-1))) h rfl ?_))))));have hz:zdx pr xs 0=-1:=by rw [hI2,List.drop_of_length_le (by omega)];rfl
 rw [hz];try rfl
theorem SAnyWS (pr:zad->Bool) (xs:List zad) (s:zar) (hf:∀ x ∈ xs,Fn Tryz.prog 85 [(0,.box (zan s))] [vG ([cI x.v,cB x.any,cPs x.t.parts]++zi x.t.k),vp 0 0] (vb (pr x)) [(0,.box (zan s))]) (hl:xs.length<=9223372036854775807):Fn Tryz.prog 84 [(0,.box (zan s))] [vS 5 (xs.map zad.d),.t (.c (.fn (.func 85) [] [.ptr 0 0]))] (vb (xs.any pr)) [(0,.box (zan s))]:=by
 refine Fn.body Tryz.func84 rfl 9 rfl fun w H B a h=>Jq 5 [] [(0,vS 5 (xs.map zad.d)),(1,.t (.c (.fn (.func 85) [] [.ptr 0 0]))),(4,vb false)] [(0,.box (zan s))] h fun a w h=>Jp 5 [(2,.call (SIdxWS pr xs s hf  hl) ki_4)] [(4,vb (decide (zdx pr xs 0>=0)))] h fun a w h=>qV (rT (.c (cB (decide (zdx pr xs 0>=0)))) h rfl ?_)
 rw [<- idxB_any];try rfl
theorem LsoundN (s:zar) (i:Int) (hi:zf2 s i=none):Fn Tryz.prog 53 [] [vG (zan s),vI i] (.tup [.agg ([cI act0.proc,cI act0.from_,cI act0.to_,cI act0.guard.kind,cPs act0.guard.r.t.parts]++zi act0.guard.r.t.k++[cB act0.guard.r.eq,cFs act0.guard.kids,.d (.sl 5 (act0.moves.map zad.d))]),.c (cB false)]) []:=by
 refine Fn.body Tryz.func53 rfl 65 rfl fun w H B a h=>Jq 0 [] [(1,vI i),(2,vp 0 0),(4,vp 1 0),(5,vb false)] [(0,.box (zan s)),(1,.box [cI 0,cI 0,cI 0,cI 0,.d (.raw zaf),cB false,.d (nsl []),cB false,.d (.raw zaf),.d (.raw zaf)])] h fun a w h=>qW ?_
 rcases Bool.eq_false_or_eq_true (decide (i<0)) with hc1 | hc2
 ·have hc1':=dT hc1;refine Je 2 [(1,.cmp (op:=.lss) (m:=i) (n:=0) (b:=true) .i64 hc1)] [] [(18,vb true)] h fun a w h=>cS true h (fun _=>?_) nofun
  refine Je 2 [] [18] [] h fun a w h=>qV (za7 ?_);replace h:=zbm 1 4 3 [cI 0,cI 0,cI 0,cI 0,.d (.raw zaf),cB false,.d (nsl []),cB false,.d (.raw zaf),.d (.raw zaf)] [(1,vI i),(2,vp 0 0),(4,vp 1 0),(5,vb false)] [(0,.box (zan s)),(1,.box [cI 0,cI 0,cI 0,cI 0,cPs [],cB false,.d (nsl []),cB false,.d (.raw zaf),.d (.raw zaf)])] h rfl rfl;replace h:=zbm 1 8 6 [cI 0,cI 0,cI 0,cI 0,cPs [],cB false,.d (nsl []),cB false,.d (.raw zaf),.d (.raw zaf)] [(1,vI i),(2,vp 0 0),(4,vp 1 0),(5,vb false)] [(0,.box (zan s)),(1,.box [cI 0,cI 0,cI 0,cI 0,cPs [],cB false,.d (nsl []),cB false,cFs [],.d (.raw zaf)])] h rfl rfl;replace h:=zbm 1 9 5 [cI 0,cI 0,cI 0,cI 0,cPs [],cB false,.d (nsl []),cB false,cFs [],.d (.raw zaf)] [(1,vI i),(2,vp 0 0),(4,vp 1 0),(5,vb false)] [(0,.box (zan s)),(1,.box [cI 0,cI 0,cI 0,cI 0,cPs [],cB false,.d (nsl []),cB false,cFs [],.d (.sl 5 ([].map zad.d))])] h rfl rfl;refine zeb [.agg [cI 0,cI 0,cI 0,cI 0,cPs [],cB false,.d (nsl []),cB false,cFs [],.d (.sl 5 ([].map zad.d))],.c (cB false)] h Exit.ret (.inl rfl)  rfl ⟨RV.agg _ 1 0 _ _ _ _ ki_0 rfl rfl rfl rfl,RV.tmp _ _ rfl,trivial⟩ ?_;rfl
 have hc2':=dF hc2;refine Je 2 [(1,.cmp (op:=.lss) (m:=i) (n:=0) (b:=false) .i64 hc2),(6,.len (za6 10 zbi.d s.acts)),(7,.cmp (op:=.geq) (m:=i) (n:=(s.acts.length:Int)) (b:=true) .i64 (decide_eq_true (by have:=actAt_none hi;have:=dF hc2;omega)))] [] [(18,vb true)] h fun a w h=>cS true h (fun _=>?_) nofun
 refine Je 2 [] [18] [] h fun a w h=>qV (za7 ?_);replace h:=zbm 1 4 3 [cI 0,cI 0,cI 0,cI 0,.d (.raw zaf),cB false,.d (nsl []),cB false,.d (.raw zaf),.d (.raw zaf)] [(1,vI i),(2,vp 0 0),(4,vp 1 0),(5,vb false)] [(0,.box (zan s)),(1,.box [cI 0,cI 0,cI 0,cI 0,cPs [],cB false,.d (nsl []),cB false,.d (.raw zaf),.d (.raw zaf)])] h rfl rfl;replace h:=zbm 1 8 6 [cI 0,cI 0,cI 0,cI 0,cPs [],cB false,.d (nsl []),cB false,.d (.raw zaf),.d (.raw zaf)] [(1,vI i),(2,vp 0 0),(4,vp 1 0),(5,vb false)] [(0,.box (zan s)),(1,.box [cI 0,cI 0,cI 0,cI 0,cPs [],cB false,.d (nsl []),cB false,cFs [],.d (.raw zaf)])] h rfl rfl;replace h:=zbm 1 9 5 [cI 0,cI 0,cI 0,cI 0,cPs [],cB false,.d (nsl []),cB false,cFs [],.d (.raw zaf)] [(1,vI i),(2,vp 0 0),(4,vp 1 0),(5,vb false)] [(0,.box (zan s)),(1,.box [cI 0,cI 0,cI 0,cI 0,cPs [],cB false,.d (nsl []),cB false,cFs [],.d (.sl 5 ([].map zad.d))])] h rfl rfl;refine zeb [.agg [cI 0,cI 0,cI 0,cI 0,cPs [],cB false,.d (nsl []),cB false,cFs [],.d (.sl 5 ([].map zad.d))],.c (cB false)] h Exit.ret (.inl rfl)  rfl ⟨RV.agg _ 1 0 _ _ _ _ ki_0 rfl rfl rfl rfl,RV.tmp _ _ rfl,trivial⟩ ?_;rfl
theorem LsoundS (s:zar) (ki:Nat) (c:zbi) (hc:zgd 3 c) (_hps:s.procs.length<=6) (hka:s.acts[ki]?=some c):Fn Tryz.prog 53 [] [vG (zan s),vN ki] (.tup [.agg ([cI c.proc,cI c.from_,cI c.to_,cI c.guard.kind,cPs c.guard.r.t.parts]++zi c.guard.r.t.k++[cB c.guard.r.eq,cFs c.guard.kids,.d (.sl 5 (c.moves.map zad.d))]),.c (cB (zgf s c))]) []:=by
 have lki:=zaj hka;refine Fn.body Tryz.func53 rfl 65 rfl fun w H B a h=>Jq 0 [] [(1,vN ki),(2,vp 0 0),(4,vp 1 0),(5,vb false)] [(0,.box (zan s)),(1,.box [cI 0,cI 0,cI 0,cI 0,.d (.raw zaf),cB false,.d (nsl []),cB false,.d (.raw zaf),.d (.raw zaf)])] h fun a w h=>qW (Je 2 [(1,.cmp (op:=.lss) (m:=(ki:Int)) (n:=0) (b:=false) .i64 (show (decide ((ki:Int)<0))=false from decide_eq_false (by omega))),(6,.len (za6 10 zbi.d s.acts)),(7,.cmp (op:=.geq) (m:=(ki:Int)) (n:=(s.acts.length:Int)) (b:=false) .i64 (show (decide ((ki:Int)>=(s.acts.length:Int)))=false from decide_eq_false (by omega)))] [] [(18,vb false)] h fun a w h=>zap false h rfl nofun (fun _=>qU (za1 (Jd 2 [(3,.g (xD 23 21 ki_1 (zab hka (f:=zbi.d)) (OV.tmp 22 _)))] [1,18] [(6,vp 2 0)] [(0,.box (zan s)),(1,.box [cI 0,cI 0,cI 0,cI 0,.d (.raw zaf),cB false,.d (nsl []),cB false,.d (.raw zaf),.d (.raw zaf)]),(2,.box ([cI c.proc,cI c.from_,cI c.to_,cI c.guard.kind,cPs c.guard.r.t.parts]++zi c.guard.r.t.k++[cB c.guard.r.eq,cFs c.guard.kids,.d (.sl 5 (c.moves.map zad.d))]))] h fun a w h=>qW ?_))))
 rcases Bool.eq_false_or_eq_true (decide (c.proc<0)) with hc1 | hc2
 ·have hc1':=dT hc1;refine Je 3 [(2,.cmp (op:=.lss) (m:=c.proc) (n:=0) (b:=true) .i64 hc1)] [] [(35,vb true)] h fun a w h=>cS true h (fun _=>?_) nofun
  refine Jd 3 [] [35] [] [(0,.box (zan s)),(1,.box ([cI c.proc,cI c.from_,cI c.to_,cI c.guard.kind,cPs c.guard.r.t.parts]++zi c.guard.r.t.k++[cB c.guard.r.eq,cFs c.guard.kids,.d (.sl 5 (c.moves.map zad.d))])),(2,.box ([cI c.proc,cI c.from_,cI c.to_,cI c.guard.kind,cPs c.guard.r.t.parts]++zi c.guard.r.t.k++[cB c.guard.r.eq,cFs c.guard.kids,.d (.sl 5 (c.moves.map zad.d))]))] h fun a w h=>qV (za7 (zeb [.agg ([cI c.proc,cI c.from_,cI c.to_,cI c.guard.kind,cPs c.guard.r.t.parts]++zi c.guard.r.t.k++[cB c.guard.r.eq,cFs c.guard.kids,.d (.sl 5 (c.moves.map zad.d))]),.c (cB false)] h Exit.ret (.inl rfl)  rfl ⟨RV.agg _ 1 0 _ _ _ _ ki_0 rfl rfl rfl rfl,RV.tmp _ _ rfl,trivial⟩ ?_));have hz:zgf s c=(false):=by unfold zgf;rw [decide_eq_false (p:=0<=c.proc/\c.proc<(s.procs.length:Int)) (by have:=dT hc1;omega)];rfl
  rw [hz];try rfl
 have hc2':=dF hc2;refine Je 3 [(2,.cmp (op:=.lss) (m:=c.proc) (n:=0) (b:=false) .i64 hc2),(8,.len (za6 3 zcg.d s.procs))] [] [(35,vb (decide (c.proc>=(s.procs.length:Int))))] h fun a w h=>zam (c.proc>=(s.procs.length:Int)) h (fun hc3 hc3'=>?_) (fun hc4 hc4'=>?_)
 ·refine Jd 3 [] [35] [] [(0,.box (zan s)),(1,.box ([cI c.proc,cI c.from_,cI c.to_,cI c.guard.kind,cPs c.guard.r.t.parts]++zi c.guard.r.t.k++[cB c.guard.r.eq,cFs c.guard.kids,.d (.sl 5 (c.moves.map zad.d))])),(2,.box ([cI c.proc,cI c.from_,cI c.to_,cI c.guard.kind,cPs c.guard.r.t.parts]++zi c.guard.r.t.k++[cB c.guard.r.eq,cFs c.guard.kids,.d (.sl 5 (c.moves.map zad.d))]))] h fun a w h=>qV (za7 (zeb [.agg ([cI c.proc,cI c.from_,cI c.to_,cI c.guard.kind,cPs c.guard.r.t.parts]++zi c.guard.r.t.k++[cB c.guard.r.eq,cFs c.guard.kids,.d (.sl 5 (c.moves.map zad.d))]),.c (cB false)] h Exit.ret (.inl rfl)  rfl ⟨RV.agg _ 1 0 _ _ _ _ ki_0 rfl rfl rfl rfl,RV.tmp _ _ rfl,trivial⟩ ?_));have hz:zgf s c=(false):=by unfold zgf;rw [decide_eq_false (p:=0<=c.proc/\c.proc<(s.procs.length:Int)) (by have:=dT hc3;omega)];rfl
  rw [hz];try rfl
 refine qU (za1 ?_);obtain ⟨k,hkk⟩:∃ k_:Nat,c.proc=(k_:Int):=⟨_,(Int.toNat_of_nonneg (by have:=dF hc2;omega)).symm⟩;replace h:=h.conv (f':=F.of [(2,vp 0 0),(4,vp 1 0),(5,vb false),(6,vp 2 0),(35,vb (decide (c.proc>=(s.procs.length:Int))))] [(0,.box (zan s)),(1,.box [cI 0,cI 0,cI 0,cI 0,.d (.raw zaf),cB false,.d (nsl []),cB false,.d (.raw zaf),.d (.raw zaf)]),(2,.box ([cI (k:Int),cI c.from_,cI c.to_,cI c.guard.kind,cPs c.guard.r.t.parts]++zi c.guard.r.t.k++[cB c.guard.r.eq,cFs c.guard.kids,.d (.sl 5 (c.moves.map zad.d))]))]) (by rw [hkk];kernel_rfl);obtain ⟨x1,hx1⟩:=gl s.procs k;refine Jq 3 [(4,.g (xD 41 38 kf_5 (zab hx1 (f:=zcg.d)) (OV.tmp 40 _))),(7,.len (za6 1 zfj x1.locs))] [(2,vp 0 0),(4,vp 1 0),(5,vb false),(6,vp 2 0),(7,vp 3 0)] [(0,.box (zan s)),(1,.box [cI 0,cI 0,cI 0,cI 0,.d (.raw zaf),cB false,.d (nsl []),cB false,.d (.raw zaf),.d (.raw zaf)]),(2,.box ([cI (k:Int),cI c.from_,cI c.to_,cI c.guard.kind,cPs c.guard.r.t.parts]++zi c.guard.r.t.k++[cB c.guard.r.eq,cFs c.guard.kids,.d (.sl 5 (c.moves.map zad.d))])),(3,.box [cI (x1.locs.length:Int)])] h fun a w h=>Je 4 [(0,.g (Op.makeFs (d:=45) (fn:=.func 83) [(7,3,0)]))] [7] [(8,.t (.c (.fn (.func 83) [] [.ptr 3 0])))] h fun a w h=>Jd 4 [(2,.g (Op.makeFs (d:=48) (fn:=.func 85) [(2,0,0)])),(3,.call (SAnyWS (fun m=>!zdq s m) c.moves s (fun m _=>Lsound2 s m) (by have:=hc.len;omega)) kj_7)] [2] [(9,vb (c.moves.any fun m=>!zdq s m))] [(1,.box [cI 0,cI 0,cI 0,cI 0,.d (.raw zaf),cB false,.d (nsl []),cB false,.d (.raw zaf),.d (.raw zaf)]),(2,.box ([cI (k:Int),cI c.from_,cI c.to_,cI c.guard.kind,cPs c.guard.r.t.parts]++zi c.guard.r.t.k++[cB c.guard.r.eq,cFs c.guard.kids,.d (.sl 5 (c.moves.map zad.d))])),(3,.box [cI (x1.locs.length:Int)])] h fun a w h=>?_
 rcases Bool.eq_false_or_eq_true (decide (0<=c.from_/\c.from_<(x1.locs.length:Int))) with hc5 | hc8
 ·have hc5':=dT hc5
  rcases Bool.eq_false_or_eq_true (decide (0<=c.to_/\c.to_<(x1.locs.length:Int))) with hc6 | hc7
  ·have hc6':=dT hc6;refine Jq 4 [(4,.g (Op.callV (d:=54) (t:=51) (cap:=[.ptr 3 0]) (args:=[vI c.from_]) (rs:=[(53,vI c.from_)]) (tys:=#[3]) (Fn.cast (Lsound1 c.from_ (x1.locs.length:Int)) (congrArg vb hc5)) mc2_7 (OVs.cons (OV.tmp 53 _) (OVs.nil)))),(9,.g (Op.callV (d:=59) (t:=56) (cap:=[.ptr 3 0]) (args:=[vI c.to_]) (rs:=[(58,vI c.to_)]) (tys:=#[3]) (Fn.cast (Lsound1 c.to_ (x1.locs.length:Int)) (congrArg vb hc6)) mc2_7 (OVs.cons (OV.tmp 58 _) (OVs.nil))))] [(4,vp 1 0),(5,vb (!(c.moves.any fun m=>!zdq s m)))] [(1,.box ([cI (k:Int),cI c.from_,cI c.to_,cI c.guard.kind,cPs c.guard.r.t.parts]++zi c.guard.r.t.k++[cB c.guard.r.eq,cFs c.guard.kids,.d (.sl 5 (c.moves.map zad.d))]))] h fun a w h=>qV (zeb [.agg ([cI (k:Int),cI c.from_,cI c.to_,cI c.guard.kind,cPs c.guard.r.t.parts]++zi c.guard.r.t.k++[cB c.guard.r.eq,cFs c.guard.kids,.d (.sl 5 (c.moves.map zad.d))]),.c (cB (!(c.moves.any fun m=>!zdq s m)))] h Exit.ret (.inl rfl)  rfl ⟨RV.agg _ 1 0 _ _ _ _ ki_0 rfl rfl rfl rfl,RV.tmp _ _ rfl,trivial⟩ ?_);have hz:zgf s c=(!(c.moves.any fun m=>!zdq s m)):=by unfold zgf;rw [decide_eq_true (p:=0<=c.proc/\c.proc<(s.procs.length:Int)) (by have:=dF hc2;have:=dF hc4;omega),show c.proc.toNat=k by omega,show zev s k=x1.locs.length by unfold zev;rw [hx1];rfl,Bool.true_and];rw [hc5,hc6];simp
   rw [hz,hkk];try rfl
  have hc7':=dF hc7;refine Jd 4 [(4,.g (Op.callV (d:=54) (t:=51) (cap:=[.ptr 3 0]) (args:=[vI c.from_]) (rs:=[(53,vI c.from_)]) (tys:=#[3]) (Fn.cast (Lsound1 c.from_ (x1.locs.length:Int)) (congrArg vb hc5)) mc2_7 (OVs.cons (OV.tmp 53 _) (OVs.nil)))),(9,.g (Op.callV (d:=59) (t:=56) (cap:=[.ptr 3 0]) (args:=[vI c.to_]) (rs:=[(58,vI c.to_)]) (tys:=#[3]) (Fn.cast (Lsound1 c.to_ (x1.locs.length:Int)) (congrArg vb hc7)) mc2_7 (OVs.cons (OV.tmp 58 _) (OVs.nil))))] [6,8,9] [] [(1,.box ([cI (k:Int),cI c.from_,cI c.to_,cI c.guard.kind,cPs c.guard.r.t.parts]++zi c.guard.r.t.k++[cB c.guard.r.eq,cFs c.guard.kids,.d (.sl 5 (c.moves.map zad.d))]))] h fun a w h=>qV (zeb [.agg ([cI (k:Int),cI c.from_,cI c.to_,cI c.guard.kind,cPs c.guard.r.t.parts]++zi c.guard.r.t.k++[cB c.guard.r.eq,cFs c.guard.kids,.d (.sl 5 (c.moves.map zad.d))]),.c (cB false)] h Exit.ret (.inl rfl)  rfl ⟨RV.agg _ 1 0 _ _ _ _ ki_0 rfl rfl rfl rfl,RV.tmp _ _ rfl,trivial⟩ ?_);have hz:zgf s c=(false):=by unfold zgf;rw [decide_eq_true (p:=0<=c.proc/\c.proc<(s.procs.length:Int)) (by have:=dF hc2;have:=dF hc4;omega),show c.proc.toNat=k by omega,show zev s k=x1.locs.length by unfold zev;rw [hx1];rfl,Bool.true_and];rw [hc5,hc7];simp
  rw [hz,hkk];try rfl
 have hc8':=dF hc8;refine Jd 4 [(4,.g (Op.callV (d:=54) (t:=51) (cap:=[.ptr 3 0]) (args:=[vI c.from_]) (rs:=[(53,vI c.from_)]) (tys:=#[3]) (Fn.cast (Lsound1 c.from_ (x1.locs.length:Int)) (congrArg vb hc8)) mc2_7 (OVs.cons (OV.tmp 53 _) (OVs.nil))))] [6,8,9] [] [(1,.box ([cI (k:Int),cI c.from_,cI c.to_,cI c.guard.kind,cPs c.guard.r.t.parts]++zi c.guard.r.t.k++[cB c.guard.r.eq,cFs c.guard.kids,.d (.sl 5 (c.moves.map zad.d))]))] h fun a w h=>qV (zeb [.agg ([cI (k:Int),cI c.from_,cI c.to_,cI c.guard.kind,cPs c.guard.r.t.parts]++zi c.guard.r.t.k++[cB c.guard.r.eq,cFs c.guard.kids,.d (.sl 5 (c.moves.map zad.d))]),.c (cB false)] h Exit.ret (.inl rfl)  rfl ⟨RV.agg _ 1 0 _ _ _ _ ki_0 rfl rfl rfl rfl,RV.tmp _ _ rfl,trivial⟩ ?_);have hz:zgf s c=(false):=by unfold zgf;rw [decide_eq_true (p:=0<=c.proc/\c.proc<(s.procs.length:Int)) (by have:=dF hc2;have:=dF hc4;omega),show c.proc.toNat=k by omega,show zev s k=x1.locs.length by unfold zev;rw [hx1];rfl,Bool.true_and];rw [hc8];simp
 rw [hz,hkk];try rfl
theorem Lsound (s:zar) (i:Int) (hs:zba 3 s):Fn Tryz.prog 53 [] [vG (zan s),vi .i64 i] (.tup [.agg ([cI (za8 s i).1.proc,cI (za8 s i).1.from_,cI (za8 s i).1.to_,cI (za8 s i).1.guard.kind,cPs (za8 s i).1.guard.r.t.parts]++zi (za8 s i).1.guard.r.t.k++[cB (za8 s i).1.guard.r.eq,cFs (za8 s i).1.guard.kids,.d (.sl 5 ((za8 s i).1.moves.map zad.d))]),.c (cB (za8 s i).2)]) []:=by
 unfold za8
 cases hi:zf2 s i with
 | none=>exact LsoundN s i hi
 | some c=>obtain ⟨ki,rfl,hka⟩:=zia hi;exact LsoundS s ki c (hs.act c (List.mem_of_getElem? hka)) hs.procs hka
theorem Lmove1 (m:zad) (v:Nat) :Fn Tryz.prog 101 [(1,.box [cI (v:Int)])] [vG ([cI m.v,cB m.any,cPs m.t.parts]++zi m.t.k),vp 1 0] (vb (m.v == (v:Int))) [(1,.box [cI (v:Int)])]:=by
 refine Fn.body Tryz.func101 rfl 8 rfl fun w H B a h=>Jq 6 [] [(1,vp 1 0),(2,vp 6 0),(3,vb false)] [(1,.box [cI (v:Int)]),(6,.box ([cI m.v,cB m.any,cPs m.t.parts]++zi m.t.k))] h fun a w h=>Jq 7 [] [(3,vb (m.v == (v:Int)))] [(1,.box [cI (v:Int)])] h fun a w h=>qV (rT (.c (cB (m.v == (v:Int)))) h rfl ?_)
 rfl
theorem SIdxWM (pr:zad->Bool) (xs:List zad) (v:Nat) (hf:∀ x ∈ xs,Fn Tryz.prog 101 [(1,.box [cI (v:Int)])] [vG ([cI x.v,cB x.any,cPs x.t.parts]++zi x.t.k),vp 1 0] (vb (pr x)) [(1,.box [cI (v:Int)])]) (hl:xs.length<=9223372036854775807):Fn Tryz.prog 100 [(1,.box [cI (v:Int)])] [vS 5 (xs.map zad.d),.t (.c (.fn (.func 101) [] [.ptr 1 0]))] (vI (zdx pr xs 0)) [(1,.box [cI (v:Int)])]:=by
 refine Fn.body Tryz.func100 rfl 19 rfl fun w H B a h=>Jq 5 [] [(0,vS 5 (xs.map zad.d)),(1,.t (.c (.fn (.func 101) [] [.ptr 1 0]))),(4,vI 0)] [(1,.box [cI (v:Int)])] h fun a w h=>qW (Je 5 [(1,.len (za6 5 zad.d xs))] [] [(7,vN xs.length),(8,vI 0)] h fun a w h=>qZ ?_)
 refine zaq (ι:=(Nat)) (fun j=>j<=xs.length/\zdx pr xs 0=zdx pr (xs.drop j) j)
   (fun j=>[(0,vS 5 (xs.map zad.d)),(1,.t (.c (.fn (.func 101) [] [.ptr 1 0]))),(7,vN xs.length),(8,vN j)])
   (fun j=>[(1,.box [cI (v:Int)])])
   (fun j=>xs.length - j) 0 ?_ h (by kernel_rfl) (by kernel_rfl) ?_
 ·exact ⟨Nat.zero_le _,rfl⟩
 clear h;rintro j a w hI h;obtain ⟨hI1,hI2⟩:=hI;refine Je 5 [] [] [(9,vb (decide ((j:Int)<(xs.length:Int))))] h fun a w h=>qW (zam ((j:Int)<(xs.length:Int)) h (fun hc1 hc1'=>?_) (fun hc4 hc4'=>?_))
 ·refine qU (za1 (qW (qZ (Je 5 [] [9] [(5,vN j)] h fun a w h=>?_))));obtain ⟨x1,hx1⟩:=gl xs j;refine Je 5 [(3,.g (xD 14 12 ki_2 (zab hx1 (f:=zad.d)) (OV.tmp 13 _))),(5,.g (Op.callV (d:=16) (t:=11) (cap:=[.ptr 1 0]) (args:=[vG ([cI x1.v,cB x1.any,cPs x1.t.parts]++zi x1.t.k)]) (rs:=[(15,vG ([cI x1.v,cB x1.any,cPs x1.t.parts]++zi x1.t.k))]) (tys:=#[74]) (hf x1 (lM hx1)) mc2_8 (OVs.cons (OV.tmp 15 _) (OVs.nil))))] [] [(16,vb (pr x1))] h fun a w h=>cS (pr x1) h (fun hc2=>?_) (fun hc3=>?_)
  ·refine Je 5 [] [5,16] [(4,vN j)] h fun a w h=>qV (zae (za7 (za7 (zae (za7 (rT (.c (cI (j:Int))) h rfl ?_))))));have hz:zdx pr xs 0=(j:Int):=by rw [hI2,zhz hx1,if_pos hc2]
   rw [hz];try rfl
  refine qU (za9 (za1 (Jf 5 [(0,.j1 j)] [5,16] [(8,vI ((j:Int)+1))] h fun a w h=>za1 (zag (x:=j) (y:=j+1) h ?_ ?_))))
  ·exact ⟨by have:=zaj hx1;omega,by rw [hI2,zhz hx1,if_neg (by rw [hc3];exact Bool.noConfusion)]⟩
  (try simp);omega
 refine wp_exit (zaa (zaa (za5 (za1 (Jp 5 [] [(4,vI (-1))] h fun a w h=>qV (rT (.c (cI (-1))) h rfl ?_))))));have hz:zdx pr xs 0=-1:=by rw [hI2,List.drop_of_length_le (by omega)];rfl
 rw [hz];try rfl
theorem find_idx {α:Type} (pr:α->Bool):∀ (xs:List α) (n:Nat),(zdx pr xs n<0->xs.find? pr=none)/\∀ k:Nat,zdx pr xs n=((n+k:Nat):Int)->∃ x,xs[k]?=some x/\xs.find? pr=some x
 | [],n=>⟨fun _=>rfl,fun k h=>by unfold zdx at h;omega⟩
 | x :: xs,n=>by
  unfold zdx
  by_cases e:pr x=true
  ·rw [if_pos e]
   refine ⟨fun h=>by omega,fun k h=>⟨x,?_,by rw [List.find?_cons,e]⟩⟩
   have:k=0:=by omega
   subst this;rfl
  ·rw [if_neg e]
   have ih:=find_idx pr xs (n+1)
   have he:pr x=false:=by simpa using e
   refine ⟨fun h=>by rw [List.find?_cons,he];exact ih.1 h,fun k h=>?_⟩
   cases k with
   | zero =>
    exfalso
    have hx:∀ (ys:List α) (m:Nat),zdx pr ys m<0\/(m:Int)<=zdx pr ys m:=fun ys=>by
     induction ys with
     | nil=>intro m;left;unfold zdx;omega
     | cons y ys ihy =>
      intro m;unfold zdx;split
      ·right;omega
      ·rcases ihy (m+1) with h1 | h1
       ·left;exact h1
       ·right;omega
    rcases hx xs (n+1) with h1 | h1 <;> omega
   | succ k =>
    obtain ⟨y,h1,h2⟩:=ih.2 k (by rw [h];congr 1;omega)
    exact ⟨y,h1,by rw [List.find?_cons,he];exact h2⟩
theorem idxB_len {α:Type} (pr:α->Bool):∀ (xs:List α) (n:Nat),zdx pr xs n<0\/zdx pr xs n<((n+xs.length:Nat):Int)
 | [],n=>by left;unfold zdx;omega
 | x :: xs,n=>by
  unfold zdx
  split
  ·right;rw [List.length_cons];omega
  ·rcases idxB_len pr xs (n+1) with h | h
   ·exact .inl h
   ·right;rw [List.length_cons];omega
theorem mvA_no {c:zbi} {v:Nat} (h:zdx (fun m:zad=>m.v == (v:Int)) c.moves 0<0):mvA c v=(mv0,false):=by
 unfold mvA mvAt;rw [(find_idx _ c.moves 0).1 h]
theorem mvA_at {c:zbi} {v k:Nat} {m:zad} (h:zdx (fun m:zad=>m.v == (v:Int)) c.moves 0=(k:Int)) (hm:c.moves[k]?=some m):mvA c v=(m,true):=by
 obtain ⟨x,h1,h2⟩:=(find_idx _ c.moves 0).2 k (by rw [h,Nat.zero_add])
 rw [hm] at h1;injection h1 with h1
 unfold mvA mvAt;rw [h2,h1]
theorem Lmove (c:zbi) (v:Nat) (hc:zgd 3 c):Fn Tryz.prog 69 [] [vG ([cI c.proc,cI c.from_,cI c.to_,cI c.guard.kind,cPs c.guard.r.t.parts]++zi c.guard.r.t.k++[cB c.guard.r.eq,cFs c.guard.kids,.d (.sl 5 (c.moves.map zad.d))]),vN v] (.tup [.agg ([cI (mvA c v).1.v,cB (mvA c v).1.any,cPs (mvA c v).1.t.parts]++zi (mvA c v).1.t.k),.c (cB (mvA c v).2)]) []:=by
 have lcm:=hc.len;have lix:=idxB_len (fun m:zad=>m.v == (v:Int)) c.moves 0;refine Fn.body Tryz.func69 rfl 19 rfl fun w H B a h=>Jq 0 [] [(2,vp 0 0),(3,vp 1 0),(4,vp 2 0),(5,vb false)] [(0,.box ([cI c.proc,cI c.from_,cI c.to_,cI c.guard.kind,cPs c.guard.r.t.parts]++zi c.guard.r.t.k++[cB c.guard.r.eq,cFs c.guard.kids,.d (.sl 5 (c.moves.map zad.d))])),(1,.box [cI (v:Int)]),(2,.box [cI 0,cB false,.d (.raw zaf),cB false,.d (nsl [])])] h fun a w h=>Jd 3 [(2,.g (Op.makeFs (d:=9) (fn:=.func 101) [(3,1,0)])),(3,.call (SIdxWM (fun m:zad=>m.v == (v:Int)) c.moves v (fun m _=>Lmove1 m v) (by have:=hc.len;omega)) ki_4)] [3] [(6,vI (zdx (fun m:zad=>m.v == (v:Int)) c.moves 0))] [(0,.box ([cI c.proc,cI c.from_,cI c.to_,cI c.guard.kind,cPs c.guard.r.t.parts]++zi c.guard.r.t.k++[cB c.guard.r.eq,cFs c.guard.kids,.d (.sl 5 (c.moves.map zad.d))])),(2,.box [cI 0,cB false,.d (.raw zaf),cB false,.d (nsl [])])] h fun a w h=>qW (Je 3 [] [] [(12,vb (decide ((zdx (fun m:zad=>m.v == (v:Int)) c.moves 0)<0)))] h fun a w h=>zam ((zdx (fun m:zad=>m.v == (v:Int)) c.moves 0)<0) h (fun hc1 hc1'=>?_) (fun hc2 hc2'=>?_))
 ·refine Je 3 [] [12] [] h fun a w h=>qV (za7 ?_);replace h:=zbm 2 2 3 [cI 0,cB false,.d (.raw zaf),cB false,.d (nsl [])] [(2,vp 0 0),(4,vp 2 0),(5,vb false),(6,vI (zdx (fun m:zad=>m.v == (v:Int)) c.moves 0))] [(0,.box ([cI c.proc,cI c.from_,cI c.to_,cI c.guard.kind,cPs c.guard.r.t.parts]++zi c.guard.r.t.k++[cB c.guard.r.eq,cFs c.guard.kids,.d (.sl 5 (c.moves.map zad.d))])),(2,.box [cI 0,cB false,cPs [],cB false,.d (nsl [])])] h rfl rfl;refine zeb [.agg [cI 0,cB false,cPs [],cB false,.d (nsl [])],.c (cB false)] h Exit.ret (.inl rfl)  rfl ⟨RV.agg _ 2 0 _ _ _ _ ki_5 rfl rfl rfl rfl,RV.tmp _ _ rfl,trivial⟩ ?_;rw [mvA_no (dT hc1)];try rfl
 refine qU (za1 ?_);obtain ⟨kx,hkkx⟩:∃ k_:Nat,(zdx (fun m:zad=>m.v == (v:Int)) c.moves 0)=(k_:Int):=⟨_,(Int.toNat_of_nonneg (by have:=dF hc2;omega)).symm⟩;replace h:=h.conv (f':=F.of [(2,vp 0 0),(4,vp 2 0),(5,vb false),(6,vN kx),(12,vb (decide ((zdx (fun m:zad=>m.v == (v:Int)) c.moves 0)<0)))] [(0,.box ([cI c.proc,cI c.from_,cI c.to_,cI c.guard.kind,cPs c.guard.r.t.parts]++zi c.guard.r.t.k++[cB c.guard.r.eq,cFs c.guard.kids,.d (.sl 5 (c.moves.map zad.d))])),(2,.box [cI 0,cB false,.d (.raw zaf),cB false,.d (nsl [])])]) (by rw [hkkx];kernel_rfl);obtain ⟨x2,hx2⟩:=gl c.moves kx;refine Jq 3 [(3,.g (xD 17 15 ki_2 (zab hx2 (f:=zad.d)) (OV.tmp 16 _)))] [(4,vp 2 0),(5,vb true)] [(2,.box ([cI x2.v,cB x2.any,cPs x2.t.parts]++zi x2.t.k))] h fun a w h=>qV (zeb [.agg ([cI x2.v,cB x2.any,cPs x2.t.parts]++zi x2.t.k),.c (cB true)] h Exit.ret (.inl rfl)  rfl ⟨RV.agg _ 2 0 _ _ _ _ ki_5 rfl rfl rfl rfl,RV.tmp _ _ rfl,trivial⟩ ?_);rw [mvA_at hkkx hx2];try rfl
theorem mvA_tok {c:zbi} (hc:zgd 3 c) (v:Nat):TOk 20 3 (mvA c v).1.t:=by
 unfold mvA
 cases e:mvAt c v with
 | none=>exact ⟨Nat.zero_le _,(fun p hp=>by cases hp),zdo,Nat.zero_le _⟩
 | some m=>exact hc.mv m (by unfold mvAt at e;exact List.mem_of_find?_eq_some e)
theorem valA_no {c:zbi} {v:Nat} (h:(mvA c v).2=false):zbu c v=(zdt (v:Int),true):=by
 unfold mvA at h;unfold zbu
 cases e:mvAt c v with
 | none=>rfl
 | some m=>rw [e] at h;cases h
theorem valA_any {c:zbi} {v:Nat} (h:(mvA c v).2=true) (a:(mvA c v).1.any=true):zbu c v=(⟨[],zero0⟩,false):=by
 unfold mvA at h a;unfold zbu
 cases e:mvAt c v with
 | none=>rw [e] at h;cases h
 | some m=>rw [e] at a;exact if_pos a
theorem valA_set {c:zbi} {v:Nat} (h:(mvA c v).2=true) (a:(mvA c v).1.any=false):zbu c v=(za2 (mvA c v).1.t,true):=by
 unfold mvA at h a ⊢;unfold zbu
 cases e:mvAt c v with
 | none=>rw [e] at h;cases h
 | some m=>rw [e] at a;exact if_neg (by rw [show m.any=false from a];exact Bool.noConfusion)
theorem Lvalue (c:zbi) (v:Nat) (hc:zgd 3 c):Fn Tryz.prog 43 [] [vG ([cI c.proc,cI c.from_,cI c.to_,cI c.guard.kind,cPs c.guard.r.t.parts]++zi c.guard.r.t.k++[cB c.guard.r.eq,cFs c.guard.kids,.d (.sl 5 (c.moves.map zad.d))]),vN v] (.tup [.agg (zT (zbu c v).1),.c (cB (zbu c v).2)]) []:=by
 refine Fn.body Tryz.func43 rfl 26 rfl fun w H B a h=>Jq 0 [] [(1,vN v),(2,vp 0 0),(4,vp 1 0),(5,vb false)] [(0,.box ([cI c.proc,cI c.from_,cI c.to_,cI c.guard.kind,cPs c.guard.r.t.parts]++zi c.guard.r.t.k++[cB c.guard.r.eq,cFs c.guard.kids,.d (.sl 5 (c.moves.map zad.d))])),(1,.box zT0)] h fun a w h=>Jd 2 [(2,.call (Lmove c v hc) mc2_10)] [2] [(6,vp 2 0),(7,vb (mvA c v).2)] [(1,.box zT0),(2,.box ([cI (mvA c v).1.v,cB (mvA c v).1.any,cPs (mvA c v).1.t.parts]++zi (mvA c v).1.t.k))] h fun a w h=>qW (qZ (Je 3 [] [7] [(14,vb (!(mvA c v).2))] h fun a w h=>cS (!(mvA c v).2) h (fun hc1=>?_) (fun hc2=>?_)))
 ·have hc1':=hc1;(try simp at hc1');refine Jd 3 [(1,.call (Lvariable v) mb1_11)] [1,14] [(5,vb true)] [(1,.box (zT (zdt (v:Int)))),(2,.box ([cI (mvA c v).1.v,cB (mvA c v).1.any,cPs (mvA c v).1.t.parts]++zi (mvA c v).1.t.k))] h fun a w h=>qV (zae (za7 (zeb [.agg (zT (zdt (v:Int))),.c (cB true)] h Exit.ret (.inl rfl)  rfl ⟨RV.agg _ 1 0 _ _ _ _ zf5 rfl rfl rfl rfl,RV.tmp _ _ rfl,trivial⟩ ?_)));rw [valA_no (by have:=hc1;simpa using this)];try rfl
 have hc2':=hc2;(try simp at hc2');refine Je 3 [] [1,14] [(19,vb (mvA c v).1.any)] h fun a w h=>cS (mvA c v).1.any h (fun hc3=>?_) (fun hc4=>?_)
 ·refine Je 3 [] [19] [] h fun a w h=>qV (zae (za7 ?_));replace h:=zbm 1 0 3 zT0 [(4,vp 1 0),(5,vb false),(6,vp 2 0)] [(1,.box [cPs [],cB false,.d (nsl [])]),(2,.box ([cI (mvA c v).1.v,cB (mvA c v).1.any,cPs (mvA c v).1.t.parts]++zi (mvA c v).1.t.k))] h rfl rfl;refine zeb [.agg [cPs [],cB false,.d (nsl [])],.c (cB false)] h Exit.ret (.inl rfl)  rfl ⟨RV.agg _ 1 0 _ _ _ _ zf5 rfl rfl rfl rfl,RV.tmp _ _ rfl,trivial⟩ ?_;rw [valA_any (by have:=hc2;simpa using this) hc3];try rfl
 refine qU (za9 (za1 (Jq 3 [(2,.call (zfi (mvA c v).1.t (mvA_tok hc v) (by decide) (by decide)) tm_7)] [(4,vp 1 0),(5,vb true)] [(1,.box (zT (za2 (mvA c v).1.t)))] h fun a w h=>qV (zeb [.agg (zT (za2 (mvA c v).1.t)),.c (cB true)] h Exit.ret (.inl rfl)  rfl ⟨RV.agg _ 1 0 _ _ _ _ zf5 rfl rfl rfl rfl,RV.tmp _ _ rfl,trivial⟩ ?_))));rw [valA_set (by have:=hc2;simpa using this) hc4];try rfl
theorem canS_t {s:zar} {c:zbi} {v:Nat} (h:(zbu c v).2=true):ze8 s c v=zi9 s v (zbu c v).1:=by unfold ze8;rw [if_pos h]
theorem canS_a {s:zar} {c:zbi} {v:Nat} {b:zaw} (h:(zbu c v).2=false) (hb:s.bounds[v]?=some b) (e:b.is_=true):ze8 s c v=[leF (zcf b.lo) (zcf b.hi)]:=by unfold ze8;rw [h,if_neg Bool.noConfusion,bnd_is hb,if_pos e]
theorem canS_n {s:zar} {c:zbi} {v:Nat} (h:(zbu c v).2=false) (e:(zft s v).is_=false):ze8 s c v=[]:=by unfold ze8;rw [h,if_neg Bool.noConfusion,e];rfl
theorem Lcan (s:zar) (c:zbi) (hs:zba 3 s) (hc:zgd 3 c) (hg:c.guard.wid<=100):Fn Tryz.prog 54 [] [vG (zan s),vG ([cI c.proc,cI c.from_,cI c.to_,cI c.guard.kind,cPs c.guard.r.t.parts]++zi c.guard.r.t.k++[cB c.guard.r.eq,cFs c.guard.kids,.d (.sl 5 (c.moves.map zad.d))])] (vF (zgu s c)) []:=by
 have lvs:=hs.vars;have lbs:=hs.bnds;have lcn:=zbz (ze8 s c) (canS_len s c) s.vars.length;refine Fn.body Tryz.func54 rfl 63 rfl fun w H B a h=>Jq 5 [] [(2,vp 5 0),(3,vp 6 0),(4,vp 7 0)] [(5,.box (zan s)),(6,.box ([cI c.proc,cI c.from_,cI c.to_,cI c.guard.kind,cPs c.guard.r.t.parts]++zi c.guard.r.t.k++[cB c.guard.r.eq,cFs c.guard.kids,.d (.sl 5 (c.moves.map zad.d))])),(7,.box zF0)] h fun a w h=>Jd 8 [(2,.g (Op.buildO (d:=12) (n:=8) (len:=1) (rows:=[c.guard].map za0.d) (rs:=[(11,(vF c.guard))]) zh7 (.cons (i:=0) (OV.tmp 11 _) (.nil)) (by simp only [List.map_cons,List.map_nil,List.flatten_cons,List.flatten_nil,List.append_nil,za0.d_eq];kernel_rfl) rfl (by simp [za0.d_len]) (by decide) (by decide)))] [] [(5,vO 8 1)] [(5,.box (zan s)),(6,.box ([cI c.proc,cI c.from_,cI c.to_,cI c.guard.kind,cPs c.guard.r.t.parts]++zi c.guard.r.t.k++[cB c.guard.r.eq,cFs c.guard.kids,.d (.sl 5 (c.moves.map zad.d))])),(7,.box zF0),(8,.row 35 6 ([c.guard].map za0.d))] h fun a w h=>qW (Je 9 [(2,.len (za6 1 zfj s.vars))] [] [(15,vN s.vars.length),(16,vI 0)] h fun a w h=>qZ ?_)
 replace h:=cv (fun z_:List za0=>F.of [(2,vp 5 0),(3,vp 6 0),(4,vp 7 0),(5,vO 8 1),(15,vN s.vars.length),(16,vI 0)] [(5,.box (zan s)),(6,.box ([cI c.proc,cI c.from_,cI c.to_,cI c.guard.kind,cPs c.guard.r.t.parts]++zi c.guard.r.t.k++[cB c.guard.r.eq,cFs c.guard.kids,.d (.sl 5 (c.moves.map zad.d))])),(7,.box zF0),(8,.row 35 6 (z_.map za0.d))]) (show ([c.guard]:List za0)=([c.guard]++(List.range 0).flatMap (ze8 s c)) from (by simp)) h
 refine zaq (ι:=(Nat)) (fun j=>j<=s.vars.length)
   (fun j=>[(2,vp 5 0),(3,vp 6 0),(4,vp 7 0),(5,vO 8 ([c.guard]++(List.range j).flatMap (ze8 s c)).length),(15,vN s.vars.length),(16,vN j)])
   (fun j=>[(5,.box (zan s)),(6,.box ([cI c.proc,cI c.from_,cI c.to_,cI c.guard.kind,cPs c.guard.r.t.parts]++zi c.guard.r.t.k++[cB c.guard.r.eq,cFs c.guard.kids,.d (.sl 5 (c.moves.map zad.d))])),(7,.box zF0),(8,.row 35 6 (([c.guard]++(List.range j).flatMap (ze8 s c)).map za0.d))])
   (fun j=>s.vars.length - j) 0 ?_ h (by kernel_rfl) (by kernel_rfl) ?_
 ·exact Nat.zero_le _
 clear h;rintro j a w hI h;have lcj:=zbz (ze8 s c) (canS_len s c) j;have lbj:=zg9 s j (zbu c j).1;refine Je 9 [] [] [(17,vb (decide ((j:Int)<(s.vars.length:Int))))] h fun a w h=>qW (zam ((j:Int)<(s.vars.length:Int)) h (fun hc1 hc1'=>?_) (fun hc8 hc8'=>?_))
 ·refine qU (za1 (qW (qZ (Je 9 [] [17] [(6,vN j)] h fun a w h=>Jd 9 [(2,.call (Lvalue c j hc) mc2_15)] [] [(7,vp 9 0),(8,vb (zbu c j).2)] [(5,.box (zan s)),(6,.box ([cI c.proc,cI c.from_,cI c.to_,cI c.guard.kind,cPs c.guard.r.t.parts]++zi c.guard.r.t.k++[cB c.guard.r.eq,cFs c.guard.kids,.d (.sl 5 (c.moves.map zad.d))])),(7,.box zF0),(8,.row 35 6 (([c.guard]++(List.range j).flatMap (ze8 s c)).map za0.d)),(9,.box (zT (zbu c j).1))] h fun a w h=>Je 10 [] [8] [(25,vb (zbu c j).2)] h fun a w h=>cS (zbu c j).2 h (fun hc2=>?_) (fun hc3=>?_)))))
  ·refine Jm 10 [(4,.call (Lbounded s j (zbu c j).1 hs (zhm hc j)) mb1_12),(5,.g (aD 31 26 30 8 10 ([c.guard]++(List.range j).flatMap (ze8 s c)) (zi9 s j (zbu c j).1) za0.d la_7 (by simp [za0.d_len])))] [6,7,25] [(5,vO 10 (([c.guard]++(List.range j).flatMap (ze8 s c))++(zi9 s j (zbu c j).1)).length)] [(5,.box (zan s)),(6,.box ([cI c.proc,cI c.from_,cI c.to_,cI c.guard.kind,cPs c.guard.r.t.parts]++zi c.guard.r.t.k++[cB c.guard.r.eq,cFs c.guard.kids,.d (.sl 5 (c.moves.map zad.d))])),(7,.box zF0),(10,.row 35 6 ((([c.guard]++(List.range j).flatMap (ze8 s c))++(zi9 s j (zbu c j).1)).map za0.d))] h fun a w h=>za9 (za1 (Jf 11 [(0,.j1 j)] [] [(16,vI ((j:Int)+1))] h fun a w h=>za1 ?_));rw [show ((([c.guard]++(List.range j).flatMap (ze8 s c))++(zi9 s j (zbu c j).1)):List za0)=([c.guard]++(List.range (j+1)).flatMap (ze8 s c)) from (by rw [zbr (ze8 s c) j,canS_t hc2];simp)] at h;replace h:=zec 10 8 [(2,vp 5 0),(3,vp 6 0),(4,vp 7 0),(5,vO 8 ([c.guard]++(List.range (j+1)).flatMap (ze8 s c)).length),(15,vN s.vars.length),(16,vI ((j:Int)+1))] [(5,.box (zan s)),(6,.box ([cI c.proc,cI c.from_,cI c.to_,cI c.guard.kind,cPs c.guard.r.t.parts]++zi c.guard.r.t.k++[cB c.guard.r.eq,cFs c.guard.kids,.d (.sl 5 (c.moves.map zad.d))])),(7,.box zF0),(8,.row 35 6 (([c.guard]++(List.range (j+1)).flatMap (ze8 s c)).map za0.d))] h;refine zag (x:=j) (y:=j+1) h ?_ ?_
   ·have:=dT hc1;show j+1<=s.vars.length;omega
   show s.vars.length - (j+1)<s.vars.length - j;have:=dT hc1;omega
  rcases Bool.eq_false_or_eq_true (decide ((j:Int)<(s.bounds.length:Int))) with hc4 | hc7
  ·have hc4':=dT hc4;obtain ⟨x3,hx3⟩:=gl s.bounds j;refine Jd 11 [(3,.len (za6 5 zaw.d s.bounds)),(4,.cmp (op:=.lss) (m:=(j:Int)) (n:=(s.bounds.length:Int)) (b:=true) .i64 hc4),(9,.g (xD 41 39 kf_0 (zab hx3 (f:=zaw.d)) (OV.tmp 40 _)))] [7,25] [(44,vb x3.is_)] [(5,.box (zan s)),(6,.box ([cI c.proc,cI c.from_,cI c.to_,cI c.guard.kind,cPs c.guard.r.t.parts]++zi c.guard.r.t.k++[cB c.guard.r.eq,cFs c.guard.kids,.d (.sl 5 (c.moves.map zad.d))])),(7,.box zF0),(8,.row 35 6 (([c.guard]++(List.range j).flatMap (ze8 s c)).map za0.d))] h fun a w h=>cS x3.is_ h (fun hc5=>?_) (fun hc6=>?_)
   ·refine Jd 11 [(3,.g (xD 48 46 kf_0 (zab hx3 (f:=zaw.d)) (OV.tmp 47 _)))] [6,44] [(9,vp 11 0)] [(5,.box (zan s)),(6,.box ([cI c.proc,cI c.from_,cI c.to_,cI c.guard.kind,cPs c.guard.r.t.parts]++zi c.guard.r.t.k++[cB c.guard.r.eq,cFs c.guard.kids,.d (.sl 5 (c.moves.map zad.d))])),(7,.box zF0),(8,.row 35 6 (([c.guard]++(List.range j).flatMap (ze8 s c)).map za0.d)),(11,.box ([cB x3.is_]++zi x3.lo++zi x3.hi))] h fun a w h=>Jm 12 [(3,.call (zfw x3.lo (hs.bnd x3 (lM hx3)).1.1 (by have:=(hs.bnd x3 (lM hx3)).1.2;omega)) to_7),(6,.call (zfw x3.hi (hs.bnd x3 (lM hx3)).2.1 (by have:=(hs.bnd x3 (lM hx3)).2.2;omega)) to_7),(7,.call (LCmpLe (zcf x3.lo) (zcf x3.hi) ((zht (hs.bnd x3 (lM hx3)).1).mono (Nat.le_refl _) (by decide)) ((zht (hs.bnd x3 (lM hx3)).2).mono (Nat.le_refl _) (by decide))) mb1_6),(8,.g (bD 58 ([(leF (zcf x3.lo) (zcf x3.hi))].map za0.d) [(57,(vF (leF (zcf x3.lo) (zcf x3.hi))))] zh7 (.cons (i:=0) (OV.tmp 57 _) (.nil)) (by simp only [List.map_cons,List.map_nil,List.flatten_cons,List.flatten_nil,List.append_nil,za0.d_eq];kernel_rfl) (by simp [za0.d_len]))),(9,.g (aD 59 50 58 8 12 ([c.guard]++(List.range j).flatMap (ze8 s c)) [(leF (zcf x3.lo) (zcf x3.hi))] za0.d la_7 (by simp [za0.d_len])))] [9] [(5,vO 12 (([c.guard]++(List.range j).flatMap (ze8 s c))++[(leF (zcf x3.lo) (zcf x3.hi))]).length)] [(5,.box (zan s)),(6,.box ([cI c.proc,cI c.from_,cI c.to_,cI c.guard.kind,cPs c.guard.r.t.parts]++zi c.guard.r.t.k++[cB c.guard.r.eq,cFs c.guard.kids,.d (.sl 5 (c.moves.map zad.d))])),(7,.box zF0),(12,.row 35 6 ((([c.guard]++(List.range j).flatMap (ze8 s c))++[(leF (zcf x3.lo) (zcf x3.hi))]).map za0.d))] h fun a w h=>za9 (za1 (Jf 13 [(0,.j1 j)] [] [(16,vI ((j:Int)+1))] h fun a w h=>za1 ?_));rw [show ((([c.guard]++(List.range j).flatMap (ze8 s c))++[(leF (zcf x3.lo) (zcf x3.hi))]):List za0)=([c.guard]++(List.range (j+1)).flatMap (ze8 s c)) from (by rw [zbr (ze8 s c) j,canS_a hc3 hx3 hc5];simp)] at h;replace h:=zec 12 8 [(2,vp 5 0),(3,vp 6 0),(4,vp 7 0),(5,vO 8 ([c.guard]++(List.range (j+1)).flatMap (ze8 s c)).length),(15,vN s.vars.length),(16,vI ((j:Int)+1))] [(5,.box (zan s)),(6,.box ([cI c.proc,cI c.from_,cI c.to_,cI c.guard.kind,cPs c.guard.r.t.parts]++zi c.guard.r.t.k++[cB c.guard.r.eq,cFs c.guard.kids,.d (.sl 5 (c.moves.map zad.d))])),(7,.box zF0),(8,.row 35 6 (([c.guard]++(List.range (j+1)).flatMap (ze8 s c)).map za0.d))] h;refine zag (x:=j) (y:=j+1) h ?_ ?_
    ·have:=dT hc1;show j+1<=s.vars.length;omega
    show s.vars.length - (j+1)<s.vars.length - j;have:=dT hc1;omega
   refine qU (za9 (za1 (Jf 13 [(0,.j1 j)] [6,44] [(16,vI ((j:Int)+1))] h fun a w h=>za1 ?_)));rw [show (([c.guard]++(List.range j).flatMap (ze8 s c)):List za0)=([c.guard]++(List.range (j+1)).flatMap (ze8 s c)) from (by rw [zbr (ze8 s c) j,canS_n hc3 (by rw [bnd_is hx3];exact hc6)];simp)] at h;refine zag (x:=j) (y:=j+1) h ?_ ?_
   ·have:=dT hc1;show j+1<=s.vars.length;omega
   show s.vars.length - (j+1)<s.vars.length - j;have:=dT hc1;omega
  have hc7':=dF hc7;refine Jd 13 [(3,.len (za6 5 zaw.d s.bounds)),(4,.cmp (op:=.lss) (m:=(j:Int)) (n:=(s.bounds.length:Int)) (b:=false) .i64 hc7)] [7,25] [(44,vb false)] [(5,.box (zan s)),(6,.box ([cI c.proc,cI c.from_,cI c.to_,cI c.guard.kind,cPs c.guard.r.t.parts]++zi c.guard.r.t.k++[cB c.guard.r.eq,cFs c.guard.kids,.d (.sl 5 (c.moves.map zad.d))])),(7,.box zF0),(8,.row 35 6 (([c.guard]++(List.range j).flatMap (ze8 s c)).map za0.d))] h fun a w h=>zap false h rfl nofun (fun _=>qU (za9 (za1 (Jf 13 [(0,.j1 j)] [6,44] [(16,vI ((j:Int)+1))] h fun a w h=>za1 ?_))))
  rw [show (([c.guard]++(List.range j).flatMap (ze8 s c)):List za0)=([c.guard]++(List.range (j+1)).flatMap (ze8 s c)) from (by rw [zbr (ze8 s c) j,canS_n hc3 (bnd_no (by omega))];simp)] at h;refine zag (x:=j) (y:=j+1) h ?_ ?_
  ·have:=dT hc1;show j+1<=s.vars.length;omega
  show s.vars.length - (j+1)<s.vars.length - j;have:=dT hc1;omega
 refine wp_exit (zaa (zaa (za5 (za1 ?_))));rw [show (([c.guard]++(List.range j).flatMap (ze8 s c)):List za0)=(canL s c) from (by rw [show j=s.vars.length by have:=dF hc8;omega];rfl)] at h;replace h:=ziv 8 6 35 ((canL s c).map za0.d) [(2,vp 5 0),(3,vp 6 0),(4,vp 7 0),(5,(vFs (canL s c))),(15,vN s.vars.length),(16,vN j),(17,vb (decide ((j:Int)<(s.vars.length:Int))))] [(5,.box (zan s)),(6,.box ([cI c.proc,cI c.from_,cI c.to_,cI c.guard.kind,cPs c.guard.r.t.parts]++zi c.guard.r.t.k++[cB c.guard.r.eq,cFs c.guard.kids,.d (.sl 5 (c.moves.map zad.d))])),(7,.box zF0)] h rfl (show zbx _ [(canL s c).length] from ⟨by first | exact (List.length_map _).symm | (simp;done) | (simp;omega),trivial⟩) trivial;refine Jq 13 [(1,.call (LAll (canL s c) (fun g hg_=>za0.okB_mono (by decide) (by decide) _ (can_ok hs hc hg g hg_)) (by show List.length _<=_;unfold canL;rw [List.length_cons];omega)) zii)] [(4,vp 7 0)] [(7,.box (zF (zgu s c)))] h fun a w h=>qV (rA 7 (zF (zgu s c)) h zch rfl ?_);rfl
theorem md3_0:za4 Tryz.prog 76:=za4.mk' (by kernel_rfl)
theorem md3_1:za4 Tryz.prog 75:=za4.mk' (by kernel_rfl)
theorem md3_3:za4 Tryz.prog 52:=za4.mk' (by kernel_rfl)
theorem md3_4:za4 Tryz.prog 45:=za4.mk' (by kernel_rfl)
theorem md3_7:za4 Tryz.prog 53:=za4.mk' (by kernel_rfl)
theorem md3_9:za4 Tryz.prog 54:=za4.mk' (by kernel_rfl)
theorem md3_12:za4 Tryz.prog 39:=za4.mk' (by kernel_rfl)
theorem md3_15:za4 Tryz.prog 41:=za4.mk' (by kernel_rfl)
def offZ (s:zar) (k:Nat):Int:=(k:Int)*(s.vars.length:Int)
def atF (s:zar) (f:za0) (k:Nat):za0:=f.each (zc8 (offZ s k))
def begB (s:zar) (locs:List Int) (a:zbi):Bool:=decide (locs.length=s.procs.length) && ((locs[a.proc.toNat]?).getD 0 == a.from_)
def zac (s:zar) (locs:List Int) (i:Int):zbi × Bool:=((za8 s i).1,(za8 s i).2 && begB s locs (za8 s i).1)
def zfn (s:zar) (locs:List Int) (v:Nat):List za0:=if (zac s locs (v:Int)).2=true then [denyF (zgu s (zac s locs (v:Int)).1)] else []
def zbf (s:zar) (locs:List Int):za0:=zc7 ((List.range s.acts.length).flatMap (zfn s locs))
def samF (s:zar) (v:Nat) (t:zak):za0:=zd7 (zroR (subT (zdt ((v+s.vars.length:Nat):Int)) t))
def zd9 (s:zar) (c:zbi) (v:Nat):List za0:=if (zbu c v).2=true then [samF s v (zbu c v).1] else []
def zer (s:zar) (h:za0) (c:zbi):List za0:=h :: (List.range s.vars.length).flatMap (zd9 s c)
def zbv (s:zar) (locs:List Int) (act:Int):List Int × Bool:=if act=-1 then (locs,true) else if (zac s locs act).2=true then (locs.set (zac s locs act).1.proc.toNat (zac s locs act).1.to_,true) else ([],false)
theorem ze0 {s:zar} {i:Int} (h:(za8 s i).2=true):0<=(za8 s i).1.proc/\(za8 s i).1.proc<(s.procs.length:Int):=by
 unfold za8 at h ⊢
 cases e:zf2 s i with
 | none=>rw [e] at h;cases h
 | some c =>
  rw [e] at h
  change zgf s c=true at h
  unfold zgf at h
  simp only [Bool.and_eq_true,decide_eq_true_eq] at h
  exact h.1.1.1
theorem rngF_ok {s:zar} (hs:zba 3 s):(zav s).okB 40 51:=ze9 (by decide) (rng_ok hs) (by have:=zbz (rngS s) (fun v=>zg9 s v (zdt (v:Int))) s.vars.length;have:=hs.vars;omega)
theorem zi8 {s:zar} (hs:zba 3 s) {c:zbi} (hc:zgd 3 c) (hw:c.guard.wid<=100):(zgu s c).okB 40 51:=ze9 (by decide) (can_ok hs hc hw) (by unfold canL;rw [List.length_cons];have:=zbz (ze8 s c) (canS_len s c) s.vars.length;have:=hs.vars;omega)
theorem at_ok {f:za0} (h:f.okB 40 100) (n:Int):(f.each (zc8 n)).okB 40 103:=zjd (t:=zc8 n) (fun r hr=>by
 have:=movZ_tok (hr.plain (by decide)) (by decide) (zah n)
 exact this) f h
theorem stkS_ok {s:zar} (hs:zba 3 s) (hw:zhk s) (locs:List Int) (v:Nat):∀ g ∈ zfn s locs v,g.okB 40 52:=fun g hg=>by
 unfold zfn at hg
 split at hg
 ·rw [List.mem_singleton.1 hg]
  exact zjc (by decide) (by simp) fun q hq=>by rw [List.mem_singleton.1 hq];exact okB_cl (by decide) _ (zi8 hs (zbj hs _) (zeg hw _))
 ·cases hg
theorem stkS_len (s:zar) (locs:List Int) (v:Nat):(zfn s locs v).length<=1:=by unfold zfn;split <;> simp
theorem stkF_ok {s:zar} (hs:zba 3 s) (hw:zhk s) (locs:List Int):(zbf s locs).okB 40 53:=ze9 (by decide) (zcn fun v _=>stkS_ok hs hw locs v) (by have:=zbz (zfn s locs) (stkS_len s locs) s.acts.length;have:=hs.acts;omega)
theorem samF_ok {s:zar} (v:Nat) {t:zak} (ht:TOk 20 20 t):(samF s v t).okB 40 50:=za0.okB_mono (by decide) (Nat.le_refl _) _ (at_okB (n:=1) (m:=20) (zgl _) ht (by decide) true)
theorem stpS_ok {s:zar} {c:zbi} (hc:zgd 3 c) (v:Nat):∀ g ∈ zd9 s c v,g.okB 40 50:=fun g hg=>by
 unfold zd9 at hg
 split at hg
 ·rw [List.mem_singleton.1 hg];exact samF_ok v (zhm hc v)
 ·cases hg
theorem stpS_len (s:zar) (c:zbi) (v:Nat):(zd9 s c v).length<=1:=by unfold zd9;split <;> simp
theorem stpL_ok {s:zar} {h:za0} {c:zbi} (hh:h.okB 40 60) (hc:zgd 3 c):∀ g ∈ zer s h c,g.okB 40 60:=fun g hg=>by
 unfold zer at hg
 rcases List.mem_cons.1 hg with rfl | hg
 ·exact hh
 ·exact za0.okB_mono (by decide) (by decide) _ (zcn (fun v _=>stpS_ok hc v) g hg)
theorem stpL_len (s:zar) (h:za0) (c:zbi):(zer s h c).length<=1+s.vars.length:=by
 unfold zer;rw [List.length_cons];have:=zbz (zd9 s c) (stpS_len s c) s.vars.length;omega
theorem rng1_ok {s:zar} (hs:zba 3 s):(atF s (zav s) 1).okB 40 103:=at_ok (za0.okB_mono (Nat.le_refl _) (by decide) _ (rngF_ok hs)) _
theorem Loffset (s:zar) (k:Nat) (hs:zba 3 s) (hk:k<=4096):Fn Tryz.prog 76 [] [vG (zan s),vN k] (vI (offZ s k)) []:=by
 have lvs:=hs.vars;obtain ⟨mkv,hmkv⟩:∃ z_:Nat,z_=k*s.vars.length:=⟨_,rfl⟩;have hmk2:mkv<=4096*8:=by rw [hmkv];exact Nat.mul_le_mul hk lvs
 have hmk3:(k:Int)*(s.vars.length:Int)=(mkv:Int):=by rw [hmkv,Int.natCast_mul]
 refine Fn.body Tryz.func76 rfl 12 rfl fun w H B a h=>Jq 0 [] [(1,vN k),(2,vp 0 0),(4,vI 0)] [(0,.box (zan s))] h fun a w h=>Jq 1 [(1,.g (Op.max2 (d:=6) (tys:=#[3,3]) (k:=.i64) (m:=(k:Int)) (n:=0) (r:=(k:Int)) (OV.tmp 5 _) (OV.const (.int .i64 0) rfl) (by omega))),(2,.g (Op.min2 (d:=7) (tys:=#[3,3]) (k:=.i64) (m:=(k:Int)) (n:=4096) (r:=(k:Int)) (OV.tmp 6 _) (OV.const (.int .i64 4096) rfl) (by omega))),(5,.len (za6 1 zfj s.vars)),(6,.mul .i64 (m:=(k:Int)) (n:=(s.vars.length:Int)) i6)] [(4,vI ((k:Int)*(s.vars.length:Int)))] [] h fun a w h=>qV (rT (.c (cI ((k:Int)*(s.vars.length:Int)))) h rfl ?_)
 rfl
theorem Lat (s:zar) (f:za0) (k:Nat) (hs:zba 3 s) (hk:k<=4096) (hf:f.okB 40 200):Fn Tryz.prog 45 [] [vG (zan s),(vF f),vN k] (vF (atF s f k)) []:=by
 refine Fn.body Tryz.func45 rfl 12 rfl fun w H B a h=>Jq 0 [] [(2,vN k),(3,vp 0 0),(4,vp 1 0),(6,vp 2 0)] [(0,.box (zan s)),(1,.box (zF f)),(2,.box zF0)] h fun a w h=>Jq 3 [(3,.call (Loffset s k hs (by omega)) md3_0),(4,.call (LMoveF f (offZ s k) (za0.okB_mono (by decide) (by decide) _ hf) (za0.okB_mono (by decide) (by decide) _ (okB_cl (by decide) _ hf))) md3_1)] [(6,vp 2 0)] [(2,.box (zF (za0.each (zc8 (offZ s k)) f)))] h fun a w h=>qV (rA 2 (zF (za0.each (zc8 (offZ s k)) f)) h zch rfl ?_)
 rfl
theorem LRange (s:zar) (k:Nat) (hs:zba 3 s) (hk:k<=4096):Fn Tryz.prog 17 [] [vG (zan s),vN k] (vF (atF s (zav s) k)) []:=by
 refine Fn.body Tryz.func17 rfl 10 rfl fun w H B a h=>Jq 0 [] [(1,vN k),(2,vp 0 0),(4,vp 1 0)] [(0,.box (zan s)),(1,.box zF0)] h fun a w h=>Jq 2 [(2,.call (Lranges s hs) md3_3),(4,.call (Lat s (zav s) k hs hk (za0.okB_mono (by decide) (by decide) _ (rngF_ok hs))) md3_4)] [(4,vp 1 0)] [(1,.box (zF (atF s (zav s) k)))] h fun a w h=>qV (rA 1 (zF (atF s (zav s) k)) h zch rfl ?_)
 rfl
theorem LStart (s:zar) (k:Nat) (hs:zba 3 s) (hw:zhk s) (hk:k<=4096):Fn Tryz.prog 18 [] [vG (zan s),vN k] (vF (atF s (zc7 [s.init,zav s]) k)) []:=by
 have hsr:∀ g ∈ [s.init,zav s],g.okB 40 60:=fun g hg=>by
  rcases List.mem_cons.1 hg with rfl | hg
  ·exact za0.okB_mono (by decide) (by decide) _ (zfb hs.init (by have:=hw.1;omega))
  rw [List.mem_singleton.1 hg];exact za0.okB_mono (by decide) (by decide) _ (rngF_ok hs)
 refine Fn.body Tryz.func18 rfl 14 rfl fun w H B a h=>Jq 0 [] [(1,vN k),(2,vp 0 0),(4,vp 1 0)] [(0,.box (zan s)),(1,.box zF0)] h fun a w h=>Jq 2 [(4,.call (Lranges s hs) md3_3),(5,.g (Op.buildD (d:=10) (len:=2) (rows:=[s.init,(zav s)].map za0.d) (rs:=[(7,(vF s.init)),(9,(vF (zav s)))]) zh7 (.cons (i:=0) (OV.tmp 7 _) (.cons (i:=1) (OV.tmp 9 _) (.nil))) (by simp only [List.map_cons,List.map_nil,List.flatten_cons,List.flatten_nil,List.append_nil,za0.d_eq];kernel_rfl) rfl (by simp [za0.d_len]) (by decide) (by decide))),(6,.call (LAll [s.init,zav s] (fun g hg=>za0.okB_mono (by decide) (by decide) _ (hsr g hg)) (show List.length _<=1000000 from by simp)) zii),(8,.call (Lat s (zc7 [s.init,zav s]) k hs hk (za0.okB_mono (by decide) (by decide) _ (ze9 (by decide) hsr (show List.length _<=1000000 from by simp)))) md3_4)] [(4,vp 1 0)] [(1,.box (zF (atF s (zc7 [s.init,zav s]) k)))] h fun a w h=>qV (rA 1 (zF (atF s (zc7 [s.init,zav s]) k)) h zch rfl ?_)
 rfl
theorem LCan (s:zar) (act:Int) (k:Nat) (hs:zba 3 s) (hw:zhk s) (hk:k<=4096):Fn Tryz.prog 20 [] [vG (zan s),vI act,vN k] (vF (if (za8 s act).2=true then atF s (zgu s (za8 s act).1) k else zcq false)) []:=by
 refine Fn.body Tryz.func20 rfl 24 rfl fun w H B a h=>Jq 0 [] [(1,vI act),(2,vN k),(3,vp 0 0),(6,vp 1 0)] [(0,.box (zan s)),(1,.box zF0)] h fun a w h=>Jd 2 [(2,.call (Lsound s act hs) md3_7)] [1] [(7,vp 2 0),(8,vb (za8 s act).2)] [(0,.box (zan s)),(1,.box zF0),(2,.box ([cI (za8 s act).1.proc,cI (za8 s act).1.from_,cI (za8 s act).1.to_,cI (za8 s act).1.guard.kind,cPs (za8 s act).1.guard.r.t.parts]++zi (za8 s act).1.guard.r.t.k++[cB (za8 s act).1.guard.r.eq,cFs (za8 s act).1.guard.kids,.d (.sl 5 ((za8 s act).1.moves.map zad.d))]))] h fun a w h=>qW (Je 3 [] [8] [(16,vb (!(za8 s act).2))] h fun a w h=>cS (!(za8 s act).2) h (fun hc1=>?_) (fun hc2=>?_))
 ·have hc1':=hc1;(try simp at hc1');refine Jd 3 [(0,.call (zfz false) la_8)] [16] [] [(0,.box (zan s)),(1,.box (zF (zcq false))),(2,.box ([cI (za8 s act).1.proc,cI (za8 s act).1.from_,cI (za8 s act).1.to_,cI (za8 s act).1.guard.kind,cPs (za8 s act).1.guard.r.t.parts]++zi (za8 s act).1.guard.r.t.k++[cB (za8 s act).1.guard.r.eq,cFs (za8 s act).1.guard.kids,.d (.sl 5 ((za8 s act).1.moves.map zad.d))]))] h fun a w h=>qV (za7 (rA 1 (zF (zcq false)) h zch rfl ?_));rw [if_neg (by rw [(show ((za8 s act).2)=false from by simpa using hc1)];exact Bool.noConfusion)];try rfl
 have hc2':=hc2;(try simp at hc2');refine qU (za1 (Jq 3 [(3,.call (Lcan s (za8 s act).1 hs (zbj hs act) (zeg hw act)) md3_9),(5,.call (Lat s (zgu s (za8 s act).1) k hs hk (za0.okB_mono (by decide) (by decide) _ (zi8 hs (zbj hs act) (zeg hw act)))) md3_4)] [(6,vp 1 0)] [(1,.box (zF (atF s (zgu s (za8 s act).1) k)))] h fun a w h=>qV (rA 1 (zF (atF s (zgu s (za8 s act).1) k)) h zch rfl ?_)));rw [if_pos (show ((za8 s act).2)=true from by simpa using hc2)];try rfl
theorem Lbegins (s:zar) (locs:List Int) (i:Int) (hs:zba 3 s) (_hl:locs.length<=9223372036854775807):Fn Tryz.prog 39 [] [.t (.agg (zan s)),.t (.c (.d (.sl 1 (locs.map zai)))),vI i] (.tup [.agg ([.d (.raw (.int .i64 (zac s locs i).1.proc)),.d (.raw (.int .i64 (zac s locs i).1.from_)),.d (.raw (.int .i64 (zac s locs i).1.to_)),.d (.raw (.int .i64 (zac s locs i).1.guard.kind)),.d (.sl 3 ((zac s locs i).1.guard.r.t.parts.map za3.d))]++zi (zac s locs i).1.guard.r.t.k++[.d (.raw (.bool (zac s locs i).1.guard.r.eq)),.d (.sl 6 ((zac s locs i).1.guard.kids.map za0.d)),.d (.sl 5 ((zac s locs i).1.moves.map zad.d))]),.c (.d (.raw (.bool (zac s locs i).2)))]) []:=by
 have lps:=hs.procs;have lpr:(za8 s i).2=true->0<=(za8 s i).1.proc/\(za8 s i).1.proc<(s.procs.length:Int):=ze0;refine Fn.body Tryz.func39 rfl 36 rfl fun w H B a h=>?_
 refine Jq 0 [] [(1,.t (.c (.d (.sl 1 (locs.map zai))))),(2,vI i),(3,vp 0 0),(6,vp 1 0),(7,vb false)] [(0,.box (zan s)),(1,.box [.d (.raw (.int .i64 0)),.d (.raw (.int .i64 0)),.d (.raw (.int .i64 0)),.d (.raw (.int .i64 0)),.d (.raw zaf),.d (.raw (.bool false)),.d (nsl []),.d (.raw (.bool false)),.d (.raw zaf),.d (.raw zaf)])] h fun a w h=>?_;refine Jq 2 [(2,.call (Lsound s i hs) md3_7)] [(1,.t (.c (.d (.sl 1 (locs.map zai))))),(3,vp 0 0),(6,vp 1 0),(7,vb false),(8,vp 2 0),(9,vb (za8 s i).2)] [(0,.box (zan s)),(1,.box [.d (.raw (.int .i64 0)),.d (.raw (.int .i64 0)),.d (.raw (.int .i64 0)),.d (.raw (.int .i64 0)),.d (.raw zaf),.d (.raw (.bool false)),.d (nsl []),.d (.raw (.bool false)),.d (.raw zaf),.d (.raw zaf)]),(2,.box ([.d (.raw (.int .i64 (za8 s i).1.proc)),.d (.raw (.int .i64 (za8 s i).1.from_)),.d (.raw (.int .i64 (za8 s i).1.to_)),.d (.raw (.int .i64 (za8 s i).1.guard.kind)),.d (.sl 3 ((za8 s i).1.guard.r.t.parts.map za3.d))]++zi (za8 s i).1.guard.r.t.k++[.d (.raw (.bool (za8 s i).1.guard.r.eq)),.d (.sl 6 ((za8 s i).1.guard.kids.map za0.d)),.d (.sl 5 ((za8 s i).1.moves.map zad.d))]))] h fun a w h=>?_
 rcases Bool.eq_false_or_eq_true (za8 s i).2 with hc1 | hc4
 ·have lpx:=ze0 hc1;rw [hc1] at h
  rcases Bool.eq_false_or_eq_true ((locs.length:Int) == (s.procs.length:Int)) with hc2 | hc3
  ·have hc2':=hc2;(try simp at hc2');obtain ⟨kp,hkkp⟩:∃ k_:Nat,(za8 s i).1.proc=(k_:Int):=⟨_,(Int.toNat_of_nonneg ((ze0 hc1).1)).symm⟩;replace h:=h.conv (f':=F.of [(1,.t (.c (.d (.sl 1 (locs.map zai))))),(3,vp 0 0),(6,vp 1 0),(7,vb false),(8,vp 2 0),(9,vb true)] [(0,.box (zan s)),(1,.box [.d (.raw (.int .i64 0)),.d (.raw (.int .i64 0)),.d (.raw (.int .i64 0)),.d (.raw (.int .i64 0)),.d (.raw zaf),.d (.raw (.bool false)),.d (nsl []),.d (.raw (.bool false)),.d (.raw zaf),.d (.raw zaf)]),(2,.box ([.d (.raw (.int .i64 (kp:Int))),.d (.raw (.int .i64 (za8 s i).1.from_)),.d (.raw (.int .i64 (za8 s i).1.to_)),.d (.raw (.int .i64 (za8 s i).1.guard.kind)),.d (.sl 3 ((za8 s i).1.guard.r.t.parts.map za3.d))]++zi (za8 s i).1.guard.r.t.k++[.d (.raw (.bool (za8 s i).1.guard.r.eq)),.d (.sl 6 ((za8 s i).1.guard.kids.map za0.d)),.d (.sl 5 ((za8 s i).1.moves.map zad.d))]))]) (by rw [hkkp]);obtain ⟨x2,hx2⟩:=gl locs kp;refine Jq 3 [(4,.len (za6 1 zai locs)),(7,.len (za6 3 zcg.d s.procs)),(8,.cmp (op:=.eql) (m:=(locs.length:Int)) (n:=(s.procs.length:Int)) (b:=true) .i64 hc2),(14,.g (xD 30 27 zfm (zab hx2 (f:=zai)) (OV.tmp 29 _)))] [(6,vp 1 0),(7,vb (x2 == (za8 s i).1.from_))] [(1,.box ([.d (.raw (.int .i64 (kp:Int))),.d (.raw (.int .i64 (za8 s i).1.from_)),.d (.raw (.int .i64 (za8 s i).1.to_)),.d (.raw (.int .i64 (za8 s i).1.guard.kind)),.d (.sl 3 ((za8 s i).1.guard.r.t.parts.map za3.d))]++zi (za8 s i).1.guard.r.t.k++[.d (.raw (.bool (za8 s i).1.guard.r.eq)),.d (.sl 6 ((za8 s i).1.guard.kids.map za0.d)),.d (.sl 5 ((za8 s i).1.moves.map zad.d))]))] h fun a w h=>?_;refine qV ?_;refine zeb [.agg ([.d (.raw (.int .i64 (kp:Int))),.d (.raw (.int .i64 (za8 s i).1.from_)),.d (.raw (.int .i64 (za8 s i).1.to_)),.d (.raw (.int .i64 (za8 s i).1.guard.kind)),.d (.sl 3 ((za8 s i).1.guard.r.t.parts.map za3.d))]++zi (za8 s i).1.guard.r.t.k++[.d (.raw (.bool (za8 s i).1.guard.r.eq)),.d (.sl 6 ((za8 s i).1.guard.kids.map za0.d)),.d (.sl 5 ((za8 s i).1.moves.map zad.d))]),.c (.d (.raw (.bool (x2 == (za8 s i).1.from_))))] h Exit.ret (.inl rfl)  rfl ⟨RV.agg _ 1 0 _ _ _ _ ki_0 rfl rfl rfl rfl,RV.tmp _ _ rfl,trivial⟩ ?_;have hz:(zac s locs i).2=(x2 == (za8 s i).1.from_):=by show ((za8 s i).2 && begB s locs (za8 s i).1)=_;rw [hc1,Bool.true_and];unfold begB;rw [decide_eq_true (p:=locs.length=s.procs.length) (by have:=hc2;simp at this;omega),Bool.true_and,show (za8 s i).1.proc.toNat=kp by omega,hx2];rfl
   rw [hz,show (zac s locs i).1.proc=(kp:Int) from hkkp];try rfl
  have hc3':=hc3;(try simp at hc3');obtain ⟨kp,hkkp⟩:∃ k_:Nat,(za8 s i).1.proc=(k_:Int):=⟨_,(Int.toNat_of_nonneg ((ze0 hc1).1)).symm⟩;replace h:=h.conv (f':=F.of [(1,.t (.c (.d (.sl 1 (locs.map zai))))),(3,vp 0 0),(6,vp 1 0),(7,vb false),(8,vp 2 0),(9,vb true)] [(0,.box (zan s)),(1,.box [.d (.raw (.int .i64 0)),.d (.raw (.int .i64 0)),.d (.raw (.int .i64 0)),.d (.raw (.int .i64 0)),.d (.raw zaf),.d (.raw (.bool false)),.d (nsl []),.d (.raw (.bool false)),.d (.raw zaf),.d (.raw zaf)]),(2,.box ([.d (.raw (.int .i64 (kp:Int))),.d (.raw (.int .i64 (za8 s i).1.from_)),.d (.raw (.int .i64 (za8 s i).1.to_)),.d (.raw (.int .i64 (za8 s i).1.guard.kind)),.d (.sl 3 ((za8 s i).1.guard.r.t.parts.map za3.d))]++zi (za8 s i).1.guard.r.t.k++[.d (.raw (.bool (za8 s i).1.guard.r.eq)),.d (.sl 6 ((za8 s i).1.guard.kids.map za0.d)),.d (.sl 5 ((za8 s i).1.moves.map zad.d))]))]) (by rw [hkkp]);refine Jq 3 [(4,.len (za6 1 zai locs)),(7,.len (za6 3 zcg.d s.procs)),(8,.cmp (op:=.eql) (m:=(locs.length:Int)) (n:=(s.procs.length:Int)) (b:=false) .i64 hc3)] [(6,vp 1 0),(7,vb false)] [(1,.box ([.d (.raw (.int .i64 (kp:Int))),.d (.raw (.int .i64 (za8 s i).1.from_)),.d (.raw (.int .i64 (za8 s i).1.to_)),.d (.raw (.int .i64 (za8 s i).1.guard.kind)),.d (.sl 3 ((za8 s i).1.guard.r.t.parts.map za3.d))]++zi (za8 s i).1.guard.r.t.k++[.d (.raw (.bool (za8 s i).1.guard.r.eq)),.d (.sl 6 ((za8 s i).1.guard.kids.map za0.d)),.d (.sl 5 ((za8 s i).1.moves.map zad.d))]))] h fun a w h=>?_;refine qV ?_;refine zeb [.agg ([.d (.raw (.int .i64 (kp:Int))),.d (.raw (.int .i64 (za8 s i).1.from_)),.d (.raw (.int .i64 (za8 s i).1.to_)),.d (.raw (.int .i64 (za8 s i).1.guard.kind)),.d (.sl 3 ((za8 s i).1.guard.r.t.parts.map za3.d))]++zi (za8 s i).1.guard.r.t.k++[.d (.raw (.bool (za8 s i).1.guard.r.eq)),.d (.sl 6 ((za8 s i).1.guard.kids.map za0.d)),.d (.sl 5 ((za8 s i).1.moves.map zad.d))]),.c (.d (.raw (.bool false)))] h Exit.ret (.inl rfl)  rfl ⟨RV.agg _ 1 0 _ _ _ _ ki_0 rfl rfl rfl rfl,RV.tmp _ _ rfl,trivial⟩ ?_;have hz:(zac s locs i).2=(false):=by show ((za8 s i).2 && begB s locs (za8 s i).1)=_;rw [hc1,Bool.true_and];unfold begB;rw [decide_eq_false (p:=locs.length=s.procs.length) (by have:=hc3;simp at this;omega),Bool.false_and]
  rw [hz,show (zac s locs i).1.proc=(kp:Int) from hkkp];try rfl
 rw [hc4] at h;refine Jq 3 [] [(6,vp 1 0),(7,vb false)] [(1,.box ([.d (.raw (.int .i64 (za8 s i).1.proc)),.d (.raw (.int .i64 (za8 s i).1.from_)),.d (.raw (.int .i64 (za8 s i).1.to_)),.d (.raw (.int .i64 (za8 s i).1.guard.kind)),.d (.sl 3 ((za8 s i).1.guard.r.t.parts.map za3.d))]++zi (za8 s i).1.guard.r.t.k++[.d (.raw (.bool (za8 s i).1.guard.r.eq)),.d (.sl 6 ((za8 s i).1.guard.kids.map za0.d)),.d (.sl 5 ((za8 s i).1.moves.map zad.d))]))] h fun a w h=>?_;refine qV ?_;refine zeb [.agg ([.d (.raw (.int .i64 (za8 s i).1.proc)),.d (.raw (.int .i64 (za8 s i).1.from_)),.d (.raw (.int .i64 (za8 s i).1.to_)),.d (.raw (.int .i64 (za8 s i).1.guard.kind)),.d (.sl 3 ((za8 s i).1.guard.r.t.parts.map za3.d))]++zi (za8 s i).1.guard.r.t.k++[.d (.raw (.bool (za8 s i).1.guard.r.eq)),.d (.sl 6 ((za8 s i).1.guard.kids.map za0.d)),.d (.sl 5 ((za8 s i).1.moves.map zad.d))]),.c (.d (.raw (.bool false)))] h Exit.ret (.inl rfl)  rfl ⟨RV.agg _ 1 0 _ _ _ _ ki_0 rfl rfl rfl rfl,RV.tmp _ _ rfl,trivial⟩ ?_;have hz:(zac s locs i).2=(false):=by show ((za8 s i).2 && begB s locs (za8 s i).1)=_;rw [hc4,Bool.false_and]
 rw [hz];try rfl
theorem Lstuck (s:zar) (locs:List Int) (hs:zba 3 s) (hw:zhk s) (hl:locs.length<=9223372036854775807):Fn Tryz.prog 41 [] [vG (zan s),(vIs locs)] (vF (zbf s locs)) []:=by
 have las:=hs.acts;have lsn:=zbz (zfn s locs) (stkS_len s locs) s.acts.length;refine Fn.body Tryz.func41 rfl 33 rfl fun w H B a h=>Jq 5 [] [(1,(vIs locs)),(2,vp 5 0),(4,vp 6 0)] [(5,.box (zan s)),(6,.box zF0)] h fun a w h=>Je 7 [] [] [(5,vW zaf)] h fun a w h=>qW (Je 7 [(2,.len (za6 10 zbi.d s.acts))] [] [(11,vN s.acts.length),(12,vI 0)] h fun a w h=>qZ ?_)
 replace h:=zew 5 0 7 6 35 (vW zaf) [(1,(vIs locs)),(2,vp 5 0),(4,vp 6 0),(5,vO 7 0),(11,vN s.acts.length),(12,vI 0)] [(5,.box (zan s)),(6,.box zF0),(7,.row 35 6 ([].map za0.d))] h (by kernel_rfl) rfl rfl
 refine zaq (ι:=(Nat)) (fun j=>j<=s.acts.length)
   (fun j=>[(1,(vIs locs)),(2,vp 5 0),(4,vp 6 0),(5,vO 7 ((List.range j).flatMap (zfn s locs)).length),(11,vN s.acts.length),(12,vN j)])
   (fun j=>[(5,.box (zan s)),(6,.box zF0),(7,.row 35 6 (((List.range j).flatMap (zfn s locs)).map za0.d))])
   (fun j=>s.acts.length - j) 0 ?_ h (by kernel_rfl) (by kernel_rfl) ?_
 ·exact Nat.zero_le _
 clear h;rintro j a w hI h;have lsj:=zbz (zfn s locs) (stkS_len s locs) j;refine Je 8 [] [] [(13,vb (decide ((j:Int)<(s.acts.length:Int))))] h fun a w h=>qW (zam ((j:Int)<(s.acts.length:Int)) h (fun hc1 hc1'=>?_) (fun hc4 hc4'=>?_))
 ·refine qU (za1 (qW (qZ (Je 8 [] [13] [(6,vN j)] h fun a w h=>Jd 8 [(3,.call (Lbegins s locs (j:Int) hs hl) md3_12)] [6] [(7,vp 8 0),(8,vb (zac s locs (j:Int)).2)] [(5,.box (zan s)),(6,.box zF0),(7,.row 35 6 (((List.range j).flatMap (zfn s locs)).map za0.d)),(8,.box ([cI (zac s locs (j:Int)).1.proc,cI (zac s locs (j:Int)).1.from_,cI (zac s locs (j:Int)).1.to_,cI (zac s locs (j:Int)).1.guard.kind,cPs (zac s locs (j:Int)).1.guard.r.t.parts]++zi (zac s locs (j:Int)).1.guard.r.t.k++[cB (zac s locs (j:Int)).1.guard.r.eq,cFs (zac s locs (j:Int)).1.guard.kids,.d (.sl 5 ((zac s locs (j:Int)).1.moves.map zad.d))]))] h fun a w h=>Je 9 [] [8] [(22,vb (zac s locs (j:Int)).2)] h fun a w h=>cS (zac s locs (j:Int)).2 h (fun hc2=>?_) (fun hc3=>?_)))))
  ·refine Jm 9 [(3,.call (Lcan s (zac s locs (j:Int)).1 hs (zbj hs _) (zeg hw _)) md3_9),(4,.call (LDeny (zgu s (zac s locs (j:Int)).1) (za0.okB_mono (by decide) (by decide) _ (zi8 hs (zbj hs _) (zeg hw _)))) le5_8),(5,.g (bD 28 ([(denyF (zgu s (zac s locs (j:Int)).1))].map za0.d) [(27,(vF (denyF (zgu s (zac s locs (j:Int)).1))))] zh7 (.cons (i:=0) (OV.tmp 27 _) (.nil)) (by simp only [List.map_cons,List.map_nil,List.flatten_cons,List.flatten_nil,List.append_nil,za0.d_eq];kernel_rfl) (by simp [za0.d_len]))),(6,.g (aD 29 23 28 7 9 ((List.range j).flatMap (zfn s locs)) [(denyF (zgu s (zac s locs (j:Int)).1))] za0.d la_7 (by simp [za0.d_len])))] [7,22] [(5,vO 9 (((List.range j).flatMap (zfn s locs))++[(denyF (zgu s (zac s locs (j:Int)).1))]).length)] [(5,.box (zan s)),(6,.box zF0),(9,.row 35 6 ((((List.range j).flatMap (zfn s locs))++[(denyF (zgu s (zac s locs (j:Int)).1))]).map za0.d))] h fun a w h=>za9 (za1 (Jf 10 [(0,.j1 j)] [] [(12,vI ((j:Int)+1))] h fun a w h=>za1 ?_));rw [show ((((List.range j).flatMap (zfn s locs))++[(denyF (zgu s (zac s locs (j:Int)).1))]):List za0)=((List.range (j+1)).flatMap (zfn s locs)) from (by rw [zbr (zfn s locs) j,show zfn s locs j=[denyF (zgu s (zac s locs (j:Int)).1)] from if_pos hc2];first | done | simp)] at h;replace h:=zec 9 7 [(1,(vIs locs)),(2,vp 5 0),(4,vp 6 0),(5,vO 7 ((List.range (j+1)).flatMap (zfn s locs)).length),(11,vN s.acts.length),(12,vI ((j:Int)+1))] [(5,.box (zan s)),(6,.box zF0),(7,.row 35 6 (((List.range (j+1)).flatMap (zfn s locs)).map za0.d))] h;refine zag (x:=j) (y:=j+1) h ?_ ?_
   ·have:=dT hc1;show j+1<=s.acts.length;omega
   show s.acts.length - (j+1)<s.acts.length - j;have:=dT hc1;omega
  refine qU (za9 (za1 (Jm 10 [(0,.j1 j)] [7,22] [(12,vI ((j:Int)+1))] [(5,.box (zan s)),(6,.box zF0),(7,.row 35 6 (((List.range j).flatMap (zfn s locs)).map za0.d))] h fun a w h=>za1 ?_)));replace h:=cv (fun z_:List za0=>F.of [(1,(vIs locs)),(2,vp 5 0),(4,vp 6 0),(5,vO 7 z_.length),(11,vN s.acts.length),(12,vI ((j:Int)+1))] [(5,.box (zan s)),(6,.box zF0),(7,.row 35 6 (z_.map za0.d))]) (show (((List.range j).flatMap (zfn s locs)):List za0)=((List.range (j+1)).flatMap (zfn s locs)) from (by rw [zbr (zfn s locs) j,show zfn s locs j=[] from if_neg (by rw [hc3];exact Bool.noConfusion)];first | done | simp)) h;refine zag (x:=j) (y:=j+1) h ?_ ?_
  ·have:=dT hc1;show j+1<=s.acts.length;omega
  show s.acts.length - (j+1)<s.acts.length - j;have:=dT hc1;omega
 refine wp_exit (zaa (zaa (za5 (za1 ?_))));replace h:=cv (fun z_:List za0=>F.of [(1,(vIs locs)),(2,vp 5 0),(4,vp 6 0),(5,vO 7 z_.length),(11,vN s.acts.length),(12,vN j),(13,vb (decide ((j:Int)<(s.acts.length:Int))))] [(5,.box (zan s)),(6,.box zF0),(7,.row 35 6 (z_.map za0.d))]) (show (((List.range j).flatMap (zfn s locs)):List za0)=((List.range s.acts.length).flatMap (zfn s locs)) from (by rw [show j=s.acts.length by have:=dF hc4;omega])) h;replace h:=ziv 7 6 35 (((List.range s.acts.length).flatMap (zfn s locs)).map za0.d) [(1,(vIs locs)),(2,vp 5 0),(4,vp 6 0),(5,(vFs ((List.range s.acts.length).flatMap (zfn s locs)))),(11,vN s.acts.length),(12,vN j),(13,vb (decide ((j:Int)<(s.acts.length:Int))))] [(5,.box (zan s)),(6,.box zF0)] h rfl (show zbx _ [((List.range s.acts.length).flatMap (zfn s locs)).length] from ⟨by first | exact (List.length_map _).symm | (simp;done) | (simp;omega),trivial⟩) trivial;refine Jq 10 [(1,.call (LAll ((List.range s.acts.length).flatMap (zfn s locs)) (fun g hg=>za0.okB_mono (by decide) (by decide) _ (zcn (fun v _=>stkS_ok hs hw locs v) g hg)) (by omega)) zii)] [(4,vp 6 0)] [(6,.box (zF (zbf s locs)))] h fun a w h=>qV (rA 6 (zF (zbf s locs)) h zch rfl ?_);rfl
theorem LStuck (s:zar) (locs:List Int) (k:Nat) (hs:zba 3 s) (hw:zhk s) (hl:locs.length<=9223372036854775807) (hk:k<=4096):Fn Tryz.prog 22 [] [vG (zan s),(vIs locs),vN k] (vF (atF s (zbf s locs) k)) []:=by
 refine Fn.body Tryz.func22 rfl 13 rfl fun w H B a h=>Jq 0 [] [(1,(vIs locs)),(2,vN k),(3,vp 0 0),(6,vp 1 0)] [(0,.box (zan s)),(1,.box zF0)] h fun a w h=>Jq 2 [(3,.call (Lstuck s locs hs hw hl) md3_15),(5,.call (Lat s (zbf s locs) k hs hk (za0.okB_mono (by decide) (by decide) _ (stkF_ok hs hw locs))) md3_4)] [(6,vp 1 0)] [(1,.box (zF (atF s (zbf s locs) k)))] h fun a w h=>qV (rA 1 (zF (atF s (zbf s locs) k)) h zch rfl ?_)
 rfl
end S
end Go.Proofs.YtckmanpooapkpaaGreat
section
namespace Go.Proofs
open Go.Shelf

end Go.Proofs
end
namespace Go.Proofs.YtckmanpooapkpaaGreat
namespace S
theorem mask_mod (m:Int) (k:Nat) (hk:k<=62):IntKind.i64.wrap ((BitVec.ofInt 64 m &&& BitVec.ofInt 64 (((2 ^ k - 1:Nat):Int))).toNat:Int)=m % ((2 ^ k:Nat):Int):=by
 have hp:2 ^ k<=2 ^ 62:=Nat.pow_le_pow_right (by decide) hk
 have h0:0<2 ^ k:=Nat.pos_of_ne_zero (by simp)
 have h62:(2:Nat) ^ 62=4611686018427387904:=by decide
 have h1:(BitVec.ofInt 64 (((2 ^ k - 1:Nat):Int))).toNat=2 ^ k - 1:=by
  rw [BitVec.toNat_ofInt,Int.emod_eq_of_lt (by omega) (by omega)];simp
 have hdvd:((2 ^ k:Nat):Int)∣((2 ^ 64:Nat):Int):=Int.natCast_dvd_natCast.2 (Nat.pow_dvd_pow 2 (by omega))
 have h2:((BitVec.ofInt 64 m &&& BitVec.ofInt 64 (((2 ^ k - 1:Nat):Int))).toNat:Int)=m % ((2 ^ k:Nat):Int):=by
  rw [BitVec.toNat_and,h1,Nat.and_two_pow_sub_one_eq_mod,BitVec.toNat_ofInt,Int.natCast_emod,Int.toNat_of_nonneg (Int.emod_nonneg _ (by simp))]
  exact Int.emod_emod_of_dvd m hdvd
 have h3:=Int.emod_nonneg m (show ((2 ^ k:Nat):Int)≠0 by omega)
 have h4:=Int.emod_lt_of_pos m (show (0:Int)<((2 ^ k:Nat):Int) by omega)
 rw [h2]
 exact i64_id (by omega) (by omega)
section
variable {P:Program}
theorem Op.mask {d:Nat} {x y:Operand} {m r:Int} {n:Int} (k:Nat) {rs rs':List (Nat × V)} {xt yt ty:TypeId} {pos af gd} (h:OV x (vi .i64 m) rs) (h':OV y (vi .i64 n) rs') (hk:k<=62) (hn:n=((2 ^ k - 1:Nat):Int)) (he:m % ((2 ^ k:Nat):Int)=r) :
  zb7 P ⟨some d,.binOp .and xt x y yt,ty,pos,af,gd⟩ { rs:=rs++rs', ws:=[(d,some (vi .i64 r))] }:=by
 subst he hn
 refine Op.raw2 rfl h h' rfl fun ρ w h1 h2=>?_
 have hs:Op.intBits .and .i64 m ((2 ^ k - 1:Nat):Int)=pure (.int .i64 (m % ((2 ^ k:Nat):Int))):=by
  rw [<- mask_mod m k hk];rfl
 generalize ((2 ^ k - 1:Nat):Int)=c at h2 hs
 generalize m % ((2 ^ k:Nat):Int)=q at hs ⊢
 simp [execOp,h1,h2,eqGuard,binOp,hs,go_sem]
end
theorem hc_14:za4 Tryz.prog 73:=za4.mk' (by kernel_rfl)
section
open Go.RowKit Go.Sort
end
end S
theorem zh0 {x y:Int} (hx:-1<=x/\x<=1) (hy:-1<=y/\y<=1):-1<=x*y/\x*y<=1:=by
 have h1:x=-1\/x=0\/x=1:=by omega
 rcases h1 with rfl | rfl | rfl <;> omega
theorem val_two (x:Nat):nV [x % 4294967296,x / 4294967296]=x:=by simp only [nV];omega
namespace S
theorem ls19_8:za4 Tryz.prog 36:=za4.mk' (by kernel_rfl)
theorem LR5Atom (r:zb0) (hr:TOk 1000 10000 r.t):Fn Tryz.prog 36 [] [(vR r)] (vF (zd7 r)) []:=by
 refine Fn.body Tryz.func36 rfl 10 rfl fun w H B a h=>Jq 0 [] [(1,vp 0 0),(2,vp 1 0)] [(0,.box (zR_ r)),(1,.box zF0)] h fun a w h=>Jd 2 [(2,.call (SRPlain' r.t hr (by decide) (by decide)) tc_2)] [1] [] [(1,.box ([cI 2,cPs (za2 r.t).parts]++zi (za2 r.t).k++[cB r.eq,.d (.raw zaf)]))] h fun a w h=>qV ?_
 replace h:=zbm 1 5 6 ([cI 2,cPs (za2 r.t).parts]++zi (za2 r.t).k++[cB r.eq,.d (.raw zaf)]) [(2,vp 1 0)] [(1,.box ([cI 2,cPs (za2 r.t).parts]++zi (za2 r.t).k++[cB r.eq,cFs []]))] h rfl rfl;refine rA 1 ([cI 2,cPs (za2 r.t).parts]++zi (za2 r.t).k++[cB r.eq,cFs []]) h zch rfl ?_;rfl
theorem kid_okA2 {n L:Nat} {f g:za0} (h:f.okA n L) (hg:g ∈ f.kids):g.okA n L:=((za0.okA_eq _ _ _).1 h).2 g hg
theorem kid_nodes9 {f g:za0} (hg:g ∈ f.kids):g.nodes<=f.nodes:=by
 rw [za0.nodes_eq f]
 obtain ⟨j,hj⟩:=List.getElem?_of_mem hg
 have:=take_sum f.kids j hj;omega
theorem me4_2:za4 Tryz.prog 93:=za4.mk' (by kernel_rfl)
theorem me4_8:za4 Tryz.prog 58:=za4.mk' (by kernel_rfl)
def hasV (t:zak) (v:Int):Bool:=sgn (zao t.parts v) != 0
def forgK (vs:List Int) (k:Int) (r:zb0) (ks cs:List za0):za0:=if k=2 then (if vs.any (hasV r.t)=true then zcq true else ⟨k,r,ks⟩) else ⟨k,zR,cs⟩
def za0.forg (vs:List Int) (f:za0):za0:=f.fold (forgK vs)
theorem za0.forg_eq (vs:List Int) (f:za0):f.forg vs=forgK vs f.kind f.r f.kids (f.kids.map (za0.forg vs)):=za0.fold_eq _ f
theorem forg_t {vs:List Int} {f:za0} (h:f.kind=2) (k:vs.any (hasV f.r.t)=true):f.forg vs=zcq true:=by rw [za0.forg_eq];unfold forgK;rw [if_pos h,if_pos k]
theorem forg_f {vs:List Int} {f:za0} (h:f.kind=2) (k:vs.any (hasV f.r.t)=false):f.forg vs=f:=by rw [za0.forg_eq];unfold forgK;rw [if_pos h,k,if_neg Bool.noConfusion];cases f;rfl
theorem forg_k {vs:List Int} {f:za0} (h:¬ f.kind=2):f.forg vs=⟨f.kind,zR,f.kids.map (za0.forg vs)⟩:=by rw [za0.forg_eq];unfold forgK;rw [if_neg h]
def zea (c:zbi) (n:Nat):List Int:=(List.range n).flatMap fun v=>if (zbu c v).2=true then [(v:Int)] else []
def zdv (c:zbi) (n:Nat):List zak:=(List.range n).flatMap fun v=>if (zbu c v).2=true then [(zbu c v).1] else []
def zds (c:zbi) (n:Nat):List Int:=(List.range n).flatMap fun v=>if (zbu c v).2=true then [] else [(v:Int)]
def preF (s:zar) (act:Int) (f:za0):za0:=if act=-1 then zc7 [f] else if (za8 s act).2=true then zc7 [zgu s (za8 s act).1,((f.flat false).forg (zds (za8 s act).1 s.vars.length)).each (zc6 (zea (za8 s act).1 s.vars.length) (zdv (za8 s act).1 s.vars.length))] else zcq false
theorem pre_len (c:zbi) (n:Nat):(zea c n).length<=n/\(zdv c n).length<=n/\(zds c n).length<=n:=by
 have:=zbz (fun v=>if (zbu c v).2=true then [(v:Int)] else []) (m:=1) (fun v=>by split <;> simp) n
 have:=zbz (fun v=>if (zbu c v).2=true then [(zbu c v).1] else []) (m:=1) (fun v=>by split <;> simp) n
 have:=zbz (fun v=>if (zbu c v).2=true then [] else [(v:Int)]) (m:=1) (fun v=>by split <;> simp) n
 unfold zea zdv zds
 omega
theorem pre_at (c:zbi) (j:Nat):zea c (j+1)=zea c j++(if (zbu c j).2=true then [(j:Int)] else [])/\zdv c (j+1)=zdv c j++(if (zbu c j).2=true then [(zbu c j).1] else [])/\zds c (j+1)=zds c j++(if (zbu c j).2=true then [] else [(j:Int)]) :=
 ⟨zbr _ j,zbr _ j,zbr _ j⟩
theorem preB_ok {c:zbi} (hc:zgd 3 c) (n:Nat):∀ b ∈ zdv c n,zgb b:=zcn fun v _ b hb=>by
 split at hb
 ·rw [List.mem_singleton.1 hb];exact (zhm hc v).mono (by decide) (Nat.le_refl _)
 ·cases hb
theorem forg_ok {n L:Nat} (vs:List Int) (f:za0):f.okA n L->f.nodes<=1000000->(f.forg vs).okB n L :=
 za0.ind (P:=fun f=>f.okA n L->f.nodes<=1000000->(f.forg vs).okB n L) (fun k r ks ih hf hn=>by
  obtain ⟨h1,h2⟩:=(za0.okA_eq _ _ _).1 hf
  have hk:=zhw ⟨k,r,ks⟩
  change ks.length+1<=_ at hk
  rw [za0.forg_eq]
  show (forgK vs k r ks (ks.map (za0.forg vs))).okB n L
  unfold forgK
  split
  ·rename_i e
   split
   ·exact zhs _ _ _
   ·rw [za0.okB_eq]
    refine ⟨⟨h1,by show ks.length<=_;omega,?_⟩,fun g hg=>?_⟩
    ·show (cnt k ks).length<=_;rw [e];exact Nat.zero_le _
    ·change g ∈ cnt k ks at hg;rw [e] at hg;cases hg
  ·rename_i e
   exact zjc e (by rw [List.length_map];omega) fun g hg=>by
    obtain ⟨q,hq,rfl⟩:=List.mem_map.1 hg
    exact ih q hq (h2 q hq) (Nat.le_trans (kid_nodes9 (f:=⟨k,r,ks⟩) hq) hn)) f
theorem Lforget1 (v:Int) (f:za0) (hf:TOk 300 3000 f.r.t):Fn Tryz.prog 93 [(0,.box (zF f))] [vI v,vp 0 0] (vb (hasV f.r.t v)) [(0,.box (zF f))]:=by
 refine Fn.body Tryz.func93 rfl 9 rfl fun w H B a h=>Jq 6 [] [(0,vI v),(1,vp 0 0),(3,vb false)] [(0,.box (zF f))] h fun a w h=>Jp 6 [(4,.call (SHas f.r.t v hf (by decide) (by decide)) ty_10)] [(3,vb (hasV f.r.t v))] h fun a w h=>qV (rT (.c (cB (hasV f.r.t v))) h rfl ?_)
 rfl
theorem SIdxFG (pr:Int->Bool) (xs:List Int) (f:za0) (hf:∀ x ∈ xs,Fn Tryz.prog 93 [(0,.box (zF f))] [vI x,vp 0 0] (vb (pr x)) [(0,.box (zF f))]) (hl:xs.length<=9223372036854775807):Fn Tryz.prog 123 [(0,.box (zF f))] [(vIs xs),.t (.c (.fn (.func 93) [] [.ptr 0 0]))] (vI (zdx pr xs 0)) [(0,.box (zF f))]:=by
 refine Fn.body Tryz.func123 rfl 19 rfl fun w H B a h=>Jq 5 [] [(0,(vIs xs)),(1,.t (.c (.fn (.func 93) [] [.ptr 0 0]))),(4,vI 0)] [(0,.box (zF f))] h fun a w h=>qW (Je 5 [(1,.len (za6 1 zai xs))] [] [(7,vN xs.length),(8,vI 0)] h fun a w h=>qZ ?_)
 refine zaq (ι:=(Nat)) (fun j=>j<=xs.length/\zdx pr xs 0=zdx pr (xs.drop j) j)
   (fun j=>[(0,(vIs xs)),(1,.t (.c (.fn (.func 93) [] [.ptr 0 0]))),(7,vN xs.length),(8,vN j)])
   (fun j=>[(0,.box (zF f))])
   (fun j=>xs.length - j) 0 ?_ h (by kernel_rfl) (by kernel_rfl) ?_
 ·exact ⟨Nat.zero_le _,rfl⟩
 clear h;rintro j a w hI h;obtain ⟨hI1,hI2⟩:=hI;refine Je 5 [] [] [(9,vb (decide ((j:Int)<(xs.length:Int))))] h fun a w h=>qW (zam ((j:Int)<(xs.length:Int)) h (fun hc1 hc1'=>?_) (fun hc4 hc4'=>?_))
 ·refine qU (za1 (qW (qZ (Je 5 [] [9] [(5,vN j)] h fun a w h=>?_))));obtain ⟨x1,hx1⟩:=gl xs j;refine Je 5 [(3,.g (xD 14 12 zfm (zab hx1 (f:=zai)) (OV.tmp 13 _))),(5,.g (Op.callV (d:=16) (t:=11) (cap:=[.ptr 0 0]) (args:=[vI x1]) (rs:=[(15,vI x1)]) (tys:=#[3]) (hf x1 (lM hx1)) me4_2 (OVs.cons (OV.tmp 15 _) (OVs.nil))))] [] [(16,vb (pr x1))] h fun a w h=>cS (pr x1) h (fun hc2=>?_) (fun hc3=>?_)
  ·refine Je 5 [] [5,16] [(4,vN j)] h fun a w h=>qV (zae (za7 (za7 (zae (za7 (rT (.c (cI (j:Int))) h rfl ?_))))));have hz:zdx pr xs 0=(j:Int):=by rw [hI2,zhz hx1,if_pos hc2]
   rw [hz];try rfl
  refine qU (za9 (za1 (Jf 5 [(0,.j1 j)] [5,16] [(8,vI ((j:Int)+1))] h fun a w h=>za1 (zag (x:=j) (y:=j+1) h ?_ ?_))))
  ·exact ⟨by have:=zaj hx1;omega,by rw [hI2,zhz hx1,if_neg (by rw [hc3];exact Bool.noConfusion)]⟩
  (try simp);omega
 refine wp_exit (zaa (zaa (za5 (za1 (Jp 5 [] [(4,vI (-1))] h fun a w h=>qV (rT (.c (cI (-1))) h rfl ?_))))));have hz:zdx pr xs 0=-1:=by rw [hI2,List.drop_of_length_le (by omega)];rfl
 rw [hz];try rfl
theorem SAnyFG (pr:Int->Bool) (xs:List Int) (f:za0) (hf:∀ x ∈ xs,Fn Tryz.prog 93 [(0,.box (zF f))] [vI x,vp 0 0] (vb (pr x)) [(0,.box (zF f))]) (hl:xs.length<=9223372036854775807):Fn Tryz.prog 92 [(0,.box (zF f))] [(vIs xs),.t (.c (.fn (.func 93) [] [.ptr 0 0]))] (vb (xs.any pr)) [(0,.box (zF f))]:=by
 refine Fn.body Tryz.func92 rfl 9 rfl fun w H B a h=>Jq 5 [] [(0,(vIs xs)),(1,.t (.c (.fn (.func 93) [] [.ptr 0 0]))),(4,vb false)] [(0,.box (zF f))] h fun a w h=>Jp 5 [(2,.call (SIdxFG pr xs f hf  hl) kg_7)] [(4,vb (decide (zdx pr xs 0>=0)))] h fun a w h=>qV (rT (.c (cB (decide (zdx pr xs 0>=0)))) h rfl ?_)
 rw [<- idxB_any];try rfl
theorem rel_okF {f:za0} {n L:Nat} (h:f.okA n L) (e:f.kind=2):TOk n L f.r.t:=((za0.okA_eq _ _ _).1 h).1 e
theorem Lforget0 (f:za0) (vs:List Int) (ih:∀ g ∈ f.kids,Fn Tryz.prog 58 [] [(vF g),(vIs vs)] (vF (za0.forg vs g)) []) (hf:f.okA 300 3000) (hn:f.nodes<=1000000) (hlv:vs.length<=9223372036854775807):Fn Tryz.prog 58 [] [(vF f),(vIs vs)] (vF (za0.forg vs f)) []:=by
 have lkn:=zhw f;refine Fn.body Tryz.func58 rfl 36 rfl fun w H B a h=>Jq 0 [] [(1,(vIs vs)),(2,vp 0 0),(4,vp 1 0)] [(0,.box (zF f)),(1,.box zF0)] h fun a w h=>qW (Je 2 [] [] [(10,vb (f.kind == 2))] h fun a w h=>cS (f.kind == 2) h (fun hc1=>?_) (fun hc4=>?_))
 ·have hc1':=hc1;(try simp at hc1');refine qW (Je 2 [(1,.g (Op.makeFs (d:=12) (fn:=.func 93) [(2,0,0)])),(2,.call (SAnyFG (hasV f.r.t) vs f (fun v _=>Lforget1 v f (rel_okF hf (by have:=hc1;simpa using this))) hlv) kg_8)] [10] [(13,vb (vs.any (hasV f.r.t)))] h fun a w h=>cS (vs.any (hasV f.r.t)) h (fun hc2=>?_) (fun hc3=>?_))
  ·refine Jd 2 [(0,.call (zfz true) la_8)] [13] [] [(0,.box (zF f)),(1,.box (zF (zcq true)))] h fun a w h=>qV (za7 (za7 (rA 1 (zF (zcq true)) h zch rfl ?_)));rw [forg_t (by have:=hc1;simpa using this) hc2];try rfl
  refine qU (za1 (Jd 2 [] [13] [] [(0,.box (zF f)),(1,.box (zF f))] h fun a w h=>qV (za7 (rA 1 (zF f) h zch rfl ?_))));rw [forg_f (by have:=hc1;simpa using this) hc3];try rfl
 have hc4':=hc4;(try simp at hc4');refine qU (za1 (Jd 2 [] [10] [(5,vp 2 0)] [(0,.box (zF f)),(1,.box zF0),(2,.box [cI f.kind,.d (.raw zaf),cB false,.d (nsl []),cB false,.d (.raw zaf)])] h fun a w h=>qW (Jd 3 [(2,.len (za6 6 za0.d f.kids))] [2] [(20,(vFs f.kids)),(21,vN f.kids.length),(22,vI 0)] [(1,.box zF0),(2,.box [cI f.kind,.d (.raw zaf),cB false,.d (nsl []),cB false,.d (.raw zaf)])] h fun a w h=>qZ ?_)));replace h:=nilOLs 2 5 3 6 35 [cI f.kind,.d (.raw zaf),cB false,.d (nsl []),cB false,.d (.raw zaf)] [(1,(vIs vs)),(4,vp 1 0),(5,vp 2 0),(20,(vFs f.kids)),(21,vN f.kids.length),(22,vI 0)] [(1,.box zF0),(2,.box [cI f.kind,.d (.raw zaf),cB false,.d (nsl []),cB false,.own 3 0]),(3,.row 35 6 ([].map za0.d))] h (by kernel_rfl) rfl rfl
 refine zaq (ι:=(Nat)) (fun j=>j<=f.kids.length)
   (fun j=>[(1,(vIs vs)),(4,vp 1 0),(5,vp 2 0),(20,(vFs f.kids)),(21,vN f.kids.length),(22,vN j)])
   (fun j=>[(1,.box zF0),(2,.box [cI f.kind,.d (.raw zaf),cB false,.d (nsl []),cB false,.own 3 ((f.kids.take j).map (za0.forg vs)).length]),(3,.row 35 6 (((f.kids.take j).map (za0.forg vs)).map za0.d))])
   (fun j=>f.kids.length - j) 0 ?_ h (by kernel_rfl) (by kernel_rfl) ?_
 ·exact Nat.zero_le _
 clear h;rintro j a w hI h;have lmj:((f.kids.take j).map (za0.forg vs)).length<=j:=by rw [List.length_map,List.length_take];omega
 refine Je 4 [] [] [(23,vb (decide ((j:Int)<(f.kids.length:Int))))] h fun a w h=>qW (zam ((j:Int)<(f.kids.length:Int)) h (fun hc5 hc5'=>?_) (fun hc6 hc6'=>?_))
 ·refine qU (za1 (qW (qZ ?_)));obtain ⟨x3,hx3⟩:=gl f.kids j;refine Jd 4 [(0,.g (xD 24 20 ziz ((zab hx3 (f:=za0.d)).trans (congrArg some (za0.d_eq x3))) (OV.tmp 22 _)))] [23] [(7,vp 4 0)] [(1,.box zF0),(2,.box [cI f.kind,.d (.raw zaf),cB false,.d (nsl []),cB false,.own 3 ((f.kids.take j).map (za0.forg vs)).length]),(3,.row 35 6 (((f.kids.take j).map (za0.forg vs)).map za0.d)),(4,.box (zF x3))] h fun a w h=>Jm 5 [(4,.call (ih x3 (lM hx3)) me4_8),(5,.g (bD 31 ([(za0.forg vs x3)].map za0.d) [(30,(vF (za0.forg vs x3)))] zh7 (.cons (i:=0) (OV.tmp 30 _) (.nil)) (by simp only [List.map_cons,List.map_nil,List.flatten_cons,List.flatten_nil,List.append_nil,za0.d_eq];kernel_rfl) (by simp [za0.d_len]))),(6,.g (aD 32 27 31 3 5 ((f.kids.take j).map (za0.forg vs)) [(za0.forg vs x3)] za0.d la_7 (by simp [za0.d_len])))] [7] [] [(1,.box zF0),(2,.box ([cI f.kind,.d (.raw zaf),cB false,.d (nsl []),cB false,.own 5 (((f.kids.take j).map (za0.forg vs))++[(za0.forg vs x3)]).length])),(5,.row 35 6 ((((f.kids.take j).map (za0.forg vs))++[(za0.forg vs x3)]).map za0.d))] h fun a w h=>za9 (za1 (Jf 6 [(0,.j1 j)] [] [(22,vI ((j:Int)+1))] h fun a w h=>za1 ?_));rw [show ((((f.kids.take j).map (za0.forg vs))++[(za0.forg vs x3)]):List za0)=((f.kids.take (j+1)).map (za0.forg vs)) from (zg8 hx3)] at h;replace h:=zec 5 3 [(1,(vIs vs)),(4,vp 1 0),(5,vp 2 0),(20,(vFs f.kids)),(21,vN f.kids.length),(22,vI ((j:Int)+1))] [(1,.box zF0),(2,.box [cI f.kind,.d (.raw zaf),cB false,.d (nsl []),cB false,.own 3 ((f.kids.take (j+1)).map (za0.forg vs)).length]),(3,.row 35 6 (((f.kids.take (j+1)).map (za0.forg vs)).map za0.d))] h;refine zag (x:=j) (y:=j+1) h ?_ ?_
  ·have:=zaj hx3;show j+1<=f.kids.length;omega
  show f.kids.length - (j+1)<f.kids.length - j;have:=zaj hx3;omega
 refine wp_exit (zaa (zaa (za5 (za1 (Jq 6 [] [(4,vp 1 0)] [(1,.box [cI f.kind,.d (.raw zaf),cB false,.d (nsl []),cB false,.own 3 ((f.kids.take j).map (za0.forg vs)).length]),(3,.row 35 6 (((f.kids.take j).map (za0.forg vs)).map za0.d))] h fun a w h=>qV ?_)))));rw [show (((f.kids.take j).map (za0.forg vs)):List za0)=(f.kids.map (za0.forg vs)) from (by rw [List.take_of_length_le (by omega)])] at h;replace h:=zbm 1 1 3 [cI f.kind,.d (.raw zaf),cB false,.d (nsl []),cB false,.own 3 (f.kids.map (za0.forg vs)).length] [(4,vp 1 0)] [(1,.box [cI f.kind,cPs [],cB false,.d (nsl []),cB false,.own 3 (f.kids.map (za0.forg vs)).length]),(3,.row 35 6 ((f.kids.map (za0.forg vs)).map za0.d))] h rfl rfl;replace h:=ziv 3 6 35 ((f.kids.map (za0.forg vs)).map za0.d) [(4,vp 1 0)] [(1,.box [cI f.kind,cPs [],cB false,.d (nsl []),cB false,cFs (f.kids.map (za0.forg vs))])] h rfl trivial (show zbx _ [(f.kids.map (za0.forg vs)).length] from ⟨by first | exact (List.length_map _).symm | (simp;done) | (simp;omega),trivial⟩);refine rA 1 [cI f.kind,cPs [],cB false,.d (nsl []),cB false,cFs (f.kids.map (za0.forg vs))] h zch rfl ?_;rw [forg_k (by have:=hc4;simpa using this)];try rfl
theorem Lforget (vs:List Int) (hlv:vs.length<=9223372036854775807) (f:za0):f.okA 300 3000->f.nodes<=1000000->Fn Tryz.prog 58 [] [(vF f),(vIs vs)] (vF (za0.forg vs f)) [] :=
 za0.ind (P:=fun f=>f.okA 300 3000->f.nodes<=1000000->Fn Tryz.prog 58 [] [(vF f),(vIs vs)] (vF (za0.forg vs f)) []) (fun k r ks ih hf hn=>Lforget0 ⟨k,r,ks⟩ vs (fun g hg=>ih g hg (kid_okA2 hf hg) (Nat.le_trans (kid_nodes9 (f:=⟨k,r,ks⟩) hg) hn)) hf hn hlv) f
theorem begA_proc {s:zar} {locs:List Int} {i:Int} (h:(zac s locs i).2=true):0<=(zac s locs i).1.proc/\(zac s locs i).1.proc<(locs.length:Int):=by
 have h:((za8 s i).2 && begB s locs (za8 s i).1)=true:=h
 rw [Bool.and_eq_true] at h
 have h2:=h.2
 unfold begB at h2
 rw [Bool.and_eq_true,decide_eq_true_eq] at h2
 obtain ⟨a,b⟩:=ze0 h.1
 exact ⟨a,by show (za8 s i).1.proc<_;omega⟩
theorem LPlaces (s:zar) (locs:List Int) (act:Int) (hs:zba 3 s) (hl:locs.length<=1000000):Fn Tryz.prog 11 [] [vG (zan s),(vIs locs),vI act] (.tup [.c (cIs (zbv s locs act).1),.c (cB (zbv s locs act).2)]) []:=by
 have hl9:locs.length<=9223372036854775807:=by omega
 refine Fn.body Tryz.func11 rfl 33 rfl fun w H B a h=>Jq 5 [] [(1,(vIs locs)),(2,vI act),(3,vp 5 0),(6,vW zaf),(7,vb false)] [(5,.box (zan s))] h fun a w h=>qW (Je 6 [] [] [(12,vb (act == (-1)))] h fun a w h=>cS (act == (-1)) h (fun hc1=>?_) (fun hc2=>?_))
 ·have hc1':=hc1;(try simp at hc1');refine Jd 6 [(1,.call (SCloneI locs hl) le5_0)] [12] [(6,vO 0 locs.length),(7,vb true)] [(5,.box (zan s)),(0,.row 3 1 (locs.map zai))] h fun a w h=>qV (za7 ?_);replace h:=ziv 0 1 3 (locs.map zai) [(1,(vIs locs)),(2,vI act),(3,vp 5 0),(6,(vIs locs)),(7,vb true)] [(5,.box (zan s))] h rfl (show zbx _ [locs.length] from ⟨by first | exact (List.length_map _).symm | (simp;done) | (simp;omega),trivial⟩) trivial;refine zeb [.c (cIs locs),.c (cB true)] h Exit.ret (.inl rfl)  rfl ⟨RV.tmp _ _ rfl,RV.tmp _ _ rfl,trivial⟩ ?_;have hz:zbv s locs act=(locs,true):=by unfold zbv;rw [if_pos (by have:=hc1;simpa using this)]
  rw [hz];try rfl
 have hc2':=hc2;(try simp at hc2');refine qU (za1 (Jd 6 [(3,.call (Lbegins s locs act hs hl9) md3_12)] [2,3,12] [(8,vp 6 0),(9,vb (zac s locs act).2)] [(6,.box ([cI (zac s locs act).1.proc,cI (zac s locs act).1.from_,cI (zac s locs act).1.to_,cI (zac s locs act).1.guard.kind,cPs (zac s locs act).1.guard.r.t.parts]++zi (zac s locs act).1.guard.r.t.k++[cB (zac s locs act).1.guard.r.eq,cFs (zac s locs act).1.guard.kids,.d (.sl 5 ((zac s locs act).1.moves.map zad.d))]))] h fun a w h=>qW (Je 7 [] [9] [(23,vb (!(zac s locs act).2))] h fun a w h=>cS (!(zac s locs act).2) h (fun hc3=>?_) (fun hc4=>?_))))
 ·have hc3':=hc3;(try simp at hc3');refine Je 7 [] [23] [] h fun a w h=>qV (za7 ?_);replace h:=nilDSs 6 0 1 (vW zaf) [(1,(vIs locs)),(6,(vIs [])),(7,vb false),(8,vp 6 0)] [(6,.box ([cI (zac s locs act).1.proc,cI (zac s locs act).1.from_,cI (zac s locs act).1.to_,cI (zac s locs act).1.guard.kind,cPs (zac s locs act).1.guard.r.t.parts]++zi (zac s locs act).1.guard.r.t.k++[cB (zac s locs act).1.guard.r.eq,cFs (zac s locs act).1.guard.kids,.d (.sl 5 ((zac s locs act).1.moves.map zad.d))]))] h rfl rfl;refine zeb [.c (cIs []),.c (cB false)] h Exit.ret (.inl rfl)  rfl ⟨RV.tmp _ _ rfl,RV.tmp _ _ rfl,trivial⟩ ?_;have hz:zbv s locs act=([],false):=by unfold zbv;rw [if_neg (by have:=hc2;simpa using this),if_neg (by rw [(show ((zac s locs act).2)=false from by simpa using hc3)];exact Bool.noConfusion)]
  rw [hz];try rfl
 have hc4':=hc4;(try simp at hc4');refine qU (za1 (Jd 7 [(1,.call (SCloneI locs hl) le5_0)] [1,23] [(10,vO 0 locs.length)] [(6,.box ([cI (zac s locs act).1.proc,cI (zac s locs act).1.from_,cI (zac s locs act).1.to_,cI (zac s locs act).1.guard.kind,cPs (zac s locs act).1.guard.r.t.parts]++zi (zac s locs act).1.guard.r.t.k++[cB (zac s locs act).1.guard.r.eq,cFs (zac s locs act).1.guard.kids,.d (.sl 5 ((zac s locs act).1.moves.map zad.d))])),(0,.row 3 1 (locs.map zai))] h fun a w h=>?_));obtain ⟨hbg1,hbg2⟩:=begA_proc (show ((zac s locs act).2)=true from by simpa using hc4);obtain ⟨kp,hkkp⟩:∃ k_:Nat,(zac s locs act).1.proc=(k_:Int):=⟨_,(Int.toNat_of_nonneg (hbg1)).symm⟩;replace h:=h.conv (f':=F.of [(6,vW zaf),(7,vb false),(8,vp 6 0),(10,vO 0 locs.length)] [(6,.box ([cI (kp:Int),cI (zac s locs act).1.from_,cI (zac s locs act).1.to_,cI (zac s locs act).1.guard.kind,cPs (zac s locs act).1.guard.r.t.parts]++zi (zac s locs act).1.guard.r.t.k++[cB (zac s locs act).1.guard.r.eq,cFs (zac s locs act).1.guard.kids,.d (.sl 5 ((zac s locs act).1.moves.map zad.d))])),(0,.row 3 1 (locs.map zai))]) (by rw [hkkp];kernel_rfl);obtain ⟨x4,hx4⟩:=gl locs kp;refine Jq 7 [(5,.g (xO 31 26 0 locs.length kp zfm (OV.tmp 28 _))),(6,.g (Op.storeR (t:=31) (n:=0) (i:=kp) (fo:=0) (rty:=3) (es:=1) (r:=zai x4) (ds:=[.raw (.int .i64 (zac s locs act).1.to_)]) (rs:=[(30,vI (zac s locs act).1.to_)]) (rows:=locs.map zai) (rows':=(locs.set kp (zac s locs act).1.to_).map zai) tl_7 (OV.tmp 30 _) rfl rfl rfl (zab hx4 (f:=zai)) (by simp [zai]) (zc5 (xs:=locs) (F:=zai) kp _ _ rfl)))] [(6,vW zaf),(7,vb false),(10,vO 0 locs.length)] [(0,.row 3 1 ((locs.set kp (zac s locs act).1.to_).map zai))] h fun a w h=>Jp 7 [] [(6,vO 0 locs.length),(7,vb true)] h fun a w h=>qV ?_;replace h:=ziv 0 1 3 ((locs.set kp (zac s locs act).1.to_).map zai) [(6,(vIs (locs.set kp (zac s locs act).1.to_))),(7,vb true)] [] h rfl (show zbx _ [locs.length] from ⟨by first | exact (List.length_map _).symm | (simp;done) | (simp;omega),trivial⟩) trivial;refine zeb [.c (cIs (locs.set kp (zac s locs act).1.to_)),.c (cB true)] h Exit.ret (.inl rfl)  rfl ⟨RV.tmp _ _ rfl,RV.tmp _ _ rfl,trivial⟩ ?_;have hz:zbv s locs act=((locs.set kp (zac s locs act).1.to_),true):=by unfold zbv;rw [if_neg (by have:=hc2;simpa using this),if_pos (show ((zac s locs act).2)=true from by simpa using hc4),show (zac s locs act).1.proc.toNat=kp by omega]
 rw [hz];try rfl
theorem mf5_8:za4 Tryz.prog 29:=za4.mk' (by kernel_rfl)
theorem mf5_11:za4 Tryz.prog 25:=za4.mk' (by kernel_rfl)
theorem sameI_end {xs ys:List Int} {j:Nat} (h:xs.length<=j) (hl:xs.length=ys.length) (hI:xs.take j=ys.take j):xs=ys:=by rwa [List.take_of_length_le h,List.take_of_length_le (by omega)] at hI
theorem sameI_at {xs ys:List Int} {j:Nat} {x y:Int} (hx:xs[j]?=some x) (hy:ys[j]?=some y) (hI:xs.take j=ys.take j) (e:x=y):xs.take (j+1)=ys.take (j+1):=by rw [List.take_add_one,List.take_add_one,hx,hy,hI,e]
theorem sameI_no {xs ys:List Int} {j:Nat} {x y:Int} (hx:xs[j]?=some x) (hy:ys[j]?=some y) (e:x≠y):xs≠ys:=fun h=>by subst h;rw [hx] at hy;injection hy with hy;exact e hy
theorem rel_psok {n L:Nat} {t:zak} (h:TOk n L t) (hn:n<=1000:=by decide) (hL:L<=40000:=by decide):PsOk 40000 t.parts:=⟨Nat.le_trans h.len hn,fun p hp=>⟨(h.ps p hp).1,Nat.le_trans (h.ps p hp).2 hL⟩⟩
def za0.vars (f:za0):List Int:=f.fold fun k r _ vs=>if k=2 then zby r.t.parts else (cnt k vs).foldl (fun a v=>v.foldl zdm a) []
theorem za0.vars_eq (f:za0):f.vars=if f.kind=2 then zby f.r.t.parts else (cnt f.kind f.kids).foldl (fun a g=>(za0.vars g).foldl zdm a) []:=by
 have:=za0.fold_eq (fun k r _ (vs:List (List Int))=>if k=2 then zby r.t.parts else (cnt k vs).foldl (fun a v=>v.foldl zdm a) []) f
 rw [zci,List.foldl_map] at this;exact this
theorem foldl_take_v {ks:List za0} {j:Nat} {g:za0} (h:ks[j]?=some g):(ks.take (j+1)).foldl (fun a g=>(za0.vars g).foldl zdm a) []=(za0.vars g).foldl zdm ((ks.take j).foldl (fun a g=>(za0.vars g).foldl zdm a) []):=by
 rw [List.take_add_one,h,List.foldl_append];rfl
theorem insF_len (vs a:List Int):(vs.foldl zdm a).length<=a.length+vs.length:=by
 induction vs generalizing a with
 | nil=>exact Nat.le_refl _
 | cons v vs ih=>rw [List.foldl_cons,List.length_cons];have:=ih (zdm a v);have:=zji a v;omega
theorem vf_len (gs:List za0) (a:List Int):(gs.foldl (fun a g=>(za0.vars g).foldl zdm a) a).length<=a.length+(gs.map fun g=>g.vars.length).sum:=by
 induction gs generalizing a with
 | nil=>simp
 | cons g gs ih =>
  rw [List.foldl_cons,List.map_cons,List.sum_cons]
  have h1:=ih (g.vars.foldl zdm a)
  have h2:=insF_len g.vars a
  omega
theorem sum_mul40 {F G:za0->Nat}:∀ {xs:List za0}, (∀ x ∈ xs,F x<=40*G x)->(xs.map F).sum<=40*(xs.map G).sum
 | [],_=>Nat.le_refl _
 | x :: xs,h=>by
  rw [List.map_cons,List.map_cons,List.sum_cons,List.sum_cons]
  have:=h x (List.mem_cons_self ..);have:=sum_mul40 (xs:=xs) fun y hy=>h y (List.mem_cons_of_mem _ hy);omega
theorem zf4 (f:za0):f.okB 40 400->f.vars.length<=40*f.wid :=
 za0.ind (P:=fun f=>f.okB 40 400->f.vars.length<=40*f.wid) (fun k r ks ih hf=>by
  rw [za0.vars_eq,za0.wid_eq]
  split
  ·rename_i e
   have h1:=zgv (za0.mk k r ks).r.t.parts
   have h2:=(((za0.okB_eq _ _ _).1 hf).1.1 e).len
   omega
  ·have h1:=vf_len (cnt k ks) []
   have h2:((cnt k ks).map fun g=>g.vars.length).sum<=40*((cnt k ks).map za0.wid).sum:=sum_mul40 fun g hg=>ih g (zb3 hg) (zey hf hg)
   show ((cnt k ks).foldl (fun a g=>(za0.vars g).foldl zdm a) []).length<=40*(3+((cnt k ks).map za0.wid).sum)
   simp only [List.length_nil] at h1
   omega) f
theorem vars_room {f x:za0} (hf:f.okB 40 400) {j:Nat} (hx:(cnt f.kind f.kids)[j]?=some x):(((cnt f.kind f.kids).take j).foldl (fun a g=>(za0.vars g).foldl zdm a) []).length+x.vars.length<=40*f.wid:=by
 have h1:=vf_len ((cnt f.kind f.kids).take j) []
 have h2:((cnt f.kind f.kids).map fun g=>g.vars.length).sum<=40*((cnt f.kind f.kids).map za0.wid).sum:=sum_mul40 fun g hg=>zf4 g (zey hf hg)
 have h3:=za0.wid_eq f
 have h4:(((cnt f.kind f.kids).take j).map fun g=>g.vars.length).sum+x.vars.length<=((cnt f.kind f.kids).map fun g=>g.vars.length).sum:=by
  obtain ⟨hj,rfl⟩:=List.getElem?_eq_some_iff.1 hx
  have e:(cnt f.kind f.kids)=(cnt f.kind f.kids).take j++(cnt f.kind f.kids)[j] :: (cnt f.kind f.kids).drop (j+1):=by rw [<- List.drop_eq_getElem_cons hj,List.take_append_drop]
  have e2:=congrArg (fun l:List za0=>(l.map fun g=>g.vars.length).sum) e
  simp only [List.map_append,List.sum_append,List.map_cons,List.sum_cons] at e2
  omega
 simp only [List.length_nil] at h1
 omega
def inB (s:zar) (f:za0):Bool:=match f.vars.getLast? with | none=>true | some v=>decide (v<(s.vars.length:Int))
def proB (s:zar):Bool:=inB s s.init && s.acts.all fun c=>inB s c.guard && c.moves.all fun m=>inB s (zd7 ⟨m.t,false⟩)
def smB (s:zar) (xs:List StD):Bool:=xs.all (zgc 3) && zbh 3 s
theorem last_at {vs:List Int} {j:Nat} {v:Int} (hj:vs[j]?=some v) (h:j+1=vs.length):vs.getLast?=some v:=by
 rw [List.getLast?_eq_getElem?, show vs.length - 1=j by omega];exact hj
theorem sndL {s:zar} {ki:Nat} {c:zbi} (h:s.acts[ki]?=some c):(za8 s (ki:Int)).2=zgf s c:=by
 unfold za8 zf2;rw [if_pos (by omega),Int.toNat_natCast,h]
theorem sndN {s:zar} {i:Int} (h:zf2 s i=none):(za8 s i).2=false:=by unfold za8;rw [h]
theorem LR4HoldsW (r:zb0) (vs:List ZI) {M:Nat} (hM:M<=300) (hv:VOk M vs) (hr:TOk 1000 1000 r.t):Fn Tryz.prog 40 [] [(vR r),(vZs vs)] (vb (relOk vs r)) []:=by
 refine Fn.body Tryz.func40 rfl 17 rfl fun w H B a h=>Jq 0 [] [(1,(vZs vs)),(2,vp 0 0),(4,vb false)] [(0,.box (zR_ r))] h fun a w h=>?_
 obtain ⟨r1,er1,vr1,or1,lr1⟩:=mkZ (v:=valT r.t vs) (m:=1600) (Nat.le_trans (valT_len hr (by decide) hv) (by omega));refine Je 1 [(3,.call (Fn.cast (SRValue r.t vs hr (by decide) (by omega) hv) (congrArg vz er1.symm)) ke_2),(4,.call (zdk r1 or1 (by omega)) ib_0)] [1] [(5,vI (sgn r1.val))] h fun a w h=>qW (Jd 1 [] [2] [(12,vb r.eq)] [] h fun a w h=>cS r.eq h (fun hc1=>?_) (fun hc2=>?_))
 ·refine Jd 1 [] [12] [(4,vb (sgn r1.val == 0))] [] h fun a w h=>qV (za7 (rT (.c (cB (sgn r1.val == 0))) h rfl ?_))
  have hz:relOk vs r=(sgn r1.val == 0):=by
   unfold relOk;rw [<- vr1]
   cases he:r.eq <;> simp_all <;> omega
  rw [hz];try rfl
 refine qU (za1 (Jq 1 [] [(4,vb (decide (sgn r1.val>=0)))] [] h fun a w h=>qV (rT (.c (cB (decide (sgn r1.val>=0)))) h rfl ?_)))
 have hz:relOk vs r=(decide (sgn r1.val>=0)):=by
  unfold relOk;rw [<- vr1]
  cases he:r.eq <;> simp_all <;> omega
 rw [hz];try rfl
theorem LR5HoldsW0 (f:za0) (vs:List ZI) {M:Nat} (ih:∀ g ∈ f.kids,g.okB 1000 1000->Fn Tryz.prog 12 [] [(vF g),(vZs vs)] (vb (za0.holds vs g)) []) (hM:M<=300) (hv:VOk M vs) (hf:f.okB 1000 1000):Fn Tryz.prog 12 [] [(vF f),(vZs vs)] (vb (f.holds vs)) []:=by
 have hk:=zd2 hf;refine Fn.body Tryz.func12 rfl 65 rfl fun w H B a h=>Jq 0 [] [(1,(vZs vs)),(2,vp 0 0),(4,vb false)] [(0,.box (zF f))] h fun a w h=>qW (Je 1 [] [] [(8,vI f.kind)] h fun a w h=>qZ (Je 1 [] [] [(9,vb (f.kind == 0))] h fun a w h=>cS (f.kind == 0) h (fun hc1=>?_) (fun hc2=>?_)))
 ·have hc1':=hc1;(try simp at hc1');refine Jq 1 [] [(4,vb true)] [] h fun a w h=>qV (zae (za7 (rT (.c (cB true)) h rfl ?_)));have hz:f.holds vs=(true):=by rw [za0.holds_eq,if_pos (by omega)];try rfl
  rw [hz];try rfl
 have hc2':=hc2;(try simp at hc2');refine Je 1 [] [9] [(11,vb (f.kind == 2))] h fun a w h=>cS (f.kind == 2) h (fun hc3=>?_) (fun hc4=>?_)
 ·have hc3':=hc3;(try simp at hc3');refine Jq 1 [(3,.call (LR4HoldsW f.r vs hM hv (((za0.okB_eq _ _ f).1 hf).1.1 (by omega))) ke_9)] [(4,vb (relOk vs f.r))] [] h fun a w h=>qV (zae (za7 (rT (.c (cB (relOk vs f.r))) h rfl ?_)));have hz:f.holds vs=(relOk vs f.r):=by rw [za0.holds_eq,if_neg (by omega),if_pos (by omega)];try rfl
  rw [hz];try rfl
 have hc4':=hc4;(try simp at hc4');refine Je 1 [] [11] [(17,vb (f.kind == 3))] h fun a w h=>cS (f.kind == 3) h (fun hc5=>?_) (fun hc8=>?_)
 ·have hc5':=hc5;(try simp at hc5')
  rcases Bool.eq_false_or_eq_true (decide ((f.kids.length:Int)>0)) with hc6 | hc7
  ·have hc6':=dT hc6;obtain ⟨x2,hx2⟩:=gl f.kids 0;refine Jq 1 [(2,.len (za6 6 za0.d f.kids)),(3,.cmp (op:=.gtr) (m:=(f.kids.length:Int)) (n:=0) (b:=true) .i64 hc6),(7,.g (xD 26 25 ziz ((zab hx2 (f:=za0.d)).trans (congrArg some (za0.d_eq x2))) (OV.const (.int .i64 0) rfl))),(10,.call (ih x2 (lM hx2) (zey hf (by unfold cnt;first | (rw [if_pos (by omega)];exact lM hx2) | (rw [if_neg (by omega),if_pos (by omega)];exact zh6 hx2)))) ke_10)] [(4,vb (!(za0.holds vs x2)))] [] h fun a w h=>qV (zae (za7 (rT (.c (cB (!(za0.holds vs x2)))) h rfl ?_)));have hz:f.holds vs=(!(za0.holds vs x2)):=by rw [za0.holds_eq,if_neg (by omega),if_neg (by omega),if_pos (by omega)];obtain ⟨tl,htl⟩:=cons_of_at hx2;rw [htl];try rfl
   rw [hz];try rfl
  have hc7':=dF hc7;refine Jq 1 [(2,.len (za6 6 za0.d f.kids)),(3,.cmp (op:=.gtr) (m:=(f.kids.length:Int)) (n:=0) (b:=false) .i64 hc7)] [(4,vb false)] [] h fun a w h=>qV (zae (za7 (rT (.c (cB false)) h rfl ?_)));have hz:f.holds vs=(false):=by rw [za0.holds_eq,if_neg (by omega),if_neg (by omega),if_pos (by omega)];rw [List.length_eq_zero_iff.1 (show f.kids.length=0 by have:=dF hc7;omega)];try rfl
  rw [hz];try rfl
 have hc8':=hc8;(try simp at hc8');refine Je 1 [] [17] [(32,vb (f.kind == 4))] h fun a w h=>cS (f.kind == 4) h (fun hc9=>?_) (fun hc14=>?_)
 ·have hc9':=hc9;(try simp at hc9');refine qW (Je 1 [] [8,32] [(5,vI 0)] h fun a w h=>qZ ?_)
  refine zaq (ι:=(Nat)) (fun j=>j<=f.kids.length/\(f.kids.take j).all (za0.holds vs)=true)
    (fun j=>[(1,(vZs vs)),(2,vp 0 0),(5,vN j)])
    (fun j=>[(0,.box (zF f))])
    (fun j=>f.kids.length - j) 0 ?_ h (by kernel_rfl) (by kernel_rfl) ?_
  ·exact ⟨Nat.zero_le _,rfl⟩
  clear h;rintro j a w hI h;obtain ⟨hI1,hI2⟩:=hI;refine qW (Je 1 [(3,.len (za6 6 za0.d f.kids))] [] [(38,vb (decide ((j:Int)<(f.kids.length:Int))))] h fun a w h=>zam ((j:Int)<(f.kids.length:Int)) h (fun hc10 hc10'=>?_) (fun hc13 hc13'=>?_))
  ·refine qU (za1 (qW (qZ ?_)));obtain ⟨x4,hx4⟩:=gl f.kids j;refine Je 1 [(3,.g (xD 44 42 ziz ((zab hx4 (f:=za0.d)).trans (congrArg some (za0.d_eq x4))) (OV.tmp 43 _))),(6,.call (ih x4 (lM hx4) (zey hf (by unfold cnt;first | (rw [if_pos (by omega)];exact lM hx4) | (rw [if_neg (by omega),if_pos (by omega)];exact zh6 hx4)))) ke_10)] [38] [(48,vb (!(za0.holds vs x4)))] h fun a w h=>cS (!(za0.holds vs x4)) h (fun hc11=>?_) (fun hc12=>?_)
   ·have hc11':=hc11;(try simp at hc11');refine Je 1 [] [48] [(4,vb false)] h fun a w h=>qV (zae (za7 (za7 (zae (za7 (zae (za7 (rT (.c (cB false)) h rfl ?_))))))));have hz:f.holds vs=(false):=by rw [za0.holds_eq,if_neg (by omega),if_neg (by omega),if_neg (by omega),if_pos (by omega)];exact zbl hx4 (show (za0.holds vs x4)=false from by simpa using hc11)
    rw [hz];try rfl
   have hc12':=hc12;(try simp at hc12');refine qU (za9 (za1 (Jf 1 [(1,.j1 j)] [48] [(5,vI ((j:Int)+1))] h fun a w h=>za1 (zag (x:=j) (y:=j+1) h ?_ ?_))))
   ·exact ⟨by have:=zaj hx4;omega,zco hx4 hI2 (show (za0.holds vs x4)=true from by simpa using hc12)⟩
   show f.kids.length - (j+1)<f.kids.length - j;have:=zaj hx4;omega
  refine wp_exit (zaa (zaa (za5 (za1 (Jq 1 [] [(4,vb true)] [] h fun a w h=>qV (zae (za7 (rT (.c (cB true)) h rfl ?_))))))));have hz:f.holds vs=(true):=by rw [za0.holds_eq,if_neg (by omega),if_neg (by omega),if_neg (by omega),if_pos (by omega)];exact zcu (dF hc13) hI2
  rw [hz];try rfl
 have hc14':=hc14;(try simp at hc14');refine Je 1 [] [8,32] [(49,vb (f.kind == 5))] h fun a w h=>cS (f.kind == 5) h (fun hc15=>?_) (fun hc20=>?_)
 ·have hc15':=hc15;(try simp at hc15');refine Je 1 [] [49] [(6,vI 0)] h fun a w h=>qZ ?_
  refine zaq (ι:=(Nat)) (fun j=>j<=f.kids.length/\(f.kids.take j).any (za0.holds vs)=false)
    (fun j=>[(1,(vZs vs)),(2,vp 0 0),(6,vN j)])
    (fun j=>[(0,.box (zF f))])
    (fun j=>f.kids.length - j) 0 ?_ h (by kernel_rfl) (by kernel_rfl) ?_
  ·exact ⟨Nat.zero_le _,rfl⟩
  clear h;rintro j a w hI h;obtain ⟨hI1,hI2⟩:=hI;refine qW (Je 1 [(3,.len (za6 6 za0.d f.kids))] [] [(55,vb (decide ((j:Int)<(f.kids.length:Int))))] h fun a w h=>zam ((j:Int)<(f.kids.length:Int)) h (fun hc16 hc16'=>?_) (fun hc19 hc19'=>?_))
  ·refine qU (za1 (qW (qZ ?_)));obtain ⟨x6,hx6⟩:=gl f.kids j;refine Je 1 [(3,.g (xD 61 59 ziz ((zab hx6 (f:=za0.d)).trans (congrArg some (za0.d_eq x6))) (OV.tmp 60 _))),(6,.call (ih x6 (lM hx6) (zey hf (by unfold cnt;first | (rw [if_pos (by omega)];exact lM hx6) | (rw [if_neg (by omega),if_pos (by omega)];exact zh6 hx6)))) ke_10)] [55] [(64,vb (za0.holds vs x6))] h fun a w h=>cS (za0.holds vs x6) h (fun hc17=>?_) (fun hc18=>?_)
   ·refine Je 1 [] [64] [(4,vb true)] h fun a w h=>qV (zae (za7 (za7 (zae (zae (za7 (rT (.c (cB true)) h rfl ?_)))))));have hz:f.holds vs=(true):=by rw [za0.holds_eq,if_neg (by omega),if_neg (by omega),if_neg (by omega),if_neg (by omega),if_pos (by omega)];exact any_stop hx6 hc17
    rw [hz];try rfl
   refine qU (za9 (za1 (Jf 1 [(1,.j1 j)] [64] [(6,vI ((j:Int)+1))] h fun a w h=>za1 (zag (x:=j) (y:=j+1) h ?_ ?_))))
   ·exact ⟨by have:=zaj hx6;omega,any_step hx6 hI2 hc18⟩
   show f.kids.length - (j+1)<f.kids.length - j;have:=zaj hx6;omega
  refine wp_exit (zaa (zaa (za5 (za9 (za1 (Jq 1 [] [(4,vb false)] [] h fun a w h=>qV (rT (.c (cB false)) h rfl ?_)))))));have hz:f.holds vs=(false):=by rw [za0.holds_eq,if_neg (by omega),if_neg (by omega),if_neg (by omega),if_neg (by omega),if_pos (by omega)];exact any_end (dF hc19) hI2
  rw [hz];try rfl
 have hc20':=hc20;(try simp at hc20');refine qU (za9 (za1 (Jq 1 [] [(4,vb false)] [] h fun a w h=>qV (rT (.c (cB false)) h rfl ?_))));have hz:f.holds vs=(false):=by rw [za0.holds_eq,if_neg (by omega),if_neg (by omega),if_neg (by omega),if_neg (by omega),if_neg (by omega)];try rfl
 rw [hz];try rfl
theorem LR5HoldsW (vs:List ZI) {M:Nat} (hM:M<=300) (hv:VOk M vs) (f:za0):f.okB 1000 1000->Fn Tryz.prog 12 [] [(vF f),(vZs vs)] (vb (za0.holds vs f)) [] :=
 za0.ind (P:=fun f=>f.okB 1000 1000->Fn Tryz.prog 12 [] [(vF f),(vZs vs)] (vb (za0.holds vs f)) []) (fun k r ks ih hf=>LR5HoldsW0 ⟨k,r,ks⟩ vs (fun g hg h=>ih g hg h) hM hv hf) f
theorem LR5Vars0 (f:za0) (ih:∀ g ∈ (cnt f.kind f.kids),Fn Tryz.prog 29 [] [(vF g)] (vIs (za0.vars g)) []) (hf:f.okB 40 400) (hw:f.wid<=20000):Fn Tryz.prog 29 [] [(vF f)] (vIs (za0.vars f)) []:=by
 have lck:=ze6 hf;have lkm:=zd2 hf;refine Fn.body Tryz.func29 rfl 42 rfl fun w H B a h=>Jq 0 [] [(1,vp 0 0),(2,vW zaf)] [(0,.box (zF f))] h fun a w h=>Je 1 [(0,.g (Op.buildED (d:=8) tb_0))] [] [(3,(vIs []))] h fun a w h=>qW (Je 1 [] [] [(11,vb (f.kind == 2))] h fun a w h=>cS (f.kind == 2) h (fun hc1=>?_) (fun hc2=>?_))
 ·have hc1':=hc1;(try simp at hc1');refine Je 1 [(3,.call (SVars f.r.t (rel_psok (rel_ok hf hc1))) tb_8)] [11] [(2,(vIs (zby f.r.t.parts)))] h fun a w h=>qV (za7 (rT (.c (cIs (zby f.r.t.parts))) h rfl ?_));have hz:f.vars=zby f.r.t.parts:=by rw [za0.vars_eq,if_pos (by have:=hc1;simpa using this)]
  rw [hz];try rfl
 have hc2':=hc2;(try simp at hc2');refine qU (za1 (Jd 1 [(1,.call (SKids f) kc_0)] [1,11] [(4,(vFs (cnt f.kind f.kids)))] [] h fun a w h=>qW (Jd 1 [] [] [(5,vI 0)] [] h fun a w h=>qZ ?_)))
 refine zaq (ι:=(Nat)) (fun j=>j<=(cnt f.kind f.kids).length)
   (fun j=>[(2,vW zaf),(3,(vIs (((cnt f.kind f.kids).take j).foldl (fun a g=>(za0.vars g).foldl zdm a) []))),(4,(vFs (cnt f.kind f.kids))),(5,vN j)])
   (fun j=>[])
   (fun j=>(cnt f.kind f.kids).length - j) 0 ?_ h (by kernel_rfl) (by kernel_rfl) ?_
 ·exact Nat.zero_le _
 clear h;rintro j a w hI h;refine qW (Jd 1 [(2,.len (za6 6 za0.d (cnt f.kind f.kids)))] [] [(21,vb (decide ((j:Int)<((cnt f.kind f.kids).length:Int))))] [] h fun a w h=>zam ((j:Int)<((cnt f.kind f.kids).length:Int)) h (fun hc3 hc3'=>?_) (fun hc6 hc6'=>?_))
 ·refine qU (za1 (qW (qZ ?_)));obtain ⟨x3,hx3⟩:=gl (cnt f.kind f.kids) j;refine Jd 1 [(2,.g (xD 26 24 ziz ((zab hx3 (f:=za0.d)).trans (congrArg some (za0.d_eq x3))) (OV.tmp 25 _))),(4,.call (ih x3 (lM hx3)) mf5_8)] [21] [(6,(vIs (za0.vars x3)))] [] h fun a w h=>Jd 1 [] [] [(7,vI 0)] [] h fun a w h=>qZ ?_
  refine zaq (ι:=(Nat)) (fun i=>i<=(za0.vars x3).length)
    (fun i=>[(2,vW zaf),(3,(vIs (((za0.vars x3).take i).foldl zdm (((cnt f.kind f.kids).take j).foldl (fun a g=>(za0.vars g).foldl zdm a) [])))),(4,(vFs (cnt f.kind f.kids))),(5,vN j),(6,(vIs (za0.vars x3))),(7,vN i)])
    (fun i=>[])
    (fun i=>(za0.vars x3).length - i) 0 ?_ h (by kernel_rfl) (by kernel_rfl) ?_
  ·exact Nat.zero_le _
  clear h;rintro i a w hI h;have lvi:=insF_len ((za0.vars x3).take i) (((cnt f.kind f.kids).take j).foldl (fun a g=>(za0.vars g).foldl zdm a) []);have lti:((za0.vars x3).take i).length<=i:=by rw [List.length_take];omega
  have lvr:=vars_room hf hx3;refine qW (Jd 1 [(2,.len (za6 1 zai (za0.vars x3)))] [] [(32,vb (decide ((i:Int)<((za0.vars x3).length:Int))))] [] h fun a w h=>zam ((i:Int)<((za0.vars x3).length:Int)) h (fun hc4 hc4'=>?_) (fun hc5 hc5'=>?_))
  ·refine qU (za1 (qW (qZ ?_)));obtain ⟨x5,hx5⟩:=gl (za0.vars x3) i;refine Jm 1 [(3,.g (xD 38 36 zfm (zab hx5 (f:=zai)) (OV.tmp 37 _))),(5,.call (SInsert (((za0.vars x3).take i).foldl zdm (((cnt f.kind f.kids).take j).foldl (fun a g=>(za0.vars g).foldl zdm a) [])) x5 (by omega)) tb_6)] [32] [(3,(vIs (zdm (((za0.vars x3).take i).foldl zdm (((cnt f.kind f.kids).take j).foldl (fun a g=>(za0.vars g).foldl zdm a) [])) x5)))] [] h fun a w h=>za9 (za1 (Jm 1 [(1,.j1 i)] [] [(7,vI ((i:Int)+1))] [] h fun a w h=>za1 ?_));rw [show ((zdm (((za0.vars x3).take i).foldl zdm (((cnt f.kind f.kids).take j).foldl (fun a g=>(za0.vars g).foldl zdm a) [])) x5):List Int)=(((za0.vars x3).take (i+1)).foldl zdm (((cnt f.kind f.kids).take j).foldl (fun a g=>(za0.vars g).foldl zdm a) [])) from (by rw [List.take_add_one,hx5,List.foldl_append];rfl)] at h;refine zag (x:=i) (y:=i+1) h ?_ ?_
   ·have:=zaj hx5;show i+1<=(za0.vars x3).length;omega
   show (za0.vars x3).length - (i+1)<(za0.vars x3).length - i;have:=zaj hx5;omega
  refine wp_exit (zaa (zaa (za5 (za9 (za1 (Jm 1 [(1,.j1 j)] [6,7,32] [(5,vI ((j:Int)+1))] [] h fun a w h=>za1 ?_))))));rw [show ((((za0.vars x3).take i).foldl zdm (((cnt f.kind f.kids).take j).foldl (fun a g=>(za0.vars g).foldl zdm a) [])):List Int)=(((cnt f.kind f.kids).take (j+1)).foldl (fun a g=>(za0.vars g).foldl zdm a) []) from (by rw [show i=(za0.vars x3).length by omega,List.take_length];exact (foldl_take_v hx3).symm)] at h;refine zag (x:=j) (y:=j+1) h ?_ ?_
  ·have:=zaj hx3;show j+1<=(cnt f.kind f.kids).length;omega
  show (cnt f.kind f.kids).length - (j+1)<(cnt f.kind f.kids).length - j;have:=zaj hx3;omega
 refine wp_exit (zaa (zaa (za5 (za1 (Jq 1 [] [(2,(vIs (((cnt f.kind f.kids).take j).foldl (fun a g=>(za0.vars g).foldl zdm a) [])))] [] h fun a w h=>qV (rT (.c (cIs (((cnt f.kind f.kids).take j).foldl (fun a g=>(za0.vars g).foldl zdm a) []))) h rfl ?_))))));have hz:f.vars=(((cnt f.kind f.kids).take j).foldl (fun a g=>(za0.vars g).foldl zdm a) []):=by rw [za0.vars_eq,if_neg (by have:=hc2;simpa using this),List.take_of_length_le (by omega)]
 rw [hz];try rfl
theorem zic (f:za0):f.okB 40 400->f.wid<=20000->Fn Tryz.prog 29 [] [(vF f)] (vIs (za0.vars f)) [] :=
 za0.ind (P:=fun f=>f.okB 40 400->f.wid<=20000->Fn Tryz.prog 29 [] [(vF f)] (vIs (za0.vars f)) []) (fun k r ks ih hf hw=>LR5Vars0 ⟨k,r,ks⟩ (fun g hg=>ih g (zb3 hg) (zey hf hg) (Nat.le_trans (wid_kid hg) hw)) hf hw) f
theorem Linside (s:zar) (f:za0) (hf:f.okB 40 400) (hw:f.wid<=20000):Fn Tryz.prog 25 [] [vG (zan s),(vF f)] (vb (inB s f)) []:=by
 have lvf:=zf4 f hf;refine Fn.body Tryz.func25 rfl 23 rfl fun w H B a h=>Jq 0 [] [(2,vp 0 0),(3,vp 1 0),(4,vb false)] [(0,.box (zan s)),(1,.box (zF f))] h fun a w h=>Jd 2 [(1,.call (zic f hf hw) mf5_8)] [3] [(5,(vIs (za0.vars f)))] [(0,.box (zan s))] h fun a w h=>?_
 rcases Bool.eq_false_or_eq_true (((za0.vars f).length:Int) == 0) with hc1 | hc2
 ·have hc1':=hc1;(try simp at hc1');refine Jq 2 [(1,.len (za6 1 zai (za0.vars f))),(2,.cmp (op:=.eql) (m:=((za0.vars f).length:Int)) (n:=0) (b:=true) .i64 hc1)] [(4,vb true)] [] h fun a w h=>qV (rT (.c (cB true)) h rfl ?_);have hz:inB s f=true:=by unfold inB;rw [List.length_eq_zero_iff.1 (show (za0.vars f).length=0 by have:=beq_iff_eq.1 hc1;omega)];rfl
  rw [hz];try rfl
 have hc2':=hc2;(try simp at hc2');obtain ⟨jl,hjl⟩:∃ j_:Nat,j_+1=(za0.vars f).length:=⟨(za0.vars f).length - 1,by have:=beq_eq_false_iff_ne.1 hc2;omega⟩;obtain ⟨x2,hx2⟩:=gl (za0.vars f) jl;refine Jq 2 [(1,.len (za6 1 zai (za0.vars f))),(2,.cmp (op:=.eql) (m:=((za0.vars f).length:Int)) (n:=0) (b:=false) .i64 hc2),(6,.len (za6 1 zai (za0.vars f))),(7,.g (Op.arith (op:=.sub) (d:=15) (xt:=3) (yt:=3) (k:=.i64) (m:=((za0.vars f).length:Int)) (n:=1) (r:=(jl:Int)) (OV.tmp 14 _) (OV.const (.int .i64 1) rfl) (.inr (.inl ⟨rfl,(by omega)⟩)) i6)),(8,.g (xD 16 12 zfm (zab hx2 (f:=zai)) (OV.tmp 15 _))),(12,.len (za6 1 zfj s.vars))] [(4,vb (decide (x2<(s.vars.length:Int))))] [] h fun a w h=>qV (rT (.c (cB (decide (x2<(s.vars.length:Int))))) h rfl ?_);have hz:inB s f=(decide (x2<(s.vars.length:Int))):=by unfold inB;rw [last_at hx2 hjl]
 rw [hz];try rfl
theorem zib (s:zar) (hs:zba 3 s) (hw:zhk s):Fn Tryz.prog 9 [] [vG (zan s)] (vb (proB s)) []:=by
 have las:=hs.acts;refine Fn.body Tryz.func9 rfl 40 rfl fun w H B a h=>Jq 0 [] [(1,vp 0 0),(2,vb false)] [(0,.box (zan s))] h fun a w h=>qW (Je 1 [(3,.call (Linside s s.init (za0.okB_mono (by decide) (by decide) _ (zfb hs.init (by have:=hw.1;omega))) (by have:=hw.1;omega)) mf5_11)] [] [(11,vb (!(inB s s.init)))] h fun a w h=>cS (!(inB s s.init)) h (fun hc1=>?_) (fun hc2=>?_))
 ·have hc1':=hc1;(try simp at hc1');refine Je 1 [] [11] [] h fun a w h=>qV (za7 (rT (.c (cB false)) h rfl ?_));have hz:proB s=false:=by unfold proB;rw [(show (inB s s.init)=false from by simpa using hc1)];rfl
  rw [hz];try rfl
 have hc2':=hc2;(try simp at hc2');refine qU (za1 (qW (Je 1 [(2,.len (za6 10 zbi.d s.acts))] [11] [(13,vS 10 (s.acts.map zbi.d)),(14,vN s.acts.length),(15,vI 0)] h fun a w h=>qZ ?_)))
 refine zaq (ι:=(Nat)) (fun j=>j<=s.acts.length/\(s.acts.take j).all (fun c=>inB s c.guard && c.moves.all fun m=>inB s (zd7 ⟨m.t,false⟩))=true)
   (fun j=>[(1,vp 0 0),(13,vS 10 (s.acts.map zbi.d)),(14,vN s.acts.length),(15,vN j)])
   (fun j=>[(0,.box (zan s))])
   (fun j=>s.acts.length - j) 0 ?_ h (by kernel_rfl) (by kernel_rfl) ?_
 ·exact ⟨Nat.zero_le _,rfl⟩
 clear h;rintro j a w hI h;obtain ⟨hP1,hP2⟩:=hI;refine Je 1 [] [] [(16,vb (decide ((j:Int)<(s.acts.length:Int))))] h fun a w h=>qW (zam ((j:Int)<(s.acts.length:Int)) h (fun hc3 hc3'=>?_) (fun hc10 hc10'=>?_))
 ·refine qU (za1 (qW (qZ ?_)));obtain ⟨x2,hx2⟩:=gl s.acts j;have hcx2:=hs.act x2 (lM hx2);have hgx2:=hw.2 x2 (lM hx2);have lmx2:=hcx2.len;refine Jd 1 [(0,.g (xD 17 13 ki_1 (zab hx2 (f:=zbi.d)) (OV.tmp 15 _)))] [16] [(4,vp 1 0)] [(0,.box (zan s)),(1,.box ([cI x2.proc,cI x2.from_,cI x2.to_,cI x2.guard.kind,cPs x2.guard.r.t.parts]++zi x2.guard.r.t.k++[cB x2.guard.r.eq,cFs x2.guard.kids,.d (.sl 5 (x2.moves.map zad.d))]))] h fun a w h=>qW (Je 2 [(3,.call (Linside s x2.guard (za0.okB_mono (by decide) (by decide) _ (zfb hcx2.guard (by omega))) (by omega)) mf5_11)] [] [(23,vb (!(inB s x2.guard)))] h fun a w h=>cS (!(inB s x2.guard)) h (fun hc4=>?_) (fun hc5=>?_))
  ·have hc4':=hc4;(try simp at hc4');refine Je 2 [] [23] [(2,vb false)] h fun a w h=>qV (za7 (zae (za7 (za7 (zae (za7 (rT (.c (cB false)) h rfl ?_)))))));have hz:proB s=false:=by unfold proB;rw [zbl (q:=(fun c=>inB s c.guard && c.moves.all fun m=>inB s (zd7 ⟨m.t,false⟩))) hx2 (by show (inB s x2.guard && _)=false;rw [(show (inB s x2.guard)=false from by simpa using hc4)];rfl),Bool.and_false]
   rw [hz];try rfl
  have hc5':=hc5;(try simp at hc5');refine qU (za1 (Jd 2 [(2,.len (za6 5 zad.d x2.moves))] [4,23] [(25,vS 5 (x2.moves.map zad.d)),(26,vN x2.moves.length),(27,vI 0)] [(0,.box (zan s))] h fun a w h=>qZ ?_))
  refine zaq (ι:=(Nat)) (fun i=>i<=x2.moves.length/\(x2.moves.take i).all (fun m=>inB s (zd7 ⟨m.t,false⟩))=true)
    (fun i=>[(1,vp 0 0),(13,vS 10 (s.acts.map zbi.d)),(14,vN s.acts.length),(15,vN j),(25,vS 5 (x2.moves.map zad.d)),(26,vN x2.moves.length),(27,vN i)])
    (fun i=>[(0,.box (zan s))])
    (fun i=>x2.moves.length - i) 0 ?_ h (by kernel_rfl) (by kernel_rfl) ?_
  ·exact ⟨Nat.zero_le _,rfl⟩
  clear h;rintro i a w hI h;obtain ⟨hQ1,hQ2⟩:=hI;refine Je 2 [] [] [(28,vb (decide ((i:Int)<(x2.moves.length:Int))))] h fun a w h=>qW (zam ((i:Int)<(x2.moves.length:Int)) h (fun hc6 hc6'=>?_) (fun hc9 hc9'=>?_))
  ·refine qU (za1 (qW (qZ ?_)));obtain ⟨x4,hx4⟩:=gl x2.moves i;refine Jd 2 [(0,.g (xD 29 25 ki_2 (zab hx4 (f:=zad.d)) (OV.tmp 27 _)))] [28] [(6,vp 2 0)] [(0,.box (zan s)),(2,.box ([cI x4.v,cB x4.any,cPs x4.t.parts]++zi x4.t.k))] h fun a w h=>Jd 3 [(4,.call (LR5Atom (zb0.mk x4.t false) ((hcx2.mv x4 (lM hx4)).mono (by decide) (by decide))) ls19_8),(5,.call (Linside s (zd7 (zb0.mk x4.t false)) (za0.okB_mono (by decide) (by decide) _ (okB_atom ((hcx2.mv x4 (lM hx4)).plain (by decide)))) (by rw [za0.wid_eq];show 3+(List.map za0.wid (cnt (2:Int) [])).sum<=20000;decide)) mf5_11)] [6] [(37,vb (!(inB s (zd7 (zb0.mk x4.t false)))))] [(0,.box (zan s))] h fun a w h=>cS (!(inB s (zd7 (zb0.mk x4.t false)))) h (fun hc7=>?_) (fun hc8=>?_)
   ·have hc7':=hc7;(try simp at hc7');refine Je 3 [] [37] [(2,vb false)] h fun a w h=>qV (zae (za7 (za7 (zae (zae (za7 (za7 (zae (za7 (rT (.c (cB false)) h rfl ?_))))))))));have hz:proB s=false:=by unfold proB;rw [zbl (q:=(fun c=>inB s c.guard && c.moves.all fun m=>inB s (zd7 ⟨m.t,false⟩))) hx2 (by show (inB s x2.guard && x2.moves.all fun m=>inB s (zd7 ⟨m.t,false⟩))=false;rw [zbl (q:=fun m:zad=>inB s (zd7 ⟨m.t,false⟩)) hx4 (show (inB s (zd7 (zb0.mk x4.t false)))=false from by simpa using hc7),Bool.and_false]),Bool.and_false]
    rw [hz];try rfl
   have hc8':=hc8;(try simp at hc8');refine qU (za9 (za1 (Jf 3 [(0,.j1 i)] [37] [(27,vI ((i:Int)+1))] h fun a w h=>za1 (zag (x:=i) (y:=i+1) h ?_ ?_))))
   ·exact ⟨by have:=zaj hx4;omega,zco hx4 hQ2 (show (inB s (zd7 (zb0.mk x4.t false)))=true from by simpa using hc8)⟩
   show x2.moves.length - (i+1)<x2.moves.length - i;have:=zaj hx4;omega
  refine wp_exit (zaa (zaa (za5 (za9 (za1 (Jf 3 [(0,.j1 j)] [25,26,27,28] [(15,vI ((j:Int)+1))] h fun a w h=>za1 (zag (x:=j) (y:=j+1) h ?_ ?_)))))))
  ·exact ⟨by have:=zaj hx2;omega,zco hx2 hP2 (by show (inB s x2.guard && x2.moves.all fun m=>inB s (zd7 ⟨m.t,false⟩))=true;rw [(show (inB s x2.guard)=true from by simpa using hc5),zcu (by omega) hQ2];rfl)⟩
  show s.acts.length - (j+1)<s.acts.length - j;have:=zaj hx2;omega
 refine wp_exit (zaa (zaa (za5 (za1 (Jq 3 [] [(2,vb true)] [] h fun a w h=>qV (rT (.c (cB true)) h rfl ?_))))));have hz:proB s=true:=by unfold proB;rw [(show (inB s s.init)=true from by simpa using hc2),Bool.true_and];exact zcu (by omega) hP2
 rw [hz];try rfl
theorem LsndN (s:zar) (i:Int) (hi:zf2 s i=none):Fn Tryz.prog 28 [] [vG (zan s),vI i] (vb false) []:=by
 refine Fn.body Tryz.func28 rfl 91 rfl fun w H B a h=>Jq 0 [] [(1,vI i),(2,vp 0 0),(4,vb false)] [(0,.box (zan s))] h fun a w h=>qW ?_
 rcases Bool.eq_false_or_eq_true (decide (i<0)) with hc1 | hc2
 ·have hc1':=dT hc1;refine Je 1 [(1,.cmp (op:=.lss) (m:=i) (n:=0) (b:=true) .i64 hc1)] [] [(38,vb true)] h fun a w h=>cS true h (fun _=>?_) nofun
  refine Je 1 [] [38] [] h fun a w h=>qV (za7 (rT (.c (cB false)) h rfl ?_));rfl
 have hc2':=dF hc2;refine Je 1 [(1,.cmp (op:=.lss) (m:=i) (n:=0) (b:=false) .i64 hc2),(6,.len (za6 10 zbi.d s.acts)),(7,.cmp (op:=.geq) (m:=i) (n:=(s.acts.length:Int)) (b:=true) .i64 (decide_eq_true (by have:=actAt_none hi;have:=dF hc2;omega)))] [] [(38,vb true)] h fun a w h=>cS true h (fun _=>?_) nofun
 refine Je 1 [] [38] [] h fun a w h=>qV (za7 (rT (.c (cB false)) h rfl ?_));rfl
theorem LsndS (s:zar) (ki:Nat) (c:zbi) (hc:zgd 3 c) (_hps:s.procs.length<=6) (hka:s.acts[ki]?=some c):Fn Tryz.prog 28 [] [vG (zan s),vN ki] (vb (zgf s c)) []:=by
 have lki:=zaj hka;have lmv:=hc.len;refine Fn.body Tryz.func28 rfl 91 rfl fun w H B a h=>Jq 0 [] [(1,vN ki),(2,vp 0 0),(4,vb false)] [(0,.box (zan s))] h fun a w h=>qW ?_
 rcases Bool.eq_false_or_eq_true (decide (c.proc<0)) with hc1 | hc2
 ·have hc1':=dT hc1;refine Je 1 [(1,.cmp (op:=.lss) (m:=(ki:Int)) (n:=0) (b:=false) .i64 (show (decide ((ki:Int)<0))=false from decide_eq_false (by omega))),(6,.len (za6 10 zbi.d s.acts)),(7,.cmp (op:=.geq) (m:=(ki:Int)) (n:=(s.acts.length:Int)) (b:=false) .i64 (show (decide ((ki:Int)>=(s.acts.length:Int)))=false from decide_eq_false (by omega))),(13,.g (xD 22 20 ki_1 (zab hka (f:=zbi.d)) (OV.tmp 21 _))),(16,.cmp (op:=.lss) (m:=c.proc) (n:=0) (b:=true) .i64 hc1)] [] [(38,vb true)] h fun a w h=>cS true h (fun _=>?_) nofun
  refine Je 1 [] [38] [] h fun a w h=>qV (za7 (rT (.c (cB false)) h rfl ?_));have hz:zgf s c=(false):=by unfold zgf;rw [decide_eq_false (p:=0<=c.proc/\c.proc<(s.procs.length:Int)) (by have:=dT hc1;omega)];rfl
  rw [hz];try rfl
 have hc2':=dF hc2;refine Je 1 [(1,.cmp (op:=.lss) (m:=(ki:Int)) (n:=0) (b:=false) .i64 (show (decide ((ki:Int)<0))=false from decide_eq_false (by omega))),(6,.len (za6 10 zbi.d s.acts)),(7,.cmp (op:=.geq) (m:=(ki:Int)) (n:=(s.acts.length:Int)) (b:=false) .i64 (show (decide ((ki:Int)>=(s.acts.length:Int)))=false from decide_eq_false (by omega))),(13,.g (xD 22 20 ki_1 (zab hka (f:=zbi.d)) (OV.tmp 21 _))),(16,.cmp (op:=.lss) (m:=c.proc) (n:=0) (b:=false) .i64 hc2),(22,.g (xD 31 29 ki_1 (zab hka (f:=zbi.d)) (OV.tmp 30 _))),(27,.len (za6 3 zcg.d s.procs))] [] [(38,vb (decide (c.proc>=(s.procs.length:Int))))] h fun a w h=>zam (c.proc>=(s.procs.length:Int)) h (fun hc3 hc3'=>?_) (fun hc4 hc4'=>?_)
 ·refine Je 1 [] [38] [] h fun a w h=>qV (za7 (rT (.c (cB false)) h rfl ?_));have hz:zgf s c=(false):=by unfold zgf;rw [decide_eq_false (p:=0<=c.proc/\c.proc<(s.procs.length:Int)) (by have:=dT hc3;omega)];rfl
  rw [hz];try rfl
 refine qU (za1 (Jd 1 [(3,.g (xD 42 40 ki_1 (zab hka (f:=zbi.d)) (OV.tmp 41 _)))] [1,38] [(5,vp 1 0)] [(0,.box (zan s)),(1,.box ([cI c.proc,cI c.from_,cI c.to_,cI c.guard.kind,cPs c.guard.r.t.parts]++zi c.guard.r.t.k++[cB c.guard.r.eq,cFs c.guard.kids,.d (.sl 5 (c.moves.map zad.d))]))] h fun a w h=>?_));obtain ⟨k,hkk⟩:∃ k_:Nat,c.proc=(k_:Int):=⟨_,(Int.toNat_of_nonneg (by have:=dF hc2;omega)).symm⟩;replace h:=h.conv (f':=F.of [(2,vp 0 0),(4,vb false),(5,vp 1 0)] [(0,.box (zan s)),(1,.box ([cI (k:Int),cI c.from_,cI c.to_,cI c.guard.kind,cPs c.guard.r.t.parts]++zi c.guard.r.t.k++[cB c.guard.r.eq,cFs c.guard.kids,.d (.sl 5 (c.moves.map zad.d))]))]) (by rw [hkk];kernel_rfl);obtain ⟨x1,hx1⟩:=gl s.procs k;refine Jq 2 [(4,.g (xD 48 45 kf_5 (zab hx1 (f:=zcg.d)) (OV.tmp 47 _))),(7,.len (za6 1 zfj x1.locs))] [(2,vp 0 0),(4,vb false),(5,vp 1 0),(6,vN x1.locs.length)] [(0,.box (zan s)),(1,.box ([cI (k:Int),cI c.from_,cI c.to_,cI c.guard.kind,cPs c.guard.r.t.parts]++zi c.guard.r.t.k++[cB c.guard.r.eq,cFs c.guard.kids,.d (.sl 5 (c.moves.map zad.d))]))] h fun a w h=>qW (Je 2 [(2,.len (za6 5 zad.d c.moves))] [] [(53,vS 5 (c.moves.map zad.d)),(54,vN c.moves.length),(55,vI 0)] h fun a w h=>qZ ?_)
 refine zaq (ι:=(Nat)) (fun j=>j<=c.moves.length/\(c.moves.take j).any (fun m=>!zdq s m)=false)
   (fun j=>[(2,vp 0 0),(5,vp 1 0),(6,vN x1.locs.length),(53,vS 5 (c.moves.map zad.d)),(54,vN c.moves.length),(55,vN j)])
   (fun j=>[(0,.box (zan s)),(1,.box ([cI (k:Int),cI c.from_,cI c.to_,cI c.guard.kind,cPs c.guard.r.t.parts]++zi c.guard.r.t.k++[cB c.guard.r.eq,cFs c.guard.kids,.d (.sl 5 (c.moves.map zad.d))]))])
   (fun j=>c.moves.length - j) 0 ?_ h (by kernel_rfl) (by kernel_rfl) ?_
 ·exact ⟨Nat.zero_le _,rfl⟩
 clear h;rintro j a w hI h;obtain ⟨hI1,hI2⟩:=hI;refine Je 2 [] [] [(56,vb (decide ((j:Int)<(c.moves.length:Int))))] h fun a w h=>qW (zam ((j:Int)<(c.moves.length:Int)) h (fun hc5 hc5'=>?_) (fun hc10 hc10'=>?_))
 ·refine qU (za1 (qW (qZ ?_)));obtain ⟨x2,hx2⟩:=gl c.moves j;refine Jd 2 [(0,.g (xD 57 53 ki_2 (zab hx2 (f:=zad.d)) (OV.tmp 55 _)))] [56] [(8,vp 2 0)] [(0,.box (zan s)),(1,.box ([cI (k:Int),cI c.from_,cI c.to_,cI c.guard.kind,cPs c.guard.r.t.parts]++zi c.guard.r.t.k++[cB c.guard.r.eq,cFs c.guard.kids,.d (.sl 5 (c.moves.map zad.d))])),(2,.box ([cI x2.v,cB x2.any,cPs x2.t.parts]++zi x2.t.k))] h fun a w h=>?_
  rcases Bool.eq_false_or_eq_true (decide (x2.v<0)) with hc6 | hc7
  ·have hc6':=dT hc6;refine Jd 3 [(2,.cmp (op:=.lss) (m:=x2.v) (n:=0) (b:=true) .i64 hc6)] [8] [(69,vb true)] [(0,.box (zan s)),(1,.box ([cI (k:Int),cI c.from_,cI c.to_,cI c.guard.kind,cPs c.guard.r.t.parts]++zi c.guard.r.t.k++[cB c.guard.r.eq,cFs c.guard.kids,.d (.sl 5 (c.moves.map zad.d))]))] h fun a w h=>cS true h (fun _=>?_) nofun
   refine Je 3 [] [69] [(4,vb false)] h fun a w h=>qV (zae (za7 (za7 (zae (za7 (rT (.c (cB false)) h rfl ?_))))));have hz:zgf s c=(false):=by unfold zgf;rw [decide_eq_true (p:=0<=c.proc/\c.proc<(s.procs.length:Int)) (by have:=dF hc2;have:=dF hc4;omega),show c.proc.toNat=k by omega,show zev s k=x1.locs.length by unfold zev;rw [hx1];rfl,Bool.true_and];rw [any_stop (q:=(fun m=>!zdq s m)) hx2 (there_lo hc6)];simp
   rw [hz];try rfl
  have hc7':=dF hc7;refine Jd 3 [(2,.cmp (op:=.lss) (m:=x2.v) (n:=0) (b:=false) .i64 hc7),(8,.len (za6 1 zfj s.vars))] [8] [(69,vb (decide (x2.v>=(s.vars.length:Int))))] [(0,.box (zan s)),(1,.box ([cI (k:Int),cI c.from_,cI c.to_,cI c.guard.kind,cPs c.guard.r.t.parts]++zi c.guard.r.t.k++[cB c.guard.r.eq,cFs c.guard.kids,.d (.sl 5 (c.moves.map zad.d))]))] h fun a w h=>zam (x2.v>=(s.vars.length:Int)) h (fun hc8 hc8'=>?_) (fun hc9 hc9'=>?_)
  ·refine Je 3 [] [69] [(4,vb false)] h fun a w h=>qV (zae (za7 (za7 (zae (za7 (rT (.c (cB false)) h rfl ?_))))));have hz:zgf s c=(false):=by unfold zgf;rw [decide_eq_true (p:=0<=c.proc/\c.proc<(s.procs.length:Int)) (by have:=dF hc2;have:=dF hc4;omega),show c.proc.toNat=k by omega,show zev s k=x1.locs.length by unfold zev;rw [hx1];rfl,Bool.true_and];rw [any_stop (q:=(fun m=>!zdq s m)) hx2 (there_hi hc8)];simp
   rw [hz];try rfl
  refine qU (za9 (za1 (Jf 3 [(0,.j1 j)] [69] [(55,vI ((j:Int)+1))] h fun a w h=>za1 (zag (x:=j) (y:=j+1) h ?_ ?_))))
  ·exact ⟨by have:=zaj hx2;omega,any_step hx2 hI2 (there_no hc7 hc9)⟩
  show c.moves.length - (j+1)<c.moves.length - j;have:=zaj hx2;omega
 refine wp_exit (zaa (zaa (za5 (za1 ?_))))
 rcases Bool.eq_false_or_eq_true (decide (c.from_>=0)) with hc11 | hc16
 ·have hc11':=dT hc11
  rcases Bool.eq_false_or_eq_true (decide (c.from_<(x1.locs.length:Int))) with hc12 | hc15
  ·have hc12':=dT hc12
   rcases Bool.eq_false_or_eq_true (decide (c.to_>=0)) with hc13 | hc14
   ·have hc13':=dT hc13;refine Jq 3 [(2,.cmp (op:=.geq) (m:=c.from_) (n:=0) (b:=true) .i64 hc11),(7,.cmp (op:=.lss) (m:=c.from_) (n:=(x1.locs.length:Int)) (b:=true) .i64 hc12),(12,.cmp (op:=.geq) (m:=c.to_) (n:=0) (b:=true) .i64 hc13)] [(4,vb (decide (c.to_<(x1.locs.length:Int))))] [] h fun a w h=>qV (rT (.c (cB (decide (c.to_<(x1.locs.length:Int))))) h rfl ?_);have hz:zgf s c=(decide (c.to_<(x1.locs.length:Int))):=by unfold zgf;rw [decide_eq_true (p:=0<=c.proc/\c.proc<(s.procs.length:Int)) (by have:=dF hc2;have:=dF hc4;omega),show c.proc.toNat=k by omega,show zev s k=x1.locs.length by unfold zev;rw [hx1];rfl,Bool.true_and];rw [any_end (q:=(fun m=>!zdq s m)) (dF hc10) hI2,Bool.not_false,Bool.and_true];have f0:=dT hc11;have f1:=dT hc12;have f2:=dT hc13;first | (rw [decide_eq_false (p:=0<=c.from_/\c.from_<_) (by omega)];rfl) | (rw [decide_eq_true (p:=0<=c.from_/\c.from_<_) (by omega),Bool.true_and];first | exact decide_eq_decide.2 (by omega) | exact decide_eq_false (by omega))
    rw [hz];try rfl
   have hc14':=dF hc14;refine Jq 3 [(2,.cmp (op:=.geq) (m:=c.from_) (n:=0) (b:=true) .i64 hc11),(7,.cmp (op:=.lss) (m:=c.from_) (n:=(x1.locs.length:Int)) (b:=true) .i64 hc12),(12,.cmp (op:=.geq) (m:=c.to_) (n:=0) (b:=false) .i64 hc14)] [(4,vb false)] [] h fun a w h=>qV (rT (.c (cB false)) h rfl ?_);have hz:zgf s c=(false):=by unfold zgf;rw [decide_eq_true (p:=0<=c.proc/\c.proc<(s.procs.length:Int)) (by have:=dF hc2;have:=dF hc4;omega),show c.proc.toNat=k by omega,show zev s k=x1.locs.length by unfold zev;rw [hx1];rfl,Bool.true_and];rw [any_end (q:=(fun m=>!zdq s m)) (dF hc10) hI2,Bool.not_false,Bool.and_true];have f0:=dT hc11;have f1:=dT hc12;have f2:=dF hc14;first | (rw [decide_eq_false (p:=0<=c.from_/\c.from_<_) (by omega)];rfl) | (rw [decide_eq_true (p:=0<=c.from_/\c.from_<_) (by omega),Bool.true_and];first | exact decide_eq_decide.2 (by omega) | exact decide_eq_false (by omega))
   rw [hz];try rfl
  have hc15':=dF hc15;refine Jq 3 [(2,.cmp (op:=.geq) (m:=c.from_) (n:=0) (b:=true) .i64 hc11),(7,.cmp (op:=.lss) (m:=c.from_) (n:=(x1.locs.length:Int)) (b:=false) .i64 hc15)] [(4,vb false)] [] h fun a w h=>qV (rT (.c (cB false)) h rfl ?_);have hz:zgf s c=(false):=by unfold zgf;rw [decide_eq_true (p:=0<=c.proc/\c.proc<(s.procs.length:Int)) (by have:=dF hc2;have:=dF hc4;omega),show c.proc.toNat=k by omega,show zev s k=x1.locs.length by unfold zev;rw [hx1];rfl,Bool.true_and];rw [any_end (q:=(fun m=>!zdq s m)) (dF hc10) hI2,Bool.not_false,Bool.and_true];have f0:=dT hc11;have f1:=dF hc15;first | (rw [decide_eq_false (p:=0<=c.from_/\c.from_<_) (by omega)];rfl) | (rw [decide_eq_true (p:=0<=c.from_/\c.from_<_) (by omega),Bool.true_and];first | exact decide_eq_decide.2 (by omega) | exact decide_eq_false (by omega))
  rw [hz];try rfl
 have hc16':=dF hc16;refine Jq 3 [(2,.cmp (op:=.geq) (m:=c.from_) (n:=0) (b:=false) .i64 hc16)] [(4,vb false)] [] h fun a w h=>qV (rT (.c (cB false)) h rfl ?_);have hz:zgf s c=(false):=by unfold zgf;rw [decide_eq_true (p:=0<=c.proc/\c.proc<(s.procs.length:Int)) (by have:=dF hc2;have:=dF hc4;omega),show c.proc.toNat=k by omega,show zev s k=x1.locs.length by unfold zev;rw [hx1];rfl,Bool.true_and];rw [any_end (q:=(fun m=>!zdq s m)) (dF hc10) hI2,Bool.not_false,Bool.and_true];have f0:=dF hc16;first | (rw [decide_eq_false (p:=0<=c.from_/\c.from_<_) (by omega)];rfl) | (rw [decide_eq_true (p:=0<=c.from_/\c.from_<_) (by omega),Bool.true_and];first | exact decide_eq_decide.2 (by omega) | exact decide_eq_false (by omega))
 rw [hz];try rfl
theorem Lsnd (s:zar) (i:Int) (hs:zba 3 s):Fn Tryz.prog 28 [] [vG (zan s),vi .i64 i] (vb (za8 s i).2) []:=by
 cases hi:zf2 s i with
 | none=>rw [sndN hi];exact LsndN s i hi
 | some c=>obtain ⟨ki,rfl,hka⟩:=zia hi;rw [sndL hka];exact LsndS s ki c (hs.act c (List.mem_of_getElem? hka)) hs.procs hka
theorem zhi (s:zar) (xs:List StD) (hr:SysRd s) (hxr:∀ x ∈ xs,StRd x) (hl:xs.length<=1000):Fn Tryz.prog 8 [] [vG (zan s),vS 2 (xs.map StD.d)] (vb (smB s xs)) []:=by
 refine Fn.body Tryz.func8 rfl 19 rfl fun w H B a h=>Jq 0 [] [(1,vS 2 (xs.map StD.d)),(2,vp 0 0),(4,vb false)] [(0,.box (zan s))] h fun a w h=>qW (Je 1 [(1,.len (za6 2 StD.d xs))] [1] [(7,vS 2 (xs.map StD.d)),(8,vN xs.length),(9,vI 0)] h fun a w h=>qZ ?_)
 refine zaq (ι:=(Nat)) (fun j=>j<=xs.length/\(xs.take j).all (zgc 3)=true)
   (fun j=>[(2,vp 0 0),(7,vS 2 (xs.map StD.d)),(8,vN xs.length),(9,vN j)])
   (fun j=>[(0,.box (zan s))])
   (fun j=>xs.length - j) 0 ?_ h (by kernel_rfl) (by kernel_rfl) ?_
 ·exact ⟨Nat.zero_le _,rfl⟩
 clear h;rintro j a w hI h;obtain ⟨hI1,hI2⟩:=hI;refine Je 1 [] [] [(10,vb (decide ((j:Int)<(xs.length:Int))))] h fun a w h=>qW (zam ((j:Int)<(xs.length:Int)) h (fun hc1 hc1'=>?_) (fun hc4 hc4'=>?_))
 ·refine qU (za1 (qW (qZ ?_)));obtain ⟨x1,hx1⟩:=gl xs j;refine Jd 1 [(0,.g (xD 11 7 kn_0 (zab hx1 (f:=StD.d)) (OV.tmp 9 _)))] [10] [(6,vp 1 0)] [(0,.box (zan s)),(1,.box [cIs x1.locs,cZs x1.vals])] h fun a w h=>Jd 2 [(1,.call (SFewSt x1 3 (hxr x1 (lM hx1))) lo15_2)] [6] [(15,vb (!(zgc 3 x1)))] [(0,.box (zan s))] h fun a w h=>cS (!(zgc 3 x1)) h (fun hc2=>?_) (fun hc3=>?_)
  ·have hc2':=hc2;(try simp at hc2');refine Je 2 [] [15] [(4,vb false)] h fun a w h=>qV (zae (za7 (za7 (zae (za7 (rT (.c (cB false)) h rfl ?_))))));have hz:smB s xs=(false):=by unfold smB;rw [zbl (q:=zgc 3) hx1 (show (zgc 3 x1)=false from by simpa using hc2)];rfl
   rw [hz];try rfl
  have hc3':=hc3;(try simp at hc3');refine qU (za9 (za1 (Jf 2 [(0,.j1 j)] [15] [(9,vI ((j:Int)+1))] h fun a w h=>za1 (zag (x:=j) (y:=j+1) h ?_ ?_))))
  ·exact ⟨by have:=zaj hx1;omega,zco hx1 hI2 (show (zgc 3 x1)=true from by simpa using hc3)⟩
  show xs.length - (j+1)<xs.length - j;have:=zaj hx1;omega
 refine wp_exit (zaa (zaa (za5 (za1 (Jq 2 [(1,.call (SFewSys s 3 hr) ky_1)] [(4,vb (zbh 3 s))] [] h fun a w h=>qV (rT (.c (cB (zbh 3 s))) h rfl ?_))))));have hz:smB s xs=(zbh 3 s):=by unfold smB;rw [zcu (dF hc4) hI2,Bool.true_and]
 rw [hz];try rfl
theorem LSameI (xs ys:List Int) (hx:xs.length<=9223372036854775807) (hy:ys.length<=9223372036854775807):Fn Tryz.prog 16 [] [(vIs xs),(vIs ys)] (vb (decide (xs=ys))) []:=by
 refine Fn.body Tryz.func16 rfl 26 rfl fun w H B a h=>Jq 0 [] [(0,(vIs xs)),(1,(vIs ys)),(4,vb false)] [] h fun a w h=>qW (Jd 0 [(1,.len (za6 1 zai xs)),(3,.len (za6 1 zai ys))] [] [(10,vb ((xs.length:Int) != (ys.length:Int)))] [] h fun a w h=>cS ((xs.length:Int) != (ys.length:Int)) h (fun hc1=>?_) (fun hc2=>?_))
 ·have hc1':=hc1;(try simp at hc1');refine Jd 0 [] [10] [] [] h fun a w h=>qV (za7 (rT (.c (cB false)) h rfl ?_));have hz:decide (xs=ys)=false:=decide_eq_false (fun e=>by have:=hc1;subst e;simp at this);rw [hz];try rfl
 have hc2':=hc2;(try simp at hc2');refine qU (za1 (qW (Jd 0 [] [10] [(5,vI 0)] [] h fun a w h=>qZ ?_)))
 refine zaq (ι:=(Nat)) (fun j=>j<=xs.length/\xs.take j=ys.take j)
   (fun j=>[(0,(vIs xs)),(1,(vIs ys)),(5,vN j)])
   (fun j=>[])
   (fun j=>xs.length - j) 0 ?_ h (by kernel_rfl) (by kernel_rfl) ?_
 ·exact ⟨Nat.zero_le _,rfl⟩
 clear h;rintro j a w hI h;obtain ⟨hI1,hI2⟩:=hI;refine qW (Jd 0 [(2,.len (za6 1 zai xs))] [] [(14,vb (decide ((j:Int)<(xs.length:Int))))] [] h fun a w h=>zam ((j:Int)<(xs.length:Int)) h (fun hc3 hc3'=>?_) (fun hc6 hc6'=>?_))
 ·refine qU (za1 (qW (qZ ?_)));obtain ⟨x1,hx1⟩:=gl xs j;obtain ⟨x2,hx2⟩:=gl ys j;refine Jd 0 [(2,.g (xD 19 17 zfm (zab hx1 (f:=zai)) (OV.tmp 18 _))),(6,.g (xD 23 21 zfm (zab hx2 (f:=zai)) (OV.tmp 22 _)))] [14] [(25,vb (x1 != x2))] [] h fun a w h=>cS (x1 != x2) h (fun hc4=>?_) (fun hc5=>?_)
  ·have hc4':=hc4;(try simp at hc4');refine Jd 0 [] [25] [(4,vb false)] [] h fun a w h=>qV (zae (za7 (za7 (zae (za7 (rT (.c (cB false)) h rfl ?_))))));have hz:decide (xs=ys)=false:=decide_eq_false (sameI_no hx1 hx2 (by have:=hc4;simpa using this));rw [hz];try rfl
  have hc5':=hc5;(try simp at hc5');refine qU (za9 (za1 (Jm 0 [(1,.j1 j)] [25] [(5,vI ((j:Int)+1))] [] h fun a w h=>za1 (zag (x:=j) (y:=j+1) h ?_ ?_))))
  ·exact ⟨by have:=zaj hx1;omega,sameI_at hx1 hx2 hI2 (by have:=hc5;simpa using this)⟩
  show xs.length - (j+1)<xs.length - j;have:=zaj hx1;omega
 refine wp_exit (zaa (zaa (za5 (za1 (Jq 0 [] [(4,vb true)] [] h fun a w h=>qV (rT (.c (cB true)) h rfl ?_))))));have hz:decide (xs=ys)=true:=decide_eq_true (sameI_end (by omega) (by have:=hc2;simp at this;omega) hI2);rw [hz];try rfl
def Bel (m:Nat) (t:zak):Prop:=∀ v:Int,(m:Int)<=v->zao t.parts v=0
theorem plain_bel {m:Nat} {t:zak} (h:Bel m t):∀ p ∈ (za2 t).parts,0<=p.v/\p.v<(m:Int):=fun p hp=>by
 obtain ⟨_,h2,_⟩:=zbg t
 obtain ⟨h0,_,hne⟩:=h2 p hp
 refine ⟨h0,Int.lt_of_not_ge fun hv=>hne ?_⟩
 have e:(za2 t).parts=(zby t.parts).map fun v=>⟨v,ZI.of (zao t.parts v)⟩:=rfl
 rw [e] at hp
 obtain ⟨v,_,rfl⟩:=List.mem_map.1 hp
 show (ZI.of (zao t.parts v)).val=0
 rw [ZI.val_of];exact h v hv
theorem zd6 {m:Nat} {t:zak} (h:Bel m t):Bel m (za2 t):=fun v hv=>by rw [zde];exact h v hv
theorem bel_add {m:Nat} {s t:zak} (hs:Bel m s) (ht:Bel m t):Bel m (zj0 s t):=fun v hv=>by rw [coef_add,hs v hv,ht v hv];rfl
theorem bel_scale {m:Nat} {t:zak} (h:Bel m t) (q:ZI):Bel m (zbk t q):=fun v hv=>by rw [coef_scale,h v hv,Int.zero_mul]
theorem bel_sub {m:Nat} {s t:zak} (hs:Bel m s) (ht:Bel m t):Bel m (subT s t):=bel_add hs (bel_scale ht _)
theorem bel_num (m:Nat) (k:ZI):Bel m (zcf k):=fun v _=>coef_num k v
theorem bel_var {m:Nat} {v:Int} (h:v<(m:Int)):Bel m (zdt v):=fun u hu=>by rw [coef_var,if_neg (by omega)]
theorem Bel.mono {m m':Nat} {t:zak} (h:Bel m t) (hm:m<=m'):Bel m' t:=fun v hv=>h v (by omega)
def zep (m:Nat) (f:za0):Prop:=f.rels fun r=>Bel m r.t
theorem zfd (m:Nat) (f:za0):zep m f ↔ (f.kind=2->Bel m f.r.t)/\∀ g ∈ cnt f.kind f.kids,zep m g:=za0.rels_eq _ f
theorem belF_tru (m:Nat) (b:Bool):zep m (zcq b):=by
 rw [zfd];exact ⟨fun e=>by cases b <;> exact absurd e (by decide),fun g hg=>absurd (zb3 hg) (by show g ∉ [];exact List.not_mem_nil)⟩
theorem zhg {m:Nat} {r:zb0} (h:Bel m r.t):zep m (zd7 r):=by
 rw [zfd];exact ⟨fun _=>zd6 h,fun g hg=>absurd (zb3 hg) (by show g ∉ [];exact List.not_mem_nil)⟩
theorem belF_each {m m':Nat} {t:zb0->zb0} (ht:∀ r,Bel m r.t->Bel m' (t (cpR r)).t) (f:za0):zep m f->zep m' (f.each t) :=
 za0.ind (P:=fun f=>zep m f->zep m' (f.each t)) (fun k r ks ih h=>by
  obtain ⟨h1,h2⟩:=(zfd _ _).1 h
  rw [za0.each_eq]
  show zep m' (zee t k r (ks.map (za0.each t)))
  unfold zee
  split
  ·exact belF_tru _ _
  ·split
   ·rename_i e
    rw [zfd];exact ⟨fun _=>ht r (h1 e),fun g hg=>absurd (zb3 hg) (by show g ∉ [];exact List.not_mem_nil)⟩
   ·split
    ·rename_i hk2 _
     rw [zfd]
     refine ⟨fun e=>absurd e hk2,fun g hg=>?_⟩
     change g ∈ cnt k (cnt k (ks.map (za0.each t))) at hg
     rw [cnt_cnt,zci] at hg
     obtain ⟨q,hq,rfl⟩:=List.mem_map.1 hg
     exact ih q (zb3 hq) (h2 q hq)
    ·exact belF_tru _ _) f
theorem belF_cl {m:Nat} (f:za0) (h:zep m f):zep m f.cl:=belF_each (t:=id) (fun _r hr=>zd6 hr) f h
theorem belF_kids {m:Nat} {k:Int} (hk:k=3\/k=4\/k=5) {fs:List za0} (h:∀ f ∈ fs,zep m f):zep m ⟨k,zR,fs⟩:=by
 rw [zfd];exact ⟨fun e=>by change k=2 at e;omega,fun g hg=>h g (zb3 hg)⟩
theorem zga {m:Nat} {fs:List za0} (h:∀ f ∈ fs,zep m f):zep m (zc7 fs):=belF_kids (.inr (.inl rfl)) fun g hg=>by
 obtain ⟨q,hq,rfl⟩:=List.mem_map.1 hg;exact belF_cl q (h q hq)
theorem belF_deny {m:Nat} {f:za0} (h:zep m f):zep m (denyF f):=belF_kids (.inl rfl) fun g hg=>by
 rw [List.mem_singleton.1 hg];exact belF_cl f h
theorem zep.mono {m m':Nat} {f:za0} (h:zep m f) (hm:m<=m'):zep m' f:=za0.rels_mono (fun _ hr=>Bel.mono hr hm) f h
theorem vars_mem {ps:List za3} {v:Int} (_h0:0<=v) (h:zao ps v≠0):v ∈ zby ps:=by
 refine ((zgw ps ps [] List.Pairwise.nil).2 v).2 (.inr (Classical.byContradiction fun hn=>h (coefZ_far fun p hp e=>hn ⟨p,hp,e,h⟩)))
theorem insF_mem (x:Int):∀ (vs a:List Int),x ∈ vs.foldl zdm a ↔ x ∈ a\/x ∈ vs
 | [],a=>by simp
 | v :: vs,a=>by
  rw [List.foldl_cons,insF_mem x vs (zdm a v),insZ_eq,zjj]
  simp only [List.mem_cons]
  constructor
  ·rintro ((h | h) | h) <;> simp [h]
  ·rintro (h | h | h) <;> simp [h]
theorem insF_sr:∀ (vs a:List Int),SRi a->SRi (vs.foldl zdm a)
 | [],_,h=>h
 | v :: vs,a,h=>by rw [List.foldl_cons];exact insF_sr vs _ (by rw [insZ_eq];exact insR_sr v h)
theorem varsG_mem (x:Int):∀ (gs:List za0) (a:List Int),x ∈ gs.foldl (fun a g=>(za0.vars g).foldl zdm a) a ↔ x ∈ a\/∃ g ∈ gs,x ∈ g.vars
 | [],a=>by simp
 | g :: gs,a=>by
  rw [List.foldl_cons,varsG_mem x gs,insF_mem]
  constructor
  ·rintro ((h | h) | ⟨q,hq,h⟩)
   ·exact .inl h
   ·exact .inr ⟨g,List.mem_cons_self .., h⟩
   ·exact .inr ⟨q,List.mem_cons_of_mem _ hq,h⟩
  ·rintro (h | ⟨q,hq,h⟩)
   ·exact .inl (.inl h)
   ·rcases List.mem_cons.1 hq with rfl | hq
    ·exact .inl (.inr h)
    ·exact .inr ⟨q,hq,h⟩
theorem varsG_sr:∀ (gs:List za0) (a:List Int),SRi a->SRi (gs.foldl (fun a g=>(za0.vars g).foldl zdm a) a)
 | [],_,h=>h
 | g :: gs,a,h=>by rw [List.foldl_cons];exact varsG_sr gs _ (insF_sr _ _ h)
theorem vars_sr (f:za0):SRi f.vars:=by
 rw [za0.vars_eq]
 split
 ·exact (zgw _ _ [] List.Pairwise.nil).1
 ·exact varsG_sr _ [] List.Pairwise.nil
theorem belF_vars {m:Nat} (f:za0):(∀ v ∈ f.vars,v<(m:Int))->zep m f :=
 za0.ind (P:=fun f=>(∀ v ∈ f.vars,v<(m:Int))->zep m f) (fun k r ks ih h=>by
  rw [za0.vars_eq] at h
  change ∀ v ∈ (if k=2 then zby r.t.parts else (cnt k ks).foldl (fun a g=>(za0.vars g).foldl zdm a) []),v<(m:Int) at h
  rw [zfd]
  show (k=2->Bel m r.t)/\∀ g ∈ cnt k ks,zep m g
  refine ⟨fun e v hv=>?_,fun g hg=>ih g (zb3 hg) fun v hv=>?_⟩
  ·rw [if_pos e] at h
   exact Classical.byContradiction fun hn=>by have:=h v (vars_mem (by omega) hn);omega
  ·by_cases e:k=2
   ·rw [e] at hg;cases hg
   ·rw [if_neg e] at h
    exact h v ((varsG_mem v _ []).2 (.inr ⟨g,hg,hv⟩))) f
theorem last_max {l:List Int} {v:Int} (hs:SRi l) (h:l.getLast?=some v):∀ x ∈ l,x<=v:=fun x hx=>by
 obtain ⟨ys,rfl⟩:=List.getLast?_eq_some_iff.1 h
 rcases List.mem_append.1 hx with hx | hx
 ·exact Int.le_of_lt ((List.pairwise_append.1 hs).2.2 x hx v (List.mem_singleton_self _))
 ·rw [List.mem_singleton.1 hx];exact Int.le_refl _
theorem in_bel {s:zar} {f:za0} (h:inB s f=true):zep s.vars.length f:=by
 refine belF_vars f fun v hv=>?_
 unfold inB at h
 cases e:f.vars.getLast? with
 | none=>rw [List.getLast?_eq_none_iff.1 e] at hv;cases hv
 | some u =>
  rw [e] at h
  have h:=of_decide_eq_true h
  have:=last_max (vars_sr f) e v hv
  omega
/-- a system's own variables alone -/
structure ProS (s:zar):Prop where
  init:zep s.vars.length s.init
  act:∀ c ∈ s.acts,zep s.vars.length c.guard/\∀ m ∈ c.moves,Bel s.vars.length m.t
theorem atom_bel {m:Nat} {r:zb0} (h:zep m (zd7 r)):Bel m r.t:=fun v hv=>by
 have:=((zfd _ _).1 h).1 rfl v hv
 change zao (za2 r.t).parts v=0 at this
 rwa [zde] at this
theorem pro_of {s:zar} (h:proB s=true):ProS s:=by
 unfold proB at h
 rw [Bool.and_eq_true,List.all_eq_true] at h
 refine ⟨in_bel h.1,fun c hc=>?_⟩
 have:=h.2 c hc
 rw [Bool.and_eq_true,List.all_eq_true] at this
 exact ⟨in_bel this.1,fun m hm=>atom_bel (in_bel (this.2 m hm))⟩
theorem zgp {s:zar} (hp:ProS s) (i:Int):zep s.vars.length (za8 s i).1.guard/\∀ m ∈ (za8 s i).1.moves,Bel s.vars.length m.t:=by
 unfold za8
 cases e:zf2 s i with
 | none=>exact ⟨by rw [zfd];exact ⟨fun e=>absurd (show (0:Int)=2 from e) (by decide),fun g hg=>absurd (zb3 hg) (by show g ∉ [];exact List.not_mem_nil)⟩,fun m hm=>by cases hm⟩
 | some c =>
  refine hp.act c ?_
  unfold zf2 at e
  split at e
  ·exact List.mem_of_getElem? e
  ·cases e
theorem bel_bnd {s:zar} {m v:Nat} {t:zak} (h:Bel m t):∀ g ∈ zi9 s v t,zep m g:=fun g hg=>by
 unfold zi9 at hg
 split at hg
 ·rcases List.mem_cons.1 hg with rfl | hg
  ·exact zhg (zd6 (bel_sub h (bel_num _ _)))
  ·rw [List.mem_singleton.1 hg];exact zhg (zd6 (bel_sub (bel_num _ _) h))
 ·cases hg
theorem rng_bel (s:zar):zep s.vars.length (zav s):=zga (zcn fun v hv=>bel_bnd (bel_var (by omega)))
theorem val_mv {c:zbi} {v:Nat} {m:zad} (h:mvAt c v=some m):m ∈ c.moves:=by unfold mvAt at h;exact List.mem_of_find?_eq_some h
theorem valA_bel {n:Nat} {c:zbi} (hc:∀ m ∈ c.moves,Bel n m.t) {v:Nat} (hv:v<n):Bel n (zbu c v).1:=by
 unfold zbu
 cases e:mvAt c v with
 | none=>exact bel_var (by omega)
 | some m =>
  show Bel n (if m.any=true then _ else _:zak × Bool).1
  split
  ·exact fun u _=>rfl
  ·exact zd6 (hc m (val_mv e))
theorem canF_bel {s:zar} {c:zbi} (hg:zep s.vars.length c.guard) (hm:∀ m ∈ c.moves,Bel s.vars.length m.t):zep s.vars.length (zgu s c):=zga fun g hx=>by
 unfold canL at hx
 rcases List.mem_cons.1 hx with rfl | hx
 ·exact hg
 ·refine zcn (fun v hv g hg=>?_) g hx
  unfold ze8 at hg
  split at hg
  ·exact bel_bnd (valA_bel hm hv) g hg
  ·split at hg
   ·rw [List.mem_singleton.1 hg];exact zhg (zd6 (bel_sub (bel_num _ _) (bel_num _ _)))
   ·cases hg
theorem stk_bel {s:zar} (hp:ProS s) (locs:List Int):zep s.vars.length (zbf s locs):=zga (zcn fun v _ g hg=>by
 unfold zfn at hg
 split at hg
 ·rw [List.mem_singleton.1 hg];exact belF_deny (canF_bel (zgp hp _).1 (zgp hp _).2)
 ·cases hg)
def zal (s:zar) (locs:List Int) (act:Int) (k:Nat):za0:=if act=-1 then atF s (zc7 (zer s (zbf s locs) (zac s locs (-1)).1)) k else if (zac s locs act).2=true then atF s (zc7 (zer s (zac s locs act).1.guard (zac s locs act).1++[atF s (zav s) 1])) k else zcq false
def zdh (s:zar) (act:Int) (k:Nat):za0:=if (za8 s act).2=true then atF s (zgu s (za8 s act).1) k else zcq false
theorem sam_bel {s:zar} {v:Nat} {t:zak} (hv:v<s.vars.length) (ht:Bel s.vars.length t):zep (2*s.vars.length) (samF s v t):=zhg (zd6 (bel_sub (bel_var (by omega)) (ht.mono (by omega))))
theorem stpS_bel {s:zar} {c:zbi} (hc:∀ m ∈ c.moves,Bel s.vars.length m.t):∀ g ∈ (List.range s.vars.length).flatMap (zd9 s c),zep (2*s.vars.length) g:=zcn fun v hv g hg=>by
 unfold zd9 at hg
 split at hg
 ·rw [List.mem_singleton.1 hg];exact sam_bel hv (valA_bel hc hv)
 ·cases hg
theorem stpL_bel {s:zar} {h:za0} {c:zbi} (hh:zep s.vars.length h) (hc:∀ m ∈ c.moves,Bel s.vars.length m.t):∀ g ∈ zer s h c,zep (2*s.vars.length) g:=fun g hg=>by
 unfold zer at hg
 rcases List.mem_cons.1 hg with rfl | hg
 ·exact hh.mono (by omega)
 ·exact stpS_bel hc g hg
theorem mov_bel {m n:Nat} {t:zak} (h:Bel m t) (hn:n<=1000000) (_hm:m<=1000000):Bel (m+n) (movZ t (zah (n:Int))):=fun v hv=>by
 have hc:zah (n:Int)=(n:Int):=by unfold zah;omega
 rw [hc,movZ,zde]
 refine coefZ_far fun p hp e=>?_
 obtain ⟨q,hq,rfl⟩:=List.mem_map.1 hp
 have:=(plain_bel h q (List.mem_filter.1 hq).1).2
 change q.v+(n:Int)=v at e
 omega
theorem movF_bel {m n:Nat} (hn:n<=1000000) (hm:m<=1000000) (f:za0) (h:zep m f):zep (m+n) (f.each (zc8 (n:Int))):=belF_each (t:=zc8 (n:Int)) (fun r hr=>mov_bel (t:=(cpR r).t) (zd6 hr) hn hm) f h
theorem off_nat (s:zar) (k:Nat):offZ s k=((k*s.vars.length:Nat):Int):=by unfold offZ;rw [Int.natCast_mul]
theorem at_bel {m:Nat} {s:zar} {k:Nat} (hv:s.vars.length<=8) (hk:k<=4096) (hm:m<=1000000) (f:za0) (h:zep m f):zep (m+k*s.vars.length) (atF s f k):=by
 unfold atF;rw [off_nat]
 have hb:k*s.vars.length<=4096*8:=Nat.mul_le_mul hk hv
 exact movF_bel (by omega) hm f h
theorem vars_in {lo hi:Int} (f:za0):f.rels (fun r=>∀ v,zao r.t.parts v≠0->lo<=v/\v<hi)->∀ v ∈ f.vars,lo<=v/\v<hi :=
 za0.ind (P:=fun f=>f.rels (fun r=>∀ v,zao r.t.parts v≠0->lo<=v/\v<hi)->∀ v ∈ f.vars,lo<=v/\v<hi) (fun k r ks ih h v hv=>by
  obtain ⟨h1,h2⟩:=(za0.rels_eq _ _).1 h
  change k=2->_ at h1
  change ∀ g ∈ cnt k ks,_ at h2
  rw [za0.vars_eq] at hv
  change v ∈ (if k=2 then zby r.t.parts else (cnt k ks).foldl (fun a g=>(za0.vars g).foldl zdm a) []) at hv
  split at hv
  ·rename_i e
   rcases ((zgw r.t.parts r.t.parts [] List.Pairwise.nil).2 v).1 hv with h0 | ⟨q,_,_,hne⟩
   ·cases h0
   ·exact h1 e v hne
  ·rcases (varsG_mem v _ []).1 hv with h0 | ⟨g,hg,hx⟩
   ·cases h0
   ·exact ih g (zb3 hg) (h2 g hg) v hx) f
theorem rels_tru (Q:zb0->Prop) (b:Bool):(zcq b).rels Q:=by
 rw [za0.rels_eq];exact ⟨fun e=>by cases b <;> exact absurd e (by decide),fun g hg=>absurd (zb3 hg) (by show g ∉ [];exact List.not_mem_nil)⟩
theorem rels_each9 {P Q:zb0->Prop} {t:zb0->zb0} (ht:∀ r,P r->Q (t (cpR r))) (f:za0):f.rels P->(f.each t).rels Q :=
 za0.ind (P:=fun f=>f.rels P->(f.each t).rels Q) (fun k r ks ih h=>by
  obtain ⟨h1,h2⟩:=(za0.rels_eq _ _).1 h
  rw [za0.each_eq]
  show (zee t k r (ks.map (za0.each t))).rels Q
  unfold zee
  split
  ·exact rels_tru _ _
  ·split
   ·rename_i e
    rw [za0.rels_eq];exact ⟨fun _=>ht r (h1 e),fun g hg=>absurd (zb3 hg) (by show g ∉ [];exact List.not_mem_nil)⟩
   ·split
    ·rename_i hk2 _
     rw [za0.rels_eq]
     refine ⟨fun e=>absurd e hk2,fun g hg=>?_⟩
     change g ∈ cnt k (cnt k (ks.map (za0.each t))) at hg
     rw [cnt_cnt,zci] at hg
     obtain ⟨q,hq,rfl⟩:=List.mem_map.1 hg
     exact ih q (zb3 hq) (h2 q hq)
    ·exact rels_tru _ _) f
theorem mov_in {m n:Nat} {t:zak} (h:Bel m t) (hn:n<=1000000) {v:Int} (hne:zao (movZ t (zah (n:Int))).parts v≠0):(n:Int)<=v/\v<((n+m:Nat):Int):=by
 have hc:zah (n:Int)=(n:Int):=by unfold zah;omega
 rw [hc,movZ,zde] at hne
 refine Classical.byContradiction fun hb=>hne (coefZ_far fun p hp e=>hb ?_)
 obtain ⟨q,hq,rfl⟩:=List.mem_map.1 hp
 have:=plain_bel h q (List.mem_filter.1 hq).1
 change q.v+(n:Int)=v at e
 omega
theorem at_in {m:Nat} {s:zar} {k:Nat} (hv:s.vars.length<=8) (hk:k<=4096) (f:za0) (h:zep m f):∀ v ∈ (atF s f k).vars,((k*s.vars.length:Nat):Int)<=v/\v<((k*s.vars.length+m:Nat):Int):=by
 have hb:k*s.vars.length<=4096*8:=Nat.mul_le_mul hk hv
 unfold atF
 rw [off_nat]
 exact vars_in _ (rels_each9 (t:=zc8 ((k*s.vars.length:Nat):Int)) (fun r hr v hne=>mov_in (t:=(cpR r).t) (zd6 hr) (by omega) hne) f h)
theorem vars_tru (b:Bool):(zcq b).vars=[]:=by cases b <;> (rw [za0.vars_eq];rfl)
theorem range_in {s:zar} {k:Nat} (hv:s.vars.length<=8) (hk:k<=4096):∀ v ∈ (atF s (zav s) k).vars,((k*s.vars.length:Nat):Int)<=v/\v<((k*s.vars.length+s.vars.length:Nat):Int):=at_in hv hk _ (rng_bel s)
theorem start_in {s:zar} (hp:ProS s) {k:Nat} (hv:s.vars.length<=8) (hk:k<=4096):∀ v ∈ (atF s (zc7 [s.init,zav s]) k).vars,((k*s.vars.length:Nat):Int)<=v/\v<((k*s.vars.length+s.vars.length:Nat):Int):=at_in hv hk _ (zga fun g hg=>by
 rcases List.mem_cons.1 hg with rfl | hg
 ·exact hp.init
 ·rw [List.mem_singleton.1 hg];exact rng_bel s)
theorem stuck_in {s:zar} (hp:ProS s) (locs:List Int) {k:Nat} (hv:s.vars.length<=8) (hk:k<=4096):∀ v ∈ (atF s (zbf s locs) k).vars,((k*s.vars.length:Nat):Int)<=v/\v<((k*s.vars.length+s.vars.length:Nat):Int):=at_in hv hk _ (stk_bel hp locs)
theorem can_in {s:zar} (hp:ProS s) (act:Int) {k:Nat} (hv:s.vars.length<=8) (hk:k<=4096):∀ v ∈ (zdh s act k).vars,((k*s.vars.length:Nat):Int)<=v/\v<((k*s.vars.length+s.vars.length:Nat):Int):=by
 unfold zdh
 split
 ·exact at_in hv hk _ (canF_bel (zgp hp act).1 (zgp hp act).2)
 ·intro v hx;rw [vars_tru] at hx;cases hx
theorem step_in {s:zar} (hp:ProS s) (locs:List Int) (act:Int) {k:Nat} (hv:s.vars.length<=8) (hk:k<=4096):∀ v ∈ (zal s locs act k).vars,((k*s.vars.length:Nat):Int)<=v/\v<((k*s.vars.length+2*s.vars.length:Nat):Int):=by
 unfold zal
 split
 ·exact at_in hv hk _ (zga (stpL_bel (stk_bel hp locs) (zgp hp (-1)).2))
 ·split
  ·refine at_in hv hk _ (zga fun g hg=>?_)
   rcases List.mem_append.1 hg with hg | hg
   ·exact stpL_bel (zgp hp act).1 (zgp hp act).2 g hg
   ·rw [List.mem_singleton.1 hg]
    exact zep.mono (at_bel (k:=1) hv (by decide) (by omega) _ (rng_bel s)) (by omega)
  ·intro v hx;rw [vars_tru] at hx;cases hx
theorem zhb {l:List Int} {lo hi:Int} (h:∀ v ∈ l,lo<=v/\v<hi) {v:Int} (hv:l[0]?=some v):¬ v<lo:=by
 have:=h v (List.mem_of_getElem? hv);omega
theorem last_in {l:List Int} {lo hi:Int} (h:∀ v ∈ l,lo<=v/\v<hi) {j:Nat} {v:Int} (hv:l[j]?=some v):¬ v>=hi:=by
 have:=h v (List.mem_of_getElem? hv);omega
theorem SSys0 :Fn Tryz.prog 30 [] [] (vG [.d (.sl 1 ([(⟨#[120]⟩:ByteArray)].map zfj)),.d (.sl 5 ([(zaw.mk true (ZI.mk false []) (ZI.of 3))].map zaw.d)),cI 0,cPs [],cB false,.d (nsl []),cB false,cFs [],.d (.sl 3 ([(zcg.mk (⟨#[112]⟩:ByteArray) [(⟨#[97]⟩:ByteArray),(⟨#[98]⟩:ByteArray)] (.raw zaf))].map zcg.d)),.d (.sl 10 [[.raw (.int .i64 0),.raw (.int .i64 0),.raw (.int .i64 1),.raw (.int .i64 0),.raw zaf,.raw (.bool false),nsl [],.raw (.bool false),.raw zaf,.sl 5 ([(zad.mk 0 false (zak.mk [(za3.mk 0 (ZI.of 1))] (ZI.of 1)))].map zad.d)]])]) []:=by
 refine Fn.body Tryz.func30 rfl 21 rfl fun w H B a h=>Jq 0 [] [(0,vp 0 0)] [(0,.box [.d (.raw zaf),.d (.raw zaf),cI 0,.d (.raw zaf),cB false,.d (nsl []),cB false,.d (.raw zaf),.d (.raw zaf),.d (.raw zaf)])] h fun a w h=>Jd 1 [(0,.call (SROf 1 ⟨by decide,by decide⟩) tc_0),(2,.g (bD 4 ([(za3.mk 0 (ZI.of 1))].map za3.d) [(3,vG ([cI 0]++zi (ZI.of 1)))] tb_9 (.cons (i:=0) (OV.tmp 3 _) (.nil)) (by kernel_rfl) (by simp [za3.d]))),(3,.call (SROf 1 ⟨by decide,by decide⟩) tc_0)] [] [(1,vp 1 0)] [(0,.box [.d (.raw zaf),.d (.raw zaf),cI 0,.d (.raw zaf),cB false,.d (nsl []),cB false,.d (.raw zaf),.d (.raw zaf),.d (.raw zaf)]),(1,.box ([cPs [(za3.mk 0 (ZI.of 1))]]++zi (ZI.of 1)))] h fun a w h=>Jd 2 [(0,.g (Op.buildD (d:=7) (len:=1) (rows:=[(⟨#[120]⟩:ByteArray)].map zfj) (rs:=[]) ty_16 (.cons (i:=0) (OV.const (.string (⟨#[120]⟩:ByteArray)) rfl) (.nil)) (by kernel_rfl) rfl (by simp [zfj]) (by decide) (by decide))),(1,.call (SROf 3 ⟨by decide,by decide⟩) tc_0),(3,.g (bD 10 ([(zaw.mk true (ZI.mk false []) (ZI.of 3))].map zaw.d) [(9,vG ([cB true,cB false,.d (nsl [])]++zi (ZI.of 3)))] kw_3 (.cons (i:=0) (OV.tmp 9 _) (.nil)) (by kernel_rfl) (by simp [zaw.d]))),(5,.g (Op.buildD (d:=12) (len:=2) (rows:=[(⟨#[97]⟩:ByteArray),(⟨#[98]⟩:ByteArray)].map zfj) (rs:=[]) ty_16 (.cons (i:=0) (OV.const (.string (⟨#[97]⟩:ByteArray)) rfl) (.cons (i:=1) (OV.const (.string (⟨#[98]⟩:ByteArray)) rfl) (.nil))) (by kernel_rfl) rfl (by simp [zfj]) (by decide) (by decide))),(7,.g (bD 14 ([(zcg.mk (⟨#[112]⟩:ByteArray) [(⟨#[97]⟩:ByteArray),(⟨#[98]⟩:ByteArray)] (.raw zaf))].map zcg.d) [(13,vG [.d (.raw (.string (⟨#[112]⟩:ByteArray))),.d (.sl 1 ([(⟨#[97]⟩:ByteArray),(⟨#[98]⟩:ByteArray)].map zfj)),.d (.raw zaf)])] kw_4 (.cons (i:=0) (OV.tmp 13 _) (.nil)) (by kernel_rfl) (by simp [zcg.d]))),(10,.g (bD 17 ([(zad.mk 0 false (zak.mk [(za3.mk 0 (ZI.of 1))] (ZI.of 1)))].map zad.d) [(16,vG ([cI 0,cB false,cPs [(za3.mk 0 (ZI.of 1))]]++zi (ZI.of 1)))] kw_5 (.cons (i:=0) (OV.tmp 16 _) (.nil)) (by kernel_rfl) (by simp [zad.d]))),(12,.g (bD 19 ([[.raw (.int .i64 0),.raw (.int .i64 0),.raw (.int .i64 1),.raw (.int .i64 0),.raw zaf,.raw (.bool false),nsl [],.raw (.bool false),.raw zaf,.sl 5 ([(zad.mk 0 false (zak.mk [(za3.mk 0 (ZI.of 1))] (ZI.of 1)))].map zad.d)]]) [(18,vG [cI 0,cI 0,cI 1,cI 0,.d (.raw zaf),cB false,.d (nsl []),cB false,.d (.raw zaf),.d (.sl 5 ([(zad.mk 0 false (zak.mk [(za3.mk 0 (ZI.of 1))] (ZI.of 1)))].map zad.d))])] kw_6 (.cons (i:=0) (OV.tmp 18 _) (.nil)) (by kernel_rfl) (by simp)))] [1] [] [(0,.box [.d (.sl 1 ([(⟨#[120]⟩:ByteArray)].map zfj)),.d (.sl 5 ([(zaw.mk true (ZI.mk false []) (ZI.of 3))].map zaw.d)),cI 0,.d (.raw zaf),cB false,.d (nsl []),cB false,.d (.raw zaf),.d (.sl 3 ([(zcg.mk (⟨#[112]⟩:ByteArray) [(⟨#[97]⟩:ByteArray),(⟨#[98]⟩:ByteArray)] (.raw zaf))].map zcg.d)),.d (.sl 10 [[.raw (.int .i64 0),.raw (.int .i64 0),.raw (.int .i64 1),.raw (.int .i64 0),.raw zaf,.raw (.bool false),nsl [],.raw (.bool false),.raw zaf,.sl 5 ([(zad.mk 0 false (zak.mk [(za3.mk 0 (ZI.of 1))] (ZI.of 1)))].map zad.d)]])])] h fun a w h=>qV ?_
 replace h:=zbm 0 3 3 [.d (.sl 1 ([(⟨#[120]⟩:ByteArray)].map zfj)),.d (.sl 5 ([(zaw.mk true (ZI.mk false []) (ZI.of 3))].map zaw.d)),cI 0,.d (.raw zaf),cB false,.d (nsl []),cB false,.d (.raw zaf),.d (.sl 3 ([(zcg.mk (⟨#[112]⟩:ByteArray) [(⟨#[97]⟩:ByteArray),(⟨#[98]⟩:ByteArray)] (.raw zaf))].map zcg.d)),.d (.sl 10 [[.raw (.int .i64 0),.raw (.int .i64 0),.raw (.int .i64 1),.raw (.int .i64 0),.raw zaf,.raw (.bool false),nsl [],.raw (.bool false),.raw zaf,.sl 5 ([(zad.mk 0 false (zak.mk [(za3.mk 0 (ZI.of 1))] (ZI.of 1)))].map zad.d)]])] [(0,vp 0 0)] [(0,.box [.d (.sl 1 ([(⟨#[120]⟩:ByteArray)].map zfj)),.d (.sl 5 ([(zaw.mk true (ZI.mk false []) (ZI.of 3))].map zaw.d)),cI 0,cPs [],cB false,.d (nsl []),cB false,.d (.raw zaf),.d (.sl 3 ([(zcg.mk (⟨#[112]⟩:ByteArray) [(⟨#[97]⟩:ByteArray),(⟨#[98]⟩:ByteArray)] (.raw zaf))].map zcg.d)),.d (.sl 10 [[.raw (.int .i64 0),.raw (.int .i64 0),.raw (.int .i64 1),.raw (.int .i64 0),.raw zaf,.raw (.bool false),nsl [],.raw (.bool false),.raw zaf,.sl 5 ([(zad.mk 0 false (zak.mk [(za3.mk 0 (ZI.of 1))] (ZI.of 1)))].map zad.d)]])])] h rfl rfl;replace h:=zbm 0 7 6 [.d (.sl 1 ([(⟨#[120]⟩:ByteArray)].map zfj)),.d (.sl 5 ([(zaw.mk true (ZI.mk false []) (ZI.of 3))].map zaw.d)),cI 0,cPs [],cB false,.d (nsl []),cB false,.d (.raw zaf),.d (.sl 3 ([(zcg.mk (⟨#[112]⟩:ByteArray) [(⟨#[97]⟩:ByteArray),(⟨#[98]⟩:ByteArray)] (.raw zaf))].map zcg.d)),.d (.sl 10 [[.raw (.int .i64 0),.raw (.int .i64 0),.raw (.int .i64 1),.raw (.int .i64 0),.raw zaf,.raw (.bool false),nsl [],.raw (.bool false),.raw zaf,.sl 5 ([(zad.mk 0 false (zak.mk [(za3.mk 0 (ZI.of 1))] (ZI.of 1)))].map zad.d)]])] [(0,vp 0 0)] [(0,.box [.d (.sl 1 ([(⟨#[120]⟩:ByteArray)].map zfj)),.d (.sl 5 ([(zaw.mk true (ZI.mk false []) (ZI.of 3))].map zaw.d)),cI 0,cPs [],cB false,.d (nsl []),cB false,cFs [],.d (.sl 3 ([(zcg.mk (⟨#[112]⟩:ByteArray) [(⟨#[97]⟩:ByteArray),(⟨#[98]⟩:ByteArray)] (.raw zaf))].map zcg.d)),.d (.sl 10 [[.raw (.int .i64 0),.raw (.int .i64 0),.raw (.int .i64 1),.raw (.int .i64 0),.raw zaf,.raw (.bool false),nsl [],.raw (.bool false),.raw zaf,.sl 5 ([(zad.mk 0 false (zak.mk [(za3.mk 0 (ZI.of 1))] (ZI.of 1)))].map zad.d)]])])] h rfl rfl;refine rA 0 [.d (.sl 1 ([(⟨#[120]⟩:ByteArray)].map zfj)),.d (.sl 5 ([(zaw.mk true (ZI.mk false []) (ZI.of 3))].map zaw.d)),cI 0,cPs [],cB false,.d (nsl []),cB false,cFs [],.d (.sl 3 ([(zcg.mk (⟨#[112]⟩:ByteArray) [(⟨#[97]⟩:ByteArray),(⟨#[98]⟩:ByteArray)] (.raw zaf))].map zcg.d)),.d (.sl 10 [[.raw (.int .i64 0),.raw (.int .i64 0),.raw (.int .i64 1),.raw (.int .i64 0),.raw zaf,.raw (.bool false),nsl [],.raw (.bool false),.raw zaf,.sl 5 ([(zad.mk 0 false (zak.mk [(za3.mk 0 (ZI.of 1))] (ZI.of 1)))].map zad.d)]])] h kw_7 rfl ?_;rfl
theorem SSys:Fn Tryz.prog 30 [] [] (vG (zan zbw)) []:=by
 refine Fn.resw SSys0 (WkV.agg _ _ (.same _ _ _ (.same _ _ _ (.same _ _ _ (.same _ _ _ (.same _ _ _ (.same _ _ _ (.same _ _ _ (.same _ _ _ (.same _ _ _ (.d _ _ _ _ ?_ .nil)))))))))))
 refine Wk.sl _ _ _ (.cons _ _ _ _ ?_ .nil)
 refine .cons _ _ _ _ (.refl _) (.cons _ _ _ _ (.refl _) (.cons _ _ _ _ (.refl _) (.cons _ _ _ _ (.refl _) (.cons _ _ _ _ (.nil _) (.cons _ _ _ _ (.refl _) (.cons _ _ _ _ (.refl _) (.cons _ _ _ _ (.refl _) (.cons _ _ _ _ (.nil _) (.cons _ _ _ _ (.refl _) .nil)))))))))
theorem zj2 (ns:List Int) (hl:ns.length<=1000) (hns:∀ z ∈ ns,-9223372036854775808<=z/\z<=9223372036854775807):Fn Tryz.prog 33 [] [(vIs ns)] (vZs (ns.map ZI.of)) []:=by
 refine Fn.body Tryz.func33 rfl 20 rfl fun w H B a h=>Jq 5 [] [(0,(vIs ns)),(2,vW zaf)] [] h fun a w h=>Jd 5 [(0,.g (Op.buildE (d:=6) (n:=5) ty_5))] [] [(3,vO 5 0)] [(5,.row 28 2 ([].map ziD))] h fun a w h=>qW (Je 6 [(1,.len (za6 1 zai ns))] [0] [(7,(vIs ns)),(8,vN ns.length),(9,vI 0)] h fun a w h=>qZ ?_)
 refine zaq (ι:=(Nat)) (fun j=>j<=ns.length)
   (fun j=>[(2,vW zaf),(3,vO 5 ((ns.take j).map ZI.of).length),(7,(vIs ns)),(8,vN ns.length),(9,vN j)])
   (fun j=>[(5,.row 28 2 (((ns.take j).map ZI.of).map ziD))])
   (fun j=>ns.length - j) 0 ?_ h (by kernel_rfl) (by kernel_rfl) ?_
 ·exact Nat.zero_le _
 clear h;rintro j a w hI h;have lmj:((ns.take j).map ZI.of).length<=j:=by rw [List.length_map,List.length_take];omega
 refine Je 6 [] [] [(10,vb (decide ((j:Int)<(ns.length:Int))))] h fun a w h=>qW (zam ((j:Int)<(ns.length:Int)) h (fun hc1 hc1'=>?_) (fun hc2 hc2'=>?_))
 ·refine qU (za1 (qW (qZ ?_)));obtain ⟨x1,hx1⟩:=gl ns j;refine Je 6 [(0,.g (xD 11 7 tn_1 (zab hx1 (f:=zai)) (OV.tmp 9 _)))] [10] [(5,vI x1)] h fun a w h=>Jm 6 [(2,.call (SROf x1 (hns x1 (lM hx1))) tc_0),(3,.g (Op.buildO (d:=16) (n:=6) (len:=1) (rows:=[(ZI.of x1)].map ziD) (rs:=[(15,vz (ZI.of x1))]) ty_5 (.cons (i:=0) (OV.tmp 15 _) (.nil)) (by kernel_rfl) rfl (by simp [ziD]) (by decide) (by decide))),(4,.g (Op.appOO (d:=17) (t:=13) (u:=16) (n:=5) (sn:=6) (n':=7) (len:=((ns.take j).map ZI.of).length) (len2:=1) (len':=(((ns.take j).map ZI.of)++[(ZI.of x1)]).length) (rows:=((ns.take j).map ZI.of).map ziD) (rows2:=[(ZI.of x1)].map ziD) (rows':=(((ns.take j).map ZI.of)++[(ZI.of x1)]).map ziD) kk_4 (by first | exact (List.length_map _).symm | simp) (by first | exact (List.length_map _).symm | simp) (by first | (rw [List.length_append,List.length_map];done) | simp) (by simp) (by first | omega | (simp at *;done) | (simp at *;omega))))] [5] [(3,vO 7 (((ns.take j).map ZI.of)++[(ZI.of x1)]).length)] [(7,.row 28 2 ((((ns.take j).map ZI.of)++[(ZI.of x1)]).map ziD))] h fun a w h=>za9 (za1 (Jf 8 [(0,.j1 j)] [] [(9,vI ((j:Int)+1))] h fun a w h=>za1 ?_));rw [show ((((ns.take j).map ZI.of)++[(ZI.of x1)]):List ZI)=((ns.take (j+1)).map ZI.of) from (zg8 hx1)] at h;replace h:=zec 7 5 [(2,vW zaf),(3,vO 5 ((ns.take (j+1)).map ZI.of).length),(7,(vIs ns)),(8,vN ns.length),(9,vI ((j:Int)+1))] [(5,.row 28 2 (((ns.take (j+1)).map ZI.of).map ziD))] h;refine zag (x:=j) (y:=j+1) h ?_ ?_
  ·have:=zaj hx1;show j+1<=ns.length;omega
  show ns.length - (j+1)<ns.length - j;have:=zaj hx1;omega
 refine wp_exit (zaa (zaa (za5 (za1 (Jp 8 [] [(2,vO 5 ((ns.take j).map ZI.of).length)] h fun a w h=>qV ?_)))));rw [show (((ns.take j).map ZI.of):List ZI)=(ns.map ZI.of) from (by rw [List.take_of_length_le (by omega)])] at h;replace h:=ziv 5 2 28 ((ns.map ZI.of).map ziD) [(2,(vZs (ns.map ZI.of)))] [] h rfl (show zbx _ [(ns.map ZI.of).length] from ⟨by first | exact (List.length_map _).symm | (simp;done) | (simp;omega),trivial⟩) trivial;refine rT (.c (cZs (ns.map ZI.of))) h rfl ?_;rfl
theorem zj3 (f:za0) (vs:List ZI) {M:Nat} (hM:M<=300) (hv:VOk M vs) (hf:f.okB 1000 1000):Fn Tryz.prog 32 [] [(vF f),(vZs vs)] (vb (za0.holds vs f)) []:=by
 refine Fn.body Tryz.func32 rfl 8 rfl fun w H B a h=>Jq 5 [] [(1,(vZs vs)),(2,vp 5 0),(4,vb false)] [(5,.box (zF f))] h fun a w h=>Jq 6 [(2,.call (LR5HoldsW vs hM hv f hf) ke_10)] [(4,vb (za0.holds vs f))] [] h fun a w h=>qV (rT (.c (cB (za0.holds vs f))) h rfl ?_)
 rfl
theorem mg6_10:za4 Tryz.prog 44:=za4.mk' (by kernel_rfl)
theorem mg6_13:za4 Tryz.prog 17:=za4.mk' (by kernel_rfl)
theorem Lsame (s:zar) (v:Nat) (t:zak) (hs:zba 3 s) (hv:v<=1000) (ht:TOk 20 20 t):Fn Tryz.prog 44 [] [vG (zan s),vN v,(vT t)] (vF (samF s v t)) []:=by
 have lvs:=hs.vars;refine Fn.body Tryz.func44 rfl 17 rfl fun w H B a h=>Jq 0 [] [(1,vN v),(3,vp 0 0),(5,vp 1 0),(6,vp 2 0)] [(0,.box (zan s)),(1,.box (zT t)),(2,.box zF0)] h fun a w h=>Jq 3 [(3,.len (za6 1 zfj s.vars)),(4,.add .i64 (m:=(v:Int)) (n:=(s.vars.length:Int)) i6),(5,.call (Lvariable (v+s.vars.length)) mb1_11),(7,.call (STSub (zdt ((v+s.vars.length:Nat):Int)) t ((zgl _).mono (by decide) (by decide)) (ht.mono (by decide) (by decide))) to_9),(8,.call (LZero (subT (zdt ((v+s.vars.length:Nat):Int)) t) ((sub_tok (n:=1) (m:=20) (L:=20) (zgl _) ht (by decide)).mono (by decide) (by decide))) hc_14),(9,.call (LOf (zroR (subT (zdt ((v+s.vars.length:Nat):Int)) t)) (((sub_tok (n:=1) (m:=20) (L:=20) (zgl _) ht (by decide)).plain (by decide)).mono (by decide) (by decide))) la_9)] [(6,vp 2 0)] [(2,.box (zF (zd7 (zroR (subT (zdt ((v+s.vars.length:Nat):Int)) t)))))] h fun a w h=>qV (rA 2 (zF (zd7 (zroR (subT (zdt ((v+s.vars.length:Nat):Int)) t)))) h zch rfl ?_)
 rfl
theorem LStepM (s:zar) (locs:List Int) (k:Nat) (hs:zba 3 s) (hw:zhk s) (hl:locs.length<=9223372036854775807) (hk:k<=4096):Fn Tryz.prog 13 [] [vG (zan s),(vIs locs),vI (-1),vN k] (vF (atF s (zc7 (zer s (zbf s locs) (zac s locs (-1)).1)) k)) []:=by
 have lvs:=hs.vars;have hsl:∀ g ∈ (zer s (zbf s locs) (zac s locs (-1)).1),g.okB 40 60:=stpL_ok (za0.okB_mono (by decide) (by decide) _ (stkF_ok hs hw locs)) (zbj hs _);have hslen:=stpL_len s (zbf s locs) (zac s locs (-1)).1;refine Fn.body Tryz.func13 rfl 74 rfl fun w H B a h=>Jq 5 [] [(1,(vIs locs)),(2,vI (-1)),(3,vN k),(4,vp 5 0),(8,vp 6 0)] [(5,.box (zan s)),(6,.box zF0)] h fun a w h=>Jd 7 [(0,.g (Op.buildE (d:=15) (n:=7) zh7))] [] [(9,vO 7 0)] [(5,.box (zan s)),(6,.box zF0),(7,.row 35 6 ([].map za0.d))] h fun a w h=>Jd 8 [(3,.call (Lbegins s locs (-1) hs hl) md3_12)] [] [(10,vp 8 0),(11,vb (zac s locs (-1)).2)] [(5,.box (zan s)),(6,.box zF0),(7,.row 35 6 ([].map za0.d)),(8,.box ([cI (zac s locs (-1)).1.proc,cI (zac s locs (-1)).1.from_,cI (zac s locs (-1)).1.to_,cI (zac s locs (-1)).1.guard.kind,cPs (zac s locs (-1)).1.guard.r.t.parts]++zi (zac s locs (-1)).1.guard.r.t.k++[cB (zac s locs (-1)).1.guard.r.eq,cFs (zac s locs (-1)).1.guard.kids,.d (.sl 5 ((zac s locs (-1)).1.moves.map zad.d))]))] h fun a w h=>qW (qZ (Je 9 [(1,.cmp (op:=.eql) (m:=(-1)) (n:=(-1)) (b:=true) .i64 rfl)] [] [(28,vb true)] h fun a w h=>cS true h (fun _=>?_) nofun))
 refine Jm 9 [(3,.call (Lstuck s locs hs hw hl) md3_15),(4,.g (Op.buildO (d:=35) (n:=9) (len:=1) (rows:=[(zbf s locs)].map za0.d) (rs:=[(34,(vF (zbf s locs)))]) zh7 (.cons (i:=0) (OV.tmp 34 _) (.nil)) (by simp only [List.map_cons,List.map_nil,List.flatten_cons,List.flatten_nil,List.append_nil,za0.d_eq];kernel_rfl) rfl (by simp [za0.d_len]) (by decide) (by decide))),(5,.g (Op.appOO (d:=36) (t:=31) (u:=35) (n:=7) (sn:=9) (n':=10) (len:=0) (len2:=1) (len':=[(zbf s locs)].length) (rows:=[].map za0.d) (rows2:=[(zbf s locs)].map za0.d) (rows':=[(zbf s locs)].map za0.d) la_7 (by first | exact (List.length_map _).symm | simp) (by first | exact (List.length_map _).symm | simp) (by first | (rw [List.length_append,List.length_map];done) | simp) (by simp) (by first | omega | (simp at *;done) | (simp at *;omega))))] [1,11,28] [(9,vO 10 ([(zbf s locs)].length))] [(5,.box (zan s)),(6,.box zF0),(8,.box ([cI (zac s locs (-1)).1.proc,cI (zac s locs (-1)).1.from_,cI (zac s locs (-1)).1.to_,cI (zac s locs (-1)).1.guard.kind,cPs (zac s locs (-1)).1.guard.r.t.parts]++zi (zac s locs (-1)).1.guard.r.t.k++[cB (zac s locs (-1)).1.guard.r.eq,cFs (zac s locs (-1)).1.guard.kids,.d (.sl 5 ((zac s locs (-1)).1.moves.map zad.d))])),(10,.row 35 6 ([(zbf s locs)].map za0.d))] h fun a w h=>za9 (za1 (qW (Je 11 [(2,.len (za6 1 zfj s.vars))] [] [(43,vN s.vars.length),(44,vI 0)] h fun a w h=>qZ ?_)));replace h:=cv (fun z_:List za0=>F.of [(2,vI (-1)),(3,vN k),(4,vp 5 0),(8,vp 6 0),(9,vO 10 z_.length),(10,vp 8 0),(43,vN s.vars.length),(44,vI 0)] [(5,.box (zan s)),(6,.box zF0),(8,.box ([cI (zac s locs (-1)).1.proc,cI (zac s locs (-1)).1.from_,cI (zac s locs (-1)).1.to_,cI (zac s locs (-1)).1.guard.kind,cPs (zac s locs (-1)).1.guard.r.t.parts]++zi (zac s locs (-1)).1.guard.r.t.k++[cB (zac s locs (-1)).1.guard.r.eq,cFs (zac s locs (-1)).1.guard.kids,.d (.sl 5 ((zac s locs (-1)).1.moves.map zad.d))])),(10,.row 35 6 (z_.map za0.d))]) (show ([(zbf s locs)]:List za0)=([(zbf s locs)]++(List.range 0).flatMap (zd9 s (zac s locs (-1)).1)) from (by simp)) h
 refine zaq (ι:=(Nat)) (fun j=>j<=s.vars.length)
   (fun j=>[(2,vI (-1)),(3,vN k),(4,vp 5 0),(8,vp 6 0),(9,vO 10 ([(zbf s locs)]++(List.range j).flatMap (zd9 s (zac s locs (-1)).1)).length),(10,vp 8 0),(43,vN s.vars.length),(44,vN j)])
   (fun j=>[(5,.box (zan s)),(6,.box zF0),(8,.box ([cI (zac s locs (-1)).1.proc,cI (zac s locs (-1)).1.from_,cI (zac s locs (-1)).1.to_,cI (zac s locs (-1)).1.guard.kind,cPs (zac s locs (-1)).1.guard.r.t.parts]++zi (zac s locs (-1)).1.guard.r.t.k++[cB (zac s locs (-1)).1.guard.r.eq,cFs (zac s locs (-1)).1.guard.kids,.d (.sl 5 ((zac s locs (-1)).1.moves.map zad.d))])),(10,.row 35 6 (([(zbf s locs)]++(List.range j).flatMap (zd9 s (zac s locs (-1)).1)).map za0.d))])
   (fun j=>s.vars.length - j) 0 ?_ h (by kernel_rfl) (by kernel_rfl) ?_
 ·exact Nat.zero_le _
 clear h;rintro j a w hI h;have lsj:=zbz (zd9 s (zac s locs (-1)).1) (stpS_len s (zac s locs (-1)).1) j;refine Je 11 [] [] [(45,vb (decide ((j:Int)<(s.vars.length:Int))))] h fun a w h=>qW (zam ((j:Int)<(s.vars.length:Int)) h (fun hc1 hc1'=>?_) (fun hc4 hc4'=>?_))
 ·refine qU (za1 (qW (qZ (Je 11 [] [45] [(12,vN j)] h fun a w h=>Jd 11 [(2,.call (Lvalue (zac s locs (-1)).1 j (zbj hs _)) mc2_15)] [] [(13,vp 11 0),(14,vb (zbu (zac s locs (-1)).1 j).2)] [(5,.box (zan s)),(6,.box zF0),(8,.box ([cI (zac s locs (-1)).1.proc,cI (zac s locs (-1)).1.from_,cI (zac s locs (-1)).1.to_,cI (zac s locs (-1)).1.guard.kind,cPs (zac s locs (-1)).1.guard.r.t.parts]++zi (zac s locs (-1)).1.guard.r.t.k++[cB (zac s locs (-1)).1.guard.r.eq,cFs (zac s locs (-1)).1.guard.kids,.d (.sl 5 ((zac s locs (-1)).1.moves.map zad.d))])),(10,.row 35 6 (([(zbf s locs)]++(List.range j).flatMap (zd9 s (zac s locs (-1)).1)).map za0.d)),(11,.box (zT (zbu (zac s locs (-1)).1 j).1))] h fun a w h=>Je 12 [] [14] [(53,vb (zbu (zac s locs (-1)).1 j).2)] h fun a w h=>cS (zbu (zac s locs (-1)).1 j).2 h (fun hc2=>?_) (fun hc3=>?_)))))
  ·refine Jm 12 [(4,.call (Lsame s j (zbu (zac s locs (-1)).1 j).1 hs (by omega) (zhm (zbj hs _) _)) mg6_10),(5,.g (Op.buildO (d:=59) (n:=12) (len:=1) (rows:=[(samF s j (zbu (zac s locs (-1)).1 j).1)].map za0.d) (rs:=[(58,(vF (samF s j (zbu (zac s locs (-1)).1 j).1)))]) zh7 (.cons (i:=0) (OV.tmp 58 _) (.nil)) (by simp only [List.map_cons,List.map_nil,List.flatten_cons,List.flatten_nil,List.append_nil,za0.d_eq];kernel_rfl) rfl (by simp [za0.d_len]) (by decide) (by decide))),(6,.g (Op.appOO (d:=60) (t:=54) (u:=59) (n:=10) (sn:=12) (n':=13) (len:=([(zbf s locs)]++(List.range j).flatMap (zd9 s (zac s locs (-1)).1)).length) (len2:=1) (len':=(([(zbf s locs)]++(List.range j).flatMap (zd9 s (zac s locs (-1)).1))++[(samF s j (zbu (zac s locs (-1)).1 j).1)]).length) (rows:=([(zbf s locs)]++(List.range j).flatMap (zd9 s (zac s locs (-1)).1)).map za0.d) (rows2:=[(samF s j (zbu (zac s locs (-1)).1 j).1)].map za0.d) (rows':=(([(zbf s locs)]++(List.range j).flatMap (zd9 s (zac s locs (-1)).1))++[(samF s j (zbu (zac s locs (-1)).1 j).1)]).map za0.d) la_7 (by first | exact (List.length_map _).symm | simp) (by first | exact (List.length_map _).symm | simp) (by first | (rw [List.length_append,List.length_map];done) | simp) (by simp) (by first | omega | (simp at *;done) | (simp at *;omega))))] [12,13,53] [(9,vO 13 (([(zbf s locs)]++(List.range j).flatMap (zd9 s (zac s locs (-1)).1))++[(samF s j (zbu (zac s locs (-1)).1 j).1)]).length)] [(5,.box (zan s)),(6,.box zF0),(8,.box ([cI (zac s locs (-1)).1.proc,cI (zac s locs (-1)).1.from_,cI (zac s locs (-1)).1.to_,cI (zac s locs (-1)).1.guard.kind,cPs (zac s locs (-1)).1.guard.r.t.parts]++zi (zac s locs (-1)).1.guard.r.t.k++[cB (zac s locs (-1)).1.guard.r.eq,cFs (zac s locs (-1)).1.guard.kids,.d (.sl 5 ((zac s locs (-1)).1.moves.map zad.d))])),(13,.row 35 6 ((([(zbf s locs)]++(List.range j).flatMap (zd9 s (zac s locs (-1)).1))++[(samF s j (zbu (zac s locs (-1)).1 j).1)]).map za0.d))] h fun a w h=>za9 (za1 (Jf 14 [(0,.j1 j)] [] [(44,vI ((j:Int)+1))] h fun a w h=>za1 ?_));rw [show ((([(zbf s locs)]++(List.range j).flatMap (zd9 s (zac s locs (-1)).1))++[(samF s j (zbu (zac s locs (-1)).1 j).1)]):List za0)=([(zbf s locs)]++(List.range (j+1)).flatMap (zd9 s (zac s locs (-1)).1)) from (by rw [zbr (zd9 s (zac s locs (-1)).1) j,show zd9 s (zac s locs (-1)).1 j=[samF s j (zbu (zac s locs (-1)).1 j).1] from if_pos hc2];first | done | simp)] at h;replace h:=zec 13 10 [(2,vI (-1)),(3,vN k),(4,vp 5 0),(8,vp 6 0),(9,vO 10 ([(zbf s locs)]++(List.range (j+1)).flatMap (zd9 s (zac s locs (-1)).1)).length),(10,vp 8 0),(43,vN s.vars.length),(44,vI ((j:Int)+1))] [(5,.box (zan s)),(6,.box zF0),(8,.box ([cI (zac s locs (-1)).1.proc,cI (zac s locs (-1)).1.from_,cI (zac s locs (-1)).1.to_,cI (zac s locs (-1)).1.guard.kind,cPs (zac s locs (-1)).1.guard.r.t.parts]++zi (zac s locs (-1)).1.guard.r.t.k++[cB (zac s locs (-1)).1.guard.r.eq,cFs (zac s locs (-1)).1.guard.kids,.d (.sl 5 ((zac s locs (-1)).1.moves.map zad.d))])),(10,.row 35 6 (([(zbf s locs)]++(List.range (j+1)).flatMap (zd9 s (zac s locs (-1)).1)).map za0.d))] h;refine zag (x:=j) (y:=j+1) h ?_ ?_
   ·have:=dT hc1;show j+1<=s.vars.length;omega
   show s.vars.length - (j+1)<s.vars.length - j;have:=dT hc1;omega
  refine qU (za9 (za1 (Jm 14 [(0,.j1 j)] [12,13,53] [(44,vI ((j:Int)+1))] [(5,.box (zan s)),(6,.box zF0),(8,.box ([cI (zac s locs (-1)).1.proc,cI (zac s locs (-1)).1.from_,cI (zac s locs (-1)).1.to_,cI (zac s locs (-1)).1.guard.kind,cPs (zac s locs (-1)).1.guard.r.t.parts]++zi (zac s locs (-1)).1.guard.r.t.k++[cB (zac s locs (-1)).1.guard.r.eq,cFs (zac s locs (-1)).1.guard.kids,.d (.sl 5 ((zac s locs (-1)).1.moves.map zad.d))])),(10,.row 35 6 (([(zbf s locs)]++(List.range j).flatMap (zd9 s (zac s locs (-1)).1)).map za0.d))] h fun a w h=>za1 ?_)));rw [show (([(zbf s locs)]++(List.range j).flatMap (zd9 s (zac s locs (-1)).1)):List za0)=([(zbf s locs)]++(List.range (j+1)).flatMap (zd9 s (zac s locs (-1)).1)) from (by rw [zbr (zd9 s (zac s locs (-1)).1) j,show zd9 s (zac s locs (-1)).1 j=[] from if_neg (by rw [hc3];exact Bool.noConfusion)];first | done | simp)] at h;refine zag (x:=j) (y:=j+1) h ?_ ?_
  ·have:=dT hc1;show j+1<=s.vars.length;omega
  show s.vars.length - (j+1)<s.vars.length - j;have:=dT hc1;omega
 refine wp_exit (zaa (zaa (za5 (za1 (qW ?_)))));rw [show (([(zbf s locs)]++(List.range j).flatMap (zd9 s (zac s locs (-1)).1)):List za0)=(zer s (zbf s locs) (zac s locs (-1)).1) from (by rw [show j=s.vars.length by have:=dF hc4;omega];rfl)] at h;replace h:=ziv 10 6 35 ((zer s (zbf s locs) (zac s locs (-1)).1).map za0.d) [(2,vI (-1)),(3,vN k),(4,vp 5 0),(8,vp 6 0),(9,(vFs (zer s (zbf s locs) (zac s locs (-1)).1))),(10,vp 8 0),(43,vN s.vars.length),(44,vN j),(45,vb (decide ((j:Int)<(s.vars.length:Int))))] [(5,.box (zan s)),(6,.box zF0),(8,.box ([cI (zac s locs (-1)).1.proc,cI (zac s locs (-1)).1.from_,cI (zac s locs (-1)).1.to_,cI (zac s locs (-1)).1.guard.kind,cPs (zac s locs (-1)).1.guard.r.t.parts]++zi (zac s locs (-1)).1.guard.r.t.k++[cB (zac s locs (-1)).1.guard.r.eq,cFs (zac s locs (-1)).1.guard.kids,.d (.sl 5 ((zac s locs (-1)).1.moves.map zad.d))]))] h rfl (show zbx _ [(zer s (zbf s locs) (zac s locs (-1)).1).length] from ⟨by first | exact (List.length_map _).symm | (simp;done) | (simp;omega),trivial⟩) trivial;refine Jd 14 [(1,.cmp (op:=.neq) (m:=(-1)) (n:=(-1)) (b:=false) .i64 rfl)] [2,10,43,44,45] [(63,vb false)] [(5,.box (zan s)),(6,.box zF0)] h fun a w h=>zap false h rfl nofun (fun _=>qU (za1 (Jq 14 [(2,.call (LAll (zer s (zbf s locs) (zac s locs (-1)).1) (fun g hg=>za0.okB_mono (by decide) (by decide) _ (hsl g hg)) (by first | omega | (rw [List.length_append,List.length_singleton];omega))) zii),(4,.call (Lat s (zc7 (zer s (zbf s locs) (zac s locs (-1)).1)) k hs hk (za0.okB_mono (Nat.le_refl _) (by decide) _ (ze9 (by decide) hsl (by first | omega | (rw [List.length_append,List.length_singleton];omega))))) md3_4)] [(8,vp 6 0)] [(6,.box (zF (atF s (zc7 (zer s (zbf s locs) (zac s locs (-1)).1)) k)))] h fun a w h=>qV (rA 6 (zF (atF s (zc7 (zer s (zbf s locs) (zac s locs (-1)).1)) k)) h zch rfl ?_))))
 rfl
theorem LStepS (s:zar) (locs:List Int) (act:Int) (k:Nat) (ha:act≠-1) (hb:(zac s locs act).2=true) (hs:zba 3 s) (hw:zhk s) (hl:locs.length<=9223372036854775807) (hk:k<=4096):Fn Tryz.prog 13 [] [vG (zan s),(vIs locs),vI act,vN k] (vF (atF s (zc7 ((zer s (zac s locs act).1.guard (zac s locs act).1)++[atF s (zav s) 1])) k)) []:=by
 have lvs:=hs.vars;have hsl:∀ g ∈ (zer s (zac s locs act).1.guard (zac s locs act).1),g.okB 40 60:=stpL_ok (za0.okB_mono (by decide) (by decide) _ (zfb (zbj hs act).guard (Nat.le_trans (zeg hw act) (by decide)))) (zbj hs _);have hslen:=stpL_len s (zac s locs act).1.guard (zac s locs act).1;have hsl2:∀ g ∈ ((zer s (zac s locs act).1.guard (zac s locs act).1)++[atF s (zav s) 1]),g.okB 40 103:=fun g hg=>(List.mem_append.1 hg).elim (fun h=>za0.okB_mono (by decide) (by decide) _ (hsl g h)) (fun h=>by rw [List.mem_singleton.1 h];exact rng1_ok hs)
 refine Fn.body Tryz.func13 rfl 74 rfl fun w H B a h=>Jq 5 [] [(1,(vIs locs)),(2,vI act),(3,vN k),(4,vp 5 0),(8,vp 6 0)] [(5,.box (zan s)),(6,.box zF0)] h fun a w h=>Jd 7 [(0,.g (Op.buildE (d:=15) (n:=7) zh7))] [] [(9,vO 7 0)] [(5,.box (zan s)),(6,.box zF0),(7,.row 35 6 ([].map za0.d))] h fun a w h=>Jd 8 [(3,.call (Lbegins s locs act hs hl) md3_12)] [] [(10,vp 8 0),(11,vb (zac s locs act).2)] [(5,.box (zan s)),(6,.box zF0),(7,.row 35 6 ([].map za0.d)),(8,.box ([cI (zac s locs act).1.proc,cI (zac s locs act).1.from_,cI (zac s locs act).1.to_,cI (zac s locs act).1.guard.kind,cPs (zac s locs act).1.guard.r.t.parts]++zi (zac s locs act).1.guard.r.t.k++[cB (zac s locs act).1.guard.r.eq,cFs (zac s locs act).1.guard.kids,.d (.sl 5 ((zac s locs act).1.moves.map zad.d))]))] h fun a w h=>qW (qZ (Je 9 [(1,.cmp (op:=.eql) (m:=act) (n:=(-1)) (b:=false) .i64 (beq_eq_false_iff_ne.2 ha))] [] [(28,vb false)] h fun a w h=>zap false h rfl nofun (fun _=>Je 9 [] [1,11,28] [(37,vb (!(zac s locs act).2))] h fun a w h=>cS (!(zac s locs act).2) h (fun hc=>?_) (fun hc=>?_))))
 ·rw [(show (!(zac s locs act).2)=false from by rw [hb];rfl)] at hc;cases hc
 clear hc;refine Jm 9 [(3,.g (Op.buildO (d:=26) (n:=9) (len:=1) (rows:=[(zac s locs act).1.guard].map za0.d) (rs:=[(25,(vF (zac s locs act).1.guard))]) zh7 (.cons (i:=0) (OV.tmp 25 _) (.nil)) (by simp only [List.map_cons,List.map_nil,List.flatten_cons,List.flatten_nil,List.append_nil,za0.d_eq];kernel_rfl) rfl (by simp [za0.d_len]) (by decide) (by decide))),(4,.g (Op.appOO (d:=27) (t:=23) (u:=26) (n:=7) (sn:=9) (n':=10) (len:=0) (len2:=1) (len':=[(zac s locs act).1.guard].length) (rows:=[].map za0.d) (rows2:=[(zac s locs act).1.guard].map za0.d) (rows':=[(zac s locs act).1.guard].map za0.d) la_7 (by first | exact (List.length_map _).symm | simp) (by first | exact (List.length_map _).symm | simp) (by first | (rw [List.length_append,List.length_map];done) | simp) (by simp) (by first | omega | (simp at *;done) | (simp at *;omega))))] [37] [(9,vO 10 ([(zac s locs act).1.guard].length))] [(5,.box (zan s)),(6,.box zF0),(8,.box ([cI (zac s locs act).1.proc,cI (zac s locs act).1.from_,cI (zac s locs act).1.to_,cI (zac s locs act).1.guard.kind,cPs (zac s locs act).1.guard.r.t.parts]++zi (zac s locs act).1.guard.r.t.k++[cB (zac s locs act).1.guard.r.eq,cFs (zac s locs act).1.guard.kids,.d (.sl 5 ((zac s locs act).1.moves.map zad.d))])),(10,.row 35 6 ([(zac s locs act).1.guard].map za0.d))] h fun a w h=>za9 (za1 (qW (Je 11 [(2,.len (za6 1 zfj s.vars))] [] [(43,vN s.vars.length),(44,vI 0)] h fun a w h=>qZ ?_)));replace h:=cv (fun z_:List za0=>F.of [(2,vI act),(3,vN k),(4,vp 5 0),(8,vp 6 0),(9,vO 10 z_.length),(10,vp 8 0),(43,vN s.vars.length),(44,vI 0)] [(5,.box (zan s)),(6,.box zF0),(8,.box ([cI (zac s locs act).1.proc,cI (zac s locs act).1.from_,cI (zac s locs act).1.to_,cI (zac s locs act).1.guard.kind,cPs (zac s locs act).1.guard.r.t.parts]++zi (zac s locs act).1.guard.r.t.k++[cB (zac s locs act).1.guard.r.eq,cFs (zac s locs act).1.guard.kids,.d (.sl 5 ((zac s locs act).1.moves.map zad.d))])),(10,.row 35 6 (z_.map za0.d))]) (show ([(zac s locs act).1.guard]:List za0)=([(zac s locs act).1.guard]++(List.range 0).flatMap (zd9 s (zac s locs act).1)) from (by simp)) h
 refine zaq (ι:=(Nat)) (fun j=>j<=s.vars.length)
   (fun j=>[(2,vI act),(3,vN k),(4,vp 5 0),(8,vp 6 0),(9,vO 10 ([(zac s locs act).1.guard]++(List.range j).flatMap (zd9 s (zac s locs act).1)).length),(10,vp 8 0),(43,vN s.vars.length),(44,vN j)])
   (fun j=>[(5,.box (zan s)),(6,.box zF0),(8,.box ([cI (zac s locs act).1.proc,cI (zac s locs act).1.from_,cI (zac s locs act).1.to_,cI (zac s locs act).1.guard.kind,cPs (zac s locs act).1.guard.r.t.parts]++zi (zac s locs act).1.guard.r.t.k++[cB (zac s locs act).1.guard.r.eq,cFs (zac s locs act).1.guard.kids,.d (.sl 5 ((zac s locs act).1.moves.map zad.d))])),(10,.row 35 6 (([(zac s locs act).1.guard]++(List.range j).flatMap (zd9 s (zac s locs act).1)).map za0.d))])
   (fun j=>s.vars.length - j) 0 ?_ h (by kernel_rfl) (by kernel_rfl) ?_
 ·exact Nat.zero_le _
 clear h;rintro j a w hI h;have lsj:=zbz (zd9 s (zac s locs act).1) (stpS_len s (zac s locs act).1) j;refine Je 11 [] [] [(45,vb (decide ((j:Int)<(s.vars.length:Int))))] h fun a w h=>qW (zam ((j:Int)<(s.vars.length:Int)) h (fun hc1 hc1'=>?_) (fun hc4 hc4'=>?_))
 ·refine qU (za1 (qW (qZ (Je 11 [] [45] [(12,vN j)] h fun a w h=>Jd 11 [(2,.call (Lvalue (zac s locs act).1 j (zbj hs _)) mc2_15)] [] [(13,vp 11 0),(14,vb (zbu (zac s locs act).1 j).2)] [(5,.box (zan s)),(6,.box zF0),(8,.box ([cI (zac s locs act).1.proc,cI (zac s locs act).1.from_,cI (zac s locs act).1.to_,cI (zac s locs act).1.guard.kind,cPs (zac s locs act).1.guard.r.t.parts]++zi (zac s locs act).1.guard.r.t.k++[cB (zac s locs act).1.guard.r.eq,cFs (zac s locs act).1.guard.kids,.d (.sl 5 ((zac s locs act).1.moves.map zad.d))])),(10,.row 35 6 (([(zac s locs act).1.guard]++(List.range j).flatMap (zd9 s (zac s locs act).1)).map za0.d)),(11,.box (zT (zbu (zac s locs act).1 j).1))] h fun a w h=>Je 12 [] [14] [(53,vb (zbu (zac s locs act).1 j).2)] h fun a w h=>cS (zbu (zac s locs act).1 j).2 h (fun hc2=>?_) (fun hc3=>?_)))))
  ·refine Jm 12 [(4,.call (Lsame s j (zbu (zac s locs act).1 j).1 hs (by omega) (zhm (zbj hs _) _)) mg6_10),(5,.g (Op.buildO (d:=59) (n:=12) (len:=1) (rows:=[(samF s j (zbu (zac s locs act).1 j).1)].map za0.d) (rs:=[(58,(vF (samF s j (zbu (zac s locs act).1 j).1)))]) zh7 (.cons (i:=0) (OV.tmp 58 _) (.nil)) (by simp only [List.map_cons,List.map_nil,List.flatten_cons,List.flatten_nil,List.append_nil,za0.d_eq];kernel_rfl) rfl (by simp [za0.d_len]) (by decide) (by decide))),(6,.g (Op.appOO (d:=60) (t:=54) (u:=59) (n:=10) (sn:=12) (n':=13) (len:=([(zac s locs act).1.guard]++(List.range j).flatMap (zd9 s (zac s locs act).1)).length) (len2:=1) (len':=(([(zac s locs act).1.guard]++(List.range j).flatMap (zd9 s (zac s locs act).1))++[(samF s j (zbu (zac s locs act).1 j).1)]).length) (rows:=([(zac s locs act).1.guard]++(List.range j).flatMap (zd9 s (zac s locs act).1)).map za0.d) (rows2:=[(samF s j (zbu (zac s locs act).1 j).1)].map za0.d) (rows':=(([(zac s locs act).1.guard]++(List.range j).flatMap (zd9 s (zac s locs act).1))++[(samF s j (zbu (zac s locs act).1 j).1)]).map za0.d) la_7 (by first | exact (List.length_map _).symm | simp) (by first | exact (List.length_map _).symm | simp) (by first | (rw [List.length_append,List.length_map];done) | simp) (by simp) (by first | omega | (simp at *;done) | (simp at *;omega))))] [12,13,53] [(9,vO 13 (([(zac s locs act).1.guard]++(List.range j).flatMap (zd9 s (zac s locs act).1))++[(samF s j (zbu (zac s locs act).1 j).1)]).length)] [(5,.box (zan s)),(6,.box zF0),(8,.box ([cI (zac s locs act).1.proc,cI (zac s locs act).1.from_,cI (zac s locs act).1.to_,cI (zac s locs act).1.guard.kind,cPs (zac s locs act).1.guard.r.t.parts]++zi (zac s locs act).1.guard.r.t.k++[cB (zac s locs act).1.guard.r.eq,cFs (zac s locs act).1.guard.kids,.d (.sl 5 ((zac s locs act).1.moves.map zad.d))])),(13,.row 35 6 ((([(zac s locs act).1.guard]++(List.range j).flatMap (zd9 s (zac s locs act).1))++[(samF s j (zbu (zac s locs act).1 j).1)]).map za0.d))] h fun a w h=>za9 (za1 (Jf 14 [(0,.j1 j)] [] [(44,vI ((j:Int)+1))] h fun a w h=>za1 ?_));rw [show ((([(zac s locs act).1.guard]++(List.range j).flatMap (zd9 s (zac s locs act).1))++[(samF s j (zbu (zac s locs act).1 j).1)]):List za0)=([(zac s locs act).1.guard]++(List.range (j+1)).flatMap (zd9 s (zac s locs act).1)) from (by rw [zbr (zd9 s (zac s locs act).1) j,show zd9 s (zac s locs act).1 j=[samF s j (zbu (zac s locs act).1 j).1] from if_pos hc2];first | done | simp)] at h;replace h:=zec 13 10 [(2,vI act),(3,vN k),(4,vp 5 0),(8,vp 6 0),(9,vO 10 ([(zac s locs act).1.guard]++(List.range (j+1)).flatMap (zd9 s (zac s locs act).1)).length),(10,vp 8 0),(43,vN s.vars.length),(44,vI ((j:Int)+1))] [(5,.box (zan s)),(6,.box zF0),(8,.box ([cI (zac s locs act).1.proc,cI (zac s locs act).1.from_,cI (zac s locs act).1.to_,cI (zac s locs act).1.guard.kind,cPs (zac s locs act).1.guard.r.t.parts]++zi (zac s locs act).1.guard.r.t.k++[cB (zac s locs act).1.guard.r.eq,cFs (zac s locs act).1.guard.kids,.d (.sl 5 ((zac s locs act).1.moves.map zad.d))])),(10,.row 35 6 (([(zac s locs act).1.guard]++(List.range (j+1)).flatMap (zd9 s (zac s locs act).1)).map za0.d))] h;refine zag (x:=j) (y:=j+1) h ?_ ?_
   ·have:=dT hc1;show j+1<=s.vars.length;omega
   show s.vars.length - (j+1)<s.vars.length - j;have:=dT hc1;omega
  refine qU (za9 (za1 (Jm 14 [(0,.j1 j)] [12,13,53] [(44,vI ((j:Int)+1))] [(5,.box (zan s)),(6,.box zF0),(8,.box ([cI (zac s locs act).1.proc,cI (zac s locs act).1.from_,cI (zac s locs act).1.to_,cI (zac s locs act).1.guard.kind,cPs (zac s locs act).1.guard.r.t.parts]++zi (zac s locs act).1.guard.r.t.k++[cB (zac s locs act).1.guard.r.eq,cFs (zac s locs act).1.guard.kids,.d (.sl 5 ((zac s locs act).1.moves.map zad.d))])),(10,.row 35 6 (([(zac s locs act).1.guard]++(List.range j).flatMap (zd9 s (zac s locs act).1)).map za0.d))] h fun a w h=>za1 ?_)));rw [show (([(zac s locs act).1.guard]++(List.range j).flatMap (zd9 s (zac s locs act).1)):List za0)=([(zac s locs act).1.guard]++(List.range (j+1)).flatMap (zd9 s (zac s locs act).1)) from (by rw [zbr (zd9 s (zac s locs act).1) j,show zd9 s (zac s locs act).1 j=[] from if_neg (by rw [hc3];exact Bool.noConfusion)];first | done | simp)] at h;refine zag (x:=j) (y:=j+1) h ?_ ?_
  ·have:=dT hc1;show j+1<=s.vars.length;omega
  show s.vars.length - (j+1)<s.vars.length - j;have:=dT hc1;omega
 refine wp_exit (zaa (zaa (za5 (za1 (qW ?_)))));rw [show (([(zac s locs act).1.guard]++(List.range j).flatMap (zd9 s (zac s locs act).1)):List za0)=(zer s (zac s locs act).1.guard (zac s locs act).1) from (by rw [show j=s.vars.length by have:=dF hc4;omega];rfl)] at h;refine Jq 14 [(1,.cmp (op:=.neq) (m:=act) (n:=(-1)) (b:=true) .i64 (bne_iff_ne.2 ha))] [(3,vN k),(4,vp 5 0),(8,vp 6 0),(9,vO 10 (zer s (zac s locs act).1.guard (zac s locs act).1).length),(63,vb true)] [(5,.box (zan s)),(6,.box zF0),(10,.row 35 6 ((zer s (zac s locs act).1.guard (zac s locs act).1).map za0.d))] h fun a w h=>cS true h (fun _=>?_) nofun
 refine Jm 14 [(2,.call (LRange s 1 hs (by decide)) mg6_13),(3,.g (Op.buildO (d:=67) (n:=14) (len:=1) (rows:=[(atF s (zav s) 1)].map za0.d) (rs:=[(66,(vF (atF s (zav s) 1)))]) zh7 (.cons (i:=0) (OV.tmp 66 _) (.nil)) (by simp only [List.map_cons,List.map_nil,List.flatten_cons,List.flatten_nil,List.append_nil,za0.d_eq];kernel_rfl) rfl (by simp [za0.d_len]) (by decide) (by decide))),(4,.g (Op.appOO (d:=68) (t:=64) (u:=67) (n:=10) (sn:=14) (n':=15) (len:=(zer s (zac s locs act).1.guard (zac s locs act).1).length) (len2:=1) (len':=((zer s (zac s locs act).1.guard (zac s locs act).1)++[(atF s (zav s) 1)]).length) (rows:=(zer s (zac s locs act).1.guard (zac s locs act).1).map za0.d) (rows2:=[(atF s (zav s) 1)].map za0.d) (rows':=((zer s (zac s locs act).1.guard (zac s locs act).1)++[(atF s (zav s) 1)]).map za0.d) la_7 (by first | exact (List.length_map _).symm | simp) (by first | exact (List.length_map _).symm | simp) (by first | (rw [List.length_append,List.length_map];done) | simp) (by simp) (by first | omega | (simp at *;done) | (simp at *;omega))))] [63] [(9,vO 15 ((zer s (zac s locs act).1.guard (zac s locs act).1)++[(atF s (zav s) 1)]).length)] [(5,.box (zan s)),(6,.box zF0),(15,.row 35 6 (((zer s (zac s locs act).1.guard (zac s locs act).1)++[(atF s (zav s) 1)]).map za0.d))] h fun a w h=>za1 ?_;rw [show (((zer s (zac s locs act).1.guard (zac s locs act).1)++[(atF s (zav s) 1)]):List za0)=((zer s (zac s locs act).1.guard (zac s locs act).1)++[atF s (zav s) 1]) from rfl] at h;replace h:=ziv 15 6 35 (((zer s (zac s locs act).1.guard (zac s locs act).1)++[atF s (zav s) 1]).map za0.d) [(3,vN k),(4,vp 5 0),(8,vp 6 0),(9,(vFs ((zer s (zac s locs act).1.guard (zac s locs act).1)++[atF s (zav s) 1])))] [(5,.box (zan s)),(6,.box zF0)] h rfl (show zbx _ [((zer s (zac s locs act).1.guard (zac s locs act).1)++[atF s (zav s) 1]).length] from ⟨by first | exact (List.length_map _).symm | (simp;done) | (simp;omega),trivial⟩) trivial;refine Jq 16 [(2,.call (LAll ((zer s (zac s locs act).1.guard (zac s locs act).1)++[atF s (zav s) 1]) (fun g hg=>za0.okB_mono (by decide) (by decide) _ (hsl2 g hg)) (by first | omega | (rw [List.length_append,List.length_singleton];omega))) zii),(4,.call (Lat s (zc7 ((zer s (zac s locs act).1.guard (zac s locs act).1)++[atF s (zav s) 1])) k hs hk (za0.okB_mono (Nat.le_refl _) (by decide) _ (ze9 (by decide) hsl2 (by first | omega | (rw [List.length_append,List.length_singleton];omega))))) md3_4)] [(8,vp 6 0)] [(6,.box (zF (atF s (zc7 ((zer s (zac s locs act).1.guard (zac s locs act).1)++[atF s (zav s) 1])) k)))] h fun a w h=>qV (rA 6 (zF (atF s (zc7 ((zer s (zac s locs act).1.guard (zac s locs act).1)++[atF s (zav s) 1])) k)) h zch rfl ?_);rfl
theorem LStepN (s:zar) (locs:List Int) (act:Int) (k:Nat) (ha:act≠-1) (hb:(zac s locs act).2=false) (hs:zba 3 s) (hl:locs.length<=9223372036854775807):Fn Tryz.prog 13 [] [vG (zan s),(vIs locs),vI act,vN k] (vF (zcq false)) []:=by
 refine Fn.body Tryz.func13 rfl 74 rfl fun w H B a h=>Jq 5 [] [(1,(vIs locs)),(2,vI act),(3,vN k),(4,vp 5 0),(8,vp 6 0)] [(5,.box (zan s)),(6,.box zF0)] h fun a w h=>Jd 7 [(0,.g (Op.buildE (d:=15) (n:=7) zh7))] [] [(9,vO 7 0)] [(5,.box (zan s)),(6,.box zF0),(7,.row 35 6 ([].map za0.d))] h fun a w h=>Jd 8 [(3,.call (Lbegins s locs act hs hl) md3_12)] [] [(10,vp 8 0),(11,vb (zac s locs act).2)] [(5,.box (zan s)),(6,.box zF0),(7,.row 35 6 ([].map za0.d)),(8,.box ([cI (zac s locs act).1.proc,cI (zac s locs act).1.from_,cI (zac s locs act).1.to_,cI (zac s locs act).1.guard.kind,cPs (zac s locs act).1.guard.r.t.parts]++zi (zac s locs act).1.guard.r.t.k++[cB (zac s locs act).1.guard.r.eq,cFs (zac s locs act).1.guard.kids,.d (.sl 5 ((zac s locs act).1.moves.map zad.d))]))] h fun a w h=>qW (qZ (Je 9 [(1,.cmp (op:=.eql) (m:=act) (n:=(-1)) (b:=false) .i64 (beq_eq_false_iff_ne.2 ha))] [] [(28,vb false)] h fun a w h=>zap false h rfl nofun (fun _=>Je 9 [] [1,11,28] [(37,vb (!(zac s locs act).2))] h fun a w h=>cS (!(zac s locs act).2) h (fun hc1=>?_) (fun hc2=>?_))))
 ·have hc1':=hc1;(try simp at hc1');refine Jd 9 [(0,.call (zfz false) la_8)] [37] [] [(5,.box (zan s)),(6,.box (zF (zcq false))),(7,.row 35 6 ([].map za0.d)),(8,.box ([cI (zac s locs act).1.proc,cI (zac s locs act).1.from_,cI (zac s locs act).1.to_,cI (zac s locs act).1.guard.kind,cPs (zac s locs act).1.guard.r.t.parts]++zi (zac s locs act).1.guard.r.t.k++[cB (zac s locs act).1.guard.r.eq,cFs (zac s locs act).1.guard.kids,.d (.sl 5 ((zac s locs act).1.moves.map zad.d))]))] h fun a w h=>qV (zae (za7 (rA 6 (zF (zcq false)) h zch rfl ?_)));rfl
 have hc2':=hc2;(try simp at hc2');have hd_:(!(zac s locs act).2)=false:=by assumption
 rw [hb] at hd_;cases hd_
theorem mi7_9:ElT Tryz.prog 109 30 3 56:=ElT.mk' Tryz.underlying109 _ _ rfl rfl (by kernel_rfl) (by kernel_rfl) (by kernel_rfl) (by decide) (by decide)
theorem mi7_13:za4 Tryz.prog 57:=za4.mk' (by kernel_rfl)
theorem addT_ok2 {n m L:Nat} {s t:zak} (hs:TOk n L s) (ht:TOk m L t) (hn:n+m<=1000):TOk (n+m) (L+2) (zj0 s t):=by
 have h1:TOk (n+m) (L+1) ⟨s.parts++t.parts,ZI.of (s.k.val+t.k.val)⟩:=by
  refine ⟨by rw [List.length_append];have:=hs.len;have:=ht.len;omega,fun p hp=>?_,ZI.lb_of _,ZI.len_of ?_⟩
  ·rcases List.mem_append.1 hp with hp | hp
   ·exact ⟨(hs.ps p hp).1,Nat.le_trans (hs.ps p hp).2 (Nat.le_succ _)⟩
   ·exact ⟨(ht.ps p hp).1,Nat.le_trans (ht.ps p hp).2 (Nat.le_succ _)⟩
  ·have a:=Nat.lt_of_lt_of_le (ZI.abs_lt hs.kb) (zdi hs.kl);have b:=Nat.lt_of_lt_of_le (ZI.abs_lt ht.kb) (zdi ht.kl);have c:=Int.natAbs_add_le s.k.val t.k.val
   have e:pw (L+1)=4294967296*pw L:=zas L
   omega
 exact h1.plain hn
theorem low_tok2 {n L:Nat} {t:zak} (h:TOk n L t) (hn:n<=1000) (hL:3<=L):TOk n (L+5) (lowR t).t:=by
 have h1:=zje h hn
 have h0:TOk 0 2 (zcf (ZI.of 1)):=TOk.num (ZI.lb_of _) (by decide)
 have h2:TOk 0 (L+3) (zbk (zcf (ZI.of 1)) (ZI.of (-1))):=((TOk.mul h0 (ZI.lb_of _) (show (ZI.of (-1)).abs.length<=2 from by decide)).plain (by decide)).mono (Nat.le_refl _) (by omega)
 exact (addT_ok2 h1 h2 (by omega)).mono (by omega) (by omega)
theorem deny_tok2 {n L:Nat} {r:zb0} (h:TOk n L r.t) (hn:n<=1000) (hL:3<=L):∀ q ∈ zb9 r,TOk n (L+8) q.t:=fun q hq=>by
 unfold zb9 at hq
 split at hq
 ·rcases List.mem_cons.1 hq with rfl | hq
  ·exact low_tok2 (zje h hn) hn (by omega)
  ·rw [List.mem_singleton.1 hq];exact (low_tok2 h hn hL).mono (Nat.le_refl _) (by omega)
 ·rw [List.mem_singleton.1 hq];exact (low_tok2 h hn hL).mono (Nat.le_refl _) (by omega)
theorem flat_okA2 {n L:Nat} (hn:n<=1000) (hL:3<=L) (f:za0):f.okB n L->∀ d,(f.flat d).okA n (L+12) :=
 za0.ind (P:=fun f=>f.okB n L->∀ d,(f.flat d).okA n (L+12)) (fun k r ks ih hf d=>by
  obtain ⟨⟨h1,h2⟩,h3⟩:=(za0.okB_eq _ _ _).1 hf
  change k=2->_ at h1
  change ∀ g ∈ cnt k ks,_ at h3
  rw [za0.flat_eq]
  show (flatK k r (ks.map za0.flat) d).okA n (L+12)
  unfold flatK
  split
  ·exact okA_tru _ _ _
  ·split
   ·rename_i e
    split
    ·refine zez (.inr rfl) _ [] (fun g hg=>by cases hg) fun g hg=>?_
     obtain ⟨q,hq,rfl⟩:=List.mem_map.1 hg
     exact tight_okA (deny_tok2 (h1 e) hn hL q hq) hn
    ·exact za0.okA_mono (Nat.le_refl _) (by omega) _ (tight_okA (h1 e) hn)
   ·split
    ·rename_i e
     subst e
     cases ks with
     | nil=>exact okA_tru _ _ _
     | cons g gs=>exact ih g (List.mem_cons_self ..) (h3 g (List.mem_cons_self ..)) (!d)
    ·split
     ·rename_i h4
      have hc:cnt k ks=ks:=by unfold cnt;rw [if_pos h4]
      rw [hc] at h3
      refine zez (by cases d <;> simp <;> omega) _ [] (fun g hg=>by cases hg) fun g hg=>?_
      rw [List.map_map] at hg
      obtain ⟨q,hq,rfl⟩:=List.mem_map.1 hg
      exact ih q hq (h3 q hq) d
     ·exact okA_tru _ _ _) f
theorem put_ok {f:za0} {vs:List Int} {bys:List zak} (hf:f.okB 30 19) (hb:∀ b ∈ bys,zgb b):(f.each (zc6 vs bys)).okB 900 44:=zjd (t:=zc6 vs bys) (fun r hr=>by
 have:=putZ_tok (t:=(cpR r).t) (vs:=vs) (hr.plain (by decide)) hb
 exact this) f hf
theorem preT_ok {s:zar} (_hs:zba 3 s) {f:za0} (hf:f.okB 20 3) (hfw:f.wid<=1000) (act:Int):(((f.flat false).forg (zds (za8 s act).1 s.vars.length)).okB 30 19) :=
 za0.okB_mono (by decide) (by decide) _ (forg_ok _ _ (flat_okA2 (by decide) (Nat.le_refl _) f hf false) (Nat.le_trans (zi1 f false) (by omega)))
theorem LPreM (s:zar) (f:za0) (hf:f.okB 20 3) (_hfw:f.wid<=1000):Fn Tryz.prog 26 [] [vG (zan s),vI (-1),(vF f)] (vF (zc7 [f])) []:=by
 refine Fn.body Tryz.func26 rfl 67 rfl fun w H B a h=>Jq 0 [] [(1,vI (-1)),(3,vp 0 0),(5,vp 1 0),(6,vp 2 0)] [(0,.box (zan s)),(1,.box (zF f)),(2,.box zF0)] h fun a w h=>qW (Je 3 [(1,.cmp (op:=.eql) (m:=(-1)) (n:=(-1)) (b:=true) .i64 rfl)] [] [(16,vb true)] h fun a w h=>cS true h (fun _=>?_) nofun)
 refine Jd 3 [(1,.g (bD 18 ([f].map za0.d) [(17,(vF f))] zh7 (.cons (i:=0) (OV.tmp 17 _) (.nil)) (by simp only [List.map_cons,List.map_nil,List.flatten_cons,List.flatten_nil,List.append_nil,za0.d_eq];kernel_rfl) (by simp [za0.d_len]))),(2,.call (LAll [f] (fun g hg=>by rw [List.mem_singleton.1 hg];exact za0.okB_mono (by decide) (by decide) _ hf) (show List.length _<=1000000 from by simp)) zii)] [16] [] [(0,.box (zan s)),(1,.box (zF f)),(2,.box (zF (zc7 [f])))] h fun a w h=>qV (za7 (rA 2 (zF (zc7 [f])) h zch rfl ?_));rfl
theorem LPreS (s:zar) (act:Int) (f:za0) (ha:act≠-1) (hs:zba 3 s) (hw:zhk s) (hf:f.okB 20 3) (hfw:f.wid<=1000):Fn Tryz.prog 26 [] [vG (zan s),vI act,(vF f)] (vF (if (za8 s act).2=true then zc7 [zgu s (za8 s act).1,(za0.each (zc6 (zea (za8 s act).1 s.vars.length) (zdv (za8 s act).1 s.vars.length)) (za0.forg (zds (za8 s act).1 s.vars.length) (za0.flat f false)))] else zcq false)) []:=by
 have lvs:=hs.vars;obtain ⟨lq1,lq2,lq3⟩:=pre_len (za8 s act).1 s.vars.length;have hpt:=preT_ok hs hf hfw act;have hcl:(za0.forg (zds (za8 s act).1 s.vars.length) (za0.flat f false)).cl.okB 30 20:=okB_cl (by decide) _ hpt
 have hsl:∀ g ∈ [zgu s (za8 s act).1,(za0.each (zc6 (zea (za8 s act).1 s.vars.length) (zdv (za8 s act).1 s.vars.length)) (za0.forg (zds (za8 s act).1 s.vars.length) (za0.flat f false)))],g.okB 900 60:=fun g hg=>by
  rcases List.mem_cons.1 hg with rfl | hg
  ·exact za0.okB_mono (by decide) (by decide) _ (zi8 hs (zbj hs act) (zeg hw act))
  rw [List.mem_singleton.1 hg];exact za0.okB_mono (by decide) (by decide) _ (put_ok hpt (preB_ok (zbj hs act) _))
 refine Fn.body Tryz.func26 rfl 67 rfl fun w H B a h=>Jq 5 [] [(1,vI act),(3,vp 5 0),(5,vp 6 0),(6,vp 7 0)] [(5,.box (zan s)),(6,.box (zF f)),(7,.box zF0)] h fun a w h=>qW (Je 8 [(1,.cmp (op:=.eql) (m:=act) (n:=(-1)) (b:=false) .i64 (beq_eq_false_iff_ne.2 ha))] [] [(16,vb false)] h fun a w h=>zap false h rfl nofun (fun _=>qU (za1 (Jd 8 [(2,.call (Lsound s act hs) md3_7)] [1,16] [(7,vp 8 0),(8,vb (za8 s act).2)] [(5,.box (zan s)),(6,.box (zF f)),(7,.box zF0),(8,.box ([cI (za8 s act).1.proc,cI (za8 s act).1.from_,cI (za8 s act).1.to_,cI (za8 s act).1.guard.kind,cPs (za8 s act).1.guard.r.t.parts]++zi (za8 s act).1.guard.r.t.k++[cB (za8 s act).1.guard.r.eq,cFs (za8 s act).1.guard.kids,.d (.sl 5 ((za8 s act).1.moves.map zad.d))]))] h fun a w h=>qW (Je 9 [] [8] [(27,vb (!(za8 s act).2))] h fun a w h=>cS (!(za8 s act).2) h (fun hc1=>?_) (fun hc2=>?_))))))
 ·have hc1':=hc1;(try simp at hc1');refine Jd 9 [(0,.call (zfz false) la_8)] [27] [] [(5,.box (zan s)),(6,.box (zF f)),(7,.box (zF (zcq false))),(8,.box ([cI (za8 s act).1.proc,cI (za8 s act).1.from_,cI (za8 s act).1.to_,cI (za8 s act).1.guard.kind,cPs (za8 s act).1.guard.r.t.parts]++zi (za8 s act).1.guard.r.t.k++[cB (za8 s act).1.guard.r.eq,cFs (za8 s act).1.guard.kids,.d (.sl 5 ((za8 s act).1.moves.map zad.d))]))] h fun a w h=>qV (za7 (rA 7 (zF (zcq false)) h zch rfl ?_));rw [if_neg (by rw [(show ((za8 s act).2)=false from by simpa using hc1)];exact Bool.noConfusion)];try rfl
 have hc2':=hc2;(try simp at hc2');refine qU (za1 (Je 9 [] [27] [(9,vW zaf),(10,vW zaf)] h fun a w h=>Je 9 [] [] [(11,vW zaf)] h fun a w h=>qW (Je 9 [(2,.len (za6 1 zfj s.vars))] [] [(31,vN s.vars.length),(32,vI 0)] h fun a w h=>qZ ?_)));replace h:=zew 9 0 9 1 3 (vW zaf) [(3,vp 5 0),(5,vp 6 0),(6,vp 7 0),(7,vp 8 0),(9,vO 9 0),(10,vW zaf),(11,vW zaf),(31,vN s.vars.length),(32,vI 0)] [(5,.box (zan s)),(6,.box (zF f)),(7,.box zF0),(8,.box ([cI (za8 s act).1.proc,cI (za8 s act).1.from_,cI (za8 s act).1.to_,cI (za8 s act).1.guard.kind,cPs (za8 s act).1.guard.r.t.parts]++zi (za8 s act).1.guard.r.t.k++[cB (za8 s act).1.guard.r.eq,cFs (za8 s act).1.guard.kids,.d (.sl 5 ((za8 s act).1.moves.map zad.d))])),(9,.row 3 1 ([].map zai))] h (by kernel_rfl) rfl rfl;replace h:=zew 10 0 10 1 3 (vW zaf) [(3,vp 5 0),(5,vp 6 0),(6,vp 7 0),(7,vp 8 0),(9,vO 9 0),(10,vO 10 0),(11,vW zaf),(31,vN s.vars.length),(32,vI 0)] [(5,.box (zan s)),(6,.box (zF f)),(7,.box zF0),(8,.box ([cI (za8 s act).1.proc,cI (za8 s act).1.from_,cI (za8 s act).1.to_,cI (za8 s act).1.guard.kind,cPs (za8 s act).1.guard.r.t.parts]++zi (za8 s act).1.guard.r.t.k++[cB (za8 s act).1.guard.r.eq,cFs (za8 s act).1.guard.kids,.d (.sl 5 ((za8 s act).1.moves.map zad.d))])),(9,.row 3 1 ([].map zai)),(10,.row 3 1 ([].map zai))] h (by kernel_rfl) rfl rfl;replace h:=zew 11 0 11 3 30 (vW zaf) [(3,vp 5 0),(5,vp 6 0),(6,vp 7 0),(7,vp 8 0),(9,vO 9 0),(10,vO 10 0),(11,vO 11 0),(31,vN s.vars.length),(32,vI 0)] [(5,.box (zan s)),(6,.box (zF f)),(7,.box zF0),(8,.box ([cI (za8 s act).1.proc,cI (za8 s act).1.from_,cI (za8 s act).1.to_,cI (za8 s act).1.guard.kind,cPs (za8 s act).1.guard.r.t.parts]++zi (za8 s act).1.guard.r.t.k++[cB (za8 s act).1.guard.r.eq,cFs (za8 s act).1.guard.kids,.d (.sl 5 ((za8 s act).1.moves.map zad.d))])),(9,.row 3 1 ([].map zai)),(10,.row 3 1 ([].map zai)),(11,.row 30 3 ([].map zak.d))] h (by kernel_rfl) rfl rfl;replace h:=cv (fun z_:List Int=>F.of [(3,vp 5 0),(5,vp 6 0),(6,vp 7 0),(7,vp 8 0),(9,vO 9 z_.length),(10,vO 10 0),(11,vO 11 0),(31,vN s.vars.length),(32,vI 0)] [(5,.box (zan s)),(6,.box (zF f)),(7,.box zF0),(8,.box ([cI (za8 s act).1.proc,cI (za8 s act).1.from_,cI (za8 s act).1.to_,cI (za8 s act).1.guard.kind,cPs (za8 s act).1.guard.r.t.parts]++zi (za8 s act).1.guard.r.t.k++[cB (za8 s act).1.guard.r.eq,cFs (za8 s act).1.guard.kids,.d (.sl 5 ((za8 s act).1.moves.map zad.d))])),(9,.row 3 1 (z_.map zai)),(10,.row 3 1 ([].map zai)),(11,.row 30 3 ([].map zak.d))]) (show ([]:List Int)=(zea (za8 s act).1 0) from rfl) h;replace h:=cv (fun z_:List Int=>F.of [(3,vp 5 0),(5,vp 6 0),(6,vp 7 0),(7,vp 8 0),(9,vO 9 (zea (za8 s act).1 0).length),(10,vO 10 z_.length),(11,vO 11 0),(31,vN s.vars.length),(32,vI 0)] [(5,.box (zan s)),(6,.box (zF f)),(7,.box zF0),(8,.box ([cI (za8 s act).1.proc,cI (za8 s act).1.from_,cI (za8 s act).1.to_,cI (za8 s act).1.guard.kind,cPs (za8 s act).1.guard.r.t.parts]++zi (za8 s act).1.guard.r.t.k++[cB (za8 s act).1.guard.r.eq,cFs (za8 s act).1.guard.kids,.d (.sl 5 ((za8 s act).1.moves.map zad.d))])),(9,.row 3 1 ((zea (za8 s act).1 0).map zai)),(10,.row 3 1 (z_.map zai)),(11,.row 30 3 ([].map zak.d))]) (show ([]:List Int)=(zds (za8 s act).1 0) from rfl) h
 refine zaq (ι:=(Nat)) (fun j=>j<=s.vars.length)
   (fun j=>[(3,vp 5 0),(5,vp 6 0),(6,vp 7 0),(7,vp 8 0),(9,vO 9 (zea (za8 s act).1 j).length),(10,vO 10 (zds (za8 s act).1 j).length),(11,vO 11 (zdv (za8 s act).1 j).length),(31,vN s.vars.length),(32,vN j)])
   (fun j=>[(5,.box (zan s)),(6,.box (zF f)),(7,.box zF0),(8,.box ([cI (za8 s act).1.proc,cI (za8 s act).1.from_,cI (za8 s act).1.to_,cI (za8 s act).1.guard.kind,cPs (za8 s act).1.guard.r.t.parts]++zi (za8 s act).1.guard.r.t.k++[cB (za8 s act).1.guard.r.eq,cFs (za8 s act).1.guard.kids,.d (.sl 5 ((za8 s act).1.moves.map zad.d))])),(9,.row 3 1 ((zea (za8 s act).1 j).map zai)),(10,.row 3 1 ((zds (za8 s act).1 j).map zai)),(11,.row 30 3 ((zdv (za8 s act).1 j).map zak.d))])
   (fun j=>s.vars.length - j) 0 ?_ h (by kernel_rfl) (by kernel_rfl) ?_
 ·exact Nat.zero_le _
 clear h;rintro j a w hI h;obtain ⟨lp1,lp2,lp3⟩:=pre_len (za8 s act).1 j;refine Je 12 [] [] [(33,vb (decide ((j:Int)<(s.vars.length:Int))))] h fun a w h=>qW (zam ((j:Int)<(s.vars.length:Int)) h (fun hc3 hc3'=>?_) (fun hc6 hc6'=>?_))
 ·refine qU (za1 (qW (qZ (Je 12 [] [33] [(12,vN j)] h fun a w h=>Jd 12 [(2,.call (Lvalue (za8 s act).1 j (zbj hs _)) mc2_15)] [] [(13,vp 12 0),(14,vb (zbu (za8 s act).1 j).2)] [(5,.box (zan s)),(6,.box (zF f)),(7,.box zF0),(8,.box ([cI (za8 s act).1.proc,cI (za8 s act).1.from_,cI (za8 s act).1.to_,cI (za8 s act).1.guard.kind,cPs (za8 s act).1.guard.r.t.parts]++zi (za8 s act).1.guard.r.t.k++[cB (za8 s act).1.guard.r.eq,cFs (za8 s act).1.guard.kids,.d (.sl 5 ((za8 s act).1.moves.map zad.d))])),(9,.row 3 1 ((zea (za8 s act).1 j).map zai)),(10,.row 3 1 ((zds (za8 s act).1 j).map zai)),(11,.row 30 3 ((zdv (za8 s act).1 j).map zak.d)),(12,.box (zT (zbu (za8 s act).1 j).1))] h fun a w h=>Je 13 [] [14] [(41,vb (zbu (za8 s act).1 j).2)] h fun a w h=>cS (zbu (za8 s act).1 j).2 h (fun hc4=>?_) (fun hc5=>?_)))))
  ·refine Jm 13 [(2,.g (bD 44 ([(j:Int)].map zai) [(43,vN j)] tb_0 (.cons (i:=0) (OV.tmp 43 _) (.nil)) (by kernel_rfl) (by simp [zai]))),(3,.g (aD 45 42 44 9 13 (zea (za8 s act).1 j) [(j:Int)] zai tb_2 (by simp [zai]))),(6,.g (bD 48 ([(zbu (za8 s act).1 j).1].map zak.d) [(47,(vT (zbu (za8 s act).1 j).1))] tq_13 (.cons (i:=0) (OV.tmp 47 _) (.nil)) (by kernel_rfl) (by simp [zak.d]))),(7,.g (aD 49 46 48 11 14 (zdv (za8 s act).1 j) [(zbu (za8 s act).1 j).1] zak.d mi7_9 (by simp [zak.d])))] [12,13,41] [(9,vO 13 ((zea (za8 s act).1 j)++[(j:Int)]).length),(11,vO 14 ((zdv (za8 s act).1 j)++[(zbu (za8 s act).1 j).1]).length)] [(5,.box (zan s)),(6,.box (zF f)),(7,.box zF0),(8,.box ([cI (za8 s act).1.proc,cI (za8 s act).1.from_,cI (za8 s act).1.to_,cI (za8 s act).1.guard.kind,cPs (za8 s act).1.guard.r.t.parts]++zi (za8 s act).1.guard.r.t.k++[cB (za8 s act).1.guard.r.eq,cFs (za8 s act).1.guard.kids,.d (.sl 5 ((za8 s act).1.moves.map zad.d))])),(10,.row 3 1 ((zds (za8 s act).1 j).map zai)),(13,.row 3 1 (((zea (za8 s act).1 j)++[(j:Int)]).map zai)),(14,.row 30 3 (((zdv (za8 s act).1 j)++[(zbu (za8 s act).1 j).1]).map zak.d))] h fun a w h=>za9 (za1 (Jf 15 [(0,.j1 j)] [] [(32,vI ((j:Int)+1))] h fun a w h=>za1 ?_));rw [show (((zea (za8 s act).1 j)++[(j:Int)]):List Int)=(zea (za8 s act).1 (j+1)) from (by rw [(pre_at (za8 s act).1 j).1,if_pos hc4];first | done | simp)] at h;replace h:=cv (fun z_:List Int=>F.of [(3,vp 5 0),(5,vp 6 0),(6,vp 7 0),(7,vp 8 0),(9,vO 13 (zea (za8 s act).1 (j+1)).length),(10,vO 10 z_.length),(11,vO 14 ((zdv (za8 s act).1 j)++[(zbu (za8 s act).1 j).1]).length),(31,vN s.vars.length),(32,vI ((j:Int)+1))] [(5,.box (zan s)),(6,.box (zF f)),(7,.box zF0),(8,.box ([cI (za8 s act).1.proc,cI (za8 s act).1.from_,cI (za8 s act).1.to_,cI (za8 s act).1.guard.kind,cPs (za8 s act).1.guard.r.t.parts]++zi (za8 s act).1.guard.r.t.k++[cB (za8 s act).1.guard.r.eq,cFs (za8 s act).1.guard.kids,.d (.sl 5 ((za8 s act).1.moves.map zad.d))])),(10,.row 3 1 (z_.map zai)),(13,.row 3 1 ((zea (za8 s act).1 (j+1)).map zai)),(14,.row 30 3 (((zdv (za8 s act).1 j)++[(zbu (za8 s act).1 j).1]).map zak.d))]) (show ((zds (za8 s act).1 j):List Int)=(zds (za8 s act).1 (j+1)) from (by rw [(pre_at (za8 s act).1 j).2.2,if_pos hc4];first | done | simp)) h;rw [show (((zdv (za8 s act).1 j)++[(zbu (za8 s act).1 j).1]):List zak)=(zdv (za8 s act).1 (j+1)) from (by rw [(pre_at (za8 s act).1 j).2.1,if_pos hc4];first | done | simp)] at h;replace h:=zec 13 9 [(3,vp 5 0),(5,vp 6 0),(6,vp 7 0),(7,vp 8 0),(9,vO 9 (zea (za8 s act).1 (j+1)).length),(10,vO 10 (zds (za8 s act).1 (j+1)).length),(11,vO 14 (zdv (za8 s act).1 (j+1)).length),(31,vN s.vars.length),(32,vI ((j:Int)+1))] [(5,.box (zan s)),(6,.box (zF f)),(7,.box zF0),(8,.box ([cI (za8 s act).1.proc,cI (za8 s act).1.from_,cI (za8 s act).1.to_,cI (za8 s act).1.guard.kind,cPs (za8 s act).1.guard.r.t.parts]++zi (za8 s act).1.guard.r.t.k++[cB (za8 s act).1.guard.r.eq,cFs (za8 s act).1.guard.kids,.d (.sl 5 ((za8 s act).1.moves.map zad.d))])),(10,.row 3 1 ((zds (za8 s act).1 (j+1)).map zai)),(14,.row 30 3 ((zdv (za8 s act).1 (j+1)).map zak.d)),(9,.row 3 1 ((zea (za8 s act).1 (j+1)).map zai))] h;replace h:=zec 14 11 [(3,vp 5 0),(5,vp 6 0),(6,vp 7 0),(7,vp 8 0),(9,vO 9 (zea (za8 s act).1 (j+1)).length),(10,vO 10 (zds (za8 s act).1 (j+1)).length),(11,vO 11 (zdv (za8 s act).1 (j+1)).length),(31,vN s.vars.length),(32,vI ((j:Int)+1))] [(5,.box (zan s)),(6,.box (zF f)),(7,.box zF0),(8,.box ([cI (za8 s act).1.proc,cI (za8 s act).1.from_,cI (za8 s act).1.to_,cI (za8 s act).1.guard.kind,cPs (za8 s act).1.guard.r.t.parts]++zi (za8 s act).1.guard.r.t.k++[cB (za8 s act).1.guard.r.eq,cFs (za8 s act).1.guard.kids,.d (.sl 5 ((za8 s act).1.moves.map zad.d))])),(10,.row 3 1 ((zds (za8 s act).1 (j+1)).map zai)),(9,.row 3 1 ((zea (za8 s act).1 (j+1)).map zai)),(11,.row 30 3 ((zdv (za8 s act).1 (j+1)).map zak.d))] h;refine zag (x:=j) (y:=j+1) h ?_ ?_
   ·have:=dT hc3;show j+1<=s.vars.length;omega
   show s.vars.length - (j+1)<s.vars.length - j;have:=dT hc3;omega
  refine Jm 15 [(2,.g (bD 52 ([(j:Int)].map zai) [(51,vN j)] tb_0 (.cons (i:=0) (OV.tmp 51 _) (.nil)) (by kernel_rfl) (by simp [zai]))),(3,.g (aD 53 50 52 10 15 (zds (za8 s act).1 j) [(j:Int)] zai tb_2 (by simp [zai])))] [12,13,41] [(10,vO 15 ((zds (za8 s act).1 j)++[(j:Int)]).length)] [(5,.box (zan s)),(6,.box (zF f)),(7,.box zF0),(8,.box ([cI (za8 s act).1.proc,cI (za8 s act).1.from_,cI (za8 s act).1.to_,cI (za8 s act).1.guard.kind,cPs (za8 s act).1.guard.r.t.parts]++zi (za8 s act).1.guard.r.t.k++[cB (za8 s act).1.guard.r.eq,cFs (za8 s act).1.guard.kids,.d (.sl 5 ((za8 s act).1.moves.map zad.d))])),(9,.row 3 1 ((zea (za8 s act).1 j).map zai)),(11,.row 30 3 ((zdv (za8 s act).1 j).map zak.d)),(15,.row 3 1 (((zds (za8 s act).1 j)++[(j:Int)]).map zai))] h fun a w h=>za9 (za1 (Jf 16 [(0,.j1 j)] [] [(32,vI ((j:Int)+1))] h fun a w h=>za1 ?_));replace h:=cv (fun z_:List Int=>F.of [(3,vp 5 0),(5,vp 6 0),(6,vp 7 0),(7,vp 8 0),(9,vO 9 z_.length),(10,vO 15 ((zds (za8 s act).1 j)++[(j:Int)]).length),(11,vO 11 (zdv (za8 s act).1 j).length),(31,vN s.vars.length),(32,vI ((j:Int)+1))] [(5,.box (zan s)),(6,.box (zF f)),(7,.box zF0),(8,.box ([cI (za8 s act).1.proc,cI (za8 s act).1.from_,cI (za8 s act).1.to_,cI (za8 s act).1.guard.kind,cPs (za8 s act).1.guard.r.t.parts]++zi (za8 s act).1.guard.r.t.k++[cB (za8 s act).1.guard.r.eq,cFs (za8 s act).1.guard.kids,.d (.sl 5 ((za8 s act).1.moves.map zad.d))])),(9,.row 3 1 (z_.map zai)),(11,.row 30 3 ((zdv (za8 s act).1 j).map zak.d)),(15,.row 3 1 (((zds (za8 s act).1 j)++[(j:Int)]).map zai))]) (show ((zea (za8 s act).1 j):List Int)=(zea (za8 s act).1 (j+1)) from (by rw [(pre_at (za8 s act).1 j).1,if_neg (by rw [hc5];exact Bool.noConfusion)];first | done | simp)) h;rw [show (((zds (za8 s act).1 j)++[(j:Int)]):List Int)=(zds (za8 s act).1 (j+1)) from (by rw [(pre_at (za8 s act).1 j).2.2,if_neg (by rw [hc5];exact Bool.noConfusion)];first | done | simp)] at h;replace h:=cv (fun z_:List zak=>F.of [(3,vp 5 0),(5,vp 6 0),(6,vp 7 0),(7,vp 8 0),(9,vO 9 (zea (za8 s act).1 (j+1)).length),(10,vO 15 (zds (za8 s act).1 (j+1)).length),(11,vO 11 z_.length),(31,vN s.vars.length),(32,vI ((j:Int)+1))] [(5,.box (zan s)),(6,.box (zF f)),(7,.box zF0),(8,.box ([cI (za8 s act).1.proc,cI (za8 s act).1.from_,cI (za8 s act).1.to_,cI (za8 s act).1.guard.kind,cPs (za8 s act).1.guard.r.t.parts]++zi (za8 s act).1.guard.r.t.k++[cB (za8 s act).1.guard.r.eq,cFs (za8 s act).1.guard.kids,.d (.sl 5 ((za8 s act).1.moves.map zad.d))])),(9,.row 3 1 ((zea (za8 s act).1 (j+1)).map zai)),(11,.row 30 3 (z_.map zak.d)),(15,.row 3 1 ((zds (za8 s act).1 (j+1)).map zai))]) (show ((zdv (za8 s act).1 j):List zak)=(zdv (za8 s act).1 (j+1)) from (by rw [(pre_at (za8 s act).1 j).2.1,if_neg (by rw [hc5];exact Bool.noConfusion)];first | done | simp)) h;replace h:=zec 15 10 [(3,vp 5 0),(5,vp 6 0),(6,vp 7 0),(7,vp 8 0),(9,vO 9 (zea (za8 s act).1 (j+1)).length),(10,vO 10 (zds (za8 s act).1 (j+1)).length),(11,vO 11 (zdv (za8 s act).1 (j+1)).length),(31,vN s.vars.length),(32,vI ((j:Int)+1))] [(5,.box (zan s)),(6,.box (zF f)),(7,.box zF0),(8,.box ([cI (za8 s act).1.proc,cI (za8 s act).1.from_,cI (za8 s act).1.to_,cI (za8 s act).1.guard.kind,cPs (za8 s act).1.guard.r.t.parts]++zi (za8 s act).1.guard.r.t.k++[cB (za8 s act).1.guard.r.eq,cFs (za8 s act).1.guard.kids,.d (.sl 5 ((za8 s act).1.moves.map zad.d))])),(9,.row 3 1 ((zea (za8 s act).1 (j+1)).map zai)),(11,.row 30 3 ((zdv (za8 s act).1 (j+1)).map zak.d)),(10,.row 3 1 ((zds (za8 s act).1 (j+1)).map zai))] h;refine zag (x:=j) (y:=j+1) h ?_ ?_
  ·have:=dT hc3;show j+1<=s.vars.length;omega
  show s.vars.length - (j+1)<s.vars.length - j;have:=dT hc3;omega
 refine wp_exit (zaa (zaa (za5 (za1 ?_))));replace h:=cv (fun z_:List Int=>F.of [(3,vp 5 0),(5,vp 6 0),(6,vp 7 0),(7,vp 8 0),(9,vO 9 z_.length),(10,vO 10 (zds (za8 s act).1 j).length),(11,vO 11 (zdv (za8 s act).1 j).length),(31,vN s.vars.length),(32,vN j),(33,vb (decide ((j:Int)<(s.vars.length:Int))))] [(5,.box (zan s)),(6,.box (zF f)),(7,.box zF0),(8,.box ([cI (za8 s act).1.proc,cI (za8 s act).1.from_,cI (za8 s act).1.to_,cI (za8 s act).1.guard.kind,cPs (za8 s act).1.guard.r.t.parts]++zi (za8 s act).1.guard.r.t.k++[cB (za8 s act).1.guard.r.eq,cFs (za8 s act).1.guard.kids,.d (.sl 5 ((za8 s act).1.moves.map zad.d))])),(9,.row 3 1 (z_.map zai)),(10,.row 3 1 ((zds (za8 s act).1 j).map zai)),(11,.row 30 3 ((zdv (za8 s act).1 j).map zak.d))]) (show ((zea (za8 s act).1 j):List Int)=(zea (za8 s act).1 s.vars.length) from (by rw [show j=s.vars.length by have:=dF hc6;omega])) h;replace h:=ziv 9 1 3 ((zea (za8 s act).1 s.vars.length).map zai) [(3,vp 5 0),(5,vp 6 0),(6,vp 7 0),(7,vp 8 0),(9,(vIs (zea (za8 s act).1 s.vars.length))),(10,vO 10 (zds (za8 s act).1 j).length),(11,vO 11 (zdv (za8 s act).1 j).length),(31,vN s.vars.length),(32,vN j),(33,vb (decide ((j:Int)<(s.vars.length:Int))))] [(5,.box (zan s)),(6,.box (zF f)),(7,.box zF0),(8,.box ([cI (za8 s act).1.proc,cI (za8 s act).1.from_,cI (za8 s act).1.to_,cI (za8 s act).1.guard.kind,cPs (za8 s act).1.guard.r.t.parts]++zi (za8 s act).1.guard.r.t.k++[cB (za8 s act).1.guard.r.eq,cFs (za8 s act).1.guard.kids,.d (.sl 5 ((za8 s act).1.moves.map zad.d))])),(10,.row 3 1 ((zds (za8 s act).1 j).map zai)),(11,.row 30 3 ((zdv (za8 s act).1 j).map zak.d))] h rfl (show zbx _ [(zea (za8 s act).1 s.vars.length).length] from ⟨by first | exact (List.length_map _).symm | (simp;done) | (simp;omega),trivial⟩) trivial;replace h:=cv (fun z_:List Int=>F.of [(3,vp 5 0),(5,vp 6 0),(6,vp 7 0),(7,vp 8 0),(9,(vIs (zea (za8 s act).1 s.vars.length))),(10,vO 10 z_.length),(11,vO 11 (zdv (za8 s act).1 j).length),(31,vN s.vars.length),(32,vN j),(33,vb (decide ((j:Int)<(s.vars.length:Int))))] [(5,.box (zan s)),(6,.box (zF f)),(7,.box zF0),(8,.box ([cI (za8 s act).1.proc,cI (za8 s act).1.from_,cI (za8 s act).1.to_,cI (za8 s act).1.guard.kind,cPs (za8 s act).1.guard.r.t.parts]++zi (za8 s act).1.guard.r.t.k++[cB (za8 s act).1.guard.r.eq,cFs (za8 s act).1.guard.kids,.d (.sl 5 ((za8 s act).1.moves.map zad.d))])),(10,.row 3 1 (z_.map zai)),(11,.row 30 3 ((zdv (za8 s act).1 j).map zak.d))]) (show ((zds (za8 s act).1 j):List Int)=(zds (za8 s act).1 s.vars.length) from (by rw [show j=s.vars.length by have:=dF hc6;omega])) h;replace h:=ziv 10 1 3 ((zds (za8 s act).1 s.vars.length).map zai) [(3,vp 5 0),(5,vp 6 0),(6,vp 7 0),(7,vp 8 0),(9,(vIs (zea (za8 s act).1 s.vars.length))),(10,(vIs (zds (za8 s act).1 s.vars.length))),(11,vO 11 (zdv (za8 s act).1 j).length),(31,vN s.vars.length),(32,vN j),(33,vb (decide ((j:Int)<(s.vars.length:Int))))] [(5,.box (zan s)),(6,.box (zF f)),(7,.box zF0),(8,.box ([cI (za8 s act).1.proc,cI (za8 s act).1.from_,cI (za8 s act).1.to_,cI (za8 s act).1.guard.kind,cPs (za8 s act).1.guard.r.t.parts]++zi (za8 s act).1.guard.r.t.k++[cB (za8 s act).1.guard.r.eq,cFs (za8 s act).1.guard.kids,.d (.sl 5 ((za8 s act).1.moves.map zad.d))])),(11,.row 30 3 ((zdv (za8 s act).1 j).map zak.d))] h rfl (show zbx _ [(zds (za8 s act).1 s.vars.length).length] from ⟨by first | exact (List.length_map _).symm | (simp;done) | (simp;omega),trivial⟩) trivial;replace h:=cv (fun z_:List zak=>F.of [(3,vp 5 0),(5,vp 6 0),(6,vp 7 0),(7,vp 8 0),(9,(vIs (zea (za8 s act).1 s.vars.length))),(10,(vIs (zds (za8 s act).1 s.vars.length))),(11,vO 11 z_.length),(31,vN s.vars.length),(32,vN j),(33,vb (decide ((j:Int)<(s.vars.length:Int))))] [(5,.box (zan s)),(6,.box (zF f)),(7,.box zF0),(8,.box ([cI (za8 s act).1.proc,cI (za8 s act).1.from_,cI (za8 s act).1.to_,cI (za8 s act).1.guard.kind,cPs (za8 s act).1.guard.r.t.parts]++zi (za8 s act).1.guard.r.t.k++[cB (za8 s act).1.guard.r.eq,cFs (za8 s act).1.guard.kids,.d (.sl 5 ((za8 s act).1.moves.map zad.d))])),(11,.row 30 3 (z_.map zak.d))]) (show ((zdv (za8 s act).1 j):List zak)=(zdv (za8 s act).1 s.vars.length) from (by rw [show j=s.vars.length by have:=dF hc6;omega])) h;replace h:=ziv 11 3 30 ((zdv (za8 s act).1 s.vars.length).map zak.d) [(3,vp 5 0),(5,vp 6 0),(6,vp 7 0),(7,vp 8 0),(9,(vIs (zea (za8 s act).1 s.vars.length))),(10,(vIs (zds (za8 s act).1 s.vars.length))),(11,vS 3 ((zdv (za8 s act).1 s.vars.length).map zak.d)),(31,vN s.vars.length),(32,vN j),(33,vb (decide ((j:Int)<(s.vars.length:Int))))] [(5,.box (zan s)),(6,.box (zF f)),(7,.box zF0),(8,.box ([cI (za8 s act).1.proc,cI (za8 s act).1.from_,cI (za8 s act).1.to_,cI (za8 s act).1.guard.kind,cPs (za8 s act).1.guard.r.t.parts]++zi (za8 s act).1.guard.r.t.k++[cB (za8 s act).1.guard.r.eq,cFs (za8 s act).1.guard.kids,.d (.sl 5 ((za8 s act).1.moves.map zad.d))]))] h rfl (show zbx _ [(zdv (za8 s act).1 s.vars.length).length] from ⟨by first | exact (List.length_map _).symm | (simp;done) | (simp;omega),trivial⟩) trivial;refine Jq 16 [(2,.call (Lcan s (za8 s act).1 hs (zbj hs _) (zeg hw _)) md3_9),(4,.call (LFlat f (za0.okB_mono (by decide) (by decide) _ hf) (by omega)) li9_6),(6,.call (Lforget (zds (za8 s act).1 s.vars.length) (by omega) (za0.flat f false) (za0.okA_mono (by decide) (by decide) _ (flat_okA2 (by decide) (Nat.le_refl _) f hf false)) (Nat.le_trans (zi1 f false) (by omega))) me4_8),(9,.call (LPutAllF (za0.forg (zds (za8 s act).1 s.vars.length) (za0.flat f false)) (zea (za8 s act).1 s.vars.length) (zdv (za8 s act).1 s.vars.length) (za0.okB_mono (by decide) (by decide) _ hpt) hcl (preB_ok (zbj hs act) _) (by omega) (by omega)) mi7_13),(10,.g (Op.buildD (d:=65) (len:=2) (rows:=[(zgu s (za8 s act).1),(za0.each (zc6 (zea (za8 s act).1 s.vars.length) (zdv (za8 s act).1 s.vars.length)) (za0.forg (zds (za8 s act).1 s.vars.length) (za0.flat f false)))].map za0.d) (rs:=[(57,(vF (zgu s (za8 s act).1))),(64,(vF (za0.each (zc6 (zea (za8 s act).1 s.vars.length) (zdv (za8 s act).1 s.vars.length)) (za0.forg (zds (za8 s act).1 s.vars.length) (za0.flat f false)))))]) zh7 (.cons (i:=0) (OV.tmp 57 _) (.cons (i:=1) (OV.tmp 64 _) (.nil))) (by simp only [List.map_cons,List.map_nil,List.flatten_cons,List.flatten_nil,List.append_nil,za0.d_eq];kernel_rfl) rfl (by simp [za0.d_len]) (by decide) (by decide))),(11,.call (LAll [zgu s (za8 s act).1,(za0.each (zc6 (zea (za8 s act).1 s.vars.length) (zdv (za8 s act).1 s.vars.length)) (za0.forg (zds (za8 s act).1 s.vars.length) (za0.flat f false)))] (fun g hg=>za0.okB_mono (by decide) (by decide) _ (hsl g hg)) (show List.length _<=1000000 from by simp)) zii)] [(6,vp 7 0)] [(7,.box (zF (zc7 [zgu s (za8 s act).1,(za0.each (zc6 (zea (za8 s act).1 s.vars.length) (zdv (za8 s act).1 s.vars.length)) (za0.forg (zds (za8 s act).1 s.vars.length) (za0.flat f false)))])))] h fun a w h=>qV (rA 7 (zF (zc7 [zgu s (za8 s act).1,(za0.each (zc6 (zea (za8 s act).1 s.vars.length) (zdv (za8 s act).1 s.vars.length)) (za0.forg (zds (za8 s act).1 s.vars.length) (za0.flat f false)))])) h zch rfl ?_);rw [if_pos (show ((za8 s act).2)=true from by simpa using hc2)];try rfl
end S
end Go.Proofs.YtckmanpooapkpaaGreat
