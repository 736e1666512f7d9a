/-
  Part 5 of the proof of the statement WpPres: the walk through the program and the references lifted to the given row. It holds for every input.
-/
import Derived.Test.YtckmanpooapkpaaGreatWP4
import Derived.Test.YtckmanpooapkpaaGreatWP2
import Derived.SizedLaws
import Derived.Shelf.Sort.Plain
import Derived.Ground.Names2Prog
import Derived.Shelf.Slices.CompactI
import Derived.Shelf.Slices.In.SortNone
import Derived.Test.YtckmanpooapkpaaGreatProg
import Derived.Lib.RowBridge
import Derived.Test.YtckmanpooapkpaaGreatWP1
set_option maxRecDepth 100000
set_option maxHeartbeats 20000000
open Go.RowKit
namespace Go.Proofs.YtckmanpooapkpaaGreat
namespace S
theorem kh_5:za4 Tryz.prog 37:=za4.mk' (by kernel_rfl)
theorem kh_6:za4 Tryz.prog 10:=za4.mk' (by kernel_rfl)
theorem SRwithin (s:zar) (v:Nat) (n:ZI) {L M:Nat} (hL:L+M<=10000) (hs:zb9 L s) (hn:ZOk M n):Fn Tryz.prog 37 [] [vG (zaj s),vN v,vz n] (vb (zbl (zbh s v) n)) []:=by
 have ln:=hn.2;have lbs:=hs.bnds;refine Fn.body Tryz.func37 rfl 41 rfl fun w H B a h=>Jq 0 [] [(1,vN v),(3,vp 0 0),(5,vp 1 0),(6,vb false)] [(0,.box (zaj s)),(1,.box (zi n))] h fun a w h=>qW ?_
 rcases Bool.eq_false_or_eq_true (decide ((v:Int)>=(s.bounds.length:Int))) with hc1 | hc2
 ·have hc1':=dT hc1;refine Je 2 [(3,.len (za7 5 zaq.d s.bounds)),(4,.cmp (op:=.geq) (m:=(v:Int)) (n:=(s.bounds.length:Int)) (b:=true) .i64 hc1)] [] [(20,vb true)] h fun a w h=>cS true h (fun _=>?_) nofun
  refine Je 2 [] [20] [(6,vb true)] h fun a w h=>qV (za6 (rT (.c (cB true)) h rfl ?_));have hz:zbl (zbh s v) n=(true):=by rw [show zbh s v=bnd0 by unfold zbh;rw [List.getElem?_eq_none (by have:=dT hc1;omega)];rfl];rfl
  rw [hz];try rfl
 have hc2':=dF hc2;obtain ⟨x1,hx1⟩:=gl s.bounds v;have gx1:=hs.bnd x1 (lM hx1);have l1x1:=gx1.1.2;have l2x1:=gx1.2.2;refine Je 2 [(3,.len (za7 5 zaq.d s.bounds)),(4,.cmp (op:=.geq) (m:=(v:Int)) (n:=(s.bounds.length:Int)) (b:=false) .i64 hc2),(9,.g (xD 16 14 kf_0 (zab hx1 (f:=zaq.d)) (OV.tmp 15 _)))] [] [(20,vb (!x1.is_))] h fun a w h=>cS (!x1.is_) h (fun hc3=>?_) (fun hc4=>?_)
 ·have hc3':=hc3;(try simp at hc3');refine Je 2 [] [20] [(6,vb true)] h fun a w h=>qV (za6 (rT (.c (cB true)) h rfl ?_));have hz:zbl (zbh s v) n=(true):=by rw [show zbh s v=x1 by unfold zbh;rw [hx1];rfl];unfold zbl;rw [<- cmpZ_geI];simp only [hc3];try rfl
  rw [hz];try rfl
 have hc4':=hc4;(try simp at hc4');refine qU (za1 ?_)
 rcases Bool.eq_false_or_eq_true (decide (zfb n.val x1.lo.val>=0)) with hc5 | hc6
 ·have hc5':=dT hc5;refine Jq 2 [(4,.g (xD 25 23 kf_0 (zab hx1 (f:=zaq.d)) (OV.tmp 24 _))),(7,.call (SRCmp n x1.lo hn.1 gx1.1.1 (by omega) (by omega)) ub_1),(8,.cmp (op:=.geq) (m:=(zfb n.val x1.lo.val)) (n:=0) (b:=true) .i64 hc5),(14,.g (xD 35 33 kf_0 (zab hx1 (f:=zaq.d)) (OV.tmp 34 _))),(17,.call (SRCmp n x1.hi hn.1 gx1.2.1 (by omega) (by omega)) ub_1)] [(6,vb (decide (zfb n.val x1.hi.val<=0)))] [] h fun a w h=>qV (rT (.c (cB (decide (zfb n.val x1.hi.val<=0)))) h rfl ?_);have hz:zbl (zbh s v) n=(decide (zfb n.val x1.hi.val<=0)):=by rw [show zbh s v=x1 by unfold zbh;rw [hx1];rfl];unfold zbl;rw [<- cmpZ_geI];simp only [hc4,hc5];try rfl
  rw [hz];try rfl
 have hc6':=dF hc6;refine Jq 2 [(4,.g (xD 25 23 kf_0 (zab hx1 (f:=zaq.d)) (OV.tmp 24 _))),(7,.call (SRCmp n x1.lo hn.1 gx1.1.1 (by omega) (by omega)) ub_1),(8,.cmp (op:=.geq) (m:=(zfb n.val x1.lo.val)) (n:=0) (b:=false) .i64 hc6)] [(6,vb false)] [] h fun a w h=>qV (rT (.c (cB false)) h rfl ?_);have hz:zbl (zbh s v) n=(false):=by rw [show zbh s v=x1 by unfold zbh;rw [hx1];rfl];unfold zbl;rw [<- cmpZ_geI];simp only [hc4,hc6];try rfl
 rw [hz];try rfl
theorem SRFits (s:zar) (x:StD) {L M:Nat} (hL:L+M<=10000) (hs:zb9 L s) (hx:zjn M x):Fn Tryz.prog 10 [] [vG (zaj s),vG [cIs x.locs,cZs x.vals]] (vb (zdm s x)) []:=by
 have lx1:=hx.locs;have lx2:=hx.vals;have ls1:=hs.vars;have ls2:=hs.procs;refine Fn.body Tryz.func10 rfl 67 rfl fun w H B a h=>Jq 0 [] [(2,vp 0 0),(3,vp 1 0),(4,vb false)] [(0,.box (zaj s)),(1,.box [cIs x.locs,cZs x.vals])] h fun a w h=>qW ?_
 rcases Bool.eq_false_or_eq_true ((x.locs.length:Int) != (s.procs.length:Int)) with hc1 | hc2
 ·have hc1':=hc1;(try simp at hc1');refine Je 2 [(2,.len (za7 1 zai x.locs)),(5,.len (za7 3 zc7.d s.procs)),(6,.cmp (op:=.neq) (m:=(x.locs.length:Int)) (n:=(s.procs.length:Int)) (b:=true) .i64 hc1)] [] [(22,vb true)] h fun a w h=>cS true h (fun _=>?_) nofun
  refine Je 2 [] [22] [] h fun a w h=>qV (za6 (rT (.c (cB false)) h rfl ?_));have hz:zdm s x=false:=by unfold zdm;rw [decide_eq_false (by have:=hc1;simp at this;omega)];rfl
  rw [hz];try rfl
 have hc2':=hc2;(try simp at hc2');refine Je 2 [(2,.len (za7 1 zai x.locs)),(5,.len (za7 3 zc7.d s.procs)),(6,.cmp (op:=.neq) (m:=(x.locs.length:Int)) (n:=(s.procs.length:Int)) (b:=false) .i64 hc2),(10,.len (za7 2 ziD x.vals)),(13,.len (za7 1 zg4 s.vars))] [] [(22,vb ((x.vals.length:Int) != (s.vars.length:Int)))] h fun a w h=>cS ((x.vals.length:Int) != (s.vars.length:Int)) h (fun hc3=>?_) (fun hc4=>?_)
 ·have hc3':=hc3;(try simp at hc3');refine Je 2 [] [22] [] h fun a w h=>qV (za6 (rT (.c (cB false)) h rfl ?_));have hz:zdm s x=false:=by unfold zdm;rw [decide_eq_false (by have:=hc3;simp at this;omega)];rfl
  rw [hz];try rfl
 have hc4':=hc4;(try simp at hc4');refine qU (za1 (qW (Je 2 [] [22] [(5,vI 0)] h fun a w h=>qZ ?_)))
 refine zap (ι:=(Nat)) (fun j=>j<=x.locs.length/\zha j (zk8 s x)=true)
   (fun j=>[(2,vp 0 0),(3,vp 1 0),(5,vN j)])
   (fun j=>[(0,.box (zaj s)),(1,.box [cIs x.locs,cZs x.vals])])
   (fun j=>x.locs.length - j) 0 ?_ h (by kernel_rfl) (by kernel_rfl) ?_
 ·exact ⟨Nat.zero_le _,rfl⟩
 clear h;rintro j a w hI h;obtain ⟨hI1,hI2⟩:=hI;refine qW (Je 2 [(3,.len (za7 1 zai x.locs))] [] [(27,vb (decide ((j:Int)<(x.locs.length:Int))))] h fun a w h=>zam ((j:Int)<(x.locs.length:Int)) h (fun hc5 hc5'=>?_) (fun hc10 hc10'=>?_))
 ·refine qU (za1 (qW (qZ ?_)));obtain ⟨x1,hx1⟩:=gl x.locs j
  rcases Bool.eq_false_or_eq_true (decide (x1<0)) with hc6 | hc7
  ·have hc6':=dT hc6;refine Je 2 [(3,.g (xD 33 31 zi5 (zab hx1 (f:=zai)) (OV.tmp 32 _))),(5,.cmp (op:=.lss) (m:=x1) (n:=0) (b:=true) .i64 hc6)] [27] [(50,vb true)] h fun a w h=>cS true h (fun _=>?_) nofun
   refine Je 2 [] [50] [(4,vb false)] h fun a w h=>qV (zac (za6 (za6 (zac (za6 (rT (.c (cB false)) h rfl ?_))))));have hz:zdm s x=false:=by unfold zdm;rw [decide_eq_true (by have h1:=hc2;have h2:=hc4;simp at h1 h2;omega),Bool.true_and];rw [ziq (zak hx1) (show zk8 s x j=false by unfold zk8 zcq;rw [hx1];exact decide_eq_false (by have:=dT hc6;intro h;have:=h.1;simp at this;omega))];rfl
   rw [hz];try rfl
  have hc7':=dF hc7;obtain ⟨x2,hx2⟩:=gl s.procs j;refine Je 2 [(3,.g (xD 33 31 zi5 (zab hx1 (f:=zai)) (OV.tmp 32 _))),(5,.cmp (op:=.lss) (m:=x1) (n:=0) (b:=false) .i64 hc7),(10,.g (xD 40 38 zi5 (zab hx1 (f:=zai)) (OV.tmp 39 _))),(15,.g (xD 45 43 kf_5 (zab hx2 (f:=zc7.d)) (OV.tmp 44 _))),(18,.len (za7 1 zg4 x2.locs))] [27] [(50,vb (decide (x1>=(x2.locs.length:Int))))] h fun a w h=>zam (x1>=(x2.locs.length:Int)) h (fun hc8 hc8'=>?_) (fun hc9 hc9'=>?_)
  ·refine Je 2 [] [50] [(4,vb false)] h fun a w h=>qV (zac (za6 (za6 (zac (za6 (rT (.c (cB false)) h rfl ?_))))));have hz:zdm s x=false:=by unfold zdm;rw [decide_eq_true (by have h1:=hc2;have h2:=hc4;simp at h1 h2;omega),Bool.true_and];rw [ziq (zak hx1) (show zk8 s x j=false by unfold zk8 zcq;rw [hx1,hx2];exact decide_eq_false (by have:=dT hc8;intro h;have:=h.2;simp at this;omega))];rfl
   rw [hz];try rfl
  refine qU (za8 (za1 (Jf 2 [(1,.j1 j)] [50] [(5,vI ((j:Int)+1))] h fun a w h=>za1 (zag (x:=j) (y:=j+1) h ?_ ?_))))
  ·have:=zak hx1;exact ⟨by omega,zip hI2 (by unfold zk8 zcq;rw [hx1,hx2];exact decide_eq_true ⟨by have:=dF hc7;simpa using this,by have:=dF hc9;simpa using this⟩)⟩
  show x.locs.length - (j+1)<x.locs.length - j;have:=zak hx1;omega
 refine wp_exit (za9 (za9 (za5 (za1 (qW (Je 2 [] [5,27] [(6,vI 0)] h fun a w h=>qZ ?_))))))
 refine zap (ι:=(Nat)) (fun i=>i<=x.vals.length/\zha i (valOk s x)=true)
   (fun i=>[(2,vp 0 0),(3,vp 1 0),(6,vN i)])
   (fun i=>[(0,.box (zaj s)),(1,.box [cIs x.locs,cZs x.vals])])
   (fun i=>x.vals.length - i) 0 ?_ h (by kernel_rfl) (by kernel_rfl) ?_
 ·exact ⟨Nat.zero_le _,rfl⟩
 clear h;rintro i a w hI h;obtain ⟨hJ1,hJ2⟩:=hI;refine qW (Je 2 [(3,.len (za7 2 ziD x.vals))] [] [(55,vb (decide ((i:Int)<(x.vals.length:Int))))] h fun a w h=>zam ((i:Int)<(x.vals.length:Int)) h (fun hc11 hc11'=>?_) (fun hc14 hc14'=>?_))
 ·refine qU (za1 (qW (qZ ?_)));obtain ⟨x3,hx3⟩:=gl x.vals i;have gx3:=hx.val x3 (lM hx3);refine Je 2 [(5,.g (xD 63 61 tt_6 (zab hx3 (f:=ziD)) (OV.tmp 62 _))),(7,.call (SRwithin s i x3 hL hs gx3) kh_5)] [55] [(66,vb (!(zbl (zbh s i) x3)))] h fun a w h=>cS (!(zbl (zbh s i) x3)) h (fun hc12=>?_) (fun hc13=>?_)
  ·have hc12':=hc12;(try simp at hc12');refine Je 2 [] [66] [(4,vb false)] h fun a w h=>qV (zac (za6 (za6 (zac (za6 (rT (.c (cB false)) h rfl ?_))))));have hz:zdm s x=false:=by unfold zdm;rw [decide_eq_true (by have h1:=hc2;have h2:=hc4;simp at h1 h2;omega),Bool.true_and];rw [ziq (zak hx3) (show valOk s x i=false by unfold valOk;rw [hx3];exact (show (zbl (zbh s i) x3)=false from by simpa using hc12)),Bool.and_false]
   rw [hz];try rfl
  have hc13':=hc13;(try simp at hc13');refine qU (za8 (za1 (Jf 2 [(1,.j1 i)] [66] [(6,vI ((i:Int)+1))] h fun a w h=>za1 (zag (x:=i) (y:=i+1) h ?_ ?_))))
  ·have:=zak hx3;exact ⟨by omega,zip hJ2 (by unfold valOk;rw [hx3];exact (show (zbl (zbh s i) x3)=true from by simpa using hc13))⟩
  show x.vals.length - (i+1)<x.vals.length - i;have:=zak hx3;omega
 refine wp_exit (za9 (za9 (za5 (za1 (Jq 2 [] [(4,vb true)] [] h fun a w h=>qV (rT (.c (cB true)) h rfl ?_))))));have hz:zdm s x=true:=by unfold zdm;rw [decide_eq_true (by have h1:=hc2;have h2:=hc4;simp at h1 h2;omega),Bool.true_and];rw [show x.locs.length=j by have:=dF hc10;omega,hI2,show x.vals.length=i by have:=dF hc14;omega,hJ2];rfl
 rw [hz];try rfl
theorem ki_0:Sz Tryz.prog 72 10 true:=Sz.mk' (by kernel_rfl) Tryz.underlying72 _ rfl
theorem ki_1:SlT Tryz.prog 37 72 10:=SlT.mk' Tryz.underlying37 (by kernel_rfl)
theorem ki_2:SlT Tryz.prog 70 74 5:=SlT.mk' Tryz.underlying70 (by kernel_rfl)
theorem ki_4:za4 Tryz.prog 100:=za4.mk' (by kernel_rfl)
theorem ki_5:Sz Tryz.prog 74 5 true:=Sz.mk' (by kernel_rfl) Tryz.underlying74 _ rfl
def zcs (s:zar) (i:Int):Option zaw:=if 0<=i then s.acts[i.toNat]? else none
def form0:za0:=⟨0,⟨⟨[],ze6⟩,false⟩,[]⟩
def act0:zaw:=⟨0,0,0,form0,[]⟩
def mv0:zae:=⟨0,false,⟨[],ze6⟩⟩
def zj4 (a:zaw) (v:Nat):Option zae:=a.moves.find? fun m=>m.v == (v:Int)
def zb1 (a:zaw) (v:Nat):Bool:=match zj4 a v with | some m=>m.any | none=>false
def zgh (x:StD) (a:zaw) (v:Nat):ZI:=match zj4 a v with | none=>ZI.of ((x.vals[v]?).getD ze6).val | some m=>if m.any=true then ze6 else ZI.of (zcw m.t x.vals)
def zde (s:zar) (m:zae):Bool:=decide (m.v>=0) && decide (m.v<(s.vars.length:Int))
def zao (s:zar) (x:StD) (c:zaw):Bool:=(zdm s x && (decide (0<=c.proc/\c.proc<(s.procs.length:Int)) && ((x.locs[c.proc.toNat]?).getD 0 == c.from_) && decide (0<=c.to_/\c.to_<(zcq s c.proc.toNat:Int)))) && (!(c.moves.any fun m=>!zde s m) && c.guard.holds x.vals)
theorem zep {s:zar} {i:Int} {a:zaw} (h:zcs s i=some a):∃ k:Nat,i=(k:Int)/\s.acts[k]?=some a:=by
 unfold zcs at h
 split at h
 ·exact ⟨i.toNat,(Int.toNat_of_nonneg (by assumption)).symm,h⟩
 ·cases h
theorem zjm {s:zar} {i:Int} (h:zcs s i=none):i<0\/(s.acts.length:Int)<=i:=by
 unfold zcs at h
 split at h
 ·have:=List.getElem?_eq_none_iff.1 h;omega
 ·omega
theorem mv_mem {a:zaw} {v:Nat} {m:zae} (h:zj4 a v=some m):m ∈ a.moves:=List.mem_of_find?_eq_some h
theorem new_ok {L M:Nat} {x:StD} {a:zaw} (ha:zff L a) (hx:zjn M x) (v:Nat):ZOk (L+M+2) (zgh x a v):=by
 unfold zgh
 split
 ·refine ⟨ZI.lb_of _,Nat.le_trans (ZI.len_of ?_) (Nat.le_trans (Nat.le_refl M) (by omega))⟩
  cases hv:x.vals[v]? with
  | none=>exact zeq M
  | some z=>have g:=hx.val z (List.mem_of_getElem? hv);exact Nat.lt_of_lt_of_le (ZI.abs_lt g.1) (zds g.2)
 ·rename_i m hm
  split
  ·exact ZOk.zero
  ·exact ⟨ZI.lb_of _,Nat.le_trans (val_len (ha.mv m (mv_mem hm)) (by decide) hx.vok (fun p hp=>hp) (Nat.le_refl _)) (by omega)⟩
def fam1tb:Tb:=[(3,⟨1,false,[],[.d (.raw (.int .i64 0))],13⟩),(4,⟨1,false,[],[.d (.raw (.bool false))],3⟩),(24,⟨1,false,[],[.d (.raw zad)],1⟩),(26,⟨1,false,[],[.d (nsl [])],1⟩),(28,⟨2,true,[(0,1,false),(1,1,false)],[.d (.raw (.bool false)),.d (nsl [])],0⟩),(30,⟨3,true,[(0,1,false),(1,2,true)],[.d (.raw zad),.d (.raw (.bool false)),.d (nsl [])],0⟩),(74,⟨5,true,[(0,1,false),(1,1,false),(2,3,true)],[.d (.raw (.int .i64 0)),.d (.raw (.bool false)),.d (.raw zad),.d (.raw (.bool false)),.d (nsl [])],0⟩),(22,⟨1,false,[],[.d (.raw zad)],1⟩),(23,⟨1,false,[],[.d (.raw zad)],1⟩),(32,⟨4,true,[(0,3,true),(3,1,false)],[.d (.raw zad),.d (.raw (.bool false)),.d (nsl []),.d (.raw (.bool false))],0⟩),(33,⟨1,false,[],[.d (.raw zad)],1⟩),(35,⟨6,true,[(0,1,false),(1,4,true),(5,1,false)],[.d (.raw (.int .i64 0)),.d (.raw zad),.d (.raw (.bool false)),.d (nsl []),.d (.raw (.bool false)),.d (.raw zad)],0⟩),(36,⟨1,false,[],[.d (.raw zad)],1⟩),(37,⟨1,false,[],[.d (.raw zad)],1⟩),(39,⟨10,true,[(0,1,false),(1,1,false),(2,6,true),(8,1,false),(9,1,false)],[.d (.raw zad),.d (.raw zad),.d (.raw (.int .i64 0)),.d (.raw zad),.d (.raw (.bool false)),.d (nsl []),.d (.raw (.bool false)),.d (.raw zad),.d (.raw zad),.d (.raw zad)],0⟩),(136,⟨1,false,[],[.d (.raw .nilFunc)],4⟩),(70,⟨1,false,[],[.d (.raw zad)],1⟩),(40,⟨1,false,[],[.d (.raw zad)],1⟩),(41,⟨1,false,[],[.d (.raw zad)],1⟩),(43,⟨2,true,[(0,1,false),(1,1,false)],[.d (.raw zad),.d (.raw zad)],0⟩),(72,⟨10,true,[(0,1,false),(1,1,false),(2,1,false),(3,6,true),(9,1,false)],[.d (.raw (.int .i64 0)),.d (.raw (.int .i64 0)),.d (.raw (.int .i64 0)),.d (.raw (.int .i64 0)),.d (.raw zad),.d (.raw (.bool false)),.d (nsl []),.d (.raw (.bool false)),.d (.raw zad),.d (.raw zad)],0⟩),(9,⟨1,false,[],[.d (.raw (.string ByteArray.empty))],2⟩),(57,⟨1,false,[],[.d (.raw zad)],1⟩),(59,⟨3,true,[(0,1,false),(1,1,false),(2,1,false)],[.d (.raw (.string ByteArray.empty)),.d (.raw zad),.d (.raw zad)],0⟩)]
theorem zii:TbOk Tryz.prog fam1tb:=⟨zck.int Tryz.underlying3 rfl (by kernel_rfl) ⟨(.int .i64 0:Value),[.int .i64 0],by kernel_rfl,rfl,(fun _ _=>⟨DR.raw _ rfl,trivial⟩)⟩,
 zck.bl Tryz.underlying4 (by kernel_rfl) ⟨(.bool false:Value),[.bool false],by kernel_rfl,rfl,(fun _ _=>⟨DR.raw _ rfl,trivial⟩)⟩,
 zck.slc Tryz.underlying24 (by kernel_rfl) ⟨(.slice none 0 0:Value),[.slice none 0 0],by kernel_rfl,rfl,(fun _ _=>⟨DR.raw _ rfl,trivial⟩)⟩,
 zck.slc Tryz.underlying26 (by kernel_rfl) ⟨(.slice none 0 0:Value),[.slice none 0 0],by kernel_rfl,rfl,(fun _ _=>⟨DR.nil _ _ _ (fun _=>rfl) (Nat.zero_le _),trivial⟩)⟩,
 zck.st Tryz.underlying28 (by kernel_rfl) ⟨⟨by decide,Fd.mk' _ _ Tryz.underlying28 rfl rfl (Sz.mk' (by kernel_rfl) Tryz.underlying4 _ rfl)⟩,⟨by decide,Fd.mk' _ _ Tryz.underlying28 rfl rfl (Sz.mk' (by kernel_rfl) Tryz.underlying26 _ rfl)⟩,trivial⟩ ⟨(Value.agg #[.bool false,.slice none 0 0]),[.bool false,.slice none 0 0],by kernel_rfl,rfl,(fun _ _=>⟨DR.raw _ rfl,DR.nil _ _ _ (fun _=>rfl) (Nat.zero_le _),trivial⟩)⟩ ⟨_,Tryz.underlying28,⟨⟨rfl,by kernel_rfl⟩,⟨rfl,by kernel_rfl⟩,trivial⟩⟩,
 zck.st Tryz.underlying30 (by kernel_rfl) ⟨⟨by decide,Fd.mk' _ _ Tryz.underlying30 rfl rfl (Sz.mk' (by kernel_rfl) Tryz.underlying24 _ rfl)⟩,⟨by decide,Fd.mk' _ _ Tryz.underlying30 rfl rfl (Sz.mk' (by kernel_rfl) Tryz.underlying28 _ rfl)⟩,trivial⟩ ⟨(Value.agg #[.slice none 0 0,.bool false,.slice none 0 0]),[.slice none 0 0,.bool false,.slice none 0 0],by kernel_rfl,rfl,(fun _ _=>⟨DR.raw _ rfl,DR.raw _ rfl,DR.nil _ _ _ (fun _=>rfl) (Nat.zero_le _),trivial⟩)⟩ ⟨_,Tryz.underlying30,⟨⟨rfl,by kernel_rfl⟩,⟨rfl,by kernel_rfl⟩,trivial⟩⟩,
 zck.st Tryz.underlying74 (by kernel_rfl) ⟨⟨by decide,Fd.mk' _ _ Tryz.underlying74 rfl rfl (Sz.mk' (by kernel_rfl) Tryz.underlying3 _ rfl)⟩,⟨by decide,Fd.mk' _ _ Tryz.underlying74 rfl rfl (Sz.mk' (by kernel_rfl) Tryz.underlying4 _ rfl)⟩,⟨by decide,Fd.mk' _ _ Tryz.underlying74 rfl rfl (Sz.mk' (by kernel_rfl) Tryz.underlying30 _ rfl)⟩,trivial⟩ ⟨(Value.agg #[.int .i64 0,.bool false,.slice none 0 0,.bool false,.slice none 0 0]),[.int .i64 0,.bool false,.slice none 0 0,.bool false,.slice none 0 0],by kernel_rfl,rfl,(fun _ _=>⟨DR.raw _ rfl,DR.raw _ rfl,DR.raw _ rfl,DR.raw _ rfl,DR.nil _ _ _ (fun _=>rfl) (Nat.zero_le _),trivial⟩)⟩ ⟨_,Tryz.underlying74,⟨⟨rfl,by kernel_rfl⟩,⟨rfl,by kernel_rfl⟩,⟨rfl,by kernel_rfl⟩,trivial⟩⟩,
 zck.slc Tryz.underlying22 (by kernel_rfl) ⟨(.slice none 0 0:Value),[.slice none 0 0],by kernel_rfl,rfl,(fun _ _=>⟨DR.raw _ rfl,trivial⟩)⟩,
 zck.slc Tryz.underlying23 (by kernel_rfl) ⟨(.slice none 0 0:Value),[.slice none 0 0],by kernel_rfl,rfl,(fun _ _=>⟨DR.raw _ rfl,trivial⟩)⟩,
 zck.st Tryz.underlying32 (by kernel_rfl) ⟨⟨by decide,Fd.mk' _ _ Tryz.underlying32 rfl rfl (Sz.mk' (by kernel_rfl) Tryz.underlying30 _ rfl)⟩,⟨by decide,Fd.mk' _ _ Tryz.underlying32 rfl rfl (Sz.mk' (by kernel_rfl) Tryz.underlying4 _ rfl)⟩,trivial⟩ ⟨(Value.agg #[.slice none 0 0,.bool false,.slice none 0 0,.bool false]),[.slice none 0 0,.bool false,.slice none 0 0,.bool false],by kernel_rfl,rfl,(fun _ _=>⟨DR.raw _ rfl,DR.raw _ rfl,DR.nil _ _ _ (fun _=>rfl) (Nat.zero_le _),DR.raw _ rfl,trivial⟩)⟩ ⟨_,Tryz.underlying32,⟨⟨rfl,by kernel_rfl⟩,⟨rfl,by kernel_rfl⟩,trivial⟩⟩,
 zck.slc Tryz.underlying33 (by kernel_rfl) ⟨(.slice none 0 0:Value),[.slice none 0 0],by kernel_rfl,rfl,(fun _ _=>⟨DR.raw _ rfl,trivial⟩)⟩,
 zck.st Tryz.underlying35 (by kernel_rfl) ⟨⟨by decide,Fd.mk' _ _ Tryz.underlying35 rfl rfl (Sz.mk' (by kernel_rfl) Tryz.underlying3 _ rfl)⟩,⟨by decide,Fd.mk' _ _ Tryz.underlying35 rfl rfl (Sz.mk' (by kernel_rfl) Tryz.underlying32 _ rfl)⟩,⟨by decide,Fd.mk' _ _ Tryz.underlying35 rfl rfl (Sz.mk' (by kernel_rfl) Tryz.underlying33 _ rfl)⟩,trivial⟩ ⟨(Value.agg #[.int .i64 0,.slice none 0 0,.bool false,.slice none 0 0,.bool false,.slice none 0 0]),[.int .i64 0,.slice none 0 0,.bool false,.slice none 0 0,.bool false,.slice none 0 0],by kernel_rfl,rfl,(fun _ _=>⟨DR.raw _ rfl,DR.raw _ rfl,DR.raw _ rfl,DR.nil _ _ _ (fun _=>rfl) (Nat.zero_le _),DR.raw _ rfl,DR.raw _ rfl,trivial⟩)⟩ ⟨_,Tryz.underlying35,⟨⟨rfl,by kernel_rfl⟩,⟨rfl,by kernel_rfl⟩,⟨rfl,by kernel_rfl⟩,trivial⟩⟩,
 zck.slc Tryz.underlying36 (by kernel_rfl) ⟨(.slice none 0 0:Value),[.slice none 0 0],by kernel_rfl,rfl,(fun _ _=>⟨DR.raw _ rfl,trivial⟩)⟩,
 zck.slc Tryz.underlying37 (by kernel_rfl) ⟨(.slice none 0 0:Value),[.slice none 0 0],by kernel_rfl,rfl,(fun _ _=>⟨DR.raw _ rfl,trivial⟩)⟩,
 zck.st Tryz.underlying39 (by kernel_rfl) ⟨⟨by decide,Fd.mk' _ _ Tryz.underlying39 rfl rfl (Sz.mk' (by kernel_rfl) Tryz.underlying22 _ rfl)⟩,⟨by decide,Fd.mk' _ _ Tryz.underlying39 rfl rfl (Sz.mk' (by kernel_rfl) Tryz.underlying23 _ rfl)⟩,⟨by decide,Fd.mk' _ _ Tryz.underlying39 rfl rfl (Sz.mk' (by kernel_rfl) Tryz.underlying35 _ rfl)⟩,⟨by decide,Fd.mk' _ _ Tryz.underlying39 rfl rfl (Sz.mk' (by kernel_rfl) Tryz.underlying36 _ rfl)⟩,⟨by decide,Fd.mk' _ _ Tryz.underlying39 rfl rfl (Sz.mk' (by kernel_rfl) Tryz.underlying37 _ rfl)⟩,trivial⟩ ⟨(Value.agg #[.slice none 0 0,.slice none 0 0,.int .i64 0,.slice none 0 0,.bool false,.slice none 0 0,.bool false,.slice none 0 0,.slice none 0 0,.slice none 0 0]),[.slice none 0 0,.slice none 0 0,.int .i64 0,.slice none 0 0,.bool false,.slice none 0 0,.bool false,.slice none 0 0,.slice none 0 0,.slice none 0 0],by kernel_rfl,rfl,(fun _ _=>⟨DR.raw _ rfl,DR.raw _ rfl,DR.raw _ rfl,DR.raw _ rfl,DR.raw _ rfl,DR.nil _ _ _ (fun _=>rfl) (Nat.zero_le _),DR.raw _ rfl,DR.raw _ rfl,DR.raw _ rfl,DR.raw _ rfl,trivial⟩)⟩ ⟨_,Tryz.underlying39,⟨⟨rfl,by kernel_rfl⟩,⟨rfl,by kernel_rfl⟩,⟨rfl,by kernel_rfl⟩,⟨rfl,by kernel_rfl⟩,⟨rfl,by kernel_rfl⟩,trivial⟩⟩,
 zck.fnc Tryz.underlying136 rfl (by kernel_rfl) ⟨(.nilFunc:Value),[.nilFunc],by kernel_rfl,rfl,(fun _ _=>⟨DR.raw _ rfl,trivial⟩)⟩,
 zck.slc Tryz.underlying70 (by kernel_rfl) ⟨(.slice none 0 0:Value),[.slice none 0 0],by kernel_rfl,rfl,(fun _ _=>⟨DR.raw _ rfl,trivial⟩)⟩,
 zck.slc Tryz.underlying40 (by kernel_rfl) ⟨(.slice none 0 0:Value),[.slice none 0 0],by kernel_rfl,rfl,(fun _ _=>⟨DR.raw _ rfl,trivial⟩)⟩,
 zck.slc Tryz.underlying41 (by kernel_rfl) ⟨(.slice none 0 0:Value),[.slice none 0 0],by kernel_rfl,rfl,(fun _ _=>⟨DR.raw _ rfl,trivial⟩)⟩,
 zck.st Tryz.underlying43 (by kernel_rfl) ⟨⟨by decide,Fd.mk' _ _ Tryz.underlying43 rfl rfl (Sz.mk' (by kernel_rfl) Tryz.underlying40 _ rfl)⟩,⟨by decide,Fd.mk' _ _ Tryz.underlying43 rfl rfl (Sz.mk' (by kernel_rfl) Tryz.underlying41 _ rfl)⟩,trivial⟩ ⟨(Value.agg #[.slice none 0 0,.slice none 0 0]),[.slice none 0 0,.slice none 0 0],by kernel_rfl,rfl,(fun _ _=>⟨DR.raw _ rfl,DR.raw _ rfl,trivial⟩)⟩ ⟨_,Tryz.underlying43,⟨⟨rfl,by kernel_rfl⟩,⟨rfl,by kernel_rfl⟩,trivial⟩⟩,
 zck.st Tryz.underlying72 (by kernel_rfl) ⟨⟨by decide,Fd.mk' _ _ Tryz.underlying72 rfl rfl (Sz.mk' (by kernel_rfl) Tryz.underlying3 _ rfl)⟩,⟨by decide,Fd.mk' _ _ Tryz.underlying72 rfl rfl (Sz.mk' (by kernel_rfl) Tryz.underlying3 _ rfl)⟩,⟨by decide,Fd.mk' _ _ Tryz.underlying72 rfl rfl (Sz.mk' (by kernel_rfl) Tryz.underlying3 _ rfl)⟩,⟨by decide,Fd.mk' _ _ Tryz.underlying72 rfl rfl (Sz.mk' (by kernel_rfl) Tryz.underlying35 _ rfl)⟩,⟨by decide,Fd.mk' _ _ Tryz.underlying72 rfl rfl (Sz.mk' (by kernel_rfl) Tryz.underlying70 _ rfl)⟩,trivial⟩ ⟨(Value.agg #[.int .i64 0,.int .i64 0,.int .i64 0,.int .i64 0,.slice none 0 0,.bool false,.slice none 0 0,.bool false,.slice none 0 0,.slice none 0 0]),[.int .i64 0,.int .i64 0,.int .i64 0,.int .i64 0,.slice none 0 0,.bool false,.slice none 0 0,.bool false,.slice none 0 0,.slice none 0 0],by kernel_rfl,rfl,(fun _ _=>⟨DR.raw _ rfl,DR.raw _ rfl,DR.raw _ rfl,DR.raw _ rfl,DR.raw _ rfl,DR.raw _ rfl,DR.nil _ _ _ (fun _=>rfl) (Nat.zero_le _),DR.raw _ rfl,DR.raw _ rfl,DR.raw _ rfl,trivial⟩)⟩ ⟨_,Tryz.underlying72,⟨⟨rfl,by kernel_rfl⟩,⟨rfl,by kernel_rfl⟩,⟨rfl,by kernel_rfl⟩,⟨rfl,by kernel_rfl⟩,⟨rfl,by kernel_rfl⟩,trivial⟩⟩,
 zck.str Tryz.underlying9 (by kernel_rfl) ⟨(.string ByteArray.empty:Value),[.string ByteArray.empty],by kernel_rfl,rfl,(fun _ _=>⟨DR.raw _ rfl,trivial⟩)⟩,
 zck.slc Tryz.underlying57 (by kernel_rfl) ⟨(.slice none 0 0:Value),[.slice none 0 0],by kernel_rfl,rfl,(fun _ _=>⟨DR.raw _ rfl,trivial⟩)⟩,
 zck.st Tryz.underlying59 (by kernel_rfl) ⟨⟨by decide,Fd.mk' _ _ Tryz.underlying59 rfl rfl (Sz.mk' (by kernel_rfl) Tryz.underlying9 _ rfl)⟩,⟨by decide,Fd.mk' _ _ Tryz.underlying59 rfl rfl (Sz.mk' (by kernel_rfl) Tryz.underlying22 _ rfl)⟩,⟨by decide,Fd.mk' _ _ Tryz.underlying59 rfl rfl (Sz.mk' (by kernel_rfl) Tryz.underlying57 _ rfl)⟩,trivial⟩ ⟨(Value.agg #[.string ByteArray.empty,.slice none 0 0,.slice none 0 0]),[.string ByteArray.empty,.slice none 0 0,.slice none 0 0],by kernel_rfl,rfl,(fun _ _=>⟨DR.raw _ rfl,DR.raw _ rfl,DR.raw _ rfl,trivial⟩)⟩ ⟨_,Tryz.underlying59,⟨⟨rfl,by kernel_rfl⟩,⟨rfl,by kernel_rfl⟩,⟨rfl,by kernel_rfl⟩,trivial⟩⟩,
 trivial⟩
theorem kj_7:za4 Tryz.prog 84:=za4.mk' (by kernel_rfl)
theorem ze4 {s:zar} {x:StD} (h:zdm s x=true):x.locs.length=s.procs.length/\x.vals.length=s.vars.length:=by
 unfold zdm at h;rw [Bool.and_eq_true] at h;exact of_decide_eq_true h.1
theorem SCloneI1 (xs:List Int) (hn:0<xs.length) (hl:xs.length<=1000000):Fn Tryz.prog 38 [] [(vIs xs)] (vO 0 xs.length) [(0,.row 3 1 (xs.map zai))]:=by
 refine Fn.body Tryz.func38 rfl 8 rfl fun w H B a h=>Jq (htb:=zii) 1 [] [(0,(vIs xs)),(2,vW zad)] [] h fun a w h=>qW (Jd (htb:=zii) 1 [(1,.g (Op.eqNilD (d:=4) (t:=3) (es:=1) (xt:=40) (yt:=40) (rows:=xs.map zai) zi5.hu ((by rw [List.length_map];exact hn)) (OV.const zad rfl)))] [] [(4,vb false)] [] h fun a w h=>zax false h rfl nofun (fun _=>qU (za1 (Jq (htb:=zii) 1 [(0,.g (Op.buildE (d:=5) (n:=1) tb_0)),(2,.g (Op.appOD (d:=7) (t:=5) (u:=6) (n:=1) (n':=2) (len:=0) (len':=xs.length) (rows:=[].map zai) (rows2:=xs.map zai) (rows':=xs.map zai) tb_2 (by first | exact (List.length_map _).symm | simp) (by first | (rw [List.length_append,List.length_map];done) | simp) (by simp) (by simp [zai]) (by first | omega | (simp at *;done) | (simp at *;omega))))] [(2,vO 2 xs.length)] [(2,.row 3 1 (xs.map zai))] h fun a w h=>qV ?_))))
 replace h:=ze3 2 0 [(2,vO 0 xs.length)] [(0,.row 3 1 (xs.map zai))] h;refine rT (.c (.own 0 xs.length)) h rfl ?_;rfl
theorem SCloneI2 :Fn Tryz.prog 38 [] [vW zad] (vO 0 0) [(0,.row 3 1 ([].map zai))]:=by
 refine Fn.body Tryz.func38 rfl 8 rfl fun w H B a h=>Jq (htb:=zii) 1 [] [(0,vW zad),(2,vW zad)] [] h fun a w h=>qW (Jd (htb:=zii) 1 [(1,.g (Op.eqNilR (d:=4) (xt:=40) (yt:=40) (ao:=none) (n:=0) (c:=0) zi5.hu (OV.tmp 3 _) (OV.const zad rfl)))] [] [(4,vb true)] [] h fun a w h=>cS true h (fun _=>?_) nofun)
 refine Jd (htb:=zii) 1 [] [4] [] [] h fun a w h=>qV (za6 ?_);replace h:=zfk 2 0 1 1 3 (vW zad) [(0,vW zad),(2,vO 1 0)] [(1,.row 3 1 ([].map zai))] h (by kernel_rfl) rfl rfl;replace h:=ze3 1 0 [(0,vW zad),(2,vO 0 0)] [(0,.row 3 1 ([].map zai))] h;refine rT (.c (.own 0 0)) h rfl ?_;rfl
theorem SCloneI3 (ao:Addr) (c:Nat) (hc:c<=maxLen):Fn Tryz.prog 38 [] [vW (.slice (some ao) 0 c)] (vO 0 0) [(0,.row 3 1 ([].map zai))]:=by
 refine Fn.body Tryz.func38 rfl 8 rfl fun w H B a h=>Jq (htb:=zii) 1 [] [(0,vW (.slice (some ao) 0 c)),(2,vW zad)] [] h fun a w h=>qW (Jd (htb:=zii) 1 [(1,.g (Op.eqNilR (d:=4) (xt:=40) (yt:=40) (ao:=some ao) (n:=0) (c:=c) zi5.hu (OV.tmp 3 _) (OV.const zad rfl)))] [] [(4,vb false)] [] h fun a w h=>zax false h rfl nofun (fun _=>qU (za1 ?_)))
 replace h:=nilDSr 0 0 1 (vW (.slice (some ao) 0 c)) (some ao) c (fun e=>by cases e) hc [(0,(vIs [])),(2,vW zad),(4,vb false)] [] h rfl rfl;refine Jq (htb:=zii) 1 [(0,.g (Op.buildE (d:=5) (n:=1) tb_0)),(2,.g (Op.appOD (d:=7) (t:=5) (u:=6) (n:=1) (n':=2) (len:=0) (len':=0) (rows:=[].map zai) (rows2:=[].map zai) (rows':=[].map zai) tb_2 (by first | exact (List.length_map _).symm | simp) (by first | (rw [List.length_append,List.length_map];done) | simp) (by simp) (by simp [zai]) (by first | omega | (simp at *;done) | (simp at *;omega))))] [(2,vO 2 0)] [(2,.row 3 1 ([].map zai))] h fun a w h=>qV ?_;replace h:=ze3 2 0 [(2,vO 0 0)] [(0,.row 3 1 ([].map zai))] h;refine rT (.c (.own 0 0)) h rfl ?_;rfl
theorem SCloneI (xs:List Int) (hl:xs.length<=1000000):Fn Tryz.prog 38 [] [(vIs xs)] (vO 0 xs.length) [(0,.row 3 1 (xs.map zai))]:=by
 cases xs with
 | nil =>
  refine Fn.rawE fun ao c h1 h2=>?_
  cases ao with
  | none=>obtain rfl:=h1 rfl;exact SCloneI2
  | some ao=>exact SCloneI3 ao c h2
 | cons x xs=>exact SCloneI1 (x :: xs) (by simp) hl
theorem le5_0:za4 Tryz.prog 38:=za4.mk' (by kernel_rfl)
theorem le5_8:za4 Tryz.prog 68:=za4.mk' (by kernel_rfl)
theorem zju:za4 Tryz.prog 46:=za4.mk' (by kernel_rfl)
def za0.okA (n L:Nat) (f:za0):Prop:=f.fold fun k r _ ps=>(k=2->TOk n L r.t)/\∀ p ∈ ps,p
theorem za0.okA_eq (n L:Nat) (f:za0):f.okA n L ↔ (f.kind=2->TOk n L f.r.t)/\∀ g ∈ f.kids,g.okA n L:=by
 have:=za0.fold_eq (fun k r _ (ps:List Prop)=>(k=2->TOk n L r.t)/\∀ p ∈ ps,p) f
 unfold za0.okA
 rw [this]
 refine and_congr_right fun _=>⟨fun h g hg=>h _ (List.mem_map.2 ⟨g,hg,rfl⟩),fun h p hp=>?_⟩
 obtain ⟨g,hg,rfl⟩:=List.mem_map.1 hp
 exact h g hg
theorem za0.okA_mono {n L n' L':Nat} (hn:n<=n') (hL:L<=L') (f:za0):f.okA n L->f.okA n' L' :=
 za0.ind (P:=fun f=>f.okA n L->f.okA n' L') (fun k r ks ih hf=>by
  rw [za0.okA_eq] at hf ⊢
  exact ⟨fun e=>(hf.1 e).mono hn hL,fun g hg=>ih g hg (hf.2 g hg)⟩) f
theorem okA_tru (n L:Nat) (b:Bool):(zd3 b).okA n L:=by
 rw [za0.okA_eq];cases b <;> exact ⟨fun e=>absurd e (by decide),fun g hg=>by cases hg⟩
theorem okA_atom {n L:Nat} {r:zay} (h:TOk n L r.t):(za0.mk 2 r []).okA n L:=by
 rw [za0.okA_eq];exact ⟨fun _=>h,fun g hg=>by cases hg⟩
theorem zfn {n L:Nat} {k:Int} (hk:k=4\/k=5):∀ (fs out:List za0),(∀ g ∈ out,g.okA n L)->(∀ g ∈ fs,g.okA n L)->(zbn k fs out).okA n L
 | [],out,h,_=>by
  unfold zbn
  match out with
  | []=>exact okA_tru _ _ _
  | [g]=>exact h g (List.mem_cons_self ..)
  | g :: q :: l=>rw [za0.okA_eq];exact ⟨fun e=>absurd e (by show k≠2;omega),h⟩
 | f :: fs,out,h,h2=>by
  rw [zbn]
  have hf:=h2 f (List.mem_cons_self ..)
  have hfs:∀ g ∈ fs,g.okA n L:=fun g hg=>h2 g (List.mem_cons_of_mem _ hg)
  split
  ·exact hf
  ·split
   ·exact zfn hk fs out h hfs
   ·split
    ·exact zfn hk fs _ (fun g hg=>(List.mem_append.1 hg).elim (h g) fun hg=>((za0.okA_eq _ _ _).1 hf).2 g hg) hfs
    ·exact zfn hk fs _ (fun g hg=>(List.mem_append.1 hg).elim (h g) fun hg=>by rw [List.mem_singleton.1 hg];exact hf) hfs
theorem tight_okA {n L:Nat} {r:zay} (h:TOk n L r.t) (hn:n<=1000):(zav r).okA n (L+4):=by
 unfold zav
 split
 ·exact okA_atom (tight_tok h hn)
 ·exact okA_tru _ _ _
theorem take_sum (ks:List za0) (j:Nat) {x:za0} (h:ks[j]?=some x):((ks.take j).map za0.nodes).sum+x.nodes<=(ks.map za0.nodes).sum:=by
 have e:ks=ks.take j++ks.drop j:=(List.take_append_drop j ks).symm
 have h1:=zen h
 have h2:(ks.map za0.nodes).sum=((ks.take j).map za0.nodes).sum+((ks.drop j).map za0.nodes).sum:=by rw [<- zgq,List.take_append_drop]
 omega
theorem li9_6:za4 Tryz.prog 59:=za4.mk' (by kernel_rfl)
theorem kk_4:ElT Tryz.prog 41 28 2 32:=ElT.mk' Tryz.underlying41 _ _ rfl rfl (by kernel_rfl) (by kernel_rfl) (by kernel_rfl) (by decide) (by decide)
theorem kk_5:Sz Tryz.prog 43 2 true:=Sz.mk' (by kernel_rfl) Tryz.underlying43 _ rfl
def clZ (z:ZI):ZI:=ZI.of z.val
def cloneS (x:StD):StD:=⟨x.locs,x.vals.map clZ⟩
def st0:StD:=⟨[],[]⟩
def canAt (s:zar) (x:StD) (c:zaw) (v:Nat):Bool:=if zb1 c v=true then !((zbh s v).is_ && decide (zfb (zbh s v).lo.val (zbh s v).hi.val>0)) else zbl (zbh s v) (zgh x c v)
def canC (s:zar) (x:StD) (c:zaw):Bool:=zao s x c && zha s.vars.length (canAt s x c)
def can (s:zar) (x:StD) (i:Int):Bool:=match zcs s i with | none=>false | some c=>canC s x c
def stuck (s:zar) (x:StD):Bool:=zha s.acts.length (fun i=>!can s x (i:Int)) && zdm s x
def zat (c:zaw):Nat->Nat
  | 0=>0
  | v+1=>zat c v+if zb1 c v=true then 1 else 0
def zel (x:StD) (c:zaw) (picks:List ZI) (v:Nat):ZI:=if zb1 c v=true then (match picks[zat c v]? with | some p=>ZI.of p.val | none=>ze6) else zgh x c v
def zdu (s:zar) (x:StD) (c:zaw) (picks:List ZI):StD:=⟨x.locs.set c.proc.toNat c.to_,(List.range s.vars.length).map (zel x c picks)⟩
def goC (s:zar) (x:StD) (c:zaw) (picks:List ZI):StD × Bool:=if zao s x c=true/\zdm s (zdu s x c picks)=true then (zdu s x c picks,true) else (st0,false)
def goS (s:zar) (x:StD) (i:Int) (picks:List ZI):StD × Bool:=if i=-1/\stuck s x=true then (cloneS x,true) else match zcs s i with | none=>(st0,false) | some c=>goC s x c picks
theorem cl_len {M:Nat} {z:ZI} (h:ZOk M z):ZOk M (clZ z):=⟨ZI.lb_of _,Nat.le_trans (zcf h.1) h.2⟩
theorem zd8 {s:zar} {x:StD} {c:zaw} (h:zao s x c=true):zdm s x=true:=by unfold zao at h;simp only [Bool.and_eq_true] at h;exact h.1.1
theorem zgn {s:zar} {x:StD} {c:zaw} (h:zao s x c=true):0<=c.proc/\c.proc<(s.procs.length:Int):=by unfold zao at h;simp only [Bool.and_eq_true,decide_eq_true_eq] at h;exact h.1.2.1.1
theorem range_set {α:Type} {f:Nat->α} {cl:List α} {j:Nat} {y:α} (hj:j<cl.length) (hy:y=f j):((List.range j).map f++cl.drop j).set j y=(List.range (j+1)).map f++cl.drop (j+1):=by
 subst hy
 have hl:((List.range j).map f).length=j:=by simp
 rw [List.set_append_right _ _ (by omega),hl,Nat.sub_self,List.drop_eq_getElem_cons hj,List.set_cons_zero,List.range_succ,List.map_append,List.append_assoc];rfl
theorem range_end {α:Type} {f:Nat->α} {cl:List α} {n:Nat} (hn:cl.length=n):(List.range n).map f++cl.drop n=(List.range n).map f:=by rw [List.drop_of_length_le (by omega),List.append_nil]
theorem range_len {α:Type} {f:Nat->α} {cl:List α} {j:Nat} (hj:j<=cl.length):((List.range j).map f++cl.drop j).length=cl.length:=by rw [List.length_append,List.length_map,List.length_range,List.length_drop];omega
theorem map_snoc {α β:Type} {f:α->β} {xs:List α} {j:Nat} {x:α} (h:xs[j]?=some x):(xs.take j).map f++[f x]=(xs.take (j+1)).map f:=by rw [List.take_add_one,h,List.map_append];rfl
theorem zfw {x:StD} {c:zaw} {picks:List ZI} {v:Nat} (h:zb1 c v=false):zel x c picks v=zgh x c v:=by unfold zel;rw [if_neg (by rw [h];exact Bool.noConfusion)]
theorem cnt_free {c:zaw} {v:Nat} (h:zb1 c v=true):zat c (v+1)=zat c v+1:=by rw [zat,if_pos h]
theorem cnt_kept {c:zaw} {v:Nat} (h:zb1 c v=false):zat c (v+1)=zat c v:=by rw [zat,if_neg (by rw [h];exact Bool.noConfusion),Nat.add_zero]
theorem outS_ok {L M:Nat} {s:zar} {x:StD} {c:zaw} {picks:List ZI} (hs:zb9 L s) (hx:zjn M x) (hc:zff L c) (hp:∀ z ∈ picks,ZOk M z):zjn (L+M+2) (zdu s x c picks):=by
 refine ⟨by simp only [zdu,List.length_set];exact hx.locs,by simp only [zdu,List.length_map,List.length_range];exact Nat.le_trans hs.vars (by decide),fun z hz=>?_⟩
 simp only [zdu,List.mem_map] at hz
 obtain ⟨v,_,rfl⟩:=hz
 unfold zel
 split
 ·split
  ·rename_i p hp2
   have g:=hp p (List.mem_of_getElem? hp2)
   exact ⟨ZI.lb_of _,Nat.le_trans (zcf g.1) (by have:=g.2;omega)⟩
  ·exact ZOk.zero
 ·exact new_ok hc hx v
def zeb (y:StD) (c:zaw):Nat->List ZI
  | 0=>[]
  | v+1=>if zb1 c v=true then zeb y c v++[(y.vals[v]?).getD ze6] else zeb y c v
def leadsC (s:zar) (x:StD) (c:zaw) (y:StD):Bool:=(zao s x c && zdm s y) && ((goC s x c (zeb y c s.vars.length)).2 && sameS y (goC s x c (zeb y c s.vars.length)).1)
def leads (s:zar) (x:StD) (i:Int) (y:StD):Bool:=if i=-1 then stuck s x && sameS x y else match zcs s i with | none=>false | some c=>leadsC s x c y
theorem st0_ok {M:Nat}:zjn M st0:=⟨Nat.zero_le _,Nat.zero_le _,fun z hz=>(by cases hz)⟩
theorem kn_0:SlT Tryz.prog 83 43 2:=SlT.mk' Tryz.underlying83 (by kernel_rfl)
theorem SRmove (c:zaw) (v:Nat) (hl:c.moves.length<=20):Fn Tryz.prog 49 [] [vG ([cI c.proc,cI c.from_,cI c.to_,cI c.guard.kind,cPs c.guard.r.t.parts]++zi c.guard.r.t.k++[cB c.guard.r.eq,cFs c.guard.kids,.d (.sl 5 (c.moves.map zae.d))]),vN v] (vI (zdx (fun m=>m.v == (v:Int)) c.moves 0)) []:=by
 refine Fn.body Tryz.func49 rfl 22 rfl fun w H B a h=>Jq 0 [] [(1,vN v),(2,vp 0 0),(4,vI 0)] [(0,.box ([cI c.proc,cI c.from_,cI c.to_,cI c.guard.kind,cPs c.guard.r.t.parts]++zi c.guard.r.t.k++[cB c.guard.r.eq,cFs c.guard.kids,.d (.sl 5 (c.moves.map zae.d))]))] h fun a w h=>qW (Je 1 [] [] [(5,vI 0)] h fun a w h=>qZ ?_)
 refine zap (ι:=(Nat)) (fun j=>j<=c.moves.length/\zdx (fun m=>m.v == (v:Int)) c.moves 0=zdx (fun m=>m.v == (v:Int)) (c.moves.drop j) j)
   (fun j=>[(1,vN v),(2,vp 0 0),(5,vN j)])
   (fun j=>[(0,.box ([cI c.proc,cI c.from_,cI c.to_,cI c.guard.kind,cPs c.guard.r.t.parts]++zi c.guard.r.t.k++[cB c.guard.r.eq,cFs c.guard.kids,.d (.sl 5 (c.moves.map zae.d))]))])
   (fun j=>c.moves.length - j) 0 ?_ h (by kernel_rfl) (by kernel_rfl) ?_
 ·exact ⟨Nat.zero_le _,rfl⟩
 clear h;rintro j a w hI h;obtain ⟨hI1,hI2⟩:=hI;refine qW (Je 1 [(3,.len (za7 5 zae.d c.moves))] [] [(10,vb (decide ((j:Int)<(c.moves.length:Int))))] h fun a w h=>zam ((j:Int)<(c.moves.length:Int)) h (fun hc1 hc1'=>?_) (fun hc4 hc4'=>?_))
 ·refine qU (za1 (qW (qZ ?_)));obtain ⟨x1,hx1⟩:=gl c.moves j;refine Je 1 [(3,.g (xD 16 14 ki_2 (zab hx1 (f:=zae.d)) (OV.tmp 15 _)))] [10] [(20,vb (x1.v == (v:Int)))] h fun a w h=>cS (x1.v == (v:Int)) h (fun hc2=>?_) (fun hc3=>?_)
  ·have hc2':=hc2;(try simp at hc2');refine Je 1 [] [20] [(4,vN j)] h fun a w h=>qV (zac (za6 (za6 (zac (za6 (rT (.c (cI (j:Int))) h rfl ?_))))));have hz:zdx (fun m=>m.v == (v:Int)) c.moves 0=(j:Int):=by rw [hI2,zgj hx1,if_pos hc2]
   rw [hz];try rfl
  have hc3':=hc3;(try simp at hc3');refine qU (za8 (za1 (Jf 1 [(1,.j1 j)] [20] [(5,vI ((j:Int)+1))] h fun a w h=>za1 (zag (x:=j) (y:=j+1) h ?_ ?_))))
  ·exact ⟨by have:=zak hx1;omega,by rw [hI2,zgj hx1,if_neg (by rw [hc3];exact Bool.noConfusion)]⟩
  show c.moves.length - (j+1)<c.moves.length - j;have:=zak hx1;omega
 refine wp_exit (za9 (za9 (za5 (za1 (Jq 1 [] [(4,vI (-1))] [] h fun a w h=>qV (rT (.c (cI (-1))) h rfl ?_))))));have hz:zdx (fun m=>m.v == (v:Int)) c.moves 0=-1:=by rw [hI2,List.drop_of_length_le (by omega)];rfl
 rw [hz];try rfl
theorem there_no {s:zar} {m:zae} (h1:decide (m.v<0)=false) (h2:decide (m.v>=(s.vars.length:Int))=false):(!zde s m)=false:=by
 have:=of_decide_eq_false h1;have:=of_decide_eq_false h2
 unfold zde;rw [decide_eq_true (by omega),decide_eq_true (by omega)];rfl
theorem there_lo {s:zar} {m:zae} (h1:decide (m.v<0)=true):(!zde s m)=true:=by
 have:=of_decide_eq_true h1;unfold zde;rw [decide_eq_false (by omega)];rfl
theorem there_hi {s:zar} {m:zae} (h2:decide (m.v>=(s.vars.length:Int))=true):(!zde s m)=true:=by
 have:=of_decide_eq_true h2;unfold zde;rw [decide_eq_false (p:=m.v<(s.vars.length:Int)) (by omega),Bool.and_false];rfl
theorem SRbeginsN (s:zar) (x:StD) (i:Int) {L M:Nat} (_hL:L+M<=4000) (_hs:zb9 L s) (_hx:zjn M x) (hi:zcs s i=none):Fn Tryz.prog 48 [] [vG (zaj s),vG [cIs x.locs,cZs x.vals],vI i] (vb false) []:=by
 refine Fn.body Tryz.func48 rfl 100 rfl fun w H B a h=>Jq 0 [] [(2,vI i),(3,vp 0 0),(4,vp 1 0),(6,vb false)] [(0,.box (zaj s)),(1,.box [cIs x.locs,cZs x.vals])] h fun a w h=>qW ?_
 rcases Bool.eq_false_or_eq_true (decide (i<0)) with hc1 | hc2
 ·have hc1':=dT hc1;refine Je 2 [(1,.cmp (op:=.lss) (m:=i) (n:=0) (b:=true) .i64 hc1)] [] [(23,vb true)] h fun a w h=>cS true h (fun _=>?_) nofun
  refine Je 2 [] [23] [] h fun a w h=>qV (za6 (rT (.c (cB false)) h rfl ?_));rfl
 have hc2':=dF hc2;refine Je 2 [(1,.cmp (op:=.lss) (m:=i) (n:=0) (b:=false) .i64 hc2),(6,.len (za7 10 zaw.d s.acts)),(7,.cmp (op:=.geq) (m:=i) (n:=(s.acts.length:Int)) (b:=true) .i64 (decide_eq_true (by have:=zjm hi;have:=dF hc2;omega)))] [] [(23,vb true)] h fun a w h=>cS true h (fun _=>?_) nofun
 refine Je 2 [] [23] [] h fun a w h=>qV (za6 (rT (.c (cB false)) h rfl ?_));rfl
theorem SRbeginsS (s:zar) (x:StD) (ki:Nat) (c:zaw) {L M:Nat} (hL:L+M<=4000) (hs:zb9 L s) (hx:zjn M x) (hka:s.acts[ki]?=some c):Fn Tryz.prog 48 [] [vG (zaj s),vG [cIs x.locs,cZs x.vals],vN ki] (vb (zao s x c)) []:=by
 have lx1:=hx.locs;have lx2:=hx.vals;have ls1:=hs.vars;have ls2:=hs.procs;have lki:=zak hka;have hc:zff L c:=hs.act c (lM hka);have lmv:=hc.len;refine Fn.body Tryz.func48 rfl 100 rfl fun w H B a h=>Jq 0 [] [(2,vN ki),(3,vp 0 0),(4,vp 1 0),(6,vb false)] [(0,.box (zaj s)),(1,.box [cIs x.locs,cZs x.vals])] h fun a w h=>qW (Je 2 [(1,.cmp (op:=.lss) (m:=(ki:Int)) (n:=0) (b:=false) .i64 (show (decide ((ki:Int)<0))=false from decide_eq_false (by omega))),(6,.len (za7 10 zaw.d s.acts)),(7,.cmp (op:=.geq) (m:=(ki:Int)) (n:=(s.acts.length:Int)) (b:=false) .i64 (show (decide ((ki:Int)>=(s.acts.length:Int)))=false from decide_eq_false (by omega))),(12,.call (SRFits s x (L:=L) (M:=M) (by omega) hs hx) kh_6)] [] [(23,vb (!(zdm s x)))] h fun a w h=>cS (!(zdm s x)) h (fun hc1=>?_) (fun hc2=>?_))
 ·have hc1':=hc1;(try simp at hc1');refine Je 2 [] [23] [] h fun a w h=>qV (za6 (rT (.c (cB false)) h rfl ?_));have hz:zao s x c=false:=by unfold zao;rw [(show (zdm s x)=false from by simpa using hc1)];rfl
  rw [hz];try rfl
 have hc2':=hc2;(try simp at hc2');refine qU (za1 (Jd 2 [(3,.g (xD 27 25 ki_1 (zab hka (f:=zaw.d)) (OV.tmp 26 _)))] [2,23] [(7,vp 2 0)] [(0,.box (zaj s)),(1,.box [cIs x.locs,cZs x.vals]),(2,.box ([cI c.proc,cI c.from_,cI c.to_,cI c.guard.kind,cPs c.guard.r.t.parts]++zi c.guard.r.t.k++[cB c.guard.r.eq,cFs c.guard.kids,.d (.sl 5 (c.moves.map zae.d))]))] h fun a w h=>qW ?_))
 rcases Bool.eq_false_or_eq_true (decide (c.proc<0)) with hc3 | hc4
 ·have hc3':=dT hc3;refine Je 3 [(2,.cmp (op:=.lss) (m:=c.proc) (n:=0) (b:=true) .i64 hc3)] [] [(68,vb true)] h fun a w h=>cS true h (fun _=>?_) nofun
  refine Je 3 [] [68] [] h fun a w h=>qV (za6 (rT (.c (cB false)) h rfl ?_));have hz:zao s x c=(false):=by unfold zao;rw [(show (zdm s x)=true from by simpa using hc2),Bool.true_and];rw [decide_eq_false (p:=0<=c.proc/\c.proc<(s.procs.length:Int)) (by have:=dT hc3;omega)];rfl
  rw [hz];try rfl
 have hc4':=dF hc4
 rcases Bool.eq_false_or_eq_true (decide (c.proc>=(s.procs.length:Int))) with hc5 | hc6
 ·have hc5':=dT hc5;refine Je 3 [(2,.cmp (op:=.lss) (m:=c.proc) (n:=0) (b:=false) .i64 hc4),(8,.len (za7 3 zc7.d s.procs)),(9,.cmp (op:=.geq) (m:=c.proc) (n:=(s.procs.length:Int)) (b:=true) .i64 hc5)] [] [(68,vb true)] h fun a w h=>cS true h (fun _=>?_) nofun
  refine Je 3 [] [68] [] h fun a w h=>qV (za6 (rT (.c (cB false)) h rfl ?_));have hz:zao s x c=(false):=by unfold zao;rw [(show (zdm s x)=true from by simpa using hc2),Bool.true_and];rw [decide_eq_false (p:=0<=c.proc/\c.proc<(s.procs.length:Int)) (by have:=dT hc5;omega)];rfl
  rw [hz];try rfl
 have hc6':=dF hc6;have hfl:=ze4 (show (zdm s x)=true from by simpa using hc2);obtain ⟨k,hkk⟩:∃ k_:Nat,c.proc=(k_:Int):=⟨_,(Int.toNat_of_nonneg (by have:=dF hc4;omega)).symm⟩;replace h:=h.conv (f':=F.of [(3,vp 0 0),(4,vp 1 0),(6,vb false),(7,vp 2 0)] [(0,.box (zaj s)),(1,.box [cIs x.locs,cZs x.vals]),(2,.box ([cI (k:Int),cI c.from_,cI c.to_,cI c.guard.kind,cPs c.guard.r.t.parts]++zi c.guard.r.t.k++[cB c.guard.r.eq,cFs c.guard.kids,.d (.sl 5 (c.moves.map zae.d))]))]) (by rw [hkk];kernel_rfl);obtain ⟨x2,hx2⟩:=gl x.locs k
 rcases Bool.eq_false_or_eq_true (x2 != c.from_) with hc7 | hc8
 ·have hc7':=hc7;(try simp at hc7');refine Jq 3 [(2,.cmp (op:=.lss) (m:=(k:Int)) (n:=0) (b:=false) .i64 (show (decide ((k:Int)<0))=false from by rw [<- hkk];exact hc4)),(8,.len (za7 3 zc7.d s.procs)),(9,.cmp (op:=.geq) (m:=(k:Int)) (n:=(s.procs.length:Int)) (b:=false) .i64 (show (decide ((k:Int)>=(s.procs.length:Int)))=false from by rw [<- hkk];exact hc6)),(16,.g (xD 45 42 zi5 (zab hx2 (f:=zai)) (OV.tmp 44 _))),(20,.cmp (op:=.neq) (m:=x2) (n:=c.from_) (b:=true) .i64 hc7)] [(3,vp 0 0),(4,vp 1 0),(6,vb false),(7,vp 2 0),(68,vb true)] [(0,.box (zaj s)),(1,.box [cIs x.locs,cZs x.vals]),(2,.box ([cI (k:Int),cI c.from_,cI c.to_,cI c.guard.kind,cPs c.guard.r.t.parts]++zi c.guard.r.t.k++[cB c.guard.r.eq,cFs c.guard.kids,.d (.sl 5 (c.moves.map zae.d))]))] h fun a w h=>cS true h (fun _=>?_) nofun
  refine Je 3 [] [68] [] h fun a w h=>qV (za6 (rT (.c (cB false)) h rfl ?_));have hz:zao s x c=(false):=by unfold zao;rw [(show (zdm s x)=true from by simpa using hc2),Bool.true_and];rw [decide_eq_true (p:=0<=c.proc/\c.proc<(s.procs.length:Int)) (by have:=dF hc4;have:=dF hc6;omega),show c.proc.toNat=k by omega,hx2,Option.getD_some,Bool.true_and];rw [show (x2 == c.from_)=false by have:=hc7;simpa using this];rfl
  rw [hz];try rfl
 have hc8':=hc8;(try simp at hc8')
 rcases Bool.eq_false_or_eq_true (decide (c.to_<0)) with hc9 | hc10
 ·have hc9':=dT hc9;refine Jq 3 [(2,.cmp (op:=.lss) (m:=(k:Int)) (n:=0) (b:=false) .i64 (show (decide ((k:Int)<0))=false from by rw [<- hkk];exact hc4)),(8,.len (za7 3 zc7.d s.procs)),(9,.cmp (op:=.geq) (m:=(k:Int)) (n:=(s.procs.length:Int)) (b:=false) .i64 (show (decide ((k:Int)>=(s.procs.length:Int)))=false from by rw [<- hkk];exact hc6)),(16,.g (xD 45 42 zi5 (zab hx2 (f:=zai)) (OV.tmp 44 _))),(20,.cmp (op:=.neq) (m:=x2) (n:=c.from_) (b:=false) .i64 hc8),(25,.cmp (op:=.lss) (m:=c.to_) (n:=0) (b:=true) .i64 hc9)] [(3,vp 0 0),(4,vp 1 0),(6,vb false),(7,vp 2 0),(68,vb true)] [(0,.box (zaj s)),(1,.box [cIs x.locs,cZs x.vals]),(2,.box ([cI (k:Int),cI c.from_,cI c.to_,cI c.guard.kind,cPs c.guard.r.t.parts]++zi c.guard.r.t.k++[cB c.guard.r.eq,cFs c.guard.kids,.d (.sl 5 (c.moves.map zae.d))]))] h fun a w h=>cS true h (fun _=>?_) nofun
  refine Je 3 [] [68] [] h fun a w h=>qV (za6 (rT (.c (cB false)) h rfl ?_));have hz:zao s x c=(false):=by unfold zao;rw [(show (zdm s x)=true from by simpa using hc2),Bool.true_and];rw [decide_eq_true (p:=0<=c.proc/\c.proc<(s.procs.length:Int)) (by have:=dF hc4;have:=dF hc6;omega),show c.proc.toNat=k by omega,hx2,Option.getD_some,Bool.true_and];rw [show (x2 == c.from_)=true by have:=hc8;simpa using this,Bool.true_and];rw [decide_eq_false (by have:=dT hc9;omega)];rfl
  rw [hz];try rfl
 have hc10':=dF hc10;obtain ⟨x3,hx3⟩:=gl s.procs k;refine Jq 3 [(2,.cmp (op:=.lss) (m:=(k:Int)) (n:=0) (b:=false) .i64 (show (decide ((k:Int)<0))=false from by rw [<- hkk];exact hc4)),(8,.len (za7 3 zc7.d s.procs)),(9,.cmp (op:=.geq) (m:=(k:Int)) (n:=(s.procs.length:Int)) (b:=false) .i64 (show (decide ((k:Int)>=(s.procs.length:Int)))=false from by rw [<- hkk];exact hc6)),(16,.g (xD 45 42 zi5 (zab hx2 (f:=zai)) (OV.tmp 44 _))),(20,.cmp (op:=.neq) (m:=x2) (n:=c.from_) (b:=false) .i64 hc8),(25,.cmp (op:=.lss) (m:=c.to_) (n:=0) (b:=false) .i64 hc10),(34,.g (xD 63 60 kf_5 (zab hx3 (f:=zc7.d)) (OV.tmp 62 _))),(37,.len (za7 1 zg4 x3.locs))] [(3,vp 0 0),(4,vp 1 0),(6,vb false),(7,vp 2 0),(68,vb (decide (c.to_>=(x3.locs.length:Int))))] [(0,.box (zaj s)),(1,.box [cIs x.locs,cZs x.vals]),(2,.box ([cI (k:Int),cI c.from_,cI c.to_,cI c.guard.kind,cPs c.guard.r.t.parts]++zi c.guard.r.t.k++[cB c.guard.r.eq,cFs c.guard.kids,.d (.sl 5 (c.moves.map zae.d))]))] h fun a w h=>zam (c.to_>=(x3.locs.length:Int)) h (fun hc11 hc11'=>?_) (fun hc12 hc12'=>?_)
 ·refine Je 3 [] [68] [] h fun a w h=>qV (za6 (rT (.c (cB false)) h rfl ?_));have hz:zao s x c=(false):=by unfold zao;rw [(show (zdm s x)=true from by simpa using hc2),Bool.true_and];rw [decide_eq_true (p:=0<=c.proc/\c.proc<(s.procs.length:Int)) (by have:=dF hc4;have:=dF hc6;omega),show c.proc.toNat=k by omega,hx2,Option.getD_some,Bool.true_and];rw [show (x2 == c.from_)=true by have:=hc8;simpa using this,Bool.true_and];rw [show zcq s k=x3.locs.length by unfold zcq;rw [hx3];rfl];rw [decide_eq_false (by have:=dT hc11;omega)];rfl
  rw [hz];try rfl
 refine qU (za1 (qW (Je 3 [] [68] [(8,vI 0)] h fun a w h=>qZ ?_)))
 refine zap (ι:=(Nat)) (fun j=>j<=c.moves.length/\(c.moves.take j).any (fun m=>!zde s m)=false)
   (fun j=>[(3,vp 0 0),(4,vp 1 0),(7,vp 2 0),(8,vN j)])
   (fun j=>[(0,.box (zaj s)),(1,.box [cIs x.locs,cZs x.vals]),(2,.box ([cI (k:Int),cI c.from_,cI c.to_,cI c.guard.kind,cPs c.guard.r.t.parts]++zi c.guard.r.t.k++[cB c.guard.r.eq,cFs c.guard.kids,.d (.sl 5 (c.moves.map zae.d))]))])
   (fun j=>c.moves.length - j) 0 ?_ h (by kernel_rfl) (by kernel_rfl) ?_
 ·exact ⟨Nat.zero_le _,rfl⟩
 clear h;rintro j a w hI h;obtain ⟨hI1,hI2⟩:=hI;refine qW (Je 3 [(3,.len (za7 5 zae.d c.moves))] [] [(73,vb (decide ((j:Int)<(c.moves.length:Int))))] h fun a w h=>zam ((j:Int)<(c.moves.length:Int)) h (fun hc13 hc13'=>?_) (fun hc18 hc18'=>?_))
 ·refine qU (za1 (qW (qZ ?_)));obtain ⟨x4,hx4⟩:=gl c.moves j
  rcases Bool.eq_false_or_eq_true (decide (x4.v<0)) with hc14 | hc15
  ·have hc14':=dT hc14;refine Je 3 [(3,.g (xD 79 77 ki_2 (zab hx4 (f:=zae.d)) (OV.tmp 78 _))),(6,.cmp (op:=.lss) (m:=x4.v) (n:=0) (b:=true) .i64 hc14)] [73] [(94,vb true)] h fun a w h=>cS true h (fun _=>?_) nofun
   refine Je 3 [] [94] [(6,vb false)] h fun a w h=>qV (zac (za6 (za6 (zac (za6 (rT (.c (cB false)) h rfl ?_))))));have hz:zao s x c=(false):=by unfold zao;rw [(show (zdm s x)=true from by simpa using hc2),Bool.true_and];rw [decide_eq_true (p:=0<=c.proc/\c.proc<(s.procs.length:Int)) (by have:=dF hc4;have:=dF hc6;omega),show c.proc.toNat=k by omega,hx2,Option.getD_some,Bool.true_and];rw [show (x2 == c.from_)=true by have:=hc8;simpa using this,Bool.true_and];rw [show zcq s k=x3.locs.length by unfold zcq;rw [hx3];rfl];rw [decide_eq_true (p:=0<=c.to_/\c.to_<(x3.locs.length:Int)) (by have:=dF hc10;have:=dF hc12;omega),Bool.true_and,(zh8 (q:=(fun m=>!zde s m)) hx4 (there_lo hc14))];rfl
   rw [hz];try rfl
  have hc15':=dF hc15;refine Je 3 [(3,.g (xD 79 77 ki_2 (zab hx4 (f:=zae.d)) (OV.tmp 78 _))),(6,.cmp (op:=.lss) (m:=x4.v) (n:=0) (b:=false) .i64 hc15),(11,.g (xD 87 85 ki_2 (zab hx4 (f:=zae.d)) (OV.tmp 86 _))),(16,.len (za7 1 zg4 s.vars))] [73] [(94,vb (decide (x4.v>=(s.vars.length:Int))))] h fun a w h=>zam (x4.v>=(s.vars.length:Int)) h (fun hc16 hc16'=>?_) (fun hc17 hc17'=>?_)
  ·refine Je 3 [] [94] [(6,vb false)] h fun a w h=>qV (zac (za6 (za6 (zac (za6 (rT (.c (cB false)) h rfl ?_))))));have hz:zao s x c=(false):=by unfold zao;rw [(show (zdm s x)=true from by simpa using hc2),Bool.true_and];rw [decide_eq_true (p:=0<=c.proc/\c.proc<(s.procs.length:Int)) (by have:=dF hc4;have:=dF hc6;omega),show c.proc.toNat=k by omega,hx2,Option.getD_some,Bool.true_and];rw [show (x2 == c.from_)=true by have:=hc8;simpa using this,Bool.true_and];rw [show zcq s k=x3.locs.length by unfold zcq;rw [hx3];rfl];rw [decide_eq_true (p:=0<=c.to_/\c.to_<(x3.locs.length:Int)) (by have:=dF hc10;have:=dF hc12;omega),Bool.true_and,(zh8 (q:=(fun m=>!zde s m)) hx4 (there_hi hc16))];rfl
   rw [hz];try rfl
  refine qU (za8 (za1 (Jf 3 [(1,.j1 j)] [94] [(8,vI ((j:Int)+1))] h fun a w h=>za1 (zag (x:=j) (y:=j+1) h ?_ ?_))))
  ·exact ⟨by have:=zak hx4;omega,zl0 hx4 hI2 (there_no hc15 hc17)⟩
  show c.moves.length - (j+1)<c.moves.length - j;have:=zak hx4;omega
 refine wp_exit (za9 (za9 (za5 (za1 (Jq 3 [(4,.call (SRHolds x.vals (L:=L) (M:=M) (by omega) hx.vok c.guard hc.guard.1 hc.guard.2) zhe)] [(6,vb (za0.holds x.vals c.guard))] [] h fun a w h=>qV (rT (.c (cB (za0.holds x.vals c.guard))) h rfl ?_))))));have hz:zao s x c=(za0.holds x.vals c.guard):=by unfold zao;rw [(show (zdm s x)=true from by simpa using hc2),Bool.true_and];rw [decide_eq_true (p:=0<=c.proc/\c.proc<(s.procs.length:Int)) (by have:=dF hc4;have:=dF hc6;omega),show c.proc.toNat=k by omega,hx2,Option.getD_some,Bool.true_and];rw [show (x2 == c.from_)=true by have:=hc8;simpa using this,Bool.true_and];rw [show zcq s k=x3.locs.length by unfold zcq;rw [hx3];rfl];rw [decide_eq_true (p:=0<=c.to_/\c.to_<(x3.locs.length:Int)) (by have:=dF hc10;have:=dF hc12;omega),Bool.true_and,(zhy (q:=(fun m=>!zde s m)) (dF hc18) hI2)];rfl
 rw [hz];try rfl
theorem kp_7:za4 Tryz.prog 48:=za4.mk' (by kernel_rfl)
theorem kp_11:za4 Tryz.prog 49:=za4.mk' (by kernel_rfl)
theorem range_keep {α:Type} {f:Nat->α} {cl:List α} {j:Nat} {y:α} (hj:cl[j]?=some y) (hy:y=f j):(List.range j).map f++cl.drop j=(List.range (j+1)).map f++cl.drop (j+1):=by
 obtain ⟨hlt,rfl⟩:=List.getElem?_eq_some_iff.1 hj
 rw [List.drop_eq_getElem_cons hlt,hy,List.range_succ,List.map_append,List.append_assoc];rfl
theorem newV_at {x:StD} {c:zaw} {picks:List ZI} {v:Nat} {p:ZI} (h:zb1 c v=true) (hp:picks[zat c v]?=some p):zel x c picks v=ZI.of p.val:=by unfold zel;rw [if_pos h,hp]
theorem newV_no {x:StD} {c:zaw} {picks:List ZI} {v:Nat} (h:zb1 c v=true) (hp:¬ ((zat c v:Nat):Int)<(picks.length:Int)):zel x c picks v=ze6:=by unfold zel;rw [if_pos h,List.getElem?_eq_none (by omega)]
theorem zd1 {c:zaw} {v:Nat} {m:zae} {b:Bool} (hm:zj4 c v=some m) (h:m.any=b):zb1 c v=b:=by unfold zb1;rw [hm];exact h
theorem free_none {c:zaw} {v:Nat} (hm:zj4 c v=none):zb1 c v=false:=by unfold zb1;rw [hm]
theorem new_some {x:StD} {c:zaw} {v:Nat} {m:zae} (hm:zj4 c v=some m) (h:m.any=false):zgh x c v=ZI.of (zcw m.t x.vals):=by unfold zgh;rw [hm];simp only;rw [if_neg (by rw [h];exact Bool.noConfusion)]
theorem new_none {x:StD} {c:zaw} {v:Nat} {z:ZI} (hm:zj4 c v=none) (hz:x.vals[v]?=some z):zgh x c v=clZ z:=by unfold zgh;rw [hm,hz];rfl
theorem cnt_le (c:zaw):∀ v,zat c v<=v
 | 0=>Nat.le_refl _
 | v+1=>by rw [zat];have:=cnt_le c v;split <;> omega
theorem SRGo3 (s:zar) (x:StD) (ki:Nat) (picks:List ZI) (c:zaw) {L M:Nat} (hL:L+M<=4000) (hs:zb9 L s) (hx:zjn M x) (hp:∀ z ∈ picks,ZOk M z) (hka:s.acts[ki]?=some c) (hpl:picks.length<=9223372036854775807):Fn Tryz.prog 27 [] [vG (zaj s),vG [cIs x.locs,cZs x.vals],vN ki,(vZs picks)] (.tup [.agg [cIs (goC s x c picks).1.locs,cZs (goC s x c picks).1.vals],.c (cB (goC s x c picks).2)]) []:=by
 have lx1:=hx.locs;have lx2:=hx.vals;have ls1:=hs.vars;have ls2:=hs.procs;have lki:=zak hka;have hc:zff L c:=hs.act c (lM hka);have lmv:=hc.len;have lvv:=hx.vals;refine Fn.body Tryz.func27 rfl 139 rfl fun w H B a h=>Jq 5 [] [(2,vN ki),(3,(vZs picks)),(4,vp 5 0),(5,vp 6 0),(8,vp 7 0),(9,vb false)] [(5,.box (zaj s)),(6,.box [cIs x.locs,cZs x.vals]),(7,.box [.d (.raw zad),.d (.raw zad)])] h fun a w h=>Jd 8 [] [] [(10,vp 8 0)] [(5,.box (zaj s)),(6,.box [cIs x.locs,cZs x.vals]),(7,.box [.d (.raw zad),.d (.raw zad)]),(8,.box [.d (.raw zad),.d (.raw zad)])] h fun a w h=>qW ?_
 replace h:=zg6 8 0 9 1 3 [.d (.raw zad),.d (.raw zad)] [(2,vN ki),(3,(vZs picks)),(4,vp 5 0),(5,vp 6 0),(8,vp 7 0),(9,vb false),(10,vp 8 0)] [(5,.box (zaj s)),(6,.box [cIs x.locs,cZs x.vals]),(7,.box [.d (.raw zad),.d (.raw zad)]),(8,.box [.own 9 0,.d (.raw zad)]),(9,.row 3 1 ([].map zai))] h (by kernel_rfl) rfl rfl;replace h:=zg6 8 1 10 2 28 [.own 9 0,.d (.raw zad)] [(2,vN ki),(3,(vZs picks)),(4,vp 5 0),(5,vp 6 0),(8,vp 7 0),(9,vb false),(10,vp 8 0)] [(5,.box (zaj s)),(6,.box [cIs x.locs,cZs x.vals]),(7,.box [.d (.raw zad),.d (.raw zad)]),(8,.box [.own 9 0,.own 10 0]),(9,.row 3 1 ([].map zai)),(10,.row 28 2 ([].map ziD))] h (by kernel_rfl) rfl rfl;refine Je 11 [] [] [(11,vI 0)] h fun a w h=>qZ ?_
 refine zap (ι:=(Nat)) (fun j=>j<=x.locs.length)
   (fun j=>[(2,vN ki),(3,(vZs picks)),(4,vp 5 0),(5,vp 6 0),(8,vp 7 0),(9,vb false),(10,vp 8 0),(11,vN j)])
   (fun j=>[(5,.box (zaj s)),(6,.box [cIs x.locs,cZs x.vals]),(7,.box [.d (.raw zad),.d (.raw zad)]),(8,.box [.own 9 (x.locs.take j).length,.own 10 0]),(9,.row 3 1 ((x.locs.take j).map zai)),(10,.row 28 2 ([].map ziD))])
   (fun j=>x.locs.length - j) 0 ?_ h (by kernel_rfl) (by kernel_rfl) ?_
 ·exact Nat.zero_le _
 clear h;rintro j a w hI h;refine qW (Je 11 [(3,.len (za7 1 zai x.locs))] [] [(22,vb (decide ((j:Int)<(x.locs.length:Int))))] h fun a w h=>zam ((j:Int)<(x.locs.length:Int)) h (fun hc1 hc1'=>?_) (fun hc2 hc2'=>?_))
 ·refine qU (za1 (qW (qZ ?_)));obtain ⟨x1,hx1⟩:=gl x.locs j;refine Jm 11 [(5,.g (xD 30 28 zi5 (zab hx1 (f:=zai)) (OV.tmp 29 _))),(7,.g (bD 32 ([x1].map zai) [(31,vI x1)] tb_0 (.cons (i:=0) (OV.tmp 31 _) (.nil)) (by kernel_rfl) (by simp [zai]))),(8,.g (aD 33 26 32 9 11 (x.locs.take j) [x1] zai tb_2 (by simp [zai])))] [22] [] [(5,.box (zaj s)),(6,.box [cIs x.locs,cZs x.vals]),(7,.box [.d (.raw zad),.d (.raw zad)]),(8,.box ([.own 11 ((x.locs.take j)++[x1]).length,.own 10 0])),(10,.row 28 2 ([].map ziD)),(11,.row 3 1 (((x.locs.take j)++[x1]).map zai))] h fun a w h=>za8 (za1 (Jf 12 [(1,.j1 j)] [] [(11,vI ((j:Int)+1))] h fun a w h=>za1 ?_));rw [show (((x.locs.take j)++[x1]):List Int)=(x.locs.take (j+1)) from (by rw [List.take_add_one,hx1];rfl)] at h;replace h:=ze3 11 9 [(2,vN ki),(3,(vZs picks)),(4,vp 5 0),(5,vp 6 0),(8,vp 7 0),(9,vb false),(10,vp 8 0),(11,vI ((j:Int)+1))] [(5,.box (zaj s)),(6,.box [cIs x.locs,cZs x.vals]),(7,.box [.d (.raw zad),.d (.raw zad)]),(8,.box [.own 9 (x.locs.take (j+1)).length,.own 10 0]),(10,.row 28 2 ([].map ziD)),(9,.row 3 1 ((x.locs.take (j+1)).map zai))] h;refine zag (x:=j) (y:=j+1) h ?_ ?_
  ·show j+1<=x.locs.length;omega
  show x.locs.length - (j+1)<x.locs.length - j;omega
 refine wp_exit (za9 (za9 (za5 (za1 (qW ?_)))));rw [show ((x.locs.take j):List Int)=x.locs from (by rw [List.take_of_length_le (by omega)])] at h;refine Jp 12 [] [(2,vN ki),(3,(vZs picks)),(4,vp 5 0),(5,vp 6 0),(8,vp 7 0),(9,vb false),(10,vp 8 0),(12,vI 0)] h fun a w h=>qZ ?_
 refine zap (ι:=(Nat)) (fun i=>i<=x.vals.length)
   (fun i=>[(2,vN ki),(3,(vZs picks)),(4,vp 5 0),(5,vp 6 0),(8,vp 7 0),(9,vb false),(10,vp 8 0),(12,vN i)])
   (fun i=>[(5,.box (zaj s)),(6,.box [cIs x.locs,cZs x.vals]),(7,.box [.d (.raw zad),.d (.raw zad)]),(8,.box [.own 9 x.locs.length,.own 10 ((x.vals.take i).map clZ).length]),(9,.row 3 1 (x.locs.map zai)),(10,.row 28 2 (((x.vals.take i).map clZ).map ziD))])
   (fun i=>x.vals.length - i) 0 ?_ h (by kernel_rfl) (by kernel_rfl) ?_
 ·exact Nat.zero_le _
 clear h;rintro i a w hI h;refine qW (Je 12 [(3,.len (za7 2 ziD x.vals))] [] [(39,vb (decide ((i:Int)<(x.vals.length:Int))))] h fun a w h=>zam ((i:Int)<(x.vals.length:Int)) h (fun hc3 hc3'=>?_) (fun hc4 hc4'=>?_))
 ·refine qU (za1 (qW (qZ ?_)));obtain ⟨x2,hx2⟩:=gl x.vals i;have gx2:=hx.val x2 (lM hx2);have lgx2:=gx2.2;obtain ⟨r3,er3,vr3,or3,lr3⟩:=mkZ (v:=x2.val) (m:=M) (Nat.le_trans (zcf gx2.1) gx2.2);refine Jm 12 [(5,.g (xD 47 45 tt_6 (zab hx2 (f:=ziD)) (OV.tmp 46 _))),(7,.call (Fn.cast ((show Fn _ _ _ _ (vz (ZI.of x2.val)) _ from zjo x2 gx2.1 (by omega))) (congrArg vz er3.symm)) tb_7),(8,.g (bD 50 ([r3].map ziD) [(49,vz r3)] ty_5 (.cons (i:=0) (OV.tmp 49 _) (.nil)) (by kernel_rfl) (by simp [ziD]))),(9,.g (aD 51 43 50 10 12 ((x.vals.take i).map clZ) [r3] ziD kk_4 (by simp [ziD])))] [39] [] [(5,.box (zaj s)),(6,.box [cIs x.locs,cZs x.vals]),(7,.box [.d (.raw zad),.d (.raw zad)]),(8,.box ([.own 9 x.locs.length,.own 12 (((x.vals.take i).map clZ)++[r3]).length])),(9,.row 3 1 (x.locs.map zai)),(12,.row 28 2 ((((x.vals.take i).map clZ)++[r3]).map ziD))] h fun a w h=>za8 (za1 (Jf 13 [(1,.j1 i)] [] [(12,vI ((i:Int)+1))] h fun a w h=>za1 ?_));rw [show ((((x.vals.take i).map clZ)++[r3]):List ZI)=((x.vals.take (i+1)).map clZ) from (by rw [<- map_snoc hx2];congr 1;simp [clZ, *])] at h;replace h:=ze3 12 10 [(2,vN ki),(3,(vZs picks)),(4,vp 5 0),(5,vp 6 0),(8,vp 7 0),(9,vb false),(10,vp 8 0),(12,vI ((i:Int)+1))] [(5,.box (zaj s)),(6,.box [cIs x.locs,cZs x.vals]),(7,.box [.d (.raw zad),.d (.raw zad)]),(8,.box [.own 9 x.locs.length,.own 10 ((x.vals.take (i+1)).map clZ).length]),(9,.row 3 1 (x.locs.map zai)),(10,.row 28 2 (((x.vals.take (i+1)).map clZ).map ziD))] h;refine zag (x:=i) (y:=i+1) h ?_ ?_
  ·show i+1<=x.vals.length;omega
  show x.vals.length - (i+1)<x.vals.length - i;omega
 refine wp_exit (za9 (za9 (za5 (za1 (qW ?_)))));rw [show (((x.vals.take i).map clZ):List ZI)=(x.vals.map clZ) from (by rw [List.take_of_length_le (by omega)])] at h;refine Jp 13 [(1,.cmp (op:=.eql) (m:=(ki:Int)) (n:=(-1)) (b:=false) .i64 (beq_eq_false_iff_ne.2 (by omega)))] [(2,vN ki),(3,(vZs picks)),(4,vp 5 0),(5,vp 6 0),(8,vp 7 0),(9,vb false),(10,vp 8 0),(54,vb false)] h fun a w h=>zax false h rfl nofun (fun _=>qU (za1 (qW (Je 13 [(3,.call (SRbeginsS s x ki c hL hs hx hka) kp_7)] [54] [(64,vb (!(zao s x c)))] h fun a w h=>cS (!(zao s x c)) h (fun hc5=>?_) (fun hc6=>?_)))))
 ·have hc5':=hc5;(try simp at hc5');refine Je 13 [] [64] [] h fun a w h=>qV (za6 ?_);replace h:=zbd 7 0 1 [.d (.raw zad),.d (.raw zad)] [(2,vN ki),(3,(vZs picks)),(4,vp 5 0),(5,vp 6 0),(8,vp 7 0),(9,vb false),(10,vp 8 0)] [(5,.box (zaj s)),(6,.box [cIs x.locs,cZs x.vals]),(7,.box [cIs [],.d (.raw zad)]),(8,.box [.own 9 x.locs.length,.own 10 (x.vals.map clZ).length]),(9,.row 3 1 (x.locs.map zai)),(10,.row 28 2 ((x.vals.map clZ).map ziD))] h rfl rfl;replace h:=zbd 7 1 2 [cIs [],.d (.raw zad)] [(2,vN ki),(3,(vZs picks)),(4,vp 5 0),(5,vp 6 0),(8,vp 7 0),(9,vb false),(10,vp 8 0)] [(5,.box (zaj s)),(6,.box [cIs x.locs,cZs x.vals]),(7,.box [cIs [],cZs []]),(8,.box [.own 9 x.locs.length,.own 10 (x.vals.map clZ).length]),(9,.row 3 1 (x.locs.map zai)),(10,.row 28 2 ((x.vals.map clZ).map ziD))] h rfl rfl;refine zea [.agg [cIs [],cZs []],.c (cB false)] h Exit.ret (.inl rfl)  rfl ⟨RV.agg _ 7 0 _ _ _ _ kk_5 rfl rfl rfl rfl,RV.tmp _ _ rfl,trivial⟩ ?_;have hz:goC s x c picks=(st0,false):=by unfold goC;rw [if_neg (fun h=>by have:=h.1;rw [(show (zao s x c)=false from by simpa using hc5)] at this;cases this)]
  rw [hz];try rfl
 have hc6':=hc6;(try simp at hc6');refine qU (za1 (Jd 13 [(3,.g (xD 69 67 ki_1 (zab hka (f:=zaw.d)) (OV.tmp 68 _)))] [2,64] [(13,vp 13 0)] [(5,.box (zaj s)),(6,.box [cIs x.locs,cZs x.vals]),(7,.box [.d (.raw zad),.d (.raw zad)]),(8,.box [.own 9 x.locs.length,.own 10 (x.vals.map clZ).length]),(9,.row 3 1 (x.locs.map zai)),(10,.row 28 2 ((x.vals.map clZ).map ziD)),(13,.box ([cI c.proc,cI c.from_,cI c.to_,cI c.guard.kind,cPs c.guard.r.t.parts]++zi c.guard.r.t.k++[cB c.guard.r.eq,cFs c.guard.kids,.d (.sl 5 (c.moves.map zae.d))]))] h fun a w h=>?_));have hen:=(show (zao s x c)=true from by simpa using hc6);have hfl:=ze4 (zd8 hen);have hpr:=zgn hen;obtain ⟨k0,hkk0⟩:∃ k_:Nat,c.proc=(k_:Int):=⟨_,(Int.toNat_of_nonneg (by omega)).symm⟩;replace h:=h.conv (f':=F.of [(3,(vZs picks)),(4,vp 5 0),(5,vp 6 0),(8,vp 7 0),(9,vb false),(10,vp 8 0),(13,vp 13 0)] [(5,.box (zaj s)),(6,.box [cIs x.locs,cZs x.vals]),(7,.box [.d (.raw zad),.d (.raw zad)]),(8,.box [.own 9 x.locs.length,.own 10 (x.vals.map clZ).length]),(9,.row 3 1 (x.locs.map zai)),(10,.row 28 2 ((x.vals.map clZ).map ziD)),(13,.box ([cI (k0:Int),cI c.from_,cI c.to_,cI c.guard.kind,cPs c.guard.r.t.parts]++zi c.guard.r.t.k++[cB c.guard.r.eq,cFs c.guard.kids,.d (.sl 5 (c.moves.map zae.d))]))]) (by rw [hkk0];kernel_rfl);obtain ⟨x5,hx5⟩:=gl x.locs k0;refine Jq 14 [(6,.g (xO 77 72 9 x.locs.length k0 zi5 (OV.tmp 74 _))),(7,.g (Op.storeR (t:=77) (n:=9) (i:=k0) (fo:=0) (rty:=3) (es:=1) (r:=zai x5) (ds:=[.raw (.int .i64 c.to_)]) (rs:=[(76,vI c.to_)]) (rows:=x.locs.map zai) (rows':=(x.locs.set k0 c.to_).map zai) tl_7 (OV.tmp 76 _) rfl rfl rfl (zab hx5 (f:=zai)) (by simp [zai]) (zbu (xs:=x.locs) (F:=zai) k0 _ _ rfl)))] [(3,(vZs picks)),(4,vp 5 0),(5,vp 6 0),(8,vp 7 0),(9,vb false),(10,vp 8 0),(13,vp 13 0)] [(5,.box (zaj s)),(6,.box [cIs x.locs,cZs x.vals]),(7,.box [.d (.raw zad),.d (.raw zad)]),(8,.box [.own 9 x.locs.length,.own 10 (x.vals.map clZ).length]),(9,.row 3 1 ((x.locs.set k0 c.to_).map zai)),(10,.row 28 2 ((x.vals.map clZ).map ziD)),(13,.box ([cI (k0:Int),cI c.from_,cI c.to_,cI c.guard.kind,cPs c.guard.r.t.parts]++zi c.guard.r.t.k++[cB c.guard.r.eq,cFs c.guard.kids,.d (.sl 5 (c.moves.map zae.d))]))] h fun a w h=>?_;replace h:=h.conv (f':=F.of [(3,(vZs picks)),(4,vp 5 0),(5,vp 6 0),(8,vp 7 0),(9,vb false),(10,vp 8 0),(13,vp 13 0)] [(5,.box (zaj s)),(6,.box [cIs x.locs,cZs x.vals]),(7,.box [.d (.raw zad),.d (.raw zad)]),(8,.box [.own 9 x.locs.length,.own 10 (x.vals.map clZ).length]),(9,.row 3 1 ((x.locs.set k0 c.to_).map zai)),(10,.row 28 2 ((x.vals.map clZ).map ziD)),(13,.box ([cI c.proc,cI c.from_,cI c.to_,cI c.guard.kind,cPs c.guard.r.t.parts]++zi c.guard.r.t.k++[cB c.guard.r.eq,cFs c.guard.kids,.d (.sl 5 (c.moves.map zae.d))]))]) (by rw [hkk0]);refine Jq 14 [] [(3,(vZs picks)),(4,vp 5 0),(5,vp 6 0),(8,vp 7 0),(9,vb false),(10,vp 8 0),(13,vp 13 0),(14,vI 0)] [(5,.box (zaj s)),(6,.box [cIs x.locs,cZs x.vals]),(7,.box [.d (.raw zad),.d (.raw zad)]),(8,.box [.own 9 x.locs.length,.own 10 (x.vals.map clZ).length]),(9,.row 3 1 ((x.locs.set k0 c.to_).map zai)),(10,.row 28 2 ((x.vals.map clZ).map ziD)),(13,.box ([cI c.proc,cI c.from_,cI c.to_,cI c.guard.kind,cPs c.guard.r.t.parts]++zi c.guard.r.t.k++[cB c.guard.r.eq,cFs c.guard.kids,.d (.sl 5 (c.moves.map zae.d))]))] h fun a w h=>qW (Je 14 [] [] [(15,vI 0)] h fun a w h=>qZ ?_)
 refine zap (ι:=(Nat)) (fun j=>j<=x.vals.length)
   (fun j=>[(3,(vZs picks)),(4,vp 5 0),(5,vp 6 0),(8,vp 7 0),(9,vb false),(10,vp 8 0),(13,vp 13 0),(14,vI ((zat c j:Nat):Int)),(15,vN j)])
   (fun j=>[(5,.box (zaj s)),(6,.box [cIs x.locs,cZs x.vals]),(7,.box [.d (.raw zad),.d (.raw zad)]),(8,.box [.own 9 x.locs.length,.own 10 (x.vals.map clZ).length]),(9,.row 3 1 ((x.locs.set k0 c.to_).map zai)),(10,.row 28 2 (((List.range j).map (zel x c picks)++(x.vals.map clZ).drop j).map ziD)),(13,.box ([cI c.proc,cI c.from_,cI c.to_,cI c.guard.kind,cPs c.guard.r.t.parts]++zi c.guard.r.t.k++[cB c.guard.r.eq,cFs c.guard.kids,.d (.sl 5 (c.moves.map zae.d))]))])
   (fun j=>x.vals.length - j) 0 ?_ h (by kernel_rfl) (by kernel_rfl) ?_
 ·exact Nat.zero_le _
 clear h;rintro j a w hI h;have hrl:=range_len (f:=(zel x c picks)) (cl:=(x.vals.map clZ)) (j:=j) (by rw [List.length_map];omega);rw [List.length_map] at hrl;have hcf:=cnt_le c j;refine qW (Je 14 [(3,.len (za7 2 ziD x.vals))] [] [(82,vb (decide ((j:Int)<(x.vals.length:Int))))] h fun a w h=>zam ((j:Int)<(x.vals.length:Int)) h (fun hc7 hc7'=>?_) (fun hc12 hc12'=>?_))
 ·refine qU (za1 (qW (qZ ?_)))
  rcases idxB_find (fun m=>m.v == (j:Int)) c.moves with ⟨hix,hm⟩ | ⟨k,m,hix,hmk,hm⟩
  ·replace hm:zj4 c j=none:=hm;refine Jq 14 [(2,.call (Fn.cast (SRmove c j lmv) (congrArg (vi .i64) hix)) kp_11)] [(3,(vZs picks)),(4,vp 5 0),(5,vp 6 0),(8,vp 7 0),(9,vb false),(10,vp 8 0),(13,vp 13 0),(14,vI ((zat c j:Nat):Int)),(15,vN j),(16,vI (-1))] [(5,.box (zaj s)),(6,.box [cIs x.locs,cZs x.vals]),(7,.box [.d (.raw zad),.d (.raw zad)]),(8,.box [.own 9 x.locs.length,.own 10 (x.vals.map clZ).length]),(9,.row 3 1 ((x.locs.set k0 c.to_).map zai)),(10,.row 28 2 (((List.range j).map (zel x c picks)++(x.vals.map clZ).drop j).map ziD)),(13,.box ([cI c.proc,cI c.from_,cI c.to_,cI c.guard.kind,cPs c.guard.r.t.parts]++zi c.guard.r.t.k++[cB c.guard.r.eq,cFs c.guard.kids,.d (.sl 5 (c.moves.map zae.d))]))] h fun a w h=>Je 14 [(1,.cmp (op:=.geq) (m:=(-1)) (n:=0) (b:=false) .i64 rfl)] [] [(97,vb false)] h fun a w h=>zax false h rfl nofun (fun _=>Je 14 [(1,.cmp (op:=.geq) (m:=(-1)) (n:=0) (b:=false) .i64 rfl)] [97] [(119,vb false)] h fun a w h=>zax false h rfl nofun (fun _=>qU (za8 (za1 (Jf 14 [(1,.j1 j)] [16,119] [(15,vI ((j:Int)+1))] h fun a w h=>za1 ?_)))))
   obtain ⟨zq,hzq⟩:∃ z_:ZI,x.vals[j]?=some z_:=⟨_,List.getElem?_eq_getElem (by omega)⟩;rw [show (((List.range j).map (zel x c picks)++(x.vals.map clZ).drop j):List ZI)=((List.range (j+1)).map (zel x c picks)++(x.vals.map clZ).drop (j+1)) from (range_keep (zab hzq (f:=clZ)) (by rw [zfw (free_none hm),new_none hm hzq]))] at h;replace h:=cv (fun z_:Int=>F.of [(3,(vZs picks)),(4,vp 5 0),(5,vp 6 0),(8,vp 7 0),(9,vb false),(10,vp 8 0),(13,vp 13 0),(14,vI z_),(15,vI ((j:Int)+1))] [(5,.box (zaj s)),(6,.box [cIs x.locs,cZs x.vals]),(7,.box [.d (.raw zad),.d (.raw zad)]),(8,.box [.own 9 x.locs.length,.own 10 (x.vals.map clZ).length]),(9,.row 3 1 ((x.locs.set k0 c.to_).map zai)),(10,.row 28 2 (((List.range (j+1)).map (zel x c picks)++(x.vals.map clZ).drop (j+1)).map ziD)),(13,.box ([cI c.proc,cI c.from_,cI c.to_,cI c.guard.kind,cPs c.guard.r.t.parts]++zi c.guard.r.t.k++[cB c.guard.r.eq,cFs c.guard.kids,.d (.sl 5 (c.moves.map zae.d))]))]) (show (((zat c j:Nat):Int):Int)=((zat c (j+1):Nat):Int) from (by rw [cnt_kept (free_none hm)])) h;refine zag (x:=j) (y:=j+1) h ?_ ?_
   ·show j+1<=x.vals.length;omega
   show x.vals.length - (j+1)<x.vals.length - j;omega
  replace hm:zj4 c j=some m:=hm;have lmk:=zak hmk;refine Jq 14 [(2,.call (Fn.cast (SRmove c j lmv) (congrArg (vi .i64) hix)) kp_11)] [(3,(vZs picks)),(4,vp 5 0),(5,vp 6 0),(8,vp 7 0),(9,vb false),(10,vp 8 0),(13,vp 13 0),(14,vI ((zat c j:Nat):Int)),(15,vN j),(16,vN k)] [(5,.box (zaj s)),(6,.box [cIs x.locs,cZs x.vals]),(7,.box [.d (.raw zad),.d (.raw zad)]),(8,.box [.own 9 x.locs.length,.own 10 (x.vals.map clZ).length]),(9,.row 3 1 ((x.locs.set k0 c.to_).map zai)),(10,.row 28 2 (((List.range j).map (zel x c picks)++(x.vals.map clZ).drop j).map ziD)),(13,.box ([cI c.proc,cI c.from_,cI c.to_,cI c.guard.kind,cPs c.guard.r.t.parts]++zi c.guard.r.t.k++[cB c.guard.r.eq,cFs c.guard.kids,.d (.sl 5 (c.moves.map zae.d))]))] h fun a w h=>Je 14 [(1,.cmp (op:=.geq) (m:=(k:Int)) (n:=0) (b:=true) .i64 (show (decide ((k:Int)>=0))=true from decide_eq_true (by omega))),(6,.g (xD 94 92 ki_2 (zab hmk (f:=zae.d)) (OV.tmp 93 _)))] [] [(97,vb m.any)] h fun a w h=>cS m.any h (fun hc8=>?_) (fun hc11=>?_)
  ·obtain ⟨x8,hx8⟩:=gl ((List.range j).map (zel x c picks)++(x.vals.map clZ).drop j) j;refine Jd 14 [(4,.g (xO 102 99 10 (x.vals.map clZ).length j tt_6 (OV.tmp 100 _))),(5,.g (Op.storeR (t:=102) (n:=10) (i:=j) (fo:=0) (rty:=28) (es:=2) (r:=ziD x8) (ds:=[.raw (.bool false),nsl []]) (rs:=[(101,vG [cB false,.d (nsl [])])]) (rows:=((List.range j).map (zel x c picks)++(x.vals.map clZ).drop j).map ziD) (rows':=(((List.range j).map (zel x c picks)++(x.vals.map clZ).drop j).set j (ZI.mk false [])).map ziD) zef (OV.tmp 101 _) rfl rfl rfl (zab hx8 (f:=ziD)) (by simp [ziD]) (zbu (xs:=((List.range j).map (zel x c picks)++(x.vals.map clZ).drop j)) (F:=ziD) j _ _ rfl)))] [16,97] [] [(5,.box (zaj s)),(6,.box [cIs x.locs,cZs x.vals]),(7,.box [.d (.raw zad),.d (.raw zad)]),(8,.box [.own 9 x.locs.length,.own 10 (x.vals.map clZ).length]),(9,.row 3 1 ((x.locs.set k0 c.to_).map zai)),(10,.row 28 2 ((((List.range j).map (zel x c picks)++(x.vals.map clZ).drop j).set j (ZI.mk false [])).map ziD)),(13,.box ([cI c.proc,cI c.from_,cI c.to_,cI c.guard.kind,cPs c.guard.r.t.parts]++zi c.guard.r.t.k++[cB c.guard.r.eq,cFs c.guard.kids,.d (.sl 5 (c.moves.map zae.d))]))] h fun a w h=>qW (Je 14 [(2,.len (za7 2 ziD picks))] [] [(106,vb (decide (((zat c j:Nat):Int)<(picks.length:Int))))] h fun a w h=>zam (((zat c j:Nat):Int)<(picks.length:Int)) h (fun hc9 hc9'=>?_) (fun hc10 hc10'=>?_))
   ·obtain ⟨x9,hx9⟩:=gl picks (zat c j);have gx9:=hp x9 (lM hx9);have lgx9:=gx9.2;obtain ⟨r10,er10,vr10,or10,lr10⟩:=mkZ (v:=x9.val) (m:=M) (Nat.le_trans (zcf gx9.1) gx9.2);refine Jm 14 [(5,.g (xD 112 110 tt_6 (zab hx9 (f:=ziD)) (OV.tmp 111 _))),(7,.call (Fn.cast ((show Fn _ _ _ _ (vz (ZI.of x9.val)) _ from zjo x9 gx9.1 (by omega))) (congrArg vz er10.symm)) tb_7),(8,.g (xO 115 108 10 (x.vals.map clZ).length j tt_6 (OV.tmp 109 _))),(9,.g (Op.storeR (t:=115) (n:=10) (i:=j) (fo:=0) (rty:=28) (es:=2) (r:=ziD (ZI.mk false [])) (ds:=[.raw (.bool r10.neg),nsl r10.abs]) (rs:=[(114,vz r10)]) (rows:=(((List.range j).map (zel x c picks)++(x.vals.map clZ).drop j).set j (ZI.mk false [])).map ziD) (rows':=((((List.range j).map (zel x c picks)++(x.vals.map clZ).drop j).set j (ZI.mk false [])).set j r10).map ziD) zef (OV.tmp 114 _) rfl rfl rfl (zab (List.getElem?_set_self (List.getElem?_eq_some_iff.1 hx8).1) (f:=ziD)) (by simp [ziD]) (zbu (xs:=(((List.range j).map (zel x c picks)++(x.vals.map clZ).drop j).set j (ZI.mk false []))) (F:=ziD) j _ _ rfl)))] [106] [] [(5,.box (zaj s)),(6,.box [cIs x.locs,cZs x.vals]),(7,.box [.d (.raw zad),.d (.raw zad)]),(8,.box [.own 9 x.locs.length,.own 10 (x.vals.map clZ).length]),(9,.row 3 1 ((x.locs.set k0 c.to_).map zai)),(10,.row 28 2 (((((List.range j).map (zel x c picks)++(x.vals.map clZ).drop j).set j (ZI.mk false [])).set j r10).map ziD)),(13,.box ([cI c.proc,cI c.from_,cI c.to_,cI c.guard.kind,cPs c.guard.r.t.parts]++zi c.guard.r.t.k++[cB c.guard.r.eq,cFs c.guard.kids,.d (.sl 5 (c.moves.map zae.d))]))] h fun a w h=>?_;refine za1 (Jf 14 [(1,.add .i64 (m:=((zat c j:Nat):Int)) (n:=1) i6)] [] [(14,vI (((zat c j:Nat):Int)+1))] h fun a w h=>za8 (za1 (Jf 14 [(1,.j1 j)] [] [(15,vI ((j:Int)+1))] h fun a w h=>za1 ?_)));rw [show (((((List.range j).map (zel x c picks)++(x.vals.map clZ).drop j).set j (ZI.mk false [])).set j r10):List ZI)=((List.range (j+1)).map (zel x c picks)++(x.vals.map clZ).drop (j+1)) from (by rw [List.set_set];exact range_set (by rw [List.length_map];omega) (by rw [newV_at (zd1 hm hc8) hx9];simp [*]))] at h;replace h:=cv (fun z_:Int=>F.of [(3,(vZs picks)),(4,vp 5 0),(5,vp 6 0),(8,vp 7 0),(9,vb false),(10,vp 8 0),(13,vp 13 0),(14,vI z_),(15,vI ((j:Int)+1))] [(5,.box (zaj s)),(6,.box [cIs x.locs,cZs x.vals]),(7,.box [.d (.raw zad),.d (.raw zad)]),(8,.box [.own 9 x.locs.length,.own 10 (x.vals.map clZ).length]),(9,.row 3 1 ((x.locs.set k0 c.to_).map zai)),(10,.row 28 2 (((List.range (j+1)).map (zel x c picks)++(x.vals.map clZ).drop (j+1)).map ziD)),(13,.box ([cI c.proc,cI c.from_,cI c.to_,cI c.guard.kind,cPs c.guard.r.t.parts]++zi c.guard.r.t.k++[cB c.guard.r.eq,cFs c.guard.kids,.d (.sl 5 (c.moves.map zae.d))]))]) (show (((zat c j:Nat):Int)+1:Int)=((zat c (j+1):Nat):Int) from (by rw [cnt_free (zd1 hm hc8)];omega)) h;refine zag (x:=j) (y:=j+1) h ?_ ?_
    ·show j+1<=x.vals.length;omega
    show x.vals.length - (j+1)<x.vals.length - j;omega
   refine qU (za1 (Jf 14 [(1,.add .i64 (m:=((zat c j:Nat):Int)) (n:=1) i6)] [106] [(14,vI (((zat c j:Nat):Int)+1))] h fun a w h=>za8 (za1 (Jf 14 [(1,.j1 j)] [] [(15,vI ((j:Int)+1))] h fun a w h=>za1 ?_))));rw [show ((((List.range j).map (zel x c picks)++(x.vals.map clZ).drop j).set j (ZI.mk false [])):List ZI)=((List.range (j+1)).map (zel x c picks)++(x.vals.map clZ).drop (j+1)) from (range_set (by rw [List.length_map];omega) (by rw [newV_no (zd1 hm hc8) (dF hc10)];rfl))] at h;replace h:=cv (fun z_:Int=>F.of [(3,(vZs picks)),(4,vp 5 0),(5,vp 6 0),(8,vp 7 0),(9,vb false),(10,vp 8 0),(13,vp 13 0),(14,vI z_),(15,vI ((j:Int)+1))] [(5,.box (zaj s)),(6,.box [cIs x.locs,cZs x.vals]),(7,.box [.d (.raw zad),.d (.raw zad)]),(8,.box [.own 9 x.locs.length,.own 10 (x.vals.map clZ).length]),(9,.row 3 1 ((x.locs.set k0 c.to_).map zai)),(10,.row 28 2 (((List.range (j+1)).map (zel x c picks)++(x.vals.map clZ).drop (j+1)).map ziD)),(13,.box ([cI c.proc,cI c.from_,cI c.to_,cI c.guard.kind,cPs c.guard.r.t.parts]++zi c.guard.r.t.k++[cB c.guard.r.eq,cFs c.guard.kids,.d (.sl 5 (c.moves.map zae.d))]))]) (show (((zat c j:Nat):Int)+1:Int)=((zat c (j+1):Nat):Int) from (by rw [cnt_free (zd1 hm hc8)];omega)) h;refine zag (x:=j) (y:=j+1) h ?_ ?_
   ·show j+1<=x.vals.length;omega
   show x.vals.length - (j+1)<x.vals.length - j;omega
  refine Je 14 [(1,.cmp (op:=.geq) (m:=(k:Int)) (n:=0) (b:=true) .i64 (show (decide ((k:Int)>=0))=true from decide_eq_true (by omega)))] [97] [(119,vb true)] h fun a w h=>cS true h (fun _=>?_) nofun
  obtain ⟨r11,er11,vr11,or11,lr11⟩:=mkZ (v:=zcw m.t x.vals) (m:=L+M+2) (Nat.le_trans (val_len (hc.mv m (lM hmk)) (by decide) hx.vok (fun p hp=>hp) (Nat.le_refl _)) (by omega));obtain ⟨x12,hx12⟩:=gl ((List.range j).map (zel x c picks)++(x.vals.map clZ).drop j) j;refine Jm 14 [(6,.g (xD 126 124 ki_2 (zab hmk (f:=zae.d)) (OV.tmp 125 _))),(11,.call (Fn.cast (SRValue m.t x.vals (hc.mv m (lM hmk)) (by decide) (by omega) hx.vok) (congrArg vz er11.symm)) ke_2),(12,.g (xO 132 121 10 (x.vals.map clZ).length j tt_6 (OV.tmp 122 _))),(13,.g (Op.storeR (t:=132) (n:=10) (i:=j) (fo:=0) (rty:=28) (es:=2) (r:=ziD x12) (ds:=[.raw (.bool r11.neg),nsl r11.abs]) (rs:=[(131,vz r11)]) (rows:=((List.range j).map (zel x c picks)++(x.vals.map clZ).drop j).map ziD) (rows':=(((List.range j).map (zel x c picks)++(x.vals.map clZ).drop j).set j r11).map ziD) zef (OV.tmp 131 _) rfl rfl rfl (zab hx12 (f:=ziD)) (by simp [ziD]) (zbu (xs:=((List.range j).map (zel x c picks)++(x.vals.map clZ).drop j)) (F:=ziD) j _ _ rfl)))] [16,119] [] [(5,.box (zaj s)),(6,.box [cIs x.locs,cZs x.vals]),(7,.box [.d (.raw zad),.d (.raw zad)]),(8,.box [.own 9 x.locs.length,.own 10 (x.vals.map clZ).length]),(9,.row 3 1 ((x.locs.set k0 c.to_).map zai)),(10,.row 28 2 ((((List.range j).map (zel x c picks)++(x.vals.map clZ).drop j).set j r11).map ziD)),(13,.box ([cI c.proc,cI c.from_,cI c.to_,cI c.guard.kind,cPs c.guard.r.t.parts]++zi c.guard.r.t.k++[cB c.guard.r.eq,cFs c.guard.kids,.d (.sl 5 (c.moves.map zae.d))]))] h fun a w h=>za8 (za1 (Jf 14 [(1,.j1 j)] [] [(15,vI ((j:Int)+1))] h fun a w h=>za1 ?_));rw [show ((((List.range j).map (zel x c picks)++(x.vals.map clZ).drop j).set j r11):List ZI)=((List.range (j+1)).map (zel x c picks)++(x.vals.map clZ).drop (j+1)) from (range_set (by rw [List.length_map];omega) (by rw [zfw (zd1 hm hc11),new_some hm hc11];simp [*]))] at h;replace h:=cv (fun z_:Int=>F.of [(3,(vZs picks)),(4,vp 5 0),(5,vp 6 0),(8,vp 7 0),(9,vb false),(10,vp 8 0),(13,vp 13 0),(14,vI z_),(15,vI ((j:Int)+1))] [(5,.box (zaj s)),(6,.box [cIs x.locs,cZs x.vals]),(7,.box [.d (.raw zad),.d (.raw zad)]),(8,.box [.own 9 x.locs.length,.own 10 (x.vals.map clZ).length]),(9,.row 3 1 ((x.locs.set k0 c.to_).map zai)),(10,.row 28 2 (((List.range (j+1)).map (zel x c picks)++(x.vals.map clZ).drop (j+1)).map ziD)),(13,.box ([cI c.proc,cI c.from_,cI c.to_,cI c.guard.kind,cPs c.guard.r.t.parts]++zi c.guard.r.t.k++[cB c.guard.r.eq,cFs c.guard.kids,.d (.sl 5 (c.moves.map zae.d))]))]) (show (((zat c j:Nat):Int):Int)=((zat c (j+1):Nat):Int) from (by rw [cnt_kept (zd1 hm hc11)])) h;refine zag (x:=j) (y:=j+1) h ?_ ?_
  ·show j+1<=x.vals.length;omega
  show x.vals.length - (j+1)<x.vals.length - j;omega
 refine wp_exit (za9 (za9 (za5 (za1 (qW ?_)))));replace h:=zi0 9 1 3 ((x.locs.set k0 c.to_).map zai) [(3,(vZs picks)),(4,vp 5 0),(5,vp 6 0),(8,vp 7 0),(9,vb false),(10,vp 8 0),(13,vp 13 0),(14,vI ((zat c j:Nat):Int)),(15,vN j),(82,vb (decide ((j:Int)<(x.vals.length:Int))))] [(5,.box (zaj s)),(6,.box [cIs x.locs,cZs x.vals]),(7,.box [.d (.raw zad),.d (.raw zad)]),(8,.box [cIs (x.locs.set k0 c.to_),.own 10 (x.vals.map clZ).length]),(10,.row 28 2 (((List.range j).map (zel x c picks)++(x.vals.map clZ).drop j).map ziD)),(13,.box ([cI c.proc,cI c.from_,cI c.to_,cI c.guard.kind,cPs c.guard.r.t.parts]++zi c.guard.r.t.k++[cB c.guard.r.eq,cFs c.guard.kids,.d (.sl 5 (c.moves.map zae.d))]))] h rfl trivial (show zbw _ [x.locs.length] from ⟨by first | exact (List.length_map _).symm | (simp;done) | (simp;omega),trivial⟩);replace h:=zi0 10 2 28 (((List.range j).map (zel x c picks)++(x.vals.map clZ).drop j).map ziD) [(3,(vZs picks)),(4,vp 5 0),(5,vp 6 0),(8,vp 7 0),(9,vb false),(10,vp 8 0),(13,vp 13 0),(14,vI ((zat c j:Nat):Int)),(15,vN j),(82,vb (decide ((j:Int)<(x.vals.length:Int))))] [(5,.box (zaj s)),(6,.box [cIs x.locs,cZs x.vals]),(7,.box [.d (.raw zad),.d (.raw zad)]),(8,.box ([cIs (x.locs.set k0 c.to_),cZs ((List.range j).map (zel x c picks)++(x.vals.map clZ).drop j)])),(13,.box ([cI c.proc,cI c.from_,cI c.to_,cI c.guard.kind,cPs c.guard.r.t.parts]++zi c.guard.r.t.k++[cB c.guard.r.eq,cFs c.guard.kids,.d (.sl 5 (c.moves.map zae.d))]))] h rfl trivial (show zbw _ [(x.vals.map clZ).length] from ⟨by first | exact (List.length_map _).symm | (simp;done) | (simp;omega),trivial⟩);replace h:=cv (fun z_:List Int=>F.of [(3,(vZs picks)),(4,vp 5 0),(5,vp 6 0),(8,vp 7 0),(9,vb false),(10,vp 8 0),(13,vp 13 0),(14,vI ((zat c j:Nat):Int)),(15,vN j),(82,vb (decide ((j:Int)<(x.vals.length:Int))))] [(5,.box (zaj s)),(6,.box [cIs x.locs,cZs x.vals]),(7,.box [.d (.raw zad),.d (.raw zad)]),(8,.box ([cIs z_,cZs ((List.range j).map (zel x c picks)++(x.vals.map clZ).drop j)])),(13,.box ([cI c.proc,cI c.from_,cI c.to_,cI c.guard.kind,cPs c.guard.r.t.parts]++zi c.guard.r.t.k++[cB c.guard.r.eq,cFs c.guard.kids,.d (.sl 5 (c.moves.map zae.d))]))]) (show ((x.locs.set k0 c.to_):List Int)=(zdu s x c picks).locs from (by show _=x.locs.set c.proc.toNat c.to_;rw [show c.proc.toNat=k0 by omega])) h;rw [show (((List.range j).map (zel x c picks)++(x.vals.map clZ).drop j):List ZI)=(zdu s x c picks).vals from (by rw [show j=s.vars.length by omega,range_end (by rw [List.length_map];omega)];rfl)] at h;refine Jq 14 [(2,.call (SRFits s (zdu s x c picks) (L:=L) (M:=L+M+2) (by omega) hs (outS_ok hs hx hc hp)) kh_6)] [(8,vp 7 0),(9,vb false),(10,vp 8 0),(136,vb (!(zdm s (zdu s x c picks))))] [(7,.box [.d (.raw zad),.d (.raw zad)]),(8,.box [cIs (zdu s x c picks).locs,cZs (zdu s x c picks).vals])] h fun a w h=>cS (!(zdm s (zdu s x c picks))) h (fun hc13=>?_) (fun hc14=>?_)
 ·have hc13':=hc13;(try simp at hc13');refine Je 14 [] [136] [] h fun a w h=>qV (za6 ?_);replace h:=zbd 7 0 1 [.d (.raw zad),.d (.raw zad)] [(8,vp 7 0),(9,vb false),(10,vp 8 0)] [(7,.box [cIs [],.d (.raw zad)]),(8,.box [cIs (zdu s x c picks).locs,cZs (zdu s x c picks).vals])] h rfl rfl;replace h:=zbd 7 1 2 [cIs [],.d (.raw zad)] [(8,vp 7 0),(9,vb false),(10,vp 8 0)] [(7,.box [cIs [],cZs []]),(8,.box [cIs (zdu s x c picks).locs,cZs (zdu s x c picks).vals])] h rfl rfl;refine zea [.agg [cIs [],cZs []],.c (cB false)] h Exit.ret (.inl rfl)  rfl ⟨RV.agg _ 7 0 _ _ _ _ kk_5 rfl rfl rfl rfl,RV.tmp _ _ rfl,trivial⟩ ?_;have hz:goC s x c picks=(st0,false):=by unfold goC;rw [if_neg (fun h=>by have:=h.2;rw [(show (zdm s (zdu s x c picks))=false from by simpa using hc13)] at this;cases this)]
  rw [hz];try rfl
 have hc14':=hc14;(try simp at hc14');refine qU (za1 (Jq 14 [] [(8,vp 7 0),(9,vb true)] [(7,.box [cIs (zdu s x c picks).locs,cZs (zdu s x c picks).vals])] h fun a w h=>qV (zea [.agg [cIs (zdu s x c picks).locs,cZs (zdu s x c picks).vals],.c (cB true)] h Exit.ret (.inl rfl)  rfl ⟨RV.agg _ 7 0 _ _ _ _ kk_5 rfl rfl rfl rfl,RV.tmp _ _ rfl,trivial⟩ ?_)));have hz:goC s x c picks=(zdu s x c picks,true):=by unfold goC;rw [if_pos ⟨(show (zao s x c)=true from by simpa using hc6),(show (zdm s (zdu s x c picks))=true from by simpa using hc14)⟩]
 rw [hz];try rfl
theorem kq_13:za4 Tryz.prog 27:=za4.mk' (by kernel_rfl)
theorem kq_14:za4 Tryz.prog 21:=za4.mk' (by kernel_rfl)
theorem cnt_step_le (c:zaw) (v:Nat):zat c v<=zat c (v+1):=by rw [zat];omega
theorem cnt_mono (c:zaw) {u v:Nat} (h:u<=v):zat c u<=zat c v:=by
 induction v with
 | zero=>rw [Nat.le_zero.1 h];exact Nat.le_refl _
 | succ v ih =>
  rcases Nat.lt_or_ge u (v+1) with h1 | h1
  ·exact Nat.le_trans (ih (by omega)) (cnt_step_le c v)
  ·rw [show u=v+1 by omega];exact Nat.le_refl _
def zb7 (f:Nat->ZI) (c:zaw):Nat->List ZI
  | 0=>[]
  | v+1=>if zb1 c v=true then zb7 f c v++[f v] else zb7 f c v
theorem zev (f:Nat->ZI) (c:zaw):∀ n,(zb7 f c n).length=zat c n
 | 0=>rfl
 | n+1=>by
  rw [zb7,zat]
  split
  ·rw [List.length_append,zev f c n];rfl
  ·rw [zev f c n];rfl
theorem freeL_at (f:Nat->ZI) (c:zaw) {v:Nat} (hv:zb1 c v=true):∀ n,v<n->(zb7 f c n)[zat c v]?=some (f v)
 | n+1,h=>by
  rw [zb7]
  rcases Nat.lt_or_ge v n with h1 | h1
  ·have ih:=freeL_at f c hv n h1
   split
   ·rw [List.getElem?_append_left (by rw [zev];exact Nat.lt_of_lt_of_le (by rw [cnt_free hv];omega) (cnt_mono c h1))];exact ih
   ·exact ih
  ·obtain rfl:v=n:=by omega
   rw [if_pos hv,List.getElem?_append_right (by rw [zev];exact Nat.le_refl _),zev,Nat.sub_self];rfl
theorem picks_freeL (y:StD) (c:zaw):∀ n,zeb y c n=zb7 (fun v=>(y.vals[v]?).getD ze6) c n
 | 0=>rfl
 | n+1=>by rw [zeb,zb7,picks_freeL y c n]
theorem zkx {M:Nat} {f:Nat->ZI} (h:∀ v,ZOk M (f v)) (c:zaw):∀ n,∀ z ∈ zb7 f c n,ZOk M z
 | 0,z,hz=>by cases hz
 | n+1,z,hz=>by
  rw [zb7] at hz
  split at hz
  ·rcases List.mem_append.1 hz with h1 | h1
   ·exact zkx h c n z h1
   ·rw [List.mem_singleton.1 h1];exact h n
  ·exact zkx h c n z hz
def zbi (s:zar) (v:Nat):ZI:=if (zbh s v).is_=true then (zbh s v).lo else ze6
theorem low_ok {L:Nat} {s:zar} (hs:zb9 L s) (v:Nat):ZOk L (zbi s v):=by
 unfold zbi;split
 ·exact (bnd_ok hs v).1
 ·exact ZOk.zero
theorem cmp_self (x:Int):decide (zfb x x<=0)=true:=by unfold zfb;simp
theorem within_of (b:zaq) (z:ZI):zbl b (ZI.of z.val)=zbl b z:=by unfold zbl;rw [ZI.val_of]
theorem within_val {b:zaq} {p q:ZI} (h:p.val=q.val):zbl b p=zbl b q:=by unfold zbl;rw [h]
theorem nlocs_in {s:zar} {x:StD} (h:zdm s x=true) {i:Nat} (hi:i<x.locs.length):zk8 s x i=true:=by
 unfold zdm at h;simp only [Bool.and_eq_true] at h;exact ze5.1 h.2.1 i hi
theorem vals_in {s:zar} {x:StD} (h:zdm s x=true) {i:Nat} (hi:i<x.vals.length):valOk s x i=true:=by
 unfold zdm at h;simp only [Bool.and_eq_true] at h;exact ze5.1 h.2.2 i hi
theorem enabled_to {s:zar} {x:StD} {c:zaw} (h:zao s x c=true):0<=c.to_/\c.to_<(zcq s c.proc.toNat:Int):=by unfold zao at h;simp only [Bool.and_eq_true,decide_eq_true_eq] at h;exact h.1.2.2
theorem fits_out {s:zar} {x:StD} {c:zaw} (picks:List ZI) (h:zao s x c=true):zdm s (zdu s x c picks)=zha s.vars.length (fun v=>zbl (zbh s v) (zel x c picks v)):=by
 have hf:=zd8 h;have hl:=ze4 hf;have hp:=zgn h;have ht:=enabled_to h
 have e1:(zdu s x c picks).locs.length=s.procs.length:=by simp only [zdu,List.length_set];exact hl.1
 have e2:(zdu s x c picks).vals.length=s.vars.length:=by simp [zdu]
 unfold zdm
 rw [decide_eq_true ⟨e1,e2⟩,Bool.true_and]
 have a1:zha (zdu s x c picks).locs.length (zk8 s (zdu s x c picks))=true:=ze5.2 fun i hi=>by
  rw [e1] at hi
  have h1:=nlocs_in hf (i:=i) (by omega)
  unfold zk8 at h1 ⊢
  by_cases hi2:i=c.proc.toNat
  ·subst hi2
   have:(zdu s x c picks).locs[c.proc.toNat]?=some c.to_:=by simp only [zdu];exact List.getElem?_set_self (by omega)
   rw [this];exact decide_eq_true ht
  ·have:(zdu s x c picks).locs[i]?=x.locs[i]?:=by simp only [zdu];exact List.getElem?_set_ne (Ne.symm hi2)
   rw [this];exact h1
 rw [a1,Bool.true_and,e2]
 refine zh9 fun v hv=>?_
 unfold valOk
 have:(zdu s x c picks).vals[v]?=some (zel x c picks v):=by simp [zdu,List.getElem?_map,List.getElem?_range hv]
 rw [this];rfl
theorem fits_lows {s:zar} {x:StD} {c:zaw} (h:zao s x c=true):zdm s (zdu s x c (zb7 (zbi s) c s.vars.length))=zha s.vars.length (canAt s x c):=by
 rw [fits_out _ h]
 refine zh9 fun v hv=>?_
 unfold canAt
 by_cases hf:zb1 c v=true
 ·rw [if_pos hf,newV_at hf (freeL_at (zbi s) c hf _ hv),within_of]
  unfold zbl zbi
  cases hb:(zbh s v).is_ with
  | false=>simp
  | true =>
   simp only [if_true,Bool.not_true,Bool.false_or,Bool.true_and,cmp_self]
   by_cases hc:zfb (zbh s v).lo.val (zbh s v).hi.val<=0
   ·rw [decide_eq_true hc,decide_eq_false (by omega)];rfl
   ·rw [decide_eq_false hc,decide_eq_true (by omega)];rfl
 ·rw [if_neg hf,zfw (by simpa using hf)]
theorem can_goC {s:zar} {x:StD} {c:zaw}:(goC s x c (zb7 (zbi s) c s.vars.length)).2=canC s x c:=by
 unfold goC canC
 cases he:zao s x c with
 | false=>rfl
 | true =>
  rw [fits_lows he]
  cases ha:zha s.vars.length (canAt s x c) with
  | false=>rfl
  | true=>rfl
theorem zjc {f:Nat->ZI} {c:zaw} {v:Nat} {q:ZI} (h:zb1 c v=true) (hq:q=f v):zb7 f c v++[q]=zb7 f c (v+1):=by rw [zb7,if_pos h,hq]
theorem freeL_kept {f:Nat->ZI} {c:zaw} {v:Nat} (h:zb1 c v=false):zb7 f c v=zb7 f c (v+1):=by rw [zb7,if_neg (by rw [h];exact Bool.noConfusion)]
theorem SRGo2 (s:zar) (x:StD) (ia:Int) (picks:List ZI) {L M:Nat} (hL:L+M<=4000) (hs:zb9 L s) (hx:zjn M x) (_hp:∀ z ∈ picks,ZOk M z) (hi:zcs s ia=none) (hn:ia≠-1):Fn Tryz.prog 27 [] [vG (zaj s),vG [cIs x.locs,cZs x.vals],vI ia,(vZs picks)] (.tup [.agg [cIs st0.locs,cZs st0.vals],.c (cB false)]) []:=by
 have lx1:=hx.locs;have lx2:=hx.vals;have ls1:=hs.vars;have ls2:=hs.procs;have lvv:=hx.vals;refine Fn.body Tryz.func27 rfl 139 rfl fun w H B a h=>Jq 5 [] [(2,vI ia),(3,(vZs picks)),(4,vp 5 0),(5,vp 6 0),(8,vp 7 0),(9,vb false)] [(5,.box (zaj s)),(6,.box [cIs x.locs,cZs x.vals]),(7,.box [.d (.raw zad),.d (.raw zad)])] h fun a w h=>Jd 8 [] [] [(10,vp 8 0)] [(5,.box (zaj s)),(6,.box [cIs x.locs,cZs x.vals]),(7,.box [.d (.raw zad),.d (.raw zad)]),(8,.box [.d (.raw zad),.d (.raw zad)])] h fun a w h=>qW ?_
 replace h:=zg6 8 0 9 1 3 [.d (.raw zad),.d (.raw zad)] [(2,vI ia),(3,(vZs picks)),(4,vp 5 0),(5,vp 6 0),(8,vp 7 0),(9,vb false),(10,vp 8 0)] [(5,.box (zaj s)),(6,.box [cIs x.locs,cZs x.vals]),(7,.box [.d (.raw zad),.d (.raw zad)]),(8,.box [.own 9 0,.d (.raw zad)]),(9,.row 3 1 ([].map zai))] h (by kernel_rfl) rfl rfl;replace h:=zg6 8 1 10 2 28 [.own 9 0,.d (.raw zad)] [(2,vI ia),(3,(vZs picks)),(4,vp 5 0),(5,vp 6 0),(8,vp 7 0),(9,vb false),(10,vp 8 0)] [(5,.box (zaj s)),(6,.box [cIs x.locs,cZs x.vals]),(7,.box [.d (.raw zad),.d (.raw zad)]),(8,.box [.own 9 0,.own 10 0]),(9,.row 3 1 ([].map zai)),(10,.row 28 2 ([].map ziD))] h (by kernel_rfl) rfl rfl;refine Je 11 [] [] [(11,vI 0)] h fun a w h=>qZ ?_
 refine zap (ι:=(Nat)) (fun j=>j<=x.locs.length)
   (fun j=>[(2,vI ia),(3,(vZs picks)),(4,vp 5 0),(5,vp 6 0),(8,vp 7 0),(9,vb false),(10,vp 8 0),(11,vN j)])
   (fun j=>[(5,.box (zaj s)),(6,.box [cIs x.locs,cZs x.vals]),(7,.box [.d (.raw zad),.d (.raw zad)]),(8,.box [.own 9 (x.locs.take j).length,.own 10 0]),(9,.row 3 1 ((x.locs.take j).map zai)),(10,.row 28 2 ([].map ziD))])
   (fun j=>x.locs.length - j) 0 ?_ h (by kernel_rfl) (by kernel_rfl) ?_
 ·exact Nat.zero_le _
 clear h;rintro j a w hI h;refine qW (Je 11 [(3,.len (za7 1 zai x.locs))] [] [(22,vb (decide ((j:Int)<(x.locs.length:Int))))] h fun a w h=>zam ((j:Int)<(x.locs.length:Int)) h (fun hc1 hc1'=>?_) (fun hc2 hc2'=>?_))
 ·refine qU (za1 (qW (qZ ?_)));obtain ⟨x1,hx1⟩:=gl x.locs j;refine Jm 11 [(5,.g (xD 30 28 zi5 (zab hx1 (f:=zai)) (OV.tmp 29 _))),(7,.g (bD 32 ([x1].map zai) [(31,vI x1)] tb_0 (.cons (i:=0) (OV.tmp 31 _) (.nil)) (by kernel_rfl) (by simp [zai]))),(8,.g (aD 33 26 32 9 11 (x.locs.take j) [x1] zai tb_2 (by simp [zai])))] [22] [] [(5,.box (zaj s)),(6,.box [cIs x.locs,cZs x.vals]),(7,.box [.d (.raw zad),.d (.raw zad)]),(8,.box ([.own 11 ((x.locs.take j)++[x1]).length,.own 10 0])),(10,.row 28 2 ([].map ziD)),(11,.row 3 1 (((x.locs.take j)++[x1]).map zai))] h fun a w h=>za8 (za1 (Jf 12 [(1,.j1 j)] [] [(11,vI ((j:Int)+1))] h fun a w h=>za1 ?_));rw [show (((x.locs.take j)++[x1]):List Int)=(x.locs.take (j+1)) from (by rw [List.take_add_one,hx1];rfl)] at h;replace h:=ze3 11 9 [(2,vI ia),(3,(vZs picks)),(4,vp 5 0),(5,vp 6 0),(8,vp 7 0),(9,vb false),(10,vp 8 0),(11,vI ((j:Int)+1))] [(5,.box (zaj s)),(6,.box [cIs x.locs,cZs x.vals]),(7,.box [.d (.raw zad),.d (.raw zad)]),(8,.box [.own 9 (x.locs.take (j+1)).length,.own 10 0]),(10,.row 28 2 ([].map ziD)),(9,.row 3 1 ((x.locs.take (j+1)).map zai))] h;refine zag (x:=j) (y:=j+1) h ?_ ?_
  ·show j+1<=x.locs.length;omega
  show x.locs.length - (j+1)<x.locs.length - j;omega
 refine wp_exit (za9 (za9 (za5 (za1 (qW ?_)))));rw [show ((x.locs.take j):List Int)=x.locs from (by rw [List.take_of_length_le (by omega)])] at h;refine Jp 12 [] [(2,vI ia),(3,(vZs picks)),(4,vp 5 0),(5,vp 6 0),(8,vp 7 0),(9,vb false),(10,vp 8 0),(12,vI 0)] h fun a w h=>qZ ?_
 refine zap (ι:=(Nat)) (fun i=>i<=x.vals.length)
   (fun i=>[(2,vI ia),(3,(vZs picks)),(4,vp 5 0),(5,vp 6 0),(8,vp 7 0),(9,vb false),(10,vp 8 0),(12,vN i)])
   (fun i=>[(5,.box (zaj s)),(6,.box [cIs x.locs,cZs x.vals]),(7,.box [.d (.raw zad),.d (.raw zad)]),(8,.box [.own 9 x.locs.length,.own 10 ((x.vals.take i).map clZ).length]),(9,.row 3 1 (x.locs.map zai)),(10,.row 28 2 (((x.vals.take i).map clZ).map ziD))])
   (fun i=>x.vals.length - i) 0 ?_ h (by kernel_rfl) (by kernel_rfl) ?_
 ·exact Nat.zero_le _
 clear h;rintro i a w hI h;refine qW (Je 12 [(3,.len (za7 2 ziD x.vals))] [] [(39,vb (decide ((i:Int)<(x.vals.length:Int))))] h fun a w h=>zam ((i:Int)<(x.vals.length:Int)) h (fun hc3 hc3'=>?_) (fun hc4 hc4'=>?_))
 ·refine qU (za1 (qW (qZ ?_)));obtain ⟨x2,hx2⟩:=gl x.vals i;have gx2:=hx.val x2 (lM hx2);have lgx2:=gx2.2;obtain ⟨r3,er3,vr3,or3,lr3⟩:=mkZ (v:=x2.val) (m:=M) (Nat.le_trans (zcf gx2.1) gx2.2);refine Jm 12 [(5,.g (xD 47 45 tt_6 (zab hx2 (f:=ziD)) (OV.tmp 46 _))),(7,.call (Fn.cast ((show Fn _ _ _ _ (vz (ZI.of x2.val)) _ from zjo x2 gx2.1 (by omega))) (congrArg vz er3.symm)) tb_7),(8,.g (bD 50 ([r3].map ziD) [(49,vz r3)] ty_5 (.cons (i:=0) (OV.tmp 49 _) (.nil)) (by kernel_rfl) (by simp [ziD]))),(9,.g (aD 51 43 50 10 12 ((x.vals.take i).map clZ) [r3] ziD kk_4 (by simp [ziD])))] [39] [] [(5,.box (zaj s)),(6,.box [cIs x.locs,cZs x.vals]),(7,.box [.d (.raw zad),.d (.raw zad)]),(8,.box ([.own 9 x.locs.length,.own 12 (((x.vals.take i).map clZ)++[r3]).length])),(9,.row 3 1 (x.locs.map zai)),(12,.row 28 2 ((((x.vals.take i).map clZ)++[r3]).map ziD))] h fun a w h=>za8 (za1 (Jf 13 [(1,.j1 i)] [] [(12,vI ((i:Int)+1))] h fun a w h=>za1 ?_));rw [show ((((x.vals.take i).map clZ)++[r3]):List ZI)=((x.vals.take (i+1)).map clZ) from (by rw [<- map_snoc hx2];congr 1;simp [clZ, *])] at h;replace h:=ze3 12 10 [(2,vI ia),(3,(vZs picks)),(4,vp 5 0),(5,vp 6 0),(8,vp 7 0),(9,vb false),(10,vp 8 0),(12,vI ((i:Int)+1))] [(5,.box (zaj s)),(6,.box [cIs x.locs,cZs x.vals]),(7,.box [.d (.raw zad),.d (.raw zad)]),(8,.box [.own 9 x.locs.length,.own 10 ((x.vals.take (i+1)).map clZ).length]),(9,.row 3 1 (x.locs.map zai)),(10,.row 28 2 (((x.vals.take (i+1)).map clZ).map ziD))] h;refine zag (x:=i) (y:=i+1) h ?_ ?_
  ·show i+1<=x.vals.length;omega
  show x.vals.length - (i+1)<x.vals.length - i;omega
 refine wp_exit (za9 (za9 (za5 (za1 (qW ?_)))));rw [show (((x.vals.take i).map clZ):List ZI)=(x.vals.map clZ) from (by rw [List.take_of_length_le (by omega)])] at h;refine Jp 13 [(1,.cmp (op:=.eql) (m:=ia) (n:=(-1)) (b:=false) .i64 (beq_eq_false_iff_ne.2 hn))] [(2,vI ia),(3,(vZs picks)),(4,vp 5 0),(5,vp 6 0),(8,vp 7 0),(9,vb false),(10,vp 8 0),(54,vb false)] h fun a w h=>zax false h rfl nofun (fun _=>qU (za1 (qW (Je 13 [(3,.call (SRbeginsN s x ia hL hs hx hi) kp_7)] [54] [(64,vb true)] h fun a w h=>cS true h (fun _=>?_) nofun))))
 refine Je 13 [] [64] [] h fun a w h=>qV (za6 ?_);replace h:=zbd 7 0 1 [.d (.raw zad),.d (.raw zad)] [(2,vI ia),(3,(vZs picks)),(4,vp 5 0),(5,vp 6 0),(8,vp 7 0),(9,vb false),(10,vp 8 0)] [(5,.box (zaj s)),(6,.box [cIs x.locs,cZs x.vals]),(7,.box [cIs [],.d (.raw zad)]),(8,.box [.own 9 x.locs.length,.own 10 (x.vals.map clZ).length]),(9,.row 3 1 (x.locs.map zai)),(10,.row 28 2 ((x.vals.map clZ).map ziD))] h rfl rfl;replace h:=zbd 7 1 2 [cIs [],.d (.raw zad)] [(2,vI ia),(3,(vZs picks)),(4,vp 5 0),(5,vp 6 0),(8,vp 7 0),(9,vb false),(10,vp 8 0)] [(5,.box (zaj s)),(6,.box [cIs x.locs,cZs x.vals]),(7,.box [cIs [],cZs []]),(8,.box [.own 9 x.locs.length,.own 10 (x.vals.map clZ).length]),(9,.row 3 1 (x.locs.map zai)),(10,.row 28 2 ((x.vals.map clZ).map ziD))] h rfl rfl;refine zea [.agg [cIs [],cZs []],.c (cB false)] h Exit.ret (.inl rfl)  rfl ⟨RV.agg _ 7 0 _ _ _ _ kk_5 rfl rfl rfl rfl,RV.tmp _ _ rfl,trivial⟩ ?_;rfl
theorem SRCanN (s:zar) (x:StD) (i:Int) {L M:Nat} (hL:L+M<=1900) (hs:zb9 L s) (hx:zjn M x) (hi:zcs s i=none):Fn Tryz.prog 21 [] [vG (zaj s),vG [cIs x.locs,cZs x.vals],vI i] (vb false) []:=by
 refine Fn.body Tryz.func21 rfl 80 rfl fun w H B a h=>Jq 0 [] [(2,vI i),(3,vp 0 0),(4,vp 1 0),(6,vb false)] [(0,.box (zaj s)),(1,.box [cIs x.locs,cZs x.vals])] h fun a w h=>qW (Je 2 [(3,.call (SRbeginsN s x i (by omega) hs hx hi) kp_7)] [] [(17,vb true)] h fun a w h=>cS true h (fun _=>?_) nofun)
 refine Je 2 [] [17] [] h fun a w h=>qV (za6 (rT (.c (cB false)) h rfl ?_));rfl
theorem SRCanS (s:zar) (x:StD) (ki:Nat) (c:zaw) {L M:Nat} (hL:L+M<=1900) (hs:zb9 L s) (hx:zjn M x) (hka:s.acts[ki]?=some c):Fn Tryz.prog 21 [] [vG (zaj s),vG [cIs x.locs,cZs x.vals],vN ki] (vb (canC s x c)) []:=by
 have lx1:=hx.locs;have lx2:=hx.vals;have ls1:=hs.vars;have ls2:=hs.procs;have lki:=zak hka;have hc:zff L c:=hs.act c (lM hka);have lmv:=hc.len;have lvv:=hx.vals;have lbn:=hs.bnds;refine Fn.body Tryz.func21 rfl 80 rfl fun w H B a h=>Jq 5 [] [(2,vN ki),(3,vp 5 0),(4,vp 6 0),(6,vb false)] [(5,.box (zaj s)),(6,.box [cIs x.locs,cZs x.vals])] h fun a w h=>qW (Je 7 [(3,.call (SRbeginsS s x ki c (L:=L) (M:=M) (by omega) hs hx hka) kp_7)] [] [(17,vb (!(zao s x c)))] h fun a w h=>cS (!(zao s x c)) h (fun hc1=>?_) (fun hc2=>?_))
 ·have hc1':=hc1;(try simp at hc1');refine Je 7 [] [17] [] h fun a w h=>qV (za6 (rT (.c (cB false)) h rfl ?_));have hz:canC s x c=false:=by unfold canC;rw [(show (zao s x c)=false from by simpa using hc1)];rfl
  rw [hz];try rfl
 have hc2':=hc2;(try simp at hc2');refine qU (za1 ?_);have hen:=(show (zao s x c)=true from by simpa using hc2);have hfl:=ze4 (zd8 hen);refine Jd 7 [(0,.g (Op.buildE (d:=18) (n:=7) ty_5))] [17] [(7,vO 7 0)] [(5,.box (zaj s)),(6,.box [cIs x.locs,cZs x.vals]),(7,.row 28 2 ([].map ziD))] h fun a w h=>qW (Je 8 [] [] [(8,vI 0)] h fun a w h=>qZ ?_)
 refine zap (ι:=(Nat)) (fun j=>j<=x.vals.length)
   (fun j=>[(2,vN ki),(3,vp 5 0),(4,vp 6 0),(6,vb false),(7,vO 7 (zb7 (zbi s) c j).length),(8,vN j)])
   (fun j=>[(5,.box (zaj s)),(6,.box [cIs x.locs,cZs x.vals]),(7,.row 28 2 ((zb7 (zbi s) c j).map ziD))])
   (fun j=>x.vals.length - j) 0 ?_ h (by kernel_rfl) (by kernel_rfl) ?_
 ·exact Nat.zero_le _
 clear h;rintro j a w hI h;have hcf:=cnt_le c j;have hfll:=zev (zbi s) c j;refine qW (Je 8 [(3,.len (za7 2 ziD x.vals))] [] [(23,vb (decide ((j:Int)<(x.vals.length:Int))))] h fun a w h=>zam ((j:Int)<(x.vals.length:Int)) h (fun hc3 hc3'=>?_) (fun hc10 hc10'=>?_))
 ·refine qU (za1 (qW (qZ ?_)))
  rcases idxB_find (fun m=>m.v == (j:Int)) c.moves with ⟨hix,hm⟩ | ⟨k,m,hix,hmk,hm⟩
  ·replace hm:zj4 c j=none:=hm;refine Jq 8 [(3,.g (xD 29 27 ki_1 (zab hka (f:=zaw.d)) (OV.tmp 28 _))),(6,.call (Fn.cast (SRmove c j lmv) (congrArg (vi .i64) hix)) kp_11)] [(2,vN ki),(3,vp 5 0),(4,vp 6 0),(6,vb false),(7,vO 7 (zb7 (zbi s) c j).length),(8,vN j),(9,vI (-1))] [(5,.box (zaj s)),(6,.box [cIs x.locs,cZs x.vals]),(7,.row 28 2 ((zb7 (zbi s) c j).map ziD))] h fun a w h=>Je 8 [(1,.cmp (op:=.geq) (m:=(-1)) (n:=0) (b:=false) .i64 rfl)] [9] [(46,vb false)] h fun a w h=>zax false h rfl nofun (fun _=>qU (za8 (za1 (Jf 8 [(1,.j1 j)] [46] [(8,vI ((j:Int)+1))] h fun a w h=>za1 ?_))))
   replace h:=cv (fun z_:List ZI=>F.of [(2,vN ki),(3,vp 5 0),(4,vp 6 0),(6,vb false),(7,vO 7 z_.length),(8,vI ((j:Int)+1))] [(5,.box (zaj s)),(6,.box [cIs x.locs,cZs x.vals]),(7,.row 28 2 (z_.map ziD))]) (show ((zb7 (zbi s) c j):List ZI)=(zb7 (zbi s) c (j+1)) from (freeL_kept (free_none hm))) h;refine zag (x:=j) (y:=j+1) h ?_ ?_
   ·show j+1<=x.vals.length;omega
   show x.vals.length - (j+1)<x.vals.length - j;omega
  replace hm:zj4 c j=some m:=hm;have lmk:=zak hmk;refine Jq 8 [(3,.g (xD 29 27 ki_1 (zab hka (f:=zaw.d)) (OV.tmp 28 _))),(6,.call (Fn.cast (SRmove c j lmv) (congrArg (vi .i64) hix)) kp_11)] [(2,vN ki),(3,vp 5 0),(4,vp 6 0),(6,vb false),(7,vO 7 (zb7 (zbi s) c j).length),(8,vN j),(9,vN k)] [(5,.box (zaj s)),(6,.box [cIs x.locs,cZs x.vals]),(7,.row 28 2 ((zb7 (zbi s) c j).map ziD))] h fun a w h=>Je 8 [(1,.cmp (op:=.geq) (m:=(k:Int)) (n:=0) (b:=true) .i64 (show (decide ((k:Int)>=0))=true from decide_eq_true (by omega))),(6,.g (xD 39 37 ki_1 (zab hka (f:=zaw.d)) (OV.tmp 38 _))),(10,.g (xD 43 41 ki_2 (zab hmk (f:=zae.d)) (OV.tmp 42 _)))] [9] [(46,vb m.any)] h fun a w h=>cS m.any h (fun hc4=>?_) (fun hc9=>?_)
  ·refine Jd 8 [] [46] [(10,vp 8 0)] [(5,.box (zaj s)),(6,.box [cIs x.locs,cZs x.vals]),(7,.row 28 2 ((zb7 (zbi s) c j).map ziD)),(8,.box [cB false,.d (nsl [])])] h fun a w h=>qW ?_
   rcases Bool.eq_false_or_eq_true (decide ((j:Int)<(s.bounds.length:Int))) with hc5 | hc8
   ·have hc5':=dT hc5;obtain ⟨x4,hx4⟩:=gl s.bounds j;refine Je 9 [(3,.len (za7 5 zaq.d s.bounds)),(4,.cmp (op:=.lss) (m:=(j:Int)) (n:=(s.bounds.length:Int)) (b:=true) .i64 hc5),(9,.g (xD 57 55 kf_0 (zab hx4 (f:=zaq.d)) (OV.tmp 56 _)))] [] [(60,vb x4.is_)] h fun a w h=>cS x4.is_ h (fun hc6=>?_) (fun hc7=>?_)
    ·refine Jm 9 [(3,.g (xD 64 62 kf_0 (zab hx4 (f:=zaq.d)) (OV.tmp 63 _)))] [60] [] [(5,.box (zaj s)),(6,.box [cIs x.locs,cZs x.vals]),(7,.row 28 2 ((zb7 (zbi s) c j).map ziD)),(8,.box (zi x4.lo))] h fun a w h=>za1 (Jm 9 [(2,.g (bD 69 ([x4.lo].map ziD) [(68,vz x4.lo)] ty_5 (.cons (i:=0) (OV.tmp 68 _) (.nil)) (by kernel_rfl) (by simp [ziD]))),(3,.g (aD 70 67 69 7 9 (zb7 (zbi s) c j) [x4.lo] ziD kk_4 (by simp [ziD])))] [10] [(7,vO 9 ((zb7 (zbi s) c j)++[x4.lo]).length)] [(5,.box (zaj s)),(6,.box [cIs x.locs,cZs x.vals]),(9,.row 28 2 (((zb7 (zbi s) c j)++[x4.lo]).map ziD))] h fun a w h=>za8 (za1 (Jf 10 [(1,.j1 j)] [] [(8,vI ((j:Int)+1))] h fun a w h=>za1 ?_)));rw [show (((zb7 (zbi s) c j)++[x4.lo]):List ZI)=(zb7 (zbi s) c (j+1)) from (zjc (zd1 hm hc4) (by unfold zbi zbh;rw [hx4,Option.getD_some,if_pos hc6]))] at h;replace h:=ze3 9 7 [(2,vN ki),(3,vp 5 0),(4,vp 6 0),(6,vb false),(7,vO 7 (zb7 (zbi s) c (j+1)).length),(8,vI ((j:Int)+1))] [(5,.box (zaj s)),(6,.box [cIs x.locs,cZs x.vals]),(7,.row 28 2 ((zb7 (zbi s) c (j+1)).map ziD))] h;refine zag (x:=j) (y:=j+1) h ?_ ?_
     ·show j+1<=x.vals.length;omega
     show x.vals.length - (j+1)<x.vals.length - j;omega
    refine qU (za1 (Jm 10 [(2,.g (bD 69 ([(ZI.mk false [])].map ziD) [(68,vG [cB false,.d (nsl [])])] ty_5 (.cons (i:=0) (OV.tmp 68 _) (.nil)) (by kernel_rfl) (by simp [ziD]))),(3,.g (aD 70 67 69 7 10 (zb7 (zbi s) c j) [(ZI.mk false [])] ziD kk_4 (by simp [ziD])))] [10,60] [(7,vO 10 ((zb7 (zbi s) c j)++[(ZI.mk false [])]).length)] [(5,.box (zaj s)),(6,.box [cIs x.locs,cZs x.vals]),(10,.row 28 2 (((zb7 (zbi s) c j)++[(ZI.mk false [])]).map ziD))] h fun a w h=>za8 (za1 (Jf 11 [(1,.j1 j)] [] [(8,vI ((j:Int)+1))] h fun a w h=>za1 ?_))));rw [show (((zb7 (zbi s) c j)++[(ZI.mk false [])]):List ZI)=(zb7 (zbi s) c (j+1)) from (zjc (zd1 hm hc4) (by unfold zbi zbh;rw [hx4,Option.getD_some,if_neg (by rw [hc7];exact Bool.noConfusion)];try rfl))] at h;replace h:=ze3 10 7 [(2,vN ki),(3,vp 5 0),(4,vp 6 0),(6,vb false),(7,vO 7 (zb7 (zbi s) c (j+1)).length),(8,vI ((j:Int)+1))] [(5,.box (zaj s)),(6,.box [cIs x.locs,cZs x.vals]),(7,.row 28 2 ((zb7 (zbi s) c (j+1)).map ziD))] h;refine zag (x:=j) (y:=j+1) h ?_ ?_
    ·show j+1<=x.vals.length;omega
    show x.vals.length - (j+1)<x.vals.length - j;omega
   have hc8':=dF hc8;refine Je 11 [(3,.len (za7 5 zaq.d s.bounds)),(4,.cmp (op:=.lss) (m:=(j:Int)) (n:=(s.bounds.length:Int)) (b:=false) .i64 hc8)] [] [(60,vb false)] h fun a w h=>zax false h rfl nofun (fun _=>qU (za1 (Jm 11 [(2,.g (bD 69 ([(ZI.mk false [])].map ziD) [(68,vG [cB false,.d (nsl [])])] ty_5 (.cons (i:=0) (OV.tmp 68 _) (.nil)) (by kernel_rfl) (by simp [ziD]))),(3,.g (aD 70 67 69 7 11 (zb7 (zbi s) c j) [(ZI.mk false [])] ziD kk_4 (by simp [ziD])))] [10,60] [(7,vO 11 ((zb7 (zbi s) c j)++[(ZI.mk false [])]).length)] [(5,.box (zaj s)),(6,.box [cIs x.locs,cZs x.vals]),(11,.row 28 2 (((zb7 (zbi s) c j)++[(ZI.mk false [])]).map ziD))] h fun a w h=>za8 (za1 (Jf 12 [(1,.j1 j)] [] [(8,vI ((j:Int)+1))] h fun a w h=>za1 ?_)))))
   rw [show (((zb7 (zbi s) c j)++[(ZI.mk false [])]):List ZI)=(zb7 (zbi s) c (j+1)) from (zjc (zd1 hm hc4) (by unfold zbi zbh;rw [List.getElem?_eq_none (by have:=dF hc8;omega)];rfl))] at h;replace h:=ze3 11 7 [(2,vN ki),(3,vp 5 0),(4,vp 6 0),(6,vb false),(7,vO 7 (zb7 (zbi s) c (j+1)).length),(8,vI ((j:Int)+1))] [(5,.box (zaj s)),(6,.box [cIs x.locs,cZs x.vals]),(7,.row 28 2 ((zb7 (zbi s) c (j+1)).map ziD))] h;refine zag (x:=j) (y:=j+1) h ?_ ?_
   ·show j+1<=x.vals.length;omega
   show x.vals.length - (j+1)<x.vals.length - j;omega
  refine qU (za8 (za1 (Jf 12 [(1,.j1 j)] [46] [(8,vI ((j:Int)+1))] h fun a w h=>za1 ?_)));replace h:=cv (fun z_:List ZI=>F.of [(2,vN ki),(3,vp 5 0),(4,vp 6 0),(6,vb false),(7,vO 7 z_.length),(8,vI ((j:Int)+1))] [(5,.box (zaj s)),(6,.box [cIs x.locs,cZs x.vals]),(7,.row 28 2 (z_.map ziD))]) (show ((zb7 (zbi s) c j):List ZI)=(zb7 (zbi s) c (j+1)) from (freeL_kept (zd1 hm hc9))) h;refine zag (x:=j) (y:=j+1) h ?_ ?_
  ·show j+1<=x.vals.length;omega
  show x.vals.length - (j+1)<x.vals.length - j;omega
 refine wp_exit (za9 (za9 (za5 (za1 ?_))));replace h:=cv (fun z_:List ZI=>F.of [(2,vN ki),(3,vp 5 0),(4,vp 6 0),(6,vb false),(7,vO 7 z_.length),(8,vN j),(23,vb (decide ((j:Int)<(x.vals.length:Int))))] [(5,.box (zaj s)),(6,.box [cIs x.locs,cZs x.vals]),(7,.row 28 2 (z_.map ziD))]) (show ((zb7 (zbi s) c j):List ZI)=(zb7 (zbi s) c s.vars.length) from (by rw [show j=s.vars.length by omega])) h;replace h:=zi0 7 2 28 ((zb7 (zbi s) c s.vars.length).map ziD) [(2,vN ki),(3,vp 5 0),(4,vp 6 0),(6,vb false),(7,(vZs (zb7 (zbi s) c s.vars.length))),(8,vN j),(23,vb (decide ((j:Int)<(x.vals.length:Int))))] [(5,.box (zaj s)),(6,.box [cIs x.locs,cZs x.vals])] h rfl (show zbw _ [(zb7 (zbi s) c s.vars.length).length] from ⟨by first | exact (List.length_map _).symm | (simp;done) | (simp;omega),trivial⟩) trivial;refine Jq 12 [(4,.call (SRGo3 s x ki (zb7 (zbi s) c s.vars.length) c (L:=L) (M:=L+M) (by omega) hs (hx.mono (by omega)) (fun z hz=>⟨(zkx (low_ok hs) c _ z hz).1,Nat.le_trans (zkx (low_ok hs) c _ z hz).2 (by omega)⟩) hka (by rw [zev];have:=cnt_le c s.vars.length;omega)) kq_13)] [(6,vb false),(12,vb (goC s x c (zb7 (zbi s) c s.vars.length)).2)] [] h fun a w h=>Jq 13 [] [(6,vb (goC s x c (zb7 (zbi s) c s.vars.length)).2)] [] h fun a w h=>qV (rT (.c (cB (goC s x c (zb7 (zbi s) c s.vars.length)).2)) h rfl ?_);rw [<- can_goC];try rfl
theorem SRCan (s:zar) (x:StD) (i:Int) {L M:Nat} (hL:L+M<=1900) (hs:zb9 L s) (hx:zjn M x):Fn Tryz.prog 21 [] [vG (zaj s),vG [cIs x.locs,cZs x.vals],vi .i64 i] (vb (can s x i)) []:=by
 unfold can
 cases hi:zcs s i with
 | none=>exact SRCanN s x i hL hs hx hi
 | some c=>obtain ⟨ki,rfl,hka⟩:=zep hi;exact SRCanS s x ki c hL hs hx hka
theorem SRStuck (s:zar) (x:StD) {L M:Nat} (hL:L+M<=1900) (hs:zb9 L s) (hx:zjn M x):Fn Tryz.prog 23 [] [vG (zaj s),vG [cIs x.locs,cZs x.vals]] (vb (stuck s x)) []:=by
 have lx1:=hx.locs;have lx2:=hx.vals;have ls1:=hs.vars;have ls2:=hs.procs;have las:=hs.acts;refine Fn.body Tryz.func23 rfl 20 rfl fun w H B a h=>Jq 0 [] [(2,vp 0 0),(3,vp 1 0),(4,vb false)] [(0,.box (zaj s)),(1,.box [cIs x.locs,cZs x.vals])] h fun a w h=>qW (Je 2 [] [] [(5,vI 0)] h fun a w h=>qZ ?_)
 refine zap (ι:=(Nat)) (fun j=>j<=s.acts.length/\zha j (fun i=>!can s x (i:Int))=true)
   (fun j=>[(2,vp 0 0),(3,vp 1 0),(5,vN j)])
   (fun j=>[(0,.box (zaj s)),(1,.box [cIs x.locs,cZs x.vals])])
   (fun j=>s.acts.length - j) 0 ?_ h (by kernel_rfl) (by kernel_rfl) ?_
 ·exact ⟨Nat.zero_le _,rfl⟩
 clear h;rintro j a w hI h;obtain ⟨hI1,hI2⟩:=hI;refine qW (Je 2 [(3,.len (za7 10 zaw.d s.acts))] [] [(10,vb (decide ((j:Int)<(s.acts.length:Int))))] h fun a w h=>zam ((j:Int)<(s.acts.length:Int)) h (fun hc1 hc1'=>?_) (fun hc4 hc4'=>?_))
 ·refine qU (za1 (qW (qZ (Je 2 [(3,.call (SRCan s x (j:Int) hL hs hx) kq_14)] [10] [(16,vb (can s x (j:Int)))] h fun a w h=>cS (can s x (j:Int)) h (fun hc2=>?_) (fun hc3=>?_)))))
  ·refine Je 2 [] [16] [(4,vb false)] h fun a w h=>qV (zac (za6 (za6 (zac (za6 (rT (.c (cB false)) h rfl ?_))))));have hz:stuck s x=false:=by unfold stuck;rw [ziq (j:=j) (by have:=dT hc1;omega) (show (!can s x (j:Int))=false by rw [hc2];rfl)];rfl
   rw [hz];try rfl
  refine qU (za8 (za1 (Jf 2 [(1,.j1 j)] [16] [(5,vI ((j:Int)+1))] h fun a w h=>za1 (zag (x:=j) (y:=j+1) h ?_ ?_))))
  ·exact ⟨by omega,zip hI2 (by rw [hc3];rfl)⟩
  show s.acts.length - (j+1)<s.acts.length - j;omega
 refine wp_exit (za9 (za9 (za5 (za1 (Jq 2 [(2,.call (SRFits s x (L:=L) (M:=M) (by omega) hs hx) kh_6)] [(4,vb (zdm s x))] [] h fun a w h=>qV (rT (.c (cB (zdm s x))) h rfl ?_))))));have hz:stuck s x=(zdm s x):=by unfold stuck;rw [show s.acts.length=j by have:=dF hc4;omega,hI2];rfl
 rw [hz];try rfl
theorem kr_7:za4 Tryz.prog 23:=za4.mk' (by kernel_rfl)
def lstep (x:StD) (c:zaw) (y:StD) (p:Nat):Bool:=(y.locs[p]?).getD 0 == (if (p:Int)=c.proc then c.to_ else (x.locs[p]?).getD 0)
def vstep (x:StD) (c:zaw) (y:StD) (v:Nat):Bool:=zb1 c v || decide ((zgh x c v).val=((y.vals[v]?).getD ze6).val)
def leadsRC (s:zar) (x:StD) (c:zaw) (y:StD):Bool:=(zao s x c && zdm s y) && (zha x.locs.length (lstep x c y) && zha x.vals.length (vstep x c y))
theorem out_loc {s:zar} {x:StD} {c:zaw} {picks:List ZI} (h:zao s x c=true) {p:Nat} (hp:p<x.locs.length):(zdu s x c picks).locs[p]?=some (if (p:Int)=c.proc then c.to_ else (x.locs[p]?).getD 0):=by
 have hpr:=zgn h
 by_cases e:(p:Int)=c.proc
 ·rw [if_pos e,show p=c.proc.toNat by omega];simp only [zdu];exact List.getElem?_set_self (by omega)
 ·rw [if_neg e];simp only [zdu];rw [List.getElem?_set_ne (by omega),List.getElem?_eq_getElem hp];rfl
theorem out_val {s:zar} {x:StD} {c:zaw} {picks:List ZI} {v:Nat} (hv:v<s.vars.length):(zdu s x c picks).vals[v]?=some (zel x c picks v):=by simp [zdu,List.getElem?_map,List.getElem?_range hv]
theorem leads_eq (s:zar) (x:StD) (c:zaw) (y:StD):leadsRC s x c y=leadsC s x c y:=by
 unfold leadsRC leadsC
 cases he:zao s x c with
 | false=>rfl
 | true =>
  cases hy:zdm s y with
  | false=>rfl
  | true =>
   rw [Bool.true_and,Bool.true_and,Bool.true_and]
   have lx:=ze4 (zd8 he);have ly:=ze4 hy
   have hn:∀ v,v<s.vars.length->(zel x c (zeb y c s.vars.length) v).val=if zb1 c v=true then ((y.vals[v]?).getD ze6).val else (zgh x c v).val:=fun v hv=>by
    by_cases hf:zb1 c v=true
    ·rw [if_pos hf,newV_at hf (by rw [picks_freeL];exact freeL_at _ c hf _ hv),ZI.val_of]
    ·rw [if_neg hf,zfw (by simpa using hf)]
   have key:(zdm s (zdu s x c (zeb y c s.vars.length))=true/\sameS y (zdu s x c (zeb y c s.vars.length))=true) ↔ (zha x.locs.length (lstep x c y)=true/\zha x.vals.length (vstep x c y)=true):=by
    unfold sameS
    simp only [Bool.and_eq_true,decide_eq_true_eq,ze5]
    constructor
    ·rintro ⟨_,h1,h2⟩
     refine ⟨fun p hp=>?_,fun v hv=>?_⟩
     ·unfold lstep;rw [h1,out_loc he hp];simp
     ·unfold vstep
      have hv':v<s.vars.length:=by omega
      have h3:=congrArg (fun l=>l[v]?) h2
      simp only [List.getElem?_map,out_val hv', Option.map_some] at h3
      cases hz:y.vals[v]? with
      | none=>rw [hz] at h3;cases h3
      | some z =>
       rw [hz] at h3
       simp only [Option.map_some,Option.some.injEq] at h3
       rw [hn v hv', hz] at h3
       by_cases hf:zb1 c v=true
       ·rw [hf];rfl
       ·rw [if_neg hf] at h3;rw [Option.getD_some,decide_eq_true h3.symm,Bool.or_true]
    ·rintro ⟨h1,h2⟩
     have e1:y.locs=(zdu s x c (zeb y c s.vars.length)).locs:=by
      refine List.ext_getElem? fun p=>?_
      by_cases hp:p<x.locs.length
      ·have:=h1 p hp;unfold lstep at this;rw [out_loc he hp]
       rw [List.getElem?_eq_getElem (by omega)] at this ⊢
       simp at this;rw [this]
      ·rw [List.getElem?_eq_none (by omega),List.getElem?_eq_none (by simp only [zdu,List.length_set];omega)]
     have e2:y.vals.map ZI.val=(zdu s x c (zeb y c s.vars.length)).vals.map ZI.val:=by
      refine List.ext_getElem? fun v=>?_
      simp only [List.getElem?_map]
      by_cases hv:v<s.vars.length
      ·rw [out_val hv]
       have:=h2 v (by omega);unfold vstep at this
       rw [List.getElem?_eq_getElem (by omega)] at this ⊢
       simp only [Option.map_some,Option.some.injEq,Option.getD_some] at this ⊢
       rw [hn v hv]
       by_cases hf:zb1 c v=true
       ·rw [if_pos hf,List.getElem?_eq_getElem (by omega)];rfl
       ·rw [if_neg hf];rw [show zb1 c v=false by simpa using hf,Bool.false_or] at this;exact (of_decide_eq_true this).symm
      ·rw [List.getElem?_eq_none (by omega),List.getElem?_eq_none (by simp [zdu];omega)]
     refine ⟨?_,e1,e2⟩
     rw [fits_out _ he,ze5]
     intro v hv
     have h3:=vals_in hy (i:=v) (by omega)
     unfold valOk at h3
     rw [<- h3]
     refine within_val ?_
     have h4:=congrArg (fun l=>l[v]?) e2
     simp only [List.getElem?_map,out_val hv] at h4
     rw [List.getElem?_eq_getElem (by omega)] at h4 ⊢
     simp only [Option.map_some,Option.some.injEq,Option.getD_some] at h4 ⊢
     exact h4.symm
   unfold goC
   by_cases hfo:zdm s (zdu s x c (zeb y c s.vars.length))=true
   ·rw [if_pos ⟨he,hfo⟩,Bool.true_and]
    rw [Bool.eq_iff_iff,Bool.and_eq_true]
    exact ⟨fun h=>(key.2 h).2,fun h=>key.1 ⟨hfo,h⟩⟩
   ·rw [if_neg (fun h=>hfo h.2)]
    have:¬ (zha x.locs.length (lstep x c y)=true/\zha x.vals.length (vstep x c y)=true):=fun h=>hfo (key.2 h).1
    rw [<- Bool.and_eq_true] at this
    simpa using this
theorem SRGo1 (s:zar) (x:StD) (picks:List ZI) {L M:Nat} (hL:L+M<=1900) (hs:zb9 L s) (hx:zjn M x) (_hp:∀ z ∈ picks,ZOk M z):Fn Tryz.prog 27 [] [vG (zaj s),vG [cIs x.locs,cZs x.vals],vI (-1),(vZs picks)] (.tup [.agg [cIs (goS s x (-1) picks).1.locs,cZs (goS s x (-1) picks).1.vals],.c (cB (goS s x (-1) picks).2)]) []:=by
 have lx1:=hx.locs;have lx2:=hx.vals;have ls1:=hs.vars;have ls2:=hs.procs;have lvv:=hx.vals;refine Fn.body Tryz.func27 rfl 139 rfl fun w H B a h=>Jq 5 [] [(2,vI (-1)),(3,(vZs picks)),(4,vp 5 0),(5,vp 6 0),(8,vp 7 0),(9,vb false)] [(5,.box (zaj s)),(6,.box [cIs x.locs,cZs x.vals]),(7,.box [.d (.raw zad),.d (.raw zad)])] h fun a w h=>Jd 8 [] [] [(10,vp 8 0)] [(5,.box (zaj s)),(6,.box [cIs x.locs,cZs x.vals]),(7,.box [.d (.raw zad),.d (.raw zad)]),(8,.box [.d (.raw zad),.d (.raw zad)])] h fun a w h=>qW ?_
 replace h:=zg6 8 0 9 1 3 [.d (.raw zad),.d (.raw zad)] [(2,vI (-1)),(3,(vZs picks)),(4,vp 5 0),(5,vp 6 0),(8,vp 7 0),(9,vb false),(10,vp 8 0)] [(5,.box (zaj s)),(6,.box [cIs x.locs,cZs x.vals]),(7,.box [.d (.raw zad),.d (.raw zad)]),(8,.box [.own 9 0,.d (.raw zad)]),(9,.row 3 1 ([].map zai))] h (by kernel_rfl) rfl rfl;replace h:=zg6 8 1 10 2 28 [.own 9 0,.d (.raw zad)] [(2,vI (-1)),(3,(vZs picks)),(4,vp 5 0),(5,vp 6 0),(8,vp 7 0),(9,vb false),(10,vp 8 0)] [(5,.box (zaj s)),(6,.box [cIs x.locs,cZs x.vals]),(7,.box [.d (.raw zad),.d (.raw zad)]),(8,.box [.own 9 0,.own 10 0]),(9,.row 3 1 ([].map zai)),(10,.row 28 2 ([].map ziD))] h (by kernel_rfl) rfl rfl;refine Je 11 [] [] [(11,vI 0)] h fun a w h=>qZ ?_
 refine zap (ι:=(Nat)) (fun j=>j<=x.locs.length)
   (fun j=>[(2,vI (-1)),(3,(vZs picks)),(4,vp 5 0),(5,vp 6 0),(8,vp 7 0),(9,vb false),(10,vp 8 0),(11,vN j)])
   (fun j=>[(5,.box (zaj s)),(6,.box [cIs x.locs,cZs x.vals]),(7,.box [.d (.raw zad),.d (.raw zad)]),(8,.box [.own 9 (x.locs.take j).length,.own 10 0]),(9,.row 3 1 ((x.locs.take j).map zai)),(10,.row 28 2 ([].map ziD))])
   (fun j=>x.locs.length - j) 0 ?_ h (by kernel_rfl) (by kernel_rfl) ?_
 ·exact Nat.zero_le _
 clear h;rintro j a w hI h;refine qW (Je 11 [(3,.len (za7 1 zai x.locs))] [] [(22,vb (decide ((j:Int)<(x.locs.length:Int))))] h fun a w h=>zam ((j:Int)<(x.locs.length:Int)) h (fun hc1 hc1'=>?_) (fun hc2 hc2'=>?_))
 ·refine qU (za1 (qW (qZ ?_)));obtain ⟨x1,hx1⟩:=gl x.locs j;refine Jm 11 [(5,.g (xD 30 28 zi5 (zab hx1 (f:=zai)) (OV.tmp 29 _))),(7,.g (bD 32 ([x1].map zai) [(31,vI x1)] tb_0 (.cons (i:=0) (OV.tmp 31 _) (.nil)) (by kernel_rfl) (by simp [zai]))),(8,.g (aD 33 26 32 9 11 (x.locs.take j) [x1] zai tb_2 (by simp [zai])))] [22] [] [(5,.box (zaj s)),(6,.box [cIs x.locs,cZs x.vals]),(7,.box [.d (.raw zad),.d (.raw zad)]),(8,.box ([.own 11 ((x.locs.take j)++[x1]).length,.own 10 0])),(10,.row 28 2 ([].map ziD)),(11,.row 3 1 (((x.locs.take j)++[x1]).map zai))] h fun a w h=>za8 (za1 (Jf 12 [(1,.j1 j)] [] [(11,vI ((j:Int)+1))] h fun a w h=>za1 ?_));rw [show (((x.locs.take j)++[x1]):List Int)=(x.locs.take (j+1)) from (by rw [List.take_add_one,hx1];rfl)] at h;replace h:=ze3 11 9 [(2,vI (-1)),(3,(vZs picks)),(4,vp 5 0),(5,vp 6 0),(8,vp 7 0),(9,vb false),(10,vp 8 0),(11,vI ((j:Int)+1))] [(5,.box (zaj s)),(6,.box [cIs x.locs,cZs x.vals]),(7,.box [.d (.raw zad),.d (.raw zad)]),(8,.box [.own 9 (x.locs.take (j+1)).length,.own 10 0]),(10,.row 28 2 ([].map ziD)),(9,.row 3 1 ((x.locs.take (j+1)).map zai))] h;refine zag (x:=j) (y:=j+1) h ?_ ?_
  ·show j+1<=x.locs.length;omega
  show x.locs.length - (j+1)<x.locs.length - j;omega
 refine wp_exit (za9 (za9 (za5 (za1 (qW ?_)))));rw [show ((x.locs.take j):List Int)=x.locs from (by rw [List.take_of_length_le (by omega)])] at h;refine Jp 12 [] [(2,vI (-1)),(3,(vZs picks)),(4,vp 5 0),(5,vp 6 0),(8,vp 7 0),(9,vb false),(10,vp 8 0),(12,vI 0)] h fun a w h=>qZ ?_
 refine zap (ι:=(Nat)) (fun i=>i<=x.vals.length)
   (fun i=>[(2,vI (-1)),(3,(vZs picks)),(4,vp 5 0),(5,vp 6 0),(8,vp 7 0),(9,vb false),(10,vp 8 0),(12,vN i)])
   (fun i=>[(5,.box (zaj s)),(6,.box [cIs x.locs,cZs x.vals]),(7,.box [.d (.raw zad),.d (.raw zad)]),(8,.box [.own 9 x.locs.length,.own 10 ((x.vals.take i).map clZ).length]),(9,.row 3 1 (x.locs.map zai)),(10,.row 28 2 (((x.vals.take i).map clZ).map ziD))])
   (fun i=>x.vals.length - i) 0 ?_ h (by kernel_rfl) (by kernel_rfl) ?_
 ·exact Nat.zero_le _
 clear h;rintro i a w hI h;refine qW (Je 12 [(3,.len (za7 2 ziD x.vals))] [] [(39,vb (decide ((i:Int)<(x.vals.length:Int))))] h fun a w h=>zam ((i:Int)<(x.vals.length:Int)) h (fun hc3 hc3'=>?_) (fun hc4 hc4'=>?_))
 ·refine qU (za1 (qW (qZ ?_)));obtain ⟨x2,hx2⟩:=gl x.vals i;have gx2:=hx.val x2 (lM hx2);have lgx2:=gx2.2;obtain ⟨r3,er3,vr3,or3,lr3⟩:=mkZ (v:=x2.val) (m:=M) (Nat.le_trans (zcf gx2.1) gx2.2);refine Jm 12 [(5,.g (xD 47 45 tt_6 (zab hx2 (f:=ziD)) (OV.tmp 46 _))),(7,.call (Fn.cast ((show Fn _ _ _ _ (vz (ZI.of x2.val)) _ from zjo x2 gx2.1 (by omega))) (congrArg vz er3.symm)) tb_7),(8,.g (bD 50 ([r3].map ziD) [(49,vz r3)] ty_5 (.cons (i:=0) (OV.tmp 49 _) (.nil)) (by kernel_rfl) (by simp [ziD]))),(9,.g (aD 51 43 50 10 12 ((x.vals.take i).map clZ) [r3] ziD kk_4 (by simp [ziD])))] [39] [] [(5,.box (zaj s)),(6,.box [cIs x.locs,cZs x.vals]),(7,.box [.d (.raw zad),.d (.raw zad)]),(8,.box ([.own 9 x.locs.length,.own 12 (((x.vals.take i).map clZ)++[r3]).length])),(9,.row 3 1 (x.locs.map zai)),(12,.row 28 2 ((((x.vals.take i).map clZ)++[r3]).map ziD))] h fun a w h=>za8 (za1 (Jf 13 [(1,.j1 i)] [] [(12,vI ((i:Int)+1))] h fun a w h=>za1 ?_));rw [show ((((x.vals.take i).map clZ)++[r3]):List ZI)=((x.vals.take (i+1)).map clZ) from (by rw [<- map_snoc hx2];congr 1;simp [clZ, *])] at h;replace h:=ze3 12 10 [(2,vI (-1)),(3,(vZs picks)),(4,vp 5 0),(5,vp 6 0),(8,vp 7 0),(9,vb false),(10,vp 8 0),(12,vI ((i:Int)+1))] [(5,.box (zaj s)),(6,.box [cIs x.locs,cZs x.vals]),(7,.box [.d (.raw zad),.d (.raw zad)]),(8,.box [.own 9 x.locs.length,.own 10 ((x.vals.take (i+1)).map clZ).length]),(9,.row 3 1 (x.locs.map zai)),(10,.row 28 2 (((x.vals.take (i+1)).map clZ).map ziD))] h;refine zag (x:=i) (y:=i+1) h ?_ ?_
  ·show i+1<=x.vals.length;omega
  show x.vals.length - (i+1)<x.vals.length - i;omega
 refine wp_exit (za9 (za9 (za5 (za1 (qW ?_)))));rw [show (((x.vals.take i).map clZ):List ZI)=(x.vals.map clZ) from (by rw [List.take_of_length_le (by omega)])] at h;refine Jp 13 [(1,.cmp (op:=.eql) (m:=(-1)) (n:=(-1)) (b:=true) .i64 rfl)] [(2,vI (-1)),(3,(vZs picks)),(4,vp 5 0),(5,vp 6 0),(8,vp 7 0),(9,vb false),(10,vp 8 0),(54,vb true)] h fun a w h=>cS true h (fun _=>?_) nofun
 refine qW (Je 13 [(2,.call (SRStuck s x hL hs hx) kr_7)] [54] [(57,vb (stuck s x))] h fun a w h=>cS (stuck s x) h (fun hc5=>?_) (fun hc6=>?_))
 ·refine Jd 13 [] [57] [(9,vb true)] [(5,.box (zaj s)),(6,.box [cIs x.locs,cZs x.vals]),(7,.box [.own 9 x.locs.length,.own 10 (x.vals.map clZ).length]),(8,.box [.own 9 x.locs.length,.own 10 (x.vals.map clZ).length]),(9,.row 3 1 (x.locs.map zai)),(10,.row 28 2 ((x.vals.map clZ).map ziD))] h fun a w h=>qV (za6 (za6 ?_));replace h:=zi0 9 1 3 (x.locs.map zai) [(2,vI (-1)),(3,(vZs picks)),(4,vp 5 0),(5,vp 6 0),(8,vp 7 0),(9,vb true),(10,vp 8 0)] [(5,.box (zaj s)),(6,.box [cIs x.locs,cZs x.vals]),(7,.box [cIs x.locs,.own 10 (x.vals.map clZ).length]),(8,.box [cIs x.locs,.own 10 (x.vals.map clZ).length]),(10,.row 28 2 ((x.vals.map clZ).map ziD))] h rfl trivial (show zbw _ [x.locs.length,x.locs.length] from ⟨by first | exact (List.length_map _).symm | (simp;done) | (simp;omega),by first | exact (List.length_map _).symm | (simp;done) | (simp;omega),trivial⟩);replace h:=zi0 10 2 28 ((x.vals.map clZ).map ziD) [(2,vI (-1)),(3,(vZs picks)),(4,vp 5 0),(5,vp 6 0),(8,vp 7 0),(9,vb true),(10,vp 8 0)] [(5,.box (zaj s)),(6,.box [cIs x.locs,cZs x.vals]),(7,.box [cIs x.locs,cZs (x.vals.map clZ)]),(8,.box [cIs x.locs,cZs (x.vals.map clZ)])] h rfl trivial (show zbw _ [(x.vals.map clZ).length,(x.vals.map clZ).length] from ⟨by first | exact (List.length_map _).symm | (simp;done) | (simp;omega),by first | exact (List.length_map _).symm | (simp;done) | (simp;omega),trivial⟩);refine zea [.agg [cIs x.locs,cZs (x.vals.map clZ)],.c (cB true)] h Exit.ret (.inl rfl)  rfl ⟨RV.agg _ 7 0 _ _ _ _ kk_5 rfl rfl rfl rfl,RV.tmp _ _ rfl,trivial⟩ ?_;have hz:goS s x (-1) picks=(cloneS x,true):=by unfold goS;rw [if_pos ⟨rfl,hc5⟩]
  rw [hz];try rfl
 refine qU (za1 (Je 13 [] [57] [] h fun a w h=>qV (za6 ?_)));replace h:=zbd 7 0 1 [.d (.raw zad),.d (.raw zad)] [(2,vI (-1)),(3,(vZs picks)),(4,vp 5 0),(5,vp 6 0),(8,vp 7 0),(9,vb false),(10,vp 8 0)] [(5,.box (zaj s)),(6,.box [cIs x.locs,cZs x.vals]),(7,.box [cIs [],.d (.raw zad)]),(8,.box [.own 9 x.locs.length,.own 10 (x.vals.map clZ).length]),(9,.row 3 1 (x.locs.map zai)),(10,.row 28 2 ((x.vals.map clZ).map ziD))] h rfl rfl;replace h:=zbd 7 1 2 [cIs [],.d (.raw zad)] [(2,vI (-1)),(3,(vZs picks)),(4,vp 5 0),(5,vp 6 0),(8,vp 7 0),(9,vb false),(10,vp 8 0)] [(5,.box (zaj s)),(6,.box [cIs x.locs,cZs x.vals]),(7,.box [cIs [],cZs []]),(8,.box [.own 9 x.locs.length,.own 10 (x.vals.map clZ).length]),(9,.row 3 1 (x.locs.map zai)),(10,.row 28 2 ((x.vals.map clZ).map ziD))] h rfl rfl;refine zea [.agg [cIs [],cZs []],.c (cB false)] h Exit.ret (.inl rfl)  rfl ⟨RV.agg _ 7 0 _ _ _ _ kk_5 rfl rfl rfl rfl,RV.tmp _ _ rfl,trivial⟩ ?_;have hz:goS s x (-1) picks=(st0,false):=by unfold goS;rw [if_neg (fun h=>by have:=h.2;rw [hc6] at this;cases this)];rfl
 rw [hz];try rfl
theorem SRGo (s:zar) (x:StD) (i:Int) (picks:List ZI) {L M:Nat} (hL:L+M<=1900) (hs:zb9 L s) (hx:zjn M x) (hp:∀ z ∈ picks,ZOk M z) (hpl:picks.length<=9223372036854775807):Fn Tryz.prog 27 [] [vG (zaj s),vG [cIs x.locs,cZs x.vals],vi .i64 i,(vZs picks)] (.tup [.agg [cIs (goS s x i picks).1.locs,cZs (goS s x i picks).1.vals],.c (cB (goS s x i picks).2)]) []:=by
 by_cases hn:i=-1
 ·subst hn;exact SRGo1 s x picks hL hs hx hp
 ·cases hi:zcs s i with
  | none =>
   have:goS s x i picks=(st0,false):=by unfold goS;rw [if_neg (fun h=>hn h.1),hi]
   rw [this];exact SRGo2 s x i picks (by omega) hs hx hp hi hn
  | some c =>
   have:goS s x i picks=goC s x c picks:=by unfold goS;rw [if_neg (fun h=>hn h.1),hi]
   obtain ⟨ki,rfl,hka⟩:=zep hi
   rw [this];exact SRGo3 s x ki picks c (by omega) hs hx hp hka hpl
theorem kt_1:za4 Tryz.prog 24:=za4.mk' (by kernel_rfl)
theorem all2c {α β:Type} {R:α->β->Prop} {x:α} {xs:List α} {us:List β} (h:zba R (x :: xs) us):∃ u vs,us=u :: vs/\R x u/\zba R xs vs:=by
 cases us with
 | nil=>exact h.elim
 | cons u us=>exact ⟨u,us,rfl,h⟩
theorem Fn.agg6 {P:Program} {k:FuncId} {ps qs:List (Nat × L)} {es:Nat} {c1 c2 c3 c4 c5:C} {x y res:V} (h:Fn P k ps [vG [c1,c2,c3,c4,c5,.d (.sl es [])],x,y] res qs):Fn P k ps [vG [c1,c2,c3,c4,c5,.d (.raw zad)],x,y] res qs:=by
 intro w H B vals pre
 obtain ⟨h1,h2,h3,h4,h5⟩:=pre
 cases vals with
 | nil=>exact h5.elim
 | cons v vs =>
  obtain ⟨⟨us,rfl,ha⟩,ht⟩:=h5
  obtain ⟨u1,us,rfl,a1,ha⟩:=all2c ha
  obtain ⟨u2,us,rfl,a2,ha⟩:=all2c ha
  obtain ⟨u3,us,rfl,a3,ha⟩:=all2c ha
  obtain ⟨u4,us,rfl,a4,ha⟩:=all2c ha
  obtain ⟨u5,us,rfl,a5,ha⟩:=all2c ha
  obtain ⟨u6,us,rfl,a6,hz⟩:=all2c ha
  have h6:u6=zad:=VR.rawI (B:=B) a6
  subst h6
  exact h w H B _ ⟨h1,h2,h3,h4,⟨_,rfl,a1,a2,a3,a4,a5,DR.nil _ _ _ (fun _=>rfl) (Nat.zero_le _),hz⟩,ht⟩
def fewB (L:Nat) (b:zaq):Bool:=decide ((b.lo.abs.length:Int)<=(L:Int)) && decide ((b.hi.abs.length:Int)<=(L:Int))
def formT (t:zal):za0:=⟨2,⟨t,false⟩,[]⟩
def fewM (L:Nat) (m:zae):Bool:=zit (formT m.t) 5 L
def fewA (L:Nat) (c:zaw):Bool:=(zit c.guard 30 L && decide ((c.moves.length:Int)<=20)) && c.moves.all (fewM L)
def zbq (L:Nat) (s:zar):Bool:=(decide ((s.vars.length:Int)<=8/\(s.bounds.length:Int)<=20/\(s.procs.length:Int)<=6/\(s.acts.length:Int)<=20) && zit s.init 30 L) && (s.bounds.all (fewB L) && s.acts.all (fewA L))
def zgb (L:Nat) (x:StD):Bool:=decide ((x.locs.length:Int)<=10/\(x.vals.length:Int)<=10) && x.vals.all fun z=>decide ((z.abs.length:Int)<=(L:Int))
/-- limbs that are limbs -/
structure SysRd (s:zar):Prop where
  init:s.init.lb
  bnd:∀ b ∈ s.bounds,Lb b.lo.abs/\Lb b.hi.abs
  act:∀ c ∈ s.acts,c.guard.lb/\∀ m ∈ c.moves,TLb m.t
  len:s.bounds.length<=9223372036854775807/\s.acts.length<=9223372036854775807
  mlen:∀ c ∈ s.acts,c.moves.length<=9223372036854775807
def StRd (x:StD):Prop:=(∀ z ∈ x.vals,Lb z.abs)/\x.vals.length<=9223372036854775807
theorem fewF_ok {f:za0} {most:Int} {L:Nat} (h:zit f most L=true) (hl:f.lb):f.ok L:=by unfold zit at h;rw [Bool.and_eq_true] at h;exact za0.few_ok f h.2 hl
theorem formT_lb {t:zal} (h:TLb t):(formT t).lb:=(za0.lb_eq _).2 ⟨⟨h,Nat.zero_le _⟩,fun g hg=>(by cases hg)⟩
theorem formT_ok {t:zal} {L:Nat} (h:(formT t).ok L):TOk 20 L t:=((za0.ok_eq L _).1 h).1 rfl
theorem few_sys {L:Nat} {s:zar} (h:zbq L s=true) (hr:SysRd s):zb9 L s:=by
 unfold zbq at h
 simp only [Bool.and_eq_true,decide_eq_true_eq,List.all_eq_true] at h
 obtain ⟨⟨⟨h1,h2,h3,h4⟩,h5⟩,h6,h7⟩:=h
 refine ⟨by omega,by omega,by omega,by omega,fun b hb=>?_,⟨hr.init,fewF_ok h5 hr.init⟩,fun c hc=>?_⟩
 ·have:=h6 b hb;unfold fewB at this;simp only [Bool.and_eq_true,decide_eq_true_eq] at this
  exact ⟨⟨(hr.bnd b hb).1,by omega⟩,(hr.bnd b hb).2,by omega⟩
 ·have:=h7 c hc;unfold fewA at this;simp only [Bool.and_eq_true,decide_eq_true_eq,List.all_eq_true] at this
  exact ⟨⟨(hr.act c hc).1,fewF_ok this.1.1 (hr.act c hc).1⟩,by omega,fun m hm=>formT_ok (fewF_ok (this.2 m hm) (formT_lb ((hr.act c hc).2 m hm)))⟩
theorem few_st {L:Nat} {x:StD} (h:zgb L x=true) (hr:StRd x):zjn L x:=by
 unfold zgb at h
 simp only [Bool.and_eq_true,decide_eq_true_eq,List.all_eq_true] at h
 exact ⟨by omega,by omega,fun z hz=>⟨hr.1 z hz,by have:=h.2 z hz;omega⟩⟩
theorem SFewSt (x:StD) (L:Nat) (hr:StRd x):Fn Tryz.prog 34 [] [vG [cIs x.locs,cZs x.vals],vN L] (vb (zgb L x)) []:=by
 have lv:=hr.2;refine Fn.body Tryz.func34 rfl 32 rfl fun w H B a h=>Jq 0 [] [(1,vN L),(2,vp 0 0),(4,vb false)] [(0,.box [cIs x.locs,cZs x.vals])] h fun a w h=>qW ?_
 rcases Bool.eq_false_or_eq_true (decide ((x.locs.length:Int)>10)) with hc1 | hc2
 ·have hc1':=dT hc1;refine Je 1 [(2,.len (za7 1 zai x.locs)),(3,.cmp (op:=.gtr) (m:=(x.locs.length:Int)) (n:=10) (b:=true) .i64 hc1)] [] [(15,vb true)] h fun a w h=>cS true h (fun _=>?_) nofun
  refine Je 1 [] [15] [] h fun a w h=>qV (za6 (rT (.c (cB false)) h rfl ?_));have hz:zgb L x=false:=by unfold zgb;rw [decide_eq_false (p:=(x.locs.length:Int)<=10/\(x.vals.length:Int)<=10) (by have:=dT hc1;omega)];rfl
  rw [hz];try rfl
 have hc2':=dF hc2;refine Je 1 [(2,.len (za7 1 zai x.locs)),(3,.cmp (op:=.gtr) (m:=(x.locs.length:Int)) (n:=10) (b:=false) .i64 hc2),(7,.len (za7 2 ziD x.vals))] [] [(15,vb (decide ((x.vals.length:Int)>10)))] h fun a w h=>zam ((x.vals.length:Int)>10) h (fun hc3 hc3'=>?_) (fun hc4 hc4'=>?_)
 ·refine Je 1 [] [15] [] h fun a w h=>qV (za6 (rT (.c (cB false)) h rfl ?_));have hz:zgb L x=false:=by unfold zgb;rw [decide_eq_false (p:=(x.locs.length:Int)<=10/\(x.vals.length:Int)<=10) (by have:=dT hc3;omega)];rfl
  rw [hz];try rfl
 refine qU (za1 (qW (Je 1 [] [15] [(5,vI 0)] h fun a w h=>qZ ?_)))
 refine zap (ι:=(Nat)) (fun j=>j<=x.vals.length/\(x.vals.take j).all (fun z=>decide ((z.abs.length:Int)<=(L:Int)))=true)
   (fun j=>[(1,vN L),(2,vp 0 0),(5,vN j)])
   (fun j=>[(0,.box [cIs x.locs,cZs x.vals])])
   (fun j=>x.vals.length - j) 0 ?_ h (by kernel_rfl) (by kernel_rfl) ?_
 ·exact ⟨Nat.zero_le _,rfl⟩
 clear h;rintro j a w hI h;obtain ⟨hI1,hI2⟩:=hI;refine qW (Je 1 [(3,.len (za7 2 ziD x.vals))] [] [(20,vb (decide ((j:Int)<(x.vals.length:Int))))] h fun a w h=>zam ((j:Int)<(x.vals.length:Int)) h (fun hc5 hc5'=>?_) (fun hc8 hc8'=>?_))
 ·refine qU (za1 (qW (qZ ?_)));obtain ⟨x1,hx1⟩:=gl x.vals j;refine Je 1 [(3,.g (xD 26 24 tt_6 (zab hx1 (f:=ziD)) (OV.tmp 25 _))),(6,.len (zec x1.abs))] [20] [(31,vb (decide ((x1.abs.length:Int)>(L:Int))))] h fun a w h=>zam ((x1.abs.length:Int)>(L:Int)) h (fun hc6 hc6'=>?_) (fun hc7 hc7'=>?_)
  ·refine Je 1 [] [31] [(4,vb false)] h fun a w h=>qV (zac (za6 (za6 (zac (za6 (rT (.c (cB false)) h rfl ?_))))));have hz:zgb L x=false:=by unfold zgb;rw [decide_eq_true (p:=(x.locs.length:Int)<=10/\(x.vals.length:Int)<=10) (by have:=dF hc2;have:=dF hc4;omega),Bool.true_and];exact zbp hx1 (decide_eq_false (by have:=dT hc6;omega))
   rw [hz];try rfl
  refine qU (za8 (za1 (Jf 1 [(1,.j1 j)] [31] [(5,vI ((j:Int)+1))] h fun a w h=>za1 (zag (x:=j) (y:=j+1) h ?_ ?_))))
  ·exact ⟨by have:=zak hx1;omega,zc0 hx1 hI2 (decide_eq_true (by have:=dF hc7;omega))⟩
  show x.vals.length - (j+1)<x.vals.length - j;have:=zak hx1;omega
 refine wp_exit (za9 (za9 (za5 (za1 (Jq 1 [] [(4,vb true)] [] h fun a w h=>qV (rT (.c (cB true)) h rfl ?_))))));have hz:zgb L x=true:=by unfold zgb;rw [decide_eq_true (p:=(x.locs.length:Int)<=10/\(x.vals.length:Int)<=10) (by have:=dF hc2;have:=dF hc4;omega),Bool.true_and];exact zc6 (dF hc8) hI2
 rw [hz];try rfl
theorem SFewSys (s:zar) (L:Nat) (hr:SysRd s):Fn Tryz.prog 35 [] [vG (zaj s),vN L] (vb (zbq L s)) []:=by
 have lb1:=hr.len.1;have lb2:=hr.len.2;refine Fn.body Tryz.func35 rfl 118 rfl fun w H B a h=>Jq 0 [] [(1,vN L),(2,vp 0 0),(4,vb false)] [(0,.box (zaj s))] h fun a w h=>qW ?_
 rcases Bool.eq_false_or_eq_true (decide ((s.vars.length:Int)>8)) with hc1 | hc2
 ·have hc1':=dT hc1;refine Je 1 [(2,.len (za7 1 zg4 s.vars)),(3,.cmp (op:=.gtr) (m:=(s.vars.length:Int)) (n:=8) (b:=true) .i64 hc1)] [] [(36,vb true)] h fun a w h=>cS true h (fun _=>?_) nofun
  refine Je 1 [] [36] [] h fun a w h=>qV (za6 (rT (.c (cB false)) h rfl ?_));have hz:zbq L s=false:=by unfold zbq;rw [decide_eq_false (p:=(s.vars.length:Int)<=8/\(s.bounds.length:Int)<=20/\(s.procs.length:Int)<=6/\(s.acts.length:Int)<=20) (by have:=dT hc1;omega)];rfl
  rw [hz];try rfl
 have hc2':=dF hc2
 rcases Bool.eq_false_or_eq_true (decide ((s.bounds.length:Int)>20)) with hc3 | hc4
 ·have hc3':=dT hc3;refine Je 1 [(2,.len (za7 1 zg4 s.vars)),(3,.cmp (op:=.gtr) (m:=(s.vars.length:Int)) (n:=8) (b:=false) .i64 hc2),(7,.len (za7 5 zaq.d s.bounds)),(8,.cmp (op:=.gtr) (m:=(s.bounds.length:Int)) (n:=20) (b:=true) .i64 hc3)] [] [(36,vb true)] h fun a w h=>cS true h (fun _=>?_) nofun
  refine Je 1 [] [36] [] h fun a w h=>qV (za6 (rT (.c (cB false)) h rfl ?_));have hz:zbq L s=false:=by unfold zbq;rw [decide_eq_false (p:=(s.vars.length:Int)<=8/\(s.bounds.length:Int)<=20/\(s.procs.length:Int)<=6/\(s.acts.length:Int)<=20) (by have:=dT hc3;omega)];rfl
  rw [hz];try rfl
 have hc4':=dF hc4
 rcases Bool.eq_false_or_eq_true (decide ((s.procs.length:Int)>6)) with hc5 | hc6
 ·have hc5':=dT hc5;refine Je 1 [(2,.len (za7 1 zg4 s.vars)),(3,.cmp (op:=.gtr) (m:=(s.vars.length:Int)) (n:=8) (b:=false) .i64 hc2),(7,.len (za7 5 zaq.d s.bounds)),(8,.cmp (op:=.gtr) (m:=(s.bounds.length:Int)) (n:=20) (b:=false) .i64 hc4),(13,.len (za7 3 zc7.d s.procs)),(14,.cmp (op:=.gtr) (m:=(s.procs.length:Int)) (n:=6) (b:=true) .i64 hc5)] [] [(36,vb true)] h fun a w h=>cS true h (fun _=>?_) nofun
  refine Je 1 [] [36] [] h fun a w h=>qV (za6 (rT (.c (cB false)) h rfl ?_));have hz:zbq L s=false:=by unfold zbq;rw [decide_eq_false (p:=(s.vars.length:Int)<=8/\(s.bounds.length:Int)<=20/\(s.procs.length:Int)<=6/\(s.acts.length:Int)<=20) (by have:=dT hc5;omega)];rfl
  rw [hz];try rfl
 have hc6':=dF hc6
 rcases Bool.eq_false_or_eq_true (decide ((s.acts.length:Int)>20)) with hc7 | hc8
 ·have hc7':=dT hc7;refine Je 1 [(2,.len (za7 1 zg4 s.vars)),(3,.cmp (op:=.gtr) (m:=(s.vars.length:Int)) (n:=8) (b:=false) .i64 hc2),(7,.len (za7 5 zaq.d s.bounds)),(8,.cmp (op:=.gtr) (m:=(s.bounds.length:Int)) (n:=20) (b:=false) .i64 hc4),(13,.len (za7 3 zc7.d s.procs)),(14,.cmp (op:=.gtr) (m:=(s.procs.length:Int)) (n:=6) (b:=false) .i64 hc6),(19,.len (za7 10 zaw.d s.acts)),(20,.cmp (op:=.gtr) (m:=(s.acts.length:Int)) (n:=20) (b:=true) .i64 hc7)] [] [(36,vb true)] h fun a w h=>cS true h (fun _=>?_) nofun
  refine Je 1 [] [36] [] h fun a w h=>qV (za6 (rT (.c (cB false)) h rfl ?_));have hz:zbq L s=false:=by unfold zbq;rw [decide_eq_false (p:=(s.vars.length:Int)<=8/\(s.bounds.length:Int)<=20/\(s.procs.length:Int)<=6/\(s.acts.length:Int)<=20) (by have:=dT hc7;omega)];rfl
  rw [hz];try rfl
 have hc8':=dF hc8;refine Je 1 [(2,.len (za7 1 zg4 s.vars)),(3,.cmp (op:=.gtr) (m:=(s.vars.length:Int)) (n:=8) (b:=false) .i64 hc2),(7,.len (za7 5 zaq.d s.bounds)),(8,.cmp (op:=.gtr) (m:=(s.bounds.length:Int)) (n:=20) (b:=false) .i64 hc4),(13,.len (za7 3 zc7.d s.procs)),(14,.cmp (op:=.gtr) (m:=(s.procs.length:Int)) (n:=6) (b:=false) .i64 hc6),(19,.len (za7 10 zaw.d s.acts)),(20,.cmp (op:=.gtr) (m:=(s.acts.length:Int)) (n:=20) (b:=false) .i64 hc8),(26,.call (SFewF s.init 30 (L:Int) hr.init (by decide) (by decide)) kt_1)] [] [(36,vb (!(zit s.init 30 L)))] h fun a w h=>cS (!(zit s.init 30 L)) h (fun hc9=>?_) (fun hc10=>?_)
 ·have hc9':=hc9;(try simp at hc9');refine Je 1 [] [36] [] h fun a w h=>qV (za6 (rT (.c (cB false)) h rfl ?_));have hz:zbq L s=false:=by unfold zbq;rw [decide_eq_true (p:=(s.vars.length:Int)<=8/\(s.bounds.length:Int)<=20/\(s.procs.length:Int)<=6/\(s.acts.length:Int)<=20) (by have:=dF hc2;have:=dF hc4;have:=dF hc6;have:=dF hc8;omega),Bool.true_and];rw [(show (zit s.init 30 L)=false from by simpa using hc9)];rfl
  rw [hz];try rfl
 have hc10':=hc10;(try simp at hc10');refine qU (za1 (qW (Je 1 [] [36] [(5,vI 0)] h fun a w h=>qZ ?_)))
 refine zap (ι:=(Nat)) (fun j=>j<=s.bounds.length/\(s.bounds.take j).all (fewB L)=true)
   (fun j=>[(1,vN L),(2,vp 0 0),(5,vN j)])
   (fun j=>[(0,.box (zaj s))])
   (fun j=>s.bounds.length - j) 0 ?_ h (by kernel_rfl) (by kernel_rfl) ?_
 ·exact ⟨Nat.zero_le _,rfl⟩
 clear h;rintro j a w hI h;obtain ⟨hI1,hI2⟩:=hI;refine qW (Je 1 [(3,.len (za7 5 zaq.d s.bounds))] [] [(41,vb (decide ((j:Int)<(s.bounds.length:Int))))] h fun a w h=>zam ((j:Int)<(s.bounds.length:Int)) h (fun hc11 hc11'=>?_) (fun hc16 hc16'=>?_))
 ·refine qU (za1 (qW (qZ ?_)));obtain ⟨x2,hx2⟩:=gl s.bounds j
  rcases Bool.eq_false_or_eq_true (decide ((x2.lo.abs.length:Int)>(L:Int))) with hc12 | hc13
  ·have hc12':=dT hc12;refine Je 1 [(3,.g (xD 47 45 kf_0 (zab hx2 (f:=zaq.d)) (OV.tmp 46 _))),(7,.len (zec x2.lo.abs)),(9,.cmp (op:=.gtr) (m:=(x2.lo.abs.length:Int)) (n:=(L:Int)) (b:=true) .i64 hc12)] [41] [(65,vb true)] h fun a w h=>cS true h (fun _=>?_) nofun
   refine Je 1 [] [65] [(4,vb false)] h fun a w h=>qV (zac (za6 (za6 (zac (za6 (rT (.c (cB false)) h rfl ?_))))));have hz:zbq L s=false:=by unfold zbq;rw [decide_eq_true (p:=(s.vars.length:Int)<=8/\(s.bounds.length:Int)<=20/\(s.procs.length:Int)<=6/\(s.acts.length:Int)<=20) (by have:=dF hc2;have:=dF hc4;have:=dF hc6;have:=dF hc8;omega),Bool.true_and];rw [(show (zit s.init 30 L)=true from by simpa using hc10)];rw [zbp hx2 (show fewB L x2=false from (by unfold fewB;rw [decide_eq_false (by have:=dT hc12;omega)];rfl))];rfl
   rw [hz];try rfl
  have hc13':=dF hc13;refine Je 1 [(3,.g (xD 47 45 kf_0 (zab hx2 (f:=zaq.d)) (OV.tmp 46 _))),(7,.len (zec x2.lo.abs)),(9,.cmp (op:=.gtr) (m:=(x2.lo.abs.length:Int)) (n:=(L:Int)) (b:=false) .i64 hc13),(14,.g (xD 58 56 kf_0 (zab hx2 (f:=zaq.d)) (OV.tmp 57 _))),(18,.len (zec x2.hi.abs))] [41] [(65,vb (decide ((x2.hi.abs.length:Int)>(L:Int))))] h fun a w h=>zam ((x2.hi.abs.length:Int)>(L:Int)) h (fun hc14 hc14'=>?_) (fun hc15 hc15'=>?_)
  ·refine Je 1 [] [65] [(4,vb false)] h fun a w h=>qV (zac (za6 (za6 (zac (za6 (rT (.c (cB false)) h rfl ?_))))));have hz:zbq L s=false:=by unfold zbq;rw [decide_eq_true (p:=(s.vars.length:Int)<=8/\(s.bounds.length:Int)<=20/\(s.procs.length:Int)<=6/\(s.acts.length:Int)<=20) (by have:=dF hc2;have:=dF hc4;have:=dF hc6;have:=dF hc8;omega),Bool.true_and];rw [(show (zit s.init 30 L)=true from by simpa using hc10)];rw [zbp hx2 (show fewB L x2=false from (by unfold fewB;rw [decide_eq_false (p:=(x2.hi.abs.length:Int)<=(L:Int)) (by have:=dT hc14;omega),Bool.and_false]))];rfl
   rw [hz];try rfl
  refine qU (za8 (za1 (Jf 1 [(1,.j1 j)] [65] [(5,vI ((j:Int)+1))] h fun a w h=>za1 (zag (x:=j) (y:=j+1) h ?_ ?_))))
  ·exact ⟨by have:=zak hx2;omega,zc0 hx2 hI2 (by unfold fewB;rw [decide_eq_true (by have:=dF hc13;omega),decide_eq_true (by have:=dF hc15;omega)];rfl)⟩
  show s.bounds.length - (j+1)<s.bounds.length - j;have:=zak hx2;omega
 refine wp_exit (za9 (za9 (za5 (za1 (qW (Je 1 [] [5,41] [(6,vI 0)] h fun a w h=>qZ ?_))))))
 refine zap (ι:=(Nat)) (fun q=>q<=s.acts.length/\(s.acts.take q).all (fewA L)=true)
   (fun q=>[(1,vN L),(2,vp 0 0),(6,vN q)])
   (fun q=>[(0,.box (zaj s))])
   (fun q=>s.acts.length - q) 0 ?_ h (by kernel_rfl) (by kernel_rfl) ?_
 ·exact ⟨Nat.zero_le _,rfl⟩
 clear h;rintro q a w hI h;obtain ⟨hQ1,hQ2⟩:=hI;refine qW (Je 1 [(3,.len (za7 10 zaw.d s.acts))] [] [(70,vb (decide ((q:Int)<(s.acts.length:Int))))] h fun a w h=>zam ((q:Int)<(s.acts.length:Int)) h (fun hc17 hc17'=>?_) (fun hc26 hc26'=>?_))
 ·refine qU (za1 (qW (qZ (qW ?_))));obtain ⟨x3,hx3⟩:=gl s.acts q;have lmx3:=hr.mlen x3 (lM hx3)
  rcases Bool.eq_false_or_eq_true (zit x3.guard 30 L) with hc18 | hc25
  ·refine Je 1 [(3,.g (xD 76 74 ki_1 (zab hx3 (f:=zaw.d)) (OV.tmp 75 _))),(7,.call (Fn.cast (SFewF x3.guard 30 (L:Int) (hr.act x3 (lM hx3)).1 (by decide) (by decide)) (congrArg vb hc18)) kt_1),(13,.g (xD 86 84 ki_1 (zab hx3 (f:=zaw.d)) (OV.tmp 85 _))),(16,.len (za7 5 zae.d x3.moves))] [70] [(91,vb (decide ((x3.moves.length:Int)>20)))] h fun a w h=>zam ((x3.moves.length:Int)>20) h (fun hc19 hc19'=>?_) (fun hc20 hc20'=>?_)
   ·refine Je 1 [] [91] [(4,vb false)] h fun a w h=>qV (za6 (zac (za6 (za6 (zac (za6 (rT (.c (cB false)) h rfl ?_)))))));have hz:zbq L s=false:=by unfold zbq;rw [decide_eq_true (p:=(s.vars.length:Int)<=8/\(s.bounds.length:Int)<=20/\(s.procs.length:Int)<=6/\(s.acts.length:Int)<=20) (by have:=dF hc2;have:=dF hc4;have:=dF hc6;have:=dF hc8;omega),Bool.true_and];rw [(show (zit s.init 30 L)=true from by simpa using hc10)];rw [zc6 (dF hc16) hI2];rw [zbp hx3 (show fewA L x3=false from (by unfold fewA;rw [decide_eq_false (p:=(x3.moves.length:Int)<=20) (by have:=dT hc19;omega),Bool.and_false];rfl))];rfl
    rw [hz];try rfl
   refine qU (za1 (Je 1 [] [91] [(7,vI 0)] h fun a w h=>qZ ?_))
   refine zap (ι:=(Nat)) (fun i=>i<=x3.moves.length/\(x3.moves.take i).all (fewM L)=true)
     (fun i=>[(1,vN L),(2,vp 0 0),(6,vN q),(7,vN i)])
     (fun i=>[(0,.box (zaj s))])
     (fun i=>x3.moves.length - i) 0 ?_ h (by kernel_rfl) (by kernel_rfl) ?_
   ·exact ⟨Nat.zero_le _,rfl⟩
   clear h;rintro i a w hI h;obtain ⟨hJ1,hJ2⟩:=hI;refine qW (Je 1 [(4,.g (xD 96 94 ki_1 (zab hx3 (f:=zaw.d)) (OV.tmp 95 _))),(7,.len (za7 5 zae.d x3.moves))] [] [(100,vb (decide ((i:Int)<(x3.moves.length:Int))))] h fun a w h=>zam ((i:Int)<(x3.moves.length:Int)) h (fun hc21 hc21'=>?_) (fun hc24 hc24'=>?_))
   ·refine qU (za1 (qW (qZ ?_)));obtain ⟨x6,hx6⟩:=gl x3.moves i;refine Je 1 [(3,.g (xD 106 104 ki_1 (zab hx3 (f:=zaw.d)) (OV.tmp 105 _))),(7,.g (xD 110 108 ki_2 (zab hx6 (f:=zae.d)) (OV.tmp 109 _))),(13,.call (Fn.agg6 (SFewF (formT x6.t) 5 (L:Int) (formT_lb ((hr.act x3 (lM hx3)).2 x6 (lM hx6))) (by decide) (by decide))) kt_1)] [100] [(117,vb (!(zit (formT x6.t) 5 L)))] h fun a w h=>cS (!(zit (formT x6.t) 5 L)) h (fun hc22=>?_) (fun hc23=>?_)
    ·have hc22':=hc22;(try simp at hc22');refine Je 1 [] [117] [(4,vb false)] h fun a w h=>qV (zac (za6 (za6 (zac (zac (za6 (za6 (zac (za6 (rT (.c (cB false)) h rfl ?_))))))))));have hz:zbq L s=false:=by unfold zbq;rw [decide_eq_true (p:=(s.vars.length:Int)<=8/\(s.bounds.length:Int)<=20/\(s.procs.length:Int)<=6/\(s.acts.length:Int)<=20) (by have:=dF hc2;have:=dF hc4;have:=dF hc6;have:=dF hc8;omega),Bool.true_and];rw [(show (zit s.init 30 L)=true from by simpa using hc10)];rw [zc6 (dF hc16) hI2];rw [zbp hx3 (show fewA L x3=false from (by unfold fewA;rw [hc18,decide_eq_true (p:=(x3.moves.length:Int)<=20) (by have:=dF hc20;omega),Bool.true_and,Bool.true_and];exact zbp hx6 (show fewM L x6=false from (show (zit (formT x6.t) 5 L)=false from by simpa using hc22))))];rfl
     rw [hz];try rfl
    have hc23':=hc23;(try simp at hc23');refine qU (za8 (za1 (Jf 1 [(1,.j1 i)] [117] [(7,vI ((i:Int)+1))] h fun a w h=>za1 (zag (x:=i) (y:=i+1) h ?_ ?_))))
    ·have:=zak hx6;exact ⟨by omega,zc0 hx6 hJ2 (show fewM L x6=true from (show (zit (formT x6.t) 5 L)=true from by simpa using hc23))⟩
    show x3.moves.length - (i+1)<x3.moves.length - i;have:=zak hx6;omega
   refine wp_exit (za9 (za9 (za5 (za8 (za1 (Jf 1 [(1,.add .i64 (m:=(q:Int)) (n:=1) i6)] [7,100] [(6,vI ((q:Int)+1))] h fun a w h=>za1 (zag (x:=q) (y:=q+1) h ?_ ?_)))))))
   ·have:=zak hx3;exact ⟨by omega,zc0 hx3 hQ2 (by unfold fewA;rw [hc18,decide_eq_true (p:=(x3.moves.length:Int)<=20) (by have:=dF hc20;omega),Bool.true_and,Bool.true_and];exact zc6 (dF hc24) hJ2)⟩
   show s.acts.length - (q+1)<s.acts.length - q;have:=zak hx3;omega
  refine Je 1 [(3,.g (xD 76 74 ki_1 (zab hx3 (f:=zaw.d)) (OV.tmp 75 _))),(7,.call (Fn.cast (SFewF x3.guard 30 (L:Int) (hr.act x3 (lM hx3)).1 (by decide) (by decide)) (congrArg vb hc25)) kt_1)] [70] [(91,vb true)] h fun a w h=>cS true h (fun _=>?_) nofun
  refine Je 1 [] [91] [(4,vb false)] h fun a w h=>qV (za6 (zac (za6 (za6 (zac (za6 (rT (.c (cB false)) h rfl ?_)))))));have hz:zbq L s=false:=by unfold zbq;rw [decide_eq_true (p:=(s.vars.length:Int)<=8/\(s.bounds.length:Int)<=20/\(s.procs.length:Int)<=6/\(s.acts.length:Int)<=20) (by have:=dF hc2;have:=dF hc4;have:=dF hc6;have:=dF hc8;omega),Bool.true_and];rw [(show (zit s.init 30 L)=true from by simpa using hc10)];rw [zc6 (dF hc16) hI2];rw [zbp hx3 (show fewA L x3=false from (by unfold fewA;rw [hc25];rfl))];rfl
  rw [hz];try rfl
 refine wp_exit (za9 (za9 (za5 (za1 (Jq 1 [] [(4,vb true)] [] h fun a w h=>qV (rT (.c (cB true)) h rfl ?_))))));have hz:zbq L s=true:=by unfold zbq;rw [decide_eq_true (p:=(s.vars.length:Int)<=8/\(s.bounds.length:Int)<=20/\(s.procs.length:Int)<=6/\(s.acts.length:Int)<=20) (by have:=dF hc2;have:=dF hc4;have:=dF hc6;have:=dF hc8;omega),Bool.true_and];rw [(show (zit s.init 30 L)=true from by simpa using hc10)];rw [zc6 (dF hc16) hI2];rw [zc6 (dF hc26) hQ2];rfl
 rw [hz];try rfl
mutual
/-- y is x, with nil read as an empty slice here and zde -/
inductive Wk:D->D->Prop
  | refl (x:D):Wk x x
  | nil (es:Nat):Wk (.raw zad) (.sl es [])
  | sl (es:Nat) (a b:List (List D)) (h:WkR a b):Wk (.sl es a) (.sl es b)
inductive WkL:List D->List D->Prop
  | nil:WkL [] []
  | cons (x y:D) (xs ys:List D) (h:Wk x y) (hs:WkL xs ys):WkL (x :: xs) (y :: ys)
inductive WkR:List (List D)->List (List D)->Prop
  | nil:WkR [] []
  | cons (x y:List D) (xs ys:List (List D)) (h:WkL x y) (hs:WkR xs ys):WkR (x :: xs) (y :: ys)
end
def WkM (x y:D):Prop:=∀ (H:Im) (v:Value),DR H x v->DR H y v
def WkLM (xs ys:List D):Prop:=xs.length=ys.length/\∀ j (h:j<xs.length) (h':j<ys.length),WkM xs[j] ys[j]
def WkRM (xs ys:List (List D)):Prop:=xs.length=ys.length/\∀ i (h:i<xs.length) (h':i<ys.length),WkLM xs[i] ys[i]
theorem Wk.sound {x y:D} (h:Wk x y):WkM x y:=by
 refine Wk.rec (motive_1:=fun x y _=>WkM x y) (motive_2:=fun x y _=>WkLM x y) (motive_3:=fun x y _=>WkRM x y) ?_ ?_ ?_ ?_ ?_ ?_ ?_ h
 ·intro x H v h;exact h
 ·intro es H v h
  cases h with
  | raw v h=>exact DR.nil _ _ _ (fun _=>rfl) (Nat.zero_le _)
 ·intro es a b _ ih H v h
  cases h with
  | nil es ao c h hc =>
   have:b=[]:=List.length_eq_zero_iff.1 ih.1.symm
   subst this
   exact DR.nil _ _ _ h hc
  | sl es rows bb o c arr ty fz vs hp hb hl hc hes hv hr =>
   rw [ih.1] at hp hl ⊢
   refine DR.sl es b bb o c arr ty fz vs hp hb hl hc (fun i hi=>?_) (fun i hi=>?_) (fun i hi j hj=>?_)
   ·have h0:i<a.length:=by rw [ih.1];exact hi
    rw [<- (ih.2 i h0 hi).1];exact hes i h0
   ·exact hv i (by rw [ih.1];exact hi)
   ·have h0:i<a.length:=by rw [ih.1];exact hi
    have hj0:j<a[i].length:=by rw [(ih.2 i h0 hi).1];exact hj
    exact (ih.2 i h0 hi).2 j hj0 hj _ _ (hr i h0 j hj0)
 ·exact ⟨rfl,fun j h=>absurd h (Nat.not_lt_zero j)⟩
 ·intro x y xs ys _ _ h hs
  refine ⟨by simp [hs.1],fun j hj hj'=>?_⟩
  cases j with
  | zero=>exact h
  | succ j=>exact hs.2 j (by simpa using hj) (by simpa using hj')
 ·exact ⟨rfl,fun j h=>absurd h (Nat.not_lt_zero j)⟩
 ·intro x y xs ys _ _ h hs
  refine ⟨by simp [hs.1],fun j hj hj'=>?_⟩
  cases j with
  | zero=>exact h
  | succ j=>exact hs.2 j (by simpa using hj) (by simpa using hj')
inductive WkC:List C->List C->Prop
  | nil:WkC [] []
  | same (x:C) (xs ys:List C) (hs:WkC xs ys):WkC (x :: xs) (x :: ys)
  | d (x y:D) (xs ys:List C) (h:Wk x y) (hs:WkC xs ys):WkC (.d x :: xs) (.d y :: ys)
theorem WkC.sound {H:Im} {B:Bl} {xs ys:List C} (h:WkC xs ys):∀ {vs:List Value}, zba (CR H B) xs vs->zba (CR H B) ys vs:=by
 induction h with
 | nil=>exact fun h=>h
 | same x xs ys _ ih =>
  intro vs k
  cases vs with
  | nil=>exact k.elim
  | cons v vs=>exact ⟨k.1,ih k.2⟩
 | d x y xs ys h _ ih =>
  intro vs k
  cases vs with
  | nil=>exact k.elim
  | cons v vs=>exact ⟨h.sound H v k.1,ih k.2⟩
inductive WkV:V->V->Prop
  | refl (x:V):WkV x x
  | c (x y:D) (h:Wk x y):WkV (.t (.c (.d x))) (.t (.c (.d y)))
  | agg (xs ys:List C) (h:WkC xs ys):WkV (.t (.agg xs)) (.t (.agg ys))
theorem WkV.sound {H:Im} {B:Bl} {x y:V} (h:WkV x y) {v:Value} (k:VR H B x v):VR H B y v:=by
 cases h with
 | refl=>exact k
 | c x y h=>exact h.sound H v k
 | agg xs ys h=>obtain ⟨vs,e,k⟩:=k;exact ⟨vs,e,h.sound k⟩
inductive WkA:List V->List V->Prop
  | nil:WkA [] []
  | cons (x y:V) (xs ys:List V) (h:WkV x y) (hs:WkA xs ys):WkA (x :: xs) (y :: ys)
theorem WkA.sound {H:Im} {B:Bl} {xs ys:List V} (h:WkA xs ys):∀ {vs:List Value}, zba (VR H B) xs vs->zba (VR H B) ys vs:=by
 induction h with
 | nil=>exact fun h=>h
 | cons x y xs ys h _ ih =>
  intro vs k
  cases vs with
  | nil=>exact k.elim
  | cons v vs=>exact ⟨h.sound k.1,ih k.2⟩
theorem Fn.argw {P:Program} {k:FuncId} {ps qs:List (Nat × L)} {args args':List V} {res:V} (h:Fn P k ps args' res qs) (hw:WkA args args'):Fn P k ps args res qs :=
 fun w H B vals pre=>h w H B vals ⟨pre.sat,pre.loc,pre.priv,pre.inj,hw.sound pre.arg⟩
theorem Fn.resw {P:Program} {k:FuncId} {ps qs:List (Nat × L)} {args:List V} {res res':V} (h:Fn P k ps args res qs) (hw:WkV res res'):Fn P k ps args res' qs :=
 fun w H B vals pre=>(h w H B vals pre).mono fun _en _w' ⟨v,H', B', e,p⟩=>⟨v,H', B', e,{ p with res:=hw.sound p.res }⟩
theorem lo15_2:za4 Tryz.prog 34:=za4.mk' (by kernel_rfl)
theorem kw_3:ElZ Tryz.prog 23 106 5:=ElZ.mk' Tryz.underlying23 _ _ rfl rfl (by kernel_rfl) (by kernel_rfl) (by kernel_rfl) (by decide)
theorem kw_4:ElZ Tryz.prog 36 59 3:=ElZ.mk' Tryz.underlying36 _ _ rfl rfl (by kernel_rfl) (by kernel_rfl) (by kernel_rfl) (by decide)
theorem kw_5:ElZ Tryz.prog 70 74 5:=ElZ.mk' Tryz.underlying70 _ _ rfl rfl (by kernel_rfl) (by kernel_rfl) (by kernel_rfl) (by decide)
theorem kw_6:ElZ Tryz.prog 37 72 10:=ElZ.mk' Tryz.underlying37 _ _ rfl rfl (by kernel_rfl) (by kernel_rfl) (by kernel_rfl) (by decide)
theorem kw_7:Sz Tryz.prog 39 10 true:=Sz.mk' (by kernel_rfl) Tryz.underlying39 _ rfl
def zc8:zar:=⟨[⟨#[120]⟩],[⟨true,ze6,ZI.of 3⟩],form0,[⟨⟨#[112]⟩,[⟨#[97]⟩,⟨#[98]⟩],.raw zad⟩],[⟨0,0,1,form0,[⟨0,false,⟨[⟨0,ZI.of 1⟩],ZI.of 1⟩⟩]⟩]⟩
theorem kx_3:ElZ Tryz.prog 83 43 2:=ElZ.mk' Tryz.underlying83 _ _ rfl rfl (by kernel_rfl) (by kernel_rfl) (by kernel_rfl) (by decide)
theorem form0_lb:form0.lb:=(za0.lb_eq _).2 ⟨⟨⟨zeg,fun p hp=>(by cases hp)⟩,Nat.zero_le _⟩,fun g hg=>(by cases hg)⟩
theorem fewE:zbq 3 zc8=true:=by kernel_rfl
theorem mem1 {α:Type} {x y:α} (h:x ∈ [y]):x=y:=by simpa using h
theorem sysRdE:SysRd zc8:=⟨form0_lb,fun b hb=>by rw [mem1 hb];exact ⟨zeg,ZI.lb_of 3⟩,fun c hc=>by
 rw [mem1 hc]
 exact ⟨form0_lb,fun m hm=>by rw [mem1 hm];exact ⟨ZI.lb_of 1,fun p hp=>by rw [mem1 hp];exact ZI.lb_of 1⟩⟩,by decide,fun c hc=>by rw [mem1 hc];decide⟩
theorem zbt:zb9 3 zc8:=few_sys fewE sysRdE
theorem ky_1:za4 Tryz.prog 35:=za4.mk' (by kernel_rfl)
theorem cloneS_ok {M:Nat} {x:StD} (hx:zjn M x):zjn M (cloneS x):=⟨hx.locs,by show (x.vals.map clZ).length<=10;rw [List.length_map];exact hx.vals,fun z hz=>by
 obtain ⟨u,hu,rfl⟩:=List.mem_map.1 (show z ∈ x.vals.map clZ from hz)
 exact cl_len (hx.val u hu)⟩
theorem goS_ok {L M:Nat} {s:zar} {x:StD} {i:Int} {picks:List ZI} (hs:zb9 L s) (hx:zjn M x) (hp:∀ z ∈ picks,ZOk M z):zjn (L+M+2) (goS s x i picks).1:=by
 unfold goS
 split
 ·exact (cloneS_ok hx).mono (by omega)
 ·split
  ·exact st0_ok
  ·next c hc =>
   unfold goC
   split
   ·obtain ⟨k,_,hk⟩:=zep hc
    exact outS_ok hs hx (hs.act c (List.mem_of_getElem? hk)) hp
   ·exact st0_ok
theorem same_clone (x:StD):sameS x (cloneS x)=true:=by
 unfold sameS
 rw [decide_eq_true (show x.locs=(cloneS x).locs from rfl),Bool.true_and,decide_eq_true_eq]
 show _=(x.vals.map clZ).map ZI.val
 rw [List.map_map]
 exact List.map_congr_left fun z _=>(ZI.val_of z.val).symm
theorem allN_of {f:Nat->Bool}:∀ {n:Nat}, (∀ i,i<n->f i=true)->zha n f=true
 | 0,_=>rfl
 | n+1,h=>zip (allN_of fun i hi=>h i (by omega)) (h n (by omega))
theorem goS_leads {s:zar} {x:StD} {i:Int} {picks:List ZI} (h:(goS s x i picks).2=true):leads s x i (goS s x i picks).1=true:=by
 unfold goS at h ⊢
 by_cases h0:i=-1/\stuck s x=true
 ·rw [if_pos h0]
  unfold leads
  rw [if_pos h0.1,h0.2,same_clone];rfl
 ·rw [if_neg h0] at h ⊢
  cases hc:zcs s i with
  | none=>rw [hc] at h;cases h
  | some c =>
   rw [hc] at h
   simp only at h ⊢
   unfold goC at h ⊢
   by_cases h1:zao s x c=true/\zdm s (zdu s x c picks)=true
   ·rw [if_pos h1]
    have hi:i≠-1:=fun e=>by subst e;simp [zcs] at hc
    unfold leads
    rw [if_neg hi,hc]
    show leadsC s x c (zdu s x c picks)=true
    rw [<- leads_eq]
    unfold leadsRC
    have hl:=ze4 (zd8 h1.1)
    rw [h1.1,h1.2,allN_of fun p hp=>?_,allN_of fun v hv=>?_];rfl
    ·unfold vstep;rw [out_val (by omega)]
     cases hf:zb1 c v with
     | true=>rfl
     | false=>rw [<- zfw (picks:=picks) hf];simp
    ·unfold lstep;rw [out_loc h1.1 hp];simp
   ·rw [if_neg h1] at h;cases h
section
variable {w:World} {n:Nat}
theorem rep_raw {t e:TypeId} (hu:Tryz.prog.underlying t=some (.slice e)):zfr w n t rawD (fun _=>True):=fun H enc base spare held fuel cs x hn hx=>by
 rcases DataW.trod_slice hu hx with ⟨rfl,_⟩ | ⟨a,len,cap,elems,rest,m,rfl,rfl,_⟩
 ·exact ⟨.raw _,trivial,DR.raw _ rfl,trivial⟩
 ·exact ⟨.raw _,trivial,DR.raw _ rfl,trivial⟩
theorem rep_ZIl:zfr w n 41 (slD 2 ziD) (fun xs=>xs.length<=maxLen/\∀ x ∈ xs,Lb x.abs) :=
 zcy (k:=2) Tryz.underlying41 (by kernel_rfl) (by decide) (fun _=>rfl) rep_ZI
theorem rep_strs:zfr w n 22 (slD 1 zg4) (fun xs=>xs.length<=maxLen/\∀ x ∈ xs,x.size<=maxLen) :=
 zcy (k:=1) Tryz.underlying22 (by kernel_rfl) (by decide) (fun _=>rfl) (rep_str Tryz.underlying9)
theorem rep_Rel:zfr w n 32 zay.d (fun r=>TLb r.t) :=
 ((zc3 (n:=n) Tryz.underlying32 (by kernel_rfl) (.cons (k0:=3) rfl (by kernel_rfl) rep_Term (.cons (k0:=1) rfl (by kernel_rfl) (zki Tryz.underlying4) .nil))).map (fun p=>⟨p.1,p.2.1⟩) (fun _=>rfl) fun _ h=>h.1).mono (Nat.le_succ n)
theorem zkj:∀ {n:Nat}, zfr w n 35 za0.d za0.lb
 | 0=>zfr.zero
 | n+1=>(zc3 (n:=n) Tryz.underlying35 (by kernel_rfl) (.cons (k0:=1) rfl (by kernel_rfl) (zhu Tryz.underlying3) (.cons (k0:=4) rfl (by kernel_rfl) rep_Rel (.cons (k0:=1) rfl (by kernel_rfl) (zcy (k:=6) Tryz.underlying33 (by kernel_rfl) (by decide) za0.d_len zkj) .nil)))).map (fun p=>⟨p.1,p.2.1,p.2.2.1⟩) (fun _=>(za0.d_eq _).trans rfl) fun _ h=>(za0.lb_eq _).2 ⟨⟨h.2.1,Nat.le_trans h.2.2.1.1 (by decide)⟩,h.2.2.1.2⟩
theorem rep_Bound:zfr w n 106 zaq.d (fun b=>Lb b.lo.abs/\Lb b.hi.abs) :=
 ((zc3 (n:=n) Tryz.underlying106 (by kernel_rfl) (.cons (k0:=1) rfl (by kernel_rfl) (zki Tryz.underlying4) (.cons (k0:=2) rfl (by kernel_rfl) rep_ZI (.cons (k0:=2) rfl (by kernel_rfl) rep_ZI .nil)))).map (fun p=>⟨p.1,p.2.1,p.2.2.1⟩) (fun _=>rfl) fun _ h=>⟨h.2.1,h.2.2.1⟩).mono (Nat.le_succ n)
theorem rep_Move:zfr w n 74 zae.d (fun m=>TLb m.t) :=
 ((zc3 (n:=n) Tryz.underlying74 (by kernel_rfl) (.cons (k0:=1) rfl (by kernel_rfl) (zhu Tryz.underlying3) (.cons (k0:=1) rfl (by kernel_rfl) (zki Tryz.underlying4) (.cons (k0:=3) rfl (by kernel_rfl) rep_Term .nil)))).map (fun p=>⟨p.1,p.2.1,p.2.2.1⟩) (fun _=>rfl) fun _ h=>h.2.2.1).mono (Nat.le_succ n)
theorem rep_Moves:zfr w n 70 (slD 5 zae.d) (fun xs=>xs.length<=maxLen/\∀ x ∈ xs,TLb x.t) :=
 zcy (k:=5) Tryz.underlying70 (by kernel_rfl) (by decide) (fun _=>rfl) rep_Move
theorem rep_Bounds:zfr w n 23 (slD 5 zaq.d) (fun xs=>xs.length<=maxLen/\∀ x ∈ xs,Lb x.lo.abs/\Lb x.hi.abs) :=
 zcy (k:=5) Tryz.underlying23 (by kernel_rfl) (by decide) (fun _=>rfl) rep_Bound
theorem rep_Act:zfr w n 72 zaw.d (fun c=>c.guard.lb/\c.moves.length<=maxLen/\∀ m ∈ c.moves,TLb m.t) :=
 ((zc3 (n:=n) Tryz.underlying72 (by kernel_rfl) (.cons (k0:=1) rfl (by kernel_rfl) (zhu Tryz.underlying3) (.cons (k0:=1) rfl (by kernel_rfl) (zhu Tryz.underlying3) (.cons (k0:=1) rfl (by kernel_rfl) (zhu Tryz.underlying3) (.cons (k0:=6) rfl (by kernel_rfl) zkj (.cons (k0:=1) rfl (by kernel_rfl) rep_Moves .nil)))))).map (fun p=>⟨p.1,p.2.1,p.2.2.1,p.2.2.2.1,p.2.2.2.2.1⟩) (fun _=>by rw [za0.d_eq];rfl) fun _ h=>⟨h.2.2.2.1,h.2.2.2.2.1⟩).mono (Nat.le_succ n)
theorem rep_Proc:zfr w n 59 zc7.d (fun _=>True) :=
 ((zc3 (n:=n) Tryz.underlying59 (by kernel_rfl) (.cons (k0:=1) rfl (by kernel_rfl) (rep_str Tryz.underlying9) (.cons (k0:=1) rfl (by kernel_rfl) rep_strs (.cons (k0:=1) rfl (by kernel_rfl) (rep_raw Tryz.underlying57) .nil)))).map (fun p=>⟨p.1,p.2.1,p.2.2.1⟩) (fun _=>rfl) fun _ _=>trivial).mono (Nat.le_succ n)
theorem rep_Procs:zfr w n 36 (slD 3 zc7.d) (fun xs=>xs.length<=maxLen/\∀ x ∈ xs,True) :=
 zcy (k:=3) Tryz.underlying36 (by kernel_rfl) (by decide) (fun _=>rfl) rep_Proc
theorem rep_Acts:zfr w n 37 (slD 10 zaw.d) (fun xs=>xs.length<=maxLen/\∀ x ∈ xs,x.guard.lb/\x.moves.length<=maxLen/\∀ m ∈ x.moves,TLb m.t) :=
 zcy (k:=10) Tryz.underlying37 (by kernel_rfl) (by decide) (fun _=>rfl) rep_Act
theorem rep_Sys:zfr w n 39 zar.d SysRd :=
 ((zc3 (n:=n) Tryz.underlying39 (by kernel_rfl) (.cons (k0:=1) rfl (by kernel_rfl) rep_strs (.cons (k0:=1) rfl (by kernel_rfl) rep_Bounds (.cons (k0:=6) rfl (by kernel_rfl) zkj (.cons (k0:=1) rfl (by kernel_rfl) rep_Procs (.cons (k0:=1) rfl (by kernel_rfl) rep_Acts .nil)))))).map (fun p=>⟨p.1,p.2.1,p.2.2.1,p.2.2.2.1,p.2.2.2.2.1⟩) (fun _=>by rw [za0.d_eq];rfl) fun _ h=>⟨h.2.2.1,h.2.1.2,fun c hc=>⟨(h.2.2.2.2.1.2 c hc).1,(h.2.2.2.2.1.2 c hc).2.2⟩,⟨Nat.le_trans h.2.1.1 (by decide),Nat.le_trans h.2.2.2.2.1.1 (by decide)⟩,fun c hc=>Nat.le_trans (h.2.2.2.2.1.2 c hc).2.1 (by decide)⟩).mono (Nat.le_succ n)
theorem rep_State:zfr w n 43 StD.d StRd :=
 ((zc3 (n:=n) Tryz.underlying43 (by kernel_rfl) (.cons (k0:=1) rfl (by kernel_rfl) rep_ints (.cons (k0:=1) rfl (by kernel_rfl) rep_ZIl .nil))).map (fun p=>⟨p.1,p.2.1⟩) (fun _=>rfl) fun _ h=>⟨h.2.1.2,Nat.le_trans h.2.1.1 (by decide)⟩).mono (Nat.le_succ n)
end
theorem valT_var (v:Int) (vs:List ZI):zcw (zej v) vs=zdb vs v:=by
 unfold zej
 rw [zcd]
 simp [zcw,oneT,zf2,ZI.val_of]
 rw [show (⟨false,[]⟩:ZI).val=0 from rfl,Int.zero_add]
theorem coefZ_far {ps:List za3} {v:Int} (h:∀ p ∈ ps,p.v≠v):zan ps v=0:=by
 induction ps with
 | nil=>rfl
 | cons p ps ih=>simp only [zan];rw [if_neg (fun e=>h p (by simp) e.1),ih (fun q hq=>h q (by simp [hq]))];rfl
def za0.fl (f:za0):Prop:=f.fold fun k _ _ hs=>(k=0\/k=1\/k=2\/k=4\/k=5)/\∀ h ∈ hs,h
theorem za0.fl_eq (f:za0):f.fl ↔ (f.kind=0\/f.kind=1\/f.kind=2\/f.kind=4\/f.kind=5)/\∀ g ∈ f.kids,g.fl:=by
 have:=za0.fold_eq (fun k _ _ (hs:List Prop)=>(k=0\/k=1\/k=2\/k=4\/k=5)/\∀ h ∈ hs,h) f
 unfold za0.fl
 rw [this]
 refine and_congr_right fun _=>⟨fun h g hg=>h _ (List.mem_map.2 ⟨g,hg,rfl⟩),fun h p hp=>?_⟩
 obtain ⟨g,hg,rfl⟩:=List.mem_map.1 hp
 exact h g hg
theorem fl_tru (b:Bool):(zd3 b).fl:=by rw [za0.fl_eq];exact ⟨by cases b;exact .inr (.inl rfl);exact .inl rfl,fun g hg=>by cases hg⟩
theorem fl_tight (r:zay):(zav r).fl:=by
 unfold zav;split
 ·rw [za0.fl_eq];exact ⟨.inr (.inr (.inl rfl)),fun g hg=>by cases hg⟩
 ·exact fl_tru _
theorem zgl {k:Int} (hk:k=4\/k=5):∀ (fs out:List za0),(∀ g ∈ out,g.fl)->(∀ g ∈ fs,g.fl)->(zbn k fs out).fl
 | [],out,h,_=>by
  unfold zbn
  match out with
  | []=>exact fl_tru _
  | [g]=>exact h g (List.mem_cons_self ..)
  | g :: q :: l=>rw [za0.fl_eq];exact ⟨by rcases hk with hk | hk <;> subst hk;exact .inr (.inr (.inr (.inl rfl)));exact .inr (.inr (.inr (.inr rfl))),h⟩
 | f :: fs,out,h,h2=>by
  rw [zbn]
  have hf:=h2 f (List.mem_cons_self ..)
  have hfs:∀ g ∈ fs,g.fl:=fun g hg=>h2 g (List.mem_cons_of_mem _ hg)
  split
  ·exact hf
  ·split
   ·exact zgl hk fs out h hfs
   ·split
    ·exact zgl hk fs _ (fun g hg=>(List.mem_append.1 hg).elim (h g) fun hg=>((za0.fl_eq _).1 hf).2 g hg) hfs
    ·exact zgl hk fs _ (fun g hg=>(List.mem_append.1 hg).elim (h g) fun hg=>by rw [List.mem_singleton.1 hg];exact hf) hfs
theorem flat_fl (f:za0):∀ d,(f.flat d).fl :=
 za0.ind (P:=fun f=>∀ d,(f.flat d).fl) (fun k r ks ih d=>by
  rw [za0.flat_eq]
  show (zgk k r (ks.map za0.flat) d).fl
  unfold zgk
  split
  ·exact fl_tru _
  ·split
   ·split
    ·refine zgl (.inr rfl) _ [] (fun g hg=>by cases hg) fun g hg=>?_
     obtain ⟨q,hq,rfl⟩:=List.mem_map.1 hg
     exact fl_tight q
    ·exact fl_tight r
   ·split
    ·cases ks with
     | nil=>exact fl_tru _
     | cons g gs=>exact ih g (List.mem_cons_self ..) (!d)
    ·split
     ·rename_i h4
      refine zgl (by cases d <;> simp <;> omega) _ [] (fun g hg=>by cases hg) fun g hg=>?_
      rw [List.map_map] at hg
      obtain ⟨q,hq,rfl⟩:=List.mem_map.1 hg
      exact ih q hq d
     ·exact fl_tru _) f
theorem sizeGo_ge {lim:Int}:∀ (ks:List za0) (n:Int),n<=zd7 lim (ks.map za0.size) n
 | [],n=>Int.le_refl _
 | g :: ks,n=>by
  rw [List.map_cons,zd7]
  split
  ·rename_i h
   have h1:=sizeGo_ge (lim:=lim) ks (n+g.size (lim - n))
   have h2:=(g.size_bd (lim - n) (by omega)).1
   omega
  ·exact Int.le_refl _
theorem size_wid (f:za0):∀ lim:Int,0<=lim->f.size lim<=lim->(f.wid:Int)<=3*f.size lim :=
 za0.ind (P:=fun f=>∀ lim:Int,0<=lim->f.size lim<=lim->(f.wid:Int)<=3*f.size lim) (fun k r ks ih lim hl h=>by
  rw [za0.size_eq] at h ⊢
  rw [za0.wid_eq]
  have key:∀ (xs:List za0),(∀ g ∈ xs,g ∈ ks)->∀ n:Int,zd7 lim (xs.map za0.size) n<=lim->(((xs.map za0.wid).sum:Nat):Int)<=3*(zd7 lim (xs.map za0.size) n - n):=fun xs=>by
   induction xs with
   | nil=>intro _ n _;show (0:Int)<=3*(n - n);omega
   | cons x xs ihx =>
    intro hx n hn
    rw [List.map_cons,zd7] at hn
    rw [List.map_cons,List.map_cons,List.sum_cons,zd7]
    split at hn
    ·rename_i e
     rw [if_pos e]
     have h1:=sizeGo_ge (lim:=lim) xs (n+x.size (lim - n))
     have h2:=ih x (hx x (List.mem_cons_self ..)) (lim - n) (by omega) (by omega)
     have h3:=ihx (fun g hg=>hx g (List.mem_cons_of_mem _ hg)) _ hn
     omega
    ·omega
  have:=key (cnt k ks) (fun g hg=>zbv hg) 1 h
  show (((3+((cnt k ks).map za0.wid).sum:Nat)):Int)<=3*zd7 lim ((cnt k ks).map za0.size) 1
  omega) f
theorem ok_okB {L:Nat} (f:za0):f.ok L->f.lb->f.wid<=1000000->f.okB 20 L :=
 za0.ind (P:=fun f=>f.ok L->f.lb->f.wid<=1000000->f.okB 20 L) (fun k r ks ih h1 h2 h3=>by
  rw [za0.okB_eq]
  have o1:=(za0.ok_eq _ _).1 h1
  have o2:=(za0.lb_eq _).1 h2
  refine ⟨⟨o1.1,o2.1.2,?_⟩,fun g hg=>ih g (zbv hg) (o1.2 g hg) (o2.2 g (zbv hg)) (Nat.le_trans (wid_kid hg) h3)⟩
  rw [za0.wid_eq] at h3
  have:∀ xs:List za0,xs.length<=(xs.map za0.wid).sum:=fun xs=>by
   induction xs with
   | nil=>exact Nat.le_refl _
   | cons x xs ih=>rw [List.map_cons,List.sum_cons,List.length_cons,za0.wid_eq];omega
  have:=this (cnt k ks)
  change 3+((cnt k ks).map za0.wid).sum<=1000000 at h3
  show (cnt k ks).length<=1000000
  omega) f
theorem fewF_okB {f:za0} (h:zit f 20 3=true) (hl:f.lb):f.okB 20 3/\f.wid<=60:=by
 have ho:f.ok 3:=fewF_ok (L:=3) h hl
 unfold zit at h
 rw [Bool.and_eq_true] at h
 have h1:f.size 20<=20:=by have:=h.1;simpa using this
 have hw:=size_wid f 20 (by decide) h1
 have hw:f.wid<=60:=by omega
 exact ⟨ok_okB f ho hl (by omega),hw⟩
theorem mb1_6:za4 Tryz.prog 86:=za4.mk' (by kernel_rfl)
theorem mb1_11:za4 Tryz.prog 70:=za4.mk' (by kernel_rfl)
theorem mb1_12:za4 Tryz.prog 82:=za4.mk' (by kernel_rfl)
def geF (l r:zal):za0:=zdn (leaR (zk3 l r))
def leF (l r:zal):za0:=zdn (leaR (zk3 r l))
def zka (s:zar) (v:Nat) (t:zal):List za0:=if (zbh s v).is_=true then [geF t (zcj (zbh s v).lo),leF t (zcj (zbh s v).hi)] else []
def rngS (s:zar) (v:Nat):List za0:=zka s v (zej (v:Int))
def zdp (s:zar):za0:=zhn ((List.range s.vars.length).flatMap (rngS s))
def zh0 (s:zar) (c:zaw):Bool:=((decide (0<=c.proc/\c.proc<(s.procs.length:Int)) && decide (0<=c.from_/\c.from_<(zcq s c.proc.toNat:Int))) && decide (0<=c.to_/\c.to_<(zcq s c.proc.toNat:Int))) && !(c.moves.any fun m=>!zde s m)
def zaa (s:zar) (i:Int):zaw × Bool:=match zcs s i with | none=>(act0,false) | some c=>(c,zh0 s c)
def mvA (c:zaw) (v:Nat):zae × Bool:=match zj4 c v with | none=>(mv0,false) | some m=>(m,true)
def zbs (c:zaw) (v:Nat):zal × Bool:=match zj4 c v with | none=>(zej (v:Int),true) | some m=>if m.any=true then (⟨[],ze6⟩,false) else (za2 m.t,true)
def zf1 (s:zar) (c:zaw) (v:Nat):List za0:=if (zbs c v).2=true then zka s v (zbs c v).1 else if (zbh s v).is_=true then [leF (zcj (zbh s v).lo) (zcj (zbh s v).hi)] else []
def canL (s:zar) (c:zaw):List za0:=c.guard :: (List.range s.vars.length).flatMap (zf1 s c)
def ziu (s:zar) (c:zaw):za0:=zhn (canL s c)
theorem zc1 {β:Type} (F:Nat->List β) (j:Nat):(List.range (j+1)).flatMap F=(List.range j).flatMap F++F j:=by rw [List.range_succ,List.flatMap_append];simp
theorem zcc {β:Type} (F:Nat->List β) {m:Nat} (h:∀ v,(F v).length<=m) (j:Nat):((List.range j).flatMap F).length<=j*m:=by
 induction j with
 | zero=>simp
 | succ j ih=>rw [zc1,List.length_append,Nat.succ_mul];have:=h j;omega
theorem zfo {β:Type} {F:Nat->List β} {Q:β->Prop} {n:Nat} (h:∀ v,v<n->∀ x ∈ F v,Q x):∀ x ∈ (List.range n).flatMap F,Q x:=fun x hx=>by
 obtain ⟨v,hv,hx⟩:=List.mem_flatMap.1 hx
 exact h v (List.mem_range.1 hv) x hx
theorem zj3 {L:Nat} {k:ZI} (h:ZOk L k):TOk 20 L (zcj k):=(TOk.num (ZI.lb_of _) (Nat.le_trans (zcf h.1) h.2)).mono (Nat.zero_le _) (Nat.le_refl _)
theorem sub_tok {l r:zal} {n m L:Nat} (hl:TOk n L l) (hr:TOk m L r) (hn:n+m<=400):TOk (n+m) (2*(L+3)+2) (zk3 l r) :=
 (addT_ok (hl.mono (Nat.le_refl _) (show L<=L+3 by omega)) ((TOk.mul hr (ZI.lb_of _) (show (ZI.of (-1)).abs.length<=2 from by decide)).plain (by omega)) (by omega)).mono (Nat.le_refl _) (by omega)
theorem at_okB {l r:zal} {n m:Nat} (hl:TOk n 20 l) (hr:TOk m 20 r) (hn:n+m<=400) (e:Bool):(zdn ⟨za2 (zk3 l r),e⟩).okB (n+m) 50 :=
 okB_atom ((((sub_tok hl hr hn).plain (by omega)).plain (by omega)).mono (Nat.le_refl _) (by omega))
theorem zho (v:Int):TOk 1 20 (zej v):=(TOk.plain TOk.one (by decide)).mono (Nat.le_refl _) (by decide)
theorem bnd_num {s:zar} (hs:zb9 3 s) (v:Nat):TOk 20 20 (zcj (zbh s v).lo)/\TOk 20 20 (zcj (zbh s v).hi) :=
 ⟨(zj3 (bnd_ok hs v).1).mono (Nat.le_refl _) (by decide),(zj3 (bnd_ok hs v).2).mono (Nat.le_refl _) (by decide)⟩
theorem bndF_ok {s:zar} (hs:zb9 3 s) (v:Nat) {t:zal} (ht:TOk 20 20 t):∀ g ∈ zka s v t,g.okB 40 50:=fun g hg=>by
 unfold zka at hg
 split at hg
 ·rcases List.mem_cons.1 hg with rfl | hg
  ·exact at_okB (n:=20) (m:=20) ht (bnd_num hs v).1 (by decide) false
  ·rw [List.mem_singleton.1 hg];exact at_okB (n:=20) (m:=20) (bnd_num hs v).2 ht (by decide) false
 ·cases hg
theorem zh7 (s:zar) (v:Nat) (t:zal):(zka s v t).length<=2:=by unfold zka;split <;> simp
theorem rng_ok {s:zar} (hs:zb9 3 s):∀ g ∈ (List.range s.vars.length).flatMap (rngS s),g.okB 40 50:=zfo fun v _=>bndF_ok hs v ((zho _).mono (by decide) (Nat.le_refl _))
theorem zf0 {n L:Nat} (hn:n<=1000) {fs:List za0} (h:∀ g ∈ fs,g.okB n L) (hl:fs.length<=1000000):(zhn fs).okB n (L+1) :=
 zko (by decide) (by rw [List.length_map];exact hl) fun g hg=>by
  obtain ⟨q,hq,rfl⟩:=List.mem_map.1 hg
  exact okB_cl hn q (h q hq)
theorem ziv {c:zaw} (hc:zff 3 c) (v:Nat):TOk 20 20 (zbs c v).1:=by
 unfold zbs
 cases e:zj4 c v with
 | none=>exact (zho _).mono (by decide) (Nat.le_refl _)
 | some m =>
  show TOk 20 20 (if m.any=true then _ else _:zal × Bool).1
  split
  ·exact ⟨Nat.zero_le _,(fun p hp=>by cases hp),zeg,Nat.zero_le _⟩
  ·exact ((hc.mv m (by unfold zj4 at e;exact List.mem_of_find?_eq_some e)).plain (by decide)).mono (Nat.le_refl _) (by decide)
theorem canS_ok {s:zar} (hs:zb9 3 s) {c:zaw} (hc:zff 3 c) (v:Nat):∀ g ∈ zf1 s c v,g.okB 40 50:=fun g hg=>by
 unfold zf1 at hg
 split at hg
 ·exact bndF_ok hs v (ziv hc v) g hg
 ·split at hg
  ·rw [List.mem_singleton.1 hg];exact at_okB (n:=20) (m:=20) (bnd_num hs v).2 (bnd_num hs v).1 (by decide) false
  ·cases hg
theorem canS_len (s:zar) (c:zaw) (v:Nat):(zf1 s c v).length<=2:=by
 unfold zf1;split
 ·exact zh7 _ _ _
 ·split <;> simp
theorem zfz {f:za0} {L:Nat} (hf:f.lb/\f.ok L) (hw:f.wid<=1000000):f.okB 20 L:=ok_okB f hf.2 hf.1 hw
theorem act0_ok:zff 3 act0:=⟨⟨by rw [za0.lb_eq];exact ⟨⟨⟨zeg,fun p hp=>by cases hp⟩,Nat.zero_le _⟩,fun g hg=>by cases hg⟩,by rw [za0.ok_eq];exact ⟨fun e=>absurd e (by decide),fun g hg=>absurd (zbv hg) (by show g ∉ [];exact List.not_mem_nil)⟩⟩,Nat.zero_le _,fun m hm=>by cases hm⟩
theorem zbr {s:zar} (hs:zb9 3 s) (i:Int):zff 3 (zaa s i).1:=by
 unfold zaa
 cases e:zcs s i with
 | none=>exact act0_ok
 | some c =>
  refine hs.act c ?_
  unfold zcs at e
  split at e
  ·exact List.mem_of_getElem? e
  ·cases e
def SysW (s:zar):Prop:=s.init.wid<=100/\∀ c ∈ s.acts,c.guard.wid<=100
theorem zge {s:zar} (hs:SysW s) (i:Int):(zaa s i).1.guard.wid<=100:=by
 unfold zaa
 cases e:zcs s i with
 | none=>show act0.guard.wid<=100;rw [za0.wid_eq];decide
 | some c =>
  refine hs.2 c ?_
  unfold zcs at e
  split at e
  ·exact List.mem_of_getElem? e
  ·cases e
theorem can_ok {s:zar} (hs:zb9 3 s) {c:zaw} (hc:zff 3 c) (hw:c.guard.wid<=100):∀ g ∈ canL s c,g.okB 40 50:=fun g hg=>by
 unfold canL at hg
 rcases List.mem_cons.1 hg with rfl | hg
 ·exact za0.okB_mono (by decide) (by decide) _ (zfz hc.guard (by omega))
 ·exact zfo (fun v _=>canS_ok hs hc v) g hg
theorem bnd_is {s:zar} {v:Nat} {b:zaq} (h:s.bounds[v]?=some b):zbh s v=b:=by unfold zbh;rw [h];rfl
theorem bnd_no {s:zar} {v:Nat} (h:s.bounds.length<=v):(zbh s v).is_=false:=by unfold zbh;rw [List.getElem?_eq_none h];rfl
theorem bndF_at {s:zar} {v:Nat} {b:zaq} {t:zal} (h:s.bounds[v]?=some b) (e:b.is_=true):zka s v t=[geF t (zcj b.lo),leF t (zcj b.hi)]:=by unfold zka;rw [bnd_is h,if_pos e]
theorem bndF_no {s:zar} {v:Nat} {t:zal} (h:(zbh s v).is_=false):zka s v t=[]:=by unfold zka;rw [h];rfl
theorem LCmpLe (l r:zal) (hl:TOk 20 20 l) (hr:TOk 20 20 r):Fn Tryz.prog 86 [] [vI 3,(vT l),(vT r)] (vF (leF l r)) []:=by
 refine Fn.body Tryz.func86 rfl 51 rfl fun w H B a h=>Jq 0 [] [(0,vI 3),(4,vp 0 0),(5,vp 1 0),(6,vp 2 0)] [(0,.box (zT l)),(1,.box (zT r)),(2,.box zF0)] h fun a w h=>?_
 obtain ⟨r1,er1,vr1,or1,lr1⟩:=mkZ (v:=1) (m:=2) (ZI.len_of (by have:=pw2;omega));refine Jd 3 [(0,.call (Fn.cast (SOf 1 ⟨by omega,by omega⟩) (congrArg vz er1.symm)) tm_10),(1,.call (zgt r1 or1 (by omega)) to_7)] [] [(7,vp 3 0)] [(0,.box (zT l)),(1,.box (zT r)),(2,.box zF0),(3,.box (zT (zcj r1)))] h fun a w h=>qW (Je 4 [] [0] [(10,vI 3)] h fun a w h=>qZ (Je 4 [(0,.cmp (op:=.eql) (m:=3) (n:=0) (b:=false) .i64 rfl)] [] [(11,vb false)] h fun a w h=>zax false h rfl nofun (fun _=>Je 4 [(0,.cmp (op:=.eql) (m:=3) (n:=1) (b:=false) .i64 rfl)] [11] [(18,vb false)] h fun a w h=>zax false h rfl nofun (fun _=>Je 4 [(0,.cmp (op:=.eql) (m:=3) (n:=2) (b:=false) .i64 rfl)] [18] [(24,vb false)] h fun a w h=>zax false h rfl nofun (fun _=>Jd 4 [(0,.cmp (op:=.eql) (m:=3) (n:=3) (b:=true) .i64 rfl)] [7,24] [(33,vb true)] [(0,.box (zT l)),(1,.box (zT r)),(2,.box zF0)] h fun a w h=>cS true h (fun _=>?_) nofun)))));refine Jq 4 [(2,.call (STSub r l (hr.mono (by decide) (by decide)) (hl.mono (by decide) (by decide))) to_9),(3,.call (LLeast (zk3 r l) ((sub_tok hr hl (by decide)).mono (by decide) (by decide))) lb_12),(4,.call (LOf (leaR (zk3 r l)) (TOk.mono ((sub_tok hr hl (by decide)).plain (by decide)) (by decide) (by decide))) la_9)] [(6,vp 2 0)] [(2,.box (zF (zdn (leaR (zk3 r l)))))] h fun a w h=>qV (zac (za6 (rA 2 (zF (zdn (leaR (zk3 r l)))) h zct rfl ?_)));rfl
theorem LCmpGe (l r:zal) (hl:TOk 20 20 l) (hr:TOk 20 20 r):Fn Tryz.prog 86 [] [vI 5,(vT l),(vT r)] (vF (geF l r)) []:=by
 refine Fn.body Tryz.func86 rfl 51 rfl fun w H B a h=>Jq 0 [] [(0,vI 5),(4,vp 0 0),(5,vp 1 0),(6,vp 2 0)] [(0,.box (zT l)),(1,.box (zT r)),(2,.box zF0)] h fun a w h=>?_
 obtain ⟨r1,er1,vr1,or1,lr1⟩:=mkZ (v:=1) (m:=2) (ZI.len_of (by have:=pw2;omega));refine Jd 3 [(0,.call (Fn.cast (SOf 1 ⟨by omega,by omega⟩) (congrArg vz er1.symm)) tm_10),(1,.call (zgt r1 or1 (by omega)) to_7)] [] [(7,vp 3 0)] [(0,.box (zT l)),(1,.box (zT r)),(2,.box zF0),(3,.box (zT (zcj r1)))] h fun a w h=>qW (Je 4 [] [0] [(10,vI 5)] h fun a w h=>qZ (Je 4 [(0,.cmp (op:=.eql) (m:=5) (n:=0) (b:=false) .i64 rfl)] [] [(11,vb false)] h fun a w h=>zax false h rfl nofun (fun _=>Je 4 [(0,.cmp (op:=.eql) (m:=5) (n:=1) (b:=false) .i64 rfl)] [11] [(18,vb false)] h fun a w h=>zax false h rfl nofun (fun _=>Je 4 [(0,.cmp (op:=.eql) (m:=5) (n:=2) (b:=false) .i64 rfl)] [18] [(24,vb false)] h fun a w h=>zax false h rfl nofun (fun _=>Jd 4 [(0,.cmp (op:=.eql) (m:=5) (n:=3) (b:=false) .i64 rfl)] [7,24] [(33,vb false)] [(0,.box (zT l)),(1,.box (zT r)),(2,.box zF0)] h fun a w h=>zax false h rfl nofun (fun _=>Je 4 [(0,.cmp (op:=.eql) (m:=5) (n:=4) (b:=false) .i64 rfl)] [33] [(40,vb false)] h fun a w h=>zax false h rfl nofun (fun _=>Je 4 [(0,.cmp (op:=.eql) (m:=5) (n:=5) (b:=true) .i64 rfl)] [10,40] [(45,vb true)] h fun a w h=>cS true h (fun _=>?_) nofun)))))));refine Jq 4 [(2,.call (LCmpLe r l hr hl) mb1_6)] [(6,vp 2 0)] [(2,.box (zF (leF r l)))] h fun a w h=>qV (zac (za6 (rA 2 (zF (leF r l)) h zct rfl ?_)));rfl
theorem Lvariable (v:Nat) :Fn Tryz.prog 70 [] [vN v] (vT (zej (v:Int))) []:=by
 refine Fn.body Tryz.func70 rfl 5 rfl fun w H B a h=>Jq 0 [] [(0,vN v),(2,vp 0 0)] [(0,.box zT0)] h fun a w h=>Jd 1 [(1,.call (SVar (v:Int)) to_0)] [0] [] [(0,.box (zT (zej (v:Int))))] h fun a w h=>qV (rA 0 (zT (zej (v:Int))) h zft rfl ?_)
 rfl
theorem Lbounded (s:zar) (v:Nat) (t:zal) (hs:zb9 3 s) (ht:TOk 20 20 t):Fn Tryz.prog 82 [] [vG (zaj s),vN v,(vT t)] (vFs (zka s v t)) []:=by
 have lbs:=hs.bnds;refine Fn.body Tryz.func82 rfl 38 rfl fun w H B a h=>Jq 0 [] [(1,vN v),(3,vp 0 0),(5,vp 1 0),(6,vW zad)] [(0,.box (zaj s)),(1,.box (zT t))] h fun a w h=>qW ?_
 rcases Bool.eq_false_or_eq_true (decide ((v:Int)>=(s.bounds.length:Int))) with hc1 | hc2
 ·have hc1':=dT hc1;refine Je 2 [(3,.len (za7 5 zaq.d s.bounds)),(4,.cmp (op:=.geq) (m:=(v:Int)) (n:=(s.bounds.length:Int)) (b:=true) .i64 hc1)] [] [(21,vb true)] h fun a w h=>cS true h (fun _=>?_) nofun
  refine Je 2 [] [21] [] h fun a w h=>qV (za6 ?_);replace h:=nilDSs 6 0 6 (vW zad) [(1,vN v),(3,vp 0 0),(5,vp 1 0),(6,(vFs []))] [(0,.box (zaj s)),(1,.box (zT t))] h rfl rfl;refine rT (.c (cFs [])) h rfl ?_;have hz:zka s v t=[]:=bndF_no (bnd_no (by omega));rw [hz];try rfl
 have hc2':=dF hc2;obtain ⟨x1,hx1⟩:=gl s.bounds v;refine Je 2 [(3,.len (za7 5 zaq.d s.bounds)),(4,.cmp (op:=.geq) (m:=(v:Int)) (n:=(s.bounds.length:Int)) (b:=false) .i64 hc2),(9,.g (xD 17 15 kf_0 (zab hx1 (f:=zaq.d)) (OV.tmp 16 _)))] [] [(21,vb (!x1.is_))] h fun a w h=>cS (!x1.is_) h (fun hc3=>?_) (fun hc4=>?_)
 ·have hc3':=hc3;(try simp at hc3');refine Je 2 [] [21] [] h fun a w h=>qV (za6 ?_);replace h:=nilDSs 6 0 6 (vW zad) [(1,vN v),(3,vp 0 0),(5,vp 1 0),(6,(vFs []))] [(0,.box (zaj s)),(1,.box (zT t))] h rfl rfl;refine rT (.c (cFs [])) h rfl ?_;have hz:zka s v t=[]:=bndF_no (by rw [bnd_is hx1];exact (show (x1.is_)=false from by simpa using hc3));rw [hz];try rfl
 have hc4':=hc4;(try simp at hc4');refine qU (za1 (Jd 2 [(3,.g (xD 25 23 kf_0 (zab hx1 (f:=zaq.d)) (OV.tmp 24 _)))] [1,3,21] [(7,vp 2 0)] [(1,.box (zT t)),(2,.box ([cB x1.is_]++zi x1.lo++zi x1.hi))] h fun a w h=>Jq 3 [(3,.call (zgt x1.lo (hs.bnd x1 (lM hx1)).1.1 (by have:=(hs.bnd x1 (lM hx1)).1.2;omega)) to_7),(4,.call (LCmpGe t (zcj x1.lo) ht ((zj3 (hs.bnd x1 (lM hx1)).1).mono (Nat.le_refl _) (by decide))) mb1_6),(8,.call (zgt x1.hi (hs.bnd x1 (lM hx1)).2.1 (by have:=(hs.bnd x1 (lM hx1)).2.2;omega)) to_7),(9,.call (LCmpLe t (zcj x1.hi) ht ((zj3 (hs.bnd x1 (lM hx1)).2).mono (Nat.le_refl _) (by decide))) mb1_6),(10,.g (Op.buildD (d:=37) (len:=2) (rows:=[(geF t (zcj x1.lo)),(leF t (zcj x1.hi))].map za0.d) (rs:=[(31,(vF (geF t (zcj x1.lo)))),(36,(vF (leF t (zcj x1.hi))))]) zkt (.cons (i:=0) (OV.tmp 31 _) (.cons (i:=1) (OV.tmp 36 _) (.nil))) (by simp only [List.map_cons,List.map_nil,List.flatten_cons,List.flatten_nil,List.append_nil,za0.d_eq];kernel_rfl) rfl (by simp [za0.d_len]) (by decide) (by decide)))] [(6,(vFs [(geF t (zcj x1.lo)),(leF t (zcj x1.hi))]))] [] h fun a w h=>qV (rT (.c (cFs [(geF t (zcj x1.lo)),(leF t (zcj x1.hi))])) h rfl ?_)));have hz:zka s v t=[(geF t (zcj x1.lo)),(leF t (zcj x1.hi))]:=bndF_at hx1 (by have:=(show (x1.is_)=true from by simpa using hc4);simpa using this);rw [hz];try rfl
theorem Lranges (s:zar) (hs:zb9 3 s):Fn Tryz.prog 52 [] [.t (.agg (zaj s))] (.t (.agg ([.d (.raw (.int .i64 (zdp s).kind)),.d (.sl 3 ((zdp s).r.t.parts.map za3.d))]++zi (zdp s).r.t.k++[.d (.raw (.bool (zdp s).r.eq)),.d (.sl 6 ((zdp s).kids.map za0.d))]))) []:=by
 have lvs:=hs.vars;have lrn:=zcc (rngS s) (fun v=>zh7 s v (zej (v:Int))) s.vars.length;refine Fn.body Tryz.func52 rfl 21 rfl fun w H B a h=>Jq 5 [] [(1,vp 5 0),(2,vp 6 0)] [(5,.box (zaj s)),(6,.box zF0)] h fun a w h=>Je 7 [] [] [(3,.t (.c (.d (.raw zad))))] h fun a w h=>qW (Je 7 [(2,.len (za7 1 zg4 s.vars))] [] [(7,vN s.vars.length),(8,vI 0)] h fun a w h=>qZ ?_)
 replace h:=zfk 3 0 7 6 35 (.t (.c (.d (.raw zad)))) [(1,vp 5 0),(2,vp 6 0),(3,.t (.c (.own 7 0))),(7,vN s.vars.length),(8,vI 0)] [(5,.box (zaj s)),(6,.box zF0),(7,.row 35 6 ([].map za0.d))] h (by kernel_rfl) rfl rfl
 refine zap (ι:=(Nat)) (fun j=>j<=s.vars.length)
   (fun j=>[(1,vp 5 0),(2,vp 6 0),(3,.t (.c (.own 7 ((List.range j).flatMap (rngS s)).length))),(7,vN s.vars.length),(8,vN j)])
   (fun j=>[(5,.box (zaj s)),(6,.box zF0),(7,.row 35 6 (((List.range j).flatMap (rngS s)).map za0.d))])
   (fun j=>s.vars.length - j) 0 ?_ h (by kernel_rfl) (by kernel_rfl) ?_
 ·exact Nat.zero_le _
 clear h;rintro j a w hI h;have lrj:=zcc (rngS s) (fun v=>zh7 s v (zej (v:Int))) j;have lbj:=zh7 s j (zej (j:Int));refine Je 8 [] [] [(9,vb (decide ((j:Int)<(s.vars.length:Int))))] h fun a w h=>qW (zam ((j:Int)<(s.vars.length:Int)) h (fun hc1 hc1'=>?_) (fun hc2 hc2'=>?_))
 ·refine qU (za1 (qW (qZ (Je 8 [] [9] [(4,vN j)] h fun a w h=>Jm 8 [(4,.call (Lvariable j) mb1_11),(5,.call (Lbounded s j (zej (j:Int)) hs ((zho _).mono (by decide) (Nat.le_refl _))) mb1_12),(6,.g (aD 17 11 16 7 8 ((List.range j).flatMap (rngS s)) (zka s j (zej (j:Int))) za0.d la_7 (by simp [za0.d_len])))] [4] [(3,.t (.c (.own 8 (((List.range j).flatMap (rngS s))++(zka s j (zej (j:Int)))).length)))] [(5,.box (zaj s)),(6,.box zF0),(8,.row 35 6 ((((List.range j).flatMap (rngS s))++(zka s j (zej (j:Int)))).map za0.d))] h fun a w h=>za8 (za1 (Jf 9 [(0,.j1 j)] [] [(8,vI ((j:Int)+1))] h fun a w h=>za1 ?_))))));rw [show ((((List.range j).flatMap (rngS s))++(zka s j (zej (j:Int)))):List za0)=((List.range (j+1)).flatMap (rngS s)) from (zc1 (rngS s) j).symm] at h;replace h:=ze3 8 7 [(1,vp 5 0),(2,vp 6 0),(3,.t (.c (.own 7 ((List.range (j+1)).flatMap (rngS s)).length))),(7,vN s.vars.length),(8,vI ((j:Int)+1))] [(5,.box (zaj s)),(6,.box zF0),(7,.row 35 6 (((List.range (j+1)).flatMap (rngS s)).map za0.d))] h;refine zag (x:=j) (y:=j+1) h ?_ ?_
  ·have:=dT hc1;show j+1<=s.vars.length;omega
  show s.vars.length - (j+1)<s.vars.length - j;have:=dT hc1;omega
 refine wp_exit (za9 (za9 (za5 (za1 ?_))));replace h:=cv (fun z_:List za0=>F.of [(1,vp 5 0),(2,vp 6 0),(3,.t (.c (.own 7 z_.length))),(7,vN s.vars.length),(8,vN j),(9,vb (decide ((j:Int)<(s.vars.length:Int))))] [(5,.box (zaj s)),(6,.box zF0),(7,.row 35 6 (z_.map za0.d))]) (show (((List.range j).flatMap (rngS s)):List za0)=((List.range s.vars.length).flatMap (rngS s)) from (by rw [show j=s.vars.length by have:=dF hc2;omega])) h;replace h:=zi0 7 6 35 (((List.range s.vars.length).flatMap (rngS s)).map za0.d) [(1,vp 5 0),(2,vp 6 0),(3,.t (.c (.d (.sl 6 (((List.range s.vars.length).flatMap (rngS s)).map za0.d))))),(7,vN s.vars.length),(8,vN j),(9,vb (decide ((j:Int)<(s.vars.length:Int))))] [(5,.box (zaj s)),(6,.box zF0)] h rfl (show zbw _ [((List.range s.vars.length).flatMap (rngS s)).length] from ⟨by first | exact (List.length_map _).symm | (simp;done) | (simp;omega),trivial⟩) trivial;refine Jq 9 [(1,.call (LAll ((List.range s.vars.length).flatMap (rngS s)) (fun g hg=>za0.okB_mono (by decide) (by decide) _ (rng_ok hs g hg)) (by omega)) zju)] [(2,vp 6 0)] [(6,.box ([.d (.raw (.int .i64 (zdp s).kind)),.d (.sl 3 ((zdp s).r.t.parts.map za3.d))]++zi (zdp s).r.t.k++[.d (.raw (.bool (zdp s).r.eq)),.d (.sl 6 ((zdp s).kids.map za0.d))]))] h fun a w h=>qV (rA 6 ([.d (.raw (.int .i64 (zdp s).kind)),.d (.sl 3 ((zdp s).r.t.parts.map za3.d))]++zi (zdp s).r.t.k++[.d (.raw (.bool (zdp s).r.eq)),.d (.sl 6 ((zdp s).kids.map za0.d))]) h zct rfl ?_);rfl
theorem mc2_1:za4 Tryz.prog 85:=za4.mk' (by kernel_rfl)
theorem mc2_7:za4 Tryz.prog 83:=za4.mk' (by kernel_rfl)
theorem mc2_8:za4 Tryz.prog 101:=za4.mk' (by kernel_rfl)
theorem mc2_10:za4 Tryz.prog 69:=za4.mk' (by kernel_rfl)
theorem mc2_15:za4 Tryz.prog 43:=za4.mk' (by kernel_rfl)
theorem Lsound1 (x l:Int) :Fn Tryz.prog 83 [(3,.box [cI l])] [vI x,vp 3 0] (vb (decide (0<=x/\x<l))) [(3,.box [cI l])]:=by
 refine Fn.body Tryz.func83 rfl 11 rfl fun w H B a h=>Jq 6 [] [(0,vI x),(1,vp 3 0),(3,vb false)] [(3,.box [cI l])] h fun a w h=>?_
 rcases Bool.eq_false_or_eq_true (decide (x>=0)) with hc1 | hc2
 ·have hc1':=dT hc1;refine Jp 6 [(1,.cmp (op:=.geq) (m:=x) (n:=0) (b:=true) .i64 hc1)] [(3,vb (decide (x<l)))] h fun a w h=>qV (rT (.c (cB (decide (x<l)))) h rfl ?_);have hz:decide (0<=x/\x<l)=(decide (x<l)):=by have h0:=dT hc1;exact decide_eq_decide.2 ⟨fun e=>e.2,fun e=>⟨h0,e⟩⟩
  rw [hz];try rfl
 have hc2':=dF hc2;refine Jp 6 [(1,.cmp (op:=.geq) (m:=x) (n:=0) (b:=false) .i64 hc2)] [(3,vb false)] h fun a w h=>qV (rT (.c (cB false)) h rfl ?_);have hz:decide (0<=x/\x<l)=(false):=by exact decide_eq_false (fun e=>dF hc2 e.1)
 rw [hz];try rfl
theorem Lsound2 (s:zar) (m:zae) :Fn Tryz.prog 85 [(0,.box (zaj s))] [vG ([cI m.v,cB m.any,cPs m.t.parts]++zi m.t.k),vp 0 0] (vb (!zde s m)) [(0,.box (zaj s))]:=by
 refine Fn.body Tryz.func85 rfl 15 rfl fun w H B a h=>Jq 6 [] [(1,vp 0 0),(2,vp 6 0),(3,vb false)] [(0,.box (zaj s)),(6,.box ([cI m.v,cB m.any,cPs m.t.parts]++zi m.t.k))] h fun a w h=>?_
 rcases Bool.eq_false_or_eq_true (decide (m.v<0)) with hc1 | hc2
 ·have hc1':=dT hc1;refine Jq 7 [(2,.cmp (op:=.lss) (m:=m.v) (n:=0) (b:=true) .i64 hc1)] [(3,vb true)] [(0,.box (zaj s))] h fun a w h=>qV (rT (.c (cB true)) h rfl ?_);have hz:(!zde s m)=(true):=(there_lo hc1);rw [hz];try rfl
 have hc2':=dF hc2;refine Jq 7 [(2,.cmp (op:=.lss) (m:=m.v) (n:=0) (b:=false) .i64 hc2),(8,.len (za7 1 zg4 s.vars))] [(3,vb (decide (m.v>=(s.vars.length:Int))))] [(0,.box (zaj s))] h fun a w h=>qV (rT (.c (cB (decide (m.v>=(s.vars.length:Int))))) h rfl ?_);have hz:(!zde s m)=(decide (m.v>=(s.vars.length:Int))):=(by have:=dF hc2;unfold zde;rw [decide_eq_true (p:=m.v>=0) (by omega),Bool.true_and,<- decide_not];exact decide_eq_decide.2 (by omega));rw [hz];try rfl
theorem SIdxWS (pr:zae->Bool) (xs:List zae) (s:zar) (hf:∀ x ∈ xs,Fn Tryz.prog 85 [(0,.box (zaj s))] [vG ([cI x.v,cB x.any,cPs x.t.parts]++zi x.t.k),vp 0 0] (vb (pr x)) [(0,.box (zaj s))]) (hl:xs.length<=9223372036854775807):Fn Tryz.prog 100 [(0,.box (zaj s))] [vS 5 (xs.map zae.d),.t (.c (.fn (.func 85) [] [.ptr 0 0]))] (vI (zdx pr xs 0)) [(0,.box (zaj s))]:=by
 refine Fn.body Tryz.func100 rfl 19 rfl fun w H B a h=>Jq 5 [] [(0,vS 5 (xs.map zae.d)),(1,.t (.c (.fn (.func 85) [] [.ptr 0 0]))),(4,vI 0)] [(0,.box (zaj s))] h fun a w h=>qW (Je 5 [(1,.len (za7 5 zae.d xs))] [] [(7,vN xs.length),(8,vI 0)] h fun a w h=>qZ ?_)
 refine zap (ι:=(Nat)) (fun j=>j<=xs.length/\zdx pr xs 0=zdx pr (xs.drop j) j)
   (fun j=>[(0,vS 5 (xs.map zae.d)),(1,.t (.c (.fn (.func 85) [] [.ptr 0 0]))),(7,vN xs.length),(8,vN j)])
   (fun j=>[(0,.box (zaj s))])
   (fun j=>xs.length - j) 0 ?_ h (by kernel_rfl) (by kernel_rfl) ?_
 ·exact ⟨Nat.zero_le _,rfl⟩
 clear h;rintro j a w hI h;obtain ⟨hI1,hI2⟩:=hI;refine Je 5 [] [] [(9,vb (decide ((j:Int)<(xs.length:Int))))] h fun a w h=>qW (zam ((j:Int)<(xs.length:Int)) h (fun hc1 hc1'=>?_) (fun hc4 hc4'=>?_))
 ·refine qU (za1 (qW (qZ (Je 5 [] [9] [(5,vN j)] h fun a w h=>?_))));obtain ⟨x1,hx1⟩:=gl xs j;refine Je 5 [(3,.g (xD 14 12 ki_2 (zab hx1 (f:=zae.d)) (OV.tmp 13 _))),(5,.g (Op.callV (d:=16) (t:=11) (cap:=[.ptr 0 0]) (args:=[vG ([cI x1.v,cB x1.any,cPs x1.t.parts]++zi x1.t.k)]) (rs:=[(15,vG ([cI x1.v,cB x1.any,cPs x1.t.parts]++zi x1.t.k))]) (tys:=#[74]) (hf x1 (lM hx1)) mc2_1 (OVs.cons (OV.tmp 15 _) (OVs.nil))))] [] [(16,vb (pr x1))] h fun a w h=>cS (pr x1) h (fun hc2=>?_) (fun hc3=>?_)
  ·refine Je 5 [] [5,16] [(4,vN j)] h fun a w h=>qV (zac (za6 (za6 (zac (za6 (rT (.c (cI (j:Int))) h rfl ?_))))));have hz:zdx pr xs 0=(j:Int):=by rw [hI2,zgj hx1,if_pos hc2]
   rw [hz];try rfl
  refine qU (za8 (za1 (Jf 5 [(0,.j1 j)] [5,16] [(8,vI ((j:Int)+1))] h fun a w h=>za1 (zag (x:=j) (y:=j+1) h ?_ ?_))))
  ·exact ⟨by have:=zak hx1;omega,by rw [hI2,zgj hx1,if_neg (by rw [hc3];exact Bool.noConfusion)]⟩
  (try simp);omega
 refine wp_exit (za9 (za9 (za5 (za1 (Jp 5 [] [(4,vI (-1))] h fun a w h=>qV (rT (.c (cI (-1))) h rfl ?_))))));have hz:zdx pr xs 0=-1:=by rw [hI2,List.drop_of_length_le (by omega)];rfl
 rw [hz];try rfl
theorem SAnyWS (pr:zae->Bool) (xs:List zae) (s:zar) (hf:∀ x ∈ xs,Fn Tryz.prog 85 [(0,.box (zaj s))] [vG ([cI x.v,cB x.any,cPs x.t.parts]++zi x.t.k),vp 0 0] (vb (pr x)) [(0,.box (zaj s))]) (hl:xs.length<=9223372036854775807):Fn Tryz.prog 84 [(0,.box (zaj s))] [vS 5 (xs.map zae.d),.t (.c (.fn (.func 85) [] [.ptr 0 0]))] (vb (xs.any pr)) [(0,.box (zaj s))]:=by
 refine Fn.body Tryz.func84 rfl 9 rfl fun w H B a h=>Jq 5 [] [(0,vS 5 (xs.map zae.d)),(1,.t (.c (.fn (.func 85) [] [.ptr 0 0]))),(4,vb false)] [(0,.box (zaj s))] h fun a w h=>Jp 5 [(2,.call (SIdxWS pr xs s hf  hl) ki_4)] [(4,vb (decide (zdx pr xs 0>=0)))] h fun a w h=>qV (rT (.c (cB (decide (zdx pr xs 0>=0)))) h rfl ?_)
 rw [<- idxB_any];try rfl
theorem LsoundN (s:zar) (i:Int) (hi:zcs s i=none):Fn Tryz.prog 53 [] [vG (zaj s),vI i] (.tup [.agg ([cI act0.proc,cI act0.from_,cI act0.to_,cI act0.guard.kind,cPs act0.guard.r.t.parts]++zi act0.guard.r.t.k++[cB act0.guard.r.eq,cFs act0.guard.kids,.d (.sl 5 (act0.moves.map zae.d))]),.c (cB false)]) []:=by
 refine Fn.body Tryz.func53 rfl 65 rfl fun w H B a h=>Jq 0 [] [(1,vI i),(2,vp 0 0),(4,vp 1 0),(5,vb false)] [(0,.box (zaj s)),(1,.box [cI 0,cI 0,cI 0,cI 0,.d (.raw zad),cB false,.d (nsl []),cB false,.d (.raw zad),.d (.raw zad)])] h fun a w h=>qW ?_
 rcases Bool.eq_false_or_eq_true (decide (i<0)) with hc1 | hc2
 ·have hc1':=dT hc1;refine Je 2 [(1,.cmp (op:=.lss) (m:=i) (n:=0) (b:=true) .i64 hc1)] [] [(18,vb true)] h fun a w h=>cS true h (fun _=>?_) nofun
  refine Je 2 [] [18] [] h fun a w h=>qV (za6 ?_);replace h:=zbd 1 4 3 [cI 0,cI 0,cI 0,cI 0,.d (.raw zad),cB false,.d (nsl []),cB false,.d (.raw zad),.d (.raw zad)] [(1,vI i),(2,vp 0 0),(4,vp 1 0),(5,vb false)] [(0,.box (zaj s)),(1,.box [cI 0,cI 0,cI 0,cI 0,cPs [],cB false,.d (nsl []),cB false,.d (.raw zad),.d (.raw zad)])] h rfl rfl;replace h:=zbd 1 8 6 [cI 0,cI 0,cI 0,cI 0,cPs [],cB false,.d (nsl []),cB false,.d (.raw zad),.d (.raw zad)] [(1,vI i),(2,vp 0 0),(4,vp 1 0),(5,vb false)] [(0,.box (zaj s)),(1,.box [cI 0,cI 0,cI 0,cI 0,cPs [],cB false,.d (nsl []),cB false,cFs [],.d (.raw zad)])] h rfl rfl;replace h:=zbd 1 9 5 [cI 0,cI 0,cI 0,cI 0,cPs [],cB false,.d (nsl []),cB false,cFs [],.d (.raw zad)] [(1,vI i),(2,vp 0 0),(4,vp 1 0),(5,vb false)] [(0,.box (zaj s)),(1,.box [cI 0,cI 0,cI 0,cI 0,cPs [],cB false,.d (nsl []),cB false,cFs [],.d (.sl 5 ([].map zae.d))])] h rfl rfl;refine zea [.agg [cI 0,cI 0,cI 0,cI 0,cPs [],cB false,.d (nsl []),cB false,cFs [],.d (.sl 5 ([].map zae.d))],.c (cB false)] h Exit.ret (.inl rfl)  rfl ⟨RV.agg _ 1 0 _ _ _ _ ki_0 rfl rfl rfl rfl,RV.tmp _ _ rfl,trivial⟩ ?_;rfl
 have hc2':=dF hc2;refine Je 2 [(1,.cmp (op:=.lss) (m:=i) (n:=0) (b:=false) .i64 hc2),(6,.len (za7 10 zaw.d s.acts)),(7,.cmp (op:=.geq) (m:=i) (n:=(s.acts.length:Int)) (b:=true) .i64 (decide_eq_true (by have:=zjm hi;have:=dF hc2;omega)))] [] [(18,vb true)] h fun a w h=>cS true h (fun _=>?_) nofun
 refine Je 2 [] [18] [] h fun a w h=>qV (za6 ?_);replace h:=zbd 1 4 3 [cI 0,cI 0,cI 0,cI 0,.d (.raw zad),cB false,.d (nsl []),cB false,.d (.raw zad),.d (.raw zad)] [(1,vI i),(2,vp 0 0),(4,vp 1 0),(5,vb false)] [(0,.box (zaj s)),(1,.box [cI 0,cI 0,cI 0,cI 0,cPs [],cB false,.d (nsl []),cB false,.d (.raw zad),.d (.raw zad)])] h rfl rfl;replace h:=zbd 1 8 6 [cI 0,cI 0,cI 0,cI 0,cPs [],cB false,.d (nsl []),cB false,.d (.raw zad),.d (.raw zad)] [(1,vI i),(2,vp 0 0),(4,vp 1 0),(5,vb false)] [(0,.box (zaj s)),(1,.box [cI 0,cI 0,cI 0,cI 0,cPs [],cB false,.d (nsl []),cB false,cFs [],.d (.raw zad)])] h rfl rfl;replace h:=zbd 1 9 5 [cI 0,cI 0,cI 0,cI 0,cPs [],cB false,.d (nsl []),cB false,cFs [],.d (.raw zad)] [(1,vI i),(2,vp 0 0),(4,vp 1 0),(5,vb false)] [(0,.box (zaj s)),(1,.box [cI 0,cI 0,cI 0,cI 0,cPs [],cB false,.d (nsl []),cB false,cFs [],.d (.sl 5 ([].map zae.d))])] h rfl rfl;refine zea [.agg [cI 0,cI 0,cI 0,cI 0,cPs [],cB false,.d (nsl []),cB false,cFs [],.d (.sl 5 ([].map zae.d))],.c (cB false)] h Exit.ret (.inl rfl)  rfl ⟨RV.agg _ 1 0 _ _ _ _ ki_0 rfl rfl rfl rfl,RV.tmp _ _ rfl,trivial⟩ ?_;rfl
theorem LsoundS (s:zar) (ki:Nat) (c:zaw) (hc:zff 3 c) (_hps:s.procs.length<=6) (hka:s.acts[ki]?=some c):Fn Tryz.prog 53 [] [vG (zaj s),vN ki] (.tup [.agg ([cI c.proc,cI c.from_,cI c.to_,cI c.guard.kind,cPs c.guard.r.t.parts]++zi c.guard.r.t.k++[cB c.guard.r.eq,cFs c.guard.kids,.d (.sl 5 (c.moves.map zae.d))]),.c (cB (zh0 s c))]) []:=by
 have lki:=zak hka;refine Fn.body Tryz.func53 rfl 65 rfl fun w H B a h=>Jq 0 [] [(1,vN ki),(2,vp 0 0),(4,vp 1 0),(5,vb false)] [(0,.box (zaj s)),(1,.box [cI 0,cI 0,cI 0,cI 0,.d (.raw zad),cB false,.d (nsl []),cB false,.d (.raw zad),.d (.raw zad)])] h fun a w h=>qW (Je 2 [(1,.cmp (op:=.lss) (m:=(ki:Int)) (n:=0) (b:=false) .i64 (show (decide ((ki:Int)<0))=false from decide_eq_false (by omega))),(6,.len (za7 10 zaw.d s.acts)),(7,.cmp (op:=.geq) (m:=(ki:Int)) (n:=(s.acts.length:Int)) (b:=false) .i64 (show (decide ((ki:Int)>=(s.acts.length:Int)))=false from decide_eq_false (by omega)))] [] [(18,vb false)] h fun a w h=>zax false h rfl nofun (fun _=>qU (za1 (Jd 2 [(3,.g (xD 23 21 ki_1 (zab hka (f:=zaw.d)) (OV.tmp 22 _)))] [1,18] [(6,vp 2 0)] [(0,.box (zaj s)),(1,.box [cI 0,cI 0,cI 0,cI 0,.d (.raw zad),cB false,.d (nsl []),cB false,.d (.raw zad),.d (.raw zad)]),(2,.box ([cI c.proc,cI c.from_,cI c.to_,cI c.guard.kind,cPs c.guard.r.t.parts]++zi c.guard.r.t.k++[cB c.guard.r.eq,cFs c.guard.kids,.d (.sl 5 (c.moves.map zae.d))]))] h fun a w h=>qW ?_))))
 rcases Bool.eq_false_or_eq_true (decide (c.proc<0)) with hc1 | hc2
 ·have hc1':=dT hc1;refine Je 3 [(2,.cmp (op:=.lss) (m:=c.proc) (n:=0) (b:=true) .i64 hc1)] [] [(35,vb true)] h fun a w h=>cS true h (fun _=>?_) nofun
  refine Jd 3 [] [35] [] [(0,.box (zaj s)),(1,.box ([cI c.proc,cI c.from_,cI c.to_,cI c.guard.kind,cPs c.guard.r.t.parts]++zi c.guard.r.t.k++[cB c.guard.r.eq,cFs c.guard.kids,.d (.sl 5 (c.moves.map zae.d))])),(2,.box ([cI c.proc,cI c.from_,cI c.to_,cI c.guard.kind,cPs c.guard.r.t.parts]++zi c.guard.r.t.k++[cB c.guard.r.eq,cFs c.guard.kids,.d (.sl 5 (c.moves.map zae.d))]))] h fun a w h=>qV (za6 (zea [.agg ([cI c.proc,cI c.from_,cI c.to_,cI c.guard.kind,cPs c.guard.r.t.parts]++zi c.guard.r.t.k++[cB c.guard.r.eq,cFs c.guard.kids,.d (.sl 5 (c.moves.map zae.d))]),.c (cB false)] h Exit.ret (.inl rfl)  rfl ⟨RV.agg _ 1 0 _ _ _ _ ki_0 rfl rfl rfl rfl,RV.tmp _ _ rfl,trivial⟩ ?_));have hz:zh0 s c=(false):=by unfold zh0;rw [decide_eq_false (p:=0<=c.proc/\c.proc<(s.procs.length:Int)) (by have:=dT hc1;omega)];rfl
  rw [hz];try rfl
 have hc2':=dF hc2;refine Je 3 [(2,.cmp (op:=.lss) (m:=c.proc) (n:=0) (b:=false) .i64 hc2),(8,.len (za7 3 zc7.d s.procs))] [] [(35,vb (decide (c.proc>=(s.procs.length:Int))))] h fun a w h=>zam (c.proc>=(s.procs.length:Int)) h (fun hc3 hc3'=>?_) (fun hc4 hc4'=>?_)
 ·refine Jd 3 [] [35] [] [(0,.box (zaj s)),(1,.box ([cI c.proc,cI c.from_,cI c.to_,cI c.guard.kind,cPs c.guard.r.t.parts]++zi c.guard.r.t.k++[cB c.guard.r.eq,cFs c.guard.kids,.d (.sl 5 (c.moves.map zae.d))])),(2,.box ([cI c.proc,cI c.from_,cI c.to_,cI c.guard.kind,cPs c.guard.r.t.parts]++zi c.guard.r.t.k++[cB c.guard.r.eq,cFs c.guard.kids,.d (.sl 5 (c.moves.map zae.d))]))] h fun a w h=>qV (za6 (zea [.agg ([cI c.proc,cI c.from_,cI c.to_,cI c.guard.kind,cPs c.guard.r.t.parts]++zi c.guard.r.t.k++[cB c.guard.r.eq,cFs c.guard.kids,.d (.sl 5 (c.moves.map zae.d))]),.c (cB false)] h Exit.ret (.inl rfl)  rfl ⟨RV.agg _ 1 0 _ _ _ _ ki_0 rfl rfl rfl rfl,RV.tmp _ _ rfl,trivial⟩ ?_));have hz:zh0 s c=(false):=by unfold zh0;rw [decide_eq_false (p:=0<=c.proc/\c.proc<(s.procs.length:Int)) (by have:=dT hc3;omega)];rfl
  rw [hz];try rfl
 refine qU (za1 ?_);obtain ⟨k,hkk⟩:∃ k_:Nat,c.proc=(k_:Int):=⟨_,(Int.toNat_of_nonneg (by have:=dF hc2;omega)).symm⟩;replace h:=h.conv (f':=F.of [(2,vp 0 0),(4,vp 1 0),(5,vb false),(6,vp 2 0),(35,vb (decide (c.proc>=(s.procs.length:Int))))] [(0,.box (zaj s)),(1,.box [cI 0,cI 0,cI 0,cI 0,.d (.raw zad),cB false,.d (nsl []),cB false,.d (.raw zad),.d (.raw zad)]),(2,.box ([cI (k:Int),cI c.from_,cI c.to_,cI c.guard.kind,cPs c.guard.r.t.parts]++zi c.guard.r.t.k++[cB c.guard.r.eq,cFs c.guard.kids,.d (.sl 5 (c.moves.map zae.d))]))]) (by rw [hkk];kernel_rfl);obtain ⟨x1,hx1⟩:=gl s.procs k;refine Jq 3 [(4,.g (xD 41 38 kf_5 (zab hx1 (f:=zc7.d)) (OV.tmp 40 _))),(7,.len (za7 1 zg4 x1.locs))] [(2,vp 0 0),(4,vp 1 0),(5,vb false),(6,vp 2 0),(7,vp 3 0)] [(0,.box (zaj s)),(1,.box [cI 0,cI 0,cI 0,cI 0,.d (.raw zad),cB false,.d (nsl []),cB false,.d (.raw zad),.d (.raw zad)]),(2,.box ([cI (k:Int),cI c.from_,cI c.to_,cI c.guard.kind,cPs c.guard.r.t.parts]++zi c.guard.r.t.k++[cB c.guard.r.eq,cFs c.guard.kids,.d (.sl 5 (c.moves.map zae.d))])),(3,.box [cI (x1.locs.length:Int)])] h fun a w h=>Je 4 [(0,.g (Op.makeFs (d:=45) (fn:=.func 83) [(7,3,0)]))] [7] [(8,.t (.c (.fn (.func 83) [] [.ptr 3 0])))] h fun a w h=>Jd 4 [(2,.g (Op.makeFs (d:=48) (fn:=.func 85) [(2,0,0)])),(3,.call (SAnyWS (fun m=>!zde s m) c.moves s (fun m _=>Lsound2 s m) (by have:=hc.len;omega)) kj_7)] [2] [(9,vb (c.moves.any fun m=>!zde s m))] [(1,.box [cI 0,cI 0,cI 0,cI 0,.d (.raw zad),cB false,.d (nsl []),cB false,.d (.raw zad),.d (.raw zad)]),(2,.box ([cI (k:Int),cI c.from_,cI c.to_,cI c.guard.kind,cPs c.guard.r.t.parts]++zi c.guard.r.t.k++[cB c.guard.r.eq,cFs c.guard.kids,.d (.sl 5 (c.moves.map zae.d))])),(3,.box [cI (x1.locs.length:Int)])] h fun a w h=>?_
 rcases Bool.eq_false_or_eq_true (decide (0<=c.from_/\c.from_<(x1.locs.length:Int))) with hc5 | hc8
 ·have hc5':=dT hc5
  rcases Bool.eq_false_or_eq_true (decide (0<=c.to_/\c.to_<(x1.locs.length:Int))) with hc6 | hc7
  ·have hc6':=dT hc6;refine Jq 4 [(4,.g (Op.callV (d:=54) (t:=51) (cap:=[.ptr 3 0]) (args:=[vI c.from_]) (rs:=[(53,vI c.from_)]) (tys:=#[3]) (Fn.cast (Lsound1 c.from_ (x1.locs.length:Int)) (congrArg vb hc5)) mc2_7 (OVs.cons (OV.tmp 53 _) (OVs.nil)))),(9,.g (Op.callV (d:=59) (t:=56) (cap:=[.ptr 3 0]) (args:=[vI c.to_]) (rs:=[(58,vI c.to_)]) (tys:=#[3]) (Fn.cast (Lsound1 c.to_ (x1.locs.length:Int)) (congrArg vb hc6)) mc2_7 (OVs.cons (OV.tmp 58 _) (OVs.nil))))] [(4,vp 1 0),(5,vb (!(c.moves.any fun m=>!zde s m)))] [(1,.box ([cI (k:Int),cI c.from_,cI c.to_,cI c.guard.kind,cPs c.guard.r.t.parts]++zi c.guard.r.t.k++[cB c.guard.r.eq,cFs c.guard.kids,.d (.sl 5 (c.moves.map zae.d))]))] h fun a w h=>qV (zea [.agg ([cI (k:Int),cI c.from_,cI c.to_,cI c.guard.kind,cPs c.guard.r.t.parts]++zi c.guard.r.t.k++[cB c.guard.r.eq,cFs c.guard.kids,.d (.sl 5 (c.moves.map zae.d))]),.c (cB (!(c.moves.any fun m=>!zde s m)))] h Exit.ret (.inl rfl)  rfl ⟨RV.agg _ 1 0 _ _ _ _ ki_0 rfl rfl rfl rfl,RV.tmp _ _ rfl,trivial⟩ ?_);have hz:zh0 s c=(!(c.moves.any fun m=>!zde s m)):=by unfold zh0;rw [decide_eq_true (p:=0<=c.proc/\c.proc<(s.procs.length:Int)) (by have:=dF hc2;have:=dF hc4;omega),show c.proc.toNat=k by omega,show zcq s k=x1.locs.length by unfold zcq;rw [hx1];rfl,Bool.true_and];rw [hc5,hc6];simp
   rw [hz,hkk];try rfl
  have hc7':=dF hc7;refine Jd 4 [(4,.g (Op.callV (d:=54) (t:=51) (cap:=[.ptr 3 0]) (args:=[vI c.from_]) (rs:=[(53,vI c.from_)]) (tys:=#[3]) (Fn.cast (Lsound1 c.from_ (x1.locs.length:Int)) (congrArg vb hc5)) mc2_7 (OVs.cons (OV.tmp 53 _) (OVs.nil)))),(9,.g (Op.callV (d:=59) (t:=56) (cap:=[.ptr 3 0]) (args:=[vI c.to_]) (rs:=[(58,vI c.to_)]) (tys:=#[3]) (Fn.cast (Lsound1 c.to_ (x1.locs.length:Int)) (congrArg vb hc7)) mc2_7 (OVs.cons (OV.tmp 58 _) (OVs.nil))))] [6,8,9] [] [(1,.box ([cI (k:Int),cI c.from_,cI c.to_,cI c.guard.kind,cPs c.guard.r.t.parts]++zi c.guard.r.t.k++[cB c.guard.r.eq,cFs c.guard.kids,.d (.sl 5 (c.moves.map zae.d))]))] h fun a w h=>qV (zea [.agg ([cI (k:Int),cI c.from_,cI c.to_,cI c.guard.kind,cPs c.guard.r.t.parts]++zi c.guard.r.t.k++[cB c.guard.r.eq,cFs c.guard.kids,.d (.sl 5 (c.moves.map zae.d))]),.c (cB false)] h Exit.ret (.inl rfl)  rfl ⟨RV.agg _ 1 0 _ _ _ _ ki_0 rfl rfl rfl rfl,RV.tmp _ _ rfl,trivial⟩ ?_);have hz:zh0 s c=(false):=by unfold zh0;rw [decide_eq_true (p:=0<=c.proc/\c.proc<(s.procs.length:Int)) (by have:=dF hc2;have:=dF hc4;omega),show c.proc.toNat=k by omega,show zcq s k=x1.locs.length by unfold zcq;rw [hx1];rfl,Bool.true_and];rw [hc5,hc7];simp
  rw [hz,hkk];try rfl
 have hc8':=dF hc8;refine Jd 4 [(4,.g (Op.callV (d:=54) (t:=51) (cap:=[.ptr 3 0]) (args:=[vI c.from_]) (rs:=[(53,vI c.from_)]) (tys:=#[3]) (Fn.cast (Lsound1 c.from_ (x1.locs.length:Int)) (congrArg vb hc8)) mc2_7 (OVs.cons (OV.tmp 53 _) (OVs.nil))))] [6,8,9] [] [(1,.box ([cI (k:Int),cI c.from_,cI c.to_,cI c.guard.kind,cPs c.guard.r.t.parts]++zi c.guard.r.t.k++[cB c.guard.r.eq,cFs c.guard.kids,.d (.sl 5 (c.moves.map zae.d))]))] h fun a w h=>qV (zea [.agg ([cI (k:Int),cI c.from_,cI c.to_,cI c.guard.kind,cPs c.guard.r.t.parts]++zi c.guard.r.t.k++[cB c.guard.r.eq,cFs c.guard.kids,.d (.sl 5 (c.moves.map zae.d))]),.c (cB false)] h Exit.ret (.inl rfl)  rfl ⟨RV.agg _ 1 0 _ _ _ _ ki_0 rfl rfl rfl rfl,RV.tmp _ _ rfl,trivial⟩ ?_);have hz:zh0 s c=(false):=by unfold zh0;rw [decide_eq_true (p:=0<=c.proc/\c.proc<(s.procs.length:Int)) (by have:=dF hc2;have:=dF hc4;omega),show c.proc.toNat=k by omega,show zcq s k=x1.locs.length by unfold zcq;rw [hx1];rfl,Bool.true_and];rw [hc8];simp
 rw [hz,hkk];try rfl
theorem Lsound (s:zar) (i:Int) (hs:zb9 3 s):Fn Tryz.prog 53 [] [vG (zaj s),vi .i64 i] (.tup [.agg ([cI (zaa s i).1.proc,cI (zaa s i).1.from_,cI (zaa s i).1.to_,cI (zaa s i).1.guard.kind,cPs (zaa s i).1.guard.r.t.parts]++zi (zaa s i).1.guard.r.t.k++[cB (zaa s i).1.guard.r.eq,cFs (zaa s i).1.guard.kids,.d (.sl 5 ((zaa s i).1.moves.map zae.d))]),.c (cB (zaa s i).2)]) []:=by
 unfold zaa
 cases hi:zcs s i with
 | none=>exact LsoundN s i hi
 | some c=>obtain ⟨ki,rfl,hka⟩:=zep hi;exact LsoundS s ki c (hs.act c (List.mem_of_getElem? hka)) hs.procs hka
theorem Lmove1 (m:zae) (v:Nat) :Fn Tryz.prog 101 [(1,.box [cI (v:Int)])] [vG ([cI m.v,cB m.any,cPs m.t.parts]++zi m.t.k),vp 1 0] (vb (m.v == (v:Int))) [(1,.box [cI (v:Int)])]:=by
 refine Fn.body Tryz.func101 rfl 8 rfl fun w H B a h=>Jq 6 [] [(1,vp 1 0),(2,vp 6 0),(3,vb false)] [(1,.box [cI (v:Int)]),(6,.box ([cI m.v,cB m.any,cPs m.t.parts]++zi m.t.k))] h fun a w h=>Jq 7 [] [(3,vb (m.v == (v:Int)))] [(1,.box [cI (v:Int)])] h fun a w h=>qV (rT (.c (cB (m.v == (v:Int)))) h rfl ?_)
 rfl
theorem SIdxWM (pr:zae->Bool) (xs:List zae) (v:Nat) (hf:∀ x ∈ xs,Fn Tryz.prog 101 [(1,.box [cI (v:Int)])] [vG ([cI x.v,cB x.any,cPs x.t.parts]++zi x.t.k),vp 1 0] (vb (pr x)) [(1,.box [cI (v:Int)])]) (hl:xs.length<=9223372036854775807):Fn Tryz.prog 100 [(1,.box [cI (v:Int)])] [vS 5 (xs.map zae.d),.t (.c (.fn (.func 101) [] [.ptr 1 0]))] (vI (zdx pr xs 0)) [(1,.box [cI (v:Int)])]:=by
 refine Fn.body Tryz.func100 rfl 19 rfl fun w H B a h=>Jq 5 [] [(0,vS 5 (xs.map zae.d)),(1,.t (.c (.fn (.func 101) [] [.ptr 1 0]))),(4,vI 0)] [(1,.box [cI (v:Int)])] h fun a w h=>qW (Je 5 [(1,.len (za7 5 zae.d xs))] [] [(7,vN xs.length),(8,vI 0)] h fun a w h=>qZ ?_)
 refine zap (ι:=(Nat)) (fun j=>j<=xs.length/\zdx pr xs 0=zdx pr (xs.drop j) j)
   (fun j=>[(0,vS 5 (xs.map zae.d)),(1,.t (.c (.fn (.func 101) [] [.ptr 1 0]))),(7,vN xs.length),(8,vN j)])
   (fun j=>[(1,.box [cI (v:Int)])])
   (fun j=>xs.length - j) 0 ?_ h (by kernel_rfl) (by kernel_rfl) ?_
 ·exact ⟨Nat.zero_le _,rfl⟩
 clear h;rintro j a w hI h;obtain ⟨hI1,hI2⟩:=hI;refine Je 5 [] [] [(9,vb (decide ((j:Int)<(xs.length:Int))))] h fun a w h=>qW (zam ((j:Int)<(xs.length:Int)) h (fun hc1 hc1'=>?_) (fun hc4 hc4'=>?_))
 ·refine qU (za1 (qW (qZ (Je 5 [] [9] [(5,vN j)] h fun a w h=>?_))));obtain ⟨x1,hx1⟩:=gl xs j;refine Je 5 [(3,.g (xD 14 12 ki_2 (zab hx1 (f:=zae.d)) (OV.tmp 13 _))),(5,.g (Op.callV (d:=16) (t:=11) (cap:=[.ptr 1 0]) (args:=[vG ([cI x1.v,cB x1.any,cPs x1.t.parts]++zi x1.t.k)]) (rs:=[(15,vG ([cI x1.v,cB x1.any,cPs x1.t.parts]++zi x1.t.k))]) (tys:=#[74]) (hf x1 (lM hx1)) mc2_8 (OVs.cons (OV.tmp 15 _) (OVs.nil))))] [] [(16,vb (pr x1))] h fun a w h=>cS (pr x1) h (fun hc2=>?_) (fun hc3=>?_)
  ·refine Je 5 [] [5,16] [(4,vN j)] h fun a w h=>qV (zac (za6 (za6 (zac (za6 (rT (.c (cI (j:Int))) h rfl ?_))))));have hz:zdx pr xs 0=(j:Int):=by rw [hI2,zgj hx1,if_pos hc2]
   rw [hz];try rfl
  refine qU (za8 (za1 (Jf 5 [(0,.j1 j)] [5,16] [(8,vI ((j:Int)+1))] h fun a w h=>za1 (zag (x:=j) (y:=j+1) h ?_ ?_))))
  ·exact ⟨by have:=zak hx1;omega,by rw [hI2,zgj hx1,if_neg (by rw [hc3];exact Bool.noConfusion)]⟩
  (try simp);omega
 refine wp_exit (za9 (za9 (za5 (za1 (Jp 5 [] [(4,vI (-1))] h fun a w h=>qV (rT (.c (cI (-1))) h rfl ?_))))));have hz:zdx pr xs 0=-1:=by rw [hI2,List.drop_of_length_le (by omega)];rfl
 rw [hz];try rfl
theorem find_idx {α:Type} (pr:α->Bool):∀ (xs:List α) (n:Nat),(zdx pr xs n<0->xs.find? pr=none)/\∀ k:Nat,zdx pr xs n=((n+k:Nat):Int)->∃ x,xs[k]?=some x/\xs.find? pr=some x
 | [],n=>⟨fun _=>rfl,fun k h=>by unfold zdx at h;omega⟩
 | x :: xs,n=>by
  unfold zdx
  by_cases e:pr x=true
  ·rw [if_pos e]
   refine ⟨fun h=>by omega,fun k h=>⟨x,?_,by rw [List.find?_cons,e]⟩⟩
   have:k=0:=by omega
   subst this;rfl
  ·rw [if_neg e]
   have ih:=find_idx pr xs (n+1)
   have he:pr x=false:=by simpa using e
   refine ⟨fun h=>by rw [List.find?_cons,he];exact ih.1 h,fun k h=>?_⟩
   cases k with
   | zero =>
    exfalso
    have hx:∀ (ys:List α) (m:Nat),zdx pr ys m<0\/(m:Int)<=zdx pr ys m:=fun ys=>by
     induction ys with
     | nil=>intro m;left;unfold zdx;omega
     | cons y ys ihy =>
      intro m;unfold zdx;split
      ·right;omega
      ·rcases ihy (m+1) with h1 | h1
       ·left;exact h1
       ·right;omega
    rcases hx xs (n+1) with h1 | h1 <;> omega
   | succ k =>
    obtain ⟨y,h1,h2⟩:=ih.2 k (by rw [h];congr 1;omega)
    exact ⟨y,h1,by rw [List.find?_cons,he];exact h2⟩
theorem idxB_len {α:Type} (pr:α->Bool):∀ (xs:List α) (n:Nat),zdx pr xs n<0\/zdx pr xs n<((n+xs.length:Nat):Int)
 | [],n=>by left;unfold zdx;omega
 | x :: xs,n=>by
  unfold zdx
  split
  ·right;rw [List.length_cons];omega
  ·rcases idxB_len pr xs (n+1) with h | h
   ·exact .inl h
   ·right;rw [List.length_cons];omega
theorem mvA_no {c:zaw} {v:Nat} (h:zdx (fun m:zae=>m.v == (v:Int)) c.moves 0<0):mvA c v=(mv0,false):=by
 unfold mvA zj4;rw [(find_idx _ c.moves 0).1 h]
theorem mvA_at {c:zaw} {v k:Nat} {m:zae} (h:zdx (fun m:zae=>m.v == (v:Int)) c.moves 0=(k:Int)) (hm:c.moves[k]?=some m):mvA c v=(m,true):=by
 obtain ⟨x,h1,h2⟩:=(find_idx _ c.moves 0).2 k (by rw [h,Nat.zero_add])
 rw [hm] at h1;injection h1 with h1
 unfold mvA zj4;rw [h2,h1]
theorem Lmove (c:zaw) (v:Nat) (hc:zff 3 c):Fn Tryz.prog 69 [] [vG ([cI c.proc,cI c.from_,cI c.to_,cI c.guard.kind,cPs c.guard.r.t.parts]++zi c.guard.r.t.k++[cB c.guard.r.eq,cFs c.guard.kids,.d (.sl 5 (c.moves.map zae.d))]),vN v] (.tup [.agg ([cI (mvA c v).1.v,cB (mvA c v).1.any,cPs (mvA c v).1.t.parts]++zi (mvA c v).1.t.k),.c (cB (mvA c v).2)]) []:=by
 have lcm:=hc.len;have lix:=idxB_len (fun m:zae=>m.v == (v:Int)) c.moves 0;refine Fn.body Tryz.func69 rfl 19 rfl fun w H B a h=>Jq 0 [] [(2,vp 0 0),(3,vp 1 0),(4,vp 2 0),(5,vb false)] [(0,.box ([cI c.proc,cI c.from_,cI c.to_,cI c.guard.kind,cPs c.guard.r.t.parts]++zi c.guard.r.t.k++[cB c.guard.r.eq,cFs c.guard.kids,.d (.sl 5 (c.moves.map zae.d))])),(1,.box [cI (v:Int)]),(2,.box [cI 0,cB false,.d (.raw zad),cB false,.d (nsl [])])] h fun a w h=>Jd 3 [(2,.g (Op.makeFs (d:=9) (fn:=.func 101) [(3,1,0)])),(3,.call (SIdxWM (fun m:zae=>m.v == (v:Int)) c.moves v (fun m _=>Lmove1 m v) (by have:=hc.len;omega)) ki_4)] [3] [(6,vI (zdx (fun m:zae=>m.v == (v:Int)) c.moves 0))] [(0,.box ([cI c.proc,cI c.from_,cI c.to_,cI c.guard.kind,cPs c.guard.r.t.parts]++zi c.guard.r.t.k++[cB c.guard.r.eq,cFs c.guard.kids,.d (.sl 5 (c.moves.map zae.d))])),(2,.box [cI 0,cB false,.d (.raw zad),cB false,.d (nsl [])])] h fun a w h=>qW (Je 3 [] [] [(12,vb (decide ((zdx (fun m:zae=>m.v == (v:Int)) c.moves 0)<0)))] h fun a w h=>zam ((zdx (fun m:zae=>m.v == (v:Int)) c.moves 0)<0) h (fun hc1 hc1'=>?_) (fun hc2 hc2'=>?_))
 ·refine Je 3 [] [12] [] h fun a w h=>qV (za6 ?_);replace h:=zbd 2 2 3 [cI 0,cB false,.d (.raw zad),cB false,.d (nsl [])] [(2,vp 0 0),(4,vp 2 0),(5,vb false),(6,vI (zdx (fun m:zae=>m.v == (v:Int)) c.moves 0))] [(0,.box ([cI c.proc,cI c.from_,cI c.to_,cI c.guard.kind,cPs c.guard.r.t.parts]++zi c.guard.r.t.k++[cB c.guard.r.eq,cFs c.guard.kids,.d (.sl 5 (c.moves.map zae.d))])),(2,.box [cI 0,cB false,cPs [],cB false,.d (nsl [])])] h rfl rfl;refine zea [.agg [cI 0,cB false,cPs [],cB false,.d (nsl [])],.c (cB false)] h Exit.ret (.inl rfl)  rfl ⟨RV.agg _ 2 0 _ _ _ _ ki_5 rfl rfl rfl rfl,RV.tmp _ _ rfl,trivial⟩ ?_;rw [mvA_no (dT hc1)];try rfl
 refine qU (za1 ?_);obtain ⟨kx,hkkx⟩:∃ k_:Nat,(zdx (fun m:zae=>m.v == (v:Int)) c.moves 0)=(k_:Int):=⟨_,(Int.toNat_of_nonneg (by have:=dF hc2;omega)).symm⟩;replace h:=h.conv (f':=F.of [(2,vp 0 0),(4,vp 2 0),(5,vb false),(6,vN kx),(12,vb (decide ((zdx (fun m:zae=>m.v == (v:Int)) c.moves 0)<0)))] [(0,.box ([cI c.proc,cI c.from_,cI c.to_,cI c.guard.kind,cPs c.guard.r.t.parts]++zi c.guard.r.t.k++[cB c.guard.r.eq,cFs c.guard.kids,.d (.sl 5 (c.moves.map zae.d))])),(2,.box [cI 0,cB false,.d (.raw zad),cB false,.d (nsl [])])]) (by rw [hkkx];kernel_rfl);obtain ⟨x2,hx2⟩:=gl c.moves kx;refine Jq 3 [(3,.g (xD 17 15 ki_2 (zab hx2 (f:=zae.d)) (OV.tmp 16 _)))] [(4,vp 2 0),(5,vb true)] [(2,.box ([cI x2.v,cB x2.any,cPs x2.t.parts]++zi x2.t.k))] h fun a w h=>qV (zea [.agg ([cI x2.v,cB x2.any,cPs x2.t.parts]++zi x2.t.k),.c (cB true)] h Exit.ret (.inl rfl)  rfl ⟨RV.agg _ 2 0 _ _ _ _ ki_5 rfl rfl rfl rfl,RV.tmp _ _ rfl,trivial⟩ ?_);rw [mvA_at hkkx hx2];try rfl
theorem mvA_tok {c:zaw} (hc:zff 3 c) (v:Nat):TOk 20 3 (mvA c v).1.t:=by
 unfold mvA
 cases e:zj4 c v with
 | none=>exact ⟨Nat.zero_le _,(fun p hp=>by cases hp),zeg,Nat.zero_le _⟩
 | some m=>exact hc.mv m (by unfold zj4 at e;exact List.mem_of_find?_eq_some e)
theorem valA_no {c:zaw} {v:Nat} (h:(mvA c v).2=false):zbs c v=(zej (v:Int),true):=by
 unfold mvA at h;unfold zbs
 cases e:zj4 c v with
 | none=>rfl
 | some m=>rw [e] at h;cases h
theorem valA_any {c:zaw} {v:Nat} (h:(mvA c v).2=true) (a:(mvA c v).1.any=true):zbs c v=(⟨[],ze6⟩,false):=by
 unfold mvA at h a;unfold zbs
 cases e:zj4 c v with
 | none=>rw [e] at h;cases h
 | some m=>rw [e] at a;exact if_pos a
theorem valA_set {c:zaw} {v:Nat} (h:(mvA c v).2=true) (a:(mvA c v).1.any=false):zbs c v=(za2 (mvA c v).1.t,true):=by
 unfold mvA at h a ⊢;unfold zbs
 cases e:zj4 c v with
 | none=>rw [e] at h;cases h
 | some m=>rw [e] at a;exact if_neg (by rw [show m.any=false from a];exact Bool.noConfusion)
theorem Lvalue (c:zaw) (v:Nat) (hc:zff 3 c):Fn Tryz.prog 43 [] [vG ([cI c.proc,cI c.from_,cI c.to_,cI c.guard.kind,cPs c.guard.r.t.parts]++zi c.guard.r.t.k++[cB c.guard.r.eq,cFs c.guard.kids,.d (.sl 5 (c.moves.map zae.d))]),vN v] (.tup [.agg (zT (zbs c v).1),.c (cB (zbs c v).2)]) []:=by
 refine Fn.body Tryz.func43 rfl 26 rfl fun w H B a h=>Jq 0 [] [(1,vN v),(2,vp 0 0),(4,vp 1 0),(5,vb false)] [(0,.box ([cI c.proc,cI c.from_,cI c.to_,cI c.guard.kind,cPs c.guard.r.t.parts]++zi c.guard.r.t.k++[cB c.guard.r.eq,cFs c.guard.kids,.d (.sl 5 (c.moves.map zae.d))])),(1,.box zT0)] h fun a w h=>Jd 2 [(2,.call (Lmove c v hc) mc2_10)] [2] [(6,vp 2 0),(7,vb (mvA c v).2)] [(1,.box zT0),(2,.box ([cI (mvA c v).1.v,cB (mvA c v).1.any,cPs (mvA c v).1.t.parts]++zi (mvA c v).1.t.k))] h fun a w h=>qW (qZ (Je 3 [] [7] [(14,vb (!(mvA c v).2))] h fun a w h=>cS (!(mvA c v).2) h (fun hc1=>?_) (fun hc2=>?_)))
 ·have hc1':=hc1;(try simp at hc1');refine Jd 3 [(1,.call (Lvariable v) mb1_11)] [1,14] [(5,vb true)] [(1,.box (zT (zej (v:Int)))),(2,.box ([cI (mvA c v).1.v,cB (mvA c v).1.any,cPs (mvA c v).1.t.parts]++zi (mvA c v).1.t.k))] h fun a w h=>qV (zac (za6 (zea [.agg (zT (zej (v:Int))),.c (cB true)] h Exit.ret (.inl rfl)  rfl ⟨RV.agg _ 1 0 _ _ _ _ zft rfl rfl rfl rfl,RV.tmp _ _ rfl,trivial⟩ ?_)));rw [valA_no (by have:=hc1;simpa using this)];try rfl
 have hc2':=hc2;(try simp at hc2');refine Je 3 [] [1,14] [(19,vb (mvA c v).1.any)] h fun a w h=>cS (mvA c v).1.any h (fun hc3=>?_) (fun hc4=>?_)
 ·refine Je 3 [] [19] [] h fun a w h=>qV (zac (za6 ?_));replace h:=zbd 1 0 3 zT0 [(4,vp 1 0),(5,vb false),(6,vp 2 0)] [(1,.box [cPs [],cB false,.d (nsl [])]),(2,.box ([cI (mvA c v).1.v,cB (mvA c v).1.any,cPs (mvA c v).1.t.parts]++zi (mvA c v).1.t.k))] h rfl rfl;refine zea [.agg [cPs [],cB false,.d (nsl [])],.c (cB false)] h Exit.ret (.inl rfl)  rfl ⟨RV.agg _ 1 0 _ _ _ _ zft rfl rfl rfl rfl,RV.tmp _ _ rfl,trivial⟩ ?_;rw [valA_any (by have:=hc2;simpa using this) hc3];try rfl
 refine qU (za8 (za1 (Jq 3 [(2,.call (zg8 (mvA c v).1.t (mvA_tok hc v) (by decide) (by decide)) tm_7)] [(4,vp 1 0),(5,vb true)] [(1,.box (zT (za2 (mvA c v).1.t)))] h fun a w h=>qV (zea [.agg (zT (za2 (mvA c v).1.t)),.c (cB true)] h Exit.ret (.inl rfl)  rfl ⟨RV.agg _ 1 0 _ _ _ _ zft rfl rfl rfl rfl,RV.tmp _ _ rfl,trivial⟩ ?_))));rw [valA_set (by have:=hc2;simpa using this) hc4];try rfl
theorem canS_t {s:zar} {c:zaw} {v:Nat} (h:(zbs c v).2=true):zf1 s c v=zka s v (zbs c v).1:=by unfold zf1;rw [if_pos h]
theorem canS_a {s:zar} {c:zaw} {v:Nat} {b:zaq} (h:(zbs c v).2=false) (hb:s.bounds[v]?=some b) (e:b.is_=true):zf1 s c v=[leF (zcj b.lo) (zcj b.hi)]:=by unfold zf1;rw [h,if_neg Bool.noConfusion,bnd_is hb,if_pos e]
theorem canS_n {s:zar} {c:zaw} {v:Nat} (h:(zbs c v).2=false) (e:(zbh s v).is_=false):zf1 s c v=[]:=by unfold zf1;rw [h,if_neg Bool.noConfusion,e];rfl
theorem Lcan (s:zar) (c:zaw) (hs:zb9 3 s) (hc:zff 3 c) (hg:c.guard.wid<=100):Fn Tryz.prog 54 [] [vG (zaj s),vG ([cI c.proc,cI c.from_,cI c.to_,cI c.guard.kind,cPs c.guard.r.t.parts]++zi c.guard.r.t.k++[cB c.guard.r.eq,cFs c.guard.kids,.d (.sl 5 (c.moves.map zae.d))])] (vF (ziu s c)) []:=by
 have lvs:=hs.vars;have lbs:=hs.bnds;have lcn:=zcc (zf1 s c) (canS_len s c) s.vars.length;refine Fn.body Tryz.func54 rfl 63 rfl fun w H B a h=>Jq 5 [] [(2,vp 5 0),(3,vp 6 0),(4,vp 7 0)] [(5,.box (zaj s)),(6,.box ([cI c.proc,cI c.from_,cI c.to_,cI c.guard.kind,cPs c.guard.r.t.parts]++zi c.guard.r.t.k++[cB c.guard.r.eq,cFs c.guard.kids,.d (.sl 5 (c.moves.map zae.d))])),(7,.box zF0)] h fun a w h=>Jd 8 [(2,.g (Op.buildO (d:=12) (n:=8) (len:=1) (rows:=[c.guard].map za0.d) (rs:=[(11,(vF c.guard))]) zkt (.cons (i:=0) (OV.tmp 11 _) (.nil)) (by simp only [List.map_cons,List.map_nil,List.flatten_cons,List.flatten_nil,List.append_nil,za0.d_eq];kernel_rfl) rfl (by simp [za0.d_len]) (by decide) (by decide)))] [] [(5,vO 8 1)] [(5,.box (zaj s)),(6,.box ([cI c.proc,cI c.from_,cI c.to_,cI c.guard.kind,cPs c.guard.r.t.parts]++zi c.guard.r.t.k++[cB c.guard.r.eq,cFs c.guard.kids,.d (.sl 5 (c.moves.map zae.d))])),(7,.box zF0),(8,.row 35 6 ([c.guard].map za0.d))] h fun a w h=>qW (Je 9 [(2,.len (za7 1 zg4 s.vars))] [] [(15,vN s.vars.length),(16,vI 0)] h fun a w h=>qZ ?_)
 replace h:=cv (fun z_:List za0=>F.of [(2,vp 5 0),(3,vp 6 0),(4,vp 7 0),(5,vO 8 1),(15,vN s.vars.length),(16,vI 0)] [(5,.box (zaj s)),(6,.box ([cI c.proc,cI c.from_,cI c.to_,cI c.guard.kind,cPs c.guard.r.t.parts]++zi c.guard.r.t.k++[cB c.guard.r.eq,cFs c.guard.kids,.d (.sl 5 (c.moves.map zae.d))])),(7,.box zF0),(8,.row 35 6 (z_.map za0.d))]) (show ([c.guard]:List za0)=([c.guard]++(List.range 0).flatMap (zf1 s c)) from (by simp)) h
 refine zap (ι:=(Nat)) (fun j=>j<=s.vars.length)
   (fun j=>[(2,vp 5 0),(3,vp 6 0),(4,vp 7 0),(5,vO 8 ([c.guard]++(List.range j).flatMap (zf1 s c)).length),(15,vN s.vars.length),(16,vN j)])
   (fun j=>[(5,.box (zaj s)),(6,.box ([cI c.proc,cI c.from_,cI c.to_,cI c.guard.kind,cPs c.guard.r.t.parts]++zi c.guard.r.t.k++[cB c.guard.r.eq,cFs c.guard.kids,.d (.sl 5 (c.moves.map zae.d))])),(7,.box zF0),(8,.row 35 6 (([c.guard]++(List.range j).flatMap (zf1 s c)).map za0.d))])
   (fun j=>s.vars.length - j) 0 ?_ h (by kernel_rfl) (by kernel_rfl) ?_
 ·exact Nat.zero_le _
 clear h;rintro j a w hI h;have lcj:=zcc (zf1 s c) (canS_len s c) j;have lbj:=zh7 s j (zbs c j).1;refine Je 9 [] [] [(17,vb (decide ((j:Int)<(s.vars.length:Int))))] h fun a w h=>qW (zam ((j:Int)<(s.vars.length:Int)) h (fun hc1 hc1'=>?_) (fun hc8 hc8'=>?_))
 ·refine qU (za1 (qW (qZ (Je 9 [] [17] [(6,vN j)] h fun a w h=>Jd 9 [(2,.call (Lvalue c j hc) mc2_15)] [] [(7,vp 9 0),(8,vb (zbs c j).2)] [(5,.box (zaj s)),(6,.box ([cI c.proc,cI c.from_,cI c.to_,cI c.guard.kind,cPs c.guard.r.t.parts]++zi c.guard.r.t.k++[cB c.guard.r.eq,cFs c.guard.kids,.d (.sl 5 (c.moves.map zae.d))])),(7,.box zF0),(8,.row 35 6 (([c.guard]++(List.range j).flatMap (zf1 s c)).map za0.d)),(9,.box (zT (zbs c j).1))] h fun a w h=>Je 10 [] [8] [(25,vb (zbs c j).2)] h fun a w h=>cS (zbs c j).2 h (fun hc2=>?_) (fun hc3=>?_)))))
  ·refine Jm 10 [(4,.call (Lbounded s j (zbs c j).1 hs (ziv hc j)) mb1_12),(5,.g (aD 31 26 30 8 10 ([c.guard]++(List.range j).flatMap (zf1 s c)) (zka s j (zbs c j).1) za0.d la_7 (by simp [za0.d_len])))] [6,7,25] [(5,vO 10 (([c.guard]++(List.range j).flatMap (zf1 s c))++(zka s j (zbs c j).1)).length)] [(5,.box (zaj s)),(6,.box ([cI c.proc,cI c.from_,cI c.to_,cI c.guard.kind,cPs c.guard.r.t.parts]++zi c.guard.r.t.k++[cB c.guard.r.eq,cFs c.guard.kids,.d (.sl 5 (c.moves.map zae.d))])),(7,.box zF0),(10,.row 35 6 ((([c.guard]++(List.range j).flatMap (zf1 s c))++(zka s j (zbs c j).1)).map za0.d))] h fun a w h=>za8 (za1 (Jf 11 [(0,.j1 j)] [] [(16,vI ((j:Int)+1))] h fun a w h=>za1 ?_));rw [show ((([c.guard]++(List.range j).flatMap (zf1 s c))++(zka s j (zbs c j).1)):List za0)=([c.guard]++(List.range (j+1)).flatMap (zf1 s c)) from (by rw [zc1 (zf1 s c) j,canS_t hc2];simp)] at h;replace h:=ze3 10 8 [(2,vp 5 0),(3,vp 6 0),(4,vp 7 0),(5,vO 8 ([c.guard]++(List.range (j+1)).flatMap (zf1 s c)).length),(15,vN s.vars.length),(16,vI ((j:Int)+1))] [(5,.box (zaj s)),(6,.box ([cI c.proc,cI c.from_,cI c.to_,cI c.guard.kind,cPs c.guard.r.t.parts]++zi c.guard.r.t.k++[cB c.guard.r.eq,cFs c.guard.kids,.d (.sl 5 (c.moves.map zae.d))])),(7,.box zF0),(8,.row 35 6 (([c.guard]++(List.range (j+1)).flatMap (zf1 s c)).map za0.d))] h;refine zag (x:=j) (y:=j+1) h ?_ ?_
   ·have:=dT hc1;show j+1<=s.vars.length;omega
   show s.vars.length - (j+1)<s.vars.length - j;have:=dT hc1;omega
  rcases Bool.eq_false_or_eq_true (decide ((j:Int)<(s.bounds.length:Int))) with hc4 | hc7
  ·have hc4':=dT hc4;obtain ⟨x3,hx3⟩:=gl s.bounds j;refine Jd 11 [(3,.len (za7 5 zaq.d s.bounds)),(4,.cmp (op:=.lss) (m:=(j:Int)) (n:=(s.bounds.length:Int)) (b:=true) .i64 hc4),(9,.g (xD 41 39 kf_0 (zab hx3 (f:=zaq.d)) (OV.tmp 40 _)))] [7,25] [(44,vb x3.is_)] [(5,.box (zaj s)),(6,.box ([cI c.proc,cI c.from_,cI c.to_,cI c.guard.kind,cPs c.guard.r.t.parts]++zi c.guard.r.t.k++[cB c.guard.r.eq,cFs c.guard.kids,.d (.sl 5 (c.moves.map zae.d))])),(7,.box zF0),(8,.row 35 6 (([c.guard]++(List.range j).flatMap (zf1 s c)).map za0.d))] h fun a w h=>cS x3.is_ h (fun hc5=>?_) (fun hc6=>?_)
   ·refine Jd 11 [(3,.g (xD 48 46 kf_0 (zab hx3 (f:=zaq.d)) (OV.tmp 47 _)))] [6,44] [(9,vp 11 0)] [(5,.box (zaj s)),(6,.box ([cI c.proc,cI c.from_,cI c.to_,cI c.guard.kind,cPs c.guard.r.t.parts]++zi c.guard.r.t.k++[cB c.guard.r.eq,cFs c.guard.kids,.d (.sl 5 (c.moves.map zae.d))])),(7,.box zF0),(8,.row 35 6 (([c.guard]++(List.range j).flatMap (zf1 s c)).map za0.d)),(11,.box ([cB x3.is_]++zi x3.lo++zi x3.hi))] h fun a w h=>Jm 12 [(3,.call (zgt x3.lo (hs.bnd x3 (lM hx3)).1.1 (by have:=(hs.bnd x3 (lM hx3)).1.2;omega)) to_7),(6,.call (zgt x3.hi (hs.bnd x3 (lM hx3)).2.1 (by have:=(hs.bnd x3 (lM hx3)).2.2;omega)) to_7),(7,.call (LCmpLe (zcj x3.lo) (zcj x3.hi) ((zj3 (hs.bnd x3 (lM hx3)).1).mono (Nat.le_refl _) (by decide)) ((zj3 (hs.bnd x3 (lM hx3)).2).mono (Nat.le_refl _) (by decide))) mb1_6),(8,.g (bD 58 ([(leF (zcj x3.lo) (zcj x3.hi))].map za0.d) [(57,(vF (leF (zcj x3.lo) (zcj x3.hi))))] zkt (.cons (i:=0) (OV.tmp 57 _) (.nil)) (by simp only [List.map_cons,List.map_nil,List.flatten_cons,List.flatten_nil,List.append_nil,za0.d_eq];kernel_rfl) (by simp [za0.d_len]))),(9,.g (aD 59 50 58 8 12 ([c.guard]++(List.range j).flatMap (zf1 s c)) [(leF (zcj x3.lo) (zcj x3.hi))] za0.d la_7 (by simp [za0.d_len])))] [9] [(5,vO 12 (([c.guard]++(List.range j).flatMap (zf1 s c))++[(leF (zcj x3.lo) (zcj x3.hi))]).length)] [(5,.box (zaj s)),(6,.box ([cI c.proc,cI c.from_,cI c.to_,cI c.guard.kind,cPs c.guard.r.t.parts]++zi c.guard.r.t.k++[cB c.guard.r.eq,cFs c.guard.kids,.d (.sl 5 (c.moves.map zae.d))])),(7,.box zF0),(12,.row 35 6 ((([c.guard]++(List.range j).flatMap (zf1 s c))++[(leF (zcj x3.lo) (zcj x3.hi))]).map za0.d))] h fun a w h=>za8 (za1 (Jf 13 [(0,.j1 j)] [] [(16,vI ((j:Int)+1))] h fun a w h=>za1 ?_));rw [show ((([c.guard]++(List.range j).flatMap (zf1 s c))++[(leF (zcj x3.lo) (zcj x3.hi))]):List za0)=([c.guard]++(List.range (j+1)).flatMap (zf1 s c)) from (by rw [zc1 (zf1 s c) j,canS_a hc3 hx3 hc5];simp)] at h;replace h:=ze3 12 8 [(2,vp 5 0),(3,vp 6 0),(4,vp 7 0),(5,vO 8 ([c.guard]++(List.range (j+1)).flatMap (zf1 s c)).length),(15,vN s.vars.length),(16,vI ((j:Int)+1))] [(5,.box (zaj s)),(6,.box ([cI c.proc,cI c.from_,cI c.to_,cI c.guard.kind,cPs c.guard.r.t.parts]++zi c.guard.r.t.k++[cB c.guard.r.eq,cFs c.guard.kids,.d (.sl 5 (c.moves.map zae.d))])),(7,.box zF0),(8,.row 35 6 (([c.guard]++(List.range (j+1)).flatMap (zf1 s c)).map za0.d))] h;refine zag (x:=j) (y:=j+1) h ?_ ?_
    ·have:=dT hc1;show j+1<=s.vars.length;omega
    show s.vars.length - (j+1)<s.vars.length - j;have:=dT hc1;omega
   refine qU (za8 (za1 (Jf 13 [(0,.j1 j)] [6,44] [(16,vI ((j:Int)+1))] h fun a w h=>za1 ?_)));rw [show (([c.guard]++(List.range j).flatMap (zf1 s c)):List za0)=([c.guard]++(List.range (j+1)).flatMap (zf1 s c)) from (by rw [zc1 (zf1 s c) j,canS_n hc3 (by rw [bnd_is hx3];exact hc6)];simp)] at h;refine zag (x:=j) (y:=j+1) h ?_ ?_
   ·have:=dT hc1;show j+1<=s.vars.length;omega
   show s.vars.length - (j+1)<s.vars.length - j;have:=dT hc1;omega
  have hc7':=dF hc7;refine Jd 13 [(3,.len (za7 5 zaq.d s.bounds)),(4,.cmp (op:=.lss) (m:=(j:Int)) (n:=(s.bounds.length:Int)) (b:=false) .i64 hc7)] [7,25] [(44,vb false)] [(5,.box (zaj s)),(6,.box ([cI c.proc,cI c.from_,cI c.to_,cI c.guard.kind,cPs c.guard.r.t.parts]++zi c.guard.r.t.k++[cB c.guard.r.eq,cFs c.guard.kids,.d (.sl 5 (c.moves.map zae.d))])),(7,.box zF0),(8,.row 35 6 (([c.guard]++(List.range j).flatMap (zf1 s c)).map za0.d))] h fun a w h=>zax false h rfl nofun (fun _=>qU (za8 (za1 (Jf 13 [(0,.j1 j)] [6,44] [(16,vI ((j:Int)+1))] h fun a w h=>za1 ?_))))
  rw [show (([c.guard]++(List.range j).flatMap (zf1 s c)):List za0)=([c.guard]++(List.range (j+1)).flatMap (zf1 s c)) from (by rw [zc1 (zf1 s c) j,canS_n hc3 (bnd_no (by omega))];simp)] at h;refine zag (x:=j) (y:=j+1) h ?_ ?_
  ·have:=dT hc1;show j+1<=s.vars.length;omega
  show s.vars.length - (j+1)<s.vars.length - j;have:=dT hc1;omega
 refine wp_exit (za9 (za9 (za5 (za1 ?_))));rw [show (([c.guard]++(List.range j).flatMap (zf1 s c)):List za0)=(canL s c) from (by rw [show j=s.vars.length by have:=dF hc8;omega];rfl)] at h;replace h:=zi0 8 6 35 ((canL s c).map za0.d) [(2,vp 5 0),(3,vp 6 0),(4,vp 7 0),(5,(vFs (canL s c))),(15,vN s.vars.length),(16,vN j),(17,vb (decide ((j:Int)<(s.vars.length:Int))))] [(5,.box (zaj s)),(6,.box ([cI c.proc,cI c.from_,cI c.to_,cI c.guard.kind,cPs c.guard.r.t.parts]++zi c.guard.r.t.k++[cB c.guard.r.eq,cFs c.guard.kids,.d (.sl 5 (c.moves.map zae.d))])),(7,.box zF0)] h rfl (show zbw _ [(canL s c).length] from ⟨by first | exact (List.length_map _).symm | (simp;done) | (simp;omega),trivial⟩) trivial;refine Jq 13 [(1,.call (LAll (canL s c) (fun g hg_=>za0.okB_mono (by decide) (by decide) _ (can_ok hs hc hg g hg_)) (by show List.length _<=_;unfold canL;rw [List.length_cons];omega)) zju)] [(4,vp 7 0)] [(7,.box (zF (ziu s c)))] h fun a w h=>qV (rA 7 (zF (ziu s c)) h zct rfl ?_);rfl
theorem md3_0:za4 Tryz.prog 76:=za4.mk' (by kernel_rfl)
theorem md3_1:za4 Tryz.prog 75:=za4.mk' (by kernel_rfl)
theorem md3_3:za4 Tryz.prog 52:=za4.mk' (by kernel_rfl)
theorem md3_4:za4 Tryz.prog 45:=za4.mk' (by kernel_rfl)
theorem md3_7:za4 Tryz.prog 53:=za4.mk' (by kernel_rfl)
theorem md3_9:za4 Tryz.prog 54:=za4.mk' (by kernel_rfl)
theorem md3_12:za4 Tryz.prog 39:=za4.mk' (by kernel_rfl)
theorem md3_15:za4 Tryz.prog 41:=za4.mk' (by kernel_rfl)
def offZ (s:zar) (k:Nat):Int:=(k:Int)*(s.vars.length:Int)
def atF (s:zar) (f:za0) (k:Nat):za0:=f.each (zcr (offZ s k))
def begB (s:zar) (locs:List Int) (a:zaw):Bool:=decide (locs.length=s.procs.length) && ((locs[a.proc.toNat]?).getD 0 == a.from_)
def zaf (s:zar) (locs:List Int) (i:Int):zaw × Bool:=((zaa s i).1,(zaa s i).2 && begB s locs (zaa s i).1)
def zhr (s:zar) (locs:List Int) (v:Nat):List za0:=if (zaf s locs (v:Int)).2=true then [denyF (ziu s (zaf s locs (v:Int)).1)] else []
def ze2 (s:zar) (locs:List Int):za0:=zhn ((List.range s.acts.length).flatMap (zhr s locs))
def samF (s:zar) (v:Nat) (t:zal):za0:=zdn (zroR (zk3 (zej ((v+s.vars.length:Nat):Int)) t))
def ze9 (s:zar) (c:zaw) (v:Nat):List za0:=if (zbs c v).2=true then [samF s v (zbs c v).1] else []
def zg9 (s:zar) (h:za0) (c:zaw):List za0:=h :: (List.range s.vars.length).flatMap (ze9 s c)
def zkm (s:zar) (locs:List Int) (act:Int):List Int × Bool:=if act=-1 then (locs,true) else if (zaf s locs act).2=true then (locs.set (zaf s locs act).1.proc.toNat (zaf s locs act).1.to_,true) else ([],false)
theorem zgd {s:zar} {i:Int} (h:(zaa s i).2=true):0<=(zaa s i).1.proc/\(zaa s i).1.proc<(s.procs.length:Int):=by
 unfold zaa at h ⊢
 cases e:zcs s i with
 | none=>rw [e] at h;cases h
 | some c =>
  rw [e] at h
  change zh0 s c=true at h
  unfold zh0 at h
  simp only [Bool.and_eq_true,decide_eq_true_eq] at h
  exact h.1.1.1
theorem rngF_ok {s:zar} (hs:zb9 3 s):(zdp s).okB 40 51:=zf0 (by decide) (rng_ok hs) (by have:=zcc (rngS s) (fun v=>zh7 s v (zej (v:Int))) s.vars.length;have:=hs.vars;omega)
theorem zjk {s:zar} (hs:zb9 3 s) {c:zaw} (hc:zff 3 c) (hw:c.guard.wid<=100):(ziu s c).okB 40 51:=zf0 (by decide) (can_ok hs hc hw) (by unfold canL;rw [List.length_cons];have:=zcc (zf1 s c) (canS_len s c) s.vars.length;have:=hs.vars;omega)
theorem at_ok {f:za0} (h:f.okB 40 100) (n:Int):(f.each (zcr n)).okB 40 103:=zkp (t:=zcr n) (fun r hr=>by
 have:=movZ_tok (hr.plain (by decide)) (by decide) (zah n)
 exact this) f h
theorem stkS_ok {s:zar} (hs:zb9 3 s) (hw:SysW s) (locs:List Int) (v:Nat):∀ g ∈ zhr s locs v,g.okB 40 52:=fun g hg=>by
 unfold zhr at hg
 split at hg
 ·rw [List.mem_singleton.1 hg]
  exact zko (by decide) (by simp) fun q hq=>by rw [List.mem_singleton.1 hq];exact okB_cl (by decide) _ (zjk hs (zbr hs _) (zge hw _))
 ·cases hg
theorem stkS_len (s:zar) (locs:List Int) (v:Nat):(zhr s locs v).length<=1:=by unfold zhr;split <;> simp
theorem stkF_ok {s:zar} (hs:zb9 3 s) (hw:SysW s) (locs:List Int):(ze2 s locs).okB 40 53:=zf0 (by decide) (zfo fun v _=>stkS_ok hs hw locs v) (by have:=zcc (zhr s locs) (stkS_len s locs) s.acts.length;have:=hs.acts;omega)
theorem samF_ok {s:zar} (v:Nat) {t:zal} (ht:TOk 20 20 t):(samF s v t).okB 40 50:=za0.okB_mono (by decide) (Nat.le_refl _) _ (at_okB (n:=1) (m:=20) (zho _) ht (by decide) true)
theorem stpS_ok {s:zar} {c:zaw} (hc:zff 3 c) (v:Nat):∀ g ∈ ze9 s c v,g.okB 40 50:=fun g hg=>by
 unfold ze9 at hg
 split at hg
 ·rw [List.mem_singleton.1 hg];exact samF_ok v (ziv hc v)
 ·cases hg
theorem stpS_len (s:zar) (c:zaw) (v:Nat):(ze9 s c v).length<=1:=by unfold ze9;split <;> simp
theorem stpL_ok {s:zar} {h:za0} {c:zaw} (hh:h.okB 40 60) (hc:zff 3 c):∀ g ∈ zg9 s h c,g.okB 40 60:=fun g hg=>by
 unfold zg9 at hg
 rcases List.mem_cons.1 hg with rfl | hg
 ·exact hh
 ·exact za0.okB_mono (by decide) (by decide) _ (zfo (fun v _=>stpS_ok hc v) g hg)
theorem stpL_len (s:zar) (h:za0) (c:zaw):(zg9 s h c).length<=1+s.vars.length:=by
 unfold zg9;rw [List.length_cons];have:=zcc (ze9 s c) (stpS_len s c) s.vars.length;omega
theorem rng1_ok {s:zar} (hs:zb9 3 s):(atF s (zdp s) 1).okB 40 103:=at_ok (za0.okB_mono (Nat.le_refl _) (by decide) _ (rngF_ok hs)) _
theorem Loffset (s:zar) (k:Nat) (hs:zb9 3 s) (hk:k<=4096):Fn Tryz.prog 76 [] [vG (zaj s),vN k] (vI (offZ s k)) []:=by
 have lvs:=hs.vars;obtain ⟨mkv,hmkv⟩:∃ z_:Nat,z_=k*s.vars.length:=⟨_,rfl⟩;have hmk2:mkv<=4096*8:=by rw [hmkv];exact Nat.mul_le_mul hk lvs
 have hmk3:(k:Int)*(s.vars.length:Int)=(mkv:Int):=by rw [hmkv,Int.natCast_mul]
 refine Fn.body Tryz.func76 rfl 12 rfl fun w H B a h=>Jq 0 [] [(1,vN k),(2,vp 0 0),(4,vI 0)] [(0,.box (zaj s))] h fun a w h=>Jq 1 [(1,.g (Op.max2 (d:=6) (tys:=#[3,3]) (k:=.i64) (m:=(k:Int)) (n:=0) (r:=(k:Int)) (OV.tmp 5 _) (OV.const (.int .i64 0) rfl) (by omega))),(2,.g (Op.min2 (d:=7) (tys:=#[3,3]) (k:=.i64) (m:=(k:Int)) (n:=4096) (r:=(k:Int)) (OV.tmp 6 _) (OV.const (.int .i64 4096) rfl) (by omega))),(5,.len (za7 1 zg4 s.vars)),(6,.mul .i64 (m:=(k:Int)) (n:=(s.vars.length:Int)) i6)] [(4,vI ((k:Int)*(s.vars.length:Int)))] [] h fun a w h=>qV (rT (.c (cI ((k:Int)*(s.vars.length:Int)))) h rfl ?_)
 rfl
theorem Lat (s:zar) (f:za0) (k:Nat) (hs:zb9 3 s) (hk:k<=4096) (hf:f.okB 40 200):Fn Tryz.prog 45 [] [vG (zaj s),(vF f),vN k] (vF (atF s f k)) []:=by
 refine Fn.body Tryz.func45 rfl 12 rfl fun w H B a h=>Jq 0 [] [(2,vN k),(3,vp 0 0),(4,vp 1 0),(6,vp 2 0)] [(0,.box (zaj s)),(1,.box (zF f)),(2,.box zF0)] h fun a w h=>Jq 3 [(3,.call (Loffset s k hs (by omega)) md3_0),(4,.call (LMoveF f (offZ s k) (za0.okB_mono (by decide) (by decide) _ hf) (za0.okB_mono (by decide) (by decide) _ (okB_cl (by decide) _ hf))) md3_1)] [(6,vp 2 0)] [(2,.box (zF (za0.each (zcr (offZ s k)) f)))] h fun a w h=>qV (rA 2 (zF (za0.each (zcr (offZ s k)) f)) h zct rfl ?_)
 rfl
theorem LRange (s:zar) (k:Nat) (hs:zb9 3 s) (hk:k<=4096):Fn Tryz.prog 17 [] [vG (zaj s),vN k] (vF (atF s (zdp s) k)) []:=by
 refine Fn.body Tryz.func17 rfl 10 rfl fun w H B a h=>Jq 0 [] [(1,vN k),(2,vp 0 0),(4,vp 1 0)] [(0,.box (zaj s)),(1,.box zF0)] h fun a w h=>Jq 2 [(2,.call (Lranges s hs) md3_3),(4,.call (Lat s (zdp s) k hs hk (za0.okB_mono (by decide) (by decide) _ (rngF_ok hs))) md3_4)] [(4,vp 1 0)] [(1,.box (zF (atF s (zdp s) k)))] h fun a w h=>qV (rA 1 (zF (atF s (zdp s) k)) h zct rfl ?_)
 rfl
theorem LStart (s:zar) (k:Nat) (hs:zb9 3 s) (hw:SysW s) (hk:k<=4096):Fn Tryz.prog 18 [] [vG (zaj s),vN k] (vF (atF s (zhn [s.init,zdp s]) k)) []:=by
 have hsr:∀ g ∈ [s.init,zdp s],g.okB 40 60:=fun g hg=>by
  rcases List.mem_cons.1 hg with rfl | hg
  ·exact za0.okB_mono (by decide) (by decide) _ (zfz hs.init (by have:=hw.1;omega))
  rw [List.mem_singleton.1 hg];exact za0.okB_mono (by decide) (by decide) _ (rngF_ok hs)
 refine Fn.body Tryz.func18 rfl 14 rfl fun w H B a h=>Jq 0 [] [(1,vN k),(2,vp 0 0),(4,vp 1 0)] [(0,.box (zaj s)),(1,.box zF0)] h fun a w h=>Jq 2 [(4,.call (Lranges s hs) md3_3),(5,.g (Op.buildD (d:=10) (len:=2) (rows:=[s.init,(zdp s)].map za0.d) (rs:=[(7,(vF s.init)),(9,(vF (zdp s)))]) zkt (.cons (i:=0) (OV.tmp 7 _) (.cons (i:=1) (OV.tmp 9 _) (.nil))) (by simp only [List.map_cons,List.map_nil,List.flatten_cons,List.flatten_nil,List.append_nil,za0.d_eq];kernel_rfl) rfl (by simp [za0.d_len]) (by decide) (by decide))),(6,.call (LAll [s.init,zdp s] (fun g hg=>za0.okB_mono (by decide) (by decide) _ (hsr g hg)) (show List.length _<=1000000 from by simp)) zju),(8,.call (Lat s (zhn [s.init,zdp s]) k hs hk (za0.okB_mono (by decide) (by decide) _ (zf0 (by decide) hsr (show List.length _<=1000000 from by simp)))) md3_4)] [(4,vp 1 0)] [(1,.box (zF (atF s (zhn [s.init,zdp s]) k)))] h fun a w h=>qV (rA 1 (zF (atF s (zhn [s.init,zdp s]) k)) h zct rfl ?_)
 rfl
theorem LCan (s:zar) (act:Int) (k:Nat) (hs:zb9 3 s) (hw:SysW s) (hk:k<=4096):Fn Tryz.prog 20 [] [vG (zaj s),vI act,vN k] (vF (if (zaa s act).2=true then atF s (ziu s (zaa s act).1) k else zd3 false)) []:=by
 refine Fn.body Tryz.func20 rfl 24 rfl fun w H B a h=>Jq 0 [] [(1,vI act),(2,vN k),(3,vp 0 0),(6,vp 1 0)] [(0,.box (zaj s)),(1,.box zF0)] h fun a w h=>Jd 2 [(2,.call (Lsound s act hs) md3_7)] [1] [(7,vp 2 0),(8,vb (zaa s act).2)] [(0,.box (zaj s)),(1,.box zF0),(2,.box ([cI (zaa s act).1.proc,cI (zaa s act).1.from_,cI (zaa s act).1.to_,cI (zaa s act).1.guard.kind,cPs (zaa s act).1.guard.r.t.parts]++zi (zaa s act).1.guard.r.t.k++[cB (zaa s act).1.guard.r.eq,cFs (zaa s act).1.guard.kids,.d (.sl 5 ((zaa s act).1.moves.map zae.d))]))] h fun a w h=>qW (Je 3 [] [8] [(16,vb (!(zaa s act).2))] h fun a w h=>cS (!(zaa s act).2) h (fun hc1=>?_) (fun hc2=>?_))
 ·have hc1':=hc1;(try simp at hc1');refine Jd 3 [(0,.call (zgw false) la_8)] [16] [] [(0,.box (zaj s)),(1,.box (zF (zd3 false))),(2,.box ([cI (zaa s act).1.proc,cI (zaa s act).1.from_,cI (zaa s act).1.to_,cI (zaa s act).1.guard.kind,cPs (zaa s act).1.guard.r.t.parts]++zi (zaa s act).1.guard.r.t.k++[cB (zaa s act).1.guard.r.eq,cFs (zaa s act).1.guard.kids,.d (.sl 5 ((zaa s act).1.moves.map zae.d))]))] h fun a w h=>qV (za6 (rA 1 (zF (zd3 false)) h zct rfl ?_));rw [if_neg (by rw [(show ((zaa s act).2)=false from by simpa using hc1)];exact Bool.noConfusion)];try rfl
 have hc2':=hc2;(try simp at hc2');refine qU (za1 (Jq 3 [(3,.call (Lcan s (zaa s act).1 hs (zbr hs act) (zge hw act)) md3_9),(5,.call (Lat s (ziu s (zaa s act).1) k hs hk (za0.okB_mono (by decide) (by decide) _ (zjk hs (zbr hs act) (zge hw act)))) md3_4)] [(6,vp 1 0)] [(1,.box (zF (atF s (ziu s (zaa s act).1) k)))] h fun a w h=>qV (rA 1 (zF (atF s (ziu s (zaa s act).1) k)) h zct rfl ?_)));rw [if_pos (show ((zaa s act).2)=true from by simpa using hc2)];try rfl
theorem Lbegins (s:zar) (locs:List Int) (i:Int) (hs:zb9 3 s) (_hl:locs.length<=9223372036854775807):Fn Tryz.prog 39 [] [.t (.agg (zaj s)),.t (.c (.d (.sl 1 (locs.map zai)))),vI i] (.tup [.agg ([.d (.raw (.int .i64 (zaf s locs i).1.proc)),.d (.raw (.int .i64 (zaf s locs i).1.from_)),.d (.raw (.int .i64 (zaf s locs i).1.to_)),.d (.raw (.int .i64 (zaf s locs i).1.guard.kind)),.d (.sl 3 ((zaf s locs i).1.guard.r.t.parts.map za3.d))]++zi (zaf s locs i).1.guard.r.t.k++[.d (.raw (.bool (zaf s locs i).1.guard.r.eq)),.d (.sl 6 ((zaf s locs i).1.guard.kids.map za0.d)),.d (.sl 5 ((zaf s locs i).1.moves.map zae.d))]),.c (.d (.raw (.bool (zaf s locs i).2)))]) []:=by
 have lps:=hs.procs;have lpr:(zaa s i).2=true->0<=(zaa s i).1.proc/\(zaa s i).1.proc<(s.procs.length:Int):=zgd;refine Fn.body Tryz.func39 rfl 36 rfl fun w H B a h=>?_
 refine Jq 0 [] [(1,.t (.c (.d (.sl 1 (locs.map zai))))),(2,vI i),(3,vp 0 0),(6,vp 1 0),(7,vb false)] [(0,.box (zaj s)),(1,.box [.d (.raw (.int .i64 0)),.d (.raw (.int .i64 0)),.d (.raw (.int .i64 0)),.d (.raw (.int .i64 0)),.d (.raw zad),.d (.raw (.bool false)),.d (nsl []),.d (.raw (.bool false)),.d (.raw zad),.d (.raw zad)])] h fun a w h=>?_;refine Jq 2 [(2,.call (Lsound s i hs) md3_7)] [(1,.t (.c (.d (.sl 1 (locs.map zai))))),(3,vp 0 0),(6,vp 1 0),(7,vb false),(8,vp 2 0),(9,vb (zaa s i).2)] [(0,.box (zaj s)),(1,.box [.d (.raw (.int .i64 0)),.d (.raw (.int .i64 0)),.d (.raw (.int .i64 0)),.d (.raw (.int .i64 0)),.d (.raw zad),.d (.raw (.bool false)),.d (nsl []),.d (.raw (.bool false)),.d (.raw zad),.d (.raw zad)]),(2,.box ([.d (.raw (.int .i64 (zaa s i).1.proc)),.d (.raw (.int .i64 (zaa s i).1.from_)),.d (.raw (.int .i64 (zaa s i).1.to_)),.d (.raw (.int .i64 (zaa s i).1.guard.kind)),.d (.sl 3 ((zaa s i).1.guard.r.t.parts.map za3.d))]++zi (zaa s i).1.guard.r.t.k++[.d (.raw (.bool (zaa s i).1.guard.r.eq)),.d (.sl 6 ((zaa s i).1.guard.kids.map za0.d)),.d (.sl 5 ((zaa s i).1.moves.map zae.d))]))] h fun a w h=>?_
 rcases Bool.eq_false_or_eq_true (zaa s i).2 with hc1 | hc4
 ·have lpx:=zgd hc1;rw [hc1] at h
  rcases Bool.eq_false_or_eq_true ((locs.length:Int) == (s.procs.length:Int)) with hc2 | hc3
  ·have hc2':=hc2;(try simp at hc2');obtain ⟨kp,hkkp⟩:∃ k_:Nat,(zaa s i).1.proc=(k_:Int):=⟨_,(Int.toNat_of_nonneg ((zgd hc1).1)).symm⟩;replace h:=h.conv (f':=F.of [(1,.t (.c (.d (.sl 1 (locs.map zai))))),(3,vp 0 0),(6,vp 1 0),(7,vb false),(8,vp 2 0),(9,vb true)] [(0,.box (zaj s)),(1,.box [.d (.raw (.int .i64 0)),.d (.raw (.int .i64 0)),.d (.raw (.int .i64 0)),.d (.raw (.int .i64 0)),.d (.raw zad),.d (.raw (.bool false)),.d (nsl []),.d (.raw (.bool false)),.d (.raw zad),.d (.raw zad)]),(2,.box ([.d (.raw (.int .i64 (kp:Int))),.d (.raw (.int .i64 (zaa s i).1.from_)),.d (.raw (.int .i64 (zaa s i).1.to_)),.d (.raw (.int .i64 (zaa s i).1.guard.kind)),.d (.sl 3 ((zaa s i).1.guard.r.t.parts.map za3.d))]++zi (zaa s i).1.guard.r.t.k++[.d (.raw (.bool (zaa s i).1.guard.r.eq)),.d (.sl 6 ((zaa s i).1.guard.kids.map za0.d)),.d (.sl 5 ((zaa s i).1.moves.map zae.d))]))]) (by rw [hkkp]);obtain ⟨x2,hx2⟩:=gl locs kp;refine Jq 3 [(4,.len (za7 1 zai locs)),(7,.len (za7 3 zc7.d s.procs)),(8,.cmp (op:=.eql) (m:=(locs.length:Int)) (n:=(s.procs.length:Int)) (b:=true) .i64 hc2),(14,.g (xD 30 27 zi5 (zab hx2 (f:=zai)) (OV.tmp 29 _)))] [(6,vp 1 0),(7,vb (x2 == (zaa s i).1.from_))] [(1,.box ([.d (.raw (.int .i64 (kp:Int))),.d (.raw (.int .i64 (zaa s i).1.from_)),.d (.raw (.int .i64 (zaa s i).1.to_)),.d (.raw (.int .i64 (zaa s i).1.guard.kind)),.d (.sl 3 ((zaa s i).1.guard.r.t.parts.map za3.d))]++zi (zaa s i).1.guard.r.t.k++[.d (.raw (.bool (zaa s i).1.guard.r.eq)),.d (.sl 6 ((zaa s i).1.guard.kids.map za0.d)),.d (.sl 5 ((zaa s i).1.moves.map zae.d))]))] h fun a w h=>?_;refine qV ?_;refine zea [.agg ([.d (.raw (.int .i64 (kp:Int))),.d (.raw (.int .i64 (zaa s i).1.from_)),.d (.raw (.int .i64 (zaa s i).1.to_)),.d (.raw (.int .i64 (zaa s i).1.guard.kind)),.d (.sl 3 ((zaa s i).1.guard.r.t.parts.map za3.d))]++zi (zaa s i).1.guard.r.t.k++[.d (.raw (.bool (zaa s i).1.guard.r.eq)),.d (.sl 6 ((zaa s i).1.guard.kids.map za0.d)),.d (.sl 5 ((zaa s i).1.moves.map zae.d))]),.c (.d (.raw (.bool (x2 == (zaa s i).1.from_))))] h Exit.ret (.inl rfl)  rfl ⟨RV.agg _ 1 0 _ _ _ _ ki_0 rfl rfl rfl rfl,RV.tmp _ _ rfl,trivial⟩ ?_;have hz:(zaf s locs i).2=(x2 == (zaa s i).1.from_):=by show ((zaa s i).2 && begB s locs (zaa s i).1)=_;rw [hc1,Bool.true_and];unfold begB;rw [decide_eq_true (p:=locs.length=s.procs.length) (by have:=hc2;simp at this;omega),Bool.true_and,show (zaa s i).1.proc.toNat=kp by omega,hx2];rfl
   rw [hz,show (zaf s locs i).1.proc=(kp:Int) from hkkp];try rfl
  have hc3':=hc3;(try simp at hc3');obtain ⟨kp,hkkp⟩:∃ k_:Nat,(zaa s i).1.proc=(k_:Int):=⟨_,(Int.toNat_of_nonneg ((zgd hc1).1)).symm⟩;replace h:=h.conv (f':=F.of [(1,.t (.c (.d (.sl 1 (locs.map zai))))),(3,vp 0 0),(6,vp 1 0),(7,vb false),(8,vp 2 0),(9,vb true)] [(0,.box (zaj s)),(1,.box [.d (.raw (.int .i64 0)),.d (.raw (.int .i64 0)),.d (.raw (.int .i64 0)),.d (.raw (.int .i64 0)),.d (.raw zad),.d (.raw (.bool false)),.d (nsl []),.d (.raw (.bool false)),.d (.raw zad),.d (.raw zad)]),(2,.box ([.d (.raw (.int .i64 (kp:Int))),.d (.raw (.int .i64 (zaa s i).1.from_)),.d (.raw (.int .i64 (zaa s i).1.to_)),.d (.raw (.int .i64 (zaa s i).1.guard.kind)),.d (.sl 3 ((zaa s i).1.guard.r.t.parts.map za3.d))]++zi (zaa s i).1.guard.r.t.k++[.d (.raw (.bool (zaa s i).1.guard.r.eq)),.d (.sl 6 ((zaa s i).1.guard.kids.map za0.d)),.d (.sl 5 ((zaa s i).1.moves.map zae.d))]))]) (by rw [hkkp]);refine Jq 3 [(4,.len (za7 1 zai locs)),(7,.len (za7 3 zc7.d s.procs)),(8,.cmp (op:=.eql) (m:=(locs.length:Int)) (n:=(s.procs.length:Int)) (b:=false) .i64 hc3)] [(6,vp 1 0),(7,vb false)] [(1,.box ([.d (.raw (.int .i64 (kp:Int))),.d (.raw (.int .i64 (zaa s i).1.from_)),.d (.raw (.int .i64 (zaa s i).1.to_)),.d (.raw (.int .i64 (zaa s i).1.guard.kind)),.d (.sl 3 ((zaa s i).1.guard.r.t.parts.map za3.d))]++zi (zaa s i).1.guard.r.t.k++[.d (.raw (.bool (zaa s i).1.guard.r.eq)),.d (.sl 6 ((zaa s i).1.guard.kids.map za0.d)),.d (.sl 5 ((zaa s i).1.moves.map zae.d))]))] h fun a w h=>?_;refine qV ?_;refine zea [.agg ([.d (.raw (.int .i64 (kp:Int))),.d (.raw (.int .i64 (zaa s i).1.from_)),.d (.raw (.int .i64 (zaa s i).1.to_)),.d (.raw (.int .i64 (zaa s i).1.guard.kind)),.d (.sl 3 ((zaa s i).1.guard.r.t.parts.map za3.d))]++zi (zaa s i).1.guard.r.t.k++[.d (.raw (.bool (zaa s i).1.guard.r.eq)),.d (.sl 6 ((zaa s i).1.guard.kids.map za0.d)),.d (.sl 5 ((zaa s i).1.moves.map zae.d))]),.c (.d (.raw (.bool false)))] h Exit.ret (.inl rfl)  rfl ⟨RV.agg _ 1 0 _ _ _ _ ki_0 rfl rfl rfl rfl,RV.tmp _ _ rfl,trivial⟩ ?_;have hz:(zaf s locs i).2=(false):=by show ((zaa s i).2 && begB s locs (zaa s i).1)=_;rw [hc1,Bool.true_and];unfold begB;rw [decide_eq_false (p:=locs.length=s.procs.length) (by have:=hc3;simp at this;omega),Bool.false_and]
  rw [hz,show (zaf s locs i).1.proc=(kp:Int) from hkkp];try rfl
 rw [hc4] at h;refine Jq 3 [] [(6,vp 1 0),(7,vb false)] [(1,.box ([.d (.raw (.int .i64 (zaa s i).1.proc)),.d (.raw (.int .i64 (zaa s i).1.from_)),.d (.raw (.int .i64 (zaa s i).1.to_)),.d (.raw (.int .i64 (zaa s i).1.guard.kind)),.d (.sl 3 ((zaa s i).1.guard.r.t.parts.map za3.d))]++zi (zaa s i).1.guard.r.t.k++[.d (.raw (.bool (zaa s i).1.guard.r.eq)),.d (.sl 6 ((zaa s i).1.guard.kids.map za0.d)),.d (.sl 5 ((zaa s i).1.moves.map zae.d))]))] h fun a w h=>?_;refine qV ?_;refine zea [.agg ([.d (.raw (.int .i64 (zaa s i).1.proc)),.d (.raw (.int .i64 (zaa s i).1.from_)),.d (.raw (.int .i64 (zaa s i).1.to_)),.d (.raw (.int .i64 (zaa s i).1.guard.kind)),.d (.sl 3 ((zaa s i).1.guard.r.t.parts.map za3.d))]++zi (zaa s i).1.guard.r.t.k++[.d (.raw (.bool (zaa s i).1.guard.r.eq)),.d (.sl 6 ((zaa s i).1.guard.kids.map za0.d)),.d (.sl 5 ((zaa s i).1.moves.map zae.d))]),.c (.d (.raw (.bool false)))] h Exit.ret (.inl rfl)  rfl ⟨RV.agg _ 1 0 _ _ _ _ ki_0 rfl rfl rfl rfl,RV.tmp _ _ rfl,trivial⟩ ?_;have hz:(zaf s locs i).2=(false):=by show ((zaa s i).2 && begB s locs (zaa s i).1)=_;rw [hc4,Bool.false_and]
 rw [hz];try rfl
theorem Lstuck (s:zar) (locs:List Int) (hs:zb9 3 s) (hw:SysW s) (hl:locs.length<=9223372036854775807):Fn Tryz.prog 41 [] [vG (zaj s),(vIs locs)] (vF (ze2 s locs)) []:=by
 have las:=hs.acts;have lsn:=zcc (zhr s locs) (stkS_len s locs) s.acts.length;refine Fn.body Tryz.func41 rfl 33 rfl fun w H B a h=>Jq 5 [] [(1,(vIs locs)),(2,vp 5 0),(4,vp 6 0)] [(5,.box (zaj s)),(6,.box zF0)] h fun a w h=>Je 7 [] [] [(5,vW zad)] h fun a w h=>qW (Je 7 [(2,.len (za7 10 zaw.d s.acts))] [] [(11,vN s.acts.length),(12,vI 0)] h fun a w h=>qZ ?_)
 replace h:=zfk 5 0 7 6 35 (vW zad) [(1,(vIs locs)),(2,vp 5 0),(4,vp 6 0),(5,vO 7 0),(11,vN s.acts.length),(12,vI 0)] [(5,.box (zaj s)),(6,.box zF0),(7,.row 35 6 ([].map za0.d))] h (by kernel_rfl) rfl rfl
 refine zap (ι:=(Nat)) (fun j=>j<=s.acts.length)
   (fun j=>[(1,(vIs locs)),(2,vp 5 0),(4,vp 6 0),(5,vO 7 ((List.range j).flatMap (zhr s locs)).length),(11,vN s.acts.length),(12,vN j)])
   (fun j=>[(5,.box (zaj s)),(6,.box zF0),(7,.row 35 6 (((List.range j).flatMap (zhr s locs)).map za0.d))])
   (fun j=>s.acts.length - j) 0 ?_ h (by kernel_rfl) (by kernel_rfl) ?_
 ·exact Nat.zero_le _
 clear h;rintro j a w hI h;have lsj:=zcc (zhr s locs) (stkS_len s locs) j;refine Je 8 [] [] [(13,vb (decide ((j:Int)<(s.acts.length:Int))))] h fun a w h=>qW (zam ((j:Int)<(s.acts.length:Int)) h (fun hc1 hc1'=>?_) (fun hc4 hc4'=>?_))
 ·refine qU (za1 (qW (qZ (Je 8 [] [13] [(6,vN j)] h fun a w h=>Jd 8 [(3,.call (Lbegins s locs (j:Int) hs hl) md3_12)] [6] [(7,vp 8 0),(8,vb (zaf s locs (j:Int)).2)] [(5,.box (zaj s)),(6,.box zF0),(7,.row 35 6 (((List.range j).flatMap (zhr s locs)).map za0.d)),(8,.box ([cI (zaf s locs (j:Int)).1.proc,cI (zaf s locs (j:Int)).1.from_,cI (zaf s locs (j:Int)).1.to_,cI (zaf s locs (j:Int)).1.guard.kind,cPs (zaf s locs (j:Int)).1.guard.r.t.parts]++zi (zaf s locs (j:Int)).1.guard.r.t.k++[cB (zaf s locs (j:Int)).1.guard.r.eq,cFs (zaf s locs (j:Int)).1.guard.kids,.d (.sl 5 ((zaf s locs (j:Int)).1.moves.map zae.d))]))] h fun a w h=>Je 9 [] [8] [(22,vb (zaf s locs (j:Int)).2)] h fun a w h=>cS (zaf s locs (j:Int)).2 h (fun hc2=>?_) (fun hc3=>?_)))))
  ·refine Jm 9 [(3,.call (Lcan s (zaf s locs (j:Int)).1 hs (zbr hs _) (zge hw _)) md3_9),(4,.call (LDeny (ziu s (zaf s locs (j:Int)).1) (za0.okB_mono (by decide) (by decide) _ (zjk hs (zbr hs _) (zge hw _)))) le5_8),(5,.g (bD 28 ([(denyF (ziu s (zaf s locs (j:Int)).1))].map za0.d) [(27,(vF (denyF (ziu s (zaf s locs (j:Int)).1))))] zkt (.cons (i:=0) (OV.tmp 27 _) (.nil)) (by simp only [List.map_cons,List.map_nil,List.flatten_cons,List.flatten_nil,List.append_nil,za0.d_eq];kernel_rfl) (by simp [za0.d_len]))),(6,.g (aD 29 23 28 7 9 ((List.range j).flatMap (zhr s locs)) [(denyF (ziu s (zaf s locs (j:Int)).1))] za0.d la_7 (by simp [za0.d_len])))] [7,22] [(5,vO 9 (((List.range j).flatMap (zhr s locs))++[(denyF (ziu s (zaf s locs (j:Int)).1))]).length)] [(5,.box (zaj s)),(6,.box zF0),(9,.row 35 6 ((((List.range j).flatMap (zhr s locs))++[(denyF (ziu s (zaf s locs (j:Int)).1))]).map za0.d))] h fun a w h=>za8 (za1 (Jf 10 [(0,.j1 j)] [] [(12,vI ((j:Int)+1))] h fun a w h=>za1 ?_));rw [show ((((List.range j).flatMap (zhr s locs))++[(denyF (ziu s (zaf s locs (j:Int)).1))]):List za0)=((List.range (j+1)).flatMap (zhr s locs)) from (by rw [zc1 (zhr s locs) j,show zhr s locs j=[denyF (ziu s (zaf s locs (j:Int)).1)] from if_pos hc2];first | done | simp)] at h;replace h:=ze3 9 7 [(1,(vIs locs)),(2,vp 5 0),(4,vp 6 0),(5,vO 7 ((List.range (j+1)).flatMap (zhr s locs)).length),(11,vN s.acts.length),(12,vI ((j:Int)+1))] [(5,.box (zaj s)),(6,.box zF0),(7,.row 35 6 (((List.range (j+1)).flatMap (zhr s locs)).map za0.d))] h;refine zag (x:=j) (y:=j+1) h ?_ ?_
   ·have:=dT hc1;show j+1<=s.acts.length;omega
   show s.acts.length - (j+1)<s.acts.length - j;have:=dT hc1;omega
  refine qU (za8 (za1 (Jm 10 [(0,.j1 j)] [7,22] [(12,vI ((j:Int)+1))] [(5,.box (zaj s)),(6,.box zF0),(7,.row 35 6 (((List.range j).flatMap (zhr s locs)).map za0.d))] h fun a w h=>za1 ?_)));replace h:=cv (fun z_:List za0=>F.of [(1,(vIs locs)),(2,vp 5 0),(4,vp 6 0),(5,vO 7 z_.length),(11,vN s.acts.length),(12,vI ((j:Int)+1))] [(5,.box (zaj s)),(6,.box zF0),(7,.row 35 6 (z_.map za0.d))]) (show (((List.range j).flatMap (zhr s locs)):List za0)=((List.range (j+1)).flatMap (zhr s locs)) from (by rw [zc1 (zhr s locs) j,show zhr s locs j=[] from if_neg (by rw [hc3];exact Bool.noConfusion)];first | done | simp)) h;refine zag (x:=j) (y:=j+1) h ?_ ?_
  ·have:=dT hc1;show j+1<=s.acts.length;omega
  show s.acts.length - (j+1)<s.acts.length - j;have:=dT hc1;omega
 refine wp_exit (za9 (za9 (za5 (za1 ?_))));replace h:=cv (fun z_:List za0=>F.of [(1,(vIs locs)),(2,vp 5 0),(4,vp 6 0),(5,vO 7 z_.length),(11,vN s.acts.length),(12,vN j),(13,vb (decide ((j:Int)<(s.acts.length:Int))))] [(5,.box (zaj s)),(6,.box zF0),(7,.row 35 6 (z_.map za0.d))]) (show (((List.range j).flatMap (zhr s locs)):List za0)=((List.range s.acts.length).flatMap (zhr s locs)) from (by rw [show j=s.acts.length by have:=dF hc4;omega])) h;replace h:=zi0 7 6 35 (((List.range s.acts.length).flatMap (zhr s locs)).map za0.d) [(1,(vIs locs)),(2,vp 5 0),(4,vp 6 0),(5,(vFs ((List.range s.acts.length).flatMap (zhr s locs)))),(11,vN s.acts.length),(12,vN j),(13,vb (decide ((j:Int)<(s.acts.length:Int))))] [(5,.box (zaj s)),(6,.box zF0)] h rfl (show zbw _ [((List.range s.acts.length).flatMap (zhr s locs)).length] from ⟨by first | exact (List.length_map _).symm | (simp;done) | (simp;omega),trivial⟩) trivial;refine Jq 10 [(1,.call (LAll ((List.range s.acts.length).flatMap (zhr s locs)) (fun g hg=>za0.okB_mono (by decide) (by decide) _ (zfo (fun v _=>stkS_ok hs hw locs v) g hg)) (by omega)) zju)] [(4,vp 6 0)] [(6,.box (zF (ze2 s locs)))] h fun a w h=>qV (rA 6 (zF (ze2 s locs)) h zct rfl ?_);rfl
theorem LStuck (s:zar) (locs:List Int) (k:Nat) (hs:zb9 3 s) (hw:SysW s) (hl:locs.length<=9223372036854775807) (hk:k<=4096):Fn Tryz.prog 22 [] [vG (zaj s),(vIs locs),vN k] (vF (atF s (ze2 s locs) k)) []:=by
 refine Fn.body Tryz.func22 rfl 13 rfl fun w H B a h=>Jq 0 [] [(1,(vIs locs)),(2,vN k),(3,vp 0 0),(6,vp 1 0)] [(0,.box (zaj s)),(1,.box zF0)] h fun a w h=>Jq 2 [(3,.call (Lstuck s locs hs hw hl) md3_15),(5,.call (Lat s (ze2 s locs) k hs hk (za0.okB_mono (by decide) (by decide) _ (stkF_ok hs hw locs))) md3_4)] [(6,vp 1 0)] [(1,.box (zF (atF s (ze2 s locs) k)))] h fun a w h=>qV (rA 1 (zF (atF s (ze2 s locs) k)) h zct rfl ?_)
 rfl
end S
end Go.Proofs.YtckmanpooapkpaaGreat
section
namespace Go.Proofs
open Go.Shelf

end Go.Proofs
end
namespace Go.Proofs.YtckmanpooapkpaaGreat
namespace S
theorem hc_14:za4 Tryz.prog 73:=za4.mk' (by kernel_rfl)
section
open Go.RowKit Go.Sort
end
end S
theorem zi8 {x y:Int} (hx:-1<=x/\x<=1) (hy:-1<=y/\y<=1):-1<=x*y/\x*y<=1:=by
 have h1:x=-1\/x=0\/x=1:=by omega
 rcases h1 with rfl | rfl | rfl <;> omega
theorem val_two (x:Nat):nV [x % 4294967296,x / 4294967296]=x:=by simp only [nV];omega
namespace S
theorem zi2 (k:ZI) (vs:List ZI):zcw (zcj k) vs=k.val:=by simp [zcw,zcj,zf2,ZI.val_of]
theorem ls19_8:za4 Tryz.prog 36:=za4.mk' (by kernel_rfl)
theorem LR5Atom (r:zay) (hr:TOk 1000 10000 r.t):Fn Tryz.prog 36 [] [(vR r)] (vF (zdn r)) []:=by
 refine Fn.body Tryz.func36 rfl 10 rfl fun w H B a h=>Jq 0 [] [(1,vp 0 0),(2,vp 1 0)] [(0,.box (zR_ r)),(1,.box zF0)] h fun a w h=>Jd 2 [(2,.call (SRPlain' r.t hr (by decide) (by decide)) tc_2)] [1] [] [(1,.box ([cI 2,cPs (za2 r.t).parts]++zi (za2 r.t).k++[cB r.eq,.d (.raw zad)]))] h fun a w h=>qV ?_
 replace h:=zbd 1 5 6 ([cI 2,cPs (za2 r.t).parts]++zi (za2 r.t).k++[cB r.eq,.d (.raw zad)]) [(2,vp 1 0)] [(1,.box ([cI 2,cPs (za2 r.t).parts]++zi (za2 r.t).k++[cB r.eq,cFs []]))] h rfl rfl;refine rA 1 ([cI 2,cPs (za2 r.t).parts]++zi (za2 r.t).k++[cB r.eq,cFs []]) h zct rfl ?_;rfl
theorem kid_okA2 {n L:Nat} {f g:za0} (h:f.okA n L) (hg:g ∈ f.kids):g.okA n L:=((za0.okA_eq _ _ _).1 h).2 g hg
theorem kid_nodes9 {f g:za0} (hg:g ∈ f.kids):g.nodes<=f.nodes:=by
 rw [za0.nodes_eq f]
 obtain ⟨j,hj⟩:=List.getElem?_of_mem hg
 have:=take_sum f.kids j hj;omega
theorem me4_2:za4 Tryz.prog 93:=za4.mk' (by kernel_rfl)
theorem me4_8:za4 Tryz.prog 58:=za4.mk' (by kernel_rfl)
def hasV (t:zal) (v:Int):Bool:=sgn (zan t.parts v) != 0
def forgK (vs:List Int) (k:Int) (r:zay) (ks cs:List za0):za0:=if k=2 then (if vs.any (hasV r.t)=true then zd3 true else ⟨k,r,ks⟩) else ⟨k,zR,cs⟩
def za0.forg (vs:List Int) (f:za0):za0:=f.fold (forgK vs)
theorem za0.forg_eq (vs:List Int) (f:za0):f.forg vs=forgK vs f.kind f.r f.kids (f.kids.map (za0.forg vs)):=za0.fold_eq _ f
theorem forg_t {vs:List Int} {f:za0} (h:f.kind=2) (k:vs.any (hasV f.r.t)=true):f.forg vs=zd3 true:=by rw [za0.forg_eq];unfold forgK;rw [if_pos h,if_pos k]
theorem forg_f {vs:List Int} {f:za0} (h:f.kind=2) (k:vs.any (hasV f.r.t)=false):f.forg vs=f:=by rw [za0.forg_eq];unfold forgK;rw [if_pos h,k,if_neg Bool.noConfusion];cases f;rfl
theorem forg_k {vs:List Int} {f:za0} (h:¬ f.kind=2):f.forg vs=⟨f.kind,zR,f.kids.map (za0.forg vs)⟩:=by rw [za0.forg_eq];unfold forgK;rw [if_neg h]
def zd5 (c:zaw) (n:Nat):List Int:=(List.range n).flatMap fun v=>if (zbs c v).2=true then [(v:Int)] else []
def zdl (c:zaw) (n:Nat):List zal:=(List.range n).flatMap fun v=>if (zbs c v).2=true then [(zbs c v).1] else []
def zdq (c:zaw) (n:Nat):List Int:=(List.range n).flatMap fun v=>if (zbs c v).2=true then [] else [(v:Int)]
def zcp (s:zar) (act:Int) (f:za0):za0:=if act=-1 then zhn [f] else if (zaa s act).2=true then zhn [ziu s (zaa s act).1,((f.flat false).forg (zdq (zaa s act).1 s.vars.length)).each (zcb (zd5 (zaa s act).1 s.vars.length) (zdl (zaa s act).1 s.vars.length))] else zd3 false
theorem pre_len (c:zaw) (n:Nat):(zd5 c n).length<=n/\(zdl c n).length<=n/\(zdq c n).length<=n:=by
 have:=zcc (fun v=>if (zbs c v).2=true then [(v:Int)] else []) (m:=1) (fun v=>by split <;> simp) n
 have:=zcc (fun v=>if (zbs c v).2=true then [(zbs c v).1] else []) (m:=1) (fun v=>by split <;> simp) n
 have:=zcc (fun v=>if (zbs c v).2=true then [] else [(v:Int)]) (m:=1) (fun v=>by split <;> simp) n
 unfold zd5 zdl zdq
 omega
theorem zg5 (c:zaw) (j:Nat):zd5 c (j+1)=zd5 c j++(if (zbs c j).2=true then [(j:Int)] else [])/\zdl c (j+1)=zdl c j++(if (zbs c j).2=true then [(zbs c j).1] else [])/\zdq c (j+1)=zdq c j++(if (zbs c j).2=true then [] else [(j:Int)]) :=
 ⟨zc1 _ j,zc1 _ j,zc1 _ j⟩
theorem preB_ok {c:zaw} (hc:zff 3 c) (n:Nat):∀ b ∈ zdl c n,zhb b:=zfo fun v _ b hb=>by
 split at hb
 ·rw [List.mem_singleton.1 hb];exact (ziv hc v).mono (by decide) (Nat.le_refl _)
 ·cases hb
theorem forg_ok {n L:Nat} (vs:List Int) (f:za0):f.okA n L->f.nodes<=1000000->(f.forg vs).okB n L :=
 za0.ind (P:=fun f=>f.okA n L->f.nodes<=1000000->(f.forg vs).okB n L) (fun k r ks ih hf hn=>by
  obtain ⟨h1,h2⟩:=(za0.okA_eq _ _ _).1 hf
  have hk:=zj7 ⟨k,r,ks⟩
  change ks.length+1<=_ at hk
  rw [za0.forg_eq]
  show (forgK vs k r ks (ks.map (za0.forg vs))).okB n L
  unfold forgK
  split
  ·rename_i e
   split
   ·exact zj2 _ _ _
   ·rw [za0.okB_eq]
    refine ⟨⟨h1,by show ks.length<=_;omega,?_⟩,fun g hg=>?_⟩
    ·show (cnt k ks).length<=_;rw [e];exact Nat.zero_le _
    ·change g ∈ cnt k ks at hg;rw [e] at hg;cases hg
  ·rename_i e
   exact zko e (by rw [List.length_map];omega) fun g hg=>by
    obtain ⟨q,hq,rfl⟩:=List.mem_map.1 hg
    exact ih q hq (h2 q hq) (Nat.le_trans (kid_nodes9 (f:=⟨k,r,ks⟩) hq) hn)) f
theorem Lforget1 (v:Int) (f:za0) (hf:TOk 300 3000 f.r.t):Fn Tryz.prog 93 [(0,.box (zF f))] [vI v,vp 0 0] (vb (hasV f.r.t v)) [(0,.box (zF f))]:=by
 refine Fn.body Tryz.func93 rfl 9 rfl fun w H B a h=>Jq 6 [] [(0,vI v),(1,vp 0 0),(3,vb false)] [(0,.box (zF f))] h fun a w h=>Jp 6 [(4,.call (SHas f.r.t v hf (by decide) (by decide)) ty_10)] [(3,vb (hasV f.r.t v))] h fun a w h=>qV (rT (.c (cB (hasV f.r.t v))) h rfl ?_)
 rfl
theorem SIdxFG (pr:Int->Bool) (xs:List Int) (f:za0) (hf:∀ x ∈ xs,Fn Tryz.prog 93 [(0,.box (zF f))] [vI x,vp 0 0] (vb (pr x)) [(0,.box (zF f))]) (hl:xs.length<=9223372036854775807):Fn Tryz.prog 123 [(0,.box (zF f))] [(vIs xs),.t (.c (.fn (.func 93) [] [.ptr 0 0]))] (vI (zdx pr xs 0)) [(0,.box (zF f))]:=by
 refine Fn.body Tryz.func123 rfl 19 rfl fun w H B a h=>Jq 5 [] [(0,(vIs xs)),(1,.t (.c (.fn (.func 93) [] [.ptr 0 0]))),(4,vI 0)] [(0,.box (zF f))] h fun a w h=>qW (Je 5 [(1,.len (za7 1 zai xs))] [] [(7,vN xs.length),(8,vI 0)] h fun a w h=>qZ ?_)
 refine zap (ι:=(Nat)) (fun j=>j<=xs.length/\zdx pr xs 0=zdx pr (xs.drop j) j)
   (fun j=>[(0,(vIs xs)),(1,.t (.c (.fn (.func 93) [] [.ptr 0 0]))),(7,vN xs.length),(8,vN j)])
   (fun j=>[(0,.box (zF f))])
   (fun j=>xs.length - j) 0 ?_ h (by kernel_rfl) (by kernel_rfl) ?_
 ·exact ⟨Nat.zero_le _,rfl⟩
 clear h;rintro j a w hI h;obtain ⟨hI1,hI2⟩:=hI;refine Je 5 [] [] [(9,vb (decide ((j:Int)<(xs.length:Int))))] h fun a w h=>qW (zam ((j:Int)<(xs.length:Int)) h (fun hc1 hc1'=>?_) (fun hc4 hc4'=>?_))
 ·refine qU (za1 (qW (qZ (Je 5 [] [9] [(5,vN j)] h fun a w h=>?_))));obtain ⟨x1,hx1⟩:=gl xs j;refine Je 5 [(3,.g (xD 14 12 zi5 (zab hx1 (f:=zai)) (OV.tmp 13 _))),(5,.g (Op.callV (d:=16) (t:=11) (cap:=[.ptr 0 0]) (args:=[vI x1]) (rs:=[(15,vI x1)]) (tys:=#[3]) (hf x1 (lM hx1)) me4_2 (OVs.cons (OV.tmp 15 _) (OVs.nil))))] [] [(16,vb (pr x1))] h fun a w h=>cS (pr x1) h (fun hc2=>?_) (fun hc3=>?_)
  ·refine Je 5 [] [5,16] [(4,vN j)] h fun a w h=>qV (zac (za6 (za6 (zac (za6 (rT (.c (cI (j:Int))) h rfl ?_))))));have hz:zdx pr xs 0=(j:Int):=by rw [hI2,zgj hx1,if_pos hc2]
   rw [hz];try rfl
  refine qU (za8 (za1 (Jf 5 [(0,.j1 j)] [5,16] [(8,vI ((j:Int)+1))] h fun a w h=>za1 (zag (x:=j) (y:=j+1) h ?_ ?_))))
  ·exact ⟨by have:=zak hx1;omega,by rw [hI2,zgj hx1,if_neg (by rw [hc3];exact Bool.noConfusion)]⟩
  (try simp);omega
 refine wp_exit (za9 (za9 (za5 (za1 (Jp 5 [] [(4,vI (-1))] h fun a w h=>qV (rT (.c (cI (-1))) h rfl ?_))))));have hz:zdx pr xs 0=-1:=by rw [hI2,List.drop_of_length_le (by omega)];rfl
 rw [hz];try rfl
theorem SAnyFG (pr:Int->Bool) (xs:List Int) (f:za0) (hf:∀ x ∈ xs,Fn Tryz.prog 93 [(0,.box (zF f))] [vI x,vp 0 0] (vb (pr x)) [(0,.box (zF f))]) (hl:xs.length<=9223372036854775807):Fn Tryz.prog 92 [(0,.box (zF f))] [(vIs xs),.t (.c (.fn (.func 93) [] [.ptr 0 0]))] (vb (xs.any pr)) [(0,.box (zF f))]:=by
 refine Fn.body Tryz.func92 rfl 9 rfl fun w H B a h=>Jq 5 [] [(0,(vIs xs)),(1,.t (.c (.fn (.func 93) [] [.ptr 0 0]))),(4,vb false)] [(0,.box (zF f))] h fun a w h=>Jp 5 [(2,.call (SIdxFG pr xs f hf  hl) kg_7)] [(4,vb (decide (zdx pr xs 0>=0)))] h fun a w h=>qV (rT (.c (cB (decide (zdx pr xs 0>=0)))) h rfl ?_)
 rw [<- idxB_any];try rfl
theorem rel_okF {f:za0} {n L:Nat} (h:f.okA n L) (e:f.kind=2):TOk n L f.r.t:=((za0.okA_eq _ _ _).1 h).1 e
theorem Lforget0 (f:za0) (vs:List Int) (ih:∀ g ∈ f.kids,Fn Tryz.prog 58 [] [(vF g),(vIs vs)] (vF (za0.forg vs g)) []) (hf:f.okA 300 3000) (hn:f.nodes<=1000000) (hlv:vs.length<=9223372036854775807):Fn Tryz.prog 58 [] [(vF f),(vIs vs)] (vF (za0.forg vs f)) []:=by
 have lkn:=zj7 f;refine Fn.body Tryz.func58 rfl 36 rfl fun w H B a h=>Jq 0 [] [(1,(vIs vs)),(2,vp 0 0),(4,vp 1 0)] [(0,.box (zF f)),(1,.box zF0)] h fun a w h=>qW (Je 2 [] [] [(10,vb (f.kind == 2))] h fun a w h=>cS (f.kind == 2) h (fun hc1=>?_) (fun hc4=>?_))
 ·have hc1':=hc1;(try simp at hc1');refine qW (Je 2 [(1,.g (Op.makeFs (d:=12) (fn:=.func 93) [(2,0,0)])),(2,.call (SAnyFG (hasV f.r.t) vs f (fun v _=>Lforget1 v f (rel_okF hf (by have:=hc1;simpa using this))) hlv) kg_8)] [10] [(13,vb (vs.any (hasV f.r.t)))] h fun a w h=>cS (vs.any (hasV f.r.t)) h (fun hc2=>?_) (fun hc3=>?_))
  ·refine Jd 2 [(0,.call (zgw true) la_8)] [13] [] [(0,.box (zF f)),(1,.box (zF (zd3 true)))] h fun a w h=>qV (za6 (za6 (rA 1 (zF (zd3 true)) h zct rfl ?_)));rw [forg_t (by have:=hc1;simpa using this) hc2];try rfl
  refine qU (za1 (Jd 2 [] [13] [] [(0,.box (zF f)),(1,.box (zF f))] h fun a w h=>qV (za6 (rA 1 (zF f) h zct rfl ?_))));rw [forg_f (by have:=hc1;simpa using this) hc3];try rfl
 have hc4':=hc4;(try simp at hc4');refine qU (za1 (Jd 2 [] [10] [(5,vp 2 0)] [(0,.box (zF f)),(1,.box zF0),(2,.box [cI f.kind,.d (.raw zad),cB false,.d (nsl []),cB false,.d (.raw zad)])] h fun a w h=>qW (Jd 3 [(2,.len (za7 6 za0.d f.kids))] [2] [(20,(vFs f.kids)),(21,vN f.kids.length),(22,vI 0)] [(1,.box zF0),(2,.box [cI f.kind,.d (.raw zad),cB false,.d (nsl []),cB false,.d (.raw zad)])] h fun a w h=>qZ ?_)));replace h:=zg6 2 5 3 6 35 [cI f.kind,.d (.raw zad),cB false,.d (nsl []),cB false,.d (.raw zad)] [(1,(vIs vs)),(4,vp 1 0),(5,vp 2 0),(20,(vFs f.kids)),(21,vN f.kids.length),(22,vI 0)] [(1,.box zF0),(2,.box [cI f.kind,.d (.raw zad),cB false,.d (nsl []),cB false,.own 3 0]),(3,.row 35 6 ([].map za0.d))] h (by kernel_rfl) rfl rfl
 refine zap (ι:=(Nat)) (fun j=>j<=f.kids.length)
   (fun j=>[(1,(vIs vs)),(4,vp 1 0),(5,vp 2 0),(20,(vFs f.kids)),(21,vN f.kids.length),(22,vN j)])
   (fun j=>[(1,.box zF0),(2,.box [cI f.kind,.d (.raw zad),cB false,.d (nsl []),cB false,.own 3 ((f.kids.take j).map (za0.forg vs)).length]),(3,.row 35 6 (((f.kids.take j).map (za0.forg vs)).map za0.d))])
   (fun j=>f.kids.length - j) 0 ?_ h (by kernel_rfl) (by kernel_rfl) ?_
 ·exact Nat.zero_le _
 clear h;rintro j a w hI h;have lmj:((f.kids.take j).map (za0.forg vs)).length<=j:=by rw [List.length_map,List.length_take];omega
 refine Je 4 [] [] [(23,vb (decide ((j:Int)<(f.kids.length:Int))))] h fun a w h=>qW (zam ((j:Int)<(f.kids.length:Int)) h (fun hc5 hc5'=>?_) (fun hc6 hc6'=>?_))
 ·refine qU (za1 (qW (qZ ?_)));obtain ⟨x3,hx3⟩:=gl f.kids j;refine Jd 4 [(0,.g (xD 24 20 kb_0 ((zab hx3 (f:=za0.d)).trans (congrArg some (za0.d_eq x3))) (OV.tmp 22 _)))] [23] [(7,vp 4 0)] [(1,.box zF0),(2,.box [cI f.kind,.d (.raw zad),cB false,.d (nsl []),cB false,.own 3 ((f.kids.take j).map (za0.forg vs)).length]),(3,.row 35 6 (((f.kids.take j).map (za0.forg vs)).map za0.d)),(4,.box (zF x3))] h fun a w h=>Jm 5 [(4,.call (ih x3 (lM hx3)) me4_8),(5,.g (bD 31 ([(za0.forg vs x3)].map za0.d) [(30,(vF (za0.forg vs x3)))] zkt (.cons (i:=0) (OV.tmp 30 _) (.nil)) (by simp only [List.map_cons,List.map_nil,List.flatten_cons,List.flatten_nil,List.append_nil,za0.d_eq];kernel_rfl) (by simp [za0.d_len]))),(6,.g (aD 32 27 31 3 5 ((f.kids.take j).map (za0.forg vs)) [(za0.forg vs x3)] za0.d la_7 (by simp [za0.d_len])))] [7] [] [(1,.box zF0),(2,.box ([cI f.kind,.d (.raw zad),cB false,.d (nsl []),cB false,.own 5 (((f.kids.take j).map (za0.forg vs))++[(za0.forg vs x3)]).length])),(5,.row 35 6 ((((f.kids.take j).map (za0.forg vs))++[(za0.forg vs x3)]).map za0.d))] h fun a w h=>za8 (za1 (Jf 6 [(0,.j1 j)] [] [(22,vI ((j:Int)+1))] h fun a w h=>za1 ?_));rw [show ((((f.kids.take j).map (za0.forg vs))++[(za0.forg vs x3)]):List za0)=((f.kids.take (j+1)).map (za0.forg vs)) from (zh6 hx3)] at h;replace h:=ze3 5 3 [(1,(vIs vs)),(4,vp 1 0),(5,vp 2 0),(20,(vFs f.kids)),(21,vN f.kids.length),(22,vI ((j:Int)+1))] [(1,.box zF0),(2,.box [cI f.kind,.d (.raw zad),cB false,.d (nsl []),cB false,.own 3 ((f.kids.take (j+1)).map (za0.forg vs)).length]),(3,.row 35 6 (((f.kids.take (j+1)).map (za0.forg vs)).map za0.d))] h;refine zag (x:=j) (y:=j+1) h ?_ ?_
  ·have:=zak hx3;show j+1<=f.kids.length;omega
  show f.kids.length - (j+1)<f.kids.length - j;have:=zak hx3;omega
 refine wp_exit (za9 (za9 (za5 (za1 (Jq 6 [] [(4,vp 1 0)] [(1,.box [cI f.kind,.d (.raw zad),cB false,.d (nsl []),cB false,.own 3 ((f.kids.take j).map (za0.forg vs)).length]),(3,.row 35 6 (((f.kids.take j).map (za0.forg vs)).map za0.d))] h fun a w h=>qV ?_)))));rw [show (((f.kids.take j).map (za0.forg vs)):List za0)=(f.kids.map (za0.forg vs)) from (by rw [List.take_of_length_le (by omega)])] at h;replace h:=zbd 1 1 3 [cI f.kind,.d (.raw zad),cB false,.d (nsl []),cB false,.own 3 (f.kids.map (za0.forg vs)).length] [(4,vp 1 0)] [(1,.box [cI f.kind,cPs [],cB false,.d (nsl []),cB false,.own 3 (f.kids.map (za0.forg vs)).length]),(3,.row 35 6 ((f.kids.map (za0.forg vs)).map za0.d))] h rfl rfl;replace h:=zi0 3 6 35 ((f.kids.map (za0.forg vs)).map za0.d) [(4,vp 1 0)] [(1,.box [cI f.kind,cPs [],cB false,.d (nsl []),cB false,cFs (f.kids.map (za0.forg vs))])] h rfl trivial (show zbw _ [(f.kids.map (za0.forg vs)).length] from ⟨by first | exact (List.length_map _).symm | (simp;done) | (simp;omega),trivial⟩);refine rA 1 [cI f.kind,cPs [],cB false,.d (nsl []),cB false,cFs (f.kids.map (za0.forg vs))] h zct rfl ?_;rw [forg_k (by have:=hc4;simpa using this)];try rfl
theorem Lforget (vs:List Int) (hlv:vs.length<=9223372036854775807) (f:za0):f.okA 300 3000->f.nodes<=1000000->Fn Tryz.prog 58 [] [(vF f),(vIs vs)] (vF (za0.forg vs f)) [] :=
 za0.ind (P:=fun f=>f.okA 300 3000->f.nodes<=1000000->Fn Tryz.prog 58 [] [(vF f),(vIs vs)] (vF (za0.forg vs f)) []) (fun k r ks ih hf hn=>Lforget0 ⟨k,r,ks⟩ vs (fun g hg=>ih g hg (kid_okA2 hf hg) (Nat.le_trans (kid_nodes9 (f:=⟨k,r,ks⟩) hg) hn)) hf hn hlv) f
theorem begA_proc {s:zar} {locs:List Int} {i:Int} (h:(zaf s locs i).2=true):0<=(zaf s locs i).1.proc/\(zaf s locs i).1.proc<(locs.length:Int):=by
 have h:((zaa s i).2 && begB s locs (zaa s i).1)=true:=h
 rw [Bool.and_eq_true] at h
 have h2:=h.2
 unfold begB at h2
 rw [Bool.and_eq_true,decide_eq_true_eq] at h2
 obtain ⟨a,b⟩:=zgd h.1
 exact ⟨a,by show (zaa s i).1.proc<_;omega⟩
theorem LPlaces (s:zar) (locs:List Int) (act:Int) (hs:zb9 3 s) (hl:locs.length<=1000000):Fn Tryz.prog 11 [] [vG (zaj s),(vIs locs),vI act] (.tup [.c (cIs (zkm s locs act).1),.c (cB (zkm s locs act).2)]) []:=by
 have hl9:locs.length<=9223372036854775807:=by omega
 refine Fn.body Tryz.func11 rfl 33 rfl fun w H B a h=>Jq 5 [] [(1,(vIs locs)),(2,vI act),(3,vp 5 0),(6,vW zad),(7,vb false)] [(5,.box (zaj s))] h fun a w h=>qW (Je 6 [] [] [(12,vb (act == (-1)))] h fun a w h=>cS (act == (-1)) h (fun hc1=>?_) (fun hc2=>?_))
 ·have hc1':=hc1;(try simp at hc1');refine Jd 6 [(1,.call (SCloneI locs hl) le5_0)] [12] [(6,vO 0 locs.length),(7,vb true)] [(5,.box (zaj s)),(0,.row 3 1 (locs.map zai))] h fun a w h=>qV (za6 ?_);replace h:=zi0 0 1 3 (locs.map zai) [(1,(vIs locs)),(2,vI act),(3,vp 5 0),(6,(vIs locs)),(7,vb true)] [(5,.box (zaj s))] h rfl (show zbw _ [locs.length] from ⟨by first | exact (List.length_map _).symm | (simp;done) | (simp;omega),trivial⟩) trivial;refine zea [.c (cIs locs),.c (cB true)] h Exit.ret (.inl rfl)  rfl ⟨RV.tmp _ _ rfl,RV.tmp _ _ rfl,trivial⟩ ?_;have hz:zkm s locs act=(locs,true):=by unfold zkm;rw [if_pos (by have:=hc1;simpa using this)]
  rw [hz];try rfl
 have hc2':=hc2;(try simp at hc2');refine qU (za1 (Jd 6 [(3,.call (Lbegins s locs act hs hl9) md3_12)] [2,3,12] [(8,vp 6 0),(9,vb (zaf s locs act).2)] [(6,.box ([cI (zaf s locs act).1.proc,cI (zaf s locs act).1.from_,cI (zaf s locs act).1.to_,cI (zaf s locs act).1.guard.kind,cPs (zaf s locs act).1.guard.r.t.parts]++zi (zaf s locs act).1.guard.r.t.k++[cB (zaf s locs act).1.guard.r.eq,cFs (zaf s locs act).1.guard.kids,.d (.sl 5 ((zaf s locs act).1.moves.map zae.d))]))] h fun a w h=>qW (Je 7 [] [9] [(23,vb (!(zaf s locs act).2))] h fun a w h=>cS (!(zaf s locs act).2) h (fun hc3=>?_) (fun hc4=>?_))))
 ·have hc3':=hc3;(try simp at hc3');refine Je 7 [] [23] [] h fun a w h=>qV (za6 ?_);replace h:=nilDSs 6 0 1 (vW zad) [(1,(vIs locs)),(6,(vIs [])),(7,vb false),(8,vp 6 0)] [(6,.box ([cI (zaf s locs act).1.proc,cI (zaf s locs act).1.from_,cI (zaf s locs act).1.to_,cI (zaf s locs act).1.guard.kind,cPs (zaf s locs act).1.guard.r.t.parts]++zi (zaf s locs act).1.guard.r.t.k++[cB (zaf s locs act).1.guard.r.eq,cFs (zaf s locs act).1.guard.kids,.d (.sl 5 ((zaf s locs act).1.moves.map zae.d))]))] h rfl rfl;refine zea [.c (cIs []),.c (cB false)] h Exit.ret (.inl rfl)  rfl ⟨RV.tmp _ _ rfl,RV.tmp _ _ rfl,trivial⟩ ?_;have hz:zkm s locs act=([],false):=by unfold zkm;rw [if_neg (by have:=hc2;simpa using this),if_neg (by rw [(show ((zaf s locs act).2)=false from by simpa using hc3)];exact Bool.noConfusion)]
  rw [hz];try rfl
 have hc4':=hc4;(try simp at hc4');refine qU (za1 (Jd 7 [(1,.call (SCloneI locs hl) le5_0)] [1,23] [(10,vO 0 locs.length)] [(6,.box ([cI (zaf s locs act).1.proc,cI (zaf s locs act).1.from_,cI (zaf s locs act).1.to_,cI (zaf s locs act).1.guard.kind,cPs (zaf s locs act).1.guard.r.t.parts]++zi (zaf s locs act).1.guard.r.t.k++[cB (zaf s locs act).1.guard.r.eq,cFs (zaf s locs act).1.guard.kids,.d (.sl 5 ((zaf s locs act).1.moves.map zae.d))])),(0,.row 3 1 (locs.map zai))] h fun a w h=>?_));obtain ⟨hbg1,hbg2⟩:=begA_proc (show ((zaf s locs act).2)=true from by simpa using hc4);obtain ⟨kp,hkkp⟩:∃ k_:Nat,(zaf s locs act).1.proc=(k_:Int):=⟨_,(Int.toNat_of_nonneg (hbg1)).symm⟩;replace h:=h.conv (f':=F.of [(6,vW zad),(7,vb false),(8,vp 6 0),(10,vO 0 locs.length)] [(6,.box ([cI (kp:Int),cI (zaf s locs act).1.from_,cI (zaf s locs act).1.to_,cI (zaf s locs act).1.guard.kind,cPs (zaf s locs act).1.guard.r.t.parts]++zi (zaf s locs act).1.guard.r.t.k++[cB (zaf s locs act).1.guard.r.eq,cFs (zaf s locs act).1.guard.kids,.d (.sl 5 ((zaf s locs act).1.moves.map zae.d))])),(0,.row 3 1 (locs.map zai))]) (by rw [hkkp];kernel_rfl);obtain ⟨x4,hx4⟩:=gl locs kp;refine Jq 7 [(5,.g (xO 31 26 0 locs.length kp zi5 (OV.tmp 28 _))),(6,.g (Op.storeR (t:=31) (n:=0) (i:=kp) (fo:=0) (rty:=3) (es:=1) (r:=zai x4) (ds:=[.raw (.int .i64 (zaf s locs act).1.to_)]) (rs:=[(30,vI (zaf s locs act).1.to_)]) (rows:=locs.map zai) (rows':=(locs.set kp (zaf s locs act).1.to_).map zai) tl_7 (OV.tmp 30 _) rfl rfl rfl (zab hx4 (f:=zai)) (by simp [zai]) (zbu (xs:=locs) (F:=zai) kp _ _ rfl)))] [(6,vW zad),(7,vb false),(10,vO 0 locs.length)] [(0,.row 3 1 ((locs.set kp (zaf s locs act).1.to_).map zai))] h fun a w h=>Jp 7 [] [(6,vO 0 locs.length),(7,vb true)] h fun a w h=>qV ?_;replace h:=zi0 0 1 3 ((locs.set kp (zaf s locs act).1.to_).map zai) [(6,(vIs (locs.set kp (zaf s locs act).1.to_))),(7,vb true)] [] h rfl (show zbw _ [locs.length] from ⟨by first | exact (List.length_map _).symm | (simp;done) | (simp;omega),trivial⟩) trivial;refine zea [.c (cIs (locs.set kp (zaf s locs act).1.to_)),.c (cB true)] h Exit.ret (.inl rfl)  rfl ⟨RV.tmp _ _ rfl,RV.tmp _ _ rfl,trivial⟩ ?_;have hz:zkm s locs act=((locs.set kp (zaf s locs act).1.to_),true):=by unfold zkm;rw [if_neg (by have:=hc2;simpa using this),if_pos (show ((zaf s locs act).2)=true from by simpa using hc4),show (zaf s locs act).1.proc.toNat=kp by omega]
 rw [hz];try rfl
end S
end Go.Proofs.YtckmanpooapkpaaGreat
