/-
  The proof of the statement ReportBack: the walk through the program and the references lifted to the given row. It holds for every input.
-/
import Derived.Test.YtlfebjeoeijlfaaDoorRB2
import Derived.Test.YtlfebjeoeijlfaaDoorRB1
import Derived.SizedLaws
import Derived.Test.YtlfebjeoeijlfaaDoorRows
import Derived.Lib.LaidTab
import Derived.Stop.LaidErr
import Derived.Test.YtlfebjeoeijlfaaDoorCards
import Derived.Test.YtlfebjeoeijlfaaDoorTie
import Derived.ProofKit
import Derived.LaidMore
import Derived.OpenShut
import Derived.SevenTiedAt
import Derived.Deep.DeepHandedRow
set_option maxRecDepth 100000
open Go.RowKit
namespace Go.Proofs.YtlfebjeoeijlfaaDoor
namespace S
theorem pi1_1:zaa Tryd.prog 30:=zaa.mk' (by kernel_rfl)
theorem pi1_2:zaa Tryd.prog 31:=zaa.mk' (by kernel_rfl)
theorem wrLies:liesAt Tryd.prog Tryd.prog.depth 77 ((12+2) / Tryd.prog.cellsOf 77) 0 75 1=true:=by kernel_rfl
theorem WrStr (ds:List D) (hd:ds.length=12) (m m2:Nat) (hm:7≠m) (h27:m2≠7) (h2m:m2≠m) (l:List UInt8) (s:ByteArray) (hs:l.length+s.size≤140737488355328):Fn Tryd.prog 30 [(7,.bld 77 (.own m l.length) (ds.map C.d)),(m,.row 5 1 (bw l))] [vp 7 0,vs s] (.tup [.c (cI s.size),.c (.d (.raw .nilIface))]) [(7,.bld 77 (.own m2 (l++s.data.toList).length) (ds.map C.d)),(m2,.row 5 1 (bw (l++s.data.toList)))] :=
 SBWrite Tryd.lays166 Tryd.Builder_Extra_166 (CcOk.at_ { Tryd.lays166 with } Tryd.Builder_Extra_166.toX72 (Nat.succ_pos _) (by rw [hd];exact wrLies)) m m2 hm h27 h2m l s hs
theorem WrByte (ds:List D) (hd:ds.length=12) (m m2:Nat) (hm:7≠m) (h27:m2≠7) (h2m:m2≠m) (l:List UInt8) (c:UInt8) (hs:l.length+1≤140737488355328):Fn Tryd.prog 31 [(7,.bld 77 (.own m l.length) (ds.map C.d)),(m,.row 5 1 (bw l))] [vp 7 0,vi .u8 (c.toNat:Int)] (.t (.c (.d (.raw .nilIface)))) [(7,.bld 77 (.own m2 (l++[c]).length) (ds.map C.d)),(m2,.row 5 1 (bw (l++[c])))] :=
 SBByte Tryd.lays167 Tryd.Builder_Extra_167 (CcOk.at_ { Tryd.lays167 with } Tryd.Builder_Extra_167.toX72 (Nat.succ_pos _) (by rw [hd];exact wrLies)) m m2 hm h27 h2m l c hs
theorem WrString (ds:List D) (m:Nat) (hm:7≠m) (l:List UInt8) (h0:l≠[]):Fn Tryd.prog 22 [(7,.bld 77 (.own m l.length) (ds.map C.d)),(m,.row 5 1 (bw l))] [vp 7 0] (vs ⟨l.toArray⟩) [] :=
 SBString Tryd.lays169 Tryd.Builder_Extra_169 m hm l h0
def zak (ts:List ByteArray):List UInt8:=ts.flatMap fun t=>t.data.toList
def za7 (ts:List ByteArray):List UInt8:=zak ts++[10]
theorem catW_snoc {ts:List ByteArray} {j:Nat} {t:ByteArray} (h:ts[j]?=some t):zak (ts.take j)++t.data.toList=zak (ts.take (j+1)):=by
 unfold zak;rw [List.take_add_one,h,List.flatMap_append];simp
theorem catW_le {ts:List ByteArray} {j:Nat} {t:ByteArray} (h:ts[j]?=some t):(zak (ts.take j)).length+t.size≤(zak ts).length:=by
 have e:zak ts=zak (ts.take (j+1))++zak (ts.drop (j+1)):=by unfold zak;rw [← List.flatMap_append,List.take_append_drop]
 have e2:=congrArg List.length (catW_snoc h)
 have e1:=congrArg List.length e
 rw [List.length_append] at e1 e2
 rw [baL];omega
theorem zb3 (ts:List ByteArray):(za7 ts).length=(zak ts).length+1:=by unfold za7;rw [List.length_append];rfl
abbrev q1 (ts:List ByteArray):V:=.t (.c (.d (.sl 1 (ts.map za3))))
set_option maxHeartbeats 4000000 in
theorem WLineA (d0 d1 d2 d3 d4 d5 d6 d7 d8 d9 d10 d11:D) (l:List UInt8) (ts:List ByteArray) (hl:l.length+(za7 ts).length≤4294967296) (ht:ts.length≤1000000):Fn Tryd.prog 19 [(7,.bld 77 (.own 8 l.length) [.d d0,.d d1,.d d2,.d d3,.d d4,.d d5,.d d6,.d d7,.d d8,.d d9,.d d10,.d d11]),(8,.row 5 1 (bw l))] [vp 7 0,.t (.c (.d (.sl 1 (ts.map za3))))] (.tup []) [(7,.bld 77 (.own 9 (l++za7 ts).length) [.d d0,.d d1,.d d2,.d d3,.d d4,.d d5,.d d6,.d d7,.d d8,.d d9,.d d10,.d d11]),(9,.row 5 1 (bw (l++za7 ts)))]:=by
 have lln:=zb3 ts
 refine Fn.body Tryd.func19 rfl 22 rfl fun w H B a h=>?_
 refine wp_seq (rq zac 30 [(1,.len (c:=(.d (.sl 1 (ts.map za3)))) (n:=ts.length) (za8 _ _ _))] [(0,vp 7 0),(6,q1 ts),(7,vi .i64 (ts.length:Int)),(8,vi .i64 0)] [(7,.bld 77 (.own 8 l.length) [.d d0,.d d1,.d d2,.d d3,.d d4,.d d5,.d d6,.d d7,.d d8,.d d9,.d d10,.d d11]),(8,.row 5 1 (bw l))] h ?_);clear h;intro a w h
 refine wp_block ?_
 replace h:=renS 8 20 [(0,vp 7 0),(6,q1 ts),(7,vi .i64 (ts.length:Int)),(8,vi .i64 0)] [(7,.bld 77 (.own 20 l.length) [.d d0,.d d1,.d d2,.d d3,.d d4,.d d5,.d d6,.d d7,.d d8,.d d9,.d d10,.d d11]),(20,.row 5 1 (bw l))] h
 replace h:=h.conv (f':=F.of [(0,vp 7 0),(6,q1 ts),(7,vi .i64 (ts.length:Int)),(8,vi .i64 0)] [(7,.bld 77 (.own 20 (l++zak (ts.take 0)).length) [.d d0,.d d1,.d d2,.d d3,.d d4,.d d5,.d d6,.d d7,.d d8,.d d9,.d d10,.d d11]),(20,.row 5 1 (bw (l++zak (ts.take 0))))]) (congrArg (fun (z_:List UInt8)=>F.of [(0,vp 7 0),(6,q1 ts),(7,vi .i64 (ts.length:Int)),(8,vi .i64 0)] [(7,.bld 77 (.own 20 z_.length) [.d d0,.d d1,.d d2,.d d3,.d d4,.d d5,.d d6,.d d7,.d d8,.d d9,.d d10,.d d11]),(20,.row 5 1 (bw z_))]) (show (l:List UInt8)=(l++zak (ts.take 0)) from (by simp [zak])))
 refine zch (ι:=(Nat)) (fun (z_:(Nat))=>match z_ with | j=>j≤ts.length)
   (fun (z_:(Nat))=>match z_ with | j=>[(0,vp 7 0),(6,q1 ts),(7,vi .i64 (ts.length:Int)),(8,vi .i64 (j:Int))])
   (fun (z_:(Nat))=>match z_ with | j=>[(7,.bld 77 (.own 20 (l++zak (ts.take j)).length) [.d d0,.d d1,.d d2,.d d3,.d d4,.d d5,.d d6,.d d7,.d d8,.d d9,.d d10,.d d11]),(20,.row 5 1 (bw (l++zak (ts.take j))))])
   (fun (z_:(Nat))=>match z_ with | j=>ts.length - j) 0 ?_ h (by kernel_rfl) (by kernel_rfl) ?_
 ·exact Nat.zero_le _
 ·clear h;rintro j a w hI h
  change St _ (F.of [(0,vp 7 0),(6,q1 ts),(7,vi .i64 (ts.length:Int)),(8,vi .i64 (j:Int))] [(7,.bld 77 (.own 20 (l++zak (ts.take j)).length) [.d d0,.d d1,.d d2,.d d3,.d d4,.d d5,.d d6,.d d7,.d d8,.d d9,.d d10,.d d11]),(20,.row 5 1 (bw (l++zak (ts.take j))))]) a w at h
  refine rq zac 30 [] [(0,vp 7 0),(6,q1 ts),(7,vi .i64 (ts.length:Int)),(8,vi .i64 (j:Int)),(9,vb (decide ((j:Int)<(ts.length:Int))))] [(7,.bld 77 (.own 20 (l++zak (ts.take j)).length) [.d d0,.d d1,.d d2,.d d3,.d d4,.d d5,.d d6,.d d7,.d d8,.d d9,.d d10,.d d11]),(20,.row 5 1 (bw (l++zak (ts.take j))))] h ?_;clear h;intro a w h
  refine wp_seq ?_
  refine zad (decide ((j:Int)<(ts.length:Int))) h rfl (fun hc=>?_) (fun hc=>?_)
  ·have hc1:=hc;clear hc
   have hc1':=of_decide_eq_true hc1
   refine wp_skip (za5 (wp_seq (wp_block ?_)))
   obtain ⟨x1,hx1⟩:∃ z_:ByteArray,ts[j]?=some z_:=⟨_,List.getElem?_eq_getElem (by first | omega | (simp at *;omega))⟩
   have lcx1:=catW_le hx1
   refine rq zac 30 [(0,.gen _ _ _ fun _ _ _ _=>Op.idxD (d:=10) (t:=6) (k:=.i64) pa1_4 (zb2 hx1 (f:=za3)) (OV.tmp 8 _))] [(0,vp 7 0),(5,.t (.c (.d (.raw (.string x1))))),(6,q1 ts),(7,vi .i64 (ts.length:Int)),(8,vi .i64 (j:Int))] [(7,.bld 77 (.own 20 (l++zak (ts.take j)).length) [.d d0,.d d1,.d d2,.d d3,.d d4,.d d5,.d d6,.d d7,.d d8,.d d9,.d d10,.d d11]),(20,.row 5 1 (bw (l++zak (ts.take j))))] h ?_;clear h;intro a w h
   refine rn zac 30 [(1,.gen _ _ _ fun _ _ _ _=>Op.nilP (d:=13) (t:=12) (n:=7) (o:=0)),(4,.call (WrStr [d0,d1,d2,d3,d4,d5,d6,d7,d8,d9,d10,d11] rfl 20 30 (by decide) (by decide) (by decide) (l++zak (ts.take j)) x1 (by (try rw [List.length_append]);omega)) pi1_1)] [(0,vp 7 0),(6,q1 ts),(7,vi .i64 (ts.length:Int)),(8,vi .i64 (j:Int))] [(7,.bld 77 (.own 30 ((l++zak (ts.take j))++x1.data.toList).length) [.d d0,.d d1,.d d2,.d d3,.d d4,.d d5,.d d6,.d d7,.d d8,.d d9,.d d10,.d d11]),(30,.row 5 1 (bw ((l++zak (ts.take j))++x1.data.toList)))] h ?_;clear h;intro a w h
   refine zar (za5 (rn zac 31 [(0,.add .i64 (m:=(j:Int)) (n:=1) (zam (by omega) (by omega)))] [(0,vp 7 0),(6,q1 ts),(7,vi .i64 (ts.length:Int)),(8,vi .i64 ((j:Int)+1))] [(7,.bld 77 (.own 30 ((l++zak (ts.take j))++x1.data.toList).length) [.d d0,.d d1,.d d2,.d d3,.d d4,.d d5,.d d6,.d d7,.d d8,.d d9,.d d10,.d d11]),(30,.row 5 1 (bw ((l++zak (ts.take j))++x1.data.toList)))] h ?_));clear h;intro a w h
   refine za5 ?_
   replace h:=renS 30 20 [(0,vp 7 0),(6,q1 ts),(7,vi .i64 (ts.length:Int)),(8,vi .i64 ((j:Int)+1))] [(7,.bld 77 (.own 20 ((l++zak (ts.take j))++x1.data.toList).length) [.d d0,.d d1,.d d2,.d d3,.d d4,.d d5,.d d6,.d d7,.d d8,.d d9,.d d10,.d d11]),(20,.row 5 1 (bw ((l++zak (ts.take j))++x1.data.toList)))] h
   replace h:=h.conv (f':=F.of [(0,vp 7 0),(6,q1 ts),(7,vi .i64 (ts.length:Int)),(8,vi .i64 ((j:Int)+1))] [(7,.bld 77 (.own 20 (l++zak (ts.take (j+1))).length) [.d d0,.d d1,.d d2,.d d3,.d d4,.d d5,.d d6,.d d7,.d d8,.d d9,.d d10,.d d11]),(20,.row 5 1 (bw (l++zak (ts.take (j+1)))))]) (congrArg (fun (z_:List UInt8)=>F.of [(0,vp 7 0),(6,q1 ts),(7,vi .i64 (ts.length:Int)),(8,vi .i64 ((j:Int)+1))] [(7,.bld 77 (.own 20 z_.length) [.d d0,.d d1,.d d2,.d d3,.d d4,.d d5,.d d6,.d d7,.d d8,.d d9,.d d10,.d d11]),(20,.row 5 1 (bw z_))]) (show (((l++zak (ts.take j))++x1.data.toList):List UInt8)=(l++zak (ts.take (j+1))) from (by rw [List.append_assoc,catW_snoc hx1])))
   refine zb5 (x:=j) (y:=j+1) h ?_ ?_
   ·have:=zat hx1
    show j+1≤ts.length
    omega
   ·show ts.length - (j+1)<ts.length - j
    have:=zat hx1;omega
  ·have hc2:=hc;clear hc
   have hc2':=of_decide_eq_false hc2
   refine wp_exit (zap (zap (zae (za5 ?_))))
   replace h:=h.conv (f':=F.of [(0,vp 7 0),(6,q1 ts),(7,vi .i64 (ts.length:Int)),(8,vi .i64 (j:Int)),(9,vb (decide ((j:Int)<(ts.length:Int))))] [(7,.bld 77 (.own 20 (l++zak ts).length) [.d d0,.d d1,.d d2,.d d3,.d d4,.d d5,.d d6,.d d7,.d d8,.d d9,.d d10,.d d11]),(20,.row 5 1 (bw (l++zak ts)))]) (congrArg (fun (z_:List UInt8)=>F.of [(0,vp 7 0),(6,q1 ts),(7,vi .i64 (ts.length:Int)),(8,vi .i64 (j:Int)),(9,vb (decide ((j:Int)<(ts.length:Int))))] [(7,.bld 77 (.own 20 z_.length) [.d d0,.d d1,.d d2,.d d3,.d d4,.d d5,.d d6,.d d7,.d d8,.d d9,.d d10,.d d11]),(20,.row 5 1 (bw z_))]) (show ((l++zak (ts.take j)):List UInt8)=(l++zak ts) from (by rw [List.take_of_length_le (by have:=of_decide_eq_false hc2;omega)])))
   refine rn zac 31 [(1,.gen _ _ _ fun _ _ _ _=>Op.nilP (d:=19) (t:=18) (n:=7) (o:=0)),(3,.call (WrByte [d0,d1,d2,d3,d4,d5,d6,d7,d8,d9,d10,d11] rfl 20 31 (by decide) (by decide) (by decide) (l++zak ts) 10 (by (try rw [List.length_append]);omega)) pi1_2)] [] [(7,.bld 77 (.own 31 ((l++zak ts)++[10]).length) [.d d0,.d d1,.d d2,.d d3,.d d4,.d d5,.d d6,.d d7,.d d8,.d d9,.d d10,.d d11]),(31,.row 5 1 (bw ((l++zak ts)++[10])))] h ?_;clear h;intro a w h
   replace h:=renS 31 9 [] [(7,.bld 77 (.own 9 ((l++zak ts)++[10]).length) [.d d0,.d d1,.d d2,.d d3,.d d4,.d d5,.d d6,.d d7,.d d8,.d d9,.d d10,.d d11]),(9,.row 5 1 (bw ((l++zak ts)++[10])))] h
   replace h:=h.conv (f':=F.of [] [(7,.bld 77 (.own 9 (l++za7 ts).length) [.d d0,.d d1,.d d2,.d d3,.d d4,.d d5,.d d6,.d d7,.d d8,.d d9,.d d10,.d d11]),(9,.row 5 1 (bw (l++za7 ts)))]) (congrArg (fun (z_:List UInt8)=>F.of [] [(7,.bld 77 (.own 9 z_.length) [.d d0,.d d1,.d d2,.d d3,.d d4,.d d5,.d d6,.d d7,.d d8,.d d9,.d d10,.d d11]),(9,.row 5 1 (bw z_))]) (show (((l++zak ts)++[10]):List UInt8)=(l++za7 ts) from (by unfold za7;rw [List.append_assoc])))
   refine zb0 [] h Exit.normal (.inr rfl)  rfl trivial ?_
   rfl
abbrev q2 (ts:List ByteArray):V:=.t (.c (.d (.sl 1 (ts.map za3))))
set_option maxHeartbeats 4000000 in
theorem WLineB (d0 d1 d2 d3 d4 d5 d6 d7 d8 d9 d10 d11:D) (l:List UInt8) (ts:List ByteArray) (hl:l.length+(za7 ts).length≤4294967296) (ht:ts.length≤1000000):Fn Tryd.prog 19 [(7,.bld 77 (.own 9 l.length) [.d d0,.d d1,.d d2,.d d3,.d d4,.d d5,.d d6,.d d7,.d d8,.d d9,.d d10,.d d11]),(9,.row 5 1 (bw l))] [vp 7 0,.t (.c (.d (.sl 1 (ts.map za3))))] (.tup []) [(7,.bld 77 (.own 10 (l++za7 ts).length) [.d d0,.d d1,.d d2,.d d3,.d d4,.d d5,.d d6,.d d7,.d d8,.d d9,.d d10,.d d11]),(10,.row 5 1 (bw (l++za7 ts)))]:=by
 have lln:=zb3 ts
 refine Fn.body Tryd.func19 rfl 22 rfl fun w H B a h=>?_
 refine wp_seq (rq zac 30 [(1,.len (c:=(.d (.sl 1 (ts.map za3)))) (n:=ts.length) (za8 _ _ _))] [(0,vp 7 0),(6,q2 ts),(7,vi .i64 (ts.length:Int)),(8,vi .i64 0)] [(7,.bld 77 (.own 9 l.length) [.d d0,.d d1,.d d2,.d d3,.d d4,.d d5,.d d6,.d d7,.d d8,.d d9,.d d10,.d d11]),(9,.row 5 1 (bw l))] h ?_);clear h;intro a w h
 refine wp_block ?_
 replace h:=renS 9 20 [(0,vp 7 0),(6,q2 ts),(7,vi .i64 (ts.length:Int)),(8,vi .i64 0)] [(7,.bld 77 (.own 20 l.length) [.d d0,.d d1,.d d2,.d d3,.d d4,.d d5,.d d6,.d d7,.d d8,.d d9,.d d10,.d d11]),(20,.row 5 1 (bw l))] h
 replace h:=h.conv (f':=F.of [(0,vp 7 0),(6,q2 ts),(7,vi .i64 (ts.length:Int)),(8,vi .i64 0)] [(7,.bld 77 (.own 20 (l++zak (ts.take 0)).length) [.d d0,.d d1,.d d2,.d d3,.d d4,.d d5,.d d6,.d d7,.d d8,.d d9,.d d10,.d d11]),(20,.row 5 1 (bw (l++zak (ts.take 0))))]) (congrArg (fun (z_:List UInt8)=>F.of [(0,vp 7 0),(6,q2 ts),(7,vi .i64 (ts.length:Int)),(8,vi .i64 0)] [(7,.bld 77 (.own 20 z_.length) [.d d0,.d d1,.d d2,.d d3,.d d4,.d d5,.d d6,.d d7,.d d8,.d d9,.d d10,.d d11]),(20,.row 5 1 (bw z_))]) (show (l:List UInt8)=(l++zak (ts.take 0)) from (by simp [zak])))
 refine zch (ι:=(Nat)) (fun (z_:(Nat))=>match z_ with | j=>j≤ts.length)
   (fun (z_:(Nat))=>match z_ with | j=>[(0,vp 7 0),(6,q2 ts),(7,vi .i64 (ts.length:Int)),(8,vi .i64 (j:Int))])
   (fun (z_:(Nat))=>match z_ with | j=>[(7,.bld 77 (.own 20 (l++zak (ts.take j)).length) [.d d0,.d d1,.d d2,.d d3,.d d4,.d d5,.d d6,.d d7,.d d8,.d d9,.d d10,.d d11]),(20,.row 5 1 (bw (l++zak (ts.take j))))])
   (fun (z_:(Nat))=>match z_ with | j=>ts.length - j) 0 ?_ h (by kernel_rfl) (by kernel_rfl) ?_
 ·exact Nat.zero_le _
 ·clear h;rintro j a w hI h
  change St _ (F.of [(0,vp 7 0),(6,q2 ts),(7,vi .i64 (ts.length:Int)),(8,vi .i64 (j:Int))] [(7,.bld 77 (.own 20 (l++zak (ts.take j)).length) [.d d0,.d d1,.d d2,.d d3,.d d4,.d d5,.d d6,.d d7,.d d8,.d d9,.d d10,.d d11]),(20,.row 5 1 (bw (l++zak (ts.take j))))]) a w at h
  refine rq zac 30 [] [(0,vp 7 0),(6,q2 ts),(7,vi .i64 (ts.length:Int)),(8,vi .i64 (j:Int)),(9,vb (decide ((j:Int)<(ts.length:Int))))] [(7,.bld 77 (.own 20 (l++zak (ts.take j)).length) [.d d0,.d d1,.d d2,.d d3,.d d4,.d d5,.d d6,.d d7,.d d8,.d d9,.d d10,.d d11]),(20,.row 5 1 (bw (l++zak (ts.take j))))] h ?_;clear h;intro a w h
  refine wp_seq ?_
  refine zad (decide ((j:Int)<(ts.length:Int))) h rfl (fun hc=>?_) (fun hc=>?_)
  ·have hc1:=hc;clear hc
   have hc1':=of_decide_eq_true hc1
   refine wp_skip (za5 (wp_seq (wp_block ?_)))
   obtain ⟨x1,hx1⟩:∃ z_:ByteArray,ts[j]?=some z_:=⟨_,List.getElem?_eq_getElem (by first | omega | (simp at *;omega))⟩
   have lcx1:=catW_le hx1
   refine rq zac 30 [(0,.gen _ _ _ fun _ _ _ _=>Op.idxD (d:=10) (t:=6) (k:=.i64) pa1_4 (zb2 hx1 (f:=za3)) (OV.tmp 8 _))] [(0,vp 7 0),(5,.t (.c (.d (.raw (.string x1))))),(6,q2 ts),(7,vi .i64 (ts.length:Int)),(8,vi .i64 (j:Int))] [(7,.bld 77 (.own 20 (l++zak (ts.take j)).length) [.d d0,.d d1,.d d2,.d d3,.d d4,.d d5,.d d6,.d d7,.d d8,.d d9,.d d10,.d d11]),(20,.row 5 1 (bw (l++zak (ts.take j))))] h ?_;clear h;intro a w h
   refine rn zac 30 [(1,.gen _ _ _ fun _ _ _ _=>Op.nilP (d:=13) (t:=12) (n:=7) (o:=0)),(4,.call (WrStr [d0,d1,d2,d3,d4,d5,d6,d7,d8,d9,d10,d11] rfl 20 30 (by decide) (by decide) (by decide) (l++zak (ts.take j)) x1 (by (try rw [List.length_append]);omega)) pi1_1)] [(0,vp 7 0),(6,q2 ts),(7,vi .i64 (ts.length:Int)),(8,vi .i64 (j:Int))] [(7,.bld 77 (.own 30 ((l++zak (ts.take j))++x1.data.toList).length) [.d d0,.d d1,.d d2,.d d3,.d d4,.d d5,.d d6,.d d7,.d d8,.d d9,.d d10,.d d11]),(30,.row 5 1 (bw ((l++zak (ts.take j))++x1.data.toList)))] h ?_;clear h;intro a w h
   refine zar (za5 (rn zac 31 [(0,.add .i64 (m:=(j:Int)) (n:=1) (zam (by omega) (by omega)))] [(0,vp 7 0),(6,q2 ts),(7,vi .i64 (ts.length:Int)),(8,vi .i64 ((j:Int)+1))] [(7,.bld 77 (.own 30 ((l++zak (ts.take j))++x1.data.toList).length) [.d d0,.d d1,.d d2,.d d3,.d d4,.d d5,.d d6,.d d7,.d d8,.d d9,.d d10,.d d11]),(30,.row 5 1 (bw ((l++zak (ts.take j))++x1.data.toList)))] h ?_));clear h;intro a w h
   refine za5 ?_
   replace h:=renS 30 20 [(0,vp 7 0),(6,q2 ts),(7,vi .i64 (ts.length:Int)),(8,vi .i64 ((j:Int)+1))] [(7,.bld 77 (.own 20 ((l++zak (ts.take j))++x1.data.toList).length) [.d d0,.d d1,.d d2,.d d3,.d d4,.d d5,.d d6,.d d7,.d d8,.d d9,.d d10,.d d11]),(20,.row 5 1 (bw ((l++zak (ts.take j))++x1.data.toList)))] h
   replace h:=h.conv (f':=F.of [(0,vp 7 0),(6,q2 ts),(7,vi .i64 (ts.length:Int)),(8,vi .i64 ((j:Int)+1))] [(7,.bld 77 (.own 20 (l++zak (ts.take (j+1))).length) [.d d0,.d d1,.d d2,.d d3,.d d4,.d d5,.d d6,.d d7,.d d8,.d d9,.d d10,.d d11]),(20,.row 5 1 (bw (l++zak (ts.take (j+1)))))]) (congrArg (fun (z_:List UInt8)=>F.of [(0,vp 7 0),(6,q2 ts),(7,vi .i64 (ts.length:Int)),(8,vi .i64 ((j:Int)+1))] [(7,.bld 77 (.own 20 z_.length) [.d d0,.d d1,.d d2,.d d3,.d d4,.d d5,.d d6,.d d7,.d d8,.d d9,.d d10,.d d11]),(20,.row 5 1 (bw z_))]) (show (((l++zak (ts.take j))++x1.data.toList):List UInt8)=(l++zak (ts.take (j+1))) from (by rw [List.append_assoc,catW_snoc hx1])))
   refine zb5 (x:=j) (y:=j+1) h ?_ ?_
   ·have:=zat hx1
    show j+1≤ts.length
    omega
   ·show ts.length - (j+1)<ts.length - j
    have:=zat hx1;omega
  ·have hc2:=hc;clear hc
   have hc2':=of_decide_eq_false hc2
   refine wp_exit (zap (zap (zae (za5 ?_))))
   replace h:=h.conv (f':=F.of [(0,vp 7 0),(6,q2 ts),(7,vi .i64 (ts.length:Int)),(8,vi .i64 (j:Int)),(9,vb (decide ((j:Int)<(ts.length:Int))))] [(7,.bld 77 (.own 20 (l++zak ts).length) [.d d0,.d d1,.d d2,.d d3,.d d4,.d d5,.d d6,.d d7,.d d8,.d d9,.d d10,.d d11]),(20,.row 5 1 (bw (l++zak ts)))]) (congrArg (fun (z_:List UInt8)=>F.of [(0,vp 7 0),(6,q2 ts),(7,vi .i64 (ts.length:Int)),(8,vi .i64 (j:Int)),(9,vb (decide ((j:Int)<(ts.length:Int))))] [(7,.bld 77 (.own 20 z_.length) [.d d0,.d d1,.d d2,.d d3,.d d4,.d d5,.d d6,.d d7,.d d8,.d d9,.d d10,.d d11]),(20,.row 5 1 (bw z_))]) (show ((l++zak (ts.take j)):List UInt8)=(l++zak ts) from (by rw [List.take_of_length_le (by have:=of_decide_eq_false hc2;omega)])))
   refine rn zac 31 [(1,.gen _ _ _ fun _ _ _ _=>Op.nilP (d:=19) (t:=18) (n:=7) (o:=0)),(3,.call (WrByte [d0,d1,d2,d3,d4,d5,d6,d7,d8,d9,d10,d11] rfl 20 31 (by decide) (by decide) (by decide) (l++zak ts) 10 (by (try rw [List.length_append]);omega)) pi1_2)] [] [(7,.bld 77 (.own 31 ((l++zak ts)++[10]).length) [.d d0,.d d1,.d d2,.d d3,.d d4,.d d5,.d d6,.d d7,.d d8,.d d9,.d d10,.d d11]),(31,.row 5 1 (bw ((l++zak ts)++[10])))] h ?_;clear h;intro a w h
   replace h:=renS 31 10 [] [(7,.bld 77 (.own 10 ((l++zak ts)++[10]).length) [.d d0,.d d1,.d d2,.d d3,.d d4,.d d5,.d d6,.d d7,.d d8,.d d9,.d d10,.d d11]),(10,.row 5 1 (bw ((l++zak ts)++[10])))] h
   replace h:=h.conv (f':=F.of [] [(7,.bld 77 (.own 10 (l++za7 ts).length) [.d d0,.d d1,.d d2,.d d3,.d d4,.d d5,.d d6,.d d7,.d d8,.d d9,.d d10,.d d11]),(10,.row 5 1 (bw (l++za7 ts)))]) (congrArg (fun (z_:List UInt8)=>F.of [] [(7,.bld 77 (.own 10 z_.length) [.d d0,.d d1,.d d2,.d d3,.d d4,.d d5,.d d6,.d d7,.d d8,.d d9,.d d10,.d d11]),(10,.row 5 1 (bw z_))]) (show (((l++zak ts)++[10]):List UInt8)=(l++za7 ts) from (by unfold za7;rw [List.append_assoc])))
   refine zb0 [] h Exit.normal (.inr rfl)  rfl trivial ?_
   rfl
structure SwOk (iy iy' ix:I) (n:Nat) (A':L):Prop where
  wl:iy.wl=[]
  wl':iy'.wl=[]
  nw':iy'.nw=[]
  ws:iy.ws=iy'.ws
  rs:iy.rs=iy'.rs
  rl':iy'.rl=[(n,A')]
  xw:ix.wl.lookup n=some (some A')
  a1:∀ t ∈ ix.ws.map (·.1),t ∉ iy.ws.map (·.1)
  a2:∀ t ∈ ix.rs.map (·.1),t ∉ iy.ws.map (·.1)
  a3:∀ t ∈ iy.rs.map (·.1),t ∉ ix.ws.map (·.1)
def swpB (iy iy' ix:I):Bool:=iy.wl.isEmpty && (iy'.wl.isEmpty && (iy'.nw.isEmpty && (zbu (ix.ws.map (·.1)) (iy.ws.map (·.1)) && (zbu (ix.rs.map (·.1)) (iy.ws.map (·.1)) && zbu (iy.rs.map (·.1)) (ix.ws.map (·.1))))))
theorem SwOk.of {iy iy' ix:I} {n:Nat} {A':L} (h:swpB iy iy' ix=true) (h1:iy.ws=iy'.ws) (h2:iy.rs=iy'.rs) (h3:ix.wl.lookup n=some (some A')) (h4:iy'.rl=[(n,A')]):SwOk iy iy' ix n A':=by
 simp only [swpB,Bool.and_eq_true] at h
 obtain ⟨b1,b2,b3,b4,b5,b6⟩:=h
 exact ⟨by simpa using b1,by simpa using b2,by simpa using b3,h1,h2,h4,h3,fun t ht=>zao b4 ht,fun t ht=>zao b5 ht,fun t ht=>zao b6 ht⟩
theorem SwOk.swap {iy iy' ix:I} {n:Nat} {A':L} (h:SwOk iy iy' ix n A') {f:F} (hy:zcq f iy) (hx:zcq (f.app iy) ix):zcq f ix∧zcq (f.app ix) iy'∧(f.app iy).app ix=(f.app ix).app iy':=by
 have hl:∀ m,(f.app iy).l m=f.l m:=app0_l f iy h.wl
 refine ⟨⟨fun p hp=>?_,fun p hp=>?_⟩,⟨fun p hp=>?_,fun p hp=>?_⟩,?_⟩
 ·rw [← hx.1 p hp,zcn (h.a2 _ (List.mem_map.2 ⟨p,hp,rfl⟩))]
 ·rw [← hx.2 p hp,hl]
 ·rw [← h.rs] at hp
  rw [zcn (h.a3 _ (List.mem_map.2 ⟨p,hp,rfl⟩))];exact hy.1 p hp
 ·rw [h.rl'] at hp
  rw [List.mem_singleton.1 hp]
  simp only [F.app,h.xw]
 ·simp only [F.app,F.mk.injEq]
  constructor
  ·funext t
   rw [← h.ws]
   by_cases ht:t ∈ iy.ws.map (·.1)
   ·have:t ∉ ix.ws.map (·.1):=fun hx=>h.a1 t hx ht
    rw [zb6 this]
   ·rw [zb6 ht]
  ·funext m
   rw [h.wl,h.wl']
   rfl
theorem zca.congr {is is':List I} {g:F}:∀ (l:List Nat) (f:F),(∀ j ∈ l,at_ is' j=at_ is j)→zca is f l g→zca is' f l g
 | [],_,_,h=>h
 | k :: l,f,hc,h=>by
  have e:=hc k (by simp)
  refine ⟨by rw [e];exact h.1,?_⟩
  rw [e]
  exact zca.congr l _ (fun j hj=>hc j (by simp [hj])) h.2
theorem zca.sw {is is':List I} {g:F} {x y n:Nat} {A':L} {l2:List Nat} (hsw:SwOk (at_ is y) (at_ is' y) (at_ is x) n A'):∀ (l1:List Nat) (f:F),zca is f (l1++x :: l2) g→y ∈ l1→l1.Nodup →
  (∀ j ∈ l1,j≠y→Disj (at_ is j) (at_ is x))→(∀ j,j≠y→at_ is' j=at_ is j)→y ∉ l2→zcq f (at_ is x)∧zca is' (f.app (at_ is x)) (l1++l2) g
 | [],_,_,hy,_,_,_,_=>by cases hy
 | j :: l1,f,h,hy,hnd,hd,hc,h2=>by
  obtain ⟨h1,h3⟩:=h
  obtain ⟨hn1,hn2⟩:=List.nodup_cons.1 hnd
  by_cases hjy:j=y
  ·subst hjy
   obtain ⟨h4,h5⟩:=zca.first l1 _ h3 fun k hk=>hd k (by simp [hk]) fun e=>hn1 (e ▸ hk)
   obtain ⟨g1,g2,g3⟩:=hsw.swap h1 h4
   refine ⟨g1,g2,?_⟩
   rw [← g3]
   refine zca.congr _ _ (fun k hk=>hc k fun e=>?_) h5
   subst e
   rcases List.mem_append.1 hk with hk | hk
   ·exact hn1 hk
   ·exact h2 hk
  ·have hyl:y ∈ l1:=by
    rcases List.mem_cons.1 hy with e | e
    ·exact absurd e.symm hjy
    ·exact e
   obtain ⟨h4,h5⟩:=zca.sw hsw l1 _ h3 hyl hn2 (fun k hk=>hd k (by simp [hk])) hc h2
   have hj:=hd j (by simp) hjy
   refine ⟨hj.reads.1 h4,?_,?_⟩
   ·rw [hc j hjy];exact hj.symm.reads.2 h1
   ·rw [hc j hjy,← hj.comm];exact h5
def pairsX (x y:Nat) (ops:List Oper) (is:List I):Bool :=
  let ms:=zcs ops
  (List.range ops.length).all fun k =>
    ((pre (ops.getD k default)).all fun p=>Nat.blt p k) &&
    (List.range k).all fun j=>ment (at_ is j) (at_ is k) && ((Nat.beq k x && Nat.beq j y) || (ms.getD k 0).testBit j || (disj (at_ is j) (at_ is k) && ment (at_ is k) (at_ is j)))
theorem zbe {x y:Nat} {ops:List Oper} {is:List I} (h:pairsX x y ops is=true) {k:Nat} (hk:k<ops.length) :
  (∀ p ∈ pre (ops.getD k default),p<k)∧∀ j,j<k→ment (at_ is j) (at_ is k)=true∧((k=x∧j=y)∨((zcs ops).getD k 0).testBit j=true∨(Disj (at_ is j) (at_ is k)∧ment (at_ is k) (at_ is j)=true)):=by
 have h1:=List.all_eq_true.1 h k (List.mem_range.2 hk)
 rw [Bool.and_eq_true] at h1
 refine ⟨fun p hp=>by have:=List.all_eq_true.1 h1.1 p hp;simpa [Nat.blt_eq] using this,fun j hj=>?_⟩
 have h2:=List.all_eq_true.1 h1.2 j (List.mem_range.2 hj)
 rw [Bool.and_eq_true] at h2
 refine ⟨h2.1,?_⟩
 have h3:=h2.2
 simp only [Bool.or_eq_true,Bool.and_eq_true] at h3
 rcases h3 with (h3 | h3) | h3
 ·exact .inl ⟨Nat.eq_of_beq_eq_true h3.1,Nat.eq_of_beq_eq_true h3.2⟩
 ·exact .inr (.inl h3)
 ·exact .inr (.inr ⟨disj_spec h3.1,h3.2⟩)
section
variable {P:Program} {ops:Array Oper} {e:E} {g:F} {Q:Exit→Act→World→Prop}
theorem ready_least {is:List I} {x y:Nat} (hpo:pairsX x y ops.toList is=true) {listed:Array Bool} (hsz:listed.size=ops.size) {k:Nat} (hk:left listed ops.size=k :: (left listed ops.size).tail):k ∈ Region.ready .any ops listed:=by
  obtain ⟨h1,h2⟩:=zb1.1 (show k ∈ left listed ops.size by rw [hk];simp)
  rw [mem_ready]
  refine ⟨h2,ops[k],Array.getElem?_eq_getElem h1,fun ed he hbd=>?_⟩
  have hlt:ed.on<k:=by
    have hop:ops.toList.getD k default=ops[k]:=by simp [h1]
    have:=(zbe hpo (k:=k) (by simpa using h1)).1 ed.on (by
      rw [hop]
      exact List.mem_map.2 ⟨ed,List.mem_filter.2 ⟨by simpa using he,hbd⟩,rfl⟩)
    exact this
  rcases hx:listed.getD ed.on false with _ | _
  · exfalso
    have hlt2:ed.on<listed.size:=by omega
    have hx2:listed.getD ed.on true=false:=by
      rw [Array.getD_eq_getD_getElem?, Array.getElem?_eq_getElem hlt2] at hx ⊢
      exact hx
    have hm:ed.on ∈ left listed ops.size:=zb1.2 ⟨by omega,hx2⟩
    have hs:(left listed ops.size).Pairwise (·<·):=List.Pairwise.filter _ (List.pairwise_lt_range)
    rw [hk] at hm hs
    rcases List.mem_cons.1 hm with h3 | h3
    · omega
    · have:=(List.pairwise_cons.1 hs).1 _ h3;omega
  · rfl
theorem not_ahead {listed:Array Bool} (hsz:listed.size=ops.size) (hcl:∀ k o,ops[k]?=some o→listed.getD k true=true→∀ p ∈ pre o,listed.getD p false=true) {k:Nat} {o:Oper} (ho:ops[k]?=some o) (hall:∀ ed ∈ o.after,Region.binds .any ed=true→listed.getD ed.on false=true) :
  (∀ p ∈ pre o,listed.getD p false=true)∧∀ j,j<ops.size→listed.getD j true=false→((zcs ops.toList).getD k 0).testBit j≠true:=by
 have hks:=(Array.getElem?_eq_some_iff.1 ho).1
 have hanc:∀ m,∀ x,x<ops.size→x<m→(∀ o,ops[x]?=some o→∀ p ∈ pre o,listed.getD p false=true)→∀ j,((zcs ops.toList).getD x 0).testBit j=true→listed.getD j false=true:=by
  intro m
  induction m with
  | zero=>intro x _ hx;omega
  | succ m ihm =>
   intro x hxs hx hpre j hj
   have hxl:x<(zcs ops.toList).length:=by unfold zcs;rw [zba];simpa using hxs
   obtain ⟨o', ho', p,hp,h2⟩:=masks_ok ops.toList x hxl j hj
   have ho2:ops[x]?=some o':=by simpa using ho'
   have hpl:=hpre o' ho2 p hp
   rcases h2 with rfl | ⟨h3,h4⟩
   ·exact hpl
   ·refine ihm p (by omega) (by omega) (fun o3 ho3 q hq=>hcl p o3 ho3 ?_ q hq) j h4
    have:p<listed.size:=by omega
    rw [Array.getD_eq_getD_getElem?, Array.getElem?_eq_getElem this] at hpl ⊢
    exact hpl
 have hpk:∀ p ∈ pre o,listed.getD p false=true:=by
  intro p hp
  obtain ⟨ed,he,rfl⟩:=List.mem_map.1 hp
  rw [List.mem_filter] at he
  exact hall ed (by simpa using he.1) he.2
 refine ⟨hpk,fun j hj hl ht=>?_⟩
 have:=hanc (k+1) k hks (by omega) (fun o' ho'=>by rw [ho] at ho';injection ho' with ho';subst ho';exact hpk) j ht
 have hjs:j<listed.size:=by omega
 rw [Array.getD_eq_getD_getElem?, Array.getElem?_eq_getElem hjs] at this hl
 simp at this hl
 rw [hl] at this
 cases this
theorem zc7 {listed:Array Bool} (hcl:∀ k o,ops[k]?=some o→listed.getD k true=true→∀ p ∈ pre o,listed.getD p false=true) {k:Nat} {o:Oper} (ho:ops[k]?=some o) (hpk:∀ p ∈ pre o,listed.getD p false=true) :
  ∀ x ox,ops[x]?=some ox→(listed.setIfInBounds k true).getD x true=true→∀ p ∈ pre ox,(listed.setIfInBounds k true).getD p false=true:=by
 intro x ox hox hxl p hp
 by_cases hxk:k=x
 ·subst hxk
  rw [ho] at hox;injection hox with hox;subst hox
  exact getD_set_true (hpk p hp)
 ·rw [getD_set_ne true hxk] at hxl
  exact getD_set_true (hcl x ox hox hxl p hp)
theorem getD_ff {l:Array Bool} {k:Nat} (h:l.getD k true=false):l.getD k false=false:=by
 rw [Array.getD_eq_getD_getElem?] at h ⊢
 cases hk:l[k]? with
 | none=>rw [hk] at h;cases h
 | some b=>rw [hk] at h;simpa using h
theorem wpAny_runX {is:List I} {x y:Nat} (hdo:∀ k o,ops[k]?=some o→Does P ops o (at_ is k)) (hb:∀ k,FitsE e (at_ is k)) (hQ:∀ a w,St e g a w→Q .normal a w) (hpo:pairsX x y ops.toList is=true) :
  ∀ (fuel:Nat) (listed:Array Bool) (f:F) (a:Act) (w:World),listed.size=ops.size→(∀ k o,ops[k]?=some o→listed.getD k true=true→∀ p ∈ pre o,listed.getD p false=true)→(left listed ops.size).length≤fuel →
   (listed.getD x false=true∨listed.getD y false=true) →
   (∀ k ∈ left listed ops.size,∀ n ∈ (at_ is k).nw,New e.K f n)→zca is f (left listed ops.size) g→St e f a w→wpAny P .any ops Q fuel listed a w:=by
 intro fuel
 induction fuel with
 | zero =>
  intro listed f a w hsz hcl hle hxy hn hr h
  have h0:left listed ops.size=[]:=List.length_eq_zero_iff.1 (by omega)
  rw [h0] at hr
  refine ⟨?_,hQ a w (h.weaken hr)⟩
  refine List.eq_nil_iff_forall_not_mem.2 fun k hk=>?_
  obtain ⟨h1,o,ho,_⟩:=mem_ready.1 hk
  have:k ∈ left listed ops.size:=zb1.2 ⟨(Array.getElem?_eq_some_iff.1 ho).1,h1⟩
  rw [h0] at this
  cases this
 | succ fuel ih =>
  intro listed f a w hsz hcl hle hxy hn hr h
  refine ⟨fun h0=>?_,fun k hk=>?_⟩
  ·cases hl:left listed ops.size with
   | nil=>rw [hl] at hr;exact hQ a w (h.weaken hr)
   | cons k l =>
    have:=ready_least hpo hsz (k:=k) (by rw [hl];rfl)
    rw [h0] at this
    cases this
  ·obtain ⟨h1,o,ho,hall⟩:=mem_ready.1 hk
   have hks:=(Array.getElem?_eq_some_iff.1 ho).1
   obtain ⟨l1,l2,e1,e2,e3,e4⟩:=zcu hks h1
   obtain ⟨hpk,hnot⟩:=not_ahead hsz hcl ho hall
   have hd1:∀ j ∈ l1,Disj (at_ is j) (at_ is k)∧ment (at_ is k) (at_ is j)=true:=by
    intro j hj
    obtain ⟨hjk,hjl⟩:=e3 j hj
    rcases ((zbe hpo (k:=k) (by simpa using hks)).2 j hjk).2 with ⟨rfl,rfl⟩ | h5
    ·rcases hxy with h6 | h6
     ·rw [getD_ff h1] at h6;cases h6
     ·rw [getD_ff hjl] at h6;cases h6
    ·exact h5.resolve_left (hnot j (by omega) hjl)
   rw [e1] at hr
   obtain ⟨hr1,hr2⟩:=zca.first l1 f hr (fun j hj=>(hd1 j hj).1)
   have hkn:∀ n ∈ (at_ is k).nw,New e.K f n:=hn k (by rw [e1];simp)
   refine wpOp_mono (fun a' w' h'=>?_) (Does.wpOp ho (hdo k o ho) h hr1 hkn (hb k))
   refine ih (listed.setIfInBounds k true) (f.app (at_ is k)) a' w' (by simpa using hsz) (zc7 hcl ho hpk) ?_ ?_ ?_ ?_ h'
   ·rw [e2];rw [e1] at hle;simp at hle ⊢;omega
   ·exact hxy.imp (fun h=>getD_set_true h) fun h=>getD_set_true h
   ·intro z hz n hnz
    rw [e2] at hz
    have hzn:New e.K f n:=hn z (by rw [e1];rcases List.mem_append.1 hz with h3 | h3 <;> simp [h3]) n hnz
    refine hzn.app ?_ hnz
    rcases List.mem_append.1 hz with h3 | h3
    ·exact (hd1 z h3).2
    ·obtain ⟨hkz,hzl⟩:=e4 z h3
     have hzs:z<ops.size:=(zb1.1 (by rw [e1];simp [h3])).1
     exact ((zbe hpo (k:=z) (by simpa using hzs)).2 k hkz).1
   ·rw [e2];exact hr2
theorem wpAny_sw {is is':List I} {x y n:Nat} {A':L} (hyx:y<x) (hsw:SwOk (at_ is y) (at_ is' y) (at_ is x) n A') (hsame:∀ j,j≠y→at_ is' j=at_ is j)
  (hdo:∀ k o,ops[k]?=some o→Does P ops o (at_ is k)) (hdo':∀ k o,ops[k]?=some o→Does P ops o (at_ is' k)) (hb:∀ k,FitsE e (at_ is k)) (hb':∀ k,FitsE e (at_ is' k)) (hQ:∀ a w,St e g a w→Q .normal a w) (hpo:pairsX x y ops.toList is=true) (hpo':pairsX x y ops.toList is'=true) :
  ∀ (fuel:Nat) (listed:Array Bool) (f:F) (a:Act) (w:World),listed.size=ops.size→(∀ k o,ops[k]?=some o→listed.getD k true=true→∀ p ∈ pre o,listed.getD p false=true)→(left listed ops.size).length≤fuel →
   y ∈ left listed ops.size→x ∈ left listed ops.size →
   (∀ k ∈ left listed ops.size,∀ n ∈ (at_ is k).nw,New e.K f n)→zca is f (left listed ops.size) g→St e f a w→wpAny P .any ops Q fuel listed a w:=by
 intro fuel
 induction fuel with
 | zero =>
  intro listed f a w hsz hcl hle hy hx hn hr h
  have h0:left listed ops.size=[]:=List.length_eq_zero_iff.1 (by omega)
  rw [h0] at hy;cases hy
 | succ fuel ih =>
  intro listed f a w hsz hcl hle hy hx hn hr h
  refine ⟨fun h0=>?_,fun k hk=>?_⟩
  ·cases hl:left listed ops.size with
   | nil=>rw [hl] at hr;exact hQ a w (h.weaken hr)
   | cons k l =>
    have:=ready_least hpo hsz (k:=k) (by rw [hl];rfl)
    rw [h0] at this
    cases this
  ·obtain ⟨h1,o,ho,hall⟩:=mem_ready.1 hk
   have hks:=(Array.getElem?_eq_some_iff.1 ho).1
   obtain ⟨l1,l2,e1,e2,e3,e4⟩:=zcu hks h1
   obtain ⟨hpk,hnot⟩:=not_ahead hsz hcl ho hall
   have hd1:∀ j ∈ l1,¬ (k=x∧j=y)→Disj (at_ is j) (at_ is k)∧ment (at_ is k) (at_ is j)=true:=by
    intro j hj hne
    obtain ⟨hjk,hjl⟩:=e3 j hj
    exact (((zbe hpo (k:=k) (by simpa using hks)).2 j hjk).2.resolve_left hne).resolve_left (hnot j (by omega) hjl)
   have hkn:∀ n ∈ (at_ is k).nw,New e.K f n:=hn k (by rw [e1];simp)
   have hlen:(left (listed.setIfInBounds k true) ops.size).length≤fuel:=by rw [e2];rw [e1] at hle;simp at hle ⊢;omega
   have hset:∀ j,j≠k→j ∈ left listed ops.size→j ∈ left (listed.setIfInBounds k true) ops.size:=by
    intro j hj hjl
    obtain ⟨g1,g2⟩:=zb1.1 hjl
    exact zb1.2 ⟨g1,by rw [getD_set_ne true (Ne.symm hj)];exact g2⟩
   have hnames:∀ z ∈ left (listed.setIfInBounds k true) ops.size,(z≠y∨k≠x)→∀ n ∈ (at_ is z).nw,New e.K (f.app (at_ is k)) n:=by
    intro z hz hne n hnz
    rw [e2] at hz
    have hzn:New e.K f n:=hn z (by rw [e1];rcases List.mem_append.1 hz with h3 | h3 <;> simp [h3]) n hnz
    refine hzn.app ?_ hnz
    rcases List.mem_append.1 hz with h3 | h3
    ·exact (hd1 z h3 fun e=>by rcases hne with h | h;exact h e.2;exact h e.1).2
    ·obtain ⟨hkz,hzl⟩:=e4 z h3
     have hzs:z<ops.size:=(zb1.1 (by rw [e1];simp [h3])).1
     exact ((zbe hpo (k:=z) (by simpa using hzs)).2 k hkz).1
   have hlisted:(listed.setIfInBounds k true).getD k false=true:=by
    have:k<listed.size:=by omega
    simp [this]
   by_cases hkx:k=x
   ·subst hkx
    have hyl1:y ∈ l1:=by
     rw [e1] at hy
     rcases List.mem_append.1 hy with h3 | h3
     ·exact h3
     ·rcases List.mem_cons.1 h3 with h4 | h4
      ·omega
      ·have:=(e4 y h4).1;omega
    have hnd:(left listed ops.size).Nodup:=List.Pairwise.filter _ List.nodup_range
    rw [e1] at hr hnd
    have hyl2:y ∉ l2:=fun h4=>by have:=(e4 y h4).1;omega
    obtain ⟨hr1,hr2⟩:=zca.sw hsw l1 f hr hyl1 (List.nodup_append.1 hnd).1 (fun j hj hjy=>(hd1 j hj fun e=>hjy e.2).1) hsame hyl2
    refine wpOp_mono (fun a' w' h'=>?_) (Does.wpOp ho (hdo k o ho) h hr1 hkn (hb k))
    refine wpAny_runX hdo' hb' hQ hpo' fuel _ (f.app (at_ is k)) a' w' (by simpa using hsz) (zc7 hcl ho hpk) hlen (.inl hlisted) ?_ (by rw [e2];exact hr2) h'
    intro z hz n hnz
    by_cases hzy:z=y
    ·subst hzy;rw [hsw.nw'] at hnz;cases hnz
    ·rw [hsame z hzy] at hnz;exact hnames z hz (.inl hzy) n hnz
   ·rw [e1] at hr
    obtain ⟨hr1,hr2⟩:=zca.first l1 f hr (fun j hj=>(hd1 j hj fun e=>hkx e.1).1)
    refine wpOp_mono (fun a' w' h'=>?_) (Does.wpOp ho (hdo k o ho) h hr1 hkn (hb k))
    by_cases hky:k=y
    ·subst hky
     exact wpAny_runX hdo hb hQ hpo fuel _ (f.app (at_ is k)) a' w' (by simpa using hsz) (zc7 hcl ho hpk) hlen (.inr hlisted) (fun z hz=>hnames z hz (.inr hkx)) (by rw [e2];exact hr2) h'
    ·exact ih _ (f.app (at_ is k)) a' w' (by simpa using hsz) (zc7 hcl ho hpk) hlen (hset y (Ne.symm hky) hy) (hset x (Ne.symm hkx) hx) (fun z hz=>hnames z hz (.inr hkx)) (by rw [e2];exact hr2) h'
end
def chkW (x y:Nat) (iy':I) (ops:List Oper) (is:List I) (N:Nat) (K:List Nat) (sl:List (Nat × V)) (lc:List (Nat × L)):Bool :=
  chk false ops is N K sl lc && (pairsX x y ops is && (pairsX x y ops (is.set y iy') && (swpB (at_ is y) iy' (at_ is x) && (Nat.blt y x && (Nat.blt x ops.length && (iy'.ws.all fun p=>Nat.blt p.1 N))))))
theorem at_set (is:List I) (y:Nat) (i:I) (hy:y<is.length) (j:Nat):at_ (is.set y i) j=if j=y then i else at_ is j:=by
 unfold at_
 rw [List.getD_eq_getElem?_getD,List.getD_eq_getElem?_getD,List.getElem?_set]
 by_cases h:y=j
 ·subst h;simp [hy]
 ·rw [if_neg h,if_neg (Ne.symm h)]
section
variable {Q:Exit→Act→World→Prop} {w0:World} {H0:Im} {B0:Bl} {K:List Nat} {N:Nat}
theorem rSW {tb:Tb} (htb:TbOk Tryd.prog tb) {id:Nat} {ops:Array Oper} {a:Act} {w:World} {sl:List (Nat × V)} {lc:List (Nat × L)} (nx:Nat) (cs:List (Nat × Orc Tryd.prog)) (sl':List (Nat × V)) (lc':List (Nat × L))
  (x y n:Nat) (A':L) {dy:Option Nat} {opy:Op} (iy':I) (hy':∀ ty pos af gd,zan Tryd.prog ⟨dy,opy,ty,pos,af,gd⟩ iy') (hop:(ops[y]?).map (fun o=>(o.dst,o.op,o.guard))=some (dy,opy,none)) (hrl:iy'.rl=[(n,A')]) (hk0:iy'.k0=false)
  (hs:(zbg tb ops (F.of sl lc) nx 0 ops.toList cs).map (fun is=>((at_ is y).ws,(at_ is y).rs,(at_ is x).wl.lookup n))=some (iy'.ws,iy'.rs,some (some A')))
  (hc:((gens ops.toList cs).map (·.1),(zbg tb ops (F.of sl lc) nx 0 ops.toList cs).isSome,(zbg tb ops (F.of sl lc) nx 0 ops.toList cs).map fun is=>Seen.mk (chkW x y iy' ops.toList is N K sl lc) (runS (F.of sl lc) is) (runN (F.of sl lc) is) (leS (runF (F.of sl lc) is) sl') (leN (runF (F.of sl lc) is) lc')) =
   ((gens ops.toList cs).map (·.2),true,(zbg tb ops (F.of sl lc) nx 0 ops.toList cs).map fun is=>Seen.mk true (wantS is) (wantN is) (sl'.map fun p=>some p.2) (lc'.map fun p=>some p.2)))
  (h:St ⟨w0,H0,B0,K,N⟩ (F.of sl lc) a w) (hQ:∀ a w,St ⟨w0,H0,B0,K,N⟩ (F.of sl' lc') a w→Q .normal a w):(Code.region id ops true).wp Tryd.prog Q a w:=by
 simp only [Prod.mk.injEq] at hc
 obtain ⟨hg,hsome,hm⟩:=hc
 cases hi:zbg tb ops (F.of sl lc) nx 0 ops.toList cs with
 | none=>rw [hi] at hsome;cases hsome
 | some is =>
  rw [hi] at hm hs
  simp only [Option.map_some,Option.some.injEq,Seen.mk.injEq] at hm
  simp only [Option.map_some,Option.some.injEq,Prod.mk.injEq] at hs
  obtain ⟨hchk,h1,h2,h3,h4⟩:=hm
  obtain ⟨s1,s2,s3⟩:=hs
  have hdo:=insts_ok htb hg _ _ _ _ _ rfl hi
  simp only [chkW,Bool.and_eq_true] at hchk
  obtain ⟨hck,p1,p2,hsw,hyx,hxl,hws⟩:=hchk
  have hyx:y<x:=by simpa [Nat.blt_eq] using hyx
  have hxl:x<ops.size:=by simpa [Nat.blt_eq] using hxl
  simp only [chk,Bool.and_eq_true] at hck
  obtain ⟨⟨⟨c1,c2'⟩,c3⟩,c4⟩:=hck
  have hlen:ops.toList.length=is.length:=by simpa using hdo.length
  have hyl:y<is.length:=by rw [← hlen,Array.length_toList];omega
  have hat:=at_set is y iy' hyl
  have hmem:∀ k,at_ is k ∈ is∨at_ is k={}:=by
   intro k
   unfold at_
   rw [List.getD_eq_getElem?_getD]
   cases hk:is[k]? with
   | none=>exact .inr rfl
   | some z=>exact .inl (List.mem_of_getElem? hk)
  have hb:∀ k,FitsE ⟨w0,H0,B0,K,N⟩ (at_ is k):=by
   intro k
   refine ⟨fun p hp=>?_,fun h0=>?_⟩
   ·rcases hmem k with hk | hk
    ·have:=List.all_eq_true.1 (List.all_eq_true.1 c2' _ hk) p hp
     simpa [Nat.blt_eq] using this
    ·rw [hk] at hp;cases hp
   ·rcases hmem k with hk | hk
    ·have:=List.all_eq_true.1 c4 _ hk
     rw [h0] at this
     simpa using this
    ·rw [hk] at h0;cases h0
  have hn:∀ k,∀ n ∈ (at_ is k).nw,New K (F.of sl lc) n:=by
   intro k n hn
   rcases hmem k with hk | hk
   ·exact zcg (List.all_eq_true.1 (List.all_eq_true.1 c3 _ hk) n hn)
   ·rw [hk] at hn;cases hn
  have hr:zca is (F.of sl lc) (List.range ops.size) (F.of sl' lc'):=by
   have:=zca.of (g:=F.of sl' lc') [] is (F.of sl lc) h1 h2 (le_of h3 h4)
   simp only [List.nil_append,List.length_nil] at this
   rw [List.range_eq_range', ← Array.length_toList,hlen]
   exact this
  have hSw:SwOk (at_ is y) (at_ (is.set y iy') y) (at_ is x) n A':=by
   rw [hat,if_pos rfl]
   exact SwOk.of hsw s1 s2 s3 hrl
  have hleft:left (Array.replicate ops.size false) ops.size=List.range ops.size:=by
   unfold left
   refine List.filter_eq_self.2 fun k hk=>?_
   have:=List.mem_range.1 hk
   simp [Array.getD_eq_getD_getElem?, this]
  refine wp_region_any mixed (wpAny_sw (is:=is) (is':=is.set y iy') hyx hSw (fun j hj=>by rw [hat,if_neg hj]) (fun k o ho=>hdo.get k o (by simpa using ho)) (fun k o ho=>?_) hb (fun k=>?_) hQ p1 p2 _ _ (F.of sl lc) a _ (by simp) ?_ ?_ ?_ ?_ (fun k _=>hn k) ?_ h.drew)
  ·rw [hat]
   split
   ·rename_i hk
    subst hk
    rw [ho] at hop
    simp only [Option.map_some,Option.some.injEq,Prod.mk.injEq] at hop
    obtain ⟨q1,q2,q3⟩:=hop
    obtain ⟨d,op,ty,pos,af,gd⟩:=o
    simp only at q1 q2 q3
    subst q1 q2 q3
    exact .run rfl (hy' _ _ _ _)
   ·exact hdo.get k o (by simpa using ho)
  ·rw [hat]
   split
   ·refine ⟨fun p hp=>?_,fun h0=>?_⟩
    ·have:=List.all_eq_true.1 hws p hp
     simpa [Nat.blt_eq] using this
    ·rw [hk0] at h0;cases h0
   ·exact hb k
  ·intro k o ho hl
   have hks:=(Array.getElem?_eq_some_iff.1 ho).1
   simp [Array.getD_eq_getD_getElem?, hks] at hl
  ·refine Nat.le_trans (List.length_filter_le _ _) (by simp)
  ·rw [hleft];exact List.mem_range.2 (by omega)
  ·rw [hleft];exact List.mem_range.2 hxl
  ·rw [hleft];exact hr
end
theorem kk_3:ElZ Tryd.prog 66 28 2:=ElZ.mk' Tryd.underlying66 _ _ rfl rfl (by kernel_rfl) (by kernel_rfl) (by kernel_rfl) (by decide)
theorem kk_5:Sz Tryd.prog 68 2 true:=Sz.mk' (by kernel_rfl) Tryd.underlying68 _ rfl
def st0:StD:=⟨[],[]⟩
theorem kn_0:SlT Tryd.prog 40 68 2:=SlT.mk' Tryd.underlying40 (by kernel_rfl)
theorem ks_2:zaa Tryd.prog 18:=zaa.mk' (by kernel_rfl)
def zb8 (r:zbw) (i:Nat):StD:=((r.stem++r.cycle)[i]?).getD st0
set_option maxHeartbeats 4000000 in
theorem SRAt0 (r:zbw) (i:Nat) (hl:r.stem.length+r.cycle.length≤20) (_hi:i≤1000):Fn Tryd.prog 18 [] [.t (.agg [.d (.sl 2 (r.stem.map StD.d)),.d (.sl 2 (r.cycle.map StD.d)),cIs r.acts]),vi .i64 (i:Int)] (.t (.agg [cIs (zb8 r i).locs,cZs (zb8 r i).vals])) []:=by
 have lall:(r.stem++r.cycle).length=r.stem.length+r.cycle.length:=List.length_append
 refine Fn.body Tryd.func18 rfl 34 rfl fun w H B a h=>?_
 refine rq za0 0 [] [(1,vi .i64 (i:Int)),(2,vp 0 0),(4,vp 1 0)] [(0,.box [.d (.sl 2 (r.stem.map StD.d)),.d (.sl 2 (r.cycle.map StD.d)),cIs r.acts]),(1,.box [.d (.raw za4),.d (.raw za4)])] h ?_;clear h;intro a w h
 refine wp_seq (rq za0 2 [(3,.len (c:=(.d (.sl 2 (r.stem.map StD.d)))) (n:=r.stem.length) (za8 _ _ _))] [(1,vi .i64 (i:Int)),(2,vp 0 0),(4,vp 1 0),(9,vb (decide ((i:Int)<(r.stem.length:Int))))] [(0,.box [.d (.sl 2 (r.stem.map StD.d)),.d (.sl 2 (r.cycle.map StD.d)),cIs r.acts]),(1,.box [.d (.raw za4),.d (.raw za4)])] h ?_);clear h;intro a w h
 refine zad (decide ((i:Int)<(r.stem.length:Int))) h rfl (fun hc=>?_) (fun hc=>?_)
 ·have hc1:=hc;clear hc
  have hc1':=of_decide_eq_true hc1
  obtain ⟨x1,hx1⟩:∃ z_:StD,r.stem[i]?=some z_:=⟨_,List.getElem?_eq_getElem (by first | omega | (simp at *;omega))⟩
  refine rq za0 2 [(3,.gen _ _ _ fun _ _ _ _=>Op.idxD (d:=13) (t:=11) (k:=.i64) kn_0 (zb2 hx1 (f:=StD.d)) (OV.tmp 12 _))] [(1,vi .i64 (i:Int)),(2,vp 0 0),(4,vp 1 0)] [(0,.box [.d (.sl 2 (r.stem.map StD.d)),.d (.sl 2 (r.cycle.map StD.d)),cIs r.acts]),(1,.box [cIs x1.locs,cZs x1.vals])] h ?_;clear h;intro a w h
  refine wp_ret (zaf ?_)
  refine zb0 [.agg [cIs x1.locs,cZs x1.vals]] h Exit.ret (.inl rfl)  rfl ⟨RV.agg _ 1 0 _ _ _ _ kk_5 rfl rfl rfl rfl,trivial⟩ ?_
  have hz:zb8 r i=x1:=by unfold zb8;rw [List.getElem?_append_left (by have:=of_decide_eq_true hc1;omega),hx1];rfl
  rw [hz];first | done | rfl
 ·have hc2:=hc;clear hc
  have hc2':=of_decide_eq_false hc2
  refine wp_skip (za5 (wp_seq (rq za0 2 [(3,.len (c:=(.d (.sl 2 (r.stem.map StD.d)))) (n:=r.stem.length) (za8 _ _ _)),(6,.len (c:=(.d (.sl 2 (r.cycle.map StD.d)))) (n:=r.cycle.length) (za8 _ _ _)),(7,.gen _ _ _ fun _ _ _ _=>Op.arith (op:=.add) (d:=22) (xt:=3) (yt:=3) (k:=.i64) (m:=(r.stem.length:Int)) (n:=(r.cycle.length:Int)) (r:=((r.stem++r.cycle).length:Int)) (OV.tmp 18 _) (OV.tmp 21 _) (.inl ⟨rfl,(by rw [List.length_append];omega)⟩) (zam (by omega) (by omega)))] [(1,vi .i64 (i:Int)),(2,vp 0 0),(4,vp 1 0),(23,vb (decide ((i:Int)<((r.stem++r.cycle).length:Int))))] [(0,.box [.d (.sl 2 (r.stem.map StD.d)),.d (.sl 2 (r.cycle.map StD.d)),cIs r.acts]),(1,.box [.d (.raw za4),.d (.raw za4)])] h ?_)));clear h;intro a w h
  refine zad (decide ((i:Int)<((r.stem++r.cycle).length:Int))) h rfl (fun hc=>?_) (fun hc=>?_)
  ·have hc3:=hc;clear hc
   have hc3':=of_decide_eq_true hc3
   obtain ⟨x2,hx2⟩:∃ z_:StD,r.cycle[i - r.stem.length]?=some z_:=⟨_,List.getElem?_eq_getElem (by have:(r.stem++r.cycle).length=r.stem.length+r.cycle.length:=List.length_append;omega)⟩
   refine rq za0 2 [(5,.len (c:=(.d (.sl 2 (r.stem.map StD.d)))) (n:=r.stem.length) (za8 _ _ _)),(6,.gen _ _ _ fun _ _ _ _=>Op.arith (op:=.sub) (d:=30) (xt:=3) (yt:=3) (k:=.i64) (m:=(i:Int)) (n:=(r.stem.length:Int)) (r:=((i - r.stem.length:Nat):Int)) (OV.tmp 26 _) (OV.tmp 29 _) (.inr (.inl ⟨rfl,(by omega)⟩)) (zam (by omega) (by omega))),(7,.gen _ _ _ fun _ _ _ _=>Op.idxD (d:=31) (t:=25) (k:=.i64) kn_0 (zb2 hx2 (f:=StD.d)) (OV.tmp 30 _))] [(4,vp 1 0)] [(1,.box [cIs x2.locs,cZs x2.vals])] h ?_;clear h;intro a w h
   refine wp_ret (zaf ?_)
   refine zb0 [.agg [cIs x2.locs,cZs x2.vals]] h Exit.ret (.inl rfl)  rfl ⟨RV.agg _ 1 0 _ _ _ _ kk_5 rfl rfl rfl rfl,trivial⟩ ?_
   have hz:zb8 r i=x2:=by unfold zb8;rw [List.getElem?_append_right (by have:=of_decide_eq_false hc2;omega),hx2];rfl
   rw [hz];first | done | rfl
  ·have hc4:=hc;clear hc
   have hc4':=of_decide_eq_false hc4
   refine wp_skip (za5 (rq za0 2 [] [(4,vp 1 0)] [(1,.box [.d (.raw za4),.d (.raw za4)])] h ?_));clear h;intro a w h
   refine wp_ret ?_
   replace h:=zc9 1 0 1 [.d (.raw za4),.d (.raw za4)] [(4,vp 1 0)] [(1,.box [cIs [],.d (.raw za4)])] h rfl rfl
   replace h:=zc9 1 1 2 [cIs [],.d (.raw za4)] [(4,vp 1 0)] [(1,.box [cIs [],cZs []])] h rfl rfl
   refine zb0 [.agg [cIs [],cZs []]] h Exit.ret (.inl rfl)  rfl ⟨RV.agg _ 1 0 _ _ _ _ kk_5 rfl rfl rfl rfl,trivial⟩ ?_
   have hz:zb8 r i=st0:=by unfold zb8;rw [List.getElem?_eq_none (by have:=of_decide_eq_false hc4;omega)];rfl
   rw [hz];first | done | rfl
theorem SRAt (r:zbw) (z:Int) (i:Nat) (hz:z=(i:Int)) (hl:r.stem.length+r.cycle.length≤20) (hi:i≤1000):Fn Tryd.prog 18 [] [.t (.agg [.d (.sl 2 (r.stem.map StD.d)),.d (.sl 2 (r.cycle.map StD.d)),cIs r.acts]),vi .i64 z] (.t (.agg [cIs (zb8 r i).locs,cZs (zb8 r i).vals])) []:=by subst hz;exact SRAt0 r i hl hi
theorem pj1_1:Sz Tryd.prog 41 1 false:=Sz.mk' (by kernel_rfl) Tryd.underlying41 _ rfl
theorem pj1_4:zaa Tryd.prog 19:=zaa.mk' (by kernel_rfl)
theorem pj1_6:Sz Tryd.prog 39 10 true:=Sz.mk' (by kernel_rfl) Tryd.underlying39 _ rfl
theorem pj1_7:zaa Tryd.prog 32:=zaa.mk' (by kernel_rfl)
theorem pj1_8:zaa Tryd.prog 34:=zaa.mk' (by kernel_rfl)
theorem pj1_9:zaa Tryd.prog 33:=zaa.mk' (by kernel_rfl)
def acA (acts:List Int) (i:Nat):Int:=(acts[i]?).getD (-1)
def stLn (s:zaj) (acts:List Int) (i:Nat) (x:StD):List UInt8:=za7 [⟨#[32,32]⟩,stW s x,⟨#[32,47,32]⟩,zdd s (acA acts i)]
def zay (s:zaj) (acts:List Int) (i:Nat) (xs:List StD) (j:Nat):List UInt8:=(List.range j).flatMap fun k=>stLn s acts (i+k) ((xs[k]?).getD st0)
theorem stsN_snoc {s:zaj} {acts:List Int} {i:Nat} {xs:List StD} {j:Nat} {x:StD} (h:xs[j]?=some x):zay s acts i xs j++stLn s acts (i+j) x=zay s acts i xs (j+1):=by
 unfold zay;rw [List.range_succ,List.flatMap_append];simp [h]
theorem actN_sz {s:zaj} (hz:zcy s) (hl:s.acts.length≤1000000) (i:Int):(zdd s i).size≤1048585:=by
 have e1:(⟨#[115,116,117,116,116,101,114]⟩:ByteArray).size=7:=rfl
 have e2:(⟨#[63]⟩:ByteArray).size=1:=rfl
 have e3:(⟨#[46]⟩:ByteArray).size=1:=rfl
 unfold zdd
 cases ha:atI s.acts i with
 | none=>simp only;omega
 | some c =>
  have h1:=itA_sz s c.proc (i.toNat+1) hl
  simp only
  cases hp:atI s.procs c.proc with
  | none=>simp only [ByteArray.size_append];omega
  | some p=>have h2:=hz.name p (zb4 hp);simp only [ByteArray.size_append];omega
theorem stLn_len {s:zaj} (hz:zcy s) (hl:s.acts.length≤1000000) {x:StD} (hx:StOk 4 x) (acts:List Int) (i:Nat):(stLn s acts i x).length≤43000000:=by
 have h1:=stW_sz hz hx
 have h2:=actN_sz hz hl (acA acts i)
 have e1:(⟨#[32,32]⟩:ByteArray).data.toList.length=2:=rfl
 have e2:(⟨#[32,47,32]⟩:ByteArray).data.toList.length=3:=rfl
 unfold stLn
 rw [zb3]
 unfold zak
 simp only [List.flatMap_cons,List.flatMap_nil,List.length_append,List.length_nil,List.length_cons]
 rw [← baL (stW s x),← baL (zdd s _)]
 omega
theorem zd8 {s:zaj} (hz:zcy s) (hl:s.acts.length≤1000000) {xs:List StD} (hx:∀ x ∈ xs,StOk 4 x) (acts:List Int) (i:Nat):∀ j,j≤xs.length→(zay s acts i xs j).length≤j*43000000
 | 0,_=>by simp [zay]
 | j+1,h=>by
  obtain ⟨x,hj⟩:∃ x,xs[j]?=some x:=⟨_,List.getElem?_eq_getElem (by omega)⟩
  have h1:=zd8 hz hl hx acts i j (by omega)
  have h2:=stLn_len hz hl (hx x (List.mem_of_getElem? hj)) acts (i+j)
  rw [← stsN_snoc hj,List.length_append]
  omega
set_option maxHeartbeats 4000000 in
theorem WAct (s:zaj) (acts:List Int) (i:Nat) (l:List UInt8) (hi:i≤1000000):Fn Tryd.prog 34 [(7,.bld 77 (.own 9 l.length) [.d (.sl 1 (s.vars.map za3)),.d (.sl 5 (s.bounds.map za1.d)),cI s.init.kind,cPs s.init.r.t.parts,cB s.init.r.t.k.neg,.d (nsl s.init.r.t.k.abs),cB s.init.r.eq,cFs s.init.kids,.d (.sl 3 (s.procs.map za2.d)),.d (.sl 10 (s.acts.map za6.d)),cIs acts,cI (i:Int)]),(9,.row 5 1 (bw l))] [vp 7 0] (vi .i64 (acA acts i)) [(7,.bld 77 (.own 9 l.length) [.d (.sl 1 (s.vars.map za3)),.d (.sl 5 (s.bounds.map za1.d)),cI s.init.kind,cPs s.init.r.t.parts,cB s.init.r.t.k.neg,.d (nsl s.init.r.t.k.abs),cB s.init.r.eq,cFs s.init.kids,.d (.sl 3 (s.procs.map za2.d)),.d (.sl 10 (s.acts.map za6.d)),cIs acts,cI ((i+1:Nat):Int)]),(9,.row 5 1 (bw l))]:=by
 refine Fn.body Tryd.func34 rfl 29 rfl fun w H B a h=>?_
 refine rq zac 30 [] [(0,vp 7 0),(2,vi .i64 0)] [(7,.bld 77 (.own 9 l.length) [.d (.sl 1 (s.vars.map za3)),.d (.sl 5 (s.bounds.map za1.d)),cI s.init.kind,cPs s.init.r.t.parts,cB s.init.r.t.k.neg,.d (nsl s.init.r.t.k.abs),cB s.init.r.eq,cFs s.init.kids,.d (.sl 3 (s.procs.map za2.d)),.d (.sl 10 (s.acts.map za6.d)),cIs acts,cI (i:Int)]),(9,.row 5 1 (bw l))] h ?_;clear h;intro a w h
 refine rq zac 30 [(1,.gen _ _ _ fun _ _ _ _=>Op.nilP (d:=5) (t:=4) (n:=7) (o:=0)),(3,.gen _ _ _ fun _ _ _ _=>Op.loadB_c (d:=7) (t:=6) (n:=7) (o:=11) (m:=1) (T:=77) (c0:=.own 9 l.length) (rest:=[.d (.sl 1 (s.vars.map za3)),.d (.sl 5 (s.bounds.map za1.d)),cI s.init.kind,cPs s.init.r.t.parts,cB s.init.r.t.k.neg,.d (nsl s.init.r.t.k.abs),cB s.init.r.eq,cFs s.init.kids,.d (.sl 3 (s.procs.map za2.d)),.d (.sl 10 (s.acts.map za6.d)),cIs acts,cI (i:Int)]) (x:=cI (i:Int)) tl_7 rfl)] [(0,vp 7 0),(2,vi .i64 0),(3,vi .i64 (i:Int))] [(7,.bld 77 (.own 9 l.length) [.d (.sl 1 (s.vars.map za3)),.d (.sl 5 (s.bounds.map za1.d)),cI s.init.kind,cPs s.init.r.t.parts,cB s.init.r.t.k.neg,.d (nsl s.init.r.t.k.abs),cB s.init.r.eq,cFs s.init.kids,.d (.sl 3 (s.procs.map za2.d)),.d (.sl 10 (s.acts.map za6.d)),cIs acts,cI (i:Int)]),(9,.row 5 1 (bw l))] h ?_;clear h;intro a w h
 refine rq zac 30 [(1,.gen _ _ _ fun _ _ _ _=>Op.nilP (d:=9) (t:=8) (n:=7) (o:=0)),(3,.gen _ _ _ fun _ _ _ _=>Op.loadB_c (d:=11) (t:=10) (n:=7) (o:=11) (m:=1) (T:=77) (c0:=.own 9 l.length) (rest:=[.d (.sl 1 (s.vars.map za3)),.d (.sl 5 (s.bounds.map za1.d)),cI s.init.kind,cPs s.init.r.t.parts,cB s.init.r.t.k.neg,.d (nsl s.init.r.t.k.abs),cB s.init.r.eq,cFs s.init.kids,.d (.sl 3 (s.procs.map za2.d)),.d (.sl 10 (s.acts.map za6.d)),cIs acts,cI (i:Int)]) (x:=cI (i:Int)) tl_7 rfl),(4,.add .i64 (m:=(i:Int)) (n:=1) (zam (by omega) (by omega))),(5,.gen _ _ _ fun _ _ _ _=>Op.nilP (d:=13) (t:=8) (n:=7) (o:=0)),(7,.gen _ _ _ fun _ _ _ _=>Op.storeB (t:=14) (n:=7) (o:=11) (T:=77) (c0:=.own 9 l.length) (rest:=[.d (.sl 1 (s.vars.map za3)),.d (.sl 5 (s.bounds.map za1.d)),cI s.init.kind,cPs s.init.r.t.parts,cB s.init.r.t.k.neg,.d (nsl s.init.r.t.k.abs),cB s.init.r.eq,cFs s.init.kids,.d (.sl 3 (s.procs.map za2.d)),.d (.sl 10 (s.acts.map za6.d)),cIs acts,cI (i:Int)]) (rest':=[.d (.sl 1 (s.vars.map za3)),.d (.sl 5 (s.bounds.map za1.d)),cI s.init.kind,cPs s.init.r.t.parts,cB s.init.r.t.k.neg,.d (nsl s.init.r.t.k.abs),cB s.init.r.eq,cFs s.init.kids,.d (.sl 3 (s.procs.map za2.d)),.d (.sl 10 (s.acts.map za6.d)),cIs acts,cI ((i:Int)+1)]) (y:=cI ((i:Int)+1)) tl_7 (OV.tmp 12 _) rfl rfl)] [(0,vp 7 0),(2,vi .i64 0),(3,vi .i64 (i:Int))] [(7,.bld 77 (.own 9 l.length) [.d (.sl 1 (s.vars.map za3)),.d (.sl 5 (s.bounds.map za1.d)),cI s.init.kind,cPs s.init.r.t.parts,cB s.init.r.t.k.neg,.d (nsl s.init.r.t.k.abs),cB s.init.r.eq,cFs s.init.kids,.d (.sl 3 (s.procs.map za2.d)),.d (.sl 10 (s.acts.map za6.d)),cIs acts,cI ((i:Int)+1)]),(9,.row 5 1 (bw l))] h ?_;clear h;intro a w h
 refine wp_seq (rq zac 30 [(2,.gen _ _ _ fun _ _ _ _=>Op.nilP (d:=17) (t:=16) (n:=7) (o:=0)),(4,.gen _ _ _ fun _ _ _ _=>Op.loadB_c (d:=19) (t:=18) (n:=7) (o:=10) (m:=1) (T:=77) (c0:=.own 9 l.length) (rest:=[.d (.sl 1 (s.vars.map za3)),.d (.sl 5 (s.bounds.map za1.d)),cI s.init.kind,cPs s.init.r.t.parts,cB s.init.r.t.k.neg,.d (nsl s.init.r.t.k.abs),cB s.init.r.eq,cFs s.init.kids,.d (.sl 3 (s.procs.map za2.d)),.d (.sl 10 (s.acts.map za6.d)),cIs acts,cI ((i:Int)+1)]) (x:=cIs acts) pj1_1 rfl),(5,.len (c:=(cIs acts)) (n:=acts.length) (za8 _ _ _))] [(0,vp 7 0),(2,vi .i64 0),(3,vi .i64 (i:Int)),(21,vb (decide ((i:Int)<(acts.length:Int))))] [(7,.bld 77 (.own 9 l.length) [.d (.sl 1 (s.vars.map za3)),.d (.sl 5 (s.bounds.map za1.d)),cI s.init.kind,cPs s.init.r.t.parts,cB s.init.r.t.k.neg,.d (nsl s.init.r.t.k.abs),cB s.init.r.eq,cFs s.init.kids,.d (.sl 3 (s.procs.map za2.d)),.d (.sl 10 (s.acts.map za6.d)),cIs acts,cI ((i:Int)+1)]),(9,.row 5 1 (bw l))] h ?_);clear h;intro a w h
 refine zad (decide ((i:Int)<(acts.length:Int))) h rfl (fun hc=>?_) (fun hc=>?_)
 ·have hc1:=hc;clear hc
  have hc1':=of_decide_eq_true hc1
  obtain ⟨x1,hx1⟩:∃ z_:Int,acts[i]?=some z_:=⟨_,List.getElem?_eq_getElem (by first | omega | (simp at *;omega))⟩
  refine rq zac 30 [(1,.gen _ _ _ fun _ _ _ _=>Op.nilP (d:=23) (t:=22) (n:=7) (o:=0)),(3,.gen _ _ _ fun _ _ _ _=>Op.loadB_c (d:=25) (t:=24) (n:=7) (o:=10) (m:=1) (T:=77) (c0:=.own 9 l.length) (rest:=[.d (.sl 1 (s.vars.map za3)),.d (.sl 5 (s.bounds.map za1.d)),cI s.init.kind,cPs s.init.r.t.parts,cB s.init.r.t.k.neg,.d (nsl s.init.r.t.k.abs),cB s.init.r.eq,cFs s.init.kids,.d (.sl 3 (s.procs.map za2.d)),.d (.sl 10 (s.acts.map za6.d)),cIs acts,cI ((i:Int)+1)]) (x:=cIs acts) pj1_1 rfl),(5,.gen _ _ _ fun _ _ _ _=>Op.idxD (d:=27) (t:=25) (k:=.i64) tb_1 (zb2 hx1 (f:=intD)) (OV.tmp 26 _))] [(2,vi .i64 x1)] [(7,.bld 77 (.own 9 l.length) [.d (.sl 1 (s.vars.map za3)),.d (.sl 5 (s.bounds.map za1.d)),cI s.init.kind,cPs s.init.r.t.parts,cB s.init.r.t.k.neg,.d (nsl s.init.r.t.k.abs),cB s.init.r.eq,cFs s.init.kids,.d (.sl 3 (s.procs.map za2.d)),.d (.sl 10 (s.acts.map za6.d)),cIs acts,cI ((i:Int)+1)]),(9,.row 5 1 (bw l))] h ?_;clear h;intro a w h
  refine wp_ret (zaf ?_)
  replace h:=h.conv (f':=F.of [(2,vi .i64 x1)] [(7,.bld 77 (.own 9 l.length) [.d (.sl 1 (s.vars.map za3)),.d (.sl 5 (s.bounds.map za1.d)),cI s.init.kind,cPs s.init.r.t.parts,cB s.init.r.t.k.neg,.d (nsl s.init.r.t.k.abs),cB s.init.r.eq,cFs s.init.kids,.d (.sl 3 (s.procs.map za2.d)),.d (.sl 10 (s.acts.map za6.d)),cIs acts,cI ((i+1:Nat):Int)]),(9,.row 5 1 (bw l))]) (by rw [show ((i:Int)+1:Int)=((i+1:Nat):Int) from rfl])
  refine zb0 [.c (cI x1)] h Exit.ret (.inl rfl)  rfl ⟨RV.tmp _ _ rfl,trivial⟩ ?_
  rw [show acA acts i=x1 from by unfold acA;rw [hx1];rfl];first | done | rfl
 ·have hc2:=hc;clear hc
  have hc2':=of_decide_eq_false hc2
  refine wp_skip (za5 (rq zac 30 [] [(2,vi .i64 (-1))] [(7,.bld 77 (.own 9 l.length) [.d (.sl 1 (s.vars.map za3)),.d (.sl 5 (s.bounds.map za1.d)),cI s.init.kind,cPs s.init.r.t.parts,cB s.init.r.t.k.neg,.d (nsl s.init.r.t.k.abs),cB s.init.r.eq,cFs s.init.kids,.d (.sl 3 (s.procs.map za2.d)),.d (.sl 10 (s.acts.map za6.d)),cIs acts,cI ((i:Int)+1)]),(9,.row 5 1 (bw l))] h ?_));clear h;intro a w h
  refine wp_ret ?_
  replace h:=h.conv (f':=F.of [(2,vi .i64 (-1))] [(7,.bld 77 (.own 9 l.length) [.d (.sl 1 (s.vars.map za3)),.d (.sl 5 (s.bounds.map za1.d)),cI s.init.kind,cPs s.init.r.t.parts,cB s.init.r.t.k.neg,.d (nsl s.init.r.t.k.abs),cB s.init.r.eq,cFs s.init.kids,.d (.sl 3 (s.procs.map za2.d)),.d (.sl 10 (s.acts.map za6.d)),cIs acts,cI ((i+1:Nat):Int)]),(9,.row 5 1 (bw l))]) (by rw [show ((i:Int)+1:Int)=((i+1:Nat):Int) from rfl])
  refine zb0 [.c (cI (-1))] h Exit.ret (.inl rfl)  rfl ⟨RV.tmp _ _ rfl,trivial⟩ ?_
  rw [show acA acts i=-1 from by unfold acA;rw [List.getElem?_eq_none (by have:=of_decide_eq_false hc2;omega)];rfl];first | done | rfl
abbrev q3 (l:List UInt8) (head:ByteArray) (s:zaj) (acts:List Int) (i:Nat) (xs:List StD) (j:Nat) (x2:StD):L:=.bld 77 (.own 10 (((l++za7 [head])++zay s acts i xs j)++za7 [(⟨#[32,32]⟩:ByteArray),(stW s x2),(⟨#[32,47,32]⟩:ByteArray),(zdd s (acA acts (i+j)))]).length) [.d (.sl 1 (s.vars.map za3)),.d (.sl 5 (s.bounds.map za1.d)),cI s.init.kind,cPs s.init.r.t.parts,cB s.init.r.t.k.neg,.d (nsl s.init.r.t.k.abs),cB s.init.r.eq,cFs s.init.kids,.d (.sl 3 (s.procs.map za2.d)),.d (.sl 10 (s.acts.map za6.d)),cIs acts,cI ((i+j+1:Nat):Int)]
abbrev q4 (l:List UInt8) (head:ByteArray) (s:zaj) (acts:List Int) (i:Nat) (xs:List StD) (j:Nat):L:=.bld 77 (.own 9 ((l++za7 [head])++zay s acts i xs j).length) [.d (.sl 1 (s.vars.map za3)),.d (.sl 5 (s.bounds.map za1.d)),cI s.init.kind,cPs s.init.r.t.parts,cB s.init.r.t.k.neg,.d (nsl s.init.r.t.k.abs),cB s.init.r.eq,cFs s.init.kids,.d (.sl 3 (s.procs.map za2.d)),.d (.sl 10 (s.acts.map za6.d)),cIs acts,cI ((i+j:Nat):Int)]
abbrev q5 (l:List UInt8) (head:ByteArray) (s:zaj) (acts:List Int) (i:Nat):L:=.bld 77 (.own 9 (l++za7 [head]).length) [.d (.sl 1 (s.vars.map za3)),.d (.sl 5 (s.bounds.map za1.d)),cI s.init.kind,cPs s.init.r.t.parts,cB s.init.r.t.k.neg,.d (nsl s.init.r.t.k.abs),cB s.init.r.eq,cFs s.init.kids,.d (.sl 3 (s.procs.map za2.d)),.d (.sl 10 (s.acts.map za6.d)),cIs acts,cI (i:Int)]
abbrev q6 (l:List UInt8) (head:ByteArray) (s:zaj) (acts:List Int) (i:Nat) (xs:List StD) (j:Nat) (x2:StD):L:=.row 5 1 (bw (((l++za7 [head])++zay s acts i xs j)++za7 [(⟨#[32,32]⟩:ByteArray),(stW s x2),(⟨#[32,47,32]⟩:ByteArray),(zdd s (acA acts (i+j)))]))
abbrev q7 (xs:List StD):V:=.t (.c (.d (.sl 2 (xs.map StD.d))))
set_option maxHeartbeats 4000000 in
theorem WStates (s:zaj) (acts:List Int) (i:Nat) (l:List UInt8) (head:ByteArray) (xs:List StD) (hz:zcy s) (hla:s.acts.length≤1000000) (hxs:∀ x ∈ xs,StOk 4 x) (hln:xs.length≤10) (hi:i≤100) (hl:l.length≤2000000000) (hh:head.size≤100):Fn Tryd.prog 21 [(7,.bld 77 (.own 8 l.length) [.d (.sl 1 (s.vars.map za3)),.d (.sl 5 (s.bounds.map za1.d)),cI s.init.kind,cPs s.init.r.t.parts,cB s.init.r.t.k.neg,.d (nsl s.init.r.t.k.abs),cB s.init.r.eq,cFs s.init.kids,.d (.sl 3 (s.procs.map za2.d)),.d (.sl 10 (s.acts.map za6.d)),cIs acts,cI (i:Int)]),(8,.row 5 1 (bw l))] [vp 7 0,.t (.c (.d (.raw (.string head)))),.t (.c (.d (.sl 2 (xs.map StD.d))))] (.tup []) [(7,.bld 77 (.own 9 ((l++za7 [head])++zay s acts i xs xs.length).length) [.d (.sl 1 (s.vars.map za3)),.d (.sl 5 (s.bounds.map za1.d)),cI s.init.kind,cPs s.init.r.t.parts,cB s.init.r.t.k.neg,.d (nsl s.init.r.t.k.abs),cB s.init.r.eq,cFs s.init.kids,.d (.sl 3 (s.procs.map za2.d)),.d (.sl 10 (s.acts.map za6.d)),cIs acts,cI ((i+xs.length:Nat):Int)]),(9,.row 5 1 (bw ((l++za7 [head])++zay s acts i xs xs.length)))]:=by
 have llh:(za7 [head]).length=head.size+1:=by rw [zb3,baL];simp [zak]
 have hlh:l.length+(za7 [head]).length≤4294967296:=by omega
 have lpl:(l++za7 [head]).length≤2000000101:=by rw [List.length_append];omega
 refine Fn.body Tryd.func21 rfl 35 rfl fun w H B a h=>?_
 refine rq zac 30 [(2,.gen _ _ _ fun _ _ _ _=>Op.buildD (d:=10) (len:=1) (rows:=[head].map za3) (rs:=[(9,.t (.c (.d (.raw (.string head)))))]) zcc (.cons (i:=0) (OV.tmp 9 _) (.nil)) (by kernel_rfl) rfl (by simp [za3]) (by decide) (by decide)),(3,.call (WLineA (.sl 1 (s.vars.map za3)) (.sl 5 (s.bounds.map za1.d)) (.raw (.int .i64 s.init.kind)) (.sl 3 (s.init.r.t.parts.map zcz.d)) (.raw (.bool s.init.r.t.k.neg)) (nsl s.init.r.t.k.abs) (.raw (.bool s.init.r.eq)) (.sl 6 (s.init.kids.map za9.d)) (.sl 3 (s.procs.map za2.d)) (.sl 10 (s.acts.map za6.d)) (.sl 1 (acts.map intD)) (.raw (.int .i64 (i:Int))) l [head] hlh (by simp)) pj1_4)] [(0,vp 7 0),(2,q7 xs)] [(7,q5 l head s acts i),(9,.row 5 1 (bw (l++za7 [head])))] h ?_;clear h;intro a w h
 refine rq zac 30 [(1,.len (c:=(.d (.sl 2 (xs.map StD.d)))) (n:=xs.length) (za8 _ _ _))] [(0,vp 7 0),(12,q7 xs),(13,vi .i64 (xs.length:Int)),(14,vi .i64 0)] [(7,q5 l head s acts i),(9,.row 5 1 (bw (l++za7 [head])))] h ?_;clear h;intro a w h
 refine wp_block ?_
 replace h:=h.conv (f':=F.of [(0,vp 7 0),(12,q7 xs),(13,vi .i64 (xs.length:Int)),(14,vi .i64 0)] [(7,.bld 77 (.own 9 ((l++za7 [head])++zay s acts i xs 0).length) [.d (.sl 1 (s.vars.map za3)),.d (.sl 5 (s.bounds.map za1.d)),cI s.init.kind,cPs s.init.r.t.parts,cB s.init.r.t.k.neg,.d (nsl s.init.r.t.k.abs),cB s.init.r.eq,cFs s.init.kids,.d (.sl 3 (s.procs.map za2.d)),.d (.sl 10 (s.acts.map za6.d)),cIs acts,cI (i:Int)]),(9,.row 5 1 (bw ((l++za7 [head])++zay s acts i xs 0)))]) (congrArg (fun (z_:List UInt8)=>F.of [(0,vp 7 0),(12,q7 xs),(13,vi .i64 (xs.length:Int)),(14,vi .i64 0)] [(7,.bld 77 (.own 9 z_.length) [.d (.sl 1 (s.vars.map za3)),.d (.sl 5 (s.bounds.map za1.d)),cI s.init.kind,cPs s.init.r.t.parts,cB s.init.r.t.k.neg,.d (nsl s.init.r.t.k.abs),cB s.init.r.eq,cFs s.init.kids,.d (.sl 3 (s.procs.map za2.d)),.d (.sl 10 (s.acts.map za6.d)),cIs acts,cI (i:Int)]),(9,.row 5 1 (bw z_))]) (show ((l++za7 [head]):List UInt8)=((l++za7 [head])++zay s acts i xs 0) from (by simp [zay])))
 replace h:=h.conv (f':=F.of [(0,vp 7 0),(12,q7 xs),(13,vi .i64 (xs.length:Int)),(14,vi .i64 0)] [(7,.bld 77 (.own 9 ((l++za7 [head])++zay s acts i xs 0).length) [.d (.sl 1 (s.vars.map za3)),.d (.sl 5 (s.bounds.map za1.d)),cI s.init.kind,cPs s.init.r.t.parts,cB s.init.r.t.k.neg,.d (nsl s.init.r.t.k.abs),cB s.init.r.eq,cFs s.init.kids,.d (.sl 3 (s.procs.map za2.d)),.d (.sl 10 (s.acts.map za6.d)),cIs acts,cI ((i+0:Nat):Int)]),(9,.row 5 1 (bw ((l++za7 [head])++zay s acts i xs 0)))]) (by rw [show ((i:Int):Int)=((i+0:Nat):Int) from rfl])
 refine zch (ι:=(Nat)) (fun (z_:(Nat))=>match z_ with | j=>j≤xs.length)
   (fun (z_:(Nat))=>match z_ with | j=>[(0,vp 7 0),(12,q7 xs),(13,vi .i64 (xs.length:Int)),(14,vi .i64 (j:Int))])
   (fun (z_:(Nat))=>match z_ with | j=>[(7,q4 l head s acts i xs j),(9,.row 5 1 (bw ((l++za7 [head])++zay s acts i xs j)))])
   (fun (z_:(Nat))=>match z_ with | j=>xs.length - j) 0 ?_ h (by kernel_rfl) (by kernel_rfl) ?_
 ·exact Nat.zero_le _
 ·clear h;rintro j a w hI h
  change St _ (F.of [(0,vp 7 0),(12,q7 xs),(13,vi .i64 (xs.length:Int)),(14,vi .i64 (j:Int))] [(7,q4 l head s acts i xs j),(9,.row 5 1 (bw ((l++za7 [head])++zay s acts i xs j)))]) a w at h
  have lsj:=zd8 hz hla hxs acts i j hI
  refine rq zac 30 [] [(0,vp 7 0),(12,q7 xs),(13,vi .i64 (xs.length:Int)),(14,vi .i64 (j:Int)),(15,vb (decide ((j:Int)<(xs.length:Int))))] [(7,q4 l head s acts i xs j),(9,.row 5 1 (bw ((l++za7 [head])++zay s acts i xs j)))] h ?_;clear h;intro a w h
  refine wp_seq ?_
  refine zad (decide ((j:Int)<(xs.length:Int))) h rfl (fun hc=>?_) (fun hc=>?_)
  ·have hc1:=hc;clear hc
   have hc1':=of_decide_eq_true hc1
   refine wp_skip (za5 (wp_seq (wp_block ?_)))
   obtain ⟨x2,hx2⟩:∃ z_:StD,xs[j]?=some z_:=⟨_,List.getElem?_eq_getElem (by first | omega | (simp at *;omega))⟩
   have gx2:=hxs x2 (List.mem_of_getElem? hx2)
   have lsx2:=stLn_len hz hla gx2 acts (i+j)
   refine rq zac 30 [(0,.gen _ _ _ fun _ _ _ _=>Op.idxD (d:=16) (t:=12) (k:=.i64) kn_0 (zb2 hx2 (f:=StD.d)) (OV.tmp 14 _))] [(0,vp 7 0),(7,vp 30 0),(12,q7 xs),(13,vi .i64 (xs.length:Int)),(14,vi .i64 (j:Int))] [(7,q4 l head s acts i xs j),(9,.row 5 1 (bw ((l++za7 [head])++zay s acts i xs j))),(30,.box [cIs x2.locs,cZs x2.vals])] h ?_;clear h;intro a w h
   refine rSW zac 31 [(2,.gen _ _ _ fun _ _ _ _=>Op.nilP (d:=20) (t:=19) (n:=7) (o:=0)),(4,.gen _ _ _ fun _ _ _ _=>Op.loadB_agg (d:=22) (t:=21) (n:=7) (o:=0) (m:=10) (T:=77) (c0:=.own 9 ((l++za7 [head])++zay s acts i xs j).length) (rest:=[.d (.sl 1 (s.vars.map za3)),.d (.sl 5 (s.bounds.map za1.d)),cI s.init.kind,cPs s.init.r.t.parts,cB s.init.r.t.k.neg,.d (nsl s.init.r.t.k.abs),cB s.init.r.eq,cFs s.init.kids,.d (.sl 3 (s.procs.map za2.d)),.d (.sl 10 (s.acts.map za6.d)),cIs acts,cI ((i+j:Nat):Int)]) (xs:=[.d (.sl 1 (s.vars.map za3)),.d (.sl 5 (s.bounds.map za1.d)),cI s.init.kind,cPs s.init.r.t.parts,cB s.init.r.t.k.neg,.d (nsl s.init.r.t.k.abs),cB s.init.r.eq,cFs s.init.kids,.d (.sl 3 (s.procs.map za2.d)),.d (.sl 10 (s.acts.map za6.d))]) pj1_6 rfl rfl),(6,.call (PState s x2 hz gx2) pj1_7),(8,.gen _ _ _ fun _ _ _ _=>Op.nilP (d:=26) (t:=25) (n:=7) (o:=0)),(10,.gen _ _ _ fun _ _ _ _=>Op.loadB_agg (d:=28) (t:=27) (n:=7) (o:=0) (m:=10) (T:=77) (c0:=.own 9 ((l++za7 [head])++zay s acts i xs j).length) (rest:=[.d (.sl 1 (s.vars.map za3)),.d (.sl 5 (s.bounds.map za1.d)),cI s.init.kind,cPs s.init.r.t.parts,cB s.init.r.t.k.neg,.d (nsl s.init.r.t.k.abs),cB s.init.r.eq,cFs s.init.kids,.d (.sl 3 (s.procs.map za2.d)),.d (.sl 10 (s.acts.map za6.d)),cIs acts,cI ((i+j:Nat):Int)]) (xs:=[.d (.sl 1 (s.vars.map za3)),.d (.sl 5 (s.bounds.map za1.d)),cI s.init.kind,cPs s.init.r.t.parts,cB s.init.r.t.k.neg,.d (nsl s.init.r.t.k.abs),cB s.init.r.eq,cFs s.init.kids,.d (.sl 3 (s.procs.map za2.d)),.d (.sl 10 (s.acts.map za6.d))]) pj1_6 rfl rfl),(12,.call (WAct s acts (i+j) ((l++za7 [head])++zay s acts i xs j) (by omega)) pj1_8),(13,.call (PAct s (acA acts (i+j)) hz hla) pj1_9),(14,.gen _ _ _ fun _ _ _ _=>Op.buildD (d:=32) (len:=4) (rows:=[(⟨#[32,32]⟩:ByteArray),(stW s x2),(⟨#[32,47,32]⟩:ByteArray),(zdd s (acA acts (i+j)))].map za3) (rs:=[(24,.t (.c (.d (.raw (.string (stW s x2)))))),(31,.t (.c (.d (.raw (.string (zdd s (acA acts (i+j))))))))]) zcc (.cons (i:=0) (OV.const (.string (⟨#[32,32]⟩:ByteArray)) rfl) (.cons (i:=1) (OV.tmp 24 _) (.cons (i:=2) (OV.const (.string (⟨#[32,47,32]⟩:ByteArray)) rfl) (.cons (i:=3) (OV.tmp 31 _) (.nil))))) (by kernel_rfl) rfl (by simp [za3]) (by decide) (by decide)),(15,.call (WLineB (.sl 1 (s.vars.map za3)) (.sl 5 (s.bounds.map za1.d)) (.raw (.int .i64 s.init.kind)) (.sl 3 (s.init.r.t.parts.map zcz.d)) (.raw (.bool s.init.r.t.k.neg)) (nsl s.init.r.t.k.abs) (.raw (.bool s.init.r.eq)) (.sl 6 (s.init.kids.map za9.d)) (.sl 3 (s.procs.map za2.d)) (.sl 10 (s.acts.map za6.d)) (.sl 1 (acts.map intD)) (.raw (.int .i64 ((i+j+1:Nat):Int))) ((l++za7 [head])++zay s acts i xs j) [(⟨#[32,32]⟩:ByteArray),(stW s x2),(⟨#[32,47,32]⟩:ByteArray),(zdd s (acA acts (i+j)))] (by first | omega | (rw [List.length_append];show _+(stLn s acts (i+j) x2).length≤_;rw [List.length_append];omega)) (by simp)) pj1_4)] [(0,vp 7 0),(12,q7 xs),(13,vi .i64 (xs.length:Int)),(14,vi .i64 (j:Int))] [(7,q3 l head s acts i xs j x2),(10,q6 l head s acts i xs j x2)] 12 10 7 (.bld 77 (.own 9 ((l++za7 [head])++zay s acts i xs j).length) [.d (.sl 1 (s.vars.map za3)),.d (.sl 5 (s.bounds.map za1.d)),cI s.init.kind,cPs s.init.r.t.parts,cB s.init.r.t.k.neg,.d (nsl s.init.r.t.k.abs),cB s.init.r.eq,cFs s.init.kids,.d (.sl 3 (s.procs.map za2.d)),.d (.sl 10 (s.acts.map za6.d)),cIs acts,cI ((i+j+1:Nat):Int)]) (dy:=some 28) (opy:=.load 39 (.tmp 27)) { rs:=[(27,vp 7 2)],rl:=[(7,.bld 77 (.own 9 ((l++za7 [head])++zay s acts i xs j).length) [.d (.sl 1 (s.vars.map za3)),.d (.sl 5 (s.bounds.map za1.d)),cI s.init.kind,cPs s.init.r.t.parts,cB s.init.r.t.k.neg,.d (nsl s.init.r.t.k.abs),cB s.init.r.eq,cFs s.init.kids,.d (.sl 3 (s.procs.map za2.d)),.d (.sl 10 (s.acts.map za6.d)),cIs acts,cI ((i+j+1:Nat):Int)])],ws:=[(28,some (.t (.agg [.d (.sl 1 (s.vars.map za3)),.d (.sl 5 (s.bounds.map za1.d)),cI s.init.kind,cPs s.init.r.t.parts,cB s.init.r.t.k.neg,.d (nsl s.init.r.t.k.abs),cB s.init.r.eq,cFs s.init.kids,.d (.sl 3 (s.procs.map za2.d)),.d (.sl 10 (s.acts.map za6.d))])))] } (fun _ _ _ _=>Op.loadB_agg (d:=28) (t:=27) (n:=7) (o:=0) (m:=10) (T:=77) (c0:=.own 9 ((l++za7 [head])++zay s acts i xs j).length) (rest:=[.d (.sl 1 (s.vars.map za3)),.d (.sl 5 (s.bounds.map za1.d)),cI s.init.kind,cPs s.init.r.t.parts,cB s.init.r.t.k.neg,.d (nsl s.init.r.t.k.abs),cB s.init.r.eq,cFs s.init.kids,.d (.sl 3 (s.procs.map za2.d)),.d (.sl 10 (s.acts.map za6.d)),cIs acts,cI ((i+j+1:Nat):Int)]) (xs:=[.d (.sl 1 (s.vars.map za3)),.d (.sl 5 (s.bounds.map za1.d)),cI s.init.kind,cPs s.init.r.t.parts,cB s.init.r.t.k.neg,.d (nsl s.init.r.t.k.abs),cB s.init.r.eq,cFs s.init.kids,.d (.sl 3 (s.procs.map za2.d)),.d (.sl 10 (s.acts.map za6.d))]) pj1_6 rfl rfl) rfl rfl rfl (by kernel_rfl) (by kernel_rfl) h ?_;clear h;intro a w h
   refine zar (za5 (rn zac 31 [(0,.add .i64 (m:=(j:Int)) (n:=1) (zam (by omega) (by omega)))] [(0,vp 7 0),(12,q7 xs),(13,vi .i64 (xs.length:Int)),(14,vi .i64 ((j:Int)+1))] [(7,q3 l head s acts i xs j x2),(10,q6 l head s acts i xs j x2)] h ?_));clear h;intro a w h
   refine za5 ?_
   replace h:=renS 10 9 [(0,vp 7 0),(12,q7 xs),(13,vi .i64 (xs.length:Int)),(14,vi .i64 ((j:Int)+1))] [(7,.bld 77 (.own 9 (((l++za7 [head])++zay s acts i xs j)++za7 [(⟨#[32,32]⟩:ByteArray),(stW s x2),(⟨#[32,47,32]⟩:ByteArray),(zdd s (acA acts (i+j)))]).length) [.d (.sl 1 (s.vars.map za3)),.d (.sl 5 (s.bounds.map za1.d)),cI s.init.kind,cPs s.init.r.t.parts,cB s.init.r.t.k.neg,.d (nsl s.init.r.t.k.abs),cB s.init.r.eq,cFs s.init.kids,.d (.sl 3 (s.procs.map za2.d)),.d (.sl 10 (s.acts.map za6.d)),cIs acts,cI ((i+j+1:Nat):Int)]),(9,q6 l head s acts i xs j x2)] h
   replace h:=h.conv (f':=F.of [(0,vp 7 0),(12,q7 xs),(13,vi .i64 (xs.length:Int)),(14,vi .i64 ((j:Int)+1))] [(7,.bld 77 (.own 9 ((l++za7 [head])++zay s acts i xs (j+1)).length) [.d (.sl 1 (s.vars.map za3)),.d (.sl 5 (s.bounds.map za1.d)),cI s.init.kind,cPs s.init.r.t.parts,cB s.init.r.t.k.neg,.d (nsl s.init.r.t.k.abs),cB s.init.r.eq,cFs s.init.kids,.d (.sl 3 (s.procs.map za2.d)),.d (.sl 10 (s.acts.map za6.d)),cIs acts,cI ((i+j+1:Nat):Int)]),(9,.row 5 1 (bw ((l++za7 [head])++zay s acts i xs (j+1))))]) (congrArg (fun (z_:List UInt8)=>F.of [(0,vp 7 0),(12,q7 xs),(13,vi .i64 (xs.length:Int)),(14,vi .i64 ((j:Int)+1))] [(7,.bld 77 (.own 9 z_.length) [.d (.sl 1 (s.vars.map za3)),.d (.sl 5 (s.bounds.map za1.d)),cI s.init.kind,cPs s.init.r.t.parts,cB s.init.r.t.k.neg,.d (nsl s.init.r.t.k.abs),cB s.init.r.eq,cFs s.init.kids,.d (.sl 3 (s.procs.map za2.d)),.d (.sl 10 (s.acts.map za6.d)),cIs acts,cI ((i+j+1:Nat):Int)]),(9,.row 5 1 (bw z_))]) (show ((((l++za7 [head])++zay s acts i xs j)++za7 [(⟨#[32,32]⟩:ByteArray),(stW s x2),(⟨#[32,47,32]⟩:ByteArray),(zdd s (acA acts (i+j)))]):List UInt8)=((l++za7 [head])++zay s acts i xs (j+1)) from (by rw [← stsN_snoc hx2,← List.append_assoc];rfl)))
   replace h:=h.conv (f':=F.of [(0,vp 7 0),(12,q7 xs),(13,vi .i64 (xs.length:Int)),(14,vi .i64 ((j:Int)+1))] [(7,.bld 77 (.own 9 ((l++za7 [head])++zay s acts i xs (j+1)).length) [.d (.sl 1 (s.vars.map za3)),.d (.sl 5 (s.bounds.map za1.d)),cI s.init.kind,cPs s.init.r.t.parts,cB s.init.r.t.k.neg,.d (nsl s.init.r.t.k.abs),cB s.init.r.eq,cFs s.init.kids,.d (.sl 3 (s.procs.map za2.d)),.d (.sl 10 (s.acts.map za6.d)),cIs acts,cI ((i+(j+1):Nat):Int)]),(9,.row 5 1 (bw ((l++za7 [head])++zay s acts i xs (j+1))))]) (by rw [show (((i+j+1:Nat):Int):Int)=((i+(j+1):Nat):Int) from rfl])
   refine zb5 (x:=j) (y:=j+1) h ?_ ?_
   ·have:=zat hx2
    show j+1≤xs.length
    omega
   ·show xs.length - (j+1)<xs.length - j
    have:=zat hx2;omega
  ·have hc2:=hc;clear hc
   have hc2':=of_decide_eq_false hc2
   refine wp_exit (zap (zap (zae ?_)))
   replace h:=h.conv (f':=F.of [(0,vp 7 0),(12,q7 xs),(13,vi .i64 (xs.length:Int)),(14,vi .i64 (j:Int)),(15,vb (decide ((j:Int)<(xs.length:Int))))] [(7,.bld 77 (.own 9 ((l++za7 [head])++zay s acts i xs xs.length).length) [.d (.sl 1 (s.vars.map za3)),.d (.sl 5 (s.bounds.map za1.d)),cI s.init.kind,cPs s.init.r.t.parts,cB s.init.r.t.k.neg,.d (nsl s.init.r.t.k.abs),cB s.init.r.eq,cFs s.init.kids,.d (.sl 3 (s.procs.map za2.d)),.d (.sl 10 (s.acts.map za6.d)),cIs acts,cI ((i+j:Nat):Int)]),(9,.row 5 1 (bw ((l++za7 [head])++zay s acts i xs xs.length)))]) (congrArg (fun (z_:List UInt8)=>F.of [(0,vp 7 0),(12,q7 xs),(13,vi .i64 (xs.length:Int)),(14,vi .i64 (j:Int)),(15,vb (decide ((j:Int)<(xs.length:Int))))] [(7,.bld 77 (.own 9 z_.length) [.d (.sl 1 (s.vars.map za3)),.d (.sl 5 (s.bounds.map za1.d)),cI s.init.kind,cPs s.init.r.t.parts,cB s.init.r.t.k.neg,.d (nsl s.init.r.t.k.abs),cB s.init.r.eq,cFs s.init.kids,.d (.sl 3 (s.procs.map za2.d)),.d (.sl 10 (s.acts.map za6.d)),cIs acts,cI ((i+j:Nat):Int)]),(9,.row 5 1 (bw z_))]) (show (((l++za7 [head])++zay s acts i xs j):List UInt8)=((l++za7 [head])++zay s acts i xs xs.length) from (by rw [show j=xs.length by have:=of_decide_eq_false hc2;omega])))
   replace h:=h.conv (f':=F.of [(0,vp 7 0),(12,q7 xs),(13,vi .i64 (xs.length:Int)),(14,vi .i64 (j:Int)),(15,vb (decide ((j:Int)<(xs.length:Int))))] [(7,.bld 77 (.own 9 ((l++za7 [head])++zay s acts i xs xs.length).length) [.d (.sl 1 (s.vars.map za3)),.d (.sl 5 (s.bounds.map za1.d)),cI s.init.kind,cPs s.init.r.t.parts,cB s.init.r.t.k.neg,.d (nsl s.init.r.t.k.abs),cB s.init.r.eq,cFs s.init.kids,.d (.sl 3 (s.procs.map za2.d)),.d (.sl 10 (s.acts.map za6.d)),cIs acts,cI ((i+xs.length:Nat):Int)]),(9,.row 5 1 (bw ((l++za7 [head])++zay s acts i xs xs.length)))]) (by rw [show (((i+j:Nat):Int):Int)=((i+xs.length:Nat):Int) from (by have:=of_decide_eq_false hc2;omega)])
   refine zb0 [] h Exit.normal (.inr rfl)  rfl trivial ?_
   rfl
theorem pk1_0:zaa Tryd.prog 20:=zaa.mk' (by kernel_rfl)
theorem pk1_3:zaa Tryd.prog 21:=zaa.mk' (by kernel_rfl)
theorem pk1_4:zaa Tryd.prog 22:=zaa.mk' (by kernel_rfl)
def zab (v:Int):ByteArray:=if v=1 then ⟨#[72,79,76,68,83]⟩ else if v=2 then ⟨#[86,73,79,76,65,84,69,68]⟩ else if v=3 then ⟨#[85,78,75,78,79,87,78]⟩ else ⟨#[69,82,82,79,82]⟩
theorem zda (v:Int):(zab v).size≤8:=by
 unfold zab
 split
 ·decide
 ·split
  ·decide
  ·split
   ·decide
   ·decide
structure RnOk (r:zbw):Prop where
  stem:∀ x ∈ r.stem,StOk 4 x
  cyc:∀ x ∈ r.cycle,StOk 4 x
  len:r.stem.length+r.cycle.length≤10
  acts:r.acts.length≤1000
theorem zaz (a:ByteArray):(za7 [a]).length=a.size+1:=by rw [zb3,baL];simp [zak]
theorem zc3 (a b:ByteArray):(za7 [a,b]).length=a.size+b.size+1:=by rw [zb3,baL,baL];simp [zak]
def headW (v:Int) (why:ByteArray):List UInt8:=([]++za7 [zab v])++za7 [⟨#[119,104,121,58,32]⟩,why]
def runW (s:zaj) (r:zbw):List UInt8:=(za7 [⟨#[115,116,101,109,58]⟩]++zay s r.acts 0 r.stem r.stem.length)++(za7 [⟨#[99,121,99,108,101,58]⟩]++zay s r.acts r.stem.length r.cycle r.cycle.length)
def zbf (s:zaj) (v:Int) (why:ByteArray) (r:zbw):List UInt8:=if v=2 then headW v why++runW s r else headW v why
theorem headW_len (v:Int) (why:ByteArray):(headW v why).length=(zab v).size+why.size+7:=by
 unfold headW
 rw [List.nil_append,List.length_append,zaz,zc3,show (⟨#[119,104,121,58,32]⟩:ByteArray).size=5 from rfl];omega
theorem txtW_ne {s:zaj} {v:Int} {why:ByteArray} {r:zbw}:zbf s v why r≠[]:=by
 intro e
 have h1:=congrArg List.length e
 unfold zbf at h1
 have h2:=headW_len v why
 split at h1
 ·rw [List.length_append,List.length_nil] at h1;omega
 ·rw [List.length_nil] at h1;omega
theorem txtW_no {s:zaj} {v:Int} {why:ByteArray} {r:zbw} (h:¬ v=2):([]++za7 [zab v])++za7 [⟨#[119,104,121,58,32]⟩,why]=zbf s v why r:=by unfold zbf;rw [if_neg h];rfl
theorem txtW_yes {s:zaj} {v:Int} {why:ByteArray} {r:zbw} (h:v=2):(((((([]++za7 [zab v])++za7 [⟨#[119,104,121,58,32]⟩,why])++za7 [⟨#[115,116,101,109,58]⟩])++zay s r.acts 0 r.stem r.stem.length))++za7 [⟨#[99,121,99,108,101,58]⟩])++zay s r.acts (0+r.stem.length) r.cycle r.cycle.length=zbf s v why r:=by
 unfold zbf headW runW;rw [if_pos h,Nat.zero_add];simp only [List.append_assoc]
theorem runW_len {s:zaj} {r:zbw} (hz:zcy s) (hl:s.acts.length≤1000000) (hr:RnOk r):(zay s r.acts 0 r.stem r.stem.length).length≤430000000∧(zay s r.acts r.stem.length r.cycle r.cycle.length).length≤430000000:=by
 have h1:=zd8 hz hl hr.stem r.acts 0 _ (Nat.le_refl _)
 have h2:=zd8 hz hl hr.cyc r.acts r.stem.length _ (Nat.le_refl _)
 have h3:=hr.len
 have h4:r.stem.length*43000000≤10*43000000:=Nat.mul_le_mul_right _ (by omega)
 have h5:r.cycle.length*43000000≤10*43000000:=Nat.mul_le_mul_right _ (by omega)
 exact ⟨by omega,by omega⟩
def wrongL (why:ByteArray) (ln cl:Int) (e:Int):List ByteArray:=[why,⟨#[32]⟩,itW ln,⟨#[58]⟩,itW cl,⟨#[32]⟩,itW e]
def zas (why:ByteArray) (ln cl:Int) (e:Int):List UInt8:=([]++za7 [zab 4])++za7 (wrongL why ln cl e)
theorem wrongW_ne {why:ByteArray} {ln cl e:Int}:zas why ln cl e≠[]:=by
 intro h
 have h1:=congrArg List.length h
 unfold zas at h1
 rw [List.nil_append,List.length_append,zaz,List.length_nil] at h1
 omega
theorem zcv {n:Int} (h0:-9223372036854775808≤n) (h1:n≤9223372036854775807):(itW n).size≤30:=itW_sz (k:=29) (by have e:(10:Nat) ^ 29=100000000000000000000000000000:=rfl;omega) (by decide)
set_option maxHeartbeats 4000000 in
theorem PName (v:Int) :Fn Tryd.prog 20 [] [vi .i64 v] (vs (zab v)) []:=by
 refine Fn.body Tryd.func20 rfl 10 rfl fun w H B a h=>?_
 refine rq zac 0 [] [(0,vi .i64 v),(2,.t (.c (.d (.raw (.string ByteArray.empty)))))] [] h ?_;clear h;intro a w h
 refine wp_seq (rq zac 0 [] [(2,.t (.c (.d (.raw (.string ByteArray.empty))))),(3,vi .i64 v)] [] h ?_);clear h;intro a w h
 refine wp_block (rq zac 0 [] [(2,.t (.c (.d (.raw (.string ByteArray.empty))))),(3,vi .i64 v),(4,vb (v == 1))] [] h ?_);clear h;intro a w h
 refine zad (v == 1) h rfl (fun hc=>?_) (fun hc=>?_)
 ·have hc1:=hc;clear hc
  have hc1':=hc1;(try simp at hc1')
  refine rq zac 0 [] [(2,.t (.c (.d (.raw (.string (⟨#[72,79,76,68,83]⟩:ByteArray))))))] [] h ?_;clear h;intro a w h
  refine wp_ret (zax (zaf ?_))
  refine zb0 [.c (.d (.raw (.string (⟨#[72,79,76,68,83]⟩:ByteArray))))] h Exit.ret (.inl rfl)  rfl ⟨RV.tmp _ _ rfl,trivial⟩ ?_
  have p1:v=1:=by simpa using hc1
  unfold zab;rw [if_pos p1];first | done | rfl
 ·have hc2:=hc;clear hc
  have hc2':=hc2;(try simp at hc2')
  refine rq zac 0 [] [(2,.t (.c (.d (.raw (.string ByteArray.empty))))),(3,vi .i64 v),(6,vb (v == 2))] [] h ?_;clear h;intro a w h
  refine zad (v == 2) h rfl (fun hc=>?_) (fun hc=>?_)
  ·have hc3:=hc;clear hc
   have hc3':=hc3;(try simp at hc3')
   refine rq zac 0 [] [(2,.t (.c (.d (.raw (.string (⟨#[86,73,79,76,65,84,69,68]⟩:ByteArray))))))] [] h ?_;clear h;intro a w h
   refine wp_ret (zax (zaf ?_))
   refine zb0 [.c (.d (.raw (.string (⟨#[86,73,79,76,65,84,69,68]⟩:ByteArray))))] h Exit.ret (.inl rfl)  rfl ⟨RV.tmp _ _ rfl,trivial⟩ ?_
   have p1:¬ v=1:=by simpa using hc2
   have p2:v=2:=by simpa using hc3
   unfold zab;rw [if_neg p1,if_pos p2];first | done | rfl
  ·have hc4:=hc;clear hc
   have hc4':=hc4;(try simp at hc4')
   refine rq zac 0 [] [(2,.t (.c (.d (.raw (.string ByteArray.empty))))),(8,vb (v == 3))] [] h ?_;clear h;intro a w h
   refine zad (v == 3) h rfl (fun hc=>?_) (fun hc=>?_)
   ·have hc5:=hc;clear hc
    have hc5':=hc5;(try simp at hc5')
    refine rq zac 0 [] [(2,.t (.c (.d (.raw (.string (⟨#[85,78,75,78,79,87,78]⟩:ByteArray))))))] [] h ?_;clear h;intro a w h
    refine wp_ret (zax (zaf ?_))
    refine zb0 [.c (.d (.raw (.string (⟨#[85,78,75,78,79,87,78]⟩:ByteArray))))] h Exit.ret (.inl rfl)  rfl ⟨RV.tmp _ _ rfl,trivial⟩ ?_
    have p1:¬ v=1:=by simpa using hc2
    have p2:¬ v=2:=by simpa using hc4
    have p3:v=3:=by simpa using hc5
    unfold zab;rw [if_neg p1,if_neg p2,if_pos p3];first | done | rfl
   ·have hc6:=hc;clear hc
    have hc6':=hc6;(try simp at hc6')
    refine wp_skip (zar (za5 (rq zac 0 [] [(2,.t (.c (.d (.raw (.string (⟨#[69,82,82,79,82]⟩:ByteArray))))))] [] h ?_)));clear h;intro a w h
    refine wp_ret ?_
    refine zb0 [.c (.d (.raw (.string (⟨#[69,82,82,79,82]⟩:ByteArray))))] h Exit.ret (.inl rfl)  rfl ⟨RV.tmp _ _ rfl,trivial⟩ ?_
    have p1:¬ v=1:=by simpa using hc2
    have p2:¬ v=2:=by simpa using hc4
    have p3:¬ v=3:=by simpa using hc6
    unfold zab;rw [if_neg p1,if_neg p2,if_neg p3];first | done | rfl
abbrev q8 (v:Int) (why:ByteArray) (s:zaj) (r:zbw):L:=.bld 77 (.own 9 (([]++za7 [(zab v)])++za7 [(⟨#[119,104,121,58,32]⟩:ByteArray),why]).length) [.d (.sl 1 (s.vars.map za3)),.d (.sl 5 (s.bounds.map za1.d)),cI s.init.kind,cPs s.init.r.t.parts,cB s.init.r.t.k.neg,.d (nsl s.init.r.t.k.abs),cB s.init.r.eq,cFs s.init.kids,.d (.sl 3 (s.procs.map za2.d)),.d (.sl 10 (s.acts.map za6.d)),cIs r.acts,cI 0]
abbrev q9 (v:Int) (why:ByteArray) (s:zaj) (r:zbw):L:=.bld 77 (.own 8 (([]++za7 [(zab v)])++za7 [(⟨#[119,104,121,58,32]⟩:ByteArray),why]).length) [.d (.sl 1 (s.vars.map za3)),.d (.sl 5 (s.bounds.map za1.d)),cI s.init.kind,cPs s.init.r.t.parts,cB s.init.r.t.k.neg,.d (nsl s.init.r.t.k.abs),cB s.init.r.eq,cFs s.init.kids,.d (.sl 3 (s.procs.map za2.d)),.d (.sl 10 (s.acts.map za6.d)),cIs r.acts,cI 0]
abbrev q10 (v:Int) (why:ByteArray) (s:zaj) (r:zbw):L:=.row 5 1 (bw (((((([]++za7 [(zab v)])++za7 [(⟨#[119,104,121,58,32]⟩:ByteArray),why])++za7 [(⟨#[115,116,101,109,58]⟩:ByteArray)])++zay s r.acts 0 r.stem r.stem.length)++za7 [(⟨#[99,121,99,108,101,58]⟩:ByteArray)])++zay s r.acts (0+r.stem.length) r.cycle r.cycle.length))
abbrev q11 (v:Int) (why:ByteArray) (s:zaj) (r:zbw):L:=.row 5 1 (bw (((([]++za7 [(zab v)])++za7 [(⟨#[119,104,121,58,32]⟩:ByteArray),why])++za7 [(⟨#[115,116,101,109,58]⟩:ByteArray)])++zay s r.acts 0 r.stem r.stem.length))
abbrev q12 (v:Int) (why:ByteArray) (r:zbw) (rd:Int) (lf:Int):L:=.box [cI v,.d (.raw (.string why)),.d (.sl 2 (r.stem.map StD.d)),.d (.sl 2 (r.cycle.map StD.d)),cIs r.acts,cI rd,cI lf]
abbrev q13 (v:Int) (why:ByteArray):L:=.row 5 1 (bw (([]++za7 [(zab v)])++za7 [(⟨#[119,104,121,58,32]⟩:ByteArray),why]))
abbrev q14:V:=.t (.c (.d (.raw (.string ByteArray.empty))))
set_option maxHeartbeats 4000000 in
theorem PText (s:zaj) (v:Int) (why:ByteArray) (r:zbw) (rd lf:Int) (hz:zcy s) (hla:s.acts.length≤1000000) (hr:RnOk r) (hw:why.size≤1048576):Fn Tryd.prog 8 [] [.t (.agg [.d (.sl 1 (s.vars.map za3)),.d (.sl 5 (s.bounds.map za1.d)),cI s.init.kind,cPs s.init.r.t.parts,cB s.init.r.t.k.neg,.d (nsl s.init.r.t.k.abs),cB s.init.r.eq,cFs s.init.kids,.d (.sl 3 (s.procs.map za2.d)),.d (.sl 10 (s.acts.map za6.d))]),.t (.agg [cI v,.d (.raw (.string why)),.d (.sl 2 (r.stem.map StD.d)),.d (.sl 2 (r.cycle.map StD.d)),cIs r.acts,cI rd,cI lf])] (vs ⟨(zbf s v why r).toArray⟩) []:=by
 have lwy:(⟨#[119,104,121,58,32]⟩:ByteArray).size=5:=rfl
 have lst:(⟨#[115,116,101,109,58]⟩:ByteArray).size=5:=rfl
 have lnm:=zda v
 have lrw:=runW_len hz hla hr
 have lrl:=hr.len
 refine Fn.body Tryd.func8 rfl 40 rfl fun w H B a h=>?_
 refine rq zac 30 [] [(2,vp 30 0),(3,vp 31 0),(4,q14)] [(30,.box [.d (.sl 1 (s.vars.map za3)),.d (.sl 5 (s.bounds.map za1.d)),cI s.init.kind,cPs s.init.r.t.parts,cB s.init.r.t.k.neg,.d (nsl s.init.r.t.k.abs),cB s.init.r.eq,cFs s.init.kids,.d (.sl 3 (s.procs.map za2.d)),.d (.sl 10 (s.acts.map za6.d))]),(31,q12 v why r rd lf)] h ?_;clear h;intro a w h
 refine rq zac 32 [(5,.gen _ _ _ fun _ _ _ _=>Op.boxB (d:=11) 7 8 (by decide) 5 (T:=77) (rest:=[.d (.sl 1 (s.vars.map za3)),.d (.sl 5 (s.bounds.map za1.d)),cI s.init.kind,cPs s.init.r.t.parts,cB s.init.r.t.k.neg,.d (nsl s.init.r.t.k.abs),cB s.init.r.eq,cFs s.init.kids,.d (.sl 3 (s.procs.map za2.d)),.d (.sl 10 (s.acts.map za6.d)),cIs r.acts,cI 0]) (ds:=[.sl 1 (s.vars.map za3),.sl 5 (s.bounds.map za1.d),.raw (.int .i64 s.init.kind),.sl 3 (s.init.r.t.parts.map zcz.d),.raw (.bool s.init.r.t.k.neg),nsl s.init.r.t.k.abs,.raw (.bool s.init.r.eq),.sl 6 (s.init.kids.map za9.d),.sl 3 (s.procs.map za2.d),.sl 10 (s.acts.map za6.d),.sl 1 (r.acts.map intD),.raw (.int .i64 0)]) (.agg [.d (.raw (.pointer none)),.d (.raw za4),.d (.sl 1 (s.vars.map za3)),.d (.sl 5 (s.bounds.map za1.d)),cI s.init.kind,cPs s.init.r.t.parts,cB s.init.r.t.k.neg,.d (nsl s.init.r.t.k.abs),cB s.init.r.eq,cFs s.init.kids,.d (.sl 3 (s.procs.map za2.d)),.d (.sl 10 (s.acts.map za6.d)),cIs r.acts,cI 0]) (OV.tmp 10 _) rfl rfl)] [(3,vp 31 0),(4,q14),(5,vp 7 0)] [(31,q12 v why r rd lf),(7,.bld 77 (.own 8 0) [.d (.sl 1 (s.vars.map za3)),.d (.sl 5 (s.bounds.map za1.d)),cI s.init.kind,cPs s.init.r.t.parts,cB s.init.r.t.k.neg,.d (nsl s.init.r.t.k.abs),cB s.init.r.eq,cFs s.init.kids,.d (.sl 3 (s.procs.map za2.d)),.d (.sl 10 (s.acts.map za6.d)),cIs r.acts,cI 0]),(8,.row 5 1 (bw []))] h ?_;clear h;intro a w h
 refine rq zac 32 [(3,.call (PName v) pk1_0),(4,.gen _ _ _ fun _ _ _ _=>Op.buildD (d:=16) (len:=1) (rows:=[(zab v)].map za3) (rs:=[(15,.t (.c (.d (.raw (.string (zab v))))))]) zcc (.cons (i:=0) (OV.tmp 15 _) (.nil)) (by kernel_rfl) rfl (by simp [za3]) (by decide) (by decide)),(5,.call (WLineA (.sl 1 (s.vars.map za3)) (.sl 5 (s.bounds.map za1.d)) (.raw (.int .i64 s.init.kind)) (.sl 3 (s.init.r.t.parts.map zcz.d)) (.raw (.bool s.init.r.t.k.neg)) (nsl s.init.r.t.k.abs) (.raw (.bool s.init.r.eq)) (.sl 6 (s.init.kids.map za9.d)) (.sl 3 (s.procs.map za2.d)) (.sl 10 (s.acts.map za6.d)) (.sl 1 (r.acts.map intD)) (.raw (.int .i64 0)) [] [(zab v)] (by simp only [zaz,List.length_nil];omega) (by simp)) pj1_4)] [(3,vp 31 0),(4,q14),(5,vp 7 0)] [(31,q12 v why r rd lf),(7,.bld 77 (.own 9 ([]++za7 [(zab v)]).length) [.d (.sl 1 (s.vars.map za3)),.d (.sl 5 (s.bounds.map za1.d)),cI s.init.kind,cPs s.init.r.t.parts,cB s.init.r.t.k.neg,.d (nsl s.init.r.t.k.abs),cB s.init.r.eq,cFs s.init.kids,.d (.sl 3 (s.procs.map za2.d)),.d (.sl 10 (s.acts.map za6.d)),cIs r.acts,cI 0]),(9,.row 5 1 (bw ([]++za7 [(zab v)])))] h ?_;clear h;intro a w h
 replace h:=renS 9 8 [(3,vp 31 0),(4,q14),(5,vp 7 0)] [(31,q12 v why r rd lf),(7,.bld 77 (.own 8 ([]++za7 [(zab v)]).length) [.d (.sl 1 (s.vars.map za3)),.d (.sl 5 (s.bounds.map za1.d)),cI s.init.kind,cPs s.init.r.t.parts,cB s.init.r.t.k.neg,.d (nsl s.init.r.t.k.abs),cB s.init.r.eq,cFs s.init.kids,.d (.sl 3 (s.procs.map za2.d)),.d (.sl 10 (s.acts.map za6.d)),cIs r.acts,cI 0]),(8,.row 5 1 (bw ([]++za7 [(zab v)])))] h
 refine rq zac 32 [(3,.gen _ _ _ fun _ _ _ _=>Op.buildD (d:=21) (len:=2) (rows:=[(⟨#[119,104,121,58,32]⟩:ByteArray),why].map za3) (rs:=[(20,.t (.c (.d (.raw (.string why)))))]) zcc (.cons (i:=0) (OV.const (.string (⟨#[119,104,121,58,32]⟩:ByteArray)) rfl) (.cons (i:=1) (OV.tmp 20 _) (.nil))) (by kernel_rfl) rfl (by simp [za3]) (by decide) (by decide)),(4,.call (WLineA (.sl 1 (s.vars.map za3)) (.sl 5 (s.bounds.map za1.d)) (.raw (.int .i64 s.init.kind)) (.sl 3 (s.init.r.t.parts.map zcz.d)) (.raw (.bool s.init.r.t.k.neg)) (nsl s.init.r.t.k.abs) (.raw (.bool s.init.r.eq)) (.sl 6 (s.init.kids.map za9.d)) (.sl 3 (s.procs.map za2.d)) (.sl 10 (s.acts.map za6.d)) (.sl 1 (r.acts.map intD)) (.raw (.int .i64 0)) ([]++za7 [(zab v)]) [(⟨#[119,104,121,58,32]⟩:ByteArray),why] (by simp only [List.nil_append,zaz,zc3];omega) (by simp)) pj1_4)] [(3,vp 31 0),(4,q14),(5,vp 7 0)] [(31,q12 v why r rd lf),(7,q8 v why s r),(9,q13 v why)] h ?_;clear h;intro a w h
 refine wp_seq (rq zac 32 [] [(3,vp 31 0),(4,q14),(5,vp 7 0),(25,vb (v == 2))] [(31,q12 v why r rd lf),(7,q8 v why s r),(9,q13 v why)] h ?_);clear h;intro a w h
 refine zad (v == 2) h rfl (fun hc=>?_) (fun hc=>?_)
 ·have hc1:=hc;clear hc
  have hc1':=hc1;(try simp at hc1')
  replace h:=renS 9 8 [(3,vp 31 0),(4,q14),(5,vp 7 0),(25,vb (v == 2))] [(31,q12 v why r rd lf),(7,q9 v why s r),(8,q13 v why)] h
  refine rq zac 32 [(4,.call (WStates s r.acts 0 (([]++za7 [(zab v)])++za7 [(⟨#[119,104,121,58,32]⟩:ByteArray),why]) (⟨#[115,116,101,109,58]⟩:ByteArray) r.stem hz hla hr.stem (by omega) (by omega) (by simp only [List.nil_append,List.length_append,zaz,zc3];omega) (by decide)) pk1_3)] [(3,vp 31 0),(4,q14),(5,vp 7 0)] [(31,q12 v why r rd lf),(7,.bld 77 (.own 9 (((([]++za7 [(zab v)])++za7 [(⟨#[119,104,121,58,32]⟩:ByteArray),why])++za7 [(⟨#[115,116,101,109,58]⟩:ByteArray)])++zay s r.acts 0 r.stem r.stem.length).length) [.d (.sl 1 (s.vars.map za3)),.d (.sl 5 (s.bounds.map za1.d)),cI s.init.kind,cPs s.init.r.t.parts,cB s.init.r.t.k.neg,.d (nsl s.init.r.t.k.abs),cB s.init.r.eq,cFs s.init.kids,.d (.sl 3 (s.procs.map za2.d)),.d (.sl 10 (s.acts.map za6.d)),cIs r.acts,cI ((0+r.stem.length:Nat):Int)]),(9,q11 v why s r)] h ?_;clear h;intro a w h
  replace h:=renS 9 8 [(3,vp 31 0),(4,q14),(5,vp 7 0)] [(31,q12 v why r rd lf),(7,.bld 77 (.own 8 (((([]++za7 [(zab v)])++za7 [(⟨#[119,104,121,58,32]⟩:ByteArray),why])++za7 [(⟨#[115,116,101,109,58]⟩:ByteArray)])++zay s r.acts 0 r.stem r.stem.length).length) [.d (.sl 1 (s.vars.map za3)),.d (.sl 5 (s.bounds.map za1.d)),cI s.init.kind,cPs s.init.r.t.parts,cB s.init.r.t.k.neg,.d (nsl s.init.r.t.k.abs),cB s.init.r.eq,cFs s.init.kids,.d (.sl 3 (s.procs.map za2.d)),.d (.sl 10 (s.acts.map za6.d)),cIs r.acts,cI ((0+r.stem.length:Nat):Int)]),(8,q11 v why s r)] h
  refine rn zac 32 [(4,.call (WStates s r.acts (0+r.stem.length) (((([]++za7 [(zab v)])++za7 [(⟨#[119,104,121,58,32]⟩:ByteArray),why])++za7 [(⟨#[115,116,101,109,58]⟩:ByteArray)])++zay s r.acts 0 r.stem r.stem.length) (⟨#[99,121,99,108,101,58]⟩:ByteArray) r.cycle hz hla hr.cyc (by omega) (by omega) (by simp only [List.nil_append,List.length_append,zaz,zc3];omega) (by decide)) pk1_3)] [(4,q14),(5,vp 7 0)] [(7,.bld 77 (.own 9 (((((([]++za7 [(zab v)])++za7 [(⟨#[119,104,121,58,32]⟩:ByteArray),why])++za7 [(⟨#[115,116,101,109,58]⟩:ByteArray)])++zay s r.acts 0 r.stem r.stem.length)++za7 [(⟨#[99,121,99,108,101,58]⟩:ByteArray)])++zay s r.acts (0+r.stem.length) r.cycle r.cycle.length).length) [.d (.sl 1 (s.vars.map za3)),.d (.sl 5 (s.bounds.map za1.d)),cI s.init.kind,cPs s.init.r.t.parts,cB s.init.r.t.k.neg,.d (nsl s.init.r.t.k.abs),cB s.init.r.eq,cFs s.init.kids,.d (.sl 3 (s.procs.map za2.d)),.d (.sl 10 (s.acts.map za6.d)),cIs r.acts,cI ((0+r.stem.length+r.cycle.length:Nat):Int)]),(9,q10 v why s r)] h ?_;clear h;intro a w h
  refine za5 ?_
  replace h:=renS 9 8 [(4,q14),(5,vp 7 0)] [(7,.bld 77 (.own 8 (((((([]++za7 [(zab v)])++za7 [(⟨#[119,104,121,58,32]⟩:ByteArray),why])++za7 [(⟨#[115,116,101,109,58]⟩:ByteArray)])++zay s r.acts 0 r.stem r.stem.length)++za7 [(⟨#[99,121,99,108,101,58]⟩:ByteArray)])++zay s r.acts (0+r.stem.length) r.cycle r.cycle.length).length) [.d (.sl 1 (s.vars.map za3)),.d (.sl 5 (s.bounds.map za1.d)),cI s.init.kind,cPs s.init.r.t.parts,cB s.init.r.t.k.neg,.d (nsl s.init.r.t.k.abs),cB s.init.r.eq,cFs s.init.kids,.d (.sl 3 (s.procs.map za2.d)),.d (.sl 10 (s.acts.map za6.d)),cIs r.acts,cI ((0+r.stem.length+r.cycle.length:Nat):Int)]),(8,q10 v why s r)] h
  replace h:=h.conv (f':=F.of [(4,q14),(5,vp 7 0)] [(7,.bld 77 (.own 8 (zbf s v why r).length) [.d (.sl 1 (s.vars.map za3)),.d (.sl 5 (s.bounds.map za1.d)),cI s.init.kind,cPs s.init.r.t.parts,cB s.init.r.t.k.neg,.d (nsl s.init.r.t.k.abs),cB s.init.r.eq,cFs s.init.kids,.d (.sl 3 (s.procs.map za2.d)),.d (.sl 10 (s.acts.map za6.d)),cIs r.acts,cI ((0+r.stem.length+r.cycle.length:Nat):Int)]),(8,.row 5 1 (bw (zbf s v why r)))]) (congrArg (fun (z_:List UInt8)=>F.of [(4,q14),(5,vp 7 0)] [(7,.bld 77 (.own 8 z_.length) [.d (.sl 1 (s.vars.map za3)),.d (.sl 5 (s.bounds.map za1.d)),cI s.init.kind,cPs s.init.r.t.parts,cB s.init.r.t.k.neg,.d (nsl s.init.r.t.k.abs),cB s.init.r.eq,cFs s.init.kids,.d (.sl 3 (s.procs.map za2.d)),.d (.sl 10 (s.acts.map za6.d)),cIs r.acts,cI ((0+r.stem.length+r.cycle.length:Nat):Int)]),(8,.row 5 1 (bw z_))]) (show ((((((([]++za7 [(zab v)])++za7 [(⟨#[119,104,121,58,32]⟩:ByteArray),why])++za7 [(⟨#[115,116,101,109,58]⟩:ByteArray)])++zay s r.acts 0 r.stem r.stem.length)++za7 [(⟨#[99,121,99,108,101,58]⟩:ByteArray)])++zay s r.acts (0+r.stem.length) r.cycle r.cycle.length):List UInt8)=(zbf s v why r) from (txtW_yes (by simpa using hc1))))
  refine rq zac 32 [(1,.gen _ _ _ fun _ _ _ _=>Op.nilP (d:=37) (t:=36) (n:=7) (o:=0)),(3,.call (WrString [.sl 1 (s.vars.map za3),.sl 5 (s.bounds.map za1.d),.raw (.int .i64 s.init.kind),.sl 3 (s.init.r.t.parts.map zcz.d),.raw (.bool s.init.r.t.k.neg),nsl s.init.r.t.k.abs,.raw (.bool s.init.r.eq),.sl 6 (s.init.kids.map za9.d),.sl 3 (s.procs.map za2.d),.sl 10 (s.acts.map za6.d),.sl 1 (r.acts.map intD),.raw (.int .i64 ((0+r.stem.length+r.cycle.length:Nat):Int))] 8 (by decide) (zbf s v why r) txtW_ne) pk1_4)] [(4,.t (.c (.d (.raw (.string (⟨(zbf s v why r).toArray⟩:ByteArray))))))] [] h ?_;clear h;intro a w h
  refine wp_ret ?_
  refine zb0 [.c (.d (.raw (.string (⟨(zbf s v why r).toArray⟩:ByteArray))))] h Exit.ret (.inl rfl)  rfl ⟨RV.tmp _ _ rfl,trivial⟩ ?_
  rfl
 ·have hc2:=hc;clear hc
  have hc2':=hc2;(try simp at hc2')
  refine wp_skip (za5 ?_)
  replace h:=renS 9 8 [(3,vp 31 0),(4,q14),(5,vp 7 0),(25,vb (v == 2))] [(31,q12 v why r rd lf),(7,q9 v why s r),(8,q13 v why)] h
  replace h:=h.conv (f':=F.of [(3,vp 31 0),(4,q14),(5,vp 7 0),(25,vb (v == 2))] [(31,q12 v why r rd lf),(7,.bld 77 (.own 8 (zbf s v why r).length) [.d (.sl 1 (s.vars.map za3)),.d (.sl 5 (s.bounds.map za1.d)),cI s.init.kind,cPs s.init.r.t.parts,cB s.init.r.t.k.neg,.d (nsl s.init.r.t.k.abs),cB s.init.r.eq,cFs s.init.kids,.d (.sl 3 (s.procs.map za2.d)),.d (.sl 10 (s.acts.map za6.d)),cIs r.acts,cI 0]),(8,.row 5 1 (bw (zbf s v why r)))]) (congrArg (fun (z_:List UInt8)=>F.of [(3,vp 31 0),(4,q14),(5,vp 7 0),(25,vb (v == 2))] [(31,q12 v why r rd lf),(7,.bld 77 (.own 8 z_.length) [.d (.sl 1 (s.vars.map za3)),.d (.sl 5 (s.bounds.map za1.d)),cI s.init.kind,cPs s.init.r.t.parts,cB s.init.r.t.k.neg,.d (nsl s.init.r.t.k.abs),cB s.init.r.eq,cFs s.init.kids,.d (.sl 3 (s.procs.map za2.d)),.d (.sl 10 (s.acts.map za6.d)),cIs r.acts,cI 0]),(8,.row 5 1 (bw z_))]) (show ((([]++za7 [(zab v)])++za7 [(⟨#[119,104,121,58,32]⟩:ByteArray),why]):List UInt8)=(zbf s v why r) from (txtW_no (by simpa using hc2))))
  refine rq zac 32 [(1,.gen _ _ _ fun _ _ _ _=>Op.nilP (d:=37) (t:=36) (n:=7) (o:=0)),(3,.call (WrString [.sl 1 (s.vars.map za3),.sl 5 (s.bounds.map za1.d),.raw (.int .i64 s.init.kind),.sl 3 (s.init.r.t.parts.map zcz.d),.raw (.bool s.init.r.t.k.neg),nsl s.init.r.t.k.abs,.raw (.bool s.init.r.eq),.sl 6 (s.init.kids.map za9.d),.sl 3 (s.procs.map za2.d),.sl 10 (s.acts.map za6.d),.sl 1 (r.acts.map intD),.raw (.int .i64 0)] 8 (by decide) (zbf s v why r) txtW_ne) pk1_4)] [(4,.t (.c (.d (.raw (.string (⟨(zbf s v why r).toArray⟩:ByteArray))))))] [] h ?_;clear h;intro a w h
  refine wp_ret ?_
  refine zb0 [.c (.d (.raw (.string (⟨(zbf s v why r).toArray⟩:ByteArray))))] h Exit.ret (.inl rfl)  rfl ⟨RV.tmp _ _ rfl,trivial⟩ ?_
  rfl
abbrev q15 (why:ByteArray) (ln:Int) (cl:Int) (e:Int):L:=.row 5 1 (bw (([]++za7 [(zab 4)])++za7 [why,(⟨#[32]⟩:ByteArray),(itW ln),(⟨#[58]⟩:ByteArray),(itW cl),(⟨#[32]⟩:ByteArray),(itW e)]))
abbrev q16:V:=.t (.c (.d (.raw (.string ByteArray.empty))))
set_option maxHeartbeats 4000000 in
theorem PWrong (why:ByteArray) (ln cl e:Int) (hw:why.size≤1048576) (hln:-9223372036854775808≤ln∧ln≤9223372036854775807) (hcl:-9223372036854775808≤cl∧cl≤9223372036854775807) (he:-9223372036854775808≤e∧e≤9223372036854775807):Fn Tryd.prog 10 [] [.t (.c (.d (.raw (.string why)))),.t (.agg [cI ln,cI cl]),vi .i64 e] (vs ⟨(zas why ln cl e).toArray⟩) []:=by
 have ls1:(⟨#[32]⟩:ByteArray).size=1:=rfl
 have ls2:(⟨#[58]⟩:ByteArray).size=1:=rfl
 have lnm:=zda 4
 have li1:=zcv hln.1 hln.2
 have li2:=zcv hcl.1 hcl.2
 have li3:=zcv he.1 he.2
 refine Fn.body Tryd.func10 rfl 30 rfl fun w H B a h=>?_
 refine rq zac 30 [] [(0,.t (.c (.d (.raw (.string why))))),(2,vi .i64 e),(4,vp 30 0),(6,q16)] [(30,.box [cI ln,cI cl])] h ?_;clear h;intro a w h
 refine rq zac 31 [(1,.gen _ _ _ fun _ _ _ _=>Op.boxB (d:=9) 7 8 (by decide) 5 (T:=77) (rest:=[.d (.raw za4),.d (.raw za4),cI 0,.d (.raw za4),cB false,.d (nsl []),cB false,.d (.raw za4),.d (.raw za4),.d (.raw za4),.d (.raw za4),cI 0]) (ds:=[.raw za4,.raw za4,.raw (.int .i64 0),.raw za4,.raw (.bool false),nsl [],.raw (.bool false),.raw za4,.raw za4,.raw za4,.raw za4,.raw (.int .i64 0)]) (.agg [.d (.raw (.pointer none)),.d (.raw za4),.d (.raw za4),.d (.raw za4),cI 0,.d (.raw za4),cB false,.d (nsl []),cB false,.d (.raw za4),.d (.raw za4),.d (.raw za4),.d (.raw za4),cI 0]) (OV.tmp 8 _) rfl rfl)] [(0,.t (.c (.d (.raw (.string why))))),(2,vi .i64 e),(4,vp 30 0),(6,q16),(7,vp 7 0)] [(30,.box [cI ln,cI cl]),(7,.bld 77 (.own 8 0) [.d (.raw za4),.d (.raw za4),cI 0,.d (.raw za4),cB false,.d (nsl []),cB false,.d (.raw za4),.d (.raw za4),.d (.raw za4),.d (.raw za4),cI 0]),(8,.row 5 1 (bw []))] h ?_;clear h;intro a w h
 refine rq zac 31 [(1,.call (PName 4) pk1_0),(2,.gen _ _ _ fun _ _ _ _=>Op.buildD (d:=12) (len:=1) (rows:=[(zab 4)].map za3) (rs:=[(11,.t (.c (.d (.raw (.string (zab 4))))))]) zcc (.cons (i:=0) (OV.tmp 11 _) (.nil)) (by kernel_rfl) rfl (by simp [za3]) (by decide) (by decide)),(3,.call (WLineA (.raw za4) (.raw za4) (.raw (.int .i64 0)) (.raw za4) (.raw (.bool false)) (nsl []) (.raw (.bool false)) (.raw za4) (.raw za4) (.raw za4) (.raw za4) (.raw (.int .i64 0)) [] [(zab 4)] (by simp only [List.length_append,zb3,zak,List.flatMap_cons,List.flatMap_nil,List.length_nil,← baL];omega) (by simp)) pj1_4)] [(0,.t (.c (.d (.raw (.string why))))),(2,vi .i64 e),(4,vp 30 0),(6,q16),(7,vp 7 0)] [(30,.box [cI ln,cI cl]),(7,.bld 77 (.own 9 ([]++za7 [(zab 4)]).length) [.d (.raw za4),.d (.raw za4),cI 0,.d (.raw za4),cB false,.d (nsl []),cB false,.d (.raw za4),.d (.raw za4),.d (.raw za4),.d (.raw za4),cI 0]),(9,.row 5 1 (bw ([]++za7 [(zab 4)])))] h ?_;clear h;intro a w h
 replace h:=renS 9 8 [(0,.t (.c (.d (.raw (.string why))))),(2,vi .i64 e),(4,vp 30 0),(6,q16),(7,vp 7 0)] [(30,.box [cI ln,cI cl]),(7,.bld 77 (.own 8 ([]++za7 [(zab 4)]).length) [.d (.raw za4),.d (.raw za4),cI 0,.d (.raw za4),cB false,.d (nsl []),cB false,.d (.raw za4),.d (.raw za4),.d (.raw za4),.d (.raw za4),cI 0]),(8,.row 5 1 (bw ([]++za7 [(zab 4)])))] h
 refine rq zac 31 [(4,.call (SItoaA ln hln.1 hln.2) pe1_3),(7,.call (SItoaA cl hcl.1 hcl.2) pe1_3),(9,.call (SItoaA e he.1 he.2) pe1_3),(10,.gen _ _ _ fun _ _ _ _=>Op.buildD (d:=24) (len:=7) (rows:=[why,(⟨#[32]⟩:ByteArray),(itW ln),(⟨#[58]⟩:ByteArray),(itW cl),(⟨#[32]⟩:ByteArray),(itW e)].map za3) (rs:=[(15,.t (.c (.d (.raw (.string why))))),(18,.t (.c (.d (.raw (.string (itW ln)))))),(21,.t (.c (.d (.raw (.string (itW cl)))))),(23,.t (.c (.d (.raw (.string (itW e))))))]) zcc (.cons (i:=0) (OV.tmp 15 _) (.cons (i:=1) (OV.const (.string (⟨#[32]⟩:ByteArray)) rfl) (.cons (i:=2) (OV.tmp 18 _) (.cons (i:=3) (OV.const (.string (⟨#[58]⟩:ByteArray)) rfl) (.cons (i:=4) (OV.tmp 21 _) (.cons (i:=5) (OV.const (.string (⟨#[32]⟩:ByteArray)) rfl) (.cons (i:=6) (OV.tmp 23 _) (.nil)))))))) (by kernel_rfl) rfl (by simp [za3]) (by decide) (by decide)),(11,.call (WLineA (.raw za4) (.raw za4) (.raw (.int .i64 0)) (.raw za4) (.raw (.bool false)) (nsl []) (.raw (.bool false)) (.raw za4) (.raw za4) (.raw za4) (.raw za4) (.raw (.int .i64 0)) ([]++za7 [(zab 4)]) [why,(⟨#[32]⟩:ByteArray),(itW ln),(⟨#[58]⟩:ByteArray),(itW cl),(⟨#[32]⟩:ByteArray),(itW e)] (by simp only [List.nil_append,List.length_append,zb3,zak,List.flatMap_cons,List.flatMap_nil,List.length_nil,← baL,List.length_cons];omega) (by simp)) pj1_4)] [(6,q16),(7,vp 7 0)] [(7,.bld 77 (.own 9 (([]++za7 [(zab 4)])++za7 [why,(⟨#[32]⟩:ByteArray),(itW ln),(⟨#[58]⟩:ByteArray),(itW cl),(⟨#[32]⟩:ByteArray),(itW e)]).length) [.d (.raw za4),.d (.raw za4),cI 0,.d (.raw za4),cB false,.d (nsl []),cB false,.d (.raw za4),.d (.raw za4),.d (.raw za4),.d (.raw za4),cI 0]),(9,q15 why ln cl e)] h ?_;clear h;intro a w h
 replace h:=renS 9 8 [(6,q16),(7,vp 7 0)] [(7,.bld 77 (.own 8 (([]++za7 [(zab 4)])++za7 [why,(⟨#[32]⟩:ByteArray),(itW ln),(⟨#[58]⟩:ByteArray),(itW cl),(⟨#[32]⟩:ByteArray),(itW e)]).length) [.d (.raw za4),.d (.raw za4),cI 0,.d (.raw za4),cB false,.d (nsl []),cB false,.d (.raw za4),.d (.raw za4),.d (.raw za4),.d (.raw za4),cI 0]),(8,q15 why ln cl e)] h
 replace h:=h.conv (f':=F.of [(6,q16),(7,vp 7 0)] [(7,.bld 77 (.own 8 (zas why ln cl e).length) [.d (.raw za4),.d (.raw za4),cI 0,.d (.raw za4),cB false,.d (nsl []),cB false,.d (.raw za4),.d (.raw za4),.d (.raw za4),.d (.raw za4),cI 0]),(8,.row 5 1 (bw (zas why ln cl e)))]) (congrArg (fun (z_:List UInt8)=>F.of [(6,q16),(7,vp 7 0)] [(7,.bld 77 (.own 8 z_.length) [.d (.raw za4),.d (.raw za4),cI 0,.d (.raw za4),cB false,.d (nsl []),cB false,.d (.raw za4),.d (.raw za4),.d (.raw za4),.d (.raw za4),cI 0]),(8,.row 5 1 (bw z_))]) (show ((([]++za7 [(zab 4)])++za7 [why,(⟨#[32]⟩:ByteArray),(itW ln),(⟨#[58]⟩:ByteArray),(itW cl),(⟨#[32]⟩:ByteArray),(itW e)]):List UInt8)=(zas why ln cl e) from rfl))
 refine rq zac 31 [(1,.gen _ _ _ fun _ _ _ _=>Op.nilP (d:=27) (t:=26) (n:=7) (o:=0)),(3,.call (WrString [.raw za4,.raw za4,.raw (.int .i64 0),.raw za4,.raw (.bool false),nsl [],.raw (.bool false),.raw za4,.raw za4,.raw za4,.raw za4,.raw (.int .i64 0)] 8 (by decide) (zas why ln cl e) wrongW_ne) pk1_4)] [(6,.t (.c (.d (.raw (.string (⟨(zas why ln cl e).toArray⟩:ByteArray))))))] [] h ?_;clear h;intro a w h
 refine wp_ret ?_
 refine zb0 [.c (.d (.raw (.string (⟨(zas why ln cl e).toArray⟩:ByteArray))))] h Exit.ret (.inl rfl)  rfl ⟨RV.tmp _ _ rfl,trivial⟩ ?_
 rfl
theorem pl1_0:zaa Tryd.prog 51:=zaa.mk' (by kernel_rfl)
theorem pl1_1:zaa Tryd.prog 39:=zaa.mk' (by kernel_rfl)
theorem pl1_2:zaa Tryd.prog 29:=zaa.mk' (by kernel_rfl)
def mkB (l:List UInt8):ByteArray:=⟨l.toArray⟩
def zdb:List UInt8→List (List UInt8)
  | []=>[]
  | b :: l=>if b=10 then [] :: zdb l else match zdb l with | []=>[[b]] | x :: xs=>(b :: x) :: xs
def zb9 (t:ByteArray):List ByteArray:=(zdb t.data.toList).map mkB
theorem lnsL_nl {l:List UInt8}:∀ {x:List UInt8}, (10:UInt8) ∉ x→zdb (x++10 :: l)=x :: zdb l
 | [],_=>by show zdb (10 :: l)=_;rw [zdb,if_pos rfl]
 | b :: x,h=>by
  have hb:¬ b=10:=fun e=>h (by simp [e])
  show zdb (b :: (x++10 :: l))=_
  rw [zdb,if_neg hb,lnsL_nl fun hx=>h (List.mem_cons_of_mem _ hx)]
theorem lnsL_no:∀ {x:List UInt8}, (10:UInt8) ∉ x→x≠[]→zdb x=[x]
 | [],_,h=>absurd rfl h
 | b :: x,h,_=>by
  have hb:¬ b=10:=fun e=>h (by simp [e])
  rw [zdb,if_neg hb]
  cases x with
  | nil=>rfl
  | cons c x=>rw [lnsL_no (x:=c :: x) (fun hx=>h (List.mem_cons_of_mem _ hx)) (by simp)]
theorem idx_C (l:List UInt8):(∃ k:Nat,Lib.indexByte l 10=(k:Int))∨Lib.indexByte l 10=-1:=by
 have h1:-1≤Lib.indexByte l 10:=Lib.indexByte_ge l 10
 by_cases h:Lib.indexByte l 10=-1
 ·exact .inr h
 ·exact .inl ⟨(Lib.indexByte l 10).toNat,(Int.toNat_of_nonneg (by omega)).symm⟩
theorem idx_none:∀ {l:List UInt8}, Lib.indexByte l 10=-1→(10:UInt8) ∉ l
 | [],_=>by simp
 | b :: l,h=>by
  unfold Lib.indexByte at h
  split at h
  ·cases h
  ·rename_i hb
   have hb:¬ b=10:=by simpa using hb
   split at h
   ·rename_i h1
    have:=idx_none (l:=l) (by simpa using h1)
    simp only [List.mem_cons,not_or];exact ⟨fun e=>hb e.symm,this⟩
   ·have:=Lib.indexByte_ge l 10;omega
theorem zc4:∀ {l:List UInt8} {k:Nat}, Lib.indexByte l 10=(k:Int)→k<l.length∧l=l.take k++10 :: l.drop (k+1)∧(10:UInt8) ∉ l.take k
 | [],k,h=>by have h1:Int.negSucc 0=Int.ofNat k:=h;cases h1
 | b :: l,k,h=>by
  unfold Lib.indexByte at h
  split at h
  ·rename_i hb
   have hb:b=10:=by simpa using hb
   obtain rfl:k=0:=by omega
   subst hb;simp
  ·rename_i hb
   have hb:¬ b=10:=by simpa using hb
   split at h
   ·omega
   ·rename_i hm
    have hm:¬ Lib.indexByte l 10=-1:=by simpa using hm
    have:=Lib.indexByte_ge l 10
    obtain ⟨k,rfl⟩:∃ m,k=m+1:=⟨k - 1,by omega⟩
    have h4:Lib.indexByte l 10=(k:Int):=by
     have h5:Lib.indexByte l 10+1=((k+1:Nat):Int):=h
     omega
    obtain ⟨h1,h2,h3⟩:=zc4 h4
    refine ⟨by simp only [List.length_cons];omega,?_,?_⟩
    ·show b :: l=b :: (l.take k++10 :: l.drop (k+1));rw [← h2]
    ·simp only [List.take_succ_cons,List.mem_cons,not_or];exact ⟨fun e=>hb e.symm,h3⟩
theorem lns_step {r:List UInt8} {k:Nat} (h:Lib.indexByte r 10=(k:Int)):zdb r=r.take k :: zdb (r.drop (k+1)):=by
 obtain ⟨_,h2,h3⟩:=zc4 h
 rw [← lnsL_nl h3,← h2]
theorem emp_ne {r:List UInt8}:((⟨r.toArray⟩:ByteArray).toList == ByteArray.empty.toList)=!decide (0<r.length):=by
 rw [Lib.toList_data,Lib.toList_data]
 cases r with
 | nil=>rfl
 | cons b r=>simp
theorem cut_l (r:List UInt8) (k:Nat) (_hk:k<r.length):(⟨r.toArray⟩:ByteArray).extract 0 k=⟨(r.take k).toArray⟩:=by rw [Lib.extract_eq];simp
theorem cut_r (r:List UInt8) (k:Nat):(⟨r.toArray⟩:ByteArray).extract (k+1) (⟨r.toArray⟩:ByteArray).size=⟨(r.drop (k+1)).toArray⟩:=by
 rw [Lib.extract_eq,baL]
 show (⟨((r.drop (k+1)).take (r.length - (k+1))).toArray⟩:ByteArray)=_
 rw [List.take_of_length_le (by rw [List.length_drop];omega)]
theorem mkr_sz (r:List UInt8):(⟨r.toArray⟩:ByteArray).size=r.length:=by rw [baL]
def eqB (a b:ByteArray):Bool:=a.toList == b.toList
theorem eqB_eq {a b:ByteArray} (h:eqB a b=true):a=b:=by
 have h1:a.toList=b.toList:=by simpa [eqB] using h
 rw [Lib.toList_data,Lib.toList_data] at h1
 rw [← Lib.mk_data a,← Lib.mk_data b,h1]
theorem eqB_data (a b:ByteArray):eqB a b=(a.data.toList == b.data.toList):=by unfold eqB;rw [Lib.toList_data,Lib.toList_data]
theorem zbt (a:ByteArray):eqB a a=true:=beq_self_eq_true _
def vdW (t:ByteArray):Int × Bool:=if eqB (zab 1) t=true then (1,true) else if eqB (zab 2) t=true then (2,true) else if eqB (zab 3) t=true then (3,true) else if eqB (zab 4) t=true then (4,true) else (0,false)
theorem nm_ne:eqB (zab 1) (zab 2)=false∧eqB (zab 1) (zab 3)=false∧eqB (zab 2) (zab 3)=false∧eqB (zab 1) (zab 4)=false∧eqB (zab 2) (zab 4)=false∧eqB (zab 3) (zab 4)=false:=by simp only [eqB_data];decide
theorem vdW_hit {t:ByteArray} {j:Nat} (hj:j<4) (h:eqB (zab ((j:Int)+1)) t=true):vdW t=((j:Int)+1,true):=by
 have e:=eqB_eq h
 subst e
 obtain ⟨n1,n2,n3,n4,n5,n6⟩:=nm_ne
 match j,hj with
 | 0,_=>show vdW (zab 1)=(1,true);unfold vdW;rw [if_pos (zbt _)]
 | 1,_=>show vdW (zab 2)=(2,true);unfold vdW;rw [if_neg (by rw [n1];simp),if_pos (zbt _)]
 | 2,_=>show vdW (zab 3)=(3,true);unfold vdW;rw [if_neg (by rw [n2];simp),if_neg (by rw [n3];simp),if_pos (zbt _)]
 | 3,_=>show vdW (zab 4)=(4,true);unfold vdW;rw [if_neg (by rw [n4];simp),if_neg (by rw [n5];simp),if_neg (by rw [n6];simp),if_pos (zbt _)]
theorem vdW_miss {t:ByteArray} (h:∀ i:Nat,i<4→eqB (zab ((i:Int)+1)) t=false):vdW t=(0,false):=by
 have h1:=h 0 (by decide);have h2:=h 1 (by decide);have h3:=h 2 (by decide);have h4:=h 3 (by decide)
 have h1:eqB (zab 1) t=false:=h1
 have h2:eqB (zab 2) t=false:=h2
 have h3:eqB (zab 3) t=false:=h3
 have h4:eqB (zab 4) t=false:=h4
 unfold vdW;rw [if_neg (by rw [h1];simp),if_neg (by rw [h2];simp),if_neg (by rw [h3];simp),if_neg (by rw [h4];simp)]
def pfx (b:ByteArray):Bool:=Lib.hasPrefix b.data.toList (⟨#[119,104,121,58,32]⟩:ByteArray).data.toList
def rdW (t:ByteArray):Int × ByteArray × Int:=match zb9 t with
  | a :: b :: _=>if (vdW a).2=false then (0,ByteArray.empty,20) else if (vdW a).1=4 then (4,b,0) else if pfx b=true then ((vdW a).1,cutP b (⟨#[119,104,121,58,32]⟩:ByteArray),0) else (0,ByteArray.empty,20)
  | _=>(0,ByteArray.empty,20)
theorem rdW_short {t:ByteArray} (h:(zb9 t).length<2):rdW t=(0,ByteArray.empty,20):=by
 unfold rdW
 split
 ·rename_i e;rw [e] at h;simp only [List.length_cons] at h;omega
 ·rfl
theorem two_at {xs:List ByteArray} {a b:ByteArray} (h0:xs[0]?=some a) (h1:xs[1]?=some b):∃ r,xs=a :: b :: r:=by
 match xs,h0,h1 with
 | x :: y :: r,h0,h1=>simp at h0 h1;exact ⟨r,by rw [h0,h1]⟩
theorem zby {t a b:ByteArray} (h0:(zb9 t)[0]?=some a) (h1:(zb9 t)[1]?=some b):rdW t=if (vdW a).2=false then (0,ByteArray.empty,20) else if (vdW a).1=4 then (4,b,0) else if pfx b=true then ((vdW a).1,cutP b (⟨#[119,104,121,58,32]⟩:ByteArray),0) else (0,ByteArray.empty,20):=by
 obtain ⟨r,e⟩:=two_at h0 h1
 unfold rdW;rw [e]
theorem nl_no {c:UInt8} (h:((c.toNat:Int) == 10)=false):¬ c=10:=fun e=>by subst e;revert h;decide
abbrev q17 (r:List UInt8):V:=.t (.c (.d (.raw (.string (⟨r.toArray⟩:ByteArray)))))
abbrev q18:V:=.t (.c (.d (.raw (.string (⟨#[10]⟩:ByteArray)))))
abbrev q19:V:=.t (.c (.d (.raw (.string ByteArray.empty))))
set_option maxHeartbeats 4000000 in
theorem SLCutS (r:List UInt8) (k:Nat) (hix:Lib.indexByte r 10=(k:Int)) (hrl:r.length≤4294967296):Fn Tryd.prog 39 [] [.t (.c (.d (.raw (.string (⟨r.toArray⟩:ByteArray))))),.t (.c (.d (.raw (.string (⟨#[10]⟩:ByteArray)))))] (.tup [.c (.d (.raw (.string (⟨(r.take k).toArray⟩:ByteArray)))),.c (.d (.raw (.string (⟨(r.drop (k+1)).toArray⟩:ByteArray)))),.c (cB true)]) []:=by
 have hk:=(zc4 hix).1
 have hsz:=mkr_sz r
 refine Fn.body Tryd.func39 rfl 23 rfl fun w H B a h=>?_
 refine rq za0 0 [] [(0,q17 r),(1,q18),(4,q19),(5,q19),(6,vb false)] [] h ?_;clear h;intro a w h
 refine wp_seq (rq za0 0 [(2,.call (Fn.cast (SIndex1 ⟨r.toArray⟩ 10) (congrArg (vi .i64) hix)) pl1_0)] [(0,q17 r),(1,q18),(4,q19),(5,q19),(6,vb false),(7,vi .i64 (k:Int))] [] h ?_);clear h;intro a w h
 refine rq za0 0 [(1,.cmp (op:=.geq) (m:=(k:Int)) (n:=0) (b:=true) .i64 (show decide ((k:Int)≥0)=true from decide_eq_true (by omega)))] [(0,q17 r),(1,q18),(4,q19),(5,q19),(6,vb false),(7,vi .i64 (k:Int)),(12,vb true)] [] h ?_;clear h;intro a w h
 refine zad true h rfl (fun hc=>?_) (fun hc=>?_)
 ·clear hc
  refine rq za0 0 [(2,.gen _ _ _ fun _ _ _ _=>Op.strSl (d:=15) (xt:=9) (l:=0) (h:=k) (s:=(⟨r.toArray⟩:ByteArray)) (r:=(⟨(r.take k).toArray⟩:ByteArray)) Tryd.underlying9 (OV.tmp 13 _) (BO.no _) (BO.yes (k:=.i64) (i:=k) _ (OV.tmp 14 _)) (by omega) (by omega) (cut_l r k hk)),(7,.gen _ _ _ fun _ _ _ _=>Op.arith (op:=.add) (d:=20) (xt:=3) (yt:=3) (k:=.i64) (m:=(k:Int)) (n:=((⟨#[10]⟩:ByteArray).size:Int)) (r:=((k+1:Nat):Int)) (OV.tmp 17 _) (OV.tmp 19 _) (.inl ⟨rfl,rfl⟩) (zam (by omega) (by omega))),(8,.gen _ _ _ fun _ _ _ _=>Op.strSl (d:=21) (xt:=9) (l:=(k+1)) (h:=(⟨r.toArray⟩:ByteArray).size) (s:=(⟨r.toArray⟩:ByteArray)) (r:=(⟨(r.drop (k+1)).toArray⟩:ByteArray)) Tryd.underlying9 (OV.tmp 16 _) (BO.yes (k:=.i64) (i:=(k+1)) _ (OV.tmp 20 _)) (BO.no _) (by omega) (by omega) (cut_r r k))] [(0,q17 r),(4,.t (.c (.d (.raw (.string (⟨(r.take k).toArray⟩:ByteArray)))))),(5,.t (.c (.d (.raw (.string (⟨(r.drop (k+1)).toArray⟩:ByteArray)))))),(6,vb true)] [] h ?_;clear h;intro a w h
  refine wp_ret (zaf ?_)
  refine zb0 [.c (.d (.raw (.string (⟨(r.take k).toArray⟩:ByteArray)))),.c (.d (.raw (.string (⟨(r.drop (k+1)).toArray⟩:ByteArray)))),.c (cB true)] h Exit.ret (.inl rfl)  rfl ⟨RV.tmp _ _ rfl,RV.tmp _ _ rfl,RV.tmp _ _ rfl,trivial⟩ ?_
  rfl
 ·cases hc
set_option maxHeartbeats 4000000 in
theorem SCutS (r:List UInt8) (k:Nat) (hix:Lib.indexByte r 10=(k:Int)) (hrl:r.length≤4294967296):Fn Tryd.prog 29 [] [.t (.c (.d (.raw (.string (⟨r.toArray⟩:ByteArray))))),.t (.c (.d (.raw (.string (⟨#[10]⟩:ByteArray)))))] (.tup [.c (.d (.raw (.string (⟨(r.take k).toArray⟩:ByteArray)))),.c (.d (.raw (.string (⟨(r.drop (k+1)).toArray⟩:ByteArray)))),.c (cB true)]) []:=by
 have hk:=(zc4 hix).1
 have hsz:=mkr_sz r
 refine Fn.body Tryd.func29 rfl 13 rfl fun w H B a h=>?_
 refine rq za0 0 [] [(0,.t (.c (.d (.raw (.string (⟨r.toArray⟩:ByteArray)))))),(1,.t (.c (.d (.raw (.string (⟨#[10]⟩:ByteArray)))))),(4,.t (.c (.d (.raw (.string ByteArray.empty))))),(5,.t (.c (.d (.raw (.string ByteArray.empty))))),(6,vb false)] [] h ?_;clear h;intro a w h
 refine rq za0 0 [(2,.call (SLCutS r k hix hrl) pl1_1)] [(4,.t (.c (.d (.raw (.string (⟨(r.take k).toArray⟩:ByteArray)))))),(5,.t (.c (.d (.raw (.string (⟨(r.drop (k+1)).toArray⟩:ByteArray)))))),(6,vb true)] [] h ?_;clear h;intro a w h
 refine wp_ret ?_
 refine zb0 [.c (.d (.raw (.string (⟨(r.take k).toArray⟩:ByteArray)))),.c (.d (.raw (.string (⟨(r.drop (k+1)).toArray⟩:ByteArray)))),.c (cB true)] h Exit.ret (.inl rfl)  rfl ⟨RV.tmp _ _ rfl,RV.tmp _ _ rfl,RV.tmp _ _ rfl,trivial⟩ ?_
 rfl
set_option maxHeartbeats 4000000 in
theorem SLCutN (r:List UInt8) (hix:Lib.indexByte r 10=-1):Fn Tryd.prog 39 [] [.t (.c (.d (.raw (.string (⟨r.toArray⟩:ByteArray))))),.t (.c (.d (.raw (.string (⟨#[10]⟩:ByteArray)))))] (.tup [.c (.d (.raw (.string (⟨r.toArray⟩:ByteArray)))),.c (.d (.raw (.string ByteArray.empty))),.c (cB false)]) []:=by
 refine Fn.body Tryd.func39 rfl 23 rfl fun w H B a h=>?_
 refine rq za0 0 [] [(0,.t (.c (.d (.raw (.string (⟨r.toArray⟩:ByteArray)))))),(1,.t (.c (.d (.raw (.string (⟨#[10]⟩:ByteArray)))))),(4,.t (.c (.d (.raw (.string ByteArray.empty))))),(5,.t (.c (.d (.raw (.string ByteArray.empty))))),(6,vb false)] [] h ?_;clear h;intro a w h
 refine wp_seq (rq za0 0 [(2,.call (Fn.cast (SIndex1 ⟨r.toArray⟩ 10) (congrArg (vi .i64) hix)) pl1_0)] [(0,.t (.c (.d (.raw (.string (⟨r.toArray⟩:ByteArray)))))),(1,.t (.c (.d (.raw (.string (⟨#[10]⟩:ByteArray)))))),(4,.t (.c (.d (.raw (.string ByteArray.empty))))),(5,.t (.c (.d (.raw (.string ByteArray.empty))))),(6,vb false),(7,vi .i64 (-1))] [] h ?_);clear h;intro a w h
 refine rq za0 0 [(1,.cmp (op:=.geq) (m:=(-1)) (n:=0) (b:=false) .i64 rfl)] [(0,.t (.c (.d (.raw (.string (⟨r.toArray⟩:ByteArray)))))),(1,.t (.c (.d (.raw (.string (⟨#[10]⟩:ByteArray)))))),(4,.t (.c (.d (.raw (.string ByteArray.empty))))),(5,.t (.c (.d (.raw (.string ByteArray.empty))))),(6,vb false),(7,vi .i64 (-1)),(12,vb false)] [] h ?_;clear h;intro a w h
 refine zad false h rfl (fun hc=>?_) (fun hc=>?_)
 ·cases hc
 ·clear hc
  refine wp_skip (za5 (rq za0 0 [] [(4,.t (.c (.d (.raw (.string (⟨r.toArray⟩:ByteArray)))))),(5,.t (.c (.d (.raw (.string ByteArray.empty))))),(6,vb false)] [] h ?_));clear h;intro a w h
  refine wp_ret ?_
  refine zb0 [.c (.d (.raw (.string (⟨r.toArray⟩:ByteArray)))),.c (.d (.raw (.string ByteArray.empty))),.c (cB false)] h Exit.ret (.inl rfl)  rfl ⟨RV.tmp _ _ rfl,RV.tmp _ _ rfl,RV.tmp _ _ rfl,trivial⟩ ?_
  rfl
set_option maxHeartbeats 4000000 in
theorem SCutN (r:List UInt8) (hix:Lib.indexByte r 10=-1):Fn Tryd.prog 29 [] [.t (.c (.d (.raw (.string (⟨r.toArray⟩:ByteArray))))),.t (.c (.d (.raw (.string (⟨#[10]⟩:ByteArray)))))] (.tup [.c (.d (.raw (.string (⟨r.toArray⟩:ByteArray)))),.c (.d (.raw (.string ByteArray.empty))),.c (cB false)]) []:=by
 refine Fn.body Tryd.func29 rfl 13 rfl fun w H B a h=>?_
 refine rq za0 0 [] [(0,.t (.c (.d (.raw (.string (⟨r.toArray⟩:ByteArray)))))),(1,.t (.c (.d (.raw (.string (⟨#[10]⟩:ByteArray)))))),(4,.t (.c (.d (.raw (.string ByteArray.empty))))),(5,.t (.c (.d (.raw (.string ByteArray.empty))))),(6,vb false)] [] h ?_;clear h;intro a w h
 refine rq za0 0 [(2,.call (SLCutN r hix) pl1_1)] [(4,.t (.c (.d (.raw (.string (⟨r.toArray⟩:ByteArray)))))),(5,.t (.c (.d (.raw (.string ByteArray.empty))))),(6,vb false)] [] h ?_;clear h;intro a w h
 refine wp_ret ?_
 refine zb0 [.c (.d (.raw (.string (⟨r.toArray⟩:ByteArray)))),.c (.d (.raw (.string ByteArray.empty))),.c (cB false)] h Exit.ret (.inl rfl)  rfl ⟨RV.tmp _ _ rfl,RV.tmp _ _ rfl,RV.tmp _ _ rfl,trivial⟩ ?_
 rfl
set_option maxHeartbeats 4000000 in
theorem PLines (t:ByteArray) (ht:t.size≤4294967296):Fn Tryd.prog 15 [] [.t (.c (.d (.raw (.string t))))] (.t (.c (.d (.sl 1 ((zb9 t).map za3))))) []:=by
 refine Fn.body Tryd.func15 rfl 21 rfl fun w H B a h=>?_
 refine rq za0 30 [] [(0,.t (.c (.d (.raw (.string t))))),(2,.t (.c (.d (.raw za4))))] [] h ?_;clear h;intro a w h
 refine rq za0 30 [] [(0,.t (.c (.d (.raw (.string t))))),(2,.t (.c (.d (.raw za4)))),(3,.t (.c (.d (.raw za4))))] [] h ?_;clear h;intro a w h
 refine wp_seq (wp_block ?_)
 replace h:=nilOSs 3 0 30 1 9 (.t (.c (.d (.raw za4)))) [(0,.t (.c (.d (.raw (.string t))))),(2,.t (.c (.d (.raw za4)))),(3,.t (.c (.own 30 0)))] [(30,.row 9 1 ([].map za3))] h (by kernel_rfl) rfl rfl
 replace h:=h.conv (f':=F.of [(0,.t (.c (.d (.raw (.string (⟨t.data.toList.toArray⟩:ByteArray)))))),(2,.t (.c (.d (.raw za4)))),(3,.t (.c (.own 30 0)))] [(30,.row 9 1 ([].map za3))]) (by rw [show (t:ByteArray)=(⟨t.data.toList.toArray⟩:ByteArray) from rfl])
 refine zch (ι:=(List UInt8) × (List ByteArray)) (fun (z_:(List UInt8) × (List ByteArray))=>match z_ with | (r,outs)=>outs++(zdb r).map mkB=zb9 t∧outs.length+r.length≤t.size)
   (fun (z_:(List UInt8) × (List ByteArray))=>match z_ with | (r,outs)=>[(0,.t (.c (.d (.raw (.string (⟨r.toArray⟩:ByteArray)))))),(2,.t (.c (.d (.raw za4)))),(3,.t (.c (.own 30 outs.length)))])
   (fun (z_:(List UInt8) × (List ByteArray))=>match z_ with | (r,outs)=>[(30,.row 9 1 (outs.map za3))])
   (fun (z_:(List UInt8) × (List ByteArray))=>match z_ with | (r,outs)=>r.length) (t.data.toList,[]) ?_ h (by kernel_rfl) (by kernel_rfl) ?_
 ·exact ⟨rfl,by rw [baL];show 0+_≤_;omega⟩
 ·clear h;rintro ⟨r,outs⟩ a w hI h
  change St _ (F.of [(0,.t (.c (.d (.raw (.string (⟨r.toArray⟩:ByteArray)))))),(2,.t (.c (.d (.raw za4)))),(3,.t (.c (.own 30 outs.length)))] [(30,.row 9 1 (outs.map za3))]) a w at h
  obtain ⟨hI1,hI2⟩:=hI
  refine wp_seq (rq za0 31 [(1,.gen _ _ _ fun _ _ _ _=>Op.strNe (d:=8) (xt:=9) (yt:=9) (s1:=(⟨r.toArray⟩:ByteArray)) (s2:=ByteArray.empty) (r:=(decide (0<r.length))) (OV.tmp 7 _) (OV.const (.string ByteArray.empty) rfl) emp_ne)] [(0,.t (.c (.d (.raw (.string (⟨r.toArray⟩:ByteArray)))))),(2,.t (.c (.d (.raw za4)))),(3,.t (.c (.own 30 outs.length))),(8,vb (decide (0<r.length)))] [(30,.row 9 1 (outs.map za3))] h ?_);clear h;intro a w h
  refine zad (decide (0<r.length)) h rfl (fun hc=>?_) (fun hc=>?_)
  ·have hc1:=hc;clear hc
   have hc1':=of_decide_eq_true hc1
   refine wp_skip (za5 (wp_block ?_))
   rcases idx_C r with ⟨k,hk⟩ | hk
   ·skip
    refine rq za0 31 [(1,.call (SCutS r k hk (by omega)) pl1_2)] [(0,.t (.c (.d (.raw (.string (⟨r.toArray⟩:ByteArray)))))),(2,.t (.c (.d (.raw za4)))),(3,.t (.c (.own 30 outs.length))),(4,.t (.c (.d (.raw (.string (⟨(r.take k).toArray⟩:ByteArray)))))),(5,.t (.c (.d (.raw (.string (⟨(r.drop (k+1)).toArray⟩:ByteArray))))))] [(30,.row 9 1 (outs.map za3))] h ?_;clear h;intro a w h
    refine rq za0 31 [(2,.gen _ _ _ fun _ _ _ _=>Op.buildD (d:=17) (len:=1) (rows:=[(⟨(r.take k).toArray⟩:ByteArray)].map za3) (rs:=[(16,.t (.c (.d (.raw (.string (⟨(r.take k).toArray⟩:ByteArray))))))]) zcc (.cons (i:=0) (OV.tmp 16 _) (.nil)) (by kernel_rfl) rfl (by simp [za3]) (by decide) (by decide)),(3,.gen _ _ _ fun _ _ _ _=>Op.appOD (d:=18) (t:=15) (u:=17) (n:=30) (n':=31) (len:=outs.length) (len':=(outs++[(⟨(r.take k).toArray⟩:ByteArray)]).length) (rows:=outs.map za3) (rows2:=[(⟨(r.take k).toArray⟩:ByteArray)].map za3) (rows':=(outs++[(⟨(r.take k).toArray⟩:ByteArray)]).map za3) ph1_3 (by first | exact (List.length_map _).symm | simp) (by first | (rw [List.length_append,List.length_map];done) | simp) (by simp) (by simp [za3]) (by first | omega | (simp at *;done) | (simp at *;omega)))] [(0,.t (.c (.d (.raw (.string (⟨r.toArray⟩:ByteArray)))))),(2,.t (.c (.d (.raw za4)))),(3,.t (.c (.own 31 (outs++[(⟨(r.take k).toArray⟩:ByteArray)]).length))),(5,.t (.c (.d (.raw (.string (⟨(r.drop (k+1)).toArray⟩:ByteArray))))))] [(31,.row 9 1 ((outs++[(⟨(r.take k).toArray⟩:ByteArray)]).map za3))] h ?_;clear h;intro a w h
    refine rn za0 32 [] [(0,.t (.c (.d (.raw (.string (⟨(r.drop (k+1)).toArray⟩:ByteArray)))))),(2,.t (.c (.d (.raw za4)))),(3,.t (.c (.own 31 (outs++[(⟨(r.take k).toArray⟩:ByteArray)]).length)))] [(31,.row 9 1 ((outs++[(⟨(r.take k).toArray⟩:ByteArray)]).map za3))] h ?_;clear h;intro a w h
    refine zar (za5 ?_)
    replace h:=renS 31 30 [(0,.t (.c (.d (.raw (.string (⟨(r.drop (k+1)).toArray⟩:ByteArray)))))),(2,.t (.c (.d (.raw za4)))),(3,.t (.c (.own 30 (outs++[(⟨(r.take k).toArray⟩:ByteArray)]).length)))] [(30,.row 9 1 ((outs++[(⟨(r.take k).toArray⟩:ByteArray)]).map za3))] h
    refine zb5 (x:=(r,outs)) (y:=((r.drop (k+1)),(outs++[(⟨(r.take k).toArray⟩:ByteArray)]))) h ?_ ?_
    ·have hq:=zc4 hk
     refine ⟨?_,?_⟩
     ·rw [← hI1,lns_step hk,List.append_assoc];rfl
     ·rw [List.length_append,List.length_drop];show outs.length+1+_≤_;omega
    ·show (r.drop (k+1)).length<r.length
     have hq:=zc4 hk
     rw [List.length_drop];omega
   ·skip
    refine rq za0 31 [(1,.call (SCutN r hk) pl1_2)] [(0,.t (.c (.d (.raw (.string (⟨r.toArray⟩:ByteArray)))))),(2,.t (.c (.d (.raw za4)))),(3,.t (.c (.own 30 outs.length))),(4,.t (.c (.d (.raw (.string (⟨r.toArray⟩:ByteArray)))))),(5,.t (.c (.d (.raw (.string ByteArray.empty)))))] [(30,.row 9 1 (outs.map za3))] h ?_;clear h;intro a w h
    refine rq za0 31 [(2,.gen _ _ _ fun _ _ _ _=>Op.buildD (d:=17) (len:=1) (rows:=[(⟨r.toArray⟩:ByteArray)].map za3) (rs:=[(16,.t (.c (.d (.raw (.string (⟨r.toArray⟩:ByteArray))))))]) zcc (.cons (i:=0) (OV.tmp 16 _) (.nil)) (by kernel_rfl) rfl (by simp [za3]) (by decide) (by decide)),(3,.gen _ _ _ fun _ _ _ _=>Op.appOD (d:=18) (t:=15) (u:=17) (n:=30) (n':=31) (len:=outs.length) (len':=(outs++[(⟨r.toArray⟩:ByteArray)]).length) (rows:=outs.map za3) (rows2:=[(⟨r.toArray⟩:ByteArray)].map za3) (rows':=(outs++[(⟨r.toArray⟩:ByteArray)]).map za3) ph1_3 (by first | exact (List.length_map _).symm | simp) (by first | (rw [List.length_append,List.length_map];done) | simp) (by simp) (by simp [za3]) (by first | omega | (simp at *;done) | (simp at *;omega)))] [(0,.t (.c (.d (.raw (.string (⟨r.toArray⟩:ByteArray)))))),(2,.t (.c (.d (.raw za4)))),(3,.t (.c (.own 31 (outs++[(⟨r.toArray⟩:ByteArray)]).length))),(5,.t (.c (.d (.raw (.string ByteArray.empty)))))] [(31,.row 9 1 ((outs++[(⟨r.toArray⟩:ByteArray)]).map za3))] h ?_;clear h;intro a w h
    refine rn za0 32 [] [(0,.t (.c (.d (.raw (.string ByteArray.empty))))),(2,.t (.c (.d (.raw za4)))),(3,.t (.c (.own 31 (outs++[(⟨r.toArray⟩:ByteArray)]).length)))] [(31,.row 9 1 ((outs++[(⟨r.toArray⟩:ByteArray)]).map za3))] h ?_;clear h;intro a w h
    refine zar (za5 ?_)
    replace h:=h.conv (f':=F.of [(0,.t (.c (.d (.raw (.string (⟨([]:List UInt8).toArray⟩:ByteArray)))))),(2,.t (.c (.d (.raw za4)))),(3,.t (.c (.own 31 (outs++[(⟨r.toArray⟩:ByteArray)]).length)))] [(31,.row 9 1 ((outs++[(⟨r.toArray⟩:ByteArray)]).map za3))]) (by rw [show (ByteArray.empty:ByteArray)=(⟨([]:List UInt8).toArray⟩:ByteArray) from rfl])
    replace h:=renS 31 30 [(0,.t (.c (.d (.raw (.string (⟨([]:List UInt8).toArray⟩:ByteArray)))))),(2,.t (.c (.d (.raw za4)))),(3,.t (.c (.own 30 (outs++[(⟨r.toArray⟩:ByteArray)]).length)))] [(30,.row 9 1 ((outs++[(⟨r.toArray⟩:ByteArray)]).map za3))] h
    refine zb5 (x:=(r,outs)) (y:=([],(outs++[(⟨r.toArray⟩:ByteArray)]))) h ?_ ?_
    ·have hr0:=of_decide_eq_true hc1
     refine ⟨?_,?_⟩
     ·rw [← hI1,lnsL_no (idx_none hk) (fun e=>by rw [e] at hr0;simp at hr0)];show (outs++[_])++[]=_;rw [List.append_nil];rfl
     ·rw [List.length_append];show outs.length+1+0≤_;omega
    ·show 0<r.length
     exact of_decide_eq_true hc1
  ·have hc2:=hc;clear hc
   have hc2':=of_decide_eq_false hc2
   refine wp_exit (zap (zap (zae (za5 (rq za0 32 [] [(2,.t (.c (.own 30 outs.length)))] [(30,.row 9 1 (outs.map za3))] h ?_)))));clear h;intro a w h
   refine wp_ret ?_
   replace h:=h.conv (f':=F.of [(2,.t (.c (.own 30 (zb9 t).length)))] [(30,.row 9 1 ((zb9 t).map za3))]) (congrArg (fun (z_:List ByteArray)=>F.of [(2,.t (.c (.own 30 z_.length)))] [(30,.row 9 1 (z_.map za3))]) (show (outs:List ByteArray)=(zb9 t) from (by rw [← hI1,show r=[] from List.length_eq_zero_iff.1 (by have:=of_decide_eq_false hc2;omega)];exact (List.append_nil _).symm)))
   replace h:=pubS 30 1 9 ((zb9 t).map za3) [(2,.t (.c (.d (.sl 1 ((zb9 t).map za3)))))] [] h rfl (show AllEq _ [(zb9 t).length] from ⟨by first | exact (List.length_map _).symm | (simp;done) | (simp;omega),trivial⟩) trivial
   refine zb0 [.c (.d (.sl 1 ((zb9 t).map za3)))] h Exit.ret (.inl rfl)  rfl ⟨RV.tmp _ _ rfl,trivial⟩ ?_
   rfl
theorem pm1_1:zaa Tryd.prog 15:=zaa.mk' (by kernel_rfl)
theorem pm1_3:zaa Tryd.prog 27:=zaa.mk' (by kernel_rfl)
theorem pm1_4:zaa Tryd.prog 28:=zaa.mk' (by kernel_rfl)
theorem runAt_stem {r:zbw} {i:Nat} (h:i<r.stem.length):r.stem[i]?=some (zb8 r i):=by
 unfold zb8;rw [List.getElem?_append_left h,List.getElem?_eq_getElem h];rfl
theorem runAt_cyc {r:zbw} {i:Nat} (h:r.stem.length≤i) (h2:i<r.stem.length+r.cycle.length):r.cycle[i - r.stem.length]?=some (zb8 r i):=by
 unfold zb8;rw [List.getElem?_append_right h,List.getElem?_eq_getElem (by omega)];rfl
theorem ba_app (a b:ByteArray):(a++b).data.toList=a.data.toList++b.data.toList:=by simp
theorem ba_mk (l:List UInt8):(⟨l.toArray⟩:ByteArray).data.toList=l:=rfl
set_option maxHeartbeats 4000000 in
theorem PVerdict (t:ByteArray) :Fn Tryd.prog 27 [] [.t (.c (.d (.raw (.string t))))] (.tup [.c (cI (vdW t).1),.c (cB (vdW t).2)]) []:=by
 refine Fn.body Tryd.func27 rfl 14 rfl fun w H B a h=>?_
 refine rq za0 0 [] [(0,.t (.c (.d (.raw (.string t))))),(2,vi .i64 0),(3,vb false)] [] h ?_;clear h;intro a w h
 refine wp_seq (rq za0 0 [] [(0,.t (.c (.d (.raw (.string t))))),(2,vi .i64 0),(3,vb false),(4,vi .i64 1)] [] h ?_);clear h;intro a w h
 refine wp_block ?_
 replace h:=h.conv (f':=F.of [(0,.t (.c (.d (.raw (.string t))))),(2,vi .i64 0),(3,vb false),(4,vi .i64 (((0:Nat):Int)+1))] []) (by kernel_rfl)
 refine zch (ι:=(Nat)) (fun (z_:(Nat))=>match z_ with | j=>j≤4∧∀ i:Nat,i<j→eqB (zab ((i:Int)+1)) t=false)
   (fun (z_:(Nat))=>match z_ with | j=>[(0,.t (.c (.d (.raw (.string t))))),(4,vi .i64 ((j:Int)+1))])
   (fun (z_:(Nat))=>match z_ with | j=>[])
   (fun (z_:(Nat))=>match z_ with | j=>4 - j) 0 ?_ h (by kernel_rfl) (by kernel_rfl) ?_
 ·exact ⟨Nat.zero_le _,fun i hi=>absurd hi (Nat.not_lt_zero _)⟩
 ·clear h;rintro j a w hI h
  change St _ (F.of [(0,.t (.c (.d (.raw (.string t))))),(4,vi .i64 ((j:Int)+1))] []) a w at h
  obtain ⟨hI1,hI2⟩:=hI
  refine wp_seq (rq za0 0 [] [(0,.t (.c (.d (.raw (.string t))))),(4,vi .i64 ((j:Int)+1)),(6,vb (decide (((j:Int)+1)≤4)))] [] h ?_);clear h;intro a w h
  refine zad (decide (((j:Int)+1)≤4)) h rfl (fun hc=>?_) (fun hc=>?_)
  ·have hc1:=hc;clear hc
   have hc1':=of_decide_eq_true hc1
   refine wp_skip (za5 (wp_seq (wp_block (rq za0 0 [(1,.call (PName ((j:Int)+1)) pk1_0),(3,.gen _ _ _ fun _ _ _ _=>Op.strEq (d:=12) (xt:=9) (yt:=9) (s1:=(zab ((j:Int)+1))) (s2:=t) (r:=eqB (zab ((j:Int)+1)) t) (OV.tmp 10 _) (OV.tmp 11 _) rfl)] [(0,.t (.c (.d (.raw (.string t))))),(4,vi .i64 ((j:Int)+1)),(12,vb (eqB (zab ((j:Int)+1)) t))] [] h ?_))));clear h;intro a w h
   refine zad (eqB (zab ((j:Int)+1)) t) h rfl (fun hc=>?_) (fun hc=>?_)
   ·have hc2:=hc;clear hc
    refine rq za0 0 [] [(0,.t (.c (.d (.raw (.string t))))),(2,vi .i64 ((j:Int)+1)),(3,vb true),(4,vi .i64 ((j:Int)+1))] [] h ?_;clear h;intro a w h
    refine wp_ret (zax (zaf (zaf (zax (zaf ?_)))))
    refine zb0 [.c (cI ((j:Int)+1)),.c (cB true)] h Exit.ret (.inl rfl)  rfl ⟨RV.tmp _ _ rfl,RV.tmp _ _ rfl,trivial⟩ ?_
    rw [vdW_hit (by have:=of_decide_eq_true hc1;omega) hc2];first | done | rfl
   ·have hc3:=hc;clear hc
    refine wp_skip (zar (za5 (rn za0 0 [(1,.add .i64 (m:=((j:Int)+1)) (n:=1) (zam (by omega) (by omega)))] [(0,.t (.c (.d (.raw (.string t))))),(4,vi .i64 (((j:Int)+1)+1))] [] h ?_)));clear h;intro a w h
    refine za5 ?_
    replace h:=h.conv (f':=F.of [(0,.t (.c (.d (.raw (.string t))))),(4,vi .i64 (((j+1:Nat):Int)+1))] []) (by rw [show (((j:Int)+1)+1:Int)=(((j+1:Nat):Int)+1) from (by omega)])
    refine zb5 (x:=j) (y:=j+1) h ?_ ?_
    ·have:=of_decide_eq_true hc1
     refine ⟨by omega,fun i hi=>?_⟩
     rcases Nat.lt_or_ge i j with h1 | h1
     ·exact hI2 i h1
     ·rw [show i=j by omega]
      exact hc3
    ·show 4 - (j+1)<4 - j
     have:=of_decide_eq_true hc1;omega
  ·have hc4:=hc;clear hc
   have hc4':=of_decide_eq_false hc4
   refine wp_exit (zap (zap (zae (za5 (rq za0 0 [] [(2,vi .i64 0),(3,vb false)] [] h ?_)))));clear h;intro a w h
   refine wp_ret ?_
   refine zb0 [.c (cI 0),.c (cB false)] h Exit.ret (.inl rfl)  rfl ⟨RV.tmp _ _ rfl,RV.tmp _ _ rfl,trivial⟩ ?_
   rw [vdW_miss fun i hi=>hI2 i (by have:=of_decide_eq_false hc4;omega)];first | done | rfl
set_option maxHeartbeats 4000000 in
theorem PRead (t:ByteArray) (ht:t.size≤4294967296):Fn Tryd.prog 12 [] [.t (.c (.d (.raw (.string t))))] (.tup [.c (cI (rdW t).1),.c (.d (.raw (.string (rdW t).2.1))),.c (cI (rdW t).2.2)]) []:=by
 refine Fn.body Tryd.func12 rfl 47 rfl fun w H B a h=>?_
 refine rq za0 0 [] [(0,.t (.c (.d (.raw (.string t))))),(2,vi .i64 0),(3,.t (.c (.d (.raw (.string ByteArray.empty))))),(4,vi .i64 0)] [] h ?_;clear h;intro a w h
 refine rq za0 0 [(1,.call (PLines t (by omega)) pm1_1)] [(2,vi .i64 0),(3,.t (.c (.d (.raw (.string ByteArray.empty))))),(4,vi .i64 0),(5,.t (.c (.d (.sl 1 ((zb9 t).map za3)))))] [] h ?_;clear h;intro a w h
 refine wp_seq (rq za0 0 [(1,.len (c:=(.d (.sl 1 ((zb9 t).map za3)))) (n:=(zb9 t).length) (za8 _ _ _))] [(2,vi .i64 0),(3,.t (.c (.d (.raw (.string ByteArray.empty))))),(4,vi .i64 0),(5,.t (.c (.d (.sl 1 ((zb9 t).map za3))))),(14,vb (decide (((zb9 t).length:Int)<2)))] [] h ?_);clear h;intro a w h
 refine zad (decide (((zb9 t).length:Int)<2)) h rfl (fun hc=>?_) (fun hc=>?_)
 ·have hc1:=hc;clear hc
  have hc1':=of_decide_eq_true hc1
  refine rq za0 0 [] [(2,vi .i64 0),(3,.t (.c (.d (.raw (.string ByteArray.empty))))),(4,vi .i64 20),(5,.t (.c (.d (.sl 1 ((zb9 t).map za3)))))] [] h ?_;clear h;intro a w h
  refine wp_ret (zaf ?_)
  refine zb0 [.c (cI 0),.c (.d (.raw (.string ByteArray.empty))),.c (cI 20)] h Exit.ret (.inl rfl)  rfl ⟨RV.tmp _ _ rfl,RV.tmp _ _ rfl,RV.tmp _ _ rfl,trivial⟩ ?_
  rw [rdW_short (by have:=of_decide_eq_true hc1;omega)];first | done | rfl
 ·have hc2:=hc;clear hc
  have hc2':=of_decide_eq_false hc2
  refine wp_skip (za5 ?_)
  obtain ⟨x2,hx2⟩:∃ z_:ByteArray,(zb9 t)[0]?=some z_:=⟨_,List.getElem?_eq_getElem (by first | omega | (simp at *;omega))⟩
  refine rq za0 0 [(1,.gen _ _ _ fun _ _ _ _=>Op.idxD (d:=17) (t:=16) (k:=.i64) pa1_4 (zb2 hx2 (f:=za3)) (OV.const (.int .i64 0) rfl)),(3,.call (PVerdict x2) pm1_3)] [(2,vi .i64 0),(3,.t (.c (.d (.raw (.string ByteArray.empty))))),(4,vi .i64 0),(5,.t (.c (.d (.sl 1 ((zb9 t).map za3))))),(6,vi .i64 (vdW x2).1),(7,vb (vdW x2).2)] [] h ?_;clear h;intro a w h
  obtain ⟨x4,hx4⟩:∃ z_:ByteArray,(zb9 t)[1]?=some z_:=⟨_,List.getElem?_eq_getElem (by first | omega | (simp at *;omega))⟩
  refine rq za0 0 [(1,.gen _ _ _ fun _ _ _ _=>Op.idxD (d:=24) (t:=23) (k:=.i64) pa1_4 (zb2 hx4 (f:=za3)) (OV.const (.int .i64 1) rfl)),(3,.call (SCutPrefix x4 (⟨#[119,104,121,58,32]⟩:ByteArray)) pm1_4)] [(2,vi .i64 0),(3,.t (.c (.d (.raw (.string ByteArray.empty))))),(4,vi .i64 0),(5,.t (.c (.d (.sl 1 ((zb9 t).map za3))))),(6,vi .i64 (vdW x2).1),(7,vb (vdW x2).2),(8,.t (.c (.d (.raw (.string (cutP x4 (⟨#[119,104,121,58,32]⟩:ByteArray))))))),(9,vb (pfx x4))] [] h ?_;clear h;intro a w h
  refine wp_seq (wp_block (wp_seq (rq za0 0 [] [(2,vi .i64 0),(3,.t (.c (.d (.raw (.string ByteArray.empty))))),(4,vi .i64 0),(5,.t (.c (.d (.sl 1 ((zb9 t).map za3))))),(6,vi .i64 (vdW x2).1),(8,.t (.c (.d (.raw (.string (cutP x4 (⟨#[119,104,121,58,32]⟩:ByteArray))))))),(9,vb (pfx x4)),(29,vb (!(vdW x2).2))] [] h ?_)));clear h;intro a w h
  refine zad (!(vdW x2).2) h rfl (fun hc=>?_) (fun hc=>?_)
  ·have hc3:=hc;clear hc
   have hc3':=hc3;(try simp at hc3')
   refine wp_skip (za5 ?_)
   refine zad (!(vdW x2).2) h rfl (fun hc=>?_) (fun hc=>?_)
   ·clear hc
    refine rq za0 0 [] [(2,vi .i64 0),(3,.t (.c (.d (.raw (.string ByteArray.empty))))),(4,vi .i64 20),(6,vi .i64 (vdW x2).1),(8,.t (.c (.d (.raw (.string (cutP x4 (⟨#[119,104,121,58,32]⟩:ByteArray)))))))] [] h ?_;clear h;intro a w h
    refine wp_ret (zax (zaf ?_))
    refine zb0 [.c (cI 0),.c (.d (.raw (.string ByteArray.empty))),.c (cI 20)] h Exit.ret (.inl rfl)  rfl ⟨RV.tmp _ _ rfl,RV.tmp _ _ rfl,RV.tmp _ _ rfl,trivial⟩ ?_
    rw [zby hx2 hx4,if_pos (show ((vdW x2).2)=false from by simpa using hc3)];first | done | rfl
   ·rw [hc3] at hc;cases hc
  ·have hc4:=hc;clear hc
   have hc4':=hc4;(try simp at hc4')
   rcases Bool.eq_false_or_eq_true ((vdW x2).1 != 4) with hc | hc
   ·have hc5:=hc;clear hc
    have hc5':=hc5;(try simp at hc5')
    refine rn za0 0 [(1,.cmp (op:=.neq) (m:=(vdW x2).1) (n:=4) (b:=true) .i64 hc5)] [(2,vi .i64 0),(3,.t (.c (.d (.raw (.string ByteArray.empty))))),(4,vi .i64 0),(5,.t (.c (.d (.sl 1 ((zb9 t).map za3))))),(6,vi .i64 (vdW x2).1),(8,.t (.c (.d (.raw (.string (cutP x4 (⟨#[119,104,121,58,32]⟩:ByteArray))))))),(29,vb (!(pfx x4)))] [] h ?_;clear h;intro a w h
    refine za5 ?_
    refine zad (!(pfx x4)) h rfl (fun hc=>?_) (fun hc=>?_)
    ·have hc6:=hc;clear hc
     have hc6':=hc6;(try simp at hc6')
     refine rq za0 0 [] [(2,vi .i64 0),(3,.t (.c (.d (.raw (.string ByteArray.empty))))),(4,vi .i64 20),(6,vi .i64 (vdW x2).1),(8,.t (.c (.d (.raw (.string (cutP x4 (⟨#[119,104,121,58,32]⟩:ByteArray)))))))] [] h ?_;clear h;intro a w h
     refine wp_ret (zax (zaf ?_))
     refine zb0 [.c (cI 0),.c (.d (.raw (.string ByteArray.empty))),.c (cI 20)] h Exit.ret (.inl rfl)  rfl ⟨RV.tmp _ _ rfl,RV.tmp _ _ rfl,RV.tmp _ _ rfl,trivial⟩ ?_
     rw [zby hx2 hx4,if_neg (by rw [(show ((vdW x2).2)=true from by simpa using hc4)];exact Bool.noConfusion),if_neg (by simpa using hc5),if_neg (by rw [(show (pfx x4)=false from by simpa using hc6)];exact Bool.noConfusion)];first | done | rfl
    ·have hc7:=hc;clear hc
     have hc7':=hc7;(try simp at hc7')
     refine rq za0 0 [(1,.cmp (op:=.eql) (m:=(vdW x2).1) (n:=4) (b:=false) .i64 (show ((vdW x2).1 == 4)=false from by simpa using hc5))] [(2,vi .i64 0),(3,.t (.c (.d (.raw (.string ByteArray.empty))))),(4,vi .i64 0),(5,.t (.c (.d (.sl 1 ((zb9 t).map za3))))),(6,vi .i64 (vdW x2).1),(8,.t (.c (.d (.raw (.string (cutP x4 (⟨#[119,104,121,58,32]⟩:ByteArray))))))),(38,vb false)] [] h ?_;clear h;intro a w h
     refine zad false h rfl (fun hc=>?_) (fun hc=>?_)
     ·cases hc
     ·clear hc
      refine wp_skip (zar (za5 (rq za0 0 [] [(2,vi .i64 (vdW x2).1),(3,.t (.c (.d (.raw (.string (cutP x4 (⟨#[119,104,121,58,32]⟩:ByteArray))))))),(4,vi .i64 0)] [] h ?_)));clear h;intro a w h
      refine wp_ret ?_
      refine zb0 [.c (cI (vdW x2).1),.c (.d (.raw (.string (cutP x4 (⟨#[119,104,121,58,32]⟩:ByteArray))))),.c (cI 0)] h Exit.ret (.inl rfl)  rfl ⟨RV.tmp _ _ rfl,RV.tmp _ _ rfl,RV.tmp _ _ rfl,trivial⟩ ?_
      rw [zby hx2 hx4,if_neg (by rw [(show ((vdW x2).2)=true from by simpa using hc4)];exact Bool.noConfusion),if_neg (by simpa using hc5),if_pos (show (pfx x4)=true from by simpa using hc7)];first | done | rfl
   ·have hc8:=hc;clear hc
    have hc8':=hc8;(try simp at hc8')
    refine rn za0 0 [(1,.cmp (op:=.neq) (m:=(vdW x2).1) (n:=4) (b:=false) .i64 hc8)] [(2,vi .i64 0),(3,.t (.c (.d (.raw (.string ByteArray.empty))))),(4,vi .i64 0),(5,.t (.c (.d (.sl 1 ((zb9 t).map za3))))),(6,vi .i64 (vdW x2).1),(8,.t (.c (.d (.raw (.string (cutP x4 (⟨#[119,104,121,58,32]⟩:ByteArray))))))),(29,vb false)] [] h ?_;clear h;intro a w h
    refine za5 ?_
    refine zad false h rfl (fun hc=>?_) (fun hc=>?_)
    ·cases hc
    ·clear hc
     refine rq za0 0 [(1,.cmp (op:=.eql) (m:=(vdW x2).1) (n:=4) (b:=true) .i64 (show ((vdW x2).1 == 4)=true from by simpa using hc8))] [(2,vi .i64 0),(3,.t (.c (.d (.raw (.string ByteArray.empty))))),(4,vi .i64 0),(5,.t (.c (.d (.sl 1 ((zb9 t).map za3))))),(6,vi .i64 (vdW x2).1),(8,.t (.c (.d (.raw (.string (cutP x4 (⟨#[119,104,121,58,32]⟩:ByteArray))))))),(38,vb true)] [] h ?_;clear h;intro a w h
     refine zad true h rfl (fun hc=>?_) (fun hc=>?_)
     ·clear hc
      refine rq za0 0 [(2,.gen _ _ _ fun _ _ _ _=>Op.idxD (d:=43) (t:=42) (k:=.i64) pa1_4 (zb2 hx4 (f:=za3)) (OV.const (.int .i64 1) rfl))] [(2,vi .i64 (vdW x2).1),(3,.t (.c (.d (.raw (.string x4))))),(4,vi .i64 0),(6,vi .i64 (vdW x2).1),(8,.t (.c (.d (.raw (.string (cutP x4 (⟨#[119,104,121,58,32]⟩:ByteArray)))))))] [] h ?_;clear h;intro a w h
      refine wp_ret (zax (zaf ?_))
      refine zb0 [.c (cI (vdW x2).1),.c (.d (.raw (.string x4))),.c (cI 0)] h Exit.ret (.inl rfl)  rfl ⟨RV.tmp _ _ rfl,RV.tmp _ _ rfl,RV.tmp _ _ rfl,trivial⟩ ?_
      have e4:(vdW x2).1=4:=by simpa using hc8
      rw [zby hx2 hx4,if_neg (by rw [(show ((vdW x2).2)=true from by simpa using hc4)];exact Bool.noConfusion),if_pos e4,e4];first | done | rfl
     ·cases hc
def fewB (L:Nat) (b:za1):Bool:=decide ((b.lo.abs.length:Int)≤(L:Int)) && decide ((b.hi.abs.length:Int)≤(L:Int))
def formT (t:Term):za9:=⟨2,⟨t,false⟩,[]⟩
def fewM (L:Nat) (m:zah):Bool:=fewF (formT m.t) 5 L
def fewA (L:Nat) (c:za6):Bool:=(fewF c.guard 30 L && decide ((c.moves.length:Int)≤20)) && c.moves.all (fewM L)
def fewSys (L:Nat) (s:zaj):Bool:=(decide ((s.vars.length:Int)≤8∧(s.bounds.length:Int)≤20∧(s.procs.length:Int)≤6∧(s.acts.length:Int)≤20) && fewF s.init 30 L) && (s.bounds.all (fewB L) && s.acts.all (fewA L))
def zbs (L:Nat) (x:StD):Bool:=decide ((x.locs.length:Int)≤10∧(x.vals.length:Int)≤10) && x.vals.all fun z=>decide ((z.abs.length:Int)≤(L:Int))
/-- limbs that are limbs -/
structure SysRd (s:zaj):Prop where
  init:s.init.lb
  bnd:∀ b ∈ s.bounds,Lb b.lo.abs∧Lb b.hi.abs
  act:∀ c ∈ s.acts,c.guard.lb∧∀ m ∈ c.moves,TLb m.t
  len:s.bounds.length≤9223372036854775807∧s.acts.length≤9223372036854775807
  mlen:∀ c ∈ s.acts,c.moves.length≤9223372036854775807
def StRd (x:StD):Prop:=(∀ z ∈ x.vals,Lb z.abs)∧x.vals.length≤9223372036854775807
theorem fewF_ok {f:za9} {most:Int} {L:Nat} (h:fewF f most L=true) (hl:f.lb):f.ok L:=by unfold fewF at h;rw [Bool.and_eq_true] at h;exact za9.few_ok f h.2 hl
theorem formT_lb {t:Term} (h:TLb t):(formT t).lb:=(za9.lb_eq _).2 ⟨⟨h,Nat.zero_le _⟩,fun g hg=>(by cases hg)⟩
theorem formT_ok {t:Term} {L:Nat} (h:(formT t).ok L):TOk 20 L t:=((za9.ok_eq L _).1 h).1 rfl
theorem few_sys {L:Nat} {s:zaj} (h:fewSys L s=true) (hr:SysRd s):SysOk L s:=by
 unfold fewSys at h
 simp only [Bool.and_eq_true,decide_eq_true_eq,List.all_eq_true] at h
 obtain ⟨⟨⟨h1,h2,h3,h4⟩,h5⟩,h6,h7⟩:=h
 refine ⟨by omega,by omega,by omega,by omega,fun b hb=>?_,⟨hr.init,fewF_ok h5 hr.init⟩,fun c hc=>?_⟩
 ·have:=h6 b hb;unfold fewB at this;simp only [Bool.and_eq_true,decide_eq_true_eq] at this
  exact ⟨⟨(hr.bnd b hb).1,by omega⟩,(hr.bnd b hb).2,by omega⟩
 ·have:=h7 c hc;unfold fewA at this;simp only [Bool.and_eq_true,decide_eq_true_eq,List.all_eq_true] at this
  exact ⟨⟨(hr.act c hc).1,fewF_ok this.1.1 (hr.act c hc).1⟩,by omega,fun m hm=>formT_ok (fewF_ok (this.2 m hm) (formT_lb ((hr.act c hc).2 m hm)))⟩
theorem few_st {L:Nat} {x:StD} (h:zbs L x=true) (hr:StRd x):StOk L x:=by
 unfold zbs at h
 simp only [Bool.and_eq_true,decide_eq_true_eq,List.all_eq_true] at h
 exact ⟨by omega,by omega,fun z hz=>⟨hr.1 z hz,by have:=h.2 z hz;omega⟩⟩
set_option maxHeartbeats 4000000 in
theorem SFewSt (x:StD) (L:Nat) (hr:StRd x):Fn Tryd.prog 17 [] [.t (.agg [cIs x.locs,cZs x.vals]),vi .i64 (L:Int)] (vb (zbs L x)) []:=by
 have lv:=hr.2
 refine Fn.body Tryd.func17 rfl 32 rfl fun w H B a h=>?_
 refine rq za0 0 [] [(1,vi .i64 (L:Int)),(2,vp 0 0),(4,vb false)] [(0,.box [cIs x.locs,cZs x.vals])] h ?_;clear h;intro a w h
 refine wp_seq ?_
 rcases Bool.eq_false_or_eq_true (decide ((x.locs.length:Int)>10)) with hc | hc
 ·have hc1:=hc;clear hc
  have hc1':=of_decide_eq_true hc1
  refine rq za0 1 [(2,.len (c:=(cIs x.locs)) (n:=x.locs.length) (za8 _ _ _)),(3,.cmp (op:=.gtr) (m:=(x.locs.length:Int)) (n:=10) (b:=true) .i64 hc1)] [(1,vi .i64 (L:Int)),(2,vp 0 0),(4,vb false),(15,vb true)] [(0,.box [cIs x.locs,cZs x.vals])] h ?_;clear h;intro a w h
  refine zad true h rfl (fun hc=>?_) (fun hc=>?_)
  ·clear hc
   refine rq za0 1 [] [(1,vi .i64 (L:Int)),(2,vp 0 0),(4,vb false)] [(0,.box [cIs x.locs,cZs x.vals])] h ?_;clear h;intro a w h
   refine wp_ret (zaf ?_)
   refine zb0 [.c (cB false)] h Exit.ret (.inl rfl)  rfl ⟨RV.tmp _ _ rfl,trivial⟩ ?_
   have hz:zbs L x=false:=by unfold zbs;rw [decide_eq_false (p:=(x.locs.length:Int)≤10∧(x.vals.length:Int)≤10) (by have:=of_decide_eq_true hc1;omega)];rfl
   rw [hz];first | done | rfl
  ·cases hc
 ·have hc2:=hc;clear hc
  have hc2':=of_decide_eq_false hc2
  refine rq za0 1 [(2,.len (c:=(cIs x.locs)) (n:=x.locs.length) (za8 _ _ _)),(3,.cmp (op:=.gtr) (m:=(x.locs.length:Int)) (n:=10) (b:=false) .i64 hc2),(7,.len (c:=(cZs x.vals)) (n:=x.vals.length) (za8 _ _ _))] [(1,vi .i64 (L:Int)),(2,vp 0 0),(4,vb false),(15,vb (decide ((x.vals.length:Int)>10)))] [(0,.box [cIs x.locs,cZs x.vals])] h ?_;clear h;intro a w h
  refine zad (decide ((x.vals.length:Int)>10)) h rfl (fun hc=>?_) (fun hc=>?_)
  ·have hc3:=hc;clear hc
   have hc3':=of_decide_eq_true hc3
   refine rq za0 1 [] [(1,vi .i64 (L:Int)),(2,vp 0 0),(4,vb false)] [(0,.box [cIs x.locs,cZs x.vals])] h ?_;clear h;intro a w h
   refine wp_ret (zaf ?_)
   refine zb0 [.c (cB false)] h Exit.ret (.inl rfl)  rfl ⟨RV.tmp _ _ rfl,trivial⟩ ?_
   have hz:zbs L x=false:=by unfold zbs;rw [decide_eq_false (p:=(x.locs.length:Int)≤10∧(x.vals.length:Int)≤10) (by have:=of_decide_eq_true hc3;omega)];rfl
   rw [hz];first | done | rfl
  ·have hc4:=hc;clear hc
   have hc4':=of_decide_eq_false hc4
   refine wp_skip (za5 (wp_seq (rq za0 1 [] [(1,vi .i64 (L:Int)),(2,vp 0 0),(4,vb false),(5,vi .i64 0)] [(0,.box [cIs x.locs,cZs x.vals])] h ?_)));clear h;intro a w h
   refine wp_block ?_
   refine zch (ι:=(Nat)) (fun (z_:(Nat))=>match z_ with | j=>j≤x.vals.length∧(x.vals.take j).all (fun z=>decide ((z.abs.length:Int)≤(L:Int)))=true)
     (fun (z_:(Nat))=>match z_ with | j=>[(1,vi .i64 (L:Int)),(2,vp 0 0),(5,vi .i64 (j:Int))])
     (fun (z_:(Nat))=>match z_ with | j=>[(0,.box [cIs x.locs,cZs x.vals])])
     (fun (z_:(Nat))=>match z_ with | j=>x.vals.length - j) 0 ?_ h (by kernel_rfl) (by kernel_rfl) ?_
   ·exact ⟨Nat.zero_le _,rfl⟩
   ·clear h;rintro j a w hI h
    change St _ (F.of [(1,vi .i64 (L:Int)),(2,vp 0 0),(5,vi .i64 (j:Int))] [(0,.box [cIs x.locs,cZs x.vals])]) a w at h
    obtain ⟨hI1,hI2⟩:=hI
    refine wp_seq (rq za0 1 [(3,.len (c:=(cZs x.vals)) (n:=x.vals.length) (za8 _ _ _))] [(1,vi .i64 (L:Int)),(2,vp 0 0),(5,vi .i64 (j:Int)),(20,vb (decide ((j:Int)<(x.vals.length:Int))))] [(0,.box [cIs x.locs,cZs x.vals])] h ?_);clear h;intro a w h
    refine zad (decide ((j:Int)<(x.vals.length:Int))) h rfl (fun hc=>?_) (fun hc=>?_)
    ·have hc5:=hc;clear hc
     have hc5':=of_decide_eq_true hc5
     refine wp_skip (za5 (wp_seq (wp_block ?_)))
     obtain ⟨x1,hx1⟩:∃ z_:ZI,x.vals[j]?=some z_:=⟨_,List.getElem?_eq_getElem (by first | omega | (simp at *;omega))⟩
     refine rq za0 1 [(3,.gen _ _ _ fun _ _ _ _=>Op.idxD (d:=26) (t:=24) (k:=.i64) tt_6 (zb2 hx1 (f:=ziD)) (OV.tmp 25 _)),(6,.len (nsl_len x1.abs))] [(1,vi .i64 (L:Int)),(2,vp 0 0),(5,vi .i64 (j:Int)),(31,vb (decide ((x1.abs.length:Int)>(L:Int))))] [(0,.box [cIs x.locs,cZs x.vals])] h ?_;clear h;intro a w h
     refine zad (decide ((x1.abs.length:Int)>(L:Int))) h rfl (fun hc=>?_) (fun hc=>?_)
     ·have hc6:=hc;clear hc
      have hc6':=of_decide_eq_true hc6
      refine rq za0 1 [] [(1,vi .i64 (L:Int)),(2,vp 0 0),(4,vb false),(5,vi .i64 (j:Int))] [(0,.box [cIs x.locs,cZs x.vals])] h ?_;clear h;intro a w h
      refine wp_ret (zax (zaf (zaf (zax (zaf ?_)))))
      refine zb0 [.c (cB false)] h Exit.ret (.inl rfl)  rfl ⟨RV.tmp _ _ rfl,trivial⟩ ?_
      have hz:zbs L x=false:=by unfold zbs;rw [decide_eq_true (p:=(x.locs.length:Int)≤10∧(x.vals.length:Int)≤10) (by have:=of_decide_eq_false hc2;have:=of_decide_eq_false hc4;omega),Bool.true_and];exact all_stop hx1 (decide_eq_false (by have:=of_decide_eq_true hc6;omega))
      rw [hz];first | done | rfl
     ·have hc7:=hc;clear hc
      have hc7':=of_decide_eq_false hc7
      refine wp_skip (zar (za5 (rn za0 1 [(1,.add .i64 (m:=(j:Int)) (n:=1) (zam (by omega) (by omega)))] [(1,vi .i64 (L:Int)),(2,vp 0 0),(5,vi .i64 ((j:Int)+1))] [(0,.box [cIs x.locs,cZs x.vals])] h ?_)));clear h;intro a w h
      refine za5 ?_
      refine zb5 (x:=j) (y:=j+1) h ?_ ?_
      ·exact ⟨by have:=zat hx1;omega,all_step hx1 hI2 (decide_eq_true (by have:=of_decide_eq_false hc7;omega))⟩
      ·show x.vals.length - (j+1)<x.vals.length - j
       have:=zat hx1;omega
    ·have hc8:=hc;clear hc
     have hc8':=of_decide_eq_false hc8
     refine wp_exit (zap (zap (zae (za5 (rq za0 1 [] [(4,vb true)] [] h ?_)))));clear h;intro a w h
     refine wp_ret ?_
     refine zb0 [.c (cB true)] h Exit.ret (.inl rfl)  rfl ⟨RV.tmp _ _ rfl,trivial⟩ ?_
     have hz:zbs L x=true:=by unfold zbs;rw [decide_eq_true (p:=(x.locs.length:Int)≤10∧(x.vals.length:Int)≤10) (by have:=of_decide_eq_false hc2;have:=of_decide_eq_false hc4;omega),Bool.true_and];exact all_end (of_decide_eq_false hc8) hI2
     rw [hz];first | done | rfl
mutual
/-- y is x, with nil read as an empty slice here and there -/
inductive Wk:D→D→Prop
  | refl (x:D):Wk x x
  | nil (es:Nat):Wk (.raw za4) (.sl es [])
  | sl (es:Nat) (a b:List (List D)) (h:WkR a b):Wk (.sl es a) (.sl es b)
inductive WkL:List D→List D→Prop
  | nil:WkL [] []
  | cons (x y:D) (xs ys:List D) (h:Wk x y) (hs:WkL xs ys):WkL (x :: xs) (y :: ys)
inductive WkR:List (List D)→List (List D)→Prop
  | nil:WkR [] []
  | cons (x y:List D) (xs ys:List (List D)) (h:WkL x y) (hs:WkR xs ys):WkR (x :: xs) (y :: ys)
end
def WkM (x y:D):Prop:=∀ (H:Im) (v:Value),DR H x v→DR H y v
def WkLM (xs ys:List D):Prop:=xs.length=ys.length∧∀ j (h:j<xs.length) (h':j<ys.length),WkM xs[j] ys[j]
def WkRM (xs ys:List (List D)):Prop:=xs.length=ys.length∧∀ i (h:i<xs.length) (h':i<ys.length),WkLM xs[i] ys[i]
theorem Wk.sound {x y:D} (h:Wk x y):WkM x y:=by
 refine Wk.rec (motive_1:=fun x y _=>WkM x y) (motive_2:=fun x y _=>WkLM x y) (motive_3:=fun x y _=>WkRM x y) ?_ ?_ ?_ ?_ ?_ ?_ ?_ h
 ·intro x H v h;exact h
 ·intro es H v h
  cases h with
  | raw v h=>exact DR.nil _ _ _ (fun _=>rfl) (Nat.zero_le _)
 ·intro es a b _ ih H v h
  cases h with
  | nil es ao c h hc =>
   have:b=[]:=List.length_eq_zero_iff.1 ih.1.symm
   subst this
   exact DR.nil _ _ _ h hc
  | sl es rows bb o c arr ty fz vs hp hb hl hc hes hv hr =>
   rw [ih.1] at hp hl ⊢
   refine DR.sl es b bb o c arr ty fz vs hp hb hl hc (fun i hi=>?_) (fun i hi=>?_) (fun i hi j hj=>?_)
   ·have h0:i<a.length:=by rw [ih.1];exact hi
    rw [← (ih.2 i h0 hi).1];exact hes i h0
   ·exact hv i (by rw [ih.1];exact hi)
   ·have h0:i<a.length:=by rw [ih.1];exact hi
    have hj0:j<a[i].length:=by rw [(ih.2 i h0 hi).1];exact hj
    exact (ih.2 i h0 hi).2 j hj0 hj _ _ (hr i h0 j hj0)
 ·exact ⟨rfl,fun j h=>absurd h (Nat.not_lt_zero j)⟩
 ·intro x y xs ys _ _ h hs
  refine ⟨by simp [hs.1],fun j hj hj'=>?_⟩
  cases j with
  | zero=>exact h
  | succ j=>exact hs.2 j (by simpa using hj) (by simpa using hj')
 ·exact ⟨rfl,fun j h=>absurd h (Nat.not_lt_zero j)⟩
 ·intro x y xs ys _ _ h hs
  refine ⟨by simp [hs.1],fun j hj hj'=>?_⟩
  cases j with
  | zero=>exact h
  | succ j=>exact hs.2 j (by simpa using hj) (by simpa using hj')
inductive WkC:List C→List C→Prop
  | nil:WkC [] []
  | same (x:C) (xs ys:List C) (hs:WkC xs ys):WkC (x :: xs) (x :: ys)
  | d (x y:D) (xs ys:List C) (h:Wk x y) (hs:WkC xs ys):WkC (.d x :: xs) (.d y :: ys)
theorem WkC.sound {H:Im} {B:Bl} {xs ys:List C} (h:WkC xs ys):∀ {vs:List Value}, zag (CR H B) xs vs→zag (CR H B) ys vs:=by
 induction h with
 | nil=>exact fun h=>h
 | same x xs ys _ ih =>
  intro vs k
  cases vs with
  | nil=>exact k.elim
  | cons v vs=>exact ⟨k.1,ih k.2⟩
 | d x y xs ys h _ ih =>
  intro vs k
  cases vs with
  | nil=>exact k.elim
  | cons v vs=>exact ⟨h.sound H v k.1,ih k.2⟩
inductive WkV:V→V→Prop
  | refl (x:V):WkV x x
  | c (x y:D) (h:Wk x y):WkV (.t (.c (.d x))) (.t (.c (.d y)))
  | agg (xs ys:List C) (h:WkC xs ys):WkV (.t (.agg xs)) (.t (.agg ys))
theorem WkV.sound {H:Im} {B:Bl} {x y:V} (h:WkV x y) {v:Value} (k:VR H B x v):VR H B y v:=by
 cases h with
 | refl=>exact k
 | c x y h=>exact h.sound H v k
 | agg xs ys h=>obtain ⟨vs,e,k⟩:=k;exact ⟨vs,e,h.sound k⟩
inductive WkA:List V→List V→Prop
  | nil:WkA [] []
  | cons (x y:V) (xs ys:List V) (h:WkV x y) (hs:WkA xs ys):WkA (x :: xs) (y :: ys)
theorem WkA.sound {H:Im} {B:Bl} {xs ys:List V} (h:WkA xs ys):∀ {vs:List Value}, zag (VR H B) xs vs→zag (VR H B) ys vs:=by
 induction h with
 | nil=>exact fun h=>h
 | cons x y xs ys h _ ih =>
  intro vs k
  cases vs with
  | nil=>exact k.elim
  | cons v vs=>exact ⟨h.sound k.1,ih k.2⟩
theorem Fn.argw {P:Program} {k:FuncId} {ps qs:List (Nat × L)} {args args':List V} {res:V} (h:Fn P k ps args' res qs) (hw:WkA args args'):Fn P k ps args res qs :=
 fun w H B vals pre=>h w H B vals ⟨pre.sat,pre.loc,pre.priv,pre.inj,hw.sound pre.arg,pre.tab⟩
theorem kw_4:ElZ Tryd.prog 36 65 3:=ElZ.mk' Tryd.underlying36 _ _ rfl rfl (by kernel_rfl) (by kernel_rfl) (by kernel_rfl) (by decide)
theorem kx_3:ElZ Tryd.prog 40 68 2:=ElZ.mk' Tryd.underlying40 _ _ rfl rfl (by kernel_rfl) (by kernel_rfl) (by kernel_rfl) (by decide)
theorem ky_2:zaa Tryd.prog 17:=zaa.mk' (by kernel_rfl)
section
variable {w:World} {n:Nat}
theorem rep_raw {t e:TypeId} (hu:Tryd.prog.underlying t=some (.slice e)):zc0 w n t rawD (fun _=>True):=fun H enc base spare held fuel cs x hn hx=>by
 rcases DataW.trod_slice hu hx with ⟨rfl,_⟩ | ⟨a,len,cap,elems,rest,m,rfl,rfl,_⟩
 ·exact ⟨.raw _,trivial,DR.raw _ rfl,trivial⟩
 ·exact ⟨.raw _,trivial,DR.raw _ rfl,trivial⟩
theorem rep_ZIl:zc0 w n 66 (slD 2 ziD) (fun xs=>xs.length≤maxLen∧∀ x ∈ xs,Lb x.abs) :=
 zbd (k:=2) Tryd.underlying66 (by kernel_rfl) (by decide) (fun _=>rfl) rep_ZI
theorem rep_Rel:zc0 w n 32 RelD.d (fun r=>TLb r.t) :=
 ((zav (n:=n) Tryd.underlying32 (by kernel_rfl) (.cons (k0:=3) rfl (by kernel_rfl) rep_Term (.cons (k0:=1) rfl (by kernel_rfl) (zd9 Tryd.underlying4) .nil))).map (fun p=>⟨p.1,p.2.1⟩) (fun _=>rfl) fun _ h=>h.1).mono (Nat.le_succ n)
theorem rep_Form:∀ {n:Nat}, zc0 w n 35 za9.d za9.lb
 | 0=>zc0.zero
 | n+1=>(zav (n:=n) Tryd.underlying35 (by kernel_rfl) (.cons (k0:=1) rfl (by kernel_rfl) (zbi Tryd.underlying3) (.cons (k0:=4) rfl (by kernel_rfl) rep_Rel (.cons (k0:=1) rfl (by kernel_rfl) (zbd (k:=6) Tryd.underlying33 (by kernel_rfl) (by decide) za9.d_len rep_Form) .nil)))).map (fun p=>⟨p.1,p.2.1,p.2.2.1⟩) (fun _=>(za9.d_eq _).trans rfl) fun _ h=>(za9.lb_eq _).2 ⟨⟨h.2.1,Nat.le_trans h.2.2.1.1 (by decide)⟩,h.2.2.1.2⟩
theorem rep_Bound:zc0 w n 156 za1.d (fun b=>Lb b.lo.abs∧Lb b.hi.abs) :=
 ((zav (n:=n) Tryd.underlying156 (by kernel_rfl) (.cons (k0:=1) rfl (by kernel_rfl) (zd9 Tryd.underlying4) (.cons (k0:=2) rfl (by kernel_rfl) rep_ZI (.cons (k0:=2) rfl (by kernel_rfl) rep_ZI .nil)))).map (fun p=>⟨p.1,p.2.1,p.2.2.1⟩) (fun _=>rfl) fun _ h=>⟨h.2.1,h.2.2.1⟩).mono (Nat.le_succ n)
theorem rep_Move:zc0 w n 167 zah.d (fun m=>TLb m.t) :=
 ((zav (n:=n) Tryd.underlying167 (by kernel_rfl) (.cons (k0:=1) rfl (by kernel_rfl) (zbi Tryd.underlying3) (.cons (k0:=1) rfl (by kernel_rfl) (zd9 Tryd.underlying4) (.cons (k0:=3) rfl (by kernel_rfl) rep_Term .nil)))).map (fun p=>⟨p.1,p.2.1,p.2.2.1⟩) (fun _=>rfl) fun _ h=>h.2.2.1).mono (Nat.le_succ n)
theorem rep_Moves:zc0 w n 99 (slD 5 zah.d) (fun xs=>xs.length≤maxLen∧∀ x ∈ xs,TLb x.t) :=
 zbd (k:=5) Tryd.underlying99 (by kernel_rfl) (by decide) (fun _=>rfl) rep_Move
theorem rep_Bounds:zc0 w n 23 (slD 5 za1.d) (fun xs=>xs.length≤maxLen∧∀ x ∈ xs,Lb x.lo.abs∧Lb x.hi.abs) :=
 zbd (k:=5) Tryd.underlying23 (by kernel_rfl) (by decide) (fun _=>rfl) rep_Bound
theorem rep_Act:zc0 w n 101 za6.d (fun c=>c.guard.lb∧c.moves.length≤maxLen∧∀ m ∈ c.moves,TLb m.t) :=
 ((zav (n:=n) Tryd.underlying101 (by kernel_rfl) (.cons (k0:=1) rfl (by kernel_rfl) (zbi Tryd.underlying3) (.cons (k0:=1) rfl (by kernel_rfl) (zbi Tryd.underlying3) (.cons (k0:=1) rfl (by kernel_rfl) (zbi Tryd.underlying3) (.cons (k0:=6) rfl (by kernel_rfl) rep_Form (.cons (k0:=1) rfl (by kernel_rfl) rep_Moves .nil)))))).map (fun p=>⟨p.1,p.2.1,p.2.2.1,p.2.2.2.1,p.2.2.2.2.1⟩) (fun _=>by rw [za9.d_eq];rfl) fun _ h=>⟨h.2.2.2.1,h.2.2.2.2.1⟩).mono (Nat.le_succ n)
theorem rep_State:zc0 w n 68 StD.d StRd :=
 ((zav (n:=n) Tryd.underlying68 (by kernel_rfl) (.cons (k0:=1) rfl (by kernel_rfl) rep_ints (.cons (k0:=1) rfl (by kernel_rfl) rep_ZIl .nil))).map (fun p=>⟨p.1,p.2.1⟩) (fun _=>rfl) fun _ h=>⟨h.2.1.2,Nat.le_trans h.2.1.1 (by decide)⟩).mono (Nat.le_succ n)
end
structure RunRd (r:zbw):Prop where
  stem:∀ x ∈ r.stem,StRd x
  cycle:∀ x ∈ r.cycle,StRd x
  len:r.stem.length+r.cycle.length≤9223372036854775807
  acts:r.acts.length≤9223372036854775807
theorem st0_rd:StRd st0:=⟨fun z hz=>(by cases hz),Nat.zero_le _⟩
theorem RunRd.at {r:zbw} (h:RunRd r) (i:Nat):StRd (zb8 r i):=by
 unfold zb8
 cases hx:(r.stem++r.cycle)[i]? with
 | none=>exact st0_rd
 | some x=>exact (List.mem_append.1 (List.mem_of_getElem? hx)).elim (h.stem x) (h.cycle x)
theorem pn1_5:zaa Tryd.prog 8:=zaa.mk' (by kernel_rfl)
theorem pn1_6:zaa Tryd.prog 12:=zaa.mk' (by kernel_rfl)
theorem pn1_7:zaa Tryd.prog 10:=zaa.mk' (by kernel_rfl)
theorem pn1_12:zaa Tryd.prog 6:=zaa.mk' (by kernel_rfl)
theorem pn1_13:zaa Tryd.prog 7:=zaa.mk' (by kernel_rfl)
def sysA:zaj:=⟨[⟨#[120]⟩],[],form0,[⟨⟨#[112]⟩,[⟨#[97]⟩],.raw za4⟩],[]⟩
def runA:zbw:=⟨[],[⟨[0],[⟨false,[]⟩]⟩],[-1]⟩
theorem mem1A {α:Type} {x y:α} (h:x ∈ [y]):x=y:=by simpa using h
theorem sysA_tx:zcy sysA:=⟨fun v hv=>by rw [mem1A hv];decide,fun p hp=>by rw [mem1A hp];decide,fun p hp t ht=>by rw [mem1A hp] at ht;rw [mem1A ht];decide⟩
theorem runA_ok:RnOk runA:=⟨fun x hx=>(by cases hx),fun x hx=>(by rw [mem1A hx];exact ⟨by decide,by decide,fun z hz=>by rw [mem1A hz];exact ⟨Lb_nil,by decide⟩⟩),by decide,by decide⟩
theorem itW_dig {u:Nat} (h:u<10):itW (u:Int)=⟨#[UInt8.ofNat (48+u)]⟩:=by
 unfold itW Lib.itoa;rw [if_neg (by omega),Int.toNat_natCast,zc6 h]
theorem itW_101:itW 101=⟨#[49,48,49]⟩:=by
 unfold itW Lib.itoa;rw [if_neg (by decide),show (101:Int).toNat=101 from rfl,zck (by decide),zck (u:=101 / 10) (by decide),zc6 (u:=101 / 10 / 10) (by decide)];rfl
theorem aState:stW sysA ⟨[0],[⟨false,[]⟩]⟩=⟨#[112,64,97,32,120,61,48]⟩:=by
 have h:vaN sysA ⟨[0],[⟨false,[]⟩]⟩ 1=[⟨#[120,61,48]⟩]:=by
  show [vaW sysA 0 ⟨false,[]⟩]=_
  unfold vaW
  rw [show itW (ZI.val ⟨false,[]⟩)=⟨#[48]⟩ from itW_dig (u:=0) (by decide)]
  rfl
 show joinB (plN sysA ⟨[0],[⟨false,[]⟩]⟩ 1++vaN sysA ⟨[0],[⟨false,[]⟩]⟩ 1) ⟨#[32]⟩=_
 rw [h]
 rfl
theorem aText:zbf sysA 2 ⟨#[97,108,108,32,115,116,97,116,101,115]⟩ runA=[86,73,79,76,65,84,69,68,10,119,104,121,58,32,97,108,108,32,115,116,97,116,101,115,10,115,116,101,109,58,10,99,121,99,108,101,58,10,32,32,112,64,97,32,120,61,48,32,47,32,115,116,117,116,116,101,114,10]:=by
 unfold zbf
 rw [if_pos rfl]
 have h:zay sysA runA.acts runA.stem.length runA.cycle runA.cycle.length=[32,32,112,64,97,32,120,61,48,32,47,32,115,116,117,116,116,101,114,10]:=by
  show stLn sysA [-1] 0 ⟨[0],[⟨false,[]⟩]⟩++[]=_
  rw [List.append_nil]
  unfold stLn
  rw [aState]
  rfl
 unfold runW
 rw [h]
 rfl
theorem aWrong:zas ⟨#[109,111,100,101,108]⟩ 1 2 101=[69,82,82,79,82,10,109,111,100,101,108,32,49,58,50,32,49,48,49,10]:=by
 unfold zas wrongL
 rw [show itW 1=⟨#[49]⟩ from itW_dig (u:=1) (by decide),show itW 2=⟨#[50]⟩ from itW_dig (u:=2) (by decide),itW_101]
 rfl
theorem aRead:rdW ⟨#[86,73,79,76,65,84,69,68,10,119,104,121,58,32,97,108,108,32,115,116,97,116,101,115,10,115,116,101,109,58,10,99,121,99,108,101,58,10,32,32,112,64,97,32,120,61,48,32,47,32,115,116,117,116,116,101,114,10]⟩=(2,⟨#[97,108,108,32,115,116,97,116,101,115]⟩,0):=by
 rw [zby (a:=zab 2) (b:=⟨#[119,104,121,58,32,97,108,108,32,115,116,97,116,101,115]⟩) (by kernel_rfl) (by kernel_rfl),show vdW (zab 2)=(2,true) from vdW_hit (j:=1) (by decide) (zbt _),if_neg (by simp),if_neg (by decide),if_pos (by decide)]
 rfl
theorem aRead0:rdW ⟨#[77,65,89,66,69,10,119,104,121,58,32,10]⟩=(0,ByteArray.empty,20):=by
 rw [zby (a:=⟨#[77,65,89,66,69]⟩) (b:=⟨#[119,104,121,58,32]⟩) (by kernel_rfl) (by kernel_rfl),vdW_miss (fun i hi=>by rw [eqB_data];match i,hi with | 0,_=>rfl | 1,_=>rfl | 2,_=>rfl | 3,_=>rfl),if_pos rfl]
theorem aLines:(zb9 ⟨#[97,10,10,98]⟩).length=3:=by kernel_rfl
def zbk (s:zaj) (r:zbw):Bool:=decide ((s.acts.length:Int)≤100∧(r.stem.length:Int)+(r.cycle.length:Int)≤10∧(r.acts.length:Int)≤30) && allN (r.stem.length+r.cycle.length) fun i=>zbs 4 (zb8 r i)
theorem smallW_no {s:zaj} {r:zbw} (h:(s.acts.length:Int)>100∨(r.stem.length:Int)+(r.cycle.length:Int)>10∨(r.acts.length:Int)>30):zbk s r=false:=by unfold zbk;rw [decide_eq_false (by omega),Bool.false_and]
theorem smallW_st {s:zaj} {r:zbw} {i:Nat} (hi:i<r.stem.length+r.cycle.length) (h:zbs 4 (zb8 r i)=false):zbk s r=false:=by
 cases hs:zbk s r with
 | false=>rfl
 | true =>
  unfold zbk at hs
  rw [Bool.and_eq_true] at hs
  have:=zcp.1 hs.2 i hi
  rw [h] at this;cases this
theorem smallW_yes {s:zaj} {r:zbw} (h1:¬ (s.acts.length:Int)>100) (h2:¬ (r.stem.length:Int)+(r.cycle.length:Int)>10) (h3:¬ (r.acts.length:Int)>30) (h:allN (r.stem.length+r.cycle.length) (fun i=>zbs 4 (zb8 r i))=true):zbk s r=true:=by
 unfold zbk;rw [h,Bool.and_true,decide_eq_true_eq];omega
theorem small_ok {s:zaj} {r:zbw} (h:zbk s r=true) (hr:RunRd r):RnOk r∧s.acts.length≤1000000:=by
 unfold zbk at h
 rw [Bool.and_eq_true,decide_eq_true_eq] at h
 obtain ⟨⟨h1,h2,h3⟩,h4⟩:=h
 have key:∀ i,i<r.stem.length+r.cycle.length→StOk 4 (zb8 r i):=fun i hi=>few_st (zcp.1 h4 i hi) (hr.at i)
 refine ⟨⟨fun x hx=>?_,fun x hx=>?_,by omega,by omega⟩,by omega⟩
 ·obtain ⟨i,hi⟩:=List.mem_iff_getElem?.1 hx
  have hl:=zat hi
  have e:=runAt_stem (r:=r) hl
  rw [hi] at e;injection e with e;rw [e];exact key i (by omega)
 ·obtain ⟨i,hi⟩:=List.mem_iff_getElem?.1 hx
  have hl:=zat hi
  have e:=runAt_cyc (r:=r) (i:=r.stem.length+i) (by omega) (by omega)
  rw [show r.stem.length+i - r.stem.length=i by omega,hi] at e;injection e with e;rw [e];exact key _ (by omega)
theorem wkA:WkA [.t (.agg [.d (.sl 1 ([(⟨#[120]⟩:ByteArray)].map za3)),.d (.raw za4),.d (.raw (.int .i64 0)),.d (.raw za4),.d (.raw (.bool false)),.d (nsl []),.d (.raw (.bool false)),.d (.raw za4),.d (.sl 3 ([(za2.mk (⟨#[112]⟩:ByteArray) [(⟨#[97]⟩:ByteArray)] (.raw za4))].map za2.d)),.d (.raw za4)]),.t (.agg [.d (.raw (.int .i64 2)),.d (.raw (.string (⟨#[97,108,108,32,115,116,97,116,101,115]⟩:ByteArray))),.d (.raw za4),.d (.sl 2 ([(StD.mk [0] [(ZI.mk false [])])].map StD.d)),.d (.sl 1 ([(-1)].map intD)),.d (.raw (.int .i64 0)),.d (.raw (.int .i64 0))])] [.t (.agg [.d (.sl 1 (sysA.vars.map za3)),.d (.sl 5 (sysA.bounds.map za1.d)),.d (.raw (.int .i64 sysA.init.kind)),.d (.sl 3 (sysA.init.r.t.parts.map zcz.d)),.d (.raw (.bool sysA.init.r.t.k.neg)),.d (nsl sysA.init.r.t.k.abs),.d (.raw (.bool sysA.init.r.eq)),.d (.sl 6 (sysA.init.kids.map za9.d)),.d (.sl 3 (sysA.procs.map za2.d)),.d (.sl 10 (sysA.acts.map za6.d))]),.t (.agg [.d (.raw (.int .i64 2)),.d (.raw (.string (⟨#[97,108,108,32,115,116,97,116,101,115]⟩:ByteArray))),.d (.sl 2 (runA.stem.map StD.d)),.d (.sl 2 (runA.cycle.map StD.d)),.d (.sl 1 (runA.acts.map intD)),.d (.raw (.int .i64 0)),.d (.raw (.int .i64 0))])]:=by
 refine .cons _ _ _ _ (WkV.agg _ _ ?_) (.cons _ _ _ _ (WkV.agg _ _ ?_) .nil)
 all_goals repeat (first | exact WkC.nil | refine WkC.same _ _ _ ?_ | refine WkC.d _ _ _ _ (Wk.nil _) ?_ | refine WkC.d _ _ _ _ (Wk.sl _ _ _ (.cons _ _ _ _ (by repeat (first | exact WkL.nil | refine WkL.cons _ _ _ _ (by first | exact Wk.refl _ | exact Wk.nil _) ?_)) .nil)) ?_)
set_option maxHeartbeats 4000000 in
theorem LAlive26 :Fn Tryd.prog 6 [] [] (vb true) []:=by
 refine Fn.body Tryd.func6 rfl 65 rfl fun w H B a h=>?_
 refine rq za0 30 [] [(0,vb false)] [] h ?_;clear h;intro a w h
 refine rq za0 30 [(0,.gen _ _ _ fun _ _ _ _=>Op.buildD (d:=10) (len:=1) (rows:=[(⟨#[120]⟩:ByteArray)].map za3) (rs:=[]) zcc (.cons (i:=0) (OV.const (.string (⟨#[120]⟩:ByteArray)) rfl) (.nil)) (by kernel_rfl) rfl (by simp [za3]) (by decide) (by decide)),(1,.gen _ _ _ fun _ _ _ _=>Op.buildD (d:=11) (len:=1) (rows:=[(⟨#[97]⟩:ByteArray)].map za3) (rs:=[]) zcc (.cons (i:=0) (OV.const (.string (⟨#[97]⟩:ByteArray)) rfl) (.nil)) (by kernel_rfl) rfl (by simp [za3]) (by decide) (by decide)),(3,.gen _ _ _ fun _ _ _ _=>Op.buildD (d:=13) (len:=1) (rows:=[(za2.mk (⟨#[112]⟩:ByteArray) [(⟨#[97]⟩:ByteArray)] (.raw za4))].map za2.d) (rs:=[(12,.t (.agg [.d (.raw (.string (⟨#[112]⟩:ByteArray))),.d (.sl 1 ([(⟨#[97]⟩:ByteArray)].map za3)),.d (.raw za4)]))]) kw_4 (.cons (i:=0) (OV.tmp 12 _) (.nil)) (by kernel_rfl) rfl (by simp [za2.d]) (by decide) (by decide))] [(0,vb false),(1,vp 30 0)] [(30,.box [.d (.sl 1 ([(⟨#[120]⟩:ByteArray)].map za3)),.d (.raw za4),cI 0,.d (.raw za4),cB false,.d (nsl []),cB false,.d (.raw za4),.d (.sl 3 ([(za2.mk (⟨#[112]⟩:ByteArray) [(⟨#[97]⟩:ByteArray)] (.raw za4))].map za2.d)),.d (.raw za4)])] h ?_;clear h;intro a w h
 refine rq za0 31 [(0,.gen _ _ _ fun _ _ _ _=>Op.buildD (d:=15) (len:=1) (rows:=[0].map intD) (rs:=[]) tb_0 (.cons (i:=0) (OV.const (.int .i64 0) rfl) (.nil)) (by kernel_rfl) rfl (by simp [intD]) (by decide) (by decide)),(2,.gen _ _ _ fun _ _ _ _=>Op.buildD (d:=17) (len:=1) (rows:=[(ZI.mk false [])].map ziD) (rs:=[(16,.t (.agg [cB false,.d (nsl [])]))]) kk_3 (.cons (i:=0) (OV.tmp 16 _) (.nil)) (by kernel_rfl) rfl (by simp [ziD]) (by decide) (by decide)),(4,.gen _ _ _ fun _ _ _ _=>Op.buildD (d:=19) (len:=1) (rows:=[(StD.mk [0] [(ZI.mk false [])])].map StD.d) (rs:=[(18,.t (.agg [cIs [0],cZs [(ZI.mk false [])]]))]) kx_3 (.cons (i:=0) (OV.tmp 18 _) (.nil)) (by kernel_rfl) rfl (by simp [StD.d]) (by decide) (by decide)),(5,.gen _ _ _ fun _ _ _ _=>Op.buildD (d:=20) (len:=1) (rows:=[(-1)].map intD) (rs:=[]) tb_0 (.cons (i:=0) (OV.const (.int .i64 (-1)) rfl) (.nil)) (by kernel_rfl) rfl (by simp [intD]) (by decide) (by decide))] [(0,vb false),(1,vp 30 0),(2,vp 31 0)] [(30,.box [.d (.sl 1 ([(⟨#[120]⟩:ByteArray)].map za3)),.d (.raw za4),cI 0,.d (.raw za4),cB false,.d (nsl []),cB false,.d (.raw za4),.d (.sl 3 ([(za2.mk (⟨#[112]⟩:ByteArray) [(⟨#[97]⟩:ByteArray)] (.raw za4))].map za2.d)),.d (.raw za4)]),(31,.box [.d (.raw za4),.d (.sl 2 ([(StD.mk [0] [(ZI.mk false [])])].map StD.d)),cIs [(-1)]])] h ?_;clear h;intro a w h
 refine rq za0 32 [(3,.call (Fn.cast (Fn.argw (PText sysA 2 (⟨#[97,108,108,32,115,116,97,116,101,115]⟩:ByteArray) runA 0 0 sysA_tx (by decide) runA_ok (by decide)) wkA) (congrArg (fun z:List UInt8=>vs ⟨z.toArray⟩) aText)) pn1_5)] [(0,vb false),(3,.t (.c (.d (.raw (.string (⟨#[86,73,79,76,65,84,69,68,10,119,104,121,58,32,97,108,108,32,115,116,97,116,101,115,10,115,116,101,109,58,10,99,121,99,108,101,58,10,32,32,112,64,97,32,120,61,48,32,47,32,115,116,117,116,116,101,114,10]⟩:ByteArray))))))] [] h ?_;clear h;intro a w h
 refine rq za0 32 [(1,.call (Fn.cast (PRead (⟨#[86,73,79,76,65,84,69,68,10,119,104,121,58,32,97,108,108,32,115,116,97,116,101,115,10,115,116,101,109,58,10,99,121,99,108,101,58,10,32,32,112,64,97,32,120,61,48,32,47,32,115,116,117,116,116,101,114,10]⟩:ByteArray) (by decide)) (congrArg (fun z:Int × ByteArray × Int=>V.tup [.c (cI z.1),.c (.d (.raw (.string z.2.1))),.c (cI z.2.2)]) aRead)) pn1_6)] [(0,vb false),(3,.t (.c (.d (.raw (.string (⟨#[86,73,79,76,65,84,69,68,10,119,104,121,58,32,97,108,108,32,115,116,97,116,101,115,10,115,116,101,109,58,10,99,121,99,108,101,58,10,32,32,112,64,97,32,120,61,48,32,47,32,115,116,117,116,116,101,114,10]⟩:ByteArray)))))),(4,vi .i64 2),(5,.t (.c (.d (.raw (.string (⟨#[97,108,108,32,115,116,97,116,101,115]⟩:ByteArray)))))),(6,vi .i64 0)] [] h ?_;clear h;intro a w h
 refine rq za0 32 [(0,.call (Fn.cast (PRead (⟨#[77,65,89,66,69,10,119,104,121,58,32,10]⟩:ByteArray) (by decide)) (congrArg (fun z:Int × ByteArray × Int=>V.tup [.c (cI z.1),.c (.d (.raw (.string z.2.1))),.c (cI z.2.2)]) aRead0)) pn1_6)] [(0,vb false),(3,.t (.c (.d (.raw (.string (⟨#[86,73,79,76,65,84,69,68,10,119,104,121,58,32,97,108,108,32,115,116,97,116,101,115,10,115,116,101,109,58,10,99,121,99,108,101,58,10,32,32,112,64,97,32,120,61,48,32,47,32,115,116,117,116,116,101,114,10]⟩:ByteArray)))))),(4,vi .i64 2),(5,.t (.c (.d (.raw (.string (⟨#[97,108,108,32,115,116,97,116,101,115]⟩:ByteArray)))))),(6,vi .i64 0),(9,vi .i64 20)] [] h ?_;clear h;intro a w h
 refine rq za0 32 [(1,.gen _ _ _ fun _ _ _ _=>Op.strEq (d:=38) (xt:=9) (yt:=9) (s1:=(⟨#[86,73,79,76,65,84,69,68,10,119,104,121,58,32,97,108,108,32,115,116,97,116,101,115,10,115,116,101,109,58,10,99,121,99,108,101,58,10,32,32,112,64,97,32,120,61,48,32,47,32,115,116,117,116,116,101,114,10]⟩:ByteArray)) (s2:=(⟨#[86,73,79,76,65,84,69,68,10,119,104,121,58,32,97,108,108,32,115,116,97,116,101,115,10,115,116,101,109,58,10,99,121,99,108,101,58,10,32,32,112,64,97,32,120,61,48,32,47,32,115,116,117,116,116,101,114,10]⟩:ByteArray)) (r:=true) (OV.tmp 37 _) (OV.const (.string (⟨#[86,73,79,76,65,84,69,68,10,119,104,121,58,32,97,108,108,32,115,116,97,116,101,115,10,115,116,101,109,58,10,99,121,99,108,101,58,10,32,32,112,64,97,32,120,61,48,32,47,32,115,116,117,116,116,101,114,10]⟩:ByteArray)) rfl) (beq_self_eq_true _)),(4,.cmp (op:=.eql) (m:=2) (n:=2) (b:=true) .i64 rfl),(8,.gen _ _ _ fun _ _ _ _=>Op.strEq (d:=45) (xt:=9) (yt:=9) (s1:=(⟨#[97,108,108,32,115,116,97,116,101,115]⟩:ByteArray)) (s2:=(⟨#[97,108,108,32,115,116,97,116,101,115]⟩:ByteArray)) (r:=true) (OV.tmp 44 _) (OV.const (.string (⟨#[97,108,108,32,115,116,97,116,101,115]⟩:ByteArray)) rfl) (beq_self_eq_true _)),(12,.cmp (op:=.eql) (m:=0) (n:=0) (b:=true) .i64 rfl),(16,.cmp (op:=.eql) (m:=20) (n:=20) (b:=true) .i64 rfl),(20,.call (Fn.cast (PWrong (⟨#[109,111,100,101,108]⟩:ByteArray) 1 2 101 (by decide) (by decide) (by decide) (by decide)) (congrArg (fun z:List UInt8=>vs ⟨z.toArray⟩) aWrong)) pn1_7),(21,.gen _ _ _ fun _ _ _ _=>Op.strEq (d:=58) (xt:=9) (yt:=9) (s1:=(⟨#[69,82,82,79,82,10,109,111,100,101,108,32,49,58,50,32,49,48,49,10]⟩:ByteArray)) (s2:=(⟨#[69,82,82,79,82,10,109,111,100,101,108,32,49,58,50,32,49,48,49,10]⟩:ByteArray)) (r:=true) (OV.tmp 57 _) (OV.const (.string (⟨#[69,82,82,79,82,10,109,111,100,101,108,32,49,58,50,32,49,48,49,10]⟩:ByteArray)) rfl) (beq_self_eq_true _)),(24,.call (PLines (⟨#[97,10,10,98]⟩:ByteArray) (by decide)) pm1_1),(25,.len (c:=(.d (.sl 1 ((zb9 (⟨#[97,10,10,98]⟩:ByteArray)).map za3)))) (n:=(zb9 (⟨#[97,10,10,98]⟩:ByteArray)).length) (za8 _ _ _)),(26,.cmp (op:=.eql) (m:=((zb9 (⟨#[97,10,10,98]⟩:ByteArray)).length:Int)) (n:=3) (b:=true) .i64 (show (((zb9 (⟨#[97,10,10,98]⟩:ByteArray)).length:Int) == 3)=true from by rw [aLines];rfl))] [(0,vb true)] [] h ?_;clear h;intro a w h
 refine wp_ret ?_
 refine zb0 [.c (cB true)] h Exit.ret (.inl rfl)  rfl ⟨RV.tmp _ _ rfl,trivial⟩ ?_
 rfl
set_option maxHeartbeats 4000000 in
theorem LSmall (s:zaj) (r:zbw) (_hs:s.acts.length≤9223372036854775807) (hr:RunRd r):Fn Tryd.prog 7 [] [.t (.agg [.d (.sl 1 (s.vars.map za3)),.d (.sl 5 (s.bounds.map za1.d)),cI s.init.kind,cPs s.init.r.t.parts,cB s.init.r.t.k.neg,.d (nsl s.init.r.t.k.abs),cB s.init.r.eq,cFs s.init.kids,.d (.sl 3 (s.procs.map za2.d)),.d (.sl 10 (s.acts.map za6.d))]),.t (.agg [.d (.sl 2 (r.stem.map StD.d)),.d (.sl 2 (r.cycle.map StD.d)),cIs r.acts])] (vb (zbk s r)) []:=by
 have hrl:=hr.len
 have hra:=hr.acts
 refine Fn.body Tryd.func7 rfl 42 rfl fun w H B a h=>?_
 refine rq za0 0 [] [(2,vp 0 0),(3,vp 1 0),(4,vb false)] [(0,.box [.d (.sl 1 (s.vars.map za3)),.d (.sl 5 (s.bounds.map za1.d)),cI s.init.kind,cPs s.init.r.t.parts,cB s.init.r.t.k.neg,.d (nsl s.init.r.t.k.abs),cB s.init.r.eq,cFs s.init.kids,.d (.sl 3 (s.procs.map za2.d)),.d (.sl 10 (s.acts.map za6.d))]),(1,.box [.d (.sl 2 (r.stem.map StD.d)),.d (.sl 2 (r.cycle.map StD.d)),cIs r.acts])] h ?_;clear h;intro a w h
 refine wp_seq ?_
 rcases Bool.eq_false_or_eq_true (decide ((s.acts.length:Int)>100)) with hc | hc
 ·have hc1:=hc;clear hc
  have hc1':=of_decide_eq_true hc1
  refine rq za0 2 [(2,.len (c:=(.d (.sl 10 (s.acts.map za6.d)))) (n:=s.acts.length) (za8 _ _ _)),(3,.cmp (op:=.gtr) (m:=(s.acts.length:Int)) (n:=100) (b:=true) .i64 hc1)] [(3,vp 1 0),(4,vb false),(25,vb true)] [(1,.box [.d (.sl 2 (r.stem.map StD.d)),.d (.sl 2 (r.cycle.map StD.d)),cIs r.acts])] h ?_;clear h;intro a w h
  refine zad true h rfl (fun hc=>?_) (fun hc=>?_)
  ·clear hc
   refine rq za0 2 [] [(3,vp 1 0),(4,vb false)] [(1,.box [.d (.sl 2 (r.stem.map StD.d)),.d (.sl 2 (r.cycle.map StD.d)),cIs r.acts])] h ?_;clear h;intro a w h
   refine wp_ret (zaf ?_)
   refine zb0 [.c (cB false)] h Exit.ret (.inl rfl)  rfl ⟨RV.tmp _ _ rfl,trivial⟩ ?_
   rw [smallW_no (.inl (of_decide_eq_true hc1))];first | done | rfl
  ·cases hc
 ·have hc2:=hc;clear hc
  have hc2':=of_decide_eq_false hc2
  rcases Bool.eq_false_or_eq_true (decide (((r.stem.length:Int)+(r.cycle.length:Int))>10)) with hc | hc
  ·have hc3:=hc;clear hc
   have hc3':=of_decide_eq_true hc3
   refine rq za0 2 [(2,.len (c:=(.d (.sl 10 (s.acts.map za6.d)))) (n:=s.acts.length) (za8 _ _ _)),(3,.cmp (op:=.gtr) (m:=(s.acts.length:Int)) (n:=100) (b:=false) .i64 hc2),(7,.len (c:=(.d (.sl 2 (r.stem.map StD.d)))) (n:=r.stem.length) (za8 _ _ _)),(10,.len (c:=(.d (.sl 2 (r.cycle.map StD.d)))) (n:=r.cycle.length) (za8 _ _ _)),(11,.add .i64 (m:=(r.stem.length:Int)) (n:=(r.cycle.length:Int)) (zam (by omega) (by omega))),(12,.cmp (op:=.gtr) (m:=((r.stem.length:Int)+(r.cycle.length:Int))) (n:=10) (b:=true) .i64 hc3)] [(3,vp 1 0),(4,vb false),(25,vb true)] [(1,.box [.d (.sl 2 (r.stem.map StD.d)),.d (.sl 2 (r.cycle.map StD.d)),cIs r.acts])] h ?_;clear h;intro a w h
   refine zad true h rfl (fun hc=>?_) (fun hc=>?_)
   ·clear hc
    refine rq za0 2 [] [(3,vp 1 0),(4,vb false)] [(1,.box [.d (.sl 2 (r.stem.map StD.d)),.d (.sl 2 (r.cycle.map StD.d)),cIs r.acts])] h ?_;clear h;intro a w h
    refine wp_ret (zaf ?_)
    refine zb0 [.c (cB false)] h Exit.ret (.inl rfl)  rfl ⟨RV.tmp _ _ rfl,trivial⟩ ?_
    rw [smallW_no (.inr (.inl (of_decide_eq_true hc3)))];first | done | rfl
   ·cases hc
  ·have hc4:=hc;clear hc
   have hc4':=of_decide_eq_false hc4
   refine rq za0 2 [(2,.len (c:=(.d (.sl 10 (s.acts.map za6.d)))) (n:=s.acts.length) (za8 _ _ _)),(3,.cmp (op:=.gtr) (m:=(s.acts.length:Int)) (n:=100) (b:=false) .i64 hc2),(7,.len (c:=(.d (.sl 2 (r.stem.map StD.d)))) (n:=r.stem.length) (za8 _ _ _)),(10,.len (c:=(.d (.sl 2 (r.cycle.map StD.d)))) (n:=r.cycle.length) (za8 _ _ _)),(11,.add .i64 (m:=(r.stem.length:Int)) (n:=(r.cycle.length:Int)) (zam (by omega) (by omega))),(12,.cmp (op:=.gtr) (m:=((r.stem.length:Int)+(r.cycle.length:Int))) (n:=10) (b:=false) .i64 hc4),(17,.len (c:=(cIs r.acts)) (n:=r.acts.length) (za8 _ _ _))] [(3,vp 1 0),(4,vb false),(25,vb (decide ((r.acts.length:Int)>30)))] [(1,.box [.d (.sl 2 (r.stem.map StD.d)),.d (.sl 2 (r.cycle.map StD.d)),cIs r.acts])] h ?_;clear h;intro a w h
   refine zad (decide ((r.acts.length:Int)>30)) h rfl (fun hc=>?_) (fun hc=>?_)
   ·have hc5:=hc;clear hc
    have hc5':=of_decide_eq_true hc5
    refine rq za0 2 [] [(3,vp 1 0),(4,vb false)] [(1,.box [.d (.sl 2 (r.stem.map StD.d)),.d (.sl 2 (r.cycle.map StD.d)),cIs r.acts])] h ?_;clear h;intro a w h
    refine wp_ret (zaf ?_)
    refine zb0 [.c (cB false)] h Exit.ret (.inl rfl)  rfl ⟨RV.tmp _ _ rfl,trivial⟩ ?_
    rw [smallW_no (.inr (.inr (of_decide_eq_true hc5)))];first | done | rfl
   ·have hc6:=hc;clear hc
    have hc6':=of_decide_eq_false hc6
    refine wp_skip (za5 (wp_seq (rq za0 2 [] [(3,vp 1 0),(4,vb false),(5,vi .i64 0)] [(1,.box [.d (.sl 2 (r.stem.map StD.d)),.d (.sl 2 (r.cycle.map StD.d)),cIs r.acts])] h ?_)));clear h;intro a w h
    refine wp_block ?_
    refine zch (ι:=(Nat)) (fun (z_:(Nat))=>match z_ with | i=>i≤(r.stem.length+r.cycle.length)∧allN i (fun i=>zbs 4 (zb8 r i))=true)
      (fun (z_:(Nat))=>match z_ with | i=>[(3,vp 1 0),(5,vi .i64 (i:Int))])
      (fun (z_:(Nat))=>match z_ with | i=>[(1,.box [.d (.sl 2 (r.stem.map StD.d)),.d (.sl 2 (r.cycle.map StD.d)),cIs r.acts])])
      (fun (z_:(Nat))=>match z_ with | i=>(r.stem.length+r.cycle.length) - i) 0 ?_ h (by kernel_rfl) (by kernel_rfl) ?_
    ·exact ⟨Nat.zero_le _,rfl⟩
    ·clear h;rintro i a w hI h
     change St _ (F.of [(3,vp 1 0),(5,vi .i64 (i:Int))] [(1,.box [.d (.sl 2 (r.stem.map StD.d)),.d (.sl 2 (r.cycle.map StD.d)),cIs r.acts])]) a w at h
     obtain ⟨hI1,hI2⟩:=hI
     refine wp_seq (rq za0 2 [(3,.len (c:=(.d (.sl 2 (r.stem.map StD.d)))) (n:=r.stem.length) (za8 _ _ _)),(6,.len (c:=(.d (.sl 2 (r.cycle.map StD.d)))) (n:=r.cycle.length) (za8 _ _ _)),(7,.add .i64 (m:=(r.stem.length:Int)) (n:=(r.cycle.length:Int)) (zam (by omega) (by omega)))] [(3,vp 1 0),(5,vi .i64 (i:Int)),(34,vb (decide ((i:Int)<((r.stem.length:Int)+(r.cycle.length:Int)))))] [(1,.box [.d (.sl 2 (r.stem.map StD.d)),.d (.sl 2 (r.cycle.map StD.d)),cIs r.acts])] h ?_);clear h;intro a w h
     refine zad (decide ((i:Int)<((r.stem.length:Int)+(r.cycle.length:Int)))) h rfl (fun hc=>?_) (fun hc=>?_)
     ·have hc7:=hc;clear hc
      have hc7':=of_decide_eq_true hc7
      refine wp_skip (za5 (wp_seq (wp_block ?_)))
      have h10:=of_decide_eq_false hc4
      have h11:=of_decide_eq_true hc7
      refine rq za0 2 [(2,.call (SRAt r (i:Int) i rfl (by omega) (by omega)) ks_2),(3,.call (SFewSt (zb8 r i) 4 (hr.at i)) ky_2)] [(3,vp 1 0),(5,vi .i64 (i:Int)),(41,vb (!(zbs 4 (zb8 r i))))] [(1,.box [.d (.sl 2 (r.stem.map StD.d)),.d (.sl 2 (r.cycle.map StD.d)),cIs r.acts])] h ?_;clear h;intro a w h
      refine zad (!(zbs 4 (zb8 r i))) h rfl (fun hc=>?_) (fun hc=>?_)
      ·have hc8:=hc;clear hc
       have hc8':=hc8;(try simp at hc8')
       refine rq za0 2 [] [(3,vp 1 0),(4,vb false),(5,vi .i64 (i:Int))] [(1,.box [.d (.sl 2 (r.stem.map StD.d)),.d (.sl 2 (r.cycle.map StD.d)),cIs r.acts])] h ?_;clear h;intro a w h
       refine wp_ret (zax (zaf (zaf (zax (zaf ?_)))))
       refine zb0 [.c (cB false)] h Exit.ret (.inl rfl)  rfl ⟨RV.tmp _ _ rfl,trivial⟩ ?_
       rw [smallW_st (i:=i) (by have:=of_decide_eq_true hc7;omega) (show (zbs 4 (zb8 r i))=false from by simpa using hc8)];first | done | rfl
      ·have hc9:=hc;clear hc
       have hc9':=hc9;(try simp at hc9')
       refine wp_skip (zar (za5 (rn za0 2 [(1,.add .i64 (m:=(i:Int)) (n:=1) (zam (by omega) (by omega)))] [(3,vp 1 0),(5,vi .i64 ((i:Int)+1))] [(1,.box [.d (.sl 2 (r.stem.map StD.d)),.d (.sl 2 (r.cycle.map StD.d)),cIs r.acts])] h ?_)));clear h;intro a w h
       refine za5 ?_
       refine zb5 (x:=i) (y:=i+1) h ?_ ?_
       ·have:=of_decide_eq_true hc7
        refine ⟨by omega,zcp.2 fun k hk=>?_⟩
        rcases Nat.lt_or_ge k i with h8 | h8
        ·exact zcp.1 hI2 k h8
        ·rw [show k=i by omega];exact (show (zbs 4 (zb8 r i))=true from by simpa using hc9)
       ·show (r.stem.length+r.cycle.length) - (i+1)<(r.stem.length+r.cycle.length) - i
        have:=of_decide_eq_true hc7;omega
     ·have hc10:=hc;clear hc
      have hc10':=of_decide_eq_false hc10
      refine wp_exit (zap (zap (zae (za5 (rq za0 2 [] [(4,vb true)] [] h ?_)))));clear h;intro a w h
      refine wp_ret ?_
      refine zb0 [.c (cB true)] h Exit.ret (.inl rfl)  rfl ⟨RV.tmp _ _ rfl,trivial⟩ ?_
      rw [smallW_yes (of_decide_eq_false hc2) (of_decide_eq_false hc4) (of_decide_eq_false hc6) (by rw [show r.stem.length+r.cycle.length=i by have:=of_decide_eq_false hc10;omega];exact hI2)];first | done | rfl
section
open Go.WideShapes
section
theorem bk_one {H:Type} (d:DataW H):1≤Rows.uptoBulk d:=by
 cases d with
 | lit l=>cases l <;> simp [Rows.uptoBulk]
 | _=>simp [Rows.uptoBulk]
theorem zbz {H:Type} {d:DataW H} {l:List (DataW H)} (h:d ∈ l):Rows.uptoBulk d≤Rows.uptoBulkAll l:=by
 induction l with
 | nil=>cases h
 | cons x r ih =>
  simp only [Rows.uptoBulkAll]
  cases List.mem_cons.1 h with
  | inl e=>subst e;omega
  | inr e=>have:=ih e;omega
theorem bk_len {H:Type} (l:List (DataW H)):l.length≤Rows.uptoBulkAll l:=by
 induction l with
 | nil=>simp [Rows.uptoBulkAll]
 | cons x r ih=>have:=bk_one x;simp only [Rows.uptoBulkAll,List.length_cons];omega
theorem bk_elems {H:Type} (elems spare:List (DataW H)):Rows.uptoBulkAll elems+1≤Rows.uptoBulk (.slice elems spare):=by
 simp only [Rows.uptoBulk];omega
theorem bk_agg {H:Type} (parts:List (DataW H)):Rows.uptoBulkAll parts≤Rows.uptoBulk (.agg parts):=by
 simp only [Rows.uptoBulk];omega
theorem bk_str {H:Type} (b:ByteArray) (h:Rows.uptoBulk (DataW.lit (H:=H) (.string b.data.toList))≤1048576):b.size≤1048576:=by
 simp only [Rows.uptoBulk] at h
 rw [baL];omega
theorem bk_all {H:Type} {l:List (DataW H)} (hk:Rows.uptoSmall H l=true):Rows.uptoBulkAll l≤1048576:=of_decide_eq_true hk
variable {w:World} {n:Nat} {t:TypeId} {α β:Type} {f:α→List D} {good:α→Prop}
def RepU (w:World) (n:Nat) (t:TypeId) {α:Type} (f:α→List D) (good:α→Prop):Prop :=
  ∀ (H:Type) (enc:TypeId × Value→H) (base:Nat) (spare:Nat→Bool) (held:Bool) (fuel:Nat) (cs:List Value) (x:DataW H × List MemPlace),fuel≤n→DataW.trod enc Tryd.prog w base spare held fuel t cs=some x→Rows.uptoBulk x.1≤1048576→∃ a:α,good a∧zag (DR (all w)) (f a) cs
theorem zc0.u (h:zc0 w n t f good):RepU w n t f good:=fun H enc base spare held fuel cs x hn hx _=>h H enc base spare held fuel cs x hn hx
theorem RepU.mono {m:Nat} (h:RepU w n t f good) (hm:m≤n):RepU w m t f good:=fun H enc base spare held fuel cs x hn hx=>h H enc base spare held fuel cs x (by omega) hx
theorem RepU.map {f':β→List D} {good':β→Prop} (h:RepU w n t f good) (g:α→β) (hf:∀ a,f' (g a)=f a) (hg:∀ a,good a→good' (g a)):RepU w n t f' good':=fun H enc base spare held fuel cs x hn hx hw=>by
 obtain ⟨a,h1,h2⟩:=h H enc base spare held fuel cs x hn hx hw
 exact ⟨g a,hg a h1,by rw [hf];exact h2⟩
theorem rep_strU (hu:Tryd.prog.underlying t=some .string):RepU w n t za3 (fun s=>s.size≤1048576):=fun H enc base spare held fuel cs x hn hx hw=>by
 obtain ⟨v,rfl,rfl,hs⟩:=DataW.trod_string hu hx
 exact ⟨v,bk_str v hw,DR.raw _ rfl,trivial⟩
theorem zbl {e:TypeId} {k:Nat} (hu:Tryd.prog.underlying t=some (.slice e)) (hc:Tryd.prog.cellsOf e=k) (hk:0<k) (hl:∀ a,(f a).length=k) (he:RepU w n e f good):RepU w n t (slD k f) (fun xs=>(xs.length≤maxLen∧xs.length≤1048576)∧∀ x ∈ xs,good x):=fun H enc base spare held fuel cs x hn hx hw=>by
 rcases DataW.trod_slice hu hx with ⟨rfl,_⟩ | ⟨a,len,cap,elems,rest,m,rfl,rfl,rfl,_,h2,h3,h4,h5,_,_⟩
 ·exact ⟨[],⟨⟨Nat.zero_le _,Nat.zero_le _⟩,by simp⟩,DR.nil _ _ _ (fun _=>rfl) (Nat.zero_le _),trivial⟩
 ·rw [hc] at h5
  obtain ⟨xs,hxl,hxs⟩:=listOf (P:=fun i (y:α)=>good y∧∃ cs', w.cells? base (a.add (i*k)) k=some cs'∧zag (DR (all w)) (f y) cs') len fun i hi=>by
   have h6:=h5 i hi
   rw [List.getElem?_eq_getElem (by omega)] at h6
   obtain ⟨cs', g1,g2⟩:=Option.bind_eq_some_iff.1 h6
   obtain ⟨y,g3,g4⟩:=he H enc base spare held m cs' _ (by omega) g2 (Nat.le_trans (zbz (List.mem_map.2 ⟨elems[i],List.getElem_mem _,rfl⟩)) (Nat.le_trans (Nat.le_succ _) (Nat.le_trans (bk_elems _ _) hw)))
   exact ⟨y,g3,cs', g1,g4⟩
  have hb9:=Nat.le_trans (bk_elems _ _) hw
  have hb8:=bk_len (elems.map (·.1))
  rw [List.length_map] at hb8
  refine ⟨xs,⟨⟨by omega,by omega⟩,fun y hy=>?_⟩,?_,trivial⟩
  ·obtain ⟨i,hi⟩:=List.mem_iff_getElem?.1 hy
   exact (hxs i y hi).1
  ·show DR (all w) (.sl k (xs.map f)) _
   rcases Nat.eq_zero_or_pos len with h0 | h0
   ·subst h0
    have:xs=[]:=List.length_eq_zero_iff.1 hxl
    subst this
    exact DR.nil _ _ _ (fun e=>by cases e) h3
   ·have cells:∀ i y,xs[i]?=some y→∀ j,j<k→∃ v d,w.cell? ((a.add (i*k)).add j)=some v∧(f y)[j]?=some d∧DR (all w) d v:=fun i y hy j hj=>by
     obtain ⟨_,cs', g1,g2⟩:=hxs i y hy
     obtain ⟨_,g4,g5⟩:=World.cells?_some g1
     obtain ⟨v,g6,g7⟩:=g2.get j (by rw [hl];exact hj)
     exact ⟨v,_,by rw [g5 j hj];exact g6,List.getElem?_eq_getElem (by rw [hl];exact hj),g7⟩
    obtain ⟨y0,hy0⟩:∃ y,xs[0]?=some y:=⟨_,List.getElem?_eq_getElem (by omega)⟩
    obtain ⟨v0,_,c0,_,_⟩:=cells 0 y0 hy0 0 hk
    obtain ⟨b,o,sp⟩:=a
    have hsp:sp=none:=by
     have:=World.cell?_spot c0
     simpa [Addr.add] using this
    subst hsp
    have c0':w.cell? ⟨b,o,none⟩=some v0:=by simpa [Addr.add_mid] using c0
    obtain ⟨arr,ty,fz,hb,_⟩:=cell_at c0'
    have at_:∀ i y,xs[i]?=some y→∀ j,j<k→∃ v d,arr[o+i*k+j]?=some v∧(f y)[j]?=some d∧DR (all w) d v:=fun i y hy j hj=>by
     obtain ⟨v,d,g1,g2,g3⟩:=cells i y hy j hj
     rw [Addr.add_mid,Addr.add_mid] at g1
     obtain ⟨arr', ty', fz', hb', g4⟩:=cell_at g1
     rw [hb] at hb'
     injection hb' with hb'
     injection hb' with e1
     subst e1
     exact ⟨v,d,g4,g2,g3⟩
    have:=DR.sl (H:=all w) k (xs.map f) b o cap arr ty fz (fun i j=>(arr[o+i*k+j]?).getD v0) (by rw [List.length_map];omega) hb (by rw [List.length_map];omega) h3 (fun i hi=>by rw [List.getElem_map];exact hl _)
     (fun i hi j hj=>by
      have hi':i<xs.length:=by simpa using hi
      obtain ⟨v,d,g1,_,_⟩:=at_ i xs[i] (List.getElem?_eq_getElem hi') j hj
      rw [g1];rfl)
     (fun i hi j hj=>by
      have hi':i<xs.length:=by simpa using hi
      have hj':j<k:=by rw [List.getElem_map,hl] at hj;exact hj
      obtain ⟨v,d,g1,g2,g3⟩:=at_ i xs[i] (List.getElem?_eq_getElem hi') j hj'
      have e1:((xs.map f)[i])[j]?=some d:=by rw [List.getElem_map];exact g2
      rw [List.getElem?_eq_getElem hj] at e1
      injection e1 with e1
      rw [e1,g1];exact g3)
    rwa [List.length_map,hxl] at this
def FsU (w:World) (n:Nat) (fs:List Field) (o k:Nat) {α:Type} (f:α→List D) (good:α→Prop):Prop :=
  ∀ (H:Type) (enc:TypeId × Value→H) (base:Nat) (spare:Nat→Bool) (held:Bool) (cs:List Value),(∀ fl ∈ fs,∃ m x,m≤n∧DataW.trod enc Tryd.prog w base spare held m fl.type ((cs.drop fl.offset).take (Tryd.prog.cellsOf fl.type))=some x∧Rows.uptoBulk x.1≤1048576)→o+k=cs.length→∃ a:α,good a∧zag (DR (all w)) (f a) (cs.drop o)
theorem FsU.nil {o:Nat}:FsU w n [] o 0 (fun _:Unit=>[]) (fun _=>True):=fun H enc base spare held cs _ hl=>⟨(),trivial,by rw [List.drop_of_length_le (by omega)];trivial⟩
theorem FsU.cons {fl:Field} {fs:List Field} {o k0 k1:Nat} {f1:β→List D} {good1:β→Prop} (ho:fl.offset=o) (hc:Tryd.prog.cellsOf fl.type=k0) (h0:RepU w n fl.type f good) (h1:FsU w n fs (o+k0) k1 f1 good1) :
  FsU w n (fl :: fs) o (k0+k1) (fun p:α × β=>f p.1++f1 p.2) (fun p=>good p.1∧good1 p.2):=fun H enc base spare held cs hf hl=>by
 obtain ⟨m,x,hm,hx,hw⟩:=hf fl (by simp)
 rw [ho,hc] at hx
 obtain ⟨a,g1,g2⟩:=h0 H enc base spare held m _ x hm hx hw
 obtain ⟨b,g3,g4⟩:=h1 H enc base spare held cs (fun fl' h'=>hf fl' (by simp [h'])) (by omega)
 refine ⟨(a,b),⟨g1,g3⟩,?_⟩
 have e:cs.drop o=(cs.drop o).take k0++cs.drop (o+k0):=by rw [← List.drop_drop,List.take_append_drop]
 rw [e]
 exact g2.append g4
theorem zbp {k:Nat} {fs:Array Field} (hu:Tryd.prog.underlying t=some (.struct fs)) (hc:Tryd.prog.cellsOf t=k) (h:FsU w n fs.toList 0 k f good):RepU w (n+1) t f good:=fun H enc base spare held fuel cs x hn hx hw=>by
 obtain ⟨xs,m,rfl,rfl,h2,h3,h4⟩:=DataW.trod_struct hu hx
 obtain ⟨a,g1,g2⟩:=h H enc base spare held cs (fun fl hfl=>by
  obtain ⟨i,hi⟩:=List.mem_iff_getElem?.1 hfl
  have hi':fs[i]?=some fl:=by simpa using hi
  have:=h4 i fl hi'
  have hlt:i<xs.length:=by rw [h3];exact (Array.getElem?_eq_some_iff.1 hi').1
  rw [List.getElem?_eq_getElem hlt] at this
  exact ⟨m,_,by omega,this,Nat.le_trans (zbz (List.mem_map.2 ⟨xs[i],List.getElem_mem _,rfl⟩)) (Nat.le_trans (bk_agg _) hw)⟩) (by rw [h2,hc];omega)
 exact ⟨a,g1,by simpa using g2⟩
/-- a struct that came in -/
theorem rep_aggU {fs:Array Field} (hu:Tryd.prog.underlying t=some (.struct fs)) (hr:∀ n,RepU w n t f good) {H:Type} {enc:TypeId × Value→H} {base:Nat} {spare:Nat→Bool} {held:Bool} {r:Reach} {b0:Nat} {v:Value} {d:DataW H} {p:List MemPlace} (hv:Value.okWide Tryd.prog w r b0 t v) (h:DataW.Trod enc Tryd.prog w base spare held t v d p) (hw:Rows.uptoBulk d≤1048576) :
  ∃ (a:α) (cs:List Value),good a∧v = .agg ⟨cs⟩∧zag (DR (all w)) (f a) cs:=by
 obtain ⟨cs,rfl,_⟩:=okWide_struct hu hv
 obtain ⟨fuel,hf⟩:=h
 obtain ⟨a,g1,g2⟩:=hr fuel H enc base spare held fuel _ _ (Nat.le_refl _) hf hw
 exact ⟨a,cs.toList,g1,rfl,g2⟩
end
section
variable {w:World} {n:Nat}
/-- of no great size -/
structure BkOk (s:zaj):Prop where
  vars:s.vars.length≤1048576
  procs:s.procs.length≤1048576
  locs:∀ p ∈ s.procs,p.locs.length≤1048576
  acts:s.acts.length≤1048576
theorem rep_strsU:RepU w n 22 (slD 1 za3) (fun xs=>(xs.length≤maxLen∧xs.length≤1048576)∧∀ x ∈ xs,x.size≤1048576) :=
 zbl (k:=1) Tryd.underlying22 (by kernel_rfl) (by decide) (fun _=>rfl) (rep_strU Tryd.underlying9)
theorem rep_ProcU:RepU w n 65 za2.d (fun p=>p.name.size≤1048576∧p.locs.length≤1048576∧∀ t ∈ p.locs,t.size≤1048576) :=
 ((zbp (n:=n) Tryd.underlying65 (by kernel_rfl) (.cons (k0:=1) rfl (by kernel_rfl) (rep_strU Tryd.underlying9) (.cons (k0:=1) rfl (by kernel_rfl) rep_strsU (.cons (k0:=1) rfl (by kernel_rfl) (rep_raw Tryd.underlying63).u .nil)))).map (fun p=>⟨p.1,p.2.1,p.2.2.1⟩) (fun _=>rfl) fun _ h=>⟨h.1,h.2.1.1.2,h.2.1.2⟩).mono (Nat.le_succ n)
theorem rep_ProcsU:RepU w n 36 (slD 3 za2.d) (fun xs=>(xs.length≤maxLen∧xs.length≤1048576)∧∀ x ∈ xs,x.name.size≤1048576∧x.locs.length≤1048576∧∀ t ∈ x.locs,t.size≤1048576) :=
 zbl (k:=3) Tryd.underlying36 (by kernel_rfl) (by decide) (fun _=>rfl) rep_ProcU
theorem rep_ActsU:RepU w n 37 (slD 10 za6.d) (fun xs=>(xs.length≤maxLen∧xs.length≤1048576)∧∀ x ∈ xs,x.guard.lb∧x.moves.length≤maxLen∧∀ m ∈ x.moves,TLb m.t) :=
 zbl (k:=10) Tryd.underlying37 (by kernel_rfl) (by decide) (fun _=>rfl) rep_Act.u
theorem rep_SysU:RepU w n 39 zaj.d (fun s=>zcy s∧BkOk s) :=
 ((zbp (n:=n) Tryd.underlying39 (by kernel_rfl) (.cons (k0:=1) rfl (by kernel_rfl) rep_strsU (.cons (k0:=1) rfl (by kernel_rfl) rep_Bounds.u (.cons (k0:=6) rfl (by kernel_rfl) rep_Form.u (.cons (k0:=1) rfl (by kernel_rfl) rep_ProcsU (.cons (k0:=1) rfl (by kernel_rfl) rep_ActsU .nil)))))).map (fun p=>⟨p.1,p.2.1,p.2.2.1,p.2.2.2.1,p.2.2.2.2.1⟩) (fun _=>by rw [za9.d_eq];rfl) fun _ h=>⟨⟨h.1.2,fun p hp=>(h.2.2.2.1.2 p hp).1,fun p hp=>(h.2.2.2.1.2 p hp).2.2⟩,⟨h.1.1.2,h.2.2.2.1.1.2,fun p hp=>(h.2.2.2.1.2 p hp).2.1,h.2.2.2.2.1.1.2⟩⟩).mono (Nat.le_succ n)
theorem rep_StatesU:RepU w n 40 (slD 2 StD.d) (fun xs=>(xs.length≤maxLen∧xs.length≤1048576)∧∀ x ∈ xs,StRd x) :=
 zbl (k:=2) Tryd.underlying40 (by kernel_rfl) (by decide) (fun _=>rfl) rep_State.u
theorem rep_intsU:RepU w n 41 (slD 1 intD) (fun xs=>xs.length≤1048576) :=
 (zbl (k:=1) Tryd.underlying41 (by kernel_rfl) (by decide) (fun _=>rfl) (zbi Tryd.underlying3).u).map id (fun _=>rfl) fun _ h=>h.1.2
theorem rep_RunU:RepU w n 43 zbw.d RunRd :=
 ((zbp (n:=n) Tryd.underlying43 (by kernel_rfl) (.cons (k0:=1) rfl (by kernel_rfl) rep_StatesU (.cons (k0:=1) rfl (by kernel_rfl) rep_StatesU (.cons (k0:=1) rfl (by kernel_rfl) rep_intsU .nil)))).map (fun p=>⟨p.1,p.2.1,p.2.2.1⟩) (fun _=>rfl) fun a h=>⟨h.1.2,h.2.1.2,by have h1:=h.1.1.2;have h2:=h.2.1.1.2;show a.1.length+a.2.1.length≤_;omega,by have:=h.2.2.1;show a.2.2.1.length≤_;omega⟩).mono (Nat.le_succ n)
structure PosD where
  ln:Int
  cl:Int
def PosD.d (x:PosD):List D:=[.raw (.int .i64 x.ln),.raw (.int .i64 x.cl)]
def PosRd (p:PosD):Prop:=(-9223372036854775808≤p.ln∧p.ln≤9223372036854775807)∧(-9223372036854775808≤p.cl∧p.cl≤9223372036854775807)
theorem rep_PosU:RepU w n 45 PosD.d PosRd :=
 ((zbp (n:=n) Tryd.underlying45 (by kernel_rfl) (.cons (k0:=1) rfl (by kernel_rfl) (zbi Tryd.underlying3).u (.cons (k0:=1) rfl (by kernel_rfl) (zbi Tryd.underlying3).u .nil))).map (fun p=>⟨p.1,p.2.1⟩) (fun _=>rfl) fun _ h=>⟨h.1,h.2.1⟩).mono (Nat.le_succ n)
end
theorem tabH_of {W : World} {rest : List (String × DataW Unit)} (h : laidMet Tryd.prog (("internal/strconv.uint64pow10", Lib.tabData .u64 Lib.pow10Tab) :: rest) W) : TabH (all W) := by
  have h1 : Lib.TabIs Tryd.prog W "internal/strconv.uint64pow10" .u64 Lib.pow10Tab := Lib.tabIs_of_head (g := 1) (by kernel_rfl) (by kernel_rfl) Tryd.underlying132 Tryd.underlying117 (by kernel_rfl) (by kernel_rfl) h
  unfold Lib.TabIs World.var? at h1
  rw [Tryd.laysM171.m17] at h1
  have h2:(match (W.heap[(1:Nat)]?:Option Obj) with | some (.cells cs _ _)=>some cs | _=>none)=some (Lib.pow10Tab.map fun z=>Value.int .u64 z).toArray:=h1
  split at h2
  · rename_i cs ty fz hb
    injection h2 with h2
    subst h2
    exact ⟨ty,fz,hb⟩
  · cases h2
end
def noNl (t:ByteArray):Bool:=!t.data.toList.any fun c=>c == 10
def nmW (s:zaj) (j:Nat):List ByteArray:=(s.procs.take j).flatMap fun p=>p.name :: p.locs
def zbb (s:zaj) (why:ByteArray):List ByteArray:=(why :: s.vars)++nmW s s.procs.length
theorem nmW_snoc {s:zaj} {j:Nat} {p:za2} (h:s.procs[j]?=some p) (why:ByteArray):(((why :: s.vars)++nmW s j)++[p.name])++p.locs=(why :: s.vars)++nmW s (j+1):=by
 unfold nmW;rw [List.take_add_one,h,List.flatMap_append];simp [List.append_assoc]
theorem nmW_len {s:zaj} (hl:∀ p ∈ s.procs,p.locs.length≤1048576) (j:Nat):(nmW s j).length≤j*1048577:=by
 induction j with
 | zero=>show ([]:List ByteArray).length≤_;exact Nat.zero_le _
 | succ j ih =>
  unfold nmW at ih ⊢
  rw [List.take_add_one,List.flatMap_append,List.length_append,Nat.add_mul,Nat.one_mul]
  refine Nat.add_le_add ih ?_
  cases hp:s.procs[j]? with
  | none=>exact Nat.zero_le _
  | some p=>exact Nat.le_trans (Nat.le_of_eq (by simp)) (Nat.succ_le_succ (hl p (List.mem_of_getElem? hp)))
theorem allW_len {s:zaj} {why:ByteArray} (hb:BkOk s):(zbb s why).length≤2000000000000:=by
 have h1:=nmW_len hb.locs s.procs.length
 have h2:s.procs.length*1048577≤1048576*1048577:=Nat.mul_le_mul_right _ hb.procs
 have h3:=hb.vars
 unfold zbb
 rw [List.length_append,List.length_cons]
 omega
theorem allW_sz {s:zaj} {why:ByteArray} (hz:zcy s) (hw:why.size≤1048576):∀ t ∈ zbb s why,t.size≤1048576:=fun t ht=>by
 unfold zbb nmW at ht
 rw [List.take_length] at ht
 rcases List.mem_append.1 ht with h | h
 ·rcases List.mem_cons.1 h with h | h
  ·rw [h];exact hw
  ·exact hz.vars t h
 ·obtain ⟨p,hp,h⟩:=List.mem_flatMap.1 h
  rcases List.mem_cons.1 h with h | h
  ·rw [h];exact hz.name p hp
  ·exact hz.locs p hp t h
theorem no10 {t:ByteArray} (h:noNl t=true):(10:UInt8) ∉ t.data.toList:=by
 intro hm
 unfold noNl at h
 have:t.data.toList.any (fun c=>c == 10)=true:=List.any_eq_true.2 ⟨10,hm,by decide⟩
 rw [this] at h;cases h
theorem noNl_of {t:ByteArray} (h:∀ c ∈ t.data.toList,c≠10):noNl t=true:=by
 unfold noNl
 rw [Bool.not_eq_true', ← Bool.not_eq_true,List.any_eq_true]
 rintro ⟨c,hc,he⟩
 exact h c hc (by simpa using he)
def NL (l:List UInt8):Prop:=(10:UInt8) ∉ l
theorem NL.app {a b:List UInt8} (h:NL a) (k:NL b):NL (a++b):=fun hm=>(List.mem_append.1 hm).elim h k
theorem decD_nl:∀ u,NL (Lib.decDigits u):=by
 intro u
 induction u using Nat.strongRecOn with
 | _ u ih =>
  have hd:∀ d,d<10→NL [UInt8.ofNat (48+d)]:=fun d hd hm=>by
   have h1:(10:UInt8)=UInt8.ofNat (48+d):=by simpa using hm
   have h2:=congrArg UInt8.toNat h1
   rw [dig8 hd] at h2
   have:(10:UInt8).toNat=10:=rfl
   omega
  by_cases h:u<10
  ·rw [zc6 h];exact hd u h
  ·rw [zck h];exact (ih _ (by omega)).app (hd _ (by omega))
theorem itW_nl (n:Int):NL (itW n).data.toList:=by
 unfold itW Lib.itoa
 split
 ·intro hm
  have hm:(10:UInt8) ∈ _ :: Lib.decDigits n.natAbs:=hm
  rcases List.mem_cons.1 hm with h | h
  ·exact absurd h (by decide)
  ·exact decD_nl _ h
 ·exact decD_nl _
structure NoOk (s:zaj) (why:ByteArray):Prop where
  why:NL why.data.toList
  vars:∀ v ∈ s.vars,NL v.data.toList
  name:∀ p ∈ s.procs,NL p.name.data.toList
  locs:∀ p ∈ s.procs,∀ t ∈ p.locs,NL t.data.toList
theorem no_ok {s:zaj} {why:ByteArray} (h:(zbb s why).all noNl=true):NoOk s why:=by
 have k:∀ t ∈ zbb s why,NL t.data.toList:=fun t ht=>no10 (List.all_eq_true.1 h t ht)
 have kn:∀ p ∈ s.procs,∀ t,t=p.name∨t ∈ p.locs→NL t.data.toList:=fun p hp t ht=>by
  refine k t (List.mem_append_right _ ?_)
  unfold nmW
  rw [List.take_length]
  exact List.mem_flatMap.2 ⟨p,hp,by simpa using ht⟩
 exact ⟨k why (by simp [zbb]),fun v hv=>k v (by simp [zbb,hv]),fun p hp=>kn p hp _ (.inl rfl),fun p hp t ht=>kn p hp t (.inr ht)⟩
theorem plW_nl {s:zaj} {why:ByteArray} (h:NoOk s why) (p l:Int):NL (plW s p l).data.toList:=by
 unfold plW
 cases hp:atI s.procs p with
 | none=>simp only;unfold NL;decide
 | some pr =>
  simp only
  cases hl:atI pr.locs l with
  | none=>simp only [ba_app];exact ((h.name pr (zb4 hp)).app (by unfold NL;decide)).app (by unfold NL;decide)
  | some t=>simp only [ba_app];exact ((h.name pr (zb4 hp)).app (by unfold NL;decide)).app (h.locs pr (zb4 hp) t (zb4 hl))
theorem vaW_nl {s:zaj} {why:ByteArray} (h:NoOk s why) (j:Nat) (v:ZI):NL (vaW s j v).data.toList:=by
 unfold vaW
 rw [ba_app,ba_app]
 refine NL.app (NL.app ?_ (by unfold NL;decide)) (itW_nl _)
 cases hv:s.vars[j]? with
 | none=>unfold NL;decide
 | some t=>exact h.vars t (List.mem_of_getElem? hv)
theorem join_nl {xs:List (List UInt8)} {sep:List UInt8} (h:∀ x ∈ xs,NL x) (hs:NL sep):NL (Lib.join xs sep):=by
 cases xs with
 | nil=>rw [Lib.join_nil];unfold NL;decide
 | cons x r =>
  rw [Lib.join_cons]
  refine (h x (by simp)).app fun hm=>?_
  unfold Lib.joinTail at hm
  obtain ⟨y,hy,hm⟩:=List.mem_flatten.1 hm
  obtain ⟨z,hz,rfl⟩:=List.mem_map.1 hy
  exact (hs.app (h z (by simp [hz]))) hm
theorem stW_nl {s:zaj} {why:ByteArray} (h:NoOk s why) (x:StD):NL (stW s x).data.toList:=by
 show NL (Lib.join _ _)
 refine join_nl (fun t ht=>?_) (by unfold NL;decide)
 obtain ⟨b,hb,rfl⟩:=List.mem_map.1 ht
 rcases List.mem_append.1 hb with hb | hb
 ·obtain ⟨i,_,rfl⟩:=List.mem_map.1 hb;exact plW_nl h _ _
 ·obtain ⟨i,_,rfl⟩:=List.mem_map.1 hb;exact vaW_nl h _ _
theorem actW_nl {s:zaj} {why:ByteArray} (h:NoOk s why) (i:Int):NL (zdd s i).data.toList:=by
 unfold zdd
 cases ha:atI s.acts i with
 | none=>simp only;unfold NL;decide
 | some a =>
  simp only [ba_app]
  refine NL.app (NL.app ?_ (by unfold NL;decide)) (itW_nl _)
  cases hp:atI s.procs a.proc with
  | none=>unfold NL;decide
  | some p=>exact h.name p (zb4 hp)
theorem catW_nl {ts:List ByteArray} (h:∀ t ∈ ts,NL t.data.toList):NL (zak ts):=fun hm=>by
 unfold zak at hm
 obtain ⟨t,ht,hm⟩:=List.mem_flatMap.1 hm
 exact h t ht hm
theorem zbq {ts:List ByteArray} {l:List UInt8} (h:∀ t ∈ ts,NL t.data.toList):zdb (za7 ts++l)=zak ts :: zdb l:=by
 unfold za7
 rw [List.append_assoc]
 exact lnsL_nl (catW_nl h)
theorem lns_st {s:zaj} {why:ByteArray} (h:NoOk s why) (acts:List Int) (i:Nat) (x:StD) (l:List UInt8):zdb (stLn s acts i x++l)=zak [⟨#[32,32]⟩,stW s x,⟨#[32,47,32]⟩,zdd s (acA acts i)] :: zdb l :=
 zbq fun t ht=>by
  rcases List.mem_cons.1 ht with rfl | ht
  ·unfold NL;decide
  ·rcases List.mem_cons.1 ht with rfl | ht
   ·exact stW_nl h x
   ·rcases List.mem_cons.1 ht with rfl | ht
    ·unfold NL;decide
    ·rw [List.mem_singleton.1 ht];exact actW_nl h _
theorem lns_sts {s:zaj} {why:ByteArray} (h:NoOk s why) (acts:List Int) (i:Nat) (xs:List StD):∀ (j:Nat) (l:List UInt8),(zdb (zay s acts i xs j++l)).length=j+(zdb l).length
 | 0,l=>by show (zdb ([]++l)).length=_;rw [List.nil_append];omega
 | j+1,l=>by
  have e:zay s acts i xs (j+1)=zay s acts i xs j++stLn s acts (i+j) ((xs[j]?).getD st0):=by
   unfold zay;rw [List.range_succ,List.flatMap_append];simp
  rw [e,List.append_assoc,lns_sts h acts i xs j,lns_st h]
  simp only [List.length_cons];omega
theorem one_nl {t:ByteArray} (h:NL t.data.toList):∀ u ∈ [t],NL u.data.toList:=fun u hu=>by rw [List.mem_singleton.1 hu];exact h
theorem nameW_nl (v:Int):NL (zab v).data.toList:=by
 unfold zab NL
 split
 ·decide
 ·split
  ·decide
  ·split
   ·decide
   ·decide
theorem lns_head {s:zaj} {v:Int} {why:ByteArray} (h:NoOk s why) (l:List UInt8):zdb (headW v why++l)=(zab v).data.toList :: ([119,104,121,58,32]++why.data.toList) :: zdb l:=by
 unfold headW
 rw [List.nil_append,List.append_assoc,zbq (one_nl (nameW_nl v)),zbq (fun t ht=>by
  rcases List.mem_cons.1 ht with rfl | ht
  ·unfold NL;decide
  ·rw [List.mem_singleton.1 ht];exact h.why)]
 simp [zak]
theorem lns_txt {s:zaj} {v:Int} {why:ByteArray} {r:zbw} (h:NoOk s why):(zb9 ⟨(zbf s v why r).toArray⟩).length=if v=2 then 4+r.stem.length+r.cycle.length else 2:=by
 unfold zb9
 rw [List.length_map,ba_mk]
 unfold zbf
 split
 ·rw [lns_head h]
  unfold runW
  rw [List.append_assoc,zbq (one_nl (by unfold NL;decide)),← List.append_nil (za7 _++zay s r.acts r.stem.length r.cycle r.cycle.length)]
  simp only [List.length_cons]
  rw [lns_sts h,List.append_assoc,zbq (one_nl (by unfold NL;decide))]
  simp only [List.length_cons]
  rw [lns_sts h]
  show r.stem.length+(r.cycle.length+0+1)+1+1+1=_
  omega
 ·have:=lns_head (v:=v) h []
  rw [List.append_nil] at this
  rw [this];rfl
theorem txt_first {s:zaj} {v:Int} {why:ByteArray} {r:zbw} (h:NoOk s why):∃ rest,zb9 ⟨(zbf s v why r).toArray⟩=zab v :: mkB ([119,104,121,58,32]++why.data.toList) :: rest:=by
 have e:∃ l,zbf s v why r=headW v why++l:=by
  unfold zbf
  split
  ·exact ⟨_,rfl⟩
  ·exact ⟨[],(List.append_nil _).symm⟩
 obtain ⟨l,e⟩:=e
 unfold zb9
 rw [ba_mk,e,lns_head h]
 exact ⟨(zdb l).map mkB,by simp only [List.map_cons];rfl⟩
theorem rd_txt {s:zaj} {v:Int} {why:ByteArray} {r:zbw} (h:NoOk s why) (h1:1≤v) (h2:v≤3):rdW ⟨(zbf s v why r).toArray⟩=(v,why,0):=by
 obtain ⟨rest,e⟩:=txt_first (v:=v) (r:=r) h
 have hv:vdW (zab v)=(v,true):=by
  have:=vdW_hit (t:=zab v) (j:=(v - 1).toNat) (by omega) (by rw [show (((v - 1).toNat:Nat):Int)+1=v by omega];exact zbt _)
  rw [this,show (((v - 1).toNat:Nat):Int)+1=v by omega]
 have hp:Lib.hasPrefix ([119,104,121,58,32]++why.data.toList) [119,104,121,58,32]=true:=by unfold Lib.hasPrefix;rw [List.isPrefixOf_iff_prefix];exact List.prefix_append _ _
 rw [zby (a:=zab v) (b:=mkB ([119,104,121,58,32]++why.data.toList)) (by rw [e];rfl) (by rw [e];rfl),hv,if_neg (by simp),if_neg (by show ¬ v=4;omega),if_pos (show pfx (mkB ([119,104,121,58,32]++why.data.toList))=true from hp)]
 have hc:cutP (mkB ([119,104,121,58,32]++why.data.toList)) ⟨#[119,104,121,58,32]⟩=why:=by
  unfold cutP
  show (⟨(Lib.trimPrefix ([119,104,121,58,32]++why.data.toList) [119,104,121,58,32]).toArray⟩:ByteArray)=why
  unfold Lib.trimPrefix
  rw [if_pos hp,show ([119,104,121,58,32]:List UInt8).length=5 from rfl]
  exact Lib.mk_data why
 rw [hc]
theorem lns_wrong {s:zaj} {why:ByteArray} {ln cl e:Int} (h:NoOk s why):zb9 ⟨(zas why ln cl e).toArray⟩=[zab 4,mkB (zak (wrongL why ln cl e))]:=by
 unfold zb9
 rw [ba_mk]
 unfold zas
 rw [List.nil_append,zbq (one_nl (nameW_nl 4)),← List.append_nil (za7 (wrongL why ln cl e)),zbq (fun t ht=>by
  unfold wrongL at ht
  rcases List.mem_cons.1 ht with rfl | ht
  ·exact h.why
  ·rcases List.mem_cons.1 ht with rfl | ht
   ·unfold NL;decide
   ·rcases List.mem_cons.1 ht with rfl | ht
    ·exact itW_nl _
    ·rcases List.mem_cons.1 ht with rfl | ht
     ·unfold NL;decide
     ·rcases List.mem_cons.1 ht with rfl | ht
      ·exact itW_nl _
      ·rcases List.mem_cons.1 ht with rfl | ht
       ·unfold NL;decide
       ·rw [List.mem_singleton.1 ht];exact itW_nl _)]
 rfl
theorem rd_wrong {s:zaj} {why:ByteArray} {ln cl e:Int} (h:NoOk s why):(rdW ⟨(zas why ln cl e).toArray⟩).1=4∧(rdW ⟨(zas why ln cl e).toArray⟩).2.2=0:=by
 have e1:=lns_wrong (ln:=ln) (cl:=cl) (e:=e) h
 rw [zby (a:=zab 4) (b:=mkB (zak (wrongL why ln cl e))) (by rw [e1];rfl) (by rw [e1];rfl),show vdW (zab 4)=(4,true) from vdW_hit (j:=3) (by decide) (zbt _),if_neg (by simp),if_pos rfl]
 exact ⟨rfl,rfl⟩
theorem txt_sz {s:zaj} {v:Int} {why:ByteArray} {r:zbw} (hz:zcy s) (hl:s.acts.length≤1000000) (hr:RnOk r) (hw:why.size≤1048576):(⟨(zbf s v why r).toArray⟩:ByteArray).size≤1000000000:=by
 have h0:=zda v
 obtain ⟨h1,h2⟩:=runW_len hz hl hr
 rw [mkr_sz]
 unfold zbf
 split
 ·unfold runW
  rw [List.length_append,headW_len,List.length_append,List.length_append,List.length_append,zaz,zaz,show (⟨#[115,116,101,109,58]⟩:ByteArray).size=5 from rfl,show (⟨#[99,121,99,108,101,58]⟩:ByteArray).size=6 from rfl];omega
 ·rw [headW_len];omega
theorem wrong_sz {why:ByteArray} {ln cl e:Int} (hw:why.size≤1048576) (hln:-9223372036854775808≤ln∧ln≤9223372036854775807) (hcl:-9223372036854775808≤cl∧cl≤9223372036854775807) (he:-9223372036854775808≤e∧e≤9223372036854775807):(⟨(zas why ln cl e).toArray⟩:ByteArray).size≤1000000000:=by
 have h0:=zda 4
 have l1:=zcv hln.1 hln.2
 have l2:=zcv hcl.1 hcl.2
 have l3:=zcv he.1 he.2
 rw [mkr_sz]
 unfold zas wrongL
 simp only [List.nil_append,List.length_append,zb3,zak,List.flatMap_cons,List.flatMap_nil,List.length_nil,← baL,List.length_cons]
 omega
theorem noNl_end {t:ByteArray} {i:Nat} (h:decide ((i:Int)<(t.size:Int))=false) (hj:∀ m,m<i→∀ c,t.data.toList[m]?=some c→c≠10):noNl t=true:=by
 have h1:=of_decide_eq_false h
 have h2:=baL t
 refine noNl_of fun c hc=>?_
 obtain ⟨m,hm⟩:=List.mem_iff_getElem?.1 hc
 exact hj m (by have:=zat hm;omega) c hm
set_option maxHeartbeats 4000000 in
theorem LReportBack (s:zaj) (v:Int) (why:ByteArray) (r:zbw) (ln cl e:Int) (hz:zcy s) (hs:s.acts.length≤9223372036854775807) (hb:BkOk s) (hr:RunRd r) (hw:why.size≤1048576) (hln:(-9223372036854775808≤ln∧ln≤9223372036854775807)) (hcl:(-9223372036854775808≤cl∧cl≤9223372036854775807)) (he:(-9223372036854775808≤e∧e≤9223372036854775807)):Fn Tryd.prog 5 [] [.t (.agg [.d (.sl 1 (s.vars.map za3)),.d (.sl 5 (s.bounds.map za1.d)),cI s.init.kind,cPs s.init.r.t.parts,cB s.init.r.t.k.neg,.d (nsl s.init.r.t.k.abs),cB s.init.r.eq,cFs s.init.kids,.d (.sl 3 (s.procs.map za2.d)),.d (.sl 10 (s.acts.map za6.d))]),vi .i64 v,.t (.c (.d (.raw (.string why)))),.t (.agg [.d (.sl 2 (r.stem.map StD.d)),.d (.sl 2 (r.cycle.map StD.d)),cIs r.acts]),.t (.agg [cI ln,cI cl]),vi .i64 e] (vb true) []:=by
 have lnv:=hb.vars
 have lnp:=hb.procs
 have lal:=allW_len (why:=why) hb
 refine Fn.body Tryd.func5 rfl 141 rfl fun w H B a h=>?_
 refine rq za0 30 [] [(1,vi .i64 v),(2,.t (.c (.d (.raw (.string why))))),(5,vi .i64 e),(6,vp 30 0),(9,vp 31 0),(10,vp 32 0),(12,vb false)] [(30,.box [.d (.sl 1 (s.vars.map za3)),.d (.sl 5 (s.bounds.map za1.d)),cI s.init.kind,cPs s.init.r.t.parts,cB s.init.r.t.k.neg,.d (nsl s.init.r.t.k.abs),cB s.init.r.eq,cFs s.init.kids,.d (.sl 3 (s.procs.map za2.d)),.d (.sl 10 (s.acts.map za6.d))]),(31,.box [.d (.sl 2 (r.stem.map StD.d)),.d (.sl 2 (r.cycle.map StD.d)),cIs r.acts]),(32,.box [cI ln,cI cl])] h ?_;clear h;intro a w h
 refine wp_seq (rq za0 33 [(0,.call (LAlive26) pn1_12)] [(1,vi .i64 v),(2,.t (.c (.d (.raw (.string why))))),(5,vi .i64 e),(6,vp 30 0),(9,vp 31 0),(10,vp 32 0),(12,vb false),(29,vb false)] [(30,.box [.d (.sl 1 (s.vars.map za3)),.d (.sl 5 (s.bounds.map za1.d)),cI s.init.kind,cPs s.init.r.t.parts,cB s.init.r.t.k.neg,.d (nsl s.init.r.t.k.abs),cB s.init.r.eq,cFs s.init.kids,.d (.sl 3 (s.procs.map za2.d)),.d (.sl 10 (s.acts.map za6.d))]),(31,.box [.d (.sl 2 (r.stem.map StD.d)),.d (.sl 2 (r.cycle.map StD.d)),cIs r.acts]),(32,.box [cI ln,cI cl])] h ?_);clear h;intro a w h
 refine zad false h rfl (fun hc=>?_) (fun hc=>?_)
 ·cases hc
 ·clear hc
  refine wp_skip (za5 (rq za0 33 [(1,.gen _ _ _ fun _ _ _ _=>Op.buildO (d:=31) (n:=33) (len:=1) (rows:=[why].map za3) (rs:=[(30,.t (.c (.d (.raw (.string why)))))]) zcc (.cons (i:=0) (OV.tmp 30 _) (.nil)) (by kernel_rfl) rfl (by simp [za3]) (by decide) (by decide)),(4,.gen _ _ _ fun _ _ _ _=>Op.appOD (d:=34) (t:=31) (u:=33) (n:=33) (n':=34) (len:=1) (len':=([why]++s.vars).length) (rows:=[why].map za3) (rows2:=s.vars.map za3) (rows':=([why]++s.vars).map za3) ph1_3 (by first | exact (List.length_map _).symm | simp) (by first | (rw [List.length_append,List.length_map];done) | (simp;done) | (simp;omega)) (by simp) (by simp [za3]) (by first | omega | (simp at *;done) | (simp at *;omega)))] [(1,vi .i64 v),(2,.t (.c (.d (.raw (.string why))))),(5,vi .i64 e),(6,vp 30 0),(9,vp 31 0),(10,vp 32 0),(12,vb false),(13,.t (.c (.own 34 ([why]++s.vars).length)))] [(30,.box [.d (.sl 1 (s.vars.map za3)),.d (.sl 5 (s.bounds.map za1.d)),cI s.init.kind,cPs s.init.r.t.parts,cB s.init.r.t.k.neg,.d (nsl s.init.r.t.k.abs),cB s.init.r.eq,cFs s.init.kids,.d (.sl 3 (s.procs.map za2.d)),.d (.sl 10 (s.acts.map za6.d))]),(31,.box [.d (.sl 2 (r.stem.map StD.d)),.d (.sl 2 (r.cycle.map StD.d)),cIs r.acts]),(32,.box [cI ln,cI cl]),(34,.row 9 1 (([why]++s.vars).map za3))] h ?_));clear h;intro a w h
  refine wp_seq (rq za0 35 [(2,.len (c:=(.d (.sl 3 (s.procs.map za2.d)))) (n:=s.procs.length) (za8 _ _ _))] [(1,vi .i64 v),(2,.t (.c (.d (.raw (.string why))))),(5,vi .i64 e),(6,vp 30 0),(9,vp 31 0),(10,vp 32 0),(12,vb false),(13,.t (.c (.own 34 ([why]++s.vars).length))),(36,.t (.c (.d (.sl 3 (s.procs.map za2.d))))),(37,vi .i64 (s.procs.length:Int)),(38,vi .i64 0)] [(30,.box [.d (.sl 1 (s.vars.map za3)),.d (.sl 5 (s.bounds.map za1.d)),cI s.init.kind,cPs s.init.r.t.parts,cB s.init.r.t.k.neg,.d (nsl s.init.r.t.k.abs),cB s.init.r.eq,cFs s.init.kids,.d (.sl 3 (s.procs.map za2.d)),.d (.sl 10 (s.acts.map za6.d))]),(31,.box [.d (.sl 2 (r.stem.map StD.d)),.d (.sl 2 (r.cycle.map StD.d)),cIs r.acts]),(32,.box [cI ln,cI cl]),(34,.row 9 1 (([why]++s.vars).map za3))] h ?_);clear h;intro a w h
  refine wp_block ?_
  replace h:=h.conv (f':=F.of [(1,vi .i64 v),(2,.t (.c (.d (.raw (.string why))))),(5,vi .i64 e),(6,vp 30 0),(9,vp 31 0),(10,vp 32 0),(12,vb false),(13,.t (.c (.own 34 ((why :: s.vars)++nmW s 0).length))),(36,.t (.c (.d (.sl 3 (s.procs.map za2.d))))),(37,vi .i64 (s.procs.length:Int)),(38,vi .i64 0)] [(30,.box [.d (.sl 1 (s.vars.map za3)),.d (.sl 5 (s.bounds.map za1.d)),cI s.init.kind,cPs s.init.r.t.parts,cB s.init.r.t.k.neg,.d (nsl s.init.r.t.k.abs),cB s.init.r.eq,cFs s.init.kids,.d (.sl 3 (s.procs.map za2.d)),.d (.sl 10 (s.acts.map za6.d))]),(31,.box [.d (.sl 2 (r.stem.map StD.d)),.d (.sl 2 (r.cycle.map StD.d)),cIs r.acts]),(32,.box [cI ln,cI cl]),(34,.row 9 1 (((why :: s.vars)++nmW s 0).map za3))]) (congrArg (fun (z_:List ByteArray)=>F.of [(1,vi .i64 v),(2,.t (.c (.d (.raw (.string why))))),(5,vi .i64 e),(6,vp 30 0),(9,vp 31 0),(10,vp 32 0),(12,vb false),(13,.t (.c (.own 34 z_.length))),(36,.t (.c (.d (.sl 3 (s.procs.map za2.d))))),(37,vi .i64 (s.procs.length:Int)),(38,vi .i64 0)] [(30,.box [.d (.sl 1 (s.vars.map za3)),.d (.sl 5 (s.bounds.map za1.d)),cI s.init.kind,cPs s.init.r.t.parts,cB s.init.r.t.k.neg,.d (nsl s.init.r.t.k.abs),cB s.init.r.eq,cFs s.init.kids,.d (.sl 3 (s.procs.map za2.d)),.d (.sl 10 (s.acts.map za6.d))]),(31,.box [.d (.sl 2 (r.stem.map StD.d)),.d (.sl 2 (r.cycle.map StD.d)),cIs r.acts]),(32,.box [cI ln,cI cl]),(34,.row 9 1 (z_.map za3))]) (show (([why]++s.vars):List ByteArray)=((why :: s.vars)++nmW s 0) from (by simp [nmW])))
  refine zch (ι:=(Nat)) (fun (z_:(Nat))=>match z_ with | j=>j≤s.procs.length)
    (fun (z_:(Nat))=>match z_ with | j=>[(1,vi .i64 v),(2,.t (.c (.d (.raw (.string why))))),(5,vi .i64 e),(6,vp 30 0),(9,vp 31 0),(10,vp 32 0),(12,vb false),(13,.t (.c (.own 34 ((why :: s.vars)++nmW s j).length))),(36,.t (.c (.d (.sl 3 (s.procs.map za2.d))))),(37,vi .i64 (s.procs.length:Int)),(38,vi .i64 (j:Int))])
    (fun (z_:(Nat))=>match z_ with | j=>[(30,.box [.d (.sl 1 (s.vars.map za3)),.d (.sl 5 (s.bounds.map za1.d)),cI s.init.kind,cPs s.init.r.t.parts,cB s.init.r.t.k.neg,.d (nsl s.init.r.t.k.abs),cB s.init.r.eq,cFs s.init.kids,.d (.sl 3 (s.procs.map za2.d)),.d (.sl 10 (s.acts.map za6.d))]),(31,.box [.d (.sl 2 (r.stem.map StD.d)),.d (.sl 2 (r.cycle.map StD.d)),cIs r.acts]),(32,.box [cI ln,cI cl]),(34,.row 9 1 (((why :: s.vars)++nmW s j).map za3))])
    (fun (z_:(Nat))=>match z_ with | j=>s.procs.length - j) 0 ?_ h (by kernel_rfl) (by kernel_rfl) ?_
  ·exact Nat.zero_le _
  ·clear h;rintro j a w hI h
   change St _ (F.of [(1,vi .i64 v),(2,.t (.c (.d (.raw (.string why))))),(5,vi .i64 e),(6,vp 30 0),(9,vp 31 0),(10,vp 32 0),(12,vb false),(13,.t (.c (.own 34 ((why :: s.vars)++nmW s j).length))),(36,.t (.c (.d (.sl 3 (s.procs.map za2.d))))),(37,vi .i64 (s.procs.length:Int)),(38,vi .i64 (j:Int))] [(30,.box [.d (.sl 1 (s.vars.map za3)),.d (.sl 5 (s.bounds.map za1.d)),cI s.init.kind,cPs s.init.r.t.parts,cB s.init.r.t.k.neg,.d (nsl s.init.r.t.k.abs),cB s.init.r.eq,cFs s.init.kids,.d (.sl 3 (s.procs.map za2.d)),.d (.sl 10 (s.acts.map za6.d))]),(31,.box [.d (.sl 2 (r.stem.map StD.d)),.d (.sl 2 (r.cycle.map StD.d)),cIs r.acts]),(32,.box [cI ln,cI cl]),(34,.row 9 1 (((why :: s.vars)++nmW s j).map za3))]) a w at h
   have lnj:=nmW_len hb.locs j
   have lnp:=hb.procs
   have lnv:=hb.vars
   have lnw:((why :: s.vars)++nmW s j).length=s.vars.length+1+(nmW s j).length:=by rw [List.length_append,List.length_cons]
   have lnm:j*1048577≤1048576*1048577:=Nat.mul_le_mul_right _ (by omega)
   refine rq za0 35 [] [(1,vi .i64 v),(2,.t (.c (.d (.raw (.string why))))),(5,vi .i64 e),(6,vp 30 0),(9,vp 31 0),(10,vp 32 0),(12,vb false),(13,.t (.c (.own 34 ((why :: s.vars)++nmW s j).length))),(36,.t (.c (.d (.sl 3 (s.procs.map za2.d))))),(37,vi .i64 (s.procs.length:Int)),(38,vi .i64 (j:Int)),(39,vb (decide ((j:Int)<(s.procs.length:Int))))] [(30,.box [.d (.sl 1 (s.vars.map za3)),.d (.sl 5 (s.bounds.map za1.d)),cI s.init.kind,cPs s.init.r.t.parts,cB s.init.r.t.k.neg,.d (nsl s.init.r.t.k.abs),cB s.init.r.eq,cFs s.init.kids,.d (.sl 3 (s.procs.map za2.d)),.d (.sl 10 (s.acts.map za6.d))]),(31,.box [.d (.sl 2 (r.stem.map StD.d)),.d (.sl 2 (r.cycle.map StD.d)),cIs r.acts]),(32,.box [cI ln,cI cl]),(34,.row 9 1 (((why :: s.vars)++nmW s j).map za3))] h ?_;clear h;intro a w h
   refine wp_seq ?_
   refine zad (decide ((j:Int)<(s.procs.length:Int))) h rfl (fun hc=>?_) (fun hc=>?_)
   ·have hc1:=hc;clear hc
    have hc1':=of_decide_eq_true hc1
    refine wp_skip (za5 (wp_seq (wp_block ?_)))
    obtain ⟨x2,hx2⟩:∃ z_:za2,s.procs[j]?=some z_:=⟨_,List.getElem?_eq_getElem (by first | omega | (simp at *;omega))⟩
    have llx2:=hb.locs x2 (List.mem_of_getElem? hx2)
    refine rq za0 35 [(0,.gen _ _ _ fun _ _ _ _=>Op.idxD (d:=40) (t:=36) (k:=.i64) kf_5 (zb2 hx2 (f:=za2.d)) (OV.tmp 38 _))] [(1,vi .i64 v),(2,.t (.c (.d (.raw (.string why))))),(5,vi .i64 e),(6,vp 30 0),(9,vp 31 0),(10,vp 32 0),(12,vb false),(13,.t (.c (.own 34 ((why :: s.vars)++nmW s j).length))),(15,vp 35 0),(36,.t (.c (.d (.sl 3 (s.procs.map za2.d))))),(37,vi .i64 (s.procs.length:Int)),(38,vi .i64 (j:Int))] [(30,.box [.d (.sl 1 (s.vars.map za3)),.d (.sl 5 (s.bounds.map za1.d)),cI s.init.kind,cPs s.init.r.t.parts,cB s.init.r.t.k.neg,.d (nsl s.init.r.t.k.abs),cB s.init.r.eq,cFs s.init.kids,.d (.sl 3 (s.procs.map za2.d)),.d (.sl 10 (s.acts.map za6.d))]),(31,.box [.d (.sl 2 (r.stem.map StD.d)),.d (.sl 2 (r.cycle.map StD.d)),cIs r.acts]),(32,.box [cI ln,cI cl]),(34,.row 9 1 (((why :: s.vars)++nmW s j).map za3)),(35,.box [.d (.raw (.string x2.name)),.d (.sl 1 (x2.locs.map za3)),.d x2.cmds])] h ?_;clear h;intro a w h
    refine rn za0 36 [(3,.gen _ _ _ fun _ _ _ _=>Op.buildO (d:=45) (n:=36) (len:=1) (rows:=[x2.name].map za3) (rs:=[(44,.t (.c (.d (.raw (.string x2.name)))))]) zcc (.cons (i:=0) (OV.tmp 44 _) (.nil)) (by kernel_rfl) rfl (by simp [za3]) (by decide) (by decide)),(4,.gen _ _ _ fun _ _ _ _=>Op.appOO (d:=46) (t:=42) (u:=45) (n:=34) (sn:=36) (n':=37) (len:=((why :: s.vars)++nmW s j).length) (len2:=1) (len':=(((why :: s.vars)++nmW s j)++[x2.name]).length) (rows:=((why :: s.vars)++nmW s j).map za3) (rows2:=[x2.name].map za3) (rows':=(((why :: s.vars)++nmW s j)++[x2.name]).map za3) ph1_3 (by first | exact (List.length_map _).symm | simp) (by first | exact (List.length_map _).symm | simp) (by first | (rw [List.length_append,List.length_map];done) | simp) (by simp) (by first | omega | (simp at *;done) | (simp at *;omega))),(7,.gen _ _ _ fun _ _ _ _=>Op.appOD (d:=49) (t:=46) (u:=48) (n:=37) (n':=38) (len:=(((why :: s.vars)++nmW s j)++[x2.name]).length) (len':=((((why :: s.vars)++nmW s j)++[x2.name])++x2.locs).length) (rows:=(((why :: s.vars)++nmW s j)++[x2.name]).map za3) (rows2:=x2.locs.map za3) (rows':=((((why :: s.vars)++nmW s j)++[x2.name])++x2.locs).map za3) ph1_3 (by first | exact (List.length_map _).symm | simp) (by first | (rw [List.length_append,List.length_map];done) | (simp;done) | (simp;omega)) (by simp) (by simp [za3]) (by first | omega | (simp at *;done) | (simp at *;omega)))] [(1,vi .i64 v),(2,.t (.c (.d (.raw (.string why))))),(5,vi .i64 e),(6,vp 30 0),(9,vp 31 0),(10,vp 32 0),(12,vb false),(13,.t (.c (.own 38 ((((why :: s.vars)++nmW s j)++[x2.name])++x2.locs).length))),(36,.t (.c (.d (.sl 3 (s.procs.map za2.d))))),(37,vi .i64 (s.procs.length:Int)),(38,vi .i64 (j:Int))] [(30,.box [.d (.sl 1 (s.vars.map za3)),.d (.sl 5 (s.bounds.map za1.d)),cI s.init.kind,cPs s.init.r.t.parts,cB s.init.r.t.k.neg,.d (nsl s.init.r.t.k.abs),cB s.init.r.eq,cFs s.init.kids,.d (.sl 3 (s.procs.map za2.d)),.d (.sl 10 (s.acts.map za6.d))]),(31,.box [.d (.sl 2 (r.stem.map StD.d)),.d (.sl 2 (r.cycle.map StD.d)),cIs r.acts]),(32,.box [cI ln,cI cl]),(38,.row 9 1 (((((why :: s.vars)++nmW s j)++[x2.name])++x2.locs).map za3))] h ?_;clear h;intro a w h
    refine zar (za5 (rn za0 39 [(0,.add .i64 (m:=(j:Int)) (n:=1) (zam (by omega) (by omega)))] [(1,vi .i64 v),(2,.t (.c (.d (.raw (.string why))))),(5,vi .i64 e),(6,vp 30 0),(9,vp 31 0),(10,vp 32 0),(12,vb false),(13,.t (.c (.own 38 ((((why :: s.vars)++nmW s j)++[x2.name])++x2.locs).length))),(36,.t (.c (.d (.sl 3 (s.procs.map za2.d))))),(37,vi .i64 (s.procs.length:Int)),(38,vi .i64 ((j:Int)+1))] [(30,.box [.d (.sl 1 (s.vars.map za3)),.d (.sl 5 (s.bounds.map za1.d)),cI s.init.kind,cPs s.init.r.t.parts,cB s.init.r.t.k.neg,.d (nsl s.init.r.t.k.abs),cB s.init.r.eq,cFs s.init.kids,.d (.sl 3 (s.procs.map za2.d)),.d (.sl 10 (s.acts.map za6.d))]),(31,.box [.d (.sl 2 (r.stem.map StD.d)),.d (.sl 2 (r.cycle.map StD.d)),cIs r.acts]),(32,.box [cI ln,cI cl]),(38,.row 9 1 (((((why :: s.vars)++nmW s j)++[x2.name])++x2.locs).map za3))] h ?_));clear h;intro a w h
    refine za5 ?_
    replace h:=h.conv (f':=F.of [(1,vi .i64 v),(2,.t (.c (.d (.raw (.string why))))),(5,vi .i64 e),(6,vp 30 0),(9,vp 31 0),(10,vp 32 0),(12,vb false),(13,.t (.c (.own 38 ((why :: s.vars)++nmW s (j+1)).length))),(36,.t (.c (.d (.sl 3 (s.procs.map za2.d))))),(37,vi .i64 (s.procs.length:Int)),(38,vi .i64 ((j:Int)+1))] [(30,.box [.d (.sl 1 (s.vars.map za3)),.d (.sl 5 (s.bounds.map za1.d)),cI s.init.kind,cPs s.init.r.t.parts,cB s.init.r.t.k.neg,.d (nsl s.init.r.t.k.abs),cB s.init.r.eq,cFs s.init.kids,.d (.sl 3 (s.procs.map za2.d)),.d (.sl 10 (s.acts.map za6.d))]),(31,.box [.d (.sl 2 (r.stem.map StD.d)),.d (.sl 2 (r.cycle.map StD.d)),cIs r.acts]),(32,.box [cI ln,cI cl]),(38,.row 9 1 (((why :: s.vars)++nmW s (j+1)).map za3))]) (congrArg (fun (z_:List ByteArray)=>F.of [(1,vi .i64 v),(2,.t (.c (.d (.raw (.string why))))),(5,vi .i64 e),(6,vp 30 0),(9,vp 31 0),(10,vp 32 0),(12,vb false),(13,.t (.c (.own 38 z_.length))),(36,.t (.c (.d (.sl 3 (s.procs.map za2.d))))),(37,vi .i64 (s.procs.length:Int)),(38,vi .i64 ((j:Int)+1))] [(30,.box [.d (.sl 1 (s.vars.map za3)),.d (.sl 5 (s.bounds.map za1.d)),cI s.init.kind,cPs s.init.r.t.parts,cB s.init.r.t.k.neg,.d (nsl s.init.r.t.k.abs),cB s.init.r.eq,cFs s.init.kids,.d (.sl 3 (s.procs.map za2.d)),.d (.sl 10 (s.acts.map za6.d))]),(31,.box [.d (.sl 2 (r.stem.map StD.d)),.d (.sl 2 (r.cycle.map StD.d)),cIs r.acts]),(32,.box [cI ln,cI cl]),(38,.row 9 1 (z_.map za3))]) (show (((((why :: s.vars)++nmW s j)++[x2.name])++x2.locs):List ByteArray)=((why :: s.vars)++nmW s (j+1)) from (nmW_snoc hx2 why)))
    replace h:=renS 38 34 [(1,vi .i64 v),(2,.t (.c (.d (.raw (.string why))))),(5,vi .i64 e),(6,vp 30 0),(9,vp 31 0),(10,vp 32 0),(12,vb false),(13,.t (.c (.own 34 ((why :: s.vars)++nmW s (j+1)).length))),(36,.t (.c (.d (.sl 3 (s.procs.map za2.d))))),(37,vi .i64 (s.procs.length:Int)),(38,vi .i64 ((j:Int)+1))] [(30,.box [.d (.sl 1 (s.vars.map za3)),.d (.sl 5 (s.bounds.map za1.d)),cI s.init.kind,cPs s.init.r.t.parts,cB s.init.r.t.k.neg,.d (nsl s.init.r.t.k.abs),cB s.init.r.eq,cFs s.init.kids,.d (.sl 3 (s.procs.map za2.d)),.d (.sl 10 (s.acts.map za6.d))]),(31,.box [.d (.sl 2 (r.stem.map StD.d)),.d (.sl 2 (r.cycle.map StD.d)),cIs r.acts]),(32,.box [cI ln,cI cl]),(34,.row 9 1 (((why :: s.vars)++nmW s (j+1)).map za3))] h
    refine zb5 (x:=j) (y:=j+1) h ?_ ?_
    ·have:=zat hx2
     show j+1≤s.procs.length
     omega
    ·show s.procs.length - (j+1)<s.procs.length - j
     have:=zat hx2;omega
   ·have hc2:=hc;clear hc
    have hc2':=of_decide_eq_false hc2
    refine wp_exit (zap (zap (zae (za5 (wp_seq ?_)))))
    replace h:=h.conv (f':=F.of [(1,vi .i64 v),(2,.t (.c (.d (.raw (.string why))))),(5,vi .i64 e),(6,vp 30 0),(9,vp 31 0),(10,vp 32 0),(12,vb false),(13,.t (.c (.own 34 (zbb s why).length))),(36,.t (.c (.d (.sl 3 (s.procs.map za2.d))))),(37,vi .i64 (s.procs.length:Int)),(38,vi .i64 (j:Int)),(39,vb (decide ((j:Int)<(s.procs.length:Int))))] [(30,.box [.d (.sl 1 (s.vars.map za3)),.d (.sl 5 (s.bounds.map za1.d)),cI s.init.kind,cPs s.init.r.t.parts,cB s.init.r.t.k.neg,.d (nsl s.init.r.t.k.abs),cB s.init.r.eq,cFs s.init.kids,.d (.sl 3 (s.procs.map za2.d)),.d (.sl 10 (s.acts.map za6.d))]),(31,.box [.d (.sl 2 (r.stem.map StD.d)),.d (.sl 2 (r.cycle.map StD.d)),cIs r.acts]),(32,.box [cI ln,cI cl]),(34,.row 9 1 ((zbb s why).map za3))]) (congrArg (fun (z_:List ByteArray)=>F.of [(1,vi .i64 v),(2,.t (.c (.d (.raw (.string why))))),(5,vi .i64 e),(6,vp 30 0),(9,vp 31 0),(10,vp 32 0),(12,vb false),(13,.t (.c (.own 34 z_.length))),(36,.t (.c (.d (.sl 3 (s.procs.map za2.d))))),(37,vi .i64 (s.procs.length:Int)),(38,vi .i64 (j:Int)),(39,vb (decide ((j:Int)<(s.procs.length:Int))))] [(30,.box [.d (.sl 1 (s.vars.map za3)),.d (.sl 5 (s.bounds.map za1.d)),cI s.init.kind,cPs s.init.r.t.parts,cB s.init.r.t.k.neg,.d (nsl s.init.r.t.k.abs),cB s.init.r.eq,cFs s.init.kids,.d (.sl 3 (s.procs.map za2.d)),.d (.sl 10 (s.acts.map za6.d))]),(31,.box [.d (.sl 2 (r.stem.map StD.d)),.d (.sl 2 (r.cycle.map StD.d)),cIs r.acts]),(32,.box [cI ln,cI cl]),(34,.row 9 1 (z_.map za3))]) (show (((why :: s.vars)++nmW s j):List ByteArray)=(zbb s why) from (by rw [show j=s.procs.length by have:=of_decide_eq_false hc2;omega];rfl)))
    replace h:=pubS 34 1 9 ((zbb s why).map za3) [(1,vi .i64 v),(2,.t (.c (.d (.raw (.string why))))),(5,vi .i64 e),(6,vp 30 0),(9,vp 31 0),(10,vp 32 0),(12,vb false),(13,.t (.c (.d (.sl 1 ((zbb s why).map za3))))),(36,.t (.c (.d (.sl 3 (s.procs.map za2.d))))),(37,vi .i64 (s.procs.length:Int)),(38,vi .i64 (j:Int)),(39,vb (decide ((j:Int)<(s.procs.length:Int))))] [(30,.box [.d (.sl 1 (s.vars.map za3)),.d (.sl 5 (s.bounds.map za1.d)),cI s.init.kind,cPs s.init.r.t.parts,cB s.init.r.t.k.neg,.d (nsl s.init.r.t.k.abs),cB s.init.r.eq,cFs s.init.kids,.d (.sl 3 (s.procs.map za2.d)),.d (.sl 10 (s.acts.map za6.d))]),(31,.box [.d (.sl 2 (r.stem.map StD.d)),.d (.sl 2 (r.cycle.map StD.d)),cIs r.acts]),(32,.box [cI ln,cI cl])] h rfl (show AllEq _ [(zbb s why).length] from ⟨by first | exact (List.length_map _).symm | (simp;done) | (simp;omega),trivial⟩) trivial
    refine rq za0 39 [(1,.len (c:=(.d (.sl 1 ((zbb s why).map za3)))) (n:=(zbb s why).length) (za8 _ _ _))] [(1,vi .i64 v),(2,.t (.c (.d (.raw (.string why))))),(5,vi .i64 e),(6,vp 30 0),(9,vp 31 0),(10,vp 32 0),(12,vb false),(51,.t (.c (.d (.sl 1 ((zbb s why).map za3))))),(52,vi .i64 ((zbb s why).length:Int)),(53,vi .i64 0)] [(30,.box [.d (.sl 1 (s.vars.map za3)),.d (.sl 5 (s.bounds.map za1.d)),cI s.init.kind,cPs s.init.r.t.parts,cB s.init.r.t.k.neg,.d (nsl s.init.r.t.k.abs),cB s.init.r.eq,cFs s.init.kids,.d (.sl 3 (s.procs.map za2.d)),.d (.sl 10 (s.acts.map za6.d))]),(31,.box [.d (.sl 2 (r.stem.map StD.d)),.d (.sl 2 (r.cycle.map StD.d)),cIs r.acts]),(32,.box [cI ln,cI cl])] h ?_;clear h;intro a w h
    refine wp_block ?_
    refine zch (ι:=(Nat)) (fun (z_:(Nat))=>match z_ with | k=>k≤(zbb s why).length∧((zbb s why).take k).all noNl=true)
      (fun (z_:(Nat))=>match z_ with | k=>[(1,vi .i64 v),(2,.t (.c (.d (.raw (.string why))))),(5,vi .i64 e),(6,vp 30 0),(9,vp 31 0),(10,vp 32 0),(51,.t (.c (.d (.sl 1 ((zbb s why).map za3))))),(52,vi .i64 ((zbb s why).length:Int)),(53,vi .i64 (k:Int))])
      (fun (z_:(Nat))=>match z_ with | k=>[(30,.box [.d (.sl 1 (s.vars.map za3)),.d (.sl 5 (s.bounds.map za1.d)),cI s.init.kind,cPs s.init.r.t.parts,cB s.init.r.t.k.neg,.d (nsl s.init.r.t.k.abs),cB s.init.r.eq,cFs s.init.kids,.d (.sl 3 (s.procs.map za2.d)),.d (.sl 10 (s.acts.map za6.d))]),(31,.box [.d (.sl 2 (r.stem.map StD.d)),.d (.sl 2 (r.cycle.map StD.d)),cIs r.acts]),(32,.box [cI ln,cI cl])])
      (fun (z_:(Nat))=>match z_ with | k=>(zbb s why).length - k) 0 ?_ h (by kernel_rfl) (by kernel_rfl) ?_
    ·exact ⟨Nat.zero_le _,rfl⟩
    ·clear h;rintro k a w hI h
     change St _ (F.of [(1,vi .i64 v),(2,.t (.c (.d (.raw (.string why))))),(5,vi .i64 e),(6,vp 30 0),(9,vp 31 0),(10,vp 32 0),(51,.t (.c (.d (.sl 1 ((zbb s why).map za3))))),(52,vi .i64 ((zbb s why).length:Int)),(53,vi .i64 (k:Int))] [(30,.box [.d (.sl 1 (s.vars.map za3)),.d (.sl 5 (s.bounds.map za1.d)),cI s.init.kind,cPs s.init.r.t.parts,cB s.init.r.t.k.neg,.d (nsl s.init.r.t.k.abs),cB s.init.r.eq,cFs s.init.kids,.d (.sl 3 (s.procs.map za2.d)),.d (.sl 10 (s.acts.map za6.d))]),(31,.box [.d (.sl 2 (r.stem.map StD.d)),.d (.sl 2 (r.cycle.map StD.d)),cIs r.acts]),(32,.box [cI ln,cI cl])]) a w at h
     obtain ⟨hI1,hI2⟩:=hI
     refine rq za0 39 [] [(1,vi .i64 v),(2,.t (.c (.d (.raw (.string why))))),(5,vi .i64 e),(6,vp 30 0),(9,vp 31 0),(10,vp 32 0),(51,.t (.c (.d (.sl 1 ((zbb s why).map za3))))),(52,vi .i64 ((zbb s why).length:Int)),(53,vi .i64 (k:Int)),(54,vb (decide ((k:Int)<((zbb s why).length:Int))))] [(30,.box [.d (.sl 1 (s.vars.map za3)),.d (.sl 5 (s.bounds.map za1.d)),cI s.init.kind,cPs s.init.r.t.parts,cB s.init.r.t.k.neg,.d (nsl s.init.r.t.k.abs),cB s.init.r.eq,cFs s.init.kids,.d (.sl 3 (s.procs.map za2.d)),.d (.sl 10 (s.acts.map za6.d))]),(31,.box [.d (.sl 2 (r.stem.map StD.d)),.d (.sl 2 (r.cycle.map StD.d)),cIs r.acts]),(32,.box [cI ln,cI cl])] h ?_;clear h;intro a w h
     refine wp_seq ?_
     refine zad (decide ((k:Int)<((zbb s why).length:Int))) h rfl (fun hc=>?_) (fun hc=>?_)
     ·have hc3:=hc;clear hc
      have hc3':=of_decide_eq_true hc3
      refine wp_skip (za5 (wp_seq (wp_block ?_)))
      obtain ⟨x3,hx3⟩:∃ z_:ByteArray,(zbb s why)[k]?=some z_:=⟨_,List.getElem?_eq_getElem (by first | omega | (simp at *;omega))⟩
      have lzx3:=allW_sz hz hw x3 (List.mem_of_getElem? hx3)
      have lbx3:=baL x3
      refine rq za0 39 [(0,.gen _ _ _ fun _ _ _ _=>Op.idxD (d:=55) (t:=51) (k:=.i64) pa1_4 (zb2 hx3 (f:=za3)) (OV.tmp 53 _))] [(1,vi .i64 v),(2,.t (.c (.d (.raw (.string why))))),(5,vi .i64 e),(6,vp 30 0),(9,vp 31 0),(10,vp 32 0),(17,.t (.c (.d (.raw (.string x3))))),(51,.t (.c (.d (.sl 1 ((zbb s why).map za3))))),(52,vi .i64 ((zbb s why).length:Int)),(53,vi .i64 (k:Int))] [(30,.box [.d (.sl 1 (s.vars.map za3)),.d (.sl 5 (s.bounds.map za1.d)),cI s.init.kind,cPs s.init.r.t.parts,cB s.init.r.t.k.neg,.d (nsl s.init.r.t.k.abs),cB s.init.r.eq,cFs s.init.kids,.d (.sl 3 (s.procs.map za2.d)),.d (.sl 10 (s.acts.map za6.d))]),(31,.box [.d (.sl 2 (r.stem.map StD.d)),.d (.sl 2 (r.cycle.map StD.d)),cIs r.acts]),(32,.box [cI ln,cI cl])] h ?_;clear h;intro a w h
      refine rq za0 39 [] [(1,vi .i64 v),(2,.t (.c (.d (.raw (.string why))))),(5,vi .i64 e),(6,vp 30 0),(9,vp 31 0),(10,vp 32 0),(17,.t (.c (.d (.raw (.string x3))))),(18,vi .i64 0),(51,.t (.c (.d (.sl 1 ((zbb s why).map za3))))),(52,vi .i64 ((zbb s why).length:Int)),(53,vi .i64 (k:Int))] [(30,.box [.d (.sl 1 (s.vars.map za3)),.d (.sl 5 (s.bounds.map za1.d)),cI s.init.kind,cPs s.init.r.t.parts,cB s.init.r.t.k.neg,.d (nsl s.init.r.t.k.abs),cB s.init.r.eq,cFs s.init.kids,.d (.sl 3 (s.procs.map za2.d)),.d (.sl 10 (s.acts.map za6.d))]),(31,.box [.d (.sl 2 (r.stem.map StD.d)),.d (.sl 2 (r.cycle.map StD.d)),cIs r.acts]),(32,.box [cI ln,cI cl])] h ?_;clear h;intro a w h
      refine wp_block ?_
      refine zch (ι:=(Nat)) (fun (z_:(Nat))=>match z_ with | i=>i≤x3.data.toList.length∧∀ m,m<i→∀ c,x3.data.toList[m]?=some c→c≠10)
        (fun (z_:(Nat))=>match z_ with | i=>[(1,vi .i64 v),(2,.t (.c (.d (.raw (.string why))))),(5,vi .i64 e),(6,vp 30 0),(9,vp 31 0),(10,vp 32 0),(17,.t (.c (.d (.raw (.string x3))))),(18,vi .i64 (i:Int)),(51,.t (.c (.d (.sl 1 ((zbb s why).map za3))))),(52,vi .i64 ((zbb s why).length:Int)),(53,vi .i64 (k:Int))])
        (fun (z_:(Nat))=>match z_ with | i=>[(30,.box [.d (.sl 1 (s.vars.map za3)),.d (.sl 5 (s.bounds.map za1.d)),cI s.init.kind,cPs s.init.r.t.parts,cB s.init.r.t.k.neg,.d (nsl s.init.r.t.k.abs),cB s.init.r.eq,cFs s.init.kids,.d (.sl 3 (s.procs.map za2.d)),.d (.sl 10 (s.acts.map za6.d))]),(31,.box [.d (.sl 2 (r.stem.map StD.d)),.d (.sl 2 (r.cycle.map StD.d)),cIs r.acts]),(32,.box [cI ln,cI cl])])
        (fun (z_:(Nat))=>match z_ with | i=>x3.data.toList.length - i) 0 ?_ h (by kernel_rfl) (by kernel_rfl) ?_
      ·exact ⟨Nat.zero_le _,fun m hm=>absurd hm (Nat.not_lt_zero _)⟩
      ·clear h;rintro i a w hI h
       change St _ (F.of [(1,vi .i64 v),(2,.t (.c (.d (.raw (.string why))))),(5,vi .i64 e),(6,vp 30 0),(9,vp 31 0),(10,vp 32 0),(17,.t (.c (.d (.raw (.string x3))))),(18,vi .i64 (i:Int)),(51,.t (.c (.d (.sl 1 ((zbb s why).map za3))))),(52,vi .i64 ((zbb s why).length:Int)),(53,vi .i64 (k:Int))] [(30,.box [.d (.sl 1 (s.vars.map za3)),.d (.sl 5 (s.bounds.map za1.d)),cI s.init.kind,cPs s.init.r.t.parts,cB s.init.r.t.k.neg,.d (nsl s.init.r.t.k.abs),cB s.init.r.eq,cFs s.init.kids,.d (.sl 3 (s.procs.map za2.d)),.d (.sl 10 (s.acts.map za6.d))]),(31,.box [.d (.sl 2 (r.stem.map StD.d)),.d (.sl 2 (r.cycle.map StD.d)),cIs r.acts]),(32,.box [cI ln,cI cl])]) a w at h
       obtain ⟨hJ1,hJ2⟩:=hI
       refine wp_seq (rq za0 39 [] [(1,vi .i64 v),(2,.t (.c (.d (.raw (.string why))))),(5,vi .i64 e),(6,vp 30 0),(9,vp 31 0),(10,vp 32 0),(17,.t (.c (.d (.raw (.string x3))))),(18,vi .i64 (i:Int)),(51,.t (.c (.d (.sl 1 ((zbb s why).map za3))))),(52,vi .i64 ((zbb s why).length:Int)),(53,vi .i64 (k:Int)),(60,vb (decide ((i:Int)<(x3.size:Int))))] [(30,.box [.d (.sl 1 (s.vars.map za3)),.d (.sl 5 (s.bounds.map za1.d)),cI s.init.kind,cPs s.init.r.t.parts,cB s.init.r.t.k.neg,.d (nsl s.init.r.t.k.abs),cB s.init.r.eq,cFs s.init.kids,.d (.sl 3 (s.procs.map za2.d)),.d (.sl 10 (s.acts.map za6.d))]),(31,.box [.d (.sl 2 (r.stem.map StD.d)),.d (.sl 2 (r.cycle.map StD.d)),cIs r.acts]),(32,.box [cI ln,cI cl])] h ?_);clear h;intro a w h
       refine zad (decide ((i:Int)<(x3.size:Int))) h rfl (fun hc=>?_) (fun hc=>?_)
       ·have hc4:=hc;clear hc
        have hc4':=of_decide_eq_true hc4
        refine wp_skip (za5 (wp_seq (wp_block ?_)))
        obtain ⟨c,hc0⟩:∃ c,x3.data.toList[i]?=some c:=⟨_,List.getElem?_eq_getElem (by rw [← baL];omega)⟩
        refine rq za0 39 [(2,.gen _ _ _ fun _ _ _ _=>Op.strIdx (d:=65) (xt:=9) (s:=x3) (i:=i) (c:=c) (k:=.i64) Tryd.underlying9 (OV.tmp 63 _) (OV.tmp 64 _) hc0)] [(1,vi .i64 v),(2,.t (.c (.d (.raw (.string why))))),(5,vi .i64 e),(6,vp 30 0),(9,vp 31 0),(10,vp 32 0),(17,.t (.c (.d (.raw (.string x3))))),(18,vi .i64 (i:Int)),(51,.t (.c (.d (.sl 1 ((zbb s why).map za3))))),(52,vi .i64 ((zbb s why).length:Int)),(53,vi .i64 (k:Int)),(66,vb ((c.toNat:Int) == 10))] [(30,.box [.d (.sl 1 (s.vars.map za3)),.d (.sl 5 (s.bounds.map za1.d)),cI s.init.kind,cPs s.init.r.t.parts,cB s.init.r.t.k.neg,.d (nsl s.init.r.t.k.abs),cB s.init.r.eq,cFs s.init.kids,.d (.sl 3 (s.procs.map za2.d)),.d (.sl 10 (s.acts.map za6.d))]),(31,.box [.d (.sl 2 (r.stem.map StD.d)),.d (.sl 2 (r.cycle.map StD.d)),cIs r.acts]),(32,.box [cI ln,cI cl])] h ?_;clear h;intro a w h
        refine zad ((c.toNat:Int) == 10) h rfl (fun hc=>?_) (fun hc=>?_)
        ·have hc5:=hc;clear hc
         have hc5':=hc5;(try simp at hc5')
         refine rq za0 39 [] [(1,vi .i64 v),(2,.t (.c (.d (.raw (.string why))))),(5,vi .i64 e),(6,vp 30 0),(9,vp 31 0),(10,vp 32 0),(12,vb true),(17,.t (.c (.d (.raw (.string x3))))),(18,vi .i64 (i:Int)),(51,.t (.c (.d (.sl 1 ((zbb s why).map za3))))),(52,vi .i64 ((zbb s why).length:Int)),(53,vi .i64 (k:Int))] [(30,.box [.d (.sl 1 (s.vars.map za3)),.d (.sl 5 (s.bounds.map za1.d)),cI s.init.kind,cPs s.init.r.t.parts,cB s.init.r.t.k.neg,.d (nsl s.init.r.t.k.abs),cB s.init.r.eq,cFs s.init.kids,.d (.sl 3 (s.procs.map za2.d)),.d (.sl 10 (s.acts.map za6.d))]),(31,.box [.d (.sl 2 (r.stem.map StD.d)),.d (.sl 2 (r.cycle.map StD.d)),cIs r.acts]),(32,.box [cI ln,cI cl])] h ?_;clear h;intro a w h
         refine wp_ret (zax (zaf (zaf (zax (zax (zaf (zaf (zax (zaf ?_)))))))))
         refine zb0 [.c (cB true)] h Exit.ret (.inl rfl)  rfl ⟨RV.tmp _ _ rfl,trivial⟩ ?_
         rfl
        ·have hc6:=hc;clear hc
         have hc6':=hc6;(try simp at hc6')
         refine wp_skip (zar (za5 (rn za0 39 [(1,.add .i64 (m:=(i:Int)) (n:=1) (zam (by omega) (by omega)))] [(1,vi .i64 v),(2,.t (.c (.d (.raw (.string why))))),(5,vi .i64 e),(6,vp 30 0),(9,vp 31 0),(10,vp 32 0),(17,.t (.c (.d (.raw (.string x3))))),(18,vi .i64 ((i:Int)+1)),(51,.t (.c (.d (.sl 1 ((zbb s why).map za3))))),(52,vi .i64 ((zbb s why).length:Int)),(53,vi .i64 (k:Int))] [(30,.box [.d (.sl 1 (s.vars.map za3)),.d (.sl 5 (s.bounds.map za1.d)),cI s.init.kind,cPs s.init.r.t.parts,cB s.init.r.t.k.neg,.d (nsl s.init.r.t.k.abs),cB s.init.r.eq,cFs s.init.kids,.d (.sl 3 (s.procs.map za2.d)),.d (.sl 10 (s.acts.map za6.d))]),(31,.box [.d (.sl 2 (r.stem.map StD.d)),.d (.sl 2 (r.cycle.map StD.d)),cIs r.acts]),(32,.box [cI ln,cI cl])] h ?_)));clear h;intro a w h
         refine za5 ?_
         refine zb5 (x:=i) (y:=i+1) h ?_ ?_
         ·have hil:=zat hc0
          refine ⟨by omega,fun m hm c9 hc9=>?_⟩
          rcases Nat.lt_or_ge m i with h8 | h8
          ·exact hJ2 m h8 c9 hc9
          ·rw [show m=i by omega,hc0] at hc9;injection hc9 with hc9;subst hc9;exact nl_no hc6
         ·show x3.data.toList.length - (i+1)<x3.data.toList.length - i
          have:=zat hc0;omega
       ·have hc7:=hc;clear hc
        have hc7':=of_decide_eq_false hc7
        refine wp_exit (zap (zap (zae (zar (za5 (rn za0 39 [(0,.add .i64 (m:=(k:Int)) (n:=1) (zam (by omega) (by omega)))] [(1,vi .i64 v),(2,.t (.c (.d (.raw (.string why))))),(5,vi .i64 e),(6,vp 30 0),(9,vp 31 0),(10,vp 32 0),(51,.t (.c (.d (.sl 1 ((zbb s why).map za3))))),(52,vi .i64 ((zbb s why).length:Int)),(53,vi .i64 ((k:Int)+1))] [(30,.box [.d (.sl 1 (s.vars.map za3)),.d (.sl 5 (s.bounds.map za1.d)),cI s.init.kind,cPs s.init.r.t.parts,cB s.init.r.t.k.neg,.d (nsl s.init.r.t.k.abs),cB s.init.r.eq,cFs s.init.kids,.d (.sl 3 (s.procs.map za2.d)),.d (.sl 10 (s.acts.map za6.d))]),(31,.box [.d (.sl 2 (r.stem.map StD.d)),.d (.sl 2 (r.cycle.map StD.d)),cIs r.acts]),(32,.box [cI ln,cI cl])] h ?_))))));clear h;intro a w h
        refine za5 ?_
        refine zb5 (x:=k) (y:=k+1) h ?_ ?_
        ·have:=zat hx3
         refine ⟨by omega,?_⟩
         exact all_step hx3 hI2 (noNl_end hc7 hJ2)
        ·show (zbb s why).length - (k+1)<(zbb s why).length - k
         have:=zat hx3;omega
     ·have hc8:=hc;clear hc
      have hc8':=of_decide_eq_false hc8
      refine wp_exit (zap (zap (zae (za5 (wp_seq ?_)))))
      have hno:=no_ok (s:=s) (why:=why) (by rwa [List.take_of_length_le (by have:=of_decide_eq_false hc8;omega)] at hI2)
      refine rq za0 39 [(2,.call (LSmall s r hs hr) pn1_13)] [(1,vi .i64 v),(2,.t (.c (.d (.raw (.string why))))),(5,vi .i64 e),(6,vp 30 0),(9,vp 31 0),(10,vp 32 0),(71,vb (!(zbk s r)))] [(30,.box [.d (.sl 1 (s.vars.map za3)),.d (.sl 5 (s.bounds.map za1.d)),cI s.init.kind,cPs s.init.r.t.parts,cB s.init.r.t.k.neg,.d (nsl s.init.r.t.k.abs),cB s.init.r.eq,cFs s.init.kids,.d (.sl 3 (s.procs.map za2.d)),.d (.sl 10 (s.acts.map za6.d))]),(31,.box [.d (.sl 2 (r.stem.map StD.d)),.d (.sl 2 (r.cycle.map StD.d)),cIs r.acts]),(32,.box [cI ln,cI cl])] h ?_;clear h;intro a w h
      refine zad (!(zbk s r)) h rfl (fun hc=>?_) (fun hc=>?_)
      ·have hc9:=hc;clear hc
       have hc9':=hc9;(try simp at hc9')
       refine rq za0 39 [] [(1,vi .i64 v),(2,.t (.c (.d (.raw (.string why))))),(5,vi .i64 e),(6,vp 30 0),(9,vp 31 0),(10,vp 32 0),(12,vb true)] [(30,.box [.d (.sl 1 (s.vars.map za3)),.d (.sl 5 (s.bounds.map za1.d)),cI s.init.kind,cPs s.init.r.t.parts,cB s.init.r.t.k.neg,.d (nsl s.init.r.t.k.abs),cB s.init.r.eq,cFs s.init.kids,.d (.sl 3 (s.procs.map za2.d)),.d (.sl 10 (s.acts.map za6.d))]),(31,.box [.d (.sl 2 (r.stem.map StD.d)),.d (.sl 2 (r.cycle.map StD.d)),cIs r.acts]),(32,.box [cI ln,cI cl])] h ?_;clear h;intro a w h
       refine wp_ret (zaf ?_)
       refine zb0 [.c (cB true)] h Exit.ret (.inl rfl)  rfl ⟨RV.tmp _ _ rfl,trivial⟩ ?_
       rfl
      ·have hc10:=hc;clear hc
       have hc10':=hc10;(try simp at hc10')
       refine wp_skip (za5 ?_)
       obtain ⟨hro,hao⟩:=small_ok (show (zbk s r)=true from by simpa using hc10) hr
       have lwz:=wrong_sz hw hln hcl he
       have ltz:=txt_sz (v:=v) hz hao hro hw
       have hrw:=rd_wrong (ln:=ln) (cl:=cl) (e:=e) hno
       have hrl:=hro.len
       refine rq za0 39 [(3,.call (PWrong why ln cl e hw hln hcl he) pn1_7)] [(1,vi .i64 v),(2,.t (.c (.d (.raw (.string why))))),(6,vp 30 0),(9,vp 31 0),(19,.t (.c (.d (.raw (.string (⟨(zas why ln cl e).toArray⟩:ByteArray))))))] [(30,.box [.d (.sl 1 (s.vars.map za3)),.d (.sl 5 (s.bounds.map za1.d)),cI s.init.kind,cPs s.init.r.t.parts,cB s.init.r.t.k.neg,.d (nsl s.init.r.t.k.abs),cB s.init.r.eq,cFs s.init.kids,.d (.sl 3 (s.procs.map za2.d)),.d (.sl 10 (s.acts.map za6.d))]),(31,.box [.d (.sl 2 (r.stem.map StD.d)),.d (.sl 2 (r.cycle.map StD.d)),cIs r.acts])] h ?_;clear h;intro a w h
       refine rq za0 39 [(1,.call (Fn.cast (PRead (⟨(zas why ln cl e).toArray⟩:ByteArray) (by omega)) (show _=V.tup [.c (cI 4),.c (.d (.raw (.string (rdW (⟨(zas why ln cl e).toArray⟩:ByteArray)).2.1))),.c (cI 0)] from by rw [hrw.1,hrw.2])) pn1_6)] [(1,vi .i64 v),(2,.t (.c (.d (.raw (.string why))))),(6,vp 30 0),(9,vp 31 0),(19,.t (.c (.d (.raw (.string (⟨(zas why ln cl e).toArray⟩:ByteArray)))))),(20,vi .i64 4),(22,vi .i64 0)] [(30,.box [.d (.sl 1 (s.vars.map za3)),.d (.sl 5 (s.bounds.map za1.d)),cI s.init.kind,cPs s.init.r.t.parts,cB s.init.r.t.k.neg,.d (nsl s.init.r.t.k.abs),cB s.init.r.eq,cFs s.init.kids,.d (.sl 3 (s.procs.map za2.d)),.d (.sl 10 (s.acts.map za6.d))]),(31,.box [.d (.sl 2 (r.stem.map StD.d)),.d (.sl 2 (r.cycle.map StD.d)),cIs r.acts])] h ?_;clear h;intro a w h
       refine wp_seq (rq za0 39 [(1,.cmp (op:=.neq) (m:=4) (n:=4) (b:=false) .i64 rfl),(4,.cmp (op:=.neq) (m:=0) (n:=0) (b:=false) .i64 rfl),(8,.call (PLines (⟨(zas why ln cl e).toArray⟩:ByteArray) (by omega)) pm1_1),(9,.len (c:=(.d (.sl 1 ((zb9 (⟨(zas why ln cl e).toArray⟩:ByteArray)).map za3)))) (n:=(zb9 (⟨(zas why ln cl e).toArray⟩:ByteArray)).length) (za8 _ _ _)),(10,.cmp (op:=.neq) (m:=((zb9 (⟨(zas why ln cl e).toArray⟩:ByteArray)).length:Int)) (n:=2) (b:=false) .i64 (show (((zb9 (⟨(zas why ln cl e).toArray⟩:ByteArray)).length:Int) != 2)=false from by rw [lns_wrong hno];rfl))] [(1,vi .i64 v),(2,.t (.c (.d (.raw (.string why))))),(6,vp 30 0),(9,vp 31 0),(93,vb false)] [(30,.box [.d (.sl 1 (s.vars.map za3)),.d (.sl 5 (s.bounds.map za1.d)),cI s.init.kind,cPs s.init.r.t.parts,cB s.init.r.t.k.neg,.d (nsl s.init.r.t.k.abs),cB s.init.r.eq,cFs s.init.kids,.d (.sl 3 (s.procs.map za2.d)),.d (.sl 10 (s.acts.map za6.d))]),(31,.box [.d (.sl 2 (r.stem.map StD.d)),.d (.sl 2 (r.cycle.map StD.d)),cIs r.acts])] h ?_);clear h;intro a w h
       refine zad false h rfl (fun hc=>?_) (fun hc=>?_)
       ·cases hc
       ·clear hc
        refine wp_skip (za5 (wp_seq ?_))
        rcases Bool.eq_false_or_eq_true (decide (v<1)) with hc | hc
        ·have hc11:=hc;clear hc
         have hc11':=of_decide_eq_true hc11
         refine rq za0 39 [(1,.cmp (op:=.lss) (m:=v) (n:=1) (b:=true) .i64 hc11)] [(1,vi .i64 v),(2,.t (.c (.d (.raw (.string why))))),(6,vp 30 0),(9,vp 31 0),(99,vb true)] [(30,.box [.d (.sl 1 (s.vars.map za3)),.d (.sl 5 (s.bounds.map za1.d)),cI s.init.kind,cPs s.init.r.t.parts,cB s.init.r.t.k.neg,.d (nsl s.init.r.t.k.abs),cB s.init.r.eq,cFs s.init.kids,.d (.sl 3 (s.procs.map za2.d)),.d (.sl 10 (s.acts.map za6.d))]),(31,.box [.d (.sl 2 (r.stem.map StD.d)),.d (.sl 2 (r.cycle.map StD.d)),cIs r.acts])] h ?_;clear h;intro a w h
         refine zad true h rfl (fun hc=>?_) (fun hc=>?_)
         ·clear hc
          refine rq za0 39 [] [(1,vi .i64 v),(2,.t (.c (.d (.raw (.string why))))),(6,vp 30 0),(9,vp 31 0),(12,vb true)] [(30,.box [.d (.sl 1 (s.vars.map za3)),.d (.sl 5 (s.bounds.map za1.d)),cI s.init.kind,cPs s.init.r.t.parts,cB s.init.r.t.k.neg,.d (nsl s.init.r.t.k.abs),cB s.init.r.eq,cFs s.init.kids,.d (.sl 3 (s.procs.map za2.d)),.d (.sl 10 (s.acts.map za6.d))]),(31,.box [.d (.sl 2 (r.stem.map StD.d)),.d (.sl 2 (r.cycle.map StD.d)),cIs r.acts])] h ?_;clear h;intro a w h
          refine wp_ret (zaf ?_)
          refine zb0 [.c (cB true)] h Exit.ret (.inl rfl)  rfl ⟨RV.tmp _ _ rfl,trivial⟩ ?_
          rfl
         ·cases hc
        ·have hc12:=hc;clear hc
         have hc12':=of_decide_eq_false hc12
         refine rq za0 39 [(1,.cmp (op:=.lss) (m:=v) (n:=1) (b:=false) .i64 hc12)] [(1,vi .i64 v),(2,.t (.c (.d (.raw (.string why))))),(6,vp 30 0),(9,vp 31 0),(99,vb (decide (v>3)))] [(30,.box [.d (.sl 1 (s.vars.map za3)),.d (.sl 5 (s.bounds.map za1.d)),cI s.init.kind,cPs s.init.r.t.parts,cB s.init.r.t.k.neg,.d (nsl s.init.r.t.k.abs),cB s.init.r.eq,cFs s.init.kids,.d (.sl 3 (s.procs.map za2.d)),.d (.sl 10 (s.acts.map za6.d))]),(31,.box [.d (.sl 2 (r.stem.map StD.d)),.d (.sl 2 (r.cycle.map StD.d)),cIs r.acts])] h ?_;clear h;intro a w h
         refine zad (decide (v>3)) h rfl (fun hc=>?_) (fun hc=>?_)
         ·have hc13:=hc;clear hc
          have hc13':=of_decide_eq_true hc13
          refine rq za0 39 [] [(1,vi .i64 v),(2,.t (.c (.d (.raw (.string why))))),(6,vp 30 0),(9,vp 31 0),(12,vb true)] [(30,.box [.d (.sl 1 (s.vars.map za3)),.d (.sl 5 (s.bounds.map za1.d)),cI s.init.kind,cPs s.init.r.t.parts,cB s.init.r.t.k.neg,.d (nsl s.init.r.t.k.abs),cB s.init.r.eq,cFs s.init.kids,.d (.sl 3 (s.procs.map za2.d)),.d (.sl 10 (s.acts.map za6.d))]),(31,.box [.d (.sl 2 (r.stem.map StD.d)),.d (.sl 2 (r.cycle.map StD.d)),cIs r.acts])] h ?_;clear h;intro a w h
          refine wp_ret (zaf ?_)
          refine zb0 [.c (cB true)] h Exit.ret (.inl rfl)  rfl ⟨RV.tmp _ _ rfl,trivial⟩ ?_
          rfl
         ·have hc14:=hc;clear hc
          have hc14':=of_decide_eq_false hc14
          refine wp_skip (za5 (rq za0 39 [(5,.call (PText s v why r 0 0 hz hao hro hw) pn1_5)] [(1,vi .i64 v),(2,.t (.c (.d (.raw (.string why))))),(9,vp 31 0),(23,.t (.c (.d (.raw (.string (⟨(zbf s v why r).toArray⟩:ByteArray))))))] [(31,.box [.d (.sl 2 (r.stem.map StD.d)),.d (.sl 2 (r.cycle.map StD.d)),cIs r.acts])] h ?_));clear h;intro a w h
          refine rq za0 39 [(1,.call (Fn.cast (PRead (⟨(zbf s v why r).toArray⟩:ByteArray) (by omega)) (show _=V.tup [.c (cI v),.c (.d (.raw (.string why))),.c (cI 0)] from by rw [rd_txt hno (by have:=of_decide_eq_false hc12;omega) (by have:=of_decide_eq_false hc14;omega)])) pn1_6)] [(1,vi .i64 v),(2,.t (.c (.d (.raw (.string why))))),(9,vp 31 0),(23,.t (.c (.d (.raw (.string (⟨(zbf s v why r).toArray⟩:ByteArray)))))),(24,vi .i64 v),(25,.t (.c (.d (.raw (.string why))))),(26,vi .i64 0)] [(31,.box [.d (.sl 2 (r.stem.map StD.d)),.d (.sl 2 (r.cycle.map StD.d)),cIs r.acts])] h ?_;clear h;intro a w h
          refine rq za0 39 [] [(1,vi .i64 v),(2,.t (.c (.d (.raw (.string why))))),(9,vp 31 0),(23,.t (.c (.d (.raw (.string (⟨(zbf s v why r).toArray⟩:ByteArray)))))),(24,vi .i64 v),(25,.t (.c (.d (.raw (.string why))))),(26,vi .i64 0),(27,vi .i64 2)] [(31,.box [.d (.sl 2 (r.stem.map StD.d)),.d (.sl 2 (r.cycle.map StD.d)),cIs r.acts])] h ?_;clear h;intro a w h
          refine wp_seq (rq za0 39 [] [(1,vi .i64 v),(2,.t (.c (.d (.raw (.string why))))),(9,vp 31 0),(23,.t (.c (.d (.raw (.string (⟨(zbf s v why r).toArray⟩:ByteArray)))))),(24,vi .i64 v),(25,.t (.c (.d (.raw (.string why))))),(26,vi .i64 0),(27,vi .i64 2),(113,vb (v == 2))] [(31,.box [.d (.sl 2 (r.stem.map StD.d)),.d (.sl 2 (r.cycle.map StD.d)),cIs r.acts])] h ?_);clear h;intro a w h
          refine zad (v == 2) h rfl (fun hc=>?_) (fun hc=>?_)
          ·have hc15:=hc;clear hc
           have hc15':=hc15;(try simp at hc15')
           refine rn za0 39 [(2,.len (c:=(.d (.sl 2 (r.stem.map StD.d)))) (n:=r.stem.length) (za8 _ _ _)),(3,.add .i64 (m:=4) (n:=(r.stem.length:Int)) (zam (by omega) (by omega))),(6,.len (c:=(.d (.sl 2 (r.cycle.map StD.d)))) (n:=r.cycle.length) (za8 _ _ _)),(7,.add .i64 (m:=(4+(r.stem.length:Int))) (n:=(r.cycle.length:Int)) (zam (by omega) (by omega)))] [(1,vi .i64 v),(2,.t (.c (.d (.raw (.string why))))),(23,.t (.c (.d (.raw (.string (⟨(zbf s v why r).toArray⟩:ByteArray)))))),(24,vi .i64 v),(25,.t (.c (.d (.raw (.string why))))),(26,vi .i64 0),(27,vi .i64 ((4+(r.stem.length:Int))+(r.cycle.length:Int)))] [] h ?_;clear h;intro a w h
           refine za5 (rq za0 39 [(2,.cmp (op:=.eql) (m:=v) (n:=v) (b:=true) .i64 (show (v == v)=true from beq_self_eq_true _)),(6,.gen _ _ _ fun _ _ _ _=>Op.strEq (d:=128) (xt:=9) (yt:=9) (s1:=why) (s2:=why) (r:=true) (OV.tmp 126 _) (OV.tmp 127 _) (beq_self_eq_true _)),(10,.cmp (op:=.eql) (m:=0) (n:=0) (b:=true) .i64 rfl),(14,.call (PLines (⟨(zbf s v why r).toArray⟩:ByteArray) (by omega)) pm1_1),(15,.len (c:=(.d (.sl 1 ((zb9 (⟨(zbf s v why r).toArray⟩:ByteArray)).map za3)))) (n:=(zb9 (⟨(zbf s v why r).toArray⟩:ByteArray)).length) (za8 _ _ _)),(17,.cmp (op:=.eql) (m:=((zb9 (⟨(zbf s v why r).toArray⟩:ByteArray)).length:Int)) (n:=((4+(r.stem.length:Int))+(r.cycle.length:Int))) (b:=true) .i64 (show (((zb9 (⟨(zbf s v why r).toArray⟩:ByteArray)).length:Int) == ((4+(r.stem.length:Int))+(r.cycle.length:Int)))=true from by rw [lns_txt hno,if_pos (by simpa using hc15)];simp))] [(12,vb true)] [] h ?_);clear h;intro a w h
           refine wp_ret ?_
           refine zb0 [.c (cB true)] h Exit.ret (.inl rfl)  rfl ⟨RV.tmp _ _ rfl,trivial⟩ ?_
           rfl
          ·have hc16:=hc;clear hc
           have hc16':=hc16;(try simp at hc16')
           refine wp_skip (za5 (rq za0 39 [(2,.cmp (op:=.eql) (m:=v) (n:=v) (b:=true) .i64 (show (v == v)=true from beq_self_eq_true _)),(6,.gen _ _ _ fun _ _ _ _=>Op.strEq (d:=128) (xt:=9) (yt:=9) (s1:=why) (s2:=why) (r:=true) (OV.tmp 126 _) (OV.tmp 127 _) (beq_self_eq_true _)),(10,.cmp (op:=.eql) (m:=0) (n:=0) (b:=true) .i64 rfl),(14,.call (PLines (⟨(zbf s v why r).toArray⟩:ByteArray) (by omega)) pm1_1),(15,.len (c:=(.d (.sl 1 ((zb9 (⟨(zbf s v why r).toArray⟩:ByteArray)).map za3)))) (n:=(zb9 (⟨(zbf s v why r).toArray⟩:ByteArray)).length) (za8 _ _ _)),(17,.cmp (op:=.eql) (m:=((zb9 (⟨(zbf s v why r).toArray⟩:ByteArray)).length:Int)) (n:=2) (b:=true) .i64 (show (((zb9 (⟨(zbf s v why r).toArray⟩:ByteArray)).length:Int) == 2)=true from by rw [lns_txt hno,if_neg (by simpa using hc16)];simp))] [(12,vb true)] [] h ?_));clear h;intro a w h
           refine wp_ret ?_
           refine zb0 [.c (cB true)] h Exit.ret (.inl rfl)  rfl ⟨RV.tmp _ _ rfl,trivial⟩ ?_
           rfl
theorem LReportBackW (s:zaj) (v:Int) (why:ByteArray) (r:zbw) (p:PosD) (e:Int) (hs:zcy s∧BkOk s) (hw:why.size≤1048576) (hr:RunRd r) (hp:PosRd p) (he:(-9223372036854775808≤e∧e≤9223372036854775807)):Fn Tryd.prog 5 [] [vd (zaj.d s),vi .i64 v,vs why,vd (zbw.d r),vd (PosD.d p),vi .i64 e] (vb true) [] :=
 LReportBack s v why r p.ln p.cl e hs.1 (Nat.le_trans hs.2.acts (by decide)) hs.2 hr hw hp.1 hp.2 he
end S
end Go.Proofs.YtlfebjeoeijlfaaDoor
section
namespace Go.Proofs.YtlfebjeoeijlfaaDoor.reportBackDone
open Go.ChangeShapes Go.WideShapes Go.ChangeAt Go.RowKit
open Go.ChangeMaps (open_string shut_string)
open Go.Proofs.YtlfebjeoeijlfaaDoor.S

theorem own:ownKnob Tryd.prog.godebug=none:=by kernel_rfl
theorem laidOut:laidOutB Tryd.prog=true:=by kernel_rfl

theorem laid_met (os:Os):laidMet Tryd.prog Rows.reportBackUptoRow.laid ((World.doorLaid Tryd.prog 400 os).forCall (fun _ _=>0) ⟨#[],#[.agg #[.slice none 0 0,.slice none 0 0,.int .i64 0,.slice none 0 0,.bool false,.slice none 0 0,.bool false,.slice none 0 0,.slice none 0 0,.slice none 0 0],.int .i64 0,.string ByteArray.empty,.agg #[.slice none 0 0,.slice none 0 0,.slice none 0 0],.agg #[.int .i64 0,.int .i64 0],.int .i64 0],[]⟩).memory :=
 laidMet_of_run' 8 (by kernel_rfl) (by kernel_rfl)
theorem reads (os:Os) {H:Type} (enc:TypeId × Value→H):∃ places,DataW.whole enc Tryd.prog ((World.doorLaid Tryd.prog 400 os).forCall (fun _ _=>0) ⟨#[],#[.agg #[.slice none 0 0,.slice none 0 0,.int .i64 0,.slice none 0 0,.bool false,.slice none 0 0,.bool false,.slice none 0 0,.slice none 0 0,.slice none 0 0],.int .i64 0,.string ByteArray.empty,.agg #[.slice none 0 0,.slice none 0 0,.slice none 0 0],.agg #[.int .i64 0,.int .i64 0],.int .i64 0],[]⟩).memory Tryd.f5.params.toList Rows.reportBackSpec.vars false (#[.agg #[.slice none 0 0,.slice none 0 0,.int .i64 0,.slice none 0 0,.bool false,.slice none 0 0,.bool false,.slice none 0 0,.slice none 0 0,.slice none 0 0],.int .i64 0,.string ByteArray.empty,.agg #[.slice none 0 0,.slice none 0 0,.slice none 0 0],.agg #[.int .i64 0,.int .i64 0],.int .i64 0]:Array Value).toList 8=some ([.agg [.nil,.nil,.agg [.lit (.int .i64 0),.agg [.agg [.nil,.agg [.lit (.bool false),.nil]],.lit (.bool false)],.nil],.nil,.nil],.lit (.int .i64 0),.lit (.string []),.agg [.nil,.nil,.nil],.agg [.lit (.int .i64 0),.lit (.int .i64 0)],.lit (.int .i64 0)],[],places) :=
 ⟨[],by kernel_rfl⟩

theorem lifted (os:Os) (started:os.Started) (H:Type) (enc:TypeId × Value→H) (F0:Stop.Interp) :
  ReturnsInHanded {} Tryd.checked os 5 .any ((Rows.OpenSpec.upto Rows.reportBackSpec).preRow enc Tryd.prog Tryd.f5 Rows.reportBackUptoRow.domain false Rows.reportBackUptoRow.laid) (((Rows.OpenSpec.upto Rows.reportBackSpec).at F0).post enc Tryd.prog Tryd.f5 false true false false):=by
 obtain ⟨places,hx⟩:=reads os enc
 refine returnsInHanded_of_row (C:=Tryd.checked) (s:=Rows.OpenSpec.upto Rows.reportBackSpec) own started (by kernel_rfl) Tryd.func5
  (witness_row_at (enc:=enc) (C:=Tryd.checked) false (World.doorLaid Tryd.prog 400 os) #[.agg #[.slice none 0 0,.slice none 0 0,.int .i64 0,.slice none 0 0,.bool false,.slice none 0 0,.bool false,.slice none 0 0,.slice none 0 0,.slice none 0 0],.int .i64 0,.string ByteArray.empty,.agg #[.slice none 0 0,.slice none 0 0,.slice none 0 0],.agg #[.int .i64 0,.int .i64 0],.int .i64 0] rfl (by kernel_rfl) (by kernel_rfl) (by kernel_rfl)
   (OpenSpec.preRow_of_cond 8 hx (by kernel_rfl) (fun k hk=>by cases hk;kernel_rfl) (by kernel_rfl) (laid_met os))) ?_
 intro W base args ds gs before hval0 hW hcnd hcond _ hL _ _
 have hval:∀ (j:Nat) t v,Tryd.f5.params[j]?=some t→args[j]?=some v→Value.okWide Tryd.prog W .any base t v:=hval0
 have hW':=hW
 obtain ⟨p,q,hA0,hV,rfl,hfz,hnd⟩:=hW
 have hA:DataW.TrodAll enc Tryd.prog W 0 (fun _=>true) true Tryd.f5.params.toList args.toList ds p:=hA0
 rw [Tryd.params5] at hA hval
 obtain ⟨v0,vs0,d0,ds0,p0,q0,hargs,rfl,rfl,h0,r0⟩:=trodAll_cons hA
 obtain ⟨v1,vs1,d1,ds1,p1,q1,rfl,rfl,rfl,h1,r1⟩:=trodAll_cons r0
 obtain ⟨v2,vs2,d2,ds2,p2,q2,rfl,rfl,rfl,h2,r2⟩:=trodAll_cons r1
 obtain ⟨v3,vs3,d3,ds3,p3,q3,rfl,rfl,rfl,h3,r3⟩:=trodAll_cons r2
 obtain ⟨v4,vs4,d4,ds4,p4,q4,rfl,rfl,rfl,h4,r4⟩:=trodAll_cons r3
 obtain ⟨v5,vs5,d5,ds5,p5,q5,rfl,rfl,rfl,h5,r5⟩:=trodAll_cons r4
 obtain ⟨rfl,rfl,rfl⟩:=trodAll_nil r5
 obtain rfl:args=#[v0,v1,v2,v3,v4,v5]:=by cases args;simp_all
 obtain ⟨rfl,rfl⟩:=trodVars_none hV
 have hB:=bk_all (hcond _ rfl)
 have hb0:Rows.uptoBulk d0≤1048576:=Nat.le_trans (zbz (by simp)) hB
 have hb1:Rows.uptoBulk d1≤1048576:=Nat.le_trans (zbz (by simp)) hB
 have hb2:Rows.uptoBulk d2≤1048576:=Nat.le_trans (zbz (by simp)) hB
 have hb3:Rows.uptoBulk d3≤1048576:=Nat.le_trans (zbz (by simp)) hB
 have hb4:Rows.uptoBulk d4≤1048576:=Nat.le_trans (zbz (by simp)) hB
 have hb5:Rows.uptoBulk d5≤1048576:=Nat.le_trans (zbz (by simp)) hB
 have hT:TabH (all W):=tabH_of (laidMet.tail (laidMet.tail hL))
 have k0:=h0
 have lt0:∀ x ∈ p0,x.block<W.heap.size:=by obtain ⟨m,hm⟩:=k0;exact DataW.trod_lt m _ _ _ hm
 obtain ⟨a0,cs0,g0,rfl,dr0⟩:=rep_aggU Tryd.underlying39 (fun _=>rep_SysU) (hval 0 39 v0 rfl rfl) h0 hb0
 obtain ⟨a1,rfl,rfl,rfl,g10⟩:=open_int Tryd.underlying3 (hval 1 3 v1 rfl rfl) h1
 have g1:-9223372036854775808≤a1∧a1≤9223372036854775807:=by have:=bounds_i64 g10;omega
 obtain ⟨a2,rfl,rfl,rfl,g2⟩:=open_string Tryd.underlying9 (hval 2 9 v2 rfl rfl) h2
 have w2:=bk_str a2 hb2
 have k3:=h3
 have lt3:∀ x ∈ p3,x.block<W.heap.size:=by obtain ⟨m,hm⟩:=k3;exact DataW.trod_lt m _ _ _ hm
 obtain ⟨a3,cs3,g3,rfl,dr3⟩:=rep_aggU Tryd.underlying43 (fun _=>rep_RunU) (hval 3 43 v3 rfl rfl) h3 hb3
 have k4:=h4
 have lt4:∀ x ∈ p4,x.block<W.heap.size:=by obtain ⟨m,hm⟩:=k4;exact DataW.trod_lt m _ _ _ hm
 obtain ⟨a4,cs4,g4,rfl,dr4⟩:=rep_aggU Tryd.underlying45 (fun _=>rep_PosU) (hval 4 45 v4 rfl rfl) h4 hb4
 obtain ⟨a5,rfl,rfl,rfl,g50⟩:=open_int Tryd.underlying3 (hval 5 3 v5 rfl rfl) h5
 have g5:-9223372036854775808≤a5∧a5≤9223372036854775807:=by have:=bounds_i64 g50;omega
 clear hA0 hval0
 refine (Fn.calls (w:=W) (vals:=[.agg ⟨cs0⟩,.int .i64 a1,.string a2,.agg ⟨cs3⟩,.agg ⟨cs4⟩,.int .i64 a5]) (LReportBackW a0 a1 a2 a3 a4 a5 g0 w2 g3 g4 g5) (fun B=>⟨dr_vd dr0 B,DR.raw _ rfl,DR.raw _ rfl,dr_vd dr3 B,dr_vd dr4 B,DR.raw _ rfl,trivial⟩) hT).mono fun e W' ⟨he,bel⟩=>?_
 subst he
 exact ⟨_,rfl,_,_,_,[],_,[],hW', trodAll_mk1 (shut_bool Tryd.underlying4 _),(trodAll_cons_mk (Below.trod laidOut (by kernel_rfl) (of_decide_eq_true (by kernel_rfl)) k0 bel lt0) (trodAll_cons_mk (shut_int Tryd.underlying3 g10) (trodAll_cons_mk (shut_string Tryd.underlying9 g2) (trodAll_cons_mk (Below.trod laidOut (by kernel_rfl) (of_decide_eq_true (by kernel_rfl)) k3 bel lt3) (trodAll_cons_mk (Below.trod laidOut (by kernel_rfl) (of_decide_eq_true (by kernel_rfl)) k4 bel lt4) (trodAll_cons_mk (shut_int Tryd.underlying3 g50) trodAll_mk0)))))),rfl,bel.below.frame _,fun h=>by cases h⟩

theorem over:Rows.ReportBackUptoSaid :=
 OpenClaim.holds_of_cond 5 Tryd.f5 rfl rfl rfl rfl rfl rfl rfl ⟨rfl,rfl,rfl,rfl,rfl⟩ rfl rfl rfl rfl rfl (by kernel_rfl) Tryd.func5 (by kernel_rfl)
  (of_decide_eq_true (by kernel_rfl)) (by unfold Func.isWrapper;first | (rw [if_pos (by decide +kernel)];kernel_rfl) | (rw [if_neg (by decide +kernel)];exact ⟨rfl,rfl⟩))
  (fun os started H enc _ F0=>by rw [OpenClaim.pre_eq_preRow];exact lifted os started H enc F0)

theorem proved:Rows.ReportBackUptoCardSaid :=
  Claim7.holds_tied_plain_at .later [] [.data, .data, .data] true (true, "bd7222c4f126fa706258d046fb4f499b376e39d608c779f70c6cbf516a077b87") false
    over (fun _ h=>by cases h) (by kernel_rfl) (fun _ h=>by cases h) reportBackUpto_row_tie rfl ⟨rfl,rfl⟩ (by kernel_rfl) rfl
    (fun f fn hf hfn=>by
      obtain rfl : f = 5 := Option.some.inj ((show Tryd.prog.funcNamed "plumbline/plumblinelaw26.ReportBack" = some 5 by kernel_rfl).symm.trans hf) |>.symm
      obtain rfl:fn=Tryd.f5:=(Option.some.inj (Tryd.func5.symm.trans hfn)).symm
      exact ⟨by kernel_rfl,fun j t ht=>by
        rw [Tryd.params5] at ht
        have hm:t ∈ [39,3,9,43,45,3]:=by simpa using Array.mem_of_getElem? ht
        have hall:([39,3,9,43,45,3].all fun u=>!Tryd.prog.wantsStandIn u)=true:=by kernel_rfl
        exact (show Tryd.prog.wantsStandIn t=false by simpa using List.all_eq_true.1 hall t hm)⟩)
    (by kernel_rfl)
end Go.Proofs.YtlfebjeoeijlfaaDoor.reportBackDone
end
