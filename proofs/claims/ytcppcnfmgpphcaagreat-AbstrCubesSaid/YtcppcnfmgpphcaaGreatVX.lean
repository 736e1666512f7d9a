/-
  The proof of the statement AbstrCubes: the walk through the program and the references lifted to the given row. It holds for every input.
-/
import Derived.Test.YtcppcnfmgpphcaaGreatVX5
import Derived.Test.YtcppcnfmgpphcaaGreatVX2
import Derived.Test.YtcppcnfmgpphcaaGreatRows
set_option maxRecDepth 100000
namespace Go.Proofs.YtcppcnfmgpphcaaGreat.S
section
open Go.RowKit

theorem kid_nodes {f g:za1} (h:g ∈ f.kids):g.nodes≤f.nodes:=by
 rw [za1.nodes_eq f]
 have:∀ (xs:List za1),g ∈ xs→g.nodes≤(xs.map za1.nodes).sum:=fun xs=>by
  induction xs with
  | nil=>intro h;cases h
  | cons x xs ih =>
   intro h
   rw [List.map_cons,List.sum_cons]
   rcases List.mem_cons.1 h with rfl | h
   ·omega
   ·have:=ih h;omega
 have:=this _ h;omega
theorem Ltruth (ps:List zaa) (bs:List Bool) (hps:ps.length≤1000000∧∀ p ∈ ps,TOk 200 3000 p.t) (hb:bs.length≤9223372036854775807) (f:za1):f.okA 200 2900→f.nodes≤1000000→Fn Tryz.prog 35 [] [(vF f),(vRs ps),.t (.c (.d (.sl 1 (bs.map za6))))] (.tup [.c (cB (za1.tru ps bs f).1),.c (cB (za1.tru ps bs f).2)]) [] :=
 za1.ind (P:=fun f=>f.okA 200 2900→f.nodes≤1000000→Fn Tryz.prog 35 [] [(vF f),(vRs ps),.t (.c (.d (.sl 1 (bs.map za6))))] (.tup [.c (cB (za1.tru ps bs f).1),.c (cB (za1.tru ps bs f).2)]) []) (fun k r ks ih hf hn=>Ltruth0 ⟨k,r,ks⟩ ps bs (fun g hg=>ih g hg (zf8 hf hg) (Nat.le_trans (kid_nodes hg) hn)) hf hps hb hn) f
def locB (locs:List Int) (proc loc:Int):Bool:=decide (0≤proc∧proc<(locs.length:Int)) && ((locs[proc.toNat]?).getD 0 == loc)
def zar (ps:List zaa) (a:ze1) (p:zam):Bool × Bool:=if p.at_=true then (locB a.locs p.proc p.loc,true) else (p.f.flat false).tru ps a.bits
def zbp (props:List zam) (ps:List zaa) (a:ze1):List Bool × Bool:=if (props.all fun p=>(zar ps a p).2)=true then (props.map fun p=>(zar ps a p).1,true) else ([],false)
theorem letA_at {ps:List zaa} {a:ze1} {p:zam} (h:p.at_=true):zar ps a p=(locB a.locs p.proc p.loc,true):=if_pos h
theorem zgn {ps:List zaa} {a:ze1} {p:zam} (h:p.at_=false):zar ps a p=(p.f.flat false).tru ps a.bits:=if_neg (by rw [h];exact Bool.noConfusion)
theorem locB_no {locs:List Int} {proc loc:Int} (h:proc<0∨(locs.length:Int)≤proc):locB locs proc loc=false:=by
 unfold locB;rw [decide_eq_false (by omega)];rfl
theorem locB_at {locs:List Int} {proc loc l:Int} {k:Nat} (hk:proc=(k:Int)) (h:locs[k]?=some l):locB locs proc loc=(l == loc):=by
 have:=(List.getElem?_eq_some_iff.1 h).1
 unfold locB;rw [decide_eq_true (by omega),hk,Int.toNat_natCast,h];rfl
set_option maxHeartbeats 4000000 in
theorem LLetter (props:List zam) (ps:List zaa) (a_:ze1) (hpr:PropsOk props) (hps:ps.length≤1000000∧∀ p ∈ ps,TOk 200 3000 p.t) (ha:a_.locs.length≤9223372036854775807∧a_.bits.length≤9223372036854775807):Fn Tryz.prog 11 [] [.t (.c (.d (.sl 9 (props.map zam.d)))),(vRs ps),.t (.agg [cIs a_.locs,.d (.sl 1 (a_.bits.map za6))])] (.tup [.c (.d (.sl 1 ((zbp props ps a_).1.map za6))),.c (cB (zbp props ps a_).2)]) []:=by
 have lpr:=hpr.1
 have la1:=ha.1
 refine Fn.body Tryz.func11 rfl 62 rfl fun w H B a h=>?_
 refine rq za0 20 [] [(0,.t (.c (.d (.sl 9 (props.map zam.d))))),(1,(vRs ps)),(5,vp 20 0),(6,.t (.c (.d (.raw za5)))),(7,vb false)] [(20,.box [cIs a_.locs,.d (.sl 1 (a_.bits.map za6))])] h ?_;clear h;intro a w h
 refine rq za0 21 [] [(0,.t (.c (.d (.sl 9 (props.map zam.d))))),(1,(vRs ps)),(5,vp 20 0),(6,.t (.c (.d (.raw za5)))),(7,vb false),(8,.t (.c (.d (.raw za5))))] [(20,.box [cIs a_.locs,.d (.sl 1 (a_.bits.map za6))])] h ?_;clear h;intro a w h
 refine wp_seq (rq za0 21 [(1,.len (c:=(.d (.sl 9 (props.map zam.d)))) (n:=props.length) (zae _ _ _))] [(1,(vRs ps)),(5,vp 20 0),(6,.t (.c (.d (.raw za5)))),(7,vb false),(8,.t (.c (.d (.raw za5)))),(13,.t (.c (.d (.sl 9 (props.map zam.d))))),(14,vi .i64 (props.length:Int)),(15,vi .i64 0)] [(20,.box [cIs a_.locs,.d (.sl 1 (a_.bits.map za6))])] h ?_);clear h;intro a w h
 refine wp_block ?_
 replace h:=zec 8 0 21 1 4 (.t (.c (.d (.raw za5)))) [(1,(vRs ps)),(5,vp 20 0),(6,.t (.c (.d (.raw za5)))),(7,vb false),(8,.t (.c (.own 21 0))),(13,.t (.c (.d (.sl 9 (props.map zam.d))))),(14,vi .i64 (props.length:Int)),(15,vi .i64 0)] [(20,.box [cIs a_.locs,.d (.sl 1 (a_.bits.map za6))]),(21,.row 4 1 ([].map za6))] h (by kernel_rfl) rfl rfl
 replace h:=h.conv (f':=F.of [(1,(vRs ps)),(5,vp 20 0),(6,.t (.c (.d (.raw za5)))),(7,vb false),(8,.t (.c (.own 21 0))),(13,.t (.c (.d (.sl 9 (props.map zam.d))))),(14,vi .i64 (props.length:Int)),(15,vi .i64 0)] [(20,.box [cIs a_.locs,.d (.sl 1 (a_.bits.map za6))]),(21,.row 4 1 (((props.take 0).map (fun p=>(zar ps a_ p).1)).map za6))]) (congrArg (fun (z_:List Bool)=>F.of [(1,(vRs ps)),(5,vp 20 0),(6,.t (.c (.d (.raw za5)))),(7,vb false),(8,.t (.c (.own 21 0))),(13,.t (.c (.d (.sl 9 (props.map zam.d))))),(14,vi .i64 (props.length:Int)),(15,vi .i64 0)] [(20,.box [cIs a_.locs,.d (.sl 1 (a_.bits.map za6))]),(21,.row 4 1 (z_.map za6))]) (show ([]:List Bool)=((props.take 0).map (fun p=>(zar ps a_ p).1)) from (by simp)))
 refine zb1 (ι:=(Nat)) (fun (z_:(Nat))=>match z_ with | j=>j≤props.length∧(props.take j).all (fun p=>(zar ps a_ p).2)=true)
   (fun (z_:(Nat))=>match z_ with | j=>[(1,(vRs ps)),(5,vp 20 0),(8,.t (.c (.own 21 ((props.take j).map (fun p=>(zar ps a_ p).1)).length))),(13,.t (.c (.d (.sl 9 (props.map zam.d))))),(14,vi .i64 (props.length:Int)),(15,vi .i64 (j:Int))])
   (fun (z_:(Nat))=>match z_ with | j=>[(20,.box [cIs a_.locs,.d (.sl 1 (a_.bits.map za6))]),(21,.row 4 1 (((props.take j).map (fun p=>(zar ps a_ p).1)).map za6))])
   (fun (z_:(Nat))=>match z_ with | j=>props.length - j) 0 ?_ h (by kernel_rfl) (by kernel_rfl) ?_
 ·exact ⟨Nat.zero_le _,rfl⟩
 ·clear h;rintro j a w hI h
  change St _ (F.of [(1,(vRs ps)),(5,vp 20 0),(8,.t (.c (.own 21 ((props.take j).map (fun p=>(zar ps a_ p).1)).length))),(13,.t (.c (.d (.sl 9 (props.map zam.d))))),(14,vi .i64 (props.length:Int)),(15,vi .i64 (j:Int))] [(20,.box [cIs a_.locs,.d (.sl 1 (a_.bits.map za6))]),(21,.row 4 1 (((props.take j).map (fun p=>(zar ps a_ p).1)).map za6))]) a w at h
  obtain ⟨hI1,hI2⟩:=hI
  have llj:((props.take j).map (fun p=>(zar ps a_ p).1)).length≤j:=by rw [List.length_map,List.length_take];omega
  refine rq za0 22 [] [(1,(vRs ps)),(5,vp 20 0),(8,.t (.c (.own 21 ((props.take j).map (fun p=>(zar ps a_ p).1)).length))),(13,.t (.c (.d (.sl 9 (props.map zam.d))))),(14,vi .i64 (props.length:Int)),(15,vi .i64 (j:Int)),(16,vb (decide ((j:Int)<(props.length:Int))))] [(20,.box [cIs a_.locs,.d (.sl 1 (a_.bits.map za6))]),(21,.row 4 1 (((props.take j).map (fun p=>(zar ps a_ p).1)).map za6))] h ?_;clear h;intro a w h
  refine wp_seq ?_
  refine zab (decide ((j:Int)<(props.length:Int))) h rfl (fun hc=>?_) (fun hc=>?_)
  ·have hc1:=hc;clear hc
   have hc1':=of_decide_eq_true hc1
   refine wp_skip (za4 (wp_seq (wp_block ?_)))
   obtain ⟨x1,hx1⟩:∃ z_:zam,props[j]?=some z_:=⟨_,List.getElem?_eq_getElem (by first | omega | (simp at *;omega))⟩
   refine rq za0 22 [(0,.gen _ _ _ fun _ _ _ _=>Op.idxD (d:=17) (t:=13) (k := .i64) li9_5 (zaj hx1 (f:=zam.d)) (OV.tmp 15 _))] [(1,(vRs ps)),(5,vp 20 0),(8,.t (.c (.own 21 ((props.take j).map (fun p=>(zar ps a_ p).1)).length))),(10,vp 22 0),(13,.t (.c (.d (.sl 9 (props.map zam.d))))),(14,vi .i64 (props.length:Int)),(15,vi .i64 (j:Int))] [(20,.box [cIs a_.locs,.d (.sl 1 (a_.bits.map za6))]),(21,.row 4 1 (((props.take j).map (fun p=>(zar ps a_ p).1)).map za6)),(22,.box ([cB x1.at_,cI x1.proc,cI x1.loc,cI x1.f.kind,cPs x1.f.r.t.parts]++zi x1.f.r.t.k++[cB x1.f.r.eq,cFs x1.f.kids]))] h ?_;clear h;intro a w h
   rcases Bool.eq_false_or_eq_true (decide (x1.proc≥0)) with hc | hc
   ·have hc2:=hc;clear hc
    have hc2':=of_decide_eq_true hc2
    rcases Bool.eq_false_or_eq_true (decide (x1.proc<(a_.locs.length:Int))) with hc | hc
    ·have hc3:=hc;clear hc
     have hc3':=of_decide_eq_true hc3
     obtain ⟨kp,hkkp⟩:∃ k_:Nat,x1.proc=(k_:Int):=⟨_,(Int.toNat_of_nonneg (by have:=of_decide_eq_true hc2;omega)).symm⟩
     replace h:=h.conv (f':=F.of [(1,(vRs ps)),(5,vp 20 0),(8,.t (.c (.own 21 ((props.take j).map (fun p=>(zar ps a_ p).1)).length))),(10,vp 22 0),(13,.t (.c (.d (.sl 9 (props.map zam.d))))),(14,vi .i64 (props.length:Int)),(15,vi .i64 (j:Int))] [(20,.box [cIs a_.locs,.d (.sl 1 (a_.bits.map za6))]),(21,.row 4 1 (((props.take j).map (fun p=>(zar ps a_ p).1)).map za6)),(22,.box ([cB x1.at_,cI (kp:Int),cI x1.loc,cI x1.f.kind,cPs x1.f.r.t.parts]++zi x1.f.r.t.k++[cB x1.f.r.eq,cFs x1.f.kids]))]) (by rw [hkkp])
     obtain ⟨x2,hx2⟩:∃ z_:Int,a_.locs[kp]?=some z_:=⟨_,List.getElem?_eq_getElem (by first | omega | (simp at *;omega))⟩
     refine rq za0 23 [(2,.cmp (op := .geq) (m:=(kp:Int)) (n:=0) (b:=true) .i64 (show (decide ((kp:Int)≥0))=true from by rw [← hkkp];exact hc2)),(8,.len (c:=(cIs a_.locs)) (n:=a_.locs.length) (zae _ _ _)),(9,.cmp (op := .lss) (m:=(kp:Int)) (n:=(a_.locs.length:Int)) (b:=true) .i64 (show (decide ((kp:Int)<(a_.locs.length:Int)))=true from by rw [← hkkp];exact hc3)),(16,.gen _ _ _ fun _ _ _ _=>Op.idxD (d:=35) (t:=32) (k := .i64) tb_1 (zaj hx2 (f:=zbk)) (OV.tmp 34 _))] [(1,(vRs ps)),(5,vp 20 0),(8,.t (.c (.own 21 ((props.take j).map (fun p=>(zar ps a_ p).1)).length))),(10,vp 22 0),(11,vb (x2 == x1.loc)),(12,vb true),(13,.t (.c (.d (.sl 9 (props.map zam.d))))),(14,vi .i64 (props.length:Int)),(15,vi .i64 (j:Int))] [(20,.box [cIs a_.locs,.d (.sl 1 (a_.bits.map za6))]),(21,.row 4 1 (((props.take j).map (fun p=>(zar ps a_ p).1)).map za6)),(22,.box ([cB x1.at_,cI (kp:Int),cI x1.loc,cI x1.f.kind,cPs x1.f.r.t.parts]++zi x1.f.r.t.k++[cB x1.f.r.eq,cFs x1.f.kids]))] h ?_;clear h;intro a w h
     refine wp_seq (rq za0 23 [] [(1,(vRs ps)),(5,vp 20 0),(8,.t (.c (.own 21 ((props.take j).map (fun p=>(zar ps a_ p).1)).length))),(10,vp 22 0),(11,vb (x2 == x1.loc)),(12,vb true),(13,.t (.c (.d (.sl 9 (props.map zam.d))))),(14,vi .i64 (props.length:Int)),(15,vi .i64 (j:Int)),(43,vb (!x1.at_))] [(20,.box [cIs a_.locs,.d (.sl 1 (a_.bits.map za6))]),(21,.row 4 1 (((props.take j).map (fun p=>(zar ps a_ p).1)).map za6)),(22,.box ([cB x1.at_,cI (kp:Int),cI x1.loc,cI x1.f.kind,cPs x1.f.r.t.parts]++zi x1.f.r.t.k++[cB x1.f.r.eq,cFs x1.f.kids]))] h ?_);clear h;intro a w h
     refine zab (!x1.at_) h rfl (fun hc=>?_) (fun hc=>?_)
     ·have hc4:=hc;clear hc
      have hc4':=hc4;(try simp at hc4')
      refine rn za0 23 [(2,.call (LFlat x1.f (za1.okB_mono (by decide) (by decide) _ (hpr.2 x1 (List.mem_of_getElem? hx1) (show (x1.at_)=false from by simpa using hc4)).1) (Nat.le_trans (hpr.2 x1 (List.mem_of_getElem? hx1) (show (x1.at_)=false from by simpa using hc4)).2 (by decide))) li9_6),(6,.call (Ltruth ps a_.bits hps ha.2 (za1.flat x1.f false) (zc6 (hpr.2 x1 (List.mem_of_getElem? hx1) (show (x1.at_)=false from by simpa using hc4))).1 (Nat.le_trans (zc6 (hpr.2 x1 (List.mem_of_getElem? hx1) (show (x1.at_)=false from by simpa using hc4))).2 (by decide))) lj10_3)] [(1,(vRs ps)),(5,vp 20 0),(8,.t (.c (.own 21 ((props.take j).map (fun p=>(zar ps a_ p).1)).length))),(11,vb (za1.tru ps a_.bits (za1.flat x1.f false)).1),(12,vb (za1.tru ps a_.bits (za1.flat x1.f false)).2),(13,.t (.c (.d (.sl 9 (props.map zam.d))))),(14,vi .i64 (props.length:Int)),(15,vi .i64 (j:Int))] [(20,.box [cIs a_.locs,.d (.sl 1 (a_.bits.map za6))]),(21,.row 4 1 (((props.take j).map (fun p=>(zar ps a_ p).1)).map za6))] h ?_;clear h;intro a w h
      refine za4 (wp_seq (rq za0 23 [] [(1,(vRs ps)),(5,vp 20 0),(8,.t (.c (.own 21 ((props.take j).map (fun p=>(zar ps a_ p).1)).length))),(11,vb (za1.tru ps a_.bits (za1.flat x1.f false)).1),(13,.t (.c (.d (.sl 9 (props.map zam.d))))),(14,vi .i64 (props.length:Int)),(15,vi .i64 (j:Int)),(55,vb (!(za1.tru ps a_.bits (za1.flat x1.f false)).2))] [(20,.box [cIs a_.locs,.d (.sl 1 (a_.bits.map za6))]),(21,.row 4 1 (((props.take j).map (fun p=>(zar ps a_ p).1)).map za6))] h ?_));clear h;intro a w h
      refine zab (!(za1.tru ps a_.bits (za1.flat x1.f false)).2) h rfl (fun hc=>?_) (fun hc=>?_)
      ·have hc5:=hc;clear hc
       have hc5':=hc5;(try simp at hc5')
       refine rq za0 23 [] [(1,(vRs ps)),(5,vp 20 0),(6,.t (.c (.d (.raw za5)))),(7,vb false),(8,.t (.c (.own 21 ((props.take j).map (fun p=>(zar ps a_ p).1)).length))),(11,vb (za1.tru ps a_.bits (za1.flat x1.f false)).1),(13,.t (.c (.d (.sl 9 (props.map zam.d))))),(14,vi .i64 (props.length:Int)),(15,vi .i64 (j:Int))] [(20,.box [cIs a_.locs,.d (.sl 1 (a_.bits.map za6))]),(21,.row 4 1 (((props.take j).map (fun p=>(zar ps a_ p).1)).map za6))] h ?_;clear h;intro a w h
       refine wp_ret (za9 (zaf (za9 (za9 (zaf (za9 ?_))))))
       replace h:=nilDSs 6 0 1 (.t (.c (.d (.raw za5)))) [(1,(vRs ps)),(5,vp 20 0),(6,.t (.c (.d (.sl 1 ([].map za6))))),(7,vb false),(8,.t (.c (.own 21 ((props.take j).map (fun p=>(zar ps a_ p).1)).length))),(11,vb (za1.tru ps a_.bits (za1.flat x1.f false)).1),(13,.t (.c (.d (.sl 9 (props.map zam.d))))),(14,vi .i64 (props.length:Int)),(15,vi .i64 (j:Int))] [(20,.box [cIs a_.locs,.d (.sl 1 (a_.bits.map za6))]),(21,.row 4 1 (((props.take j).map (fun p=>(zar ps a_ p).1)).map za6))] h rfl rfl
       refine zan [.c (.d (.sl 1 ([].map za6))),.c (cB false)] h Exit.ret (.inl rfl)  rfl ⟨RV.tmp _ _ rfl,RV.tmp _ _ rfl,trivial⟩ ?_
       have hz:zbp props ps a_=([],false):=by unfold zbp;rw [zba hx1 (show (zar ps a_ x1).2=false from by rw [zgn (show (x1.at_)=false from by simpa using hc4)];have:=hc5;simpa using this)];rfl
       rw [hz];first | done | rfl
      ·have hc6:=hc;clear hc
       have hc6':=hc6;(try simp at hc6')
       refine wp_skip (za4 (rn za0 23 [(2,.gen _ _ _ fun _ _ _ _=>Op.buildD (d:=58) (len:=1) (rows:=[(za1.tru ps a_.bits (za1.flat x1.f false)).1].map za6) (rs:=[(57,vb (za1.tru ps a_.bits (za1.flat x1.f false)).1)]) le5_3 (.cons (i:=0) (OV.tmp 57 _) (.nil)) (by kernel_rfl) rfl (by simp [za6]) (by decide) (by decide)),(3,.gen _ _ _ fun _ _ _ _=>Op.appOD (d:=59) (t:=56) (u:=58) (n:=21) (n':=23) (len:=((props.take j).map (fun p=>(zar ps a_ p).1)).length) (len':=(((props.take j).map (fun p=>(zar ps a_ p).1))++[(za1.tru ps a_.bits (za1.flat x1.f false)).1]).length) (rows:=((props.take j).map (fun p=>(zar ps a_ p).1)).map za6) (rows2:=[(za1.tru ps a_.bits (za1.flat x1.f false)).1].map za6) (rows':=(((props.take j).map (fun p=>(zar ps a_ p).1))++[(za1.tru ps a_.bits (za1.flat x1.f false)).1]).map za6) le5_4 (by first | exact (List.length_map _).symm | simp) (by first | (rw [List.length_append,List.length_map];done) | simp) (by simp) (by simp [za6]) (by first | omega | (simp at *;done) | (simp at *;omega)))] [(1,(vRs ps)),(5,vp 20 0),(8,.t (.c (.own 23 (((props.take j).map (fun p=>(zar ps a_ p).1))++[(za1.tru ps a_.bits (za1.flat x1.f false)).1]).length))),(13,.t (.c (.d (.sl 9 (props.map zam.d))))),(14,vi .i64 (props.length:Int)),(15,vi .i64 (j:Int))] [(20,.box [cIs a_.locs,.d (.sl 1 (a_.bits.map za6))]),(23,.row 4 1 ((((props.take j).map (fun p=>(zar ps a_ p).1))++[(za1.tru ps a_.bits (za1.flat x1.f false)).1]).map za6))] h ?_));clear h;intro a w h
       refine zac (za4 (rn za0 24 [(0,.add .i64 (m:=(j:Int)) (n:=1) (zad (by omega) (by omega)))] [(1,(vRs ps)),(5,vp 20 0),(8,.t (.c (.own 23 (((props.take j).map (fun p=>(zar ps a_ p).1))++[(za1.tru ps a_.bits (za1.flat x1.f false)).1]).length))),(13,.t (.c (.d (.sl 9 (props.map zam.d))))),(14,vi .i64 (props.length:Int)),(15,vi .i64 ((j:Int)+1))] [(20,.box [cIs a_.locs,.d (.sl 1 (a_.bits.map za6))]),(23,.row 4 1 ((((props.take j).map (fun p=>(zar ps a_ p).1))++[(za1.tru ps a_.bits (za1.flat x1.f false)).1]).map za6))] h ?_));clear h;intro a w h
       refine za4 ?_
       have hla:zar ps a_ x1=((za1.tru ps a_.bits (za1.flat x1.f false)).1,((za1.flat x1.f false).tru ps a_.bits).2):=zgn (show (x1.at_)=false from by simpa using hc4)
       replace h:=h.conv (f':=F.of [(1,(vRs ps)),(5,vp 20 0),(8,.t (.c (.own 23 ((props.take (j+1)).map (fun p=>(zar ps a_ p).1)).length))),(13,.t (.c (.d (.sl 9 (props.map zam.d))))),(14,vi .i64 (props.length:Int)),(15,vi .i64 ((j:Int)+1))] [(20,.box [cIs a_.locs,.d (.sl 1 (a_.bits.map za6))]),(23,.row 4 1 (((props.take (j+1)).map (fun p=>(zar ps a_ p).1)).map za6))]) (congrArg (fun (z_:List Bool)=>F.of [(1,(vRs ps)),(5,vp 20 0),(8,.t (.c (.own 23 z_.length))),(13,.t (.c (.d (.sl 9 (props.map zam.d))))),(14,vi .i64 (props.length:Int)),(15,vi .i64 ((j:Int)+1))] [(20,.box [cIs a_.locs,.d (.sl 1 (a_.bits.map za6))]),(23,.row 4 1 (z_.map za6))]) (show ((((props.take j).map (fun p=>(zar ps a_ p).1))++[(za1.tru ps a_.bits (za1.flat x1.f false)).1]):List Bool)=((props.take (j+1)).map (fun p=>(zar ps a_ p).1)) from (by rw [← zc7 (f:=(fun p=>(zar ps a_ p).1)) hx1];congr 2;rw [hla])))
       replace h:=zcc 23 21 [(1,(vRs ps)),(5,vp 20 0),(8,.t (.c (.own 21 ((props.take (j+1)).map (fun p=>(zar ps a_ p).1)).length))),(13,.t (.c (.d (.sl 9 (props.map zam.d))))),(14,vi .i64 (props.length:Int)),(15,vi .i64 ((j:Int)+1))] [(20,.box [cIs a_.locs,.d (.sl 1 (a_.bits.map za6))]),(21,.row 4 1 (((props.take (j+1)).map (fun p=>(zar ps a_ p).1)).map za6))] h
       refine zak (x:=j) (y:=j+1) h ?_ ?_
       ·have:=zai hx1
        exact ⟨by omega,zbh hx1 hI2 (show (zar ps a_ x1).2=true from by rw [hla];have:=hc6;simpa using this)⟩
       ·show props.length - (j+1)<props.length - j
        have:=zai hx1;omega
     ·have hc7:=hc;clear hc
      have hc7':=hc7;(try simp at hc7')
      refine wp_skip (za4 (wp_seq (rq za0 24 [] [(1,(vRs ps)),(5,vp 20 0),(8,.t (.c (.own 21 ((props.take j).map (fun p=>(zar ps a_ p).1)).length))),(11,vb (x2 == x1.loc)),(13,.t (.c (.d (.sl 9 (props.map zam.d))))),(14,vi .i64 (props.length:Int)),(15,vi .i64 (j:Int)),(55,vb false)] [(20,.box [cIs a_.locs,.d (.sl 1 (a_.bits.map za6))]),(21,.row 4 1 (((props.take j).map (fun p=>(zar ps a_ p).1)).map za6))] h ?_)));clear h;intro a w h
      refine zab false h rfl (fun hc=>?_) (fun hc=>?_)
      ·cases hc
      ·clear hc
       refine wp_skip (za4 (rn za0 24 [(2,.gen _ _ _ fun _ _ _ _=>Op.buildD (d:=58) (len:=1) (rows:=[x2 == x1.loc].map za6) (rs:=[(57,vb (x2 == x1.loc))]) le5_3 (.cons (i:=0) (OV.tmp 57 _) (.nil)) (by kernel_rfl) rfl (by simp [za6]) (by decide) (by decide)),(3,.gen _ _ _ fun _ _ _ _=>Op.appOD (d:=59) (t:=56) (u:=58) (n:=21) (n':=24) (len:=((props.take j).map (fun p=>(zar ps a_ p).1)).length) (len':=(((props.take j).map (fun p=>(zar ps a_ p).1))++[x2 == x1.loc]).length) (rows:=((props.take j).map (fun p=>(zar ps a_ p).1)).map za6) (rows2:=[x2 == x1.loc].map za6) (rows':=(((props.take j).map (fun p=>(zar ps a_ p).1))++[x2 == x1.loc]).map za6) le5_4 (by first | exact (List.length_map _).symm | simp) (by first | (rw [List.length_append,List.length_map];done) | simp) (by simp) (by simp [za6]) (by first | omega | (simp at *;done) | (simp at *;omega)))] [(1,(vRs ps)),(5,vp 20 0),(8,.t (.c (.own 24 (((props.take j).map (fun p=>(zar ps a_ p).1))++[x2 == x1.loc]).length))),(13,.t (.c (.d (.sl 9 (props.map zam.d))))),(14,vi .i64 (props.length:Int)),(15,vi .i64 (j:Int))] [(20,.box [cIs a_.locs,.d (.sl 1 (a_.bits.map za6))]),(24,.row 4 1 ((((props.take j).map (fun p=>(zar ps a_ p).1))++[x2 == x1.loc]).map za6))] h ?_));clear h;intro a w h
       refine zac (za4 (rn za0 25 [(0,.add .i64 (m:=(j:Int)) (n:=1) (zad (by omega) (by omega)))] [(1,(vRs ps)),(5,vp 20 0),(8,.t (.c (.own 24 (((props.take j).map (fun p=>(zar ps a_ p).1))++[x2 == x1.loc]).length))),(13,.t (.c (.d (.sl 9 (props.map zam.d))))),(14,vi .i64 (props.length:Int)),(15,vi .i64 ((j:Int)+1))] [(20,.box [cIs a_.locs,.d (.sl 1 (a_.bits.map za6))]),(24,.row 4 1 ((((props.take j).map (fun p=>(zar ps a_ p).1))++[x2 == x1.loc]).map za6))] h ?_));clear h;intro a w h
       refine za4 ?_
       have hla:zar ps a_ x1=(x2 == x1.loc,true):=by rw [letA_at (show (x1.at_)=true from by simpa using hc7),locB_at hkkp hx2]
       replace h:=h.conv (f':=F.of [(1,(vRs ps)),(5,vp 20 0),(8,.t (.c (.own 24 ((props.take (j+1)).map (fun p=>(zar ps a_ p).1)).length))),(13,.t (.c (.d (.sl 9 (props.map zam.d))))),(14,vi .i64 (props.length:Int)),(15,vi .i64 ((j:Int)+1))] [(20,.box [cIs a_.locs,.d (.sl 1 (a_.bits.map za6))]),(24,.row 4 1 (((props.take (j+1)).map (fun p=>(zar ps a_ p).1)).map za6))]) (congrArg (fun (z_:List Bool)=>F.of [(1,(vRs ps)),(5,vp 20 0),(8,.t (.c (.own 24 z_.length))),(13,.t (.c (.d (.sl 9 (props.map zam.d))))),(14,vi .i64 (props.length:Int)),(15,vi .i64 ((j:Int)+1))] [(20,.box [cIs a_.locs,.d (.sl 1 (a_.bits.map za6))]),(24,.row 4 1 (z_.map za6))]) (show ((((props.take j).map (fun p=>(zar ps a_ p).1))++[x2 == x1.loc]):List Bool)=((props.take (j+1)).map (fun p=>(zar ps a_ p).1)) from (by rw [← zc7 (f:=(fun p=>(zar ps a_ p).1)) hx1];congr 2;rw [hla])))
       replace h:=zcc 24 21 [(1,(vRs ps)),(5,vp 20 0),(8,.t (.c (.own 21 ((props.take (j+1)).map (fun p=>(zar ps a_ p).1)).length))),(13,.t (.c (.d (.sl 9 (props.map zam.d))))),(14,vi .i64 (props.length:Int)),(15,vi .i64 ((j:Int)+1))] [(20,.box [cIs a_.locs,.d (.sl 1 (a_.bits.map za6))]),(21,.row 4 1 (((props.take (j+1)).map (fun p=>(zar ps a_ p).1)).map za6))] h
       refine zak (x:=j) (y:=j+1) h ?_ ?_
       ·have:=zai hx1
        exact ⟨by omega,zbh hx1 hI2 (show (zar ps a_ x1).2=true from by rw [hla])⟩
       ·show props.length - (j+1)<props.length - j
        have:=zai hx1;omega
    ·have hc8:=hc;clear hc
     have hc8':=of_decide_eq_false hc8
     refine rq za0 25 [(2,.cmp (op := .geq) (m:=x1.proc) (n:=0) (b:=true) .i64 hc2),(8,.len (c:=(cIs a_.locs)) (n:=a_.locs.length) (zae _ _ _)),(9,.cmp (op := .lss) (m:=x1.proc) (n:=(a_.locs.length:Int)) (b:=false) .i64 hc8)] [(1,(vRs ps)),(5,vp 20 0),(8,.t (.c (.own 21 ((props.take j).map (fun p=>(zar ps a_ p).1)).length))),(10,vp 22 0),(11,vb false),(12,vb true),(13,.t (.c (.d (.sl 9 (props.map zam.d))))),(14,vi .i64 (props.length:Int)),(15,vi .i64 (j:Int))] [(20,.box [cIs a_.locs,.d (.sl 1 (a_.bits.map za6))]),(21,.row 4 1 (((props.take j).map (fun p=>(zar ps a_ p).1)).map za6)),(22,.box ([cB x1.at_,cI x1.proc,cI x1.loc,cI x1.f.kind,cPs x1.f.r.t.parts]++zi x1.f.r.t.k++[cB x1.f.r.eq,cFs x1.f.kids]))] h ?_;clear h;intro a w h
     refine wp_seq (rq za0 25 [] [(1,(vRs ps)),(5,vp 20 0),(8,.t (.c (.own 21 ((props.take j).map (fun p=>(zar ps a_ p).1)).length))),(10,vp 22 0),(11,vb false),(12,vb true),(13,.t (.c (.d (.sl 9 (props.map zam.d))))),(14,vi .i64 (props.length:Int)),(15,vi .i64 (j:Int)),(43,vb (!x1.at_))] [(20,.box [cIs a_.locs,.d (.sl 1 (a_.bits.map za6))]),(21,.row 4 1 (((props.take j).map (fun p=>(zar ps a_ p).1)).map za6)),(22,.box ([cB x1.at_,cI x1.proc,cI x1.loc,cI x1.f.kind,cPs x1.f.r.t.parts]++zi x1.f.r.t.k++[cB x1.f.r.eq,cFs x1.f.kids]))] h ?_);clear h;intro a w h
     refine zab (!x1.at_) h rfl (fun hc=>?_) (fun hc=>?_)
     ·have hc9:=hc;clear hc
      have hc9':=hc9;(try simp at hc9')
      refine rn za0 25 [(2,.call (LFlat x1.f (za1.okB_mono (by decide) (by decide) _ (hpr.2 x1 (List.mem_of_getElem? hx1) (show (x1.at_)=false from by simpa using hc9)).1) (Nat.le_trans (hpr.2 x1 (List.mem_of_getElem? hx1) (show (x1.at_)=false from by simpa using hc9)).2 (by decide))) li9_6),(6,.call (Ltruth ps a_.bits hps ha.2 (za1.flat x1.f false) (zc6 (hpr.2 x1 (List.mem_of_getElem? hx1) (show (x1.at_)=false from by simpa using hc9))).1 (Nat.le_trans (zc6 (hpr.2 x1 (List.mem_of_getElem? hx1) (show (x1.at_)=false from by simpa using hc9))).2 (by decide))) lj10_3)] [(1,(vRs ps)),(5,vp 20 0),(8,.t (.c (.own 21 ((props.take j).map (fun p=>(zar ps a_ p).1)).length))),(11,vb (za1.tru ps a_.bits (za1.flat x1.f false)).1),(12,vb (za1.tru ps a_.bits (za1.flat x1.f false)).2),(13,.t (.c (.d (.sl 9 (props.map zam.d))))),(14,vi .i64 (props.length:Int)),(15,vi .i64 (j:Int))] [(20,.box [cIs a_.locs,.d (.sl 1 (a_.bits.map za6))]),(21,.row 4 1 (((props.take j).map (fun p=>(zar ps a_ p).1)).map za6))] h ?_;clear h;intro a w h
      refine za4 (wp_seq (rq za0 25 [] [(1,(vRs ps)),(5,vp 20 0),(8,.t (.c (.own 21 ((props.take j).map (fun p=>(zar ps a_ p).1)).length))),(11,vb (za1.tru ps a_.bits (za1.flat x1.f false)).1),(13,.t (.c (.d (.sl 9 (props.map zam.d))))),(14,vi .i64 (props.length:Int)),(15,vi .i64 (j:Int)),(55,vb (!(za1.tru ps a_.bits (za1.flat x1.f false)).2))] [(20,.box [cIs a_.locs,.d (.sl 1 (a_.bits.map za6))]),(21,.row 4 1 (((props.take j).map (fun p=>(zar ps a_ p).1)).map za6))] h ?_));clear h;intro a w h
      refine zab (!(za1.tru ps a_.bits (za1.flat x1.f false)).2) h rfl (fun hc=>?_) (fun hc=>?_)
      ·have hc10:=hc;clear hc
       have hc10':=hc10;(try simp at hc10')
       refine rq za0 25 [] [(1,(vRs ps)),(5,vp 20 0),(6,.t (.c (.d (.raw za5)))),(7,vb false),(8,.t (.c (.own 21 ((props.take j).map (fun p=>(zar ps a_ p).1)).length))),(11,vb (za1.tru ps a_.bits (za1.flat x1.f false)).1),(13,.t (.c (.d (.sl 9 (props.map zam.d))))),(14,vi .i64 (props.length:Int)),(15,vi .i64 (j:Int))] [(20,.box [cIs a_.locs,.d (.sl 1 (a_.bits.map za6))]),(21,.row 4 1 (((props.take j).map (fun p=>(zar ps a_ p).1)).map za6))] h ?_;clear h;intro a w h
       refine wp_ret (za9 (zaf (za9 (za9 (zaf (za9 ?_))))))
       replace h:=nilDSs 6 0 1 (.t (.c (.d (.raw za5)))) [(1,(vRs ps)),(5,vp 20 0),(6,.t (.c (.d (.sl 1 ([].map za6))))),(7,vb false),(8,.t (.c (.own 21 ((props.take j).map (fun p=>(zar ps a_ p).1)).length))),(11,vb (za1.tru ps a_.bits (za1.flat x1.f false)).1),(13,.t (.c (.d (.sl 9 (props.map zam.d))))),(14,vi .i64 (props.length:Int)),(15,vi .i64 (j:Int))] [(20,.box [cIs a_.locs,.d (.sl 1 (a_.bits.map za6))]),(21,.row 4 1 (((props.take j).map (fun p=>(zar ps a_ p).1)).map za6))] h rfl rfl
       refine zan [.c (.d (.sl 1 ([].map za6))),.c (cB false)] h Exit.ret (.inl rfl)  rfl ⟨RV.tmp _ _ rfl,RV.tmp _ _ rfl,trivial⟩ ?_
       have hz:zbp props ps a_=([],false):=by unfold zbp;rw [zba hx1 (show (zar ps a_ x1).2=false from by rw [zgn (show (x1.at_)=false from by simpa using hc9)];have:=hc10;simpa using this)];rfl
       rw [hz];first | done | rfl
      ·have hc11:=hc;clear hc
       have hc11':=hc11;(try simp at hc11')
       refine wp_skip (za4 (rn za0 25 [(2,.gen _ _ _ fun _ _ _ _=>Op.buildD (d:=58) (len:=1) (rows:=[(za1.tru ps a_.bits (za1.flat x1.f false)).1].map za6) (rs:=[(57,vb (za1.tru ps a_.bits (za1.flat x1.f false)).1)]) le5_3 (.cons (i:=0) (OV.tmp 57 _) (.nil)) (by kernel_rfl) rfl (by simp [za6]) (by decide) (by decide)),(3,.gen _ _ _ fun _ _ _ _=>Op.appOD (d:=59) (t:=56) (u:=58) (n:=21) (n':=25) (len:=((props.take j).map (fun p=>(zar ps a_ p).1)).length) (len':=(((props.take j).map (fun p=>(zar ps a_ p).1))++[(za1.tru ps a_.bits (za1.flat x1.f false)).1]).length) (rows:=((props.take j).map (fun p=>(zar ps a_ p).1)).map za6) (rows2:=[(za1.tru ps a_.bits (za1.flat x1.f false)).1].map za6) (rows':=(((props.take j).map (fun p=>(zar ps a_ p).1))++[(za1.tru ps a_.bits (za1.flat x1.f false)).1]).map za6) le5_4 (by first | exact (List.length_map _).symm | simp) (by first | (rw [List.length_append,List.length_map];done) | simp) (by simp) (by simp [za6]) (by first | omega | (simp at *;done) | (simp at *;omega)))] [(1,(vRs ps)),(5,vp 20 0),(8,.t (.c (.own 25 (((props.take j).map (fun p=>(zar ps a_ p).1))++[(za1.tru ps a_.bits (za1.flat x1.f false)).1]).length))),(13,.t (.c (.d (.sl 9 (props.map zam.d))))),(14,vi .i64 (props.length:Int)),(15,vi .i64 (j:Int))] [(20,.box [cIs a_.locs,.d (.sl 1 (a_.bits.map za6))]),(25,.row 4 1 ((((props.take j).map (fun p=>(zar ps a_ p).1))++[(za1.tru ps a_.bits (za1.flat x1.f false)).1]).map za6))] h ?_));clear h;intro a w h
       refine zac (za4 (rn za0 26 [(0,.add .i64 (m:=(j:Int)) (n:=1) (zad (by omega) (by omega)))] [(1,(vRs ps)),(5,vp 20 0),(8,.t (.c (.own 25 (((props.take j).map (fun p=>(zar ps a_ p).1))++[(za1.tru ps a_.bits (za1.flat x1.f false)).1]).length))),(13,.t (.c (.d (.sl 9 (props.map zam.d))))),(14,vi .i64 (props.length:Int)),(15,vi .i64 ((j:Int)+1))] [(20,.box [cIs a_.locs,.d (.sl 1 (a_.bits.map za6))]),(25,.row 4 1 ((((props.take j).map (fun p=>(zar ps a_ p).1))++[(za1.tru ps a_.bits (za1.flat x1.f false)).1]).map za6))] h ?_));clear h;intro a w h
       refine za4 ?_
       have hla:zar ps a_ x1=((za1.tru ps a_.bits (za1.flat x1.f false)).1,((za1.flat x1.f false).tru ps a_.bits).2):=zgn (show (x1.at_)=false from by simpa using hc9)
       replace h:=h.conv (f':=F.of [(1,(vRs ps)),(5,vp 20 0),(8,.t (.c (.own 25 ((props.take (j+1)).map (fun p=>(zar ps a_ p).1)).length))),(13,.t (.c (.d (.sl 9 (props.map zam.d))))),(14,vi .i64 (props.length:Int)),(15,vi .i64 ((j:Int)+1))] [(20,.box [cIs a_.locs,.d (.sl 1 (a_.bits.map za6))]),(25,.row 4 1 (((props.take (j+1)).map (fun p=>(zar ps a_ p).1)).map za6))]) (congrArg (fun (z_:List Bool)=>F.of [(1,(vRs ps)),(5,vp 20 0),(8,.t (.c (.own 25 z_.length))),(13,.t (.c (.d (.sl 9 (props.map zam.d))))),(14,vi .i64 (props.length:Int)),(15,vi .i64 ((j:Int)+1))] [(20,.box [cIs a_.locs,.d (.sl 1 (a_.bits.map za6))]),(25,.row 4 1 (z_.map za6))]) (show ((((props.take j).map (fun p=>(zar ps a_ p).1))++[(za1.tru ps a_.bits (za1.flat x1.f false)).1]):List Bool)=((props.take (j+1)).map (fun p=>(zar ps a_ p).1)) from (by rw [← zc7 (f:=(fun p=>(zar ps a_ p).1)) hx1];congr 2;rw [hla])))
       replace h:=zcc 25 21 [(1,(vRs ps)),(5,vp 20 0),(8,.t (.c (.own 21 ((props.take (j+1)).map (fun p=>(zar ps a_ p).1)).length))),(13,.t (.c (.d (.sl 9 (props.map zam.d))))),(14,vi .i64 (props.length:Int)),(15,vi .i64 ((j:Int)+1))] [(20,.box [cIs a_.locs,.d (.sl 1 (a_.bits.map za6))]),(21,.row 4 1 (((props.take (j+1)).map (fun p=>(zar ps a_ p).1)).map za6))] h
       refine zak (x:=j) (y:=j+1) h ?_ ?_
       ·have:=zai hx1
        exact ⟨by omega,zbh hx1 hI2 (show (zar ps a_ x1).2=true from by rw [hla];have:=hc11;simpa using this)⟩
       ·show props.length - (j+1)<props.length - j
        have:=zai hx1;omega
     ·have hc12:=hc;clear hc
      have hc12':=hc12;(try simp at hc12')
      refine wp_skip (za4 (wp_seq (rq za0 26 [] [(1,(vRs ps)),(5,vp 20 0),(8,.t (.c (.own 21 ((props.take j).map (fun p=>(zar ps a_ p).1)).length))),(11,vb false),(13,.t (.c (.d (.sl 9 (props.map zam.d))))),(14,vi .i64 (props.length:Int)),(15,vi .i64 (j:Int)),(55,vb false)] [(20,.box [cIs a_.locs,.d (.sl 1 (a_.bits.map za6))]),(21,.row 4 1 (((props.take j).map (fun p=>(zar ps a_ p).1)).map za6))] h ?_)));clear h;intro a w h
      refine zab false h rfl (fun hc=>?_) (fun hc=>?_)
      ·cases hc
      ·clear hc
       refine wp_skip (za4 (rn za0 26 [(2,.gen _ _ _ fun _ _ _ _=>Op.buildD (d:=58) (len:=1) (rows:=[false].map za6) (rs:=[(57,vb false)]) le5_3 (.cons (i:=0) (OV.tmp 57 _) (.nil)) (by kernel_rfl) rfl (by simp [za6]) (by decide) (by decide)),(3,.gen _ _ _ fun _ _ _ _=>Op.appOD (d:=59) (t:=56) (u:=58) (n:=21) (n':=26) (len:=((props.take j).map (fun p=>(zar ps a_ p).1)).length) (len':=(((props.take j).map (fun p=>(zar ps a_ p).1))++[false]).length) (rows:=((props.take j).map (fun p=>(zar ps a_ p).1)).map za6) (rows2:=[false].map za6) (rows':=(((props.take j).map (fun p=>(zar ps a_ p).1))++[false]).map za6) le5_4 (by first | exact (List.length_map _).symm | simp) (by first | (rw [List.length_append,List.length_map];done) | simp) (by simp) (by simp [za6]) (by first | omega | (simp at *;done) | (simp at *;omega)))] [(1,(vRs ps)),(5,vp 20 0),(8,.t (.c (.own 26 (((props.take j).map (fun p=>(zar ps a_ p).1))++[false]).length))),(13,.t (.c (.d (.sl 9 (props.map zam.d))))),(14,vi .i64 (props.length:Int)),(15,vi .i64 (j:Int))] [(20,.box [cIs a_.locs,.d (.sl 1 (a_.bits.map za6))]),(26,.row 4 1 ((((props.take j).map (fun p=>(zar ps a_ p).1))++[false]).map za6))] h ?_));clear h;intro a w h
       refine zac (za4 (rn za0 27 [(0,.add .i64 (m:=(j:Int)) (n:=1) (zad (by omega) (by omega)))] [(1,(vRs ps)),(5,vp 20 0),(8,.t (.c (.own 26 (((props.take j).map (fun p=>(zar ps a_ p).1))++[false]).length))),(13,.t (.c (.d (.sl 9 (props.map zam.d))))),(14,vi .i64 (props.length:Int)),(15,vi .i64 ((j:Int)+1))] [(20,.box [cIs a_.locs,.d (.sl 1 (a_.bits.map za6))]),(26,.row 4 1 ((((props.take j).map (fun p=>(zar ps a_ p).1))++[false]).map za6))] h ?_));clear h;intro a w h
       refine za4 ?_
       have hla:zar ps a_ x1=(false,true):=by rw [letA_at (show (x1.at_)=true from by simpa using hc12),locB_no (.inr (by have:=of_decide_eq_false hc8;omega))]
       replace h:=h.conv (f':=F.of [(1,(vRs ps)),(5,vp 20 0),(8,.t (.c (.own 26 ((props.take (j+1)).map (fun p=>(zar ps a_ p).1)).length))),(13,.t (.c (.d (.sl 9 (props.map zam.d))))),(14,vi .i64 (props.length:Int)),(15,vi .i64 ((j:Int)+1))] [(20,.box [cIs a_.locs,.d (.sl 1 (a_.bits.map za6))]),(26,.row 4 1 (((props.take (j+1)).map (fun p=>(zar ps a_ p).1)).map za6))]) (congrArg (fun (z_:List Bool)=>F.of [(1,(vRs ps)),(5,vp 20 0),(8,.t (.c (.own 26 z_.length))),(13,.t (.c (.d (.sl 9 (props.map zam.d))))),(14,vi .i64 (props.length:Int)),(15,vi .i64 ((j:Int)+1))] [(20,.box [cIs a_.locs,.d (.sl 1 (a_.bits.map za6))]),(26,.row 4 1 (z_.map za6))]) (show ((((props.take j).map (fun p=>(zar ps a_ p).1))++[false]):List Bool)=((props.take (j+1)).map (fun p=>(zar ps a_ p).1)) from (by rw [← zc7 (f:=(fun p=>(zar ps a_ p).1)) hx1];congr 2;rw [hla])))
       replace h:=zcc 26 21 [(1,(vRs ps)),(5,vp 20 0),(8,.t (.c (.own 21 ((props.take (j+1)).map (fun p=>(zar ps a_ p).1)).length))),(13,.t (.c (.d (.sl 9 (props.map zam.d))))),(14,vi .i64 (props.length:Int)),(15,vi .i64 ((j:Int)+1))] [(20,.box [cIs a_.locs,.d (.sl 1 (a_.bits.map za6))]),(21,.row 4 1 (((props.take (j+1)).map (fun p=>(zar ps a_ p).1)).map za6))] h
       refine zak (x:=j) (y:=j+1) h ?_ ?_
       ·have:=zai hx1
        exact ⟨by omega,zbh hx1 hI2 (show (zar ps a_ x1).2=true from by rw [hla])⟩
       ·show props.length - (j+1)<props.length - j
        have:=zai hx1;omega
   ·have hc13:=hc;clear hc
    have hc13':=of_decide_eq_false hc13
    refine rq za0 27 [(2,.cmp (op := .geq) (m:=x1.proc) (n:=0) (b:=false) .i64 hc13)] [(1,(vRs ps)),(5,vp 20 0),(8,.t (.c (.own 21 ((props.take j).map (fun p=>(zar ps a_ p).1)).length))),(10,vp 22 0),(11,vb false),(12,vb true),(13,.t (.c (.d (.sl 9 (props.map zam.d))))),(14,vi .i64 (props.length:Int)),(15,vi .i64 (j:Int))] [(20,.box [cIs a_.locs,.d (.sl 1 (a_.bits.map za6))]),(21,.row 4 1 (((props.take j).map (fun p=>(zar ps a_ p).1)).map za6)),(22,.box ([cB x1.at_,cI x1.proc,cI x1.loc,cI x1.f.kind,cPs x1.f.r.t.parts]++zi x1.f.r.t.k++[cB x1.f.r.eq,cFs x1.f.kids]))] h ?_;clear h;intro a w h
    refine wp_seq (rq za0 27 [] [(1,(vRs ps)),(5,vp 20 0),(8,.t (.c (.own 21 ((props.take j).map (fun p=>(zar ps a_ p).1)).length))),(10,vp 22 0),(11,vb false),(12,vb true),(13,.t (.c (.d (.sl 9 (props.map zam.d))))),(14,vi .i64 (props.length:Int)),(15,vi .i64 (j:Int)),(43,vb (!x1.at_))] [(20,.box [cIs a_.locs,.d (.sl 1 (a_.bits.map za6))]),(21,.row 4 1 (((props.take j).map (fun p=>(zar ps a_ p).1)).map za6)),(22,.box ([cB x1.at_,cI x1.proc,cI x1.loc,cI x1.f.kind,cPs x1.f.r.t.parts]++zi x1.f.r.t.k++[cB x1.f.r.eq,cFs x1.f.kids]))] h ?_);clear h;intro a w h
    refine zab (!x1.at_) h rfl (fun hc=>?_) (fun hc=>?_)
    ·have hc14:=hc;clear hc
     have hc14':=hc14;(try simp at hc14')
     refine rn za0 27 [(2,.call (LFlat x1.f (za1.okB_mono (by decide) (by decide) _ (hpr.2 x1 (List.mem_of_getElem? hx1) (show (x1.at_)=false from by simpa using hc14)).1) (Nat.le_trans (hpr.2 x1 (List.mem_of_getElem? hx1) (show (x1.at_)=false from by simpa using hc14)).2 (by decide))) li9_6),(6,.call (Ltruth ps a_.bits hps ha.2 (za1.flat x1.f false) (zc6 (hpr.2 x1 (List.mem_of_getElem? hx1) (show (x1.at_)=false from by simpa using hc14))).1 (Nat.le_trans (zc6 (hpr.2 x1 (List.mem_of_getElem? hx1) (show (x1.at_)=false from by simpa using hc14))).2 (by decide))) lj10_3)] [(1,(vRs ps)),(5,vp 20 0),(8,.t (.c (.own 21 ((props.take j).map (fun p=>(zar ps a_ p).1)).length))),(11,vb (za1.tru ps a_.bits (za1.flat x1.f false)).1),(12,vb (za1.tru ps a_.bits (za1.flat x1.f false)).2),(13,.t (.c (.d (.sl 9 (props.map zam.d))))),(14,vi .i64 (props.length:Int)),(15,vi .i64 (j:Int))] [(20,.box [cIs a_.locs,.d (.sl 1 (a_.bits.map za6))]),(21,.row 4 1 (((props.take j).map (fun p=>(zar ps a_ p).1)).map za6))] h ?_;clear h;intro a w h
     refine za4 (wp_seq (rq za0 27 [] [(1,(vRs ps)),(5,vp 20 0),(8,.t (.c (.own 21 ((props.take j).map (fun p=>(zar ps a_ p).1)).length))),(11,vb (za1.tru ps a_.bits (za1.flat x1.f false)).1),(13,.t (.c (.d (.sl 9 (props.map zam.d))))),(14,vi .i64 (props.length:Int)),(15,vi .i64 (j:Int)),(55,vb (!(za1.tru ps a_.bits (za1.flat x1.f false)).2))] [(20,.box [cIs a_.locs,.d (.sl 1 (a_.bits.map za6))]),(21,.row 4 1 (((props.take j).map (fun p=>(zar ps a_ p).1)).map za6))] h ?_));clear h;intro a w h
     refine zab (!(za1.tru ps a_.bits (za1.flat x1.f false)).2) h rfl (fun hc=>?_) (fun hc=>?_)
     ·have hc15:=hc;clear hc
      have hc15':=hc15;(try simp at hc15')
      refine rq za0 27 [] [(1,(vRs ps)),(5,vp 20 0),(6,.t (.c (.d (.raw za5)))),(7,vb false),(8,.t (.c (.own 21 ((props.take j).map (fun p=>(zar ps a_ p).1)).length))),(11,vb (za1.tru ps a_.bits (za1.flat x1.f false)).1),(13,.t (.c (.d (.sl 9 (props.map zam.d))))),(14,vi .i64 (props.length:Int)),(15,vi .i64 (j:Int))] [(20,.box [cIs a_.locs,.d (.sl 1 (a_.bits.map za6))]),(21,.row 4 1 (((props.take j).map (fun p=>(zar ps a_ p).1)).map za6))] h ?_;clear h;intro a w h
      refine wp_ret (za9 (zaf (za9 (za9 (zaf (za9 ?_))))))
      replace h:=nilDSs 6 0 1 (.t (.c (.d (.raw za5)))) [(1,(vRs ps)),(5,vp 20 0),(6,.t (.c (.d (.sl 1 ([].map za6))))),(7,vb false),(8,.t (.c (.own 21 ((props.take j).map (fun p=>(zar ps a_ p).1)).length))),(11,vb (za1.tru ps a_.bits (za1.flat x1.f false)).1),(13,.t (.c (.d (.sl 9 (props.map zam.d))))),(14,vi .i64 (props.length:Int)),(15,vi .i64 (j:Int))] [(20,.box [cIs a_.locs,.d (.sl 1 (a_.bits.map za6))]),(21,.row 4 1 (((props.take j).map (fun p=>(zar ps a_ p).1)).map za6))] h rfl rfl
      refine zan [.c (.d (.sl 1 ([].map za6))),.c (cB false)] h Exit.ret (.inl rfl)  rfl ⟨RV.tmp _ _ rfl,RV.tmp _ _ rfl,trivial⟩ ?_
      have hz:zbp props ps a_=([],false):=by unfold zbp;rw [zba hx1 (show (zar ps a_ x1).2=false from by rw [zgn (show (x1.at_)=false from by simpa using hc14)];have:=hc15;simpa using this)];rfl
      rw [hz];first | done | rfl
     ·have hc16:=hc;clear hc
      have hc16':=hc16;(try simp at hc16')
      refine wp_skip (za4 (rn za0 27 [(2,.gen _ _ _ fun _ _ _ _=>Op.buildD (d:=58) (len:=1) (rows:=[(za1.tru ps a_.bits (za1.flat x1.f false)).1].map za6) (rs:=[(57,vb (za1.tru ps a_.bits (za1.flat x1.f false)).1)]) le5_3 (.cons (i:=0) (OV.tmp 57 _) (.nil)) (by kernel_rfl) rfl (by simp [za6]) (by decide) (by decide)),(3,.gen _ _ _ fun _ _ _ _=>Op.appOD (d:=59) (t:=56) (u:=58) (n:=21) (n':=27) (len:=((props.take j).map (fun p=>(zar ps a_ p).1)).length) (len':=(((props.take j).map (fun p=>(zar ps a_ p).1))++[(za1.tru ps a_.bits (za1.flat x1.f false)).1]).length) (rows:=((props.take j).map (fun p=>(zar ps a_ p).1)).map za6) (rows2:=[(za1.tru ps a_.bits (za1.flat x1.f false)).1].map za6) (rows':=(((props.take j).map (fun p=>(zar ps a_ p).1))++[(za1.tru ps a_.bits (za1.flat x1.f false)).1]).map za6) le5_4 (by first | exact (List.length_map _).symm | simp) (by first | (rw [List.length_append,List.length_map];done) | simp) (by simp) (by simp [za6]) (by first | omega | (simp at *;done) | (simp at *;omega)))] [(1,(vRs ps)),(5,vp 20 0),(8,.t (.c (.own 27 (((props.take j).map (fun p=>(zar ps a_ p).1))++[(za1.tru ps a_.bits (za1.flat x1.f false)).1]).length))),(13,.t (.c (.d (.sl 9 (props.map zam.d))))),(14,vi .i64 (props.length:Int)),(15,vi .i64 (j:Int))] [(20,.box [cIs a_.locs,.d (.sl 1 (a_.bits.map za6))]),(27,.row 4 1 ((((props.take j).map (fun p=>(zar ps a_ p).1))++[(za1.tru ps a_.bits (za1.flat x1.f false)).1]).map za6))] h ?_));clear h;intro a w h
      refine zac (za4 (rn za0 28 [(0,.add .i64 (m:=(j:Int)) (n:=1) (zad (by omega) (by omega)))] [(1,(vRs ps)),(5,vp 20 0),(8,.t (.c (.own 27 (((props.take j).map (fun p=>(zar ps a_ p).1))++[(za1.tru ps a_.bits (za1.flat x1.f false)).1]).length))),(13,.t (.c (.d (.sl 9 (props.map zam.d))))),(14,vi .i64 (props.length:Int)),(15,vi .i64 ((j:Int)+1))] [(20,.box [cIs a_.locs,.d (.sl 1 (a_.bits.map za6))]),(27,.row 4 1 ((((props.take j).map (fun p=>(zar ps a_ p).1))++[(za1.tru ps a_.bits (za1.flat x1.f false)).1]).map za6))] h ?_));clear h;intro a w h
      refine za4 ?_
      have hla:zar ps a_ x1=((za1.tru ps a_.bits (za1.flat x1.f false)).1,((za1.flat x1.f false).tru ps a_.bits).2):=zgn (show (x1.at_)=false from by simpa using hc14)
      replace h:=h.conv (f':=F.of [(1,(vRs ps)),(5,vp 20 0),(8,.t (.c (.own 27 ((props.take (j+1)).map (fun p=>(zar ps a_ p).1)).length))),(13,.t (.c (.d (.sl 9 (props.map zam.d))))),(14,vi .i64 (props.length:Int)),(15,vi .i64 ((j:Int)+1))] [(20,.box [cIs a_.locs,.d (.sl 1 (a_.bits.map za6))]),(27,.row 4 1 (((props.take (j+1)).map (fun p=>(zar ps a_ p).1)).map za6))]) (congrArg (fun (z_:List Bool)=>F.of [(1,(vRs ps)),(5,vp 20 0),(8,.t (.c (.own 27 z_.length))),(13,.t (.c (.d (.sl 9 (props.map zam.d))))),(14,vi .i64 (props.length:Int)),(15,vi .i64 ((j:Int)+1))] [(20,.box [cIs a_.locs,.d (.sl 1 (a_.bits.map za6))]),(27,.row 4 1 (z_.map za6))]) (show ((((props.take j).map (fun p=>(zar ps a_ p).1))++[(za1.tru ps a_.bits (za1.flat x1.f false)).1]):List Bool)=((props.take (j+1)).map (fun p=>(zar ps a_ p).1)) from (by rw [← zc7 (f:=(fun p=>(zar ps a_ p).1)) hx1];congr 2;rw [hla])))
      replace h:=zcc 27 21 [(1,(vRs ps)),(5,vp 20 0),(8,.t (.c (.own 21 ((props.take (j+1)).map (fun p=>(zar ps a_ p).1)).length))),(13,.t (.c (.d (.sl 9 (props.map zam.d))))),(14,vi .i64 (props.length:Int)),(15,vi .i64 ((j:Int)+1))] [(20,.box [cIs a_.locs,.d (.sl 1 (a_.bits.map za6))]),(21,.row 4 1 (((props.take (j+1)).map (fun p=>(zar ps a_ p).1)).map za6))] h
      refine zak (x:=j) (y:=j+1) h ?_ ?_
      ·have:=zai hx1
       exact ⟨by omega,zbh hx1 hI2 (show (zar ps a_ x1).2=true from by rw [hla];have:=hc16;simpa using this)⟩
      ·show props.length - (j+1)<props.length - j
       have:=zai hx1;omega
    ·have hc17:=hc;clear hc
     have hc17':=hc17;(try simp at hc17')
     refine wp_skip (za4 (wp_seq (rq za0 28 [] [(1,(vRs ps)),(5,vp 20 0),(8,.t (.c (.own 21 ((props.take j).map (fun p=>(zar ps a_ p).1)).length))),(11,vb false),(13,.t (.c (.d (.sl 9 (props.map zam.d))))),(14,vi .i64 (props.length:Int)),(15,vi .i64 (j:Int)),(55,vb false)] [(20,.box [cIs a_.locs,.d (.sl 1 (a_.bits.map za6))]),(21,.row 4 1 (((props.take j).map (fun p=>(zar ps a_ p).1)).map za6))] h ?_)));clear h;intro a w h
     refine zab false h rfl (fun hc=>?_) (fun hc=>?_)
     ·cases hc
     ·clear hc
      refine wp_skip (za4 (rn za0 28 [(2,.gen _ _ _ fun _ _ _ _=>Op.buildD (d:=58) (len:=1) (rows:=[false].map za6) (rs:=[(57,vb false)]) le5_3 (.cons (i:=0) (OV.tmp 57 _) (.nil)) (by kernel_rfl) rfl (by simp [za6]) (by decide) (by decide)),(3,.gen _ _ _ fun _ _ _ _=>Op.appOD (d:=59) (t:=56) (u:=58) (n:=21) (n':=28) (len:=((props.take j).map (fun p=>(zar ps a_ p).1)).length) (len':=(((props.take j).map (fun p=>(zar ps a_ p).1))++[false]).length) (rows:=((props.take j).map (fun p=>(zar ps a_ p).1)).map za6) (rows2:=[false].map za6) (rows':=(((props.take j).map (fun p=>(zar ps a_ p).1))++[false]).map za6) le5_4 (by first | exact (List.length_map _).symm | simp) (by first | (rw [List.length_append,List.length_map];done) | simp) (by simp) (by simp [za6]) (by first | omega | (simp at *;done) | (simp at *;omega)))] [(1,(vRs ps)),(5,vp 20 0),(8,.t (.c (.own 28 (((props.take j).map (fun p=>(zar ps a_ p).1))++[false]).length))),(13,.t (.c (.d (.sl 9 (props.map zam.d))))),(14,vi .i64 (props.length:Int)),(15,vi .i64 (j:Int))] [(20,.box [cIs a_.locs,.d (.sl 1 (a_.bits.map za6))]),(28,.row 4 1 ((((props.take j).map (fun p=>(zar ps a_ p).1))++[false]).map za6))] h ?_));clear h;intro a w h
      refine zac (za4 (rn za0 29 [(0,.add .i64 (m:=(j:Int)) (n:=1) (zad (by omega) (by omega)))] [(1,(vRs ps)),(5,vp 20 0),(8,.t (.c (.own 28 (((props.take j).map (fun p=>(zar ps a_ p).1))++[false]).length))),(13,.t (.c (.d (.sl 9 (props.map zam.d))))),(14,vi .i64 (props.length:Int)),(15,vi .i64 ((j:Int)+1))] [(20,.box [cIs a_.locs,.d (.sl 1 (a_.bits.map za6))]),(28,.row 4 1 ((((props.take j).map (fun p=>(zar ps a_ p).1))++[false]).map za6))] h ?_));clear h;intro a w h
      refine za4 ?_
      have hla:zar ps a_ x1=(false,true):=by rw [letA_at (show (x1.at_)=true from by simpa using hc17),locB_no (.inl (by have:=of_decide_eq_false hc13;omega))]
      replace h:=h.conv (f':=F.of [(1,(vRs ps)),(5,vp 20 0),(8,.t (.c (.own 28 ((props.take (j+1)).map (fun p=>(zar ps a_ p).1)).length))),(13,.t (.c (.d (.sl 9 (props.map zam.d))))),(14,vi .i64 (props.length:Int)),(15,vi .i64 ((j:Int)+1))] [(20,.box [cIs a_.locs,.d (.sl 1 (a_.bits.map za6))]),(28,.row 4 1 (((props.take (j+1)).map (fun p=>(zar ps a_ p).1)).map za6))]) (congrArg (fun (z_:List Bool)=>F.of [(1,(vRs ps)),(5,vp 20 0),(8,.t (.c (.own 28 z_.length))),(13,.t (.c (.d (.sl 9 (props.map zam.d))))),(14,vi .i64 (props.length:Int)),(15,vi .i64 ((j:Int)+1))] [(20,.box [cIs a_.locs,.d (.sl 1 (a_.bits.map za6))]),(28,.row 4 1 (z_.map za6))]) (show ((((props.take j).map (fun p=>(zar ps a_ p).1))++[false]):List Bool)=((props.take (j+1)).map (fun p=>(zar ps a_ p).1)) from (by rw [← zc7 (f:=(fun p=>(zar ps a_ p).1)) hx1];congr 2;rw [hla])))
      replace h:=zcc 28 21 [(1,(vRs ps)),(5,vp 20 0),(8,.t (.c (.own 21 ((props.take (j+1)).map (fun p=>(zar ps a_ p).1)).length))),(13,.t (.c (.d (.sl 9 (props.map zam.d))))),(14,vi .i64 (props.length:Int)),(15,vi .i64 ((j:Int)+1))] [(20,.box [cIs a_.locs,.d (.sl 1 (a_.bits.map za6))]),(21,.row 4 1 (((props.take (j+1)).map (fun p=>(zar ps a_ p).1)).map za6))] h
      refine zak (x:=j) (y:=j+1) h ?_ ?_
      ·have:=zai hx1
       exact ⟨by omega,zbh hx1 hI2 (show (zar ps a_ x1).2=true from by rw [hla])⟩
      ·show props.length - (j+1)<props.length - j
       have:=zai hx1;omega
  ·have hc18:=hc;clear hc
   have hc18':=of_decide_eq_false hc18
   refine wp_exit (zah (zah (za8 (za4 (rq za0 29 [] [(6,.t (.c (.own 21 ((props.take j).map (fun p=>(zar ps a_ p).1)).length))),(7,vb true)] [(21,.row 4 1 (((props.take j).map (fun p=>(zar ps a_ p).1)).map za6))] h ?_)))));clear h;intro a w h
   refine wp_ret ?_
   replace h:=pubS 21 1 4 (((props.take j).map (fun p=>(zar ps a_ p).1)).map za6) [(6,.t (.c (.d (.sl 1 (((props.take j).map (fun p=>(zar ps a_ p).1)).map za6))))),(7,vb true)] [] h rfl (show zcd _ [((props.take j).map (fun p=>(zar ps a_ p).1)).length] from ⟨by first | exact (List.length_map _).symm | (simp;done) | (simp;omega),trivial⟩) trivial
   refine zan [.c (.d (.sl 1 (((props.take j).map (fun p=>(zar ps a_ p).1)).map za6))),.c (cB true)] h Exit.ret (.inl rfl)  rfl ⟨RV.tmp _ _ rfl,RV.tmp _ _ rfl,trivial⟩ ?_
   have hz:zbp props ps a_=(((props.take j).map (fun p=>(zar ps a_ p).1)),true):=by unfold zbp;rw [if_pos (zd4 (by omega) hI2),List.take_of_length_le (by omega)]
   rw [hz];first | done | rfl
end
section
open Go.RowKit

def zag (n:Int):zaa:=⟨⟨[⟨0,ZI.of 1⟩],ZI.of (0 - n)⟩,false⟩
def f0:za1:=⟨0,zR,[]⟩
def atE (r:zaa):za1:=⟨2,r,[]⟩
def zcm:List zam:=[⟨true,0,0,f0⟩,⟨false,0,0,atE (zag 2)⟩]
def stE:StD:=⟨[0],[ZI.of 5]⟩
def aE:ze1:=⟨[0],[true]⟩
theorem te1:ofA [zag 2] stE=aE:=by kernel_rfl
theorem te2:zaz (zag 2)=(zag 2,0):=by kernel_rfl
theorem te3:(atE (zag 2)).flat false=atE (zag 2):=by rw [flat_2f rfl rfl];unfold zao;rw [show (atE (zag 2)).r=zag 2 from rfl,te2];rfl
theorem te4:atR [] (zag 2)=-1:=rfl
theorem te5:cpR (zag 2)=zag 2:=by kernel_rfl
theorem te6:baseL zcm=[zag 2]:=by
 show zal (zal [] ⟨true,0,0,f0⟩) ⟨false,0,0,atE (zag 2)⟩=_
 unfold zal
 rw [if_neg (by decide),if_pos rfl]
 show ((atE (zag 2)).flat false).gath []=_
 rw [te3,zh8 rfl (by rw [show (atE (zag 2)).r=zag 2 from rfl,te4];decide)]
 show []++[cpR (zag 2)]=_
 rw [te5];rfl
theorem te7:baseR zcm=([zag 2],0):=by unfold baseR;rw [te6];rfl
theorem te8:atR [zag 2] (zag 2)=((0:Nat):Int):=by kernel_rfl
theorem te9:(atE (zag 2)).tru [zag 2] [true]=(true,true):=tru_at rfl te8 rfl
theorem te10:zbp zcm [zag 2] aE=([true,true],true):=by
 unfold zbp zcm
 have h1:zar [zag 2] aE ⟨true,0,0,f0⟩=(true,true):=by rw [letA_at rfl];rfl
 have h2:zar [zag 2] aE ⟨false,0,0,atE (zag 2)⟩=(true,true):=by rw [zgn rfl];show ((atE (zag 2)).flat false).tru _ _=_;rw [te3];exact te9
 simp [h1,h2]
theorem te11:zbp zcm [] aE=([],false):=by
 unfold zbp zcm
 have h2:zar [] aE ⟨false,0,0,atE (zag 2)⟩=(false,false):=by rw [zgn rfl];show ((atE (zag 2)).flat false).tru _ _=_;rw [te3];exact tru_no rfl (.inl (by rw [show (atE (zag 2)).r=zag 2 from rfl,te4];decide))
 simp [h2]
theorem te12:(zdy [zag 2] [false]).holds []=true:=by
 unfold zdy
 rw [all_holds]
 show ((zg7 (zag 2) false).holds [] && true)=true
 unfold zg7
 rw [if_neg (by decide),deny_holds,zgf]
 kernel_rfl
theorem te13:cmpA aE aE=0:=by kernel_rfl
theorem te14:cmpA aE ⟨[0],[false]⟩=1:=by kernel_rfl
theorem te16:cpR (zag 3)=zag 3:=by kernel_rfl
theorem te17:atR [zag 2] (zag 3)=-1:=by kernel_rfl
theorem te15:gathT [zag 2] (atE (zag 3))=[zag 2,zag 3]:=by
 have h:(atE (zag 3)).gath [zag 2]=[zag 2]++[cpR (zag 3)]:=zh8 (f:=atE (zag 3)) (ps:=[zag 2]) rfl (by rw [show (atE (zag 3)).r=zag 3 from rfl,te17];decide)
 unfold gathT
 rw [List.map_cons,te5,List.map_nil,h,te16];rfl
set_option maxHeartbeats 4000000 in
theorem Lleast (n:Int) (hn:-1000≤n∧n≤1000):Fn Tryz.prog 29 [] [vi .i64 n] (vR (zag n)) []:=by
 refine Fn.body Tryz.func29 rfl 11 rfl fun w H B a h=>?_
 refine rq za0 0 [] [(0,vi .i64 n),(2,vp 0 0)] [(0,.box [.d (.raw za5),cB false,.d (nsl []),cB false])] h ?_;clear h;intro a w h
 refine rq za0 1 [(0,.call (SROf 1 ⟨by omega,by omega⟩) tc_0),(2,.gen _ _ _ fun _ _ _ _=>Op.buildD (d:=5) (len:=1) (rows:=[(za2.mk 0 (ZI.of 1))].map za2.d) (rs:=[(4,.t (.agg ([cI 0]++zi (ZI.of 1))))]) tb_9 (.cons (i:=0) (OV.tmp 4 _) (.nil)) (by kernel_rfl) rfl (by simp [za2.d]) (by decide) (by decide)),(4,.sub .i64 (m:=0) (n:=n) (zad (by omega) (by omega))),(5,.call (SROf (0 - n) ⟨by omega,by omega⟩) tc_0)] [(2,vp 0 0)] [(0,.box ([cPs [(za2.mk 0 (ZI.of 1))]]++zi (ZI.of (0 - n))++[cB false]))] h ?_;clear h;intro a w h
 refine wp_ret ?_
 refine zan [.agg ([cPs [(za2.mk 0 (ZI.of 1))]]++zi (ZI.of (0 - n))++[cB false])] h Exit.ret (.inl rfl)  rfl ⟨RV.agg _ 0 0 _ _ _ _ la_1 rfl rfl rfl rfl,trivial⟩ ?_
 rfl
end
section
open Go.RowKit
end
section
open Go.RowKit
end
section
open Go.RowKit
end
section
open Go.RowKit
end
section
open Go.RowKit
end
section
open Go.RowKit
end
section
open Go.RowKit
end
section
open Go.RowKit
end
section
open Go.RowKit
end
section
open Go.RowKit

theorem kt_1:za7 Tryz.prog 31:=za7.mk' (by kernel_rfl)
def fewB (L:Nat) (b:BoundD):Bool:=decide ((b.lo.abs.length:Int)≤(L:Int)) && decide ((b.hi.abs.length:Int)≤(L:Int))
def formT (t:zbc):za1:=⟨2,⟨t,false⟩,[]⟩
def fewM (L:Nat) (m:MoveD):Bool:=fewF (formT m.t) 5 L
def fewA (L:Nat) (c:ActD):Bool:=(fewF c.guard 30 L && decide ((c.moves.length:Int)≤20)) && c.moves.all (fewM L)
def fewSys (L:Nat) (s:SysD):Bool:=(decide ((s.vars.length:Int)≤8∧(s.bounds.length:Int)≤20∧(s.procs.length:Int)≤6∧(s.acts.length:Int)≤20) && fewF s.init 30 L) && (s.bounds.all (fewB L) && s.acts.all (fewA L))
def zfr (L:Nat) (x:StD):Bool:=decide ((x.locs.length:Int)≤10∧(x.vals.length:Int)≤10) && x.vals.all fun z=>decide ((z.abs.length:Int)≤(L:Int))
/-- limbs that are limbs -/
structure SysRd (s:SysD):Prop where
  init:s.init.lb
  bnd:∀ b ∈ s.bounds,Lb b.lo.abs∧Lb b.hi.abs
  act:∀ c ∈ s.acts,c.guard.lb∧∀ m ∈ c.moves,TLb m.t
  len:s.bounds.length≤9223372036854775807∧s.acts.length≤9223372036854775807
  mlen:∀ c ∈ s.acts,c.moves.length≤9223372036854775807
def StRd (x:StD):Prop:=(∀ z ∈ x.vals,Lb z.abs)∧x.vals.length≤9223372036854775807
theorem fewF_ok {f:za1} {most:Int} {L:Nat} (h:fewF f most L=true) (hl:f.lb):f.ok L:=by unfold fewF at h;rw [Bool.and_eq_true] at h;exact za1.few_ok f h.2 hl
theorem formT_lb {t:zbc} (h:TLb t):(formT t).lb:=(za1.lb_eq _).2 ⟨⟨h,Nat.zero_le _⟩,fun g hg=>(by cases hg)⟩
theorem formT_ok {t:zbc} {L:Nat} (h:(formT t).ok L):TOk 20 L t:=((za1.ok_eq L _).1 h).1 rfl
theorem few_sys {L:Nat} {s:SysD} (h:fewSys L s=true) (hr:SysRd s):SysOk L s:=by
 unfold fewSys at h
 simp only [Bool.and_eq_true,decide_eq_true_eq,List.all_eq_true] at h
 obtain ⟨⟨⟨h1,h2,h3,h4⟩,h5⟩,h6,h7⟩:=h
 refine ⟨by omega,by omega,by omega,by omega,fun b hb=>?_,⟨hr.init,fewF_ok h5 hr.init⟩,fun c hc=>?_⟩
 ·have:=h6 b hb;unfold fewB at this;simp only [Bool.and_eq_true,decide_eq_true_eq] at this
  exact ⟨⟨(hr.bnd b hb).1,by omega⟩,(hr.bnd b hb).2,by omega⟩
 ·have:=h7 c hc;unfold fewA at this;simp only [Bool.and_eq_true,decide_eq_true_eq,List.all_eq_true] at this
  exact ⟨⟨(hr.act c hc).1,fewF_ok this.1.1 (hr.act c hc).1⟩,by omega,fun m hm=>formT_ok (fewF_ok (this.2 m hm) (formT_lb ((hr.act c hc).2 m hm)))⟩
theorem few_st {L:Nat} {x:StD} (h:zfr L x=true) (hr:StRd x):StOk L x:=by
 unfold zfr at h
 simp only [Bool.and_eq_true,decide_eq_true_eq,List.all_eq_true] at h
 exact ⟨by omega,by omega,fun z hz=>⟨hr.1 z hz,by have:=h.2 z hz;omega⟩⟩
set_option maxHeartbeats 4000000 in
theorem SFewSt (x:StD) (L:Nat) (hr:StRd x):Fn Tryz.prog 8 [] [.t (.agg [cIs x.locs,cZs x.vals]),vi .i64 (L:Int)] (vb (zfr L x)) []:=by
 have lv:=hr.2
 refine Fn.body Tryz.func8 rfl 32 rfl fun w H B a h=>?_
 refine rq za0 0 [] [(1,vi .i64 (L:Int)),(2,vp 0 0),(4,vb false)] [(0,.box [cIs x.locs,cZs x.vals])] h ?_;clear h;intro a w h
 refine wp_seq ?_
 rcases Bool.eq_false_or_eq_true (decide ((x.locs.length:Int)>10)) with hc | hc
 ·have hc1:=hc;clear hc
  have hc1':=of_decide_eq_true hc1
  refine rq za0 1 [(2,.len (c:=(cIs x.locs)) (n:=x.locs.length) (zae _ _ _)),(3,.cmp (op := .gtr) (m:=(x.locs.length:Int)) (n:=10) (b:=true) .i64 hc1)] [(1,vi .i64 (L:Int)),(2,vp 0 0),(4,vb false),(15,vb true)] [(0,.box [cIs x.locs,cZs x.vals])] h ?_;clear h;intro a w h
  refine zab true h rfl (fun hc=>?_) (fun hc=>?_)
  ·clear hc
   refine rq za0 1 [] [(1,vi .i64 (L:Int)),(2,vp 0 0),(4,vb false)] [(0,.box [cIs x.locs,cZs x.vals])] h ?_;clear h;intro a w h
   refine wp_ret (za9 ?_)
   refine zan [.c (cB false)] h Exit.ret (.inl rfl)  rfl ⟨RV.tmp _ _ rfl,trivial⟩ ?_
   have hz:zfr L x=false:=by unfold zfr;rw [decide_eq_false (p:=(x.locs.length:Int)≤10∧(x.vals.length:Int)≤10) (by have:=of_decide_eq_true hc1;omega)];rfl
   rw [hz];first | done | rfl
  ·cases hc
 ·have hc2:=hc;clear hc
  have hc2':=of_decide_eq_false hc2
  refine rq za0 1 [(2,.len (c:=(cIs x.locs)) (n:=x.locs.length) (zae _ _ _)),(3,.cmp (op := .gtr) (m:=(x.locs.length:Int)) (n:=10) (b:=false) .i64 hc2),(7,.len (c:=(cZs x.vals)) (n:=x.vals.length) (zae _ _ _))] [(1,vi .i64 (L:Int)),(2,vp 0 0),(4,vb false),(15,vb (decide ((x.vals.length:Int)>10)))] [(0,.box [cIs x.locs,cZs x.vals])] h ?_;clear h;intro a w h
  refine zab (decide ((x.vals.length:Int)>10)) h rfl (fun hc=>?_) (fun hc=>?_)
  ·have hc3:=hc;clear hc
   have hc3':=of_decide_eq_true hc3
   refine rq za0 1 [] [(1,vi .i64 (L:Int)),(2,vp 0 0),(4,vb false)] [(0,.box [cIs x.locs,cZs x.vals])] h ?_;clear h;intro a w h
   refine wp_ret (za9 ?_)
   refine zan [.c (cB false)] h Exit.ret (.inl rfl)  rfl ⟨RV.tmp _ _ rfl,trivial⟩ ?_
   have hz:zfr L x=false:=by unfold zfr;rw [decide_eq_false (p:=(x.locs.length:Int)≤10∧(x.vals.length:Int)≤10) (by have:=of_decide_eq_true hc3;omega)];rfl
   rw [hz];first | done | rfl
  ·have hc4:=hc;clear hc
   have hc4':=of_decide_eq_false hc4
   refine wp_skip (za4 (wp_seq (rq za0 1 [] [(1,vi .i64 (L:Int)),(2,vp 0 0),(4,vb false),(5,vi .i64 0)] [(0,.box [cIs x.locs,cZs x.vals])] h ?_)));clear h;intro a w h
   refine wp_block ?_
   refine zb1 (ι:=(Nat)) (fun (z_:(Nat))=>match z_ with | j=>j≤x.vals.length∧(x.vals.take j).all (fun z=>decide ((z.abs.length:Int)≤(L:Int)))=true)
     (fun (z_:(Nat))=>match z_ with | j=>[(1,vi .i64 (L:Int)),(2,vp 0 0),(5,vi .i64 (j:Int))])
     (fun (z_:(Nat))=>match z_ with | j=>[(0,.box [cIs x.locs,cZs x.vals])])
     (fun (z_:(Nat))=>match z_ with | j=>x.vals.length - j) 0 ?_ h (by kernel_rfl) (by kernel_rfl) ?_
   ·exact ⟨Nat.zero_le _,rfl⟩
   ·clear h;rintro j a w hI h
    change St _ (F.of [(1,vi .i64 (L:Int)),(2,vp 0 0),(5,vi .i64 (j:Int))] [(0,.box [cIs x.locs,cZs x.vals])]) a w at h
    obtain ⟨hI1,hI2⟩:=hI
    refine wp_seq (rq za0 1 [(3,.len (c:=(cZs x.vals)) (n:=x.vals.length) (zae _ _ _))] [(1,vi .i64 (L:Int)),(2,vp 0 0),(5,vi .i64 (j:Int)),(20,vb (decide ((j:Int)<(x.vals.length:Int))))] [(0,.box [cIs x.locs,cZs x.vals])] h ?_);clear h;intro a w h
    refine zab (decide ((j:Int)<(x.vals.length:Int))) h rfl (fun hc=>?_) (fun hc=>?_)
    ·have hc5:=hc;clear hc
     have hc5':=of_decide_eq_true hc5
     refine wp_skip (za4 (wp_seq (wp_block ?_)))
     obtain ⟨x1,hx1⟩:∃ z_:ZI,x.vals[j]?=some z_:=⟨_,List.getElem?_eq_getElem (by first | omega | (simp at *;omega))⟩
     refine rq za0 1 [(3,.gen _ _ _ fun _ _ _ _=>Op.idxD (d:=26) (t:=24) (k := .i64) tt_6 (zaj hx1 (f:=ziD)) (OV.tmp 25 _)),(6,.len (zdg x1.abs))] [(1,vi .i64 (L:Int)),(2,vp 0 0),(5,vi .i64 (j:Int)),(31,vb (decide ((x1.abs.length:Int)>(L:Int))))] [(0,.box [cIs x.locs,cZs x.vals])] h ?_;clear h;intro a w h
     refine zab (decide ((x1.abs.length:Int)>(L:Int))) h rfl (fun hc=>?_) (fun hc=>?_)
     ·have hc6:=hc;clear hc
      have hc6':=of_decide_eq_true hc6
      refine rq za0 1 [] [(1,vi .i64 (L:Int)),(2,vp 0 0),(4,vb false),(5,vi .i64 (j:Int))] [(0,.box [cIs x.locs,cZs x.vals])] h ?_;clear h;intro a w h
      refine wp_ret (zaf (za9 (za9 (zaf (za9 ?_)))))
      refine zan [.c (cB false)] h Exit.ret (.inl rfl)  rfl ⟨RV.tmp _ _ rfl,trivial⟩ ?_
      have hz:zfr L x=false:=by unfold zfr;rw [decide_eq_true (p:=(x.locs.length:Int)≤10∧(x.vals.length:Int)≤10) (by have:=of_decide_eq_false hc2;have:=of_decide_eq_false hc4;omega),Bool.true_and];exact zba hx1 (decide_eq_false (by have:=of_decide_eq_true hc6;omega))
      rw [hz];first | done | rfl
     ·have hc7:=hc;clear hc
      have hc7':=of_decide_eq_false hc7
      refine wp_skip (zac (za4 (rn za0 1 [(1,.add .i64 (m:=(j:Int)) (n:=1) (zad (by omega) (by omega)))] [(1,vi .i64 (L:Int)),(2,vp 0 0),(5,vi .i64 ((j:Int)+1))] [(0,.box [cIs x.locs,cZs x.vals])] h ?_)));clear h;intro a w h
      refine za4 ?_
      refine zak (x:=j) (y:=j+1) h ?_ ?_
      ·exact ⟨by have:=zai hx1;omega,zbh hx1 hI2 (decide_eq_true (by have:=of_decide_eq_false hc7;omega))⟩
      ·show x.vals.length - (j+1)<x.vals.length - j
       have:=zai hx1;omega
    ·have hc8:=hc;clear hc
     have hc8':=of_decide_eq_false hc8
     refine wp_exit (zah (zah (za8 (za4 (rq za0 1 [] [(4,vb true)] [] h ?_)))));clear h;intro a w h
     refine wp_ret ?_
     refine zan [.c (cB true)] h Exit.ret (.inl rfl)  rfl ⟨RV.tmp _ _ rfl,trivial⟩ ?_
     have hz:zfr L x=true:=by unfold zfr;rw [decide_eq_true (p:=(x.locs.length:Int)≤10∧(x.vals.length:Int)≤10) (by have:=of_decide_eq_false hc2;have:=of_decide_eq_false hc4;omega),Bool.true_and];exact zd4 (of_decide_eq_false hc8) hI2
     rw [hz];first | done | rfl
end
section
open Go.RowKit
end
section
open Go.RowKit

mutual
/-- y is x, with nil read as an empty slice here and there -/
inductive Wk:D→D→Prop
  | refl (x:D):Wk x x
  | nil (es:Nat):Wk (.raw za5) (.sl es [])
  | sl (es:Nat) (a b:List (List D)) (h:WkR a b):Wk (.sl es a) (.sl es b)
inductive WkL:List D→List D→Prop
  | nil:WkL [] []
  | cons (x y:D) (xs ys:List D) (h:Wk x y) (hs:WkL xs ys):WkL (x :: xs) (y :: ys)
inductive WkR:List (List D)→List (List D)→Prop
  | nil:WkR [] []
  | cons (x y:List D) (xs ys:List (List D)) (h:WkL x y) (hs:WkR xs ys):WkR (x :: xs) (y :: ys)
end
def WkM (x y:D):Prop:=∀ (H:Im) (v:Value),DR H x v→DR H y v
def WkLM (xs ys:List D):Prop:=xs.length=ys.length∧∀ j (h:j<xs.length) (h':j<ys.length),WkM xs[j] ys[j]
def WkRM (xs ys:List (List D)):Prop:=xs.length=ys.length∧∀ i (h:i<xs.length) (h':i<ys.length),WkLM xs[i] ys[i]
theorem Wk.sound {x y:D} (h:Wk x y):WkM x y:=by
 refine Wk.rec (motive_1:=fun x y _=>WkM x y) (motive_2:=fun x y _=>WkLM x y) (motive_3:=fun x y _=>WkRM x y) ?_ ?_ ?_ ?_ ?_ ?_ ?_ h
 ·intro x H v h;exact h
 ·intro es H v h
  cases h with
  | raw v h=>exact DR.nil _ _ _ (fun _=>rfl) (Nat.zero_le _)
 ·intro es a b _ ih H v h
  cases h with
  | nil es ao c h hc =>
   have:b=[]:=List.length_eq_zero_iff.1 ih.1.symm
   subst this
   exact DR.nil _ _ _ h hc
  | sl es rows bb o c arr ty fz vs hp hb hl hc hes hv hr =>
   rw [ih.1] at hp hl ⊢
   refine DR.sl es b bb o c arr ty fz vs hp hb hl hc (fun i hi=>?_) (fun i hi=>?_) (fun i hi j hj=>?_)
   ·have h0:i<a.length:=by rw [ih.1];exact hi
    rw [← (ih.2 i h0 hi).1];exact hes i h0
   ·exact hv i (by rw [ih.1];exact hi)
   ·have h0:i<a.length:=by rw [ih.1];exact hi
    have hj0:j<a[i].length:=by rw [(ih.2 i h0 hi).1];exact hj
    exact (ih.2 i h0 hi).2 j hj0 hj _ _ (hr i h0 j hj0)
 ·exact ⟨rfl,fun j h=>absurd h (Nat.not_lt_zero j)⟩
 ·intro x y xs ys _ _ h hs
  refine ⟨by simp [hs.1],fun j hj hj'=>?_⟩
  cases j with
  | zero=>exact h
  | succ j=>exact hs.2 j (by simpa using hj) (by simpa using hj')
 ·exact ⟨rfl,fun j h=>absurd h (Nat.not_lt_zero j)⟩
 ·intro x y xs ys _ _ h hs
  refine ⟨by simp [hs.1],fun j hj hj'=>?_⟩
  cases j with
  | zero=>exact h
  | succ j=>exact hs.2 j (by simpa using hj) (by simpa using hj')
inductive WkC:List C→List C→Prop
  | nil:WkC [] []
  | same (x:C) (xs ys:List C) (hs:WkC xs ys):WkC (x :: xs) (x :: ys)
  | d (x y:D) (xs ys:List C) (h:Wk x y) (hs:WkC xs ys):WkC (.d x :: xs) (.d y :: ys)
theorem WkC.sound {H:Im} {B:Bl} {xs ys:List C} (h:WkC xs ys):∀ {vs:List Value}, zb2 (CR H B) xs vs→zb2 (CR H B) ys vs:=by
 induction h with
 | nil=>exact fun h=>h
 | same x xs ys _ ih =>
  intro vs k
  cases vs with
  | nil=>exact k.elim
  | cons v vs=>exact ⟨k.1,ih k.2⟩
 | d x y xs ys h _ ih =>
  intro vs k
  cases vs with
  | nil=>exact k.elim
  | cons v vs=>exact ⟨h.sound H v k.1,ih k.2⟩
inductive WkV:V→V→Prop
  | refl (x:V):WkV x x
  | c (x y:D) (h:Wk x y):WkV (.t (.c (.d x))) (.t (.c (.d y)))
  | agg (xs ys:List C) (h:WkC xs ys):WkV (.t (.agg xs)) (.t (.agg ys))
theorem WkV.sound {H:Im} {B:Bl} {x y:V} (h:WkV x y) {v:Value} (k:VR H B x v):VR H B y v:=by
 cases h with
 | refl=>exact k
 | c x y h=>exact h.sound H v k
 | agg xs ys h=>obtain ⟨vs,e,k⟩:=k;exact ⟨vs,e,h.sound k⟩
inductive WkA:List V→List V→Prop
  | nil:WkA [] []
  | cons (x y:V) (xs ys:List V) (h:WkV x y) (hs:WkA xs ys):WkA (x :: xs) (y :: ys)
theorem WkA.sound {H:Im} {B:Bl} {xs ys:List V} (h:WkA xs ys):∀ {vs:List Value}, zb2 (VR H B) xs vs→zb2 (VR H B) ys vs:=by
 induction h with
 | nil=>exact fun h=>h
 | cons x y xs ys h _ ih =>
  intro vs k
  cases vs with
  | nil=>exact k.elim
  | cons v vs=>exact ⟨h.sound k.1,ih k.2⟩
theorem Fn.argw {P:Program} {k:FuncId} {ps qs:List (Nat × L)} {args args':List V} {res:V} (h:Fn P k ps args' res qs) (hw:WkA args args'):Fn P k ps args res qs :=
 fun w H B vals pre=>h w H B vals ⟨pre.sat,pre.loc,pre.priv,pre.inj,hw.sound pre.arg⟩
end
section
open Go.RowKit

theorem lm13_0:za7 Tryz.prog 29:=za7.mk' (by kernel_rfl)
theorem lm13_5:za7 Tryz.prog 23:=za7.mk' (by kernel_rfl)
theorem lm13_6:ElZ Tryz.prog 22 62 9:=ElZ.mk' Tryz.underlying22 _ _ rfl rfl (by kernel_rfl) (by kernel_rfl) (by kernel_rfl) (by decide)
theorem lm13_7:za7 Tryz.prog 9:=za7.mk' (by kernel_rfl)
theorem lm13_8:za7 Tryz.prog 11:=za7.mk' (by kernel_rfl)
theorem lm13_10:za7 Tryz.prog 27:=za7.mk' (by kernel_rfl)
theorem lm13_13:za7 Tryz.prog 18:=za7.mk' (by kernel_rfl)
theorem lm13_15:za7 Tryz.prog 20:=za7.mk' (by kernel_rfl)
theorem lea_tok (n:Int) (hn:-1000≤n∧n≤1000):TOk 20 3 (zag n).t:=⟨(show 1≤20 by decide),fun p hp=>by
 rw [List.mem_singleton.1 hp];exact ⟨ZI.lb_of _,show (ZI.of 1).abs.length≤3 from by decide⟩,ZI.lb_of _,Nat.le_trans (ZI.len_of (L:=2) (by have:=pw2;show ((0:Int) - n).natAbs<_;omega)) (by decide)⟩
theorem le2:TOk 20 3 (zag 2).t:=lea_tok 2 (by decide)
theorem le3:TOk 20 3 (zag 3).t:=lea_tok 3 (by decide)
theorem psE_ok:PsOkR [zag 2]:=⟨by decide,fun r hr=>by rw [List.mem_singleton.1 hr];exact le2.mono (by decide) (by decide)⟩
theorem stE_ok:StOk 10 stE:=⟨by decide,by decide,fun z hz=>by rw [List.mem_singleton.1 hz];exact ⟨ZI.lb_of _,show (ZI.of 5).abs.length≤10 from by decide⟩⟩
theorem propsE_ok:PropsOk zcm:=⟨by decide,fun p hp h=>by
 rcases List.mem_cons.1 hp with rfl | hp
 ·cases h
 ·rw [List.mem_singleton.1 hp];exact ⟨zfk (le2.mono (by decide) (by decide)),by rw [za1.wid_eq];decide⟩⟩
theorem psE_t:[zag 2].length≤1000000∧∀ p ∈ [zag 2],TOk 200 3000 p.t:=⟨by decide,fun p hp=>by rw [List.mem_singleton.1 hp];exact le2.mono (by decide) (by decide)⟩
theorem nil_t:([]:List zaa).length≤1000000∧∀ p ∈ ([]:List zaa),TOk 200 3000 p.t:=⟨by decide,fun p hp=>by cases hp⟩
theorem cubeE_ok:(zdy [zag 2] [false]).lb∧(zdy [zag 2] [false]).ok 10:=by
 have hz:TLb zR.t:=⟨zem,fun p hp=>by cases hp⟩
 have ha:(zd8 (zag 2)).cl=zd8 (zag 2):=by rw [cl_at rfl];show za1.mk 2 (cpR (cpR (zag 2))) []=_;rw [cpR_cpR];rfl
 have hd:(denyF (zd8 (zag 2))).cl=denyF (zd8 (zag 2)):=by rw [cl_kids (.inl rfl)];show za1.mk 3 zR [(zd8 (zag 2)).cl.cl]=za1.mk 3 zR [(zd8 (zag 2)).cl];rw [cl_cl]
 have e:zdy [zag 2] [false]=⟨4,zR,[⟨3,zR,[⟨2,cpR (zag 2),[]⟩]⟩]⟩:=by
  show za1.mk 4 zR [(zg7 (zag 2) false).cl]=_
  show za1.mk 4 zR [(denyF (zd8 (zag 2))).cl]=_
  rw [hd];show za1.mk 4 zR [za1.mk 3 zR [(zd8 (zag 2)).cl]]=_;rw [ha];rfl
 have hc:TOk 20 4 (cpR (zag 2)).t:=le2.plain (by decide)
 rw [e]
 constructor
 ·rw [za1.lb_eq]
  refine ⟨⟨hz,by decide⟩,fun g hg=>?_⟩
  rw [List.mem_singleton.1 hg,za1.lb_eq]
  refine ⟨⟨hz,by decide⟩,fun g hg=>?_⟩
  rw [List.mem_singleton.1 hg,za1.lb_eq]
  exact ⟨⟨⟨hc.kb,fun p hp=>(hc.ps p hp).1⟩,by decide⟩,fun g hg=>by cases hg⟩
 ·rw [za1.ok_eq]
  refine ⟨fun h=>absurd h (by decide),fun g hg=>?_⟩
  rw [List.mem_singleton.1 (show g ∈ [_] from hg),za1.ok_eq]
  refine ⟨fun h=>absurd h (by decide),fun g hg=>?_⟩
  rw [List.mem_singleton.1 (show g ∈ [_] from hg),za1.ok_eq]
  exact ⟨fun _=>hc.mono (by decide) (by decide),fun g hg=>by cases hg⟩
theorem wkQ:Wk (.sl 9 [[.raw (.bool true),.raw (.int .i64 0),.raw (.int .i64 0),.raw (.int .i64 0),.raw za5,.raw (.bool false),nsl [],.raw (.bool false),.raw za5],[.raw (.bool false),.raw (.int .i64 0),.raw (.int .i64 0),.raw (.int .i64 2),.sl 3 ((zag 2).t.parts.map za2.d),.raw (.bool (zag 2).t.k.neg),nsl (zag 2).t.k.abs,.raw (.bool (zag 2).eq),.raw za5]]) (.sl 9 (zcm.map zam.d)):=by
 refine Wk.sl _ _ _ (.cons _ _ _ _ ?_ (.cons _ _ _ _ ?_ .nil))
 all_goals repeat (first | exact WkL.nil | refine WkL.cons _ _ _ _ (by first | exact Wk.refl _ | exact Wk.nil _) ?_)
set_option maxHeartbeats 4000000 in
theorem Ltelling :Fn Tryz.prog 6 [] [] (vb true) []:=by
 refine Fn.body Tryz.func6 rfl 111 rfl fun w H B a h=>?_
 refine rq za0 0 [] [(0,vb false)] [] h ?_;clear h;intro a w h
 refine rq za0 0 [(0,.call (Lleast 2 (by decide)) lm13_0),(1,.gen _ _ _ fun _ _ _ _=>Op.buildD (d:=12) (len:=1) (rows:=[(zag 2)].map zaa.d) (rs:=[(11,(vR (zag 2)))]) kc_5 (.cons (i:=0) (OV.tmp 11 _) (.nil)) (by kernel_rfl) rfl (by simp [zaa.d]) (by decide) (by decide))] [(0,vb false),(1,(vRs [(zag 2)]))] [] h ?_;clear h;intro a w h
 refine rq za0 0 [(1,.gen _ _ _ fun _ _ _ _=>Op.buildD (d:=14) (len:=1) (rows:=[0].map zbk) (rs:=[]) tb_0 (.cons (i:=0) (OV.const (.int .i64 0) rfl) (.nil)) (by kernel_rfl) rfl (by simp [zbk]) (by decide) (by decide)),(2,.call (SROf 5 ⟨by decide,by decide⟩) tc_0),(3,.gen _ _ _ fun _ _ _ _=>Op.buildD (d:=16) (len:=1) (rows:=[(ZI.of 5)].map ziD) (rs:=[(15,vz (ZI.of 5))]) ty_5 (.cons (i:=0) (OV.tmp 15 _) (.nil)) (by kernel_rfl) rfl (by simp [ziD]) (by decide) (by decide)),(5,.call (Fn.cast (LabsOf [zag 2] stE psE_ok stE_ok) (show (.t (.agg [cIs (ofA [zag 2] stE).locs,.d (.sl 1 ((ofA [zag 2] stE).bits.map za6))]):V) = .t (.agg [cIs aE.locs,.d (.sl 1 (aE.bits.map za6))]) from by rw [te1])) lm13_5)] [(0,vb false),(1,(vRs [(zag 2)])),(2,vp 0 0)] [(0,.box [cIs aE.locs,.d (.sl 1 (aE.bits.map za6))])] h ?_;clear h;intro a w h
 refine rq za0 1 [(1,.call (Lleast 2 (by decide)) lm13_0),(4,.gen _ _ _ fun _ _ _ _=>Op.buildD (d:=23) (len:=2) (rows:=[[.raw (.bool true),.raw (.int .i64 0),.raw (.int .i64 0),.raw (.int .i64 0),.raw za5,.raw (.bool false),nsl [],.raw (.bool false),.raw za5],[.raw (.bool false),.raw (.int .i64 0),.raw (.int .i64 0),.raw (.int .i64 2),.sl 3 ((zag 2).t.parts.map za2.d),.raw (.bool (zag 2).t.k.neg),nsl (zag 2).t.k.abs,.raw (.bool (zag 2).eq),.raw za5]]) (rs:=[(19,.t (.agg [cB true,cI 0,cI 0,cI 0,.d (.raw za5),cB false,.d (nsl []),cB false,.d (.raw za5)])),(22,.t (.agg ([cB false,cI 0,cI 0,cI 2,cPs (zag 2).t.parts]++zi (zag 2).t.k++[cB (zag 2).eq,.d (.raw za5)])))]) lm13_6 (.cons (i:=0) (OV.tmp 19 _) (.cons (i:=1) (OV.tmp 22 _) (.nil))) (by kernel_rfl) rfl (by simp) (by decide) (by decide))] [(0,vb false),(1,(vRs [(zag 2)])),(2,vp 0 0),(3,.t (.c (.d (.sl 9 [[.raw (.bool true),.raw (.int .i64 0),.raw (.int .i64 0),.raw (.int .i64 0),.raw za5,.raw (.bool false),nsl [],.raw (.bool false),.raw za5],[.raw (.bool false),.raw (.int .i64 0),.raw (.int .i64 0),.raw (.int .i64 2),.sl 3 ((zag 2).t.parts.map za2.d),.raw (.bool (zag 2).t.k.neg),nsl (zag 2).t.k.abs,.raw (.bool (zag 2).eq),.raw za5]]))))] [(0,.box [cIs aE.locs,.d (.sl 1 (aE.bits.map za6))])] h ?_;clear h;intro a w h
 refine rq za0 1 [(1,.call (Fn.argw (Fn.cast (LBase zcm propsE_ok) (show (.tup [.c (cRs (baseR zcm).1),.c (cI (baseR zcm).2)]:V) = .tup [.c (cRs [zag 2]),.c (cI 0)] from by rw [te7])) (.cons _ _ _ _ (.c _ _ wkQ) .nil)) lm13_7)] [(0,vb false),(1,(vRs [(zag 2)])),(2,vp 0 0),(3,.t (.c (.d (.sl 9 [[.raw (.bool true),.raw (.int .i64 0),.raw (.int .i64 0),.raw (.int .i64 0),.raw za5,.raw (.bool false),nsl [],.raw (.bool false),.raw za5],[.raw (.bool false),.raw (.int .i64 0),.raw (.int .i64 0),.raw (.int .i64 2),.sl 3 ((zag 2).t.parts.map za2.d),.raw (.bool (zag 2).t.k.neg),nsl (zag 2).t.k.abs,.raw (.bool (zag 2).eq),.raw za5]])))),(4,(vRs [zag 2])),(5,vi .i64 0)] [(0,.box [cIs aE.locs,.d (.sl 1 (aE.bits.map za6))])] h ?_;clear h;intro a w h
 refine rq za0 1 [(3,.call (Fn.argw (Fn.cast (LLetter zcm [zag 2] aE propsE_ok psE_t (by decide)) (show (.tup [.c (.d (.sl 1 ((zbp zcm [zag 2] aE).1.map za6))),.c (cB (zbp zcm [zag 2] aE).2)]:V) = .tup [.c (.d (.sl 1 ([true,true].map za6))),.c (cB true)] from by rw [te10])) (.cons _ _ _ _ (.c _ _ wkQ) (.cons _ _ _ _ (.refl _) (.cons _ _ _ _ (.refl _) .nil)))) lm13_8)] [(0,vb false),(1,(vRs [(zag 2)])),(2,vp 0 0),(3,.t (.c (.d (.sl 9 [[.raw (.bool true),.raw (.int .i64 0),.raw (.int .i64 0),.raw (.int .i64 0),.raw za5,.raw (.bool false),nsl [],.raw (.bool false),.raw za5],[.raw (.bool false),.raw (.int .i64 0),.raw (.int .i64 0),.raw (.int .i64 2),.sl 3 ((zag 2).t.parts.map za2.d),.raw (.bool (zag 2).t.k.neg),nsl (zag 2).t.k.abs,.raw (.bool (zag 2).eq),.raw za5]])))),(4,(vRs [zag 2])),(5,vi .i64 0),(6,.t (.c (.d (.sl 1 ([true,true].map za6))))),(7,vb true)] [(0,.box [cIs aE.locs,.d (.sl 1 (aE.bits.map za6))])] h ?_;clear h;intro a w h
 refine rq za0 1 [(2,.call (Fn.argw (Fn.cast (LLetter zcm [] aE propsE_ok nil_t (by decide)) (show (.tup [.c (.d (.sl 1 ((zbp zcm [] aE).1.map za6))),.c (cB (zbp zcm [] aE).2)]:V) = .tup [.c (.d (.sl 1 ([].map za6))),.c (cB false)] from by rw [te11])) (.cons _ _ _ _ (.c _ _ wkQ) (.cons _ _ _ _ (.c _ _ (.nil _)) (.cons _ _ _ _ (.refl _) .nil)))) lm13_8)] [(0,vb false),(1,(vRs [(zag 2)])),(2,vp 0 0),(4,(vRs [zag 2])),(5,vi .i64 0),(6,.t (.c (.d (.sl 1 ([true,true].map za6))))),(7,vb true),(9,vb false)] [(0,.box [cIs aE.locs,.d (.sl 1 (aE.bits.map za6))])] h ?_;clear h;intro a w h
 refine rq za0 1 [(1,.gen _ _ _ fun _ _ _ _=>Op.buildD (d:=43) (len:=1) (rows:=[false].map za6) (rs:=[]) le5_3 (.cons (i:=0) (OV.const (.bool false) rfl) (.nil)) (by kernel_rfl) rfl (by simp [za6]) (by decide) (by decide)),(2,.call (LCube [zag 2] [false] psE_ok (by decide)) lm13_10)] [(0,vb false),(1,(vRs [(zag 2)])),(2,vp 0 0),(4,(vRs [zag 2])),(5,vi .i64 0),(6,.t (.c (.d (.sl 1 ([true,true].map za6))))),(7,vb true),(9,vb false),(10,vp 1 0)] [(0,.box [cIs aE.locs,.d (.sl 1 (aE.bits.map za6))]),(1,.box (zF (zdy [zag 2] [false])))] h ?_;clear h;intro a w h
 refine rq za0 2 [(2,.len (c:=(.d (.sl 1 (aE.bits.map za6)))) (n:=aE.bits.length) (zae _ _ _)),(3,.cmp (op := .eql) (m:=(aE.bits.length:Int)) (n:=1) (b:=true) .i64 (show ((aE.bits.length:Int) == 1)=true from by decide)),(7,.gen _ _ _ fun _ _ _ _=>Op.idxD (d:=52) (t:=51) (k := .i64) le5_9 (zaj (show aE.bits[0]?=some true from rfl) (f:=za6)) (OV.const (.int .i64 0) rfl)),(12,.cmp (op := .eql) (m:=0) (n:=0) (b:=true) .i64 (show ((0:Int) == 0)=true from by decide)),(16,.len (c:=(cRs [zag 2])) (n:=[zag 2].length) (zae _ _ _)),(17,.cmp (op := .eql) (m:=([zag 2].length:Int)) (n:=1) (b:=true) .i64 (show (([zag 2].length:Int) == 1)=true from by decide)),(24,.len (c:=(.d (.sl 1 ([true,true].map za6)))) (n:=[true,true].length) (zae _ _ _)),(25,.cmp (op := .eql) (m:=([true,true].length:Int)) (n:=2) (b:=true) .i64 (show (([true,true].length:Int) == 2)=true from by decide)),(29,.gen _ _ _ fun _ _ _ _=>Op.idxD (d:=74) (t:=73) (k := .i64) le5_9 (zaj (show [true,true][0]?=some true from rfl) (f:=za6)) (OV.const (.int .i64 0) rfl)),(34,.gen _ _ _ fun _ _ _ _=>Op.idxD (d:=79) (t:=78) (k := .i64) le5_9 (zaj (show [true,true][1]?=some true from rfl) (f:=za6)) (OV.const (.int .i64 1) rfl)),(43,.call (Fn.argw (Fn.cast (SRHolds [] (L:=10) (M:=10) (by decide) ⟨by decide,fun z hz=>by cases hz⟩ (zdy [zag 2] [false]) cubeE_ok.1 cubeE_ok.2) (show (vb ((zdy [zag 2] [false]).holds []):V)=vb true from by rw [te12])) (.cons _ _ _ _ (.refl _) (.cons _ _ _ _ (.c _ _ (.nil _)) .nil))) ke_10),(48,.call (Fn.cast (LSameA aE aE (by decide) (by decide)) (show (vb (cmpA aE aE == 0):V)=vb true from by rw [te13];rfl)) lm13_13),(52,.gen _ _ _ fun _ _ _ _=>Op.buildD (d:=97) (len:=1) (rows:=[0].map zbk) (rs:=[]) tb_0 (.cons (i:=0) (OV.const (.int .i64 0) rfl) (.nil)) (by kernel_rfl) rfl (by simp [zbk]) (by decide) (by decide)),(53,.gen _ _ _ fun _ _ _ _=>Op.buildD (d:=98) (len:=1) (rows:=[false].map za6) (rs:=[]) le5_3 (.cons (i:=0) (OV.const (.bool false) rfl) (.nil)) (by kernel_rfl) rfl (by simp [za6]) (by decide) (by decide)),(55,.call (Fn.cast (LCmpA aE (ze1.mk [0] [false]) (by decide) (by decide)) (show (vi .i64 (cmpA aE (ze1.mk [0] [false])):V)=vi .i64 1 from by rw [te14])) lf6_13),(56,.cmp (op := .eql) (m:=1) (n:=1) (b:=true) .i64 (show ((1:Int) == 1)=true from by decide)),(60,.call (Lleast 3 (by decide)) lm13_0),(62,.call (Fn.argw (Fn.cast (LGather [zag 2] (atE (zag 3)) (fun r hr=>by rw [List.mem_singleton.1 hr];exact le2.mono (by decide) (by decide)) (okA_atom (le3.mono (by decide) (by decide))) (by rw [za1.nodes_eq];decide)) (show ((vRs (gathT [zag 2] (atE (zag 3)))):V)=(vRs [zag 2,zag 3]) from by rw [te15])) (.cons _ _ _ _ (.refl _) (.cons _ _ _ _ (.agg _ _ (.same _ _ _ (.same _ _ _ (.same _ _ _ (.same _ _ _ (.same _ _ _ (.d _ _ _ _ (.nil _) .nil))))))) .nil))) lm13_15),(63,.len (c:=(cRs [zag 2,zag 3])) (n:=[zag 2,zag 3].length) (zae _ _ _)),(64,.cmp (op := .eql) (m:=([zag 2,zag 3].length:Int)) (n:=2) (b:=true) .i64 (show (([zag 2,zag 3].length:Int) == 2)=true from by decide))] [(0,vb true)] [] h ?_;clear h;intro a w h
 refine wp_ret ?_
 refine zan [.c (cB true)] h Exit.ret (.inl rfl)  rfl ⟨RV.tmp _ _ rfl,trivial⟩ ?_
 rfl
end
section
open Go.RowKit

theorem zR_lb:TLb zR.t:=⟨zem,fun p hp=>by cases hp⟩
theorem tru_lbok (L:Nat) (b:Bool):(zdi b).lb∧(zdi b).ok L:=by
 constructor
 ·rw [za1.lb_eq];exact ⟨⟨zR_lb,Nat.zero_le _⟩,fun g hg=>by cases hg⟩
 ·rw [za1.ok_eq];exact ⟨fun e=>by cases b <;> exact absurd e (by decide),fun g hg=>absurd (zbt hg) (by show g ∉ [];exact List.not_mem_nil)⟩
theorem TOk.lbT {n L:Nat} {t:zbc} (h:TOk n L t):TLb t:=⟨h.kb,fun p hp=>(h.ps p hp).1⟩
theorem cl_lbok {n L:Nat} (hn:n≤20) (f:za1):f.okB n L→f.cl.lb∧f.cl.ok (L+1) :=
 za1.ind (P:=fun f=>f.okB n L→f.cl.lb∧f.cl.ok (L+1)) (fun k r ks ih hf=>by
  obtain ⟨⟨h1,h2,h2'⟩,h3⟩:=(za1.okB_eq _ _ _).1 hf
  change k=2→_ at h1
  change (cnt k ks).length≤_ at h2'
  change ∀ g ∈ cnt k ks,_ at h3
  rw [cl_eq]
  show (zef id k r (ks.map za1.cl)).lb∧(zef id k r (ks.map za1.cl)).ok (L+1)
  unfold zef
  split
  ·exact tru_lbok _ _
  ·split
   ·rename_i e
    have hc:TOk n (L+1) (cpR r).t:=(h1 e).plain (by omega)
    constructor
    ·rw [za1.lb_eq];exact ⟨⟨hc.lbT,Nat.zero_le _⟩,fun g hg=>by cases hg⟩
    ·rw [za1.ok_eq];exact ⟨fun _=>hc.mono hn (Nat.le_refl _),fun g hg=>absurd (zbt hg) List.not_mem_nil⟩
   ·split
    ·rename_i hk2 h4
     have hg:∀ g ∈ cnt k (ks.map za1.cl),g.lb∧g.ok (L+1):=fun g hg=>by
      rw [zco] at hg
      obtain ⟨q,hq,rfl⟩:=List.mem_map.1 hg
      exact ih q (zbt hq) (h3 q hq)
     constructor
     ·rw [za1.lb_eq];exact ⟨⟨zR_lb,by show (cnt k (ks.map za1.cl)).length≤_;rw [zco,List.length_map];omega⟩,fun g h=>(hg g h).1⟩
     ·rw [za1.ok_eq];exact ⟨fun e=>absurd e hk2,fun g h=>(hg g (zbt h)).2⟩
    ·exact tru_lbok _ _) f
theorem all_lbok {n L:Nat} (hn:n≤20) {fs:List za1} (h:∀ g ∈ fs,g.okB n L) (hl:fs.length≤9223372036854775807):(allF fs).lb∧(allF fs).ok (L+1):=by
 have hg:∀ g ∈ fs.map za1.cl,g.lb∧g.ok (L+1):=fun g hg=>by
  obtain ⟨q,hq,rfl⟩:=List.mem_map.1 hg
  exact cl_lbok hn q (h q hq)
 constructor
 ·rw [za1.lb_eq];exact ⟨⟨zR_lb,by show (fs.map za1.cl).length≤_;rw [List.length_map];exact hl⟩,fun g h=>(hg g h).1⟩
 ·rw [za1.ok_eq];exact ⟨fun e=>absurd e (show (4:Int)≠2 by decide),fun g h=>(hg g (zbt h)).2⟩
theorem lit_ok20 {r:zaa} (hr:TOk 20 10 r.t) (b:Bool):(zg7 r b).okB 20 12:=by
 have h:(zd8 r).okB 20 11:=zfk (hr.plain (by decide))
 unfold zg7
 split
 ·exact za1.okB_mono (by decide) (by decide) _ h
 ·exact okB_kids (by decide) (by simp) fun g hg=>by rw [List.mem_singleton.1 hg];exact okB_cl (by decide) _ h
theorem zfv {ps:List zaa} (hps:PsOkR ps) (bs:List Bool):(zdy ps bs).lb∧(zdy ps bs).ok 13:=by
 refine all_lbok (n:=20) (L:=12) (by decide) (fun g hg=>?_) (by rw [zfu];have:=hps.1;omega)
 obtain ⟨j,hj,rfl⟩:=List.getElem_of_mem hg
 have hl:=zfu ps bs
 have e:(zbf ps bs)[j]'hj=zg7 (ps[j]'(by omega)) (bs[j]'(by omega)):=List.getElem_zipWith ..
 rw [e]
 exact lit_ok20 (hps.2 _ (List.getElem_mem _)) _
theorem lit_holds (vs:List ZI) (r:zaa) (b:Bool):(zg7 r b).holds vs=(zaq vs r == b):=by
 unfold zg7
 cases b with
 | true=>rw [if_pos rfl,zgf];cases zaq vs r <;> rfl
 | false=>rw [if_neg Bool.noConfusion,deny_holds,zgf];cases zaq vs r <;> rfl
def ze7 (ps:List zaa) (bs:List Bool) (vs:List ZI):Bool:=(List.zipWith (fun r b=>zaq vs r == b) ps bs).all id
theorem cube_holds (ps:List zaa) (bs:List Bool) (vs:List ZI):(zdy ps bs).holds vs=ze7 ps bs vs:=by
 unfold zdy ze7
 rw [all_holds]
 unfold zbf
 induction ps generalizing bs with
 | nil=>rfl
 | cons p ps ih =>
  cases bs with
  | nil=>rfl
  | cons b bs=>rw [List.zipWith_cons_cons,List.zipWith_cons_cons,List.all_cons,List.all_cons,lit_holds,ih];rfl
theorem want_own (ps:List zaa) (vs:List ZI):ze7 ps (ps.map (zaq vs)) vs=true:=by
 unfold ze7
 induction ps with
 | nil=>rfl
 | cons p ps ih=>rw [List.map_cons,List.zipWith_cons_cons,List.all_cons,ih];simp
theorem want_at {ps:List zaa} {bs:List Bool} {vs:List ZI} {j:Nat} {r:zaa} {b:Bool} (h:ps[j]?=some r) (k:bs[j]?=some b):ze7 (ps.take (j+1)) (bs.take (j+1)) vs=(ze7 (ps.take j) (bs.take j) vs && (zaq vs r == b)):=by
 obtain ⟨hj,rfl⟩:=List.getElem?_eq_some_iff.1 h
 obtain ⟨hk,rfl⟩:=List.getElem?_eq_some_iff.1 k
 unfold ze7
 rw [List.take_add_one,List.take_add_one,List.getElem?_eq_getElem hj,List.getElem?_eq_getElem hk]
 show (List.zipWith _ (ps.take j++[ps[j]]) (bs.take j++[bs[j]])).all id=_
 rw [List.zipWith_append (by rw [List.length_take,List.length_take];omega),List.all_append];simp
theorem want_out {ps:List zaa} {bs:List Bool} {vs:List ZI} {j:Nat} (h:bs.length≤j):ze7 (ps.take (j+1)) (bs.take (j+1)) vs=ze7 (ps.take j) (bs.take j) vs:=by
 unfold ze7
 have e:∀ n,bs.length≤n→List.zipWith (fun r b=>zaq vs r == b) (ps.take n) (bs.take n)=List.zipWith (fun r b=>zaq vs r == b) ps bs:=fun n hn=>by
  rw [List.take_of_length_le hn]
  have:List.zipWith (fun r b=>zaq vs r == b) (ps.take n) bs=(List.zipWith (fun r b=>zaq vs r == b) ps bs).take n:=by
   rw [List.take_zipWith,List.take_of_length_le hn]
  rw [this,List.take_of_length_le (by rw [List.length_zipWith];omega)]
 rw [e (j+1) (by omega),e j h]
end
section
open Go.RowKit

theorem ln14_4:SlT Tryz.prog 77 27 2:=SlT.mk' Tryz.underlying77 (by kernel_rfl)
def zfs (props:List zam) (ps:List zaa) (xs:List ze1):Bool:=props.all (fun p=>fewF p.f 20 3) && (xs.all (fun a=>decide (a.locs.length≤20∧a.bits.length≤40)) && (decide (props.length≤6) && zc9 ps 30 3))
set_option maxHeartbeats 4000000 in
theorem LFewRs (rs:List zaa) (most L:Int) (hl:rs.length≤9223372036854775807):Fn Tryz.prog 32 [] [(vRs rs),vi .i64 most,vi .i64 L] (vb (zc9 rs most L)) []:=by
 refine Fn.body Tryz.func32 rfl 64 rfl fun w H B a h=>?_
 refine rq za0 0 [] [(0,(vRs rs)),(1,vi .i64 most),(2,vi .i64 L),(6,vb false)] [] h ?_;clear h;intro a w h
 refine wp_seq (rq za0 0 [(1,.len (c:=(cRs rs)) (n:=rs.length) (zae _ _ _))] [(0,(vRs rs)),(2,vi .i64 L),(6,vb false),(12,vb (decide ((rs.length:Int)>most)))] [] h ?_);clear h;intro a w h
 refine zab (decide ((rs.length:Int)>most)) h rfl (fun hc=>?_) (fun hc=>?_)
 ·have hc1:=hc;clear hc
  have hc1':=of_decide_eq_true hc1
  refine rq za0 0 [] [(0,(vRs rs)),(2,vi .i64 L),(6,vb false)] [] h ?_;clear h;intro a w h
  refine wp_ret (za9 ?_)
  refine zan [.c (cB false)] h Exit.ret (.inl rfl)  rfl ⟨RV.tmp _ _ rfl,trivial⟩ ?_
  rw [show zc9 rs most L=false from by unfold zc9;rw [decide_eq_false (by have:=of_decide_eq_true hc1;omega)];rfl];first | done | rfl
 ·have hc2:=hc;clear hc
  have hc2':=of_decide_eq_false hc2
  refine wp_skip (za4 (wp_seq (rq za0 0 [] [(0,(vRs rs)),(2,vi .i64 L),(6,vb false),(7,vi .i64 0)] [] h ?_)));clear h;intro a w h
  refine wp_block ?_
  refine zb1 (ι:=(Nat)) (fun (z_:(Nat))=>match z_ with | j=>j≤rs.length∧(rs.take j).all (zfe L)=true)
    (fun (z_:(Nat))=>match z_ with | j=>[(0,(vRs rs)),(2,vi .i64 L),(7,vi .i64 (j:Int))])
    (fun (z_:(Nat))=>match z_ with | j=>[])
    (fun (z_:(Nat))=>match z_ with | j=>rs.length - j) 0 ?_ h (by kernel_rfl) (by kernel_rfl) ?_
  ·exact ⟨Nat.zero_le _,rfl⟩
  ·clear h;rintro j a w hI h
   change St _ (F.of [(0,(vRs rs)),(2,vi .i64 L),(7,vi .i64 (j:Int))] []) a w at h
   obtain ⟨hI1,hI2⟩:=hI
   refine wp_seq (rq za0 0 [(2,.len (c:=(cRs rs)) (n:=rs.length) (zae _ _ _))] [(0,(vRs rs)),(2,vi .i64 L),(7,vi .i64 (j:Int)),(16,vb (decide ((j:Int)<(rs.length:Int))))] [] h ?_);clear h;intro a w h
   refine zab (decide ((j:Int)<(rs.length:Int))) h rfl (fun hc=>?_) (fun hc=>?_)
   ·have hc3:=hc;clear hc
    have hc3':=of_decide_eq_true hc3
    refine wp_skip (za4 (wp_seq (wp_block (wp_seq ?_))))
    obtain ⟨x1,hx1⟩:∃ z_:zaa,rs[j]?=some z_:=⟨_,List.getElem?_eq_getElem (by first | omega | (simp at *;omega))⟩
    rcases Bool.eq_false_or_eq_true (decide ((x1.t.parts.length:Int)>20)) with hc | hc
    ·have hc4:=hc;clear hc
     have hc4':=of_decide_eq_true hc4
     refine rq za0 0 [(2,.gen _ _ _ fun _ _ _ _=>Op.idxD (d:=21) (t:=19) (k := .i64) kc_3 (zaj hx1 (f:=zaa.d)) (OV.tmp 20 _)),(6,.len (c:=(cPs x1.t.parts)) (n:=x1.t.parts.length) (zae _ _ _)),(7,.cmp (op := .gtr) (m:=(x1.t.parts.length:Int)) (n:=20) (b:=true) .i64 hc4)] [(0,(vRs rs)),(2,vi .i64 L),(7,vi .i64 (j:Int)),(38,vb true)] [] h ?_;clear h;intro a w h
     refine zab true h rfl (fun hc=>?_) (fun hc=>?_)
     ·clear hc
      refine rq za0 0 [] [(0,(vRs rs)),(2,vi .i64 L),(6,vb false),(7,vi .i64 (j:Int))] [] h ?_;clear h;intro a w h
      refine wp_ret (za9 (zaf (za9 (za9 (zaf (za9 ?_))))))
      refine zan [.c (cB false)] h Exit.ret (.inl rfl)  rfl ⟨RV.tmp _ _ rfl,trivial⟩ ?_
      rw [show zc9 rs most L=false from by unfold zc9;rw [zba hx1 (show zfe L x1=false from by rw [zfe,decide_eq_false (by have:=of_decide_eq_true hc4;omega)];rfl),Bool.and_false]];first | done | rfl
     ·cases hc
    ·have hc5:=hc;clear hc
     have hc5':=of_decide_eq_false hc5
     refine rq za0 0 [(2,.gen _ _ _ fun _ _ _ _=>Op.idxD (d:=21) (t:=19) (k := .i64) kc_3 (zaj hx1 (f:=zaa.d)) (OV.tmp 20 _)),(6,.len (c:=(cPs x1.t.parts)) (n:=x1.t.parts.length) (zae _ _ _)),(7,.cmp (op := .gtr) (m:=(x1.t.parts.length:Int)) (n:=20) (b:=false) .i64 hc5),(11,.gen _ _ _ fun _ _ _ _=>Op.idxD (d:=30) (t:=28) (k := .i64) kc_3 (zaj hx1 (f:=zaa.d)) (OV.tmp 29 _)),(16,.len (zdg x1.t.k.abs))] [(0,(vRs rs)),(2,vi .i64 L),(7,vi .i64 (j:Int)),(38,vb (decide ((x1.t.k.abs.length:Int)>L)))] [] h ?_;clear h;intro a w h
     refine zab (decide ((x1.t.k.abs.length:Int)>L)) h rfl (fun hc=>?_) (fun hc=>?_)
     ·have hc6:=hc;clear hc
      have hc6':=of_decide_eq_true hc6
      refine rq za0 0 [] [(0,(vRs rs)),(2,vi .i64 L),(6,vb false),(7,vi .i64 (j:Int))] [] h ?_;clear h;intro a w h
      refine wp_ret (za9 (zaf (za9 (za9 (zaf (za9 ?_))))))
      refine zan [.c (cB false)] h Exit.ret (.inl rfl)  rfl ⟨RV.tmp _ _ rfl,trivial⟩ ?_
      rw [show zc9 rs most L=false from by unfold zc9;rw [zba hx1 (show zfe L x1=false from by rw [zfe,decide_eq_false (p:=(_:Int)≤L) (by have:=of_decide_eq_true hc6;omega),Bool.and_false];rfl),Bool.and_false]];first | done | rfl
     ·have hc7:=hc;clear hc
      have hc7':=of_decide_eq_false hc7
      refine wp_skip (za4 (rq za0 0 [] [(0,(vRs rs)),(2,vi .i64 L),(7,vi .i64 (j:Int)),(8,vi .i64 0)] [] h ?_));clear h;intro a w h
      refine wp_block ?_
      have hjr:=hI1
      refine zb1 (ι:=(Nat)) (fun (z_:(Nat))=>match z_ with | i=>i≤x1.t.parts.length∧(x1.t.parts.take i).all (fun p=>decide ((p.c.abs.length:Int)≤L))=true)
        (fun (z_:(Nat))=>match z_ with | i=>[(0,(vRs rs)),(2,vi .i64 L),(7,vi .i64 (j:Int)),(8,vi .i64 (i:Int))])
        (fun (z_:(Nat))=>match z_ with | i=>[])
        (fun (z_:(Nat))=>match z_ with | i=>x1.t.parts.length - i) 0 ?_ h (by kernel_rfl) (by kernel_rfl) ?_
      ·exact ⟨Nat.zero_le _,rfl⟩
      ·clear h;rintro i a w hI h
       change St _ (F.of [(0,(vRs rs)),(2,vi .i64 L),(7,vi .i64 (j:Int)),(8,vi .i64 (i:Int))] []) a w at h
       obtain ⟨hJ1,hJ2⟩:=hI
       refine wp_seq (rq za0 0 [(3,.gen _ _ _ fun _ _ _ _=>Op.idxD (d:=42) (t:=40) (k := .i64) kc_3 (zaj hx1 (f:=zaa.d)) (OV.tmp 41 _)),(7,.len (c:=(cPs x1.t.parts)) (n:=x1.t.parts.length) (zae _ _ _))] [(0,(vRs rs)),(2,vi .i64 L),(7,vi .i64 (j:Int)),(8,vi .i64 (i:Int)),(47,vb (decide ((i:Int)<(x1.t.parts.length:Int))))] [] h ?_);clear h;intro a w h
       refine zab (decide ((i:Int)<(x1.t.parts.length:Int))) h rfl (fun hc=>?_) (fun hc=>?_)
       ·have hc8:=hc;clear hc
        have hc8':=of_decide_eq_true hc8
        refine wp_skip (za4 (wp_seq (wp_block ?_)))
        obtain ⟨x2,hx2⟩:∃ z_:za2,x1.t.parts[i]?=some z_:=⟨_,List.getElem?_eq_getElem (by first | omega | (simp at *;omega))⟩
        refine rq za0 0 [(2,.gen _ _ _ fun _ _ _ _=>Op.idxD (d:=52) (t:=50) (k := .i64) kc_3 (zaj hx1 (f:=zaa.d)) (OV.tmp 51 _)),(7,.gen _ _ _ fun _ _ _ _=>Op.idxD (d:=57) (t:=55) (k := .i64) zbz (zaj hx2 (f:=za2.d)) (OV.tmp 56 _)),(11,.len (zdg x2.c.abs))] [(0,(vRs rs)),(2,vi .i64 L),(7,vi .i64 (j:Int)),(8,vi .i64 (i:Int)),(63,vb (decide ((x2.c.abs.length:Int)>L)))] [] h ?_;clear h;intro a w h
        refine zab (decide ((x2.c.abs.length:Int)>L)) h rfl (fun hc=>?_) (fun hc=>?_)
        ·have hc9:=hc;clear hc
         have hc9':=of_decide_eq_true hc9
         refine rq za0 0 [] [(0,(vRs rs)),(2,vi .i64 L),(6,vb false),(7,vi .i64 (j:Int)),(8,vi .i64 (i:Int))] [] h ?_;clear h;intro a w h
         refine wp_ret (zaf (za9 (za9 (zaf (zaf (za9 (za9 (zaf (za9 ?_)))))))))
         refine zan [.c (cB false)] h Exit.ret (.inl rfl)  rfl ⟨RV.tmp _ _ rfl,trivial⟩ ?_
         rw [show zc9 rs most L=false from by unfold zc9;rw [zba hx1 (show zfe L x1=false from by rw [zfe,zba hx2 (decide_eq_false (by have:=of_decide_eq_true hc9;omega)),Bool.and_false]),Bool.and_false]];first | done | rfl
        ·have hc10:=hc;clear hc
         have hc10':=of_decide_eq_false hc10
         refine wp_skip (zac (za4 (rn za0 0 [(1,.add .i64 (m:=(i:Int)) (n:=1) (zad (by omega) (by omega)))] [(0,(vRs rs)),(2,vi .i64 L),(7,vi .i64 (j:Int)),(8,vi .i64 ((i:Int)+1))] [] h ?_)));clear h;intro a w h
         refine za4 ?_
         refine zak (x:=i) (y:=i+1) h ?_ ?_
         ·exact ⟨by have:=zai hx2;omega,zbh hx2 hJ2 (decide_eq_true (by have:=of_decide_eq_false hc10;omega))⟩
         ·show x1.t.parts.length - (i+1)<x1.t.parts.length - i
          have:=zai hx2;omega
       ·have hc11:=hc;clear hc
        have hc11':=of_decide_eq_false hc11
        refine wp_exit (zah (zah (za8 (zac (za4 (rn za0 0 [(1,.add .i64 (m:=(j:Int)) (n:=1) (zad (by omega) (by omega)))] [(0,(vRs rs)),(2,vi .i64 L),(7,vi .i64 ((j:Int)+1))] [] h ?_))))));clear h;intro a w h
        refine za4 ?_
        refine zak (x:=j) (y:=j+1) h ?_ ?_
        ·exact ⟨by have:=zai hx1;omega,zbh hx1 hI2 (by rw [zfe,decide_eq_true (by have:=of_decide_eq_false hc5;omega),decide_eq_true (by have:=of_decide_eq_false hc7;omega),zd4 (of_decide_eq_false hc11) hJ2];rfl)⟩
        ·show rs.length - (j+1)<rs.length - j
         have:=zai hx1;omega
   ·have hc12:=hc;clear hc
    have hc12':=of_decide_eq_false hc12
    refine wp_exit (zah (zah (za8 (za4 (rq za0 0 [] [(6,vb true)] [] h ?_)))));clear h;intro a w h
    refine wp_ret ?_
    refine zan [.c (cB true)] h Exit.ret (.inl rfl)  rfl ⟨RV.tmp _ _ rfl,trivial⟩ ?_
    rw [show zc9 rs most L=true from by unfold zc9;rw [decide_eq_true (by have:=of_decide_eq_false hc2;omega),zd4 (of_decide_eq_false hc12) hI2];rfl];first | done | rfl
set_option maxHeartbeats 4000000 in
theorem LfewA (props:List zam) (ps:List zaa) (xs:List ze1) (hpl:∀ p ∈ props,p.f.lb) (hlp:props.length≤9223372036854775807) (hl:ps.length≤9223372036854775807) (hlx:xs.length≤9223372036854775807):Fn Tryz.prog 7 [] [.t (.c (.d (.sl 9 (props.map zam.d)))),(vRs ps),.t (.c (.d (.sl 2 (xs.map ze1.d))))] (vb (zfs props ps xs)) []:=by
 refine Fn.body Tryz.func7 rfl 46 rfl fun w H B a h=>?_
 refine rq za0 0 [] [(0,.t (.c (.d (.sl 9 (props.map zam.d))))),(1,(vRs ps)),(2,.t (.c (.d (.sl 2 (xs.map ze1.d))))),(6,vb false)] [] h ?_;clear h;intro a w h
 refine wp_seq (rq za0 0 [(1,.len (c:=(.d (.sl 9 (props.map zam.d)))) (n:=props.length) (zae _ _ _))] [(0,.t (.c (.d (.sl 9 (props.map zam.d))))),(1,(vRs ps)),(2,.t (.c (.d (.sl 2 (xs.map ze1.d))))),(6,vb false),(11,.t (.c (.d (.sl 9 (props.map zam.d))))),(12,vi .i64 (props.length:Int)),(13,vi .i64 0)] [] h ?_);clear h;intro a w h
 refine wp_block ?_
 refine zb1 (ι:=(Nat)) (fun (z_:(Nat))=>match z_ with | j=>j≤props.length∧(props.take j).all (fun p=>fewF p.f 20 3)=true)
   (fun (z_:(Nat))=>match z_ with | j=>[(0,.t (.c (.d (.sl 9 (props.map zam.d))))),(1,(vRs ps)),(2,.t (.c (.d (.sl 2 (xs.map ze1.d))))),(11,.t (.c (.d (.sl 9 (props.map zam.d))))),(12,vi .i64 (props.length:Int)),(13,vi .i64 (j:Int))])
   (fun (z_:(Nat))=>match z_ with | j=>[])
   (fun (z_:(Nat))=>match z_ with | j=>props.length - j) 0 ?_ h (by kernel_rfl) (by kernel_rfl) ?_
 ·exact ⟨Nat.zero_le _,rfl⟩
 ·clear h;rintro j a w hI h
  change St _ (F.of [(0,.t (.c (.d (.sl 9 (props.map zam.d))))),(1,(vRs ps)),(2,.t (.c (.d (.sl 2 (xs.map ze1.d))))),(11,.t (.c (.d (.sl 9 (props.map zam.d))))),(12,vi .i64 (props.length:Int)),(13,vi .i64 (j:Int))] []) a w at h
  obtain ⟨hP1,hP2⟩:=hI
  refine rq za0 0 [] [(0,.t (.c (.d (.sl 9 (props.map zam.d))))),(1,(vRs ps)),(2,.t (.c (.d (.sl 2 (xs.map ze1.d))))),(11,.t (.c (.d (.sl 9 (props.map zam.d))))),(12,vi .i64 (props.length:Int)),(13,vi .i64 (j:Int)),(14,vb (decide ((j:Int)<(props.length:Int))))] [] h ?_;clear h;intro a w h
  refine wp_seq ?_
  refine zab (decide ((j:Int)<(props.length:Int))) h rfl (fun hc=>?_) (fun hc=>?_)
  ·have hc1:=hc;clear hc
   have hc1':=of_decide_eq_true hc1
   refine wp_skip (za4 (wp_seq (wp_block ?_)))
   obtain ⟨x1,hx1⟩:∃ z_:zam,props[j]?=some z_:=⟨_,List.getElem?_eq_getElem (by first | omega | (simp at *;omega))⟩
   refine rq za0 0 [(0,.gen _ _ _ fun _ _ _ _=>Op.idxD (d:=15) (t:=11) (k := .i64) li9_5 (zaj hx1 (f:=zam.d)) (OV.tmp 13 _))] [(0,.t (.c (.d (.sl 9 (props.map zam.d))))),(1,(vRs ps)),(2,.t (.c (.d (.sl 2 (xs.map ze1.d))))),(8,vp 0 0),(11,.t (.c (.d (.sl 9 (props.map zam.d))))),(12,vi .i64 (props.length:Int)),(13,vi .i64 (j:Int))] [(0,.box ([cB x1.at_,cI x1.proc,cI x1.loc,cI x1.f.kind,cPs x1.f.r.t.parts]++zi x1.f.r.t.k++[cB x1.f.r.eq,cFs x1.f.kids]))] h ?_;clear h;intro a w h
   refine rq za0 1 [(2,.call (SFewF x1.f 20 3 (hpl x1 (List.mem_of_getElem? hx1)) (by decide) (by decide)) kt_1)] [(0,.t (.c (.d (.sl 9 (props.map zam.d))))),(1,(vRs ps)),(2,.t (.c (.d (.sl 2 (xs.map ze1.d))))),(11,.t (.c (.d (.sl 9 (props.map zam.d))))),(12,vi .i64 (props.length:Int)),(13,vi .i64 (j:Int)),(20,vb (!(fewF x1.f 20 3)))] [] h ?_;clear h;intro a w h
   refine zab (!(fewF x1.f 20 3)) h rfl (fun hc=>?_) (fun hc=>?_)
   ·have hc2:=hc;clear hc
    have hc2':=hc2;(try simp at hc2')
    refine rq za0 1 [] [(0,.t (.c (.d (.sl 9 (props.map zam.d))))),(1,(vRs ps)),(2,.t (.c (.d (.sl 2 (xs.map ze1.d))))),(6,vb false),(11,.t (.c (.d (.sl 9 (props.map zam.d))))),(12,vi .i64 (props.length:Int)),(13,vi .i64 (j:Int))] [] h ?_;clear h;intro a w h
    refine wp_ret (zaf (za9 (za9 (zaf (za9 ?_)))))
    refine zan [.c (cB false)] h Exit.ret (.inl rfl)  rfl ⟨RV.tmp _ _ rfl,trivial⟩ ?_
    have hz:zfs props ps xs=false:=by unfold zfs;rw [zba (q:=(fun p=>fewF p.f 20 3)) hx1 (show (fewF x1.f 20 3)=false from by simpa using hc2)];rfl
    rw [hz];first | done | rfl
   ·have hc3:=hc;clear hc
    have hc3':=hc3;(try simp at hc3')
    refine wp_skip (zac (za4 (rn za0 1 [(0,.add .i64 (m:=(j:Int)) (n:=1) (zad (by omega) (by omega)))] [(0,.t (.c (.d (.sl 9 (props.map zam.d))))),(1,(vRs ps)),(2,.t (.c (.d (.sl 2 (xs.map ze1.d))))),(11,.t (.c (.d (.sl 9 (props.map zam.d))))),(12,vi .i64 (props.length:Int)),(13,vi .i64 ((j:Int)+1))] [] h ?_)));clear h;intro a w h
    refine za4 ?_
    refine zak (x:=j) (y:=j+1) h ?_ ?_
    ·exact ⟨by have:=zai hx1;omega,zbh hx1 hP2 (show (fewF x1.f 20 3)=true from by simpa using hc3)⟩
    ·show props.length - (j+1)<props.length - j
     have:=zai hx1;omega
  ·have hc4:=hc;clear hc
   have hc4':=of_decide_eq_false hc4
   refine wp_exit (zah (zah (za8 (za4 (wp_seq (rq za0 1 [(1,.len (c:=(.d (.sl 2 (xs.map ze1.d)))) (n:=xs.length) (zae _ _ _))] [(0,.t (.c (.d (.sl 9 (props.map zam.d))))),(1,(vRs ps)),(22,.t (.c (.d (.sl 2 (xs.map ze1.d))))),(23,vi .i64 (xs.length:Int)),(24,vi .i64 0)] [] h ?_))))));clear h;intro a w h
   refine wp_block ?_
   refine zb1 (ι:=(Nat)) (fun (z_:(Nat))=>match z_ with | i=>i≤xs.length∧(xs.take i).all (fun a=>decide (a.locs.length≤20∧a.bits.length≤40))=true)
     (fun (z_:(Nat))=>match z_ with | i=>[(0,.t (.c (.d (.sl 9 (props.map zam.d))))),(1,(vRs ps)),(22,.t (.c (.d (.sl 2 (xs.map ze1.d))))),(23,vi .i64 (xs.length:Int)),(24,vi .i64 (i:Int))])
     (fun (z_:(Nat))=>match z_ with | i=>[])
     (fun (z_:(Nat))=>match z_ with | i=>xs.length - i) 0 ?_ h (by kernel_rfl) (by kernel_rfl) ?_
   ·exact ⟨Nat.zero_le _,rfl⟩
   ·clear h;rintro i a w hI h
    change St _ (F.of [(0,.t (.c (.d (.sl 9 (props.map zam.d))))),(1,(vRs ps)),(22,.t (.c (.d (.sl 2 (xs.map ze1.d))))),(23,vi .i64 (xs.length:Int)),(24,vi .i64 (i:Int))] []) a w at h
    obtain ⟨hA1,hA2⟩:=hI
    refine rq za0 1 [] [(0,.t (.c (.d (.sl 9 (props.map zam.d))))),(1,(vRs ps)),(22,.t (.c (.d (.sl 2 (xs.map ze1.d))))),(23,vi .i64 (xs.length:Int)),(24,vi .i64 (i:Int)),(25,vb (decide ((i:Int)<(xs.length:Int))))] [] h ?_;clear h;intro a w h
    refine wp_seq ?_
    refine zab (decide ((i:Int)<(xs.length:Int))) h rfl (fun hc=>?_) (fun hc=>?_)
    ·have hc5:=hc;clear hc
     have hc5':=of_decide_eq_true hc5
     refine wp_skip (za4 (wp_seq (wp_block ?_)))
     obtain ⟨x3,hx3⟩:∃ z_:ze1,xs[i]?=some z_:=⟨_,List.getElem?_eq_getElem (by first | omega | (simp at *;omega))⟩
     refine rq za0 1 [(0,.gen _ _ _ fun _ _ _ _=>Op.idxD (d:=26) (t:=22) (k := .i64) ln14_4 (zaj hx3 (f:=ze1.d)) (OV.tmp 24 _))] [(0,.t (.c (.d (.sl 9 (props.map zam.d))))),(1,(vRs ps)),(10,vp 1 0),(22,.t (.c (.d (.sl 2 (xs.map ze1.d))))),(23,vi .i64 (xs.length:Int)),(24,vi .i64 (i:Int))] [(1,.box [cIs x3.locs,.d (.sl 1 (x3.bits.map za6))])] h ?_;clear h;intro a w h
     rcases Bool.eq_false_or_eq_true (decide ((x3.locs.length:Int)>20)) with hc | hc
     ·have hc6:=hc;clear hc
      have hc6':=of_decide_eq_true hc6
      refine rq za0 2 [(2,.len (c:=(cIs x3.locs)) (n:=x3.locs.length) (zae _ _ _)),(3,.cmp (op := .gtr) (m:=(x3.locs.length:Int)) (n:=20) (b:=true) .i64 hc6)] [(0,.t (.c (.d (.sl 9 (props.map zam.d))))),(1,(vRs ps)),(22,.t (.c (.d (.sl 2 (xs.map ze1.d))))),(23,vi .i64 (xs.length:Int)),(24,vi .i64 (i:Int)),(37,vb true)] [] h ?_;clear h;intro a w h
      refine zab true h rfl (fun hc=>?_) (fun hc=>?_)
      ·clear hc
       refine rq za0 2 [] [(0,.t (.c (.d (.sl 9 (props.map zam.d))))),(1,(vRs ps)),(6,vb false),(22,.t (.c (.d (.sl 2 (xs.map ze1.d))))),(23,vi .i64 (xs.length:Int)),(24,vi .i64 (i:Int))] [] h ?_;clear h;intro a w h
       refine wp_ret (zaf (za9 (za9 (zaf (za9 ?_)))))
       refine zan [.c (cB false)] h Exit.ret (.inl rfl)  rfl ⟨RV.tmp _ _ rfl,trivial⟩ ?_
       have hz:zfs props ps xs=false:=by unfold zfs;rw [zba (q:=(fun a=>decide (a.locs.length≤20∧a.bits.length≤40))) hx3 (decide_eq_false (by have:=of_decide_eq_true hc6;omega))];simp
       rw [hz];first | done | rfl
      ·cases hc
     ·have hc7:=hc;clear hc
      have hc7':=of_decide_eq_false hc7
      refine rq za0 2 [(2,.len (c:=(cIs x3.locs)) (n:=x3.locs.length) (zae _ _ _)),(3,.cmp (op := .gtr) (m:=(x3.locs.length:Int)) (n:=20) (b:=false) .i64 hc7),(7,.len (c:=(.d (.sl 1 (x3.bits.map za6)))) (n:=x3.bits.length) (zae _ _ _))] [(0,.t (.c (.d (.sl 9 (props.map zam.d))))),(1,(vRs ps)),(22,.t (.c (.d (.sl 2 (xs.map ze1.d))))),(23,vi .i64 (xs.length:Int)),(24,vi .i64 (i:Int)),(37,vb (decide ((x3.bits.length:Int)>40)))] [] h ?_;clear h;intro a w h
      refine zab (decide ((x3.bits.length:Int)>40)) h rfl (fun hc=>?_) (fun hc=>?_)
      ·have hc8:=hc;clear hc
       have hc8':=of_decide_eq_true hc8
       refine rq za0 2 [] [(0,.t (.c (.d (.sl 9 (props.map zam.d))))),(1,(vRs ps)),(6,vb false),(22,.t (.c (.d (.sl 2 (xs.map ze1.d))))),(23,vi .i64 (xs.length:Int)),(24,vi .i64 (i:Int))] [] h ?_;clear h;intro a w h
       refine wp_ret (zaf (za9 (za9 (zaf (za9 ?_)))))
       refine zan [.c (cB false)] h Exit.ret (.inl rfl)  rfl ⟨RV.tmp _ _ rfl,trivial⟩ ?_
       have hz:zfs props ps xs=false:=by unfold zfs;rw [zba (q:=(fun a=>decide (a.locs.length≤20∧a.bits.length≤40))) hx3 (decide_eq_false (by have:=of_decide_eq_true hc8;omega))];simp
       rw [hz];first | done | rfl
      ·have hc9:=hc;clear hc
       have hc9':=of_decide_eq_false hc9
       refine wp_skip (zac (za4 (rn za0 2 [(0,.add .i64 (m:=(i:Int)) (n:=1) (zad (by omega) (by omega)))] [(0,.t (.c (.d (.sl 9 (props.map zam.d))))),(1,(vRs ps)),(22,.t (.c (.d (.sl 2 (xs.map ze1.d))))),(23,vi .i64 (xs.length:Int)),(24,vi .i64 ((i:Int)+1))] [] h ?_)));clear h;intro a w h
       refine za4 ?_
       refine zak (x:=i) (y:=i+1) h ?_ ?_
       ·exact ⟨by have:=zai hx3;omega,zbh hx3 hA2 (decide_eq_true (by have:=of_decide_eq_false hc7;have:=of_decide_eq_false hc9;omega))⟩
       ·show xs.length - (i+1)<xs.length - i
        have:=zai hx3;omega
    ·have hc10:=hc;clear hc
     have hc10':=of_decide_eq_false hc10
     refine wp_exit (zah (zah (za8 (za4 ?_))))
     rcases Bool.eq_false_or_eq_true (decide ((props.length:Int)≤6)) with hc | hc
     ·have hc11:=hc;clear hc
      have hc11':=of_decide_eq_true hc11
      refine rq za0 2 [(1,.len (c:=(.d (.sl 9 (props.map zam.d)))) (n:=props.length) (zae _ _ _)),(2,.cmp (op := .leq) (m:=(props.length:Int)) (n:=6) (b:=true) .i64 hc11),(5,.call (LFewRs ps 30 3 hl) kc_6)] [(6,vb (zc9 ps 30 3))] [] h ?_;clear h;intro a w h
      refine wp_ret ?_
      refine zan [.c (cB (zc9 ps 30 3))] h Exit.ret (.inl rfl)  rfl ⟨RV.tmp _ _ rfl,trivial⟩ ?_
      have hz:zfs props ps xs=(zc9 ps 30 3):=by unfold zfs;rw [zd4 (of_decide_eq_false hc4) hP2,zd4 (of_decide_eq_false hc10) hA2,decide_eq_true (p:=props.length≤6) (by have:=of_decide_eq_true hc11;omega)];simp
      rw [hz];first | done | rfl
     ·have hc12:=hc;clear hc
      have hc12':=of_decide_eq_false hc12
      refine rq za0 2 [(1,.len (c:=(.d (.sl 9 (props.map zam.d)))) (n:=props.length) (zae _ _ _)),(2,.cmp (op := .leq) (m:=(props.length:Int)) (n:=6) (b:=false) .i64 hc12)] [(6,vb false)] [] h ?_;clear h;intro a w h
      refine wp_ret ?_
      refine zan [.c (cB false)] h Exit.ret (.inl rfl)  rfl ⟨RV.tmp _ _ rfl,trivial⟩ ?_
      have hz:zfs props ps xs=(false):=by unfold zfs;rw [decide_eq_false (p:=props.length≤6) (by have:=of_decide_eq_false hc12;omega)];simp
      rw [hz];first | done | rfl
end
section
open Go.RowKit

theorem lo15_0:za7 Tryz.prog 6:=za7.mk' (by kernel_rfl)
theorem lo15_1:za7 Tryz.prog 7:=za7.mk' (by kernel_rfl)
theorem lo15_2:za7 Tryz.prog 8:=za7.mk' (by kernel_rfl)
theorem few21_ps {ps:List zaa} (h:zfs [] ps []=true) (hl:∀ r ∈ ps,TLb r.t):PsOkR ps:=by
 unfold zfs at h
 simp only [List.all_nil,Bool.true_and,Bool.and_eq_true] at h
 have h2:=h.2
 unfold zc9 at h2
 rw [Bool.and_eq_true,decide_eq_true_eq,List.all_eq_true] at h2
 exact ⟨by omega,fun r hr=>(show TOk 20 3 r.t from fewR_ok (L:=3) (h2.2 r hr) (hl r hr)).mono (by decide) (by decide)⟩
theorem want_end {ps:List zaa} {bs:List Bool} {vs:List ZI} {j:Nat} (h:ps.length≤j):ze7 (ps.take j) (bs.take j) vs=ze7 ps bs vs:=by
 unfold ze7
 rw [List.take_of_length_le h]
 have:List.zipWith (fun r b=>zaq vs r == b) ps (bs.take j)=(List.zipWith (fun r b=>zaq vs r == b) ps bs).take j:=by
  rw [List.take_zipWith,List.take_of_length_le h]
 rw [this,List.take_of_length_le (by rw [List.length_zipWith];omega)]
set_option maxHeartbeats 4000000 in
theorem LAbstrCubes (ps:List zaa) (bits:List Bool) (x:StD) (hpl:∀ r ∈ ps,TLb r.t) (hl:ps.length≤9223372036854775807) (hb:bits.length≤9223372036854775807) (hxr:StRd x):Fn Tryz.prog 4 [] [.t (.c (.d (.sl 4 (ps.map zaa.d)))),.t (.c (.d (.sl 1 (bits.map za6)))),.t (.agg [.d (.sl 1 (x.locs.map zbk)),.d (.sl 2 (x.vals.map ziD))])] (vb true) []:=by
 refine Fn.body Tryz.func4 rfl 68 rfl fun w H B a h=>?_
 refine rq za0 0 [] [(0,.t (.c (.d (.sl 4 (ps.map zaa.d))))),(1,.t (.c (.d (.sl 1 (bits.map za6))))),(5,vp 0 0),(6,vb false)] [(0,.box [.d (.sl 1 (x.locs.map zbk)),.d (.sl 2 (x.vals.map ziD))])] h ?_;clear h;intro a w h
 refine wp_seq (rq za0 1 [(0,.call (Ltelling) lo15_0)] [(0,.t (.c (.d (.sl 4 (ps.map zaa.d))))),(1,.t (.c (.d (.sl 1 (bits.map za6))))),(5,vp 0 0),(6,vb false),(10,vb false)] [(0,.box [.d (.sl 1 (x.locs.map zbk)),.d (.sl 2 (x.vals.map ziD))])] h ?_);clear h;intro a w h
 refine zab false h rfl (fun hc=>?_) (fun hc=>?_)
 ·cases hc
 ·clear hc
  refine wp_skip (za4 (wp_seq ?_))
  rcases Bool.eq_false_or_eq_true (zfs [] ps []) with hc | hc
  ·have hc1:=hc;clear hc
   rcases Bool.eq_false_or_eq_true (decide ((bits.length:Int)>40)) with hc | hc
   ·have hc2:=hc;clear hc
    have hc2':=of_decide_eq_true hc2
    refine rq za0 1 [(1,.call (Fn.cast (Fn.argw (LfewA [] ps [] (fun p hp=>by cases hp) (by decide) hl (by decide)) (.cons _ _ _ _ (.c _ _ (.nil _)) (.cons _ _ _ _ (.refl _) (.cons _ _ _ _ (.c _ _ (.nil _)) .nil)))) (congrArg vb hc1)) lo15_1),(5,.len (c:=(.d (.sl 1 (bits.map za6)))) (n:=bits.length) (zae _ _ _)),(6,.cmp (op := .gtr) (m:=(bits.length:Int)) (n:=40) (b:=true) .i64 hc2)] [(0,.t (.c (.d (.sl 4 (ps.map zaa.d))))),(1,.t (.c (.d (.sl 1 (bits.map za6))))),(5,vp 0 0),(6,vb false),(23,vb true)] [(0,.box [.d (.sl 1 (x.locs.map zbk)),.d (.sl 2 (x.vals.map ziD))])] h ?_;clear h;intro a w h
    refine zab true h rfl (fun hc=>?_) (fun hc=>?_)
    ·clear hc
     refine rq za0 1 [] [(0,.t (.c (.d (.sl 4 (ps.map zaa.d))))),(1,.t (.c (.d (.sl 1 (bits.map za6))))),(5,vp 0 0),(6,vb true)] [(0,.box [.d (.sl 1 (x.locs.map zbk)),.d (.sl 2 (x.vals.map ziD))])] h ?_;clear h;intro a w h
     refine wp_ret (za9 ?_)
     refine zan [.c (.d (.raw (.bool true)))] h Exit.ret (.inl rfl)  rfl ⟨RV.tmp _ _ rfl,trivial⟩ ?_
     rfl
    ·cases hc
   ·have hc3:=hc;clear hc
    have hc3':=of_decide_eq_false hc3
    refine rq za0 1 [(1,.call (Fn.cast (Fn.argw (LfewA [] ps [] (fun p hp=>by cases hp) (by decide) hl (by decide)) (.cons _ _ _ _ (.c _ _ (.nil _)) (.cons _ _ _ _ (.refl _) (.cons _ _ _ _ (.c _ _ (.nil _)) .nil)))) (congrArg vb hc1)) lo15_1),(5,.len (c:=(.d (.sl 1 (bits.map za6)))) (n:=bits.length) (zae _ _ _)),(6,.cmp (op := .gtr) (m:=(bits.length:Int)) (n:=40) (b:=false) .i64 hc3),(10,.call (SFewSt x 3 hxr) lo15_2)] [(0,.t (.c (.d (.sl 4 (ps.map zaa.d))))),(1,.t (.c (.d (.sl 1 (bits.map za6))))),(5,vp 0 0),(6,vb false),(23,vb (!(zfr 3 x)))] [(0,.box [.d (.sl 1 (x.locs.map zbk)),.d (.sl 2 (x.vals.map ziD))])] h ?_;clear h;intro a w h
    refine zab (!(zfr 3 x)) h rfl (fun hc=>?_) (fun hc=>?_)
    ·have hc4:=hc;clear hc
     have hc4':=hc4;(try simp at hc4')
     refine rq za0 1 [] [(0,.t (.c (.d (.sl 4 (ps.map zaa.d))))),(1,.t (.c (.d (.sl 1 (bits.map za6))))),(5,vp 0 0),(6,vb true)] [(0,.box [.d (.sl 1 (x.locs.map zbk)),.d (.sl 2 (x.vals.map ziD))])] h ?_;clear h;intro a w h
     refine wp_ret (za9 ?_)
     refine zan [.c (.d (.raw (.bool true)))] h Exit.ret (.inl rfl)  rfl ⟨RV.tmp _ _ rfl,trivial⟩ ?_
     rfl
    ·have hc5:=hc;clear hc
     have hc5':=hc5;(try simp at hc5')
     refine wp_skip (za4 ?_)
     have hps:PsOkR ps:=few21_ps hc1 hpl
     have hx:StOk 10 x:=(few_st (show (zfr 3 x)=true from by simpa using hc5) hxr).mono (by decide)
     have lps:=hps.1
     have lxl:=hx.locs
     refine rq za0 1 [] [(0,.t (.c (.d (.sl 4 (ps.map zaa.d))))),(1,.t (.c (.d (.sl 1 (bits.map za6))))),(5,vp 0 0),(6,vb false),(7,vb true)] [(0,.box [.d (.sl 1 (x.locs.map zbk)),.d (.sl 2 (x.vals.map ziD))])] h ?_;clear h;intro a w h
     refine wp_seq (rq za0 1 [(1,.len (c:=(.d (.sl 4 (ps.map zaa.d)))) (n:=ps.length) (zae _ _ _))] [(0,.t (.c (.d (.sl 4 (ps.map zaa.d))))),(1,.t (.c (.d (.sl 1 (bits.map za6))))),(5,vp 0 0),(6,vb false),(7,vb true),(25,vi .i64 (ps.length:Int)),(26,vi .i64 0)] [(0,.box [.d (.sl 1 (x.locs.map zbk)),.d (.sl 2 (x.vals.map ziD))])] h ?_);clear h;intro a w h
     refine wp_block ?_
     refine zb1 (ι:=(Nat) × (Bool)) (fun (z_:(Nat) × (Bool))=>match z_ with | (j,wn)=>j≤ps.length∧wn=ze7 (ps.take j) (bits.take j) x.vals)
       (fun (z_:(Nat) × (Bool))=>match z_ with | (j,wn)=>[(0,.t (.c (.d (.sl 4 (ps.map zaa.d))))),(1,.t (.c (.d (.sl 1 (bits.map za6))))),(5,vp 0 0),(6,vb false),(7,vb wn),(25,vi .i64 (ps.length:Int)),(26,vi .i64 (j:Int))])
       (fun (z_:(Nat) × (Bool))=>match z_ with | (j,wn)=>[(0,.box [.d (.sl 1 (x.locs.map zbk)),.d (.sl 2 (x.vals.map ziD))])])
       (fun (z_:(Nat) × (Bool))=>match z_ with | (j,wn)=>ps.length - j) (0,true) ?_ h (by kernel_rfl) (by kernel_rfl) ?_
     ·exact ⟨Nat.zero_le _,rfl⟩
     ·clear h;rintro ⟨j,wn⟩ a w hI h
      change St _ (F.of [(0,.t (.c (.d (.sl 4 (ps.map zaa.d))))),(1,.t (.c (.d (.sl 1 (bits.map za6))))),(5,vp 0 0),(6,vb false),(7,vb wn),(25,vi .i64 (ps.length:Int)),(26,vi .i64 (j:Int))] [(0,.box [.d (.sl 1 (x.locs.map zbk)),.d (.sl 2 (x.vals.map ziD))])]) a w at h
      obtain ⟨hI1,hI2⟩:=hI
      refine rq za0 1 [] [(0,.t (.c (.d (.sl 4 (ps.map zaa.d))))),(1,.t (.c (.d (.sl 1 (bits.map za6))))),(5,vp 0 0),(6,vb false),(7,vb wn),(25,vi .i64 (ps.length:Int)),(26,vi .i64 (j:Int)),(27,vb (decide ((j:Int)<(ps.length:Int))))] [(0,.box [.d (.sl 1 (x.locs.map zbk)),.d (.sl 2 (x.vals.map ziD))])] h ?_;clear h;intro a w h
      refine wp_seq ?_
      refine zab (decide ((j:Int)<(ps.length:Int))) h rfl (fun hc=>?_) (fun hc=>?_)
      ·have hc6:=hc;clear hc
       have hc6':=of_decide_eq_true hc6
       refine wp_skip (za4 (wp_seq (wp_block (rq za0 1 [] [(0,.t (.c (.d (.sl 4 (ps.map zaa.d))))),(1,.t (.c (.d (.sl 1 (bits.map za6))))),(5,vp 0 0),(6,vb false),(7,vb wn),(8,vi .i64 (j:Int)),(25,vi .i64 (ps.length:Int)),(26,vi .i64 (j:Int))] [(0,.box [.d (.sl 1 (x.locs.map zbk)),.d (.sl 2 (x.vals.map ziD))])] h ?_))));clear h;intro a w h
       refine rq za0 1 [(2,.len (c:=(.d (.sl 1 (bits.map za6)))) (n:=bits.length) (zae _ _ _))] [(0,.t (.c (.d (.sl 4 (ps.map zaa.d))))),(1,.t (.c (.d (.sl 1 (bits.map za6))))),(5,vp 0 0),(6,vb false),(7,vb wn),(8,vi .i64 (j:Int)),(25,vi .i64 (ps.length:Int)),(26,vi .i64 (j:Int)),(32,vb (decide ((j:Int)<(bits.length:Int))))] [(0,.box [.d (.sl 1 (x.locs.map zbk)),.d (.sl 2 (x.vals.map ziD))])] h ?_;clear h;intro a w h
       refine zab (decide ((j:Int)<(bits.length:Int))) h rfl (fun hc=>?_) (fun hc=>?_)
       ·have hc7:=hc;clear hc
        have hc7':=of_decide_eq_true hc7
        rcases Bool.eq_false_or_eq_true wn with hc | hc
        ·have hc8:=hc;clear hc
         rw [hc8] at h
         obtain ⟨x7,hx7⟩:∃ z_:zaa,ps[j]?=some z_:=⟨_,List.getElem?_eq_getElem (by first | omega | (simp at *;omega))⟩
         obtain ⟨x9,hx9⟩:∃ z_:Bool,bits[j]?=some z_:=⟨_,List.getElem?_eq_getElem (by first | omega | (simp at *;omega))⟩
         refine rn za0 1 [(4,.gen _ _ _ fun _ _ _ _=>Op.idxD (d:=37) (t:=35) (k := .i64) kc_3 (zaj hx7 (f:=zaa.d)) (OV.tmp 36 _)),(8,.call (SRrelHolds x7 x.vals (L:=10) (M:=10) (by decide) hx.vok (hps.2 x7 (List.mem_of_getElem? hx7))) ke_9),(11,.gen _ _ _ fun _ _ _ _=>Op.idxD (d:=44) (t:=42) (k := .i64) le5_9 (zaj hx9 (f:=za6)) (OV.tmp 43 _))] [(0,.t (.c (.d (.sl 4 (ps.map zaa.d))))),(1,.t (.c (.d (.sl 1 (bits.map za6))))),(5,vp 0 0),(6,vb false),(7,vb (zaq x.vals x7 == x9)),(25,vi .i64 (ps.length:Int)),(26,vi .i64 (j:Int))] [(0,.box [.d (.sl 1 (x.locs.map zbk)),.d (.sl 2 (x.vals.map ziD))])] h ?_;clear h;intro a w h
         refine zac (za4 (rn za0 1 [(0,.add .i64 (m:=(j:Int)) (n:=1) (zad (by omega) (by omega)))] [(0,.t (.c (.d (.sl 4 (ps.map zaa.d))))),(1,.t (.c (.d (.sl 1 (bits.map za6))))),(5,vp 0 0),(6,vb false),(7,vb (zaq x.vals x7 == x9)),(25,vi .i64 (ps.length:Int)),(26,vi .i64 ((j:Int)+1))] [(0,.box [.d (.sl 1 (x.locs.map zbk)),.d (.sl 2 (x.vals.map ziD))])] h ?_));clear h;intro a w h
         refine za4 ?_
         refine zak (x:=(j,wn)) (y:=(j+1,zaq x.vals x7 == x9)) h ?_ ?_
         ·have:=of_decide_eq_true hc6
          exact ⟨by omega,by rw [want_at hx7 hx9,← hI2,hc8];rfl⟩
         ·show ps.length - (j+1)<ps.length - j
          have:=of_decide_eq_true hc6;omega
        ·have hc9:=hc;clear hc
         rw [hc9] at h
         refine rn za0 1 [] [(0,.t (.c (.d (.sl 4 (ps.map zaa.d))))),(1,.t (.c (.d (.sl 1 (bits.map za6))))),(5,vp 0 0),(6,vb false),(7,vb false),(25,vi .i64 (ps.length:Int)),(26,vi .i64 (j:Int))] [(0,.box [.d (.sl 1 (x.locs.map zbk)),.d (.sl 2 (x.vals.map ziD))])] h ?_;clear h;intro a w h
         refine zac (za4 (rn za0 1 [(0,.add .i64 (m:=(j:Int)) (n:=1) (zad (by omega) (by omega)))] [(0,.t (.c (.d (.sl 4 (ps.map zaa.d))))),(1,.t (.c (.d (.sl 1 (bits.map za6))))),(5,vp 0 0),(6,vb false),(7,vb false),(25,vi .i64 (ps.length:Int)),(26,vi .i64 ((j:Int)+1))] [(0,.box [.d (.sl 1 (x.locs.map zbk)),.d (.sl 2 (x.vals.map ziD))])] h ?_));clear h;intro a w h
         refine za4 ?_
         obtain ⟨xr,hxr_⟩:∃ z_:zaa,ps[j]?=some z_:=⟨_,List.getElem?_eq_getElem (by have:=of_decide_eq_true hc6;omega)⟩
         obtain ⟨xb,hxb_⟩:∃ z_:Bool,bits[j]?=some z_:=⟨_,List.getElem?_eq_getElem (by have:=of_decide_eq_true hc7;omega)⟩
         refine zak (x:=(j,wn)) (y:=(j+1,false)) h ?_ ?_
         ·have:=of_decide_eq_true hc6
          exact ⟨by omega,by rw [want_at hxr_ hxb_,← hI2,hc9];rfl⟩
         ·show ps.length - (j+1)<ps.length - j
          have:=of_decide_eq_true hc6;omega
       ·have hc10:=hc;clear hc
        have hc10':=of_decide_eq_false hc10
        refine wp_skip (zac (za4 (rn za0 1 [(0,.add .i64 (m:=(j:Int)) (n:=1) (zad (by omega) (by omega)))] [(0,.t (.c (.d (.sl 4 (ps.map zaa.d))))),(1,.t (.c (.d (.sl 1 (bits.map za6))))),(5,vp 0 0),(6,vb false),(7,vb wn),(25,vi .i64 (ps.length:Int)),(26,vi .i64 ((j:Int)+1))] [(0,.box [.d (.sl 1 (x.locs.map zbk)),.d (.sl 2 (x.vals.map ziD))])] h ?_)));clear h;intro a w h
        refine za4 ?_
        refine zak (x:=(j,wn)) (y:=(j+1,wn)) h ?_ ?_
        ·have:=of_decide_eq_true hc6
         exact ⟨by omega,by rw [want_out (by have:=of_decide_eq_false hc10;omega)];exact hI2⟩
        ·show ps.length - (j+1)<ps.length - j
         have:=of_decide_eq_true hc6;omega
      ·have hc11:=hc;clear hc
       have hc11':=of_decide_eq_false hc11
       refine wp_exit (zah (zah (za8 (za4 ?_))))
       rcases Bool.eq_false_or_eq_true (ze7 ps bits x.vals == wn) with hc | hc
       ·have hc12:=hc;clear hc
        have hc12':=hc12;(try simp at hc12')
        refine rq za0 1 [(2,.call (LCube ps bits hps (by first | exact hb | (show (ps.map _).length≤_;rw [List.length_map];omega))) lm13_10),(5,.call (Fn.cast (SRHolds x.vals (L:=13) (M:=10) (by decide) hx.vok (zdy ps bits) (zfv hps bits).1 (zfv hps bits).2) (show (vb ((zdy ps bits).holds x.vals):V)=vb (ze7 ps bits x.vals) from by rw [cube_holds])) ke_10),(7,.cmpb .eql (m:=(ze7 ps bits x.vals)) (n:=wn) (b:=true) (.inl ⟨rfl,hc12.symm⟩)),(12,.call (LabsOf ps x hps hx) lm13_5),(14,.call (LCube ps (ofA ps x).bits hps (by first | exact hb | (show (ps.map _).length≤_;rw [List.length_map];omega))) lm13_10),(17,.call (Fn.cast (SRHolds x.vals (L:=13) (M:=10) (by decide) hx.vok (zdy ps (ofA ps x).bits) (zfv hps (ofA ps x).bits).1 (zfv hps (ofA ps x).bits).2) (show (vb ((zdy ps (ofA ps x).bits).holds x.vals):V)=vb true from by rw [cube_holds];exact congrArg vb (want_own ps x.vals))) ke_10)] [(6,vb true)] [] h ?_;clear h;intro a w h
        refine wp_ret ?_
        refine zan [.c (.d (.raw (.bool true)))] h Exit.ret (.inl rfl)  rfl ⟨RV.tmp _ _ rfl,trivial⟩ ?_
        rfl
       ·have hc13:=hc;clear hc
        have hc13':=hc13;(try simp at hc13')
        rw [hI2,want_end (by omega)] at hc13;simp at hc13
  ·have hc14:=hc;clear hc
   refine rq za0 1 [(1,.call (Fn.cast (Fn.argw (LfewA [] ps [] (fun p hp=>by cases hp) (by decide) hl (by decide)) (.cons _ _ _ _ (.c _ _ (.nil _)) (.cons _ _ _ _ (.refl _) (.cons _ _ _ _ (.c _ _ (.nil _)) .nil)))) (congrArg vb hc14)) lo15_1)] [(0,.t (.c (.d (.sl 4 (ps.map zaa.d))))),(1,.t (.c (.d (.sl 1 (bits.map za6))))),(5,vp 0 0),(6,vb false),(23,vb true)] [(0,.box [.d (.sl 1 (x.locs.map zbk)),.d (.sl 2 (x.vals.map ziD))])] h ?_;clear h;intro a w h
   refine zab true h rfl (fun hc=>?_) (fun hc=>?_)
   ·clear hc
    refine rq za0 1 [] [(0,.t (.c (.d (.sl 4 (ps.map zaa.d))))),(1,.t (.c (.d (.sl 1 (bits.map za6))))),(5,vp 0 0),(6,vb true)] [(0,.box [.d (.sl 1 (x.locs.map zbk)),.d (.sl 2 (x.vals.map ziD))])] h ?_;clear h;intro a w h
    refine wp_ret (za9 ?_)
    refine zan [.c (.d (.raw (.bool true)))] h Exit.ret (.inl rfl)  rfl ⟨RV.tmp _ _ rfl,trivial⟩ ?_
    rfl
   ·cases hc
end
section
open Go.RowKit
end
section
open Go.RowKit
end
section
open Go.RowKit
end
section
open Go.RowKit

section
variable {w:World} {n:Nat}
theorem rep_ZIl:zgh w n 28 (slD 2 ziD) (fun xs=>xs.length≤maxLen∧∀ x ∈ xs,Lb x.abs) :=
 zdm (k:=2) Tryz.underlying28 (by kernel_rfl) (by decide) (fun _=>rfl) rep_ZI
theorem rep_Rel:zgh w n 57 zaa.d (fun r=>TLb r.t) :=
 ((zdl (n:=n) Tryz.underlying57 (by kernel_rfl) (.cons (k0:=3) rfl (by kernel_rfl) rep_Term (.cons (k0:=1) rfl (by kernel_rfl) (rep_bool Tryz.underlying4) .nil))).map (fun p=>⟨p.1,p.2.1⟩) (fun _=>rfl) fun _ h=>h.1).mono (Nat.le_succ n)
theorem rep_State:zgh w n 30 StD.d StRd :=
 ((zdl (n:=n) Tryz.underlying30 (by kernel_rfl) (.cons (k0:=1) rfl (by kernel_rfl) rep_ints (.cons (k0:=1) rfl (by kernel_rfl) rep_ZIl .nil))).map (fun p=>⟨p.1,p.2.1⟩) (fun _=>rfl) fun _ h=>⟨h.2.1.2,Nat.le_trans h.2.1.1 (by decide)⟩).mono (Nat.le_succ n)
end
end
section
open Go.RowKit

section
variable {w:World} {n:Nat}
theorem rep_RelsL:zgh w n 23 (slD 4 zaa.d) (fun xs=>xs.length≤maxLen∧∀ x ∈ xs,TLb x.t) :=
 zdm (k:=4) Tryz.underlying23 (by kernel_rfl) (by decide) (fun _=>rfl) rep_Rel
theorem rep_bools:zgh w n 25 (slD 1 za6) (fun xs=>xs.length≤maxLen∧∀ x ∈ xs,True) :=
 zdm (k:=1) Tryz.underlying25 (by kernel_rfl) (by decide) (fun _=>rfl) (rep_bool Tryz.underlying4)
end
theorem SAbstrCubesW (ps:List zaa) (bits:List Bool) (x:StD) (hp:ps.length≤maxLen∧∀ r ∈ ps,TLb r.t) (hb:bits.length≤maxLen∧∀ b ∈ bits,True) (hx:StRd x):Fn Tryz.prog 4 [] [(vRs ps),.t (.c (.d (.sl 1 (bits.map za6)))),vd (StD.d x)] (vb true) [] :=
 LAbstrCubes ps bits x hp.2 (Nat.le_trans hp.1 (by decide)) (Nat.le_trans hb.1 (by decide)) hx
end
end Go.Proofs.YtcppcnfmgpphcaaGreat.S
section
namespace Go.Proofs.YtcppcnfmgpphcaaGreat.abstrCubesDone
open Go.ChangeShapes Go.WideShapes Go.ChangeAt Go.RowKit
open Go.ChangeMaps (open_string shut_string)
open Go.Proofs.YtcppcnfmgpphcaaGreat.S

theorem own:ownKnob Tryz.prog.godebug=none:=by kernel_rfl
theorem laidOut:laidOutB Tryz.prog=true:=by kernel_rfl

theorem lifted (os:Os) (started:os.Started) (H:Type) (enc:TypeId × Value→H) :
  ReturnsInHanded {} Tryz.checked os 4 .any (Rows.abstrCubesSpec.pre6 enc Tryz.prog Tryz.f4 Rows.abstrCubesRow.domain false) (Rows.abstrCubesSpec.post enc Tryz.prog Tryz.f4 false true false false):=by
 refine returnsInHanded_of_change (C:=Tryz.checked) own started (by kernel_rfl) Tryz.func4
  (ChangeSpec.witness6 (enc:=enc) (C:=Tryz.checked) false ⟨#[],#[.slice none 0 0,.slice none 0 0,.agg #[.slice none 0 0,.slice none 0 0]],[]⟩ 12 (by kernel_rfl) (by kernel_rfl) (by kernel_rfl) (by kernel_rfl)) ?_
 intro W base args ds gs before hval0 hW hcnd _
 have hval:∀ (j:Nat) t v,Tryz.f4.params[j]?=some t→args[j]?=some v→Value.okWide Tryz.prog W .any base t v:=hval0
 have hW':=hW
 obtain ⟨p,q,hA0,hV,rfl,hfz,hnd⟩:=hW
 have hA:DataW.TrodAll enc Tryz.prog W 0 (fun _=>true) true Tryz.f4.params.toList args.toList ds p:=hA0
 rw [Tryz.params4] at hA hval
 obtain ⟨v0,vs0,d0,ds0,p0,q0,hargs,rfl,rfl,h0,r0⟩:=trodAll_cons hA
 obtain ⟨v1,vs1,d1,ds1,p1,q1,rfl,rfl,rfl,h1,r1⟩:=trodAll_cons r0
 obtain ⟨v2,vs2,d2,ds2,p2,q2,rfl,rfl,rfl,h2,r2⟩:=trodAll_cons r1
 obtain ⟨rfl,rfl,rfl⟩:=trodAll_nil r2
 obtain rfl:args=#[v0,v1,v2]:=by cases args;simp_all
 obtain ⟨rfl,rfl⟩:=trodVars_none hV
 have k0:=h0
 have lt0:∀ x ∈ p0,x.block<W.heap.size:=by obtain ⟨m,hm⟩:=k0;exact DataW.trod_lt m _ _ _ hm
 obtain ⟨a0,ao0,len0,cap0,g0,rfl,dr0⟩:=rep_one Tryz.underlying23 (fun _=>rep_RelsL) (hval 0 23 v0 rfl rfl) h0
 have k1:=h1
 have lt1:∀ x ∈ p1,x.block<W.heap.size:=by obtain ⟨m,hm⟩:=k1;exact DataW.trod_lt m _ _ _ hm
 obtain ⟨a1,ao1,len1,cap1,g1,rfl,dr1⟩:=rep_one Tryz.underlying25 (fun _=>rep_bools) (hval 1 25 v1 rfl rfl) h1
 have k2:=h2
 have lt2:∀ x ∈ p2,x.block<W.heap.size:=by obtain ⟨m,hm⟩:=k2;exact DataW.trod_lt m _ _ _ hm
 obtain ⟨a2,cs2,g2,rfl,dr2⟩:=rep_agg Tryz.underlying30 (fun _=>rep_State) (hval 2 30 v2 rfl rfl) h2
 clear hA0 hval0
 refine ((SAbstrCubesW a0 a1 a2 g0 g1 g2).calls (w:=W) (vals:=[.slice ao0 len0 cap0,.slice ao1 len1 cap1,.agg ⟨cs2⟩]) fun B=>⟨dr0,dr1,dr_vd dr2 B,trivial⟩).mono fun e W' ⟨he,bel⟩=>?_
 subst he
 exact ⟨_,rfl,_,_,_,[],_,[],hW', trodAll_mk1 (shut_bool Tryz.underlying4 _),(trodAll_cons_mk (Below.trod laidOut (by kernel_rfl) (of_decide_eq_true (by kernel_rfl)) k0 bel lt0) (trodAll_cons_mk (Below.trod laidOut (by kernel_rfl) (of_decide_eq_true (by kernel_rfl)) k1 bel lt1) (trodAll_cons_mk (Below.trod laidOut (by kernel_rfl) (of_decide_eq_true (by kernel_rfl)) k2 bel lt2) trodAll_mk0))),rfl,bel.below.frame _,fun h=>by cases h⟩

theorem over:Rows.abstrCubesRow.holds Tryz.pinned (OpenSpec.ofChange Rows.abstrCubesSpec) :=
 OpenClaim.holds_of_wide 4 Tryz.f4 rfl rfl rfl rfl rfl rfl rfl ⟨rfl,rfl,rfl,rfl,rfl⟩ rfl rfl rfl rfl rfl (by kernel_rfl) Tryz.func4 (by kernel_rfl)
  (of_decide_eq_true (by kernel_rfl)) (by unfold Func.isWrapper;first | (rw [if_pos (by decide +kernel)];kernel_rfl) | (rw [if_neg (by decide +kernel)];exact ⟨rfl,rfl⟩))
  (fun os started H enc _=>lifted os started H enc)

theorem proved:Rows.AbstrCubesSaid:=over
end Go.Proofs.YtcppcnfmgpphcaaGreat.abstrCubesDone
end
