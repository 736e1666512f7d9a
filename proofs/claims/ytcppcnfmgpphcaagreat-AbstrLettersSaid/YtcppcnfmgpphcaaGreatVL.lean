/-
  The proof of the statement AbstrLetters: the walk through the program and the references lifted to the given row. It holds for every input.
-/
import Derived.Test.YtcppcnfmgpphcaaGreatVL5
import Derived.Test.YtcppcnfmgpphcaaGreatVL2
import Derived.Test.YtcppcnfmgpphcaaGreatVL4
import Derived.SizedLaws
import Derived.Test.YtcppcnfmgpphcaaGreatRows
set_option maxRecDepth 100000
namespace Go.Proofs.YtcppcnfmgpphcaaGreat.S
section
open Go.RowKit

theorem kid_nodes {f g:za1} (h:g ∈ f.kids):g.nodes≤f.nodes:=by
 rw [za1.nodes_eq f]
 have:∀ (xs:List za1),g ∈ xs→g.nodes≤(xs.map za1.nodes).sum:=fun xs=>by
  induction xs with
  | nil=>intro h;cases h
  | cons x xs ih =>
   intro h
   rw [List.map_cons,List.sum_cons]
   rcases List.mem_cons.1 h with rfl | h
   ·omega
   ·have:=ih h;omega
 have:=this _ h;omega
theorem Ltruth (ps:List zab) (bs:List Bool) (hps:ps.length≤1000000∧∀ p ∈ ps,TOk 200 3000 p.t) (hb:bs.length≤9223372036854775807) (f:za1):f.okA 200 2900→f.nodes≤1000000→Fn Tryz.prog 35 [] [(vF f),(vRs ps),.t (.c (.d (.sl 1 (bs.map za5))))] (.tup [.c (cB (za1.tru ps bs f).1),.c (cB (za1.tru ps bs f).2)]) [] :=
 za1.ind (P:=fun f=>f.okA 200 2900→f.nodes≤1000000→Fn Tryz.prog 35 [] [(vF f),(vRs ps),.t (.c (.d (.sl 1 (bs.map za5))))] (.tup [.c (cB (za1.tru ps bs f).1),.c (cB (za1.tru ps bs f).2)]) []) (fun k r ks ih hf hn=>Ltruth0 ⟨k,r,ks⟩ ps bs (fun g hg=>ih g hg (zfk hf hg) (Nat.le_trans (kid_nodes hg) hn)) hf hps hb hn) f
def locB (locs:List Int) (proc loc:Int):Bool:=decide (0≤proc∧proc<(locs.length:Int)) && ((locs[proc.toNat]?).getD 0 == loc)
def zas (ps:List zab) (a:ze2) (p:zag):Bool × Bool:=if p.at_=true then (locB a.locs p.proc p.loc,true) else (p.f.flat false).tru ps a.bits
def zbe (props:List zag) (ps:List zab) (a:ze2):List Bool × Bool:=if (props.all fun p=>(zas ps a p).2)=true then (props.map fun p=>(zas ps a p).1,true) else ([],false)
theorem letA_at {ps:List zab} {a:ze2} {p:zag} (h:p.at_=true):zas ps a p=(locB a.locs p.proc p.loc,true):=if_pos h
theorem zgx {ps:List zab} {a:ze2} {p:zag} (h:p.at_=false):zas ps a p=(p.f.flat false).tru ps a.bits:=if_neg (by rw [h];exact Bool.noConfusion)
theorem locB_no {locs:List Int} {proc loc:Int} (h:proc<0∨(locs.length:Int)≤proc):locB locs proc loc=false:=by
 unfold locB;rw [decide_eq_false (by omega)];rfl
theorem locB_at {locs:List Int} {proc loc l:Int} {k:Nat} (hk:proc=(k:Int)) (h:locs[k]?=some l):locB locs proc loc=(l == loc):=by
 have:=(List.getElem?_eq_some_iff.1 h).1
 unfold locB;rw [decide_eq_true (by omega),hk,Int.toNat_natCast,h];rfl
set_option maxHeartbeats 4000000 in
theorem LLetter (props:List zag) (ps:List zab) (a_:ze2) (hpr:zgr props) (hps:ps.length≤1000000∧∀ p ∈ ps,TOk 200 3000 p.t) (ha:a_.locs.length≤9223372036854775807∧a_.bits.length≤9223372036854775807):Fn Tryz.prog 11 [] [.t (.c (.d (.sl 9 (props.map zag.d)))),(vRs ps),.t (.agg [cIs a_.locs,.d (.sl 1 (a_.bits.map za5))])] (.tup [.c (.d (.sl 1 ((zbe props ps a_).1.map za5))),.c (cB (zbe props ps a_).2)]) []:=by
 have lpr:=hpr.1
 have la1:=ha.1
 refine Fn.body Tryz.func11 rfl 62 rfl fun w H B a h=>?_
 refine rq za0 20 [] [(0,.t (.c (.d (.sl 9 (props.map zag.d))))),(1,(vRs ps)),(5,vp 20 0),(6,.t (.c (.d (.raw za6)))),(7,vb false)] [(20,.box [cIs a_.locs,.d (.sl 1 (a_.bits.map za5))])] h ?_;clear h;intro a w h
 refine rq za0 21 [] [(0,.t (.c (.d (.sl 9 (props.map zag.d))))),(1,(vRs ps)),(5,vp 20 0),(6,.t (.c (.d (.raw za6)))),(7,vb false),(8,.t (.c (.d (.raw za6))))] [(20,.box [cIs a_.locs,.d (.sl 1 (a_.bits.map za5))])] h ?_;clear h;intro a w h
 refine wp_seq (rq za0 21 [(1,.len (c:=(.d (.sl 9 (props.map zag.d)))) (n:=props.length) (zae _ _ _))] [(1,(vRs ps)),(5,vp 20 0),(6,.t (.c (.d (.raw za6)))),(7,vb false),(8,.t (.c (.d (.raw za6)))),(13,.t (.c (.d (.sl 9 (props.map zag.d))))),(14,vi .i64 (props.length:Int)),(15,vi .i64 0)] [(20,.box [cIs a_.locs,.d (.sl 1 (a_.bits.map za5))])] h ?_);clear h;intro a w h
 refine wp_block ?_
 replace h:=zel 8 0 21 1 4 (.t (.c (.d (.raw za6)))) [(1,(vRs ps)),(5,vp 20 0),(6,.t (.c (.d (.raw za6)))),(7,vb false),(8,.t (.c (.own 21 0))),(13,.t (.c (.d (.sl 9 (props.map zag.d))))),(14,vi .i64 (props.length:Int)),(15,vi .i64 0)] [(20,.box [cIs a_.locs,.d (.sl 1 (a_.bits.map za5))]),(21,.row 4 1 ([].map za5))] h (by kernel_rfl) rfl rfl
 replace h:=h.conv (f':=F.of [(1,(vRs ps)),(5,vp 20 0),(6,.t (.c (.d (.raw za6)))),(7,vb false),(8,.t (.c (.own 21 0))),(13,.t (.c (.d (.sl 9 (props.map zag.d))))),(14,vi .i64 (props.length:Int)),(15,vi .i64 0)] [(20,.box [cIs a_.locs,.d (.sl 1 (a_.bits.map za5))]),(21,.row 4 1 (((props.take 0).map (fun p=>(zas ps a_ p).1)).map za5))]) (congrArg (fun (z_:List Bool)=>F.of [(1,(vRs ps)),(5,vp 20 0),(6,.t (.c (.d (.raw za6)))),(7,vb false),(8,.t (.c (.own 21 0))),(13,.t (.c (.d (.sl 9 (props.map zag.d))))),(14,vi .i64 (props.length:Int)),(15,vi .i64 0)] [(20,.box [cIs a_.locs,.d (.sl 1 (a_.bits.map za5))]),(21,.row 4 1 (z_.map za5))]) (show ([]:List Bool)=((props.take 0).map (fun p=>(zas ps a_ p).1)) from (by simp)))
 refine zb1 (ι:=(Nat)) (fun (z_:(Nat))=>match z_ with | j=>j≤props.length∧(props.take j).all (fun p=>(zas ps a_ p).2)=true)
   (fun (z_:(Nat))=>match z_ with | j=>[(1,(vRs ps)),(5,vp 20 0),(8,.t (.c (.own 21 ((props.take j).map (fun p=>(zas ps a_ p).1)).length))),(13,.t (.c (.d (.sl 9 (props.map zag.d))))),(14,vi .i64 (props.length:Int)),(15,vi .i64 (j:Int))])
   (fun (z_:(Nat))=>match z_ with | j=>[(20,.box [cIs a_.locs,.d (.sl 1 (a_.bits.map za5))]),(21,.row 4 1 (((props.take j).map (fun p=>(zas ps a_ p).1)).map za5))])
   (fun (z_:(Nat))=>match z_ with | j=>props.length - j) 0 ?_ h (by kernel_rfl) (by kernel_rfl) ?_
 ·exact ⟨Nat.zero_le _,rfl⟩
 ·clear h;rintro j a w hI h
  change St _ (F.of [(1,(vRs ps)),(5,vp 20 0),(8,.t (.c (.own 21 ((props.take j).map (fun p=>(zas ps a_ p).1)).length))),(13,.t (.c (.d (.sl 9 (props.map zag.d))))),(14,vi .i64 (props.length:Int)),(15,vi .i64 (j:Int))] [(20,.box [cIs a_.locs,.d (.sl 1 (a_.bits.map za5))]),(21,.row 4 1 (((props.take j).map (fun p=>(zas ps a_ p).1)).map za5))]) a w at h
  obtain ⟨hI1,hI2⟩:=hI
  have llj:((props.take j).map (fun p=>(zas ps a_ p).1)).length≤j:=by rw [List.length_map,List.length_take];omega
  refine rq za0 22 [] [(1,(vRs ps)),(5,vp 20 0),(8,.t (.c (.own 21 ((props.take j).map (fun p=>(zas ps a_ p).1)).length))),(13,.t (.c (.d (.sl 9 (props.map zag.d))))),(14,vi .i64 (props.length:Int)),(15,vi .i64 (j:Int)),(16,vb (decide ((j:Int)<(props.length:Int))))] [(20,.box [cIs a_.locs,.d (.sl 1 (a_.bits.map za5))]),(21,.row 4 1 (((props.take j).map (fun p=>(zas ps a_ p).1)).map za5))] h ?_;clear h;intro a w h
  refine wp_seq ?_
  refine zaa (decide ((j:Int)<(props.length:Int))) h rfl (fun hc=>?_) (fun hc=>?_)
  ·have hc1:=hc;clear hc
   have hc1':=of_decide_eq_true hc1
   refine wp_skip (za4 (wp_seq (wp_block ?_)))
   obtain ⟨x1,hx1⟩:∃ z_:zag,props[j]?=some z_:=⟨_,List.getElem?_eq_getElem (by first | omega | (simp at *;omega))⟩
   refine rq za0 22 [(0,.gen _ _ _ fun _ _ _ _=>Op.idxD (d:=17) (t:=13) (k := .i64) li9_5 (zal hx1 (f:=zag.d)) (OV.tmp 15 _))] [(1,(vRs ps)),(5,vp 20 0),(8,.t (.c (.own 21 ((props.take j).map (fun p=>(zas ps a_ p).1)).length))),(10,vp 22 0),(13,.t (.c (.d (.sl 9 (props.map zag.d))))),(14,vi .i64 (props.length:Int)),(15,vi .i64 (j:Int))] [(20,.box [cIs a_.locs,.d (.sl 1 (a_.bits.map za5))]),(21,.row 4 1 (((props.take j).map (fun p=>(zas ps a_ p).1)).map za5)),(22,.box ([cB x1.at_,cI x1.proc,cI x1.loc,cI x1.f.kind,cPs x1.f.r.t.parts]++zi x1.f.r.t.k++[cB x1.f.r.eq,cFs x1.f.kids]))] h ?_;clear h;intro a w h
   rcases Bool.eq_false_or_eq_true (decide (x1.proc≥0)) with hc | hc
   ·have hc2:=hc;clear hc
    have hc2':=of_decide_eq_true hc2
    rcases Bool.eq_false_or_eq_true (decide (x1.proc<(a_.locs.length:Int))) with hc | hc
    ·have hc3:=hc;clear hc
     have hc3':=of_decide_eq_true hc3
     obtain ⟨kp,hkkp⟩:∃ k_:Nat,x1.proc=(k_:Int):=⟨_,(Int.toNat_of_nonneg (by have:=of_decide_eq_true hc2;omega)).symm⟩
     replace h:=h.conv (f':=F.of [(1,(vRs ps)),(5,vp 20 0),(8,.t (.c (.own 21 ((props.take j).map (fun p=>(zas ps a_ p).1)).length))),(10,vp 22 0),(13,.t (.c (.d (.sl 9 (props.map zag.d))))),(14,vi .i64 (props.length:Int)),(15,vi .i64 (j:Int))] [(20,.box [cIs a_.locs,.d (.sl 1 (a_.bits.map za5))]),(21,.row 4 1 (((props.take j).map (fun p=>(zas ps a_ p).1)).map za5)),(22,.box ([cB x1.at_,cI (kp:Int),cI x1.loc,cI x1.f.kind,cPs x1.f.r.t.parts]++zi x1.f.r.t.k++[cB x1.f.r.eq,cFs x1.f.kids]))]) (by rw [hkkp])
     obtain ⟨x2,hx2⟩:∃ z_:Int,a_.locs[kp]?=some z_:=⟨_,List.getElem?_eq_getElem (by first | omega | (simp at *;omega))⟩
     refine rq za0 23 [(2,.cmp (op := .geq) (m:=(kp:Int)) (n:=0) (b:=true) .i64 (show (decide ((kp:Int)≥0))=true from by rw [← hkkp];exact hc2)),(8,.len (c:=(cIs a_.locs)) (n:=a_.locs.length) (zae _ _ _)),(9,.cmp (op := .lss) (m:=(kp:Int)) (n:=(a_.locs.length:Int)) (b:=true) .i64 (show (decide ((kp:Int)<(a_.locs.length:Int)))=true from by rw [← hkkp];exact hc3)),(16,.gen _ _ _ fun _ _ _ _=>Op.idxD (d:=35) (t:=32) (k := .i64) tb_1 (zal hx2 (f:=zbo)) (OV.tmp 34 _))] [(1,(vRs ps)),(5,vp 20 0),(8,.t (.c (.own 21 ((props.take j).map (fun p=>(zas ps a_ p).1)).length))),(10,vp 22 0),(11,vb (x2 == x1.loc)),(12,vb true),(13,.t (.c (.d (.sl 9 (props.map zag.d))))),(14,vi .i64 (props.length:Int)),(15,vi .i64 (j:Int))] [(20,.box [cIs a_.locs,.d (.sl 1 (a_.bits.map za5))]),(21,.row 4 1 (((props.take j).map (fun p=>(zas ps a_ p).1)).map za5)),(22,.box ([cB x1.at_,cI (kp:Int),cI x1.loc,cI x1.f.kind,cPs x1.f.r.t.parts]++zi x1.f.r.t.k++[cB x1.f.r.eq,cFs x1.f.kids]))] h ?_;clear h;intro a w h
     refine wp_seq (rq za0 23 [] [(1,(vRs ps)),(5,vp 20 0),(8,.t (.c (.own 21 ((props.take j).map (fun p=>(zas ps a_ p).1)).length))),(10,vp 22 0),(11,vb (x2 == x1.loc)),(12,vb true),(13,.t (.c (.d (.sl 9 (props.map zag.d))))),(14,vi .i64 (props.length:Int)),(15,vi .i64 (j:Int)),(43,vb (!x1.at_))] [(20,.box [cIs a_.locs,.d (.sl 1 (a_.bits.map za5))]),(21,.row 4 1 (((props.take j).map (fun p=>(zas ps a_ p).1)).map za5)),(22,.box ([cB x1.at_,cI (kp:Int),cI x1.loc,cI x1.f.kind,cPs x1.f.r.t.parts]++zi x1.f.r.t.k++[cB x1.f.r.eq,cFs x1.f.kids]))] h ?_);clear h;intro a w h
     refine zaa (!x1.at_) h rfl (fun hc=>?_) (fun hc=>?_)
     ·have hc4:=hc;clear hc
      have hc4':=hc4;(try simp at hc4')
      refine rn za0 23 [(2,.call (LFlat x1.f (za1.okB_mono (by decide) (by decide) _ (hpr.2 x1 (List.mem_of_getElem? hx1) (show (x1.at_)=false from by simpa using hc4)).1) (Nat.le_trans (hpr.2 x1 (List.mem_of_getElem? hx1) (show (x1.at_)=false from by simpa using hc4)).2 (by decide))) li9_6),(6,.call (Ltruth ps a_.bits hps ha.2 (za1.flat x1.f false) (zcb (hpr.2 x1 (List.mem_of_getElem? hx1) (show (x1.at_)=false from by simpa using hc4))).1 (Nat.le_trans (zcb (hpr.2 x1 (List.mem_of_getElem? hx1) (show (x1.at_)=false from by simpa using hc4))).2 (by decide))) lj10_3)] [(1,(vRs ps)),(5,vp 20 0),(8,.t (.c (.own 21 ((props.take j).map (fun p=>(zas ps a_ p).1)).length))),(11,vb (za1.tru ps a_.bits (za1.flat x1.f false)).1),(12,vb (za1.tru ps a_.bits (za1.flat x1.f false)).2),(13,.t (.c (.d (.sl 9 (props.map zag.d))))),(14,vi .i64 (props.length:Int)),(15,vi .i64 (j:Int))] [(20,.box [cIs a_.locs,.d (.sl 1 (a_.bits.map za5))]),(21,.row 4 1 (((props.take j).map (fun p=>(zas ps a_ p).1)).map za5))] h ?_;clear h;intro a w h
      refine za4 (wp_seq (rq za0 23 [] [(1,(vRs ps)),(5,vp 20 0),(8,.t (.c (.own 21 ((props.take j).map (fun p=>(zas ps a_ p).1)).length))),(11,vb (za1.tru ps a_.bits (za1.flat x1.f false)).1),(13,.t (.c (.d (.sl 9 (props.map zag.d))))),(14,vi .i64 (props.length:Int)),(15,vi .i64 (j:Int)),(55,vb (!(za1.tru ps a_.bits (za1.flat x1.f false)).2))] [(20,.box [cIs a_.locs,.d (.sl 1 (a_.bits.map za5))]),(21,.row 4 1 (((props.take j).map (fun p=>(zas ps a_ p).1)).map za5))] h ?_));clear h;intro a w h
      refine zaa (!(za1.tru ps a_.bits (za1.flat x1.f false)).2) h rfl (fun hc=>?_) (fun hc=>?_)
      ·have hc5:=hc;clear hc
       have hc5':=hc5;(try simp at hc5')
       refine rq za0 23 [] [(1,(vRs ps)),(5,vp 20 0),(6,.t (.c (.d (.raw za6)))),(7,vb false),(8,.t (.c (.own 21 ((props.take j).map (fun p=>(zas ps a_ p).1)).length))),(11,vb (za1.tru ps a_.bits (za1.flat x1.f false)).1),(13,.t (.c (.d (.sl 9 (props.map zag.d))))),(14,vi .i64 (props.length:Int)),(15,vi .i64 (j:Int))] [(20,.box [cIs a_.locs,.d (.sl 1 (a_.bits.map za5))]),(21,.row 4 1 (((props.take j).map (fun p=>(zas ps a_ p).1)).map za5))] h ?_;clear h;intro a w h
       refine wp_ret (za9 (zaf (za9 (za9 (zaf (za9 ?_))))))
       replace h:=nilDSs 6 0 1 (.t (.c (.d (.raw za6)))) [(1,(vRs ps)),(5,vp 20 0),(6,.t (.c (.d (.sl 1 ([].map za5))))),(7,vb false),(8,.t (.c (.own 21 ((props.take j).map (fun p=>(zas ps a_ p).1)).length))),(11,vb (za1.tru ps a_.bits (za1.flat x1.f false)).1),(13,.t (.c (.d (.sl 9 (props.map zag.d))))),(14,vi .i64 (props.length:Int)),(15,vi .i64 (j:Int))] [(20,.box [cIs a_.locs,.d (.sl 1 (a_.bits.map za5))]),(21,.row 4 1 (((props.take j).map (fun p=>(zas ps a_ p).1)).map za5))] h rfl rfl
       refine zap [.c (.d (.sl 1 ([].map za5))),.c (cB false)] h Exit.ret (.inl rfl)  rfl ⟨RV.tmp _ _ rfl,RV.tmp _ _ rfl,trivial⟩ ?_
       have hz:zbe props ps a_=([],false):=by unfold zbe;rw [zbd hx1 (show (zas ps a_ x1).2=false from by rw [zgx (show (x1.at_)=false from by simpa using hc4)];have:=hc5;simpa using this)];rfl
       rw [hz];first | done | rfl
      ·have hc6:=hc;clear hc
       have hc6':=hc6;(try simp at hc6')
       refine wp_skip (za4 (rn za0 23 [(2,.gen _ _ _ fun _ _ _ _=>Op.buildD (d:=58) (len:=1) (rows:=[(za1.tru ps a_.bits (za1.flat x1.f false)).1].map za5) (rs:=[(57,vb (za1.tru ps a_.bits (za1.flat x1.f false)).1)]) zfj (.cons (i:=0) (OV.tmp 57 _) (.nil)) (by kernel_rfl) rfl (by simp [za5]) (by decide) (by decide)),(3,.gen _ _ _ fun _ _ _ _=>Op.appOD (d:=59) (t:=56) (u:=58) (n:=21) (n':=23) (len:=((props.take j).map (fun p=>(zas ps a_ p).1)).length) (len':=(((props.take j).map (fun p=>(zas ps a_ p).1))++[(za1.tru ps a_.bits (za1.flat x1.f false)).1]).length) (rows:=((props.take j).map (fun p=>(zas ps a_ p).1)).map za5) (rows2:=[(za1.tru ps a_.bits (za1.flat x1.f false)).1].map za5) (rows':=(((props.take j).map (fun p=>(zas ps a_ p).1))++[(za1.tru ps a_.bits (za1.flat x1.f false)).1]).map za5) zh7 (by first | exact (List.length_map _).symm | simp) (by first | (rw [List.length_append,List.length_map];done) | simp) (by simp) (by simp [za5]) (by first | omega | (simp at *;done) | (simp at *;omega)))] [(1,(vRs ps)),(5,vp 20 0),(8,.t (.c (.own 23 (((props.take j).map (fun p=>(zas ps a_ p).1))++[(za1.tru ps a_.bits (za1.flat x1.f false)).1]).length))),(13,.t (.c (.d (.sl 9 (props.map zag.d))))),(14,vi .i64 (props.length:Int)),(15,vi .i64 (j:Int))] [(20,.box [cIs a_.locs,.d (.sl 1 (a_.bits.map za5))]),(23,.row 4 1 ((((props.take j).map (fun p=>(zas ps a_ p).1))++[(za1.tru ps a_.bits (za1.flat x1.f false)).1]).map za5))] h ?_));clear h;intro a w h
       refine zac (za4 (rn za0 24 [(0,.add .i64 (m:=(j:Int)) (n:=1) (zad (by omega) (by omega)))] [(1,(vRs ps)),(5,vp 20 0),(8,.t (.c (.own 23 (((props.take j).map (fun p=>(zas ps a_ p).1))++[(za1.tru ps a_.bits (za1.flat x1.f false)).1]).length))),(13,.t (.c (.d (.sl 9 (props.map zag.d))))),(14,vi .i64 (props.length:Int)),(15,vi .i64 ((j:Int)+1))] [(20,.box [cIs a_.locs,.d (.sl 1 (a_.bits.map za5))]),(23,.row 4 1 ((((props.take j).map (fun p=>(zas ps a_ p).1))++[(za1.tru ps a_.bits (za1.flat x1.f false)).1]).map za5))] h ?_));clear h;intro a w h
       refine za4 ?_
       have hla:zas ps a_ x1=((za1.tru ps a_.bits (za1.flat x1.f false)).1,((za1.flat x1.f false).tru ps a_.bits).2):=zgx (show (x1.at_)=false from by simpa using hc4)
       replace h:=h.conv (f':=F.of [(1,(vRs ps)),(5,vp 20 0),(8,.t (.c (.own 23 ((props.take (j+1)).map (fun p=>(zas ps a_ p).1)).length))),(13,.t (.c (.d (.sl 9 (props.map zag.d))))),(14,vi .i64 (props.length:Int)),(15,vi .i64 ((j:Int)+1))] [(20,.box [cIs a_.locs,.d (.sl 1 (a_.bits.map za5))]),(23,.row 4 1 (((props.take (j+1)).map (fun p=>(zas ps a_ p).1)).map za5))]) (congrArg (fun (z_:List Bool)=>F.of [(1,(vRs ps)),(5,vp 20 0),(8,.t (.c (.own 23 z_.length))),(13,.t (.c (.d (.sl 9 (props.map zag.d))))),(14,vi .i64 (props.length:Int)),(15,vi .i64 ((j:Int)+1))] [(20,.box [cIs a_.locs,.d (.sl 1 (a_.bits.map za5))]),(23,.row 4 1 (z_.map za5))]) (show ((((props.take j).map (fun p=>(zas ps a_ p).1))++[(za1.tru ps a_.bits (za1.flat x1.f false)).1]):List Bool)=((props.take (j+1)).map (fun p=>(zas ps a_ p).1)) from (by rw [← zc1 (f:=(fun p=>(zas ps a_ p).1)) hx1];congr 2;rw [hla])))
       replace h:=zc7 23 21 [(1,(vRs ps)),(5,vp 20 0),(8,.t (.c (.own 21 ((props.take (j+1)).map (fun p=>(zas ps a_ p).1)).length))),(13,.t (.c (.d (.sl 9 (props.map zag.d))))),(14,vi .i64 (props.length:Int)),(15,vi .i64 ((j:Int)+1))] [(20,.box [cIs a_.locs,.d (.sl 1 (a_.bits.map za5))]),(21,.row 4 1 (((props.take (j+1)).map (fun p=>(zas ps a_ p).1)).map za5))] h
       refine zam (x:=j) (y:=j+1) h ?_ ?_
       ·have:=zak hx1
        exact ⟨by omega,zbj hx1 hI2 (show (zas ps a_ x1).2=true from by rw [hla];have:=hc6;simpa using this)⟩
       ·show props.length - (j+1)<props.length - j
        have:=zak hx1;omega
     ·have hc7:=hc;clear hc
      have hc7':=hc7;(try simp at hc7')
      refine wp_skip (za4 (wp_seq (rq za0 24 [] [(1,(vRs ps)),(5,vp 20 0),(8,.t (.c (.own 21 ((props.take j).map (fun p=>(zas ps a_ p).1)).length))),(11,vb (x2 == x1.loc)),(13,.t (.c (.d (.sl 9 (props.map zag.d))))),(14,vi .i64 (props.length:Int)),(15,vi .i64 (j:Int)),(55,vb false)] [(20,.box [cIs a_.locs,.d (.sl 1 (a_.bits.map za5))]),(21,.row 4 1 (((props.take j).map (fun p=>(zas ps a_ p).1)).map za5))] h ?_)));clear h;intro a w h
      refine zaa false h rfl (fun hc=>?_) (fun hc=>?_)
      ·cases hc
      ·clear hc
       refine wp_skip (za4 (rn za0 24 [(2,.gen _ _ _ fun _ _ _ _=>Op.buildD (d:=58) (len:=1) (rows:=[x2 == x1.loc].map za5) (rs:=[(57,vb (x2 == x1.loc))]) zfj (.cons (i:=0) (OV.tmp 57 _) (.nil)) (by kernel_rfl) rfl (by simp [za5]) (by decide) (by decide)),(3,.gen _ _ _ fun _ _ _ _=>Op.appOD (d:=59) (t:=56) (u:=58) (n:=21) (n':=24) (len:=((props.take j).map (fun p=>(zas ps a_ p).1)).length) (len':=(((props.take j).map (fun p=>(zas ps a_ p).1))++[x2 == x1.loc]).length) (rows:=((props.take j).map (fun p=>(zas ps a_ p).1)).map za5) (rows2:=[x2 == x1.loc].map za5) (rows':=(((props.take j).map (fun p=>(zas ps a_ p).1))++[x2 == x1.loc]).map za5) zh7 (by first | exact (List.length_map _).symm | simp) (by first | (rw [List.length_append,List.length_map];done) | simp) (by simp) (by simp [za5]) (by first | omega | (simp at *;done) | (simp at *;omega)))] [(1,(vRs ps)),(5,vp 20 0),(8,.t (.c (.own 24 (((props.take j).map (fun p=>(zas ps a_ p).1))++[x2 == x1.loc]).length))),(13,.t (.c (.d (.sl 9 (props.map zag.d))))),(14,vi .i64 (props.length:Int)),(15,vi .i64 (j:Int))] [(20,.box [cIs a_.locs,.d (.sl 1 (a_.bits.map za5))]),(24,.row 4 1 ((((props.take j).map (fun p=>(zas ps a_ p).1))++[x2 == x1.loc]).map za5))] h ?_));clear h;intro a w h
       refine zac (za4 (rn za0 25 [(0,.add .i64 (m:=(j:Int)) (n:=1) (zad (by omega) (by omega)))] [(1,(vRs ps)),(5,vp 20 0),(8,.t (.c (.own 24 (((props.take j).map (fun p=>(zas ps a_ p).1))++[x2 == x1.loc]).length))),(13,.t (.c (.d (.sl 9 (props.map zag.d))))),(14,vi .i64 (props.length:Int)),(15,vi .i64 ((j:Int)+1))] [(20,.box [cIs a_.locs,.d (.sl 1 (a_.bits.map za5))]),(24,.row 4 1 ((((props.take j).map (fun p=>(zas ps a_ p).1))++[x2 == x1.loc]).map za5))] h ?_));clear h;intro a w h
       refine za4 ?_
       have hla:zas ps a_ x1=(x2 == x1.loc,true):=by rw [letA_at (show (x1.at_)=true from by simpa using hc7),locB_at hkkp hx2]
       replace h:=h.conv (f':=F.of [(1,(vRs ps)),(5,vp 20 0),(8,.t (.c (.own 24 ((props.take (j+1)).map (fun p=>(zas ps a_ p).1)).length))),(13,.t (.c (.d (.sl 9 (props.map zag.d))))),(14,vi .i64 (props.length:Int)),(15,vi .i64 ((j:Int)+1))] [(20,.box [cIs a_.locs,.d (.sl 1 (a_.bits.map za5))]),(24,.row 4 1 (((props.take (j+1)).map (fun p=>(zas ps a_ p).1)).map za5))]) (congrArg (fun (z_:List Bool)=>F.of [(1,(vRs ps)),(5,vp 20 0),(8,.t (.c (.own 24 z_.length))),(13,.t (.c (.d (.sl 9 (props.map zag.d))))),(14,vi .i64 (props.length:Int)),(15,vi .i64 ((j:Int)+1))] [(20,.box [cIs a_.locs,.d (.sl 1 (a_.bits.map za5))]),(24,.row 4 1 (z_.map za5))]) (show ((((props.take j).map (fun p=>(zas ps a_ p).1))++[x2 == x1.loc]):List Bool)=((props.take (j+1)).map (fun p=>(zas ps a_ p).1)) from (by rw [← zc1 (f:=(fun p=>(zas ps a_ p).1)) hx1];congr 2;rw [hla])))
       replace h:=zc7 24 21 [(1,(vRs ps)),(5,vp 20 0),(8,.t (.c (.own 21 ((props.take (j+1)).map (fun p=>(zas ps a_ p).1)).length))),(13,.t (.c (.d (.sl 9 (props.map zag.d))))),(14,vi .i64 (props.length:Int)),(15,vi .i64 ((j:Int)+1))] [(20,.box [cIs a_.locs,.d (.sl 1 (a_.bits.map za5))]),(21,.row 4 1 (((props.take (j+1)).map (fun p=>(zas ps a_ p).1)).map za5))] h
       refine zam (x:=j) (y:=j+1) h ?_ ?_
       ·have:=zak hx1
        exact ⟨by omega,zbj hx1 hI2 (show (zas ps a_ x1).2=true from by rw [hla])⟩
       ·show props.length - (j+1)<props.length - j
        have:=zak hx1;omega
    ·have hc8:=hc;clear hc
     have hc8':=of_decide_eq_false hc8
     refine rq za0 25 [(2,.cmp (op := .geq) (m:=x1.proc) (n:=0) (b:=true) .i64 hc2),(8,.len (c:=(cIs a_.locs)) (n:=a_.locs.length) (zae _ _ _)),(9,.cmp (op := .lss) (m:=x1.proc) (n:=(a_.locs.length:Int)) (b:=false) .i64 hc8)] [(1,(vRs ps)),(5,vp 20 0),(8,.t (.c (.own 21 ((props.take j).map (fun p=>(zas ps a_ p).1)).length))),(10,vp 22 0),(11,vb false),(12,vb true),(13,.t (.c (.d (.sl 9 (props.map zag.d))))),(14,vi .i64 (props.length:Int)),(15,vi .i64 (j:Int))] [(20,.box [cIs a_.locs,.d (.sl 1 (a_.bits.map za5))]),(21,.row 4 1 (((props.take j).map (fun p=>(zas ps a_ p).1)).map za5)),(22,.box ([cB x1.at_,cI x1.proc,cI x1.loc,cI x1.f.kind,cPs x1.f.r.t.parts]++zi x1.f.r.t.k++[cB x1.f.r.eq,cFs x1.f.kids]))] h ?_;clear h;intro a w h
     refine wp_seq (rq za0 25 [] [(1,(vRs ps)),(5,vp 20 0),(8,.t (.c (.own 21 ((props.take j).map (fun p=>(zas ps a_ p).1)).length))),(10,vp 22 0),(11,vb false),(12,vb true),(13,.t (.c (.d (.sl 9 (props.map zag.d))))),(14,vi .i64 (props.length:Int)),(15,vi .i64 (j:Int)),(43,vb (!x1.at_))] [(20,.box [cIs a_.locs,.d (.sl 1 (a_.bits.map za5))]),(21,.row 4 1 (((props.take j).map (fun p=>(zas ps a_ p).1)).map za5)),(22,.box ([cB x1.at_,cI x1.proc,cI x1.loc,cI x1.f.kind,cPs x1.f.r.t.parts]++zi x1.f.r.t.k++[cB x1.f.r.eq,cFs x1.f.kids]))] h ?_);clear h;intro a w h
     refine zaa (!x1.at_) h rfl (fun hc=>?_) (fun hc=>?_)
     ·have hc9:=hc;clear hc
      have hc9':=hc9;(try simp at hc9')
      refine rn za0 25 [(2,.call (LFlat x1.f (za1.okB_mono (by decide) (by decide) _ (hpr.2 x1 (List.mem_of_getElem? hx1) (show (x1.at_)=false from by simpa using hc9)).1) (Nat.le_trans (hpr.2 x1 (List.mem_of_getElem? hx1) (show (x1.at_)=false from by simpa using hc9)).2 (by decide))) li9_6),(6,.call (Ltruth ps a_.bits hps ha.2 (za1.flat x1.f false) (zcb (hpr.2 x1 (List.mem_of_getElem? hx1) (show (x1.at_)=false from by simpa using hc9))).1 (Nat.le_trans (zcb (hpr.2 x1 (List.mem_of_getElem? hx1) (show (x1.at_)=false from by simpa using hc9))).2 (by decide))) lj10_3)] [(1,(vRs ps)),(5,vp 20 0),(8,.t (.c (.own 21 ((props.take j).map (fun p=>(zas ps a_ p).1)).length))),(11,vb (za1.tru ps a_.bits (za1.flat x1.f false)).1),(12,vb (za1.tru ps a_.bits (za1.flat x1.f false)).2),(13,.t (.c (.d (.sl 9 (props.map zag.d))))),(14,vi .i64 (props.length:Int)),(15,vi .i64 (j:Int))] [(20,.box [cIs a_.locs,.d (.sl 1 (a_.bits.map za5))]),(21,.row 4 1 (((props.take j).map (fun p=>(zas ps a_ p).1)).map za5))] h ?_;clear h;intro a w h
      refine za4 (wp_seq (rq za0 25 [] [(1,(vRs ps)),(5,vp 20 0),(8,.t (.c (.own 21 ((props.take j).map (fun p=>(zas ps a_ p).1)).length))),(11,vb (za1.tru ps a_.bits (za1.flat x1.f false)).1),(13,.t (.c (.d (.sl 9 (props.map zag.d))))),(14,vi .i64 (props.length:Int)),(15,vi .i64 (j:Int)),(55,vb (!(za1.tru ps a_.bits (za1.flat x1.f false)).2))] [(20,.box [cIs a_.locs,.d (.sl 1 (a_.bits.map za5))]),(21,.row 4 1 (((props.take j).map (fun p=>(zas ps a_ p).1)).map za5))] h ?_));clear h;intro a w h
      refine zaa (!(za1.tru ps a_.bits (za1.flat x1.f false)).2) h rfl (fun hc=>?_) (fun hc=>?_)
      ·have hc10:=hc;clear hc
       have hc10':=hc10;(try simp at hc10')
       refine rq za0 25 [] [(1,(vRs ps)),(5,vp 20 0),(6,.t (.c (.d (.raw za6)))),(7,vb false),(8,.t (.c (.own 21 ((props.take j).map (fun p=>(zas ps a_ p).1)).length))),(11,vb (za1.tru ps a_.bits (za1.flat x1.f false)).1),(13,.t (.c (.d (.sl 9 (props.map zag.d))))),(14,vi .i64 (props.length:Int)),(15,vi .i64 (j:Int))] [(20,.box [cIs a_.locs,.d (.sl 1 (a_.bits.map za5))]),(21,.row 4 1 (((props.take j).map (fun p=>(zas ps a_ p).1)).map za5))] h ?_;clear h;intro a w h
       refine wp_ret (za9 (zaf (za9 (za9 (zaf (za9 ?_))))))
       replace h:=nilDSs 6 0 1 (.t (.c (.d (.raw za6)))) [(1,(vRs ps)),(5,vp 20 0),(6,.t (.c (.d (.sl 1 ([].map za5))))),(7,vb false),(8,.t (.c (.own 21 ((props.take j).map (fun p=>(zas ps a_ p).1)).length))),(11,vb (za1.tru ps a_.bits (za1.flat x1.f false)).1),(13,.t (.c (.d (.sl 9 (props.map zag.d))))),(14,vi .i64 (props.length:Int)),(15,vi .i64 (j:Int))] [(20,.box [cIs a_.locs,.d (.sl 1 (a_.bits.map za5))]),(21,.row 4 1 (((props.take j).map (fun p=>(zas ps a_ p).1)).map za5))] h rfl rfl
       refine zap [.c (.d (.sl 1 ([].map za5))),.c (cB false)] h Exit.ret (.inl rfl)  rfl ⟨RV.tmp _ _ rfl,RV.tmp _ _ rfl,trivial⟩ ?_
       have hz:zbe props ps a_=([],false):=by unfold zbe;rw [zbd hx1 (show (zas ps a_ x1).2=false from by rw [zgx (show (x1.at_)=false from by simpa using hc9)];have:=hc10;simpa using this)];rfl
       rw [hz];first | done | rfl
      ·have hc11:=hc;clear hc
       have hc11':=hc11;(try simp at hc11')
       refine wp_skip (za4 (rn za0 25 [(2,.gen _ _ _ fun _ _ _ _=>Op.buildD (d:=58) (len:=1) (rows:=[(za1.tru ps a_.bits (za1.flat x1.f false)).1].map za5) (rs:=[(57,vb (za1.tru ps a_.bits (za1.flat x1.f false)).1)]) zfj (.cons (i:=0) (OV.tmp 57 _) (.nil)) (by kernel_rfl) rfl (by simp [za5]) (by decide) (by decide)),(3,.gen _ _ _ fun _ _ _ _=>Op.appOD (d:=59) (t:=56) (u:=58) (n:=21) (n':=25) (len:=((props.take j).map (fun p=>(zas ps a_ p).1)).length) (len':=(((props.take j).map (fun p=>(zas ps a_ p).1))++[(za1.tru ps a_.bits (za1.flat x1.f false)).1]).length) (rows:=((props.take j).map (fun p=>(zas ps a_ p).1)).map za5) (rows2:=[(za1.tru ps a_.bits (za1.flat x1.f false)).1].map za5) (rows':=(((props.take j).map (fun p=>(zas ps a_ p).1))++[(za1.tru ps a_.bits (za1.flat x1.f false)).1]).map za5) zh7 (by first | exact (List.length_map _).symm | simp) (by first | (rw [List.length_append,List.length_map];done) | simp) (by simp) (by simp [za5]) (by first | omega | (simp at *;done) | (simp at *;omega)))] [(1,(vRs ps)),(5,vp 20 0),(8,.t (.c (.own 25 (((props.take j).map (fun p=>(zas ps a_ p).1))++[(za1.tru ps a_.bits (za1.flat x1.f false)).1]).length))),(13,.t (.c (.d (.sl 9 (props.map zag.d))))),(14,vi .i64 (props.length:Int)),(15,vi .i64 (j:Int))] [(20,.box [cIs a_.locs,.d (.sl 1 (a_.bits.map za5))]),(25,.row 4 1 ((((props.take j).map (fun p=>(zas ps a_ p).1))++[(za1.tru ps a_.bits (za1.flat x1.f false)).1]).map za5))] h ?_));clear h;intro a w h
       refine zac (za4 (rn za0 26 [(0,.add .i64 (m:=(j:Int)) (n:=1) (zad (by omega) (by omega)))] [(1,(vRs ps)),(5,vp 20 0),(8,.t (.c (.own 25 (((props.take j).map (fun p=>(zas ps a_ p).1))++[(za1.tru ps a_.bits (za1.flat x1.f false)).1]).length))),(13,.t (.c (.d (.sl 9 (props.map zag.d))))),(14,vi .i64 (props.length:Int)),(15,vi .i64 ((j:Int)+1))] [(20,.box [cIs a_.locs,.d (.sl 1 (a_.bits.map za5))]),(25,.row 4 1 ((((props.take j).map (fun p=>(zas ps a_ p).1))++[(za1.tru ps a_.bits (za1.flat x1.f false)).1]).map za5))] h ?_));clear h;intro a w h
       refine za4 ?_
       have hla:zas ps a_ x1=((za1.tru ps a_.bits (za1.flat x1.f false)).1,((za1.flat x1.f false).tru ps a_.bits).2):=zgx (show (x1.at_)=false from by simpa using hc9)
       replace h:=h.conv (f':=F.of [(1,(vRs ps)),(5,vp 20 0),(8,.t (.c (.own 25 ((props.take (j+1)).map (fun p=>(zas ps a_ p).1)).length))),(13,.t (.c (.d (.sl 9 (props.map zag.d))))),(14,vi .i64 (props.length:Int)),(15,vi .i64 ((j:Int)+1))] [(20,.box [cIs a_.locs,.d (.sl 1 (a_.bits.map za5))]),(25,.row 4 1 (((props.take (j+1)).map (fun p=>(zas ps a_ p).1)).map za5))]) (congrArg (fun (z_:List Bool)=>F.of [(1,(vRs ps)),(5,vp 20 0),(8,.t (.c (.own 25 z_.length))),(13,.t (.c (.d (.sl 9 (props.map zag.d))))),(14,vi .i64 (props.length:Int)),(15,vi .i64 ((j:Int)+1))] [(20,.box [cIs a_.locs,.d (.sl 1 (a_.bits.map za5))]),(25,.row 4 1 (z_.map za5))]) (show ((((props.take j).map (fun p=>(zas ps a_ p).1))++[(za1.tru ps a_.bits (za1.flat x1.f false)).1]):List Bool)=((props.take (j+1)).map (fun p=>(zas ps a_ p).1)) from (by rw [← zc1 (f:=(fun p=>(zas ps a_ p).1)) hx1];congr 2;rw [hla])))
       replace h:=zc7 25 21 [(1,(vRs ps)),(5,vp 20 0),(8,.t (.c (.own 21 ((props.take (j+1)).map (fun p=>(zas ps a_ p).1)).length))),(13,.t (.c (.d (.sl 9 (props.map zag.d))))),(14,vi .i64 (props.length:Int)),(15,vi .i64 ((j:Int)+1))] [(20,.box [cIs a_.locs,.d (.sl 1 (a_.bits.map za5))]),(21,.row 4 1 (((props.take (j+1)).map (fun p=>(zas ps a_ p).1)).map za5))] h
       refine zam (x:=j) (y:=j+1) h ?_ ?_
       ·have:=zak hx1
        exact ⟨by omega,zbj hx1 hI2 (show (zas ps a_ x1).2=true from by rw [hla];have:=hc11;simpa using this)⟩
       ·show props.length - (j+1)<props.length - j
        have:=zak hx1;omega
     ·have hc12:=hc;clear hc
      have hc12':=hc12;(try simp at hc12')
      refine wp_skip (za4 (wp_seq (rq za0 26 [] [(1,(vRs ps)),(5,vp 20 0),(8,.t (.c (.own 21 ((props.take j).map (fun p=>(zas ps a_ p).1)).length))),(11,vb false),(13,.t (.c (.d (.sl 9 (props.map zag.d))))),(14,vi .i64 (props.length:Int)),(15,vi .i64 (j:Int)),(55,vb false)] [(20,.box [cIs a_.locs,.d (.sl 1 (a_.bits.map za5))]),(21,.row 4 1 (((props.take j).map (fun p=>(zas ps a_ p).1)).map za5))] h ?_)));clear h;intro a w h
      refine zaa false h rfl (fun hc=>?_) (fun hc=>?_)
      ·cases hc
      ·clear hc
       refine wp_skip (za4 (rn za0 26 [(2,.gen _ _ _ fun _ _ _ _=>Op.buildD (d:=58) (len:=1) (rows:=[false].map za5) (rs:=[(57,vb false)]) zfj (.cons (i:=0) (OV.tmp 57 _) (.nil)) (by kernel_rfl) rfl (by simp [za5]) (by decide) (by decide)),(3,.gen _ _ _ fun _ _ _ _=>Op.appOD (d:=59) (t:=56) (u:=58) (n:=21) (n':=26) (len:=((props.take j).map (fun p=>(zas ps a_ p).1)).length) (len':=(((props.take j).map (fun p=>(zas ps a_ p).1))++[false]).length) (rows:=((props.take j).map (fun p=>(zas ps a_ p).1)).map za5) (rows2:=[false].map za5) (rows':=(((props.take j).map (fun p=>(zas ps a_ p).1))++[false]).map za5) zh7 (by first | exact (List.length_map _).symm | simp) (by first | (rw [List.length_append,List.length_map];done) | simp) (by simp) (by simp [za5]) (by first | omega | (simp at *;done) | (simp at *;omega)))] [(1,(vRs ps)),(5,vp 20 0),(8,.t (.c (.own 26 (((props.take j).map (fun p=>(zas ps a_ p).1))++[false]).length))),(13,.t (.c (.d (.sl 9 (props.map zag.d))))),(14,vi .i64 (props.length:Int)),(15,vi .i64 (j:Int))] [(20,.box [cIs a_.locs,.d (.sl 1 (a_.bits.map za5))]),(26,.row 4 1 ((((props.take j).map (fun p=>(zas ps a_ p).1))++[false]).map za5))] h ?_));clear h;intro a w h
       refine zac (za4 (rn za0 27 [(0,.add .i64 (m:=(j:Int)) (n:=1) (zad (by omega) (by omega)))] [(1,(vRs ps)),(5,vp 20 0),(8,.t (.c (.own 26 (((props.take j).map (fun p=>(zas ps a_ p).1))++[false]).length))),(13,.t (.c (.d (.sl 9 (props.map zag.d))))),(14,vi .i64 (props.length:Int)),(15,vi .i64 ((j:Int)+1))] [(20,.box [cIs a_.locs,.d (.sl 1 (a_.bits.map za5))]),(26,.row 4 1 ((((props.take j).map (fun p=>(zas ps a_ p).1))++[false]).map za5))] h ?_));clear h;intro a w h
       refine za4 ?_
       have hla:zas ps a_ x1=(false,true):=by rw [letA_at (show (x1.at_)=true from by simpa using hc12),locB_no (.inr (by have:=of_decide_eq_false hc8;omega))]
       replace h:=h.conv (f':=F.of [(1,(vRs ps)),(5,vp 20 0),(8,.t (.c (.own 26 ((props.take (j+1)).map (fun p=>(zas ps a_ p).1)).length))),(13,.t (.c (.d (.sl 9 (props.map zag.d))))),(14,vi .i64 (props.length:Int)),(15,vi .i64 ((j:Int)+1))] [(20,.box [cIs a_.locs,.d (.sl 1 (a_.bits.map za5))]),(26,.row 4 1 (((props.take (j+1)).map (fun p=>(zas ps a_ p).1)).map za5))]) (congrArg (fun (z_:List Bool)=>F.of [(1,(vRs ps)),(5,vp 20 0),(8,.t (.c (.own 26 z_.length))),(13,.t (.c (.d (.sl 9 (props.map zag.d))))),(14,vi .i64 (props.length:Int)),(15,vi .i64 ((j:Int)+1))] [(20,.box [cIs a_.locs,.d (.sl 1 (a_.bits.map za5))]),(26,.row 4 1 (z_.map za5))]) (show ((((props.take j).map (fun p=>(zas ps a_ p).1))++[false]):List Bool)=((props.take (j+1)).map (fun p=>(zas ps a_ p).1)) from (by rw [← zc1 (f:=(fun p=>(zas ps a_ p).1)) hx1];congr 2;rw [hla])))
       replace h:=zc7 26 21 [(1,(vRs ps)),(5,vp 20 0),(8,.t (.c (.own 21 ((props.take (j+1)).map (fun p=>(zas ps a_ p).1)).length))),(13,.t (.c (.d (.sl 9 (props.map zag.d))))),(14,vi .i64 (props.length:Int)),(15,vi .i64 ((j:Int)+1))] [(20,.box [cIs a_.locs,.d (.sl 1 (a_.bits.map za5))]),(21,.row 4 1 (((props.take (j+1)).map (fun p=>(zas ps a_ p).1)).map za5))] h
       refine zam (x:=j) (y:=j+1) h ?_ ?_
       ·have:=zak hx1
        exact ⟨by omega,zbj hx1 hI2 (show (zas ps a_ x1).2=true from by rw [hla])⟩
       ·show props.length - (j+1)<props.length - j
        have:=zak hx1;omega
   ·have hc13:=hc;clear hc
    have hc13':=of_decide_eq_false hc13
    refine rq za0 27 [(2,.cmp (op := .geq) (m:=x1.proc) (n:=0) (b:=false) .i64 hc13)] [(1,(vRs ps)),(5,vp 20 0),(8,.t (.c (.own 21 ((props.take j).map (fun p=>(zas ps a_ p).1)).length))),(10,vp 22 0),(11,vb false),(12,vb true),(13,.t (.c (.d (.sl 9 (props.map zag.d))))),(14,vi .i64 (props.length:Int)),(15,vi .i64 (j:Int))] [(20,.box [cIs a_.locs,.d (.sl 1 (a_.bits.map za5))]),(21,.row 4 1 (((props.take j).map (fun p=>(zas ps a_ p).1)).map za5)),(22,.box ([cB x1.at_,cI x1.proc,cI x1.loc,cI x1.f.kind,cPs x1.f.r.t.parts]++zi x1.f.r.t.k++[cB x1.f.r.eq,cFs x1.f.kids]))] h ?_;clear h;intro a w h
    refine wp_seq (rq za0 27 [] [(1,(vRs ps)),(5,vp 20 0),(8,.t (.c (.own 21 ((props.take j).map (fun p=>(zas ps a_ p).1)).length))),(10,vp 22 0),(11,vb false),(12,vb true),(13,.t (.c (.d (.sl 9 (props.map zag.d))))),(14,vi .i64 (props.length:Int)),(15,vi .i64 (j:Int)),(43,vb (!x1.at_))] [(20,.box [cIs a_.locs,.d (.sl 1 (a_.bits.map za5))]),(21,.row 4 1 (((props.take j).map (fun p=>(zas ps a_ p).1)).map za5)),(22,.box ([cB x1.at_,cI x1.proc,cI x1.loc,cI x1.f.kind,cPs x1.f.r.t.parts]++zi x1.f.r.t.k++[cB x1.f.r.eq,cFs x1.f.kids]))] h ?_);clear h;intro a w h
    refine zaa (!x1.at_) h rfl (fun hc=>?_) (fun hc=>?_)
    ·have hc14:=hc;clear hc
     have hc14':=hc14;(try simp at hc14')
     refine rn za0 27 [(2,.call (LFlat x1.f (za1.okB_mono (by decide) (by decide) _ (hpr.2 x1 (List.mem_of_getElem? hx1) (show (x1.at_)=false from by simpa using hc14)).1) (Nat.le_trans (hpr.2 x1 (List.mem_of_getElem? hx1) (show (x1.at_)=false from by simpa using hc14)).2 (by decide))) li9_6),(6,.call (Ltruth ps a_.bits hps ha.2 (za1.flat x1.f false) (zcb (hpr.2 x1 (List.mem_of_getElem? hx1) (show (x1.at_)=false from by simpa using hc14))).1 (Nat.le_trans (zcb (hpr.2 x1 (List.mem_of_getElem? hx1) (show (x1.at_)=false from by simpa using hc14))).2 (by decide))) lj10_3)] [(1,(vRs ps)),(5,vp 20 0),(8,.t (.c (.own 21 ((props.take j).map (fun p=>(zas ps a_ p).1)).length))),(11,vb (za1.tru ps a_.bits (za1.flat x1.f false)).1),(12,vb (za1.tru ps a_.bits (za1.flat x1.f false)).2),(13,.t (.c (.d (.sl 9 (props.map zag.d))))),(14,vi .i64 (props.length:Int)),(15,vi .i64 (j:Int))] [(20,.box [cIs a_.locs,.d (.sl 1 (a_.bits.map za5))]),(21,.row 4 1 (((props.take j).map (fun p=>(zas ps a_ p).1)).map za5))] h ?_;clear h;intro a w h
     refine za4 (wp_seq (rq za0 27 [] [(1,(vRs ps)),(5,vp 20 0),(8,.t (.c (.own 21 ((props.take j).map (fun p=>(zas ps a_ p).1)).length))),(11,vb (za1.tru ps a_.bits (za1.flat x1.f false)).1),(13,.t (.c (.d (.sl 9 (props.map zag.d))))),(14,vi .i64 (props.length:Int)),(15,vi .i64 (j:Int)),(55,vb (!(za1.tru ps a_.bits (za1.flat x1.f false)).2))] [(20,.box [cIs a_.locs,.d (.sl 1 (a_.bits.map za5))]),(21,.row 4 1 (((props.take j).map (fun p=>(zas ps a_ p).1)).map za5))] h ?_));clear h;intro a w h
     refine zaa (!(za1.tru ps a_.bits (za1.flat x1.f false)).2) h rfl (fun hc=>?_) (fun hc=>?_)
     ·have hc15:=hc;clear hc
      have hc15':=hc15;(try simp at hc15')
      refine rq za0 27 [] [(1,(vRs ps)),(5,vp 20 0),(6,.t (.c (.d (.raw za6)))),(7,vb false),(8,.t (.c (.own 21 ((props.take j).map (fun p=>(zas ps a_ p).1)).length))),(11,vb (za1.tru ps a_.bits (za1.flat x1.f false)).1),(13,.t (.c (.d (.sl 9 (props.map zag.d))))),(14,vi .i64 (props.length:Int)),(15,vi .i64 (j:Int))] [(20,.box [cIs a_.locs,.d (.sl 1 (a_.bits.map za5))]),(21,.row 4 1 (((props.take j).map (fun p=>(zas ps a_ p).1)).map za5))] h ?_;clear h;intro a w h
      refine wp_ret (za9 (zaf (za9 (za9 (zaf (za9 ?_))))))
      replace h:=nilDSs 6 0 1 (.t (.c (.d (.raw za6)))) [(1,(vRs ps)),(5,vp 20 0),(6,.t (.c (.d (.sl 1 ([].map za5))))),(7,vb false),(8,.t (.c (.own 21 ((props.take j).map (fun p=>(zas ps a_ p).1)).length))),(11,vb (za1.tru ps a_.bits (za1.flat x1.f false)).1),(13,.t (.c (.d (.sl 9 (props.map zag.d))))),(14,vi .i64 (props.length:Int)),(15,vi .i64 (j:Int))] [(20,.box [cIs a_.locs,.d (.sl 1 (a_.bits.map za5))]),(21,.row 4 1 (((props.take j).map (fun p=>(zas ps a_ p).1)).map za5))] h rfl rfl
      refine zap [.c (.d (.sl 1 ([].map za5))),.c (cB false)] h Exit.ret (.inl rfl)  rfl ⟨RV.tmp _ _ rfl,RV.tmp _ _ rfl,trivial⟩ ?_
      have hz:zbe props ps a_=([],false):=by unfold zbe;rw [zbd hx1 (show (zas ps a_ x1).2=false from by rw [zgx (show (x1.at_)=false from by simpa using hc14)];have:=hc15;simpa using this)];rfl
      rw [hz];first | done | rfl
     ·have hc16:=hc;clear hc
      have hc16':=hc16;(try simp at hc16')
      refine wp_skip (za4 (rn za0 27 [(2,.gen _ _ _ fun _ _ _ _=>Op.buildD (d:=58) (len:=1) (rows:=[(za1.tru ps a_.bits (za1.flat x1.f false)).1].map za5) (rs:=[(57,vb (za1.tru ps a_.bits (za1.flat x1.f false)).1)]) zfj (.cons (i:=0) (OV.tmp 57 _) (.nil)) (by kernel_rfl) rfl (by simp [za5]) (by decide) (by decide)),(3,.gen _ _ _ fun _ _ _ _=>Op.appOD (d:=59) (t:=56) (u:=58) (n:=21) (n':=27) (len:=((props.take j).map (fun p=>(zas ps a_ p).1)).length) (len':=(((props.take j).map (fun p=>(zas ps a_ p).1))++[(za1.tru ps a_.bits (za1.flat x1.f false)).1]).length) (rows:=((props.take j).map (fun p=>(zas ps a_ p).1)).map za5) (rows2:=[(za1.tru ps a_.bits (za1.flat x1.f false)).1].map za5) (rows':=(((props.take j).map (fun p=>(zas ps a_ p).1))++[(za1.tru ps a_.bits (za1.flat x1.f false)).1]).map za5) zh7 (by first | exact (List.length_map _).symm | simp) (by first | (rw [List.length_append,List.length_map];done) | simp) (by simp) (by simp [za5]) (by first | omega | (simp at *;done) | (simp at *;omega)))] [(1,(vRs ps)),(5,vp 20 0),(8,.t (.c (.own 27 (((props.take j).map (fun p=>(zas ps a_ p).1))++[(za1.tru ps a_.bits (za1.flat x1.f false)).1]).length))),(13,.t (.c (.d (.sl 9 (props.map zag.d))))),(14,vi .i64 (props.length:Int)),(15,vi .i64 (j:Int))] [(20,.box [cIs a_.locs,.d (.sl 1 (a_.bits.map za5))]),(27,.row 4 1 ((((props.take j).map (fun p=>(zas ps a_ p).1))++[(za1.tru ps a_.bits (za1.flat x1.f false)).1]).map za5))] h ?_));clear h;intro a w h
      refine zac (za4 (rn za0 28 [(0,.add .i64 (m:=(j:Int)) (n:=1) (zad (by omega) (by omega)))] [(1,(vRs ps)),(5,vp 20 0),(8,.t (.c (.own 27 (((props.take j).map (fun p=>(zas ps a_ p).1))++[(za1.tru ps a_.bits (za1.flat x1.f false)).1]).length))),(13,.t (.c (.d (.sl 9 (props.map zag.d))))),(14,vi .i64 (props.length:Int)),(15,vi .i64 ((j:Int)+1))] [(20,.box [cIs a_.locs,.d (.sl 1 (a_.bits.map za5))]),(27,.row 4 1 ((((props.take j).map (fun p=>(zas ps a_ p).1))++[(za1.tru ps a_.bits (za1.flat x1.f false)).1]).map za5))] h ?_));clear h;intro a w h
      refine za4 ?_
      have hla:zas ps a_ x1=((za1.tru ps a_.bits (za1.flat x1.f false)).1,((za1.flat x1.f false).tru ps a_.bits).2):=zgx (show (x1.at_)=false from by simpa using hc14)
      replace h:=h.conv (f':=F.of [(1,(vRs ps)),(5,vp 20 0),(8,.t (.c (.own 27 ((props.take (j+1)).map (fun p=>(zas ps a_ p).1)).length))),(13,.t (.c (.d (.sl 9 (props.map zag.d))))),(14,vi .i64 (props.length:Int)),(15,vi .i64 ((j:Int)+1))] [(20,.box [cIs a_.locs,.d (.sl 1 (a_.bits.map za5))]),(27,.row 4 1 (((props.take (j+1)).map (fun p=>(zas ps a_ p).1)).map za5))]) (congrArg (fun (z_:List Bool)=>F.of [(1,(vRs ps)),(5,vp 20 0),(8,.t (.c (.own 27 z_.length))),(13,.t (.c (.d (.sl 9 (props.map zag.d))))),(14,vi .i64 (props.length:Int)),(15,vi .i64 ((j:Int)+1))] [(20,.box [cIs a_.locs,.d (.sl 1 (a_.bits.map za5))]),(27,.row 4 1 (z_.map za5))]) (show ((((props.take j).map (fun p=>(zas ps a_ p).1))++[(za1.tru ps a_.bits (za1.flat x1.f false)).1]):List Bool)=((props.take (j+1)).map (fun p=>(zas ps a_ p).1)) from (by rw [← zc1 (f:=(fun p=>(zas ps a_ p).1)) hx1];congr 2;rw [hla])))
      replace h:=zc7 27 21 [(1,(vRs ps)),(5,vp 20 0),(8,.t (.c (.own 21 ((props.take (j+1)).map (fun p=>(zas ps a_ p).1)).length))),(13,.t (.c (.d (.sl 9 (props.map zag.d))))),(14,vi .i64 (props.length:Int)),(15,vi .i64 ((j:Int)+1))] [(20,.box [cIs a_.locs,.d (.sl 1 (a_.bits.map za5))]),(21,.row 4 1 (((props.take (j+1)).map (fun p=>(zas ps a_ p).1)).map za5))] h
      refine zam (x:=j) (y:=j+1) h ?_ ?_
      ·have:=zak hx1
       exact ⟨by omega,zbj hx1 hI2 (show (zas ps a_ x1).2=true from by rw [hla];have:=hc16;simpa using this)⟩
      ·show props.length - (j+1)<props.length - j
       have:=zak hx1;omega
    ·have hc17:=hc;clear hc
     have hc17':=hc17;(try simp at hc17')
     refine wp_skip (za4 (wp_seq (rq za0 28 [] [(1,(vRs ps)),(5,vp 20 0),(8,.t (.c (.own 21 ((props.take j).map (fun p=>(zas ps a_ p).1)).length))),(11,vb false),(13,.t (.c (.d (.sl 9 (props.map zag.d))))),(14,vi .i64 (props.length:Int)),(15,vi .i64 (j:Int)),(55,vb false)] [(20,.box [cIs a_.locs,.d (.sl 1 (a_.bits.map za5))]),(21,.row 4 1 (((props.take j).map (fun p=>(zas ps a_ p).1)).map za5))] h ?_)));clear h;intro a w h
     refine zaa false h rfl (fun hc=>?_) (fun hc=>?_)
     ·cases hc
     ·clear hc
      refine wp_skip (za4 (rn za0 28 [(2,.gen _ _ _ fun _ _ _ _=>Op.buildD (d:=58) (len:=1) (rows:=[false].map za5) (rs:=[(57,vb false)]) zfj (.cons (i:=0) (OV.tmp 57 _) (.nil)) (by kernel_rfl) rfl (by simp [za5]) (by decide) (by decide)),(3,.gen _ _ _ fun _ _ _ _=>Op.appOD (d:=59) (t:=56) (u:=58) (n:=21) (n':=28) (len:=((props.take j).map (fun p=>(zas ps a_ p).1)).length) (len':=(((props.take j).map (fun p=>(zas ps a_ p).1))++[false]).length) (rows:=((props.take j).map (fun p=>(zas ps a_ p).1)).map za5) (rows2:=[false].map za5) (rows':=(((props.take j).map (fun p=>(zas ps a_ p).1))++[false]).map za5) zh7 (by first | exact (List.length_map _).symm | simp) (by first | (rw [List.length_append,List.length_map];done) | simp) (by simp) (by simp [za5]) (by first | omega | (simp at *;done) | (simp at *;omega)))] [(1,(vRs ps)),(5,vp 20 0),(8,.t (.c (.own 28 (((props.take j).map (fun p=>(zas ps a_ p).1))++[false]).length))),(13,.t (.c (.d (.sl 9 (props.map zag.d))))),(14,vi .i64 (props.length:Int)),(15,vi .i64 (j:Int))] [(20,.box [cIs a_.locs,.d (.sl 1 (a_.bits.map za5))]),(28,.row 4 1 ((((props.take j).map (fun p=>(zas ps a_ p).1))++[false]).map za5))] h ?_));clear h;intro a w h
      refine zac (za4 (rn za0 29 [(0,.add .i64 (m:=(j:Int)) (n:=1) (zad (by omega) (by omega)))] [(1,(vRs ps)),(5,vp 20 0),(8,.t (.c (.own 28 (((props.take j).map (fun p=>(zas ps a_ p).1))++[false]).length))),(13,.t (.c (.d (.sl 9 (props.map zag.d))))),(14,vi .i64 (props.length:Int)),(15,vi .i64 ((j:Int)+1))] [(20,.box [cIs a_.locs,.d (.sl 1 (a_.bits.map za5))]),(28,.row 4 1 ((((props.take j).map (fun p=>(zas ps a_ p).1))++[false]).map za5))] h ?_));clear h;intro a w h
      refine za4 ?_
      have hla:zas ps a_ x1=(false,true):=by rw [letA_at (show (x1.at_)=true from by simpa using hc17),locB_no (.inl (by have:=of_decide_eq_false hc13;omega))]
      replace h:=h.conv (f':=F.of [(1,(vRs ps)),(5,vp 20 0),(8,.t (.c (.own 28 ((props.take (j+1)).map (fun p=>(zas ps a_ p).1)).length))),(13,.t (.c (.d (.sl 9 (props.map zag.d))))),(14,vi .i64 (props.length:Int)),(15,vi .i64 ((j:Int)+1))] [(20,.box [cIs a_.locs,.d (.sl 1 (a_.bits.map za5))]),(28,.row 4 1 (((props.take (j+1)).map (fun p=>(zas ps a_ p).1)).map za5))]) (congrArg (fun (z_:List Bool)=>F.of [(1,(vRs ps)),(5,vp 20 0),(8,.t (.c (.own 28 z_.length))),(13,.t (.c (.d (.sl 9 (props.map zag.d))))),(14,vi .i64 (props.length:Int)),(15,vi .i64 ((j:Int)+1))] [(20,.box [cIs a_.locs,.d (.sl 1 (a_.bits.map za5))]),(28,.row 4 1 (z_.map za5))]) (show ((((props.take j).map (fun p=>(zas ps a_ p).1))++[false]):List Bool)=((props.take (j+1)).map (fun p=>(zas ps a_ p).1)) from (by rw [← zc1 (f:=(fun p=>(zas ps a_ p).1)) hx1];congr 2;rw [hla])))
      replace h:=zc7 28 21 [(1,(vRs ps)),(5,vp 20 0),(8,.t (.c (.own 21 ((props.take (j+1)).map (fun p=>(zas ps a_ p).1)).length))),(13,.t (.c (.d (.sl 9 (props.map zag.d))))),(14,vi .i64 (props.length:Int)),(15,vi .i64 ((j:Int)+1))] [(20,.box [cIs a_.locs,.d (.sl 1 (a_.bits.map za5))]),(21,.row 4 1 (((props.take (j+1)).map (fun p=>(zas ps a_ p).1)).map za5))] h
      refine zam (x:=j) (y:=j+1) h ?_ ?_
      ·have:=zak hx1
       exact ⟨by omega,zbj hx1 hI2 (show (zas ps a_ x1).2=true from by rw [hla])⟩
      ·show props.length - (j+1)<props.length - j
       have:=zak hx1;omega
  ·have hc18:=hc;clear hc
   have hc18':=of_decide_eq_false hc18
   refine wp_exit (zai (zai (za8 (za4 (rq za0 29 [] [(6,.t (.c (.own 21 ((props.take j).map (fun p=>(zas ps a_ p).1)).length))),(7,vb true)] [(21,.row 4 1 (((props.take j).map (fun p=>(zas ps a_ p).1)).map za5))] h ?_)))));clear h;intro a w h
   refine wp_ret ?_
   replace h:=pubS 21 1 4 (((props.take j).map (fun p=>(zas ps a_ p).1)).map za5) [(6,.t (.c (.d (.sl 1 (((props.take j).map (fun p=>(zas ps a_ p).1)).map za5))))),(7,vb true)] [] h rfl (show zc5 _ [((props.take j).map (fun p=>(zas ps a_ p).1)).length] from ⟨by first | exact (List.length_map _).symm | (simp;done) | (simp;omega),trivial⟩) trivial
   refine zap [.c (.d (.sl 1 (((props.take j).map (fun p=>(zas ps a_ p).1)).map za5))),.c (cB true)] h Exit.ret (.inl rfl)  rfl ⟨RV.tmp _ _ rfl,RV.tmp _ _ rfl,trivial⟩ ?_
   have hz:zbe props ps a_=(((props.take j).map (fun p=>(zas ps a_ p).1)),true):=by unfold zbe;rw [if_pos (zdd (by omega) hI2),List.take_of_length_le (by omega)]
   rw [hz];first | done | rfl
end
section
open Go.RowKit

def zah (n:Int):zab:=⟨⟨[⟨0,ZI.of 1⟩],ZI.of (0 - n)⟩,false⟩
def f0:za1:=⟨0,zR,[]⟩
def atE (r:zab):za1:=⟨2,r,[]⟩
def zct:List zag:=[⟨true,0,0,f0⟩,⟨false,0,0,atE (zah 2)⟩]
def stE:StD:=⟨[0],[ZI.of 5]⟩
def aE:ze2:=⟨[0],[true]⟩
theorem te1:ofA [zah 2] stE=aE:=by kernel_rfl
theorem te2:zb0 (zah 2)=(zah 2,0):=by kernel_rfl
theorem te3:(atE (zah 2)).flat false=atE (zah 2):=by rw [flat_2f rfl rfl];unfold zaq;rw [show (atE (zah 2)).r=zah 2 from rfl,te2];rfl
theorem te4:atR [] (zah 2)=-1:=rfl
theorem te5:cpR (zah 2)=zah 2:=by kernel_rfl
theorem te6:zcf zct=[zah 2]:=by
 show zaj (zaj [] ⟨true,0,0,f0⟩) ⟨false,0,0,atE (zah 2)⟩=_
 unfold zaj
 rw [if_neg (by decide),if_pos rfl]
 show ((atE (zah 2)).flat false).gath []=_
 rw [te3,zhl rfl (by rw [show (atE (zah 2)).r=zah 2 from rfl,te4];decide)]
 show []++[cpR (zah 2)]=_
 rw [te5];rfl
theorem te7:zf5 zct=([zah 2],0):=by unfold zf5;rw [te6];rfl
theorem te8:atR [zah 2] (zah 2)=((0:Nat):Int):=by kernel_rfl
theorem te9:(atE (zah 2)).tru [zah 2] [true]=(true,true):=tru_at rfl te8 rfl
theorem te10:zbe zct [zah 2] aE=([true,true],true):=by
 unfold zbe zct
 have h1:zas [zah 2] aE ⟨true,0,0,f0⟩=(true,true):=by rw [letA_at rfl];rfl
 have h2:zas [zah 2] aE ⟨false,0,0,atE (zah 2)⟩=(true,true):=by rw [zgx rfl];show ((atE (zah 2)).flat false).tru _ _=_;rw [te3];exact te9
 simp [h1,h2]
theorem te11:zbe zct [] aE=([],false):=by
 unfold zbe zct
 have h2:zas [] aE ⟨false,0,0,atE (zah 2)⟩=(false,false):=by rw [zgx rfl];show ((atE (zah 2)).flat false).tru _ _=_;rw [te3];exact tru_no rfl (.inl (by rw [show (atE (zah 2)).r=zah 2 from rfl,te4];decide))
 simp [h2]
theorem te12:(cubeF [zah 2] [false]).holds []=true:=by
 unfold cubeF
 rw [all_holds]
 show ((litF (zah 2) false).holds [] && true)=true
 unfold litF
 rw [if_neg (by decide),deny_holds,atom_holds]
 kernel_rfl
theorem te13:cmpA aE aE=0:=by kernel_rfl
theorem te14:cmpA aE ⟨[0],[false]⟩=1:=by kernel_rfl
theorem te16:cpR (zah 3)=zah 3:=by kernel_rfl
theorem te17:atR [zah 2] (zah 3)=-1:=by kernel_rfl
theorem te15:gathT [zah 2] (atE (zah 3))=[zah 2,zah 3]:=by
 have h:(atE (zah 3)).gath [zah 2]=[zah 2]++[cpR (zah 3)]:=zhl (f:=atE (zah 3)) (ps:=[zah 2]) rfl (by rw [show (atE (zah 3)).r=zah 3 from rfl,te17];decide)
 unfold gathT
 rw [List.map_cons,te5,List.map_nil,h,te16];rfl
set_option maxHeartbeats 4000000 in
theorem Lleast (n:Int) (hn:-1000≤n∧n≤1000):Fn Tryz.prog 29 [] [vi .i64 n] (vR (zah n)) []:=by
 refine Fn.body Tryz.func29 rfl 11 rfl fun w H B a h=>?_
 refine rq za0 0 [] [(0,vi .i64 n),(2,vp 0 0)] [(0,.box [.d (.raw za6),cB false,.d (nsl []),cB false])] h ?_;clear h;intro a w h
 refine rq za0 1 [(0,.call (SROf 1 ⟨by omega,by omega⟩) tc_0),(2,.gen _ _ _ fun _ _ _ _=>Op.buildD (d:=5) (len:=1) (rows:=[(za2.mk 0 (ZI.of 1))].map za2.d) (rs:=[(4,.t (.agg ([cI 0]++zi (ZI.of 1))))]) tb_9 (.cons (i:=0) (OV.tmp 4 _) (.nil)) (by kernel_rfl) rfl (by simp [za2.d]) (by decide) (by decide)),(4,.sub .i64 (m:=0) (n:=n) (zad (by omega) (by omega))),(5,.call (SROf (0 - n) ⟨by omega,by omega⟩) tc_0)] [(2,vp 0 0)] [(0,.box ([cPs [(za2.mk 0 (ZI.of 1))]]++zi (ZI.of (0 - n))++[cB false]))] h ?_;clear h;intro a w h
 refine wp_ret ?_
 refine zap [.agg ([cPs [(za2.mk 0 (ZI.of 1))]]++zi (ZI.of (0 - n))++[cB false])] h Exit.ret (.inl rfl)  rfl ⟨RV.agg _ 0 0 _ _ _ _ la_1 rfl rfl rfl rfl,trivial⟩ ?_
 rfl
end
section
open Go.RowKit

theorem zhg {α β:Type} {f:α→β} {xs:List α} {j:Nat} {x:α} (h:xs[j]?=some x):(xs.take j).map f++[f x]=(xs.take (j+1)).map f:=by rw [List.take_add_one,h,List.map_append];rfl
end
section
open Go.RowKit
end
section
open Go.RowKit
end
section
open Go.RowKit

def zao (p:zag) (x:StD):Bool:=if p.at_=true then decide (0≤p.proc∧p.proc<(x.locs.length:Int)) && ((x.locs[p.proc.toNat]?).getD 0 == p.loc) else p.f.holds x.vals
def PropOk (L:Nat) (p:zag):Prop:=p.f.lb∧p.f.ok L
def zem (ps:List zag) (x:StD):List Bool:=ps.map fun p=>zao p x
end
section
open Go.RowKit
end
section
open Go.RowKit
end
section
open Go.RowKit
end
section
open Go.RowKit
end
section
open Go.RowKit

theorem ks_10:za7 Tryz.prog 28:=za7.mk' (by kernel_rfl)
set_option maxHeartbeats 4000000 in
theorem SRLetter (ps:List zag) (x:StD) {L M:Nat} (hL:L+M≤4000) (hps:∀ p ∈ ps,PropOk L p) (hpl:ps.length≤1000) (hx:StOk M x):Fn Tryz.prog 28 [] [.t (.c (.d (.sl 9 (ps.map zag.d)))),.t (.agg [cIs x.locs,cZs x.vals])] (.t (.c (.d (.sl 1 ((zem ps x).map za5))))) []:=by
 have lx1:=hx.locs
 refine Fn.body Tryz.func28 rfl 55 rfl fun w H B a h=>?_
 refine rq za0 0 [] [(0,.t (.c (.d (.sl 9 (ps.map zag.d))))),(3,vp 0 0),(4,.t (.c (.d (.raw za6))))] [(0,.box [cIs x.locs,cZs x.vals])] h ?_;clear h;intro a w h
 refine rq za0 1 [(0,.gen _ _ _ fun _ _ _ _=>Op.buildE (d:=8) (n:=1) zfj)] [(0,.t (.c (.d (.sl 9 (ps.map zag.d))))),(3,vp 0 0),(4,.t (.c (.d (.raw za6)))),(5,.t (.c (.own 1 0)))] [(0,.box [cIs x.locs,cZs x.vals]),(1,.row 4 1 ([].map za5))] h ?_;clear h;intro a w h
 refine wp_seq (rq za0 2 [] [(0,.t (.c (.d (.sl 9 (ps.map zag.d))))),(3,vp 0 0),(4,.t (.c (.d (.raw za6)))),(5,.t (.c (.own 1 0))),(6,vi .i64 0)] [(0,.box [cIs x.locs,cZs x.vals]),(1,.row 4 1 ([].map za5))] h ?_);clear h;intro a w h
 refine wp_block ?_
 refine zb1 (ι:=(Nat)) (fun (z_:(Nat))=>match z_ with | j=>j≤ps.length)
   (fun (z_:(Nat))=>match z_ with | j=>[(0,.t (.c (.d (.sl 9 (ps.map zag.d))))),(3,vp 0 0),(4,.t (.c (.d (.raw za6)))),(5,.t (.c (.own 1 ((ps.take j).map (fun p=>zao p x)).length))),(6,vi .i64 (j:Int))])
   (fun (z_:(Nat))=>match z_ with | j=>[(0,.box [cIs x.locs,cZs x.vals]),(1,.row 4 1 (((ps.take j).map (fun p=>zao p x)).map za5))])
   (fun (z_:(Nat))=>match z_ with | j=>ps.length - j) 0 ?_ h (by kernel_rfl) (by kernel_rfl) ?_
 ·exact Nat.zero_le _
 ·clear h;rintro j a w hI h
  change St _ (F.of [(0,.t (.c (.d (.sl 9 (ps.map zag.d))))),(3,vp 0 0),(4,.t (.c (.d (.raw za6)))),(5,.t (.c (.own 1 ((ps.take j).map (fun p=>zao p x)).length))),(6,vi .i64 (j:Int))] [(0,.box [cIs x.locs,cZs x.vals]),(1,.row 4 1 (((ps.take j).map (fun p=>zao p x)).map za5))]) a w at h
  have hfl:((ps.take j).map (fun p=>zao p x)).length≤j:=by rw [List.length_map,List.length_take];omega
  refine wp_seq (rq za0 2 [(2,.len (c:=(.d (.sl 9 (ps.map zag.d)))) (n:=ps.length) (zae _ _ _))] [(0,.t (.c (.d (.sl 9 (ps.map zag.d))))),(3,vp 0 0),(4,.t (.c (.d (.raw za6)))),(5,.t (.c (.own 1 ((ps.take j).map (fun p=>zao p x)).length))),(6,vi .i64 (j:Int)),(12,vb (decide ((j:Int)<(ps.length:Int))))] [(0,.box [cIs x.locs,cZs x.vals]),(1,.row 4 1 (((ps.take j).map (fun p=>zao p x)).map za5))] h ?_);clear h;intro a w h
  refine zaa (decide ((j:Int)<(ps.length:Int))) h rfl (fun hc=>?_) (fun hc=>?_)
  ·have hc1:=hc;clear hc
   have hc1':=of_decide_eq_true hc1
   refine wp_skip (za4 (wp_seq (wp_block ?_)))
   obtain ⟨x1,hx1⟩:∃ z_:zag,ps[j]?=some z_:=⟨_,List.getElem?_eq_getElem (by first | omega | (simp at *;omega))⟩
   refine rq za0 2 [(2,.gen _ _ _ fun _ _ _ _=>Op.idxD (d:=17) (t:=15) (k := .i64) li9_5 (zal hx1 (f:=zag.d)) (OV.tmp 16 _))] [(0,.t (.c (.d (.sl 9 (ps.map zag.d))))),(3,vp 0 0),(4,.t (.c (.d (.raw za6)))),(5,.t (.c (.own 1 ((ps.take j).map (fun p=>zao p x)).length))),(6,vi .i64 (j:Int)),(7,vp 2 0)] [(0,.box [cIs x.locs,cZs x.vals]),(1,.row 4 1 (((ps.take j).map (fun p=>zao p x)).map za5)),(2,.box ([cB x1.at_,cI x1.proc,cI x1.loc,cI x1.f.kind,cPs x1.f.r.t.parts]++zi x1.f.r.t.k++[cB x1.f.r.eq,cFs x1.f.kids]))] h ?_;clear h;intro a w h
   refine rq za0 3 [] [(0,.t (.c (.d (.sl 9 (ps.map zag.d))))),(3,vp 0 0),(4,.t (.c (.d (.raw za6)))),(5,.t (.c (.own 1 ((ps.take j).map (fun p=>zao p x)).length))),(6,vi .i64 (j:Int)),(7,vp 2 0),(20,vb x1.at_)] [(0,.box [cIs x.locs,cZs x.vals]),(1,.row 4 1 (((ps.take j).map (fun p=>zao p x)).map za5)),(2,.box ([cB x1.at_,cI x1.proc,cI x1.loc,cI x1.f.kind,cPs x1.f.r.t.parts]++zi x1.f.r.t.k++[cB x1.f.r.eq,cFs x1.f.kids]))] h ?_;clear h;intro a w h
   refine zaa x1.at_ h rfl (fun hc=>?_) (fun hc=>?_)
   ·have hc2:=hc;clear hc
    rcases Bool.eq_false_or_eq_true (decide (x1.proc≥0)) with hc | hc
    ·have hc3:=hc;clear hc
     have hc3':=of_decide_eq_true hc3
     rcases Bool.eq_false_or_eq_true (decide (x1.proc<(x.locs.length:Int))) with hc | hc
     ·have hc4:=hc;clear hc
      have hc4':=of_decide_eq_true hc4
      obtain ⟨k,hkk⟩:∃ k_:Nat,x1.proc=(k_:Int):=⟨_,(Int.toNat_of_nonneg (by have:=of_decide_eq_true hc3;omega)).symm⟩
      replace h:=h.conv (f':=F.of [(0,.t (.c (.d (.sl 9 (ps.map zag.d))))),(3,vp 0 0),(4,.t (.c (.d (.raw za6)))),(5,.t (.c (.own 1 ((ps.take j).map (fun p=>zao p x)).length))),(6,vi .i64 (j:Int)),(7,vp 2 0),(20,vb x1.at_)] [(0,.box [cIs x.locs,cZs x.vals]),(1,.row 4 1 (((ps.take j).map (fun p=>zao p x)).map za5)),(2,.box ([cB x1.at_,cI (k:Int),cI x1.loc,cI x1.f.kind,cPs x1.f.r.t.parts]++zi x1.f.r.t.k++[cB x1.f.r.eq,cFs x1.f.kids]))]) (by rw [hkk])
      obtain ⟨x2,hx2⟩:∃ z_:Int,x.locs[k]?=some z_:=⟨_,List.getElem?_eq_getElem (by first | omega | (simp at *;omega))⟩
      refine rn za0 3 [(3,.cmp (op := .geq) (m:=(k:Int)) (n:=0) (b:=true) .i64 (show (decide ((k:Int)≥0))=true from by rw [← hkk];exact hc3)),(9,.len (c:=(cIs x.locs)) (n:=x.locs.length) (zae _ _ _)),(10,.cmp (op := .lss) (m:=(k:Int)) (n:=(x.locs.length:Int)) (b:=true) .i64 (show (decide ((k:Int)<(x.locs.length:Int)))=true from by rw [← hkk];exact hc4)),(17,.gen _ _ _ fun _ _ _ _=>Op.idxD (d:=38) (t:=35) (k := .i64) tb_1 (zal hx2 (f:=zbo)) (OV.tmp 37 _)),(23,.gen _ _ _ fun _ _ _ _=>Op.buildD (d:=44) (len:=1) (rows:=[x2 == x1.loc].map za5) (rs:=[(43,vb (x2 == x1.loc))]) zfj (.cons (i:=0) (OV.tmp 43 _) (.nil)) (by kernel_rfl) rfl (by simp [za5]) (by decide) (by decide)),(24,.gen _ _ _ fun _ _ _ _=>Op.appOD (d:=45) (t:=21) (u:=44) (n:=1) (n':=3) (len:=((ps.take j).map (fun p=>zao p x)).length) (len':=(((ps.take j).map (fun p=>zao p x))++[x2 == x1.loc]).length) (rows:=((ps.take j).map (fun p=>zao p x)).map za5) (rows2:=[x2 == x1.loc].map za5) (rows':=(((ps.take j).map (fun p=>zao p x))++[x2 == x1.loc]).map za5) zh7 (by first | exact (List.length_map _).symm | simp) (by first | (rw [List.length_append,List.length_map];done) | simp) (by simp) (by simp [za5]) (by first | omega | (simp at *;done) | (simp at *;omega)))] [(0,.t (.c (.d (.sl 9 (ps.map zag.d))))),(3,vp 0 0),(4,.t (.c (.d (.raw za6)))),(5,.t (.c (.own 3 (((ps.take j).map (fun p=>zao p x))++[x2 == x1.loc]).length))),(6,vi .i64 (j:Int))] [(0,.box [cIs x.locs,cZs x.vals]),(3,.row 4 1 ((((ps.take j).map (fun p=>zao p x))++[x2 == x1.loc]).map za5))] h ?_;clear h;intro a w h
      refine zac (za4 (rn za0 4 [(1,.add .i64 (m:=(j:Int)) (n:=1) (zad (by omega) (by omega)))] [(0,.t (.c (.d (.sl 9 (ps.map zag.d))))),(3,vp 0 0),(4,.t (.c (.d (.raw za6)))),(5,.t (.c (.own 3 (((ps.take j).map (fun p=>zao p x))++[x2 == x1.loc]).length))),(6,vi .i64 ((j:Int)+1))] [(0,.box [cIs x.locs,cZs x.vals]),(3,.row 4 1 ((((ps.take j).map (fun p=>zao p x))++[x2 == x1.loc]).map za5))] h ?_));clear h;intro a w h
      refine za4 ?_
      replace h:=h.conv (f':=F.of [(0,.t (.c (.d (.sl 9 (ps.map zag.d))))),(3,vp 0 0),(4,.t (.c (.d (.raw za6)))),(5,.t (.c (.own 3 ((ps.take (j+1)).map (fun p=>zao p x)).length))),(6,vi .i64 ((j:Int)+1))] [(0,.box [cIs x.locs,cZs x.vals]),(3,.row 4 1 (((ps.take (j+1)).map (fun p=>zao p x)).map za5))]) (congrArg (fun (z_:List Bool)=>F.of [(0,.t (.c (.d (.sl 9 (ps.map zag.d))))),(3,vp 0 0),(4,.t (.c (.d (.raw za6)))),(5,.t (.c (.own 3 z_.length))),(6,vi .i64 ((j:Int)+1))] [(0,.box [cIs x.locs,cZs x.vals]),(3,.row 4 1 (z_.map za5))]) (show ((((ps.take j).map (fun p=>zao p x))++[x2 == x1.loc]):List Bool)=((ps.take (j+1)).map (fun p=>zao p x)) from (by rw [← zhg hx1];show _++[x2 == x1.loc]=_++[zao x1 x];rw [show zao x1 x=(x2 == x1.loc) from by unfold zao;rw [if_pos hc2];rw [decide_eq_true (p:=0≤x1.proc∧x1.proc<(x.locs.length:Int)) (by have:=of_decide_eq_true hc3;have:=of_decide_eq_true hc4;omega),show x1.proc.toNat=k by omega,hx2];rfl])))
      replace h:=zc7 3 1 [(0,.t (.c (.d (.sl 9 (ps.map zag.d))))),(3,vp 0 0),(4,.t (.c (.d (.raw za6)))),(5,.t (.c (.own 1 ((ps.take (j+1)).map (fun p=>zao p x)).length))),(6,vi .i64 ((j:Int)+1))] [(0,.box [cIs x.locs,cZs x.vals]),(1,.row 4 1 (((ps.take (j+1)).map (fun p=>zao p x)).map za5))] h
      refine zam (x:=j) (y:=j+1) h ?_ ?_
      ·have:=zak hx1
       show j+1≤ps.length
       omega
      ·show ps.length - (j+1)<ps.length - j
       have:=zak hx1;omega
     ·have hc5:=hc;clear hc
      have hc5':=of_decide_eq_false hc5
      refine rn za0 4 [(3,.cmp (op := .geq) (m:=x1.proc) (n:=0) (b:=true) .i64 hc3),(9,.len (c:=(cIs x.locs)) (n:=x.locs.length) (zae _ _ _)),(10,.cmp (op := .lss) (m:=x1.proc) (n:=(x.locs.length:Int)) (b:=false) .i64 hc5),(23,.gen _ _ _ fun _ _ _ _=>Op.buildD (d:=44) (len:=1) (rows:=[false].map za5) (rs:=[(43,vb false)]) zfj (.cons (i:=0) (OV.tmp 43 _) (.nil)) (by kernel_rfl) rfl (by simp [za5]) (by decide) (by decide)),(24,.gen _ _ _ fun _ _ _ _=>Op.appOD (d:=45) (t:=21) (u:=44) (n:=1) (n':=4) (len:=((ps.take j).map (fun p=>zao p x)).length) (len':=(((ps.take j).map (fun p=>zao p x))++[false]).length) (rows:=((ps.take j).map (fun p=>zao p x)).map za5) (rows2:=[false].map za5) (rows':=(((ps.take j).map (fun p=>zao p x))++[false]).map za5) zh7 (by first | exact (List.length_map _).symm | simp) (by first | (rw [List.length_append,List.length_map];done) | simp) (by simp) (by simp [za5]) (by first | omega | (simp at *;done) | (simp at *;omega)))] [(0,.t (.c (.d (.sl 9 (ps.map zag.d))))),(3,vp 0 0),(4,.t (.c (.d (.raw za6)))),(5,.t (.c (.own 4 (((ps.take j).map (fun p=>zao p x))++[false]).length))),(6,vi .i64 (j:Int))] [(0,.box [cIs x.locs,cZs x.vals]),(4,.row 4 1 ((((ps.take j).map (fun p=>zao p x))++[false]).map za5))] h ?_;clear h;intro a w h
      refine zac (za4 (rn za0 5 [(1,.add .i64 (m:=(j:Int)) (n:=1) (zad (by omega) (by omega)))] [(0,.t (.c (.d (.sl 9 (ps.map zag.d))))),(3,vp 0 0),(4,.t (.c (.d (.raw za6)))),(5,.t (.c (.own 4 (((ps.take j).map (fun p=>zao p x))++[false]).length))),(6,vi .i64 ((j:Int)+1))] [(0,.box [cIs x.locs,cZs x.vals]),(4,.row 4 1 ((((ps.take j).map (fun p=>zao p x))++[false]).map za5))] h ?_));clear h;intro a w h
      refine za4 ?_
      replace h:=h.conv (f':=F.of [(0,.t (.c (.d (.sl 9 (ps.map zag.d))))),(3,vp 0 0),(4,.t (.c (.d (.raw za6)))),(5,.t (.c (.own 4 ((ps.take (j+1)).map (fun p=>zao p x)).length))),(6,vi .i64 ((j:Int)+1))] [(0,.box [cIs x.locs,cZs x.vals]),(4,.row 4 1 (((ps.take (j+1)).map (fun p=>zao p x)).map za5))]) (congrArg (fun (z_:List Bool)=>F.of [(0,.t (.c (.d (.sl 9 (ps.map zag.d))))),(3,vp 0 0),(4,.t (.c (.d (.raw za6)))),(5,.t (.c (.own 4 z_.length))),(6,vi .i64 ((j:Int)+1))] [(0,.box [cIs x.locs,cZs x.vals]),(4,.row 4 1 (z_.map za5))]) (show ((((ps.take j).map (fun p=>zao p x))++[false]):List Bool)=((ps.take (j+1)).map (fun p=>zao p x)) from (by rw [← zhg hx1];show _++[false]=_++[zao x1 x];rw [show zao x1 x=(false) from by unfold zao;rw [if_pos hc2];rw [decide_eq_false (by have:=of_decide_eq_false hc5;omega)];rfl])))
      replace h:=zc7 4 1 [(0,.t (.c (.d (.sl 9 (ps.map zag.d))))),(3,vp 0 0),(4,.t (.c (.d (.raw za6)))),(5,.t (.c (.own 1 ((ps.take (j+1)).map (fun p=>zao p x)).length))),(6,vi .i64 ((j:Int)+1))] [(0,.box [cIs x.locs,cZs x.vals]),(1,.row 4 1 (((ps.take (j+1)).map (fun p=>zao p x)).map za5))] h
      refine zam (x:=j) (y:=j+1) h ?_ ?_
      ·have:=zak hx1
       show j+1≤ps.length
       omega
      ·show ps.length - (j+1)<ps.length - j
       have:=zak hx1;omega
    ·have hc6:=hc;clear hc
     have hc6':=of_decide_eq_false hc6
     refine rn za0 5 [(3,.cmp (op := .geq) (m:=x1.proc) (n:=0) (b:=false) .i64 hc6),(23,.gen _ _ _ fun _ _ _ _=>Op.buildD (d:=44) (len:=1) (rows:=[false].map za5) (rs:=[(43,vb false)]) zfj (.cons (i:=0) (OV.tmp 43 _) (.nil)) (by kernel_rfl) rfl (by simp [za5]) (by decide) (by decide)),(24,.gen _ _ _ fun _ _ _ _=>Op.appOD (d:=45) (t:=21) (u:=44) (n:=1) (n':=5) (len:=((ps.take j).map (fun p=>zao p x)).length) (len':=(((ps.take j).map (fun p=>zao p x))++[false]).length) (rows:=((ps.take j).map (fun p=>zao p x)).map za5) (rows2:=[false].map za5) (rows':=(((ps.take j).map (fun p=>zao p x))++[false]).map za5) zh7 (by first | exact (List.length_map _).symm | simp) (by first | (rw [List.length_append,List.length_map];done) | simp) (by simp) (by simp [za5]) (by first | omega | (simp at *;done) | (simp at *;omega)))] [(0,.t (.c (.d (.sl 9 (ps.map zag.d))))),(3,vp 0 0),(4,.t (.c (.d (.raw za6)))),(5,.t (.c (.own 5 (((ps.take j).map (fun p=>zao p x))++[false]).length))),(6,vi .i64 (j:Int))] [(0,.box [cIs x.locs,cZs x.vals]),(5,.row 4 1 ((((ps.take j).map (fun p=>zao p x))++[false]).map za5))] h ?_;clear h;intro a w h
     refine zac (za4 (rn za0 6 [(1,.add .i64 (m:=(j:Int)) (n:=1) (zad (by omega) (by omega)))] [(0,.t (.c (.d (.sl 9 (ps.map zag.d))))),(3,vp 0 0),(4,.t (.c (.d (.raw za6)))),(5,.t (.c (.own 5 (((ps.take j).map (fun p=>zao p x))++[false]).length))),(6,vi .i64 ((j:Int)+1))] [(0,.box [cIs x.locs,cZs x.vals]),(5,.row 4 1 ((((ps.take j).map (fun p=>zao p x))++[false]).map za5))] h ?_));clear h;intro a w h
     refine za4 ?_
     replace h:=h.conv (f':=F.of [(0,.t (.c (.d (.sl 9 (ps.map zag.d))))),(3,vp 0 0),(4,.t (.c (.d (.raw za6)))),(5,.t (.c (.own 5 ((ps.take (j+1)).map (fun p=>zao p x)).length))),(6,vi .i64 ((j:Int)+1))] [(0,.box [cIs x.locs,cZs x.vals]),(5,.row 4 1 (((ps.take (j+1)).map (fun p=>zao p x)).map za5))]) (congrArg (fun (z_:List Bool)=>F.of [(0,.t (.c (.d (.sl 9 (ps.map zag.d))))),(3,vp 0 0),(4,.t (.c (.d (.raw za6)))),(5,.t (.c (.own 5 z_.length))),(6,vi .i64 ((j:Int)+1))] [(0,.box [cIs x.locs,cZs x.vals]),(5,.row 4 1 (z_.map za5))]) (show ((((ps.take j).map (fun p=>zao p x))++[false]):List Bool)=((ps.take (j+1)).map (fun p=>zao p x)) from (by rw [← zhg hx1];show _++[false]=_++[zao x1 x];rw [show zao x1 x=(false) from by unfold zao;rw [if_pos hc2];rw [decide_eq_false (by have:=of_decide_eq_false hc6;omega)];rfl])))
     replace h:=zc7 5 1 [(0,.t (.c (.d (.sl 9 (ps.map zag.d))))),(3,vp 0 0),(4,.t (.c (.d (.raw za6)))),(5,.t (.c (.own 1 ((ps.take (j+1)).map (fun p=>zao p x)).length))),(6,vi .i64 ((j:Int)+1))] [(0,.box [cIs x.locs,cZs x.vals]),(1,.row 4 1 (((ps.take (j+1)).map (fun p=>zao p x)).map za5))] h
     refine zam (x:=j) (y:=j+1) h ?_ ?_
     ·have:=zak hx1
      show j+1≤ps.length
      omega
     ·show ps.length - (j+1)<ps.length - j
      have:=zak hx1;omega
   ·have hc7:=hc;clear hc
    refine rn za0 6 [(5,.call (SRHolds x.vals (L:=L) (M:=M) (by omega) hx.vok x1.f (hps x1 (List.mem_of_getElem? hx1)).1 (hps x1 (List.mem_of_getElem? hx1)).2) ke_10),(6,.gen _ _ _ fun _ _ _ _=>Op.buildD (d:=52) (len:=1) (rows:=[za1.holds x.vals x1.f].map za5) (rs:=[(51,vb (za1.holds x.vals x1.f))]) zfj (.cons (i:=0) (OV.tmp 51 _) (.nil)) (by kernel_rfl) rfl (by simp [za5]) (by decide) (by decide)),(7,.gen _ _ _ fun _ _ _ _=>Op.appOD (d:=53) (t:=46) (u:=52) (n:=1) (n':=6) (len:=((ps.take j).map (fun p=>zao p x)).length) (len':=(((ps.take j).map (fun p=>zao p x))++[za1.holds x.vals x1.f]).length) (rows:=((ps.take j).map (fun p=>zao p x)).map za5) (rows2:=[za1.holds x.vals x1.f].map za5) (rows':=(((ps.take j).map (fun p=>zao p x))++[za1.holds x.vals x1.f]).map za5) zh7 (by first | exact (List.length_map _).symm | simp) (by first | (rw [List.length_append,List.length_map];done) | simp) (by simp) (by simp [za5]) (by first | omega | (simp at *;done) | (simp at *;omega)))] [(0,.t (.c (.d (.sl 9 (ps.map zag.d))))),(3,vp 0 0),(4,.t (.c (.d (.raw za6)))),(5,.t (.c (.own 6 (((ps.take j).map (fun p=>zao p x))++[za1.holds x.vals x1.f]).length))),(6,vi .i64 (j:Int))] [(0,.box [cIs x.locs,cZs x.vals]),(6,.row 4 1 ((((ps.take j).map (fun p=>zao p x))++[za1.holds x.vals x1.f]).map za5))] h ?_;clear h;intro a w h
    refine zac (za4 (rn za0 7 [(1,.add .i64 (m:=(j:Int)) (n:=1) (zad (by omega) (by omega)))] [(0,.t (.c (.d (.sl 9 (ps.map zag.d))))),(3,vp 0 0),(4,.t (.c (.d (.raw za6)))),(5,.t (.c (.own 6 (((ps.take j).map (fun p=>zao p x))++[za1.holds x.vals x1.f]).length))),(6,vi .i64 ((j:Int)+1))] [(0,.box [cIs x.locs,cZs x.vals]),(6,.row 4 1 ((((ps.take j).map (fun p=>zao p x))++[za1.holds x.vals x1.f]).map za5))] h ?_));clear h;intro a w h
    refine za4 ?_
    replace h:=h.conv (f':=F.of [(0,.t (.c (.d (.sl 9 (ps.map zag.d))))),(3,vp 0 0),(4,.t (.c (.d (.raw za6)))),(5,.t (.c (.own 6 ((ps.take (j+1)).map (fun p=>zao p x)).length))),(6,vi .i64 ((j:Int)+1))] [(0,.box [cIs x.locs,cZs x.vals]),(6,.row 4 1 (((ps.take (j+1)).map (fun p=>zao p x)).map za5))]) (congrArg (fun (z_:List Bool)=>F.of [(0,.t (.c (.d (.sl 9 (ps.map zag.d))))),(3,vp 0 0),(4,.t (.c (.d (.raw za6)))),(5,.t (.c (.own 6 z_.length))),(6,vi .i64 ((j:Int)+1))] [(0,.box [cIs x.locs,cZs x.vals]),(6,.row 4 1 (z_.map za5))]) (show ((((ps.take j).map (fun p=>zao p x))++[za1.holds x.vals x1.f]):List Bool)=((ps.take (j+1)).map (fun p=>zao p x)) from (by rw [← zhg hx1];show _++[za1.holds x.vals x1.f]=_++[zao x1 x];rw [show zao x1 x=(za1.holds x.vals x1.f) from by unfold zao;rw [if_neg (by rw [hc7];exact Bool.noConfusion)]])))
    replace h:=zc7 6 1 [(0,.t (.c (.d (.sl 9 (ps.map zag.d))))),(3,vp 0 0),(4,.t (.c (.d (.raw za6)))),(5,.t (.c (.own 1 ((ps.take (j+1)).map (fun p=>zao p x)).length))),(6,vi .i64 ((j:Int)+1))] [(0,.box [cIs x.locs,cZs x.vals]),(1,.row 4 1 (((ps.take (j+1)).map (fun p=>zao p x)).map za5))] h
    refine zam (x:=j) (y:=j+1) h ?_ ?_
    ·have:=zak hx1
     show j+1≤ps.length
     omega
    ·show ps.length - (j+1)<ps.length - j
     have:=zak hx1;omega
  ·have hc8:=hc;clear hc
   have hc8':=of_decide_eq_false hc8
   refine wp_exit (zai (zai (za8 (za4 (rq za0 7 [] [(4,.t (.c (.own 1 ((ps.take j).map (fun p=>zao p x)).length)))] [(1,.row 4 1 (((ps.take j).map (fun p=>zao p x)).map za5))] h ?_)))));clear h;intro a w h
   refine wp_ret ?_
   replace h:=h.conv (f':=F.of [(4,.t (.c (.own 1 (ps.map (fun p=>zao p x)).length)))] [(1,.row 4 1 ((ps.map (fun p=>zao p x)).map za5))]) (congrArg (fun (z_:List Bool)=>F.of [(4,.t (.c (.own 1 z_.length)))] [(1,.row 4 1 (z_.map za5))]) (show (((ps.take j).map (fun p=>zao p x)):List Bool)=(ps.map (fun p=>zao p x)) from (by rw [List.take_of_length_le (by omega)])))
   replace h:=pubS 1 1 4 ((ps.map (fun p=>zao p x)).map za5) [(4,.t (.c (.d (.sl 1 ((ps.map (fun p=>zao p x)).map za5)))))] [] h rfl (show zc5 _ [(ps.map (fun p=>zao p x)).length] from ⟨by first | exact (List.length_map _).symm | (simp;done) | (simp;omega),trivial⟩) trivial
   refine zap [.c (.d (.sl 1 ((ps.map (fun p=>zao p x)).map za5)))] h Exit.ret (.inl rfl)  rfl ⟨RV.tmp _ _ rfl,trivial⟩ ?_
   rfl
end
section
open Go.RowKit

theorem kt_1:za7 Tryz.prog 31:=za7.mk' (by kernel_rfl)
def fewB (L:Nat) (b:BoundD):Bool:=decide ((b.lo.abs.length:Int)≤(L:Int)) && decide ((b.hi.abs.length:Int)≤(L:Int))
def formT (t:zbb):za1:=⟨2,⟨t,false⟩,[]⟩
def fewM (L:Nat) (m:MoveD):Bool:=fewF (formT m.t) 5 L
def fewA (L:Nat) (c:ActD):Bool:=(fewF c.guard 30 L && decide ((c.moves.length:Int)≤20)) && c.moves.all (fewM L)
def fewSys (L:Nat) (s:SysD):Bool:=(decide ((s.vars.length:Int)≤8∧(s.bounds.length:Int)≤20∧(s.procs.length:Int)≤6∧(s.acts.length:Int)≤20) && fewF s.init 30 L) && (s.bounds.all (fewB L) && s.acts.all (fewA L))
def zg3 (L:Nat) (x:StD):Bool:=decide ((x.locs.length:Int)≤10∧(x.vals.length:Int)≤10) && x.vals.all fun z=>decide ((z.abs.length:Int)≤(L:Int))
/-- limbs that are limbs -/
structure SysRd (s:SysD):Prop where
  init:s.init.lb
  bnd:∀ b ∈ s.bounds,Lb b.lo.abs∧Lb b.hi.abs
  act:∀ c ∈ s.acts,c.guard.lb∧∀ m ∈ c.moves,TLb m.t
  len:s.bounds.length≤9223372036854775807∧s.acts.length≤9223372036854775807
  mlen:∀ c ∈ s.acts,c.moves.length≤9223372036854775807
def StRd (x:StD):Prop:=(∀ z ∈ x.vals,Lb z.abs)∧x.vals.length≤9223372036854775807
theorem fewF_ok {f:za1} {most:Int} {L:Nat} (h:fewF f most L=true) (hl:f.lb):f.ok L:=by unfold fewF at h;rw [Bool.and_eq_true] at h;exact za1.few_ok f h.2 hl
theorem formT_lb {t:zbb} (h:TLb t):(formT t).lb:=(za1.lb_eq _).2 ⟨⟨h,Nat.zero_le _⟩,fun g hg=>(by cases hg)⟩
theorem formT_ok {t:zbb} {L:Nat} (h:(formT t).ok L):TOk 20 L t:=((za1.ok_eq L _).1 h).1 rfl
theorem few_sys {L:Nat} {s:SysD} (h:fewSys L s=true) (hr:SysRd s):SysOk L s:=by
 unfold fewSys at h
 simp only [Bool.and_eq_true,decide_eq_true_eq,List.all_eq_true] at h
 obtain ⟨⟨⟨h1,h2,h3,h4⟩,h5⟩,h6,h7⟩:=h
 refine ⟨by omega,by omega,by omega,by omega,fun b hb=>?_,⟨hr.init,fewF_ok h5 hr.init⟩,fun c hc=>?_⟩
 ·have:=h6 b hb;unfold fewB at this;simp only [Bool.and_eq_true,decide_eq_true_eq] at this
  exact ⟨⟨(hr.bnd b hb).1,by omega⟩,(hr.bnd b hb).2,by omega⟩
 ·have:=h7 c hc;unfold fewA at this;simp only [Bool.and_eq_true,decide_eq_true_eq,List.all_eq_true] at this
  exact ⟨⟨(hr.act c hc).1,fewF_ok this.1.1 (hr.act c hc).1⟩,by omega,fun m hm=>formT_ok (fewF_ok (this.2 m hm) (formT_lb ((hr.act c hc).2 m hm)))⟩
theorem few_st {L:Nat} {x:StD} (h:zg3 L x=true) (hr:StRd x):StOk L x:=by
 unfold zg3 at h
 simp only [Bool.and_eq_true,decide_eq_true_eq,List.all_eq_true] at h
 exact ⟨by omega,by omega,fun z hz=>⟨hr.1 z hz,by have:=h.2 z hz;omega⟩⟩
set_option maxHeartbeats 4000000 in
theorem SFewSt (x:StD) (L:Nat) (hr:StRd x):Fn Tryz.prog 8 [] [.t (.agg [cIs x.locs,cZs x.vals]),vi .i64 (L:Int)] (vb (zg3 L x)) []:=by
 have lv:=hr.2
 refine Fn.body Tryz.func8 rfl 32 rfl fun w H B a h=>?_
 refine rq za0 0 [] [(1,vi .i64 (L:Int)),(2,vp 0 0),(4,vb false)] [(0,.box [cIs x.locs,cZs x.vals])] h ?_;clear h;intro a w h
 refine wp_seq ?_
 rcases Bool.eq_false_or_eq_true (decide ((x.locs.length:Int)>10)) with hc | hc
 ·have hc1:=hc;clear hc
  have hc1':=of_decide_eq_true hc1
  refine rq za0 1 [(2,.len (c:=(cIs x.locs)) (n:=x.locs.length) (zae _ _ _)),(3,.cmp (op := .gtr) (m:=(x.locs.length:Int)) (n:=10) (b:=true) .i64 hc1)] [(1,vi .i64 (L:Int)),(2,vp 0 0),(4,vb false),(15,vb true)] [(0,.box [cIs x.locs,cZs x.vals])] h ?_;clear h;intro a w h
  refine zaa true h rfl (fun hc=>?_) (fun hc=>?_)
  ·clear hc
   refine rq za0 1 [] [(1,vi .i64 (L:Int)),(2,vp 0 0),(4,vb false)] [(0,.box [cIs x.locs,cZs x.vals])] h ?_;clear h;intro a w h
   refine wp_ret (za9 ?_)
   refine zap [.c (cB false)] h Exit.ret (.inl rfl)  rfl ⟨RV.tmp _ _ rfl,trivial⟩ ?_
   have hz:zg3 L x=false:=by unfold zg3;rw [decide_eq_false (p:=(x.locs.length:Int)≤10∧(x.vals.length:Int)≤10) (by have:=of_decide_eq_true hc1;omega)];rfl
   rw [hz];first | done | rfl
  ·cases hc
 ·have hc2:=hc;clear hc
  have hc2':=of_decide_eq_false hc2
  refine rq za0 1 [(2,.len (c:=(cIs x.locs)) (n:=x.locs.length) (zae _ _ _)),(3,.cmp (op := .gtr) (m:=(x.locs.length:Int)) (n:=10) (b:=false) .i64 hc2),(7,.len (c:=(cZs x.vals)) (n:=x.vals.length) (zae _ _ _))] [(1,vi .i64 (L:Int)),(2,vp 0 0),(4,vb false),(15,vb (decide ((x.vals.length:Int)>10)))] [(0,.box [cIs x.locs,cZs x.vals])] h ?_;clear h;intro a w h
  refine zaa (decide ((x.vals.length:Int)>10)) h rfl (fun hc=>?_) (fun hc=>?_)
  ·have hc3:=hc;clear hc
   have hc3':=of_decide_eq_true hc3
   refine rq za0 1 [] [(1,vi .i64 (L:Int)),(2,vp 0 0),(4,vb false)] [(0,.box [cIs x.locs,cZs x.vals])] h ?_;clear h;intro a w h
   refine wp_ret (za9 ?_)
   refine zap [.c (cB false)] h Exit.ret (.inl rfl)  rfl ⟨RV.tmp _ _ rfl,trivial⟩ ?_
   have hz:zg3 L x=false:=by unfold zg3;rw [decide_eq_false (p:=(x.locs.length:Int)≤10∧(x.vals.length:Int)≤10) (by have:=of_decide_eq_true hc3;omega)];rfl
   rw [hz];first | done | rfl
  ·have hc4:=hc;clear hc
   have hc4':=of_decide_eq_false hc4
   refine wp_skip (za4 (wp_seq (rq za0 1 [] [(1,vi .i64 (L:Int)),(2,vp 0 0),(4,vb false),(5,vi .i64 0)] [(0,.box [cIs x.locs,cZs x.vals])] h ?_)));clear h;intro a w h
   refine wp_block ?_
   refine zb1 (ι:=(Nat)) (fun (z_:(Nat))=>match z_ with | j=>j≤x.vals.length∧(x.vals.take j).all (fun z=>decide ((z.abs.length:Int)≤(L:Int)))=true)
     (fun (z_:(Nat))=>match z_ with | j=>[(1,vi .i64 (L:Int)),(2,vp 0 0),(5,vi .i64 (j:Int))])
     (fun (z_:(Nat))=>match z_ with | j=>[(0,.box [cIs x.locs,cZs x.vals])])
     (fun (z_:(Nat))=>match z_ with | j=>x.vals.length - j) 0 ?_ h (by kernel_rfl) (by kernel_rfl) ?_
   ·exact ⟨Nat.zero_le _,rfl⟩
   ·clear h;rintro j a w hI h
    change St _ (F.of [(1,vi .i64 (L:Int)),(2,vp 0 0),(5,vi .i64 (j:Int))] [(0,.box [cIs x.locs,cZs x.vals])]) a w at h
    obtain ⟨hI1,hI2⟩:=hI
    refine wp_seq (rq za0 1 [(3,.len (c:=(cZs x.vals)) (n:=x.vals.length) (zae _ _ _))] [(1,vi .i64 (L:Int)),(2,vp 0 0),(5,vi .i64 (j:Int)),(20,vb (decide ((j:Int)<(x.vals.length:Int))))] [(0,.box [cIs x.locs,cZs x.vals])] h ?_);clear h;intro a w h
    refine zaa (decide ((j:Int)<(x.vals.length:Int))) h rfl (fun hc=>?_) (fun hc=>?_)
    ·have hc5:=hc;clear hc
     have hc5':=of_decide_eq_true hc5
     refine wp_skip (za4 (wp_seq (wp_block ?_)))
     obtain ⟨x1,hx1⟩:∃ z_:ZI,x.vals[j]?=some z_:=⟨_,List.getElem?_eq_getElem (by first | omega | (simp at *;omega))⟩
     refine rq za0 1 [(3,.gen _ _ _ fun _ _ _ _=>Op.idxD (d:=26) (t:=24) (k := .i64) tt_6 (zal hx1 (f:=ziD)) (OV.tmp 25 _)),(6,.len (zdm x1.abs))] [(1,vi .i64 (L:Int)),(2,vp 0 0),(5,vi .i64 (j:Int)),(31,vb (decide ((x1.abs.length:Int)>(L:Int))))] [(0,.box [cIs x.locs,cZs x.vals])] h ?_;clear h;intro a w h
     refine zaa (decide ((x1.abs.length:Int)>(L:Int))) h rfl (fun hc=>?_) (fun hc=>?_)
     ·have hc6:=hc;clear hc
      have hc6':=of_decide_eq_true hc6
      refine rq za0 1 [] [(1,vi .i64 (L:Int)),(2,vp 0 0),(4,vb false),(5,vi .i64 (j:Int))] [(0,.box [cIs x.locs,cZs x.vals])] h ?_;clear h;intro a w h
      refine wp_ret (zaf (za9 (za9 (zaf (za9 ?_)))))
      refine zap [.c (cB false)] h Exit.ret (.inl rfl)  rfl ⟨RV.tmp _ _ rfl,trivial⟩ ?_
      have hz:zg3 L x=false:=by unfold zg3;rw [decide_eq_true (p:=(x.locs.length:Int)≤10∧(x.vals.length:Int)≤10) (by have:=of_decide_eq_false hc2;have:=of_decide_eq_false hc4;omega),Bool.true_and];exact zbd hx1 (decide_eq_false (by have:=of_decide_eq_true hc6;omega))
      rw [hz];first | done | rfl
     ·have hc7:=hc;clear hc
      have hc7':=of_decide_eq_false hc7
      refine wp_skip (zac (za4 (rn za0 1 [(1,.add .i64 (m:=(j:Int)) (n:=1) (zad (by omega) (by omega)))] [(1,vi .i64 (L:Int)),(2,vp 0 0),(5,vi .i64 ((j:Int)+1))] [(0,.box [cIs x.locs,cZs x.vals])] h ?_)));clear h;intro a w h
      refine za4 ?_
      refine zam (x:=j) (y:=j+1) h ?_ ?_
      ·exact ⟨by have:=zak hx1;omega,zbj hx1 hI2 (decide_eq_true (by have:=of_decide_eq_false hc7;omega))⟩
      ·show x.vals.length - (j+1)<x.vals.length - j
       have:=zak hx1;omega
    ·have hc8:=hc;clear hc
     have hc8':=of_decide_eq_false hc8
     refine wp_exit (zai (zai (za8 (za4 (rq za0 1 [] [(4,vb true)] [] h ?_)))));clear h;intro a w h
     refine wp_ret ?_
     refine zap [.c (cB true)] h Exit.ret (.inl rfl)  rfl ⟨RV.tmp _ _ rfl,trivial⟩ ?_
     have hz:zg3 L x=true:=by unfold zg3;rw [decide_eq_true (p:=(x.locs.length:Int)≤10∧(x.vals.length:Int)≤10) (by have:=of_decide_eq_false hc2;have:=of_decide_eq_false hc4;omega),Bool.true_and];exact zdd (of_decide_eq_false hc8) hI2
     rw [hz];first | done | rfl
end
section
open Go.RowKit
end
section
open Go.RowKit

mutual
/-- y is x, with nil read as an empty slice here and there -/
inductive Wk:D→D→Prop
  | refl (x:D):Wk x x
  | nil (es:Nat):Wk (.raw za6) (.sl es [])
  | sl (es:Nat) (a b:List (List D)) (h:WkR a b):Wk (.sl es a) (.sl es b)
inductive WkL:List D→List D→Prop
  | nil:WkL [] []
  | cons (x y:D) (xs ys:List D) (h:Wk x y) (hs:WkL xs ys):WkL (x :: xs) (y :: ys)
inductive WkR:List (List D)→List (List D)→Prop
  | nil:WkR [] []
  | cons (x y:List D) (xs ys:List (List D)) (h:WkL x y) (hs:WkR xs ys):WkR (x :: xs) (y :: ys)
end
def WkM (x y:D):Prop:=∀ (H:Im) (v:Value),DR H x v→DR H y v
def WkLM (xs ys:List D):Prop:=xs.length=ys.length∧∀ j (h:j<xs.length) (h':j<ys.length),WkM xs[j] ys[j]
def WkRM (xs ys:List (List D)):Prop:=xs.length=ys.length∧∀ i (h:i<xs.length) (h':i<ys.length),WkLM xs[i] ys[i]
theorem Wk.sound {x y:D} (h:Wk x y):WkM x y:=by
 refine Wk.rec (motive_1:=fun x y _=>WkM x y) (motive_2:=fun x y _=>WkLM x y) (motive_3:=fun x y _=>WkRM x y) ?_ ?_ ?_ ?_ ?_ ?_ ?_ h
 ·intro x H v h;exact h
 ·intro es H v h
  cases h with
  | raw v h=>exact DR.nil _ _ _ (fun _=>rfl) (Nat.zero_le _)
 ·intro es a b _ ih H v h
  cases h with
  | nil es ao c h hc =>
   have:b=[]:=List.length_eq_zero_iff.1 ih.1.symm
   subst this
   exact DR.nil _ _ _ h hc
  | sl es rows bb o c arr ty fz vs hp hb hl hc hes hv hr =>
   rw [ih.1] at hp hl ⊢
   refine DR.sl es b bb o c arr ty fz vs hp hb hl hc (fun i hi=>?_) (fun i hi=>?_) (fun i hi j hj=>?_)
   ·have h0:i<a.length:=by rw [ih.1];exact hi
    rw [← (ih.2 i h0 hi).1];exact hes i h0
   ·exact hv i (by rw [ih.1];exact hi)
   ·have h0:i<a.length:=by rw [ih.1];exact hi
    have hj0:j<a[i].length:=by rw [(ih.2 i h0 hi).1];exact hj
    exact (ih.2 i h0 hi).2 j hj0 hj _ _ (hr i h0 j hj0)
 ·exact ⟨rfl,fun j h=>absurd h (Nat.not_lt_zero j)⟩
 ·intro x y xs ys _ _ h hs
  refine ⟨by simp [hs.1],fun j hj hj'=>?_⟩
  cases j with
  | zero=>exact h
  | succ j=>exact hs.2 j (by simpa using hj) (by simpa using hj')
 ·exact ⟨rfl,fun j h=>absurd h (Nat.not_lt_zero j)⟩
 ·intro x y xs ys _ _ h hs
  refine ⟨by simp [hs.1],fun j hj hj'=>?_⟩
  cases j with
  | zero=>exact h
  | succ j=>exact hs.2 j (by simpa using hj) (by simpa using hj')
inductive WkC:List C→List C→Prop
  | nil:WkC [] []
  | same (x:C) (xs ys:List C) (hs:WkC xs ys):WkC (x :: xs) (x :: ys)
  | d (x y:D) (xs ys:List C) (h:Wk x y) (hs:WkC xs ys):WkC (.d x :: xs) (.d y :: ys)
theorem WkC.sound {H:Im} {B:Bl} {xs ys:List C} (h:WkC xs ys):∀ {vs:List Value}, zb3 (CR H B) xs vs→zb3 (CR H B) ys vs:=by
 induction h with
 | nil=>exact fun h=>h
 | same x xs ys _ ih =>
  intro vs k
  cases vs with
  | nil=>exact k.elim
  | cons v vs=>exact ⟨k.1,ih k.2⟩
 | d x y xs ys h _ ih =>
  intro vs k
  cases vs with
  | nil=>exact k.elim
  | cons v vs=>exact ⟨h.sound H v k.1,ih k.2⟩
inductive WkV:V→V→Prop
  | refl (x:V):WkV x x
  | c (x y:D) (h:Wk x y):WkV (.t (.c (.d x))) (.t (.c (.d y)))
  | agg (xs ys:List C) (h:WkC xs ys):WkV (.t (.agg xs)) (.t (.agg ys))
theorem WkV.sound {H:Im} {B:Bl} {x y:V} (h:WkV x y) {v:Value} (k:VR H B x v):VR H B y v:=by
 cases h with
 | refl=>exact k
 | c x y h=>exact h.sound H v k
 | agg xs ys h=>obtain ⟨vs,e,k⟩:=k;exact ⟨vs,e,h.sound k⟩
inductive WkA:List V→List V→Prop
  | nil:WkA [] []
  | cons (x y:V) (xs ys:List V) (h:WkV x y) (hs:WkA xs ys):WkA (x :: xs) (y :: ys)
theorem WkA.sound {H:Im} {B:Bl} {xs ys:List V} (h:WkA xs ys):∀ {vs:List Value}, zb3 (VR H B) xs vs→zb3 (VR H B) ys vs:=by
 induction h with
 | nil=>exact fun h=>h
 | cons x y xs ys h _ ih =>
  intro vs k
  cases vs with
  | nil=>exact k.elim
  | cons v vs=>exact ⟨h.sound k.1,ih k.2⟩
theorem Fn.argw {P:Program} {k:FuncId} {ps qs:List (Nat × L)} {args args':List V} {res:V} (h:Fn P k ps args' res qs) (hw:WkA args args'):Fn P k ps args res qs :=
 fun w H B vals pre=>h w H B vals ⟨pre.sat,pre.loc,pre.priv,pre.inj,hw.sound pre.arg⟩
end
section
open Go.RowKit

theorem lm13_0:za7 Tryz.prog 29:=za7.mk' (by kernel_rfl)
theorem lm13_5:za7 Tryz.prog 23:=za7.mk' (by kernel_rfl)
theorem lm13_6:ElZ Tryz.prog 22 62 9:=ElZ.mk' Tryz.underlying22 _ _ rfl rfl (by kernel_rfl) (by kernel_rfl) (by kernel_rfl) (by decide)
theorem lm13_7:za7 Tryz.prog 9:=za7.mk' (by kernel_rfl)
theorem lm13_8:za7 Tryz.prog 11:=za7.mk' (by kernel_rfl)
theorem lm13_10:za7 Tryz.prog 27:=za7.mk' (by kernel_rfl)
theorem lm13_13:za7 Tryz.prog 18:=za7.mk' (by kernel_rfl)
theorem lm13_15:za7 Tryz.prog 20:=za7.mk' (by kernel_rfl)
theorem lea_tok (n:Int) (hn:-1000≤n∧n≤1000):TOk 20 3 (zah n).t:=⟨(show 1≤20 by decide),fun p hp=>by
 rw [List.mem_singleton.1 hp];exact ⟨ZI.lb_of _,show (ZI.of 1).abs.length≤3 from by decide⟩,ZI.lb_of _,Nat.le_trans (ZI.len_of (L:=2) (by have:=pw2;show ((0:Int) - n).natAbs<_;omega)) (by decide)⟩
theorem le2:TOk 20 3 (zah 2).t:=lea_tok 2 (by decide)
theorem le3:TOk 20 3 (zah 3).t:=lea_tok 3 (by decide)
theorem psE_ok:PsOkR [zah 2]:=⟨by decide,fun r hr=>by rw [List.mem_singleton.1 hr];exact le2.mono (by decide) (by decide)⟩
theorem stE_ok:StOk 10 stE:=⟨by decide,by decide,fun z hz=>by rw [List.mem_singleton.1 hz];exact ⟨ZI.lb_of _,show (ZI.of 5).abs.length≤10 from by decide⟩⟩
theorem propsE_ok:zgr zct:=⟨by decide,fun p hp h=>by
 rcases List.mem_cons.1 hp with rfl | hp
 ·cases h
 ·rw [List.mem_singleton.1 hp];exact ⟨zhe (le2.mono (by decide) (by decide)),by rw [za1.wid_eq];decide⟩⟩
theorem psE_t:[zah 2].length≤1000000∧∀ p ∈ [zah 2],TOk 200 3000 p.t:=⟨by decide,fun p hp=>by rw [List.mem_singleton.1 hp];exact le2.mono (by decide) (by decide)⟩
theorem nil_t:([]:List zab).length≤1000000∧∀ p ∈ ([]:List zab),TOk 200 3000 p.t:=⟨by decide,fun p hp=>by cases hp⟩
theorem cubeE_ok:(cubeF [zah 2] [false]).lb∧(cubeF [zah 2] [false]).ok 10:=by
 have hz:TLb zR.t:=⟨zfc,fun p hp=>by cases hp⟩
 have ha:(zdp (zah 2)).cl=zdp (zah 2):=by rw [cl_at rfl];show za1.mk 2 (cpR (cpR (zah 2))) []=_;rw [cpR_cpR];rfl
 have hd:(denyF (zdp (zah 2))).cl=denyF (zdp (zah 2)):=by rw [cl_kids (.inl rfl)];show za1.mk 3 zR [(zdp (zah 2)).cl.cl]=za1.mk 3 zR [(zdp (zah 2)).cl];rw [cl_cl]
 have e:cubeF [zah 2] [false]=⟨4,zR,[⟨3,zR,[⟨2,cpR (zah 2),[]⟩]⟩]⟩:=by
  show za1.mk 4 zR [(litF (zah 2) false).cl]=_
  show za1.mk 4 zR [(denyF (zdp (zah 2))).cl]=_
  rw [hd];show za1.mk 4 zR [za1.mk 3 zR [(zdp (zah 2)).cl]]=_;rw [ha];rfl
 have hc:TOk 20 4 (cpR (zah 2)).t:=le2.plain (by decide)
 rw [e]
 constructor
 ·rw [za1.lb_eq]
  refine ⟨⟨hz,by decide⟩,fun g hg=>?_⟩
  rw [List.mem_singleton.1 hg,za1.lb_eq]
  refine ⟨⟨hz,by decide⟩,fun g hg=>?_⟩
  rw [List.mem_singleton.1 hg,za1.lb_eq]
  exact ⟨⟨⟨hc.kb,fun p hp=>(hc.ps p hp).1⟩,by decide⟩,fun g hg=>by cases hg⟩
 ·rw [za1.ok_eq]
  refine ⟨fun h=>absurd h (by decide),fun g hg=>?_⟩
  rw [List.mem_singleton.1 (show g ∈ [_] from hg),za1.ok_eq]
  refine ⟨fun h=>absurd h (by decide),fun g hg=>?_⟩
  rw [List.mem_singleton.1 (show g ∈ [_] from hg),za1.ok_eq]
  exact ⟨fun _=>hc.mono (by decide) (by decide),fun g hg=>by cases hg⟩
theorem wkQ:Wk (.sl 9 [[.raw (.bool true),.raw (.int .i64 0),.raw (.int .i64 0),.raw (.int .i64 0),.raw za6,.raw (.bool false),nsl [],.raw (.bool false),.raw za6],[.raw (.bool false),.raw (.int .i64 0),.raw (.int .i64 0),.raw (.int .i64 2),.sl 3 ((zah 2).t.parts.map za2.d),.raw (.bool (zah 2).t.k.neg),nsl (zah 2).t.k.abs,.raw (.bool (zah 2).eq),.raw za6]]) (.sl 9 (zct.map zag.d)):=by
 refine Wk.sl _ _ _ (.cons _ _ _ _ ?_ (.cons _ _ _ _ ?_ .nil))
 all_goals repeat (first | exact WkL.nil | refine WkL.cons _ _ _ _ (by first | exact Wk.refl _ | exact Wk.nil _) ?_)
set_option maxHeartbeats 4000000 in
theorem Ltelling :Fn Tryz.prog 6 [] [] (vb true) []:=by
 refine Fn.body Tryz.func6 rfl 111 rfl fun w H B a h=>?_
 refine rq za0 0 [] [(0,vb false)] [] h ?_;clear h;intro a w h
 refine rq za0 0 [(0,.call (Lleast 2 (by decide)) lm13_0),(1,.gen _ _ _ fun _ _ _ _=>Op.buildD (d:=12) (len:=1) (rows:=[(zah 2)].map zab.d) (rs:=[(11,(vR (zah 2)))]) kc_5 (.cons (i:=0) (OV.tmp 11 _) (.nil)) (by kernel_rfl) rfl (by simp [zab.d]) (by decide) (by decide))] [(0,vb false),(1,(vRs [(zah 2)]))] [] h ?_;clear h;intro a w h
 refine rq za0 0 [(1,.gen _ _ _ fun _ _ _ _=>Op.buildD (d:=14) (len:=1) (rows:=[0].map zbo) (rs:=[]) tb_0 (.cons (i:=0) (OV.const (.int .i64 0) rfl) (.nil)) (by kernel_rfl) rfl (by simp [zbo]) (by decide) (by decide)),(2,.call (SROf 5 ⟨by decide,by decide⟩) tc_0),(3,.gen _ _ _ fun _ _ _ _=>Op.buildD (d:=16) (len:=1) (rows:=[(ZI.of 5)].map ziD) (rs:=[(15,vz (ZI.of 5))]) ty_5 (.cons (i:=0) (OV.tmp 15 _) (.nil)) (by kernel_rfl) rfl (by simp [ziD]) (by decide) (by decide)),(5,.call (Fn.cast (LabsOf [zah 2] stE psE_ok stE_ok) (show (.t (.agg [cIs (ofA [zah 2] stE).locs,.d (.sl 1 ((ofA [zah 2] stE).bits.map za5))]):V) = .t (.agg [cIs aE.locs,.d (.sl 1 (aE.bits.map za5))]) from by rw [te1])) lm13_5)] [(0,vb false),(1,(vRs [(zah 2)])),(2,vp 0 0)] [(0,.box [cIs aE.locs,.d (.sl 1 (aE.bits.map za5))])] h ?_;clear h;intro a w h
 refine rq za0 1 [(1,.call (Lleast 2 (by decide)) lm13_0),(4,.gen _ _ _ fun _ _ _ _=>Op.buildD (d:=23) (len:=2) (rows:=[[.raw (.bool true),.raw (.int .i64 0),.raw (.int .i64 0),.raw (.int .i64 0),.raw za6,.raw (.bool false),nsl [],.raw (.bool false),.raw za6],[.raw (.bool false),.raw (.int .i64 0),.raw (.int .i64 0),.raw (.int .i64 2),.sl 3 ((zah 2).t.parts.map za2.d),.raw (.bool (zah 2).t.k.neg),nsl (zah 2).t.k.abs,.raw (.bool (zah 2).eq),.raw za6]]) (rs:=[(19,.t (.agg [cB true,cI 0,cI 0,cI 0,.d (.raw za6),cB false,.d (nsl []),cB false,.d (.raw za6)])),(22,.t (.agg ([cB false,cI 0,cI 0,cI 2,cPs (zah 2).t.parts]++zi (zah 2).t.k++[cB (zah 2).eq,.d (.raw za6)])))]) lm13_6 (.cons (i:=0) (OV.tmp 19 _) (.cons (i:=1) (OV.tmp 22 _) (.nil))) (by kernel_rfl) rfl (by simp) (by decide) (by decide))] [(0,vb false),(1,(vRs [(zah 2)])),(2,vp 0 0),(3,.t (.c (.d (.sl 9 [[.raw (.bool true),.raw (.int .i64 0),.raw (.int .i64 0),.raw (.int .i64 0),.raw za6,.raw (.bool false),nsl [],.raw (.bool false),.raw za6],[.raw (.bool false),.raw (.int .i64 0),.raw (.int .i64 0),.raw (.int .i64 2),.sl 3 ((zah 2).t.parts.map za2.d),.raw (.bool (zah 2).t.k.neg),nsl (zah 2).t.k.abs,.raw (.bool (zah 2).eq),.raw za6]]))))] [(0,.box [cIs aE.locs,.d (.sl 1 (aE.bits.map za5))])] h ?_;clear h;intro a w h
 refine rq za0 1 [(1,.call (Fn.argw (Fn.cast (LBase zct propsE_ok) (show (.tup [.c (cRs (zf5 zct).1),.c (cI (zf5 zct).2)]:V) = .tup [.c (cRs [zah 2]),.c (cI 0)] from by rw [te7])) (.cons _ _ _ _ (.c _ _ wkQ) .nil)) lm13_7)] [(0,vb false),(1,(vRs [(zah 2)])),(2,vp 0 0),(3,.t (.c (.d (.sl 9 [[.raw (.bool true),.raw (.int .i64 0),.raw (.int .i64 0),.raw (.int .i64 0),.raw za6,.raw (.bool false),nsl [],.raw (.bool false),.raw za6],[.raw (.bool false),.raw (.int .i64 0),.raw (.int .i64 0),.raw (.int .i64 2),.sl 3 ((zah 2).t.parts.map za2.d),.raw (.bool (zah 2).t.k.neg),nsl (zah 2).t.k.abs,.raw (.bool (zah 2).eq),.raw za6]])))),(4,(vRs [zah 2])),(5,vi .i64 0)] [(0,.box [cIs aE.locs,.d (.sl 1 (aE.bits.map za5))])] h ?_;clear h;intro a w h
 refine rq za0 1 [(3,.call (Fn.argw (Fn.cast (LLetter zct [zah 2] aE propsE_ok psE_t (by decide)) (show (.tup [.c (.d (.sl 1 ((zbe zct [zah 2] aE).1.map za5))),.c (cB (zbe zct [zah 2] aE).2)]:V) = .tup [.c (.d (.sl 1 ([true,true].map za5))),.c (cB true)] from by rw [te10])) (.cons _ _ _ _ (.c _ _ wkQ) (.cons _ _ _ _ (.refl _) (.cons _ _ _ _ (.refl _) .nil)))) lm13_8)] [(0,vb false),(1,(vRs [(zah 2)])),(2,vp 0 0),(3,.t (.c (.d (.sl 9 [[.raw (.bool true),.raw (.int .i64 0),.raw (.int .i64 0),.raw (.int .i64 0),.raw za6,.raw (.bool false),nsl [],.raw (.bool false),.raw za6],[.raw (.bool false),.raw (.int .i64 0),.raw (.int .i64 0),.raw (.int .i64 2),.sl 3 ((zah 2).t.parts.map za2.d),.raw (.bool (zah 2).t.k.neg),nsl (zah 2).t.k.abs,.raw (.bool (zah 2).eq),.raw za6]])))),(4,(vRs [zah 2])),(5,vi .i64 0),(6,.t (.c (.d (.sl 1 ([true,true].map za5))))),(7,vb true)] [(0,.box [cIs aE.locs,.d (.sl 1 (aE.bits.map za5))])] h ?_;clear h;intro a w h
 refine rq za0 1 [(2,.call (Fn.argw (Fn.cast (LLetter zct [] aE propsE_ok nil_t (by decide)) (show (.tup [.c (.d (.sl 1 ((zbe zct [] aE).1.map za5))),.c (cB (zbe zct [] aE).2)]:V) = .tup [.c (.d (.sl 1 ([].map za5))),.c (cB false)] from by rw [te11])) (.cons _ _ _ _ (.c _ _ wkQ) (.cons _ _ _ _ (.c _ _ (.nil _)) (.cons _ _ _ _ (.refl _) .nil)))) lm13_8)] [(0,vb false),(1,(vRs [(zah 2)])),(2,vp 0 0),(4,(vRs [zah 2])),(5,vi .i64 0),(6,.t (.c (.d (.sl 1 ([true,true].map za5))))),(7,vb true),(9,vb false)] [(0,.box [cIs aE.locs,.d (.sl 1 (aE.bits.map za5))])] h ?_;clear h;intro a w h
 refine rq za0 1 [(1,.gen _ _ _ fun _ _ _ _=>Op.buildD (d:=43) (len:=1) (rows:=[false].map za5) (rs:=[]) zfj (.cons (i:=0) (OV.const (.bool false) rfl) (.nil)) (by kernel_rfl) rfl (by simp [za5]) (by decide) (by decide)),(2,.call (LCube [zah 2] [false] psE_ok (by decide)) lm13_10)] [(0,vb false),(1,(vRs [(zah 2)])),(2,vp 0 0),(4,(vRs [zah 2])),(5,vi .i64 0),(6,.t (.c (.d (.sl 1 ([true,true].map za5))))),(7,vb true),(9,vb false),(10,vp 1 0)] [(0,.box [cIs aE.locs,.d (.sl 1 (aE.bits.map za5))]),(1,.box (zF (cubeF [zah 2] [false])))] h ?_;clear h;intro a w h
 refine rq za0 2 [(2,.len (c:=(.d (.sl 1 (aE.bits.map za5)))) (n:=aE.bits.length) (zae _ _ _)),(3,.cmp (op := .eql) (m:=(aE.bits.length:Int)) (n:=1) (b:=true) .i64 (show ((aE.bits.length:Int) == 1)=true from by decide)),(7,.gen _ _ _ fun _ _ _ _=>Op.idxD (d:=52) (t:=51) (k := .i64) le5_9 (zal (show aE.bits[0]?=some true from rfl) (f:=za5)) (OV.const (.int .i64 0) rfl)),(12,.cmp (op := .eql) (m:=0) (n:=0) (b:=true) .i64 (show ((0:Int) == 0)=true from by decide)),(16,.len (c:=(cRs [zah 2])) (n:=[zah 2].length) (zae _ _ _)),(17,.cmp (op := .eql) (m:=([zah 2].length:Int)) (n:=1) (b:=true) .i64 (show (([zah 2].length:Int) == 1)=true from by decide)),(24,.len (c:=(.d (.sl 1 ([true,true].map za5)))) (n:=[true,true].length) (zae _ _ _)),(25,.cmp (op := .eql) (m:=([true,true].length:Int)) (n:=2) (b:=true) .i64 (show (([true,true].length:Int) == 2)=true from by decide)),(29,.gen _ _ _ fun _ _ _ _=>Op.idxD (d:=74) (t:=73) (k := .i64) le5_9 (zal (show [true,true][0]?=some true from rfl) (f:=za5)) (OV.const (.int .i64 0) rfl)),(34,.gen _ _ _ fun _ _ _ _=>Op.idxD (d:=79) (t:=78) (k := .i64) le5_9 (zal (show [true,true][1]?=some true from rfl) (f:=za5)) (OV.const (.int .i64 1) rfl)),(43,.call (Fn.argw (Fn.cast (SRHolds [] (L:=10) (M:=10) (by decide) ⟨by decide,fun z hz=>by cases hz⟩ (cubeF [zah 2] [false]) cubeE_ok.1 cubeE_ok.2) (show (vb ((cubeF [zah 2] [false]).holds []):V)=vb true from by rw [te12])) (.cons _ _ _ _ (.refl _) (.cons _ _ _ _ (.c _ _ (.nil _)) .nil))) ke_10),(48,.call (Fn.cast (LSameA aE aE (by decide) (by decide)) (show (vb (cmpA aE aE == 0):V)=vb true from by rw [te13];rfl)) lm13_13),(52,.gen _ _ _ fun _ _ _ _=>Op.buildD (d:=97) (len:=1) (rows:=[0].map zbo) (rs:=[]) tb_0 (.cons (i:=0) (OV.const (.int .i64 0) rfl) (.nil)) (by kernel_rfl) rfl (by simp [zbo]) (by decide) (by decide)),(53,.gen _ _ _ fun _ _ _ _=>Op.buildD (d:=98) (len:=1) (rows:=[false].map za5) (rs:=[]) zfj (.cons (i:=0) (OV.const (.bool false) rfl) (.nil)) (by kernel_rfl) rfl (by simp [za5]) (by decide) (by decide)),(55,.call (Fn.cast (LCmpA aE (ze2.mk [0] [false]) (by decide) (by decide)) (show (vi .i64 (cmpA aE (ze2.mk [0] [false])):V)=vi .i64 1 from by rw [te14])) lf6_13),(56,.cmp (op := .eql) (m:=1) (n:=1) (b:=true) .i64 (show ((1:Int) == 1)=true from by decide)),(60,.call (Lleast 3 (by decide)) lm13_0),(62,.call (Fn.argw (Fn.cast (LGather [zah 2] (atE (zah 3)) (fun r hr=>by rw [List.mem_singleton.1 hr];exact le2.mono (by decide) (by decide)) (okA_atom (le3.mono (by decide) (by decide))) (by rw [za1.nodes_eq];decide)) (show ((vRs (gathT [zah 2] (atE (zah 3)))):V)=(vRs [zah 2,zah 3]) from by rw [te15])) (.cons _ _ _ _ (.refl _) (.cons _ _ _ _ (.agg _ _ (.same _ _ _ (.same _ _ _ (.same _ _ _ (.same _ _ _ (.same _ _ _ (.d _ _ _ _ (.nil _) .nil))))))) .nil))) lm13_15),(63,.len (c:=(cRs [zah 2,zah 3])) (n:=[zah 2,zah 3].length) (zae _ _ _)),(64,.cmp (op := .eql) (m:=([zah 2,zah 3].length:Int)) (n:=2) (b:=true) .i64 (show (([zah 2,zah 3].length:Int) == 2)=true from by decide))] [(0,vb true)] [] h ?_;clear h;intro a w h
 refine wp_ret ?_
 refine zap [.c (cB true)] h Exit.ret (.inl rfl)  rfl ⟨RV.tmp _ _ rfl,trivial⟩ ?_
 rfl
end
section
open Go.RowKit
end
section
open Go.RowKit

theorem ln14_4:SlT Tryz.prog 77 27 2:=SlT.mk' Tryz.underlying77 (by kernel_rfl)
def zf4 (props:List zag) (ps:List zab) (xs:List ze2):Bool:=props.all (fun p=>fewF p.f 20 3) && (xs.all (fun a=>decide (a.locs.length≤20∧a.bits.length≤40)) && (decide (props.length≤6) && zcg ps 30 3))
set_option maxHeartbeats 4000000 in
theorem LFewRs (rs:List zab) (most L:Int) (hl:rs.length≤9223372036854775807):Fn Tryz.prog 32 [] [(vRs rs),vi .i64 most,vi .i64 L] (vb (zcg rs most L)) []:=by
 refine Fn.body Tryz.func32 rfl 64 rfl fun w H B a h=>?_
 refine rq za0 0 [] [(0,(vRs rs)),(1,vi .i64 most),(2,vi .i64 L),(6,vb false)] [] h ?_;clear h;intro a w h
 refine wp_seq (rq za0 0 [(1,.len (c:=(cRs rs)) (n:=rs.length) (zae _ _ _))] [(0,(vRs rs)),(2,vi .i64 L),(6,vb false),(12,vb (decide ((rs.length:Int)>most)))] [] h ?_);clear h;intro a w h
 refine zaa (decide ((rs.length:Int)>most)) h rfl (fun hc=>?_) (fun hc=>?_)
 ·have hc1:=hc;clear hc
  have hc1':=of_decide_eq_true hc1
  refine rq za0 0 [] [(0,(vRs rs)),(2,vi .i64 L),(6,vb false)] [] h ?_;clear h;intro a w h
  refine wp_ret (za9 ?_)
  refine zap [.c (cB false)] h Exit.ret (.inl rfl)  rfl ⟨RV.tmp _ _ rfl,trivial⟩ ?_
  rw [show zcg rs most L=false from by unfold zcg;rw [decide_eq_false (by have:=of_decide_eq_true hc1;omega)];rfl];first | done | rfl
 ·have hc2:=hc;clear hc
  have hc2':=of_decide_eq_false hc2
  refine wp_skip (za4 (wp_seq (rq za0 0 [] [(0,(vRs rs)),(2,vi .i64 L),(6,vb false),(7,vi .i64 0)] [] h ?_)));clear h;intro a w h
  refine wp_block ?_
  refine zb1 (ι:=(Nat)) (fun (z_:(Nat))=>match z_ with | j=>j≤rs.length∧(rs.take j).all (zfl L)=true)
    (fun (z_:(Nat))=>match z_ with | j=>[(0,(vRs rs)),(2,vi .i64 L),(7,vi .i64 (j:Int))])
    (fun (z_:(Nat))=>match z_ with | j=>[])
    (fun (z_:(Nat))=>match z_ with | j=>rs.length - j) 0 ?_ h (by kernel_rfl) (by kernel_rfl) ?_
  ·exact ⟨Nat.zero_le _,rfl⟩
  ·clear h;rintro j a w hI h
   change St _ (F.of [(0,(vRs rs)),(2,vi .i64 L),(7,vi .i64 (j:Int))] []) a w at h
   obtain ⟨hI1,hI2⟩:=hI
   refine wp_seq (rq za0 0 [(2,.len (c:=(cRs rs)) (n:=rs.length) (zae _ _ _))] [(0,(vRs rs)),(2,vi .i64 L),(7,vi .i64 (j:Int)),(16,vb (decide ((j:Int)<(rs.length:Int))))] [] h ?_);clear h;intro a w h
   refine zaa (decide ((j:Int)<(rs.length:Int))) h rfl (fun hc=>?_) (fun hc=>?_)
   ·have hc3:=hc;clear hc
    have hc3':=of_decide_eq_true hc3
    refine wp_skip (za4 (wp_seq (wp_block (wp_seq ?_))))
    obtain ⟨x1,hx1⟩:∃ z_:zab,rs[j]?=some z_:=⟨_,List.getElem?_eq_getElem (by first | omega | (simp at *;omega))⟩
    rcases Bool.eq_false_or_eq_true (decide ((x1.t.parts.length:Int)>20)) with hc | hc
    ·have hc4:=hc;clear hc
     have hc4':=of_decide_eq_true hc4
     refine rq za0 0 [(2,.gen _ _ _ fun _ _ _ _=>Op.idxD (d:=21) (t:=19) (k := .i64) kc_3 (zal hx1 (f:=zab.d)) (OV.tmp 20 _)),(6,.len (c:=(cPs x1.t.parts)) (n:=x1.t.parts.length) (zae _ _ _)),(7,.cmp (op := .gtr) (m:=(x1.t.parts.length:Int)) (n:=20) (b:=true) .i64 hc4)] [(0,(vRs rs)),(2,vi .i64 L),(7,vi .i64 (j:Int)),(38,vb true)] [] h ?_;clear h;intro a w h
     refine zaa true h rfl (fun hc=>?_) (fun hc=>?_)
     ·clear hc
      refine rq za0 0 [] [(0,(vRs rs)),(2,vi .i64 L),(6,vb false),(7,vi .i64 (j:Int))] [] h ?_;clear h;intro a w h
      refine wp_ret (za9 (zaf (za9 (za9 (zaf (za9 ?_))))))
      refine zap [.c (cB false)] h Exit.ret (.inl rfl)  rfl ⟨RV.tmp _ _ rfl,trivial⟩ ?_
      rw [show zcg rs most L=false from by unfold zcg;rw [zbd hx1 (show zfl L x1=false from by rw [zfl,decide_eq_false (by have:=of_decide_eq_true hc4;omega)];rfl),Bool.and_false]];first | done | rfl
     ·cases hc
    ·have hc5:=hc;clear hc
     have hc5':=of_decide_eq_false hc5
     refine rq za0 0 [(2,.gen _ _ _ fun _ _ _ _=>Op.idxD (d:=21) (t:=19) (k := .i64) kc_3 (zal hx1 (f:=zab.d)) (OV.tmp 20 _)),(6,.len (c:=(cPs x1.t.parts)) (n:=x1.t.parts.length) (zae _ _ _)),(7,.cmp (op := .gtr) (m:=(x1.t.parts.length:Int)) (n:=20) (b:=false) .i64 hc5),(11,.gen _ _ _ fun _ _ _ _=>Op.idxD (d:=30) (t:=28) (k := .i64) kc_3 (zal hx1 (f:=zab.d)) (OV.tmp 29 _)),(16,.len (zdm x1.t.k.abs))] [(0,(vRs rs)),(2,vi .i64 L),(7,vi .i64 (j:Int)),(38,vb (decide ((x1.t.k.abs.length:Int)>L)))] [] h ?_;clear h;intro a w h
     refine zaa (decide ((x1.t.k.abs.length:Int)>L)) h rfl (fun hc=>?_) (fun hc=>?_)
     ·have hc6:=hc;clear hc
      have hc6':=of_decide_eq_true hc6
      refine rq za0 0 [] [(0,(vRs rs)),(2,vi .i64 L),(6,vb false),(7,vi .i64 (j:Int))] [] h ?_;clear h;intro a w h
      refine wp_ret (za9 (zaf (za9 (za9 (zaf (za9 ?_))))))
      refine zap [.c (cB false)] h Exit.ret (.inl rfl)  rfl ⟨RV.tmp _ _ rfl,trivial⟩ ?_
      rw [show zcg rs most L=false from by unfold zcg;rw [zbd hx1 (show zfl L x1=false from by rw [zfl,decide_eq_false (p:=(_:Int)≤L) (by have:=of_decide_eq_true hc6;omega),Bool.and_false];rfl),Bool.and_false]];first | done | rfl
     ·have hc7:=hc;clear hc
      have hc7':=of_decide_eq_false hc7
      refine wp_skip (za4 (rq za0 0 [] [(0,(vRs rs)),(2,vi .i64 L),(7,vi .i64 (j:Int)),(8,vi .i64 0)] [] h ?_));clear h;intro a w h
      refine wp_block ?_
      have hjr:=hI1
      refine zb1 (ι:=(Nat)) (fun (z_:(Nat))=>match z_ with | i=>i≤x1.t.parts.length∧(x1.t.parts.take i).all (fun p=>decide ((p.c.abs.length:Int)≤L))=true)
        (fun (z_:(Nat))=>match z_ with | i=>[(0,(vRs rs)),(2,vi .i64 L),(7,vi .i64 (j:Int)),(8,vi .i64 (i:Int))])
        (fun (z_:(Nat))=>match z_ with | i=>[])
        (fun (z_:(Nat))=>match z_ with | i=>x1.t.parts.length - i) 0 ?_ h (by kernel_rfl) (by kernel_rfl) ?_
      ·exact ⟨Nat.zero_le _,rfl⟩
      ·clear h;rintro i a w hI h
       change St _ (F.of [(0,(vRs rs)),(2,vi .i64 L),(7,vi .i64 (j:Int)),(8,vi .i64 (i:Int))] []) a w at h
       obtain ⟨hJ1,hJ2⟩:=hI
       refine wp_seq (rq za0 0 [(3,.gen _ _ _ fun _ _ _ _=>Op.idxD (d:=42) (t:=40) (k := .i64) kc_3 (zal hx1 (f:=zab.d)) (OV.tmp 41 _)),(7,.len (c:=(cPs x1.t.parts)) (n:=x1.t.parts.length) (zae _ _ _))] [(0,(vRs rs)),(2,vi .i64 L),(7,vi .i64 (j:Int)),(8,vi .i64 (i:Int)),(47,vb (decide ((i:Int)<(x1.t.parts.length:Int))))] [] h ?_);clear h;intro a w h
       refine zaa (decide ((i:Int)<(x1.t.parts.length:Int))) h rfl (fun hc=>?_) (fun hc=>?_)
       ·have hc8:=hc;clear hc
        have hc8':=of_decide_eq_true hc8
        refine wp_skip (za4 (wp_seq (wp_block ?_)))
        obtain ⟨x2,hx2⟩:∃ z_:za2,x1.t.parts[i]?=some z_:=⟨_,List.getElem?_eq_getElem (by first | omega | (simp at *;omega))⟩
        refine rq za0 0 [(2,.gen _ _ _ fun _ _ _ _=>Op.idxD (d:=52) (t:=50) (k := .i64) kc_3 (zal hx1 (f:=zab.d)) (OV.tmp 51 _)),(7,.gen _ _ _ fun _ _ _ _=>Op.idxD (d:=57) (t:=55) (k := .i64) zc0 (zal hx2 (f:=za2.d)) (OV.tmp 56 _)),(11,.len (zdm x2.c.abs))] [(0,(vRs rs)),(2,vi .i64 L),(7,vi .i64 (j:Int)),(8,vi .i64 (i:Int)),(63,vb (decide ((x2.c.abs.length:Int)>L)))] [] h ?_;clear h;intro a w h
        refine zaa (decide ((x2.c.abs.length:Int)>L)) h rfl (fun hc=>?_) (fun hc=>?_)
        ·have hc9:=hc;clear hc
         have hc9':=of_decide_eq_true hc9
         refine rq za0 0 [] [(0,(vRs rs)),(2,vi .i64 L),(6,vb false),(7,vi .i64 (j:Int)),(8,vi .i64 (i:Int))] [] h ?_;clear h;intro a w h
         refine wp_ret (zaf (za9 (za9 (zaf (zaf (za9 (za9 (zaf (za9 ?_)))))))))
         refine zap [.c (cB false)] h Exit.ret (.inl rfl)  rfl ⟨RV.tmp _ _ rfl,trivial⟩ ?_
         rw [show zcg rs most L=false from by unfold zcg;rw [zbd hx1 (show zfl L x1=false from by rw [zfl,zbd hx2 (decide_eq_false (by have:=of_decide_eq_true hc9;omega)),Bool.and_false]),Bool.and_false]];first | done | rfl
        ·have hc10:=hc;clear hc
         have hc10':=of_decide_eq_false hc10
         refine wp_skip (zac (za4 (rn za0 0 [(1,.add .i64 (m:=(i:Int)) (n:=1) (zad (by omega) (by omega)))] [(0,(vRs rs)),(2,vi .i64 L),(7,vi .i64 (j:Int)),(8,vi .i64 ((i:Int)+1))] [] h ?_)));clear h;intro a w h
         refine za4 ?_
         refine zam (x:=i) (y:=i+1) h ?_ ?_
         ·exact ⟨by have:=zak hx2;omega,zbj hx2 hJ2 (decide_eq_true (by have:=of_decide_eq_false hc10;omega))⟩
         ·show x1.t.parts.length - (i+1)<x1.t.parts.length - i
          have:=zak hx2;omega
       ·have hc11:=hc;clear hc
        have hc11':=of_decide_eq_false hc11
        refine wp_exit (zai (zai (za8 (zac (za4 (rn za0 0 [(1,.add .i64 (m:=(j:Int)) (n:=1) (zad (by omega) (by omega)))] [(0,(vRs rs)),(2,vi .i64 L),(7,vi .i64 ((j:Int)+1))] [] h ?_))))));clear h;intro a w h
        refine za4 ?_
        refine zam (x:=j) (y:=j+1) h ?_ ?_
        ·exact ⟨by have:=zak hx1;omega,zbj hx1 hI2 (by rw [zfl,decide_eq_true (by have:=of_decide_eq_false hc5;omega),decide_eq_true (by have:=of_decide_eq_false hc7;omega),zdd (of_decide_eq_false hc11) hJ2];rfl)⟩
        ·show rs.length - (j+1)<rs.length - j
         have:=zak hx1;omega
   ·have hc12:=hc;clear hc
    have hc12':=of_decide_eq_false hc12
    refine wp_exit (zai (zai (za8 (za4 (rq za0 0 [] [(6,vb true)] [] h ?_)))));clear h;intro a w h
    refine wp_ret ?_
    refine zap [.c (cB true)] h Exit.ret (.inl rfl)  rfl ⟨RV.tmp _ _ rfl,trivial⟩ ?_
    rw [show zcg rs most L=true from by unfold zcg;rw [decide_eq_true (by have:=of_decide_eq_false hc2;omega),zdd (of_decide_eq_false hc12) hI2];rfl];first | done | rfl
set_option maxHeartbeats 4000000 in
theorem LfewA (props:List zag) (ps:List zab) (xs:List ze2) (hpl:∀ p ∈ props,p.f.lb) (hlp:props.length≤9223372036854775807) (hl:ps.length≤9223372036854775807) (hlx:xs.length≤9223372036854775807):Fn Tryz.prog 7 [] [.t (.c (.d (.sl 9 (props.map zag.d)))),(vRs ps),.t (.c (.d (.sl 2 (xs.map ze2.d))))] (vb (zf4 props ps xs)) []:=by
 refine Fn.body Tryz.func7 rfl 46 rfl fun w H B a h=>?_
 refine rq za0 0 [] [(0,.t (.c (.d (.sl 9 (props.map zag.d))))),(1,(vRs ps)),(2,.t (.c (.d (.sl 2 (xs.map ze2.d))))),(6,vb false)] [] h ?_;clear h;intro a w h
 refine wp_seq (rq za0 0 [(1,.len (c:=(.d (.sl 9 (props.map zag.d)))) (n:=props.length) (zae _ _ _))] [(0,.t (.c (.d (.sl 9 (props.map zag.d))))),(1,(vRs ps)),(2,.t (.c (.d (.sl 2 (xs.map ze2.d))))),(6,vb false),(11,.t (.c (.d (.sl 9 (props.map zag.d))))),(12,vi .i64 (props.length:Int)),(13,vi .i64 0)] [] h ?_);clear h;intro a w h
 refine wp_block ?_
 refine zb1 (ι:=(Nat)) (fun (z_:(Nat))=>match z_ with | j=>j≤props.length∧(props.take j).all (fun p=>fewF p.f 20 3)=true)
   (fun (z_:(Nat))=>match z_ with | j=>[(0,.t (.c (.d (.sl 9 (props.map zag.d))))),(1,(vRs ps)),(2,.t (.c (.d (.sl 2 (xs.map ze2.d))))),(11,.t (.c (.d (.sl 9 (props.map zag.d))))),(12,vi .i64 (props.length:Int)),(13,vi .i64 (j:Int))])
   (fun (z_:(Nat))=>match z_ with | j=>[])
   (fun (z_:(Nat))=>match z_ with | j=>props.length - j) 0 ?_ h (by kernel_rfl) (by kernel_rfl) ?_
 ·exact ⟨Nat.zero_le _,rfl⟩
 ·clear h;rintro j a w hI h
  change St _ (F.of [(0,.t (.c (.d (.sl 9 (props.map zag.d))))),(1,(vRs ps)),(2,.t (.c (.d (.sl 2 (xs.map ze2.d))))),(11,.t (.c (.d (.sl 9 (props.map zag.d))))),(12,vi .i64 (props.length:Int)),(13,vi .i64 (j:Int))] []) a w at h
  obtain ⟨hP1,hP2⟩:=hI
  refine rq za0 0 [] [(0,.t (.c (.d (.sl 9 (props.map zag.d))))),(1,(vRs ps)),(2,.t (.c (.d (.sl 2 (xs.map ze2.d))))),(11,.t (.c (.d (.sl 9 (props.map zag.d))))),(12,vi .i64 (props.length:Int)),(13,vi .i64 (j:Int)),(14,vb (decide ((j:Int)<(props.length:Int))))] [] h ?_;clear h;intro a w h
  refine wp_seq ?_
  refine zaa (decide ((j:Int)<(props.length:Int))) h rfl (fun hc=>?_) (fun hc=>?_)
  ·have hc1:=hc;clear hc
   have hc1':=of_decide_eq_true hc1
   refine wp_skip (za4 (wp_seq (wp_block ?_)))
   obtain ⟨x1,hx1⟩:∃ z_:zag,props[j]?=some z_:=⟨_,List.getElem?_eq_getElem (by first | omega | (simp at *;omega))⟩
   refine rq za0 0 [(0,.gen _ _ _ fun _ _ _ _=>Op.idxD (d:=15) (t:=11) (k := .i64) li9_5 (zal hx1 (f:=zag.d)) (OV.tmp 13 _))] [(0,.t (.c (.d (.sl 9 (props.map zag.d))))),(1,(vRs ps)),(2,.t (.c (.d (.sl 2 (xs.map ze2.d))))),(8,vp 0 0),(11,.t (.c (.d (.sl 9 (props.map zag.d))))),(12,vi .i64 (props.length:Int)),(13,vi .i64 (j:Int))] [(0,.box ([cB x1.at_,cI x1.proc,cI x1.loc,cI x1.f.kind,cPs x1.f.r.t.parts]++zi x1.f.r.t.k++[cB x1.f.r.eq,cFs x1.f.kids]))] h ?_;clear h;intro a w h
   refine rq za0 1 [(2,.call (SFewF x1.f 20 3 (hpl x1 (List.mem_of_getElem? hx1)) (by decide) (by decide)) kt_1)] [(0,.t (.c (.d (.sl 9 (props.map zag.d))))),(1,(vRs ps)),(2,.t (.c (.d (.sl 2 (xs.map ze2.d))))),(11,.t (.c (.d (.sl 9 (props.map zag.d))))),(12,vi .i64 (props.length:Int)),(13,vi .i64 (j:Int)),(20,vb (!(fewF x1.f 20 3)))] [] h ?_;clear h;intro a w h
   refine zaa (!(fewF x1.f 20 3)) h rfl (fun hc=>?_) (fun hc=>?_)
   ·have hc2:=hc;clear hc
    have hc2':=hc2;(try simp at hc2')
    refine rq za0 1 [] [(0,.t (.c (.d (.sl 9 (props.map zag.d))))),(1,(vRs ps)),(2,.t (.c (.d (.sl 2 (xs.map ze2.d))))),(6,vb false),(11,.t (.c (.d (.sl 9 (props.map zag.d))))),(12,vi .i64 (props.length:Int)),(13,vi .i64 (j:Int))] [] h ?_;clear h;intro a w h
    refine wp_ret (zaf (za9 (za9 (zaf (za9 ?_)))))
    refine zap [.c (cB false)] h Exit.ret (.inl rfl)  rfl ⟨RV.tmp _ _ rfl,trivial⟩ ?_
    have hz:zf4 props ps xs=false:=by unfold zf4;rw [zbd (q:=(fun p=>fewF p.f 20 3)) hx1 (show (fewF x1.f 20 3)=false from by simpa using hc2)];rfl
    rw [hz];first | done | rfl
   ·have hc3:=hc;clear hc
    have hc3':=hc3;(try simp at hc3')
    refine wp_skip (zac (za4 (rn za0 1 [(0,.add .i64 (m:=(j:Int)) (n:=1) (zad (by omega) (by omega)))] [(0,.t (.c (.d (.sl 9 (props.map zag.d))))),(1,(vRs ps)),(2,.t (.c (.d (.sl 2 (xs.map ze2.d))))),(11,.t (.c (.d (.sl 9 (props.map zag.d))))),(12,vi .i64 (props.length:Int)),(13,vi .i64 ((j:Int)+1))] [] h ?_)));clear h;intro a w h
    refine za4 ?_
    refine zam (x:=j) (y:=j+1) h ?_ ?_
    ·exact ⟨by have:=zak hx1;omega,zbj hx1 hP2 (show (fewF x1.f 20 3)=true from by simpa using hc3)⟩
    ·show props.length - (j+1)<props.length - j
     have:=zak hx1;omega
  ·have hc4:=hc;clear hc
   have hc4':=of_decide_eq_false hc4
   refine wp_exit (zai (zai (za8 (za4 (wp_seq (rq za0 1 [(1,.len (c:=(.d (.sl 2 (xs.map ze2.d)))) (n:=xs.length) (zae _ _ _))] [(0,.t (.c (.d (.sl 9 (props.map zag.d))))),(1,(vRs ps)),(22,.t (.c (.d (.sl 2 (xs.map ze2.d))))),(23,vi .i64 (xs.length:Int)),(24,vi .i64 0)] [] h ?_))))));clear h;intro a w h
   refine wp_block ?_
   refine zb1 (ι:=(Nat)) (fun (z_:(Nat))=>match z_ with | i=>i≤xs.length∧(xs.take i).all (fun a=>decide (a.locs.length≤20∧a.bits.length≤40))=true)
     (fun (z_:(Nat))=>match z_ with | i=>[(0,.t (.c (.d (.sl 9 (props.map zag.d))))),(1,(vRs ps)),(22,.t (.c (.d (.sl 2 (xs.map ze2.d))))),(23,vi .i64 (xs.length:Int)),(24,vi .i64 (i:Int))])
     (fun (z_:(Nat))=>match z_ with | i=>[])
     (fun (z_:(Nat))=>match z_ with | i=>xs.length - i) 0 ?_ h (by kernel_rfl) (by kernel_rfl) ?_
   ·exact ⟨Nat.zero_le _,rfl⟩
   ·clear h;rintro i a w hI h
    change St _ (F.of [(0,.t (.c (.d (.sl 9 (props.map zag.d))))),(1,(vRs ps)),(22,.t (.c (.d (.sl 2 (xs.map ze2.d))))),(23,vi .i64 (xs.length:Int)),(24,vi .i64 (i:Int))] []) a w at h
    obtain ⟨hA1,hA2⟩:=hI
    refine rq za0 1 [] [(0,.t (.c (.d (.sl 9 (props.map zag.d))))),(1,(vRs ps)),(22,.t (.c (.d (.sl 2 (xs.map ze2.d))))),(23,vi .i64 (xs.length:Int)),(24,vi .i64 (i:Int)),(25,vb (decide ((i:Int)<(xs.length:Int))))] [] h ?_;clear h;intro a w h
    refine wp_seq ?_
    refine zaa (decide ((i:Int)<(xs.length:Int))) h rfl (fun hc=>?_) (fun hc=>?_)
    ·have hc5:=hc;clear hc
     have hc5':=of_decide_eq_true hc5
     refine wp_skip (za4 (wp_seq (wp_block ?_)))
     obtain ⟨x3,hx3⟩:∃ z_:ze2,xs[i]?=some z_:=⟨_,List.getElem?_eq_getElem (by first | omega | (simp at *;omega))⟩
     refine rq za0 1 [(0,.gen _ _ _ fun _ _ _ _=>Op.idxD (d:=26) (t:=22) (k := .i64) ln14_4 (zal hx3 (f:=ze2.d)) (OV.tmp 24 _))] [(0,.t (.c (.d (.sl 9 (props.map zag.d))))),(1,(vRs ps)),(10,vp 1 0),(22,.t (.c (.d (.sl 2 (xs.map ze2.d))))),(23,vi .i64 (xs.length:Int)),(24,vi .i64 (i:Int))] [(1,.box [cIs x3.locs,.d (.sl 1 (x3.bits.map za5))])] h ?_;clear h;intro a w h
     rcases Bool.eq_false_or_eq_true (decide ((x3.locs.length:Int)>20)) with hc | hc
     ·have hc6:=hc;clear hc
      have hc6':=of_decide_eq_true hc6
      refine rq za0 2 [(2,.len (c:=(cIs x3.locs)) (n:=x3.locs.length) (zae _ _ _)),(3,.cmp (op := .gtr) (m:=(x3.locs.length:Int)) (n:=20) (b:=true) .i64 hc6)] [(0,.t (.c (.d (.sl 9 (props.map zag.d))))),(1,(vRs ps)),(22,.t (.c (.d (.sl 2 (xs.map ze2.d))))),(23,vi .i64 (xs.length:Int)),(24,vi .i64 (i:Int)),(37,vb true)] [] h ?_;clear h;intro a w h
      refine zaa true h rfl (fun hc=>?_) (fun hc=>?_)
      ·clear hc
       refine rq za0 2 [] [(0,.t (.c (.d (.sl 9 (props.map zag.d))))),(1,(vRs ps)),(6,vb false),(22,.t (.c (.d (.sl 2 (xs.map ze2.d))))),(23,vi .i64 (xs.length:Int)),(24,vi .i64 (i:Int))] [] h ?_;clear h;intro a w h
       refine wp_ret (zaf (za9 (za9 (zaf (za9 ?_)))))
       refine zap [.c (cB false)] h Exit.ret (.inl rfl)  rfl ⟨RV.tmp _ _ rfl,trivial⟩ ?_
       have hz:zf4 props ps xs=false:=by unfold zf4;rw [zbd (q:=(fun a=>decide (a.locs.length≤20∧a.bits.length≤40))) hx3 (decide_eq_false (by have:=of_decide_eq_true hc6;omega))];simp
       rw [hz];first | done | rfl
      ·cases hc
     ·have hc7:=hc;clear hc
      have hc7':=of_decide_eq_false hc7
      refine rq za0 2 [(2,.len (c:=(cIs x3.locs)) (n:=x3.locs.length) (zae _ _ _)),(3,.cmp (op := .gtr) (m:=(x3.locs.length:Int)) (n:=20) (b:=false) .i64 hc7),(7,.len (c:=(.d (.sl 1 (x3.bits.map za5)))) (n:=x3.bits.length) (zae _ _ _))] [(0,.t (.c (.d (.sl 9 (props.map zag.d))))),(1,(vRs ps)),(22,.t (.c (.d (.sl 2 (xs.map ze2.d))))),(23,vi .i64 (xs.length:Int)),(24,vi .i64 (i:Int)),(37,vb (decide ((x3.bits.length:Int)>40)))] [] h ?_;clear h;intro a w h
      refine zaa (decide ((x3.bits.length:Int)>40)) h rfl (fun hc=>?_) (fun hc=>?_)
      ·have hc8:=hc;clear hc
       have hc8':=of_decide_eq_true hc8
       refine rq za0 2 [] [(0,.t (.c (.d (.sl 9 (props.map zag.d))))),(1,(vRs ps)),(6,vb false),(22,.t (.c (.d (.sl 2 (xs.map ze2.d))))),(23,vi .i64 (xs.length:Int)),(24,vi .i64 (i:Int))] [] h ?_;clear h;intro a w h
       refine wp_ret (zaf (za9 (za9 (zaf (za9 ?_)))))
       refine zap [.c (cB false)] h Exit.ret (.inl rfl)  rfl ⟨RV.tmp _ _ rfl,trivial⟩ ?_
       have hz:zf4 props ps xs=false:=by unfold zf4;rw [zbd (q:=(fun a=>decide (a.locs.length≤20∧a.bits.length≤40))) hx3 (decide_eq_false (by have:=of_decide_eq_true hc8;omega))];simp
       rw [hz];first | done | rfl
      ·have hc9:=hc;clear hc
       have hc9':=of_decide_eq_false hc9
       refine wp_skip (zac (za4 (rn za0 2 [(0,.add .i64 (m:=(i:Int)) (n:=1) (zad (by omega) (by omega)))] [(0,.t (.c (.d (.sl 9 (props.map zag.d))))),(1,(vRs ps)),(22,.t (.c (.d (.sl 2 (xs.map ze2.d))))),(23,vi .i64 (xs.length:Int)),(24,vi .i64 ((i:Int)+1))] [] h ?_)));clear h;intro a w h
       refine za4 ?_
       refine zam (x:=i) (y:=i+1) h ?_ ?_
       ·exact ⟨by have:=zak hx3;omega,zbj hx3 hA2 (decide_eq_true (by have:=of_decide_eq_false hc7;have:=of_decide_eq_false hc9;omega))⟩
       ·show xs.length - (i+1)<xs.length - i
        have:=zak hx3;omega
    ·have hc10:=hc;clear hc
     have hc10':=of_decide_eq_false hc10
     refine wp_exit (zai (zai (za8 (za4 ?_))))
     rcases Bool.eq_false_or_eq_true (decide ((props.length:Int)≤6)) with hc | hc
     ·have hc11:=hc;clear hc
      have hc11':=of_decide_eq_true hc11
      refine rq za0 2 [(1,.len (c:=(.d (.sl 9 (props.map zag.d)))) (n:=props.length) (zae _ _ _)),(2,.cmp (op := .leq) (m:=(props.length:Int)) (n:=6) (b:=true) .i64 hc11),(5,.call (LFewRs ps 30 3 hl) kc_6)] [(6,vb (zcg ps 30 3))] [] h ?_;clear h;intro a w h
      refine wp_ret ?_
      refine zap [.c (cB (zcg ps 30 3))] h Exit.ret (.inl rfl)  rfl ⟨RV.tmp _ _ rfl,trivial⟩ ?_
      have hz:zf4 props ps xs=(zcg ps 30 3):=by unfold zf4;rw [zdd (of_decide_eq_false hc4) hP2,zdd (of_decide_eq_false hc10) hA2,decide_eq_true (p:=props.length≤6) (by have:=of_decide_eq_true hc11;omega)];simp
      rw [hz];first | done | rfl
     ·have hc12:=hc;clear hc
      have hc12':=of_decide_eq_false hc12
      refine rq za0 2 [(1,.len (c:=(.d (.sl 9 (props.map zag.d)))) (n:=props.length) (zae _ _ _)),(2,.cmp (op := .leq) (m:=(props.length:Int)) (n:=6) (b:=false) .i64 hc12)] [(6,vb false)] [] h ?_;clear h;intro a w h
      refine wp_ret ?_
      refine zap [.c (cB false)] h Exit.ret (.inl rfl)  rfl ⟨RV.tmp _ _ rfl,trivial⟩ ?_
      have hz:zf4 props ps xs=(false):=by unfold zf4;rw [decide_eq_false (p:=props.length≤6) (by have:=of_decide_eq_false hc12;omega)];simp
      rw [hz];first | done | rfl
end
section
open Go.RowKit

theorem lo15_0:za7 Tryz.prog 6:=za7.mk' (by kernel_rfl)
theorem lo15_1:za7 Tryz.prog 7:=za7.mk' (by kernel_rfl)
theorem lo15_2:za7 Tryz.prog 8:=za7.mk' (by kernel_rfl)
end
section
open Go.RowKit
end
section
open Go.RowKit
end
section
open Go.RowKit
end
section
open Go.RowKit

section
variable {w:World} {n:Nat}
theorem rep_ZIl:zfq w n 28 (slD 2 ziD) (fun xs=>xs.length≤maxLen∧∀ x ∈ xs,Lb x.abs) :=
 zdt (k:=2) Tryz.underlying28 (by kernel_rfl) (by decide) (fun _=>rfl) rep_ZI
theorem rep_Rel:zfq w n 57 zab.d (fun r=>TLb r.t) :=
 ((zcl (n:=n) Tryz.underlying57 (by kernel_rfl) (.cons (k0:=3) rfl (by kernel_rfl) rep_Term (.cons (k0:=1) rfl (by kernel_rfl) (rep_bool Tryz.underlying4) .nil))).map (fun p=>⟨p.1,p.2.1⟩) (fun _=>rfl) fun _ h=>h.1).mono (Nat.le_succ n)
theorem rep_Form:∀ {n:Nat}, zfq w n 60 za1.d za1.lb
 | 0=>zfq.zero
 | n+1=>(zcl (n:=n) Tryz.underlying60 (by kernel_rfl) (.cons (k0:=1) rfl (by kernel_rfl) (rep_i64 Tryz.underlying3) (.cons (k0:=4) rfl (by kernel_rfl) rep_Rel (.cons (k0:=1) rfl (by kernel_rfl) (zdt (k:=6) Tryz.underlying58 (by kernel_rfl) (by decide) za1.d_len rep_Form) .nil)))).map (fun p=>⟨p.1,p.2.1,p.2.2.1⟩) (fun _=>(za1.d_eq _).trans rfl) fun _ h=>(za1.lb_eq _).2 ⟨⟨h.2.1,Nat.le_trans h.2.2.1.1 (by decide)⟩,h.2.2.1.2⟩
theorem rep_State:zfq w n 30 StD.d StRd :=
 ((zcl (n:=n) Tryz.underlying30 (by kernel_rfl) (.cons (k0:=1) rfl (by kernel_rfl) rep_ints (.cons (k0:=1) rfl (by kernel_rfl) rep_ZIl .nil))).map (fun p=>⟨p.1,p.2.1⟩) (fun _=>rfl) fun _ h=>⟨h.2.1.2,Nat.le_trans h.2.1.1 (by decide)⟩).mono (Nat.le_succ n)
end
end
section
open Go.RowKit
end
section
open Go.RowKit
end
section
open Go.RowKit
end
section
open Go.RowKit

theorem cmpPs_val (vs:List ZI):∀ {ps qs:List za2}, ze8 ps qs=0→zd5 vs ps=zd5 vs qs
 | [],[],_=>rfl
 | [],_ :: _,h=>by cases h
 | _ :: _,[],h=>by cases h
 | p :: ps,q :: qs,h=>by
  unfold ze8 at h
  split at h
  ·rename_i e;exact absurd h e
  ·rename_i e
   have e:cmpP p q=0:=Classical.not_not.1 e
   have ih:=cmpPs_val vs h
   unfold cmpP at e
   have h1:zbn p.v q.v=0:=by
    unfold orZ at e;split at e
    ·rename_i e2;exact absurd e e2
    ·rename_i e2;exact Classical.not_not.1 e2
   have h2:zbn p.c.val q.c.val=0:=by
    unfold orZ at e;rw [if_neg (fun hh=>hh h1)] at e
    unfold orZ at e;split at e
    ·rename_i e2;exact absurd e e2
    ·rename_i e2;exact Classical.not_not.1 e2
   have h1':p.v=q.v:=by unfold zbn at h1;split at h1 <;> (try split at h1) <;> omega
   have h2':p.c.val=q.c.val:=by unfold zbn at h2;split at h2 <;> (try split at h2) <;> omega
   unfold zd5
   rw [ih,h1', h2']
theorem or2_zero {a b:Int} (h:orZ [a,b]=0):a=0∧b=0:=by
 unfold orZ at h
 split at h
 ·rename_i e;exact absurd h e
 ·rename_i e
  refine ⟨Classical.not_not.1 e,?_⟩
  unfold orZ at h
  split at h
  ·exact h
  ·rename_i e2;exact Classical.not_not.1 e2
theorem cmpT_val {s t:zbb} (h:cmpT s t=0) (vs:List ZI):zdr s vs=zdr t vs:=by
 obtain ⟨h1,h2⟩:=or2_zero h
 have h2':(za3 s).k.val=(za3 t).k.val:=by unfold zbn at h2;split at h2 <;> (try split at h2) <;> omega
 rw [← zd4 s,← zd4 t]
 unfold zdr
 rw [h2', cmpPs_val vs h1]
theorem cmpRl_ok {p r:zab} (h:zch p r=0) (vs:List ZI):zan vs p=zan vs r:=by
 obtain ⟨h1,h2⟩:=or2_zero h
 have e:p.eq=r.eq:=by
  unfold zdu at h2
  cases hp:p.eq <;> cases hr:r.eq <;> simp [hp,hr,zbn] at h2 ⊢
 unfold zan
 rw [e,cmpT_val h1 vs]
theorem cmpZ_refl (a:Int):zbn a a=0:=by unfold zbn;split <;> (try split) <;> omega
theorem cmpRl_cp (r:zab):zch (cpR r) r=0:=by
 unfold zch cpR
 rw [show cmpT (za3 r.t) r.t=0 from cmpT_eq (zcn _),show zdu ⟨za3 r.t,r.eq⟩=zdu r from rfl,cmpZ_refl];rfl
theorem idxB_nn {α:Type} (pr:α→Bool):∀ (xs:List α) (n:Nat),(0≤zgk pr xs n ↔ ∃ x ∈ xs,pr x=true)
 | [],n=>by unfold zgk;simp
 | x :: xs,n=>by
  unfold zgk
  split
  ·rename_i h;exact ⟨fun _=>⟨x,List.mem_cons_self .., h⟩,fun _=>Int.natCast_nonneg _⟩
  ·rename_i h
   rw [idxB_nn pr xs (n+1)]
   exact ⟨fun ⟨y,hy,hp⟩=>⟨y,List.mem_cons_of_mem _ hy,hp⟩,fun ⟨y,hy,hp⟩=>by
    rcases List.mem_cons.1 hy with rfl | hy
    ·exact absurd hp h
    ·exact ⟨y,hy,hp⟩⟩
theorem idxB_get {α:Type} (pr:α→Bool):∀ (xs:List α) (n:Nat),0≤zgk pr xs n→∃ j x,zgk pr xs n=((n+j:Nat):Int)∧xs[j]?=some x∧pr x=true
 | [],n,h=>by unfold zgk at h;omega
 | x :: xs,n,h=>by
  unfold zgk at h ⊢
  split
  ·rename_i e;exact ⟨0,x,rfl,rfl,e⟩
  ·rename_i e
   rw [if_neg e] at h
   obtain ⟨j,y,h1,h2,h3⟩:=idxB_get pr xs (n+1) h
   exact ⟨j+1,y,by rw [h1];congr 1;omega,h2,h3⟩
theorem atR_app {ps ys:List zab} {r:zab} (h:0≤atR ps r):0≤atR (ps++ys) r:=by
 unfold atR at h ⊢
 rw [idxB_nn] at h ⊢
 obtain ⟨x,hx,hp⟩:=h
 exact ⟨x,List.mem_append_left _ hx,hp⟩
theorem atR_new (ps:List zab) (r:zab):0≤atR (ps++[cpR r]) r:=by
 unfold atR
 rw [idxB_nn]
 exact ⟨cpR r,List.mem_append_right _ (List.mem_singleton_self _),by rw [cmpRl_cp];rfl⟩
theorem gath_pre (f:za1):∀ ps,∃ ys,f.gath ps=ps++ys :=
 za1.ind (P:=fun f=>∀ ps,∃ ys,f.gath ps=ps++ys) (fun k r ks ih ps=>by
  rw [za1.gath_eq]
  split
  ·exact ⟨_,rfl⟩
  ·have:∀ (xs:List za1),(∀ g ∈ xs,g ∈ ks)→∀ qs:List zab,∃ ys,xs.foldl (fun a g=>g.gath a) qs=qs++ys:=fun xs=>by
    induction xs with
    | nil=>intro _ qs;exact ⟨[],by simp⟩
    | cons x xs ihx =>
     intro hx qs
     obtain ⟨y1,h1⟩:=ih x (hx x (List.mem_cons_self ..)) qs
     obtain ⟨y2,h2⟩:=ihx (fun g hg=>hx g (List.mem_cons_of_mem _ hg)) (x.gath qs)
     exact ⟨y1++y2,by rw [List.foldl_cons,h2,h1,List.append_assoc]⟩
   exact this ks (fun g hg=>hg) ps) f
theorem foldG_pre (xs:List za1) (qs:List zab):∃ ys,xs.foldl (fun a g=>g.gath a) qs=qs++ys:=by
 induction xs generalizing qs with
 | nil=>exact ⟨[],by simp⟩
 | cons x xs ih =>
  obtain ⟨y1,h1⟩:=gath_pre x qs
  obtain ⟨y2,h2⟩:=ih (x.gath qs)
  exact ⟨y1++y2,by rw [List.foldl_cons,h2,h1,List.append_assoc]⟩
def za1.inn (ps:List zab) (f:za1):Prop:=f.fold fun k r _ hs=>(k=2→0≤atR ps r)∧(k≠2→∀ h ∈ hs,h)
theorem za1.inn_eq (ps:List zab) (f:za1):f.inn ps ↔ (f.kind=2→0≤atR ps f.r)∧(f.kind≠2→∀ g ∈ f.kids,g.inn ps):=by
 have:=za1.fold_eq (fun k r _ (hs:List Prop)=>(k=2→0≤atR ps r)∧(k≠2→∀ h ∈ hs,h)) f
 unfold za1.inn
 rw [this]
 refine and_congr_right fun _=>⟨fun h e g hg=>h e _ (List.mem_map.2 ⟨g,hg,rfl⟩),fun h e p hp=>?_⟩
 obtain ⟨g,hg,rfl⟩:=List.mem_map.1 hp
 exact h e g hg
theorem inn_app {ps:List zab} (ys:List zab) (f:za1):f.inn ps→f.inn (ps++ys) :=
 za1.ind (P:=fun f=>f.inn ps→f.inn (ps++ys)) (fun k r ks ih h=>by
  rw [za1.inn_eq] at h ⊢
  exact ⟨fun e=>atR_app (h.1 e),fun e g hg=>ih g hg (h.2 e g hg)⟩) f
theorem gath_inn (f:za1):∀ ps,f.inn (f.gath ps) :=
 za1.ind (P:=fun f=>∀ ps,f.inn (f.gath ps)) (fun k r ks ih ps=>by
  rw [za1.inn_eq,za1.gath_eq]
  have key:∀ (xs:List za1),(∀ g ∈ xs,g ∈ ks)→∀ qs:List zab,∀ g ∈ xs,g.inn (xs.foldl (fun a g=>g.gath a) qs):=fun xs=>by
   induction xs with
   | nil=>intro _ qs g hg;cases hg
   | cons x xs ihx =>
    intro hx qs g hg
    rw [List.foldl_cons]
    rcases List.mem_cons.1 hg with rfl | hg
    ·obtain ⟨ys,h⟩:=foldG_pre xs (g.gath qs)
     rw [h];exact inn_app ys g (ih g (hx g (List.mem_cons_self ..)) qs)
    ·exact ihx (fun g hg=>hx g (List.mem_cons_of_mem _ hg)) _ g hg
  split
  ·rename_i e
   exact ⟨fun _=>atR_new _ _,fun e2=>absurd e.1 e2⟩
  ·rename_i e
   refine ⟨fun e2=>?_,fun _=>key ks (fun g hg=>hg) ps⟩
   obtain ⟨ys,h⟩:=foldG_pre ks ps
   show 0≤atR (ks.foldl _ ps) r
   rw [h]
   exact atR_app (by
    have:¬ atR ps r<0:=fun h=>e ⟨e2,h⟩
    omega)) f
def za1.fl (f:za1):Prop:=f.fold fun k _ _ hs=>(k=0∨k=1∨k=2∨k=4∨k=5)∧∀ h ∈ hs,h
theorem za1.fl_eq (f:za1):f.fl ↔ (f.kind=0∨f.kind=1∨f.kind=2∨f.kind=4∨f.kind=5)∧∀ g ∈ f.kids,g.fl:=by
 have:=za1.fold_eq (fun k _ _ (hs:List Prop)=>(k=0∨k=1∨k=2∨k=4∨k=5)∧∀ h ∈ hs,h) f
 unfold za1.fl
 rw [this]
 refine and_congr_right fun _=>⟨fun h g hg=>h _ (List.mem_map.2 ⟨g,hg,rfl⟩),fun h p hp=>?_⟩
 obtain ⟨g,hg,rfl⟩:=List.mem_map.1 hp
 exact h g hg
theorem fl_tru (b:Bool):(zdq b).fl:=by rw [za1.fl_eq];exact ⟨by cases b;exact .inr (.inl rfl);exact .inl rfl,fun g hg=>by cases hg⟩
theorem fl_tight (r:zab):(zaq r).fl:=by
 unfold zaq;split
 ·rw [za1.fl_eq];exact ⟨.inr (.inr (.inl rfl)),fun g hg=>by cases hg⟩
 ·exact fl_tru _
theorem zep {k:Int} (hk:k=4∨k=5):∀ (fs out:List za1),(∀ g ∈ out,g.fl)→(∀ g ∈ fs,g.fl)→(zbm k fs out).fl
 | [],out,h,_=>by
  unfold zbm
  match out with
  | []=>exact fl_tru _
  | [g]=>exact h g (List.mem_cons_self ..)
  | g :: q :: l=>rw [za1.fl_eq];exact ⟨by rcases hk with hk | hk <;> subst hk;exact .inr (.inr (.inr (.inl rfl)));exact .inr (.inr (.inr (.inr rfl))),h⟩
 | f :: fs,out,h,h2=>by
  rw [zbm]
  have hf:=h2 f (List.mem_cons_self ..)
  have hfs:∀ g ∈ fs,g.fl:=fun g hg=>h2 g (List.mem_cons_of_mem _ hg)
  split
  ·exact hf
  ·split
   ·exact zep hk fs out h hfs
   ·split
    ·exact zep hk fs _ (fun g hg=>(List.mem_append.1 hg).elim (h g) fun hg=>((za1.fl_eq _).1 hf).2 g hg) hfs
    ·exact zep hk fs _ (fun g hg=>(List.mem_append.1 hg).elim (h g) fun hg=>by rw [List.mem_singleton.1 hg];exact hf) hfs
theorem flat_fl (f:za1):∀ d,(f.flat d).fl :=
 za1.ind (P:=fun f=>∀ d,(f.flat d).fl) (fun k r ks ih d=>by
  rw [za1.flat_eq]
  show (zgl k r (ks.map za1.flat) d).fl
  unfold zgl
  split
  ·exact fl_tru _
  ·split
   ·split
    ·refine zep (.inr rfl) _ [] (fun g hg=>by cases hg) fun g hg=>?_
     obtain ⟨q,hq,rfl⟩:=List.mem_map.1 hg
     exact fl_tight q
    ·exact fl_tight r
   ·split
    ·cases ks with
     | nil=>exact fl_tru _
     | cons g gs=>exact ih g (List.mem_cons_self ..) (!d)
    ·split
     ·rename_i h4
      refine zep (by cases d <;> simp <;> omega) _ [] (fun g hg=>by cases hg) fun g hg=>?_
      rw [List.map_map] at hg
      obtain ⟨q,hq,rfl⟩:=List.mem_map.1 hg
      exact ih q hq d
     ·exact fl_tru _) f
theorem atR_bit {ps:List zab} {r:zab} (h:0≤atR ps r) (vs:List ZI):∃ i:Nat,atR ps r=(i:Int)∧(ps.map (zan vs))[i]?=some (zan vs r):=by
 obtain ⟨j,x,h1,h2,h3⟩:=idxB_get _ ps 0 h
 refine ⟨j,by unfold atR;rw [h1,Nat.zero_add],?_⟩
 rw [List.getElem?_map,h2]
 show some _=_
 rw [cmpRl_ok (by simpa using h3) vs]
theorem tru_holdsF {ps:List zab} (vs:List ZI) (f:za1):f.fl→f.inn ps→f.tru ps (ps.map (zan vs))=(f.holds vs,true) :=
 za1.ind (P:=fun f=>f.fl→f.inn ps→f.tru ps (ps.map (zan vs))=(f.holds vs,true)) (fun k r ks ih hfl hin=>by
  obtain ⟨hk,hks⟩:=(za1.fl_eq _).1 hfl
  obtain ⟨h2,h3⟩:=(za1.inn_eq _ _).1 hin
  change k=0∨k=1∨k=2∨k=4∨k=5 at hk
  change k=2→0≤atR ps r at h2
  change k≠2→∀ g ∈ ks,g.inn ps at h3
  by_cases e01:k=0∨k=1
  ·rw [tru_01 (f:=⟨k,r,ks⟩) e01,za1.holds_eq]
   show (k == 0,true)=(if k=0 then true else if k=2 then _ else if k=3 then _ else if k=4 then _ else if k=5 then _ else false,true)
   rcases e01 with e | e <;> subst e <;> rfl
  ·by_cases e2:k=2
   ·obtain ⟨i,hi,hb⟩:=atR_bit (h2 e2) vs
    rw [tru_at (f:=⟨k,r,ks⟩) e2 hi hb,za1.holds_eq]
    show (zan vs r,true)=(if k=0 then true else if k=2 then zan vs r else _,true)
    rw [if_neg (by omega),if_pos e2]
   ·have key:∀ (xs:List za1),(∀ g ∈ xs,g ∈ ks)→∀ b:Bool,xs.foldl (fun a g=>zb8 k a (g.tru ps (ps.map (zan vs)))) (b,true)=(if k=4 then b && xs.all (za1.holds vs) else b || xs.any (za1.holds vs),true):=fun xs=>by
     induction xs with
     | nil=>intro _ b;simp
     | cons x xs ihx =>
      intro hx b
      have hm:=hx x (List.mem_cons_self ..)
      rw [List.foldl_cons,ih x hm (hks x hm) (h3 e2 x hm)]
      rw [show zb8 k (b,true) (x.holds vs,true)=(if k=4 then b && x.holds vs else b || x.holds vs,true) from rfl,ihx fun g hg=>hx g (List.mem_cons_of_mem _ hg)]
      rw [List.all_cons,List.any_cons]
      split <;> simp [Bool.and_assoc,Bool.or_assoc]
    rw [tru_fold (f:=⟨k,r,ks⟩) (fun e=>e01 (.inl e)) (fun e=>e01 (.inr e)) e2]
    show ks.foldl (fun a g=>zb8 k a (g.tru ps (ps.map (zan vs)))) (k == 4,true)=_
    rw [key ks (fun g hg=>hg),za1.holds_eq]
    show _=(if k=0 then true else if k=2 then zan vs r else if k=3 then _ else if k=4 then ks.all (za1.holds vs) else if k=5 then ks.any (za1.holds vs) else false,true)
    rw [if_neg (fun e=>e01 (.inl e)),if_neg e2,if_neg (show ¬ k=3 by omega)]
    by_cases e4:k=4
    ·rw [if_pos e4,if_pos e4];subst e4;simp
    ·rw [if_neg e4,if_neg e4,if_pos (show k=5 by omega),show (k == 4)=false by simpa using e4,Bool.false_or]) f
theorem gath_allP {n L:Nat} {P:zab→Prop} (hP:∀ r,TOk n L r.t→P (cpR r)) (f:za1):f.okA n L→∀ ps,(∀ r ∈ ps,P r)→∀ r ∈ f.gath ps,P r :=
 za1.ind (P:=fun f=>f.okA n L→∀ ps,(∀ r ∈ ps,P r)→∀ r ∈ f.gath ps,P r) (fun k r ks ih hf ps hps=>by
  obtain ⟨h1,h2⟩:=(za1.okA_eq _ _ _).1 hf
  rw [za1.gath_eq]
  split
  ·rename_i e
   intro q hq
   rcases List.mem_append.1 hq with hq | hq
   ·exact hps q hq
   ·rw [List.mem_singleton.1 hq];exact hP r (h1 e.1)
  ·have:∀ (xs:List za1),(∀ g ∈ xs,g ∈ ks)→∀ qs:List zab,(∀ r ∈ qs,P r)→∀ r ∈ xs.foldl (fun a g=>g.gath a) qs,P r:=fun xs=>by
    induction xs with
    | nil=>intro _ qs h;exact h
    | cons x xs ihx =>
     intro hx qs h
     rw [List.foldl_cons]
     exact ihx (fun g hg=>hx g (List.mem_cons_of_mem _ hg)) _ (ih x (hx x (List.mem_cons_self ..)) (h2 x (hx x (List.mem_cons_self ..))) qs h)
   exact this ks (fun g hg=>hg) ps hps) f
theorem sizeGo_ge {lim:Int}:∀ (ks:List za1) (n:Int),n≤zc6 lim (ks.map za1.size) n
 | [],n=>Int.le_refl _
 | g :: ks,n=>by
  rw [List.map_cons,zc6]
  split
  ·rename_i h
   have h1:=sizeGo_ge (lim:=lim) ks (n+g.size (lim - n))
   have h2:=(g.size_bd (lim - n) (by omega)).1
   omega
  ·exact Int.le_refl _
theorem size_wid (f:za1):∀ lim:Int,0≤lim→f.size lim≤lim→(f.wid:Int)≤3*f.size lim :=
 za1.ind (P:=fun f=>∀ lim:Int,0≤lim→f.size lim≤lim→(f.wid:Int)≤3*f.size lim) (fun k r ks ih lim hl h=>by
  rw [za1.size_eq] at h ⊢
  rw [za1.wid_eq]
  have key:∀ (xs:List za1),(∀ g ∈ xs,g ∈ ks)→∀ n:Int,zc6 lim (xs.map za1.size) n≤lim→(((xs.map za1.wid).sum:Nat):Int)≤3*(zc6 lim (xs.map za1.size) n - n):=fun xs=>by
   induction xs with
   | nil=>intro _ n _;show (0:Int)≤3*(n - n);omega
   | cons x xs ihx =>
    intro hx n hn
    rw [List.map_cons,zc6] at hn
    rw [List.map_cons,List.map_cons,List.sum_cons,zc6]
    split at hn
    ·rename_i e
     rw [if_pos e]
     have h1:=sizeGo_ge (lim:=lim) xs (n+x.size (lim - n))
     have h2:=ih x (hx x (List.mem_cons_self ..)) (lim - n) (by omega) (by omega)
     have h3:=ihx (fun g hg=>hx g (List.mem_cons_of_mem _ hg)) _ hn
     omega
    ·omega
  have:=key (cnt k ks) (fun g hg=>zbx hg) 1 h
  show (((3+((cnt k ks).map za1.wid).sum:Nat)):Int)≤3*zc6 lim ((cnt k ks).map za1.size) 1
  omega) f
theorem ok_okB {L:Nat} (f:za1):f.ok L→f.lb→f.wid≤1000000→f.okB 20 L :=
 za1.ind (P:=fun f=>f.ok L→f.lb→f.wid≤1000000→f.okB 20 L) (fun k r ks ih h1 h2 h3=>by
  rw [za1.okB_eq]
  have o1:=(za1.ok_eq _ _).1 h1
  have o2:=(za1.lb_eq _).1 h2
  refine ⟨⟨o1.1,o2.1.2,?_⟩,fun g hg=>ih g (zbx hg) (o1.2 g hg) (o2.2 g (zbx hg)) (Nat.le_trans (wid_kid hg) h3)⟩
  rw [za1.wid_eq] at h3
  have:∀ xs:List za1,xs.length≤(xs.map za1.wid).sum:=fun xs=>by
   induction xs with
   | nil=>exact Nat.le_refl _
   | cons x xs ih=>rw [List.map_cons,List.sum_cons,List.length_cons,za1.wid_eq];omega
  have:=this (cnt k ks)
  change 3+((cnt k ks).map za1.wid).sum≤1000000 at h3
  show (cnt k ks).length≤1000000
  omega) f
theorem fewF_okB {f:za1} (h:fewF f 20 3=true) (hl:f.lb):f.okB 20 3∧f.wid≤60:=by
 have ho:f.ok 3:=fewF_ok (L:=3) h hl
 unfold fewF at h
 rw [Bool.and_eq_true] at h
 have h1:f.size 20≤20:=by have:=h.1;simpa using this
 have hw:=size_wid f 20 (by decide) h1
 have hw:f.wid≤60:=by omega
 exact ⟨ok_okB f ho hl (by omega),hw⟩
theorem few21_props {props:List zag} {ps:List zab} {xs:List ze2} (h:zf4 props ps xs=true) (hl:∀ p ∈ props,p.f.lb):props.length≤6∧∀ p ∈ props,p.f.okB 20 3∧p.f.wid≤60:=by
 unfold zf4 at h
 simp only [Bool.and_eq_true,List.all_eq_true,decide_eq_true_eq] at h
 exact ⟨h.2.2.1,fun p hp=>fewF_okB (h.1 p hp) (hl p hp)⟩
theorem props_ok {props:List zag} (h:props.length≤6∧∀ p ∈ props,p.f.okB 20 3∧p.f.wid≤60):zgr props :=
 ⟨by omega,fun p hp _=>⟨za1.okB_mono (by decide) (by decide) _ (h.2 p hp).1,Nat.le_trans (h.2 p hp).2 (by decide)⟩⟩
theorem base_tok {props:List zag} (h:∀ p ∈ props,p.f.okB 20 3∧p.f.wid≤60):∀ r ∈ zcf props,TOk 20 33 r.t:=by
 have key:∀ (xs:List zag),(∀ p ∈ xs,p.f.okB 20 3∧p.f.wid≤60)→∀ a:List zab,(∀ r ∈ a,TOk 20 33 r.t)→∀ r ∈ xs.foldl zaj a,TOk 20 33 r.t:=fun xs=>by
  induction xs with
  | nil=>intro _ a ha;exact ha
  | cons x xs ih =>
   intro hx a ha
   rw [List.foldl_cons]
   refine ih (fun p hp=>hx p (List.mem_cons_of_mem _ hp)) _ ?_
   unfold zaj
   split
   ·exact ha
   ·exact gath_allP (n:=20) (L:=32) (P:=fun r=>TOk 20 33 r.t) (fun r hr=>hr.plain (by decide)) _ (flat_okA (by decide) x.f (hx x (List.mem_cons_self ..)).1 false) a ha
 exact key props h [] (fun r hr=>by cases hr)
theorem baseStep_pre (a:List zab) (p:zag):∃ ys,zaj a p=a++ys:=by
 unfold zaj;split
 ·exact ⟨[],by simp⟩
 ·exact gath_pre _ _
theorem baseF_pre (xs:List zag) (a:List zab):∃ ys,xs.foldl zaj a=a++ys:=by
 induction xs generalizing a with
 | nil=>exact ⟨[],by simp⟩
 | cons x xs ih =>
  obtain ⟨y1,h1⟩:=baseStep_pre a x
  obtain ⟨y2,h2⟩:=ih (zaj a x)
  exact ⟨y1++y2,by rw [List.foldl_cons,h2,h1,List.append_assoc]⟩
theorem base_inn {props:List zag} {p:zag} (hp:p ∈ props) (ha:p.at_=false):(p.f.flat false).inn (zcf props):=by
 have key:∀ (xs:List zag) (a:List zab),p ∈ xs→(p.f.flat false).inn (xs.foldl zaj a):=fun xs=>by
  induction xs with
  | nil=>intro a h;cases h
  | cons x xs ih =>
   intro a h
   rw [List.foldl_cons]
   rcases List.mem_cons.1 h with rfl | h
   ·obtain ⟨ys,h⟩:=baseF_pre xs (zaj a p)
    rw [h]
    refine inn_app ys _ ?_
    unfold zaj
    rw [if_neg (by rw [ha];exact Bool.noConfusion)]
    exact gath_inn _ a
   ·exact ih _ h
 exact key props [] hp
theorem letter_law (props:List zag) (x:StD):zbe props (zcf props) (ofA (zcf props) x)=(zem props x,true):=by
 have h:∀ p ∈ props,zas (zcf props) (ofA (zcf props) x) p=(zao p x,true):=fun p hp=>by
  unfold zas zao
  cases ha:p.at_ with
  | true=>rw [if_pos rfl,if_pos rfl];rfl
  | false =>
   rw [if_neg Bool.noConfusion,if_neg Bool.noConfusion]
   show (p.f.flat false).tru (zcf props) ((zcf props).map (zan x.vals))=_
   rw [tru_holdsF x.vals _ (flat_fl _ _) (base_inn hp ha),flat_holds]
   cases p.f.holds x.vals <;> rfl
 unfold zbe zem
 rw [if_pos (List.all_eq_true.2 fun p hp=>by rw [h p hp])]
 congr 1
 exact List.map_congr_left fun p hp=>by rw [h p hp]
end
section
open Go.RowKit
end
section
open Go.RowKit

section
variable {w:World} {n:Nat} {H:Type} {enc:TypeId × Value→H} {base fuel:Nat} {spare:Nat→Bool} {held:Bool}
theorem rep_Prop:zfq w n 62 zag.d (fun p=>p.f.lb) :=
 ((zcl (n:=n) Tryz.underlying62 (by kernel_rfl) (.cons (k0:=1) rfl (by kernel_rfl) (rep_bool Tryz.underlying4) (.cons (k0:=1) rfl (by kernel_rfl) (rep_i64 Tryz.underlying3) (.cons (k0:=1) rfl (by kernel_rfl) (rep_i64 Tryz.underlying3) (.cons (k0:=6) rfl (by kernel_rfl) rep_Form .nil))))).map (fun p=>⟨p.1,p.2.1,p.2.2.1,p.2.2.2.1⟩) (fun _=>by rw [za1.d_eq];rfl) fun _ h=>h.2.2.2.1).mono (Nat.le_succ n)
theorem rep_Props:zfq w n 22 (slD 9 zag.d) (fun xs=>xs.length≤maxLen∧∀ x ∈ xs,x.f.lb) :=
 zdt (k:=9) Tryz.underlying22 (by kernel_rfl) (by decide) (fun _=>rfl) rep_Prop
end
end
section
open Go.RowKit

theorem lq17_14:za7 Tryz.prog 16:=za7.mk' (by kernel_rfl)
def PsOkW (ps:List zab):Prop:=ps.length≤1000∧∀ r ∈ ps,TokR 100 r
theorem PsOkW.tok {ps:List zab} (h:PsOkW ps):ps.length≤1000000∧∀ p ∈ ps,TOk 200 3000 p.t:=⟨Nat.le_trans h.1 (by decide),fun p hp=>(h.2 p hp).mono (by decide) (by decide)⟩
theorem same_end {xs ys:List Bool} {j:Nat} (h:xs.length≤j) (hl:xs.length=ys.length) (hI:xs.take j=ys.take j):xs=ys:=by rwa [List.take_of_length_le h,List.take_of_length_le (by omega)] at hI
theorem same_at {xs ys:List Bool} {j:Nat} {x y:Bool} (hx:xs[j]?=some x) (hy:ys[j]?=some y) (hI:xs.take j=ys.take j) (e:x=y):xs.take (j+1)=ys.take (j+1):=by rw [List.take_add_one,List.take_add_one,hx,hy,hI,e]
theorem same_no {xs ys:List Bool} {j:Nat} {x y:Bool} (hx:xs[j]?=some x) (hy:ys[j]?=some y) (e:x≠y):xs≠ys:=fun h=>by subst h;rw [hx] at hy;injection hy with hy;exact e hy
set_option maxHeartbeats 4000000 in
theorem LabsOfW (ps:List zab) (x:StD) (hps:PsOkW ps) (hx:StOk 10 x):Fn Tryz.prog 23 [] [(vRs ps),.t (.agg [cIs x.locs,cZs x.vals])] (.t (.agg [cIs (ofA ps x).locs,.d (.sl 1 ((ofA ps x).bits.map za5))])) []:=by
 have lps:=hps.1
 have lxl:=hx.locs
 refine Fn.body Tryz.func23 rfl 29 rfl fun w H B a h=>?_
 refine rq za0 5 [] [(0,(vRs ps)),(3,vp 5 0),(4,vp 6 0)] [(5,.box [cIs x.locs,cZs x.vals]),(6,.box [.d (.raw za6),.d (.raw za6)])] h ?_;clear h;intro a w h
 refine rq za0 7 [(2,.call (SCloneI x.locs (by omega)) le5_0)] [(0,(vRs ps)),(3,vp 5 0),(4,vp 6 0),(5,vp 7 0)] [(5,.box [cIs x.locs,cZs x.vals]),(6,.box [.d (.raw za6),.d (.raw za6)]),(0,.row 3 1 (x.locs.map zbo)),(7,.box [.own 0 x.locs.length,.d (.raw za6)])] h ?_;clear h;intro a w h
 refine wp_seq (rq za0 8 [(1,.len (c:=(cRs ps)) (n:=ps.length) (zae _ _ _))] [(3,vp 5 0),(4,vp 6 0),(5,vp 7 0),(12,(vRs ps)),(13,vi .i64 (ps.length:Int)),(14,vi .i64 0)] [(5,.box [cIs x.locs,cZs x.vals]),(6,.box [.d (.raw za6),.d (.raw za6)]),(0,.row 3 1 (x.locs.map zbo)),(7,.box [.own 0 x.locs.length,.d (.raw za6)])] h ?_);clear h;intro a w h
 refine wp_block ?_
 replace h:=nilOLs 7 1 8 1 4 [.own 0 x.locs.length,.d (.raw za6)] [(3,vp 5 0),(4,vp 6 0),(5,vp 7 0),(12,(vRs ps)),(13,vi .i64 (ps.length:Int)),(14,vi .i64 0)] [(5,.box [cIs x.locs,cZs x.vals]),(6,.box [.d (.raw za6),.d (.raw za6)]),(0,.row 3 1 (x.locs.map zbo)),(7,.box [.own 0 x.locs.length,.own 8 0]),(8,.row 4 1 ([].map za5))] h (by kernel_rfl) rfl rfl
 replace h:=h.conv (f':=F.of [(3,vp 5 0),(4,vp 6 0),(5,vp 7 0),(12,(vRs ps)),(13,vi .i64 (ps.length:Int)),(14,vi .i64 0)] [(5,.box [cIs x.locs,cZs x.vals]),(6,.box [.d (.raw za6),.d (.raw za6)]),(0,.row 3 1 (x.locs.map zbo)),(7,.box [.own 0 x.locs.length,.own 8 0]),(8,.row 4 1 (((ps.take 0).map (zan x.vals)).map za5))]) (congrArg (fun (z_:List Bool)=>F.of [(3,vp 5 0),(4,vp 6 0),(5,vp 7 0),(12,(vRs ps)),(13,vi .i64 (ps.length:Int)),(14,vi .i64 0)] [(5,.box [cIs x.locs,cZs x.vals]),(6,.box [.d (.raw za6),.d (.raw za6)]),(0,.row 3 1 (x.locs.map zbo)),(7,.box [.own 0 x.locs.length,.own 8 0]),(8,.row 4 1 (z_.map za5))]) (show ([]:List Bool)=((ps.take 0).map (zan x.vals)) from (by simp)))
 refine zb1 (ι:=(Nat)) (fun (z_:(Nat))=>match z_ with | j=>j≤ps.length)
   (fun (z_:(Nat))=>match z_ with | j=>[(3,vp 5 0),(4,vp 6 0),(5,vp 7 0),(12,(vRs ps)),(13,vi .i64 (ps.length:Int)),(14,vi .i64 (j:Int))])
   (fun (z_:(Nat))=>match z_ with | j=>[(5,.box [cIs x.locs,cZs x.vals]),(6,.box [.d (.raw za6),.d (.raw za6)]),(0,.row 3 1 (x.locs.map zbo)),(7,.box [.own 0 x.locs.length,.own 8 ((ps.take j).map (zan x.vals)).length]),(8,.row 4 1 (((ps.take j).map (zan x.vals)).map za5))])
   (fun (z_:(Nat))=>match z_ with | j=>ps.length - j) 0 ?_ h (by kernel_rfl) (by kernel_rfl) ?_
 ·exact Nat.zero_le _
 ·clear h;rintro j a w hI h
  change St _ (F.of [(3,vp 5 0),(4,vp 6 0),(5,vp 7 0),(12,(vRs ps)),(13,vi .i64 (ps.length:Int)),(14,vi .i64 (j:Int))] [(5,.box [cIs x.locs,cZs x.vals]),(6,.box [.d (.raw za6),.d (.raw za6)]),(0,.row 3 1 (x.locs.map zbo)),(7,.box [.own 0 x.locs.length,.own 8 ((ps.take j).map (zan x.vals)).length]),(8,.row 4 1 (((ps.take j).map (zan x.vals)).map za5))]) a w at h
  have lmj:((ps.take j).map (zan x.vals)).length≤j:=by rw [List.length_map,List.length_take];omega
  refine rq za0 9 [] [(3,vp 5 0),(4,vp 6 0),(5,vp 7 0),(12,(vRs ps)),(13,vi .i64 (ps.length:Int)),(14,vi .i64 (j:Int)),(15,vb (decide ((j:Int)<(ps.length:Int))))] [(5,.box [cIs x.locs,cZs x.vals]),(6,.box [.d (.raw za6),.d (.raw za6)]),(0,.row 3 1 (x.locs.map zbo)),(7,.box [.own 0 x.locs.length,.own 8 ((ps.take j).map (zan x.vals)).length]),(8,.row 4 1 (((ps.take j).map (zan x.vals)).map za5))] h ?_;clear h;intro a w h
  refine wp_seq ?_
  refine zaa (decide ((j:Int)<(ps.length:Int))) h rfl (fun hc=>?_) (fun hc=>?_)
  ·have hc1:=hc;clear hc
   have hc1':=of_decide_eq_true hc1
   refine wp_skip (za4 (wp_seq (wp_block ?_)))
   obtain ⟨x2,hx2⟩:∃ z_:zab,ps[j]?=some z_:=⟨_,List.getElem?_eq_getElem (by first | omega | (simp at *;omega))⟩
   refine rq za0 9 [(0,.gen _ _ _ fun _ _ _ _=>Op.idxD (d:=16) (t:=12) (k := .i64) kc_3 (zal hx2 (f:=zab.d)) (OV.tmp 14 _))] [(3,vp 5 0),(4,vp 6 0),(5,vp 7 0),(7,vp 9 0),(12,(vRs ps)),(13,vi .i64 (ps.length:Int)),(14,vi .i64 (j:Int))] [(5,.box [cIs x.locs,cZs x.vals]),(6,.box [.d (.raw za6),.d (.raw za6)]),(0,.row 3 1 (x.locs.map zbo)),(7,.box [.own 0 x.locs.length,.own 8 ((ps.take j).map (zan x.vals)).length]),(8,.row 4 1 (((ps.take j).map (zan x.vals)).map za5)),(9,.box (zR_ x2))] h ?_;clear h;intro a w h
   refine rn za0 10 [(5,.call (SrelHolds x2 x.vals (L:=100) (M:=10) (by decide) hx.vok (hps.2 x2 (List.mem_of_getElem? hx2))) ke_11),(6,.gen _ _ _ fun _ _ _ _=>Op.buildD (d:=24) (len:=1) (rows:=[zan x.vals x2].map za5) (rs:=[(23,vb (zan x.vals x2))]) zfj (.cons (i:=0) (OV.tmp 23 _) (.nil)) (by kernel_rfl) rfl (by simp [za5]) (by decide) (by decide)),(7,.gen _ _ _ fun _ _ _ _=>Op.appOD (d:=25) (t:=19) (u:=24) (n:=8) (n':=10) (len:=((ps.take j).map (zan x.vals)).length) (len':=(((ps.take j).map (zan x.vals))++[zan x.vals x2]).length) (rows:=((ps.take j).map (zan x.vals)).map za5) (rows2:=[zan x.vals x2].map za5) (rows':=(((ps.take j).map (zan x.vals))++[zan x.vals x2]).map za5) zh7 (by first | exact (List.length_map _).symm | simp) (by first | (rw [List.length_append,List.length_map];done) | simp) (by simp) (by simp [za5]) (by first | omega | (simp at *;done) | (simp at *;omega)))] [(3,vp 5 0),(4,vp 6 0),(5,vp 7 0),(12,(vRs ps)),(13,vi .i64 (ps.length:Int)),(14,vi .i64 (j:Int))] [(5,.box [cIs x.locs,cZs x.vals]),(6,.box [.d (.raw za6),.d (.raw za6)]),(0,.row 3 1 (x.locs.map zbo)),(7,.box ([.own 0 x.locs.length,.own 10 (((ps.take j).map (zan x.vals))++[zan x.vals x2]).length])),(10,.row 4 1 ((((ps.take j).map (zan x.vals))++[zan x.vals x2]).map za5))] h ?_;clear h;intro a w h
   refine zac (za4 (rn za0 11 [(0,.add .i64 (m:=(j:Int)) (n:=1) (zad (by omega) (by omega)))] [(3,vp 5 0),(4,vp 6 0),(5,vp 7 0),(12,(vRs ps)),(13,vi .i64 (ps.length:Int)),(14,vi .i64 ((j:Int)+1))] [(5,.box [cIs x.locs,cZs x.vals]),(6,.box [.d (.raw za6),.d (.raw za6)]),(0,.row 3 1 (x.locs.map zbo)),(7,.box ([.own 0 x.locs.length,.own 10 (((ps.take j).map (zan x.vals))++[zan x.vals x2]).length])),(10,.row 4 1 ((((ps.take j).map (zan x.vals))++[zan x.vals x2]).map za5))] h ?_));clear h;intro a w h
   refine za4 ?_
   replace h:=h.conv (f':=F.of [(3,vp 5 0),(4,vp 6 0),(5,vp 7 0),(12,(vRs ps)),(13,vi .i64 (ps.length:Int)),(14,vi .i64 ((j:Int)+1))] [(5,.box [cIs x.locs,cZs x.vals]),(6,.box [.d (.raw za6),.d (.raw za6)]),(0,.row 3 1 (x.locs.map zbo)),(7,.box [.own 0 x.locs.length,.own 10 ((ps.take (j+1)).map (zan x.vals)).length]),(10,.row 4 1 (((ps.take (j+1)).map (zan x.vals)).map za5))]) (congrArg (fun (z_:List Bool)=>F.of [(3,vp 5 0),(4,vp 6 0),(5,vp 7 0),(12,(vRs ps)),(13,vi .i64 (ps.length:Int)),(14,vi .i64 ((j:Int)+1))] [(5,.box [cIs x.locs,cZs x.vals]),(6,.box [.d (.raw za6),.d (.raw za6)]),(0,.row 3 1 (x.locs.map zbo)),(7,.box [.own 0 x.locs.length,.own 10 z_.length]),(10,.row 4 1 (z_.map za5))]) (show ((((ps.take j).map (zan x.vals))++[zan x.vals x2]):List Bool)=((ps.take (j+1)).map (zan x.vals)) from (zc1 hx2)))
   replace h:=zc7 10 8 [(3,vp 5 0),(4,vp 6 0),(5,vp 7 0),(12,(vRs ps)),(13,vi .i64 (ps.length:Int)),(14,vi .i64 ((j:Int)+1))] [(5,.box [cIs x.locs,cZs x.vals]),(6,.box [.d (.raw za6),.d (.raw za6)]),(0,.row 3 1 (x.locs.map zbo)),(7,.box [.own 0 x.locs.length,.own 8 ((ps.take (j+1)).map (zan x.vals)).length]),(8,.row 4 1 (((ps.take (j+1)).map (zan x.vals)).map za5))] h
   refine zam (x:=j) (y:=j+1) h ?_ ?_
   ·have:=zak hx2
    show j+1≤ps.length
    omega
   ·show ps.length - (j+1)<ps.length - j
    have:=zak hx2;omega
  ·have hc2:=hc;clear hc
   have hc2':=of_decide_eq_false hc2
   refine wp_exit (zai (zai (za8 (za4 (rq za0 11 [] [(4,vp 6 0)] [(6,.box [.own 0 x.locs.length,.own 8 ((ps.take j).map (zan x.vals)).length]),(0,.row 3 1 (x.locs.map zbo)),(8,.row 4 1 (((ps.take j).map (zan x.vals)).map za5))] h ?_)))));clear h;intro a w h
   refine wp_ret ?_
   replace h:=h.conv (f':=F.of [(4,vp 6 0)] [(6,.box [.own 0 x.locs.length,.own 8 (ps.map (zan x.vals)).length]),(0,.row 3 1 (x.locs.map zbo)),(8,.row 4 1 ((ps.map (zan x.vals)).map za5))]) (congrArg (fun (z_:List Bool)=>F.of [(4,vp 6 0)] [(6,.box [.own 0 x.locs.length,.own 8 z_.length]),(0,.row 3 1 (x.locs.map zbo)),(8,.row 4 1 (z_.map za5))]) (show (((ps.take j).map (zan x.vals)):List Bool)=(ps.map (zan x.vals)) from (by rw [List.take_of_length_le (by omega)])))
   replace h:=pubS 0 1 3 (x.locs.map zbo) [(4,vp 6 0)] [(6,.box [cIs x.locs,.own 8 (ps.map (zan x.vals)).length]),(8,.row 4 1 ((ps.map (zan x.vals)).map za5))] h rfl trivial (show zc5 _ [x.locs.length] from ⟨by first | exact (List.length_map _).symm | (simp;done) | (simp;omega),trivial⟩)
   replace h:=pubS 8 1 4 ((ps.map (zan x.vals)).map za5) [(4,vp 6 0)] [(6,.box [cIs x.locs,.d (.sl 1 ((ps.map (zan x.vals)).map za5))])] h rfl trivial (show zc5 _ [(ps.map (zan x.vals)).length] from ⟨by first | exact (List.length_map _).symm | (simp;done) | (simp;omega),trivial⟩)
   refine zap [.agg [cIs x.locs,.d (.sl 1 ((ps.map (zan x.vals)).map za5))]] h Exit.ret (.inl rfl)  rfl ⟨RV.agg _ 6 0 _ _ _ _ le5_5 rfl rfl rfl rfl,trivial⟩ ?_
   rfl
set_option maxHeartbeats 4000000 in
theorem LSameBits (xs ys:List Bool) (hx:xs.length≤9223372036854775807) (hy:ys.length≤9223372036854775807):Fn Tryz.prog 16 [] [.t (.c (.d (.sl 1 (xs.map za5)))),.t (.c (.d (.sl 1 (ys.map za5))))] (vb (decide (xs=ys))) []:=by
 refine Fn.body Tryz.func16 rfl 26 rfl fun w H B a h=>?_
 refine rq za0 0 [] [(0,.t (.c (.d (.sl 1 (xs.map za5))))),(1,.t (.c (.d (.sl 1 (ys.map za5))))),(4,vb false)] [] h ?_;clear h;intro a w h
 refine wp_seq (rq za0 0 [(1,.len (c:=(.d (.sl 1 (xs.map za5)))) (n:=xs.length) (zae _ _ _)),(3,.len (c:=(.d (.sl 1 (ys.map za5)))) (n:=ys.length) (zae _ _ _))] [(0,.t (.c (.d (.sl 1 (xs.map za5))))),(1,.t (.c (.d (.sl 1 (ys.map za5))))),(4,vb false),(10,vb ((xs.length:Int) != (ys.length:Int)))] [] h ?_);clear h;intro a w h
 refine zaa ((xs.length:Int) != (ys.length:Int)) h rfl (fun hc=>?_) (fun hc=>?_)
 ·have hc1:=hc;clear hc
  have hc1':=hc1;(try simp at hc1')
  refine rq za0 0 [] [(0,.t (.c (.d (.sl 1 (xs.map za5))))),(1,.t (.c (.d (.sl 1 (ys.map za5))))),(4,vb false)] [] h ?_;clear h;intro a w h
  refine wp_ret (za9 ?_)
  refine zap [.c (cB false)] h Exit.ret (.inl rfl)  rfl ⟨RV.tmp _ _ rfl,trivial⟩ ?_
  have hz:decide (xs=ys)=false:=decide_eq_false (fun e=>by have:=hc1;subst e;simp at this)
  rw [hz];first | done | rfl
 ·have hc2:=hc;clear hc
  have hc2':=hc2;(try simp at hc2')
  refine wp_skip (za4 (wp_seq (rq za0 0 [] [(0,.t (.c (.d (.sl 1 (xs.map za5))))),(1,.t (.c (.d (.sl 1 (ys.map za5))))),(4,vb false),(5,vi .i64 0)] [] h ?_)));clear h;intro a w h
  refine wp_block ?_
  refine zb1 (ι:=(Nat)) (fun (z_:(Nat))=>match z_ with | j=>j≤xs.length∧xs.take j=ys.take j)
    (fun (z_:(Nat))=>match z_ with | j=>[(0,.t (.c (.d (.sl 1 (xs.map za5))))),(1,.t (.c (.d (.sl 1 (ys.map za5))))),(5,vi .i64 (j:Int))])
    (fun (z_:(Nat))=>match z_ with | j=>[])
    (fun (z_:(Nat))=>match z_ with | j=>xs.length - j) 0 ?_ h (by kernel_rfl) (by kernel_rfl) ?_
  ·exact ⟨Nat.zero_le _,rfl⟩
  ·clear h;rintro j a w hI h
   change St _ (F.of [(0,.t (.c (.d (.sl 1 (xs.map za5))))),(1,.t (.c (.d (.sl 1 (ys.map za5))))),(5,vi .i64 (j:Int))] []) a w at h
   obtain ⟨hI1,hI2⟩:=hI
   refine wp_seq (rq za0 0 [(2,.len (c:=(.d (.sl 1 (xs.map za5)))) (n:=xs.length) (zae _ _ _))] [(0,.t (.c (.d (.sl 1 (xs.map za5))))),(1,.t (.c (.d (.sl 1 (ys.map za5))))),(5,vi .i64 (j:Int)),(14,vb (decide ((j:Int)<(xs.length:Int))))] [] h ?_);clear h;intro a w h
   refine zaa (decide ((j:Int)<(xs.length:Int))) h rfl (fun hc=>?_) (fun hc=>?_)
   ·have hc3:=hc;clear hc
    have hc3':=of_decide_eq_true hc3
    refine wp_skip (za4 (wp_seq (wp_block ?_)))
    obtain ⟨x1,hx1⟩:∃ z_:Bool,xs[j]?=some z_:=⟨_,List.getElem?_eq_getElem (by first | omega | (simp at *;omega))⟩
    obtain ⟨x2,hx2⟩:∃ z_:Bool,ys[j]?=some z_:=⟨_,List.getElem?_eq_getElem (by first | omega | (simp at *;omega))⟩
    refine rq za0 0 [(2,.gen _ _ _ fun _ _ _ _=>Op.idxD (d:=19) (t:=17) (k := .i64) le5_9 (zal hx1 (f:=za5)) (OV.tmp 18 _)),(6,.gen _ _ _ fun _ _ _ _=>Op.idxD (d:=23) (t:=21) (k := .i64) le5_9 (zal hx2 (f:=za5)) (OV.tmp 22 _))] [(0,.t (.c (.d (.sl 1 (xs.map za5))))),(1,.t (.c (.d (.sl 1 (ys.map za5))))),(5,vi .i64 (j:Int)),(25,vb (x1 != x2))] [] h ?_;clear h;intro a w h
    refine zaa (x1 != x2) h rfl (fun hc=>?_) (fun hc=>?_)
    ·have hc4:=hc;clear hc
     have hc4':=hc4;(try simp at hc4')
     refine rq za0 0 [] [(0,.t (.c (.d (.sl 1 (xs.map za5))))),(1,.t (.c (.d (.sl 1 (ys.map za5))))),(4,vb false),(5,vi .i64 (j:Int))] [] h ?_;clear h;intro a w h
     refine wp_ret (zaf (za9 (za9 (zaf (za9 ?_)))))
     refine zap [.c (cB false)] h Exit.ret (.inl rfl)  rfl ⟨RV.tmp _ _ rfl,trivial⟩ ?_
     have hz:decide (xs=ys)=false:=decide_eq_false (same_no hx1 hx2 (by have:=hc4;simpa using this))
     rw [hz];first | done | rfl
    ·have hc5:=hc;clear hc
     have hc5':=hc5;(try simp at hc5')
     refine wp_skip (zac (za4 (rn za0 0 [(1,.add .i64 (m:=(j:Int)) (n:=1) (zad (by omega) (by omega)))] [(0,.t (.c (.d (.sl 1 (xs.map za5))))),(1,.t (.c (.d (.sl 1 (ys.map za5))))),(5,vi .i64 ((j:Int)+1))] [] h ?_)));clear h;intro a w h
     refine za4 ?_
     refine zam (x:=j) (y:=j+1) h ?_ ?_
     ·exact ⟨by have:=zak hx1;omega,same_at hx1 hx2 hI2 (by have:=hc5;simpa using this)⟩
     ·show xs.length - (j+1)<xs.length - j
      have:=zak hx1;omega
   ·have hc6:=hc;clear hc
    have hc6':=of_decide_eq_false hc6
    refine wp_exit (zai (zai (za8 (za4 (rq za0 0 [] [(4,vb true)] [] h ?_)))));clear h;intro a w h
    refine wp_ret ?_
    refine zap [.c (cB true)] h Exit.ret (.inl rfl)  rfl ⟨RV.tmp _ _ rfl,trivial⟩ ?_
    have hz:decide (xs=ys)=true:=decide_eq_true (same_end (by omega) (by have:=hc2;simp at this;omega) hI2)
    rw [hz];first | done | rfl
theorem few21_p {props:List zag} {ps:List zab} {xs:List ze2} (h:zf4 props ps xs=true):∀ p ∈ props,fewF p.f 20 3=true:=by
 unfold zf4 at h
 rw [Bool.and_eq_true,List.all_eq_true] at h;exact h.1
theorem few_mono (f:za1):f.few 3=true→f.few 10=true :=
 za1.ind (P:=fun f=>f.few 3=true→f.few 10=true) (fun k r ks ih h=>by
  rw [za1.few_eq,Bool.and_eq_true,List.all_eq_true] at h ⊢
  refine ⟨?_,fun g hg=>ih g (zbx hg) (h.2 g hg)⟩
  have h1:=h.1
  rw [Bool.or_eq_true] at h1 ⊢
  refine h1.imp id fun h1=>?_
  simp only [zfl,Bool.and_eq_true,decide_eq_true_eq,List.all_eq_true] at h1 ⊢
  exact ⟨⟨h1.1.1,by omega⟩,fun p hp=>by have:=h1.2 p hp;omega⟩) f
theorem few21_mono {f:za1} (h:fewF f 20 3=true):fewF f 20 10=true:=by
 unfold fewF at h ⊢
 rw [Bool.and_eq_true] at h ⊢;exact ⟨h.1,few_mono f h.2⟩
set_option maxHeartbeats 4000000 in
theorem LAbstrLetters (props:List zag) (x:StD) (hpl:∀ p ∈ props,p.f.lb) (hlp:props.length≤9223372036854775807) (hxr:StRd x):Fn Tryz.prog 5 [] [.t (.c (.d (.sl 9 (props.map zag.d)))),.t (.agg [cIs x.locs,cZs x.vals])] (vb true) []:=by
 refine Fn.body Tryz.func5 rfl 50 rfl fun w H B a h=>?_
 refine rq za0 0 [] [(0,.t (.c (.d (.sl 9 (props.map zag.d))))),(3,vp 0 0),(4,vb false)] [(0,.box [cIs x.locs,cZs x.vals])] h ?_;clear h;intro a w h
 refine wp_seq (rq za0 1 [(0,.call (Ltelling) lo15_0)] [(0,.t (.c (.d (.sl 9 (props.map zag.d))))),(3,vp 0 0),(4,vb false),(10,vb false)] [(0,.box [cIs x.locs,cZs x.vals])] h ?_);clear h;intro a w h
 refine zaa false h rfl (fun hc=>?_) (fun hc=>?_)
 ·cases hc
 ·clear hc
  refine wp_skip (za4 (wp_seq ?_))
  rcases Bool.eq_false_or_eq_true (zf4 props [] []) with hc | hc
  ·have hc1:=hc;clear hc
   refine rq za0 1 [(1,.call (Fn.cast (Fn.argw (LfewA props [] [] hpl hlp (by decide) (by decide)) (.cons _ _ _ _ (.refl _) (.cons _ _ _ _ (.c _ _ (.nil _)) (.cons _ _ _ _ (.c _ _ (.nil _)) .nil)))) (congrArg vb hc1)) lo15_1),(5,.call (SFewSt x 3 hxr) lo15_2)] [(0,.t (.c (.d (.sl 9 (props.map zag.d))))),(3,vp 0 0),(4,vb false),(18,vb (!(zg3 3 x)))] [(0,.box [cIs x.locs,cZs x.vals])] h ?_;clear h;intro a w h
   refine zaa (!(zg3 3 x)) h rfl (fun hc=>?_) (fun hc=>?_)
   ·have hc2:=hc;clear hc
    have hc2':=hc2;(try simp at hc2')
    refine rq za0 1 [] [(0,.t (.c (.d (.sl 9 (props.map zag.d))))),(3,vp 0 0),(4,vb true)] [(0,.box [cIs x.locs,cZs x.vals])] h ?_;clear h;intro a w h
    refine wp_ret (za9 ?_)
    refine zap [.c (cB true)] h Exit.ret (.inl rfl)  rfl ⟨RV.tmp _ _ rfl,trivial⟩ ?_
    rfl
   ·have hc3:=hc;clear hc
    have hc3':=hc3;(try simp at hc3')
    refine wp_skip (za4 ?_)
    have hfp:=few21_props hc1 hpl
    have hpr:zgr props:=props_ok hfp
    have hx:StOk 10 x:=(few_st (show (zg3 3 x)=true from by simpa using hc3) hxr).mono (by decide)
    have hpk:∀ p ∈ props,PropOk 10 p:=fun p hp=>⟨hpl p hp,fewF_ok (L:=10) (few21_mono (few21_p hc1 p hp)) (hpl p hp)⟩
    rcases Bool.eq_false_or_eq_true (decide ((zcf props).length>24)) with hc | hc
    ·have hc4:=hc;clear hc
     have hc4':=of_decide_eq_true hc4
     refine rq za0 1 [(1,.call (Fn.cast (LBase props hpr) (show (.tup [.c (cRs (zf5 props).1),.c (cI (zf5 props).2)]:V) = .tup [.c (cRs ([]:List zab)),.c (cI 3)] from by unfold zf5;rw [if_pos (of_decide_eq_true hc4)])) lm13_7)] [(0,.t (.c (.d (.sl 9 (props.map zag.d))))),(3,vp 0 0),(4,vb false),(5,(vRs ([]:List zab))),(6,vi .i64 3)] [(0,.box [cIs x.locs,cZs x.vals])] h ?_;clear h;intro a w h
     refine wp_seq (rq za0 1 [(1,.cmp (op := .neq) (m:=3) (n:=0) (b:=true) .i64 rfl)] [(0,.t (.c (.d (.sl 9 (props.map zag.d))))),(3,vp 0 0),(4,vb false),(5,(vRs ([]:List zab))),(6,vi .i64 3),(25,vb true)] [(0,.box [cIs x.locs,cZs x.vals])] h ?_);clear h;intro a w h
     refine zaa true h rfl (fun hc=>?_) (fun hc=>?_)
     ·clear hc
      refine rq za0 1 [(1,.cmp (op := .eql) (m:=3) (n:=3) (b:=true) .i64 rfl),(4,.len (c:=(cRs ([]:List zab))) (n:=([]:List zab).length) (zae _ _ _))] [(0,.t (.c (.d (.sl 9 (props.map zag.d))))),(3,vp 0 0),(4,vb ((([]:List zab).length:Int) == 0)),(5,(vRs ([]:List zab)))] [(0,.box [cIs x.locs,cZs x.vals])] h ?_;clear h;intro a w h
      refine wp_ret (za9 ?_)
      refine zap [.c (cB ((([]:List zab).length:Int) == 0))] h Exit.ret (.inl rfl)  rfl ⟨RV.tmp _ _ rfl,trivial⟩ ?_
      rfl
     ·cases hc
    ·have hc5:=hc;clear hc
     have hc5':=of_decide_eq_false hc5
     have hbl:(zcf props).length≤24:=by have:=of_decide_eq_false hc5;omega
     have hbw:PsOkW (zcf props):=⟨by omega,fun r hr=>(base_tok hfp.2 r hr).mono (by decide) (by decide)⟩
     have hlx:(zem props x).length≤1000:=by unfold zem;rw [List.length_map];have:=hfp.1;omega
     refine rq za0 1 [(1,.call (Fn.cast (LBase props hpr) (show (.tup [.c (cRs (zf5 props).1),.c (cI (zf5 props).2)]:V) = .tup [.c (cRs (zcf props)),.c (cI 0)] from by unfold zf5;rw [if_neg (of_decide_eq_false hc5)])) lm13_7)] [(0,.t (.c (.d (.sl 9 (props.map zag.d))))),(3,vp 0 0),(4,vb false),(5,(vRs (zcf props))),(6,vi .i64 0)] [(0,.box [cIs x.locs,cZs x.vals])] h ?_;clear h;intro a w h
     refine wp_seq (rq za0 1 [(1,.cmp (op := .neq) (m:=0) (n:=0) (b:=false) .i64 rfl)] [(0,.t (.c (.d (.sl 9 (props.map zag.d))))),(3,vp 0 0),(4,vb false),(5,(vRs (zcf props))),(6,vi .i64 0),(25,vb false)] [(0,.box [cIs x.locs,cZs x.vals])] h ?_);clear h;intro a w h
     refine zaa false h rfl (fun hc=>?_) (fun hc=>?_)
     ·cases hc
     ·clear hc
      refine wp_skip (za4 (rq za0 1 [(4,.call (LabsOfW (zcf props) x hbw hx) lm13_5),(5,.call (Fn.cast (LLetter props (zcf props) (ofA (zcf props) x) hpr hbw.tok ⟨by show x.locs.length≤_;have:=hx.locs;omega,by show ((zcf props).map _).length≤_;rw [List.length_map];omega⟩) (show (.tup [.c (.d (.sl 1 ((zbe props (zcf props) (ofA (zcf props) x)).1.map za5))),.c (cB (zbe props (zcf props) (ofA (zcf props) x)).2)]:V) = .tup [.c (.d (.sl 1 ((zem props x).map za5))),.c (cB true)] from by rw [letter_law])) lm13_8)] [(0,.t (.c (.d (.sl 9 (props.map zag.d))))),(3,vp 0 0),(4,vb false),(7,.t (.c (.d (.sl 1 ((zem props x).map za5))))),(8,vb true)] [(0,.box [cIs x.locs,cZs x.vals])] h ?_));clear h;intro a w h
      refine rq za0 1 [(5,.call (SRLetter props x (L:=10) (M:=10) (by decide) hpk (by have:=hfp.1;omega) hx) ks_10),(6,.call (Fn.cast (LSameBits (zem props x) (zem props x) (by omega) (by omega)) (show (vb (decide ((zem props x)=(zem props x))):V)=vb true from by rw [decide_eq_true rfl])) lq17_14)] [(4,vb true)] [] h ?_;clear h;intro a w h
      refine wp_ret ?_
      refine zap [.c (cB true)] h Exit.ret (.inl rfl)  rfl ⟨RV.tmp _ _ rfl,trivial⟩ ?_
      rfl
  ·have hc6:=hc;clear hc
   refine rq za0 1 [(1,.call (Fn.cast (Fn.argw (LfewA props [] [] hpl hlp (by decide) (by decide)) (.cons _ _ _ _ (.refl _) (.cons _ _ _ _ (.c _ _ (.nil _)) (.cons _ _ _ _ (.c _ _ (.nil _)) .nil)))) (congrArg vb hc6)) lo15_1)] [(0,.t (.c (.d (.sl 9 (props.map zag.d))))),(3,vp 0 0),(4,vb false),(18,vb true)] [(0,.box [cIs x.locs,cZs x.vals])] h ?_;clear h;intro a w h
   refine zaa true h rfl (fun hc=>?_) (fun hc=>?_)
   ·clear hc
    refine rq za0 1 [] [(0,.t (.c (.d (.sl 9 (props.map zag.d))))),(3,vp 0 0),(4,vb true)] [(0,.box [cIs x.locs,cZs x.vals])] h ?_;clear h;intro a w h
    refine wp_ret (za9 ?_)
    refine zap [.c (cB true)] h Exit.ret (.inl rfl)  rfl ⟨RV.tmp _ _ rfl,trivial⟩ ?_
    rfl
   ·cases hc
theorem SAbstrLettersW (props:List zag) (x:StD) (hp:props.length≤maxLen∧∀ p ∈ props,p.f.lb) (hx:StRd x):Fn Tryz.prog 5 [] [.t (.c (.d (.sl 9 (props.map zag.d)))),vd (StD.d x)] (vb true) [] :=
 LAbstrLetters props x hp.2 (Nat.le_trans hp.1 (by decide)) hx
end
end Go.Proofs.YtcppcnfmgpphcaaGreat.S
section
namespace Go.Proofs.YtcppcnfmgpphcaaGreat.abstrLettersDone
open Go.ChangeShapes Go.WideShapes Go.ChangeAt Go.RowKit
open Go.ChangeMaps (open_string shut_string)
open Go.Proofs.YtcppcnfmgpphcaaGreat.S

theorem own:ownKnob Tryz.prog.godebug=none:=by kernel_rfl
theorem laidOut:laidOutB Tryz.prog=true:=by kernel_rfl

theorem lifted (os:Os) (started:os.Started) (H:Type) (enc:TypeId × Value→H) :
  ReturnsInHanded {} Tryz.checked os 5 .any (Rows.abstrLettersSpec.pre6 enc Tryz.prog Tryz.f5 Rows.abstrLettersRow.domain false) (Rows.abstrLettersSpec.post enc Tryz.prog Tryz.f5 false true false false):=by
 refine returnsInHanded_of_change (C:=Tryz.checked) own started (by kernel_rfl) Tryz.func5
  (ChangeSpec.witness6 (enc:=enc) (C:=Tryz.checked) false ⟨#[],#[.slice none 0 0,.agg #[.slice none 0 0,.slice none 0 0]],[]⟩ 12 (by kernel_rfl) (by kernel_rfl) (by kernel_rfl) (by kernel_rfl)) ?_
 intro W base args ds gs before hval0 hW hcnd _
 have hval:∀ (j:Nat) t v,Tryz.f5.params[j]?=some t→args[j]?=some v→Value.okWide Tryz.prog W .any base t v:=hval0
 have hW':=hW
 obtain ⟨p,q,hA0,hV,rfl,hfz,hnd⟩:=hW
 have hA:DataW.TrodAll enc Tryz.prog W 0 (fun _=>true) true Tryz.f5.params.toList args.toList ds p:=hA0
 rw [Tryz.params5] at hA hval
 obtain ⟨v0,vs0,d0,ds0,p0,q0,hargs,rfl,rfl,h0,r0⟩:=trodAll_cons hA
 obtain ⟨v1,vs1,d1,ds1,p1,q1,rfl,rfl,rfl,h1,r1⟩:=trodAll_cons r0
 obtain ⟨rfl,rfl,rfl⟩:=trodAll_nil r1
 obtain rfl:args=#[v0,v1]:=by cases args;simp_all
 obtain ⟨rfl,rfl⟩:=trodVars_none hV
 have k0:=h0
 have lt0:∀ x ∈ p0,x.block<W.heap.size:=by obtain ⟨m,hm⟩:=k0;exact DataW.trod_lt m _ _ _ hm
 obtain ⟨a0,ao0,len0,cap0,g0,rfl,dr0⟩:=rep_one Tryz.underlying22 (fun _=>rep_Props) (hval 0 22 v0 rfl rfl) h0
 have k1:=h1
 have lt1:∀ x ∈ p1,x.block<W.heap.size:=by obtain ⟨m,hm⟩:=k1;exact DataW.trod_lt m _ _ _ hm
 obtain ⟨a1,cs1,g1,rfl,dr1⟩:=rep_agg Tryz.underlying30 (fun _=>rep_State) (hval 1 30 v1 rfl rfl) h1
 clear hA0 hval0
 refine ((SAbstrLettersW a0 a1 g0 g1).calls (w:=W) (vals:=[.slice ao0 len0 cap0,.agg ⟨cs1⟩]) fun B=>⟨dr0,dr_vd dr1 B,trivial⟩).mono fun e W' ⟨he,bel⟩=>?_
 subst he
 exact ⟨_,rfl,_,_,_,[],_,[],hW', trodAll_mk1 (shut_bool Tryz.underlying4 _),(trodAll_cons_mk (Below.trod laidOut (by kernel_rfl) (of_decide_eq_true (by kernel_rfl)) k0 bel lt0) (trodAll_cons_mk (Below.trod laidOut (by kernel_rfl) (of_decide_eq_true (by kernel_rfl)) k1 bel lt1) trodAll_mk0)),rfl,bel.below.frame _,fun h=>by cases h⟩

theorem over:Rows.abstrLettersRow.holds Tryz.pinned (OpenSpec.ofChange Rows.abstrLettersSpec) :=
 OpenClaim.holds_of_wide 5 Tryz.f5 rfl rfl rfl rfl rfl rfl rfl ⟨rfl,rfl,rfl,rfl,rfl⟩ rfl rfl rfl rfl rfl (by kernel_rfl) Tryz.func5 (by kernel_rfl)
  (of_decide_eq_true (by kernel_rfl)) (by unfold Func.isWrapper;first | (rw [if_pos (by decide +kernel)];kernel_rfl) | (rw [if_neg (by decide +kernel)];exact ⟨rfl,rfl⟩))
  (fun os started H enc _=>lifted os started H enc)

theorem proved:Rows.AbstrLettersSaid:=over
end Go.Proofs.YtcppcnfmgpphcaaGreat.abstrLettersDone
end
