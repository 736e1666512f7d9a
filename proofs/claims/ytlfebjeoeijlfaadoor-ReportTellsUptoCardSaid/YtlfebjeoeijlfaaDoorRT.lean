/-
  The proof of the statement ReportTells: the walk through the program and the references lifted to the given row. It holds for every input.
-/
import Derived.Test.YtlfebjeoeijlfaaDoorRT3
import Derived.Test.YtlfebjeoeijlfaaDoorRT1
import Derived.SizedLaws
import Derived.Test.YtlfebjeoeijlfaaDoorRows
import Derived.Lib.LaidTab
import Derived.Stop.LaidErr
import Derived.Test.YtlfebjeoeijlfaaDoorCards
import Derived.Test.YtlfebjeoeijlfaaDoorTie
import Derived.ProofKit
import Derived.LaidMore
import Derived.OpenShut
import Derived.SevenTiedAt
import Derived.Deep.DeepHandedRow
set_option maxRecDepth 100000
open Go.RowKit
namespace Go.Proofs.YtlfebjeoeijlfaaDoor
namespace S
theorem pl1_0:zaa Tryd.prog 51:=zaa.mk' (by kernel_rfl)
theorem pl1_1:zaa Tryd.prog 39:=zaa.mk' (by kernel_rfl)
theorem pl1_2:zaa Tryd.prog 29:=zaa.mk' (by kernel_rfl)
def mkB (l:List UInt8):ByteArray:=⟨l.toArray⟩
def lnsL:List UInt8→List (List UInt8)
  | []=>[]
  | b :: l=>if b=10 then [] :: lnsL l else match lnsL l with | []=>[[b]] | x :: xs=>(b :: x) :: xs
def zcc (t:ByteArray):List ByteArray:=(lnsL t.data.toList).map mkB
theorem lnsL_nl {l:List UInt8}:∀ {x:List UInt8}, (10:UInt8) ∉ x→lnsL (x++10 :: l)=x :: lnsL l
 | [],_=>by show lnsL (10 :: l)=_;rw [lnsL,if_pos rfl]
 | b :: x,h=>by
  have hb:¬ b=10:=fun e=>h (by simp [e])
  show lnsL (b :: (x++10 :: l))=_
  rw [lnsL,if_neg hb,lnsL_nl fun hx=>h (List.mem_cons_of_mem _ hx)]
theorem lnsL_no:∀ {x:List UInt8}, (10:UInt8) ∉ x→x≠[]→lnsL x=[x]
 | [],_,h=>absurd rfl h
 | b :: x,h,_=>by
  have hb:¬ b=10:=fun e=>h (by simp [e])
  rw [lnsL,if_neg hb]
  cases x with
  | nil=>rfl
  | cons c x=>rw [lnsL_no (x:=c :: x) (fun hx=>h (List.mem_cons_of_mem _ hx)) (by simp)]
theorem idx_C (l:List UInt8):(∃ k:Nat,Lib.indexByte l 10=(k:Int))∨Lib.indexByte l 10=-1:=by
 have h1:-1≤Lib.indexByte l 10:=Lib.indexByte_ge l 10
 by_cases h:Lib.indexByte l 10=-1
 ·exact .inr h
 ·exact .inl ⟨(Lib.indexByte l 10).toNat,(Int.toNat_of_nonneg (by omega)).symm⟩
theorem idx_none:∀ {l:List UInt8}, Lib.indexByte l 10=-1→(10:UInt8) ∉ l
 | [],_=>by simp
 | b :: l,h=>by
  unfold Lib.indexByte at h
  split at h
  ·cases h
  ·rename_i hb
   have hb:¬ b=10:=by simpa using hb
   split at h
   ·rename_i h1
    have:=idx_none (l:=l) (by simpa using h1)
    simp only [List.mem_cons,not_or];exact ⟨fun e=>hb e.symm,this⟩
   ·have:=Lib.indexByte_ge l 10;omega
theorem zce:∀ {l:List UInt8} {k:Nat}, Lib.indexByte l 10=(k:Int)→k<l.length∧l=l.take k++10 :: l.drop (k+1)∧(10:UInt8) ∉ l.take k
 | [],k,h=>by have h1:Int.negSucc 0=Int.ofNat k:=h;cases h1
 | b :: l,k,h=>by
  unfold Lib.indexByte at h
  split at h
  ·rename_i hb
   have hb:b=10:=by simpa using hb
   obtain rfl:k=0:=by omega
   subst hb;simp
  ·rename_i hb
   have hb:¬ b=10:=by simpa using hb
   split at h
   ·omega
   ·rename_i hm
    have hm:¬ Lib.indexByte l 10=-1:=by simpa using hm
    have:=Lib.indexByte_ge l 10
    obtain ⟨k,rfl⟩:∃ m,k=m+1:=⟨k - 1,by omega⟩
    have h4:Lib.indexByte l 10=(k:Int):=by
     have h5:Lib.indexByte l 10+1=((k+1:Nat):Int):=h
     omega
    obtain ⟨h1,h2,h3⟩:=zce h4
    refine ⟨by simp only [List.length_cons];omega,?_,?_⟩
    ·show b :: l=b :: (l.take k++10 :: l.drop (k+1));rw [← h2]
    ·simp only [List.take_succ_cons,List.mem_cons,not_or];exact ⟨fun e=>hb e.symm,h3⟩
theorem lns_step {r:List UInt8} {k:Nat} (h:Lib.indexByte r 10=(k:Int)):lnsL r=r.take k :: lnsL (r.drop (k+1)):=by
 obtain ⟨_,h2,h3⟩:=zce h
 rw [← lnsL_nl h3,← h2]
theorem emp_ne {r:List UInt8}:((⟨r.toArray⟩:ByteArray).toList == ByteArray.empty.toList)=!decide (0<r.length):=by
 rw [Lib.toList_data,Lib.toList_data]
 cases r with
 | nil=>rfl
 | cons b r=>simp
theorem cut_l (r:List UInt8) (k:Nat) (_hk:k<r.length):(⟨r.toArray⟩:ByteArray).extract 0 k=⟨(r.take k).toArray⟩:=by rw [Lib.extract_eq];simp
theorem cut_r (r:List UInt8) (k:Nat):(⟨r.toArray⟩:ByteArray).extract (k+1) (⟨r.toArray⟩:ByteArray).size=⟨(r.drop (k+1)).toArray⟩:=by
 rw [Lib.extract_eq,baL]
 show (⟨((r.drop (k+1)).take (r.length - (k+1))).toArray⟩:ByteArray)=_
 rw [List.take_of_length_le (by rw [List.length_drop];omega)]
theorem mkr_sz (r:List UInt8):(⟨r.toArray⟩:ByteArray).size=r.length:=by rw [baL]
def eqB (a b:ByteArray):Bool:=a.toList == b.toList
theorem eqB_eq {a b:ByteArray} (h:eqB a b=true):a=b:=by
 have h1:a.toList=b.toList:=by simpa [eqB] using h
 rw [Lib.toList_data,Lib.toList_data] at h1
 rw [← Lib.mk_data a,← Lib.mk_data b,h1]
theorem eqB_data (a b:ByteArray):eqB a b=(a.data.toList == b.data.toList):=by unfold eqB;rw [Lib.toList_data,Lib.toList_data]
theorem zcv (a:ByteArray):eqB a a=true:=beq_self_eq_true _
def vdW (t:ByteArray):Int × Bool:=if eqB (zad 1) t=true then (1,true) else if eqB (zad 2) t=true then (2,true) else if eqB (zad 3) t=true then (3,true) else if eqB (zad 4) t=true then (4,true) else (0,false)
theorem nm_ne:eqB (zad 1) (zad 2)=false∧eqB (zad 1) (zad 3)=false∧eqB (zad 2) (zad 3)=false∧eqB (zad 1) (zad 4)=false∧eqB (zad 2) (zad 4)=false∧eqB (zad 3) (zad 4)=false:=by simp only [eqB_data];decide
theorem vdW_hit {t:ByteArray} {j:Nat} (hj:j<4) (h:eqB (zad ((j:Int)+1)) t=true):vdW t=((j:Int)+1,true):=by
 have e:=eqB_eq h
 subst e
 obtain ⟨n1,n2,n3,n4,n5,n6⟩:=nm_ne
 match j,hj with
 | 0,_=>show vdW (zad 1)=(1,true);unfold vdW;rw [if_pos (zcv _)]
 | 1,_=>show vdW (zad 2)=(2,true);unfold vdW;rw [if_neg (by rw [n1];simp),if_pos (zcv _)]
 | 2,_=>show vdW (zad 3)=(3,true);unfold vdW;rw [if_neg (by rw [n2];simp),if_neg (by rw [n3];simp),if_pos (zcv _)]
 | 3,_=>show vdW (zad 4)=(4,true);unfold vdW;rw [if_neg (by rw [n4];simp),if_neg (by rw [n5];simp),if_neg (by rw [n6];simp),if_pos (zcv _)]
theorem vdW_miss {t:ByteArray} (h:∀ i:Nat,i<4→eqB (zad ((i:Int)+1)) t=false):vdW t=(0,false):=by
 have h1:=h 0 (by decide);have h2:=h 1 (by decide);have h3:=h 2 (by decide);have h4:=h 3 (by decide)
 have h1:eqB (zad 1) t=false:=h1
 have h2:eqB (zad 2) t=false:=h2
 have h3:eqB (zad 3) t=false:=h3
 have h4:eqB (zad 4) t=false:=h4
 unfold vdW;rw [if_neg (by rw [h1];simp),if_neg (by rw [h2];simp),if_neg (by rw [h3];simp),if_neg (by rw [h4];simp)]
def pfx (b:ByteArray):Bool:=Lib.hasPrefix b.data.toList (⟨#[119,104,121,58,32]⟩:ByteArray).data.toList
def rdW (t:ByteArray):Int × ByteArray × Int:=match zcc t with
  | a :: b :: _=>if (vdW a).2=false then (0,ByteArray.empty,20) else if (vdW a).1=4 then (4,b,0) else if pfx b=true then ((vdW a).1,cutP b (⟨#[119,104,121,58,32]⟩:ByteArray),0) else (0,ByteArray.empty,20)
  | _=>(0,ByteArray.empty,20)
theorem rdW_short {t:ByteArray} (h:(zcc t).length<2):rdW t=(0,ByteArray.empty,20):=by
 unfold rdW
 split
 ·rename_i e;rw [e] at h;simp only [List.length_cons] at h;omega
 ·rfl
theorem two_at {xs:List ByteArray} {a b:ByteArray} (h0:xs[0]?=some a) (h1:xs[1]?=some b):∃ r,xs=a :: b :: r:=by
 match xs,h0,h1 with
 | x :: y :: r,h0,h1=>simp at h0 h1;exact ⟨r,by rw [h0,h1]⟩
theorem zd4 {t a b:ByteArray} (h0:(zcc t)[0]?=some a) (h1:(zcc t)[1]?=some b):rdW t=if (vdW a).2=false then (0,ByteArray.empty,20) else if (vdW a).1=4 then (4,b,0) else if pfx b=true then ((vdW a).1,cutP b (⟨#[119,104,121,58,32]⟩:ByteArray),0) else (0,ByteArray.empty,20):=by
 obtain ⟨r,e⟩:=two_at h0 h1
 unfold rdW;rw [e]
abbrev q17 (r:List UInt8):V:=.t (.c (.d (.raw (.string (⟨r.toArray⟩:ByteArray)))))
abbrev q18:V:=.t (.c (.d (.raw (.string (⟨#[10]⟩:ByteArray)))))
abbrev q19:V:=.t (.c (.d (.raw (.string ByteArray.empty))))
set_option maxHeartbeats 4000000 in
theorem SLCutS (r:List UInt8) (k:Nat) (hix:Lib.indexByte r 10=(k:Int)) (hrl:r.length≤4294967296):Fn Tryd.prog 39 [] [.t (.c (.d (.raw (.string (⟨r.toArray⟩:ByteArray))))),.t (.c (.d (.raw (.string (⟨#[10]⟩:ByteArray)))))] (.tup [.c (.d (.raw (.string (⟨(r.take k).toArray⟩:ByteArray)))),.c (.d (.raw (.string (⟨(r.drop (k+1)).toArray⟩:ByteArray)))),.c (cB true)]) []:=by
 have hk:=(zce hix).1
 have hsz:=mkr_sz r
 refine Fn.body Tryd.func39 rfl 23 rfl fun w H B a h=>?_
 refine rq za1 0 [] [(0,q17 r),(1,q18),(4,q19),(5,q19),(6,vb false)] [] h ?_;clear h;intro a w h
 refine wp_seq (rq za1 0 [(2,.call (Fn.cast (SIndex1 ⟨r.toArray⟩ 10) (congrArg (vi .i64) hix)) pl1_0)] [(0,q17 r),(1,q18),(4,q19),(5,q19),(6,vb false),(7,vi .i64 (k:Int))] [] h ?_);clear h;intro a w h
 refine rq za1 0 [(1,.cmp (op:=.geq) (m:=(k:Int)) (n:=0) (b:=true) .i64 (show decide ((k:Int)≥0)=true from decide_eq_true (by omega)))] [(0,q17 r),(1,q18),(4,q19),(5,q19),(6,vb false),(7,vi .i64 (k:Int)),(12,vb true)] [] h ?_;clear h;intro a w h
 refine zac true h rfl (fun hc=>?_) (fun hc=>?_)
 ·clear hc
  refine rq za1 0 [(2,.gen _ _ _ fun _ _ _ _=>Op.strSl (d:=15) (xt:=9) (l:=0) (h:=k) (s:=(⟨r.toArray⟩:ByteArray)) (r:=(⟨(r.take k).toArray⟩:ByteArray)) Tryd.underlying9 (OV.tmp 13 _) (BO.no _) (BO.yes (k:=.i64) (i:=k) _ (OV.tmp 14 _)) (by omega) (by omega) (cut_l r k hk)),(7,.gen _ _ _ fun _ _ _ _=>Op.arith (op:=.add) (d:=20) (xt:=3) (yt:=3) (k:=.i64) (m:=(k:Int)) (n:=((⟨#[10]⟩:ByteArray).size:Int)) (r:=((k+1:Nat):Int)) (OV.tmp 17 _) (OV.tmp 19 _) (.inl ⟨rfl,rfl⟩) (zaj (by omega) (by omega))),(8,.gen _ _ _ fun _ _ _ _=>Op.strSl (d:=21) (xt:=9) (l:=(k+1)) (h:=(⟨r.toArray⟩:ByteArray).size) (s:=(⟨r.toArray⟩:ByteArray)) (r:=(⟨(r.drop (k+1)).toArray⟩:ByteArray)) Tryd.underlying9 (OV.tmp 16 _) (BO.yes (k:=.i64) (i:=(k+1)) _ (OV.tmp 20 _)) (BO.no _) (by omega) (by omega) (cut_r r k))] [(0,q17 r),(4,.t (.c (.d (.raw (.string (⟨(r.take k).toArray⟩:ByteArray)))))),(5,.t (.c (.d (.raw (.string (⟨(r.drop (k+1)).toArray⟩:ByteArray)))))),(6,vb true)] [] h ?_;clear h;intro a w h
  refine wp_ret (zah ?_)
  refine zaz [.c (.d (.raw (.string (⟨(r.take k).toArray⟩:ByteArray)))),.c (.d (.raw (.string (⟨(r.drop (k+1)).toArray⟩:ByteArray)))),.c (cB true)] h Exit.ret (.inl rfl)  rfl ⟨RV.tmp _ _ rfl,RV.tmp _ _ rfl,RV.tmp _ _ rfl,trivial⟩ ?_
  rfl
 ·cases hc
set_option maxHeartbeats 4000000 in
theorem SCutS (r:List UInt8) (k:Nat) (hix:Lib.indexByte r 10=(k:Int)) (hrl:r.length≤4294967296):Fn Tryd.prog 29 [] [.t (.c (.d (.raw (.string (⟨r.toArray⟩:ByteArray))))),.t (.c (.d (.raw (.string (⟨#[10]⟩:ByteArray)))))] (.tup [.c (.d (.raw (.string (⟨(r.take k).toArray⟩:ByteArray)))),.c (.d (.raw (.string (⟨(r.drop (k+1)).toArray⟩:ByteArray)))),.c (cB true)]) []:=by
 have hk:=(zce hix).1
 have hsz:=mkr_sz r
 refine Fn.body Tryd.func29 rfl 13 rfl fun w H B a h=>?_
 refine rq za1 0 [] [(0,.t (.c (.d (.raw (.string (⟨r.toArray⟩:ByteArray)))))),(1,.t (.c (.d (.raw (.string (⟨#[10]⟩:ByteArray)))))),(4,.t (.c (.d (.raw (.string ByteArray.empty))))),(5,.t (.c (.d (.raw (.string ByteArray.empty))))),(6,vb false)] [] h ?_;clear h;intro a w h
 refine rq za1 0 [(2,.call (SLCutS r k hix hrl) pl1_1)] [(4,.t (.c (.d (.raw (.string (⟨(r.take k).toArray⟩:ByteArray)))))),(5,.t (.c (.d (.raw (.string (⟨(r.drop (k+1)).toArray⟩:ByteArray)))))),(6,vb true)] [] h ?_;clear h;intro a w h
 refine wp_ret ?_
 refine zaz [.c (.d (.raw (.string (⟨(r.take k).toArray⟩:ByteArray)))),.c (.d (.raw (.string (⟨(r.drop (k+1)).toArray⟩:ByteArray)))),.c (cB true)] h Exit.ret (.inl rfl)  rfl ⟨RV.tmp _ _ rfl,RV.tmp _ _ rfl,RV.tmp _ _ rfl,trivial⟩ ?_
 rfl
set_option maxHeartbeats 4000000 in
theorem SLCutN (r:List UInt8) (hix:Lib.indexByte r 10=-1):Fn Tryd.prog 39 [] [.t (.c (.d (.raw (.string (⟨r.toArray⟩:ByteArray))))),.t (.c (.d (.raw (.string (⟨#[10]⟩:ByteArray)))))] (.tup [.c (.d (.raw (.string (⟨r.toArray⟩:ByteArray)))),.c (.d (.raw (.string ByteArray.empty))),.c (cB false)]) []:=by
 refine Fn.body Tryd.func39 rfl 23 rfl fun w H B a h=>?_
 refine rq za1 0 [] [(0,.t (.c (.d (.raw (.string (⟨r.toArray⟩:ByteArray)))))),(1,.t (.c (.d (.raw (.string (⟨#[10]⟩:ByteArray)))))),(4,.t (.c (.d (.raw (.string ByteArray.empty))))),(5,.t (.c (.d (.raw (.string ByteArray.empty))))),(6,vb false)] [] h ?_;clear h;intro a w h
 refine wp_seq (rq za1 0 [(2,.call (Fn.cast (SIndex1 ⟨r.toArray⟩ 10) (congrArg (vi .i64) hix)) pl1_0)] [(0,.t (.c (.d (.raw (.string (⟨r.toArray⟩:ByteArray)))))),(1,.t (.c (.d (.raw (.string (⟨#[10]⟩:ByteArray)))))),(4,.t (.c (.d (.raw (.string ByteArray.empty))))),(5,.t (.c (.d (.raw (.string ByteArray.empty))))),(6,vb false),(7,vi .i64 (-1))] [] h ?_);clear h;intro a w h
 refine rq za1 0 [(1,.cmp (op:=.geq) (m:=(-1)) (n:=0) (b:=false) .i64 rfl)] [(0,.t (.c (.d (.raw (.string (⟨r.toArray⟩:ByteArray)))))),(1,.t (.c (.d (.raw (.string (⟨#[10]⟩:ByteArray)))))),(4,.t (.c (.d (.raw (.string ByteArray.empty))))),(5,.t (.c (.d (.raw (.string ByteArray.empty))))),(6,vb false),(7,vi .i64 (-1)),(12,vb false)] [] h ?_;clear h;intro a w h
 refine zac false h rfl (fun hc=>?_) (fun hc=>?_)
 ·cases hc
 ·clear hc
  refine wp_skip (za4 (rq za1 0 [] [(4,.t (.c (.d (.raw (.string (⟨r.toArray⟩:ByteArray)))))),(5,.t (.c (.d (.raw (.string ByteArray.empty))))),(6,vb false)] [] h ?_));clear h;intro a w h
  refine wp_ret ?_
  refine zaz [.c (.d (.raw (.string (⟨r.toArray⟩:ByteArray)))),.c (.d (.raw (.string ByteArray.empty))),.c (cB false)] h Exit.ret (.inl rfl)  rfl ⟨RV.tmp _ _ rfl,RV.tmp _ _ rfl,RV.tmp _ _ rfl,trivial⟩ ?_
  rfl
set_option maxHeartbeats 4000000 in
theorem SCutN (r:List UInt8) (hix:Lib.indexByte r 10=-1):Fn Tryd.prog 29 [] [.t (.c (.d (.raw (.string (⟨r.toArray⟩:ByteArray))))),.t (.c (.d (.raw (.string (⟨#[10]⟩:ByteArray)))))] (.tup [.c (.d (.raw (.string (⟨r.toArray⟩:ByteArray)))),.c (.d (.raw (.string ByteArray.empty))),.c (cB false)]) []:=by
 refine Fn.body Tryd.func29 rfl 13 rfl fun w H B a h=>?_
 refine rq za1 0 [] [(0,.t (.c (.d (.raw (.string (⟨r.toArray⟩:ByteArray)))))),(1,.t (.c (.d (.raw (.string (⟨#[10]⟩:ByteArray)))))),(4,.t (.c (.d (.raw (.string ByteArray.empty))))),(5,.t (.c (.d (.raw (.string ByteArray.empty))))),(6,vb false)] [] h ?_;clear h;intro a w h
 refine rq za1 0 [(2,.call (SLCutN r hix) pl1_1)] [(4,.t (.c (.d (.raw (.string (⟨r.toArray⟩:ByteArray)))))),(5,.t (.c (.d (.raw (.string ByteArray.empty))))),(6,vb false)] [] h ?_;clear h;intro a w h
 refine wp_ret ?_
 refine zaz [.c (.d (.raw (.string (⟨r.toArray⟩:ByteArray)))),.c (.d (.raw (.string ByteArray.empty))),.c (cB false)] h Exit.ret (.inl rfl)  rfl ⟨RV.tmp _ _ rfl,RV.tmp _ _ rfl,RV.tmp _ _ rfl,trivial⟩ ?_
 rfl
set_option maxHeartbeats 4000000 in
theorem PLines (t:ByteArray) (ht:t.size≤4294967296):Fn Tryd.prog 15 [] [.t (.c (.d (.raw (.string t))))] (.t (.c (.d (.sl 1 ((zcc t).map za3))))) []:=by
 refine Fn.body Tryd.func15 rfl 21 rfl fun w H B a h=>?_
 refine rq za1 30 [] [(0,.t (.c (.d (.raw (.string t))))),(2,.t (.c (.d (.raw za6))))] [] h ?_;clear h;intro a w h
 refine rq za1 30 [] [(0,.t (.c (.d (.raw (.string t))))),(2,.t (.c (.d (.raw za6)))),(3,.t (.c (.d (.raw za6))))] [] h ?_;clear h;intro a w h
 refine wp_seq (wp_block ?_)
 replace h:=nilOSs 3 0 30 1 9 (.t (.c (.d (.raw za6)))) [(0,.t (.c (.d (.raw (.string t))))),(2,.t (.c (.d (.raw za6)))),(3,.t (.c (.own 30 0)))] [(30,.row 9 1 ([].map za3))] h (by kernel_rfl) rfl rfl
 replace h:=h.conv (f':=F.of [(0,.t (.c (.d (.raw (.string (⟨t.data.toList.toArray⟩:ByteArray)))))),(2,.t (.c (.d (.raw za6)))),(3,.t (.c (.own 30 0)))] [(30,.row 9 1 ([].map za3))]) (by rw [show (t:ByteArray)=(⟨t.data.toList.toArray⟩:ByteArray) from rfl])
 refine zci (ι:=(List UInt8) × (List ByteArray)) (fun (z_:(List UInt8) × (List ByteArray))=>match z_ with | (r,outs)=>outs++(lnsL r).map mkB=zcc t∧outs.length+r.length≤t.size)
   (fun (z_:(List UInt8) × (List ByteArray))=>match z_ with | (r,outs)=>[(0,.t (.c (.d (.raw (.string (⟨r.toArray⟩:ByteArray)))))),(2,.t (.c (.d (.raw za6)))),(3,.t (.c (.own 30 outs.length)))])
   (fun (z_:(List UInt8) × (List ByteArray))=>match z_ with | (r,outs)=>[(30,.row 9 1 (outs.map za3))])
   (fun (z_:(List UInt8) × (List ByteArray))=>match z_ with | (r,outs)=>r.length) (t.data.toList,[]) ?_ h (by kernel_rfl) (by kernel_rfl) ?_
 ·exact ⟨rfl,by rw [baL];show 0+_≤_;omega⟩
 ·clear h;rintro ⟨r,outs⟩ a w hI h
  change St _ (F.of [(0,.t (.c (.d (.raw (.string (⟨r.toArray⟩:ByteArray)))))),(2,.t (.c (.d (.raw za6)))),(3,.t (.c (.own 30 outs.length)))] [(30,.row 9 1 (outs.map za3))]) a w at h
  obtain ⟨hI1,hI2⟩:=hI
  refine wp_seq (rq za1 31 [(1,.gen _ _ _ fun _ _ _ _=>Op.strNe (d:=8) (xt:=9) (yt:=9) (s1:=(⟨r.toArray⟩:ByteArray)) (s2:=ByteArray.empty) (r:=(decide (0<r.length))) (OV.tmp 7 _) (OV.const (.string ByteArray.empty) rfl) emp_ne)] [(0,.t (.c (.d (.raw (.string (⟨r.toArray⟩:ByteArray)))))),(2,.t (.c (.d (.raw za6)))),(3,.t (.c (.own 30 outs.length))),(8,vb (decide (0<r.length)))] [(30,.row 9 1 (outs.map za3))] h ?_);clear h;intro a w h
  refine zac (decide (0<r.length)) h rfl (fun hc=>?_) (fun hc=>?_)
  ·have hc1:=hc;clear hc
   have hc1':=of_decide_eq_true hc1
   refine wp_skip (za4 (wp_block ?_))
   rcases idx_C r with ⟨k,hk⟩ | hk
   ·skip
    refine rq za1 31 [(1,.call (SCutS r k hk (by omega)) pl1_2)] [(0,.t (.c (.d (.raw (.string (⟨r.toArray⟩:ByteArray)))))),(2,.t (.c (.d (.raw za6)))),(3,.t (.c (.own 30 outs.length))),(4,.t (.c (.d (.raw (.string (⟨(r.take k).toArray⟩:ByteArray)))))),(5,.t (.c (.d (.raw (.string (⟨(r.drop (k+1)).toArray⟩:ByteArray))))))] [(30,.row 9 1 (outs.map za3))] h ?_;clear h;intro a w h
    refine rq za1 31 [(2,.gen _ _ _ fun _ _ _ _=>Op.buildD (d:=17) (len:=1) (rows:=[(⟨(r.take k).toArray⟩:ByteArray)].map za3) (rs:=[(16,.t (.c (.d (.raw (.string (⟨(r.take k).toArray⟩:ByteArray))))))]) zd5 (.cons (i:=0) (OV.tmp 16 _) (.nil)) (by kernel_rfl) rfl (by simp [za3]) (by decide) (by decide)),(3,.gen _ _ _ fun _ _ _ _=>Op.appOD (d:=18) (t:=15) (u:=17) (n:=30) (n':=31) (len:=outs.length) (len':=(outs++[(⟨(r.take k).toArray⟩:ByteArray)]).length) (rows:=outs.map za3) (rows2:=[(⟨(r.take k).toArray⟩:ByteArray)].map za3) (rows':=(outs++[(⟨(r.take k).toArray⟩:ByteArray)]).map za3) ph1_3 (by first | exact (List.length_map _).symm | simp) (by first | (rw [List.length_append,List.length_map];done) | simp) (by simp) (by simp [za3]) (by first | omega | (simp at *;done) | (simp at *;omega)))] [(0,.t (.c (.d (.raw (.string (⟨r.toArray⟩:ByteArray)))))),(2,.t (.c (.d (.raw za6)))),(3,.t (.c (.own 31 (outs++[(⟨(r.take k).toArray⟩:ByteArray)]).length))),(5,.t (.c (.d (.raw (.string (⟨(r.drop (k+1)).toArray⟩:ByteArray))))))] [(31,.row 9 1 ((outs++[(⟨(r.take k).toArray⟩:ByteArray)]).map za3))] h ?_;clear h;intro a w h
    refine rn za1 32 [] [(0,.t (.c (.d (.raw (.string (⟨(r.drop (k+1)).toArray⟩:ByteArray)))))),(2,.t (.c (.d (.raw za6)))),(3,.t (.c (.own 31 (outs++[(⟨(r.take k).toArray⟩:ByteArray)]).length)))] [(31,.row 9 1 ((outs++[(⟨(r.take k).toArray⟩:ByteArray)]).map za3))] h ?_;clear h;intro a w h
    refine zai (za4 ?_)
    replace h:=renS 31 30 [(0,.t (.c (.d (.raw (.string (⟨(r.drop (k+1)).toArray⟩:ByteArray)))))),(2,.t (.c (.d (.raw za6)))),(3,.t (.c (.own 30 (outs++[(⟨(r.take k).toArray⟩:ByteArray)]).length)))] [(30,.row 9 1 ((outs++[(⟨(r.take k).toArray⟩:ByteArray)]).map za3))] h
    refine zas (x:=(r,outs)) (y:=((r.drop (k+1)),(outs++[(⟨(r.take k).toArray⟩:ByteArray)]))) h ?_ ?_
    ·have hq:=zce hk
     refine ⟨?_,?_⟩
     ·rw [← hI1,lns_step hk,List.append_assoc];rfl
     ·rw [List.length_append,List.length_drop];show outs.length+1+_≤_;omega
    ·show (r.drop (k+1)).length<r.length
     have hq:=zce hk
     rw [List.length_drop];omega
   ·skip
    refine rq za1 31 [(1,.call (SCutN r hk) pl1_2)] [(0,.t (.c (.d (.raw (.string (⟨r.toArray⟩:ByteArray)))))),(2,.t (.c (.d (.raw za6)))),(3,.t (.c (.own 30 outs.length))),(4,.t (.c (.d (.raw (.string (⟨r.toArray⟩:ByteArray)))))),(5,.t (.c (.d (.raw (.string ByteArray.empty)))))] [(30,.row 9 1 (outs.map za3))] h ?_;clear h;intro a w h
    refine rq za1 31 [(2,.gen _ _ _ fun _ _ _ _=>Op.buildD (d:=17) (len:=1) (rows:=[(⟨r.toArray⟩:ByteArray)].map za3) (rs:=[(16,.t (.c (.d (.raw (.string (⟨r.toArray⟩:ByteArray))))))]) zd5 (.cons (i:=0) (OV.tmp 16 _) (.nil)) (by kernel_rfl) rfl (by simp [za3]) (by decide) (by decide)),(3,.gen _ _ _ fun _ _ _ _=>Op.appOD (d:=18) (t:=15) (u:=17) (n:=30) (n':=31) (len:=outs.length) (len':=(outs++[(⟨r.toArray⟩:ByteArray)]).length) (rows:=outs.map za3) (rows2:=[(⟨r.toArray⟩:ByteArray)].map za3) (rows':=(outs++[(⟨r.toArray⟩:ByteArray)]).map za3) ph1_3 (by first | exact (List.length_map _).symm | simp) (by first | (rw [List.length_append,List.length_map];done) | simp) (by simp) (by simp [za3]) (by first | omega | (simp at *;done) | (simp at *;omega)))] [(0,.t (.c (.d (.raw (.string (⟨r.toArray⟩:ByteArray)))))),(2,.t (.c (.d (.raw za6)))),(3,.t (.c (.own 31 (outs++[(⟨r.toArray⟩:ByteArray)]).length))),(5,.t (.c (.d (.raw (.string ByteArray.empty)))))] [(31,.row 9 1 ((outs++[(⟨r.toArray⟩:ByteArray)]).map za3))] h ?_;clear h;intro a w h
    refine rn za1 32 [] [(0,.t (.c (.d (.raw (.string ByteArray.empty))))),(2,.t (.c (.d (.raw za6)))),(3,.t (.c (.own 31 (outs++[(⟨r.toArray⟩:ByteArray)]).length)))] [(31,.row 9 1 ((outs++[(⟨r.toArray⟩:ByteArray)]).map za3))] h ?_;clear h;intro a w h
    refine zai (za4 ?_)
    replace h:=h.conv (f':=F.of [(0,.t (.c (.d (.raw (.string (⟨([]:List UInt8).toArray⟩:ByteArray)))))),(2,.t (.c (.d (.raw za6)))),(3,.t (.c (.own 31 (outs++[(⟨r.toArray⟩:ByteArray)]).length)))] [(31,.row 9 1 ((outs++[(⟨r.toArray⟩:ByteArray)]).map za3))]) (by rw [show (ByteArray.empty:ByteArray)=(⟨([]:List UInt8).toArray⟩:ByteArray) from rfl])
    replace h:=renS 31 30 [(0,.t (.c (.d (.raw (.string (⟨([]:List UInt8).toArray⟩:ByteArray)))))),(2,.t (.c (.d (.raw za6)))),(3,.t (.c (.own 30 (outs++[(⟨r.toArray⟩:ByteArray)]).length)))] [(30,.row 9 1 ((outs++[(⟨r.toArray⟩:ByteArray)]).map za3))] h
    refine zas (x:=(r,outs)) (y:=([],(outs++[(⟨r.toArray⟩:ByteArray)]))) h ?_ ?_
    ·have hr0:=of_decide_eq_true hc1
     refine ⟨?_,?_⟩
     ·rw [← hI1,lnsL_no (idx_none hk) (fun e=>by rw [e] at hr0;simp at hr0)];show (outs++[_])++[]=_;rw [List.append_nil];rfl
     ·rw [List.length_append];show outs.length+1+0≤_;omega
    ·show 0<r.length
     exact of_decide_eq_true hc1
  ·have hc2:=hc;clear hc
   have hc2':=of_decide_eq_false hc2
   refine wp_exit (zar (zar (zag (za4 (rq za1 32 [] [(2,.t (.c (.own 30 outs.length)))] [(30,.row 9 1 (outs.map za3))] h ?_)))));clear h;intro a w h
   refine wp_ret ?_
   replace h:=h.conv (f':=F.of [(2,.t (.c (.own 30 (zcc t).length)))] [(30,.row 9 1 ((zcc t).map za3))]) (congrArg (fun (z_:List ByteArray)=>F.of [(2,.t (.c (.own 30 z_.length)))] [(30,.row 9 1 (z_.map za3))]) (show (outs:List ByteArray)=(zcc t) from (by rw [← hI1,show r=[] from List.length_eq_zero_iff.1 (by have:=of_decide_eq_false hc2;omega)];exact (List.append_nil _).symm)))
   replace h:=pubS 30 1 9 ((zcc t).map za3) [(2,.t (.c (.d (.sl 1 ((zcc t).map za3)))))] [] h rfl (show AllEq _ [(zcc t).length] from ⟨by first | exact (List.length_map _).symm | (simp;done) | (simp;omega),trivial⟩) trivial
   refine zaz [.c (.d (.sl 1 ((zcc t).map za3)))] h Exit.ret (.inl rfl)  rfl ⟨RV.tmp _ _ rfl,trivial⟩ ?_
   rfl
theorem pm1_1:zaa Tryd.prog 15:=zaa.mk' (by kernel_rfl)
theorem pm1_3:zaa Tryd.prog 27:=zaa.mk' (by kernel_rfl)
theorem pm1_4:zaa Tryd.prog 28:=zaa.mk' (by kernel_rfl)
theorem pm1_6:zaa Tryd.prog 23:=zaa.mk' (by kernel_rfl)
theorem pm1_9:zaa Tryd.prog 24:=zaa.mk' (by kernel_rfl)
theorem pm1_10:zaa Tryd.prog 25:=zaa.mk' (by kernel_rfl)
def rT (s:zap) (v:Int) (why:ByteArray) (r:zbo) (i:Nat):List UInt8:=if i≤r.stem.length then (zbg v why++za9 [⟨#[115,116,101,109,58]⟩])++zb3 s r.acts 0 r.stem i
  else (((zbg v why++za9 [⟨#[115,116,101,109,58]⟩])++zb3 s r.acts 0 r.stem r.stem.length)++za9 [⟨#[99,121,99,108,101,58]⟩])++zb3 s r.acts r.stem.length r.cycle (i - r.stem.length)
theorem zd3 {r:zbo} {i:Nat} (h:i<r.stem.length):r.stem[i]?=some (zaf r i):=by
 unfold zaf;rw [List.getElem?_append_left h,List.getElem?_eq_getElem h];rfl
theorem zcq {r:zbo} {i:Nat} (h:r.stem.length≤i) (h2:i<r.stem.length+r.cycle.length):r.cycle[i - r.stem.length]?=some (zaf r i):=by
 unfold zaf;rw [List.getElem?_append_right h,List.getElem?_eq_getElem (by omega)];rfl
theorem zcp {r:zbo} (hr:RnOk r) {i:Nat} (h:i<r.stem.length+r.cycle.length):StOk 4 (zaf r i):=by
 rcases Nat.lt_or_ge i r.stem.length with h1 | h1
 ·exact hr.stem _ (List.mem_of_getElem? (zd3 h1))
 ·exact hr.cyc _ (List.mem_of_getElem? (zcq h1 h))
theorem rT_a {s:zap} {v:Int} {why:ByteArray} {r:zbo} {i:Nat} (h:i<r.stem.length):rT s v why r i++stLn s r.acts i (zaf r i)=rT s v why r (i+1):=by
 unfold rT
 rw [if_pos (by omega),if_pos (by omega),← zc4 (zd3 h),List.append_assoc _ _ (stLn _ _ _ _),Nat.zero_add]
theorem rT_b {s:zap} {v:Int} {why:ByteArray} {r:zbo} {i:Nat} (h:i=r.stem.length) (h2:i<r.stem.length+r.cycle.length):(rT s v why r i++za9 [⟨#[99,121,99,108,101,58]⟩])++stLn s r.acts i (zaf r i)=rT s v why r (i+1):=by
 subst h
 unfold rT
 rw [if_pos (Nat.le_refl _),if_neg (by omega),show r.stem.length+1 - r.stem.length=0+1 by omega,← zc4 (j:=0) (x:=zaf r r.stem.length) (by have:=zcq (Nat.le_refl _) h2;rwa [Nat.sub_self] at this)]
 simp [zb3]
theorem rT_c {s:zap} {v:Int} {why:ByteArray} {r:zbo} {i:Nat} (h:r.stem.length<i) (h2:i<r.stem.length+r.cycle.length):rT s v why r i++stLn s r.acts i (zaf r i)=rT s v why r (i+1):=by
 unfold rT
 rw [if_neg (by omega),if_neg (by omega),show i+1 - r.stem.length=(i - r.stem.length)+1 by omega,← zc4 (zcq (by omega) h2),show r.stem.length+(i - r.stem.length)=i by omega,List.append_assoc _ _ (stLn _ _ _ _)]
theorem rT_len {s:zap} {v:Int} {why:ByteArray} {r:zbo} (hz:zc2 s) (hl:s.acts.length≤1000000) (hr:RnOk r) (hw:why.size≤1048576) {i:Nat} (hi:i≤r.stem.length+r.cycle.length):(⟨(rT s v why r i).toArray⟩:ByteArray).size≤1000000000:=by
 have e5:(⟨#[115,116,101,109,58]⟩:ByteArray).size=5:=rfl
 have e6:(⟨#[99,121,99,108,101,58]⟩:ByteArray).size=6:=rfl
 have h0:=zdl v
 have h3:=hr.len
 rw [mkr_sz]
 unfold rT
 split
 ·have h1:=zc9 hz hl hr.stem r.acts 0 i (by assumption)
  have h4:i*43000000≤10*43000000:=Nat.mul_le_mul_right _ (by omega)
  rw [List.length_append,List.length_append,zcu,zb2];omega
 ·have h1:=(runW_len hz hl hr).1
  have h2:=zc9 hz hl hr.cyc r.acts r.stem.length (i - r.stem.length) (by omega)
  have h4:(i - r.stem.length)*43000000≤10*43000000:=Nat.mul_le_mul_right _ (by omega)
  rw [List.length_append,List.length_append,List.length_append,List.length_append,zcu,zb2,zb2];omega
theorem ba_app (a b:ByteArray):(a++b).data.toList=a.data.toList++b.data.toList:=by simp
theorem ba_ext {a b:ByteArray} (h:a.data.toList=b.data.toList):a=b:=by rw [← Lib.mk_data a,← Lib.mk_data b,h]
theorem ba_mk (l:List UInt8):(⟨l.toArray⟩:ByteArray).data.toList=l:=rfl
theorem head_r (v:Int) (why:ByteArray):((zad v++⟨#[10,119,104,121,58,32]⟩)++why)++⟨#[10]⟩=(⟨(zbg v why).toArray⟩:ByteArray):=by
 apply ba_ext
 simp only [ba_app,zbg,za9,zav,List.flatMap_cons,List.flatMap_nil,List.nil_append,List.append_nil,List.append_assoc]
 rfl
theorem stem_r (s:zap) (v:Int) (why:ByteArray) (r:zbo):(⟨(zbg v why).toArray⟩:ByteArray)++⟨#[115,116,101,109,58,10]⟩=⟨(rT s v why r 0).toArray⟩:=by
 apply ba_ext
 rw [ba_app,ba_mk,ba_mk];unfold rT;rw [if_pos (Nat.zero_le _),show zb3 s r.acts 0 r.stem 0=[] from rfl,List.append_nil];rfl
theorem st_r {a b:List UInt8} {s:zap} {acts:List Int} {i:Nat} {x:StD} (h:a++stLn s acts i x=b):(((((⟨a.toArray⟩:ByteArray)++⟨#[32,32]⟩)++stW s x)++⟨#[32,47,32]⟩)++zb9 s (acA acts i))++⟨#[10]⟩=⟨b.toArray⟩:=by
 subst h
 apply ba_ext
 simp only [ba_app,stLn,za9,zav,List.flatMap_cons,List.flatMap_nil,List.append_nil,List.append_assoc]
 try rfl
theorem cyc_r (a:List UInt8):(⟨a.toArray⟩:ByteArray)++⟨#[99,121,99,108,101,58,10]⟩=⟨(a++za9 [⟨#[99,121,99,108,101,58]⟩]).toArray⟩:=by
 apply ba_ext
 simp only [ba_app];rfl
theorem end_0 {s:zap} {v:Int} {why:ByteArray} {r:zbo} (hv:v=2) (h:r.cycle.length=0):rT s v why r (r.stem.length+r.cycle.length)++za9 [⟨#[99,121,99,108,101,58]⟩]=zbs s v why r:=by
 unfold rT zbs runW;rw [if_pos hv,if_pos (by omega),h,Nat.add_zero,show zb3 s r.acts r.stem.length r.cycle 0=[] from rfl];simp only [List.append_nil,List.append_assoc]
theorem end_1 {s:zap} {v:Int} {why:ByteArray} {r:zbo} (hv:v=2) (h:¬ r.cycle.length=0):rT s v why r (r.stem.length+r.cycle.length)=zbs s v why r:=by
 unfold rT zbs runW;rw [if_pos hv,if_neg (by omega),show r.stem.length+r.cycle.length - r.stem.length=r.cycle.length by omega];simp only [List.append_assoc]
theorem wrong_r (why:ByteArray) (ln cl e:Int):((((((⟨#[69,82,82,79,82,10]⟩++why)++⟨#[32]⟩)++itW ln)++⟨#[58]⟩)++itW cl)++⟨#[32]⟩)++itW e++⟨#[10]⟩=(⟨(zbc why ln cl e).toArray⟩:ByteArray):=by
 apply ba_ext
 simp only [ba_app,zbc,wrongL,za9,zav,List.flatMap_cons,List.flatMap_nil,List.nil_append,List.append_nil,List.append_assoc]
 rfl
theorem acA_in {acts:List Int} {i:Nat} {x:Int} (h:acts[i]?=some x):x=acA acts i:=by unfold acA;rw [h];rfl
theorem acA_out {acts:List Int} {i:Nat} (h:¬ i<acts.length):-1=acA acts i:=by unfold acA;rw [List.getElem?_eq_none (by omega)];rfl
set_option maxHeartbeats 4000000 in
theorem PVerdict (t:ByteArray) :Fn Tryd.prog 27 [] [.t (.c (.d (.raw (.string t))))] (.tup [.c (cI (vdW t).1),.c (cB (vdW t).2)]) []:=by
 refine Fn.body Tryd.func27 rfl 14 rfl fun w H B a h=>?_
 refine rq za1 0 [] [(0,.t (.c (.d (.raw (.string t))))),(2,vi .i64 0),(3,vb false)] [] h ?_;clear h;intro a w h
 refine wp_seq (rq za1 0 [] [(0,.t (.c (.d (.raw (.string t))))),(2,vi .i64 0),(3,vb false),(4,vi .i64 1)] [] h ?_);clear h;intro a w h
 refine wp_block ?_
 replace h:=h.conv (f':=F.of [(0,.t (.c (.d (.raw (.string t))))),(2,vi .i64 0),(3,vb false),(4,vi .i64 (((0:Nat):Int)+1))] []) (by kernel_rfl)
 refine zci (ι:=(Nat)) (fun (z_:(Nat))=>match z_ with | j=>j≤4∧∀ i:Nat,i<j→eqB (zad ((i:Int)+1)) t=false)
   (fun (z_:(Nat))=>match z_ with | j=>[(0,.t (.c (.d (.raw (.string t))))),(4,vi .i64 ((j:Int)+1))])
   (fun (z_:(Nat))=>match z_ with | j=>[])
   (fun (z_:(Nat))=>match z_ with | j=>4 - j) 0 ?_ h (by kernel_rfl) (by kernel_rfl) ?_
 ·exact ⟨Nat.zero_le _,fun i hi=>absurd hi (Nat.not_lt_zero _)⟩
 ·clear h;rintro j a w hI h
  change St _ (F.of [(0,.t (.c (.d (.raw (.string t))))),(4,vi .i64 ((j:Int)+1))] []) a w at h
  obtain ⟨hI1,hI2⟩:=hI
  refine wp_seq (rq za1 0 [] [(0,.t (.c (.d (.raw (.string t))))),(4,vi .i64 ((j:Int)+1)),(6,vb (decide (((j:Int)+1)≤4)))] [] h ?_);clear h;intro a w h
  refine zac (decide (((j:Int)+1)≤4)) h rfl (fun hc=>?_) (fun hc=>?_)
  ·have hc1:=hc;clear hc
   have hc1':=of_decide_eq_true hc1
   refine wp_skip (za4 (wp_seq (wp_block (rq za1 0 [(1,.call (PName ((j:Int)+1)) pk1_0),(3,.gen _ _ _ fun _ _ _ _=>Op.strEq (d:=12) (xt:=9) (yt:=9) (s1:=(zad ((j:Int)+1))) (s2:=t) (r:=eqB (zad ((j:Int)+1)) t) (OV.tmp 10 _) (OV.tmp 11 _) rfl)] [(0,.t (.c (.d (.raw (.string t))))),(4,vi .i64 ((j:Int)+1)),(12,vb (eqB (zad ((j:Int)+1)) t))] [] h ?_))));clear h;intro a w h
   refine zac (eqB (zad ((j:Int)+1)) t) h rfl (fun hc=>?_) (fun hc=>?_)
   ·have hc2:=hc;clear hc
    refine rq za1 0 [] [(0,.t (.c (.d (.raw (.string t))))),(2,vi .i64 ((j:Int)+1)),(3,vb true),(4,vi .i64 ((j:Int)+1))] [] h ?_;clear h;intro a w h
    refine wp_ret (zb4 (zah (zah (zb4 (zah ?_)))))
    refine zaz [.c (cI ((j:Int)+1)),.c (cB true)] h Exit.ret (.inl rfl)  rfl ⟨RV.tmp _ _ rfl,RV.tmp _ _ rfl,trivial⟩ ?_
    rw [vdW_hit (by have:=of_decide_eq_true hc1;omega) hc2];first | done | rfl
   ·have hc3:=hc;clear hc
    refine wp_skip (zai (za4 (rn za1 0 [(1,.add .i64 (m:=((j:Int)+1)) (n:=1) (zaj (by omega) (by omega)))] [(0,.t (.c (.d (.raw (.string t))))),(4,vi .i64 (((j:Int)+1)+1))] [] h ?_)));clear h;intro a w h
    refine za4 ?_
    replace h:=h.conv (f':=F.of [(0,.t (.c (.d (.raw (.string t))))),(4,vi .i64 (((j+1:Nat):Int)+1))] []) (by rw [show (((j:Int)+1)+1:Int)=(((j+1:Nat):Int)+1) from (by omega)])
    refine zas (x:=j) (y:=j+1) h ?_ ?_
    ·have:=of_decide_eq_true hc1
     refine ⟨by omega,fun i hi=>?_⟩
     rcases Nat.lt_or_ge i j with h1 | h1
     ·exact hI2 i h1
     ·rw [show i=j by omega]
      exact hc3
    ·show 4 - (j+1)<4 - j
     have:=of_decide_eq_true hc1;omega
  ·have hc4:=hc;clear hc
   have hc4':=of_decide_eq_false hc4
   refine wp_exit (zar (zar (zag (za4 (rq za1 0 [] [(2,vi .i64 0),(3,vb false)] [] h ?_)))));clear h;intro a w h
   refine wp_ret ?_
   refine zaz [.c (cI 0),.c (cB false)] h Exit.ret (.inl rfl)  rfl ⟨RV.tmp _ _ rfl,RV.tmp _ _ rfl,trivial⟩ ?_
   rw [vdW_miss fun i hi=>hI2 i (by have:=of_decide_eq_false hc4;omega)];first | done | rfl
set_option maxHeartbeats 4000000 in
theorem PRead (t:ByteArray) (ht:t.size≤4294967296):Fn Tryd.prog 12 [] [.t (.c (.d (.raw (.string t))))] (.tup [.c (cI (rdW t).1),.c (.d (.raw (.string (rdW t).2.1))),.c (cI (rdW t).2.2)]) []:=by
 refine Fn.body Tryd.func12 rfl 47 rfl fun w H B a h=>?_
 refine rq za1 0 [] [(0,.t (.c (.d (.raw (.string t))))),(2,vi .i64 0),(3,.t (.c (.d (.raw (.string ByteArray.empty))))),(4,vi .i64 0)] [] h ?_;clear h;intro a w h
 refine rq za1 0 [(1,.call (PLines t (by omega)) pm1_1)] [(2,vi .i64 0),(3,.t (.c (.d (.raw (.string ByteArray.empty))))),(4,vi .i64 0),(5,.t (.c (.d (.sl 1 ((zcc t).map za3)))))] [] h ?_;clear h;intro a w h
 refine wp_seq (rq za1 0 [(1,.len (c:=(.d (.sl 1 ((zcc t).map za3)))) (n:=(zcc t).length) (za8 _ _ _))] [(2,vi .i64 0),(3,.t (.c (.d (.raw (.string ByteArray.empty))))),(4,vi .i64 0),(5,.t (.c (.d (.sl 1 ((zcc t).map za3))))),(14,vb (decide (((zcc t).length:Int)<2)))] [] h ?_);clear h;intro a w h
 refine zac (decide (((zcc t).length:Int)<2)) h rfl (fun hc=>?_) (fun hc=>?_)
 ·have hc1:=hc;clear hc
  have hc1':=of_decide_eq_true hc1
  refine rq za1 0 [] [(2,vi .i64 0),(3,.t (.c (.d (.raw (.string ByteArray.empty))))),(4,vi .i64 20),(5,.t (.c (.d (.sl 1 ((zcc t).map za3)))))] [] h ?_;clear h;intro a w h
  refine wp_ret (zah ?_)
  refine zaz [.c (cI 0),.c (.d (.raw (.string ByteArray.empty))),.c (cI 20)] h Exit.ret (.inl rfl)  rfl ⟨RV.tmp _ _ rfl,RV.tmp _ _ rfl,RV.tmp _ _ rfl,trivial⟩ ?_
  rw [rdW_short (by have:=of_decide_eq_true hc1;omega)];first | done | rfl
 ·have hc2:=hc;clear hc
  have hc2':=of_decide_eq_false hc2
  refine wp_skip (za4 ?_)
  obtain ⟨x2,hx2⟩:∃ z_:ByteArray,(zcc t)[0]?=some z_:=⟨_,List.getElem?_eq_getElem (by first | omega | (simp at *;omega))⟩
  refine rq za1 0 [(1,.gen _ _ _ fun _ _ _ _=>Op.idxD (d:=17) (t:=16) (k:=.i64) pa1_4 (zam hx2 (f:=za3)) (OV.const (.int .i64 0) rfl)),(3,.call (PVerdict x2) pm1_3)] [(2,vi .i64 0),(3,.t (.c (.d (.raw (.string ByteArray.empty))))),(4,vi .i64 0),(5,.t (.c (.d (.sl 1 ((zcc t).map za3))))),(6,vi .i64 (vdW x2).1),(7,vb (vdW x2).2)] [] h ?_;clear h;intro a w h
  obtain ⟨x4,hx4⟩:∃ z_:ByteArray,(zcc t)[1]?=some z_:=⟨_,List.getElem?_eq_getElem (by first | omega | (simp at *;omega))⟩
  refine rq za1 0 [(1,.gen _ _ _ fun _ _ _ _=>Op.idxD (d:=24) (t:=23) (k:=.i64) pa1_4 (zam hx4 (f:=za3)) (OV.const (.int .i64 1) rfl)),(3,.call (SCutPrefix x4 (⟨#[119,104,121,58,32]⟩:ByteArray)) pm1_4)] [(2,vi .i64 0),(3,.t (.c (.d (.raw (.string ByteArray.empty))))),(4,vi .i64 0),(5,.t (.c (.d (.sl 1 ((zcc t).map za3))))),(6,vi .i64 (vdW x2).1),(7,vb (vdW x2).2),(8,.t (.c (.d (.raw (.string (cutP x4 (⟨#[119,104,121,58,32]⟩:ByteArray))))))),(9,vb (pfx x4))] [] h ?_;clear h;intro a w h
  refine wp_seq (wp_block (wp_seq (rq za1 0 [] [(2,vi .i64 0),(3,.t (.c (.d (.raw (.string ByteArray.empty))))),(4,vi .i64 0),(5,.t (.c (.d (.sl 1 ((zcc t).map za3))))),(6,vi .i64 (vdW x2).1),(8,.t (.c (.d (.raw (.string (cutP x4 (⟨#[119,104,121,58,32]⟩:ByteArray))))))),(9,vb (pfx x4)),(29,vb (!(vdW x2).2))] [] h ?_)));clear h;intro a w h
  refine zac (!(vdW x2).2) h rfl (fun hc=>?_) (fun hc=>?_)
  ·have hc3:=hc;clear hc
   have hc3':=hc3;(try simp at hc3')
   refine wp_skip (za4 ?_)
   refine zac (!(vdW x2).2) h rfl (fun hc=>?_) (fun hc=>?_)
   ·clear hc
    refine rq za1 0 [] [(2,vi .i64 0),(3,.t (.c (.d (.raw (.string ByteArray.empty))))),(4,vi .i64 20),(6,vi .i64 (vdW x2).1),(8,.t (.c (.d (.raw (.string (cutP x4 (⟨#[119,104,121,58,32]⟩:ByteArray)))))))] [] h ?_;clear h;intro a w h
    refine wp_ret (zb4 (zah ?_))
    refine zaz [.c (cI 0),.c (.d (.raw (.string ByteArray.empty))),.c (cI 20)] h Exit.ret (.inl rfl)  rfl ⟨RV.tmp _ _ rfl,RV.tmp _ _ rfl,RV.tmp _ _ rfl,trivial⟩ ?_
    rw [zd4 hx2 hx4,if_pos (show ((vdW x2).2)=false from by simpa using hc3)];first | done | rfl
   ·rw [hc3] at hc;cases hc
  ·have hc4:=hc;clear hc
   have hc4':=hc4;(try simp at hc4')
   rcases Bool.eq_false_or_eq_true ((vdW x2).1 != 4) with hc | hc
   ·have hc5:=hc;clear hc
    have hc5':=hc5;(try simp at hc5')
    refine rn za1 0 [(1,.cmp (op:=.neq) (m:=(vdW x2).1) (n:=4) (b:=true) .i64 hc5)] [(2,vi .i64 0),(3,.t (.c (.d (.raw (.string ByteArray.empty))))),(4,vi .i64 0),(5,.t (.c (.d (.sl 1 ((zcc t).map za3))))),(6,vi .i64 (vdW x2).1),(8,.t (.c (.d (.raw (.string (cutP x4 (⟨#[119,104,121,58,32]⟩:ByteArray))))))),(29,vb (!(pfx x4)))] [] h ?_;clear h;intro a w h
    refine za4 ?_
    refine zac (!(pfx x4)) h rfl (fun hc=>?_) (fun hc=>?_)
    ·have hc6:=hc;clear hc
     have hc6':=hc6;(try simp at hc6')
     refine rq za1 0 [] [(2,vi .i64 0),(3,.t (.c (.d (.raw (.string ByteArray.empty))))),(4,vi .i64 20),(6,vi .i64 (vdW x2).1),(8,.t (.c (.d (.raw (.string (cutP x4 (⟨#[119,104,121,58,32]⟩:ByteArray)))))))] [] h ?_;clear h;intro a w h
     refine wp_ret (zb4 (zah ?_))
     refine zaz [.c (cI 0),.c (.d (.raw (.string ByteArray.empty))),.c (cI 20)] h Exit.ret (.inl rfl)  rfl ⟨RV.tmp _ _ rfl,RV.tmp _ _ rfl,RV.tmp _ _ rfl,trivial⟩ ?_
     rw [zd4 hx2 hx4,if_neg (by rw [(show ((vdW x2).2)=true from by simpa using hc4)];exact Bool.noConfusion),if_neg (by simpa using hc5),if_neg (by rw [(show (pfx x4)=false from by simpa using hc6)];exact Bool.noConfusion)];first | done | rfl
    ·have hc7:=hc;clear hc
     have hc7':=hc7;(try simp at hc7')
     refine rq za1 0 [(1,.cmp (op:=.eql) (m:=(vdW x2).1) (n:=4) (b:=false) .i64 (show ((vdW x2).1 == 4)=false from by simpa using hc5))] [(2,vi .i64 0),(3,.t (.c (.d (.raw (.string ByteArray.empty))))),(4,vi .i64 0),(5,.t (.c (.d (.sl 1 ((zcc t).map za3))))),(6,vi .i64 (vdW x2).1),(8,.t (.c (.d (.raw (.string (cutP x4 (⟨#[119,104,121,58,32]⟩:ByteArray))))))),(38,vb false)] [] h ?_;clear h;intro a w h
     refine zac false h rfl (fun hc=>?_) (fun hc=>?_)
     ·cases hc
     ·clear hc
      refine wp_skip (zai (za4 (rq za1 0 [] [(2,vi .i64 (vdW x2).1),(3,.t (.c (.d (.raw (.string (cutP x4 (⟨#[119,104,121,58,32]⟩:ByteArray))))))),(4,vi .i64 0)] [] h ?_)));clear h;intro a w h
      refine wp_ret ?_
      refine zaz [.c (cI (vdW x2).1),.c (.d (.raw (.string (cutP x4 (⟨#[119,104,121,58,32]⟩:ByteArray))))),.c (cI 0)] h Exit.ret (.inl rfl)  rfl ⟨RV.tmp _ _ rfl,RV.tmp _ _ rfl,RV.tmp _ _ rfl,trivial⟩ ?_
      rw [zd4 hx2 hx4,if_neg (by rw [(show ((vdW x2).2)=true from by simpa using hc4)];exact Bool.noConfusion),if_neg (by simpa using hc5),if_pos (show (pfx x4)=true from by simpa using hc7)];first | done | rfl
   ·have hc8:=hc;clear hc
    have hc8':=hc8;(try simp at hc8')
    refine rn za1 0 [(1,.cmp (op:=.neq) (m:=(vdW x2).1) (n:=4) (b:=false) .i64 hc8)] [(2,vi .i64 0),(3,.t (.c (.d (.raw (.string ByteArray.empty))))),(4,vi .i64 0),(5,.t (.c (.d (.sl 1 ((zcc t).map za3))))),(6,vi .i64 (vdW x2).1),(8,.t (.c (.d (.raw (.string (cutP x4 (⟨#[119,104,121,58,32]⟩:ByteArray))))))),(29,vb false)] [] h ?_;clear h;intro a w h
    refine za4 ?_
    refine zac false h rfl (fun hc=>?_) (fun hc=>?_)
    ·cases hc
    ·clear hc
     refine rq za1 0 [(1,.cmp (op:=.eql) (m:=(vdW x2).1) (n:=4) (b:=true) .i64 (show ((vdW x2).1 == 4)=true from by simpa using hc8))] [(2,vi .i64 0),(3,.t (.c (.d (.raw (.string ByteArray.empty))))),(4,vi .i64 0),(5,.t (.c (.d (.sl 1 ((zcc t).map za3))))),(6,vi .i64 (vdW x2).1),(8,.t (.c (.d (.raw (.string (cutP x4 (⟨#[119,104,121,58,32]⟩:ByteArray))))))),(38,vb true)] [] h ?_;clear h;intro a w h
     refine zac true h rfl (fun hc=>?_) (fun hc=>?_)
     ·clear hc
      refine rq za1 0 [(2,.gen _ _ _ fun _ _ _ _=>Op.idxD (d:=43) (t:=42) (k:=.i64) pa1_4 (zam hx4 (f:=za3)) (OV.const (.int .i64 1) rfl))] [(2,vi .i64 (vdW x2).1),(3,.t (.c (.d (.raw (.string x4))))),(4,vi .i64 0),(6,vi .i64 (vdW x2).1),(8,.t (.c (.d (.raw (.string (cutP x4 (⟨#[119,104,121,58,32]⟩:ByteArray)))))))] [] h ?_;clear h;intro a w h
      refine wp_ret (zb4 (zah ?_))
      refine zaz [.c (cI (vdW x2).1),.c (.d (.raw (.string x4))),.c (cI 0)] h Exit.ret (.inl rfl)  rfl ⟨RV.tmp _ _ rfl,RV.tmp _ _ rfl,RV.tmp _ _ rfl,trivial⟩ ?_
      have e4:(vdW x2).1=4:=by simpa using hc8
      rw [zd4 hx2 hx4,if_neg (by rw [(show ((vdW x2).2)=true from by simpa using hc4)];exact Bool.noConfusion),if_pos e4,e4];first | done | rfl
     ·cases hc
set_option maxHeartbeats 4000000 in
theorem RText (s:zap) (v:Int) (why:ByteArray) (r:zbo) (hz:zc2 s) (hla:s.acts.length≤1000000) (hr:RnOk r) (hw:why.size≤1048576):Fn Tryd.prog 9 [] [.t (.agg [.d (.sl 1 (s.vars.map za3)),.d (.sl 5 (s.bounds.map za0.d)),cI s.init.kind,cPs s.init.r.t.parts,cB s.init.r.t.k.neg,.d (nsl s.init.r.t.k.abs),cB s.init.r.eq,cFs s.init.kids,.d (.sl 3 (s.procs.map za2.d)),.d (.sl 10 (s.acts.map za5.d))]),vi .i64 v,.t (.c (.d (.raw (.string why)))),.t (.agg [.d (.sl 2 (r.stem.map StD.d)),.d (.sl 2 (r.cycle.map StD.d)),cIs r.acts])] (vs ⟨(zbs s v why r).toArray⟩) []:=by
 have lnm:=zdl v
 have lrl:=hr.len
 have lra:=hr.acts
 have lhw:((⟨(zbg v why).toArray⟩:ByteArray)).size=(zad v).size+why.size+7:=by rw [mkr_sz,zcu]
 have lrN:=rT_len (v:=v) hz hla hr hw (Nat.le_refl _)
 refine Fn.body Tryd.func9 rfl 72 rfl fun w H B a h=>?_
 refine rq za1 0 [] [(1,vi .i64 v),(2,.t (.c (.d (.raw (.string why))))),(4,vp 0 0),(7,vp 1 0),(8,.t (.c (.d (.raw (.string ByteArray.empty)))))] [(0,.box [.d (.sl 1 (s.vars.map za3)),.d (.sl 5 (s.bounds.map za0.d)),cI s.init.kind,cPs s.init.r.t.parts,cB s.init.r.t.k.neg,.d (nsl s.init.r.t.k.abs),cB s.init.r.eq,cFs s.init.kids,.d (.sl 3 (s.procs.map za2.d)),.d (.sl 10 (s.acts.map za5.d))]),(1,.box [.d (.sl 2 (r.stem.map StD.d)),.d (.sl 2 (r.cycle.map StD.d)),cIs r.acts])] h ?_;clear h;intro a w h
 refine rq za1 2 [(1,.call (RName v) pm1_6),(2,.gen _ _ _ fun _ _ _ _=>Op.strAdd (d:=14) (xt:=9) (yt:=9) (s1:=(zad v)) (s2:=(⟨#[10,119,104,121,58,32]⟩:ByteArray)) (r:=((zad v)++(⟨#[10,119,104,121,58,32]⟩:ByteArray))) (OV.tmp 13 _) (OV.const (.string (⟨#[10,119,104,121,58,32]⟩:ByteArray)) rfl) (by have:(⟨#[10,119,104,121,58,32]⟩:ByteArray).size=6:=rfl;omega) rfl),(4,.gen _ _ _ fun _ _ _ _=>Op.strAdd (d:=16) (xt:=9) (yt:=9) (s1:=((zad v)++(⟨#[10,119,104,121,58,32]⟩:ByteArray))) (s2:=why) (r:=(((zad v)++(⟨#[10,119,104,121,58,32]⟩:ByteArray))++why)) (OV.tmp 14 _) (OV.tmp 15 _) (by (try simp only [ByteArray.size_append]);have:(⟨#[10,119,104,121,58,32]⟩:ByteArray).size=6:=rfl;omega) rfl),(5,.gen _ _ _ fun _ _ _ _=>Op.strAdd (d:=17) (xt:=9) (yt:=9) (s1:=(((zad v)++(⟨#[10,119,104,121,58,32]⟩:ByteArray))++why)) (s2:=(⟨#[10]⟩:ByteArray)) (r:=((((zad v)++(⟨#[10,119,104,121,58,32]⟩:ByteArray))++why)++(⟨#[10]⟩:ByteArray))) (OV.tmp 16 _) (OV.const (.string (⟨#[10]⟩:ByteArray)) rfl) (by (try simp only [ByteArray.size_append]);have:(⟨#[10,119,104,121,58,32]⟩:ByteArray).size=6:=rfl;have:(⟨#[10]⟩:ByteArray).size=1:=rfl;omega) rfl)] [(1,vi .i64 v),(4,vp 0 0),(7,vp 1 0),(8,.t (.c (.d (.raw (.string ByteArray.empty))))),(9,.t (.c (.d (.raw (.string ((((zad v)++(⟨#[10,119,104,121,58,32]⟩:ByteArray))++why)++(⟨#[10]⟩:ByteArray)))))))] [(0,.box [.d (.sl 1 (s.vars.map za3)),.d (.sl 5 (s.bounds.map za0.d)),cI s.init.kind,cPs s.init.r.t.parts,cB s.init.r.t.k.neg,.d (nsl s.init.r.t.k.abs),cB s.init.r.eq,cFs s.init.kids,.d (.sl 3 (s.procs.map za2.d)),.d (.sl 10 (s.acts.map za5.d))]),(1,.box [.d (.sl 2 (r.stem.map StD.d)),.d (.sl 2 (r.cycle.map StD.d)),cIs r.acts])] h ?_;clear h;intro a w h
 refine wp_seq ?_
 replace h:=h.conv (f':=F.of [(1,vi .i64 v),(4,vp 0 0),(7,vp 1 0),(8,.t (.c (.d (.raw (.string ByteArray.empty))))),(9,.t (.c (.d (.raw (.string (⟨(zbg v why).toArray⟩:ByteArray))))))] [(0,.box [.d (.sl 1 (s.vars.map za3)),.d (.sl 5 (s.bounds.map za0.d)),cI s.init.kind,cPs s.init.r.t.parts,cB s.init.r.t.k.neg,.d (nsl s.init.r.t.k.abs),cB s.init.r.eq,cFs s.init.kids,.d (.sl 3 (s.procs.map za2.d)),.d (.sl 10 (s.acts.map za5.d))]),(1,.box [.d (.sl 2 (r.stem.map StD.d)),.d (.sl 2 (r.cycle.map StD.d)),cIs r.acts])]) (by rw [show (((((zad v)++(⟨#[10,119,104,121,58,32]⟩:ByteArray))++why)++(⟨#[10]⟩:ByteArray)):ByteArray)=(⟨(zbg v why).toArray⟩:ByteArray) from (head_r v why)])
 refine rq za1 2 [] [(4,vp 0 0),(7,vp 1 0),(8,.t (.c (.d (.raw (.string ByteArray.empty))))),(9,.t (.c (.d (.raw (.string (⟨(zbg v why).toArray⟩:ByteArray)))))),(19,vb (v != 2))] [(0,.box [.d (.sl 1 (s.vars.map za3)),.d (.sl 5 (s.bounds.map za0.d)),cI s.init.kind,cPs s.init.r.t.parts,cB s.init.r.t.k.neg,.d (nsl s.init.r.t.k.abs),cB s.init.r.eq,cFs s.init.kids,.d (.sl 3 (s.procs.map za2.d)),.d (.sl 10 (s.acts.map za5.d))]),(1,.box [.d (.sl 2 (r.stem.map StD.d)),.d (.sl 2 (r.cycle.map StD.d)),cIs r.acts])] h ?_;clear h;intro a w h
 refine zac (v != 2) h rfl (fun hc=>?_) (fun hc=>?_)
 ·have hc1:=hc;clear hc
  have hc1':=hc1;(try simp at hc1')
  refine rq za1 2 [] [(4,vp 0 0),(7,vp 1 0),(8,.t (.c (.d (.raw (.string (⟨(zbg v why).toArray⟩:ByteArray)))))),(9,.t (.c (.d (.raw (.string (⟨(zbg v why).toArray⟩:ByteArray))))))] [(0,.box [.d (.sl 1 (s.vars.map za3)),.d (.sl 5 (s.bounds.map za0.d)),cI s.init.kind,cPs s.init.r.t.parts,cB s.init.r.t.k.neg,.d (nsl s.init.r.t.k.abs),cB s.init.r.eq,cFs s.init.kids,.d (.sl 3 (s.procs.map za2.d)),.d (.sl 10 (s.acts.map za5.d))]),(1,.box [.d (.sl 2 (r.stem.map StD.d)),.d (.sl 2 (r.cycle.map StD.d)),cIs r.acts])] h ?_;clear h;intro a w h
  refine wp_ret (zah ?_)
  refine zaz [.c (.d (.raw (.string (⟨(zbg v why).toArray⟩:ByteArray))))] h Exit.ret (.inl rfl)  rfl ⟨RV.tmp _ _ rfl,trivial⟩ ?_
  rw [show zbs s v why r=zbg v why from by unfold zbs;rw [if_neg (by simpa using hc1)]];first | done | rfl
 ·have hc2:=hc;clear hc
  have hc2':=hc2;(try simp at hc2')
  refine wp_skip (za4 (rq za1 2 [(1,.gen _ _ _ fun _ _ _ _=>Op.strAdd (d:=22) (xt:=9) (yt:=9) (s1:=(⟨(zbg v why).toArray⟩:ByteArray)) (s2:=(⟨#[115,116,101,109,58,10]⟩:ByteArray)) (r:=((⟨(zbg v why).toArray⟩:ByteArray)++(⟨#[115,116,101,109,58,10]⟩:ByteArray))) (OV.tmp 21 _) (OV.const (.string (⟨#[115,116,101,109,58,10]⟩:ByteArray)) rfl) (by have:(⟨#[115,116,101,109,58,10]⟩:ByteArray).size=6:=rfl;omega) rfl)] [(4,vp 0 0),(7,vp 1 0),(8,.t (.c (.d (.raw (.string ByteArray.empty))))),(9,.t (.c (.d (.raw (.string ((⟨(zbg v why).toArray⟩:ByteArray)++(⟨#[115,116,101,109,58,10]⟩:ByteArray)))))))] [(0,.box [.d (.sl 1 (s.vars.map za3)),.d (.sl 5 (s.bounds.map za0.d)),cI s.init.kind,cPs s.init.r.t.parts,cB s.init.r.t.k.neg,.d (nsl s.init.r.t.k.abs),cB s.init.r.eq,cFs s.init.kids,.d (.sl 3 (s.procs.map za2.d)),.d (.sl 10 (s.acts.map za5.d))]),(1,.box [.d (.sl 2 (r.stem.map StD.d)),.d (.sl 2 (r.cycle.map StD.d)),cIs r.acts])] h ?_));clear h;intro a w h
  refine wp_seq (rq za1 2 [] [(4,vp 0 0),(7,vp 1 0),(8,.t (.c (.d (.raw (.string ByteArray.empty))))),(9,.t (.c (.d (.raw (.string ((⟨(zbg v why).toArray⟩:ByteArray)++(⟨#[115,116,101,109,58,10]⟩:ByteArray))))))),(10,vi .i64 0)] [(0,.box [.d (.sl 1 (s.vars.map za3)),.d (.sl 5 (s.bounds.map za0.d)),cI s.init.kind,cPs s.init.r.t.parts,cB s.init.r.t.k.neg,.d (nsl s.init.r.t.k.abs),cB s.init.r.eq,cFs s.init.kids,.d (.sl 3 (s.procs.map za2.d)),.d (.sl 10 (s.acts.map za5.d))]),(1,.box [.d (.sl 2 (r.stem.map StD.d)),.d (.sl 2 (r.cycle.map StD.d)),cIs r.acts])] h ?_);clear h;intro a w h
  refine wp_block ?_
  replace h:=h.conv (f':=F.of [(4,vp 0 0),(7,vp 1 0),(8,.t (.c (.d (.raw (.string ByteArray.empty))))),(9,.t (.c (.d (.raw (.string (⟨(rT s v why r 0).toArray⟩:ByteArray)))))),(10,vi .i64 0)] [(0,.box [.d (.sl 1 (s.vars.map za3)),.d (.sl 5 (s.bounds.map za0.d)),cI s.init.kind,cPs s.init.r.t.parts,cB s.init.r.t.k.neg,.d (nsl s.init.r.t.k.abs),cB s.init.r.eq,cFs s.init.kids,.d (.sl 3 (s.procs.map za2.d)),.d (.sl 10 (s.acts.map za5.d))]),(1,.box [.d (.sl 2 (r.stem.map StD.d)),.d (.sl 2 (r.cycle.map StD.d)),cIs r.acts])]) (by rw [show (((⟨(zbg v why).toArray⟩:ByteArray)++(⟨#[115,116,101,109,58,10]⟩:ByteArray)):ByteArray)=(⟨(rT s v why r 0).toArray⟩:ByteArray) from (stem_r s v why r)])
  refine zci (ι:=(Nat)) (fun (z_:(Nat))=>match z_ with | i=>i≤r.stem.length+r.cycle.length)
    (fun (z_:(Nat))=>match z_ with | i=>[(4,vp 0 0),(7,vp 1 0),(8,.t (.c (.d (.raw (.string ByteArray.empty))))),(9,.t (.c (.d (.raw (.string (⟨(rT s v why r i).toArray⟩:ByteArray)))))),(10,vi .i64 (i:Int))])
    (fun (z_:(Nat))=>match z_ with | i=>[(0,.box [.d (.sl 1 (s.vars.map za3)),.d (.sl 5 (s.bounds.map za0.d)),cI s.init.kind,cPs s.init.r.t.parts,cB s.init.r.t.k.neg,.d (nsl s.init.r.t.k.abs),cB s.init.r.eq,cFs s.init.kids,.d (.sl 3 (s.procs.map za2.d)),.d (.sl 10 (s.acts.map za5.d))]),(1,.box [.d (.sl 2 (r.stem.map StD.d)),.d (.sl 2 (r.cycle.map StD.d)),cIs r.acts])])
    (fun (z_:(Nat))=>match z_ with | i=>r.stem.length+r.cycle.length - i) 0 ?_ h (by kernel_rfl) (by kernel_rfl) ?_
  ·exact Nat.zero_le _
  ·clear h;rintro i a w hI h
   change St _ (F.of [(4,vp 0 0),(7,vp 1 0),(8,.t (.c (.d (.raw (.string ByteArray.empty))))),(9,.t (.c (.d (.raw (.string (⟨(rT s v why r i).toArray⟩:ByteArray)))))),(10,vi .i64 (i:Int))] [(0,.box [.d (.sl 1 (s.vars.map za3)),.d (.sl 5 (s.bounds.map za0.d)),cI s.init.kind,cPs s.init.r.t.parts,cB s.init.r.t.k.neg,.d (nsl s.init.r.t.k.abs),cB s.init.r.eq,cFs s.init.kids,.d (.sl 3 (s.procs.map za2.d)),.d (.sl 10 (s.acts.map za5.d))]),(1,.box [.d (.sl 2 (r.stem.map StD.d)),.d (.sl 2 (r.cycle.map StD.d)),cIs r.acts])]) a w at h
   have lrt:=rT_len (v:=v) hz hla hr hw hI
   have lrs:=hr.len
   refine wp_seq (rq za1 2 [(3,.len (c:=(.d (.sl 2 (r.stem.map StD.d)))) (n:=r.stem.length) (za8 _ _ _)),(6,.len (c:=(.d (.sl 2 (r.cycle.map StD.d)))) (n:=r.cycle.length) (za8 _ _ _)),(7,.add .i64 (m:=(r.stem.length:Int)) (n:=(r.cycle.length:Int)) (zaj (by omega) (by omega)))] [(4,vp 0 0),(7,vp 1 0),(8,.t (.c (.d (.raw (.string ByteArray.empty))))),(9,.t (.c (.d (.raw (.string (⟨(rT s v why r i).toArray⟩:ByteArray)))))),(10,vi .i64 (i:Int)),(31,vb (decide ((i:Int)<((r.stem.length:Int)+(r.cycle.length:Int)))))] [(0,.box [.d (.sl 1 (s.vars.map za3)),.d (.sl 5 (s.bounds.map za0.d)),cI s.init.kind,cPs s.init.r.t.parts,cB s.init.r.t.k.neg,.d (nsl s.init.r.t.k.abs),cB s.init.r.eq,cFs s.init.kids,.d (.sl 3 (s.procs.map za2.d)),.d (.sl 10 (s.acts.map za5.d))]),(1,.box [.d (.sl 2 (r.stem.map StD.d)),.d (.sl 2 (r.cycle.map StD.d)),cIs r.acts])] h ?_);clear h;intro a w h
   refine zac (decide ((i:Int)<((r.stem.length:Int)+(r.cycle.length:Int)))) h rfl (fun hc=>?_) (fun hc=>?_)
   ·have hc3:=hc;clear hc
    have hc3':=of_decide_eq_true hc3
    refine wp_skip (za4 (wp_seq (wp_block (wp_seq (rq za1 2 [(3,.len (c:=(.d (.sl 2 (r.stem.map StD.d)))) (n:=r.stem.length) (za8 _ _ _))] [(4,vp 0 0),(7,vp 1 0),(8,.t (.c (.d (.raw (.string ByteArray.empty))))),(9,.t (.c (.d (.raw (.string (⟨(rT s v why r i).toArray⟩:ByteArray)))))),(10,vi .i64 (i:Int)),(38,vb ((i:Int) == (r.stem.length:Int)))] [(0,.box [.d (.sl 1 (s.vars.map za3)),.d (.sl 5 (s.bounds.map za0.d)),cI s.init.kind,cPs s.init.r.t.parts,cB s.init.r.t.k.neg,.d (nsl s.init.r.t.k.abs),cB s.init.r.eq,cFs s.init.kids,.d (.sl 3 (s.procs.map za2.d)),.d (.sl 10 (s.acts.map za5.d))]),(1,.box [.d (.sl 2 (r.stem.map StD.d)),.d (.sl 2 (r.cycle.map StD.d)),cIs r.acts])] h ?_)))));clear h;intro a w h
    refine zac ((i:Int) == (r.stem.length:Int)) h rfl (fun hc=>?_) (fun hc=>?_)
    ·have hc4:=hc;clear hc
     have hc4':=hc4;(try simp at hc4')
     refine rn za1 2 [(1,.gen _ _ _ fun _ _ _ _=>Op.strAdd (d:=40) (xt:=9) (yt:=9) (s1:=(⟨(rT s v why r i).toArray⟩:ByteArray)) (s2:=(⟨#[99,121,99,108,101,58,10]⟩:ByteArray)) (r:=((⟨(rT s v why r i).toArray⟩:ByteArray)++(⟨#[99,121,99,108,101,58,10]⟩:ByteArray))) (OV.tmp 39 _) (OV.const (.string (⟨#[99,121,99,108,101,58,10]⟩:ByteArray)) rfl) (by have:(⟨#[99,121,99,108,101,58,10]⟩:ByteArray).size=7:=rfl;omega) rfl)] [(4,vp 0 0),(7,vp 1 0),(8,.t (.c (.d (.raw (.string ByteArray.empty))))),(9,.t (.c (.d (.raw (.string ((⟨(rT s v why r i).toArray⟩:ByteArray)++(⟨#[99,121,99,108,101,58,10]⟩:ByteArray))))))),(10,vi .i64 (i:Int))] [(0,.box [.d (.sl 1 (s.vars.map za3)),.d (.sl 5 (s.bounds.map za0.d)),cI s.init.kind,cPs s.init.r.t.parts,cB s.init.r.t.k.neg,.d (nsl s.init.r.t.k.abs),cB s.init.r.eq,cFs s.init.kids,.d (.sl 3 (s.procs.map za2.d)),.d (.sl 10 (s.acts.map za5.d))]),(1,.box [.d (.sl 2 (r.stem.map StD.d)),.d (.sl 2 (r.cycle.map StD.d)),cIs r.acts])] h ?_;clear h;intro a w h
     refine za4 (rq za1 2 [] [(4,vp 0 0),(7,vp 1 0),(8,.t (.c (.d (.raw (.string ByteArray.empty))))),(9,.t (.c (.d (.raw (.string ((⟨(rT s v why r i).toArray⟩:ByteArray)++(⟨#[99,121,99,108,101,58,10]⟩:ByteArray))))))),(10,vi .i64 (i:Int)),(11,vi .i64 (-1))] [(0,.box [.d (.sl 1 (s.vars.map za3)),.d (.sl 5 (s.bounds.map za0.d)),cI s.init.kind,cPs s.init.r.t.parts,cB s.init.r.t.k.neg,.d (nsl s.init.r.t.k.abs),cB s.init.r.eq,cFs s.init.kids,.d (.sl 3 (s.procs.map za2.d)),.d (.sl 10 (s.acts.map za5.d))]),(1,.box [.d (.sl 2 (r.stem.map StD.d)),.d (.sl 2 (r.cycle.map StD.d)),cIs r.acts])] h ?_);clear h;intro a w h
     refine wp_seq (rq za1 2 [(3,.len (c:=(cIs r.acts)) (n:=r.acts.length) (za8 _ _ _))] [(4,vp 0 0),(7,vp 1 0),(8,.t (.c (.d (.raw (.string ByteArray.empty))))),(9,.t (.c (.d (.raw (.string ((⟨(rT s v why r i).toArray⟩:ByteArray)++(⟨#[99,121,99,108,101,58,10]⟩:ByteArray))))))),(10,vi .i64 (i:Int)),(11,vi .i64 (-1)),(45,vb (decide ((i:Int)<(r.acts.length:Int))))] [(0,.box [.d (.sl 1 (s.vars.map za3)),.d (.sl 5 (s.bounds.map za0.d)),cI s.init.kind,cPs s.init.r.t.parts,cB s.init.r.t.k.neg,.d (nsl s.init.r.t.k.abs),cB s.init.r.eq,cFs s.init.kids,.d (.sl 3 (s.procs.map za2.d)),.d (.sl 10 (s.acts.map za5.d))]),(1,.box [.d (.sl 2 (r.stem.map StD.d)),.d (.sl 2 (r.cycle.map StD.d)),cIs r.acts])] h ?_);clear h;intro a w h
     refine zac (decide ((i:Int)<(r.acts.length:Int))) h rfl (fun hc=>?_) (fun hc=>?_)
     ·have hc5:=hc;clear hc
      have hc5':=of_decide_eq_true hc5
      obtain ⟨x2,hx2⟩:∃ z_:Int,r.acts[i]?=some z_:=⟨_,List.getElem?_eq_getElem (by first | omega | (simp at *;omega))⟩
      refine rn za1 2 [(3,.gen _ _ _ fun _ _ _ _=>Op.idxD (d:=49) (t:=47) (k:=.i64) tb_1 (zam hx2 (f:=zdg)) (OV.tmp 48 _))] [(4,vp 0 0),(7,vp 1 0),(8,.t (.c (.d (.raw (.string ByteArray.empty))))),(9,.t (.c (.d (.raw (.string ((⟨(rT s v why r i).toArray⟩:ByteArray)++(⟨#[99,121,99,108,101,58,10]⟩:ByteArray))))))),(10,vi .i64 (i:Int)),(11,vi .i64 x2)] [(0,.box [.d (.sl 1 (s.vars.map za3)),.d (.sl 5 (s.bounds.map za0.d)),cI s.init.kind,cPs s.init.r.t.parts,cB s.init.r.t.k.neg,.d (nsl s.init.r.t.k.abs),cB s.init.r.eq,cFs s.init.kids,.d (.sl 3 (s.procs.map za2.d)),.d (.sl 10 (s.acts.map za5.d))]),(1,.box [.d (.sl 2 (r.stem.map StD.d)),.d (.sl 2 (r.cycle.map StD.d)),cIs r.acts])] h ?_;clear h;intro a w h
      refine za4 ?_
      replace h:=h.conv (f':=F.of [(4,vp 0 0),(7,vp 1 0),(8,.t (.c (.d (.raw (.string ByteArray.empty))))),(9,.t (.c (.d (.raw (.string ((⟨(rT s v why r i).toArray⟩:ByteArray)++(⟨#[99,121,99,108,101,58,10]⟩:ByteArray))))))),(10,vi .i64 (i:Int)),(11,vi .i64 (acA r.acts i))] [(0,.box [.d (.sl 1 (s.vars.map za3)),.d (.sl 5 (s.bounds.map za0.d)),cI s.init.kind,cPs s.init.r.t.parts,cB s.init.r.t.k.neg,.d (nsl s.init.r.t.k.abs),cB s.init.r.eq,cFs s.init.kids,.d (.sl 3 (s.procs.map za2.d)),.d (.sl 10 (s.acts.map za5.d))]),(1,.box [.d (.sl 2 (r.stem.map StD.d)),.d (.sl 2 (r.cycle.map StD.d)),cIs r.acts])]) (by rw [show (x2:Int)=(acA r.acts i) from (acA_in hx2)])
      have hxo:=zcp hr (i:=i) (by omega)
      have lsw:=stW_sz hz hxo
      have law:=actN_sz hz hla (acA r.acts i)
      refine rn za1 2 [(1,.gen _ _ _ fun _ _ _ _=>Op.strAdd (d:=52) (xt:=9) (yt:=9) (s1:=((⟨(rT s v why r i).toArray⟩:ByteArray)++(⟨#[99,121,99,108,101,58,10]⟩:ByteArray))) (s2:=(⟨#[32,32]⟩:ByteArray)) (r:=(((⟨(rT s v why r i).toArray⟩:ByteArray)++(⟨#[99,121,99,108,101,58,10]⟩:ByteArray))++(⟨#[32,32]⟩:ByteArray))) (OV.tmp 51 _) (OV.const (.string (⟨#[32,32]⟩:ByteArray)) rfl) (by (try simp only [ByteArray.size_append]);have:(⟨#[99,121,99,108,101,58,10]⟩:ByteArray).size=7:=rfl;have:(⟨#[32,32]⟩:ByteArray).size=2:=rfl;omega) rfl),(5,.call (SRAt r (i:Int) i rfl (by omega) (by omega)) ks_2),(6,.call (RState s (zaf r i) hz hxo) pm1_9),(7,.gen _ _ _ fun _ _ _ _=>Op.strAdd (d:=58) (xt:=9) (yt:=9) (s1:=(((⟨(rT s v why r i).toArray⟩:ByteArray)++(⟨#[99,121,99,108,101,58,10]⟩:ByteArray))++(⟨#[32,32]⟩:ByteArray))) (s2:=(stW s (zaf r i))) (r:=((((⟨(rT s v why r i).toArray⟩:ByteArray)++(⟨#[99,121,99,108,101,58,10]⟩:ByteArray))++(⟨#[32,32]⟩:ByteArray))++(stW s (zaf r i)))) (OV.tmp 52 _) (OV.tmp 57 _) (by (try simp only [ByteArray.size_append]);have:(⟨#[99,121,99,108,101,58,10]⟩:ByteArray).size=7:=rfl;have:(⟨#[32,32]⟩:ByteArray).size=2:=rfl;omega) rfl),(8,.gen _ _ _ fun _ _ _ _=>Op.strAdd (d:=59) (xt:=9) (yt:=9) (s1:=((((⟨(rT s v why r i).toArray⟩:ByteArray)++(⟨#[99,121,99,108,101,58,10]⟩:ByteArray))++(⟨#[32,32]⟩:ByteArray))++(stW s (zaf r i)))) (s2:=(⟨#[32,47,32]⟩:ByteArray)) (r:=(((((⟨(rT s v why r i).toArray⟩:ByteArray)++(⟨#[99,121,99,108,101,58,10]⟩:ByteArray))++(⟨#[32,32]⟩:ByteArray))++(stW s (zaf r i)))++(⟨#[32,47,32]⟩:ByteArray))) (OV.tmp 58 _) (OV.const (.string (⟨#[32,47,32]⟩:ByteArray)) rfl) (by (try simp only [ByteArray.size_append]);have:(⟨#[99,121,99,108,101,58,10]⟩:ByteArray).size=7:=rfl;have:(⟨#[32,32]⟩:ByteArray).size=2:=rfl;have:(⟨#[32,47,32]⟩:ByteArray).size=3:=rfl;omega) rfl),(11,.call (RAct s (acA r.acts i) hz hla) pm1_10),(12,.gen _ _ _ fun _ _ _ _=>Op.strAdd (d:=63) (xt:=9) (yt:=9) (s1:=(((((⟨(rT s v why r i).toArray⟩:ByteArray)++(⟨#[99,121,99,108,101,58,10]⟩:ByteArray))++(⟨#[32,32]⟩:ByteArray))++(stW s (zaf r i)))++(⟨#[32,47,32]⟩:ByteArray))) (s2:=(zb9 s (acA r.acts i))) (r:=((((((⟨(rT s v why r i).toArray⟩:ByteArray)++(⟨#[99,121,99,108,101,58,10]⟩:ByteArray))++(⟨#[32,32]⟩:ByteArray))++(stW s (zaf r i)))++(⟨#[32,47,32]⟩:ByteArray))++(zb9 s (acA r.acts i)))) (OV.tmp 59 _) (OV.tmp 62 _) (by (try simp only [ByteArray.size_append]);have:(⟨#[99,121,99,108,101,58,10]⟩:ByteArray).size=7:=rfl;have:(⟨#[32,32]⟩:ByteArray).size=2:=rfl;have:(⟨#[32,47,32]⟩:ByteArray).size=3:=rfl;omega) rfl),(13,.gen _ _ _ fun _ _ _ _=>Op.strAdd (d:=64) (xt:=9) (yt:=9) (s1:=((((((⟨(rT s v why r i).toArray⟩:ByteArray)++(⟨#[99,121,99,108,101,58,10]⟩:ByteArray))++(⟨#[32,32]⟩:ByteArray))++(stW s (zaf r i)))++(⟨#[32,47,32]⟩:ByteArray))++(zb9 s (acA r.acts i)))) (s2:=(⟨#[10]⟩:ByteArray)) (r:=(((((((⟨(rT s v why r i).toArray⟩:ByteArray)++(⟨#[99,121,99,108,101,58,10]⟩:ByteArray))++(⟨#[32,32]⟩:ByteArray))++(stW s (zaf r i)))++(⟨#[32,47,32]⟩:ByteArray))++(zb9 s (acA r.acts i)))++(⟨#[10]⟩:ByteArray))) (OV.tmp 63 _) (OV.const (.string (⟨#[10]⟩:ByteArray)) rfl) (by (try simp only [ByteArray.size_append]);have:(⟨#[99,121,99,108,101,58,10]⟩:ByteArray).size=7:=rfl;have:(⟨#[32,32]⟩:ByteArray).size=2:=rfl;have:(⟨#[32,47,32]⟩:ByteArray).size=3:=rfl;have:(⟨#[10]⟩:ByteArray).size=1:=rfl;omega) rfl)] [(4,vp 0 0),(7,vp 1 0),(8,.t (.c (.d (.raw (.string ByteArray.empty))))),(9,.t (.c (.d (.raw (.string (((((((⟨(rT s v why r i).toArray⟩:ByteArray)++(⟨#[99,121,99,108,101,58,10]⟩:ByteArray))++(⟨#[32,32]⟩:ByteArray))++(stW s (zaf r i)))++(⟨#[32,47,32]⟩:ByteArray))++(zb9 s (acA r.acts i)))++(⟨#[10]⟩:ByteArray))))))),(10,vi .i64 (i:Int))] [(0,.box [.d (.sl 1 (s.vars.map za3)),.d (.sl 5 (s.bounds.map za0.d)),cI s.init.kind,cPs s.init.r.t.parts,cB s.init.r.t.k.neg,.d (nsl s.init.r.t.k.abs),cB s.init.r.eq,cFs s.init.kids,.d (.sl 3 (s.procs.map za2.d)),.d (.sl 10 (s.acts.map za5.d))]),(1,.box [.d (.sl 2 (r.stem.map StD.d)),.d (.sl 2 (r.cycle.map StD.d)),cIs r.acts])] h ?_;clear h;intro a w h
      refine zai (za4 (rn za1 2 [(1,.add .i64 (m:=(i:Int)) (n:=1) (zaj (by omega) (by omega)))] [(4,vp 0 0),(7,vp 1 0),(8,.t (.c (.d (.raw (.string ByteArray.empty))))),(9,.t (.c (.d (.raw (.string (((((((⟨(rT s v why r i).toArray⟩:ByteArray)++(⟨#[99,121,99,108,101,58,10]⟩:ByteArray))++(⟨#[32,32]⟩:ByteArray))++(stW s (zaf r i)))++(⟨#[32,47,32]⟩:ByteArray))++(zb9 s (acA r.acts i)))++(⟨#[10]⟩:ByteArray))))))),(10,vi .i64 ((i:Int)+1))] [(0,.box [.d (.sl 1 (s.vars.map za3)),.d (.sl 5 (s.bounds.map za0.d)),cI s.init.kind,cPs s.init.r.t.parts,cB s.init.r.t.k.neg,.d (nsl s.init.r.t.k.abs),cB s.init.r.eq,cFs s.init.kids,.d (.sl 3 (s.procs.map za2.d)),.d (.sl 10 (s.acts.map za5.d))]),(1,.box [.d (.sl 2 (r.stem.map StD.d)),.d (.sl 2 (r.cycle.map StD.d)),cIs r.acts])] h ?_));clear h;intro a w h
      refine za4 ?_
      replace h:=h.conv (f':=F.of [(4,vp 0 0),(7,vp 1 0),(8,.t (.c (.d (.raw (.string ByteArray.empty))))),(9,.t (.c (.d (.raw (.string (⟨(rT s v why r (i+1)).toArray⟩:ByteArray)))))),(10,vi .i64 ((i:Int)+1))] [(0,.box [.d (.sl 1 (s.vars.map za3)),.d (.sl 5 (s.bounds.map za0.d)),cI s.init.kind,cPs s.init.r.t.parts,cB s.init.r.t.k.neg,.d (nsl s.init.r.t.k.abs),cB s.init.r.eq,cFs s.init.kids,.d (.sl 3 (s.procs.map za2.d)),.d (.sl 10 (s.acts.map za5.d))]),(1,.box [.d (.sl 2 (r.stem.map StD.d)),.d (.sl 2 (r.cycle.map StD.d)),cIs r.acts])]) (by rw [show ((((((((⟨(rT s v why r i).toArray⟩:ByteArray)++(⟨#[99,121,99,108,101,58,10]⟩:ByteArray))++(⟨#[32,32]⟩:ByteArray))++(stW s (zaf r i)))++(⟨#[32,47,32]⟩:ByteArray))++(zb9 s (acA r.acts i)))++(⟨#[10]⟩:ByteArray)):ByteArray)=(⟨(rT s v why r (i+1)).toArray⟩:ByteArray) from (by have h8:(i:Int)=(r.stem.length:Int):=(by simpa using hc4);have h7:=of_decide_eq_true hc3;rw [cyc_r];exact st_r (rT_b (by omega) (by omega)))])
      refine zas (x:=i) (y:=i+1) h ?_ ?_
      ·have h7:=of_decide_eq_true hc3
       show i+1≤_
       omega
      ·show r.stem.length+r.cycle.length - (i+1)<r.stem.length+r.cycle.length - i
       have h7:=of_decide_eq_true hc3;omega
     ·have hc6:=hc;clear hc
      have hc6':=of_decide_eq_false hc6
      refine wp_skip (za4 ?_)
      replace h:=h.conv (f':=F.of [(4,vp 0 0),(7,vp 1 0),(8,.t (.c (.d (.raw (.string ByteArray.empty))))),(9,.t (.c (.d (.raw (.string ((⟨(rT s v why r i).toArray⟩:ByteArray)++(⟨#[99,121,99,108,101,58,10]⟩:ByteArray))))))),(10,vi .i64 (i:Int)),(11,vi .i64 (acA r.acts i)),(45,vb (decide ((i:Int)<(r.acts.length:Int))))] [(0,.box [.d (.sl 1 (s.vars.map za3)),.d (.sl 5 (s.bounds.map za0.d)),cI s.init.kind,cPs s.init.r.t.parts,cB s.init.r.t.k.neg,.d (nsl s.init.r.t.k.abs),cB s.init.r.eq,cFs s.init.kids,.d (.sl 3 (s.procs.map za2.d)),.d (.sl 10 (s.acts.map za5.d))]),(1,.box [.d (.sl 2 (r.stem.map StD.d)),.d (.sl 2 (r.cycle.map StD.d)),cIs r.acts])]) (by rw [show (-1:Int)=(acA r.acts i) from (acA_out (by have:=of_decide_eq_false hc6;omega))])
      have hxo:=zcp hr (i:=i) (by omega)
      have lsw:=stW_sz hz hxo
      have law:=actN_sz hz hla (acA r.acts i)
      refine rn za1 2 [(1,.gen _ _ _ fun _ _ _ _=>Op.strAdd (d:=52) (xt:=9) (yt:=9) (s1:=((⟨(rT s v why r i).toArray⟩:ByteArray)++(⟨#[99,121,99,108,101,58,10]⟩:ByteArray))) (s2:=(⟨#[32,32]⟩:ByteArray)) (r:=(((⟨(rT s v why r i).toArray⟩:ByteArray)++(⟨#[99,121,99,108,101,58,10]⟩:ByteArray))++(⟨#[32,32]⟩:ByteArray))) (OV.tmp 51 _) (OV.const (.string (⟨#[32,32]⟩:ByteArray)) rfl) (by (try simp only [ByteArray.size_append]);have:(⟨#[99,121,99,108,101,58,10]⟩:ByteArray).size=7:=rfl;have:(⟨#[32,32]⟩:ByteArray).size=2:=rfl;omega) rfl),(5,.call (SRAt r (i:Int) i rfl (by omega) (by omega)) ks_2),(6,.call (RState s (zaf r i) hz hxo) pm1_9),(7,.gen _ _ _ fun _ _ _ _=>Op.strAdd (d:=58) (xt:=9) (yt:=9) (s1:=(((⟨(rT s v why r i).toArray⟩:ByteArray)++(⟨#[99,121,99,108,101,58,10]⟩:ByteArray))++(⟨#[32,32]⟩:ByteArray))) (s2:=(stW s (zaf r i))) (r:=((((⟨(rT s v why r i).toArray⟩:ByteArray)++(⟨#[99,121,99,108,101,58,10]⟩:ByteArray))++(⟨#[32,32]⟩:ByteArray))++(stW s (zaf r i)))) (OV.tmp 52 _) (OV.tmp 57 _) (by (try simp only [ByteArray.size_append]);have:(⟨#[99,121,99,108,101,58,10]⟩:ByteArray).size=7:=rfl;have:(⟨#[32,32]⟩:ByteArray).size=2:=rfl;omega) rfl),(8,.gen _ _ _ fun _ _ _ _=>Op.strAdd (d:=59) (xt:=9) (yt:=9) (s1:=((((⟨(rT s v why r i).toArray⟩:ByteArray)++(⟨#[99,121,99,108,101,58,10]⟩:ByteArray))++(⟨#[32,32]⟩:ByteArray))++(stW s (zaf r i)))) (s2:=(⟨#[32,47,32]⟩:ByteArray)) (r:=(((((⟨(rT s v why r i).toArray⟩:ByteArray)++(⟨#[99,121,99,108,101,58,10]⟩:ByteArray))++(⟨#[32,32]⟩:ByteArray))++(stW s (zaf r i)))++(⟨#[32,47,32]⟩:ByteArray))) (OV.tmp 58 _) (OV.const (.string (⟨#[32,47,32]⟩:ByteArray)) rfl) (by (try simp only [ByteArray.size_append]);have:(⟨#[99,121,99,108,101,58,10]⟩:ByteArray).size=7:=rfl;have:(⟨#[32,32]⟩:ByteArray).size=2:=rfl;have:(⟨#[32,47,32]⟩:ByteArray).size=3:=rfl;omega) rfl),(11,.call (RAct s (acA r.acts i) hz hla) pm1_10),(12,.gen _ _ _ fun _ _ _ _=>Op.strAdd (d:=63) (xt:=9) (yt:=9) (s1:=(((((⟨(rT s v why r i).toArray⟩:ByteArray)++(⟨#[99,121,99,108,101,58,10]⟩:ByteArray))++(⟨#[32,32]⟩:ByteArray))++(stW s (zaf r i)))++(⟨#[32,47,32]⟩:ByteArray))) (s2:=(zb9 s (acA r.acts i))) (r:=((((((⟨(rT s v why r i).toArray⟩:ByteArray)++(⟨#[99,121,99,108,101,58,10]⟩:ByteArray))++(⟨#[32,32]⟩:ByteArray))++(stW s (zaf r i)))++(⟨#[32,47,32]⟩:ByteArray))++(zb9 s (acA r.acts i)))) (OV.tmp 59 _) (OV.tmp 62 _) (by (try simp only [ByteArray.size_append]);have:(⟨#[99,121,99,108,101,58,10]⟩:ByteArray).size=7:=rfl;have:(⟨#[32,32]⟩:ByteArray).size=2:=rfl;have:(⟨#[32,47,32]⟩:ByteArray).size=3:=rfl;omega) rfl),(13,.gen _ _ _ fun _ _ _ _=>Op.strAdd (d:=64) (xt:=9) (yt:=9) (s1:=((((((⟨(rT s v why r i).toArray⟩:ByteArray)++(⟨#[99,121,99,108,101,58,10]⟩:ByteArray))++(⟨#[32,32]⟩:ByteArray))++(stW s (zaf r i)))++(⟨#[32,47,32]⟩:ByteArray))++(zb9 s (acA r.acts i)))) (s2:=(⟨#[10]⟩:ByteArray)) (r:=(((((((⟨(rT s v why r i).toArray⟩:ByteArray)++(⟨#[99,121,99,108,101,58,10]⟩:ByteArray))++(⟨#[32,32]⟩:ByteArray))++(stW s (zaf r i)))++(⟨#[32,47,32]⟩:ByteArray))++(zb9 s (acA r.acts i)))++(⟨#[10]⟩:ByteArray))) (OV.tmp 63 _) (OV.const (.string (⟨#[10]⟩:ByteArray)) rfl) (by (try simp only [ByteArray.size_append]);have:(⟨#[99,121,99,108,101,58,10]⟩:ByteArray).size=7:=rfl;have:(⟨#[32,32]⟩:ByteArray).size=2:=rfl;have:(⟨#[32,47,32]⟩:ByteArray).size=3:=rfl;have:(⟨#[10]⟩:ByteArray).size=1:=rfl;omega) rfl)] [(4,vp 0 0),(7,vp 1 0),(8,.t (.c (.d (.raw (.string ByteArray.empty))))),(9,.t (.c (.d (.raw (.string (((((((⟨(rT s v why r i).toArray⟩:ByteArray)++(⟨#[99,121,99,108,101,58,10]⟩:ByteArray))++(⟨#[32,32]⟩:ByteArray))++(stW s (zaf r i)))++(⟨#[32,47,32]⟩:ByteArray))++(zb9 s (acA r.acts i)))++(⟨#[10]⟩:ByteArray))))))),(10,vi .i64 (i:Int))] [(0,.box [.d (.sl 1 (s.vars.map za3)),.d (.sl 5 (s.bounds.map za0.d)),cI s.init.kind,cPs s.init.r.t.parts,cB s.init.r.t.k.neg,.d (nsl s.init.r.t.k.abs),cB s.init.r.eq,cFs s.init.kids,.d (.sl 3 (s.procs.map za2.d)),.d (.sl 10 (s.acts.map za5.d))]),(1,.box [.d (.sl 2 (r.stem.map StD.d)),.d (.sl 2 (r.cycle.map StD.d)),cIs r.acts])] h ?_;clear h;intro a w h
      refine zai (za4 (rn za1 2 [(1,.add .i64 (m:=(i:Int)) (n:=1) (zaj (by omega) (by omega)))] [(4,vp 0 0),(7,vp 1 0),(8,.t (.c (.d (.raw (.string ByteArray.empty))))),(9,.t (.c (.d (.raw (.string (((((((⟨(rT s v why r i).toArray⟩:ByteArray)++(⟨#[99,121,99,108,101,58,10]⟩:ByteArray))++(⟨#[32,32]⟩:ByteArray))++(stW s (zaf r i)))++(⟨#[32,47,32]⟩:ByteArray))++(zb9 s (acA r.acts i)))++(⟨#[10]⟩:ByteArray))))))),(10,vi .i64 ((i:Int)+1))] [(0,.box [.d (.sl 1 (s.vars.map za3)),.d (.sl 5 (s.bounds.map za0.d)),cI s.init.kind,cPs s.init.r.t.parts,cB s.init.r.t.k.neg,.d (nsl s.init.r.t.k.abs),cB s.init.r.eq,cFs s.init.kids,.d (.sl 3 (s.procs.map za2.d)),.d (.sl 10 (s.acts.map za5.d))]),(1,.box [.d (.sl 2 (r.stem.map StD.d)),.d (.sl 2 (r.cycle.map StD.d)),cIs r.acts])] h ?_));clear h;intro a w h
      refine za4 ?_
      replace h:=h.conv (f':=F.of [(4,vp 0 0),(7,vp 1 0),(8,.t (.c (.d (.raw (.string ByteArray.empty))))),(9,.t (.c (.d (.raw (.string (⟨(rT s v why r (i+1)).toArray⟩:ByteArray)))))),(10,vi .i64 ((i:Int)+1))] [(0,.box [.d (.sl 1 (s.vars.map za3)),.d (.sl 5 (s.bounds.map za0.d)),cI s.init.kind,cPs s.init.r.t.parts,cB s.init.r.t.k.neg,.d (nsl s.init.r.t.k.abs),cB s.init.r.eq,cFs s.init.kids,.d (.sl 3 (s.procs.map za2.d)),.d (.sl 10 (s.acts.map za5.d))]),(1,.box [.d (.sl 2 (r.stem.map StD.d)),.d (.sl 2 (r.cycle.map StD.d)),cIs r.acts])]) (by rw [show ((((((((⟨(rT s v why r i).toArray⟩:ByteArray)++(⟨#[99,121,99,108,101,58,10]⟩:ByteArray))++(⟨#[32,32]⟩:ByteArray))++(stW s (zaf r i)))++(⟨#[32,47,32]⟩:ByteArray))++(zb9 s (acA r.acts i)))++(⟨#[10]⟩:ByteArray)):ByteArray)=(⟨(rT s v why r (i+1)).toArray⟩:ByteArray) from (by have h8:(i:Int)=(r.stem.length:Int):=(by simpa using hc4);have h7:=of_decide_eq_true hc3;rw [cyc_r];exact st_r (rT_b (by omega) (by omega)))])
      refine zas (x:=i) (y:=i+1) h ?_ ?_
      ·have h7:=of_decide_eq_true hc3
       show i+1≤_
       omega
      ·show r.stem.length+r.cycle.length - (i+1)<r.stem.length+r.cycle.length - i
       have h7:=of_decide_eq_true hc3;omega
    ·have hc7:=hc;clear hc
     have hc7':=hc7;(try simp at hc7')
     refine wp_skip (za4 (rq za1 2 [] [(4,vp 0 0),(7,vp 1 0),(8,.t (.c (.d (.raw (.string ByteArray.empty))))),(9,.t (.c (.d (.raw (.string (⟨(rT s v why r i).toArray⟩:ByteArray)))))),(10,vi .i64 (i:Int)),(11,vi .i64 (-1))] [(0,.box [.d (.sl 1 (s.vars.map za3)),.d (.sl 5 (s.bounds.map za0.d)),cI s.init.kind,cPs s.init.r.t.parts,cB s.init.r.t.k.neg,.d (nsl s.init.r.t.k.abs),cB s.init.r.eq,cFs s.init.kids,.d (.sl 3 (s.procs.map za2.d)),.d (.sl 10 (s.acts.map za5.d))]),(1,.box [.d (.sl 2 (r.stem.map StD.d)),.d (.sl 2 (r.cycle.map StD.d)),cIs r.acts])] h ?_));clear h;intro a w h
     refine wp_seq (rq za1 2 [(3,.len (c:=(cIs r.acts)) (n:=r.acts.length) (za8 _ _ _))] [(4,vp 0 0),(7,vp 1 0),(8,.t (.c (.d (.raw (.string ByteArray.empty))))),(9,.t (.c (.d (.raw (.string (⟨(rT s v why r i).toArray⟩:ByteArray)))))),(10,vi .i64 (i:Int)),(11,vi .i64 (-1)),(45,vb (decide ((i:Int)<(r.acts.length:Int))))] [(0,.box [.d (.sl 1 (s.vars.map za3)),.d (.sl 5 (s.bounds.map za0.d)),cI s.init.kind,cPs s.init.r.t.parts,cB s.init.r.t.k.neg,.d (nsl s.init.r.t.k.abs),cB s.init.r.eq,cFs s.init.kids,.d (.sl 3 (s.procs.map za2.d)),.d (.sl 10 (s.acts.map za5.d))]),(1,.box [.d (.sl 2 (r.stem.map StD.d)),.d (.sl 2 (r.cycle.map StD.d)),cIs r.acts])] h ?_);clear h;intro a w h
     refine zac (decide ((i:Int)<(r.acts.length:Int))) h rfl (fun hc=>?_) (fun hc=>?_)
     ·have hc8:=hc;clear hc
      have hc8':=of_decide_eq_true hc8
      obtain ⟨x9,hx9⟩:∃ z_:Int,r.acts[i]?=some z_:=⟨_,List.getElem?_eq_getElem (by first | omega | (simp at *;omega))⟩
      refine rn za1 2 [(3,.gen _ _ _ fun _ _ _ _=>Op.idxD (d:=49) (t:=47) (k:=.i64) tb_1 (zam hx9 (f:=zdg)) (OV.tmp 48 _))] [(4,vp 0 0),(7,vp 1 0),(8,.t (.c (.d (.raw (.string ByteArray.empty))))),(9,.t (.c (.d (.raw (.string (⟨(rT s v why r i).toArray⟩:ByteArray)))))),(10,vi .i64 (i:Int)),(11,vi .i64 x9)] [(0,.box [.d (.sl 1 (s.vars.map za3)),.d (.sl 5 (s.bounds.map za0.d)),cI s.init.kind,cPs s.init.r.t.parts,cB s.init.r.t.k.neg,.d (nsl s.init.r.t.k.abs),cB s.init.r.eq,cFs s.init.kids,.d (.sl 3 (s.procs.map za2.d)),.d (.sl 10 (s.acts.map za5.d))]),(1,.box [.d (.sl 2 (r.stem.map StD.d)),.d (.sl 2 (r.cycle.map StD.d)),cIs r.acts])] h ?_;clear h;intro a w h
      refine za4 ?_
      replace h:=h.conv (f':=F.of [(4,vp 0 0),(7,vp 1 0),(8,.t (.c (.d (.raw (.string ByteArray.empty))))),(9,.t (.c (.d (.raw (.string (⟨(rT s v why r i).toArray⟩:ByteArray)))))),(10,vi .i64 (i:Int)),(11,vi .i64 (acA r.acts i))] [(0,.box [.d (.sl 1 (s.vars.map za3)),.d (.sl 5 (s.bounds.map za0.d)),cI s.init.kind,cPs s.init.r.t.parts,cB s.init.r.t.k.neg,.d (nsl s.init.r.t.k.abs),cB s.init.r.eq,cFs s.init.kids,.d (.sl 3 (s.procs.map za2.d)),.d (.sl 10 (s.acts.map za5.d))]),(1,.box [.d (.sl 2 (r.stem.map StD.d)),.d (.sl 2 (r.cycle.map StD.d)),cIs r.acts])]) (by rw [show (x9:Int)=(acA r.acts i) from (acA_in hx9)])
      have hxo:=zcp hr (i:=i) (by omega)
      have lsw:=stW_sz hz hxo
      have law:=actN_sz hz hla (acA r.acts i)
      refine rn za1 2 [(1,.gen _ _ _ fun _ _ _ _=>Op.strAdd (d:=52) (xt:=9) (yt:=9) (s1:=(⟨(rT s v why r i).toArray⟩:ByteArray)) (s2:=(⟨#[32,32]⟩:ByteArray)) (r:=((⟨(rT s v why r i).toArray⟩:ByteArray)++(⟨#[32,32]⟩:ByteArray))) (OV.tmp 51 _) (OV.const (.string (⟨#[32,32]⟩:ByteArray)) rfl) (by have:(⟨#[32,32]⟩:ByteArray).size=2:=rfl;omega) rfl),(5,.call (SRAt r (i:Int) i rfl (by omega) (by omega)) ks_2),(6,.call (RState s (zaf r i) hz hxo) pm1_9),(7,.gen _ _ _ fun _ _ _ _=>Op.strAdd (d:=58) (xt:=9) (yt:=9) (s1:=((⟨(rT s v why r i).toArray⟩:ByteArray)++(⟨#[32,32]⟩:ByteArray))) (s2:=(stW s (zaf r i))) (r:=(((⟨(rT s v why r i).toArray⟩:ByteArray)++(⟨#[32,32]⟩:ByteArray))++(stW s (zaf r i)))) (OV.tmp 52 _) (OV.tmp 57 _) (by (try simp only [ByteArray.size_append]);have:(⟨#[32,32]⟩:ByteArray).size=2:=rfl;omega) rfl),(8,.gen _ _ _ fun _ _ _ _=>Op.strAdd (d:=59) (xt:=9) (yt:=9) (s1:=(((⟨(rT s v why r i).toArray⟩:ByteArray)++(⟨#[32,32]⟩:ByteArray))++(stW s (zaf r i)))) (s2:=(⟨#[32,47,32]⟩:ByteArray)) (r:=((((⟨(rT s v why r i).toArray⟩:ByteArray)++(⟨#[32,32]⟩:ByteArray))++(stW s (zaf r i)))++(⟨#[32,47,32]⟩:ByteArray))) (OV.tmp 58 _) (OV.const (.string (⟨#[32,47,32]⟩:ByteArray)) rfl) (by (try simp only [ByteArray.size_append]);have:(⟨#[32,32]⟩:ByteArray).size=2:=rfl;have:(⟨#[32,47,32]⟩:ByteArray).size=3:=rfl;omega) rfl),(11,.call (RAct s (acA r.acts i) hz hla) pm1_10),(12,.gen _ _ _ fun _ _ _ _=>Op.strAdd (d:=63) (xt:=9) (yt:=9) (s1:=((((⟨(rT s v why r i).toArray⟩:ByteArray)++(⟨#[32,32]⟩:ByteArray))++(stW s (zaf r i)))++(⟨#[32,47,32]⟩:ByteArray))) (s2:=(zb9 s (acA r.acts i))) (r:=(((((⟨(rT s v why r i).toArray⟩:ByteArray)++(⟨#[32,32]⟩:ByteArray))++(stW s (zaf r i)))++(⟨#[32,47,32]⟩:ByteArray))++(zb9 s (acA r.acts i)))) (OV.tmp 59 _) (OV.tmp 62 _) (by (try simp only [ByteArray.size_append]);have:(⟨#[32,32]⟩:ByteArray).size=2:=rfl;have:(⟨#[32,47,32]⟩:ByteArray).size=3:=rfl;omega) rfl),(13,.gen _ _ _ fun _ _ _ _=>Op.strAdd (d:=64) (xt:=9) (yt:=9) (s1:=(((((⟨(rT s v why r i).toArray⟩:ByteArray)++(⟨#[32,32]⟩:ByteArray))++(stW s (zaf r i)))++(⟨#[32,47,32]⟩:ByteArray))++(zb9 s (acA r.acts i)))) (s2:=(⟨#[10]⟩:ByteArray)) (r:=((((((⟨(rT s v why r i).toArray⟩:ByteArray)++(⟨#[32,32]⟩:ByteArray))++(stW s (zaf r i)))++(⟨#[32,47,32]⟩:ByteArray))++(zb9 s (acA r.acts i)))++(⟨#[10]⟩:ByteArray))) (OV.tmp 63 _) (OV.const (.string (⟨#[10]⟩:ByteArray)) rfl) (by (try simp only [ByteArray.size_append]);have:(⟨#[32,32]⟩:ByteArray).size=2:=rfl;have:(⟨#[32,47,32]⟩:ByteArray).size=3:=rfl;have:(⟨#[10]⟩:ByteArray).size=1:=rfl;omega) rfl)] [(4,vp 0 0),(7,vp 1 0),(8,.t (.c (.d (.raw (.string ByteArray.empty))))),(9,.t (.c (.d (.raw (.string ((((((⟨(rT s v why r i).toArray⟩:ByteArray)++(⟨#[32,32]⟩:ByteArray))++(stW s (zaf r i)))++(⟨#[32,47,32]⟩:ByteArray))++(zb9 s (acA r.acts i)))++(⟨#[10]⟩:ByteArray))))))),(10,vi .i64 (i:Int))] [(0,.box [.d (.sl 1 (s.vars.map za3)),.d (.sl 5 (s.bounds.map za0.d)),cI s.init.kind,cPs s.init.r.t.parts,cB s.init.r.t.k.neg,.d (nsl s.init.r.t.k.abs),cB s.init.r.eq,cFs s.init.kids,.d (.sl 3 (s.procs.map za2.d)),.d (.sl 10 (s.acts.map za5.d))]),(1,.box [.d (.sl 2 (r.stem.map StD.d)),.d (.sl 2 (r.cycle.map StD.d)),cIs r.acts])] h ?_;clear h;intro a w h
      refine zai (za4 (rn za1 2 [(1,.add .i64 (m:=(i:Int)) (n:=1) (zaj (by omega) (by omega)))] [(4,vp 0 0),(7,vp 1 0),(8,.t (.c (.d (.raw (.string ByteArray.empty))))),(9,.t (.c (.d (.raw (.string ((((((⟨(rT s v why r i).toArray⟩:ByteArray)++(⟨#[32,32]⟩:ByteArray))++(stW s (zaf r i)))++(⟨#[32,47,32]⟩:ByteArray))++(zb9 s (acA r.acts i)))++(⟨#[10]⟩:ByteArray))))))),(10,vi .i64 ((i:Int)+1))] [(0,.box [.d (.sl 1 (s.vars.map za3)),.d (.sl 5 (s.bounds.map za0.d)),cI s.init.kind,cPs s.init.r.t.parts,cB s.init.r.t.k.neg,.d (nsl s.init.r.t.k.abs),cB s.init.r.eq,cFs s.init.kids,.d (.sl 3 (s.procs.map za2.d)),.d (.sl 10 (s.acts.map za5.d))]),(1,.box [.d (.sl 2 (r.stem.map StD.d)),.d (.sl 2 (r.cycle.map StD.d)),cIs r.acts])] h ?_));clear h;intro a w h
      refine za4 ?_
      replace h:=h.conv (f':=F.of [(4,vp 0 0),(7,vp 1 0),(8,.t (.c (.d (.raw (.string ByteArray.empty))))),(9,.t (.c (.d (.raw (.string (⟨(rT s v why r (i+1)).toArray⟩:ByteArray)))))),(10,vi .i64 ((i:Int)+1))] [(0,.box [.d (.sl 1 (s.vars.map za3)),.d (.sl 5 (s.bounds.map za0.d)),cI s.init.kind,cPs s.init.r.t.parts,cB s.init.r.t.k.neg,.d (nsl s.init.r.t.k.abs),cB s.init.r.eq,cFs s.init.kids,.d (.sl 3 (s.procs.map za2.d)),.d (.sl 10 (s.acts.map za5.d))]),(1,.box [.d (.sl 2 (r.stem.map StD.d)),.d (.sl 2 (r.cycle.map StD.d)),cIs r.acts])]) (by rw [show (((((((⟨(rT s v why r i).toArray⟩:ByteArray)++(⟨#[32,32]⟩:ByteArray))++(stW s (zaf r i)))++(⟨#[32,47,32]⟩:ByteArray))++(zb9 s (acA r.acts i)))++(⟨#[10]⟩:ByteArray)):ByteArray)=(⟨(rT s v why r (i+1)).toArray⟩:ByteArray) from (by have h8:¬ (i:Int)=(r.stem.length:Int):=(by simpa using hc7);have h7:=of_decide_eq_true hc3;rcases Nat.lt_or_ge i r.stem.length with h9 | h9;exact st_r (rT_a h9);exact st_r (rT_c (by omega) (by omega)))])
      refine zas (x:=i) (y:=i+1) h ?_ ?_
      ·have h7:=of_decide_eq_true hc3
       show i+1≤_
       omega
      ·show r.stem.length+r.cycle.length - (i+1)<r.stem.length+r.cycle.length - i
       have h7:=of_decide_eq_true hc3;omega
     ·have hc9:=hc;clear hc
      have hc9':=of_decide_eq_false hc9
      refine wp_skip (za4 ?_)
      replace h:=h.conv (f':=F.of [(4,vp 0 0),(7,vp 1 0),(8,.t (.c (.d (.raw (.string ByteArray.empty))))),(9,.t (.c (.d (.raw (.string (⟨(rT s v why r i).toArray⟩:ByteArray)))))),(10,vi .i64 (i:Int)),(11,vi .i64 (acA r.acts i)),(45,vb (decide ((i:Int)<(r.acts.length:Int))))] [(0,.box [.d (.sl 1 (s.vars.map za3)),.d (.sl 5 (s.bounds.map za0.d)),cI s.init.kind,cPs s.init.r.t.parts,cB s.init.r.t.k.neg,.d (nsl s.init.r.t.k.abs),cB s.init.r.eq,cFs s.init.kids,.d (.sl 3 (s.procs.map za2.d)),.d (.sl 10 (s.acts.map za5.d))]),(1,.box [.d (.sl 2 (r.stem.map StD.d)),.d (.sl 2 (r.cycle.map StD.d)),cIs r.acts])]) (by rw [show (-1:Int)=(acA r.acts i) from (acA_out (by have:=of_decide_eq_false hc9;omega))])
      have hxo:=zcp hr (i:=i) (by omega)
      have lsw:=stW_sz hz hxo
      have law:=actN_sz hz hla (acA r.acts i)
      refine rn za1 2 [(1,.gen _ _ _ fun _ _ _ _=>Op.strAdd (d:=52) (xt:=9) (yt:=9) (s1:=(⟨(rT s v why r i).toArray⟩:ByteArray)) (s2:=(⟨#[32,32]⟩:ByteArray)) (r:=((⟨(rT s v why r i).toArray⟩:ByteArray)++(⟨#[32,32]⟩:ByteArray))) (OV.tmp 51 _) (OV.const (.string (⟨#[32,32]⟩:ByteArray)) rfl) (by have:(⟨#[32,32]⟩:ByteArray).size=2:=rfl;omega) rfl),(5,.call (SRAt r (i:Int) i rfl (by omega) (by omega)) ks_2),(6,.call (RState s (zaf r i) hz hxo) pm1_9),(7,.gen _ _ _ fun _ _ _ _=>Op.strAdd (d:=58) (xt:=9) (yt:=9) (s1:=((⟨(rT s v why r i).toArray⟩:ByteArray)++(⟨#[32,32]⟩:ByteArray))) (s2:=(stW s (zaf r i))) (r:=(((⟨(rT s v why r i).toArray⟩:ByteArray)++(⟨#[32,32]⟩:ByteArray))++(stW s (zaf r i)))) (OV.tmp 52 _) (OV.tmp 57 _) (by (try simp only [ByteArray.size_append]);have:(⟨#[32,32]⟩:ByteArray).size=2:=rfl;omega) rfl),(8,.gen _ _ _ fun _ _ _ _=>Op.strAdd (d:=59) (xt:=9) (yt:=9) (s1:=(((⟨(rT s v why r i).toArray⟩:ByteArray)++(⟨#[32,32]⟩:ByteArray))++(stW s (zaf r i)))) (s2:=(⟨#[32,47,32]⟩:ByteArray)) (r:=((((⟨(rT s v why r i).toArray⟩:ByteArray)++(⟨#[32,32]⟩:ByteArray))++(stW s (zaf r i)))++(⟨#[32,47,32]⟩:ByteArray))) (OV.tmp 58 _) (OV.const (.string (⟨#[32,47,32]⟩:ByteArray)) rfl) (by (try simp only [ByteArray.size_append]);have:(⟨#[32,32]⟩:ByteArray).size=2:=rfl;have:(⟨#[32,47,32]⟩:ByteArray).size=3:=rfl;omega) rfl),(11,.call (RAct s (acA r.acts i) hz hla) pm1_10),(12,.gen _ _ _ fun _ _ _ _=>Op.strAdd (d:=63) (xt:=9) (yt:=9) (s1:=((((⟨(rT s v why r i).toArray⟩:ByteArray)++(⟨#[32,32]⟩:ByteArray))++(stW s (zaf r i)))++(⟨#[32,47,32]⟩:ByteArray))) (s2:=(zb9 s (acA r.acts i))) (r:=(((((⟨(rT s v why r i).toArray⟩:ByteArray)++(⟨#[32,32]⟩:ByteArray))++(stW s (zaf r i)))++(⟨#[32,47,32]⟩:ByteArray))++(zb9 s (acA r.acts i)))) (OV.tmp 59 _) (OV.tmp 62 _) (by (try simp only [ByteArray.size_append]);have:(⟨#[32,32]⟩:ByteArray).size=2:=rfl;have:(⟨#[32,47,32]⟩:ByteArray).size=3:=rfl;omega) rfl),(13,.gen _ _ _ fun _ _ _ _=>Op.strAdd (d:=64) (xt:=9) (yt:=9) (s1:=(((((⟨(rT s v why r i).toArray⟩:ByteArray)++(⟨#[32,32]⟩:ByteArray))++(stW s (zaf r i)))++(⟨#[32,47,32]⟩:ByteArray))++(zb9 s (acA r.acts i)))) (s2:=(⟨#[10]⟩:ByteArray)) (r:=((((((⟨(rT s v why r i).toArray⟩:ByteArray)++(⟨#[32,32]⟩:ByteArray))++(stW s (zaf r i)))++(⟨#[32,47,32]⟩:ByteArray))++(zb9 s (acA r.acts i)))++(⟨#[10]⟩:ByteArray))) (OV.tmp 63 _) (OV.const (.string (⟨#[10]⟩:ByteArray)) rfl) (by (try simp only [ByteArray.size_append]);have:(⟨#[32,32]⟩:ByteArray).size=2:=rfl;have:(⟨#[32,47,32]⟩:ByteArray).size=3:=rfl;have:(⟨#[10]⟩:ByteArray).size=1:=rfl;omega) rfl)] [(4,vp 0 0),(7,vp 1 0),(8,.t (.c (.d (.raw (.string ByteArray.empty))))),(9,.t (.c (.d (.raw (.string ((((((⟨(rT s v why r i).toArray⟩:ByteArray)++(⟨#[32,32]⟩:ByteArray))++(stW s (zaf r i)))++(⟨#[32,47,32]⟩:ByteArray))++(zb9 s (acA r.acts i)))++(⟨#[10]⟩:ByteArray))))))),(10,vi .i64 (i:Int))] [(0,.box [.d (.sl 1 (s.vars.map za3)),.d (.sl 5 (s.bounds.map za0.d)),cI s.init.kind,cPs s.init.r.t.parts,cB s.init.r.t.k.neg,.d (nsl s.init.r.t.k.abs),cB s.init.r.eq,cFs s.init.kids,.d (.sl 3 (s.procs.map za2.d)),.d (.sl 10 (s.acts.map za5.d))]),(1,.box [.d (.sl 2 (r.stem.map StD.d)),.d (.sl 2 (r.cycle.map StD.d)),cIs r.acts])] h ?_;clear h;intro a w h
      refine zai (za4 (rn za1 2 [(1,.add .i64 (m:=(i:Int)) (n:=1) (zaj (by omega) (by omega)))] [(4,vp 0 0),(7,vp 1 0),(8,.t (.c (.d (.raw (.string ByteArray.empty))))),(9,.t (.c (.d (.raw (.string ((((((⟨(rT s v why r i).toArray⟩:ByteArray)++(⟨#[32,32]⟩:ByteArray))++(stW s (zaf r i)))++(⟨#[32,47,32]⟩:ByteArray))++(zb9 s (acA r.acts i)))++(⟨#[10]⟩:ByteArray))))))),(10,vi .i64 ((i:Int)+1))] [(0,.box [.d (.sl 1 (s.vars.map za3)),.d (.sl 5 (s.bounds.map za0.d)),cI s.init.kind,cPs s.init.r.t.parts,cB s.init.r.t.k.neg,.d (nsl s.init.r.t.k.abs),cB s.init.r.eq,cFs s.init.kids,.d (.sl 3 (s.procs.map za2.d)),.d (.sl 10 (s.acts.map za5.d))]),(1,.box [.d (.sl 2 (r.stem.map StD.d)),.d (.sl 2 (r.cycle.map StD.d)),cIs r.acts])] h ?_));clear h;intro a w h
      refine za4 ?_
      replace h:=h.conv (f':=F.of [(4,vp 0 0),(7,vp 1 0),(8,.t (.c (.d (.raw (.string ByteArray.empty))))),(9,.t (.c (.d (.raw (.string (⟨(rT s v why r (i+1)).toArray⟩:ByteArray)))))),(10,vi .i64 ((i:Int)+1))] [(0,.box [.d (.sl 1 (s.vars.map za3)),.d (.sl 5 (s.bounds.map za0.d)),cI s.init.kind,cPs s.init.r.t.parts,cB s.init.r.t.k.neg,.d (nsl s.init.r.t.k.abs),cB s.init.r.eq,cFs s.init.kids,.d (.sl 3 (s.procs.map za2.d)),.d (.sl 10 (s.acts.map za5.d))]),(1,.box [.d (.sl 2 (r.stem.map StD.d)),.d (.sl 2 (r.cycle.map StD.d)),cIs r.acts])]) (by rw [show (((((((⟨(rT s v why r i).toArray⟩:ByteArray)++(⟨#[32,32]⟩:ByteArray))++(stW s (zaf r i)))++(⟨#[32,47,32]⟩:ByteArray))++(zb9 s (acA r.acts i)))++(⟨#[10]⟩:ByteArray)):ByteArray)=(⟨(rT s v why r (i+1)).toArray⟩:ByteArray) from (by have h8:¬ (i:Int)=(r.stem.length:Int):=(by simpa using hc7);have h7:=of_decide_eq_true hc3;rcases Nat.lt_or_ge i r.stem.length with h9 | h9;exact st_r (rT_a h9);exact st_r (rT_c (by omega) (by omega)))])
      refine zas (x:=i) (y:=i+1) h ?_ ?_
      ·have h7:=of_decide_eq_true hc3
       show i+1≤_
       omega
      ·show r.stem.length+r.cycle.length - (i+1)<r.stem.length+r.cycle.length - i
       have h7:=of_decide_eq_true hc3;omega
   ·have hc10:=hc;clear hc
    have hc10':=of_decide_eq_false hc10
    refine wp_exit (zar (zar (zag (za4 (wp_seq ?_)))))
    replace h:=h.conv (f':=F.of [(4,vp 0 0),(7,vp 1 0),(8,.t (.c (.d (.raw (.string ByteArray.empty))))),(9,.t (.c (.d (.raw (.string (⟨(rT s v why r (r.stem.length+r.cycle.length)).toArray⟩:ByteArray)))))),(10,vi .i64 (i:Int)),(31,vb (decide ((i:Int)<((r.stem.length:Int)+(r.cycle.length:Int)))))] [(0,.box [.d (.sl 1 (s.vars.map za3)),.d (.sl 5 (s.bounds.map za0.d)),cI s.init.kind,cPs s.init.r.t.parts,cB s.init.r.t.k.neg,.d (nsl s.init.r.t.k.abs),cB s.init.r.eq,cFs s.init.kids,.d (.sl 3 (s.procs.map za2.d)),.d (.sl 10 (s.acts.map za5.d))]),(1,.box [.d (.sl 2 (r.stem.map StD.d)),.d (.sl 2 (r.cycle.map StD.d)),cIs r.acts])]) (by rw [show ((⟨(rT s v why r i).toArray⟩:ByteArray):ByteArray)=(⟨(rT s v why r (r.stem.length+r.cycle.length)).toArray⟩:ByteArray) from (by rw [show i=r.stem.length+r.cycle.length by have:=of_decide_eq_false hc10;omega])])
    refine rq za1 2 [(2,.len (c:=(.d (.sl 2 (r.cycle.map StD.d)))) (n:=r.cycle.length) (za8 _ _ _))] [(8,.t (.c (.d (.raw (.string ByteArray.empty))))),(9,.t (.c (.d (.raw (.string (⟨(rT s v why r (r.stem.length+r.cycle.length)).toArray⟩:ByteArray)))))),(68,vb ((r.cycle.length:Int) == 0))] [] h ?_;clear h;intro a w h
    refine zac ((r.cycle.length:Int) == 0) h rfl (fun hc=>?_) (fun hc=>?_)
    ·have hc11:=hc;clear hc
     have hc11':=hc11;(try simp at hc11')
     refine rn za1 2 [(1,.gen _ _ _ fun _ _ _ _=>Op.strAdd (d:=70) (xt:=9) (yt:=9) (s1:=(⟨(rT s v why r (r.stem.length+r.cycle.length)).toArray⟩:ByteArray)) (s2:=(⟨#[99,121,99,108,101,58,10]⟩:ByteArray)) (r:=((⟨(rT s v why r (r.stem.length+r.cycle.length)).toArray⟩:ByteArray)++(⟨#[99,121,99,108,101,58,10]⟩:ByteArray))) (OV.tmp 69 _) (OV.const (.string (⟨#[99,121,99,108,101,58,10]⟩:ByteArray)) rfl) (by have:(⟨#[99,121,99,108,101,58,10]⟩:ByteArray).size=7:=rfl;omega) rfl)] [(8,.t (.c (.d (.raw (.string ByteArray.empty))))),(9,.t (.c (.d (.raw (.string ((⟨(rT s v why r (r.stem.length+r.cycle.length)).toArray⟩:ByteArray)++(⟨#[99,121,99,108,101,58,10]⟩:ByteArray)))))))] [] h ?_;clear h;intro a w h
     refine za4 ?_
     replace h:=h.conv (f':=F.of [(8,.t (.c (.d (.raw (.string ByteArray.empty))))),(9,.t (.c (.d (.raw (.string (⟨(zbs s v why r).toArray⟩:ByteArray))))))] []) (by rw [show (((⟨(rT s v why r (r.stem.length+r.cycle.length)).toArray⟩:ByteArray)++(⟨#[99,121,99,108,101,58,10]⟩:ByteArray)):ByteArray)=(⟨(zbs s v why r).toArray⟩:ByteArray) from (by rw [cyc_r,end_0 (by simpa using hc2) (by have:(r.cycle.length:Int)=0:=(by simpa using hc11);omega)])])
     refine rq za1 2 [] [(8,.t (.c (.d (.raw (.string (⟨(zbs s v why r).toArray⟩:ByteArray))))))] [] h ?_;clear h;intro a w h
     refine wp_ret ?_
     refine zaz [.c (.d (.raw (.string (⟨(zbs s v why r).toArray⟩:ByteArray))))] h Exit.ret (.inl rfl)  rfl ⟨RV.tmp _ _ rfl,trivial⟩ ?_
     rfl
    ·have hc12:=hc;clear hc
     have hc12':=hc12;(try simp at hc12')
     refine wp_skip (za4 ?_)
     replace h:=h.conv (f':=F.of [(8,.t (.c (.d (.raw (.string ByteArray.empty))))),(9,.t (.c (.d (.raw (.string (⟨(zbs s v why r).toArray⟩:ByteArray)))))),(68,vb ((r.cycle.length:Int) == 0))] []) (by rw [show ((⟨(rT s v why r (r.stem.length+r.cycle.length)).toArray⟩:ByteArray):ByteArray)=(⟨(zbs s v why r).toArray⟩:ByteArray) from (by rw [end_1 (by simpa using hc2) (by have:¬ (r.cycle.length:Int)=0:=(by simpa using hc12);omega)])])
     refine rq za1 2 [] [(8,.t (.c (.d (.raw (.string (⟨(zbs s v why r).toArray⟩:ByteArray))))))] [] h ?_;clear h;intro a w h
     refine wp_ret ?_
     refine zaz [.c (.d (.raw (.string (⟨(zbs s v why r).toArray⟩:ByteArray))))] h Exit.ret (.inl rfl)  rfl ⟨RV.tmp _ _ rfl,trivial⟩ ?_
     rfl
set_option maxHeartbeats 4000000 in
theorem RWrong (why:ByteArray) (ln cl e:Int) (hw:why.size≤1048576) (hln:-9223372036854775808≤ln∧ln≤9223372036854775807) (hcl:-9223372036854775808≤cl∧cl≤9223372036854775807) (he:-9223372036854775808≤e∧e≤9223372036854775807):Fn Tryd.prog 11 [] [.t (.c (.d (.raw (.string why)))),.t (.agg [cI ln,cI cl]),vi .i64 e] (vs ⟨(zbc why ln cl e).toArray⟩) []:=by
 have li1:=zd9 hln.1 hln.2
 have li2:=zd9 hcl.1 hcl.2
 have li3:=zd9 he.1 he.2
 refine Fn.body Tryd.func11 rfl 24 rfl fun w H B a h=>?_
 refine rq za1 0 [] [(0,.t (.c (.d (.raw (.string why))))),(2,vi .i64 e),(4,vp 0 0),(6,.t (.c (.d (.raw (.string ByteArray.empty)))))] [(0,.box [cI ln,cI cl])] h ?_;clear h;intro a w h
 refine rq za1 1 [(1,.gen _ _ _ fun _ _ _ _=>Op.strAdd (d:=8) (xt:=9) (yt:=9) (s1:=(⟨#[69,82,82,79,82,10]⟩:ByteArray)) (s2:=why) (r:=((⟨#[69,82,82,79,82,10]⟩:ByteArray)++why)) (OV.const (.string (⟨#[69,82,82,79,82,10]⟩:ByteArray)) rfl) (OV.tmp 7 _) (by have:(⟨#[69,82,82,79,82,10]⟩:ByteArray).size=6:=rfl;omega) rfl),(2,.gen _ _ _ fun _ _ _ _=>Op.strAdd (d:=9) (xt:=9) (yt:=9) (s1:=((⟨#[69,82,82,79,82,10]⟩:ByteArray)++why)) (s2:=(⟨#[32]⟩:ByteArray)) (r:=(((⟨#[69,82,82,79,82,10]⟩:ByteArray)++why)++(⟨#[32]⟩:ByteArray))) (OV.tmp 8 _) (OV.const (.string (⟨#[32]⟩:ByteArray)) rfl) (by (try simp only [ByteArray.size_append]);have:(⟨#[69,82,82,79,82,10]⟩:ByteArray).size=6:=rfl;have:(⟨#[32]⟩:ByteArray).size=1:=rfl;omega) rfl),(5,.call (zc7 ln hln.1 hln.2) pe1_3),(6,.gen _ _ _ fun _ _ _ _=>Op.strAdd (d:=13) (xt:=9) (yt:=9) (s1:=(((⟨#[69,82,82,79,82,10]⟩:ByteArray)++why)++(⟨#[32]⟩:ByteArray))) (s2:=(itW ln)) (r:=((((⟨#[69,82,82,79,82,10]⟩:ByteArray)++why)++(⟨#[32]⟩:ByteArray))++(itW ln))) (OV.tmp 9 _) (OV.tmp 12 _) (by (try simp only [ByteArray.size_append]);have:(⟨#[69,82,82,79,82,10]⟩:ByteArray).size=6:=rfl;have:(⟨#[32]⟩:ByteArray).size=1:=rfl;omega) rfl),(7,.gen _ _ _ fun _ _ _ _=>Op.strAdd (d:=14) (xt:=9) (yt:=9) (s1:=((((⟨#[69,82,82,79,82,10]⟩:ByteArray)++why)++(⟨#[32]⟩:ByteArray))++(itW ln))) (s2:=(⟨#[58]⟩:ByteArray)) (r:=(((((⟨#[69,82,82,79,82,10]⟩:ByteArray)++why)++(⟨#[32]⟩:ByteArray))++(itW ln))++(⟨#[58]⟩:ByteArray))) (OV.tmp 13 _) (OV.const (.string (⟨#[58]⟩:ByteArray)) rfl) (by (try simp only [ByteArray.size_append]);have:(⟨#[69,82,82,79,82,10]⟩:ByteArray).size=6:=rfl;have:(⟨#[32]⟩:ByteArray).size=1:=rfl;have:(⟨#[58]⟩:ByteArray).size=1:=rfl;omega) rfl),(10,.call (zc7 cl hcl.1 hcl.2) pe1_3),(11,.gen _ _ _ fun _ _ _ _=>Op.strAdd (d:=18) (xt:=9) (yt:=9) (s1:=(((((⟨#[69,82,82,79,82,10]⟩:ByteArray)++why)++(⟨#[32]⟩:ByteArray))++(itW ln))++(⟨#[58]⟩:ByteArray))) (s2:=(itW cl)) (r:=((((((⟨#[69,82,82,79,82,10]⟩:ByteArray)++why)++(⟨#[32]⟩:ByteArray))++(itW ln))++(⟨#[58]⟩:ByteArray))++(itW cl))) (OV.tmp 14 _) (OV.tmp 17 _) (by (try simp only [ByteArray.size_append]);have:(⟨#[69,82,82,79,82,10]⟩:ByteArray).size=6:=rfl;have:(⟨#[32]⟩:ByteArray).size=1:=rfl;have:(⟨#[58]⟩:ByteArray).size=1:=rfl;omega) rfl),(12,.gen _ _ _ fun _ _ _ _=>Op.strAdd (d:=19) (xt:=9) (yt:=9) (s1:=((((((⟨#[69,82,82,79,82,10]⟩:ByteArray)++why)++(⟨#[32]⟩:ByteArray))++(itW ln))++(⟨#[58]⟩:ByteArray))++(itW cl))) (s2:=(⟨#[32]⟩:ByteArray)) (r:=(((((((⟨#[69,82,82,79,82,10]⟩:ByteArray)++why)++(⟨#[32]⟩:ByteArray))++(itW ln))++(⟨#[58]⟩:ByteArray))++(itW cl))++(⟨#[32]⟩:ByteArray))) (OV.tmp 18 _) (OV.const (.string (⟨#[32]⟩:ByteArray)) rfl) (by (try simp only [ByteArray.size_append]);have:(⟨#[69,82,82,79,82,10]⟩:ByteArray).size=6:=rfl;have:(⟨#[32]⟩:ByteArray).size=1:=rfl;have:(⟨#[58]⟩:ByteArray).size=1:=rfl;omega) rfl),(14,.call (zc7 e he.1 he.2) pe1_3),(15,.gen _ _ _ fun _ _ _ _=>Op.strAdd (d:=22) (xt:=9) (yt:=9) (s1:=(((((((⟨#[69,82,82,79,82,10]⟩:ByteArray)++why)++(⟨#[32]⟩:ByteArray))++(itW ln))++(⟨#[58]⟩:ByteArray))++(itW cl))++(⟨#[32]⟩:ByteArray))) (s2:=(itW e)) (r:=((((((((⟨#[69,82,82,79,82,10]⟩:ByteArray)++why)++(⟨#[32]⟩:ByteArray))++(itW ln))++(⟨#[58]⟩:ByteArray))++(itW cl))++(⟨#[32]⟩:ByteArray))++(itW e))) (OV.tmp 19 _) (OV.tmp 21 _) (by (try simp only [ByteArray.size_append]);have:(⟨#[69,82,82,79,82,10]⟩:ByteArray).size=6:=rfl;have:(⟨#[32]⟩:ByteArray).size=1:=rfl;have:(⟨#[58]⟩:ByteArray).size=1:=rfl;omega) rfl),(16,.gen _ _ _ fun _ _ _ _=>Op.strAdd (d:=23) (xt:=9) (yt:=9) (s1:=((((((((⟨#[69,82,82,79,82,10]⟩:ByteArray)++why)++(⟨#[32]⟩:ByteArray))++(itW ln))++(⟨#[58]⟩:ByteArray))++(itW cl))++(⟨#[32]⟩:ByteArray))++(itW e))) (s2:=(⟨#[10]⟩:ByteArray)) (r:=(((((((((⟨#[69,82,82,79,82,10]⟩:ByteArray)++why)++(⟨#[32]⟩:ByteArray))++(itW ln))++(⟨#[58]⟩:ByteArray))++(itW cl))++(⟨#[32]⟩:ByteArray))++(itW e))++(⟨#[10]⟩:ByteArray))) (OV.tmp 22 _) (OV.const (.string (⟨#[10]⟩:ByteArray)) rfl) (by (try simp only [ByteArray.size_append]);have:(⟨#[69,82,82,79,82,10]⟩:ByteArray).size=6:=rfl;have:(⟨#[32]⟩:ByteArray).size=1:=rfl;have:(⟨#[58]⟩:ByteArray).size=1:=rfl;have:(⟨#[10]⟩:ByteArray).size=1:=rfl;omega) rfl)] [(6,.t (.c (.d (.raw (.string (((((((((⟨#[69,82,82,79,82,10]⟩:ByteArray)++why)++(⟨#[32]⟩:ByteArray))++(itW ln))++(⟨#[58]⟩:ByteArray))++(itW cl))++(⟨#[32]⟩:ByteArray))++(itW e))++(⟨#[10]⟩:ByteArray)))))))] [] h ?_;clear h;intro a w h
 refine wp_ret ?_
 refine zaz [.c (.d (.raw (.string (((((((((⟨#[69,82,82,79,82,10]⟩:ByteArray)++why)++(⟨#[32]⟩:ByteArray))++(itW ln))++(⟨#[58]⟩:ByteArray))++(itW cl))++(⟨#[32]⟩:ByteArray))++(itW e))++(⟨#[10]⟩:ByteArray)))))] h Exit.ret (.inl rfl)  rfl ⟨RV.tmp _ _ rfl,trivial⟩ ?_
 rw [← wrong_r];first | done | rfl
def fewB (L:Nat) (b:za0):Bool:=decide ((b.lo.abs.length:Int)≤(L:Int)) && decide ((b.hi.abs.length:Int)≤(L:Int))
def formT (t:Term):zab:=⟨2,⟨t,false⟩,[]⟩
def fewM (L:Nat) (m:zan):Bool:=fewF (formT m.t) 5 L
def fewA (L:Nat) (c:za5):Bool:=(fewF c.guard 30 L && decide ((c.moves.length:Int)≤20)) && c.moves.all (fewM L)
def fewSys (L:Nat) (s:zap):Bool:=(decide ((s.vars.length:Int)≤8∧(s.bounds.length:Int)≤20∧(s.procs.length:Int)≤6∧(s.acts.length:Int)≤20) && fewF s.init 30 L) && (s.bounds.all (fewB L) && s.acts.all (fewA L))
def zbx (L:Nat) (x:StD):Bool:=decide ((x.locs.length:Int)≤10∧(x.vals.length:Int)≤10) && x.vals.all fun z=>decide ((z.abs.length:Int)≤(L:Int))
/-- limbs that are limbs -/
structure SysRd (s:zap):Prop where
  init:s.init.lb
  bnd:∀ b ∈ s.bounds,Lb b.lo.abs∧Lb b.hi.abs
  act:∀ c ∈ s.acts,c.guard.lb∧∀ m ∈ c.moves,TLb m.t
  len:s.bounds.length≤9223372036854775807∧s.acts.length≤9223372036854775807
  mlen:∀ c ∈ s.acts,c.moves.length≤9223372036854775807
def StRd (x:StD):Prop:=(∀ z ∈ x.vals,Lb z.abs)∧x.vals.length≤9223372036854775807
theorem fewF_ok {f:zab} {most:Int} {L:Nat} (h:fewF f most L=true) (hl:f.lb):f.ok L:=by unfold fewF at h;rw [Bool.and_eq_true] at h;exact zab.few_ok f h.2 hl
theorem formT_lb {t:Term} (h:TLb t):(formT t).lb:=(zab.lb_eq _).2 ⟨⟨h,Nat.zero_le _⟩,fun g hg=>(by cases hg)⟩
theorem formT_ok {t:Term} {L:Nat} (h:(formT t).ok L):TOk 20 L t:=((zab.ok_eq L _).1 h).1 rfl
theorem few_sys {L:Nat} {s:zap} (h:fewSys L s=true) (hr:SysRd s):SysOk L s:=by
 unfold fewSys at h
 simp only [Bool.and_eq_true,decide_eq_true_eq,List.all_eq_true] at h
 obtain ⟨⟨⟨h1,h2,h3,h4⟩,h5⟩,h6,h7⟩:=h
 refine ⟨by omega,by omega,by omega,by omega,fun b hb=>?_,⟨hr.init,fewF_ok h5 hr.init⟩,fun c hc=>?_⟩
 ·have:=h6 b hb;unfold fewB at this;simp only [Bool.and_eq_true,decide_eq_true_eq] at this
  exact ⟨⟨(hr.bnd b hb).1,by omega⟩,(hr.bnd b hb).2,by omega⟩
 ·have:=h7 c hc;unfold fewA at this;simp only [Bool.and_eq_true,decide_eq_true_eq,List.all_eq_true] at this
  exact ⟨⟨(hr.act c hc).1,fewF_ok this.1.1 (hr.act c hc).1⟩,by omega,fun m hm=>formT_ok (fewF_ok (this.2 m hm) (formT_lb ((hr.act c hc).2 m hm)))⟩
theorem few_st {L:Nat} {x:StD} (h:zbx L x=true) (hr:StRd x):StOk L x:=by
 unfold zbx at h
 simp only [Bool.and_eq_true,decide_eq_true_eq,List.all_eq_true] at h
 exact ⟨by omega,by omega,fun z hz=>⟨hr.1 z hz,by have:=h.2 z hz;omega⟩⟩
set_option maxHeartbeats 4000000 in
theorem SFewSt (x:StD) (L:Nat) (hr:StRd x):Fn Tryd.prog 17 [] [.t (.agg [cIs x.locs,cZs x.vals]),vi .i64 (L:Int)] (vb (zbx L x)) []:=by
 have lv:=hr.2
 refine Fn.body Tryd.func17 rfl 32 rfl fun w H B a h=>?_
 refine rq za1 0 [] [(1,vi .i64 (L:Int)),(2,vp 0 0),(4,vb false)] [(0,.box [cIs x.locs,cZs x.vals])] h ?_;clear h;intro a w h
 refine wp_seq ?_
 rcases Bool.eq_false_or_eq_true (decide ((x.locs.length:Int)>10)) with hc | hc
 ·have hc1:=hc;clear hc
  have hc1':=of_decide_eq_true hc1
  refine rq za1 1 [(2,.len (c:=(cIs x.locs)) (n:=x.locs.length) (za8 _ _ _)),(3,.cmp (op:=.gtr) (m:=(x.locs.length:Int)) (n:=10) (b:=true) .i64 hc1)] [(1,vi .i64 (L:Int)),(2,vp 0 0),(4,vb false),(15,vb true)] [(0,.box [cIs x.locs,cZs x.vals])] h ?_;clear h;intro a w h
  refine zac true h rfl (fun hc=>?_) (fun hc=>?_)
  ·clear hc
   refine rq za1 1 [] [(1,vi .i64 (L:Int)),(2,vp 0 0),(4,vb false)] [(0,.box [cIs x.locs,cZs x.vals])] h ?_;clear h;intro a w h
   refine wp_ret (zah ?_)
   refine zaz [.c (cB false)] h Exit.ret (.inl rfl)  rfl ⟨RV.tmp _ _ rfl,trivial⟩ ?_
   have hz:zbx L x=false:=by unfold zbx;rw [decide_eq_false (p:=(x.locs.length:Int)≤10∧(x.vals.length:Int)≤10) (by have:=of_decide_eq_true hc1;omega)];rfl
   rw [hz];first | done | rfl
  ·cases hc
 ·have hc2:=hc;clear hc
  have hc2':=of_decide_eq_false hc2
  refine rq za1 1 [(2,.len (c:=(cIs x.locs)) (n:=x.locs.length) (za8 _ _ _)),(3,.cmp (op:=.gtr) (m:=(x.locs.length:Int)) (n:=10) (b:=false) .i64 hc2),(7,.len (c:=(cZs x.vals)) (n:=x.vals.length) (za8 _ _ _))] [(1,vi .i64 (L:Int)),(2,vp 0 0),(4,vb false),(15,vb (decide ((x.vals.length:Int)>10)))] [(0,.box [cIs x.locs,cZs x.vals])] h ?_;clear h;intro a w h
  refine zac (decide ((x.vals.length:Int)>10)) h rfl (fun hc=>?_) (fun hc=>?_)
  ·have hc3:=hc;clear hc
   have hc3':=of_decide_eq_true hc3
   refine rq za1 1 [] [(1,vi .i64 (L:Int)),(2,vp 0 0),(4,vb false)] [(0,.box [cIs x.locs,cZs x.vals])] h ?_;clear h;intro a w h
   refine wp_ret (zah ?_)
   refine zaz [.c (cB false)] h Exit.ret (.inl rfl)  rfl ⟨RV.tmp _ _ rfl,trivial⟩ ?_
   have hz:zbx L x=false:=by unfold zbx;rw [decide_eq_false (p:=(x.locs.length:Int)≤10∧(x.vals.length:Int)≤10) (by have:=of_decide_eq_true hc3;omega)];rfl
   rw [hz];first | done | rfl
  ·have hc4:=hc;clear hc
   have hc4':=of_decide_eq_false hc4
   refine wp_skip (za4 (wp_seq (rq za1 1 [] [(1,vi .i64 (L:Int)),(2,vp 0 0),(4,vb false),(5,vi .i64 0)] [(0,.box [cIs x.locs,cZs x.vals])] h ?_)));clear h;intro a w h
   refine wp_block ?_
   refine zci (ι:=(Nat)) (fun (z_:(Nat))=>match z_ with | j=>j≤x.vals.length∧(x.vals.take j).all (fun z=>decide ((z.abs.length:Int)≤(L:Int)))=true)
     (fun (z_:(Nat))=>match z_ with | j=>[(1,vi .i64 (L:Int)),(2,vp 0 0),(5,vi .i64 (j:Int))])
     (fun (z_:(Nat))=>match z_ with | j=>[(0,.box [cIs x.locs,cZs x.vals])])
     (fun (z_:(Nat))=>match z_ with | j=>x.vals.length - j) 0 ?_ h (by kernel_rfl) (by kernel_rfl) ?_
   ·exact ⟨Nat.zero_le _,rfl⟩
   ·clear h;rintro j a w hI h
    change St _ (F.of [(1,vi .i64 (L:Int)),(2,vp 0 0),(5,vi .i64 (j:Int))] [(0,.box [cIs x.locs,cZs x.vals])]) a w at h
    obtain ⟨hI1,hI2⟩:=hI
    refine wp_seq (rq za1 1 [(3,.len (c:=(cZs x.vals)) (n:=x.vals.length) (za8 _ _ _))] [(1,vi .i64 (L:Int)),(2,vp 0 0),(5,vi .i64 (j:Int)),(20,vb (decide ((j:Int)<(x.vals.length:Int))))] [(0,.box [cIs x.locs,cZs x.vals])] h ?_);clear h;intro a w h
    refine zac (decide ((j:Int)<(x.vals.length:Int))) h rfl (fun hc=>?_) (fun hc=>?_)
    ·have hc5:=hc;clear hc
     have hc5':=of_decide_eq_true hc5
     refine wp_skip (za4 (wp_seq (wp_block ?_)))
     obtain ⟨x1,hx1⟩:∃ z_:ZI,x.vals[j]?=some z_:=⟨_,List.getElem?_eq_getElem (by first | omega | (simp at *;omega))⟩
     refine rq za1 1 [(3,.gen _ _ _ fun _ _ _ _=>Op.idxD (d:=26) (t:=24) (k:=.i64) tt_6 (zam hx1 (f:=ziD)) (OV.tmp 25 _)),(6,.len (nsl_len x1.abs))] [(1,vi .i64 (L:Int)),(2,vp 0 0),(5,vi .i64 (j:Int)),(31,vb (decide ((x1.abs.length:Int)>(L:Int))))] [(0,.box [cIs x.locs,cZs x.vals])] h ?_;clear h;intro a w h
     refine zac (decide ((x1.abs.length:Int)>(L:Int))) h rfl (fun hc=>?_) (fun hc=>?_)
     ·have hc6:=hc;clear hc
      have hc6':=of_decide_eq_true hc6
      refine rq za1 1 [] [(1,vi .i64 (L:Int)),(2,vp 0 0),(4,vb false),(5,vi .i64 (j:Int))] [(0,.box [cIs x.locs,cZs x.vals])] h ?_;clear h;intro a w h
      refine wp_ret (zb4 (zah (zah (zb4 (zah ?_)))))
      refine zaz [.c (cB false)] h Exit.ret (.inl rfl)  rfl ⟨RV.tmp _ _ rfl,trivial⟩ ?_
      have hz:zbx L x=false:=by unfold zbx;rw [decide_eq_true (p:=(x.locs.length:Int)≤10∧(x.vals.length:Int)≤10) (by have:=of_decide_eq_false hc2;have:=of_decide_eq_false hc4;omega),Bool.true_and];exact all_stop hx1 (decide_eq_false (by have:=of_decide_eq_true hc6;omega))
      rw [hz];first | done | rfl
     ·have hc7:=hc;clear hc
      have hc7':=of_decide_eq_false hc7
      refine wp_skip (zai (za4 (rn za1 1 [(1,.add .i64 (m:=(j:Int)) (n:=1) (zaj (by omega) (by omega)))] [(1,vi .i64 (L:Int)),(2,vp 0 0),(5,vi .i64 ((j:Int)+1))] [(0,.box [cIs x.locs,cZs x.vals])] h ?_)));clear h;intro a w h
      refine za4 ?_
      refine zas (x:=j) (y:=j+1) h ?_ ?_
      ·exact ⟨by have:=zao hx1;omega,all_step hx1 hI2 (decide_eq_true (by have:=of_decide_eq_false hc7;omega))⟩
      ·show x.vals.length - (j+1)<x.vals.length - j
       have:=zao hx1;omega
    ·have hc8:=hc;clear hc
     have hc8':=of_decide_eq_false hc8
     refine wp_exit (zar (zar (zag (za4 (rq za1 1 [] [(4,vb true)] [] h ?_)))));clear h;intro a w h
     refine wp_ret ?_
     refine zaz [.c (cB true)] h Exit.ret (.inl rfl)  rfl ⟨RV.tmp _ _ rfl,trivial⟩ ?_
     have hz:zbx L x=true:=by unfold zbx;rw [decide_eq_true (p:=(x.locs.length:Int)≤10∧(x.vals.length:Int)≤10) (by have:=of_decide_eq_false hc2;have:=of_decide_eq_false hc4;omega),Bool.true_and];exact all_end (of_decide_eq_false hc8) hI2
     rw [hz];first | done | rfl
mutual
/-- y is x, with nil read as an empty slice here and there -/
inductive Wk:D→D→Prop
  | refl (x:D):Wk x x
  | nil (es:Nat):Wk (.raw za6) (.sl es [])
  | sl (es:Nat) (a b:List (List D)) (h:WkR a b):Wk (.sl es a) (.sl es b)
inductive WkL:List D→List D→Prop
  | nil:WkL [] []
  | cons (x y:D) (xs ys:List D) (h:Wk x y) (hs:WkL xs ys):WkL (x :: xs) (y :: ys)
inductive WkR:List (List D)→List (List D)→Prop
  | nil:WkR [] []
  | cons (x y:List D) (xs ys:List (List D)) (h:WkL x y) (hs:WkR xs ys):WkR (x :: xs) (y :: ys)
end
def WkM (x y:D):Prop:=∀ (H:Im) (v:Value),DR H x v→DR H y v
def WkLM (xs ys:List D):Prop:=xs.length=ys.length∧∀ j (h:j<xs.length) (h':j<ys.length),WkM xs[j] ys[j]
def WkRM (xs ys:List (List D)):Prop:=xs.length=ys.length∧∀ i (h:i<xs.length) (h':i<ys.length),WkLM xs[i] ys[i]
theorem Wk.sound {x y:D} (h:Wk x y):WkM x y:=by
 refine Wk.rec (motive_1:=fun x y _=>WkM x y) (motive_2:=fun x y _=>WkLM x y) (motive_3:=fun x y _=>WkRM x y) ?_ ?_ ?_ ?_ ?_ ?_ ?_ h
 ·intro x H v h;exact h
 ·intro es H v h
  cases h with
  | raw v h=>exact DR.nil _ _ _ (fun _=>rfl) (Nat.zero_le _)
 ·intro es a b _ ih H v h
  cases h with
  | nil es ao c h hc =>
   have:b=[]:=List.length_eq_zero_iff.1 ih.1.symm
   subst this
   exact DR.nil _ _ _ h hc
  | sl es rows bb o c arr ty fz vs hp hb hl hc hes hv hr =>
   rw [ih.1] at hp hl ⊢
   refine DR.sl es b bb o c arr ty fz vs hp hb hl hc (fun i hi=>?_) (fun i hi=>?_) (fun i hi j hj=>?_)
   ·have h0:i<a.length:=by rw [ih.1];exact hi
    rw [← (ih.2 i h0 hi).1];exact hes i h0
   ·exact hv i (by rw [ih.1];exact hi)
   ·have h0:i<a.length:=by rw [ih.1];exact hi
    have hj0:j<a[i].length:=by rw [(ih.2 i h0 hi).1];exact hj
    exact (ih.2 i h0 hi).2 j hj0 hj _ _ (hr i h0 j hj0)
 ·exact ⟨rfl,fun j h=>absurd h (Nat.not_lt_zero j)⟩
 ·intro x y xs ys _ _ h hs
  refine ⟨by simp [hs.1],fun j hj hj'=>?_⟩
  cases j with
  | zero=>exact h
  | succ j=>exact hs.2 j (by simpa using hj) (by simpa using hj')
 ·exact ⟨rfl,fun j h=>absurd h (Nat.not_lt_zero j)⟩
 ·intro x y xs ys _ _ h hs
  refine ⟨by simp [hs.1],fun j hj hj'=>?_⟩
  cases j with
  | zero=>exact h
  | succ j=>exact hs.2 j (by simpa using hj) (by simpa using hj')
inductive WkC:List C→List C→Prop
  | nil:WkC [] []
  | same (x:C) (xs ys:List C) (hs:WkC xs ys):WkC (x :: xs) (x :: ys)
  | d (x y:D) (xs ys:List C) (h:Wk x y) (hs:WkC xs ys):WkC (.d x :: xs) (.d y :: ys)
theorem WkC.sound {H:Im} {B:Bl} {xs ys:List C} (h:WkC xs ys):∀ {vs:List Value}, zal (CR H B) xs vs→zal (CR H B) ys vs:=by
 induction h with
 | nil=>exact fun h=>h
 | same x xs ys _ ih =>
  intro vs k
  cases vs with
  | nil=>exact k.elim
  | cons v vs=>exact ⟨k.1,ih k.2⟩
 | d x y xs ys h _ ih =>
  intro vs k
  cases vs with
  | nil=>exact k.elim
  | cons v vs=>exact ⟨h.sound H v k.1,ih k.2⟩
inductive WkV:V→V→Prop
  | refl (x:V):WkV x x
  | c (x y:D) (h:Wk x y):WkV (.t (.c (.d x))) (.t (.c (.d y)))
  | agg (xs ys:List C) (h:WkC xs ys):WkV (.t (.agg xs)) (.t (.agg ys))
theorem WkV.sound {H:Im} {B:Bl} {x y:V} (h:WkV x y) {v:Value} (k:VR H B x v):VR H B y v:=by
 cases h with
 | refl=>exact k
 | c x y h=>exact h.sound H v k
 | agg xs ys h=>obtain ⟨vs,e,k⟩:=k;exact ⟨vs,e,h.sound k⟩
inductive WkA:List V→List V→Prop
  | nil:WkA [] []
  | cons (x y:V) (xs ys:List V) (h:WkV x y) (hs:WkA xs ys):WkA (x :: xs) (y :: ys)
theorem WkA.sound {H:Im} {B:Bl} {xs ys:List V} (h:WkA xs ys):∀ {vs:List Value}, zal (VR H B) xs vs→zal (VR H B) ys vs:=by
 induction h with
 | nil=>exact fun h=>h
 | cons x y xs ys h _ ih =>
  intro vs k
  cases vs with
  | nil=>exact k.elim
  | cons v vs=>exact ⟨h.sound k.1,ih k.2⟩
theorem Fn.argw {P:Program} {k:FuncId} {ps qs:List (Nat × L)} {args args':List V} {res:V} (h:Fn P k ps args' res qs) (hw:WkA args args'):Fn P k ps args res qs :=
 fun w H B vals pre=>h w H B vals ⟨pre.sat,pre.loc,pre.priv,pre.inj,hw.sound pre.arg,pre.tab⟩
theorem kw_4:ElZ Tryd.prog 36 65 3:=ElZ.mk' Tryd.underlying36 _ _ rfl rfl (by kernel_rfl) (by kernel_rfl) (by kernel_rfl) (by decide)
theorem kx_3:ElZ Tryd.prog 40 68 2:=ElZ.mk' Tryd.underlying40 _ _ rfl rfl (by kernel_rfl) (by kernel_rfl) (by kernel_rfl) (by decide)
theorem ky_2:zaa Tryd.prog 17:=zaa.mk' (by kernel_rfl)
section
variable {w:World} {n:Nat}
theorem rep_raw {t e:TypeId} (hu:Tryd.prog.underlying t=some (.slice e)):zc8 w n t rawD (fun _=>True):=fun H enc base spare held fuel cs x hn hx=>by
 rcases DataW.trod_slice hu hx with ⟨rfl,_⟩ | ⟨a,len,cap,elems,rest,m,rfl,rfl,_⟩
 ·exact ⟨.raw _,trivial,DR.raw _ rfl,trivial⟩
 ·exact ⟨.raw _,trivial,DR.raw _ rfl,trivial⟩
theorem rep_ZIl:zc8 w n 66 (slD 2 ziD) (fun xs=>xs.length≤maxLen∧∀ x ∈ xs,Lb x.abs) :=
 zbe (k:=2) Tryd.underlying66 (by kernel_rfl) (by decide) (fun _=>rfl) rep_ZI
theorem rep_Rel:zc8 w n 32 RelD.d (fun r=>TLb r.t) :=
 ((zb1 (n:=n) Tryd.underlying32 (by kernel_rfl) (.cons (k0:=3) rfl (by kernel_rfl) rep_Term (.cons (k0:=1) rfl (by kernel_rfl) (zdk Tryd.underlying4) .nil))).map (fun p=>⟨p.1,p.2.1⟩) (fun _=>rfl) fun _ h=>h.1).mono (Nat.le_succ n)
theorem rep_Form:∀ {n:Nat}, zc8 w n 35 zab.d zab.lb
 | 0=>zc8.zero
 | n+1=>(zb1 (n:=n) Tryd.underlying35 (by kernel_rfl) (.cons (k0:=1) rfl (by kernel_rfl) (zbl Tryd.underlying3) (.cons (k0:=4) rfl (by kernel_rfl) rep_Rel (.cons (k0:=1) rfl (by kernel_rfl) (zbe (k:=6) Tryd.underlying33 (by kernel_rfl) (by decide) zab.d_len rep_Form) .nil)))).map (fun p=>⟨p.1,p.2.1,p.2.2.1⟩) (fun _=>(zab.d_eq _).trans rfl) fun _ h=>(zab.lb_eq _).2 ⟨⟨h.2.1,Nat.le_trans h.2.2.1.1 (by decide)⟩,h.2.2.1.2⟩
theorem rep_Bound:zc8 w n 156 za0.d (fun b=>Lb b.lo.abs∧Lb b.hi.abs) :=
 ((zb1 (n:=n) Tryd.underlying156 (by kernel_rfl) (.cons (k0:=1) rfl (by kernel_rfl) (zdk Tryd.underlying4) (.cons (k0:=2) rfl (by kernel_rfl) rep_ZI (.cons (k0:=2) rfl (by kernel_rfl) rep_ZI .nil)))).map (fun p=>⟨p.1,p.2.1,p.2.2.1⟩) (fun _=>rfl) fun _ h=>⟨h.2.1,h.2.2.1⟩).mono (Nat.le_succ n)
theorem rep_Move:zc8 w n 167 zan.d (fun m=>TLb m.t) :=
 ((zb1 (n:=n) Tryd.underlying167 (by kernel_rfl) (.cons (k0:=1) rfl (by kernel_rfl) (zbl Tryd.underlying3) (.cons (k0:=1) rfl (by kernel_rfl) (zdk Tryd.underlying4) (.cons (k0:=3) rfl (by kernel_rfl) rep_Term .nil)))).map (fun p=>⟨p.1,p.2.1,p.2.2.1⟩) (fun _=>rfl) fun _ h=>h.2.2.1).mono (Nat.le_succ n)
theorem rep_Moves:zc8 w n 99 (slD 5 zan.d) (fun xs=>xs.length≤maxLen∧∀ x ∈ xs,TLb x.t) :=
 zbe (k:=5) Tryd.underlying99 (by kernel_rfl) (by decide) (fun _=>rfl) rep_Move
theorem rep_Bounds:zc8 w n 23 (slD 5 za0.d) (fun xs=>xs.length≤maxLen∧∀ x ∈ xs,Lb x.lo.abs∧Lb x.hi.abs) :=
 zbe (k:=5) Tryd.underlying23 (by kernel_rfl) (by decide) (fun _=>rfl) rep_Bound
theorem rep_Act:zc8 w n 101 za5.d (fun c=>c.guard.lb∧c.moves.length≤maxLen∧∀ m ∈ c.moves,TLb m.t) :=
 ((zb1 (n:=n) Tryd.underlying101 (by kernel_rfl) (.cons (k0:=1) rfl (by kernel_rfl) (zbl Tryd.underlying3) (.cons (k0:=1) rfl (by kernel_rfl) (zbl Tryd.underlying3) (.cons (k0:=1) rfl (by kernel_rfl) (zbl Tryd.underlying3) (.cons (k0:=6) rfl (by kernel_rfl) rep_Form (.cons (k0:=1) rfl (by kernel_rfl) rep_Moves .nil)))))).map (fun p=>⟨p.1,p.2.1,p.2.2.1,p.2.2.2.1,p.2.2.2.2.1⟩) (fun _=>by rw [zab.d_eq];rfl) fun _ h=>⟨h.2.2.2.1,h.2.2.2.2.1⟩).mono (Nat.le_succ n)
theorem rep_State:zc8 w n 68 StD.d StRd :=
 ((zb1 (n:=n) Tryd.underlying68 (by kernel_rfl) (.cons (k0:=1) rfl (by kernel_rfl) rep_ints (.cons (k0:=1) rfl (by kernel_rfl) rep_ZIl .nil))).map (fun p=>⟨p.1,p.2.1⟩) (fun _=>rfl) fun _ h=>⟨h.2.1.2,Nat.le_trans h.2.1.1 (by decide)⟩).mono (Nat.le_succ n)
end
structure RunRd (r:zbo):Prop where
  stem:∀ x ∈ r.stem,StRd x
  cycle:∀ x ∈ r.cycle,StRd x
  len:r.stem.length+r.cycle.length≤9223372036854775807
  acts:r.acts.length≤9223372036854775807
theorem st0_rd:StRd st0:=⟨fun z hz=>(by cases hz),Nat.zero_le _⟩
theorem RunRd.at {r:zbo} (h:RunRd r) (i:Nat):StRd (zaf r i):=by
 unfold zaf
 cases hx:(r.stem++r.cycle)[i]? with
 | none=>exact st0_rd
 | some x=>exact (List.mem_append.1 (List.mem_of_getElem? hx)).elim (h.stem x) (h.cycle x)
theorem pn1_5:zaa Tryd.prog 8:=zaa.mk' (by kernel_rfl)
theorem pn1_6:zaa Tryd.prog 12:=zaa.mk' (by kernel_rfl)
theorem pn1_7:zaa Tryd.prog 10:=zaa.mk' (by kernel_rfl)
theorem pn1_12:zaa Tryd.prog 6:=zaa.mk' (by kernel_rfl)
theorem pn1_13:zaa Tryd.prog 7:=zaa.mk' (by kernel_rfl)
theorem pn1_14:zaa Tryd.prog 9:=zaa.mk' (by kernel_rfl)
theorem pn1_15:zaa Tryd.prog 11:=zaa.mk' (by kernel_rfl)
def sysA:zap:=⟨[⟨#[120]⟩],[],form0,[⟨⟨#[112]⟩,[⟨#[97]⟩],.raw za6⟩],[]⟩
def runA:zbo:=⟨[],[⟨[0],[⟨false,[]⟩]⟩],[-1]⟩
theorem mem1A {α:Type} {x y:α} (h:x ∈ [y]):x=y:=by simpa using h
theorem sysA_tx:zc2 sysA:=⟨fun v hv=>by rw [mem1A hv];decide,fun p hp=>by rw [mem1A hp];decide,fun p hp t ht=>by rw [mem1A hp] at ht;rw [mem1A ht];decide⟩
theorem runA_ok:RnOk runA:=⟨fun x hx=>(by cases hx),fun x hx=>(by rw [mem1A hx];exact ⟨by decide,by decide,fun z hz=>by rw [mem1A hz];exact ⟨Lb_nil,by decide⟩⟩),by decide,by decide⟩
theorem itW_dig {u:Nat} (h:u<10):itW (u:Int)=⟨#[UInt8.ofNat (48+u)]⟩:=by
 unfold itW Lib.itoa;rw [if_neg (by omega),Int.toNat_natCast,zdb h]
theorem itW_101:itW 101=⟨#[49,48,49]⟩:=by
 unfold itW Lib.itoa;rw [if_neg (by decide),show (101:Int).toNat=101 from rfl,decD_more (by decide),decD_more (u:=101 / 10) (by decide),zdb (u:=101 / 10 / 10) (by decide)];rfl
theorem aState:stW sysA ⟨[0],[⟨false,[]⟩]⟩=⟨#[112,64,97,32,120,61,48]⟩:=by
 have h:vaN sysA ⟨[0],[⟨false,[]⟩]⟩ 1=[⟨#[120,61,48]⟩]:=by
  show [vaW sysA 0 ⟨false,[]⟩]=_
  unfold vaW
  rw [show itW (ZI.val ⟨false,[]⟩)=⟨#[48]⟩ from itW_dig (u:=0) (by decide)]
  rfl
 show za7 (plN sysA ⟨[0],[⟨false,[]⟩]⟩ 1++vaN sysA ⟨[0],[⟨false,[]⟩]⟩ 1) ⟨#[32]⟩=_
 rw [h]
 rfl
theorem aText:zbs sysA 2 ⟨#[97,108,108,32,115,116,97,116,101,115]⟩ runA=[86,73,79,76,65,84,69,68,10,119,104,121,58,32,97,108,108,32,115,116,97,116,101,115,10,115,116,101,109,58,10,99,121,99,108,101,58,10,32,32,112,64,97,32,120,61,48,32,47,32,115,116,117,116,116,101,114,10]:=by
 unfold zbs
 rw [if_pos rfl]
 have h:zb3 sysA runA.acts runA.stem.length runA.cycle runA.cycle.length=[32,32,112,64,97,32,120,61,48,32,47,32,115,116,117,116,116,101,114,10]:=by
  show stLn sysA [-1] 0 ⟨[0],[⟨false,[]⟩]⟩++[]=_
  rw [List.append_nil]
  unfold stLn
  rw [aState]
  rfl
 unfold runW
 rw [h]
 rfl
theorem aWrong:zbc ⟨#[109,111,100,101,108]⟩ 1 2 101=[69,82,82,79,82,10,109,111,100,101,108,32,49,58,50,32,49,48,49,10]:=by
 unfold zbc wrongL
 rw [show itW 1=⟨#[49]⟩ from itW_dig (u:=1) (by decide),show itW 2=⟨#[50]⟩ from itW_dig (u:=2) (by decide),itW_101]
 rfl
theorem aRead:rdW ⟨#[86,73,79,76,65,84,69,68,10,119,104,121,58,32,97,108,108,32,115,116,97,116,101,115,10,115,116,101,109,58,10,99,121,99,108,101,58,10,32,32,112,64,97,32,120,61,48,32,47,32,115,116,117,116,116,101,114,10]⟩=(2,⟨#[97,108,108,32,115,116,97,116,101,115]⟩,0):=by
 rw [zd4 (a:=zad 2) (b:=⟨#[119,104,121,58,32,97,108,108,32,115,116,97,116,101,115]⟩) (by kernel_rfl) (by kernel_rfl),show vdW (zad 2)=(2,true) from vdW_hit (j:=1) (by decide) (zcv _),if_neg (by simp),if_neg (by decide),if_pos (by decide)]
 rfl
theorem aRead0:rdW ⟨#[77,65,89,66,69,10,119,104,121,58,32,10]⟩=(0,ByteArray.empty,20):=by
 rw [zd4 (a:=⟨#[77,65,89,66,69]⟩) (b:=⟨#[119,104,121,58,32]⟩) (by kernel_rfl) (by kernel_rfl),vdW_miss (fun i hi=>by rw [eqB_data];match i,hi with | 0,_=>rfl | 1,_=>rfl | 2,_=>rfl | 3,_=>rfl),if_pos rfl]
theorem aLines:(zcc ⟨#[97,10,10,98]⟩).length=3:=by kernel_rfl
def zbp (s:zap) (r:zbo):Bool:=decide ((s.acts.length:Int)≤100∧(r.stem.length:Int)+(r.cycle.length:Int)≤10∧(r.acts.length:Int)≤30) && allN (r.stem.length+r.cycle.length) fun i=>zbx 4 (zaf r i)
theorem smallW_no {s:zap} {r:zbo} (h:(s.acts.length:Int)>100∨(r.stem.length:Int)+(r.cycle.length:Int)>10∨(r.acts.length:Int)>30):zbp s r=false:=by unfold zbp;rw [decide_eq_false (by omega),Bool.false_and]
theorem smallW_st {s:zap} {r:zbo} {i:Nat} (hi:i<r.stem.length+r.cycle.length) (h:zbx 4 (zaf r i)=false):zbp s r=false:=by
 cases hs:zbp s r with
 | false=>rfl
 | true =>
  unfold zbp at hs
  rw [Bool.and_eq_true] at hs
  have:=zcz.1 hs.2 i hi
  rw [h] at this;cases this
theorem smallW_yes {s:zap} {r:zbo} (h1:¬ (s.acts.length:Int)>100) (h2:¬ (r.stem.length:Int)+(r.cycle.length:Int)>10) (h3:¬ (r.acts.length:Int)>30) (h:allN (r.stem.length+r.cycle.length) (fun i=>zbx 4 (zaf r i))=true):zbp s r=true:=by
 unfold zbp;rw [h,Bool.and_true,decide_eq_true_eq];omega
theorem small_ok {s:zap} {r:zbo} (h:zbp s r=true) (hr:RunRd r):RnOk r∧s.acts.length≤1000000:=by
 unfold zbp at h
 rw [Bool.and_eq_true,decide_eq_true_eq] at h
 obtain ⟨⟨h1,h2,h3⟩,h4⟩:=h
 have key:∀ i,i<r.stem.length+r.cycle.length→StOk 4 (zaf r i):=fun i hi=>few_st (zcz.1 h4 i hi) (hr.at i)
 refine ⟨⟨fun x hx=>?_,fun x hx=>?_,by omega,by omega⟩,by omega⟩
 ·obtain ⟨i,hi⟩:=List.mem_iff_getElem?.1 hx
  have hl:=zao hi
  have e:=zd3 (r:=r) hl
  rw [hi] at e;injection e with e;rw [e];exact key i (by omega)
 ·obtain ⟨i,hi⟩:=List.mem_iff_getElem?.1 hx
  have hl:=zao hi
  have e:=zcq (r:=r) (i:=r.stem.length+i) (by omega) (by omega)
  rw [show r.stem.length+i - r.stem.length=i by omega,hi] at e;injection e with e;rw [e];exact key _ (by omega)
theorem wkA:WkA [.t (.agg [.d (.sl 1 ([(⟨#[120]⟩:ByteArray)].map za3)),.d (.raw za6),.d (.raw (.int .i64 0)),.d (.raw za6),.d (.raw (.bool false)),.d (nsl []),.d (.raw (.bool false)),.d (.raw za6),.d (.sl 3 ([(za2.mk (⟨#[112]⟩:ByteArray) [(⟨#[97]⟩:ByteArray)] (.raw za6))].map za2.d)),.d (.raw za6)]),.t (.agg [.d (.raw (.int .i64 2)),.d (.raw (.string (⟨#[97,108,108,32,115,116,97,116,101,115]⟩:ByteArray))),.d (.raw za6),.d (.sl 2 ([(StD.mk [0] [(ZI.mk false [])])].map StD.d)),.d (.sl 1 ([(-1)].map zdg)),.d (.raw (.int .i64 0)),.d (.raw (.int .i64 0))])] [.t (.agg [.d (.sl 1 (sysA.vars.map za3)),.d (.sl 5 (sysA.bounds.map za0.d)),.d (.raw (.int .i64 sysA.init.kind)),.d (.sl 3 (sysA.init.r.t.parts.map zdd.d)),.d (.raw (.bool sysA.init.r.t.k.neg)),.d (nsl sysA.init.r.t.k.abs),.d (.raw (.bool sysA.init.r.eq)),.d (.sl 6 (sysA.init.kids.map zab.d)),.d (.sl 3 (sysA.procs.map za2.d)),.d (.sl 10 (sysA.acts.map za5.d))]),.t (.agg [.d (.raw (.int .i64 2)),.d (.raw (.string (⟨#[97,108,108,32,115,116,97,116,101,115]⟩:ByteArray))),.d (.sl 2 (runA.stem.map StD.d)),.d (.sl 2 (runA.cycle.map StD.d)),.d (.sl 1 (runA.acts.map zdg)),.d (.raw (.int .i64 0)),.d (.raw (.int .i64 0))])]:=by
 refine .cons _ _ _ _ (WkV.agg _ _ ?_) (.cons _ _ _ _ (WkV.agg _ _ ?_) .nil)
 all_goals repeat (first | exact WkC.nil | refine WkC.same _ _ _ ?_ | refine WkC.d _ _ _ _ (Wk.nil _) ?_ | refine WkC.d _ _ _ _ (Wk.sl _ _ _ (.cons _ _ _ _ (by repeat (first | exact WkL.nil | refine WkL.cons _ _ _ _ (by first | exact Wk.refl _ | exact Wk.nil _) ?_)) .nil)) ?_)
set_option maxHeartbeats 4000000 in
theorem LAlive26 :Fn Tryd.prog 6 [] [] (vb true) []:=by
 refine Fn.body Tryd.func6 rfl 65 rfl fun w H B a h=>?_
 refine rq za1 30 [] [(0,vb false)] [] h ?_;clear h;intro a w h
 refine rq za1 30 [(0,.gen _ _ _ fun _ _ _ _=>Op.buildD (d:=10) (len:=1) (rows:=[(⟨#[120]⟩:ByteArray)].map za3) (rs:=[]) zd5 (.cons (i:=0) (OV.const (.string (⟨#[120]⟩:ByteArray)) rfl) (.nil)) (by kernel_rfl) rfl (by simp [za3]) (by decide) (by decide)),(1,.gen _ _ _ fun _ _ _ _=>Op.buildD (d:=11) (len:=1) (rows:=[(⟨#[97]⟩:ByteArray)].map za3) (rs:=[]) zd5 (.cons (i:=0) (OV.const (.string (⟨#[97]⟩:ByteArray)) rfl) (.nil)) (by kernel_rfl) rfl (by simp [za3]) (by decide) (by decide)),(3,.gen _ _ _ fun _ _ _ _=>Op.buildD (d:=13) (len:=1) (rows:=[(za2.mk (⟨#[112]⟩:ByteArray) [(⟨#[97]⟩:ByteArray)] (.raw za6))].map za2.d) (rs:=[(12,.t (.agg [.d (.raw (.string (⟨#[112]⟩:ByteArray))),.d (.sl 1 ([(⟨#[97]⟩:ByteArray)].map za3)),.d (.raw za6)]))]) kw_4 (.cons (i:=0) (OV.tmp 12 _) (.nil)) (by kernel_rfl) rfl (by simp [za2.d]) (by decide) (by decide))] [(0,vb false),(1,vp 30 0)] [(30,.box [.d (.sl 1 ([(⟨#[120]⟩:ByteArray)].map za3)),.d (.raw za6),cI 0,.d (.raw za6),cB false,.d (nsl []),cB false,.d (.raw za6),.d (.sl 3 ([(za2.mk (⟨#[112]⟩:ByteArray) [(⟨#[97]⟩:ByteArray)] (.raw za6))].map za2.d)),.d (.raw za6)])] h ?_;clear h;intro a w h
 refine rq za1 31 [(0,.gen _ _ _ fun _ _ _ _=>Op.buildD (d:=15) (len:=1) (rows:=[0].map zdg) (rs:=[]) tb_0 (.cons (i:=0) (OV.const (.int .i64 0) rfl) (.nil)) (by kernel_rfl) rfl (by simp [zdg]) (by decide) (by decide)),(2,.gen _ _ _ fun _ _ _ _=>Op.buildD (d:=17) (len:=1) (rows:=[(ZI.mk false [])].map ziD) (rs:=[(16,.t (.agg [cB false,.d (nsl [])]))]) kk_3 (.cons (i:=0) (OV.tmp 16 _) (.nil)) (by kernel_rfl) rfl (by simp [ziD]) (by decide) (by decide)),(4,.gen _ _ _ fun _ _ _ _=>Op.buildD (d:=19) (len:=1) (rows:=[(StD.mk [0] [(ZI.mk false [])])].map StD.d) (rs:=[(18,.t (.agg [cIs [0],cZs [(ZI.mk false [])]]))]) kx_3 (.cons (i:=0) (OV.tmp 18 _) (.nil)) (by kernel_rfl) rfl (by simp [StD.d]) (by decide) (by decide)),(5,.gen _ _ _ fun _ _ _ _=>Op.buildD (d:=20) (len:=1) (rows:=[(-1)].map zdg) (rs:=[]) tb_0 (.cons (i:=0) (OV.const (.int .i64 (-1)) rfl) (.nil)) (by kernel_rfl) rfl (by simp [zdg]) (by decide) (by decide))] [(0,vb false),(1,vp 30 0),(2,vp 31 0)] [(30,.box [.d (.sl 1 ([(⟨#[120]⟩:ByteArray)].map za3)),.d (.raw za6),cI 0,.d (.raw za6),cB false,.d (nsl []),cB false,.d (.raw za6),.d (.sl 3 ([(za2.mk (⟨#[112]⟩:ByteArray) [(⟨#[97]⟩:ByteArray)] (.raw za6))].map za2.d)),.d (.raw za6)]),(31,.box [.d (.raw za6),.d (.sl 2 ([(StD.mk [0] [(ZI.mk false [])])].map StD.d)),cIs [(-1)]])] h ?_;clear h;intro a w h
 refine rq za1 32 [(3,.call (Fn.cast (Fn.argw (PText sysA 2 (⟨#[97,108,108,32,115,116,97,116,101,115]⟩:ByteArray) runA 0 0 sysA_tx (by decide) runA_ok (by decide)) wkA) (congrArg (fun z:List UInt8=>vs ⟨z.toArray⟩) aText)) pn1_5)] [(0,vb false),(3,.t (.c (.d (.raw (.string (⟨#[86,73,79,76,65,84,69,68,10,119,104,121,58,32,97,108,108,32,115,116,97,116,101,115,10,115,116,101,109,58,10,99,121,99,108,101,58,10,32,32,112,64,97,32,120,61,48,32,47,32,115,116,117,116,116,101,114,10]⟩:ByteArray))))))] [] h ?_;clear h;intro a w h
 refine rq za1 32 [(1,.call (Fn.cast (PRead (⟨#[86,73,79,76,65,84,69,68,10,119,104,121,58,32,97,108,108,32,115,116,97,116,101,115,10,115,116,101,109,58,10,99,121,99,108,101,58,10,32,32,112,64,97,32,120,61,48,32,47,32,115,116,117,116,116,101,114,10]⟩:ByteArray) (by decide)) (congrArg (fun z:Int × ByteArray × Int=>V.tup [.c (cI z.1),.c (.d (.raw (.string z.2.1))),.c (cI z.2.2)]) aRead)) pn1_6)] [(0,vb false),(3,.t (.c (.d (.raw (.string (⟨#[86,73,79,76,65,84,69,68,10,119,104,121,58,32,97,108,108,32,115,116,97,116,101,115,10,115,116,101,109,58,10,99,121,99,108,101,58,10,32,32,112,64,97,32,120,61,48,32,47,32,115,116,117,116,116,101,114,10]⟩:ByteArray)))))),(4,vi .i64 2),(5,.t (.c (.d (.raw (.string (⟨#[97,108,108,32,115,116,97,116,101,115]⟩:ByteArray)))))),(6,vi .i64 0)] [] h ?_;clear h;intro a w h
 refine rq za1 32 [(0,.call (Fn.cast (PRead (⟨#[77,65,89,66,69,10,119,104,121,58,32,10]⟩:ByteArray) (by decide)) (congrArg (fun z:Int × ByteArray × Int=>V.tup [.c (cI z.1),.c (.d (.raw (.string z.2.1))),.c (cI z.2.2)]) aRead0)) pn1_6)] [(0,vb false),(3,.t (.c (.d (.raw (.string (⟨#[86,73,79,76,65,84,69,68,10,119,104,121,58,32,97,108,108,32,115,116,97,116,101,115,10,115,116,101,109,58,10,99,121,99,108,101,58,10,32,32,112,64,97,32,120,61,48,32,47,32,115,116,117,116,116,101,114,10]⟩:ByteArray)))))),(4,vi .i64 2),(5,.t (.c (.d (.raw (.string (⟨#[97,108,108,32,115,116,97,116,101,115]⟩:ByteArray)))))),(6,vi .i64 0),(9,vi .i64 20)] [] h ?_;clear h;intro a w h
 refine rq za1 32 [(1,.gen _ _ _ fun _ _ _ _=>Op.strEq (d:=38) (xt:=9) (yt:=9) (s1:=(⟨#[86,73,79,76,65,84,69,68,10,119,104,121,58,32,97,108,108,32,115,116,97,116,101,115,10,115,116,101,109,58,10,99,121,99,108,101,58,10,32,32,112,64,97,32,120,61,48,32,47,32,115,116,117,116,116,101,114,10]⟩:ByteArray)) (s2:=(⟨#[86,73,79,76,65,84,69,68,10,119,104,121,58,32,97,108,108,32,115,116,97,116,101,115,10,115,116,101,109,58,10,99,121,99,108,101,58,10,32,32,112,64,97,32,120,61,48,32,47,32,115,116,117,116,116,101,114,10]⟩:ByteArray)) (r:=true) (OV.tmp 37 _) (OV.const (.string (⟨#[86,73,79,76,65,84,69,68,10,119,104,121,58,32,97,108,108,32,115,116,97,116,101,115,10,115,116,101,109,58,10,99,121,99,108,101,58,10,32,32,112,64,97,32,120,61,48,32,47,32,115,116,117,116,116,101,114,10]⟩:ByteArray)) rfl) (beq_self_eq_true _)),(4,.cmp (op:=.eql) (m:=2) (n:=2) (b:=true) .i64 rfl),(8,.gen _ _ _ fun _ _ _ _=>Op.strEq (d:=45) (xt:=9) (yt:=9) (s1:=(⟨#[97,108,108,32,115,116,97,116,101,115]⟩:ByteArray)) (s2:=(⟨#[97,108,108,32,115,116,97,116,101,115]⟩:ByteArray)) (r:=true) (OV.tmp 44 _) (OV.const (.string (⟨#[97,108,108,32,115,116,97,116,101,115]⟩:ByteArray)) rfl) (beq_self_eq_true _)),(12,.cmp (op:=.eql) (m:=0) (n:=0) (b:=true) .i64 rfl),(16,.cmp (op:=.eql) (m:=20) (n:=20) (b:=true) .i64 rfl),(20,.call (Fn.cast (PWrong (⟨#[109,111,100,101,108]⟩:ByteArray) 1 2 101 (by decide) (by decide) (by decide) (by decide)) (congrArg (fun z:List UInt8=>vs ⟨z.toArray⟩) aWrong)) pn1_7),(21,.gen _ _ _ fun _ _ _ _=>Op.strEq (d:=58) (xt:=9) (yt:=9) (s1:=(⟨#[69,82,82,79,82,10,109,111,100,101,108,32,49,58,50,32,49,48,49,10]⟩:ByteArray)) (s2:=(⟨#[69,82,82,79,82,10,109,111,100,101,108,32,49,58,50,32,49,48,49,10]⟩:ByteArray)) (r:=true) (OV.tmp 57 _) (OV.const (.string (⟨#[69,82,82,79,82,10,109,111,100,101,108,32,49,58,50,32,49,48,49,10]⟩:ByteArray)) rfl) (beq_self_eq_true _)),(24,.call (PLines (⟨#[97,10,10,98]⟩:ByteArray) (by decide)) pm1_1),(25,.len (c:=(.d (.sl 1 ((zcc (⟨#[97,10,10,98]⟩:ByteArray)).map za3)))) (n:=(zcc (⟨#[97,10,10,98]⟩:ByteArray)).length) (za8 _ _ _)),(26,.cmp (op:=.eql) (m:=((zcc (⟨#[97,10,10,98]⟩:ByteArray)).length:Int)) (n:=3) (b:=true) .i64 (show (((zcc (⟨#[97,10,10,98]⟩:ByteArray)).length:Int) == 3)=true from by rw [aLines];rfl))] [(0,vb true)] [] h ?_;clear h;intro a w h
 refine wp_ret ?_
 refine zaz [.c (cB true)] h Exit.ret (.inl rfl)  rfl ⟨RV.tmp _ _ rfl,trivial⟩ ?_
 rfl
set_option maxHeartbeats 4000000 in
theorem LSmall (s:zap) (r:zbo) (_hs:s.acts.length≤9223372036854775807) (hr:RunRd r):Fn Tryd.prog 7 [] [.t (.agg [.d (.sl 1 (s.vars.map za3)),.d (.sl 5 (s.bounds.map za0.d)),cI s.init.kind,cPs s.init.r.t.parts,cB s.init.r.t.k.neg,.d (nsl s.init.r.t.k.abs),cB s.init.r.eq,cFs s.init.kids,.d (.sl 3 (s.procs.map za2.d)),.d (.sl 10 (s.acts.map za5.d))]),.t (.agg [.d (.sl 2 (r.stem.map StD.d)),.d (.sl 2 (r.cycle.map StD.d)),cIs r.acts])] (vb (zbp s r)) []:=by
 have hrl:=hr.len
 have hra:=hr.acts
 refine Fn.body Tryd.func7 rfl 42 rfl fun w H B a h=>?_
 refine rq za1 0 [] [(2,vp 0 0),(3,vp 1 0),(4,vb false)] [(0,.box [.d (.sl 1 (s.vars.map za3)),.d (.sl 5 (s.bounds.map za0.d)),cI s.init.kind,cPs s.init.r.t.parts,cB s.init.r.t.k.neg,.d (nsl s.init.r.t.k.abs),cB s.init.r.eq,cFs s.init.kids,.d (.sl 3 (s.procs.map za2.d)),.d (.sl 10 (s.acts.map za5.d))]),(1,.box [.d (.sl 2 (r.stem.map StD.d)),.d (.sl 2 (r.cycle.map StD.d)),cIs r.acts])] h ?_;clear h;intro a w h
 refine wp_seq ?_
 rcases Bool.eq_false_or_eq_true (decide ((s.acts.length:Int)>100)) with hc | hc
 ·have hc1:=hc;clear hc
  have hc1':=of_decide_eq_true hc1
  refine rq za1 2 [(2,.len (c:=(.d (.sl 10 (s.acts.map za5.d)))) (n:=s.acts.length) (za8 _ _ _)),(3,.cmp (op:=.gtr) (m:=(s.acts.length:Int)) (n:=100) (b:=true) .i64 hc1)] [(3,vp 1 0),(4,vb false),(25,vb true)] [(1,.box [.d (.sl 2 (r.stem.map StD.d)),.d (.sl 2 (r.cycle.map StD.d)),cIs r.acts])] h ?_;clear h;intro a w h
  refine zac true h rfl (fun hc=>?_) (fun hc=>?_)
  ·clear hc
   refine rq za1 2 [] [(3,vp 1 0),(4,vb false)] [(1,.box [.d (.sl 2 (r.stem.map StD.d)),.d (.sl 2 (r.cycle.map StD.d)),cIs r.acts])] h ?_;clear h;intro a w h
   refine wp_ret (zah ?_)
   refine zaz [.c (cB false)] h Exit.ret (.inl rfl)  rfl ⟨RV.tmp _ _ rfl,trivial⟩ ?_
   rw [smallW_no (.inl (of_decide_eq_true hc1))];first | done | rfl
  ·cases hc
 ·have hc2:=hc;clear hc
  have hc2':=of_decide_eq_false hc2
  rcases Bool.eq_false_or_eq_true (decide (((r.stem.length:Int)+(r.cycle.length:Int))>10)) with hc | hc
  ·have hc3:=hc;clear hc
   have hc3':=of_decide_eq_true hc3
   refine rq za1 2 [(2,.len (c:=(.d (.sl 10 (s.acts.map za5.d)))) (n:=s.acts.length) (za8 _ _ _)),(3,.cmp (op:=.gtr) (m:=(s.acts.length:Int)) (n:=100) (b:=false) .i64 hc2),(7,.len (c:=(.d (.sl 2 (r.stem.map StD.d)))) (n:=r.stem.length) (za8 _ _ _)),(10,.len (c:=(.d (.sl 2 (r.cycle.map StD.d)))) (n:=r.cycle.length) (za8 _ _ _)),(11,.add .i64 (m:=(r.stem.length:Int)) (n:=(r.cycle.length:Int)) (zaj (by omega) (by omega))),(12,.cmp (op:=.gtr) (m:=((r.stem.length:Int)+(r.cycle.length:Int))) (n:=10) (b:=true) .i64 hc3)] [(3,vp 1 0),(4,vb false),(25,vb true)] [(1,.box [.d (.sl 2 (r.stem.map StD.d)),.d (.sl 2 (r.cycle.map StD.d)),cIs r.acts])] h ?_;clear h;intro a w h
   refine zac true h rfl (fun hc=>?_) (fun hc=>?_)
   ·clear hc
    refine rq za1 2 [] [(3,vp 1 0),(4,vb false)] [(1,.box [.d (.sl 2 (r.stem.map StD.d)),.d (.sl 2 (r.cycle.map StD.d)),cIs r.acts])] h ?_;clear h;intro a w h
    refine wp_ret (zah ?_)
    refine zaz [.c (cB false)] h Exit.ret (.inl rfl)  rfl ⟨RV.tmp _ _ rfl,trivial⟩ ?_
    rw [smallW_no (.inr (.inl (of_decide_eq_true hc3)))];first | done | rfl
   ·cases hc
  ·have hc4:=hc;clear hc
   have hc4':=of_decide_eq_false hc4
   refine rq za1 2 [(2,.len (c:=(.d (.sl 10 (s.acts.map za5.d)))) (n:=s.acts.length) (za8 _ _ _)),(3,.cmp (op:=.gtr) (m:=(s.acts.length:Int)) (n:=100) (b:=false) .i64 hc2),(7,.len (c:=(.d (.sl 2 (r.stem.map StD.d)))) (n:=r.stem.length) (za8 _ _ _)),(10,.len (c:=(.d (.sl 2 (r.cycle.map StD.d)))) (n:=r.cycle.length) (za8 _ _ _)),(11,.add .i64 (m:=(r.stem.length:Int)) (n:=(r.cycle.length:Int)) (zaj (by omega) (by omega))),(12,.cmp (op:=.gtr) (m:=((r.stem.length:Int)+(r.cycle.length:Int))) (n:=10) (b:=false) .i64 hc4),(17,.len (c:=(cIs r.acts)) (n:=r.acts.length) (za8 _ _ _))] [(3,vp 1 0),(4,vb false),(25,vb (decide ((r.acts.length:Int)>30)))] [(1,.box [.d (.sl 2 (r.stem.map StD.d)),.d (.sl 2 (r.cycle.map StD.d)),cIs r.acts])] h ?_;clear h;intro a w h
   refine zac (decide ((r.acts.length:Int)>30)) h rfl (fun hc=>?_) (fun hc=>?_)
   ·have hc5:=hc;clear hc
    have hc5':=of_decide_eq_true hc5
    refine rq za1 2 [] [(3,vp 1 0),(4,vb false)] [(1,.box [.d (.sl 2 (r.stem.map StD.d)),.d (.sl 2 (r.cycle.map StD.d)),cIs r.acts])] h ?_;clear h;intro a w h
    refine wp_ret (zah ?_)
    refine zaz [.c (cB false)] h Exit.ret (.inl rfl)  rfl ⟨RV.tmp _ _ rfl,trivial⟩ ?_
    rw [smallW_no (.inr (.inr (of_decide_eq_true hc5)))];first | done | rfl
   ·have hc6:=hc;clear hc
    have hc6':=of_decide_eq_false hc6
    refine wp_skip (za4 (wp_seq (rq za1 2 [] [(3,vp 1 0),(4,vb false),(5,vi .i64 0)] [(1,.box [.d (.sl 2 (r.stem.map StD.d)),.d (.sl 2 (r.cycle.map StD.d)),cIs r.acts])] h ?_)));clear h;intro a w h
    refine wp_block ?_
    refine zci (ι:=(Nat)) (fun (z_:(Nat))=>match z_ with | i=>i≤(r.stem.length+r.cycle.length)∧allN i (fun i=>zbx 4 (zaf r i))=true)
      (fun (z_:(Nat))=>match z_ with | i=>[(3,vp 1 0),(5,vi .i64 (i:Int))])
      (fun (z_:(Nat))=>match z_ with | i=>[(1,.box [.d (.sl 2 (r.stem.map StD.d)),.d (.sl 2 (r.cycle.map StD.d)),cIs r.acts])])
      (fun (z_:(Nat))=>match z_ with | i=>(r.stem.length+r.cycle.length) - i) 0 ?_ h (by kernel_rfl) (by kernel_rfl) ?_
    ·exact ⟨Nat.zero_le _,rfl⟩
    ·clear h;rintro i a w hI h
     change St _ (F.of [(3,vp 1 0),(5,vi .i64 (i:Int))] [(1,.box [.d (.sl 2 (r.stem.map StD.d)),.d (.sl 2 (r.cycle.map StD.d)),cIs r.acts])]) a w at h
     obtain ⟨hI1,hI2⟩:=hI
     refine wp_seq (rq za1 2 [(3,.len (c:=(.d (.sl 2 (r.stem.map StD.d)))) (n:=r.stem.length) (za8 _ _ _)),(6,.len (c:=(.d (.sl 2 (r.cycle.map StD.d)))) (n:=r.cycle.length) (za8 _ _ _)),(7,.add .i64 (m:=(r.stem.length:Int)) (n:=(r.cycle.length:Int)) (zaj (by omega) (by omega)))] [(3,vp 1 0),(5,vi .i64 (i:Int)),(34,vb (decide ((i:Int)<((r.stem.length:Int)+(r.cycle.length:Int)))))] [(1,.box [.d (.sl 2 (r.stem.map StD.d)),.d (.sl 2 (r.cycle.map StD.d)),cIs r.acts])] h ?_);clear h;intro a w h
     refine zac (decide ((i:Int)<((r.stem.length:Int)+(r.cycle.length:Int)))) h rfl (fun hc=>?_) (fun hc=>?_)
     ·have hc7:=hc;clear hc
      have hc7':=of_decide_eq_true hc7
      refine wp_skip (za4 (wp_seq (wp_block ?_)))
      have h10:=of_decide_eq_false hc4
      have h11:=of_decide_eq_true hc7
      refine rq za1 2 [(2,.call (SRAt r (i:Int) i rfl (by omega) (by omega)) ks_2),(3,.call (SFewSt (zaf r i) 4 (hr.at i)) ky_2)] [(3,vp 1 0),(5,vi .i64 (i:Int)),(41,vb (!(zbx 4 (zaf r i))))] [(1,.box [.d (.sl 2 (r.stem.map StD.d)),.d (.sl 2 (r.cycle.map StD.d)),cIs r.acts])] h ?_;clear h;intro a w h
      refine zac (!(zbx 4 (zaf r i))) h rfl (fun hc=>?_) (fun hc=>?_)
      ·have hc8:=hc;clear hc
       have hc8':=hc8;(try simp at hc8')
       refine rq za1 2 [] [(3,vp 1 0),(4,vb false),(5,vi .i64 (i:Int))] [(1,.box [.d (.sl 2 (r.stem.map StD.d)),.d (.sl 2 (r.cycle.map StD.d)),cIs r.acts])] h ?_;clear h;intro a w h
       refine wp_ret (zb4 (zah (zah (zb4 (zah ?_)))))
       refine zaz [.c (cB false)] h Exit.ret (.inl rfl)  rfl ⟨RV.tmp _ _ rfl,trivial⟩ ?_
       rw [smallW_st (i:=i) (by have:=of_decide_eq_true hc7;omega) (show (zbx 4 (zaf r i))=false from by simpa using hc8)];first | done | rfl
      ·have hc9:=hc;clear hc
       have hc9':=hc9;(try simp at hc9')
       refine wp_skip (zai (za4 (rn za1 2 [(1,.add .i64 (m:=(i:Int)) (n:=1) (zaj (by omega) (by omega)))] [(3,vp 1 0),(5,vi .i64 ((i:Int)+1))] [(1,.box [.d (.sl 2 (r.stem.map StD.d)),.d (.sl 2 (r.cycle.map StD.d)),cIs r.acts])] h ?_)));clear h;intro a w h
       refine za4 ?_
       refine zas (x:=i) (y:=i+1) h ?_ ?_
       ·have:=of_decide_eq_true hc7
        refine ⟨by omega,zcz.2 fun k hk=>?_⟩
        rcases Nat.lt_or_ge k i with h8 | h8
        ·exact zcz.1 hI2 k h8
        ·rw [show k=i by omega];exact (show (zbx 4 (zaf r i))=true from by simpa using hc9)
       ·show (r.stem.length+r.cycle.length) - (i+1)<(r.stem.length+r.cycle.length) - i
        have:=of_decide_eq_true hc7;omega
     ·have hc10:=hc;clear hc
      have hc10':=of_decide_eq_false hc10
      refine wp_exit (zar (zar (zag (za4 (rq za1 2 [] [(4,vb true)] [] h ?_)))));clear h;intro a w h
      refine wp_ret ?_
      refine zaz [.c (cB true)] h Exit.ret (.inl rfl)  rfl ⟨RV.tmp _ _ rfl,trivial⟩ ?_
      rw [smallW_yes (of_decide_eq_false hc2) (of_decide_eq_false hc4) (of_decide_eq_false hc6) (by rw [show r.stem.length+r.cycle.length=i by have:=of_decide_eq_false hc10;omega];exact hI2)];first | done | rfl
set_option maxHeartbeats 4000000 in
theorem LReportTells (s:zap) (v:Int) (why:ByteArray) (r:zbo) (ln cl e:Int) (hz:zc2 s) (hs:s.acts.length≤9223372036854775807) (hr:RunRd r) (hw:why.size≤1048576) (hln:(-9223372036854775808≤ln∧ln≤9223372036854775807)) (hcl:(-9223372036854775808≤cl∧cl≤9223372036854775807)) (he:(-9223372036854775808≤e∧e≤9223372036854775807)):Fn Tryd.prog 3 [] [.t (.agg [.d (.sl 1 (s.vars.map za3)),.d (.sl 5 (s.bounds.map za0.d)),cI s.init.kind,cPs s.init.r.t.parts,cB s.init.r.t.k.neg,.d (nsl s.init.r.t.k.abs),cB s.init.r.eq,cFs s.init.kids,.d (.sl 3 (s.procs.map za2.d)),.d (.sl 10 (s.acts.map za5.d))]),vi .i64 v,.t (.c (.d (.raw (.string why)))),.t (.agg [.d (.sl 2 (r.stem.map StD.d)),.d (.sl 2 (r.cycle.map StD.d)),cIs r.acts]),.t (.agg [cI ln,cI cl]),vi .i64 e] (vb true) []:=by
 refine Fn.body Tryd.func3 rfl 44 rfl fun w H B a h=>?_
 refine rq za1 30 [] [(1,vi .i64 v),(2,.t (.c (.d (.raw (.string why))))),(5,vi .i64 e),(6,vp 30 0),(9,vp 31 0),(10,vp 32 0),(12,vb false)] [(30,.box [.d (.sl 1 (s.vars.map za3)),.d (.sl 5 (s.bounds.map za0.d)),cI s.init.kind,cPs s.init.r.t.parts,cB s.init.r.t.k.neg,.d (nsl s.init.r.t.k.abs),cB s.init.r.eq,cFs s.init.kids,.d (.sl 3 (s.procs.map za2.d)),.d (.sl 10 (s.acts.map za5.d))]),(31,.box [.d (.sl 2 (r.stem.map StD.d)),.d (.sl 2 (r.cycle.map StD.d)),cIs r.acts]),(32,.box [cI ln,cI cl])] h ?_;clear h;intro a w h
 refine wp_seq (rq za1 33 [(0,.call (LAlive26) pn1_12)] [(1,vi .i64 v),(2,.t (.c (.d (.raw (.string why))))),(5,vi .i64 e),(6,vp 30 0),(9,vp 31 0),(10,vp 32 0),(12,vb false),(15,vb false)] [(30,.box [.d (.sl 1 (s.vars.map za3)),.d (.sl 5 (s.bounds.map za0.d)),cI s.init.kind,cPs s.init.r.t.parts,cB s.init.r.t.k.neg,.d (nsl s.init.r.t.k.abs),cB s.init.r.eq,cFs s.init.kids,.d (.sl 3 (s.procs.map za2.d)),.d (.sl 10 (s.acts.map za5.d))]),(31,.box [.d (.sl 2 (r.stem.map StD.d)),.d (.sl 2 (r.cycle.map StD.d)),cIs r.acts]),(32,.box [cI ln,cI cl])] h ?_);clear h;intro a w h
 refine zac false h rfl (fun hc=>?_) (fun hc=>?_)
 ·cases hc
 ·clear hc
  refine wp_skip (za4 (wp_seq (rq za1 33 [(2,.call (LSmall s r hs hr) pn1_13)] [(1,vi .i64 v),(2,.t (.c (.d (.raw (.string why))))),(5,vi .i64 e),(6,vp 30 0),(9,vp 31 0),(10,vp 32 0),(12,vb false),(19,vb (!(zbp s r)))] [(30,.box [.d (.sl 1 (s.vars.map za3)),.d (.sl 5 (s.bounds.map za0.d)),cI s.init.kind,cPs s.init.r.t.parts,cB s.init.r.t.k.neg,.d (nsl s.init.r.t.k.abs),cB s.init.r.eq,cFs s.init.kids,.d (.sl 3 (s.procs.map za2.d)),.d (.sl 10 (s.acts.map za5.d))]),(31,.box [.d (.sl 2 (r.stem.map StD.d)),.d (.sl 2 (r.cycle.map StD.d)),cIs r.acts]),(32,.box [cI ln,cI cl])] h ?_)));clear h;intro a w h
  refine zac (!(zbp s r)) h rfl (fun hc=>?_) (fun hc=>?_)
  ·have hc1:=hc;clear hc
   have hc1':=hc1;(try simp at hc1')
   refine rq za1 33 [] [(1,vi .i64 v),(2,.t (.c (.d (.raw (.string why))))),(5,vi .i64 e),(6,vp 30 0),(9,vp 31 0),(10,vp 32 0),(12,vb true)] [(30,.box [.d (.sl 1 (s.vars.map za3)),.d (.sl 5 (s.bounds.map za0.d)),cI s.init.kind,cPs s.init.r.t.parts,cB s.init.r.t.k.neg,.d (nsl s.init.r.t.k.abs),cB s.init.r.eq,cFs s.init.kids,.d (.sl 3 (s.procs.map za2.d)),.d (.sl 10 (s.acts.map za5.d))]),(31,.box [.d (.sl 2 (r.stem.map StD.d)),.d (.sl 2 (r.cycle.map StD.d)),cIs r.acts]),(32,.box [cI ln,cI cl])] h ?_;clear h;intro a w h
   refine wp_ret (zah ?_)
   refine zaz [.c (cB true)] h Exit.ret (.inl rfl)  rfl ⟨RV.tmp _ _ rfl,trivial⟩ ?_
   rfl
  ·have hc2:=hc;clear hc
   have hc2':=hc2;(try simp at hc2')
   refine wp_skip (za4 ?_)
   obtain ⟨hro,hao⟩:=small_ok (show (zbp s r)=true from by simpa using hc2) hr
   refine rq za1 33 [(5,.call (PText s v why r 0 0 hz hao hro hw) pn1_5)] [(1,vi .i64 v),(2,.t (.c (.d (.raw (.string why))))),(5,vi .i64 e),(6,vp 30 0),(9,vp 31 0),(10,vp 32 0),(12,vb false),(13,.t (.c (.d (.raw (.string (⟨(zbs s v why r).toArray⟩:ByteArray))))))] [(30,.box [.d (.sl 1 (s.vars.map za3)),.d (.sl 5 (s.bounds.map za0.d)),cI s.init.kind,cPs s.init.r.t.parts,cB s.init.r.t.k.neg,.d (nsl s.init.r.t.k.abs),cB s.init.r.eq,cFs s.init.kids,.d (.sl 3 (s.procs.map za2.d)),.d (.sl 10 (s.acts.map za5.d))]),(31,.box [.d (.sl 2 (r.stem.map StD.d)),.d (.sl 2 (r.cycle.map StD.d)),cIs r.acts]),(32,.box [cI ln,cI cl])] h ?_;clear h;intro a w h
   refine rq za1 33 [(5,.call (RText s v why r hz hao hro hw) pn1_14),(6,.gen _ _ _ fun _ _ _ _=>Op.strEq (d:=32) (xt:=9) (yt:=9) (s1:=(⟨(zbs s v why r).toArray⟩:ByteArray)) (s2:=(⟨(zbs s v why r).toArray⟩:ByteArray)) (r:=true) (OV.tmp 26 _) (OV.tmp 31 _) (beq_self_eq_true _)),(11,.call (PWrong why ln cl e hw hln hcl he) pn1_7),(15,.call (RWrong why ln cl e hw hln hcl he) pn1_15),(16,.gen _ _ _ fun _ _ _ _=>Op.strEq (d:=42) (xt:=9) (yt:=9) (s1:=(⟨(zbc why ln cl e).toArray⟩:ByteArray)) (s2:=(⟨(zbc why ln cl e).toArray⟩:ByteArray)) (r:=true) (OV.tmp 37 _) (OV.tmp 41 _) (beq_self_eq_true _))] [(12,vb true)] [] h ?_;clear h;intro a w h
   refine wp_ret ?_
   refine zaz [.c (cB true)] h Exit.ret (.inl rfl)  rfl ⟨RV.tmp _ _ rfl,trivial⟩ ?_
   rfl
section
open Go.WideShapes
section
theorem bk_one {H:Type} (d:DataW H):1≤Rows.uptoBulk d:=by
 cases d with
 | lit l=>cases l <;> simp [Rows.uptoBulk]
 | _=>simp [Rows.uptoBulk]
theorem zc6 {H:Type} {d:DataW H} {l:List (DataW H)} (h:d ∈ l):Rows.uptoBulk d≤Rows.uptoBulkAll l:=by
 induction l with
 | nil=>cases h
 | cons x r ih =>
  simp only [Rows.uptoBulkAll]
  cases List.mem_cons.1 h with
  | inl e=>subst e;omega
  | inr e=>have:=ih e;omega
theorem bk_len {H:Type} (l:List (DataW H)):l.length≤Rows.uptoBulkAll l:=by
 induction l with
 | nil=>simp [Rows.uptoBulkAll]
 | cons x r ih=>have:=bk_one x;simp only [Rows.uptoBulkAll,List.length_cons];omega
theorem bk_elems {H:Type} (elems spare:List (DataW H)):Rows.uptoBulkAll elems+1≤Rows.uptoBulk (.slice elems spare):=by
 simp only [Rows.uptoBulk];omega
theorem bk_agg {H:Type} (parts:List (DataW H)):Rows.uptoBulkAll parts≤Rows.uptoBulk (.agg parts):=by
 simp only [Rows.uptoBulk];omega
theorem bk_str {H:Type} (b:ByteArray) (h:Rows.uptoBulk (DataW.lit (H:=H) (.string b.data.toList))≤1048576):b.size≤1048576:=by
 simp only [Rows.uptoBulk] at h
 rw [baL];omega
theorem bk_all {H:Type} {l:List (DataW H)} (hk:Rows.uptoSmall H l=true):Rows.uptoBulkAll l≤1048576:=of_decide_eq_true hk
variable {w:World} {n:Nat} {t:TypeId} {α β:Type} {f:α→List D} {good:α→Prop}
def RepU (w:World) (n:Nat) (t:TypeId) {α:Type} (f:α→List D) (good:α→Prop):Prop :=
  ∀ (H:Type) (enc:TypeId × Value→H) (base:Nat) (spare:Nat→Bool) (held:Bool) (fuel:Nat) (cs:List Value) (x:DataW H × List MemPlace),fuel≤n→DataW.trod enc Tryd.prog w base spare held fuel t cs=some x→Rows.uptoBulk x.1≤1048576→∃ a:α,good a∧zal (DR (all w)) (f a) cs
theorem zc8.u (h:zc8 w n t f good):RepU w n t f good:=fun H enc base spare held fuel cs x hn hx _=>h H enc base spare held fuel cs x hn hx
theorem RepU.mono {m:Nat} (h:RepU w n t f good) (hm:m≤n):RepU w m t f good:=fun H enc base spare held fuel cs x hn hx=>h H enc base spare held fuel cs x (by omega) hx
theorem RepU.map {f':β→List D} {good':β→Prop} (h:RepU w n t f good) (g:α→β) (hf:∀ a,f' (g a)=f a) (hg:∀ a,good a→good' (g a)):RepU w n t f' good':=fun H enc base spare held fuel cs x hn hx hw=>by
 obtain ⟨a,h1,h2⟩:=h H enc base spare held fuel cs x hn hx hw
 exact ⟨g a,hg a h1,by rw [hf];exact h2⟩
theorem rep_strU (hu:Tryd.prog.underlying t=some .string):RepU w n t za3 (fun s=>s.size≤1048576):=fun H enc base spare held fuel cs x hn hx hw=>by
 obtain ⟨v,rfl,rfl,hs⟩:=DataW.trod_string hu hx
 exact ⟨v,bk_str v hw,DR.raw _ rfl,trivial⟩
theorem zbq {e:TypeId} {k:Nat} (hu:Tryd.prog.underlying t=some (.slice e)) (hc:Tryd.prog.cellsOf e=k) (hk:0<k) (hl:∀ a,(f a).length=k) (he:RepU w n e f good):RepU w n t (slD k f) (fun xs=>(xs.length≤maxLen∧xs.length≤1048576)∧∀ x ∈ xs,good x):=fun H enc base spare held fuel cs x hn hx hw=>by
 rcases DataW.trod_slice hu hx with ⟨rfl,_⟩ | ⟨a,len,cap,elems,rest,m,rfl,rfl,rfl,_,h2,h3,h4,h5,_,_⟩
 ·exact ⟨[],⟨⟨Nat.zero_le _,Nat.zero_le _⟩,by simp⟩,DR.nil _ _ _ (fun _=>rfl) (Nat.zero_le _),trivial⟩
 ·rw [hc] at h5
  obtain ⟨xs,hxl,hxs⟩:=listOf (P:=fun i (y:α)=>good y∧∃ cs', w.cells? base (a.add (i*k)) k=some cs'∧zal (DR (all w)) (f y) cs') len fun i hi=>by
   have h6:=h5 i hi
   rw [List.getElem?_eq_getElem (by omega)] at h6
   obtain ⟨cs', g1,g2⟩:=Option.bind_eq_some_iff.1 h6
   obtain ⟨y,g3,g4⟩:=he H enc base spare held m cs' _ (by omega) g2 (Nat.le_trans (zc6 (List.mem_map.2 ⟨elems[i],List.getElem_mem _,rfl⟩)) (Nat.le_trans (Nat.le_succ _) (Nat.le_trans (bk_elems _ _) hw)))
   exact ⟨y,g3,cs', g1,g4⟩
  have hb9:=Nat.le_trans (bk_elems _ _) hw
  have hb8:=bk_len (elems.map (·.1))
  rw [List.length_map] at hb8
  refine ⟨xs,⟨⟨by omega,by omega⟩,fun y hy=>?_⟩,?_,trivial⟩
  ·obtain ⟨i,hi⟩:=List.mem_iff_getElem?.1 hy
   exact (hxs i y hi).1
  ·show DR (all w) (.sl k (xs.map f)) _
   rcases Nat.eq_zero_or_pos len with h0 | h0
   ·subst h0
    have:xs=[]:=List.length_eq_zero_iff.1 hxl
    subst this
    exact DR.nil _ _ _ (fun e=>by cases e) h3
   ·have cells:∀ i y,xs[i]?=some y→∀ j,j<k→∃ v d,w.cell? ((a.add (i*k)).add j)=some v∧(f y)[j]?=some d∧DR (all w) d v:=fun i y hy j hj=>by
     obtain ⟨_,cs', g1,g2⟩:=hxs i y hy
     obtain ⟨_,g4,g5⟩:=World.cells?_some g1
     obtain ⟨v,g6,g7⟩:=g2.get j (by rw [hl];exact hj)
     exact ⟨v,_,by rw [g5 j hj];exact g6,List.getElem?_eq_getElem (by rw [hl];exact hj),g7⟩
    obtain ⟨y0,hy0⟩:∃ y,xs[0]?=some y:=⟨_,List.getElem?_eq_getElem (by omega)⟩
    obtain ⟨v0,_,c0,_,_⟩:=cells 0 y0 hy0 0 hk
    obtain ⟨b,o,sp⟩:=a
    have hsp:sp=none:=by
     have:=World.cell?_spot c0
     simpa [Addr.add] using this
    subst hsp
    have c0':w.cell? ⟨b,o,none⟩=some v0:=by simpa [Addr.add_mid] using c0
    obtain ⟨arr,ty,fz,hb,_⟩:=cell_at c0'
    have at_:∀ i y,xs[i]?=some y→∀ j,j<k→∃ v d,arr[o+i*k+j]?=some v∧(f y)[j]?=some d∧DR (all w) d v:=fun i y hy j hj=>by
     obtain ⟨v,d,g1,g2,g3⟩:=cells i y hy j hj
     rw [Addr.add_mid,Addr.add_mid] at g1
     obtain ⟨arr', ty', fz', hb', g4⟩:=cell_at g1
     rw [hb] at hb'
     injection hb' with hb'
     injection hb' with e1
     subst e1
     exact ⟨v,d,g4,g2,g3⟩
    have:=DR.sl (H:=all w) k (xs.map f) b o cap arr ty fz (fun i j=>(arr[o+i*k+j]?).getD v0) (by rw [List.length_map];omega) hb (by rw [List.length_map];omega) h3 (fun i hi=>by rw [List.getElem_map];exact hl _)
     (fun i hi j hj=>by
      have hi':i<xs.length:=by simpa using hi
      obtain ⟨v,d,g1,_,_⟩:=at_ i xs[i] (List.getElem?_eq_getElem hi') j hj
      rw [g1];rfl)
     (fun i hi j hj=>by
      have hi':i<xs.length:=by simpa using hi
      have hj':j<k:=by rw [List.getElem_map,hl] at hj;exact hj
      obtain ⟨v,d,g1,g2,g3⟩:=at_ i xs[i] (List.getElem?_eq_getElem hi') j hj'
      have e1:((xs.map f)[i])[j]?=some d:=by rw [List.getElem_map];exact g2
      rw [List.getElem?_eq_getElem hj] at e1
      injection e1 with e1
      rw [e1,g1];exact g3)
    rwa [List.length_map,hxl] at this
def FsU (w:World) (n:Nat) (fs:List Field) (o k:Nat) {α:Type} (f:α→List D) (good:α→Prop):Prop :=
  ∀ (H:Type) (enc:TypeId × Value→H) (base:Nat) (spare:Nat→Bool) (held:Bool) (cs:List Value),(∀ fl ∈ fs,∃ m x,m≤n∧DataW.trod enc Tryd.prog w base spare held m fl.type ((cs.drop fl.offset).take (Tryd.prog.cellsOf fl.type))=some x∧Rows.uptoBulk x.1≤1048576)→o+k=cs.length→∃ a:α,good a∧zal (DR (all w)) (f a) (cs.drop o)
theorem FsU.nil {o:Nat}:FsU w n [] o 0 (fun _:Unit=>[]) (fun _=>True):=fun H enc base spare held cs _ hl=>⟨(),trivial,by rw [List.drop_of_length_le (by omega)];trivial⟩
theorem FsU.cons {fl:Field} {fs:List Field} {o k0 k1:Nat} {f1:β→List D} {good1:β→Prop} (ho:fl.offset=o) (hc:Tryd.prog.cellsOf fl.type=k0) (h0:RepU w n fl.type f good) (h1:FsU w n fs (o+k0) k1 f1 good1) :
  FsU w n (fl :: fs) o (k0+k1) (fun p:α × β=>f p.1++f1 p.2) (fun p=>good p.1∧good1 p.2):=fun H enc base spare held cs hf hl=>by
 obtain ⟨m,x,hm,hx,hw⟩:=hf fl (by simp)
 rw [ho,hc] at hx
 obtain ⟨a,g1,g2⟩:=h0 H enc base spare held m _ x hm hx hw
 obtain ⟨b,g3,g4⟩:=h1 H enc base spare held cs (fun fl' h'=>hf fl' (by simp [h'])) (by omega)
 refine ⟨(a,b),⟨g1,g3⟩,?_⟩
 have e:cs.drop o=(cs.drop o).take k0++cs.drop (o+k0):=by rw [← List.drop_drop,List.take_append_drop]
 rw [e]
 exact g2.append g4
theorem zbv {k:Nat} {fs:Array Field} (hu:Tryd.prog.underlying t=some (.struct fs)) (hc:Tryd.prog.cellsOf t=k) (h:FsU w n fs.toList 0 k f good):RepU w (n+1) t f good:=fun H enc base spare held fuel cs x hn hx hw=>by
 obtain ⟨xs,m,rfl,rfl,h2,h3,h4⟩:=DataW.trod_struct hu hx
 obtain ⟨a,g1,g2⟩:=h H enc base spare held cs (fun fl hfl=>by
  obtain ⟨i,hi⟩:=List.mem_iff_getElem?.1 hfl
  have hi':fs[i]?=some fl:=by simpa using hi
  have:=h4 i fl hi'
  have hlt:i<xs.length:=by rw [h3];exact (Array.getElem?_eq_some_iff.1 hi').1
  rw [List.getElem?_eq_getElem hlt] at this
  exact ⟨m,_,by omega,this,Nat.le_trans (zc6 (List.mem_map.2 ⟨xs[i],List.getElem_mem _,rfl⟩)) (Nat.le_trans (bk_agg _) hw)⟩) (by rw [h2,hc];omega)
 exact ⟨a,g1,by simpa using g2⟩
/-- a struct that came in -/
theorem rep_aggU {fs:Array Field} (hu:Tryd.prog.underlying t=some (.struct fs)) (hr:∀ n,RepU w n t f good) {H:Type} {enc:TypeId × Value→H} {base:Nat} {spare:Nat→Bool} {held:Bool} {r:Reach} {b0:Nat} {v:Value} {d:DataW H} {p:List MemPlace} (hv:Value.okWide Tryd.prog w r b0 t v) (h:DataW.Trod enc Tryd.prog w base spare held t v d p) (hw:Rows.uptoBulk d≤1048576) :
  ∃ (a:α) (cs:List Value),good a∧v = .agg ⟨cs⟩∧zal (DR (all w)) (f a) cs:=by
 obtain ⟨cs,rfl,_⟩:=okWide_struct hu hv
 obtain ⟨fuel,hf⟩:=h
 obtain ⟨a,g1,g2⟩:=hr fuel H enc base spare held fuel _ _ (Nat.le_refl _) hf hw
 exact ⟨a,cs.toList,g1,rfl,g2⟩
end
section
variable {w:World} {n:Nat}
/-- of no great size -/
structure BkOk (s:zap):Prop where
  vars:s.vars.length≤1048576
  procs:s.procs.length≤1048576
  locs:∀ p ∈ s.procs,p.locs.length≤1048576
  acts:s.acts.length≤1048576
theorem rep_strsU:RepU w n 22 (slD 1 za3) (fun xs=>(xs.length≤maxLen∧xs.length≤1048576)∧∀ x ∈ xs,x.size≤1048576) :=
 zbq (k:=1) Tryd.underlying22 (by kernel_rfl) (by decide) (fun _=>rfl) (rep_strU Tryd.underlying9)
theorem rep_ProcU:RepU w n 65 za2.d (fun p=>p.name.size≤1048576∧p.locs.length≤1048576∧∀ t ∈ p.locs,t.size≤1048576) :=
 ((zbv (n:=n) Tryd.underlying65 (by kernel_rfl) (.cons (k0:=1) rfl (by kernel_rfl) (rep_strU Tryd.underlying9) (.cons (k0:=1) rfl (by kernel_rfl) rep_strsU (.cons (k0:=1) rfl (by kernel_rfl) (rep_raw Tryd.underlying63).u .nil)))).map (fun p=>⟨p.1,p.2.1,p.2.2.1⟩) (fun _=>rfl) fun _ h=>⟨h.1,h.2.1.1.2,h.2.1.2⟩).mono (Nat.le_succ n)
theorem rep_ProcsU:RepU w n 36 (slD 3 za2.d) (fun xs=>(xs.length≤maxLen∧xs.length≤1048576)∧∀ x ∈ xs,x.name.size≤1048576∧x.locs.length≤1048576∧∀ t ∈ x.locs,t.size≤1048576) :=
 zbq (k:=3) Tryd.underlying36 (by kernel_rfl) (by decide) (fun _=>rfl) rep_ProcU
theorem rep_ActsU:RepU w n 37 (slD 10 za5.d) (fun xs=>(xs.length≤maxLen∧xs.length≤1048576)∧∀ x ∈ xs,x.guard.lb∧x.moves.length≤maxLen∧∀ m ∈ x.moves,TLb m.t) :=
 zbq (k:=10) Tryd.underlying37 (by kernel_rfl) (by decide) (fun _=>rfl) rep_Act.u
theorem rep_SysU:RepU w n 39 zap.d (fun s=>zc2 s∧BkOk s) :=
 ((zbv (n:=n) Tryd.underlying39 (by kernel_rfl) (.cons (k0:=1) rfl (by kernel_rfl) rep_strsU (.cons (k0:=1) rfl (by kernel_rfl) rep_Bounds.u (.cons (k0:=6) rfl (by kernel_rfl) rep_Form.u (.cons (k0:=1) rfl (by kernel_rfl) rep_ProcsU (.cons (k0:=1) rfl (by kernel_rfl) rep_ActsU .nil)))))).map (fun p=>⟨p.1,p.2.1,p.2.2.1,p.2.2.2.1,p.2.2.2.2.1⟩) (fun _=>by rw [zab.d_eq];rfl) fun _ h=>⟨⟨h.1.2,fun p hp=>(h.2.2.2.1.2 p hp).1,fun p hp=>(h.2.2.2.1.2 p hp).2.2⟩,⟨h.1.1.2,h.2.2.2.1.1.2,fun p hp=>(h.2.2.2.1.2 p hp).2.1,h.2.2.2.2.1.1.2⟩⟩).mono (Nat.le_succ n)
theorem rep_StatesU:RepU w n 40 (slD 2 StD.d) (fun xs=>(xs.length≤maxLen∧xs.length≤1048576)∧∀ x ∈ xs,StRd x) :=
 zbq (k:=2) Tryd.underlying40 (by kernel_rfl) (by decide) (fun _=>rfl) rep_State.u
theorem rep_intsU:RepU w n 41 (slD 1 zdg) (fun xs=>xs.length≤1048576) :=
 (zbq (k:=1) Tryd.underlying41 (by kernel_rfl) (by decide) (fun _=>rfl) (zbl Tryd.underlying3).u).map id (fun _=>rfl) fun _ h=>h.1.2
theorem rep_RunU:RepU w n 43 zbo.d RunRd :=
 ((zbv (n:=n) Tryd.underlying43 (by kernel_rfl) (.cons (k0:=1) rfl (by kernel_rfl) rep_StatesU (.cons (k0:=1) rfl (by kernel_rfl) rep_StatesU (.cons (k0:=1) rfl (by kernel_rfl) rep_intsU .nil)))).map (fun p=>⟨p.1,p.2.1,p.2.2.1⟩) (fun _=>rfl) fun a h=>⟨h.1.2,h.2.1.2,by have h1:=h.1.1.2;have h2:=h.2.1.1.2;show a.1.length+a.2.1.length≤_;omega,by have:=h.2.2.1;show a.2.2.1.length≤_;omega⟩).mono (Nat.le_succ n)
structure PosD where
  ln:Int
  cl:Int
def PosD.d (x:PosD):List D:=[.raw (.int .i64 x.ln),.raw (.int .i64 x.cl)]
def PosRd (p:PosD):Prop:=(-9223372036854775808≤p.ln∧p.ln≤9223372036854775807)∧(-9223372036854775808≤p.cl∧p.cl≤9223372036854775807)
theorem rep_PosU:RepU w n 45 PosD.d PosRd :=
 ((zbv (n:=n) Tryd.underlying45 (by kernel_rfl) (.cons (k0:=1) rfl (by kernel_rfl) (zbl Tryd.underlying3).u (.cons (k0:=1) rfl (by kernel_rfl) (zbl Tryd.underlying3).u .nil))).map (fun p=>⟨p.1,p.2.1⟩) (fun _=>rfl) fun _ h=>⟨h.1,h.2.1⟩).mono (Nat.le_succ n)
end
theorem tabH_of {W : World} {rest : List (String × DataW Unit)} (h : laidMet Tryd.prog (("internal/strconv.uint64pow10", Lib.tabData .u64 Lib.pow10Tab) :: rest) W) : TabH (all W) := by
  have h1 : Lib.TabIs Tryd.prog W "internal/strconv.uint64pow10" .u64 Lib.pow10Tab := Lib.tabIs_of_head (g := 1) (by kernel_rfl) (by kernel_rfl) Tryd.underlying132 Tryd.underlying117 (by kernel_rfl) (by kernel_rfl) h
  unfold Lib.TabIs World.var? at h1
  rw [Tryd.laysM171.m17] at h1
  have h2:(match (W.heap[(1:Nat)]?:Option Obj) with | some (.cells cs _ _)=>some cs | _=>none)=some (Lib.pow10Tab.map fun z=>Value.int .u64 z).toArray:=h1
  split at h2
  · rename_i cs ty fz hb
    injection h2 with h2
    subst h2
    exact ⟨ty,fz,hb⟩
  · cases h2
theorem LReportTellsW (s:zap) (v:Int) (why:ByteArray) (r:zbo) (p:PosD) (e:Int) (hs:zc2 s∧BkOk s) (hw:why.size≤1048576) (hr:RunRd r) (hp:PosRd p) (he:(-9223372036854775808≤e∧e≤9223372036854775807)):Fn Tryd.prog 3 [] [vd (zap.d s),vi .i64 v,vs why,vd (zbo.d r),vd (PosD.d p),vi .i64 e] (vb true) [] :=
 LReportTells s v why r p.ln p.cl e hs.1 (Nat.le_trans hs.2.acts (by decide)) hr hw hp.1 hp.2 he
end
end S
end Go.Proofs.YtlfebjeoeijlfaaDoor
section
namespace Go.Proofs.YtlfebjeoeijlfaaDoor.reportTellsDone
open Go.ChangeShapes Go.WideShapes Go.ChangeAt Go.RowKit
open Go.ChangeMaps (open_string shut_string)
open Go.Proofs.YtlfebjeoeijlfaaDoor.S

theorem own:ownKnob Tryd.prog.godebug=none:=by kernel_rfl
theorem laidOut:laidOutB Tryd.prog=true:=by kernel_rfl

theorem laid_met (os:Os):laidMet Tryd.prog Rows.reportTellsUptoRow.laid ((World.doorLaid Tryd.prog 400 os).forCall (fun _ _=>0) ⟨#[],#[.agg #[.slice none 0 0,.slice none 0 0,.int .i64 0,.slice none 0 0,.bool false,.slice none 0 0,.bool false,.slice none 0 0,.slice none 0 0,.slice none 0 0],.int .i64 0,.string ByteArray.empty,.agg #[.slice none 0 0,.slice none 0 0,.slice none 0 0],.agg #[.int .i64 0,.int .i64 0],.int .i64 0],[]⟩).memory :=
 laidMet_of_run' 8 (by kernel_rfl) (by kernel_rfl)
theorem reads (os:Os) {H:Type} (enc:TypeId × Value→H):∃ places,DataW.whole enc Tryd.prog ((World.doorLaid Tryd.prog 400 os).forCall (fun _ _=>0) ⟨#[],#[.agg #[.slice none 0 0,.slice none 0 0,.int .i64 0,.slice none 0 0,.bool false,.slice none 0 0,.bool false,.slice none 0 0,.slice none 0 0,.slice none 0 0],.int .i64 0,.string ByteArray.empty,.agg #[.slice none 0 0,.slice none 0 0,.slice none 0 0],.agg #[.int .i64 0,.int .i64 0],.int .i64 0],[]⟩).memory Tryd.f3.params.toList Rows.reportTellsSpec.vars false (#[.agg #[.slice none 0 0,.slice none 0 0,.int .i64 0,.slice none 0 0,.bool false,.slice none 0 0,.bool false,.slice none 0 0,.slice none 0 0,.slice none 0 0],.int .i64 0,.string ByteArray.empty,.agg #[.slice none 0 0,.slice none 0 0,.slice none 0 0],.agg #[.int .i64 0,.int .i64 0],.int .i64 0]:Array Value).toList 8=some ([.agg [.nil,.nil,.agg [.lit (.int .i64 0),.agg [.agg [.nil,.agg [.lit (.bool false),.nil]],.lit (.bool false)],.nil],.nil,.nil],.lit (.int .i64 0),.lit (.string []),.agg [.nil,.nil,.nil],.agg [.lit (.int .i64 0),.lit (.int .i64 0)],.lit (.int .i64 0)],[],places) :=
 ⟨[],by kernel_rfl⟩

theorem lifted (os:Os) (started:os.Started) (H:Type) (enc:TypeId × Value→H) (F0:Stop.Interp) :
  ReturnsInHanded {} Tryd.checked os 3 .any ((Rows.OpenSpec.upto Rows.reportTellsSpec).preRow enc Tryd.prog Tryd.f3 Rows.reportTellsUptoRow.domain false Rows.reportTellsUptoRow.laid) (((Rows.OpenSpec.upto Rows.reportTellsSpec).at F0).post enc Tryd.prog Tryd.f3 false true false false):=by
 obtain ⟨places,hx⟩:=reads os enc
 refine returnsInHanded_of_row (C:=Tryd.checked) (s:=Rows.OpenSpec.upto Rows.reportTellsSpec) own started (by kernel_rfl) Tryd.func3
  (witness_row_at (enc:=enc) (C:=Tryd.checked) false (World.doorLaid Tryd.prog 400 os) #[.agg #[.slice none 0 0,.slice none 0 0,.int .i64 0,.slice none 0 0,.bool false,.slice none 0 0,.bool false,.slice none 0 0,.slice none 0 0,.slice none 0 0],.int .i64 0,.string ByteArray.empty,.agg #[.slice none 0 0,.slice none 0 0,.slice none 0 0],.agg #[.int .i64 0,.int .i64 0],.int .i64 0] rfl (by kernel_rfl) (by kernel_rfl) (by kernel_rfl)
   (OpenSpec.preRow_of_cond 8 hx (by kernel_rfl) (fun k hk=>by cases hk;kernel_rfl) (by kernel_rfl) (laid_met os))) ?_
 intro W base args ds gs before hval0 hW hcnd hcond _ hL _ _
 have hval:∀ (j:Nat) t v,Tryd.f3.params[j]?=some t→args[j]?=some v→Value.okWide Tryd.prog W .any base t v:=hval0
 have hW':=hW
 obtain ⟨p,q,hA0,hV,rfl,hfz,hnd⟩:=hW
 have hA:DataW.TrodAll enc Tryd.prog W 0 (fun _=>true) true Tryd.f3.params.toList args.toList ds p:=hA0
 rw [Tryd.params3] at hA hval
 obtain ⟨v0,vs0,d0,ds0,p0,q0,hargs,rfl,rfl,h0,r0⟩:=trodAll_cons hA
 obtain ⟨v1,vs1,d1,ds1,p1,q1,rfl,rfl,rfl,h1,r1⟩:=trodAll_cons r0
 obtain ⟨v2,vs2,d2,ds2,p2,q2,rfl,rfl,rfl,h2,r2⟩:=trodAll_cons r1
 obtain ⟨v3,vs3,d3,ds3,p3,q3,rfl,rfl,rfl,h3,r3⟩:=trodAll_cons r2
 obtain ⟨v4,vs4,d4,ds4,p4,q4,rfl,rfl,rfl,h4,r4⟩:=trodAll_cons r3
 obtain ⟨v5,vs5,d5,ds5,p5,q5,rfl,rfl,rfl,h5,r5⟩:=trodAll_cons r4
 obtain ⟨rfl,rfl,rfl⟩:=trodAll_nil r5
 obtain rfl:args=#[v0,v1,v2,v3,v4,v5]:=by cases args;simp_all
 obtain ⟨rfl,rfl⟩:=trodVars_none hV
 have hB:=bk_all (hcond _ rfl)
 have hb0:Rows.uptoBulk d0≤1048576:=Nat.le_trans (zc6 (by simp)) hB
 have hb1:Rows.uptoBulk d1≤1048576:=Nat.le_trans (zc6 (by simp)) hB
 have hb2:Rows.uptoBulk d2≤1048576:=Nat.le_trans (zc6 (by simp)) hB
 have hb3:Rows.uptoBulk d3≤1048576:=Nat.le_trans (zc6 (by simp)) hB
 have hb4:Rows.uptoBulk d4≤1048576:=Nat.le_trans (zc6 (by simp)) hB
 have hb5:Rows.uptoBulk d5≤1048576:=Nat.le_trans (zc6 (by simp)) hB
 have hT:TabH (all W):=tabH_of (laidMet.tail (laidMet.tail hL))
 have k0:=h0
 have lt0:∀ x ∈ p0,x.block<W.heap.size:=by obtain ⟨m,hm⟩:=k0;exact DataW.trod_lt m _ _ _ hm
 obtain ⟨a0,cs0,g0,rfl,dr0⟩:=rep_aggU Tryd.underlying39 (fun _=>rep_SysU) (hval 0 39 v0 rfl rfl) h0 hb0
 obtain ⟨a1,rfl,rfl,rfl,g10⟩:=open_int Tryd.underlying3 (hval 1 3 v1 rfl rfl) h1
 have g1:-9223372036854775808≤a1∧a1≤9223372036854775807:=by have:=bounds_i64 g10;omega
 obtain ⟨a2,rfl,rfl,rfl,g2⟩:=open_string Tryd.underlying9 (hval 2 9 v2 rfl rfl) h2
 have w2:=bk_str a2 hb2
 have k3:=h3
 have lt3:∀ x ∈ p3,x.block<W.heap.size:=by obtain ⟨m,hm⟩:=k3;exact DataW.trod_lt m _ _ _ hm
 obtain ⟨a3,cs3,g3,rfl,dr3⟩:=rep_aggU Tryd.underlying43 (fun _=>rep_RunU) (hval 3 43 v3 rfl rfl) h3 hb3
 have k4:=h4
 have lt4:∀ x ∈ p4,x.block<W.heap.size:=by obtain ⟨m,hm⟩:=k4;exact DataW.trod_lt m _ _ _ hm
 obtain ⟨a4,cs4,g4,rfl,dr4⟩:=rep_aggU Tryd.underlying45 (fun _=>rep_PosU) (hval 4 45 v4 rfl rfl) h4 hb4
 obtain ⟨a5,rfl,rfl,rfl,g50⟩:=open_int Tryd.underlying3 (hval 5 3 v5 rfl rfl) h5
 have g5:-9223372036854775808≤a5∧a5≤9223372036854775807:=by have:=bounds_i64 g50;omega
 clear hA0 hval0
 refine (Fn.calls (w:=W) (vals:=[.agg ⟨cs0⟩,.int .i64 a1,.string a2,.agg ⟨cs3⟩,.agg ⟨cs4⟩,.int .i64 a5]) (LReportTellsW a0 a1 a2 a3 a4 a5 g0 w2 g3 g4 g5) (fun B=>⟨dr_vd dr0 B,DR.raw _ rfl,DR.raw _ rfl,dr_vd dr3 B,dr_vd dr4 B,DR.raw _ rfl,trivial⟩) hT).mono fun e W' ⟨he,bel⟩=>?_
 subst he
 exact ⟨_,rfl,_,_,_,[],_,[],hW', trodAll_mk1 (shut_bool Tryd.underlying4 _),(trodAll_cons_mk (Below.trod laidOut (by kernel_rfl) (of_decide_eq_true (by kernel_rfl)) k0 bel lt0) (trodAll_cons_mk (shut_int Tryd.underlying3 g10) (trodAll_cons_mk (shut_string Tryd.underlying9 g2) (trodAll_cons_mk (Below.trod laidOut (by kernel_rfl) (of_decide_eq_true (by kernel_rfl)) k3 bel lt3) (trodAll_cons_mk (Below.trod laidOut (by kernel_rfl) (of_decide_eq_true (by kernel_rfl)) k4 bel lt4) (trodAll_cons_mk (shut_int Tryd.underlying3 g50) trodAll_mk0)))))),rfl,bel.below.frame _,fun h=>by cases h⟩

theorem over:Rows.ReportTellsUptoSaid :=
 OpenClaim.holds_of_cond 3 Tryd.f3 rfl rfl rfl rfl rfl rfl rfl ⟨rfl,rfl,rfl,rfl,rfl⟩ rfl rfl rfl rfl rfl (by kernel_rfl) Tryd.func3 (by kernel_rfl)
  (of_decide_eq_true (by kernel_rfl)) (by unfold Func.isWrapper;first | (rw [if_pos (by decide +kernel)];kernel_rfl) | (rw [if_neg (by decide +kernel)];exact ⟨rfl,rfl⟩))
  (fun os started H enc _ F0=>by rw [OpenClaim.pre_eq_preRow];exact lifted os started H enc F0)

theorem proved:Rows.ReportTellsUptoCardSaid :=
  Claim7.holds_tied_plain_at .later [] [.data, .data, .data] true (true, "bd7222c4f126fa706258d046fb4f499b376e39d608c779f70c6cbf516a077b87") false
    over (fun _ h=>by cases h) (by kernel_rfl) (fun _ h=>by cases h) reportTellsUpto_row_tie rfl ⟨rfl,rfl⟩ (by kernel_rfl) rfl
    (fun f fn hf hfn=>by
      obtain rfl : f = 3 := Option.some.inj ((show Tryd.prog.funcNamed "plumbline/plumblinelaw26.ReportTells" = some 3 by kernel_rfl).symm.trans hf) |>.symm
      obtain rfl:fn=Tryd.f3:=(Option.some.inj (Tryd.func3.symm.trans hfn)).symm
      exact ⟨by kernel_rfl,fun j t ht=>by
        rw [Tryd.params3] at ht
        have hm:t ∈ [39,3,9,43,45,3]:=by simpa using Array.mem_of_getElem? ht
        have hall:([39,3,9,43,45,3].all fun u=>!Tryd.prog.wantsStandIn u)=true:=by kernel_rfl
        exact (show Tryd.prog.wantsStandIn t=false by simpa using List.all_eq_true.1 hall t hm)⟩)
    (by kernel_rfl)
end Go.Proofs.YtlfebjeoeijlfaaDoor.reportTellsDone
end
