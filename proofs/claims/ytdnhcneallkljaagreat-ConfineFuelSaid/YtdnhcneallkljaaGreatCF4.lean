/-
  Part 4 of the proof of the statement ConfineFuel: the walk through the program and the references lifted to the given row. It holds for every input.
-/
import Derived.Test.YtdnhcneallkljaaGreatCF3
import Derived.Test.YtdnhcneallkljaaGreatCF2
import Derived.OrdersIn
import Derived.RangeFuncFrom
import Derived.RangeFuncLeaves
import Derived.RangeFuncCalls
import Derived.RangeFuncBound
import Derived.Shelf.Abstract
import Derived.Shelf.RegionOpen
import Derived.OwnWalkIn
import Derived.TacticsInMore
import Derived.LoopNIn
import Derived.LoopIn
import Derived.Laws.Strings
import Derived.Laws.MakeOwn
set_option maxRecDepth 100000
set_option maxHeartbeats 20000000
open Go.RowKit
namespace Go.Proofs.YtdnhcneallkljaaGreat
namespace S
theorem ks_2:za6 Tryz.prog 23:=za6.mk' (by kernel_rfl)
theorem ks_3:za6 Tryz.prog 10:=za6.mk' (by kernel_rfl)
theorem ks_5:za6 Tryz.prog 15:=za6.mk' (by kernel_rfl)
theorem ks_15:SlT Tryz.prog 59 4 1:=SlT.mk' Tryz.underlying59 (by kernel_rfl)
def zb8 (r:RunD) (i:Nat):StD:=((r.stem++r.cycle)[i]?).getD st0
theorem zev {M:Nat} {r:RunD} (h:RunOk M r) (i:Nat):zd0 M (zb8 r i):=by
 unfold zb8
 cases hx:(r.stem++r.cycle)[i]? with
 | none=>exact st0_ok
 | some x=>exact h.all x (List.mem_of_getElem? hx)
theorem zfh (s:zan) (r:RunD) (i:Nat):stepOk s r i=ze0 s (zb8 r i) ((r.acts[i]?).getD 0) (nxt r i):=rfl
theorem nxt_lt {r:RunD} {i:Nat} (h:i+1<(r.stem++r.cycle).length):nxt r i=zb8 r (i+1):=by unfold nxt;rw [if_pos h];rfl
theorem SRAt0 (r:RunD) (i:Nat) (hl:r.stem.length+r.cycle.length<=20) (_hi:i<=1000):Fn Tryz.prog 23 [] [vG [.d (.sl 2 (r.stem.map StD.d)),.d (.sl 2 (r.cycle.map StD.d)),cIs r.acts],vN i] (vG [cIs (zb8 r i).locs,cZs (zb8 r i).vals]) []:=by
 have lall:(r.stem++r.cycle).length=r.stem.length+r.cycle.length:=List.length_append;refine Fn.body Tryz.func23 rfl 34 rfl fun w H B a h=>Jq 0 [] [(1,vN i),(2,vp 0 0),(4,vp 1 0)] [(0,.box [.d (.sl 2 (r.stem.map StD.d)),.d (.sl 2 (r.cycle.map StD.d)),cIs r.acts]),(1,.box [.d (.raw za4),.d (.raw za4)])] h fun a w h=>qW (Je 2 [(3,.len (za3 2 StD.d r.stem))] [] [(9,vb (decide ((i:Int)<(r.stem.length:Int))))] h fun a w h=>zap ((i:Int)<(r.stem.length:Int)) h (fun hc1 hc1'=>?_) (fun hc2 hc2'=>?_))
 ·obtain ⟨x1,hx1⟩:=gl r.stem i;refine Jd 2 [(3,.g (xD 13 11 kn_0 (zab hx1 (f:=StD.d)) (OV.tmp 12 _)))] [9] [] [(0,.box [.d (.sl 2 (r.stem.map StD.d)),.d (.sl 2 (r.cycle.map StD.d)),cIs r.acts]),(1,.box [cIs x1.locs,cZs x1.vals])] h fun a w h=>qV (za2 (rA 1 [cIs x1.locs,cZs x1.vals] h kk_5 rfl ?_));have hz:zb8 r i=x1:=by unfold zb8;rw [List.getElem?_append_left (by have:=dT hc1;omega),hx1];rfl
  rw [hz];try rfl
 refine qU (za0 (qW (Je 2 [(3,.len (za3 2 StD.d r.stem)),(6,.len (za3 2 StD.d r.cycle)),(7,.g (Op.arith (op:=.add) (d:=22) (xt:=3) (yt:=3) (k:=.i64) (m:=(r.stem.length:Int)) (n:=(r.cycle.length:Int)) (r:=((r.stem++r.cycle).length:Int)) (OV.tmp 18 _) (OV.tmp 21 _) (.inl ⟨rfl,(by rw [List.length_append];omega)⟩) i6))] [9] [(23,vb (decide ((i:Int)<((r.stem++r.cycle).length:Int))))] h fun a w h=>zap ((i:Int)<((r.stem++r.cycle).length:Int)) h (fun hc3 hc3'=>?_) (fun hc4 hc4'=>?_))))
 ·obtain ⟨x2,hx2⟩:∃ z_:StD,r.cycle[i - r.stem.length]?=some z_:=⟨_,List.getElem?_eq_getElem (by have:(r.stem++r.cycle).length=r.stem.length+r.cycle.length:=List.length_append;omega)⟩;refine Jq 2 [(5,.len (za3 2 StD.d r.stem)),(6,.g (Op.arith (op:=.sub) (d:=30) (xt:=3) (yt:=3) (k:=.i64) (m:=(i:Int)) (n:=(r.stem.length:Int)) (r:=((i - r.stem.length:Nat):Int)) (OV.tmp 26 _) (OV.tmp 29 _) (.inr (.inl ⟨rfl,(by omega)⟩)) i6)),(7,.g (xD 31 25 kn_0 (zab hx2 (f:=StD.d)) (OV.tmp 30 _)))] [(4,vp 1 0)] [(1,.box [cIs x2.locs,cZs x2.vals])] h fun a w h=>qV (za2 (rA 1 [cIs x2.locs,cZs x2.vals] h kk_5 rfl ?_));have hz:zb8 r i=x2:=by unfold zb8;rw [List.getElem?_append_right (by have:=dF hc2;omega),hx2];rfl
  rw [hz];try rfl
 refine qU (za0 (Jq 2 [] [(4,vp 1 0)] [(1,.box [.d (.raw za4),.d (.raw za4)])] h fun a w h=>qV ?_));replace h:=zbj 1 0 1 [.d (.raw za4),.d (.raw za4)] [(4,vp 1 0)] [(1,.box [cIs [],.d (.raw za4)])] h rfl rfl;replace h:=zbj 1 1 2 [cIs [],.d (.raw za4)] [(4,vp 1 0)] [(1,.box [cIs [],cZs []])] h rfl rfl;refine rA 1 [cIs [],cZs []] h kk_5 rfl ?_;have hz:zb8 r i=st0:=by unfold zb8;rw [List.getElem?_eq_none (by have:=dF hc4;omega)];rfl
 rw [hz];try rfl
theorem SRAt (r:RunD) (z:Int) (i:Nat) (hz:z=(i:Int)) (hl:r.stem.length+r.cycle.length<=20) (hi:i<=1000):Fn Tryz.prog 23 [] [vG [.d (.sl 2 (r.stem.map StD.d)),.d (.sl 2 (r.cycle.map StD.d)),cIs r.acts],vi .i64 z] (vG [cIs (zb8 r i).locs,cZs (zb8 r i).vals]) []:=by subst hz;exact SRAt0 r i hl hi
theorem SRRight (s:zan) (r:RunD) {L M:Nat} (hL:L+M<=1900) (hs:zb1 L s) (hr:RunOk M r):Fn Tryz.prog 48 [] [vG (zai s),vG [.d (.sl 2 (r.stem.map StD.d)),.d (.sl 2 (r.cycle.map StD.d)),cIs r.acts]] (vb (right s r)) []:=by
 have lr:=hr.len;have lall:(r.stem++r.cycle).length=r.stem.length+r.cycle.length:=List.length_append;refine Fn.body Tryz.func48 rfl 64 rfl fun w H B a h=>Jq 0 [] [(2,vp 0 0),(3,vp 1 0),(4,vb false)] [(0,.box (zai s)),(1,.box [.d (.sl 2 (r.stem.map StD.d)),.d (.sl 2 (r.cycle.map StD.d)),cIs r.acts])] h fun a w h=>Je 2 [(2,.len (za3 2 StD.d r.stem)),(5,.len (za3 2 StD.d r.cycle)),(6,.g (Op.arith (op:=.add) (d:=14) (xt:=3) (yt:=3) (k:=.i64) (m:=(r.stem.length:Int)) (n:=(r.cycle.length:Int)) (r:=((r.stem++r.cycle).length:Int)) (OV.tmp 10 _) (OV.tmp 13 _) (.inl ⟨rfl,(by rw [List.length_append];omega)⟩) i6))] [] [(5,vI ((r.stem++r.cycle).length:Int))] h fun a w h=>qW ?_
 rcases Bool.eq_false_or_eq_true ((r.cycle.length:Int) == 0) with hc1 | hc2
 ·have hc1':=hc1;(try simp at hc1');refine Je 2 [(2,.len (za3 2 StD.d r.cycle)),(3,.cmp (op:=.eql) (m:=(r.cycle.length:Int)) (n:=0) (b:=true) .i64 hc1)] [] [(25,vb true)] h fun a w h=>cS true h (fun _=>?_) nofun
  refine Je 2 [] [25] [] h fun a w h=>qV (za2 (rT (.c (cB false)) h rfl ?_));have hz:right s r=false:=by unfold right;rw [decide_eq_false (by have:=hc1;simp at this;intro h;exact h.1 (by simp [this]))];rfl
  rw [hz];try rfl
 have hc2':=hc2;(try simp at hc2');have hcl:0<r.cycle.length:=by have:=beq_eq_false_iff_ne.1 hc2;omega
 refine Je 2 [(2,.len (za3 2 StD.d r.cycle)),(3,.cmp (op:=.eql) (m:=(r.cycle.length:Int)) (n:=0) (b:=false) .i64 hc2),(7,.len (za3 1 zad r.acts))] [] [(25,vb ((r.acts.length:Int) != ((r.stem++r.cycle).length:Int)))] h fun a w h=>cS ((r.acts.length:Int) != ((r.stem++r.cycle).length:Int)) h (fun hc3=>?_) (fun hc4=>?_)
 ·have hc3':=hc3;(try simp at hc3');refine Je 2 [] [25] [] h fun a w h=>qV (za2 (rT (.c (cB false)) h rfl ?_));have hz:right s r=false:=by unfold right;rw [decide_eq_false (by have:=hc3;simp at this;intro h;have:=h.2;simp at this;omega)];rfl
  rw [hz];try rfl
 have hc4':=hc4;(try simp at hc4');have hla:r.acts.length=(r.stem++r.cycle).length:=by have:=hc4;simp only [bne_eq_false_iff_eq] at this;omega
 refine qU (za0 (qW (Je 2 [] [25] [(6,vI 0)] h fun a w h=>qZ ?_)))
 refine zb5 (ι:=(Nat)) (fun j=>j<=(r.stem++r.cycle).length/\zer j (stepOk s r)=true/\(0<j->first s (zb8 r 0)=true))
   (fun j=>[(2,vp 0 0),(3,vp 1 0),(5,vI ((r.stem++r.cycle).length:Int)),(6,vN j)])
   (fun j=>[(0,.box (zai s)),(1,.box [.d (.sl 2 (r.stem.map StD.d)),.d (.sl 2 (r.cycle.map StD.d)),cIs r.acts])])
   (fun j=>(r.stem++r.cycle).length - j) 0 ?_ h (by kernel_rfl) (by kernel_rfl) ?_
 ·exact ⟨Nat.zero_le _,rfl,fun h=>absurd h (Nat.lt_irrefl 0)⟩
 clear h;rintro j a w hI h;obtain ⟨hI1,hI2,hI3⟩:=hI;refine qW (Je 2 [] [] [(28,vb (decide ((j:Int)<((r.stem++r.cycle).length:Int))))] h fun a w h=>zap ((j:Int)<((r.stem++r.cycle).length:Int)) h (fun hc5 hc5'=>?_) (fun hc22 hc22'=>?_))
 ·refine qU (za0 (qW (qZ (qW ?_))))
  rcases Bool.eq_false_or_eq_true ((j:Int) == 0) with hc6 | hc15
  ·have hc6':=hc6;(try simp at hc6');refine Je 2 [(1,.cmp (op:=.eql) (m:=(j:Int)) (n:=0) (b:=true) .i64 hc6),(5,.call (SRAt r 0 0 (by omega) (by omega) (by omega)) ks_2),(6,.call (SRFirst s (zb8 r 0) (L:=L) (M:=M) (by omega) hs (zev hr _)) ks_3)] [28] [(39,vb (!(first s (zb8 r 0))))] h fun a w h=>cS (!(first s (zb8 r 0))) h (fun hc7=>?_) (fun hc8=>?_)
   ·have hc7':=hc7;(try simp at hc7');refine Je 2 [] [39] [(4,vb false)] h fun a w h=>qV (za2 (za7 (za2 (za2 (za7 (za2 (rT (.c (cB false)) h rfl ?_)))))));have hz:right s r=false:=by unfold right;rw [decide_eq_true ⟨by have:=hc2;simp at this;intro h;exact this (List.length_eq_zero_iff.1 h),by have:=hc4;simp at this;simp;omega⟩,Bool.true_and];rw [show first s (((r.stem++r.cycle)[0]?).getD st0)=false from (show (first s (zb8 r 0))=false from by simpa using hc7)];rfl
    rw [hz];try rfl
   have hc8':=hc8;(try simp at hc8');refine qU (za0 (Jd 2 [(2,.j1 j),(3,.call (SRAt r ((j:Int)+1) (j+1) (by omega) (by omega) (by omega)) ks_2)] [39] [(7,vp 2 0)] [(0,.box (zai s)),(1,.box [.d (.sl 2 (r.stem.map StD.d)),.d (.sl 2 (r.cycle.map StD.d)),cIs r.acts]),(2,.box [cIs (zb8 r (j+1)).locs,cZs (zb8 r (j+1)).vals])] h fun a w h=>qW (Je 3 [(1,.j1 j)] [] [(47,vb (((j:Int)+1) == ((r.stem++r.cycle).length:Int)))] h fun a w h=>cS (((j:Int)+1) == ((r.stem++r.cycle).length:Int)) h (fun hc9=>?_) (fun hc12=>?_))))
   ·have hc9':=hc9;(try simp at hc9');obtain ⟨x4,hx4⟩:=gl r.cycle 0;have gx4:=hr.cycle x4 (lM hx4);refine Jm 3 [(2,.g (xD 50 49 kn_0 (zab hx4 (f:=StD.d)) (OV.const (.int .i64 0) rfl)))] [47] [] [(0,.box (zai s)),(1,.box [.d (.sl 2 (r.stem.map StD.d)),.d (.sl 2 (r.cycle.map StD.d)),cIs r.acts]),(2,.box [cIs x4.locs,cZs x4.vals])] h fun a w h=>za0 ?_;obtain ⟨x6,hx6⟩:=gl r.acts j;refine Jd 3 [(3,.call (SRAt r (j:Int) j (by omega) (by omega) (by omega)) ks_2),(7,.g (xD 59 57 zdo (zab hx6 (f:=zad)) (OV.tmp 58 _))),(10,.call (SRLeads s (zb8 r j) x6 x4 hL hs (zev hr _) gx4) ks_5)] [7] [(63,vb (!(ze0 s (zb8 r j) x6 x4)))] [(0,.box (zai s)),(1,.box [.d (.sl 2 (r.stem.map StD.d)),.d (.sl 2 (r.cycle.map StD.d)),cIs r.acts])] h fun a w h=>cS (!(ze0 s (zb8 r j) x6 x4)) h (fun hc10=>?_) (fun hc11=>?_)
    ·have hc10':=hc10;(try simp at hc10');refine Je 3 [] [63] [(4,vb false)] h fun a w h=>qV (za7 (za2 (za2 (za7 (za2 (rT (.c (cB false)) h rfl ?_))))));have hz:right s r=false:=by unfold right;rw [decide_eq_true ⟨by have:=hc2;simp at this;intro h;exact this (List.length_eq_zero_iff.1 h),by have:=hc4;simp at this;simp;omega⟩,Bool.true_and];rw [zbf (j:=j) (by have:=dT hc5;omega) (show stepOk s r j=false from (by rw [zfh,hx6,show nxt r j=x4 by unfold nxt;rw [if_neg (by have:=hc9;simp only [beq_iff_eq] at this;omega),hx4];rfl];exact (show (ze0 s (zb8 r j) x6 x4)=false from by simpa using hc10))),Bool.and_false]
     rw [hz];try rfl
    have hc11':=hc11;(try simp at hc11');refine qU (zac (za0 (Jf 3 [(1,.j1 j)] [63] [(6,vI ((j:Int)+1))] h fun a w h=>za0 (zag (x:=j) (y:=j+1) h ?_ ?_))))
    ·exact ⟨by omega,zbe hI2 (by rw [zfh,hx6,show nxt r j=x4 by unfold nxt;rw [if_neg (by have:=hc9;simp only [beq_iff_eq] at this;omega),hx4];rfl];exact (show (ze0 s (zb8 r j) x6 x4)=true from by simpa using hc11)),(fun _=>(show (first s (zb8 r 0))=true from by simpa using hc8))⟩
    show (r.stem++r.cycle).length - (j+1)<(r.stem++r.cycle).length - j;omega
   have hc12':=hc12;(try simp at hc12');refine qU (za0 ?_);obtain ⟨x9,hx9⟩:=gl r.acts j;refine Jd 3 [(3,.call (SRAt r (j:Int) j (by omega) (by omega) (by omega)) ks_2),(7,.g (xD 59 57 zdo (zab hx9 (f:=zad)) (OV.tmp 58 _))),(10,.call (SRLeads s (zb8 r j) x9 (zb8 r (j+1)) hL hs (zev hr _) (zev hr _)) ks_5)] [7,47] [(63,vb (!(ze0 s (zb8 r j) x9 (zb8 r (j+1)))))] [(0,.box (zai s)),(1,.box [.d (.sl 2 (r.stem.map StD.d)),.d (.sl 2 (r.cycle.map StD.d)),cIs r.acts])] h fun a w h=>cS (!(ze0 s (zb8 r j) x9 (zb8 r (j+1)))) h (fun hc13=>?_) (fun hc14=>?_)
   ·have hc13':=hc13;(try simp at hc13');refine Je 3 [] [63] [(4,vb false)] h fun a w h=>qV (za7 (za2 (za2 (za7 (za2 (rT (.c (cB false)) h rfl ?_))))));have hz:right s r=false:=by unfold right;rw [decide_eq_true ⟨by have:=hc2;simp at this;intro h;exact this (List.length_eq_zero_iff.1 h),by have:=hc4;simp at this;simp;omega⟩,Bool.true_and];rw [zbf (j:=j) (by have:=dT hc5;omega) (show stepOk s r j=false from (by rw [zfh,hx9,nxt_lt (show j+1<(r.stem++r.cycle).length by have:=hc12;simp only [beq_eq_false_iff_ne] at this;omega)];exact (show (ze0 s (zb8 r j) x9 (zb8 r (j+1)))=false from by simpa using hc13))),Bool.and_false]
    rw [hz];try rfl
   have hc14':=hc14;(try simp at hc14');refine qU (zac (za0 (Jf 3 [(1,.j1 j)] [63] [(6,vI ((j:Int)+1))] h fun a w h=>za0 (zag (x:=j) (y:=j+1) h ?_ ?_))))
   ·exact ⟨by omega,zbe hI2 (by rw [zfh,hx9,nxt_lt (show j+1<(r.stem++r.cycle).length by have:=hc12;simp only [beq_eq_false_iff_ne] at this;omega)];exact (show (ze0 s (zb8 r j) x9 (zb8 r (j+1)))=true from by simpa using hc14)),(fun _=>(show (first s (zb8 r 0))=true from by simpa using hc8))⟩
   show (r.stem++r.cycle).length - (j+1)<(r.stem++r.cycle).length - j;omega
  have hc15':=hc15;(try simp at hc15');refine Je 3 [(1,.cmp (op:=.eql) (m:=(j:Int)) (n:=0) (b:=false) .i64 hc15)] [28] [(39,vb false)] h fun a w h=>zbn false h rfl nofun (fun _=>qU (za0 (Jd 3 [(2,.j1 j),(3,.call (SRAt r ((j:Int)+1) (j+1) (by omega) (by omega) (by omega)) ks_2)] [39] [(7,vp 3 0)] [(0,.box (zai s)),(1,.box [.d (.sl 2 (r.stem.map StD.d)),.d (.sl 2 (r.cycle.map StD.d)),cIs r.acts]),(3,.box [cIs (zb8 r (j+1)).locs,cZs (zb8 r (j+1)).vals])] h fun a w h=>qW (Je 4 [(1,.j1 j)] [] [(47,vb (((j:Int)+1) == ((r.stem++r.cycle).length:Int)))] h fun a w h=>cS (((j:Int)+1) == ((r.stem++r.cycle).length:Int)) h (fun hc16=>?_) (fun hc19=>?_)))))
  ·have hc16':=hc16;(try simp at hc16');obtain ⟨x12,hx12⟩:=gl r.cycle 0;have gx12:=hr.cycle x12 (lM hx12);refine Jm 4 [(2,.g (xD 50 49 kn_0 (zab hx12 (f:=StD.d)) (OV.const (.int .i64 0) rfl)))] [47] [] [(0,.box (zai s)),(1,.box [.d (.sl 2 (r.stem.map StD.d)),.d (.sl 2 (r.cycle.map StD.d)),cIs r.acts]),(3,.box [cIs x12.locs,cZs x12.vals])] h fun a w h=>za0 ?_;obtain ⟨x14,hx14⟩:=gl r.acts j;refine Jd 4 [(3,.call (SRAt r (j:Int) j (by omega) (by omega) (by omega)) ks_2),(7,.g (xD 59 57 zdo (zab hx14 (f:=zad)) (OV.tmp 58 _))),(10,.call (SRLeads s (zb8 r j) x14 x12 hL hs (zev hr _) gx12) ks_5)] [7] [(63,vb (!(ze0 s (zb8 r j) x14 x12)))] [(0,.box (zai s)),(1,.box [.d (.sl 2 (r.stem.map StD.d)),.d (.sl 2 (r.cycle.map StD.d)),cIs r.acts])] h fun a w h=>cS (!(ze0 s (zb8 r j) x14 x12)) h (fun hc17=>?_) (fun hc18=>?_)
   ·have hc17':=hc17;(try simp at hc17');refine Je 4 [] [63] [(4,vb false)] h fun a w h=>qV (za7 (za2 (za2 (za7 (za2 (rT (.c (cB false)) h rfl ?_))))));have hz:right s r=false:=by unfold right;rw [decide_eq_true ⟨by have:=hc2;simp at this;intro h;exact this (List.length_eq_zero_iff.1 h),by have:=hc4;simp at this;simp;omega⟩,Bool.true_and];rw [zbf (j:=j) (by have:=dT hc5;omega) (show stepOk s r j=false from (by rw [zfh,hx14,show nxt r j=x12 by unfold nxt;rw [if_neg (by have:=hc16;simp only [beq_iff_eq] at this;omega),hx12];rfl];exact (show (ze0 s (zb8 r j) x14 x12)=false from by simpa using hc17))),Bool.and_false]
    rw [hz];try rfl
   have hc18':=hc18;(try simp at hc18');refine qU (zac (za0 (Jf 4 [(1,.j1 j)] [63] [(6,vI ((j:Int)+1))] h fun a w h=>za0 (zag (x:=j) (y:=j+1) h ?_ ?_))))
   ·exact ⟨by omega,zbe hI2 (by rw [zfh,hx14,show nxt r j=x12 by unfold nxt;rw [if_neg (by have:=hc16;simp only [beq_iff_eq] at this;omega),hx12];rfl];exact (show (ze0 s (zb8 r j) x14 x12)=true from by simpa using hc18)),(fun _=>hI3 (by have:=hc15;simp only [beq_eq_false_iff_ne] at this;omega))⟩
   show (r.stem++r.cycle).length - (j+1)<(r.stem++r.cycle).length - j;omega
  have hc19':=hc19;(try simp at hc19');refine qU (za0 ?_);obtain ⟨x17,hx17⟩:=gl r.acts j;refine Jd 4 [(3,.call (SRAt r (j:Int) j (by omega) (by omega) (by omega)) ks_2),(7,.g (xD 59 57 zdo (zab hx17 (f:=zad)) (OV.tmp 58 _))),(10,.call (SRLeads s (zb8 r j) x17 (zb8 r (j+1)) hL hs (zev hr _) (zev hr _)) ks_5)] [7,47] [(63,vb (!(ze0 s (zb8 r j) x17 (zb8 r (j+1)))))] [(0,.box (zai s)),(1,.box [.d (.sl 2 (r.stem.map StD.d)),.d (.sl 2 (r.cycle.map StD.d)),cIs r.acts])] h fun a w h=>cS (!(ze0 s (zb8 r j) x17 (zb8 r (j+1)))) h (fun hc20=>?_) (fun hc21=>?_)
  ·have hc20':=hc20;(try simp at hc20');refine Je 4 [] [63] [(4,vb false)] h fun a w h=>qV (za7 (za2 (za2 (za7 (za2 (rT (.c (cB false)) h rfl ?_))))));have hz:right s r=false:=by unfold right;rw [decide_eq_true ⟨by have:=hc2;simp at this;intro h;exact this (List.length_eq_zero_iff.1 h),by have:=hc4;simp at this;simp;omega⟩,Bool.true_and];rw [zbf (j:=j) (by have:=dT hc5;omega) (show stepOk s r j=false from (by rw [zfh,hx17,nxt_lt (show j+1<(r.stem++r.cycle).length by have:=hc19;simp only [beq_eq_false_iff_ne] at this;omega)];exact (show (ze0 s (zb8 r j) x17 (zb8 r (j+1)))=false from by simpa using hc20))),Bool.and_false]
   rw [hz];try rfl
  have hc21':=hc21;(try simp at hc21');refine qU (zac (za0 (Jf 4 [(1,.j1 j)] [63] [(6,vI ((j:Int)+1))] h fun a w h=>za0 (zag (x:=j) (y:=j+1) h ?_ ?_))))
  ·exact ⟨by omega,zbe hI2 (by rw [zfh,hx17,nxt_lt (show j+1<(r.stem++r.cycle).length by have:=hc19;simp only [beq_eq_false_iff_ne] at this;omega)];exact (show (ze0 s (zb8 r j) x17 (zb8 r (j+1)))=true from by simpa using hc21)),(fun _=>hI3 (by have:=hc15;simp only [beq_eq_false_iff_ne] at this;omega))⟩
  show (r.stem++r.cycle).length - (j+1)<(r.stem++r.cycle).length - j;omega
 refine wp_exit (zaa (zaa (za5 (za0 (Jq 4 [] [(4,vb true)] [] h fun a w h=>qV (rT (.c (cB true)) h rfl ?_))))));have hz:right s r=true:=by unfold right;rw [decide_eq_true ⟨by have:=hc2;simp at this;intro h;exact this (List.length_eq_zero_iff.1 h),by have:=hc4;simp at this;simp;omega⟩,Bool.true_and];rw [show first s (((r.stem++r.cycle)[0]?).getD st0)=true from hI3 (by have:=dF hc22;omega),show (r.stem++r.cycle).length=j by have:=dF hc22;omega,hI2];rfl
 rw [hz];try rfl
theorem kt_1:za6 Tryz.prog 49:=za6.mk' (by kernel_rfl)
theorem all2c {α β:Type} {R:α->β->Prop} {x:α} {xs:List α} {us:List β} (h:zba R (x :: xs) us):∃ u vs,us=u :: vs/\R x u/\zba R xs vs:=by
 cases us with
 | nil=>exact h.elim
 | cons u us=>exact ⟨u,us,rfl,h⟩
theorem Fn.agg6 {P:Program} {k:FuncId} {ps qs:List (Nat × L)} {es:Nat} {c1 c2 c3 c4 c5:C} {x y res:V} (h:Fn P k ps [vG [c1,c2,c3,c4,c5,.d (.sl es [])],x,y] res qs):Fn P k ps [vG [c1,c2,c3,c4,c5,.d (.raw za4)],x,y] res qs:=by
 intro w H B vals pre
 obtain ⟨h1,h2,h3,h4,h5,h0⟩:=pre
 cases vals with
 | nil=>exact h5.elim
 | cons v vs =>
  obtain ⟨⟨us,rfl,ha⟩,ht⟩:=h5
  obtain ⟨u1,us,rfl,a1,ha⟩:=all2c ha
  obtain ⟨u2,us,rfl,a2,ha⟩:=all2c ha
  obtain ⟨u3,us,rfl,a3,ha⟩:=all2c ha
  obtain ⟨u4,us,rfl,a4,ha⟩:=all2c ha
  obtain ⟨u5,us,rfl,a5,ha⟩:=all2c ha
  obtain ⟨u6,us,rfl,a6,hz⟩:=all2c ha
  have h6:u6=za4:=VR.rawI (B:=B) a6
  subst h6
  exact h w H B _ ⟨h1,h2,h3,h4,⟨⟨_,rfl,a1,a2,a3,a4,a5,DR.nil _ _ _ (fun _=>rfl) (Nat.zero_le _),hz⟩,ht⟩,h0⟩
def fewB (L:Nat) (b:zah):Bool:=decide ((b.lo.abs.length:Int)<=(L:Int)) && decide ((b.hi.abs.length:Int)<=(L:Int))
def formT (t:zgm):za8:=⟨2,⟨t,false⟩,[]⟩
def fewM (L:Nat) (m:zaf):Bool:=zh0 (formT m.t) 5 L
def fewA (L:Nat) (c:zaz):Bool:=(zh0 c.guard 30 L && decide ((c.moves.length:Int)<=20)) && c.moves.all (fewM L)
def zbv (L:Nat) (s:zan):Bool:=(decide ((s.vars.length:Int)<=8/\(s.bounds.length:Int)<=20/\(s.procs.length:Int)<=6/\(s.acts.length:Int)<=20) && zh0 s.init 30 L) && (s.bounds.all (fewB L) && s.acts.all (fewA L))
/-- limbs that are limbs -/
structure SysRd (s:zan):Prop where
  init:s.init.lb
  bnd:∀ b ∈ s.bounds,Lb b.lo.abs/\Lb b.hi.abs
  act:∀ c ∈ s.acts,c.guard.lb/\∀ m ∈ c.moves,TLb m.t
  len:s.bounds.length<=9223372036854775807/\s.acts.length<=9223372036854775807
  mlen:∀ c ∈ s.acts,c.moves.length<=9223372036854775807
theorem fewF_ok {f:za8} {most:Int} {L:Nat} (h:zh0 f most L=true) (hl:f.lb):f.ok L:=by unfold zh0 at h;rw [Bool.and_eq_true] at h;exact za8.few_ok f h.2 hl
theorem formT_lb {t:zgm} (h:TLb t):(formT t).lb:=(za8.lb_eq _).2 ⟨⟨h,Nat.zero_le _⟩,fun g hg=>(by cases hg)⟩
theorem formT_ok {t:zgm} {L:Nat} (h:(formT t).ok L):TOk 20 L t:=((za8.ok_eq L _).1 h).1 rfl
theorem few_sys {L:Nat} {s:zan} (h:zbv L s=true) (hr:SysRd s):zb1 L s:=by
 unfold zbv at h
 simp only [Bool.and_eq_true,decide_eq_true_eq,List.all_eq_true] at h
 obtain ⟨⟨⟨h1,h2,h3,h4⟩,h5⟩,h6,h7⟩:=h
 refine ⟨by omega,by omega,by omega,by omega,fun b hb=>?_,⟨hr.init,fewF_ok h5 hr.init⟩,fun c hc=>?_⟩
 ·have:=h6 b hb;unfold fewB at this;simp only [Bool.and_eq_true,decide_eq_true_eq] at this
  exact ⟨⟨(hr.bnd b hb).1,by omega⟩,(hr.bnd b hb).2,by omega⟩
 ·have:=h7 c hc;unfold fewA at this;simp only [Bool.and_eq_true,decide_eq_true_eq,List.all_eq_true] at this
  exact ⟨⟨(hr.act c hc).1,fewF_ok this.1.1 (hr.act c hc).1⟩,by omega,fun m hm=>formT_ok (fewF_ok (this.2 m hm) (formT_lb ((hr.act c hc).2 m hm)))⟩
theorem SFewSys (s:zan) (L:Nat) (hr:SysRd s):Fn Tryz.prog 30 [] [vG (zai s),vN L] (vb (zbv L s)) []:=by
 have lb1:=hr.len.1;have lb2:=hr.len.2;refine Fn.body Tryz.func30 rfl 118 rfl fun w H B a h=>Jq 0 [] [(1,vN L),(2,vp 0 0),(4,vb false)] [(0,.box (zai s))] h fun a w h=>qW ?_
 rcases Bool.eq_false_or_eq_true (decide ((s.vars.length:Int)>8)) with hc1 | hc2
 ·have hc1':=dT hc1;refine Je 1 [(2,.len (za3 1 zc6 s.vars)),(3,.cmp (op:=.gtr) (m:=(s.vars.length:Int)) (n:=8) (b:=true) .i64 hc1)] [] [(36,vb true)] h fun a w h=>cS true h (fun _=>?_) nofun
  refine Je 1 [] [36] [] h fun a w h=>qV (za2 (rT (.c (cB false)) h rfl ?_));have hz:zbv L s=false:=by unfold zbv;rw [decide_eq_false (p:=(s.vars.length:Int)<=8/\(s.bounds.length:Int)<=20/\(s.procs.length:Int)<=6/\(s.acts.length:Int)<=20) (by have:=dT hc1;omega)];rfl
  rw [hz];try rfl
 have hc2':=dF hc2
 rcases Bool.eq_false_or_eq_true (decide ((s.bounds.length:Int)>20)) with hc3 | hc4
 ·have hc3':=dT hc3;refine Je 1 [(2,.len (za3 1 zc6 s.vars)),(3,.cmp (op:=.gtr) (m:=(s.vars.length:Int)) (n:=8) (b:=false) .i64 hc2),(7,.len (za3 5 zah.d s.bounds)),(8,.cmp (op:=.gtr) (m:=(s.bounds.length:Int)) (n:=20) (b:=true) .i64 hc3)] [] [(36,vb true)] h fun a w h=>cS true h (fun _=>?_) nofun
  refine Je 1 [] [36] [] h fun a w h=>qV (za2 (rT (.c (cB false)) h rfl ?_));have hz:zbv L s=false:=by unfold zbv;rw [decide_eq_false (p:=(s.vars.length:Int)<=8/\(s.bounds.length:Int)<=20/\(s.procs.length:Int)<=6/\(s.acts.length:Int)<=20) (by have:=dT hc3;omega)];rfl
  rw [hz];try rfl
 have hc4':=dF hc4
 rcases Bool.eq_false_or_eq_true (decide ((s.procs.length:Int)>6)) with hc5 | hc6
 ·have hc5':=dT hc5;refine Je 1 [(2,.len (za3 1 zc6 s.vars)),(3,.cmp (op:=.gtr) (m:=(s.vars.length:Int)) (n:=8) (b:=false) .i64 hc2),(7,.len (za3 5 zah.d s.bounds)),(8,.cmp (op:=.gtr) (m:=(s.bounds.length:Int)) (n:=20) (b:=false) .i64 hc4),(13,.len (za3 3 zav.d s.procs)),(14,.cmp (op:=.gtr) (m:=(s.procs.length:Int)) (n:=6) (b:=true) .i64 hc5)] [] [(36,vb true)] h fun a w h=>cS true h (fun _=>?_) nofun
  refine Je 1 [] [36] [] h fun a w h=>qV (za2 (rT (.c (cB false)) h rfl ?_));have hz:zbv L s=false:=by unfold zbv;rw [decide_eq_false (p:=(s.vars.length:Int)<=8/\(s.bounds.length:Int)<=20/\(s.procs.length:Int)<=6/\(s.acts.length:Int)<=20) (by have:=dT hc5;omega)];rfl
  rw [hz];try rfl
 have hc6':=dF hc6
 rcases Bool.eq_false_or_eq_true (decide ((s.acts.length:Int)>20)) with hc7 | hc8
 ·have hc7':=dT hc7;refine Je 1 [(2,.len (za3 1 zc6 s.vars)),(3,.cmp (op:=.gtr) (m:=(s.vars.length:Int)) (n:=8) (b:=false) .i64 hc2),(7,.len (za3 5 zah.d s.bounds)),(8,.cmp (op:=.gtr) (m:=(s.bounds.length:Int)) (n:=20) (b:=false) .i64 hc4),(13,.len (za3 3 zav.d s.procs)),(14,.cmp (op:=.gtr) (m:=(s.procs.length:Int)) (n:=6) (b:=false) .i64 hc6),(19,.len (za3 10 zaz.d s.acts)),(20,.cmp (op:=.gtr) (m:=(s.acts.length:Int)) (n:=20) (b:=true) .i64 hc7)] [] [(36,vb true)] h fun a w h=>cS true h (fun _=>?_) nofun
  refine Je 1 [] [36] [] h fun a w h=>qV (za2 (rT (.c (cB false)) h rfl ?_));have hz:zbv L s=false:=by unfold zbv;rw [decide_eq_false (p:=(s.vars.length:Int)<=8/\(s.bounds.length:Int)<=20/\(s.procs.length:Int)<=6/\(s.acts.length:Int)<=20) (by have:=dT hc7;omega)];rfl
  rw [hz];try rfl
 have hc8':=dF hc8;refine Je 1 [(2,.len (za3 1 zc6 s.vars)),(3,.cmp (op:=.gtr) (m:=(s.vars.length:Int)) (n:=8) (b:=false) .i64 hc2),(7,.len (za3 5 zah.d s.bounds)),(8,.cmp (op:=.gtr) (m:=(s.bounds.length:Int)) (n:=20) (b:=false) .i64 hc4),(13,.len (za3 3 zav.d s.procs)),(14,.cmp (op:=.gtr) (m:=(s.procs.length:Int)) (n:=6) (b:=false) .i64 hc6),(19,.len (za3 10 zaz.d s.acts)),(20,.cmp (op:=.gtr) (m:=(s.acts.length:Int)) (n:=20) (b:=false) .i64 hc8),(26,.call (SFewF s.init 30 (L:Int) hr.init (by decide) (by decide)) kt_1)] [] [(36,vb (!(zh0 s.init 30 L)))] h fun a w h=>cS (!(zh0 s.init 30 L)) h (fun hc9=>?_) (fun hc10=>?_)
 ·have hc9':=hc9;(try simp at hc9');refine Je 1 [] [36] [] h fun a w h=>qV (za2 (rT (.c (cB false)) h rfl ?_));have hz:zbv L s=false:=by unfold zbv;rw [decide_eq_true (p:=(s.vars.length:Int)<=8/\(s.bounds.length:Int)<=20/\(s.procs.length:Int)<=6/\(s.acts.length:Int)<=20) (by have:=dF hc2;have:=dF hc4;have:=dF hc6;have:=dF hc8;omega),Bool.true_and];rw [(show (zh0 s.init 30 L)=false from by simpa using hc9)];rfl
  rw [hz];try rfl
 have hc10':=hc10;(try simp at hc10');refine qU (za0 (qW (Je 1 [] [36] [(5,vI 0)] h fun a w h=>qZ ?_)))
 refine zb5 (ι:=(Nat)) (fun j=>j<=s.bounds.length/\(s.bounds.take j).all (fewB L)=true)
   (fun j=>[(1,vN L),(2,vp 0 0),(5,vN j)])
   (fun j=>[(0,.box (zai s))])
   (fun j=>s.bounds.length - j) 0 ?_ h (by kernel_rfl) (by kernel_rfl) ?_
 ·exact ⟨Nat.zero_le _,rfl⟩
 clear h;rintro j a w hI h;obtain ⟨hI1,hI2⟩:=hI;refine qW (Je 1 [(3,.len (za3 5 zah.d s.bounds))] [] [(41,vb (decide ((j:Int)<(s.bounds.length:Int))))] h fun a w h=>zap ((j:Int)<(s.bounds.length:Int)) h (fun hc11 hc11'=>?_) (fun hc16 hc16'=>?_))
 ·refine qU (za0 (qW (qZ ?_)));obtain ⟨x2,hx2⟩:=gl s.bounds j
  rcases Bool.eq_false_or_eq_true (decide ((x2.lo.abs.length:Int)>(L:Int))) with hc12 | hc13
  ·have hc12':=dT hc12;refine Je 1 [(3,.g (xD 47 45 kf_0 (zab hx2 (f:=zah.d)) (OV.tmp 46 _))),(7,.len (zey x2.lo.abs)),(9,.cmp (op:=.gtr) (m:=(x2.lo.abs.length:Int)) (n:=(L:Int)) (b:=true) .i64 hc12)] [41] [(65,vb true)] h fun a w h=>cS true h (fun _=>?_) nofun
   refine Je 1 [] [65] [(4,vb false)] h fun a w h=>qV (za7 (za2 (za2 (za7 (za2 (rT (.c (cB false)) h rfl ?_))))));have hz:zbv L s=false:=by unfold zbv;rw [decide_eq_true (p:=(s.vars.length:Int)<=8/\(s.bounds.length:Int)<=20/\(s.procs.length:Int)<=6/\(s.acts.length:Int)<=20) (by have:=dF hc2;have:=dF hc4;have:=dF hc6;have:=dF hc8;omega),Bool.true_and];rw [(show (zh0 s.init 30 L)=true from by simpa using hc10)];rw [zcq hx2 (show fewB L x2=false from (by unfold fewB;rw [decide_eq_false (by have:=dT hc12;omega)];rfl))];rfl
   rw [hz];try rfl
  have hc13':=dF hc13;refine Je 1 [(3,.g (xD 47 45 kf_0 (zab hx2 (f:=zah.d)) (OV.tmp 46 _))),(7,.len (zey x2.lo.abs)),(9,.cmp (op:=.gtr) (m:=(x2.lo.abs.length:Int)) (n:=(L:Int)) (b:=false) .i64 hc13),(14,.g (xD 58 56 kf_0 (zab hx2 (f:=zah.d)) (OV.tmp 57 _))),(18,.len (zey x2.hi.abs))] [41] [(65,vb (decide ((x2.hi.abs.length:Int)>(L:Int))))] h fun a w h=>zap ((x2.hi.abs.length:Int)>(L:Int)) h (fun hc14 hc14'=>?_) (fun hc15 hc15'=>?_)
  ·refine Je 1 [] [65] [(4,vb false)] h fun a w h=>qV (za7 (za2 (za2 (za7 (za2 (rT (.c (cB false)) h rfl ?_))))));have hz:zbv L s=false:=by unfold zbv;rw [decide_eq_true (p:=(s.vars.length:Int)<=8/\(s.bounds.length:Int)<=20/\(s.procs.length:Int)<=6/\(s.acts.length:Int)<=20) (by have:=dF hc2;have:=dF hc4;have:=dF hc6;have:=dF hc8;omega),Bool.true_and];rw [(show (zh0 s.init 30 L)=true from by simpa using hc10)];rw [zcq hx2 (show fewB L x2=false from (by unfold fewB;rw [decide_eq_false (p:=(x2.hi.abs.length:Int)<=(L:Int)) (by have:=dT hc14;omega),Bool.and_false]))];rfl
   rw [hz];try rfl
  refine qU (zac (za0 (Jf 1 [(1,.j1 j)] [65] [(5,vI ((j:Int)+1))] h fun a w h=>za0 (zag (x:=j) (y:=j+1) h ?_ ?_))))
  ·exact ⟨by have:=zak hx2;omega,zea hx2 hI2 (by unfold fewB;rw [decide_eq_true (by have:=dF hc13;omega),decide_eq_true (by have:=dF hc15;omega)];rfl)⟩
  show s.bounds.length - (j+1)<s.bounds.length - j;have:=zak hx2;omega
 refine wp_exit (zaa (zaa (za5 (za0 (qW (Je 1 [] [5,41] [(6,vI 0)] h fun a w h=>qZ ?_))))))
 refine zb5 (ι:=(Nat)) (fun q=>q<=s.acts.length/\(s.acts.take q).all (fewA L)=true)
   (fun q=>[(1,vN L),(2,vp 0 0),(6,vN q)])
   (fun q=>[(0,.box (zai s))])
   (fun q=>s.acts.length - q) 0 ?_ h (by kernel_rfl) (by kernel_rfl) ?_
 ·exact ⟨Nat.zero_le _,rfl⟩
 clear h;rintro q a w hI h;obtain ⟨hQ1,hQ2⟩:=hI;refine qW (Je 1 [(3,.len (za3 10 zaz.d s.acts))] [] [(70,vb (decide ((q:Int)<(s.acts.length:Int))))] h fun a w h=>zap ((q:Int)<(s.acts.length:Int)) h (fun hc17 hc17'=>?_) (fun hc26 hc26'=>?_))
 ·refine qU (za0 (qW (qZ (qW ?_))));obtain ⟨x3,hx3⟩:=gl s.acts q;have lmx3:=hr.mlen x3 (lM hx3)
  rcases Bool.eq_false_or_eq_true (zh0 x3.guard 30 L) with hc18 | hc25
  ·refine Je 1 [(3,.g (xD 76 74 ki_1 (zab hx3 (f:=zaz.d)) (OV.tmp 75 _))),(7,.call (Fn.cast (SFewF x3.guard 30 (L:Int) (hr.act x3 (lM hx3)).1 (by decide) (by decide)) (congrArg vb hc18)) kt_1),(13,.g (xD 86 84 ki_1 (zab hx3 (f:=zaz.d)) (OV.tmp 85 _))),(16,.len (za3 5 zaf.d x3.moves))] [70] [(91,vb (decide ((x3.moves.length:Int)>20)))] h fun a w h=>zap ((x3.moves.length:Int)>20) h (fun hc19 hc19'=>?_) (fun hc20 hc20'=>?_)
   ·refine Je 1 [] [91] [(4,vb false)] h fun a w h=>qV (za2 (za7 (za2 (za2 (za7 (za2 (rT (.c (cB false)) h rfl ?_)))))));have hz:zbv L s=false:=by unfold zbv;rw [decide_eq_true (p:=(s.vars.length:Int)<=8/\(s.bounds.length:Int)<=20/\(s.procs.length:Int)<=6/\(s.acts.length:Int)<=20) (by have:=dF hc2;have:=dF hc4;have:=dF hc6;have:=dF hc8;omega),Bool.true_and];rw [(show (zh0 s.init 30 L)=true from by simpa using hc10)];rw [zdx (dF hc16) hI2];rw [zcq hx3 (show fewA L x3=false from (by unfold fewA;rw [decide_eq_false (p:=(x3.moves.length:Int)<=20) (by have:=dT hc19;omega),Bool.and_false];rfl))];rfl
    rw [hz];try rfl
   refine qU (za0 (Je 1 [] [91] [(7,vI 0)] h fun a w h=>qZ ?_))
   refine zb5 (ι:=(Nat)) (fun i=>i<=x3.moves.length/\(x3.moves.take i).all (fewM L)=true)
     (fun i=>[(1,vN L),(2,vp 0 0),(6,vN q),(7,vN i)])
     (fun i=>[(0,.box (zai s))])
     (fun i=>x3.moves.length - i) 0 ?_ h (by kernel_rfl) (by kernel_rfl) ?_
   ·exact ⟨Nat.zero_le _,rfl⟩
   clear h;rintro i a w hI h;obtain ⟨hJ1,hJ2⟩:=hI;refine qW (Je 1 [(4,.g (xD 96 94 ki_1 (zab hx3 (f:=zaz.d)) (OV.tmp 95 _))),(7,.len (za3 5 zaf.d x3.moves))] [] [(100,vb (decide ((i:Int)<(x3.moves.length:Int))))] h fun a w h=>zap ((i:Int)<(x3.moves.length:Int)) h (fun hc21 hc21'=>?_) (fun hc24 hc24'=>?_))
   ·refine qU (za0 (qW (qZ ?_)));obtain ⟨x6,hx6⟩:=gl x3.moves i;refine Je 1 [(3,.g (xD 106 104 ki_1 (zab hx3 (f:=zaz.d)) (OV.tmp 105 _))),(7,.g (xD 110 108 ki_2 (zab hx6 (f:=zaf.d)) (OV.tmp 109 _))),(13,.call (Fn.agg6 (SFewF (formT x6.t) 5 (L:Int) (formT_lb ((hr.act x3 (lM hx3)).2 x6 (lM hx6))) (by decide) (by decide))) kt_1)] [100] [(117,vb (!(zh0 (formT x6.t) 5 L)))] h fun a w h=>cS (!(zh0 (formT x6.t) 5 L)) h (fun hc22=>?_) (fun hc23=>?_)
    ·have hc22':=hc22;(try simp at hc22');refine Je 1 [] [117] [(4,vb false)] h fun a w h=>qV (za7 (za2 (za2 (za7 (za7 (za2 (za2 (za7 (za2 (rT (.c (cB false)) h rfl ?_))))))))));have hz:zbv L s=false:=by unfold zbv;rw [decide_eq_true (p:=(s.vars.length:Int)<=8/\(s.bounds.length:Int)<=20/\(s.procs.length:Int)<=6/\(s.acts.length:Int)<=20) (by have:=dF hc2;have:=dF hc4;have:=dF hc6;have:=dF hc8;omega),Bool.true_and];rw [(show (zh0 s.init 30 L)=true from by simpa using hc10)];rw [zdx (dF hc16) hI2];rw [zcq hx3 (show fewA L x3=false from (by unfold fewA;rw [hc18,decide_eq_true (p:=(x3.moves.length:Int)<=20) (by have:=dF hc20;omega),Bool.true_and,Bool.true_and];exact zcq hx6 (show fewM L x6=false from (show (zh0 (formT x6.t) 5 L)=false from by simpa using hc22))))];rfl
     rw [hz];try rfl
    have hc23':=hc23;(try simp at hc23');refine qU (zac (za0 (Jf 1 [(1,.j1 i)] [117] [(7,vI ((i:Int)+1))] h fun a w h=>za0 (zag (x:=i) (y:=i+1) h ?_ ?_))))
    ·have:=zak hx6;exact ⟨by omega,zea hx6 hJ2 (show fewM L x6=true from (show (zh0 (formT x6.t) 5 L)=true from by simpa using hc23))⟩
    show x3.moves.length - (i+1)<x3.moves.length - i;have:=zak hx6;omega
   refine wp_exit (zaa (zaa (za5 (zac (za0 (Jf 1 [(1,.add .i64 (m:=(q:Int)) (n:=1) i6)] [7,100] [(6,vI ((q:Int)+1))] h fun a w h=>za0 (zag (x:=q) (y:=q+1) h ?_ ?_)))))))
   ·have:=zak hx3;exact ⟨by omega,zea hx3 hQ2 (by unfold fewA;rw [hc18,decide_eq_true (p:=(x3.moves.length:Int)<=20) (by have:=dF hc20;omega),Bool.true_and,Bool.true_and];exact zdx (dF hc24) hJ2)⟩
   show s.acts.length - (q+1)<s.acts.length - q;have:=zak hx3;omega
  refine Je 1 [(3,.g (xD 76 74 ki_1 (zab hx3 (f:=zaz.d)) (OV.tmp 75 _))),(7,.call (Fn.cast (SFewF x3.guard 30 (L:Int) (hr.act x3 (lM hx3)).1 (by decide) (by decide)) (congrArg vb hc25)) kt_1)] [70] [(91,vb true)] h fun a w h=>cS true h (fun _=>?_) nofun
  refine Je 1 [] [91] [(4,vb false)] h fun a w h=>qV (za2 (za7 (za2 (za2 (za7 (za2 (rT (.c (cB false)) h rfl ?_)))))));have hz:zbv L s=false:=by unfold zbv;rw [decide_eq_true (p:=(s.vars.length:Int)<=8/\(s.bounds.length:Int)<=20/\(s.procs.length:Int)<=6/\(s.acts.length:Int)<=20) (by have:=dF hc2;have:=dF hc4;have:=dF hc6;have:=dF hc8;omega),Bool.true_and];rw [(show (zh0 s.init 30 L)=true from by simpa using hc10)];rw [zdx (dF hc16) hI2];rw [zcq hx3 (show fewA L x3=false from (by unfold fewA;rw [hc25];rfl))];rfl
  rw [hz];try rfl
 refine wp_exit (zaa (zaa (za5 (za0 (Jq 1 [] [(4,vb true)] [] h fun a w h=>qV (rT (.c (cB true)) h rfl ?_))))));have hz:zbv L s=true:=by unfold zbv;rw [decide_eq_true (p:=(s.vars.length:Int)<=8/\(s.bounds.length:Int)<=20/\(s.procs.length:Int)<=6/\(s.acts.length:Int)<=20) (by have:=dF hc2;have:=dF hc4;have:=dF hc6;have:=dF hc8;omega),Bool.true_and];rw [(show (zh0 s.init 30 L)=true from by simpa using hc10)];rw [zdx (dF hc16) hI2];rw [zdx (dF hc26) hQ2];rfl
 rw [hz];try rfl
def wpX (r:Option Nat) (ds:List Deferred) (P:Program) (c:Code) (Q:Exit->Act->World->Prop) (a:Act) (w:World):Prop :=
  c.wpIn { Fence.wide with round:=r } 9 P (fun ex a' w'=>a'.defers=ds/\Q ex { a' with defers:=[] } w') { a with defers:=ds } w
section
variable {r:Option Nat} {ds:List Deferred} {P:Program} {Q:Exit->Act->World->Prop} {a:Act} {w:World}
theorem zg2 {a:Act} (h:a.defers=ds):{ { a with defers:=[] } with defers:=ds }=a:=by cases a;cases h;rfl
theorem wpX_mono {c:Code} {Q':Exit->Act->World->Prop} (h:wpX r ds P c Q a w) (hq:∀ e a w,Q e a w->Q' e a w):wpX r ds P c Q' a w :=
 wpIn_mono h fun _ _ _ ⟨h1,h2⟩=>⟨h1,hq _ _ _ h2⟩
theorem wpX_seq {x y:Code} (h:wpX r ds P x (Exit.then (fun a w=>wpX r ds P y Q a w) Q) a w):wpX r ds P (.seq x y) Q a w:=by
 refine wpIn_seq (wpIn_mono h fun e a' w' hq=>?_)
 obtain ⟨h1,h2⟩:=hq
 cases e with
 | normal =>
  have h2:wpX r ds P y Q { a' with defers:=[] } w':=h2
  unfold wpX at h2
  rw [zg2 h1] at h2
  exact h2
 | _=>exact ⟨h1,h2⟩
theorem wpX_block {id:Nat} {c:Code} (h:wpX r ds P c (Exit.inBlock id Q) a w):wpX r ds P (.block id c) Q a w:=by
 refine wpIn_block (wpIn_mono h fun e a' w' hq=>?_)
 obtain ⟨h1,h2⟩:=hq
 cases e with
 | exit id' =>
  simp only [Exit.inBlock] at h2 ⊢
  split
  ·rename_i he;rw [if_pos he] at h2;exact ⟨h1,h2⟩
  ·rename_i he;rw [if_neg he] at h2;exact ⟨h1,h2⟩
 | _=>exact ⟨h1,h2⟩
theorem wpX_skip (hd:a.defers=[]) (h:Q .normal a w):wpX r ds P .skip Q a w:=wpIn_skip ⟨rfl,by cases a;cases hd;exact h⟩
theorem wpX_exit {id:Nat} (hd:a.defers=[]) (h:Q (.exit id) a w):wpX r ds P (.exit id) Q a w:=wpIn_exit ⟨rfl,by cases a;cases hd;exact h⟩
theorem wpX_ret (hd:a.defers=[]) (h:Q .ret a w):wpX r ds P .ret Q a w:=wpIn_ret ⟨rfl,by cases a;cases hd;exact h⟩
theorem condX {w0:World} {H0:Im} {B0:Bl} {K:List Nat} {N:Nat} {t:Nat} {x y:Code} {sl:List (Nat × V)} {lc:List (Nat × L)} (b:Bool) (h:St ⟨w0,H0,B0,K,N⟩ (F.of sl lc) a w) (ht:(F.of sl lc).s t=some (vb b)) (hx:b=true->wpX r ds P x Q a w) (hy:b=false->wpX r ds P y Q a w):wpX r ds P (.cond (.tmp t) x y) Q a w:=by
 obtain ⟨H,B,hok⟩:=h
 have:=(hok.slot t _ ht).rawI
 exact wpIn_cond_split (t:=b) this hx hy
theorem loopX0 {ι:Type} {e:E} {c:Code} (fs:ι->F) (μ:ι->Nat) (x:ι) (h:St e (fs x) a w) (round:∀ x a w,St e (fs x) a w->wpX r ds P c (Exit.then (fun a' w'=>∃ y,μ y<μ x/\St e (fs y) a' w') Q) a w):wpX r ds P (.loop c) Q a w:=by
 have key:∀ n x a w,μ x=n->St e (fs x) a w->∀ (b:Frame) (k:List Item) (cs:List Frame),b.roundOf=({ Fence.wide with round:=r }:Fence).round->({ Fence.wide with round:=r }:Fence).fn b.fn->({ Fence.wide with round:=r }:Fence).room (cs.length+1+9) ->
   ∃ en a' w', (a'.defers=ds/\Q en { a' with defers:=[] } w')/\ArrivesIn (Machine.fenced P { Fence.wide with round:=r }) P (lone (b.atR { a with defers:=ds } (.code c :: .inLoop c :: k)) cs w) b k cs en a' w':=by
  intro n
  induction n using Nat.strongRecOn with
  | _ n ih =>
   intro x a w hn hI b k cs hro hb hr
   obtain ⟨en,a₁,w₁,⟨hd,hq⟩,harr⟩:=round x a w hI b (.inLoop c :: k) cs hro hb hr
   cases en with
   | normal =>
    obtain ⟨y,hlt,hI₁⟩:=hq
    obtain ⟨e₂,a₂,w₂,hq₂,harr₂⟩:=ih (μ y) (hn ▸ hlt) y _ w₁ rfl hI₁ b k cs hro hb hr
    rw [zg2 hd] at harr₂
    exact ⟨e₂,a₂,w₂,hq₂,.of_steps (StepsIn.trans harr (.one (fenced_calm hb hr rfl) stepR_inLoop)) harr₂⟩
   | exit id=>exact ⟨_,a₁,w₁,⟨hd,hq⟩,.pass (x:=.inLoop c) rfl (fun _ _ => .inl (by simp)) harr⟩
   | goto l=>exact ⟨_,a₁,w₁,⟨hd,hq⟩,.pass (x:=.inLoop c) rfl (fun _ _ => .inl (by simp)) harr⟩
   | ret=>exact ⟨_,a₁,w₁,⟨hd,hq⟩,.pass (x:=.inLoop c) rfl (fun _ _ => .inl (by simp)) harr⟩
   | panic ch=>exact ⟨_,a₁,w₁,⟨hd,hq⟩,.pass (x:=.inLoop c) rfl (fun _ _ => .inl (by simp)) harr⟩
   | outgrown=>exact ⟨_,a₁,w₁,⟨hd,hq⟩,.pass (x:=.inLoop c) rfl (fun _ _ => .inl (by simp)) harr⟩
 intro b k cs hro hb hr
 obtain ⟨en,a', w', hq,harr⟩:=key _ x a w rfl h b k cs hro hb hr
 exact ⟨en,a', w', hq,.of_steps (.one (fenced_calm hb hr rfl) stepR_loop) harr⟩
theorem loopX {w0:World} {H0:Im} {B0:Bl} {K:List Nat} {N:Nat} {ι:Type} {c:Code} {sl:List (Nat × V)} {lc:List (Nat × L)} (I:ι->Prop) (sls:ι->List (Nat × V)) (lcs:ι->List (Nat × L)) (μ:ι->Nat) (x:ι) (hI:I x) (h:St ⟨w0,H0,B0,K,N⟩ (F.of sl lc) a w)
  (h1:leS (F.of sl lc) (sls x)=(sls x).map fun p=>some p.2) (h2:leN (F.of sl lc) (lcs x)=(lcs x).map fun p=>some p.2)
  (round:∀ x a w,I x->St ⟨w0,H0,B0,K,N⟩ (F.of (sls x) (lcs x)) a w->wpX r ds P c (Exit.then (fun a' w'=>∃ y,(I y/\μ y<μ x)/\St ⟨w0,H0,B0,K,N⟩ (F.of (sls y) (lcs y)) a' w') Q) a w):wpX r ds P (.loop c) Q a w:=by
 refine loopX0 (ι:={x // I x}) (fun x=>F.of (sls x.1) (lcs x.1)) (fun x=>μ x.1) ⟨x,hI⟩ (h.weaken (zg5 h1 h2)) fun x a w hst=>wpX_mono (round x.1 a w x.2 hst) fun en a w hq=>?_
 cases en with
 | normal=>obtain ⟨y,⟨hy,hlt⟩,hst⟩:=hq;exact ⟨⟨y,hy⟩,hlt,hst⟩
 | _=>exact hq
theorem op_nil {o:Oper} {K:Act->World->Prop} (hK:∀ a w,K a w->a.defers=[]) (hQ:∀ e a w,Q e a w->e = .normal) (h:o.wp P a w K Q):a.defers=[]:=by
 unfold Oper.wp at h
 have hput:∀ v w', K (a.put o.dst v) w'->a.defers=[]:=fun v w' hk=>by
  have:=hK _ _ hk
  cases hd:o.dst <;> rw [hd] at this <;> exact this
 cases hr:(execOp a.eval o).run P w with
 | ok x w' =>
  rw [hr] at h
  cases x with
  | value v=>exact hput _ _ h
  | skip=>exact hput _ _ h
  | defer d =>
   have:=hK _ _ h
   cases hd:o.dst <;> rw [hd] at this <;> simp [Act.put] at this
  | enter f args =>
   obtain ⟨e,w'', fr,he,_⟩:=(show Calls P f args w' _ from h) []
   cases e with
   | returned v=>exact hput _ _ he
   | panicked chain=>cases hQ _ _ _ he
   | outgrown=>obtain ⟨_,_,h2⟩:=he;cases hQ _ _ _ h2
  | row row args =>
   obtain ⟨v,w'', he,_⟩:=(show Rows P row args w' _ from h) default []
   exact hput _ _ he
  | _=>exact h.elim
 | halt x w' =>
  rw [hr] at h
  cases x with
  | panic v=>cases hQ _ _ _ h
  | _=>exact h.elim
theorem opI_nil {ops:Array Oper} {i:Nat} {K:Act->World->Prop} (hK:∀ a w,K a w->a.defers=[]) (hQ:∀ e a w,Q e a w->e = .normal) (h:wpOp P ops Q i K a w):a.defers=[]:=by
 unfold wpOp at h
 cases ho:ops[i]? with
 | none=>rw [ho] at h;exact hK _ _ h
 | some o =>
  rw [ho] at h
  dsimp only at h
  split at h
  ·exact op_nil hK hQ (h.resolve_right fun ⟨_,h2⟩=>by obtain ⟨a2,w2,h2⟩:=h2;cases hQ _ _ _ h2)
  ·have:=hK _ _ h
   cases hd:o.dst <;> rw [hd] at this <;> exact this
theorem ops_nil {ops:Array Oper} (hQ:∀ e a w,Q e a w->e = .normal/\a.defers=[]):∀ (l:List Nat) (a:Act) (w:World),wpOps P ops Q l a w->a.defers=[]
 | [],a,w,h=>(hQ _ _ _ h).2
 | i :: l,a,w,h=>by rw [wpOps_cons] at h;exact opI_nil (ops_nil hQ l) (fun e a w h=>(hQ e a w h).1) h
theorem any_nil {ops:Array Oper} {md:Region.Mode} (hQ:∀ e a w,Q e a w->e = .normal/\a.defers=[]):∀ (fuel:Nat) (listed:Array Bool) (a:Act) (w:World),wpAny P md ops Q fuel listed a w->a.defers=[]
 | 0,_,a,w,h=>(hQ _ _ _ h.2).2
 | fuel+1,listed,a,w,h=>by
  cases hr:Region.ready md ops listed with
  | nil=>exact (hQ _ _ _ (h.1 hr)).2
  | cons i l=>exact opI_nil (any_nil hQ fuel _) (fun e a w h=>(hQ e a w h).1) (h.2 i (by rw [hr];simp))
theorem opX {o:Oper} {K K':Act->World->Prop} (hnd:∀ c,o.op ≠ .defer c) (ha:a.defers=[]) (hK:∀ a w,K a w->a.defers=[]) (hK':∀ a w,a.defers=ds->K { a with defers:=[] } w->K' a w) (hQ:∀ a w,¬ Q .outgrown a w) (h:o.wp P a w K Q) :
  o.wpIn { Fence.wide with round:=r } 9 P { a with defers:=ds } w K' (fun ex a' w'=>a'.defers=ds/\Q ex { a' with defers:=[] } w'):=by
 refine ⟨fun _ _=>trivial,?_⟩
 rw [Oper.semAt_eq _ _ _ hnd]
 unfold Oper.wp at h
 have he:({ a with defers:=ds }:Act).eval=a.eval:=by funext x;cases x <;> rfl
 rw [he]
 have hput:∀ v w', K (a.put o.dst v) w'->K' (({ a with defers:=ds }:Act).put o.dst v) w':=by
  intro v w' hk
  refine hK' _ _ ?_ ?_
  ·cases o.dst <;> rfl
  ·have:({ (({ a with defers:=ds }:Act).put o.dst v) with defers:=[] }:Act)=a.put o.dst v:=by
    cases a;cases ha;cases o.dst <;> rfl
   rw [this];exact hk
 generalize (execOp a.eval o).run P w=res at h
 have hbare:({ ({ a with defers:=ds }:Act) with defers:=[] }:Act)=a:=by cases a;cases ha;rfl
 cases res with
 | ok x w' =>
  cases x with
  | value v=>exact hput _ _ h
  | skip=>exact hput _ _ h
  | defer d =>
   have:=hK _ _ h
   cases hd:o.dst with
   | none=>rw [hd] at this;simp [Act.put] at this
   | some q=>rw [hd] at this;simp [Act.put] at this
  | enter f args =>
   have h:Calls P f args w' _:=h
   refine ⟨fun h=>(by cases h),?_⟩
   refine CallsIn.mono (show CallsIn { Fence.wide with round:=r } (9 - 1) P f args w' _ from callsIn_wide.2 h) ?_
   intro e w'' he
   cases e with
   | returned v=>exact hput _ _ he
   | panicked chain=>exact ⟨rfl,by rw [hbare];exact he⟩
   | outgrown=>obtain ⟨a2,w2,h2⟩:=he;exact absurd h2 (hQ _ _)
  | row row args =>
   have h:Rows P row args w' _:=h
   refine ⟨fun h=>(by cases h),fun c cs _=>?_⟩
   obtain ⟨v,w'', h1,h2⟩:=h c cs
   exact ⟨v,w'', hput _ _ h1,(stepsIn_wide (P:=P)).2 h2⟩
  | _=>exact h.elim
 | halt x w' =>
  cases x with
  | panic v=>exact ⟨rfl,by rw [hbare];exact h⟩
  | _=>exact h.elim
theorem opIX {ops:Array Oper} {i:Nat} {K K':Act->World->Prop} (hnd:∀ o ∈ ops,∀ c,o.op ≠ .defer c) (hK:∀ a w,K a w->a.defers=[]) (hK':∀ a w,a.defers=ds->K { a with defers:=[] } w->K' a w) (hQ:∀ e a w,Q e a w->e = .normal) (h:wpOp P ops Q i K a w) :
  wpOpIn { Fence.wide with round:=r } 9 P ops (fun ex a' w'=>a'.defers=ds/\Q ex { a' with defers:=[] } w') i K' { a with defers:=ds } w:=by
 have ha:=opI_nil hK hQ h
 unfold wpOp at h
 unfold wpOpIn
 cases ho:ops[i]? with
 | none=>rw [ho] at h;exact hK' _ _ rfl (by cases a;cases ha;exact h)
 | some o =>
  rw [ho] at h
  dsimp only at h ⊢
  by_cases hw:Region.wanted o (yielded ops a.tmps)=true
  ·rw [if_pos hw] at h
   rw [if_pos hw]
   have h:=h.resolve_right fun ⟨_,h2⟩=>by obtain ⟨a2,w2,h2⟩:=h2;cases hQ _ _ _ h2
   exact opX (hnd o (Array.mem_of_getElem? ho)) ha hK hK' (fun a w hq=>by cases hQ _ _ _ hq) h
  ·rw [if_neg hw] at h
   rw [if_neg hw]
   refine ⟨fun _ _=>trivial,hK' _ _ ?_ ?_⟩
   ·cases o.dst <;> rfl
   ·have:({ (({ a with defers:=ds }:Act).put o.dst undef) with defers:=[] }:Act)=a.put o.dst undef:=by
     cases a;cases ha;cases o.dst <;> rfl
    rw [this];exact h
theorem opsX {ops:Array Oper} (hnd:∀ o ∈ ops,∀ c,o.op ≠ .defer c) (hQ:∀ e a w,Q e a w->e = .normal/\a.defers=[]):∀ (l:List Nat) (a:Act) (w:World),wpOps P ops Q l a w ->
  wpOpsIn { Fence.wide with round:=r } 9 P ops (fun ex a' w'=>a'.defers=ds/\Q ex { a' with defers:=[] } w') l { a with defers:=ds } w
 | [],a,w,h=>⟨rfl,by have ha:=(hQ _ _ _ h).2;cases a;cases ha;exact h⟩
 | i :: l,a,w,h=>by
  rw [wpOps_cons] at h
  rw [wpOpsIn_cons]
  exact opIX hnd (ops_nil hQ l) (fun a w hd hk=>by have:=opsX hnd hQ l _ w hk;rw [zg2 hd] at this;exact this) (fun e a w h=>(hQ e a w h).1) h
theorem anyX {ops:Array Oper} {md:Region.Mode} (hnd:∀ o ∈ ops,∀ c,o.op ≠ .defer c) (hQ:∀ e a w,Q e a w->e = .normal/\a.defers=[]):∀ (fuel:Nat) (listed:Array Bool) (a:Act) (w:World),wpAny P md ops Q fuel listed a w ->
  wpAnyIn { Fence.wide with round:=r } 9 P md ops (fun ex a' w'=>a'.defers=ds/\Q ex { a' with defers:=[] } w') fuel listed { a with defers:=ds } w
 | 0,_,a,w,h=>⟨h.1,rfl,by have ha:=(hQ _ _ _ h.2).2;cases a;cases ha;exact h.2⟩
 | fuel+1,listed,a,w,h=>by
  refine ⟨fun h0=>⟨rfl,?_⟩,fun i hi=>?_⟩
  ·have h1:=h.1 h0
   have ha:=(hQ _ _ _ h1).2
   cases a;cases ha;exact h1
  ·exact opIX hnd (any_nil hQ fuel _) (fun a w hd hk=>by have:=anyX hnd hQ fuel _ _ w hk;rw [zg2 hd] at this;exact this) (fun e a w h=>(hQ e a w h).1) (h.2 i hi)
end
def noDefer (o:Oper):Bool:=match o.op with | .defer _=>false | _=>true
section
variable {r:Option Nat} {ds:List Deferred} {P:Program} {Q:Exit->Act->World->Prop} {w0:World} {H0:Im} {B0:Bl} {K:List Nat} {N:Nat}
theorem wpX_region_S {ops:Array Oper} {e:E} (hnd:∀ o ∈ ops,∀ c,o.op ≠ .defer c) {id:Nat} {draw:Bool} {f:F} {a:Act} {w:World} (is:List I) (g:F) (hm:P.follows .mixedOrders=true) (hpo:pairsOk draw ops.toList is=true)
  (hdo:∀ k o,ops[k]?=some o->Does P ops o (at_ is k)) (hb:∀ k,FitsE e (at_ is k)) (hn:∀ k,∀ n ∈ (at_ is k).nw,New e.K f n)
  (hr:RunL is f (List.range ops.size) g) (h:St e f a w) (hQ:∀ a w,St e g a w->Q .normal a w):wpX r ds P (Code.region id ops draw) Q a w:=by
 have hN:∀ (ex:Exit) (a:Act) (w:World),(ex = .normal/\St e g a w)->ex = .normal/\a.defers=[]:=fun ex a w h=>⟨h.1,by obtain ⟨_,H,B,hok⟩:=h;exact hok.df⟩
 refine wpX_mono (Q:=fun ex a w=>ex = .normal/\St e g a w) ?_ (fun ex a w h=>by obtain ⟨rfl,h⟩:=h;exact hQ a w h)
 cases draw with
 | false =>
  refine wpIn_region (opsX hnd hN _ _ _ (wpOps_run hdo hb (fun a w h=>⟨rfl,h⟩) _ f a w (fun k hk=>List.mem_range.1 hk) ?_ (fun k _=>hn k) hr h))
  refine List.Pairwise.imp_of_mem ?_ List.pairwise_lt_range
  intro j k hj hk hjk
  exact ((zeo hpo (k:=k) (by simpa using List.mem_range.1 hk)).2 j hjk).1
 | true =>
  refine wpIn_region_any hm (anyX hnd hN _ _ _ _ (wpAny_run hdo hb (fun a w h=>⟨rfl,h⟩) hpo _ _ f a _ (by simp) ?_ ?_ (fun k _=>hn k) ?_ h.drew))
  ·intro k o ho hl
   have hks:=(Array.getElem?_eq_some_iff.1 ho).1
   simp [Array.getD_eq_getD_getElem?, hks] at hl
  ·refine Nat.le_trans (List.length_filter_le _ _) (by simp)
  ·have:left (Array.replicate ops.size false) ops.size=List.range ops.size:=by
    unfold left
    refine List.filter_eq_self.2 fun k hk=>?_
    have:=List.mem_range.1 hk
    simp [Array.getD_eq_getD_getElem?, this]
   rw [this]
   exact hr
theorem regionX {ops:Array Oper} (hnd:ops.toList.all noDefer=true) {id:Nat} {draw:Bool} {a:Act} {w:World} {sl:List (Nat × V)} {lc:List (Nat × L)} (is:List I) (sl':List (Nat × V)) (lc':List (Nat × L)) (hm:P.follows .mixedOrders=true)
  (hdo:AllDo P ops ops.toList is) (hc:chk draw ops.toList is N K sl lc=true) (h1:runS (F.of sl lc) is=zga is) (h2:runN (F.of sl lc) is=zgb is)
  (h3:leS (zge (F.of sl lc) is) sl'=sl'.map fun p=>some p.2) (h4:leN (zge (F.of sl lc) is) lc'=lc'.map fun p=>some p.2)
  (h:St ⟨w0,H0,B0,K,N⟩ (F.of sl lc) a w) (hQ:∀ a w,St ⟨w0,H0,B0,K,N⟩ (F.of sl' lc') a w->Q .normal a w):wpX r ds P (Code.region id ops draw) Q a w:=by
 simp only [chk,Bool.and_eq_true] at hc
 obtain ⟨⟨⟨c1,c2⟩,c3⟩,c4⟩:=hc
 have hmem:∀ k,at_ is k ∈ is\/at_ is k={}:=by
  intro k
  unfold at_
  rw [List.getD_eq_getElem?_getD]
  cases hk:is[k]? with
  | none=>exact .inr rfl
  | some x=>exact .inl (List.mem_of_getElem? hk)
 refine wpX_region_S (fun o ho c hc=>by have:=List.all_eq_true.1 hnd o (by simpa using ho);unfold noDefer at this;rw [hc] at this;cases this) is (F.of sl' lc') hm c1 (fun k o ho=>hdo.get k o (by simpa using ho)) ?_ ?_ ?_ h hQ
 ·intro k
  refine ⟨fun p hp=>?_,fun h0=>?_⟩
  ·rcases hmem k with hk | hk
   ·have:=List.all_eq_true.1 (List.all_eq_true.1 c2 _ hk) p hp
    simpa [Nat.blt_eq] using this
   ·rw [hk] at hp;cases hp
  ·rcases hmem k with hk | hk
   ·have:=List.all_eq_true.1 c4 _ hk
    rw [h0] at this
    simpa using this
   ·rw [hk] at h0;cases h0
 ·intro k n hn
  rcases hmem k with hk | hk
  ·exact zfl (List.all_eq_true.1 (List.all_eq_true.1 c3 _ hk) n hn)
  ·rw [hk] at hn;cases hn
 ·have:=RunL.of (g:=F.of sl' lc') [] is (F.of sl lc) h1 h2 (zg5 h3 h4)
  have hl:=hdo.length
  simp only [List.nil_append,List.length_nil] at this
  rw [List.range_eq_range', <- Array.length_toList,hl]
  exact this
end
section
variable {r:Option Nat} {ds:List Deferred} {Q:Exit->Act->World->Prop} {w0:World} {H0:Im} {B0:Bl} {K:List Nat} {N:Nat}
theorem rSX {tb:Tb} (htb:zi6 Tryz.prog tb) {id:Nat} {draw:Bool} {ops:Array Oper} {a:Act} {w:World} {sl:List (Nat × V)} {lc:List (Nat × L)} (nx:Nat) (cs:List (Nat × Orc Tryz.prog)) (sl':List (Nat × V)) (lc':List (Nat × L))
  (hnd:ops.toList.all noDefer=true)
  (hc:((zgh ops.toList cs).map (·.1),(zc5 tb ops (F.of sl lc) nx 0 ops.toList cs).isSome,(zc5 tb ops (F.of sl lc) nx 0 ops.toList cs).map fun is=>zi0.mk (chk draw ops.toList is N K sl lc) (runS (F.of sl lc) is) (runN (F.of sl lc) is) (leS (zge (F.of sl lc) is) sl') (leN (zge (F.of sl lc) is) lc')) =
   ((zgh ops.toList cs).map (·.2),true,(zc5 tb ops (F.of sl lc) nx 0 ops.toList cs).map fun is=>zi0.mk true (zga is) (zgb is) (sl'.map fun p=>some p.2) (lc'.map fun p=>some p.2)))
  (h:St ⟨w0,H0,B0,K,N⟩ (F.of sl lc) a w) (hQ:∀ a w,St ⟨w0,H0,B0,K,N⟩ (F.of sl' lc') a w->Q .normal a w):wpX r ds Tryz.prog (Code.region id ops draw) Q a w:=by
 simp only [Prod.mk.injEq] at hc
 obtain ⟨hg,hs,hm⟩:=hc
 cases hi:zc5 tb ops (F.of sl lc) nx 0 ops.toList cs with
 | none=>rw [hi] at hs;cases hs
 | some is =>
  rw [hi] at hm
  simp only [Option.map_some,Option.some.injEq,zi0.mk.injEq] at hm
  exact regionX hnd is sl' lc' mixed (insts_ok htb hg _ _ _ _ _ rfl hi) hm.1 hm.2.1 hm.2.2.1 hm.2.2.2.1 hm.2.2.2.2 h hQ
theorem rSeqX {tb:Tb} (htb:zi6 Tryz.prog tb) {id:Nat} {draw:Bool} {ops:Array Oper} {y:Code} {a:Act} {w:World} {sl:List (Nat × V)} {lc:List (Nat × L)} (nx:Nat) (cs:List (Nat × Orc Tryz.prog)) (sl':List (Nat × V)) (lc':List (Nat × L))
  (hnd:ops.toList.all noDefer=true)
  (hc:((zgh ops.toList cs).map (·.1),(zc5 tb ops (F.of sl lc) nx 0 ops.toList cs).isSome,(zc5 tb ops (F.of sl lc) nx 0 ops.toList cs).map fun is=>zi0.mk (chk draw ops.toList is N K sl lc) (runS (F.of sl lc) is) (runN (F.of sl lc) is) (leS (zge (F.of sl lc) is) sl') (leN (zge (F.of sl lc) is) lc')) =
   ((zgh ops.toList cs).map (·.2),true,(zc5 tb ops (F.of sl lc) nx 0 ops.toList cs).map fun is=>zi0.mk true (zga is) (zgb is) (sl'.map fun p=>some p.2) (lc'.map fun p=>some p.2)))
  (h:St ⟨w0,H0,B0,K,N⟩ (F.of sl lc) a w) (hQ:∀ a w,St ⟨w0,H0,B0,K,N⟩ (F.of sl' lc') a w->wpX r ds Tryz.prog y Q a w):wpX r ds Tryz.prog (Code.seq (Code.region id ops draw) y) Q a w :=
 wpX_seq (rSX htb nx cs sl' lc' hnd hc h hQ)
end
def dat:Obj->Bool
  | .cells _ _ _ | .map _ _=>true
  | _=>false
theorem dat_cells {o:Obj} (h:dat o=false):o.isCells=false:=by cases o <;> first | rfl | cases h
def LeC (H H':Im):Prop:=∀ b o,H b=some o->dat o=true->H' b=some o
section
variable {H H':Im} {B:Bl}
theorem DR.monoC (hl:LeC H H') {x:D} {v:Value} (h:DR H x v):DR H' x v:=by
 induction h with
 | raw v h=>exact .raw v h
 | nil es ao c h hc=>exact .nil es ao c h hc
 | sl es rows b o c arr ty fz vs hp hb hl2 hc hes hv _ ih=>exact .sl es rows b o c arr ty fz vs hp (hl _ _ hb rfl) hl2 hc hes hv ih
theorem AR.monoC (hl:LeC H H') {x:A} {v:Value} (h:AR H B x v):AR H' B x v:=by
 cases x with
 | d x=>exact DR.monoC hl h
 | ptr n o=>exact h
theorem CR.monoC (hl:LeC H H') {x:C} {v:Value} (h:CR H B x v):CR H' B x v:=by
 cases x with
 | d x=>exact DR.monoC hl h
 | ptr n o=>exact h
 | own n k=>exact h
 | el xs =>
  obtain ⟨b,o,arr,ty,fz,hb,hv,hx⟩:=h
  exact ⟨b,o,arr,ty,fz,hl _ _ hb rfl,hv,fun j hj=>let ⟨u,h1,h2⟩:=hx j hj;⟨u,h1,h2.monoC hl⟩⟩
 | fn f fs cs =>
  obtain ⟨vs,ws,hv,h1,h2⟩:=h
  exact ⟨vs,ws,hv,h1.mono fun a _ b=>AR.monoC hl,h2.mono fun a _ b=>AR.monoC hl⟩
 | sub n o len=>exact h
 | any=>exact h
 | mp n=>exact h
theorem TR.monoC (hl:LeC H H') {x:T} {v:Value} (h:TR H B x v):TR H' B x v:=by
 cases x with
 | c x=>exact CR.monoC hl h
 | agg cs =>
  obtain ⟨vs,hv,h1⟩:=h
  exact ⟨vs,hv,h1.mono fun a _ b=>CR.monoC hl⟩
theorem VR.monoC (hl:LeC H H') {x:V} {v:Value} (h:VR H B x v):VR H' B x v:=by
 cases x with
 | t x=>exact TR.monoC hl h
 | tup xs =>
  obtain ⟨vs,hv,h1⟩:=h
  exact ⟨vs,hv,h1.mono fun a _ b=>TR.monoC hl⟩
theorem LR.monoC (hl:LeC H H') {x:L} {n:Nat} {w w':World} (hw:∀ b c,B n=some (b,c)->w'.heap[b]?=w.heap[b]?) (h:LR H B w n x):LR H' B w' n x:=by
 cases x with
 | box cs =>
  obtain ⟨b,c,arr,ty,hb,hc,h1⟩:=h
  exact ⟨b,c,arr,ty,hb,(hw b c hb).trans hc,h1.mono fun a _ v=>CR.monoC hl⟩
 | row ty es rows =>
  simp only [LR] at h ⊢
  cases hb:B n with
  | none=>rw [hb] at h;exact h
  | some p =>
   obtain ⟨b,c⟩:=p
   rw [hb] at h
   obtain ⟨arr,h1,h2,h3,h4,h5,h6⟩:=h
   exact ⟨arr,(hw b c hb).trans h1,h2,h3,h4,h5,h6.mono fun a _ v=>DR.monoC hl⟩
 | bld ty x rest =>
  obtain ⟨b,c,v1,v2,vr,hb,hc,h1,h0,h2,h3⟩:=h
  exact ⟨b,c,v1,v2,vr,hb,(hw b c hb).trans hc,h1,h0,CR.monoC hl h2,h3.mono fun a _ v=>CR.monoC hl⟩
 | mp es =>
  obtain ⟨b,c,arr,cl,hb,hc,h1⟩:=h
  exact ⟨b,c,arr,cl,hb,(hw b c hb).trans hc,h1.mono fun a _ e h2=>⟨h2.1,h2.2.monoC hl⟩⟩
theorem LR.cells {x:L} {n b c:Nat} {w:World} (h:LR H B w n x) (hb:B n=some (b,c)):∃ o,w.heap[b]?=some o/\dat o=true:=by
 cases x with
 | box cs=>obtain ⟨b', c', arr,ty,hb', hc,_⟩:=h;rw [hb] at hb';cases hb';exact ⟨_,hc,rfl⟩
 | row ty es rows =>
  simp only [LR] at h
  rw [hb] at h
  obtain ⟨arr,h1,_⟩:=h
  exact ⟨_,h1,rfl⟩
 | bld ty x rest=>obtain ⟨b', c', v1,v2,vr,hb', hc,_⟩:=h;rw [hb] at hb';cases hb';exact ⟨_,hc,rfl⟩
 | mp es=>obtain ⟨b', c', arr,cl,hb', hc,_⟩:=h;rw [hb] at hb';cases hb';exact ⟨_,hc,rfl⟩
end
def cutH (H1 H:Im):Im:=fun b=>match H b with
  | some o=>if dat o || (H1 b).isSome then some o else none
  | none=>none
theorem cutH_some {H1 H:Im} {b:Nat} {o:Obj} (h:cutH H1 H b=some o):H b=some o/\(dat o=true\/(H1 b).isSome=true):=by
 unfold cutH at h
 cases hb:H b with
 | none=>rw [hb] at h;cases h
 | some o' =>
  rw [hb] at h
  dsimp only at h
  split at h
  ·rename_i hc;cases h;exact ⟨rfl,by simpa using hc⟩
  ·cases h
theorem cutH_leC (H1 H:Im):LeC H (cutH H1 H):=fun b o h ho=>by unfold cutH;rw [h];dsimp only;rw [ho];rfl
theorem cutH_none {H1 H:Im} {b:Nat} (h:H b=none):cutH H1 H b=none:=by unfold cutH;rw [h]
theorem zhq {H1 H:Im} {b:Nat} {o:Obj} (h:H b=some o) (h1:(H1 b).isSome=true):cutH H1 H b=some o:=by unfold cutH;rw [h];dsimp only;rw [h1,Bool.or_true];rfl
theorem TabH.back {H1 Hx:Im} (h:∀ b o,Hx b=some o->H1 b=some o\/o.isCells=false) (ht:TabH Hx):TabH H1:=by
 have _:=h;have _:=ht;exact trivial
def zdt (H M:Im):Im:=fun b=>match H b with
  | some o=>some o
  | none=>M b
theorem zik (H M:Im):Le H (zdt H M):=fun b o h=>by unfold zdt;rw [h]
theorem zg1 {H M:Im} {b:Nat} {o:Obj} (h:zdt H M b=some o):H b=some o\/(H b=none/\M b=some o):=by
 unfold zdt at h
 cases hb:H b with
 | none=>rw [hb] at h;exact .inr ⟨rfl,h⟩
 | some o'=>rw [hb] at h;exact .inl h
def Clean (H1 H:Im):Prop:=∀ b o,H b=some o->H1 b=some o\/dat o=true
section
variable {w0:World} {Hx H1 H:Im} {B0 B:Bl} {K:List Nat} {N:Nat} {f:F} {a:Act} {w:World}
theorem Ok.cut (h:Ok ⟨w0,Hx,B0,K,N⟩ f H B a w) (h1:Le H1 Hx) (h2:∀ b o,Hx b=some o->H1 b=some o\/dat o=false):Ok ⟨w0,H1,B0,K,N⟩ f (cutH H1 H) B a w/\Clean H1 (cutH H1 H):=by
 have hc:LeC H (cutH H1 H):=cutH_leC H1 H
 refine ⟨⟨h.df,h.n,h.ext,fun b o hb=>h.sat b o (cutH_some hb).1,fun t v hv=>VR.monoC hc (h.slot t v hv),fun n l hn=>LR.monoC hc (fun _ _ _=>rfl) (h.loc n l hn),?_,h.inj,?_,?_,h.keep,TabH.back (fun b o hb=>(h2 b o hb).imp id dat_cells) h.tab⟩,?_⟩
 ·intro n l b c hn hb
  obtain ⟨p1,p2,p3⟩:=h.priv n l b c hn hb
  exact ⟨p1,cutH_none p2,p3⟩
 ·intro b hb
  have hlow:H b=Hx b:=h.low b hb
  cases hx:Hx b with
  | none =>
   rw [hx] at hlow
   rw [cutH_none hlow]
   cases h1b:H1 b with
   | none=>exact h1b.symm
   | some o=>have:=h1 b o h1b;rw [hx] at this;cases this
  | some o =>
   rw [hx] at hlow
   rcases h2 b o hx with h3 | h3
   ·rw [zhq hlow (by rw [h3];rfl)];exact h3.symm
   ·cases h1b:H1 b with
    | none=>unfold cutH;rw [hlow];dsimp only;rw [h3,h1b];rfl
    | some o'=>rw [zhq hlow (by rw [h1b];rfl)];have:=h1 b o' h1b;rw [hx] at this;exact this.trans h1b.symm
 ·intro b o hb
  exact zhq (h.le b o (h1 b o hb)) (by show (H1 b).isSome=true;rw [show H1 b=some o from hb];rfl)
 ·intro b o hb
  obtain ⟨h3,h4⟩:=cutH_some hb
  rcases h4 with h4 | h4
  ·exact .inr h4
  ·obtain ⟨o', h5⟩:=Option.isSome_iff_exists.1 h4
   have:=h.le b o' (h1 b o' h5)
   rw [h3] at this
   cases this
   exact .inl h5
theorem Ok.join (h:Ok ⟨w0,H1,B0,K,N⟩ f H B a w) (M:Im) (hM:∀ b o,M b=some o->w.heap[b]?=some o/\dat o=false):Ok ⟨w0,zdt H1 M,B0,K,N⟩ f (zdt H M) B a w:=by
 have hl:=zik H M
 refine ⟨h.df,h.n,h.ext,?_,fun t v hv=>VR.mono hl (fun _ _=>rfl) (h.slot t v hv),fun n l hn=>LR.mono hl rfl (fun _ _=>rfl) (fun _ _ _=>rfl) (h.loc n l hn),?_,h.inj,?_,?_,h.keep,h.tab.mono (zik H1 M)⟩
 ·intro b o hb
  rcases zg1 hb with h1 | ⟨_,h1⟩
  ·exact h.sat b o h1
  ·exact (hM b o h1).1
 ·intro n l b c hn hb
  obtain ⟨p1,p2,p3⟩:=h.priv n l b c hn hb
  refine ⟨p1,?_,p3⟩
  unfold zdt
  rw [p2]
  show M b=none
  cases hm:M b with
  | none=>rfl
  | some o =>
   obtain ⟨h1,h2⟩:=hM b o hm
   obtain ⟨o', h3,h4⟩:=(h.loc n l hn).cells hb
   rw [h1] at h3;cases h3;rw [h2] at h4;cases h4
 ·intro b hb
  have:H b=H1 b:=h.low b hb
  show zdt H M b=zdt H1 M b
  unfold zdt;rw [this]
 ·intro b o hb
  show zdt H M b=some o
  rcases zg1 hb with h1 | ⟨h0,h1⟩
  ·exact hl b o (h.le b o h1)
  ·cases hx:H b with
   | none=>unfold zdt;rw [hx];exact h1
   | some o'=>unfold zdt;rw [hx];have:=h.sat b o' hx;rw [(hM b o h1).1] at this;exact this.symm
def StC (w0:World) (H1:Im) (B0:Bl) (K:List Nat) (N:Nat) (f:F) (a:Act) (w:World):Prop:=∃ H B,Ok ⟨w0,H1,B0,K,N⟩ f H B a w/\Clean H1 H
theorem StC.st (h:StC w0 H1 B0 K N f a w):St ⟨w0,H1,B0,K,N⟩ f a w:=let ⟨H,B,h,_⟩:=h;⟨H,B,h⟩
theorem StC.of (h:St ⟨w0,Hx,B0,K,N⟩ f a w) (h1:Le H1 Hx) (h2:∀ b o,Hx b=some o->H1 b=some o\/dat o=false):StC w0 H1 B0 K N f a w:=let ⟨_,B,h⟩:=h;⟨_,B,h.cut h1 h2⟩
theorem St.join (h:St ⟨w0,H1,B0,K,N⟩ f a w) (M:Im) (hM:∀ b o,M b=some o->w.heap[b]?=some o/\dat o=false):St ⟨w0,zdt H1 M,B0,K,N⟩ f a w:=let ⟨_,B,h⟩:=h;⟨_,B,h.join M hM⟩
theorem StC.turn (h:StC w0 H1 B0 K N f a w) {w':World} {r:Nat} {z:Nat} (hos:w'.os=w.os) (htape:w'.tape=w.tape) (hout:w'.output=w.output) (hsize:w.heap.size<=w'.heap.size)
  (hblock:∀ b,b<w.heap.size->b≠r->w'.heap[b]?=w.heap[b]?) (hz:w0.heap.size<=z) (hr:z<=r) (hro:∀ o,w.heap[r]?=some o->dat o=false) (h1:∀ b o,H1 b=some o->b<z):StC w0 H1 B0 K N f a w':=by
 obtain ⟨H,B,h,hcl⟩:=h
 have hne:∀ b o,H b=some o->b≠r:=fun b o hb e=>by
  subst e
  rcases hcl b o hb with h2 | h2
  ·have:=h1 b o h2;omega
  ·have:=hro o (h.sat b o hb);rw [h2] at this;cases this
 have hown:∀ n l b c,f.l n=some l->B n=some (b,c)->w'.heap[b]?=w.heap[b]?:=fun n l b c hn hb=>by
  obtain ⟨o', h3,h4⟩:=(h.loc n l hn).cells hb
  refine hblock b (h.priv n l b c hn hb).1 fun e=>?_
  subst e
  have:=hro _ h3
  rw [h4] at this
  cases this
 refine ⟨H,B,⟨h.df,h.n,⟨hos.trans h.ext.os,htape.trans h.ext.tape,hout.trans h.ext.output,Nat.le_trans h.ext.size hsize,fun b hb hm=>?_⟩,?_,h.slot,?_,?_,h.inj,h.low,h.le,h.keep,h.tab⟩,hcl⟩
 ·have hb:b<w0.heap.size:=hb
  exact (hblock b (Nat.lt_of_lt_of_le hb h.ext.size) (by omega)).trans (h.ext.block b hb hm)
 ·intro b o hb
  have hs:=h.sat b o hb
  exact (hblock b (Array.getElem?_eq_some_iff.1 hs).1 (hne b o hb)).trans hs
 ·intro n l hn
  exact LR.mono (Le.refl _) rfl (fun _ _=>rfl) (fun b c hb=>hown n l b c hn hb) (h.loc n l hn)
 ·intro n l b c hn hb
  obtain ⟨p1,p2,p3⟩:=h.priv n l b c hn hb
  exact ⟨Nat.lt_of_lt_of_le p1 hsize,p2,p3⟩
end
theorem wpIn_depth {F:Fence} {n m:Nat} {P:Program} {c:Code} {Q:Exit->Act->World->Prop} {a:Act} {w:World} (hd:F.depth=none) (h:c.wpIn F n P Q a w):c.wpIn F m P Q a w :=
 fun b k cs hro hb _=>h b k cs hro hb fun d h1=>by rw [hd] at h1;cases h1
def IterOk (P:Program) (gf:Nat) (xs:D) (m:Nat) (e:Nat->V × V):Prop :=
  ∀ (H1:Im) (Bs:Nat) (sv:Value) (ty:TypeId),H1 Bs=some (.cells #[sv] ty (0,0))->DR H1 xs sv ->
    ∃ ev:Nat->Value × Value,(∀ B j,j<m->VR H1 B (e j).1 (ev j).1/\VR H1 B (e j).2 (ev j).2) /\
      ∀ (l:Nat) (J:Nat->World->Prop) (W:World),(∀ j W,J j W->∀ b o,H1 b=some o->W.heap[b]?=some o) ->
        (∀ j W1,J j W1->j<m->YieldAt Fence.wide 7 P l #[(ev j).1,(ev j).2] W1 fun en W'=>en = .returned (.bool true)/\J (j+1) W') ->
        J 0 W->CallsIn Fence.wide 8 P gf #[.func (.yield l) #[] #[],.pointer (some ⟨Bs,0,none⟩)] W fun en W'=>(∃ v,en = .returned v)/\J m W'
theorem St.fix {w0:World} {H0:Im} {B0:Bl} {N:Nat} {f:F} {a:Act} {w:World} {n:Nat} {xs:D} (Kn:List Nat) (h:St ⟨w0,H0,B0,[],N⟩ f a w) (hl:f.l n=some (.box [.d xs])) :
  ∃ (H1:Im) (Bx:Bl) (Bs:Nat) (sv:Value) (ty:TypeId),Le H0 H1/\(∀ b,b<w0.heap.size->H1 b=H0 b)/\H1 Bs=some (.cells #[sv] ty (0,0))/\DR H1 xs sv /\
   (∀ t gf,f.s t=some (.t (.c (.fn (.func gf) [] [.ptr n 0])))->a.tmps.getD t undef = .func (.func gf) #[] #[.pointer (some ⟨Bs,0,none⟩)]) /\
   (∀ m l b c,f.l m=some l->Bx m=some (b,c)->w0.heap.size<=b)/\(∀ t v,f.s t=some v->VR H1 Bx v (a.tmps.getD t undef)) /\
   Ok ⟨w0,H1,Bx,Kn,N⟩ ⟨f.s,fun m=>if m=n then none else f.l m⟩ H1 Bx a w:=by
 obtain ⟨H,B,h⟩:=h
 obtain ⟨Bs,c,arr,ty,hB,hc,hx⟩:=h.loc n _ hl
 match arr,hx with
 | [sv],hx =>
 obtain ⟨p1,p2,p3⟩:=h.priv n _ Bs c hl hB
 have hnm:∀ b,¬ (⟨w0,H0,B0,[],N⟩:E).may b:=fun b hb=>by obtain ⟨m,hm,_⟩:=hb;cases hm
 have p4:w0.heap.size<=Bs:=p3.resolve_left (hnm _)
 have hle:Le H (fun b=>if b=Bs then some (.cells #[sv] ty (0,0)) else H b):=fun b o hb=>by
  by_cases e:b=Bs
  ·subst e;rw [p2] at hb;cases hb
  ·simp only [if_neg e];exact hb
 refine ⟨fun b=>if b=Bs then some (.cells #[sv] ty (0,0)) else H b,B,Bs,sv,ty,h.le.trans hle,fun b hb=>?_,by simp,DR.mono hle hx.1,fun t gf ht=>?_,fun m l b c hm hb=>(h.priv m l b c hm hb).2.2.resolve_left (hnm _),fun t v hv=>VR.mono hle (fun _ _=>rfl) (h.slot t v hv),?_⟩
 ·have:b≠Bs:=by omega
  simp only [if_neg this]
  exact h.low b hb
 ·obtain ⟨vs,ws,hv,h1,h2⟩:=h.slot t _ ht
  match vs,ws,h1,h2 with
  | [],[u],_,h2 =>
  obtain ⟨b', c', hb', hu⟩:=h2.1
  rw [hB] at hb';cases hb'
  rw [hv,hu]
 ·refine ⟨h.df,h.n,⟨h.ext.os,h.ext.tape,h.ext.output,h.ext.size,fun b hb _=>h.ext.block b hb (hnm _)⟩,?_,fun t v hv=>VR.mono hle (fun _ _=>rfl) (h.slot t v hv),?_,?_,?_,fun _ _=>rfl,Le.refl _,fun _ _=>rfl,(h.tab.mono h.le).mono hle⟩
  ·intro b o hb
   by_cases e:b=Bs
   ·subst e;simp only [if_true] at hb;cases hb;exact hc
   ·simp only [if_neg e] at hb;exact h.sat b o hb
  ·intro m l hm
   by_cases e:m=n
   ·simp [e] at hm
   ·simp only [if_neg e] at hm
    exact LR.mono hle rfl (fun _ _=>rfl) (fun _ _ _=>rfl) (h.loc m l hm)
  ·intro m l b c' hm hb
   by_cases e:m=n
   ·simp [e] at hm
   ·simp only [if_neg e] at hm
    obtain ⟨q1,q2,q3⟩:=h.priv m l b c' hm hb
    refine ⟨q1,?_,.inr (q3.resolve_left (hnm _))⟩
    have:b≠Bs:=fun e2=>by subst e2;exact e (h.inj m n _ _ b _ _ hm hl hb hB)
    simp only [if_neg this]
    exact q2
  ·intro m m' l l' b c1 c2 hm hm' hb hb'
   by_cases e:m=n
   ·simp [e] at hm
   by_cases e':m'=n
   ·simp [e'] at hm'
   simp only [if_neg e] at hm
   simp only [if_neg e'] at hm'
   exact h.inj m m' l l' b c1 c2 hm hm' hb hb'
theorem RetQ.low {w0:World} {H0 H1:Im} {B0:Bl} {N:Nat} {ps qs:List (Nat × L)} {res:V} {en:Ending} {w:World} (hle:Le H0 H1) (hlow:∀ b,b<w0.heap.size->H1 b=H0 b)
  (h:RetQ ⟨w0,H1,B0,ps.map (·.1),N⟩ ps res qs en w):RetQ ⟨w0,H0,B0,ps.map (·.1),N⟩ ps res qs en w:=by
 obtain ⟨v,H', B', he,hp⟩:=h
 exact ⟨v,H', B', he,Le.trans hle hp.le,fun b hb=>(hp.low b hb).trans (hlow b hb),hp.sat,hp.loc,hp.priv,hp.inj,hp.keep,hp.res,hp.ext⟩
theorem leave_nil {P:Program} {fn:Func} {R:Ending->World->Prop} {ex:Exit} {a:Act} {w:World} (h:bodyPost P fn R ex a w):bodyPostM Fence.wide 9 P fn R ex a w:=by
 cases ex with
 | normal=>obtain ⟨hd,h⟩:=h;simp only [bodyPostM,hd];exact h
 | ret=>obtain ⟨hd,h⟩:=h;simp only [bodyPostM,hd];exact h
 | panic ch=>obtain ⟨hd,h⟩:=h;simp only [bodyPostM,hd];exact h
 | outgrown=>exact h
 | exit _=>exact h.elim
 | goto _=>exact h.elim
def RetX (P:Program) (fn:Func) (e:E) (res:V) (qs:List (Nat × L)) (ex:Exit) (a:Act) (w:World):Prop :=
  (ex = .ret\/ex = .normal)/\∃ rs f xs,fn.results=⟨rs⟩/\St e f a w/\zba (RV P f) rs xs/\resOf xs=res/\(∀ q ∈ qs,f.l q.1=some q.2)/\(res.tags++qs.flatMap fun q=>q.2.tags).all (zgl (qs.map (·.1)))=true
theorem retX {P:Program} {w0:World} {H0:Im} {B0:Bl} {K:List Nat} {N:Nat} {a:Act} {w:World} {fn:Func} {rs:List ResultVar} {sl:List (Nat × V)} {lc:List (Nat × L)} {qs:List (Nat × L)} {res:V} (xs:List T) (h:St ⟨w0,H0,B0,K,N⟩ (F.of sl lc) a w) (n:Exit) (hn:n = .ret\/n = .normal) (hf:fn.results=⟨rs⟩) (hx:zba (RV P (F.of sl lc)) rs xs) (hres:resOf xs=res)
  (hq:leN (F.of sl lc) qs=qs.map fun p=>some p.2) (ht:(res.tags++qs.flatMap fun q=>q.2.tags).all (zgl (qs.map (·.1)))=true):RetX P fn ⟨w0,H0,B0,K,N⟩ res qs n a w :=
 ⟨hn,rs,F.of sl lc,xs,hf,h,hx,hres,fun q hq1=>zcg hq q hq1,ht⟩
def markH (Dd:Nat):Im:=fun b=>if b=Dd then some (.deferred (some [])) else none
theorem leave_mark {P:Program} {fn:Func} {w0:World} {H0 H1:Im} {B0:Bl} {N:Nat} {ps qs:List (Nat × L)} {res:V} {Dd:Nat} (hle:Le H0 H1) (hlow:∀ b,b<w0.heap.size->H1 b=H0 b) (hD:w0.heap.size<=Dd) (hD1:∀ b o,H1 b=some o->b<Dd) {ex:Exit} {a:Act} {w:World}
  (hd:a.defers=[{ target:=.collected Dd,args:=#[] }]) (h:RetX P fn ⟨w0,zdt H1 (markH Dd),B0,ps.map (·.1),N⟩ res qs ex { a with defers:=[] } w) :
  bodyPostM Fence.wide 9 P fn (RetQ ⟨w0,H0,B0,ps.map (·.1),N⟩ ps res qs) ex a w:=by
 obtain ⟨hn,rs,f,xs,hf,hst,hx,hres,hq,ht⟩:=h
 have hH1:H1 Dd=none:=by
  cases h1:H1 Dd with
  | none=>rfl
  | some o=>have:=hD1 _ _ h1;omega
 have hJ:zdt H1 (markH Dd) Dd=some (.deferred (some [])):=by unfold zdt markH;rw [hH1];simp
 have hw:w.heap[Dd]?=some (.deferred (some [])):=by
  obtain ⟨H,B,hok⟩:=hst
  exact hok.sat _ _ (hok.le _ _ hJ)
 have hc:StC w0 H1 B0 (ps.map (·.1)) N f { a with defers:=[] } w:=StC.of hst (zik _ _) fun b o hb=>by
  rcases zg1 hb with h1 | ⟨_,h1⟩
  ·exact .inl h1
  ·unfold markH at h1
   split at h1
   ·cases h1;exact .inr rfl
   ·cases h1
 have hc2:=(hc.turn (w':=w.putObj Dd (.deferred none)) (r:=Dd) (z:=Dd) rfl rfl rfl (by simp) (fun b _ hb=>World.putObj_heap_other hb) hD (Nat.le_refl _) (fun o ho=>by rw [hw] at ho;cases ho;rfl) hD1).st
 have hb:=St.ret (P:=P) (ps:=ps) hc2 rfl hf hx hres hq ht .ret (.inl rfl)
 obtain ⟨_,v,hv,hr⟩:=hb
 have hl:LeavesInM Fence.wide 9 P fn a.tmps (RetQ ⟨w0,H0,B0,ps.map (·.1),N⟩ ps res qs) a.defers .returning w:=by
  rw [hd]
  exact ⟨by simp,.inl ⟨_,_,rfl,run_takeDeferred hw,v,hv,hr.low hle hlow⟩⟩
 rcases hn with rfl | rfl
 ·exact hl
 ·exact hl
theorem Fn.bodyR {P:Program} {k:FuncId} {fn:Func} {c:Code} {args:List V} {res:V} {qs:List (Nat × L)} (hf:P.funcs[k]?=some fn) (hb:fn.body=some c) (N:Nat) (hN:args.length+(fn.ntmps - args.length)=N)
  (h:∀ (w:World) (H:Im) (B:Bl) (a:Act),St ⟨w,H,B,[],N⟩ (F.of (argS 0 args) []) a w->c.wp P (bodyPostM Fence.wide 9 P fn (RetQ ⟨w,H,B,[],N⟩ [] res qs)) a w):Fn P k [] args res qs:=by
 intro w H B vals pre
 refine callsIn_wide.1 (callsIn_of_wp_marks (n:=9) hf hb trivial (wpIn_wide.2 (h w H B _ ⟨H,B,rfl,?_,⟨rfl,rfl,rfl,Nat.le_refl _,fun _ _ _=>rfl⟩,pre.sat,?_,?_,?_,?_,fun _ _=>rfl,Le.refl _,fun _ _=>rfl,pre.tab⟩)))
 ·have:=pre.arg.length
  simp [<- hN,<- this]
 ·intro t v hv
  have h1:=(argS_get args 0 t v hv).2
  rw [Nat.sub_zero] at h1
  obtain ⟨ht,rfl⟩:=List.getElem?_eq_some_iff.1 h1
  obtain ⟨u,h2,h3⟩:=pre.arg.get t ht
  have htv:t<vals.length:=(List.getElem?_eq_some_iff.1 h2).1
  have:(((⟨vals⟩:Array Value)++Array.replicate (fn.ntmps - (⟨vals⟩:Array Value).size) undef).getD t undef)=u:=by
   rw [Array.getD_eq_getD_getElem?, Array.getElem?_append_left (by simpa using htv)]
   simp [h2]
  rw [this]
  exact h3
 ·intro n l hn;cases hn
 ·intro n l b c hn;cases hn
 ·intro n m l l' b c c' h1;cases h1
def ncH (W:World):Im:=fun b=>match W.heap[b]? with
  | some o=>if dat o then none else some o
  | none=>none
theorem ncH_some {W:World} {b:Nat} {o:Obj} (h:ncH W b=some o):W.heap[b]?=some o/\dat o=false:=by
 unfold ncH at h
 cases hb:W.heap[b]? with
 | none=>rw [hb] at h;cases h
 | some o' =>
  rw [hb] at h
  dsimp only at h
  split at h
  ·cases h
  ·rename_i hc;cases h;exact ⟨rfl,by simpa using hc⟩
theorem ncH_of {W:World} {b:Nat} {o:Obj} (h:W.heap[b]?=some o) (ho:dat o=false):ncH W b=some o:=by unfold ncH;rw [h];dsimp only;rw [ho];rfl
section
variable {w0:World} {H1:Im} {B0 Bx:Bl} {K Kn:List Nat} {N:Nat} {f:F} {a:Act} {w W:World}
theorem St.nc (hs:∀ b o,H1 b=some o->W.heap[b]?=some o) (h:St ⟨w0,zdt H1 (ncH W),B0,K,N⟩ f a w) {b:Nat} {o:Obj} (hb:W.heap[b]?=some o) (ho:dat o=false):w.heap[b]?=some o:=by
 obtain ⟨H,B,h⟩:=h
 refine h.sat b o (h.le b o ?_)
 show zdt H1 (ncH W) b=some o
 unfold zdt
 cases h1:H1 b with
 | none=>exact ncH_of hb ho
 | some o'=>have:=hs b o' h1;rw [hb] at this;exact this.symm
theorem St.uncut (h:St ⟨w0,zdt H1 (ncH W),B0,K,N⟩ f a w):StC w0 H1 B0 K N f a w:=StC.of h (zik _ _) fun b o hb=>by
 rcases zg1 hb with h1 | ⟨_,h1⟩
 ·exact .inl h1
 ·exact .inr (ncH_some h1).2
theorem StC.jn (h:StC w0 H1 B0 K N f a w):St ⟨w0,zdt H1 (ncH w),B0,K,N⟩ f a w:=St.join h.st _ fun _ _ hb=>ncH_some hb
theorem StC.sat (h:StC w0 H1 B0 K N f a w):∀ b o,H1 b=some o->w.heap[b]?=some o:=fun b o hb=>by
 obtain ⟨H,B,h,_⟩:=h
 exact h.sat b o (h.le b o hb)
theorem StC.open (hb:∀ n ∈ Kn,∀ b c,Bx n=some (b,c)->w0.heap.size<=b) (h:StC w0 H1 Bx Kn N f a w):St ⟨w0,H1,B0,[],N⟩ f a w:=by
 obtain ⟨H,B,h,_⟩:=h
 have hm:∀ b,(⟨w0,H1,Bx,Kn,N⟩:E).may b->w0.heap.size<=b:=fun b ⟨n,hn,c,h1⟩=>hb n hn b c h1
 refine ⟨H,B,h.df,h.n,⟨h.ext.os,h.ext.tape,h.ext.output,h.ext.size,fun b h1 _=>h.ext.block b h1 fun h2=>by have:=hm b h2;have h1:b<w0.heap.size:=h1;omega⟩,h.sat,h.slot,h.loc,fun n l b c hn h1=>?_,h.inj,h.low,h.le,fun n hn=>(by cases hn),h.tab⟩
 obtain ⟨p1,p2,p3⟩:=h.priv n l b c hn h1
 exact ⟨p1,p2,.inr (p3.elim (hm b) id)⟩
theorem StC.params {sl:List (Nat × V)} {lc:List (Nat × L)} {p1 p2:Nat} {x1 x2:V} {v1 v2:Value} (h:StC w0 H1 Bx Kn N (F.of sl lc) a w) (hp:p1≠p2) (h1:p1<N) (h2:p2<N) (hv:∀ B,VR H1 B x1 v1/\VR H1 B x2 v2) :
  StC w0 H1 Bx Kn N (F.of ((p1,x1) :: (p2,x2) :: sl) lc) { tmps:=(#[p1,p2].zip #[v1,v2]).foldl (fun t (p,v)=>t.setIfInBounds p v) a.tmps,defers:=[] } w:=by
 obtain ⟨H,B,h,hc⟩:=h
 have hn:a.tmps.size=N:=h.n
 have ht:(#[p1,p2].zip #[v1,v2]).foldl (fun t (p,v)=>t.setIfInBounds p v) a.tmps=(a.tmps.setIfInBounds p1 v1).setIfInBounds p2 v2:=by simp
 refine ⟨H,B,⟨rfl,?_,h.ext,h.sat,fun t v hv2=>?_,h.loc,h.priv,h.inj,h.low,h.le,h.keep,h.tab⟩,hc⟩
 ·show ((#[p1,p2].zip #[v1,v2]).foldl (fun t (p,v)=>t.setIfInBounds p v) a.tmps).size=N
  rw [ht];simpa using hn
 ·show VR H B v (((#[p1,p2].zip #[v1,v2]).foldl (fun t (p,v)=>t.setIfInBounds p v) a.tmps).getD t undef)
  rw [ht]
  have hv2:((p1,x1) :: (p2,x2) :: sl).lookup t=some v:=hv2
  rw [List.lookup_cons] at hv2
  by_cases e1:t=p1
  ·subst e1
   simp only [beq_self_eq_true] at hv2
   cases hv2
   have:((a.tmps.setIfInBounds t v1).setIfInBounds p2 v2).getD t undef=v1:=by
    rw [Array.getD_eq_getD_getElem?, Array.getElem?_setIfInBounds_ne (by omega),Array.getElem?_setIfInBounds_self_of_lt (by omega)];rfl
   rw [this]
   exact VR.mono h.le (fun _ _=>rfl) (hv B).1
  ·rw [beq_eq_false_iff_ne.2 e1] at hv2
   dsimp only at hv2
   rw [List.lookup_cons] at hv2
   by_cases e2:t=p2
   ·subst e2
    simp only [beq_self_eq_true] at hv2
    cases hv2
    have:((a.tmps.setIfInBounds p1 v1).setIfInBounds t v2).getD t undef=v2:=by
     rw [Array.getD_eq_getD_getElem?, Array.getElem?_setIfInBounds_self_of_lt (by simp;omega)];rfl
    rw [this]
    exact VR.mono h.le (fun _ _=>rfl) (hv B).2
   ·rw [beq_eq_false_iff_ne.2 e2] at hv2
    dsimp only at hv2
    have:((a.tmps.setIfInBounds p1 v1).setIfInBounds p2 v2).getD t undef=a.tmps.getD t undef:=by
     rw [Array.getD_eq_getD_getElem?, Array.getElem?_setIfInBounds_ne (by omega),Array.getElem?_setIfInBounds_ne (by omega),<- Array.getD_eq_getD_getElem?]
    rw [this]
    exact h.slot t v hv2
theorem StC.again {sl:List (Nat × V)} {lc:List (Nat × L)} {a':Act} (h:StC w0 H1 Bx Kn N (F.of [] lc) a' w) (hd:a.defers=[]) (hn:a.tmps.size=N) (hs:∀ t v,(F.of sl lc).s t=some v->VR H1 Bx v (a.tmps.getD t undef)) (hK:(sl.all fun p=>p.2.tags.all (zgl Kn))=true):StC w0 H1 Bx Kn N (F.of sl lc) a w:=by
 obtain ⟨H,B,h,hc⟩:=h
 refine ⟨H,B,⟨hd,hn,h.ext,h.sat,fun t v hv=>VR.mono h.le (fun n hm=>h.keep n ?_) (hs t v hv),h.loc,h.priv,h.inj,h.low,h.le,h.keep,h.tab⟩,hc⟩
 exact zdn.1 (List.all_eq_true.1 (List.all_eq_true.1 hK (t,v) (zb9 hv)) n hm)
end
theorem rangeB {P:Program} {fn:Func} {t p1 p2 id n gf:Nat} {assign body rest:Code} {w0:World} {H0:Im} {B0:Bl} {N:Nat} {a:Act} {w:World} {sl:List (Nat × V)} {lc:List (Nat × L)} {qs:List (Nat × L)} {res:V} {xs:D} {m:Nat} {e:Nat->V × V} {Q0:Exit->Act->World->Prop}
  (Kn:List Nat) (sl':List (Nat × V)) (lcs:Nat->List (Nat × L)) (slA:Nat->List (Nat × V)) (lcA:Nat->List (Nat × L)) (h:St ⟨w0,H0,B0,[],N⟩ (F.of sl lc) a w) (it:IterOk P gf xs m e) (hk:za6 P gf)
  (hs:(F.of sl lc).s t=some (.t (.c (.fn (.func gf) [] [.ptr n 0])))) (hl:(F.of sl lc).l n=some (.box [.d xs])) (hp:p1≠p2) (hp1:p1<N) (hp2:p2<N)
  (h1:leS (F.of sl lc) sl'=sl'.map fun p=>some p.2) (h2:leN (F.of sl lc) (lcs 0)=(lcs 0).map fun p=>some p.2) (h3:((lcs 0).all fun p=>!(p.1 == n))=true) (hK:(sl'.all fun p=>p.2.tags.all (zgl Kn))=true) (hK2:(Kn.all fun k=>((F.of sl lc).l k).isSome)=true)
  (hassign:∀ (H:Im) (B:Bl) (l j:Nat) (a:Act) (w:World),j<m->St ⟨w0,H,B,Kn,N⟩ (F.of ((p1,(e j).1) :: (p2,(e j).2) :: sl') (lcs j)) a w->wpX (some l) [] P assign (fun ex a w=>ex = .normal/\St ⟨w0,H,B,Kn,N⟩ (F.of (slA j) (lcA j)) a w) a w)
  (hbody:∀ (H:Im) (B:Bl) (l j:Nat) (a:Act) (w:World),j<m->St ⟨w0,H,B,Kn,N⟩ (F.of (slA j) (lcA j)) a w->wpX (some l) [] P body (fun ex a w=>ex = .normal/\St ⟨w0,H,B,Kn,N⟩ (F.of [] (lcs (j+1))) a w) a w)
  (hrest:∀ (H:Im) (Dd:Nat) (a:Act) (w:World),St ⟨w0,H,B0,[],N⟩ (F.of sl' (lcs m)) a w->wpX none [{ target:=.collected Dd,args:=#[] }] P rest (RetX P fn ⟨w0,H,B0,[],N⟩ res qs) a w) :
  (Code.block id (.rangeFunc (.tmp t) #[p1,p2] assign body)).wp P (Exit.then (fun a w=>rest.wp P (bodyPostM Fence.wide 9 P fn (RetQ ⟨w0,H0,B0,[],N⟩ [] res qs)) a w) Q0) a w:=by
 have hdf:a.defers=[]:=by obtain ⟨_,_,h⟩:=h;exact h.df
 obtain ⟨H1,Bx,Bs,sv,ty,hle,hlow,hBs,hxs,hfn,hbx,hslot,hok⟩:=St.fix Kn h hl
 obtain ⟨ev,hev,hit⟩:=it H1 Bs sv ty hBs hxs
 have hn0:a.tmps.size=N:=hok.n
 have hH1:∀ b o,H1 b=some o->b<w.heap.size:=fun b o hb=>(Array.getElem?_eq_some_iff.1 (hok.sat b o hb)).1
 have hKb:∀ k ∈ Kn,∀ b c,Bx k=some (b,c)->w0.heap.size<=b:=fun k hk b c hb=>by
  obtain ⟨l,hl⟩:=Option.isSome_iff_exists.1 (List.all_eq_true.1 hK2 k hk)
  exact hbx k l b c hl hb
 have hsl:∀ t v,sl'.lookup t=some v->VR H1 Bx v (a.tmps.getD t undef):=fun t v hv=>hslot t v (zcg h1 (t,v) (zb9 hv))
 have hws:w0.heap.size<=w.heap.size:=hok.ext.size
 have hfl:(⟨(F.of sl lc).s,fun m=>if m=n then none else (F.of sl lc).l m⟩:F).le (F.of sl' (lcs 0)):=by
  refine ⟨fun t v hv=>zcg h1 (t,v) (zb9 hv),fun k l hk=>?_⟩
  have hm:=zb9 hk
  have hne:k≠n:=by have:=List.all_eq_true.1 h3 _ hm;simpa using this
  simp only [if_neg hne]
  exact zcg h2 (k,l) hm
 have hst0:StC w0 H1 Bx Kn N (F.of sl' (lcs 0)) a w :=
  ⟨H1,Bx,⟨hok.df,hok.n,hok.ext,hok.sat,fun t v hv=>hok.slot t v (hfl.1 t v hv),fun k l hk=>hok.loc k l (hfl.2 k l hk),fun k l b c hk=>hok.priv k l b c (hfl.2 k l hk),fun k k' l l' b c c' hk hk'=>hok.inj k k' l l' b c c' (hfl.2 k l hk) (hfl.2 k' l' hk'),hok.low,hok.le,hok.keep,hok.tab⟩,fun b o hb => .inl hb⟩
 refine (wpIn_wide (n:=9)).1 (wpIn_block (wpIn_rangeFunc fun fnid _=>?_))
 obtain ⟨rec,hrec⟩:∃ rec:LoopState->Option Code->Loop,rec=fun st pe=>{ state:=st,pending:=pe,fn:=fnid,tmps:=a.tmps,params:=#[p1,p2],assign,body,defers:=w.heap.size }:=⟨_,rfl⟩
 obtain ⟨W1,hW1⟩:∃ W1,(w.alloc (.deferred (some []))).alloc (.loop (rec .ready none))=W1:=⟨_,rfl⟩
 have hL1:W1.heap[w.heap.size+1]?=some (.loop (rec .ready none)):=by
  rw [<- hW1];have:=World.alloc_heap_new (w.alloc (.deferred (some []))) (.loop (rec .ready none));rwa [World.size_alloc] at this
 have hK1:W1.heap[w.heap.size]?=some (.deferred (some [])):=by
  rw [<- hW1];exact (Below.heap_alloc _ _ _ (by simp)).trans (World.alloc_heap_new w _)
 have hbelow:Below w.heap.size w W1:=by rw [<- hW1];exact ((Below.refl _ w).alloc (Nat.le_refl _) _).alloc (by simp) _
 have hst1:StC w0 H1 Bx Kn N (F.of sl' (lcs 0)) a W1 :=
  hst0.turn (r:=W1.heap.size) (z:=w.heap.size) hbelow.os hbelow.tape hbelow.output hbelow.size (fun b hb _=>hbelow.block b hb) hws hbelow.size (fun o ho=>by have:=(Array.getElem?_eq_some_iff.1 ho).1;have:=hbelow.size;omega) hH1
 -- a turn of the record keeps the state
 have hturn:∀ {K':List Nat} {B':Bl} {f:F} {a':Act} {W:World} (l:Nat) (o o':Obj),w.heap.size<=l->W.heap[l]?=some o->dat o=false->StC w0 H1 B' K' N f a' W->StC w0 H1 B' K' N f a' (W.putObj l o'):=fun l o o' hl ho hc hst =>
  hst.turn (r:=l) (z:=w.heap.size) rfl rfl rfl (by simp) (fun b _ hb=>World.putObj_heap_other hb) hws hl (fun o2 ho2=>by rw [ho] at ho2;cases ho2;exact hc) hH1
 have hfn1:a.eval (.tmp t) = .func (.func gf) #[] #[.pointer (some ⟨Bs,0,none⟩)]:=hfn t gf hs
 refine ⟨w.heap.size+1,[{ target:=.collected w.heap.size,args:=#[] }],W1,{ target:=.fn (.func gf) #[.pointer (some ⟨Bs,0,none⟩)],args:=#[.func (.yield (w.heap.size+1)) #[] #[]] }, W1,gf,
  #[.func (.yield (w.heap.size+1)) #[] #[]]++#[.pointer (some ⟨Bs,0,none⟩)],W1,?_,?_,fun _ _=>trivial,?_,fun h=>(by cases h),?_⟩
 ·rw [<- hW1,hrec];exact run_enterLoop_outer _ _ _ _ _
 ·simp only [resolve,hfn1]
  simp [go_sem]
 ·simp [invoke,go_sem,zhg hk]
 ·refine (hit (w.heap.size+1) (fun j W=>StC w0 H1 Bx Kn N (F.of sl' (lcs j)) a W/\W.heap[w.heap.size+1]?=some (.loop (rec .ready none))/\W.heap[w.heap.size]?=some (.deferred (some []))) W1 (fun j W hJ=>hJ.1.sat) ?_ ⟨hst1,hL1,hK1⟩).mono ?_
  ·rintro j W ⟨hst,hl,hd⟩ hj
   have hy:=run_yield (P:=P) (args:=#[(ev j).1,(ev j).2]) hl (by rw [hrec];rfl)
   rw [hrec] at hy
   refine ⟨fnid,_,assign,body,hy,roundIn_of_wpIn trivial ?_⟩
   have hA:=hassign _ Bx (w.heap.size+1) j _ W hj (hst.params hp hp1 hp2 (fun B=>hev B j hj)).jn
   refine wpIn_depth (n:=9) rfl (wpIn_mono hA ?_)
   rintro ex ⟨tm,dfs⟩ w1 ⟨hd1,rfl,hS⟩
   cases hd1
   have hl1:=hS.nc hst.sat hl rfl
   have hdd1:=hS.nc hst.sat hd rfl
   refine ⟨_,run_beginRound hl1 (by rw [hrec]),?_⟩
   obtain ⟨W2,hW2⟩:∃ W2,w1.putObj (w.heap.size+1) (.loop { rec .ready none with state:=.busy })=W2:=⟨_,rfl⟩
   rw [hW2]
   have hst2:=hturn (w.heap.size+1) _ (.loop { rec .ready none with state:=.busy }) (by omega) hl1 rfl hS.uncut
   rw [hW2] at hst2
   have hl2:W2.heap[w.heap.size+1]?=some (.loop { rec .ready none with state:=.busy }):=by rw [<- hW2];exact World.putObj_heap_same (Array.getElem?_eq_some_iff.1 hl1).1
   have hdd2:W2.heap[w.heap.size]?=some (.deferred (some [])):=by rw [<- hW2];exact (World.putObj_heap_other (by omega)).trans hdd1
   have hB:=hbody _ Bx (w.heap.size+1) j _ W2 hj hst2.jn
   refine wpIn_depth (n:=9) rfl (wpIn_mono hB ?_)
   rintro ex ⟨tm3,dfs3⟩ w3 ⟨hd3,rfl,hS3⟩
   cases hd3
   have hl3:=hS3.nc hst2.sat hl2 rfl
   have hdd3:=hS3.nc hst2.sat hdd2 rfl
   have hend:=run_endRound (P:=P) none hl3
   refine ⟨_,_,hend,rfl,?_,?_,?_⟩
   ·exact hturn (w.heap.size+1) _ _ (by omega) hl3 rfl (hS3.uncut.again hdf hn0 hsl hK)
   ·rw [World.putObj_heap_same (Array.getElem?_eq_some_iff.1 hl3).1,hrec];rfl
   ·exact (World.putObj_heap_other (by omega)).trans hdd3
  ·rintro en W2 ⟨⟨v,rfl⟩,hst,hl,hd⟩
   have hend:=run_endLoop (P:=P) hl (by rw [hrec];simp)
   refine ⟨_,_,hend,?_⟩
   rw [hrec]
   have hstE:=hturn (w.heap.size+1) _ (.loop { rec .ready none with state:=.exhausted }) (by omega) hl rfl hst
   have hdE:(W2.putObj (w.heap.size+1) (.loop { rec .ready none with state:=.exhausted })).heap[w.heap.size]?=some (.deferred (some [])):=(World.putObj_heap_other (by omega)).trans hd
   rw [hrec] at hstE hdE
   have hR:=hrest (zdt H1 (markH w.heap.size)) w.heap.size a _ (St.join (hstE.open hKb) _ fun b o hb=>by
    unfold markH at hb
    split at hb
    ·rename_i e;subst e;cases hb;exact ⟨hdE,rfl⟩
    ·cases hb)
   refine (wpIn_wide (n:=9)).1 (wpIn_mono (show rest.wpIn Fence.wide 9 P _ { a with defers:=[{ target:=.collected w.heap.size,args:=#[] }]++a.defers } _ from by rw [hdf];exact hR) ?_)
   rintro ex a' w' ⟨hd', hr⟩
   exact leave_mark (ps:=[]) hle hlow hws hH1 hd' hr
theorem dfS {e:E} {f:F} {a:Act} {w:World} (h:St e f a w):a.defers=[]:=let ⟨_,_,h⟩:=h;h.df
attribute [local go_sem] Oper.semAt_some
def zcv (zs:List Int) (j:Nat):Int:=(zs[zs.length - 1 - j]?).getD 0
theorem back_ints (zs:List Int) (hz:zs.length<=1000000):IterOk Tryz.prog 107 (.sl 1 (zs.map zad)) zs.length (fun j=>(vi .i64 ((zs.length - 1 - j:Nat):Int),vi .i64 (zcv zs j))):=by
 intro H1 Bs sv ty hBs hxs
 refine ⟨fun j=>(.int .i64 ((zs.length:Int) - 1 - j),.int .i64 (zcv zs j)),fun B j hj=>⟨?_,.raw _ rfl⟩,fun l J W hJs hY h0=>?_⟩
 ·show VR H1 B (vi .i64 ((zs.length - 1 - j:Nat):Int)) _
  rw [show ((zs.length - 1 - j:Nat):Int)=(zs.length:Int) - 1 - j by omega];exact .raw _ rfl
 have hcB:∀ j W,J j W->W.cell? ⟨Bs,0,none⟩=some sv:=fun j W hJ=>zdm (hJs j W hJ _ _ hBs) rfl
 have hc0:=hcB 0 W h0
 obtain ⟨ao,c,rfl,hel⟩:∃ ao c,sv = .slice ao zs.length c/\∀ k,k<zs.length->∃ b o,ao=some ⟨b,o,none⟩/\∀ j W,J j W->W.cell? ⟨b,o+k,none⟩=some (.int .i64 ((zs[k]?).getD 0)):=by
  cases hz0:zs with
  | nil =>
   rw [hz0] at hxs
   generalize hxd:D.sl 1 (([]:List Int).map zad)=xd at hxs
   cases hxs with
   | raw=>cases hxd
   | nil es ao c h hc=>exact ⟨ao,c,rfl,fun k hk=>absurd hk (Nat.not_lt_zero k)⟩
   | sl es rows b o c arr ty fz vs hp=>injection hxd with _ h2;subst h2;simp at hp
  | cons z zs' =>
   rw [<- hz0]
   generalize hxd:D.sl 1 (zs.map zad)=xd at hxs
   cases hxs with
   | raw=>cases hxd
   | nil es ao c h hc=>injection hxd with _ h2;rw [hz0] at h2;cases h2
   | sl es rows b o c arr ty fz vs hp hb hl hc hes hv hr =>
    injection hxd with h1 h2
    subst h1 h2
    refine ⟨some ⟨b,o,none⟩,c,by simp,fun k hk=>⟨b,o,rfl,fun j W hJ=>?_⟩⟩
    have hkl:k<(zs.map zad).length:=by simpa using hk
    have h3:=hv k hkl 0 (by decide)
    have h4:=hr k hkl 0 (by simp [zad])
    rw [Nat.mul_one,Nat.add_zero] at h3
    have h5:vs k 0 = .int .i64 ((zs[k]?).getD 0):=by
     have h6:(((zs.map zad)[k]'hkl)[0]'(by simp [zad])) = .raw (.int .i64 ((zs[k]?).getD 0)):=by simp [zad,hk]
     rw [h6] at h4
     generalize vs k 0=u at h4
     cases h4;rfl
    rw [h5] at h3
    exact zdm (hJs j W hJ _ _ hb) (by simpa using h3)
 refine callsIn_of_wp Tryz.func107 rfl trivial ?_ rfl
 simp only [Tryz.ntmps107,List.size_toArray,List.length_cons,List.length_nil,Nat.reduceAdd,Nat.reduceSub,Array.replicate_succ,Array.replicate_zero,List.push_toArray,List.append_toArray,List.nil_append,List.cons_append]
 gi_wp2
 gi_loopw [3] (fun i wr=>∃ k:Nat,k<=zs.length/\i = .int .i64 ((zs.length:Int) - 1 - k)/\J k wr) (fun i _=>(intOf i+1).toNat)
 case atStart=>exact ⟨0,Nat.zero_le _,by simp,h0⟩
 case round =>
  obtain ⟨k,hk,rfl,hJk⟩:=hrel
  have hcw:=hcB k wr hJk
  by_cases hlt:k<zs.length
  ·obtain ⟨fn,tmps,assign,body,hy,hR⟩:=hY k wr hJk hlt
   obtain ⟨b,o,rfl,hcell⟩:=hel (zs.length - 1 - k) (by omega)
   have hcx:=hcell k wr hJk
   have e1:((zs.length:Int) - 1 - k).toNat=zs.length - 1 - k:=by omega
   have hge:decide ((zs.length:Int) - 1 - k>=0)=true:=decide_eq_true (by omega)
   unfold zcv at hy
   try dsimp only at hy
   gi_wp2
   refine hR.mono ?_
   rintro e W3 ⟨rfl,hJ3⟩
   gi_wp2
   go_roundw
   case rel=>exact ⟨k+1,by omega,by first | rfl | (simp;omega),hJ3⟩
   case measure=>simp [intOf];omega
  ·obtain rfl:k=zs.length:=by omega
   gi_wp2
   go_end0
   exact ⟨⟨_,rfl⟩,hJk⟩
theorem oa1_3:za6 Tryz.prog 62:=za6.mk' (by kernel_rfl)
theorem oa1_11:za6 Tryz.prog 74:=za6.mk' (by kernel_rfl)
theorem SRSmall (x:ZI) (hx:Lb x.abs) (lx:x.abs.length<=300000):Fn Tryz.prog 74 [] [vz x] (.tup [.c (cI (zbt x.val).1),.c (cB (zbt x.val).2)]) []:=by
 intro w H B vals pre
 have ha:=pre.arg
 obtain ⟨a,rfl,h1⟩:∃ a,vals=[a]/\VR H B (vz x) a:=by
  match vals,ha with
  | [a],h=>exact ⟨a,rfl,h.1⟩
  | [],h=>exact h.elim
  | _ :: _ :: _,h=>exact h.2.elim
 obtain ⟨ao,c,rfl,r1⟩:=openZ2 h1 hx
 refine (RSmall_any x.neg ao _ c x.abs w _ _ rfl (r1 w pre.sat) lx rfl).mono fun e w' h=>?_
 obtain ⟨rfl,hE⟩:=h
 exact ⟨_,_,_,rfl,postE hE pre.sat ⟨_,rfl,DR.raw _ rfl,DR.raw _ rfl,trivial⟩⟩
def wdB (b:zah):Int × Bool:=if b.is_=false then (0,false) else if b.hi.val<b.lo.val then (0,true) else if 1048576<b.hi.val - b.lo.val+1 then (0,false) else (b.hi.val - b.lo.val+1,true)
theorem wdB_le (b:zah):0<=(wdB b).1/\(wdB b).1<=1048576:=by
 unfold wdB
 split
 ·decide
 ·split
  ·decide
  ·split
   ·decide
   ·refine ⟨?_,?_⟩ <;> simp only [] <;> omega
theorem small_of {z:Int} (h1:-9223372036854775808<=z) (h2:z<=9223372036854775807):zbt z=(z,true):=if_pos ⟨h1,h2⟩
def wdS (s:zan) (v:Nat):Int:=if (wdB (zat s v)).2=true then (wdB (zat s v)).1 else -1
theorem bnd_no19 {s:zan} {v:Nat} (h:s.bounds.length<=v):zat s v=bnd0:=by unfold zat;rw [List.getElem?_eq_none h];rfl
theorem zci {s:zan} {v:Nat} {b:zah} (h:s.bounds[v]?=some b):zat s v=b:=by unfold zat;rw [h];rfl
theorem wdB_no {b:zah} (h:b.is_=false):wdB b=(0,false):=if_pos h
theorem wdB_zero {b:zah} (h:b.is_=true) (hz:b.hi.val - b.lo.val+1<=0):wdB b=(0,true):=(if_neg (by rw [h];exact Bool.noConfusion)).trans (if_pos (by omega))
theorem wdB_big {b:zah} (h:b.is_=true) (hz:1048576<b.hi.val - b.lo.val+1):wdB b=(0,false):=(if_neg (by rw [h];exact Bool.noConfusion)).trans ((if_neg (by omega)).trans (if_pos hz))
theorem wdB_val {b:zah} (h:b.is_=true) (hz:0<b.hi.val - b.lo.val+1) (hz2:b.hi.val - b.lo.val+1<=1048576):wdB b=(b.hi.val - b.lo.val+1,true):=(if_neg (by rw [h];exact Bool.noConfusion)).trans ((if_neg (by omega)).trans (if_neg (by omega)))
theorem wdS_no {s:zan} {v:Nat} (h:(zat s v).is_=false):wdS s v=-1:=by unfold wdS;rw [wdB_no h];rfl
theorem wdS_zero {s:zan} {v:Nat} (h:(zat s v).is_=true) (hz:(zat s v).hi.val - (zat s v).lo.val+1<=0):wdS s v=0:=by unfold wdS;rw [wdB_zero h hz];rfl
theorem wdS_big {s:zan} {v:Nat} (h:(zat s v).is_=true) (hz:1048576<(zat s v).hi.val - (zat s v).lo.val+1):wdS s v=-1:=by unfold wdS;rw [wdB_big h hz];rfl
theorem wdS_val {s:zan} {v:Nat} (h:(zat s v).is_=true) (hz:0<(zat s v).hi.val - (zat s v).lo.val+1) (hz2:(zat s v).hi.val - (zat s v).lo.val+1<=1048576):wdS s v=(zat s v).hi.val - (zat s v).lo.val+1:=by unfold wdS;rw [wdB_val h hz hz2];rfl
theorem sgn_le0 {x:Int} (h:sgn x<=0):x<=0:=by unfold sgn at h;split at h <;> (try split at h) <;> omega
theorem sgn_gt0 {x:Int} (h:¬ sgn x<=0):0<x:=by unfold sgn at h;split at h <;> (try split at h) <;> omega
theorem Owidth (b:zah) {L:Nat} (hb:ZOk L b.lo/\ZOk L b.hi) (hL:L<=1000):Fn Tryz.prog 81 [] [.t (.agg ([.d (.raw (.bool b.is_))]++zi b.lo++zi b.hi))] (.tup [.c (.d (.raw (.int .i64 (wdB b).1))),.c (.d (.raw (.bool (wdB b).2)))]) []:=by
 have lb1:=hb.1.2;have lb2:=hb.2.2;refine Fn.body Tryz.func81 rfl 35 rfl fun w H B a h=>Jq 0 [] [(1,vp 0 0),(2,vI 0),(3,vb false)] [(0,.box ([.d (.raw (.bool b.is_))]++zi b.lo++zi b.hi))] h fun a w h=>qW (Je 1 [] [] [(8,vb (!b.is_))] h fun a w h=>cS (!b.is_) h (fun hc1=>?_) (fun hc2=>?_))
 ·have hc1':=hc1;(try simp at hc1');refine Je 1 [] [8] [] h fun a w h=>qV (za2 (zdb [.c (.d (.raw (.int .i64 0))),.c (.d (.raw (.bool false)))] h Exit.ret (.inl rfl)  rfl ⟨RV.tmp _ _ rfl,RV.tmp _ _ rfl,trivial⟩ ?_));show _=_;unfold wdB;rw [if_pos (show (b.is_)=false from by simpa using hc1)];rfl
 have hc2':=hc2;(try simp at hc2');refine qU (za0 ?_);obtain ⟨r1,er1,vr1,or1,lr1⟩:=mkZ (v:=b.hi.val - b.lo.val) (m:=b.hi.abs.length+b.lo.abs.length+1) (len_sub hb.2.1 hb.1.1);obtain ⟨r2,er2,vr2,or2,lr2⟩:=mkZ (v:=1) (m:=2) (ZI.len_of (by have:=pw2;omega));obtain ⟨r3,er3,vr3,or3,lr3⟩:=mkZ (v:=r1.val+r2.val) (m:=r1.abs.length+r2.abs.length+1) (zdk or1 or2);refine Je 1 [(4,.call (Fn.cast (SSub b.hi b.lo hb.2.1 hb.1.1 (by omega) (by omega)) (congrArg vz er1.symm)) zs_16),(5,.call (Fn.cast (SOf 1 ⟨by omega,by omega⟩) (congrArg vz er2.symm)) tm_10),(6,.call (Fn.cast (SAdd r1 r2 or1 or2 (by omega) (by omega)) (congrArg vz er3.symm)) tl_9),(7,.call (SSmall r3 or3 (by omega)) oa1_3)] [8] [(4,vI (zbt r3.val).1),(5,vb (zbt r3.val).2)] h fun a w h=>qW (qZ (Jd 1 [(4,.call (SCmp b.lo b.hi hb.1.1 hb.2.1 (by omega) (by omega)) kf_3)] [1] [(20,vb (decide (zdl b.lo.val b.hi.val>0)))] [] h fun a w h=>zap (zdl b.lo.val b.hi.val>0) h (fun hc3 hc3'=>?_) (fun hc4 hc4'=>?_)))
 ·refine Jd 1 [] [5,20] [(3,vb true)] [] h fun a w h=>qV (za7 (za2 (zdb [.c (.d (.raw (.int .i64 0))),.c (.d (.raw (.bool true)))] h Exit.ret (.inl rfl)  rfl ⟨RV.tmp _ _ rfl,RV.tmp _ _ rfl,trivial⟩ ?_)));show _=_;unfold wdB;rw [if_neg (by rw [(show (b.is_)=true from by simpa using hc2)];exact Bool.noConfusion)];rw [if_pos (dT ((zei _ _).symm.trans hc3))];rfl
 rcases Bool.eq_false_or_eq_true (zbt r3.val).2 with hc5 | hc8
 ·rw [hc5] at h;refine Jq 1 [] [(2,vI 0),(3,vb false),(4,vI (zbt r3.val).1),(27,vb (decide ((zbt r3.val).1>1048576)))] [] h fun a w h=>zap ((zbt r3.val).1>1048576) h (fun hc6 hc6'=>?_) (fun hc7 hc7'=>?_)
  ·refine Jd 1 [] [27] [] [] h fun a w h=>qV (za7 (za2 (zdb [.c (.d (.raw (.int .i64 0))),.c (.d (.raw (.bool false)))] h Exit.ret (.inl rfl)  rfl ⟨RV.tmp _ _ rfl,RV.tmp _ _ rfl,trivial⟩ ?_)));show _=_;unfold wdB;rw [if_neg (by rw [(show (b.is_)=true from by simpa using hc2)];exact Bool.noConfusion)];rw [if_neg (dF ((zei _ _).symm.trans hc4))];have hz9:r3.val=b.hi.val - b.lo.val+1:=by omega
   have hle9:=dF ((zei _ _).symm.trans hc4);have hs9:=(small_val hc5).1;rw [if_pos (by have:=dT hc6;omega)];rfl
  refine qU (zac (za0 (Jq 1 [] [(2,vI (zbt r3.val).1),(3,vb true)] [] h fun a w h=>qV (zdb [.c (.d (.raw (.int .i64 (zbt r3.val).1))),.c (.d (.raw (.bool true)))] h Exit.ret (.inl rfl)  rfl ⟨RV.tmp _ _ rfl,RV.tmp _ _ rfl,trivial⟩ ?_))));show _=_;unfold wdB;rw [if_neg (by rw [(show (b.is_)=true from by simpa using hc2)];exact Bool.noConfusion)];rw [if_neg (dF ((zei _ _).symm.trans hc4))];have hz9:r3.val=b.hi.val - b.lo.val+1:=by omega
  have hle9:=dF ((zei _ _).symm.trans hc4);have hs9:=(small_val hc5).1;rw [if_neg (by have:=dF hc7;omega),hs9,hz9];rfl
 rw [hc8] at h;refine Jq 1 [] [(2,vI 0),(3,vb false),(4,vI (zbt r3.val).1),(27,vb true)] [] h fun a w h=>cS true h (fun _=>?_) nofun
 refine Jd 1 [] [27] [] [] h fun a w h=>qV (za7 (za2 (zdb [.c (.d (.raw (.int .i64 0))),.c (.d (.raw (.bool false)))] h Exit.ret (.inl rfl)  rfl ⟨RV.tmp _ _ rfl,RV.tmp _ _ rfl,trivial⟩ ?_)));show _=_;unfold wdB;rw [if_neg (by rw [(show (b.is_)=true from by simpa using hc2)];exact Bool.noConfusion)];rw [if_neg (dF ((zei _ _).symm.trans hc4))];have hz9:r3.val=b.hi.val - b.lo.val+1:=by omega
 have hle9:=dF ((zei _ _).symm.trans hc4);rw [if_pos (by have:=small_big (m:=1048576) hc8 (by omega) (by decide);omega)];rfl
theorem ORwidth (s:zan) (v:Nat) {L:Nat} (hs:zb1 L s) (hL:L<=1000):Fn Tryz.prog 37 [] [vG (zai s),vN v] (vI (wdS s v)) []:=by
 have lb9:=hs.bnds;refine Fn.body Tryz.func37 rfl 50 rfl fun w H B a h=>Jq 0 [] [(1,vN v),(2,vp 0 0),(4,vI 0)] [(0,.box (zai s))] h fun a w h=>qW ?_
 rcases Bool.eq_false_or_eq_true (decide ((v:Int)>=(s.bounds.length:Int))) with hc1 | hc2
 ·have hc1':=dT hc1;refine Je 1 [(3,.len (za3 5 zah.d s.bounds)),(4,.cmp (op:=.geq) (m:=(v:Int)) (n:=(s.bounds.length:Int)) (b:=true) .i64 hc1)] [] [(21,vb true)] h fun a w h=>cS true h (fun _=>?_) nofun
  refine Je 1 [] [21] [(4,vI (-1))] h fun a w h=>qV (za2 (rT (.c (cI (-1))) h rfl ?_));exact congrArg (vi .i64) (wdS_no (by rw [bnd_no19 (by have:=dT hc1;omega)];rfl)).symm
 have hc2':=dF hc2;obtain ⟨x1,hx1⟩:=gl s.bounds v;have gx1:=hs.bnd x1 (lM hx1);have l1x1:=gx1.1.2;have l2x1:=gx1.2.2;refine Je 1 [(3,.len (za3 5 zah.d s.bounds)),(4,.cmp (op:=.geq) (m:=(v:Int)) (n:=(s.bounds.length:Int)) (b:=false) .i64 hc2),(9,.g (xD 17 15 kf_0 (zab hx1 (f:=zah.d)) (OV.tmp 16 _)))] [] [(21,vb (!x1.is_))] h fun a w h=>cS (!x1.is_) h (fun hc3=>?_) (fun hc4=>?_)
 ·have hc3':=hc3;(try simp at hc3');refine Je 1 [] [21] [(4,vI (-1))] h fun a w h=>qV (za2 (rT (.c (cI (-1))) h rfl ?_));exact congrArg (vi .i64) (wdS_no (by rw [zci hx1];exact (show (x1.is_)=false from by simpa using hc3))).symm
 have hc4':=hc4;(try simp at hc4');refine qU (za0 ?_);obtain ⟨r2,er2,vr2,or2,lr2⟩:=mkZ (v:=x1.hi.val - x1.lo.val) (m:=x1.hi.abs.length+x1.lo.abs.length+1) (len_sub gx1.2.1 gx1.1.1);obtain ⟨r3,er3,vr3,or3,lr3⟩:=mkZ (v:=1) (m:=2) (ZI.len_of (by have:=pw2;omega));obtain ⟨r4,er4,vr4,or4,lr4⟩:=mkZ (v:=r2.val+r3.val) (m:=r2.abs.length+r3.abs.length+1) (zdk or2 or3);refine Jq 1 [(3,.g (xD 25 23 kf_0 (zab hx1 (f:=zah.d)) (OV.tmp 24 _))),(9,.g (xD 31 29 kf_0 (zab hx1 (f:=zah.d)) (OV.tmp 30 _))),(12,.call (Fn.cast (SRSub x1.hi x1.lo gx1.2.1 gx1.1.1 (by omega) (by omega)) (congrArg vz er2.symm)) zs_7),(13,.call (Fn.cast (SROf 1 ⟨by omega,by omega⟩) (congrArg vz er3.symm)) tc_0),(14,.call (Fn.cast (SRAdd r2 r3 or2 or3 (by omega) (by omega)) (congrArg vz er4.symm)) ib_5)] [(4,vI 0),(5,vp 1 0)] [(1,.box (zi r4))] h fun a w h=>qW (Je 2 [(1,.call (zd6 r4 or4 (by omega)) ib_0)] [] [(39,vb (decide (sgn r4.val<=0)))] h fun a w h=>zap (sgn r4.val<=0) h (fun hc5 hc5'=>?_) (fun hc6 hc6'=>?_))
 ·refine Je 2 [] [39] [] h fun a w h=>qV (za2 (rT (.c (cI 0)) h rfl ?_));have hz9:r4.val=x1.hi.val - x1.lo.val+1:=by omega
  have hi9:(zat s v).is_=true:=by rw [zci hx1];exact (show (x1.is_)=true from by simpa using hc4)
  have hb9:=zci hx1;exact congrArg (vi .i64) (wdS_zero hi9 (by rw [hb9];have:=sgn_le0 (dT hc5);omega)).symm
 refine qU (za0 (qW ?_));obtain ⟨r6,er6,vr6,or6,lr6⟩:=mkZ (v:=1048576) (m:=2) (ZI.len_of (by have:=pw2;omega));refine Je 2 [(1,.call (Fn.cast (SROf 1048576 ⟨by omega,by omega⟩) (congrArg vz er6.symm)) tc_0),(2,.call (SRCmp r4 r6 or4 or6 (by omega) (by omega)) kh_1)] [39] [(43,vb (decide (zdl r4.val r6.val>0)))] h fun a w h=>zap (zdl r4.val r6.val>0) h (fun hc7 hc7'=>?_) (fun hc8 hc8'=>?_)
 ·refine Je 2 [] [43] [(4,vI (-1))] h fun a w h=>qV (za2 (rT (.c (cI (-1))) h rfl ?_));have hz9:r4.val=x1.hi.val - x1.lo.val+1:=by omega
  have hi9:(zat s v).is_=true:=by rw [zci hx1];exact (show (x1.is_)=true from by simpa using hc4)
  have hb9:=zci hx1;have hg9:=sgn_gt0 (dF hc6);exact congrArg (vi .i64) (wdS_big hi9 (by rw [hb9];have:=dT ((zei _ _).symm.trans hc7);omega)).symm
 refine qU (za0 (Jd 2 [(1,.call (SRSmall r4 or4 (by omega)) oa1_11)] [5,43] [(6,vI (zbt r4.val).1)] [] h fun a w h=>Jq 2 [] [(4,vI (zbt r4.val).1)] [] h fun a w h=>qV (rT (.c (cI (zbt r4.val).1)) h rfl ?_)));have hz9:r4.val=x1.hi.val - x1.lo.val+1:=by omega
 have hi9:(zat s v).is_=true:=by rw [zci hx1];exact (show (x1.is_)=true from by simpa using hc4)
 have hb9:=zci hx1;have hg9:=sgn_gt0 (dF hc6);have hc9:=dF ((zei _ _).symm.trans hc8);exact congrArg (vi .i64) ((congrArg Prod.fst (small_of (z:=r4.val) (by omega) (by omega))).trans (hz9.trans ((wdS_val hi9 (by rw [hb9];omega) (by rw [hb9];omega)).trans (by rw [hb9])).symm))
theorem St.pubK {w0:World} {H0:Im} {B0:Bl} {K:List Nat} {N:Nat} {f:F} {a:Act} {w:World} (h:St ⟨w0,H0,B0,K,N⟩ f a w) (n es:Nat) (ty:TypeId) (rows:List (List D)) (hl:f.l n=some (.row ty es rows)) (hK:∀ k ∈ K,k≠n/\∃ l,f.l k=some l)
  (h1:∀ t v,f.s t=some v->∀ k ∈ v.owns n,k=rows.length) (h2:∀ m l,f.l m=some l->∀ k ∈ l.owns n,k=rows.length):St ⟨w0,H0,B0,K,N⟩ (f.pub n es rows) a w:=by
 obtain ⟨H,B,hok⟩:=h
 have hLR:=hok.loc n _ hl
 -- what stays from here on
 obtain ⟨H', hle,hH', hcell⟩:∃ H':Im,Le H H'/\(∀ b o,H' b=some o->H b=some o\/(w.heap[b]?=some o/\∃ c,B n=some (b,c))) /\
   (∀ (x:C) (v:Value),(∀ k ∈ x.owns n,k=rows.length)->CR H B x v->CR H' B (x.pub n es rows) v):=by
  have keepC:∀ {H':Im} (hle:Le H H'),(∀ v,CR H B (.own n rows.length) v->DR H' (.sl es rows) v)->∀ (x:C) (v:Value),(∀ k ∈ x.owns n,k=rows.length)->CR H B x v->CR H' B (x.pub n es rows) v:=by
   intro H' hle hown x v hk hx
   cases x with
   | own m k =>
    simp only [C.pub]
    split
    ·rename_i e1
     have e1:=Nat.eq_of_beq_eq_true e1
     subst e1
     have:=hk k (by simp [C.owns])
     subst this
     exact hown v hx
    ·exact CR.mono hle (fun _ _=>rfl) hx
   | ptr m o =>
    simp only [C.pub]
    split
    ·exact CR.flat hx
    ·exact CR.mono hle (fun _ _=>rfl) hx
   | sub m o k =>
    simp only [C.pub]
    split
    ·exact CR.flat hx
    ·exact CR.mono hle (fun _ _=>rfl) hx
   | d x=>exact CR.mono hle (fun _ _=>rfl) hx
   | el x=>exact CR.mono hle (fun _ _=>rfl) hx
   | fn f' x y=>exact CR.mono hle (fun _ _=>rfl) hx
   | any=>exact hx
   | mp m =>
    simp only [C.pub]
    split
    ·exact CR.flat hx
    ·exact CR.mono hle (fun _ _=>rfl) hx
  cases hB:B n with
  | none =>
   simp only [LR,hB] at hLR
   subst hLR
   refine ⟨H,Le.refl _,fun b o h => .inl h,keepC (Le.refl _) fun v hv=>?_⟩
   simp only [CR,hB] at hv
   obtain ⟨_,ao,hv⟩:=hv
   rw [hv]
   exact .nil es ao 0 (fun _=>rfl) (Nat.zero_le _)
  | some p =>
   obtain ⟨b,c⟩:=p
   obtain ⟨arr,g1,g2,g3,g4,g5,g6⟩:=hok.row hl hB
   have hnone:=(hok.priv n _ b c hl hB).2.1
   have hle:Le H (fun x=>if x=b then some (.cells ⟨arr⟩ ty (0,0)) else H x):=by
    intro x o hx
    have:x≠b:=fun e=>by rw [e,hnone] at hx;cases hx
    simp [this,hx]
   refine ⟨fun x=>if x=b then some (.cells ⟨arr⟩ ty (0,0)) else H x,hle,?_,keepC hle fun v hv=>?_⟩
   ·intro x o hx
    by_cases e:x=b
    ·subst e
     simp only [if_true] at hx
     exact .inr ⟨by rw [g1];exact hx,c,rfl⟩
    ·simp [e] at hx;exact .inl hx
   ·simp only [CR,hB] at hv
    rw [hv]
    exact row_data (arr:=arr) (ty:=ty) (if_pos rfl) g3 g4 g5 fun i r hr f' x hx=>by
     obtain ⟨u,k1,k2⟩:=g6 i r hr f' x hx
     exact ⟨u,k1,k2.mono hle⟩
 have hT:∀ (x:T) (v:Value),(∀ k ∈ x.owns n,k=rows.length)->TR H B x v->TR H' B (x.pub n es rows) v:=by
  intro x v hk hx
  cases x with
  | c x=>exact hcell x v hk hx
  | agg cs =>
   obtain ⟨vs,hv,hx⟩:=hx
   refine ⟨vs,hv,zba.iff.2 ⟨by rw [List.length_map];exact hx.length,fun j a' b' ha hb=>?_⟩⟩
   rw [List.getElem?_map] at ha
   cases hj:cs[j]? with
   | none=>rw [hj] at ha;cases ha
   | some y =>
    rw [hj] at ha
    injection ha with ha
    subst ha
    exact hcell y b' (fun k hk2=>hk k (by simp only [T.owns,List.mem_flatMap];exact ⟨y,List.mem_of_getElem? hj,hk2⟩)) ((zba.iff.1 hx).2 j y b' hj hb)
 refine ⟨H', B,hok.df,hok.n,hok.ext,?_,?_,?_,?_,?_,?_,hok.le.trans hle,hok.keep,hok.tab⟩
 ·intro b o hb
  rcases hH' b o hb with h' | ⟨h', _⟩
  ·exact hok.sat b o h'
  ·exact h'
 ·intro t v hv
  simp only [F.pub,Option.map_eq_some_iff] at hv
  obtain ⟨x,hx,rfl⟩:=hv
  have hR:=hok.slot t x hx
  have hk:=h1 t x hx
  cases x with
  | t x=>exact hT x _ hk hR
  | tup xs =>
   obtain ⟨vs,hv,hx2⟩:=hR
   refine ⟨vs,hv,zba.iff.2 ⟨by rw [List.length_map];exact hx2.length,fun j a' b' ha hb=>?_⟩⟩
   rw [List.getElem?_map] at ha
   cases hj:xs[j]? with
   | none=>rw [hj] at ha;cases ha
   | some y =>
    rw [hj] at ha
    injection ha with ha
    subst ha
    exact hT y b' (fun k hk2=>hk k (by simp only [V.owns,List.mem_flatMap];exact ⟨y,List.mem_of_getElem? hj,hk2⟩)) ((zba.iff.1 hx2).2 j y b' hj hb)
 ·intro m l hm
  simp only [F.pub] at hm
  split at hm
  ·cases hm
  ·simp only [Option.map_eq_some_iff] at hm
   obtain ⟨x,hx,rfl⟩:=hm
   have hR:=hok.loc m x hx
   have hk:=h2 m x hx
   cases x with
   | box cs =>
    obtain ⟨b,c,arr,ty', hb,hc,hx2⟩:=hR
    refine ⟨b,c,arr,ty', hb,hc,zba.iff.2 ⟨by rw [List.length_map];exact hx2.length,fun j a' b' ha hb=>?_⟩⟩
    rw [List.getElem?_map] at ha
    cases hj:cs[j]? with
    | none=>rw [hj] at ha;cases ha
    | some y =>
     rw [hj] at ha
     injection ha with ha
     subst ha
     exact hcell y b' (fun k hk2=>hk k (by simp only [L.owns,List.mem_flatMap];exact ⟨y,List.mem_of_getElem? hj,hk2⟩)) ((zba.iff.1 hx2).2 j y b' hj hb)
   | row ty' es' rows'=>exact LR.mono hle rfl (fun _ _=>rfl) (fun _ _ _=>rfl) hR
   | mp x=>exact LR.mono (x:=.mp x) hle rfl (fun _ _=>rfl) (fun _ _ _=>rfl) hR
   | bld ty' c' rest =>
    obtain ⟨b,k,v1,v2,vr,hb,hc,g1,g0,g2,g3⟩:=hR
    refine ⟨b,k,v1,v2,vr,hb,hc,g1,g0,hcell c' v2 (fun k hk2=>hk k (by simp only [L.owns];exact List.mem_append_left _ hk2)) g2,zba.iff.2 ⟨by rw [List.length_map];exact g3.length,fun j a' b' ha hb=>?_⟩⟩
    rw [List.getElem?_map] at ha
    cases hj:rest[j]? with
    | none=>rw [hj] at ha;cases ha
    | some y =>
     rw [hj] at ha
     injection ha with ha
     subst ha
     exact hcell y b' (fun k hk2=>hk k (by simp only [L.owns];exact List.mem_append_right _ (List.mem_flatMap.2 ⟨y,List.mem_of_getElem? hj,hk2⟩))) ((zba.iff.1 g3).2 j y b' hj hb)
 ·intro m l b c hm hb
  simp only [F.pub] at hm
  split at hm
  ·cases hm
  ·rename_i hne
   simp only [Option.map_eq_some_iff] at hm
   obtain ⟨x,hx,rfl⟩:=hm
   obtain ⟨p1,p2,p3⟩:=hok.priv m x b c hx hb
   refine ⟨p1,?_,p3⟩
   cases hq:H' b with
   | none=>rfl
   | some o =>
    rcases hH' b o hq with h' | ⟨_,c', h'⟩
    ·rw [p2] at h';cases h'
    ·have:=hok.inj m n x _ b c c' hx hl hb h'
     subst this
     simp at hne
 ·intro m k l l' b c c' hm hk hb hb'
  simp only [F.pub] at hm hk
  split at hm
  ·cases hm
  ·split at hk
   ·cases hk
   ·simp only [Option.map_eq_some_iff] at hm hk
    obtain ⟨x,hx,_⟩:=hm
    obtain ⟨y,hy,_⟩:=hk
    exact hok.inj m k x y b c c' hx hy hb hb'
 ·intro b hb
  cases hq:H' b with
  | none =>
   rw [<- hok.low b hb]
   cases hr:H b with
   | none=>rfl
   | some o=>rw [hle b o hr] at hq;cases hq
  | some o =>
   rcases hH' b o hq with h' | ⟨_,c', h'⟩
   ·rw [<- hok.low b hb,h']
   ·rcases (hok.priv n _ b c' hl h').2.2 with ⟨m,hm,c9,hc9⟩ | h3
    ·obtain ⟨k1,l9,k2⟩:=hK m hm
     exact absurd (hok.inj m n l9 _ b c9 c' k2 hl (by rw [hok.keep m hm];exact hc9) h') k1
    ·exact absurd hb (by simpa using h3)
section
variable {w0:World} {H0:Im} {B0:Bl} {K:List Nat} {N:Nat} {sl:List (Nat × V)} {lc:List (Nat × L)} {a:Act} {w:World}
def keepK (K:List Nat) (n:Nat) (lc:List (Nat × L)):Bool:=K.all fun k=>!Nat.beq k n && (lc.lookup k).isSome
theorem pubSK (n es:Nat) (ty:TypeId) (rows:List (List D)) (sl':List (Nat × V)) (lc':List (Nat × L)) (h:St ⟨w0,H0,B0,K,N⟩ (F.of sl lc) a w) (hl:lc.lookup n=some (.row ty es rows)) (hk:keepK K n lc=true)
  (h1:zcj rows.length (sl.flatMap (·.2.owns n))) (h2:zcj rows.length (lc.flatMap (·.2.owns n))) (h3:leS ((F.of sl lc).pub n es rows) sl'=sl'.map fun p=>some p.2:=by kernel_rfl) (h4:leN ((F.of sl lc).pub n es rows) lc'=lc'.map fun p=>some p.2:=by kernel_rfl) :
  St ⟨w0,H0,B0,K,N⟩ (F.of sl' lc') a w :=
 (h.pubK n es ty rows hl (fun k hk2=>by
  have:=List.all_eq_true.1 hk k hk2
  simp only [Bool.and_eq_true,Bool.not_eq_true'] at this
  refine And.intro (fun e=>?_) ?_
  ·rw [e,Nat.beq_refl] at this
   exact absurd this.1 (by decide)
  ·exact Option.isSome_iff_exists.1 this.2) (fun t v hv k hk=>zcj.mem h1 k (List.mem_flatMap.2 ⟨(t,v),ofS_mem hv,hk⟩)) (fun m l hm k hk=>zcj.mem h2 k (List.mem_flatMap.2 ⟨(m,l),ofL_mem hm,hk⟩))).weaken (zg5 h3 h4)
end
section
variable {P:Program}
theorem Op.makeO {d n L es bs:Nat} {x y:Operand} {rs rs':List (Nat × V)} {zs:List D} {xt el ty:TypeId} {pos af gd} (hT:ElT P xt el es bs) (hz0:Zero P el (zs.map C.d)) (hzl:zs.length=es) (hx:OV x (vi .i64 (L:Int)) rs) (hy:OV y (vi .i64 (L:Int)) rs') (hb:L*bs<=140737488355328) :
  zbg P ⟨some d,.makeSlice xt x y,ty,pos,af,gd⟩ { rs:=rs++rs', ws:=[(d,some (.t (.c (.own n L))))],wl:=[(n,some (.row el es (List.replicate L zs)))],nw:=[n] }:=by
 refine zbg.news d n _ _ rfl rfl rfl (by simp) fun e f H B a w hok hr hn=>?_
 have h1:a.eval x = .int .i64 (L:Int):=(hx.eval hok fun p hp=>hr.1 p (List.mem_append_left _ hp)).rawI
 have h2:a.eval y = .int .i64 (L:Int):=(hy.eval hok fun p hp=>hr.1 p (List.mem_append_right _ hp)).rawI
 obtain ⟨i,z,hi,hz,hsz,hby,hzs⟩:=hT.ex
 obtain ⟨z', l,g1,g2,g3⟩:=hz0.ex
 have hzz:z'=z:=by
  rw [hi] at g1
  have g1':i.zero=some z':=g1
  rw [hz] at g1';injection g1' with g1';exact g1'.symm
 subst hzz
 have hL:L<=140737488355328:=by
  have:L*1<=L*bs:=Nat.mul_le_mul_left _ hT.bpos
  omega
 have hbb:(bs:Int)*(L:Int)<=281474976710656:=by
  have:(bs:Int)*(L:Int)=((L*bs:Nat):Int):=by rw [Int.natCast_mul,Int.mul_comm]
  omega
 have hrun:=run_make (P:=P) w xt el i z' hT.hu hi hz .i64 .i64 (L:Int) (L:Int) (by omega) (Int.le_refl _) (by rw [hby];exact hbb) (by omega)
 rw [Int.toNat_natCast,hsz] at hrun
 refine ⟨.slice (some ⟨w.heap.size,0,none⟩) L L,L,.cells (madeCells z'.cells (L*es)) el,?_,?_,?_⟩
 ·generalize a.eval=ρ at h1 h2 ⊢
  simp only [execOp,h1,h2,Sem.run_bind,hrun,Result.andThen_ok,Sem.run_pure]
 ·simp only [LR,if_true]
  have hall:∀ r ∈ List.replicate L zs,r.length=es:=fun r hr2=>by rw [(List.mem_replicate.1 hr2).2];exact hzl
  have hsize:(madeCells z'.cells (L*es)).toList.length=L*es:=by simp [madeCells]
  refine ⟨(madeCells z'.cells (L*es)).toList,heap_alloc_new w _,hsize,by rw [List.length_replicate];exact Nat.le_refl _,by simp only [maxLen];omega,hall,?_⟩
  refine (zel hsize (by rw [List.length_replicate];exact Nat.le_refl _) hall).2 fun k r hri f' x' hx2=>?_
  obtain ⟨hk,hrk⟩:=List.getElem?_eq_some_iff.1 hri
  rw [List.length_replicate] at hk
  rw [List.getElem_replicate] at hrk
  subst hrk
  have hf:=(List.getElem?_eq_some_iff.1 hx2).1
  rw [hzl] at hf
  obtain ⟨u,hu1,hu2⟩:=(g3 H B).get f' (by rw [List.length_map,hzl];exact hf)
  have hx3:(zs.map C.d)[f']'(by rw [List.length_map,hzl];exact hf)=C.d x':=by
   rw [List.getElem_map];congr 1
   rw [List.getElem?_eq_getElem (by omega)] at hx2
   injection hx2
  rw [hx3] at hu2
  refine ⟨u,?_,hu2⟩
  have hlt:k*es+f'<L*es:=by
   have:(k+1)*es<=L*es:=Nat.mul_le_mul_right _ hk
   rw [Nat.add_mul] at this;omega
  have hmod:(k*es+f') % z'.cells.size=f':=by rw [hzs,Nat.mul_comm,Nat.mul_add_mod];exact Nat.mod_eq_of_lt hf
  simp only [madeCells,Array.toList_map,Array.toList_range,List.getElem?_map,List.getElem?_range hlt,Option.map_some,hmod]
  rw [g2]
  simp [hu1]
 ·simp [VR,TR,CR]
theorem Op.makeO' {d n L es bs:Nat} {x y:Operand} {rs rs':List (Nat × V)} {zs:List D} {rows:List (List D)} {xt el ty:TypeId} {pos af gd} (hT:ElT P xt el es bs) (hz0:Zero P el (zs.map C.d)) (hzl:zs.length=es) (hx:OV x (vi .i64 (L:Int)) rs) (hy:OV y (vi .i64 (L:Int)) rs') (hb:L*bs<=140737488355328) (hr:List.replicate L zs=rows) :
  zbg P ⟨some d,.makeSlice xt x y,ty,pos,af,gd⟩ { rs:=rs++rs', ws:=[(d,some (.t (.c (.own n L))))],wl:=[(n,some (.row el es rows))],nw:=[n] }:=by
 subst hr
 exact Op.makeO hT hz0 hzl hx hy hb
end
theorem ty_16:ElZ Tryz.prog 22 9 1:=ElZ.mk' Tryz.underlying22 _ _ rfl rfl (by kernel_rfl) (by kernel_rfl) (by kernel_rfl) (by decide)
theorem mapSnoc2 {α β:Type} {f:α->β} {xs:List α} {j:Nat} {x:α} (h:xs[j]?=some x):(xs.take j).map f++[f x]=(xs.take (j+1)).map f:=by rw [List.take_add_one,h,List.map_append];rfl
theorem ob1_5:za6 Tryz.prog 81:=za6.mk' (by kernel_rfl)
theorem ob1_6:za6 Tryz.prog 94:=za6.mk' (by kernel_rfl)
theorem ob1_8:za6 Tryz.prog 57:=za6.mk' (by kernel_rfl)
theorem ob1_9:za6 Tryz.prog 58:=za6.mk' (by kernel_rfl)
def zdd (p:zav):Int:=(p.locs.length:Int)
def wdV (s:zan) (v:Nat):Int:=(wdB (zat s v)).1
def wdK (s:zan) (v:Nat):Bool:=(wdB (zat s v)).2
def wdl (s:zan) (v:Nat):List Int:=s.procs.map zdd++(List.range v).map (wdV s)
def wdk (s:zan):Bool:=zer s.vars.length (wdK s)
def wdsL (s:zan):List Int:=if wdk s=true then wdl s s.vars.length else []
theorem wdl_at (s:zan) (v:Nat):wdl s v++[wdV s v]=wdl s (v+1):=by unfold wdl;rw [List.range_succ,List.map_append,List.append_assoc];rfl
theorem zff (s:zan) (v:Nat):(wdl s v).length=s.procs.length+v:=by unfold wdl;rw [List.length_append,List.length_map,List.length_map,List.length_range]
theorem wdk_no {s:zan} {v:Nat} (h:s.bounds.length<=v):wdK s v=false:=by unfold wdK;rw [bnd_no19 h];rfl
def prd (ns:List Int):Int:=ns.foldr (·*·) 1
theorem ze4 (n:Int) (ns:List Int):prd (n :: ns)=n*prd ns:=rfl
theorem zhh (xs ys:List Int):prd (xs++ys)=prd xs*prd ys:=by
 induction xs with
 | nil=>rw [List.nil_append];show prd ys=1*prd ys;rw [Int.one_mul]
 | cons x xs ih=>rw [List.cons_append,ze4,ze4,ih,Int.mul_assoc]
theorem zfj {ns:List Int} (h:∀ n ∈ ns,1<=n):1<=prd ns:=by
 induction ns with
 | nil=>exact Int.le_refl _
 | cons x xs ih =>
  rw [ze4]
  have h1:=h x (by simp)
  have h2:=ih fun n hn=>h n (by simp [hn])
  have:=Int.mul_le_mul h1 h2 (by decide) (by omega)
  omega
theorem zfz {ns:List Int} {j:Nat} {x:Int} (h:ns[j]?=some x):prd (ns.take (j+1))=prd (ns.take j)*x:=by
 rw [List.take_add_one,h,zhh];show _*(x*1)=_;rw [Int.mul_one]
theorem prd_ge {ns:List Int} (h:∀ n ∈ ns,1<=n) (j:Nat):prd (ns.take j)<=prd ns:=by
 have h1:prd ns=prd (ns.take j)*prd (ns.drop j):=by rw [<- zhh,List.take_append_drop]
 have h2:=zfj fun n hn=>h n (List.mem_of_mem_take (i:=j) hn)
 have h3:=zfj fun n hn=>h n (List.mem_of_mem_drop (i:=j) hn)
 have:=Int.mul_le_mul_of_nonneg_left h3 (show 0<=prd (ns.take j) by omega)
 rw [Int.mul_one] at this
 rw [h1];exact this
def prdB (ns:List Int):Int × Bool:=if (0:Int) ∈ ns then (0,true) else if prd ns<=1048576 then (prd ns,true) else (0,false)
def hasI (v:Int) (xs:List Int):Bool:=decide (idxI v xs 0>=0)
theorem idxI_mem {v:Int}:∀ (xs:List Int) (n:Nat),0<=idxI v xs n ↔ v ∈ xs
 | [],n=>by unfold idxI;simp
 | x :: xs,n=>by
  unfold idxI
  split
  ·rename_i h;subst h;simp
  ·rename_i h
   rw [idxI_mem xs (n+1),List.mem_cons]
   exact ⟨.inr,fun h2=>h2.resolve_left h⟩
theorem hasI_iff {v:Int} {xs:List Int}:hasI v xs=true ↔ v ∈ xs:=by unfold hasI;rw [decide_eq_true_eq];exact idxI_mem xs 0
theorem hasI_not {v:Int} {xs:List Int} (h:hasI v xs=false):v ∉ xs:=fun hm=>by rw [hasI_iff.2 hm] at h;cases h
def zbw (s:zan):Int × Bool:=if wdk s=true then prdB (wdl s s.vars.length) else (0,false)
def zc2 (s:zan):Prop:=∀ p ∈ s.procs,p.locs.length<=8796093021952
theorem wdl_bd {s:zan} (hp:zc2 s) (v:Nat):∀ n ∈ wdl s v,0<=n/\n<=8796093021952:=fun n hn=>by
 unfold wdl at hn
 rcases List.mem_append.1 hn with hn | hn
 ·obtain ⟨p,hp1,rfl⟩:=List.mem_map.1 hn
  have:=hp p hp1
  unfold zdd;omega
 ·obtain ⟨q,_,rfl⟩:=List.mem_map.1 hn
  have:=wdB_le (zat s q)
  unfold wdV;omega
theorem wdsL_bd {s:zan} (hp:zc2 s):∀ n ∈ wdsL s,0<=n/\n<=8796093021952:=fun n hn=>by
 unfold wdsL at hn
 split at hn
 ·exact wdl_bd hp _ n hn
 ·cases hn
theorem zet (s:zan):(wdsL s).length<=s.procs.length+s.vars.length:=by unfold wdsL;split;rw [zff];exact Nat.le_refl _;exact Nat.zero_le _
theorem mul_in {u x:Int} (hu:1<=u) (hx:1<=x) (h:x<=1048576 / u):1<=u*x/\u*x<=1048576:=by
 have h1:=Int.mul_le_mul hu hx (by decide) (by omega)
 have h2:=Int.mul_le_mul_of_nonneg_left h (show 0<=u by omega)
 have h3:=Int.mul_ediv_self_le (x:=1048576) (k:=u) (by omega)
 omega
theorem mul_out {u x:Int} (hu:1<=u) (h:1048576 / u<x):1048576<u*x:=by
 have h1:=Int.lt_mul_ediv_self_add (x:=1048576) (k:=u) (by omega)
 have h2:=Int.mul_le_mul_of_nonneg_left (show 1048576 / u+1<=x by omega) (show 0<=u by omega)
 rw [Int.mul_add,Int.mul_one] at h2
 omega
theorem OContains (xs:List Int) (v:Int) (hl:xs.length<=1000000):Fn Tryz.prog 94 [] [(vIs xs),vI v] (vb (hasI v xs)) []:=by
 refine Fn.body Tryz.func94 rfl 9 rfl fun w H B a h=>Jq 0 [] [(0,(vIs xs)),(1,vI v),(4,vb false)] [] h fun a w h=>Jq 0 [(2,.call (SIndex xs v hl) tq_7)] [(4,vb (decide (idxI v xs 0>=0)))] [] h fun a w h=>qV (rT (.c (cB (decide (idxI v xs 0>=0)))) h rfl ?_)
 rfl
theorem Owidths (s:zan) {L:Nat} (hs:zb1 L s) (hL:L<=1000) (_hp:zc2 s):Fn Tryz.prog 57 [] [vG (zai s)] (.tup [.c (cIs (wdsL s)),.c (cB (wdk s))]) []:=by
 have lbs:=hs.bnds;have lvs:=hs.vars;have lps:=hs.procs;have lwd:=zet s;refine Fn.body Tryz.func57 rfl 52 rfl fun w H B a h=>Jq 2 [] [(1,vp 2 0),(2,vW za4),(3,vb false)] [(2,.box (zai s))] h fun a w h=>Je 3 [] [] [(4,vW za4)] h fun a w h=>qW (Je 3 [(2,.len (za3 3 zav.d s.procs))] [] [(11,vS 3 (s.procs.map zav.d)),(12,vN s.procs.length),(13,vI 0)] h fun a w h=>qZ ?_)
 replace h:=ze5 4 0 3 1 3 (vW za4) [(1,vp 2 0),(2,vW za4),(3,vb false),(4,vO 3 0),(11,vS 3 (s.procs.map zav.d)),(12,vN s.procs.length),(13,vI 0)] [(2,.box (zai s)),(3,.row 3 1 ([].map zad))] h (by kernel_rfl) rfl rfl
 refine zb5 (ι:=(Nat)) (fun j=>j<=s.procs.length)
   (fun j=>[(1,vp 2 0),(2,vW za4),(3,vb false),(4,vO 3 ((s.procs.take j).map zdd).length),(11,vS 3 (s.procs.map zav.d)),(12,vN s.procs.length),(13,vN j)])
   (fun j=>[(2,.box (zai s)),(3,.row 3 1 (((s.procs.take j).map zdd).map zad))])
   (fun j=>s.procs.length - j) 0 ?_ h (by kernel_rfl) (by kernel_rfl) ?_
 ·exact Nat.zero_le _
 clear h;rintro j a w hI h;have lmj:((s.procs.take j).map zdd).length<=j:=by rw [List.length_map,List.length_take];omega
 refine Je 4 [] [] [(14,vb (decide ((j:Int)<(s.procs.length:Int))))] h fun a w h=>qW (zap ((j:Int)<(s.procs.length:Int)) h (fun hc1 hc1'=>?_) (fun hc2 hc2'=>?_))
 ·refine qU (za0 (qW (qZ ?_)));obtain ⟨x1,hx1⟩:=gl s.procs j;refine Jd 4 [(0,.g (xD 15 11 kf_5 (zab hx1 (f:=zav.d)) (OV.tmp 13 _)))] [14] [(6,vp 4 0)] [(2,.box (zai s)),(3,.row 3 1 (((s.procs.take j).map zdd).map zad)),(4,.box [.d (.raw (.string x1.name)),.d (.sl 1 (x1.locs.map zc6)),.d x1.cmds])] h fun a w h=>Jm 5 [(3,.len (za3 1 zc6 x1.locs)),(4,.g (bD 21 ([(x1.locs.length:Int)].map zad) [(20,vN x1.locs.length)] tb_0 (.cons (i:=0) (OV.tmp 20 _) (.nil)) (by kernel_rfl) (by simp [zad]))),(5,.g (aD 22 17 21 3 5 ((s.procs.take j).map zdd) [(x1.locs.length:Int)] zad tb_2 (by simp [zad])))] [6] [(4,vO 5 (((s.procs.take j).map zdd)++[(x1.locs.length:Int)]).length)] [(2,.box (zai s)),(5,.row 3 1 ((((s.procs.take j).map zdd)++[(x1.locs.length:Int)]).map zad))] h fun a w h=>zac (za0 (Jf 6 [(0,.j1 j)] [] [(13,vI ((j:Int)+1))] h fun a w h=>za0 ?_));rw [show ((((s.procs.take j).map zdd)++[(x1.locs.length:Int)]):List Int)=((s.procs.take (j+1)).map zdd) from (mapSnoc2 hx1)] at h;replace h:=zd9 5 3 [(1,vp 2 0),(2,vW za4),(3,vb false),(4,vO 3 ((s.procs.take (j+1)).map zdd).length),(11,vS 3 (s.procs.map zav.d)),(12,vN s.procs.length),(13,vI ((j:Int)+1))] [(2,.box (zai s)),(3,.row 3 1 (((s.procs.take (j+1)).map zdd).map zad))] h;refine zag (x:=j) (y:=j+1) h ?_ ?_
  ·have:=zak hx1;show j+1<=s.procs.length;omega
  show s.procs.length - (j+1)<s.procs.length - j;have:=zak hx1;omega
 refine wp_exit (zaa (zaa (za5 (za0 (qW (Je 6 [(2,.len (za3 1 zc6 s.vars))] [11,12,13,14] [(26,vN s.vars.length),(27,vI 0)] h fun a w h=>qZ ?_))))));rw [show (((s.procs.take j).map zdd):List Int)=(wdl s 0) from (by unfold wdl;rw [List.take_of_length_le (by have:=dF hc2;omega)];simp)] at h
 refine zb5 (ι:=(Nat)) (fun v=>v<=s.vars.length/\zer v (wdK s)=true)
   (fun v=>[(1,vp 2 0),(4,vO 3 (wdl s v).length),(26,vN s.vars.length),(27,vN v)])
   (fun v=>[(2,.box (zai s)),(3,.row 3 1 ((wdl s v).map zad))])
   (fun v=>s.vars.length - v) 0 ?_ h (by kernel_rfl) (by kernel_rfl) ?_
 ·exact ⟨Nat.zero_le _,rfl⟩
 clear h;rintro v a w hI h;obtain ⟨hI1,hI2⟩:=hI;have lwl:=zff s v;refine Je 6 [] [] [(28,vb (decide ((v:Int)<(s.vars.length:Int))))] h fun a w h=>qW (zap ((v:Int)<(s.vars.length:Int)) h (fun hc3 hc3'=>?_) (fun hc8 hc8'=>?_))
 ·refine qU (za0 (qW (qZ (Je 6 [] [28] [(7,vN v)] h fun a w h=>qW (Je 6 [(3,.len (za3 5 zah.d s.bounds))] [] [(34,vb (decide ((v:Int)>=(s.bounds.length:Int))))] h fun a w h=>zap ((v:Int)>=(s.bounds.length:Int)) h (fun hc4 hc4'=>?_) (fun hc5 hc5'=>?_))))))
  ·refine Je 6 [] [34] [(2,vW za4),(3,vb false)] h fun a w h=>qV (za2 (za7 (za2 (za2 (za7 (za2 ?_))))));replace h:=nilDSs 2 0 1 (vW za4) [(1,vp 2 0),(2,(vIs [])),(3,vb false),(4,vO 3 (wdl s v).length),(7,vN v),(26,vN s.vars.length),(27,vN v)] [(2,.box (zai s)),(3,.row 3 1 ((wdl s v).map zad))] h rfl rfl;refine zdb [.c (cIs []),.c (cB false)] h Exit.ret (.inl rfl)  rfl ⟨RV.tmp _ _ rfl,RV.tmp _ _ rfl,trivial⟩ ?_;have hk9:wdk s=false:=zbf (j:=v) (by omega) (by exact wdk_no (by have:=dT hc4;omega));rw [show wdsL s=[] from if_neg (by rw [hk9];exact Bool.noConfusion),hk9];rfl
  refine qU (za0 ?_);obtain ⟨x2,hx2⟩:=gl s.bounds v;have gx2:=hs.bnd x2 (lM hx2);refine Je 6 [(3,.g (xD 39 37 kf_0 (zab hx2 (f:=zah.d)) (OV.tmp 38 _))),(5,.call (Owidth x2 gx2 hL) ob1_5)] [7,34] [(8,vI (wdB x2).1),(9,vb (wdB x2).2)] h fun a w h=>qW (Je 6 [] [9] [(45,vb (!(wdB x2).2))] h fun a w h=>cS (!(wdB x2).2) h (fun hc6=>?_) (fun hc7=>?_))
  ·have hc6':=hc6;(try simp at hc6');refine Je 6 [] [45] [(2,vW za4),(3,vb false)] h fun a w h=>qV (za2 (za7 (za2 (za2 (za7 (za2 ?_))))));replace h:=nilDSs 2 0 1 (vW za4) [(1,vp 2 0),(2,(vIs [])),(3,vb false),(4,vO 3 (wdl s v).length),(8,vI (wdB x2).1),(26,vN s.vars.length),(27,vN v)] [(2,.box (zai s)),(3,.row 3 1 ((wdl s v).map zad))] h rfl rfl;refine zdb [.c (cIs []),.c (cB false)] h Exit.ret (.inl rfl)  rfl ⟨RV.tmp _ _ rfl,RV.tmp _ _ rfl,trivial⟩ ?_;have hk9:wdk s=false:=zbf (j:=v) (by omega) (by unfold wdK;rw [zci hx2];exact (show ((wdB x2).2)=false from by simpa using hc6));rw [show wdsL s=[] from if_neg (by rw [hk9];exact Bool.noConfusion),hk9];rfl
  have hc7':=hc7;(try simp at hc7');refine qU (za0 (Jm 6 [(2,.g (bD 48 ([(wdB x2).1].map zad) [(47,vI (wdB x2).1)] tb_0 (.cons (i:=0) (OV.tmp 47 _) (.nil)) (by kernel_rfl) (by simp [zad]))),(3,.g (aD 49 46 48 3 6 (wdl s v) [(wdB x2).1] zad tb_2 (by simp [zad])))] [8,45] [(4,vO 6 ((wdl s v)++[(wdB x2).1]).length)] [(2,.box (zai s)),(6,.row 3 1 (((wdl s v)++[(wdB x2).1]).map zad))] h fun a w h=>zac (za0 (Jf 7 [(0,.add .i64 (m:=(v:Int)) (n:=1) i6)] [] [(27,vI ((v:Int)+1))] h fun a w h=>za0 ?_))));rw [show (((wdl s v)++[(wdB x2).1]):List Int)=(wdl s (v+1)) from (by rw [<- wdl_at];unfold wdV;rw [zci hx2])] at h;replace h:=zd9 6 3 [(1,vp 2 0),(4,vO 3 (wdl s (v+1)).length),(26,vN s.vars.length),(27,vI ((v:Int)+1))] [(2,.box (zai s)),(3,.row 3 1 ((wdl s (v+1)).map zad))] h;refine zag (x:=v) (y:=v+1) h ?_ ?_
  ·exact ⟨by omega,zbe hI2 (by unfold wdK;rw [zci hx2];exact (show ((wdB x2).2)=true from by simpa using hc7))⟩
  show s.vars.length - (v+1)<s.vars.length - v;omega
 refine wp_exit (zaa (zaa (za5 (za0 (Jq 7 [] [(2,vO 3 (wdl s v).length),(3,vb true)] [(3,.row 3 1 ((wdl s v).map zad))] h fun a w h=>qV ?_)))));replace h:=pubS 3 1 3 ((wdl s v).map zad) [(2,(vIs (wdl s v))),(3,vb true)] [] h rfl (show zcj _ [(wdl s v).length] from ⟨by first | exact (List.length_map _).symm | (simp;done) | (simp;omega),trivial⟩) trivial;refine zdb [.c (cIs (wdl s v)),.c (cB true)] h Exit.ret (.inl rfl)  rfl ⟨RV.tmp _ _ rfl,RV.tmp _ _ rfl,trivial⟩ ?_;have hk9:wdk s=true:=by unfold wdk;rw [show s.vars.length=v by have:=dF hc8;omega];exact hI2
 have hl9:wdsL s=wdl s v:=by unfold wdsL;rw [if_pos hk9,show s.vars.length=v by have:=dF hc8;omega]
 rw [hl9,hk9];rfl
theorem Oproduct (ns:List Int) (hn:∀ n ∈ ns,0<=n/\n<=8796093021952) (hl:ns.length<=1000000):Fn Tryz.prog 58 [] [(vIs ns)] (.tup [.c (cI (prdB ns).1),.c (cB (prdB ns).2)]) []:=by
 refine Fn.body Tryz.func58 rfl 24 rfl fun w H B a h=>Jq 0 [] [(0,(vIs ns)),(2,vI 0),(3,vb false)] [] h fun a w h=>qW (Jd 0 [(1,.call (OContains ns 0 (by omega)) ob1_6)] [] [(8,vb (hasI 0 ns))] [] h fun a w h=>cS (hasI 0 ns) h (fun hc1=>?_) (fun hc2=>?_))
 ·refine Jd 0 [] [8] [(3,vb true)] [] h fun a w h=>qV (za2 (zdb [.c (cI 0),.c (cB true)] h Exit.ret (.inl rfl)  rfl ⟨RV.tmp _ _ rfl,RV.tmp _ _ rfl,trivial⟩ ?_));rw [show prdB ns=(0,true) from if_pos (hasI_iff.1 hc1)];rfl
 refine qU (za0 (Jd 0 [] [8] [(4,vI 1)] [] h fun a w h=>qW (Jd 0 [(1,.len (za3 1 zad ns))] [0] [(9,(vIs ns)),(10,vN ns.length),(11,vI 0)] [] h fun a w h=>qZ ?_)));have h09:=hasI_not hc2
 have hpo:∀ n ∈ ns,1<=n:=fun n hm=>by
  have h1:=(hn n hm).1;have h2:n≠0:=fun e=>h09 (e ▸ hm)
  omega
 refine zb5 (ι:=(Nat) × (Int)) (fun (j,u)=>j<=ns.length/\u=prd (ns.take j)/\1<=u/\u<=1048576)
   (fun (j,u)=>[(4,vI u),(9,(vIs ns)),(10,vN ns.length),(11,vN j)])
   (fun (j,u)=>[])
   (fun (j,u)=>ns.length - j) (0,1) ?_ h (by kernel_rfl) (by kernel_rfl) ?_
 ·exact ⟨Nat.zero_le _,rfl,by decide,by decide⟩
 clear h;rintro ⟨j,u⟩ a w hI h;dsimp only at h;obtain ⟨hI1,hI2,hI3,hI4⟩:=hI;refine Jd 0 [] [] [(12,vb (decide ((j:Int)<(ns.length:Int))))] [] h fun a w h=>qW (zap ((j:Int)<(ns.length:Int)) h (fun hc3 hc3'=>?_) (fun hc6 hc6'=>?_))
 ·refine qU (za0 (qW (qZ ?_)));obtain ⟨x2,hx2⟩:=gl ns j;have gx2:=hn x2 (lM hx2);have px2:=hpo x2 (lM hx2);refine Jd 0 [(0,.g (xD 13 9 zdo (zab hx2 (f:=zad)) (OV.tmp 11 _)))] [12] [(6,vI x2)] [] h fun a w h=>qW ?_;have hq8:0<=1048576 / u/\1048576 / u<=1048576:=⟨Int.ediv_nonneg (by decide) (by omega),Int.ediv_le_self _ (by decide)⟩;refine Jd 0 [(2,.g (Op.quo (d:=17) (xt:=3) (yt:=3) (k:=.i64) (m:=1048576) (n:=u) (r:=(1048576 / u)) (OV.const (.int .i64 1048576) rfl) (OV.tmp 16 _) (by omega) (Int.tdiv_eq_ediv_of_nonneg (show (0:Int)<=1048576 by decide)) i6))] [] [(18,vb (decide (x2>(1048576 / u))))] [] h fun a w h=>zap (x2>(1048576 / u)) h (fun hc4 hc4'=>?_) (fun hc5 hc5'=>?_)
  ·have hq9:1048576<u*x2:=mul_out hI3 (by have:=dT hc4;omega);refine Jd 0 [] [18] [(2,vI 0),(3,vb false)] [] h fun a w h=>qV (za2 (za7 (za2 (za2 (za7 (za2 (zdb [.c (cI 0),.c (cB false)] h Exit.ret (.inl rfl)  rfl ⟨RV.tmp _ _ rfl,RV.tmp _ _ rfl,trivial⟩ ?_)))))));rw [show prdB ns=(0,false) from (if_neg h09).trans (if_neg (by have:=prd_ge hpo (j+1);rw [zfz hx2,<- hI2] at this;omega))];rfl
  have hq9:x2<=1048576 / u:=by have:=dF hc5;omega
  have hu9:1<=u*x2/\u*x2<=1048576:=mul_in hI3 px2 hq9;refine qU (za0 (Jm 0 [(2,.mul .i64 (m:=u) (n:=x2) i6)] [6,18] [(4,vI (u*x2))] [] h fun a w h=>zac (za0 (Jm 0 [(0,.j1 j)] [] [(11,vI ((j:Int)+1))] [] h fun a w h=>za0 (zag (x:=(j,u)) (y:=(j+1,u*x2)) h ?_ ?_)))))
  ·have:=zak hx2;exact ⟨by omega,by rw [zfz hx2,<- hI2],hu9.1,hu9.2⟩
  show ns.length - (j+1)<ns.length - j;have:=zak hx2;omega
 refine wp_exit (zaa (zaa (za5 (za0 (Jq 0 [] [(2,vI u),(3,vb true)] [] h fun a w h=>qV (zdb [.c (cI u),.c (cB true)] h Exit.ret (.inl rfl)  rfl ⟨RV.tmp _ _ rfl,RV.tmp _ _ rfl,trivial⟩ ?_))))));have hj9:prd ns=u:=by rw [hI2,List.take_of_length_le (by have:=dF hc6;omega)]
 rw [show prdB ns=(prd ns,true) from (if_neg h09).trans (if_pos (by omega)),hj9];rfl
theorem OCount (s:zan) {L:Nat} (hs:zb1 L s) (hL:L<=1000) (hp:zc2 s):Fn Tryz.prog 25 [] [vG (zai s)] (.tup [.c (cI (zbw s).1),.c (cB (zbw s).2)]) []:=by
 have lbs:=hs.bnds;have lvs:=hs.vars;have lps:=hs.procs;have lwd:=zet s;refine Fn.body Tryz.func25 rfl 17 rfl fun w H B a h=>Jq 0 [] [(1,vp 0 0),(2,vI 0),(3,vb false)] [(0,.box (zai s))] h fun a w h=>Jd 1 [(1,.call (Owidths s hs hL hp) ob1_8)] [1] [(4,(vIs (wdsL s))),(5,vb (wdk s))] [] h fun a w h=>qW (Jd 1 [] [5] [(12,vb (!(wdk s)))] [] h fun a w h=>cS (!(wdk s)) h (fun hc1=>?_) (fun hc2=>?_))
 ·have hc1':=hc1;(try simp at hc1');refine Jd 1 [] [12] [] [] h fun a w h=>qV (za2 (zdb [.c (cI 0),.c (cB false)] h Exit.ret (.inl rfl)  rfl ⟨RV.tmp _ _ rfl,RV.tmp _ _ rfl,trivial⟩ ?_));rw [show zbw s=(0,false) from if_neg (by rw [(show (wdk s)=false from by simpa using hc1)];exact Bool.noConfusion)];rfl
 have hc2':=hc2;(try simp at hc2');refine qU (za0 (Jq 1 [(1,.call (Oproduct (wdsL s) (wdsL_bd hp) (by omega)) ob1_9)] [(2,vI (prdB (wdsL s)).1),(3,vb (prdB (wdsL s)).2)] [] h fun a w h=>qV (zdb [.c (cI (prdB (wdsL s)).1),.c (cB (prdB (wdsL s)).2)] h Exit.ret (.inl rfl)  rfl ⟨RV.tmp _ _ rfl,RV.tmp _ _ rfl,trivial⟩ ?_)));show _=_;unfold zbw;rw [if_pos (show (wdk s)=true from by simpa using hc2)];unfold wdsL;rw [if_pos (show (wdk s)=true from by simpa using hc2)];rfl
theorem oc1_0:za6 Tryz.prog 37:=za6.mk' (by kernel_rfl)
theorem wdS_of {s:zan} {v:Nat} (h:wdK s v=true):wdS s v=wdV s v:=if_pos h
theorem wdS_neg {s:zan} {v:Nat} (h:wdS s v<0):wdK s v=false:=by
 cases hk:wdK s v with
 | false=>rfl
 | true=>rw [wdS_of hk] at h;have:=(wdB_le (zat s v)).1;unfold wdV at h;omega
theorem wdS_pos {s:zan} {v:Nat} (h:¬ wdS s v<0):wdK s v=true:=by
 cases hk:wdK s v with
 | true=>rfl
 | false=>exfalso;apply h;unfold wdS;rw [if_neg (by unfold wdK at hk;rw [hk];exact Bool.noConfusion)];decide
def noneV (s:zan) (v:Nat):Bool:=decide ((0:Int) ∈ (List.range v).map (wdV s))
def zhi (s:zan) (j:Nat):Bool:=noneV s s.vars.length || decide ((0:Int) ∈ (s.procs.take j).map zdd)
theorem noneV_at {s:zan} {v:Nat} (h:wdK s v=true):(noneV s v || (wdS s v == 0))=noneV s (v+1):=by
 unfold noneV
 rw [List.range_succ,List.map_append,wdS_of h]
 cases h1:wdV s v == 0 with
 | true=>rw [Bool.or_true];exact (decide_eq_true (List.mem_append_right _ (by simp at h1;simp [h1]))).symm
 | false =>
  rw [Bool.or_false]
  refine decide_eq_decide.2 ⟨fun h=>List.mem_append_left _ h,fun h=>(List.mem_append.1 h).resolve_right fun h2=>?_⟩
  simp at h1 h2;exact h1 h2.symm
theorem noneP_at {s:zan} {j:Nat} {p:zav} (h:s.procs[j]?=some p):(zhi s j || ((p.locs.length:Int) == 0))=zhi s (j+1):=by
 unfold zhi
 rw [List.take_add_one,h,List.map_append,Bool.or_assoc]
 congr 1
 cases h1:(p.locs.length:Int) == 0 with
 | true=>rw [Bool.or_true];exact (decide_eq_true (List.mem_append_right _ (by simp at h1;simp [zdd,h1]))).symm
 | false =>
  rw [Bool.or_false]
  refine decide_eq_decide.2 ⟨fun h=>List.mem_append_left _ h,fun h=>(List.mem_append.1 h).resolve_right fun h2=>?_⟩
  have h3:(0:Int)=zdd p:=by simpa using h2
  unfold zdd at h3
  exact beq_eq_false_iff_ne.1 h1 h3.symm
theorem noneP_all (s:zan):zhi s s.procs.length=decide ((0:Int) ∈ wdl s s.vars.length):=by
 unfold zhi noneV wdl
 rw [List.take_length]
 cases h1:decide ((0:Int) ∈ (List.range s.vars.length).map (wdV s)) with
 | true=>rw [Bool.true_or];exact (decide_eq_true (List.mem_append_right _ (of_decide_eq_true h1))).symm
 | false =>
  rw [Bool.false_or]
  exact decide_eq_decide.2 ⟨fun h=>List.mem_append_left _ h,fun h=>(List.mem_append.1 h).resolve_right (of_decide_eq_false h1)⟩
theorem pos19 {s:zan} (hp:zc2 s) (h:zhi s s.procs.length=false):∀ n ∈ wdl s s.vars.length,1<=n:=fun n hn=>by
 rw [noneP_all] at h
 have h1:=of_decide_eq_false h
 have h2:=(wdl_bd hp _ n hn).1
 have h3:n≠0:=fun e=>h1 (e ▸ hn)
 omega
theorem prd_map {β:Type} {F:β->Int} {xs:List β} {j:Nat} {x:β} (h:xs[j]?=some x):prd ((xs.take (j+1)).map F)=prd ((xs.take j).map F)*F x:=by
 rw [List.take_add_one,h,List.map_append,zhh];show _*(F x*1)=_;rw [Int.mul_one]
theorem wdl_le {s:zan} (h:∀ n ∈ wdl s s.vars.length,1<=n) {v:Nat} (hv:v<=s.vars.length):prd (wdl s v)<=prd (wdl s s.vars.length):=by
 have e:wdl s v=(wdl s s.vars.length).take (s.procs.length+v):=by
  unfold wdl
  rw [List.take_append,List.length_map,List.take_of_length_le (by rw [List.length_map];omega),show s.procs.length+v - s.procs.length=v by omega,<- List.map_take,List.take_range,Nat.min_eq_left hv]
 rw [e];exact prd_ge h _
theorem prc_le {s:zan} (h:∀ n ∈ wdl s s.vars.length,1<=n) (j:Nat):prd ((s.procs.take j).map zdd)<=prd (wdl s s.vars.length):=by
 rcases Nat.lt_or_ge s.procs.length j with hj | hj
 ·have e:(s.procs.take j).map zdd=wdl s 0:=by unfold wdl;rw [List.take_of_length_le (by omega)];simp
  rw [e];exact wdl_le h (Nat.zero_le _)
 ·have e:(s.procs.take j).map zdd=(wdl s s.vars.length).take j:=by
   unfold wdl
   rw [List.take_append_of_le_length (by rw [List.length_map];exact hj),List.map_take]
  rw [e];exact prd_ge h _
theorem mul_rng {u x:Int} (h1:1<=u) (h2:u<=1048576) (h3:0<=x) (h4:x<=8796093021952):0<=u*x/\u*x<=9223372036586340352:=by
 have a:=Int.mul_nonneg (show 0<=u by omega) h3
 have b:=Int.mul_le_mul h2 h4 h3 (by omega)
 omega
theorem cnt_none {s:zan} (hk:wdk s=true) (h:zhi s s.procs.length=true):zbw s=(0,true):=(if_pos hk).trans (if_pos (of_decide_eq_true (by rw [<- noneP_all];exact h)))
theorem cnt_big {s:zan} (hp:zc2 s) (hk:wdk s=true) (h:zhi s s.procs.length=false) (hb:1048576<prd (wdl s s.vars.length)):zbw s=(0,false):=(if_pos hk).trans ((if_neg (fun hm=>by have:=pos19 hp h 0 hm;omega)).trans (if_neg (by omega)))
theorem cnt_all {s:zan} (hp:zc2 s) (hk:wdk s=true) (h:zhi s s.procs.length=false) (hb:prd (wdl s s.vars.length)<=1048576):zbw s=(prd (wdl s s.vars.length),true):=(if_pos hk).trans ((if_neg (fun hm=>by have:=pos19 hp h 0 hm;omega)).trans (if_pos hb))
theorem cnt_no {s:zan} (hk:wdk s=false):zbw s=(0,false):=if_neg (by rw [hk];exact Bool.noConfusion)
theorem ORCount (s:zan) {L:Nat} (hs:zb1 L s) (hL:L<=1000) (hp:zc2 s):Fn Tryz.prog 19 [] [.t (.agg (zai s))] (.tup [.c (.d (.raw (.int .i64 (zbw s).1))),.c (.d (.raw (.bool (zbw s).2)))]) []:=by
 have lbs:=hs.bnds;have lvs:=hs.vars;have lps:=hs.procs;have lwd:=zet s;refine Fn.body Tryz.func19 rfl 80 rfl fun w H B a h=>Jq 0 [] [(1,vp 0 0),(2,vI 0),(3,vb false)] [(0,.box (zai s))] h fun a w h=>Je 1 [] [] [(4,vI 1)] h fun a w h=>Je 1 [] [] [(5,vb false)] h fun a w h=>qW (Je 1 [] [] [(6,vI 0)] h fun a w h=>qZ ?_)
 refine zb5 (ι:=(Nat) × (Bool)) (fun (v,d)=>v<=s.vars.length/\zer v (wdK s)=true/\d=noneV s v)
   (fun (v,d)=>[(1,vp 0 0),(4,vI 1),(5,vb d),(6,vN v)])
   (fun (v,d)=>[(0,.box (zai s))])
   (fun (v,d)=>s.vars.length - v) (0,false) ?_ h (by kernel_rfl) (by kernel_rfl) ?_
 ·exact ⟨Nat.zero_le _,rfl,rfl⟩
 clear h;rintro ⟨v,d⟩ a w hI h;dsimp only at h;obtain ⟨hI1,hI2,hI3⟩:=hI;refine qW (Je 1 [(3,.len (za3 1 zc6 s.vars))] [] [(15,vb (decide ((v:Int)<(s.vars.length:Int))))] h fun a w h=>zap ((v:Int)<(s.vars.length:Int)) h (fun hc1 hc1'=>?_) (fun hc6 hc6'=>?_))
 ·refine qU (za0 (qW (qZ (Je 1 [(2,.call (ORwidth s v hs hL) oc1_0)] [15] [(7,vI (wdS s v))] h fun a w h=>qW (Je 1 [] [] [(22,vb (decide (wdS s v<0)))] h fun a w h=>zap (wdS s v<0) h (fun hc2 hc2'=>?_) (fun hc3 hc3'=>?_))))))
  ·refine Je 1 [] [22] [(2,vI 0),(3,vb false)] h fun a w h=>qV (za2 (za7 (za2 (za2 (za7 (za2 (zdb [.c (.d (.raw (.int .i64 0))),.c (.d (.raw (.bool false)))] h Exit.ret (.inl rfl)  rfl ⟨RV.tmp _ _ rfl,RV.tmp _ _ rfl,trivial⟩ ?_)))))));rw [cnt_no (zbf (j:=v) (by omega) (wdS_neg (dT hc2)))];rfl
  refine qU (za0 ?_)
  rcases Bool.eq_false_or_eq_true d with hc4 | hc5
  ·rw [hc4] at h;refine Jn 1 [] [(1,vp 0 0),(4,vI 1),(5,vb true),(6,vN v)] [(0,.box (zai s))] h fun a w h=>zac (za0 (Jf 1 [(1,.add .i64 (m:=(v:Int)) (n:=1) i6)] [] [(6,vI ((v:Int)+1))] h fun a w h=>za0 (zag (x:=(v,d)) (y:=(v+1,true)) h ?_ ?_)))
   ·exact ⟨by omega,zbe hI2 (wdS_pos (dF hc3)),by rw [<- noneV_at (wdS_pos (dF hc3)),<- hI3,hc4];first | done | rfl | simp⟩
   show s.vars.length - (v+1)<s.vars.length - v;omega
  rw [hc5] at h;refine Jn 1 [] [(1,vp 0 0),(4,vI 1),(5,vb (wdS s v == 0)),(6,vN v)] [(0,.box (zai s))] h fun a w h=>zac (za0 (Jf 1 [(1,.add .i64 (m:=(v:Int)) (n:=1) i6)] [] [(6,vI ((v:Int)+1))] h fun a w h=>za0 (zag (x:=(v,d)) (y:=(v+1,wdS s v == 0)) h ?_ ?_)))
  ·exact ⟨by omega,zbe hI2 (wdS_pos (dF hc3)),by rw [<- noneV_at (wdS_pos (dF hc3)),<- hI3,hc5];first | done | rfl | simp⟩
  show s.vars.length - (v+1)<s.vars.length - v;omega
 refine wp_exit (zaa (zaa (za5 (za0 (qW (Je 1 [] [6,15] [(8,vI 0)] h fun a w h=>qZ ?_))))));have hk9:wdk s=true:=by unfold wdk;rw [show s.vars.length=v by have:=dF hc6;omega];exact hI2
 have hd9:d=zhi s 0:=by rw [hI3,show v=s.vars.length by have:=dF hc6;omega];unfold zhi;simp
 refine zb5 (ι:=(Nat) × (Bool)) (fun (j,d2)=>j<=s.procs.length/\d2=zhi s j)
   (fun (j,d2)=>[(1,vp 0 0),(4,vI 1),(5,vb d2),(8,vN j)])
   (fun (j,d2)=>[(0,.box (zai s))])
   (fun (j,d2)=>s.procs.length - j) (0,d) ?_ h (by kernel_rfl) (by kernel_rfl) ?_
 ·exact ⟨Nat.zero_le _,hd9⟩
 clear h;rintro ⟨j,d2⟩ a w hI h;dsimp only at h;obtain ⟨hJ1,hJ2⟩:=hI;refine qW (Je 1 [(3,.len (za3 3 zav.d s.procs))] [] [(32,vb (decide ((j:Int)<(s.procs.length:Int))))] h fun a w h=>zap ((j:Int)<(s.procs.length:Int)) h (fun hc7 hc7'=>?_) (fun hc10 hc10'=>?_))
 ·refine qU (za0 (qW (qZ ?_)))
  rcases Bool.eq_false_or_eq_true d2 with hc8 | hc9
  ·rw [hc8] at h;refine Jn 1 [] [(1,vp 0 0),(4,vI 1),(5,vb true),(8,vN j)] [(0,.box (zai s))] h fun a w h=>zac (za0 (Jf 1 [(1,.j1 j)] [] [(8,vI ((j:Int)+1))] h fun a w h=>za0 ?_));obtain ⟨xp,hxp⟩:∃ z_,s.procs[j]?=some z_:=⟨_,List.getElem?_eq_getElem (by omega)⟩;refine zag (x:=(j,d2)) (y:=(j+1,true)) h ?_ ?_
   ·have:=zak hxp;exact ⟨by omega,by rw [<- noneP_at hxp,<- hJ2,hc8];first | done | rfl | simp⟩
   show s.procs.length - (j+1)<s.procs.length - j;have:=zak hxp;omega
  rw [hc9] at h;obtain ⟨x2,hx2⟩:=gl s.procs j;have gx2:=hp x2 (lM hx2);refine Jn 1 [(5,.g (xD 40 38 kf_5 (zab hx2 (f:=zav.d)) (OV.tmp 39 _))),(8,.len (za3 1 zc6 x2.locs))] [(1,vp 0 0),(4,vI 1),(5,vb ((x2.locs.length:Int) == 0)),(8,vN j)] [(0,.box (zai s))] h fun a w h=>zac (za0 (Jf 1 [(1,.j1 j)] [] [(8,vI ((j:Int)+1))] h fun a w h=>za0 (zag (x:=(j,d2)) (y:=(j+1,(x2.locs.length:Int) == 0)) h ?_ ?_)))
  ·have:=zak hx2;exact ⟨by omega,by rw [<- noneP_at hx2,<- hJ2,hc9];first | done | rfl | simp⟩
  show s.procs.length - (j+1)<s.procs.length - j;have:=zak hx2;omega
 refine wp_exit (zaa (zaa (za5 (za0 (qW (Je 1 [] [5,8,32] [(46,vb d2)] h fun a w h=>cS d2 h (fun hc11=>?_) (fun hc12=>?_)))))))
 ·refine Je 1 [] [46] [(2,vI 0),(3,vb true)] h fun a w h=>qV (za2 (zdb [.c (.d (.raw (.int .i64 0))),.c (.d (.raw (.bool true)))] h Exit.ret (.inl rfl)  rfl ⟨RV.tmp _ _ rfl,RV.tmp _ _ rfl,trivial⟩ ?_));rw [cnt_none hk9 (by rw [show s.procs.length=j by have:=dF hc10;omega,<- hJ2];exact hc11)];rfl
 refine qU (za0 (qW (Je 1 [] [46] [(9,vI 0)] h fun a w h=>qZ ?_)));have hn9:zhi s s.procs.length=false:=by rw [show s.procs.length=j by have:=dF hc10;omega,<- hJ2];exact hc12
 have hpo:=pos19 hp hn9
 refine zb5 (ι:=(Nat) × (Int)) (fun (i,u)=>i<=s.procs.length/\u=prd ((s.procs.take i).map zdd)/\1<=u/\u<=1048576)
   (fun (i,u)=>[(1,vp 0 0),(4,vI u),(9,vN i)])
   (fun (i,u)=>[(0,.box (zai s))])
   (fun (i,u)=>s.procs.length - i) (0,1) ?_ h (by kernel_rfl) (by kernel_rfl) ?_
 ·exact ⟨Nat.zero_le _,rfl,by decide,by decide⟩
 clear h;rintro ⟨i,u⟩ a w hI h;dsimp only at h;obtain ⟨hU1,hU2,hU3,hU4⟩:=hI;refine qW (Je 1 [(3,.len (za3 3 zav.d s.procs))] [] [(51,vb (decide ((i:Int)<(s.procs.length:Int))))] h fun a w h=>zap ((i:Int)<(s.procs.length:Int)) h (fun hc13 hc13'=>?_) (fun hc16 hc16'=>?_))
 ·refine qU (za0 (qW (qZ ?_)));obtain ⟨x3,hx3⟩:=gl s.procs i;have gx3:=hp x3 (lM hx3);have hge8:(1:Int)<=(x3.locs.length:Int):=hpo _ (List.mem_append_left _ (List.mem_map.2 ⟨x3,lM hx3,rfl⟩));have hmr9:=mul_rng hU3 hU4 (show (0:Int)<=(x3.locs.length:Int) by omega) (by omega);have hge9:1<=u*(x3.locs.length:Int):=by have:=Int.mul_le_mul hU3 hge8 (by decide) (by omega);omega
  refine Je 1 [(4,.g (xD 58 56 kf_5 (zab hx3 (f:=zav.d)) (OV.tmp 57 _))),(7,.len (za3 1 zc6 x3.locs)),(8,.mul .i64 (m:=u) (n:=(x3.locs.length:Int)) i6)] [51] [(4,vI (u*(x3.locs.length:Int)))] h fun a w h=>Je 1 [] [] [(64,vb (decide ((u*(x3.locs.length:Int))>1048576)))] h fun a w h=>zap ((u*(x3.locs.length:Int))>1048576) h (fun hc14 hc14'=>?_) (fun hc15 hc15'=>?_)
  ·refine Je 1 [] [64] [(2,vI 0),(3,vb false)] h fun a w h=>qV (za7 (za2 (za2 (za7 (za2 (zdb [.c (.d (.raw (.int .i64 0))),.c (.d (.raw (.bool false)))] h Exit.ret (.inl rfl)  rfl ⟨RV.tmp _ _ rfl,RV.tmp _ _ rfl,trivial⟩ ?_))))));rw [cnt_big hp hk9 hn9 (by have:=prc_le hpo (i+1);rw [prd_map hx3,<- hU2] at this;have h8:=dT hc14;unfold zdd at this;omega)];rfl
  refine qU (zac (za0 (Jf 1 [(1,.j1 i)] [64] [(9,vI ((i:Int)+1))] h fun a w h=>za0 (zag (x:=(i,u)) (y:=(i+1,u*(x3.locs.length:Int))) h ?_ ?_))))
  ·have:=zak hx3;have:=dF hc15;exact ⟨by omega,by rw [prd_map hx3,<- hU2];rfl,hge9,by omega⟩
  show s.procs.length - (i+1)<s.procs.length - i;have:=zak hx3;omega
 refine wp_exit (zaa (zaa (za5 (za0 (qW (Je 1 [] [9,51] [(10,vI 0)] h fun a w h=>qZ ?_))))));have hu9:u=prd (wdl s 0):=by rw [hU2,List.take_of_length_le (by have:=dF hc16;omega)];unfold wdl;simp
 refine zb5 (ι:=(Nat) × (Int)) (fun (v2,q)=>v2<=s.vars.length/\q=prd (wdl s v2)/\1<=q/\q<=1048576)
   (fun (v2,q)=>[(1,vp 0 0),(4,vI q),(10,vN v2)])
   (fun (v2,q)=>[(0,.box (zai s))])
   (fun (v2,q)=>s.vars.length - v2) (0,u) ?_ h (by kernel_rfl) (by kernel_rfl) ?_
 ·exact ⟨Nat.zero_le _,hu9,hU3,hU4⟩
 clear h;rintro ⟨v2,q⟩ a w hI h;dsimp only at h;obtain ⟨hQ1,hQ2,hQ3,hQ4⟩:=hI;refine qW (Je 1 [(3,.len (za3 1 zc6 s.vars))] [] [(69,vb (decide ((v2:Int)<(s.vars.length:Int))))] h fun a w h=>zap ((v2:Int)<(s.vars.length:Int)) h (fun hc17 hc17'=>?_) (fun hc20 hc20'=>?_))
 ·refine qU (za0 (qW (qZ ?_)));have hkv9:wdK s v2=true:=zce.1 hk9 v2 (by omega);have hws9:=wdS_of hkv9;have hge8:1<=wdS s v2:=by rw [hws9];exact hpo _ (List.mem_append_right _ (List.mem_map.2 ⟨v2,List.mem_range.2 (by omega),rfl⟩))
  have hle8:wdS s v2<=1048576:=by rw [hws9];exact (wdB_le _).2
  have hmr9:=mul_rng hQ3 hQ4 (show 0<=wdS s v2 by omega) (by omega);have hge9:1<=q*wdS s v2:=by have:=Int.mul_le_mul hQ3 hge8 (by decide) (by omega);omega
  refine Je 1 [(3,.call (ORwidth s v2 hs hL) oc1_0),(4,.mul .i64 (m:=q) (n:=(wdS s v2)) i6)] [69] [(4,vI (q*wdS s v2))] h fun a w h=>Je 1 [] [] [(78,vb (decide ((q*wdS s v2)>1048576)))] h fun a w h=>zap ((q*wdS s v2)>1048576) h (fun hc18 hc18'=>?_) (fun hc19 hc19'=>?_)
  ·refine Je 1 [] [78] [(2,vI 0),(3,vb false)] h fun a w h=>qV (za7 (za2 (za2 (za7 (za2 (zdb [.c (.d (.raw (.int .i64 0))),.c (.d (.raw (.bool false)))] h Exit.ret (.inl rfl)  rfl ⟨RV.tmp _ _ rfl,RV.tmp _ _ rfl,trivial⟩ ?_))))));rw [cnt_big hp hk9 hn9 (by have:=wdl_le hpo (v:=v2+1) (by omega);rw [<- wdl_at,zhh,<- hQ2] at this;have h8:=dT hc18;rw [show prd [wdV s v2]=wdV s v2 from Int.mul_one _,<- hws9] at this;omega)];rfl
  refine qU (zac (za0 (Jf 1 [(1,.add .i64 (m:=(v2:Int)) (n:=1) i6)] [78] [(10,vI ((v2:Int)+1))] h fun a w h=>za0 (zag (x:=(v2,q)) (y:=(v2+1,q*wdS s v2)) h ?_ ?_))))
  ·have:=dF hc19;exact ⟨by omega,by rw [<- wdl_at,zhh,<- hQ2,hws9];show _=q*(wdV s v2*1);rw [Int.mul_one],hge9,by omega⟩
  show s.vars.length - (v2+1)<s.vars.length - v2;omega
 refine wp_exit (zaa (zaa (za5 (za0 (Jq 1 [] [(2,vI q),(3,vb true)] [] h fun a w h=>qV (zdb [.c (.d (.raw (.int .i64 q))),.c (.d (.raw (.bool true)))] h Exit.ret (.inl rfl)  rfl ⟨RV.tmp _ _ rfl,RV.tmp _ _ rfl,trivial⟩ ?_))))));have hv9:s.vars.length=v2:=by have:=dF hc20;omega
 rw [cnt_all hp hk9 hn9 (by rw [hv9,<- hQ2];exact hQ4),hv9,<- hQ2];rfl
section
variable {P:Program}
theorem run_bounds3 {cap len h:Nat} {y z:Value} {w:World} {k k':IntKind} (hy:y = .int k (h:Int)) (hz:z = .int k' (h:Int)) (h2:h<=cap):(Instr.sliceBounds true len cap none (some y) (some z)).run P w = .ok (0,h,h) w:=by
 subst hy hz
 simp only [Instr.sliceBounds,Sem.run_bind,run_sliceBound (P:=P) w _ _ cap _ (show (0:Int)<=(h:Int) by omega) (show (h:Int)<=(cap:Int) by omega),Result.andThen_ok,Int.toNat_natCast,run_sliceBound (P:=P) w _ _ h _ (show (0:Int)<=(h:Int) by omega) (show (h:Int)<=(h:Int) by omega),Sem.run_pure]
theorem Op.sliceD3 {d t es h:Nat} {y z:Operand} {rows rows':List (List D)} {rs rs':List (Nat × V)} {xt el ty:TypeId} {pos af gd} (hs:SlT P xt el es) (hy:OV y (vi .i64 h) rs) (hz:OV z (vi .i64 h) rs') (h2:h<=rows.length) (he:rows.take h=rows') :
  zbg P ⟨some d,.slice xt (.tmp t) none (some y) (some z),ty,pos,af,gd⟩ { rs:=(t,.t (.c (.d (.sl es rows)))) :: (rs++rs'),ws:=[(d,some (.t (.c (.d (.sl es rows')))))] } :=
 zbg.value d _ rfl rfl rfl fun e f H B a w hok hr2=>by
  have g3:DR H (.sl es rows) (a.eval (.tmp t)):=hok.slot t _ (hr2.1 (t,.t (.c (.d (.sl es rows)))) (by simp))
  have ey:=(hy.eval hok fun p hp=>hr2.1 p (by simp [hp])).rawI
  have ez:=(hz.eval hok fun p hp=>hr2.1 p (by simp [hp])).rawI
  generalize hv0:a.eval (.tmp t)=v at g3
  subst he
  have run:∀ ao len cap,v = .slice ao len cap->h<=cap->(execOp a.eval ⟨some d,.slice xt (.tmp t) none (some y) (some z),ty,pos,af,gd⟩).run P w = .ok (.value (.slice (if h=0 then ao else ao.map (·.add (0*es))) h h)) w:=by
   intro ao len cap hv hc
   have hrun:(Instr.sliceAt xt (a.eval (.tmp t)) none (some (a.eval y)) (some (a.eval z))).run P w = .ok (.slice (if h=0 then ao else ao.map (·.add (0*es))) h h) w:=by
    rw [hv0,hv]
    simp only [Instr.sliceAt,Instr.slice,Sem.run_bind,run_underlying hs.hu,Result.andThen_ok,run_bounds3 (len:=len) ey ez hc,size_run hs.hs,Sem.run_pure,Nat.sub_zero]
   have hrun':(Instr.sliceAt xt (a.eval (.tmp t)) ((none:Option Operand).map a.eval) ((some y).map a.eval) ((some z).map a.eval)).run P w=_:=hrun
   simp only [execOp,Sem.run_bind,hrun', Result.andThen_ok,Sem.run_pure]
  cases g3 with
  | nil _ ao c k1 k2 =>
   obtain rfl:h=0:=by simpa using h2
   refine ⟨_,run ao 0 c rfl (Nat.zero_le _),?_⟩
   show DR H _ _
   simp only [List.take_nil,if_true]
   exact DR.nil es _ 0 (fun _=>rfl) (Nat.zero_le _)
  | sl _ _ b o c arr ty' fz vs hp hb hlc hc hes hv hx =>
   refine ⟨_,run _ _ c rfl (by omega),?_⟩
   show DR H _ _
   by_cases h0:h=0
   ·subst h0
    rw [List.take_zero,if_pos rfl]
    exact DR.nil es _ 0 (fun _=>rfl) (Nat.zero_le _)
   ·rw [if_neg h0]
    simp only [Option.map_some,Addr.add_mid,Nat.zero_mul,Nat.add_zero]
    have hlen:(rows.take h).length=h:=by rw [List.length_take];omega
    have:=DR.sl (H:=H) es (rows.take h) b o h arr ty' fz vs (by omega) hb (by omega) (by omega) (fun i hi2=>by rw [List.getElem_take];exact hes _ _)
     (fun i hi2 j hj=>hv i (by omega) j hj)
     (fun i hi2 j hj=>by
      have e1:(rows.take h)[i]=rows[i]'(by omega):=List.getElem_take
      have hj':j<(rows[i]'(by omega)).length:=by rw [<- e1];exact hj
      have e2:(rows.take h)[i][j]=(rows[i]'(by omega))[j]:=by simp only [e1]
      rw [e2];exact hx i (by omega) j hj')
    rwa [hlen] at this
end
def dgs:List Int->Int->List Int × Int
  | [],n=>([],n)
  | w :: ns,n=>(((dgs ns n).2 % w) :: (dgs ns n).1,(dgs ns n).2 / w)
theorem zhp:∀ (ns:List Int) (n:Int),(dgs ns n).1.length=ns.length
 | [],_=>rfl
 | w :: ns,n=>by show (dgs ns n).1.length+1=_;rw [zhp ns n];rfl
theorem dgs_ge {ns:List Int} (h:∀ w ∈ ns,1<=w) {n:Int} (hn:0<=n):0<=(dgs ns n).2/\(dgs ns n).2<=n:=by
 induction ns with
 | nil=>exact ⟨hn,Int.le_refl _⟩
 | cons w ns ih =>
  obtain ⟨h1,h2⟩:=ih fun x hx=>h x (by simp [hx])
  have hw:=h w (by simp)
  exact ⟨Int.ediv_nonneg h1 (by omega),Int.le_trans (Int.ediv_le_self _ h1) h2⟩
theorem dgs_app (xs ys:List Int) (n:Int):dgs (xs++ys) n=((dgs xs (dgs ys n).2).1++(dgs ys n).1,(dgs xs (dgs ys n).2).2):=by
 induction xs with
 | nil=>rfl
 | cons x xs ih=>rw [List.cons_append,dgs,ih];rfl
theorem dgs_bd {ns:List Int} (h:∀ w ∈ ns,1<=w) (n:Int):∀ (i:Nat) (d w:Int),(dgs ns n).1[i]?=some d->ns[i]?=some w->0<=d/\d<w:=by
 induction ns with
 | nil=>intro i d w h1 h2;simp at h2
 | cons v ns ih =>
  intro i d w h1 h2
  cases i with
  | zero =>
   have hd:(dgs ns n).2 % v=d:=by simpa [dgs] using h1
   have hw:v=w:=by simpa using h2
   have:=h v (by simp)
   subst hw hd
   exact ⟨Int.emod_nonneg _ (by omega),Int.emod_lt_of_pos _ (by omega)⟩
  | succ i=>exact ih (fun x hx=>h x (by simp [hx])) i d w (by simpa [dgs] using h1) (by simpa using h2)
theorem od1_0:za6 Tryz.prog 25:=za6.mk' (by kernel_rfl)
theorem od1_4:Zero Tryz.prog 3 [.d (.raw (.int .i64 0))]:=⟨(.int .i64 0:Value),[.int .i64 0],by kernel_rfl,rfl,(fun _ _=>⟨DR.raw _ rfl,trivial⟩)⟩
theorem od1_5:za6 Tryz.prog 59:=za6.mk' (by kernel_rfl)
theorem od1_6:za6 Tryz.prog 107:=za6.mk' (by kernel_rfl)
theorem back_at {zs:List Int} {j:Nat} (hj:j<zs.length):zs[zs.length - 1 - j]?=some (zcv zs j):=by unfold zcv;rw [List.getElem?_eq_getElem (by omega)];rfl
def dgM (ns:List Int) (n:Int) (j:Nat):List Int:=List.replicate (ns.length - j) 0++(dgs (ns.drop (ns.length - j)) n).1
def dgR (ns:List Int) (n:Int) (j:Nat):Int:=(dgs (ns.drop (ns.length - j)) n).2
theorem drop_back {ns:List Int} {j:Nat} (hj:j<ns.length):ns.drop (ns.length - (j+1))=zcv ns j :: ns.drop (ns.length - j):=by
 rw [List.drop_eq_getElem_cons (by omega)]
 congr 1
 ·have:=back_at hj;rw [List.getElem?_eq_getElem (by omega)] at this;injection this with this;rw [<- this];congr 1;omega
 ·congr 1;omega
theorem dgR_at {ns:List Int} {n:Int} {j:Nat} (hj:j<ns.length):dgR ns n j / zcv ns j=dgR ns n (j+1):=by unfold dgR;rw [drop_back hj,dgs]
theorem dgM_at {ns:List Int} {n:Int} {j:Nat} (hj:j<ns.length):(dgM ns n j).set (ns.length - 1 - j) (dgR ns n j % zcv ns j)=dgM ns n (j+1):=by
 unfold dgM dgR
 rw [drop_back hj,dgs]
 have e:ns.length - j=(ns.length - (j+1))+1:=by omega
 rw [e,List.replicate_succ', List.append_assoc,List.set_append_right _ _ (by rw [List.length_replicate];omega),List.length_replicate,show ns.length - 1 - j - (ns.length - (j+1))=0 by omega]
 rfl
theorem dgM_len (ns:List Int) (n:Int) (j:Nat):(dgM ns n j).length=ns.length:=by
 unfold dgM;rw [List.length_append,List.length_replicate,zhp,List.length_drop];omega
theorem dgM_zero (ns:List Int) (n:Int):dgM ns n 0=List.replicate ns.length 0:=by unfold dgM;rw [Nat.sub_zero,List.drop_length];simp [dgs]
theorem dgR_zero (ns:List Int) (n:Int):dgR ns n 0=n:=by unfold dgR;rw [Nat.sub_zero,List.drop_length];rfl
theorem dgM_all (ns:List Int) (n:Int):dgM ns n ns.length=(dgs ns n).1:=by unfold dgM;rw [Nat.sub_self];rfl
theorem dgR_ge {ns:List Int} (h:∀ w ∈ ns,1<=w) {n:Int} (hn:0<=n) (j:Nat):0<=dgR ns n j/\dgR ns n j<=n:=dgs_ge (fun w hw=>h w (List.mem_of_mem_drop hw)) hn
theorem back_mem {ns:List Int} {j:Nat} (hj:j<ns.length):zcv ns j ∈ ns:=List.mem_of_getElem? (back_at hj)
def zdc (s:zan) (n:Int):List Int:=(dgs (wdl s s.vars.length) n).1
def zg7 (s:zan) (n:Int) (v:Nat):ZI:=ZI.of ((zat s v).lo.val+((zdc s n)[s.procs.length+v]?).getD 0)
def stN (s:zan) (n:Int):StD:=⟨(zdc s n).take s.procs.length,(List.range s.vars.length).map (zg7 s n)⟩
def zcz (s:zan) (n:Int):StD × Bool:=if (zbw s).2=true/\0<=n/\n<(zbw s).1 then (stN s n,true) else (⟨[],[]⟩,false)
theorem zgi {s:zan} (h:(zbw s).2=true):wdk s=true:=by
 cases hk:wdk s with
 | true=>rfl
 | false=>unfold zbw at h;rw [if_neg (by rw [hk];exact Bool.noConfusion)] at h;cases h
theorem wds_yes {s:zan} (h:(zbw s).2=true):wdsL s=wdl s s.vars.length:=if_pos (zgi h)
theorem cnt_val {s:zan} (h:(zbw s).2=true):(zbw s).1=0\/((zbw s).1=prd (wdl s s.vars.length)/\(0:Int) ∉ wdl s s.vars.length/\(zbw s).1<=1048576):=by
 have hk:=zgi h
 unfold zbw at h ⊢
 rw [if_pos hk] at h ⊢
 unfold prdB at h ⊢
 split
 ·exact .inl rfl
 ·rename_i h0
  rw [if_neg h0] at h
  split
  ·rename_i h1;exact .inr ⟨rfl,h0,h1⟩
  ·rename_i h1;rw [if_neg h1] at h;cases h
theorem dig_at {s:zan} {n:Int} {v:Nat} {x:Int} (h:((zdc s n).drop s.procs.length)[v]?=some x):((zdc s n)[s.procs.length+v]?).getD 0=x:=by rw [List.getElem?_drop] at h;rw [h];rfl
theorem dig_mem {s:zan} {n:Int} {v:Nat} {x:Int} (h:((zdc s n).drop s.procs.length)[v]?=some x):x ∈ zdc s n:=List.mem_of_mem_drop (List.mem_of_getElem? h)
theorem dig_bd {s:zan} (h:∀ w ∈ wdl s s.vars.length,1<=w) {n x:Int} (hx:x ∈ zdc s n) (hp:zc2 s):0<=x/\x<8796093021952:=by
 obtain ⟨i,hi,rfl⟩:=List.mem_iff_getElem.1 hx
 have hi2:i<(wdl s s.vars.length).length:=by unfold zdc at hi;rw [zhp] at hi;exact hi
 have h1:=dgs_bd h n i _ _ (List.getElem?_eq_getElem hi) (List.getElem?_eq_getElem hi2)
 have h2:=(wdl_bd hp _ _ (List.getElem_mem hi2)).2
 exact ⟨h1.1,Int.lt_of_lt_of_le h1.2 h2⟩
theorem bnd_len {s:zan} (h:(zbw s).2=true) {v:Nat} (hv:v<s.vars.length):v<s.bounds.length:=by
 rcases Nat.lt_or_ge v s.bounds.length with h1 | h1
 ·exact h1
 ·have h2:=zce.1 (zgi h) v hv
  rw [wdk_no h1] at h2;cases h2
theorem wds_pos {s:zan} (hp:zc2 s) {n:Int} (h:(zbw s).2=true) (h0:0<=n) (h1:n<(zbw s).1):(∀ w ∈ wdl s s.vars.length,1<=w)/\(zbw s).1<=1048576:=by
 rcases cnt_val h with e | ⟨_,e,e2⟩
 ·omega
 ·exact ⟨fun w hw=>by have:=(wdl_bd hp _ w hw).1;have h3:w≠0:=fun e3=>e (e3 ▸ hw);omega,e2⟩
theorem OBackward (xs:List Int) :Fn Tryz.prog 59 [] [(vIs xs)] (.t (.c (.fn (.func 107) [] [.ptr 0 0]))) [(0,.box [cIs xs])]:=by
 refine Fn.body Tryz.func59 rfl 4 rfl fun w H B a h=>Jq 0 [] [(1,vp 0 0),(2,vW .nilFunc)] [(0,.box [cIs xs])] h fun a w h=>Jp 1 [(0,.g (Op.makeFs (d:=3) (fn:=.func 107) [(1,0,0)]))] [(2,.t (.c (.fn (.func 107) [] [.ptr 0 0])))] h fun a w h=>qV (rT (.c (.fn (.func 107) [] [.ptr 0 0])) h rfl ?_)
 rfl
abbrev q1 (s:zan) (n:Int):V:=.t (.c (.d (.sl 1 (((zdc s n).drop s.procs.length).map zad))))
abbrev q2:L:=.box [.d (.sl 1 ([].map zad)),.d (.sl 2 ([].map ziD))]
abbrev q3 (s:zan):L:=.box [.d (.sl 1 ((wdl s s.vars.length).map zad))]
abbrev q4 (s:zan) (n:Int):V:=vI (((zdc s n).drop s.procs.length).length:Int)
abbrev q5:L:=.box [.d (.sl 1 ([].map zad)),.d (.raw za4)]
abbrev q6:V:=.t (.c (.fn (.func 107) [] [.ptr 0 0]))
abbrev q7:L:=.box [.d (.raw za4),.d (.raw za4)]
abbrev q8 (n:Int):L:=.box [.d (.raw (.int .i64 n))]
abbrev q9:List (Nat × V):=[(2,vp 1 0),(3,vp 2 0),(4,vp 3 0),(5,vb false),(10,vp 4 0)]
abbrev q10:List (Nat × V):=[(2,vp 1 0),(3,vp 2 0),(4,vp 3 0),(5,vb false)]
theorem OState (s:zan) (n:Int) {L:Nat} (hs:zb1 L s) (hL:L<=1000) (hp:zc2 s):Fn Tryz.prog 26 [] [.t (.agg (zai s)),vI n] (.tup [.agg [.d (.sl 1 ((zcz s n).1.locs.map zad)),.d (.sl 2 ((zcz s n).1.vals.map ziD))],.c (.d (.raw (.bool (zcz s n).2)))]) []:=by
 have lbs:=hs.bnds;have lvs:=hs.vars;have lps:=hs.procs;have lwd:=zet s;refine Fn.bodyR Tryz.func26 rfl 90 rfl fun w H B a h=>?_
 refine Jq 1 [] q10 [(1,.box (zai s)),(2,q8 n),(3,q7)] h fun a w h=>?_;refine Jp 4 [(1,.call (OCount s hs hL hp) od1_0)] [(2,vp 1 0),(3,vp 2 0),(4,vp 3 0),(5,vb false),(6,vI (zbw s).1),(7,vb (zbw s).2)] h fun a w h=>?_;refine qW ?_
 rcases Bool.eq_false_or_eq_true (zbw s).2 with hc1 | hc8
 ·rw [hc1] at h
  rcases Bool.eq_false_or_eq_true (decide (n<0)) with hc2 | hc3
  ·have hc2':=dT hc2;refine Jq 4 [(4,.cmp (op:=.lss) (m:=n) (n:=0) (b:=true) .i64 hc2)] [(2,vp 1 0),(3,vp 2 0),(4,vp 3 0),(5,vb false),(31,vb true)] [(1,.box (zai s)),(2,q8 n),(3,q7)] h fun a w h=>?_;refine cS true h (fun _=>?_) nofun
   refine Jp 4 [] q10 h fun a w h=>?_;refine qV (za2 ?_);replace h:=zbj 3 0 1 [.d (.raw za4),.d (.raw za4)] q10 [(1,.box (zai s)),(2,q8 n),(3,q5)] h rfl rfl;replace h:=zbj 3 1 2 [.d (.sl 1 ([].map zad)),.d (.raw za4)] q10 [(1,.box (zai s)),(2,q8 n),(3,q2)] h rfl rfl;refine leave_nil ?_;refine zdb [.agg [.d (.sl 1 ([].map zad)),.d (.sl 2 ([].map ziD))],.c (.d (.raw (.bool false)))] h Exit.ret (.inl rfl)  rfl ⟨RV.agg _ 3 0 _ _ _ _ kk_5 rfl rfl rfl rfl,RV.tmp _ _ rfl,trivial⟩ ?_;rw [show zcz s n=(⟨[],[]⟩,false) from if_neg (fun hz8=>by have:=dT hc2;omega)];rfl
  have hc3':=dF hc3;refine Jq 4 [(4,.cmp (op:=.lss) (m:=n) (n:=0) (b:=false) .i64 hc3)] [(2,vp 1 0),(3,vp 2 0),(4,vp 3 0),(5,vb false),(31,vb (decide (n>=(zbw s).1)))] [(1,.box (zai s)),(2,q8 n),(3,q7)] h fun a w h=>?_;refine zap (n>=(zbw s).1) h (fun hc4 hc4'=>?_) (fun hc5 hc5'=>?_)
  ·refine Jp 4 [] q10 h fun a w h=>?_;refine qV (za2 ?_);replace h:=zbj 3 0 1 [.d (.raw za4),.d (.raw za4)] q10 [(1,.box (zai s)),(2,q8 n),(3,q5)] h rfl rfl;replace h:=zbj 3 1 2 [.d (.sl 1 ([].map zad)),.d (.raw za4)] q10 [(1,.box (zai s)),(2,q8 n),(3,q2)] h rfl rfl;refine leave_nil ?_;refine zdb [.agg [.d (.sl 1 ([].map zad)),.d (.sl 2 ([].map ziD))],.c (.d (.raw (.bool false)))] h Exit.ret (.inl rfl)  rfl ⟨RV.agg _ 3 0 _ _ _ _ kk_5 rfl rfl rfl rfl,RV.tmp _ _ rfl,trivial⟩ ?_;rw [show zcz s n=(⟨[],[]⟩,false) from if_neg (fun hz8=>by have:=dT hc4;omega)];rfl
  refine qU (za0 ?_);have hn9:(zbw s).2=true/\0<=n/\n<(zbw s).1:=⟨hc1,by have:=dF hc3;omega,by have:=dF hc5;omega⟩;obtain ⟨hpo,hc9⟩:=wds_pos hp hn9.1 hn9.2.1 hn9.2.2;have lwd9:(wdl s s.vars.length).length=s.procs.length+s.vars.length:=zff s s.vars.length;refine Jp 4 [(1,.call (Owidths s hs hL hp) ob1_8)] [(2,vp 1 0),(3,vp 2 0),(4,vp 3 0),(5,vb false),(8,.t (.c (.d (.sl 1 ((wdsL s).map zad)))))] h fun a w h=>?_;replace h:=cv (fun z_:List Int=>F.of [(2,vp 1 0),(3,vp 2 0),(4,vp 3 0),(5,vb false),(8,.t (.c (.d (.sl 1 (z_.map zad)))))] [(1,.box (zai s)),(2,q8 n),(3,q7)]) (show ((wdsL s):List Int)=(wdl s s.vars.length) from (wds_yes hn9.1)) h;refine Jq 4 [(1,.len (za3 1 zad (wdl s s.vars.length))),(2,.g (Op.makeO' (d:=40) (n:=5) (L:=(wdl s s.vars.length).length) (zs:=[.raw (.int .i64 0)]) (rows:=(List.replicate (wdl s s.vars.length).length 0).map zad) tb_2 od1_4 rfl (OV.tmp 39 _) (OV.tmp 39 _) (by omega) (by rw [List.map_replicate];rfl)))] [(2,vp 1 0),(3,vp 2 0),(4,vp 3 0),(5,vb false),(8,.t (.c (.d (.sl 1 ((wdl s s.vars.length).map zad))))),(10,vp 4 0)] [(1,.box (zai s)),(2,q8 n),(3,q7),(5,.row 3 1 ((List.replicate (wdl s s.vars.length).length 0).map zad)),(4,.box [.own 5 (wdl s s.vars.length).length])] h fun a w h=>?_;refine qW (Jq 6 [(1,.call (OBackward (wdl s s.vars.length)) od1_5)] [(2,vp 1 0),(3,vp 2 0),(4,vp 3 0),(5,vb false),(10,vp 4 0),(42,q6)] [(1,.box (zai s)),(2,q8 n),(3,q7),(5,.row 3 1 ((List.replicate (wdl s s.vars.length).length 0).map zad)),(4,.box [.own 5 (wdl s s.vars.length).length]),(0,q3 s)] h fun a w h=>?_);replace h:=cv (fun z_:List Int=>F.of [(2,vp 1 0),(3,vp 2 0),(4,vp 3 0),(5,vb false),(10,vp 4 0),(42,q6)] [(1,.box (zai s)),(2,q8 n),(3,q7),(5,.row 3 1 (z_.map zad)),(4,.box [.own 5 (wdl s s.vars.length).length]),(0,q3 s)]) (show ((List.replicate (wdl s s.vars.length).length 0):List Int)=(dgM (wdl s s.vars.length) n 0) from (by rw [dgM_zero];first | done | rfl | (congr 1;omega))) h;replace h:=h.conv (f':=F.of [(2,vp 1 0),(3,vp 2 0),(4,vp 3 0),(5,vb false),(10,vp 4 0),(42,q6)] [(1,.box (zai s)),(2,q8 n),(3,q7),(5,.row 3 1 ((dgM (wdl s s.vars.length) n 0).map zad)),(4,.box [.own 5 (dgM (wdl s s.vars.length) n 0).length]),(0,q3 s)]) (by rw [dgM_len]);replace h:=h.conv (f':=F.of [(2,vp 1 0),(3,vp 2 0),(4,vp 3 0),(5,vb false),(10,vp 4 0),(42,q6)] [(1,.box (zai s)),(2,.box [.d (.raw (.int .i64 (dgR (wdl s s.vars.length) n 0)))]),(3,q7),(5,.row 3 1 ((dgM (wdl s s.vars.length) n 0).map zad)),(4,.box [.own 5 (dgM (wdl s s.vars.length) n 0).length]),(0,q3 s)]) (by rw [dgR_zero]);refine rangeB (m:=(wdl s s.vars.length).length) (e:=fun j=>(vI (((wdl s s.vars.length).length - 1 - j:Nat):Int),vI (zcv (wdl s s.vars.length) j))) [1,2,3,5,4] q9 (fun j=>[(1,.box (zai s)),(2,.box [.d (.raw (.int .i64 (dgR (wdl s s.vars.length) n j)))]),(3,q7),(5,.row 3 1 ((dgM (wdl s s.vars.length) n j).map zad)),(4,.box [.own 5 (dgM (wdl s s.vars.length) n j).length])]) (fun j=>[(3,vp 2 0),(4,vp 3 0),(5,vb false),(10,vp 4 0),(11,vI (((wdl s s.vars.length).length - 1 - j:Nat):Int)),(12,vI (zcv (wdl s s.vars.length) j))]) (fun j=>[(1,.box (zai s)),(2,.box [.d (.raw (.int .i64 (dgR (wdl s s.vars.length) n j)))]),(3,q7),(5,.row 3 1 ((dgM (wdl s s.vars.length) n j).map zad)),(4,.box [.own 5 (dgM (wdl s s.vars.length) n j).length])]) h (back_ints (wdl s s.vars.length) (by omega)) od1_6 rfl rfl (by decide) (by decide) (by decide) (by kernel_rfl) (by kernel_rfl) (by kernel_rfl) (by kernel_rfl) (by kernel_rfl) ?_ ?_ ?_
  ·clear h;intro H B l j a w hj h;refine rSeqX zd2 6 [] [(3,vp 2 0),(4,vp 3 0),(5,vb false),(10,vp 4 0),(11,vI (((wdl s s.vars.length).length - 1 - j:Nat):Int)),(44,vI (zcv (wdl s s.vars.length) j))] [(1,.box (zai s)),(2,.box [.d (.raw (.int .i64 (dgR (wdl s s.vars.length) n j)))]),(3,q7),(5,.row 3 1 ((dgM (wdl s s.vars.length) n j).map zad)),(4,.box [.own 5 (dgM (wdl s s.vars.length) n j).length])] (by kernel_rfl) (by kernel_rfl) h fun a w h=>?_;refine rSX zd2 6 [] [(3,vp 2 0),(4,vp 3 0),(5,vb false),(10,vp 4 0),(11,vI (((wdl s s.vars.length).length - 1 - j:Nat):Int)),(12,vI (zcv (wdl s s.vars.length) j))] [(1,.box (zai s)),(2,.box [.d (.raw (.int .i64 (dgR (wdl s s.vars.length) n j)))]),(3,q7),(5,.row 3 1 ((dgM (wdl s s.vars.length) n j).map zad)),(4,.box [.own 5 (dgM (wdl s s.vars.length) n j).length])] (by kernel_rfl) (by kernel_rfl) h fun a w h=>?_;exact ⟨rfl,atS h (by kernel_rfl) (by kernel_rfl)⟩
  ·clear h;intro H B l j a w hj h;have gb9:=hpo _ (back_mem hj);have gr9:=dgR_ge hpo hn9.2.1 j;have lm9:=dgM_len (wdl s s.vars.length) n j;refine wpX_block ?_;have hr8:0<=(dgR (wdl s s.vars.length) n j) % (zcv (wdl s s.vars.length) j)/\(dgR (wdl s s.vars.length) n j) % (zcv (wdl s s.vars.length) j)<(zcv (wdl s s.vars.length) j):=⟨Int.emod_nonneg _ (by omega),Int.emod_lt_of_pos _ (by omega)⟩;obtain ⟨x4,hx4⟩:=gl (dgM (wdl s s.vars.length) n j) ((wdl s s.vars.length).length - 1 - j);refine rSeqX zd2 6 [(4,.g (Op.rem (d:=49) (xt:=3) (yt:=3) (k:=.i64) (m:=(dgR (wdl s s.vars.length) n j)) (n:=(zcv (wdl s s.vars.length) j)) (r:=((dgR (wdl s s.vars.length) n j) % (zcv (wdl s s.vars.length) j))) (OV.tmp 47 _) (OV.tmp 48 _) (by omega) (Int.tmod_eq_emod_of_nonneg (show 0<=(dgR (wdl s s.vars.length) n j) by omega)))),(5,.g (xO 50 45 5 (dgM (wdl s s.vars.length) n j).length ((wdl s s.vars.length).length - 1 - j) zdo (OV.tmp 46 _))),(6,.g (Op.storeR (t:=50) (n:=5) (i:=((wdl s s.vars.length).length - 1 - j)) (fo:=0) (rty:=3) (es:=1) (r:=zad x4) (ds:=[.raw (.int .i64 ((dgR (wdl s s.vars.length) n j) % (zcv (wdl s s.vars.length) j)))]) (rs:=[(49,vI ((dgR (wdl s s.vars.length) n j) % (zcv (wdl s s.vars.length) j)))]) (rows:=(dgM (wdl s s.vars.length) n j).map zad) (rows':=((dgM (wdl s s.vars.length) n j).set ((wdl s s.vars.length).length - 1 - j) ((dgR (wdl s s.vars.length) n j) % (zcv (wdl s s.vars.length) j))).map zad) tl_7 (OV.tmp 49 _) rfl rfl rfl (zab hx4 (f:=zad)) (by simp [zad]) (zef (xs:=(dgM (wdl s s.vars.length) n j)) (F:=zad) ((wdl s s.vars.length).length - 1 - j) _ _ rfl)))] [(3,vp 2 0),(4,vp 3 0),(5,vb false),(12,vI (zcv (wdl s s.vars.length) j))] [(1,.box (zai s)),(2,.box [.d (.raw (.int .i64 (dgR (wdl s s.vars.length) n j)))]),(3,q7),(5,.row 3 1 (((dgM (wdl s s.vars.length) n j).set ((wdl s s.vars.length).length - 1 - j) ((dgR (wdl s s.vars.length) n j) % (zcv (wdl s s.vars.length) j))).map zad)),(4,.box [.own 5 (dgM (wdl s s.vars.length) n j).length])] (by kernel_rfl) (by kernel_rfl) h fun a w h=>?_;have hq8:0<=(dgR (wdl s s.vars.length) n j) / (zcv (wdl s s.vars.length) j)/\(dgR (wdl s s.vars.length) n j) / (zcv (wdl s s.vars.length) j)<=(dgR (wdl s s.vars.length) n j):=⟨Int.ediv_nonneg (by omega) (by omega),Int.ediv_le_self _ (by omega)⟩;refine rSX zd2 6 [(2,.g (Op.quo (d:=53) (xt:=3) (yt:=3) (k:=.i64) (m:=(dgR (wdl s s.vars.length) n j)) (n:=(zcv (wdl s s.vars.length) j)) (r:=((dgR (wdl s s.vars.length) n j) / (zcv (wdl s s.vars.length) j))) (OV.tmp 51 _) (OV.tmp 52 _) (by omega) (Int.tdiv_eq_ediv_of_nonneg (show 0<=(dgR (wdl s s.vars.length) n j) by omega)) i6))] [(4,vp 3 0),(5,vb false)] [(1,.box (zai s)),(2,.box [.d (.raw (.int .i64 ((dgR (wdl s s.vars.length) n j) / (zcv (wdl s s.vars.length) j))))]),(3,q7),(5,.row 3 1 (((dgM (wdl s s.vars.length) n j).set ((wdl s s.vars.length).length - 1 - j) ((dgR (wdl s s.vars.length) n j) % (zcv (wdl s s.vars.length) j))).map zad)),(4,.box [.own 5 (dgM (wdl s s.vars.length) n j).length])] (by kernel_rfl) (by kernel_rfl) h fun a w h=>?_;refine zac ?_;replace h:=h.conv (f':=F.of [(4,vp 3 0),(5,vb false)] [(1,.box (zai s)),(2,.box [.d (.raw (.int .i64 (dgR (wdl s s.vars.length) n (j+1))))]),(3,q7),(5,.row 3 1 (((dgM (wdl s s.vars.length) n j).set ((wdl s s.vars.length).length - 1 - j) ((dgR (wdl s s.vars.length) n j) % (zcv (wdl s s.vars.length) j))).map zad)),(4,.box [.own 5 (dgM (wdl s s.vars.length) n j).length])]) (by rw [show (dgR (wdl s s.vars.length) n j / zcv (wdl s s.vars.length) j:Int)=(dgR (wdl s s.vars.length) n (j+1)) from dgR_at hj]);replace h:=cv (fun z_:List Int=>F.of [(4,vp 3 0),(5,vb false)] [(1,.box (zai s)),(2,.box [.d (.raw (.int .i64 (dgR (wdl s s.vars.length) n (j+1))))]),(3,q7),(5,.row 3 1 (z_.map zad)),(4,.box [.own 5 (dgM (wdl s s.vars.length) n j).length])]) (show (((dgM (wdl s s.vars.length) n j).set ((wdl s s.vars.length).length - 1 - j) ((dgR (wdl s s.vars.length) n j) % (zcv (wdl s s.vars.length) j))):List Int)=(dgM (wdl s s.vars.length) n (j+1)) from (dgM_at hj)) h;replace h:=h.conv (f':=F.of [(4,vp 3 0),(5,vb false)] [(1,.box (zai s)),(2,.box [.d (.raw (.int .i64 (dgR (wdl s s.vars.length) n (j+1))))]),(3,q7),(5,.row 3 1 ((dgM (wdl s s.vars.length) n (j+1)).map zad)),(4,.box [.own 5 (dgM (wdl s s.vars.length) n (j+1)).length])]) (by simp only [dgM_len]);exact ⟨rfl,atS h (by kernel_rfl) (by kernel_rfl)⟩
  clear h;intro H Dd a w h;replace h:=cv (fun z_:List Int=>F.of q9 [(1,.box (zai s)),(2,.box [.d (.raw (.int .i64 (dgR (wdl s s.vars.length) n (wdl s s.vars.length).length)))]),(3,q7),(5,.row 3 1 (z_.map zad)),(4,.box [.own 5 z_.length])]) (show ((dgM (wdl s s.vars.length) n (wdl s s.vars.length).length):List Int)=(zdc s n) from (dgM_all _ _)) h;have ld9:(zdc s n).length=s.procs.length+s.vars.length:=(zhp _ _).trans lwd9;replace h:=pubS 5 1 3 ((zdc s n).map zad) q9 [(1,.box (zai s)),(2,.box [.d (.raw (.int .i64 (dgR (wdl s s.vars.length) n (wdl s s.vars.length).length)))]),(3,q7),(4,.box [.d (.sl 1 ((zdc s n).map zad))])] h rfl trivial (show zcj _ [(zdc s n).length] from ⟨by first | exact (List.length_map _).symm | (simp;done) | (simp;omega),trivial⟩);refine rSeqX zd2 6 [(3,.len (za3 3 zav.d s.procs)),(6,.len (za3 3 zav.d s.procs)),(7,.g (Op.sliceD3 (d:=61) (t:=54) (h:=s.procs.length) (rows:=(zdc s n).map zad) (rows':=((zdc s n).take s.procs.length).map zad) zdo (OV.tmp 57 _) (OV.tmp 60 _) (by rw [List.length_map];omega) (by simp [List.map_take])))] [(2,vp 1 0),(4,vp 3 0),(5,vb false),(10,vp 4 0),(13,vp 6 0)] [(1,.box (zai s)),(3,q7),(4,.box [.d (.sl 1 ((zdc s n).map zad))]),(6,.box [.d (.sl 1 (((zdc s n).take s.procs.length).map zad)),.d (.raw za4)])] (by kernel_rfl) (by kernel_rfl) h fun a w h=>?_;refine wpX_seq ?_;refine rSeqX zd2 7 [(3,.len (za3 3 zav.d s.procs)),(4,.g (Op.sliceD (d:=67) (t:=63) (l:=s.procs.length) (h:=(zdc s n).length) (rows:=(zdc s n).map zad) (rows':=((zdc s n).drop s.procs.length).map zad) zdo (BO.yes (k:=.i64) (i:=s.procs.length) _ (OV.tmp 66 _)) (by rw [List.length_map];exact BO.no _) (by first | omega | (simp at *;omega)) (by first | omega | (simp only [List.length_map];omega) | (simp at *;omega)) (by first | (simp [List.map_drop];done) | (rw [List.take_of_length_le (by simp <;> omega)];simp [List.map_drop])))),(5,.len (za3 1 zad ((zdc s n).drop s.procs.length)))] [(2,vp 1 0),(4,vp 3 0),(5,vb false),(13,vp 6 0),(67,q1 s n),(68,q4 s n),(69,vI 0)] [(1,.box (zai s)),(3,q7),(6,.box [.d (.sl 1 (((zdc s n).take s.procs.length).map zad)),.d (.raw za4)])] (by kernel_rfl) (by kernel_rfl) h fun a w h=>?_;refine wpX_block ?_;replace h:=nilOLs 6 1 7 2 28 [.d (.sl 1 (((zdc s n).take s.procs.length).map zad)),.d (.raw za4)] [(2,vp 1 0),(4,vp 3 0),(5,vb false),(13,vp 6 0),(67,q1 s n),(68,q4 s n),(69,vI 0)] [(1,.box (zai s)),(3,q7),(6,.box [.d (.sl 1 (((zdc s n).take s.procs.length).map zad)),.own 7 0]),(7,.row 28 2 ([].map ziD))] h (by kernel_rfl) rfl rfl;replace h:=cv (fun z_:List ZI=>F.of [(2,vp 1 0),(4,vp 3 0),(5,vb false),(13,vp 6 0),(67,q1 s n),(68,q4 s n),(69,vI 0)] [(1,.box (zai s)),(3,q7),(6,.box [.d (.sl 1 (((zdc s n).take s.procs.length).map zad)),.own 7 0]),(7,.row 28 2 (z_.map ziD))]) (show ([]:List ZI)=((List.range 0).map (zg7 s n)) from rfl) h;replace h:=h.conv (f':=F.of [(2,vp 1 0),(4,vp 3 0),(5,vb false),(13,vp 6 0),(67,q1 s n),(68,q4 s n),(69,vI 0)] [(1,.box (zai s)),(3,q7),(6,.box [.d (.sl 1 (((zdc s n).take s.procs.length).map zad)),.own 7 ((List.range 0).map (zg7 s n)).length]),(7,.row 28 2 (((List.range 0).map (zg7 s n)).map ziD))]) (by rfl)
  refine loopX (ι:=(Nat)) (fun v=>v<=s.vars.length)
    (fun v=>[(2,vp 1 0),(4,vp 3 0),(5,vb false),(13,vp 6 0),(67,q1 s n),(68,q4 s n),(69,vN v)])
    (fun v=>[(1,.box (zai s)),(3,q7),(6,.box [.d (.sl 1 (((zdc s n).take s.procs.length).map zad)),.own 7 ((List.range v).map (zg7 s n)).length]),(7,.row 28 2 (((List.range v).map (zg7 s n)).map ziD))])
    (fun v=>s.vars.length - v) 0 ?_ h (by kernel_rfl) (by kernel_rfl) ?_
  ·exact Nat.zero_le _
  clear h;rintro v a w hI h;have lvr9:((List.range v).map (zg7 s n)).length=v:=by rw [List.length_map,List.length_range]
  refine rSeqX zd2 8 [] [(2,vp 1 0),(4,vp 3 0),(5,vb false),(13,vp 6 0),(67,q1 s n),(68,q4 s n),(69,vN v),(70,vb (decide ((v:Int)<(((zdc s n).drop s.procs.length).length:Int))))] [(1,.box (zai s)),(3,q7),(6,.box [.d (.sl 1 (((zdc s n).take s.procs.length).map zad)),.own 7 ((List.range v).map (zg7 s n)).length]),(7,.row 28 2 (((List.range v).map (zg7 s n)).map ziD))] (by kernel_rfl) (by kernel_rfl) h fun a w h=>?_;refine wpX_seq ?_;refine condX (decide ((v:Int)<(((zdc s n).drop s.procs.length).length:Int))) h rfl (fun hc6=>?_) (fun hc7=>?_)
  ·have hc6':=dT hc6;refine wpX_skip (dfS h) ?_;refine za0 (wpX_seq (wpX_block ?_));obtain ⟨x5,hx5⟩:=gl ((zdc s n).drop s.procs.length) v;have gdx5:=dig_bd hpo (dig_mem hx5) hp;have hbl9:=bnd_len hn9.1 (v:=v) (by have:=zak hx5;have:((zdc s n).drop s.procs.length).length=s.vars.length:=by { rw [List.length_drop,ld9];omega };omega);refine rSeqX zd2 8 [(1,.g (xD 72 67 zdo (zab hx5 (f:=zad)) (OV.tmp 69 _)))] [(2,vp 1 0),(4,vp 3 0),(5,vb false),(13,vp 6 0),(14,vN v),(15,vI x5),(67,q1 s n),(68,q4 s n),(69,vN v)] [(1,.box (zai s)),(3,q7),(6,.box [.d (.sl 1 (((zdc s n).take s.procs.length).map zad)),.own 7 ((List.range v).map (zg7 s n)).length]),(7,.row 28 2 (((List.range v).map (zg7 s n)).map ziD))] (by kernel_rfl) (by kernel_rfl) h fun a w h=>?_;obtain ⟨x6,hx6⟩:=gl s.bounds v;have gx6:=hs.bnd x6 (lM hx6);have l1x6:=gx6.1.2;obtain ⟨r7,er7,vr7,or7,lr7⟩:=mkZ (v:=x5) (m:=2) (ZI.len_of (by have:=pw2;omega));obtain ⟨r8,er8,vr8,or8,lr8⟩:=mkZ (v:=x6.lo.val+r7.val) (m:=x6.lo.abs.length+r7.abs.length+1) (zdk gx6.1.1 or7);refine rSX zd2 8 [(5,.g (xD 79 77 kf_0 (zab hx6 (f:=zah.d)) (OV.tmp 78 _))),(9,.call (Fn.cast (SOf x5 ⟨by omega,by omega⟩) (congrArg vz er7.symm)) tm_10),(10,.call (Fn.cast (SAdd x6.lo r7 gx6.1.1 or7 (by omega) (by omega)) (congrArg vz er8.symm)) tl_9),(11,.g (bD 85 ([r8].map ziD) [(84,vz r8)] kk_3 (.cons (i:=0) (OV.tmp 84 _) (.nil)) (by kernel_rfl) (by simp [ziD]))),(12,.g (aD 86 75 85 7 8 ((List.range v).map (zg7 s n)) [r8] ziD kk_4 (by simp [ziD])))] [(2,vp 1 0),(4,vp 3 0),(5,vb false),(13,vp 6 0),(67,q1 s n),(68,q4 s n),(69,vN v)] [(1,.box (zai s)),(3,q7),(6,.box ([.d (.sl 1 (((zdc s n).take s.procs.length).map zad)),.own 8 (((List.range v).map (zg7 s n))++[r8]).length])),(8,.row 28 2 ((((List.range v).map (zg7 s n))++[r8]).map ziD))] (by kernel_rfl) (by kernel_rfl) h fun a w h=>?_;refine zac (za0 ?_);refine rSX zd2 9 [(0,.add .i64 (m:=(v:Int)) (n:=1) i6)] [(2,vp 1 0),(4,vp 3 0),(5,vb false),(13,vp 6 0),(67,q1 s n),(68,q4 s n),(69,vI ((v:Int)+1))] [(1,.box (zai s)),(3,q7),(6,.box ([.d (.sl 1 (((zdc s n).take s.procs.length).map zad)),.own 8 (((List.range v).map (zg7 s n))++[r8]).length])),(8,.row 28 2 ((((List.range v).map (zg7 s n))++[r8]).map ziD))] (by kernel_rfl) (by kernel_rfl) h fun a w h=>?_;refine za0 ?_;rw [show ((((List.range v).map (zg7 s n))++[r8]):List ZI)=((List.range (v+1)).map (zg7 s n)) from (by rw [List.range_succ,List.map_append];congr 1;show [r8]=[zg7 s n v];rw [er8,vr7];unfold zg7;rw [zci hx6,dig_at hx5])] at h;replace h:=zd9 8 7 [(2,vp 1 0),(4,vp 3 0),(5,vb false),(13,vp 6 0),(67,q1 s n),(68,q4 s n),(69,vI ((v:Int)+1))] [(1,.box (zai s)),(3,q7),(6,.box [.d (.sl 1 (((zdc s n).take s.procs.length).map zad)),.own 7 ((List.range (v+1)).map (zg7 s n)).length]),(7,.row 28 2 (((List.range (v+1)).map (zg7 s n)).map ziD))] h;refine zag (x:=v) (y:=v+1) h ?_ ?_
   ·have:=zak hx5;have:((zdc s n).drop s.procs.length).length=s.vars.length:=by rw [List.length_drop,ld9];omega
    show v+1<=s.vars.length;omega
   show s.vars.length - (v+1)<s.vars.length - v;have:=zak hx5;have:((zdc s n).drop s.procs.length).length=s.vars.length:=by rw [List.length_drop,ld9];omega
   omega
  have hc7':=dF hc7;refine wpX_exit (dfS h) ?_;refine zaa (zaa (za5 (za0 ?_)));refine rSeqX zd2 9 [] [(4,vp 3 0),(5,vb true)] [(3,.box [.d (.sl 1 (((zdc s n).take s.procs.length).map zad)),.own 7 ((List.range v).map (zg7 s n)).length]),(7,.row 28 2 (((List.range v).map (zg7 s n)).map ziD))] (by kernel_rfl) (by kernel_rfl) h fun a w h=>?_;refine wpX_ret (dfS h) ?_;replace h:=pubS 7 2 28 (((List.range v).map (zg7 s n)).map ziD) [(4,vp 3 0),(5,vb true)] [(3,.box [.d (.sl 1 (((zdc s n).take s.procs.length).map zad)),.d (.sl 2 (((List.range v).map (zg7 s n)).map ziD))])] h rfl trivial (show zcj _ [((List.range v).map (zg7 s n)).length] from ⟨by first | exact (List.length_map _).symm | (simp;done) | (simp;omega),trivial⟩);refine retX [.agg [.d (.sl 1 (((zdc s n).take s.procs.length).map zad)),.d (.sl 2 (((List.range v).map (zg7 s n)).map ziD))],.c (.d (.raw (.bool true)))] h Exit.ret (.inl rfl)  rfl ⟨RV.agg _ 3 0 _ _ _ _ kk_5 rfl rfl rfl rfl,RV.tmp _ _ rfl,trivial⟩ ?_ (by kernel_rfl) (by kernel_rfl);have hv9:s.vars.length=v:=by have h8:=dF hc7;have:((zdc s n).drop s.procs.length).length=s.vars.length:=(by rw [List.length_drop,ld9];omega);omega
  rw [show zcz s n=(stN s n,true) from if_pos hn9];unfold stN;rw [hv9];rfl
 rw [hc8] at h;refine Jq 9 [] [(2,vp 1 0),(3,vp 2 0),(4,vp 3 0),(5,vb false),(31,vb true)] [(1,.box (zai s)),(2,q8 n),(3,q7)] h fun a w h=>?_;refine cS true h (fun _=>?_) nofun
 refine Jp 9 [] q10 h fun a w h=>?_;refine qV (za2 ?_);replace h:=zbj 3 0 1 [.d (.raw za4),.d (.raw za4)] q10 [(1,.box (zai s)),(2,q8 n),(3,q5)] h rfl rfl;replace h:=zbj 3 1 2 [.d (.sl 1 ([].map zad)),.d (.raw za4)] q10 [(1,.box (zai s)),(2,q8 n),(3,q2)] h rfl rfl;refine leave_nil ?_;refine zdb [.agg [.d (.sl 1 ([].map zad)),.d (.sl 2 ([].map ziD))],.c (.d (.raw (.bool false)))] h Exit.ret (.inl rfl)  rfl ⟨RV.agg _ 3 0 _ _ _ _ kk_5 rfl rfl rfl rfl,RV.tmp _ _ rfl,trivial⟩ ?_;rw [show zcz s n=(⟨[],[]⟩,false) from if_neg (fun hz8=>by have:=hz8.1;rw [hc8] at this;exact Bool.noConfusion this)];rfl
theorem oe1_0:za6 Tryz.prog 19:=za6.mk' (by kernel_rfl)
def vws (s:zan):List Int:=(List.range s.vars.length).map (wdV s)
def pws (s:zan):List Int:=s.procs.map zdd
theorem pws_len (s:zan):(pws s).length=s.procs.length:=by unfold pws;rw [List.length_map]
theorem digS_eq (s:zan) (n:Int):zdc s n=(dgs (pws s) (dgs (vws s) n).2).1++(dgs (vws s) n).1:=by unfold zdc wdl;rw [dgs_app];rfl
theorem vws_mem {s:zan} (h:∀ w ∈ wdl s s.vars.length,1<=w):∀ w ∈ vws s,1<=w:=fun w hw=>h w (List.mem_append_right _ hw)
theorem pws_mem {s:zan} (h:∀ w ∈ wdl s s.vars.length,1<=w):∀ w ∈ pws s,1<=w:=fun w hw=>h w (List.mem_append_left _ hw)
theorem of1_0:ElZ Tryz.prog 42 47 2:=ElZ.mk' Tryz.underlying42 _ _ rfl rfl (by kernel_rfl) (by kernel_rfl) (by kernel_rfl) (by decide)
theorem of1_5:za6 Tryz.prog 32:=za6.mk' (by kernel_rfl)
theorem of1_8:za6 Tryz.prog 26:=za6.mk' (by kernel_rfl)
theorem of1_12:za6 Tryz.prog 84:=za6.mk' (by kernel_rfl)
theorem cnt_pos {s:zan} (h:0<(zbw s).1):(zbw s).2=true:=by
 unfold zbw prdB at h ⊢
 split
 ·rename_i hk
  rw [if_pos hk] at h
  split
  ·rfl
  ·rename_i h0
   rw [if_neg h0] at h
   split
   ·rfl
   ·rename_i h1;rw [if_neg h1] at h;simp at h
 ·rename_i hk;rw [if_neg hk] at h;simp at h
theorem cnt_bd (s:zan):0<=(zbw s).1/\(zbw s).1<=1048576\/(zbw s).1<0:=by
 unfold zbw prdB
 split
 ·split
  ·left;decide
  ·split
   ·rename_i h1;by_cases h2:prd (wdl s s.vars.length)<0
    ·right;exact h2
    ·left;exact ⟨by show 0<=prd _;omega,h1⟩
   ·left;decide
 ·left;decide
def cN (s:zan):Nat:=(zbw s).1.toNat
theorem cN_le (s:zan):cN s<=1048576:=by unfold cN;rcases cnt_bd s with h | h <;> omega
theorem cN_lt {s:zan} {i:Nat} (h:(i:Int)<(zbw s).1):i<cN s:=by unfold cN;omega
theorem cN_ge {s:zan} {i:Nat} (h:¬ (i:Int)<(zbw s).1) (hi:i<=cN s):i=cN s:=by unfold cN at hi ⊢;omega
theorem st19_in {s:zan} {i:Nat} (h:(i:Int)<(zbw s).1):zcz s (i:Int)=(stN s (i:Int),true):=if_pos ⟨cnt_pos (by omega),by omega,h⟩
def stI (s:zan) (i:Nat):StD:=stN s (i:Int)
def allT (s:zan):List StD:=(List.range (cN s)).map (stI s)
def zd3 (s:zan):List StD:=(allT s).filter (first s)
theorem rng_flt {β:Type} (F:Nat->β) (p:β->Bool) (v:Nat):((List.range (v+1)).map F).filter p=((List.range v).map F).filter p++(if p (F v)=true then [F v] else []):=by
 rw [List.range_succ,List.map_append,List.filter_append,List.map_singleton]
 congr 1
 cases h:p (F v) with
 | true=>rw [List.filter_cons_of_pos h,if_pos rfl];rfl
 | false=>rw [List.filter_cons_of_neg (by rw [h];exact Bool.noConfusion),if_neg Bool.noConfusion];rfl
theorem of_len2 {d:Int} (h0:0<=d) (h1:d<8796093021952):(ZI.of d).abs.length<=2:=ZI.len_of (by have:=pw2;omega)
theorem stN_ok {s:zan} {L:Nat} (hs:zb1 L s) (hp:zc2 s) {n:Int} (hn:(zbw s).2=true/\0<=n/\n<(zbw s).1):zd0 (L+3) (stN s n):=by
 obtain ⟨hpo,_⟩:=wds_pos hp hn.1 hn.2.1 hn.2.2
 refine ⟨?_,?_,fun z hz=>?_⟩
 ·show ((zdc s n).take s.procs.length).length<=10
  rw [List.length_take];have:=hs.procs;omega
 ·show ((List.range s.vars.length).map (zg7 s n)).length<=10
  rw [List.length_map,List.length_range];have:=hs.vars;omega
 ·obtain ⟨v,hv,rfl⟩:=List.mem_map.1 hz
  refine ⟨ZI.lb_of _,?_⟩
  have hb:=zf8 hs v
  have hd:0<=((zdc s n)[s.procs.length+v]?).getD 0/\((zdc s n)[s.procs.length+v]?).getD 0<8796093021952:=by
   cases e:(zdc s n)[s.procs.length+v]? with
   | none=>exact ⟨Int.le_refl _,(by decide)⟩
   | some d=>exact dig_bd hpo (List.mem_of_getElem? e) hp
  have h1:=zdk hb.1.1 (ZI.lb_of (((zdc s n)[s.procs.length+v]?).getD 0))
  rw [ZI.val_of] at h1
  have h2:=of_len2 hd.1 hd.2
  have h3:=hb.1.2
  show (ZI.of _).abs.length<=_
  omega
theorem dgs_div {ns:List Int} (h:∀ w ∈ ns,1<=w) (n:Int):(dgs ns n).2=n / prd ns:=by
 induction ns with
 | nil=>show n=n / 1;rw [Int.ediv_one]
 | cons w ns ih =>
  show (dgs ns n).2 / w=_
  have h1:=zfj fun x hx=>h x (List.mem_cons_of_mem w hx)
  rw [ih fun x hx=>h x (by simp [hx]),ze4,Int.ediv_ediv_of_nonneg (by omega),Int.mul_comm]
theorem dgs_zero:∀ (ns:List Int),(dgs ns 0).1=List.replicate ns.length 0/\(dgs ns 0).2=0
 | []=>⟨rfl,rfl⟩
 | w :: ns=>by
  obtain ⟨h1,h2⟩:=dgs_zero ns
  refine ⟨?_,?_⟩
  ·show (dgs ns 0).2 % w :: (dgs ns 0).1=_;rw [h1,h2,Int.zero_emod];rfl
  ·show (dgs ns 0).2 / w=0;rw [h2,Int.zero_ediv]
theorem dgs_inj {ns:List Int} (h:∀ w ∈ ns,1<=w):∀ {n:Int}, 0<=n->(∀ d ∈ (dgs ns n).1,d=0)->(dgs ns n).2=0->n=0:=by
 induction ns with
 | nil=>intro n _ _ h2;exact h2
 | cons w ns ih =>
  intro n hn hd h2
  have h2:(dgs ns n).2 / w=0:=h2
  have h3:(dgs ns n).2 % w=0:=hd _ (by show _ ∈ _ :: _;simp)
  have h4:=Int.emod_add_mul_ediv (dgs ns n).2 w
  rw [h2,h3,Int.mul_zero] at h4
  exact ih (fun x hx=>h x (by simp [hx])) hn (fun d hd2=>hd d (by show _ ∈ _ :: _;simp [hd2])) (by omega)
theorem locs_of {s:zan} (n:Int):(stN s n).locs=(dgs (pws s) (dgs (vws s) n).2).1:=by
 show (zdc s n).take s.procs.length=_
 rw [digS_eq,List.take_append_of_le_length (by rw [zhp,pws_len];exact Nat.le_refl _),List.take_of_length_le (by rw [zhp,pws_len];exact Nat.le_refl _)]
theorem locs_mono {s:zan} (hp:zc2 s) {n m:Nat} (hn:n<=m) (hm:(m:Int)<(zbw s).1) (h:(stI s n).locs.any (fun l=>l != 0)=true):(stI s m).locs.any (fun l=>l != 0)=true:=by
 have hc:=cnt_pos (show 0<(zbw s).1 by omega)
 obtain ⟨hpo,_⟩:=wds_pos hp hc (show (0:Int)<=m by omega) hm
 rcases cnt_val hc with e | ⟨e,_,_⟩
 ·omega
 cases hx:(stI s m).locs.any (fun l=>l != 0) with
 | true=>rfl
 | false =>
  exfalso
  have hz:∀ d ∈ (dgs (pws s) (dgs (vws s) (m:Int)).2).1,d=0:=fun d hd=>by
   have h1:(stI s m).locs.any (fun l=>l != 0)=false:=hx
   unfold stI at h1
   rw [locs_of] at h1
   have:=List.any_eq_false.1 h1 d hd
   simpa using this
  have hv:=dgs_div (vws_mem hpo) (m:Int)
  have hv0:0<=(dgs (vws s) (m:Int)).2:=(dgs_ge (vws_mem hpo) (by omega)).1
  have hq:(dgs (pws s) (dgs (vws s) (m:Int)).2).2=0:=by
   rw [dgs_div (pws_mem hpo),hv]
   have hm2:(m:Int)<prd (pws s)*prd (vws s):=by
    have e2:prd (wdl s s.vars.length)=prd (pws s)*prd (vws s):=by unfold wdl;rw [zhh];rfl
    rw [<- e2,<- e];exact hm
   have hp1:=zfj (pws_mem hpo)
   have hp2:=zfj (vws_mem hpo)
   exact Int.ediv_eq_zero_of_lt (Int.ediv_nonneg (by omega) (by omega)) (Int.ediv_lt_of_lt_mul (by omega) hm2)
  have hr:=dgs_inj (pws_mem hpo) hv0 hz hq
  have hn2:(dgs (vws s) (n:Int)).2=0:=by
   rw [dgs_div (vws_mem hpo)]
   rw [hv] at hr
   have hp2:=zfj (vws_mem hpo)
   have h4:(m:Int)<prd (vws s):=by
    have h5:=Int.emod_add_mul_ediv (m:Int) (prd (vws s))
    have h6:=Int.emod_lt_of_pos (m:Int) (show 0<prd (vws s) by omega)
    rw [hr,Int.mul_zero] at h5
    omega
   exact Int.ediv_eq_zero_of_lt (by omega) (by omega)
  unfold stI at h
  rw [locs_of,hn2,(dgs_zero _).1] at h
  rw [List.any_eq_true] at h
  obtain ⟨d,hd,h7⟩:=h
  rw [(List.mem_replicate.1 hd).2] at h7
  cases h7
theorem fst_cut {s:zan} (hp:zc2 s) {n:Nat} (hn:(n:Int)<(zbw s).1) (h:(stI s n).locs.any (fun l=>l != 0)=true):((List.range n).map (stI s)).filter (first s)=zd3 s:=by
 unfold zd3 allT
 have hlt:=cN_lt hn
 have e:List.range (cN s)=List.range n++(List.range' n (cN s - n)):=by
  rw [List.range_eq_range', List.range_eq_range', <- Nat.add_sub_cancel' (Nat.le_of_lt hlt),<- List.range'_append_1,Nat.zero_add,Nat.add_sub_cancel_left]
 have h0:((List.range' n (cN s - n)).map (stI s)).filter (first s)=[]:=List.filter_eq_nil_iff.2 fun x hx=>?_
 ·rw [e,List.map_append,List.filter_append,h0,List.append_nil]
 obtain ⟨m,hm,rfl⟩:=List.mem_map.1 hx
 have hm:=List.mem_range'_1.1 hm
 have h1:=locs_mono hp (n:=n) (m:=m) hm.1 (by have:=hm.2;unfold cN at *;omega) h
 unfold first
 rw [h1];simp
def zb3 (c:zaz) (v:Nat):List Int:=((List.range v).filter (zb7 c)).map Int.ofNat
theorem freeI_yes {c:zaz} {v:Nat} (h:zb7 c v=true):zb3 c v++[(v:Int)]=zb3 c (v+1):=by unfold zb3;rw [List.range_succ,List.filter_append,List.map_append,List.filter_cons_of_pos h];rfl
theorem freeI_no {c:zaz} {v:Nat} (h:zb7 c v=false):zb3 c v=zb3 c (v+1):=by unfold zb3;rw [List.range_succ,List.filter_append,List.map_append,List.filter_cons_of_neg (by rw [h];exact Bool.noConfusion)];simp
theorem freeI_len (c:zaz) (v:Nat):(zb3 c v).length<=v:=by unfold zb3;rw [List.length_map];exact Nat.le_trans (List.length_filter_le _ _) (by rw [List.length_range];exact Nat.le_refl _)
theorem freeAt_no {c:zaz} {v:Nat} (h:zih c v=none):zb7 c v=false:=by unfold zb7;rw [h]
theorem freeAt_is {c:zaz} {v:Nat} {m:zaf} (h:zih c v=some m):zb7 c v=m.any:=by unfold zb7;rw [h]
theorem OFirst1 (l:Int) :Fn Tryz.prog 32 [] [vI l] (vb (l != 0)) []:=by
 refine Fn.body Tryz.func32 rfl 5 rfl fun w H B a h=>Jq 0 [] [(0,vI l),(2,vb false)] [] h fun a w h=>Jq 0 [] [(2,vb (l != 0))] [] h fun a w h=>qV (rT (.c (cB (l != 0))) h rfl ?_)
 rfl
theorem SIdxF19 (pr:Int->Bool) (xs:List Int) (hf:∀ x ∈ xs,Fn Tryz.prog 32 [] [vI x] (vb (pr x)) []) (hl:xs.length<=9223372036854775807):Fn Tryz.prog 67 [] [(vIs xs),.t (.c (.fn (.func 32) [] []))] (vI (zcf pr xs 0)) []:=by
 refine Fn.body Tryz.func67 rfl 19 rfl fun w H B a h=>Jq 5 [] [(0,(vIs xs)),(1,.t (.c (.fn (.func 32) [] []))),(4,vI 0)] [] h fun a w h=>qW (Jd 5 [(1,.len (za3 1 zad xs))] [] [(7,vN xs.length),(8,vI 0)] [] h fun a w h=>qZ ?_)
 refine zb5 (ι:=(Nat)) (fun j=>j<=xs.length/\zcf pr xs 0=zcf pr (xs.drop j) j)
   (fun j=>[(0,(vIs xs)),(1,.t (.c (.fn (.func 32) [] []))),(7,vN xs.length),(8,vN j)])
   (fun j=>[])
   (fun j=>xs.length - j) 0 ?_ h (by kernel_rfl) (by kernel_rfl) ?_
 ·exact ⟨Nat.zero_le _,rfl⟩
 clear h;rintro j a w hI h;obtain ⟨hI1,hI2⟩:=hI;refine Jd 5 [] [] [(9,vb (decide ((j:Int)<(xs.length:Int))))] [] h fun a w h=>qW (zap ((j:Int)<(xs.length:Int)) h (fun hc1 hc1'=>?_) (fun hc4 hc4'=>?_))
 ·refine qU (za0 (qW (qZ (Jd 5 [] [9] [(5,vN j)] [] h fun a w h=>?_))));obtain ⟨x1,hx1⟩:=gl xs j;refine Jd 5 [(3,.g (xD 14 12 zdo (zab hx1 (f:=zad)) (OV.tmp 13 _))),(5,.g (Op.callV (d:=16) (t:=11) (cap:=[]) (args:=[vI x1]) (rs:=[(15,vI x1)]) (tys:=#[3]) (hf x1 (lM hx1)) of1_5 (OVs.cons (OV.tmp 15 _) (OVs.nil))))] [] [(16,vb (pr x1))] [] h fun a w h=>cS (pr x1) h (fun hc2=>?_) (fun hc3=>?_)
  ·refine Jd 5 [] [5,16] [(4,vN j)] [] h fun a w h=>qV (za7 (za2 (za2 (za7 (za2 (rT (.c (cI (j:Int))) h rfl ?_))))));have hz:zcf pr xs 0=(j:Int):=by rw [hI2,zca hx1,if_pos hc2]
   rw [hz];try rfl
  refine qU (zac (za0 (Jm 5 [(0,.j1 j)] [5,16] [(8,vI ((j:Int)+1))] [] h fun a w h=>za0 (zag (x:=j) (y:=j+1) h ?_ ?_))))
  ·exact ⟨by have:=zak hx1;omega,by rw [hI2,zca hx1,if_neg (by rw [hc3];exact Bool.noConfusion)]⟩
  (try simp);omega
 refine wp_exit (zaa (zaa (za5 (za0 (Jq 5 [] [(4,vI (-1))] [] h fun a w h=>qV (rT (.c (cI (-1))) h rfl ?_))))));have hz:zcf pr xs 0=-1:=by rw [hI2,List.drop_of_length_le (by omega)];rfl
 rw [hz];try rfl
theorem SAnyF19 (pr:Int->Bool) (xs:List Int) (hf:∀ x ∈ xs,Fn Tryz.prog 32 [] [vI x] (vb (pr x)) []) (hl:xs.length<=9223372036854775807):Fn Tryz.prog 31 [] [(vIs xs),.t (.c (.fn (.func 32) [] []))] (vb (xs.any pr)) []:=by
 refine Fn.body Tryz.func31 rfl 9 rfl fun w H B a h=>Jq 5 [] [(0,(vIs xs)),(1,.t (.c (.fn (.func 32) [] []))),(4,vb false)] [] h fun a w h=>Jq 5 [(2,.call (SIdxF19 pr xs  hf  hl) kg_7)] [(4,vb (decide (zcf pr xs 0>=0)))] [] h fun a w h=>qV (rT (.c (cB (decide (zcf pr xs 0>=0)))) h rfl ?_)
 rw [<- zf1];try rfl
theorem OFirsts (s:zan) {L:Nat} (hs:zb1 L s) (hL:L<=1000) (hp:zc2 s):Fn Tryz.prog 8 [] [vG (zai s)] (vS 2 ((zd3 s).map StD.d)) []:=by
 have lbs:=hs.bnds;have lvs:=hs.vars;have lps:=hs.procs;have lwd:=zet s;refine Fn.body Tryz.func8 rfl 36 rfl fun w H B a h=>Jq 1 [] [(1,vp 1 0),(2,vW za4)] [(1,.box (zai s))] h fun a w h=>Je 2 [] [] [(3,vW za4)] h fun a w h=>Je 2 [(1,.call (OCount s hs hL hp) od1_0)] [] [(4,vI (zbw s).1)] h fun a w h=>qW (Je 2 [] [4] [(14,vI (zbw s).1),(15,vI 0)] h fun a w h=>qZ ?_)
 replace h:=ze5 3 0 2 2 47 (vW za4) [(1,vp 1 0),(2,vW za4),(3,vO 2 0),(14,vI (zbw s).1),(15,vI 0)] [(1,.box (zai s)),(2,.row 47 2 ([].map StD.d))] h (by kernel_rfl) rfl rfl;replace h:=cv (fun z_:List StD=>F.of [(1,vp 1 0),(2,vW za4),(3,vO 2 0),(14,vI (zbw s).1),(15,vI 0)] [(1,.box (zai s)),(2,.row 47 2 (z_.map StD.d))]) (show ([]:List StD)=(((List.range 0).map (stI s)).filter (first s)) from rfl) h;replace h:=h.conv (f':=F.of [(1,vp 1 0),(2,vW za4),(3,vO 2 (((List.range 0).map (stI s)).filter (first s)).length),(14,vI (zbw s).1),(15,vI 0)] [(1,.box (zai s)),(2,.row 47 2 ((((List.range 0).map (stI s)).filter (first s)).map StD.d))]) (by rfl)
 refine zb5 (ι:=(Nat)) (fun i=>i<=cN s)
   (fun i=>[(1,vp 1 0),(2,vW za4),(3,vO 2 (((List.range i).map (stI s)).filter (first s)).length),(14,vI (zbw s).1),(15,vN i)])
   (fun i=>[(1,.box (zai s)),(2,.row 47 2 ((((List.range i).map (stI s)).filter (first s)).map StD.d))])
   (fun i=>cN s - i) 0 ?_ h (by kernel_rfl) (by kernel_rfl) ?_
 ·exact Nat.zero_le _
 clear h;rintro i a w hI h;have lcn:=cN_le s;have lal:(((List.range i).map (stI s)).filter (first s)).length<=i:=Nat.le_trans (List.length_filter_le _ _) (by rw [List.length_map,List.length_range];exact Nat.le_refl _);refine Je 3 [] [] [(16,vb (decide ((i:Int)<(zbw s).1)))] h fun a w h=>qW (zap ((i:Int)<(zbw s).1) h (fun hc1 hc1'=>?_) (fun hc6 hc6'=>?_))
 ·refine qU (za0 (qW (qZ (Je 3 [] [16] [(6,vN i)] h fun a w h=>Jd 3 [(2,.call (Fn.cast (OState s (i:Int) hs hL hp) (show (.tup [.agg [cIs (zcz s (i:Int)).1.locs,cZs (zcz s (i:Int)).1.vals],.c (cB (zcz s (i:Int)).2)]:V) = .tup [.agg [cIs (stI s i).locs,cZs (stI s i).vals],.c (cB true)] from by rw [st19_in (dT hc1)];rfl)) of1_8)] [6] [(7,vp 3 0)] [(1,.box (zai s)),(2,.row 47 2 ((((List.range i).map (stI s)).filter (first s)).map StD.d)),(3,.box [cIs (stI s i).locs,cZs (stI s i).vals])] h fun a w h=>qW (Je 4 [(2,.call (SAnyF19 (fun l=>l != 0) (stI s i).locs (fun l _=>OFirst1 l) (by have h8:=dT hc1;have:zd0 (L+3) (stI s i):=stN_ok hs hp ⟨cnt_pos (by omega),by omega,h8⟩;have:=this.locs;omega)) kg_8)] [] [(26,vb ((stI s i).locs.any fun l=>l != 0))] h fun a w h=>cS ((stI s i).locs.any fun l=>l != 0) h (fun hc2=>?_) (fun hc3=>?_))))))
  ·have hc2':=hc2;(try simp at hc2');refine wp_exit (zaa (block_x rfl (zaa (zaa (za5 (za0 (Jq 4 [] [(2,vO 2 (((List.range i).map (stI s)).filter (first s)).length)] [(2,.row 47 2 ((((List.range i).map (stI s)).filter (first s)).map StD.d))] h fun a w h=>qV ?_)))))));replace h:=cv (fun z_:List StD=>F.of [(2,vO 2 z_.length)] [(2,.row 47 2 (z_.map StD.d))]) (show ((((List.range i).map (stI s)).filter (first s)):List StD)=(zd3 s) from (fst_cut hp (dT hc1) hc2)) h;replace h:=pubS 2 2 47 ((zd3 s).map StD.d) [(2,vS 2 ((zd3 s).map StD.d))] [] h rfl (show zcj _ [(zd3 s).length] from ⟨by first | exact (List.length_map _).symm | (simp;done) | (simp;omega),trivial⟩) trivial;refine rT (.c (.d (.sl 2 ((zd3 s).map StD.d)))) h rfl ?_;rfl
  have hc3':=hc3;(try simp at hc3');refine qU (za0 (Je 4 [(2,.call (SFirst s (stI s i) (L:=L) (M:=L+3) (by omega) hs (stN_ok hs hp ⟨cnt_pos (by have:=dT hc1;omega),by omega,dT hc1⟩)) kn_6)] [26] [(29,vb (first s (stI s i)))] h fun a w h=>cS (first s (stI s i)) h (fun hc4=>?_) (fun hc5=>?_)))
  ·refine Jm 4 [(2,.g (bD 32 ([(stI s i)].map StD.d) [(31,vG [cIs (stI s i).locs,cZs (stI s i).vals])] of1_0 (.cons (i:=0) (OV.tmp 31 _) (.nil)) (by kernel_rfl) (by simp [StD.d]))),(3,.g (aD 33 30 32 2 4 (((List.range i).map (stI s)).filter (first s)) [(stI s i)] StD.d kn_1 (by simp [StD.d])))] [7,29] [(3,vO 4 ((((List.range i).map (stI s)).filter (first s))++[(stI s i)]).length)] [(1,.box (zai s)),(4,.row 47 2 (((((List.range i).map (stI s)).filter (first s))++[(stI s i)]).map StD.d))] h fun a w h=>zac (za0 (Jf 5 [(0,.j1 i)] [] [(15,vI ((i:Int)+1))] h fun a w h=>za0 ?_));rw [show (((((List.range i).map (stI s)).filter (first s))++[(stI s i)]):List StD)=(((List.range (i+1)).map (stI s)).filter (first s)) from (by rw [rng_flt,hc4];first | (rw [if_pos rfl];done) | (rw [if_neg Bool.noConfusion,List.append_nil];done) | simp)] at h;replace h:=zd9 4 2 [(1,vp 1 0),(2,vW za4),(3,vO 2 (((List.range (i+1)).map (stI s)).filter (first s)).length),(14,vI (zbw s).1),(15,vI ((i:Int)+1))] [(1,.box (zai s)),(2,.row 47 2 ((((List.range (i+1)).map (stI s)).filter (first s)).map StD.d))] h;refine zag (x:=i) (y:=i+1) h ?_ ?_
   ·have:=cN_lt (dT hc1);show i+1<=cN s;omega
   show cN s - (i+1)<cN s - i;have:=cN_lt (dT hc1);omega
  refine qU (zac (za0 (Jm 5 [(0,.j1 i)] [7,29] [(15,vI ((i:Int)+1))] [(1,.box (zai s)),(2,.row 47 2 ((((List.range i).map (stI s)).filter (first s)).map StD.d))] h fun a w h=>za0 ?_)));replace h:=cv (fun z_:List StD=>F.of [(1,vp 1 0),(2,vW za4),(3,vO 2 z_.length),(14,vI (zbw s).1),(15,vI ((i:Int)+1))] [(1,.box (zai s)),(2,.row 47 2 (z_.map StD.d))]) (show ((((List.range i).map (stI s)).filter (first s)):List StD)=(((List.range (i+1)).map (stI s)).filter (first s)) from (by rw [rng_flt,hc5];first | (rw [if_pos rfl];done) | (rw [if_neg Bool.noConfusion,List.append_nil];done) | simp)) h;refine zag (x:=i) (y:=i+1) h ?_ ?_
  ·have:=cN_lt (dT hc1);show i+1<=cN s;omega
  show cN s - (i+1)<cN s - i;have:=cN_lt (dT hc1);omega
 refine wp_exit (zaa (zaa (za5 (za0 (Jq 5 [] [(2,vO 2 (((List.range i).map (stI s)).filter (first s)).length)] [(2,.row 47 2 ((((List.range i).map (stI s)).filter (first s)).map StD.d))] h fun a w h=>qV ?_)))));replace h:=cv (fun z_:List StD=>F.of [(2,vO 2 z_.length)] [(2,.row 47 2 (z_.map StD.d))]) (show ((((List.range i).map (stI s)).filter (first s)):List StD)=(zd3 s) from (by rw [cN_ge (dF hc6) hI];rfl)) h;replace h:=pubS 2 2 47 ((zd3 s).map StD.d) [(2,vS 2 ((zd3 s).map StD.d))] [] h rfl (show zcj _ [(zd3 s).length] from ⟨by first | exact (List.length_map _).symm | (simp;done) | (simp;omega),trivial⟩) trivial;refine rT (.c (.d (.sl 2 ((zd3 s).map StD.d)))) h rfl ?_;rfl
theorem OFree1 (m:zaf) (v:Nat) :Fn Tryz.prog 84 [(7,.box [cI (v:Int)])] [vG ([cI m.v,cB m.any,cPs m.t.parts]++zi m.t.k),vp 7 0] (vb (m.v == (v:Int))) [(7,.box [cI (v:Int)])]:=by
 refine Fn.body Tryz.func84 rfl 8 rfl fun w H B a h=>Jq 9 [] [(1,vp 7 0),(2,vp 9 0),(3,vb false)] [(7,.box [cI (v:Int)]),(9,.box ([cI m.v,cB m.any,cPs m.t.parts]++zi m.t.k))] h fun a w h=>Jq 10 [] [(3,vb (m.v == (v:Int)))] [(7,.box [cI (v:Int)])] h fun a w h=>qV (rT (.c (cB (m.v == (v:Int)))) h rfl ?_)
 rfl
theorem SIdxFV (pr:zaf->Bool) (xs:List zaf) (v:Nat) (hf:∀ x ∈ xs,Fn Tryz.prog 84 [(7,.box [cI (v:Int)])] [vG ([cI x.v,cB x.any,cPs x.t.parts]++zi x.t.k),vp 7 0] (vb (pr x)) [(7,.box [cI (v:Int)])]) (hl:xs.length<=9223372036854775807):Fn Tryz.prog 83 [(7,.box [cI (v:Int)])] [vS 5 (xs.map zaf.d),.t (.c (.fn (.func 84) [] [.ptr 7 0]))] (vI (zcf pr xs 0)) [(7,.box [cI (v:Int)])]:=by
 refine Fn.body Tryz.func83 rfl 19 rfl fun w H B a h=>Jq 8 [] [(0,vS 5 (xs.map zaf.d)),(1,.t (.c (.fn (.func 84) [] [.ptr 7 0]))),(4,vI 0)] [(7,.box [cI (v:Int)])] h fun a w h=>qW (Je 8 [(1,.len (za3 5 zaf.d xs))] [] [(7,vN xs.length),(8,vI 0)] h fun a w h=>qZ ?_)
 refine zb5 (ι:=(Nat)) (fun j=>j<=xs.length/\zcf pr xs 0=zcf pr (xs.drop j) j)
   (fun j=>[(0,vS 5 (xs.map zaf.d)),(1,.t (.c (.fn (.func 84) [] [.ptr 7 0]))),(7,vN xs.length),(8,vN j)])
   (fun j=>[(7,.box [cI (v:Int)])])
   (fun j=>xs.length - j) 0 ?_ h (by kernel_rfl) (by kernel_rfl) ?_
 ·exact ⟨Nat.zero_le _,rfl⟩
 clear h;rintro j a w hI h;obtain ⟨hI1,hI2⟩:=hI;refine Je 8 [] [] [(9,vb (decide ((j:Int)<(xs.length:Int))))] h fun a w h=>qW (zap ((j:Int)<(xs.length:Int)) h (fun hc1 hc1'=>?_) (fun hc4 hc4'=>?_))
 ·refine qU (za0 (qW (qZ (Je 8 [] [9] [(5,vN j)] h fun a w h=>?_))));obtain ⟨x1,hx1⟩:=gl xs j;refine Je 8 [(3,.g (xD 14 12 ki_2 (zab hx1 (f:=zaf.d)) (OV.tmp 13 _))),(5,.g (Op.callV (d:=16) (t:=11) (cap:=[.ptr 7 0]) (args:=[vG ([cI x1.v,cB x1.any,cPs x1.t.parts]++zi x1.t.k)]) (rs:=[(15,vG ([cI x1.v,cB x1.any,cPs x1.t.parts]++zi x1.t.k))]) (tys:=#[105]) (hf x1 (lM hx1)) of1_12 (OVs.cons (OV.tmp 15 _) (OVs.nil))))] [] [(16,vb (pr x1))] h fun a w h=>cS (pr x1) h (fun hc2=>?_) (fun hc3=>?_)
  ·refine Je 8 [] [5,16] [(4,vN j)] h fun a w h=>qV (za7 (za2 (za2 (za7 (za2 (rT (.c (cI (j:Int))) h rfl ?_))))));have hz:zcf pr xs 0=(j:Int):=by rw [hI2,zca hx1,if_pos hc2]
   rw [hz];try rfl
  refine qU (zac (za0 (Jf 8 [(0,.j1 j)] [5,16] [(8,vI ((j:Int)+1))] h fun a w h=>za0 (zag (x:=j) (y:=j+1) h ?_ ?_))))
  ·exact ⟨by have:=zak hx1;omega,by rw [hI2,zca hx1,if_neg (by rw [hc3];exact Bool.noConfusion)]⟩
  (try simp);omega
 refine wp_exit (zaa (zaa (za5 (za0 (Jp 8 [] [(4,vI (-1))] h fun a w h=>qV (rT (.c (cI (-1))) h rfl ?_))))));have hz:zcf pr xs 0=-1:=by rw [hI2,List.drop_of_length_le (by omega)];rfl
 rw [hz];try rfl
theorem OFree (s:zan) (c:zaz) {L:Nat} (hs:zb1 L s) (hc:zgk L c):Fn Tryz.prog 41 [] [vG (zai s),vG ([cI c.proc,cI c.from_,cI c.to_,cI c.guard.kind,cPs c.guard.r.t.parts]++zi c.guard.r.t.k++[cB c.guard.r.eq,cFs c.guard.kids,.d (.sl 5 (c.moves.map zaf.d))])] (vIs (zb3 c s.vars.length)) []:=by
 have lvs:=hs.vars;have lmv:=hc.len;refine Fn.body Tryz.func41 rfl 34 rfl fun w H B a h=>Jq 4 [] [(2,vp 4 0),(3,vp 5 0),(4,vW za4)] [(4,.box (zai s)),(5,.box ([cI c.proc,cI c.from_,cI c.to_,cI c.guard.kind,cPs c.guard.r.t.parts]++zi c.guard.r.t.k++[cB c.guard.r.eq,cFs c.guard.kids,.d (.sl 5 (c.moves.map zaf.d))]))] h fun a w h=>Je 6 [] [] [(5,vW za4)] h fun a w h=>qW (Jd 6 [(2,.len (za3 1 zc6 s.vars))] [2] [(10,vN s.vars.length),(11,vI 0)] [(5,.box ([cI c.proc,cI c.from_,cI c.to_,cI c.guard.kind,cPs c.guard.r.t.parts]++zi c.guard.r.t.k++[cB c.guard.r.eq,cFs c.guard.kids,.d (.sl 5 (c.moves.map zaf.d))]))] h fun a w h=>qZ ?_)
 replace h:=ze5 5 0 6 1 3 (vW za4) [(3,vp 5 0),(4,vW za4),(5,vO 6 0),(10,vN s.vars.length),(11,vI 0)] [(5,.box ([cI c.proc,cI c.from_,cI c.to_,cI c.guard.kind,cPs c.guard.r.t.parts]++zi c.guard.r.t.k++[cB c.guard.r.eq,cFs c.guard.kids,.d (.sl 5 (c.moves.map zaf.d))])),(6,.row 3 1 ([].map zad))] h (by kernel_rfl) rfl rfl;replace h:=cv (fun z_:List Int=>F.of [(3,vp 5 0),(4,vW za4),(5,vO 6 0),(10,vN s.vars.length),(11,vI 0)] [(5,.box ([cI c.proc,cI c.from_,cI c.to_,cI c.guard.kind,cPs c.guard.r.t.parts]++zi c.guard.r.t.k++[cB c.guard.r.eq,cFs c.guard.kids,.d (.sl 5 (c.moves.map zaf.d))])),(6,.row 3 1 (z_.map zad))]) (show ([]:List Int)=(zb3 c 0) from rfl) h;replace h:=h.conv (f':=F.of [(3,vp 5 0),(4,vW za4),(5,vO 6 (zb3 c 0).length),(10,vN s.vars.length),(11,vI 0)] [(5,.box ([cI c.proc,cI c.from_,cI c.to_,cI c.guard.kind,cPs c.guard.r.t.parts]++zi c.guard.r.t.k++[cB c.guard.r.eq,cFs c.guard.kids,.d (.sl 5 (c.moves.map zaf.d))])),(6,.row 3 1 ((zb3 c 0).map zad))]) (by rfl)
 refine zb5 (ι:=(Nat)) (fun v=>v<=s.vars.length)
   (fun v=>[(3,vp 5 0),(4,vW za4),(5,vO 6 (zb3 c v).length),(10,vN s.vars.length),(11,vN v)])
   (fun v=>[(5,.box ([cI c.proc,cI c.from_,cI c.to_,cI c.guard.kind,cPs c.guard.r.t.parts]++zi c.guard.r.t.k++[cB c.guard.r.eq,cFs c.guard.kids,.d (.sl 5 (c.moves.map zaf.d))])),(6,.row 3 1 ((zb3 c v).map zad))])
   (fun v=>s.vars.length - v) 0 ?_ h (by kernel_rfl) (by kernel_rfl) ?_
 ·exact Nat.zero_le _
 clear h;rintro v a w hI h;have lfr:=freeI_len c v;refine Je 7 [] [] [(12,vb (decide ((v:Int)<(s.vars.length:Int))))] h fun a w h=>qW (zap ((v:Int)<(s.vars.length:Int)) h (fun hc1 hc1'=>?_) (fun hc4 hc4'=>?_))
 ·refine qU (za0 (qW (qZ (Jd 7 [] [12] [(6,vp 7 0)] [(5,.box ([cI c.proc,cI c.from_,cI c.to_,cI c.guard.kind,cPs c.guard.r.t.parts]++zi c.guard.r.t.k++[cB c.guard.r.eq,cFs c.guard.kids,.d (.sl 5 (c.moves.map zaf.d))])),(6,.row 3 1 ((zb3 c v).map zad)),(7,.box [cI (v:Int)])] h fun a w h=>?_))))
  rcases zeq (fun m=>m.v == (v:Int)) c.moves with ⟨hix,hmv⟩ | ⟨k,m,hix,hmk,hmv⟩
  ·have hfa:=freeAt_no (c:=c) (v:=v) hmv;refine Je 8 [(2,.g (Op.makeFs (d:=16) (fn:=.func 84) [(6,7,0)])),(3,.call (Fn.cast (SIdxFV (fun m=>m.v == (v:Int)) c.moves v (fun m _=>OFree1 m v) (by have:=hc.len;omega)) (congrArg (vi .i64) hix)) ki_4)] [] [(7,vI (-1))] h fun a w h=>Je 8 [(1,.cmp (op:=.geq) (m:=(-1)) (n:=0) (b:=false) .i64 (show (decide ((-1)>=0))=false from by decide))] [7] [(27,vb false)] h fun a w h=>zbn false h rfl nofun (fun _=>qU (zac (za0 (Jm 8 [(0,.add .i64 (m:=(v:Int)) (n:=1) i6)] [6,27] [(11,vI ((v:Int)+1))] [(5,.box ([cI c.proc,cI c.from_,cI c.to_,cI c.guard.kind,cPs c.guard.r.t.parts]++zi c.guard.r.t.k++[cB c.guard.r.eq,cFs c.guard.kids,.d (.sl 5 (c.moves.map zaf.d))])),(6,.row 3 1 ((zb3 c v).map zad))] h fun a w h=>za0 ?_))))
   replace h:=cv (fun z_:List Int=>F.of [(3,vp 5 0),(4,vW za4),(5,vO 6 z_.length),(10,vN s.vars.length),(11,vI ((v:Int)+1))] [(5,.box ([cI c.proc,cI c.from_,cI c.to_,cI c.guard.kind,cPs c.guard.r.t.parts]++zi c.guard.r.t.k++[cB c.guard.r.eq,cFs c.guard.kids,.d (.sl 5 (c.moves.map zaf.d))])),(6,.row 3 1 (z_.map zad))]) (show ((zb3 c v):List Int)=(zb3 c (v+1)) from (freeI_no hfa)) h;refine zag (x:=v) (y:=v+1) h ?_ ?_
   ·show v+1<=s.vars.length;omega
   show s.vars.length - (v+1)<s.vars.length - v;omega
  have hfa:=freeAt_is (c:=c) (v:=v) hmv;have lmk:=zak hmk;refine Je 8 [(2,.g (Op.makeFs (d:=16) (fn:=.func 84) [(6,7,0)])),(3,.call (Fn.cast (SIdxFV (fun m=>m.v == (v:Int)) c.moves v (fun m _=>OFree1 m v) (by have:=hc.len;omega)) (congrArg (vi .i64) hix)) ki_4)] [] [(7,vN k)] h fun a w h=>Je 8 [(1,.cmp (op:=.geq) (m:=(k:Int)) (n:=0) (b:=true) .i64 (show (decide ((k:Int)>=0))=true from decide_eq_true (by omega))),(6,.g (xD 24 22 ki_2 (zab hmk (f:=zaf.d)) (OV.tmp 23 _)))] [7] [(27,vb m.any)] h fun a w h=>cS m.any h (fun hc2=>?_) (fun hc3=>?_)
  ·refine Jm 8 [(2,.g (bD 30 ([(v:Int)].map zad) [(29,vN v)] tb_0 (.cons (i:=0) (OV.tmp 29 _) (.nil)) (by kernel_rfl) (by simp [zad]))),(3,.g (aD 31 28 30 6 8 (zb3 c v) [(v:Int)] zad tb_2 (by simp [zad])))] [6,27] [(5,vO 8 ((zb3 c v)++[(v:Int)]).length)] [(5,.box ([cI c.proc,cI c.from_,cI c.to_,cI c.guard.kind,cPs c.guard.r.t.parts]++zi c.guard.r.t.k++[cB c.guard.r.eq,cFs c.guard.kids,.d (.sl 5 (c.moves.map zaf.d))])),(8,.row 3 1 (((zb3 c v)++[(v:Int)]).map zad))] h fun a w h=>zac (za0 (Jf 9 [(0,.add .i64 (m:=(v:Int)) (n:=1) i6)] [] [(11,vI ((v:Int)+1))] h fun a w h=>za0 ?_));rw [show (((zb3 c v)++[(v:Int)]):List Int)=(zb3 c (v+1)) from (freeI_yes (hfa.trans hc2))] at h;replace h:=zd9 8 6 [(3,vp 5 0),(4,vW za4),(5,vO 6 (zb3 c (v+1)).length),(10,vN s.vars.length),(11,vI ((v:Int)+1))] [(5,.box ([cI c.proc,cI c.from_,cI c.to_,cI c.guard.kind,cPs c.guard.r.t.parts]++zi c.guard.r.t.k++[cB c.guard.r.eq,cFs c.guard.kids,.d (.sl 5 (c.moves.map zaf.d))])),(6,.row 3 1 ((zb3 c (v+1)).map zad))] h;refine zag (x:=v) (y:=v+1) h ?_ ?_
   ·show v+1<=s.vars.length;omega
   show s.vars.length - (v+1)<s.vars.length - v;omega
  refine qU (zac (za0 (Jm 9 [(0,.add .i64 (m:=(v:Int)) (n:=1) i6)] [6,27] [(11,vI ((v:Int)+1))] [(5,.box ([cI c.proc,cI c.from_,cI c.to_,cI c.guard.kind,cPs c.guard.r.t.parts]++zi c.guard.r.t.k++[cB c.guard.r.eq,cFs c.guard.kids,.d (.sl 5 (c.moves.map zaf.d))])),(6,.row 3 1 ((zb3 c v).map zad))] h fun a w h=>za0 ?_)));replace h:=cv (fun z_:List Int=>F.of [(3,vp 5 0),(4,vW za4),(5,vO 6 z_.length),(10,vN s.vars.length),(11,vI ((v:Int)+1))] [(5,.box ([cI c.proc,cI c.from_,cI c.to_,cI c.guard.kind,cPs c.guard.r.t.parts]++zi c.guard.r.t.k++[cB c.guard.r.eq,cFs c.guard.kids,.d (.sl 5 (c.moves.map zaf.d))])),(6,.row 3 1 (z_.map zad))]) (show ((zb3 c v):List Int)=(zb3 c (v+1)) from (freeI_no (hfa.trans hc3))) h;refine zag (x:=v) (y:=v+1) h ?_ ?_
  ·show v+1<=s.vars.length;omega
  show s.vars.length - (v+1)<s.vars.length - v;omega
 refine wp_exit (zaa (zaa (za5 (za0 (Jq 9 [] [(4,vO 6 (zb3 c v).length)] [(6,.row 3 1 ((zb3 c v).map zad))] h fun a w h=>qV ?_)))));replace h:=cv (fun z_:List Int=>F.of [(4,vO 6 z_.length)] [(6,.row 3 1 (z_.map zad))]) (show ((zb3 c v):List Int)=(zb3 c s.vars.length) from (by rw [show s.vars.length=v by have:=dF hc4;omega])) h;replace h:=pubS 6 1 3 ((zb3 c s.vars.length).map zad) [(4,(vIs (zb3 c s.vars.length)))] [] h rfl (show zcj _ [(zb3 c s.vars.length).length] from ⟨by first | exact (List.length_map _).symm | (simp;done) | (simp;omega),trivial⟩) trivial;refine rT (.c (cIs (zb3 c s.vars.length))) h rfl ?_;rfl
mutual
/-- y is x, with nil read as an empty slice here and zdq -/
inductive Wk:D->D->Prop
  | refl (x:D):Wk x x
  | nil (es:Nat):Wk (.raw za4) (.sl es [])
  | sl (es:Nat) (a b:List (List D)) (h:WkR a b):Wk (.sl es a) (.sl es b)
inductive WkL:List D->List D->Prop
  | nil:WkL [] []
  | cons (x y:D) (xs ys:List D) (h:Wk x y) (hs:WkL xs ys):WkL (x :: xs) (y :: ys)
inductive WkR:List (List D)->List (List D)->Prop
  | nil:WkR [] []
  | cons (x y:List D) (xs ys:List (List D)) (h:WkL x y) (hs:WkR xs ys):WkR (x :: xs) (y :: ys)
end
def WkM (x y:D):Prop:=∀ (H:Im) (v:Value),DR H x v->DR H y v
def WkLM (xs ys:List D):Prop:=xs.length=ys.length/\∀ j (h:j<xs.length) (h':j<ys.length),WkM xs[j] ys[j]
def WkRM (xs ys:List (List D)):Prop:=xs.length=ys.length/\∀ i (h:i<xs.length) (h':i<ys.length),WkLM xs[i] ys[i]
theorem Wk.sound {x y:D} (h:Wk x y):WkM x y:=by
 refine Wk.rec (motive_1:=fun x y _=>WkM x y) (motive_2:=fun x y _=>WkLM x y) (motive_3:=fun x y _=>WkRM x y) ?_ ?_ ?_ ?_ ?_ ?_ ?_ h
 ·intro x H v h;exact h
 ·intro es H v h
  cases h with
  | raw v h=>exact DR.nil _ _ _ (fun _=>rfl) (Nat.zero_le _)
 ·intro es a b _ ih H v h
  cases h with
  | nil es ao c h hc =>
   have:b=[]:=List.length_eq_zero_iff.1 ih.1.symm
   subst this
   exact DR.nil _ _ _ h hc
  | sl es rows bb o c arr ty fz vs hp hb hl hc hes hv hr =>
   rw [ih.1] at hp hl ⊢
   refine DR.sl es b bb o c arr ty fz vs hp hb hl hc (fun i hi=>?_) (fun i hi=>?_) (fun i hi j hj=>?_)
   ·have h0:i<a.length:=by rw [ih.1];exact hi
    rw [<- (ih.2 i h0 hi).1];exact hes i h0
   ·exact hv i (by rw [ih.1];exact hi)
   ·have h0:i<a.length:=by rw [ih.1];exact hi
    have hj0:j<a[i].length:=by rw [(ih.2 i h0 hi).1];exact hj
    exact (ih.2 i h0 hi).2 j hj0 hj _ _ (hr i h0 j hj0)
 ·exact ⟨rfl,fun j h=>absurd h (Nat.not_lt_zero j)⟩
 ·intro x y xs ys _ _ h hs
  refine ⟨by simp [hs.1],fun j hj hj'=>?_⟩
  cases j with
  | zero=>exact h
  | succ j=>exact hs.2 j (by simpa using hj) (by simpa using hj')
 ·exact ⟨rfl,fun j h=>absurd h (Nat.not_lt_zero j)⟩
 ·intro x y xs ys _ _ h hs
  refine ⟨by simp [hs.1],fun j hj hj'=>?_⟩
  cases j with
  | zero=>exact h
  | succ j=>exact hs.2 j (by simpa using hj) (by simpa using hj')
inductive WkC:List C->List C->Prop
  | nil:WkC [] []
  | same (x:C) (xs ys:List C) (hs:WkC xs ys):WkC (x :: xs) (x :: ys)
  | d (x y:D) (xs ys:List C) (h:Wk x y) (hs:WkC xs ys):WkC (.d x :: xs) (.d y :: ys)
theorem WkC.sound {H:Im} {B:Bl} {xs ys:List C} (h:WkC xs ys):∀ {vs:List Value}, zba (CR H B) xs vs->zba (CR H B) ys vs:=by
 induction h with
 | nil=>exact fun h=>h
 | same x xs ys _ ih =>
  intro vs k
  cases vs with
  | nil=>exact k.elim
  | cons v vs=>exact ⟨k.1,ih k.2⟩
 | d x y xs ys h _ ih =>
  intro vs k
  cases vs with
  | nil=>exact k.elim
  | cons v vs=>exact ⟨h.sound H v k.1,ih k.2⟩
inductive WkV:V->V->Prop
  | refl (x:V):WkV x x
  | c (x y:D) (h:Wk x y):WkV (.t (.c (.d x))) (.t (.c (.d y)))
  | agg (xs ys:List C) (h:WkC xs ys):WkV (.t (.agg xs)) (.t (.agg ys))
theorem WkV.sound {H:Im} {B:Bl} {x y:V} (h:WkV x y) {v:Value} (k:VR H B x v):VR H B y v:=by
 cases h with
 | refl=>exact k
 | c x y h=>exact h.sound H v k
 | agg xs ys h=>obtain ⟨vs,e,k⟩:=k;exact ⟨vs,e,h.sound k⟩
inductive WkA:List V->List V->Prop
  | nil:WkA [] []
  | cons (x y:V) (xs ys:List V) (h:WkV x y) (hs:WkA xs ys):WkA (x :: xs) (y :: ys)
theorem WkA.sound {H:Im} {B:Bl} {xs ys:List V} (h:WkA xs ys):∀ {vs:List Value}, zba (VR H B) xs vs->zba (VR H B) ys vs:=by
 induction h with
 | nil=>exact fun h=>h
 | cons x y xs ys h _ ih =>
  intro vs k
  cases vs with
  | nil=>exact k.elim
  | cons v vs=>exact ⟨h.sound k.1,ih k.2⟩
theorem Fn.argw {P:Program} {k:FuncId} {ps qs:List (Nat × L)} {args args':List V} {res:V} (h:Fn P k ps args' res qs) (hw:WkA args args'):Fn P k ps args res qs :=
 fun w H B vals pre=>h w H B vals ⟨pre.sat,pre.loc,pre.priv,pre.inj,hw.sound pre.arg,pre.tab⟩
theorem Fn.resw {P:Program} {k:FuncId} {ps qs:List (Nat × L)} {args:List V} {res res':V} (h:Fn P k ps args res qs) (hw:WkV res res'):Fn P k ps args res' qs :=
 fun w H B vals pre=>(h w H B vals pre).mono fun _en _w' ⟨v,H', B', e,p⟩=>⟨v,H', B', e,{ p with res:=hw.sound p.res }⟩
theorem og1_3:ElZ Tryz.prog 98 45 1:=ElZ.mk' Tryz.underlying98 _ _ rfl rfl (by kernel_rfl) (by kernel_rfl) (by kernel_rfl) (by decide)
theorem og1_7:SlT Tryz.prog 98 45 1:=SlT.mk' Tryz.underlying98 (by kernel_rfl)
theorem og1_8:za6 Tryz.prog 82:=za6.mk' (by kernel_rfl)
theorem og1_11:ElT Tryz.prog 98 45 1 24:=ElT.mk' Tryz.underlying98 _ _ rfl rfl (by kernel_rfl) (by kernel_rfl) (by kernel_rfl) (by decide) (by decide)
section
variable {w0:World} {H0:Im} {B0:Bl} {K:List Nat} {N:Nat} {a:Act} {w:World} {sl:List (Nat × V)} {lc:List (Nat × L)}
theorem wkS (t:Nat) (v v':V) (hw:WkV v v') (sl':List (Nat × V)) (lc':List (Nat × L)) (h:St ⟨w0,H0,B0,K,N⟩ (F.of sl lc) a w) (hv:sl.lookup t=some v)
  (h3:leS ((F.of sl lc).setS t v') sl'=sl'.map fun p=>some p.2) (h4:leN ((F.of sl lc).setS t v') lc'=lc'.map fun p=>some p.2):St ⟨w0,H0,B0,K,N⟩ (F.of sl' lc') a w :=
 St.weaken (f:=(F.of sl lc).setS t v') (by obtain ⟨H,B,hok⟩:=h;exact ⟨H,B,hok.setS t v _ hv fun u hu=>hw.sound hu⟩) (zg5 h3 h4)
end
def pv (s:zan) (v d:Nat):ZI:=ZI.of ((zat s v).lo.val+(d:Int))
def pk1 (s:zan) (v:Nat) (hd:List ZI):List (List ZI):=(List.range (wdV s v).toNat).map fun d=>hd++[pv s v d]
def pkS (s:zan) (v:Nat) (ps:List (List ZI)):List (List ZI):=ps.flatMap (pk1 s v)
def pkT (s:zan) (vs:List Int):List (List ZI):=vs.foldl (fun ps x=>pkS s x.toNat ps) [[]]
structure PksOk (s:zan) (vs:List Int):Prop where
  v:∀ x ∈ vs,0<=x/\x<(s.vars.length:Int)
  w:∀ x ∈ vs,1<=wdV s x.toNat
  p:prd (vs.map fun x=>wdV s x.toNat)<=1048576
  l:vs.length<=10
theorem pk1_len (s:zan) (v:Nat) (hd:List ZI):(pk1 s v hd).length=(wdV s v).toNat:=by unfold pk1;rw [List.length_map,List.length_range]
theorem pkS_len (s:zan) (v:Nat) (ps:List (List ZI)):(pkS s v ps).length=ps.length*(wdV s v).toNat:=by
 induction ps with
 | nil=>rw [List.length_nil,Nat.zero_mul];rfl
 | cons p ps ih =>
  show (pk1 s v p++pkS s v ps).length=_
  rw [List.length_append,ih,pk1_len,List.length_cons,Nat.succ_mul,Nat.add_comm]
theorem pkT_snoc (s:zan) (vs:List Int) (x:Int):pkT s (vs++[x])=pkS s x.toNat (pkT s vs):=by unfold pkT;rw [List.foldl_append];rfl
theorem pkT_at {s:zan} {vs:List Int} {i:Nat} {x:Int} (h:vs[i]?=some x):pkT s (vs.take (i+1))=pkS s x.toNat (pkT s (vs.take i)):=by rw [List.take_add_one,h];exact pkT_snoc _ _ _
theorem pkT_len {s:zan} {vs:List Int} (h:∀ x ∈ vs,0<=wdV s x.toNat):∀ i,i<=vs.length->((pkT s (vs.take i)).length:Int)=prd ((vs.map fun x=>wdV s x.toNat).take i)
 | 0,_=>by rw [List.take_zero,List.take_zero];rfl
 | i+1,hi=>by
  have hx:=List.getElem?_eq_getElem (l:=vs) (i:=i) (by omega)
  have h1:=h _ (List.mem_of_getElem? hx)
  rw [pkT_at hx,pkS_len,Int.natCast_mul,pkT_len h i (by omega),zfz (by rw [List.getElem?_map,hx];rfl),Int.toNat_of_nonneg h1]
theorem pkT_bd {s:zan} {vs:List Int} (h:PksOk s vs) {i:Nat} (hi:i<=vs.length):(pkT s (vs.take i)).length<=1048576:=by
 have h1:=pkT_len (s:=s) (vs:=vs) (fun x hx=>by have:=h.w x hx;omega) i hi
 have h2:=prd_ge (ns:=vs.map fun x=>wdV s x.toNat) (fun n hn=>by obtain ⟨x,hx,rfl⟩:=List.mem_map.1 hn;exact h.w x hx) i
 have:=h.p
 omega
theorem pk_each {s:zan} {vs:List Int}:∀ {hd:List ZI}, hd ∈ pkT s vs->hd.length=vs.length:=by
 have:∀ (n:Nat) (vs:List Int),vs.length=n->∀ hd ∈ pkT s vs,hd.length=n:=by
  intro n
  induction n with
  | zero=>intro vs hn hd hh;rw [List.length_eq_zero_iff.1 hn] at hh;rw [List.mem_singleton.1 hh];rfl
  | succ n ih =>
   intro vs hn hd hh
   rcases List.eq_nil_or_concat vs with rfl | ⟨ws,x,rfl⟩
   ·cases hn
   ·rw [List.concat_eq_append] at hn hh
    rw [pkT_snoc] at hh
    obtain ⟨p,hp,h2⟩:=List.mem_flatMap.1 hh
    obtain ⟨d,_,rfl⟩:=List.mem_map.1 h2
    rw [List.length_append] at hn ⊢
    rw [ih ws (by simpa using hn) p hp];rfl
 exact fun {hd} h=>this _ vs rfl hd h
theorem pk_row {s:zan} {v:Nat} {hd:List ZI} {d:Nat}:((List.range d).map fun d=>hd++[pv s v d])++[hd++[pv s v d]]=(List.range (d+1)).map fun d=>hd++[pv s v d]:=by rw [List.range_succ,List.map_append];rfl
theorem pkS_at {s:zan} {v:Nat} {ps:List (List ZI)} {j:Nat} {hd:List ZI} (h:ps[j]?=some hd):pkS s v (ps.take j)++pk1 s v hd=pkS s v (ps.take (j+1)):=by
 rw [List.take_add_one,h];unfold pkS;rw [List.flatMap_append];simp
theorem pk_room {s:zan} {v:Nat} {ps:List (List ZI)} {j:Nat} {hd:List ZI} {d:Nat} (hb:(pkS s v ps).length<=1048576) (h:ps[j]?=some hd) (hd':(d:Int)<=wdV s v):(pkS s v (ps.take j)++(List.range d).map fun d=>hd++[pv s v d]).length<=1048576:=by
 have h1:=congrArg List.length (pkS_at (s:=s) (v:=v) h)
 rw [List.length_append,pk1_len,pkS_len s v (ps.take (j+1))] at h1
 rw [List.length_append,List.length_map,List.length_range]
 rw [pkS_len] at hb
 have h2:(ps.take (j+1)).length<=ps.length:=by rw [List.length_take];omega
 have h3:=Nat.mul_le_mul_right (wdV s v).toNat h2
 omega
theorem SCloneZ1 (xs:List ZI) (hn:0<xs.length) (hl:xs.length<=1000000):Fn Tryz.prog 82 [] [(vZs xs)] (vO 0 xs.length) [(0,.row 28 2 (xs.map ziD))]:=by
 refine Fn.body Tryz.func82 rfl 8 rfl fun w H B a h=>Jq 1 [] [(0,(vZs xs)),(2,vW za4)] [] h fun a w h=>qW (Jd 1 [(1,.g (Op.eqNilD (d:=4) (t:=3) (es:=2) (xt:=45) (yt:=45) (rows:=xs.map ziD) zh9.hu ((by rw [List.length_map];exact hn)) (OV.const za4 rfl)))] [] [(4,vb false)] [] h fun a w h=>zbn false h rfl nofun (fun _=>qU (za0 (Jq 1 [(0,.g (Op.buildE (d:=5) (n:=1) kk_3)),(2,.g (Op.appOD (d:=7) (t:=5) (u:=6) (n:=1) (n':=2) (len:=0) (len':=xs.length) (rows:=[].map ziD) (rows2:=xs.map ziD) (rows':=xs.map ziD) kk_4 (by first | exact (List.length_map _).symm | simp) (by first | (rw [List.length_append,List.length_map];done) | simp) (by simp) (by simp [ziD]) (by first | omega | (simp at *;done) | (simp at *;omega))))] [(2,vO 2 xs.length)] [(2,.row 28 2 (xs.map ziD))] h fun a w h=>qV ?_))))
 replace h:=zd9 2 0 [(2,vO 0 xs.length)] [(0,.row 28 2 (xs.map ziD))] h;refine rT (.c (.own 0 xs.length)) h rfl ?_;rfl
theorem SCloneZ2 :Fn Tryz.prog 82 [] [vW za4] (vO 0 0) [(0,.row 28 2 ([].map ziD))]:=by
 refine Fn.body Tryz.func82 rfl 8 rfl fun w H B a h=>Jq 1 [] [(0,vW za4),(2,vW za4)] [] h fun a w h=>qW (Jd 1 [(1,.g (Op.eqNilR (d:=4) (xt:=45) (yt:=45) (ao:=none) (n:=0) (c:=0) zh9.hu (OV.tmp 3 _) (OV.const za4 rfl)))] [] [(4,vb true)] [] h fun a w h=>cS true h (fun _=>?_) nofun)
 refine Jd 1 [] [4] [] [] h fun a w h=>qV (za2 ?_);replace h:=ze5 2 0 1 2 28 (vW za4) [(0,vW za4),(2,vO 1 0)] [(1,.row 28 2 ([].map ziD))] h (by kernel_rfl) rfl rfl;replace h:=zd9 1 0 [(0,vW za4),(2,vO 0 0)] [(0,.row 28 2 ([].map ziD))] h;refine rT (.c (.own 0 0)) h rfl ?_;rfl
theorem SCloneZ3 (ao:Addr) (c:Nat) (hc:c<=maxLen):Fn Tryz.prog 82 [] [vW (.slice (some ao) 0 c)] (vO 0 0) [(0,.row 28 2 ([].map ziD))]:=by
 refine Fn.body Tryz.func82 rfl 8 rfl fun w H B a h=>Jq 1 [] [(0,vW (.slice (some ao) 0 c)),(2,vW za4)] [] h fun a w h=>qW (Jd 1 [(1,.g (Op.eqNilR (d:=4) (xt:=45) (yt:=45) (ao:=some ao) (n:=0) (c:=c) zh9.hu (OV.tmp 3 _) (OV.const za4 rfl)))] [] [(4,vb false)] [] h fun a w h=>zbn false h rfl nofun (fun _=>qU (za0 ?_)))
 replace h:=nilDSr 0 0 2 (vW (.slice (some ao) 0 c)) (some ao) c (fun e=>by cases e) hc [(0,(vZs [])),(2,vW za4),(4,vb false)] [] h rfl rfl;refine Jq 1 [(0,.g (Op.buildE (d:=5) (n:=1) kk_3)),(2,.g (Op.appOD (d:=7) (t:=5) (u:=6) (n:=1) (n':=2) (len:=0) (len':=0) (rows:=[].map ziD) (rows2:=[].map ziD) (rows':=[].map ziD) kk_4 (by first | exact (List.length_map _).symm | simp) (by first | (rw [List.length_append,List.length_map];done) | simp) (by simp) (by simp [ziD]) (by first | omega | (simp at *;done) | (simp at *;omega))))] [(2,vO 2 0)] [(2,.row 28 2 ([].map ziD))] h fun a w h=>qV ?_;replace h:=zd9 2 0 [(2,vO 0 0)] [(0,.row 28 2 ([].map ziD))] h;refine rT (.c (.own 0 0)) h rfl ?_;rfl
theorem SCloneZ (xs:List ZI) (hl:xs.length<=1000000):Fn Tryz.prog 82 [] [(vZs xs)] (vO 0 xs.length) [(0,.row 28 2 (xs.map ziD))]:=by
 cases xs with
 | nil =>
  refine Fn.rawE fun ao c h1 h2=>?_
  cases ao with
  | none=>obtain rfl:=h1 rfl;exact SCloneZ2
  | some ao=>exact SCloneZ3 ao c h2
 | cons x xs=>exact SCloneZ1 (x :: xs) (by simp) hl
theorem OPicks (s:zan) (vs:List Int) {L:Nat} (hs:zb1 L s) (hL:L<=1000) (hc:(zbw s).2=true) (hq:PksOk s vs):Fn Tryz.prog 40 [] [vG (zai s),(vIs vs)] (vS 1 ((pkT s vs).map (slD 2 ziD))) []:=by
 have lbs:=hs.bnds;have lvq:=hq.l;refine Fn.body Tryz.func40 rfl 61 rfl fun w H B a h=>Jq 1 [] [(1,(vIs vs)),(2,vp 1 0),(4,vW za4)] [(1,.box (zai s))] h fun a w h=>Je 2 [(0,.g (Op.buildD (d:=14) (len:=1) (rows:=[[.raw za4]]) (rs:=[]) og1_3 (.cons (i:=0) (OV.const za4 rfl) (.nil)) (by kernel_rfl) rfl (by simp) (by decide) (by decide)))] [] [(5,vS 1 [[.raw za4]])] h fun a w h=>qW ?_
 replace h:=wkS 5 (vS 1 [[.raw za4]]) (vS 1 ((pkT s (vs.take 0)).map (slD 2 ziD))) (WkV.c _ _ (Wk.sl 1 _ _ (WkR.cons _ _ _ _ (WkL.cons _ _ _ _ (Wk.nil 2) .nil) .nil))) [(1,(vIs vs)),(2,vp 1 0),(4,vW za4),(5,vS 1 ((pkT s (vs.take 0)).map (slD 2 ziD)))] [(1,.box (zai s))] h rfl (by kernel_rfl) (by kernel_rfl);refine Je 2 [(1,.len (za3 1 zad vs))] [1] [(15,(vIs vs)),(16,vN vs.length),(17,vI 0)] h fun a w h=>qZ ?_
 refine zb5 (ι:=(Nat)) (fun i=>i<=vs.length)
   (fun i=>[(2,vp 1 0),(4,vW za4),(5,vS 1 ((pkT s (vs.take i)).map (slD 2 ziD))),(15,(vIs vs)),(16,vN vs.length),(17,vN i)])
   (fun i=>[(1,.box (zai s))])
   (fun i=>vs.length - i) 0 ?_ h (by kernel_rfl) (by kernel_rfl) ?_
 ·exact Nat.zero_le _
 clear h;rintro i a w hI h;have lpk:=pkT_bd hq (i:=i) hI;refine Je 2 [] [] [(18,vb (decide ((i:Int)<(vs.length:Int))))] h fun a w h=>qW (zap ((i:Int)<(vs.length:Int)) h (fun hc1 hc1'=>?_) (fun hc6 hc6'=>?_))
 ·refine qU (za0 (qW (qZ ?_)));obtain ⟨x1,hx1⟩:=gl vs i;refine Je 2 [(0,.g (xD 19 15 zdo (zab hx1 (f:=zad)) (OV.tmp 17 _)))] [18] [(7,vI x1)] h fun a w h=>?_;obtain ⟨k,hkk⟩:∃ k_:Nat,x1=(k_:Int):=⟨_,(Int.toNat_of_nonneg (by have:=(hq.v x1 (lM hx1)).1;omega)).symm⟩;replace h:=h.conv (f':=F.of [(2,vp 1 0),(4,vW za4),(5,vS 1 ((pkT s (vs.take i)).map (slD 2 ziD))),(7,vN k),(15,(vIs vs)),(16,vN vs.length),(17,vN i)] [(1,.box (zai s))]) (by rw [hkk];kernel_rfl);have hbk:=bnd_len hc (v:=k) (by have:=(hq.v x1 (lM hx1)).2;omega);obtain ⟨x2,hx2⟩:=gl s.bounds k;have gx2:=hs.bnd x2 (lM hx2);have l1x2:=gx2.1.2;refine Jq 2 [(3,.g (xD 25 23 kf_0 (zab hx2 (f:=zah.d)) (OV.tmp 24 _))),(5,.call (Owidth x2 gx2 hL) ob1_5)] [(2,vp 1 0),(4,vW za4),(5,vS 1 ((pkT s (vs.take i)).map (slD 2 ziD))),(7,vN k),(8,vI (wdB x2).1),(15,(vIs vs)),(16,vN vs.length),(17,vN i)] [(1,.box (zai s))] h fun a w h=>Je 2 [] [] [(10,vW za4)] h fun a w h=>qW (Je 2 [(1,.len (c:=(.d (.sl 1 ((pkT s (vs.take i)).map (slD 2 ziD))))) (n:=(pkT s (vs.take i)).length) (za3 _ _ _))] [] [(30,vS 1 ((pkT s (vs.take i)).map (slD 2 ziD))),(31,vI ((pkT s (vs.take i)).length:Int)),(32,vI 0)] h fun a w h=>qZ ?_);replace h:=ze5 10 0 2 1 45 (vW za4) [(2,vp 1 0),(4,vW za4),(5,vS 1 ((pkT s (vs.take i)).map (slD 2 ziD))),(7,vN k),(8,vI (wdB x2).1),(10,vO 2 0),(15,(vIs vs)),(16,vN vs.length),(17,vN i),(30,vS 1 ((pkT s (vs.take i)).map (slD 2 ziD))),(31,vI ((pkT s (vs.take i)).length:Int)),(32,vI 0)] [(1,.box (zai s)),(2,.row 45 1 ([].map (slD 2 ziD)))] h (by kernel_rfl) rfl rfl;replace h:=cv (fun (z_:List (List ZI))=>F.of [(2,vp 1 0),(4,vW za4),(5,vS 1 ((pkT s (vs.take i)).map (slD 2 ziD))),(7,vN k),(8,vI (wdB x2).1),(10,vO 2 0),(15,(vIs vs)),(16,vN vs.length),(17,vN i),(30,vS 1 ((pkT s (vs.take i)).map (slD 2 ziD))),(31,vI ((pkT s (vs.take i)).length:Int)),(32,vI 0)] [(1,.box (zai s)),(2,.row 45 1 (z_.map (slD 2 ziD)))]) (show ([]:List (List ZI))=(pkS s k ((pkT s (vs.take i)).take 0)) from rfl) h;replace h:=h.conv (f':=F.of [(2,vp 1 0),(4,vW za4),(5,vS 1 ((pkT s (vs.take i)).map (slD 2 ziD))),(7,vN k),(8,vI (wdB x2).1),(10,vO 2 (pkS s k ((pkT s (vs.take i)).take 0)).length),(15,(vIs vs)),(16,vN vs.length),(17,vN i),(30,vS 1 ((pkT s (vs.take i)).map (slD 2 ziD))),(31,vI ((pkT s (vs.take i)).length:Int)),(32,vI 0)] [(1,.box (zai s)),(2,.row 45 1 ((pkS s k ((pkT s (vs.take i)).take 0)).map (slD 2 ziD)))]) (by rfl);have hwv:wdV s k=(wdB x2).1:=by unfold wdV;rw [zci hx2]
  have hnx:pkT s (vs.take (i+1))=pkS s k (pkT s (vs.take i)):=by rw [pkT_at hx1,hkk,Int.toNat_natCast]
  have lnx:(pkS s k (pkT s (vs.take i))).length<=1048576:=by rw [<- hnx];exact pkT_bd hq (by have:=zak hx1;omega)
  have hwb:=wdB_le x2
  refine zb5 (ι:=(Nat)) (fun j=>j<=(pkT s (vs.take i)).length)
    (fun j=>[(2,vp 1 0),(4,vW za4),(5,vS 1 ((pkT s (vs.take i)).map (slD 2 ziD))),(7,vN k),(8,vI (wdB x2).1),(10,vO 2 (pkS s k ((pkT s (vs.take i)).take j)).length),(15,(vIs vs)),(16,vN vs.length),(17,vN i),(30,vS 1 ((pkT s (vs.take i)).map (slD 2 ziD))),(31,vI ((pkT s (vs.take i)).length:Int)),(32,vN j)])
    (fun j=>[(1,.box (zai s)),(2,.row 45 1 ((pkS s k ((pkT s (vs.take i)).take j)).map (slD 2 ziD)))])
    (fun j=>(pkT s (vs.take i)).length - j) 0 ?_ h (by kernel_rfl) (by kernel_rfl) ?_
  ·exact Nat.zero_le _
  clear h;rintro j a w hI h;refine Je 3 [] [] [(33,vb (decide ((j:Int)<((pkT s (vs.take i)).length:Int))))] h fun a w h=>qW (zap ((j:Int)<((pkT s (vs.take i)).length:Int)) h (fun hc2 hc2'=>?_) (fun hc5 hc5'=>?_))
  ·refine qU (za0 (qW (qZ ?_)));obtain ⟨x4,hx4⟩:=gl (pkT s (vs.take i)) j;refine Je 3 [(0,.g (xD 34 30 og1_7 (zab hx4 (f:=(slD 2 ziD))) (OV.tmp 32 _)))] [33] [(12,(vZs x4))] h fun a w h=>Je 3 [] [] [(36,vI (wdB x2).1),(37,vI 0)] h fun a w h=>qZ ?_;replace h:=cv (fun (z_:List (List ZI))=>F.of [(2,vp 1 0),(4,vW za4),(5,vS 1 ((pkT s (vs.take i)).map (slD 2 ziD))),(7,vN k),(8,vI (wdB x2).1),(10,vO 2 z_.length),(12,(vZs x4)),(15,(vIs vs)),(16,vN vs.length),(17,vN i),(30,vS 1 ((pkT s (vs.take i)).map (slD 2 ziD))),(31,vI ((pkT s (vs.take i)).length:Int)),(32,vN j),(36,vI (wdB x2).1),(37,vI 0)] [(1,.box (zai s)),(2,.row 45 1 (z_.map (slD 2 ziD)))]) (show ((pkS s k ((pkT s (vs.take i)).take j)):List (List ZI))=((pkS s k ((pkT s (vs.take i)).take j))++(List.range 0).map fun d=>x4++[pv s k d]) from (by rw [List.range_zero,List.map_nil,List.append_nil])) h
   refine zb5 (ι:=(Nat)) (fun d=>(d:Int)<=(wdB x2).1)
     (fun d=>[(2,vp 1 0),(4,vW za4),(5,vS 1 ((pkT s (vs.take i)).map (slD 2 ziD))),(7,vN k),(8,vI (wdB x2).1),(10,vO 2 ((pkS s k ((pkT s (vs.take i)).take j))++(List.range d).map fun d=>x4++[pv s k d]).length),(12,(vZs x4)),(15,(vIs vs)),(16,vN vs.length),(17,vN i),(30,vS 1 ((pkT s (vs.take i)).map (slD 2 ziD))),(31,vI ((pkT s (vs.take i)).length:Int)),(32,vN j),(36,vI (wdB x2).1),(37,vN d)])
     (fun d=>[(1,.box (zai s)),(2,.row 45 1 (((pkS s k ((pkT s (vs.take i)).take j))++(List.range d).map fun d=>x4++[pv s k d]).map (slD 2 ziD)))])
     (fun d=>((wdB x2).1).toNat - d) 0 ?_ h (by kernel_rfl) (by kernel_rfl) ?_
   ·show ((0:Nat):Int)<=_;omega
   clear h;rintro d a w hI h;have lrm:=pk_room (d:=d) lnx hx4 (by omega);have lhd:x4.length<=10:=by have:=pk_each (lM hx4);rw [List.length_take] at this;have:=hq.l;omega
   refine Je 3 [] [] [(38,vb (decide ((d:Int)<(wdB x2).1)))] h fun a w h=>qW (zap ((d:Int)<(wdB x2).1) h (fun hc3 hc3'=>?_) (fun hc4 hc4'=>?_))
   ·refine qU (za0 (qW (qZ (Je 3 [] [38] [(13,vN d)] h fun a w h=>?_))));obtain ⟨r6,er6,vr6,or6,lr6⟩:=mkZ (v:=(d:Int)) (m:=2) (ZI.len_of (by have:=pw2;omega));obtain ⟨r7,er7,vr7,or7,lr7⟩:=mkZ (v:=x2.lo.val+r6.val) (m:=x2.lo.abs.length+r6.abs.length+1) (zdk gx2.1.1 or6);refine Jm 3 [(2,.call (SCloneZ x4 (by omega)) og1_8),(6,.g (xD 46 44 kf_0 (zab hx2 (f:=zah.d)) (OV.tmp 45 _))),(10,.call (Fn.cast (SOf (d:Int) ⟨by omega,by omega⟩) (congrArg vz er6.symm)) tm_10),(11,.call (Fn.cast (SAdd x2.lo r6 gx2.1.1 or6 (by omega) (by omega)) (congrArg vz er7.symm)) tl_9),(12,.g (bD 52 ([r7].map ziD) [(51,vz r7)] kk_3 (.cons (i:=0) (OV.tmp 51 _) (.nil)) (by kernel_rfl) (by simp [ziD]))),(13,.g (Op.appODp (d:=53) (t:=42) (u:=52) (n:=0) (n':=3) (len:=x4.length) (rows:=x4.map ziD) (rows2:=[r7].map ziD) (rows':=(x4++[r7]).map ziD) kk_4 (by first | exact (List.length_map _).symm | simp) (by simp) (by simp [ziD]) (by first | omega | (simp at *;done) | (simp at *;omega)))),(14,.g (bD 54 ([(x4++[r7])].map (slD 2 ziD)) [(53,(vZs (x4++[r7])))] og1_3 (.cons (i:=0) (OV.tmp 53 _) (.nil)) (by kernel_rfl) (by simp [slD]))),(15,.g (Op.appOD (d:=55) (t:=40) (u:=54) (n:=2) (n':=4) (len:=((pkS s k ((pkT s (vs.take i)).take j))++(List.range d).map fun d=>x4++[pv s k d]).length) (len':=(((pkS s k ((pkT s (vs.take i)).take j))++(List.range d).map fun d=>x4++[pv s k d])++[(x4++[r7])]).length) (rows:=((pkS s k ((pkT s (vs.take i)).take j))++(List.range d).map fun d=>x4++[pv s k d]).map (slD 2 ziD)) (rows2:=[(x4++[r7])].map (slD 2 ziD)) (rows':=(((pkS s k ((pkT s (vs.take i)).take j))++(List.range d).map fun d=>x4++[pv s k d])++[(x4++[r7])]).map (slD 2 ziD)) og1_11 (by first | exact (List.length_map _).symm | simp) (by first | (rw [List.length_append,List.length_map];done) | simp) (by simp) (by simp [slD]) (by first | omega | (simp at *;done) | (simp at *;omega))))] [13] [(10,vO 4 (((pkS s k ((pkT s (vs.take i)).take j))++(List.range d).map fun d=>x4++[pv s k d])++[(x4++[r7])]).length)] [(1,.box (zai s)),(4,.row 45 1 ((((pkS s k ((pkT s (vs.take i)).take j))++(List.range d).map fun d=>x4++[pv s k d])++[(x4++[r7])]).map (slD 2 ziD)))] h fun a w h=>zac (za0 (Jf 5 [(0,.add .i64 (m:=(d:Int)) (n:=1) i6)] [] [(37,vI ((d:Int)+1))] h fun a w h=>za0 ?_));rw [show ((((pkS s k ((pkT s (vs.take i)).take j))++(List.range d).map fun d=>x4++[pv s k d])++[(x4++[r7])]):List (List ZI))=((pkS s k ((pkT s (vs.take i)).take j))++(List.range (d+1)).map fun d=>x4++[pv s k d]) from (by rw [show r7=pv s k d by rw [er7,vr6];unfold pv;rw [zci hx2],List.append_assoc,pk_row])] at h;replace h:=zd9 4 2 [(2,vp 1 0),(4,vW za4),(5,vS 1 ((pkT s (vs.take i)).map (slD 2 ziD))),(7,vN k),(8,vI (wdB x2).1),(10,vO 2 ((pkS s k ((pkT s (vs.take i)).take j))++(List.range (d+1)).map fun d=>x4++[pv s k d]).length),(12,(vZs x4)),(15,(vIs vs)),(16,vN vs.length),(17,vN i),(30,vS 1 ((pkT s (vs.take i)).map (slD 2 ziD))),(31,vI ((pkT s (vs.take i)).length:Int)),(32,vN j),(36,vI (wdB x2).1),(37,vI ((d:Int)+1))] [(1,.box (zai s)),(2,.row 45 1 (((pkS s k ((pkT s (vs.take i)).take j))++(List.range (d+1)).map fun d=>x4++[pv s k d]).map (slD 2 ziD)))] h;refine zag (x:=d) (y:=d+1) h ?_ ?_
    ·have:=dT hc3;show ((d+1:Nat):Int)<=(wdB x2).1;omega
    show ((wdB x2).1).toNat - (d+1)<((wdB x2).1).toNat - d;have:=dT hc3;omega
   refine wp_exit (zaa (zaa (za5 (zac (za0 (Jf 5 [(0,.j1 j)] [12,36,37,38] [(32,vI ((j:Int)+1))] h fun a w h=>za0 ?_))))));rw [show (((pkS s k ((pkT s (vs.take i)).take j))++(List.range d).map fun d=>x4++[pv s k d]):List (List ZI))=(pkS s k ((pkT s (vs.take i)).take (j+1))) from (by rw [<- pkS_at hx4];unfold pk1;rw [show (wdV s k).toNat=d by have:=dF hc4;omega])] at h;refine zag (x:=j) (y:=j+1) h ?_ ?_
   ·have:=zak hx4;show j+1<=(pkT s (vs.take i)).length;omega
   show (pkT s (vs.take i)).length - (j+1)<(pkT s (vs.take i)).length - j;have:=zak hx4;omega
  refine wp_exit (zaa (zaa (za5 (za0 ?_))));rw [show ((pkS s k ((pkT s (vs.take i)).take j)):List (List ZI))=(pkT s (vs.take (i+1))) from (by rw [hnx,List.take_of_length_le (by have:=dF hc5;omega)])] at h;replace h:=pubS 2 1 45 ((pkT s (vs.take (i+1))).map (slD 2 ziD)) [(2,vp 1 0),(4,vW za4),(5,vS 1 ((pkT s (vs.take i)).map (slD 2 ziD))),(7,vN k),(8,vI (wdB x2).1),(10,vS 1 ((pkT s (vs.take (i+1))).map (slD 2 ziD))),(15,(vIs vs)),(16,vN vs.length),(17,vN i),(30,vS 1 ((pkT s (vs.take i)).map (slD 2 ziD))),(31,vI ((pkT s (vs.take i)).length:Int)),(32,vN j),(33,vb (decide ((j:Int)<((pkT s (vs.take i)).length:Int))))] [(1,.box (zai s))] h rfl (show zcj _ [(pkT s (vs.take (i+1))).length] from ⟨by first | exact (List.length_map _).symm | (simp;done) | (simp;omega),trivial⟩) trivial;refine Jf 5 [] [7,8,10,30,31,32,33] [(5,vS 1 ((pkT s (vs.take (i+1))).map (slD 2 ziD)))] h fun a w h=>zac (za0 (Jf 5 [(0,.j1 i)] [] [(17,vI ((i:Int)+1))] h fun a w h=>za0 (zag (x:=i) (y:=i+1) h ?_ ?_)))
  ·have:=zak hx1;show i+1<=vs.length;omega
  show vs.length - (i+1)<vs.length - i;have:=zak hx1;omega
 refine wp_exit (zaa (zaa (za5 (za0 (Jq 5 [] [(4,vS 1 ((pkT s (vs.take i)).map (slD 2 ziD)))] [] h fun a w h=>qV (rT (.c (.d (.sl 1 ((pkT s (vs.take i)).map (slD 2 ziD))))) h rfl ?_))))));rw [show vs.take i=vs from List.take_of_length_le (by have:=dF hc6;omega)];rfl
theorem oh1_4:za6 Tryz.prog 41:=za6.mk' (by kernel_rfl)
theorem oh1_5:za6 Tryz.prog 40:=za6.mk' (by kernel_rfl)
theorem oh1_8:ElZ Tryz.prog 52 56 3:=ElZ.mk' Tryz.underlying52 _ _ rfl rfl (by kernel_rfl) (by kernel_rfl) (by kernel_rfl) (by decide)
theorem oh1_9:ElT Tryz.prog 52 56 3 56:=ElT.mk' Tryz.underlying52 _ _ rfl rfl (by kernel_rfl) (by kernel_rfl) (by kernel_rfl) (by decide) (by decide)
structure zar where
  act:Int
  to_:StD
def zar.d (x:zar):List D:=[.raw (.int .i64 x.act),.sl 1 (x.to_.locs.map zad),.sl 2 (x.to_.vals.map ziD)]
theorem prd_sub {xs ys:List Int} (h:xs.Sublist ys):(∀ n ∈ ys,1<=n)->prd xs<=prd ys:=by
 induction h with
 | slnil=>intro _;exact Int.le_refl _
 | cons a h ih =>
  rename_i xs ys
  intro hy
  have h1:=hy a (by simp)
  have h2:=ih fun n hn=>hy n (by simp [hn])
  have h3:=zfj fun n hn=>hy n (List.mem_cons_of_mem a (h.subset hn))
  have h4:=Int.mul_le_mul_of_nonneg_right h1 (show 0<=prd ys by omega)
  rw [ze4];omega
 | cons_cons a h ih =>
  intro hy
  have h1:=hy a (by simp)
  rw [ze4,ze4]
  exact Int.mul_le_mul_of_nonneg_left (ih fun n hn=>hy n (by simp [hn])) (by omega)
theorem wd_one {b:zah} (h:(wdB b).2=true) {z:ZI} (hz:zb0 b z=true):1<=(wdB b).1:=by
 cases hb:b.is_ with
 | false=>rw [wdB_no hb] at h;cases h
 | true =>
  unfold zb0 at hz
  rw [hb] at hz
  simp only [Bool.not_true,Bool.false_or,Bool.and_eq_true,decide_eq_true_eq] at hz
  have h1:=of_decide_eq_true ((cmpZ_le _ _).symm.trans (decide_eq_true hz.1))
  have h2:=of_decide_eq_true ((cmpZ_le _ _).symm.trans (decide_eq_true hz.2))
  by_cases h3:b.hi.val - b.lo.val+1<=1048576
  ·rw [wdB_val hb (by omega) h3];show 1<=b.hi.val - b.lo.val+1;omega
  ·rw [wdB_big hb (by omega)] at h;cases h
theorem fit_pos {s:zan} {x:StD} (hc:(zbw s).2=true) (hf:zbu s x=true):∀ n ∈ wdl s s.vars.length,1<=n:=by
 unfold zbu at hf
 simp only [Bool.and_eq_true,decide_eq_true_eq] at hf
 obtain ⟨⟨hl,hv⟩,h1,h2⟩:=hf
 intro n hn
 unfold wdl at hn
 rcases List.mem_append.1 hn with hn | hn
 ·obtain ⟨p,hp,rfl⟩:=List.mem_map.1 hn
  obtain ⟨i,hi⟩:=List.getElem?_of_mem hp
  have h3:=zce.1 h1 i (by have:=zak hi;omega)
  unfold zfb zdj at h3
  rw [hi] at h3
  have h3:=of_decide_eq_true h3
  simp only [Option.map_some,Option.getD_some] at h3
  unfold zdd;omega
 ·obtain ⟨v,hv2,rfl⟩:=List.mem_map.1 hn
  have h3:=List.mem_range.1 hv2
  exact wd_one (zce.1 (zgi hc) v h3) (zce.1 h2 v (by omega))
theorem fit_prd {s:zan} {x:StD} (hc:(zbw s).2=true) (hf:zbu s x=true):prd (wdl s s.vars.length)<=1048576:=by
 have h1:=fit_pos hc hf
 have h2:=zgi hc
 unfold zbw prdB at hc
 rw [if_pos h2,if_neg (fun h0=>by have:=h1 0 h0;omega)] at hc
 split at hc
 ·assumption
 ·cases hc
theorem freeI_pks {s:zan} {L:Nat} {x:StD} (c:zaz) (hs:zb1 L s) (hc:(zbw s).2=true) (hf:zbu s x=true):PksOk s (zb3 c s.vars.length):=by
 have h1:=fit_pos hc hf
 have h2:=fit_prd hc hf
 have hsub:((zb3 c s.vars.length).map fun x=>wdV s x.toNat).Sublist (wdl s s.vars.length):=by
  unfold zb3 wdl
  rw [List.map_map]
  exact (List.filter_sublist.map _).trans (List.sublist_append_right _ _)
 refine ⟨fun x hx=>?_,fun x hx=>?_,Int.le_trans (prd_sub hsub h1) h2,?_⟩
 ·obtain ⟨v,hv,rfl⟩:=List.mem_map.1 hx
  have:=List.mem_range.1 (List.mem_filter.1 hv).1
  exact ⟨by simp,by show (v:Int)<_;omega⟩
 ·exact h1 _ (hsub.subset (List.mem_map.2 ⟨x,hx,rfl⟩))
 ·have:=freeI_len c s.vars.length;have:=hs.vars;omega
theorem pv_ok {L:Nat} {s:zan} (hs:zb1 L s) {v d:Nat} (hd:d<8796093021952):ZOk (L+3) (pv s v d):=by
 have hb:=zf8 hs v
 refine ⟨ZI.lb_of _,?_⟩
 have h1:=zdk hb.1.1 (ZI.lb_of (d:Int))
 rw [ZI.val_of] at h1
 have h2:=of_len2 (d:=(d:Int)) (by omega) (by omega)
 have h3:=hb.1.2
 unfold pv
 omega
theorem pk_val {s:zan}:∀ (n:Nat) {vs:List Int}, vs.length=n->∀ {hd:List ZI}, hd ∈ pkT s vs->∀ z ∈ hd,∃ v d:Nat,d<(wdV s v).toNat/\z=pv s v d
 | 0,vs,hn,hd,hh,z,hz=>by rw [List.length_eq_zero_iff.1 hn] at hh;rw [List.mem_singleton.1 hh] at hz;cases hz
 | n+1,vs,hn,hd,hh,z,hz=>by
  rcases List.eq_nil_or_concat vs with rfl | ⟨ws,x,rfl⟩
  ·cases hn
  ·rw [List.concat_eq_append] at hn hh
   rw [pkT_snoc] at hh
   obtain ⟨p,hp,h2⟩:=List.mem_flatMap.1 hh
   obtain ⟨d,hd2,rfl⟩:=List.mem_map.1 h2
   rcases List.mem_append.1 hz with hz | hz
   ·exact pk_val n (by simpa using hn) hp z hz
   ·rw [List.mem_singleton.1 hz];exact ⟨_,_,List.mem_range.1 hd2,rfl⟩
theorem pk_ok {s:zan} {L M:Nat} (hs:zb1 L s) (hM:L+3<=M) {vs:List Int} {hd:List ZI} (h:hd ∈ pkT s vs):∀ z ∈ hd,ZOk M z:=fun z hz=>by
 obtain ⟨v,d,hd2,rfl⟩:=pk_val _ rfl h z hz
 have:=wdB_le (zat s v)
 have h1:=pv_ok hs (v:=v) (d:=d) (by unfold wdV at hd2;omega)
 exact ⟨h1.1,Nat.le_trans h1.2 hM⟩
def egP (s:zan) (x:StD) (i:Int) (ps:List (List ZI)):List zar:=ps.flatMap fun p=>if (goS s x i p).2=true then [⟨i,(goS s x i p).1⟩] else []
def egA (s:zan) (x:StD) (i:Nat):List zar:=match s.acts[i]? with | none=>[] | some c=>if can s x (i:Int)=true then egP s x (i:Int) (pkT s (zb3 c s.vars.length)) else []
def egN (s:zan) (x:StD) (n:Nat):List zar:=(List.range n).flatMap (egA s x)
def edT (s:zan) (x:StD):List zar:=if (zbw s).2=true/\zbu s x=true then egN s x s.acts.length++egP s x (-1) [[]] else []
theorem egP_yes {s:zan} {x:StD} {i:Int} {ps:List (List ZI)} {j:Nat} {p:List ZI} (h:ps[j]?=some p) (hk:(goS s x i p).2=true):egP s x i (ps.take j)++[⟨i,(goS s x i p).1⟩]=egP s x i (ps.take (j+1)):=by
 unfold egP;rw [List.take_add_one,h,List.flatMap_append];simp [hk]
theorem egP_no {s:zan} {x:StD} {i:Int} {ps:List (List ZI)} {j:Nat} {p:List ZI} (h:ps[j]?=some p) (hk:(goS s x i p).2=false):egP s x i (ps.take j)=egP s x i (ps.take (j+1)):=by
 unfold egP;rw [List.take_add_one,h,List.flatMap_append];simp [hk]
theorem egP_len (s:zan) (x:StD) (i:Int) (ps:List (List ZI)):(egP s x i ps).length<=ps.length:=by
 induction ps with
 | nil=>exact Nat.le_refl _
 | cons p ps ih =>
  show ((if (goS s x i p).2=true then [(⟨i,(goS s x i p).1⟩:zar)] else [])++egP s x i ps).length<=_
  rw [List.length_append,List.length_cons]
  have:(if (goS s x i p).2=true then [(⟨i,(goS s x i p).1⟩:zar)] else []).length<=1:=by split <;> simp
  omega
theorem egN_at (s:zan) (x:StD) (n:Nat):egN s x (n+1)=egN s x n++egA s x n:=by unfold egN;rw [List.range_succ,List.flatMap_append];simp
theorem egA_no {s:zan} {x:StD} {i:Nat} (h:can s x (i:Int)=false):egA s x i=[]:=by
 unfold egA;split
 ·rfl
 ·rw [if_neg (by rw [h];exact Bool.noConfusion)]
theorem egA_yes {s:zan} {x:StD} {i:Nat} {c:zaz} (hc:s.acts[i]?=some c) (h:can s x (i:Int)=true):egA s x i=egP s x (i:Int) (pkT s (zb3 c s.vars.length)):=by
 unfold egA;rw [hc];exact if_pos h
theorem pkT_all {s:zan} {vs:List Int} (h:PksOk s vs):(pkT s vs).length<=1048576:=by have:=pkT_bd h (Nat.le_refl _);rwa [List.take_length] at this
theorem egA_len {s:zan} {L:Nat} {x:StD} (hs:zb1 L s) (hc:(zbw s).2=true) (hf:zbu s x=true) (i:Nat):(egA s x i).length<=1048576:=by
 unfold egA;split
 ·exact Nat.zero_le _
 ·split
  ·exact Nat.le_trans (egP_len _ _ _ _) (pkT_all (freeI_pks _ hs hc hf))
  ·exact Nat.zero_le _
theorem egN_len {s:zan} {L:Nat} {x:StD} (hs:zb1 L s) (hc:(zbw s).2=true) (hf:zbu s x=true):∀ n,(egN s x n).length<=n*1048576
 | 0=>Nat.le_refl _
 | n+1=>by rw [egN_at,List.length_append,Nat.succ_mul];have:=egN_len hs hc hf n;have:=egA_len hs hc hf n;omega
theorem OEdges (s:zan) (x:StD) {L M:Nat} (hs:zb1 L s) (hL:L<=1000) (hp:zc2 s) (hLM:L+M<=4000) (hM:L+3<=M) (hx:zd0 M x):Fn Tryz.prog 13 [] [.t (.agg (zai s)),.t (.agg [.d (.sl 1 (x.locs.map zad)),.d (.sl 2 (x.vals.map ziD))])] (.t (.c (.d (.sl 3 ((edT s x).map zar.d))))) []:=by
 have lbs:=hs.bnds;have lvs:=hs.vars;have lps:=hs.procs;have lwd:=zet s;refine Fn.body Tryz.func13 rfl 82 rfl fun w H B a h=>Jq 4 [] [(2,vp 4 0),(3,vp 5 0),(4,.t (.c (.d (.raw za4))))] [(4,.box (zai s)),(5,.box [.d (.sl 1 (x.locs.map zad)),.d (.sl 2 (x.vals.map ziD))])] h fun a w h=>Je 6 [] [] [(5,.t (.c (.d (.raw za4))))] h fun a w h=>qW (Je 6 [(1,.call (OCount s hs hL hp) od1_0)] [] [(7,vb (zbw s).2)] h fun a w h=>?_)
 rcases Bool.eq_false_or_eq_true (zbw s).2 with hc1 | hc14
 ·rw [hc1] at h;refine Jq 6 [(5,.call (zhv s x (L:=L) (M:=M) (by omega) hs hx) kg_9)] [(2,vp 4 0),(3,vp 5 0),(4,.t (.c (.d (.raw za4)))),(5,.t (.c (.d (.raw za4)))),(28,vb (!(zbu s x)))] [(4,.box (zai s)),(5,.box [.d (.sl 1 (x.locs.map zad)),.d (.sl 2 (x.vals.map ziD))])] h fun a w h=>cS (!(zbu s x)) h (fun hc2=>?_) (fun hc3=>?_)
  ·have hc2':=hc2;(try simp at hc2');refine Je 6 [] [28] [] h fun a w h=>qV (za2 ?_);replace h:=nilDSs 4 0 3 (.t (.c (.d (.raw za4)))) [(2,vp 4 0),(3,vp 5 0),(4,.t (.c (.d (.sl 3 ([].map zar.d))))),(5,.t (.c (.d (.raw za4))))] [(4,.box (zai s)),(5,.box [.d (.sl 1 (x.locs.map zad)),.d (.sl 2 (x.vals.map ziD))])] h rfl rfl;refine rT (.c (.d (.sl 3 ([].map zar.d)))) h rfl ?_;rw [show edT s x=[] from if_neg (fun h8=>by have:=h8.2;rw [(show (zbu s x)=false from by simpa using hc2)] at this;cases this)];rfl
  have hc3':=hc3;(try simp at hc3');refine qU (za0 (qW (Je 6 [(2,.len (za3 10 zaz.d s.acts))] [28] [(30,.t (.c (.d (.sl 10 (s.acts.map zaz.d))))),(31,vN s.acts.length),(32,vI 0)] h fun a w h=>qZ ?_)));replace h:=ze5 5 0 6 3 56 (.t (.c (.d (.raw za4)))) [(2,vp 4 0),(3,vp 5 0),(4,.t (.c (.d (.raw za4)))),(5,.t (.c (.own 6 0))),(30,.t (.c (.d (.sl 10 (s.acts.map zaz.d))))),(31,vN s.acts.length),(32,vI 0)] [(4,.box (zai s)),(5,.box [.d (.sl 1 (x.locs.map zad)),.d (.sl 2 (x.vals.map ziD))]),(6,.row 56 3 ([].map zar.d))] h (by kernel_rfl) rfl rfl;replace h:=cv (fun z_:List zar=>F.of [(2,vp 4 0),(3,vp 5 0),(4,.t (.c (.d (.raw za4)))),(5,.t (.c (.own 6 0))),(30,.t (.c (.d (.sl 10 (s.acts.map zaz.d))))),(31,vN s.acts.length),(32,vI 0)] [(4,.box (zai s)),(5,.box [.d (.sl 1 (x.locs.map zad)),.d (.sl 2 (x.vals.map ziD))]),(6,.row 56 3 (z_.map zar.d))]) (show ([]:List zar)=(egN s x 0) from rfl) h;replace h:=h.conv (f':=F.of [(2,vp 4 0),(3,vp 5 0),(4,.t (.c (.d (.raw za4)))),(5,.t (.c (.own 6 (egN s x 0).length))),(30,.t (.c (.d (.sl 10 (s.acts.map zaz.d))))),(31,vN s.acts.length),(32,vI 0)] [(4,.box (zai s)),(5,.box [.d (.sl 1 (x.locs.map zad)),.d (.sl 2 (x.vals.map ziD))]),(6,.row 56 3 ((egN s x 0).map zar.d))]) (by rfl);have hcn:=hc1;have hft:=(show (zbu s x)=true from by simpa using hc3)
  refine zb5 (ι:=(Nat)) (fun i=>i<=s.acts.length)
    (fun i=>[(2,vp 4 0),(3,vp 5 0),(4,.t (.c (.d (.raw za4)))),(5,.t (.c (.own 6 (egN s x i).length))),(30,.t (.c (.d (.sl 10 (s.acts.map zaz.d))))),(31,vN s.acts.length),(32,vN i)])
    (fun i=>[(4,.box (zai s)),(5,.box [.d (.sl 1 (x.locs.map zad)),.d (.sl 2 (x.vals.map ziD))]),(6,.row 56 3 ((egN s x i).map zar.d))])
    (fun i=>s.acts.length - i) 0 ?_ h (by kernel_rfl) (by kernel_rfl) ?_
  ·exact Nat.zero_le _
  clear h;rintro i a w hI h;have leg:=egN_len hs hcn hft i;have lac:=hs.acts;refine Je 7 [] [] [(33,vb (decide ((i:Int)<(s.acts.length:Int))))] h fun a w h=>qW (zap ((i:Int)<(s.acts.length:Int)) h (fun hc4 hc4'=>?_) (fun hc11 hc11'=>?_))
  ·refine qU (za0 (qW (qZ ?_)));obtain ⟨x3,hx3⟩:=gl s.acts i;refine Jd 7 [(1,.g (xD 35 30 ki_1 (zab hx3 (f:=zaz.d)) (OV.tmp 32 _)))] [33] [(8,vN i),(9,vp 7 0)] [(4,.box (zai s)),(5,.box [.d (.sl 1 (x.locs.map zad)),.d (.sl 2 (x.vals.map ziD))]),(6,.row 56 3 ((egN s x i).map zar.d)),(7,.box ([.d (.raw (.int .i64 x3.proc)),.d (.raw (.int .i64 x3.from_)),.d (.raw (.int .i64 x3.to_)),.d (.raw (.int .i64 x3.guard.kind)),.d (.sl 3 (x3.guard.r.t.parts.map zbr.d))]++zi x3.guard.r.t.k++[.d (.raw (.bool x3.guard.r.eq)),.d (.sl 6 (x3.guard.kids.map za8.d)),.d (.sl 5 (x3.moves.map zaf.d))]))] h fun a w h=>qW (Je 8 [(3,.call (SCan s x (i:Int) (L:=L) (M:=M) hLM hs hx) kk_12)] [] [(41,vb (!(can s x (i:Int))))] h fun a w h=>cS (!(can s x (i:Int))) h (fun hc5=>?_) (fun hc6=>?_))
   ·have hc5':=hc5;(try simp at hc5');refine wp_exit (zaa (za5 (za0 (Jm 8 [(0,.j1 i)] [8,9,41] [(32,vI ((i:Int)+1))] [(4,.box (zai s)),(5,.box [.d (.sl 1 (x.locs.map zad)),.d (.sl 2 (x.vals.map ziD))]),(6,.row 56 3 ((egN s x i).map zar.d))] h fun a w h=>za0 ?_))));replace h:=cv (fun z_:List zar=>F.of [(2,vp 4 0),(3,vp 5 0),(4,.t (.c (.d (.raw za4)))),(5,.t (.c (.own 6 z_.length))),(30,.t (.c (.d (.sl 10 (s.acts.map zaz.d))))),(31,vN s.acts.length),(32,vI ((i:Int)+1))] [(4,.box (zai s)),(5,.box [.d (.sl 1 (x.locs.map zad)),.d (.sl 2 (x.vals.map ziD))]),(6,.row 56 3 (z_.map zar.d))]) (show ((egN s x i):List zar)=(egN s x (i+1)) from (by rw [egN_at,egA_no (show (can s x (i:Int))=false from by simpa using hc5),List.append_nil])) h;refine zag (x:=i) (y:=i+1) h ?_ ?_
    ·have:=zak hx3;show i+1<=s.acts.length;omega
    show s.acts.length - (i+1)<s.acts.length - i;have:=zak hx3;omega
   have hc6':=hc6;(try simp at hc6');refine qU (za0 (Jd 8 [(3,.call (OFree s x3 hs (hs.act x3 (lM hx3))) oh1_4),(4,.call (OPicks s (zb3 x3 s.vars.length) hs hL hcn (freeI_pks x3 hs hcn hft)) oh1_5),(5,.len (c:=(.d (.sl 1 ((pkT s (zb3 x3 s.vars.length)).map (slD 2 ziD))))) (n:=(pkT s (zb3 x3 s.vars.length)).length) (za3 _ _ _))] [9,41] [(46,.t (.c (.d (.sl 1 ((pkT s (zb3 x3 s.vars.length)).map (slD 2 ziD)))))),(47,vI ((pkT s (zb3 x3 s.vars.length)).length:Int)),(48,vI 0)] [(4,.box (zai s)),(5,.box [.d (.sl 1 (x.locs.map zad)),.d (.sl 2 (x.vals.map ziD))]),(6,.row 56 3 ((egN s x i).map zar.d))] h fun a w h=>qZ ?_));have hpks:=freeI_pks x3 hs hcn hft;have lpa:=pkT_all hpks;replace h:=cv (fun z_:List zar=>F.of [(2,vp 4 0),(3,vp 5 0),(4,.t (.c (.d (.raw za4)))),(5,.t (.c (.own 6 z_.length))),(8,vN i),(30,.t (.c (.d (.sl 10 (s.acts.map zaz.d))))),(31,vN s.acts.length),(32,vN i),(46,.t (.c (.d (.sl 1 ((pkT s (zb3 x3 s.vars.length)).map (slD 2 ziD)))))),(47,vI ((pkT s (zb3 x3 s.vars.length)).length:Int)),(48,vI 0)] [(4,.box (zai s)),(5,.box [.d (.sl 1 (x.locs.map zad)),.d (.sl 2 (x.vals.map ziD))]),(6,.row 56 3 (z_.map zar.d))]) (show ((egN s x i):List zar)=((egN s x i)++egP s x (i:Int) ((pkT s (zb3 x3 s.vars.length)).take 0)) from (List.append_nil _).symm) h
   refine zb5 (ι:=(Nat)) (fun j=>j<=(pkT s (zb3 x3 s.vars.length)).length)
     (fun j=>[(2,vp 4 0),(3,vp 5 0),(4,.t (.c (.d (.raw za4)))),(5,.t (.c (.own 6 ((egN s x i)++egP s x (i:Int) ((pkT s (zb3 x3 s.vars.length)).take j)).length))),(8,vN i),(30,.t (.c (.d (.sl 10 (s.acts.map zaz.d))))),(31,vN s.acts.length),(32,vN i),(46,.t (.c (.d (.sl 1 ((pkT s (zb3 x3 s.vars.length)).map (slD 2 ziD)))))),(47,vI ((pkT s (zb3 x3 s.vars.length)).length:Int)),(48,vN j)])
     (fun j=>[(4,.box (zai s)),(5,.box [.d (.sl 1 (x.locs.map zad)),.d (.sl 2 (x.vals.map ziD))]),(6,.row 56 3 (((egN s x i)++egP s x (i:Int) ((pkT s (zb3 x3 s.vars.length)).take j)).map zar.d))])
     (fun j=>(pkT s (zb3 x3 s.vars.length)).length - j) 0 ?_ h (by kernel_rfl) (by kernel_rfl) ?_
   ·exact Nat.zero_le _
   clear h;rintro j a w hI h;have lep:=egP_len s x (i:Int) ((pkT s (zb3 x3 s.vars.length)).take j);have ltk:((pkT s (zb3 x3 s.vars.length)).take j).length<=1048576:=by rw [List.length_take];omega
   have lal:((egN s x i)++egP s x (i:Int) ((pkT s (zb3 x3 s.vars.length)).take j)).length<=21*1048576:=by rw [List.length_append];have:i<s.acts.length:=zak hx3;omega
   refine Je 8 [] [] [(49,vb (decide ((j:Int)<((pkT s (zb3 x3 s.vars.length)).length:Int))))] h fun a w h=>qW (zap ((j:Int)<((pkT s (zb3 x3 s.vars.length)).length:Int)) h (fun hc7 hc7'=>?_) (fun hc10 hc10'=>?_))
   ·refine qU (za0 (qW (qZ ?_)));obtain ⟨x7,hx7⟩:=gl (pkT s (zb3 x3 s.vars.length)) j;refine Je 8 [(0,.g (xD 50 46 og1_7 (zab hx7 (f:=(slD 2 ziD))) (OV.tmp 48 _)))] [49] [(11,.t (.c (.d (.sl 2 (x7.map ziD)))))] h fun a w h=>Jd 8 [(4,.call (SGo s x (i:Int) x7 (L:=L) (M:=M) hLM hs hx (pk_ok hs hM (lM hx7))) km_9)] [11] [(12,vp 8 0),(13,vb (goS s x (i:Int) x7).2)] [(4,.box (zai s)),(5,.box [.d (.sl 1 (x.locs.map zad)),.d (.sl 2 (x.vals.map ziD))]),(6,.row 56 3 (((egN s x i)++egP s x (i:Int) ((pkT s (zb3 x3 s.vars.length)).take j)).map zar.d)),(8,.box [.d (.sl 1 ((goS s x (i:Int) x7).1.locs.map zad)),.d (.sl 2 ((goS s x (i:Int) x7).1.vals.map ziD))])] h fun a w h=>Je 9 [] [13] [(60,vb (goS s x (i:Int) x7).2)] h fun a w h=>cS (goS s x (i:Int) x7).2 h (fun hc8=>?_) (fun hc9=>?_)
    ·refine Jm 9 [(4,.g (bD 65 ([(zar.mk (i:Int) (goS s x (i:Int) x7).1)].map zar.d) [(64,.t (.agg [.d (.raw (.int .i64 (i:Int))),.d (.sl 1 ((goS s x (i:Int) x7).1.locs.map zad)),.d (.sl 2 ((goS s x (i:Int) x7).1.vals.map ziD))]))] oh1_8 (.cons (i:=0) (OV.tmp 64 _) (.nil)) (by kernel_rfl) (by simp [zar.d]))),(5,.g (aD 66 61 65 6 9 ((egN s x i)++egP s x (i:Int) ((pkT s (zb3 x3 s.vars.length)).take j)) [(zar.mk (i:Int) (goS s x (i:Int) x7).1)] zar.d oh1_9 (by simp [zar.d])))] [12,60] [(5,.t (.c (.own 9 (((egN s x i)++egP s x (i:Int) ((pkT s (zb3 x3 s.vars.length)).take j))++[(zar.mk (i:Int) (goS s x (i:Int) x7).1)]).length)))] [(4,.box (zai s)),(5,.box [.d (.sl 1 (x.locs.map zad)),.d (.sl 2 (x.vals.map ziD))]),(9,.row 56 3 ((((egN s x i)++egP s x (i:Int) ((pkT s (zb3 x3 s.vars.length)).take j))++[(zar.mk (i:Int) (goS s x (i:Int) x7).1)]).map zar.d))] h fun a w h=>zac (za0 (Jf 10 [(0,.j1 j)] [] [(48,vI ((j:Int)+1))] h fun a w h=>za0 ?_));rw [show ((((egN s x i)++egP s x (i:Int) ((pkT s (zb3 x3 s.vars.length)).take j))++[(zar.mk (i:Int) (goS s x (i:Int) x7).1)]):List zar)=((egN s x i)++egP s x (i:Int) ((pkT s (zb3 x3 s.vars.length)).take (j+1))) from (by rw [List.append_assoc,egP_yes hx7 hc8])] at h;replace h:=zd9 9 6 [(2,vp 4 0),(3,vp 5 0),(4,.t (.c (.d (.raw za4)))),(5,.t (.c (.own 6 ((egN s x i)++egP s x (i:Int) ((pkT s (zb3 x3 s.vars.length)).take (j+1))).length))),(8,vN i),(30,.t (.c (.d (.sl 10 (s.acts.map zaz.d))))),(31,vN s.acts.length),(32,vN i),(46,.t (.c (.d (.sl 1 ((pkT s (zb3 x3 s.vars.length)).map (slD 2 ziD)))))),(47,vI ((pkT s (zb3 x3 s.vars.length)).length:Int)),(48,vI ((j:Int)+1))] [(4,.box (zai s)),(5,.box [.d (.sl 1 (x.locs.map zad)),.d (.sl 2 (x.vals.map ziD))]),(6,.row 56 3 (((egN s x i)++egP s x (i:Int) ((pkT s (zb3 x3 s.vars.length)).take (j+1))).map zar.d))] h;refine zag (x:=j) (y:=j+1) h ?_ ?_
     ·have:=zak hx7;show j+1<=(pkT s (zb3 x3 s.vars.length)).length;omega
     show (pkT s (zb3 x3 s.vars.length)).length - (j+1)<(pkT s (zb3 x3 s.vars.length)).length - j;have:=zak hx7;omega
    refine qU (zac (za0 (Jm 10 [(0,.j1 j)] [12,60] [(48,vI ((j:Int)+1))] [(4,.box (zai s)),(5,.box [.d (.sl 1 (x.locs.map zad)),.d (.sl 2 (x.vals.map ziD))]),(6,.row 56 3 (((egN s x i)++egP s x (i:Int) ((pkT s (zb3 x3 s.vars.length)).take j)).map zar.d))] h fun a w h=>za0 ?_)));rw [show (((egN s x i)++egP s x (i:Int) ((pkT s (zb3 x3 s.vars.length)).take j)):List zar)=((egN s x i)++egP s x (i:Int) ((pkT s (zb3 x3 s.vars.length)).take (j+1))) from (by rw [egP_no hx7 hc9])] at h;refine zag (x:=j) (y:=j+1) h ?_ ?_
    ·have:=zak hx7;show j+1<=(pkT s (zb3 x3 s.vars.length)).length;omega
    show (pkT s (zb3 x3 s.vars.length)).length - (j+1)<(pkT s (zb3 x3 s.vars.length)).length - j;have:=zak hx7;omega
   refine wp_exit (zaa (zaa (za5 (zac (za0 (Jf 10 [(0,.j1 i)] [8,46,47,48,49] [(32,vI ((i:Int)+1))] h fun a w h=>za0 ?_))))));rw [show (((egN s x i)++egP s x (i:Int) ((pkT s (zb3 x3 s.vars.length)).take j)):List zar)=(egN s x (i+1)) from (by rw [egN_at,egA_yes hx3 (show (can s x (i:Int))=true from by simpa using hc6),List.take_of_length_le (by have:=dF hc10;omega)])] at h;refine zag (x:=i) (y:=i+1) h ?_ ?_
   ·have:=zak hx3;show i+1<=s.acts.length;omega
   show s.acts.length - (i+1)<s.acts.length - i;have:=zak hx3;omega
  refine wp_exit (zaa (zaa (za5 (za0 (qW (Jd 10 [(2,.call ((SGo s x (-1) [] (L:=L) (M:=M) hLM hs hx (fun z hz=>by cases hz)).argw (WkA.cons _ _ _ _ (WkV.refl _) (WkA.cons _ _ _ _ (WkV.refl _) (WkA.cons _ _ _ _ (WkV.refl _) (WkA.cons _ _ _ _ (WkV.c _ _ (Wk.nil 2)) .nil))))) km_9)] [2,3,30,31,32,33] [(14,vp 10 0),(15,vb (goS s x (-1) []).2)] [(6,.row 56 3 ((egN s x i).map zar.d)),(10,.box [.d (.sl 1 ((goS s x (-1) []).1.locs.map zad)),.d (.sl 2 ((goS s x (-1) []).1.vals.map ziD))])] h fun a w h=>Je 11 [] [15] [(75,vb (goS s x (-1) []).2)] h fun a w h=>cS (goS s x (-1) []).2 h (fun hc12=>?_) (fun hc13=>?_)))))))
  ·refine Jm 11 [(3,.g (bD 79 ([(zar.mk (-1) (goS s x (-1) []).1)].map zar.d) [(78,.t (.agg [.d (.raw (.int .i64 (-1))),.d (.sl 1 ((goS s x (-1) []).1.locs.map zad)),.d (.sl 2 ((goS s x (-1) []).1.vals.map ziD))]))] oh1_8 (.cons (i:=0) (OV.tmp 78 _) (.nil)) (by kernel_rfl) (by simp [zar.d]))),(4,.g (aD 80 76 79 6 11 (egN s x i) [(zar.mk (-1) (goS s x (-1) []).1)] zar.d oh1_9 (by simp [zar.d])))] [14,75] [(5,.t (.c (.own 11 ((egN s x i)++[(zar.mk (-1) (goS s x (-1) []).1)]).length)))] [(11,.row 56 3 (((egN s x i)++[(zar.mk (-1) (goS s x (-1) []).1)]).map zar.d))] h fun a w h=>za0 (Jp 12 [] [(4,.t (.c (.own 11 ((egN s x i)++[(zar.mk (-1) (goS s x (-1) []).1)]).length)))] h fun a w h=>qV ?_);rw [show (((egN s x i)++[(zar.mk (-1) (goS s x (-1) []).1)]):List zar)=(edT s x) from (by rw [show edT s x=egN s x s.acts.length++egP s x (-1) [[]] from if_pos ⟨hcn,hft⟩];rw [show i=s.acts.length by have:=dF hc11;omega];unfold egP;simp [hc12])] at h;replace h:=pubS 11 3 56 ((edT s x).map zar.d) [(4,.t (.c (.d (.sl 3 ((edT s x).map zar.d)))))] [] h rfl (show zcj _ [(edT s x).length] from ⟨by first | exact (List.length_map _).symm | (simp;done) | (simp;omega),trivial⟩) trivial;refine rT (.c (.d (.sl 3 ((edT s x).map zar.d)))) h rfl ?_;rfl
  refine qU (za0 (Jq 12 [] [(4,.t (.c (.own 6 (egN s x i).length)))] [(6,.row 56 3 ((egN s x i).map zar.d))] h fun a w h=>qV ?_));replace h:=cv (fun z_:List zar=>F.of [(4,.t (.c (.own 6 z_.length)))] [(6,.row 56 3 (z_.map zar.d))]) (show ((egN s x i):List zar)=(edT s x) from (by rw [show edT s x=egN s x s.acts.length++egP s x (-1) [[]] from if_pos ⟨hcn,hft⟩];rw [show i=s.acts.length by have:=dF hc11;omega];unfold egP;simp [hc13])) h;replace h:=pubS 6 3 56 ((edT s x).map zar.d) [(4,.t (.c (.d (.sl 3 ((edT s x).map zar.d)))))] [] h rfl (show zcj _ [(edT s x).length] from ⟨by first | exact (List.length_map _).symm | (simp;done) | (simp;omega),trivial⟩) trivial;refine rT (.c (.d (.sl 3 ((edT s x).map zar.d)))) h rfl ?_;rfl
 rw [hc14] at h;refine Jq 12 [] [(2,vp 4 0),(3,vp 5 0),(4,.t (.c (.d (.raw za4)))),(5,.t (.c (.d (.raw za4)))),(28,vb true)] [(4,.box (zai s)),(5,.box [.d (.sl 1 (x.locs.map zad)),.d (.sl 2 (x.vals.map ziD))])] h fun a w h=>cS true h (fun _=>?_) nofun
 refine Je 12 [] [28] [] h fun a w h=>qV (za2 ?_);replace h:=nilDSs 4 0 3 (.t (.c (.d (.raw za4)))) [(2,vp 4 0),(3,vp 5 0),(4,.t (.c (.d (.sl 3 ([].map zar.d))))),(5,.t (.c (.d (.raw za4))))] [(4,.box (zai s)),(5,.box [.d (.sl 1 (x.locs.map zad)),.d (.sl 2 (x.vals.map ziD))])] h rfl rfl;refine rT (.c (.d (.sl 3 ([].map zar.d)))) h rfl ?_;rw [show edT s x=[] from if_neg (fun h8=>by have:=h8.1;rw [hc14] at this;cases this)];rfl
def dgN (s:zan) (x:StD) (i:Nat):Int:=if i<s.procs.length then (x.locs[i]?).getD 0 else ((x.vals[i - s.procs.length]?).getD zdz).val - (zat s (i - s.procs.length)).lo.val
def hrn (s:zan) (x:StD):Nat->Int
  | 0=>0
  | j+1=>hrn s x j*((wdl s s.vars.length)[j]?).getD 0+dgN s x j
def nmT (s:zan) (x:StD):Int × Bool:=if (zbw s).2=true/\zbu s x=true then (hrn s x (s.procs.length+s.vars.length),true) else (0,false)
theorem wd_in {b:zah} (h:(wdB b).2=true) {z:ZI} (hz:zb0 b z=true):0<=z.val - b.lo.val/\z.val - b.lo.val<(wdB b).1:=by
 cases hb:b.is_ with
 | false=>rw [wdB_no hb] at h;cases h
 | true =>
  unfold zb0 at hz
  rw [hb] at hz
  simp only [Bool.not_true,Bool.false_or,Bool.and_eq_true,decide_eq_true_eq] at hz
  have h1:=of_decide_eq_true ((cmpZ_le _ _).symm.trans (decide_eq_true hz.1))
  have h2:=of_decide_eq_true ((cmpZ_le _ _).symm.trans (decide_eq_true hz.2))
  by_cases h3:b.hi.val - b.lo.val+1<=1048576
  ·rw [wdB_val hb (by omega) h3];show 0<=_/\_<b.hi.val - b.lo.val+1;omega
  ·rw [wdB_big hb (by omega)] at h;cases h
theorem wdl_loc {s:zan} {n i:Nat} (h:i<s.procs.length):(wdl s n)[i]?=(s.procs[i]?).map zdd:=by unfold wdl;rw [List.getElem?_append_left (by rw [List.length_map];exact h),List.getElem?_map]
theorem wdl_val {s:zan} {n v:Nat} (h:v<n):(wdl s n)[s.procs.length+v]?=some (wdV s v):=by unfold wdl;rw [List.getElem?_append_right (by rw [List.length_map];omega),List.length_map,Nat.add_sub_cancel_left,List.getElem?_map,List.getElem?_range h];rfl
theorem dgN_in {s:zan} {x:StD} (hc:(zbw s).2=true) (hf:zbu s x=true) {j:Nat} {w:Int} (hw:(wdl s s.vars.length)[j]?=some w):0<=dgN s x j/\dgN s x j<w:=by
 have hj:=zak hw
 rw [zff] at hj
 unfold zbu at hf
 simp only [Bool.and_eq_true,decide_eq_true_eq] at hf
 obtain ⟨⟨hl,hv⟩,h1,h2⟩:=hf
 unfold dgN
 split
 ·rename_i hp
  rw [wdl_loc hp] at hw
  have h3:=zce.1 h1 j (by omega)
  unfold zfb zdj at h3
  rw [List.getElem?_eq_getElem hp] at h3 hw
  have h3:=of_decide_eq_true h3
  simp only [Option.map_some,Option.getD_some] at h3
  injection hw with hw
  rw [<- hw];exact h3
 ·rename_i hp
  obtain ⟨v,rfl⟩:∃ v,j=s.procs.length+v:=⟨j - s.procs.length,by omega⟩
  rw [Nat.add_sub_cancel_left]
  rw [wdl_val (by omega)] at hw
  injection hw with hw
  rw [<- hw]
  exact wd_in (zce.1 (zgi hc) v (by omega)) (zce.1 h2 v (by omega))
theorem hrn_step {u w d p:Int} (h0:0<=u) (h1:u<p) (hd0:0<=d) (hd1:d<w):0<=u*w/\u*w+d<p*w:=by
 have h2:=Int.mul_le_mul_of_nonneg_right (show u+1<=p by omega) (show 0<=w by omega)
 rw [Int.add_mul,Int.one_mul] at h2
 exact ⟨Int.mul_nonneg h0 (by omega),by omega⟩
theorem hrn_at {s:zan} {x:StD} {j:Nat} {w:Int} (hw:(wdl s s.vars.length)[j]?=some w):hrn s x j*w+dgN s x j=hrn s x (j+1):=by rw [hrn,hw];rfl
theorem prd_one {ns:List Int} (h:∀ n ∈ ns,1<=n) {w:Int} (hw:w ∈ ns):w<=prd ns:=by
 have h1:=prd_sub (List.singleton_sublist.2 hw) h
 rw [ze4] at h1
 have h2:w*prd []=w:=Int.mul_one w
 omega
theorem ONumber (s:zan) (x:StD) {L M:Nat} (hs:zb1 L s) (hL:L<=1000) (hp:zc2 s) (hLM:L+M<=4000) (hx:zd0 M x):Fn Tryz.prog 27 [] [.t (.agg (zai s)),.t (.agg [.d (.sl 1 (x.locs.map zad)),.d (.sl 2 (x.vals.map ziD))])] (.tup [.c (.d (.raw (.int .i64 (nmT s x).1))),.c (.d (.raw (.bool (nmT s x).2)))]) []:=by
 have lbs:=hs.bnds;have lvs:=hs.vars;have lps:=hs.procs;have lwd:=zet s;have lxl:=hx.locs;have lxv:=hx.vals;refine Fn.body Tryz.func27 rfl 78 rfl fun w H B a h=>?_
 refine Jq 4 [] [(2,vp 4 0),(3,vp 5 0),(4,vI 0),(5,vb false)] [(4,.box (zai s)),(5,.box [.d (.sl 1 (x.locs.map zad)),.d (.sl 2 (x.vals.map ziD))])] h fun a w h=>?_;refine qW (Jp 6 [(1,.call (OCount s hs hL hp) od1_0)] [(2,vp 4 0),(3,vp 5 0),(4,vI 0),(5,vb false),(7,vb (zbw s).2)] h fun a w h=>?_)
 rcases Bool.eq_false_or_eq_true (zbw s).2 with hc1 | hc8
 ·rw [hc1] at h;refine Jq 6 [(5,.call (zhv s x (L:=L) (M:=M) (by omega) hs hx) kg_9)] [(2,vp 4 0),(3,vp 5 0),(4,vI 0),(5,vb false),(29,vb (!(zbu s x)))] [(4,.box (zai s)),(5,.box [.d (.sl 1 (x.locs.map zad)),.d (.sl 2 (x.vals.map ziD))])] h fun a w h=>?_;refine cS (!(zbu s x)) h (fun hc2=>?_) (fun hc3=>?_)
  ·have hc2':=hc2;(try simp at hc2');refine Jp 6 [] [(2,vp 4 0),(3,vp 5 0),(4,vI 0),(5,vb false)] h fun a w h=>?_;refine qV (za2 ?_);refine zdb [.c (.d (.raw (.int .i64 0))),.c (.d (.raw (.bool false)))] h Exit.ret (.inl rfl)  rfl ⟨RV.tmp _ _ rfl,RV.tmp _ _ rfl,trivial⟩ ?_;rw [show nmT s x=(0,false) from if_neg (fun h8=>by have:=h8.2;rw [(show (zbu s x)=false from by simpa using hc2)] at this;cases this)];rfl
  have hc3':=hc3;(try simp at hc3');refine qU (za0 ?_);have hcn:=hc1;have hft:=(show (zbu s x)=true from by simpa using hc3);have hfl:=zch hft;have hwd:=wds_yes hcn;have lwl:=zff s s.vars.length;have hpr:=fit_prd hcn hft;have hpo:=fit_pos hcn hft;refine Jp 6 [(1,.call (Owidths s hs hL hp) ob1_8)] [(2,vp 4 0),(3,vp 5 0),(4,vI 0),(5,vb false),(8,.t (.c (.d (.sl 1 ((wdsL s).map zad)))))] h fun a w h=>?_;replace h:=cv (fun z_:List Int=>F.of [(2,vp 4 0),(3,vp 5 0),(4,vI 0),(5,vb false),(8,.t (.c (.d (.sl 1 (z_.map zad)))))] [(4,.box (zai s)),(5,.box [.d (.sl 1 (x.locs.map zad)),.d (.sl 2 (x.vals.map ziD))])]) (show ((wdsL s):List Int)=(wdl s s.vars.length) from hwd) h;refine Jp 6 [] [(2,vp 4 0),(3,vp 5 0),(4,vI 0),(5,vb false),(8,.t (.c (.d (.sl 1 ((wdl s s.vars.length).map zad))))),(10,vI 0)] h fun a w h=>?_;refine qW (Jp 6 [(1,.len (za3 1 zad (wdl s s.vars.length)))] [(2,vp 4 0),(3,vp 5 0),(4,vI 0),(5,vb false),(10,vI 0),(35,.t (.c (.d (.sl 1 ((wdl s s.vars.length).map zad))))),(36,vI ((wdl s s.vars.length).length:Int)),(37,vI 0)] h fun a w h=>?_);refine qZ ?_
  refine zb5 (ι:=(Nat) × (Int)) (fun (j,u)=>j<=(wdl s s.vars.length).length/\u=hrn s x j/\0<=u/\u<prd ((wdl s s.vars.length).take j))
    (fun (j,u)=>[(2,vp 4 0),(3,vp 5 0),(4,vI 0),(5,vb false),(10,vI u),(35,.t (.c (.d (.sl 1 ((wdl s s.vars.length).map zad))))),(36,vI ((wdl s s.vars.length).length:Int)),(37,vN j)])
    (fun (j,u)=>[(4,.box (zai s)),(5,.box [.d (.sl 1 (x.locs.map zad)),.d (.sl 2 (x.vals.map ziD))])])
    (fun (j,u)=>(wdl s s.vars.length).length - j) (0,0) ?_ h (by kernel_rfl) (by kernel_rfl) ?_
  ·exact ⟨Nat.zero_le _,rfl,Int.le_refl _,by rw [List.take_zero];exact (by decide:(0:Int)<1)⟩
  clear h;rintro ⟨j,u⟩ a w hI h;dsimp only at h;obtain ⟨hI1,hI2,hI3,hI4⟩:=hI;refine Jp 6 [] [(2,vp 4 0),(3,vp 5 0),(4,vI 0),(5,vb false),(10,vI u),(35,.t (.c (.d (.sl 1 ((wdl s s.vars.length).map zad))))),(36,vI ((wdl s s.vars.length).length:Int)),(37,vN j),(38,vb (decide ((j:Int)<((wdl s s.vars.length).length:Int))))] h fun a w h=>?_;refine qW ?_;refine zap ((j:Int)<((wdl s s.vars.length).length:Int)) h (fun hc4 hc4'=>?_) (fun hc7 hc7'=>?_)
  ·refine qU (za0 (qW (qZ ?_)));obtain ⟨x4,hx4⟩:=gl (wdl s s.vars.length) j;refine Jp 6 [(1,.g (xD 40 35 zdo (zab hx4 (f:=zad)) (OV.tmp 37 _)))] [(2,vp 4 0),(3,vp 5 0),(4,vI 0),(5,vb false),(10,vI u),(11,vN j),(12,vI x4),(35,.t (.c (.d (.sl 1 ((wdl s s.vars.length).map zad))))),(36,vI ((wdl s s.vars.length).length:Int)),(37,vN j)] h fun a w h=>?_;refine Jp 6 [] [(2,vp 4 0),(3,vp 5 0),(4,vI 0),(5,vb false),(10,vI u),(11,vN j),(12,vI x4),(13,vI 0),(35,.t (.c (.d (.sl 1 ((wdl s s.vars.length).map zad))))),(36,vI ((wdl s s.vars.length).length:Int)),(37,vN j)] h fun a w h=>?_;refine qW (Jp 6 [(3,.len (za3 3 zav.d s.procs)),(4,.sub .i64 (m:=(j:Int)) (n:=(s.procs.length:Int)) i6)] [(2,vp 4 0),(3,vp 5 0),(4,vI 0),(5,vb false),(10,vI u),(11,vN j),(12,vI x4),(13,vI 0),(14,vI ((j:Int) - (s.procs.length:Int))),(35,.t (.c (.d (.sl 1 ((wdl s s.vars.length).map zad))))),(36,vI ((wdl s s.vars.length).length:Int)),(37,vN j)] h fun a w h=>?_);refine Jp 6 [] [(2,vp 4 0),(3,vp 5 0),(4,vI 0),(5,vb false),(10,vI u),(11,vN j),(12,vI x4),(13,vI 0),(14,vI ((j:Int) - (s.procs.length:Int))),(35,.t (.c (.d (.sl 1 ((wdl s s.vars.length).map zad))))),(36,vI ((wdl s s.vars.length).length:Int)),(37,vN j),(48,vb (decide (((j:Int) - (s.procs.length:Int))>=0)))] h fun a w h=>?_;refine zap (((j:Int) - (s.procs.length:Int))>=0) h (fun hc5 hc5'=>?_) (fun hc6 hc6'=>?_)
   ·obtain ⟨kv,hkkv⟩:∃ k_:Nat,((j:Int) - (s.procs.length:Int))=(k_:Int):=⟨_,(Int.toNat_of_nonneg (by have:=dT hc5;omega)).symm⟩;replace h:=h.conv (f':=F.of [(2,vp 4 0),(3,vp 5 0),(4,vI 0),(5,vb false),(10,vI u),(11,vN j),(12,vI x4),(13,vI 0),(14,vN kv),(35,.t (.c (.d (.sl 1 ((wdl s s.vars.length).map zad))))),(36,vI ((wdl s s.vars.length).length:Int)),(37,vN j),(48,vb (decide (((j:Int) - (s.procs.length:Int))>=0)))] [(4,.box (zai s)),(5,.box [.d (.sl 1 (x.locs.map zad)),.d (.sl 2 (x.vals.map ziD))])]) (by rw [hkkv]);have:=zak hx4;have hkv8:kv<s.vars.length:=by omega
    have hbl9:=bnd_len hcn hkv8;obtain ⟨x5,hx5⟩:=gl x.vals kv;have gx5:=hx.val x5 (lM hx5);have l1x5:=gx5.2;obtain ⟨x6,hx6⟩:=gl s.bounds kv;have gx6:=hs.bnd x6 (lM hx6);have l1x6:=gx6.1.2;obtain ⟨r7,er7,vr7,or7,lr7⟩:=mkZ (v:=x5.val - x6.lo.val) (m:=x5.abs.length+x6.lo.abs.length+1) (len_sub gx5.1 gx6.1.1);refine Jq 6 [(3,.g (xD 53 51 zh9 (zab hx5 (f:=ziD)) (OV.tmp 52 _))),(8,.g (xD 58 56 kf_0 (zab hx6 (f:=zah.d)) (OV.tmp 57 _))),(11,.call (Fn.cast (SSub x5 x6.lo gx5.1 gx6.1.1 (by omega) (by omega)) (congrArg vz er7.symm)) zs_16),(12,.call (SSmall r7 or7 (by omega)) oa1_3)] [(2,vp 4 0),(3,vp 5 0),(4,vI 0),(5,vb false),(10,vI u),(12,vI x4),(13,vI 0),(15,vI (zbt r7.val).1),(35,.t (.c (.d (.sl 1 ((wdl s s.vars.length).map zad))))),(36,vI ((wdl s s.vars.length).length:Int)),(37,vN j)] [(4,.box (zai s)),(5,.box [.d (.sl 1 (x.locs.map zad)),.d (.sl 2 (x.vals.map ziD))])] h fun a w h=>?_;refine Jl 6 [] [(2,vp 4 0),(3,vp 5 0),(4,vI 0),(5,vb false),(10,vI u),(12,vI x4),(13,vI (zbt r7.val).1),(35,.t (.c (.d (.sl 1 ((wdl s s.vars.length).map zad))))),(36,vI ((wdl s s.vars.length).length:Int)),(37,vN j)] h fun a w h=>?_;refine za0 ?_;have hjk:j=s.procs.length+kv:=by omega
    have hdn:dgN s x j=r7.val:=by unfold dgN;rw [if_neg (by omega),show j - s.procs.length=kv by omega,hx5,zci hx6,vr7];rfl
    have hdi:=dgN_in hcn hft hx4;have hwl9:=Int.le_trans (prd_one hpo (lM hx4)) hpr;have hsm:(zbt r7.val).1=dgN s x j:=by rw [hdn] at hdi ⊢;rw [small_of (by omega) (by omega)]
    replace h:=h.conv (f':=F.of [(2,vp 4 0),(3,vp 5 0),(4,vI 0),(5,vb false),(10,vI u),(12,vI x4),(13,vI (dgN s x j)),(35,.t (.c (.d (.sl 1 ((wdl s s.vars.length).map zad))))),(36,vI ((wdl s s.vars.length).length:Int)),(37,vN j)] [(4,.box (zai s)),(5,.box [.d (.sl 1 (x.locs.map zad)),.d (.sl 2 (x.vals.map ziD))])]) (by rw [show ((zbt r7.val).1:Int)=(dgN s x j) from hsm]);have hms:=hrn_step hI3 hI4 hdi.1 hdi.2;rw [<- zfz hx4] at hms;have hge:=prd_ge hpo (j+1);refine Jn 6 [(2,.mul .i64 (m:=u) (n:=x4) i6),(4,.add .i64 (m:=(u*x4)) (n:=(dgN s x j)) i6)] [(2,vp 4 0),(3,vp 5 0),(4,vI 0),(5,vb false),(10,vI ((u*x4)+(dgN s x j))),(35,.t (.c (.d (.sl 1 ((wdl s s.vars.length).map zad))))),(36,vI ((wdl s s.vars.length).length:Int)),(37,vN j)] [(4,.box (zai s)),(5,.box [.d (.sl 1 (x.locs.map zad)),.d (.sl 2 (x.vals.map ziD))])] h fun a w h=>?_;refine zac (za0 (Jl 6 [(0,.j1 j)] [(2,vp 4 0),(3,vp 5 0),(4,vI 0),(5,vb false),(10,vI ((u*x4)+(dgN s x j))),(35,.t (.c (.d (.sl 1 ((wdl s s.vars.length).map zad))))),(36,vI ((wdl s s.vars.length).length:Int)),(37,vI ((j:Int)+1))] h fun a w h=>?_));refine za0 ?_;replace h:=h.conv (f':=F.of [(2,vp 4 0),(3,vp 5 0),(4,vI 0),(5,vb false),(10,vI (hrn s x (j+1))),(35,.t (.c (.d (.sl 1 ((wdl s s.vars.length).map zad))))),(36,vI ((wdl s s.vars.length).length:Int)),(37,vI ((j:Int)+1))] [(4,.box (zai s)),(5,.box [.d (.sl 1 (x.locs.map zad)),.d (.sl 2 (x.vals.map ziD))])]) (by rw [show ((u*x4)+(dgN s x j):Int)=(hrn s x (j+1)) from (by rw [hI2];exact hrn_at hx4)]);refine zag (x:=(j,u)) (y:=(j+1,(hrn s x (j+1)))) h ?_ ?_
    ·have:=zak hx4;exact ⟨by omega,rfl,by rw [<- hrn_at hx4,<- hI2];omega,by rw [<- hrn_at hx4,<- hI2];omega⟩
    show (wdl s s.vars.length).length - (j+1)<(wdl s s.vars.length).length - j;have:=zak hx4;omega
   obtain ⟨x9,hx9⟩:=gl x.locs j;refine Jl 6 [(3,.g (xD 69 67 zdo (zab hx9 (f:=zad)) (OV.tmp 68 _)))] [(2,vp 4 0),(3,vp 5 0),(4,vI 0),(5,vb false),(10,vI u),(12,vI x4),(13,vI x9),(35,.t (.c (.d (.sl 1 ((wdl s s.vars.length).map zad))))),(36,vI ((wdl s s.vars.length).length:Int)),(37,vN j)] h fun a w h=>?_;refine za0 ?_;have hdi:=dgN_in hcn hft hx4;have hsm:x9=dgN s x j:=by unfold dgN;rw [if_pos (by have:=dF hc6;omega),hx9];rfl
   replace h:=h.conv (f':=F.of [(2,vp 4 0),(3,vp 5 0),(4,vI 0),(5,vb false),(10,vI u),(12,vI x4),(13,vI (dgN s x j)),(35,.t (.c (.d (.sl 1 ((wdl s s.vars.length).map zad))))),(36,vI ((wdl s s.vars.length).length:Int)),(37,vN j)] [(4,.box (zai s)),(5,.box [.d (.sl 1 (x.locs.map zad)),.d (.sl 2 (x.vals.map ziD))])]) (by rw [show (x9:Int)=(dgN s x j) from hsm]);have hms:=hrn_step hI3 hI4 hdi.1 hdi.2;rw [<- zfz hx4] at hms;have hge:=prd_ge hpo (j+1);refine Jn 6 [(2,.mul .i64 (m:=u) (n:=x4) i6),(4,.add .i64 (m:=(u*x4)) (n:=(dgN s x j)) i6)] [(2,vp 4 0),(3,vp 5 0),(4,vI 0),(5,vb false),(10,vI ((u*x4)+(dgN s x j))),(35,.t (.c (.d (.sl 1 ((wdl s s.vars.length).map zad))))),(36,vI ((wdl s s.vars.length).length:Int)),(37,vN j)] [(4,.box (zai s)),(5,.box [.d (.sl 1 (x.locs.map zad)),.d (.sl 2 (x.vals.map ziD))])] h fun a w h=>?_;refine zac (za0 (Jl 6 [(0,.j1 j)] [(2,vp 4 0),(3,vp 5 0),(4,vI 0),(5,vb false),(10,vI ((u*x4)+(dgN s x j))),(35,.t (.c (.d (.sl 1 ((wdl s s.vars.length).map zad))))),(36,vI ((wdl s s.vars.length).length:Int)),(37,vI ((j:Int)+1))] h fun a w h=>?_));refine za0 ?_;replace h:=h.conv (f':=F.of [(2,vp 4 0),(3,vp 5 0),(4,vI 0),(5,vb false),(10,vI (hrn s x (j+1))),(35,.t (.c (.d (.sl 1 ((wdl s s.vars.length).map zad))))),(36,vI ((wdl s s.vars.length).length:Int)),(37,vI ((j:Int)+1))] [(4,.box (zai s)),(5,.box [.d (.sl 1 (x.locs.map zad)),.d (.sl 2 (x.vals.map ziD))])]) (by rw [show ((u*x4)+(dgN s x j):Int)=(hrn s x (j+1)) from (by rw [hI2];exact hrn_at hx4)]);refine zag (x:=(j,u)) (y:=(j+1,(hrn s x (j+1)))) h ?_ ?_
   ·have:=zak hx4;exact ⟨by omega,rfl,by rw [<- hrn_at hx4,<- hI2];omega,by rw [<- hrn_at hx4,<- hI2];omega⟩
   show (wdl s s.vars.length).length - (j+1)<(wdl s s.vars.length).length - j;have:=zak hx4;omega
  refine wp_exit (zaa (zaa (za5 (za0 (Jq 6 [] [(4,vI u),(5,vb true)] [] h fun a w h=>?_)))));refine qV ?_;refine zdb [.c (.d (.raw (.int .i64 u))),.c (.d (.raw (.bool true)))] h Exit.ret (.inl rfl)  rfl ⟨RV.tmp _ _ rfl,RV.tmp _ _ rfl,trivial⟩ ?_;rw [show nmT s x=(hrn s x j,true) from (if_pos ⟨hcn,hft⟩).trans (by rw [show s.procs.length+s.vars.length=j by have:=dF hc7;omega]),hI2];rfl
 rw [hc8] at h;refine Jq 6 [] [(2,vp 4 0),(3,vp 5 0),(4,vI 0),(5,vb false),(29,vb true)] [(4,.box (zai s)),(5,.box [.d (.sl 1 (x.locs.map zad)),.d (.sl 2 (x.vals.map ziD))])] h fun a w h=>?_;refine cS true h (fun _=>?_) nofun
 refine Jp 6 [] [(2,vp 4 0),(3,vp 5 0),(4,vI 0),(5,vb false)] h fun a w h=>?_;refine qV (za2 ?_);refine zdb [.c (.d (.raw (.int .i64 0))),.c (.d (.raw (.bool false)))] h Exit.ret (.inl rfl)  rfl ⟨RV.tmp _ _ rfl,RV.tmp _ _ rfl,trivial⟩ ?_;rw [show nmT s x=(0,false) from if_neg (fun h8=>by have:=h8.1;rw [hc8] at this;cases this)];rfl
def CanS (y:StD):Prop:=∀ z ∈ y.vals,z=ZI.of z.val
theorem zof (z:Int):ZI.of z=ZI.of (ZI.of z).val:=by rw [ZI.val_of]
theorem can_vals {y:StD} (hy:CanS y):(y.vals.map ZI.val).map ZI.of=y.vals:=by
 rw [List.map_map]
 exact (List.map_congr_left (f:=ZI.of ∘ ZI.val) (g:=id) fun z hz=>(hy z hz).symm).trans (List.map_id _)
theorem can_stN (s:zan) (n:Int):CanS (stN s n):=fun z hz=>by
 obtain ⟨v,_,rfl⟩:=List.mem_map.1 hz
 exact zof _
def unD:List Int->List Int->Int
  | _ :: ns,d :: ds=>d*prd ns+unD ns ds
  | _,_=>0
theorem dgs_un:∀ (ns ds:List Int) (q:Int),ns.length=ds.length->(∀ (i:Nat) (w:Int),ns[i]?=some w->0<=(ds[i]?).getD 0/\(ds[i]?).getD 0<w)->dgs ns (unD ns ds+q*prd ns)=(ds,q)
 | [],[],q,_,_=>by show (([]:List Int),0+q*1)=_;rw [Int.mul_one,Int.zero_add]
 | w :: ns,d :: ds,q,hl,h=>by
  have e:d*prd ns+unD ns ds+q*(w*prd ns)=unD ns ds+(d+q*w)*prd ns:=by rw [Int.add_mul,Int.mul_assoc];omega
  have ih:=dgs_un ns ds (d+q*w) (by simpa using hl) fun i w hw=>by simpa using h (i+1) w (by simpa using hw)
  have h0:0<=d/\d<w:=h 0 w rfl
  show ((dgs ns (d*prd ns+unD ns ds+q*(w*prd ns))).2 % w :: (dgs ns (d*prd ns+unD ns ds+q*(w*prd ns))).1,(dgs ns (d*prd ns+unD ns ds+q*(w*prd ns))).2 / w)=_
  rw [e,ih]
  show ((d+q*w) % w :: ds,(d+q*w) / w)=_
  rw [Int.add_mul_emod_self_right,Int.emod_eq_of_lt h0.1 h0.2,Int.add_mul_ediv_right _ _ (by omega),Int.ediv_eq_zero_of_lt h0.1 h0.2,Int.zero_add]
 | [],_ :: _,_,hl,_=>by cases hl
 | _ :: _,[],_,hl,_=>by cases hl
def dgL (s:zan) (y:StD):List Int:=(List.range (s.procs.length+s.vars.length)).map (dgN s y)
theorem dgL_at (s:zan) (y:StD) {i:Nat} (h:i<s.procs.length+s.vars.length):(dgL s y)[i]?=some (dgN s y i):=by unfold dgL;rw [List.getElem?_map,List.getElem?_range h];rfl
theorem stN_sur {s:zan} {y:StD} (hc:(zbw s).2=true) (hf:zbu s y=true) (hy:CanS y):∃ k:Nat,(k:Int)<(zbw s).1/\stI s k=y:=by
 have hpo:=fit_pos hc hf
 have hpp:=zfj hpo
 have hcp:(zbw s).1=prd (wdl s s.vars.length):=by
  have h1:=fit_prd hc hf
  unfold zbw prdB
  rw [if_pos (zgi hc),if_neg (fun h0=>by have:=hpo 0 h0;omega),if_pos h1]
 have hlw:=zff s s.vars.length
 have hd:=dgs_un (wdl s s.vars.length) (dgL s y) 0 (by rw [hlw];unfold dgL;rw [List.length_map,List.length_range]) fun i w hw=>by
  rw [dgL_at s y (by have:=zak hw;omega)]
  exact dgN_in hc hf hw
 rw [Int.zero_mul,Int.add_zero] at hd
 have h0:=dgs_div hpo (unD (wdl s s.vars.length) (dgL s y))
 rw [hd] at h0
 have h1:=Int.emod_add_mul_ediv (unD (wdl s s.vars.length) (dgL s y)) (prd (wdl s s.vars.length))
 rw [<- show (0:Int)=_ from h0,Int.mul_zero] at h1
 have h2:=Int.emod_nonneg (unD (wdl s s.vars.length) (dgL s y)) (show prd (wdl s s.vars.length)≠0 by omega)
 have h3:=Int.emod_lt_of_pos (unD (wdl s s.vars.length) (dgL s y)) (show 0<prd (wdl s s.vars.length) by omega)
 generalize hN:unD (wdl s s.vars.length) (dgL s y)=n at *
 have hdg:zdc s n=dgL s y:=congrArg Prod.fst hd
 obtain ⟨k,rfl⟩:∃ k:Nat,n=(k:Int):=⟨n.toNat,by omega⟩
 refine ⟨k,by omega,?_⟩
 have hfl:=zch hf
 unfold stI stN
 have e1:(zdc s (k:Int)).take s.procs.length=y.locs:=List.ext_getElem? fun i=>by
  by_cases hi:i<s.procs.length
  ·rw [List.getElem?_take_of_lt hi,hdg,dgL_at s y (by omega)]
   unfold dgN
   rw [if_pos hi,List.getElem?_eq_getElem (by omega)];rfl
  ·rw [List.getElem?_eq_none (by rw [List.length_take];omega),List.getElem?_eq_none (by omega)]
 have e2:(List.range s.vars.length).map (zg7 s (k:Int))=y.vals:=List.ext_getElem? fun v=>by
  by_cases hv:v<s.vars.length
  ·rw [List.getElem?_map,List.getElem?_range hv]
   show some (zg7 s (k:Int) v)=_
   unfold zg7
   rw [hdg,dgL_at s y (by omega)]
   unfold dgN
   rw [if_neg (by omega),Nat.add_sub_cancel_left,List.getElem?_eq_getElem (show v<y.vals.length by omega)]
   show some (ZI.of (_+(_ - _)))=_
   rw [show ∀ a b:Int,a+(b - a)=b from fun a b=>by omega]
   exact congrArg some (hy _ (List.getElem_mem _)).symm
  ·rw [List.getElem?_eq_none (by rw [List.length_map,List.length_range];omega),List.getElem?_eq_none (by omega)]
 rw [e1,e2]
end S
end Go.Proofs.YtdnhcneallkljaaGreat
