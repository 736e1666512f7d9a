/-
  Part 3 of the proof of the statement AbstrLetters: the walk through the program and the references lifted to the given row. It holds for every input.
-/
import Derived.Test.YtcppcnfmgpphcaaGreatVL2
import Derived.Shelf.Small.Bits
import Derived.Test.YtcppcnfmgpphcaaGreatProg
import Derived.Test.YtcppcnfmgpphcaaGreatVL1
import Derived.Laws.Bits64b
import Derived.Deep.RegionWith
import Derived.Deep.LoopGhost
set_option maxRecDepth 100000
namespace Go.Proofs.YtcppcnfmgpphcaaGreat.S
section
open Go.RowKit

theorem ti_3:za7 Tryz.prog 153:=za7.mk' (by kernel_rfl)
theorem ti_4:za7 Tryz.prog 127:=za7.mk' (by kernel_rfl)
theorem Srotate2 {r0 r1:List za2} {L a m b:Nat} (pre X Y post:List za2) (e0:r0=pre++X++Y++post) (e1:r1=pre++(Y++X)++post) (eL:L=pre.length+X.length+Y.length+post.length) (ea:a=pre.length) (em:m=pre.length+X.length) (eb:b=pre.length+X.length+Y.length) (hX:0<X.length) (hY:0<Y.length) (hl:L≤1000000) :
  Fn Tryz.prog 153 [(0,.row 100 3 (r0.map za2.d))] [.t (.c (.own 0 L)),vi .i64 (a:Int),vi .i64 (m:Int),vi .i64 (b:Int),.t (.c (.fn (.func 70) [] []))] (.tup []) [(0,.row 100 3 (r1.map za2.d))]:=by
 subst eL e0 e1 ea em eb
 exact Srotate pre X Y post hX hY hl
def SymP (N L a m b:Nat) (r0 r1:List za2):Prop:=∃ pre X Y post:List za2,X.length+Y.length=N∧a=pre.length∧m=pre.length+X.length∧b=pre.length+X.length+Y.length∧L=pre.length+X.length+Y.length+post.length∧L≤1000000∧0<X.length∧0<Y.length∧Ris za2.v X∧Ris za2.v Y ∧
  r0=pre++X++Y++post∧r1=pre++ssV za2.v (X++Y)++post
theorem ssV_e {a b:List za2} (h:a.length=0∨b.length=0) (ra:Ris za2.v a) (rb:Ris za2.v b):ssV za2.v (a++b)=a++b:=by
 rcases h with h | h
 ·rw [zgh h,List.nil_append];exact ssV_of rb
 ·rw [zgh h,List.append_nil];exact ssV_of ra
def SymIH (N:Nat):Prop:=∀ n,n<N→∀ (L a m b:Nat) (r0 r1:List za2),SymP n L a m b r0 r1→Fn Tryz.prog 127 [(0,.row 100 3 (r0.map za2.d))] [.t (.c (.own 0 L)),vi .i64 (a:Int),vi .i64 (m:Int),vi .i64 (b:Int),.t (.c (.fn (.func 70) [] []))] (.tup []) [(0,.row 100 3 (r1.map za2.d))]
set_option maxHeartbeats 4000000 in
theorem SsymN {N L lo m b:Nat} {r0 r1:List za2} (ih:SymIH N) (hs:SymP N L lo m b r0 r1) :Fn Tryz.prog 127 [(0,.row 100 3 (r0.map za2.d))] [.t (.c (.own 0 L)),vi .i64 (lo:Int),vi .i64 (m:Int),vi .i64 (b:Int),.t (.c (.fn (.func 70) [] []))] (.tup []) [(0,.row 100 3 (r1.map za2.d))]:=by
 obtain ⟨pre,X,Y,post,hN,ha,hm,hb,hL,hl,hX,hY,rX,rY,rfl,rfl⟩:=hs
 have hlen:(pre++X++Y++post).length=L:=by simp only [List.length_append];omega
 refine Fn.body Tryz.func127 rfl 220 rfl fun w H B a h=>?_
 refine wp_seq (rq za0 1 [(2,.gen _ _ _ fun _ _ _ _=>Op.arith (op := .sub) (d:=27) (xt:=3) (yt:=3) (k := .i64) (m:=(m:Int)) (n:=(lo:Int)) (r:=(X.length:Int)) (OV.tmp 25 _) (OV.tmp 26 _) (.inr (.inl ⟨rfl,(by omega)⟩)) (zad (by omega) (by omega)))] [(0,.t (.c (.own 0 L))),(1,vi .i64 (lo:Int)),(2,vi .i64 (m:Int)),(3,vi .i64 (b:Int)),(4,.t (.c (.fn (.func 70) [] []))),(28,vb ((X.length:Int) == 1))] [(0,.row 100 3 ((pre++X++Y++post).map za2.d))] h ?_);clear h;intro a w h
 refine zaa ((X.length:Int) == 1) h rfl (fun hc=>?_) (fun hc=>?_)
 ·have hc1:=hc;clear hc
  have hc1':=hc1;(try simp at hc1')
  refine rq za0 1 [] [(0,.t (.c (.own 0 L))),(1,vi .i64 (lo:Int)),(2,vi .i64 (m:Int)),(3,vi .i64 (b:Int)),(4,.t (.c (.fn (.func 70) [] []))),(10,vi .i64 (m:Int))] [(0,.row 100 3 ((pre++X++Y++post).map za2.d))] h ?_;clear h;intro a w h
  refine rq za0 1 [] [(0,.t (.c (.own 0 L))),(1,vi .i64 (lo:Int)),(2,vi .i64 (m:Int)),(3,vi .i64 (b:Int)),(4,.t (.c (.fn (.func 70) [] []))),(10,vi .i64 (m:Int)),(11,vi .i64 (b:Int))] [(0,.row 100 3 ((pre++X++Y++post).map za2.d))] h ?_;clear h;intro a w h
  refine wp_seq (wp_block ?_)
  refine zb1 (ι:=(Nat) × (Nat)) (fun (z_:(Nat) × (Nat))=>match z_ with | (i,j)=>m≤i∧i≤j∧j≤b∧(i=m∨kat (pre++X++Y++post) (i - 1)<kat (pre++X++Y++post) (lo))∧(j=b∨kat (pre++X++Y++post) (lo)≤kat (pre++X++Y++post) (j)))
    (fun (z_:(Nat) × (Nat))=>match z_ with | (i,j)=>[(0,.t (.c (.own 0 L))),(1,vi .i64 (lo:Int)),(2,vi .i64 (m:Int)),(3,vi .i64 (b:Int)),(4,.t (.c (.fn (.func 70) [] []))),(10,vi .i64 (i:Int)),(11,vi .i64 (j:Int))])
    (fun (z_:(Nat) × (Nat))=>match z_ with | (i,j)=>[(0,.row 100 3 ((pre++X++Y++post).map za2.d))])
    (fun (z_:(Nat) × (Nat))=>match z_ with | (i,j)=>j - i) (m,b) ?_ h (by kernel_rfl) (by kernel_rfl) ?_
  ·exact ⟨Nat.le_refl _,by omega,Nat.le_refl _,.inl rfl,.inl rfl⟩
  ·clear h;rintro ⟨i,j⟩ a w hI h
   change St _ (F.of [(0,.t (.c (.own 0 L))),(1,vi .i64 (lo:Int)),(2,vi .i64 (m:Int)),(3,vi .i64 (b:Int)),(4,.t (.c (.fn (.func 70) [] []))),(10,vi .i64 (i:Int)),(11,vi .i64 (j:Int))] [(0,.row 100 3 ((pre++X++Y++post).map za2.d))]) a w at h
   obtain ⟨q1,q2,q3,q4,q5⟩:=hI
   refine wp_seq (rq za0 1 [] [(0,.t (.c (.own 0 L))),(1,vi .i64 (lo:Int)),(2,vi .i64 (m:Int)),(3,vi .i64 (b:Int)),(4,.t (.c (.fn (.func 70) [] []))),(10,vi .i64 (i:Int)),(11,vi .i64 (j:Int)),(33,vb (decide ((i:Int)<(j:Int))))] [(0,.row 100 3 ((pre++X++Y++post).map za2.d))] h ?_);clear h;intro a w h
   refine zaa (decide ((i:Int)<(j:Int))) h rfl (fun hc=>?_) (fun hc=>?_)
   ·have hc2:=hc;clear hc
    have hc2':=of_decide_eq_true hc2
    refine wp_skip (za4 (wp_block (rq za0 1 [(2,.gen _ _ _ fun _ _ _ _=>Op.arith (op := .add) (d:=36) (xt:=3) (yt:=3) (k := .i64) (m:=(i:Int)) (n:=(j:Int)) (r:=((i+j:Nat):Int)) (OV.tmp 34 _) (OV.tmp 35 _) (.inl ⟨rfl,(by omega)⟩) (zad (by omega) (by omega))),(3,.conv .i64 .u64 (m:=((i+j:Nat):Int)) (u64_id (by omega) (by omega))),(4,.gen _ _ _ fun _ _ _ _=>Op.shr (d:=38) (xt:=153) (yt:=153) (k := .u64) (k' := .u64) (m:=((i+j:Nat):Int)) (n:=1) (r:=(((i+j) / 2:Nat):Int)) (OV.tmp 37 _) (OV.const (.int .u64 1) rfl) (by decide) (half _)),(5,.conv .u64 .i64 (m:=(((i+j) / 2:Nat):Int)) (zad (by omega) (by omega)))] [(0,.t (.c (.own 0 L))),(1,vi .i64 (lo:Int)),(2,vi .i64 (m:Int)),(3,vi .i64 (b:Int)),(4,.t (.c (.fn (.func 70) [] []))),(10,vi .i64 (i:Int)),(11,vi .i64 (j:Int)),(12,vi .i64 (((i+j) / 2:Nat):Int))] [(0,.row 100 3 ((pre++X++Y++post).map za2.d))] h ?_)));clear h;intro a w h
    obtain ⟨x1,hx1⟩:∃ z_:za2,(pre++X++Y++post)[(i+j) / 2]?=some z_:=⟨_,List.getElem?_eq_getElem (by first | omega | (simp at *;omega))⟩
    obtain ⟨x2,hx2⟩:∃ z_:za2,(pre++X++Y++post)[lo]?=some z_:=⟨_,List.getElem?_eq_getElem (by first | omega | (simp at *;omega))⟩
    refine rq za0 1 [(3,.gen _ _ _ fun _ _ _ _=>Op.idxO (d:=43) (t:=41) (k := .i64) (n:=0) (len:=L) (i:=((i+j) / 2)) zc0 (by first | omega | (simp at *;omega)) (OV.tmp 42 _)),(4,.gen _ _ _ fun _ _ _ _=>Op.loadR_agg (d:=44) (t:=43) (n:=0) (i:=((i+j) / 2)) (fo:=0) (rty:=100) (es:=3) (xs:=[.raw (.int .i64 x1.v),.raw (.bool x1.c.neg),nsl x1.c.abs]) zfg rfl (zal hx1 (f:=za2.d)) rfl rfl),(7,.gen _ _ _ fun _ _ _ _=>Op.idxO (d:=47) (t:=45) (k := .i64) (n:=0) (len:=L) (i:=lo) zc0 (by first | omega | (simp at *;omega)) (OV.tmp 46 _)),(8,.gen _ _ _ fun _ _ _ _=>Op.loadR_agg (d:=48) (t:=47) (n:=0) (i:=lo) (fo:=0) (rty:=100) (es:=3) (xs:=[.raw (.int .i64 x2.v),.raw (.bool x2.c.neg),nsl x2.c.abs]) zfg rfl (zal hx2 (f:=za2.d)) rfl rfl),(9,.gen _ _ _ fun _ _ _ _=>Op.callV (d:=49) (t:=40) (cap:=[]) (args:=[.t (.agg ([.d (.raw (.int .i64 x1.v))]++zi x1.c)),.t (.agg ([.d (.raw (.int .i64 x2.v))]++zi x2.c))]) (rs:=[(44,.t (.agg ([.d (.raw (.int .i64 x1.v))]++zi x1.c))),(48,.t (.agg ([.d (.raw (.int .i64 x2.v))]++zi x2.c)))]) (tys:=#[100,100]) (SPlain1 x1 x2) te_2 (OVs.cons (OV.tmp 44 _) (OVs.cons (OV.tmp 48 _) (OVs.nil))))] [(0,.t (.c (.own 0 L))),(1,vi .i64 (lo:Int)),(2,vi .i64 (m:Int)),(3,vi .i64 (b:Int)),(4,.t (.c (.fn (.func 70) [] []))),(10,vi .i64 (i:Int)),(11,vi .i64 (j:Int)),(12,vi .i64 (((i+j) / 2:Nat):Int)),(50,vb (decide (zbn x1.v x2.v<0)))] [(0,.row 100 3 ((pre++X++Y++post).map za2.d))] h ?_;clear h;intro a w h
    refine zaa (decide (zbn x1.v x2.v<0)) h rfl (fun hc=>?_) (fun hc=>?_)
    ·have hc3:=hc;clear hc
     have hc3':=of_decide_eq_true hc3
     refine rn za0 1 [(1,.gen _ _ _ fun _ _ _ _=>Op.arith (op := .add) (d:=52) (xt:=3) (yt:=3) (k := .i64) (m:=(((i+j) / 2:Nat):Int)) (n:=1) (r:=(((i+j) / 2+1:Nat):Int)) (OV.tmp 51 _) (OV.const (.int .i64 1) rfl) (.inl ⟨rfl,(by omega)⟩) (zad (by omega) (by omega)))] [(0,.t (.c (.own 0 L))),(1,vi .i64 (lo:Int)),(2,vi .i64 (m:Int)),(3,vi .i64 (b:Int)),(4,.t (.c (.fn (.func 70) [] []))),(10,vi .i64 (((i+j) / 2+1:Nat):Int)),(11,vi .i64 (j:Int))] [(0,.row 100 3 ((pre++X++Y++post).map za2.d))] h ?_;clear h;intro a w h
     refine zac (za4 ?_)
     refine zam (x:=(i,j)) (y:=(((i+j) / 2+1),j)) h ?_ ?_
     ·exact ⟨by omega,by omega,by omega,.inr (by rw [show (i+j) / 2+1 - 1=(i+j) / 2 from rfl,zda hx1,zda hx2];exact zdk.1 hc3'),q5⟩
     ·show j - ((i+j) / 2+1)<j - i
      omega
    ·have hc4:=hc;clear hc
     have hc4':=of_decide_eq_false hc4
     refine rn za0 1 [] [(0,.t (.c (.own 0 L))),(1,vi .i64 (lo:Int)),(2,vi .i64 (m:Int)),(3,vi .i64 (b:Int)),(4,.t (.c (.fn (.func 70) [] []))),(10,vi .i64 (i:Int)),(11,vi .i64 (((i+j) / 2:Nat):Int))] [(0,.row 100 3 ((pre++X++Y++post).map za2.d))] h ?_;clear h;intro a w h
     refine zac (za4 ?_)
     refine zam (x:=(i,j)) (y:=(i,((i+j) / 2))) h ?_ ?_
     ·exact ⟨by omega,by omega,by omega,q4,.inr (by rw [zda hx1,zda hx2];exact Int.not_lt.1 (mt zdk.2 hc4'))⟩
     ·show (i+j) / 2 - i<j - i
      omega
   ·have hc5:=hc;clear hc
    have hc5':=of_decide_eq_false hc5
    refine wp_exit (zai (zai (za8 (za4 (wp_seq ?_)))))
    obtain ⟨x,b1,b2,hX1,hY1,hi1,hsm⟩:=srch1 (pre:=pre) (X:=X) (Y:=Y) (post:=post) (i:=i) (by omega) rY (by omega) (by omega) (q4.elim (fun g => .inl (by omega)) (fun g => .inr (by rw [← ha];exact g))) (q5.elim (fun g => .inl (by omega)) (fun g => .inr (by rw [← ha,show i=j by omega];exact g)))
    have hlb:Y.length=b1.length+b2.length:=by rw [hY1,List.length_append]
    replace h:=h.conv (f':=F.of [(0,.t (.c (.own 0 L))),(1,vi .i64 (lo:Int)),(2,vi .i64 (m:Int)),(3,vi .i64 (b:Int)),(4,.t (.c (.fn (.func 70) [] []))),(10,vi .i64 (i:Int)),(11,vi .i64 (j:Int)),(33,vb (decide ((i:Int)<(j:Int))))] [(0,.row 100 3 ((pre++b1.take 0++x :: (b1.drop 0++(b2++post))).map za2.d))]) (congrArg (fun (z_:List za2)=>F.of [(0,.t (.c (.own 0 L))),(1,vi .i64 (lo:Int)),(2,vi .i64 (m:Int)),(3,vi .i64 (b:Int)),(4,.t (.c (.fn (.func 70) [] []))),(10,vi .i64 (i:Int)),(11,vi .i64 (j:Int)),(33,vb (decide ((i:Int)<(j:Int))))] [(0,.row 100 3 (z_.map za2.d))]) (show ((pre++X++Y++post):List za2)=(pre++b1.take 0++x :: (b1.drop 0++(b2++post))) from by rw [hX1,hY1];simp))
    refine rq za0 1 [] [(0,.t (.c (.own 0 L))),(1,vi .i64 (lo:Int)),(2,vi .i64 (m:Int)),(3,vi .i64 (b:Int)),(4,.t (.c (.fn (.func 70) [] []))),(10,vi .i64 (i:Int)),(13,vi .i64 (lo:Int))] [(0,.row 100 3 ((pre++b1.take 0++x :: (b1.drop 0++(b2++post))).map za2.d))] h ?_;clear h;intro a w h
    refine wp_block ?_
    refine zb1 (ι:=(Nat) × (Nat)) (fun (z_:(Nat) × (Nat))=>match z_ with | (k,t)=>k=lo+t∧t≤b1.length)
      (fun (z_:(Nat) × (Nat))=>match z_ with | (k,t)=>[(0,.t (.c (.own 0 L))),(1,vi .i64 (lo:Int)),(2,vi .i64 (m:Int)),(3,vi .i64 (b:Int)),(4,.t (.c (.fn (.func 70) [] []))),(10,vi .i64 (i:Int)),(13,vi .i64 (k:Int))])
      (fun (z_:(Nat) × (Nat))=>match z_ with | (k,t)=>[(0,.row 100 3 ((pre++b1.take t++x :: (b1.drop t++(b2++post))).map za2.d))])
      (fun (z_:(Nat) × (Nat))=>match z_ with | (k,t)=>b1.length - t) (lo,0) ?_ h (by kernel_rfl) (by kernel_rfl) ?_
    ·exact ⟨rfl,Nat.zero_le _⟩
    ·clear h;rintro ⟨k,t⟩ a w hI h
     change St _ (F.of [(0,.t (.c (.own 0 L))),(1,vi .i64 (lo:Int)),(2,vi .i64 (m:Int)),(3,vi .i64 (b:Int)),(4,.t (.c (.fn (.func 70) [] []))),(10,vi .i64 (i:Int)),(13,vi .i64 (k:Int))] [(0,.row 100 3 ((pre++b1.take t++x :: (b1.drop t++(b2++post))).map za2.d))]) a w at h
     obtain ⟨p1,p2⟩:=hI
     refine wp_seq (rq za0 1 [(2,.gen _ _ _ fun _ _ _ _=>Op.arith (op := .sub) (d:=57) (xt:=3) (yt:=3) (k := .i64) (m:=(i:Int)) (n:=1) (r:=((lo+b1.length:Nat):Int)) (OV.tmp 56 _) (OV.const (.int .i64 1) rfl) (.inr (.inl ⟨rfl,(by omega)⟩)) (zad (by omega) (by omega)))] [(0,.t (.c (.own 0 L))),(1,vi .i64 (lo:Int)),(2,vi .i64 (m:Int)),(3,vi .i64 (b:Int)),(4,.t (.c (.fn (.func 70) [] []))),(10,vi .i64 (i:Int)),(13,vi .i64 (k:Int)),(58,vb (decide ((k:Int)<((lo+b1.length:Nat):Int))))] [(0,.row 100 3 ((pre++b1.take t++x :: (b1.drop t++(b2++post))).map za2.d))] h ?_);clear h;intro a w h
     refine zaa (decide ((k:Int)<((lo+b1.length:Nat):Int))) h rfl (fun hc=>?_) (fun hc=>?_)
     ·have hc6:=hc;clear hc
      have hc6':=of_decide_eq_true hc6
      refine wp_skip (za4 (wp_seq (wp_block ?_)))
      obtain ⟨y,hy⟩:∃ z_:za2,b1[t]?=some z_:=⟨_,List.getElem?_eq_getElem (by omega)⟩
      refine rn za0 1 [(4,.gen _ _ _ fun _ _ _ _=>Op.arith (op := .add) (d:=65) (xt:=3) (yt:=3) (k := .i64) (m:=(k:Int)) (n:=1) (r:=((k+1:Nat):Int)) (OV.tmp 64 _) (OV.const (.int .i64 1) rfl) (.inl ⟨rfl,(by omega)⟩) (zad (by omega) (by omega))),(7,.gen _ _ _ fun _ _ _ _=>Op.arith (op := .add) (d:=68) (xt:=3) (yt:=3) (k := .i64) (m:=(k:Int)) (n:=1) (r:=((k+1:Nat):Int)) (OV.tmp 67 _) (OV.const (.int .i64 1) rfl) (.inl ⟨rfl,(by omega)⟩) (zad (by omega) (by omega))),(8,.gen _ _ _ fun _ _ _ _=>Op.idxO (d:=69) (t:=66) (k := .i64) (n:=0) (len:=L) (i:=(k+1)) zc0 (by first | omega | (simp at *;omega)) (OV.tmp 68 _)),(9,.gen _ _ _ fun _ _ _ _=>Op.loadR_agg (d:=70) (t:=69) (n:=0) (i:=(k+1)) (fo:=0) (rty:=100) (es:=3) (xs:=[.raw (.int .i64 y.v),.raw (.bool y.c.neg),nsl y.c.abs]) zfg rfl (zal (show ((pre++b1.take t++x :: (b1.drop t++(b2++post))):List za2)[k+1]?=some y from (up_nx (p:=pre) (k+1) (by omega) hy)) (f:=za2.d)) rfl rfl),(12,.gen _ _ _ fun _ _ _ _=>Op.idxO (d:=73) (t:=71) (k := .i64) (n:=0) (len:=L) (i:=k) zc0 (by first | omega | (simp at *;omega)) (OV.tmp 72 _)),(13,.gen _ _ _ fun _ _ _ _=>Op.loadR_agg (d:=74) (t:=73) (n:=0) (i:=k) (fo:=0) (rty:=100) (es:=3) (xs:=[.raw (.int .i64 x.v),.raw (.bool x.c.neg),nsl x.c.abs]) zfg rfl (zal (show ((pre++b1.take t++x :: (b1.drop t++(b2++post))):List za2)[k]?=some x from (up_at (p:=pre) (q:=b1) (t:=t) k (by omega) (by omega))) (f:=za2.d)) rfl rfl),(14,.gen _ _ _ fun _ _ _ _=>Op.idxO (d:=75) (t:=61) (k := .i64) (n:=0) (len:=L) (i:=k) zc0 (by first | omega | (simp at *;omega)) (OV.tmp 62 _)),(15,.gen _ _ _ fun _ _ _ _=>Op.storeR (t:=75) (n:=0) (i:=k) (fo:=0) (rty:=100) (es:=3) (r:=za2.d x) (ds:=[.raw (.int .i64 y.v),.raw (.bool y.c.neg),nsl y.c.abs]) (rs:=[(70,.t (.agg ([.d (.raw (.int .i64 y.v))]++zi y.c)))]) (rows:=(pre++b1.take t++x :: (b1.drop t++(b2++post))).map za2.d) (rows':=((pre++b1.take t++x :: (b1.drop t++(b2++post))).set k y).map za2.d) zfg (OV.tmp 70 _) rfl rfl rfl (zal (show ((pre++b1.take t++x :: (b1.drop t++(b2++post))):List za2)[k]?=some x from (up_at (p:=pre) (q:=b1) (t:=t) k (by omega) (by omega))) (f:=za2.d)) (by simp [za2.d]) (zck (xs:=(pre++b1.take t++x :: (b1.drop t++(b2++post)))) (F:=za2.d) k _ _ rfl)),(16,.gen _ _ _ fun _ _ _ _=>Op.idxO (d:=76) (t:=63) (k := .i64) (n:=0) (len:=L) (i:=(k+1)) zc0 (by first | omega | (simp at *;omega)) (OV.tmp 65 _)),(17,.gen _ _ _ fun _ _ _ _=>Op.storeR (t:=76) (n:=0) (i:=(k+1)) (fo:=0) (rty:=100) (es:=3) (r:=za2.d y) (ds:=[.raw (.int .i64 x.v),.raw (.bool x.c.neg),nsl x.c.abs]) (rs:=[(74,.t (.agg ([.d (.raw (.int .i64 x.v))]++zi x.c)))]) (rows:=((pre++b1.take t++x :: (b1.drop t++(b2++post))).set k y).map za2.d) (rows':=(((pre++b1.take t++x :: (b1.drop t++(b2++post))).set k y).set (k+1) x).map za2.d) zfg (OV.tmp 74 _) rfl rfl rfl (zal ((List.getElem?_set_ne (by omega)).trans (show ((pre++b1.take t++x :: (b1.drop t++(b2++post))):List za2)[k+1]?=some y from (up_nx (p:=pre) (k+1) (by omega) hy))) (f:=za2.d)) (by simp [za2.d]) (zck (xs:=((pre++b1.take t++x :: (b1.drop t++(b2++post))).set k y)) (F:=za2.d) (k+1) _ _ rfl))] [(0,.t (.c (.own 0 L))),(1,vi .i64 (lo:Int)),(2,vi .i64 (m:Int)),(3,vi .i64 (b:Int)),(4,.t (.c (.fn (.func 70) [] []))),(10,vi .i64 (i:Int)),(13,vi .i64 (k:Int))] [(0,.row 100 3 ((((pre++b1.take t++x :: (b1.drop t++(b2++post))).set k y).set (k+1) x).map za2.d))] h ?_;clear h;intro a w h
      refine zac (za4 (rn za0 1 [(1,.gen _ _ _ fun _ _ _ _=>Op.arith (op := .add) (d:=60) (xt:=3) (yt:=3) (k := .i64) (m:=(k:Int)) (n:=1) (r:=((k+1:Nat):Int)) (OV.tmp 59 _) (OV.const (.int .i64 1) rfl) (.inl ⟨rfl,(by omega)⟩) (zad (by omega) (by omega)))] [(0,.t (.c (.own 0 L))),(1,vi .i64 (lo:Int)),(2,vi .i64 (m:Int)),(3,vi .i64 (b:Int)),(4,.t (.c (.fn (.func 70) [] []))),(10,vi .i64 (i:Int)),(13,vi .i64 ((k+1:Nat):Int))] [(0,.row 100 3 ((((pre++b1.take t++x :: (b1.drop t++(b2++post))).set k y).set (k+1) x).map za2.d))] h ?_));clear h;intro a w h
      refine za4 ?_
      rw [up_step (p:=pre) k (k+1) (by omega) rfl hy] at h
      refine zam (x:=(k,t)) (y:=(k+1,t+1)) h ?_ ?_
      ·exact ⟨by omega,by omega⟩
      ·show b1.length - (t+1)<b1.length - t
       omega
     ·have hc7:=hc;clear hc
      have hc7':=of_decide_eq_false hc7
      refine wp_exit (zai (zai (za8 (za4 (wp_ret (za9 ?_))))))
      replace h:=h.conv (f':=F.of [(0,.t (.c (.own 0 L))),(1,vi .i64 (lo:Int)),(2,vi .i64 (m:Int)),(3,vi .i64 (b:Int)),(4,.t (.c (.fn (.func 70) [] []))),(10,vi .i64 (i:Int)),(13,vi .i64 (k:Int)),(58,vb (decide ((k:Int)<((lo+b1.length:Nat):Int))))] [(0,.row 100 3 ((pre++ssV za2.v (X++Y)++post).map za2.d))]) (congrArg (fun (z_:List za2)=>F.of [(0,.t (.c (.own 0 L))),(1,vi .i64 (lo:Int)),(2,vi .i64 (m:Int)),(3,vi .i64 (b:Int)),(4,.t (.c (.fn (.func 70) [] []))),(10,vi .i64 (i:Int)),(13,vi .i64 (k:Int)),(58,vb (decide ((k:Int)<((lo+b1.length:Nat):Int))))] [(0,.row 100 3 (z_.map za2.d))]) (show ((pre++b1.take t++x :: (b1.drop t++(b2++post))):List za2)=(pre++ssV za2.v (X++Y)++post) from by
        rw [← hsm,show t=b1.length by omega,List.take_length,List.drop_length];simp))
      refine zap [] h Exit.ret (.inl rfl)  rfl trivial ?_
      rfl
 ·have hc8:=hc;clear hc
  have hc8':=hc8;(try simp at hc8')
  refine wp_skip (za4 (wp_seq (rq za0 1 [(2,.gen _ _ _ fun _ _ _ _=>Op.arith (op := .sub) (d:=79) (xt:=3) (yt:=3) (k := .i64) (m:=(b:Int)) (n:=(m:Int)) (r:=(Y.length:Int)) (OV.tmp 77 _) (OV.tmp 78 _) (.inr (.inl ⟨rfl,(by omega)⟩)) (zad (by omega) (by omega)))] [(0,.t (.c (.own 0 L))),(1,vi .i64 (lo:Int)),(2,vi .i64 (m:Int)),(3,vi .i64 (b:Int)),(4,.t (.c (.fn (.func 70) [] []))),(80,vb ((Y.length:Int) == 1))] [(0,.row 100 3 ((pre++X++Y++post).map za2.d))] h ?_)));clear h;intro a w h
  refine zaa ((Y.length:Int) == 1) h rfl (fun hc=>?_) (fun hc=>?_)
  ·have hc9:=hc;clear hc
   have hc9':=hc9;(try simp at hc9')
   refine rq za0 1 [] [(0,.t (.c (.own 0 L))),(1,vi .i64 (lo:Int)),(2,vi .i64 (m:Int)),(3,vi .i64 (b:Int)),(4,.t (.c (.fn (.func 70) [] []))),(14,vi .i64 (lo:Int))] [(0,.row 100 3 ((pre++X++Y++post).map za2.d))] h ?_;clear h;intro a w h
   refine rq za0 1 [] [(0,.t (.c (.own 0 L))),(1,vi .i64 (lo:Int)),(2,vi .i64 (m:Int)),(3,vi .i64 (b:Int)),(4,.t (.c (.fn (.func 70) [] []))),(14,vi .i64 (lo:Int)),(15,vi .i64 (m:Int))] [(0,.row 100 3 ((pre++X++Y++post).map za2.d))] h ?_;clear h;intro a w h
   refine wp_seq (wp_block ?_)
   refine zb1 (ι:=(Nat) × (Nat)) (fun (z_:(Nat) × (Nat))=>match z_ with | (i,j)=>lo≤i∧i≤j∧j≤m∧(i=lo∨kat (pre++X++Y++post) (i - 1)≤kat (pre++X++Y++post) (m))∧(j=m∨kat (pre++X++Y++post) (m)<kat (pre++X++Y++post) (j)))
     (fun (z_:(Nat) × (Nat))=>match z_ with | (i,j)=>[(0,.t (.c (.own 0 L))),(1,vi .i64 (lo:Int)),(2,vi .i64 (m:Int)),(3,vi .i64 (b:Int)),(4,.t (.c (.fn (.func 70) [] []))),(14,vi .i64 (i:Int)),(15,vi .i64 (j:Int))])
     (fun (z_:(Nat) × (Nat))=>match z_ with | (i,j)=>[(0,.row 100 3 ((pre++X++Y++post).map za2.d))])
     (fun (z_:(Nat) × (Nat))=>match z_ with | (i,j)=>j - i) (lo,m) ?_ h (by kernel_rfl) (by kernel_rfl) ?_
   ·exact ⟨Nat.le_refl _,by omega,Nat.le_refl _,.inl rfl,.inl rfl⟩
   ·clear h;rintro ⟨i,j⟩ a w hI h
    change St _ (F.of [(0,.t (.c (.own 0 L))),(1,vi .i64 (lo:Int)),(2,vi .i64 (m:Int)),(3,vi .i64 (b:Int)),(4,.t (.c (.fn (.func 70) [] []))),(14,vi .i64 (i:Int)),(15,vi .i64 (j:Int))] [(0,.row 100 3 ((pre++X++Y++post).map za2.d))]) a w at h
    obtain ⟨q1,q2,q3,q4,q5⟩:=hI
    refine wp_seq (rq za0 1 [] [(0,.t (.c (.own 0 L))),(1,vi .i64 (lo:Int)),(2,vi .i64 (m:Int)),(3,vi .i64 (b:Int)),(4,.t (.c (.fn (.func 70) [] []))),(14,vi .i64 (i:Int)),(15,vi .i64 (j:Int)),(85,vb (decide ((i:Int)<(j:Int))))] [(0,.row 100 3 ((pre++X++Y++post).map za2.d))] h ?_);clear h;intro a w h
    refine zaa (decide ((i:Int)<(j:Int))) h rfl (fun hc=>?_) (fun hc=>?_)
    ·have hc10:=hc;clear hc
     have hc10':=of_decide_eq_true hc10
     refine wp_skip (za4 (wp_block (rq za0 1 [(2,.gen _ _ _ fun _ _ _ _=>Op.arith (op := .add) (d:=88) (xt:=3) (yt:=3) (k := .i64) (m:=(i:Int)) (n:=(j:Int)) (r:=((i+j:Nat):Int)) (OV.tmp 86 _) (OV.tmp 87 _) (.inl ⟨rfl,(by omega)⟩) (zad (by omega) (by omega))),(3,.conv .i64 .u64 (m:=((i+j:Nat):Int)) (u64_id (by omega) (by omega))),(4,.gen _ _ _ fun _ _ _ _=>Op.shr (d:=90) (xt:=153) (yt:=153) (k := .u64) (k' := .u64) (m:=((i+j:Nat):Int)) (n:=1) (r:=(((i+j) / 2:Nat):Int)) (OV.tmp 89 _) (OV.const (.int .u64 1) rfl) (by decide) (half _)),(5,.conv .u64 .i64 (m:=(((i+j) / 2:Nat):Int)) (zad (by omega) (by omega)))] [(0,.t (.c (.own 0 L))),(1,vi .i64 (lo:Int)),(2,vi .i64 (m:Int)),(3,vi .i64 (b:Int)),(4,.t (.c (.fn (.func 70) [] []))),(14,vi .i64 (i:Int)),(15,vi .i64 (j:Int)),(16,vi .i64 (((i+j) / 2:Nat):Int))] [(0,.row 100 3 ((pre++X++Y++post).map za2.d))] h ?_)));clear h;intro a w h
     obtain ⟨x4,hx4⟩:∃ z_:za2,(pre++X++Y++post)[m]?=some z_:=⟨_,List.getElem?_eq_getElem (by first | omega | (simp at *;omega))⟩
     obtain ⟨x5,hx5⟩:∃ z_:za2,(pre++X++Y++post)[(i+j) / 2]?=some z_:=⟨_,List.getElem?_eq_getElem (by first | omega | (simp at *;omega))⟩
     refine rq za0 1 [(3,.gen _ _ _ fun _ _ _ _=>Op.idxO (d:=95) (t:=93) (k := .i64) (n:=0) (len:=L) (i:=m) zc0 (by first | omega | (simp at *;omega)) (OV.tmp 94 _)),(4,.gen _ _ _ fun _ _ _ _=>Op.loadR_agg (d:=96) (t:=95) (n:=0) (i:=m) (fo:=0) (rty:=100) (es:=3) (xs:=[.raw (.int .i64 x4.v),.raw (.bool x4.c.neg),nsl x4.c.abs]) zfg rfl (zal hx4 (f:=za2.d)) rfl rfl),(7,.gen _ _ _ fun _ _ _ _=>Op.idxO (d:=99) (t:=97) (k := .i64) (n:=0) (len:=L) (i:=((i+j) / 2)) zc0 (by first | omega | (simp at *;omega)) (OV.tmp 98 _)),(8,.gen _ _ _ fun _ _ _ _=>Op.loadR_agg (d:=100) (t:=99) (n:=0) (i:=((i+j) / 2)) (fo:=0) (rty:=100) (es:=3) (xs:=[.raw (.int .i64 x5.v),.raw (.bool x5.c.neg),nsl x5.c.abs]) zfg rfl (zal hx5 (f:=za2.d)) rfl rfl),(9,.gen _ _ _ fun _ _ _ _=>Op.callV (d:=101) (t:=92) (cap:=[]) (args:=[.t (.agg ([.d (.raw (.int .i64 x4.v))]++zi x4.c)),.t (.agg ([.d (.raw (.int .i64 x5.v))]++zi x5.c))]) (rs:=[(96,.t (.agg ([.d (.raw (.int .i64 x4.v))]++zi x4.c))),(100,.t (.agg ([.d (.raw (.int .i64 x5.v))]++zi x5.c)))]) (tys:=#[100,100]) (SPlain1 x4 x5) te_2 (OVs.cons (OV.tmp 96 _) (OVs.cons (OV.tmp 100 _) (OVs.nil))))] [(0,.t (.c (.own 0 L))),(1,vi .i64 (lo:Int)),(2,vi .i64 (m:Int)),(3,vi .i64 (b:Int)),(4,.t (.c (.fn (.func 70) [] []))),(14,vi .i64 (i:Int)),(15,vi .i64 (j:Int)),(16,vi .i64 (((i+j) / 2:Nat):Int)),(103,vb (!(decide (zbn x4.v x5.v<0))))] [(0,.row 100 3 ((pre++X++Y++post).map za2.d))] h ?_;clear h;intro a w h
     refine zaa (!(decide (zbn x4.v x5.v<0))) h rfl (fun hc=>?_) (fun hc=>?_)
     ·have hc11:=hc;clear hc
      have hc11':=hc11;(try simp at hc11')
      refine rn za0 1 [(1,.gen _ _ _ fun _ _ _ _=>Op.arith (op := .add) (d:=105) (xt:=3) (yt:=3) (k := .i64) (m:=(((i+j) / 2:Nat):Int)) (n:=1) (r:=(((i+j) / 2+1:Nat):Int)) (OV.tmp 104 _) (OV.const (.int .i64 1) rfl) (.inl ⟨rfl,(by omega)⟩) (zad (by omega) (by omega)))] [(0,.t (.c (.own 0 L))),(1,vi .i64 (lo:Int)),(2,vi .i64 (m:Int)),(3,vi .i64 (b:Int)),(4,.t (.c (.fn (.func 70) [] []))),(14,vi .i64 (((i+j) / 2+1:Nat):Int)),(15,vi .i64 (j:Int))] [(0,.row 100 3 ((pre++X++Y++post).map za2.d))] h ?_;clear h;intro a w h
      refine zac (za4 ?_)
      refine zam (x:=(i,j)) (y:=(((i+j) / 2+1),j)) h ?_ ?_
      ·exact ⟨by omega,by omega,by omega,.inr (by rw [show (i+j) / 2+1 - 1=(i+j) / 2 from rfl,zda hx5,zda hx4];exact Int.not_lt.1 (mt zdk.2 (Int.not_lt.2 hc11'))),q5⟩
      ·show j - ((i+j) / 2+1)<j - i
       omega
     ·have hc12:=hc;clear hc
      have hc12':=hc12;(try simp at hc12')
      refine rn za0 1 [] [(0,.t (.c (.own 0 L))),(1,vi .i64 (lo:Int)),(2,vi .i64 (m:Int)),(3,vi .i64 (b:Int)),(4,.t (.c (.fn (.func 70) [] []))),(14,vi .i64 (i:Int)),(15,vi .i64 (((i+j) / 2:Nat):Int))] [(0,.row 100 3 ((pre++X++Y++post).map za2.d))] h ?_;clear h;intro a w h
      refine zac (za4 ?_)
      refine zam (x:=(i,j)) (y:=(i,((i+j) / 2))) h ?_ ?_
      ·exact ⟨by omega,by omega,by omega,q4,.inr (by rw [zda hx5,zda hx4];exact zdk.1 hc12')⟩
      ·show (i+j) / 2 - i<j - i
       omega
    ·have hc13:=hc;clear hc
     have hc13':=of_decide_eq_false hc13
     refine wp_exit (zai (zai (za8 (za4 (wp_seq ?_)))))
     obtain ⟨y,a1,a2,hY1,hX1,hi1,hsm⟩:=srch2 (pre:=pre) (X:=X) (Y:=Y) (post:=post) (i:=i) (by omega) rX (by omega) (by omega) (q4.elim (fun g => .inl (by omega)) (fun g => .inr (by rw [← hm];exact g))) (q5.elim (fun g => .inl (by omega)) (fun g => .inr (by rw [← hm,show i=j by omega];exact g)))
     have hla:X.length=a1.length+a2.length:=by rw [hX1,List.length_append]
     replace h:=h.conv (f':=F.of [(0,.t (.c (.own 0 L))),(1,vi .i64 (lo:Int)),(2,vi .i64 (m:Int)),(3,vi .i64 (b:Int)),(4,.t (.c (.fn (.func 70) [] []))),(14,vi .i64 (i:Int)),(15,vi .i64 (j:Int)),(85,vb (decide ((i:Int)<(j:Int))))] [(0,.row 100 3 (((pre++a1)++a2.take a2.length++y :: (a2.drop a2.length++post)).map za2.d))]) (congrArg (fun (z_:List za2)=>F.of [(0,.t (.c (.own 0 L))),(1,vi .i64 (lo:Int)),(2,vi .i64 (m:Int)),(3,vi .i64 (b:Int)),(4,.t (.c (.fn (.func 70) [] []))),(14,vi .i64 (i:Int)),(15,vi .i64 (j:Int)),(85,vb (decide ((i:Int)<(j:Int))))] [(0,.row 100 3 (z_.map za2.d))]) (show ((pre++X++Y++post):List za2)=((pre++a1)++a2.take a2.length++y :: (a2.drop a2.length++post)) from by rw [hX1,hY1,List.take_length,List.drop_length];simp))
     refine rq za0 1 [] [(0,.t (.c (.own 0 L))),(1,vi .i64 (lo:Int)),(2,vi .i64 (m:Int)),(3,vi .i64 (b:Int)),(4,.t (.c (.fn (.func 70) [] []))),(14,vi .i64 (i:Int)),(17,vi .i64 (m:Int))] [(0,.row 100 3 (((pre++a1)++a2.take a2.length++y :: (a2.drop a2.length++post)).map za2.d))] h ?_;clear h;intro a w h
     refine wp_block ?_
     refine zb1 (ι:=(Nat) × (Nat)) (fun (z_:(Nat) × (Nat))=>match z_ with | (k,t)=>k=pre.length+a1.length+t∧t≤a2.length)
       (fun (z_:(Nat) × (Nat))=>match z_ with | (k,t)=>[(0,.t (.c (.own 0 L))),(1,vi .i64 (lo:Int)),(2,vi .i64 (m:Int)),(3,vi .i64 (b:Int)),(4,.t (.c (.fn (.func 70) [] []))),(14,vi .i64 (i:Int)),(17,vi .i64 (k:Int))])
       (fun (z_:(Nat) × (Nat))=>match z_ with | (k,t)=>[(0,.row 100 3 (((pre++a1)++a2.take t++y :: (a2.drop t++post)).map za2.d))])
       (fun (z_:(Nat) × (Nat))=>match z_ with | (k,t)=>t) (m,a2.length) ?_ h (by kernel_rfl) (by kernel_rfl) ?_
     ·exact ⟨by omega,Nat.le_refl _⟩
     ·clear h;rintro ⟨k,t⟩ a w hI h
      change St _ (F.of [(0,.t (.c (.own 0 L))),(1,vi .i64 (lo:Int)),(2,vi .i64 (m:Int)),(3,vi .i64 (b:Int)),(4,.t (.c (.fn (.func 70) [] []))),(14,vi .i64 (i:Int)),(17,vi .i64 (k:Int))] [(0,.row 100 3 (((pre++a1)++a2.take t++y :: (a2.drop t++post)).map za2.d))]) a w at h
      obtain ⟨p1,p2⟩:=hI
      refine wp_seq (rq za0 1 [] [(0,.t (.c (.own 0 L))),(1,vi .i64 (lo:Int)),(2,vi .i64 (m:Int)),(3,vi .i64 (b:Int)),(4,.t (.c (.fn (.func 70) [] []))),(14,vi .i64 (i:Int)),(17,vi .i64 (k:Int)),(110,vb (decide ((k:Int)>(i:Int))))] [(0,.row 100 3 (((pre++a1)++a2.take t++y :: (a2.drop t++post)).map za2.d))] h ?_);clear h;intro a w h
      refine zaa (decide ((k:Int)>(i:Int))) h rfl (fun hc=>?_) (fun hc=>?_)
      ·have hc14:=hc;clear hc
       have hc14':=of_decide_eq_true hc14
       refine wp_skip (za4 (wp_seq (wp_block ?_)))
       obtain ⟨z,hz⟩:∃ z_:za2,a2[t - 1]?=some z_:=⟨_,List.getElem?_eq_getElem (by omega)⟩
       refine rn za0 1 [(4,.gen _ _ _ fun _ _ _ _=>Op.arith (op := .sub) (d:=117) (xt:=3) (yt:=3) (k := .i64) (m:=(k:Int)) (n:=1) (r:=((k - 1:Nat):Int)) (OV.tmp 116 _) (OV.const (.int .i64 1) rfl) (.inr (.inl ⟨rfl,(by omega)⟩)) (zad (by omega) (by omega))),(7,.gen _ _ _ fun _ _ _ _=>Op.arith (op := .sub) (d:=120) (xt:=3) (yt:=3) (k := .i64) (m:=(k:Int)) (n:=1) (r:=((k - 1:Nat):Int)) (OV.tmp 119 _) (OV.const (.int .i64 1) rfl) (.inr (.inl ⟨rfl,(by omega)⟩)) (zad (by omega) (by omega))),(8,.gen _ _ _ fun _ _ _ _=>Op.idxO (d:=121) (t:=118) (k := .i64) (n:=0) (len:=L) (i:=(k - 1)) zc0 (by first | omega | (simp at *;omega)) (OV.tmp 120 _)),(9,.gen _ _ _ fun _ _ _ _=>Op.loadR_agg (d:=122) (t:=121) (n:=0) (i:=(k - 1)) (fo:=0) (rty:=100) (es:=3) (xs:=[.raw (.int .i64 z.v),.raw (.bool z.c.neg),nsl z.c.abs]) zfg rfl (zal (show (((pre++a1)++a2.take t++y :: (a2.drop t++post)):List za2)[k - 1]?=some z from (dn_nx (p:=pre++a1) (k - 1) (by first | omega | (simp only [List.length_append];omega)) (by omega) hz)) (f:=za2.d)) rfl rfl),(12,.gen _ _ _ fun _ _ _ _=>Op.idxO (d:=125) (t:=123) (k := .i64) (n:=0) (len:=L) (i:=k) zc0 (by first | omega | (simp at *;omega)) (OV.tmp 124 _)),(13,.gen _ _ _ fun _ _ _ _=>Op.loadR_agg (d:=126) (t:=125) (n:=0) (i:=k) (fo:=0) (rty:=100) (es:=3) (xs:=[.raw (.int .i64 y.v),.raw (.bool y.c.neg),nsl y.c.abs]) zfg rfl (zal (show (((pre++a1)++a2.take t++y :: (a2.drop t++post)):List za2)[k]?=some y from (up_at (p:=pre++a1) (q:=a2) (t:=t) k (by first | omega | (simp only [List.length_append];omega)) (by omega))) (f:=za2.d)) rfl rfl),(14,.gen _ _ _ fun _ _ _ _=>Op.idxO (d:=127) (t:=113) (k := .i64) (n:=0) (len:=L) (i:=k) zc0 (by first | omega | (simp at *;omega)) (OV.tmp 114 _)),(15,.gen _ _ _ fun _ _ _ _=>Op.storeR (t:=127) (n:=0) (i:=k) (fo:=0) (rty:=100) (es:=3) (r:=za2.d y) (ds:=[.raw (.int .i64 z.v),.raw (.bool z.c.neg),nsl z.c.abs]) (rs:=[(122,.t (.agg ([.d (.raw (.int .i64 z.v))]++zi z.c)))]) (rows:=((pre++a1)++a2.take t++y :: (a2.drop t++post)).map za2.d) (rows':=(((pre++a1)++a2.take t++y :: (a2.drop t++post)).set k z).map za2.d) zfg (OV.tmp 122 _) rfl rfl rfl (zal (show (((pre++a1)++a2.take t++y :: (a2.drop t++post)):List za2)[k]?=some y from (up_at (p:=pre++a1) (q:=a2) (t:=t) k (by first | omega | (simp only [List.length_append];omega)) (by omega))) (f:=za2.d)) (by simp [za2.d]) (zck (xs:=((pre++a1)++a2.take t++y :: (a2.drop t++post))) (F:=za2.d) k _ _ rfl)),(16,.gen _ _ _ fun _ _ _ _=>Op.idxO (d:=128) (t:=115) (k := .i64) (n:=0) (len:=L) (i:=(k - 1)) zc0 (by first | omega | (simp at *;omega)) (OV.tmp 117 _)),(17,.gen _ _ _ fun _ _ _ _=>Op.storeR (t:=128) (n:=0) (i:=(k - 1)) (fo:=0) (rty:=100) (es:=3) (r:=za2.d z) (ds:=[.raw (.int .i64 y.v),.raw (.bool y.c.neg),nsl y.c.abs]) (rs:=[(126,.t (.agg ([.d (.raw (.int .i64 y.v))]++zi y.c)))]) (rows:=(((pre++a1)++a2.take t++y :: (a2.drop t++post)).set k z).map za2.d) (rows':=((((pre++a1)++a2.take t++y :: (a2.drop t++post)).set k z).set (k - 1) y).map za2.d) zfg (OV.tmp 126 _) rfl rfl rfl (zal ((List.getElem?_set_ne (by omega)).trans (show (((pre++a1)++a2.take t++y :: (a2.drop t++post)):List za2)[k - 1]?=some z from (dn_nx (p:=pre++a1) (k - 1) (by first | omega | (simp only [List.length_append];omega)) (by omega) hz))) (f:=za2.d)) (by simp [za2.d]) (zck (xs:=(((pre++a1)++a2.take t++y :: (a2.drop t++post)).set k z)) (F:=za2.d) (k - 1) _ _ rfl))] [(0,.t (.c (.own 0 L))),(1,vi .i64 (lo:Int)),(2,vi .i64 (m:Int)),(3,vi .i64 (b:Int)),(4,.t (.c (.fn (.func 70) [] []))),(14,vi .i64 (i:Int)),(17,vi .i64 (k:Int))] [(0,.row 100 3 (((((pre++a1)++a2.take t++y :: (a2.drop t++post)).set k z).set (k - 1) y).map za2.d))] h ?_;clear h;intro a w h
       refine zac (za4 (rn za0 1 [(1,.gen _ _ _ fun _ _ _ _=>Op.arith (op := .sub) (d:=112) (xt:=3) (yt:=3) (k := .i64) (m:=(k:Int)) (n:=1) (r:=((k - 1:Nat):Int)) (OV.tmp 111 _) (OV.const (.int .i64 1) rfl) (.inr (.inl ⟨rfl,(by omega)⟩)) (zad (by omega) (by omega)))] [(0,.t (.c (.own 0 L))),(1,vi .i64 (lo:Int)),(2,vi .i64 (m:Int)),(3,vi .i64 (b:Int)),(4,.t (.c (.fn (.func 70) [] []))),(14,vi .i64 (i:Int)),(17,vi .i64 ((k - 1:Nat):Int))] [(0,.row 100 3 (((((pre++a1)++a2.take t++y :: (a2.drop t++post)).set k z).set (k - 1) y).map za2.d))] h ?_));clear h;intro a w h
       refine za4 ?_
       rw [dn_step (p:=pre++a1) k (k - 1) (by first | omega | (simp only [List.length_append];omega)) rfl (by omega) hz] at h
       refine zam (x:=(k,t)) (y:=(k - 1,t - 1)) h ?_ ?_
       ·exact ⟨by omega,by omega⟩
       ·show t - 1<t
        omega
      ·have hc15:=hc;clear hc
       have hc15':=of_decide_eq_false hc15
       refine wp_exit (zai (zai (za8 (za4 (wp_ret (za9 ?_))))))
       replace h:=h.conv (f':=F.of [(0,.t (.c (.own 0 L))),(1,vi .i64 (lo:Int)),(2,vi .i64 (m:Int)),(3,vi .i64 (b:Int)),(4,.t (.c (.fn (.func 70) [] []))),(14,vi .i64 (i:Int)),(17,vi .i64 (k:Int)),(110,vb (decide ((k:Int)>(i:Int))))] [(0,.row 100 3 ((pre++ssV za2.v (X++Y)++post).map za2.d))]) (congrArg (fun (z_:List za2)=>F.of [(0,.t (.c (.own 0 L))),(1,vi .i64 (lo:Int)),(2,vi .i64 (m:Int)),(3,vi .i64 (b:Int)),(4,.t (.c (.fn (.func 70) [] []))),(14,vi .i64 (i:Int)),(17,vi .i64 (k:Int)),(110,vb (decide ((k:Int)>(i:Int))))] [(0,.row 100 3 (z_.map za2.d))]) (show (((pre++a1)++a2.take t++y :: (a2.drop t++post)):List za2)=(pre++ssV za2.v (X++Y)++post) from by
         rw [← hsm,show t=0 by omega,List.take_zero,List.drop_zero];simp))
       refine zap [] h Exit.ret (.inl rfl)  rfl trivial ?_
       rfl
  ·have hc16:=hc;clear hc
   have hc16':=hc16;(try simp at hc16')
   refine wp_skip (za4 (rq za0 1 [(2,.gen _ _ _ fun _ _ _ _=>Op.arith (op := .add) (d:=131) (xt:=3) (yt:=3) (k := .i64) (m:=(lo:Int)) (n:=(b:Int)) (r:=((lo+b:Nat):Int)) (OV.tmp 129 _) (OV.tmp 130 _) (.inl ⟨rfl,(by omega)⟩) (zad (by omega) (by omega))),(3,.conv .i64 .u64 (m:=((lo+b:Nat):Int)) (u64_id (by omega) (by omega))),(4,.gen _ _ _ fun _ _ _ _=>Op.shr (d:=133) (xt:=153) (yt:=153) (k := .u64) (k' := .u64) (m:=((lo+b:Nat):Int)) (n:=1) (r:=(((lo+b) / 2:Nat):Int)) (OV.tmp 132 _) (OV.const (.int .u64 1) rfl) (by decide) (half _)),(5,.conv .u64 .i64 (m:=(((lo+b) / 2:Nat):Int)) (zad (by omega) (by omega)))] [(0,.t (.c (.own 0 L))),(1,vi .i64 (lo:Int)),(2,vi .i64 (m:Int)),(3,vi .i64 (b:Int)),(4,.t (.c (.fn (.func 70) [] []))),(18,vi .i64 (((lo+b) / 2:Nat):Int))] [(0,.row 100 3 ((pre++X++Y++post).map za2.d))] h ?_));clear h;intro a w h
   obtain ⟨md,emd⟩:∃ z_:Nat,z_=(lo+b) / 2:=⟨_,rfl⟩
   replace h:=h.conv (f':=F.of [(0,.t (.c (.own 0 L))),(1,vi .i64 (lo:Int)),(2,vi .i64 (m:Int)),(3,vi .i64 (b:Int)),(4,.t (.c (.fn (.func 70) [] []))),(18,vi .i64 (md:Int))] [(0,.row 100 3 ((pre++X++Y++post).map za2.d))]) (by rw [emd])
   refine rq za0 1 [(2,.gen _ _ _ fun _ _ _ _=>Op.arith (op := .add) (d:=137) (xt:=3) (yt:=3) (k := .i64) (m:=(md:Int)) (n:=(m:Int)) (r:=((md+m:Nat):Int)) (OV.tmp 135 _) (OV.tmp 136 _) (.inl ⟨rfl,(by omega)⟩) (zad (by omega) (by omega)))] [(0,.t (.c (.own 0 L))),(1,vi .i64 (lo:Int)),(2,vi .i64 (m:Int)),(3,vi .i64 (b:Int)),(4,.t (.c (.fn (.func 70) [] []))),(18,vi .i64 (md:Int)),(19,vi .i64 ((md+m:Nat):Int))] [(0,.row 100 3 ((pre++X++Y++post).map za2.d))] h ?_;clear h;intro a w h
   refine rq za0 1 [] [(0,.t (.c (.own 0 L))),(1,vi .i64 (lo:Int)),(2,vi .i64 (m:Int)),(3,vi .i64 (b:Int)),(4,.t (.c (.fn (.func 70) [] []))),(18,vi .i64 (md:Int)),(19,vi .i64 ((md+m:Nat):Int)),(20,vi .i64 0),(21,vi .i64 0)] [(0,.row 100 3 ((pre++X++Y++post).map za2.d))] h ?_;clear h;intro a w h
   obtain ⟨s0,r0,hsr1,hsr2⟩:∃ s0 r0:Nat,(md<m→s0=md+m - b∧r0=md)∧(¬ md<m→s0=lo∧r0=m):=by
    by_cases g:md<m
    ·exact ⟨_,_,fun _=>⟨rfl,rfl⟩,fun g2=>absurd g g2⟩
    ·exact ⟨_,_,fun g2=>absurd g2 g,fun _=>⟨rfl,rfl⟩⟩
   have hsr:lo≤s0∧s0≤r0∧r0≤m∧r0≤md∧md+m≤s0+b:=by
    by_cases g:md<m
    ·have:=hsr1 g;omega
    ·have:=hsr2 g;omega
   refine midH h [(0,.t (.c (.own 0 L))),(1,vi .i64 (lo:Int)),(2,vi .i64 (m:Int)),(3,vi .i64 (b:Int)),(4,.t (.c (.fn (.func 70) [] []))),(18,vi .i64 (md:Int)),(19,vi .i64 ((md+m:Nat):Int)),(20,vi .i64 (s0:Int)),(21,vi .i64 (r0:Int))] [(0,.row 100 3 ((pre++X++Y++post).map za2.d))] ?_ (fun a w h=>?_)
   ·refine rq za0 1 [] [(0,.t (.c (.own 0 L))),(1,vi .i64 (lo:Int)),(2,vi .i64 (m:Int)),(3,vi .i64 (b:Int)),(4,.t (.c (.fn (.func 70) [] []))),(18,vi .i64 (md:Int)),(19,vi .i64 ((md+m:Nat):Int)),(20,vi .i64 0),(21,vi .i64 0),(140,vb (decide ((m:Int)>(md:Int))))] [(0,.row 100 3 ((pre++X++Y++post).map za2.d))] h ?_;clear h;intro a w h
    refine zaa (decide ((m:Int)>(md:Int))) h rfl (fun hc=>?_) (fun hc=>?_)
    ·have hc17:=hc;clear hc
     have hc17':=of_decide_eq_true hc17
     refine rq za0 1 [(2,.gen _ _ _ fun _ _ _ _=>Op.arith (op := .sub) (d:=143) (xt:=3) (yt:=3) (k := .i64) (m:=((md+m:Nat):Int)) (n:=(b:Int)) (r:=((md+m - b:Nat):Int)) (OV.tmp 141 _) (OV.tmp 142 _) (.inr (.inl ⟨rfl,(by omega)⟩)) (zad (by omega) (by omega)))] [(0,.t (.c (.own 0 L))),(1,vi .i64 (lo:Int)),(2,vi .i64 (m:Int)),(3,vi .i64 (b:Int)),(4,.t (.c (.fn (.func 70) [] []))),(18,vi .i64 (md:Int)),(19,vi .i64 ((md+m:Nat):Int)),(20,vi .i64 ((md+m - b:Nat):Int)),(21,vi .i64 0)] [(0,.row 100 3 ((pre++X++Y++post).map za2.d))] h ?_;clear h;intro a w h
     refine rn za0 1 [] [(0,.t (.c (.own 0 L))),(1,vi .i64 (lo:Int)),(2,vi .i64 (m:Int)),(3,vi .i64 (b:Int)),(4,.t (.c (.fn (.func 70) [] []))),(18,vi .i64 (md:Int)),(19,vi .i64 ((md+m:Nat):Int)),(20,vi .i64 ((md+m - b:Nat):Int)),(21,vi .i64 (md:Int))] [(0,.row 100 3 ((pre++X++Y++post).map za2.d))] h ?_;clear h;intro a w h
     refine za4 ?_
     have hg:=hsr1 (by omega)
     replace h:=h.conv (f':=F.of [(0,.t (.c (.own 0 L))),(1,vi .i64 (lo:Int)),(2,vi .i64 (m:Int)),(3,vi .i64 (b:Int)),(4,.t (.c (.fn (.func 70) [] []))),(18,vi .i64 (md:Int)),(19,vi .i64 ((md+m:Nat):Int)),(20,vi .i64 (s0:Int)),(21,vi .i64 (r0:Int))] [(0,.row 100 3 ((pre++X++Y++post).map za2.d))]) (by rw [hg.1,hg.2])
     exact atS h
    ·have hc18:=hc;clear hc
     have hc18':=of_decide_eq_false hc18
     refine rq za0 1 [] [(0,.t (.c (.own 0 L))),(1,vi .i64 (lo:Int)),(2,vi .i64 (m:Int)),(3,vi .i64 (b:Int)),(4,.t (.c (.fn (.func 70) [] []))),(18,vi .i64 (md:Int)),(19,vi .i64 ((md+m:Nat):Int)),(20,vi .i64 (lo:Int)),(21,vi .i64 0)] [(0,.row 100 3 ((pre++X++Y++post).map za2.d))] h ?_;clear h;intro a w h
     refine rn za0 1 [] [(0,.t (.c (.own 0 L))),(1,vi .i64 (lo:Int)),(2,vi .i64 (m:Int)),(3,vi .i64 (b:Int)),(4,.t (.c (.fn (.func 70) [] []))),(18,vi .i64 (md:Int)),(19,vi .i64 ((md+m:Nat):Int)),(20,vi .i64 (lo:Int)),(21,vi .i64 (m:Int))] [(0,.row 100 3 ((pre++X++Y++post).map za2.d))] h ?_;clear h;intro a w h
     refine za4 ?_
     have hg:=hsr2 (by omega)
     replace h:=h.conv (f':=F.of [(0,.t (.c (.own 0 L))),(1,vi .i64 (lo:Int)),(2,vi .i64 (m:Int)),(3,vi .i64 (b:Int)),(4,.t (.c (.fn (.func 70) [] []))),(18,vi .i64 (md:Int)),(19,vi .i64 ((md+m:Nat):Int)),(20,vi .i64 (s0:Int)),(21,vi .i64 (r0:Int))] [(0,.row 100 3 ((pre++X++Y++post).map za2.d))]) (by rw [hg.1,hg.2])
     exact atS h
   ·refine rq za0 1 [(1,.gen _ _ _ fun _ _ _ _=>Op.arith (op := .sub) (d:=148) (xt:=3) (yt:=3) (k := .i64) (m:=((md+m:Nat):Int)) (n:=1) (r:=((md+m - 1:Nat):Int)) (OV.tmp 147 _) (OV.const (.int .i64 1) rfl) (.inr (.inl ⟨rfl,(by omega)⟩)) (zad (by omega) (by omega)))] [(0,.t (.c (.own 0 L))),(1,vi .i64 (lo:Int)),(2,vi .i64 (m:Int)),(3,vi .i64 (b:Int)),(4,.t (.c (.fn (.func 70) [] []))),(18,vi .i64 (md:Int)),(19,vi .i64 ((md+m:Nat):Int)),(20,vi .i64 (s0:Int)),(21,vi .i64 (r0:Int)),(22,vi .i64 ((md+m - 1:Nat):Int))] [(0,.row 100 3 ((pre++X++Y++post).map za2.d))] h ?_;clear h;intro a w h
    refine wp_seq (wp_block ?_)
    refine zb1 (ι:=(Nat) × (Nat)) (fun (z_:(Nat) × (Nat))=>match z_ with | (s,r)=>s0≤s∧s≤r∧r≤r0∧(s=s0∨kat (pre++X++Y++post) (s - 1)≤kat (pre++X++Y++post) (md+m - s))∧(r=r0∨kat (pre++X++Y++post) (md+m - 1 - r)<kat (pre++X++Y++post) (r)))
      (fun (z_:(Nat) × (Nat))=>match z_ with | (s,r)=>[(0,.t (.c (.own 0 L))),(1,vi .i64 (lo:Int)),(2,vi .i64 (m:Int)),(3,vi .i64 (b:Int)),(4,.t (.c (.fn (.func 70) [] []))),(18,vi .i64 (md:Int)),(19,vi .i64 ((md+m:Nat):Int)),(20,vi .i64 (s:Int)),(21,vi .i64 (r:Int)),(22,vi .i64 ((md+m - 1:Nat):Int))])
      (fun (z_:(Nat) × (Nat))=>match z_ with | (s,r)=>[(0,.row 100 3 ((pre++X++Y++post).map za2.d))])
      (fun (z_:(Nat) × (Nat))=>match z_ with | (s,r)=>r - s) (s0,r0) ?_ h (by kernel_rfl) (by kernel_rfl) ?_
    ·exact ⟨Nat.le_refl _,by omega,Nat.le_refl _,.inl rfl,.inl rfl⟩
    ·clear h;rintro ⟨s,r⟩ a w hI h
     change St _ (F.of [(0,.t (.c (.own 0 L))),(1,vi .i64 (lo:Int)),(2,vi .i64 (m:Int)),(3,vi .i64 (b:Int)),(4,.t (.c (.fn (.func 70) [] []))),(18,vi .i64 (md:Int)),(19,vi .i64 ((md+m:Nat):Int)),(20,vi .i64 (s:Int)),(21,vi .i64 (r:Int)),(22,vi .i64 ((md+m - 1:Nat):Int))] [(0,.row 100 3 ((pre++X++Y++post).map za2.d))]) a w at h
     obtain ⟨q1,q2,q3,q4,q5⟩:=hI
     refine wp_seq (rq za0 1 [] [(0,.t (.c (.own 0 L))),(1,vi .i64 (lo:Int)),(2,vi .i64 (m:Int)),(3,vi .i64 (b:Int)),(4,.t (.c (.fn (.func 70) [] []))),(18,vi .i64 (md:Int)),(19,vi .i64 ((md+m:Nat):Int)),(20,vi .i64 (s:Int)),(21,vi .i64 (r:Int)),(22,vi .i64 ((md+m - 1:Nat):Int)),(151,vb (decide ((s:Int)<(r:Int))))] [(0,.row 100 3 ((pre++X++Y++post).map za2.d))] h ?_);clear h;intro a w h
     refine zaa (decide ((s:Int)<(r:Int))) h rfl (fun hc=>?_) (fun hc=>?_)
     ·have hc19:=hc;clear hc
      have hc19':=of_decide_eq_true hc19
      refine wp_skip (za4 (wp_block (rq za0 1 [(2,.gen _ _ _ fun _ _ _ _=>Op.arith (op := .add) (d:=154) (xt:=3) (yt:=3) (k := .i64) (m:=(s:Int)) (n:=(r:Int)) (r:=((s+r:Nat):Int)) (OV.tmp 152 _) (OV.tmp 153 _) (.inl ⟨rfl,(by omega)⟩) (zad (by omega) (by omega))),(3,.conv .i64 .u64 (m:=((s+r:Nat):Int)) (u64_id (by omega) (by omega))),(4,.gen _ _ _ fun _ _ _ _=>Op.shr (d:=156) (xt:=153) (yt:=153) (k := .u64) (k' := .u64) (m:=((s+r:Nat):Int)) (n:=1) (r:=(((s+r) / 2:Nat):Int)) (OV.tmp 155 _) (OV.const (.int .u64 1) rfl) (by decide) (half _)),(5,.conv .u64 .i64 (m:=(((s+r) / 2:Nat):Int)) (zad (by omega) (by omega)))] [(0,.t (.c (.own 0 L))),(1,vi .i64 (lo:Int)),(2,vi .i64 (m:Int)),(3,vi .i64 (b:Int)),(4,.t (.c (.fn (.func 70) [] []))),(18,vi .i64 (md:Int)),(19,vi .i64 ((md+m:Nat):Int)),(20,vi .i64 (s:Int)),(21,vi .i64 (r:Int)),(22,vi .i64 ((md+m - 1:Nat):Int)),(23,vi .i64 (((s+r) / 2:Nat):Int))] [(0,.row 100 3 ((pre++X++Y++post).map za2.d))] h ?_)));clear h;intro a w h
      obtain ⟨x7,hx7⟩:∃ z_:za2,(pre++X++Y++post)[md+m - 1 - (s+r) / 2]?=some z_:=⟨_,List.getElem?_eq_getElem (by first | omega | (simp at *;omega))⟩
      obtain ⟨x8,hx8⟩:∃ z_:za2,(pre++X++Y++post)[(s+r) / 2]?=some z_:=⟨_,List.getElem?_eq_getElem (by first | omega | (simp at *;omega))⟩
      refine rq za0 1 [(4,.gen _ _ _ fun _ _ _ _=>Op.arith (op := .sub) (d:=162) (xt:=3) (yt:=3) (k := .i64) (m:=((md+m - 1:Nat):Int)) (n:=(((s+r) / 2:Nat):Int)) (r:=((md+m - 1 - (s+r) / 2:Nat):Int)) (OV.tmp 160 _) (OV.tmp 161 _) (.inr (.inl ⟨rfl,(by omega)⟩)) (zad (by omega) (by omega))),(5,.gen _ _ _ fun _ _ _ _=>Op.idxO (d:=163) (t:=159) (k := .i64) (n:=0) (len:=L) (i:=(md+m - 1 - (s+r) / 2)) zc0 (by first | omega | (simp at *;omega)) (OV.tmp 162 _)),(6,.gen _ _ _ fun _ _ _ _=>Op.loadR_agg (d:=164) (t:=163) (n:=0) (i:=(md+m - 1 - (s+r) / 2)) (fo:=0) (rty:=100) (es:=3) (xs:=[.raw (.int .i64 x7.v),.raw (.bool x7.c.neg),nsl x7.c.abs]) zfg rfl (zal hx7 (f:=za2.d)) rfl rfl),(9,.gen _ _ _ fun _ _ _ _=>Op.idxO (d:=167) (t:=165) (k := .i64) (n:=0) (len:=L) (i:=((s+r) / 2)) zc0 (by first | omega | (simp at *;omega)) (OV.tmp 166 _)),(10,.gen _ _ _ fun _ _ _ _=>Op.loadR_agg (d:=168) (t:=167) (n:=0) (i:=((s+r) / 2)) (fo:=0) (rty:=100) (es:=3) (xs:=[.raw (.int .i64 x8.v),.raw (.bool x8.c.neg),nsl x8.c.abs]) zfg rfl (zal hx8 (f:=za2.d)) rfl rfl),(11,.gen _ _ _ fun _ _ _ _=>Op.callV (d:=169) (t:=158) (cap:=[]) (args:=[.t (.agg ([.d (.raw (.int .i64 x7.v))]++zi x7.c)),.t (.agg ([.d (.raw (.int .i64 x8.v))]++zi x8.c))]) (rs:=[(164,.t (.agg ([.d (.raw (.int .i64 x7.v))]++zi x7.c))),(168,.t (.agg ([.d (.raw (.int .i64 x8.v))]++zi x8.c)))]) (tys:=#[100,100]) (SPlain1 x7 x8) te_2 (OVs.cons (OV.tmp 164 _) (OVs.cons (OV.tmp 168 _) (OVs.nil))))] [(0,.t (.c (.own 0 L))),(1,vi .i64 (lo:Int)),(2,vi .i64 (m:Int)),(3,vi .i64 (b:Int)),(4,.t (.c (.fn (.func 70) [] []))),(18,vi .i64 (md:Int)),(19,vi .i64 ((md+m:Nat):Int)),(20,vi .i64 (s:Int)),(21,vi .i64 (r:Int)),(22,vi .i64 ((md+m - 1:Nat):Int)),(23,vi .i64 (((s+r) / 2:Nat):Int)),(171,vb (!(decide (zbn x7.v x8.v<0))))] [(0,.row 100 3 ((pre++X++Y++post).map za2.d))] h ?_;clear h;intro a w h
      refine zaa (!(decide (zbn x7.v x8.v<0))) h rfl (fun hc=>?_) (fun hc=>?_)
      ·have hc20:=hc;clear hc
       have hc20':=hc20;(try simp at hc20')
       refine rn za0 1 [(1,.gen _ _ _ fun _ _ _ _=>Op.arith (op := .add) (d:=173) (xt:=3) (yt:=3) (k := .i64) (m:=(((s+r) / 2:Nat):Int)) (n:=1) (r:=(((s+r) / 2+1:Nat):Int)) (OV.tmp 172 _) (OV.const (.int .i64 1) rfl) (.inl ⟨rfl,(by omega)⟩) (zad (by omega) (by omega)))] [(0,.t (.c (.own 0 L))),(1,vi .i64 (lo:Int)),(2,vi .i64 (m:Int)),(3,vi .i64 (b:Int)),(4,.t (.c (.fn (.func 70) [] []))),(18,vi .i64 (md:Int)),(19,vi .i64 ((md+m:Nat):Int)),(20,vi .i64 (((s+r) / 2+1:Nat):Int)),(21,vi .i64 (r:Int)),(22,vi .i64 ((md+m - 1:Nat):Int))] [(0,.row 100 3 ((pre++X++Y++post).map za2.d))] h ?_;clear h;intro a w h
       refine zac (za4 ?_)
       refine zam (x:=(s,r)) (y:=(((s+r) / 2+1),r)) h ?_ ?_
       ·exact ⟨by omega,by omega,by omega,.inr (by rw [show (s+r) / 2+1 - 1=(s+r) / 2 from rfl,show md+m - ((s+r) / 2+1)=md+m - 1 - (s+r) / 2 by omega,zda hx7,zda hx8];exact Int.not_lt.1 (mt zdk.2 (Int.not_lt.2 hc20'))),q5⟩
       ·show r - ((s+r) / 2+1)<r - s
        omega
      ·have hc21:=hc;clear hc
       have hc21':=hc21;(try simp at hc21')
       refine rn za0 1 [] [(0,.t (.c (.own 0 L))),(1,vi .i64 (lo:Int)),(2,vi .i64 (m:Int)),(3,vi .i64 (b:Int)),(4,.t (.c (.fn (.func 70) [] []))),(18,vi .i64 (md:Int)),(19,vi .i64 ((md+m:Nat):Int)),(20,vi .i64 (s:Int)),(21,vi .i64 (((s+r) / 2:Nat):Int)),(22,vi .i64 ((md+m - 1:Nat):Int))] [(0,.row 100 3 ((pre++X++Y++post).map za2.d))] h ?_;clear h;intro a w h
       refine zac (za4 ?_)
       refine zam (x:=(s,r)) (y:=(s,((s+r) / 2))) h ?_ ?_
       ·exact ⟨by omega,by omega,by omega,q4,.inr (by rw [zda hx7,zda hx8];exact zdk.1 hc21')⟩
       ·show (s+r) / 2 - s<r - s
        omega
     ·have hc22:=hc;clear hc
      have hc22':=of_decide_eq_false hc22
      refine wp_exit (zai (zai (za8 (za4 (rq za0 1 [(2,.gen _ _ _ fun _ _ _ _=>Op.arith (op := .sub) (d:=177) (xt:=3) (yt:=3) (k := .i64) (m:=((md+m:Nat):Int)) (n:=(s:Int)) (r:=((md+m - s:Nat):Int)) (OV.tmp 175 _) (OV.tmp 176 _) (.inr (.inl ⟨rfl,(by omega)⟩)) (zad (by omega) (by omega)))] [(0,.t (.c (.own 0 L))),(1,vi .i64 (lo:Int)),(2,vi .i64 (m:Int)),(3,vi .i64 (b:Int)),(4,.t (.c (.fn (.func 70) [] []))),(18,vi .i64 (md:Int)),(20,vi .i64 (s:Int)),(24,vi .i64 ((md+m - s:Nat):Int))] [(0,.row 100 3 ((pre++X++Y++post).map za2.d))] h ?_)))));clear h;intro a w h
      obtain ⟨e,ee⟩:∃ z_:Nat,z_=md+m - s:=⟨_,rfl⟩
      replace h:=h.conv (f':=F.of [(0,.t (.c (.own 0 L))),(1,vi .i64 (lo:Int)),(2,vi .i64 (m:Int)),(3,vi .i64 (b:Int)),(4,.t (.c (.fn (.func 70) [] []))),(18,vi .i64 (md:Int)),(20,vi .i64 (s:Int)),(24,vi .i64 (e:Int))] [(0,.row 100 3 ((pre++X++Y++post).map za2.d))]) (by rw [ee])
      have hsr':s=r:=by omega
      have g1:s=pre.length∨e=pre.length+X.length+Y.length∨kat (pre++X++Y++post) (s - 1)≤kat (pre++X++Y++post) e:=by
       rcases q4 with g | g
       ·by_cases gm:md<m
        ·have:=hsr1 gm;exact .inr (.inl (by omega))
        ·have:=hsr2 gm;exact .inl (by omega)
       ·exact .inr (.inr (by rw [ee];exact g))
      have g2:s=pre.length+X.length∨e=pre.length+X.length∨kat (pre++X++Y++post) (e - 1)<kat (pre++X++Y++post) s:=by
       rcases q5 with g | g
       ·by_cases gm:md<m
        ·have:=hsr1 gm;exact .inr (.inl (by omega))
        ·have:=hsr2 gm;exact .inl (by omega)
       ·exact .inr (.inr (by rw [show e - 1=md+m - 1 - r by omega,hsr'];exact g))
      obtain ⟨a1,a2,b1,b2,hX1,hY1,hs1,he1,hsm,ra1,ra2,rb1,rb2⟩:=srch3 (pre:=pre) (X:=X) (Y:=Y) (post:=post) (s:=s) (e:=e) rX rY (by omega) (by omega) (by omega) (by omega) g1 g2
      have hla:X.length=a1.length+a2.length:=by rw [hX1,List.length_append]
      have hlb:Y.length=b1.length+b2.length:=by rw [hY1,List.length_append]
      replace h:=h.conv (f':=F.of [(0,.t (.c (.own 0 L))),(1,vi .i64 (lo:Int)),(2,vi .i64 (m:Int)),(3,vi .i64 (b:Int)),(4,.t (.c (.fn (.func 70) [] []))),(18,vi .i64 (md:Int)),(20,vi .i64 (s:Int)),(24,vi .i64 (e:Int))] [(0,.row 100 3 ((pre++a1++a2++b1++b2++post).map za2.d))]) (congrArg (fun (z_:List za2)=>F.of [(0,.t (.c (.own 0 L))),(1,vi .i64 (lo:Int)),(2,vi .i64 (m:Int)),(3,vi .i64 (b:Int)),(4,.t (.c (.fn (.func 70) [] []))),(18,vi .i64 (md:Int)),(20,vi .i64 (s:Int)),(24,vi .i64 (e:Int))] [(0,.row 100 3 (z_.map za2.d))]) (show ((pre++X++Y++post):List za2)=(pre++a1++a2++b1++b2++post) from by rw [hX1,hY1];simp only [List.append_assoc]))
      refine midH h [(0,.t (.c (.own 0 L))),(1,vi .i64 (lo:Int)),(3,vi .i64 (b:Int)),(4,.t (.c (.fn (.func 70) [] []))),(18,vi .i64 (md:Int)),(20,vi .i64 (s:Int)),(24,vi .i64 (e:Int))] [(0,.row 100 3 ((pre++a1++b1++a2++b2++post).map za2.d))] ?_ (fun a w h=>?_)
      ·rcases Bool.eq_false_or_eq_true (decide ((s:Int)<(m:Int))) with hc | hc
       ·have hc23:=hc;clear hc
        have hc23':=of_decide_eq_true hc23
        refine rq za0 1 [(2,.cmp (op := .lss) (m:=(s:Int)) (n:=(m:Int)) (b:=true) .i64 hc23)] [(0,.t (.c (.own 0 L))),(1,vi .i64 (lo:Int)),(2,vi .i64 (m:Int)),(3,vi .i64 (b:Int)),(4,.t (.c (.fn (.func 70) [] []))),(18,vi .i64 (md:Int)),(20,vi .i64 (s:Int)),(24,vi .i64 (e:Int)),(185,vb (decide ((m:Int)<(e:Int))))] [(0,.row 100 3 ((pre++a1++a2++b1++b2++post).map za2.d))] h ?_;clear h;intro a w h
        refine zaa (decide ((m:Int)<(e:Int))) h rfl (fun hc=>?_) (fun hc=>?_)
        ·have hc24:=hc;clear hc
         have hc24':=of_decide_eq_true hc24
         refine rn za0 1 [(5,.call (Srotate2 (r0:=(pre++a1++a2++b1++b2++post)) (r1:=(pre++a1++b1++a2++b2++post)) (L:=L) (a:=s) (m:=m) (b:=e) (pre++a1) a2 b1 (b2++post) (by simp only [List.append_assoc]) (by simp only [List.append_assoc]) (by first | omega | (simp only [List.length_append];omega)) (by first | omega | (simp only [List.length_append];omega)) (by first | omega | (simp only [List.length_append];omega)) (by first | omega | (simp only [List.length_append];omega)) (by omega) (by omega) (by omega)) ti_3)] [(0,.t (.c (.own 0 L))),(1,vi .i64 (lo:Int)),(3,vi .i64 (b:Int)),(4,.t (.c (.fn (.func 70) [] []))),(18,vi .i64 (md:Int)),(20,vi .i64 (s:Int)),(24,vi .i64 (e:Int))] [(0,.row 100 3 ((pre++a1++b1++a2++b2++post).map za2.d))] h ?_;clear h;intro a w h
         refine za4 ?_
         exact atS h
        ·have hc25:=hc;clear hc
         have hc25':=of_decide_eq_false hc25
         refine wp_skip (za4 ?_)
         replace h:=h.conv (f':=F.of [(0,.t (.c (.own 0 L))),(1,vi .i64 (lo:Int)),(2,vi .i64 (m:Int)),(3,vi .i64 (b:Int)),(4,.t (.c (.fn (.func 70) [] []))),(18,vi .i64 (md:Int)),(20,vi .i64 (s:Int)),(24,vi .i64 (e:Int)),(185,vb (decide ((m:Int)<(e:Int))))] [(0,.row 100 3 ((pre++a1++b1++a2++b2++post).map za2.d))]) (congrArg (fun (z_:List za2)=>F.of [(0,.t (.c (.own 0 L))),(1,vi .i64 (lo:Int)),(2,vi .i64 (m:Int)),(3,vi .i64 (b:Int)),(4,.t (.c (.fn (.func 70) [] []))),(18,vi .i64 (md:Int)),(20,vi .i64 (s:Int)),(24,vi .i64 (e:Int)),(185,vb (decide ((m:Int)<(e:Int))))] [(0,.row 100 3 (z_.map za2.d))]) (show ((pre++a1++a2++b1++b2++post):List za2)=(pre++a1++b1++a2++b2++post) from by rcases (show a2.length=0∨b1.length=0 by omega) with g | g <;> (rw [zgh g];simp)))
         exact atS h
       ·have hc26:=hc;clear hc
        have hc26':=of_decide_eq_false hc26
        refine rq za0 1 [(2,.cmp (op := .lss) (m:=(s:Int)) (n:=(m:Int)) (b:=false) .i64 hc26)] [(0,.t (.c (.own 0 L))),(1,vi .i64 (lo:Int)),(2,vi .i64 (m:Int)),(3,vi .i64 (b:Int)),(4,.t (.c (.fn (.func 70) [] []))),(18,vi .i64 (md:Int)),(20,vi .i64 (s:Int)),(24,vi .i64 (e:Int)),(185,vb false)] [(0,.row 100 3 ((pre++a1++a2++b1++b2++post).map za2.d))] h ?_;clear h;intro a w h
        refine zaa false h rfl (fun hc=>?_) (fun hc=>?_)
        ·cases hc
        ·clear hc
         refine wp_skip (za4 ?_)
         replace h:=h.conv (f':=F.of [(0,.t (.c (.own 0 L))),(1,vi .i64 (lo:Int)),(2,vi .i64 (m:Int)),(3,vi .i64 (b:Int)),(4,.t (.c (.fn (.func 70) [] []))),(18,vi .i64 (md:Int)),(20,vi .i64 (s:Int)),(24,vi .i64 (e:Int)),(185,vb false)] [(0,.row 100 3 ((pre++a1++b1++a2++b2++post).map za2.d))]) (congrArg (fun (z_:List za2)=>F.of [(0,.t (.c (.own 0 L))),(1,vi .i64 (lo:Int)),(2,vi .i64 (m:Int)),(3,vi .i64 (b:Int)),(4,.t (.c (.fn (.func 70) [] []))),(18,vi .i64 (md:Int)),(20,vi .i64 (s:Int)),(24,vi .i64 (e:Int)),(185,vb false)] [(0,.row 100 3 (z_.map za2.d))]) (show ((pre++a1++a2++b1++b2++post):List za2)=(pre++a1++b1++a2++b2++post) from by rcases (show a2.length=0∨b1.length=0 by omega) with g | g <;> (rw [zgh g];simp)))
         exact atS h
      ·refine midH h [(0,.t (.c (.own 0 L))),(3,vi .i64 (b:Int)),(4,.t (.c (.fn (.func 70) [] []))),(18,vi .i64 (md:Int)),(24,vi .i64 (e:Int))] [(0,.row 100 3 ((pre++ssV za2.v (a1++b1)++a2++b2++post).map za2.d))] ?_ (fun a w h=>?_)
       ·rcases Bool.eq_false_or_eq_true (decide ((lo:Int)<(s:Int))) with hc | hc
        ·have hc27:=hc;clear hc
         have hc27':=of_decide_eq_true hc27
         refine rq za0 1 [(2,.cmp (op := .lss) (m:=(lo:Int)) (n:=(s:Int)) (b:=true) .i64 hc27)] [(0,.t (.c (.own 0 L))),(1,vi .i64 (lo:Int)),(3,vi .i64 (b:Int)),(4,.t (.c (.fn (.func 70) [] []))),(18,vi .i64 (md:Int)),(20,vi .i64 (s:Int)),(24,vi .i64 (e:Int)),(199,vb (decide ((s:Int)<(md:Int))))] [(0,.row 100 3 ((pre++a1++b1++a2++b2++post).map za2.d))] h ?_;clear h;intro a w h
         refine zaa (decide ((s:Int)<(md:Int))) h rfl (fun hc=>?_) (fun hc=>?_)
         ·have hc28:=hc;clear hc
          have hc28':=of_decide_eq_true hc28
          refine rn za0 1 [(5,.call (ih (a1.length+b1.length) (by omega) L lo s md (pre++a1++b1++a2++b2++post) (pre++ssV za2.v (a1++b1)++a2++b2++post) ⟨pre,a1,b1,(a2++b2++post),rfl,by first | omega | (simp only [List.length_append,zaz];omega),by first | omega | (simp only [List.length_append,zaz];omega),by first | omega | (simp only [List.length_append,zaz];omega),by first | omega | (simp only [List.length_append];omega),by omega,by omega,by omega,ra1,rb1,by simp only [List.append_assoc],by simp only [List.append_assoc]⟩) ti_4)] [(0,.t (.c (.own 0 L))),(3,vi .i64 (b:Int)),(4,.t (.c (.fn (.func 70) [] []))),(18,vi .i64 (md:Int)),(24,vi .i64 (e:Int))] [(0,.row 100 3 ((pre++ssV za2.v (a1++b1)++a2++b2++post).map za2.d))] h ?_;clear h;intro a w h
          refine za4 ?_
          exact atS h
         ·have hc29:=hc;clear hc
          have hc29':=of_decide_eq_false hc29
          refine wp_skip (za4 ?_)
          replace h:=h.conv (f':=F.of [(0,.t (.c (.own 0 L))),(1,vi .i64 (lo:Int)),(3,vi .i64 (b:Int)),(4,.t (.c (.fn (.func 70) [] []))),(18,vi .i64 (md:Int)),(20,vi .i64 (s:Int)),(24,vi .i64 (e:Int)),(199,vb (decide ((s:Int)<(md:Int))))] [(0,.row 100 3 ((pre++ssV za2.v (a1++b1)++a2++b2++post).map za2.d))]) (congrArg (fun (z_:List za2)=>F.of [(0,.t (.c (.own 0 L))),(1,vi .i64 (lo:Int)),(3,vi .i64 (b:Int)),(4,.t (.c (.fn (.func 70) [] []))),(18,vi .i64 (md:Int)),(20,vi .i64 (s:Int)),(24,vi .i64 (e:Int)),(199,vb (decide ((s:Int)<(md:Int))))] [(0,.row 100 3 (z_.map za2.d))]) (show ((pre++a1++b1++a2++b2++post):List za2)=(pre++ssV za2.v (a1++b1)++a2++b2++post) from by rw [ssV_e (show a1.length=0∨b1.length=0 by omega) ra1 rb1];simp only [List.append_assoc]))
          exact atS h
        ·have hc30:=hc;clear hc
         have hc30':=of_decide_eq_false hc30
         refine rq za0 1 [(2,.cmp (op := .lss) (m:=(lo:Int)) (n:=(s:Int)) (b:=false) .i64 hc30)] [(0,.t (.c (.own 0 L))),(1,vi .i64 (lo:Int)),(3,vi .i64 (b:Int)),(4,.t (.c (.fn (.func 70) [] []))),(18,vi .i64 (md:Int)),(20,vi .i64 (s:Int)),(24,vi .i64 (e:Int)),(199,vb false)] [(0,.row 100 3 ((pre++a1++b1++a2++b2++post).map za2.d))] h ?_;clear h;intro a w h
         refine zaa false h rfl (fun hc=>?_) (fun hc=>?_)
         ·cases hc
         ·clear hc
          refine wp_skip (za4 ?_)
          replace h:=h.conv (f':=F.of [(0,.t (.c (.own 0 L))),(1,vi .i64 (lo:Int)),(3,vi .i64 (b:Int)),(4,.t (.c (.fn (.func 70) [] []))),(18,vi .i64 (md:Int)),(20,vi .i64 (s:Int)),(24,vi .i64 (e:Int)),(199,vb false)] [(0,.row 100 3 ((pre++ssV za2.v (a1++b1)++a2++b2++post).map za2.d))]) (congrArg (fun (z_:List za2)=>F.of [(0,.t (.c (.own 0 L))),(1,vi .i64 (lo:Int)),(3,vi .i64 (b:Int)),(4,.t (.c (.fn (.func 70) [] []))),(18,vi .i64 (md:Int)),(20,vi .i64 (s:Int)),(24,vi .i64 (e:Int)),(199,vb false)] [(0,.row 100 3 (z_.map za2.d))]) (show ((pre++a1++b1++a2++b2++post):List za2)=(pre++ssV za2.v (a1++b1)++a2++b2++post) from by rw [ssV_e (show a1.length=0∨b1.length=0 by omega) ra1 rb1];simp only [List.append_assoc]))
          exact atS h
       ·rcases Bool.eq_false_or_eq_true (decide ((md:Int)<(e:Int))) with hc | hc
        ·have hc31:=hc;clear hc
         have hc31':=of_decide_eq_true hc31
         refine rq za0 1 [(2,.cmp (op := .lss) (m:=(md:Int)) (n:=(e:Int)) (b:=true) .i64 hc31)] [(0,.t (.c (.own 0 L))),(3,vi .i64 (b:Int)),(4,.t (.c (.fn (.func 70) [] []))),(18,vi .i64 (md:Int)),(24,vi .i64 (e:Int)),(213,vb (decide ((e:Int)<(b:Int))))] [(0,.row 100 3 ((pre++ssV za2.v (a1++b1)++a2++b2++post).map za2.d))] h ?_;clear h;intro a w h
         refine zaa (decide ((e:Int)<(b:Int))) h rfl (fun hc=>?_) (fun hc=>?_)
         ·have hc32:=hc;clear hc
          have hc32':=of_decide_eq_true hc32
          refine rn za0 1 [(5,.call (ih (a2.length+b2.length) (by omega) L md e b (pre++ssV za2.v (a1++b1)++a2++b2++post) (pre++ssV za2.v (a1++b1)++ssV za2.v (a2++b2)++post) ⟨(pre++ssV za2.v (a1++b1)),a2,b2,post,rfl,by first | omega | (simp only [List.length_append,zaz];omega),by first | omega | (simp only [List.length_append,zaz];omega),by first | omega | (simp only [List.length_append,zaz];omega),by first | omega | (simp only [List.length_append,zaz];omega),by omega,by omega,by omega,ra2,rb2,by simp only [List.append_assoc],by simp only [List.append_assoc]⟩) ti_4)] [] [(0,.row 100 3 ((pre++ssV za2.v (a1++b1)++ssV za2.v (a2++b2)++post).map za2.d))] h ?_;clear h;intro a w h
          replace h:=h.conv (f':=F.of [] [(0,.row 100 3 ((pre++ssV za2.v (X++Y)++post).map za2.d))]) (congrArg (fun (z_:List za2)=>F.of [] [(0,.row 100 3 (z_.map za2.d))]) (show ((pre++ssV za2.v (a1++b1)++ssV za2.v (a2++b2)++post):List za2)=(pre++ssV za2.v (X++Y)++post) from by rw [← hsm];simp only [List.append_assoc]))
          refine zap [] h Exit.normal (.inr rfl)  rfl trivial ?_
          rfl
         ·have hc33:=hc;clear hc
          have hc33':=of_decide_eq_false hc33
          refine wp_skip ?_
          replace h:=h.conv (f':=F.of [(0,.t (.c (.own 0 L))),(3,vi .i64 (b:Int)),(4,.t (.c (.fn (.func 70) [] []))),(18,vi .i64 (md:Int)),(24,vi .i64 (e:Int)),(213,vb (decide ((e:Int)<(b:Int))))] [(0,.row 100 3 ((pre++ssV za2.v (X++Y)++post).map za2.d))]) (congrArg (fun (z_:List za2)=>F.of [(0,.t (.c (.own 0 L))),(3,vi .i64 (b:Int)),(4,.t (.c (.fn (.func 70) [] []))),(18,vi .i64 (md:Int)),(24,vi .i64 (e:Int)),(213,vb (decide ((e:Int)<(b:Int))))] [(0,.row 100 3 (z_.map za2.d))]) (show ((pre++ssV za2.v (a1++b1)++a2++b2++post):List za2)=(pre++ssV za2.v (X++Y)++post) from by rw [← hsm,ssV_e (show a2.length=0∨b2.length=0 by omega) ra2 rb2];simp only [List.append_assoc]))
          refine zap [] h Exit.normal (.inr rfl)  rfl trivial ?_
          rfl
        ·have hc34:=hc;clear hc
         have hc34':=of_decide_eq_false hc34
         refine rq za0 1 [(2,.cmp (op := .lss) (m:=(md:Int)) (n:=(e:Int)) (b:=false) .i64 hc34)] [(0,.t (.c (.own 0 L))),(3,vi .i64 (b:Int)),(4,.t (.c (.fn (.func 70) [] []))),(18,vi .i64 (md:Int)),(24,vi .i64 (e:Int)),(213,vb false)] [(0,.row 100 3 ((pre++ssV za2.v (a1++b1)++a2++b2++post).map za2.d))] h ?_;clear h;intro a w h
         refine zaa false h rfl (fun hc=>?_) (fun hc=>?_)
         ·cases hc
         ·clear hc
          refine wp_skip ?_
          replace h:=h.conv (f':=F.of [(0,.t (.c (.own 0 L))),(3,vi .i64 (b:Int)),(4,.t (.c (.fn (.func 70) [] []))),(18,vi .i64 (md:Int)),(24,vi .i64 (e:Int)),(213,vb false)] [(0,.row 100 3 ((pre++ssV za2.v (X++Y)++post).map za2.d))]) (congrArg (fun (z_:List za2)=>F.of [(0,.t (.c (.own 0 L))),(3,vi .i64 (b:Int)),(4,.t (.c (.fn (.func 70) [] []))),(18,vi .i64 (md:Int)),(24,vi .i64 (e:Int)),(213,vb false)] [(0,.row 100 3 (z_.map za2.d))]) (show ((pre++ssV za2.v (a1++b1)++a2++b2++post):List za2)=(pre++ssV za2.v (X++Y)++post) from by rw [← hsm,ssV_e (show a2.length=0∨b2.length=0 by omega) ra2 rb2];simp only [List.append_assoc]))
          refine zap [] h Exit.normal (.inr rfl)  rfl trivial ?_
          rfl
theorem Ssym:∀ (N:Nat),SymIH N
 | 0=>fun n hn=>absurd hn (by omega)
 | N+1=>fun n hn L a m b r0 r1 hs=>SsymN (N:=n) (fun k hk=>Ssym N k (by omega)) hs
end
section
/-- blocks of s elements, each of them rising -/
inductive Blk (s:Nat):List za2→Prop
  | last (l:List za2) (h:Ris za2.v l) (hl:l.length≤s):Blk s l
  | cons (X l:List za2) (hX:X.length=s) (h:Ris za2.v X) (hl:Blk s l):Blk s (X++l)
theorem Blk.ris {s:Nat} {l:List za2} (h:Blk s l) (hl:l.length≤s):Ris za2.v l:=by
 cases h with
 | last _ h _=>exact h
 | cons X l' hX h hl' =>
  have:l'.length=0:=by rw [List.length_append] at hl;omega
  rw [zgh this,List.append_nil];exact h
theorem Blk.one {s:Nat} {l:List za2} (h:Blk s l) (hl:s≤l.length):∃ X r,l=X++r∧X.length=s∧Ris za2.v X∧Blk s r:=by
 cases h with
 | last _ h h2=>exact ⟨l,[],by simp,by omega,h,.last _ trivial (Nat.zero_le _)⟩
 | cons X l' hX h hl'=>exact ⟨X,l', rfl,hX,h,hl'⟩
theorem Blk.two {s:Nat} {l:List za2} (h:Blk s l) (hl:2*s≤l.length):∃ X Y r,l=X++Y++r∧X.length=s∧Y.length=s∧Ris za2.v X∧Ris za2.v Y∧Blk s r:=by
 obtain ⟨X,l1,rfl,hX,rX,h1⟩:=h.one (by omega)
 obtain ⟨Y,l2,rfl,hY,rY,h2⟩:=h1.one (by rw [List.length_append] at hl;omega)
 exact ⟨X,Y,l2,by simp,hX,hY,rX,rY,h2⟩
def Pfx (s:Nat) (P:List za2):Prop:=∀ Z,Blk s Z→Blk s (P++Z)
theorem Pfx.nil (s:Nat):Pfx s []:=fun _ h=>h
theorem Pfx.snoc {s:Nat} {P M:List za2} (h:Pfx s P) (hM:M.length=s) (rM:Ris za2.v M):Pfx s (P++M):=fun Z hZ=>by
 rw [List.append_assoc];exact h _ (.cons M Z hM rM hZ)
theorem zgd (xs:List za2):Ris za2.v (ssV za2.v xs):=(zgv xs).1
theorem zfh (xs:List za2):Stb za2.v (ssV za2.v xs) xs:=(zgv xs).2
theorem Stb.mid {P M M' Z xs:List za2} (h:Stb za2.v (P++(M++Z)) xs) (hM:Stb za2.v M' M):Stb za2.v (P++(M'++Z)) xs:=((Stb.refl P).app (hM.app (Stb.refl Z))).trans h
theorem Stb.len {xs ys:List za2} (h:Stb za2.v xs ys):xs.length=ys.length:=Stb.length xs.length rfl h
end
section
open Go.RowKit

theorem tj_0:za7 Tryz.prog 126:=za7.mk' (by kernel_rfl)
theorem tj_2:za7 Tryz.prog 105:=za7.mk' (by kernel_rfl)
theorem Sinsort2 {r0 r1:List za2} {L lo hi:Nat} (pre mid post:List za2) (e0:r0=pre++mid++post) (e1:r1=pre++ssV za2.v mid++post) (eL:L=pre.length+mid.length+post.length) (ea:lo=pre.length) (eb:hi=pre.length+mid.length) (hl:L≤1000000) :
  Fn Tryz.prog 126 [(0,.row 100 3 (r0.map za2.d))] [.t (.c (.own 0 L)),vi .i64 (lo:Int),vi .i64 (hi:Int),.t (.c (.fn (.func 70) [] []))] (.tup []) [(0,.row 100 3 (r1.map za2.d))]:=by
 have el:L=(pre++mid++post).length:=by simp only [List.length_append];omega
 subst e0 e1 ea eb el
 exact Sinsort pre mid post hl
theorem Ssym2 {r0 r1:List za2} {L lo m b:Nat} (pre X Y post:List za2) (e0:r0=pre++X++Y++post) (e1:r1=pre++ssV za2.v (X++Y)++post) (rX:Ris za2.v X) (rY:Ris za2.v Y) (hX:0<X.length) (hY:0<Y.length) (ea:lo=pre.length) (em:m=pre.length+X.length) (eb:b=pre.length+X.length+Y.length) (eL:L=pre.length+X.length+Y.length+post.length) (hl:L≤1000000) :
  Fn Tryz.prog 127 [(0,.row 100 3 (r0.map za2.d))] [.t (.c (.own 0 L)),vi .i64 (lo:Int),vi .i64 (m:Int),vi .i64 (b:Int),.t (.c (.fn (.func 70) [] []))] (.tup []) [(0,.row 100 3 (r1.map za2.d))] :=
 Ssym (X.length+Y.length+1) (X.length+Y.length) (by omega) L lo m b r0 r1 ⟨pre,X,Y,post,rfl,ea,em,eb,eL,hl,hX,hY,rX,rY,e0,e1⟩
theorem Sstable (xs:List za2) (L:Nat) (hL:L=xs.length) (hl:L≤400000):Fn Tryz.prog 105 [(0,.row 100 3 (xs.map za2.d))] [.t (.c (.own 0 L)),vi .i64 (L:Int),.t (.c (.fn (.func 70) [] []))] (.tup []) [(0,.row 100 3 ((ssV za2.v xs).map za2.d))]:=by
 refine Fn.body Tryz.func105 rfl 63 rfl fun w H B a h=>?_
 refine rq za0 1 [] [(0,.t (.c (.own 0 L))),(1,vi .i64 (L:Int)),(2,.t (.c (.fn (.func 70) [] []))),(6,vi .i64 20)] [(0,.row 100 3 (xs.map za2.d))] h ?_;clear h;intro a w h
 refine rq za0 1 [] [(0,.t (.c (.own 0 L))),(1,vi .i64 (L:Int)),(2,.t (.c (.fn (.func 70) [] []))),(6,vi .i64 20),(7,vi .i64 0),(8,vi .i64 20)] [(0,.row 100 3 (xs.map za2.d))] h ?_;clear h;intro a w h
 refine wp_seq (wp_block ?_)
 refine zb1 (ι:=(Nat) × (List za2) × (List za2)) (fun (z_:(Nat) × (List za2) × (List za2))=>match z_ with | (lo,P,Z)=>lo=P.length∧Pfx 20 P∧lo+Z.length=L∧Stb za2.v (P++Z) xs)
   (fun (z_:(Nat) × (List za2) × (List za2))=>match z_ with | (lo,P,Z)=>[(0,.t (.c (.own 0 L))),(1,vi .i64 (L:Int)),(2,.t (.c (.fn (.func 70) [] []))),(6,vi .i64 20),(7,vi .i64 (lo:Int)),(8,vi .i64 ((20+lo:Nat):Int))])
   (fun (z_:(Nat) × (List za2) × (List za2))=>match z_ with | (lo,P,Z)=>[(0,.row 100 3 ((P++Z).map za2.d))])
   (fun (z_:(Nat) × (List za2) × (List za2))=>match z_ with | (lo,P,Z)=>Z.length) (0,[],xs) ?_ h (by kernel_rfl) (by kernel_rfl) ?_
 ·exact ⟨rfl,Pfx.nil _,by simp;omega,Stb.refl _⟩
 ·clear h;rintro ⟨lo,P,Z⟩ a w hI h
  change St _ (F.of [(0,.t (.c (.own 0 L))),(1,vi .i64 (L:Int)),(2,.t (.c (.fn (.func 70) [] []))),(6,vi .i64 20),(7,vi .i64 (lo:Int)),(8,vi .i64 ((20+lo:Nat):Int))] [(0,.row 100 3 ((P++Z).map za2.d))]) a w at h
  obtain ⟨q1,q2,q3,q4⟩:=hI
  refine wp_seq (rq za0 1 [] [(0,.t (.c (.own 0 L))),(1,vi .i64 (L:Int)),(2,.t (.c (.fn (.func 70) [] []))),(6,vi .i64 20),(7,vi .i64 (lo:Int)),(8,vi .i64 ((20+lo:Nat):Int)),(13,vb (decide (((20+lo:Nat):Int)≤(L:Int))))] [(0,.row 100 3 ((P++Z).map za2.d))] h ?_);clear h;intro a w h
  refine zaa (decide (((20+lo:Nat):Int)≤(L:Int))) h rfl (fun hc=>?_) (fun hc=>?_)
  ·have hc1:=hc;clear hc
   have hc1':=of_decide_eq_true hc1
   refine wp_skip (za4 (wp_block ?_))
   obtain ⟨M,Z1,hZ,hM⟩:=zfs (l:=Z) (n:=20) (by omega)
   have hz1:Z.length=M.length+Z1.length:=by rw [hZ,List.length_append]
   replace h:=h.conv (f':=F.of [(0,.t (.c (.own 0 L))),(1,vi .i64 (L:Int)),(2,.t (.c (.fn (.func 70) [] []))),(6,vi .i64 20),(7,vi .i64 (lo:Int)),(8,vi .i64 ((20+lo:Nat):Int)),(13,vb (decide (((20+lo:Nat):Int)≤(L:Int))))] [(0,.row 100 3 ((P++(M++Z1)).map za2.d))]) (congrArg (fun (z_:List za2)=>F.of [(0,.t (.c (.own 0 L))),(1,vi .i64 (L:Int)),(2,.t (.c (.fn (.func 70) [] []))),(6,vi .i64 20),(7,vi .i64 (lo:Int)),(8,vi .i64 ((20+lo:Nat):Int)),(13,vb (decide (((20+lo:Nat):Int)≤(L:Int))))] [(0,.row 100 3 (z_.map za2.d))]) (show ((P++Z):List za2)=(P++(M++Z1)) from by rw [hZ]))
   refine rq za0 1 [(4,.call (Sinsort2 (r0:=(P++(M++Z1))) (r1:=((P++ssV za2.v M)++Z1)) (L:=L) (lo:=lo) (hi:=(20+lo)) P M Z1 (by simp only [List.append_assoc]) (rfl) (by first | omega | (simp only [List.length_append,zaz];omega)) (by first | omega | (simp only [List.length_append,zaz];omega)) (by first | omega | (simp only [List.length_append,zaz];omega)) (by omega)) tj_0)] [(0,.t (.c (.own 0 L))),(1,vi .i64 (L:Int)),(2,.t (.c (.fn (.func 70) [] []))),(6,vi .i64 20),(7,vi .i64 (lo:Int)),(8,vi .i64 ((20+lo:Nat):Int))] [(0,.row 100 3 (((P++ssV za2.v M)++Z1).map za2.d))] h ?_;clear h;intro a w h
   refine rq za0 1 [] [(0,.t (.c (.own 0 L))),(1,vi .i64 (L:Int)),(2,.t (.c (.fn (.func 70) [] []))),(6,vi .i64 20),(7,vi .i64 ((20+lo:Nat):Int)),(8,vi .i64 ((20+lo:Nat):Int))] [(0,.row 100 3 (((P++ssV za2.v M)++Z1).map za2.d))] h ?_;clear h;intro a w h
   refine rn za0 1 [(2,.gen _ _ _ fun _ _ _ _=>Op.arith (op := .add) (d:=22) (xt:=3) (yt:=3) (k := .i64) (m:=((20+lo:Nat):Int)) (n:=20) (r:=((20+(20+lo):Nat):Int)) (OV.tmp 20 _) (OV.tmp 21 _) (.inl ⟨rfl,(by omega)⟩) (zad (by omega) (by omega)))] [(0,.t (.c (.own 0 L))),(1,vi .i64 (L:Int)),(2,.t (.c (.fn (.func 70) [] []))),(6,vi .i64 20),(7,vi .i64 ((20+lo:Nat):Int)),(8,vi .i64 ((20+(20+lo):Nat):Int))] [(0,.row 100 3 (((P++ssV za2.v M)++Z1).map za2.d))] h ?_;clear h;intro a w h
   refine zac (za4 ?_)
   refine zam (x:=(lo,P,Z)) (y:=((20+lo),(P++ssV za2.v M),Z1)) h ?_ ?_
   ·exact ⟨by rw [List.length_append,zaz];omega,q2.snoc (by rw [zaz];exact hM) (zgd M),by omega,by rw [List.append_assoc];exact Stb.mid (by rw [← hZ];exact q4) (zfh M)⟩
   ·show Z1.length<Z.length
    omega
  ·have hc2:=hc;clear hc
   have hc2':=of_decide_eq_false hc2
   refine wp_exit (zai (zai (za8 (za4 (rq za0 1 [(4,.call (Sinsort2 (r0:=(P++Z)) (r1:=(P++ssV za2.v Z)) (L:=L) (lo:=lo) (hi:=L) P Z [] ((List.append_nil _).symm) ((List.append_nil _).symm) (by simp only [List.length_nil];omega) (by first | omega | (simp only [List.length_append,zaz];omega)) (by first | omega | (simp only [List.length_append,zaz];omega)) (by omega)) tj_0)] [(0,.t (.c (.own 0 L))),(1,vi .i64 (L:Int)),(2,.t (.c (.fn (.func 70) [] []))),(6,vi .i64 20),(7,vi .i64 (lo:Int)),(8,vi .i64 ((20+lo:Nat):Int))] [(0,.row 100 3 ((P++ssV za2.v Z).map za2.d))] h ?_)))));clear h;intro a w h
   refine wp_block ?_
   refine zb1 (ι:=(Nat) × (List za2)) (fun (z_:(Nat) × (List za2))=>match z_ with | (bs,ys)=>20≤bs∧bs≤2*L+20∧Blk bs ys∧Stb za2.v ys xs)
     (fun (z_:(Nat) × (List za2))=>match z_ with | (bs,ys)=>[(0,.t (.c (.own 0 L))),(1,vi .i64 (L:Int)),(2,.t (.c (.fn (.func 70) [] []))),(6,vi .i64 (bs:Int))])
     (fun (z_:(Nat) × (List za2))=>match z_ with | (bs,ys)=>[(0,.row 100 3 (ys.map za2.d))])
     (fun (z_:(Nat) × (List za2))=>match z_ with | (bs,ys)=>L - bs) (20,(P++ssV za2.v Z)) ?_ h (by kernel_rfl) (by kernel_rfl) ?_
   ·exact ⟨Nat.le_refl _,by omega,q2 _ (.last _ (zgd Z) (by rw [zaz];omega)),(((Stb.refl P).app (zfh Z)).trans q4)⟩
   ·clear h;rintro ⟨bs,ys⟩ a w hI h
    change St _ (F.of [(0,.t (.c (.own 0 L))),(1,vi .i64 (L:Int)),(2,.t (.c (.fn (.func 70) [] []))),(6,vi .i64 (bs:Int))] [(0,.row 100 3 (ys.map za2.d))]) a w at h
    obtain ⟨p1,p2,p3,p4⟩:=hI
    have p5:=p4.len
    refine wp_seq (rq za0 1 [] [(0,.t (.c (.own 0 L))),(1,vi .i64 (L:Int)),(2,.t (.c (.fn (.func 70) [] []))),(6,vi .i64 (bs:Int)),(30,vb (decide ((bs:Int)<(L:Int))))] [(0,.row 100 3 (ys.map za2.d))] h ?_);clear h;intro a w h
    refine zaa (decide ((bs:Int)<(L:Int))) h rfl (fun hc=>?_) (fun hc=>?_)
    ·have hc3:=hc;clear hc
     have hc3':=of_decide_eq_true hc3
     refine wp_skip (za4 (wp_block (rq za0 1 [(1,.gen _ _ _ fun _ _ _ _=>Op.arith (op := .mul) (d:=32) (xt:=3) (yt:=3) (k := .i64) (m:=2) (n:=(bs:Int)) (r:=((2*bs:Nat):Int)) (OV.const (.int .i64 2) rfl) (OV.tmp 31 _) (.inr (.inr ⟨rfl,(by omega)⟩)) (zad (by omega) (by omega)))] [(0,.t (.c (.own 0 L))),(1,vi .i64 (L:Int)),(2,.t (.c (.fn (.func 70) [] []))),(6,vi .i64 (bs:Int)),(7,vi .i64 0),(8,vi .i64 ((2*bs:Nat):Int))] [(0,.row 100 3 (ys.map za2.d))] h ?_)));clear h;intro a w h
     refine wp_seq (wp_block ?_)
     refine zb1 (ι:=(Nat) × (List za2) × (List za2)) (fun (z_:(Nat) × (List za2) × (List za2))=>match z_ with | (lo,P,Z)=>lo=P.length∧Pfx (2*bs) P∧lo+Z.length=L∧Blk bs Z∧Stb za2.v (P++Z) xs)
       (fun (z_:(Nat) × (List za2) × (List za2))=>match z_ with | (lo,P,Z)=>[(0,.t (.c (.own 0 L))),(1,vi .i64 (L:Int)),(2,.t (.c (.fn (.func 70) [] []))),(6,vi .i64 (bs:Int)),(7,vi .i64 (lo:Int)),(8,vi .i64 ((2*bs+lo:Nat):Int))])
       (fun (z_:(Nat) × (List za2) × (List za2))=>match z_ with | (lo,P,Z)=>[(0,.row 100 3 ((P++Z).map za2.d))])
       (fun (z_:(Nat) × (List za2) × (List za2))=>match z_ with | (lo,P,Z)=>Z.length) (0,[],ys) ?_ h (by kernel_rfl) (by kernel_rfl) ?_
     ·exact ⟨rfl,Pfx.nil _,by simp;omega,p3,p4⟩
     ·clear h;rintro ⟨lo,P,Z⟩ a w hI h
      change St _ (F.of [(0,.t (.c (.own 0 L))),(1,vi .i64 (L:Int)),(2,.t (.c (.fn (.func 70) [] []))),(6,vi .i64 (bs:Int)),(7,vi .i64 (lo:Int)),(8,vi .i64 ((2*bs+lo:Nat):Int))] [(0,.row 100 3 ((P++Z).map za2.d))]) a w at h
      obtain ⟨q1,q2,q3,q5,q4⟩:=hI
      refine wp_seq (rq za0 1 [] [(0,.t (.c (.own 0 L))),(1,vi .i64 (L:Int)),(2,.t (.c (.fn (.func 70) [] []))),(6,vi .i64 (bs:Int)),(7,vi .i64 (lo:Int)),(8,vi .i64 ((2*bs+lo:Nat):Int)),(35,vb (decide (((2*bs+lo:Nat):Int)≤(L:Int))))] [(0,.row 100 3 ((P++Z).map za2.d))] h ?_);clear h;intro a w h
      refine zaa (decide (((2*bs+lo:Nat):Int)≤(L:Int))) h rfl (fun hc=>?_) (fun hc=>?_)
      ·have hc4:=hc;clear hc
       have hc4':=of_decide_eq_true hc4
       refine wp_skip (za4 (wp_block ?_))
       obtain ⟨X,Y,Z1,hZ,hX,hY,rX,rY,bZ⟩:=q5.two (by omega)
       have hz1:Z.length=X.length+Y.length+Z1.length:=by rw [hZ,List.length_append,List.length_append]
       replace h:=h.conv (f':=F.of [(0,.t (.c (.own 0 L))),(1,vi .i64 (L:Int)),(2,.t (.c (.fn (.func 70) [] []))),(6,vi .i64 (bs:Int)),(7,vi .i64 (lo:Int)),(8,vi .i64 ((2*bs+lo:Nat):Int)),(35,vb (decide (((2*bs+lo:Nat):Int)≤(L:Int))))] [(0,.row 100 3 ((P++X++Y++Z1).map za2.d))]) (congrArg (fun (z_:List za2)=>F.of [(0,.t (.c (.own 0 L))),(1,vi .i64 (L:Int)),(2,.t (.c (.fn (.func 70) [] []))),(6,vi .i64 (bs:Int)),(7,vi .i64 (lo:Int)),(8,vi .i64 ((2*bs+lo:Nat):Int)),(35,vb (decide (((2*bs+lo:Nat):Int)≤(L:Int))))] [(0,.row 100 3 (z_.map za2.d))]) (show ((P++Z):List za2)=(P++X++Y++Z1) from by rw [hZ];simp only [List.append_assoc]))
       refine rq za0 1 [(4,.gen _ _ _ fun _ _ _ _=>Op.arith (op := .add) (d:=40) (xt:=3) (yt:=3) (k := .i64) (m:=(lo:Int)) (n:=(bs:Int)) (r:=((lo+bs:Nat):Int)) (OV.tmp 38 _) (OV.tmp 39 _) (.inl ⟨rfl,(by omega)⟩) (zad (by omega) (by omega))),(7,.call (Ssym2 (r0:=(P++X++Y++Z1)) (r1:=((P++ssV za2.v (X++Y))++Z1)) (L:=L) (lo:=lo) (m:=(lo+bs)) (b:=(2*bs+lo)) P X Y Z1 rfl rfl rX rY (by omega) (by omega) (by first | omega | (simp only [List.length_append,zaz];omega)) (by first | omega | (simp only [List.length_append,zaz];omega)) (by first | omega | (simp only [List.length_append,zaz];omega)) (by first | omega | (simp only [List.length_append,zaz];omega)) (by omega)) ti_4)] [(0,.t (.c (.own 0 L))),(1,vi .i64 (L:Int)),(2,.t (.c (.fn (.func 70) [] []))),(6,vi .i64 (bs:Int)),(7,vi .i64 (lo:Int)),(8,vi .i64 ((2*bs+lo:Nat):Int))] [(0,.row 100 3 (((P++ssV za2.v (X++Y))++Z1).map za2.d))] h ?_;clear h;intro a w h
       refine rq za0 1 [] [(0,.t (.c (.own 0 L))),(1,vi .i64 (L:Int)),(2,.t (.c (.fn (.func 70) [] []))),(6,vi .i64 (bs:Int)),(7,vi .i64 ((2*bs+lo:Nat):Int)),(8,vi .i64 ((2*bs+lo:Nat):Int))] [(0,.row 100 3 (((P++ssV za2.v (X++Y))++Z1).map za2.d))] h ?_;clear h;intro a w h
       refine rn za0 1 [(2,.gen _ _ _ fun _ _ _ _=>Op.arith (op := .mul) (d:=47) (xt:=3) (yt:=3) (k := .i64) (m:=2) (n:=(bs:Int)) (r:=((2*bs:Nat):Int)) (OV.const (.int .i64 2) rfl) (OV.tmp 46 _) (.inr (.inr ⟨rfl,(by omega)⟩)) (zad (by omega) (by omega))),(3,.gen _ _ _ fun _ _ _ _=>Op.arith (op := .add) (d:=48) (xt:=3) (yt:=3) (k := .i64) (m:=((2*bs+lo:Nat):Int)) (n:=((2*bs:Nat):Int)) (r:=((2*bs+(2*bs+lo):Nat):Int)) (OV.tmp 45 _) (OV.tmp 47 _) (.inl ⟨rfl,(by omega)⟩) (zad (by omega) (by omega)))] [(0,.t (.c (.own 0 L))),(1,vi .i64 (L:Int)),(2,.t (.c (.fn (.func 70) [] []))),(6,vi .i64 (bs:Int)),(7,vi .i64 ((2*bs+lo:Nat):Int)),(8,vi .i64 ((2*bs+(2*bs+lo):Nat):Int))] [(0,.row 100 3 (((P++ssV za2.v (X++Y))++Z1).map za2.d))] h ?_;clear h;intro a w h
       refine zac (za4 ?_)
       refine zam (x:=(lo,P,Z)) (y:=((2*bs+lo),(P++ssV za2.v (X++Y)),Z1)) h ?_ ?_
       ·exact ⟨by rw [List.length_append,zaz,List.length_append];omega,q2.snoc (by rw [zaz,List.length_append];omega) (zgd _),by omega,bZ,by rw [List.append_assoc];exact Stb.mid (M:=X++Y) (by rw [← hZ];exact q4) (zfh _)⟩
       ·show Z1.length<Z.length
        omega
      ·have hc5:=hc;clear hc
       have hc5':=of_decide_eq_false hc5
       refine wp_exit (zai (zai (za8 (za4 (wp_seq (rq za0 1 [(2,.gen _ _ _ fun _ _ _ _=>Op.arith (op := .add) (d:=51) (xt:=3) (yt:=3) (k := .i64) (m:=(lo:Int)) (n:=(bs:Int)) (r:=((lo+bs:Nat):Int)) (OV.tmp 49 _) (OV.tmp 50 _) (.inl ⟨rfl,(by omega)⟩) (zad (by omega) (by omega)))] [(0,.t (.c (.own 0 L))),(1,vi .i64 (L:Int)),(2,.t (.c (.fn (.func 70) [] []))),(6,vi .i64 (bs:Int)),(7,vi .i64 (lo:Int)),(9,vi .i64 ((lo+bs:Nat):Int))] [(0,.row 100 3 ((P++Z).map za2.d))] h ?_))))));clear h;intro a w h
       refine rq za0 1 [] [(0,.t (.c (.own 0 L))),(1,vi .i64 (L:Int)),(2,.t (.c (.fn (.func 70) [] []))),(6,vi .i64 (bs:Int)),(7,vi .i64 (lo:Int)),(9,vi .i64 ((lo+bs:Nat):Int)),(54,vb (decide (((lo+bs:Nat):Int)<(L:Int))))] [(0,.row 100 3 ((P++Z).map za2.d))] h ?_;clear h;intro a w h
       refine zaa (decide (((lo+bs:Nat):Int)<(L:Int))) h rfl (fun hc=>?_) (fun hc=>?_)
       ·have hc6:=hc;clear hc
        have hc6':=of_decide_eq_true hc6
        obtain ⟨X,Y,hZ,hX,rX,bY⟩:=q5.one (by omega)
        have hz1:Z.length=X.length+Y.length:=by rw [hZ,List.length_append]
        have rY:=bY.ris (by omega)
        replace h:=h.conv (f':=F.of [(0,.t (.c (.own 0 L))),(1,vi .i64 (L:Int)),(2,.t (.c (.fn (.func 70) [] []))),(6,vi .i64 (bs:Int)),(7,vi .i64 (lo:Int)),(9,vi .i64 ((lo+bs:Nat):Int)),(54,vb (decide (((lo+bs:Nat):Int)<(L:Int))))] [(0,.row 100 3 ((P++X++Y++[]).map za2.d))]) (congrArg (fun (z_:List za2)=>F.of [(0,.t (.c (.own 0 L))),(1,vi .i64 (L:Int)),(2,.t (.c (.fn (.func 70) [] []))),(6,vi .i64 (bs:Int)),(7,vi .i64 (lo:Int)),(9,vi .i64 ((lo+bs:Nat):Int)),(54,vb (decide (((lo+bs:Nat):Int)<(L:Int))))] [(0,.row 100 3 (z_.map za2.d))]) (show ((P++Z):List za2)=(P++X++Y++[]) from by rw [hZ];simp only [List.append_assoc,List.append_nil]))
        refine rn za0 1 [(5,.call (Ssym2 (r0:=(P++X++Y++[])) (r1:=(P++ssV za2.v (X++Y)++[])) (L:=L) (lo:=lo) (m:=(lo+bs)) (b:=L) P X Y [] rfl rfl rX rY (by omega) (by omega) (by first | omega | (simp only [List.length_append,zaz];omega)) (by first | omega | (simp only [List.length_append,zaz];omega)) (by first | omega | (simp only [List.length_append,zaz];omega)) (by simp only [List.length_nil];omega) (by omega)) ti_4)] [(0,.t (.c (.own 0 L))),(1,vi .i64 (L:Int)),(2,.t (.c (.fn (.func 70) [] []))),(6,vi .i64 (bs:Int))] [(0,.row 100 3 ((P++ssV za2.v (X++Y)++[]).map za2.d))] h ?_;clear h;intro a w h
        refine za4 (rn za0 1 [(1,.gen _ _ _ fun _ _ _ _=>Op.arith (op := .mul) (d:=62) (xt:=3) (yt:=3) (k := .i64) (m:=(bs:Int)) (n:=2) (r:=((bs*2:Nat):Int)) (OV.tmp 61 _) (OV.const (.int .i64 2) rfl) (.inr (.inr ⟨rfl,(by omega)⟩)) (zad (by omega) (by omega)))] [(0,.t (.c (.own 0 L))),(1,vi .i64 (L:Int)),(2,.t (.c (.fn (.func 70) [] []))),(6,vi .i64 ((bs*2:Nat):Int))] [(0,.row 100 3 ((P++ssV za2.v (X++Y)++[]).map za2.d))] h ?_);clear h;intro a w h
        refine zac (za4 ?_)
        replace h:=h.conv (f':=F.of [(0,.t (.c (.own 0 L))),(1,vi .i64 (L:Int)),(2,.t (.c (.fn (.func 70) [] []))),(6,vi .i64 ((bs*2:Nat):Int))] [(0,.row 100 3 ((P++ssV za2.v Z).map za2.d))]) (congrArg (fun (z_:List za2)=>F.of [(0,.t (.c (.own 0 L))),(1,vi .i64 (L:Int)),(2,.t (.c (.fn (.func 70) [] []))),(6,vi .i64 ((bs*2:Nat):Int))] [(0,.row 100 3 (z_.map za2.d))]) (show ((P++ssV za2.v (X++Y)++[]):List za2)=(P++ssV za2.v Z) from by rw [hZ,List.append_nil]))
        refine zam (x:=(bs,ys)) (y:=((bs*2),(P++ssV za2.v Z))) h ?_ ?_
        ·exact ⟨by omega,by omega,by rw [Nat.mul_comm];exact q2 _ (.last _ (zgd Z) (by rw [zaz];omega)),(((Stb.refl P).app (zfh Z)).trans q4)⟩
        ·show L - bs*2<L - bs
         omega
       ·have hc7:=hc;clear hc
        have hc7':=of_decide_eq_false hc7
        refine wp_skip (za4 (rn za0 1 [(1,.gen _ _ _ fun _ _ _ _=>Op.arith (op := .mul) (d:=62) (xt:=3) (yt:=3) (k := .i64) (m:=(bs:Int)) (n:=2) (r:=((bs*2:Nat):Int)) (OV.tmp 61 _) (OV.const (.int .i64 2) rfl) (.inr (.inr ⟨rfl,(by omega)⟩)) (zad (by omega) (by omega)))] [(0,.t (.c (.own 0 L))),(1,vi .i64 (L:Int)),(2,.t (.c (.fn (.func 70) [] []))),(6,vi .i64 ((bs*2:Nat):Int))] [(0,.row 100 3 ((P++Z).map za2.d))] h ?_));clear h;intro a w h
        refine zac (za4 ?_)
        replace h:=h.conv (f':=F.of [(0,.t (.c (.own 0 L))),(1,vi .i64 (L:Int)),(2,.t (.c (.fn (.func 70) [] []))),(6,vi .i64 ((bs*2:Nat):Int))] [(0,.row 100 3 ((P++ssV za2.v Z).map za2.d))]) (congrArg (fun (z_:List za2)=>F.of [(0,.t (.c (.own 0 L))),(1,vi .i64 (L:Int)),(2,.t (.c (.fn (.func 70) [] []))),(6,vi .i64 ((bs*2:Nat):Int))] [(0,.row 100 3 (z_.map za2.d))]) (show ((P++Z):List za2)=(P++ssV za2.v Z) from by rw [ssV_of (q5.ris (by omega))]))
        refine zam (x:=(bs,ys)) (y:=((bs*2),(P++ssV za2.v Z))) h ?_ ?_
        ·exact ⟨by omega,by omega,by rw [Nat.mul_comm];exact q2 _ (.last _ (zgd Z) (by rw [zaz];omega)),(((Stb.refl P).app (zfh Z)).trans q4)⟩
        ·show L - bs*2<L - bs
         omega
    ·have hc8:=hc;clear hc
     have hc8':=of_decide_eq_false hc8
     refine wp_exit (zai (zai (za8 ?_)))
     replace h:=h.conv (f':=F.of [(0,.t (.c (.own 0 L))),(1,vi .i64 (L:Int)),(2,.t (.c (.fn (.func 70) [] []))),(6,vi .i64 (bs:Int)),(30,vb (decide ((bs:Int)<(L:Int))))] [(0,.row 100 3 ((ssV za2.v xs).map za2.d))]) (congrArg (fun (z_:List za2)=>F.of [(0,.t (.c (.own 0 L))),(1,vi .i64 (L:Int)),(2,.t (.c (.fn (.func 70) [] []))),(6,vi .i64 (bs:Int)),(30,vb (decide ((bs:Int)<(L:Int))))] [(0,.row 100 3 (z_.map za2.d))]) (show (ys:List za2)=(ssV za2.v xs) from zd1 (p3.ris (by omega)) p4))
     refine zap [] h Exit.normal (.inr rfl)  rfl trivial ?_
     rfl
theorem zfp (xs:List za2) (hl:xs.length≤400000):Fn Tryz.prog 69 [(0,.row 100 3 (xs.map za2.d))] [.t (.c (.own 0 xs.length)),.t (.c (.fn (.func 70) [] []))] (.tup []) [(0,.row 100 3 ((ssV za2.v xs).map za2.d))]:=by
 refine Fn.body Tryz.func69 rfl 9 rfl fun w H B a h=>?_
 refine rn za0 1 [(4,.call (Sstable xs xs.length rfl (by omega)) tj_2)] [] [(0,.row 100 3 ((ssV za2.v xs).map za2.d))] h ?_;clear h;intro a w h
 refine zap [] h Exit.normal (.inr rfl)  rfl trivial ?_
 rfl
end
section
open Go.RowKit

theorem tk_3:za7 Tryz.prog 109:=za7.mk' (by kernel_rfl)
theorem tk_4:Zero Tryz.prog 100 [.d (.raw (.int .i64 0)),.d (.raw (.bool false)),.d (nsl [])]:=⟨(Value.agg #[.int .i64 0,.bool false,.slice none 0 0]),[.int .i64 0,.bool false,.slice none 0 0],by kernel_rfl,rfl,(fun _ _=>⟨DR.raw _ rfl,DR.raw _ rfl,DR.nil _ _ _ (fun _=>rfl) (Nat.zero_le _),trivial⟩)⟩
def idxF (pr:za2→Bool):List za2→Nat→Int
  | [],_=>-1
  | p :: ps,n=>if pr p=true then n else idxF pr ps (n+1)
theorem idxF_at {pr:za2→Bool} {xs:List za2} {j:Nat} {p:za2} (h:xs[j]?=some p):idxF pr (xs.drop j) j=if pr p=true then (j:Int) else idxF pr (xs.drop (j+1)) (j+1):=by
 obtain ⟨hj,rfl⟩:=List.getElem?_eq_some_iff.1 h
 rw [List.drop_eq_getElem_cons hj];rfl
theorem idxF_cases (pr:za2→Bool):∀ (xs:List za2) (n:Nat),(idxF pr xs n=-1∧xs.filter (fun p=>!pr p)=xs)∨∃ k x,idxF pr xs n=((n+k:Nat):Int)∧xs[k]?=some x∧pr x=true∧(xs.take k).filter (fun p=>!pr p)=xs.take k
 | [],n => .inl ⟨rfl,rfl⟩
 | p :: ps,n=>by
  cases hp:pr p with
  | true=>exact .inr ⟨0,p,by simp [idxF,hp],rfl,hp,rfl⟩
  | false =>
   rcases idxF_cases pr ps (n+1) with ⟨h1,h2⟩ | ⟨k,x,h1,h2,h3,h4⟩
   ·exact .inl ⟨by simp [idxF,hp,h1],by simp [hp,h2]⟩
   ·exact .inr ⟨k+1,x,by simp only [idxF,hp,Bool.false_eq_true,if_false,h1];omega,h2,h3,by simp [hp,h4]⟩
def isZ (p:za2):Bool:=sgn p.c.val == 0
theorem del_at {pr:za2→Bool} {xs F G:List za2} {j:Nat} {x:za2} (hl:F.length+G.length=j) (h:xs[j]?=some x):(F++G++xs.drop j)[j]?=some x:=by
 obtain ⟨hj,rfl⟩:=List.getElem?_eq_some_iff.1 h
 rw [List.getElem?_append_right (by rw [List.length_append];omega),List.length_append,hl,Nat.sub_self,List.drop_eq_getElem_cons hj];rfl
theorem filt_snoc {pr:za2→Bool} {xs:List za2} {j:Nat} {x:za2} (h:xs[j]?=some x) (hp:pr x=false):((xs.take (j+1)).filter (fun p=>!pr p))=((xs.take j).filter (fun p=>!pr p))++[x]:=by
 have e:xs.take (j+1)=xs.take j++[x]:=by rw [List.take_add_one,h];rfl
 rw [e,List.filter_append]
 simp only [List.filter_cons,hp,Bool.not_false,if_true,List.filter_nil]
theorem filt_skip {pr:za2→Bool} {xs:List za2} {j:Nat} {x:za2} (h:xs[j]?=some x) (hp:pr x=true):((xs.take (j+1)).filter (fun p=>!pr p))=((xs.take j).filter (fun p=>!pr p)):=by
 have e:xs.take (j+1)=xs.take j++[x]:=by rw [List.take_add_one,h];rfl
 rw [e,List.filter_append]
 simp only [List.filter_cons,hp,Bool.not_true,Bool.false_eq_true,if_false,List.filter_nil,List.append_nil]
theorem del_skip {pr:za2→Bool} {xs G:List za2} {j:Nat} {x:za2} (h:xs[j]?=some x) (hp:pr x=true):(((xs.take j).filter (fun p=>!pr p))++G++xs.drop j)=(((xs.take (j+1)).filter (fun p=>!pr p))++(G++[x])++xs.drop (j+1)):=by
 rw [filt_skip h hp]
 obtain ⟨hj,rfl⟩:=List.getElem?_eq_some_iff.1 h
 rw [List.drop_eq_getElem_cons hj]
 simp only [List.append_assoc,List.cons_append,List.nil_append]
theorem del_keep {pr:za2→Bool} {xs G:List za2} {j:Nat} {x:za2} (h:xs[j]?=some x) (hp:pr x=false) (hG:0<G.length):(((xs.take j).filter (fun p=>!pr p))++G++xs.drop j).set ((xs.take j).filter (fun p=>!pr p)).length x=(((xs.take (j+1)).filter (fun p=>!pr p))++(G.tail++[x])++xs.drop (j+1)):=by
 rw [filt_snoc h hp]
 obtain ⟨hj,rfl⟩:=List.getElem?_eq_some_iff.1 h
 obtain ⟨g,G', rfl⟩:∃ g G', G=g :: G':=by
  cases G with
  | nil=>cases hG
  | cons g G'=>exact ⟨g,G', rfl⟩
 rw [List.drop_eq_getElem_cons hj,List.append_assoc,List.set_append_right _ _ (Nat.le_refl _),Nat.sub_self]
 simp only [List.cons_append,List.set_cons_zero,List.append_assoc,List.nil_append,List.tail_cons]
theorem filt_len {pr:za2→Bool} {xs:List za2} {j:Nat} {x:za2} (h:xs[j]?=some x) (hp:pr x=false):((xs.take j).filter (fun p=>!pr p)).length+1=((xs.take (j+1)).filter (fun p=>!pr p)).length:=by
 rw [filt_snoc h hp,List.length_append];rfl
theorem filt_len0 {pr:za2→Bool} {xs:List za2} {j:Nat} {x:za2} (h:xs[j]?=some x) (hp:pr x=true):((xs.take j).filter (fun p=>!pr p)).length=((xs.take (j+1)).filter (fun p=>!pr p)).length:=by
 rw [filt_skip h hp]
theorem SIndexFZ (pr:za2→Bool) (xs:List za2) (hf:∀ p ∈ xs,Fn Tryz.prog 74 [] [vd p.d] (vb (pr p)) []) (hl:xs.length≤1000000):Fn Tryz.prog 109 [(0,.row 100 3 (xs.map za2.d))] [.t (.c (.own 0 xs.length)),.t (.c (.fn (.func 74) [] []))] (vi .i64 (idxF pr xs 0)) [(0,.row 100 3 (xs.map za2.d))]:=by
 refine Fn.body Tryz.func109 rfl 19 rfl fun w H B a h=>?_
 refine rq za0 1 [] [(0,.t (.c (.own 0 xs.length))),(1,.t (.c (.fn (.func 74) [] []))),(4,vi .i64 0)] [(0,.row 100 3 (xs.map za2.d))] h ?_;clear h;intro a w h
 refine wp_seq (rq za0 1 [] [(0,.t (.c (.own 0 xs.length))),(1,.t (.c (.fn (.func 74) [] []))),(4,vi .i64 0),(7,vi .i64 (xs.length:Int)),(8,vi .i64 0)] [(0,.row 100 3 (xs.map za2.d))] h ?_);clear h;intro a w h
 refine wp_block ?_
 refine zb1 (ι:=(Nat)) (fun (z_:(Nat))=>match z_ with | j=>j≤xs.length∧idxF pr xs 0=idxF pr (xs.drop j) j)
   (fun (z_:(Nat))=>match z_ with | j=>[(0,.t (.c (.own 0 xs.length))),(1,.t (.c (.fn (.func 74) [] []))),(7,vi .i64 (xs.length:Int)),(8,vi .i64 (j:Int))])
   (fun (z_:(Nat))=>match z_ with | j=>[(0,.row 100 3 (xs.map za2.d))])
   (fun (z_:(Nat))=>match z_ with | j=>xs.length - j) 0 ?_ h (by kernel_rfl) (by kernel_rfl) ?_
 ·exact ⟨Nat.zero_le _,rfl⟩
 ·clear h;rintro j a w hI h
  change St _ (F.of [(0,.t (.c (.own 0 xs.length))),(1,.t (.c (.fn (.func 74) [] []))),(7,vi .i64 (xs.length:Int)),(8,vi .i64 (j:Int))] [(0,.row 100 3 (xs.map za2.d))]) a w at h
  obtain ⟨hI1,hI2⟩:=hI
  refine rq za0 1 [] [(0,.t (.c (.own 0 xs.length))),(1,.t (.c (.fn (.func 74) [] []))),(7,vi .i64 (xs.length:Int)),(8,vi .i64 (j:Int)),(9,vb (decide ((j:Int)<(xs.length:Int))))] [(0,.row 100 3 (xs.map za2.d))] h ?_;clear h;intro a w h
  refine wp_seq ?_
  refine zaa (decide ((j:Int)<(xs.length:Int))) h rfl (fun hc=>?_) (fun hc=>?_)
  ·have hc1:=hc;clear hc
   have hc1':=of_decide_eq_true hc1
   refine wp_skip (za4 (wp_seq (wp_block (rq za0 1 [] [(0,.t (.c (.own 0 xs.length))),(1,.t (.c (.fn (.func 74) [] []))),(5,vi .i64 (j:Int)),(7,vi .i64 (xs.length:Int)),(8,vi .i64 (j:Int))] [(0,.row 100 3 (xs.map za2.d))] h ?_))));clear h;intro a w h
   obtain ⟨x1,hx1⟩:∃ z_:za2,xs[j]?=some z_:=⟨_,List.getElem?_eq_getElem (by first | omega | (simp at *;omega))⟩
   refine rq za0 1 [(3,.gen _ _ _ fun _ _ _ _=>Op.idxO (d:=14) (t:=12) (k := .i64) (n:=0) (len:=xs.length) (i:=j) zc0 (by first | omega | (simp at *;omega)) (OV.tmp 13 _)),(4,.gen _ _ _ fun _ _ _ _=>Op.loadR_agg (d:=15) (t:=14) (n:=0) (i:=j) (fo:=0) (rty:=100) (es:=3) (xs:=[.raw (.int .i64 x1.v),.raw (.bool x1.c.neg),nsl x1.c.abs]) zfg rfl (zal hx1 (f:=za2.d)) rfl rfl),(5,.gen _ _ _ fun _ _ _ _=>Op.callV (d:=16) (t:=11) (cap:=[]) (args:=[.t (.agg ([cI x1.v]++zi x1.c))]) (rs:=[(15,.t (.agg ([cI x1.v]++zi x1.c)))]) (tys:=#[100]) (hf x1 (List.mem_of_getElem? hx1)) th_2 (OVs.cons (OV.tmp 15 _) (OVs.nil)))] [(0,.t (.c (.own 0 xs.length))),(1,.t (.c (.fn (.func 74) [] []))),(5,vi .i64 (j:Int)),(7,vi .i64 (xs.length:Int)),(8,vi .i64 (j:Int)),(16,vb (pr x1))] [(0,.row 100 3 (xs.map za2.d))] h ?_;clear h;intro a w h
   refine zaa (pr x1) h rfl (fun hc=>?_) (fun hc=>?_)
   ·have hc2:=hc;clear hc
    refine rq za0 1 [] [(0,.t (.c (.own 0 xs.length))),(1,.t (.c (.fn (.func 74) [] []))),(4,vi .i64 (j:Int)),(7,vi .i64 (xs.length:Int)),(8,vi .i64 (j:Int))] [(0,.row 100 3 (xs.map za2.d))] h ?_;clear h;intro a w h
    refine wp_ret (zaf (za9 (za9 (zaf (za9 ?_)))))
    refine zap [.c (cI (j:Int))] h Exit.ret (.inl rfl)  rfl ⟨RV.tmp _ _ rfl,trivial⟩ ?_
    have hz:idxF pr xs 0=(j:Int):=by rw [hI2,idxF_at hx1,if_pos hc2]
    rw [hz];first | done | rfl
   ·have hc3:=hc;clear hc
    refine wp_skip (zac (za4 (rn za0 1 [(0,.add .i64 (m:=(j:Int)) (n:=1) (zad (by omega) (by omega)))] [(0,.t (.c (.own 0 xs.length))),(1,.t (.c (.fn (.func 74) [] []))),(7,vi .i64 (xs.length:Int)),(8,vi .i64 ((j:Int)+1))] [(0,.row 100 3 (xs.map za2.d))] h ?_)));clear h;intro a w h
    refine za4 ?_
    refine zam (x:=j) (y:=j+1) h ?_ ?_
    ·exact ⟨by have:=zak hx1;omega,by rw [hI2,idxF_at hx1,if_neg (by rw [hc3];exact Bool.noConfusion)]⟩
    ·simp;omega
  ·have hc4:=hc;clear hc
   have hc4':=of_decide_eq_false hc4
   refine wp_exit (zai (zai (za8 (za4 (rq za0 1 [] [(4,vi .i64 (-1))] [(0,.row 100 3 (xs.map za2.d))] h ?_)))));clear h;intro a w h
   refine wp_ret ?_
   refine zap [.c (cI (-1))] h Exit.ret (.inl rfl)  rfl ⟨RV.tmp _ _ rfl,trivial⟩ ?_
   have hz:idxF pr xs 0=-1:=by rw [hI2,List.drop_of_length_le (by omega)];rfl
   rw [hz];first | done | rfl
theorem SDeleteFZ (pr:za2→Bool) (xs:List za2) (hf:∀ p ∈ xs,Fn Tryz.prog 74 [] [vd p.d] (vb (pr p)) []) (hl:xs.length≤1000000):Fn Tryz.prog 73 [(0,.row 100 3 (xs.map za2.d))] [.t (.c (.own 0 xs.length)),.t (.c (.fn (.func 74) [] []))] (.t (.c (.own 0 (xs.filter (fun p=>!pr p)).length))) [(0,.row 100 3 ((xs.filter (fun p=>!pr p)).map za2.d))]:=by
 refine Fn.body Tryz.func73 rfl 42 rfl fun w H B a h=>?_
 refine rq za0 1 [] [(0,.t (.c (.own 0 xs.length))),(1,.t (.c (.fn (.func 74) [] []))),(4,.t (.c (.d (.raw za6))))] [(0,.row 100 3 (xs.map za2.d))] h ?_;clear h;intro a w h
 refine rq za0 1 [(2,.call (SIndexFZ pr xs  hf hl) tk_3)] [(0,.t (.c (.own 0 xs.length))),(1,.t (.c (.fn (.func 74) [] []))),(4,.t (.c (.d (.raw za6)))),(5,vi .i64 (idxF pr xs 0))] [(0,.row 100 3 (xs.map za2.d))] h ?_;clear h;intro a w h
 refine wp_seq ?_
 rcases idxF_cases pr xs 0 with ⟨hz,hz2⟩ | ⟨k,x0,hz,hk,hk2,hk3⟩
 ·rw [hz] at h
  refine rq za0 1 [(1,.cmp (op := .eql) (m:=(-1)) (n:=(-1)) (b:=true) .i64 rfl)] [(0,.t (.c (.own 0 xs.length))),(1,.t (.c (.fn (.func 74) [] []))),(4,.t (.c (.d (.raw za6)))),(5,vi .i64 (-1)),(12,vb true)] [(0,.row 100 3 (xs.map za2.d))] h ?_;clear h;intro a w h
  refine zaa true h rfl (fun hc=>?_) (fun hc=>?_)
  ·clear hc
   refine rq za0 1 [] [(0,.t (.c (.own 0 xs.length))),(1,.t (.c (.fn (.func 74) [] []))),(4,.t (.c (.own 0 xs.length))),(5,vi .i64 (-1))] [(0,.row 100 3 (xs.map za2.d))] h ?_;clear h;intro a w h
   refine wp_ret (za9 ?_)
   replace h:=h.conv (f':=F.of [(0,.t (.c (.own 0 xs.length))),(1,.t (.c (.fn (.func 74) [] []))),(4,.t (.c (.own 0 (xs.filter (fun p=>!pr p)).length))),(5,vi .i64 (-1))] [(0,.row 100 3 (xs.map za2.d))]) (by rw [hz2])
   replace h:=h.conv (f':=F.of [(0,.t (.c (.own 0 xs.length))),(1,.t (.c (.fn (.func 74) [] []))),(4,.t (.c (.own 0 (xs.filter (fun p=>!pr p)).length))),(5,vi .i64 (-1))] [(0,.row 100 3 ((xs.filter (fun p=>!pr p)).map za2.d))]) (congrArg (fun (z_:List za2)=>F.of [(0,.t (.c (.own 0 xs.length))),(1,.t (.c (.fn (.func 74) [] []))),(4,.t (.c (.own 0 (xs.filter (fun p=>!pr p)).length))),(5,vi .i64 (-1))] [(0,.row 100 3 (z_.map za2.d))]) (show (xs:List za2)=(xs.filter (fun p=>!pr p)) from hz2.symm))
   refine zap [.c (.own 0 (xs.filter (fun p=>!pr p)).length)] h Exit.ret (.inl rfl)  rfl ⟨RV.tmp _ _ rfl,trivial⟩ ?_
   rfl
  ·cases hc
 ·rw [Nat.zero_add] at hz
  have hkl:=zak hk
  have hf2:((xs.take (k+1)).filter (fun p=>!pr p))=xs.take k:=by rw [List.take_add_one,hk];simp [List.filter_append,hk2,hk3]
  have hf3:((xs.take (k+1)).filter (fun p=>!pr p)).length=k:=by rw [hf2,List.length_take];omega
  rw [hz] at h
  refine rq za0 1 [(1,.cmp (op := .eql) (m:=(k:Int)) (n:=(-1)) (b:=false) .i64 (beq_eq_false_iff_ne.2 (by omega)))] [(0,.t (.c (.own 0 xs.length))),(1,.t (.c (.fn (.func 74) [] []))),(4,.t (.c (.d (.raw za6)))),(5,vi .i64 (k:Int)),(12,vb false)] [(0,.row 100 3 (xs.map za2.d))] h ?_;clear h;intro a w h
  refine zaa false h rfl (fun hc=>?_) (fun hc=>?_)
  ·cases hc
  ·clear hc
   refine wp_skip (za4 (wp_seq (rq za0 1 [(1,.gen _ _ _ fun _ _ _ _=>Op.arith (op := .add) (d:=15) (xt:=3) (yt:=3) (k := .i64) (m:=(k:Int)) (n:=1) (r:=((k+1:Nat):Int)) (OV.tmp 14 _) (OV.const (.int .i64 1) rfl) (.inl ⟨rfl,(by omega)⟩) (zad (by omega) (by omega)))] [(0,.t (.c (.own 0 xs.length))),(1,.t (.c (.fn (.func 74) [] []))),(4,.t (.c (.d (.raw za6)))),(5,vi .i64 (k:Int)),(6,vi .i64 ((k+1:Nat):Int))] [(0,.row 100 3 (xs.map za2.d))] h ?_)));clear h;intro a w h
   refine wp_block ?_
   replace h:=h.conv (f':=F.of [(0,.t (.c (.own 0 xs.length))),(1,.t (.c (.fn (.func 74) [] []))),(4,.t (.c (.d (.raw za6)))),(5,vi .i64 (((xs.take (k+1)).filter (fun p=>!pr p)).length:Int)),(6,vi .i64 ((k+1:Nat):Int))] [(0,.row 100 3 (xs.map za2.d))]) (by rw [hf3])
   replace h:=h.conv (f':=F.of [(0,.t (.c (.own 0 xs.length))),(1,.t (.c (.fn (.func 74) [] []))),(4,.t (.c (.d (.raw za6)))),(5,vi .i64 (((xs.take (k+1)).filter (fun p=>!pr p)).length:Int)),(6,vi .i64 ((k+1:Nat):Int))] [(0,.row 100 3 ((((xs.take (k+1)).filter (fun p=>!pr p))++[x0]++xs.drop (k+1)).map za2.d))]) (congrArg (fun (z_:List za2)=>F.of [(0,.t (.c (.own 0 xs.length))),(1,.t (.c (.fn (.func 74) [] []))),(4,.t (.c (.d (.raw za6)))),(5,vi .i64 (((xs.take (k+1)).filter (fun p=>!pr p)).length:Int)),(6,vi .i64 ((k+1:Nat):Int))] [(0,.row 100 3 (z_.map za2.d))]) (show (xs:List za2)=(((xs.take (k+1)).filter (fun p=>!pr p))++[x0]++xs.drop (k+1)) from by rw [hf2];obtain ⟨g1,g2⟩:=List.getElem?_eq_some_iff.1 hk;subst g2;simp))
   refine zb1 (ι:=(Nat) × (List za2)) (fun (z_:(Nat) × (List za2))=>match z_ with | (j,G)=>j≤xs.length∧((xs.take j).filter (fun p=>!pr p)).length+G.length=j∧0<G.length)
     (fun (z_:(Nat) × (List za2))=>match z_ with | (j,G)=>[(0,.t (.c (.own 0 xs.length))),(1,.t (.c (.fn (.func 74) [] []))),(4,.t (.c (.d (.raw za6)))),(5,vi .i64 (((xs.take j).filter (fun p=>!pr p)).length:Int)),(6,vi .i64 (j:Int))])
     (fun (z_:(Nat) × (List za2))=>match z_ with | (j,G)=>[(0,.row 100 3 ((((xs.take j).filter (fun p=>!pr p))++G++xs.drop j).map za2.d))])
     (fun (z_:(Nat) × (List za2))=>match z_ with | (j,G)=>xs.length - j) ((k+1),[x0]) ?_ h (by kernel_rfl) (by kernel_rfl) ?_
   ·exact ⟨by omega,by rw [hf3];rfl,Nat.one_pos⟩
   ·clear h;rintro ⟨j,G⟩ a w hI h
    change St _ (F.of [(0,.t (.c (.own 0 xs.length))),(1,.t (.c (.fn (.func 74) [] []))),(4,.t (.c (.d (.raw za6)))),(5,vi .i64 (((xs.take j).filter (fun p=>!pr p)).length:Int)),(6,vi .i64 (j:Int))] [(0,.row 100 3 ((((xs.take j).filter (fun p=>!pr p))++G++xs.drop j).map za2.d))]) a w at h
    obtain ⟨hI1,hI2,hI3⟩:=hI
    have hrl:(((xs.take j).filter (fun p=>!pr p))++G++xs.drop j).length=xs.length:=by simp only [List.length_append,List.length_drop];omega
    refine wp_seq (rq za0 1 [] [(0,.t (.c (.own 0 xs.length))),(1,.t (.c (.fn (.func 74) [] []))),(4,.t (.c (.d (.raw za6)))),(5,vi .i64 (((xs.take j).filter (fun p=>!pr p)).length:Int)),(6,vi .i64 (j:Int)),(19,vb (decide ((j:Int)<(xs.length:Int))))] [(0,.row 100 3 ((((xs.take j).filter (fun p=>!pr p))++G++xs.drop j).map za2.d))] h ?_);clear h;intro a w h
    refine zaa (decide ((j:Int)<(xs.length:Int))) h rfl (fun hc=>?_) (fun hc=>?_)
    ·have hc1:=hc;clear hc
     have hc1':=of_decide_eq_true hc1
     refine wp_skip (za4 (wp_seq (wp_block ?_)))
     obtain ⟨x,hx⟩:∃ z_:za2,xs[j]?=some z_:=⟨_,List.getElem?_eq_getElem (by omega)⟩
     refine rq za0 1 [(2,.gen _ _ _ fun _ _ _ _=>Op.idxO (d:=24) (t:=22) (k := .i64) (n:=0) (len:=xs.length) (i:=j) zc0 (by first | omega | (simp at *;omega)) (OV.tmp 23 _)),(3,.gen _ _ _ fun _ _ _ _=>Op.loadR_agg (d:=25) (t:=24) (n:=0) (i:=j) (fo:=0) (rty:=100) (es:=3) (xs:=[.raw (.int .i64 x.v),.raw (.bool x.c.neg),nsl x.c.abs]) zfg rfl (zal (show ((((xs.take j).filter (fun p=>!pr p))++G++xs.drop j):List za2)[j]?=some x from del_at (pr:=pr) hI2 hx) (f:=za2.d)) rfl rfl)] [(0,.t (.c (.own 0 xs.length))),(1,.t (.c (.fn (.func 74) [] []))),(4,.t (.c (.d (.raw za6)))),(5,vi .i64 (((xs.take j).filter (fun p=>!pr p)).length:Int)),(6,vi .i64 (j:Int)),(7,vp 1 0)] [(0,.row 100 3 ((((xs.take j).filter (fun p=>!pr p))++G++xs.drop j).map za2.d)),(1,.box ([.d (.raw (.int .i64 x.v))]++zi x.c))] h ?_;clear h;intro a w h
     refine rq za0 2 [(2,.gen _ _ _ fun _ _ _ _=>Op.callV (d:=28) (t:=26) (cap:=[]) (args:=[.t (.agg ([.d (.raw (.int .i64 x.v))]++zi x.c))]) (rs:=[(27,.t (.agg ([.d (.raw (.int .i64 x.v))]++zi x.c)))]) (tys:=#[100]) (hf x (List.mem_of_getElem? hx)) th_2 (OVs.cons (OV.tmp 27 _) (OVs.nil)))] [(0,.t (.c (.own 0 xs.length))),(1,.t (.c (.fn (.func 74) [] []))),(4,.t (.c (.d (.raw za6)))),(5,vi .i64 (((xs.take j).filter (fun p=>!pr p)).length:Int)),(6,vi .i64 (j:Int)),(7,vp 1 0),(29,vb (!(pr x)))] [(0,.row 100 3 ((((xs.take j).filter (fun p=>!pr p))++G++xs.drop j).map za2.d)),(1,.box ([.d (.raw (.int .i64 x.v))]++zi x.c))] h ?_;clear h;intro a w h
     refine zaa (!(pr x)) h rfl (fun hc=>?_) (fun hc=>?_)
     ·have hc2:=hc;clear hc
      have hc2':=hc2;(try simp at hc2')
      obtain ⟨x3,hx3⟩:∃ z_:za2,(((xs.take j).filter (fun p=>!pr p))++G++xs.drop j)[((xs.take j).filter (fun p=>!pr p)).length]?=some z_:=⟨_,List.getElem?_eq_getElem (by first | omega | (simp at *;omega))⟩
      refine rq za0 2 [(3,.gen _ _ _ fun _ _ _ _=>Op.idxO (d:=33) (t:=30) (k := .i64) (n:=0) (len:=xs.length) (i:=((xs.take j).filter (fun p=>!pr p)).length) zc0 (by first | omega | (simp at *;omega)) (OV.tmp 31 _)),(4,.gen _ _ _ fun _ _ _ _=>Op.storeR (t:=33) (n:=0) (i:=((xs.take j).filter (fun p=>!pr p)).length) (fo:=0) (rty:=100) (es:=3) (r:=za2.d x3) (ds:=[.raw (.int .i64 x.v),.raw (.bool x.c.neg),nsl x.c.abs]) (rs:=[(32,.t (.agg ([.d (.raw (.int .i64 x.v))]++zi x.c)))]) (rows:=(((xs.take j).filter (fun p=>!pr p))++G++xs.drop j).map za2.d) (rows':=((((xs.take j).filter (fun p=>!pr p))++G++xs.drop j).set ((xs.take j).filter (fun p=>!pr p)).length x).map za2.d) zfg (OV.tmp 32 _) rfl rfl rfl (zal hx3 (f:=za2.d)) (by simp [za2.d]) (zck (xs:=(((xs.take j).filter (fun p=>!pr p))++G++xs.drop j)) (F:=za2.d) ((xs.take j).filter (fun p=>!pr p)).length _ _ rfl))] [(0,.t (.c (.own 0 xs.length))),(1,.t (.c (.fn (.func 74) [] []))),(4,.t (.c (.d (.raw za6)))),(5,vi .i64 (((xs.take j).filter (fun p=>!pr p)).length:Int)),(6,vi .i64 (j:Int))] [(0,.row 100 3 (((((xs.take j).filter (fun p=>!pr p))++G++xs.drop j).set ((xs.take j).filter (fun p=>!pr p)).length x).map za2.d))] h ?_;clear h;intro a w h
      refine rn za0 2 [(1,.gen _ _ _ fun _ _ _ _=>Op.arith (op := .add) (d:=35) (xt:=3) (yt:=3) (k := .i64) (m:=(((xs.take j).filter (fun p=>!pr p)).length:Int)) (n:=1) (r:=((((xs.take j).filter (fun p=>!pr p)).length+1:Nat):Int)) (OV.tmp 34 _) (OV.const (.int .i64 1) rfl) (.inl ⟨rfl,(by omega)⟩) (zad (by omega) (by omega)))] [(0,.t (.c (.own 0 xs.length))),(1,.t (.c (.fn (.func 74) [] []))),(4,.t (.c (.d (.raw za6)))),(5,vi .i64 ((((xs.take j).filter (fun p=>!pr p)).length+1:Nat):Int)),(6,vi .i64 (j:Int))] [(0,.row 100 3 (((((xs.take j).filter (fun p=>!pr p))++G++xs.drop j).set ((xs.take j).filter (fun p=>!pr p)).length x).map za2.d))] h ?_;clear h;intro a w h
      refine zac (za4 (rn za0 2 [(1,.add .i64 (m:=(j:Int)) (n:=1) (zad (by omega) (by omega)))] [(0,.t (.c (.own 0 xs.length))),(1,.t (.c (.fn (.func 74) [] []))),(4,.t (.c (.d (.raw za6)))),(5,vi .i64 ((((xs.take j).filter (fun p=>!pr p)).length+1:Nat):Int)),(6,vi .i64 ((j:Int)+1))] [(0,.row 100 3 (((((xs.take j).filter (fun p=>!pr p))++G++xs.drop j).set ((xs.take j).filter (fun p=>!pr p)).length x).map za2.d))] h ?_));clear h;intro a w h
      refine za4 ?_
      have hp:pr x=false:=(by simpa using hc2)
      replace h:=h.conv (f':=F.of [(0,.t (.c (.own 0 xs.length))),(1,.t (.c (.fn (.func 74) [] []))),(4,.t (.c (.d (.raw za6)))),(5,vi .i64 (((xs.take (j+1)).filter (fun p=>!pr p)).length:Int)),(6,vi .i64 ((j:Int)+1))] [(0,.row 100 3 (((((xs.take j).filter (fun p=>!pr p))++G++xs.drop j).set ((xs.take j).filter (fun p=>!pr p)).length x).map za2.d))]) (by rw [← filt_len hx hp])
      replace h:=h.conv (f':=F.of [(0,.t (.c (.own 0 xs.length))),(1,.t (.c (.fn (.func 74) [] []))),(4,.t (.c (.d (.raw za6)))),(5,vi .i64 (((xs.take (j+1)).filter (fun p=>!pr p)).length:Int)),(6,vi .i64 ((j:Int)+1))] [(0,.row 100 3 ((((xs.take (j+1)).filter (fun p=>!pr p))++(G.tail++[x])++xs.drop (j+1)).map za2.d))]) (congrArg (fun (z_:List za2)=>F.of [(0,.t (.c (.own 0 xs.length))),(1,.t (.c (.fn (.func 74) [] []))),(4,.t (.c (.d (.raw za6)))),(5,vi .i64 (((xs.take (j+1)).filter (fun p=>!pr p)).length:Int)),(6,vi .i64 ((j:Int)+1))] [(0,.row 100 3 (z_.map za2.d))]) (show (((((xs.take j).filter (fun p=>!pr p))++G++xs.drop j).set ((xs.take j).filter (fun p=>!pr p)).length x):List za2)=(((xs.take (j+1)).filter (fun p=>!pr p))++(G.tail++[x])++xs.drop (j+1)) from del_keep hx hp hI3))
      refine zam (x:=(j,G)) (y:=((j+1),(G.tail++[x]))) h ?_ ?_
      ·exact ⟨by have:=zak hx;omega,by rw [← filt_len hx hp,List.length_append,List.length_tail];simp only [List.length_cons,List.length_nil];omega,by rw [List.length_append];simp only [List.length_cons,List.length_nil];omega⟩
      ·show xs.length - (j+1)<xs.length - j
       have:=zak hx;omega
     ·have hc3:=hc;clear hc
      have hc3':=hc3;(try simp at hc3')
      refine wp_skip (zac (za4 (rn za0 2 [(1,.add .i64 (m:=(j:Int)) (n:=1) (zad (by omega) (by omega)))] [(0,.t (.c (.own 0 xs.length))),(1,.t (.c (.fn (.func 74) [] []))),(4,.t (.c (.d (.raw za6)))),(5,vi .i64 (((xs.take j).filter (fun p=>!pr p)).length:Int)),(6,vi .i64 ((j:Int)+1))] [(0,.row 100 3 ((((xs.take j).filter (fun p=>!pr p))++G++xs.drop j).map za2.d))] h ?_)));clear h;intro a w h
      refine za4 ?_
      have hp:pr x=true:=(by simpa using hc3)
      replace h:=h.conv (f':=F.of [(0,.t (.c (.own 0 xs.length))),(1,.t (.c (.fn (.func 74) [] []))),(4,.t (.c (.d (.raw za6)))),(5,vi .i64 (((xs.take (j+1)).filter (fun p=>!pr p)).length:Int)),(6,vi .i64 ((j:Int)+1))] [(0,.row 100 3 ((((xs.take j).filter (fun p=>!pr p))++G++xs.drop j).map za2.d))]) (by rw [← filt_len0 hx hp])
      replace h:=h.conv (f':=F.of [(0,.t (.c (.own 0 xs.length))),(1,.t (.c (.fn (.func 74) [] []))),(4,.t (.c (.d (.raw za6)))),(5,vi .i64 (((xs.take (j+1)).filter (fun p=>!pr p)).length:Int)),(6,vi .i64 ((j:Int)+1))] [(0,.row 100 3 ((((xs.take (j+1)).filter (fun p=>!pr p))++(G++[x])++xs.drop (j+1)).map za2.d))]) (congrArg (fun (z_:List za2)=>F.of [(0,.t (.c (.own 0 xs.length))),(1,.t (.c (.fn (.func 74) [] []))),(4,.t (.c (.d (.raw za6)))),(5,vi .i64 (((xs.take (j+1)).filter (fun p=>!pr p)).length:Int)),(6,vi .i64 ((j:Int)+1))] [(0,.row 100 3 (z_.map za2.d))]) (show ((((xs.take j).filter (fun p=>!pr p))++G++xs.drop j):List za2)=(((xs.take (j+1)).filter (fun p=>!pr p))++(G++[x])++xs.drop (j+1)) from del_skip hx hp))
      refine zam (x:=(j,G)) (y:=((j+1),(G++[x]))) h ?_ ?_
      ·exact ⟨by have:=zak hx;omega,by rw [← filt_len0 hx hp,List.length_append];simp only [List.length_cons,List.length_nil];omega,by rw [List.length_append];simp only [List.length_cons,List.length_nil];omega⟩
      ·show xs.length - (j+1)<xs.length - j
       have:=zak hx;omega
    ·have hc4:=hc;clear hc
     have hc4':=of_decide_eq_false hc4
     refine wp_exit (zai (zai (za8 (za4 ?_))))
     have hj:j=xs.length:=by omega
     have hF:((xs.take j).filter (fun p=>!pr p))=(xs.filter (fun p=>!pr p)):=by rw [hj,List.take_length]
     refine rq za0 2 [(2,.gen _ _ _ fun _ _ _ _=>Op.sliceLo (d:=38) (t:=36) (k := .i64) (n:=0) (len:=xs.length) (l:=((xs.take j).filter (fun p=>!pr p)).length) (rows:=(((xs.take j).filter (fun p=>!pr p))++G++xs.drop j).map za2.d) (rty:=100) zc0 (by first | omega | (simp only [List.length_map,List.length_append,List.length_drop];omega)) (OV.tmp 37 _) (by first | omega | (simp at *;omega)) rfl),(3,.gen _ _ _ fun _ _ _ _=>Op.clearCut' (rows':=((xs.take j).filter (fun p=>!pr p)).map za2.d) (o:=none) (t:=38) (n:=0) (off:=((xs.take j).filter (fun p=>!pr p)).length*3) (len:=(xs.length - ((xs.take j).filter (fun p=>!pr p)).length)) (l:=((xs.take j).filter (fun p=>!pr p)).length) (es:=3) (rows:=(((xs.take j).filter (fun p=>!pr p))++G++xs.drop j).map za2.d) (rty:=100) (zs:=[.d (.raw (.int .i64 0)),.d (.raw (.bool false)),.d (nsl [])]) zc0.hu tk_4 rfl rfl (by first | omega | (simp only [List.length_map,List.length_append,List.length_drop];omega)) _ rfl (by simp [List.map_append]))] [(0,.t (.c (.own 0 xs.length))),(4,.t (.c (.d (.raw za6)))),(5,vi .i64 (((xs.take j).filter (fun p=>!pr p)).length:Int))] [(0,.row 100 3 (((xs.take j).filter (fun p=>!pr p)).map za2.d))] h ?_;clear h;intro a w h
     refine rq za0 2 [(2,.gen _ _ _ fun _ _ _ _=>Op.sliceHi (d:=41) (t:=39) (k := .i64) (n:=0) (len:=xs.length) (h:=((xs.take j).filter (fun p=>!pr p)).length) (rows:=((xs.take j).filter (fun p=>!pr p)).map za2.d) (rty:=100) zc0 (by first | omega | (simp only [List.length_map];omega)) (OV.tmp 40 _))] [(4,.t (.c (.own 0 ((xs.take j).filter (fun p=>!pr p)).length)))] [(0,.row 100 3 (((xs.take j).filter (fun p=>!pr p)).map za2.d))] h ?_;clear h;intro a w h
     refine wp_ret ?_
     replace h:=h.conv (f':=F.of [(4,.t (.c (.own 0 (xs.filter (fun p=>!pr p)).length)))] [(0,.row 100 3 (((xs.take j).filter (fun p=>!pr p)).map za2.d))]) (by rw [hF])
     replace h:=h.conv (f':=F.of [(4,.t (.c (.own 0 (xs.filter (fun p=>!pr p)).length)))] [(0,.row 100 3 ((xs.filter (fun p=>!pr p)).map za2.d))]) (congrArg (fun (z_:List za2)=>F.of [(4,.t (.c (.own 0 (xs.filter (fun p=>!pr p)).length)))] [(0,.row 100 3 (z_.map za2.d))]) (show (((xs.take j).filter (fun p=>!pr p)):List za2)=(xs.filter (fun p=>!pr p)) from hF))
     refine zap [.c (.own 0 (xs.filter (fun p=>!pr p)).length)] h Exit.ret (.inl rfl)  rfl ⟨RV.tmp _ _ rfl,trivial⟩ ?_
     rfl
end
section
def zay (out:List za2) (p:za2):List za2 :=
  if p.v<0 then out else match out[out.length - 1]? with
    | some q=>if q.v=p.v then out.set (out.length - 1) ⟨q.v,ZI.of (q.c.val+p.c.val)⟩ else out++[⟨p.v,ZI.of p.c.val⟩]
    | none=>out++[⟨p.v,ZI.of p.c.val⟩]
def zf7 (s:List za2):List za2:=s.foldl zay []
theorem zbl (s:List za2) (p:za2):zf7 (s++[p])=zay (zf7 s) p:=by simp [zf7,List.foldl_append]
theorem mrg_neg {out:List za2} {p:za2} (h:p.v<0):zay out p=out:=by simp [zay,h]
theorem mrg_nil {out:List za2} {p:za2} (h:¬ p.v<0) (h0:out.length=0):zay out p=out++[⟨p.v,ZI.of p.c.val⟩]:=by
 rw [zgh h0];simp [zay,h]
theorem zfy {out:List za2} {p q:za2} {k:Nat} (h:¬ p.v<0) (hk:out.length=k+1) (hq:out[k]?=some q) (hv:q.v=p.v):zay out p=out.set k ⟨q.v,ZI.of (q.c.val+p.c.val)⟩:=by
 have:out.length - 1=k:=by omega
 simp only [zay,this,hq,if_neg h,if_pos hv]
theorem mrg_new {out:List za2} {p q:za2} {k:Nat} (h:¬ p.v<0) (hk:out.length=k+1) (hq:out[k]?=some q) (hv:¬ q.v=p.v):zay out p=out++[⟨p.v,ZI.of p.c.val⟩]:=by
 have:out.length - 1=k:=by omega
 simp only [zay,this,hq,if_neg h,if_neg hv]
def MOk (L j:Nat) (out:List za2):Prop:=∀ q ∈ out,q.c=ZI.of q.c.val∧q.c.val.natAbs≤j*pw L
theorem MOk.lb {L j:Nat} {out:List za2} (h:MOk L j out) {q:za2} (hq:q ∈ out) (hj:j≤1000):Lb q.c.abs∧q.c.abs.length≤L+1:=by
 obtain ⟨h1,h2⟩:=h q hq
 rw [h1]
 refine ⟨ZI.lb_of _,ZI.len_of ?_⟩
 have h3:j*pw L≤1000*pw L:=Nat.mul_le_mul_right _ hj
 have h4:=zec L
 rw [zau];omega
theorem MOk.step {L j:Nat} {out:List za2} {p:za2} (h:MOk L j out) (hp:Lb p.c.abs∧p.c.abs.length≤L):MOk L (j+1) (zay out p):=by
 have hp2:p.c.val.natAbs≤pw L:=by
  have h3:=ZI.abs_lt hp.1
  have h4:=zd6 hp.2
  omega
 have up:∀ q ∈ out,q.c=ZI.of q.c.val∧q.c.val.natAbs≤(j+1)*pw L:=fun q hq=>⟨(h q hq).1,Nat.le_trans (h q hq).2 (Nat.mul_le_mul_right _ (Nat.le_succ j))⟩
 have new:∀ q ∈ out++[(⟨p.v,ZI.of p.c.val⟩:za2)],q.c=ZI.of q.c.val∧q.c.val.natAbs≤(j+1)*pw L:=by
  intro q hq
  rcases List.mem_append.1 hq with hq | hq
  ·exact up q hq
  ·rw [List.mem_singleton.1 hq]
   refine ⟨by rw [ZI.val_of],?_⟩
   show (ZI.of p.c.val).val.natAbs≤_
   rw [ZI.val_of,Nat.add_mul];omega
 intro q hq
 by_cases h1:p.v<0
 ·rw [mrg_neg h1] at hq;exact up q hq
 rcases Nat.eq_zero_or_pos out.length with h0 | h0
 ·rw [mrg_nil h1 h0] at hq;exact new q hq
 obtain ⟨k,hk⟩:∃ k,out.length=k+1:=⟨out.length - 1,by omega⟩
 have hk2:out[k]?=some (out[k]'(by omega)):=List.getElem?_eq_getElem _
 by_cases hv:(out[k]'(by omega)).v=p.v
 ·rw [zfy h1 hk hk2 hv] at hq
  rcases List.mem_or_eq_of_mem_set hq with hq | rfl
  ·exact up q hq
  ·have:=(h _ (List.mem_of_getElem? hk2)).2
   refine ⟨by rw [ZI.val_of],?_⟩
   show (ZI.of _).val.natAbs≤_
   rw [ZI.val_of,Nat.add_mul];omega
 ·rw [mrg_new h1 hk hk2 hv] at hq;exact new q hq

abbrev SR (l:List za2):Prop:=l.Pairwise fun p q=>p.v<q.v
theorem zgn {l:List za2} {v:Int} (h:∀ q ∈ l,q.v≠v):zav l v=0:=by
 induction l with
 | nil=>rfl
 | cons q l ih=>simp only [zav];rw [ih fun x hx=>h x (by simp [hx]),if_neg fun e=>h q (by simp) e.1];rfl
theorem zer (p:za2) (v:Int):zav [p] v=if p.v=v∧0≤v then p.c.val else 0:=by simp [zav]
theorem zgz (l:List za2) (v:Int):zav (l.filter fun p=>decide (p.v=v)) v=zav l v:=by
 induction l with
 | nil=>rfl
 | cons p l ih =>
  by_cases h:p.v=v
  ·simp only [List.filter_cons,h,decide_true,if_true,zav,ih]
  ·simp only [List.filter_cons,h,decide_false,Bool.false_eq_true,if_false,zav,ih,false_and,Int.zero_add]
theorem coefZ_stb {xs ys:List za2} (h:Stb za2.v xs ys) (v:Int):zav xs v=zav ys v:=by
 rw [← zgz xs,← zgz ys,h v]
theorem coefZ_nz (l:List za2) (v:Int):zav (l.filter fun p=>!isZ p) v=zav l v:=by
 induction l with
 | nil=>rfl
 | cons p l ih =>
  cases h:isZ p with
  | true =>
   have h0:p.c.val=0:=by simp only [isZ] at h;exact sgn0_t h
   simp only [List.filter_cons,h,Bool.not_true,Bool.false_eq_true,if_false,zav,ih,h0]
   split <;> omega
  | false=>simp only [List.filter_cons,h,Bool.not_false,if_true,zav,ih]
theorem SR.head {p:za2} {l:List za2} (s:SR (p :: l)) (h0:0≤p.v):zav (p :: l) p.v=p.c.val:=by
 rw [zav,if_pos ⟨rfl,h0⟩,zgn (fun q hq=>by have:=(List.pairwise_cons.1 s).1 q hq;omega),Int.add_zero]
theorem SR.below {p:za2} {l:List za2} {v:Int} (s:SR (p :: l)) (hv:v<p.v):zav (p :: l) v=0:=by
 refine zgn fun q hq=>?_
 rcases List.mem_cons.1 hq with rfl | hq
 ·omega
 ·have:=(List.pairwise_cons.1 s).1 q hq;omega
theorem SR.unique:∀ {l m:List za2}, SR l→SR m→(∀ q ∈ l,0≤q.v∧q.c=ZI.of q.c.val∧q.c.val≠0)→(∀ q ∈ m,0≤q.v∧q.c=ZI.of q.c.val∧q.c.val≠0)→(∀ v,zav l v=zav m v)→l=m
 | [],[],_,_,_,_,_=>rfl
 | p :: l,[],s1,_,h1,_,h=>by
  have e:=h p.v
  rw [s1.head (h1 p (by simp)).1] at e
  exact absurd e (h1 p (by simp)).2.2
 | [],q :: m,_,s2,_,h2,h=>by
  have e:=h q.v
  rw [s2.head (h2 q (by simp)).1] at e
  exact absurd e.symm (h2 q (by simp)).2.2
 | p :: l,q :: m,s1,s2,h1,h2,h=>by
  obtain ⟨p0,p1,p2⟩:=h1 p (by simp)
  obtain ⟨q0,q1,q2⟩:=h2 q (by simp)
  rcases Int.lt_trichotomy p.v q.v with hv | hv | hv
  ·have e:=h p.v
   rw [s1.head p0,s2.below hv] at e
   exact absurd e p2
  ·have e:=h p.v
   rw [s1.head p0,hv,s2.head q0] at e
   have epq:p=q:=by
    cases p;cases q
    simp only at hv e p1 q1
    subst hv
    rw [p1,q1,e]
   subst epq
   rw [SR.unique (List.pairwise_cons.1 s1).2 (List.pairwise_cons.1 s2).2 (fun x hx=>h1 x (by simp [hx])) (fun x hx=>h2 x (by simp [hx])) fun v=>by
    have:=h v
    simp only [zav] at this
    omega]
  ·have e:=h q.v
   rw [s2.head q0,s1.below hv] at e
   exact absurd e.symm q2
theorem SR.last {o:List za2} {q:za2} (h:SR (o++[q])):∀ x ∈ o,x.v<q.v:=fun x hx=>(List.pairwise_append.1 h).2.2 x hx q (by simp)
theorem mrgZ_ok (s:List za2):Ris za2.v s→SR (zf7 s)∧(∀ q ∈ zf7 s,0≤q.v∧q.c=ZI.of q.c.val∧∃ x ∈ s,x.v=q.v)∧∀ v,zav (zf7 s) v=zav s v:=by
 refine rev_ind (P:=fun s=>Ris za2.v s→SR (zf7 s)∧(∀ q ∈ zf7 s,0≤q.v∧q.c=ZI.of q.c.val∧∃ x ∈ s,x.v=q.v)∧∀ v,zav (zf7 s) v=zav s v) ?_ ?_ s
 ·intro _
  exact ⟨List.Pairwise.nil,fun q hq=>(by cases hq),fun v=>rfl⟩
 ·intro s p ih hR
  obtain ⟨r1,r2,r3⟩:=Ris.app.1 hR
  obtain ⟨i1,i2,i3⟩:=ih r1
  rw [zbl]
  have old:∀ q ∈ zf7 s,0≤q.v∧q.c=ZI.of q.c.val∧∃ x ∈ s++[p],x.v=q.v:=fun q hq=>by
   obtain ⟨h1,h2,x,h3,h4⟩:=i2 q hq
   exact ⟨h1,h2,x,by simp [h3],h4⟩
  have le:∀ q ∈ zf7 s,q.v≤p.v:=fun q hq=>by
   obtain ⟨_,_,x,h3,h4⟩:=i2 q hq
   have:=r3 x h3 p (by simp);omega
  have cs:∀ v,zav (s++[p]) v=zav (zf7 s) v+if p.v=v∧0≤v then p.c.val else 0:=fun v=>by rw [zes,zer,i3 v]
  by_cases hn:p.v<0
  ·rw [mrg_neg hn]
   exact ⟨i1,old,fun v=>by rw [cs v,if_neg (by omega),Int.add_zero]⟩
  rcases snoc_or (zf7 s) with h0 | ⟨o,q,ho⟩
  ·rw [mrg_nil hn (by rw [h0];rfl),h0,List.nil_append]
   refine ⟨List.pairwise_singleton _ _,fun q hq=>?_,fun v=>?_⟩
   ·rw [List.mem_singleton.1 hq]
    exact ⟨by show 0≤p.v;omega,by rw [ZI.val_of],p,by simp,rfl⟩
   ·rw [cs v,h0,zer];simp [zav,ZI.val_of]
  ·rw [ho] at i1 old le cs ⊢
   have hk:(o++[q]).length=o.length+1:=by simp
   have hq:(o++[q])[o.length]?=some q:=by simp
   have lq:=le q (by simp)
   by_cases hv:q.v=p.v
   ·rw [zfy hn hk hq hv,show (o++[q]).set o.length ⟨q.v,ZI.of (q.c.val+p.c.val)⟩=o++[⟨q.v,ZI.of (q.c.val+p.c.val)⟩] by simp [List.set_append_right]]
    obtain ⟨j1,j2,j3⟩:=List.pairwise_append.1 i1
    refine ⟨List.pairwise_append.2 ⟨j1,List.pairwise_singleton _ _,fun a ha b hb=>?_⟩,fun x hx=>?_,fun v=>?_⟩
    ·rw [List.mem_singleton.1 hb];exact i1.last a ha
    ·rcases List.mem_append.1 hx with hx | hx
     ·exact old x (by simp [hx])
     ·rw [List.mem_singleton.1 hx]
      exact ⟨by show 0≤q.v;omega,by rw [ZI.val_of],p,by simp,hv.symm⟩
    ·rw [cs v,zes,zes,zer,zer]
     simp only [ZI.val_of,hv]
     split <;> omega
   ·rw [mrg_new hn hk hq hv]
    refine ⟨List.pairwise_append.2 ⟨i1,List.pairwise_singleton _ _,fun a ha b hb=>?_⟩,fun x hx=>?_,fun v=>?_⟩
    ·rw [List.mem_singleton.1 hb]
     show a.v<p.v
     rcases List.mem_append.1 ha with ha | ha
     ·have:=i1.last a ha;omega
     ·rw [List.mem_singleton.1 ha];omega
    ·rcases List.mem_append.1 hx with hx | hx
     ·exact old x hx
     ·rw [List.mem_singleton.1 hx]
      exact ⟨by show 0≤p.v;omega,by rw [ZI.val_of],p,by simp,rfl⟩
    ·rw [cs v,zes,zer]
     simp only [ZI.val_of]
def insR (v:Int):List Int→List Int
  | []=>[v]
  | x :: l=>if v≤x then v :: (x :: l).filter (fun y=>decide (y≠v)) else x :: insR v l
theorem zhj (v:Int):∀ (l acc:List Int),l.foldl (zbt v) (acc,true)=(acc++l.filter (fun y=>decide (y≠v)),true)
 | [],acc=>by simp
 | x :: l,acc=>by
  have e:zbt v (acc,true) x=(if x≠v then (acc++[x],true) else (acc,true)):=by simp [zbt]
  rw [List.foldl_cons,e]
  by_cases h:x=v
  ·rw [if_neg (fun g=>g h),zhj v l acc];simp [h]
  ·rw [if_pos h,zhj v l (acc++[x])];simp [h]
theorem insZ_R (v:Int):∀ (l acc:List Int),(if (l.foldl (zbt v) (acc,false)).2=true then (l.foldl (zbt v) (acc,false)).1 else (l.foldl (zbt v) (acc,false)).1++[v])=acc++insR v l
 | [],acc=>by simp [insR]
 | x :: l,acc=>by
  rw [List.foldl_cons]
  by_cases h:v≤x
  ·have e:zbt v (acc,false) x=(if x≠v then (acc++[v]++[x],true) else (acc++[v],true)):=by simp [zbt,h]
   by_cases h2:x=v
   ·rw [if_neg (fun g=>g h2)] at e
    rw [e,zhj];simp [insR,h2]
   ·rw [if_pos h2] at e
    rw [e,zhj];simp [insR,h,h2]
  ·have h2:x≠v:=by omega
   have e:zbt v (acc,false) x=(acc++[x],false):=by simp [zbt,h,h2]
   rw [e,insZ_R v l (acc++[x])]
   simp [insR,h]
theorem insZ_eq (l:List Int) (v:Int):insZ l v=insR v l:=by have:=insZ_R v l [];simpa [insZ] using this
abbrev SRi (l:List Int):Prop:=l.Pairwise fun x y=>x<y
theorem insR_mem (v x:Int):∀ l:List Int,x ∈ insR v l ↔ x=v∨x ∈ l
 | []=>by simp [insR]
 | y :: l=>by
  simp only [insR]
  split
  ·simp only [List.mem_cons,List.mem_filter,decide_eq_true_eq]
   by_cases h:x=v <;> simp [h]
  ·simp only [List.mem_cons,insR_mem v x l]
   constructor
   ·rintro (h | h | h) <;> simp [h]
   ·rintro (h | h | h) <;> simp [h]
theorem insR_sr (v:Int):∀ {l:List Int}, SRi l→SRi (insR v l)
 | [],_=>by simp [insR]
 | y :: l,h=>by
  obtain ⟨h1,h2⟩:=List.pairwise_cons.1 h
  simp only [insR]
  split
  ·rename_i hv
   refine List.pairwise_cons.2 ⟨fun z hz=>?_,h.filter _⟩
   obtain ⟨hz1,hz2⟩:=List.mem_filter.1 hz
   have hz2:z≠v:=by simpa using hz2
   rcases List.mem_cons.1 hz1 with rfl | hz1
   ·omega
   ·have:=h1 z hz1;omega
  ·refine List.pairwise_cons.2 ⟨fun z hz=>?_,insR_sr v h2⟩
   rcases (insR_mem v z l).1 hz with rfl | hz
   ·omega
   ·exact h1 z hz
theorem varsFold (ps:List za2):∀ (qs:List za2) (out:List Int),SRi out→SRi (qs.foldl (zd3 ps) out)∧∀ x,x ∈ qs.foldl (zd3 ps) out ↔ x ∈ out∨∃ q ∈ qs,q.v=x∧zav ps x≠0
 | [],out,h=>⟨h,fun x=>by simp⟩
 | q :: qs,out,h=>by
  have h1:SRi (zd3 ps out q):=by
   unfold zd3
   split
   ·rw [insZ_eq];exact insR_sr _ h
   ·exact h
  obtain ⟨i1,i2⟩:=varsFold ps qs _ h1
  refine ⟨i1,fun x=>?_⟩
  rw [List.foldl_cons,i2 x]
  have h2:x ∈ zd3 ps out q ↔ x ∈ out∨(q.v=x∧zav ps x≠0):=by
   unfold zd3
   split
   ·rename_i hc
    rw [insZ_eq,insR_mem]
    constructor
    ·rintro (rfl | h)
     ·exact .inr ⟨rfl,hc⟩
     ·exact .inl h
    ·rintro (h | ⟨rfl,_⟩)
     ·exact .inr h
     ·exact .inl rfl
   ·rename_i hc
    constructor
    ·exact .inl
    ·rintro (h | ⟨rfl,h⟩)
     ·exact h
     ·exact absurd h hc
  rw [h2]
  constructor
  ·rintro ((h | h) | ⟨p,hp,h⟩)
   ·exact .inl h
   ·exact .inr ⟨q,by simp,h⟩
   ·exact .inr ⟨p,by simp [hp],h⟩
  ·rintro (h | ⟨p,hp,h⟩)
   ·exact .inl (.inl h)
   ·rcases List.mem_cons.1 hp with rfl | hp
    ·exact .inl (.inr h)
    ·exact .inr ⟨p,hp,h⟩
theorem zbs {ps:List za2} {v:Int} (h:zav ps v≠0):0≤v∧∃ q ∈ ps,q.v=v:=by
 refine ⟨Int.not_lt.1 fun hv=>h ?_,?_⟩
 ·induction ps with
  | nil=>rfl
  | cons p ps ih =>
   simp only [zav] at h ⊢
   rw [if_neg (by omega),Int.zero_add] at h ⊢
   exact ih h
 ·exact Classical.byContradiction fun hq=>h (zgn fun q hq1 hq2=>hq ⟨q,hq1,hq2⟩)
theorem varsZ_ok (ps:List za2):SRi (zfd ps)∧∀ x,x ∈ zfd ps ↔ zav ps x≠0:=by
 obtain ⟨h1,h2⟩:=varsFold ps ps [] List.Pairwise.nil
 refine ⟨h1,fun x=>(h2 x).trans ⟨?_,fun h=>?_⟩⟩
 ·rintro (h | ⟨_,_,_,h⟩)
  ·cases h
  ·exact h
 ·obtain ⟨_,q,hq,e⟩:=zbs h
  exact .inr ⟨q,hq,e,h⟩
def zdw (ps:List za2) (v:Int):za2:=⟨v,ZI.of (zav ps v)⟩
theorem zg6 (ps:List za2) (v:Int) (hv:0≤v):∀ {l:List Int}, SRi l→zav (l.map (zdw ps)) v=if v ∈ l then zav ps v else 0
 | [],_=>rfl
 | x :: l,h=>by
  obtain ⟨h1,h2⟩:=List.pairwise_cons.1 h
  simp only [List.map_cons,zav,zg6 ps v hv h2]
  by_cases e:x=v
  ·subst e
   have:x ∉ l:=fun hx=>by have:=h1 x hx;omega
   simp [zdw,hv,this,ZI.val_of]
  ·have e':¬ v=x:=fun g=>e g.symm
   simp [zdw,e,e']
theorem plain_law (ps:List za2):(zf7 (ssV za2.v ps)).filter (fun p=>!isZ p)=(zfd ps).map (zdw ps):=by
 obtain ⟨m1,m2,m3⟩:=mrgZ_ok (ssV za2.v ps) (zgd ps)
 obtain ⟨v1,v2⟩:=varsZ_ok ps
 refine SR.unique (m1.filter _) (List.pairwise_map.2 v1) (fun q hq=>?_) (fun q hq=>?_) fun v=>?_
 ·obtain ⟨h1,h2⟩:=List.mem_filter.1 hq
  obtain ⟨h3,h4,_⟩:=m2 q h1
  refine ⟨h3,h4,fun e=>?_⟩
  have:isZ q=true:=by simp [isZ,e,zcy]
  rw [this] at h2;cases h2
 ·obtain ⟨v,hv,rfl⟩:=List.mem_map.1 hq
  have hv:=(v2 v).1 hv
  refine ⟨(zbs hv).1,by simp [zdw,ZI.val_of],by simpa [zdw,ZI.val_of] using hv⟩
 ·rw [coefZ_nz,m3 v,coefZ_stb (zfh ps) v]
  by_cases hv:0≤v
  ·rw [zg6 ps v hv v1]
   by_cases h:v ∈ zfd ps
   ·rw [if_pos h]
   ·rw [if_neg h]
    exact Classical.byContradiction fun e=>h ((v2 v).2 e)
  ·have z1:zav ps v=0:=Classical.byContradiction fun e=>hv (zbs e).1
   have z2:zav ((zfd ps).map (zdw ps)) v=0:=Classical.byContradiction fun e=>hv (zbs e).1
   rw [z1,z2]
end
section
open Go.RowKit

theorem tl_3:za7 Tryz.prog 68:=za7.mk' (by kernel_rfl)
theorem tl_4:za7 Tryz.prog 69:=za7.mk' (by kernel_rfl)
theorem tl_5:za7 Tryz.prog 71:=za7.mk' (by kernel_rfl)
theorem tl_7:Sz Tryz.prog 3 1 false:=Sz.mk' (by kernel_rfl) Tryz.underlying3 _ rfl
theorem tl_9:za7 Tryz.prog 72:=za7.mk' (by kernel_rfl)
theorem tl_10:za7 Tryz.prog 73:=za7.mk' (by kernel_rfl)
theorem SClone1 (xs:List za2) (hn:0<xs.length) (hl:xs.length≤1000000):Fn Tryz.prog 68 [] [(vPs xs)] (.t (.c (.own 0 xs.length))) [(0,.row 100 3 (xs.map za2.d))]:=by
 refine Fn.body Tryz.func68 rfl 8 rfl fun w H B a h=>?_
 refine rq za0 1 [] [(0,(vPs xs)),(2,.t (.c (.d (.raw za6))))] [] h ?_;clear h;intro a w h
 refine wp_seq (rq za0 1 [(1,.gen _ _ _ fun _ _ _ _=>Op.eqNilD (d:=4) (t:=3) (es:=3) (xt:=49) (yt:=49) (rows:=xs.map za2.d) zc0.hu ((by rw [List.length_map];exact hn)) (OV.const za6 rfl))] [(0,(vPs xs)),(2,.t (.c (.d (.raw za6)))),(4,vb false)] [] h ?_);clear h;intro a w h
 refine zaa false h rfl (fun hc=>?_) (fun hc=>?_)
 ·cases hc
 ·clear hc
  refine wp_skip (za4 (rq za0 1 [(0,.gen _ _ _ fun _ _ _ _=>Op.buildE (d:=5) (n:=1) tb_9),(2,.gen _ _ _ fun _ _ _ _=>Op.appOD (d:=7) (t:=5) (u:=6) (n:=1) (n':=2) (len:=0) (len':=xs.length) (rows:=[].map za2.d) (rows2:=xs.map za2.d) (rows':=xs.map za2.d) zh4 (by first | exact (List.length_map _).symm | simp) (by first | (rw [List.length_append,List.length_map];done) | simp) (by simp) (by simp [za2.d]) (by first | omega | (simp at *;done) | (simp at *;omega)))] [(2,.t (.c (.own 2 xs.length)))] [(2,.row 100 3 (xs.map za2.d))] h ?_));clear h;intro a w h
  refine wp_ret ?_
  replace h:=zc7 2 0 [(2,.t (.c (.own 0 xs.length)))] [(0,.row 100 3 (xs.map za2.d))] h
  refine zap [.c (.own 0 xs.length)] h Exit.ret (.inl rfl)  rfl ⟨RV.tmp _ _ rfl,trivial⟩ ?_
  rfl
theorem SClone2 :Fn Tryz.prog 68 [] [.t (.c (.d (.raw za6)))] (.t (.c (.own 0 0))) [(0,.row 100 3 ([].map za2.d))]:=by
 refine Fn.body Tryz.func68 rfl 8 rfl fun w H B a h=>?_
 refine rq za0 1 [] [(0,.t (.c (.d (.raw za6)))),(2,.t (.c (.d (.raw za6))))] [] h ?_;clear h;intro a w h
 refine wp_seq (rq za0 1 [(1,.gen _ _ _ fun _ _ _ _=>Op.eqNilR (d:=4) (xt:=49) (yt:=49) (ao:=none) (n:=0) (c:=0) zc0.hu (OV.tmp 3 _) (OV.const za6 rfl))] [(0,.t (.c (.d (.raw za6)))),(2,.t (.c (.d (.raw za6)))),(4,vb true)] [] h ?_);clear h;intro a w h
 refine zaa true h rfl (fun hc=>?_) (fun hc=>?_)
 ·clear hc
  refine rq za0 1 [] [(0,.t (.c (.d (.raw za6)))),(2,.t (.c (.d (.raw za6))))] [] h ?_;clear h;intro a w h
  refine wp_ret (za9 ?_)
  replace h:=zel 2 0 1 3 100 (.t (.c (.d (.raw za6)))) [(0,.t (.c (.d (.raw za6)))),(2,.t (.c (.own 1 0)))] [(1,.row 100 3 ([].map za2.d))] h (by kernel_rfl) rfl rfl
  replace h:=zc7 1 0 [(0,.t (.c (.d (.raw za6)))),(2,.t (.c (.own 0 0)))] [(0,.row 100 3 ([].map za2.d))] h
  refine zap [.c (.own 0 0)] h Exit.ret (.inl rfl)  rfl ⟨RV.tmp _ _ rfl,trivial⟩ ?_
  rfl
 ·cases hc
theorem SClone3 (ao:Addr) (c:Nat) (hc:c≤maxLen):Fn Tryz.prog 68 [] [.t (.c (.d (.raw (.slice (some ao) 0 c))))] (.t (.c (.own 0 0))) [(0,.row 100 3 ([].map za2.d))]:=by
 refine Fn.body Tryz.func68 rfl 8 rfl fun w H B a h=>?_
 refine rq za0 1 [] [(0,.t (.c (.d (.raw (.slice (some ao) 0 c))))),(2,.t (.c (.d (.raw za6))))] [] h ?_;clear h;intro a w h
 refine wp_seq (rq za0 1 [(1,.gen _ _ _ fun _ _ _ _=>Op.eqNilR (d:=4) (xt:=49) (yt:=49) (ao:=some ao) (n:=0) (c:=c) zc0.hu (OV.tmp 3 _) (OV.const za6 rfl))] [(0,.t (.c (.d (.raw (.slice (some ao) 0 c))))),(2,.t (.c (.d (.raw za6)))),(4,vb false)] [] h ?_);clear h;intro a w h
 refine zaa false h rfl (fun hc=>?_) (fun hc=>?_)
 ·cases hc
 ·clear hc
  refine wp_skip (za4 ?_)
  replace h:=nilDSr 0 0 3 (.t (.c (.d (.raw (.slice (some ao) 0 c))))) (some ao) c (fun e=>by cases e) hc [(0,(vPs [])),(2,.t (.c (.d (.raw za6)))),(4,vb false)] [] h rfl rfl
  refine rq za0 1 [(0,.gen _ _ _ fun _ _ _ _=>Op.buildE (d:=5) (n:=1) tb_9),(2,.gen _ _ _ fun _ _ _ _=>Op.appOD (d:=7) (t:=5) (u:=6) (n:=1) (n':=2) (len:=0) (len':=0) (rows:=[].map za2.d) (rows2:=[].map za2.d) (rows':=[].map za2.d) zh4 (by first | exact (List.length_map _).symm | simp) (by first | (rw [List.length_append,List.length_map];done) | simp) (by simp) (by simp [za2.d]) (by first | omega | (simp at *;done) | (simp at *;omega)))] [(2,.t (.c (.own 2 0)))] [(2,.row 100 3 ([].map za2.d))] h ?_;clear h;intro a w h
  refine wp_ret ?_
  replace h:=zc7 2 0 [(2,.t (.c (.own 0 0)))] [(0,.row 100 3 ([].map za2.d))] h
  refine zap [.c (.own 0 0)] h Exit.ret (.inl rfl)  rfl ⟨RV.tmp _ _ rfl,trivial⟩ ?_
  rfl
theorem SClone (xs:List za2) (hl:xs.length≤1000000):Fn Tryz.prog 68 [] [(vPs xs)] (.t (.c (.own 0 xs.length))) [(0,.row 100 3 (xs.map za2.d))]:=by
 cases xs with
 | nil =>
  refine Fn.rawE fun ao c h1 h2=>?_
  cases ao with
  | none=>obtain rfl:=h1 rfl;exact SClone2
  | some ao=>exact SClone3 ao c h2
 | cons x xs=>exact SClone1 (x :: xs) (by simp) hl
theorem zc3 {xs:List za2} {p:za2} (h:p ∈ ssV za2.v xs):p ∈ xs:=(zfh xs).mem h
theorem PsOk.get_mem {L:Nat} {ps:List za2} (h:PsOk L ps) {p:za2} (hp:p ∈ ps):Lb p.c.abs∧p.c.abs.length≤L:=h.2 p hp
theorem SPlain0 (t:zbb) (ht:PsOk 40000 t.parts) (hk:Lb t.k.abs) (lk:t.k.abs.length≤40000):Fn Tryz.prog 47 [] [(vT t)] (vd (za3 t).d) []:=by
 have ln:=ht.1
 refine Fn.body Tryz.func47 rfl 74 rfl fun w H B a h=>?_
 refine rq za0 5 [] [(1,vp 5 0),(2,vp 6 0)] [(5,.box (zT t)),(6,.box [.d (.raw za6),cB false,.d (nsl [])])] h ?_;clear h;intro a w h
 refine rq za0 7 [(2,.call (SClone t.parts (by omega)) tl_3)] [(1,vp 5 0),(2,vp 6 0),(3,.t (.c (.own 0 t.parts.length)))] [(5,.box (zT t)),(6,.box [.d (.raw za6),cB false,.d (nsl [])]),(0,.row 100 3 (t.parts.map za2.d))] h ?_;clear h;intro a w h
 refine rq za0 7 [(1,.call (zfp t.parts (by omega)) tl_4)] [(1,vp 5 0),(2,vp 6 0),(3,.t (.c (.own 0 t.parts.length)))] [(5,.box (zT t)),(6,.box [.d (.raw za6),cB false,.d (nsl [])]),(0,.row 100 3 ((ssV za2.v t.parts).map za2.d))] h ?_;clear h;intro a w h
 obtain ⟨r3,er3,vr3,or3,lr3⟩:=mkZ (v:=t.k.val) (m:=t.k.abs.length) (zci hk)
 refine rq za0 7 [(2,.call (Fn.cast (zde t.k hk (by omega)) (congrArg vz er3.symm)) tl_5)] [(2,vp 6 0),(3,.t (.c (.own 0 t.parts.length))),(4,vp 7 0)] [(6,.box [.d (.raw za6),cB false,.d (nsl [])]),(0,.row 100 3 ((ssV za2.v t.parts).map za2.d)),(7,.box ([.d (.raw za6)]++zi r3))] h ?_;clear h;intro a w h
 refine wp_seq ?_
 replace h:=nilOLs 7 0 8 3 100 ([.d (.raw za6)]++zi r3) [(2,vp 6 0),(3,.t (.c (.own 0 t.parts.length))),(4,vp 7 0)] [(6,.box [.d (.raw za6),cB false,.d (nsl [])]),(0,.row 100 3 ((ssV za2.v t.parts).map za2.d)),(7,.box ([.own 8 0]++zi r3)),(8,.row 100 3 ([].map za2.d))] h (by kernel_rfl) rfl rfl
 refine rq za0 9 [] [(2,vp 6 0),(4,vp 7 0),(17,.t (.c (.own 0 t.parts.length))),(18,vi .i64 (t.parts.length:Int)),(19,vi .i64 0)] [(6,.box [.d (.raw za6),cB false,.d (nsl [])]),(0,.row 100 3 ((ssV za2.v t.parts).map za2.d)),(7,.box ([.own 8 0]++zi r3)),(8,.row 100 3 ([].map za2.d))] h ?_;clear h;intro a w h
 refine wp_block ?_
 refine zb1 (ι:=(Nat) × (List za2)) (fun (z_:(Nat) × (List za2))=>match z_ with | (j,out)=>out=(zf7 ((ssV za2.v t.parts).take j))∧j≤(ssV za2.v t.parts).length∧out.length≤j∧MOk 40000 j out)
   (fun (z_:(Nat) × (List za2))=>match z_ with | (j,out)=>[(2,vp 6 0),(4,vp 7 0),(17,.t (.c (.own 0 t.parts.length))),(18,vi .i64 (t.parts.length:Int)),(19,vi .i64 (j:Int))])
   (fun (z_:(Nat) × (List za2))=>match z_ with | (j,out)=>[(6,.box [.d (.raw za6),cB false,.d (nsl [])]),(0,.row 100 3 ((ssV za2.v t.parts).map za2.d)),(7,.box ([.own 8 out.length]++zi r3)),(8,.row 100 3 (out.map za2.d))])
   (fun (z_:(Nat) × (List za2))=>match z_ with | (j,out)=>(ssV za2.v t.parts).length - j) (0,[]) ?_ h (by kernel_rfl) (by kernel_rfl) ?_
 ·exact ⟨by simp [zf7],Nat.zero_le _,Nat.zero_le _,fun q hq=>(by cases hq)⟩
 ·clear h;rintro ⟨j,out⟩ a w hI h
  change St _ (F.of [(2,vp 6 0),(4,vp 7 0),(17,.t (.c (.own 0 t.parts.length))),(18,vi .i64 (t.parts.length:Int)),(19,vi .i64 (j:Int))] [(6,.box [.d (.raw za6),cB false,.d (nsl [])]),(0,.row 100 3 ((ssV za2.v t.parts).map za2.d)),(7,.box ([.own 8 out.length]++zi r3)),(8,.row 100 3 (out.map za2.d))]) a w at h
  obtain ⟨hI1,hI2,hI3,hI4⟩:=hI
  have ln:=ht.1
  have ls:(ssV za2.v t.parts).length=t.parts.length:=zaz _
  refine rq za0 9 [] [(2,vp 6 0),(4,vp 7 0),(17,.t (.c (.own 0 t.parts.length))),(18,vi .i64 (t.parts.length:Int)),(19,vi .i64 (j:Int)),(20,vb (decide ((j:Int)<(t.parts.length:Int))))] [(6,.box [.d (.raw za6),cB false,.d (nsl [])]),(0,.row 100 3 ((ssV za2.v t.parts).map za2.d)),(7,.box ([.own 8 out.length]++zi r3)),(8,.row 100 3 (out.map za2.d))] h ?_;clear h;intro a w h
  refine wp_seq ?_
  refine zaa (decide ((j:Int)<(t.parts.length:Int))) h rfl (fun hc=>?_) (fun hc=>?_)
  ·have hc1:=hc;clear hc
   have hc1':=of_decide_eq_true hc1
   refine wp_skip (za4 (wp_seq (wp_block ?_)))
   obtain ⟨x4,hx4⟩:∃ z_:za2,(ssV za2.v t.parts)[j]?=some z_:=⟨_,List.getElem?_eq_getElem (by first | omega | (simp at *;omega))⟩
   obtain ⟨ox4,lx4⟩:=ht.get_mem (zc3 (List.mem_of_getElem? hx4))
   refine rq za0 9 [(0,.gen _ _ _ fun _ _ _ _=>Op.idxO (d:=21) (t:=17) (k := .i64) (n:=0) (len:=t.parts.length) (i:=j) zc0 (by first | omega | (simp at *;omega)) (OV.tmp 19 _)),(1,.gen _ _ _ fun _ _ _ _=>Op.loadR_agg (d:=22) (t:=21) (n:=0) (i:=j) (fo:=0) (rty:=100) (es:=3) (xs:=[.raw (.int .i64 x4.v),.raw (.bool x4.c.neg),nsl x4.c.abs]) zfg rfl (zal hx4 (f:=za2.d)) rfl rfl)] [(2,vp 6 0),(4,vp 7 0),(6,vp 9 0),(17,.t (.c (.own 0 t.parts.length))),(18,vi .i64 (t.parts.length:Int)),(19,vi .i64 (j:Int))] [(6,.box [.d (.raw za6),cB false,.d (nsl [])]),(0,.row 100 3 ((ssV za2.v t.parts).map za2.d)),(7,.box ([.own 8 out.length]++zi r3)),(8,.row 100 3 (out.map za2.d)),(9,.box ([cI x4.v]++zi x4.c))] h ?_;clear h;intro a w h
   refine wp_seq (rq za0 10 [] [(2,vp 6 0),(4,vp 7 0),(6,vp 9 0),(17,.t (.c (.own 0 t.parts.length))),(18,vi .i64 (t.parts.length:Int)),(19,vi .i64 (j:Int)),(25,vb (decide (x4.v<0)))] [(6,.box [.d (.raw za6),cB false,.d (nsl [])]),(0,.row 100 3 ((ssV za2.v t.parts).map za2.d)),(7,.box ([.own 8 out.length]++zi r3)),(8,.row 100 3 (out.map za2.d)),(9,.box ([cI x4.v]++zi x4.c))] h ?_);clear h;intro a w h
   refine zaa (decide (x4.v<0)) h rfl (fun hc=>?_) (fun hc=>?_)
   ·have hc2:=hc;clear hc
    have hc2':=of_decide_eq_true hc2
    refine wp_exit (zai (za8 (za4 (rn za0 10 [(0,.add .i64 (m:=(j:Int)) (n:=1) (zad (by omega) (by omega)))] [(2,vp 6 0),(4,vp 7 0),(17,.t (.c (.own 0 t.parts.length))),(18,vi .i64 (t.parts.length:Int)),(19,vi .i64 ((j:Int)+1))] [(6,.box [.d (.raw za6),cB false,.d (nsl [])]),(0,.row 100 3 ((ssV za2.v t.parts).map za2.d)),(7,.box ([.own 8 out.length]++zi r3)),(8,.row 100 3 (out.map za2.d))] h ?_))));clear h;intro a w h
    refine za4 ?_
    have hst:(zf7 ((ssV za2.v t.parts).take (j+1)))=zay out x4:=by rw [hI1,show ((ssV za2.v t.parts).take (j+1):List za2)=(ssV za2.v t.parts).take j++[x4] from by rw [List.take_add_one,hx4];rfl,zbl]
    have hst2:=mrg_neg (out:=out) hc2'
    refine zam (x:=(j,out)) (y:=((j+1),out)) h ?_ ?_
    ·exact ⟨by rw [hst,hst2],(by have:=zak hx4;omega),by omega,by have hh:=hI4.step (ht.get_mem (zc3 (List.mem_of_getElem? hx4)));rw [hst2] at hh;exact hh⟩
    ·show (ssV za2.v t.parts).length - (j+1)<(ssV za2.v t.parts).length - j
     have:=zak hx4;omega
   ·have hc3:=hc;clear hc
    have hc3':=of_decide_eq_false hc3
    refine wp_skip (za4 ?_)
    rcases Nat.eq_zero_or_pos out.length with hz | hz
    ·refine rq za0 10 [(3,.gen _ _ _ fun _ _ _ _=>Op.arith (op := .sub) (d:=29) (xt:=3) (yt:=3) (k := .i64) (m:=(out.length:Int)) (n:=1) (r:=(-1)) (OV.tmp 28 _) (OV.const (.int .i64 1) rfl) (.inr (.inl ⟨rfl,(by omega)⟩)) (zad (by omega) (by omega)))] [(2,vp 6 0),(4,vp 7 0),(6,vp 9 0),(7,vi .i64 (-1)),(17,.t (.c (.own 0 t.parts.length))),(18,vi .i64 (t.parts.length:Int)),(19,vi .i64 (j:Int))] [(6,.box [.d (.raw za6),cB false,.d (nsl [])]),(0,.row 100 3 ((ssV za2.v t.parts).map za2.d)),(7,.box ([.own 8 out.length]++zi r3)),(8,.row 100 3 (out.map za2.d)),(9,.box ([cI x4.v]++zi x4.c))] h ?_;clear h;intro a w h
     refine rq za0 10 [(1,.cmp (op := .geq) (m:=(-1)) (n:=0) (b:=false) .i64 rfl)] [(2,vp 6 0),(4,vp 7 0),(6,vp 9 0),(7,vi .i64 (-1)),(17,.t (.c (.own 0 t.parts.length))),(18,vi .i64 (t.parts.length:Int)),(19,vi .i64 (j:Int)),(42,vb false)] [(6,.box [.d (.raw za6),cB false,.d (nsl [])]),(0,.row 100 3 ((ssV za2.v t.parts).map za2.d)),(7,.box ([.own 8 out.length]++zi r3)),(8,.row 100 3 (out.map za2.d)),(9,.box ([cI x4.v]++zi x4.c))] h ?_;clear h;intro a w h
     refine zaa false h rfl (fun hc=>?_) (fun hc=>?_)
     ·cases hc
     ·clear hc
      obtain ⟨r5,er5,vr5,or5,lr5⟩:=mkZ (v:=x4.c.val) (m:=x4.c.abs.length) (zci ox4)
      refine rn za0 10 [(6,.call (Fn.cast (zde x4.c ox4 (by omega)) (congrArg vz er5.symm)) tl_5),(8,.gen _ _ _ fun _ _ _ _=>Op.buildD (d:=65) (len:=1) (rows:=[(za2.mk x4.v r5)].map za2.d) (rs:=[(64,.t (.agg ([cI x4.v]++zi r5)))]) tb_9 (.cons (i:=0) (OV.tmp 64 _) (.nil)) (by kernel_rfl) rfl (by simp [za2.d]) (by decide) (by decide)),(9,.gen _ _ _ fun _ _ _ _=>Op.appOD (d:=66) (t:=58) (u:=65) (n:=8) (n':=10) (len:=out.length) (len':=(out++[(za2.mk x4.v r5)]).length) (rows:=out.map za2.d) (rows2:=[(za2.mk x4.v r5)].map za2.d) (rows':=(out++[(za2.mk x4.v r5)]).map za2.d) zh4 (by first | exact (List.length_map _).symm | simp) (by first | (rw [List.length_append,List.length_map];done) | simp) (by simp) (by simp [za2.d]) (by first | omega | (simp at *;done) | (simp at *;omega)))] [(2,vp 6 0),(4,vp 7 0),(17,.t (.c (.own 0 t.parts.length))),(18,vi .i64 (t.parts.length:Int)),(19,vi .i64 (j:Int))] [(6,.box [.d (.raw za6),cB false,.d (nsl [])]),(0,.row 100 3 ((ssV za2.v t.parts).map za2.d)),(7,.box ([.own 10 (out++[(za2.mk x4.v r5)]).length]++zi r3)),(10,.row 100 3 ((out++[(za2.mk x4.v r5)]).map za2.d))] h ?_;clear h;intro a w h
      refine zac (za4 (rn za0 11 [(0,.add .i64 (m:=(j:Int)) (n:=1) (zad (by omega) (by omega)))] [(2,vp 6 0),(4,vp 7 0),(17,.t (.c (.own 0 t.parts.length))),(18,vi .i64 (t.parts.length:Int)),(19,vi .i64 ((j:Int)+1))] [(6,.box [.d (.raw za6),cB false,.d (nsl [])]),(0,.row 100 3 ((ssV za2.v t.parts).map za2.d)),(7,.box ([.own 10 (out++[(za2.mk x4.v r5)]).length]++zi r3)),(10,.row 100 3 ((out++[(za2.mk x4.v r5)]).map za2.d))] h ?_));clear h;intro a w h
      refine za4 ?_
      have hst:(zf7 ((ssV za2.v t.parts).take (j+1)))=zay out x4:=by rw [hI1,show ((ssV za2.v t.parts).take (j+1):List za2)=(ssV za2.v t.parts).take j++[x4] from by rw [List.take_add_one,hx4];rfl,zbl]
      have hst2:=mrg_nil hc3' hz
      replace h:=zc7 10 8 [(2,vp 6 0),(4,vp 7 0),(17,.t (.c (.own 0 t.parts.length))),(18,vi .i64 (t.parts.length:Int)),(19,vi .i64 ((j:Int)+1))] [(6,.box [.d (.raw za6),cB false,.d (nsl [])]),(0,.row 100 3 ((ssV za2.v t.parts).map za2.d)),(7,.box ([.own 8 (out++[(za2.mk x4.v r5)]).length]++zi r3)),(8,.row 100 3 ((out++[(za2.mk x4.v r5)]).map za2.d))] h
      refine zam (x:=(j,out)) (y:=((j+1),(out++[(za2.mk x4.v r5)]))) h ?_ ?_
      ·have hnew:(out++[(za2.mk x4.v r5)])=zay out x4:=by rw [hst2,er5]
       exact ⟨by rw [hst];exact hnew,(by have:=zak hx4;omega),by rw [List.length_append];simp only [List.length_cons,List.length_nil];omega,by rw [hnew];exact hI4.step (ht.get_mem (zc3 (List.mem_of_getElem? hx4)))⟩
      ·show (ssV za2.v t.parts).length - (j+1)<(ssV za2.v t.parts).length - j
       have:=zak hx4;omega
    ·obtain ⟨k,hk1⟩:∃ k,out.length=k+1:=⟨out.length - 1,by omega⟩
     refine rq za0 11 [(3,.gen _ _ _ fun _ _ _ _=>Op.arith (op := .sub) (d:=29) (xt:=3) (yt:=3) (k := .i64) (m:=(out.length:Int)) (n:=1) (r:=(k:Int)) (OV.tmp 28 _) (OV.const (.int .i64 1) rfl) (.inr (.inl ⟨rfl,(by omega)⟩)) (zad (by omega) (by omega)))] [(2,vp 6 0),(4,vp 7 0),(6,vp 9 0),(7,vi .i64 (k:Int)),(17,.t (.c (.own 0 t.parts.length))),(18,vi .i64 (t.parts.length:Int)),(19,vi .i64 (j:Int))] [(6,.box [.d (.raw za6),cB false,.d (nsl [])]),(0,.row 100 3 ((ssV za2.v t.parts).map za2.d)),(7,.box ([.own 8 out.length]++zi r3)),(8,.row 100 3 (out.map za2.d)),(9,.box ([cI x4.v]++zi x4.c))] h ?_;clear h;intro a w h
     obtain ⟨x6,hx6⟩:∃ z_:za2,out[k]?=some z_:=⟨_,List.getElem?_eq_getElem (by first | omega | (simp at *;omega))⟩
     obtain ⟨ox6,lx6⟩:=hI4.lb (List.mem_of_getElem? hx6) (by omega)
     refine rq za0 11 [(1,.cmp (op := .geq) (m:=(k:Int)) (n:=0) (b:=true) .i64 (show decide ((k:Int)≥0)=true from decide_eq_true (by omega))),(6,.gen _ _ _ fun _ _ _ _=>Op.idxO (d:=36) (t:=34) (k := .i64) (n:=8) (len:=out.length) (i:=k) zc0 (by first | omega | (simp at *;omega)) (OV.tmp 35 _)),(8,.gen _ _ _ fun _ _ _ _=>Op.loadR_c (d:=38) (t:=37) (n:=8) (i:=k) (fo:=0) (rty:=100) (es:=3) (x:=(.raw (.int .i64 x6.v))) tl_7 rfl (zal hx6 (f:=za2.d)) rfl)] [(2,vp 6 0),(4,vp 7 0),(6,vp 9 0),(7,vi .i64 (k:Int)),(17,.t (.c (.own 0 t.parts.length))),(18,vi .i64 (t.parts.length:Int)),(19,vi .i64 (j:Int)),(42,vb (x6.v == x4.v))] [(6,.box [.d (.raw za6),cB false,.d (nsl [])]),(0,.row 100 3 ((ssV za2.v t.parts).map za2.d)),(7,.box ([.own 8 out.length]++zi r3)),(8,.row 100 3 (out.map za2.d)),(9,.box ([cI x4.v]++zi x4.c))] h ?_;clear h;intro a w h
     refine zaa (x6.v == x4.v) h rfl (fun hc=>?_) (fun hc=>?_)
     ·have hc4:=hc;clear hc
      have hc4':=hc4;(try simp at hc4')
      obtain ⟨r7,er7,vr7,or7,lr7⟩:=mkZ (v:=x6.c.val+x4.c.val) (m:=x6.c.abs.length+x4.c.abs.length+1) (zd8 ox6 ox4)
      refine rn za0 11 [(6,.gen _ _ _ fun _ _ _ _=>Op.idxO (d:=49) (t:=47) (k := .i64) (n:=8) (len:=out.length) (i:=k) zc0 (by first | omega | (simp at *;omega)) (OV.tmp 48 _)),(8,.gen _ _ _ fun _ _ _ _=>Op.loadR_agg (d:=51) (t:=50) (n:=8) (i:=k) (fo:=1) (rty:=100) (es:=3) (xs:=[.raw (.bool x6.c.neg),nsl x6.c.abs]) zdf rfl (zal hx6 (f:=za2.d)) rfl rfl),(11,.call (Fn.cast (SAdd x6.c x4.c ox6 ox4 (by omega) (by omega)) (congrArg vz er7.symm)) tl_9),(12,.gen _ _ _ fun _ _ _ _=>Op.idxO (d:=55) (t:=44) (k := .i64) (n:=8) (len:=out.length) (i:=k) zc0 (by first | omega | (simp at *;omega)) (OV.tmp 45 _)),(14,.gen _ _ _ fun _ _ _ _=>Op.storeR (t:=56) (n:=8) (i:=k) (fo:=1) (rty:=100) (es:=3) (r:=za2.d x6) (ds:=[.raw (.bool r7.neg),nsl r7.abs]) (rs:=[(54,vz r7)]) (rows:=out.map za2.d) (rows':=(out.set k (za2.mk x6.v r7)).map za2.d) zdf (OV.tmp 54 _) rfl rfl rfl (zal hx6 (f:=za2.d)) (by simp [za2.d]) (zck (xs:=out) (F:=za2.d) k _ _ rfl))] [(2,vp 6 0),(4,vp 7 0),(17,.t (.c (.own 0 t.parts.length))),(18,vi .i64 (t.parts.length:Int)),(19,vi .i64 (j:Int))] [(6,.box [.d (.raw za6),cB false,.d (nsl [])]),(0,.row 100 3 ((ssV za2.v t.parts).map za2.d)),(7,.box ([.own 8 out.length]++zi r3)),(8,.row 100 3 ((out.set k (za2.mk x6.v r7)).map za2.d))] h ?_;clear h;intro a w h
      refine zac (za4 (rn za0 11 [(0,.add .i64 (m:=(j:Int)) (n:=1) (zad (by omega) (by omega)))] [(2,vp 6 0),(4,vp 7 0),(17,.t (.c (.own 0 t.parts.length))),(18,vi .i64 (t.parts.length:Int)),(19,vi .i64 ((j:Int)+1))] [(6,.box [.d (.raw za6),cB false,.d (nsl [])]),(0,.row 100 3 ((ssV za2.v t.parts).map za2.d)),(7,.box ([.own 8 out.length]++zi r3)),(8,.row 100 3 ((out.set k (za2.mk x6.v r7)).map za2.d))] h ?_));clear h;intro a w h
      refine za4 ?_
      have hst:(zf7 ((ssV za2.v t.parts).take (j+1)))=zay out x4:=by rw [hI1,show ((ssV za2.v t.parts).take (j+1):List za2)=(ssV za2.v t.parts).take j++[x4] from by rw [List.take_add_one,hx4];rfl,zbl]
      replace h:=h.conv (f':=F.of [(2,vp 6 0),(4,vp 7 0),(17,.t (.c (.own 0 t.parts.length))),(18,vi .i64 (t.parts.length:Int)),(19,vi .i64 ((j:Int)+1))] [(6,.box [.d (.raw za6),cB false,.d (nsl [])]),(0,.row 100 3 ((ssV za2.v t.parts).map za2.d)),(7,.box ([.own 8 (out.set k (za2.mk x6.v r7)).length]++zi r3)),(8,.row 100 3 ((out.set k (za2.mk x6.v r7)).map za2.d))]) (by rw [List.length_set])
      have hst2:=zfy hc3' hk1 hx6 (by simpa using hc4)
      refine zam (x:=(j,out)) (y:=((j+1),(out.set k (za2.mk x6.v r7)))) h ?_ ?_
      ·have hnew:(out.set k (za2.mk x6.v r7))=zay out x4:=by rw [hst2,er7]
       exact ⟨by rw [hst];exact hnew,(by have:=zak hx4;omega),by rw [List.length_set];omega,by rw [hnew];exact hI4.step (ht.get_mem (zc3 (List.mem_of_getElem? hx4)))⟩
      ·show (ssV za2.v t.parts).length - (j+1)<(ssV za2.v t.parts).length - j
       have:=zak hx4;omega
     ·have hc5:=hc;clear hc
      have hc5':=hc5;(try simp at hc5')
      obtain ⟨r8,er8,vr8,or8,lr8⟩:=mkZ (v:=x4.c.val) (m:=x4.c.abs.length) (zci ox4)
      refine rn za0 11 [(6,.call (Fn.cast (zde x4.c ox4 (by omega)) (congrArg vz er8.symm)) tl_5),(8,.gen _ _ _ fun _ _ _ _=>Op.buildD (d:=65) (len:=1) (rows:=[(za2.mk x4.v r8)].map za2.d) (rs:=[(64,.t (.agg ([cI x4.v]++zi r8)))]) tb_9 (.cons (i:=0) (OV.tmp 64 _) (.nil)) (by kernel_rfl) rfl (by simp [za2.d]) (by decide) (by decide)),(9,.gen _ _ _ fun _ _ _ _=>Op.appOD (d:=66) (t:=58) (u:=65) (n:=8) (n':=11) (len:=out.length) (len':=(out++[(za2.mk x4.v r8)]).length) (rows:=out.map za2.d) (rows2:=[(za2.mk x4.v r8)].map za2.d) (rows':=(out++[(za2.mk x4.v r8)]).map za2.d) zh4 (by first | exact (List.length_map _).symm | simp) (by first | (rw [List.length_append,List.length_map];done) | simp) (by simp) (by simp [za2.d]) (by first | omega | (simp at *;done) | (simp at *;omega)))] [(2,vp 6 0),(4,vp 7 0),(17,.t (.c (.own 0 t.parts.length))),(18,vi .i64 (t.parts.length:Int)),(19,vi .i64 (j:Int))] [(6,.box [.d (.raw za6),cB false,.d (nsl [])]),(0,.row 100 3 ((ssV za2.v t.parts).map za2.d)),(7,.box ([.own 11 (out++[(za2.mk x4.v r8)]).length]++zi r3)),(11,.row 100 3 ((out++[(za2.mk x4.v r8)]).map za2.d))] h ?_;clear h;intro a w h
      refine zac (za4 (rn za0 12 [(0,.add .i64 (m:=(j:Int)) (n:=1) (zad (by omega) (by omega)))] [(2,vp 6 0),(4,vp 7 0),(17,.t (.c (.own 0 t.parts.length))),(18,vi .i64 (t.parts.length:Int)),(19,vi .i64 ((j:Int)+1))] [(6,.box [.d (.raw za6),cB false,.d (nsl [])]),(0,.row 100 3 ((ssV za2.v t.parts).map za2.d)),(7,.box ([.own 11 (out++[(za2.mk x4.v r8)]).length]++zi r3)),(11,.row 100 3 ((out++[(za2.mk x4.v r8)]).map za2.d))] h ?_));clear h;intro a w h
      refine za4 ?_
      have hst:(zf7 ((ssV za2.v t.parts).take (j+1)))=zay out x4:=by rw [hI1,show ((ssV za2.v t.parts).take (j+1):List za2)=(ssV za2.v t.parts).take j++[x4] from by rw [List.take_add_one,hx4];rfl,zbl]
      have hst2:=mrg_new hc3' hk1 hx6 (by simpa using hc5)
      replace h:=zc7 11 8 [(2,vp 6 0),(4,vp 7 0),(17,.t (.c (.own 0 t.parts.length))),(18,vi .i64 (t.parts.length:Int)),(19,vi .i64 ((j:Int)+1))] [(6,.box [.d (.raw za6),cB false,.d (nsl [])]),(0,.row 100 3 ((ssV za2.v t.parts).map za2.d)),(7,.box ([.own 8 (out++[(za2.mk x4.v r8)]).length]++zi r3)),(8,.row 100 3 ((out++[(za2.mk x4.v r8)]).map za2.d))] h
      refine zam (x:=(j,out)) (y:=((j+1),(out++[(za2.mk x4.v r8)]))) h ?_ ?_
      ·have hnew:(out++[(za2.mk x4.v r8)])=zay out x4:=by rw [hst2,er8]
       exact ⟨by rw [hst];exact hnew,(by have:=zak hx4;omega),by rw [List.length_append];simp only [List.length_cons,List.length_nil];omega,by rw [hnew];exact hI4.step (ht.get_mem (zc3 (List.mem_of_getElem? hx4)))⟩
      ·show (ssV za2.v t.parts).length - (j+1)<(ssV za2.v t.parts).length - j
       have:=zak hx4;omega
  ·have hc6:=hc;clear hc
   have hc6':=of_decide_eq_false hc6
   refine wp_exit (zai (zai (za8 (za4 ?_))))
   replace h:=atS (sl':=[(2,vp 6 0),(4,vp 7 0)]) (lc':=[(6,.box [.d (.raw za6),cB false,.d (nsl [])]),(7,.box ([.own 8 out.length]++zi r3)),(8,.row 100 3 (out.map za2.d))]) h
   replace h:=zc7 8 0 [(2,vp 6 0),(4,vp 7 0)] [(6,.box [.d (.raw za6),cB false,.d (nsl [])]),(7,.box ([.own 0 out.length]++zi r3)),(0,.row 100 3 (out.map za2.d))] h
   refine rq za0 12 [(2,.call (SDeleteFZ isZ out (fun p hp=>SPlain2 p (hI4.lb hp (by omega)).1 (by have:=(hI4.lb hp (by omega)).2;omega)) (by omega)) tl_10)] [(2,vp 6 0),(4,vp 7 0)] [(6,.box [.d (.raw za6),cB false,.d (nsl [])]),(7,.box ([.own 0 (out.filter (fun p=>!isZ p)).length]++zi r3)),(0,.row 100 3 ((out.filter (fun p=>!isZ p)).map za2.d))] h ?_;clear h;intro a w h
   refine rq za0 12 [] [(2,vp 6 0)] [(6,.box ([.own 0 (out.filter (fun p=>!isZ p)).length]++zi r3)),(0,.row 100 3 ((out.filter (fun p=>!isZ p)).map za2.d))] h ?_;clear h;intro a w h
   refine wp_ret ?_
   replace h:=pubS 0 3 100 ((out.filter (fun p=>!isZ p)).map za2.d) [(2,vp 6 0)] [(6,.box ([cPs (out.filter (fun p=>!isZ p))]++zi r3))] h rfl trivial (show zc5 _ [(out.filter (fun p=>!isZ p)).length] from ⟨by first | exact (List.length_map _).symm | simp,trivial⟩)
   refine zap [.agg ([cPs (out.filter (fun p=>!isZ p))]++zi r3)] h Exit.ret (.inl rfl)  rfl ⟨RV.agg _ 6 0 _ _ _ _ tb_11 rfl rfl rfl rfl,trivial⟩ ?_
   have hj:j=(ssV za2.v t.parts).length:=by omega
   subst hj
   rw [hI1,List.take_length,plain_law,er3];first | done | rfl
theorem zev (t:zbb) {n L:Nat} (h:TOk n L t) (hn:n≤1000) (hL:L≤40000):Fn Tryz.prog 47 [] [vd t.d] (vd (za3 t).d) [] :=
 have h':=h.mono hn hL
 SPlain0 t h'.psok h'.kb h'.kl
end
section
open Go.RowKit

section
variable {P:Program}
theorem Op.capR {d:Nat} {x:Operand} {ao:Option Addr} {n c:Nat} {rs:List (Nat × V)} {t el ty:TypeId} {pos af gd} (hu:P.underlying t=some (.slice el)) (h:OV x (.t (.c (.d (.raw (.slice ao n c))))) rs) :
  zb9 P ⟨some d,.call { callee := .builtin .cap,args:=#[x],argTypes:=#[t] }, ty,pos,af,gd⟩ { rs:=rs,ws:=[(d,some (vi .i64 (c:Int)))] } :=
 zb9.value d _ rfl rfl rfl fun e f H B a w hok hr2=>by
  have h2:=(h.eval hok fun p hp=>hr2.1 p hp).rawI
  refine ⟨goInt c,?_,DR.raw _ rfl⟩
  generalize a.eval=ρ at h2 ⊢
  have e1:(Array.map ρ #[x])=#[ρ x]:=by simp
  simp [execOp,resolve,e1,h2,invoke,builtin,Builtin.cap_,run_underlying hu]
theorem Op.sliceR0 {d:Nat} {x y:Operand} {k:IntKind} {rs rs':List (Nat × V)} {xt el ty:TypeId} {es:Nat} {pos af gd} (hs:SlT P xt el es) (hx:OV x (.t (.c (.d (.raw za6)))) rs) (hy:OV y (vi k (0:Nat)) rs') :
  zb9 P ⟨some d,.slice xt x none (some y) none,ty,pos,af,gd⟩ { rs:=rs++rs', ws:=[(d,some (.t (.c (.d (.raw za6)))))] } :=
 zb9.value d _ rfl rfl rfl fun e f H B a w hok hr2=>by
  have hv:a.eval x=za6:=(hx.eval hok fun p hp=>hr2.1 p (by simp [hp])).rawI
  have hb:=zf0 (P:=P) (is:=true) (lo:=none) (hi:=some y) (len:=0) (cap:=0) (BO.no 0) (BO.yes 0 hy) hok (fun p hp=>by cases hp) (fun p hp=>hr2.1 p (by simp [hp])) (Nat.zero_le _) (Nat.le_refl _)
  have hrun:=zds (ao:=none) hs hb
  refine ⟨za6,?_,DR.raw _ rfl⟩
  generalize a.eval=ρ at hv hrun ⊢
  have hrun':(Instr.sliceAt xt (ρ x) ((none:Option Operand).map ρ) ((some y).map ρ) ((none:Option Operand).map ρ)).run P w = .ok za6 w:=by rw [hv];simpa [za6] using hrun
  simp only [execOp,Sem.run_bind,hrun', Result.andThen_ok,Sem.run_pure]
theorem run_app_make {xt el it ty:TypeId} {i:TypeInfo} {z:Value} (hu:P.underlying xt=some (.slice el)) (hi:P.underlying it=some (.int .i64)) (hI:P.info? el=some i) (hz:i.zero=some z) (hs:i.size≠0) {L:Nat} (hL0:0<L) (hL:L≤4294967296) (hb:L*i.bytes≤140737488355328) (w:World) :
  (Builtin.append_ #[xt,it] ty #[za6,.int .i64 (L:Int)]).run P w = .ok (.slice (some ⟨w.heap.size,0,none⟩) L (grownCap w L 0 el)) (w.drew.alloc (.cells (Builtin.zeroCells z.cells L++Builtin.zeroCells z.cells (grownCap w L 0 el - L)) el)):=by
 have wl:IntKind.i64.wrap (L:Int)=(L:Int):=by rw [IntKind.wrap_i64];omega
 have c1:¬ ((L:Int)<0):=by omega
 have c2:¬ (281474976710656<(L:Int)*(i.bytes:Int)):=by
  have:((L*i.bytes:Nat):Int)=(L:Int)*(i.bytes:Int):=Int.natCast_mul _ _
  omega
 have c4:¬ (9223372036854775807<(L:Int)):=by omega
 have c5:¬ (281474976710656<Builtin.nextslicecap L 0*i.bytes):=by
  have:=growslice_fits (need:=L) (old:=0) (bytes:=i.bytes) (by omega) hb
  omega
 have hL1:L≠0:=by omega
 have hL2:L*i.size≠0:=Nat.mul_ne_zero hL1 hs
 simp [Builtin.append_,za6,run_underlying hu,run_underlying hi,sizeOf,typeInfo,zeroValue,hI,hz,hL2,asInt,asIntOf,wl,c1,c2,c4,c5,hL1,Question.forced,run_firstCells_none,newRow,grownCap]
theorem Op.appNM {d t u n es bs L:Nat} {xt el it ty:TypeId} {pos af gd} (hT:ElT P xt el es bs) (hi:P.underlying it=some (.int .i64)) (hL0:0<L) (hL:L≤1000000000) (hb:L*bs≤140737488355328) :
  zb9 P ⟨some d,.call { callee := .builtin .append,args:=#[.tmp t,.tmp u],argTypes:=#[xt,it] }, ty,pos,af,gd⟩
   { rs:=[(t,.t (.c (.d (.raw za6)))),(u,vi .i64 (L:Int))],ws:=[(d,some (.t (.c (.own n L))))],wl:=[(n,some (.row el es []))],nw:=[n] }:=by
 rintro e f a w Q ⟨H,B,hok⟩ hr hnw hb0
 have hnew:=hnw n (by simp)
 have h1:a.eval (.tmp t)=za6:=VR.rawI (hok.slot t _ (hr.1 (t,.t (.c (.d (.raw za6)))) (by simp)))
 have h2:a.eval (.tmp u) = .int .i64 (L:Int):=VR.rawI (hok.slot u _ (hr.1 (u,vi .i64 (L:Int)) (by simp)))
 obtain ⟨i,z,hI,hz,hsz,hby,hzs⟩:=hT.ex
 have hrun:=run_app_make (P:=P) (ty:=ty) hT.hu hi hI hz (by rw [hsz];exact Nat.pos_iff_ne_zero.1 hT.pos) hL0 (by omega) (by rw [hby];exact hb) w
 have hge:=grownCap_ge w L 0 el
 have hle:=grownCap_le_maxLen w L 0 el (by simp only [maxLen];omega)
 generalize grownCap w L 0 el=c at hrun hge hle
 have hok2:Ok e f H B a w.drew:=⟨hok.df,hok.n,⟨hok.ext.os,hok.ext.tape,hok.ext.output,hok.ext.size,hok.ext.block⟩,hok.sat,hok.slot,fun m l hm=>LR.mono (Le.refl _) rfl (fun _ _=>rfl) (fun _ _ _=>rfl) (hok.loc m l hm),hok.priv,hok.inj,hok.low,hok.le,hok.keep⟩
 have hlen:(Builtin.zeroCells z.cells L++Builtin.zeroCells z.cells (c - L)).toList.length=c*es:=by
  simp only [Builtin.zeroCells,Array.toList_append,List.length_append,Array.length_toList,Array.size_map,Array.size_range,hzs]
  rw [← Nat.add_mul];congr 1;omega
 have hobj:(Builtin.zeroCells z.cells L++Builtin.zeroCells z.cells (c - L))=⟨(Builtin.zeroCells z.cells L++Builtin.zeroCells z.cells (c - L)).toList⟩:=by simp
 rw [hobj] at hrun
 generalize (Builtin.zeroCells z.cells L++Builtin.zeroCells z.cells (c - L)).toList=arr at hrun hlen
 have h3:Ok e ⟨f.s,fun m=>if m=n then some (.row el es []) else f.l m⟩ H (fun m=>if m=n then some (w.drew.heap.size,c) else B m) a (w.drew.alloc (.cells ⟨arr⟩ el)) :=
  hok2.new hnew (.cells ⟨arr⟩ el) c (.row el es []) (fun _=>rfl) (fun _=>rfl) (by
   simp only [LR,if_true]
   exact ⟨arr,heap_alloc_new w.drew _,hlen,Nat.zero_le _,hle,by simp,by simp [zb3]⟩)
 refine zef (d:=d) rfl ?_ ⟨H,_,h3.put (x:=some (.t (.c (.own n L)))) (hb0.1 (d,some (.t (.c (.own n L)))) (by simp)) (zfb f d _ _ rfl) (fun m=>?_) (v := .slice (some ⟨w.heap.size,0,none⟩) L c) (fun y hy=>by injection hy with hy;subst hy;simp [VR,TR,CR])⟩
 ·generalize a.eval=ρ at h1 h2 ⊢
  have e1:(Array.map ρ #[.tmp t,.tmp u])=#[ρ (.tmp t),ρ (.tmp u)]:=by simp
  simp only [execOp,resolve,e1,h1,h2,Sem.run_bind,Sem.run_pure,Result.andThen_ok,invoke,builtin,hrun]
 ·simp only [F.app,List.lookup]
  by_cases e1:m=n
  ·simp [e1]
  ·have g1:(m == n)=false:=by simpa using e1
   simp [g1,e1]
end
end
section
open Go.RowKit

theorem tm_2:SlT Tryz.prog 183 49 1:=SlT.mk' Tryz.underlying183 (by kernel_rfl)
theorem tm_3:za7 Tryz.prog 180:=za7.mk' (by kernel_rfl)
theorem tm_4:ElZ Tryz.prog 183 49 1:=ElZ.mk' Tryz.underlying183 _ _ rfl rfl (by kernel_rfl) (by kernel_rfl) (by kernel_rfl) (by decide)
theorem tm_5:za7 Tryz.prog 173:=za7.mk' (by kernel_rfl)
theorem tm_7:za7 Tryz.prog 47:=za7.mk' (by kernel_rfl)
theorem tm_10:za7 Tryz.prog 146:=za7.mk' (by kernel_rfl)
theorem tm_12:za7 Tryz.prog 113:=za7.mk' (by kernel_rfl)
theorem tm_13:za7 Tryz.prog 147:=za7.mk' (by kernel_rfl)
theorem tm_14:za7 Tryz.prog 121:=za7.mk' (by kernel_rfl)
theorem tm_15:za7 Tryz.prog 164:=za7.mk' (by kernel_rfl)
theorem SGrow (n:Nat) (hn:n≤1000000):Fn Tryz.prog 180 [] [.t (.c (.d (.raw za6))),vi .i64 (n:Int)] (.t (.c (.own 0 0))) [(0,.row 100 3 ([].map za2.d))]:=by
 refine Fn.body Tryz.func180 rfl 27 rfl fun w H B a h=>?_
 refine rq za0 1 [] [(0,.t (.c (.d (.raw za6)))),(1,vi .i64 (n:Int)),(4,.t (.c (.d (.raw za6))))] [] h ?_;clear h;intro a w h
 refine wp_seq (rq za0 1 [(1,.cmp (op := .lss) (m:=(n:Int)) (n:=0) (b:=false) .i64 (show decide ((n:Int)<0)=false from decide_eq_false (by omega)))] [(0,.t (.c (.d (.raw za6)))),(1,vi .i64 (n:Int)),(4,.t (.c (.d (.raw za6)))),(6,vb false)] [] h ?_);clear h;intro a w h
 refine zaa false h rfl (fun hc=>?_) (fun hc=>?_)
 ·cases hc
 ·clear hc
  refine wp_skip (za4 (wp_seq (rq za0 1 [(2,.gen _ _ _ fun _ _ _ _=>Op.capR (d:=10) (ao:=none) (n:=0) (c:=0) zc0.hu (OV.tmp 9 _)),(5,.gen _ _ _ fun _ _ _ _=>Op.arith (op := .sub) (d:=13) (xt:=3) (yt:=3) (k := .i64) (m:=0) (n:=0) (r:=0) (OV.tmp 10 _) (OV.tmp 12 _) (.inr (.inl ⟨rfl,rfl⟩)) (zad (by omega) (by omega))),(6,.gen _ _ _ fun _ _ _ _=>Op.arith (op := .sub) (d:=14) (xt:=3) (yt:=3) (k := .i64) (m:=(n:Int)) (n:=0) (r:=(n:Int)) (OV.tmp 8 _) (OV.tmp 13 _) (.inr (.inl ⟨rfl,(Int.sub_zero _).symm⟩)) (zad (by omega) (by omega)))] [(0,.t (.c (.d (.raw za6)))),(1,vi .i64 (n:Int)),(4,.t (.c (.d (.raw za6))))] [] h ?_)));clear h;intro a w h
  refine rq za0 1 [] [(0,.t (.c (.d (.raw za6)))),(1,vi .i64 (n:Int)),(4,.t (.c (.d (.raw za6)))),(16,vb (decide ((n:Int)>0)))] [] h ?_;clear h;intro a w h
  refine zaa (decide ((n:Int)>0)) h rfl (fun hc=>?_) (fun hc=>?_)
  ·have hc1:=hc;clear hc
   have hc1':=of_decide_eq_true hc1
   refine rn za0 1 [(2,.gen _ _ _ fun _ _ _ _=>Op.capR (d:=19) (ao:=none) (n:=0) (c:=0) zc0.hu (OV.tmp 18 _)),(3,.gen _ _ _ fun _ _ _ _=>Op.sliceR0 (d:=20) (k := .i64) zc0 (OV.tmp 17 _) (OV.tmp 19 _)),(5,.gen _ _ _ fun _ _ _ _=>Op.appNM (d:=22) (t:=20) (u:=21) (n:=1) (L:=n) zh4 Tryz.underlying3 (by omega) (by omega) (by omega)),(8,.gen _ _ _ fun _ _ _ _=>Op.sliceHi (d:=25) (t:=22) (k := .i64) (n:=1) (len:=n) (h:=0) (rows:=[].map za2.d) (rty:=100) zc0 (by first | omega | (simp at *;omega)) (OV.tmp 24 _))] [(0,.t (.c (.own 1 0))),(4,.t (.c (.d (.raw za6))))] [(1,.row 100 3 ([].map za2.d))] h ?_;clear h;intro a w h
   refine za4 (rq za0 2 [] [(4,.t (.c (.own 1 0)))] [(1,.row 100 3 ([].map za2.d))] h ?_);clear h;intro a w h
   refine wp_ret ?_
   replace h:=zc7 1 0 [(4,.t (.c (.own 0 0)))] [(0,.row 100 3 ([].map za2.d))] h
   refine zap [.c (.own 0 0)] h Exit.ret (.inl rfl)  rfl ⟨RV.tmp _ _ rfl,trivial⟩ ?_
   rfl
  ·have hc2:=hc;clear hc
   have hc2':=of_decide_eq_false hc2
   refine wp_skip (za4 (rq za0 2 [] [(4,.t (.c (.d (.raw za6))))] [] h ?_));clear h;intro a w h
   refine wp_ret ?_
   replace h:=zel 4 0 2 3 100 (.t (.c (.d (.raw za6)))) [(4,.t (.c (.own 2 0)))] [(2,.row 100 3 ([].map za2.d))] h (by kernel_rfl) rfl rfl
   replace h:=zc7 2 0 [(4,.t (.c (.own 0 0)))] [(0,.row 100 3 ([].map za2.d))] h
   refine zap [.c (.own 0 0)] h Exit.ret (.inl rfl)  rfl ⟨RV.tmp _ _ rfl,trivial⟩ ?_
   rfl
theorem ze4 (l:List Nat):∀ j,(l.take j).sum≤l.sum:=by
 induction l with
 | nil=>intro j;simp
 | cons x l ih =>
  intro j
  cases j with
  | zero=>simp
  | succ j=>simp only [List.take_succ_cons,List.sum_cons];have:=ih j;omega
theorem flat_sum {α:Type} (l:List (List α)):l.flatten.length=(l.map List.length).sum:=List.length_flatten
theorem sum_mem {l:List Nat} {x:Nat} (h:x ∈ l):x≤l.sum:=by
 induction l with
 | nil=>cases h
 | cons y l ih =>
  rw [List.sum_cons]
  rcases List.mem_cons.1 h with rfl | h
  ·omega
  ·have:=ih h;omega
theorem SConcat (xss:List (List za2)) (hl:(xss.map List.length).sum≤1000000) (hn:xss.length≤1000):Fn Tryz.prog 173 [] [.t (.c (.d (.sl 1 (xss.map (slD 3 za2.d)))))] (vPs xss.flatten) []:=by
 refine Fn.body Tryz.func173 rfl 36 rfl fun w H B a h=>?_
 refine rq za0 5 [] [(0,.t (.c (.d (.sl 1 (xss.map (slD 3 za2.d)))))),(2,.t (.c (.d (.raw za6))))] [] h ?_;clear h;intro a w h
 refine rq za0 5 [] [(0,.t (.c (.d (.sl 1 (xss.map (slD 3 za2.d)))))),(2,.t (.c (.d (.raw za6)))),(3,vi .i64 0)] [] h ?_;clear h;intro a w h
 refine wp_seq (rq za0 5 [(1,.len (c:=(.d (.sl 1 (xss.map (slD 3 za2.d))))) (n:=xss.length) (zae _ _ _))] [(0,.t (.c (.d (.sl 1 (xss.map (slD 3 za2.d)))))),(2,.t (.c (.d (.raw za6)))),(3,vi .i64 0),(9,.t (.c (.d (.sl 1 (xss.map (slD 3 za2.d)))))),(10,vi .i64 (xss.length:Int)),(11,vi .i64 0)] [] h ?_);clear h;intro a w h
 refine wp_block ?_
 refine zb1 (ι:=(Nat)) (fun (z_:(Nat))=>match z_ with | j=>j≤xss.length)
   (fun (z_:(Nat))=>match z_ with | j=>[(0,.t (.c (.d (.sl 1 (xss.map (slD 3 za2.d)))))),(2,.t (.c (.d (.raw za6)))),(3,vi .i64 ((((xss.map List.length).take j).sum:Nat):Int)),(9,.t (.c (.d (.sl 1 (xss.map (slD 3 za2.d)))))),(10,vi .i64 (xss.length:Int)),(11,vi .i64 (j:Int))])
   (fun (z_:(Nat))=>match z_ with | j=>[])
   (fun (z_:(Nat))=>match z_ with | j=>xss.length - j) 0 ?_ h (by kernel_rfl) (by kernel_rfl) ?_
 ·exact Nat.zero_le _
 ·clear h;rintro j a w hI h
  change St _ (F.of [(0,.t (.c (.d (.sl 1 (xss.map (slD 3 za2.d)))))),(2,.t (.c (.d (.raw za6)))),(3,vi .i64 ((((xss.map List.length).take j).sum:Nat):Int)),(9,.t (.c (.d (.sl 1 (xss.map (slD 3 za2.d)))))),(10,vi .i64 (xss.length:Int)),(11,vi .i64 (j:Int))] []) a w at h
  have hs1:=ze4 (xss.map List.length) j
  have hs2:=ze4 (xss.map List.length) (j+1)
  refine rq za0 5 [] [(0,.t (.c (.d (.sl 1 (xss.map (slD 3 za2.d)))))),(2,.t (.c (.d (.raw za6)))),(3,vi .i64 ((((xss.map List.length).take j).sum:Nat):Int)),(9,.t (.c (.d (.sl 1 (xss.map (slD 3 za2.d)))))),(10,vi .i64 (xss.length:Int)),(11,vi .i64 (j:Int)),(12,vb (decide ((j:Int)<(xss.length:Int))))] [] h ?_;clear h;intro a w h
  refine wp_seq ?_
  refine zaa (decide ((j:Int)<(xss.length:Int))) h rfl (fun hc=>?_) (fun hc=>?_)
  ·have hc1:=hc;clear hc
   have hc1':=of_decide_eq_true hc1
   refine wp_skip (za4 (wp_seq (wp_block ?_)))
   obtain ⟨x1,hx1⟩:∃ z_:List za2,xss[j]?=some z_:=⟨_,List.getElem?_eq_getElem (by first | omega | (simp at *;omega))⟩
   have hsx:x1.length≤(xss.map List.length).sum:=by
    have:=sum_mem (List.mem_map_of_mem (f:=List.length) (List.mem_of_getElem? hx1))
    omega
   refine rq za0 5 [(0,.gen _ _ _ fun _ _ _ _=>Op.idxD (d:=13) (t:=9) (k := .i64) tm_2 (zal hx1 (f:=(slD 3 za2.d))) (OV.tmp 11 _))] [(0,.t (.c (.d (.sl 1 (xss.map (slD 3 za2.d)))))),(2,.t (.c (.d (.raw za6)))),(3,vi .i64 ((((xss.map List.length).take j).sum:Nat):Int)),(5,(vPs x1)),(9,.t (.c (.d (.sl 1 (xss.map (slD 3 za2.d)))))),(10,vi .i64 (xss.length:Int)),(11,vi .i64 (j:Int))] [] h ?_;clear h;intro a w h
   refine rq za0 5 [(2,.len (c:=(cPs x1)) (n:=x1.length) (zae _ _ _)),(3,.gen _ _ _ fun _ _ _ _=>Op.arith (op := .add) (d:=18) (xt:=3) (yt:=3) (k := .i64) (m:=((((xss.map List.length).take j).sum:Nat):Int)) (n:=(x1.length:Int)) (r:=((((xss.map List.length).take (j+1)).sum:Nat):Int)) (OV.tmp 15 _) (OV.tmp 17 _) (.inl ⟨rfl,(by rw [List.take_add_one,List.getElem?_map,hx1];simp)⟩) (zad (by omega) (by omega)))] [(0,.t (.c (.d (.sl 1 (xss.map (slD 3 za2.d)))))),(2,.t (.c (.d (.raw za6)))),(3,vi .i64 ((((xss.map List.length).take (j+1)).sum:Nat):Int)),(9,.t (.c (.d (.sl 1 (xss.map (slD 3 za2.d)))))),(10,vi .i64 (xss.length:Int)),(11,vi .i64 (j:Int))] [] h ?_;clear h;intro a w h
   refine rq za0 5 [(1,.cmp (op := .lss) (m:=((((xss.map List.length).take (j+1)).sum:Nat):Int)) (n:=0) (b:=false) .i64 (show decide (((((xss.map List.length).take (j+1)).sum:Nat):Int)<0)=false from decide_eq_false (by omega)))] [(0,.t (.c (.d (.sl 1 (xss.map (slD 3 za2.d)))))),(2,.t (.c (.d (.raw za6)))),(3,vi .i64 ((((xss.map List.length).take (j+1)).sum:Nat):Int)),(9,.t (.c (.d (.sl 1 (xss.map (slD 3 za2.d)))))),(10,vi .i64 (xss.length:Int)),(11,vi .i64 (j:Int)),(20,vb false)] [] h ?_;clear h;intro a w h
   refine zaa false h rfl (fun hc=>?_) (fun hc=>?_)
   ·cases hc
   ·clear hc
    refine wp_skip (zac (za4 (rn za0 5 [(0,.add .i64 (m:=(j:Int)) (n:=1) (zad (by omega) (by omega)))] [(0,.t (.c (.d (.sl 1 (xss.map (slD 3 za2.d)))))),(2,.t (.c (.d (.raw za6)))),(3,vi .i64 ((((xss.map List.length).take (j+1)).sum:Nat):Int)),(9,.t (.c (.d (.sl 1 (xss.map (slD 3 za2.d)))))),(10,vi .i64 (xss.length:Int)),(11,vi .i64 ((j:Int)+1))] [] h ?_)));clear h;intro a w h
    refine za4 ?_
    refine zam (x:=j) (y:=(j+1)) h ?_ ?_
    ·have:=zak hx1;omega
    ·show xss.length - (j+1)<xss.length - j
     have:=zak hx1;omega
  ·have hc2:=hc;clear hc
   have hc2':=of_decide_eq_false hc2
   refine wp_exit (zai (zai (za8 (za4 ?_))))
   have hj:j=xss.length:=by omega
   refine rq za0 5 [(1,.call (SGrow ((xss.map List.length).take j).sum (by omega)) tm_3)] [(0,.t (.c (.d (.sl 1 (xss.map (slD 3 za2.d)))))),(2,.t (.c (.d (.raw za6)))),(6,.t (.c (.own 0 0)))] [(0,.row 100 3 ([].map za2.d))] h ?_;clear h;intro a w h
   refine wp_seq (rq za0 5 [(1,.len (c:=(.d (.sl 1 (xss.map (slD 3 za2.d))))) (n:=xss.length) (zae _ _ _))] [(2,.t (.c (.d (.raw za6)))),(6,.t (.c (.own 0 0))),(25,.t (.c (.d (.sl 1 (xss.map (slD 3 za2.d)))))),(26,vi .i64 (xss.length:Int)),(27,vi .i64 0)] [(0,.row 100 3 ([].map za2.d))] h ?_);clear h;intro a w h
   refine wp_block ?_
   refine zb1 (ι:=(Nat)) (fun (z_:(Nat))=>match z_ with | i=>i≤xss.length)
     (fun (z_:(Nat))=>match z_ with | i=>[(2,.t (.c (.d (.raw za6)))),(6,.t (.c (.own 0 ((xss.take i).flatten).length))),(25,.t (.c (.d (.sl 1 (xss.map (slD 3 za2.d)))))),(26,vi .i64 (xss.length:Int)),(27,vi .i64 (i:Int))])
     (fun (z_:(Nat))=>match z_ with | i=>[(0,.row 100 3 (((xss.take i).flatten).map za2.d))])
     (fun (z_:(Nat))=>match z_ with | i=>xss.length - i) 0 ?_ h (by kernel_rfl) (by kernel_rfl) ?_
   ·exact Nat.zero_le _
   ·clear h;rintro i a w hI h
    change St _ (F.of [(2,.t (.c (.d (.raw za6)))),(6,.t (.c (.own 0 ((xss.take i).flatten).length))),(25,.t (.c (.d (.sl 1 (xss.map (slD 3 za2.d)))))),(26,vi .i64 (xss.length:Int)),(27,vi .i64 (i:Int))] [(0,.row 100 3 (((xss.take i).flatten).map za2.d))]) a w at h
    have hs1:=ze4 (xss.map List.length) i
    have hs2:=ze4 (xss.map List.length) (i+1)
    have hf1:((xss.take i).flatten).length=((xss.map List.length).take i).sum:=by rw [flat_sum,List.map_take]
    have hf2:((xss.take (i+1)).flatten).length=((xss.map List.length).take (i+1)).sum:=by rw [flat_sum,List.map_take]
    refine rq za0 5 [] [(2,.t (.c (.d (.raw za6)))),(6,.t (.c (.own 0 ((xss.take i).flatten).length))),(25,.t (.c (.d (.sl 1 (xss.map (slD 3 za2.d)))))),(26,vi .i64 (xss.length:Int)),(27,vi .i64 (i:Int)),(28,vb (decide ((i:Int)<(xss.length:Int))))] [(0,.row 100 3 (((xss.take i).flatten).map za2.d))] h ?_;clear h;intro a w h
    refine wp_seq ?_
    refine zaa (decide ((i:Int)<(xss.length:Int))) h rfl (fun hc=>?_) (fun hc=>?_)
    ·have hc3:=hc;clear hc
     have hc3':=of_decide_eq_true hc3
     refine wp_skip (za4 (wp_seq (wp_block ?_)))
     obtain ⟨x3,hx3⟩:∃ z_:List za2,xss[i]?=some z_:=⟨_,List.getElem?_eq_getElem (by first | omega | (simp at *;omega))⟩
     have hsx:x3.length≤(xss.map List.length).sum:=by
      have:=sum_mem (List.mem_map_of_mem (f:=List.length) (List.mem_of_getElem? hx3))
      omega
     refine rq za0 5 [(0,.gen _ _ _ fun _ _ _ _=>Op.idxD (d:=29) (t:=25) (k := .i64) tm_2 (zal hx3 (f:=(slD 3 za2.d))) (OV.tmp 27 _))] [(2,.t (.c (.d (.raw za6)))),(6,.t (.c (.own 0 ((xss.take i).flatten).length))),(8,(vPs x3)),(25,.t (.c (.d (.sl 1 (xss.map (slD 3 za2.d)))))),(26,vi .i64 (xss.length:Int)),(27,vi .i64 (i:Int))] [(0,.row 100 3 (((xss.take i).flatten).map za2.d))] h ?_;clear h;intro a w h
     refine rn za0 5 [(2,.gen _ _ _ fun _ _ _ _=>Op.appOD (d:=33) (t:=31) (u:=32) (n:=0) (n':=5) (len:=((xss.take i).flatten).length) (len':=(((xss.take i).flatten)++x3).length) (rows:=((xss.take i).flatten).map za2.d) (rows2:=x3.map za2.d) (rows':=(((xss.take i).flatten)++x3).map za2.d) zh4 (by first | exact (List.length_map _).symm | simp) (by first | (rw [List.length_append,List.length_map];done) | simp) (by simp) (by simp [za2.d]) (by first | omega | (simp at *;done) | (simp at *;omega)))] [(2,.t (.c (.d (.raw za6)))),(6,.t (.c (.own 5 (((xss.take i).flatten)++x3).length))),(25,.t (.c (.d (.sl 1 (xss.map (slD 3 za2.d)))))),(26,vi .i64 (xss.length:Int)),(27,vi .i64 (i:Int))] [(5,.row 100 3 ((((xss.take i).flatten)++x3).map za2.d))] h ?_;clear h;intro a w h
     refine zac (za4 (rn za0 6 [(0,.add .i64 (m:=(i:Int)) (n:=1) (zad (by omega) (by omega)))] [(2,.t (.c (.d (.raw za6)))),(6,.t (.c (.own 5 (((xss.take i).flatten)++x3).length))),(25,.t (.c (.d (.sl 1 (xss.map (slD 3 za2.d)))))),(26,vi .i64 (xss.length:Int)),(27,vi .i64 ((i:Int)+1))] [(5,.row 100 3 ((((xss.take i).flatten)++x3).map za2.d))] h ?_));clear h;intro a w h
     refine za4 ?_
     have hnw:(((xss.take i).flatten)++x3)=((xss.take (i+1)).flatten):=by rw [List.take_add_one,hx3];simp
     replace h:=h.conv (f':=F.of [(2,.t (.c (.d (.raw za6)))),(6,.t (.c (.own 5 ((xss.take (i+1)).flatten).length))),(25,.t (.c (.d (.sl 1 (xss.map (slD 3 za2.d)))))),(26,vi .i64 (xss.length:Int)),(27,vi .i64 ((i:Int)+1))] [(5,.row 100 3 (((xss.take (i+1)).flatten).map za2.d))]) (by rw [hnw])
     replace h:=zc7 5 0 [(2,.t (.c (.d (.raw za6)))),(6,.t (.c (.own 0 ((xss.take (i+1)).flatten).length))),(25,.t (.c (.d (.sl 1 (xss.map (slD 3 za2.d)))))),(26,vi .i64 (xss.length:Int)),(27,vi .i64 ((i:Int)+1))] [(0,.row 100 3 (((xss.take (i+1)).flatten).map za2.d))] h
     refine zam (x:=i) (y:=(i+1)) h ?_ ?_
     ·have:=zak hx3;omega
     ·show xss.length - (i+1)<xss.length - i
      have:=zak hx3;omega
    ·have hc4:=hc;clear hc
     have hc4':=of_decide_eq_false hc4
     refine wp_exit (zai (zai (za8 (za4 (rq za0 6 [] [(2,.t (.c (.own 0 ((xss.take i).flatten).length)))] [(0,.row 100 3 (((xss.take i).flatten).map za2.d))] h ?_)))));clear h;intro a w h
     refine wp_ret ?_
     replace h:=pubS 0 3 100 (((xss.take i).flatten).map za2.d) [(2,(vPs ((xss.take i).flatten)))] [] h rfl (show zc5 _ [((xss.take i).flatten).length] from ⟨by first | exact (List.length_map _).symm | simp,trivial⟩) trivial
     refine zap [.c (cPs ((xss.take i).flatten))] h Exit.ret (.inl rfl)  rfl ⟨RV.tmp _ _ rfl,trivial⟩ ?_
     have hi:i=xss.length:=by omega
     subst hi
     rw [List.take_length];first | done | rfl
theorem STAdd (s t:zbb) (hs:TOk 400 15000 s) (ht:TOk 400 15000 t):Fn Tryz.prog 164 [] [(vT s),(vT t)] (vd (addT s t).d) []:=by
 have ks:=hs.kl
 have kt:=ht.kl
 have ls:=hs.len
 have lt:=ht.len
 refine Fn.body Tryz.func164 rfl 18 rfl fun w H B a h=>?_
 refine rq za0 0 [] [(2,vp 0 0),(3,vp 1 0),(4,vp 2 0)] [(0,.box (zT s)),(1,.box (zT t)),(2,.box [.d (.raw za6),cB false,.d (nsl [])])] h ?_;clear h;intro a w h
 obtain ⟨r2,er2,vr2,or2,lr2⟩:=mkZ (v:=s.k.val+t.k.val) (m:=s.k.abs.length+t.k.abs.length+1) (zd8 hs.kb ht.kb)
 refine rq za0 3 [(4,.gen _ _ _ fun _ _ _ _=>Op.buildD (d:=9) (len:=2) (rows:=[s.parts,t.parts].map (slD 3 za2.d)) (rs:=[(6,(vPs s.parts)),(8,(vPs t.parts))]) tm_4 (.cons (i:=0) (OV.tmp 6 _) (.cons (i:=1) (OV.tmp 8 _) (.nil))) (by kernel_rfl) rfl (by simp [slD]) (by decide) (by decide)),(5,.call (Fn.cast (SConcat [s.parts,t.parts] (by simp only [List.map_cons,List.map_nil,List.sum_cons,List.sum_nil];omega) (by simp)) (show _=((vPs (s.parts++t.parts)):V) by simp)) tm_5),(10,.call (Fn.cast (SAdd s.k t.k hs.kb ht.kb (by omega) (by omega)) (congrArg vz er2.symm)) tl_9),(12,.call (zev (zbb.mk (s.parts++t.parts) r2) (TOk.add hs ht r2 or2 (by have:=hs.kl;have:=ht.kl;omega)) (by decide) (by decide)) tm_7)] [(4,vp 2 0)] [(2,.box (zT (za3 (zbb.mk (s.parts++t.parts) r2))))] h ?_;clear h;intro a w h
 refine wp_ret ?_
 refine zap [.agg (zT (za3 (zbb.mk (s.parts++t.parts) r2)))] h Exit.ret (.inl rfl)  rfl ⟨RV.agg _ 2 0 _ _ _ _ tb_11 rfl rfl rfl rfl,trivial⟩ ?_
 rw [er2];first | done | rfl
theorem SNumber (k:ZI) (hk:Lb k.abs) (lk:k.abs.length≤40000):Fn Tryz.prog 145 [] [vz k] (vd (numT k).d) []:=by
 refine Fn.body Tryz.func145 rfl 6 rfl fun w H B a h=>?_
 refine rq za0 0 [] [(1,vp 0 0),(2,vp 1 0)] [(0,.box (zi k)),(1,.box [.d (.raw za6),cB false,.d (nsl [])])] h ?_;clear h;intro a w h
 obtain ⟨r1,er1,vr1,or1,lr1⟩:=mkZ (v:=k.val) (m:=k.abs.length) (zci hk)
 refine rq za0 2 [(1,.call (Fn.cast (zde k hk (by omega)) (congrArg vz er1.symm)) tl_5)] [(2,vp 1 0)] [(1,.box ([.d (.raw za6)]++zi r1))] h ?_;clear h;intro a w h
 refine wp_ret ?_
 replace h:=zd7 1 0 3 ([.d (.raw za6)]++zi r1) [(2,vp 1 0)] [(1,.box ([cPs []]++zi r1))] h rfl rfl
 refine zap [.agg ([cPs []]++zi r1)] h Exit.ret (.inl rfl)  rfl ⟨RV.agg _ 1 0 _ _ _ _ tb_11 rfl rfl rfl rfl,trivial⟩ ?_
 rw [er1];first | done | rfl
theorem SScale (t:zbb) (q:ZI) {n L M:Nat} (ht:TOk n L t) (hn:n≤1000) (hq:Lb q.abs) (lq:q.abs.length≤M) (hL:L+M≤40000):Fn Tryz.prog 147 [] [(vT t),vz q] (vd (zei t q).d) []:=by
 have kt:=ht.kl
 have nt:=ht.len
 refine Fn.body Tryz.func147 rfl 35 rfl fun w H B a h=>?_
 refine rq za0 0 [] [(2,vp 0 0),(3,vp 1 0),(4,vp 2 0)] [(0,.box (zT t)),(1,.box (zi q)),(2,.box [.d (.raw za6),cB false,.d (nsl [])])] h ?_;clear h;intro a w h
 obtain ⟨r1,er1,vr1,or1,lr1⟩:=mkZ (v:=t.k.val*q.val) (m:=t.k.abs.length+q.abs.length) (zgi ht.kb hq)
 refine rq za0 3 [(3,.call (Fn.cast (SMul t.k q ht.kb hq (by omega) (by omega)) (congrArg vz er1.symm)) tm_12)] [(2,vp 0 0),(3,vp 1 0),(4,vp 2 0),(5,vp 3 0)] [(0,.box (zT t)),(1,.box (zi q)),(2,.box [.d (.raw za6),cB false,.d (nsl [])]),(3,.box ([.d (.raw za6)]++zi r1))] h ?_;clear h;intro a w h
 refine wp_seq ?_
 replace h:=nilOLs 3 0 4 3 100 ([.d (.raw za6)]++zi r1) [(2,vp 0 0),(3,vp 1 0),(4,vp 2 0),(5,vp 3 0)] [(0,.box (zT t)),(1,.box (zi q)),(2,.box [.d (.raw za6),cB false,.d (nsl [])]),(3,.box ([.own 4 0]++zi r1)),(4,.row 100 3 ([].map za2.d))] h (by kernel_rfl) rfl rfl
 refine rq za0 5 [(2,.len (c:=(cPs t.parts)) (n:=t.parts.length) (zae _ _ _))] [(3,vp 1 0),(4,vp 2 0),(5,vp 3 0),(14,(vPs t.parts)),(15,vi .i64 (t.parts.length:Int)),(16,vi .i64 0)] [(1,.box (zi q)),(2,.box [.d (.raw za6),cB false,.d (nsl [])]),(3,.box ([.own 4 0]++zi r1)),(4,.row 100 3 ([].map za2.d))] h ?_;clear h;intro a w h
 refine wp_block ?_
 refine zb1 (ι:=(Nat) × (List za2)) (fun (z_:(Nat) × (List za2))=>match z_ with | (j,out)=>out=(t.parts.take j).map (fun p=>za2.mk p.v (ZI.of (p.c.val*q.val)))∧j≤t.parts.length∧out.length≤j)
   (fun (z_:(Nat) × (List za2))=>match z_ with | (j,out)=>[(3,vp 1 0),(4,vp 2 0),(5,vp 3 0),(14,(vPs t.parts)),(15,vi .i64 (t.parts.length:Int)),(16,vi .i64 (j:Int))])
   (fun (z_:(Nat) × (List za2))=>match z_ with | (j,out)=>[(1,.box (zi q)),(2,.box [.d (.raw za6),cB false,.d (nsl [])]),(3,.box ([.own 4 out.length]++zi r1)),(4,.row 100 3 (out.map za2.d))])
   (fun (z_:(Nat) × (List za2))=>match z_ with | (j,out)=>t.parts.length - j) (0,[]) ?_ h (by kernel_rfl) (by kernel_rfl) ?_
 ·exact ⟨by simp,Nat.zero_le _,Nat.zero_le _⟩
 ·clear h;rintro ⟨j,out⟩ a w hI h
  change St _ (F.of [(3,vp 1 0),(4,vp 2 0),(5,vp 3 0),(14,(vPs t.parts)),(15,vi .i64 (t.parts.length:Int)),(16,vi .i64 (j:Int))] [(1,.box (zi q)),(2,.box [.d (.raw za6),cB false,.d (nsl [])]),(3,.box ([.own 4 out.length]++zi r1)),(4,.row 100 3 (out.map za2.d))]) a w at h
  obtain ⟨hI1,hI2,hI3⟩:=hI
  refine rq za0 5 [] [(3,vp 1 0),(4,vp 2 0),(5,vp 3 0),(14,(vPs t.parts)),(15,vi .i64 (t.parts.length:Int)),(16,vi .i64 (j:Int)),(17,vb (decide ((j:Int)<(t.parts.length:Int))))] [(1,.box (zi q)),(2,.box [.d (.raw za6),cB false,.d (nsl [])]),(3,.box ([.own 4 out.length]++zi r1)),(4,.row 100 3 (out.map za2.d))] h ?_;clear h;intro a w h
  refine wp_seq ?_
  refine zaa (decide ((j:Int)<(t.parts.length:Int))) h rfl (fun hc=>?_) (fun hc=>?_)
  ·have hc1:=hc;clear hc
   have hc1':=of_decide_eq_true hc1
   refine wp_skip (za4 (wp_seq (wp_block ?_)))
   obtain ⟨x2,hx2⟩:∃ z_:za2,t.parts[j]?=some z_:=⟨_,List.getElem?_eq_getElem (by first | omega | (simp at *;omega))⟩
   obtain ⟨ox2,lx2⟩:=ht.get hx2
   refine rq za0 5 [(0,.gen _ _ _ fun _ _ _ _=>Op.idxD (d:=18) (t:=14) (k := .i64) zc0 (zal hx2 (f:=za2.d)) (OV.tmp 16 _))] [(3,vp 1 0),(4,vp 2 0),(5,vp 3 0),(7,vp 5 0),(14,(vPs t.parts)),(15,vi .i64 (t.parts.length:Int)),(16,vi .i64 (j:Int))] [(1,.box (zi q)),(2,.box [.d (.raw za6),cB false,.d (nsl [])]),(3,.box ([.own 4 out.length]++zi r1)),(4,.row 100 3 (out.map za2.d)),(5,.box ([cI x2.v]++zi x2.c))] h ?_;clear h;intro a w h
   obtain ⟨r3,er3,vr3,or3,lr3⟩:=mkZ (v:=x2.c.val*q.val) (m:=x2.c.abs.length+q.abs.length) (zgi ox2 hq)
   refine rn za0 6 [(7,.call (Fn.cast (SMul x2.c q ox2 hq (by omega) (by omega)) (congrArg vz er3.symm)) tm_12),(9,.gen _ _ _ fun _ _ _ _=>Op.buildD (d:=29) (len:=1) (rows:=[(za2.mk x2.v r3)].map za2.d) (rs:=[(28,.t (.agg ([cI x2.v]++zi r3)))]) tb_9 (.cons (i:=0) (OV.tmp 28 _) (.nil)) (by kernel_rfl) rfl (by simp [za2.d]) (by decide) (by decide)),(10,.gen _ _ _ fun _ _ _ _=>Op.appOD (d:=30) (t:=21) (u:=29) (n:=4) (n':=6) (len:=out.length) (len':=(out++[(za2.mk x2.v r3)]).length) (rows:=out.map za2.d) (rows2:=[(za2.mk x2.v r3)].map za2.d) (rows':=(out++[(za2.mk x2.v r3)]).map za2.d) zh4 (by first | exact (List.length_map _).symm | simp) (by first | (rw [List.length_append,List.length_map];done) | simp) (by simp) (by simp [za2.d]) (by first | omega | (simp at *;done) | (simp at *;omega)))] [(3,vp 1 0),(4,vp 2 0),(5,vp 3 0),(14,(vPs t.parts)),(15,vi .i64 (t.parts.length:Int)),(16,vi .i64 (j:Int))] [(1,.box (zi q)),(2,.box [.d (.raw za6),cB false,.d (nsl [])]),(3,.box ([.own 6 (out++[(za2.mk x2.v r3)]).length]++zi r1)),(6,.row 100 3 ((out++[(za2.mk x2.v r3)]).map za2.d))] h ?_;clear h;intro a w h
   refine zac (za4 (rn za0 7 [(0,.add .i64 (m:=(j:Int)) (n:=1) (zad (by omega) (by omega)))] [(3,vp 1 0),(4,vp 2 0),(5,vp 3 0),(14,(vPs t.parts)),(15,vi .i64 (t.parts.length:Int)),(16,vi .i64 ((j:Int)+1))] [(1,.box (zi q)),(2,.box [.d (.raw za6),cB false,.d (nsl [])]),(3,.box ([.own 6 (out++[(za2.mk x2.v r3)]).length]++zi r1)),(6,.row 100 3 ((out++[(za2.mk x2.v r3)]).map za2.d))] h ?_));clear h;intro a w h
   refine za4 ?_
   replace h:=zc7 6 4 [(3,vp 1 0),(4,vp 2 0),(5,vp 3 0),(14,(vPs t.parts)),(15,vi .i64 (t.parts.length:Int)),(16,vi .i64 ((j:Int)+1))] [(1,.box (zi q)),(2,.box [.d (.raw za6),cB false,.d (nsl [])]),(3,.box ([.own 4 (out++[(za2.mk x2.v r3)]).length]++zi r1)),(4,.row 100 3 ((out++[(za2.mk x2.v r3)]).map za2.d))] h
   refine zam (x:=(j,out)) (y:=(j+1,(out++[(za2.mk x2.v r3)]))) h ?_ ?_
   ·refine ⟨?_,by have:=zak hx2;omega,by simp;omega⟩
    rw [take_map hx2,← hI1,er3]
   ·simp;omega
  ·have hc2:=hc;clear hc
   have hc2':=of_decide_eq_false hc2
   refine wp_exit (zai (zai (za8 (za4 ?_))))
   have hj:j=t.parts.length:=by have:=hc2';omega
   rw [hj,List.take_length] at hI1
   have hq2:zbb.mk out r1=mulT t q:=by rw [hI1,er1];first | done | rfl
   replace h:=pubS 4 3 100 (out.map za2.d) [(3,vp 1 0),(4,vp 2 0),(5,vp 3 0),(14,(vPs t.parts)),(15,vi .i64 (t.parts.length:Int)),(16,vi .i64 (j:Int)),(17,vb (decide ((j:Int)<(t.parts.length:Int))))] [(1,.box (zi q)),(2,.box [.d (.raw za6),cB false,.d (nsl [])]),(3,.box ([cPs out]++zi r1))] h rfl trivial (show zc5 _ [out.length] from ⟨by first | exact (List.length_map _).symm | simp,trivial⟩)
   refine rq za0 7 [(1,.call ((show Fn _ _ _ [vd (zbb.mk out r1).d] _ _ from by rw [hq2];exact zev (mulT t q) (TOk.mul ht hq lq) (by omega) (by omega))) tm_7)] [(4,vp 2 0)] [(2,.box (zT (zei t q)))] h ?_;clear h;intro a w h
   refine wp_ret ?_
   refine zap [.agg (zT (zei t q))] h Exit.ret (.inl rfl)  rfl ⟨RV.agg _ 2 0 _ _ _ _ tb_11 rfl rfl rfl rfl,trivial⟩ ?_
   rfl
theorem SNeg3 (t:zbb) (ht:TOk 400 10000 t):Fn Tryz.prog 121 [] [(vT t)] (vd (negT t).d) []:=by
 refine Fn.body Tryz.func121 rfl 6 rfl fun w H B a h=>?_
 refine rq za0 0 [] [(1,vp 0 0),(2,vp 1 0)] [(0,.box (zT t)),(1,.box [.d (.raw za6),cB false,.d (nsl [])])] h ?_;clear h;intro a w h
 obtain ⟨r1,er1,vr1,or1,lr1⟩:=mkZ (v:=(-1)) (m:=2) (ZI.len_of (by have:=pw2;omega))
 refine rq za0 2 [(1,.call (Fn.cast (SOf (-1) ⟨by omega,by omega⟩) (congrArg vz er1.symm)) tm_10),(2,.call (SScale t r1 ht (by decide) or1 lr1 (by decide)) tm_13)] [(2,vp 1 0)] [(1,.box (zT (zei t r1)))] h ?_;clear h;intro a w h
 refine wp_ret ?_
 refine zap [.agg (zT (zei t r1))] h Exit.ret (.inl rfl)  rfl ⟨RV.agg _ 1 0 _ _ _ _ tb_11 rfl rfl rfl rfl,trivial⟩ ?_
 rw [er1];first | done | rfl
theorem STSub (s t:zbb) (hs:TOk 400 10000 s) (ht:TOk 400 10000 t):Fn Tryz.prog 144 [] [(vT s),(vT t)] (vd (subT s t).d) []:=by
 refine Fn.body Tryz.func144 rfl 9 rfl fun w H B a h=>?_
 refine rq za0 0 [] [(2,vp 0 0),(3,vp 1 0),(4,vp 2 0)] [(0,.box (zT s)),(1,.box (zT t)),(2,.box [.d (.raw za6),cB false,.d (nsl [])])] h ?_;clear h;intro a w h
 refine rq za0 3 [(2,.call (SNeg3 t (ht.mono (by decide) (by decide))) tm_14),(3,.call (STAdd s (negT t) (hs.mono (by decide) (by decide)) (((TOk.mul ht (ZI.lb_of _) (show (ZI.of (-1)).abs.length≤2 from by decide)).plain (by decide)).mono (by decide) (by decide))) tm_15)] [(4,vp 2 0)] [(2,.box (zT (addT s (negT t))))] h ?_;clear h;intro a w h
 refine wp_ret ?_
 refine zap [.agg (zT (addT s (negT t)))] h Exit.ret (.inl rfl)  rfl ⟨RV.agg _ 2 0 _ _ _ _ tb_11 rfl rfl rfl rfl,trivial⟩ ?_
 rfl
end
section
open Go.RowKit

theorem plainT_eq {t u:zbb} (h1:SR u.parts) (h2:∀ q ∈ u.parts,0≤q.v∧q.c=ZI.of q.c.val∧q.c.val≠0) (h3:∀ v,zav t.parts v=zav u.parts v) (h4:u.k=ZI.of t.k.val):za3 t=u:=by
 obtain ⟨v1,v2⟩:=varsZ_ok t.parts
 have hp:(zfd t.parts).map (zdw t.parts)=u.parts:=by
  refine SR.unique (List.pairwise_map.2 v1) h1 (fun q hq=>?_) h2 fun v=>?_
  ·obtain ⟨v,hv,rfl⟩:=List.mem_map.1 hq
   have hv:=(v2 v).1 hv
   exact ⟨(zbs hv).1,by simp [zdw,ZI.val_of],by simpa [zdw,ZI.val_of] using hv⟩
  ·rw [← h3 v]
   by_cases hv:0≤v
   ·rw [zg6 t.parts v hv v1]
    by_cases h:v ∈ zfd t.parts
    ·rw [if_pos h]
    ·rw [if_neg h];exact (Classical.byContradiction fun e=>h ((v2 v).2 fun e2=>e e2.symm))
   ·have z1:zav t.parts v=0:=Classical.byContradiction fun e=>hv (zbs e).1
    have z2:zav ((zfd t.parts).map (zdw t.parts)) v=0:=Classical.byContradiction fun e=>hv (zbs e).1
    rw [z1,z2]
 cases u with
 | mk ps k =>
  simp only at hp h4
  unfold za3
  rw [h4,← hp];rfl
theorem zdh (t:zbb):SR (za3 t).parts∧(∀ q ∈ (za3 t).parts,0≤q.v∧q.c=ZI.of q.c.val∧q.c.val≠0)∧∀ v,zav (za3 t).parts v=zav t.parts v:=by
 obtain ⟨v1,v2⟩:=varsZ_ok t.parts
 refine ⟨List.pairwise_map.2 v1,fun q hq=>?_,fun v=>?_⟩
 ·obtain ⟨v,hv,rfl⟩:=List.mem_map.1 hq
  have hv:=(v2 v).1 hv
  exact ⟨(zbs hv).1,by simp [ZI.val_of],by simpa [ZI.val_of] using hv⟩
 ·show zav ((zfd t.parts).map (zdw t.parts)) v=_
  by_cases hv:0≤v
  ·rw [zg6 t.parts v hv v1]
   by_cases h:v ∈ zfd t.parts
   ·rw [if_pos h]
   ·rw [if_neg h];exact (Classical.byContradiction fun e=>h ((v2 v).2 fun e2=>e e2.symm))
  ·have z1:zav t.parts v=0:=Classical.byContradiction fun e=>hv (zbs e).1
   have z2:zav ((zfd t.parts).map (zdw t.parts)) v=0:=Classical.byContradiction fun e=>hv (zbs e).1
   rw [z1,z2]
theorem zcn (t:zbb):za3 (za3 t)=za3 t:=by
 obtain ⟨h1,h2,h3⟩:=zdh t
 refine plainT_eq h1 h2 (fun v=>rfl) ?_
 simp [za3,ZI.val_of]
end
section
def idxI (v:Int):List Int→Nat→Int
  | [],_=>-1
  | x :: xs,n=>if v=x then n else idxI v xs (n+1)
end
section
open Go.RowKit

theorem to_7:za7 Tryz.prog 145:=za7.mk' (by kernel_rfl)
theorem to_9:za7 Tryz.prog 144:=za7.mk' (by kernel_rfl)
end
section
open Go.RowKit

section
variable {P:Program}
theorem Op.raw2c {b:Builtin} {d:Nat} {x y:Operand} {v v' u:Value} {rs rs':List (Nat × V)} {tys:Array TypeId} {ty:TypeId} {pos af gd} (h:OV x (.t (.c (.d (.raw v)))) rs) (h':OV y (.t (.c (.d (.raw v')))) rs') (hf:flat u=true)
  (hrun:∀ (cs:Array Bool) w,(builtin b tys ty cs #[v,v']).run P w = .ok (.value u) w):zb9 P ⟨some d,.call { callee := .builtin b,args:=#[x,y],argTypes:=tys }, ty,pos,af,gd⟩ { rs:=rs++rs', ws:=[(d,some (.t (.c (.d (.raw u)))))] } :=
 Op.raw2 rfl h h' hf fun ρ w h1 h2=>by
  have e1:(Array.map ρ #[x,y])=#[ρ x,ρ y]:=by simp
  simp only [execOp,resolve,e1,h1,h2,Sem.run_bind,Sem.run_pure,Result.andThen_ok,invoke,hrun]
theorem Op.min2 {d:Nat} {x y:Operand} {k:IntKind} {m n r:Int} {rs rs':List (Nat × V)} {tys:Array TypeId} {ty:TypeId} {pos af gd} (h:OV x (vi k m) rs) (h':OV y (vi k n) rs') (he:r=min m n) :
  zb9 P ⟨some d,.call { callee := .builtin .min,args:=#[x,y],argTypes:=tys }, ty,pos,af,gd⟩ { rs:=rs++rs', ws:=[(d,some (vi k r))] }:=by
 subst he
 refine Op.raw2c h h' rfl fun cs w=>?_
 by_cases hc:n<m
 ·simp [builtin,Builtin.min_,Builtin.min2,hc,Int.min_eq_right (Int.le_of_lt hc)]
 ·simp [builtin,Builtin.min_,Builtin.min2,hc,Int.min_eq_left (Int.not_lt.1 hc)]
end
end
section
open Go.RowKit

theorem SPlainO0 (t:zbb) (ht:PsOk 40000 t.parts) (hk:Lb t.k.abs) (lk:t.k.abs.length≤40000):Fn Tryz.prog 47 [] [(vT t)] (.t (.agg ([.own 0 (za3 t).parts.length]++zi (za3 t).k))) [(0,.row 100 3 ((za3 t).parts.map za2.d))]:=by
 have ln:=ht.1
 refine Fn.body Tryz.func47 rfl 74 rfl fun w H B a h=>?_
 refine rq za0 5 [] [(1,vp 5 0),(2,vp 6 0)] [(5,.box (zT t)),(6,.box [.d (.raw za6),cB false,.d (nsl [])])] h ?_;clear h;intro a w h
 refine rq za0 7 [(2,.call (SClone t.parts (by omega)) tl_3)] [(1,vp 5 0),(2,vp 6 0),(3,.t (.c (.own 0 t.parts.length)))] [(5,.box (zT t)),(6,.box [.d (.raw za6),cB false,.d (nsl [])]),(0,.row 100 3 (t.parts.map za2.d))] h ?_;clear h;intro a w h
 refine rq za0 7 [(1,.call (zfp t.parts (by omega)) tl_4)] [(1,vp 5 0),(2,vp 6 0),(3,.t (.c (.own 0 t.parts.length)))] [(5,.box (zT t)),(6,.box [.d (.raw za6),cB false,.d (nsl [])]),(0,.row 100 3 ((ssV za2.v t.parts).map za2.d))] h ?_;clear h;intro a w h
 obtain ⟨r3,er3,vr3,or3,lr3⟩:=mkZ (v:=t.k.val) (m:=t.k.abs.length) (zci hk)
 refine rq za0 7 [(2,.call (Fn.cast (zde t.k hk (by omega)) (congrArg vz er3.symm)) tl_5)] [(2,vp 6 0),(3,.t (.c (.own 0 t.parts.length))),(4,vp 7 0)] [(6,.box [.d (.raw za6),cB false,.d (nsl [])]),(0,.row 100 3 ((ssV za2.v t.parts).map za2.d)),(7,.box ([.d (.raw za6)]++zi r3))] h ?_;clear h;intro a w h
 refine wp_seq ?_
 replace h:=nilOLs 7 0 8 3 100 ([.d (.raw za6)]++zi r3) [(2,vp 6 0),(3,.t (.c (.own 0 t.parts.length))),(4,vp 7 0)] [(6,.box [.d (.raw za6),cB false,.d (nsl [])]),(0,.row 100 3 ((ssV za2.v t.parts).map za2.d)),(7,.box ([.own 8 0]++zi r3)),(8,.row 100 3 ([].map za2.d))] h (by kernel_rfl) rfl rfl
 refine rq za0 9 [] [(2,vp 6 0),(4,vp 7 0),(17,.t (.c (.own 0 t.parts.length))),(18,vi .i64 (t.parts.length:Int)),(19,vi .i64 0)] [(6,.box [.d (.raw za6),cB false,.d (nsl [])]),(0,.row 100 3 ((ssV za2.v t.parts).map za2.d)),(7,.box ([.own 8 0]++zi r3)),(8,.row 100 3 ([].map za2.d))] h ?_;clear h;intro a w h
 refine wp_block ?_
 refine zb1 (ι:=(Nat) × (List za2)) (fun (z_:(Nat) × (List za2))=>match z_ with | (j,out)=>out=(zf7 ((ssV za2.v t.parts).take j))∧j≤(ssV za2.v t.parts).length∧out.length≤j∧MOk 40000 j out)
   (fun (z_:(Nat) × (List za2))=>match z_ with | (j,out)=>[(2,vp 6 0),(4,vp 7 0),(17,.t (.c (.own 0 t.parts.length))),(18,vi .i64 (t.parts.length:Int)),(19,vi .i64 (j:Int))])
   (fun (z_:(Nat) × (List za2))=>match z_ with | (j,out)=>[(6,.box [.d (.raw za6),cB false,.d (nsl [])]),(0,.row 100 3 ((ssV za2.v t.parts).map za2.d)),(7,.box ([.own 8 out.length]++zi r3)),(8,.row 100 3 (out.map za2.d))])
   (fun (z_:(Nat) × (List za2))=>match z_ with | (j,out)=>(ssV za2.v t.parts).length - j) (0,[]) ?_ h (by kernel_rfl) (by kernel_rfl) ?_
 ·exact ⟨by simp [zf7],Nat.zero_le _,Nat.zero_le _,fun q hq=>(by cases hq)⟩
 ·clear h;rintro ⟨j,out⟩ a w hI h
  change St _ (F.of [(2,vp 6 0),(4,vp 7 0),(17,.t (.c (.own 0 t.parts.length))),(18,vi .i64 (t.parts.length:Int)),(19,vi .i64 (j:Int))] [(6,.box [.d (.raw za6),cB false,.d (nsl [])]),(0,.row 100 3 ((ssV za2.v t.parts).map za2.d)),(7,.box ([.own 8 out.length]++zi r3)),(8,.row 100 3 (out.map za2.d))]) a w at h
  obtain ⟨hI1,hI2,hI3,hI4⟩:=hI
  have ln:=ht.1
  have ls:(ssV za2.v t.parts).length=t.parts.length:=zaz _
  refine rq za0 9 [] [(2,vp 6 0),(4,vp 7 0),(17,.t (.c (.own 0 t.parts.length))),(18,vi .i64 (t.parts.length:Int)),(19,vi .i64 (j:Int)),(20,vb (decide ((j:Int)<(t.parts.length:Int))))] [(6,.box [.d (.raw za6),cB false,.d (nsl [])]),(0,.row 100 3 ((ssV za2.v t.parts).map za2.d)),(7,.box ([.own 8 out.length]++zi r3)),(8,.row 100 3 (out.map za2.d))] h ?_;clear h;intro a w h
  refine wp_seq ?_
  refine zaa (decide ((j:Int)<(t.parts.length:Int))) h rfl (fun hc=>?_) (fun hc=>?_)
  ·have hc1:=hc;clear hc
   have hc1':=of_decide_eq_true hc1
   refine wp_skip (za4 (wp_seq (wp_block ?_)))
   obtain ⟨x4,hx4⟩:∃ z_:za2,(ssV za2.v t.parts)[j]?=some z_:=⟨_,List.getElem?_eq_getElem (by first | omega | (simp at *;omega))⟩
   obtain ⟨ox4,lx4⟩:=ht.get_mem (zc3 (List.mem_of_getElem? hx4))
   refine rq za0 9 [(0,.gen _ _ _ fun _ _ _ _=>Op.idxO (d:=21) (t:=17) (k := .i64) (n:=0) (len:=t.parts.length) (i:=j) zc0 (by first | omega | (simp at *;omega)) (OV.tmp 19 _)),(1,.gen _ _ _ fun _ _ _ _=>Op.loadR_agg (d:=22) (t:=21) (n:=0) (i:=j) (fo:=0) (rty:=100) (es:=3) (xs:=[.raw (.int .i64 x4.v),.raw (.bool x4.c.neg),nsl x4.c.abs]) zfg rfl (zal hx4 (f:=za2.d)) rfl rfl)] [(2,vp 6 0),(4,vp 7 0),(6,vp 9 0),(17,.t (.c (.own 0 t.parts.length))),(18,vi .i64 (t.parts.length:Int)),(19,vi .i64 (j:Int))] [(6,.box [.d (.raw za6),cB false,.d (nsl [])]),(0,.row 100 3 ((ssV za2.v t.parts).map za2.d)),(7,.box ([.own 8 out.length]++zi r3)),(8,.row 100 3 (out.map za2.d)),(9,.box ([cI x4.v]++zi x4.c))] h ?_;clear h;intro a w h
   refine wp_seq (rq za0 10 [] [(2,vp 6 0),(4,vp 7 0),(6,vp 9 0),(17,.t (.c (.own 0 t.parts.length))),(18,vi .i64 (t.parts.length:Int)),(19,vi .i64 (j:Int)),(25,vb (decide (x4.v<0)))] [(6,.box [.d (.raw za6),cB false,.d (nsl [])]),(0,.row 100 3 ((ssV za2.v t.parts).map za2.d)),(7,.box ([.own 8 out.length]++zi r3)),(8,.row 100 3 (out.map za2.d)),(9,.box ([cI x4.v]++zi x4.c))] h ?_);clear h;intro a w h
   refine zaa (decide (x4.v<0)) h rfl (fun hc=>?_) (fun hc=>?_)
   ·have hc2:=hc;clear hc
    have hc2':=of_decide_eq_true hc2
    refine wp_exit (zai (za8 (za4 (rn za0 10 [(0,.add .i64 (m:=(j:Int)) (n:=1) (zad (by omega) (by omega)))] [(2,vp 6 0),(4,vp 7 0),(17,.t (.c (.own 0 t.parts.length))),(18,vi .i64 (t.parts.length:Int)),(19,vi .i64 ((j:Int)+1))] [(6,.box [.d (.raw za6),cB false,.d (nsl [])]),(0,.row 100 3 ((ssV za2.v t.parts).map za2.d)),(7,.box ([.own 8 out.length]++zi r3)),(8,.row 100 3 (out.map za2.d))] h ?_))));clear h;intro a w h
    refine za4 ?_
    have hst:(zf7 ((ssV za2.v t.parts).take (j+1)))=zay out x4:=by rw [hI1,show ((ssV za2.v t.parts).take (j+1):List za2)=(ssV za2.v t.parts).take j++[x4] from by rw [List.take_add_one,hx4];rfl,zbl]
    have hst2:=mrg_neg (out:=out) hc2'
    refine zam (x:=(j,out)) (y:=((j+1),out)) h ?_ ?_
    ·exact ⟨by rw [hst,hst2],(by have:=zak hx4;omega),by omega,by have hh:=hI4.step (ht.get_mem (zc3 (List.mem_of_getElem? hx4)));rw [hst2] at hh;exact hh⟩
    ·show (ssV za2.v t.parts).length - (j+1)<(ssV za2.v t.parts).length - j
     have:=zak hx4;omega
   ·have hc3:=hc;clear hc
    have hc3':=of_decide_eq_false hc3
    refine wp_skip (za4 ?_)
    rcases Nat.eq_zero_or_pos out.length with hz | hz
    ·refine rq za0 10 [(3,.gen _ _ _ fun _ _ _ _=>Op.arith (op := .sub) (d:=29) (xt:=3) (yt:=3) (k := .i64) (m:=(out.length:Int)) (n:=1) (r:=(-1)) (OV.tmp 28 _) (OV.const (.int .i64 1) rfl) (.inr (.inl ⟨rfl,(by omega)⟩)) (zad (by omega) (by omega)))] [(2,vp 6 0),(4,vp 7 0),(6,vp 9 0),(7,vi .i64 (-1)),(17,.t (.c (.own 0 t.parts.length))),(18,vi .i64 (t.parts.length:Int)),(19,vi .i64 (j:Int))] [(6,.box [.d (.raw za6),cB false,.d (nsl [])]),(0,.row 100 3 ((ssV za2.v t.parts).map za2.d)),(7,.box ([.own 8 out.length]++zi r3)),(8,.row 100 3 (out.map za2.d)),(9,.box ([cI x4.v]++zi x4.c))] h ?_;clear h;intro a w h
     refine rq za0 10 [(1,.cmp (op := .geq) (m:=(-1)) (n:=0) (b:=false) .i64 rfl)] [(2,vp 6 0),(4,vp 7 0),(6,vp 9 0),(7,vi .i64 (-1)),(17,.t (.c (.own 0 t.parts.length))),(18,vi .i64 (t.parts.length:Int)),(19,vi .i64 (j:Int)),(42,vb false)] [(6,.box [.d (.raw za6),cB false,.d (nsl [])]),(0,.row 100 3 ((ssV za2.v t.parts).map za2.d)),(7,.box ([.own 8 out.length]++zi r3)),(8,.row 100 3 (out.map za2.d)),(9,.box ([cI x4.v]++zi x4.c))] h ?_;clear h;intro a w h
     refine zaa false h rfl (fun hc=>?_) (fun hc=>?_)
     ·cases hc
     ·clear hc
      obtain ⟨r5,er5,vr5,or5,lr5⟩:=mkZ (v:=x4.c.val) (m:=x4.c.abs.length) (zci ox4)
      refine rn za0 10 [(6,.call (Fn.cast (zde x4.c ox4 (by omega)) (congrArg vz er5.symm)) tl_5),(8,.gen _ _ _ fun _ _ _ _=>Op.buildD (d:=65) (len:=1) (rows:=[(za2.mk x4.v r5)].map za2.d) (rs:=[(64,.t (.agg ([cI x4.v]++zi r5)))]) tb_9 (.cons (i:=0) (OV.tmp 64 _) (.nil)) (by kernel_rfl) rfl (by simp [za2.d]) (by decide) (by decide)),(9,.gen _ _ _ fun _ _ _ _=>Op.appOD (d:=66) (t:=58) (u:=65) (n:=8) (n':=10) (len:=out.length) (len':=(out++[(za2.mk x4.v r5)]).length) (rows:=out.map za2.d) (rows2:=[(za2.mk x4.v r5)].map za2.d) (rows':=(out++[(za2.mk x4.v r5)]).map za2.d) zh4 (by first | exact (List.length_map _).symm | simp) (by first | (rw [List.length_append,List.length_map];done) | simp) (by simp) (by simp [za2.d]) (by first | omega | (simp at *;done) | (simp at *;omega)))] [(2,vp 6 0),(4,vp 7 0),(17,.t (.c (.own 0 t.parts.length))),(18,vi .i64 (t.parts.length:Int)),(19,vi .i64 (j:Int))] [(6,.box [.d (.raw za6),cB false,.d (nsl [])]),(0,.row 100 3 ((ssV za2.v t.parts).map za2.d)),(7,.box ([.own 10 (out++[(za2.mk x4.v r5)]).length]++zi r3)),(10,.row 100 3 ((out++[(za2.mk x4.v r5)]).map za2.d))] h ?_;clear h;intro a w h
      refine zac (za4 (rn za0 11 [(0,.add .i64 (m:=(j:Int)) (n:=1) (zad (by omega) (by omega)))] [(2,vp 6 0),(4,vp 7 0),(17,.t (.c (.own 0 t.parts.length))),(18,vi .i64 (t.parts.length:Int)),(19,vi .i64 ((j:Int)+1))] [(6,.box [.d (.raw za6),cB false,.d (nsl [])]),(0,.row 100 3 ((ssV za2.v t.parts).map za2.d)),(7,.box ([.own 10 (out++[(za2.mk x4.v r5)]).length]++zi r3)),(10,.row 100 3 ((out++[(za2.mk x4.v r5)]).map za2.d))] h ?_));clear h;intro a w h
      refine za4 ?_
      have hst:(zf7 ((ssV za2.v t.parts).take (j+1)))=zay out x4:=by rw [hI1,show ((ssV za2.v t.parts).take (j+1):List za2)=(ssV za2.v t.parts).take j++[x4] from by rw [List.take_add_one,hx4];rfl,zbl]
      have hst2:=mrg_nil hc3' hz
      replace h:=zc7 10 8 [(2,vp 6 0),(4,vp 7 0),(17,.t (.c (.own 0 t.parts.length))),(18,vi .i64 (t.parts.length:Int)),(19,vi .i64 ((j:Int)+1))] [(6,.box [.d (.raw za6),cB false,.d (nsl [])]),(0,.row 100 3 ((ssV za2.v t.parts).map za2.d)),(7,.box ([.own 8 (out++[(za2.mk x4.v r5)]).length]++zi r3)),(8,.row 100 3 ((out++[(za2.mk x4.v r5)]).map za2.d))] h
      refine zam (x:=(j,out)) (y:=((j+1),(out++[(za2.mk x4.v r5)]))) h ?_ ?_
      ·have hnew:(out++[(za2.mk x4.v r5)])=zay out x4:=by rw [hst2,er5]
       exact ⟨by rw [hst];exact hnew,(by have:=zak hx4;omega),by rw [List.length_append];simp only [List.length_cons,List.length_nil];omega,by rw [hnew];exact hI4.step (ht.get_mem (zc3 (List.mem_of_getElem? hx4)))⟩
      ·show (ssV za2.v t.parts).length - (j+1)<(ssV za2.v t.parts).length - j
       have:=zak hx4;omega
    ·obtain ⟨k,hk1⟩:∃ k,out.length=k+1:=⟨out.length - 1,by omega⟩
     refine rq za0 11 [(3,.gen _ _ _ fun _ _ _ _=>Op.arith (op := .sub) (d:=29) (xt:=3) (yt:=3) (k := .i64) (m:=(out.length:Int)) (n:=1) (r:=(k:Int)) (OV.tmp 28 _) (OV.const (.int .i64 1) rfl) (.inr (.inl ⟨rfl,(by omega)⟩)) (zad (by omega) (by omega)))] [(2,vp 6 0),(4,vp 7 0),(6,vp 9 0),(7,vi .i64 (k:Int)),(17,.t (.c (.own 0 t.parts.length))),(18,vi .i64 (t.parts.length:Int)),(19,vi .i64 (j:Int))] [(6,.box [.d (.raw za6),cB false,.d (nsl [])]),(0,.row 100 3 ((ssV za2.v t.parts).map za2.d)),(7,.box ([.own 8 out.length]++zi r3)),(8,.row 100 3 (out.map za2.d)),(9,.box ([cI x4.v]++zi x4.c))] h ?_;clear h;intro a w h
     obtain ⟨x6,hx6⟩:∃ z_:za2,out[k]?=some z_:=⟨_,List.getElem?_eq_getElem (by first | omega | (simp at *;omega))⟩
     obtain ⟨ox6,lx6⟩:=hI4.lb (List.mem_of_getElem? hx6) (by omega)
     refine rq za0 11 [(1,.cmp (op := .geq) (m:=(k:Int)) (n:=0) (b:=true) .i64 (show decide ((k:Int)≥0)=true from decide_eq_true (by omega))),(6,.gen _ _ _ fun _ _ _ _=>Op.idxO (d:=36) (t:=34) (k := .i64) (n:=8) (len:=out.length) (i:=k) zc0 (by first | omega | (simp at *;omega)) (OV.tmp 35 _)),(8,.gen _ _ _ fun _ _ _ _=>Op.loadR_c (d:=38) (t:=37) (n:=8) (i:=k) (fo:=0) (rty:=100) (es:=3) (x:=(.raw (.int .i64 x6.v))) tl_7 rfl (zal hx6 (f:=za2.d)) rfl)] [(2,vp 6 0),(4,vp 7 0),(6,vp 9 0),(7,vi .i64 (k:Int)),(17,.t (.c (.own 0 t.parts.length))),(18,vi .i64 (t.parts.length:Int)),(19,vi .i64 (j:Int)),(42,vb (x6.v == x4.v))] [(6,.box [.d (.raw za6),cB false,.d (nsl [])]),(0,.row 100 3 ((ssV za2.v t.parts).map za2.d)),(7,.box ([.own 8 out.length]++zi r3)),(8,.row 100 3 (out.map za2.d)),(9,.box ([cI x4.v]++zi x4.c))] h ?_;clear h;intro a w h
     refine zaa (x6.v == x4.v) h rfl (fun hc=>?_) (fun hc=>?_)
     ·have hc4:=hc;clear hc
      have hc4':=hc4;(try simp at hc4')
      obtain ⟨r7,er7,vr7,or7,lr7⟩:=mkZ (v:=x6.c.val+x4.c.val) (m:=x6.c.abs.length+x4.c.abs.length+1) (zd8 ox6 ox4)
      refine rn za0 11 [(6,.gen _ _ _ fun _ _ _ _=>Op.idxO (d:=49) (t:=47) (k := .i64) (n:=8) (len:=out.length) (i:=k) zc0 (by first | omega | (simp at *;omega)) (OV.tmp 48 _)),(8,.gen _ _ _ fun _ _ _ _=>Op.loadR_agg (d:=51) (t:=50) (n:=8) (i:=k) (fo:=1) (rty:=100) (es:=3) (xs:=[.raw (.bool x6.c.neg),nsl x6.c.abs]) zdf rfl (zal hx6 (f:=za2.d)) rfl rfl),(11,.call (Fn.cast (SAdd x6.c x4.c ox6 ox4 (by omega) (by omega)) (congrArg vz er7.symm)) tl_9),(12,.gen _ _ _ fun _ _ _ _=>Op.idxO (d:=55) (t:=44) (k := .i64) (n:=8) (len:=out.length) (i:=k) zc0 (by first | omega | (simp at *;omega)) (OV.tmp 45 _)),(14,.gen _ _ _ fun _ _ _ _=>Op.storeR (t:=56) (n:=8) (i:=k) (fo:=1) (rty:=100) (es:=3) (r:=za2.d x6) (ds:=[.raw (.bool r7.neg),nsl r7.abs]) (rs:=[(54,vz r7)]) (rows:=out.map za2.d) (rows':=(out.set k (za2.mk x6.v r7)).map za2.d) zdf (OV.tmp 54 _) rfl rfl rfl (zal hx6 (f:=za2.d)) (by simp [za2.d]) (zck (xs:=out) (F:=za2.d) k _ _ rfl))] [(2,vp 6 0),(4,vp 7 0),(17,.t (.c (.own 0 t.parts.length))),(18,vi .i64 (t.parts.length:Int)),(19,vi .i64 (j:Int))] [(6,.box [.d (.raw za6),cB false,.d (nsl [])]),(0,.row 100 3 ((ssV za2.v t.parts).map za2.d)),(7,.box ([.own 8 out.length]++zi r3)),(8,.row 100 3 ((out.set k (za2.mk x6.v r7)).map za2.d))] h ?_;clear h;intro a w h
      refine zac (za4 (rn za0 11 [(0,.add .i64 (m:=(j:Int)) (n:=1) (zad (by omega) (by omega)))] [(2,vp 6 0),(4,vp 7 0),(17,.t (.c (.own 0 t.parts.length))),(18,vi .i64 (t.parts.length:Int)),(19,vi .i64 ((j:Int)+1))] [(6,.box [.d (.raw za6),cB false,.d (nsl [])]),(0,.row 100 3 ((ssV za2.v t.parts).map za2.d)),(7,.box ([.own 8 out.length]++zi r3)),(8,.row 100 3 ((out.set k (za2.mk x6.v r7)).map za2.d))] h ?_));clear h;intro a w h
      refine za4 ?_
      have hst:(zf7 ((ssV za2.v t.parts).take (j+1)))=zay out x4:=by rw [hI1,show ((ssV za2.v t.parts).take (j+1):List za2)=(ssV za2.v t.parts).take j++[x4] from by rw [List.take_add_one,hx4];rfl,zbl]
      replace h:=h.conv (f':=F.of [(2,vp 6 0),(4,vp 7 0),(17,.t (.c (.own 0 t.parts.length))),(18,vi .i64 (t.parts.length:Int)),(19,vi .i64 ((j:Int)+1))] [(6,.box [.d (.raw za6),cB false,.d (nsl [])]),(0,.row 100 3 ((ssV za2.v t.parts).map za2.d)),(7,.box ([.own 8 (out.set k (za2.mk x6.v r7)).length]++zi r3)),(8,.row 100 3 ((out.set k (za2.mk x6.v r7)).map za2.d))]) (by rw [List.length_set])
      have hst2:=zfy hc3' hk1 hx6 (by simpa using hc4)
      refine zam (x:=(j,out)) (y:=((j+1),(out.set k (za2.mk x6.v r7)))) h ?_ ?_
      ·have hnew:(out.set k (za2.mk x6.v r7))=zay out x4:=by rw [hst2,er7]
       exact ⟨by rw [hst];exact hnew,(by have:=zak hx4;omega),by rw [List.length_set];omega,by rw [hnew];exact hI4.step (ht.get_mem (zc3 (List.mem_of_getElem? hx4)))⟩
      ·show (ssV za2.v t.parts).length - (j+1)<(ssV za2.v t.parts).length - j
       have:=zak hx4;omega
     ·have hc5:=hc;clear hc
      have hc5':=hc5;(try simp at hc5')
      obtain ⟨r8,er8,vr8,or8,lr8⟩:=mkZ (v:=x4.c.val) (m:=x4.c.abs.length) (zci ox4)
      refine rn za0 11 [(6,.call (Fn.cast (zde x4.c ox4 (by omega)) (congrArg vz er8.symm)) tl_5),(8,.gen _ _ _ fun _ _ _ _=>Op.buildD (d:=65) (len:=1) (rows:=[(za2.mk x4.v r8)].map za2.d) (rs:=[(64,.t (.agg ([cI x4.v]++zi r8)))]) tb_9 (.cons (i:=0) (OV.tmp 64 _) (.nil)) (by kernel_rfl) rfl (by simp [za2.d]) (by decide) (by decide)),(9,.gen _ _ _ fun _ _ _ _=>Op.appOD (d:=66) (t:=58) (u:=65) (n:=8) (n':=11) (len:=out.length) (len':=(out++[(za2.mk x4.v r8)]).length) (rows:=out.map za2.d) (rows2:=[(za2.mk x4.v r8)].map za2.d) (rows':=(out++[(za2.mk x4.v r8)]).map za2.d) zh4 (by first | exact (List.length_map _).symm | simp) (by first | (rw [List.length_append,List.length_map];done) | simp) (by simp) (by simp [za2.d]) (by first | omega | (simp at *;done) | (simp at *;omega)))] [(2,vp 6 0),(4,vp 7 0),(17,.t (.c (.own 0 t.parts.length))),(18,vi .i64 (t.parts.length:Int)),(19,vi .i64 (j:Int))] [(6,.box [.d (.raw za6),cB false,.d (nsl [])]),(0,.row 100 3 ((ssV za2.v t.parts).map za2.d)),(7,.box ([.own 11 (out++[(za2.mk x4.v r8)]).length]++zi r3)),(11,.row 100 3 ((out++[(za2.mk x4.v r8)]).map za2.d))] h ?_;clear h;intro a w h
      refine zac (za4 (rn za0 12 [(0,.add .i64 (m:=(j:Int)) (n:=1) (zad (by omega) (by omega)))] [(2,vp 6 0),(4,vp 7 0),(17,.t (.c (.own 0 t.parts.length))),(18,vi .i64 (t.parts.length:Int)),(19,vi .i64 ((j:Int)+1))] [(6,.box [.d (.raw za6),cB false,.d (nsl [])]),(0,.row 100 3 ((ssV za2.v t.parts).map za2.d)),(7,.box ([.own 11 (out++[(za2.mk x4.v r8)]).length]++zi r3)),(11,.row 100 3 ((out++[(za2.mk x4.v r8)]).map za2.d))] h ?_));clear h;intro a w h
      refine za4 ?_
      have hst:(zf7 ((ssV za2.v t.parts).take (j+1)))=zay out x4:=by rw [hI1,show ((ssV za2.v t.parts).take (j+1):List za2)=(ssV za2.v t.parts).take j++[x4] from by rw [List.take_add_one,hx4];rfl,zbl]
      have hst2:=mrg_new hc3' hk1 hx6 (by simpa using hc5)
      replace h:=zc7 11 8 [(2,vp 6 0),(4,vp 7 0),(17,.t (.c (.own 0 t.parts.length))),(18,vi .i64 (t.parts.length:Int)),(19,vi .i64 ((j:Int)+1))] [(6,.box [.d (.raw za6),cB false,.d (nsl [])]),(0,.row 100 3 ((ssV za2.v t.parts).map za2.d)),(7,.box ([.own 8 (out++[(za2.mk x4.v r8)]).length]++zi r3)),(8,.row 100 3 ((out++[(za2.mk x4.v r8)]).map za2.d))] h
      refine zam (x:=(j,out)) (y:=((j+1),(out++[(za2.mk x4.v r8)]))) h ?_ ?_
      ·have hnew:(out++[(za2.mk x4.v r8)])=zay out x4:=by rw [hst2,er8]
       exact ⟨by rw [hst];exact hnew,(by have:=zak hx4;omega),by rw [List.length_append];simp only [List.length_cons,List.length_nil];omega,by rw [hnew];exact hI4.step (ht.get_mem (zc3 (List.mem_of_getElem? hx4)))⟩
      ·show (ssV za2.v t.parts).length - (j+1)<(ssV za2.v t.parts).length - j
       have:=zak hx4;omega
  ·have hc6:=hc;clear hc
   have hc6':=of_decide_eq_false hc6
   refine wp_exit (zai (zai (za8 (za4 ?_))))
   replace h:=atS (sl':=[(2,vp 6 0),(4,vp 7 0)]) (lc':=[(6,.box [.d (.raw za6),cB false,.d (nsl [])]),(7,.box ([.own 8 out.length]++zi r3)),(8,.row 100 3 (out.map za2.d))]) h
   replace h:=zc7 8 0 [(2,vp 6 0),(4,vp 7 0)] [(6,.box [.d (.raw za6),cB false,.d (nsl [])]),(7,.box ([.own 0 out.length]++zi r3)),(0,.row 100 3 (out.map za2.d))] h
   refine rq za0 12 [(2,.call (SDeleteFZ isZ out (fun p hp=>SPlain2 p (hI4.lb hp (by omega)).1 (by have:=(hI4.lb hp (by omega)).2;omega)) (by omega)) tl_10)] [(2,vp 6 0),(4,vp 7 0)] [(6,.box [.d (.raw za6),cB false,.d (nsl [])]),(7,.box ([.own 0 (out.filter (fun p=>!isZ p)).length]++zi r3)),(0,.row 100 3 ((out.filter (fun p=>!isZ p)).map za2.d))] h ?_;clear h;intro a w h
   refine rq za0 12 [] [(2,vp 6 0)] [(6,.box ([.own 0 (out.filter (fun p=>!isZ p)).length]++zi r3)),(0,.row 100 3 ((out.filter (fun p=>!isZ p)).map za2.d))] h ?_;clear h;intro a w h
   refine wp_ret ?_
   have hj:j=(ssV za2.v t.parts).length:=by omega
   have hpl:(out.filter (fun p=>!isZ p))=(za3 t).parts:=by rw [hI1,hj,List.take_length,plain_law];first | done | rfl
   replace h:=h.conv (f':=F.of [(2,vp 6 0)] [(6,.box ([.own 0 (za3 t).parts.length]++zi r3)),(0,.row 100 3 ((out.filter (fun p=>!isZ p)).map za2.d))]) (by rw [hpl])
   replace h:=h.conv (f':=F.of [(2,vp 6 0)] [(6,.box ([.own 0 (za3 t).parts.length]++zi r3)),(0,.row 100 3 ((za3 t).parts.map za2.d))]) (congrArg (fun (z_:List za2)=>F.of [(2,vp 6 0)] [(6,.box ([.own 0 (za3 t).parts.length]++zi r3)),(0,.row 100 3 (z_.map za2.d))]) (show ((out.filter (fun p=>!isZ p)):List za2)=(za3 t).parts from hpl))
   refine zap [.agg ([.own 0 (za3 t).parts.length]++zi r3)] h Exit.ret (.inl rfl)  rfl ⟨RV.agg _ 6 0 _ _ _ _ tb_11 rfl rfl rfl rfl,trivial⟩ ?_
   rw [er3];first | done | rfl
theorem SPlainO (t:zbb) {n L:Nat} (h:TOk n L t) (hn:n≤1000) (hL:L≤40000):Fn Tryz.prog 47 [] [vd t.d] (.t (.agg ([.own 0 (za3 t).parts.length]++zi (za3 t).k))) [(0,.row 100 3 ((za3 t).parts.map za2.d))] :=
 have h':=h.mono hn hL
 SPlainO0 t h'.psok h'.kb h'.kl
theorem mov_at {F:za2→za2} {xs:List za2} {j:Nat} {x:za2} (h:xs[j]?=some x):((xs.take j).map F++xs.drop j)[j]?=some x:=by
 obtain ⟨hj,rfl⟩:=List.getElem?_eq_some_iff.1 h
 rw [List.getElem?_append_right (by rw [List.length_map,List.length_take];omega),List.length_map,List.length_take,Nat.min_eq_left (by omega),Nat.sub_self,List.drop_eq_getElem_cons hj];rfl
theorem mov_set {F:za2→za2} {xs:List za2} {j:Nat} {x:za2} (h:xs[j]?=some x):((xs.take j).map F++xs.drop j).set j (F x)=(xs.take (j+1)).map F++xs.drop (j+1):=by
 obtain ⟨hj,rfl⟩:=List.getElem?_eq_some_iff.1 h
 have hl:((xs.take j).map F).length=j:=by rw [List.length_map,List.length_take];omega
 have e:xs.take (j+1)=xs.take j++[xs[j]]:=by rw [List.take_add_one,h];rfl
 rw [List.set_append_right _ _ (by omega),hl,Nat.sub_self,List.drop_eq_getElem_cons hj,List.set_cons_zero,e,List.map_append,List.append_assoc];rfl
end
section
open Go.RowKit
end
section
open Go.RowKit
end
end Go.Proofs.YtcppcnfmgpphcaaGreat.S
section
namespace Go.Proofs
open Go.Shelf
def Tryz.lays128_ren:Go.Shelf.Ren:=⟨fun | 128=>181 | n=>n,fun | 51=>102 | 3=>3 | 4=>4 | 46=>153 | 5=>5 | 9=>9 | n=>n,fun | n=>n⟩
theorem Tryz.lays128:Go.Proofs.Lays.n128 Tryz.prog Tryz.lays128_ren:={
 mixed:=by kernel_rfl
 f128:=Tryz.func181.trans (congrArg some (by kernel_rfl))
 t3:=Tryz.underlying3
 a3:=Tryz.isAgg3
 z3:=Tryz.sizeOf3
 v3:=Tryz.zeroValue3
 t4:=Tryz.underlying4
 a4:=Tryz.isAgg4
 z4:=Tryz.sizeOf4
 v4:=Tryz.zeroValue4
 t5:=Tryz.underlying5
 a5:=Tryz.isAgg5
 z5:=Tryz.sizeOf5
 v5:=Tryz.zeroValue5
 t9:=Tryz.underlying9
 a9:=Tryz.isAgg9
 z9:=Tryz.sizeOf9
 v9:=Tryz.zeroValue9
 t46:=Tryz.underlying153
 a46:=Tryz.isAgg153
 z46:=Tryz.sizeOf153
 v46:=Tryz.zeroValue153
 t51:=Tryz.underlying102
 a51:=Tryz.isAgg102
 z51:=Tryz.sizeOf102
 v51:=Tryz.zeroValue102 }
theorem Tryz.bits_Len32 (x:Int) (w:World) (h0:0≤x) (h1:x≤4294967295) :
  Calls Tryz.prog 181 #[.int .u32 x] w fun e w'=>e = .returned (.int .i64 (Lib.bitLen x.toNat))∧w'=w:=Any.bits_Len32 Tryz.lays128 x w h0 h1
def Tryz.lays133_ren:Go.Shelf.Ren:=⟨fun | 133=>174 | 128=>181 | n=>n,fun | 51=>102 | 3=>3 | 4=>4 | 46=>153 | 5=>5 | 9=>9 | n=>n,fun | n=>n⟩
theorem Tryz.lays133:Go.Proofs.Lays.n133 Tryz.prog Tryz.lays133_ren:={
 mixed:=by kernel_rfl
 f128:=Tryz.func181.trans (congrArg some (by kernel_rfl))
 f133:=Tryz.func174.trans (congrArg some (by kernel_rfl))
 t3:=Tryz.underlying3
 a3:=Tryz.isAgg3
 z3:=Tryz.sizeOf3
 v3:=Tryz.zeroValue3
 t4:=Tryz.underlying4
 a4:=Tryz.isAgg4
 z4:=Tryz.sizeOf4
 v4:=Tryz.zeroValue4
 t5:=Tryz.underlying5
 a5:=Tryz.isAgg5
 z5:=Tryz.sizeOf5
 v5:=Tryz.zeroValue5
 t9:=Tryz.underlying9
 a9:=Tryz.isAgg9
 z9:=Tryz.sizeOf9
 v9:=Tryz.zeroValue9
 t46:=Tryz.underlying153
 a46:=Tryz.isAgg153
 z46:=Tryz.sizeOf153
 v46:=Tryz.zeroValue153
 t51:=Tryz.underlying102
 a51:=Tryz.isAgg102
 z51:=Tryz.sizeOf102
 v51:=Tryz.zeroValue102 }
theorem Tryz.bits_LeadingZeros32 (x:Int) (w:World) (h0:0≤x) (h1:x≤4294967295) :
  Calls Tryz.prog 174 #[.int .u32 x] w fun e w'=>e = .returned (.int .i64 (32 - (Lib.bitLen x.toNat:Int)))∧w'=w:=Any.bits_LeadingZeros32 Tryz.lays133 x w h0 h1
end Go.Proofs
end
section
namespace Go.Proofs.YtcppcnfmgpphcaaGreat
open Go.RowKit

def bl (x:Nat):Nat:=Lib.bitLen x
theorem bl_half {x:Nat} (h0:x≠0) (h:x<18446744073709551616):bl x=1+bl (x / 2):=Lib.bitLen_half x h0 h
theorem bl_pow:∀ (k x:Nat),k≤63→2 ^ k≤x→x<2 ^ (k+1)→bl x=k+1
 | 0,x,_,h1,h2=>by
  have:x=1:=by omega
  subst this
  decide +kernel
 | k+1,x,hk,h1,h2=>by
  have hlt:x<18446744073709551616:=Nat.lt_of_lt_of_le h2 (by have:=Nat.pow_le_pow_right (n:=2) (by omega) (show k+1+1≤64 by omega);exact this)
  have hp:0<2 ^ (k+1):=Nat.two_pow_pos _
  rw [bl_half (by omega) hlt]
  rw [Nat.pow_succ] at h1 h2
  have:=bl_pow k (x / 2) (by omega) (by omega) (by rw [Nat.pow_succ] at h2 ⊢;omega)
  omega
theorem bl_spec {x:Nat} (h0:x≠0) (h:x<4294967296):1≤bl x∧bl x≤32∧2 ^ (bl x - 1)≤x∧x<2 ^ bl x:=by
 have h1:=Nat.log2_self_le h0
 have h2:x<2 ^ (x.log2+1):=Nat.lt_log2_self
 have h3:x.log2<32:=(Nat.log2_lt h0).2 h
 have h4:=bl_pow x.log2 x (by omega) h1 h2
 rw [h4]
 exact ⟨by omega,by omega,by simpa using h1,h2⟩

theorem Lead32_any (x:Nat) (hx:x<4294967296) (w:World) :
  Calls Tryz.prog 174 #[.int .u32 x] w fun e w'=>e = .returned (.int .i64 (32 - (bl x:Int)))∧w=w' :=
 (Tryz.bits_LeadingZeros32 x w (by omega) (by omega)).mono fun _ _ ⟨h1,h2⟩=>⟨by rw [h1,Int.toNat_natCast];rfl,h2.symm⟩

theorem shl_fit (x r:Nat) (hx:x<4294967296) (hr:r<32):x*2 ^ r<9223372036854775808:=by
 have h1:2 ^ r≤2 ^ 31:=Nat.pow_le_pow_right (by omega) (by omega)
 have h2:x*2 ^ r≤4294967295*2147483648:=Nat.mul_le_mul (by omega) h1
 omega
theorem shl_wrap (x r:Nat) (hx:x<4294967296) (hr:r<32):IntKind.u64.wrap ((x:Int)*2 ^ r)=((x*2 ^ r:Nat):Int):=by
 have h:=shl_fit x r hx hr
 have e:((x:Int)*2 ^ r)=((x*2 ^ r:Nat):Int):=by rw [Int.natCast_mul,Int.natCast_pow];rfl
 rw [e,IntKind.wrap_u64]
 omega
theorem or_shift (x r c:Nat) (hx:x<4294967296) (hr:r<32) (hc:c<2 ^ r):bits BinOp.or .u64 ((x*2 ^ r:Nat):Int) (c:Int)=((x*2 ^ r+c:Nat):Int):=by
 have h:=shl_fit x r hx hr
 have h2:2 ^ r≤2 ^ 31:=Nat.pow_le_pow_right (by omega) (by omega)
 rw [bits_or_u64_nat _ _ (by omega) (by omega)]
 rw [Nat.mul_comm,← Nat.two_pow_add_eq_or_of_lt hc]
theorem left_step {zs xs:List Nat} {q r k carry s:Nat} (hl:zs.length=q+k) (h:val zs+pw (q+k)*carry=pw q*(2 ^ r*vk xs k)) (hs:s=lim xs k*2 ^ r+carry) :
  Hid (val (zs++[s % 4294967296])+pw (q+(k+1))*(s / 4294967296)=pw q*(2 ^ r*vk xs (k+1))):=by
 unfold Hid
 rw [zcx,hl,← Nat.add_assoc,zau,zb2]
 have h1:=zcq (pw (q+k)) s
 have h2:pw q*(2 ^ r*(vk xs k+pw k*lim xs k))=pw q*(2 ^ r*vk xs k)+pw (q+k)*(lim xs k*2 ^ r):=by
  rw [Nat.mul_add,Nat.mul_add,zed]
  congr 1
  rw [Nat.mul_assoc (pw q),Nat.mul_left_comm (2 ^ r),Nat.mul_comm (2 ^ r)]
 have h3:pw (q+k)*s=pw (q+k)*(lim xs k*2 ^ r)+pw (q+k)*carry:=by rw [hs,Nat.mul_add]
 omega

def LeftR (w:World) (xs:List Nat) (q r:Nat) (out cr i:Value) (wr:World):Prop :=
  ∃ (k carry:Nat) (po:Option Addr) (pc:Nat) (zs:List Nat),k≤xs.length∧i = .int .i64 k∧out = .slice po zs.length pc∧cr = .int .u64 carry∧carry<2 ^ r∧Hid (zs.length=q+k)∧Own wr w.heap.size po pc zs∧Ext w wr ∧
    Hid (val zs+pw (q+k)*carry=pw q*(2 ^ r*vk xs k))

def GotE (w:World) (m:Nat) (er:Int) (e:Ending) (w':World):Prop:=∃ ao c zs,e = .returned (.tuple #[.slice ao zs.length c,.int .i64 er])∧Own w' w.heap.size ao c zs∧zby zs∧val zs=m∧Ext w w'

set_option maxHeartbeats 2000000 in
theorem Left_any (ao:Option Addr) (n c:Nat) (xs:List Nat) (E:Int) (K:Nat) (w:World) (hn:n=xs.length) (hE:E=(K:Int)) (ha:Rd w ao c xs) (hl:xs.length≤1000000) (hk:K≤1048576) :
  Calls Tryz.prog 175 #[.slice ao n c,.int .i64 E] w (GotE w (val xs*2 ^ K) 0):=by
 subst hn hE
 have hA:=ha.trm
 have lA:=zeb xs
 have mA:=hA.mx
 have cA:=hA.cap
 rw [← zbv xs]
 obtain ⟨q,hq⟩:∃ q,q=K / 32:=⟨_,rfl⟩
 obtain ⟨r,hr⟩:∃ r,r=K % 32:=⟨_,rfl⟩
 have hq1:(K:Int) / 32=(q:Int):=by omega
 have hr1:(K:Int) % 32=(r:Int):=by omega
 have hqb:q≤32768:=by omega
 have hrb:r<32:=by omega
 have hpk:2 ^ K=pw q*2 ^ r:=by
  unfold pw
  rw [show (4294967296:Nat)=2 ^ 32 from rfl,← Nat.pow_mul,← Nat.pow_add];congr 1;omega
 have Hpk:=Lib.hid hpk
 clear hpk hq hr
 go_enter Tryz.func175,Tryz.ntmps175
 go_wp2_with fail
 refine (zat ao _ c xs w rfl ha).mono ?_
 rintro e w' ⟨rfl,rfl⟩
 go_wp2_with (at_make;refine mkn rfl _ _ rfl _ _ _ _ rfl rfl ?_ ?_ ?_ (Ext.refl w) ?_;omega;omega;omega;intro w1 hown hx0 hext)
 rw [Int.toNat_natCast] at hown
 go_loopw [8,9,34] (LeftR w (trm xs) q r) (fun _ _ i _=>((trm xs).length - intOf i).toNat)
 case atStart=>exact ⟨0,0,_,_,List.replicate q 0,by omega,rfl,by simp;omega,rfl,Nat.two_pow_pos r,by simp [Hid],hown,hext,by unfold Hid;rw [zbf,zcj];simp⟩
 case round =>
  obtain ⟨k,carry,po,pc,zs,hk,rfl,rfl,rfl,hc,hzl,hown,hext,heq⟩:=hrel
  by_cases hkA:k<(trm xs).length
  ·have hx:=(hA.ext hext).cell k hkA
   have hix:=ixk hA (trm xs).length rfl k hkA wr
   have bx:=zb5 hA.lb k
   have hwr:=shl_wrap (lim (trm xs) k) r bx hrb
   have hor:=or_shift (lim (trm xs) k) r carry bx hrb hc
   have hft:=shl_fit (lim (trm xs) k) r bx hrb
   have hst:=left_step hzl.out heq.out rfl
   have hcd:(lim (trm xs) k*2 ^ r+carry) / 4294967296<2 ^ r:=by
    rw [Nat.div_lt_iff_lt_mul (by omega)]
    have h2:(lim (trm xs) k+1)*2 ^ r≤4294967296*2 ^ r:=Nat.mul_le_mul_right _ bx
    rw [Nat.add_mul] at h2
    rw [Nat.mul_comm (2 ^ r)]
    omega
   have hcs:carry<4294967296:=Nat.lt_of_lt_of_le hc (by have:2 ^ r≤2 ^ 31:=Nat.pow_le_pow_right (by omega) (by omega);omega)
   obtain ⟨X,hX⟩:∃ X,X=lim (trm xs) k*2 ^ r:=⟨_,rfl⟩
   rw [← hX] at hwr hor hft hst hcd
   have hzb:zs.length≤1100000:=by have:=hzl.out;omega
   have Hcd:=Lib.hid hcd
   clear hX hcd hc heq
   go_wp2_with (at_builtin;refine push (wi:=w) rfl _ _ rfl _ _ zs _ rfl rfl hown _ ?_ ?_ rfl ?_ rfl hext ?_;omega;omega;omega;intro ao' c' w2 hown2 hext2)
   go_roundw
   case rel=>exact ⟨k+1,(X+carry) / 4294967296,ao', c', zs++[(X+carry) % 4294967296],by omega,by go_num,by simp,by go_num,Hcd.out,by unfold Hid;rw [List.length_append,hzl.out];simp;omega,hown2.snocEq (by omega),hext2,hst⟩
   case measure=>simp [intOf];try omega
  ·have hv:val (zs++[(carry:Int).toNat])=val (trm xs)*2 ^ K:=by
    have h1:=heq.out
    have h2:=hzl.out
    rw [zba (by omega)] at h1
    rw [zcx,h2,Int.toNat_natCast,h1,Hpk.out,← Nat.mul_assoc,Nat.mul_comm]
   have hcs:carry<4294967296:=Nat.lt_of_lt_of_le hc (by have:2 ^ r≤2 ^ 31:=Nat.pow_le_pow_right (by omega) (by omega);omega)
   have hzb:zs.length≤1100000:=by have:=hzl.out;omega
   have Hv:=Lib.hid hv
   clear hv hc heq
   go_wp2_with (at_builtin;refine push (wi:=w) rfl _ _ rfl _ _ zs _ rfl rfl hown _ ?_ ?_ rfl ?_ rfl hext ?_;omega;omega;omega;intro ao' c' w2 hown2 hext2)
   refine (zc2 _ _ _ _ _ (by simp) hown2.rd (by simp;omega)).mono ?_
   intro e w' hg
   rw [Hv.out] at hg
   obtain ⟨ao3,c3,zs3,rfl,h1,h2,h3,h4⟩:=hg.from hext2
   go_wp2_with fail
   go_ret2
   exact ⟨ao3,c3,zs3,rfl,h1,h2,h3,h4⟩

end Go.Proofs.YtcppcnfmgpphcaaGreat
end
section
namespace Go.Proofs.YtcppcnfmgpphcaaGreat
open Go.RowKit

theorem low32 (s:Nat) (hs:s<18446744073709551616):bits BinOp.and .u64 (s:Int) 4294967295=((s % 4294967296:Nat):Int):=by
 have h:=bits_and_u64_nat s 4294967295 hs (by omega)
 have e:s &&& 4294967295=s % 4294967296:=Nat.and_two_pow_sub_one_eq_mod s 32
 rw [e] at h
 exact h

/-! ### windows -/
section
variable {w:World} {B g c:Nat} {zs:List Nat}
theorem Own.winCell (h:Own w B (some ⟨g,0,none⟩) c zs) (K i:Nat) (hi:K+i<zs.length):w.cell? ⟨g,K+i,none⟩=some (.int .u32 (lim zs (K+i))):=by
 have:=h.rd.cell (K+i) hi
 simp only [bk,of,Nat.zero_add] at this
 exact this
theorem Own.winFrozen (h:Own w B (some ⟨g,0,none⟩) c zs) (K i:Nat) (hp:0<zs.length):w.frozen? ⟨g,K+i,none⟩=false:=by
 have:=h.frozen hp (K+i)
 simp only [bk,of,Nat.zero_add] at this
 exact this
theorem Own.winStore (h:Own w B (some ⟨g,0,none⟩) c zs) (K i:Nat) (hi:K+i<zs.length) (E:Int) (y:Nat) (hE:E=(y:Int)) (hy:y<4294967296) :
  Own (w.setCell ⟨g,K+i,none⟩ (.int .u32 E)) B (some ⟨g,0,none⟩) c (zs.set (K+i) y)∧w.grownBy (w.setCell ⟨g,K+i,none⟩ (.int .u32 E)) (some g):=by
 have:=h.store (K+i) hi E y hE hy
 simp only [bk,of,Nat.zero_add] at this
 exact this
end
theorem winIx (g K m C i:Nat) (E:Int) (hE:E=(i:Int)) (hi:i<m) (w:World) :
   (Instr.indexAt 51 (.slice (some ⟨g,K,none⟩) m C) (.int .i64 E)).run Tryz.prog w = .ok (.pointer (some ⟨g,K+i,none⟩)) w:=by
  subst hE
  simp [Instr.indexAt,asIntOf,run_underlying und,hi,go_sem]

def TakeR (w:World) (B g c:Nat) (zs ys:List Nat) (K T:Nat) (cr br i:Value) (wr:World):Prop :=
  ∃ (k carry b:Nat) (qs:List Nat),k≤ys.length∧i = .int .i64 k∧cr = .int .u64 carry∧br = .int .u64 b∧carry<4294967296∧b≤1∧Hid (qs.length=zs.length)∧Own wr B (some ⟨g,0,none⟩) c qs∧w.grownBy wr (some g) ∧
    Hid (val qs+pw K*(T*vk ys k)=val zs+pw (K+k)*(carry+b))∧Hid (∀ t,K+ys.length<t→lim qs t=lim zs t)
def GotTake (w:World) (B g c:Nat) (zs ys:List Nat) (K T:Nat) (e:Ending) (w':World):Prop :=
  ∃ (b:Bool) (qs:List Nat),e = .returned (.bool b)∧qs.length=zs.length∧Own w' B (some ⟨g,0,none⟩) c qs∧w.grownBy w' (some g) ∧
    val qs+pw K*(T*val ys)=val zs+(if b then pw (K+(ys.length+1)) else 0)∧∀ t,K+ys.length<t→lim qs t=lim zs t

theorem take_step {zs qs ys:List Nat} {K T k carry b h y x:Nat} (hv:val qs+pw K*(T*vk ys k)=val zs+pw (K+k)*(carry+b)) (hK:K+k<qs.length)
  (hy:y+(T*lim ys k+carry) % 4294967296+b=lim qs (K+k)+4294967296*x) (hh:h=(T*lim ys k+carry) / 4294967296) :
  Hid (val (qs.set (K+k) y)+pw K*(T*vk ys (k+1))=val zs+pw (K+(k+1))*(h+x)):=by
 unfold Hid
 have h1:=zfe (y:=y) hK
 have h3:pw K*(T*vk ys (k+1))=pw K*(T*vk ys k)+pw (K+k)*(T*lim ys k):=by
  rw [zb2,Nat.mul_add,Nat.mul_add,zed]
  congr 1
  rw [← Nat.mul_assoc T,Nat.mul_comm T,Nat.mul_assoc (pw k),Nat.mul_assoc (pw K)]
 rw [← Nat.add_assoc K k 1,zau,h3]
 have h4:=zcq (pw (K+k)) (T*lim ys k+carry)
 rw [← hh] at h4
 have h5:pw (K+k)*(y+(T*lim ys k+carry) % 4294967296+b)=pw (K+k)*(lim qs (K+k)+4294967296*x):=by rw [hy]
 rw [Nat.mul_add,Nat.mul_add,Nat.mul_add] at h5
 rw [Nat.mul_add (pw (K+k)) (T*lim ys k)] at h4
 rw [Nat.mul_add] at hv
 rw [Nat.mul_add,Nat.mul_assoc,Nat.mul_assoc] 
 rw [Nat.mul_assoc] at h4
 have h6:pw (K+k)*(4294967296*x)=4294967296*(pw (K+k)*x):=Nat.mul_left_comm _ _ _
 omega

theorem take_end {zs qs ys:List Nat} {K T carry b y x:Nat} (hv:val qs+pw K*(T*vk ys ys.length)=val zs+pw (K+ys.length)*(carry+b)) (hK:K+ys.length<qs.length)
  (hy:y+(carry+b)=lim qs (K+ys.length)+4294967296*x) :
  val (qs.set (K+ys.length) y)+pw K*(T*val ys)=val zs+pw (K+(ys.length+1))*x:=by
 have h1:=zfe (y:=y) hK
 rw [zba (Nat.le_refl _)] at hv
 rw [← Nat.add_assoc K,zau]
 have h5:pw (K+ys.length)*(y+(carry+b))=pw (K+ys.length)*(lim qs (K+ys.length)+4294967296*x):=by rw [hy]
 rw [Nat.mul_add,Nat.mul_add,Nat.mul_add] at h5
 rw [Nat.mul_add] at hv
 have h6:pw (K+ys.length)*(4294967296*x)=4294967296*(pw (K+ys.length)*x):=Nat.mul_left_comm _ _ _
 rw [Nat.mul_assoc]
 omega

set_option maxHeartbeats 2000000 in
theorem takeAway_any (B g c:Nat) (zs:List Nat) (K m C:Nat) (bo:Option Addr) (n d:Nat) (ys:List Nat) (T:Nat) (w:World) (hn:n=ys.length) (hm:m=ys.length+1) (hK:K+m≤zs.length)
  (hown:Own w B (some ⟨g,0,none⟩) c zs) (hb:Rd w bo d ys) (hne:0<ys.length→bk bo≠g) (hT:T<4294967296) (hl:ys.length≤10000000) :
  Calls Tryz.prog 177 #[.slice (some ⟨g,K,none⟩) m C,.slice bo n d,.int .u64 T] w (GotTake w B g c zs ys K T):=by
 subst hn hm
 have mB:=hb.mx
 have cB:=hb.cap
 go_enter Tryz.func177,Tryz.ntmps177
 go_wp2_with fail
 go_loopw [7,8,19] (TakeR w B g c zs ys K T) (fun _ _ i _=>(ys.length - intOf i).toNat)
 case atStart=>exact ⟨0,0,0,zs,by omega,rfl,rfl,rfl,by omega,by omega,rfl,hown,World.grownBy.refl _ _,by unfold Hid;simp [zcj],fun _ _=>rfl⟩
 case round =>
  obtain ⟨k,carry,b,qs,hk,rfl,rfl,rfl,hc,hb1,hql,hqo,hqx,hqv,hqt⟩:=hrel
  by_cases hkB:k<ys.length
  ·have hy:=(hb.kept hqx hne).cell k hkB
   have hiy:=ixk hb ys.length rfl k hkB wr
   have bY:=zb5 hb.lb k
   have hkq:K+k<qs.length:=by have:=hql.out;omega
   have hqc:=hqo.winCell K k hkq
   have hiq:=winIx g K (ys.length+1) C k k rfl (by omega) wr
   have hf:=hqo.winFrozen K k (by omega)
   have bQ:=zb5 hqo.lb (K+k)
   have bp:=prod_lt hT bY
   obtain ⟨p,hp⟩:∃ p,p=T*lim ys k:=⟨_,rfl⟩
   have hst:=fun h y x=>take_step (h:=h) (y:=y) (x:=x) hqv.out hkq
   rw [← hp] at bp hst
   have hp':((T:Nat):Int)*((lim ys k:Nat):Int)=(p:Int):=by rw [hp,Int.natCast_mul]
   have hlow:bits BinOp.and .u64 ((p:Int)+(carry:Int)) 4294967295=((p:Int)+(carry:Int)) % 4294967296:=by
    have:=low32 (p+carry) (by omega)
    rw [Int.natCast_add] at this
    rw [this];omega
   clear hp hqv
   by_cases hlt:lim qs (K+k)<(p+carry) % 4294967296+b
   ·have hlt':((lim qs (K+k):Nat):Int)<((p:Int)+(carry:Int)) % 4294967296+(b:Int):=by omega
    go_wp2_with fail
    obtain ⟨y,hy⟩:∃ y,y=lim qs (K+k)+4294967296 - ((p+carry) % 4294967296+b):=⟨_,rfl⟩
    have hs1:=hqo.winStore K k hkq ((lim qs (K+k):Int)+4294967296 - (((p:Int)+(carry:Int)) % 4294967296+(b:Int))) y (by omega) (by omega)
    have hst1:=hst ((p+carry) / 4294967296) y 1 (by omega) rfl
    go_roundw
    case rel=>exact ⟨k+1,(p+carry) / 4294967296,1,_,by omega,by go_num,by go_num,by go_num,by omega,by omega,by unfold Hid;rw [List.length_set];exact hql.out,hs1.1,zcp hqx hs1.2,hst1,fun t ht=>by rw [zbr (by omega)];exact hqt.out t ht⟩
    case measure=>simp [intOf];try omega
   ·go_wp2_with fail
    obtain ⟨y,hy⟩:∃ y,y=lim qs (K+k) - ((p+carry) % 4294967296+b):=⟨_,rfl⟩
    have hs1:=hqo.winStore K k hkq ((lim qs (K+k):Int) - (((p:Int)+(carry:Int)) % 4294967296+(b:Int))) y (by omega) (by omega)
    have hst1:=hst ((p+carry) / 4294967296) y 0 (by omega) rfl
    go_roundw
    case rel=>exact ⟨k+1,(p+carry) / 4294967296,0,_,by omega,by go_num,by go_num,by go_num,by omega,by omega,by unfold Hid;rw [List.length_set];exact hql.out,hs1.1,zcp hqx hs1.2,hst1,fun t ht=>by rw [zbr (by omega)];exact hqt.out t ht⟩
    case measure=>simp [intOf];try omega
  ·obtain rfl:k=ys.length:=by omega
   have hkq:K+ys.length<qs.length:=by have:=hql.out;omega
   have hqc:=hqo.winCell K ys.length hkq
   have hiq:=winIx g K (ys.length+1) C ys.length ys.length rfl (by omega) wr
   have hf:=hqo.winFrozen K ys.length (by omega)
   have bQ:=zb5 hqo.lb (K+ys.length)
   have hst:=fun y x=>take_end (y:=y) (x:=x) hqv.out hkq
   clear hqv
   by_cases hlt:lim qs (K+ys.length)<carry+b
   ·have hlt':((lim qs (K+ys.length):Nat):Int)<(carry:Int)+(b:Int):=by omega
    go_wp2_with fail
    obtain ⟨y,hy⟩:∃ y,y=lim qs (K+ys.length)+4294967296 - (carry+b):=⟨_,rfl⟩
    have hs1:=hqo.winStore K ys.length hkq (IntKind.u64.wrap ((lim qs (K+ys.length):Int) - ((carry:Int)+(b:Int))) % 4294967296) y (by rw [IntKind.wrap_u64];omega) (by omega)
    have hst1:=hst y 1 (by omega)
    go_ret
    exact ⟨true,_,rfl,by rw [List.length_set];exact hql.out,hs1.1,zcp hqx hs1.2,by rw [hst1,Nat.mul_one,if_pos rfl],fun t ht=>by rw [zbr (by omega)];exact hqt.out t ht⟩
   ·have hlt':decide (((lim qs (K+ys.length):Nat):Int)<(carry:Int)+(b:Int))=false:=by simp;omega
    go_wp2_with fail
    obtain ⟨y,hy⟩:∃ y,y=lim qs (K+ys.length) - (carry+b):=⟨_,rfl⟩
    have hs1:=hqo.winStore K ys.length hkq ((lim qs (K+ys.length):Int) - ((carry:Int)+(b:Int))) y (by omega) (by omega)
    have hst1:=hst y 0 (by omega)
    go_ret
    exact ⟨false,_,rfl,by rw [List.length_set];exact hql.out,hs1.1,zcp hqx hs1.2,by rw [hst1,Nat.mul_zero,if_neg Bool.false_ne_true],fun t ht=>by rw [zbr (by omega)];exact hqt.out t ht⟩

def PutR (w:World) (B g c:Nat) (zs ys:List Nat) (K:Nat) (cr i:Value) (wr:World):Prop :=
  ∃ (k carry:Nat) (qs:List Nat),k≤ys.length∧i = .int .i64 k∧cr = .int .u64 carry∧carry≤1∧Hid (qs.length=zs.length)∧Own wr B (some ⟨g,0,none⟩) c qs∧w.grownBy wr (some g) ∧
    Hid (val qs+pw (K+k)*carry=val zs+pw K*vk ys k)∧Hid (∀ t,K+ys.length<t→lim qs t=lim zs t)
def GotPut (w:World) (B g c:Nat) (zs ys:List Nat) (K:Nat) (e:Ending) (w':World):Prop :=
  ∃ (x:Nat) (qs:List Nat),e = .returned (.tuple #[])∧x≤1∧qs.length=zs.length∧Own w' B (some ⟨g,0,none⟩) c qs∧w.grownBy w' (some g) ∧
    val qs+pw (K+(ys.length+1))*x=val zs+pw K*val ys∧∀ t,K+ys.length<t→lim qs t=lim zs t
theorem put_step {zs qs ys:List Nat} {K k carry s:Nat} (hv:val qs+pw (K+k)*carry=val zs+pw K*vk ys k) (hK:K+k<qs.length) (hs:s=lim qs (K+k)+lim ys k+carry) :
  Hid (val (qs.set (K+k) (s % 4294967296))+pw (K+(k+1))*(s / 4294967296)=val zs+pw K*vk ys (k+1)):=by
 unfold Hid
 have h1:=zfe (y:=s % 4294967296) hK
 have h2:=zcq (pw (K+k)) s
 have h3:pw K*vk ys (k+1)=pw K*vk ys k+pw (K+k)*lim ys k:=by
  rw [zb2,Nat.mul_add,zed,Nat.mul_assoc]
 rw [← Nat.add_assoc K k 1,zau,h3]
 have h4:pw (K+k)*s=pw (K+k)*lim qs (K+k)+pw (K+k)*lim ys k+pw (K+k)*carry:=by rw [hs,Nat.mul_add,Nat.mul_add]
 omega
theorem put_end {zs qs ys:List Nat} {K carry s:Nat} (hv:val qs+pw (K+ys.length)*carry=val zs+pw K*vk ys ys.length) (hK:K+ys.length<qs.length) (hs:s=lim qs (K+ys.length)+carry) :
  val (qs.set (K+ys.length) (s % 4294967296))+pw (K+(ys.length+1))*(s / 4294967296)=val zs+pw K*val ys:=by
 rw [zba (Nat.le_refl _)] at hv
 have h1:=zfe (y:=s % 4294967296) hK
 have h2:=zcq (pw (K+ys.length)) s
 rw [← Nat.add_assoc K ys.length 1,zau]
 have h4:pw (K+ys.length)*s=pw (K+ys.length)*lim qs (K+ys.length)+pw (K+ys.length)*carry:=by rw [hs,Nat.mul_add]
 omega

set_option maxHeartbeats 2000000 in
theorem putBack_any (B g c:Nat) (zs:List Nat) (K m C:Nat) (bo:Option Addr) (n d:Nat) (ys:List Nat) (w:World) (hn:n=ys.length) (hm:m=ys.length+1) (hK:K+m≤zs.length)
  (hown:Own w B (some ⟨g,0,none⟩) c zs) (hb:Rd w bo d ys) (hne:0<ys.length→bk bo≠g) (hl:ys.length≤10000000) :
  Calls Tryz.prog 178 #[.slice (some ⟨g,K,none⟩) m C,.slice bo n d] w (GotPut w B g c zs ys K):=by
 subst hn hm
 have mB:=hb.mx
 have cB:=hb.cap
 go_enter Tryz.func178,Tryz.ntmps178
 go_wp2_with fail
 go_loopw [4,10] (PutR w B g c zs ys K) (fun _ i _=>(ys.length - intOf i).toNat)
 case atStart=>exact ⟨0,0,zs,by omega,rfl,rfl,by omega,rfl,hown,World.grownBy.refl _ _,by unfold Hid;simp [zcj],fun _ _=>rfl⟩
 case round =>
  obtain ⟨k,carry,qs,hk,rfl,rfl,hc,hql,hqo,hqx,hqv,hqt⟩:=hrel
  by_cases hkB:k<ys.length
  ·have hy:=(hb.kept hqx hne).cell k hkB
   have hiy:=ixk hb ys.length rfl k hkB wr
   have bY:=zb5 hb.lb k
   have hkq:K+k<qs.length:=by have:=hql.out;omega
   have hqc:=hqo.winCell K k hkq
   have hiq:=winIx g K (ys.length+1) C k k rfl (by omega) wr
   have hf:=hqo.winFrozen K k (by omega)
   have bQ:=zb5 hqo.lb (K+k)
   have hst:=put_step hqv.out hkq rfl
   clear hqv
   go_wp2_with fail
   have hs1:=hqo.winStore K k hkq (((lim qs (K+k):Int)+(lim ys k:Int)+(carry:Int)) % 4294967296) ((lim qs (K+k)+lim ys k+carry) % 4294967296) (by omega) (by omega)
   go_roundw
   case rel=>exact ⟨k+1,(lim qs (K+k)+lim ys k+carry) / 4294967296,_,by omega,by go_num,by go_num,by omega,by unfold Hid;rw [List.length_set];exact hql.out,hs1.1,zcp hqx hs1.2,hst,fun t ht=>by rw [zbr (by omega)];exact hqt.out t ht⟩
   case measure=>simp [intOf];try omega
  ·obtain rfl:k=ys.length:=by omega
   have hkq:K+ys.length<qs.length:=by have:=hql.out;omega
   have hqc:=hqo.winCell K ys.length hkq
   have hiq:=winIx g K (ys.length+1) C ys.length ys.length rfl (by omega) wr
   have hf:=hqo.winFrozen K ys.length (by omega)
   have bQ:=zb5 hqo.lb (K+ys.length)
   have hst:=put_end hqv.out hkq rfl
   clear hqv
   go_wp2_with fail
   have hs1:=hqo.winStore K ys.length hkq (((lim qs (K+ys.length):Int)+(carry:Int)) % 4294967296) ((lim qs (K+ys.length)+carry) % 4294967296) (by omega) (by omega)
   go_end0
   exact ⟨_,_,rfl,by omega,by rw [List.length_set];exact hql.out,hs1.1,zcp hqx hs1.2,hst,fun t ht=>by rw [zbr (by omega)];exact hqt.out t ht⟩
end Go.Proofs.YtcppcnfmgpphcaaGreat
end
section
namespace Go.Proofs.YtcppcnfmgpphcaaGreat

def ch (s:ByteArray) (i:Nat):Nat:=(s.data.toList.map UInt8.toNat).getD i 0
def isd (s:ByteArray) (i:Nat):Prop:=48≤ch s i∧ch s i≤57
def alld (s:ByteArray) (k:Nat):Prop:=∀ i,i<k→isd s i
instance (s:ByteArray) (i:Nat):Decidable (isd s i):=inferInstanceAs (Decidable (_∧_))
instance (s:ByteArray) (k:Nat):Decidable (alld s k):=Nat.decidableBallLT k (fun i _=>isd s i)

end Go.Proofs.YtcppcnfmgpphcaaGreat
end
section
namespace Go.Proofs.YtcppcnfmgpphcaaGreat
open Go.RowKit

def LbB (zs:List Nat):Prop:=∀ z ∈ zs,z<256

end Go.Proofs.YtcppcnfmgpphcaaGreat
end
section
namespace Go.Proofs.YtcppcnfmgpphcaaGreat
open Go.RowKit

def ByR (w:World) (xs:List Nat) (b:Nat) (po:Option Addr) (pc:Nat) (rest i:Value) (wr:World):Prop :=
  ∃ (k R:Nat) (zs:List Nat),k≤xs.length∧i = .int .i64 ((k:Int) - 1)∧rest = .int .u64 R∧R<b∧Hid (zs.length=xs.length)∧Own wr w.heap.size po pc zs∧Ext w wr∧Hid (vd xs k=vd zs k*b+R)

theorem by_step {xs zs:List Nat} {k b R:Nat} (h:vd xs (k+1)=vd zs (k+1)*b+R) (hx:k<xs.length) (hz:k<zs.length) :
  Hid (vd xs k=vd (zs.set k ((R*4294967296+lim xs k) / b)) k*b+(R*4294967296+lim xs k) % b):=by
 unfold Hid
 rw [vd_step hx,vd_step (zs:=zs.set k ((R*4294967296+lim xs k) / b)) (by rw [List.length_set];exact hz),lim_set_eq hz,vd_set (by omega),h,Nat.add_mul,Nat.mul_assoc 4294967296]
 have h1:=Nat.div_add_mod (R*4294967296+lim xs k) b
 rw [Nat.mul_comm b] at h1
 omega
theorem by_lt {R x b:Nat} (h:R<b) (hx:x<4294967296):(R*4294967296+x) / b<4294967296:=by
 rw [Nat.div_lt_iff_lt_mul (by omega)]
 have:(R+1)*4294967296≤b*4294967296:=Nat.mul_le_mul_right _ h
 rw [Nat.mul_comm 4294967296 b]
 omega

set_option maxHeartbeats 1000000 in
theorem byLimb_any (ao:Option Addr) (n c:Nat) (xs:List Nat) (E:Int) (b:Nat) (w:World) (hn:n=xs.length) (hE:E=(b:Int)) (ha:Rd w ao c xs) (hl:xs.length≤1000000) (hb:0<b) (hb2:b<4294967296) :
  Calls Tryz.prog 169 #[.slice ao n c,.int .u32 E] w fun e w'=>∃ po pc zs,e = .returned (.tuple #[.slice po zs.length pc,.int .u32 ((val xs % b:Nat):Int)])∧Own w' w.heap.size po pc zs∧zby zs∧val zs=val xs / b∧Ext w w':=by
 subst hn hE
 have bA:=ha.cap
 have mA:=ha.mx
 go_enter Tryz.func169,Tryz.ntmps169
 go_wp2_with (at_make;refine mkf rfl _ _ rfl _ _ _ rfl rfl ?_ ?_ (Ext.refl w) ?_;omega;omega;intro w1 hown hx0 hext)
 go_loopw [7,8] (ByR w xs b (some ⟨w.heap.size,0,none⟩) xs.length) (fun _ i _=>(intOf i+1).toNat)
 case atStart=>exact ⟨xs.length,0,List.replicate xs.length 0,Nat.le_refl _,rfl,rfl,hb,by simp [Hid],by simpa using hown,hext,by unfold Hid;rw [vd_end (by omega),vd_end (by simp)];simp⟩
 case round =>
  obtain ⟨k,R,zs,hk,rfl,rfl,hR,hzl,hown,hext,heq⟩:=hrel
  rcases k with _ | k
  ·have hv:val xs=val zs*b+R:=by have:=heq.out;rwa [vd_zero,vd_zero] at this
   have hq:val zs=val xs / b:=by rw [hv,Nat.mul_comm,Nat.mul_add_div hb,Nat.div_eq_of_lt hR,Nat.add_zero]
   have hm:val xs % b=R:=by rw [hv,Nat.mul_comm,Nat.mul_add_mod,Nat.mod_eq_of_lt hR]
   have Hq:=Lib.hid hq
   have Hm:=Lib.hid hm
   clear hv hq hm heq
   go_wp2_with fail
   refine (zc2 _ _ _ zs _ hzl.out.symm hown.rd (by have:=hzl.out;omega)).mono ?_
   intro e w2 hg
   rw [Hq.out] at hg
   obtain ⟨ao3,c3,zs3,rfl,h1,h2,h3,h4⟩:=hg.from hext
   go_wp2_with fail
   go_ret2
   exact ⟨ao3,c3,zs3,by rw [Hm.out];rfl,h1,h2,h3,h4⟩
  ·have hx:=(ha.ext hext).cell k (by omega)
   have hix:=ixk ha xs.length rfl k (by omega) wr
   have bx:=zb5 ha.lb k
   have hkz:k<zs.length:=by have:=hzl.out;omega
   have hiz:=ixk hown.rd xs.length hzl.out.symm k (by omega) wr
   have hxz:=hown.rd.cell k hkz
   have hf:=hown.frozen (by omega) k
   have hor:=zgf R (lim xs k) (by omega) bx
   have hq1:=by_lt (b:=b) hR bx
   have hm1:(R*4294967296+lim xs k) % b<b:=Nat.mod_lt _ hb
   have hs:=by_step heq.out (by omega) hkz
   obtain ⟨H,hH⟩:∃ H,H=R*4294967296+lim xs k:=⟨_,rfl⟩
   rw [← hH] at hor hq1 hm1 hs
   have bH:H<18446744073709551616:=by omega
   have htd:=tdiv_nat H b
   have htm:=tmod_nat H b
   obtain ⟨q,hq⟩:∃ q,q=H / b:=⟨_,rfl⟩
   obtain ⟨m,hm⟩:∃ m,m=H % b:=⟨_,rfl⟩
   rw [← hq] at htd hq1 hs
   rw [← hm] at htm hm1 hs
   have hnd:(H:Int) / (b:Int)=(q:Int):=by rw [hq];push_cast;rfl
   have hnm:(H:Int) % (b:Int)=(m:Int):=by rw [hm];push_cast;rfl
   clear hH hq hm
   go_wp2_with fail
   have hst:=hown.store k hkz (q:Int) q rfl hq1
   go_roundw
   case rel=>exact ⟨k,m,zs.set k q,by omega,by go_num,rfl,hm1,by unfold Hid;rw [List.length_set];exact hzl.out,hst.1,hext.store (show w.heap.size≤w.heap.size by omega) _,hs⟩
   case measure=>simp [intOf]

end Go.Proofs.YtcppcnfmgpphcaaGreat
end
section
namespace Go.Proofs.YtcppcnfmgpphcaaGreat
open Go.RowKit

def gSpec (top u2 first d2 g:Nat):Prop:=g<4294967296∧g*(first*4294967296+d2)≤top*4294967296+u2∧(top*4294967296+u2<(g+1)*(first*4294967296+d2)∨4294967296≤g+1)
def GueR (w:World) (top u2 first d2:Nat) (gu re:Value) (wr:World):Prop :=
  ∃ (g r:Nat),gu = .int .u64 g∧re = .int .u64 r∧g≤4294967297∧r<4294967296∧Hid (g=4294967297→r+first<4294967296)∧Hid (g*first+r=top) ∧
    Hid (top*4294967296+u2<(g+1)*(first*4294967296+d2)∨4294967296≤g+1)∧Qt w wr

theorem gue_start {top u2 first d2 un u1:Nat} (hf:2147483648≤first) (hf2:first<4294967296) (h2:u2<4294967296) (ht:top=un*4294967296+u1) (h1:u1<4294967296) (hu:un≤first) :
  top / first≤4294967297∧top % first<4294967296∧(top / first=4294967297→top % first+first<4294967296)∧top / first*first+top % first=top ∧
   (top*4294967296+u2<(top / first+1)*(first*4294967296+d2)∨4294967296≤top / first+1):=by
 have h3:top / first*first+top % first=top:=by have:=Nat.div_add_mod top first;rw [Nat.mul_comm] at this;exact this
 have h4:top % first<first:=Nat.mod_lt _ (by omega)
 obtain ⟨g,hg⟩:∃ g,g=top / first:=⟨_,rfl⟩
 obtain ⟨r,hr⟩:∃ r,r=top % first:=⟨_,rfl⟩
 rw [← hg,← hr] at h3 ⊢
 rw [← hr] at h4
 have h5:g≤4294967297:=by
  rcases Nat.lt_or_ge 4294967297 g with h | h
  ·have:=Nat.mul_le_mul_right first (show 4294967298≤g by omega)
   omega
  ·exact h
 refine ⟨h5,by omega,?_,h3,.inl ?_⟩
 ·intro e
  rw [e] at h3
  omega
 ·rw [Nat.mul_add,← Nat.mul_assoc]
  have:(g+1)*first=g*first+first:=Nat.succ_mul _ _
  omega
theorem gue_more {top u2 first d2 g r:Nat} (hv:g*first+r=top) :
  g*(first*4294967296+d2)≤top*4294967296+u2 ↔ g*d2≤r*4294967296+u2:=by
 rw [Nat.mul_add,← Nat.mul_assoc,← hv,Nat.add_mul]
 omega
theorem gue_down {top first g r:Nat} (hv:g*first+r=top) (hg:1≤g):(g - 1)*first+(r+first)=top:=by
 obtain ⟨h,rfl⟩:∃ h,g=h+1:=⟨g - 1,by omega⟩
 rw [Nat.succ_mul] at hv
 simp only [Nat.add_sub_cancel]
 omega
theorem gue_break {top u2 first d2 g r:Nat} (hv:g*first+r=top) (hg2:g≤4294967296) (hr:4294967296≤r) (hd:d2<4294967296):g*(first*4294967296+d2)≤top*4294967296+u2:=by
 rw [gue_more hv]
 have:=Nat.mul_le_mul hg2 (show d2≤4294967295 by omega)
 omega

set_option maxHeartbeats 2000000 in
set_option maxRecDepth 40000 in
theorem guessed_any (ao:Option Addr) (m c:Nat) (us:List Nat) (bo:Option Addr) (n d:Nat) (ys:List Nat) (i1 i2:Nat) (w:World) (hm:m=us.length) (hn:n=ys.length) (h1:i1+1=n) (h2:i2+2=n) (hlen:n<m)
  (ha:Rd w ao c us) (hb:Rd w bo d ys) (hf:2147483648≤lim ys i1) (hu:lim us n≤lim ys i1) :
  Calls Tryz.prog 176 #[.slice ao m c,.slice bo n d] w
   (fun e w'=>∃ g:Nat,e = .returned (.int .u64 g)∧gSpec (lim us n*4294967296+lim us i1) (lim us i2) (lim ys i1) (lim ys i2) g∧Qt w w'):=by
 have mA:=ha.mx
 have mB:=hb.mx
 have cA:=ha.cap
 have cB:=hb.cap
 have xun:=ixk ha m hm n hlen
 have xu1:=ixe ha m hm ((n:Int) - 1) i1 (by omega) (by omega)
 have xu2:=ixe ha m hm ((n:Int) - 2) i2 (by omega) (by omega)
 have xd1:=ixe hb n hn ((n:Int) - 1) i1 (by omega) (by omega)
 have xd2:=ixe hb n hn ((n:Int) - 2) i2 (by omega) (by omega)
 have kun:=fun wr (q:Qt w wr)=>(ha.ext q.ext).cell n (by omega)
 have ku1:=fun wr (q:Qt w wr)=>(ha.ext q.ext).cell i1 (by omega)
 have ku2:=fun wr (q:Qt w wr)=>(ha.ext q.ext).cell i2 (by omega)
 have kd1:=fun wr (q:Qt w wr)=>(hb.ext q.ext).cell i1 (by omega)
 have kd2:=fun wr (q:Qt w wr)=>(hb.ext q.ext).cell i2 (by omega)
 have bun:=zb5 ha.lb n
 have bu1:=zb5 ha.lb i1
 have bu2:=zb5 ha.lb i2
 have bd1:=zb5 hb.lb i1
 have bd2:=zb5 hb.lb i2
 have hbl:n≤9223372036854775807:=by omega
 have hn2:2≤n:=by omega
 clear hm hn h1 h2 hlen cA cB
 generalize lim us n=un at *
 generalize lim us i1=u1 at *
 generalize lim us i2=u2 at *
 generalize lim ys i1=first at *
 generalize lim ys i2=d2 at *
 have hor:=zgf un u1 bun bu1
 obtain ⟨top,htop⟩:∃ top,top=un*4294967296+u1:=⟨_,rfl⟩
 obtain ⟨s1,s2,s3,s4,s5⟩:=gue_start (u2:=u2) (d2:=d2) hf bd1 bu2 htop bu1 hu
 rw [← htop] at hor ⊢
 have bT:top<18446744073709551616:=by omega
 have htd:=tdiv_nat top first
 have htm:=tmod_nat top first
 obtain ⟨q,hq⟩:∃ q,q=top / first:=⟨_,rfl⟩
 obtain ⟨r0,hr⟩:∃ r0,r0=top % first:=⟨_,rfl⟩
 rw [← hq] at htd s1 s3 s4 s5
 rw [← hr] at htm s2 s3 s4
 have hnd:(top:Int) / (first:Int)=(q:Int):=by rw [hq];push_cast;rfl
 have hnm:(top:Int) % (first:Int)=(r0:Int):=by rw [hr];push_cast;rfl
 have S3:=Lib.hid s3
 have S4:=Lib.hid s4
 have S5:=Lib.hid s5
 clear hq hr s3 s4 s5 htop
 go_enter Tryz.func176,Tryz.ntmps176
 have k0:=kun w (Qt.refl w)
 have k1:=ku1 w (Qt.refl w)
 have k3:=kd1 w (Qt.refl w)
 have wn1:IntKind.i64.wrap ((n:Int) - 1)=(n:Int) - 1:=IntWalk.i64_in _ (by omega)
 have wn2:IntKind.i64.wrap ((n:Int) - 2)=(n:Int) - 2:=IntWalk.i64_in _ (by omega)
 have wsh:IntKind.u64.wrap ((un:Int)*4294967296)=(un:Int)*4294967296:=by rw [IntKind.wrap_u64];omega
 go_wp2_with fail
 go_quiet (fail)
 have k4:=kd1 _ ((Qt.refl w).drewN nq)
 go_wp2_with fail
 have wq:IntKind.u64.wrap (q:Int)=(q:Int):=by rw [IntKind.wrap_u64];omega
 have wr0:IntKind.u64.wrap (r0:Int)=(r0:Int):=by rw [IntKind.wrap_u64];omega
 go_quiet (fail)
 go_wp2_with fail
 go_loopw [8,9] (GueR w top u2 first d2) (fun g _ _=>(intOf g).toNat)
 case atStart=>exact ⟨q,r0,rfl,rfl,s1,s2,S3,S4,S5,((Qt.refl w).drewN _).drewN _⟩
 case round =>
  obtain ⟨g,r,rfl,rfl,hg,hr,H3,H4,H5,hqt⟩:=hrel
  by_cases hbig:4294967296≤g
  ·have hd1:decide ((4294967296:Int)≤(g:Int))=true:=by simp;omega
   have hb1:(4294967296:Int)≤(g:Int):=by omega
   have hdn:=gue_down H4.out (by omega)
   have h6:top*4294967296+u2<(g - 1+1)*(first*4294967296+d2)∨4294967296≤g - 1+1 := .inr (by omega)
   by_cases hbr:4294967296≤r+first
   ·have h7:g≤4294967296:=by
     rcases Nat.lt_or_ge 4294967296 g with h | h
     ·have:=H3.out (by omega);omega
     ·exact h
    have h8:=gue_break (u2:=u2) hdn (by omega) hbr bd2
    have F:=Lib.hid (show gSpec top u2 first d2 (g - 1) from ⟨by omega,h8,h6⟩)
    clear h6 h8 hdn H3 H4 H5
    have hbr1:(4294967296:Int)≤(r:Int)+(first:Int):=by omega
    go_wp2_with fail
    go_quiet (fail)
    go_wp2_with fail
    go_ret
    exact ⟨g - 1,by go_num,F.out,hqt.drewN _⟩
   ·have hbr1:decide ((4294967296:Int)≤(r:Int)+(first:Int))=false:=by simp;omega
    have Hd:=Lib.hid hdn
    have H6:=Lib.hid h6
    clear hdn h6 H3 H4 H5
    go_wp2_with fail
    go_quiet (fail)
    go_wp2_with fail
    go_roundw
    case rel=>exact ⟨g - 1,r+first,by go_num,by go_num,by omega,by omega,by unfold Hid;omega,Hd,H6,hqt.drewN _⟩
    case measure=>simp [intOf];try omega
  ·have hd1:decide ((4294967296:Int)≤(g:Int))=false:=by simp;omega
   have hb1:¬ (4294967296:Int)≤(g:Int):=by omega
   have k1:=kd2 _ hqt
   have k2:=ku2 _ hqt
   have hor:=zgf r u2 hr bu2
   have bp:=prod_lt (show g<4294967296 by omega) bd2
   have hmore:=gue_more (u2:=u2) (d2:=d2) H4.out
   obtain ⟨p,hp⟩:∃ p,p=g*d2:=⟨_,rfl⟩
   obtain ⟨R,hR⟩:∃ R,R=r*4294967296+u2:=⟨_,rfl⟩
   rw [← hR] at hor hmore
   rw [← hp] at bp hmore
   have bR:R<18446744073709551616:=by omega
   have hp':(g:Int)*(d2:Int)=(p:Int):=by rw [hp,Int.natCast_mul]
   have wp':IntKind.u64.wrap (p:Int)=(p:Int):=by rw [IntKind.wrap_u64];omega
   have wsh2:IntKind.u64.wrap ((r:Int)*4294967296)=(r:Int)*4294967296:=by rw [IntKind.wrap_u64];omega
   clear hR
   by_cases hgt:R<p
   ·have hdn:=gue_down H4.out (by rcases g with _ | g;simp at hp;omega;omega)
    have h6:top*4294967296+u2<(g - 1+1)*(first*4294967296+d2)∨4294967296≤g - 1+1:=by
     rcases g with _ | g
     ·simp at hp;omega
     ·left
      simp only [Nat.add_sub_cancel]
      rcases Nat.lt_or_ge (top*4294967296+u2) ((g+1)*(first*4294967296+d2)) with h | h
      ·exact h
      ·have:=hmore.1 h;omega
    have hg1:1≤g:=by rcases g with _ | g;simp at hp;omega;omega
    have hgt1:(R:Int)<(p:Int):=by omega
    have hgt2:decide ((R:Int)<(p:Int))=true:=by simp;omega
    by_cases hbr:4294967296≤r+first
    ·have h8:=gue_break (u2:=u2) hdn (by omega) hbr bd2
     have F:=Lib.hid (show gSpec top u2 first d2 (g - 1) from ⟨by omega,h8,h6⟩)
     clear h6 h8 hdn hmore H3 H4 H5 hp
     have hbr1:(4294967296:Int)≤(r:Int)+(first:Int):=by omega
     go_wp2_with fail
     go_quiet (fail)
     go_wp2_with fail
     go_ret
     exact ⟨g - 1,by go_num,F.out,hqt.drewN _⟩
    ·have hbr1:decide ((4294967296:Int)≤(r:Int)+(first:Int))=false:=by simp;omega
     have Hd:=Lib.hid hdn
     have H6:=Lib.hid h6
     clear hdn h6 hmore hp H3 H4 H5
     go_wp2_with fail
     go_quiet (fail)
     go_wp2_with fail
     go_roundw
     case rel=>exact ⟨g - 1,r+first,by go_num,by go_num,by omega,by omega,by unfold Hid;omega,Hd,H6,hqt.drewN _⟩
     case measure=>simp [intOf];try omega
   ·have F:=Lib.hid (show gSpec top u2 first d2 g from ⟨by omega,hmore.2 (by omega),H5.out⟩)
    clear hmore H3 H4 H5 hp
    have hgt1:¬ (R:Int)<(p:Int):=by omega
    have hgt2:decide ((R:Int)<(p:Int))=false:=by simp;omega
    go_wp2_with fail
    go_quiet (fail)
    go_wp2_with fail
    go_ret
    exact ⟨g,rfl,F.out,hqt.drewN _⟩
end Go.Proofs.YtcppcnfmgpphcaaGreat
end
section
namespace Go.Proofs.YtcppcnfmgpphcaaGreat

theorem zex {zs:List Nat} {k:Nat} (h:val zs<pw k):vk zs k=val zs:=by
 by_cases hk:k≤zs.length
 ·have h1:=ze3 zs k hk
  rcases Nat.eq_zero_or_pos (val (zs.drop k)) with h0 | h0
  ·rw [h0] at h1;omega
  ·have:=Nat.mul_le_mul_left (pw k) h0
   omega
 ·exact zba (by omega)
theorem zf8 {zs:List Nat} {k t:Nat} (h:val zs<pw k) (ht:k≤t):lim zs t=0:=by
 by_cases hk:t<zs.length
 ·have h1:=zex h
  have h2:vk zs (t+1)=val zs:=zex (Nat.lt_of_lt_of_le h (zd6 (by omega)))
  have h3:vk zs t=val zs:=zex (Nat.lt_of_lt_of_le h (zd6 ht))
  rw [zb2,h3] at h2
  have h4:pw t*lim zs t=0:=by omega
  rcases Nat.mul_eq_zero.1 h4 with h5 | h5
  ·have:=zec t;omega
  ·exact h5
 ·exact zbq (by omega)
theorem lt_of_lims {zs:List Nat} (hl:Lb zs) {k:Nat} (h:∀ t,k≤t→lim zs t=0):val zs<pw k:=by
 have h1:∀ j,vk zs (k+j)=vk zs k:=by
  intro j
  induction j with
  | zero=>rfl
  | succ j ih=>rw [← Nat.add_assoc,zb2,ih,h (k+j) (by omega)];simp
 have h2:=h1 zs.length
 rw [zba (by omega)] at h2
 rw [h2]
 exact vk_lt hl k

theorem guess_fits {us ys:List Nat} {n i1 i2 g:Nat} (hu:Lb us) (hy:Lb ys) (hn:n=ys.length) (h1:i1+1=n) (h2:i2+2=n) (hf:2147483648≤lim ys i1) (hT:val us<val ys*4294967296)
  (hg:gSpec (lim us n*4294967296+lim us i1) (lim us i2) (lim ys i1) (lim ys i2) g):val us / val ys≤g∧g≤val us / val ys+1:=by
 obtain rfl:i1=i2+1:=by omega
 obtain rfl:n=i2+2:=by omega
 obtain ⟨g1,g2,g3⟩:=hg
 have hyp:val ys<pw (i2+2):=by rw [hn];exact zb4 hy
 have hT2:val us<pw (i2+3):=by
  rw [zau]
  have:=Nat.mul_le_mul_left 4294967296 (Nat.le_of_lt hyp)
  omega
 have eU:=zex hT2
 have eY:=zex hyp
 rw [zb2,zb2,zb2,zau (i2+1),zau i2] at eU
 rw [zb2,zb2,zau i2] at eY
 have hlo:=vk_lt hu i2
 have hdl:=vk_lt hy i2
 generalize vk us i2=lo at *
 generalize vk ys i2=dl at *
 generalize pw i2=P at *
 generalize lim us (i2+2)=un at *
 generalize lim us (i2+1)=u1 at *
 generalize lim us i2=u2 at *
 generalize lim ys (i2+1)=first at *
 generalize lim ys i2=d2 at *
 obtain ⟨U3,hU3⟩:∃ U3,U3=(un*4294967296+u1)*4294967296+u2:=⟨_,rfl⟩
 obtain ⟨V,hV⟩:∃ V,V=first*4294967296+d2:=⟨_,rfl⟩
 rw [← hU3,← hV] at g2 g3
 have eT:val us=lo+P*U3:=by
  rw [← eU,hU3]
  have e1:P*((un*4294967296+u1)*4294967296+u2)=P*u2+4294967296*(P*u1)+4294967296*(4294967296*(P*un)):=by
   rw [Nat.mul_add,Nat.add_mul,Nat.mul_add,← Nat.mul_assoc P u1,← Nat.mul_assoc P (un*4294967296),← Nat.mul_assoc P un]
   omega
  rw [e1,Nat.mul_assoc 4294967296 P u1,Nat.mul_assoc 4294967296 (4294967296*P) un,Nat.mul_assoc 4294967296 P un]
  omega
 have eD:val ys=dl+P*V:=by
  rw [← eY,hV,Nat.mul_add,← Nat.mul_assoc P first,Nat.mul_assoc 4294967296 P first]
  omega
 have hVb:4294967296≤V:=by omega
 have hP:0<P:=by omega
 have hD:0<val ys:=by
  have:=Nat.mul_le_mul hP hVb
  omega
 constructor
 ·refine Nat.le_of_lt_succ (Nat.div_lt_of_lt_mul ?_)
  rcases g3 with h | h
  ·have e1:=Nat.mul_le_mul_left P (Nat.succ_le_of_lt h)
   have e2:P*((g+1)*V)≤(g+1)*val ys:=by
    rw [Nat.mul_left_comm]
    exact Nat.mul_le_mul_left _ (by omega)
   have e3:P*(U3+1)=P*U3+P:=Nat.mul_succ _ _
   rw [Nat.mul_comm (val ys)]
   simp only [Nat.succ_eq_add_one] at *
   omega
  ·have:=Nat.mul_le_mul_left (val ys) h
   simp only [Nat.succ_eq_add_one]
   omega
 ·rcases g with _ | h
  ·exact Nat.zero_le _
  ·refine Nat.succ_le_succ ((Nat.le_div_iff_mul_le hD).2 ?_)
   have e1:=Nat.mul_le_mul_left P g2
   rw [Nat.succ_mul,Nat.mul_add] at e1
   have e2:h*val ys=h*dl+P*(h*V):=by rw [eD,Nat.mul_add,Nat.mul_left_comm]
   have e3:h*dl≤4294967296*P:=Nat.mul_le_mul (by omega) (by omega)
   have e4:=Nat.mul_le_mul_left P hVb
   rw [Nat.mul_comm P 4294967296] at e4
   omega

theorem top_le {us ys:List Nat} {n i1:Nat} (hy:Lb ys) (hn:n=ys.length) (h1:i1+1=n) (hT:val us<val ys*4294967296):lim us n≤lim ys i1:=by
 subst h1
 have eY:vk ys (i1+1)=val ys:=by rw [hn];exact zba (Nat.le_refl _)
 rw [zb2] at eY
 have hdl:=vk_lt hy i1
 have h3:pw (i1+1)*lim us (i1+1)≤val us:=by
  by_cases hk:i1+1<us.length
  ·have h5:=ze3 us (i1+1+1) (by omega)
   rw [zb2] at h5
   omega
  ·rw [zbq (by omega)];simp
 rcases Nat.lt_or_ge (lim ys i1) (lim us (i1+1)) with h | h
 ·have e1:=Nat.mul_le_mul_left (pw (i1+1)) (Nat.succ_le_of_lt h)
  rw [zau] at e1 h3
  have e2:4294967296*pw i1*(lim ys i1).succ=4294967296*(pw i1*lim ys i1)+4294967296*pw i1:=by rw [Nat.mul_succ,Nat.mul_assoc]
  omega
 ·exact h

theorem took {zs zs1 ys:List Nat} {k g:Nat} (hz:Lb zs) (hk:k≤zs.length) (hT:val zs<val ys*pw (k+1)) (hg:val (zs.drop k) / val ys≤g∧g≤val (zs.drop k) / val ys+1)
  (hv:val zs1+pw k*(g*val ys)=val zs):val zs1<val ys*pw k:=by
 have h1:=ze3 zs k hk
 have h2:=vk_lt hz k
 have hD:0<val ys:=by
  rcases Nat.eq_zero_or_pos (val ys) with h | h
  ·rw [h] at hT;omega
  ·exact h
 generalize val (zs.drop k)=T at *
 have h3:T<(T / val ys+1)*val ys:=by
  have:=Nat.lt_div_mul_add (a:=T) hD
  rw [Nat.add_mul,Nat.one_mul];exact this
 have h4:T<(g+1)*val ys:=Nat.lt_of_lt_of_le h3 (Nat.mul_le_mul_right _ (by omega))
 have h5:=Nat.mul_le_mul_left (pw k) (Nat.succ_le_of_lt h4)
 rw [Nat.add_mul,Nat.one_mul,Nat.mul_add] at h5
 have h6:pw k*T.succ=pw k*T+pw k:=Nat.mul_succ _ _
 rw [Nat.mul_comm (val ys)]
 omega

theorem take_zero {zs zs1 ys:List Nat} {k g:Nat} (hz:Lb zs) (hz1:Lb zs1) (hk:k≤zs.length) (hy:Lb ys) (hT:val zs<val ys*pw (k+1))
  (hg:val (zs.drop k) / val ys≤g∧g≤val (zs.drop k) / val ys+1) (hlim:∀ t,k+ys.length<t→lim zs1 t=lim zs t)
  (hv:val zs1+pw k*(g*val ys)=val zs+pw (k+(ys.length+1))):val zs1<pw (k+(ys.length+1))∧1≤g∧g - 1=val (zs.drop k) / val ys∧pw k*((g - 1)*val ys)≤val zs:=by
 have h0:val zs<pw (k+(ys.length+1)):=by
  have e:pw (k+(ys.length+1))=pw ys.length*pw (k+1):=by rw [← zed];congr 1;omega
  rw [e]
  exact Nat.lt_of_lt_of_le hT (Nat.mul_le_mul_right _ (Nat.le_of_lt (zb4 hy)))
 have hD:0<val ys:=by
  rcases Nat.eq_zero_or_pos (val ys) with h | h
  ·rw [h] at hT;omega
  ·exact h
 have hz2:val zs1<pw (k+(ys.length+1)):=lt_of_lims hz1 (fun t ht=>by rw [hlim t (by omega)];exact zf8 h0 ht)
 have h1:=ze3 zs k hk
 have h2:=vk_lt hz k
 generalize val (zs.drop k)=T at *
 have h3:T<g*val ys:=by
  rcases Nat.lt_or_ge T (g*val ys) with h | h
  ·exact h
  ·have:=Nat.mul_le_mul_left (pw k) h
   omega
 have h4:T / val ys<g:=(Nat.div_lt_iff_lt_mul hD).2 h3
 have h6:=Nat.mul_le_mul_left (pw k) (Nat.div_mul_le_self T (val ys))
 generalize T / val ys=q at *
 have h5:g - 1=q:=by have:=hg.2;omega
 refine ⟨hz2,by omega,h5,?_⟩
 rw [h5]
 omega

theorem put_val {zs zs1 zs2 ys:List Nat} {k g x:Nat} (hx:x≤1) (hg:1≤g)
  (hv:val zs1+pw k*(g*val ys)=val zs+pw (k+(ys.length+1))) (hle:pw k*((g - 1)*val ys)≤val zs) (h2:val zs2<pw (k+(ys.length+1)))
  (hp:val zs2+pw (k+(ys.length+1))*x=val zs1+pw k*val ys):val zs2+pw k*((g - 1)*val ys)=val zs:=by
 obtain ⟨h,rfl⟩:∃ h,g=h+1:=⟨g - 1,by omega⟩
 rw [Nat.add_sub_cancel] at hle ⊢
 rw [Nat.succ_mul,Nat.mul_add] at hv
 rcases x with _ | x
 ·omega
 ·obtain rfl:x=0:=by omega
  omega
end Go.Proofs.YtcppcnfmgpphcaaGreat
end
section
namespace Go.Proofs.YtcppcnfmgpphcaaGreat
open Go.RowKit

theorem undInt:Tryz.prog.underlying 3=some (.int .i64):=Tryz.underlying3
theorem zeroCells32 (n:Nat):Builtin.zeroCells (Value.int .u32 0).cells n=((List.replicate n 0).map fun (x:Nat)=>Value.int .u32 (x:Int)).toArray:=by
 unfold Builtin.zeroCells
 apply Array.ext
 ·simp [Value.cells]
 ·intro i h1 h2
  simp [Value.cells,Nat.mod_one]
theorem cells32:(Value.int .u32 0).cells=#[Value.int .u32 0]:=rfl

section
variable (w:World) (ty:TypeId) (L:Nat)
theorem app_room (g n cap:Nat) (cur:Array Value) (hg:w.heap[g]?=some (.cells cur 102 (0,0))) (hL:L≤4294967296) (hroom:n+L≤cap) (hfit:n+L≤cur.size) :
  (Builtin.append_ #[51,3] ty #[.slice (some ⟨g,0,none⟩) n cap,.int .i64 (L:Int)]).run Tryz.prog w =
   .ok (.slice (some ⟨g,0,none⟩) (n+L) cap) (w.setRow g (cur.toList.take n++((List.replicate L 0).map fun (x:Nat)=>Value.int .u32 (x:Int))++cur.toList.drop (n+L)).toArray):=by
 obtain ⟨i0,hi,hz0,hz1,hz2⟩:=info_parts zgy
 have wl:IntKind.i64.wrap (L:Int)=(L:Int):=by rw [IntKind.wrap_i64];omega
 have c1:¬ ((L:Int)<0):=by omega
 have c2:¬ (281474976710656<(L:Int)*4):=by omega
 have hst:=run_storeCells_at Tryz.prog g n 102 ((List.replicate L 0).map fun (x:Nat)=>Value.int .u32 (x:Int)) 0 cur w hg (by simpa using hfit) (fun u hu=>by simp at hu;obtain ⟨_,rfl⟩:=hu;rfl)
 simp only [Nat.add_zero] at hst
 rcases Nat.eq_zero_or_pos L with h0 | hp
 ·subst h0
  have w0:IntKind.i64.wrap 0=0:=by decide
  simp [Builtin.append_,run_underlying und,run_underlying undInt,sizeOf,typeInfo,hi,hz1,hz2,asInt,asIntOf,w0]
  have hn:n≤cap:=by omega
  simp at hst
  simp [hn,storeCells] at hst ⊢
  exact hst
 ·have hp':¬ L=0:=by omega
  simp [Builtin.append_,run_underlying und,run_underlying undInt,sizeOf,typeInfo,zeroValue,hi,hz0,hz1,hz2,asInt,asIntOf,wl,c1,c2,hroom,hp', zeroCells32,Addr.add_lit]
  simp at hst
  simp [hst]
theorem app_grow (ao:Option Addr) (n cap:Nat) (olds:List Value) (hao:ao=none→n=0) (hlo:olds.length=n) (holds:∀ b,ao=some b→∀ j v,olds[j]?=some v→w.cell? (b.add j)=some v)
  (hL:L≤4294967296) (hn:n≤4294967296) (hg:cap<n+L) :
  (Builtin.append_ #[51,3] ty #[.slice ao n cap,.int .i64 (L:Int)]).run Tryz.prog w =
   .ok (.slice (some ⟨w.heap.size,0,none⟩) (n+L) (grownCap w (n+L) cap 102))
    (w.drew.alloc (.cells (olds.toArray++((List.replicate L 0).map fun (x:Nat)=>Value.int .u32 (x:Int)).toArray++Builtin.zeroCells (Value.int .u32 0).cells (grownCap w (n+L) cap 102 - (n+L))) 102)):=by
 obtain ⟨i0,hi,hz0,hz1,hz2⟩:=info_parts zgy
 have wl:IntKind.i64.wrap (L:Int)=(L:Int):=by rw [IntKind.wrap_i64];omega
 have c1:¬ ((L:Int)<0):=by omega
 have c2:¬ (281474976710656<(L:Int)*4):=by omega
 have c3:¬ (n+L≤cap):=by omega
 have c4:¬ (9223372036854775807<((n:Int)+(L:Int))):=by omega
 have c5:¬ (281474976710656<Builtin.nextslicecap (n+L) cap*4):=by
  have:=growslice_fits (need:=n+L) (old:=cap) (bytes:=4) (by omega) (by omega)
  omega
 have hf:(Builtin.firstCells 1 n (.slice ao n cap)).run Tryz.prog w.drew = .ok olds.toArray w.drew:=by
  rcases ao with _ | b
  ·have:olds=[]:=List.length_eq_zero_iff.1 (by rw [hlo];exact hao rfl)
   subst this
   simp [Builtin.firstCells,Sem.run_pure]
  ·exact run_firstCells_some (P:=Tryz.prog) w.drew 1 n b n cap olds (by simpa using hlo) (by simpa using holds b rfl)
 by_cases hL0:L=0
 ·subst hL0
  have w0:IntKind.i64.wrap 0=0:=by decide
  simp [Builtin.append_,run_underlying und,run_underlying undInt,sizeOf,typeInfo,zeroValue,hi,hz0,hz1,hz2,asInt,asIntOf,w0] 
  have c3':¬ (n≤cap):=by omega
  have c4':¬ (9223372036854775807<(n:Int)):=by omega
  simp at c5
  simp [c3', c4', Question.forced,hf,newRow,grownCap]
  omega
 ·simp [Builtin.append_,run_underlying und,run_underlying undInt,sizeOf,typeInfo,zeroValue,hi,hz0,hz1,hz2,asInt,asIntOf,wl,c1,c2,c3,c4,c5,hL0,Question.forced,hf,newRow,grownCap,zeroCells32]
end

theorem pushZ {wi w:World} {ops:Array Oper} {rest:List Oper} {o:Oper} {a:Act} {Q:Exit→Act→World→Prop} (hgd:o.guard=none) (s x:Operand)
  (ho:o.op = .call { callee := .builtin .append,args:=#[s,x],argTypes:=#[51,3] })
  {B:Nat} (ao:Option Addr) (c:Nat) (zs:List Nat) (n:Nat) (hn:n=zs.length) (hs:a.eval s = .slice ao n c) (hown:Own w B ao c zs)
  (E:Int) (hx:a.eval x = .int .i64 E) (hE:0≤E) (hlen:(zs.length:Int)+E≤4294967296) (hB:wi.heap.size≤B) (hext:Ext wi w) (hBw:B≤w.heap.size)
  (h:∀ ao' c' w', Own w' B ao' c' (zs++List.replicate E.toNat 0)→Ext wi w'→w.grownBy w' (Value.slice ao zs.length c).ownBlock→wpList Tryz.prog ops Q rest (a.put o.dst (.slice ao' (zs.length+E.toNat) c')) w') :
  wpList Tryz.prog ops Q (o :: rest) a w:=by
 subst hn
 obtain ⟨L,rfl⟩:=Int.eq_ofNat_of_zero_le hE
 have hll:(zs++List.replicate L 0).length=zs.length+L:=by simp
 have hlb:Lb (zs++List.replicate L 0):=Lb_append hown.lb (fun z hz=>by have:=List.eq_of_mem_replicate hz;omega)
 have key:∃ ao' c' w', (Builtin.append_ #[51,3] o.type #[.slice ao zs.length c,.int .i64 (L:Int)]).run Tryz.prog w = .ok (.slice ao' (zs.length+L) c') w'∧Own w' B ao' c' (zs++List.replicate L 0)∧w.grownBy w' (Value.slice ao zs.length c).ownBlock:=by
  by_cases hroom:zs.length+L≤c∧ao≠none
  ·obtain ⟨hroom,hne⟩:=hroom
   rcases hown.row.2 with ⟨hv,hn⟩ | ⟨g,cap,cur,hv,hb,hg,hnc,hcm,hcs,htake⟩
   ·simp at hv;exact absurd hv.1 hne
   ·simp only [Value.slice.injEq,true_and] at hv
    obtain ⟨rfl,rfl⟩:=hv
    have hcu:cur.toList.length=cur.size:=rfl
    have hz1:((List.replicate L 0).map fun (x:Nat)=>Value.int .u32 (x:Int)).length=L:=by simp
    generalize hzz:((List.replicate L 0).map fun (x:Nat)=>Value.int .u32 (x:Int))=zz at hz1
    have har:=app_room w o.type L g zs.length c cur hg (by omega) hroom (by rw [hcs];omega)
    rw [hzz] at har
    refine ⟨_,_,_,har,⟨hlb,by simp,.inr ⟨g,c,_,by rw [hll],hb,setRow_heap w g cur _ _ _ hg,by omega,hcm,?_,?_⟩⟩,⟨rfl,rfl,rfl,by simp,fun k _ hk=>setRow_other w g k _ (fun e=>hk (by simp [Value.ownBlock,e]))⟩⟩
    ·rw [List.size_toArray,List.length_append,List.length_append,List.length_take,List.length_drop,hz1,hcu]
     omega
    ·simp only [Nat.mul_one] at htake
     rw [hll,Nat.mul_one,List.map_append,hzz,htake]
     have h1:(zs.map fun (x:Nat)=>Value.int .u32 (x:Int)).length=zs.length:=by simp
     show List.take (zs.length+L) ((zs.map fun (x:Nat)=>Value.int .u32 (x:Int))++zz++List.drop (zs.length+L) cur.toList)=_
     rw [List.take_append_of_le_length (by rw [List.length_append,h1,hz1];omega),List.take_of_length_le (by rw [List.length_append,h1,hz1];omega)]
  ·have hgrow:c<zs.length+L∨(ao=none∧L=0):=by
    by_cases hc:c<zs.length+L
    ·exact .inl hc
    ·right
     have hnone:ao=none:=by
      cases ao with
      | none=>rfl
      | some a=>exact absurd ⟨by omega,by simp⟩ hroom
     have:=hown.rd.nl hnone
     exact ⟨hnone,by omega⟩
   rcases hgrow with hc | ⟨rfl,rfl⟩
   ·have hge:=grownCap_ge w (zs.length+L) c 102
    have hle:=grownCap_le_maxLen w (zs.length+L) c 102 (by unfold maxLen;omega)
    refine ⟨_,_,_,app_grow w o.type L ao zs.length c (zs.map fun (x:Nat)=>Value.int .u32 (x:Int)) ?_ (by simp) ?_ (by omega) (by omega) hc,⟨hlb,by simp,.inr ⟨w.heap.size,_,_,by rw [hll],hBw,heap_alloc_new w.drew _,by omega,hle,?_,?_⟩⟩,⟨rfl,rfl,rfl,by simp,fun k hk _=>heap_alloc_old w.drew _ (by simpa using hk)⟩⟩
    ·intro e
     rcases Nat.eq_zero_or_pos zs.length with h0 | hp
     ·exact h0
     ·have:=hown.rd.ad hp
      rw [e] at this;simp at this
    ·intro b hb j v hj
     have hlt:j<zs.length:=by have:=(List.getElem?_eq_some_iff.1 hj).1;simpa using this
     rw [List.getElem?_map,zco hlt] at hj
     simp at hj
     subst hj
     have h0:=hown.rd.cell j hlt
     have h1:=hown.rd.ad (by omega)
     rw [hb] at h0 h1
     simp only [bk,of,Option.some.injEq] at h0 h1
     have h2:b.add j=⟨b.block,b.off+j,none⟩:=by
      unfold Addr.add
      split
      ·subst_vars;exact h1
      ·rfl
     rw [h2];exact h0
    ·simp [size_zeroCells,cells32]
     omega
    ·rw [hll,Nat.mul_one]
     simp only [Array.toList_append,List.map_append]
     rw [List.take_append_of_le_length (by simp)]
     rw [List.take_of_length_le (by simp)]
   ·have hz:=hown.rd.ad
    have e1:zs=[]:=by
     rcases Nat.eq_zero_or_pos zs.length with h0 | hp
     ·exact List.length_eq_zero_iff.1 h0
     ·have:=hz hp;simp at this
    subst e1
    have ec:=hown.rd.nl rfl
    subst ec
    obtain ⟨i0,hi,hz0,hz1,hz2⟩:=info_parts zgy
    have w0:IntKind.i64.wrap 0=0:=by decide
    refine ⟨none,0,w,?_,Own.nil _ _,World.grownBy.refl _ _⟩
    simp [Builtin.append_,run_underlying und,run_underlying undInt,sizeOf,typeInfo,hi,hz2,asInt,asIntOf,w0]
 obtain ⟨ao', c', w', hrun,hown', hg'⟩:=key
 refine wpList_plain hgd fun K hK=>?_
 unfold Oper.wp
 simp [execOp,ho,resolve,invoke,builtin,hs,hx,hrun,Result.andThen]
 refine hK _ _ (h ao' c' w' hown' (hext.grown hg' (fun k hk=>by have:=(hown.lt k hk).1;omega)) hg')
end Go.Proofs.YtcppcnfmgpphcaaGreat
end
section
namespace Go.Proofs.YtcppcnfmgpphcaaGreat
open Go.RowKit

theorem vd_div {xs:List Nat} (hx:Lb xs) (k:Nat):val xs / pw k=vd xs k:=by
 by_cases h:k≤xs.length
 ·have h1:=ze3 xs k h
  have h2:=vk_lt hx k
  rw [h1,Nat.add_mul_div_left _ _ (zec k),Nat.div_eq_of_lt h2,Nat.zero_add]
  rfl
 ·rw [vd_end (by omega)]
  exact Nat.div_eq_of_lt (Nat.lt_of_lt_of_le (zb4 hx) (zd6 (by omega)))
theorem mod_step (Q k:Nat):Q % pw (k+1)=Q % pw k+pw k*(Q / pw k % 4294967296):=by
 rw [zau,Nat.mul_comm 4294967296,Nat.mod_mul]
theorem right_limb {xs:List Nat} (hx:Lb xs) (r k:Nat) (hr:r<32):val xs / 2 ^ r / pw k % 4294967296=(lim xs (k+1)*4294967296+lim xs k) / 2 ^ r % 4294967296:=by
 rw [Nat.div_div_eq_div_mul,Nat.mul_comm,← Nat.div_div_eq_div_mul,vd_div hx]
 have e:∀ j,vd xs j=lim xs j+4294967296*vd xs (j+1):=by
  intro j
  by_cases h:j<xs.length
  ·exact vd_step h
  ·rw [vd_end (by omega),vd_end (by omega),zbq (by omega)]
 have h32:(4294967296:Nat)=2 ^ r*2 ^ (32 - r):=by
  rw [← Nat.pow_add]
  have:r+(32 - r)=32:=by omega
  rw [this]
 have h1:vd xs k=(lim xs (k+1)*4294967296+lim xs k)+2 ^ r*(2 ^ (32 - r)*4294967296*vd xs (k+1+1)):=by
  rw [e k,e (k+1),← Nat.mul_assoc,← Nat.mul_assoc (2 ^ r),← h32,Nat.mul_add,← Nat.mul_assoc]
  omega
 rw [h1,Nat.add_mul_div_left _ _ (Nat.two_pow_pos r)]
 rw [show 2 ^ (32 - r)*4294967296*vd xs (k+1+1)=4294967296*(2 ^ (32 - r)*vd xs (k+1+1)) by rw [Nat.mul_comm (2 ^ (32 - r)),Nat.mul_assoc],Nat.add_mul_mod_self_left]

theorem Own.capEq {w:World} {B:Nat} {ao:Option Addr} {c c':Nat} {zs:List Nat} (h:Own w B ao c zs) (e:c=c'):Own w B ao c' zs:=e ▸ h

def RightR (w:World) (xs:List Nat) (q r:Nat) (out i:Value) (wr:World):Prop :=
  ∃ (j:Nat) (po:Option Addr) (pc:Nat) (zs:List Nat),q≤j∧j≤xs.length∧i = .int .i64 j∧out = .slice po zs.length pc∧Hid (q+zs.length=j)∧Own wr w.heap.size po pc zs∧Ext w wr ∧
    Hid (val zs=val (xs.drop q) / 2 ^ r % pw zs.length)

theorem right_val {xs:List Nat} (hx:Lb xs) {K q r:Nat} (hq:q=K / 32) (hr:r=K % 32):val xs / 2 ^ K=val (xs.drop q) / 2 ^ r:=by
 have h1:val (xs.drop q)=val xs / pw q:=(vd_div hx q).symm
 have h2:2 ^ K=pw q*2 ^ r:=by
  unfold pw
  rw [show (4294967296:Nat)=2 ^ 32 from rfl,← Nat.pow_mul,← Nat.pow_add];congr 1;omega
 rw [h1,h2,Nat.div_div_eq_div_mul]

set_option maxHeartbeats 2000000 in
theorem Right_max (ao:Option Addr) (n c:Nat) (xs:List Nat) (E:Int) (K:Nat) (w:World) (hn:n=xs.length) (hE:max E 0=(K:Int)) (hE2:K<9223372036854775808) (ha:Rd w ao c xs) (hl:xs.length≤1000000) :
  Calls Tryz.prog 179 #[.slice ao n c,.int .i64 E] w (GotN w (val xs / 2 ^ K)):=by
 subst hn
 have hA:=ha.trm
 have lA:=zeb xs
 have mA:=hA.mx
 have cA:=hA.cap
 rw [← zbv xs]
 obtain ⟨q,hq⟩:∃ q,q=K / 32:=⟨_,rfl⟩
 obtain ⟨r,hr⟩:∃ r,r=K % 32:=⟨_,rfl⟩
 have hq1:(K:Int) / 32=(q:Int):=by omega
 have hr1:(K:Int) % 32=(r:Int):=by omega
 have hqb:q<9223372036854775808:=by omega
 have hrb:r<32:=by omega
 have hv:=right_val hA.lb hq hr
 have Hv:=Lib.hid hv
 have hK0:¬ (K:Int)<0:=by omega
 clear hv hq hr
 by_cases hql:q<(trm xs).length
 ·go_enter Tryz.func179,Tryz.ntmps179
  go_wp2_with fail
  refine (zat ao _ c xs w rfl ha).mono ?_
  rintro e w' ⟨rfl,rfl⟩
  go_wp2_with (at_make;refine mk0 rfl _ _ rfl _ _ _ rfl rfl ?_ ?_ (Ext.refl w) ?_;omega;omega;intro w1 hown hext)
  go_loopw [7,8] (RightR w (trm xs) q r) (fun _ i _=>((trm xs).length - intOf i).toNat)
  case atStart=>exact ⟨q,_,_,[],by omega,by omega,rfl,rfl,rfl,hown.capEq (by omega),hext,by unfold Hid;simp [val,pw,Nat.mod_one]⟩
  case round =>
   obtain ⟨j,po,pc,zs,hqj,hk,rfl,rfl,hzl,hown,hext,heq⟩:=hrel
   have hzb:zs.length≤1100000:=by have:=hzl.out;omega
   by_cases hkA:j<(trm xs).length
   ·have hx:=(hA.ext hext).cell j hkA
    have hix:=ixk hA (trm xs).length rfl j hkA wr
    have bx:=zb5 hA.lb j
    have bx2:=zb5 hA.lb (j+1)
    have hrl:=right_limb (Lb_drop hA.lb q) r zs.length hrb
    rw [lim_drop,lim_drop,← Nat.add_assoc,hzl.out] at hrl
    have hor:=zgf (lim (trm xs) (j+1)) (lim (trm xs) j) bx2 bx
    have hor0:=zgf 0 (lim (trm xs) j) (by omega) bx
    have hst:val (zs++[(lim (trm xs) (j+1)*4294967296+lim (trm xs) j) / 2 ^ r % 4294967296])=val ((trm xs).drop q) / 2 ^ r % pw (zs.length+1):=by
     rw [zcx,mod_step,heq.out,hrl]
    have Hst:=Lib.hid hst
    obtain ⟨H,hH⟩:∃ H,H=lim (trm xs) (j+1)*4294967296+lim (trm xs) j:=⟨_,rfl⟩
    have hHb:H<18446744073709551616:=by omega
    obtain ⟨G,hG⟩:∃ G,G=H / 2 ^ r:=⟨_,rfl⟩
    have hGb:G<18446744073709551616:=by rw [hG];exact Nat.lt_of_le_of_lt (Nat.div_le_self _ _) hHb
    have hG1:(H:Int) / 2 ^ r=(G:Int):=by rw [hG,Int.natCast_ediv,Int.natCast_pow];rfl
    rw [← hH] at hor Hst
    rw [← hG] at Hst
    clear hst hrl heq hG
    by_cases hkB:j+1<(trm xs).length
    ·have hx2:=(hA.ext hext).cell (j+1) hkB
     have hix2:=ixe hA (trm xs).length rfl ((j:Int)+1) (j+1) (by omega) hkB wr
     clear hor0 hH
     go_wp2_with (at_builtin;refine push (wi:=w) rfl _ _ rfl _ _ zs _ rfl rfl hown _ ?_ ?_ rfl ?_ rfl hext ?_;omega;omega;omega;intro ao' c' w2 hown2 hext2)
     go_roundw
     case rel=>exact ⟨j+1,ao', c', zs++[G % 4294967296],by omega,by omega,by go_num,by simp,by unfold Hid;have:=hzl.out;simp;omega,hown2.snocEq (by omega),hext2,by unfold Hid;rw [List.length_append];exact Hst.out⟩
     case measure=>simp [intOf];try omega
    ·have hl0:lim (trm xs) (j+1)=0:=zbq (by omega)
     rw [hl0] at hH
     have hH2:H=lim (trm xs) j:=by omega
     rw [← hH2] at hx bx
     clear hH hor hor0 hl0 hH2 bx2
     have hor1:bits BinOp.or .u64 0 (H:Int)=(H:Int):=by have:=zgf 0 H (by omega) bx;simpa using this
     go_wp2_with (at_builtin;refine push (wi:=w) rfl _ _ rfl _ _ zs _ rfl rfl hown _ ?_ ?_ rfl ?_ rfl hext ?_;omega;omega;omega;intro ao' c' w2 hown2 hext2)
     go_roundw
     case rel=>exact ⟨j+1,ao', c', zs++[G % 4294967296],by omega,by omega,by go_num,by simp,by unfold Hid;have:=hzl.out;simp;omega,hown2.snocEq (by omega),hext2,by unfold Hid;rw [List.length_append];exact Hst.out⟩
     case measure=>simp [intOf];try omega
   ·have hv:val zs=val (trm xs) / 2 ^ K:=by
     rw [heq.out,Hv.out]
     apply Nat.mod_eq_of_lt
     refine Nat.lt_of_le_of_lt (Nat.div_le_self _ _) (zax (Lb_drop hA.lb q) ?_)
     have:=hzl.out
     rw [List.length_drop];omega
    have HV:=Lib.hid hv
    clear hv heq
    go_wp2_with fail
    refine (zc2 _ _ _ _ _ rfl hown.rd (by omega)).mono ?_
    intro e w' hg
    rw [HV.out] at hg
    obtain ⟨ao3,c3,zs3,rfl,h3⟩:=hg.from hext
    go_wp2_with fail
    go_ret
    exact ⟨ao3,c3,zs3,rfl,h3⟩
 ·have hv:val (trm xs) / 2 ^ K=0:=by
   rw [Hv.out,List.drop_eq_nil_of_le (by omega)];simp [val]
  rw [hv]
  clear hv
  go_enter Tryz.func179,Tryz.ntmps179
  go_wp2_with fail
  refine (zat ao _ c xs w rfl ha).mono ?_
  rintro e w' ⟨rfl,rfl⟩
  go_wp2_with fail
  go_ret
  exact ⟨none,0,[],rfl,Own.nil _ _,zce,rfl,Ext.refl _⟩
theorem Right_any (ao:Option Addr) (n c:Nat) (xs:List Nat) (E:Int) (K:Nat) (w:World) (hn:n=xs.length) (hE:E=(K:Int)) (hE2:K<9223372036854775808) (ha:Rd w ao c xs) (hl:xs.length≤1000000) :
  Calls Tryz.prog 179 #[.slice ao n c,.int .i64 E] w (GotN w (val xs / 2 ^ K)):=Right_max ao n c xs E K w hn (by omega) hE2 ha hl
end Go.Proofs.YtcppcnfmgpphcaaGreat
end
