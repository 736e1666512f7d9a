/-
  Part 4 of the proof of the statement WpPlaces: the walk through the program and the references lifted to the given row. It holds for every input.
-/
import Derived.Test.YtckmanpooapkpaaGreatWL1
import Derived.Test.YtckmanpooapkpaaGreatWL2
import Derived.Test.YtckmanpooapkpaaGreatWL3
import Derived.Laws.Strings
import Derived.Laws.MakeOwn
set_option maxRecDepth 100000
set_option maxHeartbeats 20000000
open Go.RowKit
namespace Go.Proofs.YtckmanpooapkpaaGreat
namespace S
theorem ZI.val_abs (x:ZI):nV x.abs=x.val.natAbs:=(iv_abs x.neg x.abs).symm
theorem zgi (a:Int) {b:Int} (h:b<0):b<a.fmod b/\a.fmod b<=0:=by
 have h1:=Int.fmod_lt_of_pos (-a) (b:=-b) (by omega)
 have h2:=Int.fmod_nonneg_of_pos (-a) (b:=-b) (by omega)
 rw [Int.neg_fmod_neg] at h1 h2
 omega
theorem fdiv_unique {a b q r:Int} (h:a=q*b+r) (hp:0<b->0<=r/\r<b) (hn:b<0->b<r/\r<=0) (hb:b≠0):q=a.fdiv b/\r=a.fmod b:=by
 have h1:=Int.mul_fdiv_add_fmod a b
 rcases Int.lt_or_lt_of_ne hb with hlt | hgt
 ·obtain ⟨h2,h3⟩:=hn hlt
  obtain ⟨h4,h5⟩:=zgi a hlt
  have hq:q=a.fdiv b:=by
   have e:b*(a.fdiv b - q)=r - a.fmod b:=by
    have:b*(a.fdiv b - q)=b*a.fdiv b - q*b:=by rw [Int.mul_sub,Int.mul_comm b q]
    omega
   rcases Int.lt_trichotomy (a.fdiv b - q) 0 with g | g | g
   ·have:b*(a.fdiv b - q)≥-b:=by
     have h6:(-b)*1<=(-b)*(-(a.fdiv b - q)):=Int.mul_le_mul_of_nonneg_left (by omega) (by omega)
     rw [Int.neg_mul_neg] at h6;omega
    omega
   ·omega
   ·have:b*(a.fdiv b - q)<=b:=by
     have h6:(-b)*1<=(-b)*(a.fdiv b - q):=Int.mul_le_mul_of_nonneg_left (by omega) (by omega)
     rw [Int.neg_mul b (a.fdiv b - q)] at h6;omega
    omega
  refine ⟨hq,?_⟩
  rw [hq,Int.mul_comm] at h
  omega
 ·obtain ⟨h2,h3⟩:=hp hgt
  have h4:a.fmod b<b:=Int.fmod_lt_of_pos a hgt
  have h5:0<=a.fmod b:=Int.fmod_nonneg_of_pos a hgt
  have hq:q=a.fdiv b:=by
   have e:b*(a.fdiv b - q)=r - a.fmod b:=by
    have:b*(a.fdiv b - q)=b*a.fdiv b - q*b:=by rw [Int.mul_sub,Int.mul_comm b q]
    omega
   rcases Int.lt_trichotomy (a.fdiv b - q) 0 with g | g | g
   ·have h6:b*1<=b*(-(a.fdiv b - q)):=Int.mul_le_mul_of_nonneg_left (by omega) (by omega)
    rw [Int.mul_neg] at h6;omega
   ·omega
   ·have h6:b*1<=b*(a.fdiv b - q):=Int.mul_le_mul_of_nonneg_left (by omega) (by omega)
    omega
  refine ⟨hq,?_⟩
  rw [hq,Int.mul_comm] at h
  omega
theorem fmod_range (a:Int) {b:Int} (_hb:b≠0):(0<b->0<=a.fmod b/\a.fmod b<b)/\(b<0->b<a.fmod b/\a.fmod b<=0) :=
 ⟨fun h=>⟨Int.fmod_nonneg_of_pos a h,Int.fmod_lt_of_pos a h⟩,fun h=>zgi a h⟩
theorem fdiv_fmod (a b:Int):a=a.fdiv b*b+a.fmod b:=by have:=Int.mul_fdiv_add_fmod a b;rw [Int.mul_comm] at this;exact this.symm
theorem fdiv_same {X Y:Int} (hY:Y≠0) {s t:Bool} (hs:s=decide (X<0)) (ht:t=decide (Y<0)) {zq zr:List Nat} (hq:nV zq=X.natAbs / Y.natAbs) (hr:nV zr=X.natAbs % Y.natAbs) (h:(s != t)=true->nV zr=0) :
  iv (s != t) zq=X.fdiv Y/\iv s zr=X.fmod Y:=by
 have hm:=Nat.mod_lt X.natAbs (Nat.pos_of_ne_zero (by omega:Y.natAbs≠0))
 have hd:=Nat.div_add_mod X.natAbs Y.natAbs
 generalize X.natAbs / Y.natAbs=q at *
 generalize X.natAbs % Y.natAbs=r at *
 subst hs ht
 refine fdiv_unique ?_ ?_ ?_ hY
 ·unfold iv
  rw [hq,hr]
  have hd2:((Y.natAbs:Int)*(q:Int)+(r:Int))=(X.natAbs:Int):=by rw [<- hd];simp
  by_cases h1:X<0 <;> by_cases h2:Y<0
  ·have e1:(X.natAbs:Int)=-X:=by omega
   have e2:(Y.natAbs:Int)=-Y:=by omega
   rw [e1,e2,Int.neg_mul] at hd2
   simp [h1,h2]
   rw [Int.mul_comm];omega
  ·have e1:(X.natAbs:Int)=-X:=by omega
   have e2:(Y.natAbs:Int)=Y:=by omega
   rw [e1,e2] at hd2
   simp [h1,h2]
   rw [Int.neg_mul,Int.mul_comm];omega
  ·have e1:(X.natAbs:Int)=X:=by omega
   have e2:(Y.natAbs:Int)=-Y:=by omega
   rw [e1,e2,Int.neg_mul] at hd2
   simp [h1,h2]
   rw [Int.neg_mul,Int.mul_comm];omega
  ·have e1:(X.natAbs:Int)=X:=by omega
   have e2:(Y.natAbs:Int)=Y:=by omega
   rw [e1,e2] at hd2
   simp [h1,h2]
   rw [Int.mul_comm];omega
 ·intro hp
  unfold iv
  have h2:¬ Y<0:=by omega
  by_cases h1:X<0
  ·have:=h (by simp [h1,h2])
   simp [h1,this];omega
  ·simp [h1,hr];omega
 ·intro hp
  unfold iv
  by_cases h1:X<0
  ·simp [h1,hr];omega
  ·have:=h (by simp [h1,hp])
   simp [h1,this];omega
theorem fdiv_other {X Y:Int} (hY:Y≠0) {s t:Bool} (hs:s=decide (X<0)) (ht:t=decide (Y<0)) {zq zr:List Nat} (hq:nV zq=X.natAbs / Y.natAbs) (hr:nV zr=X.natAbs % Y.natAbs) (h:(s != t)=true) (h0:nV zr≠0) :
  iv (s != t) zq - 1=X.fdiv Y/\iv s zr+Y=X.fmod Y:=by
 have hm:=Nat.mod_lt X.natAbs (Nat.pos_of_ne_zero (by omega:Y.natAbs≠0))
 have hd:=Nat.div_add_mod X.natAbs Y.natAbs
 generalize X.natAbs / Y.natAbs=q at *
 generalize X.natAbs % Y.natAbs=r at *
 subst hs ht
 rw [hr] at h0
 have hd2:((Y.natAbs:Int)*(q:Int)+(r:Int))=(X.natAbs:Int):=by rw [<- hd];simp
 rw [h]
 refine fdiv_unique ?_ ?_ ?_ hY
 ·unfold iv
  rw [hq,hr]
  by_cases h1:X<0 <;> by_cases h2:Y<0
  ·simp [h1,h2] at h
  ·have e1:(X.natAbs:Int)=-X:=by omega
   have e2:(Y.natAbs:Int)=Y:=by omega
   rw [e1,e2] at hd2
   simp [h1]
   rw [Int.sub_mul,Int.neg_mul,Int.mul_comm];omega
  ·have e1:(X.natAbs:Int)=X:=by omega
   have e2:(Y.natAbs:Int)=-Y:=by omega
   rw [e1,e2,Int.neg_mul] at hd2
   simp [h1]
   rw [Int.sub_mul,Int.neg_mul,Int.mul_comm];omega
  ·simp [h1,h2] at h
 ·intro hp
  unfold iv
  have h2:¬ Y<0:=by omega
  by_cases h1:X<0
  ·simp [h1,hr];omega
  ·simp [h1,h2] at h
 ·intro hp
  unfold iv
  by_cases h1:X<0
  ·simp [h1,hp] at h
  ·simp [h1,hr];omega
theorem val_zero {zs:List Nat} (h:zcj zs):nV zs=0 ↔ zs.length=0 :=
 ⟨fun e=>by rw [zi7 h e];rfl,fun e=>by rw [List.length_eq_zero_iff.1 e];rfl⟩
theorem zen (X:Int) {Y:Int} (hY:Y≠0):(X.fdiv Y).natAbs<=X.natAbs:=by
 have h:=fdiv_fmod X Y
 obtain ⟨h1,h2⟩:=fmod_range X hY
 rcases Int.lt_or_lt_of_ne hY with g | g
 ·obtain ⟨h3,h4⟩:=h2 g
  by_cases hq:0<=X.fdiv Y
  ·have:X.fdiv Y*Y<=X.fdiv Y*(-1):=Int.mul_le_mul_of_nonneg_left (by omega) hq
   omega
  ·have:(-X.fdiv Y - 1)*1<=(-X.fdiv Y - 1)*(-Y):=Int.mul_le_mul_of_nonneg_left (by omega) (by omega)
   have e:(-X.fdiv Y - 1)*(-Y)=X.fdiv Y*Y+Y:=by rw [Int.sub_mul,Int.neg_mul_neg];omega
   omega
 ·obtain ⟨h3,h4⟩:=h1 g
  by_cases hq:0<=X.fdiv Y
  ·have:X.fdiv Y*1<=X.fdiv Y*Y:=Int.mul_le_mul_of_nonneg_left (by omega) hq
   omega
  ·have:(-X.fdiv Y - 1)*1<=(-X.fdiv Y - 1)*Y:=Int.mul_le_mul_of_nonneg_left (by omega) (by omega)
   have e:(-X.fdiv Y - 1)*Y=-(X.fdiv Y*Y) - Y:=by rw [Int.sub_mul,Int.neg_mul];omega
   omega
theorem zgj (X:Int) {Y:Int} (hY:Y≠0):(X.fmod Y).natAbs<Y.natAbs:=by
 obtain ⟨h1,h2⟩:=fmod_range X hY
 rcases Int.lt_or_lt_of_ne hY with g | g
 ·have:=h2 g;omega
 ·have:=h1 g;omega
theorem zjg {x y:ZI} (hx:Lb x.abs) (h:y.val≠0):(ZI.of (x.val.fdiv y.val)).abs.length<=x.abs.length:=ZI.len_of (Nat.lt_of_le_of_lt (zen _ h) (ZI.abs_lt hx))
theorem len_fmod {x y:ZI} (hy:Lb y.abs) (h:y.val≠0):(ZI.of (x.val.fmod y.val)).abs.length<=y.abs.length:=ZI.len_of (Nat.lt_trans (zgj _ h) (ZI.abs_lt hy))
def bez (r0 x0 y0 r1 x1 y1:Int):Int × Int × Int :=
  if _h:r1<=0 then (r0,x0,y0) else bez r1 x1 y1 (r0.fmod r1) (x0 - r0.fdiv r1*x1) (y0 - r0.fdiv r1*y1)
  termination_by r1.natAbs
  decreasing_by exact zgj _ (by omega)
theorem zs_0:za4 Tryz.prog 170:=za4.mk' (by kernel_rfl)
theorem zs_9:za4 Tryz.prog 171:=za4.mk' (by kernel_rfl)
theorem zs_14:za4 Tryz.prog 162:=za4.mk' (by kernel_rfl)
theorem zs_16:za4 Tryz.prog 163:=za4.mk' (by kernel_rfl)
theorem zs_18:za4 Tryz.prog 79:=za4.mk' (by kernel_rfl)
theorem zs_20:za4 Tryz.prog 156:=za4.mk' (by kernel_rfl)
theorem SSub (x y:ZI) (hx:Lb x.abs) (hy:Lb y.abs) (lx:x.abs.length<=49000) (ly:y.abs.length<=49000):Fn Tryz.prog 163 [] [vz x,vz y] (vz (ZI.of (x.val - y.val))) []:=by
 refine Fn.body Tryz.func163 rfl 9 rfl fun w H B a h=>Jq 0 [] [(2,vp 0 0),(3,vp 1 0),(4,vp 2 0)] [(0,.box (zi x)),(1,.box (zi y)),(2,.box [cB false,.d (nsl [])])] h fun a w h=>?_
 obtain ⟨r1,er1,vr1,or1,lr1⟩:=mkZ (v:=-y.val) (m:=y.abs.length) (len_neg hy);obtain ⟨r2,er2,vr2,or2,lr2⟩:=mkZ (v:=x.val+r1.val) (m:=x.abs.length+r1.abs.length+1) (zdl hx or1);refine Jq 3 [(2,.call (Fn.cast (SNeg y hy (by omega)) (congrArg vz er1.symm)) zs_0),(3,.call (Fn.cast (SAdd x r1 hx or1 (by omega) (by omega)) (congrArg vz er2.symm)) tl_9)] [(4,vp 2 0)] [(2,.box (zi r2))] h fun a w h=>qV (rA 2 (zi r2) h zed rfl (congrArg (fun z=>vz z) (er2.trans (congrArg ZI.of ?_))));rw [vr1];omega
theorem gcd_iv (m n:Nat) {zs:List Nat} (h:nV zs=Nat.gcd m n):iv false zs=(Nat.gcd m n:Int):=by rw [zd3,h]
theorem len_gcd {x y:ZI} (hx:Lb x.abs) (hy:Lb y.abs):(ZI.of (Nat.gcd x.val.natAbs y.val.natAbs:Int)).abs.length<=x.abs.length+y.abs.length:=ZI.len_of (by rw [Int.natAbs_natCast];exact gcd_lt_pw (ZI.abs_lt hx) (ZI.abs_lt hy))
theorem SGcd (x y:ZI) (hx:Lb x.abs) (hy:Lb y.abs) (lx:x.abs.length<=40000) (ly:y.abs.length<=40000):Fn Tryz.prog 164 [] [vz x,vz y] (vz (ZI.of (Nat.gcd x.val.natAbs y.val.natAbs:Int))) []:=by
 refine Fn.body Tryz.func164 rfl 11 rfl fun w H B a h=>Jq 0 [] [(2,vp 0 0),(3,vp 1 0),(4,vp 2 0)] [(0,.box (zi x)),(1,.box (zi y)),(2,.box [cB false,.d (nsl [])])] h fun a w h=>?_
 obtain ⟨n1,en1,vn1,on1,ln1⟩:=mkN (v:=Nat.gcd (nV x.abs) (nV y.abs)) (m:=x.abs.length+y.abs.length) (gcd_lt_pw (zb6 hx) (zb6 hy));obtain ⟨r2,er2,vr2,or2,lr2⟩:=mkZ (v:=iv false n1) (m:=n1.length) (zcx on1);refine Jq 3 [(4,.call (Fn.cast (SnGcd x.abs y.abs hx hy (by omega) (by omega)) (congrArg vn en1.symm)) zs_9),(5,.call (Fn.cast (zj1 false n1 on1 (by omega)) (congrArg vz er2.symm)) ia_3)] [(4,vp 2 0)] [(2,.box (zi r2))] h fun a w h=>qV (rA 2 (zi r2) h zed rfl ?_);rw [er2];unfold ZI.val;rw [iv_abs,iv_abs,<- gcd_iv _ _ vn1];try rfl
theorem SDiv (x y:ZI) (hx:Lb x.abs) (hy:Lb y.abs) (lx:x.abs.length<=40000) (ly:y.abs.length<=40000) (h0:y.val≠0):Fn Tryz.prog 156 [] [vz x,vz y] (.tup [.agg (zi (ZI.of (x.val.fdiv y.val))),.agg (zi (ZI.of (x.val.fmod y.val))),.c (.d (.raw (.int .i64 0)))]) []:=by
 refine Fn.body Tryz.func156 rfl 56 rfl fun w H B a h=>Jq 0 [] [(2,vp 0 0),(3,vp 1 0),(4,vp 2 0),(5,vp 3 0),(6,vI 0)] [(0,.box (zi x)),(1,.box (zi y)),(2,.box [.d (.raw (.bool false)),.d (nsl [])]),(3,.box [.d (.raw (.bool false)),.d (nsl [])])] h fun a w h=>?_
 obtain ⟨r1,er1,vr1,or1,lr1⟩:=mkZ (v:=x.val) (m:=x.abs.length) (zd1 hx);obtain ⟨r2,er2,vr2,or2,lr2⟩:=mkZ (v:=y.val) (m:=y.abs.length) (zd1 hy);refine Jd 4 [(1,.call (Fn.cast (SClean x hx (by omega)) (congrArg vz er1.symm)) ia_5),(3,.call (Fn.cast (SClean y hy (by omega)) (congrArg vz er2.symm)) ia_5)] [] [] [(0,.box (zi r1)),(1,.box (zi r2)),(2,.box [.d (.raw (.bool false)),.d (nsl [])]),(3,.box [.d (.raw (.bool false)),.d (nsl [])])] h fun a w h=>?_;obtain ⟨n3q,en3q,vn3q,on3q,ln3q⟩:=mkN (v:=nV r1.abs / nV r2.abs) (m:=r1.abs.length) (Nat.lt_of_le_of_lt (Nat.div_le_self _ _) (zb6 or1));obtain ⟨n3r,en3r,vn3r,on3r,ln3r⟩:=mkN (v:=nV r1.abs % nV r2.abs) (m:=r2.abs.length) (Nat.lt_trans (Nat.mod_lt _ (Nat.pos_of_ne_zero (by rw [ZI.val_abs,vr2];omega))) (zb6 or2));refine Je 4 [(4,.call (Fn.cast (SnDiv r1.abs r2.abs or1 or2 (by omega) (by omega) (by rw [ZI.val_abs,vr2];omega)) (show _=(.tup [.c (.d (nsl n3q)),.c (.d (nsl n3r)),.c (.d (.raw (.int .i64 0)))]:V) by rw [en3q,en3r];try rfl)) zs_14)] [] [(7,vn n3q),(8,vn n3r)] h fun a w h=>qW (Je 4 [(1,.cmp (op:=.neq) (m:=0) (n:=0) (b:=false) .i64 rfl)] [] [(23,vb false)] h fun a w h=>zap false h rfl nofun (fun _=>qU (za1 ?_)));obtain ⟨r4,er4,vr4,or4,lr4⟩:=mkZ (v:=iv (r1.neg != r2.neg) n3q) (m:=n3q.length) (zcx on3q);obtain ⟨r5,er5,vr5,or5,lr5⟩:=mkZ (v:=iv r1.neg n3r) (m:=n3r.length) (zcx on3r);refine Jd 4 [(6,.call (Fn.cast (zj1 (r1.neg != r2.neg) n3q on3q (by omega)) (congrArg vz er4.symm)) ia_3),(10,.call (Fn.cast (zj1 r1.neg n3r on3r (by omega)) (congrArg vz er5.symm)) ia_3)] [7,23] [] [(0,.box (zi r1)),(1,.box (zi r2)),(2,.box (zi r4)),(3,.box (zi r5))] h fun a w h=>qW ?_
 rcases Bool.eq_false_or_eq_true (r1.neg != r2.neg) with hc1 | hc4
 ·have hc1':=hc1;(try simp at hc1');refine Jd 4 [(4,.cmpb .neq (m:=r1.neg) (n:=r2.neg) (b:=true) (.inr ⟨rfl,hc1.symm⟩)),(7,.len (ze1 n3r))] [2,8] [(47,vb (decide ((n3r.length:Int)>0)))] [(1,.box (zi r2)),(2,.box (zi r4)),(3,.box (zi r5))] h fun a w h=>zam ((n3r.length:Int)>0) h (fun hc2 hc2'=>?_) (fun hc3 hc3'=>?_)
  ·obtain ⟨r6,er6,vr6,or6,lr6⟩:=mkZ (v:=1) (m:=2) (ZI.len_of (by have:=pw2;omega));obtain ⟨r7,er7,vr7,or7,lr7⟩:=mkZ (v:=r4.val - r6.val) (m:=r4.abs.length+r6.abs.length+1) (len_sub or4 or6);obtain ⟨r8,er8,vr8,or8,lr8⟩:=mkZ (v:=r5.val+r2.val) (m:=r5.abs.length+r2.abs.length+1) (zdl or5 or2);refine Jm 4 [(1,.call (Fn.cast (SOf 1 ⟨by omega,by omega⟩) (congrArg vz er6.symm)) tm_10),(2,.call (Fn.cast (SSub r4 r6 or4 or6 (by omega) (by omega)) (congrArg vz er7.symm)) zs_16),(5,.call (Fn.cast (SAdd r5 r2 or5 or2 (by omega) (by omega)) (congrArg vz er8.symm)) tl_9)] [3,47] [] [(2,.box (zi r7)),(3,.box (zi r8))] h fun a w h=>za1 (Je 4 [] [] [] h fun a w h=>qV (zeb [.agg (zi r7),.agg (zi r8),.c (.d (.raw (.int .i64 0)))] h Exit.ret (.inl rfl)  rfl ⟨RV.agg _ 2 0 _ _ _ _ zed rfl rfl rfl rfl,RV.agg _ 3 0 _ _ _ _ zed rfl rfl rfl rfl,RV.tmp _ _ rfl,trivial⟩ ?_));have f1:r1.neg=decide (x.val<0):=by rw [er1];rfl
   have f2:r2.neg=decide (y.val<0):=by rw [er2];rfl
   have f3:nV n3q=x.val.natAbs / y.val.natAbs:=by rw [vn3q,ZI.val_abs,ZI.val_abs,vr1,vr2]
   have f4:nV n3r=x.val.natAbs % y.val.natAbs:=by rw [vn3r,ZI.val_abs,ZI.val_abs,vr1,vr2]
   have f5:nV n3r=0 ↔ n3r.length=0:=by rw [en3r];exact val_zero (zcl _)
   obtain ⟨e1,e2⟩:=fdiv_other h0 f1 f2 f3 f4 hc1 (fun h=>by have:=f5.1 h;omega);rw [er7,er8,vr4,vr5,vr6,vr2,e1,e2];try rfl
  refine qU (za1 (Jd 4 [] [3,47] [] [(2,.box (zi r4)),(3,.box (zi r5))] h fun a w h=>qV (zeb [.agg (zi r4),.agg (zi r5),.c (.d (.raw (.int .i64 0)))] h Exit.ret (.inl rfl)  rfl ⟨RV.agg _ 2 0 _ _ _ _ zed rfl rfl rfl rfl,RV.agg _ 3 0 _ _ _ _ zed rfl rfl rfl rfl,RV.tmp _ _ rfl,trivial⟩ ?_)));have f1:r1.neg=decide (x.val<0):=by rw [er1];rfl
  have f2:r2.neg=decide (y.val<0):=by rw [er2];rfl
  have f3:nV n3q=x.val.natAbs / y.val.natAbs:=by rw [vn3q,ZI.val_abs,ZI.val_abs,vr1,vr2]
  have f4:nV n3r=x.val.natAbs % y.val.natAbs:=by rw [vn3r,ZI.val_abs,ZI.val_abs,vr1,vr2]
  have f5:nV n3r=0 ↔ n3r.length=0:=by rw [en3r];exact val_zero (zcl _)
  obtain ⟨e1,e2⟩:=fdiv_same h0 f1 f2 f3 f4 (fun _=>f5.2 (by omega));rw [er4,er5,e1,e2];try rfl
 have hc4':=hc4;(try simp at hc4');refine Jd 4 [(4,.cmpb .neq (m:=r1.neg) (n:=r2.neg) (b:=false) (.inr ⟨rfl,hc4.symm⟩))] [2,8] [(47,vb false)] [(1,.box (zi r2)),(2,.box (zi r4)),(3,.box (zi r5))] h fun a w h=>zap false h rfl nofun (fun _=>qU (za1 (Jd 4 [] [3,47] [] [(2,.box (zi r4)),(3,.box (zi r5))] h fun a w h=>qV (zeb [.agg (zi r4),.agg (zi r5),.c (.d (.raw (.int .i64 0)))] h Exit.ret (.inl rfl)  rfl ⟨RV.agg _ 2 0 _ _ _ _ zed rfl rfl rfl rfl,RV.agg _ 3 0 _ _ _ _ zed rfl rfl rfl rfl,RV.tmp _ _ rfl,trivial⟩ ?_))))
 have f1:r1.neg=decide (x.val<0):=by rw [er1];rfl
 have f2:r2.neg=decide (y.val<0):=by rw [er2];rfl
 have f3:nV n3q=x.val.natAbs / y.val.natAbs:=by rw [vn3q,ZI.val_abs,ZI.val_abs,vr1,vr2]
 have f4:nV n3r=x.val.natAbs % y.val.natAbs:=by rw [vn3r,ZI.val_abs,ZI.val_abs,vr1,vr2]
 have f5:nV n3r=0 ↔ n3r.length=0:=by rw [en3r];exact val_zero (zcl _)
 obtain ⟨e1,e2⟩:=fdiv_same h0 f1 f2 f3 f4 (fun h=>by rw [hc4] at h;cases h);rw [er4,er5,e1,e2];try rfl
theorem sgn_eq0 {z:Int}:sgn z=0 ↔ z=0:=by unfold sgn;split <;> (try split) <;> omega
theorem SExact (x y:ZI) (hx:Lb x.abs) (hy:Lb y.abs) (lx:x.abs.length<=15000) (ly:y.abs.length<=15000) (h0:y.val≠0) (hr:x.val.fmod y.val=0):Fn Tryz.prog 161 [] [vz x,vz y] (.tup [.agg (zi (ZI.of (x.val.fdiv y.val))),.c (cI 0)]) []:=by
 refine Fn.body Tryz.func161 rfl 27 rfl fun w H B a h=>Jq 0 [] [(2,vp 0 0),(3,vp 1 0),(4,vp 2 0),(5,vI 0)] [(0,.box (zi x)),(1,.box (zi y)),(2,.box [cB false,.d (nsl [])])] h fun a w h=>?_
 obtain ⟨r1q,er1q,vr1q,or1q,lr1q⟩:=mkZ (v:=x.val.fdiv y.val) (m:=x.abs.length) (zjg hx h0);obtain ⟨r1r,er1r,vr1r,or1r,lr1r⟩:=mkZ (v:=x.val.fmod y.val) (m:=y.abs.length) (len_fmod hy h0);refine Jd 3 [(2,.call (Fn.cast (SDiv x y hx hy (by omega) (by omega) h0) (show _=(.tup [.agg (zi r1q),.agg (zi r1r),.c (cI 0)]:V) by rw [er1q,er1r];try rfl)) zs_20)] [2,3] [(6,vp 3 0),(7,vp 4 0),(8,vI 0)] [(2,.box [cB false,.d (nsl [])]),(3,.box (zi r1q)),(4,.box (zi r1r))] h fun a w h=>qW (qZ (Je 5 [(1,.cmp (op:=.neq) (m:=0) (n:=0) (b:=false) .i64 rfl)] [] [(16,vb false)] h fun a w h=>zap false h rfl nofun (fun _=>Jd 5 [(1,.call (Fn.cast (SSign r1r or1r (by omega)) (congrArg (vi .i64) (zf7 (by rw [vr1r];exact hr)))) td_6),(2,.cmp (op:=.neq) (m:=0) (n:=0) (b:=false) .i64 rfl)] [7,8,16] [(21,vb false)] [(2,.box [cB false,.d (nsl [])]),(3,.box (zi r1q))] h fun a w h=>zap false h rfl nofun (fun _=>qU (za9 (za1 (Jd 5 [] [6,21] [] [(2,.box (zi r1q))] h fun a w h=>qV (zeb [.agg (zi r1q),.c (cI 0)] h Exit.ret (.inl rfl)  rfl ⟨RV.agg _ 2 0 _ _ _ _ zed rfl rfl rfl rfl,RV.tmp _ _ rfl,trivial⟩ ?_))))))));rw [er1q];try rfl
theorem tt_3:za4 Tryz.prog 124:=za4.mk' (by kernel_rfl)
theorem tt_6:SlT Tryz.prog 41 28 2:=SlT.mk' Tryz.underlying41 (by kernel_rfl)
theorem tt_11:za4 Tryz.prog 164:=za4.mk' (by kernel_rfl)
theorem STCoef (t:zak) (v:Int) (ht:PsOk 40000 t.parts):Fn Tryz.prog 124 [] [(vT t),vI v] (vz (ZI.of (zao t.parts v))) []:=by
 refine Fn.body Tryz.func124 rfl 30 rfl fun w H B a h=>Jq 0 [] [(1,vI v),(2,vp 0 0),(4,vp 1 0)] [(0,.box (zT t)),(1,.box [cB false,.d (nsl [])])] h fun a w h=>Jd 2 [] [] [(5,vp 2 0)] [(0,.box (zT t)),(1,.box [cB false,.d (nsl [])]),(2,.box [cB false,.d (nsl [])])] h fun a w h=>qW (Jd 3 [(2,.len (za6 3 za3.d t.parts))] [2] [(10,(vPs t.parts)),(11,vN t.parts.length),(12,vI 0)] [(1,.box [cB false,.d (nsl [])]),(2,.box [cB false,.d (nsl [])])] h fun a w h=>qZ ?_)
 refine zaq (ι:=(Nat) × (ZI)) (fun (j,out)=>out=ZI.of (zao (t.parts.take j) v)/\j<=t.parts.length)
   (fun (j,out)=>[(1,vI v),(4,vp 1 0),(5,vp 2 0),(10,(vPs t.parts)),(11,vN t.parts.length),(12,vN j)])
   (fun (j,out)=>[(1,.box [cB false,.d (nsl [])]),(2,.box (zi out))])
   (fun (j,out)=>t.parts.length - j) (0,(ZI.of 0)) ?_ h (by kernel_rfl) (by kernel_rfl) ?_
 ·exact ⟨by simp [zao],Nat.zero_le _⟩
 clear h;rintro ⟨j,out⟩ a w hI h;dsimp only at h;obtain ⟨hI1,hI2⟩:=hI;have ln:=ht.1;have lo:out.abs.length<=40001:=by rw [hI1];exact zfc (ht.take j) v
 have ho:Lb out.abs:=by rw [hI1];exact ZI.lb_of _
 have vo:out.val=zao (t.parts.take j) v:=by rw [hI1];exact ZI.val_of _
 refine Je 3 [] [] [(13,vb (decide ((j:Int)<(t.parts.length:Int))))] h fun a w h=>qW (zam ((j:Int)<(t.parts.length:Int)) h (fun hc1 hc1'=>?_) (fun hc6 hc6'=>?_))
 ·refine qU (za1 (qW (qZ ?_)));obtain ⟨x1,hx1⟩:=gl t.parts j;obtain ⟨ox1,lx1⟩:=ht.get hx1;refine Jd 3 [(0,.g (xD 14 10 zcb (zab hx1 (f:=za3.d)) (OV.tmp 12 _)))] [13] [(7,vp 3 0)] [(1,.box [cB false,.d (nsl [])]),(2,.box (zi out)),(3,.box ([cI x1.v]++zi x1.c))] h fun a w h=>?_
  rcases Bool.eq_false_or_eq_true (x1.v == v) with hc2 | hc5
  ·have hc2':=hc2;(try simp at hc2');refine Je 4 [(3,.cmp (op:=.eql) (m:=x1.v) (n:=v) (b:=true) .i64 hc2)] [] [(23,vb (decide (v>=0)))] h fun a w h=>zam (v>=0) h (fun hc3 hc3'=>?_) (fun hc4 hc4'=>?_)
   ·obtain ⟨r2,er2,vr2,or2,lr2⟩:=mkZ (v:=out.val+x1.c.val) (m:=out.abs.length+x1.c.abs.length+1) (zdl ho ox1);refine Jm 4 [(3,.call (Fn.cast (SAdd out x1.c ho ox1 (by omega) (by omega)) (congrArg vz er2.symm)) tl_9)] [7,23] [] [(1,.box [cB false,.d (nsl [])]),(2,.box (zi r2))] h fun a w h=>za9 (za1 (Jf 4 [(0,.j1 j)] [] [(12,vI ((j:Int)+1))] h fun a w h=>za1 (zag (x:=(j,out)) (y:=(j+1,r2)) h ?_ ?_)))
    ·have hc:x1.v=v/\0<=v:=⟨by simpa using hc2,by have:=hc3';omega⟩;exact ⟨by rw [er2,vo,zdz hx1,if_pos hc],by have:=(List.getElem?_eq_some_iff.1 hx1).1;omega⟩
    (try simp);omega
   refine qU (za9 (za1 (Jm 4 [(0,.j1 j)] [7,23] [(12,vI ((j:Int)+1))] [(1,.box [cB false,.d (nsl [])]),(2,.box (zi out))] h fun a w h=>za1 (zag (x:=(j,out)) (y:=(j+1,out)) h ?_ ?_))))
   ·exact ⟨by rw [hI1,zdz hx1,if_neg (fun hc=>absurd hc.2 (by have:=hc4';omega)),Int.add_zero],by have:=(List.getElem?_eq_some_iff.1 hx1).1;omega⟩
   (try simp);omega
  have hc5':=hc5;(try simp at hc5');refine Je 4 [(3,.cmp (op:=.eql) (m:=x1.v) (n:=v) (b:=false) .i64 hc5)] [] [(23,vb false)] h fun a w h=>zap false h rfl nofun (fun _=>qU (za9 (za1 (Jm 4 [(0,.j1 j)] [7,23] [(12,vI ((j:Int)+1))] [(1,.box [cB false,.d (nsl [])]),(2,.box (zi out))] h fun a w h=>za1 (zag (x:=(j,out)) (y:=(j+1,out)) h ?_ ?_)))))
  ·exact ⟨by rw [hI1,zdz hx1,if_neg (fun hc=>absurd hc.1 (by simpa using hc5)),Int.add_zero],by have:=(List.getElem?_eq_some_iff.1 hx1).1;omega⟩
  (try simp);omega
 refine wp_exit (zaa (zaa (za5 (za1 (Jq 4 [] [(4,vp 1 0)] [(1,.box (zi out))] h fun a w h=>qV (rA 1 (zi out) h zed rfl ?_))))));have hj:j=t.parts.length:=by have:=hc6';omega
 subst hj;rw [hI1,List.take_length];try rfl
theorem SHas (t:zak) (v:Int) {n L:Nat} (ht:TOk n L t) (hn:n<=1000) (hL:L<=20000):Fn Tryz.prog 94 [] [(vT t),vI v] (vb (sgn (zao t.parts v) != 0)) []:=by
 refine Fn.body Tryz.func94 rfl 10 rfl fun w H B a h=>Jq 0 [] [(1,vI v),(2,vp 0 0),(4,vb false)] [(0,.box (zT t))] h fun a w h=>?_
 obtain ⟨r1,er1,vr1,or1,lr1⟩:=mkZ (v:=zao t.parts v) (m:=L+1) (zfc (ht.mono hn (Nat.le_refl L)).psok v);refine Jq 1 [(2,.call (Fn.cast (STCoef t v (ht.mono hn (by omega)).psok) (congrArg vz er1.symm)) tt_3),(3,.call (SSign r1 or1 (by omega)) td_6)] [(4,vb (sgn r1.val != 0))] [] h fun a w h=>qV (rT (.c (cB (sgn r1.val != 0))) h rfl ?_);rw [vr1];try rfl
def valAt (vs:List ZI) (v:Int):Int:=if 0<=v then ((vs[v.toNat]?).map ZI.val).getD 0 else 0
def valP (vs:List ZI):List za3->Int
  | []=>0
  | p :: ps=>p.c.val*valAt vs p.v+valP vs ps
theorem valAt_some {vs:List ZI} {v:Int} {k:Nat} {y:ZI} (h:v=(k:Int)) (hy:vs[k]?=some y):valAt vs v=y.val:=by
 subst h
 unfold valAt
 rw [if_pos (by omega),Int.toNat_natCast,hy];rfl
theorem valAt_neg {vs:List ZI} {v:Int} (h:¬ v>=0):valAt vs v=0:=by unfold valAt;rw [if_neg (by omega)]
theorem valAt_out {vs:List ZI} {v:Int} (h:¬ v<(vs.length:Int)):valAt vs v=0:=by
 unfold valAt
 split
 ·rw [List.getElem?_eq_none (by omega)];rfl
 ·rfl
def valT (t:zak) (vs:List ZI):Int:=t.k.val+valP vs t.parts
def VOk (M:Nat) (vs:List ZI):Prop:=vs.length<=2000/\∀ y ∈ vs,Lb y.abs/\y.abs.length<=M
theorem VOk.get {M:Nat} {vs:List ZI} (h:VOk M vs) {j:Nat} {y:ZI} (hy:vs[j]?=some y):Lb y.abs/\y.abs.length<=M:=h.2 y (List.mem_of_getElem? hy)
theorem valAt_lt {M:Nat} {vs:List ZI} (h:VOk M vs) (v:Int):(valAt vs v).natAbs<pw M:=by
 unfold valAt
 split
 ·cases hy:vs[v.toNat]? with
  | none=>exact zei M
  | some y =>
   obtain ⟨h1,h2⟩:=h.get hy
   have h3:=ZI.abs_lt h1
   have h4:=zdi h2
   show y.val.natAbs<_
   omega
 ·exact zei M
theorem valP_lt {L M:Nat} {vs:List ZI} (hv:VOk M vs):∀ {ps:List za3}, (∀ p ∈ ps,Lb p.c.abs/\p.c.abs.length<=L)->(valP vs ps).natAbs<=ps.length*pw (L+M)
 | [],_=>by simp [valP]
 | p :: ps,h=>by
  have ih:=valP_lt hv (fun q hq=>h q (by simp [hq])) (ps:=ps)
  obtain ⟨h1,h2⟩:=h p (by simp)
  have h3:=Nat.lt_of_lt_of_le (ZI.abs_lt h1) (zdi h2)
  have h4:(p.c.val*valAt vs p.v).natAbs<pw (L+M):=by
   rw [Int.natAbs_mul,zej]
   exact Nat.mul_lt_mul'' h3 (valAt_lt hv p.v)
  simp only [valP,List.length_cons,Nat.add_mul]
  omega
theorem val_len {n L M:Nat} {t:zak} {vs:List ZI} (ht:TOk n L t) (hn:n<=1000) (hv:VOk M vs) {ps:List za3} (hp:∀ p ∈ ps,p ∈ t.parts) (hl:ps.length<=t.parts.length):(ZI.of (t.k.val+valP vs ps)).abs.length<=L+M+1:=by
 refine ZI.len_of ?_
 have h1:=valP_lt hv (fun p h=>ht.ps p (hp p h)) (L:=L)
 have h2:ps.length*pw (L+M)<=1000*pw (L+M):=Nat.mul_le_mul_right _ (by have:=ht.len;omega)
 have h3:=Nat.lt_of_lt_of_le (ZI.abs_lt ht.kb) (zdi ht.kl)
 have h4:=zdi (show L<=L+M by omega)
 rw [zas]
 omega
def zcs (ps:List za3):Int:=ps.foldl (fun g p=>(Nat.gcd g.natAbs p.c.val.natAbs:Int)) 0
theorem con_take {ps:List za3} {j:Nat} {p:za3} (h:ps[j]?=some p):zcs (ps.take (j+1))=(Nat.gcd (zcs (ps.take j)).natAbs p.c.val.natAbs:Int):=by
 unfold zcs;rw [zbo h]
theorem con_nonneg (ps:List za3):0<=zcs ps:=by
 have key:∀ (ps:List za3) (g:Int),0<=g->0<=ps.foldl (fun g p=>(Nat.gcd g.natAbs p.c.val.natAbs:Int)) g:=by
  intro ps
  induction ps with
  | nil=>intro g h;exact h
  | cons p ps ih=>intro g h;exact ih _ (Int.natCast_nonneg _)
 exact key ps 0 (Int.le_refl 0)
theorem con_le {L:Nat} {ps:List za3} (h:∀ p ∈ ps,p.c.val.natAbs<pw L/\p.c.val≠0):(zcs ps).natAbs<pw L:=by
 have key:∀ (ps:List za3),(∀ p ∈ ps,p.c.val.natAbs<pw L/\p.c.val≠0)->∀ g:Int,g.natAbs<pw L->(ps.foldl (fun g p=>(Nat.gcd g.natAbs p.c.val.natAbs:Int)) g).natAbs<pw L:=by
  intro ps
  induction ps with
  | nil=>intro _ g h;exact h
  | cons p ps ih =>
   intro hp g h
   obtain ⟨h1,h2⟩:=hp p (by simp)
   refine ih (fun q hq=>hp q (by simp [hq])) _ ?_
   rw [Int.natAbs_natCast]
   have:=Nat.le_of_dvd (by omega) (Nat.gcd_dvd_right g.natAbs p.c.val.natAbs)
   omega
 exact key ps h 0 (by simpa using zei L)
theorem plain_lt {n L:Nat} {t:zak} (ht:TOk n L t) (hn:n<=1000):∀ p ∈ (za2 t).parts,p.c.val.natAbs<pw (L+1)/\p.c.val≠0:=fun p hp=>by
 obtain ⟨h1,h2⟩:=(ht.plain hn).ps p hp
 exact ⟨Nat.lt_of_lt_of_le (ZI.abs_lt h1) (zdi h2),((zbg t).2.1 p hp).2.2⟩
theorem con_len {n L:Nat} {t:zak} (ht:TOk n L t) (hn:n<=1000) (j:Nat):(ZI.of (zcs ((za2 t).parts.take j))).abs.length<=L+1 :=
 ZI.len_of (con_le fun p hp=>plain_lt ht hn p (List.mem_of_mem_take hp))
theorem SContent (t:zak) {n L:Nat} (ht:TOk n L t) (hn:n<=1000) (hL:L<=20000):Fn Tryz.prog 157 [] [(vT t)] (vz (ZI.of (zcs (za2 t).parts))) []:=by
 refine Fn.body Tryz.func157 rfl 21 rfl fun w H B a h=>Jq 0 [] [(1,vp 0 0),(2,vp 1 0)] [(0,.box (zT t)),(1,.box [cB false,.d (nsl [])])] h fun a w h=>Jd 2 [] [] [(3,vp 2 0)] [(0,.box (zT t)),(1,.box [cB false,.d (nsl [])]),(2,.box [cB false,.d (nsl [])])] h fun a w h=>qW (Jd 3 [(1,.call (zfi t ht (by omega) (by omega)) tm_7),(3,.len (za6 3 za3.d ((za2 t).parts)))] [1] [(9,(vPs (za2 t).parts)),(10,vI ((za2 t).parts.length:Int)),(11,vI 0)] [(1,.box [cB false,.d (nsl [])]),(2,.box [cB false,.d (nsl [])])] h fun a w h=>qZ ?_)
 refine zaq (ι:=(Nat) × (ZI)) (fun (j,out)=>out=ZI.of (zcs ((za2 t).parts.take j))/\j<=(za2 t).parts.length)
   (fun (j,out)=>[(2,vp 1 0),(3,vp 2 0),(9,(vPs (za2 t).parts)),(10,vI ((za2 t).parts.length:Int)),(11,vN j)])
   (fun (j,out)=>[(1,.box [cB false,.d (nsl [])]),(2,.box (zi out))])
   (fun (j,out)=>(za2 t).parts.length - j) (0,(ZI.of 0)) ?_ h (by kernel_rfl) (by kernel_rfl) ?_
 ·exact ⟨by simp [zcs],Nat.zero_le _⟩
 clear h;rintro ⟨j,out⟩ a w hI h;dsimp only at h;obtain ⟨hI1,hI2⟩:=hI;have lpp:=(ht.plain hn).len;have lvv:(zby t.parts).length=(za2 t).parts.length:=(List.length_map _).symm;have lo:out.abs.length<=L+1:=by rw [hI1];exact con_len ht hn j
 have ho:Lb out.abs:=by rw [hI1];exact ZI.lb_of _
 have vo:out.val=zcs ((za2 t).parts.take j):=by rw [hI1];exact ZI.val_of _
 refine Je 3 [] [] [(12,vb (decide ((j:Int)<((za2 t).parts.length:Int))))] h fun a w h=>qW (zam ((j:Int)<((za2 t).parts.length:Int)) h (fun hc1 hc1'=>?_) (fun hc2 hc2'=>?_))
 ·refine qU (za1 (qW (qZ ?_)));obtain ⟨x2,hx2⟩:=gl ((za2 t).parts) j;obtain ⟨ox2,lx2⟩:=(ht.plain hn).get hx2;refine Jd 3 [(0,.g (xD 13 9 zcb (zab hx2 (f:=za3.d)) (OV.tmp 11 _)))] [12] [(5,vp 3 0)] [(1,.box [cB false,.d (nsl [])]),(2,.box (zi out)),(3,.box ([cI x2.v]++zi x2.c))] h fun a w h=>?_;obtain ⟨r3,er3,vr3,or3,lr3⟩:=mkZ (v:=(Nat.gcd out.val.natAbs x2.c.val.natAbs:Int)) (m:=out.abs.length+x2.c.abs.length) (len_gcd ho ox2);refine Jm 4 [(3,.call (Fn.cast (SGcd out x2.c ho ox2 (by omega) (by omega)) (congrArg vz er3.symm)) tt_11)] [5] [] [(1,.box [cB false,.d (nsl [])]),(2,.box (zi r3))] h fun a w h=>za9 (za1 (Jf 4 [(0,.j1 j)] [] [(11,vI ((j:Int)+1))] h fun a w h=>za1 (zag (x:=(j,out)) (y:=((j+1),r3)) h ?_ ?_)))
  ·have:=zaj hx2;exact ⟨by rw [er3,vo,con_take hx2],by omega⟩
  show (za2 t).parts.length - (j+1)<(za2 t).parts.length - j;have:=zaj hx2;omega
 refine wp_exit (zaa (zaa (za5 (za1 (Jq 4 [] [(2,vp 1 0)] [(1,.box (zi out))] h fun a w h=>qV (rA 1 (zi out) h zed rfl ?_))))));have hj:j=(za2 t).parts.length:=by omega
 subst hj;rw [hI1,List.take_length];try rfl
def zdx {α:Type} (pr:α->Bool):List α->Nat->Int
  | [],_=>-1
  | p :: ps,n=>if pr p=true then n else zdx pr ps (n+1)
theorem zhz {α:Type} {pr:α->Bool} {xs:List α} {j:Nat} {p:α} (h:xs[j]?=some p):zdx pr (xs.drop j) j=if pr p=true then (j:Int) else zdx pr (xs.drop (j+1)) (j+1):=by
 obtain ⟨hj,rfl⟩:=List.getElem?_eq_some_iff.1 h
 rw [List.drop_eq_getElem_cons hj];rfl
theorem idxB_cases {α:Type} (pr:α->Bool):∀ (xs:List α) (n:Nat),(zdx pr xs n=-1/\∀ x ∈ xs,pr x=false)\/∃ k x,zdx pr xs n=((n+k:Nat):Int)/\xs[k]?=some x/\pr x=true/\∀ y ∈ xs.take k,pr y=false
 | [],n => .inl ⟨rfl,fun x hx=>(by cases hx)⟩
 | p :: ps,n=>by
  cases hp:pr p with
  | true=>exact .inr ⟨0,p,by simp [zdx,hp],rfl,hp,fun y hy=>by simp at hy⟩
  | false =>
   rcases idxB_cases pr ps (n+1) with ⟨h1,h2⟩ | ⟨k,x,h1,h2,h3,h4⟩
   ·exact .inl ⟨by simp [zdx,hp,h1],fun x hx=>(List.mem_cons.1 hx).elim (fun e=>e ▸ hp) (h2 x)⟩
   ·exact .inr ⟨k+1,x,by simp only [zdx,hp,Bool.false_eq_true,if_false,h1];omega,h2,h3,fun y hy=>by rw [List.take_succ_cons] at hy;exact (List.mem_cons.1 hy).elim (fun e=>e ▸ hp) (h4 y)⟩
theorem idxB_any {α:Type} (pr:α->Bool) (xs:List α):decide (zdx pr xs 0>=0)=xs.any pr:=by
 rcases idxB_cases pr xs 0 with ⟨h1,h2⟩ | ⟨k,x,h1,h2,h3,_⟩
 ·rw [h1]
  cases h:xs.any pr with
  | false=>rfl
  | true=>obtain ⟨x,hx,hp⟩:=List.any_eq_true.1 h;rw [h2 x hx] at hp;cases hp
 ·rw [h1,decide_eq_true (by omega)]
  exact (List.any_eq_true.2 ⟨x,List.mem_of_getElem? h2,h3⟩).symm
structure zb0 where
  t:zak
  eq:Bool
def zb0.d (x:zb0):List D:=[.sl 3 (x.t.parts.map za3.d),.raw (.bool x.t.k.neg),nsl x.t.k.abs,.raw (.bool x.eq)]
inductive za0 where
  | mk (kind:Int) (r:zb0) (kids:List za0)
def za0.kind:za0->Int | ⟨k,_,_⟩=>k
def za0.r:za0->zb0 | ⟨_,r,_⟩=>r
def za0.kids:za0->List za0 | ⟨_,_,ks⟩=>ks
theorem za0.ind {P:za0->Prop} (h:∀ k r ks,(∀ g ∈ ks,P g)->P ⟨k,r,ks⟩) (f:za0):P f :=
 za0.rec (motive_1:=P) (motive_2:=fun ks=>∀ g ∈ ks,P g) h (fun g hg=>(by cases hg)) (fun a l ha has g hg=>(List.mem_cons.1 hg).elim (fun e=>e ▸ ha) (has g)) f
def za0.fold {α:Type} (g:Int->zb0->List za0->List α->α):za0->α
  | ⟨k,r,ks⟩=>g k r ks (ks.attach.map fun x=>za0.fold g x.1)
  termination_by f=>SizeOf.sizeOf f
  decreasing_by have:=List.sizeOf_lt_of_mem x.2;simp;omega
theorem za0.fold_mk {α:Type} (g:Int->zb0->List za0->List α->α) (k:Int) (r:zb0) (ks:List za0):za0.fold g ⟨k,r,ks⟩=g k r ks (ks.map (za0.fold g)):=by
 rw [za0.fold,List.attach_map_val]
theorem za0.fold_eq {α:Type} (g:Int->zb0->List za0->List α->α) (f:za0):za0.fold g f=g f.kind f.r f.kids (f.kids.map (za0.fold g)):=by cases f;exact za0.fold_mk g _ _ _
def za0.d (f:za0):List D:=f.fold fun k r _ ds=>[.raw (.int .i64 k),.sl 3 (r.t.parts.map za3.d),.raw (.bool r.t.k.neg),nsl r.t.k.abs,.raw (.bool r.eq),.sl 6 ds]
theorem za0.d_eq (f:za0):f.d=[.raw (.int .i64 f.kind),.sl 3 (f.r.t.parts.map za3.d),.raw (.bool f.r.t.k.neg),nsl f.r.t.k.abs,.raw (.bool f.r.eq),.sl 6 (f.kids.map za0.d)]:=za0.fold_eq _ f
theorem za0.d_len (f:za0):f.d.length=6:=by rw [za0.d_eq];rfl
def rawD (x:D):List D:=[x]
structure zaw where
  is_:Bool
  lo:ZI
  hi:ZI
def zaw.d (x:zaw):List D:=[.raw (.bool x.is_),.raw (.bool x.lo.neg),nsl x.lo.abs,.raw (.bool x.hi.neg),nsl x.hi.abs]
structure zad where
  v:Int
  any:Bool
  t:zak
def zad.d (x:zad):List D:=[.raw (.int .i64 x.v),.raw (.bool x.any),.sl 3 (x.t.parts.map za3.d),.raw (.bool x.t.k.neg),nsl x.t.k.abs]
structure zbi where
  proc:Int
  from_:Int
  to_:Int
  guard:za0
  moves:List zad
def zbi.d (x:zbi):List D:=[.raw (.int .i64 x.proc),.raw (.int .i64 x.from_),.raw (.int .i64 x.to_),.raw (.int .i64 x.guard.kind),.sl 3 (x.guard.r.t.parts.map za3.d),.raw (.bool x.guard.r.t.k.neg),nsl x.guard.r.t.k.abs,.raw (.bool x.guard.r.eq),.sl 6 (x.guard.kids.map za0.d),.sl 5 (x.moves.map zad.d)]
structure zcg where
  name:ByteArray
  locs:List ByteArray
  cmds:D
def zcg.d (x:zcg):List D:=[.raw (.string x.name),.sl 1 (x.locs.map zfj),x.cmds]
structure zar where
  vars:List ByteArray
  bounds:List zaw
  init:za0
  procs:List zcg
  acts:List zbi
def zar.d (x:zar):List D:=[.sl 1 (x.vars.map zfj),.sl 5 (x.bounds.map zaw.d),.raw (.int .i64 x.init.kind),.sl 3 (x.init.r.t.parts.map za3.d),.raw (.bool x.init.r.t.k.neg),nsl x.init.r.t.k.abs,.raw (.bool x.init.r.eq),.sl 6 (x.init.kids.map za0.d),.sl 3 (x.procs.map zcg.d),.sl 10 (x.acts.map zbi.d)]
structure StD where
  locs:List Int
  vals:List ZI
def StD.d (x:StD):List D:=[.sl 1 (x.locs.map zai),.sl 2 (x.vals.map ziD)]
abbrev zan (s:zar):List C:=([.d (.sl 1 (s.vars.map zfj)),.d (.sl 5 (s.bounds.map zaw.d)),.d (.raw (.int .i64 s.init.kind)),.d (.sl 3 (s.init.r.t.parts.map za3.d))]++zi s.init.r.t.k++[.d (.raw (.bool s.init.r.eq)),.d (.sl 6 (s.init.kids.map za0.d)),.d (.sl 3 (s.procs.map zcg.d)),.d (.sl 10 (s.acts.map zbi.d))])
abbrev zF (x:za0):List C:=[.d (.raw (.int .i64 x.kind)),.d (.sl 3 (x.r.t.parts.map za3.d))]++zi x.r.t.k++[.d (.raw (.bool x.r.eq)),.d (.sl 6 (x.kids.map za0.d))]
abbrev zR_ (x:zb0):List C:=[.d (.sl 3 (x.t.parts.map za3.d))]++zi x.t.k++[.d (.raw (.bool x.eq))]
abbrev vF (x:za0):V:=.t (.agg (zF x))
abbrev vR (x:zb0):V:=.t (.agg (zR_ x))
abbrev vFs (x:List za0):V:=.t (.c (.d (.sl 6 (x.map za0.d))))
abbrev vRs (x:List zb0):V:=.t (.c (.d (.sl 4 (x.map zb0.d))))
abbrev cFs (x:List za0):C:=.d (.sl 6 (x.map za0.d))
abbrev cRs (x:List zb0):C:=.d (.sl 4 (x.map zb0.d))
theorem ziz:SlT Tryz.prog 33 35 6:=SlT.mk' Tryz.underlying33 (by kernel_rfl)
theorem zh7:ElZ Tryz.prog 33 35 6:=ElZ.mk' Tryz.underlying33 _ _ rfl rfl (by kernel_rfl) (by kernel_rfl) (by kernel_rfl) (by decide)
section
variable {P:Program}
theorem zc9.fnc {t:TypeId} {z:C} {dd:TypeDesc} (hu:P.underlying t=some dd) (ha:(match dd with | .struct _ | .array _ _=>true | _=>false)=false) (hs:(P.info? t).map (·.size)=some 1) (hz:Zero P t [z]):zc9 P t ⟨1,false,[],[z],4⟩ :=
 ⟨Sz.mk' hs hu _ ha.symm,fun k off n ag h=>(by simp at h),fun _=>hz,fun h=>absurd rfl h,fun h=>(by cases h),fun h=>(by cases h),fun h=>(by cases h),fun k h=>(by cases h)⟩
theorem Op.makeFs {d:Nat} {fn:Go.Fn} (ts:List (Nat × Nat × Nat)) {ty:TypeId} {pos af gd} :
  zb7 P ⟨some d,.makeFunc fn #[] ⟨ts.map fun p => .tmp p.1⟩,ty,pos,af,gd⟩ { rs:=ts.map fun p=>(p.1,vp p.2.1 p.2.2),ws:=[(d,some (.t (.c (.fn fn [] (ts.map fun p=>A.ptr p.2.1 p.2.2)))))] } :=
 zb7.value d _ rfl rfl rfl fun e f H B a w hok hr=>by
  refine ⟨.func fn #[] ⟨ts.map fun p=>a.eval (.tmp p.1)⟩,?_,[],ts.map fun p=>a.eval (.tmp p.1),rfl,trivial,?_⟩
  ·simp [execOp,Instr.makeFunc,Function.comp_def]
  ·have h1:∀ p ∈ ts,AR H B (.ptr p.2.1 p.2.2) (a.eval (.tmp p.1)):=fun p hp=>hok.slot p.1 _ (hr.1 (p.1,vp p.2.1 p.2.2) (List.mem_map.2 ⟨p,hp,rfl⟩))
   clear hr
   induction ts with
   | nil=>trivial
   | cons p ts ih=>exact ⟨h1 p (by simp),ih fun q hq=>h1 q (by simp [hq])⟩
end
theorem all_take {α:Type} {q:α->Bool} {xs:List α} {j:Nat} {x:α} (h:xs[j]?=some x):(xs.take (j+1)).all q=((xs.take j).all q && q x):=by
 have e:xs.take (j+1)=xs.take j++[x]:=by rw [List.take_add_one,h];rfl
 rw [e,List.all_append];simp
theorem zco {α:Type} {q:α->Bool} {xs:List α} {j:Nat} {x:α} (h:xs[j]?=some x) (h1:(xs.take j).all q=true) (h2:q x=true):(xs.take (j+1)).all q=true:=by rw [all_take h,h1,h2];rfl
theorem zbl {α:Type} {q:α->Bool} {xs:List α} {j:Nat} {x:α} (h:xs[j]?=some x) (h2:q x=false):xs.all q=false:=by
 cases h3:xs.all q with
 | false=>rfl
 | true=>rw [List.all_eq_true.1 h3 x (List.mem_of_getElem? h)] at h2;cases h2
theorem zcu {α:Type} {q:α->Bool} {xs:List α} {j:Nat} (hj:¬ (j:Int)<(xs.length:Int)) (h1:(xs.take j).all q=true):xs.all q=true:=by rwa [List.take_of_length_le (by omega)] at h1
theorem any_step {α:Type} {q:α->Bool} {xs:List α} {j:Nat} {x:α} (h:xs[j]?=some x) (h1:(xs.take j).any q=false) (h2:q x=false):(xs.take (j+1)).any q=false:=by
 have e:xs.take (j+1)=xs.take j++[x]:=by rw [List.take_add_one,h];rfl
 rw [e,List.any_append,h1];simp [h2]
theorem any_stop {α:Type} {q:α->Bool} {xs:List α} {j:Nat} {x:α} (h:xs[j]?=some x) (h2:q x=true):xs.any q=true:=List.any_eq_true.2 ⟨x,List.mem_of_getElem? h,h2⟩
theorem any_end {α:Type} {q:α->Bool} {xs:List α} {j:Nat} (hj:¬ (j:Int)<(xs.length:Int)) (h1:(xs.take j).any q=false):xs.any q=false:=by rwa [List.take_of_length_le (by omega)] at h1
def cnt {α:Type} (k:Int) (xs:List α):List α:=if k=4\/k=5 then xs else if k=3 then xs.take 1 else []
theorem zci {α β:Type} (g:α->β) (k:Int) (xs:List α):cnt k (xs.map g)=(cnt k xs).map g:=by unfold cnt;split;rfl;split;rw [List.map_take];rfl
theorem zb3 {α:Type} {k:Int} {xs:List α} {x:α} (h:x ∈ cnt k xs):x ∈ xs:=by
 unfold cnt at h
 split at h
 ·exact h
 ·split at h
  ·exact List.mem_of_mem_take h
  ·cases h
theorem cnt_len {α:Type} (k:Int) (xs:List α):(cnt k xs).length<=xs.length:=by
 unfold cnt;split;exact Nat.le_refl _;split;rw [List.length_take];omega;exact Nat.zero_le _
def zcv (lim:Int):List (Int->Int)->Int->Int
  | [],n=>n
  | s :: ss,n=>if n<=lim then zcv lim ss (n+s (lim - n)) else n
def za0.size (f:za0):Int->Int:=f.fold fun k _ _ ss lim=>zcv lim (cnt k ss) 1
theorem za0.size_eq (f:za0) (lim:Int):f.size lim=zcv lim ((cnt f.kind f.kids).map za0.size) 1:=by
 have:=congrFun (za0.fold_eq (fun k _ _ (ss:List (Int->Int)) lim=>zcv lim (cnt k ss) 1) f) lim
 rw [zci] at this;exact this
theorem sizeGo_bd {lim:Int}:∀ (ss:List (Int->Int)) (n:Int),(∀ s ∈ ss,∀ l,0<=l->1<=s l/\s l<=l+1)->1<=n->n<=lim+1->1<=zcv lim ss n/\zcv lim ss n<=lim+1
 | [],n,_,h1,h2=>⟨h1,h2⟩
 | s :: ss,n,h,h1,h2=>by
  unfold zcv
  split
  ·rename_i hn
   have:=h s (by simp) (lim - n) (by omega)
   exact sizeGo_bd ss _ (fun t ht=>h t (by simp [ht])) (by omega) (by omega)
  ·exact ⟨h1,h2⟩
theorem za0.size_bd (f:za0):∀ lim:Int,0<=lim->1<=f.size lim/\f.size lim<=lim+1 :=
 za0.ind (P:=fun f=>∀ lim:Int,0<=lim->1<=f.size lim/\f.size lim<=lim+1) (fun k r ks ih lim hl=>by
  rw [za0.size_eq]
  refine sizeGo_bd _ _ (fun s hs=>?_) (by omega) (by omega)
  obtain ⟨g,hg,rfl⟩:=List.mem_map.1 hs
  exact ih g (zb3 hg)) f
theorem sizeGo_at {lim n:Int} {ss:List (Int->Int)} {j:Nat} {s:Int->Int} (h:ss[j]?=some s) (hn:n<=lim):zcv lim (ss.drop j) n=zcv lim (ss.drop (j+1)) (n+s (lim - n)):=by
 obtain ⟨hj,rfl⟩:=List.getElem?_eq_some_iff.1 h
 rw [List.drop_eq_getElem_cons hj,zcv,if_pos hn]
theorem sizeGo_out {lim n:Int} {ss:List (Int->Int)} (h:¬ n<=lim\/ss=[]):zcv lim ss n=n:=by
 cases ss with
 | nil=>rfl
 | cons s ss=>rw [zcv,if_neg (h.resolve_right (by simp))]
def fewR (L:Int) (r:zb0):Bool:=decide ((r.t.parts.length:Int)<=20) && decide ((r.t.k.abs.length:Int)<=L) && r.t.parts.all fun p=>decide ((p.c.abs.length:Int)<=L)
def za0.few (L:Int) (f:za0):Bool:=f.fold fun k r _ bs=>(!(k == 2) || fewR L r) && (cnt k bs).all id
theorem za0.few_eq (L:Int) (f:za0):f.few L=((!(f.kind == 2) || fewR L f.r) && (cnt f.kind f.kids).all (za0.few L)):=by
 have:=za0.fold_eq (fun k r _ (bs:List Bool)=>(!(k == 2) || fewR L r) && (cnt k bs).all id) f
 rw [zci,List.all_map] at this;exact this
def zi4 (f:za0) (most L:Int):Bool:=!decide (f.size most>most) && f.few L
def relOk (vs:List ZI) (r:zb0):Bool:=if r.eq=true then sgn (valT r.t vs) == 0 else decide (sgn (valT r.t vs)>=0)
def za0.holds (vs:List ZI) (f:za0):Bool:=f.fold fun k r _ bs=>if k=0 then true else if k=2 then relOk vs r else if k=3 then (match bs with | []=>false | b :: _=>!b) else if k=4 then bs.all id else if k=5 then bs.any id else false
theorem za0.holds_eq (vs:List ZI) (f:za0):f.holds vs=if f.kind=0 then true else if f.kind=2 then relOk vs f.r else if f.kind=3 then (match f.kids with | []=>false | g :: _=>!g.holds vs) else if f.kind=4 then f.kids.all (za0.holds vs) else if f.kind=5 then f.kids.any (za0.holds vs) else false:=by
 have:=za0.fold_eq (fun k r _ (bs:List Bool)=>if k=0 then true else if k=2 then relOk vs r else if k=3 then (match bs with | []=>false | b :: _=>!b) else if k=4 then bs.all id else if k=5 then bs.any id else false) f
 rw [List.all_map,List.any_map] at this
 refine this.trans ?_
 cases f.kids <;> rfl
def TokR (L:Nat) (r:zb0):Prop:=TOk 20 L r.t
def za0.ok (L:Nat) (f:za0):Prop:=f.fold fun k r _ ps=>(k=2->TokR L r)/\∀ p ∈ cnt k ps,p
theorem za0.ok_eq (L:Nat) (f:za0):f.ok L ↔ (f.kind=2->TokR L f.r)/\∀ g ∈ cnt f.kind f.kids,g.ok L:=by
 have:=za0.fold_eq (fun k r _ (ps:List Prop)=>(k=2->TokR L r)/\∀ p ∈ cnt k ps,p) f
 rw [zci] at this
 unfold za0.ok
 rw [this]
 refine and_congr_right fun _=>⟨fun h g hg=>h _ (List.mem_map.2 ⟨g,hg,rfl⟩),fun h p hp=>?_⟩
 obtain ⟨g,hg,rfl⟩:=List.mem_map.1 hp
 exact h g hg
def za0.lb (f:za0):Prop:=f.fold fun _ r ks ps=>(TLb r.t/\ks.length<=9223372036854775807)/\∀ p ∈ ps,p
theorem za0.lb_eq (f:za0):f.lb ↔ (TLb f.r.t/\f.kids.length<=9223372036854775807)/\∀ g ∈ f.kids,g.lb:=by
 have:=za0.fold_eq (fun _ r ks (ps:List Prop)=>(TLb r.t/\ks.length<=9223372036854775807)/\∀ p ∈ ps,p) f
 unfold za0.lb
 rw [this]
 refine and_congr_right fun _=>⟨fun h g hg=>h _ (List.mem_map.2 ⟨g,hg,rfl⟩),fun h p hp=>?_⟩
 obtain ⟨g,hg,rfl⟩:=List.mem_map.1 hp
 exact h g hg
theorem fewR_ok {L:Nat} {r:zb0} (h:fewR L r=true) (hl:TLb r.t):TokR L r:=by
 simp only [fewR,Bool.and_eq_true,decide_eq_true_eq,List.all_eq_true] at h
 exact ⟨by omega,fun p hp=>⟨hl.2 p hp,by have:=h.2 p hp;omega⟩,hl.1,by omega⟩
theorem za0.few_ok {L:Nat} (f:za0):f.few L=true->f.lb->f.ok L :=
 za0.ind (P:=fun f=>f.few L=true->f.lb->f.ok L) (fun k r ks ih h hl=>by
  rw [za0.few_eq,Bool.and_eq_true] at h
  rw [za0.lb_eq] at hl
  rw [za0.ok_eq]
  refine ⟨fun hk=>fewR_ok (by have:=h.1;rw [show ((za0.mk k r ks).kind == 2)=true from by rw [hk];rfl] at this;simpa using this) hl.1.1,fun g hg=>ih g (zb3 hg) (List.all_eq_true.1 h.2 g hg) (hl.2 g (zb3 hg))⟩) f
theorem SKids (f:za0) :Fn Tryz.prog 62 [] [(vF f)] (vFs (cnt f.kind f.kids)) []:=by
 refine Fn.body Tryz.func62 rfl 26 rfl fun w H B a h=>Jq 0 [] [(1,vp 0 0),(2,vW zaf)] [(0,.box (zF f))] h fun a w h=>qW ?_
 rcases Bool.eq_false_or_eq_true (f.kind == 4) with hc1 | hc2
 ·have hc1':=hc1;(try simp at hc1');refine Je 1 [(2,.cmp (op:=.eql) (m:=f.kind) (n:=4) (b:=true) .i64 hc1)] [] [(10,vb true)] h fun a w h=>cS true h (fun _=>?_) nofun
  refine Je 1 [] [10] [(2,(vFs f.kids))] h fun a w h=>qV (za7 (rT (.c (cFs f.kids)) h rfl ?_));have p4: f.kind=4:=by have:=hc1;simpa using this
  have hz:(cnt f.kind f.kids)=f.kids:=by unfold cnt;rw [if_pos (by omega)]
  rw [hz];try rfl
 have hc2':=hc2;(try simp at hc2');refine Je 1 [(2,.cmp (op:=.eql) (m:=f.kind) (n:=4) (b:=false) .i64 hc2)] [] [(10,vb (f.kind == 5))] h fun a w h=>cS (f.kind == 5) h (fun hc3=>?_) (fun hc4=>?_)
 ·have hc3':=hc3;(try simp at hc3');refine Je 1 [] [10] [(2,(vFs f.kids))] h fun a w h=>qV (za7 (rT (.c (cFs f.kids)) h rfl ?_));have p4:¬ f.kind=4:=by have:=hc2;simpa using this
  have p5: f.kind=5:=by have:=hc3;simpa using this
  have hz:(cnt f.kind f.kids)=f.kids:=by unfold cnt;rw [if_pos (by omega)]
  rw [hz];try rfl
 have hc4':=hc4;(try simp at hc4');refine qU (za1 (qW ?_))
 rcases Bool.eq_false_or_eq_true (f.kind == 3) with hc5 | hc8
 ·have hc5':=hc5;(try simp at hc5');refine Je 1 [(2,.cmp (op:=.eql) (m:=f.kind) (n:=3) (b:=true) .i64 hc5),(6,.len (za6 6 za0.d f.kids))] [10] [(21,vb (decide ((f.kids.length:Int)>0)))] h fun a w h=>zam ((f.kids.length:Int)>0) h (fun hc6 hc6'=>?_) (fun hc7 hc7'=>?_)
  ·refine Jq 1 [(2,.g (Op.sliceD (d:=24) (t:=23) (l:=0) (h:=1) (rows:=f.kids.map za0.d) (rows':=(f.kids.take 1).map za0.d) ziz (BO.no _) (BO.yes _ (OV.const (.int .i64 1) rfl)) (by first | omega | (simp at *;omega)) (by first | omega | (simp only [List.length_map];omega) | (simp at *;omega)) (by simp [List.map_take])))] [(2,(vFs (f.kids.take 1)))] [] h fun a w h=>qV (za7 (rT (.c (cFs (f.kids.take 1))) h rfl ?_));have p4:¬ f.kind=4:=by have:=hc2;simpa using this
   have p5:¬ f.kind=5:=by have:=hc4;simpa using this
   have p3: f.kind=3:=by have:=hc5;simpa using this
   have hz:(cnt f.kind f.kids)=(f.kids.take 1):=by unfold cnt;rw [if_neg (by omega),if_pos (by omega)]
   rw [hz];try rfl
  refine qU (za1 (Jq 1 [(0,.g (Op.buildED (d:=25) zh7))] [(2,(vFs []))] [] h fun a w h=>qV (rT (.c (cFs [])) h rfl ?_)));have p4:¬ f.kind=4:=by have:=hc2;simpa using this
  have p5:¬ f.kind=5:=by have:=hc4;simpa using this
  have p3: f.kind=3:=by have:=hc5;simpa using this
  have hz:(cnt f.kind f.kids)=[]:=by unfold cnt;rw [if_neg (by omega),if_pos (by omega),List.length_eq_zero_iff.1 (show f.kids.length=0 by have:=dF hc7;omega)];rfl
  rw [hz];try rfl
 have hc8':=hc8;(try simp at hc8');refine Je 1 [(2,.cmp (op:=.eql) (m:=f.kind) (n:=3) (b:=false) .i64 hc8)] [10] [(21,vb false)] h fun a w h=>zap false h rfl nofun (fun _=>qU (za1 (Jq 1 [(0,.g (Op.buildED (d:=25) zh7))] [(2,(vFs []))] [] h fun a w h=>qV (rT (.c (cFs [])) h rfl ?_))))
 have p4:¬ f.kind=4:=by have:=hc2;simpa using this
 have p5:¬ f.kind=5:=by have:=hc4;simpa using this
 have p3:¬ f.kind=3:=by have:=hc8;simpa using this
 have hz:(cnt f.kind f.kids)=[]:=by unfold cnt;rw [if_neg (by omega),if_neg (by omega)]
 rw [hz];try rfl
theorem St.pubK {w0:World} {H0:Im} {B0:Bl} {K:List Nat} {N:Nat} {f:F} {a:Act} {w:World} (h:St ⟨w0,H0,B0,K,N⟩ f a w) (n es:Nat) (ty:TypeId) (rows:List (List D)) (hl:f.l n=some (.row ty es rows)) (hK:∀ k ∈ K,k≠n/\∃ l,f.l k=some l)
  (h1:∀ t v,f.s t=some v->∀ k ∈ v.owns n,k=rows.length) (h2:∀ m l,f.l m=some l->∀ k ∈ l.owns n,k=rows.length):St ⟨w0,H0,B0,K,N⟩ (f.pub n es rows) a w:=by
 obtain ⟨H,B,hok⟩:=h
 have hLR:=hok.loc n _ hl
 -- what stays from here on
 obtain ⟨H', hle,hH', hcell⟩:∃ H':Im,Le H H'/\(∀ b o,H' b=some o->H b=some o\/(w.heap[b]?=some o/\∃ c,B n=some (b,c))) /\
   (∀ (x:C) (v:Value),(∀ k ∈ x.owns n,k=rows.length)->CR H B x v->CR H' B (x.pub n es rows) v):=by
  have keepC:∀ {H':Im} (hle:Le H H'),(∀ v,CR H B (.own n rows.length) v->DR H' (.sl es rows) v)->∀ (x:C) (v:Value),(∀ k ∈ x.owns n,k=rows.length)->CR H B x v->CR H' B (x.pub n es rows) v:=by
   intro H' hle hown x v hk hx
   cases x with
   | own m k =>
    simp only [C.pub]
    split
    ·rename_i e1
     have e1:=Nat.eq_of_beq_eq_true e1
     subst e1
     have:=hk k (by simp [C.owns])
     subst this
     exact hown v hx
    ·exact CR.mono hle (fun _ _=>rfl) hx
   | ptr m o =>
    simp only [C.pub]
    split
    ·exact CR.flat hx
    ·exact CR.mono hle (fun _ _=>rfl) hx
   | sub m o k =>
    simp only [C.pub]
    split
    ·exact CR.flat hx
    ·exact CR.mono hle (fun _ _=>rfl) hx
   | d x=>exact CR.mono hle (fun _ _=>rfl) hx
   | el x=>exact CR.mono hle (fun _ _=>rfl) hx
   | fn f' x y=>exact CR.mono hle (fun _ _=>rfl) hx
   | any=>exact hx
  cases hB:B n with
  | none =>
   simp only [LR,hB] at hLR
   subst hLR
   refine ⟨H,Le.refl _,fun b o h => .inl h,keepC (Le.refl _) fun v hv=>?_⟩
   simp only [CR,hB] at hv
   obtain ⟨_,ao,hv⟩:=hv
   rw [hv]
   exact .nil es ao 0 (fun _=>rfl) (Nat.zero_le _)
  | some p =>
   obtain ⟨b,c⟩:=p
   obtain ⟨arr,g1,g2,g3,g4,g5,g6⟩:=hok.row hl hB
   have hnone:=(hok.priv n _ b c hl hB).2.1
   have hle:Le H (fun x=>if x=b then some (.cells ⟨arr⟩ ty (0,0)) else H x):=by
    intro x o hx
    have:x≠b:=fun e=>by rw [e,hnone] at hx;cases hx
    simp [this,hx]
   refine ⟨fun x=>if x=b then some (.cells ⟨arr⟩ ty (0,0)) else H x,hle,?_,keepC hle fun v hv=>?_⟩
   ·intro x o hx
    by_cases e:x=b
    ·subst e
     simp only [if_true] at hx
     exact .inr ⟨by rw [g1];exact hx,c,rfl⟩
    ·simp [e] at hx;exact .inl hx
   ·simp only [CR,hB] at hv
    rw [hv]
    exact row_data (arr:=arr) (ty:=ty) (if_pos rfl) g3 g4 g5 fun i r hr f' x hx=>by
     obtain ⟨u,k1,k2⟩:=g6 i r hr f' x hx
     exact ⟨u,k1,k2.mono hle⟩
 have hT:∀ (x:T) (v:Value),(∀ k ∈ x.owns n,k=rows.length)->TR H B x v->TR H' B (x.pub n es rows) v:=by
  intro x v hk hx
  cases x with
  | c x=>exact hcell x v hk hx
  | agg cs =>
   obtain ⟨vs,hv,hx⟩:=hx
   refine ⟨vs,hv,zb4.iff.2 ⟨by rw [List.length_map];exact hx.length,fun j a' b' ha hb=>?_⟩⟩
   rw [List.getElem?_map] at ha
   cases hj:cs[j]? with
   | none=>rw [hj] at ha;cases ha
   | some y =>
    rw [hj] at ha
    injection ha with ha
    subst ha
    exact hcell y b' (fun k hk2=>hk k (by simp only [T.owns,List.mem_flatMap];exact ⟨y,List.mem_of_getElem? hj,hk2⟩)) ((zb4.iff.1 hx).2 j y b' hj hb)
 refine ⟨H', B,hok.df,hok.n,hok.ext,?_,?_,?_,?_,?_,?_,hok.le.trans hle,hok.keep⟩
 ·intro b o hb
  rcases hH' b o hb with h' | ⟨h', _⟩
  ·exact hok.sat b o h'
  ·exact h'
 ·intro t v hv
  simp only [F.pub,Option.map_eq_some_iff] at hv
  obtain ⟨x,hx,rfl⟩:=hv
  have hR:=hok.slot t x hx
  have hk:=h1 t x hx
  cases x with
  | t x=>exact hT x _ hk hR
  | tup xs =>
   obtain ⟨vs,hv,hx2⟩:=hR
   refine ⟨vs,hv,zb4.iff.2 ⟨by rw [List.length_map];exact hx2.length,fun j a' b' ha hb=>?_⟩⟩
   rw [List.getElem?_map] at ha
   cases hj:xs[j]? with
   | none=>rw [hj] at ha;cases ha
   | some y =>
    rw [hj] at ha
    injection ha with ha
    subst ha
    exact hT y b' (fun k hk2=>hk k (by simp only [V.owns,List.mem_flatMap];exact ⟨y,List.mem_of_getElem? hj,hk2⟩)) ((zb4.iff.1 hx2).2 j y b' hj hb)
 ·intro m l hm
  simp only [F.pub] at hm
  split at hm
  ·cases hm
  ·simp only [Option.map_eq_some_iff] at hm
   obtain ⟨x,hx,rfl⟩:=hm
   have hR:=hok.loc m x hx
   have hk:=h2 m x hx
   cases x with
   | box cs =>
    obtain ⟨b,c,arr,ty', hb,hc,hx2⟩:=hR
    refine ⟨b,c,arr,ty', hb,hc,zb4.iff.2 ⟨by rw [List.length_map];exact hx2.length,fun j a' b' ha hb=>?_⟩⟩
    rw [List.getElem?_map] at ha
    cases hj:cs[j]? with
    | none=>rw [hj] at ha;cases ha
    | some y =>
     rw [hj] at ha
     injection ha with ha
     subst ha
     exact hcell y b' (fun k hk2=>hk k (by simp only [L.owns,List.mem_flatMap];exact ⟨y,List.mem_of_getElem? hj,hk2⟩)) ((zb4.iff.1 hx2).2 j y b' hj hb)
   | row ty' es' rows'=>exact LR.mono hle rfl (fun _ _=>rfl) (fun _ _ _=>rfl) hR
   | bld ty' c' =>
    obtain ⟨b,k,v1,v2,hb,hc,g1,g0,g2⟩:=hR
    exact ⟨b,k,v1,v2,hb,hc,g1,g0,hcell c' v2 (fun k hk2=>hk k hk2) g2⟩
 ·intro m l b c hm hb
  simp only [F.pub] at hm
  split at hm
  ·cases hm
  ·rename_i hne
   simp only [Option.map_eq_some_iff] at hm
   obtain ⟨x,hx,rfl⟩:=hm
   obtain ⟨p1,p2,p3⟩:=hok.priv m x b c hx hb
   refine ⟨p1,?_,p3⟩
   cases hq:H' b with
   | none=>rfl
   | some o =>
    rcases hH' b o hq with h' | ⟨_,c', h'⟩
    ·rw [p2] at h';cases h'
    ·have:=hok.inj m n x _ b c c' hx hl hb h'
     subst this
     simp at hne
 ·intro m k l l' b c c' hm hk hb hb'
  simp only [F.pub] at hm hk
  split at hm
  ·cases hm
  ·split at hk
   ·cases hk
   ·simp only [Option.map_eq_some_iff] at hm hk
    obtain ⟨x,hx,_⟩:=hm
    obtain ⟨y,hy,_⟩:=hk
    exact hok.inj m k x y b c c' hx hy hb hb'
 ·intro b hb
  cases hq:H' b with
  | none =>
   rw [<- hok.low b hb]
   cases hr:H b with
   | none=>rfl
   | some o=>rw [hle b o hr] at hq;cases hq
  | some o =>
   rcases hH' b o hq with h' | ⟨_,c', h'⟩
   ·rw [<- hok.low b hb,h']
   ·rcases (hok.priv n _ b c' hl h').2.2 with ⟨m,hm,c9,hc9⟩ | h3
    ·obtain ⟨k1,l9,k2⟩:=hK m hm
     exact absurd (hok.inj m n l9 _ b c9 c' k2 hl (by rw [hok.keep m hm];exact hc9) h') k1
    ·exact absurd hb (by simpa using h3)
section
variable {w0:World} {H0:Im} {B0:Bl} {K:List Nat} {N:Nat} {sl:List (Nat × V)} {lc:List (Nat × L)} {a:Act} {w:World}
def keepK (K:List Nat) (n:Nat) (lc:List (Nat × L)):Bool:=K.all fun k=>!Nat.beq k n && (lc.lookup k).isSome
theorem pubSK (n es:Nat) (ty:TypeId) (rows:List (List D)) (sl':List (Nat × V)) (lc':List (Nat × L)) (h:St ⟨w0,H0,B0,K,N⟩ (F.of sl lc) a w) (hl:lc.lookup n=some (.row ty es rows)) (hk:keepK K n lc=true)
  (h1:zbx rows.length (sl.flatMap (·.2.owns n))) (h2:zbx rows.length (lc.flatMap (·.2.owns n))) (h3:leS ((F.of sl lc).pub n es rows) sl'=sl'.map fun p=>some p.2:=by kernel_rfl) (h4:leN ((F.of sl lc).pub n es rows) lc'=lc'.map fun p=>some p.2:=by kernel_rfl) :
  St ⟨w0,H0,B0,K,N⟩ (F.of sl' lc') a w :=
 (h.pubK n es ty rows hl (fun k hk2=>by
  have:=List.all_eq_true.1 hk k hk2
  simp only [Bool.and_eq_true,Bool.not_eq_true'] at this
  refine And.intro (fun e=>?_) ?_
  ·rw [e,Nat.beq_refl] at this
   exact absurd this.1 (by decide)
  ·exact Option.isSome_iff_exists.1 this.2) (fun t v hv k hk=>zbx.mem h1 k (List.mem_flatMap.2 ⟨(t,v),ofS_mem hv,hk⟩)) (fun m l hm k hk=>zbx.mem h2 k (List.mem_flatMap.2 ⟨(m,l),ofL_mem hm,hk⟩))).weaken (ziy h3 h4)
end
section
variable {P:Program}
theorem Op.appOO {d t u n n' sn len len2 len' es bs:Nat} {rows rows2 rows':List (List D)} {xt el ty:TypeId} {pos af gd} (hT:ElT P xt el es bs) (hlen:len=rows.length) (hlen2:len2=rows2.length) (hlen':len'=len+rows2.length) (hrow:rows++rows2=rows')
  (hb:(len+rows2.length)*bs<=140737488355328) :
  zb7 P ⟨some d,.call { callee:=.builtin .append,args:=#[.tmp t,.tmp u],argTypes:=#[xt,xt] }, ty,pos,af,gd⟩
   { rs:=[(t,vO n len),(u,vO sn len2)],rl:=[(n,.row el es rows),(sn,.row el es rows2)],ws:=[(d,some (vO n' len'))],wl:=[(n', some (.row el es rows')),(n,none)],nw:=[n'] }:=by
 rintro e f a w Q ⟨H,B,hok⟩ hr hnw hb0
 subst hlen hlen2 hlen' hrow
 have hnew:=hnw n' (by simp)
 have hl:=hr.2 (n,.row el es rows) (by simp)
 have h1:CR H B (.own n rows.length) (a.eval (.tmp t)):=hok.slot t _ (hr.1 (t,vO n rows.length) (by simp))
 have hl2:=hr.2 (sn,.row el es rows2) (by simp)
 have h2:CR H B (.own sn rows2.length) (a.eval (.tmp u)):=hok.slot u _ (hr.1 (u,vO sn rows2.length) (by simp))
 have hes2:∀ r ∈ rows2,r.length=es:=by
  cases hB:B sn with
  | none=>have:=hok.loc sn _ hl2;simp only [LR,hB] at this;rw [this];intro r hr;cases hr
  | some q=>obtain ⟨_,_,_,_,_,g5,_⟩:=hok.row hl2 hB;exact g5
 have hsrc:(rows2=[]/\∃ ao c,a.eval (.tmp u) = .slice ao 0 c)\/(0<rows2.length/\∃ b c news,a.eval (.tmp u) = .slice (some ⟨b,0,none⟩) rows2.length c/\news.length=rows2.length*es/\(∀ j u,news[j]?=some u->w.cell? ((⟨b,0,none⟩:Addr).add j)=some u)/\RowAt H news es rows2/\(∀ u ∈ news,u.oneCell'=true)):=by
  simp only [CR] at h2
  cases hB:B sn with
  | none=>rw [hB] at h2;obtain ⟨h3,ao,h4⟩:=h2;exact .inl ⟨List.length_eq_zero_iff.1 h3,ao,0,h4⟩
  | some q =>
   obtain ⟨b,c⟩:=q
   rw [hB] at h2
   obtain ⟨arr,g1,g2,g3,g4,g5,g6⟩:=hok.row hl2 hB
   by_cases hz0:rows2.length=0
   ·exact .inl ⟨List.length_eq_zero_iff.1 hz0,_,c,by rw [h2,hz0]⟩
   ·have hle:rows2.length*es<=c*es:=Nat.mul_le_mul_right _ g3
    refine .inr ⟨by omega,b,c,arr.take (rows2.length*es),h2,by rw [List.length_take];omega,fun j u hu=>?_,fun i r hri f x hx2=>?_,fun u hu=>?_⟩
    ·rw [List.getElem?_take] at hu
     split at hu
     ·rw [Addr.add_mid,Nat.zero_add];simp [World.cell?, g1,hu]
     ·cases hu
    ·obtain ⟨u,k1,k2⟩:=g6 i r hri f x hx2
     refine ⟨u,?_,k2⟩
     have hi2:=(List.getElem?_eq_some_iff.1 hri).1
     have hf2:=(List.getElem?_eq_some_iff.1 hx2).1
     rw [g5 r (List.mem_of_getElem? hri)] at hf2
     have:(i+1)*es<=rows2.length*es:=Nat.mul_le_mul_right _ hi2
     rw [Nat.add_mul] at this
     rw [List.getElem?_take,if_pos (by omega)];exact k1
    ·obtain ⟨j,hj⟩:=List.mem_iff_getElem?.1 hu
     have hj1:=(List.getElem?_eq_some_iff.1 hj).1
     rw [List.length_take] at hj1
     have hes0:0<es:=Nat.pos_of_ne_zero fun e=>by simp [e] at hj1
     have h5:j / es<rows2.length:=Nat.div_lt_of_lt_mul (by rw [Nat.mul_comm];omega)
     have h6:j % es<es:=Nat.mod_lt _ hes0
     have h7:(rows2[j / es]'h5).length=es:=g5 _ (List.getElem_mem h5)
     obtain ⟨u2,k1,k2⟩:=g6 (j / es) _ (List.getElem?_eq_getElem h5) (j % es) _ (List.getElem?_eq_getElem (by rw [h7];exact h6))
     have h8:j / es*es+j % es=j:=by rw [Nat.mul_comm];exact Nat.div_add_mod j es
     rw [h8] at k1
     rw [List.getElem?_take,if_pos (by omega),k1] at hj
     injection hj with hj
     subst hj
     exact zh9 (DR.flat k2)
 obtain ⟨i,z,hi,hz,hsz,hby,hzs⟩:=hT.ex
 have hne:n≠n':=fun e=>by have:=hnew.2.1;rw [<- e,hl] at this;cases this
 have hlr:=hok.loc n _ hl
 have hml:rows.length+rows2.length<=maxLen:=by
  have:(rows.length+rows2.length)*1<=(rows.length+rows2.length)*bs:=Nat.mul_le_mul_left _ hT.bpos
  simp only [maxLen];omega
 -- the run, the new block
 have main:∃ v w' p,(Builtin.append_ #[xt,xt] ty #[a.eval (.tmp t),a.eval (.tmp u)]).run P w = .ok v w'/\CR H (fun x=>if x=n' then p else B x) (.own n' (rows.length+rows2.length)) v /\
   LR H (fun x=>if x=n' then p else B x) w' n' (.row el es (rows++rows2))/\w'.os=w.os/\w'.tape=w.tape/\w'.output=w.output/\w.heap.size<=w'.heap.size/\(∀ k,k<w.heap.size->(∀ c,B n≠some (k,c))->w'.heap[k]?=w.heap[k]?) /\
   (∀ b c,p=some (b,c)->b<w'.heap.size/\((∃ c', B n=some (b,c'))\/w.heap.size<=b)):=by
  generalize a.eval (.tmp t)=vt at h1
  generalize a.eval (.tmp u)=vu at hsrc
  -- nothing is added
  have empty:∀ ao c,rows2=[]->∃ v w' p,(Builtin.append_ #[xt,xt] ty #[vt,.slice ao 0 c]).run P w = .ok v w'/\CR H (fun x=>if x=n' then p else B x) (.own n' (rows.length+rows2.length)) v /\
    LR H (fun x=>if x=n' then p else B x) w' n' (.row el es (rows++rows2))/\w'.os=w.os/\w'.tape=w.tape/\w'.output=w.output/\w.heap.size<=w'.heap.size/\(∀ k,k<w.heap.size->(∀ c,B n≠some (k,c))->w'.heap[k]?=w.heap[k]?) /\
    (∀ b c,p=some (b,c)->b<w'.heap.size/\((∃ c', B n=some (b,c'))\/w.heap.size<=b)):=by
   rintro ao c rfl
   have hrun:∀ base m cap,m<=cap->(Builtin.append_ #[xt,xt] ty #[.slice base m cap,.slice ao 0 c]).run P w = .ok (.slice base m cap) w:=by
    intro base m cap hmc
    cases ao <;> cases base <;> simp [Builtin.append_,run_underlying hT.hu,sizeOf,typeInfo,hi,Builtin.lenOf,hmc,Builtin.firstCells,loadCells,loadCellsFrom,storeCells]
   refine ⟨vt,w,B n,?_,?_,?_,rfl,rfl,rfl,Nat.le_refl _,fun _ _ _=>rfl,fun b c hb=>⟨(hok.priv n _ b c hl hb).1,.inl ⟨c,hb⟩⟩⟩
   ·simp only [CR] at h1
    cases hB:B n with
    | none=>rw [hB] at h1;obtain ⟨_,ao0,h1⟩:=h1;rw [h1];exact hrun ao0 0 0 (Nat.le_refl _)
    | some q =>
     obtain ⟨b,cc⟩:=q
     rw [hB] at h1
     obtain ⟨arr,g1,g2,g3,g4,g5,g6⟩:=hok.row hl hB
     rw [h1];exact hrun _ _ _ g3
   ·simp only [CR,if_true,List.length_nil,Nat.add_zero] at h1 ⊢;exact h1
   ·simp only [LR,if_true,List.append_nil] at hlr ⊢;exact hlr
  rcases hsrc with ⟨hz0,ao,c,rfl⟩ | ⟨hp,b,c,news,rfl,n1,n2,n3,n4⟩
  ·exact empty ao c hz0
  ·obtain ⟨vt0,hvt0,hblk,hown⟩:∃ vt0,(Builtin.append_ #[xt,xt] ty #[vt,.slice (some ⟨b,0,none⟩) rows2.length c]).run P w=(Builtin.append_ #[xt,xt] ty #[vt0,.slice (some ⟨b,0,none⟩) rows2.length c]).run P w/\vt0.ownBlock=(B n).map (·.1)/\∃ xs,w.ownsRow 0 el es vt0 rows.length xs/\RowAt H xs es rows:=by
    simp only [CR] at h1
    cases hB:B n with
    | none =>
     simp only [LR,hB] at hlr
     rw [hB] at h1
     subst hlr
     obtain ⟨_,ao0,rfl⟩:=h1
     refine ⟨.slice none 0 0,?_,rfl,[],⟨by simp,.inl ⟨rfl,rfl⟩⟩,fun i r hr=>by simp at hr⟩
     cases ao0 with
     | none=>rfl
     | some a0=>exact zip hT.hu hi hz hsz a0 n1 n2 hp (by simpa using hml) (by rw [hby];simpa using hb)
    | some q =>
     obtain ⟨b2,cc⟩:=q
     rw [hB] at h1
     obtain ⟨arr2,g1,g2,g3,g4,g5,g6⟩:=hok.row hl hB
     have hle:rows.length*es<=cc*es:=Nat.mul_le_mul_right _ g3
     refine ⟨vt,rfl,by rw [h1];rfl,arr2.take (rows.length*es),⟨by rw [List.length_take];omega,.inr ⟨b2,cc,⟨arr2⟩,h1,Nat.zero_le _,g1,g3,g4,by simpa using g2,rfl⟩⟩,?_⟩
     intro i r hri f x hx2
     obtain ⟨u,k1,k2⟩:=g6 i r hri f x hx2
     refine ⟨u,?_,k2⟩
     have hi2:=(List.getElem?_eq_some_iff.1 hri).1
     have hf2:=(List.getElem?_eq_some_iff.1 hx2).1
     rw [g5 r (List.mem_of_getElem? hri)] at hf2
     have:(i+1)*es<=rows.length*es:=Nat.mul_le_mul_right _ hi2
     rw [Nat.add_mul] at this
     rw [List.getElem?_take,if_pos (by omega)];exact k1
   obtain ⟨xs,hown,hxs⟩:=hown
   obtain ⟨v', w', r1,r2,r3,r4⟩:=run_append_own (P:=P) w 0 xt ty el i z es bs hT.hu hi hz hsz hby hzs hT.pos vt0 rows.length xs hown ⟨b,0,none⟩ rows2.length c news n1 n2 n4 hml hb (Nat.zero_le _)
   have hall:∀ r ∈ rows++rows2,r.length=es:=by
    intro r hr2
    rcases List.mem_append.1 hr2 with h' | h'
    ·cases hB:B n with
     | none=>simp only [LR,hB] at hlr;rw [hlr] at h';cases h'
     | some q=>obtain ⟨_,_,_,_,_,g5,_⟩:=hok.row hl hB;exact g5 r h'
    ·exact hes2 r h'
   have hboth:RowAt H (xs++news) es (rows++rows2):=by
    intro i2 r hri f x hx2
    by_cases hlt:i2<rows.length
    ·rw [List.getElem?_append_left hlt] at hri
     obtain ⟨u,k1,k2⟩:=hxs i2 r hri f x hx2
     exact ⟨u,by rw [List.getElem?_append_left (List.getElem?_eq_some_iff.1 k1).1];exact k1,k2⟩
    ·rw [List.getElem?_append_right (by omega)] at hri
     obtain ⟨u,k1,k2⟩:=n3 _ r hri f x hx2
     refine ⟨u,?_,k2⟩
     have hq:rows.length*es<=i2*es:=Nat.mul_le_mul_right _ (by omega)
     rw [List.getElem?_append_right (by rw [hown.1];omega),hown.1,<- k1]
     congr 1
     rw [Nat.sub_mul];omega
   obtain ⟨q1,q2⟩:=r2
   have hkk:∀ k,k<w.heap.size->(∀ c,B n≠some (k,c))->w'.heap[k]?=w.heap[k]?:=by
    intro k hk hnk
    refine r3.block k hk ?_
    rw [hblk]
    intro e1
    cases hB:B n with
    | none=>rw [hB] at e1;cases e1
    | some q=>obtain ⟨b2,cc⟩:=q;rw [hB] at e1;simp at e1;exact hnk cc (by rw [hB,e1])
   rcases q2 with ⟨_,hn0⟩ | ⟨g,cap,cur,rfl,_,k2,k3,k4,k5,k6⟩
   ·omega
   ·refine ⟨_,w', some (g,cap),hvt0.trans r1,?_,?_,r3.os,r3.tape,r3.output,r3.size,hkk,?_⟩
    ·simp [CR]
    ·simp only [LR,if_true]
     refine ⟨cur.toList,k2,by simpa using k5,by simpa using k3,k4,hall,?_⟩
     refine (zck (by simpa using k5) (by simpa using k3) hall).2 fun i2 r hri f x hx2=>?_
     obtain ⟨u,j1,j2⟩:=hboth i2 r hri f x hx2
     refine ⟨u,?_,j2⟩
     rw [<- k6,List.getElem?_take] at j1
     split at j1
     ·exact j1
     ·cases j1
    ·rintro b3 c3 e3
     injection e3 with e3
     injection e3 with e3 e4
     subst e3 e4
     refine ⟨(Array.getElem?_eq_some_iff.1 k2).1,?_⟩
     rcases zio hT.hu hi hz hsz hown hp n1 n2 n4 hml (by rw [hby];exact hb) r1 g rfl with hh | hh
     ·rw [hblk] at hh
      cases hB:B n with
      | none=>rw [hB] at hh;cases hh
      | some q=>obtain ⟨b2,cc⟩:=q;rw [hB] at hh;simp at hh;exact .inl ⟨cc,by rw [hh]⟩
     ·exact .inr (by omega)
 obtain ⟨v,w', p,r1,r2,r3,r4,r5,r6,r7,r8,r9⟩:=main
 have hok':Ok e ⟨f.s,fun m=>if m=n' then some (.row el es (rows++rows2)) else if m=n then none else f.l m⟩ H (fun x=>if x=n' then p else B x) a w' :=
  hok.renew hl hnew p r4 r5 r6 r7 r8 r9 r3 (fun _=>rfl) (fun _=>rfl)
 refine zfl (d:=d) rfl ?_ ⟨H,_,hok'.put (x:=some (vO n' (rows.length+rows2.length))) (hb0.1 (d,some (vO n' (rows.length+rows2.length))) (by simp)) (zgk f d _ _ rfl) (fun m=>?_) (fun y hy=>by injection hy with hy;subst hy;exact r2)⟩
 ·generalize a.eval=ρ at r1 ⊢
  have e1:(Array.map ρ #[.tmp t,.tmp u])=#[ρ (.tmp t),ρ (.tmp u)]:=by simp
  simp only [execOp,resolve,e1,Sem.run_bind,Sem.run_pure,Result.andThen_ok,invoke,builtin,r1]
 ·simp only [F.app,List.lookup]
  by_cases e1:m=n'
  ·simp [e1]
  ·have g1:(m == n')=false:=by simpa using e1
   by_cases e2:m=n
   ·subst e2;simp [g1,e1]
   ·have g2:(m == n)=false:=by simpa using e2
    simp [g1,g2,e1,e2]
theorem Op.eqNilO {d t n len:Nat} {y:Operand} {rs':List (Nat × V)} {xt yt el ty:TypeId} {pos af gd} (hu:P.underlying xt=some (.slice el)) (hn:0<len) (h':OV y (.t (.c (.d (.raw zaf)))) rs') :
  zb7 P ⟨some d,.binOp .eql xt (.tmp t) y yt,ty,pos,af,gd⟩ { rs:=(t,.t (.c (.own n len))) :: rs', ws:=[(d,some (vb false))] } :=
 zb7.value d _ rfl rfl rfl fun e f H B a w hok hr2=>by
  have h1:=hok.slot t _ (hr2.1 (t,.t (.c (.own n len))) (by simp))
  have h2:a.eval y=zaf:=(h'.eval hok fun p hp=>hr2.1 p (by simp [hp])).rawI
  have h3:CR H B (.own n len) (a.eval (.tmp t)):=h1
  generalize hv0:a.eval (.tmp t)=v at h3
  simp only [CR] at h3
  cases hB:B n with
  | none=>rw [hB] at h3;omega
  | some q =>
   obtain ⟨b,c⟩:=q
   rw [hB] at h3
   subst h3
   refine ⟨.bool false,?_,DR.raw _ rfl⟩
   generalize a.eval=ρ at hv0 h2 ⊢
   have:=run_eqNil (P:=P) hu (some ⟨b,0,none⟩) len c (.tmp t) y w
   simp only [Sem.run_bind] at this
   simp only [execOp,hv0,h2,Sem.run_bind,this,Result.andThen_ok,Sem.run_pure]
   rfl
end
theorem SCloneO (xs:List za3) (hn:0<xs.length) (hl:xs.length<=1000000):Fn Tryz.prog 103 [(9,.row 81 3 (xs.map za3.d))] [vO 9 xs.length] (vO 0 xs.length) [(9,.row 81 3 (xs.map za3.d)),(0,.row 81 3 (xs.map za3.d))]:=by
 refine Fn.body Tryz.func103 rfl 8 rfl fun w H B a h=>Jq 10 [] [(0,vO 9 xs.length),(2,vW zaf)] [(9,.row 81 3 (xs.map za3.d))] h fun a w h=>qW (Je 10 [(1,.g (Op.eqNilO (d:=4) (t:=3) (n:=9) (len:=xs.length) (xt:=24) (yt:=24) zcb.hu hn (OV.const zaf rfl)))] [] [(4,vb false)] h fun a w h=>zap false h rfl nofun (fun _=>qU (za1 (Jq 10 [(0,.g (Op.buildE (d:=5) (n:=10) tb_9)),(2,.g (Op.appOO (d:=7) (t:=5) (u:=6) (n:=10) (sn:=9) (n':=11) (len:=0) (len2:=xs.length) (len':=xs.length) (rows:=[].map za3.d) (rows2:=xs.map za3.d) (rows':=xs.map za3.d) zhp (by first | exact (List.length_map _).symm | simp) (by first | exact (List.length_map _).symm | simp) (by first | (rw [List.length_append,List.length_map];done) | simp) (by simp) (by first | omega | (simp at *;done) | (simp at *;omega))))] [(2,vO 11 xs.length)] [(9,.row 81 3 (xs.map za3.d)),(11,.row 81 3 (xs.map za3.d))] h fun a w h=>qV ?_))))
 replace h:=zec 11 0 [(2,vO 0 xs.length)] [(9,.row 81 3 (xs.map za3.d)),(0,.row 81 3 (xs.map za3.d))] h;refine rT (.c (.own 0 xs.length)) h rfl ?_;rfl
theorem SPlainW0 (t:zak) (ht:PsOk 40000 t.parts) (hk:Lb t.k.abs) (lk:t.k.abs.length<=40000) (hn:0<t.parts.length):Fn Tryz.prog 71 [(9,.row 81 3 (t.parts.map za3.d))] [vG ([.own 9 t.parts.length]++zi t.k)] (vd (za2 t).d) [(9,.row 81 3 (t.parts.map za3.d))]:=by
 have ln:=ht.1;refine Fn.body Tryz.func71 rfl 74 rfl fun w H B a h=>Jq 10 [] [(1,vp 10 0),(2,vp 11 0)] [(9,.row 81 3 (t.parts.map za3.d)),(10,.box ([.own 9 t.parts.length]++zi t.k)),(11,.box zT0)] h fun a w h=>Jd 12 [(2,.call (SCloneO t.parts hn (by omega)) tl_3)] [] [(3,vO 0 t.parts.length)] [(9,.row 81 3 (t.parts.map za3.d)),(10,.box ([.own 9 t.parts.length]++zi t.k)),(11,.box zT0),(0,.row 81 3 (t.parts.map za3.d))] h fun a w h=>Jd 12 [(1,.call (zgt t.parts (by omega)) tl_4)] [] [] [(9,.row 81 3 (t.parts.map za3.d)),(10,.box ([.own 9 t.parts.length]++zi t.k)),(11,.box zT0),(0,.row 81 3 ((ssV za3.v t.parts).map za3.d))] h fun a w h=>?_
 obtain ⟨r3,er3,vr3,or3,lr3⟩:=mkZ (v:=t.k.val) (m:=t.k.abs.length) (zd1 hk);refine Jd 12 [(2,.call (Fn.cast (zeo t.k hk (by omega)) (congrArg vz er3.symm)) tl_5)] [1] [(4,vp 12 0)] [(9,.row 81 3 (t.parts.map za3.d)),(11,.box zT0),(0,.row 81 3 ((ssV za3.v t.parts).map za3.d)),(12,.box ([.d (.raw zaf)]++zi r3))] h fun a w h=>qW ?_;replace h:=nilOLs 12 0 13 3 81 ([.d (.raw zaf)]++zi r3) [(2,vp 11 0),(3,vO 0 t.parts.length),(4,vp 12 0)] [(9,.row 81 3 (t.parts.map za3.d)),(11,.box zT0),(0,.row 81 3 ((ssV za3.v t.parts).map za3.d)),(12,.box ([.own 13 0]++zi r3)),(13,.row 81 3 ([].map za3.d))] h (by kernel_rfl) rfl rfl;refine Je 14 [] [3] [(17,vO 0 t.parts.length),(18,vN t.parts.length),(19,vI 0)] h fun a w h=>qZ ?_
 refine zaq (ι:=(Nat) × (List za3)) (fun (j,out)=>out=(zgg ((ssV za3.v t.parts).take j))/\j<=(ssV za3.v t.parts).length/\out.length<=j/\MOk 40000 j out)
   (fun (j,out)=>[(2,vp 11 0),(4,vp 12 0),(17,vO 0 t.parts.length),(18,vN t.parts.length),(19,vN j)])
   (fun (j,out)=>[(9,.row 81 3 (t.parts.map za3.d)),(11,.box zT0),(0,.row 81 3 ((ssV za3.v t.parts).map za3.d)),(12,.box ([.own 13 out.length]++zi r3)),(13,.row 81 3 (out.map za3.d))])
   (fun (j,out)=>(ssV za3.v t.parts).length - j) (0,[]) ?_ h (by kernel_rfl) (by kernel_rfl) ?_
 ·exact ⟨by simp [zgg],Nat.zero_le _,Nat.zero_le _,fun q hq=>(by cases hq)⟩
 clear h;rintro ⟨j,out⟩ a w hI h;dsimp only at h;obtain ⟨hI1,hI2,hI3,hI4⟩:=hI;have ln:=ht.1;have ls:(ssV za3.v t.parts).length=t.parts.length:=zb2 _;refine Je 14 [] [] [(20,vb (decide ((j:Int)<(t.parts.length:Int))))] h fun a w h=>qW (zam ((j:Int)<(t.parts.length:Int)) h (fun hc1 hc1'=>?_) (fun hc6 hc6'=>?_))
 ·refine qU (za1 (qW (qZ ?_)));obtain ⟨x4,hx4⟩:=gl (ssV za3.v t.parts) j;obtain ⟨ox4,lx4⟩:=ht.get_mem (zcr (lM hx4));refine Jd 14 [(0,.g (xO 21 17 0 t.parts.length j zcb (OV.tmp 19 _))),(1,.g (Op.loadR_agg (d:=22) (t:=21) (n:=0) (i:=j) (fo:=0) (rty:=81) (es:=3) (xs:=[.raw (.int .i64 x4.v),.raw (.bool x4.c.neg),nsl x4.c.abs]) zg2 rfl (zab hx4 (f:=za3.d)) rfl rfl))] [20] [(6,vp 14 0)] [(9,.row 81 3 (t.parts.map za3.d)),(11,.box zT0),(0,.row 81 3 ((ssV za3.v t.parts).map za3.d)),(12,.box ([.own 13 out.length]++zi r3)),(13,.row 81 3 (out.map za3.d)),(14,.box ([cI x4.v]++zi x4.c))] h fun a w h=>qW (Je 15 [] [] [(25,vb (decide (x4.v<0)))] h fun a w h=>zam (x4.v<0) h (fun hc2 hc2'=>?_) (fun hc3 hc3'=>?_))
  ·refine wp_exit (zaa (za5 (za1 (Jm 15 [(0,.j1 j)] [6,25] [(19,vI ((j:Int)+1))] [(9,.row 81 3 (t.parts.map za3.d)),(11,.box zT0),(0,.row 81 3 ((ssV za3.v t.parts).map za3.d)),(12,.box ([.own 13 out.length]++zi r3)),(13,.row 81 3 (out.map za3.d))] h fun a w h=>za1 ?_))));have hst:(zgg ((ssV za3.v t.parts).take (j+1)))=zay out x4:=by rw [hI1,show ((ssV za3.v t.parts).take (j+1):List za3)=(ssV za3.v t.parts).take j++[x4] from by rw [List.take_add_one,hx4];rfl,zbt]
   have hst2:=mrg_neg (out:=out) hc2';refine zag (x:=(j,out)) (y:=((j+1),out)) h ?_ ?_
   ·exact ⟨by rw [hst,hst2],(by have:=zaj hx4;omega),by omega,by have hh:=hI4.step (ht.get_mem (zcr (lM hx4)));rw [hst2] at hh;exact hh⟩
   show (ssV za3.v t.parts).length - (j+1)<(ssV za3.v t.parts).length - j;have:=zaj hx4;omega
  refine qU (za1 ?_)
  rcases Nat.eq_zero_or_pos out.length with hz | hz
  ·refine Je 15 [(3,.g (Op.arith (op:=.sub) (d:=29) (xt:=3) (yt:=3) (k:=.i64) (m:=(out.length:Int)) (n:=1) (r:=(-1)) (OV.tmp 28 _) (OV.const (.int .i64 1) rfl) (.inr (.inl ⟨rfl,(by omega)⟩)) i6))] [25] [(7,vI (-1))] h fun a w h=>Je 15 [(1,.cmp (op:=.geq) (m:=(-1)) (n:=0) (b:=false) .i64 rfl)] [] [(42,vb false)] h fun a w h=>zap false h rfl nofun (fun _=>?_)
   obtain ⟨r5,er5,vr5,or5,lr5⟩:=mkZ (v:=x4.c.val) (m:=x4.c.abs.length) (zd1 ox4);refine Jm 15 [(6,.call (Fn.cast (zeo x4.c ox4 (by omega)) (congrArg vz er5.symm)) tl_5),(8,.g (bD 65 ([(za3.mk x4.v r5)].map za3.d) [(64,vG ([cI x4.v]++zi r5))] tb_9 (.cons (i:=0) (OV.tmp 64 _) (.nil)) (by kernel_rfl) (by simp [za3.d]))),(9,.g (aD 66 58 65 13 15 out [(za3.mk x4.v r5)] za3.d zhp (by simp [za3.d])))] [6,7,42] [] [(9,.row 81 3 (t.parts.map za3.d)),(11,.box zT0),(0,.row 81 3 ((ssV za3.v t.parts).map za3.d)),(12,.box ([.own 15 (out++[(za3.mk x4.v r5)]).length]++zi r3)),(15,.row 81 3 ((out++[(za3.mk x4.v r5)]).map za3.d))] h fun a w h=>za9 (za1 (Jf 16 [(0,.j1 j)] [] [(19,vI ((j:Int)+1))] h fun a w h=>za1 ?_));have hst:(zgg ((ssV za3.v t.parts).take (j+1)))=zay out x4:=by rw [hI1,show ((ssV za3.v t.parts).take (j+1):List za3)=(ssV za3.v t.parts).take j++[x4] from by rw [List.take_add_one,hx4];rfl,zbt]
   have hst2:=mrg_nil hc3' hz;replace h:=zec 15 13 [(2,vp 11 0),(4,vp 12 0),(17,vO 0 t.parts.length),(18,vN t.parts.length),(19,vI ((j:Int)+1))] [(9,.row 81 3 (t.parts.map za3.d)),(11,.box zT0),(0,.row 81 3 ((ssV za3.v t.parts).map za3.d)),(12,.box ([.own 13 (out++[(za3.mk x4.v r5)]).length]++zi r3)),(13,.row 81 3 ((out++[(za3.mk x4.v r5)]).map za3.d))] h;refine zag (x:=(j,out)) (y:=((j+1),(out++[(za3.mk x4.v r5)]))) h ?_ ?_
   ·have hnew:(out++[(za3.mk x4.v r5)])=zay out x4:=by rw [hst2,er5]
    exact ⟨by rw [hst];exact hnew,(by have:=zaj hx4;omega),by rw [List.length_append];simp only [List.length_cons,List.length_nil];omega,by rw [hnew];exact hI4.step (ht.get_mem (zcr (lM hx4)))⟩
   show (ssV za3.v t.parts).length - (j+1)<(ssV za3.v t.parts).length - j;have:=zaj hx4;omega
  obtain ⟨k,hk1⟩:∃ k,out.length=k+1:=⟨out.length - 1,by omega⟩;refine Je 16 [(3,.g (Op.arith (op:=.sub) (d:=29) (xt:=3) (yt:=3) (k:=.i64) (m:=(out.length:Int)) (n:=1) (r:=(k:Int)) (OV.tmp 28 _) (OV.const (.int .i64 1) rfl) (.inr (.inl ⟨rfl,(by omega)⟩)) i6))] [25] [(7,vN k)] h fun a w h=>?_;obtain ⟨x6,hx6⟩:=gl out k;obtain ⟨ox6,lx6⟩:=hI4.lb (lM hx6) (by omega);refine Je 16 [(1,.cmp (op:=.geq) (m:=(k:Int)) (n:=0) (b:=true) .i64 (show decide ((k:Int)>=0)=true from decide_eq_true (by omega))),(6,.g (xO 36 34 13 out.length k zcb (OV.tmp 35 _))),(8,.g (Op.loadR_c (d:=38) (t:=37) (n:=13) (i:=k) (fo:=0) (rty:=81) (es:=3) (x:=(.raw (.int .i64 x6.v))) tl_7 rfl (zab hx6 (f:=za3.d)) rfl))] [] [(42,vb (x6.v == x4.v))] h fun a w h=>cS (x6.v == x4.v) h (fun hc4=>?_) (fun hc5=>?_)
  ·have hc4':=hc4;(try simp at hc4');obtain ⟨r7,er7,vr7,or7,lr7⟩:=mkZ (v:=x6.c.val+x4.c.val) (m:=x6.c.abs.length+x4.c.abs.length+1) (zdl ox6 ox4);refine Jm 16 [(6,.g (xO 49 47 13 out.length k zcb (OV.tmp 48 _))),(8,.g (Op.loadR_agg (d:=51) (t:=50) (n:=13) (i:=k) (fo:=1) (rty:=81) (es:=3) (xs:=[.raw (.bool x6.c.neg),nsl x6.c.abs]) zed rfl (zab hx6 (f:=za3.d)) rfl rfl)),(11,.call (Fn.cast (SAdd x6.c x4.c ox6 ox4 (by omega) (by omega)) (congrArg vz er7.symm)) tl_9),(12,.g (xO 55 44 13 out.length k zcb (OV.tmp 45 _))),(14,.g (Op.storeR (t:=56) (n:=13) (i:=k) (fo:=1) (rty:=81) (es:=3) (r:=za3.d x6) (ds:=[.raw (.bool r7.neg),nsl r7.abs]) (rs:=[(54,vz r7)]) (rows:=out.map za3.d) (rows':=(out.set k (za3.mk x6.v r7)).map za3.d) zed (OV.tmp 54 _) rfl rfl rfl (zab hx6 (f:=za3.d)) (by simp [za3.d]) (zc5 (xs:=out) (F:=za3.d) k _ _ rfl)))] [6,7,42] [] [(9,.row 81 3 (t.parts.map za3.d)),(11,.box zT0),(0,.row 81 3 ((ssV za3.v t.parts).map za3.d)),(12,.box ([.own 13 out.length]++zi r3)),(13,.row 81 3 ((out.set k (za3.mk x6.v r7)).map za3.d))] h fun a w h=>za9 (za1 (Jf 16 [(0,.j1 j)] [] [(19,vI ((j:Int)+1))] h fun a w h=>za1 ?_));have hst:(zgg ((ssV za3.v t.parts).take (j+1)))=zay out x4:=by rw [hI1,show ((ssV za3.v t.parts).take (j+1):List za3)=(ssV za3.v t.parts).take j++[x4] from by rw [List.take_add_one,hx4];rfl,zbt]
   replace h:=h.conv (f':=F.of [(2,vp 11 0),(4,vp 12 0),(17,vO 0 t.parts.length),(18,vN t.parts.length),(19,vI ((j:Int)+1))] [(9,.row 81 3 (t.parts.map za3.d)),(11,.box zT0),(0,.row 81 3 ((ssV za3.v t.parts).map za3.d)),(12,.box ([.own 13 (out.set k (za3.mk x6.v r7)).length]++zi r3)),(13,.row 81 3 ((out.set k (za3.mk x6.v r7)).map za3.d))]) (by rw [List.length_set];kernel_rfl);have hst2:=zh4 hc3' hk1 hx6 (by simpa using hc4);refine zag (x:=(j,out)) (y:=((j+1),(out.set k (za3.mk x6.v r7)))) h ?_ ?_
   ·have hnew:(out.set k (za3.mk x6.v r7))=zay out x4:=by rw [hst2,er7]
    exact ⟨by rw [hst];exact hnew,(by have:=zaj hx4;omega),by rw [List.length_set];omega,by rw [hnew];exact hI4.step (ht.get_mem (zcr (lM hx4)))⟩
   show (ssV za3.v t.parts).length - (j+1)<(ssV za3.v t.parts).length - j;have:=zaj hx4;omega
  have hc5':=hc5;(try simp at hc5');obtain ⟨r8,er8,vr8,or8,lr8⟩:=mkZ (v:=x4.c.val) (m:=x4.c.abs.length) (zd1 ox4);refine Jm 16 [(6,.call (Fn.cast (zeo x4.c ox4 (by omega)) (congrArg vz er8.symm)) tl_5),(8,.g (bD 65 ([(za3.mk x4.v r8)].map za3.d) [(64,vG ([cI x4.v]++zi r8))] tb_9 (.cons (i:=0) (OV.tmp 64 _) (.nil)) (by kernel_rfl) (by simp [za3.d]))),(9,.g (aD 66 58 65 13 16 out [(za3.mk x4.v r8)] za3.d zhp (by simp [za3.d])))] [6,7,42] [] [(9,.row 81 3 (t.parts.map za3.d)),(11,.box zT0),(0,.row 81 3 ((ssV za3.v t.parts).map za3.d)),(12,.box ([.own 16 (out++[(za3.mk x4.v r8)]).length]++zi r3)),(16,.row 81 3 ((out++[(za3.mk x4.v r8)]).map za3.d))] h fun a w h=>za9 (za1 (Jf 17 [(0,.j1 j)] [] [(19,vI ((j:Int)+1))] h fun a w h=>za1 ?_));have hst:(zgg ((ssV za3.v t.parts).take (j+1)))=zay out x4:=by rw [hI1,show ((ssV za3.v t.parts).take (j+1):List za3)=(ssV za3.v t.parts).take j++[x4] from by rw [List.take_add_one,hx4];rfl,zbt]
  have hst2:=mrg_new hc3' hk1 hx6 (by simpa using hc5);replace h:=zec 16 13 [(2,vp 11 0),(4,vp 12 0),(17,vO 0 t.parts.length),(18,vN t.parts.length),(19,vI ((j:Int)+1))] [(9,.row 81 3 (t.parts.map za3.d)),(11,.box zT0),(0,.row 81 3 ((ssV za3.v t.parts).map za3.d)),(12,.box ([.own 13 (out++[(za3.mk x4.v r8)]).length]++zi r3)),(13,.row 81 3 ((out++[(za3.mk x4.v r8)]).map za3.d))] h;refine zag (x:=(j,out)) (y:=((j+1),(out++[(za3.mk x4.v r8)]))) h ?_ ?_
  ·have hnew:(out++[(za3.mk x4.v r8)])=zay out x4:=by rw [hst2,er8]
   exact ⟨by rw [hst];exact hnew,(by have:=zaj hx4;omega),by rw [List.length_append];simp only [List.length_cons,List.length_nil];omega,by rw [hnew];exact hI4.step (ht.get_mem (zcr (lM hx4)))⟩
  show (ssV za3.v t.parts).length - (j+1)<(ssV za3.v t.parts).length - j;have:=zaj hx4;omega
 refine wp_exit (zaa (zaa (za5 (za1 ?_))));replace h:=atS (sl':=[(2,vp 11 0),(4,vp 12 0)]) (lc':=[(9,.row 81 3 (t.parts.map za3.d)),(11,.box zT0),(12,.box ([.own 13 out.length]++zi r3)),(13,.row 81 3 (out.map za3.d))]) h;replace h:=zec 13 0 [(2,vp 11 0),(4,vp 12 0)] [(9,.row 81 3 (t.parts.map za3.d)),(11,.box zT0),(12,.box ([.own 0 out.length]++zi r3)),(0,.row 81 3 (out.map za3.d))] h;refine Jd 17 [(2,.call (SDeleteFZ isZ out (fun p hp=>SPlain2 p (hI4.lb hp (by omega)).1 (by have:=(hI4.lb hp (by omega)).2;omega)) (by omega)) tl_10)] [] [] [(9,.row 81 3 (t.parts.map za3.d)),(11,.box zT0),(12,.box ([.own 0 (out.filter (fun p=>!isZ p)).length]++zi r3)),(0,.row 81 3 ((out.filter (fun p=>!isZ p)).map za3.d))] h fun a w h=>Jd 17 [] [4] [] [(9,.row 81 3 (t.parts.map za3.d)),(11,.box ([.own 0 (out.filter (fun p=>!isZ p)).length]++zi r3)),(0,.row 81 3 ((out.filter (fun p=>!isZ p)).map za3.d))] h fun a w h=>qV ?_;replace h:=pubSK 0 3 81 ((out.filter (fun p=>!isZ p)).map za3.d) [(2,vp 11 0)] [(9,.row 81 3 (t.parts.map za3.d)),(11,.box ([cPs (out.filter (fun p=>!isZ p))]++zi r3))] h rfl (by kernel_rfl) trivial (show zbx _ [(out.filter (fun p=>!isZ p)).length] from ⟨by first | exact (List.length_map _).symm | simp,trivial⟩);refine rA 11 ([cPs (out.filter (fun p=>!isZ p))]++zi r3) h zf5 rfl ?_;have hj:j=(ssV za3.v t.parts).length:=by omega
 subst hj;rw [hI1,List.take_length,plain_law,er3];try rfl
theorem SPlainW (t:zak) {n L:Nat} (h:TOk n L t) (hn:n<=1000) (hL:L<=40000) (hp:0<t.parts.length):Fn Tryz.prog 71 [(9,.row 81 3 (t.parts.map za3.d))] [vG ([.own 9 t.parts.length]++zi t.k)] (vd (za2 t).d) [(9,.row 81 3 (t.parts.map za3.d))] :=
 have h':=h.mono hn hL
 SPlainW0 t h'.psok h'.kb h'.kl hp
theorem SContentW (t:zak) {n L:Nat} (ht:TOk n L t) (hn:n<=1000) (hL:L<=20000) (hp:0<t.parts.length):Fn Tryz.prog 157 [(9,.row 81 3 (t.parts.map za3.d))] [vG ([.own 9 t.parts.length]++zi t.k)] (vz (ZI.of (zcs (za2 t).parts))) [(9,.row 81 3 (t.parts.map za3.d))]:=by
 refine Fn.body Tryz.func157 rfl 21 rfl fun w H B a h=>Jq 10 [] [(1,vp 10 0),(2,vp 11 0)] [(9,.row 81 3 (t.parts.map za3.d)),(10,.box ([.own 9 t.parts.length]++zi t.k)),(11,.box [cB false,.d (nsl [])])] h fun a w h=>Jd 12 [] [] [(3,vp 12 0)] [(9,.row 81 3 (t.parts.map za3.d)),(10,.box ([.own 9 t.parts.length]++zi t.k)),(11,.box [cB false,.d (nsl [])]),(12,.box [cB false,.d (nsl [])])] h fun a w h=>qW (Jd 13 [(1,.call (SPlainW t ht hn (by omega) hp) tm_7),(3,.len (za6 3 za3.d ((za2 t).parts)))] [1] [(9,(vPs (za2 t).parts)),(10,vI ((za2 t).parts.length:Int)),(11,vI 0)] [(9,.row 81 3 (t.parts.map za3.d)),(11,.box [cB false,.d (nsl [])]),(12,.box [cB false,.d (nsl [])])] h fun a w h=>qZ ?_)
 refine zaq (ι:=(Nat) × (ZI)) (fun (j,out)=>out=ZI.of (zcs ((za2 t).parts.take j))/\j<=(za2 t).parts.length)
   (fun (j,out)=>[(2,vp 11 0),(3,vp 12 0),(9,(vPs (za2 t).parts)),(10,vI ((za2 t).parts.length:Int)),(11,vN j)])
   (fun (j,out)=>[(9,.row 81 3 (t.parts.map za3.d)),(11,.box [cB false,.d (nsl [])]),(12,.box (zi out))])
   (fun (j,out)=>(za2 t).parts.length - j) (0,(ZI.of 0)) ?_ h (by kernel_rfl) (by kernel_rfl) ?_
 ·exact ⟨by simp [zcs],Nat.zero_le _⟩
 clear h;rintro ⟨j,out⟩ a w hI h;dsimp only at h;obtain ⟨hI1,hI2⟩:=hI;have lpp:=(ht.plain hn).len;have lvv:(zby t.parts).length=(za2 t).parts.length:=(List.length_map _).symm;have lo:out.abs.length<=L+1:=by rw [hI1];exact con_len ht hn j
 have ho:Lb out.abs:=by rw [hI1];exact ZI.lb_of _
 have vo:out.val=zcs ((za2 t).parts.take j):=by rw [hI1];exact ZI.val_of _
 refine Je 13 [] [] [(12,vb (decide ((j:Int)<((za2 t).parts.length:Int))))] h fun a w h=>qW (zam ((j:Int)<((za2 t).parts.length:Int)) h (fun hc1 hc1'=>?_) (fun hc2 hc2'=>?_))
 ·refine qU (za1 (qW (qZ ?_)));obtain ⟨x2,hx2⟩:=gl ((za2 t).parts) j;obtain ⟨ox2,lx2⟩:=(ht.plain hn).get hx2;refine Jd 13 [(0,.g (xD 13 9 zcb (zab hx2 (f:=za3.d)) (OV.tmp 11 _)))] [12] [(5,vp 13 0)] [(9,.row 81 3 (t.parts.map za3.d)),(11,.box [cB false,.d (nsl [])]),(12,.box (zi out)),(13,.box ([cI x2.v]++zi x2.c))] h fun a w h=>?_;obtain ⟨r3,er3,vr3,or3,lr3⟩:=mkZ (v:=(Nat.gcd out.val.natAbs x2.c.val.natAbs:Int)) (m:=out.abs.length+x2.c.abs.length) (len_gcd ho ox2);refine Jm 14 [(3,.call (Fn.cast (SGcd out x2.c ho ox2 (by omega) (by omega)) (congrArg vz er3.symm)) tt_11)] [5] [] [(9,.row 81 3 (t.parts.map za3.d)),(11,.box [cB false,.d (nsl [])]),(12,.box (zi r3))] h fun a w h=>za9 (za1 (Jf 14 [(0,.j1 j)] [] [(11,vI ((j:Int)+1))] h fun a w h=>za1 (zag (x:=(j,out)) (y:=((j+1),r3)) h ?_ ?_)))
  ·have:=zaj hx2;exact ⟨by rw [er3,vo,con_take hx2],by omega⟩
  show (za2 t).parts.length - (j+1)<(za2 t).parts.length - j;have:=zaj hx2;omega
 refine wp_exit (zaa (zaa (za5 (za1 (Jq 14 [] [(2,vp 11 0)] [(9,.row 81 3 (t.parts.map za3.d)),(11,.box (zi out))] h fun a w h=>qV (rA 11 (zi out) h zed rfl ?_))))));have hj:j=(za2 t).parts.length:=by omega
 subst hj;rw [hI1,List.take_length];try rfl
theorem tw_1:za4 Tryz.prog 157:=za4.mk' (by kernel_rfl)
theorem tw_7:za4 Tryz.prog 161:=za4.mk' (by kernel_rfl)
def zil (g:Int) (p:za3):za3:=⟨p.v,ZI.of (p.c.val.fdiv g)⟩
def zeq (t:zak):zak:=if zcs (za2 t).parts=0 then za2 t else ⟨(za2 t).parts.map (zil (zcs (za2 t).parts)),ZI.of (t.k.val.fdiv (zcs (za2 t).parts))⟩
theorem con_dvd (ps:List za3):∀ p ∈ ps,zcs ps∣p.c.val:=by
 have key:∀ (ps:List za3) (g:Int),(ps.foldl (fun g p=>(Nat.gcd g.natAbs p.c.val.natAbs:Int)) g)∣g/\∀ p ∈ ps,(ps.foldl (fun g p=>(Nat.gcd g.natAbs p.c.val.natAbs:Int)) g)∣p.c.val:=by
  intro ps
  induction ps with
  | nil=>intro g;exact ⟨Int.dvd_refl g,fun p hp=>by cases hp⟩
  | cons p ps ih =>
   intro g
   obtain ⟨h1,h2⟩:=ih ((Nat.gcd g.natAbs p.c.val.natAbs:Int))
   rw [List.foldl_cons]
   have d1:((Nat.gcd g.natAbs p.c.val.natAbs:Nat):Int)∣g:=Int.ofNat_dvd_left.2 (Nat.gcd_dvd_left _ _)
   have d2:((Nat.gcd g.natAbs p.c.val.natAbs:Nat):Int)∣p.c.val:=Int.ofNat_dvd_left.2 (Nat.gcd_dvd_right _ _)
   refine ⟨Int.dvd_trans h1 d1,fun q hq=>?_⟩
   rcases List.mem_cons.1 hq with rfl | hq
   ·exact Int.dvd_trans h1 d2
   ·exact h2 q hq
 exact (key ps 0).2
theorem con_ne {t:zak} (h:0<(za2 t).parts.length):zcs (za2 t).parts≠0:=fun e=>by
 obtain ⟨p,hp⟩:∃ p,p ∈ (za2 t).parts:=⟨_,List.getElem_mem h⟩
 have h1:=con_dvd _ p hp
 rw [e] at h1
 exact ((zbg t).2.1 p hp).2.2 (Int.zero_dvd.1 h1)
theorem con_nil {t:zak} (h:(za2 t).parts.length=0):zcs (za2 t).parts=0:=by rw [List.length_eq_zero_iff.1 h];rfl
theorem zet (t:zak):zcs (za2 (za2 t)).parts=zcs (za2 t).parts:=by rw [zcw]
theorem fmod_of_dvd {a b:Int} (h:b∣a):a.fmod b=0:=by obtain ⟨c,rfl⟩:=h;exact Int.mul_fmod_right b c
theorem SShrink (t:zak) {n L:Nat} (ht:TOk n L t) (hn:n<=1000) (hL:L<=10000):Fn Tryz.prog 155 [] [(vT t)] (.tup [.agg ((zeq t).d.map C.d),.agg (zi (ZI.of (zcs (za2 t).parts)))]) []:=by
 have lnp:=(ht.plain hn).len;have lkp:=(ht.plain hn).kl;refine Fn.body Tryz.func155 rfl 49 rfl fun w H B a h=>Jq 12 [] [(1,vp 12 0),(2,vp 13 0),(3,vp 14 0)] [(12,.box (zT t)),(13,.box zT0),(14,.box [cB false,.d (nsl [])])] h fun a w h=>Jd 15 [(1,.call (SPlainO t ht (by omega) (by omega)) tm_7)] [1] [(4,vp 15 0)] [(13,.box zT0),(14,.box [cB false,.d (nsl [])]),(0,.row 81 3 ((za2 t).parts.map za3.d)),(15,.box ([.own 0 (za2 t).parts.length]++zi (za2 t).k))] h fun a w h=>?_
 replace h:=zec 0 9 [(2,vp 13 0),(3,vp 14 0),(4,vp 15 0)] [(13,.box zT0),(14,.box [cB false,.d (nsl [])]),(15,.box ([.own 9 (za2 t).parts.length]++zi (za2 t).k)),(9,.row 81 3 ((za2 t).parts.map za3.d))] h
 rcases Nat.eq_zero_or_pos (za2 t).parts.length with hz | hz
 ·have hg0:=con_nil hz;replace h:=ziv 9 3 81 ((za2 t).parts.map za3.d) [(2,vp 13 0),(3,vp 14 0),(4,vp 15 0)] [(13,.box zT0),(14,.box [cB false,.d (nsl [])]),(15,.box (zT (za2 t)))] h rfl trivial (show zbx _ [(za2 t).parts.length] from ⟨by first | exact (List.length_map _).symm | simp,trivial⟩);obtain ⟨r2,er2,vr2,or2,lr2⟩:=mkZ (v:=(zcs (za2 t).parts)) (m:=L+1) (by have:=con_len ht hn (za2 t).parts.length;rw [List.take_length] at this;exact this);have vG:=vr2;refine Jd 16 [(1,.call (Fn.cast (SContent (za2 t) (ht.plain hn) hn (by omega)) (show vz (ZI.of (zcs (za2 (za2 t)).parts))=vz r2 from by rw [zet,er2])) tw_1)] [] [(5,vp 16 0)] [(13,.box zT0),(14,.box [cB false,.d (nsl [])]),(15,.box (zT (za2 t))),(16,.box (zi r2))] h fun a w h=>qW (Je 17 [(1,.call (Fn.cast (SSign r2 or2 (by omega)) (congrArg (vi .i64) (zf7 (by rw [vr2];exact hg0)))) td_6),(2,.cmp (op:=.eql) (m:=0) (n:=0) (b:=true) .i64 rfl)] [] [(14,vb true)] h fun a w h=>cS true h (fun _=>?_) nofun);refine Jd 17 [] [14] [] [(13,.box (zT (za2 t))),(14,.box (zi r2)),(15,.box (zT (za2 t))),(16,.box (zi r2))] h fun a w h=>qV (za7 (zeb [.agg (zT (za2 t)),.agg (zi r2)] h Exit.ret (.inl rfl)  rfl ⟨RV.agg _ 13 0 _ _ _ _ zf5 rfl rfl rfl rfl,RV.agg _ 14 0 _ _ _ _ zed rfl rfl rfl rfl,trivial⟩ ?_));rw [show zeq t=za2 t from if_pos hg0,er2];try rfl
 have hg0:=con_ne hz;obtain ⟨r4,er4,vr4,or4,lr4⟩:=mkZ (v:=(zcs (za2 t).parts)) (m:=L+1) (by have:=con_len ht hn (za2 t).parts.length;rw [List.take_length] at this;exact this);have vG:=vr4;refine Jd 17 [(1,.call (Fn.cast (SContentW (za2 t) (ht.plain hn) hn (by omega) hz) (show vz (ZI.of (zcs (za2 (za2 t)).parts))=vz r4 from by rw [zet,er4])) tw_1)] [] [(5,vp 17 0)] [(13,.box zT0),(14,.box [cB false,.d (nsl [])]),(15,.box ([.own 9 (za2 t).parts.length]++zi (za2 t).k)),(9,.row 81 3 ((za2 t).parts.map za3.d)),(17,.box (zi r4))] h fun a w h=>qW (Je 18 [(1,.call (SSign r4 or4 (by omega)) td_6),(2,.cmp (op:=.eql) (m:=(sgn r4.val)) (n:=0) (b:=false) .i64 (by rw [vr4];exact beq_eq_false_iff_ne.2 (fun e=>hg0 (sgn_eq0.1 e))))] [] [(14,vb false)] h fun a w h=>zap false h rfl nofun (fun _=>qU (za1 (qW (Je 18 [] [14] [(18,vO 9 (za2 t).parts.length),(19,vI ((za2 t).parts.length:Int)),(20,vI 0)] h fun a w h=>qZ ?_)))));replace h:=cv (fun z_:List za3=>F.of [(2,vp 13 0),(3,vp 14 0),(4,vp 15 0),(5,vp 17 0),(18,vO 9 (za2 t).parts.length),(19,vI ((za2 t).parts.length:Int)),(20,vI 0)] [(13,.box zT0),(14,.box [cB false,.d (nsl [])]),(15,.box ([.own 9 (za2 t).parts.length]++zi (za2 t).k)),(9,.row 81 3 (z_.map za3.d)),(17,.box (zi r4))]) (show ((za2 t).parts:List za3)=(((za2 t).parts.take 0).map (zil (zcs (za2 t).parts))++(za2 t).parts.drop 0) from by simp) h
 refine zaq (ι:=(Nat)) (fun j=>j<=(za2 t).parts.length)
   (fun j=>[(2,vp 13 0),(3,vp 14 0),(4,vp 15 0),(5,vp 17 0),(18,vO 9 (za2 t).parts.length),(19,vI ((za2 t).parts.length:Int)),(20,vN j)])
   (fun j=>[(13,.box zT0),(14,.box [cB false,.d (nsl [])]),(15,.box ([.own 9 (za2 t).parts.length]++zi (za2 t).k)),(9,.row 81 3 ((((za2 t).parts.take j).map (zil (zcs (za2 t).parts))++(za2 t).parts.drop j).map za3.d)),(17,.box (zi r4))])
   (fun j=>(za2 t).parts.length - j) 0 ?_ h (by kernel_rfl) (by kernel_rfl) ?_
 ·exact Nat.zero_le _
 clear h;rintro j a w hI h;have hrl:(((za2 t).parts.take j).map (zil (zcs (za2 t).parts))++(za2 t).parts.drop j).length=(za2 t).parts.length:=by rw [List.length_append,List.length_map,List.length_take,List.length_drop];omega
 refine Je 18 [] [] [(21,vb (decide ((j:Int)<((za2 t).parts.length:Int))))] h fun a w h=>qW (zam ((j:Int)<((za2 t).parts.length:Int)) h (fun hc1 hc1'=>?_) (fun hc2 hc2'=>?_))
 ·refine qU (za1 (qW (qZ ?_)));obtain ⟨x,hx⟩:∃ z_:za3,(za2 t).parts[j]?=some z_:=⟨_,List.getElem?_eq_getElem (by omega)⟩;obtain ⟨ox,lx⟩:=(ht.plain hn).get hx;refine Jd 18 [(1,.g (xO 23 18 9 (za2 t).parts.length j zcb (OV.tmp 20 _))),(2,.g (Op.loadR_agg (d:=24) (t:=23) (n:=9) (i:=j) (fo:=0) (rty:=81) (es:=3) (xs:=[.raw (.int .i64 x.v),.raw (.bool x.c.neg),nsl x.c.abs]) zg2 rfl (zab (show ((((za2 t).parts.take j).map (zil (zcs (za2 t).parts))++(za2 t).parts.drop j):List za3)[j]?=some x from mov_at hx) (f:=za3.d)) rfl rfl))] [21] [(6,vN j),(7,vp 18 0)] [(13,.box zT0),(14,.box [cB false,.d (nsl [])]),(15,.box ([.own 9 (za2 t).parts.length]++zi (za2 t).k)),(9,.row 81 3 ((((za2 t).parts.take j).map (zil (zcs (za2 t).parts))++(za2 t).parts.drop j).map za3.d)),(17,.box (zi r4)),(18,.box ([cI x.v]++zi x.c))] h fun a w h=>?_;obtain ⟨r6,er6,vr6,or6,lr6⟩:=mkZ (v:=x.c.val.fdiv r4.val) (m:=x.c.abs.length) (zjg ox (by rw [vG];exact hg0));refine Jm 19 [(6,.call (Fn.cast (SExact x.c r4 ox or4 (by omega) (by omega) (by rw [vG];exact hg0) (by rw [vG];exact fmod_of_dvd (con_dvd _ x (lM hx)))) (show _=(.tup [.agg (zi r6),.c (cI 0)]:V) by rw [er6];try rfl)) tw_7),(10,.g (xO 35 27 9 (za2 t).parts.length j zcb (OV.tmp 28 _))),(12,.g (Op.storeR (t:=36) (n:=9) (i:=j) (fo:=1) (rty:=81) (es:=3) (r:=za3.d x) (ds:=[.raw (.bool r6.neg),nsl r6.abs]) (rs:=[(33,vz r6)]) (rows:=(((za2 t).parts.take j).map (zil (zcs (za2 t).parts))++(za2 t).parts.drop j).map za3.d) (rows':=((((za2 t).parts.take j).map (zil (zcs (za2 t).parts))++(za2 t).parts.drop j).set j (za3.mk x.v r6)).map za3.d) zed (OV.tmp 33 _) rfl rfl rfl (zab (show ((((za2 t).parts.take j).map (zil (zcs (za2 t).parts))++(za2 t).parts.drop j):List za3)[j]?=some x from mov_at hx) (f:=za3.d)) (by simp [za3.d]) (zc5 (xs:=(((za2 t).parts.take j).map (zil (zcs (za2 t).parts))++(za2 t).parts.drop j)) (F:=za3.d) j _ _ rfl)))] [6,7] [] [(13,.box zT0),(14,.box [cB false,.d (nsl [])]),(15,.box ([.own 9 (za2 t).parts.length]++zi (za2 t).k)),(9,.row 81 3 (((((za2 t).parts.take j).map (zil (zcs (za2 t).parts))++(za2 t).parts.drop j).set j (za3.mk x.v r6)).map za3.d)),(17,.box (zi r4))] h fun a w h=>za9 (za1 (Jf 19 [(0,.j1 j)] [] [(20,vI ((j:Int)+1))] h fun a w h=>za1 ?_));have hdx:za3.mk x.v r6=zil (zcs (za2 t).parts) x:=by rw [er6,vG];rfl
  rw [show (((((za2 t).parts.take j).map (zil (zcs (za2 t).parts))++(za2 t).parts.drop j).set j (za3.mk x.v r6)):List za3)=(((za2 t).parts.take (j+1)).map (zil (zcs (za2 t).parts))++(za2 t).parts.drop (j+1)) from by rw [hdx];exact mov_set hx] at h;refine zag (x:=j) (y:=(j+1)) h ?_ ?_
  ·have:=zaj hx;omega
  show (za2 t).parts.length - (j+1)<(za2 t).parts.length - j;have:=zaj hx;omega
 refine wp_exit (zaa (zaa (za5 (za1 ?_))));obtain ⟨r7q,er7q,vr7q,or7q,lr7q⟩:=mkZ (v:=(za2 t).k.val.fdiv r4.val) (m:=(za2 t).k.abs.length) (zjg (ht.plain hn).kb (by rw [vG];exact hg0));obtain ⟨r7r,er7r,vr7r,or7r,lr7r⟩:=mkZ (v:=(za2 t).k.val.fmod r4.val) (m:=r4.abs.length) (len_fmod or4 (by rw [vG];exact hg0));refine Jd 19 [(3,.call (Fn.cast (SDiv (za2 t).k r4 (ht.plain hn).kb or4 (by omega) (by omega) (by rw [vG];exact hg0)) (show _=(.tup [.agg (zi r7q),.agg (zi r7r),.c (cI 0)]:V) by rw [er7q,er7r];try rfl)) zs_20)] [18,19,20,21] [] [(13,.box zT0),(14,.box [cB false,.d (nsl [])]),(15,.box ([.own 9 (za2 t).parts.length]++zi r7q)),(9,.row 81 3 ((((za2 t).parts.take j).map (zil (zcs (za2 t).parts))++(za2 t).parts.drop j).map za3.d)),(17,.box (zi r4))] h fun a w h=>?_;rw [show ((((za2 t).parts.take j).map (zil (zcs (za2 t).parts))++(za2 t).parts.drop j):List za3)=((za2 t).parts.map (zil (zcs (za2 t).parts))) from by rw [show j=(za2 t).parts.length by omega,List.take_length,List.drop_length,List.append_nil]] at h;replace h:=h.conv (f':=F.of [(2,vp 13 0),(3,vp 14 0),(4,vp 15 0),(5,vp 17 0)] [(13,.box zT0),(14,.box [cB false,.d (nsl [])]),(15,.box ([.own 9 ((za2 t).parts.map (zil (zcs (za2 t).parts))).length]++zi r7q)),(9,.row 81 3 (((za2 t).parts.map (zil (zcs (za2 t).parts))).map za3.d)),(17,.box (zi r4))]) (by rw [show ((za2 t).parts.map (zil (zcs (za2 t).parts))).length=(za2 t).parts.length from List.length_map _];kernel_rfl);replace h:=ziv 9 3 81 (((za2 t).parts.map (zil (zcs (za2 t).parts))).map za3.d) [(2,vp 13 0),(3,vp 14 0),(4,vp 15 0),(5,vp 17 0)] [(13,.box zT0),(14,.box [cB false,.d (nsl [])]),(15,.box ([cPs ((za2 t).parts.map (zil (zcs (za2 t).parts)))]++zi r7q)),(17,.box (zi r4))] h rfl trivial (show zbx _ [((za2 t).parts.map (zil (zcs (za2 t).parts))).length] from ⟨by first | exact (List.length_map _).symm | simp,trivial⟩);refine Jd 19 [] [4,5] [] [(13,.box ([cPs ((za2 t).parts.map (zil (zcs (za2 t).parts)))]++zi r7q)),(14,.box (zi r4))] h fun a w h=>qV (zeb [.agg ([cPs ((za2 t).parts.map (zil (zcs (za2 t).parts)))]++zi r7q),.agg (zi r4)] h Exit.ret (.inl rfl)  rfl ⟨RV.agg _ 13 0 _ _ _ _ zf5 rfl rfl rfl rfl,RV.agg _ 14 0 _ _ _ _ zed rfl rfl rfl rfl,trivial⟩ ?_);have hs:zeq t=⟨(za2 t).parts.map (zil (zcs (za2 t).parts)),r7q⟩:=by unfold zeq;rw [if_neg hg0,er7q,vG,show (za2 t).k.val=t.k.val from ZI.val_of _]
 rw [hs,er4];try rfl
theorem ty_2:za4 Tryz.prog 155:=za4.mk' (by kernel_rfl)
theorem ty_5:ElZ Tryz.prog 41 28 2:=ElZ.mk' Tryz.underlying41 _ _ rfl rfl (by kernel_rfl) (by kernel_rfl) (by kernel_rfl) (by decide)
theorem ty_10:za4 Tryz.prog 94:=za4.mk' (by kernel_rfl)
theorem ty_16:ElZ Tryz.prog 22 9 1:=ElZ.mk' Tryz.underlying22 _ _ rfl rfl (by kernel_rfl) (by kernel_rfl) (by kernel_rfl) (by decide)
theorem ua_14:za4 Tryz.prog 16:=za4.mk' (by kernel_rfl)
theorem shr_tok {n L:Nat} {t:zak} (h:TOk n L t) (hn:n<=1000):TOk n (L+1) (zeq t):=by
 unfold zeq
 split
 ·exact h.plain hn
 ·rename_i hg
  have hp:=h.plain hn
  have lg:(zcs (za2 t).parts)≠0:=hg
  refine ⟨by simp only [List.length_map];exact hp.len,fun q hq=>?_,ZI.lb_of _,?_⟩
  ·obtain ⟨p,hp2,rfl⟩:=List.mem_map.1 hq
   obtain ⟨k1,k2⟩:=hp.ps p hp2
   refine ⟨ZI.lb_of _,ZI.len_of ?_⟩
   exact Nat.lt_of_le_of_lt (zen _ hg) (Nat.lt_of_lt_of_le (ZI.abs_lt k1) (zdi k2))
  ·exact ZI.len_of (Nat.lt_of_le_of_lt (zen _ hg) (Nat.lt_of_lt_of_le (ZI.abs_lt h.kb) (zdi (Nat.le_trans h.kl (Nat.le_succ L)))))
theorem valT_len {n L M:Nat} {t:zak} {vs:List ZI} (ht:TOk n L t) (hn:n<=1000) (hv:VOk M vs):(ZI.of (valT t vs)).abs.length<=L+M+1:=val_len ht hn hv (fun _ h=>h) (Nat.le_refl _)
def zR:zb0:=⟨⟨[],⟨false,[]⟩⟩,false⟩
def cpR (r:zb0):zb0:=⟨za2 r.t,r.eq⟩
def zcq (b:Bool):za0:=⟨if b=true then 0 else 1,zR,[]⟩
def zd7 (r:zb0):za0:=⟨2,cpR r,[]⟩
def zee (t:zb0->zb0) (k:Int) (r:zb0) (cs:List za0):za0:=if k=0 then zcq true else if k=2 then ⟨2,t (cpR r),[]⟩ else if k=3\/k=4\/k=5 then ⟨k,zR,cnt k cs⟩ else zcq false
def za0.each (t:zb0->zb0) (f:za0):za0:=f.fold fun k r _ cs=>zee t k r cs
theorem za0.each_eq (t:zb0->zb0) (f:za0):f.each t=zee t f.kind f.r (f.kids.map (za0.each t)):=za0.fold_eq _ f
def za0.cl (f:za0):za0:=f.each id
theorem cl_eq (f:za0):f.cl=zee id f.kind f.r (f.kids.map za0.cl):=za0.each_eq id f
def denyF (f:za0):za0:=⟨3,zR,[f.cl]⟩
def zc7 (fs:List za0):za0:=⟨4,zR,fs.map za0.cl⟩
def za0.rels (P:zb0->Prop) (f:za0):Prop:=f.fold fun k r _ ps=>(k=2->P r)/\∀ p ∈ cnt k ps,p
theorem za0.rels_eq (P:zb0->Prop) (f:za0):f.rels P ↔ (f.kind=2->P f.r)/\∀ g ∈ cnt f.kind f.kids,g.rels P:=by
 have:=za0.fold_eq (fun k r _ (ps:List Prop)=>(k=2->P r)/\∀ p ∈ cnt k ps,p) f
 rw [zci] at this
 unfold za0.rels
 rw [this]
 refine and_congr_right fun _=>⟨fun h g hg=>h _ (List.mem_map.2 ⟨g,hg,rfl⟩),fun h p hp=>?_⟩
 obtain ⟨g,hg,rfl⟩:=List.mem_map.1 hp
 exact h g hg
theorem za0.rels_mono {P Q:zb0->Prop} (h:∀ r,P r->Q r) (f:za0):f.rels P->f.rels Q :=
 za0.ind (P:=fun f=>f.rels P->f.rels Q) (fun k r ks ih hf=>by
  rw [za0.rels_eq] at hf ⊢
  exact ⟨fun e=>h _ (hf.1 e),fun g hg=>ih g (zb3 hg) (hf.2 g hg)⟩) f
theorem cpR_cpR (r:zb0):cpR (cpR r)=cpR r:=by unfold cpR;rw [zcw]
theorem cnt_cnt {α:Type} (k:Int) (xs:List α):cnt k (cnt k xs)=cnt k xs:=by
 unfold cnt
 split
 ·rfl
 ·split
  ·rw [List.take_take];rfl
  ·rfl
theorem zf1 (t:zb0->zb0) {k:Int} (r:zb0) (cs:List za0) (h:k=3\/k=4\/k=5):zee t k r cs=⟨k,zR,cnt k cs⟩:=by
 unfold zee
 rw [if_neg (by omega),if_neg (by omega),if_pos h]
theorem zfr (t:zb0->zb0) {k:Int} (r:zb0) (cs:List za0) (h0:k≠0) (h2:k≠2) (h:¬ (k=3\/k=4\/k=5)):zee t k r cs=zcq false:=by
 unfold zee
 rw [if_neg h0,if_neg h2,if_neg h]
theorem each_atom (t:zb0->zb0) {f:za0} (h:f.kind=2):f.each t=⟨2,t (cpR f.r),[]⟩:=by rw [za0.each_eq,h];rfl
theorem each_nil (t:zb0->zb0):(zcq true).each t=zcq true/\(zcq false).each t=zcq false:=⟨by rw [za0.each_eq];rfl,by rw [za0.each_eq];rfl⟩
theorem each_cl (t:zb0->zb0) (f:za0):f.cl.each t=f.each t :=
 za0.ind (P:=fun f=>f.cl.each t=f.each t) (fun k r ks ih=>by
  have e1:(za0.mk k r ks).cl=zee id k r (ks.map za0.cl):=cl_eq _
  have e2:(za0.mk k r ks).each t=zee t k r (ks.map (za0.each t)):=za0.each_eq t _
  rw [e1,e2]
  by_cases h0:k=0
  ·subst h0;exact (each_nil t).1
  ·by_cases h2:k=2
   ·subst h2
    show (za0.mk 2 (cpR r) []).each t=_
    rw [za0.each_eq]
    show za0.mk 2 (t (cpR (cpR r))) []=_
    rw [cpR_cpR];rfl
   ·by_cases h3:k=3\/k=4\/k=5
    ·rw [zf1 _ _ _ h3,zf1 _ _ _ h3,za0.each_eq]
     show zee t k zR ((cnt k (ks.map za0.cl)).map (za0.each t))=_
     rw [zf1 _ _ _ h3,<- zci,cnt_cnt,List.map_map]
     congr 2
     exact List.map_congr_left fun g hg=>ih g hg
    ·rw [zfr _ _ _ h0 h2 h3,zfr _ _ _ h0 h2 h3];exact (each_nil t).2) f
theorem cl_cl (f:za0):f.cl.cl=f.cl:=each_cl id f
theorem con_pos {t:zak} (h:0<(za2 t).parts.length):0<zcs (za2 t).parts:=by
 have:=con_ne h
 have:=con_nonneg (za2 t).parts
 omega
theorem con_len' {n L:Nat} {t:zak} (ht:TOk n L t) (hn:n<=1000):(ZI.of (zcs (za2 t).parts)).abs.length<=L+1:=by
 have:=con_len ht hn (za2 t).parts.length
 rwa [List.take_length] at this
def neg1 (t:zak):zak:=zbk t (ZI.of (-1))
def firstN (t:zak):Bool:=match t.parts with | []=>false | p :: _=>decide (sgn p.c.val<0)
def zb8 (r:zb0):zb0 × Int :=
  if (za2 r.t).parts.length=0 then (zR,if (sgn r.t.k.val == 0 || (!r.eq && decide (sgn r.t.k.val>0)))=true then 1 else -1)
  else if r.eq=true/\r.t.k.val.fmod (zcs (za2 r.t).parts)≠0 then (zR,-1)
  else (⟨if (r.eq && firstN (zeq r.t))=true then neg1 (zeq r.t) else zeq r.t,r.eq⟩,0)
def zb1 (r:zb0):za0:=if (zb8 r).2=0 then ⟨2,(zb8 r).1,[]⟩ else zcq (decide ((zb8 r).2>0))
def lowR (t:zak):zb0:=⟨subT (neg1 t) (zcf (ZI.of 1)),false⟩
def zb9 (r:zb0):List zb0:=if r.eq=true then [lowR (neg1 r.t),lowR r.t] else [lowR r.t]
def zcm (k:Int):List za0->List za0->za0
  | [],out=>(match out with | []=>zcq (decide (k=4)) | [g]=>g | _=>⟨k,zR,out⟩)
  | f :: fs,out=>if (k=4/\f.kind=1)\/(k=5/\f.kind=0) then f else if f.kind=0\/f.kind=1 then zcm k fs out else if f.kind=k then zcm k fs (out++f.kids) else zcm k fs (out++[f])
def zf0 (k:Int) (fs:List za0):za0:=zcm k fs []
def flatK (k:Int) (r:zb0) (cs:List (Bool->za0)) (d:Bool):za0 :=
  if k=0 then zcq (!d) else if k=2 then (if d=true then zf0 5 ((zb9 r).map zb1) else zb1 r) else if k=3 then (match cs with | []=>zcq d | c :: _=>c (!d)) else if k=4\/k=5 then zf0 (if d=true then 9 - k else k) (cs.map fun c=>c d) else zcq d
def za0.flat (f:za0):Bool->za0:=f.fold fun k r _ cs=>flatK k r cs
theorem za0.flat_eq (f:za0) (d:Bool):f.flat d=flatK f.kind f.r (f.kids.map za0.flat) d:=congrFun (za0.fold_eq (fun k r _ (cs:List (Bool->za0))=>flatK k r cs) f) d
theorem zgr (t:zak):zcs (za2 (za2 t)).parts=zcs (za2 t).parts:=by rw [zcw]
theorem shr_plain2 (t:zak):zeq (za2 t)=zeq t:=by
 unfold zeq
 rw [zcw]
 split
 ·rfl
 ·show zak.mk _ (ZI.of ((ZI.of t.k.val).val.fdiv _))=_
  rw [ZI.val_of]
theorem kc_0:za4 Tryz.prog 62:=za4.mk' (by kernel_rfl)
theorem kc_2:za4 Tryz.prog 55:=za4.mk' (by kernel_rfl)
theorem kc_3:SlT Tryz.prog 140 32 4:=SlT.mk' Tryz.underlying140 (by kernel_rfl)
theorem kc_5:ElZ Tryz.prog 140 32 4:=ElZ.mk' Tryz.underlying140 _ _ rfl rfl (by kernel_rfl) (by kernel_rfl) (by kernel_rfl) (by decide)
theorem kc_6:za4 Tryz.prog 88:=za4.mk' (by kernel_rfl)
theorem kc_7:za4 Tryz.prog 56:=za4.mk' (by kernel_rfl)
def fltV (j:Nat) (ps:List za3):List za3:=ps.filter fun p=>decide (0<=p.v/\p.v<(j:Int))
theorem fltV_succ (vs:List ZI) (j:Nat):∀ ps:List za3,valP vs (fltV (j+1) ps)=valP vs (fltV j ps)+zao ps j*valAt vs j
 | []=>by simp [fltV,valP,zao]
 | p :: ps=>by
  have ih:=fltV_succ vs j ps
  simp only [fltV] at ih ⊢
  simp only [List.filter_cons,zao,Int.add_mul]
  by_cases h1:0<=p.v/\p.v<(j:Int)
  ·rw [if_pos (decide_eq_true (by omega)),if_pos (decide_eq_true h1),if_neg (by omega)]
   simp only [valP,ih];omega
  ·by_cases h2:p.v=(j:Int)
   ·rw [if_pos (decide_eq_true (by omega)),if_neg (by simpa using h1),if_pos (by omega)]
    simp only [valP,ih,h2];omega
   ·rw [if_neg (by rw [decide_eq_true_eq];omega),if_neg (by simpa using h1),if_neg (by omega),ih];omega
theorem fltV_all (vs:List ZI):∀ ps:List za3,valP vs (fltV vs.length ps)=valP vs ps
 | []=>rfl
 | p :: ps=>by
  have ih:=fltV_all vs ps
  simp only [fltV] at ih ⊢
  simp only [List.filter_cons]
  by_cases h1:0<=p.v/\p.v<(vs.length:Int)
  ·rw [if_pos (decide_eq_true h1)];simp only [valP,ih]
  ·rw [if_neg (by simpa using h1),ih,valP]
   by_cases h2:0<=p.v
   ·rw [valAt_out (by omega)];omega
   ·rw [valAt_neg (by omega)];omega
theorem fltV_zero (ps:List za3):fltV 0 ps=[]:=by
 unfold fltV;rw [List.filter_eq_nil_iff];intro p _;rw [decide_eq_true_eq];omega
theorem fltV_mem {j:Nat} {ps:List za3}:∀ p ∈ fltV j ps,p ∈ ps:=fun _p hp=>(List.mem_filter.1 hp).1
theorem fltV_len (j:Nat) (ps:List za3):(fltV j ps).length<=ps.length:=List.length_filter_le _ _
theorem SSize0 (f:za0) (lim:Int) (ih:∀ g ∈ f.kids,∀ l:Int,0<=l->l<=1000->Fn Tryz.prog 55 [] [(vF g),vI l] (vI (g.size l)) []) (h0:0<=lim) (h1:lim<=1000) (hk:f.kids.length<=9223372036854775807):Fn Tryz.prog 55 [] [(vF f),vI lim] (vI (f.size lim)) []:=by
 have lk:=cnt_len f.kind f.kids;refine Fn.body Tryz.func55 rfl 32 rfl fun w H B a h=>Jq 0 [] [(1,vI lim),(2,vp 0 0),(4,vI 0)] [(0,.box (zF f))] h fun a w h=>Je 1 [] [] [(5,vI 1)] h fun a w h=>Jd 1 [(1,.call (SKids f) kc_0)] [2] [(6,(vFs (cnt f.kind f.kids)))] [] h fun a w h=>qW (Jd 1 [] [] [(7,vI 0)] [] h fun a w h=>qZ ?_)
 refine zaq (ι:=(Nat) × (Int)) (fun (j,n)=>j<=(cnt f.kind f.kids).length/\f.size lim=zcv lim (((cnt f.kind f.kids).map za0.size).drop j) n/\1<=n/\n<=lim+1)
   (fun (j,n)=>[(1,vI lim),(4,vI 0),(5,vI n),(6,(vFs (cnt f.kind f.kids))),(7,vN j)])
   (fun (j,n)=>[])
   (fun (j,n)=>(cnt f.kind f.kids).length - j) (0,1) ?_ h (by kernel_rfl) (by kernel_rfl) ?_
 ·exact ⟨Nat.zero_le _,za0.size_eq f lim,by omega,by omega⟩
 clear h;rintro ⟨j,n⟩ a w hI h;dsimp only at h;obtain ⟨hI1,hI2,hI3,hI4⟩:=hI;refine qW ?_
 rcases Bool.eq_false_or_eq_true (decide ((j:Int)<((cnt f.kind f.kids).length:Int))) with hc1 | hc4
 ·have hc1':=dT hc1;refine Jd 1 [(2,.len (za6 6 za0.d (cnt f.kind f.kids))),(3,.cmp (op:=.lss) (m:=(j:Int)) (n:=((cnt f.kind f.kids).length:Int)) (b:=true) .i64 hc1)] [] [(18,vb (decide (n<=lim)))] [] h fun a w h=>zam (n<=lim) h (fun hc2 hc2'=>?_) (fun hc3 hc3'=>?_)
  ·refine qU (za1 (qW (qZ ?_)));obtain ⟨x2,hx2⟩:=gl (cnt f.kind f.kids) j;have bz:0<=lim - n->1<=x2.size (lim - n)/\x2.size (lim - n)<=lim - n+1:=x2.size_bd (lim - n);refine Jm 1 [(3,.g (xD 24 22 ziz ((zab hx2 (f:=za0.d)).trans (congrArg some (za0.d_eq x2))) (OV.tmp 23 _))),(7,.sub .i64 (m:=lim) (n:=n) i6),(8,.call (ih x2 (zb3 (lM hx2)) (lim - n) (by omega) (by omega)) kc_2),(9,.add .i64 (m:=n) (n:=(x2.size (lim - n))) i6)] [18] [(5,vI (n+(x2.size (lim - n))))] [] h fun a w h=>za9 (za1 (Jm 1 [(1,.j1 j)] [] [(7,vI ((j:Int)+1))] [] h fun a w h=>za1 (zag (x:=(j,n)) (y:=((j+1),n+x2.size (lim - n))) h ?_ ?_)))
   ·exact ⟨by have:=zaj hx2;omega,by rw [hI2,sizeGo_at (zab hx2 (f:=za0.size)) (by omega)],by have:=bz (by omega);omega,by have:=bz (by omega);omega⟩
   show (cnt f.kind f.kids).length - (j+1)<(cnt f.kind f.kids).length - j;have:=zaj hx2;omega
  refine wp_exit (zaa (zaa (za5 (za1 (Jq 1 [] [(4,vI n)] [] h fun a w h=>qV (rT (.c (cI n)) h rfl ?_))))))
  have hz:f.size lim=n:=by
   rw [hI2];refine sizeGo_out ?_
   by_cases hn:n<=lim
   ·right;exact List.drop_of_length_le (by rw [List.length_map];first | omega | (simp_all;omega))
   exact .inl hn
  rw [hz];try rfl
 have hc4':=dF hc4;refine Jd 1 [(2,.len (za6 6 za0.d (cnt f.kind f.kids))),(3,.cmp (op:=.lss) (m:=(j:Int)) (n:=((cnt f.kind f.kids).length:Int)) (b:=false) .i64 hc4)] [] [(18,vb false)] [] h fun a w h=>zap false h rfl nofun (fun _=>wp_exit (zaa (zaa (za5 (za1 (Jq 1 [] [(4,vI n)] [] h fun a w h=>qV (rT (.c (cI n)) h rfl ?_)))))))
 have hz:f.size lim=n:=by
  rw [hI2];refine sizeGo_out ?_
  by_cases hn:n<=lim
  ·right;exact List.drop_of_length_le (by rw [List.length_map];first | omega | (simp_all;omega))
  exact .inl hn
 rw [hz];try rfl
theorem SSize (f:za0):f.lb->∀ lim:Int,0<=lim->lim<=1000->Fn Tryz.prog 55 [] [(vF f),vi .i64 lim] (vi .i64 (f.size lim)) [] :=
 za0.ind (P:=fun f=>f.lb->∀ lim:Int,0<=lim->lim<=1000->Fn Tryz.prog 55 [] [(vF f),vi .i64 lim] (vi .i64 (f.size lim)) []) (fun k r ks ih hl lim h0 h1=>by
  have hl:=(za0.lb_eq _).1 hl
  exact SSize0 ⟨k,r,ks⟩ lim (fun g hg l g0 g1=>ih g hg (hl.2 g hg) l g0 g1) h0 h1 hl.1.2) f
def zi3 (rs:List zb0) (most L:Int):Bool:=decide ((rs.length:Int)<=most) && rs.all (fewR L)
theorem SFewRs (rs:List zb0) (most L:Int) (hl:rs.length<=9223372036854775807):Fn Tryz.prog 88 [] [(vRs rs),vI most,vI L] (vb (zi3 rs most L)) []:=by
 refine Fn.body Tryz.func88 rfl 64 rfl fun w H B a h=>Jq 0 [] [(0,(vRs rs)),(1,vI most),(2,vI L),(6,vb false)] [] h fun a w h=>qW (Jd 0 [(1,.len (za6 4 zb0.d rs))] [1] [(12,vb (decide ((rs.length:Int)>most)))] [] h fun a w h=>zam ((rs.length:Int)>most) h (fun hc1 hc1'=>?_) (fun hc2 hc2'=>?_))
 ·refine Jd 0 [] [12] [] [] h fun a w h=>qV (za7 (rT (.c (cB false)) h rfl ?_));rw [show zi3 rs most L=false from by unfold zi3;rw [decide_eq_false (by have:=dT hc1;omega)];rfl];try rfl
 refine qU (za1 (qW (Jd 0 [] [12] [(7,vI 0)] [] h fun a w h=>qZ ?_)))
 refine zaq (ι:=(Nat)) (fun j=>j<=rs.length/\(rs.take j).all (fewR L)=true)
   (fun j=>[(0,(vRs rs)),(2,vI L),(7,vN j)])
   (fun j=>[])
   (fun j=>rs.length - j) 0 ?_ h (by kernel_rfl) (by kernel_rfl) ?_
 ·exact ⟨Nat.zero_le _,rfl⟩
 clear h;rintro j a w hI h;obtain ⟨hI1,hI2⟩:=hI;refine qW (Jd 0 [(2,.len (za6 4 zb0.d rs))] [] [(16,vb (decide ((j:Int)<(rs.length:Int))))] [] h fun a w h=>zam ((j:Int)<(rs.length:Int)) h (fun hc3 hc3'=>?_) (fun hc12 hc12'=>?_))
 ·refine qU (za1 (qW (qZ (qW ?_))));obtain ⟨x1,hx1⟩:=gl rs j
  rcases Bool.eq_false_or_eq_true (decide ((x1.t.parts.length:Int)>20)) with hc4 | hc5
  ·have hc4':=dT hc4;refine Jd 0 [(2,.g (xD 21 19 kc_3 (zab hx1 (f:=zb0.d)) (OV.tmp 20 _))),(6,.len (za6 3 za3.d x1.t.parts)),(7,.cmp (op:=.gtr) (m:=(x1.t.parts.length:Int)) (n:=20) (b:=true) .i64 hc4)] [16] [(38,vb true)] [] h fun a w h=>cS true h (fun _=>?_) nofun
   refine Jd 0 [] [38] [(6,vb false)] [] h fun a w h=>qV (za7 (zae (za7 (za7 (zae (za7 (rT (.c (cB false)) h rfl ?_)))))));rw [show zi3 rs most L=false from by unfold zi3;rw [zbl hx1 (show fewR L x1=false from by rw [fewR,decide_eq_false (by have:=dT hc4;omega)];rfl),Bool.and_false]];try rfl
  have hc5':=dF hc5;refine Jd 0 [(2,.g (xD 21 19 kc_3 (zab hx1 (f:=zb0.d)) (OV.tmp 20 _))),(6,.len (za6 3 za3.d x1.t.parts)),(7,.cmp (op:=.gtr) (m:=(x1.t.parts.length:Int)) (n:=20) (b:=false) .i64 hc5),(11,.g (xD 30 28 kc_3 (zab hx1 (f:=zb0.d)) (OV.tmp 29 _))),(16,.len (ze1 x1.t.k.abs))] [16] [(38,vb (decide ((x1.t.k.abs.length:Int)>L)))] [] h fun a w h=>zam ((x1.t.k.abs.length:Int)>L) h (fun hc6 hc6'=>?_) (fun hc7 hc7'=>?_)
  ·refine Jd 0 [] [38] [(6,vb false)] [] h fun a w h=>qV (za7 (zae (za7 (za7 (zae (za7 (rT (.c (cB false)) h rfl ?_)))))));rw [show zi3 rs most L=false from by unfold zi3;rw [zbl hx1 (show fewR L x1=false from by rw [fewR,decide_eq_false (p:=(_:Int)<=L) (by have:=dT hc6;omega),Bool.and_false];rfl),Bool.and_false]];try rfl
  refine qU (za1 (Jd 0 [] [38] [(8,vI 0)] [] h fun a w h=>qZ ?_));have hjr:=hI1
  refine zaq (ι:=(Nat)) (fun i=>i<=x1.t.parts.length/\(x1.t.parts.take i).all (fun p=>decide ((p.c.abs.length:Int)<=L))=true)
    (fun i=>[(0,(vRs rs)),(2,vI L),(7,vN j),(8,vN i)])
    (fun i=>[])
    (fun i=>x1.t.parts.length - i) 0 ?_ h (by kernel_rfl) (by kernel_rfl) ?_
  ·exact ⟨Nat.zero_le _,rfl⟩
  clear h;rintro i a w hI h;obtain ⟨hJ1,hJ2⟩:=hI;refine qW (Jd 0 [(3,.g (xD 42 40 kc_3 (zab hx1 (f:=zb0.d)) (OV.tmp 41 _))),(7,.len (za6 3 za3.d x1.t.parts))] [] [(47,vb (decide ((i:Int)<(x1.t.parts.length:Int))))] [] h fun a w h=>zam ((i:Int)<(x1.t.parts.length:Int)) h (fun hc8 hc8'=>?_) (fun hc11 hc11'=>?_))
  ·refine qU (za1 (qW (qZ ?_)));obtain ⟨x2,hx2⟩:=gl x1.t.parts i;refine Jd 0 [(2,.g (xD 52 50 kc_3 (zab hx1 (f:=zb0.d)) (OV.tmp 51 _))),(7,.g (xD 57 55 zcb (zab hx2 (f:=za3.d)) (OV.tmp 56 _))),(11,.len (ze1 x2.c.abs))] [47] [(63,vb (decide ((x2.c.abs.length:Int)>L)))] [] h fun a w h=>zam ((x2.c.abs.length:Int)>L) h (fun hc9 hc9'=>?_) (fun hc10 hc10'=>?_)
   ·refine Jd 0 [] [63] [(6,vb false)] [] h fun a w h=>qV (zae (za7 (za7 (zae (zae (za7 (za7 (zae (za7 (rT (.c (cB false)) h rfl ?_))))))))));rw [show zi3 rs most L=false from by unfold zi3;rw [zbl hx1 (show fewR L x1=false from by rw [fewR,zbl hx2 (decide_eq_false (by have:=dT hc9;omega)),Bool.and_false]),Bool.and_false]];try rfl
   refine qU (za9 (za1 (Jm 0 [(1,.j1 i)] [63] [(8,vI ((i:Int)+1))] [] h fun a w h=>za1 (zag (x:=i) (y:=i+1) h ?_ ?_))))
   ·exact ⟨by have:=zaj hx2;omega,zco hx2 hJ2 (decide_eq_true (by have:=dF hc10;omega))⟩
   show x1.t.parts.length - (i+1)<x1.t.parts.length - i;have:=zaj hx2;omega
  refine wp_exit (zaa (zaa (za5 (za9 (za1 (Jm 0 [(1,.j1 j)] [8,47] [(7,vI ((j:Int)+1))] [] h fun a w h=>za1 (zag (x:=j) (y:=j+1) h ?_ ?_)))))))
  ·exact ⟨by have:=zaj hx1;omega,zco hx1 hI2 (by rw [fewR,decide_eq_true (by have:=dF hc5;omega),decide_eq_true (by have:=dF hc7;omega),zcu (dF hc11) hJ2];rfl)⟩
  show rs.length - (j+1)<rs.length - j;have:=zaj hx1;omega
 refine wp_exit (zaa (zaa (za5 (za1 (Jq 0 [] [(6,vb true)] [] h fun a w h=>qV (rT (.c (cB true)) h rfl ?_))))));rw [show zi3 rs most L=true from by unfold zi3;rw [decide_eq_true (by have:=dF hc2;omega),zcu (dF hc12) hI2];rfl];try rfl
theorem fewRs_one (r:zb0) (L:Int):zi3 [r] 1 L=fewR L r:=by simp [zi3]
theorem Sfew0 (f:za0) (L:Int) (ih:∀ g ∈ f.kids,Fn Tryz.prog 56 [] [(vF g),vI L] (vb (g.few L)) []) (hk:f.kids.length<=9223372036854775807):Fn Tryz.prog 56 [] [(vF f),vI L] (vb (f.few L)) []:=by
 have lk:=cnt_len f.kind f.kids;refine Fn.body Tryz.func56 rfl 33 rfl fun w H B a h=>Jq 0 [] [(1,vI L),(2,vp 0 0),(4,vb false)] [(0,.box (zF f))] h fun a w h=>qW ?_
 rcases Bool.eq_false_or_eq_true (f.kind == 2) with hc1 | hc8
 ·have hc1':=hc1;(try simp at hc1');refine Je 1 [(2,.cmp (op:=.eql) (m:=f.kind) (n:=2) (b:=true) .i64 hc1),(6,.g (bD 13 ([f.r].map zb0.d) [(12,(vR f.r))] kc_5 (.cons (i:=0) (OV.tmp 12 _) (.nil)) (by kernel_rfl) (by simp [zb0.d]))),(8,.call (Fn.cast (SFewRs [f.r] 1 L (by simp)) (congrArg vb (fewRs_one f.r L))) kc_6)] [] [(17,vb (!(fewR L f.r)))] h fun a w h=>cS (!(fewR L f.r)) h (fun hc2=>?_) (fun hc3=>?_)
  ·have hc2':=hc2;(try simp at hc2');refine Je 1 [] [17] [] h fun a w h=>qV (za7 (rT (.c (cB false)) h rfl ?_));have hz:f.few L=false:=by rw [za0.few_eq,(show (!(f.kind == 2) || fewR L f.r)=false from by rw [hc1];rw [(show (fewR L f.r)=false from by simpa using hc2)];rfl)];rfl
   rw [hz];try rfl
  have hc3':=hc3;(try simp at hc3');refine qU (za1 (Jd 1 [(1,.call (SKids f) kc_0)] [2,17] [(5,(vFs (cnt f.kind f.kids)))] [] h fun a w h=>qW (Jd 1 [] [] [(6,vI 0)] [] h fun a w h=>qZ ?_)))
  refine zaq (ι:=(Nat)) (fun j=>j<=(cnt f.kind f.kids).length/\((cnt f.kind f.kids).take j).all (za0.few L)=true)
    (fun j=>[(1,vI L),(5,(vFs (cnt f.kind f.kids))),(6,vN j)])
    (fun j=>[])
    (fun j=>(cnt f.kind f.kids).length - j) 0 ?_ h (by kernel_rfl) (by kernel_rfl) ?_
  ·exact ⟨Nat.zero_le _,rfl⟩
  clear h;rintro j a w hI h;obtain ⟨hI1,hI2⟩:=hI;refine qW (Jd 1 [(2,.len (za6 6 za0.d (cnt f.kind f.kids)))] [] [(23,vb (decide ((j:Int)<((cnt f.kind f.kids).length:Int))))] [] h fun a w h=>zam ((j:Int)<((cnt f.kind f.kids).length:Int)) h (fun hc4 hc4'=>?_) (fun hc7 hc7'=>?_))
  ·refine qU (za1 (qW (qZ ?_)));obtain ⟨x3,hx3⟩:=gl (cnt f.kind f.kids) j;refine Jd 1 [(2,.g (xD 28 26 ziz ((zab hx3 (f:=za0.d)).trans (congrArg some (za0.d_eq x3))) (OV.tmp 27 _))),(5,.call (ih x3 (zb3 (lM hx3))) kc_7)] [23] [(32,vb (!(za0.few L x3)))] [] h fun a w h=>cS (!(za0.few L x3)) h (fun hc5=>?_) (fun hc6=>?_)
   ·have hc5':=hc5;(try simp at hc5');refine Jd 1 [] [32] [(4,vb false)] [] h fun a w h=>qV (zae (za7 (za7 (zae (za7 (rT (.c (cB false)) h rfl ?_))))));have hz:f.few L=false:=by rw [za0.few_eq,zbl hx3 (show (za0.few L x3)=false from by simpa using hc5),Bool.and_false]
    rw [hz];try rfl
   have hc6':=hc6;(try simp at hc6');refine qU (za9 (za1 (Jm 1 [(1,.j1 j)] [32] [(6,vI ((j:Int)+1))] [] h fun a w h=>za1 (zag (x:=j) (y:=j+1) h ?_ ?_))))
   ·exact ⟨by have:=zaj hx3;omega,zco hx3 hI2 (show (za0.few L x3)=true from by simpa using hc6)⟩
   show (cnt f.kind f.kids).length - (j+1)<(cnt f.kind f.kids).length - j;have:=zaj hx3;omega
  refine wp_exit (zaa (zaa (za5 (za1 (Jq 1 [] [(4,vb true)] [] h fun a w h=>qV (rT (.c (cB true)) h rfl ?_))))));have hz:f.few L=true:=by rw [za0.few_eq,(show (!(f.kind == 2) || fewR L f.r)=true from by rw [hc1];rw [(show (fewR L f.r)=true from by simpa using hc3)];rfl),zcu (dF hc7) hI2];rfl
  rw [hz];try rfl
 have hc8':=hc8;(try simp at hc8');refine Je 1 [(2,.cmp (op:=.eql) (m:=f.kind) (n:=2) (b:=false) .i64 hc8)] [] [(17,vb false)] h fun a w h=>zap false h rfl nofun (fun _=>qU (za1 (Jd 1 [(1,.call (SKids f) kc_0)] [2,17] [(5,(vFs (cnt f.kind f.kids)))] [] h fun a w h=>qW (Jd 1 [] [] [(6,vI 0)] [] h fun a w h=>qZ ?_))))
 refine zaq (ι:=(Nat)) (fun j=>j<=(cnt f.kind f.kids).length/\((cnt f.kind f.kids).take j).all (za0.few L)=true)
   (fun j=>[(1,vI L),(5,(vFs (cnt f.kind f.kids))),(6,vN j)])
   (fun j=>[])
   (fun j=>(cnt f.kind f.kids).length - j) 0 ?_ h (by kernel_rfl) (by kernel_rfl) ?_
 ·exact ⟨Nat.zero_le _,rfl⟩
 clear h;rintro j a w hI h;obtain ⟨hI1,hI2⟩:=hI;refine qW (Jd 1 [(2,.len (za6 6 za0.d (cnt f.kind f.kids)))] [] [(23,vb (decide ((j:Int)<((cnt f.kind f.kids).length:Int))))] [] h fun a w h=>zam ((j:Int)<((cnt f.kind f.kids).length:Int)) h (fun hc9 hc9'=>?_) (fun hc12 hc12'=>?_))
 ·refine qU (za1 (qW (qZ ?_)));obtain ⟨x6,hx6⟩:=gl (cnt f.kind f.kids) j;refine Jd 1 [(2,.g (xD 28 26 ziz ((zab hx6 (f:=za0.d)).trans (congrArg some (za0.d_eq x6))) (OV.tmp 27 _))),(5,.call (ih x6 (zb3 (lM hx6))) kc_7)] [23] [(32,vb (!(za0.few L x6)))] [] h fun a w h=>cS (!(za0.few L x6)) h (fun hc10=>?_) (fun hc11=>?_)
  ·have hc10':=hc10;(try simp at hc10');refine Jd 1 [] [32] [(4,vb false)] [] h fun a w h=>qV (zae (za7 (za7 (zae (za7 (rT (.c (cB false)) h rfl ?_))))));have hz:f.few L=false:=by rw [za0.few_eq,zbl hx6 (show (za0.few L x6)=false from by simpa using hc10),Bool.and_false]
   rw [hz];try rfl
  have hc11':=hc11;(try simp at hc11');refine qU (za9 (za1 (Jm 1 [(1,.j1 j)] [32] [(6,vI ((j:Int)+1))] [] h fun a w h=>za1 (zag (x:=j) (y:=j+1) h ?_ ?_))))
  ·exact ⟨by have:=zaj hx6;omega,zco hx6 hI2 (show (za0.few L x6)=true from by simpa using hc11)⟩
  show (cnt f.kind f.kids).length - (j+1)<(cnt f.kind f.kids).length - j;have:=zaj hx6;omega
 refine wp_exit (zaa (zaa (za5 (za1 (Jq 1 [] [(4,vb true)] [] h fun a w h=>qV (rT (.c (cB true)) h rfl ?_))))));have hz:f.few L=true:=by rw [za0.few_eq,(show (!(f.kind == 2) || fewR L f.r)=true from by rw [hc8];rfl),zcu (dF hc12) hI2];rfl
 rw [hz];try rfl
theorem Sfew (L:Int) (f:za0):f.lb->Fn Tryz.prog 56 [] [(vF f),vi .i64 L] (vb (f.few L)) [] :=
 za0.ind (P:=fun f=>f.lb->Fn Tryz.prog 56 [] [(vF f),vi .i64 L] (vb (f.few L)) []) (fun k r ks ih hl=>by
  have hl:=(za0.lb_eq _).1 hl
  exact Sfew0 ⟨k,r,ks⟩ L (fun g hg=>ih g hg (hl.2 g hg)) hl.1.2) f
theorem SFewF (f:za0) (most L:Int) (hl:f.lb) (h0:0<=most) (h1:most<=1000):Fn Tryz.prog 24 [] [(vF f),vI most,vI L] (vb (zi4 f most L)) []:=by
 refine Fn.body Tryz.func24 rfl 15 rfl fun w H B a h=>Jq 0 [] [(1,vI most),(2,vI L),(3,vp 0 0),(6,vb false)] [(0,.box (zF f))] h fun a w h=>qW (Je 1 [(2,.call (SSize f hl most h0 h1) kc_2)] [1] [(11,vb (decide (f.size most>most)))] h fun a w h=>zam (f.size most>most) h (fun hc1 hc1'=>?_) (fun hc2 hc2'=>?_))
 ·refine Je 1 [] [11] [] h fun a w h=>qV (za7 (rT (.c (cB false)) h rfl ?_));unfold zi4;rw [hc1];try rfl
 refine qU (za1 (Jq 1 [(2,.call (Sfew L f hl) kc_7)] [(6,vb (f.few L))] [] h fun a w h=>qV (rT (.c (cB (f.few L))) h rfl ?_)));unfold zi4;rw [hc2];try rfl
theorem SRValue (t:zak) (vs:List ZI) {n L M:Nat} (ht:TOk n L t) (hn:n<=1000) (hL:L+M<=20000) (hv:VOk M vs):Fn Tryz.prog 50 [] [(vT t),(vZs vs)] (vz (ZI.of (valT t vs))) []:=by
 have kt:=ht.kl;have lnv:=hv.1;refine Fn.body Tryz.func50 rfl 27 rfl fun w H B a h=>Jq 0 [] [(1,(vZs vs)),(2,vp 0 0),(4,vp 1 0)] [(0,.box (zT t)),(1,.box [cB false,.d (nsl [])])] h fun a w h=>Jd 2 [] [] [(5,vp 2 0)] [(0,.box (zT t)),(1,.box [cB false,.d (nsl [])]),(2,.box (zi t.k))] h fun a w h=>qW (Je 3 [] [] [(6,vI 0)] h fun a w h=>qZ ?_)
 refine zaq (ι:=(Nat) × (ZI)) (fun (j,out)=>j<=vs.length/\out.val=t.k.val+valP vs (fltV j t.parts)/\Lb out.abs/\out.abs.length<=L+M+2)
   (fun (j,out)=>[(1,(vZs vs)),(2,vp 0 0),(4,vp 1 0),(5,vp 2 0),(6,vN j)])
   (fun (j,out)=>[(0,.box (zT t)),(1,.box [cB false,.d (nsl [])]),(2,.box (zi out))])
   (fun (j,out)=>vs.length - j) (0,t.k) ?_ h (by kernel_rfl) (by kernel_rfl) ?_
 ·exact ⟨Nat.zero_le _,by rw [fltV_zero];simp [valP],ht.kb,by omega⟩
 clear h;rintro ⟨j,out⟩ a w hI h;dsimp only at h;obtain ⟨hI1,vo,ho,lo⟩:=hI;refine qW (Je 3 [(2,.len (za6 2 ziD vs))] [] [(12,vb (decide ((j:Int)<(vs.length:Int))))] h fun a w h=>zam ((j:Int)<(vs.length:Int)) h (fun hc1 hc1'=>?_) (fun hc2 hc2'=>?_))
 ·refine qU (za1 (qW (qZ ?_)));obtain ⟨r1,er1,vr1,or1,lr1⟩:=mkZ (v:=zao t.parts (j:Int)) (m:=L+1) (zfc (ht.mono hn (Nat.le_refl L)).psok (j:Int));obtain ⟨x2,hx2⟩:=gl vs j;obtain ⟨ox2,lx2⟩:=hv.get hx2;obtain ⟨r3,er3,vr3,or3,lr3⟩:=mkZ (v:=r1.val*x2.val) (m:=r1.abs.length+x2.abs.length) (len_mul or1 ox2);obtain ⟨r4,er4,vr4,or4,lr4⟩:=mkZ (v:=out.val+r3.val) (m:=out.abs.length+r3.abs.length+1) (zdl ho or3);refine Jm 3 [(3,.call (Fn.cast (SCoef t (j:Int) (ht.mono hn (show L<=40000 by omega)).psok) (congrArg vz er1.symm)) tb_4),(6,.g (xD 21 19 tt_6 (zab hx2 (f:=ziD)) (OV.tmp 20 _))),(8,.call (Fn.cast (SRMul r1 x2 or1 ox2 (by omega) (by omega)) (congrArg vz er3.symm)) zs_18),(9,.call (Fn.cast (SRAdd out r3 ho or3 (by omega) (by omega)) (congrArg vz er4.symm)) ib_5)] [12] [] [(0,.box (zT t)),(1,.box [cB false,.d (nsl [])]),(2,.box (zi r4))] h fun a w h=>za9 (za1 (Jf 3 [(1,.j1 j)] [] [(6,vI ((j:Int)+1))] h fun a w h=>za1 (zag (x:=(j,out)) (y:=((j+1),r4)) h ?_ ?_)))
  ·have:=zaj hx2;have hvz:r4.val=t.k.val+valP vs (fltV (j+1) t.parts):=by rw [vr4,vr3,vr1,vo,fltV_succ,valAt_some (v:=(j:Int)) rfl hx2,Int.add_assoc]
   exact ⟨by omega,hvz,or4,by rw [er4];exact Nat.le_trans (by rw [<- vr4,hvz];exact val_len ht hn hv fltV_mem (fltV_len _ _)) (by omega)⟩
  show vs.length - (j+1)<vs.length - j;have:=zaj hx2;omega
 refine wp_exit (zaa (zaa (za5 (za1 ?_))));obtain ⟨r5,er5,vr5,or5,lr5⟩:=mkZ (v:=out.val) (m:=out.abs.length) (zd1 ho);refine Jq 3 [(1,.call (Fn.cast (SRClean out ho (by omega)) (congrArg vz er5.symm)) tb_7)] [(4,vp 1 0)] [(1,.box (zi r5))] h fun a w h=>qV (rA 1 (zi r5) h zed rfl ?_);have hz:out.val=valT t vs:=by rw [vo,show j=vs.length by first | omega | (simp_all;omega),fltV_all];rfl
 first | (rw [er5,hz];done) | (rw [er5,hz];rfl) | (rw [hz];done) | (rw [hz];rfl)
theorem ke_2:za4 Tryz.prog 50:=za4.mk' (by kernel_rfl)
theorem ke_9:za4 Tryz.prog 40:=za4.mk' (by kernel_rfl)
theorem ke_10:za4 Tryz.prog 12:=za4.mk' (by kernel_rfl)
theorem zh6 {α:Type} {xs:List α} {x:α} (h:xs[0]?=some x):x ∈ xs.take 1:=by
 cases xs with
 | nil=>cases h
 | cons y ys=>simp at h;subst h;simp
theorem cons_of_at {α:Type} {xs:List α} {x:α} (h:xs[0]?=some x):∃ tl,xs=x :: tl:=by
 cases xs with
 | nil=>cases h
 | cons y ys=>simp at h;subst h;exact ⟨ys,rfl⟩
theorem la_1:Sz Tryz.prog 32 4 true:=Sz.mk' (by kernel_rfl) Tryz.underlying32 _ rfl
theorem la_2:za4 Tryz.prog 112:=za4.mk' (by kernel_rfl)
theorem zch:Sz Tryz.prog 35 6 true:=Sz.mk' (by kernel_rfl) Tryz.underlying35 _ rfl
theorem la_5:za4 Tryz.prog 99:=za4.mk' (by kernel_rfl)
theorem la_7:ElT Tryz.prog 33 35 6 96:=ElT.mk' Tryz.underlying33 _ _ rfl rfl (by kernel_rfl) (by kernel_rfl) (by kernel_rfl) (by decide) (by decide)
theorem la_8:za4 Tryz.prog 42:=za4.mk' (by kernel_rfl)
theorem la_9:za4 Tryz.prog 72:=za4.mk' (by kernel_rfl)
theorem la_10:za4 Tryz.prog 129:=za4.mk' (by kernel_rfl)
theorem la_11:za4 Tryz.prog 77:=za4.mk' (by kernel_rfl)
theorem zg8 {α β:Type} {f:α->β} {xs:List α} {j:Nat} {x:α} (h:xs[j]?=some x):(xs.take j).map f++[f x]=(xs.take (j+1)).map f:=by rw [List.take_add_one,h,List.map_append];rfl
def zroR (t:zak):zb0:=⟨za2 t,true⟩
def leaR (t:zak):zb0:=⟨za2 t,false⟩
theorem LZero (t:zak) (ht:TOk 1000 10000 t):Fn Tryz.prog 73 [] [(vT t)] (vR (zroR t)) []:=by
 refine Fn.body Tryz.func73 rfl 6 rfl fun w H B a h=>Jq 0 [] [(1,vp 0 0),(2,vp 1 0)] [(0,.box (zT t)),(1,.box zR0)] h fun a w h=>Jd 2 [(1,.call (zfi t ht (by decide) (by decide)) tm_7)] [1] [] [(1,.box ((zT (za2 t))++[cB true]))] h fun a w h=>qV (rA 1 ((zT (za2 t))++[cB true]) h la_1 rfl ?_)
 rfl
theorem LLeast (t:zak) (ht:TOk 1000 10000 t):Fn Tryz.prog 121 [] [(vT t)] (vR (leaR t)) []:=by
 refine Fn.body Tryz.func121 rfl 6 rfl fun w H B a h=>Jq 0 [] [(1,vp 0 0),(2,vp 1 0)] [(0,.box (zT t)),(1,.box zR0)] h fun a w h=>Jd 2 [(1,.call (zfi t ht (by decide) (by decide)) tm_7)] [1] [] [(1,.box ((zT (za2 t))++[cB false]))] h fun a w h=>qV (rA 1 ((zT (za2 t))++[cB false]) h la_1 rfl ?_)
 rfl
theorem Lcopied (r:zb0) (hr:TOk 1000 10000 r.t):Fn Tryz.prog 112 [] [(vR r)] (vR (cpR r)) []:=by
 refine Fn.body Tryz.func112 rfl 9 rfl fun w H B a h=>Jq 0 [] [(1,vp 0 0),(2,vp 1 0)] [(0,.box (zR_ r)),(1,.box zR0)] h fun a w h=>Jd 2 [(2,.call (zfi r.t hr (by decide) (by decide)) tm_7)] [1] [] [(1,.box ((zT (za2 r.t))++[cB r.eq]))] h fun a w h=>qV (rA 1 ((zT (za2 r.t))++[cB r.eq]) h la_1 rfl ?_)
 rfl
theorem LOf (r:zb0) (hr:TOk 1000 10000 r.t):Fn Tryz.prog 72 [] [(vR r)] (vF (zd7 r)) []:=by
 refine Fn.body Tryz.func72 rfl 6 rfl fun w H B a h=>Jq 0 [] [(1,vp 0 0),(2,vp 1 0)] [(0,.box (zR_ r)),(1,.box zF0)] h fun a w h=>Jd 2 [(1,.call (Lcopied r hr) la_2)] [1] [] [(1,.box ([cI 2,cPs (cpR r).t.parts]++zi (cpR r).t.k++[cB (cpR r).eq,.d (.raw zaf)]))] h fun a w h=>qV ?_
 replace h:=zbm 1 5 6 ([cI 2,cPs (cpR r).t.parts]++zi (cpR r).t.k++[cB (cpR r).eq,.d (.raw zaf)]) [(2,vp 1 0)] [(1,.box ([cI 2,cPs (cpR r).t.parts]++zi (cpR r).t.k++[cB (cpR r).eq,cFs []]))] h rfl rfl;refine rA 1 ([cI 2,cPs (cpR r).t.parts]++zi (cpR r).t.k++[cB (cpR r).eq,cFs []]) h zch rfl ?_;rfl
theorem zfz (b:Bool) :Fn Tryz.prog 42 [] [vb b] (vF (zcq b)) []:=by
 refine Fn.body Tryz.func42 rfl 6 rfl fun w H B a h=>Jq 0 [] [(0,vb b),(2,vp 0 0)] [(0,.box zF0)] h fun a w h=>qW (Je 1 [] [0] [(3,vb b)] h fun a w h=>cS b h (fun hc1=>?_) (fun hc2=>?_))
 ·refine Je 1 [] [3] [] h fun a w h=>qV (za7 ?_);replace h:=zbm 0 1 3 zF0 [(2,vp 0 0)] [(0,.box [cI 0,cPs [],cB false,.d (nsl []),cB false,.d (.raw zaf)])] h rfl rfl;replace h:=zbm 0 5 6 [cI 0,cPs [],cB false,.d (nsl []),cB false,.d (.raw zaf)] [(2,vp 0 0)] [(0,.box [cI 0,cPs [],cB false,.d (nsl []),cB false,cFs []])] h rfl rfl;refine rA 0 [cI 0,cPs [],cB false,.d (nsl []),cB false,cFs []] h zch rfl ?_;rw [hc1];rfl
 refine qU (za1 (Jd 1 [] [3] [] [(0,.box [cI 1,.d (.raw zaf),cB false,.d (nsl []),cB false,.d (.raw zaf)])] h fun a w h=>qV ?_));replace h:=zbm 0 1 3 [cI 1,.d (.raw zaf),cB false,.d (nsl []),cB false,.d (.raw zaf)] [(2,vp 0 0)] [(0,.box [cI 1,cPs [],cB false,.d (nsl []),cB false,.d (.raw zaf)])] h rfl rfl;replace h:=zbm 0 5 6 [cI 1,cPs [],cB false,.d (nsl []),cB false,.d (.raw zaf)] [(2,vp 0 0)] [(0,.box [cI 1,cPs [],cB false,.d (nsl []),cB false,cFs []])] h rfl rfl;refine rA 0 [cI 1,cPs [],cB false,.d (nsl []),cB false,cFs []] h zch rfl ?_;rw [hc2];rfl
theorem take_min1 {α:Type} (xs:List α):xs.take (min xs.length 1)=xs.take 1:=by
 cases xs with
 | nil=>rfl
 | cons x xs=>rw [Nat.min_eq_right (by simp)]
theorem Lkids (f:za0) (hk:f.kids.length<=9223372036854775807):Fn Tryz.prog 129 [] [(vF f)] (vFs (cnt f.kind f.kids)) []:=by
 refine Fn.body Tryz.func129 rfl 19 rfl fun w H B a h=>Jq 0 [] [(1,vp 0 0),(2,vW zaf)] [(0,.box (zF f))] h fun a w h=>qW (Je 1 [] [] [(4,vI f.kind)] h fun a w h=>qZ (qW (Je 1 [] [] [(5,vb (f.kind == 4))] h fun a w h=>cS (f.kind == 4) h (fun hc1=>?_) (fun hc2=>?_))))
 ·have hc1':=hc1;(try simp at hc1');refine qU (za1 (cS (f.kind == 4) h (fun hc=>?_) (fun hc=>?_)))
  ·clear hc;refine Jq 1 [] [(2,(vFs f.kids))] [] h fun a w h=>qV (zae (za7 (rT (.c (cFs f.kids)) h rfl ?_)));have p4: f.kind=4:=by have:=hc1;simpa using this
   have hz:cnt f.kind f.kids=f.kids:=by unfold cnt;rw [if_pos (by omega)]
   rw [hz];try rfl
  rw [hc1] at hc;cases hc
 have hc2':=hc2;(try simp at hc2');refine Jf 1 [] [] [(5,vb (f.kind == 5))] h fun a w h=>za1 (cS (f.kind == 5) h (fun hc3=>?_) (fun hc4=>?_))
 ·have hc3':=hc3;(try simp at hc3');refine Jq 1 [] [(2,(vFs f.kids))] [] h fun a w h=>qV (zae (za7 (rT (.c (cFs f.kids)) h rfl ?_)));have p4:¬ f.kind=4:=by have:=hc2;simpa using this
  have p5: f.kind=5:=by have:=hc3;simpa using this
  have hz:cnt f.kind f.kids=f.kids:=by unfold cnt;rw [if_pos (by omega)]
  rw [hz];try rfl
 have hc4':=hc4;(try simp at hc4');refine Je 1 [] [4,5] [(10,vb (f.kind == 3))] h fun a w h=>cS (f.kind == 3) h (fun hc5=>?_) (fun hc6=>?_)
 ·have hc5':=hc5;(try simp at hc5');refine Jq 1 [(4,.len (za6 6 za0.d f.kids)),(5,.g (Op.min2 (d:=17) (tys:=#[3,3]) (k:=.i64) (m:=(f.kids.length:Int)) (n:=1) (r:=((min f.kids.length 1:Nat):Int)) (OV.tmp 16 _) (OV.const (.int .i64 1) rfl) (by omega))),(6,.g (Op.sliceD (d:=18) (t:=13) (l:=0) (h:=(min f.kids.length 1)) (rows:=f.kids.map za0.d) (rows':=(f.kids.take (min f.kids.length 1)).map za0.d) ziz (BO.no _) (BO.yes (k:=.i64) (i:=(min f.kids.length 1)) _ (OV.tmp 17 _)) (by first | omega | (simp at *;omega)) (by first | omega | (simp only [List.length_map];omega) | (simp at *;omega)) (by simp [List.map_take])))] [(2,(vFs (f.kids.take (min f.kids.length 1))))] [] h fun a w h=>qV (zae (za7 (rT (.c (cFs (f.kids.take (min f.kids.length 1)))) h rfl ?_)));have p4:¬ f.kind=4:=by have:=hc2;simpa using this
  have p5:¬ f.kind=5:=by have:=hc4;simpa using this
  have p3: f.kind=3:=by have:=hc5;simpa using this
  have hz:cnt f.kind f.kids=(f.kids.take (min f.kids.length 1)):=by unfold cnt;rw [if_neg (by omega),if_pos (by omega),<- take_min1]
  rw [hz];try rfl
 have hc6':=hc6;(try simp at hc6');refine qU (za9 (za1 (Jd 1 [] [1,10] [] [] h fun a w h=>qV ?_)));replace h:=nilDSs 2 0 6 (vW zaf) [(2,(vFs []))] [] h rfl rfl;refine rT (.c (cFs [])) h rfl ?_;have p4:¬ f.kind=4:=by have:=hc2;simpa using this
 have p5:¬ f.kind=5:=by have:=hc4;simpa using this
 have p3:¬ f.kind=3:=by have:=hc6;simpa using this
 have hz:cnt f.kind f.kids=[]:=by unfold cnt;rw [if_neg (by omega),if_neg (by omega)]
 rw [hz];try rfl
theorem Lclones (fs:List za0) (hcl:∀ g ∈ fs,Fn Tryz.prog 99 [] [(vF g)] (vF (za0.cl g)) []) (hl:fs.length<=1000000):Fn Tryz.prog 77 [] [(vFs fs)] (vFs (fs.map za0.cl)) []:=by
 refine Fn.body Tryz.func77 rfl 19 rfl fun w H B a h=>Jq 5 [] [(0,(vFs fs)),(2,vW zaf)] [] h fun a w h=>Jd 5 [] [] [(3,vW zaf)] [] h fun a w h=>qW (Jd 5 [(1,.len (za6 6 za0.d fs))] [0] [(6,(vFs fs)),(7,vN fs.length),(8,vI 0)] [] h fun a w h=>qZ ?_)
 replace h:=zew 3 0 5 6 35 (vW zaf) [(2,vW zaf),(3,vO 5 0),(6,(vFs fs)),(7,vN fs.length),(8,vI 0)] [(5,.row 35 6 ([].map za0.d))] h (by kernel_rfl) rfl rfl
 refine zaq (ι:=(Nat)) (fun j=>j<=fs.length)
   (fun j=>[(2,vW zaf),(3,vO 5 ((fs.take j).map za0.cl).length),(6,(vFs fs)),(7,vN fs.length),(8,vN j)])
   (fun j=>[(5,.row 35 6 (((fs.take j).map za0.cl).map za0.d))])
   (fun j=>fs.length - j) 0 ?_ h (by kernel_rfl) (by kernel_rfl) ?_
 ·exact Nat.zero_le _
 clear h;rintro j a w hI h;have lmj:((fs.take j).map za0.cl).length<=j:=by rw [List.length_map,List.length_take];omega
 refine Je 6 [] [] [(9,vb (decide ((j:Int)<(fs.length:Int))))] h fun a w h=>qW (zam ((j:Int)<(fs.length:Int)) h (fun hc1 hc1'=>?_) (fun hc2 hc2'=>?_))
 ·refine qU (za1 (qW (qZ ?_)));obtain ⟨x1,hx1⟩:=gl fs j;refine Jd 6 [(0,.g (xD 10 6 ziz ((zab hx1 (f:=za0.d)).trans (congrArg some (za0.d_eq x1))) (OV.tmp 8 _)))] [9] [(5,vp 6 0)] [(5,.row 35 6 (((fs.take j).map za0.cl).map za0.d)),(6,.box (zF x1))] h fun a w h=>Jm 7 [(2,.call (hcl x1 (lM hx1)) la_5),(3,.g (bD 15 ([(za0.cl x1)].map za0.d) [(14,(vF (za0.cl x1)))] zh7 (.cons (i:=0) (OV.tmp 14 _) (.nil)) (by simp only [List.map_cons,List.map_nil,List.flatten_cons,List.flatten_nil,List.append_nil,za0.d_eq];kernel_rfl) (by simp [za0.d_len]))),(4,.g (aD 16 12 15 5 7 ((fs.take j).map za0.cl) [(za0.cl x1)] za0.d la_7 (by simp [za0.d_len])))] [5] [(3,vO 7 (((fs.take j).map za0.cl)++[(za0.cl x1)]).length)] [(7,.row 35 6 ((((fs.take j).map za0.cl)++[(za0.cl x1)]).map za0.d))] h fun a w h=>za9 (za1 (Jf 8 [(0,.j1 j)] [] [(8,vI ((j:Int)+1))] h fun a w h=>za1 ?_));rw [show ((((fs.take j).map za0.cl)++[(za0.cl x1)]):List za0)=((fs.take (j+1)).map za0.cl) from (zg8 hx1)] at h;replace h:=zec 7 5 [(2,vW zaf),(3,vO 5 ((fs.take (j+1)).map za0.cl).length),(6,(vFs fs)),(7,vN fs.length),(8,vI ((j:Int)+1))] [(5,.row 35 6 (((fs.take (j+1)).map za0.cl).map za0.d))] h;refine zag (x:=j) (y:=j+1) h ?_ ?_
  ·have:=zaj hx1;show j+1<=fs.length;omega
  show fs.length - (j+1)<fs.length - j;have:=zaj hx1;omega
 refine wp_exit (zaa (zaa (za5 (za1 (Jp 8 [] [(2,vO 5 ((fs.take j).map za0.cl).length)] h fun a w h=>qV ?_)))));rw [show (((fs.take j).map za0.cl):List za0)=(fs.map za0.cl) from (by rw [List.take_of_length_le (by omega)])] at h;replace h:=ziv 5 6 35 ((fs.map za0.cl).map za0.d) [(2,(vFs (fs.map za0.cl)))] [] h rfl (show zbx _ [(fs.map za0.cl).length] from ⟨by first | exact (List.length_map _).symm | (simp;done) | (simp;omega),trivial⟩) trivial;refine rT (.c (cFs (fs.map za0.cl))) h rfl ?_;rfl
def za0.okB (n L:Nat) (f:za0):Prop:=f.fold fun k r ks ps=>((k=2->TOk n L r.t)/\ks.length<=9223372036854775807/\(cnt k ks).length<=1000000)/\∀ p ∈ cnt k ps,p
theorem za0.okB_eq (n L:Nat) (f:za0):f.okB n L ↔ ((f.kind=2->TOk n L f.r.t)/\f.kids.length<=9223372036854775807/\(cnt f.kind f.kids).length<=1000000)/\∀ g ∈ cnt f.kind f.kids,g.okB n L:=by
 have:=za0.fold_eq (fun k r ks (ps:List Prop)=>((k=2->TOk n L r.t)/\ks.length<=9223372036854775807/\(cnt k ks).length<=1000000)/\∀ p ∈ cnt k ps,p) f
 rw [zci] at this
 unfold za0.okB
 rw [this]
 refine and_congr_right fun _=>⟨fun h g hg=>h _ (List.mem_map.2 ⟨g,hg,rfl⟩),fun h p hp=>?_⟩
 obtain ⟨g,hg,rfl⟩:=List.mem_map.1 hp
 exact h g hg
theorem za0.okB_mono {n L n' L':Nat} (hn:n<=n') (hL:L<=L') (f:za0):f.okB n L->f.okB n' L' :=
 za0.ind (P:=fun f=>f.okB n L->f.okB n' L') (fun k r ks ih hf=>by
  rw [za0.okB_eq] at hf ⊢
  exact ⟨⟨fun e=>(hf.1.1 e).mono hn hL,hf.1.2⟩,fun g hg=>ih g (zb3 hg) (hf.2 g hg)⟩) f
theorem zhs (n L:Nat) (b:Bool):(zcq b).okB n L:=by
 rw [za0.okB_eq];cases b <;> exact ⟨⟨fun e=>absurd e (by decide),Nat.zero_le _,Nat.zero_le _⟩,fun g hg=>by cases hg⟩
theorem okB_atom {n L:Nat} {r:zb0} (h:TOk n L r.t):(za0.mk 2 r []).okB n L:=by
 rw [za0.okB_eq];exact ⟨⟨fun _=>h,Nat.zero_le _,Nat.zero_le _⟩,fun g hg=>by cases hg⟩
theorem zjc {n L:Nat} {k:Int} {r:zb0} {ks:List za0} (hk:k≠2) (hl:ks.length<=1000000) (h:∀ g ∈ ks,g.okB n L):(za0.mk k r ks).okB n L:=by
 rw [za0.okB_eq];exact ⟨⟨fun e=>absurd e hk,Nat.le_trans hl (by decide),Nat.le_trans (cnt_len _ _) hl⟩,fun g hg=>h g (zb3 hg)⟩
theorem zjd {n L n' L':Nat} {t:zb0->zb0} (ht:∀ r,TOk n L r.t->TOk n' L' (t (cpR r)).t) (f:za0):f.okB n L->(f.each t).okB n' L' :=
 za0.ind (P:=fun f=>f.okB n L->(f.each t).okB n' L') (fun k r ks ih hf=>by
  obtain ⟨⟨h1,h2⟩,h3⟩:=(za0.okB_eq _ _ _).1 hf
  change k=2->_ at h1
  change ks.length<=_/\(cnt k ks).length<=_ at h2
  change ∀ g ∈ cnt k ks,_ at h3
  rw [za0.each_eq]
  show (zee t k r (ks.map (za0.each t))).okB n' L'
  unfold zee
  split
  ·exact zhs _ _ _
  ·split
   ·rename_i e;exact okB_atom (ht r (h1 e))
   ·split
    ·rename_i hk2 h4
     refine zjc hk2 (by rw [zci,List.length_map];exact h2.2) fun g hg=>?_
     rw [zci] at hg
     obtain ⟨q,hq,rfl⟩:=List.mem_map.1 hg
     exact ih q (zb3 hq) (h3 q hq)
    ·exact zhs _ _ _) f
theorem okB_cl {n L:Nat} (hn:n<=1000) (f:za0) (h:f.okB n L):f.cl.okB n (L+1):=zjd (t:=id) (fun _r hr=>hr.plain hn) f h
theorem zd2 {n L:Nat} {f:za0} (h:f.okB n L):f.kids.length<=9223372036854775807:=((za0.okB_eq _ _ _).1 h).1.2.1
theorem ze6 {n L:Nat} {f:za0} (h:f.okB n L):(cnt f.kind f.kids).length<=1000000:=((za0.okB_eq _ _ _).1 h).1.2.2
theorem zey {n L:Nat} {f g:za0} (h:f.okB n L) (hg:g ∈ cnt f.kind f.kids):g.okB n L:=((za0.okB_eq _ _ _).1 h).2 g hg
theorem rel_ok {n L:Nat} {f:za0} (h:f.okB n L) (e:(f.kind == 2)=true):TOk n L f.r.t:=((za0.okB_eq _ _ _).1 h).1.1 (by simpa using e)
theorem cl_tru {f:za0} (e:(f.kind == 0)=true):f.cl=zcq true:=by rw [cl_eq];unfold zee;rw [if_pos (by simpa using e)]
theorem cl_at {f:za0} (e:(f.kind == 2)=true):f.cl=zd7 f.r:=by
 have e:f.kind=2:=by simpa using e
 rw [cl_eq,e];rfl
theorem cl_kids {f:za0} (e:f.kind=3\/f.kind=4\/f.kind=5):f.cl=⟨f.kind,zR,(cnt f.kind f.kids).map za0.cl⟩:=by
 rw [cl_eq,zf1 _ _ _ e,zci]
theorem cl_out {f:za0} (h0:(f.kind == 0)=false) (h2:(f.kind == 2)=false) (h3:(f.kind == 3)=false) (h4:(f.kind == 4)=false) (h5:(f.kind == 5)=false):f.cl=zcq false:=by
 simp only [beq_eq_false_iff_ne] at h0 h2 h3 h4 h5
 rw [cl_eq,zfr _ _ _ h0 h2 (by omega)]
theorem Lclone0 (f:za0) (ih:∀ g ∈ cnt f.kind f.kids,Fn Tryz.prog 99 [] [(vF g)] (vF (za0.cl g)) []) (hf:f.okB 1000 10000):Fn Tryz.prog 99 [] [(vF f)] (vF (za0.cl f)) []:=by
 refine Fn.body Tryz.func99 rfl 24 rfl fun w H B a h=>Jq 0 [] [(1,vp 0 0),(2,vp 1 0)] [(0,.box (zF f)),(1,.box zF0)] h fun a w h=>qW (Je 2 [] [] [(4,vI f.kind)] h fun a w h=>qZ (Je 2 [] [] [(5,vb (f.kind == 0))] h fun a w h=>cS (f.kind == 0) h (fun hc1=>?_) (fun hc2=>?_)))
 ·have hc1':=hc1;(try simp at hc1');refine Jq 2 [(0,.call (zfz true) la_8)] [(2,vp 1 0)] [(1,.box (zF (zcq true)))] h fun a w h=>qV (zae (za7 (rA 1 (zF (zcq true)) h zch rfl ?_)));rw [cl_tru hc1];try rfl
 have hc2':=hc2;(try simp at hc2');refine Je 2 [] [5] [(8,vb (f.kind == 2))] h fun a w h=>cS (f.kind == 2) h (fun hc3=>?_) (fun hc4=>?_)
 ·have hc3':=hc3;(try simp at hc3');refine Jq 2 [(2,.call (LOf f.r (rel_ok hf hc3)) la_9)] [(2,vp 1 0)] [(1,.box (zF (zd7 f.r)))] h fun a w h=>qV (zae (za7 (rA 1 (zF (zd7 f.r)) h zch rfl ?_)));rw [cl_at hc3];try rfl
 have hc4':=hc4;(try simp at hc4');refine qW (Je 2 [] [8] [(13,vb (f.kind == 3))] h fun a w h=>cS (f.kind == 3) h (fun hc5=>?_) (fun hc6=>?_))
 ·have hc5':=hc5;(try simp at hc5');refine qU (za1 (cS (f.kind == 3) h (fun hc=>?_) (fun hc=>?_)))
  ·clear hc;refine Jq 2 [(3,.call (Lkids f (zd2 hf)) la_10),(4,.call (Lclones (cnt f.kind f.kids) ih (ze6 hf)) la_11)] [(2,vp 1 0)] [(1,.box [cI f.kind,.d (.raw zaf),cB false,.d (nsl []),cB false,cFs ((cnt f.kind f.kids).map za0.cl)])] h fun a w h=>qV (zae (za7 ?_));replace h:=zbm 1 1 3 [cI f.kind,.d (.raw zaf),cB false,.d (nsl []),cB false,cFs ((cnt f.kind f.kids).map za0.cl)] [(2,vp 1 0)] [(1,.box [cI f.kind,cPs [],cB false,.d (nsl []),cB false,cFs ((cnt f.kind f.kids).map za0.cl)])] h rfl rfl;refine rA 1 [cI f.kind,cPs [],cB false,.d (nsl []),cB false,cFs ((cnt f.kind f.kids).map za0.cl)] h zch rfl ?_;rw [cl_kids (by have:=hc5;simp at this;omega)];try rfl
  rw [hc5] at hc;cases hc
 have hc6':=hc6;(try simp at hc6');refine Je 2 [] [] [(13,vb (f.kind == 4))] h fun a w h=>cS (f.kind == 4) h (fun hc7=>?_) (fun hc8=>?_)
 ·have hc7':=hc7;(try simp at hc7');refine qU (za1 (cS (f.kind == 4) h (fun hc=>?_) (fun hc=>?_)))
  ·clear hc;refine Jq 2 [(3,.call (Lkids f (zd2 hf)) la_10),(4,.call (Lclones (cnt f.kind f.kids) ih (ze6 hf)) la_11)] [(2,vp 1 0)] [(1,.box [cI f.kind,.d (.raw zaf),cB false,.d (nsl []),cB false,cFs ((cnt f.kind f.kids).map za0.cl)])] h fun a w h=>qV (zae (za7 ?_));replace h:=zbm 1 1 3 [cI f.kind,.d (.raw zaf),cB false,.d (nsl []),cB false,cFs ((cnt f.kind f.kids).map za0.cl)] [(2,vp 1 0)] [(1,.box [cI f.kind,cPs [],cB false,.d (nsl []),cB false,cFs ((cnt f.kind f.kids).map za0.cl)])] h rfl rfl;refine rA 1 [cI f.kind,cPs [],cB false,.d (nsl []),cB false,cFs ((cnt f.kind f.kids).map za0.cl)] h zch rfl ?_;rw [cl_kids (by have:=hc7;simp at this;omega)];try rfl
  rw [hc7] at hc;cases hc
 have hc8':=hc8;(try simp at hc8');refine Jf 2 [] [4] [(13,vb (f.kind == 5))] h fun a w h=>za1 (cS (f.kind == 5) h (fun hc9=>?_) (fun hc10=>?_))
 ·have hc9':=hc9;(try simp at hc9');refine Jq 2 [(3,.call (Lkids f (zd2 hf)) la_10),(4,.call (Lclones (cnt f.kind f.kids) ih (ze6 hf)) la_11)] [(2,vp 1 0)] [(1,.box [cI f.kind,.d (.raw zaf),cB false,.d (nsl []),cB false,cFs ((cnt f.kind f.kids).map za0.cl)])] h fun a w h=>qV (zae (za7 ?_));replace h:=zbm 1 1 3 [cI f.kind,.d (.raw zaf),cB false,.d (nsl []),cB false,cFs ((cnt f.kind f.kids).map za0.cl)] [(2,vp 1 0)] [(1,.box [cI f.kind,cPs [],cB false,.d (nsl []),cB false,cFs ((cnt f.kind f.kids).map za0.cl)])] h rfl rfl;refine rA 1 [cI f.kind,cPs [],cB false,.d (nsl []),cB false,cFs ((cnt f.kind f.kids).map za0.cl)] h zch rfl ?_;rw [cl_kids (by have:=hc9;simp at this;omega)];try rfl
 have hc10':=hc10;(try simp at hc10');refine qU (za9 (za1 (Jq 2 [(0,.call (zfz false) la_8)] [(2,vp 1 0)] [(1,.box (zF (zcq false)))] h fun a w h=>qV (rA 1 (zF (zcq false)) h zch rfl ?_))));rw [cl_out hc2 hc4 hc6 hc8 hc10];try rfl
theorem zfy (f:za0):f.okB 1000 10000->Fn Tryz.prog 99 [] [(vF f)] (vF (za0.cl f)) [] :=
 za0.ind (P:=fun f=>f.okB 1000 10000->Fn Tryz.prog 99 [] [(vF f)] (vF (za0.cl f)) []) (fun k r ks ih hf=>Lclone0 ⟨k,r,ks⟩ (fun g hg=>ih g (zb3 hg) (zey hf hg)) hf) f
theorem LDeny (f:za0) (hf:f.okB 1000 10000):Fn Tryz.prog 68 [] [(vF f)] (vF (denyF f)) []:=by
 refine Fn.body Tryz.func68 rfl 7 rfl fun w H B a h=>Jq 0 [] [(1,vp 0 0),(2,vp 1 0)] [(0,.box (zF f)),(1,.box zF0)] h fun a w h=>Jd 2 [(1,.call (zfy f hf) la_5),(2,.g (bD 5 ([(za0.cl f)].map za0.d) [(4,(vF (za0.cl f)))] zh7 (.cons (i:=0) (OV.tmp 4 _) (.nil)) (by simp only [List.map_cons,List.map_nil,List.flatten_cons,List.flatten_nil,List.append_nil,za0.d_eq];kernel_rfl) (by simp [za0.d_len])))] [1] [] [(1,.box [cI 3,.d (.raw zaf),cB false,.d (nsl []),cB false,cFs [(za0.cl f)]])] h fun a w h=>qV ?_
 replace h:=zbm 1 1 3 [cI 3,.d (.raw zaf),cB false,.d (nsl []),cB false,cFs [(za0.cl f)]] [(2,vp 1 0)] [(1,.box [cI 3,cPs [],cB false,.d (nsl []),cB false,cFs [(za0.cl f)]])] h rfl rfl;refine rA 1 [cI 3,cPs [],cB false,.d (nsl []),cB false,cFs [(za0.cl f)]] h zch rfl ?_;rfl
theorem LAll (fs:List za0) (hf:∀ g ∈ fs,g.okB 1000 10000) (hl:fs.length<=1000000):Fn Tryz.prog 46 [] [(vFs fs)] (vF (zc7 fs)) []:=by
 refine Fn.body Tryz.func46 rfl 6 rfl fun w H B a h=>Jq 0 [] [(0,(vFs fs)),(2,vp 0 0)] [(0,.box zF0)] h fun a w h=>Jd 1 [(1,.call (Lclones fs (fun g hg=>zfy g (hf g hg)) hl) la_11)] [0] [] [(0,.box [cI 4,.d (.raw zaf),cB false,.d (nsl []),cB false,cFs (fs.map za0.cl)])] h fun a w h=>qV ?_
 replace h:=zbm 0 1 3 [cI 4,.d (.raw zaf),cB false,.d (nsl []),cB false,cFs (fs.map za0.cl)] [(2,vp 0 0)] [(0,.box [cI 4,cPs [],cB false,.d (nsl []),cB false,cFs (fs.map za0.cl)])] h rfl rfl;refine rA 0 [cI 4,cPs [],cB false,.d (nsl []),cB false,cFs (fs.map za0.cl)] h zch rfl ?_;rfl
theorem lb_3:za4 Tryz.prog 154:=za4.mk' (by kernel_rfl)
theorem lb_12:za4 Tryz.prog 121:=za4.mk' (by kernel_rfl)
theorem lb_13:za4 Tryz.prog 145:=za4.mk' (by kernel_rfl)
theorem lb_21:za4 Tryz.prog 144:=za4.mk' (by kernel_rfl)
theorem Lknown (b:Bool) :Fn Tryz.prog 154 [] [vb b] (.tup [.agg (zR_ zR),.c (cI (if b=true then 1 else -1))]) []:=by
 refine Fn.body Tryz.func154 rfl 7 rfl fun w H B a h=>Jq 0 [] [(0,vb b),(2,vp 0 0),(3,vI 0)] [(0,.box zR0)] h fun a w h=>qW (Je 1 [] [0] [(4,vb b)] h fun a w h=>cS b h (fun hc1=>?_) (fun hc2=>?_))
 ·refine Je 1 [] [4] [(3,vI 1)] h fun a w h=>qV (za7 ?_);replace h:=zbm 0 0 3 zR0 [(2,vp 0 0),(3,vI 1)] [(0,.box [cPs [],cB false,.d (nsl []),cB false])] h rfl rfl;refine zeb [.agg [cPs [],cB false,.d (nsl []),cB false],.c (cI 1)] h Exit.ret (.inl rfl)  rfl ⟨RV.agg _ 0 0 _ _ _ _ la_1 rfl rfl rfl rfl,RV.tmp _ _ rfl,trivial⟩ ?_;rw [hc1];rfl
 refine qU (za1 (Je 1 [] [4] [(3,vI (-1))] h fun a w h=>qV ?_));replace h:=zbm 0 0 3 zR0 [(2,vp 0 0),(3,vI (-1))] [(0,.box [cPs [],cB false,.d (nsl []),cB false])] h rfl rfl;refine zeb [.agg [cPs [],cB false,.d (nsl []),cB false],.c (cI (-1))] h Exit.ret (.inl rfl)  rfl ⟨RV.agg _ 0 0 _ _ _ _ la_1 rfl rfl rfl rfl,RV.tmp _ _ rfl,trivial⟩ ?_;rw [hc2];rfl
theorem shr_len (t:zak):(zeq (za2 t)).parts.length=(za2 t).parts.length:=by
 unfold zeq;rw [zcw];split
 ·rfl
 ·exact List.length_map _
theorem plain_k (t:zak):(za2 t).k.val=t.k.val:=ZI.val_of _
theorem tight_k {r:zb0} (h:(za2 r.t).parts.length=0):zb8 r=(zR,if (sgn (za2 r.t).k.val == 0 || (!r.eq && decide (sgn (za2 r.t).k.val>0)))=true then 1 else -1):=by
 unfold zb8;rw [if_pos h,plain_k]
theorem tight_le {r:zb0} (h:(za2 r.t).parts.length≠0) (he:r.eq=false):zb8 r=(⟨zeq (za2 r.t),false⟩,0):=by
 unfold zb8;rw [if_neg h,if_neg (fun e=>by rw [he] at e;exact Bool.noConfusion e.1),he,shr_plain2];rfl
theorem tight_no {r:zb0} (h:(za2 r.t).parts.length≠0) (he:r.eq=true) (hz:(za2 r.t).k.val.fmod (zcs (za2 (za2 r.t)).parts)≠0):zb8 r=(zR,-1):=by
 rw [zgr,plain_k] at hz
 unfold zb8;rw [if_neg h,if_pos ⟨he,hz⟩]
theorem tight_eq {r:zb0} (h:(za2 r.t).parts.length≠0) (he:r.eq=true) (hz:(za2 r.t).k.val.fmod (zcs (za2 (za2 r.t)).parts)=0) {b:Bool} (hb:firstN (zeq (za2 r.t))=b):zb8 r=(⟨if b=true then negT (zeq (za2 r.t)) else zeq (za2 r.t),true⟩,0):=by
 rw [zgr,plain_k] at hz
 rw [shr_plain2] at hb ⊢
 unfold zb8;rw [if_neg h,if_neg (fun e=>e.2 hz),he,hb];rfl
theorem first_at {t:zak} {p:za3} (h:t.parts[0]?=some p):firstN t=decide (sgn p.c.val<0):=by
 unfold firstN
 cases e:t.parts with
 | nil=>rw [e] at h;cases h
 | cons q qs=>rw [e] at h;injection h with h;rw [h]
theorem LTight (r:zb0) (hr:TOk 400 9000 r.t):Fn Tryz.prog 144 [] [.t (.agg ([.d (.sl 3 (r.t.parts.map za3.d))]++zi r.t.k++[.d (.raw (.bool r.eq))]))] (.tup [.agg ([.d (.sl 3 ((zb8 r).1.t.parts.map za3.d))]++zi (zb8 r).1.t.k++[.d (.raw (.bool (zb8 r).1.eq))]),.c (.d (.raw (.int .i64 (zb8 r).2)))]) []:=by
 have hpk:=(hr.plain (by decide)).kl;refine Fn.body Tryz.func144 rfl 74 rfl fun w H B a h=>Jq 0 [] [(1,vp 0 0),(2,vp 1 0),(3,vI 0)] [(0,.box ([.d (.sl 3 (r.t.parts.map za3.d))]++zi r.t.k++[.d (.raw (.bool r.eq))])),(1,.box zR0)] h fun a w h=>Jd 2 [(2,.call (zfi r.t hr (by decide) (by decide)) tm_7)] [] [(4,vp 2 0)] [(0,.box ([.d (.sl 3 (r.t.parts.map za3.d))]++zi r.t.k++[.d (.raw (.bool r.eq))])),(1,.box zR0),(2,.box ([.d (.sl 3 ((za2 r.t).parts.map za3.d))]++zi (za2 r.t).k))] h fun a w h=>qW (Je 3 [(2,.len (za6 3 za3.d ((za2 r.t).parts)))] [] [(14,vb (((za2 r.t).parts.length:Int) == 0))] h fun a w h=>cS (((za2 r.t).parts.length:Int) == 0) h (fun hc1=>?_) (fun hc6=>?_))
 ·have hc1':=hc1;(try simp at hc1');have hpl:(za2 r.t).parts.length=0:=by have:=hc1;simpa using this
  rcases Bool.eq_false_or_eq_true (sgn (za2 r.t).k.val == 0) with hc2 | hc3
  ·have hc2':=hc2;(try simp at hc2');refine Jd 3 [(2,.call (SSign (za2 r.t).k ((TOk.plain hr (by decide))).kb (by omega)) td_6),(3,.cmp (op:=.eql) (m:=(sgn (za2 r.t).k.val)) (n:=0) (b:=true) .i64 hc2),(15,.call (Lknown true) lb_3)] [14] [(3,vI (if true=true then 1 else -1))] [(0,.box ([.d (.sl 3 (r.t.parts.map za3.d))]++zi r.t.k++[.d (.raw (.bool r.eq))])),(1,.box ([.d (.sl 3 (zR.t.parts.map za3.d))]++zi zR.t.k++[.d (.raw (.bool zR.eq))])),(2,.box ([.d (.sl 3 ((za2 r.t).parts.map za3.d))]++zi (za2 r.t).k))] h fun a w h=>qV (za7 (zeb [.agg ([.d (.sl 3 (zR.t.parts.map za3.d))]++zi zR.t.k++[.d (.raw (.bool zR.eq))]),.c (.d (.raw (.int .i64 (if true=true then 1 else -1))))] h Exit.ret (.inl rfl)  rfl ⟨RV.agg _ 1 0 _ _ _ _ la_1 rfl rfl rfl rfl,RV.tmp _ _ rfl,trivial⟩ ?_));rw [tight_k hpl,hc2];try rfl
  have hc3':=hc3;(try simp at hc3')
  rcases Bool.eq_false_or_eq_true r.eq with hc4 | hc5
  ·rw [hc4] at h;refine Jq 3 [(2,.call (SSign (za2 r.t).k ((TOk.plain hr (by decide))).kb (by omega)) td_6),(3,.cmp (op:=.eql) (m:=(sgn (za2 r.t).k.val)) (n:=0) (b:=false) .i64 hc3),(15,.call (Lknown false) lb_3)] [(1,vp 0 0),(2,vp 1 0),(3,vI (if false=true then 1 else -1)),(4,vp 2 0)] [(0,.box ([.d (.sl 3 (r.t.parts.map za3.d))]++zi r.t.k++[.d (.raw (.bool true))])),(1,.box ([.d (.sl 3 (zR.t.parts.map za3.d))]++zi zR.t.k++[.d (.raw (.bool zR.eq))])),(2,.box ([.d (.sl 3 ((za2 r.t).parts.map za3.d))]++zi (za2 r.t).k))] h fun a w h=>qV (za7 (zeb [.agg ([.d (.sl 3 (zR.t.parts.map za3.d))]++zi zR.t.k++[.d (.raw (.bool zR.eq))]),.c (.d (.raw (.int .i64 (if false=true then 1 else -1))))] h Exit.ret (.inl rfl)  rfl ⟨RV.agg _ 1 0 _ _ _ _ la_1 rfl rfl rfl rfl,RV.tmp _ _ rfl,trivial⟩ ?_));rw [tight_k hpl,hc3,hc4];try rfl
  rw [hc5] at h;refine Jq 3 [(2,.call (SSign (za2 r.t).k ((TOk.plain hr (by decide))).kb (by omega)) td_6),(3,.cmp (op:=.eql) (m:=(sgn (za2 r.t).k.val)) (n:=0) (b:=false) .i64 hc3),(11,.call (SSign (za2 r.t).k ((TOk.plain hr (by decide))).kb (by omega)) td_6),(15,.call (Lknown (decide (sgn (za2 r.t).k.val>0))) lb_3)] [(1,vp 0 0),(2,vp 1 0),(3,vI (if (decide (sgn (za2 r.t).k.val>0))=true then 1 else -1)),(4,vp 2 0)] [(0,.box ([.d (.sl 3 (r.t.parts.map za3.d))]++zi r.t.k++[.d (.raw (.bool false))])),(1,.box ([.d (.sl 3 (zR.t.parts.map za3.d))]++zi zR.t.k++[.d (.raw (.bool zR.eq))])),(2,.box ([.d (.sl 3 ((za2 r.t).parts.map za3.d))]++zi (za2 r.t).k))] h fun a w h=>qV (za7 (zeb [.agg ([.d (.sl 3 (zR.t.parts.map za3.d))]++zi zR.t.k++[.d (.raw (.bool zR.eq))]),.c (.d (.raw (.int .i64 (if (decide (sgn (za2 r.t).k.val>0))=true then 1 else -1))))] h Exit.ret (.inl rfl)  rfl ⟨RV.agg _ 1 0 _ _ _ _ la_1 rfl rfl rfl rfl,RV.tmp _ _ rfl,trivial⟩ ?_));rw [tight_k hpl,hc3,hc5];try rfl
 have hc6':=hc6;(try simp at hc6');refine qU (za1 (qW ?_));have hpl:(za2 r.t).parts.length≠0:=by have:=hc6;simpa using this
 have hcon:=con_pos (t:=r.t) (by omega);have hcon2:zcs (za2 (za2 r.t)).parts=zcs (za2 r.t).parts:=zgr _;have hsl:=shr_len r.t;refine Jd 3 [] [1,14] [(35,vb (!r.eq))] [(1,.box zR0),(2,.box ([.d (.sl 3 ((za2 r.t).parts.map za3.d))]++zi (za2 r.t).k))] h fun a w h=>cS (!r.eq) h (fun hc7=>?_) (fun hc8=>?_)
 ·have hc7':=hc7;(try simp at hc7');refine Jd 3 [(1,.call (SShrink (za2 r.t) (TOk.plain hr (by decide)) (by decide) (by decide)) ty_2)] [35] [] [(1,.box zR0),(2,.box ([.d (.sl 3 ((zeq (za2 r.t)).parts.map za3.d))]++zi (zeq (za2 r.t)).k))] h fun a w h=>Jd 3 [] [] [] [(1,.box ([.d (.sl 3 ((zeq (za2 r.t)).parts.map za3.d))]++zi (zeq (za2 r.t)).k++[.d (.raw (.bool false))])),(2,.box ([.d (.sl 3 ((zeq (za2 r.t)).parts.map za3.d))]++zi (zeq (za2 r.t)).k))] h fun a w h=>qV (za7 (zeb [.agg ([.d (.sl 3 ((zeq (za2 r.t)).parts.map za3.d))]++zi (zeq (za2 r.t)).k++[.d (.raw (.bool false))]),.c (.d (.raw (.int .i64 0)))] h Exit.ret (.inl rfl)  rfl ⟨RV.agg _ 1 0 _ _ _ _ la_1 rfl rfl rfl rfl,RV.tmp _ _ rfl,trivial⟩ ?_));rw [tight_le hpl (by simpa using hc7)];try rfl
 have hc8':=hc8;(try simp at hc8');refine qU (za1 (qW ?_));obtain ⟨r12,er12,vr12,or12,lr12⟩:=mkZ (v:=zcs (za2 (za2 r.t)).parts) (m:=9002) (con_len' (TOk.plain hr (by decide)) (by decide));obtain ⟨r13q,er13q,vr13q,or13q,lr13q⟩:=mkZ (v:=(za2 r.t).k.val.fdiv r12.val) (m:=(za2 r.t).k.abs.length) (zjg ((TOk.plain hr (by decide))).kb (by omega));obtain ⟨r13r,er13r,vr13r,or13r,lr13r⟩:=mkZ (v:=(za2 r.t).k.val.fmod r12.val) (m:=r12.abs.length) (len_fmod or12 (by omega));refine Jd 3 [(3,.call (Fn.cast (SContent (za2 r.t) (TOk.plain hr (by decide)) (by decide) (by decide)) (congrArg vz er12.symm)) tw_1),(4,.call (Fn.cast (SDiv (za2 r.t).k r12 ((TOk.plain hr (by decide))).kb or12 (by omega) (by omega) (by omega)) (show _=(.tup [.agg (zi r13q),.agg (zi r13r),.c (.d (.raw (.int .i64 0)))]:V) by rw [er13q,er13r];try rfl)) zs_20)] [35] [(6,vp 4 0)] [(1,.box zR0),(2,.box ([.d (.sl 3 ((za2 r.t).parts.map za3.d))]++zi (za2 r.t).k)),(4,.box (zi r13r))] h fun a w h=>Jd 5 [(1,.call (SSign r13r or13r (by omega)) td_6)] [6] [(54,vb (sgn r13r.val != 0))] [(1,.box zR0),(2,.box ([.d (.sl 3 ((za2 r.t).parts.map za3.d))]++zi (za2 r.t).k))] h fun a w h=>cS (sgn r13r.val != 0) h (fun hc9=>?_) (fun hc10=>?_)
 ·have hc9':=hc9;(try simp at hc9');refine Jd 5 [(0,.call (Lknown false) lb_3)] [54] [(3,vI (if false=true then 1 else -1))] [(1,.box ([.d (.sl 3 (zR.t.parts.map za3.d))]++zi zR.t.k++[.d (.raw (.bool zR.eq))])),(2,.box ([.d (.sl 3 ((za2 r.t).parts.map za3.d))]++zi (za2 r.t).k))] h fun a w h=>qV (za7 (zeb [.agg ([.d (.sl 3 (zR.t.parts.map za3.d))]++zi zR.t.k++[.d (.raw (.bool zR.eq))]),.c (.d (.raw (.int .i64 (if false=true then 1 else -1))))] h Exit.ret (.inl rfl)  rfl ⟨RV.agg _ 1 0 _ _ _ _ la_1 rfl rfl rfl rfl,RV.tmp _ _ rfl,trivial⟩ ?_));rw [tight_no hpl (by simpa using hc8) (by rw [<- vr12,<- vr13r];exact sgn_ne hc9)];try rfl
 have hc10':=hc10;(try simp at hc10');refine qU (za1 (Jd 5 [(1,.call (SShrink (za2 r.t) (TOk.plain hr (by decide)) (by decide) (by decide)) ty_2)] [54] [] [(1,.box zR0),(2,.box ([.d (.sl 3 ((zeq (za2 r.t)).parts.map za3.d))]++zi (zeq (za2 r.t)).k))] h fun a w h=>qW ?_));obtain ⟨x17,hx17⟩:=gl ((zeq (za2 r.t)).parts) 0;obtain ⟨ox17,lx17⟩:=((shr_tok (TOk.plain hr (by decide)) (by decide))).get hx17;refine Je 5 [(2,.g (xD 65 64 zcb (zab hx17 (f:=za3.d)) (OV.const (.int .i64 0) rfl))),(5,.call (SSign x17.c ox17 (by omega)) td_6)] [] [(69,vb (decide (sgn x17.c.val<0)))] h fun a w h=>zam (sgn x17.c.val<0) h (fun hc11 hc11'=>?_) (fun hc12 hc12'=>?_)
 ·refine Jm 5 [(1,.call (SNeg3 (zeq (za2 r.t)) ((shr_tok (TOk.plain hr (by decide)) (by decide)).mono (by decide) (by decide))) tm_14)] [69] [] [(1,.box zR0),(2,.box ([.d (.sl 3 ((negT (zeq (za2 r.t))).parts.map za3.d))]++zi (negT (zeq (za2 r.t))).k))] h fun a w h=>za1 (Jd 5 [] [4] [] [(1,.box ([.d (.sl 3 ((negT (zeq (za2 r.t))).parts.map za3.d))]++zi (negT (zeq (za2 r.t))).k++[.d (.raw (.bool true))]))] h fun a w h=>qV (zeb [.agg ([.d (.sl 3 ((negT (zeq (za2 r.t))).parts.map za3.d))]++zi (negT (zeq (za2 r.t))).k++[.d (.raw (.bool true))]),.c (.d (.raw (.int .i64 0)))] h Exit.ret (.inl rfl)  rfl ⟨RV.agg _ 1 0 _ _ _ _ la_1 rfl rfl rfl rfl,RV.tmp _ _ rfl,trivial⟩ ?_));rw [tight_eq hpl (by simpa using hc8) (by rw [<- vr12,<- vr13r];exact sgn_eq hc10) (b:=true) (by rw [first_at hx17];exact hc11)];try rfl
 refine qU (za1 (Jd 5 [] [4,69] [] [(1,.box ([.d (.sl 3 ((zeq (za2 r.t)).parts.map za3.d))]++zi (zeq (za2 r.t)).k++[.d (.raw (.bool true))]))] h fun a w h=>qV (zeb [.agg ([.d (.sl 3 ((zeq (za2 r.t)).parts.map za3.d))]++zi (zeq (za2 r.t)).k++[.d (.raw (.bool true))]),.c (.d (.raw (.int .i64 0)))] h Exit.ret (.inl rfl)  rfl ⟨RV.agg _ 1 0 _ _ _ _ la_1 rfl rfl rfl rfl,RV.tmp _ _ rfl,trivial⟩ ?_)));rw [tight_eq hpl (by simpa using hc8) (by rw [<- vr12,<- vr13r];exact sgn_eq hc10) (b:=false) (by rw [first_at hx17];exact hc12)];try rfl
theorem plain_sub (s t:zak):za2 (subT s t)=subT s t:=zcw _
theorem low_eq {t:zak} {r:ZI} (h:r=ZI.of 1):leaR (subT (negT t) (zcf r))=lowR t:=by unfold leaR lowR;rw [plain_sub,h];rfl
theorem Lbelow (t:zak) (ht:TOk 300 3000 t):Fn Tryz.prog 145 [] [(vT t)] (vR (lowR t)) []:=by
 refine Fn.body Tryz.func145 rfl 9 rfl fun w H B a h=>Jq 0 [] [(1,vp 0 0),(2,vp 1 0)] [(0,.box (zT t)),(1,.box zR0)] h fun a w h=>?_
 obtain ⟨r2,er2,vr2,or2,lr2⟩:=mkZ (v:=1) (m:=2) (ZI.len_of (by have:=pw2;omega));refine Jd 2 [(1,.call (SNeg3 t (ht.mono (by decide) (by decide))) tm_14),(2,.call (Fn.cast (SOf 1 ⟨by omega,by omega⟩) (congrArg vz er2.symm)) tm_10),(3,.call (zfw r2 or2 (by omega)) to_7),(4,.call (STSub (negT t) (zcf r2) (((TOk.mul ht (ZI.lb_of _) (show (ZI.of (-1)).abs.length<=2 from by decide)).plain (by decide)).mono (by decide) (by decide)) ((TOk.num (ZI.lb_of _) (Nat.le_trans (zd1 or2) (by omega))).mono (by decide) (by decide))) to_9),(5,.call (LLeast (subT (negT t) (zcf r2)) ((addT_ok (((TOk.mul ht (ZI.lb_of _) (show (ZI.of (-1)).abs.length<=2 from by decide)).plain (by decide)).mono (Nat.le_refl 300) (show 3003<=3003 by decide)) (((TOk.mul (TOk.num (ZI.lb_of _) (Nat.le_trans (zd1 or2) (by omega))) (ZI.lb_of _) (show (ZI.of (-1)).abs.length<=2 from by decide)).plain (by decide)).mono (Nat.le_refl 0) (show 103<=3003 by decide)) (by decide)).mono (by decide) (by decide))) lb_12)] [1] [] [(1,.box (zR_ (leaR (subT (negT t) (zcf r2)))))] h fun a w h=>qV (rA 1 (zR_ (leaR (subT (negT t) (zcf r2)))) h la_1 rfl ?_);rw [<- low_eq er2];try rfl
theorem LrDeny (r:zb0) (hr:TOk 300 2000 r.t):Fn Tryz.prog 126 [] [(vR r)] (vRs (zb9 r)) []:=by
 refine Fn.body Tryz.func126 rfl 18 rfl fun w H B a h=>Jq 0 [] [(1,vp 0 0),(2,vW zaf)] [(0,.box (zR_ r))] h fun a w h=>qW (Je 1 [] [] [(5,vb (!r.eq))] h fun a w h=>cS (!r.eq) h (fun hc1=>?_) (fun hc2=>?_))
 ·have hc1':=hc1;(try simp at hc1');refine Je 1 [(2,.call (Lbelow r.t (hr.mono (by decide) (by decide))) lb_13),(3,.g (bD 9 ([(lowR r.t)].map zb0.d) [(8,(vR (lowR r.t)))] kc_5 (.cons (i:=0) (OV.tmp 8 _) (.nil)) (by kernel_rfl) (by simp [zb0.d])))] [5] [(2,(vRs [(lowR r.t)]))] h fun a w h=>qV (za7 (rT (.c (cRs [(lowR r.t)])) h rfl ?_));unfold zb9;rw [(show (r.eq)=false from by simpa using hc1)];try rfl
 have hc2':=hc2;(try simp at hc2');refine qU (za1 (Jq 1 [(2,.call (SNeg3 r.t (hr.mono (by decide) (by decide))) tm_14),(3,.call (Lbelow (negT r.t) (((TOk.mul hr (ZI.lb_of _) (show (ZI.of (-1)).abs.length<=2 from by decide)).plain (by decide)).mono (by decide) (by decide))) lb_13),(6,.call (Lbelow r.t (hr.mono (by decide) (by decide))) lb_13),(7,.g (Op.buildD (d:=17) (len:=2) (rows:=[(lowR (negT r.t)),(lowR r.t)].map zb0.d) (rs:=[(13,(vR (lowR (negT r.t)))),(16,(vR (lowR r.t)))]) kc_5 (.cons (i:=0) (OV.tmp 13 _) (.cons (i:=1) (OV.tmp 16 _) (.nil))) (by kernel_rfl) rfl (by simp [zb0.d]) (by decide) (by decide)))] [(2,(vRs [(lowR (negT r.t)),(lowR r.t)]))] [] h fun a w h=>qV (rT (.c (cRs [(lowR (negT r.t)),(lowR r.t)])) h rfl ?_)));unfold zb9;rw [(show (r.eq)=true from by simpa using hc2)];try rfl
theorem LtightF (r:zb0) (hr:TOk 400 9000 r.t):Fn Tryz.prog 125 [] [(vR r)] (vF (zb1 r)) []:=by
 refine Fn.body Tryz.func125 rfl 17 rfl fun w H B a h=>Jq 0 [] [(1,vp 0 0),(2,vp 1 0)] [(0,.box (zR_ r)),(1,.box zF0)] h fun a w h=>Jd 2 [(1,.call (LTight r hr) lb_21)] [1] [(3,vp 2 0),(4,vI (zb8 r).2)] [(1,.box zF0),(2,.box (zR_ (zb8 r).1))] h fun a w h=>qW (Je 3 [] [] [(11,vb ((zb8 r).2 != 0))] h fun a w h=>cS ((zb8 r).2 != 0) h (fun hc1=>?_) (fun hc2=>?_))
 ·have hc1':=hc1;(try simp at hc1');refine Jd 3 [(2,.call (zfz (decide ((zb8 r).2>0))) la_8)] [4,11] [] [(1,.box (zF (zcq (decide ((zb8 r).2>0))))),(2,.box (zR_ (zb8 r).1))] h fun a w h=>qV (za7 (rA 1 (zF (zcq (decide ((zb8 r).2>0)))) h zch rfl ?_));unfold zb1;rw [if_neg (by simpa using hc1)];try rfl
 have hc2':=hc2;(try simp at hc2');refine qU (za1 (Jq 3 [] [(2,vp 1 0)] [(1,.box ([cI 2,cPs (zb8 r).1.t.parts]++zi (zb8 r).1.t.k++[cB (zb8 r).1.eq,.d (.raw zaf)]))] h fun a w h=>qV ?_));replace h:=zbm 1 5 6 ([cI 2,cPs (zb8 r).1.t.parts]++zi (zb8 r).1.t.k++[cB (zb8 r).1.eq,.d (.raw zaf)]) [(2,vp 1 0)] [(1,.box ([cI 2,cPs (zb8 r).1.t.parts]++zi (zb8 r).1.t.k++[cB (zb8 r).1.eq,cFs []]))] h rfl rfl;refine rA 1 ([cI 2,cPs (zb8 r).1.t.parts]++zi (zb8 r).1.t.k++[cB (zb8 r).1.eq,cFs []]) h zch rfl ?_;unfold zb1;rw [if_pos (by simpa using hc2)];try rfl
def za0.wid (f:za0):Nat:=f.fold fun k _ _ ws=>3+(cnt k ws).sum
theorem za0.wid_eq (f:za0):f.wid=3+((cnt f.kind f.kids).map za0.wid).sum:=by
 have:=za0.fold_eq (fun k _ _ (ws:List Nat)=>3+(cnt k ws).sum) f
 rw [zci] at this;exact this
def za0.nodes (f:za0):Nat:=f.fold fun _ _ _ ns=>1+ns.sum
theorem za0.nodes_eq (f:za0):f.nodes=1+(f.kids.map za0.nodes).sum:=za0.fold_eq (fun _ _ _ (ns:List Nat)=>1+ns.sum) f
theorem len_nodes (fs:List za0):fs.length<=(fs.map za0.nodes).sum:=by
 induction fs with
 | nil=>exact Nat.le_refl _
 | cons f fs ih=>rw [List.map_cons,List.sum_cons,List.length_cons,za0.nodes_eq];omega
theorem zhw (f:za0):f.kids.length+1<=f.nodes:=by rw [za0.nodes_eq];have:=len_nodes f.kids;omega
theorem zdj {k:Int}:∀ (fs out:List za0),(zcm k fs out).nodes<=1+(out.map za0.nodes).sum+(fs.map za0.nodes).sum
 | [],out=>by
  unfold zcm
  match out with
  | []=>rw [za0.nodes_eq];show 1+0<=_;omega
  | [g]=>show g.nodes<=_;simp
  | g :: q :: l=>rw [za0.nodes_eq];show 1+((g :: q :: l).map za0.nodes).sum<=_;omega
 | f :: fs,out=>by
  rw [zcm,List.map_cons,List.sum_cons]
  split
  ·omega
  ·split
   ·have:=zdj (k:=k) fs out;omega
   ·split
    ·have:=zdj (k:=k) fs (out++f.kids)
     rw [List.map_append,List.sum_append] at this
     have:=za0.nodes_eq f;omega
    ·have:=zdj (k:=k) fs (out++[f])
     rw [List.map_append,List.sum_append] at this
     simp only [List.map_cons,List.map_nil,List.sum_cons,List.sum_nil] at this
     omega
theorem zgn (r:zb0):(zb1 r).nodes=1:=by
 unfold zb1;split <;> (rw [za0.nodes_eq];rfl)
theorem sum_le {α:Type} {F G:α->Nat}:∀ {xs:List α}, (∀ x ∈ xs,F x<=G x)->(xs.map F).sum<=(xs.map G).sum
 | [],_=>Nat.le_refl _
 | x :: xs,h=>by
  rw [List.map_cons,List.map_cons,List.sum_cons,List.sum_cons]
  have:=h x (List.mem_cons_self ..);have:=sum_le (xs:=xs) fun y hy=>h y (List.mem_cons_of_mem _ hy);omega
theorem zi1 (f:za0):∀ d,(f.flat d).nodes<=f.wid :=
 za0.ind (P:=fun f=>∀ d,(f.flat d).nodes<=f.wid) (fun k r ks ih d=>by
  rw [za0.flat_eq,za0.wid_eq]
  show (flatK k r (ks.map za0.flat) d).nodes<=3+((cnt k ks).map za0.wid).sum
  have ht:∀ b,(zcq b).nodes=1:=fun b=>by rw [za0.nodes_eq];rfl
  unfold flatK
  split
  ·rw [ht];omega
  ·split
   ·split
    ·have h1:=zdj (k:=5) ((zb9 r).map zb1) []
     rw [List.map_map] at h1
     have e:(za0.nodes ∘ zb1)=fun _=>1:=funext fun q=>zgn q
     rw [e] at h1
     have h2:((zb9 r).map fun _=>(1:Nat)).sum<=2:=by unfold zb9;split <;> simp
     show (zcm 5 _ []).nodes<=_
     simp only [List.map_nil,List.sum_nil] at h1
     omega
    ·rw [zgn];omega
   ·split
    ·rename_i h3
     cases ks with
     | nil=>show (zcq d).nodes<=_;rw [ht];omega
     | cons g gs =>
      subst h3
      have:=ih g (List.mem_cons_self ..) (!d)
      show (g.flat (!d)).nodes<=3+(([g]).map za0.wid).sum
      simp only [List.map_cons,List.map_nil,List.sum_cons,List.sum_nil];omega
    ·split
     ·rename_i h4
      have h1:=zdj (k:=if d=true then 9 - k else k) ((ks.map za0.flat).map fun c=>c d) []
      rw [List.map_map,List.map_map] at h1
      have h2:(ks.map (za0.nodes ∘ ((fun c=>c d) ∘ za0.flat))).sum<=(ks.map za0.wid).sum:=sum_le fun g hg=>ih g hg d
      show (zcm _ _ []).nodes<=_
      rw [show cnt k ks=ks from by unfold cnt;rw [if_pos h4],List.map_map]
      simp only [List.map_nil,List.sum_nil] at h1
      omega
     ·rw [ht];omega) f
theorem tight_tok {n L:Nat} {r:zb0} (h:TOk n L r.t) (hn:n<=1000):TOk n (L+4) (zb8 r).1.t:=by
 have hs:=shr_tok h hn
 unfold zb8
 split
 ·exact ⟨Nat.zero_le _,(fun p hp=>by cases hp),zdo,Nat.zero_le _⟩
 ·split
  ·exact ⟨Nat.zero_le _,(fun p hp=>by cases hp),zdo,Nat.zero_le _⟩
  ·show TOk n (L+4) (if _ then neg1 (zeq r.t) else zeq r.t)
   split
   ·exact ((TOk.mul hs (ZI.lb_of _) (show (ZI.of (-1)).abs.length<=2 from by decide)).plain hn).mono (Nat.le_refl _) (by omega)
   ·exact hs.mono (Nat.le_refl _) (by omega)
theorem zje {n L:Nat} {t:zak} (h:TOk n L t) (hn:n<=1000):TOk n (L+3) (neg1 t):=(TOk.mul h (ZI.lb_of _) (show (ZI.of (-1)).abs.length<=2 from by decide)).plain hn
theorem low_tok {n L:Nat} {t:zak} (h:TOk n L t) (hn:n<=1000):TOk n (2*L+16) (lowR t).t:=by
 have h1:=(zje h hn).mono (Nat.le_refl n) (show L+3<=L+6 by omega)
 have h0:TOk 0 2 (zcf (ZI.of 1)):=TOk.num (ZI.lb_of _) (by decide)
 have h2:TOk 0 (L+6) (zbk (zcf (ZI.of 1)) (ZI.of (-1))):=((TOk.mul h0 (ZI.lb_of _) (show (ZI.of (-1)).abs.length<=2 from by decide)).plain (by decide)).mono (Nat.le_refl _) (by omega)
 exact (addT_ok h1 h2 (by omega)).mono (by omega) (by omega)
theorem deny_tok {n L:Nat} {r:zb0} (h:TOk n L r.t) (hn:n<=1000):∀ q ∈ zb9 r,TOk n (2*L+22) q.t:=fun q hq=>by
 unfold zb9 at hq
 split at hq
 ·rcases List.mem_cons.1 hq with rfl | hq
  ·exact (low_tok (zje h hn) hn).mono (Nat.le_refl _) (by omega)
  ·rw [List.mem_singleton.1 hq];exact (low_tok h hn).mono (Nat.le_refl _) (by omega)
 ·rw [List.mem_singleton.1 hq];exact (low_tok h hn).mono (Nat.le_refl _) (by omega)
theorem wid_kid {f g:za0} (h:g ∈ cnt f.kind f.kids):g.wid<=f.wid:=by
 rw [za0.wid_eq f]
 have:∀ (xs:List za0),g ∈ xs->g.wid<=(xs.map za0.wid).sum:=fun xs=>by
  induction xs with
  | nil=>intro h;cases h
  | cons x xs ih =>
   intro h
   rw [List.map_cons,List.sum_cons]
   rcases List.mem_cons.1 h with rfl | h
   ·omega
   ·have:=ih h;omega
 have:=this _ h;omega
theorem flats_nodes {ks:List za0} {k:Int} (h4:k=4\/k=5) {r:zb0} (d:Bool) (_hw:(za0.mk k r ks).wid<=1000000):((ks.map fun g=>g.flat d).map za0.nodes).sum<=(za0.mk k r ks).wid:=by
 rw [za0.wid_eq]
 rw [List.map_map,show cnt (za0.mk k r ks).kind (za0.mk k r ks).kids=ks from (show cnt k ks=ks from by unfold cnt;rw [if_pos h4])]
 have:(ks.map (za0.nodes ∘ fun g=>g.flat d)).sum<=(ks.map za0.wid).sum:=sum_le fun g _=>zi1 g d
 omega
theorem ld4_5:za4 Tryz.prog 95:=za4.mk' (by kernel_rfl)
theorem ld4_6:za4 Tryz.prog 125:=za4.mk' (by kernel_rfl)
theorem ld4_7:za4 Tryz.prog 126:=za4.mk' (by kernel_rfl)
theorem ld4_9:za4 Tryz.prog 127:=za4.mk' (by kernel_rfl)
theorem ld4_10:za4 Tryz.prog 128:=za4.mk' (by kernel_rfl)
theorem zfq {k:Int} {fs:List za0} {j:Nat} {x:za0} {out:List za0} (h:fs[j]?=some x):zcm k (fs.drop j) out=if (k=4/\x.kind=1)\/(k=5/\x.kind=0) then x else if x.kind=0\/x.kind=1 then zcm k (fs.drop (j+1)) out else if x.kind=k then zcm k (fs.drop (j+1)) (out++x.kids) else zcm k (fs.drop (j+1)) (out++[x]):=by
 obtain ⟨hj,rfl⟩:=List.getElem?_eq_some_iff.1 h
 rw [List.drop_eq_getElem_cons hj,zcm]
theorem zdy {fs:List za0} {j:Nat} {x:za0} (h:fs[j]?=some x):((fs.drop j).map za0.nodes).sum=x.nodes+((fs.drop (j+1)).map za0.nodes).sum:=by
 obtain ⟨hj,rfl⟩:=List.getElem?_eq_some_iff.1 h
 rw [List.drop_eq_getElem_cons hj,List.map_cons,List.sum_cons]
theorem zfu (xs ys:List za0):((xs++ys).map za0.nodes).sum=(xs.map za0.nodes).sum+(ys.map za0.nodes).sum:=by rw [List.map_append,List.sum_append]
theorem zh2 (x:za0):([x].map za0.nodes).sum=x.nodes:=by simp
theorem join_nil {k:Int} {out:List za0} (h:out.length=0):zcm k [] out=zcq (k == 4):=by rw [List.length_eq_zero_iff.1 h];rfl
theorem join_one {k:Int} {out:List za0} {g:za0} (h:out.length=1) (hg:out[0]?=some g):zcm k [] out=g:=by
 match out with
 | [q]=>injection hg with hg
 | _ :: _ :: _=>simp at h
theorem join_two {k:Int} {out:List za0} (h0:out.length≠0) (h1:out.length≠1):zcm k [] out=⟨k,zR,out⟩:=by
 match out with
 | []=>exact absurd rfl h0
 | [q]=>exact absurd rfl h1
 | _ :: _ :: _=>rfl
theorem Ljoin (k:Int) (fs:List za0) (_hk:k=4\/k=5) (hn:(fs.map za0.nodes).sum<=1000000):Fn Tryz.prog 127 [] [vI k,(vFs fs)] (vF (zf0 k fs)) []:=by
 have lf:=len_nodes fs;refine Fn.body Tryz.func127 rfl 68 rfl fun w H B a h=>Jq 5 [] [(0,vI k),(1,(vFs fs)),(4,vp 5 0)] [(5,.box zF0)] h fun a w h=>Je 6 [] [] [(5,vW zaf)] h fun a w h=>qW (Je 6 [(1,.len (za6 6 za0.d fs))] [1] [(8,(vFs fs)),(9,vN fs.length),(10,vI 0)] h fun a w h=>qZ ?_)
 replace h:=zew 5 0 6 6 35 (vW zaf) [(0,vI k),(4,vp 5 0),(5,vO 6 0),(8,(vFs fs)),(9,vN fs.length),(10,vI 0)] [(5,.box zF0),(6,.row 35 6 ([].map za0.d))] h (by kernel_rfl) rfl rfl
 refine zaq (ι:=(Nat) × (List za0)) (fun (j,out)=>j<=fs.length/\zf0 k fs=zcm k (fs.drop j) out/\(out.map za0.nodes).sum+((fs.drop j).map za0.nodes).sum<=1000000)
   (fun (j,out)=>[(0,vI k),(4,vp 5 0),(5,vO 6 out.length),(8,(vFs fs)),(9,vN fs.length),(10,vN j)])
   (fun (j,out)=>[(5,.box zF0),(6,.row 35 6 (out.map za0.d))])
   (fun (j,out)=>fs.length - j) (0,[]) ?_ h (by kernel_rfl) (by kernel_rfl) ?_
 ·exact ⟨Nat.zero_le _,rfl,by show 0+(fs.map za0.nodes).sum<=_;omega⟩
 clear h;rintro ⟨j,out⟩ a w hI h;dsimp only at h;obtain ⟨hI1,hI2,hI3⟩:=hI;have lo:=len_nodes out;refine Je 7 [] [] [(11,vb (decide ((j:Int)<(fs.length:Int))))] h fun a w h=>qW (zam ((j:Int)<(fs.length:Int)) h (fun hc1 hc1'=>?_) (fun hc18 hc18'=>?_))
 ·refine qU (za1 (qW (qZ ?_)));obtain ⟨x1,hx1⟩:=gl fs j;have knx1:=zhw x1;have dnx1:=zdy hx1;refine Jd 7 [(0,.g (xD 12 8 ziz ((zab hx1 (f:=za0.d)).trans (congrArg some (za0.d_eq x1))) (OV.tmp 10 _)))] [11] [(7,vp 7 0)] [(5,.box zF0),(6,.row 35 6 (out.map za0.d)),(7,.box (zF x1))] h fun a w h=>qZ (midH h [(0,vI k),(4,vp 5 0),(5,vO 6 out.length),(7,vp 7 0),(8,(vFs fs)),(9,vN fs.length),(10,vN j),(18,vb (decide ((k=4/\x1.kind=1)\/(k=5/\x1.kind=0))))] [(5,.box zF0),(6,.row 35 6 (out.map za0.d)),(7,.box (zF x1))] ?_ (fun a w h=>?_))
  ·rcases Bool.eq_false_or_eq_true (k == 4) with hc2 | hc7
   ·have hc2':=hc2;(try simp at hc2');refine Je 8 [(1,.cmp (op:=.eql) (m:=k) (n:=4) (b:=true) .i64 hc2)] [] [(18,vb (x1.kind == 1))] h fun a w h=>cS (x1.kind == 1) h (fun hc3=>?_) (fun hc4=>?_)
    ·have hc3':=hc3;(try simp at hc3');refine qU (za1 ?_);have p0: k=4:=by have:=hc2;simpa using this
     have p1: x1.kind=1:=by have:=hc3;simpa using this
     have hjn:decide ((k=4/\x1.kind=1)\/(k=5/\x1.kind=0))=(x1.kind == 1):=by exact decide_eq_decide.2 (by omega)
     replace h:=h.conv (f':=F.of [(0,vI k),(4,vp 5 0),(5,vO 6 out.length),(7,vp 7 0),(8,(vFs fs)),(9,vN fs.length),(10,vN j),(18,vb (decide ((k=4/\x1.kind=1)\/(k=5/\x1.kind=0))))] [(5,.box zF0),(6,.row 35 6 (out.map za0.d)),(7,.box (zF x1))]) (by rw [hjn];kernel_rfl);exact atS h
    have hc4':=hc4;(try simp at hc4')
    rcases Bool.eq_false_or_eq_true (k == 5) with hc5 | hc6
    ·have hc5':=hc5;(try simp at hc5');refine Jf 8 [(1,.cmp (op:=.eql) (m:=k) (n:=5) (b:=true) .i64 hc5)] [] [(18,vb (x1.kind == 0))] h fun a w h=>za1 ?_;have p0: k=4:=by have:=hc2;simpa using this
     have p1:¬ x1.kind=1:=by have:=hc4;simpa using this
     have p2: k=5:=by have:=hc5;simpa using this
     have hjn:decide ((k=4/\x1.kind=1)\/(k=5/\x1.kind=0))=(x1.kind == 0):=by exact decide_eq_decide.2 (by omega)
     replace h:=h.conv (f':=F.of [(0,vI k),(4,vp 5 0),(5,vO 6 out.length),(7,vp 7 0),(8,(vFs fs)),(9,vN fs.length),(10,vN j),(18,vb (decide ((k=4/\x1.kind=1)\/(k=5/\x1.kind=0))))] [(5,.box zF0),(6,.row 35 6 (out.map za0.d)),(7,.box (zF x1))]) (by rw [hjn];kernel_rfl);exact atS h
    have hc6':=hc6;(try simp at hc6');refine Jf 8 [(1,.cmp (op:=.eql) (m:=k) (n:=5) (b:=false) .i64 hc6)] [] [(18,vb false)] h fun a w h=>za1 ?_;have p0: k=4:=by have:=hc2;simpa using this
    have p1:¬ x1.kind=1:=by have:=hc4;simpa using this
    have p2:¬ k=5:=by have:=hc6;simpa using this
    have hjn:decide ((k=4/\x1.kind=1)\/(k=5/\x1.kind=0))=(false):=by exact decide_eq_false (by omega)
    replace h:=h.conv (f':=F.of [(0,vI k),(4,vp 5 0),(5,vO 6 out.length),(7,vp 7 0),(8,(vFs fs)),(9,vN fs.length),(10,vN j),(18,vb (decide ((k=4/\x1.kind=1)\/(k=5/\x1.kind=0))))] [(5,.box zF0),(6,.row 35 6 (out.map za0.d)),(7,.box (zF x1))]) (by rw [hjn];kernel_rfl);exact atS h
   have hc7':=hc7;(try simp at hc7');refine Je 8 [(1,.cmp (op:=.eql) (m:=k) (n:=4) (b:=false) .i64 hc7)] [] [(18,vb false)] h fun a w h=>zap false h rfl nofun (fun _=>?_)
   rcases Bool.eq_false_or_eq_true (k == 5) with hc8 | hc9
   ·have hc8':=hc8;(try simp at hc8');refine Jf 8 [(1,.cmp (op:=.eql) (m:=k) (n:=5) (b:=true) .i64 hc8)] [] [(18,vb (x1.kind == 0))] h fun a w h=>za1 ?_;have p0:¬ k=4:=by have:=hc7;simpa using this
    have p1: k=5:=by have:=hc8;simpa using this
    have hjn:decide ((k=4/\x1.kind=1)\/(k=5/\x1.kind=0))=(x1.kind == 0):=by exact decide_eq_decide.2 (by omega)
    replace h:=h.conv (f':=F.of [(0,vI k),(4,vp 5 0),(5,vO 6 out.length),(7,vp 7 0),(8,(vFs fs)),(9,vN fs.length),(10,vN j),(18,vb (decide ((k=4/\x1.kind=1)\/(k=5/\x1.kind=0))))] [(5,.box zF0),(6,.row 35 6 (out.map za0.d)),(7,.box (zF x1))]) (by rw [hjn];kernel_rfl);exact atS h
   have hc9':=hc9;(try simp at hc9');refine Jf 8 [(1,.cmp (op:=.eql) (m:=k) (n:=5) (b:=false) .i64 hc9)] [] [] h fun a w h=>za1 ?_;have p0:¬ k=4:=by have:=hc7;simpa using this
   have p1:¬ k=5:=by have:=hc9;simpa using this
   have hjn:decide ((k=4/\x1.kind=1)\/(k=5/\x1.kind=0))=(false):=by exact decide_eq_false (by omega)
   replace h:=h.conv (f':=F.of [(0,vI k),(4,vp 5 0),(5,vO 6 out.length),(7,vp 7 0),(8,(vFs fs)),(9,vN fs.length),(10,vN j),(18,vb (decide ((k=4/\x1.kind=1)\/(k=5/\x1.kind=0))))] [(5,.box zF0),(6,.row 35 6 (out.map za0.d)),(7,.box (zF x1))]) (by rw [hjn];kernel_rfl);exact atS h
  refine zam ((k=4/\x1.kind=1)\/(k=5/\x1.kind=0)) h (fun hc10 hc10'=>?_) (fun hc11 hc11'=>?_)
  ·refine Jd 8 [] [7,18] [] [(5,.box (zF x1)),(6,.row 35 6 (out.map za0.d))] h fun a w h=>qV (zae (zae (za7 (za7 (zae (za7 ?_))))));refine rA 5 (zF x1) h zch rfl ?_
   have hz:zf0 k fs=x1:=by rw [hI2,zfq hx1,if_pos (by omega)]
   rw [hz];try rfl
  rcases Bool.eq_false_or_eq_true (x1.kind == 0) with hc12 | hc13
  ·have hc12':=hc12;(try simp at hc12');refine Je 8 [(2,.cmp (op:=.eql) (m:=x1.kind) (n:=0) (b:=true) .i64 hc12)] [18] [(34,vb true)] h fun a w h=>cS true h (fun _=>?_) nofun
   refine qU (za9 (za9 (za1 (Jm 8 [(0,.j1 j)] [7,34] [(10,vI ((j:Int)+1))] [(5,.box zF0),(6,.row 35 6 (out.map za0.d))] h fun a w h=>za1 (zag (x:=(j,out)) (y:=(j+1,out)) h ?_ ?_)))))
   ·have:=zaj hx1;have hdn:=zdy hx1;have hxn:=za0.nodes_eq x1;have p0: x1.kind=0:=by have:=hc12;simpa using this
    exact ⟨by omega,by rw [hI2,zfq hx1,if_neg (by omega),if_pos (by omega)],by first | omega | (rw [zfu];(try rw [zh2]);omega)⟩
   show fs.length - (j+1)<fs.length - j;have:=zaj hx1;omega
  have hc13':=hc13;(try simp at hc13');refine Je 8 [(2,.cmp (op:=.eql) (m:=x1.kind) (n:=0) (b:=false) .i64 hc13)] [18] [(34,vb (x1.kind == 1))] h fun a w h=>cS (x1.kind == 1) h (fun hc14=>?_) (fun hc15=>?_)
  ·have hc14':=hc14;(try simp at hc14');refine qU (za9 (za9 (za1 (Jm 8 [(0,.j1 j)] [7,34] [(10,vI ((j:Int)+1))] [(5,.box zF0),(6,.row 35 6 (out.map za0.d))] h fun a w h=>za1 (zag (x:=(j,out)) (y:=(j+1,out)) h ?_ ?_)))))
   ·have:=zaj hx1;have hdn:=zdy hx1;have hxn:=za0.nodes_eq x1;have p0:¬ x1.kind=0:=by have:=hc13;simpa using this
    have p1: x1.kind=1:=by have:=hc14;simpa using this
    exact ⟨by omega,by rw [hI2,zfq hx1,if_neg (by omega),if_pos (by omega)],by first | omega | (rw [zfu];(try rw [zh2]);omega)⟩
   show fs.length - (j+1)<fs.length - j;have:=zaj hx1;omega
  have hc15':=hc15;(try simp at hc15');refine Je 8 [] [34] [(43,vb (x1.kind == k))] h fun a w h=>cS (x1.kind == k) h (fun hc16=>?_) (fun hc17=>?_)
  ·have hc16':=hc16;(try simp at hc16');refine Jm 8 [(3,.g (aD 51 48 50 6 8 out x1.kids za0.d la_7 (by simp [za0.d_len])))] [7,43] [(5,vO 8 (out++x1.kids).length)] [(5,.box zF0),(8,.row 35 6 ((out++x1.kids).map za0.d))] h fun a w h=>za9 (za9 (za1 (Jf 9 [(0,.j1 j)] [] [(10,vI ((j:Int)+1))] h fun a w h=>za1 ?_)));replace h:=zec 8 6 [(0,vI k),(4,vp 5 0),(5,vO 6 (out++x1.kids).length),(8,(vFs fs)),(9,vN fs.length),(10,vI ((j:Int)+1))] [(5,.box zF0),(6,.row 35 6 ((out++x1.kids).map za0.d))] h;refine zag (x:=(j,out)) (y:=(j+1,(out++x1.kids))) h ?_ ?_
   ·have:=zaj hx1;have hdn:=zdy hx1;have hxn:=za0.nodes_eq x1;have p0:¬ x1.kind=0:=by have:=hc13;simpa using this
    have p1:¬ x1.kind=1:=by have:=hc15;simpa using this
    have p2: x1.kind=k:=by have:=hc16;simpa using this
    exact ⟨by omega,by rw [hI2,zfq hx1,if_neg (by omega),if_neg (by omega),if_pos (by omega)],by first | omega | (rw [zfu];(try rw [zh2]);omega)⟩
   show fs.length - (j+1)<fs.length - j;have:=zaj hx1;omega
  have hc17':=hc17;(try simp at hc17');refine Jm 9 [(2,.g (bD 16 ([x1].map za0.d) [(15,(vF x1))] zh7 (.cons (i:=0) (OV.tmp 15 _) (.nil)) (by simp only [List.map_cons,List.map_nil,List.flatten_cons,List.flatten_nil,List.append_nil,za0.d_eq];kernel_rfl) (by simp [za0.d_len]))),(3,.g (aD 17 14 16 6 9 out [x1] za0.d la_7 (by simp [za0.d_len])))] [7,43] [(5,vO 9 (out++[x1]).length)] [(5,.box zF0),(9,.row 35 6 ((out++[x1]).map za0.d))] h fun a w h=>za9 (za9 (za1 (Jf 10 [(0,.j1 j)] [] [(10,vI ((j:Int)+1))] h fun a w h=>za1 ?_)));replace h:=zec 9 6 [(0,vI k),(4,vp 5 0),(5,vO 6 (out++[x1]).length),(8,(vFs fs)),(9,vN fs.length),(10,vI ((j:Int)+1))] [(5,.box zF0),(6,.row 35 6 ((out++[x1]).map za0.d))] h;refine zag (x:=(j,out)) (y:=(j+1,(out++[x1]))) h ?_ ?_
  ·have:=zaj hx1;have hdn:=zdy hx1;have hxn:=za0.nodes_eq x1;have p0:¬ x1.kind=0:=by have:=hc13;simpa using this
   have p1:¬ x1.kind=1:=by have:=hc15;simpa using this
   have p2:¬ x1.kind=k:=by have:=hc17;simpa using this
   exact ⟨by omega,by rw [hI2,zfq hx1,if_neg (by omega),if_neg (by omega),if_neg (by omega)],by first | omega | (rw [zfu];(try rw [zh2]);omega)⟩
  show fs.length - (j+1)<fs.length - j;have:=zaj hx1;omega
 refine wp_exit (zaa (zaa (za5 (za1 (qW (Je 10 [] [8,9,10,11] [(54,vN out.length)] h fun a w h=>qZ (Je 10 [] [] [(55,vb ((out.length:Int) == 0))] h fun a w h=>cS ((out.length:Int) == 0) h (fun hc19=>?_) (fun hc20=>?_))))))))
 ·have hc19':=hc19;(try simp at hc19');refine Jd 10 [(2,.call (zfz (k == 4)) la_8)] [54,55] [] [(5,.box (zF (zcq (k == 4)))),(6,.row 35 6 (out.map za0.d))] h fun a w h=>qV (zae (za7 (rA 5 (zF (zcq (k == 4))) h zch rfl ?_)));have hdz:fs.drop j=[]:=List.drop_of_length_le (by omega);have hz:zf0 k fs=zcq (k == 4):=by rw [hI2,hdz];exact join_nil (by have:=hc19;simp at this;first | omega | (rw [this];rfl))
  rw [hz];try rfl
 have hc20':=hc20;(try simp at hc20');refine Je 10 [] [54,55] [(60,vb ((out.length:Int) == 1))] h fun a w h=>cS ((out.length:Int) == 1) h (fun hc21=>?_) (fun hc22=>?_)
 ·have hc21':=hc21;(try simp at hc21');obtain ⟨x3,hx3⟩:=gl out 0;refine Jd 10 [(1,.g (xO 63 62 6 out.length 0 ziz (OV.const (.int .i64 0) rfl))),(2,.g (Op.loadR_agg (d:=64) (t:=63) (n:=6) (i:=0) (fo:=0) (rty:=35) (es:=6) (xs:=[.raw (.int .i64 x3.kind),.sl 3 (x3.r.t.parts.map za3.d),.raw (.bool x3.r.t.k.neg),nsl x3.r.t.k.abs,.raw (.bool x3.r.eq),.sl 6 (x3.kids.map za0.d)]) zch rfl ((zab hx3 (f:=za0.d)).trans (congrArg some (za0.d_eq x3))) rfl rfl))] [60] [] [(5,.box (zF x3)),(6,.row 35 6 (out.map za0.d))] h fun a w h=>qV (zae (za7 (rA 5 (zF x3) h zch rfl ?_)));have hdz:fs.drop j=[]:=List.drop_of_length_le (by omega);have hz:zf0 k fs=x3:=by rw [hI2,hdz];exact join_one (by have:=hc21;simp at this;omega) hx3
  rw [hz];try rfl
 have hc22':=hc22;(try simp at hc22');refine qU (za9 (za1 (Jq 10 [] [(4,vp 5 0)] [(5,.box [cI k,.d (.raw zaf),cB false,.d (nsl []),cB false,.own 6 out.length]),(6,.row 35 6 (out.map za0.d))] h fun a w h=>qV ?_)));replace h:=zbm 5 1 3 [cI k,.d (.raw zaf),cB false,.d (nsl []),cB false,.own 6 out.length] [(4,vp 5 0)] [(5,.box [cI k,cPs [],cB false,.d (nsl []),cB false,.own 6 out.length]),(6,.row 35 6 (out.map za0.d))] h rfl rfl;replace h:=ziv 6 6 35 (out.map za0.d) [(4,vp 5 0)] [(5,.box [cI k,cPs [],cB false,.d (nsl []),cB false,cFs out])] h rfl trivial (show zbx _ [out.length] from ⟨by first | exact (List.length_map _).symm | (simp;done) | (simp;omega),trivial⟩);refine rA 5 [cI k,cPs [],cB false,.d (nsl []),cB false,cFs out] h zch rfl ?_;have hdz:fs.drop j=[]:=List.drop_of_length_le (by omega);have hz:zf0 k fs=⟨k,zR,out⟩:=by rw [hI2,hdz];exact join_two (fun e=>by have:=hc20;rw [e] at this;simp at this) (fun e=>by have:=hc22;rw [e] at this;simp at this)
 rw [hz];try rfl
theorem deny_len (r:zb0):(zb9 r).length<=2:=by unfold zb9;split <;> simp
theorem tight_sum (r:zb0):(((zb9 r).map zb1).map za0.nodes).sum<=1000000:=by
 rw [List.map_map]
 have e:(za0.nodes ∘ zb1)=fun _=>1:=funext fun q=>zgn q
 rw [e]
 have h2:((zb9 r).map fun _=>(1:Nat)).sum<=2:=by unfold zb9;split <;> simp
 omega
theorem zh8 {f:za0} (h4:f.kind=4\/f.kind=5) (d:Bool) (hw:f.wid<=1000000):((f.kids.map fun g=>g.flat d).map za0.nodes).sum<=1000000:=by
 obtain ⟨k,r,ks⟩:=f
 exact Nat.le_trans (flats_nodes h4 (r:=r) d hw) hw
theorem flat_0 {f:za0} {d:Bool} (h:f.kind=0):f.flat d=zcq (!d):=by rw [za0.flat_eq,h];rfl
theorem flat_2f {f:za0} {d:Bool} (h:f.kind=2) (hd:d=false):f.flat d=zb1 f.r:=by rw [za0.flat_eq,h,hd];rfl
theorem flat_2t {f:za0} {d:Bool} (h:f.kind=2) (hd:d=true):f.flat d=zf0 5 ((zb9 f.r).map zb1):=by rw [za0.flat_eq,h,hd];rfl
theorem flat_3n {f:za0} {d:Bool} (h:f.kind=3) (hl:f.kids.length=0):f.flat d=zcq d:=by rw [za0.flat_eq,h,List.length_eq_zero_iff.1 hl];rfl
theorem flat_3c {f g:za0} {d:Bool} (h:f.kind=3) (hg:f.kids[0]?=some g):f.flat d=g.flat (!d):=by
 obtain ⟨tl,e⟩:=cons_of_at hg
 rw [za0.flat_eq,h,e];rfl
theorem flat_45 {f:za0} {d:Bool} (h:f.kind=4\/f.kind=5):f.flat d=zf0 (if d=true then 9 - f.kind else f.kind) (f.kids.map fun g=>g.flat d):=by
 rw [za0.flat_eq];unfold flatK
 rw [if_neg (by omega),if_neg (by omega),if_neg (by omega),if_pos h,List.map_map];rfl
theorem flat_x {f:za0} {d:Bool} (h0:f.kind≠0) (h2:f.kind≠2) (h3:f.kind≠3) (h4:f.kind≠4) (h5:f.kind≠5):f.flat d=zcq d:=by
 rw [za0.flat_eq];unfold flatK
 rw [if_neg h0,if_neg h2,if_neg h3,if_neg (by omega)]
theorem Lflats (fs:List za0) (d:Bool) (hfl:∀ g ∈ fs,Fn Tryz.prog 95 [] [(vF g),vb d] (vF (za0.flat g d)) []) (hl:fs.length<=1000000):Fn Tryz.prog 128 [] [(vFs fs),vb d] (vFs (fs.map (fun g=>za0.flat g d))) []:=by
 refine Fn.body Tryz.func128 rfl 22 rfl fun w H B a h=>Jq 5 [] [(0,(vFs fs)),(1,vb d),(4,vW zaf)] [] h fun a w h=>Jd 5 [] [] [(5,vW zaf)] [] h fun a w h=>qW (Jd 5 [(1,.len (za6 6 za0.d fs))] [0] [(8,(vFs fs)),(9,vN fs.length),(10,vI 0)] [] h fun a w h=>qZ ?_)
 replace h:=zew 5 0 5 6 35 (vW zaf) [(1,vb d),(4,vW zaf),(5,vO 5 0),(8,(vFs fs)),(9,vN fs.length),(10,vI 0)] [(5,.row 35 6 ([].map za0.d))] h (by kernel_rfl) rfl rfl
 refine zaq (ι:=(Nat)) (fun j=>j<=fs.length)
   (fun j=>[(1,vb d),(4,vW zaf),(5,vO 5 ((fs.take j).map (fun g=>za0.flat g d)).length),(8,(vFs fs)),(9,vN fs.length),(10,vN j)])
   (fun j=>[(5,.row 35 6 (((fs.take j).map (fun g=>za0.flat g d)).map za0.d))])
   (fun j=>fs.length - j) 0 ?_ h (by kernel_rfl) (by kernel_rfl) ?_
 ·exact Nat.zero_le _
 clear h;rintro j a w hI h;have lmj:((fs.take j).map (fun g=>za0.flat g d)).length<=j:=by rw [List.length_map,List.length_take];omega
 refine Je 6 [] [] [(11,vb (decide ((j:Int)<(fs.length:Int))))] h fun a w h=>qW (zam ((j:Int)<(fs.length:Int)) h (fun hc1 hc1'=>?_) (fun hc2 hc2'=>?_))
 ·refine qU (za1 (qW (qZ ?_)));obtain ⟨x1,hx1⟩:=gl fs j;refine Jd 6 [(0,.g (xD 12 8 ziz ((zab hx1 (f:=za0.d)).trans (congrArg some (za0.d_eq x1))) (OV.tmp 10 _)))] [11] [(7,vp 6 0)] [(5,.row 35 6 (((fs.take j).map (fun g=>za0.flat g d)).map za0.d)),(6,.box (zF x1))] h fun a w h=>Jm 7 [(3,.call (hfl x1 (lM hx1)) ld4_5),(4,.g (bD 18 ([(za0.flat x1 d)].map za0.d) [(17,(vF (za0.flat x1 d)))] zh7 (.cons (i:=0) (OV.tmp 17 _) (.nil)) (by simp only [List.map_cons,List.map_nil,List.flatten_cons,List.flatten_nil,List.append_nil,za0.d_eq];kernel_rfl) (by simp [za0.d_len]))),(5,.g (aD 19 14 18 5 7 ((fs.take j).map (fun g=>za0.flat g d)) [(za0.flat x1 d)] za0.d la_7 (by simp [za0.d_len])))] [7] [(5,vO 7 (((fs.take j).map (fun g=>za0.flat g d))++[(za0.flat x1 d)]).length)] [(7,.row 35 6 ((((fs.take j).map (fun g=>za0.flat g d))++[(za0.flat x1 d)]).map za0.d))] h fun a w h=>za9 (za1 (Jf 8 [(0,.j1 j)] [] [(10,vI ((j:Int)+1))] h fun a w h=>za1 ?_));rw [show ((((fs.take j).map (fun g=>za0.flat g d))++[(za0.flat x1 d)]):List za0)=((fs.take (j+1)).map (fun g=>za0.flat g d)) from (zg8 hx1)] at h;replace h:=zec 7 5 [(1,vb d),(4,vW zaf),(5,vO 5 ((fs.take (j+1)).map (fun g=>za0.flat g d)).length),(8,(vFs fs)),(9,vN fs.length),(10,vI ((j:Int)+1))] [(5,.row 35 6 (((fs.take (j+1)).map (fun g=>za0.flat g d)).map za0.d))] h;refine zag (x:=j) (y:=j+1) h ?_ ?_
  ·have:=zaj hx1;show j+1<=fs.length;omega
  show fs.length - (j+1)<fs.length - j;have:=zaj hx1;omega
 refine wp_exit (zaa (zaa (za5 (za1 (Jp 8 [] [(4,vO 5 ((fs.take j).map (fun g=>za0.flat g d)).length)] h fun a w h=>qV ?_)))));rw [show (((fs.take j).map (fun g=>za0.flat g d)):List za0)=(fs.map (fun g=>za0.flat g d)) from (by rw [List.take_of_length_le (by omega)])] at h;replace h:=ziv 5 6 35 ((fs.map (fun g=>za0.flat g d)).map za0.d) [(4,(vFs (fs.map (fun g=>za0.flat g d))))] [] h rfl (show zbx _ [(fs.map (fun g=>za0.flat g d)).length] from ⟨by first | exact (List.length_map _).symm | (simp;done) | (simp;omega),trivial⟩) trivial;refine rT (.c (cFs (fs.map (fun g=>za0.flat g d)))) h rfl ?_;rfl
theorem Lflat0 (f:za0) (d:Bool) (ih:∀ g ∈ cnt f.kind f.kids,∀ d:Bool,Fn Tryz.prog 95 [] [(vF g),vb d] (vF (za0.flat g d)) []) (hf:f.okB 300 2000) (hw:f.wid<=1000000):Fn Tryz.prog 95 [] [(vF f),vb d] (vF (za0.flat f d)) []:=by
 have ldn:=deny_len f.r;have lkm:=zd2 hf;refine Fn.body Tryz.func95 rfl 69 rfl fun w H B a h=>Jq 5 [] [(1,vb d),(2,vp 5 0),(4,vp 6 0)] [(5,.box (zF f)),(6,.box zF0)] h fun a w h=>qW (Je 7 [] [] [(10,vI f.kind)] h fun a w h=>qZ (Je 7 [] [] [(11,vb (f.kind == 0))] h fun a w h=>cS (f.kind == 0) h (fun hc1=>?_) (fun hc2=>?_)))
 ·have hc1':=hc1;(try simp at hc1');refine Jd 7 [(2,.call (zfz (!d)) la_8)] [2,10,11] [] [(6,.box (zF (zcq (!d))))] h fun a w h=>qV (zae (za7 (rA 6 (zF (zcq (!d))) h zch rfl ?_)));rw [flat_0 (by have:=hc1;simpa using this)];try rfl
 have hc2':=hc2;(try simp at hc2');refine Je 7 [] [11] [(16,vb (f.kind == 2))] h fun a w h=>cS (f.kind == 2) h (fun hc3=>?_) (fun hc8=>?_)
 ·have hc3':=hc3;(try simp at hc3');refine qW (Je 7 [] [10,16] [(19,vb (!d))] h fun a w h=>cS (!d) h (fun hc4=>?_) (fun hc5=>?_))
  ·have hc4':=hc4;(try simp at hc4');refine Jd 7 [(2,.call (LtightF f.r ((rel_ok hf hc3).mono (by decide) (by decide))) ld4_6)] [19] [] [(5,.box (zF f)),(6,.box (zF (zb1 f.r)))] h fun a w h=>qV (za7 (zae (za7 (rA 6 (zF (zb1 f.r)) h zch rfl ?_))));rw [flat_2f (by have:=hc3;simpa using this) (show (d)=false from by simpa using hc4)];try rfl
  have hc5':=hc5;(try simp at hc5');refine qU (za1 (Je 7 [] [19] [(5,vW zaf)] h fun a w h=>qW (Jd 7 [(2,.call (LrDeny f.r (rel_ok hf hc3)) ld4_7),(3,.len (za6 4 zb0.d (zb9 f.r)))] [2] [(25,(vRs (zb9 f.r))),(26,vI ((zb9 f.r).length:Int)),(27,vI 0)] [(6,.box zF0)] h fun a w h=>qZ ?_)));replace h:=zew 5 0 7 6 35 (vW zaf) [(1,vb d),(4,vp 6 0),(5,vO 7 0),(25,(vRs (zb9 f.r))),(26,vI ((zb9 f.r).length:Int)),(27,vI 0)] [(6,.box zF0),(7,.row 35 6 ([].map za0.d))] h (by kernel_rfl) rfl rfl
  refine zaq (ι:=(Nat)) (fun j=>j<=(zb9 f.r).length)
    (fun j=>[(1,vb d),(4,vp 6 0),(5,vO 7 (((zb9 f.r).take j).map zb1).length),(25,(vRs (zb9 f.r))),(26,vI ((zb9 f.r).length:Int)),(27,vN j)])
    (fun j=>[(6,.box zF0),(7,.row 35 6 ((((zb9 f.r).take j).map zb1).map za0.d))])
    (fun j=>(zb9 f.r).length - j) 0 ?_ h (by kernel_rfl) (by kernel_rfl) ?_
  ·exact Nat.zero_le _
  clear h;rintro j a w hI h;have lmj:(((zb9 f.r).take j).map zb1).length<=j:=by rw [List.length_map,List.length_take];omega
  refine Je 8 [] [] [(28,vb (decide ((j:Int)<((zb9 f.r).length:Int))))] h fun a w h=>qW (zam ((j:Int)<((zb9 f.r).length:Int)) h (fun hc6 hc6'=>?_) (fun hc7 hc7'=>?_))
  ·refine qU (za1 (qW (qZ ?_)));obtain ⟨x4,hx4⟩:=gl (zb9 f.r) j;refine Jd 8 [(0,.g (xD 29 25 kc_3 (zab hx4 (f:=zb0.d)) (OV.tmp 27 _)))] [28] [(7,vp 8 0)] [(6,.box zF0),(7,.row 35 6 ((((zb9 f.r).take j).map zb1).map za0.d)),(8,.box (zR_ x4))] h fun a w h=>Jm 9 [(2,.call (LtightF x4 ((deny_tok (rel_ok hf hc3) (by decide) x4 (lM hx4)).mono (by decide) (by decide))) ld4_6),(3,.g (bD 34 ([(zb1 x4)].map za0.d) [(33,(vF (zb1 x4)))] zh7 (.cons (i:=0) (OV.tmp 33 _) (.nil)) (by simp only [List.map_cons,List.map_nil,List.flatten_cons,List.flatten_nil,List.append_nil,za0.d_eq];kernel_rfl) (by simp [za0.d_len]))),(4,.g (aD 35 31 34 7 9 (((zb9 f.r).take j).map zb1) [(zb1 x4)] za0.d la_7 (by simp [za0.d_len])))] [7] [(5,vO 9 ((((zb9 f.r).take j).map zb1)++[(zb1 x4)]).length)] [(6,.box zF0),(9,.row 35 6 (((((zb9 f.r).take j).map zb1)++[(zb1 x4)]).map za0.d))] h fun a w h=>za9 (za1 (Jf 10 [(0,.j1 j)] [] [(27,vI ((j:Int)+1))] h fun a w h=>za1 ?_));rw [show (((((zb9 f.r).take j).map zb1)++[(zb1 x4)]):List za0)=(((zb9 f.r).take (j+1)).map zb1) from (zg8 hx4)] at h;replace h:=zec 9 7 [(1,vb d),(4,vp 6 0),(5,vO 7 (((zb9 f.r).take (j+1)).map zb1).length),(25,(vRs (zb9 f.r))),(26,vI ((zb9 f.r).length:Int)),(27,vI ((j:Int)+1))] [(6,.box zF0),(7,.row 35 6 ((((zb9 f.r).take (j+1)).map zb1).map za0.d))] h;refine zag (x:=j) (y:=j+1) h ?_ ?_
   ·have:=zaj hx4;show j+1<=(zb9 f.r).length;omega
   show (zb9 f.r).length - (j+1)<(zb9 f.r).length - j;have:=zaj hx4;omega
  refine wp_exit (zaa (zaa (za5 (za1 ?_))));rw [show ((((zb9 f.r).take j).map zb1):List za0)=((zb9 f.r).map zb1) from (by rw [List.take_of_length_le (by omega)])] at h;replace h:=ziv 7 6 35 (((zb9 f.r).map zb1).map za0.d) [(1,vb d),(4,vp 6 0),(5,(vFs ((zb9 f.r).map zb1))),(25,(vRs (zb9 f.r))),(26,vI ((zb9 f.r).length:Int)),(27,vN j),(28,vb (decide ((j:Int)<((zb9 f.r).length:Int))))] [(6,.box zF0)] h rfl (show zbx _ [((zb9 f.r).map zb1).length] from ⟨by first | exact (List.length_map _).symm | (simp;done) | (simp;omega),trivial⟩) trivial;refine Jq 10 [(1,.call (Ljoin 5 ((zb9 f.r).map zb1) (.inr rfl) (tight_sum f.r)) ld4_9)] [(1,vb d),(4,vp 6 0)] [(6,.box (zF (zf0 5 ((zb9 f.r).map zb1))))] h fun a w h=>qV (zae (za7 (rA 6 (zF (zf0 5 ((zb9 f.r).map zb1))) h zch rfl ?_)));rw [flat_2t (by have:=hc3;simpa using this) (show (d)=true from by simpa using hc5)];try rfl
 have hc8':=hc8;(try simp at hc8');refine Je 10 [] [16] [(39,vb (f.kind == 3))] h fun a w h=>cS (f.kind == 3) h (fun hc9=>?_) (fun hc12=>?_)
 ·have hc9':=hc9;(try simp at hc9');refine Je 10 [(2,.len (za6 6 za0.d f.kids))] [10,39] [(44,vb (decide ((f.kids.length:Int)>0)))] h fun a w h=>zam ((f.kids.length:Int)>0) h (fun hc10 hc10'=>?_) (fun hc11 hc11'=>?_)
  ·obtain ⟨x7,hx7⟩:=gl f.kids 0;refine Jd 10 [(2,.g (xD 47 46 ziz ((zab hx7 (f:=za0.d)).trans (congrArg some (za0.d_eq x7))) (OV.const (.int .i64 0) rfl))),(6,.call (ih x7 (by unfold cnt;rw [if_neg (by omega),if_pos (by omega)];exact zh6 hx7) (!d)) ld4_5)] [2,44] [] [(6,.box (zF (za0.flat x7 (!d))))] h fun a w h=>qV (zae (za7 (rA 6 (zF (za0.flat x7 (!d))) h zch rfl ?_)));rw [flat_3c (by have:=hc9;simpa using this) hx7];try rfl
  refine qU (za9 (za1 (Jq 10 [(1,.call (zfz d) la_8)] [(4,vp 6 0)] [(6,.box (zF (zcq d)))] h fun a w h=>qV (rA 6 (zF (zcq d)) h zch rfl ?_))));rw [flat_3n (by have:=hc9;simpa using this) (by have:=hc11;simp at this;first | omega | (rw [this];rfl))];try rfl
 have hc12':=hc12;(try simp at hc12');refine qW (Je 10 [] [39] [(52,vb (f.kind == 4))] h fun a w h=>cS (f.kind == 4) h (fun hc13=>?_) (fun hc16=>?_))
 ·have hc13':=hc13;(try simp at hc13');refine qU (za1 (cS (f.kind == 4) h (fun hc=>?_) (fun hc=>?_)))
  ·clear hc;refine Je 10 [] [10,52] [(8,vI f.kind)] h fun a w h=>qW (Je 10 [] [] [(57,vb d)] h fun a w h=>cS d h (fun hc14=>?_) (fun hc15=>?_))
   ·refine Jf 10 [(2,.sub .i64 (m:=9) (n:=f.kind) i6)] [57] [(8,vI (9 - f.kind))] h fun a w h=>za1 (Jd 10 [(4,.call (Lflats f.kids d (fun g hg=>ih g (by unfold cnt;rw [if_pos (by omega)];exact hg) d) (by have:=ze6 hf;unfold cnt at this;rw [if_pos (by omega)] at this;exact this)) ld4_10),(5,.call (Ljoin (9 - f.kind) (f.kids.map (fun g=>za0.flat g d)) (by omega) (zh8 (by omega) d hw)) ld4_9)] [2,8] [] [(6,.box (zF (zf0 (9 - f.kind) (f.kids.map (fun g=>za0.flat g d)))))] h fun a w h=>qV (zae (za7 (rA 6 (zF (zf0 (9 - f.kind) (f.kids.map (fun g=>za0.flat g d)))) h zch rfl ?_))));rw [flat_45 (by omega),if_pos hc14];try rfl
   refine qU (za1 (Jd 10 [(4,.call (Lflats f.kids d (fun g hg=>ih g (by unfold cnt;rw [if_pos (by omega)];exact hg) d) (by have:=ze6 hf;unfold cnt at this;rw [if_pos (by omega)] at this;exact this)) ld4_10),(5,.call (Ljoin f.kind (f.kids.map (fun g=>za0.flat g d)) (by omega) (zh8 (by omega) d hw)) ld4_9)] [2,8,57] [] [(6,.box (zF (zf0 f.kind (f.kids.map (fun g=>za0.flat g d)))))] h fun a w h=>qV (zae (za7 (rA 6 (zF (zf0 f.kind (f.kids.map (fun g=>za0.flat g d)))) h zch rfl ?_)))));rw [flat_45 (by omega),if_neg (by rw [hc15];exact Bool.noConfusion)];try rfl
  rw [hc13] at hc;cases hc
 have hc16':=hc16;(try simp at hc16');refine Jf 10 [] [10] [(52,vb (f.kind == 5))] h fun a w h=>za1 (cS (f.kind == 5) h (fun hc17=>?_) (fun hc20=>?_))
 ·have hc17':=hc17;(try simp at hc17');refine Je 10 [] [52] [(8,vI f.kind)] h fun a w h=>qW (Je 10 [] [] [(57,vb d)] h fun a w h=>cS d h (fun hc18=>?_) (fun hc19=>?_))
  ·refine Jf 10 [(2,.sub .i64 (m:=9) (n:=f.kind) i6)] [57] [(8,vI (9 - f.kind))] h fun a w h=>za1 (Jd 10 [(4,.call (Lflats f.kids d (fun g hg=>ih g (by unfold cnt;rw [if_pos (by omega)];exact hg) d) (by have:=ze6 hf;unfold cnt at this;rw [if_pos (by omega)] at this;exact this)) ld4_10),(5,.call (Ljoin (9 - f.kind) (f.kids.map (fun g=>za0.flat g d)) (by omega) (zh8 (by omega) d hw)) ld4_9)] [2,8] [] [(6,.box (zF (zf0 (9 - f.kind) (f.kids.map (fun g=>za0.flat g d)))))] h fun a w h=>qV (zae (za7 (rA 6 (zF (zf0 (9 - f.kind) (f.kids.map (fun g=>za0.flat g d)))) h zch rfl ?_))));rw [flat_45 (by omega),if_pos hc18];try rfl
  refine qU (za1 (Jd 10 [(4,.call (Lflats f.kids d (fun g hg=>ih g (by unfold cnt;rw [if_pos (by omega)];exact hg) d) (by have:=ze6 hf;unfold cnt at this;rw [if_pos (by omega)] at this;exact this)) ld4_10),(5,.call (Ljoin f.kind (f.kids.map (fun g=>za0.flat g d)) (by omega) (zh8 (by omega) d hw)) ld4_9)] [2,8,57] [] [(6,.box (zF (zf0 f.kind (f.kids.map (fun g=>za0.flat g d)))))] h fun a w h=>qV (zae (za7 (rA 6 (zF (zf0 f.kind (f.kids.map (fun g=>za0.flat g d)))) h zch rfl ?_)))));rw [flat_45 (by omega),if_neg (by rw [hc19];exact Bool.noConfusion)];try rfl
 have hc20':=hc20;(try simp at hc20');refine qU (za9 (za1 (Jq 10 [(1,.call (zfz d) la_8)] [(4,vp 6 0)] [(6,.box (zF (zcq d)))] h fun a w h=>qV (rA 6 (zF (zcq d)) h zch rfl ?_))));rw [flat_x (by have:=hc2;simpa using this) (by have:=hc8;simpa using this) (by have:=hc12;simpa using this) (by have:=hc16;simpa using this) (by have:=hc20;simpa using this)];try rfl
theorem Lflat (f:za0):f.okB 300 2000->f.wid<=1000000->∀ d:Bool,Fn Tryz.prog 95 [] [(vF f),vb d] (vF (za0.flat f d)) [] :=
 za0.ind (P:=fun f=>f.okB 300 2000->f.wid<=1000000->∀ d:Bool,Fn Tryz.prog 95 [] [(vF f),vb d] (vF (za0.flat f d)) []) (fun k r ks ih hf hw d=>Lflat0 ⟨k,r,ks⟩ d (fun g hg d=>ih g (zb3 hg) (zey hf hg) (Nat.le_trans (wid_kid hg) hw) d) hf hw) f
theorem LFlat (f:za0) (hf:f.okB 300 2000) (hw:f.wid<=1000000):Fn Tryz.prog 59 [] [(vF f)] (vF (za0.flat f false)) []:=by
 refine Fn.body Tryz.func59 rfl 5 rfl fun w H B a h=>Jq 0 [] [(1,vp 0 0),(2,vp 1 0)] [(0,.box (zF f)),(1,.box zF0)] h fun a w h=>Jd 2 [(1,.call (Lflat f hf hw false) ld4_5)] [1] [] [(1,.box (zF (za0.flat f false)))] h fun a w h=>qV (rA 1 (zF (za0.flat f false)) h zch rfl ?_)
 rfl
theorem ma0_9:za4 Tryz.prog 116:=za4.mk' (by kernel_rfl)
theorem ma0_11:za4 Tryz.prog 91:=za4.mk' (by kernel_rfl)
theorem ma0_12:za4 Tryz.prog 89:=za4.mk' (by kernel_rfl)
theorem ma0_13:za4 Tryz.prog 115:=za4.mk' (by kernel_rfl)
theorem ma0_14:za4 Tryz.prog 90:=za4.mk' (by kernel_rfl)
theorem zhf {f:za0} (h:f.kind=3\/f.kind=4\/f.kind=5):f.cl.kids=(cnt f.kind f.kids).map za0.cl:=by rw [cl_kids h];rfl
theorem cl_out9 {f:za0} (h:¬ (f.kind=3\/f.kind=4\/f.kind=5)) (h2:(f.kind == 2)=false) (h0:(f.kind == 0)=false):f.cl=zcq false:=by
 simp only [beq_eq_false_iff_ne] at h0 h2
 rw [cl_eq,zfr _ _ _ h0 h2 h]
theorem cl_kids_cl {f q:za0} (h:q ∈ f.cl.kids):q.cl=q:=by
 by_cases e:f.kind=3\/f.kind=4\/f.kind=5
 ·rw [zhf e] at h
  obtain ⟨g,_,rfl⟩:=List.mem_map.1 h
  exact cl_cl g
 ·exfalso
  have:f.cl.kids=[]:=by
   rw [cl_eq];unfold zee
   split
   ·rfl
   ·split
    ·rfl
    ·rfl
  rw [this] at h;cases h
theorem cnt_of_cl (f:za0):cnt f.cl.kind f.cl.kids=f.cl.kids:=by
 by_cases e:f.kind=3\/f.kind=4\/f.kind=5
 ·rw [cl_kids e]
  show cnt f.kind ((cnt f.kind f.kids).map za0.cl)=(cnt f.kind f.kids).map za0.cl
  rw [<- zci,cnt_cnt]
 ·have h0:f.cl.kids=[]:=by
   rw [cl_eq];unfold zee
   split
   ·rfl
   ·split
    ·rfl
    ·rfl
  rw [h0];unfold cnt;split;rfl;split;rfl;rfl
theorem mvx_at {F:za0->za0} {xs:List za0} {j:Nat} {x:za0} (h:xs[j]?=some x):((xs.take j).map F++xs.drop j)[j]?=some x:=by
 obtain ⟨hj,rfl⟩:=List.getElem?_eq_some_iff.1 h
 rw [List.getElem?_append_right (by rw [List.length_map,List.length_take];omega),List.length_map,List.length_take,List.getElem?_drop,show j+(j - min j xs.length)=j by omega]
 exact h
theorem mvx_set {F:za0->za0} {xs:List za0} {j:Nat} {x:za0} (h:xs[j]?=some x):((xs.take j).map F++xs.drop j).set j (F x)=(xs.take (j+1)).map F++xs.drop (j+1):=by
 obtain ⟨hj,rfl⟩:=List.getElem?_eq_some_iff.1 h
 have hl:((xs.take j).map F).length=j:=by rw [List.length_map,List.length_take];omega
 rw [List.set_append_right _ _ (by omega),hl,Nat.sub_self,List.drop_eq_getElem_cons hj,List.set_cons_zero,List.take_add_one,List.map_append,List.append_assoc]
 congr 1
 rw [h];rfl
theorem mvx_len {F:za0->za0} (xs:List za0) (j:Nat) (h:j<=xs.length):((xs.take j).map F++xs.drop j).length=xs.length:=by
 rw [List.length_append,List.length_map,List.length_take,List.length_drop];omega
theorem each_kids (t:zb0->zb0) {f:za0} (h:f.kind=3\/f.kind=4\/f.kind=5):f.each t=⟨f.kind,zR,f.cl.kids.map (za0.each t)⟩:=by
 rw [za0.each_eq,zf1 _ _ _ h,zci,zhf h,List.map_map]
 congr 1
 exact List.map_congr_left fun g _=>(each_cl t g).symm
theorem each_0 (t:zb0->zb0) {f:za0} (h:f.kind=0):f.each t=zcq true:=by rw [za0.each_eq];unfold zee;rw [if_pos h]
theorem each_x (t:zb0->zb0) {f:za0} (h:¬ (f.kind=3\/f.kind=4\/f.kind=5)) (h2:f.kind≠2) (h0:f.kind≠0):f.each t=zcq false:=by rw [za0.each_eq,zfr _ _ _ h0 h2 h]
def zc8 (n:Int) (r:zb0):zb0:=⟨movZ r.t (zah n),r.eq⟩
def zc6 (vs:List Int) (bys:List zak) (r:zb0):zb0:=⟨putZ r.t vs bys,r.eq⟩
theorem LclonesO (fs:List za0) (hcl:∀ g ∈ fs,Fn Tryz.prog 99 [] [(vF g)] (vF (za0.cl g)) []) (hl:fs.length<=1000000):Fn Tryz.prog 77 [] [(vFs fs)] (vO 0 (fs.map za0.cl).length) [(0,.row 35 6 ((fs.map za0.cl).map za0.d))]:=by
 refine Fn.body Tryz.func77 rfl 19 rfl fun w H B a h=>Jq 5 [] [(0,(vFs fs)),(2,vW zaf)] [] h fun a w h=>Jd 5 [] [] [(3,vW zaf)] [] h fun a w h=>qW (Jd 5 [(1,.len (za6 6 za0.d fs))] [0] [(6,(vFs fs)),(7,vN fs.length),(8,vI 0)] [] h fun a w h=>qZ ?_)
 replace h:=zew 3 0 5 6 35 (vW zaf) [(2,vW zaf),(3,vO 5 0),(6,(vFs fs)),(7,vN fs.length),(8,vI 0)] [(5,.row 35 6 ([].map za0.d))] h (by kernel_rfl) rfl rfl
 refine zaq (ι:=(Nat)) (fun j=>j<=fs.length)
   (fun j=>[(2,vW zaf),(3,vO 5 ((fs.take j).map za0.cl).length),(6,(vFs fs)),(7,vN fs.length),(8,vN j)])
   (fun j=>[(5,.row 35 6 (((fs.take j).map za0.cl).map za0.d))])
   (fun j=>fs.length - j) 0 ?_ h (by kernel_rfl) (by kernel_rfl) ?_
 ·exact Nat.zero_le _
 clear h;rintro j a w hI h;have lmj:((fs.take j).map za0.cl).length<=j:=by rw [List.length_map,List.length_take];omega
 refine Je 6 [] [] [(9,vb (decide ((j:Int)<(fs.length:Int))))] h fun a w h=>qW (zam ((j:Int)<(fs.length:Int)) h (fun hc1 hc1'=>?_) (fun hc2 hc2'=>?_))
 ·refine qU (za1 (qW (qZ ?_)));obtain ⟨x1,hx1⟩:=gl fs j;refine Jd 6 [(0,.g (xD 10 6 ziz ((zab hx1 (f:=za0.d)).trans (congrArg some (za0.d_eq x1))) (OV.tmp 8 _)))] [9] [(5,vp 6 0)] [(5,.row 35 6 (((fs.take j).map za0.cl).map za0.d)),(6,.box (zF x1))] h fun a w h=>Jm 7 [(2,.call (hcl x1 (lM hx1)) la_5),(3,.g (bD 15 ([(za0.cl x1)].map za0.d) [(14,(vF (za0.cl x1)))] zh7 (.cons (i:=0) (OV.tmp 14 _) (.nil)) (by simp only [List.map_cons,List.map_nil,List.flatten_cons,List.flatten_nil,List.append_nil,za0.d_eq];kernel_rfl) (by simp [za0.d_len]))),(4,.g (aD 16 12 15 5 7 ((fs.take j).map za0.cl) [(za0.cl x1)] za0.d la_7 (by simp [za0.d_len])))] [5] [(3,vO 7 (((fs.take j).map za0.cl)++[(za0.cl x1)]).length)] [(7,.row 35 6 ((((fs.take j).map za0.cl)++[(za0.cl x1)]).map za0.d))] h fun a w h=>za9 (za1 (Jf 8 [(0,.j1 j)] [] [(8,vI ((j:Int)+1))] h fun a w h=>za1 ?_));rw [show ((((fs.take j).map za0.cl)++[(za0.cl x1)]):List za0)=((fs.take (j+1)).map za0.cl) from (zg8 hx1)] at h;replace h:=zec 7 5 [(2,vW zaf),(3,vO 5 ((fs.take (j+1)).map za0.cl).length),(6,(vFs fs)),(7,vN fs.length),(8,vI ((j:Int)+1))] [(5,.row 35 6 (((fs.take (j+1)).map za0.cl).map za0.d))] h;refine zag (x:=j) (y:=j+1) h ?_ ?_
  ·have:=zaj hx1;show j+1<=fs.length;omega
  show fs.length - (j+1)<fs.length - j;have:=zaj hx1;omega
 refine wp_exit (zaa (zaa (za5 (za1 (Jp 8 [] [(2,vO 5 ((fs.take j).map za0.cl).length)] h fun a w h=>qV ?_)))));rw [show (((fs.take j).map za0.cl):List za0)=(fs.map za0.cl) from (by rw [List.take_of_length_le (by omega)])] at h;replace h:=zec 5 0 [(2,vO 0 (fs.map za0.cl).length)] [(0,.row 35 6 ((fs.map za0.cl).map za0.d))] h;refine rT (.c (.own 0 (fs.map za0.cl).length)) h rfl ?_;rfl
theorem LcloneO (f:za0) (hf:f.okB 1000 10000) (hkd:f.kind=3\/f.kind=4\/f.kind=5):Fn Tryz.prog 99 [] [(vF f)] (vG ([cI f.kind,cPs zR.t.parts]++zi zR.t.k++[cB zR.eq,.own 0 f.cl.kids.length])) [(0,.row 35 6 (f.cl.kids.map za0.d))]:=by
 refine Fn.body Tryz.func99 rfl 24 rfl fun w H B a h=>Jq 5 [] [(1,vp 5 0),(2,vp 6 0)] [(5,.box (zF f)),(6,.box zF0)] h fun a w h=>qW (Je 7 [] [] [(4,vI f.kind)] h fun a w h=>qZ (Je 7 [(0,.cmp (op:=.eql) (m:=f.kind) (n:=0) (b:=false) .i64 (beq_eq_false_iff_ne.2 (by omega)))] [] [(5,vb false)] h fun a w h=>zap false h rfl nofun (fun _=>Je 7 [(0,.cmp (op:=.eql) (m:=f.kind) (n:=2) (b:=false) .i64 (beq_eq_false_iff_ne.2 (by omega)))] [5] [(8,vb false)] h fun a w h=>zap false h rfl nofun (fun _=>qW (Je 7 [] [8] [(13,vb (f.kind == 3))] h fun a w h=>cS (f.kind == 3) h (fun hc1=>?_) (fun hc2=>?_))))))
 ·have hc1':=hc1;(try simp at hc1');refine qU (za1 (cS (f.kind == 3) h (fun hc=>?_) (fun hc=>?_)))
  ·clear hc;refine Jq 7 [(3,.call (Lkids f (zd2 hf)) la_10),(4,.call (LclonesO (cnt f.kind f.kids) (fun g hg=>zfy g (zey hf hg)) (ze6 hf)) la_11)] [(2,vp 6 0)] [(6,.box [cI f.kind,.d (.raw zaf),cB false,.d (nsl []),cB false,.own 0 ((cnt f.kind f.kids).map za0.cl).length]),(0,.row 35 6 (((cnt f.kind f.kids).map za0.cl).map za0.d))] h fun a w h=>qV (zae (za7 ?_));replace h:=cv (fun z_:List za0=>F.of [(2,vp 6 0)] [(6,.box [cI f.kind,.d (.raw zaf),cB false,.d (nsl []),cB false,.own 0 z_.length]),(0,.row 35 6 (z_.map za0.d))]) (show (((cnt f.kind f.kids).map za0.cl):List za0)=f.cl.kids from (zhf hkd).symm) h;replace h:=zbm 6 1 3 [cI f.kind,.d (.raw zaf),cB false,.d (nsl []),cB false,.own 0 f.cl.kids.length] [(2,vp 6 0)] [(6,.box [cI f.kind,cPs [],cB false,.d (nsl []),cB false,.own 0 f.cl.kids.length]),(0,.row 35 6 (f.cl.kids.map za0.d))] h rfl rfl;refine rA 6 [cI f.kind,cPs [],cB false,.d (nsl []),cB false,.own 0 f.cl.kids.length] h zch rfl ?_;rfl
  rw [hc1] at hc;cases hc
 have hc2':=hc2;(try simp at hc2');refine Je 7 [] [] [(13,vb (f.kind == 4))] h fun a w h=>cS (f.kind == 4) h (fun hc3=>?_) (fun hc4=>?_)
 ·have hc3':=hc3;(try simp at hc3');refine qU (za1 (cS (f.kind == 4) h (fun hc=>?_) (fun hc=>?_)))
  ·clear hc;refine Jq 7 [(3,.call (Lkids f (zd2 hf)) la_10),(4,.call (LclonesO (cnt f.kind f.kids) (fun g hg=>zfy g (zey hf hg)) (ze6 hf)) la_11)] [(2,vp 6 0)] [(6,.box [cI f.kind,.d (.raw zaf),cB false,.d (nsl []),cB false,.own 0 ((cnt f.kind f.kids).map za0.cl).length]),(0,.row 35 6 (((cnt f.kind f.kids).map za0.cl).map za0.d))] h fun a w h=>qV (zae (za7 ?_));replace h:=cv (fun z_:List za0=>F.of [(2,vp 6 0)] [(6,.box [cI f.kind,.d (.raw zaf),cB false,.d (nsl []),cB false,.own 0 z_.length]),(0,.row 35 6 (z_.map za0.d))]) (show (((cnt f.kind f.kids).map za0.cl):List za0)=f.cl.kids from (zhf hkd).symm) h;replace h:=zbm 6 1 3 [cI f.kind,.d (.raw zaf),cB false,.d (nsl []),cB false,.own 0 f.cl.kids.length] [(2,vp 6 0)] [(6,.box [cI f.kind,cPs [],cB false,.d (nsl []),cB false,.own 0 f.cl.kids.length]),(0,.row 35 6 (f.cl.kids.map za0.d))] h rfl rfl;refine rA 6 [cI f.kind,cPs [],cB false,.d (nsl []),cB false,.own 0 f.cl.kids.length] h zch rfl ?_;rfl
  rw [hc3] at hc;cases hc
 have hc4':=hc4;(try simp at hc4');refine Jf 7 [] [4] [(13,vb (f.kind == 5))] h fun a w h=>za1 (cS (f.kind == 5) h (fun hc5=>?_) (fun hc6=>?_))
 ·have hc5':=hc5;(try simp at hc5');refine Jq 7 [(3,.call (Lkids f (zd2 hf)) la_10),(4,.call (LclonesO (cnt f.kind f.kids) (fun g hg=>zfy g (zey hf hg)) (ze6 hf)) la_11)] [(2,vp 6 0)] [(6,.box [cI f.kind,.d (.raw zaf),cB false,.d (nsl []),cB false,.own 0 ((cnt f.kind f.kids).map za0.cl).length]),(0,.row 35 6 (((cnt f.kind f.kids).map za0.cl).map za0.d))] h fun a w h=>qV (zae (za7 ?_));replace h:=cv (fun z_:List za0=>F.of [(2,vp 6 0)] [(6,.box [cI f.kind,.d (.raw zaf),cB false,.d (nsl []),cB false,.own 0 z_.length]),(0,.row 35 6 (z_.map za0.d))]) (show (((cnt f.kind f.kids).map za0.cl):List za0)=f.cl.kids from (zhf hkd).symm) h;replace h:=zbm 6 1 3 [cI f.kind,.d (.raw zaf),cB false,.d (nsl []),cB false,.own 0 f.cl.kids.length] [(2,vp 6 0)] [(6,.box [cI f.kind,cPs [],cB false,.d (nsl []),cB false,.own 0 f.cl.kids.length]),(0,.row 35 6 (f.cl.kids.map za0.d))] h rfl rfl;refine rA 6 [cI f.kind,cPs [],cB false,.d (nsl []),cB false,.own 0 f.cl.kids.length] h zch rfl ?_;rfl
 have hc6':=hc6;(try simp at hc6');exfalso;simp_all <;> omega
theorem LrMove (r:zb0) (n:Int) (hr:TOk 1000 20000 r.t):Fn Tryz.prog 116 [] [(vR r),vI n] (vR (zc8 n r)) []:=by
 refine Fn.body Tryz.func116 rfl 12 rfl fun w H B a h=>Jq 0 [] [(1,vI n),(2,vp 0 0),(4,vp 1 0)] [(0,.box (zR_ r)),(1,.box zR0)] h fun a w h=>Jq 2 [(3,.call (SMove r.t n hr (by decide) (by decide)) ts_12)] [(4,vp 1 0)] [(1,.box ((zT (movZ r.t (zah n)))++[cB r.eq]))] h fun a w h=>qV (rA 1 ((zT (movZ r.t (zah n)))++[cB r.eq]) h la_1 rfl ?_)
 rfl
theorem LMove1 (r:zb0) (n:Int) (hr:TOk 1000 20000 r.t):Fn Tryz.prog 115 [(1,.box [cI n])] [(vR r),vp 1 0] (vR (zc8 n r)) [(1,.box [cI n])]:=by
 refine Fn.body Tryz.func115 rfl 7 rfl fun w H B a h=>Jq 5 [] [(1,vp 1 0),(2,vp 5 0),(3,vp 6 0)] [(1,.box [cI n]),(5,.box (zR_ r)),(6,.box zR0)] h fun a w h=>Jq 7 [(2,.call (LrMove r n hr) ma0_9)] [(3,vp 6 0)] [(1,.box [cI n]),(6,.box (zR_ (zc8 n r)))] h fun a w h=>qV (rA 6 (zR_ (zc8 n r)) h la_1 rfl ?_)
 rfl
theorem LrPutAll (r:zb0) (vs:List Int) (bys:List zak) (hr:zgb r.t) (hb:∀ b ∈ bys,zgb b) (hlv:vs.length<=1000000) (hlb:bys.length<=1000000):Fn Tryz.prog 91 [] [(vR r),(vIs vs),vS 3 (bys.map zak.d)] (vR (zc6 vs bys r)) []:=by
 refine Fn.body Tryz.func91 rfl 15 rfl fun w H B a h=>Jq 0 [] [(1,(vIs vs)),(2,vS 3 (bys.map zak.d)),(3,vp 0 0),(6,vp 1 0)] [(0,.box (zR_ r)),(1,.box zR0)] h fun a w h=>Jq 2 [(4,.call (SPutAll r.t vs bys hr hb hlv hlb) tq_14)] [(6,vp 1 0)] [(1,.box ((zT (putZ r.t vs bys))++[cB r.eq]))] h fun a w h=>qV (rA 1 ((zT (putZ r.t vs bys))++[cB r.eq]) h la_1 rfl ?_)
 rfl
theorem LPutAll1 (r:zb0) (vs:List Int) (bys:List zak) (hr:zgb r.t) (hb:∀ b ∈ bys,zgb b) (hlv:vs.length<=1000000) (hlb:bys.length<=1000000):Fn Tryz.prog 90 [(1,.box [cIs vs]),(2,.box [.d (.sl 3 (bys.map zak.d))])] [(vR r),vp 1 0,vp 2 0] (vR (zc6 vs bys r)) [(1,.box [cIs vs]),(2,.box [.d (.sl 3 (bys.map zak.d))])]:=by
 refine Fn.body Tryz.func90 rfl 9 rfl fun w H B a h=>Jq 5 [] [(1,vp 1 0),(2,vp 2 0),(3,vp 5 0),(4,vp 6 0)] [(1,.box [cIs vs]),(2,.box [.d (.sl 3 (bys.map zak.d))]),(5,.box (zR_ r)),(6,.box zR0)] h fun a w h=>Jq 7 [(3,.call (LrPutAll r vs bys hr hb hlv hlb) ma0_11)] [(4,vp 6 0)] [(1,.box [cIs vs]),(2,.box [.d (.sl 3 (bys.map zak.d))]),(6,.box (zR_ (zc6 vs bys r)))] h fun a w h=>qV (rA 6 (zR_ (zc6 vs bys r)) h la_1 rfl ?_)
 rfl
theorem cl_rel {f:za0} {n L:Nat} (h:f.cl.okB n L) (e:(f.kind == 2)=true):TOk n L (cpR f.r).t:=by
 rw [cl_at e] at h;exact ((za0.okB_eq _ _ _).1 h).1.1 rfl
theorem LeachM0 (f:za0) (n:Int) (hf:f.okB 1000 10000) (hc:f.cl.okB 1000 10000)  (ih:∀ q ∈ f.cl.kids,Fn Tryz.prog 89 [(1,.box [cI n])] [(vF q),.t (.c (.fn (.func 115) [] [.ptr 1 0]))] (vF (za0.each (zc8 n) q)) [(1,.box [cI n])]):Fn Tryz.prog 89 [(1,.box [cI n])] [(vF f),.t (.c (.fn (.func 115) [] [.ptr 1 0]))] (vF (za0.each (zc8 n) f)) [(1,.box [cI n])]:=by
 have lkc:f.cl.kids.length<=9223372036854775807:=zd2 hc;refine Fn.body Tryz.func89 rfl 35 rfl fun w H B a h=>Jq 5 [] [(1,.t (.c (.fn (.func 115) [] [.ptr 1 0]))),(2,vp 5 0),(4,vp 6 0)] [(1,.box [cI n]),(5,.box (zF f)),(6,.box zF0)] h fun a w h=>?_
 rcases Bool.eq_false_or_eq_true (decide (f.kind=3\/f.kind=4\/f.kind=5)) with hc1 | hc4
 ·have hc1':=dT hc1;have hkd:=dT hc1;refine Jd 7 [(1,.call (LcloneO f hf hkd) la_5)] [2] [(5,vp 7 0)] [(1,.box [cI n]),(6,.box zF0),(0,.row 35 6 (f.cl.kids.map za0.d)),(7,.box ([cI f.kind,cPs zR.t.parts]++zi zR.t.k++[cB zR.eq,.own 0 f.cl.kids.length]))] h fun a w h=>qW (Je 8 [(2,.cmp (op:=.eql) (m:=f.kind) (n:=2) (b:=false) .i64 (beq_eq_false_iff_ne.2 (by omega)))] [] [(12,vb false)] h fun a w h=>zap false h rfl nofun (fun _=>qU (za1 (qW (Je 8 [] [12] [(19,vO 0 f.cl.kids.length),(20,vN f.cl.kids.length),(21,vI 0)] h fun a w h=>qZ ?_)))));replace h:=cv (fun z_:List za0=>F.of [(1,.t (.c (.fn (.func 115) [] [.ptr 1 0]))),(4,vp 6 0),(5,vp 7 0),(19,vO 0 f.cl.kids.length),(20,vN f.cl.kids.length),(21,vI 0)] [(1,.box [cI n]),(6,.box zF0),(0,.row 35 6 (z_.map za0.d)),(7,.box ([cI f.kind,cPs zR.t.parts]++zi zR.t.k++[cB zR.eq,.own 0 f.cl.kids.length]))]) (show (f.cl.kids:List za0)=((f.cl.kids.take 0).map (za0.each (zc8 n))++f.cl.kids.drop 0) from (by simp)) h
  refine zaq (ι:=(Nat)) (fun j=>j<=f.cl.kids.length)
    (fun j=>[(1,.t (.c (.fn (.func 115) [] [.ptr 1 0]))),(4,vp 6 0),(5,vp 7 0),(19,vO 0 f.cl.kids.length),(20,vN f.cl.kids.length),(21,vN j)])
    (fun j=>[(1,.box [cI n]),(6,.box zF0),(0,.row 35 6 (((f.cl.kids.take j).map (za0.each (zc8 n))++f.cl.kids.drop j).map za0.d)),(7,.box ([cI f.kind,cPs zR.t.parts]++zi zR.t.k++[cB zR.eq,.own 0 f.cl.kids.length]))])
    (fun j=>f.cl.kids.length - j) 0 ?_ h (by kernel_rfl) (by kernel_rfl) ?_
  ·exact Nat.zero_le _
  clear h;rintro j a w hI h;have lej:((f.cl.kids.take j).map (za0.each (zc8 n))++f.cl.kids.drop j).length=f.cl.kids.length:=mvx_len f.cl.kids _ hI;refine Je 8 [] [] [(22,vb (decide ((j:Int)<(f.cl.kids.length:Int))))] h fun a w h=>qW (zam ((j:Int)<(f.cl.kids.length:Int)) h (fun hc2 hc2'=>?_) (fun hc3 hc3'=>?_))
  ·refine qU (za1 (qW (qZ ?_)));obtain ⟨x3,hx3⟩:=gl f.cl.kids j;refine Jd 8 [(1,.g (xO 24 19 0 f.cl.kids.length j ziz (OV.tmp 21 _))),(2,.g (Op.loadR_agg (d:=25) (t:=24) (n:=0) (i:=j) (fo:=0) (rty:=35) (es:=6) (xs:=[.raw (.int .i64 x3.kind),.sl 3 (x3.r.t.parts.map za3.d),.raw (.bool x3.r.t.k.neg),nsl x3.r.t.k.abs,.raw (.bool x3.r.eq),.sl 6 (x3.kids.map za0.d)]) zch rfl ((zab (mvx_at (F:=za0.each (zc8 n)) hx3) (f:=za0.d)).trans (congrArg some (za0.d_eq x3))) rfl rfl))] [22] [(6,vN j),(7,vp 8 0)] [(1,.box [cI n]),(6,.box zF0),(0,.row 35 6 (((f.cl.kids.take j).map (za0.each (zc8 n))++f.cl.kids.drop j).map za0.d)),(7,.box ([cI f.kind,cPs zR.t.parts]++zi zR.t.k++[cB zR.eq,.own 0 f.cl.kids.length])),(8,.box (zF x3))] h fun a w h=>Jm 9 [(5,.call (ih x3 (lM hx3)) ma0_12),(6,.g (xO 32 27 0 f.cl.kids.length j ziz (OV.tmp 28 _))),(7,.g (Op.storeR (t:=32) (n:=0) (i:=j) (fo:=0) (rty:=35) (es:=6) (r:=za0.d x3) (ds:=[.raw (.int .i64 (za0.each (zc8 n) x3).kind),.sl 3 ((za0.each (zc8 n) x3).r.t.parts.map za3.d),.raw (.bool (za0.each (zc8 n) x3).r.t.k.neg),nsl (za0.each (zc8 n) x3).r.t.k.abs,.raw (.bool (za0.each (zc8 n) x3).r.eq),.sl 6 ((za0.each (zc8 n) x3).kids.map za0.d)]) (rs:=[(31,(vF (za0.each (zc8 n) x3)))]) (rows:=((f.cl.kids.take j).map (za0.each (zc8 n))++f.cl.kids.drop j).map za0.d) (rows':=(((f.cl.kids.take j).map (za0.each (zc8 n))++f.cl.kids.drop j).set j (za0.each (zc8 n) x3)).map za0.d) zch (OV.tmp 31 _) rfl rfl rfl (zab (mvx_at (F:=za0.each (zc8 n)) hx3) (f:=za0.d)) (by rw [za0.d_len];decide) (zc5 (xs:=((f.cl.kids.take j).map (za0.each (zc8 n))++f.cl.kids.drop j)) (F:=za0.d) j _ _ (by rw [za0.d_eq x3,za0.d_eq (za0.each (zc8 n) x3)];rfl))))] [6,7] [] [(1,.box [cI n]),(6,.box zF0),(0,.row 35 6 ((((f.cl.kids.take j).map (za0.each (zc8 n))++f.cl.kids.drop j).set j (za0.each (zc8 n) x3)).map za0.d)),(7,.box ([cI f.kind,cPs zR.t.parts]++zi zR.t.k++[cB zR.eq,.own 0 f.cl.kids.length]))] h fun a w h=>za9 (za1 (Jf 9 [(0,.j1 j)] [] [(21,vI ((j:Int)+1))] h fun a w h=>za1 ?_));replace h:=cv (fun z_:List za0=>F.of [(1,.t (.c (.fn (.func 115) [] [.ptr 1 0]))),(4,vp 6 0),(5,vp 7 0),(19,vO 0 f.cl.kids.length),(20,vN f.cl.kids.length),(21,vI ((j:Int)+1))] [(1,.box [cI n]),(6,.box zF0),(0,.row 35 6 (z_.map za0.d)),(7,.box ([cI f.kind,cPs zR.t.parts]++zi zR.t.k++[cB zR.eq,.own 0 f.cl.kids.length]))]) (show ((((f.cl.kids.take j).map (za0.each (zc8 n))++f.cl.kids.drop j).set j (za0.each (zc8 n) x3)):List za0)=((f.cl.kids.take (j+1)).map (za0.each (zc8 n))++f.cl.kids.drop (j+1)) from (mvx_set (F:=za0.each (zc8 n)) hx3)) h;refine zag (x:=j) (y:=j+1) h ?_ ?_
   ·have:=zaj hx3;show j+1<=f.cl.kids.length;omega
   show f.cl.kids.length - (j+1)<f.cl.kids.length - j;have:=zaj hx3;omega
  refine wp_exit (zaa (zaa (za5 (za1 (Jq 9 [] [(4,vp 6 0)] [(1,.box [cI n]),(6,.box ([cI f.kind,cPs zR.t.parts]++zi zR.t.k++[cB zR.eq,.own 0 f.cl.kids.length])),(0,.row 35 6 (((f.cl.kids.take j).map (za0.each (zc8 n))++f.cl.kids.drop j).map za0.d))] h fun a w h=>qV ?_)))));replace h:=cv (fun z_:List za0=>F.of [(4,vp 6 0)] [(1,.box [cI n]),(6,.box ([cI f.kind,cPs zR.t.parts]++zi zR.t.k++[cB zR.eq,.own 0 f.cl.kids.length])),(0,.row 35 6 (z_.map za0.d))]) (show (((f.cl.kids.take j).map (za0.each (zc8 n))++f.cl.kids.drop j):List za0)=(f.cl.kids.map (za0.each (zc8 n))) from (by rw [List.take_of_length_le (by omega),List.drop_of_length_le (by omega),List.append_nil])) h;replace h:=pubSK 0 6 35 ((f.cl.kids.map (za0.each (zc8 n))).map za0.d) [(4,vp 6 0)] [(1,.box [cI n]),(6,.box ([cI f.kind,cPs zR.t.parts]++zi zR.t.k++[cB zR.eq,cFs (f.cl.kids.map (za0.each (zc8 n)))]))] h rfl (by kernel_rfl) trivial (show zbx _ [f.cl.kids.length] from ⟨by first | exact (List.length_map _).symm | (simp;done) | (simp;omega),trivial⟩);refine rA 6 ([cI f.kind,cPs zR.t.parts]++zi zR.t.k++[cB zR.eq,cFs (f.cl.kids.map (za0.each (zc8 n)))]) h zch rfl ?_;rw [each_kids (zc8 n) hkd];try rfl
 have hc4':=dF hc4
 rcases Bool.eq_false_or_eq_true (f.kind == 2) with hc5 | hc6
 ·have hc5':=hc5;(try simp at hc5');refine Jd 9 [(1,.call (Fn.cast (zfy f hf) (show ((vF (za0.cl f)):V) = .t (.agg ([cI 2,cPs (cpR f.r).t.parts]++zi (cpR f.r).t.k++[cB (cpR f.r).eq,cFs ([]:List za0)])) from by rw [cl_at hc5];rfl)) la_5)] [2] [(5,vp 9 0)] [(1,.box [cI n]),(6,.box zF0),(9,.box ([cI 2,cPs (cpR f.r).t.parts]++zi (cpR f.r).t.k++[cB (cpR f.r).eq,cFs ([]:List za0)]))] h fun a w h=>qW (Je 10 [(2,.cmp (op:=.eql) (m:=2) (n:=2) (b:=true) .i64 rfl)] [] [(12,vb true)] h fun a w h=>cS true h (fun _=>?_) nofun);refine Jm 10 [(3,.g (Op.callV (d:=16) (t:=13) (cap:=[.ptr 1 0]) (args:=[(vR (cpR f.r))]) (rs:=[(15,(vR (cpR f.r)))]) (tys:=#[32]) (LMove1 (cpR f.r) n ((cl_rel hc hc5).mono (by decide) (by decide))) ma0_13 (OVs.cons (OV.tmp 15 _) (OVs.nil))))] [12] [] [(1,.box [cI n]),(6,.box zF0),(9,.box ([cI 2,cPs (zc8 n (cpR f.r)).t.parts]++zi (zc8 n (cpR f.r)).t.k++[cB (zc8 n (cpR f.r)).eq,cFs ([]:List za0)]))] h fun a w h=>za1 (qW (Je 10 [(2,.len (za6 6 za0.d ([]:List za0)))] [] [(19,(vFs ([]:List za0))),(20,vI (([]:List za0).length:Int)),(21,vI 0)] h fun a w h=>qZ ?_))
  refine zaq (ι:=Unit) (fun (z_:Unit)=>match z_ with | ()=>True)
    (fun (z_:Unit)=>match z_ with | ()=>[(1,.t (.c (.fn (.func 115) [] [.ptr 1 0]))),(4,vp 6 0),(5,vp 9 0),(19,(vFs ([]:List za0))),(20,vI (([]:List za0).length:Int)),(21,vI 0)])
    (fun (z_:Unit)=>match z_ with | ()=>[(1,.box [cI n]),(6,.box zF0),(9,.box ([cI 2,cPs (zc8 n (cpR f.r)).t.parts]++zi (zc8 n (cpR f.r)).t.k++[cB (zc8 n (cpR f.r)).eq,cFs ([]:List za0)]))])
    (fun (z_:Unit)=>match z_ with | ()=>0) () ?_ h (by kernel_rfl) (by kernel_rfl) ?_
  ·trivial
  clear h;rintro ⟨⟩ a w hI h;change St _ (F.of [(1,.t (.c (.fn (.func 115) [] [.ptr 1 0]))),(4,vp 6 0),(5,vp 9 0),(19,(vFs ([]:List za0))),(20,vI (([]:List za0).length:Int)),(21,vI 0)] [(1,.box [cI n]),(6,.box zF0),(9,.box ([cI 2,cPs (zc8 n (cpR f.r)).t.parts]++zi (zc8 n (cpR f.r)).t.k++[cB (zc8 n (cpR f.r)).eq,cFs ([]:List za0)]))]) a w at h;refine Jq 10 [(0,.cmp (op:=.lss) (m:=0) (n:=(([]:List za0).length:Int)) (b:=false) .i64 rfl)] [(1,.t (.c (.fn (.func 115) [] [.ptr 1 0]))),(4,vp 6 0),(5,vp 9 0),(19,(vFs ([]:List za0))),(20,vI (([]:List za0).length:Int)),(21,vI 0),(22,vb false)] [(1,.box [cI n]),(6,.box zF0),(9,.box ([cI 2,cPs (zc8 n (cpR f.r)).t.parts]++zi (zc8 n (cpR f.r)).t.k++[cB (zc8 n (cpR f.r)).eq,cFs ([]:List za0)]))] h fun a w h=>qW (zap false h rfl nofun (fun _=>wp_exit (zaa (zaa (za5 (za1 (Jq 10 [] [(4,vp 6 0)] [(1,.box [cI n]),(6,.box ([cI 2,cPs (zc8 n (cpR f.r)).t.parts]++zi (zc8 n (cpR f.r)).t.k++[cB (zc8 n (cpR f.r)).eq,cFs ([]:List za0)]))] h fun a w h=>qV (rA 6 ([cI 2,cPs (zc8 n (cpR f.r)).t.parts]++zi (zc8 n (cpR f.r)).t.k++[cB (zc8 n (cpR f.r)).eq,cFs ([]:List za0)]) h zch rfl ?_))))))));rw [each_atom (zc8 n) (by have:=hc5;simpa using this)];try rfl
 have hc6':=hc6;(try simp at hc6')
 rcases Bool.eq_false_or_eq_true (f.kind == 0) with hc7 | hc8
 ·have hc7':=hc7;(try simp at hc7');refine Jd 10 [(1,.call (Fn.cast (zfy f hf) (show ((vF (za0.cl f)):V) = .t (.agg ([cI 0,cPs zR.t.parts]++zi zR.t.k++[cB zR.eq,cFs ([]:List za0)])) from by rw [cl_tru hc7];rfl)) la_5)] [2] [(5,vp 10 0)] [(1,.box [cI n]),(6,.box zF0),(10,.box ([cI 0,cPs zR.t.parts]++zi zR.t.k++[cB zR.eq,cFs ([]:List za0)]))] h fun a w h=>qW (Je 11 [(2,.cmp (op:=.eql) (m:=0) (n:=2) (b:=false) .i64 rfl)] [] [(12,vb false)] h fun a w h=>zap false h rfl nofun (fun _=>qU (za1 (qW (Je 11 [(2,.len (za6 6 za0.d ([]:List za0)))] [12] [(19,(vFs ([]:List za0))),(20,vI (([]:List za0).length:Int)),(21,vI 0)] h fun a w h=>qZ ?_)))))
  refine zaq (ι:=Unit) (fun (z_:Unit)=>match z_ with | ()=>True)
    (fun (z_:Unit)=>match z_ with | ()=>[(1,.t (.c (.fn (.func 115) [] [.ptr 1 0]))),(4,vp 6 0),(5,vp 10 0),(19,(vFs ([]:List za0))),(20,vI (([]:List za0).length:Int)),(21,vI 0)])
    (fun (z_:Unit)=>match z_ with | ()=>[(1,.box [cI n]),(6,.box zF0),(10,.box ([cI 0,cPs zR.t.parts]++zi zR.t.k++[cB zR.eq,cFs ([]:List za0)]))])
    (fun (z_:Unit)=>match z_ with | ()=>0) () ?_ h (by kernel_rfl) (by kernel_rfl) ?_
  ·trivial
  clear h;rintro ⟨⟩ a w hI h;change St _ (F.of [(1,.t (.c (.fn (.func 115) [] [.ptr 1 0]))),(4,vp 6 0),(5,vp 10 0),(19,(vFs ([]:List za0))),(20,vI (([]:List za0).length:Int)),(21,vI 0)] [(1,.box [cI n]),(6,.box zF0),(10,.box ([cI 0,cPs zR.t.parts]++zi zR.t.k++[cB zR.eq,cFs ([]:List za0)]))]) a w at h;refine Jq 11 [(0,.cmp (op:=.lss) (m:=0) (n:=(([]:List za0).length:Int)) (b:=false) .i64 rfl)] [(1,.t (.c (.fn (.func 115) [] [.ptr 1 0]))),(4,vp 6 0),(5,vp 10 0),(19,(vFs ([]:List za0))),(20,vI (([]:List za0).length:Int)),(21,vI 0),(22,vb false)] [(1,.box [cI n]),(6,.box zF0),(10,.box ([cI 0,cPs zR.t.parts]++zi zR.t.k++[cB zR.eq,cFs ([]:List za0)]))] h fun a w h=>qW (zap false h rfl nofun (fun _=>wp_exit (zaa (zaa (za5 (za1 (Jq 11 [] [(4,vp 6 0)] [(1,.box [cI n]),(6,.box ([cI 0,cPs zR.t.parts]++zi zR.t.k++[cB zR.eq,cFs ([]:List za0)]))] h fun a w h=>qV (rA 6 ([cI 0,cPs zR.t.parts]++zi zR.t.k++[cB zR.eq,cFs ([]:List za0)]) h zch rfl ?_))))))));rw [each_0 (zc8 n) (by have:=hc7;simpa using this)];try rfl
 have hc8':=hc8;(try simp at hc8');refine Jd 11 [(1,.call (Fn.cast (zfy f hf) (show ((vF (za0.cl f)):V) = .t (.agg ([cI 1,cPs zR.t.parts]++zi zR.t.k++[cB zR.eq,cFs ([]:List za0)])) from by rw [cl_out9 (dF hc4) hc6 hc8];rfl)) la_5)] [2] [(5,vp 11 0)] [(1,.box [cI n]),(6,.box zF0),(11,.box ([cI 1,cPs zR.t.parts]++zi zR.t.k++[cB zR.eq,cFs ([]:List za0)]))] h fun a w h=>qW (Je 12 [(2,.cmp (op:=.eql) (m:=1) (n:=2) (b:=false) .i64 rfl)] [] [(12,vb false)] h fun a w h=>zap false h rfl nofun (fun _=>qU (za1 (qW (Je 12 [(2,.len (za6 6 za0.d ([]:List za0)))] [12] [(19,(vFs ([]:List za0))),(20,vI (([]:List za0).length:Int)),(21,vI 0)] h fun a w h=>qZ ?_)))))
 refine zaq (ι:=Unit) (fun (z_:Unit)=>match z_ with | ()=>True)
   (fun (z_:Unit)=>match z_ with | ()=>[(1,.t (.c (.fn (.func 115) [] [.ptr 1 0]))),(4,vp 6 0),(5,vp 11 0),(19,(vFs ([]:List za0))),(20,vI (([]:List za0).length:Int)),(21,vI 0)])
   (fun (z_:Unit)=>match z_ with | ()=>[(1,.box [cI n]),(6,.box zF0),(11,.box ([cI 1,cPs zR.t.parts]++zi zR.t.k++[cB zR.eq,cFs ([]:List za0)]))])
   (fun (z_:Unit)=>match z_ with | ()=>0) () ?_ h (by kernel_rfl) (by kernel_rfl) ?_
 ·trivial
 clear h;rintro ⟨⟩ a w hI h;change St _ (F.of [(1,.t (.c (.fn (.func 115) [] [.ptr 1 0]))),(4,vp 6 0),(5,vp 11 0),(19,(vFs ([]:List za0))),(20,vI (([]:List za0).length:Int)),(21,vI 0)] [(1,.box [cI n]),(6,.box zF0),(11,.box ([cI 1,cPs zR.t.parts]++zi zR.t.k++[cB zR.eq,cFs ([]:List za0)]))]) a w at h;refine Jq 12 [(0,.cmp (op:=.lss) (m:=0) (n:=(([]:List za0).length:Int)) (b:=false) .i64 rfl)] [(1,.t (.c (.fn (.func 115) [] [.ptr 1 0]))),(4,vp 6 0),(5,vp 11 0),(19,(vFs ([]:List za0))),(20,vI (([]:List za0).length:Int)),(21,vI 0),(22,vb false)] [(1,.box [cI n]),(6,.box zF0),(11,.box ([cI 1,cPs zR.t.parts]++zi zR.t.k++[cB zR.eq,cFs ([]:List za0)]))] h fun a w h=>qW (zap false h rfl nofun (fun _=>wp_exit (zaa (zaa (za5 (za1 (Jq 12 [] [(4,vp 6 0)] [(1,.box [cI n]),(6,.box ([cI 1,cPs zR.t.parts]++zi zR.t.k++[cB zR.eq,cFs ([]:List za0)]))] h fun a w h=>qV (rA 6 ([cI 1,cPs zR.t.parts]++zi zR.t.k++[cB zR.eq,cFs ([]:List za0)]) h zch rfl ?_))))))));rw [each_x (zc8 n) (dF hc4) (by have:=hc6;simpa using this) (by have:=hc8;simpa using this)];try rfl
theorem LeachM (n:Int) :∀ c:za0,c.okB 1000 10000->∀ f:za0,f.cl=c->f.okB 1000 10000->Fn Tryz.prog 89 [(1,.box [cI n])] [(vF f),.t (.c (.fn (.func 115) [] [.ptr 1 0]))] (vF (za0.each (zc8 n) f)) [(1,.box [cI n])] :=
 fun c=>za0.ind (P:=fun c=>c.okB 1000 10000->∀ f:za0,f.cl=c->f.okB 1000 10000->Fn Tryz.prog 89 [(1,.box [cI n])] [(vF f),.t (.c (.fn (.func 115) [] [.ptr 1 0]))] (vF (za0.each (zc8 n) f)) [(1,.box [cI n])]) (fun k r ks ih hc f e hf=>by
  refine LeachM0 f n hf (by rw [e];exact hc)  fun q hq=>?_
  have hq2:q ∈ ks:=by have:=hq;rw [e] at this;exact this
  have hk:q.okB 1000 10000:=by
   refine zey hc (?_:q ∈ cnt k ks)
   have hcc:f.cl.cl=f.cl:=cl_cl f
   have:=cnt_of_cl f
   rw [e] at this;rw [show cnt k ks=ks from this];exact hq2
  exact ih q hq2 hk q (cl_kids_cl hq) (za0.okB_mono (by decide) (by decide) _ hk)) c
theorem LeachP0 (f:za0) (vs:List Int) (bys:List zak) (hf:f.okB 1000 10000) (hc:f.cl.okB 30 20) (hb:∀ b ∈ bys,zgb b) (hlv:vs.length<=1000000) (hlb:bys.length<=1000000) (ih:∀ q ∈ f.cl.kids,Fn Tryz.prog 89 [(1,.box [cIs vs]),(2,.box [.d (.sl 3 (bys.map zak.d))])] [(vF q),.t (.c (.fn (.func 90) [] [.ptr 1 0,.ptr 2 0]))] (vF (za0.each (zc6 vs bys) q)) [(1,.box [cIs vs]),(2,.box [.d (.sl 3 (bys.map zak.d))])]):Fn Tryz.prog 89 [(1,.box [cIs vs]),(2,.box [.d (.sl 3 (bys.map zak.d))])] [(vF f),.t (.c (.fn (.func 90) [] [.ptr 1 0,.ptr 2 0]))] (vF (za0.each (zc6 vs bys) f)) [(1,.box [cIs vs]),(2,.box [.d (.sl 3 (bys.map zak.d))])]:=by
 have lkc:f.cl.kids.length<=9223372036854775807:=zd2 hc;refine Fn.body Tryz.func89 rfl 35 rfl fun w H B a h=>Jq 5 [] [(1,.t (.c (.fn (.func 90) [] [.ptr 1 0,.ptr 2 0]))),(2,vp 5 0),(4,vp 6 0)] [(1,.box [cIs vs]),(2,.box [.d (.sl 3 (bys.map zak.d))]),(5,.box (zF f)),(6,.box zF0)] h fun a w h=>?_
 rcases Bool.eq_false_or_eq_true (decide (f.kind=3\/f.kind=4\/f.kind=5)) with hc1 | hc4
 ·have hc1':=dT hc1;have hkd:=dT hc1;refine Jd 7 [(1,.call (LcloneO f hf hkd) la_5)] [2] [(5,vp 7 0)] [(1,.box [cIs vs]),(2,.box [.d (.sl 3 (bys.map zak.d))]),(6,.box zF0),(0,.row 35 6 (f.cl.kids.map za0.d)),(7,.box ([cI f.kind,cPs zR.t.parts]++zi zR.t.k++[cB zR.eq,.own 0 f.cl.kids.length]))] h fun a w h=>qW (Je 8 [(2,.cmp (op:=.eql) (m:=f.kind) (n:=2) (b:=false) .i64 (beq_eq_false_iff_ne.2 (by omega)))] [] [(12,vb false)] h fun a w h=>zap false h rfl nofun (fun _=>qU (za1 (qW (Je 8 [] [12] [(19,vO 0 f.cl.kids.length),(20,vN f.cl.kids.length),(21,vI 0)] h fun a w h=>qZ ?_)))));replace h:=cv (fun z_:List za0=>F.of [(1,.t (.c (.fn (.func 90) [] [.ptr 1 0,.ptr 2 0]))),(4,vp 6 0),(5,vp 7 0),(19,vO 0 f.cl.kids.length),(20,vN f.cl.kids.length),(21,vI 0)] [(1,.box [cIs vs]),(2,.box [.d (.sl 3 (bys.map zak.d))]),(6,.box zF0),(0,.row 35 6 (z_.map za0.d)),(7,.box ([cI f.kind,cPs zR.t.parts]++zi zR.t.k++[cB zR.eq,.own 0 f.cl.kids.length]))]) (show (f.cl.kids:List za0)=((f.cl.kids.take 0).map (za0.each (zc6 vs bys))++f.cl.kids.drop 0) from (by simp)) h
  refine zaq (ι:=(Nat)) (fun j=>j<=f.cl.kids.length)
    (fun j=>[(1,.t (.c (.fn (.func 90) [] [.ptr 1 0,.ptr 2 0]))),(4,vp 6 0),(5,vp 7 0),(19,vO 0 f.cl.kids.length),(20,vN f.cl.kids.length),(21,vN j)])
    (fun j=>[(1,.box [cIs vs]),(2,.box [.d (.sl 3 (bys.map zak.d))]),(6,.box zF0),(0,.row 35 6 (((f.cl.kids.take j).map (za0.each (zc6 vs bys))++f.cl.kids.drop j).map za0.d)),(7,.box ([cI f.kind,cPs zR.t.parts]++zi zR.t.k++[cB zR.eq,.own 0 f.cl.kids.length]))])
    (fun j=>f.cl.kids.length - j) 0 ?_ h (by kernel_rfl) (by kernel_rfl) ?_
  ·exact Nat.zero_le _
  clear h;rintro j a w hI h;have lej:((f.cl.kids.take j).map (za0.each (zc6 vs bys))++f.cl.kids.drop j).length=f.cl.kids.length:=mvx_len f.cl.kids _ hI;refine Je 8 [] [] [(22,vb (decide ((j:Int)<(f.cl.kids.length:Int))))] h fun a w h=>qW (zam ((j:Int)<(f.cl.kids.length:Int)) h (fun hc2 hc2'=>?_) (fun hc3 hc3'=>?_))
  ·refine qU (za1 (qW (qZ ?_)));obtain ⟨x3,hx3⟩:=gl f.cl.kids j;refine Jd 8 [(1,.g (xO 24 19 0 f.cl.kids.length j ziz (OV.tmp 21 _))),(2,.g (Op.loadR_agg (d:=25) (t:=24) (n:=0) (i:=j) (fo:=0) (rty:=35) (es:=6) (xs:=[.raw (.int .i64 x3.kind),.sl 3 (x3.r.t.parts.map za3.d),.raw (.bool x3.r.t.k.neg),nsl x3.r.t.k.abs,.raw (.bool x3.r.eq),.sl 6 (x3.kids.map za0.d)]) zch rfl ((zab (mvx_at (F:=za0.each (zc6 vs bys)) hx3) (f:=za0.d)).trans (congrArg some (za0.d_eq x3))) rfl rfl))] [22] [(6,vN j),(7,vp 8 0)] [(1,.box [cIs vs]),(2,.box [.d (.sl 3 (bys.map zak.d))]),(6,.box zF0),(0,.row 35 6 (((f.cl.kids.take j).map (za0.each (zc6 vs bys))++f.cl.kids.drop j).map za0.d)),(7,.box ([cI f.kind,cPs zR.t.parts]++zi zR.t.k++[cB zR.eq,.own 0 f.cl.kids.length])),(8,.box (zF x3))] h fun a w h=>Jm 9 [(5,.call (ih x3 (lM hx3)) ma0_12),(6,.g (xO 32 27 0 f.cl.kids.length j ziz (OV.tmp 28 _))),(7,.g (Op.storeR (t:=32) (n:=0) (i:=j) (fo:=0) (rty:=35) (es:=6) (r:=za0.d x3) (ds:=[.raw (.int .i64 (za0.each (zc6 vs bys) x3).kind),.sl 3 ((za0.each (zc6 vs bys) x3).r.t.parts.map za3.d),.raw (.bool (za0.each (zc6 vs bys) x3).r.t.k.neg),nsl (za0.each (zc6 vs bys) x3).r.t.k.abs,.raw (.bool (za0.each (zc6 vs bys) x3).r.eq),.sl 6 ((za0.each (zc6 vs bys) x3).kids.map za0.d)]) (rs:=[(31,(vF (za0.each (zc6 vs bys) x3)))]) (rows:=((f.cl.kids.take j).map (za0.each (zc6 vs bys))++f.cl.kids.drop j).map za0.d) (rows':=(((f.cl.kids.take j).map (za0.each (zc6 vs bys))++f.cl.kids.drop j).set j (za0.each (zc6 vs bys) x3)).map za0.d) zch (OV.tmp 31 _) rfl rfl rfl (zab (mvx_at (F:=za0.each (zc6 vs bys)) hx3) (f:=za0.d)) (by rw [za0.d_len];decide) (zc5 (xs:=((f.cl.kids.take j).map (za0.each (zc6 vs bys))++f.cl.kids.drop j)) (F:=za0.d) j _ _ (by rw [za0.d_eq x3,za0.d_eq (za0.each (zc6 vs bys) x3)];rfl))))] [6,7] [] [(1,.box [cIs vs]),(2,.box [.d (.sl 3 (bys.map zak.d))]),(6,.box zF0),(0,.row 35 6 ((((f.cl.kids.take j).map (za0.each (zc6 vs bys))++f.cl.kids.drop j).set j (za0.each (zc6 vs bys) x3)).map za0.d)),(7,.box ([cI f.kind,cPs zR.t.parts]++zi zR.t.k++[cB zR.eq,.own 0 f.cl.kids.length]))] h fun a w h=>za9 (za1 (Jf 9 [(0,.j1 j)] [] [(21,vI ((j:Int)+1))] h fun a w h=>za1 ?_));replace h:=cv (fun z_:List za0=>F.of [(1,.t (.c (.fn (.func 90) [] [.ptr 1 0,.ptr 2 0]))),(4,vp 6 0),(5,vp 7 0),(19,vO 0 f.cl.kids.length),(20,vN f.cl.kids.length),(21,vI ((j:Int)+1))] [(1,.box [cIs vs]),(2,.box [.d (.sl 3 (bys.map zak.d))]),(6,.box zF0),(0,.row 35 6 (z_.map za0.d)),(7,.box ([cI f.kind,cPs zR.t.parts]++zi zR.t.k++[cB zR.eq,.own 0 f.cl.kids.length]))]) (show ((((f.cl.kids.take j).map (za0.each (zc6 vs bys))++f.cl.kids.drop j).set j (za0.each (zc6 vs bys) x3)):List za0)=((f.cl.kids.take (j+1)).map (za0.each (zc6 vs bys))++f.cl.kids.drop (j+1)) from (mvx_set (F:=za0.each (zc6 vs bys)) hx3)) h;refine zag (x:=j) (y:=j+1) h ?_ ?_
   ·have:=zaj hx3;show j+1<=f.cl.kids.length;omega
   show f.cl.kids.length - (j+1)<f.cl.kids.length - j;have:=zaj hx3;omega
  refine wp_exit (zaa (zaa (za5 (za1 (Jq 9 [] [(4,vp 6 0)] [(1,.box [cIs vs]),(2,.box [.d (.sl 3 (bys.map zak.d))]),(6,.box ([cI f.kind,cPs zR.t.parts]++zi zR.t.k++[cB zR.eq,.own 0 f.cl.kids.length])),(0,.row 35 6 (((f.cl.kids.take j).map (za0.each (zc6 vs bys))++f.cl.kids.drop j).map za0.d))] h fun a w h=>qV ?_)))));replace h:=cv (fun z_:List za0=>F.of [(4,vp 6 0)] [(1,.box [cIs vs]),(2,.box [.d (.sl 3 (bys.map zak.d))]),(6,.box ([cI f.kind,cPs zR.t.parts]++zi zR.t.k++[cB zR.eq,.own 0 f.cl.kids.length])),(0,.row 35 6 (z_.map za0.d))]) (show (((f.cl.kids.take j).map (za0.each (zc6 vs bys))++f.cl.kids.drop j):List za0)=(f.cl.kids.map (za0.each (zc6 vs bys))) from (by rw [List.take_of_length_le (by omega),List.drop_of_length_le (by omega),List.append_nil])) h;replace h:=pubSK 0 6 35 ((f.cl.kids.map (za0.each (zc6 vs bys))).map za0.d) [(4,vp 6 0)] [(1,.box [cIs vs]),(2,.box [.d (.sl 3 (bys.map zak.d))]),(6,.box ([cI f.kind,cPs zR.t.parts]++zi zR.t.k++[cB zR.eq,cFs (f.cl.kids.map (za0.each (zc6 vs bys)))]))] h rfl (by kernel_rfl) trivial (show zbx _ [f.cl.kids.length] from ⟨by first | exact (List.length_map _).symm | (simp;done) | (simp;omega),trivial⟩);refine rA 6 ([cI f.kind,cPs zR.t.parts]++zi zR.t.k++[cB zR.eq,cFs (f.cl.kids.map (za0.each (zc6 vs bys)))]) h zch rfl ?_;rw [each_kids (zc6 vs bys) hkd];try rfl
 have hc4':=dF hc4
 rcases Bool.eq_false_or_eq_true (f.kind == 2) with hc5 | hc6
 ·have hc5':=hc5;(try simp at hc5');refine Jd 9 [(1,.call (Fn.cast (zfy f hf) (show ((vF (za0.cl f)):V) = .t (.agg ([cI 2,cPs (cpR f.r).t.parts]++zi (cpR f.r).t.k++[cB (cpR f.r).eq,cFs ([]:List za0)])) from by rw [cl_at hc5];rfl)) la_5)] [2] [(5,vp 9 0)] [(1,.box [cIs vs]),(2,.box [.d (.sl 3 (bys.map zak.d))]),(6,.box zF0),(9,.box ([cI 2,cPs (cpR f.r).t.parts]++zi (cpR f.r).t.k++[cB (cpR f.r).eq,cFs ([]:List za0)]))] h fun a w h=>qW (Je 10 [(2,.cmp (op:=.eql) (m:=2) (n:=2) (b:=true) .i64 rfl)] [] [(12,vb true)] h fun a w h=>cS true h (fun _=>?_) nofun);refine Jm 10 [(3,.g (Op.callV (d:=16) (t:=13) (cap:=[.ptr 1 0,.ptr 2 0]) (args:=[(vR (cpR f.r))]) (rs:=[(15,(vR (cpR f.r)))]) (tys:=#[32]) (LPutAll1 (cpR f.r) vs bys (cl_rel hc hc5) hb hlv hlb) ma0_14 (OVs.cons (OV.tmp 15 _) (OVs.nil))))] [12] [] [(1,.box [cIs vs]),(2,.box [.d (.sl 3 (bys.map zak.d))]),(6,.box zF0),(9,.box ([cI 2,cPs (zc6 vs bys (cpR f.r)).t.parts]++zi (zc6 vs bys (cpR f.r)).t.k++[cB (zc6 vs bys (cpR f.r)).eq,cFs ([]:List za0)]))] h fun a w h=>za1 (qW (Je 10 [(2,.len (za6 6 za0.d ([]:List za0)))] [] [(19,(vFs ([]:List za0))),(20,vI (([]:List za0).length:Int)),(21,vI 0)] h fun a w h=>qZ ?_))
  refine zaq (ι:=Unit) (fun (z_:Unit)=>match z_ with | ()=>True)
    (fun (z_:Unit)=>match z_ with | ()=>[(1,.t (.c (.fn (.func 90) [] [.ptr 1 0,.ptr 2 0]))),(4,vp 6 0),(5,vp 9 0),(19,(vFs ([]:List za0))),(20,vI (([]:List za0).length:Int)),(21,vI 0)])
    (fun (z_:Unit)=>match z_ with | ()=>[(1,.box [cIs vs]),(2,.box [.d (.sl 3 (bys.map zak.d))]),(6,.box zF0),(9,.box ([cI 2,cPs (zc6 vs bys (cpR f.r)).t.parts]++zi (zc6 vs bys (cpR f.r)).t.k++[cB (zc6 vs bys (cpR f.r)).eq,cFs ([]:List za0)]))])
    (fun (z_:Unit)=>match z_ with | ()=>0) () ?_ h (by kernel_rfl) (by kernel_rfl) ?_
  ·trivial
  clear h;rintro ⟨⟩ a w hI h;change St _ (F.of [(1,.t (.c (.fn (.func 90) [] [.ptr 1 0,.ptr 2 0]))),(4,vp 6 0),(5,vp 9 0),(19,(vFs ([]:List za0))),(20,vI (([]:List za0).length:Int)),(21,vI 0)] [(1,.box [cIs vs]),(2,.box [.d (.sl 3 (bys.map zak.d))]),(6,.box zF0),(9,.box ([cI 2,cPs (zc6 vs bys (cpR f.r)).t.parts]++zi (zc6 vs bys (cpR f.r)).t.k++[cB (zc6 vs bys (cpR f.r)).eq,cFs ([]:List za0)]))]) a w at h;refine Jq 10 [(0,.cmp (op:=.lss) (m:=0) (n:=(([]:List za0).length:Int)) (b:=false) .i64 rfl)] [(1,.t (.c (.fn (.func 90) [] [.ptr 1 0,.ptr 2 0]))),(4,vp 6 0),(5,vp 9 0),(19,(vFs ([]:List za0))),(20,vI (([]:List za0).length:Int)),(21,vI 0),(22,vb false)] [(1,.box [cIs vs]),(2,.box [.d (.sl 3 (bys.map zak.d))]),(6,.box zF0),(9,.box ([cI 2,cPs (zc6 vs bys (cpR f.r)).t.parts]++zi (zc6 vs bys (cpR f.r)).t.k++[cB (zc6 vs bys (cpR f.r)).eq,cFs ([]:List za0)]))] h fun a w h=>qW (zap false h rfl nofun (fun _=>wp_exit (zaa (zaa (za5 (za1 (Jq 10 [] [(4,vp 6 0)] [(1,.box [cIs vs]),(2,.box [.d (.sl 3 (bys.map zak.d))]),(6,.box ([cI 2,cPs (zc6 vs bys (cpR f.r)).t.parts]++zi (zc6 vs bys (cpR f.r)).t.k++[cB (zc6 vs bys (cpR f.r)).eq,cFs ([]:List za0)]))] h fun a w h=>qV (rA 6 ([cI 2,cPs (zc6 vs bys (cpR f.r)).t.parts]++zi (zc6 vs bys (cpR f.r)).t.k++[cB (zc6 vs bys (cpR f.r)).eq,cFs ([]:List za0)]) h zch rfl ?_))))))));rw [each_atom (zc6 vs bys) (by have:=hc5;simpa using this)];try rfl
 have hc6':=hc6;(try simp at hc6')
 rcases Bool.eq_false_or_eq_true (f.kind == 0) with hc7 | hc8
 ·have hc7':=hc7;(try simp at hc7');refine Jd 10 [(1,.call (Fn.cast (zfy f hf) (show ((vF (za0.cl f)):V) = .t (.agg ([cI 0,cPs zR.t.parts]++zi zR.t.k++[cB zR.eq,cFs ([]:List za0)])) from by rw [cl_tru hc7];rfl)) la_5)] [2] [(5,vp 10 0)] [(1,.box [cIs vs]),(2,.box [.d (.sl 3 (bys.map zak.d))]),(6,.box zF0),(10,.box ([cI 0,cPs zR.t.parts]++zi zR.t.k++[cB zR.eq,cFs ([]:List za0)]))] h fun a w h=>qW (Je 11 [(2,.cmp (op:=.eql) (m:=0) (n:=2) (b:=false) .i64 rfl)] [] [(12,vb false)] h fun a w h=>zap false h rfl nofun (fun _=>qU (za1 (qW (Je 11 [(2,.len (za6 6 za0.d ([]:List za0)))] [12] [(19,(vFs ([]:List za0))),(20,vI (([]:List za0).length:Int)),(21,vI 0)] h fun a w h=>qZ ?_)))))
  refine zaq (ι:=Unit) (fun (z_:Unit)=>match z_ with | ()=>True)
    (fun (z_:Unit)=>match z_ with | ()=>[(1,.t (.c (.fn (.func 90) [] [.ptr 1 0,.ptr 2 0]))),(4,vp 6 0),(5,vp 10 0),(19,(vFs ([]:List za0))),(20,vI (([]:List za0).length:Int)),(21,vI 0)])
    (fun (z_:Unit)=>match z_ with | ()=>[(1,.box [cIs vs]),(2,.box [.d (.sl 3 (bys.map zak.d))]),(6,.box zF0),(10,.box ([cI 0,cPs zR.t.parts]++zi zR.t.k++[cB zR.eq,cFs ([]:List za0)]))])
    (fun (z_:Unit)=>match z_ with | ()=>0) () ?_ h (by kernel_rfl) (by kernel_rfl) ?_
  ·trivial
  clear h;rintro ⟨⟩ a w hI h;change St _ (F.of [(1,.t (.c (.fn (.func 90) [] [.ptr 1 0,.ptr 2 0]))),(4,vp 6 0),(5,vp 10 0),(19,(vFs ([]:List za0))),(20,vI (([]:List za0).length:Int)),(21,vI 0)] [(1,.box [cIs vs]),(2,.box [.d (.sl 3 (bys.map zak.d))]),(6,.box zF0),(10,.box ([cI 0,cPs zR.t.parts]++zi zR.t.k++[cB zR.eq,cFs ([]:List za0)]))]) a w at h;refine Jq 11 [(0,.cmp (op:=.lss) (m:=0) (n:=(([]:List za0).length:Int)) (b:=false) .i64 rfl)] [(1,.t (.c (.fn (.func 90) [] [.ptr 1 0,.ptr 2 0]))),(4,vp 6 0),(5,vp 10 0),(19,(vFs ([]:List za0))),(20,vI (([]:List za0).length:Int)),(21,vI 0),(22,vb false)] [(1,.box [cIs vs]),(2,.box [.d (.sl 3 (bys.map zak.d))]),(6,.box zF0),(10,.box ([cI 0,cPs zR.t.parts]++zi zR.t.k++[cB zR.eq,cFs ([]:List za0)]))] h fun a w h=>qW (zap false h rfl nofun (fun _=>wp_exit (zaa (zaa (za5 (za1 (Jq 11 [] [(4,vp 6 0)] [(1,.box [cIs vs]),(2,.box [.d (.sl 3 (bys.map zak.d))]),(6,.box ([cI 0,cPs zR.t.parts]++zi zR.t.k++[cB zR.eq,cFs ([]:List za0)]))] h fun a w h=>qV (rA 6 ([cI 0,cPs zR.t.parts]++zi zR.t.k++[cB zR.eq,cFs ([]:List za0)]) h zch rfl ?_))))))));rw [each_0 (zc6 vs bys) (by have:=hc7;simpa using this)];try rfl
 have hc8':=hc8;(try simp at hc8');refine Jd 11 [(1,.call (Fn.cast (zfy f hf) (show ((vF (za0.cl f)):V) = .t (.agg ([cI 1,cPs zR.t.parts]++zi zR.t.k++[cB zR.eq,cFs ([]:List za0)])) from by rw [cl_out9 (dF hc4) hc6 hc8];rfl)) la_5)] [2] [(5,vp 11 0)] [(1,.box [cIs vs]),(2,.box [.d (.sl 3 (bys.map zak.d))]),(6,.box zF0),(11,.box ([cI 1,cPs zR.t.parts]++zi zR.t.k++[cB zR.eq,cFs ([]:List za0)]))] h fun a w h=>qW (Je 12 [(2,.cmp (op:=.eql) (m:=1) (n:=2) (b:=false) .i64 rfl)] [] [(12,vb false)] h fun a w h=>zap false h rfl nofun (fun _=>qU (za1 (qW (Je 12 [(2,.len (za6 6 za0.d ([]:List za0)))] [12] [(19,(vFs ([]:List za0))),(20,vI (([]:List za0).length:Int)),(21,vI 0)] h fun a w h=>qZ ?_)))))
 refine zaq (ι:=Unit) (fun (z_:Unit)=>match z_ with | ()=>True)
   (fun (z_:Unit)=>match z_ with | ()=>[(1,.t (.c (.fn (.func 90) [] [.ptr 1 0,.ptr 2 0]))),(4,vp 6 0),(5,vp 11 0),(19,(vFs ([]:List za0))),(20,vI (([]:List za0).length:Int)),(21,vI 0)])
   (fun (z_:Unit)=>match z_ with | ()=>[(1,.box [cIs vs]),(2,.box [.d (.sl 3 (bys.map zak.d))]),(6,.box zF0),(11,.box ([cI 1,cPs zR.t.parts]++zi zR.t.k++[cB zR.eq,cFs ([]:List za0)]))])
   (fun (z_:Unit)=>match z_ with | ()=>0) () ?_ h (by kernel_rfl) (by kernel_rfl) ?_
 ·trivial
 clear h;rintro ⟨⟩ a w hI h;change St _ (F.of [(1,.t (.c (.fn (.func 90) [] [.ptr 1 0,.ptr 2 0]))),(4,vp 6 0),(5,vp 11 0),(19,(vFs ([]:List za0))),(20,vI (([]:List za0).length:Int)),(21,vI 0)] [(1,.box [cIs vs]),(2,.box [.d (.sl 3 (bys.map zak.d))]),(6,.box zF0),(11,.box ([cI 1,cPs zR.t.parts]++zi zR.t.k++[cB zR.eq,cFs ([]:List za0)]))]) a w at h;refine Jq 12 [(0,.cmp (op:=.lss) (m:=0) (n:=(([]:List za0).length:Int)) (b:=false) .i64 rfl)] [(1,.t (.c (.fn (.func 90) [] [.ptr 1 0,.ptr 2 0]))),(4,vp 6 0),(5,vp 11 0),(19,(vFs ([]:List za0))),(20,vI (([]:List za0).length:Int)),(21,vI 0),(22,vb false)] [(1,.box [cIs vs]),(2,.box [.d (.sl 3 (bys.map zak.d))]),(6,.box zF0),(11,.box ([cI 1,cPs zR.t.parts]++zi zR.t.k++[cB zR.eq,cFs ([]:List za0)]))] h fun a w h=>qW (zap false h rfl nofun (fun _=>wp_exit (zaa (zaa (za5 (za1 (Jq 12 [] [(4,vp 6 0)] [(1,.box [cIs vs]),(2,.box [.d (.sl 3 (bys.map zak.d))]),(6,.box ([cI 1,cPs zR.t.parts]++zi zR.t.k++[cB zR.eq,cFs ([]:List za0)]))] h fun a w h=>qV (rA 6 ([cI 1,cPs zR.t.parts]++zi zR.t.k++[cB zR.eq,cFs ([]:List za0)]) h zch rfl ?_))))))));rw [each_x (zc6 vs bys) (dF hc4) (by have:=hc6;simpa using this) (by have:=hc8;simpa using this)];try rfl
theorem LeachP (vs:List Int) (bys:List zak) (hb:∀ b ∈ bys,zgb b) (hlv:vs.length<=1000000) (hlb:bys.length<=1000000):∀ c:za0,c.okB 30 20->∀ f:za0,f.cl=c->f.okB 1000 10000->Fn Tryz.prog 89 [(1,.box [cIs vs]),(2,.box [.d (.sl 3 (bys.map zak.d))])] [(vF f),.t (.c (.fn (.func 90) [] [.ptr 1 0,.ptr 2 0]))] (vF (za0.each (zc6 vs bys) f)) [(1,.box [cIs vs]),(2,.box [.d (.sl 3 (bys.map zak.d))])] :=
 fun c=>za0.ind (P:=fun c=>c.okB 30 20->∀ f:za0,f.cl=c->f.okB 1000 10000->Fn Tryz.prog 89 [(1,.box [cIs vs]),(2,.box [.d (.sl 3 (bys.map zak.d))])] [(vF f),.t (.c (.fn (.func 90) [] [.ptr 1 0,.ptr 2 0]))] (vF (za0.each (zc6 vs bys) f)) [(1,.box [cIs vs]),(2,.box [.d (.sl 3 (bys.map zak.d))])]) (fun k r ks ih hc f e hf=>by
  refine LeachP0 f vs bys hf (by rw [e];exact hc) hb hlv hlb fun q hq=>?_
  have hq2:q ∈ ks:=by have:=hq;rw [e] at this;exact this
  have hk:q.okB 30 20:=by
   refine zey hc (?_:q ∈ cnt k ks)
   have hcc:f.cl.cl=f.cl:=cl_cl f
   have:=cnt_of_cl f
   rw [e] at this;rw [show cnt k ks=ks from this];exact hq2
  exact ih q hq2 hk q (cl_kids_cl hq) (za0.okB_mono (by decide) (by decide) _ hk)) c
theorem LMoveF (f:za0) (n:Int) (hf:f.okB 1000 10000) (hc:f.cl.okB 1000 10000):Fn Tryz.prog 75 [] [(vF f),vI n] (vF (za0.each (zc8 n) f)) []:=by
 refine Fn.body Tryz.func75 rfl 8 rfl fun w H B a h=>Jq 0 [] [(2,vp 0 0),(3,vp 1 0),(4,vp 2 0)] [(0,.box (zF f)),(1,.box [cI n]),(2,.box zF0)] h fun a w h=>Jq 3 [(1,.g (Op.makeFs (d:=6) (fn:=.func 115) [(3,1,0)])),(2,.call (LeachM n f.cl hc f rfl hf) ma0_12)] [(4,vp 2 0)] [(2,.box (zF (za0.each (zc8 n) f)))] h fun a w h=>qV (rA 2 (zF (za0.each (zc8 n) f)) h zch rfl ?_)
 rfl
theorem LPutAllF (f:za0) (vs:List Int) (bys:List zak) (hf:f.okB 1000 10000) (hc:f.cl.okB 30 20) (hb:∀ b ∈ bys,zgb b) (hlv:vs.length<=1000000) (hlb:bys.length<=1000000):Fn Tryz.prog 57 [] [(vF f),(vIs vs),vS 3 (bys.map zak.d)] (vF (za0.each (zc6 vs bys) f)) []:=by
 refine Fn.body Tryz.func57 rfl 10 rfl fun w H B a h=>Jq 0 [] [(3,vp 0 0),(4,vp 1 0),(5,vp 2 0),(6,vp 3 0)] [(0,.box (zF f)),(1,.box [cIs vs]),(2,.box [.d (.sl 3 (bys.map zak.d))]),(3,.box zF0)] h fun a w h=>Jq 4 [(1,.g (Op.makeFs (d:=8) (fn:=.func 90) [(4,1,0),(5,2,0)])),(2,.call (LeachP vs bys hb hlv hlb f.cl hc f rfl hf) ma0_12)] [(6,vp 3 0)] [(3,.box (zF (za0.each (zc6 vs bys) f)))] h fun a w h=>qV (rA 3 (zF (za0.each (zc6 vs bys) f)) h zch rfl ?_)
 rfl
theorem kf_0:SlT Tryz.prog 23 106 5:=SlT.mk' Tryz.underlying23 (by kernel_rfl)
theorem kf_5:SlT Tryz.prog 36 59 3:=SlT.mk' Tryz.underlying36 (by kernel_rfl)
def zero0:ZI:=⟨false,[]⟩
def bnd0:zaw:=⟨false,zero0,zero0⟩
def zft (s:zar) (v:Nat):zaw:=(s.bounds[v]?).getD bnd0
def zev (s:zar) (i:Nat):Nat:=((s.procs[i]?).map fun p=>p.locs.length).getD 0
def ZOk (L:Nat) (z:ZI):Prop:=Lb z.abs/\z.abs.length<=L
structure zgd (L:Nat) (a:zbi):Prop where
  guard:a.guard.lb/\a.guard.ok L
  len:a.moves.length<=20
  mv:∀ m ∈ a.moves,TOk 20 L m.t
structure zba (L:Nat) (s:zar):Prop where
  vars:s.vars.length<=8
  bnds:s.bounds.length<=20
  procs:s.procs.length<=6
  acts:s.acts.length<=20
  bnd:∀ b ∈ s.bounds,ZOk L b.lo/\ZOk L b.hi
  init:s.init.lb/\s.init.ok L
  act:∀ a ∈ s.acts,zgd L a
theorem ZOk.zero {L:Nat}:ZOk L zero0:=⟨zdo,Nat.zero_le _⟩
theorem bnd_ok {L:Nat} {s:zar} (h:zba L s) (v:Nat):ZOk L (zft s v).lo/\ZOk L (zft s v).hi:=by
 unfold zft
 cases hb:s.bounds[v]? with
 | none=>exact ⟨ZOk.zero,ZOk.zero⟩
 | some b=>exact h.bnd b (List.mem_of_getElem? hb)
theorem kg_7:za4 Tryz.prog 123:=za4.mk' (by kernel_rfl)
theorem kg_8:za4 Tryz.prog 92:=za4.mk' (by kernel_rfl)
theorem ki_0:Sz Tryz.prog 72 10 true:=Sz.mk' (by kernel_rfl) Tryz.underlying72 _ rfl
theorem ki_1:SlT Tryz.prog 37 72 10:=SlT.mk' Tryz.underlying37 (by kernel_rfl)
theorem ki_2:SlT Tryz.prog 70 74 5:=SlT.mk' Tryz.underlying70 (by kernel_rfl)
theorem ki_4:za4 Tryz.prog 100:=za4.mk' (by kernel_rfl)
theorem ki_5:Sz Tryz.prog 74 5 true:=Sz.mk' (by kernel_rfl) Tryz.underlying74 _ rfl
def zf2 (s:zar) (i:Int):Option zbi:=if 0<=i then s.acts[i.toNat]? else none
def form0:za0:=⟨0,⟨⟨[],zero0⟩,false⟩,[]⟩
def act0:zbi:=⟨0,0,0,form0,[]⟩
def mv0:zad:=⟨0,false,⟨[],zero0⟩⟩
def mvAt (a:zbi) (v:Nat):Option zad:=a.moves.find? fun m=>m.v == (v:Int)
def zdq (s:zar) (m:zad):Bool:=decide (m.v>=0) && decide (m.v<(s.vars.length:Int))
theorem zia {s:zar} {i:Int} {a:zbi} (h:zf2 s i=some a):∃ k:Nat,i=(k:Int)/\s.acts[k]?=some a:=by
 unfold zf2 at h
 split at h
 ·exact ⟨i.toNat,(Int.toNat_of_nonneg (by assumption)).symm,h⟩
 ·cases h
theorem actAt_none {s:zar} {i:Int} (h:zf2 s i=none):i<0\/(s.acts.length:Int)<=i:=by
 unfold zf2 at h
 split at h
 ·have:=List.getElem?_eq_none_iff.1 h;omega
 ·omega
def fam1tb:Tb:=[(3,⟨1,false,[],[.d (.raw (.int .i64 0))],13⟩),(4,⟨1,false,[],[.d (.raw (.bool false))],3⟩),(24,⟨1,false,[],[.d (.raw zaf)],1⟩),(26,⟨1,false,[],[.d (nsl [])],1⟩),(28,⟨2,true,[(0,1,false),(1,1,false)],[.d (.raw (.bool false)),.d (nsl [])],0⟩),(30,⟨3,true,[(0,1,false),(1,2,true)],[.d (.raw zaf),.d (.raw (.bool false)),.d (nsl [])],0⟩),(74,⟨5,true,[(0,1,false),(1,1,false),(2,3,true)],[.d (.raw (.int .i64 0)),.d (.raw (.bool false)),.d (.raw zaf),.d (.raw (.bool false)),.d (nsl [])],0⟩),(22,⟨1,false,[],[.d (.raw zaf)],1⟩),(23,⟨1,false,[],[.d (.raw zaf)],1⟩),(32,⟨4,true,[(0,3,true),(3,1,false)],[.d (.raw zaf),.d (.raw (.bool false)),.d (nsl []),.d (.raw (.bool false))],0⟩),(33,⟨1,false,[],[.d (.raw zaf)],1⟩),(35,⟨6,true,[(0,1,false),(1,4,true),(5,1,false)],[.d (.raw (.int .i64 0)),.d (.raw zaf),.d (.raw (.bool false)),.d (nsl []),.d (.raw (.bool false)),.d (.raw zaf)],0⟩),(36,⟨1,false,[],[.d (.raw zaf)],1⟩),(37,⟨1,false,[],[.d (.raw zaf)],1⟩),(39,⟨10,true,[(0,1,false),(1,1,false),(2,6,true),(8,1,false),(9,1,false)],[.d (.raw zaf),.d (.raw zaf),.d (.raw (.int .i64 0)),.d (.raw zaf),.d (.raw (.bool false)),.d (nsl []),.d (.raw (.bool false)),.d (.raw zaf),.d (.raw zaf),.d (.raw zaf)],0⟩),(136,⟨1,false,[],[.d (.raw .nilFunc)],4⟩),(70,⟨1,false,[],[.d (.raw zaf)],1⟩),(40,⟨1,false,[],[.d (.raw zaf)],1⟩),(41,⟨1,false,[],[.d (.raw zaf)],1⟩),(43,⟨2,true,[(0,1,false),(1,1,false)],[.d (.raw zaf),.d (.raw zaf)],0⟩),(72,⟨10,true,[(0,1,false),(1,1,false),(2,1,false),(3,6,true),(9,1,false)],[.d (.raw (.int .i64 0)),.d (.raw (.int .i64 0)),.d (.raw (.int .i64 0)),.d (.raw (.int .i64 0)),.d (.raw zaf),.d (.raw (.bool false)),.d (nsl []),.d (.raw (.bool false)),.d (.raw zaf),.d (.raw zaf)],0⟩),(9,⟨1,false,[],[.d (.raw (.string ByteArray.empty))],2⟩),(57,⟨1,false,[],[.d (.raw zaf)],1⟩),(59,⟨3,true,[(0,1,false),(1,1,false),(2,1,false)],[.d (.raw (.string ByteArray.empty)),.d (.raw zaf),.d (.raw zaf)],0⟩)]
theorem zhd:TbOk Tryz.prog fam1tb:=⟨zc9.int Tryz.underlying3 rfl (by kernel_rfl) ⟨(.int .i64 0:Value),[.int .i64 0],by kernel_rfl,rfl,(fun _ _=>⟨DR.raw _ rfl,trivial⟩)⟩,
 zc9.bl Tryz.underlying4 (by kernel_rfl) ⟨(.bool false:Value),[.bool false],by kernel_rfl,rfl,(fun _ _=>⟨DR.raw _ rfl,trivial⟩)⟩,
 zc9.slc Tryz.underlying24 (by kernel_rfl) ⟨(.slice none 0 0:Value),[.slice none 0 0],by kernel_rfl,rfl,(fun _ _=>⟨DR.raw _ rfl,trivial⟩)⟩,
 zc9.slc Tryz.underlying26 (by kernel_rfl) ⟨(.slice none 0 0:Value),[.slice none 0 0],by kernel_rfl,rfl,(fun _ _=>⟨DR.nil _ _ _ (fun _=>rfl) (Nat.zero_le _),trivial⟩)⟩,
 zc9.st Tryz.underlying28 (by kernel_rfl) ⟨⟨by decide,Fd.mk' _ _ Tryz.underlying28 rfl rfl (Sz.mk' (by kernel_rfl) Tryz.underlying4 _ rfl)⟩,⟨by decide,Fd.mk' _ _ Tryz.underlying28 rfl rfl (Sz.mk' (by kernel_rfl) Tryz.underlying26 _ rfl)⟩,trivial⟩ ⟨(Value.agg #[.bool false,.slice none 0 0]),[.bool false,.slice none 0 0],by kernel_rfl,rfl,(fun _ _=>⟨DR.raw _ rfl,DR.nil _ _ _ (fun _=>rfl) (Nat.zero_le _),trivial⟩)⟩ ⟨_,Tryz.underlying28,⟨⟨rfl,by kernel_rfl⟩,⟨rfl,by kernel_rfl⟩,trivial⟩⟩,
 zc9.st Tryz.underlying30 (by kernel_rfl) ⟨⟨by decide,Fd.mk' _ _ Tryz.underlying30 rfl rfl (Sz.mk' (by kernel_rfl) Tryz.underlying24 _ rfl)⟩,⟨by decide,Fd.mk' _ _ Tryz.underlying30 rfl rfl (Sz.mk' (by kernel_rfl) Tryz.underlying28 _ rfl)⟩,trivial⟩ ⟨(Value.agg #[.slice none 0 0,.bool false,.slice none 0 0]),[.slice none 0 0,.bool false,.slice none 0 0],by kernel_rfl,rfl,(fun _ _=>⟨DR.raw _ rfl,DR.raw _ rfl,DR.nil _ _ _ (fun _=>rfl) (Nat.zero_le _),trivial⟩)⟩ ⟨_,Tryz.underlying30,⟨⟨rfl,by kernel_rfl⟩,⟨rfl,by kernel_rfl⟩,trivial⟩⟩,
 zc9.st Tryz.underlying74 (by kernel_rfl) ⟨⟨by decide,Fd.mk' _ _ Tryz.underlying74 rfl rfl (Sz.mk' (by kernel_rfl) Tryz.underlying3 _ rfl)⟩,⟨by decide,Fd.mk' _ _ Tryz.underlying74 rfl rfl (Sz.mk' (by kernel_rfl) Tryz.underlying4 _ rfl)⟩,⟨by decide,Fd.mk' _ _ Tryz.underlying74 rfl rfl (Sz.mk' (by kernel_rfl) Tryz.underlying30 _ rfl)⟩,trivial⟩ ⟨(Value.agg #[.int .i64 0,.bool false,.slice none 0 0,.bool false,.slice none 0 0]),[.int .i64 0,.bool false,.slice none 0 0,.bool false,.slice none 0 0],by kernel_rfl,rfl,(fun _ _=>⟨DR.raw _ rfl,DR.raw _ rfl,DR.raw _ rfl,DR.raw _ rfl,DR.nil _ _ _ (fun _=>rfl) (Nat.zero_le _),trivial⟩)⟩ ⟨_,Tryz.underlying74,⟨⟨rfl,by kernel_rfl⟩,⟨rfl,by kernel_rfl⟩,⟨rfl,by kernel_rfl⟩,trivial⟩⟩,
 zc9.slc Tryz.underlying22 (by kernel_rfl) ⟨(.slice none 0 0:Value),[.slice none 0 0],by kernel_rfl,rfl,(fun _ _=>⟨DR.raw _ rfl,trivial⟩)⟩,
 zc9.slc Tryz.underlying23 (by kernel_rfl) ⟨(.slice none 0 0:Value),[.slice none 0 0],by kernel_rfl,rfl,(fun _ _=>⟨DR.raw _ rfl,trivial⟩)⟩,
 zc9.st Tryz.underlying32 (by kernel_rfl) ⟨⟨by decide,Fd.mk' _ _ Tryz.underlying32 rfl rfl (Sz.mk' (by kernel_rfl) Tryz.underlying30 _ rfl)⟩,⟨by decide,Fd.mk' _ _ Tryz.underlying32 rfl rfl (Sz.mk' (by kernel_rfl) Tryz.underlying4 _ rfl)⟩,trivial⟩ ⟨(Value.agg #[.slice none 0 0,.bool false,.slice none 0 0,.bool false]),[.slice none 0 0,.bool false,.slice none 0 0,.bool false],by kernel_rfl,rfl,(fun _ _=>⟨DR.raw _ rfl,DR.raw _ rfl,DR.nil _ _ _ (fun _=>rfl) (Nat.zero_le _),DR.raw _ rfl,trivial⟩)⟩ ⟨_,Tryz.underlying32,⟨⟨rfl,by kernel_rfl⟩,⟨rfl,by kernel_rfl⟩,trivial⟩⟩,
 zc9.slc Tryz.underlying33 (by kernel_rfl) ⟨(.slice none 0 0:Value),[.slice none 0 0],by kernel_rfl,rfl,(fun _ _=>⟨DR.raw _ rfl,trivial⟩)⟩,
 zc9.st Tryz.underlying35 (by kernel_rfl) ⟨⟨by decide,Fd.mk' _ _ Tryz.underlying35 rfl rfl (Sz.mk' (by kernel_rfl) Tryz.underlying3 _ rfl)⟩,⟨by decide,Fd.mk' _ _ Tryz.underlying35 rfl rfl (Sz.mk' (by kernel_rfl) Tryz.underlying32 _ rfl)⟩,⟨by decide,Fd.mk' _ _ Tryz.underlying35 rfl rfl (Sz.mk' (by kernel_rfl) Tryz.underlying33 _ rfl)⟩,trivial⟩ ⟨(Value.agg #[.int .i64 0,.slice none 0 0,.bool false,.slice none 0 0,.bool false,.slice none 0 0]),[.int .i64 0,.slice none 0 0,.bool false,.slice none 0 0,.bool false,.slice none 0 0],by kernel_rfl,rfl,(fun _ _=>⟨DR.raw _ rfl,DR.raw _ rfl,DR.raw _ rfl,DR.nil _ _ _ (fun _=>rfl) (Nat.zero_le _),DR.raw _ rfl,DR.raw _ rfl,trivial⟩)⟩ ⟨_,Tryz.underlying35,⟨⟨rfl,by kernel_rfl⟩,⟨rfl,by kernel_rfl⟩,⟨rfl,by kernel_rfl⟩,trivial⟩⟩,
 zc9.slc Tryz.underlying36 (by kernel_rfl) ⟨(.slice none 0 0:Value),[.slice none 0 0],by kernel_rfl,rfl,(fun _ _=>⟨DR.raw _ rfl,trivial⟩)⟩,
 zc9.slc Tryz.underlying37 (by kernel_rfl) ⟨(.slice none 0 0:Value),[.slice none 0 0],by kernel_rfl,rfl,(fun _ _=>⟨DR.raw _ rfl,trivial⟩)⟩,
 zc9.st Tryz.underlying39 (by kernel_rfl) ⟨⟨by decide,Fd.mk' _ _ Tryz.underlying39 rfl rfl (Sz.mk' (by kernel_rfl) Tryz.underlying22 _ rfl)⟩,⟨by decide,Fd.mk' _ _ Tryz.underlying39 rfl rfl (Sz.mk' (by kernel_rfl) Tryz.underlying23 _ rfl)⟩,⟨by decide,Fd.mk' _ _ Tryz.underlying39 rfl rfl (Sz.mk' (by kernel_rfl) Tryz.underlying35 _ rfl)⟩,⟨by decide,Fd.mk' _ _ Tryz.underlying39 rfl rfl (Sz.mk' (by kernel_rfl) Tryz.underlying36 _ rfl)⟩,⟨by decide,Fd.mk' _ _ Tryz.underlying39 rfl rfl (Sz.mk' (by kernel_rfl) Tryz.underlying37 _ rfl)⟩,trivial⟩ ⟨(Value.agg #[.slice none 0 0,.slice none 0 0,.int .i64 0,.slice none 0 0,.bool false,.slice none 0 0,.bool false,.slice none 0 0,.slice none 0 0,.slice none 0 0]),[.slice none 0 0,.slice none 0 0,.int .i64 0,.slice none 0 0,.bool false,.slice none 0 0,.bool false,.slice none 0 0,.slice none 0 0,.slice none 0 0],by kernel_rfl,rfl,(fun _ _=>⟨DR.raw _ rfl,DR.raw _ rfl,DR.raw _ rfl,DR.raw _ rfl,DR.raw _ rfl,DR.nil _ _ _ (fun _=>rfl) (Nat.zero_le _),DR.raw _ rfl,DR.raw _ rfl,DR.raw _ rfl,DR.raw _ rfl,trivial⟩)⟩ ⟨_,Tryz.underlying39,⟨⟨rfl,by kernel_rfl⟩,⟨rfl,by kernel_rfl⟩,⟨rfl,by kernel_rfl⟩,⟨rfl,by kernel_rfl⟩,⟨rfl,by kernel_rfl⟩,trivial⟩⟩,
 zc9.fnc Tryz.underlying136 rfl (by kernel_rfl) ⟨(.nilFunc:Value),[.nilFunc],by kernel_rfl,rfl,(fun _ _=>⟨DR.raw _ rfl,trivial⟩)⟩,
 zc9.slc Tryz.underlying70 (by kernel_rfl) ⟨(.slice none 0 0:Value),[.slice none 0 0],by kernel_rfl,rfl,(fun _ _=>⟨DR.raw _ rfl,trivial⟩)⟩,
 zc9.slc Tryz.underlying40 (by kernel_rfl) ⟨(.slice none 0 0:Value),[.slice none 0 0],by kernel_rfl,rfl,(fun _ _=>⟨DR.raw _ rfl,trivial⟩)⟩,
 zc9.slc Tryz.underlying41 (by kernel_rfl) ⟨(.slice none 0 0:Value),[.slice none 0 0],by kernel_rfl,rfl,(fun _ _=>⟨DR.raw _ rfl,trivial⟩)⟩,
 zc9.st Tryz.underlying43 (by kernel_rfl) ⟨⟨by decide,Fd.mk' _ _ Tryz.underlying43 rfl rfl (Sz.mk' (by kernel_rfl) Tryz.underlying40 _ rfl)⟩,⟨by decide,Fd.mk' _ _ Tryz.underlying43 rfl rfl (Sz.mk' (by kernel_rfl) Tryz.underlying41 _ rfl)⟩,trivial⟩ ⟨(Value.agg #[.slice none 0 0,.slice none 0 0]),[.slice none 0 0,.slice none 0 0],by kernel_rfl,rfl,(fun _ _=>⟨DR.raw _ rfl,DR.raw _ rfl,trivial⟩)⟩ ⟨_,Tryz.underlying43,⟨⟨rfl,by kernel_rfl⟩,⟨rfl,by kernel_rfl⟩,trivial⟩⟩,
 zc9.st Tryz.underlying72 (by kernel_rfl) ⟨⟨by decide,Fd.mk' _ _ Tryz.underlying72 rfl rfl (Sz.mk' (by kernel_rfl) Tryz.underlying3 _ rfl)⟩,⟨by decide,Fd.mk' _ _ Tryz.underlying72 rfl rfl (Sz.mk' (by kernel_rfl) Tryz.underlying3 _ rfl)⟩,⟨by decide,Fd.mk' _ _ Tryz.underlying72 rfl rfl (Sz.mk' (by kernel_rfl) Tryz.underlying3 _ rfl)⟩,⟨by decide,Fd.mk' _ _ Tryz.underlying72 rfl rfl (Sz.mk' (by kernel_rfl) Tryz.underlying35 _ rfl)⟩,⟨by decide,Fd.mk' _ _ Tryz.underlying72 rfl rfl (Sz.mk' (by kernel_rfl) Tryz.underlying70 _ rfl)⟩,trivial⟩ ⟨(Value.agg #[.int .i64 0,.int .i64 0,.int .i64 0,.int .i64 0,.slice none 0 0,.bool false,.slice none 0 0,.bool false,.slice none 0 0,.slice none 0 0]),[.int .i64 0,.int .i64 0,.int .i64 0,.int .i64 0,.slice none 0 0,.bool false,.slice none 0 0,.bool false,.slice none 0 0,.slice none 0 0],by kernel_rfl,rfl,(fun _ _=>⟨DR.raw _ rfl,DR.raw _ rfl,DR.raw _ rfl,DR.raw _ rfl,DR.raw _ rfl,DR.raw _ rfl,DR.nil _ _ _ (fun _=>rfl) (Nat.zero_le _),DR.raw _ rfl,DR.raw _ rfl,DR.raw _ rfl,trivial⟩)⟩ ⟨_,Tryz.underlying72,⟨⟨rfl,by kernel_rfl⟩,⟨rfl,by kernel_rfl⟩,⟨rfl,by kernel_rfl⟩,⟨rfl,by kernel_rfl⟩,⟨rfl,by kernel_rfl⟩,trivial⟩⟩,
 zc9.str Tryz.underlying9 (by kernel_rfl) ⟨(.string ByteArray.empty:Value),[.string ByteArray.empty],by kernel_rfl,rfl,(fun _ _=>⟨DR.raw _ rfl,trivial⟩)⟩,
 zc9.slc Tryz.underlying57 (by kernel_rfl) ⟨(.slice none 0 0:Value),[.slice none 0 0],by kernel_rfl,rfl,(fun _ _=>⟨DR.raw _ rfl,trivial⟩)⟩,
 zc9.st Tryz.underlying59 (by kernel_rfl) ⟨⟨by decide,Fd.mk' _ _ Tryz.underlying59 rfl rfl (Sz.mk' (by kernel_rfl) Tryz.underlying9 _ rfl)⟩,⟨by decide,Fd.mk' _ _ Tryz.underlying59 rfl rfl (Sz.mk' (by kernel_rfl) Tryz.underlying22 _ rfl)⟩,⟨by decide,Fd.mk' _ _ Tryz.underlying59 rfl rfl (Sz.mk' (by kernel_rfl) Tryz.underlying57 _ rfl)⟩,trivial⟩ ⟨(Value.agg #[.string ByteArray.empty,.slice none 0 0,.slice none 0 0]),[.string ByteArray.empty,.slice none 0 0,.slice none 0 0],by kernel_rfl,rfl,(fun _ _=>⟨DR.raw _ rfl,DR.raw _ rfl,DR.raw _ rfl,trivial⟩)⟩ ⟨_,Tryz.underlying59,⟨⟨rfl,by kernel_rfl⟩,⟨rfl,by kernel_rfl⟩,⟨rfl,by kernel_rfl⟩,trivial⟩⟩,
 trivial⟩
theorem kj_7:za4 Tryz.prog 84:=za4.mk' (by kernel_rfl)
theorem SCloneI1 (xs:List Int) (hn:0<xs.length) (hl:xs.length<=1000000):Fn Tryz.prog 38 [] [(vIs xs)] (vO 0 xs.length) [(0,.row 3 1 (xs.map zai))]:=by
 refine Fn.body Tryz.func38 rfl 8 rfl fun w H B a h=>Jq (htb:=zhd) 1 [] [(0,(vIs xs)),(2,vW zaf)] [] h fun a w h=>qW (Jd (htb:=zhd) 1 [(1,.g (Op.eqNilD (d:=4) (t:=3) (es:=1) (xt:=40) (yt:=40) (rows:=xs.map zai) zfm.hu ((by rw [List.length_map];exact hn)) (OV.const zaf rfl)))] [] [(4,vb false)] [] h fun a w h=>zap false h rfl nofun (fun _=>qU (za1 (Jq (htb:=zhd) 1 [(0,.g (Op.buildE (d:=5) (n:=1) tb_0)),(2,.g (Op.appOD (d:=7) (t:=5) (u:=6) (n:=1) (n':=2) (len:=0) (len':=xs.length) (rows:=[].map zai) (rows2:=xs.map zai) (rows':=xs.map zai) tb_2 (by first | exact (List.length_map _).symm | simp) (by first | (rw [List.length_append,List.length_map];done) | simp) (by simp) (by simp [zai]) (by first | omega | (simp at *;done) | (simp at *;omega))))] [(2,vO 2 xs.length)] [(2,.row 3 1 (xs.map zai))] h fun a w h=>qV ?_))))
 replace h:=zec 2 0 [(2,vO 0 xs.length)] [(0,.row 3 1 (xs.map zai))] h;refine rT (.c (.own 0 xs.length)) h rfl ?_;rfl
theorem SCloneI2 :Fn Tryz.prog 38 [] [vW zaf] (vO 0 0) [(0,.row 3 1 ([].map zai))]:=by
 refine Fn.body Tryz.func38 rfl 8 rfl fun w H B a h=>Jq (htb:=zhd) 1 [] [(0,vW zaf),(2,vW zaf)] [] h fun a w h=>qW (Jd (htb:=zhd) 1 [(1,.g (Op.eqNilR (d:=4) (xt:=40) (yt:=40) (ao:=none) (n:=0) (c:=0) zfm.hu (OV.tmp 3 _) (OV.const zaf rfl)))] [] [(4,vb true)] [] h fun a w h=>cS true h (fun _=>?_) nofun)
 refine Jd (htb:=zhd) 1 [] [4] [] [] h fun a w h=>qV (za7 ?_);replace h:=zew 2 0 1 1 3 (vW zaf) [(0,vW zaf),(2,vO 1 0)] [(1,.row 3 1 ([].map zai))] h (by kernel_rfl) rfl rfl;replace h:=zec 1 0 [(0,vW zaf),(2,vO 0 0)] [(0,.row 3 1 ([].map zai))] h;refine rT (.c (.own 0 0)) h rfl ?_;rfl
theorem SCloneI3 (ao:Addr) (c:Nat) (hc:c<=maxLen):Fn Tryz.prog 38 [] [vW (.slice (some ao) 0 c)] (vO 0 0) [(0,.row 3 1 ([].map zai))]:=by
 refine Fn.body Tryz.func38 rfl 8 rfl fun w H B a h=>Jq (htb:=zhd) 1 [] [(0,vW (.slice (some ao) 0 c)),(2,vW zaf)] [] h fun a w h=>qW (Jd (htb:=zhd) 1 [(1,.g (Op.eqNilR (d:=4) (xt:=40) (yt:=40) (ao:=some ao) (n:=0) (c:=c) zfm.hu (OV.tmp 3 _) (OV.const zaf rfl)))] [] [(4,vb false)] [] h fun a w h=>zap false h rfl nofun (fun _=>qU (za1 ?_)))
 replace h:=nilDSr 0 0 1 (vW (.slice (some ao) 0 c)) (some ao) c (fun e=>by cases e) hc [(0,(vIs [])),(2,vW zaf),(4,vb false)] [] h rfl rfl;refine Jq (htb:=zhd) 1 [(0,.g (Op.buildE (d:=5) (n:=1) tb_0)),(2,.g (Op.appOD (d:=7) (t:=5) (u:=6) (n:=1) (n':=2) (len:=0) (len':=0) (rows:=[].map zai) (rows2:=[].map zai) (rows':=[].map zai) tb_2 (by first | exact (List.length_map _).symm | simp) (by first | (rw [List.length_append,List.length_map];done) | simp) (by simp) (by simp [zai]) (by first | omega | (simp at *;done) | (simp at *;omega))))] [(2,vO 2 0)] [(2,.row 3 1 ([].map zai))] h fun a w h=>qV ?_;replace h:=zec 2 0 [(2,vO 0 0)] [(0,.row 3 1 ([].map zai))] h;refine rT (.c (.own 0 0)) h rfl ?_;rfl
theorem SCloneI (xs:List Int) (hl:xs.length<=1000000):Fn Tryz.prog 38 [] [(vIs xs)] (vO 0 xs.length) [(0,.row 3 1 (xs.map zai))]:=by
 cases xs with
 | nil =>
  refine Fn.rawE fun ao c h1 h2=>?_
  cases ao with
  | none=>obtain rfl:=h1 rfl;exact SCloneI2
  | some ao=>exact SCloneI3 ao c h2
 | cons x xs=>exact SCloneI1 (x :: xs) (by simp) hl
theorem le5_0:za4 Tryz.prog 38:=za4.mk' (by kernel_rfl)
theorem le5_8:za4 Tryz.prog 68:=za4.mk' (by kernel_rfl)
theorem zii:za4 Tryz.prog 46:=za4.mk' (by kernel_rfl)
def za0.okA (n L:Nat) (f:za0):Prop:=f.fold fun k r _ ps=>(k=2->TOk n L r.t)/\∀ p ∈ ps,p
theorem za0.okA_eq (n L:Nat) (f:za0):f.okA n L ↔ (f.kind=2->TOk n L f.r.t)/\∀ g ∈ f.kids,g.okA n L:=by
 have:=za0.fold_eq (fun k r _ (ps:List Prop)=>(k=2->TOk n L r.t)/\∀ p ∈ ps,p) f
 unfold za0.okA
 rw [this]
 refine and_congr_right fun _=>⟨fun h g hg=>h _ (List.mem_map.2 ⟨g,hg,rfl⟩),fun h p hp=>?_⟩
 obtain ⟨g,hg,rfl⟩:=List.mem_map.1 hp
 exact h g hg
theorem za0.okA_mono {n L n' L':Nat} (hn:n<=n') (hL:L<=L') (f:za0):f.okA n L->f.okA n' L' :=
 za0.ind (P:=fun f=>f.okA n L->f.okA n' L') (fun k r ks ih hf=>by
  rw [za0.okA_eq] at hf ⊢
  exact ⟨fun e=>(hf.1 e).mono hn hL,fun g hg=>ih g hg (hf.2 g hg)⟩) f
theorem okA_tru (n L:Nat) (b:Bool):(zcq b).okA n L:=by
 rw [za0.okA_eq];cases b <;> exact ⟨fun e=>absurd e (by decide),fun g hg=>by cases hg⟩
theorem okA_atom {n L:Nat} {r:zb0} (h:TOk n L r.t):(za0.mk 2 r []).okA n L:=by
 rw [za0.okA_eq];exact ⟨fun _=>h,fun g hg=>by cases hg⟩
theorem zez {n L:Nat} {k:Int} (hk:k=4\/k=5):∀ (fs out:List za0),(∀ g ∈ out,g.okA n L)->(∀ g ∈ fs,g.okA n L)->(zcm k fs out).okA n L
 | [],out,h,_=>by
  unfold zcm
  match out with
  | []=>exact okA_tru _ _ _
  | [g]=>exact h g (List.mem_cons_self ..)
  | g :: q :: l=>rw [za0.okA_eq];exact ⟨fun e=>absurd e (by show k≠2;omega),h⟩
 | f :: fs,out,h,h2=>by
  rw [zcm]
  have hf:=h2 f (List.mem_cons_self ..)
  have hfs:∀ g ∈ fs,g.okA n L:=fun g hg=>h2 g (List.mem_cons_of_mem _ hg)
  split
  ·exact hf
  ·split
   ·exact zez hk fs out h hfs
   ·split
    ·exact zez hk fs _ (fun g hg=>(List.mem_append.1 hg).elim (h g) fun hg=>((za0.okA_eq _ _ _).1 hf).2 g hg) hfs
    ·exact zez hk fs _ (fun g hg=>(List.mem_append.1 hg).elim (h g) fun hg=>by rw [List.mem_singleton.1 hg];exact hf) hfs
theorem tight_okA {n L:Nat} {r:zb0} (h:TOk n L r.t) (hn:n<=1000):(zb1 r).okA n (L+4):=by
 unfold zb1
 split
 ·exact okA_atom (tight_tok h hn)
 ·exact okA_tru _ _ _
theorem take_sum (ks:List za0) (j:Nat) {x:za0} (h:ks[j]?=some x):((ks.take j).map za0.nodes).sum+x.nodes<=(ks.map za0.nodes).sum:=by
 have e:ks=ks.take j++ks.drop j:=(List.take_append_drop j ks).symm
 have h1:=zdy h
 have h2:(ks.map za0.nodes).sum=((ks.take j).map za0.nodes).sum+((ks.drop j).map za0.nodes).sum:=by rw [<- zfu,List.take_append_drop]
 omega
theorem li9_6:za4 Tryz.prog 59:=za4.mk' (by kernel_rfl)
theorem kk_4:ElT Tryz.prog 41 28 2 32:=ElT.mk' Tryz.underlying41 _ _ rfl rfl (by kernel_rfl) (by kernel_rfl) (by kernel_rfl) (by decide) (by decide)
theorem kn_0:SlT Tryz.prog 83 43 2:=SlT.mk' Tryz.underlying83 (by kernel_rfl)
theorem there_no {s:zar} {m:zad} (h1:decide (m.v<0)=false) (h2:decide (m.v>=(s.vars.length:Int))=false):(!zdq s m)=false:=by
 have:=of_decide_eq_false h1;have:=of_decide_eq_false h2
 unfold zdq;rw [decide_eq_true (by omega),decide_eq_true (by omega)];rfl
theorem there_lo {s:zar} {m:zad} (h1:decide (m.v<0)=true):(!zdq s m)=true:=by
 have:=of_decide_eq_true h1;unfold zdq;rw [decide_eq_false (by omega)];rfl
theorem there_hi {s:zar} {m:zad} (h2:decide (m.v>=(s.vars.length:Int))=true):(!zdq s m)=true:=by
 have:=of_decide_eq_true h2;unfold zdq;rw [decide_eq_false (p:=m.v<(s.vars.length:Int)) (by omega),Bool.and_false];rfl
end S
end Go.Proofs.YtckmanpooapkpaaGreat
