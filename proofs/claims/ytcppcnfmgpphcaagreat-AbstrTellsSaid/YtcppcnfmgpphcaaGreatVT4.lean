/-
  Part 4 of the proof of the statement AbstrTells: the walk through the program and the references lifted to the given row. It holds for every input.
-/
import Derived.Test.YtcppcnfmgpphcaaGreatVT1
import Derived.Test.YtcppcnfmgpphcaaGreatVT2
import Derived.Test.YtcppcnfmgpphcaaGreatVT3
import Derived.Laws.Strings
import Derived.Laws.MakeOwn
set_option maxRecDepth 100000
set_option maxHeartbeats 4000000
namespace Go.Proofs.YtcppcnfmgpphcaaGreat.S
section
open Go.RowKit

theorem ZI.val_abs (x:ZI):Go.Proofs.YtcppcnfmgpphcaaGreat.val x.abs=x.val.natAbs:=(zgu x.neg x.abs).symm
theorem zg2 (a:Int) {b:Int} (h:b<0):b<a.fmod b∧a.fmod b≤0:=by
 have h1:=Int.fmod_lt_of_pos (-a) (b:=-b) (by omega)
 have h2:=Int.fmod_nonneg_of_pos (-a) (b:=-b) (by omega)
 rw [Int.neg_fmod_neg] at h1 h2
 omega
theorem zen {a b q r:Int} (h:a=q*b+r) (hp:0<b→0≤r∧r<b) (hn:b<0→b<r∧r≤0) (hb:b≠0):q=a.fdiv b∧r=a.fmod b:=by
 have h1:=Int.mul_fdiv_add_fmod a b
 rcases Int.lt_or_lt_of_ne hb with hlt | hgt
 ·obtain ⟨h2,h3⟩:=hn hlt
  obtain ⟨h4,h5⟩:=zg2 a hlt
  have hq:q=a.fdiv b:=by
   have e:b*(a.fdiv b - q)=r - a.fmod b:=by
    have:b*(a.fdiv b - q)=b*a.fdiv b - q*b:=by rw [Int.mul_sub,Int.mul_comm b q]
    omega
   rcases Int.lt_trichotomy (a.fdiv b - q) 0 with g | g | g
   ·have:b*(a.fdiv b - q)≥-b:=by
     have h6:(-b)*1≤(-b)*(-(a.fdiv b - q)):=Int.mul_le_mul_of_nonneg_left (by omega) (by omega)
     rw [Int.neg_mul_neg] at h6;omega
    omega
   ·omega
   ·have:b*(a.fdiv b - q)≤b:=by
     have h6:(-b)*1≤(-b)*(a.fdiv b - q):=Int.mul_le_mul_of_nonneg_left (by omega) (by omega)
     rw [Int.neg_mul b (a.fdiv b - q)] at h6;omega
    omega
  refine ⟨hq,?_⟩
  rw [hq,Int.mul_comm] at h
  omega
 ·obtain ⟨h2,h3⟩:=hp hgt
  have h4:a.fmod b<b:=Int.fmod_lt_of_pos a hgt
  have h5:0≤a.fmod b:=Int.fmod_nonneg_of_pos a hgt
  have hq:q=a.fdiv b:=by
   have e:b*(a.fdiv b - q)=r - a.fmod b:=by
    have:b*(a.fdiv b - q)=b*a.fdiv b - q*b:=by rw [Int.mul_sub,Int.mul_comm b q]
    omega
   rcases Int.lt_trichotomy (a.fdiv b - q) 0 with g | g | g
   ·have h6:b*1≤b*(-(a.fdiv b - q)):=Int.mul_le_mul_of_nonneg_left (by omega) (by omega)
    rw [Int.mul_neg] at h6;omega
   ·omega
   ·have h6:b*1≤b*(a.fdiv b - q):=Int.mul_le_mul_of_nonneg_left (by omega) (by omega)
    omega
  refine ⟨hq,?_⟩
  rw [hq,Int.mul_comm] at h
  omega
theorem fmod_range (a:Int) {b:Int} (_hb:b≠0):(0<b→0≤a.fmod b∧a.fmod b<b)∧(b<0→b<a.fmod b∧a.fmod b≤0) :=
 ⟨fun h=>⟨Int.fmod_nonneg_of_pos a h,Int.fmod_lt_of_pos a h⟩,fun h=>zg2 a h⟩
theorem fdiv_fmod (a b:Int):a=a.fdiv b*b+a.fmod b:=by have:=Int.mul_fdiv_add_fmod a b;rw [Int.mul_comm] at this;exact this.symm
theorem fdiv_same {X Y:Int} (hY:Y≠0) {s t:Bool} (hs:s=decide (X<0)) (ht:t=decide (Y<0)) {zq zr:List Nat} (hq:Go.Proofs.YtcppcnfmgpphcaaGreat.val zq=X.natAbs / Y.natAbs) (hr:Go.Proofs.YtcppcnfmgpphcaaGreat.val zr=X.natAbs % Y.natAbs) (h:(s != t)=true→Go.Proofs.YtcppcnfmgpphcaaGreat.val zr=0) :
  iv (s != t) zq=X.fdiv Y∧iv s zr=X.fmod Y:=by
 have hm:=Nat.mod_lt X.natAbs (Nat.pos_of_ne_zero (by omega:Y.natAbs≠0))
 have hd:=Nat.div_add_mod X.natAbs Y.natAbs
 generalize X.natAbs / Y.natAbs=q at *
 generalize X.natAbs % Y.natAbs=r at *
 subst hs ht
 refine zen ?_ ?_ ?_ hY
 ·unfold iv
  rw [hq,hr]
  have hd2:((Y.natAbs:Int)*(q:Int)+(r:Int))=(X.natAbs:Int):=by rw [← hd];simp
  by_cases h1:X<0 <;> by_cases h2:Y<0
  ·have e1:(X.natAbs:Int)=-X:=by omega
   have e2:(Y.natAbs:Int)=-Y:=by omega
   rw [e1,e2,Int.neg_mul] at hd2
   simp [h1,h2]
   rw [Int.mul_comm];omega
  ·have e1:(X.natAbs:Int)=-X:=by omega
   have e2:(Y.natAbs:Int)=Y:=by omega
   rw [e1,e2] at hd2
   simp [h1,h2]
   rw [Int.neg_mul,Int.mul_comm];omega
  ·have e1:(X.natAbs:Int)=X:=by omega
   have e2:(Y.natAbs:Int)=-Y:=by omega
   rw [e1,e2,Int.neg_mul] at hd2
   simp [h1,h2]
   rw [Int.neg_mul,Int.mul_comm];omega
  ·have e1:(X.natAbs:Int)=X:=by omega
   have e2:(Y.natAbs:Int)=Y:=by omega
   rw [e1,e2] at hd2
   simp [h1,h2]
   rw [Int.mul_comm];omega
 ·intro hp
  unfold iv
  have h2:¬ Y<0:=by omega
  by_cases h1:X<0
  ·have:=h (by simp [h1,h2])
   simp [h1,this];omega
  ·simp [h1,hr];omega
 ·intro hp
  unfold iv
  by_cases h1:X<0
  ·simp [h1,hr];omega
  ·have:=h (by simp [h1,hp])
   simp [h1,this];omega
theorem fdiv_other {X Y:Int} (hY:Y≠0) {s t:Bool} (hs:s=decide (X<0)) (ht:t=decide (Y<0)) {zq zr:List Nat} (hq:Go.Proofs.YtcppcnfmgpphcaaGreat.val zq=X.natAbs / Y.natAbs) (hr:Go.Proofs.YtcppcnfmgpphcaaGreat.val zr=X.natAbs % Y.natAbs) (h:(s != t)=true) (h0:Go.Proofs.YtcppcnfmgpphcaaGreat.val zr≠0) :
  iv (s != t) zq - 1=X.fdiv Y∧iv s zr+Y=X.fmod Y:=by
 have hm:=Nat.mod_lt X.natAbs (Nat.pos_of_ne_zero (by omega:Y.natAbs≠0))
 have hd:=Nat.div_add_mod X.natAbs Y.natAbs
 generalize X.natAbs / Y.natAbs=q at *
 generalize X.natAbs % Y.natAbs=r at *
 subst hs ht
 rw [hr] at h0
 have hd2:((Y.natAbs:Int)*(q:Int)+(r:Int))=(X.natAbs:Int):=by rw [← hd];simp
 rw [h]
 refine zen ?_ ?_ ?_ hY
 ·unfold iv
  rw [hq,hr]
  by_cases h1:X<0 <;> by_cases h2:Y<0
  ·simp [h1,h2] at h
  ·have e1:(X.natAbs:Int)=-X:=by omega
   have e2:(Y.natAbs:Int)=Y:=by omega
   rw [e1,e2] at hd2
   simp [h1]
   rw [Int.sub_mul,Int.neg_mul,Int.mul_comm];omega
  ·have e1:(X.natAbs:Int)=X:=by omega
   have e2:(Y.natAbs:Int)=-Y:=by omega
   rw [e1,e2,Int.neg_mul] at hd2
   simp [h1]
   rw [Int.sub_mul,Int.neg_mul,Int.mul_comm];omega
  ·simp [h1,h2] at h
 ·intro hp
  unfold iv
  have h2:¬ Y<0:=by omega
  by_cases h1:X<0
  ·simp [h1,hr];omega
  ·simp [h1,h2] at h
 ·intro hp
  unfold iv
  by_cases h1:X<0
  ·simp [h1,hp] at h
  ·simp [h1,hr];omega
theorem val_zero {zs:List Nat} (h:zcc zs):Go.Proofs.YtcppcnfmgpphcaaGreat.val zs=0 ↔ zs.length=0 :=
 ⟨fun e=>by rw [zfq h e];rfl,fun e=>by rw [List.length_eq_zero_iff.1 e];rfl⟩
theorem ze3 (X:Int) {Y:Int} (hY:Y≠0):(X.fdiv Y).natAbs≤X.natAbs:=by
 have h:=fdiv_fmod X Y
 obtain ⟨h1,h2⟩:=fmod_range X hY
 rcases Int.lt_or_lt_of_ne hY with g | g
 ·obtain ⟨h3,h4⟩:=h2 g
  by_cases hq:0≤X.fdiv Y
  ·have:X.fdiv Y*Y≤X.fdiv Y*(-1):=Int.mul_le_mul_of_nonneg_left (by omega) hq
   omega
  ·have:(-X.fdiv Y - 1)*1≤(-X.fdiv Y - 1)*(-Y):=Int.mul_le_mul_of_nonneg_left (by omega) (by omega)
   have e:(-X.fdiv Y - 1)*(-Y)=X.fdiv Y*Y+Y:=by rw [Int.sub_mul,Int.neg_mul_neg];omega
   omega
 ·obtain ⟨h3,h4⟩:=h1 g
  by_cases hq:0≤X.fdiv Y
  ·have:X.fdiv Y*1≤X.fdiv Y*Y:=Int.mul_le_mul_of_nonneg_left (by omega) hq
   omega
  ·have:(-X.fdiv Y - 1)*1≤(-X.fdiv Y - 1)*Y:=Int.mul_le_mul_of_nonneg_left (by omega) (by omega)
   have e:(-X.fdiv Y - 1)*Y=-(X.fdiv Y*Y) - Y:=by rw [Int.sub_mul,Int.neg_mul];omega
   omega
theorem zg3 (X:Int) {Y:Int} (hY:Y≠0):(X.fmod Y).natAbs<Y.natAbs:=by
 obtain ⟨h1,h2⟩:=fmod_range X hY
 rcases Int.lt_or_lt_of_ne hY with g | g
 ·have:=h2 g;omega
 ·have:=h1 g;omega
theorem zek {x y:ZI} (hx:Lb x.abs) (h:y.val≠0):(ZI.of (x.val.fdiv y.val)).abs.length≤x.abs.length:=ZI.len_of (Nat.lt_of_le_of_lt (ze3 _ h) (ZI.abs_lt hx))
theorem zfp {x y:ZI} (hy:Lb y.abs) (h:y.val≠0):(ZI.of (x.val.fmod y.val)).abs.length≤y.abs.length:=ZI.len_of (Nat.lt_trans (zg3 _ h) (ZI.abs_lt hy))
end
section
open Go.RowKit

theorem sgn_prod_range (X Y:Int):-1≤sgn X*sgn Y∧sgn X*sgn Y≤1:=by
 unfold sgn
 split <;> split <;> first | decide | (split <;> first | decide | (split <;> decide))
theorem zgb (X Y:Int):sgn X*sgn Y<0 ↔ (X<0∧0<Y)∨(0<X∧Y<0):=by
 unfold sgn
 by_cases h1:X<0 <;> by_cases h2:Y<0 <;> by_cases h3:0<X <;> by_cases h4:0<Y <;> simp [h1,h2,h3,h4] <;> omega
theorem tdiv_leaf {X Y:Int} (hY:Y≠0) {b:Bool} (hb:b=decide (sgn X*sgn Y<0)) {zq:List Nat} (hq:Go.Proofs.YtcppcnfmgpphcaaGreat.val zq=X.natAbs / Y.natAbs) :
  (X - iv b zq*Y).natAbs<Y.natAbs∧(0≤X→0≤X - iv b zq*Y)∧(X≤0→X - iv b zq*Y≤0):=by
 have hm:=Nat.mod_lt X.natAbs (Nat.pos_of_ne_zero (by omega:Y.natAbs≠0))
 have hd:=Nat.div_add_mod X.natAbs Y.natAbs
 have h0:X=0→X.natAbs / Y.natAbs=0:=fun h=>by rw [h];simp
 generalize X.natAbs / Y.natAbs=q at *
 generalize X.natAbs % Y.natAbs=r at *
 have hd2:((Y.natAbs:Int)*(q:Int)+(r:Int))=(X.natAbs:Int):=by rw [← hd];simp
 have hs:=zgb X Y
 subst hb
 unfold iv
 rw [hq]
 by_cases h1:X<0 <;> by_cases h2:Y<0
 ·have e1:(X.natAbs:Int)=-X:=by omega
  have e2:(Y.natAbs:Int)=-Y:=by omega
  have hc:¬ sgn X*sgn Y<0:=by rw [hs];omega
  rw [e1,e2,Int.neg_mul,Int.mul_comm] at hd2
  simp [hc];omega
 ·have e1:(X.natAbs:Int)=-X:=by omega
  have e2:(Y.natAbs:Int)=Y:=by omega
  have hc:sgn X*sgn Y<0:=by rw [hs];omega
  rw [e1,e2,Int.mul_comm] at hd2
  simp [hc,Int.neg_mul];omega
 ·have e1:(X.natAbs:Int)=X:=by omega
  have e2:(Y.natAbs:Int)=-Y:=by omega
  rw [e1,e2,Int.neg_mul,Int.mul_comm] at hd2
  by_cases h3:X=0
  ·have:=h0 h3
   subst this
   simp at hd2 ⊢;omega
  ·have hc:sgn X*sgn Y<0:=by rw [hs];omega
   simp [hc,Int.neg_mul];omega
 ·have e1:(X.natAbs:Int)=X:=by omega
  have e2:(Y.natAbs:Int)=Y:=by omega
  have hc:¬ sgn X*sgn Y<0:=by rw [hs];omega
  rw [e1,e2,Int.mul_comm] at hd2
  simp [hc];omega
theorem rdiv_stay {X Y q:Int} (hY:Y≠0) (h:(X - q*Y).natAbs<Y.natAbs) (hs:¬ sgn (X - q*Y)*sgn Y<0):q=X.fdiv Y∧X - q*Y=X.fmod Y:=by
 rw [zgb] at hs
 exact zen (by omega) (fun _=>by omega) (fun _=>by omega) hY
theorem rdiv_turn {X Y q:Int} (hY:Y≠0) (h:(X - q*Y).natAbs<Y.natAbs) (hs:sgn (X - q*Y)*sgn Y<0):q - 1=X.fdiv Y∧X - q*Y+Y=X.fmod Y:=by
 rw [zgb] at hs
 have e:(q - 1)*Y=q*Y - Y:=by rw [Int.sub_mul];omega
 exact zen (by omega) (fun _=>by omega) (fun _=>by omega) hY
def bez (r0 x0 y0 r1 x1 y1:Int):Int × Int × Int :=
  if _h:r1≤0 then (r0,x0,y0) else bez r1 x1 y1 (r0.fmod r1) (x0 - r0.fdiv r1*x1) (y0 - r0.fdiv r1*y1)
  termination_by r1.natAbs
  decreasing_by exact zg3 _ (by omega)
end
section
open Go.RowKit

theorem zs_0:za6 Tryz.prog 171:=za6.mk' (by kernel_rfl)
theorem zs_3:za6 Tryz.prog 132:=za6.mk' (by kernel_rfl)
theorem zs_6:za6 Tryz.prog 130:=za6.mk' (by kernel_rfl)
theorem zs_7:za6 Tryz.prog 112:=za6.mk' (by kernel_rfl)
theorem zs_9:za6 Tryz.prog 172:=za6.mk' (by kernel_rfl)
theorem zs_11:za6 Tryz.prog 148:=za6.mk' (by kernel_rfl)
theorem zs_14:za6 Tryz.prog 161:=za6.mk' (by kernel_rfl)
theorem zs_16:za6 Tryz.prog 162:=za6.mk' (by kernel_rfl)
theorem zs_17:za6 Tryz.prog 124:=za6.mk' (by kernel_rfl)
theorem zs_18:za6 Tryz.prog 81:=za6.mk' (by kernel_rfl)
theorem zs_20:za6 Tryz.prog 141:=za6.mk' (by kernel_rfl)
theorem SSub (x y:ZI) (hx:Lb x.abs) (hy:Lb y.abs) (lx:x.abs.length≤49000) (ly:y.abs.length≤49000):Fn Tryz.prog 162 [] [vz x,vz y] (vz (ZI.of (x.val - y.val))) []:=by
 refine Fn.body Tryz.func162 rfl 9 rfl fun w H B a h=>?_
 refine rq za0 0 [] [(2,vp 0 0),(3,vp 1 0),(4,vp 2 0)] [(0,.box (zi x)),(1,.box (zi y)),(2,.box [cB false,.d (nsl [])])] h fun a w h=>?_
 obtain ⟨r1,er1,vr1,or1,lr1⟩:=mkZ (v:=-y.val) (m:=y.abs.length) (len_neg hy)
 obtain ⟨r2,er2,vr2,or2,lr2⟩:=mkZ (v:=x.val+r1.val) (m:=x.abs.length+r1.abs.length+1) (zcr hx or1)
 refine rq za0 3 [(2,.call (Fn.cast (SNeg y hy (by omega)) (congrArg vz er1.symm)) zs_0),(3,.call (Fn.cast (SAdd x r1 hx or1 (by omega) (by omega)) (congrArg vz er2.symm)) tl_9)] [(4,vp 2 0)] [(2,.box (zi r2))] h fun a w h=>?_
 refine wp_ret ?_
 refine rA 2 (zi r2) h zd3 rfl rfl rfl rfl rfl ?_
 refine congrArg (fun z=>vz z) (er2.trans (congrArg ZI.of ?_))
 rw [vr1];omega
theorem SRSub (x y:ZI) (hx:Lb x.abs) (hy:Lb y.abs) (lx:x.abs.length≤49000) (ly:y.abs.length≤49000):Fn Tryz.prog 112 [] [vz x,vz y] (vz (ZI.of (x.val - y.val))) []:=by
 refine Fn.body Tryz.func112 rfl 9 rfl fun w H B a h=>?_
 refine rq za0 0 [] [(2,vp 0 0),(3,vp 1 0),(4,vp 2 0)] [(0,.box (zi x)),(1,.box (zi y)),(2,.box [cB false,.d (nsl [])])] h fun a w h=>?_
 obtain ⟨r1,er1,vr1,or1,lr1⟩:=mkZ (v:=-y.val) (m:=y.abs.length) (len_neg hy)
 obtain ⟨r2,er2,vr2,or2,lr2⟩:=mkZ (v:=x.val+r1.val) (m:=x.abs.length+r1.abs.length+1) (zcr hx or1)
 refine rq za0 3 [(2,.call (Fn.cast (SRNeg y hy (by omega)) (congrArg vz er1.symm)) zs_3),(3,.call (Fn.cast (SRAdd x r1 hx or1 (by omega) (by omega)) (congrArg vz er2.symm)) ib_5)] [(4,vp 2 0)] [(2,.box (zi r2))] h fun a w h=>?_
 refine wp_ret ?_
 refine rA 2 (zi r2) h zd3 rfl rfl rfl rfl rfl ?_
 refine congrArg (fun z=>vz z) (er2.trans (congrArg ZI.of ?_))
 rw [vr1];omega
theorem zix (x y:ZI):(sgn x.val<sgn y.val→(-1:Int)=zbc x.val y.val)∧(¬ sgn x.val<sgn y.val→sgn x.val>sgn y.val→(1:Int)=zbc x.val y.val)∧(¬ sgn x.val<sgn y.val→¬ sgn x.val>sgn y.val→sgn x.val<0→ziy (Go.Proofs.YtcppcnfmgpphcaaGreat.val y.abs) (Go.Proofs.YtcppcnfmgpphcaaGreat.val x.abs)=zbc x.val y.val)∧(¬ sgn x.val<sgn y.val→¬ sgn x.val>sgn y.val→¬ sgn x.val<0→ziy (Go.Proofs.YtcppcnfmgpphcaaGreat.val x.abs) (Go.Proofs.YtcppcnfmgpphcaaGreat.val y.abs)=zbc x.val y.val):=by
 have e1:∀ z:Int,(0<z→sgn z=1)∧(z<0→sgn z=-1)∧(z=0→sgn z=0):=fun z=>⟨sgn_pos,zhd,zdh⟩
 rcases zgm x with ⟨h1,h2⟩ | ⟨h1,h2,h3⟩ | ⟨h1,h2⟩ <;> rcases zgm y with ⟨k1,k2⟩ | ⟨k1,k2,k3⟩ | ⟨k1,k2⟩ <;>
  have a1:=e1 x.val <;> have a2:=e1 y.val <;> rw [h1,k1] <;> rw [h1] at a1 <;> rw [k1] at a2 <;> unfold zbc ziy <;> refine ⟨fun _=>?_,fun _ _=>?_,fun _ _ _=>?_,fun _ _ _=>?_⟩ <;> first | omega | (split <;> first | omega | (split <;> first | omega | (split <;> first | omega | (split <;> omega))))
theorem SCmp (x y:ZI) (hx:Lb x.abs) (hy:Lb y.abs) (lx:x.abs.length≤49000) (ly:y.abs.length≤49000):Fn Tryz.prog 158 [] [vz x,vz y] (vI (zbc x.val y.val)) []:=by
 refine Fn.body Tryz.func158 rfl 32 rfl fun w H B a h=>?_
 refine rq za0 0 [] [(2,vp 0 0),(3,vp 1 0),(4,vI 0)] [(0,.box (zi x)),(1,.box (zi y))] h fun a w h=>?_
 refine rqk za0 2 [(1,.call (zht x hx (by omega)) td_6),(3,.call (zht y hy (by omega)) td_6)] [(2,vp 0 0),(3,vp 1 0),(4,vI 0),(5,vI (sgn x.val)),(6,vI (sgn y.val))] h fun a w h=>?_
 refine wp_seq (wp_block (rqk za0 2 [] [(2,vp 0 0),(3,vp 1 0),(4,vI 0),(5,vI (sgn x.val)),(6,vI (sgn y.val)),(11,vb (decide (sgn x.val<sgn y.val)))] h fun a w h=>?_))
 refine zam (sgn x.val<sgn y.val) h rfl (fun hc1 hc1'=>?_) (fun hc2 hc2'=>?_)
 ·refine rqk za0 2 [] [(2,vp 0 0),(3,vp 1 0),(4,vI (-1))] h fun a w h=>?_
  refine wp_ret (zad (za8 ?_))
  refine rT (.c (cI (-1))) h rfl rfl ?_
  exact congrArg (vi .i64) ((zix x y).1 hc1')
 refine rqk za0 2 [] [(2,vp 0 0),(3,vp 1 0),(4,vI 0),(5,vI (sgn x.val)),(15,vb (decide (sgn x.val>sgn y.val)))] h fun a w h=>?_
 refine zam (sgn x.val>sgn y.val) h rfl (fun hc3 hc3'=>?_) (fun hc4 hc4'=>?_)
 ·refine rqk za0 2 [] [(2,vp 0 0),(3,vp 1 0),(4,vI 1)] h fun a w h=>?_
  refine wp_ret (zad (za8 ?_))
  refine rT (.c (cI 1)) h rfl rfl ?_
  exact congrArg (vi .i64) ((zix x y).2.1 hc2' hc3')
 refine rqk za0 2 [] [(2,vp 0 0),(3,vp 1 0),(4,vI 0),(19,vb (decide (sgn x.val<0)))] h fun a w h=>?_
 refine zam (sgn x.val<0) h rfl (fun hc5 hc5'=>?_) (fun hc6 hc6'=>?_)
 ·refine rqk za0 2 [(4,.call (SnCmp y.abs x.abs hy hx) zs_6)] [(2,vp 0 0),(3,vp 1 0),(4,vI (ziy (Go.Proofs.YtcppcnfmgpphcaaGreat.val y.abs) (Go.Proofs.YtcppcnfmgpphcaaGreat.val x.abs)))] h fun a w h=>?_
  refine wp_ret (zad (za8 ?_))
  refine rT (.c (cI (ziy (Go.Proofs.YtcppcnfmgpphcaaGreat.val y.abs) (Go.Proofs.YtcppcnfmgpphcaaGreat.val x.abs)))) h rfl rfl ?_
  exact congrArg (vi .i64) ((zix x y).2.2.1 hc2' hc4' hc5')
 refine wp_skip (zaa (za2 (rq za0 2 [(4,.call (SnCmp x.abs y.abs hx hy) zs_6)] [(4,vI (ziy (Go.Proofs.YtcppcnfmgpphcaaGreat.val x.abs) (Go.Proofs.YtcppcnfmgpphcaaGreat.val y.abs)))] [] h fun a w h=>?_)))
 refine wp_ret ?_
 refine rT (.c (cI (ziy (Go.Proofs.YtcppcnfmgpphcaaGreat.val x.abs) (Go.Proofs.YtcppcnfmgpphcaaGreat.val y.abs)))) h rfl rfl ?_
 exact congrArg (vi .i64) ((zix x y).2.2.2 hc2' hc4' hc6')
theorem SRCmp (x y:ZI) (hx:Lb x.abs) (hy:Lb y.abs) (lx:x.abs.length≤49000) (ly:y.abs.length≤49000):Fn Tryz.prog 77 [] [vz x,vz y] (vI (zbc x.val y.val)) []:=by
 refine Fn.body Tryz.func77 rfl 9 rfl fun w H B a h=>?_
 refine rq za0 0 [] [(2,vp 0 0),(3,vp 1 0),(4,vI 0)] [(0,.box (zi x)),(1,.box (zi y))] h fun a w h=>?_
 obtain ⟨r1,er1,vr1,or1,lr1⟩:=mkZ (v:=x.val - y.val) (m:=x.abs.length+y.abs.length+1) (len_sub hx hy)
 refine rq za0 2 [(2,.call (Fn.cast (SRSub x y hx hy (by omega) (by omega)) (congrArg vz er1.symm)) zs_7),(3,.call (zby r1 or1 (by omega)) zi4)] [(4,vI (sgn r1.val))] [] h fun a w h=>?_
 refine wp_ret ?_
 refine rT (.c (cI (sgn r1.val))) h rfl rfl ?_
 rw [vr1,cmpZ_sgn];first | done | rfl
theorem gcd_iv (m n:Nat) {zs:List Nat} (h:Go.Proofs.YtcppcnfmgpphcaaGreat.val zs=Nat.gcd m n):iv false zs=(Nat.gcd m n:Int):=by rw [zcs,h]
theorem len_gcd {x y:ZI} (hx:Lb x.abs) (hy:Lb y.abs):(ZI.of (Nat.gcd x.val.natAbs y.val.natAbs:Int)).abs.length≤x.abs.length+y.abs.length:=ZI.len_of (by rw [Int.natAbs_natCast];exact zf9 (ZI.abs_lt hx) (ZI.abs_lt hy))
theorem SGcd (x y:ZI) (hx:Lb x.abs) (hy:Lb y.abs) (lx:x.abs.length≤40000) (ly:y.abs.length≤40000):Fn Tryz.prog 163 [] [vz x,vz y] (vz (ZI.of (Nat.gcd x.val.natAbs y.val.natAbs:Int))) []:=by
 refine Fn.body Tryz.func163 rfl 11 rfl fun w H B a h=>?_
 refine rq za0 0 [] [(2,vp 0 0),(3,vp 1 0),(4,vp 2 0)] [(0,.box (zi x)),(1,.box (zi y)),(2,.box [cB false,.d (nsl [])])] h fun a w h=>?_
 obtain ⟨n1,en1,vn1,on1,ln1⟩:=mkN (v:=Nat.gcd (Go.Proofs.YtcppcnfmgpphcaaGreat.val x.abs) (Go.Proofs.YtcppcnfmgpphcaaGreat.val y.abs)) (m:=x.abs.length+y.abs.length) (zf9 (zb1 hx) (zb1 hy))
 obtain ⟨r2,er2,vr2,or2,lr2⟩:=mkZ (v:=iv false n1) (m:=n1.length) (zc8 on1)
 refine rq za0 3 [(4,.call (Fn.cast (SnGcd x.abs y.abs hx hy (by omega) (by omega)) (congrArg vn en1.symm)) zs_9),(5,.call (Fn.cast (zid false n1 on1 (by omega)) (congrArg vz er2.symm)) ia_3)] [(4,vp 2 0)] [(2,.box (zi r2))] h fun a w h=>?_
 refine wp_ret ?_
 refine rA 2 (zi r2) h zd3 rfl rfl rfl rfl rfl ?_
 rw [er2];unfold ZI.val;rw [zgu,zgu,← gcd_iv _ _ vn1];first | done | rfl
theorem SRGcd (x y:ZI) (hx:Lb x.abs) (hy:Lb y.abs) (lx:x.abs.length≤40000) (ly:y.abs.length≤40000):Fn Tryz.prog 123 [] [vz x,vz y] (vz (ZI.of (Nat.gcd x.val.natAbs y.val.natAbs:Int))) []:=by
 refine Fn.body Tryz.func123 rfl 11 rfl fun w H B a h=>?_
 refine rq za0 0 [] [(2,vp 0 0),(3,vp 1 0),(4,vp 2 0)] [(0,.box (zi x)),(1,.box (zi y)),(2,.box [cB false,.d (nsl [])])] h fun a w h=>?_
 obtain ⟨n1,en1,vn1,on1,ln1⟩:=mkN (v:=Nat.gcd (Go.Proofs.YtcppcnfmgpphcaaGreat.val x.abs) (Go.Proofs.YtcppcnfmgpphcaaGreat.val y.abs)) (m:=x.abs.length+y.abs.length) (zf9 (zb1 hx) (zb1 hy))
 obtain ⟨r2,er2,vr2,or2,lr2⟩:=mkZ (v:=iv false n1) (m:=n1.length) (zc8 on1)
 refine rq za0 3 [(4,.call (Fn.cast (SRnGcd x.abs y.abs hx hy (by omega) (by omega)) (congrArg vn en1.symm)) zs_11),(5,.call (Fn.cast (zff false n1 on1 (by omega)) (congrArg vz er2.symm)) ia_4)] [(4,vp 2 0)] [(2,.box (zi r2))] h fun a w h=>?_
 refine wp_ret ?_
 refine rA 2 (zi r2) h zd3 rfl rfl rfl rfl rfl ?_
 rw [er2];unfold ZI.val;rw [zgu,zgu,← gcd_iv _ _ vn1];first | done | rfl
theorem SDiv (x y:ZI) (hx:Lb x.abs) (hy:Lb y.abs) (lx:x.abs.length≤40000) (ly:y.abs.length≤40000) (h0:y.val≠0):Fn Tryz.prog 141 [] [vz x,vz y] (.tup [.agg (zi (ZI.of (x.val.fdiv y.val))),.agg (zi (ZI.of (x.val.fmod y.val))),.c (.d (.raw (.int .i64 0)))]) []:=by
 refine Fn.body Tryz.func141 rfl 56 rfl fun w H B a h=>?_
 refine rq za0 0 [] [(2,vp 0 0),(3,vp 1 0),(4,vp 2 0),(5,vp 3 0),(6,vI 0)] [(0,.box (zi x)),(1,.box (zi y)),(2,.box [.d (.raw (.bool false)),.d (nsl [])]),(3,.box [.d (.raw (.bool false)),.d (nsl [])])] h fun a w h=>?_
 obtain ⟨r1,er1,vr1,or1,lr1⟩:=mkZ (v:=x.val) (m:=x.abs.length) (zcd hx)
 obtain ⟨r2,er2,vr2,or2,lr2⟩:=mkZ (v:=y.val) (m:=y.abs.length) (zcd hy)
 refine rq za0 4 [(1,.call (Fn.cast (SClean x hx (by omega)) (congrArg vz er1.symm)) ia_5),(3,.call (Fn.cast (SClean y hy (by omega)) (congrArg vz er2.symm)) ia_5)] [(2,vp 0 0),(3,vp 1 0),(4,vp 2 0),(5,vp 3 0),(6,vI 0)] [(0,.box (zi r1)),(1,.box (zi r2)),(2,.box [.d (.raw (.bool false)),.d (nsl [])]),(3,.box [.d (.raw (.bool false)),.d (nsl [])])] h fun a w h=>?_
 obtain ⟨n3q,en3q,vn3q,on3q,ln3q⟩:=mkN (v:=Go.Proofs.YtcppcnfmgpphcaaGreat.val r1.abs / Go.Proofs.YtcppcnfmgpphcaaGreat.val r2.abs) (m:=r1.abs.length) (Nat.lt_of_le_of_lt (Nat.div_le_self _ _) (zb1 or1))
 obtain ⟨n3r,en3r,vn3r,on3r,ln3r⟩:=mkN (v:=Go.Proofs.YtcppcnfmgpphcaaGreat.val r1.abs % Go.Proofs.YtcppcnfmgpphcaaGreat.val r2.abs) (m:=r2.abs.length) (Nat.lt_trans (Nat.mod_lt _ (Nat.pos_of_ne_zero (by rw [ZI.val_abs,vr2];omega))) (zb1 or2))
 refine rqk za0 4 [(4,.call (Fn.cast (SnDiv r1.abs r2.abs or1 or2 (by omega) (by omega) (by rw [ZI.val_abs,vr2];omega)) (show _=(.tup [.c (.d (nsl n3q)),.c (.d (nsl n3r)),.c (.d (.raw (.int .i64 0)))]:V) by rw [en3q,en3r];first | done | rfl)) zs_14)] [(2,vp 0 0),(3,vp 1 0),(4,vp 2 0),(5,vp 3 0),(6,vI 0),(7,vn n3q),(8,vn n3r)] h fun a w h=>?_
 refine wp_seq (rqk za0 4 [(1,.cmp (op:=.neq) (m:=0) (n:=0) (b:=false) .i64 rfl)] [(2,vp 0 0),(3,vp 1 0),(4,vp 2 0),(5,vp 3 0),(6,vI 0),(7,vn n3q),(8,vn n3r),(23,vb false)] h fun a w h=>?_)
 refine zah false h rfl nofun (fun _=>?_)
 refine wp_skip (za2 ?_)
 obtain ⟨r4,er4,vr4,or4,lr4⟩:=mkZ (v:=iv (r1.neg != r2.neg) n3q) (m:=n3q.length) (zc8 on3q)
 obtain ⟨r5,er5,vr5,or5,lr5⟩:=mkZ (v:=iv r1.neg n3r) (m:=n3r.length) (zc8 on3r)
 refine rq za0 4 [(6,.call (Fn.cast (zid (r1.neg != r2.neg) n3q on3q (by omega)) (congrArg vz er4.symm)) ia_3),(10,.call (Fn.cast (zid r1.neg n3r on3r (by omega)) (congrArg vz er5.symm)) ia_3)] [(2,vp 0 0),(3,vp 1 0),(4,vp 2 0),(5,vp 3 0),(6,vI 0),(8,vn n3r)] [(0,.box (zi r1)),(1,.box (zi r2)),(2,.box (zi r4)),(3,.box (zi r5))] h fun a w h=>?_
 refine wp_seq ?_
 rcases Bool.eq_false_or_eq_true (r1.neg != r2.neg) with hc | hc
 ·have hc1:=hc;clear hc
  have hc1':=hc1;(try simp at hc1')
  refine rq za0 4 [(4,.cmpb .neq (m:=r1.neg) (n:=r2.neg) (b:=true) (.inr ⟨rfl,hc1.symm⟩)),(7,.len (zf6 n3r))] [(3,vp 1 0),(4,vp 2 0),(5,vp 3 0),(6,vI 0),(47,vb (decide ((n3r.length:Int)>0)))] [(1,.box (zi r2)),(2,.box (zi r4)),(3,.box (zi r5))] h fun a w h=>?_
  refine zam ((n3r.length:Int)>0) h rfl (fun hc2 hc2'=>?_) (fun hc3 hc3'=>?_)
  ·obtain ⟨r6,er6,vr6,or6,lr6⟩:=mkZ (v:=1) (m:=2) (ZI.len_of (by have:=pw2;omega))
   obtain ⟨r7,er7,vr7,or7,lr7⟩:=mkZ (v:=r4.val - r6.val) (m:=r4.abs.length+r6.abs.length+1) (len_sub or4 or6)
   obtain ⟨r8,er8,vr8,or8,lr8⟩:=mkZ (v:=r5.val+r2.val) (m:=r5.abs.length+r2.abs.length+1) (zcr or5 or2)
   refine rn za0 4 [(1,.call (Fn.cast (SOf 1 ⟨by omega,by omega⟩) (congrArg vz er6.symm)) tm_10),(2,.call (Fn.cast (SSub r4 r6 or4 or6 (by omega) (by omega)) (congrArg vz er7.symm)) zs_16),(5,.call (Fn.cast (SAdd r5 r2 or5 or2 (by omega) (by omega)) (congrArg vz er8.symm)) tl_9)] [(4,vp 2 0),(5,vp 3 0),(6,vI 0)] [(2,.box (zi r7)),(3,.box (zi r8))] h fun a w h=>?_
   refine za2 (rqk za0 4 [] [(4,vp 2 0),(5,vp 3 0),(6,vI 0)] h fun a w h=>?_)
   refine wp_ret ?_
   refine zd0 [.agg (zi r7),.agg (zi r8),.c (.d (.raw (.int .i64 0)))] h Exit.ret (.inl rfl)  rfl ⟨RV.agg _ 2 0 _ _ _ _ zd3 rfl rfl rfl rfl,RV.agg _ 3 0 _ _ _ _ zd3 rfl rfl rfl rfl,RV.tmp _ _ rfl,trivial⟩ ?_
   have f1:r1.neg=decide (x.val<0):=by rw [er1];rfl
   have f2:r2.neg=decide (y.val<0):=by rw [er2];rfl
   have f3:Go.Proofs.YtcppcnfmgpphcaaGreat.val n3q=x.val.natAbs / y.val.natAbs:=by rw [vn3q,ZI.val_abs,ZI.val_abs,vr1,vr2]
   have f4:Go.Proofs.YtcppcnfmgpphcaaGreat.val n3r=x.val.natAbs % y.val.natAbs:=by rw [vn3r,ZI.val_abs,ZI.val_abs,vr1,vr2]
   have f5:Go.Proofs.YtcppcnfmgpphcaaGreat.val n3r=0 ↔ n3r.length=0:=by rw [en3r];exact val_zero (zch _)
   obtain ⟨e1,e2⟩:=fdiv_other h0 f1 f2 f3 f4 hc1 (fun h=>by have:=f5.1 h;omega)
   rw [er7,er8,vr4,vr5,vr6,vr2,e1,e2];first | done | rfl
  refine wp_skip (za2 (rq za0 4 [] [(4,vp 2 0),(5,vp 3 0),(6,vI 0)] [(2,.box (zi r4)),(3,.box (zi r5))] h fun a w h=>?_))
  refine wp_ret ?_
  refine zd0 [.agg (zi r4),.agg (zi r5),.c (.d (.raw (.int .i64 0)))] h Exit.ret (.inl rfl)  rfl ⟨RV.agg _ 2 0 _ _ _ _ zd3 rfl rfl rfl rfl,RV.agg _ 3 0 _ _ _ _ zd3 rfl rfl rfl rfl,RV.tmp _ _ rfl,trivial⟩ ?_
  have f1:r1.neg=decide (x.val<0):=by rw [er1];rfl
  have f2:r2.neg=decide (y.val<0):=by rw [er2];rfl
  have f3:Go.Proofs.YtcppcnfmgpphcaaGreat.val n3q=x.val.natAbs / y.val.natAbs:=by rw [vn3q,ZI.val_abs,ZI.val_abs,vr1,vr2]
  have f4:Go.Proofs.YtcppcnfmgpphcaaGreat.val n3r=x.val.natAbs % y.val.natAbs:=by rw [vn3r,ZI.val_abs,ZI.val_abs,vr1,vr2]
  have f5:Go.Proofs.YtcppcnfmgpphcaaGreat.val n3r=0 ↔ n3r.length=0:=by rw [en3r];exact val_zero (zch _)
  obtain ⟨e1,e2⟩:=fdiv_same h0 f1 f2 f3 f4 (fun _=>f5.2 (by omega))
  rw [er4,er5,e1,e2];first | done | rfl
 have hc4:=hc;clear hc
 have hc4':=hc4;(try simp at hc4')
 refine rq za0 4 [(4,.cmpb .neq (m:=r1.neg) (n:=r2.neg) (b:=false) (.inr ⟨rfl,hc4.symm⟩))] [(3,vp 1 0),(4,vp 2 0),(5,vp 3 0),(6,vI 0),(47,vb false)] [(1,.box (zi r2)),(2,.box (zi r4)),(3,.box (zi r5))] h fun a w h=>?_
 refine zah false h rfl nofun (fun _=>?_)
 refine wp_skip (za2 (rq za0 4 [] [(4,vp 2 0),(5,vp 3 0),(6,vI 0)] [(2,.box (zi r4)),(3,.box (zi r5))] h fun a w h=>?_))
 refine wp_ret ?_
 refine zd0 [.agg (zi r4),.agg (zi r5),.c (.d (.raw (.int .i64 0)))] h Exit.ret (.inl rfl)  rfl ⟨RV.agg _ 2 0 _ _ _ _ zd3 rfl rfl rfl rfl,RV.agg _ 3 0 _ _ _ _ zd3 rfl rfl rfl rfl,RV.tmp _ _ rfl,trivial⟩ ?_
 have f1:r1.neg=decide (x.val<0):=by rw [er1];rfl
 have f2:r2.neg=decide (y.val<0):=by rw [er2];rfl
 have f3:Go.Proofs.YtcppcnfmgpphcaaGreat.val n3q=x.val.natAbs / y.val.natAbs:=by rw [vn3q,ZI.val_abs,ZI.val_abs,vr1,vr2]
 have f4:Go.Proofs.YtcppcnfmgpphcaaGreat.val n3r=x.val.natAbs % y.val.natAbs:=by rw [vn3r,ZI.val_abs,ZI.val_abs,vr1,vr2]
 have f5:Go.Proofs.YtcppcnfmgpphcaaGreat.val n3r=0 ↔ n3r.length=0:=by rw [en3r];exact val_zero (zch _)
 obtain ⟨e1,e2⟩:=fdiv_same h0 f1 f2 f3 f4 (fun h=>by rw [hc4] at h;cases h)
 rw [er4,er5,e1,e2];first | done | rfl
theorem SRDiv (x y:ZI) (hx:Lb x.abs) (hy:Lb y.abs) (lx:x.abs.length≤15000) (ly:y.abs.length≤15000) (h0:y.val≠0):Fn Tryz.prog 100 [] [vz x,vz y] (.tup [.agg (zi (ZI.of (x.val.fdiv y.val))),.agg (zi (ZI.of (x.val.fmod y.val))),.c (cI 0)]) []:=by
 have sm:=sgn_prod_range x.val y.val
 refine Fn.body Tryz.func100 rfl 53 rfl fun w H B a h=>?_
 refine rq za0 0 [] [(2,vp 0 0),(3,vp 1 0),(4,vp 2 0),(5,vp 3 0),(6,vI 0)] [(0,.box (zi x)),(1,.box (zi y)),(2,.box [cB false,.d (nsl [])]),(3,.box [cB false,.d (nsl [])])] h fun a w h=>?_
 obtain ⟨n1q,en1q,vn1q,on1q,ln1q⟩:=mkN (v:=Go.Proofs.YtcppcnfmgpphcaaGreat.val x.abs / Go.Proofs.YtcppcnfmgpphcaaGreat.val y.abs) (m:=x.abs.length) (Nat.lt_of_le_of_lt (Nat.div_le_self _ _) (zb1 hx))
 obtain ⟨n1r,en1r,vn1r,on1r,ln1r⟩:=mkN (v:=Go.Proofs.YtcppcnfmgpphcaaGreat.val x.abs % Go.Proofs.YtcppcnfmgpphcaaGreat.val y.abs) (m:=y.abs.length) (Nat.lt_trans (Nat.mod_lt _ (Nat.pos_of_ne_zero (by rw [ZI.val_abs];omega))) (zb1 hy))
 refine rqk za0 4 [(4,.call (Fn.cast (SRnDiv x.abs y.abs hx hy (by omega) (by omega) (by rw [ZI.val_abs];omega)) (show _=(.tup [.c (.d (nsl n1q)),.c (.d (nsl n1r)),.c (cI 0)]:V) by rw [en1q,en1r];first | done | rfl)) zs_17)] [(2,vp 0 0),(3,vp 1 0),(4,vp 2 0),(5,vp 3 0),(6,vI 0),(7,vn n1q),(9,vI 0)] h fun a w h=>?_
 refine wp_seq (rqk za0 4 [(1,.cmp (op:=.neq) (m:=0) (n:=0) (b:=false) .i64 rfl)] [(2,vp 0 0),(3,vp 1 0),(4,vp 2 0),(5,vp 3 0),(6,vI 0),(7,vn n1q),(9,vI 0),(22,vb false)] h fun a w h=>?_)
 refine zah false h rfl nofun (fun _=>?_)
 refine wp_skip (za2 ?_)
 obtain ⟨r4,er4,vr4,or4,lr4⟩:=mkZ (v:=iv (decide ((sgn x.val*sgn y.val)<0)) n1q) (m:=n1q.length) (zc8 on1q)
 refine rq za0 4 [(1,.call (zby x hx (by omega)) zi4),(3,.call (zby y hy (by omega)) zi4),(4,.mul .i64 (m:=(sgn x.val)) (n:=(sgn y.val)) (i64_id (by have:=sgn_mul_range' x.val y.val;omega) (by have:=sgn_mul_range' x.val y.val;omega))),(7,.call (Fn.cast (zff (decide ((sgn x.val*sgn y.val)<0)) n1q on1q (by omega)) (congrArg vz er4.symm)) ia_4)] [(2,vp 0 0),(3,vp 1 0),(4,vp 2 0),(5,vp 3 0),(6,vI 0),(10,vp 4 0)] [(0,.box (zi x)),(1,.box (zi y)),(2,.box [cB false,.d (nsl [])]),(3,.box [cB false,.d (nsl [])]),(4,.box (zi r4))] h fun a w h=>?_
 obtain ⟨r5,er5,vr5,or5,lr5⟩:=mkZ (v:=r4.val*y.val) (m:=r4.abs.length+y.abs.length) (zej or4 hy)
 obtain ⟨r6,er6,vr6,or6,lr6⟩:=mkZ (v:=x.val - r5.val) (m:=x.abs.length+r5.abs.length+1) (len_sub hx or5)
 refine rq za0 5 [(3,.call (Fn.cast (SRMul r4 y or4 hy (by omega) (by omega)) (congrArg vz er5.symm)) zs_18),(4,.call (Fn.cast (SRSub x r5 hx or5 (by omega) (by omega)) (congrArg vz er6.symm)) zs_7)] [(3,vp 1 0),(4,vp 2 0),(5,vp 3 0),(6,vI 0),(10,vp 4 0),(11,vp 5 0)] [(1,.box (zi y)),(2,.box [cB false,.d (nsl [])]),(3,.box [cB false,.d (nsl [])]),(4,.box (zi r4)),(5,.box (zi r6))] h fun a w h=>?_
 refine wp_seq (rqk za0 6 [(1,.call (zby r6 or6 (by omega)) zi4),(3,.call (zby y hy (by omega)) zi4),(4,.mul .i64 (m:=(sgn r6.val)) (n:=(sgn y.val)) (i64_id (by have:=sgn_mul_range' r6.val y.val;omega) (by have:=sgn_mul_range' r6.val y.val;omega)))] [(3,vp 1 0),(4,vp 2 0),(5,vp 3 0),(6,vI 0),(10,vp 4 0),(11,vp 5 0),(44,vb (decide ((sgn r6.val*sgn y.val)<0)))] h fun a w h=>?_)
 refine zam ((sgn r6.val*sgn y.val)<0) h rfl (fun hc1 hc1'=>?_) (fun hc2 hc2'=>?_)
 ·obtain ⟨r9,er9,vr9,or9,lr9⟩:=mkZ (v:=1) (m:=2) (ZI.len_of (by have:=pw2;omega))
  obtain ⟨r10,er10,vr10,or10,lr10⟩:=mkZ (v:=r4.val - r9.val) (m:=r4.abs.length+r9.abs.length+1) (len_sub or4 or9)
  refine rq za0 6 [(1,.call (Fn.cast (SROf 1 ⟨by omega,by omega⟩) (congrArg vz er9.symm)) tc_0),(2,.call (Fn.cast (SRSub r4 r9 or4 or9 (by omega) (by omega)) (congrArg vz er10.symm)) zs_7)] [(3,vp 1 0),(4,vp 2 0),(5,vp 3 0),(6,vI 0),(10,vp 4 0),(11,vp 5 0)] [(1,.box (zi y)),(2,.box [cB false,.d (nsl [])]),(3,.box [cB false,.d (nsl [])]),(4,.box (zi r10)),(5,.box (zi r6))] h fun a w h=>?_
  obtain ⟨r11,er11,vr11,or11,lr11⟩:=mkZ (v:=r6.val+y.val) (m:=r6.abs.length+y.abs.length+1) (zcr or6 hy)
  refine rn za0 6 [(2,.call (Fn.cast (SRAdd r6 y or6 hy (by omega) (by omega)) (congrArg vz er11.symm)) ib_5)] [(4,vp 2 0),(5,vp 3 0),(6,vI 0),(10,vp 4 0),(11,vp 5 0)] [(2,.box [cB false,.d (nsl [])]),(3,.box [cB false,.d (nsl [])]),(4,.box (zi r10)),(5,.box (zi r11))] h fun a w h=>?_
  refine za2 (rq za0 6 [] [(4,vp 2 0),(5,vp 3 0),(6,vI 0)] [(2,.box (zi r10)),(3,.box (zi r11))] h fun a w h=>?_)
  refine wp_ret ?_
  refine zd0 [.agg (zi r10),.agg (zi r11),.c (cI 0)] h Exit.ret (.inl rfl)  rfl ⟨RV.agg _ 2 0 _ _ _ _ zd3 rfl rfl rfl rfl,RV.agg _ 3 0 _ _ _ _ zd3 rfl rfl rfl rfl,RV.tmp _ _ rfl,trivial⟩ ?_
  have f1:=(tdiv_leaf h0 (b:=decide (sgn x.val*sgn y.val<0)) rfl (zq:=n1q) (by rw [vn1q,ZI.val_abs,ZI.val_abs])).1
  obtain ⟨e1,e2⟩:=rdiv_turn h0 f1 (by rw [← vr4,← vr5,← vr6];exact hc1')
  rw [er10,er11,vr4,vr9,vr6,vr5,vr4,e1,e2];first | done | rfl
 refine wp_skip (za2 (rq za0 6 [] [(4,vp 2 0),(5,vp 3 0),(6,vI 0)] [(2,.box (zi r4)),(3,.box (zi r6))] h fun a w h=>?_))
 refine wp_ret ?_
 refine zd0 [.agg (zi r4),.agg (zi r6),.c (cI 0)] h Exit.ret (.inl rfl)  rfl ⟨RV.agg _ 2 0 _ _ _ _ zd3 rfl rfl rfl rfl,RV.agg _ 3 0 _ _ _ _ zd3 rfl rfl rfl rfl,RV.tmp _ _ rfl,trivial⟩ ?_
 have f1:=(tdiv_leaf h0 (b:=decide (sgn x.val*sgn y.val<0)) rfl (zq:=n1q) (by rw [vn1q,ZI.val_abs,ZI.val_abs])).1
 obtain ⟨e1,e2⟩:=rdiv_stay h0 f1 (by rw [← vr4,← vr5,← vr6];exact hc2')
 rw [er4,er6,vr5,vr4,e2,e1];first | done | rfl
theorem sgn_eq0 {z:Int}:sgn z=0 ↔ z=0:=by unfold sgn;split <;> (try split) <;> omega
theorem SExact (x y:ZI) (hx:Lb x.abs) (hy:Lb y.abs) (lx:x.abs.length≤15000) (ly:y.abs.length≤15000) (h0:y.val≠0) (hr:x.val.fmod y.val=0):Fn Tryz.prog 160 [] [vz x,vz y] (.tup [.agg (zi (ZI.of (x.val.fdiv y.val))),.c (cI 0)]) []:=by
 refine Fn.body Tryz.func160 rfl 27 rfl fun w H B a h=>?_
 refine rq za0 0 [] [(2,vp 0 0),(3,vp 1 0),(4,vp 2 0),(5,vI 0)] [(0,.box (zi x)),(1,.box (zi y)),(2,.box [cB false,.d (nsl [])])] h fun a w h=>?_
 obtain ⟨r1q,er1q,vr1q,or1q,lr1q⟩:=mkZ (v:=x.val.fdiv y.val) (m:=x.abs.length) (zek hx h0)
 obtain ⟨r1r,er1r,vr1r,or1r,lr1r⟩:=mkZ (v:=x.val.fmod y.val) (m:=y.abs.length) (zfp hy h0)
 refine rq za0 3 [(2,.call (Fn.cast (SDiv x y hx hy (by omega) (by omega) h0) (show _=(.tup [.agg (zi r1q),.agg (zi r1r),.c (cI 0)]:V) by rw [er1q,er1r];first | done | rfl)) zs_20)] [(4,vp 2 0),(5,vI 0),(6,vp 3 0),(7,vp 4 0),(8,vI 0)] [(2,.box [cB false,.d (nsl [])]),(3,.box (zi r1q)),(4,.box (zi r1r))] h fun a w h=>?_
 refine wp_seq (wp_block (rqk za0 5 [(1,.cmp (op:=.neq) (m:=0) (n:=0) (b:=false) .i64 rfl)] [(4,vp 2 0),(5,vI 0),(6,vp 3 0),(7,vp 4 0),(8,vI 0),(16,vb false)] h fun a w h=>?_))
 refine zah false h rfl nofun (fun _=>?_)
 refine rq za0 5 [(1,.call (Fn.cast (zht r1r or1r (by omega)) (congrArg (vi .i64) (zdh (by rw [vr1r];exact hr)))) td_6),(2,.cmp (op:=.neq) (m:=0) (n:=0) (b:=false) .i64 rfl)] [(4,vp 2 0),(5,vI 0),(6,vp 3 0),(21,vb false)] [(2,.box [cB false,.d (nsl [])]),(3,.box (zi r1q))] h fun a w h=>?_
 refine zah false h rfl nofun (fun _=>?_)
 refine wp_skip (zaa (za2 (rq za0 5 [] [(4,vp 2 0),(5,vI 0)] [(2,.box (zi r1q))] h fun a w h=>?_)))
 refine wp_ret ?_
 refine zd0 [.agg (zi r1q),.c (cI 0)] h Exit.ret (.inl rfl)  rfl ⟨RV.agg _ 2 0 _ _ _ _ zd3 rfl rfl rfl rfl,RV.tmp _ _ rfl,trivial⟩ ?_
 rw [er1q];first | done | rfl
end
section
open Go.RowKit

theorem tt_6:SlT Tryz.prog 28 53 2:=SlT.mk' Tryz.underlying28 (by kernel_rfl)
theorem tt_11:za6 Tryz.prog 163:=za6.mk' (by kernel_rfl)
theorem tt_15:za6 Tryz.prog 123:=za6.mk' (by kernel_rfl)
def zft (vs:List ZI) (v:Int):Int:=if 0≤v then ((vs[v.toNat]?).map ZI.val).getD 0 else 0
def zfs (vs:List ZI):List za4→Int
  | []=>0
  | p :: ps=>p.c.val*zft vs p.v+zfs vs ps
theorem valP_app (vs:List ZI) (ps qs:List za4):zfs vs (ps++qs)=zfs vs ps+zfs vs qs:=by
 induction ps with
 | nil=>simp [zfs]
 | cons p ps ih=>simp only [List.cons_append,zfs,ih];omega
theorem valP_take {vs:List ZI} {ps:List za4} {j:Nat} {p:za4} (h:ps[j]?=some p):zfs vs (ps.take (j+1))=zfs vs (ps.take j)+p.c.val*zft vs p.v:=by
 have:ps.take (j+1)=ps.take j++[p]:=by rw [List.take_add_one,h];rfl
 rw [this,valP_app];simp [zfs]
theorem valAt_some {vs:List ZI} {v:Int} {k:Nat} {y:ZI} (h:v=(k:Int)) (hy:vs[k]?=some y):zft vs v=y.val:=by
 subst h
 unfold zft
 rw [if_pos (by omega),Int.toNat_natCast,hy];rfl
theorem valAt_neg {vs:List ZI} {v:Int} (h:¬ v≥0):zft vs v=0:=by unfold zft;rw [if_neg (by omega)]
theorem valAt_out {vs:List ZI} {v:Int} (h:¬ v<(vs.length:Int)):zft vs v=0:=by
 unfold zft
 split
 ·rw [List.getElem?_eq_none (by omega)];rfl
 ·rfl
def valT (t:zb9) (vs:List ZI):Int:=t.k.val+zfs vs t.parts
def VOk (M:Nat) (vs:List ZI):Prop:=vs.length≤2000∧∀ y ∈ vs,Lb y.abs∧y.abs.length≤M
theorem VOk.get {M:Nat} {vs:List ZI} (h:VOk M vs) {j:Nat} {y:ZI} (hy:vs[j]?=some y):Lb y.abs∧y.abs.length≤M:=h.2 y (List.mem_of_getElem? hy)
theorem valAt_lt {M:Nat} {vs:List ZI} (h:VOk M vs) (v:Int):(zft vs v).natAbs<pw M:=by
 unfold zft
 split
 ·cases hy:vs[v.toNat]? with
  | none=>exact zet M
  | some y =>
   obtain ⟨h1,h2⟩:=h.get hy
   have h3:=ZI.abs_lt h1
   have h4:=zdo h2
   show y.val.natAbs<_
   omega
 ·exact zet M
theorem valP_lt {L M:Nat} {vs:List ZI} (hv:VOk M vs):∀ {ps:List za4}, (∀ p ∈ ps,Lb p.c.abs∧p.c.abs.length≤L)→(zfs vs ps).natAbs≤ps.length*pw (L+M)
 | [],_=>by simp [zfs]
 | p :: ps,h=>by
  have ih:=valP_lt hv (fun q hq=>h q (by simp [hq])) (ps:=ps)
  obtain ⟨h1,h2⟩:=h p (by simp)
  have h3:=Nat.lt_of_lt_of_le (ZI.abs_lt h1) (zdo h2)
  have h4:(p.c.val*zft vs p.v).natAbs<pw (L+M):=by
   rw [Int.natAbs_mul,zeu]
   exact Nat.mul_lt_mul'' h3 (valAt_lt hv p.v)
  simp only [zfs,List.length_cons,Nat.add_mul]
  omega
theorem val_len {n L M:Nat} {t:zb9} {vs:List ZI} (ht:TOk n L t) (hn:n≤1000) (hv:VOk M vs) {ps:List za4} (hp:∀ p ∈ ps,p ∈ t.parts) (hl:ps.length≤t.parts.length):(ZI.of (t.k.val+zfs vs ps)).abs.length≤L+M+1:=by
 refine ZI.len_of ?_
 have h1:=valP_lt hv (fun p h=>ht.ps p (hp p h)) (L:=L)
 have h2:ps.length*pw (L+M)≤1000*pw (L+M):=Nat.mul_le_mul_right _ (by have:=ht.len;omega)
 have h3:=Nat.lt_of_lt_of_le (ZI.abs_lt ht.kb) (zdo ht.kl)
 have h4:=zdo (show L≤L+M by omega)
 rw [zb0]
 omega
theorem SValue (t:zb9) (vs:List ZI) {n L M:Nat} (ht:TOk n L t) (hn:n≤1000) (hL:L+M≤20000) (hv:VOk M vs):Fn Tryz.prog 78 [] [(vT t),(vZs vs)] (vz (ZI.of (valT t vs))) []:=by
 have kt:=ht.kl
 have lnv:=hv.1
 refine Fn.body Tryz.func78 rfl 40 rfl fun w H B a h=>?_
 refine rq za0 0 [] [(1,(vZs vs)),(2,vp 0 0),(4,vp 1 0)] [(0,.box (zT t)),(1,.box [cB false,.d (nsl [])])] h fun a w h=>?_
 obtain ⟨r1,er1,vr1,or1,lr1⟩:=mkZ (v:=t.k.val) (m:=t.k.abs.length) (zcd ht.kb)
 refine rq za0 2 [(2,.call (Fn.cast (zdx t.k ht.kb (by omega)) (congrArg vz er1.symm)) tl_5)] [(1,(vZs vs)),(2,vp 0 0),(4,vp 1 0),(5,vp 2 0)] [(0,.box (zT t)),(1,.box [cB false,.d (nsl [])]),(2,.box (zi r1))] h fun a w h=>?_
 refine wp_seq (rq za0 3 [(2,.len (za9 3 za4.d t.parts))] [(1,(vZs vs)),(4,vp 1 0),(5,vp 2 0),(12,(vPs t.parts)),(13,vN t.parts.length),(14,vI 0)] [(1,.box [cB false,.d (nsl [])]),(2,.box (zi r1))] h fun a w h=>?_)
 refine wp_block ?_
 refine zau (ι:=(Nat) × (ZI)) (fun (j,out)=>out=ZI.of (t.k.val+zfs vs (t.parts.take j))∧j≤t.parts.length)
   (fun (j,out)=>[(1,(vZs vs)),(4,vp 1 0),(5,vp 2 0),(12,(vPs t.parts)),(13,vN t.parts.length),(14,vN j)])
   (fun (j,out)=>[(1,.box [cB false,.d (nsl [])]),(2,.box (zi out))])
   (fun (j,out)=>t.parts.length - j) (0,r1) ?_ h (by kernel_rfl) (by kernel_rfl) ?_
 ·exact ⟨by rw [er1];simp [zfs],Nat.zero_le _⟩
 clear h;rintro ⟨j,out⟩ a w hI h
 dsimp only at h
 obtain ⟨hI1,hI2⟩:=hI
 have ln:=ht.len
 have lo:out.abs.length≤L+M+1:=by rw [hI1];exact val_len ht hn hv (fun p hp=>List.mem_of_mem_take hp) (by rw [List.length_take];omega)
 have ho:Lb out.abs:=by rw [hI1];exact ZI.lb_of _
 have vo:out.val=t.k.val+zfs vs (t.parts.take j):=by rw [hI1];exact ZI.val_of _
 refine rqk za0 3 [] [(1,(vZs vs)),(4,vp 1 0),(5,vp 2 0),(12,(vPs t.parts)),(13,vN t.parts.length),(14,vN j),(15,vb (decide ((j:Int)<(t.parts.length:Int))))] h fun a w h=>?_
 refine wp_seq ?_
 refine zam ((j:Int)<(t.parts.length:Int)) h rfl (fun hc1 hc1'=>?_) (fun hc6 hc6'=>?_)
 ·refine wp_skip (za2 (wp_seq (wp_block ?_)))
  obtain ⟨x2,hx2⟩:=gl t.parts j
  obtain ⟨ox2,lx2⟩:=ht.get hx2
  refine rq za0 3 [(0,.g (xD 16 12 zc3 (zaf hx2 (f:=za4.d)) (OV.tmp 14 _)))] [(1,(vZs vs)),(4,vp 1 0),(5,vp 2 0),(7,vp 3 0),(12,(vPs t.parts)),(13,vN t.parts.length),(14,vN j)] [(1,.box [cB false,.d (nsl [])]),(2,.box (zi out)),(3,.box ([cI x2.v]++zi x2.c))] h fun a w h=>?_
  rcases Bool.eq_false_or_eq_true (decide (x2.v≥0)) with hc | hc
  ·have hc2:=hc;clear hc
   have hc2':=dT hc2
   refine rqk za0 4 [(2,.cmp (op:=.geq) (m:=x2.v) (n:=0) (b:=true) .i64 hc2),(7,.len (za9 2 ziD vs))] [(1,(vZs vs)),(4,vp 1 0),(5,vp 2 0),(7,vp 3 0),(12,(vPs t.parts)),(13,vN t.parts.length),(14,vN j),(27,vb (decide (x2.v<(vs.length:Int))))] h fun a w h=>?_
   refine zam (x2.v<(vs.length:Int)) h rfl (fun hc3 hc3'=>?_) (fun hc4 hc4'=>?_)
   ·obtain ⟨k,hk⟩:∃ k:Nat,x2.v=(k:Int):=⟨_,(Int.toNat_of_nonneg (by omega)).symm⟩
    replace h:=h.conv (f':=F.of [(1,(vZs vs)),(4,vp 1 0),(5,vp 2 0),(7,vp 3 0),(12,(vPs t.parts)),(13,vN t.parts.length),(14,vN j),(27,vb (decide (x2.v<(vs.length:Int))))] [(1,.box [cB false,.d (nsl [])]),(2,.box (zi out)),(3,.box ([cI (k:Int)]++zi x2.c))]) (by rw [hk])
    obtain ⟨x3,hx3⟩:=gl vs k
    obtain ⟨ox3,lx3⟩:=hv.get hx3
    obtain ⟨r4,er4,vr4,or4,lr4⟩:=mkZ (v:=x2.c.val*x3.val) (m:=x2.c.abs.length+x3.abs.length) (zej ox2 ox3)
    obtain ⟨r5,er5,vr5,or5,lr5⟩:=mkZ (v:=out.val+r4.val) (m:=out.abs.length+r4.abs.length+1) (zcr ho or4)
    refine rn za0 4 [(6,.g (xD 34 31 tt_6 (zaf hx3 (f:=ziD)) (OV.tmp 33 _))),(8,.call (Fn.cast (SMul x2.c x3 ox2 ox3 (by omega) (by omega)) (congrArg vz er4.symm)) tm_12),(9,.call (Fn.cast (SAdd out r4 ho or4 (by omega) (by omega)) (congrArg vz er5.symm)) tl_9)] [(1,(vZs vs)),(4,vp 1 0),(5,vp 2 0),(12,(vPs t.parts)),(13,vN t.parts.length),(14,vN j)] [(1,.box [cB false,.d (nsl [])]),(2,.box (zi r5))] h fun a w h=>?_
    refine zaa (za2 (rnk za0 4 [(0,.j1 j)] [(1,(vZs vs)),(4,vp 1 0),(5,vp 2 0),(12,(vPs t.parts)),(13,vN t.parts.length),(14,vI ((j:Int)+1))] h fun a w h=>?_))
    refine za2 ?_
    refine zaj (x:=(j,out)) (y:=((j+1),r5)) h ?_ ?_
    ·have:=zag hx2
     exact ⟨by rw [er5,vr4,vo,valP_take hx2,valAt_some hk hx3,← Int.add_assoc],by omega⟩
    show t.parts.length - (j+1)<t.parts.length - j
    have:=zag hx2;omega
   refine wp_skip (zaa (za2 (rn za0 4 [(0,.j1 j)] [(1,(vZs vs)),(4,vp 1 0),(5,vp 2 0),(12,(vPs t.parts)),(13,vN t.parts.length),(14,vI ((j:Int)+1))] [(1,.box [cB false,.d (nsl [])]),(2,.box (zi out))] h fun a w h=>?_)))
   refine za2 ?_
   refine zaj (x:=(j,out)) (y:=((j+1),out)) h ?_ ?_
   ·have:=zag hx2
    exact ⟨by rw [hI1,valP_take hx2,valAt_out hc4', Int.mul_zero,Int.add_zero],by omega⟩
   show t.parts.length - (j+1)<t.parts.length - j
   have:=zag hx2;omega
  have hc5:=hc;clear hc
  have hc5':=dF hc5
  refine rqk za0 4 [(2,.cmp (op:=.geq) (m:=x2.v) (n:=0) (b:=false) .i64 hc5)] [(1,(vZs vs)),(4,vp 1 0),(5,vp 2 0),(7,vp 3 0),(12,(vPs t.parts)),(13,vN t.parts.length),(14,vN j),(27,vb false)] h fun a w h=>?_
  refine zah false h rfl nofun (fun _=>?_)
  refine wp_skip (zaa (za2 (rn za0 4 [(0,.j1 j)] [(1,(vZs vs)),(4,vp 1 0),(5,vp 2 0),(12,(vPs t.parts)),(13,vN t.parts.length),(14,vI ((j:Int)+1))] [(1,.box [cB false,.d (nsl [])]),(2,.box (zi out))] h fun a w h=>?_)))
  refine za2 ?_
  refine zaj (x:=(j,out)) (y:=((j+1),out)) h ?_ ?_
  ·have:=zag hx2
   exact ⟨by rw [hI1,valP_take hx2,valAt_neg hc5', Int.mul_zero,Int.add_zero],by omega⟩
  show t.parts.length - (j+1)<t.parts.length - j
  have:=zag hx2;omega
 refine wp_exit (zab (zab (za7 (za2 (rq za0 4 [] [(4,vp 1 0)] [(1,.box (zi out))] h fun a w h=>?_)))))
 refine wp_ret ?_
 refine rA 1 (zi out) h zd3 rfl rfl rfl rfl rfl ?_
 have hj:j=t.parts.length:=by omega
 subst hj
 rw [hI1,List.take_length];first | done | rfl
def zc1 (ps:List za4):Int:=ps.foldl (fun g p=>(Nat.gcd g.natAbs p.c.val.natAbs:Int)) 0
theorem con_take {ps:List za4} {j:Nat} {p:za4} (h:ps[j]?=some p):zc1 (ps.take (j+1))=(Nat.gcd (zc1 (ps.take j)).natAbs p.c.val.natAbs:Int):=by
 unfold zc1;rw [zcb h]
theorem con_nonneg (ps:List za4):0≤zc1 ps:=by
 have key:∀ (ps:List za4) (g:Int),0≤g→0≤ps.foldl (fun g p=>(Nat.gcd g.natAbs p.c.val.natAbs:Int)) g:=by
  intro ps
  induction ps with
  | nil=>intro g h;exact h
  | cons p ps ih=>intro g h;exact ih _ (Int.natCast_nonneg _)
 exact key ps 0 (Int.le_refl 0)
theorem con_le {L:Nat} {ps:List za4} (h:∀ p ∈ ps,p.c.val.natAbs<pw L∧p.c.val≠0):(zc1 ps).natAbs<pw L:=by
 have key:∀ (ps:List za4),(∀ p ∈ ps,p.c.val.natAbs<pw L∧p.c.val≠0)→∀ g:Int,g.natAbs<pw L→(ps.foldl (fun g p=>(Nat.gcd g.natAbs p.c.val.natAbs:Int)) g).natAbs<pw L:=by
  intro ps
  induction ps with
  | nil=>intro _ g h;exact h
  | cons p ps ih =>
   intro hp g h
   obtain ⟨h1,h2⟩:=hp p (by simp)
   refine ih (fun q hq=>hp q (by simp [hq])) _ ?_
   rw [Int.natAbs_natCast]
   have:=Nat.le_of_dvd (by omega) (Nat.gcd_dvd_right g.natAbs p.c.val.natAbs)
   omega
 exact key ps h 0 (by simpa using zet L)
theorem plain_lt {n L:Nat} {t:zb9} (ht:TOk n L t) (hn:n≤1000):∀ p ∈ (za3 t).parts,p.c.val.natAbs<pw (L+1)∧p.c.val≠0:=fun p hp=>by
 obtain ⟨h1,h2⟩:=(ht.plain hn).ps p hp
 exact ⟨Nat.lt_of_lt_of_le (ZI.abs_lt h1) (zdo h2),((zc6 t).2.1 p hp).2.2⟩
theorem zgf {n L:Nat} {t:zb9} (ht:TOk n L t) (hn:n≤1000) (j:Nat):(ZI.of (zc1 ((za3 t).parts.take j))).abs.length≤L+1 :=
 ZI.len_of (con_le fun p hp=>plain_lt ht hn p (List.mem_of_mem_take hp))
theorem SContent (t:zb9) {n L:Nat} (ht:TOk n L t) (hn:n≤1000) (hL:L≤20000):Fn Tryz.prog 142 [] [(vT t)] (vz (ZI.of (zc1 (za3 t).parts))) []:=by
 refine Fn.body Tryz.func142 rfl 21 rfl fun w H B a h=>?_
 refine rq za0 0 [] [(1,vp 0 0),(2,vp 1 0)] [(0,.box (zT t)),(1,.box [cB false,.d (nsl [])])] h fun a w h=>?_
 refine rq za0 2 [] [(1,vp 0 0),(2,vp 1 0),(3,vp 2 0)] [(0,.box (zT t)),(1,.box [cB false,.d (nsl [])]),(2,.box [cB false,.d (nsl [])])] h fun a w h=>?_
 refine wp_seq (rq za0 3 [(1,.call (zfg t ht (by omega) (by omega)) tm_7),(3,.len (za9 3 za4.d ((za3 t).parts)))] [(2,vp 1 0),(3,vp 2 0),(9,(vPs (za3 t).parts)),(10,vI ((za3 t).parts.length:Int)),(11,vI 0)] [(1,.box [cB false,.d (nsl [])]),(2,.box [cB false,.d (nsl [])])] h fun a w h=>?_)
 refine wp_block ?_
 refine zau (ι:=(Nat) × (ZI)) (fun (j,out)=>out=ZI.of (zc1 ((za3 t).parts.take j))∧j≤(za3 t).parts.length)
   (fun (j,out)=>[(2,vp 1 0),(3,vp 2 0),(9,(vPs (za3 t).parts)),(10,vI ((za3 t).parts.length:Int)),(11,vN j)])
   (fun (j,out)=>[(1,.box [cB false,.d (nsl [])]),(2,.box (zi out))])
   (fun (j,out)=>(za3 t).parts.length - j) (0,(ZI.of 0)) ?_ h (by kernel_rfl) (by kernel_rfl) ?_
 ·exact ⟨by simp [zc1],Nat.zero_le _⟩
 clear h;rintro ⟨j,out⟩ a w hI h
 dsimp only at h
 obtain ⟨hI1,hI2⟩:=hI
 have lpp:=(ht.plain hn).len
 have lvv:(zb4 t.parts).length=(za3 t).parts.length:=(List.length_map _).symm
 have lo:out.abs.length≤L+1:=by rw [hI1];exact zgf ht hn j
 have ho:Lb out.abs:=by rw [hI1];exact ZI.lb_of _
 have vo:out.val=zc1 ((za3 t).parts.take j):=by rw [hI1];exact ZI.val_of _
 refine rqk za0 3 [] [(2,vp 1 0),(3,vp 2 0),(9,(vPs (za3 t).parts)),(10,vI ((za3 t).parts.length:Int)),(11,vN j),(12,vb (decide ((j:Int)<((za3 t).parts.length:Int))))] h fun a w h=>?_
 refine wp_seq ?_
 refine zam ((j:Int)<((za3 t).parts.length:Int)) h rfl (fun hc1 hc1'=>?_) (fun hc2 hc2'=>?_)
 ·refine wp_skip (za2 (wp_seq (wp_block ?_)))
  obtain ⟨x2,hx2⟩:=gl ((za3 t).parts) j
  obtain ⟨ox2,lx2⟩:=(ht.plain hn).get hx2
  refine rq za0 3 [(0,.g (xD 13 9 zc3 (zaf hx2 (f:=za4.d)) (OV.tmp 11 _)))] [(2,vp 1 0),(3,vp 2 0),(5,vp 3 0),(9,(vPs (za3 t).parts)),(10,vI ((za3 t).parts.length:Int)),(11,vN j)] [(1,.box [cB false,.d (nsl [])]),(2,.box (zi out)),(3,.box ([cI x2.v]++zi x2.c))] h fun a w h=>?_
  obtain ⟨r3,er3,vr3,or3,lr3⟩:=mkZ (v:=(Nat.gcd out.val.natAbs x2.c.val.natAbs:Int)) (m:=out.abs.length+x2.c.abs.length) (len_gcd ho ox2)
  refine rn za0 4 [(3,.call (Fn.cast (SGcd out x2.c ho ox2 (by omega) (by omega)) (congrArg vz er3.symm)) tt_11)] [(2,vp 1 0),(3,vp 2 0),(9,(vPs (za3 t).parts)),(10,vI ((za3 t).parts.length:Int)),(11,vN j)] [(1,.box [cB false,.d (nsl [])]),(2,.box (zi r3))] h fun a w h=>?_
  refine zaa (za2 (rnk za0 4 [(0,.j1 j)] [(2,vp 1 0),(3,vp 2 0),(9,(vPs (za3 t).parts)),(10,vI ((za3 t).parts.length:Int)),(11,vI ((j:Int)+1))] h fun a w h=>?_))
  refine za2 ?_
  refine zaj (x:=(j,out)) (y:=((j+1),r3)) h ?_ ?_
  ·have:=zag hx2
   exact ⟨by rw [er3,vo,con_take hx2],by omega⟩
  show (za3 t).parts.length - (j+1)<(za3 t).parts.length - j
  have:=zag hx2;omega
 refine wp_exit (zab (zab (za7 (za2 (rq za0 4 [] [(2,vp 1 0)] [(1,.box (zi out))] h fun a w h=>?_)))))
 refine wp_ret ?_
 refine rA 1 (zi out) h zd3 rfl rfl rfl rfl rfl ?_
 have hj:j=(za3 t).parts.length:=by omega
 subst hj
 rw [hI1,List.take_length];first | done | rfl
theorem SRContent (t:zb9) {n L:Nat} (ht:TOk n L t) (hn:n≤1000) (hL:L≤20000):Fn Tryz.prog 99 [] [(vT t)] (vz (ZI.of (zc1 (za3 t).parts))) []:=by
 refine Fn.body Tryz.func99 rfl 24 rfl fun w H B a h=>?_
 refine rq za0 0 [] [(1,vp 0 0),(2,vp 1 0)] [(0,.box (zT t)),(1,.box [cB false,.d (nsl [])])] h fun a w h=>?_
 refine rq za0 2 [] [(1,vp 0 0),(2,vp 1 0),(3,vp 2 0)] [(0,.box (zT t)),(1,.box [cB false,.d (nsl [])]),(2,.box [cB false,.d (nsl [])])] h fun a w h=>?_
 refine rqk za0 3 [(1,.call (SVars t (ht.mono hn (by omega)).psok) tb_8)] [(1,vp 0 0),(2,vp 1 0),(3,vp 2 0),(4,(vIs (zb4 t.parts)))] h fun a w h=>?_
 refine wp_seq (rqk za0 3 [] [(1,vp 0 0),(2,vp 1 0),(3,vp 2 0),(4,(vIs (zb4 t.parts))),(5,vI 0)] h fun a w h=>?_)
 refine wp_block ?_
 refine zau (ι:=(Nat) × (ZI)) (fun (j,out)=>out=ZI.of (zc1 ((za3 t).parts.take j))∧j≤(za3 t).parts.length)
   (fun (j,out)=>[(1,vp 0 0),(2,vp 1 0),(3,vp 2 0),(4,(vIs (zb4 t.parts))),(5,vN j)])
   (fun (j,out)=>[(0,.box (zT t)),(1,.box [cB false,.d (nsl [])]),(2,.box (zi out))])
   (fun (j,out)=>(za3 t).parts.length - j) (0,(ZI.of 0)) ?_ h (by kernel_rfl) (by kernel_rfl) ?_
 ·exact ⟨by simp [zc1],Nat.zero_le _⟩
 clear h;rintro ⟨j,out⟩ a w hI h
 dsimp only at h
 obtain ⟨hI1,hI2⟩:=hI
 have lpp:=(ht.plain hn).len
 have lvv:(zb4 t.parts).length=(za3 t).parts.length:=(List.length_map _).symm
 have lo:out.abs.length≤L+1:=by rw [hI1];exact zgf ht hn j
 have ho:Lb out.abs:=by rw [hI1];exact ZI.lb_of _
 have vo:out.val=zc1 ((za3 t).parts.take j):=by rw [hI1];exact ZI.val_of _
 refine wp_seq (rqk za0 3 [(2,.len (za9 1 zaw (zb4 t.parts)))] [(1,vp 0 0),(2,vp 1 0),(3,vp 2 0),(4,(vIs (zb4 t.parts))),(5,vN j),(12,vb (decide ((j:Int)<((zb4 t.parts).length:Int))))] h fun a w h=>?_)
 refine zam ((j:Int)<((zb4 t.parts).length:Int)) h rfl (fun hc1 hc1'=>?_) (fun hc2 hc2'=>?_)
 ·refine wp_skip (za2 (wp_seq (wp_block ?_)))
  obtain ⟨x2,hx2⟩:=gl (zb4 t.parts) j
  obtain ⟨r3,er3,vr3,or3,lr3⟩:=mkZ (v:=zat t.parts x2) (m:=L+1) (zep (ht.mono hn (Nat.le_refl L)).psok x2)
  obtain ⟨r4,er4,vr4,or4,lr4⟩:=mkZ (v:=(Nat.gcd out.val.natAbs r3.val.natAbs:Int)) (m:=out.abs.length+r3.abs.length) (len_gcd ho or3)
  refine rn za0 3 [(4,.g (xD 19 17 zig (zaf hx2 (f:=zaw)) (OV.tmp 18 _))),(6,.call (Fn.cast (SCoef t x2 (ht.mono hn (by omega)).psok) (congrArg vz er3.symm)) tb_4),(7,.call (Fn.cast (SRGcd out r3 ho or3 (by omega) (by omega)) (congrArg vz er4.symm)) tt_15)] [(1,vp 0 0),(2,vp 1 0),(3,vp 2 0),(4,(vIs (zb4 t.parts))),(5,vN j)] [(0,.box (zT t)),(1,.box [cB false,.d (nsl [])]),(2,.box (zi r4))] h fun a w h=>?_
  refine zaa (za2 (rnk za0 3 [(1,.j1 j)] [(1,vp 0 0),(2,vp 1 0),(3,vp 2 0),(4,(vIs (zb4 t.parts))),(5,vI ((j:Int)+1))] h fun a w h=>?_))
  refine za2 ?_
  have hp2:(za3 t).parts[j]?=some (zcq t.parts x2):=zaf (f:=zcq t.parts) hx2
  refine zaj (x:=(j,out)) (y:=((j+1),r4)) h ?_ ?_
  ·have:=zag hp2
   exact ⟨by rw [er4,vr3,vo,con_take hp2];first | done | (simp only [zcq,ZI.val_of]),by omega⟩
  show (za3 t).parts.length - (j+1)<(za3 t).parts.length - j
  have:=zag hp2;omega
 refine wp_exit (zab (zab (za7 (za2 (rq za0 3 [] [(2,vp 1 0)] [(1,.box (zi out))] h fun a w h=>?_)))))
 refine wp_ret ?_
 refine rA 1 (zi out) h zd3 rfl rfl rfl rfl rfl ?_
 have hj:j=(za3 t).parts.length:=by omega
 subst hj
 rw [hI1,List.take_length];first | done | rfl
end
section
def zib {α:Type} (pr:α→Bool):List α→Nat→Int
  | [],_=>-1
  | p :: ps,n=>if pr p=true then n else zib pr ps (n+1)
theorem zhl {α:Type} {pr:α→Bool} {xs:List α} {j:Nat} {p:α} (h:xs[j]?=some p):zib pr (xs.drop j) j=if pr p=true then (j:Int) else zib pr (xs.drop (j+1)) (j+1):=by
 obtain ⟨hj,rfl⟩:=List.getElem?_eq_some_iff.1 h
 rw [List.drop_eq_getElem_cons hj];rfl
structure zac where
  t:zb9
  eq:Bool
def zac.d (x:zac):List D:=[.sl 3 (x.t.parts.map za4.d),.raw (.bool x.t.k.neg),nsl x.t.k.abs,.raw (.bool x.eq)]
inductive za1 where
  | mk (kind:Int) (r:zac) (kids:List za1)
def za1.kind:za1→Int | ⟨k,_,_⟩=>k
def za1.r:za1→zac | ⟨_,r,_⟩=>r
def za1.kids:za1→List za1 | ⟨_,_,ks⟩=>ks
theorem za1.ind {P:za1→Prop} (h:∀ k r ks,(∀ g ∈ ks,P g)→P ⟨k,r,ks⟩) (f:za1):P f :=
 za1.rec (motive_1:=P) (motive_2:=fun ks=>∀ g ∈ ks,P g) h (fun g hg=>(by cases hg)) (fun a l ha has g hg=>(List.mem_cons.1 hg).elim (fun e=>e ▸ ha) (has g)) f
def za1.fold {α:Type} (g:Int→zac→List za1→List α→α):za1→α
  | ⟨k,r,ks⟩=>g k r ks (ks.attach.map fun x=>za1.fold g x.1)
  termination_by f=>SizeOf.sizeOf f
  decreasing_by have:=List.sizeOf_lt_of_mem x.2;simp;omega
theorem za1.fold_mk {α:Type} (g:Int→zac→List za1→List α→α) (k:Int) (r:zac) (ks:List za1):za1.fold g ⟨k,r,ks⟩=g k r ks (ks.map (za1.fold g)):=by
 rw [za1.fold,List.attach_map_val]
theorem za1.fold_eq {α:Type} (g:Int→zac→List za1→List α→α) (f:za1):za1.fold g f=g f.kind f.r f.kids (f.kids.map (za1.fold g)):=by cases f;exact za1.fold_mk g _ _ _
def za1.d (f:za1):List D:=f.fold fun k r _ ds=>[.raw (.int .i64 k),.sl 3 (r.t.parts.map za4.d),.raw (.bool r.t.k.neg),nsl r.t.k.abs,.raw (.bool r.eq),.sl 6 ds]
theorem za1.d_eq (f:za1):f.d=[.raw (.int .i64 f.kind),.sl 3 (f.r.t.parts.map za4.d),.raw (.bool f.r.t.k.neg),nsl f.r.t.k.abs,.raw (.bool f.r.eq),.sl 6 (f.kids.map za1.d)]:=za1.fold_eq _ f
theorem za1.d_len (f:za1):f.d.length=6:=by rw [za1.d_eq];rfl
structure BoundD where
  is_:Bool
  lo:ZI
  hi:ZI
def BoundD.d (x:BoundD):List D:=[.raw (.bool x.is_),.raw (.bool x.lo.neg),nsl x.lo.abs,.raw (.bool x.hi.neg),nsl x.hi.abs]
structure MoveD where
  v:Int
  any:Bool
  t:zb9
def MoveD.d (x:MoveD):List D:=[.raw (.int .i64 x.v),.raw (.bool x.any),.sl 3 (x.t.parts.map za4.d),.raw (.bool x.t.k.neg),nsl x.t.k.abs]
structure ActD where
  proc:Int
  from_:Int
  to_:Int
  guard:za1
  moves:List MoveD
def ActD.d (x:ActD):List D:=[.raw (.int .i64 x.proc),.raw (.int .i64 x.from_),.raw (.int .i64 x.to_),.raw (.int .i64 x.guard.kind),.sl 3 (x.guard.r.t.parts.map za4.d),.raw (.bool x.guard.r.t.k.neg),nsl x.guard.r.t.k.abs,.raw (.bool x.guard.r.eq),.sl 6 (x.guard.kids.map za1.d),.sl 5 (x.moves.map MoveD.d)]
structure ProcD where
  name:ByteArray
  locs:List ByteArray
  cmds:D
def ProcD.d (x:ProcD):List D:=[.raw (.string x.name),.sl 1 (x.locs.map strD),x.cmds]
structure SysD where
  vars:List ByteArray
  bounds:List BoundD
  init:za1
  procs:List ProcD
  acts:List ActD
structure StD where
  locs:List Int
  vals:List ZI
def StD.d (x:StD):List D:=[.sl 1 (x.locs.map zaw),.sl 2 (x.vals.map ziD)]
structure zai where
  at_:Bool
  proc:Int
  loc:Int
  f:za1
def zai.d (x:zai):List D:=[.raw (.bool x.at_),.raw (.int .i64 x.proc),.raw (.int .i64 x.loc),.raw (.int .i64 x.f.kind),.sl 3 (x.f.r.t.parts.map za4.d),.raw (.bool x.f.r.t.k.neg),nsl x.f.r.t.k.abs,.raw (.bool x.f.r.eq),.sl 6 (x.f.kids.map za1.d)]
abbrev sysC (s:SysD):List C:=([.d (.sl 1 (s.vars.map strD)),.d (.sl 5 (s.bounds.map BoundD.d)),.d (.raw (.int .i64 s.init.kind)),.d (.sl 3 (s.init.r.t.parts.map za4.d))]++zi s.init.r.t.k++[.d (.raw (.bool s.init.r.eq)),.d (.sl 6 (s.init.kids.map za1.d)),.d (.sl 3 (s.procs.map ProcD.d)),.d (.sl 10 (s.acts.map ActD.d))])
abbrev zF (x:za1):List C:=[.d (.raw (.int .i64 x.kind)),.d (.sl 3 (x.r.t.parts.map za4.d))]++zi x.r.t.k++[.d (.raw (.bool x.r.eq)),.d (.sl 6 (x.kids.map za1.d))]
abbrev zR_ (x:zac):List C:=[.d (.sl 3 (x.t.parts.map za4.d))]++zi x.t.k++[.d (.raw (.bool x.eq))]
abbrev vF (x:za1):V:=.t (.agg (zF x))
abbrev vR (x:zac):V:=.t (.agg (zR_ x))
abbrev vFs (x:List za1):V:=.t (.c (.d (.sl 6 (x.map za1.d))))
abbrev vRs (x:List zac):V:=.t (.c (.d (.sl 4 (x.map zac.d))))
abbrev cFs (x:List za1):C:=.d (.sl 6 (x.map za1.d))
abbrev cRs (x:List zac):C:=.d (.sl 4 (x.map zac.d))
end
section
open Go.RowKit

theorem zhj:SlT Tryz.prog 58 60 6:=SlT.mk' Tryz.underlying58 (by kernel_rfl)
theorem kb_1:ElZ Tryz.prog 58 60 6:=ElZ.mk' Tryz.underlying58 _ _ rfl rfl (by kernel_rfl) (by kernel_rfl) (by kernel_rfl) (by decide)
section
variable {P:Program}
theorem zed.fnc {t:TypeId} {z:C} {dd:TypeDesc} (hu:P.underlying t=some dd) (ha:(match dd with | .struct _ | .array _ _=>true | _=>false)=false) (hs:(P.info? t).map (·.size)=some 1) (hz:Zero P t [z]):zed P t ⟨1,false,[],[z],4⟩ :=
 ⟨Sz.mk' hs hu _ ha.symm,fun k off n ag h=>(by simp at h),fun _=>hz,fun h=>absurd rfl h,fun h=>(by cases h),fun h=>(by cases h),fun h=>(by cases h),fun k h=>(by cases h)⟩
theorem Op.makeFs {d:Nat} {fn:Go.Fn} (ts:List (Nat × Nat × Nat)) {ty:TypeId} {pos af gd} :
  zbg P ⟨some d,.makeFunc fn #[] ⟨ts.map fun p => .tmp p.1⟩,ty,pos,af,gd⟩ { rs:=ts.map fun p=>(p.1,vp p.2.1 p.2.2),ws:=[(d,some (.t (.c (.fn fn [] (ts.map fun p=>A.ptr p.2.1 p.2.2)))))] } :=
 zbg.value d _ rfl rfl rfl fun e f H B a w hok hr=>by
  refine ⟨.func fn #[] ⟨ts.map fun p=>a.eval (.tmp p.1)⟩,?_,[],ts.map fun p=>a.eval (.tmp p.1),rfl,trivial,?_⟩
  ·simp [execOp,Instr.makeFunc,Function.comp_def]
  ·have h1:∀ p ∈ ts,AR H B (.ptr p.2.1 p.2.2) (a.eval (.tmp p.1)):=fun p hp=>hok.slot p.1 _ (hr.1 (p.1,vp p.2.1 p.2.2) (List.mem_map.2 ⟨p,hp,rfl⟩))
   clear hr
   induction ts with
   | nil=>trivial
   | cons p ts ih=>exact ⟨h1 p (by simp),ih fun q hq=>h1 q (by simp [hq])⟩
end
theorem all_take {α:Type} {q:α→Bool} {xs:List α} {j:Nat} {x:α} (h:xs[j]?=some x):(xs.take (j+1)).all q=((xs.take j).all q && q x):=by
 have e:xs.take (j+1)=xs.take j++[x]:=by rw [List.take_add_one,h];rfl
 rw [e,List.all_append];simp
theorem zbi {α:Type} {q:α→Bool} {xs:List α} {j:Nat} {x:α} (h:xs[j]?=some x) (h1:(xs.take j).all q=true) (h2:q x=true):(xs.take (j+1)).all q=true:=by rw [all_take h,h1,h2];rfl
theorem zbs {α:Type} {q:α→Bool} {xs:List α} {j:Nat} {x:α} (h:xs[j]?=some x) (h2:q x=false):xs.all q=false:=by
 cases h3:xs.all q with
 | false=>rfl
 | true=>rw [List.all_eq_true.1 h3 x (List.mem_of_getElem? h)] at h2;cases h2
theorem zdf {α:Type} {q:α→Bool} {xs:List α} {j:Nat} (hj:¬ (j:Int)<(xs.length:Int)) (h1:(xs.take j).all q=true):xs.all q=true:=by rwa [List.take_of_length_le (by omega)] at h1
theorem any_step {α:Type} {q:α→Bool} {xs:List α} {j:Nat} {x:α} (h:xs[j]?=some x) (h1:(xs.take j).any q=false) (h2:q x=false):(xs.take (j+1)).any q=false:=by
 have e:xs.take (j+1)=xs.take j++[x]:=by rw [List.take_add_one,h];rfl
 rw [e,List.any_append,h1];simp [h2]
theorem any_stop {α:Type} {q:α→Bool} {xs:List α} {j:Nat} {x:α} (h:xs[j]?=some x) (h2:q x=true):xs.any q=true:=List.any_eq_true.2 ⟨x,List.mem_of_getElem? h,h2⟩
theorem any_end {α:Type} {q:α→Bool} {xs:List α} {j:Nat} (hj:¬ (j:Int)<(xs.length:Int)) (h1:(xs.take j).any q=false):xs.any q=false:=by rwa [List.take_of_length_le (by omega)] at h1
def cnt {α:Type} (k:Int) (xs:List α):List α:=if k=4∨k=5 then xs else if k=3 then xs.take 1 else []
theorem ze4 {α β:Type} (g:α→β) (k:Int) (xs:List α):cnt k (xs.map g)=(cnt k xs).map g:=by unfold cnt;split;rfl;split;rw [List.map_take];rfl
theorem zce {α:Type} {k:Int} {xs:List α} {x:α} (h:x ∈ cnt k xs):x ∈ xs:=by
 unfold cnt at h
 split at h
 ·exact h
 ·split at h
  ·exact List.mem_of_mem_take h
  ·cases h
theorem cnt_len {α:Type} (k:Int) (xs:List α):(cnt k xs).length≤xs.length:=by
 unfold cnt;split;exact Nat.le_refl _;split;rw [List.length_take];omega;exact Nat.zero_le _
def zcl (lim:Int):List (Int→Int)→Int→Int
  | [],n=>n
  | s :: ss,n=>if n≤lim then zcl lim ss (n+s (lim - n)) else n
def za1.size (f:za1):Int→Int:=f.fold fun k _ _ ss lim=>zcl lim (cnt k ss) 1
theorem za1.size_eq (f:za1) (lim:Int):f.size lim=zcl lim ((cnt f.kind f.kids).map za1.size) 1:=by
 have:=congrFun (za1.fold_eq (fun k _ _ (ss:List (Int→Int)) lim=>zcl lim (cnt k ss) 1) f) lim
 rw [ze4] at this;exact this
theorem sizeGo_bd {lim:Int}:∀ (ss:List (Int→Int)) (n:Int),(∀ s ∈ ss,∀ l,0≤l→1≤s l∧s l≤l+1)→1≤n→n≤lim+1→1≤zcl lim ss n∧zcl lim ss n≤lim+1
 | [],n,_,h1,h2=>⟨h1,h2⟩
 | s :: ss,n,h,h1,h2=>by
  unfold zcl
  split
  ·rename_i hn
   have:=h s (by simp) (lim - n) (by omega)
   exact sizeGo_bd ss _ (fun t ht=>h t (by simp [ht])) (by omega) (by omega)
  ·exact ⟨h1,h2⟩
theorem za1.size_bd (f:za1):∀ lim:Int,0≤lim→1≤f.size lim∧f.size lim≤lim+1 :=
 za1.ind (P:=fun f=>∀ lim:Int,0≤lim→1≤f.size lim∧f.size lim≤lim+1) (fun k r ks ih lim hl=>by
  rw [za1.size_eq]
  refine sizeGo_bd _ _ (fun s hs=>?_) (by omega) (by omega)
  obtain ⟨g,hg,rfl⟩:=List.mem_map.1 hs
  exact ih g (zce hg)) f
theorem sizeGo_at {lim n:Int} {ss:List (Int→Int)} {j:Nat} {s:Int→Int} (h:ss[j]?=some s) (hn:n≤lim):zcl lim (ss.drop j) n=zcl lim (ss.drop (j+1)) (n+s (lim - n)):=by
 obtain ⟨hj,rfl⟩:=List.getElem?_eq_some_iff.1 h
 rw [List.drop_eq_getElem_cons hj,zcl,if_pos hn]
theorem sizeGo_out {lim n:Int} {ss:List (Int→Int)} (h:¬ n≤lim∨ss=[]):zcl lim ss n=n:=by
 cases ss with
 | nil=>rfl
 | cons s ss=>rw [zcl,if_neg (h.resolve_right (by simp))]
def fewR (L:Int) (r:zac):Bool:=decide ((r.t.parts.length:Int)≤20) && decide ((r.t.k.abs.length:Int)≤L) && r.t.parts.all fun p=>decide ((p.c.abs.length:Int)≤L)
def za1.few (L:Int) (f:za1):Bool:=f.fold fun k r _ bs=>(!(k == 2) || fewR L r) && (cnt k bs).all id
theorem za1.few_eq (L:Int) (f:za1):f.few L=((!(f.kind == 2) || fewR L f.r) && (cnt f.kind f.kids).all (za1.few L)):=by
 have:=za1.fold_eq (fun k r _ (bs:List Bool)=>(!(k == 2) || fewR L r) && (cnt k bs).all id) f
 rw [ze4,List.all_map] at this;exact this
def fewF (f:za1) (most L:Int):Bool:=!decide (f.size most>most) && f.few L
def zar (vs:List ZI) (r:zac):Bool:=if r.eq=true then sgn (valT r.t vs) == 0 else decide (sgn (valT r.t vs)≥0)
def za1.holds (vs:List ZI) (f:za1):Bool:=f.fold fun k r _ bs=>if k=0 then true else if k=2 then zar vs r else if k=3 then (match bs with | []=>false | b :: _=>!b) else if k=4 then bs.all id else if k=5 then bs.any id else false
theorem za1.holds_eq (vs:List ZI) (f:za1):f.holds vs=if f.kind=0 then true else if f.kind=2 then zar vs f.r else if f.kind=3 then (match f.kids with | []=>false | g :: _=>!g.holds vs) else if f.kind=4 then f.kids.all (za1.holds vs) else if f.kind=5 then f.kids.any (za1.holds vs) else false:=by
 have:=za1.fold_eq (fun k r _ (bs:List Bool)=>if k=0 then true else if k=2 then zar vs r else if k=3 then (match bs with | []=>false | b :: _=>!b) else if k=4 then bs.all id else if k=5 then bs.any id else false) f
 rw [List.all_map,List.any_map] at this
 refine this.trans ?_
 cases f.kids <;> rfl
def TokR (L:Nat) (r:zac):Prop:=TOk 20 L r.t
def za1.ok (L:Nat) (f:za1):Prop:=f.fold fun k r _ ps=>(k=2→TokR L r)∧∀ p ∈ cnt k ps,p
theorem za1.ok_eq (L:Nat) (f:za1):f.ok L ↔ (f.kind=2→TokR L f.r)∧∀ g ∈ cnt f.kind f.kids,g.ok L:=by
 have:=za1.fold_eq (fun k r _ (ps:List Prop)=>(k=2→TokR L r)∧∀ p ∈ cnt k ps,p) f
 rw [ze4] at this
 unfold za1.ok
 rw [this]
 refine and_congr_right fun _=>⟨fun h g hg=>h _ (List.mem_map.2 ⟨g,hg,rfl⟩),fun h p hp=>?_⟩
 obtain ⟨g,hg,rfl⟩:=List.mem_map.1 hp
 exact h g hg
def za1.lb (f:za1):Prop:=f.fold fun _ r ks ps=>(TLb r.t∧ks.length≤9223372036854775807)∧∀ p ∈ ps,p
theorem za1.lb_eq (f:za1):f.lb ↔ (TLb f.r.t∧f.kids.length≤9223372036854775807)∧∀ g ∈ f.kids,g.lb:=by
 have:=za1.fold_eq (fun _ r ks (ps:List Prop)=>(TLb r.t∧ks.length≤9223372036854775807)∧∀ p ∈ ps,p) f
 unfold za1.lb
 rw [this]
 refine and_congr_right fun _=>⟨fun h g hg=>h _ (List.mem_map.2 ⟨g,hg,rfl⟩),fun h p hp=>?_⟩
 obtain ⟨g,hg,rfl⟩:=List.mem_map.1 hp
 exact h g hg
theorem fewR_ok {L:Nat} {r:zac} (h:fewR L r=true) (hl:TLb r.t):TokR L r:=by
 simp only [fewR,Bool.and_eq_true,decide_eq_true_eq,List.all_eq_true] at h
 exact ⟨by omega,fun p hp=>⟨hl.2 p hp,by have:=h.2 p hp;omega⟩,hl.1,by omega⟩
theorem za1.few_ok {L:Nat} (f:za1):f.few L=true→f.lb→f.ok L :=
 za1.ind (P:=fun f=>f.few L=true→f.lb→f.ok L) (fun k r ks ih h hl=>by
  rw [za1.few_eq,Bool.and_eq_true] at h
  rw [za1.lb_eq] at hl
  rw [za1.ok_eq]
  refine ⟨fun hk=>fewR_ok (by have:=h.1;rw [show ((za1.mk k r ks).kind == 2)=true from by rw [hk];rfl] at this;simpa using this) hl.1.1,fun g hg=>ih g (zce hg) (List.all_eq_true.1 h.2 g hg) (hl.2 g (zce hg))⟩) f
theorem SKids (f:za1) :Fn Tryz.prog 89 [] [(vF f)] (vFs (cnt f.kind f.kids)) []:=by
 refine Fn.body Tryz.func89 rfl 26 rfl fun w H B a h=>?_
 refine rq za0 0 [] [(1,vp 0 0),(2,.t (.c (.d (.raw zae))))] [(0,.box (zF f))] h fun a w h=>?_
 refine wp_seq ?_
 rcases Bool.eq_false_or_eq_true (f.kind == 4) with hc | hc
 ·have hc1:=hc;clear hc
  have hc1':=hc1;(try simp at hc1')
  refine rqk za0 1 [(2,.cmp (op:=.eql) (m:=f.kind) (n:=4) (b:=true) .i64 hc1)] [(1,vp 0 0),(2,.t (.c (.d (.raw zae)))),(10,vb true)] h fun a w h=>?_
  refine zah true h rfl (fun _=>?_) nofun
  refine rqk za0 1 [] [(1,vp 0 0),(2,(vFs f.kids))] h fun a w h=>?_
  refine wp_ret (za8 ?_)
  refine rT (.c (cFs f.kids)) h rfl rfl ?_
  have p4: f.kind=4:=by have:=hc1;simpa using this
  have hz:(cnt f.kind f.kids)=f.kids:=by unfold cnt;rw [if_pos (by omega)]
  rw [hz];first | done | rfl
 have hc2:=hc;clear hc
 have hc2':=hc2;(try simp at hc2')
 refine rqk za0 1 [(2,.cmp (op:=.eql) (m:=f.kind) (n:=4) (b:=false) .i64 hc2)] [(1,vp 0 0),(2,.t (.c (.d (.raw zae)))),(10,vb (f.kind == 5))] h fun a w h=>?_
 refine zah (f.kind == 5) h rfl (fun hc3=>?_) (fun hc4=>?_)
 ·have hc3':=hc3;(try simp at hc3')
  refine rqk za0 1 [] [(1,vp 0 0),(2,(vFs f.kids))] h fun a w h=>?_
  refine wp_ret (za8 ?_)
  refine rT (.c (cFs f.kids)) h rfl rfl ?_
  have p4:¬ f.kind=4:=by have:=hc2;simpa using this
  have p5: f.kind=5:=by have:=hc3;simpa using this
  have hz:(cnt f.kind f.kids)=f.kids:=by unfold cnt;rw [if_pos (by omega)]
  rw [hz];first | done | rfl
 have hc4':=hc4;(try simp at hc4')
 refine wp_skip (za2 (wp_seq ?_))
 rcases Bool.eq_false_or_eq_true (f.kind == 3) with hc | hc
 ·have hc5:=hc;clear hc
  have hc5':=hc5;(try simp at hc5')
  refine rqk za0 1 [(2,.cmp (op:=.eql) (m:=f.kind) (n:=3) (b:=true) .i64 hc5),(6,.len (za9 6 za1.d f.kids))] [(1,vp 0 0),(2,.t (.c (.d (.raw zae)))),(21,vb (decide ((f.kids.length:Int)>0)))] h fun a w h=>?_
  refine zam ((f.kids.length:Int)>0) h rfl (fun hc6 hc6'=>?_) (fun hc7 hc7'=>?_)
  ·refine rq za0 1 [(2,.g (Op.sliceD (d:=24) (t:=23) (l:=0) (h:=1) (rows:=f.kids.map za1.d) (rows':=(f.kids.take 1).map za1.d) zhj (BO.no _) (BO.yes _ (OV.const (.int .i64 1) rfl)) (by first | omega | (simp at *;omega)) (by first | omega | (simp only [List.length_map];omega) | (simp at *;omega)) (by simp [List.map_take])))] [(2,(vFs (f.kids.take 1)))] [] h fun a w h=>?_
   refine wp_ret (za8 ?_)
   refine rT (.c (cFs (f.kids.take 1))) h rfl rfl ?_
   have p4:¬ f.kind=4:=by have:=hc2;simpa using this
   have p5:¬ f.kind=5:=by have:=hc4;simpa using this
   have p3: f.kind=3:=by have:=hc5;simpa using this
   have hz:(cnt f.kind f.kids)=(f.kids.take 1):=by unfold cnt;rw [if_neg (by omega),if_pos (by omega)]
   rw [hz];first | done | rfl
  refine wp_skip (za2 (rq za0 1 [(0,.g (Op.buildED (d:=25) kb_1))] [(2,(vFs []))] [] h fun a w h=>?_))
  refine wp_ret ?_
  refine rT (.c (cFs [])) h rfl rfl ?_
  have p4:¬ f.kind=4:=by have:=hc2;simpa using this
  have p5:¬ f.kind=5:=by have:=hc4;simpa using this
  have p3: f.kind=3:=by have:=hc5;simpa using this
  have hz:(cnt f.kind f.kids)=[]:=by unfold cnt;rw [if_neg (by omega),if_pos (by omega),List.length_eq_zero_iff.1 (show f.kids.length=0 by have:=dF hc7;omega)];rfl
  rw [hz];first | done | rfl
 have hc8:=hc;clear hc
 have hc8':=hc8;(try simp at hc8')
 refine rqk za0 1 [(2,.cmp (op:=.eql) (m:=f.kind) (n:=3) (b:=false) .i64 hc8)] [(1,vp 0 0),(2,.t (.c (.d (.raw zae)))),(21,vb false)] h fun a w h=>?_
 refine zah false h rfl nofun (fun _=>?_)
 refine wp_skip (za2 (rq za0 1 [(0,.g (Op.buildED (d:=25) kb_1))] [(2,(vFs []))] [] h fun a w h=>?_))
 refine wp_ret ?_
 refine rT (.c (cFs [])) h rfl rfl ?_
 have p4:¬ f.kind=4:=by have:=hc2;simpa using this
 have p5:¬ f.kind=5:=by have:=hc4;simpa using this
 have p3:¬ f.kind=3:=by have:=hc8;simpa using this
 have hz:(cnt f.kind f.kids)=[]:=by unfold cnt;rw [if_neg (by omega),if_neg (by omega)]
 rw [hz];first | done | rfl
end
section
open Go.RowKit

theorem St.pubK {w0:World} {H0:Im} {B0:Bl} {K:List Nat} {N:Nat} {f:F} {a:Act} {w:World} (h:St ⟨w0,H0,B0,K,N⟩ f a w) (n es:Nat) (ty:TypeId) (rows:List (List D)) (hl:f.l n=some (.row ty es rows)) (hK:∀ k ∈ K,k≠n∧∃ l,f.l k=some l)
  (h1:∀ t v,f.s t=some v→∀ k ∈ v.owns n,k=rows.length) (h2:∀ m l,f.l m=some l→∀ k ∈ l.owns n,k=rows.length):St ⟨w0,H0,B0,K,N⟩ (f.pub n es rows) a w:=by
 obtain ⟨H,B,hok⟩:=h
 have hLR:=hok.loc n _ hl
 -- what stays from here on
 obtain ⟨H', hle,hH', hcell⟩:∃ H':Im,Le H H'∧(∀ b o,H' b=some o→H b=some o∨(w.heap[b]?=some o∧∃ c,B n=some (b,c))) ∧
   (∀ (x:C) (v:Value),(∀ k ∈ x.owns n,k=rows.length)→CR H B x v→CR H' B (x.pub n es rows) v):=by
  have keepC:∀ {H':Im} (hle:Le H H'),(∀ v,CR H B (.own n rows.length) v→DR H' (.sl es rows) v)→∀ (x:C) (v:Value),(∀ k ∈ x.owns n,k=rows.length)→CR H B x v→CR H' B (x.pub n es rows) v:=by
   intro H' hle hown x v hk hx
   cases x with
   | own m k =>
    simp only [C.pub]
    split
    ·rename_i e1
     have e1:=Nat.eq_of_beq_eq_true e1
     subst e1
     have:=hk k (by simp [C.owns])
     subst this
     exact hown v hx
    ·exact CR.mono hle (fun _ _=>rfl) hx
   | ptr m o =>
    simp only [C.pub]
    split
    ·exact CR.flat hx
    ·exact CR.mono hle (fun _ _=>rfl) hx
   | sub m o k =>
    simp only [C.pub]
    split
    ·exact CR.flat hx
    ·exact CR.mono hle (fun _ _=>rfl) hx
   | d x=>exact CR.mono hle (fun _ _=>rfl) hx
   | el x=>exact CR.mono hle (fun _ _=>rfl) hx
   | fn f' x y=>exact CR.mono hle (fun _ _=>rfl) hx
   | any=>exact hx
  cases hB:B n with
  | none =>
   simp only [LR,hB] at hLR
   subst hLR
   refine ⟨H,Le.refl _,fun b o h => .inl h,keepC (Le.refl _) fun v hv=>?_⟩
   simp only [CR,hB] at hv
   obtain ⟨_,ao,hv⟩:=hv
   rw [hv]
   exact .nil es ao 0 (fun _=>rfl) (Nat.zero_le _)
  | some p =>
   obtain ⟨b,c⟩:=p
   obtain ⟨arr,g1,g2,g3,g4,g5,g6⟩:=hok.row hl hB
   have hnone:=(hok.priv n _ b c hl hB).2.1
   have hle:Le H (fun x=>if x=b then some (.cells ⟨arr⟩ ty (0,0)) else H x):=by
    intro x o hx
    have:x≠b:=fun e=>by rw [e,hnone] at hx;cases hx
    simp [this,hx]
   refine ⟨fun x=>if x=b then some (.cells ⟨arr⟩ ty (0,0)) else H x,hle,?_,keepC hle fun v hv=>?_⟩
   ·intro x o hx
    by_cases e:x=b
    ·subst e
     simp only [if_true] at hx
     exact .inr ⟨by rw [g1];exact hx,c,rfl⟩
    ·simp [e] at hx;exact .inl hx
   ·simp only [CR,hB] at hv
    rw [hv]
    exact row_data (arr:=arr) (ty:=ty) (if_pos rfl) g3 g4 g5 fun i r hr f' x hx=>by
     obtain ⟨u,k1,k2⟩:=g6 i r hr f' x hx
     exact ⟨u,k1,k2.mono hle⟩
 have hT:∀ (x:T) (v:Value),(∀ k ∈ x.owns n,k=rows.length)→TR H B x v→TR H' B (x.pub n es rows) v:=by
  intro x v hk hx
  cases x with
  | c x=>exact hcell x v hk hx
  | agg cs =>
   obtain ⟨vs,hv,hx⟩:=hx
   refine ⟨vs,hv,zba.iff.2 ⟨by rw [List.length_map];exact hx.length,fun j a' b' ha hb=>?_⟩⟩
   rw [List.getElem?_map] at ha
   cases hj:cs[j]? with
   | none=>rw [hj] at ha;cases ha
   | some y =>
    rw [hj] at ha
    injection ha with ha
    subst ha
    exact hcell y b' (fun k hk2=>hk k (by simp only [T.owns,List.mem_flatMap];exact ⟨y,List.mem_of_getElem? hj,hk2⟩)) ((zba.iff.1 hx).2 j y b' hj hb)
 refine ⟨H', B,hok.df,hok.n,hok.ext,?_,?_,?_,?_,?_,?_,hok.le.trans hle,hok.keep⟩
 ·intro b o hb
  rcases hH' b o hb with h' | ⟨h', _⟩
  ·exact hok.sat b o h'
  ·exact h'
 ·intro t v hv
  simp only [F.pub,Option.map_eq_some_iff] at hv
  obtain ⟨x,hx,rfl⟩:=hv
  have hR:=hok.slot t x hx
  have hk:=h1 t x hx
  cases x with
  | t x=>exact hT x _ hk hR
  | tup xs =>
   obtain ⟨vs,hv,hx2⟩:=hR
   refine ⟨vs,hv,zba.iff.2 ⟨by rw [List.length_map];exact hx2.length,fun j a' b' ha hb=>?_⟩⟩
   rw [List.getElem?_map] at ha
   cases hj:xs[j]? with
   | none=>rw [hj] at ha;cases ha
   | some y =>
    rw [hj] at ha
    injection ha with ha
    subst ha
    exact hT y b' (fun k hk2=>hk k (by simp only [V.owns,List.mem_flatMap];exact ⟨y,List.mem_of_getElem? hj,hk2⟩)) ((zba.iff.1 hx2).2 j y b' hj hb)
 ·intro m l hm
  simp only [F.pub] at hm
  split at hm
  ·cases hm
  ·simp only [Option.map_eq_some_iff] at hm
   obtain ⟨x,hx,rfl⟩:=hm
   have hR:=hok.loc m x hx
   have hk:=h2 m x hx
   cases x with
   | box cs =>
    obtain ⟨b,c,arr,ty', hb,hc,hx2⟩:=hR
    refine ⟨b,c,arr,ty', hb,hc,zba.iff.2 ⟨by rw [List.length_map];exact hx2.length,fun j a' b' ha hb=>?_⟩⟩
    rw [List.getElem?_map] at ha
    cases hj:cs[j]? with
    | none=>rw [hj] at ha;cases ha
    | some y =>
     rw [hj] at ha
     injection ha with ha
     subst ha
     exact hcell y b' (fun k hk2=>hk k (by simp only [L.owns,List.mem_flatMap];exact ⟨y,List.mem_of_getElem? hj,hk2⟩)) ((zba.iff.1 hx2).2 j y b' hj hb)
   | row ty' es' rows'=>exact LR.mono hle rfl (fun _ _=>rfl) (fun _ _ _=>rfl) hR
   | bld ty' c' =>
    obtain ⟨b,k,v1,v2,hb,hc,g1,g0,g2⟩:=hR
    exact ⟨b,k,v1,v2,hb,hc,g1,g0,hcell c' v2 (fun k hk2=>hk k hk2) g2⟩
 ·intro m l b c hm hb
  simp only [F.pub] at hm
  split at hm
  ·cases hm
  ·rename_i hne
   simp only [Option.map_eq_some_iff] at hm
   obtain ⟨x,hx,rfl⟩:=hm
   obtain ⟨p1,p2,p3⟩:=hok.priv m x b c hx hb
   refine ⟨p1,?_,p3⟩
   cases hq:H' b with
   | none=>rfl
   | some o =>
    rcases hH' b o hq with h' | ⟨_,c', h'⟩
    ·rw [p2] at h';cases h'
    ·have:=hok.inj m n x _ b c c' hx hl hb h'
     subst this
     simp at hne
 ·intro m k l l' b c c' hm hk hb hb'
  simp only [F.pub] at hm hk
  split at hm
  ·cases hm
  ·split at hk
   ·cases hk
   ·simp only [Option.map_eq_some_iff] at hm hk
    obtain ⟨x,hx,_⟩:=hm
    obtain ⟨y,hy,_⟩:=hk
    exact hok.inj m k x y b c c' hx hy hb hb'
 ·intro b hb
  cases hq:H' b with
  | none =>
   rw [← hok.low b hb]
   cases hr:H b with
   | none=>rfl
   | some o=>rw [hle b o hr] at hq;cases hq
  | some o =>
   rcases hH' b o hq with h' | ⟨_,c', h'⟩
   ·rw [← hok.low b hb,h']
   ·rcases (hok.priv n _ b c' hl h').2.2 with ⟨m,hm,c9,hc9⟩ | h3
    ·obtain ⟨k1,l9,k2⟩:=hK m hm
     exact absurd (hok.inj m n l9 _ b c9 c' k2 hl (by rw [hok.keep m hm];exact hc9) h') k1
    ·exact absurd hb (by simpa using h3)
section
variable {w0:World} {H0:Im} {B0:Bl} {K:List Nat} {N:Nat} {sl:List (Nat × V)} {lc:List (Nat × L)} {a:Act} {w:World}
def keepK (K:List Nat) (n:Nat) (lc:List (Nat × L)):Bool:=K.all fun k=>!Nat.beq k n && (lc.lookup k).isSome
theorem pubSK (n es:Nat) (ty:TypeId) (rows:List (List D)) (sl':List (Nat × V)) (lc':List (Nat × L)) (h:St ⟨w0,H0,B0,K,N⟩ (F.of sl lc) a w) (hl:lc.lookup n=some (.row ty es rows)) (hk:keepK K n lc=true)
  (h1:zbt rows.length (sl.flatMap (·.2.owns n))) (h2:zbt rows.length (lc.flatMap (·.2.owns n))) (h3:leS ((F.of sl lc).pub n es rows) sl'=sl'.map fun p=>some p.2:=by kernel_rfl) (h4:leN ((F.of sl lc).pub n es rows) lc'=lc'.map fun p=>some p.2:=by kernel_rfl) :
  St ⟨w0,H0,B0,K,N⟩ (F.of sl' lc') a w :=
 (h.pubK n es ty rows hl (fun k hk2=>by
  have:=List.all_eq_true.1 hk k hk2
  simp only [Bool.and_eq_true,Bool.not_eq_true'] at this
  refine And.intro (fun e=>?_) ?_
  ·rw [e,Nat.beq_refl] at this
   exact absurd this.1 (by decide)
  ·exact Option.isSome_iff_exists.1 this.2) (fun t v hv k hk=>zbt.mem h1 k (List.mem_flatMap.2 ⟨(t,v),ofS_mem hv,hk⟩)) (fun m l hm k hk=>zbt.mem h2 k (List.mem_flatMap.2 ⟨(m,l),ofL_mem hm,hk⟩))).weaken (zia h3 h4)
end
section
variable {P:Program}
theorem Op.appOO {d t u n n' sn len len2 len' es bs:Nat} {rows rows2 rows':List (List D)} {xt el ty:TypeId} {pos af gd} (hT:ElT P xt el es bs) (hlen:len=rows.length) (hlen2:len2=rows2.length) (hlen':len'=len+rows2.length) (hrow:rows++rows2=rows')
  (hb:(len+rows2.length)*bs≤140737488355328) :
  zbg P ⟨some d,.call { callee:=.builtin .append,args:=#[.tmp t,.tmp u],argTypes:=#[xt,xt] }, ty,pos,af,gd⟩
   { rs:=[(t,.t (.c (.own n len))),(u,.t (.c (.own sn len2)))],rl:=[(n,.row el es rows),(sn,.row el es rows2)],ws:=[(d,some (.t (.c (.own n' len'))))],wl:=[(n', some (.row el es rows')),(n,none)],nw:=[n'] }:=by
 rintro e f a w Q ⟨H,B,hok⟩ hr hnw hb0
 subst hlen hlen2 hlen' hrow
 have hnew:=hnw n' (by simp)
 have hl:=hr.2 (n,.row el es rows) (by simp)
 have h1:CR H B (.own n rows.length) (a.eval (.tmp t)):=hok.slot t _ (hr.1 (t,.t (.c (.own n rows.length))) (by simp))
 have hl2:=hr.2 (sn,.row el es rows2) (by simp)
 have h2:CR H B (.own sn rows2.length) (a.eval (.tmp u)):=hok.slot u _ (hr.1 (u,.t (.c (.own sn rows2.length))) (by simp))
 have hes2:∀ r ∈ rows2,r.length=es:=by
  cases hB:B sn with
  | none=>have:=hok.loc sn _ hl2;simp only [LR,hB] at this;rw [this];intro r hr;cases hr
  | some q=>obtain ⟨_,_,_,_,_,g5,_⟩:=hok.row hl2 hB;exact g5
 have hsrc:(rows2=[]∧∃ ao c,a.eval (.tmp u) = .slice ao 0 c)∨(0<rows2.length∧∃ b c news,a.eval (.tmp u) = .slice (some ⟨b,0,none⟩) rows2.length c∧news.length=rows2.length*es∧(∀ j u,news[j]?=some u→w.cell? ((⟨b,0,none⟩:Addr).add j)=some u)∧RowAt H news es rows2∧(∀ u ∈ news,u.oneCell'=true)):=by
  simp only [CR] at h2
  cases hB:B sn with
  | none=>rw [hB] at h2;obtain ⟨h3,ao,h4⟩:=h2;exact .inl ⟨List.length_eq_zero_iff.1 h3,ao,0,h4⟩
  | some q =>
   obtain ⟨b,c⟩:=q
   rw [hB] at h2
   obtain ⟨arr,g1,g2,g3,g4,g5,g6⟩:=hok.row hl2 hB
   by_cases hz0:rows2.length=0
   ·exact .inl ⟨List.length_eq_zero_iff.1 hz0,_,c,by rw [h2,hz0]⟩
   ·have hle:rows2.length*es≤c*es:=Nat.mul_le_mul_right _ g3
    refine .inr ⟨by omega,b,c,arr.take (rows2.length*es),h2,by rw [List.length_take];omega,fun j u hu=>?_,fun i r hri f x hx2=>?_,fun u hu=>?_⟩
    ·rw [List.getElem?_take] at hu
     split at hu
     ·rw [Addr.add_mid,Nat.zero_add];simp [World.cell?, g1,hu]
     ·cases hu
    ·obtain ⟨u,k1,k2⟩:=g6 i r hri f x hx2
     refine ⟨u,?_,k2⟩
     have hi2:=(List.getElem?_eq_some_iff.1 hri).1
     have hf2:=(List.getElem?_eq_some_iff.1 hx2).1
     rw [g5 r (List.mem_of_getElem? hri)] at hf2
     have:(i+1)*es≤rows2.length*es:=Nat.mul_le_mul_right _ hi2
     rw [Nat.add_mul] at this
     rw [List.getElem?_take,if_pos (by omega)];exact k1
    ·obtain ⟨j,hj⟩:=List.mem_iff_getElem?.1 hu
     have hj1:=(List.getElem?_eq_some_iff.1 hj).1
     rw [List.length_take] at hj1
     have hes0:0<es:=Nat.pos_of_ne_zero fun e=>by simp [e] at hj1
     have h5:j / es<rows2.length:=Nat.div_lt_of_lt_mul (by rw [Nat.mul_comm];omega)
     have h6:j % es<es:=Nat.mod_lt _ hes0
     have h7:(rows2[j / es]'h5).length=es:=g5 _ (List.getElem_mem h5)
     obtain ⟨u2,k1,k2⟩:=g6 (j / es) _ (List.getElem?_eq_getElem h5) (j % es) _ (List.getElem?_eq_getElem (by rw [h7];exact h6))
     have h8:j / es*es+j % es=j:=by rw [Nat.mul_comm];exact Nat.div_add_mod j es
     rw [h8] at k1
     rw [List.getElem?_take,if_pos (by omega),k1] at hj
     injection hj with hj
     subst hj
     exact zgx (DR.flat k2)
 obtain ⟨i,z,hi,hz,hsz,hby,hzs⟩:=hT.ex
 have hne:n≠n':=fun e=>by have:=hnew.2.1;rw [← e,hl] at this;cases this
 have hlr:=hok.loc n _ hl
 have hml:rows.length+rows2.length≤maxLen:=by
  have:(rows.length+rows2.length)*1≤(rows.length+rows2.length)*bs:=Nat.mul_le_mul_left _ hT.bpos
  simp only [maxLen];omega
 -- the run, the new block
 have main:∃ v w' p,(Builtin.append_ #[xt,xt] ty #[a.eval (.tmp t),a.eval (.tmp u)]).run P w = .ok v w'∧CR H (fun x=>if x=n' then p else B x) (.own n' (rows.length+rows2.length)) v ∧
   LR H (fun x=>if x=n' then p else B x) w' n' (.row el es (rows++rows2))∧w'.os=w.os∧w'.tape=w.tape∧w'.output=w.output∧w.heap.size≤w'.heap.size∧(∀ k,k<w.heap.size→(∀ c,B n≠some (k,c))→w'.heap[k]?=w.heap[k]?) ∧
   (∀ b c,p=some (b,c)→b<w'.heap.size∧((∃ c', B n=some (b,c'))∨w.heap.size≤b)):=by
  generalize a.eval (.tmp t)=vt at h1
  generalize a.eval (.tmp u)=vu at hsrc
  -- nothing is added
  have empty:∀ ao c,rows2=[]→∃ v w' p,(Builtin.append_ #[xt,xt] ty #[vt,.slice ao 0 c]).run P w = .ok v w'∧CR H (fun x=>if x=n' then p else B x) (.own n' (rows.length+rows2.length)) v ∧
    LR H (fun x=>if x=n' then p else B x) w' n' (.row el es (rows++rows2))∧w'.os=w.os∧w'.tape=w.tape∧w'.output=w.output∧w.heap.size≤w'.heap.size∧(∀ k,k<w.heap.size→(∀ c,B n≠some (k,c))→w'.heap[k]?=w.heap[k]?) ∧
    (∀ b c,p=some (b,c)→b<w'.heap.size∧((∃ c', B n=some (b,c'))∨w.heap.size≤b)):=by
   rintro ao c rfl
   have hrun:∀ base m cap,m≤cap→(Builtin.append_ #[xt,xt] ty #[.slice base m cap,.slice ao 0 c]).run P w = .ok (.slice base m cap) w:=by
    intro base m cap hmc
    cases ao <;> cases base <;> simp [Builtin.append_,run_underlying hT.hu,sizeOf,typeInfo,hi,Builtin.lenOf,hmc,Builtin.firstCells,loadCells,loadCellsFrom,storeCells]
   refine ⟨vt,w,B n,?_,?_,?_,rfl,rfl,rfl,Nat.le_refl _,fun _ _ _=>rfl,fun b c hb=>⟨(hok.priv n _ b c hl hb).1,.inl ⟨c,hb⟩⟩⟩
   ·simp only [CR] at h1
    cases hB:B n with
    | none=>rw [hB] at h1;obtain ⟨_,ao0,h1⟩:=h1;rw [h1];exact hrun ao0 0 0 (Nat.le_refl _)
    | some q =>
     obtain ⟨b,cc⟩:=q
     rw [hB] at h1
     obtain ⟨arr,g1,g2,g3,g4,g5,g6⟩:=hok.row hl hB
     rw [h1];exact hrun _ _ _ g3
   ·simp only [CR,if_true,List.length_nil,Nat.add_zero] at h1 ⊢;exact h1
   ·simp only [LR,if_true,List.append_nil] at hlr ⊢;exact hlr
  rcases hsrc with ⟨hz0,ao,c,rfl⟩ | ⟨hp,b,c,news,rfl,n1,n2,n3,n4⟩
  ·exact empty ao c hz0
  ·obtain ⟨vt0,hvt0,hblk,hown⟩:∃ vt0,(Builtin.append_ #[xt,xt] ty #[vt,.slice (some ⟨b,0,none⟩) rows2.length c]).run P w=(Builtin.append_ #[xt,xt] ty #[vt0,.slice (some ⟨b,0,none⟩) rows2.length c]).run P w∧vt0.ownBlock=(B n).map (·.1)∧∃ xs,w.ownsRow 0 el es vt0 rows.length xs∧RowAt H xs es rows:=by
    simp only [CR] at h1
    cases hB:B n with
    | none =>
     simp only [LR,hB] at hlr
     rw [hB] at h1
     subst hlr
     obtain ⟨_,ao0,rfl⟩:=h1
     refine ⟨.slice none 0 0,?_,rfl,[],⟨by simp,.inl ⟨rfl,rfl⟩⟩,fun i r hr=>by simp at hr⟩
     cases ao0 with
     | none=>rfl
     | some a0=>exact zi8 hT.hu hi hz hsz a0 n1 n2 hp (by simpa using hml) (by rw [hby];simpa using hb)
    | some q =>
     obtain ⟨b2,cc⟩:=q
     rw [hB] at h1
     obtain ⟨arr2,g1,g2,g3,g4,g5,g6⟩:=hok.row hl hB
     have hle:rows.length*es≤cc*es:=Nat.mul_le_mul_right _ g3
     refine ⟨vt,rfl,by rw [h1];rfl,arr2.take (rows.length*es),⟨by rw [List.length_take];omega,.inr ⟨b2,cc,⟨arr2⟩,h1,Nat.zero_le _,g1,g3,g4,by simpa using g2,rfl⟩⟩,?_⟩
     intro i r hri f x hx2
     obtain ⟨u,k1,k2⟩:=g6 i r hri f x hx2
     refine ⟨u,?_,k2⟩
     have hi2:=(List.getElem?_eq_some_iff.1 hri).1
     have hf2:=(List.getElem?_eq_some_iff.1 hx2).1
     rw [g5 r (List.mem_of_getElem? hri)] at hf2
     have:(i+1)*es≤rows.length*es:=Nat.mul_le_mul_right _ hi2
     rw [Nat.add_mul] at this
     rw [List.getElem?_take,if_pos (by omega)];exact k1
   obtain ⟨xs,hown,hxs⟩:=hown
   obtain ⟨v', w', r1,r2,r3,r4⟩:=run_append_own (P:=P) w 0 xt ty el i z es bs hT.hu hi hz hsz hby hzs hT.pos vt0 rows.length xs hown ⟨b,0,none⟩ rows2.length c news n1 n2 n4 hml hb (Nat.zero_le _)
   have hall:∀ r ∈ rows++rows2,r.length=es:=by
    intro r hr2
    rcases List.mem_append.1 hr2 with h' | h'
    ·cases hB:B n with
     | none=>simp only [LR,hB] at hlr;rw [hlr] at h';cases h'
     | some q=>obtain ⟨_,_,_,_,_,g5,_⟩:=hok.row hl hB;exact g5 r h'
    ·exact hes2 r h'
   have hboth:RowAt H (xs++news) es (rows++rows2):=by
    intro i2 r hri f x hx2
    by_cases hlt:i2<rows.length
    ·rw [List.getElem?_append_left hlt] at hri
     obtain ⟨u,k1,k2⟩:=hxs i2 r hri f x hx2
     exact ⟨u,by rw [List.getElem?_append_left (List.getElem?_eq_some_iff.1 k1).1];exact k1,k2⟩
    ·rw [List.getElem?_append_right (by omega)] at hri
     obtain ⟨u,k1,k2⟩:=n3 _ r hri f x hx2
     refine ⟨u,?_,k2⟩
     have hq:rows.length*es≤i2*es:=Nat.mul_le_mul_right _ (by omega)
     rw [List.getElem?_append_right (by rw [hown.1];omega),hown.1,← k1]
     congr 1
     rw [Nat.sub_mul];omega
   obtain ⟨q1,q2⟩:=r2
   have hkk:∀ k,k<w.heap.size→(∀ c,B n≠some (k,c))→w'.heap[k]?=w.heap[k]?:=by
    intro k hk hnk
    refine r3.block k hk ?_
    rw [hblk]
    intro e1
    cases hB:B n with
    | none=>rw [hB] at e1;cases e1
    | some q=>obtain ⟨b2,cc⟩:=q;rw [hB] at e1;simp at e1;exact hnk cc (by rw [hB,e1])
   rcases q2 with ⟨_,hn0⟩ | ⟨g,cap,cur,rfl,_,k2,k3,k4,k5,k6⟩
   ·omega
   ·refine ⟨_,w', some (g,cap),hvt0.trans r1,?_,?_,r3.os,r3.tape,r3.output,r3.size,hkk,?_⟩
    ·simp [CR]
    ·simp only [LR,if_true]
     refine ⟨cur.toList,k2,by simpa using k5,by simpa using k3,k4,hall,?_⟩
     refine (zcg (by simpa using k5) (by simpa using k3) hall).2 fun i2 r hri f x hx2=>?_
     obtain ⟨u,j1,j2⟩:=hboth i2 r hri f x hx2
     refine ⟨u,?_,j2⟩
     rw [← k6,List.getElem?_take] at j1
     split at j1
     ·exact j1
     ·cases j1
    ·rintro b3 c3 e3
     injection e3 with e3
     injection e3 with e3 e4
     subst e3 e4
     refine ⟨(Array.getElem?_eq_some_iff.1 k2).1,?_⟩
     rcases zi7 hT.hu hi hz hsz hown hp n1 n2 n4 hml (by rw [hby];exact hb) r1 g rfl with hh | hh
     ·rw [hblk] at hh
      cases hB:B n with
      | none=>rw [hB] at hh;cases hh
      | some q=>obtain ⟨b2,cc⟩:=q;rw [hB] at hh;simp at hh;exact .inl ⟨cc,by rw [hh]⟩
     ·exact .inr (by omega)
 obtain ⟨v,w', p,r1,r2,r3,r4,r5,r6,r7,r8,r9⟩:=main
 have hok':Ok e ⟨f.s,fun m=>if m=n' then some (.row el es (rows++rows2)) else if m=n then none else f.l m⟩ H (fun x=>if x=n' then p else B x) a w' :=
  hok.renew hl hnew p r4 r5 r6 r7 r8 r9 r3 (fun _=>rfl) (fun _=>rfl)
 refine zez (d:=d) rfl ?_ ⟨H,_,hok'.put (x:=some (.t (.c (.own n' (rows.length+rows2.length))))) (hb0.1 (d,some (.t (.c (.own n' (rows.length+rows2.length))))) (by simp)) (zg5 f d _ _ rfl) (fun m=>?_) (fun y hy=>by injection hy with hy;subst hy;exact r2)⟩
 ·generalize a.eval=ρ at r1 ⊢
  have e1:(Array.map ρ #[.tmp t,.tmp u])=#[ρ (.tmp t),ρ (.tmp u)]:=by simp
  simp only [execOp,resolve,e1,Sem.run_bind,Sem.run_pure,Result.andThen_ok,invoke,builtin,r1]
 ·simp only [F.app,List.lookup]
  by_cases e1:m=n'
  ·simp [e1]
  ·have g1:(m == n')=false:=by simpa using e1
   by_cases e2:m=n
   ·subst e2;simp [g1,e1]
   ·have g2:(m == n)=false:=by simpa using e2
    simp [g1,g2,e1,e2]
theorem Op.eqNilO {d t n len:Nat} {y:Operand} {rs':List (Nat × V)} {xt yt el ty:TypeId} {pos af gd} (hu:P.underlying xt=some (.slice el)) (hn:0<len) (h':OV y (.t (.c (.d (.raw zae)))) rs') :
  zbg P ⟨some d,.binOp .eql xt (.tmp t) y yt,ty,pos,af,gd⟩ { rs:=(t,.t (.c (.own n len))) :: rs', ws:=[(d,some (vb false))] } :=
 zbg.value d _ rfl rfl rfl fun e f H B a w hok hr2=>by
  have h1:=hok.slot t _ (hr2.1 (t,.t (.c (.own n len))) (by simp))
  have h2:a.eval y=zae:=(h'.eval hok fun p hp=>hr2.1 p (by simp [hp])).rawI
  have h3:CR H B (.own n len) (a.eval (.tmp t)):=h1
  generalize hv0:a.eval (.tmp t)=v at h3
  simp only [CR] at h3
  cases hB:B n with
  | none=>rw [hB] at h3;omega
  | some q =>
   obtain ⟨b,c⟩:=q
   rw [hB] at h3
   subst h3
   refine ⟨.bool false,?_,DR.raw _ rfl⟩
   generalize a.eval=ρ at hv0 h2 ⊢
   have:=run_eqNil (P:=P) hu (some ⟨b,0,none⟩) len c (.tmp t) y w
   simp only [Sem.run_bind] at this
   simp only [execOp,hv0,h2,Sem.run_bind,this,Result.andThen_ok,Sem.run_pure]
   rfl
end
end
section
open Go.RowKit

theorem SCloneO (xs:List za4) (hn:0<xs.length) (hl:xs.length≤1000000):Fn Tryz.prog 68 [(9,.row 100 3 (xs.map za4.d))] [.t (.c (.own 9 xs.length))] (.t (.c (.own 0 xs.length))) [(9,.row 100 3 (xs.map za4.d)),(0,.row 100 3 (xs.map za4.d))]:=by
 refine Fn.body Tryz.func68 rfl 8 rfl fun w H B a h=>?_
 refine rq za0 10 [] [(0,.t (.c (.own 9 xs.length))),(2,.t (.c (.d (.raw zae))))] [(9,.row 100 3 (xs.map za4.d))] h fun a w h=>?_
 refine wp_seq (rqk za0 10 [(1,.g (Op.eqNilO (d:=4) (t:=3) (n:=9) (len:=xs.length) (xt:=49) (yt:=49) zc3.hu hn (OV.const zae rfl)))] [(0,.t (.c (.own 9 xs.length))),(2,.t (.c (.d (.raw zae)))),(4,vb false)] h fun a w h=>?_)
 refine zah false h rfl nofun (fun _=>?_)
 refine wp_skip (za2 (rq za0 10 [(0,.g (Op.buildE (d:=5) (n:=10) tb_9)),(2,.g (Op.appOO (d:=7) (t:=5) (u:=6) (n:=10) (sn:=9) (n':=11) (len:=0) (len2:=xs.length) (len':=xs.length) (rows:=[].map za4.d) (rows2:=xs.map za4.d) (rows':=xs.map za4.d) zf2 (by first | exact (List.length_map _).symm | simp) (by first | exact (List.length_map _).symm | simp) (by first | (rw [List.length_append,List.length_map];done) | simp) (by simp) (by first | omega | (simp at *;done) | (simp at *;omega))))] [(2,.t (.c (.own 11 xs.length)))] [(9,.row 100 3 (xs.map za4.d)),(11,.row 100 3 (xs.map za4.d))] h fun a w h=>?_))
 refine wp_ret ?_
 replace h:=zbz 11 0 [(2,.t (.c (.own 0 xs.length)))] [(9,.row 100 3 (xs.map za4.d)),(0,.row 100 3 (xs.map za4.d))] h
 refine rT (.c (.own 0 xs.length)) h rfl rfl ?_
 rfl
theorem SPlainW0 (t:zb9) (ht:PsOk 40000 t.parts) (hk:Lb t.k.abs) (lk:t.k.abs.length≤40000) (hn:0<t.parts.length):Fn Tryz.prog 47 [(9,.row 100 3 (t.parts.map za4.d))] [.t (.agg ([.own 9 t.parts.length]++zi t.k))] (vd (za3 t).d) [(9,.row 100 3 (t.parts.map za4.d))]:=by
 have ln:=ht.1
 refine Fn.body Tryz.func47 rfl 74 rfl fun w H B a h=>?_
 refine rq za0 10 [] [(1,vp 10 0),(2,vp 11 0)] [(9,.row 100 3 (t.parts.map za4.d)),(10,.box ([.own 9 t.parts.length]++zi t.k)),(11,.box zT0)] h fun a w h=>?_
 refine rq za0 12 [(2,.call (SCloneO t.parts hn (by omega)) tl_3)] [(1,vp 10 0),(2,vp 11 0),(3,.t (.c (.own 0 t.parts.length)))] [(9,.row 100 3 (t.parts.map za4.d)),(10,.box ([.own 9 t.parts.length]++zi t.k)),(11,.box zT0),(0,.row 100 3 (t.parts.map za4.d))] h fun a w h=>?_
 refine rq za0 12 [(1,.call (zgh t.parts (by omega)) tl_4)] [(1,vp 10 0),(2,vp 11 0),(3,.t (.c (.own 0 t.parts.length)))] [(9,.row 100 3 (t.parts.map za4.d)),(10,.box ([.own 9 t.parts.length]++zi t.k)),(11,.box zT0),(0,.row 100 3 ((ssV za4.v t.parts).map za4.d))] h fun a w h=>?_
 obtain ⟨r3,er3,vr3,or3,lr3⟩:=mkZ (v:=t.k.val) (m:=t.k.abs.length) (zcd hk)
 refine rq za0 12 [(2,.call (Fn.cast (zdx t.k hk (by omega)) (congrArg vz er3.symm)) tl_5)] [(2,vp 11 0),(3,.t (.c (.own 0 t.parts.length))),(4,vp 12 0)] [(9,.row 100 3 (t.parts.map za4.d)),(11,.box zT0),(0,.row 100 3 ((ssV za4.v t.parts).map za4.d)),(12,.box ([.d (.raw zae)]++zi r3))] h fun a w h=>?_
 refine wp_seq ?_
 replace h:=ze7 12 0 13 3 100 ([.d (.raw zae)]++zi r3) [(2,vp 11 0),(3,.t (.c (.own 0 t.parts.length))),(4,vp 12 0)] [(9,.row 100 3 (t.parts.map za4.d)),(11,.box zT0),(0,.row 100 3 ((ssV za4.v t.parts).map za4.d)),(12,.box ([.own 13 0]++zi r3)),(13,.row 100 3 ([].map za4.d))] h (by kernel_rfl) rfl rfl
 refine rqk za0 14 [] [(2,vp 11 0),(4,vp 12 0),(17,.t (.c (.own 0 t.parts.length))),(18,vN t.parts.length),(19,vI 0)] h fun a w h=>?_
 refine wp_block ?_
 refine zau (ι:=(Nat) × (List za4)) (fun (j,out)=>out=(zfz ((ssV za4.v t.parts).take j))∧j≤(ssV za4.v t.parts).length∧out.length≤j∧MOk 40000 j out)
   (fun (j,out)=>[(2,vp 11 0),(4,vp 12 0),(17,.t (.c (.own 0 t.parts.length))),(18,vN t.parts.length),(19,vN j)])
   (fun (j,out)=>[(9,.row 100 3 (t.parts.map za4.d)),(11,.box zT0),(0,.row 100 3 ((ssV za4.v t.parts).map za4.d)),(12,.box ([.own 13 out.length]++zi r3)),(13,.row 100 3 (out.map za4.d))])
   (fun (j,out)=>(ssV za4.v t.parts).length - j) (0,[]) ?_ h (by kernel_rfl) (by kernel_rfl) ?_
 ·exact ⟨by simp [zfz],Nat.zero_le _,Nat.zero_le _,fun q hq=>(by cases hq)⟩
 clear h;rintro ⟨j,out⟩ a w hI h
 dsimp only at h
 obtain ⟨hI1,hI2,hI3,hI4⟩:=hI
 have ln:=ht.1
 have ls:(ssV za4.v t.parts).length=t.parts.length:=zb5 _
 refine rqk za0 14 [] [(2,vp 11 0),(4,vp 12 0),(17,.t (.c (.own 0 t.parts.length))),(18,vN t.parts.length),(19,vN j),(20,vb (decide ((j:Int)<(t.parts.length:Int))))] h fun a w h=>?_
 refine wp_seq ?_
 refine zam ((j:Int)<(t.parts.length:Int)) h rfl (fun hc1 hc1'=>?_) (fun hc6 hc6'=>?_)
 ·refine wp_skip (za2 (wp_seq (wp_block ?_)))
  obtain ⟨x4,hx4⟩:=gl (ssV za4.v t.parts) j
  obtain ⟨ox4,lx4⟩:=ht.get_mem (zcj (lM hx4))
  refine rq za0 14 [(0,.g (xO 21 17 0 t.parts.length j zc3 (OV.tmp 19 _))),(1,.g (Op.loadR_agg (d:=22) (t:=21) (n:=0) (i:=j) (fo:=0) (rty:=100) (es:=3) (xs:=[.raw (.int .i64 x4.v),.raw (.bool x4.c.neg),nsl x4.c.abs]) zg9 rfl (zaf hx4 (f:=za4.d)) rfl rfl))] [(2,vp 11 0),(4,vp 12 0),(6,vp 14 0),(17,.t (.c (.own 0 t.parts.length))),(18,vN t.parts.length),(19,vN j)] [(9,.row 100 3 (t.parts.map za4.d)),(11,.box zT0),(0,.row 100 3 ((ssV za4.v t.parts).map za4.d)),(12,.box ([.own 13 out.length]++zi r3)),(13,.row 100 3 (out.map za4.d)),(14,.box ([cI x4.v]++zi x4.c))] h fun a w h=>?_
  refine wp_seq (rqk za0 15 [] [(2,vp 11 0),(4,vp 12 0),(6,vp 14 0),(17,.t (.c (.own 0 t.parts.length))),(18,vN t.parts.length),(19,vN j),(25,vb (decide (x4.v<0)))] h fun a w h=>?_)
  refine zam (x4.v<0) h rfl (fun hc2 hc2'=>?_) (fun hc3 hc3'=>?_)
  ·refine wp_exit (zab (za7 (za2 (rn za0 15 [(0,.j1 j)] [(2,vp 11 0),(4,vp 12 0),(17,.t (.c (.own 0 t.parts.length))),(18,vN t.parts.length),(19,vI ((j:Int)+1))] [(9,.row 100 3 (t.parts.map za4.d)),(11,.box zT0),(0,.row 100 3 ((ssV za4.v t.parts).map za4.d)),(12,.box ([.own 13 out.length]++zi r3)),(13,.row 100 3 (out.map za4.d))] h fun a w h=>?_))))
   refine za2 ?_
   have hst:(zfz ((ssV za4.v t.parts).take (j+1)))=zb2 out x4:=by rw [hI1,show ((ssV za4.v t.parts).take (j+1):List za4)=(ssV za4.v t.parts).take j++[x4] from by rw [List.take_add_one,hx4];rfl,zbv]
   have hst2:=mrg_neg (out:=out) hc2'
   refine zaj (x:=(j,out)) (y:=((j+1),out)) h ?_ ?_
   ·exact ⟨by rw [hst,hst2],(by have:=zag hx4;omega),by omega,by have hh:=hI4.step (ht.get_mem (zcj (lM hx4)));rw [hst2] at hh;exact hh⟩
   show (ssV za4.v t.parts).length - (j+1)<(ssV za4.v t.parts).length - j
   have:=zag hx4;omega
  refine wp_skip (za2 ?_)
  rcases Nat.eq_zero_or_pos out.length with hz | hz
  ·refine rqk za0 15 [(3,.g (Op.arith (op:=.sub) (d:=29) (xt:=3) (yt:=3) (k:=.i64) (m:=(out.length:Int)) (n:=1) (r:=(-1)) (OV.tmp 28 _) (OV.const (.int .i64 1) rfl) (.inr (.inl ⟨rfl,(by omega)⟩)) i6))] [(2,vp 11 0),(4,vp 12 0),(6,vp 14 0),(7,vI (-1)),(17,.t (.c (.own 0 t.parts.length))),(18,vN t.parts.length),(19,vN j)] h fun a w h=>?_
   refine rqk za0 15 [(1,.cmp (op:=.geq) (m:=(-1)) (n:=0) (b:=false) .i64 rfl)] [(2,vp 11 0),(4,vp 12 0),(6,vp 14 0),(7,vI (-1)),(17,.t (.c (.own 0 t.parts.length))),(18,vN t.parts.length),(19,vN j),(42,vb false)] h fun a w h=>?_
   refine zah false h rfl nofun (fun _=>?_)
   obtain ⟨r5,er5,vr5,or5,lr5⟩:=mkZ (v:=x4.c.val) (m:=x4.c.abs.length) (zcd ox4)
   refine rn za0 15 [(6,.call (Fn.cast (zdx x4.c ox4 (by omega)) (congrArg vz er5.symm)) tl_5),(8,.g (bD 65 ([(za4.mk x4.v r5)].map za4.d) [(64,.t (.agg ([cI x4.v]++zi r5)))] tb_9 (.cons (i:=0) (OV.tmp 64 _) (.nil)) (by kernel_rfl) (by simp [za4.d]))),(9,.g (aD 66 58 65 13 15 out [(za4.mk x4.v r5)] za4.d zf2 (by simp [za4.d])))] [(2,vp 11 0),(4,vp 12 0),(17,.t (.c (.own 0 t.parts.length))),(18,vN t.parts.length),(19,vN j)] [(9,.row 100 3 (t.parts.map za4.d)),(11,.box zT0),(0,.row 100 3 ((ssV za4.v t.parts).map za4.d)),(12,.box ([.own 15 (out++[(za4.mk x4.v r5)]).length]++zi r3)),(15,.row 100 3 ((out++[(za4.mk x4.v r5)]).map za4.d))] h fun a w h=>?_
   refine zaa (za2 (rnk za0 16 [(0,.j1 j)] [(2,vp 11 0),(4,vp 12 0),(17,.t (.c (.own 0 t.parts.length))),(18,vN t.parts.length),(19,vI ((j:Int)+1))] h fun a w h=>?_))
   refine za2 ?_
   have hst:(zfz ((ssV za4.v t.parts).take (j+1)))=zb2 out x4:=by rw [hI1,show ((ssV za4.v t.parts).take (j+1):List za4)=(ssV za4.v t.parts).take j++[x4] from by rw [List.take_add_one,hx4];rfl,zbv]
   have hst2:=mrg_nil hc3' hz
   replace h:=zbz 15 13 [(2,vp 11 0),(4,vp 12 0),(17,.t (.c (.own 0 t.parts.length))),(18,vN t.parts.length),(19,vI ((j:Int)+1))] [(9,.row 100 3 (t.parts.map za4.d)),(11,.box zT0),(0,.row 100 3 ((ssV za4.v t.parts).map za4.d)),(12,.box ([.own 13 (out++[(za4.mk x4.v r5)]).length]++zi r3)),(13,.row 100 3 ((out++[(za4.mk x4.v r5)]).map za4.d))] h
   refine zaj (x:=(j,out)) (y:=((j+1),(out++[(za4.mk x4.v r5)]))) h ?_ ?_
   ·have hnew:(out++[(za4.mk x4.v r5)])=zb2 out x4:=by rw [hst2,er5]
    exact ⟨by rw [hst];exact hnew,(by have:=zag hx4;omega),by rw [List.length_append];simp only [List.length_cons,List.length_nil];omega,by rw [hnew];exact hI4.step (ht.get_mem (zcj (lM hx4)))⟩
   show (ssV za4.v t.parts).length - (j+1)<(ssV za4.v t.parts).length - j
   have:=zag hx4;omega
  obtain ⟨k,hk1⟩:∃ k,out.length=k+1:=⟨out.length - 1,by omega⟩
  refine rqk za0 16 [(3,.g (Op.arith (op:=.sub) (d:=29) (xt:=3) (yt:=3) (k:=.i64) (m:=(out.length:Int)) (n:=1) (r:=(k:Int)) (OV.tmp 28 _) (OV.const (.int .i64 1) rfl) (.inr (.inl ⟨rfl,(by omega)⟩)) i6))] [(2,vp 11 0),(4,vp 12 0),(6,vp 14 0),(7,vN k),(17,.t (.c (.own 0 t.parts.length))),(18,vN t.parts.length),(19,vN j)] h fun a w h=>?_
  obtain ⟨x6,hx6⟩:=gl out k
  obtain ⟨ox6,lx6⟩:=hI4.lb (lM hx6) (by omega)
  refine rqk za0 16 [(1,.cmp (op:=.geq) (m:=(k:Int)) (n:=0) (b:=true) .i64 (show decide ((k:Int)≥0)=true from decide_eq_true (by omega))),(6,.g (xO 36 34 13 out.length k zc3 (OV.tmp 35 _))),(8,.g (Op.loadR_c (d:=38) (t:=37) (n:=13) (i:=k) (fo:=0) (rty:=100) (es:=3) (x:=(.raw (.int .i64 x6.v))) tl_7 rfl (zaf hx6 (f:=za4.d)) rfl))] [(2,vp 11 0),(4,vp 12 0),(6,vp 14 0),(7,vN k),(17,.t (.c (.own 0 t.parts.length))),(18,vN t.parts.length),(19,vN j),(42,vb (x6.v == x4.v))] h fun a w h=>?_
  refine zah (x6.v == x4.v) h rfl (fun hc4=>?_) (fun hc5=>?_)
  ·have hc4':=hc4;(try simp at hc4')
   obtain ⟨r7,er7,vr7,or7,lr7⟩:=mkZ (v:=x6.c.val+x4.c.val) (m:=x6.c.abs.length+x4.c.abs.length+1) (zcr ox6 ox4)
   refine rn za0 16 [(6,.g (xO 49 47 13 out.length k zc3 (OV.tmp 48 _))),(8,.g (Op.loadR_agg (d:=51) (t:=50) (n:=13) (i:=k) (fo:=1) (rty:=100) (es:=3) (xs:=[.raw (.bool x6.c.neg),nsl x6.c.abs]) zd3 rfl (zaf hx6 (f:=za4.d)) rfl rfl)),(11,.call (Fn.cast (SAdd x6.c x4.c ox6 ox4 (by omega) (by omega)) (congrArg vz er7.symm)) tl_9),(12,.g (xO 55 44 13 out.length k zc3 (OV.tmp 45 _))),(14,.g (Op.storeR (t:=56) (n:=13) (i:=k) (fo:=1) (rty:=100) (es:=3) (r:=za4.d x6) (ds:=[.raw (.bool r7.neg),nsl r7.abs]) (rs:=[(54,vz r7)]) (rows:=out.map za4.d) (rows':=(out.set k (za4.mk x6.v r7)).map za4.d) zd3 (OV.tmp 54 _) rfl rfl rfl (zaf hx6 (f:=za4.d)) (by simp [za4.d]) (zcz (xs:=out) (F:=za4.d) k _ _ rfl)))] [(2,vp 11 0),(4,vp 12 0),(17,.t (.c (.own 0 t.parts.length))),(18,vN t.parts.length),(19,vN j)] [(9,.row 100 3 (t.parts.map za4.d)),(11,.box zT0),(0,.row 100 3 ((ssV za4.v t.parts).map za4.d)),(12,.box ([.own 13 out.length]++zi r3)),(13,.row 100 3 ((out.set k (za4.mk x6.v r7)).map za4.d))] h fun a w h=>?_
   refine zaa (za2 (rnk za0 16 [(0,.j1 j)] [(2,vp 11 0),(4,vp 12 0),(17,.t (.c (.own 0 t.parts.length))),(18,vN t.parts.length),(19,vI ((j:Int)+1))] h fun a w h=>?_))
   refine za2 ?_
   have hst:(zfz ((ssV za4.v t.parts).take (j+1)))=zb2 out x4:=by rw [hI1,show ((ssV za4.v t.parts).take (j+1):List za4)=(ssV za4.v t.parts).take j++[x4] from by rw [List.take_add_one,hx4];rfl,zbv]
   replace h:=h.conv (f':=F.of [(2,vp 11 0),(4,vp 12 0),(17,.t (.c (.own 0 t.parts.length))),(18,vN t.parts.length),(19,vI ((j:Int)+1))] [(9,.row 100 3 (t.parts.map za4.d)),(11,.box zT0),(0,.row 100 3 ((ssV za4.v t.parts).map za4.d)),(12,.box ([.own 13 (out.set k (za4.mk x6.v r7)).length]++zi r3)),(13,.row 100 3 ((out.set k (za4.mk x6.v r7)).map za4.d))]) (by rw [List.length_set])
   have hst2:=zgq hc3' hk1 hx6 (by simpa using hc4)
   refine zaj (x:=(j,out)) (y:=((j+1),(out.set k (za4.mk x6.v r7)))) h ?_ ?_
   ·have hnew:(out.set k (za4.mk x6.v r7))=zb2 out x4:=by rw [hst2,er7]
    exact ⟨by rw [hst];exact hnew,(by have:=zag hx4;omega),by rw [List.length_set];omega,by rw [hnew];exact hI4.step (ht.get_mem (zcj (lM hx4)))⟩
   show (ssV za4.v t.parts).length - (j+1)<(ssV za4.v t.parts).length - j
   have:=zag hx4;omega
  have hc5':=hc5;(try simp at hc5')
  obtain ⟨r8,er8,vr8,or8,lr8⟩:=mkZ (v:=x4.c.val) (m:=x4.c.abs.length) (zcd ox4)
  refine rn za0 16 [(6,.call (Fn.cast (zdx x4.c ox4 (by omega)) (congrArg vz er8.symm)) tl_5),(8,.g (bD 65 ([(za4.mk x4.v r8)].map za4.d) [(64,.t (.agg ([cI x4.v]++zi r8)))] tb_9 (.cons (i:=0) (OV.tmp 64 _) (.nil)) (by kernel_rfl) (by simp [za4.d]))),(9,.g (aD 66 58 65 13 16 out [(za4.mk x4.v r8)] za4.d zf2 (by simp [za4.d])))] [(2,vp 11 0),(4,vp 12 0),(17,.t (.c (.own 0 t.parts.length))),(18,vN t.parts.length),(19,vN j)] [(9,.row 100 3 (t.parts.map za4.d)),(11,.box zT0),(0,.row 100 3 ((ssV za4.v t.parts).map za4.d)),(12,.box ([.own 16 (out++[(za4.mk x4.v r8)]).length]++zi r3)),(16,.row 100 3 ((out++[(za4.mk x4.v r8)]).map za4.d))] h fun a w h=>?_
  refine zaa (za2 (rnk za0 17 [(0,.j1 j)] [(2,vp 11 0),(4,vp 12 0),(17,.t (.c (.own 0 t.parts.length))),(18,vN t.parts.length),(19,vI ((j:Int)+1))] h fun a w h=>?_))
  refine za2 ?_
  have hst:(zfz ((ssV za4.v t.parts).take (j+1)))=zb2 out x4:=by rw [hI1,show ((ssV za4.v t.parts).take (j+1):List za4)=(ssV za4.v t.parts).take j++[x4] from by rw [List.take_add_one,hx4];rfl,zbv]
  have hst2:=mrg_new hc3' hk1 hx6 (by simpa using hc5)
  replace h:=zbz 16 13 [(2,vp 11 0),(4,vp 12 0),(17,.t (.c (.own 0 t.parts.length))),(18,vN t.parts.length),(19,vI ((j:Int)+1))] [(9,.row 100 3 (t.parts.map za4.d)),(11,.box zT0),(0,.row 100 3 ((ssV za4.v t.parts).map za4.d)),(12,.box ([.own 13 (out++[(za4.mk x4.v r8)]).length]++zi r3)),(13,.row 100 3 ((out++[(za4.mk x4.v r8)]).map za4.d))] h
  refine zaj (x:=(j,out)) (y:=((j+1),(out++[(za4.mk x4.v r8)]))) h ?_ ?_
  ·have hnew:(out++[(za4.mk x4.v r8)])=zb2 out x4:=by rw [hst2,er8]
   exact ⟨by rw [hst];exact hnew,(by have:=zag hx4;omega),by rw [List.length_append];simp only [List.length_cons,List.length_nil];omega,by rw [hnew];exact hI4.step (ht.get_mem (zcj (lM hx4)))⟩
  show (ssV za4.v t.parts).length - (j+1)<(ssV za4.v t.parts).length - j
  have:=zag hx4;omega
 refine wp_exit (zab (zab (za7 (za2 ?_))))
 replace h:=atS (sl':=[(2,vp 11 0),(4,vp 12 0)]) (lc':=[(9,.row 100 3 (t.parts.map za4.d)),(11,.box zT0),(12,.box ([.own 13 out.length]++zi r3)),(13,.row 100 3 (out.map za4.d))]) h
 replace h:=zbz 13 0 [(2,vp 11 0),(4,vp 12 0)] [(9,.row 100 3 (t.parts.map za4.d)),(11,.box zT0),(12,.box ([.own 0 out.length]++zi r3)),(0,.row 100 3 (out.map za4.d))] h
 refine rq za0 17 [(2,.call (SDeleteFZ isZ out (fun p hp=>SPlain2 p (hI4.lb hp (by omega)).1 (by have:=(hI4.lb hp (by omega)).2;omega)) (by omega)) tl_10)] [(2,vp 11 0),(4,vp 12 0)] [(9,.row 100 3 (t.parts.map za4.d)),(11,.box zT0),(12,.box ([.own 0 (out.filter (fun p=>!isZ p)).length]++zi r3)),(0,.row 100 3 ((out.filter (fun p=>!isZ p)).map za4.d))] h fun a w h=>?_
 refine rq za0 17 [] [(2,vp 11 0)] [(9,.row 100 3 (t.parts.map za4.d)),(11,.box ([.own 0 (out.filter (fun p=>!isZ p)).length]++zi r3)),(0,.row 100 3 ((out.filter (fun p=>!isZ p)).map za4.d))] h fun a w h=>?_
 refine wp_ret ?_
 replace h:=pubSK 0 3 100 ((out.filter (fun p=>!isZ p)).map za4.d) [(2,vp 11 0)] [(9,.row 100 3 (t.parts.map za4.d)),(11,.box ([cPs (out.filter (fun p=>!isZ p))]++zi r3))] h rfl (by kernel_rfl) trivial (show zbt _ [(out.filter (fun p=>!isZ p)).length] from ⟨by first | exact (List.length_map _).symm | simp,trivial⟩)
 refine rA 11 ([cPs (out.filter (fun p=>!isZ p))]++zi r3) h zf1 rfl rfl rfl rfl rfl ?_
 have hj:j=(ssV za4.v t.parts).length:=by omega
 subst hj
 rw [hI1,List.take_length,plain_law,er3];first | done | rfl
theorem SPlainW (t:zb9) {n L:Nat} (h:TOk n L t) (hn:n≤1000) (hL:L≤40000) (hp:0<t.parts.length):Fn Tryz.prog 47 [(9,.row 100 3 (t.parts.map za4.d))] [.t (.agg ([.own 9 t.parts.length]++zi t.k))] (vd (za3 t).d) [(9,.row 100 3 (t.parts.map za4.d))] :=
 have h':=h.mono hn hL
 SPlainW0 t h'.psok h'.kb h'.kl hp
theorem SContentW (t:zb9) {n L:Nat} (ht:TOk n L t) (hn:n≤1000) (hL:L≤20000) (hp:0<t.parts.length):Fn Tryz.prog 142 [(9,.row 100 3 (t.parts.map za4.d))] [.t (.agg ([.own 9 t.parts.length]++zi t.k))] (vz (ZI.of (zc1 (za3 t).parts))) [(9,.row 100 3 (t.parts.map za4.d))]:=by
 refine Fn.body Tryz.func142 rfl 21 rfl fun w H B a h=>?_
 refine rq za0 10 [] [(1,vp 10 0),(2,vp 11 0)] [(9,.row 100 3 (t.parts.map za4.d)),(10,.box ([.own 9 t.parts.length]++zi t.k)),(11,.box [cB false,.d (nsl [])])] h fun a w h=>?_
 refine rq za0 12 [] [(1,vp 10 0),(2,vp 11 0),(3,vp 12 0)] [(9,.row 100 3 (t.parts.map za4.d)),(10,.box ([.own 9 t.parts.length]++zi t.k)),(11,.box [cB false,.d (nsl [])]),(12,.box [cB false,.d (nsl [])])] h fun a w h=>?_
 refine wp_seq (rq za0 13 [(1,.call (SPlainW t ht hn (by omega) hp) tm_7),(3,.len (za9 3 za4.d ((za3 t).parts)))] [(2,vp 11 0),(3,vp 12 0),(9,(vPs (za3 t).parts)),(10,vI ((za3 t).parts.length:Int)),(11,vI 0)] [(9,.row 100 3 (t.parts.map za4.d)),(11,.box [cB false,.d (nsl [])]),(12,.box [cB false,.d (nsl [])])] h fun a w h=>?_)
 refine wp_block ?_
 refine zau (ι:=(Nat) × (ZI)) (fun (j,out)=>out=ZI.of (zc1 ((za3 t).parts.take j))∧j≤(za3 t).parts.length)
   (fun (j,out)=>[(2,vp 11 0),(3,vp 12 0),(9,(vPs (za3 t).parts)),(10,vI ((za3 t).parts.length:Int)),(11,vN j)])
   (fun (j,out)=>[(9,.row 100 3 (t.parts.map za4.d)),(11,.box [cB false,.d (nsl [])]),(12,.box (zi out))])
   (fun (j,out)=>(za3 t).parts.length - j) (0,(ZI.of 0)) ?_ h (by kernel_rfl) (by kernel_rfl) ?_
 ·exact ⟨by simp [zc1],Nat.zero_le _⟩
 clear h;rintro ⟨j,out⟩ a w hI h
 dsimp only at h
 obtain ⟨hI1,hI2⟩:=hI
 have lpp:=(ht.plain hn).len
 have lvv:(zb4 t.parts).length=(za3 t).parts.length:=(List.length_map _).symm
 have lo:out.abs.length≤L+1:=by rw [hI1];exact zgf ht hn j
 have ho:Lb out.abs:=by rw [hI1];exact ZI.lb_of _
 have vo:out.val=zc1 ((za3 t).parts.take j):=by rw [hI1];exact ZI.val_of _
 refine rqk za0 13 [] [(2,vp 11 0),(3,vp 12 0),(9,(vPs (za3 t).parts)),(10,vI ((za3 t).parts.length:Int)),(11,vN j),(12,vb (decide ((j:Int)<((za3 t).parts.length:Int))))] h fun a w h=>?_
 refine wp_seq ?_
 refine zam ((j:Int)<((za3 t).parts.length:Int)) h rfl (fun hc1 hc1'=>?_) (fun hc2 hc2'=>?_)
 ·refine wp_skip (za2 (wp_seq (wp_block ?_)))
  obtain ⟨x2,hx2⟩:=gl ((za3 t).parts) j
  obtain ⟨ox2,lx2⟩:=(ht.plain hn).get hx2
  refine rq za0 13 [(0,.g (xD 13 9 zc3 (zaf hx2 (f:=za4.d)) (OV.tmp 11 _)))] [(2,vp 11 0),(3,vp 12 0),(5,vp 13 0),(9,(vPs (za3 t).parts)),(10,vI ((za3 t).parts.length:Int)),(11,vN j)] [(9,.row 100 3 (t.parts.map za4.d)),(11,.box [cB false,.d (nsl [])]),(12,.box (zi out)),(13,.box ([cI x2.v]++zi x2.c))] h fun a w h=>?_
  obtain ⟨r3,er3,vr3,or3,lr3⟩:=mkZ (v:=(Nat.gcd out.val.natAbs x2.c.val.natAbs:Int)) (m:=out.abs.length+x2.c.abs.length) (len_gcd ho ox2)
  refine rn za0 14 [(3,.call (Fn.cast (SGcd out x2.c ho ox2 (by omega) (by omega)) (congrArg vz er3.symm)) tt_11)] [(2,vp 11 0),(3,vp 12 0),(9,(vPs (za3 t).parts)),(10,vI ((za3 t).parts.length:Int)),(11,vN j)] [(9,.row 100 3 (t.parts.map za4.d)),(11,.box [cB false,.d (nsl [])]),(12,.box (zi r3))] h fun a w h=>?_
  refine zaa (za2 (rnk za0 14 [(0,.j1 j)] [(2,vp 11 0),(3,vp 12 0),(9,(vPs (za3 t).parts)),(10,vI ((za3 t).parts.length:Int)),(11,vI ((j:Int)+1))] h fun a w h=>?_))
  refine za2 ?_
  refine zaj (x:=(j,out)) (y:=((j+1),r3)) h ?_ ?_
  ·have:=zag hx2
   exact ⟨by rw [er3,vo,con_take hx2],by omega⟩
  show (za3 t).parts.length - (j+1)<(za3 t).parts.length - j
  have:=zag hx2;omega
 refine wp_exit (zab (zab (za7 (za2 (rq za0 14 [] [(2,vp 11 0)] [(9,.row 100 3 (t.parts.map za4.d)),(11,.box (zi out))] h fun a w h=>?_)))))
 refine wp_ret ?_
 refine rA 11 (zi out) h zd3 rfl rfl rfl rfl rfl ?_
 have hj:j=(za3 t).parts.length:=by omega
 subst hj
 rw [hI1,List.take_length];first | done | rfl
end
section
open Go.RowKit
end
section
open Go.RowKit

theorem tw_1:za6 Tryz.prog 142:=za6.mk' (by kernel_rfl)
theorem tw_7:za6 Tryz.prog 160:=za6.mk' (by kernel_rfl)
theorem tw_9:za6 Tryz.prog 99:=za6.mk' (by kernel_rfl)
theorem tw_15:za6 Tryz.prog 100:=za6.mk' (by kernel_rfl)
def zg4 (g:Int) (p:za4):za4:=⟨p.v,ZI.of (p.c.val.fdiv g)⟩
def zc4 (t:zb9):zb9:=if zc1 (za3 t).parts=0 then za3 t else ⟨(za3 t).parts.map (zg4 (zc1 (za3 t).parts)),ZI.of (t.k.val.fdiv (zc1 (za3 t).parts))⟩
theorem con_dvd (ps:List za4):∀ p ∈ ps,zc1 ps∣p.c.val:=by
 have key:∀ (ps:List za4) (g:Int),(ps.foldl (fun g p=>(Nat.gcd g.natAbs p.c.val.natAbs:Int)) g)∣g∧∀ p ∈ ps,(ps.foldl (fun g p=>(Nat.gcd g.natAbs p.c.val.natAbs:Int)) g)∣p.c.val:=by
  intro ps
  induction ps with
  | nil=>intro g;exact ⟨Int.dvd_refl g,fun p hp=>by cases hp⟩
  | cons p ps ih =>
   intro g
   obtain ⟨h1,h2⟩:=ih ((Nat.gcd g.natAbs p.c.val.natAbs:Int))
   rw [List.foldl_cons]
   have d1:((Nat.gcd g.natAbs p.c.val.natAbs:Nat):Int)∣g:=Int.ofNat_dvd_left.2 (Nat.gcd_dvd_left _ _)
   have d2:((Nat.gcd g.natAbs p.c.val.natAbs:Nat):Int)∣p.c.val:=Int.ofNat_dvd_left.2 (Nat.gcd_dvd_right _ _)
   refine ⟨Int.dvd_trans h1 d1,fun q hq=>?_⟩
   rcases List.mem_cons.1 hq with rfl | hq
   ·exact Int.dvd_trans h1 d2
   ·exact h2 q hq
 exact (key ps 0).2
theorem con_ne {t:zb9} (h:0<(za3 t).parts.length):zc1 (za3 t).parts≠0:=fun e=>by
 obtain ⟨p,hp⟩:∃ p,p ∈ (za3 t).parts:=⟨_,List.getElem_mem h⟩
 have h1:=con_dvd _ p hp
 rw [e] at h1
 exact ((zc6 t).2.1 p hp).2.2 (Int.zero_dvd.1 h1)
theorem con_nil {t:zb9} (h:(za3 t).parts.length=0):zc1 (za3 t).parts=0:=by rw [List.length_eq_zero_iff.1 h];rfl
theorem ze6 (t:zb9):zc1 (za3 (za3 t)).parts=zc1 (za3 t).parts:=by rw [zbp]
theorem fmod_of_dvd {a b:Int} (h:b∣a):a.fmod b=0:=by obtain ⟨c,rfl⟩:=h;exact Int.mul_fmod_right b c
theorem SShrink (t:zb9) {n L:Nat} (ht:TOk n L t) (hn:n≤1000) (hL:L≤10000):Fn Tryz.prog 140 [] [(vT t)] (.tup [.agg ((zc4 t).d.map C.d),.agg (zi (ZI.of (zc1 (za3 t).parts)))]) []:=by
 have lnp:=(ht.plain hn).len
 have lkp:=(ht.plain hn).kl
 refine Fn.body Tryz.func140 rfl 49 rfl fun w H B a h=>?_
 refine rq za0 12 [] [(1,vp 12 0),(2,vp 13 0),(3,vp 14 0)] [(12,.box (zT t)),(13,.box zT0),(14,.box [cB false,.d (nsl [])])] h fun a w h=>?_
 refine rq za0 15 [(1,.call (SPlainO t ht (by omega) (by omega)) tm_7)] [(2,vp 13 0),(3,vp 14 0),(4,vp 15 0)] [(13,.box zT0),(14,.box [cB false,.d (nsl [])]),(0,.row 100 3 ((za3 t).parts.map za4.d)),(15,.box ([.own 0 (za3 t).parts.length]++zi (za3 t).k))] h fun a w h=>?_
 replace h:=zbz 0 9 [(2,vp 13 0),(3,vp 14 0),(4,vp 15 0)] [(13,.box zT0),(14,.box [cB false,.d (nsl [])]),(15,.box ([.own 9 (za3 t).parts.length]++zi (za3 t).k)),(9,.row 100 3 ((za3 t).parts.map za4.d))] h
 rcases Nat.eq_zero_or_pos (za3 t).parts.length with hz | hz
 ·have hg0:=con_nil hz
  replace h:=zgn 9 3 100 ((za3 t).parts.map za4.d) [(2,vp 13 0),(3,vp 14 0),(4,vp 15 0)] [(13,.box zT0),(14,.box [cB false,.d (nsl [])]),(15,.box (zT (za3 t)))] h rfl trivial (show zbt _ [(za3 t).parts.length] from ⟨by first | exact (List.length_map _).symm | simp,trivial⟩)
  obtain ⟨r2,er2,vr2,or2,lr2⟩:=mkZ (v:=(zc1 (za3 t).parts)) (m:=L+1) (by have:=zgf ht hn (za3 t).parts.length;rw [List.take_length] at this;exact this)
  have vG:=vr2
  refine rq za0 16 [(1,.call (Fn.cast (SContent (za3 t) (ht.plain hn) hn (by omega)) (show vz (ZI.of (zc1 (za3 (za3 t)).parts))=vz r2 from by rw [ze6,er2])) tw_1)] [(2,vp 13 0),(3,vp 14 0),(4,vp 15 0),(5,vp 16 0)] [(13,.box zT0),(14,.box [cB false,.d (nsl [])]),(15,.box (zT (za3 t))),(16,.box (zi r2))] h fun a w h=>?_
  refine wp_seq (rqk za0 17 [(1,.call (Fn.cast (zht r2 or2 (by omega)) (congrArg (vi .i64) (zdh (by rw [vr2];exact hg0)))) td_6),(2,.cmp (op:=.eql) (m:=0) (n:=0) (b:=true) .i64 rfl)] [(2,vp 13 0),(3,vp 14 0),(4,vp 15 0),(5,vp 16 0),(14,vb true)] h fun a w h=>?_)
  refine zah true h rfl (fun _=>?_) nofun
  refine rq za0 17 [] [(2,vp 13 0),(3,vp 14 0),(4,vp 15 0),(5,vp 16 0)] [(13,.box (zT (za3 t))),(14,.box (zi r2)),(15,.box (zT (za3 t))),(16,.box (zi r2))] h fun a w h=>?_
  refine wp_ret (za8 ?_)
  refine zd0 [.agg (zT (za3 t)),.agg (zi r2)] h Exit.ret (.inl rfl)  rfl ⟨RV.agg _ 13 0 _ _ _ _ zf1 rfl rfl rfl rfl,RV.agg _ 14 0 _ _ _ _ zd3 rfl rfl rfl rfl,trivial⟩ ?_
  rw [show zc4 t=za3 t from if_pos hg0,er2];first | done | rfl
 have hg0:=con_ne hz
 obtain ⟨r4,er4,vr4,or4,lr4⟩:=mkZ (v:=(zc1 (za3 t).parts)) (m:=L+1) (by have:=zgf ht hn (za3 t).parts.length;rw [List.take_length] at this;exact this)
 have vG:=vr4
 refine rq za0 17 [(1,.call (Fn.cast (SContentW (za3 t) (ht.plain hn) hn (by omega) hz) (show vz (ZI.of (zc1 (za3 (za3 t)).parts))=vz r4 from by rw [ze6,er4])) tw_1)] [(2,vp 13 0),(3,vp 14 0),(4,vp 15 0),(5,vp 17 0)] [(13,.box zT0),(14,.box [cB false,.d (nsl [])]),(15,.box ([.own 9 (za3 t).parts.length]++zi (za3 t).k)),(9,.row 100 3 ((za3 t).parts.map za4.d)),(17,.box (zi r4))] h fun a w h=>?_
 refine wp_seq (rqk za0 18 [(1,.call (zht r4 or4 (by omega)) td_6),(2,.cmp (op:=.eql) (m:=(sgn r4.val)) (n:=0) (b:=false) .i64 (by rw [vr4];exact beq_eq_false_iff_ne.2 (fun e=>hg0 (sgn_eq0.1 e))))] [(2,vp 13 0),(3,vp 14 0),(4,vp 15 0),(5,vp 17 0),(14,vb false)] h fun a w h=>?_)
 refine zah false h rfl nofun (fun _=>?_)
 refine wp_skip (za2 (wp_seq (rqk za0 18 [] [(2,vp 13 0),(3,vp 14 0),(4,vp 15 0),(5,vp 17 0),(18,.t (.c (.own 9 (za3 t).parts.length))),(19,vI ((za3 t).parts.length:Int)),(20,vI 0)] h fun a w h=>?_)))
 refine wp_block ?_
 replace h:=cv (fun z_:List za4=>F.of [(2,vp 13 0),(3,vp 14 0),(4,vp 15 0),(5,vp 17 0),(18,.t (.c (.own 9 (za3 t).parts.length))),(19,vI ((za3 t).parts.length:Int)),(20,vI 0)] [(13,.box zT0),(14,.box [cB false,.d (nsl [])]),(15,.box ([.own 9 (za3 t).parts.length]++zi (za3 t).k)),(9,.row 100 3 (z_.map za4.d)),(17,.box (zi r4))]) (show ((za3 t).parts:List za4)=(((za3 t).parts.take 0).map (zg4 (zc1 (za3 t).parts))++(za3 t).parts.drop 0) from by simp) h
 refine zau (ι:=(Nat)) (fun j=>j≤(za3 t).parts.length)
   (fun j=>[(2,vp 13 0),(3,vp 14 0),(4,vp 15 0),(5,vp 17 0),(18,.t (.c (.own 9 (za3 t).parts.length))),(19,vI ((za3 t).parts.length:Int)),(20,vN j)])
   (fun j=>[(13,.box zT0),(14,.box [cB false,.d (nsl [])]),(15,.box ([.own 9 (za3 t).parts.length]++zi (za3 t).k)),(9,.row 100 3 ((((za3 t).parts.take j).map (zg4 (zc1 (za3 t).parts))++(za3 t).parts.drop j).map za4.d)),(17,.box (zi r4))])
   (fun j=>(za3 t).parts.length - j) 0 ?_ h (by kernel_rfl) (by kernel_rfl) ?_
 ·exact Nat.zero_le _
 clear h;rintro j a w hI h
 have hrl:(((za3 t).parts.take j).map (zg4 (zc1 (za3 t).parts))++(za3 t).parts.drop j).length=(za3 t).parts.length:=by rw [List.length_append,List.length_map,List.length_take,List.length_drop];omega
 refine rqk za0 18 [] [(2,vp 13 0),(3,vp 14 0),(4,vp 15 0),(5,vp 17 0),(18,.t (.c (.own 9 (za3 t).parts.length))),(19,vI ((za3 t).parts.length:Int)),(20,vN j),(21,vb (decide ((j:Int)<((za3 t).parts.length:Int))))] h fun a w h=>?_
 refine wp_seq ?_
 refine zam ((j:Int)<((za3 t).parts.length:Int)) h rfl (fun hc1 hc1'=>?_) (fun hc2 hc2'=>?_)
 ·refine wp_skip (za2 (wp_seq (wp_block ?_)))
  obtain ⟨x,hx⟩:∃ z_:za4,(za3 t).parts[j]?=some z_:=⟨_,List.getElem?_eq_getElem (by omega)⟩
  obtain ⟨ox,lx⟩:=(ht.plain hn).get hx
  refine rq za0 18 [(1,.g (xO 23 18 9 (za3 t).parts.length j zc3 (OV.tmp 20 _))),(2,.g (Op.loadR_agg (d:=24) (t:=23) (n:=9) (i:=j) (fo:=0) (rty:=100) (es:=3) (xs:=[.raw (.int .i64 x.v),.raw (.bool x.c.neg),nsl x.c.abs]) zg9 rfl (zaf (show ((((za3 t).parts.take j).map (zg4 (zc1 (za3 t).parts))++(za3 t).parts.drop j):List za4)[j]?=some x from mov_at hx) (f:=za4.d)) rfl rfl))] [(2,vp 13 0),(3,vp 14 0),(4,vp 15 0),(5,vp 17 0),(6,vN j),(7,vp 18 0),(18,.t (.c (.own 9 (za3 t).parts.length))),(19,vI ((za3 t).parts.length:Int)),(20,vN j)] [(13,.box zT0),(14,.box [cB false,.d (nsl [])]),(15,.box ([.own 9 (za3 t).parts.length]++zi (za3 t).k)),(9,.row 100 3 ((((za3 t).parts.take j).map (zg4 (zc1 (za3 t).parts))++(za3 t).parts.drop j).map za4.d)),(17,.box (zi r4)),(18,.box ([cI x.v]++zi x.c))] h fun a w h=>?_
  obtain ⟨r6,er6,vr6,or6,lr6⟩:=mkZ (v:=x.c.val.fdiv r4.val) (m:=x.c.abs.length) (zek ox (by rw [vG];exact hg0))
  refine rn za0 19 [(6,.call (Fn.cast (SExact x.c r4 ox or4 (by omega) (by omega) (by rw [vG];exact hg0) (by rw [vG];exact fmod_of_dvd (con_dvd _ x (lM hx)))) (show _=(.tup [.agg (zi r6),.c (cI 0)]:V) by rw [er6];first | done | rfl)) tw_7),(10,.g (xO 35 27 9 (za3 t).parts.length j zc3 (OV.tmp 28 _))),(12,.g (Op.storeR (t:=36) (n:=9) (i:=j) (fo:=1) (rty:=100) (es:=3) (r:=za4.d x) (ds:=[.raw (.bool r6.neg),nsl r6.abs]) (rs:=[(33,vz r6)]) (rows:=(((za3 t).parts.take j).map (zg4 (zc1 (za3 t).parts))++(za3 t).parts.drop j).map za4.d) (rows':=((((za3 t).parts.take j).map (zg4 (zc1 (za3 t).parts))++(za3 t).parts.drop j).set j (za4.mk x.v r6)).map za4.d) zd3 (OV.tmp 33 _) rfl rfl rfl (zaf (show ((((za3 t).parts.take j).map (zg4 (zc1 (za3 t).parts))++(za3 t).parts.drop j):List za4)[j]?=some x from mov_at hx) (f:=za4.d)) (by simp [za4.d]) (zcz (xs:=(((za3 t).parts.take j).map (zg4 (zc1 (za3 t).parts))++(za3 t).parts.drop j)) (F:=za4.d) j _ _ rfl)))] [(2,vp 13 0),(3,vp 14 0),(4,vp 15 0),(5,vp 17 0),(18,.t (.c (.own 9 (za3 t).parts.length))),(19,vI ((za3 t).parts.length:Int)),(20,vN j)] [(13,.box zT0),(14,.box [cB false,.d (nsl [])]),(15,.box ([.own 9 (za3 t).parts.length]++zi (za3 t).k)),(9,.row 100 3 (((((za3 t).parts.take j).map (zg4 (zc1 (za3 t).parts))++(za3 t).parts.drop j).set j (za4.mk x.v r6)).map za4.d)),(17,.box (zi r4))] h fun a w h=>?_
  refine zaa (za2 (rnk za0 19 [(0,.j1 j)] [(2,vp 13 0),(3,vp 14 0),(4,vp 15 0),(5,vp 17 0),(18,.t (.c (.own 9 (za3 t).parts.length))),(19,vI ((za3 t).parts.length:Int)),(20,vI ((j:Int)+1))] h fun a w h=>?_))
  refine za2 ?_
  have hdx:za4.mk x.v r6=zg4 (zc1 (za3 t).parts) x:=by rw [er6,vG];rfl
  rw [show (((((za3 t).parts.take j).map (zg4 (zc1 (za3 t).parts))++(za3 t).parts.drop j).set j (za4.mk x.v r6)):List za4)=(((za3 t).parts.take (j+1)).map (zg4 (zc1 (za3 t).parts))++(za3 t).parts.drop (j+1)) from by rw [hdx];exact mov_set hx] at h
  refine zaj (x:=j) (y:=(j+1)) h ?_ ?_
  ·have:=zag hx;omega
  show (za3 t).parts.length - (j+1)<(za3 t).parts.length - j
  have:=zag hx;omega
 refine wp_exit (zab (zab (za7 (za2 ?_))))
 obtain ⟨r7q,er7q,vr7q,or7q,lr7q⟩:=mkZ (v:=(za3 t).k.val.fdiv r4.val) (m:=(za3 t).k.abs.length) (zek (ht.plain hn).kb (by rw [vG];exact hg0))
 obtain ⟨r7r,er7r,vr7r,or7r,lr7r⟩:=mkZ (v:=(za3 t).k.val.fmod r4.val) (m:=r4.abs.length) (zfp or4 (by rw [vG];exact hg0))
 refine rq za0 19 [(3,.call (Fn.cast (SDiv (za3 t).k r4 (ht.plain hn).kb or4 (by omega) (by omega) (by rw [vG];exact hg0)) (show _=(.tup [.agg (zi r7q),.agg (zi r7r),.c (cI 0)]:V) by rw [er7q,er7r];first | done | rfl)) zs_20)] [(2,vp 13 0),(3,vp 14 0),(4,vp 15 0),(5,vp 17 0)] [(13,.box zT0),(14,.box [cB false,.d (nsl [])]),(15,.box ([.own 9 (za3 t).parts.length]++zi r7q)),(9,.row 100 3 ((((za3 t).parts.take j).map (zg4 (zc1 (za3 t).parts))++(za3 t).parts.drop j).map za4.d)),(17,.box (zi r4))] h fun a w h=>?_
 rw [show ((((za3 t).parts.take j).map (zg4 (zc1 (za3 t).parts))++(za3 t).parts.drop j):List za4)=((za3 t).parts.map (zg4 (zc1 (za3 t).parts))) from by rw [show j=(za3 t).parts.length by omega,List.take_length,List.drop_length,List.append_nil]] at h
 replace h:=h.conv (f':=F.of [(2,vp 13 0),(3,vp 14 0),(4,vp 15 0),(5,vp 17 0)] [(13,.box zT0),(14,.box [cB false,.d (nsl [])]),(15,.box ([.own 9 ((za3 t).parts.map (zg4 (zc1 (za3 t).parts))).length]++zi r7q)),(9,.row 100 3 (((za3 t).parts.map (zg4 (zc1 (za3 t).parts))).map za4.d)),(17,.box (zi r4))]) (by rw [show ((za3 t).parts.map (zg4 (zc1 (za3 t).parts))).length=(za3 t).parts.length from List.length_map _])
 replace h:=zgn 9 3 100 (((za3 t).parts.map (zg4 (zc1 (za3 t).parts))).map za4.d) [(2,vp 13 0),(3,vp 14 0),(4,vp 15 0),(5,vp 17 0)] [(13,.box zT0),(14,.box [cB false,.d (nsl [])]),(15,.box ([cPs ((za3 t).parts.map (zg4 (zc1 (za3 t).parts)))]++zi r7q)),(17,.box (zi r4))] h rfl trivial (show zbt _ [((za3 t).parts.map (zg4 (zc1 (za3 t).parts))).length] from ⟨by first | exact (List.length_map _).symm | simp,trivial⟩)
 refine rq za0 19 [] [(2,vp 13 0),(3,vp 14 0)] [(13,.box ([cPs ((za3 t).parts.map (zg4 (zc1 (za3 t).parts)))]++zi r7q)),(14,.box (zi r4))] h fun a w h=>?_
 refine wp_ret ?_
 refine zd0 [.agg ([cPs ((za3 t).parts.map (zg4 (zc1 (za3 t).parts)))]++zi r7q),.agg (zi r4)] h Exit.ret (.inl rfl)  rfl ⟨RV.agg _ 13 0 _ _ _ _ zf1 rfl rfl rfl rfl,RV.agg _ 14 0 _ _ _ _ zd3 rfl rfl rfl rfl,trivial⟩ ?_
 have hs:zc4 t=⟨(za3 t).parts.map (zg4 (zc1 (za3 t).parts)),r7q⟩:=by unfold zc4;rw [if_neg hg0,er7q,vG,show (za3 t).k.val=t.k.val from ZI.val_of _]
 rw [hs,er4];first | done | rfl
theorem SRShrink (t:zb9) {n L:Nat} (ht:TOk n L t) (hn:n≤1000) (hL:L≤10000):Fn Tryz.prog 101 [] [(vT t)] (.tup [.agg ((zc4 t).d.map C.d),.agg (zi (ZI.of (zc1 (za3 t).parts)))]) []:=by
 have lnp:=(ht.plain hn).len
 have lkp:=ht.kl
 have lvv:(zb4 t.parts).length=(za3 t).parts.length:=(List.length_map _).symm
 refine Fn.body Tryz.func101 rfl 66 rfl fun w H B a h=>?_
 refine rq za0 12 [] [(1,vp 12 0),(2,vp 13 0),(3,vp 14 0)] [(12,.box (zT t)),(13,.box zT0),(14,.box [cB false,.d (nsl [])])] h fun a w h=>?_
 obtain ⟨r1,er1,vr1,or1,lr1⟩:=mkZ (v:=(zc1 (za3 t).parts)) (m:=L+1) (by have:=zgf ht hn (za3 t).parts.length;rw [List.take_length] at this;exact this)
 have vG:=vr1
 refine rq za0 15 [(1,.call (Fn.cast (SRContent t ht hn (by omega)) (congrArg vz er1.symm)) tw_9)] [(1,vp 12 0),(2,vp 13 0),(3,vp 14 0),(4,vp 15 0)] [(12,.box (zT t)),(13,.box zT0),(14,.box [cB false,.d (nsl [])]),(15,.box (zi r1))] h fun a w h=>?_
 refine wp_seq (rqk za0 16 [(1,.call (zby r1 or1 (by omega)) zi4)] [(1,vp 12 0),(2,vp 13 0),(3,vp 14 0),(4,vp 15 0),(18,vb (sgn r1.val == 0))] h fun a w h=>?_)
 refine zah (sgn r1.val == 0) h rfl (fun hc1=>?_) (fun hc2=>?_)
 ·have hc1':=hc1;(try simp at hc1')
  have hg0:(zc1 (za3 t).parts)=0:=by rw [← vG];exact sgn_eq0.1 (by simpa using hc1)
  refine rq za0 16 [(1,.call (SRPlain' t ht hn (by omega)) tc_2)] [(1,vp 12 0),(2,vp 13 0),(3,vp 14 0),(4,vp 15 0)] [(12,.box (zT t)),(13,.box (zT (za3 t))),(14,.box [cB false,.d (nsl [])]),(15,.box (zi r1))] h fun a w h=>?_
  refine wp_ret (za8 ?_)
  refine zd0 [.agg (zT (za3 t)),.agg [cB false,.d (nsl [])]] h Exit.ret (.inl rfl)  rfl ⟨RV.agg _ 13 0 _ _ _ _ zf1 rfl rfl rfl rfl,RV.agg _ 14 0 _ _ _ _ zd3 rfl rfl rfl rfl,trivial⟩ ?_
  rw [show zc4 t=za3 t from if_pos hg0,hg0];first | done | rfl
 have hc2':=hc2;(try simp at hc2')
 have hg0:(zc1 (za3 t).parts)≠0:=by rw [← vG];intro e;rw [zdh e] at hc2;exact absurd hc2 (by decide)
 refine wp_skip (za2 (rq za0 16 [] [(1,vp 12 0),(2,vp 13 0),(3,vp 14 0),(4,vp 15 0),(5,vp 16 0)] [(12,.box (zT t)),(13,.box zT0),(14,.box [cB false,.d (nsl [])]),(15,.box (zi r1)),(16,.box zT0)] h fun a w h=>?_))
 replace h:=ze7 16 0 17 3 100 zT0 [(1,vp 12 0),(2,vp 13 0),(3,vp 14 0),(4,vp 15 0),(5,vp 16 0)] [(12,.box (zT t)),(13,.box zT0),(14,.box [cB false,.d (nsl [])]),(15,.box (zi r1)),(16,.box [.own 17 0,cB false,.d (nsl [])]),(17,.row 100 3 ([].map za4.d))] h (by kernel_rfl) rfl rfl
 refine rqk za0 18 [(1,.call (SVars t (ht.mono hn (by omega)).psok) tb_8)] [(1,vp 12 0),(2,vp 13 0),(3,vp 14 0),(4,vp 15 0),(5,vp 16 0),(6,(vIs (zb4 t.parts)))] h fun a w h=>?_
 refine wp_seq (rqk za0 18 [] [(1,vp 12 0),(2,vp 13 0),(3,vp 14 0),(4,vp 15 0),(5,vp 16 0),(6,(vIs (zb4 t.parts))),(7,vI 0)] h fun a w h=>?_)
 refine wp_block ?_
 refine zau (ι:=(Nat) × (List za4)) (fun (j,out)=>out=((zb4 t.parts).take j).map (fun v=>zg4 (zc1 (za3 t).parts) (zcq t.parts v))∧j≤(zb4 t.parts).length∧out.length≤j)
   (fun (j,out)=>[(1,vp 12 0),(2,vp 13 0),(3,vp 14 0),(4,vp 15 0),(5,vp 16 0),(6,(vIs (zb4 t.parts))),(7,vN j)])
   (fun (j,out)=>[(12,.box (zT t)),(13,.box zT0),(14,.box [cB false,.d (nsl [])]),(15,.box (zi r1)),(16,.box [.own 17 out.length,cB false,.d (nsl [])]),(17,.row 100 3 (out.map za4.d))])
   (fun (j,out)=>(zb4 t.parts).length - j) (0,[]) ?_ h (by kernel_rfl) (by kernel_rfl) ?_
 ·exact ⟨by simp,Nat.zero_le _,Nat.zero_le _⟩
 clear h;rintro ⟨j,out⟩ a w hI h
 dsimp only at h
 obtain ⟨hI1,hI2,hI3⟩:=hI
 refine wp_seq (rqk za0 18 [(2,.len (za9 1 zaw (zb4 t.parts)))] [(1,vp 12 0),(2,vp 13 0),(3,vp 14 0),(4,vp 15 0),(5,vp 16 0),(6,(vIs (zb4 t.parts))),(7,vN j),(28,vb (decide ((j:Int)<((zb4 t.parts).length:Int))))] h fun a w h=>?_)
 refine zam ((j:Int)<((zb4 t.parts).length:Int)) h rfl (fun hc3 hc3'=>?_) (fun hc4 hc4'=>?_)
 ·refine wp_skip (za2 (wp_seq (wp_block ?_)))
  obtain ⟨x5,hx5⟩:=gl (zb4 t.parts) j
  obtain ⟨r6,er6,vr6,or6,lr6⟩:=mkZ (v:=zat t.parts x5) (m:=L+1) (zep (ht.mono hn (Nat.le_refl L)).psok x5)
  obtain ⟨r7q,er7q,vr7q,or7q,lr7q⟩:=mkZ (v:=r6.val.fdiv r1.val) (m:=r6.abs.length) (zek or6 (by rw [vG];exact hg0))
  obtain ⟨r7r,er7r,vr7r,or7r,lr7r⟩:=mkZ (v:=r6.val.fmod r1.val) (m:=r1.abs.length) (zfp or1 (by rw [vG];exact hg0))
  refine rq za0 18 [(3,.g (xD 35 33 zig (zaf hx5 (f:=zaw)) (OV.tmp 34 _))),(5,.call (Fn.cast (SCoef t x5 (ht.mono hn (by omega)).psok) (congrArg vz er6.symm)) tb_4),(7,.call (Fn.cast (SRDiv r6 r1 or6 or1 (by omega) (by omega) (by rw [vG];exact hg0)) (show _=(.tup [.agg (zi r7q),.agg (zi r7r),.c (cI 0)]:V) by rw [er7q,er7r];first | done | rfl)) tw_15)] [(1,vp 12 0),(2,vp 13 0),(3,vp 14 0),(4,vp 15 0),(5,vp 16 0),(6,(vIs (zb4 t.parts))),(7,vN j),(8,vp 18 0)] [(12,.box (zT t)),(13,.box zT0),(14,.box [cB false,.d (nsl [])]),(15,.box (zi r1)),(16,.box [.own 17 out.length,cB false,.d (nsl [])]),(17,.row 100 3 (out.map za4.d)),(18,.box (zi r7q))] h fun a w h=>?_
  refine rn za0 20 [(4,.g (xD 47 45 zig (zaf hx5 (f:=zaw)) (OV.tmp 46 _))),(8,.g (bD 51 ([(za4.mk x5 r7q)].map za4.d) [(50,.t (.agg ([cI x5]++zi r7q)))] tb_9 (.cons (i:=0) (OV.tmp 50 _) (.nil)) (by kernel_rfl) (by simp [za4.d]))),(9,.g (aD 52 44 51 17 20 out [(za4.mk x5 r7q)] za4.d zf2 (by simp [za4.d])))] [(1,vp 12 0),(2,vp 13 0),(3,vp 14 0),(4,vp 15 0),(5,vp 16 0),(6,(vIs (zb4 t.parts))),(7,vN j)] [(12,.box (zT t)),(13,.box zT0),(14,.box [cB false,.d (nsl [])]),(15,.box (zi r1)),(16,.box ([.own 20 (out++[(za4.mk x5 r7q)]).length,cB false,.d (nsl [])])),(20,.row 100 3 ((out++[(za4.mk x5 r7q)]).map za4.d))] h fun a w h=>?_
  refine zaa (za2 (rnk za0 21 [(1,.j1 j)] [(1,vp 12 0),(2,vp 13 0),(3,vp 14 0),(4,vp 15 0),(5,vp 16 0),(6,(vIs (zb4 t.parts))),(7,vI ((j:Int)+1))] h fun a w h=>?_))
  refine za2 ?_
  replace h:=zbz 20 17 [(1,vp 12 0),(2,vp 13 0),(3,vp 14 0),(4,vp 15 0),(5,vp 16 0),(6,(vIs (zb4 t.parts))),(7,vI ((j:Int)+1))] [(12,.box (zT t)),(13,.box zT0),(14,.box [cB false,.d (nsl [])]),(15,.box (zi r1)),(16,.box ([.own 17 (out++[(za4.mk x5 r7q)]).length,cB false,.d (nsl [])])),(17,.row 100 3 ((out++[(za4.mk x5 r7q)]).map za4.d))] h
  refine zaj (x:=(j,out)) (y:=((j+1),(out++[(za4.mk x5 r7q)]))) h ?_ ?_
  ·have:=zag hx5
   have hd:zg4 (zc1 (za3 t).parts) (zcq t.parts x5)=za4.mk x5 r7q:=by rw [er7q,vr6,vG];simp only [zg4,zcq,ZI.val_of]
   exact ⟨by rw [zih hx5,← hI1,hd],by omega,by simp;omega⟩
  show (zb4 t.parts).length - (j+1)<(zb4 t.parts).length - j
  have:=zag hx5;omega
 refine wp_exit (zab (zab (za7 (za2 ?_))))
 have hj:j=(zb4 t.parts).length:=by omega
 rw [hj,List.take_length] at hI1
 replace h:=zgn 17 3 100 (out.map za4.d) [(1,vp 12 0),(2,vp 13 0),(3,vp 14 0),(4,vp 15 0),(5,vp 16 0),(6,(vIs (zb4 t.parts))),(7,vN j),(28,vb (decide ((j:Int)<((zb4 t.parts).length:Int))))] [(12,.box (zT t)),(13,.box zT0),(14,.box [cB false,.d (nsl [])]),(15,.box (zi r1)),(16,.box [cPs out,cB false,.d (nsl [])])] h rfl trivial (show zbt _ [out.length] from ⟨by first | exact (List.length_map _).symm | simp,trivial⟩)
 obtain ⟨r8q,er8q,vr8q,or8q,lr8q⟩:=mkZ (v:=t.k.val.fdiv r1.val) (m:=t.k.abs.length) (zek ht.kb (by rw [vG];exact hg0))
 obtain ⟨r8r,er8r,vr8r,or8r,lr8r⟩:=mkZ (v:=t.k.val.fmod r1.val) (m:=r1.abs.length) (zfp or1 (by rw [vG];exact hg0))
 refine rq za0 21 [(3,.call (Fn.cast (SRDiv t.k r1 ht.kb or1 (by omega) (by omega) (by rw [vG];exact hg0)) (show _=(.tup [.agg (zi r8q),.agg (zi r8r),.c (cI 0)]:V) by rw [er8q,er8r];first | done | rfl)) tw_15)] [(2,vp 13 0),(3,vp 14 0),(4,vp 15 0),(5,vp 16 0),(11,vp 21 0)] [(13,.box zT0),(14,.box [cB false,.d (nsl [])]),(15,.box (zi r1)),(16,.box [cPs out,cB false,.d (nsl [])]),(21,.box (zi r8q))] h fun a w h=>?_
 refine rq za0 23 [] [(2,vp 13 0),(3,vp 14 0),(4,vp 15 0),(5,vp 16 0)] [(13,.box zT0),(14,.box [cB false,.d (nsl [])]),(15,.box (zi r1)),(16,.box ([cPs out]++zi r8q))] h fun a w h=>?_
 refine rq za0 23 [] [(2,vp 13 0),(3,vp 14 0)] [(13,.box ([cPs out]++zi r8q)),(14,.box (zi r1))] h fun a w h=>?_
 refine wp_ret ?_
 refine zd0 [.agg ([cPs out]++zi r8q),.agg (zi r1)] h Exit.ret (.inl rfl)  rfl ⟨RV.agg _ 13 0 _ _ _ _ zf1 rfl rfl rfl rfl,RV.agg _ 14 0 _ _ _ _ zd3 rfl rfl rfl rfl,trivial⟩ ?_
 have hs:zc4 t=⟨out,r8q⟩:=by unfold zc4;rw [if_neg hg0,hI1,er8q,vG];congr 1;exact List.map_map
 rw [hs,er1];first | done | rfl
end
section
open Go.RowKit

theorem tx_2:za6 Tryz.prog 158:=za6.mk' (by kernel_rfl)
theorem tx_4:za6 Tryz.prog 42:=za6.mk' (by kernel_rfl)
theorem tx_6:za6 Tryz.prog 157:=za6.mk' (by kernel_rfl)
theorem tx_8:za6 Tryz.prog 159:=za6.mk' (by kernel_rfl)
theorem tx_9:za6 Tryz.prog 137:=za6.mk' (by kernel_rfl)
def orZ:List Int→Int
  | []=>0
  | x :: xs=>if x≠0 then x else orZ xs
theorem orZ_at {xs:List Int} {j:Nat} {x:Int} (h:xs[j]?=some x):orZ (xs.drop j)=if x≠0 then x else orZ (xs.drop (j+1)):=by
 obtain ⟨hj,rfl⟩:=List.getElem?_eq_some_iff.1 h
 rw [List.drop_eq_getElem_cons hj];rfl
def cmpP (p q:za4):Int:=orZ [zbc p.v q.v,zbc p.c.val q.c.val]
def zdy:List za4→List za4→Int
  | [],[]=>0
  | [],_ :: _=>-1
  | _ :: _,[]=>1
  | p :: ps,q :: qs=>if cmpP p q≠0 then cmpP p q else zdy ps qs
def zfx (s t:zb9):Int:=orZ [zdy (za3 s).parts (za3 t).parts,zbc (za3 s).k.val (za3 t).k.val]
theorem cps_at {xs ys:List za4} {j:Nat} {p q:za4} (h:xs[j]?=some p) (k:ys[j]?=some q):zdy (xs.drop j) (ys.drop j)=if cmpP p q≠0 then cmpP p q else zdy (xs.drop (j+1)) (ys.drop (j+1)):=by
 obtain ⟨hj,rfl⟩:=List.getElem?_eq_some_iff.1 h
 obtain ⟨kj,rfl⟩:=List.getElem?_eq_some_iff.1 k
 rw [List.drop_eq_getElem_cons hj,List.drop_eq_getElem_cons kj];rfl
theorem cps_end {xs ys:List za4} {j:Nat} (_h:j≤xs.length) (_k:j≤ys.length):(j=ys.length→j<xs.length→zdy (xs.drop j) (ys.drop j)=1)∧(j=xs.length→j<ys.length→zdy (xs.drop j) (ys.drop j)=-1)∧(j=xs.length→j=ys.length→zdy (xs.drop j) (ys.drop j)=0):=by
 refine ⟨fun h1 h2=>?_,fun h1 h2=>?_,fun h1 h2=>?_⟩
 ·rw [List.drop_eq_getElem_cons h2,List.drop_of_length_le (l:=ys) (by omega)];rfl
 ·rw [List.drop_eq_getElem_cons h2,List.drop_of_length_le (l:=xs) (by omega)];rfl
 ·rw [List.drop_of_length_le (l:=xs) (by omega),List.drop_of_length_le (l:=ys) (by omega)];rfl
theorem SOr (xs:List Int) (hl:xs.length≤1000000):Fn Tryz.prog 42 [] [(vIs xs)] (vI (orZ xs)) []:=by
 refine Fn.body Tryz.func42 rfl 18 rfl fun w H B a h=>?_
 refine rq za0 0 [] [(0,(vIs xs)),(2,vI 0)] [] h fun a w h=>?_
 refine rq za0 0 [] [(0,(vIs xs)),(2,vI 0),(3,vI 0)] [] h fun a w h=>?_
 refine wp_seq (rq za0 0 [(1,.len (za9 1 zaw xs))] [(2,vI 0),(3,vI 0),(6,(vIs xs)),(7,vN xs.length),(8,vI 0)] [] h fun a w h=>?_)
 refine wp_block ?_
 refine zau (ι:=(Nat)) (fun j=>j≤xs.length∧orZ xs=orZ (xs.drop j))
   (fun j=>[(3,vI 0),(6,(vIs xs)),(7,vN xs.length),(8,vN j)])
   (fun j=>[])
   (fun j=>xs.length - j) 0 ?_ h (by kernel_rfl) (by kernel_rfl) ?_
 ·exact ⟨Nat.zero_le _,rfl⟩
 clear h;rintro j a w hI h
 obtain ⟨hI1,hI2⟩:=hI
 refine rq za0 0 [] [(3,vI 0),(6,(vIs xs)),(7,vN xs.length),(8,vN j),(9,vb (decide ((j:Int)<(xs.length:Int))))] [] h fun a w h=>?_
 refine wp_seq ?_
 refine zam ((j:Int)<(xs.length:Int)) h rfl (fun hc1 hc1'=>?_) (fun hc4 hc4'=>?_)
 ·refine wp_skip (za2 (wp_seq (wp_block ?_)))
  obtain ⟨x1,hx1⟩:=gl xs j
  refine rq za0 0 [(0,.g (xD 10 6 zig (zaf hx1 (f:=zaw)) (OV.tmp 8 _)))] [(3,vI 0),(5,vI x1),(6,(vIs xs)),(7,vN xs.length),(8,vN j)] [] h fun a w h=>?_
  refine rq za0 0 [] [(3,vI 0),(5,vI x1),(6,(vIs xs)),(7,vN xs.length),(8,vN j),(14,vb (x1 != 0))] [] h fun a w h=>?_
  refine zah (x1 != 0) h rfl (fun hc2=>?_) (fun hc3=>?_)
  ·have hc2':=hc2;(try simp at hc2')
   refine rq za0 0 [] [(2,vI x1),(3,vI 0),(6,(vIs xs)),(7,vN xs.length),(8,vN j)] [] h fun a w h=>?_
   refine wp_ret (zad (za8 (za8 (zad (za8 ?_)))))
   refine rT (.c (cI x1)) h rfl rfl ?_
   rw [hI2,orZ_at hx1,if_pos (by simpa using hc2)];first | done | rfl
  have hc3':=hc3;(try simp at hc3')
  refine wp_skip (zaa (za2 (rn za0 0 [(0,.j1 j)] [(3,vI 0),(6,(vIs xs)),(7,vN xs.length),(8,vI ((j:Int)+1))] [] h fun a w h=>?_)))
  refine za2 ?_
  refine zaj (x:=j) (y:=(j+1)) h ?_ ?_
  ·have:=zag hx1
   exact ⟨by omega,by rw [hI2,orZ_at hx1,if_neg (by simpa using hc3)]⟩
  show xs.length - (j+1)<xs.length - j
  have:=zag hx1;omega
 refine wp_exit (zab (zab (za7 (za2 (rq za0 0 [] [(2,vI 0)] [] h fun a w h=>?_)))))
 refine wp_ret ?_
 refine rT (.c (cI 0)) h rfl rfl ?_
 rw [hI2,List.drop_of_length_le (by omega)];first | done | rfl
theorem SCmpP (p q:za4) (hp:Lb p.c.abs) (hq:Lb q.c.abs) (lp:p.c.abs.length≤49000) (lq:q.c.abs.length≤49000):Fn Tryz.prog 157 [] [.t (.agg ([cI p.v]++zi p.c)),.t (.agg ([cI q.v]++zi q.c))] (vI (cmpP p q)) []:=by
 refine Fn.body Tryz.func157 rfl 17 rfl fun w H B a h=>?_
 refine rq za0 0 [] [(2,vp 0 0),(3,vp 1 0),(4,vI 0)] [(0,.box ([cI p.v]++zi p.c)),(1,.box ([cI q.v]++zi q.c))] h fun a w h=>?_
 refine rq za0 2 [(4,.call (zh5 p.v q.v) td_5),(9,.call (SCmp p.c q.c hp hq (by omega) (by omega)) tx_2),(10,.g (Op.buildD (d:=15) (len:=2) (rows:=[zbc p.v q.v,(zbc p.c.val q.c.val)].map zaw) (rs:=[(9,vI (zbc p.v q.v)),(14,vI (zbc p.c.val q.c.val))]) tb_0 (.cons (i:=0) (OV.tmp 9 _) (.cons (i:=1) (OV.tmp 14 _) (.nil))) (by kernel_rfl) rfl (by simp [zaw]) (by decide) (by decide))),(11,.call (SOr [zbc p.v q.v,(zbc p.c.val q.c.val)] (show List.length _≤1000000 from by simp)) tx_4)] [(4,vI (orZ [zbc p.v q.v,(zbc p.c.val q.c.val)]))] [] h fun a w h=>?_
 refine wp_ret ?_
 refine rT (.c (cI (orZ [zbc p.v q.v,(zbc p.c.val q.c.val)]))) h rfl rfl ?_
 rfl
theorem SCompareF (xs ys:List za4) (hx:PsOk 40000 xs) (hy:PsOk 40000 ys):Fn Tryz.prog 159 [] [(vPs xs),(vPs ys),.t (.c (.fn (.func 157) [] []))] (vI (zdy xs ys)) []:=by
 have lnx:=hx.1
 have lny:=hy.1
 refine Fn.body Tryz.func159 rfl 39 rfl fun w H B a h=>?_
 refine rq za0 0 [] [(0,(vPs xs)),(1,(vPs ys)),(2,.t (.c (.fn (.func 157) [] []))),(6,vI 0)] [] h fun a w h=>?_
 refine wp_seq (rq za0 0 [(1,.len (za9 3 za4.d xs))] [(0,(vPs xs)),(1,(vPs ys)),(2,.t (.c (.fn (.func 157) [] []))),(6,vI 0),(11,(vPs xs)),(12,vN xs.length),(13,vI 0)] [] h fun a w h=>?_)
 refine wp_block ?_
 refine zau (ι:=(Nat)) (fun j=>j≤xs.length∧j≤ys.length∧zdy xs ys=zdy (xs.drop j) (ys.drop j))
   (fun j=>[(0,(vPs xs)),(1,(vPs ys)),(2,.t (.c (.fn (.func 157) [] []))),(11,(vPs xs)),(12,vN xs.length),(13,vN j)])
   (fun j=>[])
   (fun j=>xs.length - j) 0 ?_ h (by kernel_rfl) (by kernel_rfl) ?_
 ·exact ⟨Nat.zero_le _,Nat.zero_le _,rfl⟩
 clear h;rintro j a w hI h
 obtain ⟨hI1,hI2,hI3⟩:=hI
 have hce:=cps_end hI1 hI2
 have lnx:=hx.1
 have lny:=hy.1
 refine rq za0 0 [] [(0,(vPs xs)),(1,(vPs ys)),(2,.t (.c (.fn (.func 157) [] []))),(11,(vPs xs)),(12,vN xs.length),(13,vN j),(14,vb (decide ((j:Int)<(xs.length:Int))))] [] h fun a w h=>?_
 refine wp_seq ?_
 refine zam ((j:Int)<(xs.length:Int)) h rfl (fun hc1 hc1'=>?_) (fun hc6 hc6'=>?_)
 ·refine wp_skip (za2 (wp_seq (wp_block ?_)))
  obtain ⟨x1,hx1⟩:=gl xs j
  obtain ⟨ox1,lx1⟩:=hx.get hx1
  refine rq za0 0 [(1,.g (xD 16 11 zc3 (zaf hx1 (f:=za4.d)) (OV.tmp 13 _)))] [(0,(vPs xs)),(1,(vPs ys)),(2,.t (.c (.fn (.func 157) [] []))),(7,vN j),(8,vp 0 0),(11,(vPs xs)),(12,vN xs.length),(13,vN j)] [(0,.box ([cI x1.v]++zi x1.c))] h fun a w h=>?_
  refine wp_seq (rqk za0 1 [(2,.len (za9 3 za4.d ys))] [(0,(vPs xs)),(1,(vPs ys)),(2,.t (.c (.fn (.func 157) [] []))),(7,vN j),(8,vp 0 0),(11,(vPs xs)),(12,vN xs.length),(13,vN j),(21,vb (decide ((j:Int)≥(ys.length:Int))))] h fun a w h=>?_)
  refine zam ((j:Int)≥(ys.length:Int)) h rfl (fun hc2 hc2'=>?_) (fun hc3 hc3'=>?_)
  ·refine rqk za0 1 [] [(0,(vPs xs)),(1,(vPs ys)),(2,.t (.c (.fn (.func 157) [] []))),(6,vI 1),(7,vN j),(8,vp 0 0),(11,(vPs xs)),(12,vN xs.length),(13,vN j)] h fun a w h=>?_
   refine wp_ret (za8 (zad (za8 (za8 (zad (za8 ?_))))))
   refine rT (.c (cI 1)) h rfl rfl ?_
   rw [hI3,hce.1 (by omega) (by omega)];first | done | rfl
  refine wp_skip (za2 ?_)
  obtain ⟨x2,hx2⟩:=gl ys j
  obtain ⟨ox2,lx2⟩:=hy.get hx2
  refine rq za0 1 [(2,.g (xD 24 22 zc3 (zaf hx2 (f:=za4.d)) (OV.tmp 23 _)))] [(0,(vPs xs)),(1,(vPs ys)),(2,.t (.c (.fn (.func 157) [] []))),(8,vp 0 0),(9,vp 1 0),(11,(vPs xs)),(12,vN xs.length),(13,vN j)] [(0,.box ([cI x1.v]++zi x1.c)),(1,.box ([cI x2.v]++zi x2.c))] h fun a w h=>?_
  refine rq za0 2 [(3,.g (Op.callV (d:=29) (t:=26) (cap:=[]) (args:=[.t (.agg ([cI x1.v]++zi x1.c)),.t (.agg ([cI x2.v]++zi x2.c))]) (rs:=[(27,.t (.agg ([cI x1.v]++zi x1.c))),(28,.t (.agg ([cI x2.v]++zi x2.c)))]) (tys:=#[100,100]) (SCmpP x1 x2 ox1 ox2 (by omega) (by omega)) tx_6 (OVs.cons (OV.tmp 27 _) (OVs.cons (OV.tmp 28 _) (OVs.nil)))))] [(0,(vPs xs)),(1,(vPs ys)),(2,.t (.c (.fn (.func 157) [] []))),(10,vI (cmpP x1 x2)),(11,(vPs xs)),(12,vN xs.length),(13,vN j)] [] h fun a w h=>?_
  refine rq za0 2 [] [(0,(vPs xs)),(1,(vPs ys)),(2,.t (.c (.fn (.func 157) [] []))),(10,vI (cmpP x1 x2)),(11,(vPs xs)),(12,vN xs.length),(13,vN j),(31,vb ((cmpP x1 x2) != 0))] [] h fun a w h=>?_
  refine zah ((cmpP x1 x2) != 0) h rfl (fun hc4=>?_) (fun hc5=>?_)
  ·have hc4':=hc4;(try simp at hc4')
   refine rq za0 2 [] [(0,(vPs xs)),(1,(vPs ys)),(2,.t (.c (.fn (.func 157) [] []))),(6,vI (cmpP x1 x2)),(11,(vPs xs)),(12,vN xs.length),(13,vN j)] [] h fun a w h=>?_
   refine wp_ret (zad (za8 (za8 (zad (za8 ?_)))))
   refine rT (.c (cI (cmpP x1 x2))) h rfl rfl ?_
   rw [hI3,cps_at hx1 hx2,if_pos (by simpa using hc4)];first | done | rfl
  have hc5':=hc5;(try simp at hc5')
  refine wp_skip (zaa (za2 (rn za0 2 [(0,.j1 j)] [(0,(vPs xs)),(1,(vPs ys)),(2,.t (.c (.fn (.func 157) [] []))),(11,(vPs xs)),(12,vN xs.length),(13,vI ((j:Int)+1))] [] h fun a w h=>?_)))
  refine za2 ?_
  refine zaj (x:=j) (y:=(j+1)) h ?_ ?_
  ·have:=zag hx1
   have:=zag hx2
   exact ⟨by omega,by omega,by rw [hI3,cps_at hx1 hx2,if_neg (by simpa using hc5)]⟩
  show xs.length - (j+1)<xs.length - j
  have:=zag hx1;omega
 refine wp_exit (zab (zab (za7 (za2 (wp_seq (rq za0 2 [(1,.len (za9 3 za4.d xs)),(3,.len (za9 3 za4.d ys))] [(38,vb (decide ((xs.length:Int)<(ys.length:Int))))] [] h fun a w h=>?_))))))
 refine zam ((xs.length:Int)<(ys.length:Int)) h rfl (fun hc7 hc7'=>?_) (fun hc8 hc8'=>?_)
 ·refine rq za0 2 [] [(6,vI (-1))] [] h fun a w h=>?_
  refine wp_ret (za8 ?_)
  refine rT (.c (cI (-1))) h rfl rfl ?_
  rw [hI3,hce.2.1 (by omega) (by omega)];first | done | rfl
 refine wp_skip (za2 (rq za0 2 [] [(6,vI 0)] [] h fun a w h=>?_))
 refine wp_ret ?_
 refine rT (.c (cI 0)) h rfl rfl ?_
 rw [hI3,hce.2.2 (by omega) (by omega)];first | done | rfl
theorem STCmp (s t:zb9) {n L:Nat} (hs:TOk n L s) (ht:TOk n L t) (hn:n≤1000) (hL:L≤20000):Fn Tryz.prog 137 [] [(vT s),(vT t)] (vI (zfx s t)) []:=by
 have lks:=(hs.plain hn).kl
 have lkt:=(ht.plain hn).kl
 refine Fn.body Tryz.func137 rfl 23 rfl fun w H B a h=>?_
 refine rq za0 0 [] [(2,vp 0 0),(3,vp 1 0),(4,vI 0)] [(0,.box (zT s)),(1,.box (zT t))] h fun a w h=>?_
 refine rq za0 2 [(1,.call (zfg s hs hn (by omega)) tm_7),(3,.call (zfg t ht hn (by omega)) tm_7)] [(2,vp 0 0),(3,vp 1 0),(4,vI 0)] [(0,.box (zT (za3 s))),(1,.box (zT (za3 t)))] h fun a w h=>?_
 refine rqk za0 2 [] [(2,vp 0 0),(3,vp 1 0),(4,vI 0),(5,.t (.c (.fn (.func 157) [] [])))] h fun a w h=>?_
 refine rq za0 2 [(5,.call (SCompareF (za3 s).parts (za3 t).parts ((hs.plain hn).mono hn (by omega)).psok ((ht.plain hn).mono hn (by omega)).psok) tx_8),(10,.call (SCmp (za3 s).k (za3 t).k (hs.plain hn).kb (ht.plain hn).kb (by omega) (by omega)) tx_2),(11,.g (Op.buildD (d:=21) (len:=2) (rows:=[(zdy (za3 s).parts (za3 t).parts),(zbc (za3 s).k.val (za3 t).k.val)].map zaw) (rs:=[(15,vI (zdy (za3 s).parts (za3 t).parts)),(20,vI (zbc (za3 s).k.val (za3 t).k.val))]) tb_0 (.cons (i:=0) (OV.tmp 15 _) (.cons (i:=1) (OV.tmp 20 _) (.nil))) (by kernel_rfl) rfl (by simp [zaw]) (by decide) (by decide))),(12,.call (SOr [(zdy (za3 s).parts (za3 t).parts),(zbc (za3 s).k.val (za3 t).k.val)] (show List.length _≤1000000 from by simp)) tx_4)] [(4,vI (orZ [(zdy (za3 s).parts (za3 t).parts),(zbc (za3 s).k.val (za3 t).k.val)]))] [] h fun a w h=>?_
 refine wp_ret ?_
 refine rT (.c (cI (orZ [(zdy (za3 s).parts (za3 t).parts),(zbc (za3 s).k.val (za3 t).k.val)]))) h rfl rfl ?_
 rfl
end
section
open Go.RowKit
end
section
open Go.RowKit

theorem ty_2:za6 Tryz.prog 140:=za6.mk' (by kernel_rfl)
theorem ty_5:ElZ Tryz.prog 28 53 2:=ElZ.mk' Tryz.underlying28 _ _ rfl rfl (by kernel_rfl) (by kernel_rfl) (by kernel_rfl) (by decide)
theorem ty_6:za6 Tryz.prog 78:=za6.mk' (by kernel_rfl)
theorem cmpZ_self' (x:Int):zbc x x=0:=cmpZ_eq rfl
end
section
open Go.RowKit

theorem ua_5:za6 Tryz.prog 101:=za6.mk' (by kernel_rfl)
theorem shr_plain (t:zb9):za3 (zc4 t)=zc4 t:=by
 unfold zc4
 split
 ·exact zbp _
 ·rename_i hg
  obtain ⟨h1,h2,h3⟩:=zc6 t
  refine plainT_eq ?_ (fun q hq=>?_) (fun v=>rfl) (by simp [ZI.val_of])
  ·show List.Pairwise _ ((za3 t).parts.map (zg4 _))
   exact List.pairwise_map.2 h1
  ·obtain ⟨p,hp,rfl⟩:=List.mem_map.1 hq
   obtain ⟨k1,k2,k3⟩:=h2 p hp
   refine ⟨k1,by simp [zg4,ZI.val_of],?_⟩
   simp only [zg4,ZI.val_of]
   intro e
   obtain ⟨c,hc⟩:=con_dvd _ p hp
   rw [hc,Int.mul_fdiv_cancel_left _ hg] at e
   exact k3 (by rw [hc,e,Int.mul_zero])
theorem shr_tok {n L:Nat} {t:zb9} (h:TOk n L t) (hn:n≤1000):TOk n (L+1) (zc4 t):=by
 unfold zc4
 split
 ·exact h.plain hn
 ·rename_i hg
  have hp:=h.plain hn
  have lg:(zc1 (za3 t).parts)≠0:=hg
  refine ⟨by simp only [List.length_map];exact hp.len,fun q hq=>?_,ZI.lb_of _,?_⟩
  ·obtain ⟨p,hp2,rfl⟩:=List.mem_map.1 hq
   obtain ⟨k1,k2⟩:=hp.ps p hp2
   refine ⟨ZI.lb_of _,ZI.len_of ?_⟩
   exact Nat.lt_of_le_of_lt (ze3 _ hg) (Nat.lt_of_lt_of_le (ZI.abs_lt k1) (zdo k2))
  ·exact ZI.len_of (Nat.lt_of_le_of_lt (ze3 _ hg) (Nat.lt_of_lt_of_le (ZI.abs_lt h.kb) (zdo (Nat.le_trans h.kl (Nat.le_succ L)))))
end
section
open Go.RowKit

theorem ub_1:za6 Tryz.prog 77:=za6.mk' (by kernel_rfl)
def sumV (f:Int→Int):Nat→Int
  | 0=>0
  | n+1=>sumV f n+f (n:Int)
theorem sumV_add (f g:Int→Int):∀ n,sumV (fun v=>f v+g v) n=sumV f n+sumV g n
 | 0=>rfl
 | n+1=>by simp only [sumV,sumV_add f g n];omega
theorem zha {f g:Int→Int}:∀ n:Nat,(∀ v:Int,f v=g v)→sumV f n=sumV g n
 | 0,_=>rfl
 | n+1,h=>by simp only [sumV,zha n h,h]
theorem sumV_one (a c:Int) (g:Int→Int):∀ n:Nat,sumV (fun v=>(if a=v∧0≤v then c else 0)*g v) n=if 0≤a∧a<(n:Int) then c*g a else 0
 | 0=>by rw [if_neg (by omega)];rfl
 | n+1=>by
  simp only [sumV,sumV_one a c g n]
  by_cases h:a=(n:Int)
  ·subst h
   rw [if_neg (by omega),if_pos ⟨rfl,by omega⟩,if_pos (by omega),Int.zero_add]
  ·rw [if_neg (show ¬(a=(n:Int)∧0≤(n:Int)) from fun e=>h e.1),Int.zero_mul,Int.add_zero]
   by_cases k:0≤a∧a<(n:Int)
   ·rw [if_pos k,if_pos (by omega)]
   ·rw [if_neg k,if_neg (by omega)]
theorem valP_sum (vs:List ZI):∀ ps:List za4,zfs vs ps=sumV (fun v=>zat ps v*zft vs v) vs.length
 | []=>by
  have:∀ n:Nat,sumV (fun v=>zat [] v*zft vs v) n=0:=by
   intro n
   induction n with
   | zero=>rfl
   | succ n ih=>simp only [sumV,zat,Int.zero_mul] at ih ⊢;omega
  rw [this];rfl
 | p :: ps=>by
  rw [zha (g:=fun v=>(if p.v=v∧0≤v then p.c.val else 0)*zft vs v+zat ps v*zft vs v) _ (fun v=>by simp only [zat];rw [Int.add_mul]),sumV_add,sumV_one,← valP_sum vs ps]
  simp only [zfs]
  congr 1
  by_cases h:0≤p.v∧p.v<(vs.length:Int)
  ·rw [if_pos h]
  ·rw [if_neg h]
   by_cases k:0≤p.v
   ·rw [valAt_out (fun e=>h ⟨k,e⟩),Int.mul_zero]
   ·rw [valAt_neg k,Int.mul_zero]
theorem valP_congr {ps qs:List za4} (vs:List ZI) (h:∀ v,zat ps v=zat qs v):zfs vs ps=zfs vs qs:=by
 rw [valP_sum,valP_sum];exact zha _ fun v=>by rw [h]
theorem val_plain (t:zb9) (vs:List ZI):valT (za3 t) vs=valT t vs:=by
 unfold valT
 rw [valP_congr vs (zc6 t).2.2,show (za3 t).k.val=t.k.val from ZI.val_of _]
end
section
open Go.RowKit

def zR:zac:=⟨⟨[],⟨false,[]⟩⟩,false⟩
def cpR (r:zac):zac:=⟨za3 r.t,r.eq⟩
def zcf (b:Bool):za1:=⟨if b=true then 0 else 1,zR,[]⟩
def zb8 (r:zac):za1:=⟨2,cpR r,[]⟩
def zh1 (t:zac→zac) (k:Int) (r:zac) (cs:List za1):za1:=if k=0 then zcf true else if k=2 then ⟨2,t (cpR r),[]⟩ else if k=3∨k=4∨k=5 then ⟨k,zR,cnt k cs⟩ else zcf false
def za1.each (t:zac→zac) (f:za1):za1:=f.fold fun k r _ cs=>zh1 t k r cs
theorem za1.each_eq (t:zac→zac) (f:za1):f.each t=zh1 t f.kind f.r (f.kids.map (za1.each t)):=za1.fold_eq _ f
def za1.cl (f:za1):za1:=f.each id
theorem cl_eq (f:za1):f.cl=zh1 id f.kind f.r (f.kids.map za1.cl):=za1.each_eq id f
def denyF (f:za1):za1:=⟨3,zR,[f.cl]⟩
def allF (fs:List za1):za1:=⟨4,zR,fs.map za1.cl⟩
def za1.rels (P:zac→Prop) (f:za1):Prop:=f.fold fun k r _ ps=>(k=2→P r)∧∀ p ∈ cnt k ps,p
theorem za1.rels_eq (P:zac→Prop) (f:za1):f.rels P ↔ (f.kind=2→P f.r)∧∀ g ∈ cnt f.kind f.kids,g.rels P:=by
 have:=za1.fold_eq (fun k r _ (ps:List Prop)=>(k=2→P r)∧∀ p ∈ cnt k ps,p) f
 rw [ze4] at this
 unfold za1.rels
 rw [this]
 refine and_congr_right fun _=>⟨fun h g hg=>h _ (List.mem_map.2 ⟨g,hg,rfl⟩),fun h p hp=>?_⟩
 obtain ⟨g,hg,rfl⟩:=List.mem_map.1 hp
 exact h g hg
theorem cpR_cpR (r:zac):cpR (cpR r)=cpR r:=by unfold cpR;rw [zbp]
theorem relOk_cp (vs:List ZI) (r:zac):zar vs (cpR r)=zar vs r:=by unfold zar cpR;simp only [val_plain]
theorem cnt_cnt {α:Type} (k:Int) (xs:List α):cnt k (cnt k xs)=cnt k xs:=by
 unfold cnt
 split
 ·rfl
 ·split
  ·rw [List.take_take];rfl
  ·rfl
theorem zeb (t:zac→zac) {k:Int} (r:zac) (cs:List za1) (h:k=3∨k=4∨k=5):zh1 t k r cs=⟨k,zR,cnt k cs⟩:=by
 unfold zh1
 rw [if_neg (by omega),if_neg (by omega),if_pos h]
theorem zh0 (t:zac→zac) {k:Int} (r:zac) (cs:List za1) (h0:k≠0) (h2:k≠2) (h:¬ (k=3∨k=4∨k=5)):zh1 t k r cs=zcf false:=by
 unfold zh1
 rw [if_neg h0,if_neg h2,if_neg h]
theorem each_nil (t:zac→zac):(zcf true).each t=zcf true∧(zcf false).each t=zcf false:=⟨by rw [za1.each_eq];rfl,by rw [za1.each_eq];rfl⟩
theorem each_cl (t:zac→zac) (f:za1):f.cl.each t=f.each t :=
 za1.ind (P:=fun f=>f.cl.each t=f.each t) (fun k r ks ih=>by
  have e1:(za1.mk k r ks).cl=zh1 id k r (ks.map za1.cl):=cl_eq _
  have e2:(za1.mk k r ks).each t=zh1 t k r (ks.map (za1.each t)):=za1.each_eq t _
  rw [e1,e2]
  by_cases h0:k=0
  ·subst h0;exact (each_nil t).1
  ·by_cases h2:k=2
   ·subst h2
    show (za1.mk 2 (cpR r) []).each t=_
    rw [za1.each_eq]
    show za1.mk 2 (t (cpR (cpR r))) []=_
    rw [cpR_cpR];rfl
   ·by_cases h3:k=3∨k=4∨k=5
    ·rw [zeb _ _ _ h3,zeb _ _ _ h3,za1.each_eq]
     show zh1 t k zR ((cnt k (ks.map za1.cl)).map (za1.each t))=_
     rw [zeb _ _ _ h3,← ze4,cnt_cnt,List.map_map]
     congr 2
     exact List.map_congr_left fun g hg=>ih g hg
    ·rw [zh0 _ _ _ h0 h2 h3,zh0 _ _ _ h0 h2 h3];exact (each_nil t).2) f
theorem cl_cl (f:za1):f.cl.cl=f.cl:=each_cl id f
theorem tru_holds (vs:List ZI) (b:Bool):(zcf b).holds vs=b:=by
 rw [za1.holds_eq]
 cases b <;> rfl
theorem hold_case (vs:List ZI) {k:Int} (r:zac) (ks:List za1) (h:k=3∨k=4∨k=5):(za1.mk k r ks).holds vs=if k=3 then (match ks with | []=>false | g :: _=>!g.holds vs) else if k=4 then ks.all (za1.holds vs) else ks.any (za1.holds vs):=by
 rw [za1.holds_eq]
 show (if k=0 then _ else if k=2 then _ else if k=3 then _ else if k=4 then _ else if k=5 then _ else _)=_
 rw [if_neg (by omega),if_neg (by omega)]
 rcases h with h | h | h <;> subst h <;> rfl
theorem each_holds {t:zac→zac} {vs ws:List ZI} (f:za1):f.rels (fun r=>zar vs (t (cpR r))=zar ws r)→(f.each t).holds vs=f.holds ws :=
 za1.ind (P:=fun f=>f.rels (fun r=>zar vs (t (cpR r))=zar ws r)→(f.each t).holds vs=f.holds ws) (fun k r ks ih hf=>by
  obtain ⟨h1,h2⟩:=(za1.rels_eq _ _).1 hf
  change k=2→_ at h1
  change ∀ g ∈ cnt k ks,_ at h2
  rw [za1.each_eq]
  show (zh1 t k r (ks.map (za1.each t))).holds vs=_
  by_cases h0:k=0
  ·subst h0
   show (zcf true).holds vs=_
   rw [tru_holds,za1.holds_eq];rfl
  ·by_cases hk2:k=2
   ·subst hk2
    show (za1.mk 2 (t (cpR r)) []).holds vs=_
    rw [za1.holds_eq,za1.holds_eq]
    exact h1 rfl
   ·by_cases h3:k=3∨k=4∨k=5
    ·rw [zeb _ _ _ h3,hold_case vs _ _ h3,hold_case ws _ _ h3]
     rcases h3 with e | e | e
     ·subst e
      rw [if_pos rfl,if_pos rfl]
      cases ks with
      | nil=>rfl
      | cons g gs =>
       have:=ih g (List.mem_cons_self ..) (h2 g (List.mem_cons_self ..))
       show (!(g.each t).holds vs)=!g.holds ws
       rw [this]
     ·subst e
      rw [if_neg (by decide),if_pos rfl,if_neg (by decide),if_pos rfl]
      show (ks.map (za1.each t)).all (za1.holds vs)=_
      rw [List.all_map,Bool.eq_iff_iff,List.all_eq_true,List.all_eq_true]
      exact forall_congr' fun g=>forall_congr' fun hg=>by rw [show (za1.holds vs ∘ za1.each t) g=(g.each t).holds vs from rfl,ih g hg (h2 g hg)]
     ·subst e
      rw [if_neg (by decide),if_neg (by decide),if_neg (by decide),if_neg (by decide)]
      show (ks.map (za1.each t)).any (za1.holds vs)=_
      rw [List.any_map,Bool.eq_iff_iff,List.any_eq_true,List.any_eq_true]
      exact exists_congr fun g=>and_congr_right fun hg=>by rw [show (za1.holds vs ∘ za1.each t) g=(g.each t).holds vs from rfl,ih g hg (h2 g hg)]
    ·rw [zh0 _ _ _ h0 hk2 h3,tru_holds,za1.holds_eq]
     show _=if k=0 then _ else if k=2 then _ else if k=3 then _ else if k=4 then _ else if k=5 then _ else false
     rw [if_neg h0,if_neg hk2,if_neg (by omega),if_neg (by omega),if_neg (by omega)]) f
theorem za1.rels_all {P:zac→Prop} (h:∀ r,P r) (f:za1):f.rels P :=
 za1.ind (P:=fun f=>f.rels P) (fun k r ks ih=>by
  rw [za1.rels_eq];exact ⟨fun _=>h _,fun g hg=>ih g (zce hg)⟩) f
theorem cl_holds (vs:List ZI) (f:za1):f.cl.holds vs=f.holds vs:=each_holds f (za1.rels_all (fun r=>relOk_cp vs r) f)
theorem atom_holds (vs:List ZI) (r:zac):(zb8 r).holds vs=zar vs r:=by rw [za1.holds_eq];exact relOk_cp vs r
theorem deny_holds (vs:List ZI) (f:za1):(denyF f).holds vs=!f.holds vs:=by
 rw [za1.holds_eq];show (!f.cl.holds vs)=_;rw [cl_holds]
theorem all_holds (vs:List ZI) (fs:List za1):(allF fs).holds vs=fs.all (za1.holds vs):=by
 rw [za1.holds_eq];show (fs.map za1.cl).all (za1.holds vs)=_;rw [List.all_map]
 congr 1;funext f;exact cl_holds vs f
end
section
open Go.RowKit

theorem cmpPs_self:∀ ps:List za4,zdy ps ps=0
 | []=>rfl
 | p :: ps=>by
  have h:cmpP p p=0:=by simp [cmpP,orZ,cmpZ_self']
  simp only [zdy,h,cmpPs_self ps];rfl
theorem cmpT_eq {s t:zb9} (h:za3 s=za3 t):zfx s t=0:=by
 unfold zfx
 rw [h,cmpPs_self,cmpZ_self'];rfl
theorem con_pos {t:zb9} (h:0<(za3 t).parts.length):0<zc1 (za3 t).parts:=by
 have:=con_ne h
 have:=con_nonneg (za3 t).parts
 omega
theorem con_len' {n L:Nat} {t:zb9} (ht:TOk n L t) (hn:n≤1000):(ZI.of (zc1 (za3 t).parts)).abs.length≤L+1:=by
 have:=zgf ht hn (za3 t).parts.length
 rwa [List.take_length] at this
end
section
open Go.RowKit

def neg1 (t:zb9):zb9:=zb7 t (ZI.of (-1))
def firstN (t:zb9):Bool:=match t.parts with | []=>false | p :: _=>decide (sgn p.c.val<0)
def zao (r:zac):zac × Int :=
  if (za3 r.t).parts.length=0 then (zR,if (sgn r.t.k.val == 0 || (!r.eq && decide (sgn r.t.k.val>0)))=true then 1 else -1)
  else if r.eq=true∧r.t.k.val.fmod (zc1 (za3 r.t).parts)≠0 then (zR,-1)
  else (⟨if (r.eq && firstN (zc4 r.t))=true then neg1 (zc4 r.t) else zc4 r.t,r.eq⟩,0)
def zav (r:zac):za1:=if (zao r).2=0 then ⟨2,(zao r).1,[]⟩ else zcf (decide ((zao r).2>0))
def lowR (t:zb9):zac:=⟨zhz (neg1 t) (zgo (ZI.of 1)),false⟩
def zap (r:zac):List zac:=if r.eq=true then [lowR (neg1 r.t),lowR r.t] else [lowR r.t]
def zbe (k:Int):List za1→List za1→za1
  | [],out=>(match out with | []=>zcf (decide (k=4)) | [g]=>g | _=>⟨k,zR,out⟩)
  | f :: fs,out=>if (k=4∧f.kind=1)∨(k=5∧f.kind=0) then f else if f.kind=0∨f.kind=1 then zbe k fs out else if f.kind=k then zbe k fs (out++f.kids) else zbe k fs (out++[f])
def zdj (k:Int) (fs:List za1):za1:=zbe k fs []
def zge (k:Int) (r:zac) (cs:List (Bool→za1)) (d:Bool):za1 :=
  if k=0 then zcf (!d) else if k=2 then (if d=true then zdj 5 ((zap r).map zav) else zav r) else if k=3 then (match cs with | []=>zcf d | c :: _=>c (!d)) else if k=4∨k=5 then zdj (if d=true then 9 - k else k) (cs.map fun c=>c d) else zcf d
def za1.flat (f:za1):Bool→za1:=f.fold fun k r _ cs=>zge k r cs
theorem za1.flat_eq (f:za1) (d:Bool):f.flat d=zge f.kind f.r (f.kids.map za1.flat) d:=congrFun (za1.fold_eq (fun k r _ (cs:List (Bool→za1))=>zge k r cs) f) d
def inwK (k:Int) (r:zac) (cs:List (Bool→za1)) (d:Bool):za1 :=
  if k=0 then zcf (!d) else if k=2 then (if d=true then ⟨5,zR,(zap r).map zb8⟩ else zb8 r) else if k=3 then (match cs with | []=>zcf d | c :: _=>c (!d)) else if k=4∨k=5 then ⟨if d=true then 9 - k else k,zR,cs.map fun c=>c d⟩ else zcf d
def za1.inw (f:za1):Bool→za1:=f.fold fun k r _ cs=>inwK k r cs
theorem za1.inw_eq (f:za1) (d:Bool):f.inw d=inwK f.kind f.r (f.kids.map za1.inw) d:=congrFun (za1.fold_eq (fun k r _ (cs:List (Bool→za1))=>inwK k r cs) f) d
def zew (k:Int) (r:zac) (ks cs:List za1):za1:=if k=2 then zav r else if k=4∨k=5 then zdj k cs else ⟨k,r,ks⟩
def za1.merge (f:za1):za1:=f.fold zew
theorem za1.merge_eq (f:za1):f.merge=zew f.kind f.r f.kids (f.kids.map za1.merge):=za1.fold_eq _ f
theorem zeo (t:zb9):zc1 (za3 (za3 t)).parts=zc1 (za3 t).parts:=by rw [zbp]
theorem zhc (t:zb9):zc4 (za3 t)=zc4 t:=by
 unfold zc4
 rw [zbp]
 split
 ·rfl
 ·show zb9.mk _ (ZI.of ((ZI.of t.k.val).val.fdiv _))=_
  rw [ZI.val_of]
theorem tightR_cp (r:zac):zao (cpR r)=zao r:=by
 unfold zao cpR
 simp only [zbp,zhc]
 have:(za3 r.t).k.val=r.t.k.val:=ZI.val_of _
 simp only [this]
theorem tightF_cp (r:zac):zav (cpR r)=zav r:=by unfold zav;rw [tightR_cp]
theorem merge_atom (r:zac):(zb8 r).merge=zav r:=by
 rw [za1.merge_eq];show zew 2 (cpR r) [] _=_;unfold zew;rw [if_pos rfl,tightF_cp]
theorem merge_tru (b:Bool):(zcf b).merge=zcf b:=by
 rw [za1.merge_eq];cases b <;> rfl
theorem merge_join {k:Int} (h:k=4∨k=5) (fs:List za1):(za1.mk k zR fs).merge=zdj k (fs.map za1.merge):=by
 rw [za1.merge_eq];show zew k zR fs _=_;unfold zew;rw [if_neg (by omega),if_pos h];rfl
theorem flat_merge (f:za1):∀ d,f.flat d=(f.inw d).merge :=
 za1.ind (P:=fun f=>∀ d,f.flat d=(f.inw d).merge) (fun k r ks ih d=>by
  rw [za1.flat_eq,za1.inw_eq]
  show zge k r (ks.map za1.flat) d=(inwK k r (ks.map za1.inw) d).merge
  unfold zge inwK
  by_cases h0:k=0
  ·rw [if_pos h0,if_pos h0,merge_tru]
  rw [if_neg h0,if_neg h0]
  by_cases h2:k=2
  ·rw [if_pos h2,if_pos h2]
   cases d with
   | true =>
    rw [if_pos rfl,if_pos rfl,merge_join (.inr rfl),List.map_map]
    congr 1
    exact List.map_congr_left fun q _=>(merge_atom q).symm
   | false=>rw [if_neg Bool.noConfusion,if_neg Bool.noConfusion,merge_atom]
  rw [if_neg h2,if_neg h2]
  by_cases h3:k=3
  ·rw [if_pos h3,if_pos h3]
   cases ks with
   | nil=>exact (merge_tru d).symm
   | cons g gs=>exact ih g (List.mem_cons_self ..) (!d)
  rw [if_neg h3,if_neg h3]
  by_cases h4:k=4∨k=5
  ·rw [if_pos h4,if_pos h4,merge_join (by cases d <;> simp <;> omega),List.map_map,List.map_map,List.map_map]
   congr 1
   exact List.map_congr_left fun q hq=>ih q hq d
  ·rw [if_neg h4,if_neg h4,merge_tru]) f
end
section
open Go.RowKit

theorem kc_0:za6 Tryz.prog 89:=za6.mk' (by kernel_rfl)
theorem kc_2:za6 Tryz.prog 58:=za6.mk' (by kernel_rfl)
theorem kc_3:SlT Tryz.prog 23 57 4:=SlT.mk' Tryz.underlying23 (by kernel_rfl)
theorem kc_5:ElZ Tryz.prog 23 57 4:=ElZ.mk' Tryz.underlying23 _ _ rfl rfl (by kernel_rfl) (by kernel_rfl) (by kernel_rfl) (by decide)
theorem kc_6:za6 Tryz.prog 32:=za6.mk' (by kernel_rfl)
theorem kc_7:za6 Tryz.prog 59:=za6.mk' (by kernel_rfl)
def fltV (j:Nat) (ps:List za4):List za4:=ps.filter fun p=>decide (0≤p.v∧p.v<(j:Int))
theorem fltV_succ (vs:List ZI) (j:Nat):∀ ps:List za4,zfs vs (fltV (j+1) ps)=zfs vs (fltV j ps)+zat ps j*zft vs j
 | []=>by simp [fltV,zfs,zat]
 | p :: ps=>by
  have ih:=fltV_succ vs j ps
  simp only [fltV] at ih ⊢
  simp only [List.filter_cons,zat,Int.add_mul]
  by_cases h1:0≤p.v∧p.v<(j:Int)
  ·rw [if_pos (decide_eq_true (by omega)),if_pos (decide_eq_true h1),if_neg (by omega)]
   simp only [zfs,ih];omega
  ·by_cases h2:p.v=(j:Int)
   ·rw [if_pos (decide_eq_true (by omega)),if_neg (by simpa using h1),if_pos (by omega)]
    simp only [zfs,ih,h2];omega
   ·rw [if_neg (by rw [decide_eq_true_eq];omega),if_neg (by simpa using h1),if_neg (by omega),ih];omega
theorem fltV_all (vs:List ZI):∀ ps:List za4,zfs vs (fltV vs.length ps)=zfs vs ps
 | []=>rfl
 | p :: ps=>by
  have ih:=fltV_all vs ps
  simp only [fltV] at ih ⊢
  simp only [List.filter_cons]
  by_cases h1:0≤p.v∧p.v<(vs.length:Int)
  ·rw [if_pos (decide_eq_true h1)];simp only [zfs,ih]
  ·rw [if_neg (by simpa using h1),ih,zfs]
   by_cases h2:0≤p.v
   ·rw [valAt_out (by omega)];omega
   ·rw [valAt_neg (by omega)];omega
theorem fltV_zero (ps:List za4):fltV 0 ps=[]:=by
 unfold fltV;rw [List.filter_eq_nil_iff];intro p _;rw [decide_eq_true_eq];omega
theorem fltV_mem {j:Nat} {ps:List za4}:∀ p ∈ fltV j ps,p ∈ ps:=fun _p hp=>(List.mem_filter.1 hp).1
theorem fltV_len (j:Nat) (ps:List za4):(fltV j ps).length≤ps.length:=List.length_filter_le _ _
theorem SSize0 (f:za1) (lim:Int) (ih:∀ g ∈ f.kids,∀ l:Int,0≤l→l≤1000→Fn Tryz.prog 58 [] [(vF g),vI l] (vI (g.size l)) []) (h0:0≤lim) (h1:lim≤1000) (hk:f.kids.length≤9223372036854775807):Fn Tryz.prog 58 [] [(vF f),vI lim] (vI (f.size lim)) []:=by
 have lk:=cnt_len f.kind f.kids
 refine Fn.body Tryz.func58 rfl 32 rfl fun w H B a h=>?_
 refine rq za0 0 [] [(1,vI lim),(2,vp 0 0),(4,vI 0)] [(0,.box (zF f))] h fun a w h=>?_
 refine rqk za0 1 [] [(1,vI lim),(2,vp 0 0),(4,vI 0),(5,vI 1)] h fun a w h=>?_
 refine rq za0 1 [(1,.call (SKids f) kc_0)] [(1,vI lim),(4,vI 0),(5,vI 1),(6,(vFs (cnt f.kind f.kids)))] [] h fun a w h=>?_
 refine wp_seq (rq za0 1 [] [(1,vI lim),(4,vI 0),(5,vI 1),(6,(vFs (cnt f.kind f.kids))),(7,vI 0)] [] h fun a w h=>?_)
 refine wp_block ?_
 refine zau (ι:=(Nat) × (Int)) (fun (j,n)=>j≤(cnt f.kind f.kids).length∧f.size lim=zcl lim (((cnt f.kind f.kids).map za1.size).drop j) n∧1≤n∧n≤lim+1)
   (fun (j,n)=>[(1,vI lim),(4,vI 0),(5,vI n),(6,(vFs (cnt f.kind f.kids))),(7,vN j)])
   (fun (j,n)=>[])
   (fun (j,n)=>(cnt f.kind f.kids).length - j) (0,1) ?_ h (by kernel_rfl) (by kernel_rfl) ?_
 ·exact ⟨Nat.zero_le _,za1.size_eq f lim,by omega,by omega⟩
 clear h;rintro ⟨j,n⟩ a w hI h
 dsimp only at h
 obtain ⟨hI1,hI2,hI3,hI4⟩:=hI
 refine wp_seq ?_
 rcases Bool.eq_false_or_eq_true (decide ((j:Int)<((cnt f.kind f.kids).length:Int))) with hc | hc
 ·have hc1:=hc;clear hc
  have hc1':=dT hc1
  refine rq za0 1 [(2,.len (za9 6 za1.d (cnt f.kind f.kids))),(3,.cmp (op:=.lss) (m:=(j:Int)) (n:=((cnt f.kind f.kids).length:Int)) (b:=true) .i64 hc1)] [(1,vI lim),(4,vI 0),(5,vI n),(6,(vFs (cnt f.kind f.kids))),(7,vN j),(18,vb (decide (n≤lim)))] [] h fun a w h=>?_
  refine zam (n≤lim) h rfl (fun hc2 hc2'=>?_) (fun hc3 hc3'=>?_)
  ·refine wp_skip (za2 (wp_seq (wp_block ?_)))
   obtain ⟨x2,hx2⟩:=gl (cnt f.kind f.kids) j
   have bz:0≤lim - n→1≤x2.size (lim - n)∧x2.size (lim - n)≤lim - n+1:=x2.size_bd (lim - n)
   refine rn za0 1 [(3,.g (xD 24 22 zhj ((zaf hx2 (f:=za1.d)).trans (congrArg some (za1.d_eq x2))) (OV.tmp 23 _))),(7,.sub .i64 (m:=lim) (n:=n) i6),(8,.call (ih x2 (zce (lM hx2)) (lim - n) (by omega) (by omega)) kc_2),(9,.add .i64 (m:=n) (n:=(x2.size (lim - n))) i6)] [(1,vI lim),(4,vI 0),(5,vI (n+(x2.size (lim - n)))),(6,(vFs (cnt f.kind f.kids))),(7,vN j)] [] h fun a w h=>?_
   refine zaa (za2 (rn za0 1 [(1,.j1 j)] [(1,vI lim),(4,vI 0),(5,vI (n+(x2.size (lim - n)))),(6,(vFs (cnt f.kind f.kids))),(7,vI ((j:Int)+1))] [] h fun a w h=>?_))
   refine za2 ?_
   refine zaj (x:=(j,n)) (y:=((j+1),n+x2.size (lim - n))) h ?_ ?_
   ·exact ⟨by have:=zag hx2;omega,by rw [hI2,sizeGo_at (zaf hx2 (f:=za1.size)) (by omega)],by have:=bz (by omega);omega,by have:=bz (by omega);omega⟩
   show (cnt f.kind f.kids).length - (j+1)<(cnt f.kind f.kids).length - j
   have:=zag hx2;omega
  refine wp_exit (zab (zab (za7 (za2 (rq za0 1 [] [(4,vI n)] [] h fun a w h=>?_)))))
  refine wp_ret ?_
  refine rT (.c (cI n)) h rfl rfl ?_
  have hz:f.size lim=n:=by
   rw [hI2];refine sizeGo_out ?_
   by_cases hn:n≤lim
   ·right;exact List.drop_of_length_le (by rw [List.length_map];first | omega | (simp_all;omega))
   exact .inl hn
  rw [hz];first | done | rfl
 have hc4:=hc;clear hc
 have hc4':=dF hc4
 refine rq za0 1 [(2,.len (za9 6 za1.d (cnt f.kind f.kids))),(3,.cmp (op:=.lss) (m:=(j:Int)) (n:=((cnt f.kind f.kids).length:Int)) (b:=false) .i64 hc4)] [(1,vI lim),(4,vI 0),(5,vI n),(6,(vFs (cnt f.kind f.kids))),(7,vN j),(18,vb false)] [] h fun a w h=>?_
 refine zah false h rfl nofun (fun _=>?_)
 refine wp_exit (zab (zab (za7 (za2 (rq za0 1 [] [(4,vI n)] [] h fun a w h=>?_)))))
 refine wp_ret ?_
 refine rT (.c (cI n)) h rfl rfl ?_
 have hz:f.size lim=n:=by
  rw [hI2];refine sizeGo_out ?_
  by_cases hn:n≤lim
  ·right;exact List.drop_of_length_le (by rw [List.length_map];first | omega | (simp_all;omega))
  exact .inl hn
 rw [hz];first | done | rfl
theorem SSize (f:za1):f.lb→∀ lim:Int,0≤lim→lim≤1000→Fn Tryz.prog 58 [] [(vF f),vi .i64 lim] (vi .i64 (f.size lim)) [] :=
 za1.ind (P:=fun f=>f.lb→∀ lim:Int,0≤lim→lim≤1000→Fn Tryz.prog 58 [] [(vF f),vi .i64 lim] (vi .i64 (f.size lim)) []) (fun k r ks ih hl lim h0 h1=>by
  have hl:=(za1.lb_eq _).1 hl
  exact SSize0 ⟨k,r,ks⟩ lim (fun g hg l g0 g1=>ih g hg (hl.2 g hg) l g0 g1) h0 h1 hl.1.2) f
def zem (rs:List zac) (most L:Int):Bool:=decide ((rs.length:Int)≤most) && rs.all (fewR L)
theorem SFewRs (rs:List zac) (most L:Int) (hl:rs.length≤9223372036854775807):Fn Tryz.prog 32 [] [(vRs rs),vI most,vI L] (vb (zem rs most L)) []:=by
 refine Fn.body Tryz.func32 rfl 64 rfl fun w H B a h=>?_
 refine rq za0 0 [] [(0,(vRs rs)),(1,vI most),(2,vI L),(6,vb false)] [] h fun a w h=>?_
 refine wp_seq (rq za0 0 [(1,.len (za9 4 zac.d rs))] [(0,(vRs rs)),(2,vI L),(6,vb false),(12,vb (decide ((rs.length:Int)>most)))] [] h fun a w h=>?_)
 refine zam ((rs.length:Int)>most) h rfl (fun hc1 hc1'=>?_) (fun hc2 hc2'=>?_)
 ·refine rq za0 0 [] [(0,(vRs rs)),(2,vI L),(6,vb false)] [] h fun a w h=>?_
  refine wp_ret (za8 ?_)
  refine rT (.c (cB false)) h rfl rfl ?_
  rw [show zem rs most L=false from by unfold zem;rw [decide_eq_false (by have:=dT hc1;omega)];rfl];first | done | rfl
 refine wp_skip (za2 (wp_seq (rq za0 0 [] [(0,(vRs rs)),(2,vI L),(6,vb false),(7,vI 0)] [] h fun a w h=>?_)))
 refine wp_block ?_
 refine zau (ι:=(Nat)) (fun j=>j≤rs.length∧(rs.take j).all (fewR L)=true)
   (fun j=>[(0,(vRs rs)),(2,vI L),(7,vN j)])
   (fun j=>[])
   (fun j=>rs.length - j) 0 ?_ h (by kernel_rfl) (by kernel_rfl) ?_
 ·exact ⟨Nat.zero_le _,rfl⟩
 clear h;rintro j a w hI h
 obtain ⟨hI1,hI2⟩:=hI
 refine wp_seq (rq za0 0 [(2,.len (za9 4 zac.d rs))] [(0,(vRs rs)),(2,vI L),(7,vN j),(16,vb (decide ((j:Int)<(rs.length:Int))))] [] h fun a w h=>?_)
 refine zam ((j:Int)<(rs.length:Int)) h rfl (fun hc3 hc3'=>?_) (fun hc12 hc12'=>?_)
 ·refine wp_skip (za2 (wp_seq (wp_block (wp_seq ?_))))
  obtain ⟨x1,hx1⟩:=gl rs j
  rcases Bool.eq_false_or_eq_true (decide ((x1.t.parts.length:Int)>20)) with hc | hc
  ·have hc4:=hc;clear hc
   have hc4':=dT hc4
   refine rq za0 0 [(2,.g (xD 21 19 kc_3 (zaf hx1 (f:=zac.d)) (OV.tmp 20 _))),(6,.len (za9 3 za4.d x1.t.parts)),(7,.cmp (op:=.gtr) (m:=(x1.t.parts.length:Int)) (n:=20) (b:=true) .i64 hc4)] [(0,(vRs rs)),(2,vI L),(7,vN j),(38,vb true)] [] h fun a w h=>?_
   refine zah true h rfl (fun _=>?_) nofun
   refine rq za0 0 [] [(0,(vRs rs)),(2,vI L),(6,vb false),(7,vN j)] [] h fun a w h=>?_
   refine wp_ret (za8 (zad (za8 (za8 (zad (za8 ?_))))))
   refine rT (.c (cB false)) h rfl rfl ?_
   rw [show zem rs most L=false from by unfold zem;rw [zbs hx1 (show fewR L x1=false from by rw [fewR,decide_eq_false (by have:=dT hc4;omega)];rfl),Bool.and_false]];first | done | rfl
  have hc5:=hc;clear hc
  have hc5':=dF hc5
  refine rq za0 0 [(2,.g (xD 21 19 kc_3 (zaf hx1 (f:=zac.d)) (OV.tmp 20 _))),(6,.len (za9 3 za4.d x1.t.parts)),(7,.cmp (op:=.gtr) (m:=(x1.t.parts.length:Int)) (n:=20) (b:=false) .i64 hc5),(11,.g (xD 30 28 kc_3 (zaf hx1 (f:=zac.d)) (OV.tmp 29 _))),(16,.len (zf6 x1.t.k.abs))] [(0,(vRs rs)),(2,vI L),(7,vN j),(38,vb (decide ((x1.t.k.abs.length:Int)>L)))] [] h fun a w h=>?_
  refine zam ((x1.t.k.abs.length:Int)>L) h rfl (fun hc6 hc6'=>?_) (fun hc7 hc7'=>?_)
  ·refine rq za0 0 [] [(0,(vRs rs)),(2,vI L),(6,vb false),(7,vN j)] [] h fun a w h=>?_
   refine wp_ret (za8 (zad (za8 (za8 (zad (za8 ?_))))))
   refine rT (.c (cB false)) h rfl rfl ?_
   rw [show zem rs most L=false from by unfold zem;rw [zbs hx1 (show fewR L x1=false from by rw [fewR,decide_eq_false (p:=(_:Int)≤L) (by have:=dT hc6;omega),Bool.and_false];rfl),Bool.and_false]];first | done | rfl
  refine wp_skip (za2 (rq za0 0 [] [(0,(vRs rs)),(2,vI L),(7,vN j),(8,vI 0)] [] h fun a w h=>?_))
  refine wp_block ?_
  have hjr:=hI1
  refine zau (ι:=(Nat)) (fun i=>i≤x1.t.parts.length∧(x1.t.parts.take i).all (fun p=>decide ((p.c.abs.length:Int)≤L))=true)
    (fun i=>[(0,(vRs rs)),(2,vI L),(7,vN j),(8,vN i)])
    (fun i=>[])
    (fun i=>x1.t.parts.length - i) 0 ?_ h (by kernel_rfl) (by kernel_rfl) ?_
  ·exact ⟨Nat.zero_le _,rfl⟩
  clear h;rintro i a w hI h
  obtain ⟨hJ1,hJ2⟩:=hI
  refine wp_seq (rq za0 0 [(3,.g (xD 42 40 kc_3 (zaf hx1 (f:=zac.d)) (OV.tmp 41 _))),(7,.len (za9 3 za4.d x1.t.parts))] [(0,(vRs rs)),(2,vI L),(7,vN j),(8,vN i),(47,vb (decide ((i:Int)<(x1.t.parts.length:Int))))] [] h fun a w h=>?_)
  refine zam ((i:Int)<(x1.t.parts.length:Int)) h rfl (fun hc8 hc8'=>?_) (fun hc11 hc11'=>?_)
  ·refine wp_skip (za2 (wp_seq (wp_block ?_)))
   obtain ⟨x2,hx2⟩:=gl x1.t.parts i
   refine rq za0 0 [(2,.g (xD 52 50 kc_3 (zaf hx1 (f:=zac.d)) (OV.tmp 51 _))),(7,.g (xD 57 55 zc3 (zaf hx2 (f:=za4.d)) (OV.tmp 56 _))),(11,.len (zf6 x2.c.abs))] [(0,(vRs rs)),(2,vI L),(7,vN j),(8,vN i),(63,vb (decide ((x2.c.abs.length:Int)>L)))] [] h fun a w h=>?_
   refine zam ((x2.c.abs.length:Int)>L) h rfl (fun hc9 hc9'=>?_) (fun hc10 hc10'=>?_)
   ·refine rq za0 0 [] [(0,(vRs rs)),(2,vI L),(6,vb false),(7,vN j),(8,vN i)] [] h fun a w h=>?_
    refine wp_ret (zad (za8 (za8 (zad (zad (za8 (za8 (zad (za8 ?_)))))))))
    refine rT (.c (cB false)) h rfl rfl ?_
    rw [show zem rs most L=false from by unfold zem;rw [zbs hx1 (show fewR L x1=false from by rw [fewR,zbs hx2 (decide_eq_false (by have:=dT hc9;omega)),Bool.and_false]),Bool.and_false]];first | done | rfl
   refine wp_skip (zaa (za2 (rn za0 0 [(1,.j1 i)] [(0,(vRs rs)),(2,vI L),(7,vN j),(8,vI ((i:Int)+1))] [] h fun a w h=>?_)))
   refine za2 ?_
   refine zaj (x:=i) (y:=i+1) h ?_ ?_
   ·exact ⟨by have:=zag hx2;omega,zbi hx2 hJ2 (decide_eq_true (by have:=dF hc10;omega))⟩
   show x1.t.parts.length - (i+1)<x1.t.parts.length - i
   have:=zag hx2;omega
  refine wp_exit (zab (zab (za7 (zaa (za2 (rn za0 0 [(1,.j1 j)] [(0,(vRs rs)),(2,vI L),(7,vI ((j:Int)+1))] [] h fun a w h=>?_))))))
  refine za2 ?_
  refine zaj (x:=j) (y:=j+1) h ?_ ?_
  ·exact ⟨by have:=zag hx1;omega,zbi hx1 hI2 (by rw [fewR,decide_eq_true (by have:=dF hc5;omega),decide_eq_true (by have:=dF hc7;omega),zdf (dF hc11) hJ2];rfl)⟩
  show rs.length - (j+1)<rs.length - j
  have:=zag hx1;omega
 refine wp_exit (zab (zab (za7 (za2 (rq za0 0 [] [(6,vb true)] [] h fun a w h=>?_)))))
 refine wp_ret ?_
 refine rT (.c (cB true)) h rfl rfl ?_
 rw [show zem rs most L=true from by unfold zem;rw [decide_eq_true (by have:=dF hc2;omega),zdf (dF hc12) hI2];rfl];first | done | rfl
theorem fewRs_one (r:zac) (L:Int):zem [r] 1 L=fewR L r:=by simp [zem]
theorem Sfew0 (f:za1) (L:Int) (ih:∀ g ∈ f.kids,Fn Tryz.prog 59 [] [(vF g),vI L] (vb (g.few L)) []) (hk:f.kids.length≤9223372036854775807):Fn Tryz.prog 59 [] [(vF f),vI L] (vb (f.few L)) []:=by
 have lk:=cnt_len f.kind f.kids
 refine Fn.body Tryz.func59 rfl 33 rfl fun w H B a h=>?_
 refine rq za0 0 [] [(1,vI L),(2,vp 0 0),(4,vb false)] [(0,.box (zF f))] h fun a w h=>?_
 refine wp_seq ?_
 rcases Bool.eq_false_or_eq_true (f.kind == 2) with hc | hc
 ·have hc1:=hc;clear hc
  have hc1':=hc1;(try simp at hc1')
  refine rqk za0 1 [(2,.cmp (op:=.eql) (m:=f.kind) (n:=2) (b:=true) .i64 hc1),(6,.g (bD 13 ([f.r].map zac.d) [(12,(vR f.r))] kc_5 (.cons (i:=0) (OV.tmp 12 _) (.nil)) (by kernel_rfl) (by simp [zac.d]))),(8,.call (Fn.cast (SFewRs [f.r] 1 L (by simp)) (congrArg vb (fewRs_one f.r L))) kc_6)] [(1,vI L),(2,vp 0 0),(4,vb false),(17,vb (!(fewR L f.r)))] h fun a w h=>?_
  refine zah (!(fewR L f.r)) h rfl (fun hc2=>?_) (fun hc3=>?_)
  ·have hc2':=hc2;(try simp at hc2')
   refine rqk za0 1 [] [(1,vI L),(2,vp 0 0),(4,vb false)] h fun a w h=>?_
   refine wp_ret (za8 ?_)
   refine rT (.c (cB false)) h rfl rfl ?_
   have hz:f.few L=false:=by rw [za1.few_eq,(show (!(f.kind == 2) || fewR L f.r)=false from by rw [hc1];rw [(show (fewR L f.r)=false from by simpa using hc2)];rfl)];rfl
   rw [hz];first | done | rfl
  have hc3':=hc3;(try simp at hc3')
  refine wp_skip (za2 (rq za0 1 [(1,.call (SKids f) kc_0)] [(1,vI L),(4,vb false),(5,(vFs (cnt f.kind f.kids)))] [] h fun a w h=>?_))
  refine wp_seq (rq za0 1 [] [(1,vI L),(4,vb false),(5,(vFs (cnt f.kind f.kids))),(6,vI 0)] [] h fun a w h=>?_)
  refine wp_block ?_
  refine zau (ι:=(Nat)) (fun j=>j≤(cnt f.kind f.kids).length∧((cnt f.kind f.kids).take j).all (za1.few L)=true)
    (fun j=>[(1,vI L),(5,(vFs (cnt f.kind f.kids))),(6,vN j)])
    (fun j=>[])
    (fun j=>(cnt f.kind f.kids).length - j) 0 ?_ h (by kernel_rfl) (by kernel_rfl) ?_
  ·exact ⟨Nat.zero_le _,rfl⟩
  clear h;rintro j a w hI h
  obtain ⟨hI1,hI2⟩:=hI
  refine wp_seq (rq za0 1 [(2,.len (za9 6 za1.d (cnt f.kind f.kids)))] [(1,vI L),(5,(vFs (cnt f.kind f.kids))),(6,vN j),(23,vb (decide ((j:Int)<((cnt f.kind f.kids).length:Int))))] [] h fun a w h=>?_)
  refine zam ((j:Int)<((cnt f.kind f.kids).length:Int)) h rfl (fun hc4 hc4'=>?_) (fun hc7 hc7'=>?_)
  ·refine wp_skip (za2 (wp_seq (wp_block ?_)))
   obtain ⟨x3,hx3⟩:=gl (cnt f.kind f.kids) j
   refine rq za0 1 [(2,.g (xD 28 26 zhj ((zaf hx3 (f:=za1.d)).trans (congrArg some (za1.d_eq x3))) (OV.tmp 27 _))),(5,.call (ih x3 (zce (lM hx3))) kc_7)] [(1,vI L),(5,(vFs (cnt f.kind f.kids))),(6,vN j),(32,vb (!(za1.few L x3)))] [] h fun a w h=>?_
   refine zah (!(za1.few L x3)) h rfl (fun hc5=>?_) (fun hc6=>?_)
   ·have hc5':=hc5;(try simp at hc5')
    refine rq za0 1 [] [(1,vI L),(4,vb false),(5,(vFs (cnt f.kind f.kids))),(6,vN j)] [] h fun a w h=>?_
    refine wp_ret (zad (za8 (za8 (zad (za8 ?_)))))
    refine rT (.c (cB false)) h rfl rfl ?_
    have hz:f.few L=false:=by rw [za1.few_eq,zbs hx3 (show (za1.few L x3)=false from by simpa using hc5),Bool.and_false]
    rw [hz];first | done | rfl
   have hc6':=hc6;(try simp at hc6')
   refine wp_skip (zaa (za2 (rn za0 1 [(1,.j1 j)] [(1,vI L),(5,(vFs (cnt f.kind f.kids))),(6,vI ((j:Int)+1))] [] h fun a w h=>?_)))
   refine za2 ?_
   refine zaj (x:=j) (y:=j+1) h ?_ ?_
   ·exact ⟨by have:=zag hx3;omega,zbi hx3 hI2 (show (za1.few L x3)=true from by simpa using hc6)⟩
   show (cnt f.kind f.kids).length - (j+1)<(cnt f.kind f.kids).length - j
   have:=zag hx3;omega
  refine wp_exit (zab (zab (za7 (za2 (rq za0 1 [] [(4,vb true)] [] h fun a w h=>?_)))))
  refine wp_ret ?_
  refine rT (.c (cB true)) h rfl rfl ?_
  have hz:f.few L=true:=by rw [za1.few_eq,(show (!(f.kind == 2) || fewR L f.r)=true from by rw [hc1];rw [(show (fewR L f.r)=true from by simpa using hc3)];rfl),zdf (dF hc7) hI2];rfl
  rw [hz];first | done | rfl
 have hc8:=hc;clear hc
 have hc8':=hc8;(try simp at hc8')
 refine rqk za0 1 [(2,.cmp (op:=.eql) (m:=f.kind) (n:=2) (b:=false) .i64 hc8)] [(1,vI L),(2,vp 0 0),(4,vb false),(17,vb false)] h fun a w h=>?_
 refine zah false h rfl nofun (fun _=>?_)
 refine wp_skip (za2 (rq za0 1 [(1,.call (SKids f) kc_0)] [(1,vI L),(4,vb false),(5,(vFs (cnt f.kind f.kids)))] [] h fun a w h=>?_))
 refine wp_seq (rq za0 1 [] [(1,vI L),(4,vb false),(5,(vFs (cnt f.kind f.kids))),(6,vI 0)] [] h fun a w h=>?_)
 refine wp_block ?_
 refine zau (ι:=(Nat)) (fun j=>j≤(cnt f.kind f.kids).length∧((cnt f.kind f.kids).take j).all (za1.few L)=true)
   (fun j=>[(1,vI L),(5,(vFs (cnt f.kind f.kids))),(6,vN j)])
   (fun j=>[])
   (fun j=>(cnt f.kind f.kids).length - j) 0 ?_ h (by kernel_rfl) (by kernel_rfl) ?_
 ·exact ⟨Nat.zero_le _,rfl⟩
 clear h;rintro j a w hI h
 obtain ⟨hI1,hI2⟩:=hI
 refine wp_seq (rq za0 1 [(2,.len (za9 6 za1.d (cnt f.kind f.kids)))] [(1,vI L),(5,(vFs (cnt f.kind f.kids))),(6,vN j),(23,vb (decide ((j:Int)<((cnt f.kind f.kids).length:Int))))] [] h fun a w h=>?_)
 refine zam ((j:Int)<((cnt f.kind f.kids).length:Int)) h rfl (fun hc9 hc9'=>?_) (fun hc12 hc12'=>?_)
 ·refine wp_skip (za2 (wp_seq (wp_block ?_)))
  obtain ⟨x6,hx6⟩:=gl (cnt f.kind f.kids) j
  refine rq za0 1 [(2,.g (xD 28 26 zhj ((zaf hx6 (f:=za1.d)).trans (congrArg some (za1.d_eq x6))) (OV.tmp 27 _))),(5,.call (ih x6 (zce (lM hx6))) kc_7)] [(1,vI L),(5,(vFs (cnt f.kind f.kids))),(6,vN j),(32,vb (!(za1.few L x6)))] [] h fun a w h=>?_
  refine zah (!(za1.few L x6)) h rfl (fun hc10=>?_) (fun hc11=>?_)
  ·have hc10':=hc10;(try simp at hc10')
   refine rq za0 1 [] [(1,vI L),(4,vb false),(5,(vFs (cnt f.kind f.kids))),(6,vN j)] [] h fun a w h=>?_
   refine wp_ret (zad (za8 (za8 (zad (za8 ?_)))))
   refine rT (.c (cB false)) h rfl rfl ?_
   have hz:f.few L=false:=by rw [za1.few_eq,zbs hx6 (show (za1.few L x6)=false from by simpa using hc10),Bool.and_false]
   rw [hz];first | done | rfl
  have hc11':=hc11;(try simp at hc11')
  refine wp_skip (zaa (za2 (rn za0 1 [(1,.j1 j)] [(1,vI L),(5,(vFs (cnt f.kind f.kids))),(6,vI ((j:Int)+1))] [] h fun a w h=>?_)))
  refine za2 ?_
  refine zaj (x:=j) (y:=j+1) h ?_ ?_
  ·exact ⟨by have:=zag hx6;omega,zbi hx6 hI2 (show (za1.few L x6)=true from by simpa using hc11)⟩
  show (cnt f.kind f.kids).length - (j+1)<(cnt f.kind f.kids).length - j
  have:=zag hx6;omega
 refine wp_exit (zab (zab (za7 (za2 (rq za0 1 [] [(4,vb true)] [] h fun a w h=>?_)))))
 refine wp_ret ?_
 refine rT (.c (cB true)) h rfl rfl ?_
 have hz:f.few L=true:=by rw [za1.few_eq,(show (!(f.kind == 2) || fewR L f.r)=true from by rw [hc8];rfl),zdf (dF hc12) hI2];rfl
 rw [hz];first | done | rfl
theorem Sfew (L:Int) (f:za1):f.lb→Fn Tryz.prog 59 [] [(vF f),vi .i64 L] (vb (f.few L)) [] :=
 za1.ind (P:=fun f=>f.lb→Fn Tryz.prog 59 [] [(vF f),vi .i64 L] (vb (f.few L)) []) (fun k r ks ih hl=>by
  have hl:=(za1.lb_eq _).1 hl
  exact Sfew0 ⟨k,r,ks⟩ L (fun g hg=>ih g hg (hl.2 g hg)) hl.1.2) f
theorem SFewF (f:za1) (most L:Int) (hl:f.lb) (h0:0≤most) (h1:most≤1000):Fn Tryz.prog 31 [] [(vF f),vI most,vI L] (vb (fewF f most L)) []:=by
 refine Fn.body Tryz.func31 rfl 15 rfl fun w H B a h=>?_
 refine rq za0 0 [] [(1,vI most),(2,vI L),(3,vp 0 0),(6,vb false)] [(0,.box (zF f))] h fun a w h=>?_
 refine wp_seq (rqk za0 1 [(2,.call (SSize f hl most h0 h1) kc_2)] [(2,vI L),(3,vp 0 0),(6,vb false),(11,vb (decide (f.size most>most)))] h fun a w h=>?_)
 refine zam (f.size most>most) h rfl (fun hc1 hc1'=>?_) (fun hc2 hc2'=>?_)
 ·refine rqk za0 1 [] [(2,vI L),(3,vp 0 0),(6,vb false)] h fun a w h=>?_
  refine wp_ret (za8 ?_)
  refine rT (.c (cB false)) h rfl rfl ?_
  unfold fewF;rw [hc1];first | done | rfl
 refine wp_skip (za2 (rq za0 1 [(2,.call (Sfew L f hl) kc_7)] [(6,vb (f.few L))] [] h fun a w h=>?_))
 refine wp_ret ?_
 refine rT (.c (cB (f.few L))) h rfl rfl ?_
 unfold fewF;rw [hc2];first | done | rfl
theorem SRValue (t:zb9) (vs:List ZI) {n L M:Nat} (ht:TOk n L t) (hn:n≤1000) (hL:L+M≤20000) (hv:VOk M vs):Fn Tryz.prog 53 [] [(vT t),(vZs vs)] (vz (ZI.of (valT t vs))) []:=by
 have kt:=ht.kl
 have lnv:=hv.1
 refine Fn.body Tryz.func53 rfl 27 rfl fun w H B a h=>?_
 refine rq za0 0 [] [(1,(vZs vs)),(2,vp 0 0),(4,vp 1 0)] [(0,.box (zT t)),(1,.box [cB false,.d (nsl [])])] h fun a w h=>?_
 refine rq za0 2 [] [(1,(vZs vs)),(2,vp 0 0),(4,vp 1 0),(5,vp 2 0)] [(0,.box (zT t)),(1,.box [cB false,.d (nsl [])]),(2,.box (zi t.k))] h fun a w h=>?_
 refine wp_seq (rqk za0 3 [] [(1,(vZs vs)),(2,vp 0 0),(4,vp 1 0),(5,vp 2 0),(6,vI 0)] h fun a w h=>?_)
 refine wp_block ?_
 refine zau (ι:=(Nat) × (ZI)) (fun (j,out)=>j≤vs.length∧out.val=t.k.val+zfs vs (fltV j t.parts)∧Lb out.abs∧out.abs.length≤L+M+2)
   (fun (j,out)=>[(1,(vZs vs)),(2,vp 0 0),(4,vp 1 0),(5,vp 2 0),(6,vN j)])
   (fun (j,out)=>[(0,.box (zT t)),(1,.box [cB false,.d (nsl [])]),(2,.box (zi out))])
   (fun (j,out)=>vs.length - j) (0,t.k) ?_ h (by kernel_rfl) (by kernel_rfl) ?_
 ·exact ⟨Nat.zero_le _,by rw [fltV_zero];simp [zfs],ht.kb,by omega⟩
 clear h;rintro ⟨j,out⟩ a w hI h
 dsimp only at h
 obtain ⟨hI1,vo,ho,lo⟩:=hI
 refine wp_seq (rqk za0 3 [(2,.len (za9 2 ziD vs))] [(1,(vZs vs)),(2,vp 0 0),(4,vp 1 0),(5,vp 2 0),(6,vN j),(12,vb (decide ((j:Int)<(vs.length:Int))))] h fun a w h=>?_)
 refine zam ((j:Int)<(vs.length:Int)) h rfl (fun hc1 hc1'=>?_) (fun hc2 hc2'=>?_)
 ·refine wp_skip (za2 (wp_seq (wp_block ?_)))
  obtain ⟨r1,er1,vr1,or1,lr1⟩:=mkZ (v:=zat t.parts (j:Int)) (m:=L+1) (zep (ht.mono hn (Nat.le_refl L)).psok (j:Int))
  obtain ⟨x2,hx2⟩:=gl vs j
  obtain ⟨ox2,lx2⟩:=hv.get hx2
  obtain ⟨r3,er3,vr3,or3,lr3⟩:=mkZ (v:=r1.val*x2.val) (m:=r1.abs.length+x2.abs.length) (zej or1 ox2)
  obtain ⟨r4,er4,vr4,or4,lr4⟩:=mkZ (v:=out.val+r3.val) (m:=out.abs.length+r3.abs.length+1) (zcr ho or3)
  refine rn za0 3 [(3,.call (Fn.cast (SCoef t (j:Int) (ht.mono hn (show L≤40000 by omega)).psok) (congrArg vz er1.symm)) tb_4),(6,.g (xD 21 19 tt_6 (zaf hx2 (f:=ziD)) (OV.tmp 20 _))),(8,.call (Fn.cast (SRMul r1 x2 or1 ox2 (by omega) (by omega)) (congrArg vz er3.symm)) zs_18),(9,.call (Fn.cast (SRAdd out r3 ho or3 (by omega) (by omega)) (congrArg vz er4.symm)) ib_5)] [(1,(vZs vs)),(2,vp 0 0),(4,vp 1 0),(5,vp 2 0),(6,vN j)] [(0,.box (zT t)),(1,.box [cB false,.d (nsl [])]),(2,.box (zi r4))] h fun a w h=>?_
  refine zaa (za2 (rnk za0 3 [(1,.j1 j)] [(1,(vZs vs)),(2,vp 0 0),(4,vp 1 0),(5,vp 2 0),(6,vI ((j:Int)+1))] h fun a w h=>?_))
  refine za2 ?_
  refine zaj (x:=(j,out)) (y:=((j+1),r4)) h ?_ ?_
  ·have:=zag hx2
   have hvz:r4.val=t.k.val+zfs vs (fltV (j+1) t.parts):=by rw [vr4,vr3,vr1,vo,fltV_succ,valAt_some (v:=(j:Int)) rfl hx2,Int.add_assoc]
   exact ⟨by omega,hvz,or4,by rw [er4];exact Nat.le_trans (by rw [← vr4,hvz];exact val_len ht hn hv fltV_mem (fltV_len _ _)) (by omega)⟩
  show vs.length - (j+1)<vs.length - j
  have:=zag hx2;omega
 refine wp_exit (zab (zab (za7 (za2 ?_))))
 obtain ⟨r5,er5,vr5,or5,lr5⟩:=mkZ (v:=out.val) (m:=out.abs.length) (zcd ho)
 refine rq za0 3 [(1,.call (Fn.cast (SRClean out ho (by omega)) (congrArg vz er5.symm)) tb_7)] [(4,vp 1 0)] [(1,.box (zi r5))] h fun a w h=>?_
 refine wp_ret ?_
 refine rA 1 (zi r5) h zd3 rfl rfl rfl rfl rfl ?_
 have hz:out.val=valT t vs:=by rw [vo,show j=vs.length by first | omega | (simp_all;omega),fltV_all];rfl
 first | (rw [er5,hz];done) | (rw [er5,hz];rfl) | (rw [hz];done) | (rw [hz];rfl)
end
section
open Go.RowKit

theorem ke_2:za6 Tryz.prog 53:=za6.mk' (by kernel_rfl)
theorem ke_9:za6 Tryz.prog 25:=za6.mk' (by kernel_rfl)
theorem ke_10:za6 Tryz.prog 26:=za6.mk' (by kernel_rfl)
theorem ke_11:za6 Tryz.prog 51:=za6.mk' (by kernel_rfl)
theorem SrelHolds (r:zac) (vs:List ZI) {L M:Nat} (hL:L+M≤20000) (hv:VOk M vs) (hr:TokR L r):Fn Tryz.prog 51 [] [.t (.agg ([.d (.sl 3 (r.t.parts.map za4.d))]++zi r.t.k++[.d (.raw (.bool r.eq))])),.t (.c (.d (.sl 2 (vs.map ziD))))] (vb (zar vs r)) []:=by
 refine Fn.body Tryz.func51 rfl 22 rfl fun w H B a h=>?_
 refine rq za0 0 [] [(1,.t (.c (.d (.sl 2 (vs.map ziD))))),(2,vp 0 0),(4,vb false)] [(0,.box ([.d (.sl 3 (r.t.parts.map za4.d))]++zi r.t.k++[.d (.raw (.bool r.eq))]))] h fun a w h=>?_
 obtain ⟨r1,er1,vr1,or1,lr1⟩:=mkZ (v:=valT r.t vs) (m:=L+M+2) (Nat.le_trans (val_len hr (by decide) hv (fun p hp=>hp) (Nat.le_refl _)) (by omega))
 refine rqk za0 1 [(3,.call (Fn.cast (SValue r.t vs hr (by decide) hL hv) (congrArg vz er1.symm)) ty_6),(4,.call (zht r1 or1 (by omega)) td_6)] [(2,vp 0 0),(4,vb false),(5,vI (sgn r1.val))] h fun a w h=>?_
 rcases Bool.eq_false_or_eq_true (sgn r1.val == 0) with hc | hc
 ·have hc1:=hc;clear hc
  have hc1':=hc1;(try simp at hc1')
  refine rq za0 1 [(1,.cmp (op:=.eql) (m:=(sgn r1.val)) (n:=0) (b:=true) .i64 hc1)] [(4,vb true)] [] h fun a w h=>?_
  refine wp_ret ?_
  refine rT (.c (.d (.raw (.bool true)))) h rfl rfl ?_
  have hz:zar vs r=(true):=by
   unfold zar;rw [← vr1]
   cases he:r.eq <;> simp_all <;> omega
  rw [hz];first | done | rfl
 have hc2:=hc;clear hc
 have hc2':=hc2;(try simp at hc2')
 rcases Bool.eq_false_or_eq_true r.eq with hc | hc
 ·have hc3:=hc;clear hc
  rw [hc3] at h
  refine rq za0 1 [(1,.cmp (op:=.eql) (m:=(sgn r1.val)) (n:=0) (b:=false) .i64 hc2)] [(4,vb false)] [] h fun a w h=>?_
  refine wp_ret ?_
  refine rT (.c (.d (.raw (.bool false)))) h rfl rfl ?_
  have hz:zar vs r=(false):=by
   unfold zar;rw [← vr1]
   cases he:r.eq <;> simp_all <;> omega
  rw [hz];first | done | rfl
 have hc4:=hc;clear hc
 rw [hc4] at h
 refine rq za0 1 [(1,.cmp (op:=.eql) (m:=(sgn r1.val)) (n:=0) (b:=false) .i64 hc2)] [(4,vb (decide (sgn r1.val>0)))] [] h fun a w h=>?_
 refine wp_ret ?_
 refine rT (.c (.d (.raw (.bool (decide (sgn r1.val>0)))))) h rfl rfl ?_
 have hz:zar vs r=(decide (sgn r1.val>0)):=by
  unfold zar;rw [← vr1]
  cases he:r.eq <;> simp_all <;> omega
 rw [hz];first | done | rfl
theorem SRrelHolds (r:zac) (vs:List ZI) {L M:Nat} (hL:L+M≤20000) (hv:VOk M vs) (hr:TokR L r):Fn Tryz.prog 25 [] [(vR r),(vZs vs)] (vb (zar vs r)) []:=by
 refine Fn.body Tryz.func25 rfl 17 rfl fun w H B a h=>?_
 refine rq za0 0 [] [(1,(vZs vs)),(2,vp 0 0),(4,vb false)] [(0,.box (zR_ r))] h fun a w h=>?_
 obtain ⟨r1,er1,vr1,or1,lr1⟩:=mkZ (v:=valT r.t vs) (m:=L+M+2) (Nat.le_trans (val_len hr (by decide) hv (fun p hp=>hp) (Nat.le_refl _)) (by omega))
 refine rqk za0 1 [(3,.call (Fn.cast (SRValue r.t vs hr (by decide) hL hv) (congrArg vz er1.symm)) ke_2),(4,.call (zby r1 or1 (by omega)) zi4)] [(2,vp 0 0),(4,vb false),(5,vI (sgn r1.val))] h fun a w h=>?_
 refine wp_seq (rq za0 1 [] [(4,vb false),(5,vI (sgn r1.val)),(12,vb r.eq)] [] h fun a w h=>?_)
 refine zah r.eq h rfl (fun hc1=>?_) (fun hc2=>?_)
 ·refine rq za0 1 [] [(4,vb (sgn r1.val == 0)),(5,vI (sgn r1.val))] [] h fun a w h=>?_
  refine wp_ret (za8 ?_)
  refine rT (.c (cB (sgn r1.val == 0))) h rfl rfl ?_
  have hz:zar vs r=(sgn r1.val == 0):=by
   unfold zar;rw [← vr1]
   cases he:r.eq <;> simp_all <;> omega
  rw [hz];first | done | rfl
 refine wp_skip (za2 (rq za0 1 [] [(4,vb (decide (sgn r1.val≥0)))] [] h fun a w h=>?_))
 refine wp_ret ?_
 refine rT (.c (cB (decide (sgn r1.val≥0)))) h rfl rfl ?_
 have hz:zar vs r=(decide (sgn r1.val≥0)):=by
  unfold zar;rw [← vr1]
  cases he:r.eq <;> simp_all <;> omega
 rw [hz];first | done | rfl
theorem zf7 {α:Type} {xs:List α} {x:α} (h:xs[0]?=some x):x ∈ xs.take 1:=by
 cases xs with
 | nil=>cases h
 | cons y ys=>simp at h;subst h;simp
theorem zho {α:Type} {xs:List α} {x:α} (h:xs[0]?=some x):∃ tl,xs=x :: tl:=by
 cases xs with
 | nil=>cases h
 | cons y ys=>simp at h;subst h;exact ⟨ys,rfl⟩
theorem SRHolds0 (f:za1) (vs:List ZI) {L M:Nat} (ih:∀ g ∈ f.kids,g.ok L→Fn Tryz.prog 26 [] [(vF g),(vZs vs)] (vb (za1.holds vs g)) []) (hL:L+M≤20000) (hv:VOk M vs) (hf:f.ok L) (hk:f.kids.length≤9223372036854775807):Fn Tryz.prog 26 [] [(vF f),(vZs vs)] (vb (f.holds vs)) []:=by
 refine Fn.body Tryz.func26 rfl 65 rfl fun w H B a h=>?_
 refine rq za0 0 [] [(1,(vZs vs)),(2,vp 0 0),(4,vb false)] [(0,.box (zF f))] h fun a w h=>?_
 refine wp_seq (rqk za0 1 [] [(1,(vZs vs)),(2,vp 0 0),(4,vb false),(8,vI f.kind)] h fun a w h=>?_)
 refine wp_block (rqk za0 1 [] [(1,(vZs vs)),(2,vp 0 0),(4,vb false),(8,vI f.kind),(9,vb (f.kind == 0))] h fun a w h=>?_)
 refine zah (f.kind == 0) h rfl (fun hc1=>?_) (fun hc2=>?_)
 ·have hc1':=hc1;(try simp at hc1')
  refine rq za0 1 [] [(4,vb true)] [] h fun a w h=>?_
  refine wp_ret (zad (za8 ?_))
  refine rT (.c (cB true)) h rfl rfl ?_
  have hz:f.holds vs=(true):=by rw [za1.holds_eq,if_pos (by omega)];first | done | rfl
  rw [hz];first | done | rfl
 have hc2':=hc2;(try simp at hc2')
 refine rqk za0 1 [] [(1,(vZs vs)),(2,vp 0 0),(4,vb false),(8,vI f.kind),(11,vb (f.kind == 2))] h fun a w h=>?_
 refine zah (f.kind == 2) h rfl (fun hc3=>?_) (fun hc4=>?_)
 ·have hc3':=hc3;(try simp at hc3')
  refine rq za0 1 [(3,.call (SRrelHolds f.r vs hL hv (((za1.ok_eq L f).1 hf).1 (by omega))) ke_9)] [(4,vb (zar vs f.r))] [] h fun a w h=>?_
  refine wp_ret (zad (za8 ?_))
  refine rT (.c (cB (zar vs f.r))) h rfl rfl ?_
  have hz:f.holds vs=(zar vs f.r):=by rw [za1.holds_eq,if_neg (by omega),if_pos (by omega)];first | done | rfl
  rw [hz];first | done | rfl
 have hc4':=hc4;(try simp at hc4')
 refine rqk za0 1 [] [(1,(vZs vs)),(2,vp 0 0),(4,vb false),(8,vI f.kind),(17,vb (f.kind == 3))] h fun a w h=>?_
 refine zah (f.kind == 3) h rfl (fun hc5=>?_) (fun hc8=>?_)
 ·have hc5':=hc5;(try simp at hc5')
  rcases Bool.eq_false_or_eq_true (decide ((f.kids.length:Int)>0)) with hc | hc
  ·have hc6:=hc;clear hc
   have hc6':=dT hc6
   obtain ⟨x2,hx2⟩:=gl f.kids 0
   refine rq za0 1 [(2,.len (za9 6 za1.d f.kids)),(3,.cmp (op:=.gtr) (m:=(f.kids.length:Int)) (n:=0) (b:=true) .i64 hc6),(7,.g (xD 26 25 zhj ((zaf hx2 (f:=za1.d)).trans (congrArg some (za1.d_eq x2))) (OV.const (.int .i64 0) rfl))),(10,.call (ih x2 (lM hx2) (((za1.ok_eq L f).1 hf).2 _ (by unfold cnt;first | (rw [if_pos (by omega)];exact lM hx2) | (rw [if_neg (by omega),if_pos (by omega)];exact zf7 hx2)))) ke_10)] [(4,vb (!(za1.holds vs x2)))] [] h fun a w h=>?_
   refine wp_ret (zad (za8 ?_))
   refine rT (.c (cB (!(za1.holds vs x2)))) h rfl rfl ?_
   have hz:f.holds vs=(!(za1.holds vs x2)):=by rw [za1.holds_eq,if_neg (by omega),if_neg (by omega),if_pos (by omega)];obtain ⟨tl,htl⟩:=zho hx2;rw [htl];first | done | rfl
   rw [hz];first | done | rfl
  have hc7:=hc;clear hc
  have hc7':=dF hc7
  refine rq za0 1 [(2,.len (za9 6 za1.d f.kids)),(3,.cmp (op:=.gtr) (m:=(f.kids.length:Int)) (n:=0) (b:=false) .i64 hc7)] [(4,vb false)] [] h fun a w h=>?_
  refine wp_ret (zad (za8 ?_))
  refine rT (.c (cB false)) h rfl rfl ?_
  have hz:f.holds vs=(false):=by rw [za1.holds_eq,if_neg (by omega),if_neg (by omega),if_pos (by omega)];rw [List.length_eq_zero_iff.1 (show f.kids.length=0 by have:=dF hc7;omega)];first | done | rfl
  rw [hz];first | done | rfl
 have hc8':=hc8;(try simp at hc8')
 refine rqk za0 1 [] [(1,(vZs vs)),(2,vp 0 0),(4,vb false),(8,vI f.kind),(32,vb (f.kind == 4))] h fun a w h=>?_
 refine zah (f.kind == 4) h rfl (fun hc9=>?_) (fun hc14=>?_)
 ·have hc9':=hc9;(try simp at hc9')
  refine wp_seq (rqk za0 1 [] [(1,(vZs vs)),(2,vp 0 0),(4,vb false),(5,vI 0)] h fun a w h=>?_)
  refine wp_block ?_
  refine zau (ι:=(Nat)) (fun j=>j≤f.kids.length∧(f.kids.take j).all (za1.holds vs)=true)
    (fun j=>[(1,(vZs vs)),(2,vp 0 0),(5,vN j)])
    (fun j=>[(0,.box (zF f))])
    (fun j=>f.kids.length - j) 0 ?_ h (by kernel_rfl) (by kernel_rfl) ?_
  ·exact ⟨Nat.zero_le _,rfl⟩
  clear h;rintro j a w hI h
  obtain ⟨hI1,hI2⟩:=hI
  refine wp_seq (rqk za0 1 [(3,.len (za9 6 za1.d f.kids))] [(1,(vZs vs)),(2,vp 0 0),(5,vN j),(38,vb (decide ((j:Int)<(f.kids.length:Int))))] h fun a w h=>?_)
  refine zam ((j:Int)<(f.kids.length:Int)) h rfl (fun hc10 hc10'=>?_) (fun hc13 hc13'=>?_)
  ·refine wp_skip (za2 (wp_seq (wp_block ?_)))
   obtain ⟨x4,hx4⟩:=gl f.kids j
   refine rqk za0 1 [(3,.g (xD 44 42 zhj ((zaf hx4 (f:=za1.d)).trans (congrArg some (za1.d_eq x4))) (OV.tmp 43 _))),(6,.call (ih x4 (lM hx4) (((za1.ok_eq L f).1 hf).2 _ (by unfold cnt;first | (rw [if_pos (by omega)];exact lM hx4) | (rw [if_neg (by omega),if_pos (by omega)];exact zf7 hx4)))) ke_10)] [(1,(vZs vs)),(2,vp 0 0),(5,vN j),(48,vb (!(za1.holds vs x4)))] h fun a w h=>?_
   refine zah (!(za1.holds vs x4)) h rfl (fun hc11=>?_) (fun hc12=>?_)
   ·have hc11':=hc11;(try simp at hc11')
    refine rqk za0 1 [] [(1,(vZs vs)),(2,vp 0 0),(4,vb false),(5,vN j)] h fun a w h=>?_
    refine wp_ret (zad (za8 (za8 (zad (za8 (zad (za8 ?_)))))))
    refine rT (.c (cB false)) h rfl rfl ?_
    have hz:f.holds vs=(false):=by rw [za1.holds_eq,if_neg (by omega),if_neg (by omega),if_neg (by omega),if_pos (by omega)];exact zbs hx4 (show (za1.holds vs x4)=false from by simpa using hc11)
    rw [hz];first | done | rfl
   have hc12':=hc12;(try simp at hc12')
   refine wp_skip (zaa (za2 (rnk za0 1 [(1,.j1 j)] [(1,(vZs vs)),(2,vp 0 0),(5,vI ((j:Int)+1))] h fun a w h=>?_)))
   refine za2 ?_
   refine zaj (x:=j) (y:=j+1) h ?_ ?_
   ·exact ⟨by have:=zag hx4;omega,zbi hx4 hI2 (show (za1.holds vs x4)=true from by simpa using hc12)⟩
   show f.kids.length - (j+1)<f.kids.length - j
   have:=zag hx4;omega
  refine wp_exit (zab (zab (za7 (za2 (rq za0 1 [] [(4,vb true)] [] h fun a w h=>?_)))))
  refine wp_ret (zad (za8 ?_))
  refine rT (.c (cB true)) h rfl rfl ?_
  have hz:f.holds vs=(true):=by rw [za1.holds_eq,if_neg (by omega),if_neg (by omega),if_neg (by omega),if_pos (by omega)];exact zdf (dF hc13) hI2
  rw [hz];first | done | rfl
 have hc14':=hc14;(try simp at hc14')
 refine rqk za0 1 [] [(1,(vZs vs)),(2,vp 0 0),(4,vb false),(49,vb (f.kind == 5))] h fun a w h=>?_
 refine zah (f.kind == 5) h rfl (fun hc15=>?_) (fun hc20=>?_)
 ·have hc15':=hc15;(try simp at hc15')
  refine rqk za0 1 [] [(1,(vZs vs)),(2,vp 0 0),(4,vb false),(6,vI 0)] h fun a w h=>?_
  refine wp_block ?_
  refine zau (ι:=(Nat)) (fun j=>j≤f.kids.length∧(f.kids.take j).any (za1.holds vs)=false)
    (fun j=>[(1,(vZs vs)),(2,vp 0 0),(6,vN j)])
    (fun j=>[(0,.box (zF f))])
    (fun j=>f.kids.length - j) 0 ?_ h (by kernel_rfl) (by kernel_rfl) ?_
  ·exact ⟨Nat.zero_le _,rfl⟩
  clear h;rintro j a w hI h
  obtain ⟨hI1,hI2⟩:=hI
  refine wp_seq (rqk za0 1 [(3,.len (za9 6 za1.d f.kids))] [(1,(vZs vs)),(2,vp 0 0),(6,vN j),(55,vb (decide ((j:Int)<(f.kids.length:Int))))] h fun a w h=>?_)
  refine zam ((j:Int)<(f.kids.length:Int)) h rfl (fun hc16 hc16'=>?_) (fun hc19 hc19'=>?_)
  ·refine wp_skip (za2 (wp_seq (wp_block ?_)))
   obtain ⟨x6,hx6⟩:=gl f.kids j
   refine rqk za0 1 [(3,.g (xD 61 59 zhj ((zaf hx6 (f:=za1.d)).trans (congrArg some (za1.d_eq x6))) (OV.tmp 60 _))),(6,.call (ih x6 (lM hx6) (((za1.ok_eq L f).1 hf).2 _ (by unfold cnt;first | (rw [if_pos (by omega)];exact lM hx6) | (rw [if_neg (by omega),if_pos (by omega)];exact zf7 hx6)))) ke_10)] [(1,(vZs vs)),(2,vp 0 0),(6,vN j),(64,vb (za1.holds vs x6))] h fun a w h=>?_
   refine zah (za1.holds vs x6) h rfl (fun hc17=>?_) (fun hc18=>?_)
   ·refine rqk za0 1 [] [(1,(vZs vs)),(2,vp 0 0),(4,vb true),(6,vN j)] h fun a w h=>?_
    refine wp_ret (zad (za8 (za8 (zad (zad (za8 ?_))))))
    refine rT (.c (cB true)) h rfl rfl ?_
    have hz:f.holds vs=(true):=by rw [za1.holds_eq,if_neg (by omega),if_neg (by omega),if_neg (by omega),if_neg (by omega),if_pos (by omega)];exact any_stop hx6 hc17
    rw [hz];first | done | rfl
   refine wp_skip (zaa (za2 (rnk za0 1 [(1,.j1 j)] [(1,(vZs vs)),(2,vp 0 0),(6,vI ((j:Int)+1))] h fun a w h=>?_)))
   refine za2 ?_
   refine zaj (x:=j) (y:=j+1) h ?_ ?_
   ·exact ⟨by have:=zag hx6;omega,any_step hx6 hI2 hc18⟩
   show f.kids.length - (j+1)<f.kids.length - j
   have:=zag hx6;omega
  refine wp_exit (zab (zab (za7 (zaa (za2 (rq za0 1 [] [(4,vb false)] [] h fun a w h=>?_))))))
  refine wp_ret ?_
  refine rT (.c (cB false)) h rfl rfl ?_
  have hz:f.holds vs=(false):=by rw [za1.holds_eq,if_neg (by omega),if_neg (by omega),if_neg (by omega),if_neg (by omega),if_pos (by omega)];exact any_end (dF hc19) hI2
  rw [hz];first | done | rfl
 have hc20':=hc20;(try simp at hc20')
 refine wp_skip (zaa (za2 (rq za0 1 [] [(4,vb false)] [] h fun a w h=>?_)))
 refine wp_ret ?_
 refine rT (.c (cB false)) h rfl rfl ?_
 have hz:f.holds vs=(false):=by rw [za1.holds_eq,if_neg (by omega),if_neg (by omega),if_neg (by omega),if_neg (by omega),if_neg (by omega)];first | done | rfl
 rw [hz];first | done | rfl
theorem SRHolds (vs:List ZI) {L M:Nat} (hL:L+M≤20000) (hv:VOk M vs) (f:za1):f.lb→f.ok L→Fn Tryz.prog 26 [] [(vF f),(vZs vs)] (vb (za1.holds vs f)) [] :=
 za1.ind (P:=fun f=>f.lb→f.ok L→Fn Tryz.prog 26 [] [(vF f),(vZs vs)] (vb (za1.holds vs f)) []) (fun k r ks ih hl hf=>by
  have hl:=(za1.lb_eq _).1 hl
  exact SRHolds0 ⟨k,r,ks⟩ vs (fun g hg h=>ih g hg (hl.2 g hg) h) hL hv hf hl.1.2) f
end
section
open Go.RowKit

theorem la_1:Sz Tryz.prog 57 4 true:=Sz.mk' (by kernel_rfl) Tryz.underlying57 _ rfl
theorem la_2:za6 Tryz.prog 116:=za6.mk' (by kernel_rfl)
theorem zd2:Sz Tryz.prog 60 6 true:=Sz.mk' (by kernel_rfl) Tryz.underlying60 _ rfl
theorem la_5:za6 Tryz.prog 117:=za6.mk' (by kernel_rfl)
theorem la_7:ElT Tryz.prog 58 60 6 96:=ElT.mk' Tryz.underlying58 _ _ rfl rfl (by kernel_rfl) (by kernel_rfl) (by kernel_rfl) (by decide) (by decide)
theorem la_8:za6 Tryz.prog 93:=za6.mk' (by kernel_rfl)
theorem la_9:za6 Tryz.prog 84:=za6.mk' (by kernel_rfl)
theorem la_10:za6 Tryz.prog 136:=za6.mk' (by kernel_rfl)
theorem la_11:za6 Tryz.prog 86:=za6.mk' (by kernel_rfl)
theorem zbn {α β:Type} {f:α→β} {xs:List α} {j:Nat} {x:α} (h:xs[j]?=some x):(xs.take j).map f++[f x]=(xs.take (j+1)).map f:=by rw [List.take_add_one,h,List.map_append];rfl
def leaR (t:zb9):zac:=⟨za3 t,false⟩
theorem LLeast (t:zb9) (ht:TOk 1000 10000 t):Fn Tryz.prog 143 [] [(vT t)] (vR (leaR t)) []:=by
 refine Fn.body Tryz.func143 rfl 6 rfl fun w H B a h=>?_
 refine rq za0 0 [] [(1,vp 0 0),(2,vp 1 0)] [(0,.box (zT t)),(1,.box zR0)] h fun a w h=>?_
 refine rq za0 2 [(1,.call (zfg t ht (by decide) (by decide)) tm_7)] [(2,vp 1 0)] [(1,.box ((zT (za3 t))++[cB false]))] h fun a w h=>?_
 refine wp_ret ?_
 refine rA 1 ((zT (za3 t))++[cB false]) h la_1 rfl rfl rfl rfl rfl ?_
 rfl
theorem Lcopied (r:zac) (hr:TOk 1000 10000 r.t):Fn Tryz.prog 116 [] [(vR r)] (vR (cpR r)) []:=by
 refine Fn.body Tryz.func116 rfl 9 rfl fun w H B a h=>?_
 refine rq za0 0 [] [(1,vp 0 0),(2,vp 1 0)] [(0,.box (zR_ r)),(1,.box zR0)] h fun a w h=>?_
 refine rq za0 2 [(2,.call (zfg r.t hr (by decide) (by decide)) tm_7)] [(2,vp 1 0)] [(1,.box ((zT (za3 r.t))++[cB r.eq]))] h fun a w h=>?_
 refine wp_ret ?_
 refine rA 1 ((zT (za3 r.t))++[cB r.eq]) h la_1 rfl rfl rfl rfl rfl ?_
 rfl
theorem LOf (r:zac) (hr:TOk 1000 10000 r.t):Fn Tryz.prog 84 [] [(vR r)] (vF (zb8 r)) []:=by
 refine Fn.body Tryz.func84 rfl 6 rfl fun w H B a h=>?_
 refine rq za0 0 [] [(1,vp 0 0),(2,vp 1 0)] [(0,.box (zR_ r)),(1,.box zF0)] h fun a w h=>?_
 refine rq za0 2 [(1,.call (Lcopied r hr) la_2)] [(2,vp 1 0)] [(1,.box ([cI 2,cPs (cpR r).t.parts]++zi (cpR r).t.k++[cB (cpR r).eq,.d (.raw zae)]))] h fun a w h=>?_
 refine wp_ret ?_
 replace h:=zbo 1 5 6 ([cI 2,cPs (cpR r).t.parts]++zi (cpR r).t.k++[cB (cpR r).eq,.d (.raw zae)]) [(2,vp 1 0)] [(1,.box ([cI 2,cPs (cpR r).t.parts]++zi (cpR r).t.k++[cB (cpR r).eq,cFs []]))] h rfl rfl
 refine rA 1 ([cI 2,cPs (cpR r).t.parts]++zi (cpR r).t.k++[cB (cpR r).eq,cFs []]) h zd2 rfl rfl rfl rfl rfl ?_
 rfl
theorem LTruth (b:Bool) :Fn Tryz.prog 93 [] [vb b] (vF (zcf b)) []:=by
 refine Fn.body Tryz.func93 rfl 6 rfl fun w H B a h=>?_
 refine rq za0 0 [] [(0,vb b),(2,vp 0 0)] [(0,.box zF0)] h fun a w h=>?_
 refine wp_seq (rqk za0 1 [] [(2,vp 0 0),(3,vb b)] h fun a w h=>?_)
 refine zah b h rfl (fun hc1=>?_) (fun hc2=>?_)
 ·refine rqk za0 1 [] [(2,vp 0 0)] h fun a w h=>?_
  refine wp_ret (za8 ?_)
  replace h:=zbo 0 1 3 zF0 [(2,vp 0 0)] [(0,.box [cI 0,cPs [],cB false,.d (nsl []),cB false,.d (.raw zae)])] h rfl rfl
  replace h:=zbo 0 5 6 [cI 0,cPs [],cB false,.d (nsl []),cB false,.d (.raw zae)] [(2,vp 0 0)] [(0,.box [cI 0,cPs [],cB false,.d (nsl []),cB false,cFs []])] h rfl rfl
  refine rA 0 [cI 0,cPs [],cB false,.d (nsl []),cB false,cFs []] h zd2 rfl rfl rfl rfl rfl ?_
  rw [hc1];rfl
 refine wp_skip (za2 (rq za0 1 [] [(2,vp 0 0)] [(0,.box [cI 1,.d (.raw zae),cB false,.d (nsl []),cB false,.d (.raw zae)])] h fun a w h=>?_))
 refine wp_ret ?_
 replace h:=zbo 0 1 3 [cI 1,.d (.raw zae),cB false,.d (nsl []),cB false,.d (.raw zae)] [(2,vp 0 0)] [(0,.box [cI 1,cPs [],cB false,.d (nsl []),cB false,.d (.raw zae)])] h rfl rfl
 replace h:=zbo 0 5 6 [cI 1,cPs [],cB false,.d (nsl []),cB false,.d (.raw zae)] [(2,vp 0 0)] [(0,.box [cI 1,cPs [],cB false,.d (nsl []),cB false,cFs []])] h rfl rfl
 refine rA 0 [cI 1,cPs [],cB false,.d (nsl []),cB false,cFs []] h zd2 rfl rfl rfl rfl rfl ?_
 rw [hc2];rfl
theorem take_min1 {α:Type} (xs:List α):xs.take (min xs.length 1)=xs.take 1:=by
 cases xs with
 | nil=>rfl
 | cons x xs=>rw [Nat.min_eq_right (by simp)]
theorem Lkids (f:za1) (hk:f.kids.length≤9223372036854775807):Fn Tryz.prog 136 [] [(vF f)] (vFs (cnt f.kind f.kids)) []:=by
 refine Fn.body Tryz.func136 rfl 19 rfl fun w H B a h=>?_
 refine rq za0 0 [] [(1,vp 0 0),(2,.t (.c (.d (.raw zae))))] [(0,.box (zF f))] h fun a w h=>?_
 refine wp_seq (rqk za0 1 [] [(1,vp 0 0),(2,.t (.c (.d (.raw zae)))),(4,vI f.kind)] h fun a w h=>?_)
 refine wp_block (wp_seq (rqk za0 1 [] [(1,vp 0 0),(2,.t (.c (.d (.raw zae)))),(4,vI f.kind),(5,vb (f.kind == 4))] h fun a w h=>?_))
 refine zah (f.kind == 4) h rfl (fun hc1=>?_) (fun hc2=>?_)
 ·have hc1':=hc1;(try simp at hc1')
  refine wp_skip (za2 ?_)
  refine zah (f.kind == 4) h rfl (fun hc=>?_) (fun hc=>?_)
  ·clear hc
   refine rq za0 1 [] [(2,(vFs f.kids))] [] h fun a w h=>?_
   refine wp_ret (zad (za8 ?_))
   refine rT (.c (cFs f.kids)) h rfl rfl ?_
   have p4: f.kind=4:=by have:=hc1;simpa using this
   have hz:cnt f.kind f.kids=f.kids:=by unfold cnt;rw [if_pos (by omega)]
   rw [hz];first | done | rfl
  rw [hc1] at hc;cases hc
 have hc2':=hc2;(try simp at hc2')
 refine rnk za0 1 [] [(1,vp 0 0),(2,.t (.c (.d (.raw zae)))),(4,vI f.kind),(5,vb (f.kind == 5))] h fun a w h=>?_
 refine za2 ?_
 refine zah (f.kind == 5) h rfl (fun hc3=>?_) (fun hc4=>?_)
 ·have hc3':=hc3;(try simp at hc3')
  refine rq za0 1 [] [(2,(vFs f.kids))] [] h fun a w h=>?_
  refine wp_ret (zad (za8 ?_))
  refine rT (.c (cFs f.kids)) h rfl rfl ?_
  have p4:¬ f.kind=4:=by have:=hc2;simpa using this
  have p5: f.kind=5:=by have:=hc3;simpa using this
  have hz:cnt f.kind f.kids=f.kids:=by unfold cnt;rw [if_pos (by omega)]
  rw [hz];first | done | rfl
 have hc4':=hc4;(try simp at hc4')
 refine rqk za0 1 [] [(1,vp 0 0),(2,.t (.c (.d (.raw zae)))),(10,vb (f.kind == 3))] h fun a w h=>?_
 refine zah (f.kind == 3) h rfl (fun hc5=>?_) (fun hc6=>?_)
 ·have hc5':=hc5;(try simp at hc5')
  refine rq za0 1 [(4,.len (za9 6 za1.d f.kids)),(5,.g (Op.min2 (d:=17) (tys:=#[3,3]) (k:=.i64) (m:=(f.kids.length:Int)) (n:=1) (r:=((min f.kids.length 1:Nat):Int)) (OV.tmp 16 _) (OV.const (.int .i64 1) rfl) (by omega))),(6,.g (Op.sliceD (d:=18) (t:=13) (l:=0) (h:=(min f.kids.length 1)) (rows:=f.kids.map za1.d) (rows':=(f.kids.take (min f.kids.length 1)).map za1.d) zhj (BO.no _) (BO.yes (k:=.i64) (i:=(min f.kids.length 1)) _ (OV.tmp 17 _)) (by first | omega | (simp at *;omega)) (by first | omega | (simp only [List.length_map];omega) | (simp at *;omega)) (by simp [List.map_take])))] [(2,(vFs (f.kids.take (min f.kids.length 1))))] [] h fun a w h=>?_
  refine wp_ret (zad (za8 ?_))
  refine rT (.c (cFs (f.kids.take (min f.kids.length 1)))) h rfl rfl ?_
  have p4:¬ f.kind=4:=by have:=hc2;simpa using this
  have p5:¬ f.kind=5:=by have:=hc4;simpa using this
  have p3: f.kind=3:=by have:=hc5;simpa using this
  have hz:cnt f.kind f.kids=(f.kids.take (min f.kids.length 1)):=by unfold cnt;rw [if_neg (by omega),if_pos (by omega),← take_min1]
  rw [hz];first | done | rfl
 have hc6':=hc6;(try simp at hc6')
 refine wp_skip (zaa (za2 (rq za0 1 [] [(2,.t (.c (.d (.raw zae))))] [] h fun a w h=>?_)))
 refine wp_ret ?_
 replace h:=nilDSs 2 0 6 (.t (.c (.d (.raw zae)))) [(2,(vFs []))] [] h rfl rfl
 refine rT (.c (cFs [])) h rfl rfl ?_
 have p4:¬ f.kind=4:=by have:=hc2;simpa using this
 have p5:¬ f.kind=5:=by have:=hc4;simpa using this
 have p3:¬ f.kind=3:=by have:=hc6;simpa using this
 have hz:cnt f.kind f.kids=[]:=by unfold cnt;rw [if_neg (by omega),if_neg (by omega)]
 rw [hz];first | done | rfl
theorem Lclones (fs:List za1) (hcl:∀ g ∈ fs,Fn Tryz.prog 117 [] [(vF g)] (vF (za1.cl g)) []) (hl:fs.length≤1000000):Fn Tryz.prog 86 [] [(vFs fs)] (vFs (fs.map za1.cl)) []:=by
 refine Fn.body Tryz.func86 rfl 19 rfl fun w H B a h=>?_
 refine rq za0 5 [] [(0,(vFs fs)),(2,.t (.c (.d (.raw zae))))] [] h fun a w h=>?_
 refine rq za0 5 [] [(0,(vFs fs)),(2,.t (.c (.d (.raw zae)))),(3,.t (.c (.d (.raw zae))))] [] h fun a w h=>?_
 refine wp_seq (rq za0 5 [(1,.len (za9 6 za1.d fs))] [(2,.t (.c (.d (.raw zae)))),(3,.t (.c (.d (.raw zae)))),(6,(vFs fs)),(7,vN fs.length),(8,vI 0)] [] h fun a w h=>?_)
 refine wp_block ?_
 replace h:=zev 3 0 5 6 60 (.t (.c (.d (.raw zae)))) [(2,.t (.c (.d (.raw zae)))),(3,.t (.c (.own 5 0))),(6,(vFs fs)),(7,vN fs.length),(8,vI 0)] [(5,.row 60 6 ([].map za1.d))] h (by kernel_rfl) rfl rfl
 refine zau (ι:=(Nat)) (fun j=>j≤fs.length)
   (fun j=>[(2,.t (.c (.d (.raw zae)))),(3,.t (.c (.own 5 ((fs.take j).map za1.cl).length))),(6,(vFs fs)),(7,vN fs.length),(8,vN j)])
   (fun j=>[(5,.row 60 6 (((fs.take j).map za1.cl).map za1.d))])
   (fun j=>fs.length - j) 0 ?_ h (by kernel_rfl) (by kernel_rfl) ?_
 ·exact Nat.zero_le _
 clear h;rintro j a w hI h
 have lmj:((fs.take j).map za1.cl).length≤j:=by rw [List.length_map,List.length_take];omega
 refine rqk za0 6 [] [(2,.t (.c (.d (.raw zae)))),(3,.t (.c (.own 5 ((fs.take j).map za1.cl).length))),(6,(vFs fs)),(7,vN fs.length),(8,vN j),(9,vb (decide ((j:Int)<(fs.length:Int))))] h fun a w h=>?_
 refine wp_seq ?_
 refine zam ((j:Int)<(fs.length:Int)) h rfl (fun hc1 hc1'=>?_) (fun hc2 hc2'=>?_)
 ·refine wp_skip (za2 (wp_seq (wp_block ?_)))
  obtain ⟨x1,hx1⟩:=gl fs j
  refine rq za0 6 [(0,.g (xD 10 6 zhj ((zaf hx1 (f:=za1.d)).trans (congrArg some (za1.d_eq x1))) (OV.tmp 8 _)))] [(2,.t (.c (.d (.raw zae)))),(3,.t (.c (.own 5 ((fs.take j).map za1.cl).length))),(5,vp 6 0),(6,(vFs fs)),(7,vN fs.length),(8,vN j)] [(5,.row 60 6 (((fs.take j).map za1.cl).map za1.d)),(6,.box (zF x1))] h fun a w h=>?_
  refine rn za0 7 [(2,.call (hcl x1 (lM hx1)) la_5),(3,.g (bD 15 ([(za1.cl x1)].map za1.d) [(14,(vF (za1.cl x1)))] kb_1 (.cons (i:=0) (OV.tmp 14 _) (.nil)) (by simp only [List.map_cons,List.map_nil,List.flatten_cons,List.flatten_nil,List.append_nil,za1.d_eq];kernel_rfl) (by simp [za1.d_len]))),(4,.g (aD 16 12 15 5 7 ((fs.take j).map za1.cl) [(za1.cl x1)] za1.d la_7 (by simp [za1.d_len])))] [(2,.t (.c (.d (.raw zae)))),(3,.t (.c (.own 7 (((fs.take j).map za1.cl)++[(za1.cl x1)]).length))),(6,(vFs fs)),(7,vN fs.length),(8,vN j)] [(7,.row 60 6 ((((fs.take j).map za1.cl)++[(za1.cl x1)]).map za1.d))] h fun a w h=>?_
  refine zaa (za2 (rnk za0 8 [(0,.j1 j)] [(2,.t (.c (.d (.raw zae)))),(3,.t (.c (.own 7 (((fs.take j).map za1.cl)++[(za1.cl x1)]).length))),(6,(vFs fs)),(7,vN fs.length),(8,vI ((j:Int)+1))] h fun a w h=>?_))
  refine za2 ?_
  rw [show ((((fs.take j).map za1.cl)++[(za1.cl x1)]):List za1)=((fs.take (j+1)).map za1.cl) from (zbn hx1)] at h
  replace h:=zbz 7 5 [(2,.t (.c (.d (.raw zae)))),(3,.t (.c (.own 5 ((fs.take (j+1)).map za1.cl).length))),(6,(vFs fs)),(7,vN fs.length),(8,vI ((j:Int)+1))] [(5,.row 60 6 (((fs.take (j+1)).map za1.cl).map za1.d))] h
  refine zaj (x:=j) (y:=j+1) h ?_ ?_
  ·have:=zag hx1
   show j+1≤fs.length
   omega
  show fs.length - (j+1)<fs.length - j
  have:=zag hx1;omega
 refine wp_exit (zab (zab (za7 (za2 (rqk za0 8 [] [(2,.t (.c (.own 5 ((fs.take j).map za1.cl).length)))] h fun a w h=>?_)))))
 refine wp_ret ?_
 rw [show (((fs.take j).map za1.cl):List za1)=(fs.map za1.cl) from (by rw [List.take_of_length_le (by omega)])] at h
 replace h:=zgn 5 6 60 ((fs.map za1.cl).map za1.d) [(2,(vFs (fs.map za1.cl)))] [] h rfl (show zbt _ [(fs.map za1.cl).length] from ⟨by first | exact (List.length_map _).symm | (simp;done) | (simp;omega),trivial⟩) trivial
 refine rT (.c (cFs (fs.map za1.cl))) h rfl rfl ?_
 rfl
def za1.okB (n L:Nat) (f:za1):Prop:=f.fold fun k r ks ps=>((k=2→TOk n L r.t)∧ks.length≤9223372036854775807∧(cnt k ks).length≤1000000)∧∀ p ∈ cnt k ps,p
theorem za1.okB_eq (n L:Nat) (f:za1):f.okB n L ↔ ((f.kind=2→TOk n L f.r.t)∧f.kids.length≤9223372036854775807∧(cnt f.kind f.kids).length≤1000000)∧∀ g ∈ cnt f.kind f.kids,g.okB n L:=by
 have:=za1.fold_eq (fun k r ks (ps:List Prop)=>((k=2→TOk n L r.t)∧ks.length≤9223372036854775807∧(cnt k ks).length≤1000000)∧∀ p ∈ cnt k ps,p) f
 rw [ze4] at this
 unfold za1.okB
 rw [this]
 refine and_congr_right fun _=>⟨fun h g hg=>h _ (List.mem_map.2 ⟨g,hg,rfl⟩),fun h p hp=>?_⟩
 obtain ⟨g,hg,rfl⟩:=List.mem_map.1 hp
 exact h g hg
theorem za1.okB_mono {n L n' L':Nat} (hn:n≤n') (hL:L≤L') (f:za1):f.okB n L→f.okB n' L' :=
 za1.ind (P:=fun f=>f.okB n L→f.okB n' L') (fun k r ks ih hf=>by
  rw [za1.okB_eq] at hf ⊢
  exact ⟨⟨fun e=>(hf.1.1 e).mono hn hL,hf.1.2⟩,fun g hg=>ih g (zce hg) (hf.2 g hg)⟩) f
theorem okB_tru (n L:Nat) (b:Bool):(zcf b).okB n L:=by
 rw [za1.okB_eq];cases b <;> exact ⟨⟨fun e=>absurd e (by decide),Nat.zero_le _,Nat.zero_le _⟩,fun g hg=>by cases hg⟩
theorem zim {n L:Nat} {r:zac} (h:TOk n L r.t):(za1.mk 2 r []).okB n L:=by
 rw [za1.okB_eq];exact ⟨⟨fun _=>h,Nat.zero_le _,Nat.zero_le _⟩,fun g hg=>by cases hg⟩
theorem okB_kids {n L:Nat} {k:Int} {r:zac} {ks:List za1} (hk:k≠2) (hl:ks.length≤1000000) (h:∀ g ∈ ks,g.okB n L):(za1.mk k r ks).okB n L:=by
 rw [za1.okB_eq];exact ⟨⟨fun e=>absurd e hk,Nat.le_trans hl (by decide),Nat.le_trans (cnt_len _ _) hl⟩,fun g hg=>h g (zce hg)⟩
theorem okB_each {n L n' L':Nat} {t:zac→zac} (ht:∀ r,TOk n L r.t→TOk n' L' (t (cpR r)).t) (f:za1):f.okB n L→(f.each t).okB n' L' :=
 za1.ind (P:=fun f=>f.okB n L→(f.each t).okB n' L') (fun k r ks ih hf=>by
  obtain ⟨⟨h1,h2⟩,h3⟩:=(za1.okB_eq _ _ _).1 hf
  change k=2→_ at h1
  change ks.length≤_∧(cnt k ks).length≤_ at h2
  change ∀ g ∈ cnt k ks,_ at h3
  rw [za1.each_eq]
  show (zh1 t k r (ks.map (za1.each t))).okB n' L'
  unfold zh1
  split
  ·exact okB_tru _ _ _
  ·split
   ·rename_i e;exact zim (ht r (h1 e))
   ·split
    ·rename_i hk2 h4
     refine okB_kids hk2 (by rw [ze4,List.length_map];exact h2.2) fun g hg=>?_
     rw [ze4] at hg
     obtain ⟨q,hq,rfl⟩:=List.mem_map.1 hg
     exact ih q (zce hq) (h3 q hq)
    ·exact okB_tru _ _ _) f
theorem okB_cl {n L:Nat} (hn:n≤1000) (f:za1) (h:f.okB n L):f.cl.okB n (L+1):=okB_each (t:=id) (fun _r hr=>hr.plain hn) f h
theorem zgt {n L:Nat} {f:za1} (h:f.okB n L):f.kids.length≤9223372036854775807:=((za1.okB_eq _ _ _).1 h).1.2.1
theorem zfd {n L:Nat} {f:za1} (h:f.okB n L):(cnt f.kind f.kids).length≤1000000:=((za1.okB_eq _ _ _).1 h).1.2.2
theorem kid_ok {n L:Nat} {f g:za1} (h:f.okB n L) (hg:g ∈ cnt f.kind f.kids):g.okB n L:=((za1.okB_eq _ _ _).1 h).2 g hg
theorem rel_ok {n L:Nat} {f:za1} (h:f.okB n L) (e:(f.kind == 2)=true):TOk n L f.r.t:=((za1.okB_eq _ _ _).1 h).1.1 (by simpa using e)
theorem cl_tru {f:za1} (e:(f.kind == 0)=true):f.cl=zcf true:=by rw [cl_eq];unfold zh1;rw [if_pos (by simpa using e)]
theorem cl_at {f:za1} (e:(f.kind == 2)=true):f.cl=zb8 f.r:=by
 have e:f.kind=2:=by simpa using e
 rw [cl_eq,e];rfl
theorem cl_kids {f:za1} (e:f.kind=3∨f.kind=4∨f.kind=5):f.cl=⟨f.kind,zR,(cnt f.kind f.kids).map za1.cl⟩:=by
 rw [cl_eq,zeb _ _ _ e,ze4]
theorem cl_out {f:za1} (h0:(f.kind == 0)=false) (h2:(f.kind == 2)=false) (h3:(f.kind == 3)=false) (h4:(f.kind == 4)=false) (h5:(f.kind == 5)=false):f.cl=zcf false:=by
 simp only [beq_eq_false_iff_ne] at h0 h2 h3 h4 h5
 rw [cl_eq,zh0 _ _ _ h0 h2 (by omega)]
theorem Lclone0 (f:za1) (ih:∀ g ∈ cnt f.kind f.kids,Fn Tryz.prog 117 [] [(vF g)] (vF (za1.cl g)) []) (hf:f.okB 1000 10000):Fn Tryz.prog 117 [] [(vF f)] (vF (za1.cl f)) []:=by
 refine Fn.body Tryz.func117 rfl 24 rfl fun w H B a h=>?_
 refine rq za0 0 [] [(1,vp 0 0),(2,vp 1 0)] [(0,.box (zF f)),(1,.box zF0)] h fun a w h=>?_
 refine wp_seq (rqk za0 2 [] [(1,vp 0 0),(2,vp 1 0),(4,vI f.kind)] h fun a w h=>?_)
 refine wp_block (rqk za0 2 [] [(1,vp 0 0),(2,vp 1 0),(4,vI f.kind),(5,vb (f.kind == 0))] h fun a w h=>?_)
 refine zah (f.kind == 0) h rfl (fun hc1=>?_) (fun hc2=>?_)
 ·have hc1':=hc1;(try simp at hc1')
  refine rq za0 2 [(0,.call (LTruth true) la_8)] [(2,vp 1 0)] [(1,.box (zF (zcf true)))] h fun a w h=>?_
  refine wp_ret (zad (za8 ?_))
  refine rA 1 (zF (zcf true)) h zd2 rfl rfl rfl rfl rfl ?_
  rw [cl_tru hc1];first | done | rfl
 have hc2':=hc2;(try simp at hc2')
 refine rqk za0 2 [] [(1,vp 0 0),(2,vp 1 0),(4,vI f.kind),(8,vb (f.kind == 2))] h fun a w h=>?_
 refine zah (f.kind == 2) h rfl (fun hc3=>?_) (fun hc4=>?_)
 ·have hc3':=hc3;(try simp at hc3')
  refine rq za0 2 [(2,.call (LOf f.r (rel_ok hf hc3)) la_9)] [(2,vp 1 0)] [(1,.box (zF (zb8 f.r)))] h fun a w h=>?_
  refine wp_ret (zad (za8 ?_))
  refine rA 1 (zF (zb8 f.r)) h zd2 rfl rfl rfl rfl rfl ?_
  rw [cl_at hc3];first | done | rfl
 have hc4':=hc4;(try simp at hc4')
 refine wp_seq (rqk za0 2 [] [(1,vp 0 0),(2,vp 1 0),(4,vI f.kind),(13,vb (f.kind == 3))] h fun a w h=>?_)
 refine zah (f.kind == 3) h rfl (fun hc5=>?_) (fun hc6=>?_)
 ·have hc5':=hc5;(try simp at hc5')
  refine wp_skip (za2 ?_)
  refine zah (f.kind == 3) h rfl (fun hc=>?_) (fun hc=>?_)
  ·clear hc
   refine rq za0 2 [(3,.call (Lkids f (zgt hf)) la_10),(4,.call (Lclones (cnt f.kind f.kids) ih (zfd hf)) la_11)] [(2,vp 1 0)] [(1,.box [cI f.kind,.d (.raw zae),cB false,.d (nsl []),cB false,cFs ((cnt f.kind f.kids).map za1.cl)])] h fun a w h=>?_
   refine wp_ret (zad (za8 ?_))
   replace h:=zbo 1 1 3 [cI f.kind,.d (.raw zae),cB false,.d (nsl []),cB false,cFs ((cnt f.kind f.kids).map za1.cl)] [(2,vp 1 0)] [(1,.box [cI f.kind,cPs [],cB false,.d (nsl []),cB false,cFs ((cnt f.kind f.kids).map za1.cl)])] h rfl rfl
   refine rA 1 [cI f.kind,cPs [],cB false,.d (nsl []),cB false,cFs ((cnt f.kind f.kids).map za1.cl)] h zd2 rfl rfl rfl rfl rfl ?_
   rw [cl_kids (by have:=hc5;simp at this;omega)];first | done | rfl
  rw [hc5] at hc;cases hc
 have hc6':=hc6;(try simp at hc6')
 refine rqk za0 2 [] [(1,vp 0 0),(2,vp 1 0),(4,vI f.kind),(13,vb (f.kind == 4))] h fun a w h=>?_
 refine zah (f.kind == 4) h rfl (fun hc7=>?_) (fun hc8=>?_)
 ·have hc7':=hc7;(try simp at hc7')
  refine wp_skip (za2 ?_)
  refine zah (f.kind == 4) h rfl (fun hc=>?_) (fun hc=>?_)
  ·clear hc
   refine rq za0 2 [(3,.call (Lkids f (zgt hf)) la_10),(4,.call (Lclones (cnt f.kind f.kids) ih (zfd hf)) la_11)] [(2,vp 1 0)] [(1,.box [cI f.kind,.d (.raw zae),cB false,.d (nsl []),cB false,cFs ((cnt f.kind f.kids).map za1.cl)])] h fun a w h=>?_
   refine wp_ret (zad (za8 ?_))
   replace h:=zbo 1 1 3 [cI f.kind,.d (.raw zae),cB false,.d (nsl []),cB false,cFs ((cnt f.kind f.kids).map za1.cl)] [(2,vp 1 0)] [(1,.box [cI f.kind,cPs [],cB false,.d (nsl []),cB false,cFs ((cnt f.kind f.kids).map za1.cl)])] h rfl rfl
   refine rA 1 [cI f.kind,cPs [],cB false,.d (nsl []),cB false,cFs ((cnt f.kind f.kids).map za1.cl)] h zd2 rfl rfl rfl rfl rfl ?_
   rw [cl_kids (by have:=hc7;simp at this;omega)];first | done | rfl
  rw [hc7] at hc;cases hc
 have hc8':=hc8;(try simp at hc8')
 refine rnk za0 2 [] [(1,vp 0 0),(2,vp 1 0),(13,vb (f.kind == 5))] h fun a w h=>?_
 refine za2 ?_
 refine zah (f.kind == 5) h rfl (fun hc9=>?_) (fun hc10=>?_)
 ·have hc9':=hc9;(try simp at hc9')
  refine rq za0 2 [(3,.call (Lkids f (zgt hf)) la_10),(4,.call (Lclones (cnt f.kind f.kids) ih (zfd hf)) la_11)] [(2,vp 1 0)] [(1,.box [cI f.kind,.d (.raw zae),cB false,.d (nsl []),cB false,cFs ((cnt f.kind f.kids).map za1.cl)])] h fun a w h=>?_
  refine wp_ret (zad (za8 ?_))
  replace h:=zbo 1 1 3 [cI f.kind,.d (.raw zae),cB false,.d (nsl []),cB false,cFs ((cnt f.kind f.kids).map za1.cl)] [(2,vp 1 0)] [(1,.box [cI f.kind,cPs [],cB false,.d (nsl []),cB false,cFs ((cnt f.kind f.kids).map za1.cl)])] h rfl rfl
  refine rA 1 [cI f.kind,cPs [],cB false,.d (nsl []),cB false,cFs ((cnt f.kind f.kids).map za1.cl)] h zd2 rfl rfl rfl rfl rfl ?_
  rw [cl_kids (by have:=hc9;simp at this;omega)];first | done | rfl
 have hc10':=hc10;(try simp at hc10')
 refine wp_skip (zaa (za2 (rq za0 2 [(0,.call (LTruth false) la_8)] [(2,vp 1 0)] [(1,.box (zF (zcf false)))] h fun a w h=>?_)))
 refine wp_ret ?_
 refine rA 1 (zF (zcf false)) h zd2 rfl rfl rfl rfl rfl ?_
 rw [cl_out hc2 hc4 hc6 hc8 hc10];first | done | rfl
theorem Lclone (f:za1):f.okB 1000 10000→Fn Tryz.prog 117 [] [(vF f)] (vF (za1.cl f)) [] :=
 za1.ind (P:=fun f=>f.okB 1000 10000→Fn Tryz.prog 117 [] [(vF f)] (vF (za1.cl f)) []) (fun k r ks ih hf=>Lclone0 ⟨k,r,ks⟩ (fun g hg=>ih g (zce hg) (kid_ok hf hg)) hf) f
theorem LDeny (f:za1) (hf:f.okB 1000 10000):Fn Tryz.prog 85 [] [(vF f)] (vF (denyF f)) []:=by
 refine Fn.body Tryz.func85 rfl 7 rfl fun w H B a h=>?_
 refine rq za0 0 [] [(1,vp 0 0),(2,vp 1 0)] [(0,.box (zF f)),(1,.box zF0)] h fun a w h=>?_
 refine rq za0 2 [(1,.call (Lclone f hf) la_5),(2,.g (bD 5 ([(za1.cl f)].map za1.d) [(4,(vF (za1.cl f)))] kb_1 (.cons (i:=0) (OV.tmp 4 _) (.nil)) (by simp only [List.map_cons,List.map_nil,List.flatten_cons,List.flatten_nil,List.append_nil,za1.d_eq];kernel_rfl) (by simp [za1.d_len])))] [(2,vp 1 0)] [(1,.box [cI 3,.d (.raw zae),cB false,.d (nsl []),cB false,cFs [(za1.cl f)]])] h fun a w h=>?_
 refine wp_ret ?_
 replace h:=zbo 1 1 3 [cI 3,.d (.raw zae),cB false,.d (nsl []),cB false,cFs [(za1.cl f)]] [(2,vp 1 0)] [(1,.box [cI 3,cPs [],cB false,.d (nsl []),cB false,cFs [(za1.cl f)]])] h rfl rfl
 refine rA 1 [cI 3,cPs [],cB false,.d (nsl []),cB false,cFs [(za1.cl f)]] h zd2 rfl rfl rfl rfl rfl ?_
 rfl
theorem LAll (fs:List za1) (hf:∀ g ∈ fs,g.okB 1000 10000) (hl:fs.length≤1000000):Fn Tryz.prog 55 [] [(vFs fs)] (vF (allF fs)) []:=by
 refine Fn.body Tryz.func55 rfl 6 rfl fun w H B a h=>?_
 refine rq za0 0 [] [(0,(vFs fs)),(2,vp 0 0)] [(0,.box zF0)] h fun a w h=>?_
 refine rq za0 1 [(1,.call (Lclones fs (fun g hg=>Lclone g (hf g hg)) hl) la_11)] [(2,vp 0 0)] [(0,.box [cI 4,.d (.raw zae),cB false,.d (nsl []),cB false,cFs (fs.map za1.cl)])] h fun a w h=>?_
 refine wp_ret ?_
 replace h:=zbo 0 1 3 [cI 4,.d (.raw zae),cB false,.d (nsl []),cB false,cFs (fs.map za1.cl)] [(2,vp 0 0)] [(0,.box [cI 4,cPs [],cB false,.d (nsl []),cB false,cFs (fs.map za1.cl)])] h rfl rfl
 refine rA 0 [cI 4,cPs [],cB false,.d (nsl []),cB false,cFs (fs.map za1.cl)] h zd2 rfl rfl rfl rfl rfl ?_
 rfl
end
section
open Go.RowKit

theorem lb_3:za6 Tryz.prog 139:=za6.mk' (by kernel_rfl)
theorem lb_12:za6 Tryz.prog 143:=za6.mk' (by kernel_rfl)
theorem lb_13:za6 Tryz.prog 120:=za6.mk' (by kernel_rfl)
theorem lb_16:za6 Tryz.prog 138:=za6.mk' (by kernel_rfl)
theorem lb_20:za6 Tryz.prog 118:=za6.mk' (by kernel_rfl)
theorem lb_21:za6 Tryz.prog 119:=za6.mk' (by kernel_rfl)
theorem Lknown (b:Bool) :Fn Tryz.prog 139 [] [vb b] (.tup [.agg (zR_ zR),.c (cI (if b=true then 1 else -1))]) []:=by
 refine Fn.body Tryz.func139 rfl 7 rfl fun w H B a h=>?_
 refine rq za0 0 [] [(0,vb b),(2,vp 0 0),(3,vI 0)] [(0,.box zR0)] h fun a w h=>?_
 refine wp_seq (rqk za0 1 [] [(2,vp 0 0),(3,vI 0),(4,vb b)] h fun a w h=>?_)
 refine zah b h rfl (fun hc1=>?_) (fun hc2=>?_)
 ·refine rqk za0 1 [] [(2,vp 0 0),(3,vI 1)] h fun a w h=>?_
  refine wp_ret (za8 ?_)
  replace h:=zbo 0 0 3 zR0 [(2,vp 0 0),(3,vI 1)] [(0,.box [cPs [],cB false,.d (nsl []),cB false])] h rfl rfl
  refine zd0 [.agg [cPs [],cB false,.d (nsl []),cB false],.c (cI 1)] h Exit.ret (.inl rfl)  rfl ⟨RV.agg _ 0 0 _ _ _ _ la_1 rfl rfl rfl rfl,RV.tmp _ _ rfl,trivial⟩ ?_
  rw [hc1];rfl
 refine wp_skip (za2 (rqk za0 1 [] [(2,vp 0 0),(3,vI (-1))] h fun a w h=>?_))
 refine wp_ret ?_
 replace h:=zbo 0 0 3 zR0 [(2,vp 0 0),(3,vI (-1))] [(0,.box [cPs [],cB false,.d (nsl []),cB false])] h rfl rfl
 refine zd0 [.agg [cPs [],cB false,.d (nsl []),cB false],.c (cI (-1))] h Exit.ret (.inl rfl)  rfl ⟨RV.agg _ 0 0 _ _ _ _ la_1 rfl rfl rfl rfl,RV.tmp _ _ rfl,trivial⟩ ?_
 rw [hc2];rfl
theorem shr_len (t:zb9):(zc4 (za3 t)).parts.length=(za3 t).parts.length:=by
 unfold zc4;rw [zbp];split
 ·rfl
 ·exact List.length_map _
theorem plain_k (t:zb9):(za3 t).k.val=t.k.val:=ZI.val_of _
theorem zg8 {r:zac} (h:(za3 r.t).parts.length=0):zao r=(zR,if (sgn (za3 r.t).k.val == 0 || (!r.eq && decide (sgn (za3 r.t).k.val>0)))=true then 1 else -1):=by
 unfold zao;rw [if_pos h,plain_k]
theorem tight_le {r:zac} (h:(za3 r.t).parts.length≠0) (he:r.eq=false):zao r=(⟨zc4 (za3 r.t),false⟩,0):=by
 unfold zao;rw [if_neg h,if_neg (fun e=>by rw [he] at e;exact Bool.noConfusion e.1),he,zhc];rfl
theorem tight_no {r:zac} (h:(za3 r.t).parts.length≠0) (he:r.eq=true) (hz:(za3 r.t).k.val.fmod (zc1 (za3 (za3 r.t)).parts)≠0):zao r=(zR,-1):=by
 rw [zeo,plain_k] at hz
 unfold zao;rw [if_neg h,if_pos ⟨he,hz⟩]
theorem zif {r:zac} (h:(za3 r.t).parts.length≠0) (he:r.eq=true) (hz:(za3 r.t).k.val.fmod (zc1 (za3 (za3 r.t)).parts)=0) {b:Bool} (hb:firstN (zc4 (za3 r.t))=b):zao r=(⟨if b=true then negT (zc4 (za3 r.t)) else zc4 (za3 r.t),true⟩,0):=by
 rw [zeo,plain_k] at hz
 rw [zhc] at hb ⊢
 unfold zao;rw [if_neg h,if_neg (fun e=>e.2 hz),he,hb];rfl
theorem ziv {t:zb9} {p:za4} (h:t.parts[0]?=some p):firstN t=decide (sgn p.c.val<0):=by
 unfold firstN
 cases e:t.parts with
 | nil=>rw [e] at h;cases h
 | cons q qs=>rw [e] at h;injection h with h;rw [h]
theorem LTight (r:zac) (hr:TOk 400 9000 r.t):Fn Tryz.prog 119 [] [.t (.agg ([.d (.sl 3 (r.t.parts.map za4.d))]++zi r.t.k++[.d (.raw (.bool r.eq))]))] (.tup [.agg ([.d (.sl 3 ((zao r).1.t.parts.map za4.d))]++zi (zao r).1.t.k++[.d (.raw (.bool (zao r).1.eq))]),.c (.d (.raw (.int .i64 (zao r).2)))]) []:=by
 have hpk:=(hr.plain (by decide)).kl
 refine Fn.body Tryz.func119 rfl 74 rfl fun w H B a h=>?_
 refine rq za0 0 [] [(1,vp 0 0),(2,vp 1 0),(3,vI 0)] [(0,.box ([.d (.sl 3 (r.t.parts.map za4.d))]++zi r.t.k++[.d (.raw (.bool r.eq))])),(1,.box zR0)] h fun a w h=>?_
 refine rq za0 2 [(2,.call (zfg r.t hr (by decide) (by decide)) tm_7)] [(1,vp 0 0),(2,vp 1 0),(3,vI 0),(4,vp 2 0)] [(0,.box ([.d (.sl 3 (r.t.parts.map za4.d))]++zi r.t.k++[.d (.raw (.bool r.eq))])),(1,.box zR0),(2,.box ([.d (.sl 3 ((za3 r.t).parts.map za4.d))]++zi (za3 r.t).k))] h fun a w h=>?_
 refine wp_seq (rqk za0 3 [(2,.len (za9 3 za4.d ((za3 r.t).parts)))] [(1,vp 0 0),(2,vp 1 0),(3,vI 0),(4,vp 2 0),(14,vb (((za3 r.t).parts.length:Int) == 0))] h fun a w h=>?_)
 refine zah (((za3 r.t).parts.length:Int) == 0) h rfl (fun hc1=>?_) (fun hc6=>?_)
 ·have hc1':=hc1;(try simp at hc1')
  have hpl:(za3 r.t).parts.length=0:=by have:=hc1;simpa using this
  rcases Bool.eq_false_or_eq_true (sgn (za3 r.t).k.val == 0) with hc | hc
  ·have hc2:=hc;clear hc
   have hc2':=hc2;(try simp at hc2')
   refine rq za0 3 [(2,.call (zht (za3 r.t).k ((TOk.plain hr (by decide))).kb (by omega)) td_6),(3,.cmp (op:=.eql) (m:=(sgn (za3 r.t).k.val)) (n:=0) (b:=true) .i64 hc2),(15,.call (Lknown true) lb_3)] [(1,vp 0 0),(2,vp 1 0),(3,vI (if true=true then 1 else -1)),(4,vp 2 0)] [(0,.box ([.d (.sl 3 (r.t.parts.map za4.d))]++zi r.t.k++[.d (.raw (.bool r.eq))])),(1,.box ([.d (.sl 3 (zR.t.parts.map za4.d))]++zi zR.t.k++[.d (.raw (.bool zR.eq))])),(2,.box ([.d (.sl 3 ((za3 r.t).parts.map za4.d))]++zi (za3 r.t).k))] h fun a w h=>?_
   refine wp_ret (za8 ?_)
   refine zd0 [.agg ([.d (.sl 3 (zR.t.parts.map za4.d))]++zi zR.t.k++[.d (.raw (.bool zR.eq))]),.c (.d (.raw (.int .i64 (if true=true then 1 else -1))))] h Exit.ret (.inl rfl)  rfl ⟨RV.agg _ 1 0 _ _ _ _ la_1 rfl rfl rfl rfl,RV.tmp _ _ rfl,trivial⟩ ?_
   rw [zg8 hpl,hc2];first | done | rfl
  have hc3:=hc;clear hc
  have hc3':=hc3;(try simp at hc3')
  rcases Bool.eq_false_or_eq_true r.eq with hc | hc
  ·have hc4:=hc;clear hc
   rw [hc4] at h
   refine rq za0 3 [(2,.call (zht (za3 r.t).k ((TOk.plain hr (by decide))).kb (by omega)) td_6),(3,.cmp (op:=.eql) (m:=(sgn (za3 r.t).k.val)) (n:=0) (b:=false) .i64 hc3),(15,.call (Lknown false) lb_3)] [(1,vp 0 0),(2,vp 1 0),(3,vI (if false=true then 1 else -1)),(4,vp 2 0)] [(0,.box ([.d (.sl 3 (r.t.parts.map za4.d))]++zi r.t.k++[.d (.raw (.bool true))])),(1,.box ([.d (.sl 3 (zR.t.parts.map za4.d))]++zi zR.t.k++[.d (.raw (.bool zR.eq))])),(2,.box ([.d (.sl 3 ((za3 r.t).parts.map za4.d))]++zi (za3 r.t).k))] h fun a w h=>?_
   refine wp_ret (za8 ?_)
   refine zd0 [.agg ([.d (.sl 3 (zR.t.parts.map za4.d))]++zi zR.t.k++[.d (.raw (.bool zR.eq))]),.c (.d (.raw (.int .i64 (if false=true then 1 else -1))))] h Exit.ret (.inl rfl)  rfl ⟨RV.agg _ 1 0 _ _ _ _ la_1 rfl rfl rfl rfl,RV.tmp _ _ rfl,trivial⟩ ?_
   rw [zg8 hpl,hc3,hc4];first | done | rfl
  have hc5:=hc;clear hc
  rw [hc5] at h
  refine rq za0 3 [(2,.call (zht (za3 r.t).k ((TOk.plain hr (by decide))).kb (by omega)) td_6),(3,.cmp (op:=.eql) (m:=(sgn (za3 r.t).k.val)) (n:=0) (b:=false) .i64 hc3),(11,.call (zht (za3 r.t).k ((TOk.plain hr (by decide))).kb (by omega)) td_6),(15,.call (Lknown (decide (sgn (za3 r.t).k.val>0))) lb_3)] [(1,vp 0 0),(2,vp 1 0),(3,vI (if (decide (sgn (za3 r.t).k.val>0))=true then 1 else -1)),(4,vp 2 0)] [(0,.box ([.d (.sl 3 (r.t.parts.map za4.d))]++zi r.t.k++[.d (.raw (.bool false))])),(1,.box ([.d (.sl 3 (zR.t.parts.map za4.d))]++zi zR.t.k++[.d (.raw (.bool zR.eq))])),(2,.box ([.d (.sl 3 ((za3 r.t).parts.map za4.d))]++zi (za3 r.t).k))] h fun a w h=>?_
  refine wp_ret (za8 ?_)
  refine zd0 [.agg ([.d (.sl 3 (zR.t.parts.map za4.d))]++zi zR.t.k++[.d (.raw (.bool zR.eq))]),.c (.d (.raw (.int .i64 (if (decide (sgn (za3 r.t).k.val>0))=true then 1 else -1))))] h Exit.ret (.inl rfl)  rfl ⟨RV.agg _ 1 0 _ _ _ _ la_1 rfl rfl rfl rfl,RV.tmp _ _ rfl,trivial⟩ ?_
  rw [zg8 hpl,hc3,hc5];first | done | rfl
 have hc6':=hc6;(try simp at hc6')
 refine wp_skip (za2 (wp_seq ?_))
 have hpl:(za3 r.t).parts.length≠0:=by have:=hc6;simpa using this
 have hcon:=con_pos (t:=r.t) (by omega)
 have hcon2:zc1 (za3 (za3 r.t)).parts=zc1 (za3 r.t).parts:=zeo _
 have hsl:=shr_len r.t
 refine rq za0 3 [] [(2,vp 1 0),(3,vI 0),(4,vp 2 0),(35,vb (!r.eq))] [(1,.box zR0),(2,.box ([.d (.sl 3 ((za3 r.t).parts.map za4.d))]++zi (za3 r.t).k))] h fun a w h=>?_
 refine zah (!r.eq) h rfl (fun hc7=>?_) (fun hc8=>?_)
 ·have hc7':=hc7;(try simp at hc7')
  refine rq za0 3 [(1,.call (SShrink (za3 r.t) (TOk.plain hr (by decide)) (by decide) (by decide)) ty_2)] [(2,vp 1 0),(3,vI 0),(4,vp 2 0)] [(1,.box zR0),(2,.box ([.d (.sl 3 ((zc4 (za3 r.t)).parts.map za4.d))]++zi (zc4 (za3 r.t)).k))] h fun a w h=>?_
  refine rq za0 3 [] [(2,vp 1 0),(3,vI 0),(4,vp 2 0)] [(1,.box ([.d (.sl 3 ((zc4 (za3 r.t)).parts.map za4.d))]++zi (zc4 (za3 r.t)).k++[.d (.raw (.bool false))])),(2,.box ([.d (.sl 3 ((zc4 (za3 r.t)).parts.map za4.d))]++zi (zc4 (za3 r.t)).k))] h fun a w h=>?_
  refine wp_ret (za8 ?_)
  refine zd0 [.agg ([.d (.sl 3 ((zc4 (za3 r.t)).parts.map za4.d))]++zi (zc4 (za3 r.t)).k++[.d (.raw (.bool false))]),.c (.d (.raw (.int .i64 0)))] h Exit.ret (.inl rfl)  rfl ⟨RV.agg _ 1 0 _ _ _ _ la_1 rfl rfl rfl rfl,RV.tmp _ _ rfl,trivial⟩ ?_
  rw [tight_le hpl (by simpa using hc7)];first | done | rfl
 have hc8':=hc8;(try simp at hc8')
 refine wp_skip (za2 (wp_seq ?_))
 obtain ⟨r12,er12,vr12,or12,lr12⟩:=mkZ (v:=zc1 (za3 (za3 r.t)).parts) (m:=9002) (con_len' (TOk.plain hr (by decide)) (by decide))
 obtain ⟨r13q,er13q,vr13q,or13q,lr13q⟩:=mkZ (v:=(za3 r.t).k.val.fdiv r12.val) (m:=(za3 r.t).k.abs.length) (zek ((TOk.plain hr (by decide))).kb (by omega))
 obtain ⟨r13r,er13r,vr13r,or13r,lr13r⟩:=mkZ (v:=(za3 r.t).k.val.fmod r12.val) (m:=r12.abs.length) (zfp or12 (by omega))
 refine rq za0 3 [(3,.call (Fn.cast (SContent (za3 r.t) (TOk.plain hr (by decide)) (by decide) (by decide)) (congrArg vz er12.symm)) tw_1),(4,.call (Fn.cast (SDiv (za3 r.t).k r12 ((TOk.plain hr (by decide))).kb or12 (by omega) (by omega) (by omega)) (show _=(.tup [.agg (zi r13q),.agg (zi r13r),.c (.d (.raw (.int .i64 0)))]:V) by rw [er13q,er13r];first | done | rfl)) zs_20)] [(2,vp 1 0),(3,vI 0),(4,vp 2 0),(6,vp 4 0)] [(1,.box zR0),(2,.box ([.d (.sl 3 ((za3 r.t).parts.map za4.d))]++zi (za3 r.t).k)),(4,.box (zi r13r))] h fun a w h=>?_
 refine rq za0 5 [(1,.call (zht r13r or13r (by omega)) td_6)] [(2,vp 1 0),(3,vI 0),(4,vp 2 0),(54,vb (sgn r13r.val != 0))] [(1,.box zR0),(2,.box ([.d (.sl 3 ((za3 r.t).parts.map za4.d))]++zi (za3 r.t).k))] h fun a w h=>?_
 refine zah (sgn r13r.val != 0) h rfl (fun hc9=>?_) (fun hc10=>?_)
 ·have hc9':=hc9;(try simp at hc9')
  refine rq za0 5 [(0,.call (Lknown false) lb_3)] [(2,vp 1 0),(3,vI (if false=true then 1 else -1)),(4,vp 2 0)] [(1,.box ([.d (.sl 3 (zR.t.parts.map za4.d))]++zi zR.t.k++[.d (.raw (.bool zR.eq))])),(2,.box ([.d (.sl 3 ((za3 r.t).parts.map za4.d))]++zi (za3 r.t).k))] h fun a w h=>?_
  refine wp_ret (za8 ?_)
  refine zd0 [.agg ([.d (.sl 3 (zR.t.parts.map za4.d))]++zi zR.t.k++[.d (.raw (.bool zR.eq))]),.c (.d (.raw (.int .i64 (if false=true then 1 else -1))))] h Exit.ret (.inl rfl)  rfl ⟨RV.agg _ 1 0 _ _ _ _ la_1 rfl rfl rfl rfl,RV.tmp _ _ rfl,trivial⟩ ?_
  rw [tight_no hpl (by simpa using hc8) (by rw [← vr12,← vr13r];exact sgn_ne hc9)];first | done | rfl
 have hc10':=hc10;(try simp at hc10')
 refine wp_skip (za2 (rq za0 5 [(1,.call (SShrink (za3 r.t) (TOk.plain hr (by decide)) (by decide) (by decide)) ty_2)] [(2,vp 1 0),(3,vI 0),(4,vp 2 0)] [(1,.box zR0),(2,.box ([.d (.sl 3 ((zc4 (za3 r.t)).parts.map za4.d))]++zi (zc4 (za3 r.t)).k))] h fun a w h=>?_))
 refine wp_seq ?_
 obtain ⟨x17,hx17⟩:=gl ((zc4 (za3 r.t)).parts) 0
 obtain ⟨ox17,lx17⟩:=((shr_tok (TOk.plain hr (by decide)) (by decide))).get hx17
 refine rqk za0 5 [(2,.g (xD 65 64 zc3 (zaf hx17 (f:=za4.d)) (OV.const (.int .i64 0) rfl))),(5,.call (zht x17.c ox17 (by omega)) td_6)] [(2,vp 1 0),(3,vI 0),(4,vp 2 0),(69,vb (decide (sgn x17.c.val<0)))] h fun a w h=>?_
 refine zam (sgn x17.c.val<0) h rfl (fun hc11 hc11'=>?_) (fun hc12 hc12'=>?_)
 ·refine rn za0 5 [(1,.call (SNeg3 (zc4 (za3 r.t)) ((shr_tok (TOk.plain hr (by decide)) (by decide)).mono (by decide) (by decide))) tm_14)] [(2,vp 1 0),(3,vI 0),(4,vp 2 0)] [(1,.box zR0),(2,.box ([.d (.sl 3 ((negT (zc4 (za3 r.t))).parts.map za4.d))]++zi (negT (zc4 (za3 r.t))).k))] h fun a w h=>?_
  refine za2 (rq za0 5 [] [(2,vp 1 0),(3,vI 0)] [(1,.box ([.d (.sl 3 ((negT (zc4 (za3 r.t))).parts.map za4.d))]++zi (negT (zc4 (za3 r.t))).k++[.d (.raw (.bool true))]))] h fun a w h=>?_)
  refine wp_ret ?_
  refine zd0 [.agg ([.d (.sl 3 ((negT (zc4 (za3 r.t))).parts.map za4.d))]++zi (negT (zc4 (za3 r.t))).k++[.d (.raw (.bool true))]),.c (.d (.raw (.int .i64 0)))] h Exit.ret (.inl rfl)  rfl ⟨RV.agg _ 1 0 _ _ _ _ la_1 rfl rfl rfl rfl,RV.tmp _ _ rfl,trivial⟩ ?_
  rw [zif hpl (by simpa using hc8) (by rw [← vr12,← vr13r];exact sgn_eq hc10) (b:=true) (by rw [ziv hx17];exact hc11)];first | done | rfl
 refine wp_skip (za2 (rq za0 5 [] [(2,vp 1 0),(3,vI 0)] [(1,.box ([.d (.sl 3 ((zc4 (za3 r.t)).parts.map za4.d))]++zi (zc4 (za3 r.t)).k++[.d (.raw (.bool true))]))] h fun a w h=>?_))
 refine wp_ret ?_
 refine zd0 [.agg ([.d (.sl 3 ((zc4 (za3 r.t)).parts.map za4.d))]++zi (zc4 (za3 r.t)).k++[.d (.raw (.bool true))]),.c (.d (.raw (.int .i64 0)))] h Exit.ret (.inl rfl)  rfl ⟨RV.agg _ 1 0 _ _ _ _ la_1 rfl rfl rfl rfl,RV.tmp _ _ rfl,trivial⟩ ?_
 rw [zif hpl (by simpa using hc8) (by rw [← vr12,← vr13r];exact sgn_eq hc10) (b:=false) (by rw [ziv hx17];exact hc12)];first | done | rfl
theorem plain_sub (s t:zb9):za3 (zhz s t)=zhz s t:=zbp _
theorem low_eq {t:zb9} {r:ZI} (h:r=ZI.of 1):leaR (zhz (negT t) (zgo r))=lowR t:=by unfold leaR lowR;rw [plain_sub,h];rfl
theorem Lbelow (t:zb9) (ht:TOk 300 3000 t):Fn Tryz.prog 120 [] [(vT t)] (vR (lowR t)) []:=by
 refine Fn.body Tryz.func120 rfl 9 rfl fun w H B a h=>?_
 refine rq za0 0 [] [(1,vp 0 0),(2,vp 1 0)] [(0,.box (zT t)),(1,.box zR0)] h fun a w h=>?_
 obtain ⟨r2,er2,vr2,or2,lr2⟩:=mkZ (v:=1) (m:=2) (ZI.len_of (by have:=pw2;omega))
 refine rq za0 2 [(1,.call (SNeg3 t (ht.mono (by decide) (by decide))) tm_14),(2,.call (Fn.cast (SOf 1 ⟨by omega,by omega⟩) (congrArg vz er2.symm)) tm_10),(3,.call (SNumber r2 or2 (by omega)) to_7),(4,.call (STSub (negT t) (zgo r2) (((TOk.mul ht (ZI.lb_of _) (show (ZI.of (-1)).abs.length≤2 from by decide)).plain (by decide)).mono (by decide) (by decide)) ((TOk.num (ZI.lb_of _) (Nat.le_trans (zcd or2) (by omega))).mono (by decide) (by decide))) to_9),(5,.call (LLeast (zhz (negT t) (zgo r2)) ((addT_ok (((TOk.mul ht (ZI.lb_of _) (show (ZI.of (-1)).abs.length≤2 from by decide)).plain (by decide)).mono (Nat.le_refl 300) (show 3003≤3003 by decide)) (((TOk.mul (TOk.num (ZI.lb_of _) (Nat.le_trans (zcd or2) (by omega))) (ZI.lb_of _) (show (ZI.of (-1)).abs.length≤2 from by decide)).plain (by decide)).mono (Nat.le_refl 0) (show 103≤3003 by decide)) (by decide)).mono (by decide) (by decide))) lb_12)] [(2,vp 1 0)] [(1,.box (zR_ (leaR (zhz (negT t) (zgo r2)))))] h fun a w h=>?_
 refine wp_ret ?_
 refine rA 1 (zR_ (leaR (zhz (negT t) (zgo r2)))) h la_1 rfl rfl rfl rfl rfl ?_
 rw [← low_eq er2];first | done | rfl
theorem LrDeny (r:zac) (hr:TOk 300 2000 r.t):Fn Tryz.prog 95 [] [(vR r)] (vRs (zap r)) []:=by
 refine Fn.body Tryz.func95 rfl 18 rfl fun w H B a h=>?_
 refine rq za0 0 [] [(1,vp 0 0),(2,.t (.c (.d (.raw zae))))] [(0,.box (zR_ r))] h fun a w h=>?_
 refine wp_seq (rqk za0 1 [] [(1,vp 0 0),(2,.t (.c (.d (.raw zae)))),(5,vb (!r.eq))] h fun a w h=>?_)
 refine zah (!r.eq) h rfl (fun hc1=>?_) (fun hc2=>?_)
 ·have hc1':=hc1;(try simp at hc1')
  refine rqk za0 1 [(2,.call (Lbelow r.t (hr.mono (by decide) (by decide))) lb_13),(3,.g (bD 9 ([(lowR r.t)].map zac.d) [(8,(vR (lowR r.t)))] kc_5 (.cons (i:=0) (OV.tmp 8 _) (.nil)) (by kernel_rfl) (by simp [zac.d])))] [(1,vp 0 0),(2,(vRs [(lowR r.t)]))] h fun a w h=>?_
  refine wp_ret (za8 ?_)
  refine rT (.c (cRs [(lowR r.t)])) h rfl rfl ?_
  unfold zap;rw [(show (r.eq)=false from by simpa using hc1)];first | done | rfl
 have hc2':=hc2;(try simp at hc2')
 refine wp_skip (za2 (rq za0 1 [(2,.call (SNeg3 r.t (hr.mono (by decide) (by decide))) tm_14),(3,.call (Lbelow (negT r.t) (((TOk.mul hr (ZI.lb_of _) (show (ZI.of (-1)).abs.length≤2 from by decide)).plain (by decide)).mono (by decide) (by decide))) lb_13),(6,.call (Lbelow r.t (hr.mono (by decide) (by decide))) lb_13),(7,.g (Op.buildD (d:=17) (len:=2) (rows:=[(lowR (negT r.t)),(lowR r.t)].map zac.d) (rs:=[(13,(vR (lowR (negT r.t)))),(16,(vR (lowR r.t)))]) kc_5 (.cons (i:=0) (OV.tmp 13 _) (.cons (i:=1) (OV.tmp 16 _) (.nil))) (by kernel_rfl) rfl (by simp [zac.d]) (by decide) (by decide)))] [(2,(vRs [(lowR (negT r.t)),(lowR r.t)]))] [] h fun a w h=>?_))
 refine wp_ret ?_
 refine rT (.c (cRs [(lowR (negT r.t)),(lowR r.t)])) h rfl rfl ?_
 unfold zap;rw [(show (r.eq)=true from by simpa using hc2)];first | done | rfl
def zdn (r:zac):Int:=if r.eq=true then 1 else 0
def zbx (x y:zac):Int:=orZ [zfx x.t y.t,zbc (zdn x) (zdn y)]
theorem Lrank (r:zac) :Fn Tryz.prog 138 [] [(vR r)] (vI (zdn r)) []:=by
 refine Fn.body Tryz.func138 rfl 5 rfl fun w H B a h=>?_
 refine rq za0 0 [] [(1,vp 0 0),(2,vI 0)] [(0,.box (zR_ r))] h fun a w h=>?_
 refine wp_seq (rq za0 1 [] [(2,vI 0),(4,vb r.eq)] [] h fun a w h=>?_)
 refine zah r.eq h rfl (fun hc1=>?_) (fun hc2=>?_)
 ·refine rq za0 1 [] [(2,vI 1)] [] h fun a w h=>?_
  refine wp_ret (za8 ?_)
  refine rT (.c (cI 1)) h rfl rfl ?_
  unfold zdn;rw [hc1];first | done | rfl
 refine wp_skip (za2 (rq za0 1 [] [(2,vI 0)] [] h fun a w h=>?_))
 refine wp_ret ?_
 refine rT (.c (cI 0)) h rfl rfl ?_
 unfold zdn;rw [hc2];first | done | rfl
theorem LCmp (x y:zac) {n L:Nat} (hx:TOk n L x.t) (hy:TOk n L y.t) (hn:n≤1000) (hL:L≤20000):Fn Tryz.prog 118 [] [(vR x),(vR y)] (vI (zbx x y)) []:=by
 refine Fn.body Tryz.func118 rfl 17 rfl fun w H B a h=>?_
 refine rq za0 0 [] [(2,vp 0 0),(3,vp 1 0),(4,vI 0)] [(0,.box (zR_ x)),(1,.box (zR_ y))] h fun a w h=>?_
 refine rq za0 2 [(4,.call (STCmp x.t y.t hx hy hn hL) tx_9),(6,.call (Lrank x) lb_16),(8,.call (Lrank y) lb_16),(9,.call (zh5 (zdn x) (zdn y)) td_5),(10,.g (Op.buildD (d:=15) (len:=2) (rows:=[(zfx x.t y.t),zbc (zdn x) (zdn y)].map zaw) (rs:=[(9,vI (zfx x.t y.t)),(14,vI (zbc (zdn x) (zdn y)))]) tb_0 (.cons (i:=0) (OV.tmp 9 _) (.cons (i:=1) (OV.tmp 14 _) (.nil))) (by kernel_rfl) rfl (by simp [zaw]) (by decide) (by decide))),(11,.call (SOr [(zfx x.t y.t),zbc (zdn x) (zdn y)] (show List.length _≤1000000 from by simp)) tx_4)] [(4,vI (orZ [(zfx x.t y.t),zbc (zdn x) (zdn y)]))] [] h fun a w h=>?_
 refine wp_ret ?_
 refine rT (.c (cI (orZ [(zfx x.t y.t),zbc (zdn x) (zdn y)]))) h rfl rfl ?_
 rfl
theorem LSame (x y:zac) {n L:Nat} (hx:TOk n L x.t) (hy:TOk n L y.t) (hn:n≤1000) (hL:L≤20000):Fn Tryz.prog 92 [] [(vR x),(vR y)] (vb (zbx x y == 0)) []:=by
 refine Fn.body Tryz.func92 rfl 9 rfl fun w H B a h=>?_
 refine rq za0 0 [] [(2,vp 0 0),(3,vp 1 0),(4,vb false)] [(0,.box (zR_ x)),(1,.box (zR_ y))] h fun a w h=>?_
 refine rq za0 2 [(2,.call (LCmp x y hx hy hn hL) lb_20)] [(4,vb ((zbx x y) == 0))] [] h fun a w h=>?_
 refine wp_ret ?_
 refine rT (.c (cB ((zbx x y) == 0))) h rfl rfl ?_
 rfl
theorem LtightF (r:zac) (hr:TOk 400 9000 r.t):Fn Tryz.prog 94 [] [(vR r)] (vF (zav r)) []:=by
 refine Fn.body Tryz.func94 rfl 17 rfl fun w H B a h=>?_
 refine rq za0 0 [] [(1,vp 0 0),(2,vp 1 0)] [(0,.box (zR_ r)),(1,.box zF0)] h fun a w h=>?_
 refine rq za0 2 [(1,.call (LTight r hr) lb_21)] [(2,vp 1 0),(3,vp 2 0),(4,vI (zao r).2)] [(1,.box zF0),(2,.box (zR_ (zao r).1))] h fun a w h=>?_
 refine wp_seq (rqk za0 3 [] [(2,vp 1 0),(3,vp 2 0),(4,vI (zao r).2),(11,vb ((zao r).2 != 0))] h fun a w h=>?_)
 refine zah ((zao r).2 != 0) h rfl (fun hc1=>?_) (fun hc2=>?_)
 ·have hc1':=hc1;(try simp at hc1')
  refine rq za0 3 [(2,.call (LTruth (decide ((zao r).2>0))) la_8)] [(2,vp 1 0),(3,vp 2 0)] [(1,.box (zF (zcf (decide ((zao r).2>0))))),(2,.box (zR_ (zao r).1))] h fun a w h=>?_
  refine wp_ret (za8 ?_)
  refine rA 1 (zF (zcf (decide ((zao r).2>0)))) h zd2 rfl rfl rfl rfl rfl ?_
  unfold zav;rw [if_neg (by simpa using hc1)];first | done | rfl
 have hc2':=hc2;(try simp at hc2')
 refine wp_skip (za2 (rq za0 3 [] [(2,vp 1 0)] [(1,.box ([cI 2,cPs (zao r).1.t.parts]++zi (zao r).1.t.k++[cB (zao r).1.eq,.d (.raw zae)]))] h fun a w h=>?_))
 refine wp_ret ?_
 replace h:=zbo 1 5 6 ([cI 2,cPs (zao r).1.t.parts]++zi (zao r).1.t.k++[cB (zao r).1.eq,.d (.raw zae)]) [(2,vp 1 0)] [(1,.box ([cI 2,cPs (zao r).1.t.parts]++zi (zao r).1.t.k++[cB (zao r).1.eq,cFs []]))] h rfl rfl
 refine rA 1 ([cI 2,cPs (zao r).1.t.parts]++zi (zao r).1.t.k++[cB (zao r).1.eq,cFs []]) h zd2 rfl rfl rfl rfl rfl ?_
 unfold zav;rw [if_pos (by simpa using hc2)];first | done | rfl
end
section
open Go.RowKit

def za1.wid (f:za1):Nat:=f.fold fun k _ _ ws=>3+(cnt k ws).sum
theorem za1.wid_eq (f:za1):f.wid=3+((cnt f.kind f.kids).map za1.wid).sum:=by
 have:=za1.fold_eq (fun k _ _ (ws:List Nat)=>3+(cnt k ws).sum) f
 rw [ze4] at this;exact this
def za1.nodes (f:za1):Nat:=f.fold fun _ _ _ ns=>1+ns.sum
theorem za1.nodes_eq (f:za1):f.nodes=1+(f.kids.map za1.nodes).sum:=za1.fold_eq (fun _ _ _ (ns:List Nat)=>1+ns.sum) f
theorem zdc (fs:List za1):fs.length≤(fs.map za1.nodes).sum:=by
 induction fs with
 | nil=>exact Nat.le_refl _
 | cons f fs ih=>rw [List.map_cons,List.sum_cons,List.length_cons,za1.nodes_eq];omega
theorem ze9 (f:za1):f.kids.length+1≤f.nodes:=by rw [za1.nodes_eq];have:=zdc f.kids;omega
theorem zcn {k:Int}:∀ (fs out:List za1),(zbe k fs out).nodes≤1+(out.map za1.nodes).sum+(fs.map za1.nodes).sum
 | [],out=>by
  unfold zbe
  match out with
  | []=>rw [za1.nodes_eq];show 1+0≤_;omega
  | [g]=>show g.nodes≤_;simp
  | g :: q :: l=>rw [za1.nodes_eq];show 1+((g :: q :: l).map za1.nodes).sum≤_;omega
 | f :: fs,out=>by
  rw [zbe,List.map_cons,List.sum_cons]
  split
  ·omega
  ·split
   ·have:=zcn (k:=k) fs out;omega
   ·split
    ·have:=zcn (k:=k) fs (out++f.kids)
     rw [List.map_append,List.sum_append] at this
     have:=za1.nodes_eq f;omega
    ·have:=zcn (k:=k) fs (out++[f])
     rw [List.map_append,List.sum_append] at this
     simp only [List.map_cons,List.map_nil,List.sum_cons,List.sum_nil] at this
     omega
theorem zef (r:zac):(zav r).nodes=1:=by
 unfold zav;split <;> (rw [za1.nodes_eq];rfl)
theorem sum_le {α:Type} {F G:α→Nat}:∀ {xs:List α}, (∀ x ∈ xs,F x≤G x)→(xs.map F).sum≤(xs.map G).sum
 | [],_=>Nat.le_refl _
 | x :: xs,h=>by
  rw [List.map_cons,List.map_cons,List.sum_cons,List.sum_cons]
  have:=h x (List.mem_cons_self ..);have:=sum_le (xs:=xs) fun y hy=>h y (List.mem_cons_of_mem _ hy);omega
theorem flat_nodes (f:za1):∀ d,(f.flat d).nodes≤f.wid :=
 za1.ind (P:=fun f=>∀ d,(f.flat d).nodes≤f.wid) (fun k r ks ih d=>by
  rw [za1.flat_eq,za1.wid_eq]
  show (zge k r (ks.map za1.flat) d).nodes≤3+((cnt k ks).map za1.wid).sum
  have ht:∀ b,(zcf b).nodes=1:=fun b=>by rw [za1.nodes_eq];rfl
  unfold zge
  split
  ·rw [ht];omega
  ·split
   ·split
    ·have h1:=zcn (k:=5) ((zap r).map zav) []
     rw [List.map_map] at h1
     have e:(za1.nodes ∘ zav)=fun _=>1:=funext fun q=>zef q
     rw [e] at h1
     have h2:((zap r).map fun _=>(1:Nat)).sum≤2:=by unfold zap;split <;> simp
     show (zbe 5 _ []).nodes≤_
     simp only [List.map_nil,List.sum_nil] at h1
     omega
    ·rw [zef];omega
   ·split
    ·rename_i h3
     cases ks with
     | nil=>show (zcf d).nodes≤_;rw [ht];omega
     | cons g gs =>
      subst h3
      have:=ih g (List.mem_cons_self ..) (!d)
      show (g.flat (!d)).nodes≤3+(([g]).map za1.wid).sum
      simp only [List.map_cons,List.map_nil,List.sum_cons,List.sum_nil];omega
    ·split
     ·rename_i h4
      have h1:=zcn (k:=if d=true then 9 - k else k) ((ks.map za1.flat).map fun c=>c d) []
      rw [List.map_map,List.map_map] at h1
      have h2:(ks.map (za1.nodes ∘ ((fun c=>c d) ∘ za1.flat))).sum≤(ks.map za1.wid).sum:=sum_le fun g hg=>ih g hg d
      show (zbe _ _ []).nodes≤_
      rw [show cnt k ks=ks from by unfold cnt;rw [if_pos h4],List.map_map]
      simp only [List.map_nil,List.sum_nil] at h1
      omega
     ·rw [ht];omega) f
theorem tight_tok {n L:Nat} {r:zac} (h:TOk n L r.t) (hn:n≤1000):TOk n (L+4) (zao r).1.t:=by
 have hs:=shr_tok h hn
 unfold zao
 split
 ·exact ⟨Nat.zero_le _,(fun p hp=>by cases hp),zg6,Nat.zero_le _⟩
 ·split
  ·exact ⟨Nat.zero_le _,(fun p hp=>by cases hp),zg6,Nat.zero_le _⟩
  ·show TOk n (L+4) (if _ then neg1 (zc4 r.t) else zc4 r.t)
   split
   ·exact ((TOk.mul hs (ZI.lb_of _) (show (ZI.of (-1)).abs.length≤2 from by decide)).plain hn).mono (Nat.le_refl _) (by omega)
   ·exact hs.mono (Nat.le_refl _) (by omega)
theorem neg1_tok {n L:Nat} {t:zb9} (h:TOk n L t) (hn:n≤1000):TOk n (L+3) (neg1 t):=(TOk.mul h (ZI.lb_of _) (show (ZI.of (-1)).abs.length≤2 from by decide)).plain hn
theorem low_tok {n L:Nat} {t:zb9} (h:TOk n L t) (hn:n≤1000):TOk n (2*L+16) (lowR t).t:=by
 have h1:=(neg1_tok h hn).mono (Nat.le_refl n) (show L+3≤L+6 by omega)
 have h0:TOk 0 2 (zgo (ZI.of 1)):=TOk.num (ZI.lb_of _) (by decide)
 have h2:TOk 0 (L+6) (zb7 (zgo (ZI.of 1)) (ZI.of (-1))):=((TOk.mul h0 (ZI.lb_of _) (show (ZI.of (-1)).abs.length≤2 from by decide)).plain (by decide)).mono (Nat.le_refl _) (by omega)
 exact (addT_ok h1 h2 (by omega)).mono (by omega) (by omega)
theorem ziw {n L:Nat} {r:zac} (h:TOk n L r.t) (hn:n≤1000):∀ q ∈ zap r,TOk n (2*L+22) q.t:=fun q hq=>by
 unfold zap at hq
 split at hq
 ·rcases List.mem_cons.1 hq with rfl | hq
  ·exact (low_tok (neg1_tok h hn) hn).mono (Nat.le_refl _) (by omega)
  ·rw [List.mem_singleton.1 hq];exact (low_tok h hn).mono (Nat.le_refl _) (by omega)
 ·rw [List.mem_singleton.1 hq];exact (low_tok h hn).mono (Nat.le_refl _) (by omega)
theorem wid_kid {f g:za1} (h:g ∈ cnt f.kind f.kids):g.wid≤f.wid:=by
 rw [za1.wid_eq f]
 have:∀ (xs:List za1),g ∈ xs→g.wid≤(xs.map za1.wid).sum:=fun xs=>by
  induction xs with
  | nil=>intro h;cases h
  | cons x xs ih =>
   intro h
   rw [List.map_cons,List.sum_cons]
   rcases List.mem_cons.1 h with rfl | h
   ·omega
   ·have:=ih h;omega
 have:=this _ h;omega
theorem flats_nodes {ks:List za1} {k:Int} (h4:k=4∨k=5) {r:zac} (d:Bool) (_hw:(za1.mk k r ks).wid≤1000000):((ks.map fun g=>g.flat d).map za1.nodes).sum≤(za1.mk k r ks).wid:=by
 rw [za1.wid_eq]
 rw [List.map_map,show cnt (za1.mk k r ks).kind (za1.mk k r ks).kids=ks from (show cnt k ks=ks from by unfold cnt;rw [if_pos h4])]
 have:(ks.map (za1.nodes ∘ fun g=>g.flat d)).sum≤(ks.map za1.wid).sum:=sum_le fun g _=>flat_nodes g d
 omega
end
end Go.Proofs.YtcppcnfmgpphcaaGreat.S
