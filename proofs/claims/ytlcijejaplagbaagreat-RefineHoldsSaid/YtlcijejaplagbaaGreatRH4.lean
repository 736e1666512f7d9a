/-
  Part 4 of the proof of the statement RefineHolds. It holds for every input.
-/
import Derived.Test.YtlcijejaplagbaaGreatRH3
import Derived.Deep.LoopGhost
import Derived.Test.YtlcijejaplagbaaGreatRH1
import Derived.Test.YtlcijejaplagbaaGreatRH2
import Derived.Laws.Strings
import Derived.Laws.MakeOwn
set_option maxRecDepth 100000
set_option maxHeartbeats 20000000
open Go.RowKit
open Nat renaming zero_le->bC,gcd->bF,le_refl->bI,le_trans->bU,lt_of_lt_of_le->cK,lt_of_le_of_lt->cP,mod_lt->cY,eq_zero_or_pos->dD,lt_trans->dE,gcd_comm->dG,pos_of_ne_zero->dH
open List renaming length_map->bE,map_cons->bJ,getElem?_eq_some_iff->bL,mem_map->bN,drop_of_length_le->bP,drop_eq_getElem_cons->bS,take_add_one->bW,take_of_length_le->bX,length_take->b5,map_map->b6,map_nil->b7,append_nil->b9,length_eq_zero_iff->cC,take_length->cF,all_eq_true->cG,any_cons->cH,sum_cons->cJ,any_eq_true->cL,mem_cons_self->cM,map_append->cO,mem_cons->cT,length_append->cU,flatten_cons->cW,flatten_nil->cX,mem_of_getElem?->dA,all_map->dB,all_cons->dC,length_cons->dN,any_map->dP,any_nil->dR,sum_nil->dU,all_append->dW,any_append->dX,map_take->dY,length_replicate->dZ,sum_append->d4,mem_of_mem_take->d6,getElem?_eq_getElem->d7,mem_cons_of_mem->d9
open Bool renaming eq_false_or_eq_true->bG,and_false->cN,eq_iff_iff->cV,and_eq_true->dO,or_false->dS
open Int renaming mul_comm->bK,mul_le_mul_of_nonneg_left->bV,neg_mul->b8,mul_add->cD,mul_nonneg->cQ,add_mul->cR,fmod_lt_of_pos->cZ,fmod_nonneg_of_pos->c6,mul_assoc->c7,natAbs_natCast->c8,mul_fdiv_add_fmod->dI,mul_sub->dJ,sub_mul->dL,add_zero->dM,mul_zero->dQ,lt_or_lt_of_ne->dV,eq_ofNat_of_zero_le->d5,mul_fdiv_cancel_left->d8
open Go.Proofs.Tryz renaming prog->eA
open Go.Proofs.YtlcijejaplagbaaGreat.S.Fn renaming cast->eB
open Go.Proofs.YtlcijejaplagbaaGreat.S.OV renaming tmp->eC
open Go.Proofs.YtlcijejaplagbaaGreat.S.RV renaming agg->eE
open Go.Proofs.YtlcijejaplagbaaGreat.S.TOk renaming plain->eF
open Go.Proofs.YtlcijejaplagbaaGreat.S.ZI renaming lb_of->eG,len_of->eH,of->eI,val_of->eJ
open Go.Proofs.YtlcijejaplagbaaGreat.S.za4 renaming d->eK
namespace Go.Proofs.YtlcijejaplagbaaGreat
variable {M:Nat}
def GcdR (w:World) (G L:Nat) (k:Nat) (a b:Value) (wr:World):Prop :=
  ∃ (ao:Option Addr) (c:Nat) (xs:List Nat) (bo:Option Addr) (d:Nat) (ys:List Nat),a = .slice ao xs.length c/\b = .slice bo ys.length d/\Own wr w.heap.size ao c xs/\Own wr w.heap.size bo d ys/\zd1 xs/\zd1 ys/\xs.length<=L/\ys.length<=L/\Ext w wr /\
    Hid (bF (nV xs) (nV ys)=G)/\Hid (k=nV ys)
set_option maxHeartbeats 2000000 in
theorem Gcd_any (ao:Option Addr) (n c:Nat) (xs:List Nat) (bo:Option Addr) (m d:Nat) (ys:List Nat) (L:Nat) (w:World) (hn:n=xs.length) (hm:m=ys.length)
  (ha:Rd w ao c xs) (hb:Rd w bo d ys) (hl1:xs.length<=L) (hl2:ys.length<=L) (hL:L<=900000) :
  Calls eA 199 #[.slice ao n c,.slice bo m d] w (GotN w (bF (nV xs) (nV ys))):=by
 subst hn hm
 go_enter Tryz.func199,Tryz.ntmps199
 go_wp2_with fail
 refine (zdk _ _ _ xs _ rfl ha (by omega)).mono ?_
 rintro e w1 ⟨xo,xc,xz,rfl,p1,p2,p3,p4⟩
 replace p3:=Lib.hid p3
 go_wp2_with fail
 refine (zdk _ _ _ ys _ rfl (hb.ext p4) (by omega)).mono ?_
 rintro e w2 ⟨yo,yc,yz,rfl,q1,q2,q3,q4⟩
 replace q3:=Lib.hid q3
 have lx:xz.length<=L:=zb2 p2 (by rw [p3.out];exact zb5 ha.lb hl1)
 have ly:yz.length<=L:=zb2 q2 (by rw [q3.out];exact zb5 hb.lb hl2)
 go_wp2_with fail
 go_loopg [0,1] (nV yz) (GcdR w (bF (nV xs) (nV ys)) L)
 case atStart=>exact ⟨xo,xc,xz,yo,yc,yz,rfl,rfl,p1.ext q4,q1.mono p4.size,p2,q2,lx,ly,p4.trans q4,by unfold Hid;rw [p3.out,q3.out],rfl⟩
 case round =>
  obtain ⟨ao,c,us,bo,d,bs,rfl,rfl,oa,ob,ca,cb,la,lb,hext,hg,hk⟩:=hrel
  rcases dD bs.length with h0 | hp
  ·have e0:bs=[]:=cC.1 h0
   subst e0
   clear h0
   have hv:nV us=bF (nV xs) (nV ys):=by have:=hg.out;rwa [show nV []=0 from rfl,Nat.gcd_zero_right] at this
   go_wp2_with fail
   go_ret
   exact ⟨ao,c,us,rfl,oa,ca,hv,hext⟩
  ·have hne:nV bs≠0:=fun e=>by rw [zkv cb e] at hp;exact absurd hp (by decide)
   have hp1:(0:Int)<(bs.length:Int):=by omega
   have hp2:decide (0<bs.length)=true:=by simpa using hp
   go_wp2_with fail
   refine (Div_any _ _ _ us _ _ _ bs _ rfl rfl oa.rd ob.rd (by omega)).mono ?_
   intro e w3 hgot
   rw [if_neg hne] at hgot
   obtain ⟨qo,qc,qz,ro,rc,rz,rfl,t1,t2,t3,t4,t5,t6,t7⟩:=hgot
   have hlt:nV rz<nV bs:=by rw [t6];exact cY _ (by omega)
   have lr:rz.length<=L:=zb2 t5 (dE hlt (zb5 cb.1 lb))
   have hg2:bF (nV bs) (nV rz)=bF (nV xs) (nV ys):=by
    rw [t6,<- hg.out,dG (nV us),Nat.gcd_rec (nV bs) (nV us),dG]
   have Hg2:=Lib.hid hg2
   have Hlt:=Lib.hid hlt
   clear t3 t6 hg2 hlt hne
   go_wp2_with fail
   go_roundg (nV rz)
   case rel=>exact ⟨bo,d,bs,ro,rc,rz,rfl,rfl,ob.ext t7,t4.mono hext.size,cb,t5,lb,lr,hext.trans t7,Hg2,rfl⟩
   case measure=>have h1:=hk.out;have h2:=Hlt.out;omega
theorem Div_pos (ao:Option Addr) (n c:Nat) (xs:List Nat) (bo:Option Addr) (m d:Nat) (ys:List Nat) (w:World) (hn:n=xs.length) (hm:m=ys.length)
  (ha:Rd w ao c xs) (hb:Rd w bo d ys) (hl:xs.length<=900000) (hv:nV ys≠0) :
  Calls eA 169 #[.slice ao n c,.slice bo m d] w (GotD w (nV xs / nV ys) (nV xs % nV ys) 0):=by
 have h:=Div_any ao n c xs bo m d ys w hn hm ha hb hl
 rwa [if_neg hv] at h
def tb (v i:Nat):Bool:=decide (v / 2 ^ i % 2=1)
def GotDM (w:World) (p r:Nat) (L M:Nat) (er:Int) (e:Ending) (w':World):Prop :=
  ∃ ao c xs B bo d ys C,e = .returned (.tuple #[.slice ao xs.length c,.slice bo ys.length d,.int .i64 er])/\w.heap.size<=B/\Own w' B ao c xs/\Hid (zd1 xs)/\Hid (nV xs=p)/\xs.length<=L /\
    w.heap.size<=C/\Own w' C bo d ys/\Hid (zd1 ys)/\Hid (nV ys=r)/\ys.length<=M/\Ext w w'
theorem GotD.len {w:World} {p r L:Nat} {er:Int} {e:Ending} {w':World} (h:GotD w p r er e w') (hp:p<pw L) (hr:r<pw M):GotDM w p r L M er e w':=by
 obtain ⟨ao,c,xs,bo,d,ys,he,h1,h2,h3,h4,h5,h6,h7⟩:=h
 exact ⟨ao,c,xs,_,bo,d,ys,_,he,bI _,h1,h2,h3,zeg h2 h3 hp,bI _,h4,h5,h6,zeg h5 h6 hr,h7⟩
section
variable (ao:Option Addr) (n c:Nat) (xs:List Nat) (bo:Option Addr) (m d:Nat) (ys:List Nat) (w:World)
theorem DivM (hn:n=xs.length) (hm:m=ys.length) (ha:Rd w ao c xs) (hb:Rd w bo d ys) (hl1:xs.length<=100000) (_hl2:ys.length<=100000) (h:nV ys≠0) :
  Calls eA 169 #[.slice ao n c,.slice bo m d] w (GotDM w (nV xs / nV ys) (nV xs % nV ys) xs.length ys.length 0) :=
 (Div_pos ao n c xs bo m d ys w hn hm ha hb (by omega) h).mono fun _ _ k=>k.len (cP (Nat.div_le_self _ _) (zbf ha.lb)) (dE (cY _ (dH h)) (zbf hb.lb))
theorem gcd_lt_pw {x y a b:Nat} (hx:x<pw a) (hy:y<pw b):bF x y<pw (a+b):=by
 rcases dD x with h0 | h0
 ·rw [h0,Nat.gcd_zero_left];exact cK hy (zdt (by omega))
 ·exact cP (Nat.gcd_le_left _ h0) (cK hx (zdt (by omega)))
theorem GcdM (hn:n=xs.length) (hm:m=ys.length) (ha:Rd w ao c xs) (hb:Rd w bo d ys) (hl1:xs.length<=50000) (hl2:ys.length<=50000) :
  Calls eA 199 #[.slice ao n c,.slice bo m d] w (GotM w (bF (nV xs) (nV ys)) (xs.length+ys.length)) :=
 (Gcd_any ao n c xs bo m d ys (xs.length+ys.length) w hn hm ha hb (by omega) (by omega) (by omega)).mono fun _ _ k=>k.len (gcd_lt_pw (zbf ha.lb) (zbf hb.lb))
end
namespace S
variable {b a Y x0 x1 v k:Int} {y:ZI} {n j n' es bs nt Lt:Nat} {t:zaf} {ps:List za4} {p:Nat->Bool} {α β:Type} {ty xt el:TypeId} {rs':List (Nat × V)}
theorem postDM {w w':World} {H:Im} {B:Bl} {p r L:Nat} {er:Int} {en:Ending} (hs:∀ b o,H b=some o->w.heap[b]?=some o) (h:GotDM w p r L M er en w'):∃ v H' B', en = .returned v/\Post [] w H B (.tup [.c (.d (nsl (lbs p))),.c (.d (nsl (lbs r))),.c (.d (.raw (.int .i64 er)))]) [] v w' H' B':=by
 obtain ⟨ao,c,xs,Bk,bo,d,ys,Ck,rfl,hb,ho,hc,hv,_,hb2,ho2,hc2,hv2,_,hx⟩:=h
 exact ⟨_,_,_,rfl,postE hx hs ⟨_,rfl,own_vn (Bb:=B) ho hb hc.out hv.out,own_vn (Bb:=B) ho2 hb2 hc2.out hv2.out,DR.raw _ rfl,trivial⟩⟩
section
variable (xs ys:List Nat)
theorem SnGcd (hx:Lb xs) (hy:Lb ys) (lx:xs.length<=50000) (ly:ys.length<=50000):Fn eA 199 [] [vn xs,vn ys] (vn (lbs (bF (nV xs) (nV ys)))) []:=by
 intro w H B vals pre
 obtain ⟨a,b,rfl,h1,h2⟩:=args2 pre.arg
 obtain ⟨ao,c,rfl,r1⟩:=zfk h1 hx
 obtain ⟨bo,d,rfl,r2⟩:=zfk h2 hy
 exact (GcdM ao _ c xs bo _ d ys w rfl rfl (r1 w pre.sat) (r2 w pre.sat) (by omega) (by omega)).mono fun _ _ h=>postM pre.sat h
theorem SnDiv (hx:Lb xs) (hy:Lb ys) (lx:xs.length<=50000) (ly:ys.length<=50000) (h0:nV ys≠0):Fn eA 169 [] [vn xs,vn ys] (.tup [.c (.d (nsl (lbs (nV xs / nV ys)))),.c (.d (nsl (lbs (nV xs % nV ys)))),.c (cI 0)]) []:=by
 intro w H B vals pre
 obtain ⟨a,b,rfl,h1,h2⟩:=args2 pre.arg
 obtain ⟨ao,c,rfl,r1⟩:=zfk h1 hx
 obtain ⟨bo,d,rfl,r2⟩:=zfk h2 hy
 exact (DivM ao _ c xs bo _ d ys w rfl rfl (r1 w pre.sat) (r2 w pre.sat) (by omega) (by omega) h0).mono fun _ _ h=>postDM pre.sat h
end
theorem ZI.val_abs (x:ZI):nV x.abs=x.val.natAbs:=(iv_abs x.neg x.abs).symm
theorem zik (a:Int) (h:b<0):b<a.fmod b/\a.fmod b<=0:=by
 have h1:=cZ (-a) (b:=-b) (by omega)
 have h2:=c6 (-a) (b:=-b) (by omega)
 rw [Int.neg_fmod_neg] at h1 h2
 omega
theorem fdiv_unique {q r:Int} (h:a=q*b+r) (hp:0<b->0<=r/\r<b) (hn:b<0->b<r/\r<=0) (hb:b≠0):q=a.fdiv b/\r=a.fmod b:=by
 have h1:=dI a b
 rcases dV hb with hlt | hgt
 ·obtain ⟨h2,h3⟩:=hn hlt
  obtain ⟨h4,h5⟩:=zik a hlt
  have hq:q=a.fdiv b:=by
   have e:b*(a.fdiv b - q)=r - a.fmod b:=by
    have:b*(a.fdiv b - q)=b*a.fdiv b - q*b:=by rw [dJ,bK b q]
    omega
   rcases Int.lt_trichotomy (a.fdiv b - q) 0 with g | g | g
   ·have:b*(a.fdiv b - q)≥-b:=by
     have h6:(-b)*1<=(-b)*(-(a.fdiv b - q)):=bV (by omega) (by omega)
     rw [Int.neg_mul_neg] at h6;omega
    omega
   ·omega
   ·have:b*(a.fdiv b - q)<=b:=by
     have h6:(-b)*1<=(-b)*(a.fdiv b - q):=bV (by omega) (by omega)
     rw [b8 b (a.fdiv b - q)] at h6;omega
    omega
  refine ⟨hq,?_⟩
  rw [hq,bK] at h
  omega
 ·obtain ⟨h2,h3⟩:=hp hgt
  have h4:a.fmod b<b:=cZ a hgt
  have h5:0<=a.fmod b:=c6 a hgt
  have hq:q=a.fdiv b:=by
   have e:b*(a.fdiv b - q)=r - a.fmod b:=by
    have:b*(a.fdiv b - q)=b*a.fdiv b - q*b:=by rw [dJ,bK b q]
    omega
   rcases Int.lt_trichotomy (a.fdiv b - q) 0 with g | g | g
   ·have h6:b*1<=b*(-(a.fdiv b - q)):=bV (by omega) (by omega)
    rw [Int.mul_neg] at h6;omega
   ·omega
   ·have h6:b*1<=b*(a.fdiv b - q):=bV (by omega) (by omega)
    omega
  refine ⟨hq,?_⟩
  rw [hq,bK] at h
  omega
theorem zkm (a:Int) (_hb:b≠0):(0<b->0<=a.fmod b/\a.fmod b<b)/\(b<0->b<a.fmod b/\a.fmod b<=0) :=
 ⟨fun h=>⟨c6 a h,cZ a h⟩,fun h=>zik a h⟩
theorem fdiv_fmod (a b:Int):a=a.fdiv b*b+a.fmod b:=by have:=dI a b;rw [bK] at this;exact this.symm
theorem fdiv_same {X:Int} (hY:Y≠0) {s t:Bool} (hs:s=decide (X<0)) (ht:t=decide (Y<0)) {zq zr:List Nat} (hq:nV zq=X.natAbs / Y.natAbs) (hr:nV zr=X.natAbs % Y.natAbs) (h:(s != t)=true->nV zr=0) :
  iv (s != t) zq=X.fdiv Y/\iv s zr=X.fmod Y:=by
 have hm:=cY X.natAbs (dH (by omega:Y.natAbs≠0))
 have hd:=Nat.div_add_mod X.natAbs Y.natAbs
 generalize X.natAbs / Y.natAbs=q at *
 generalize X.natAbs % Y.natAbs=r at *
 subst hs ht
 refine fdiv_unique ?_ ?_ ?_ hY
 ·unfold iv
  rw [hq,hr]
  have hd2:((Y.natAbs:Int)*(q:Int)+(r:Int))=(X.natAbs:Int):=by rw [<- hd];simp
  by_cases h1:X<0 <;> by_cases h2:Y<0
  ·have e1:(X.natAbs:Int)=-X:=by omega
   have e2:(Y.natAbs:Int)=-Y:=by omega
   rw [e1,e2,b8] at hd2
   simp [h1,h2]
   rw [bK];omega
  ·have e1:(X.natAbs:Int)=-X:=by omega
   have e2:(Y.natAbs:Int)=Y:=by omega
   rw [e1,e2] at hd2
   simp [h1,h2]
   rw [b8,bK];omega
  ·have e1:(X.natAbs:Int)=X:=by omega
   have e2:(Y.natAbs:Int)=-Y:=by omega
   rw [e1,e2,b8] at hd2
   simp [h1,h2]
   rw [b8,bK];omega
  ·have e1:(X.natAbs:Int)=X:=by omega
   have e2:(Y.natAbs:Int)=Y:=by omega
   rw [e1,e2] at hd2
   simp [h1,h2]
   rw [bK];omega
 ·intro hp
  unfold iv
  have h2:¬ Y<0:=by omega
  by_cases h1:X<0
  ·have:=h (by simp [h1,h2])
   simp [h1,this];omega
  ·simp [h1,hr];omega
 ·intro hp
  unfold iv
  by_cases h1:X<0
  ·simp [h1,hr];omega
  ·have:=h (by simp [h1,hp])
   simp [h1,this];omega
theorem fdiv_other {X:Int} (hY:Y≠0) {s t:Bool} (hs:s=decide (X<0)) (ht:t=decide (Y<0)) {zq zr:List Nat} (hq:nV zq=X.natAbs / Y.natAbs) (hr:nV zr=X.natAbs % Y.natAbs) (h:(s != t)=true) (h0:nV zr≠0) :
  iv (s != t) zq - 1=X.fdiv Y/\iv s zr+Y=X.fmod Y:=by
 have hm:=cY X.natAbs (dH (by omega:Y.natAbs≠0))
 have hd:=Nat.div_add_mod X.natAbs Y.natAbs
 generalize X.natAbs / Y.natAbs=q at *
 generalize X.natAbs % Y.natAbs=r at *
 subst hs ht
 rw [hr] at h0
 have hd2:((Y.natAbs:Int)*(q:Int)+(r:Int))=(X.natAbs:Int):=by rw [<- hd];simp
 rw [h]
 refine fdiv_unique ?_ ?_ ?_ hY
 ·unfold iv
  rw [hq,hr]
  by_cases h1:X<0 <;> by_cases h2:Y<0
  ·simp [h1,h2] at h
  ·have e1:(X.natAbs:Int)=-X:=by omega
   have e2:(Y.natAbs:Int)=Y:=by omega
   rw [e1,e2] at hd2
   simp [h1]
   rw [dL,b8,bK];omega
  ·have e1:(X.natAbs:Int)=X:=by omega
   have e2:(Y.natAbs:Int)=-Y:=by omega
   rw [e1,e2,b8] at hd2
   simp [h1]
   rw [dL,b8,bK];omega
  ·simp [h1,h2] at h
 ·intro hp
  unfold iv
  have h2:¬ Y<0:=by omega
  by_cases h1:X<0
  ·simp [h1,hr];omega
  ·simp [h1,h2] at h
 ·intro hp
  unfold iv
  by_cases h1:X<0
  ·simp [h1,hp] at h
  ·simp [h1,hr];omega
theorem val_zero {zs:List Nat} (h:zd1 zs):nV zs=0 ↔ zs.length=0 :=
 ⟨fun e=>by rw [zkv h e];rfl,fun e=>by rw [cC.1 e];rfl⟩
theorem zg5 (X:Int) (hY:Y≠0):(X.fdiv Y).natAbs<=X.natAbs:=by
 have h:=fdiv_fmod X Y
 obtain ⟨h1,h2⟩:=zkm X hY
 rcases dV hY with g | g
 ·obtain ⟨h3,h4⟩:=h2 g
  by_cases hq:0<=X.fdiv Y
  ·have:X.fdiv Y*Y<=X.fdiv Y*(-1):=bV (by omega) hq
   omega
  ·have:(-X.fdiv Y - 1)*1<=(-X.fdiv Y - 1)*(-Y):=bV (by omega) (by omega)
   have e:(-X.fdiv Y - 1)*(-Y)=X.fdiv Y*Y+Y:=by rw [dL,Int.neg_mul_neg];omega
   omega
 ·obtain ⟨h3,h4⟩:=h1 g
  by_cases hq:0<=X.fdiv Y
  ·have:X.fdiv Y*1<=X.fdiv Y*Y:=bV (by omega) hq
   omega
  ·have:(-X.fdiv Y - 1)*1<=(-X.fdiv Y - 1)*Y:=bV (by omega) (by omega)
   have e:(-X.fdiv Y - 1)*Y=-(X.fdiv Y*Y) - Y:=by rw [dL,b8];omega
   omega
theorem zil (X:Int) (hY:Y≠0):(X.fmod Y).natAbs<Y.natAbs:=by
 obtain ⟨h1,h2⟩:=zkm X hY
 rcases dV hY with g | g
 ·have:=h2 g;omega
 ·have:=h1 g;omega
theorem zlz {x:ZI} (hx:Lb x.abs) (h:y.val≠0):(eI (x.val.fdiv y.val)).abs.length<=x.abs.length:=eH (cP (zg5 _ h) (ZI.abs_lt hx))
theorem len_fmod {x:ZI} (hy:Lb y.abs) (h:y.val≠0):(eI (x.val.fmod y.val)).abs.length<=y.abs.length:=eH (dE (zil _ h) (ZI.abs_lt hy))
def bez (r0 x0 y0 r1 x1 y1:Int):Int × Int × Int :=
  if _h:r1<=0 then (r0,x0,y0) else bez r1 x1 y1 (r0.fmod r1) (x0 - r0.fdiv r1*x1) (y0 - r0.fdiv r1*y1)
  termination_by r1.natAbs
  decreasing_by exact zil _ (by omega)
theorem bez_step {r0 y0 r1 y1:Int} (h:¬ r1<=0):bez r0 x0 y0 r1 x1 y1=bez r1 x1 y1 (r0.fmod r1) (x0 - r0.fdiv r1*x1) (y0 - r0.fdiv r1*y1):=by rw [bez,dif_neg h]
structure BzI (A B r0 x0 y0 r1 x1 y1:Int):Prop where
  a:0<=A
  b:0<=B
  p0:0<=r0
  p1:0<=r1
  g:bF r0.natAbs r1.natAbs=bF A.natAbs B.natAbs
  e0:r0=A*x0+B*y0
  e1:r1=A*x1+B*y1
  sx:(0<=x0/\x1<=0)\/(x0<=0/\0<=x1)
  sy:(0<=y0/\y1<=0)\/(y0<=0/\0<=y1)
  bx:r0*(x1.natAbs:Int)+r1*(x0.natAbs:Int)=B
  byy:r0*(y1.natAbs:Int)+r1*(y0.natAbs:Int)=A
  lx:(x1.natAbs:Int)<=B+1
  ly:(y1.natAbs:Int)<=A+1
  z:bez r0 x0 y0 r1 x1 y1=bez A 1 0 B 0 1
theorem alt_abs {q:Int} (hq:0<=q) (h:(0<=x0/\x1<=0)\/(x0<=0/\0<=x1)):((x0 - q*x1).natAbs:Int)=x0.natAbs+q*x1.natAbs/\((0<=x1/\x0 - q*x1<=0)\/(x1<=0/\0<=x0 - q*x1)):=by
 rcases h with ⟨h1,h2⟩ | ⟨h1,h2⟩
 ·have h3:0<=q*(-x1):=cQ hq (by omega)
  have e1:(x1.natAbs:Int)=-x1:=by omega
  rw [e1]
  rw [Int.mul_neg] at h3 ⊢
  omega
 ·have h3:0<=q*x1:=cQ hq h2
  have e1:(x1.natAbs:Int)=x1:=by omega
  rw [e1]
  omega
theorem zl9 {r B:Int} (hr:0<r) (ha:0<=a) (hb:0<=b) (h:r*a+b=B):a<=B:=by
 have:1*a<=r*a:=Int.mul_le_mul_of_nonneg_right (by omega) ha
 omega
theorem BzI.step {A B r0 y0 r1 y1:Int} (h:BzI A B r0 x0 y0 r1 x1 y1) (hr:r1≠0) :
  BzI A B r1 x1 y1 (r0.fmod r1) (x0 - r0.fdiv r1*x1) (y0 - r0.fdiv r1*y1):=by
 obtain ⟨ha,hb,p0,p1,g,e0,e1,sx,sy,bx,by_,lx,ly,z⟩:=h
 have hpos:0<r1:=by omega
 have hq:0<=r0.fdiv r1:=Int.fdiv_nonneg p0 p1
 obtain ⟨m1,m2⟩:=(zkm r0 hr).1 hpos
 have hd:=fdiv_fmod r0 r1
 obtain ⟨k1,k2⟩:=alt_abs hq sx
 obtain ⟨j1,j2⟩:=alt_abs hq sy
 have ex:r1*((x0 - r0.fdiv r1*x1).natAbs:Int)+r0.fmod r1*(x1.natAbs:Int)=B:=by
  rw [k1,cD,<- bx]
  have:r0*(x1.natAbs:Int)=r0.fdiv r1*r1*(x1.natAbs:Int)+r0.fmod r1*(x1.natAbs:Int):=by rw [<- cR,<- hd]
  have e2:r1*(r0.fdiv r1*(x1.natAbs:Int))=r0.fdiv r1*r1*(x1.natAbs:Int):=by rw [<- c7,bK r1]
  omega
 have ey:r1*((y0 - r0.fdiv r1*y1).natAbs:Int)+r0.fmod r1*(y1.natAbs:Int)=A:=by
  rw [j1,cD,<- by_]
  have:r0*(y1.natAbs:Int)=r0.fdiv r1*r1*(y1.natAbs:Int)+r0.fmod r1*(y1.natAbs:Int):=by rw [<- cR,<- hd]
  have e2:r1*(r0.fdiv r1*(y1.natAbs:Int))=r0.fdiv r1*r1*(y1.natAbs:Int):=by rw [<- c7,bK r1]
  omega
 refine ⟨ha,hb,p1,m1,?_,e1,?_,k2,j2,ex,ey,?_,?_,?_⟩
 ·have:(r0.fmod r1).natAbs=r0.natAbs % r1.natAbs:=by
   obtain ⟨u,hu⟩:=d5 p0
   obtain ⟨v,hv⟩:=d5 p1
   rw [hu,hv,<- Int.ofNat_fmod,c8,c8,c8]
  rw [this,dG,<- Nat.gcd_rec,dG,g]
 ·have:r0.fmod r1=r0 - r0.fdiv r1*r1:=by omega
  rw [this]
  have h1:A*(x0 - r0.fdiv r1*x1)=A*x0 - r0.fdiv r1*(A*x1):=by rw [dJ,Int.mul_left_comm]
  have h2:B*(y0 - r0.fdiv r1*y1)=B*y0 - r0.fdiv r1*(B*y1):=by rw [dJ,Int.mul_left_comm]
  have h3:r0.fdiv r1*r1=r0.fdiv r1*(A*x1)+r0.fdiv r1*(B*y1):=by rw [<- cD,<- e1]
  omega
 ·have:=zl9 hpos (by omega) (cQ m1 (by omega)) ex;omega
 ·have:=zl9 hpos (by omega) (cQ m1 (by omega)) ey;omega
 ·rw [<- z];exact (bez_step (by omega)).symm
theorem SSub (x y:ZI) (hx:Lb x.abs) (hy:Lb y.abs) (lx:x.abs.length<=49000) (ly:y.abs.length<=49000):Fn eA 170 [] [vz x,vz y] (vz (eI (x.val - y.val))) []:=by
 refine fB Tryz.func170 rfl 9 fun w H B a h=>Jq 0 [] [(2,vp 0 0),(3,vp 1 0),(4,vp 2 0)] [(0,.box (zi x)),(1,.box (zi y)),(2,.box [cB false,.d (nsl [])])] h fun a w h=>?_
 obtain ⟨r1,er1,vr1,or1,lr1⟩:=mkZ (v:=-y.val) (m:=y.abs.length) (len_neg hy);obtain ⟨r2,er2,vr2,or2,lr2⟩:=mkZ (v:=x.val+r1.val) (m:=x.abs.length+r1.abs.length+1) (zep hx or1);refine Jq 3 [(2,.call (eB (SNeg y hy (by omega)) (yJ vz er1.symm))),(3,.call (eB (SAdd x r1 hx or1 (by omega) (by omega)) (yJ vz er2.symm)))] [(4,vp 2 0)] [(2,.box (zi r2))] h fun a w h=>qV (rA 2 (zi r2) h zet rfl (yJ (fun z=>vz z) (er2.trans (yJ eI ?_))));rw [vr1];omega
theorem SRSub (x y:ZI) (hx:Lb x.abs) (hy:Lb y.abs) (lx:x.abs.length<=49000) (ly:y.abs.length<=49000):Fn eA 98 [] [vz x,vz y] (vz (eI (x.val - y.val))) []:=by
 refine fB Tryz.func98 rfl 9 fun w H B a h=>Jq 0 [] [(2,vp 0 0),(3,vp 1 0),(4,vp 2 0)] [(0,.box (zi x)),(1,.box (zi y)),(2,.box [cB false,.d (nsl [])])] h fun a w h=>?_
 obtain ⟨r1,er1,vr1,or1,lr1⟩:=mkZ (v:=-y.val) (m:=y.abs.length) (len_neg hy);obtain ⟨r2,er2,vr2,or2,lr2⟩:=mkZ (v:=x.val+r1.val) (m:=x.abs.length+r1.abs.length+1) (zep hx or1);refine Jq 3 [(2,.call (eB (SRNeg y hy (by omega)) (yJ vz er1.symm))),(3,.call (eB (SRAdd x r1 hx or1 (by omega) (by omega)) (yJ vz er2.symm)))] [(4,vp 2 0)] [(2,.box (zi r2))] h fun a w h=>qV (rA 2 (zi r2) h zet rfl (yJ (fun z=>vz z) (er2.trans (yJ eI ?_))));rw [vr1];omega
theorem zmb (x y:ZI):(sgn x.val<sgn y.val->(-1:Int)=zbo x.val y.val)/\(¬ sgn x.val<sgn y.val->sgn x.val>sgn y.val->(1:Int)=zbo x.val y.val)/\(¬ sgn x.val<sgn y.val->¬ sgn x.val>sgn y.val->sgn x.val<0->zmc (nV y.abs) (nV x.abs)=zbo x.val y.val)/\(¬ sgn x.val<sgn y.val->¬ sgn x.val>sgn y.val->¬ sgn x.val<0->zmc (nV x.abs) (nV y.abs)=zbo x.val y.val):=by
 have e1:∀ z:Int,(0<z->sgn z=1)/\(z<0->sgn z=-1)/\(z=0->sgn z=0):=fun z=>⟨sgn_pos,zka,zev⟩
 rcases zje x with ⟨h1,h2⟩ | ⟨h1,h2,h3⟩ | ⟨h1,h2⟩ <;> rcases zje y with ⟨k1,k2⟩ | ⟨k1,k2,k3⟩ | ⟨k1,k2⟩ <;>
  have a1:=e1 x.val <;> have a2:=e1 y.val <;> rw [h1,k1] <;> rw [h1] at a1 <;> rw [k1] at a2 <;> unfold zbo zmc <;> refine ⟨fun _=>?_,fun _ _=>?_,fun _ _ _=>?_,fun _ _ _=>?_⟩ <;> first | omega | (split <;> first | omega | (split <;> first | omega | (split <;> first | omega | (split <;> omega))))
theorem SCmp (x y:ZI) (hx:Lb x.abs) (hy:Lb y.abs) (lx:x.abs.length<=49000) (ly:y.abs.length<=49000):Fn eA 202 [] [vz x,vz y] (vI (zbo x.val y.val)) []:=by
 refine fB Tryz.func202 rfl 32 fun w H B a h=>Jq 0 [] [(2,vp 0 0),(3,vp 1 0),(4,vI 0)] [(0,.box (zi x)),(1,.box (zi y))] h fun a w h=>Je 2 [(1,.call (zkz x hx (by omega))),(3,.call (zkz y hy (by omega)))] [] [(5,vI (sgn x.val)),(6,vI (sgn y.val))] h fun a w h=>qW (qZ (Je 2 [] [] [(11,vb (decide (sgn x.val<sgn y.val)))] h fun a w h=>zad (sgn x.val<sgn y.val) h (fun hc1 hc1'=>?_) (fun hc2 hc2'=>?_)))
 ·refine Je 2 [] [5,6,11] [(4,vI (-1))] h fun a w h=>qV (za8 (za5 (rT (.c (cI (-1))) h rfl ?_)));exact yJ (vi .i64) ((zmb x y).1 hc1')
 refine Je 2 [] [6,11] [(15,vb (decide (sgn x.val>sgn y.val)))] h fun a w h=>zad (sgn x.val>sgn y.val) h (fun hc3 hc3'=>?_) (fun hc4 hc4'=>?_)
 ·refine Je 2 [] [5,15] [(4,vI 1)] h fun a w h=>qV (za8 (za5 (rT (.c (cI 1)) h rfl ?_)));exact yJ (vi .i64) ((zmb x y).2.1 hc2' hc3')
 refine Je 2 [] [5,15] [(19,vb (decide (sgn x.val<0)))] h fun a w h=>zad (sgn x.val<0) h (fun hc5 hc5'=>?_) (fun hc6 hc6'=>?_)
 ·refine Je 2 [(4,.call (SnCmp y.abs x.abs hy hx))] [19] [(4,vI (zmc (nV y.abs) (nV x.abs)))] h fun a w h=>qV (za8 (za5 (rT (.c (cI (zmc (nV y.abs) (nV x.abs)))) h rfl ?_)));exact yJ (vi .i64) ((zmb x y).2.2.1 hc2' hc4' hc5')
 refine qU (za6 (za1 (Jq 2 [(4,.call (SnCmp x.abs y.abs hx hy))] [(4,vI (zmc (nV x.abs) (nV y.abs)))] [] h fun a w h=>qV (rT (.c (cI (zmc (nV x.abs) (nV y.abs)))) h rfl ?_))));exact yJ (vi .i64) ((zmb x y).2.2.2 hc2' hc4' hc6')
theorem SRCmp (x y:ZI) (hx:Lb x.abs) (hy:Lb y.abs) (lx:x.abs.length<=49000) (ly:y.abs.length<=49000):Fn eA 73 [] [vz x,vz y] (vI (zbo x.val y.val)) []:=by
 refine fB Tryz.func73 rfl 9 fun w H B a h=>Jq 0 [] [(2,vp 0 0),(3,vp 1 0),(4,vI 0)] [(0,.box (zi x)),(1,.box (zi y))] h fun a w h=>?_
 obtain ⟨r1,er1,vr1,or1,lr1⟩:=mkZ (v:=x.val - y.val) (m:=x.abs.length+y.abs.length+1) (len_sub hx hy);refine Jq 2 [(2,.call (eB (SRSub x y hx hy (by omega) (by omega)) (yJ vz er1.symm))),(3,.call (ze5 r1 or1 (by omega)))] [(4,vI (sgn r1.val))] [] h fun a w h=>qV (rT (.c (cI (sgn r1.val))) h rfl ?_);rw [vr1,cmpZ_sgn];try rfl
theorem gcd_iv (m n:Nat) {zs:List Nat} (h:nV zs=bF m n):iv false zs=(bF m n:Int):=by rw [zdx,h]
theorem len_gcd {x:ZI} (hx:Lb x.abs) (hy:Lb y.abs):(eI (bF x.val.natAbs y.val.natAbs:Int)).abs.length<=x.abs.length+y.abs.length:=eH (by rw [c8];exact gcd_lt_pw (ZI.abs_lt hx) (ZI.abs_lt hy))
theorem SGcd (x y:ZI) (hx:Lb x.abs) (hy:Lb y.abs) (lx:x.abs.length<=40000) (ly:y.abs.length<=40000):Fn eA 172 [] [vz x,vz y] (vz (eI (bF x.val.natAbs y.val.natAbs:Int))) []:=by
 refine fB Tryz.func172 rfl 11 fun w H B a h=>Jq 0 [] [(2,vp 0 0),(3,vp 1 0),(4,vp 2 0)] [(0,.box (zi x)),(1,.box (zi y)),(2,.box [cB false,.d (nsl [])])] h fun a w h=>?_
 obtain ⟨n1,en1,vn1,on1,ln1⟩:=mkN (v:=bF (nV x.abs) (nV y.abs)) (m:=x.abs.length+y.abs.length) (gcd_lt_pw (zbf hx) (zbf hy));obtain ⟨r2,er2,vr2,or2,lr2⟩:=mkZ (v:=iv false n1) (m:=n1.length) (zdc on1);refine Jq 3 [(4,.call (eB (SnGcd x.abs y.abs hx hy (by omega) (by omega)) (yJ vn en1.symm))),(5,.call (eB (zlk false n1 on1 (by omega)) (yJ vz er2.symm)))] [(4,vp 2 0)] [(2,.box (zi r2))] h fun a w h=>qV (rA 2 (zi r2) h zet rfl ?_);rw [er2];unfold ZI.val;rw [iv_abs,iv_abs,<- gcd_iv _ _ vn1];try rfl
theorem SDiv (x y:ZI) (hx:Lb x.abs) (hy:Lb y.abs) (lx:x.abs.length<=40000) (ly:y.abs.length<=40000) (h0:y.val≠0):Fn eA 124 [] [vz x,vz y] (.tup [.agg (zi (eI (x.val.fdiv y.val))),.agg (zi (eI (x.val.fmod y.val))),.c (.d (.raw (.int .i64 0)))]) []:=by
 refine fB Tryz.func124 rfl 56 fun w H B a h=>Jq 0 [] [(2,vp 0 0),(3,vp 1 0),(4,vp 2 0),(5,vp 3 0),(6,vI 0)] [(0,.box (zi x)),(1,.box (zi y)),(2,.box [.d (.raw (.bool false)),.d (nsl [])]),(3,.box [.d (.raw (.bool false)),.d (nsl [])])] h fun a w h=>?_
 obtain ⟨r1,er1,vr1,or1,lr1⟩:=mkZ (v:=x.val) (m:=x.abs.length) (zdd hx);obtain ⟨r2,er2,vr2,or2,lr2⟩:=mkZ (v:=y.val) (m:=y.abs.length) (zdd hy);refine Jg 4 [(1,.call (eB (SClean x hx (by omega)) (yJ vz er1.symm))),(3,.call (eB (SClean y hy (by omega)) (yJ vz er2.symm)))] [] [] [] [(0,.box (zi r1)),(1,.box (zi r2))] h fun a w h=>?_;obtain ⟨n3q,en3q,vn3q,on3q,ln3q⟩:=mkN (v:=nV r1.abs / nV r2.abs) (m:=r1.abs.length) (cP (Nat.div_le_self _ _) (zbf or1));obtain ⟨n3r,en3r,vn3r,on3r,ln3r⟩:=mkN (v:=nV r1.abs % nV r2.abs) (m:=r2.abs.length) (dE (cY _ (dH (by rw [ZI.val_abs,vr2];omega))) (zbf or2));refine Je 4 [(4,.call (eB (SnDiv r1.abs r2.abs or1 or2 (by omega) (by omega) (by rw [ZI.val_abs,vr2];omega)) (show _=(.tup [.c (.d (nsl n3q)),.c (.d (nsl n3r)),.c (.d (.raw (.int .i64 0)))]:V) by rw [en3q,en3r];try rfl)))] [] [(7,vn n3q),(8,vn n3r)] h fun a w h=>qW (Je 4 [(1,.cmp (op:=.neq) (m:=0) (n:=0) (b:=false) .i64 rfl)] [] [(23,vb false)] h fun a w h=>zau h (qU (za1 ?_)));obtain ⟨r4,er4,vr4,or4,lr4⟩:=mkZ (v:=iv (r1.neg != r2.neg) n3q) (m:=n3q.length) (zdc on3q);obtain ⟨r5,er5,vr5,or5,lr5⟩:=mkZ (v:=iv r1.neg n3r) (m:=n3r.length) (zdc on3r);refine Jg 4 [(6,.call (eB (zlk (r1.neg != r2.neg) n3q on3q (by omega)) (yJ vz er4.symm))),(10,.call (eB (zlk r1.neg n3r on3r (by omega)) (yJ vz er5.symm)))] [7,23] [] [] [(2,.box (zi r4)),(3,.box (zi r5))] h fun a w h=>qW ?_
 rcases bG (r1.neg != r2.neg) with hc1 | hc4
 ·refine Jg 4 [(4,.cmpb .neq (m:=r1.neg) (n:=r2.neg) (b:=true) (.inr ⟨rfl,hc1.symm⟩)),(7,.len (zf6 n3r))] [2,8] [(47,vb (decide ((n3r.length:Int)>0)))] [0] [] h fun a w h=>zad ((n3r.length:Int)>0) h (fun hc2 hc2'=>?_) (fun hc3 hc3'=>?_)
  ·obtain ⟨r6,er6,vr6,or6,lr6⟩:=mkZ (v:=1) (m:=2) (eH (by have:=pw2;omega));obtain ⟨r7,er7,vr7,or7,lr7⟩:=mkZ (v:=r4.val - r6.val) (m:=r4.abs.length+r6.abs.length+1) (len_sub or4 or6);obtain ⟨r8,er8,vr8,or8,lr8⟩:=mkZ (v:=r5.val+r2.val) (m:=r5.abs.length+r2.abs.length+1) (zep or5 or2);refine Jh 4 [(1,.call (eB (SOf 1 ⟨by omega,by omega⟩) (yJ vz er6.symm))),(2,.call (eB (SSub r4 r6 or4 or6 (by omega) (by omega)) (yJ vz er7.symm))),(5,.call (eB (SAdd r5 r2 or5 or2 (by omega) (by omega)) (yJ vz er8.symm)))] [3,47] [] [1] [(2,.box (zi r7)),(3,.box (zi r8))] h fun a w h=>za1 (Je 4 [] [] [] h fun a w h=>qV (zfj [.agg (zi r7),.agg (zi r8),.c (.d (.raw (.int .i64 0)))] h Exit.ret (.inl rfl)  rfl ⟨eE _ 2 0 _ _ _ _ zet rfl rfl rfl rfl,eE _ 3 0 _ _ _ _ zet rfl rfl rfl rfl,vT9,trivial⟩ ?_));have f1:r1.neg=decide (x.val<0):=by rw [er1];rfl
   have f2:r2.neg=decide (y.val<0):=by rw [er2];rfl
   have f3:nV n3q=x.val.natAbs / y.val.natAbs:=by rw [vn3q,ZI.val_abs,ZI.val_abs,vr1,vr2]
   have f4:nV n3r=x.val.natAbs % y.val.natAbs:=by rw [vn3r,ZI.val_abs,ZI.val_abs,vr1,vr2]
   have f5:nV n3r=0 ↔ n3r.length=0:=by rw [en3r];exact val_zero (zde _)
   obtain ⟨e1,e2⟩:=fdiv_other h0 f1 f2 f3 f4 hc1 (fun h=>by have:=f5.1 h;omega);rw [er7,er8,vr4,vr5,vr6,vr2,e1,e2];try rfl
  refine qU (za1 (Jg 4 [] [3,47] [] [1] [] h fun a w h=>qV (zfj [.agg (zi r4),.agg (zi r5),.c (.d (.raw (.int .i64 0)))] h Exit.ret (.inl rfl)  rfl ⟨eE _ 2 0 _ _ _ _ zet rfl rfl rfl rfl,eE _ 3 0 _ _ _ _ zet rfl rfl rfl rfl,vT9,trivial⟩ ?_)));have f1:r1.neg=decide (x.val<0):=by rw [er1];rfl
  have f2:r2.neg=decide (y.val<0):=by rw [er2];rfl
  have f3:nV n3q=x.val.natAbs / y.val.natAbs:=by rw [vn3q,ZI.val_abs,ZI.val_abs,vr1,vr2]
  have f4:nV n3r=x.val.natAbs % y.val.natAbs:=by rw [vn3r,ZI.val_abs,ZI.val_abs,vr1,vr2]
  have f5:nV n3r=0 ↔ n3r.length=0:=by rw [en3r];exact val_zero (zde _)
  obtain ⟨e1,e2⟩:=fdiv_same h0 f1 f2 f3 f4 (fun _=>f5.2 (by omega));rw [er4,er5,e1,e2];try rfl
 refine Jg 4 [(4,.cmpb .neq (m:=r1.neg) (n:=r2.neg) (b:=false) (.inr ⟨rfl,hc4.symm⟩))] [2,8] [(47,vb false)] [0] [] h fun a w h=>zau h (qU (za1 (Jg 4 [] [3,47] [] [1] [] h fun a w h=>qV (zfj [.agg (zi r4),.agg (zi r5),.c (.d (.raw (.int .i64 0)))] h Exit.ret (.inl rfl)  rfl ⟨eE _ 2 0 _ _ _ _ zet rfl rfl rfl rfl,eE _ 3 0 _ _ _ _ zet rfl rfl rfl rfl,vT9,trivial⟩ ?_))));have f1:r1.neg=decide (x.val<0):=by rw [er1];rfl
 have f2:r2.neg=decide (y.val<0):=by rw [er2];rfl
 have f3:nV n3q=x.val.natAbs / y.val.natAbs:=by rw [vn3q,ZI.val_abs,ZI.val_abs,vr1,vr2]
 have f4:nV n3r=x.val.natAbs % y.val.natAbs:=by rw [vn3r,ZI.val_abs,ZI.val_abs,vr1,vr2]
 have f5:nV n3r=0 ↔ n3r.length=0:=by rw [en3r];exact val_zero (zde _)
 obtain ⟨e1,e2⟩:=fdiv_same h0 f1 f2 f3 f4 (fun h=>by rw [hc4] at h;cases h);rw [er4,er5,e1,e2];try rfl
theorem sgn_eq0 {z:Int}:sgn z=0 ↔ z=0:=by unfold sgn;split <;> (try split) <;> omega
theorem SExact (x y:ZI) (hx:Lb x.abs) (hy:Lb y.abs) (lx:x.abs.length<=15000) (ly:y.abs.length<=15000) (h0:y.val≠0) (hr:x.val.fmod y.val=0):Fn eA 168 [] [vz x,vz y] (.tup [.agg (zi (eI (x.val.fdiv y.val))),.c (cI 0)]) []:=by
 refine fB Tryz.func168 rfl 27 fun w H B a h=>Jq 0 [] [(2,vp 0 0),(3,vp 1 0),(4,vp 2 0),(5,vI 0)] [(0,.box (zi x)),(1,.box (zi y)),(2,.box [cB false,.d (nsl [])])] h fun a w h=>?_
 obtain ⟨r1q,er1q,vr1q,or1q,lr1q⟩:=mkZ (v:=x.val.fdiv y.val) (m:=x.abs.length) (zlz hx h0);obtain ⟨r1r,er1r,vr1r,or1r,lr1r⟩:=mkZ (v:=x.val.fmod y.val) (m:=y.abs.length) (len_fmod hy h0);refine Jg 3 [(2,.call (eB (SDiv x y hx hy (by omega) (by omega) h0) (show _=(.tup [.agg (zi r1q),.agg (zi r1r),.c (cI 0)]:V) by rw [er1q,er1r];try rfl)))] [2,3] [(6,vp 3 0),(7,vp 4 0),(8,vI 0)] [0,1] [(3,.box (zi r1q)),(4,.box (zi r1r))] h fun a w h=>qW (qZ (Je 5 [(1,.cmp (op:=.neq) (m:=0) (n:=0) (b:=false) .i64 rfl)] [] [(16,vb false)] h fun a w h=>zau h (Jg 5 [(1,.call (eB (zkz r1r or1r (by omega)) (yJ (vi .i64) (zev (by rw [vr1r];exact hr))))),(2,.cmp (op:=.neq) (m:=0) (n:=0) (b:=false) .i64 rfl)] [7,8,16] [(21,vb false)] [4] [] h fun a w h=>zau h (qU (za6 (za1 (Jg 5 [] [6,21] [] [3] [(2,.box (zi r1q))] h fun a w h=>qV (zfj [.agg (zi r1q),.c (cI 0)] h Exit.ret (.inl rfl)  rfl ⟨eE _ 2 0 _ _ _ _ zet rfl rfl rfl rfl,vT9,trivial⟩ ?_))))))));rw [er1q];try rfl
theorem tt_6:SlT eA 52 28 2:=SlT.mk' Tryz.underlying52 (by kernel_rfl)
theorem STCoef (t:zaf) (v:Int) (ht:PsOk 40000 t.parts):Fn eA 194 [] [(vT t),vI v] (vz (eI (zah t.parts v))) []:=by
 refine fB Tryz.func194 rfl 30 fun w H B a h=>Jq 0 [] [(1,vI v),(2,vp 0 0),(4,vp 1 0)] [(0,.box (zT t)),(1,.box [cB false,.d (nsl [])])] h fun a w h=>Jg 2 [] [] [(5,vp 2 0)] [] [(2,.box [cB false,.d (nsl [])])] h fun a w h=>qW (Jg 3 [(2,.len (za3 3 eK t.parts))] [2] [(10,(vPs t.parts)),(11,vN t.parts.length),(12,vI 0)] [0] [] h fun a w h=>qZ ?_)
 refine zbw (ι:=(Nat) × (ZI)) (fun (j,out)=>out=eI (zah (t.parts.take j) v)/\j<=t.parts.length)
   [] (fun (j,out)=>[(12,vN j)])
   [] (fun (j,out)=>[(2,.box (zi out))])
   (fun (j,out)=>t.parts.length - j) (0,(eI 0)) ?_ h ?_
 ·exact ⟨by simp [zah],bC _⟩
 clear h;rintro ⟨j,out⟩ a w hI h;dsimp only at h;obtain ⟨hI1,hI2⟩:=hI;have ln:=ht.1;have lo:out.abs.length<=40001:=by rw [hI1];exact zi8 (ht.take j) v
 have ho:Lb out.abs:=by rw [hI1];exact eG _
 have vo:out.val=zah (t.parts.take j) v:=by rw [hI1];exact eJ _
 refine Je 3 [] [] [(13,vb (decide ((j:Int)<(t.parts.length:Int))))] h fun a w h=>qW (zad ((j:Int)<(t.parts.length:Int)) h (fun hc1 hc1'=>?_) (fun hc6 hc6'=>?_))
 ·refine qU (za1 (qW (qZ ?_)));obtain ⟨x1,hx1⟩:=gl t.parts j;obtain ⟨ox1,lx1⟩:=ht.get hx1;refine Jg 3 [(0,.g (xD 14 10 zcl (za7 hx1 (f:=eK)) (eC 12 _)))] [13] [(7,vp 3 0)] [] [(3,.box ([cI x1.v]++zi x1.c))] h fun a w h=>?_
  rcases bG (x1.v == v) with hc2 | hc5
  ·refine Je 4 [(3,.cmp (op:=.eql) (m:=x1.v) (n:=v) (b:=true) .i64 hc2)] [] [(23,vb (decide (v>=0)))] h fun a w h=>zad (v>=0) h (fun hc3 hc3'=>?_) (fun hc4 hc4'=>?_)
   ·obtain ⟨r2,er2,vr2,or2,lr2⟩:=mkZ (v:=out.val+x1.c.val) (m:=out.abs.length+x1.c.abs.length+1) (zep ho ox1);refine Jh 4 [(3,.call (eB (SAdd out x1.c ho ox1 (by omega) (by omega)) (yJ vz er2.symm)))] [7,23] [] [3] [(2,.box (zi r2))] h fun a w h=>za6 (za1 (Jf 4 [(0,.j1 j)] [] [(12,vI ((j:Int)+1))] h fun a w h=>za1 (zaa (x:=(j,out)) (y:=(j+1,r2)) h ?_ ?_)))
    ·have hc:x1.v=v/\0<=v:=⟨by simpa using hc2,by have:=hc3';omega⟩;exact ⟨by rw [er2,vo,zf1 hx1,if_pos hc],by have:=(bL.1 hx1).1;omega⟩
    (try simp);omega
   refine qU (za6 (za1 (Jh 4 [(0,.j1 j)] [7,23] [(12,vI ((j:Int)+1))] [3] [] h fun a w h=>za1 (zaa (x:=(j,out)) (y:=(j+1,out)) h ?_ ?_))))
   ·exact ⟨by rw [hI1,zf1 hx1,if_neg (fun hc=>absurd hc.2 (by have:=hc4';omega)),dM],by have:=(bL.1 hx1).1;omega⟩
   (try simp);omega
  refine Je 4 [(3,.cmp (op:=.eql) (m:=x1.v) (n:=v) (b:=false) .i64 hc5)] [] [(23,vb false)] h fun a w h=>zau h (qU (za6 (za1 (Jh 4 [(0,.j1 j)] [7,23] [(12,vI ((j:Int)+1))] [3] [] h fun a w h=>za1 (zaa (x:=(j,out)) (y:=(j+1,out)) h ?_ ?_)))))
  ·exact ⟨by rw [hI1,zf1 hx1,if_neg (fun hc=>absurd hc.1 (by simpa using hc5)),dM],by have:=(bL.1 hx1).1;omega⟩
  (try simp);omega
 refine exA (Jq 4 [] [(4,vp 1 0)] [(1,.box (zi out))] h fun a w h=>qV (rA 1 (zi out) h zet rfl ?_));have hj:j=t.parts.length:=by have:=hc6';omega
 subst hj;rw [hI1,cF];try rfl
theorem SHas (t:zaf) (v:Int) {L:Nat} (ht:TOk n L t) (hn:n<=1000000000) (hL:L<=20000):Fn eA 161 [] [(vT t),vI v] (vb (sgn (zah t.parts v) != 0)) []:=by
 refine fB Tryz.func161 rfl 10 fun w H B a h=>Jq 0 [] [(1,vI v),(2,vp 0 0),(4,vb false)] [(0,.box (zT t))] h fun a w h=>?_
 obtain ⟨r1,er1,vr1,or1,lr1⟩:=mkZ (v:=zah t.parts v) (m:=L+1) (zi8 (ht.mono hn (bI L)).psok v);refine Jq 1 [(2,.call (eB (STCoef t v (ht.mono hn (by omega)).psok) (yJ vz er1.symm))),(3,.call (zkz r1 or1 (by omega)))] [(4,vb (sgn r1.val != 0))] [] h fun a w h=>qV (rT (.c (cB (sgn r1.val != 0))) h rfl ?_);rw [vr1];try rfl
def zce (vs:List ZI) (v:Int):Int:=if 0<=v then ((vs[v.toNat]?).map ZI.val).getD 0 else 0
def zeq (vs:List ZI):List za4->Int
  | []=>0
  | p :: ps=>p.c.val*zce vs p.v+zeq vs ps
theorem valP_app (vs:List ZI) (ps qs:List za4):zeq vs (ps++qs)=zeq vs ps+zeq vs qs:=by
 induction ps with
 | nil=>simp [zeq]
 | cons p ps ih=>simp only [List.cons_append,zeq,ih];omega
theorem valAt_some {vs:List ZI} {k:Nat} (h:v=(k:Int)) (hy:vs[k]?=some y):zce vs v=y.val:=by
 subst h
 unfold zce
 rw [if_pos (by omega),Int.toNat_natCast,hy];rfl
theorem valAt_neg {vs:List ZI} (h:¬ v>=0):zce vs v=0:=by unfold zce;rw [if_neg (by omega)]
theorem valAt_out {vs:List ZI} (h:¬ v<(vs.length:Int)):zce vs v=0:=by
 unfold zce
 split
 ·rw [List.getElem?_eq_none (by omega)];rfl
 ·rfl
def zd6 (t:zaf) (vs:List ZI):Int:=t.k.val+zeq vs t.parts
def VOk (M:Nat) (vs:List ZI):Prop:=vs.length<=2000/\∀ y ∈ vs,Lb y.abs/\y.abs.length<=M
theorem VOk.get {vs:List ZI} (h:VOk M vs) (hy:vs[j]?=some y):Lb y.abs/\y.abs.length<=M:=h.2 y (dA hy)
theorem valAt_lt {vs:List ZI} (h:VOk M vs) (v:Int):(zce vs v).natAbs<pw M:=by
 unfold zce
 split
 ·cases hy:vs[v.toNat]? with
  | none=>exact zf4 M
  | some y =>
   obtain ⟨h1,h2⟩:=h.get hy
   have h3:=ZI.abs_lt h1
   have h4:=zdt h2
   show y.val.natAbs<_
   omega
 ·exact zf4 M
theorem valP_lt {L:Nat} {vs:List ZI} (hv:VOk M vs):∀ {ps:List za4}, (∀ p ∈ ps,Lb p.c.abs/\p.c.abs.length<=L)->(zeq vs ps).natAbs<=ps.length*pw (L+M)
 | [],_=>by simp [zeq]
 | p :: ps,h=>by
  have ih:=valP_lt hv (fun q hq=>h q (by simp [hq])) (ps:=ps)
  obtain ⟨h1,h2⟩:=h p (by simp)
  have h3:=cK (ZI.abs_lt h1) (zdt h2)
  have h4:(p.c.val*zce vs p.v).natAbs<pw (L+M):=by
   rw [Int.natAbs_mul,zgc]
   exact Nat.mul_lt_mul'' h3 (valAt_lt hv p.v)
  simp only [zeq,dN,Nat.add_mul]
  omega
theorem val_len {L:Nat} {vs:List ZI} (ht:TOk n L t) (hn:n<=1000000000) (hv:VOk M vs) (hp:∀ p ∈ ps,p ∈ t.parts) (hl:ps.length<=t.parts.length):(eI (t.k.val+zeq vs ps)).abs.length<=L+M+1:=by
 refine eH ?_
 have h1:=valP_lt hv (fun p h=>ht.ps p (hp p h)) (L:=L)
 have h2:ps.length*pw (L+M)<=1000000000*pw (L+M):=Nat.mul_le_mul_right _ (by have:=ht.len;omega)
 have h3:=cK (ZI.abs_lt ht.kb) (zdt ht.kl)
 have h4:=zdt (show L<=L+M by omega)
 rw [zar]
 omega
def zcc (ps:List za4):Int:=ps.foldl (fun g p=>(bF g.natAbs p.c.val.natAbs:Int)) 0
theorem con_take {p:za4} (h:ps[j]?=some p):zcc (ps.take (j+1))=(bF (zcc (ps.take j)).natAbs p.c.val.natAbs:Int):=by
 unfold zcc;rw [zc4 h]
theorem con_nonneg (ps:List za4):0<=zcc ps:=by
 have key:∀ (ps:List za4) (g:Int),0<=g->0<=ps.foldl (fun g p=>(bF g.natAbs p.c.val.natAbs:Int)) g:=by
  intro ps
  induction ps with
  | nil=>intro g h;exact h
  | cons p ps ih=>intro g h;exact ih _ (Int.natCast_nonneg _)
 exact key ps 0 (Int.le_refl 0)
theorem con_le {L:Nat} (h:∀ p ∈ ps,p.c.val.natAbs<pw L/\p.c.val≠0):(zcc ps).natAbs<pw L:=by
 have key:∀ (ps:List za4),(∀ p ∈ ps,p.c.val.natAbs<pw L/\p.c.val≠0)->∀ g:Int,g.natAbs<pw L->(ps.foldl (fun g p=>(bF g.natAbs p.c.val.natAbs:Int)) g).natAbs<pw L:=by
  intro ps
  induction ps with
  | nil=>intro _ g h;exact h
  | cons p ps ih =>
   intro hp g h
   obtain ⟨h1,h2⟩:=hp p (by simp)
   refine ih (fun q hq=>hp q (by simp [hq])) _ ?_
   rw [c8]
   have:=Nat.le_of_dvd (by omega) (Nat.gcd_dvd_right g.natAbs p.c.val.natAbs)
   omega
 exact key ps h 0 (by simpa using zf4 L)
theorem plain_lt {L:Nat} (ht:TOk n L t) (hn:n<=1000000000):∀ p ∈ (za2 t).parts,p.c.val.natAbs<pw (L+1)/\p.c.val≠0:=fun p hp=>by
 obtain ⟨h1,h2⟩:=(ht.plain hn).ps p hp
 exact ⟨cK (ZI.abs_lt h1) (zdt h2),((zay t).2.1 p hp).2.2⟩
theorem con_len {L:Nat} (ht:TOk n L t) (hn:n<=1000000000) (j:Nat):(eI (zcc ((za2 t).parts.take j))).abs.length<=L+1 :=
 eH (con_le fun p hp=>plain_lt ht hn p (d6 hp))
theorem SContent (t:zaf) {L:Nat} (ht:TOk n L t) (hn:n<=1000000000) (hL:L<=20000):Fn eA 125 [] [(vT t)] (vz (eI (zcc (za2 t).parts))) []:=by
 refine fB Tryz.func125 rfl 21 fun w H B a h=>Jq 0 [] [(1,vp 0 0),(2,vp 1 0)] [(0,.box (zT t)),(1,.box [cB false,.d (nsl [])])] h fun a w h=>Jg 2 [] [] [(3,vp 2 0)] [] [(2,.box [cB false,.d (nsl [])])] h fun a w h=>qW (Jg 3 [(1,.call (zen t ht (by omega) (by omega))),(3,.len (za3 3 eK ((za2 t).parts)))] [1] [(9,(vPs (za2 t).parts)),(10,vI ((za2 t).parts.length:Int)),(11,vI 0)] [0] [] h fun a w h=>qZ ?_)
 refine zbw (ι:=(Nat) × (ZI)) (fun (j,out)=>out=eI (zcc ((za2 t).parts.take j))/\j<=(za2 t).parts.length)
   [] (fun (j,out)=>[(11,vN j)])
   [] (fun (j,out)=>[(2,.box (zi out))])
   (fun (j,out)=>(za2 t).parts.length - j) (0,(eI 0)) ?_ h ?_
 ·exact ⟨by simp [zcc],bC _⟩
 clear h;rintro ⟨j,out⟩ a w hI h;dsimp only at h;obtain ⟨hI1,hI2⟩:=hI;have lpp:=(ht.plain hn).len;have lvv:(ze7 t.parts).length=(za2 t).parts.length:=(bE _).symm;have lo:out.abs.length<=L+1:=by rw [hI1];exact con_len ht hn j
 have ho:Lb out.abs:=by rw [hI1];exact eG _
 have vo:out.val=zcc ((za2 t).parts.take j):=by rw [hI1];exact eJ _
 refine Je 3 [] [] [(12,vb (decide ((j:Int)<((za2 t).parts.length:Int))))] h fun a w h=>qW (zad ((j:Int)<((za2 t).parts.length:Int)) h (fun hc1 hc1'=>?_) (fun hc2 hc2'=>?_))
 ·refine qU (za1 (qW (qZ ?_)));obtain ⟨x2,hx2⟩:=gl ((za2 t).parts) j;obtain ⟨ox2,lx2⟩:=(ht.plain hn).get hx2;refine Jg 3 [(0,.g (xD 13 9 zcl (za7 hx2 (f:=eK)) (eC 11 _)))] [12] [(5,vp 3 0)] [] [(3,.box ([cI x2.v]++zi x2.c))] h fun a w h=>?_;obtain ⟨r3,er3,vr3,or3,lr3⟩:=mkZ (v:=(bF out.val.natAbs x2.c.val.natAbs:Int)) (m:=out.abs.length+x2.c.abs.length) (len_gcd ho ox2);refine Jh 4 [(3,.call (eB (SGcd out x2.c ho ox2 (by omega) (by omega)) (yJ vz er3.symm)))] [5] [] [3] [(2,.box (zi r3))] h fun a w h=>za6 (za1 (Jf 4 [(0,.j1 j)] [] [(11,vI ((j:Int)+1))] h fun a w h=>za1 (zaa (x:=(j,out)) (y:=((j+1),r3)) h ?_ ?_)))
  ·have:=zab hx2;exact ⟨by rw [er3,vo,con_take hx2],by omega⟩
  show (za2 t).parts.length - (j+1)<(za2 t).parts.length - j;have:=zab hx2;omega
 refine exA (Jq 4 [] [(2,vp 1 0)] [(1,.box (zi out))] h fun a w h=>qV (rA 1 (zi out) h zet rfl ?_));have hj:j=(za2 t).parts.length:=by omega
 subst hj;rw [hI1,cF];try rfl
def zg8:Nat->(Nat->Bool)->Bool
  | 0,_=>true
  | n+1,p=>zg8 n p && p n
theorem zd5:∀ {n:Nat}, zg8 n p=true ↔ ∀ i,i<n->p i=true
 | 0=>by simp [zg8]
 | n+1=>by
  rw [zg8,dO,zd5]
  exact ⟨fun h i hi=>(Nat.lt_succ_iff_lt_or_eq.1 hi).elim (h.1 i) fun e=>e ▸ h.2,fun h=>⟨fun i hi=>h i (by omega),h n (by omega)⟩⟩
theorem zbn (h:zg8 j p=true) (hp:p j=true):zg8 (j+1) p=true:=by rw [zg8,h,hp];rfl
theorem zc2 (hj:j<n) (hp:p j=false):zg8 n p=false:=by
 cases h:zg8 n p with
 | false=>rfl
 | true=>rw [zd5.1 h j hj] at hp;cases hp
theorem zia {q:Nat->Bool} (h:∀ i,i<n->p i=q i):zg8 n p=zg8 n q:=by
 induction n with
 | zero=>rfl
 | succ n ih=>rw [zg8,zg8,ih fun i hi=>h i (by omega),h n (by omega)]
def zdq {α:Type} (pr:α->Bool):List α->Nat->Int
  | [],_=>-1
  | p :: ps,n=>if pr p=true then n else zdq pr ps (n+1)
theorem zg4 {pr:α->Bool} {xs:List α} {p:α} (h:xs[j]?=some p):zdq pr (xs.drop j) j=if pr p=true then (j:Int) else zdq pr (xs.drop (j+1)) (j+1):=by
 obtain ⟨hj,rfl⟩:=bL.1 h
 rw [bS hj];rfl
theorem zi4 (pr:α->Bool):∀ (xs:List α) (n:Nat),(zdq pr xs n=-1/\∀ x ∈ xs,pr x=false)\/∃ k x,zdq pr xs n=((n+k:Nat):Int)/\xs[k]?=some x/\pr x=true/\∀ y ∈ xs.take k,pr y=false
 | [],n => .inl ⟨rfl,fun x hx=>(by cases hx)⟩
 | p :: ps,n=>by
  cases hp:pr p with
  | true=>exact .inr ⟨0,p,by simp [zdq,hp],rfl,hp,fun y hy=>by simp at hy⟩
  | false =>
   rcases zi4 pr ps (n+1) with ⟨h1,h2⟩ | ⟨k,x,h1,h2,h3,h4⟩
   ·exact .inl ⟨by simp [zdq,hp,h1],fun x hx=>(cT.1 hx).elim (fun e=>e ▸ hp) (h2 x)⟩
   ·exact .inr ⟨k+1,x,by simp only [zdq,hp,Bool.false_eq_true,if_false,h1];omega,h2,h3,fun y hy=>by rw [List.take_succ_cons] at hy;exact (cT.1 hy).elim (fun e=>e ▸ hp) (h4 y)⟩
theorem idxB_any (pr:α->Bool) (xs:List α):decide (zdq pr xs 0>=0)=xs.any pr:=by
 rcases zi4 pr xs 0 with ⟨h1,h2⟩ | ⟨k,x,h1,h2,h3,_⟩
 ·rw [h1]
  cases h:xs.any pr with
  | false=>rfl
  | true=>obtain ⟨x,hx,hp⟩:=cL.1 h;rw [h2 x hx] at hp;cases hp
 ·rw [h1,yQ (by omega)]
  exact (cL.2 ⟨x,dA h2,h3⟩).symm
theorem idxB_find (pr:α->Bool) (xs:List α):(zdq pr xs 0=-1/\xs.find? pr=none)\/∃ (k:Nat) (x:α),zdq pr xs 0=(k:Int)/\xs[k]?=some x/\xs.find? pr=some x:=by
 rcases zi4 pr xs 0 with ⟨h1,h2⟩ | ⟨k,x,h1,h2,h3,h4⟩
 ·exact .inl ⟨h1,by rw [List.find?_eq_none];intro x hx;rw [h2 x hx];exact Bool.noConfusion⟩
 ·refine .inr ⟨k,x,by rw [h1,Nat.zero_add],h2,?_⟩
  obtain ⟨hk,rfl⟩:=bL.1 h2
  have e:xs=xs.take k++xs[k] :: xs.drop (k+1):=by rw [<- bS hk,List.take_append_drop]
  have e2:xs.find? pr=(xs.take k++xs[k] :: xs.drop (k+1)).find? pr:=yJ _ e
  rw [e2,List.find?_append,List.find?_eq_none.2 (fun y hy=>by rw [h4 y hy];exact Bool.noConfusion)]
  rw [List.find?_cons,h3];rfl
structure za9 where
  t:zaf
  eq:Bool
def za9.d (x:za9):List D:=[.sl 3 (x.t.parts.map eK),.raw (.bool x.t.k.neg),nsl x.t.k.abs,.raw (.bool x.eq)]
inductive za0 where
  | mk (kind:Int) (r:za9) (kids:List za0)
def za0.kind:za0->Int | ⟨k,_,_⟩=>k
def za0.r:za0->za9 | ⟨_,r,_⟩=>r
def za0.kids:za0->List za0 | ⟨_,_,ks⟩=>ks
theorem za0.eta (f:za0):za0.mk f.kind f.r f.kids=f:=by cases f;rfl
theorem za0.ind {P:za0->Prop} (h:∀ k r ks,(∀ g ∈ ks,P g)->P ⟨k,r,ks⟩) (f:za0):P f :=
 za0.rec (motive_1:=P) (motive_2:=fun ks=>∀ g ∈ ks,P g) h (fun g hg=>(by cases hg)) (fun a l ha has g hg=>(cT.1 hg).elim (fun e=>e ▸ ha) (has g)) f
def za0.fold {α:Type} (g:Int->za9->List za0->List α->α):za0->α
  | ⟨k,r,ks⟩=>g k r ks (ks.attach.map fun x=>za0.fold g x.1)
  termination_by f=>SizeOf.sizeOf f
  decreasing_by have:=List.sizeOf_lt_of_mem x.2;simp;omega
theorem za0.fold_mk (g:Int->za9->List za0->List α->α) (k:Int) (r:za9) (ks:List za0):za0.fold g ⟨k,r,ks⟩=g k r ks (ks.map (za0.fold g)):=by
 rw [za0.fold,List.attach_map_val]
theorem za0.fold_eq (g:Int->za9->List za0->List α->α) (f:za0):za0.fold g f=g f.kind f.r f.kids (f.kids.map (za0.fold g)):=by cases f;exact za0.fold_mk g _ _ _
def za0.d (f:za0):List D:=f.fold fun k r _ ds=>[.raw (.int .i64 k),.sl 3 (r.t.parts.map eK),.raw (.bool r.t.k.neg),nsl r.t.k.abs,.raw (.bool r.eq),.sl 6 ds]
theorem za0.d_eq (f:za0):f.d=[.raw (.int .i64 f.kind),.sl 3 (f.r.t.parts.map eK),.raw (.bool f.r.t.k.neg),nsl f.r.t.k.abs,.raw (.bool f.r.eq),.sl 6 (f.kids.map za0.d)]:=za0.fold_eq _ f
theorem za0.d_len (f:za0):f.d.length=6:=by rw [za0.d_eq];rfl
def rawD (x:D):List D:=[x]
structure zak where
  is_:Bool
  lo:ZI
  hi:ZI
def zak.d (x:zak):List D:=[.raw (.bool x.is_),.raw (.bool x.lo.neg),nsl x.lo.abs,.raw (.bool x.hi.neg),nsl x.hi.abs]
structure zai where
  v:Int
  any:Bool
  t:zaf
def zai.d (x:zai):List D:=[.raw (.int .i64 x.v),.raw (.bool x.any),.sl 3 (x.t.parts.map eK),.raw (.bool x.t.k.neg),nsl x.t.k.abs]
structure zas where
  proc:Int
  from_:Int
  to_:Int
  guard:za0
  moves:List zai
def zas.d (x:zas):List D:=[.raw (.int .i64 x.proc),.raw (.int .i64 x.from_),.raw (.int .i64 x.to_),.raw (.int .i64 x.guard.kind),.sl 3 (x.guard.r.t.parts.map eK),.raw (.bool x.guard.r.t.k.neg),nsl x.guard.r.t.k.abs,.raw (.bool x.guard.r.eq),.sl 6 (x.guard.kids.map za0.d),.sl 5 (x.moves.map zai.d)]
structure zbj where
  name:ByteArray
  locs:List ByteArray
  cmds:D
def zbj.d (x:zbj):List D:=[.raw (.string x.name),.sl 1 (x.locs.map zer),x.cmds]
structure zan where
  vars:List ByteArray
  bounds:List zak
  init:za0
  procs:List zbj
  acts:List zas
def zan.d (x:zan):List D:=[.sl 1 (x.vars.map zer),.sl 5 (x.bounds.map zak.d),.raw (.int .i64 x.init.kind),.sl 3 (x.init.r.t.parts.map eK),.raw (.bool x.init.r.t.k.neg),nsl x.init.r.t.k.abs,.raw (.bool x.init.r.eq),.sl 6 (x.init.kids.map za0.d),.sl 3 (x.procs.map zbj.d),.sl 10 (x.acts.map zas.d)]
structure StD where
  locs:List Int
  vals:List ZI
def StD.d (x:StD):List D:=[.sl 1 (x.locs.map zal),.sl 2 (x.vals.map ziD)]
structure zib where
  stem:List StD
  cycle:List StD
  acts:List Int
def zib.d (x:zib):List D:=[.sl 2 (x.stem.map StD.d),.sl 2 (x.cycle.map StD.d),.sl 1 (x.acts.map zal)]
structure PropD where
  at_:Bool
  proc:Int
  loc:Int
  f:za0
def PropD.d (x:PropD):List D:=[.raw (.bool x.at_),.raw (.int .i64 x.proc),.raw (.int .i64 x.loc),.raw (.int .i64 x.f.kind),.sl 3 (x.f.r.t.parts.map eK),.raw (.bool x.f.r.t.k.neg),nsl x.f.r.t.k.abs,.raw (.bool x.f.r.eq),.sl 6 (x.f.kids.map za0.d)]
structure WordD where
  stem:List (List Bool)
  cycle:List (List Bool)
def WordD.d (x:WordD):List D:=[.sl 1 (x.stem.map (slD 1 zb4)),.sl 1 (x.cycle.map (slD 1 zb4))]
abbrev zcn (s:zan):List C:=([.d (.sl 1 (s.vars.map zer)),.d (.sl 5 (s.bounds.map zak.d)),.d (.raw (.int .i64 s.init.kind)),.d (.sl 3 (s.init.r.t.parts.map eK))]++zi s.init.r.t.k++[.d (.raw (.bool s.init.r.eq)),.d (.sl 6 (s.init.kids.map za0.d)),.d (.sl 3 (s.procs.map zbj.d)),.d (.sl 10 (s.acts.map zas.d))])
abbrev acC (x:zas):List C:=[.d (.raw (.int .i64 x.proc)),.d (.raw (.int .i64 x.from_)),.d (.raw (.int .i64 x.to_)),.d (.raw (.int .i64 x.guard.kind)),.d (.sl 3 (x.guard.r.t.parts.map eK))]++zi x.guard.r.t.k++[.d (.raw (.bool x.guard.r.eq)),.d (.sl 6 (x.guard.kids.map za0.d)),.d (.sl 5 (x.moves.map zai.d))]
abbrev zF (x:za0):List C:=[.d (.raw (.int .i64 x.kind)),.d (.sl 3 (x.r.t.parts.map eK))]++zi x.r.t.k++[.d (.raw (.bool x.r.eq)),.d (.sl 6 (x.kids.map za0.d))]
abbrev zR_ (x:za9):List C:=[.d (.sl 3 (x.t.parts.map eK))]++zi x.t.k++[.d (.raw (.bool x.eq))]
abbrev vF (x:za0):V:=.t (.agg (zF x))
abbrev vR (x:za9):V:=.t (.agg (zR_ x))
abbrev vFs (x:List za0):V:=.t (.c (.d (.sl 6 (x.map za0.d))))
abbrev vRs (x:List za9):V:=.t (.c (.d (.sl 4 (x.map za9.d))))
abbrev cFs (x:List za0):C:=.d (.sl 6 (x.map za0.d))
abbrev cRs (x:List za9):C:=.d (.sl 4 (x.map za9.d))
theorem zie:SlT eA 33 35 6:=SlT.mk' Tryz.underlying33 (by kernel_rfl)
theorem kb_1:ElZ eA 33 35 6:=ElZ.mk' Tryz.underlying33 _ _ rfl rfl
section
variable {P:Program}
theorem TyOk.fnc {t:TypeId} {z:C} {dd:TypeDesc} (hu:P.underlying t=some dd) (ha:(match dd with | .struct _ | .array _ _=>true | _=>false)=false) (hs:(P.info? t).map (·.size)=some 1) (hz:Zero P t [z]):TyOk P t ⟨1,false,[],[z],4⟩ :=
 ⟨Sz.mk' hs hu _ ha.symm,fun k off n ag h=>(by simp at h),fun _=>hz,fun h=>absurd rfl h,fun h=>(by cases h),fun h=>(by cases h),fun h=>(by cases h),fun k h=>(by cases h)⟩
theorem Op.makeFs {d:Nat} {fn:Go.Fn} (ts:List (Nat × Nat × Nat)) {pos af gd} :
  zbe P ⟨some d,.makeFunc fn #[] ⟨ts.map fun p => .tmp p.1⟩,ty,pos,af,gd⟩ { rs:=ts.map fun p=>(p.1,vp p.2.1 p.2.2),ws:=[(d,some (.t (.c (.fn fn [] (ts.map fun p=>A.ptr p.2.1 p.2.2)))))] } :=
 zbe.value d _ rfl rfl rfl fun e f H B a w hok hr=>by
  refine ⟨.func fn #[] ⟨ts.map fun p=>a.eval (.tmp p.1)⟩,?_,[],ts.map fun p=>a.eval (.tmp p.1),rfl,trivial,?_⟩
  ·simp [execOp,Instr.makeFunc,Function.comp_def]
  ·have h1:∀ p ∈ ts,AR H B (.ptr p.2.1 p.2.2) (a.eval (.tmp p.1)):=fun p hp=>hok.slot p.1 _ (hr.1 (p.1,vp p.2.1 p.2.2) (bN.2 ⟨p,hp,rfl⟩))
   clear hr
   induction ts with
   | nil=>trivial
   | cons p ts ih=>exact ⟨h1 p (by simp),ih fun q hq=>h1 q (by simp [hq])⟩
end
theorem all_take {q:α->Bool} {xs:List α} {x:α} (h:xs[j]?=some x):(xs.take (j+1)).all q=((xs.take j).all q && q x):=by
 have e:xs.take (j+1)=xs.take j++[x]:=by rw [bW,h];rfl
 rw [e,dW];simp
theorem zdj {q:α->Bool} {xs:List α} {x:α} (h:xs[j]?=some x) (h1:(xs.take j).all q=true) (h2:q x=true):(xs.take (j+1)).all q=true:=by rw [all_take h,h1,h2];rfl
theorem zca {q:α->Bool} {xs:List α} {x:α} (h:xs[j]?=some x) (h2:q x=false):xs.all q=false:=by
 cases h3:xs.all q with
 | false=>rfl
 | true=>rw [cG.1 h3 x (dA h)] at h2;cases h2
theorem ze2 {q:α->Bool} {xs:List α} (hj:¬ (j:Int)<(xs.length:Int)) (h1:(xs.take j).all q=true):xs.all q=true:=by rwa [bX (by omega)] at h1
theorem any_step {q:α->Bool} {xs:List α} {x:α} (h:xs[j]?=some x) (h1:(xs.take j).any q=false) (h2:q x=false):(xs.take (j+1)).any q=false:=by
 have e:xs.take (j+1)=xs.take j++[x]:=by rw [bW,h];rfl
 rw [e,dX,h1];simp [h2]
theorem zmf {q:α->Bool} {xs:List α} {x:α} (h:xs[j]?=some x) (h2:q x=true):xs.any q=true:=cL.2 ⟨x,dA h,h2⟩
theorem any_end {q:α->Bool} {xs:List α} (hj:¬ (j:Int)<(xs.length:Int)) (h1:(xs.take j).any q=false):xs.any q=false:=by rwa [bX (by omega)] at h1
def cnt {α:Type} (k:Int) (xs:List α):List α:=if k=4\/k=5 then xs else if k=3 then xs.take 1 else []
theorem zd0 (g:α->β) (k:Int) (xs:List α):cnt k (xs.map g)=(cnt k xs).map g:=by unfold cnt;split;rfl;split;rw [dY];rfl
theorem zb9 {xs:List α} {x:α} (h:x ∈ cnt k xs):x ∈ xs:=by
 unfold cnt at h
 split at h
 ·exact h
 ·split at h
  ·exact d6 h
  ·cases h
theorem cnt_len (k:Int) (xs:List α):(cnt k xs).length<=xs.length:=by
 unfold cnt;split;exact bI _;split;rw [b5];omega;exact bC _
def zdp (lim:Int):List (Int->Int)->Int->Int
  | [],n=>n
  | s :: ss,n=>if n<=lim then zdp lim ss (n+s (lim - n)) else n
def za0.size (f:za0):Int->Int:=f.fold fun k _ _ ss lim=>zdp lim (cnt k ss) 1
theorem za0.size_eq (f:za0) (lim:Int):f.size lim=zdp lim ((cnt f.kind f.kids).map za0.size) 1:=by
 have:=congrFun (za0.fold_eq (fun k _ _ (ss:List (Int->Int)) lim=>zdp lim (cnt k ss) 1) f) lim
 rw [zd0] at this;exact this
theorem sizeGo_bd {lim:Int}:∀ (ss:List (Int->Int)) (n:Int),(∀ s ∈ ss,∀ l,0<=l->1<=s l/\s l<=l+1)->1<=n->n<=lim+1->1<=zdp lim ss n/\zdp lim ss n<=lim+1
 | [],n,_,h1,h2=>⟨h1,h2⟩
 | s :: ss,n,h,h1,h2=>by
  unfold zdp
  split
  ·rename_i hn
   have:=h s (by simp) (lim - n) (by omega)
   exact sizeGo_bd ss _ (fun t ht=>h t (by simp [ht])) (by omega) (by omega)
  ·exact ⟨h1,h2⟩
theorem za0.size_bd (f:za0):∀ lim:Int,0<=lim->1<=f.size lim/\f.size lim<=lim+1 :=
 za0.ind (P:=fun f=>∀ lim:Int,0<=lim->1<=f.size lim/\f.size lim<=lim+1) (fun k r ks ih lim hl=>by
  rw [za0.size_eq]
  refine sizeGo_bd _ _ (fun s hs=>?_) (by omega) (by omega)
  obtain ⟨g,hg,rfl⟩:=bN.1 hs
  exact ih g (zb9 hg)) f
theorem sizeGo_at {lim n:Int} {ss:List (Int->Int)} {s:Int->Int} (h:ss[j]?=some s) (hn:n<=lim):zdp lim (ss.drop j) n=zdp lim (ss.drop (j+1)) (n+s (lim - n)):=by
 obtain ⟨hj,rfl⟩:=bL.1 h
 rw [bS hj,zdp,if_pos hn]
theorem sizeGo_out {lim n:Int} {ss:List (Int->Int)} (h:¬ n<=lim\/ss=[]):zdp lim ss n=n:=by
 cases ss with
 | nil=>rfl
 | cons s ss=>rw [zdp,if_neg (h.resolve_right (by simp))]
def fewR (L:Int) (r:za9):Bool:=decide ((r.t.parts.length:Int)<=20) && decide ((r.t.k.abs.length:Int)<=L) && r.t.parts.all fun p=>decide ((p.c.abs.length:Int)<=L)
def za0.few (L:Int) (f:za0):Bool:=f.fold fun k r _ bs=>(!(k == 2) || fewR L r) && (cnt k bs).all id
theorem za0.few_eq (L:Int) (f:za0):f.few L=((!(f.kind == 2) || fewR L f.r) && (cnt f.kind f.kids).all (za0.few L)):=by
 have:=za0.fold_eq (fun k r _ (bs:List Bool)=>(!(k == 2) || fewR L r) && (cnt k bs).all id) f
 rw [zd0,dB] at this;exact this
def zm9 (f:za0) (most L:Int):Bool:=!decide (f.size most>most) && f.few L
def zax (vs:List ZI) (r:za9):Bool:=if r.eq=true then sgn (zd6 r.t vs) == 0 else decide (sgn (zd6 r.t vs)>=0)
def za0.holds (vs:List ZI) (f:za0):Bool:=f.fold fun k r _ bs=>if k=0 then true else if k=2 then zax vs r else if k=3 then (match bs with | []=>false | b :: _=>!b) else if k=4 then bs.all id else if k=5 then bs.any id else false
theorem za0.holds_eq (vs:List ZI) (f:za0):f.holds vs=if f.kind=0 then true else if f.kind=2 then zax vs f.r else if f.kind=3 then (match f.kids with | []=>false | g :: _=>!g.holds vs) else if f.kind=4 then f.kids.all (za0.holds vs) else if f.kind=5 then f.kids.any (za0.holds vs) else false:=by
 have:=za0.fold_eq (fun k r _ (bs:List Bool)=>if k=0 then true else if k=2 then zax vs r else if k=3 then (match bs with | []=>false | b :: _=>!b) else if k=4 then bs.all id else if k=5 then bs.any id else false) f
 rw [dB,dP] at this
 refine this.trans ?_
 cases f.kids <;> rfl
def TokR (L:Nat) (r:za9):Prop:=TOk 20 L r.t
def za0.ok (L:Nat) (f:za0):Prop:=f.fold fun k r _ ps=>(k=2->TokR L r)/\∀ p ∈ cnt k ps,p
theorem za0.ok_eq (L:Nat) (f:za0):f.ok L ↔ (f.kind=2->TokR L f.r)/\∀ g ∈ cnt f.kind f.kids,g.ok L:=by
 have:=za0.fold_eq (fun k r _ (ps:List Prop)=>(k=2->TokR L r)/\∀ p ∈ cnt k ps,p) f
 rw [zd0] at this
 unfold za0.ok
 rw [this]
 refine and_congr_right fun _=>⟨fun h g hg=>h _ (bN.2 ⟨g,hg,rfl⟩),fun h p hp=>?_⟩
 obtain ⟨g,hg,rfl⟩:=bN.1 hp
 exact h g hg
def za0.lb (f:za0):Prop:=f.fold fun _ r ks ps=>(TLb r.t/\ks.length<=9223372036854775807)/\∀ p ∈ ps,p
theorem za0.lb_eq (f:za0):f.lb ↔ (TLb f.r.t/\f.kids.length<=9223372036854775807)/\∀ g ∈ f.kids,g.lb:=by
 have:=za0.fold_eq (fun _ r ks (ps:List Prop)=>(TLb r.t/\ks.length<=9223372036854775807)/\∀ p ∈ ps,p) f
 unfold za0.lb
 rw [this]
 refine and_congr_right fun _=>⟨fun h g hg=>h _ (bN.2 ⟨g,hg,rfl⟩),fun h p hp=>?_⟩
 obtain ⟨g,hg,rfl⟩:=bN.1 hp
 exact h g hg
theorem fewR_ok {L:Nat} {r:za9} (h:fewR L r=true) (hl:TLb r.t):TokR L r:=by
 simp only [fewR,dO,decide_eq_true_eq,cG] at h
 exact ⟨by omega,fun p hp=>⟨hl.2 p hp,by have:=h.2 p hp;omega⟩,hl.1,by omega⟩
theorem za0.few_ok {L:Nat} (f:za0):f.few L=true->f.lb->f.ok L :=
 za0.ind (P:=fun f=>f.few L=true->f.lb->f.ok L) (fun k r ks ih h hl=>by
  rw [za0.few_eq,dO] at h
  rw [za0.lb_eq] at hl
  rw [za0.ok_eq]
  refine ⟨fun hk=>fewR_ok (by have:=h.1;rw [show ((za0.mk k r ks).kind == 2)=true from by rw [hk];rfl] at this;simpa using this) hl.1.1,fun g hg=>ih g (zb9 hg) (cG.1 h.2 g hg) (hl.2 g (zb9 hg))⟩) f
theorem SKids (f:za0) :Fn eA 66 [] [(vF f)] (vFs (cnt f.kind f.kids)) []:=by
 refine fB Tryz.func66 rfl 26 fun w H B a h=>Jq 0 [] [(1,vp 0 0),(2,vW zam)] [(0,.box (zF f))] h fun a w h=>qW ?_
 rcases bG (f.kind == 4) with hc1 | hc2
 ·refine Je 1 [(2,.cmp (op:=.eql) (m:=f.kind) (n:=4) (b:=true) .i64 hc1)] [] [(10,vb true)] h fun a w h=>cS true h (fun _=>?_) nofun
  refine Je 1 [] [10] [(2,(vFs f.kids))] h fun a w h=>qV (za5 (rT (.c (cFs f.kids)) h rfl ?_));have p4: f.kind=4:=by have:=hc1;simpa using this
  have hz:(cnt f.kind f.kids)=f.kids:=by unfold cnt;rw [if_pos (by omega)]
  rw [hz];try rfl
 refine Je 1 [(2,.cmp (op:=.eql) (m:=f.kind) (n:=4) (b:=false) .i64 hc2)] [] [(10,vb (f.kind == 5))] h fun a w h=>cS (f.kind == 5) h (fun hc3=>?_) (fun hc4=>?_)
 ·refine Je 1 [] [10] [(2,(vFs f.kids))] h fun a w h=>qV (za5 (rT (.c (cFs f.kids)) h rfl ?_));have p4:¬ f.kind=4:=by have:=hc2;simpa using this
  have p5: f.kind=5:=by have:=hc3;simpa using this
  have hz:(cnt f.kind f.kids)=f.kids:=by unfold cnt;rw [if_pos (by omega)]
  rw [hz];try rfl
 refine qU (za1 (qW ?_))
 rcases bG (f.kind == 3) with hc5 | hc8
 ·refine Je 1 [(2,.cmp (op:=.eql) (m:=f.kind) (n:=3) (b:=true) .i64 hc5),(6,.len (za3 6 za0.d f.kids))] [10] [(21,vb (decide ((f.kids.length:Int)>0)))] h fun a w h=>zad ((f.kids.length:Int)>0) h (fun hc6 hc6'=>?_) (fun hc7 hc7'=>?_)
  ·refine Jq 1 [(2,.g (Op.sliceD (d:=24) (t:=23) (l:=0) (h:=1) (rows:=f.kids.map za0.d) (rows':=(f.kids.take 1).map za0.d) zie (BO.no _) (BO.yes _ (OV.const (.int .i64 1) rfl)) (by first | omega | (simp at *;omega)) (by first | omega | (simp only [bE];omega) | (simp at *;omega)) (by simp [dY])))] [(2,(vFs (f.kids.take 1)))] [] h fun a w h=>qV (za5 (rT (.c (cFs (f.kids.take 1))) h rfl ?_));have p4:¬ f.kind=4:=by have:=hc2;simpa using this
   have p5:¬ f.kind=5:=by have:=hc4;simpa using this
   have p3: f.kind=3:=by have:=hc5;simpa using this
   have hz:(cnt f.kind f.kids)=(f.kids.take 1):=by unfold cnt;rw [if_neg (by omega),if_pos (by omega)]
   rw [hz];try rfl
  refine qU (za1 (Jq 1 [(0,.g (Op.buildED (d:=25) kb_1))] [(2,(vFs []))] [] h fun a w h=>qV (rT (.c (cFs [])) h rfl ?_)));have p4:¬ f.kind=4:=by have:=hc2;simpa using this
  have p5:¬ f.kind=5:=by have:=hc4;simpa using this
  have p3: f.kind=3:=by have:=hc5;simpa using this
  have hz:(cnt f.kind f.kids)=[]:=by unfold cnt;rw [if_neg (by omega),if_pos (by omega),cC.1 (show f.kids.length=0 by have:=dF hc7;omega)];rfl
  rw [hz];try rfl
 refine Je 1 [(2,.cmp (op:=.eql) (m:=f.kind) (n:=3) (b:=false) .i64 hc8)] [10] [(21,vb false)] h fun a w h=>zau h (qU (za1 (Jq 1 [(0,.g (Op.buildED (d:=25) kb_1))] [(2,(vFs []))] [] h fun a w h=>qV (rT (.c (cFs [])) h rfl ?_))));have p4:¬ f.kind=4:=by have:=hc2;simpa using this
 have p5:¬ f.kind=5:=by have:=hc4;simpa using this
 have p3:¬ f.kind=3:=by have:=hc8;simpa using this
 have hz:(cnt f.kind f.kids)=[]:=by unfold cnt;rw [if_neg (by omega),if_neg (by omega)]
 rw [hz];try rfl
section
variable {w0:World} {H0:Im} {B0:Bl} {K:List Nat} {N:Nat} {sl:List (Nat × V)} {lc:List (Nat × L)} {a:Act} {w:World}
def keepK (K:List Nat) (n:Nat) (lc:List (Nat × L)):Bool:=K.all fun k=>!Nat.beq k n && (lc.lookup k).isSome
theorem pubSK (n es:Nat) (ty:TypeId) (rows:List (List D)) (sl':List (Nat × V)) (lc':List (Nat × L)) (h:St ⟨w0,H0,B0,K,N⟩ (F.of sl lc) a w) (hl:lc.lookup n=some (.row ty es rows)) (hk:keepK K n lc=true)
  (h1:zg7 rows.length (sl.flatMap (·.2.owns n))) (h2:zg7 rows.length (lc.flatMap (·.2.owns n))) (h3:leS ((F.of sl lc).pub n es rows) sl'=sl'.map fun p=>some p.2:=by kernel_rfl) (h4:leN ((F.of sl lc).pub n es rows) lc'=lc'.map fun p=>some p.2:=by kernel_rfl) :
  St ⟨w0,H0,B0,K,N⟩ (F.of sl' lc') a w :=
 (h.pubK n es ty rows hl (fun k hk2=>by
  have:=cG.1 hk k hk2
  simp only [dO,Bool.not_eq_true'] at this
  refine And.intro (fun e=>?_) ?_
  ·rw [e,Nat.beq_refl] at this
   exact absurd this.1 (by decide)
  ·exact Option.isSome_iff_exists.1 this.2) (fun t v hv k hk=>zg7.mem h1 k (List.mem_flatMap.2 ⟨(t,v),ofS_mem hv,hk⟩)) (fun m l hm k hk=>zg7.mem h2 k (List.mem_flatMap.2 ⟨(m,l),ofL_mem hm,hk⟩))).weaken (zjn h3 h4)
theorem pubKX (n es:Nat) (ty:TypeId) (rows:List (List D)) (h:St ⟨w0,H0,B0,K,N⟩ (F.of sl lc) a w) (ks:List Nat) (h1:zg7 rows.length ks) (h2:sl.flatMap (·.2.owns n)++lc.flatMap (·.2.owns n)=ks:=by kernel_rfl) (hl:lc.lookup n=some (.row ty es rows):=by kernel_rfl) (hk:keepK K n lc=true:=by kernel_rfl) (h3:leS ((F.of sl lc).pub n es rows) (sl.map fun p=>(p.1,p.2.pub n es rows))=(sl.map fun p=>(p.1,p.2.pub n es rows)).map fun p=>some p.2:=by kernel_rfl) (h4:leN ((F.of sl lc).pub n es rows) (puM n es rows lc)=(puM n es rows lc).map fun p=>some p.2:=by kernel_rfl) :
  St ⟨w0,H0,B0,K,N⟩ (F.of (sl.map fun p=>(p.1,p.2.pub n es rows)) (puM n es rows lc)) a w:=pubSK n es ty rows (sl.map fun p=>(p.1,p.2.pub n es rows)) (puM n es rows lc) h hl hk (allApp (by rw [h2];exact h1:zg7 rows.length (sl.flatMap (·.2.owns n)++lc.flatMap (·.2.owns n)))).1 (allApp (by rw [h2];exact h1:zg7 rows.length (sl.flatMap (·.2.owns n)++lc.flatMap (·.2.owns n)))).2 h3 h4
end
section
variable {P:Program}
theorem Op.appOO {d t u sn len len2 len':Nat} {rows rows2 rows':List (List D)} {pos af gd} (hT:ElT P xt el es bs) (hlen:len=rows.length) (hlen2:len2=rows2.length) (hlen':len'=len+rows2.length) (hrow:rows++rows2=rows')
  (hb:(len+rows2.length)*bs<=140737488355328) :
  zbe P ⟨some d,.call { callee:=.builtin .append,args:=#[.tmp t,.tmp u],argTypes:=#[xt,xt] }, ty,pos,af,gd⟩
   { rs:=[(t,.t (.c (.own n len))),(u,.t (.c (.own sn len2)))],rl:=[(n,.row el es rows),(sn,.row el es rows2)],ws:=[(d,some (.t (.c (.own n' len'))))],wl:=[(n', some (.row el es rows')),(n,none)],nw:=[n'] }:=by
 subst hlen hlen2 hlen' hrow
 refine Op.appG (cM ..) fun e f H B a w hok hs hl hnew=>?_
 have h2:=hok.ownD (hl (sn,.row el es rows2) (by simp)) (hok.slot u _ (hs (u,.t (.c (.own sn rows2.length))) (by simp)))
 obtain ⟨v,w', p,r1,r2,r⟩:=append_run (ty:=ty) hT (hok.ownD (hl (n,.row el es rows) (by simp)) (hok.slot t _ (hs (t,.t (.c (.own n rows.length))) (by simp)))) h2.hes (h2.src fun _ _ h=>DR.flat h) hb
 exact ⟨v,w', p,r1,r2.cr (if_pos rfl) cU,r2.lrD (if_pos rfl),r⟩
theorem Op.eqNilO {d t len:Nat} {y:Operand} {yt:TypeId} {pos af gd} (hu:P.underlying xt=some (.slice el)) (hn:0<len) (h':OV y (.t (.c (.d (.raw zam)))) rs') :
  zbe P ⟨some d,.binOp .eql xt (.tmp t) y yt,ty,pos,af,gd⟩ { rs:=(t,.t (.c (.own n len))) :: rs', ws:=[(d,some (vb false))] } :=
 zbe.value d _ rfl rfl rfl fun e f H B a w hok hr2=>by
  have h1:=hok.slot t _ (hr2.1 (t,.t (.c (.own n len))) (by simp))
  have h2:a.eval y=zam:=(h'.eval hok fun p hp=>hr2.1 p (by simp [hp])).rawI
  have h3:CR H B (.own n len) (a.eval (.tmp t)):=h1
  generalize hv0:a.eval (.tmp t)=v at h3
  simp only [CR] at h3
  cases hB:B n with
  | none=>rw [hB] at h3;omega
  | some q =>
   obtain ⟨b,c⟩:=q
   rw [hB] at h3
   subst h3
   refine ⟨.bool false,?_,DR.raw _ rfl⟩
   generalize a.eval=ρ at hv0 h2 ⊢
   have:=run_eqNil (P:=P) hu (some ⟨b,0,none⟩) len c (.tmp t) y w
   simp only [Sem.run_bind] at this
   simp only [execOp,hv0,h2,Sem.run_bind,this,Result.andThen_ok,Sem.run_pure]
   rfl
end
theorem SCloneO (xs:List za4) (hn:0<xs.length) (hl:xs.length<=1000000000000):Fn eA 84 [(9,.row 124 3 (xs.map eK))] [vO 9 xs.length] (vO 0 xs.length) [(9,.row 124 3 (xs.map eK)),(0,.row 124 3 (xs.map eK))]:=by
 refine fB Tryz.func84 rfl 8 fun w H B a h=>Jq 10 [] [(0,vO 9 xs.length),(2,vW zam)] [(9,.row 124 3 (xs.map eK))] h fun a w h=>qW (Je 10 [(1,.g (Op.eqNilO (d:=4) (t:=3) (n:=9) (len:=xs.length) (xt:=24) (yt:=24) zcl.hu hn (OV.const zam rfl)))] [] [(4,vb false)] h fun a w h=>zau h (qU (za1 (Jg 10 [(0,.g (Op.buildE (d:=5) (n:=10) tb_9)),(2,.g (Op.appOO (d:=7) (t:=5) (u:=6) (n:=10) (sn:=9) (n':=11) (len:=0) (len2:=xs.length) (len':=xs.length) (rows:=[].map eK) (rows2:=xs.map eK) (rows':=xs.map eK) zld (by first | exact (bE _).symm | simp) (by first | exact (bE _).symm | simp) (by first | (rw [cU,bE];done) | simp) (by simp) (by first | omega | (simp at *;done) | (simp at *;omega))))] [0,4] [(2,vO 11 xs.length)] [] [(11,.row 124 3 (xs.map eK))] h fun a w h=>qV ?_))))
 replace h:=zd7 11 0 h;refine rT (.c (.own 0 xs.length)) h rfl ?_;rfl
theorem SPlainW0 (t:zaf) (ht:PsOk 40000 t.parts) (hk:Lb t.k.abs) (lk:t.k.abs.length<=40000) (hn:0<t.parts.length):Fn eA 52 [(9,.row 124 3 (t.parts.map eK))] [vG ([.own 9 t.parts.length]++zi t.k)] (vd (za2 t).d) [(9,.row 124 3 (t.parts.map eK))]:=by
 have ln:=ht.1;refine fB Tryz.func52 rfl 74 fun w H B a h=>Jq 10 [] [(1,vp 10 0),(2,vp 11 0)] [(9,.row 124 3 (t.parts.map eK)),(10,.box ([.own 9 t.parts.length]++zi t.k)),(11,.box zT0)] h fun a w h=>Jg 12 [(2,.call (SCloneO t.parts hn (by omega)))] [] [(3,vO 0 t.parts.length)] [] [(0,.row 124 3 (t.parts.map eK))] h fun a w h=>Jg 12 [(1,.call (zj0 t.parts (by omega)))] [] [] [] [(0,.row 124 3 ((ssV za4.v t.parts).map eK))] h fun a w h=>?_
 obtain ⟨r3,er3,vr3,or3,lr3⟩:=mkZ (v:=t.k.val) (m:=t.k.abs.length) (zdd hk);refine Jg 12 [(2,.call (eB (zg6 t.k hk (by omega)) (yJ vz er3.symm)))] [1] [(4,vp 12 0)] [10] [(12,.box ([nCl]++zi r3))] h fun a w h=>qW ?_;replace h:=zjj 12 0 13 3 124 ([nCl]++zi r3) h;refine Je 14 [] [3] [(17,vO 0 t.parts.length),(18,vN t.parts.length),(19,vI 0)] h fun a w h=>qZ ?_
 refine zbw (ι:=(Nat) × (List za4)) (fun (j,out)=>out=(zii ((ssV za4.v t.parts).take j))/\j<=(ssV za4.v t.parts).length/\out.length<=j/\MOk 40000 j out)
   [] (fun (j,out)=>[(19,vN j)])
   [] (fun (j,out)=>[(12,.box ([.own 13 out.length]++zi r3)),(13,.row 124 3 (out.map eK))])
   (fun (j,out)=>(ssV za4.v t.parts).length - j) (0,[]) ?_ h ?_
 ·exact ⟨by simp [zii],bC _,bC _,fun q hq=>(by cases hq)⟩
 clear h;rintro ⟨j,out⟩ a w hI h;dsimp only at h;obtain ⟨hI1,hI2,hI3,hI4⟩:=hI;have ln:=ht.1;have ls:(ssV za4.v t.parts).length=t.parts.length:=zb7 _;refine Je 14 [] [] [(20,vb (decide ((j:Int)<(t.parts.length:Int))))] h fun a w h=>qW (zad ((j:Int)<(t.parts.length:Int)) h (fun hc1 hc1'=>?_) (fun hc6 hc6'=>?_))
 ·refine qU (za1 (qW (qZ ?_)));obtain ⟨x4,hx4⟩:=gl (ssV za4.v t.parts) j;obtain ⟨ox4,lx4⟩:=ht.get_mem (zdl (lM hx4));refine Jg 14 [(0,.g (xO 21 17 0 t.parts.length j zcl (eC 19 _))),(1,.g (Op.loadR_agg (d:=22) (t:=21) (n:=0) (i:=j) (fo:=0) (rty:=124) (es:=3) (xs:=[.raw (.int .i64 x4.v),.raw (.bool x4.c.neg),nsl x4.c.abs]) zhw rfl (za7 hx4 (f:=eK)) rfl rfl))] [20] [(6,vp 14 0)] [] [(14,.box ([cI x4.v]++zi x4.c))] h fun a w h=>qW (Je 15 [] [] [(25,vb (decide (x4.v<0)))] h fun a w h=>zad (x4.v<0) h (fun hc2 hc2'=>?_) (fun hc3 hc3'=>?_))
  ·refine wp_exit (zcb (zaz (za1 (Jh 15 [(0,.j1 j)] [6,25] [(19,vI ((j:Int)+1))] [14] [] h fun a w h=>za1 ?_))));have hst:(zii ((ssV za4.v t.parts).take (j+1)))=zb8 out x4:=by rw [hI1,show ((ssV za4.v t.parts).take (j+1):List za4)=(ssV za4.v t.parts).take j++[x4] from by rw [bW,hx4];rfl,zch]
   have hst2:=mrg_neg (out:=out) hc2';refine zaa (x:=(j,out)) (y:=((j+1),out)) h ?_ ?_
   ·exact ⟨by rw [hst,hst2],(by have:=zab hx4;omega),by omega,by have hh:=hI4.step (ht.get_mem (zdl (lM hx4)));rw [hst2] at hh;exact hh⟩
   show (ssV za4.v t.parts).length - (j+1)<(ssV za4.v t.parts).length - j;have:=zab hx4;omega
  refine qU (za1 ?_)
  rcases dD out.length with hz | hz
  ·refine Je 15 [(3,.g (Op.arith (op:=.sub) (d:=29) (xt:=3) (yt:=3) (k:=.i64) (m:=(out.length:Int)) (n:=1) (r:=(-1)) (eC 28 _) (OV.const (.int .i64 1) rfl) (.inr (.inl ⟨rfl,(by omega)⟩)) i6))] [25] [(7,vI (-1))] h fun a w h=>Je 15 [(1,.cmp (op:=.geq) (m:=(-1)) (n:=0) (b:=false) .i64 rfl)] [] [(42,vb false)] h fun a w h=>zau h ?_;obtain ⟨r5,er5,vr5,or5,lr5⟩:=mkZ (v:=x4.c.val) (m:=x4.c.abs.length) (zdd ox4);refine Jh 15 [(6,.call (eB (zg6 x4.c ox4 (by omega)) (yJ vz er5.symm))),(8,.g (bD 65 ([(za4.mk x4.v r5)].map eK) [(64,vG ([cI x4.v]++zi r5))] tb_9 (.cons (i:=0) (eC 64 _) (.nil)) (by kernel_rfl) (by simp [eK]))),(9,.g (aD 66 58 65 13 15 out [(za4.mk x4.v r5)] eK zld (by simp [eK])))] [6,7,42] [] [13,14] [(12,.box ([.own 15 (out++[(za4.mk x4.v r5)]).length]++zi r3)),(15,.row 124 3 ((out++[(za4.mk x4.v r5)]).map eK))] h fun a w h=>za6 (za1 (Jf 16 [(0,.j1 j)] [] [(19,vI ((j:Int)+1))] h fun a w h=>za1 ?_));have hst:(zii ((ssV za4.v t.parts).take (j+1)))=zb8 out x4:=by rw [hI1,show ((ssV za4.v t.parts).take (j+1):List za4)=(ssV za4.v t.parts).take j++[x4] from by rw [bW,hx4];rfl,zch]
   have hst2:=mrg_nil hc3' hz;replace h:=zd7 15 13 h;refine zaa (x:=(j,out)) (y:=((j+1),(out++[(za4.mk x4.v r5)]))) h ?_ ?_
   ·have hnew:(out++[(za4.mk x4.v r5)])=zb8 out x4:=by rw [hst2,er5]
    exact ⟨by rw [hst];exact hnew,(by have:=zab hx4;omega),by rw [cU];simp only [dN,List.length_nil];omega,by rw [hnew];exact hI4.step (ht.get_mem (zdl (lM hx4)))⟩
   show (ssV za4.v t.parts).length - (j+1)<(ssV za4.v t.parts).length - j;have:=zab hx4;omega
  obtain ⟨k,hk1⟩:∃ k,out.length=k+1:=⟨out.length - 1,by omega⟩;refine Je 16 [(3,.g (Op.arith (op:=.sub) (d:=29) (xt:=3) (yt:=3) (k:=.i64) (m:=(out.length:Int)) (n:=1) (r:=(k:Int)) (eC 28 _) (OV.const (.int .i64 1) rfl) (.inr (.inl ⟨rfl,(by omega)⟩)) i6))] [25] [(7,vN k)] h fun a w h=>?_;obtain ⟨x6,hx6⟩:=gl out k;obtain ⟨ox6,lx6⟩:=hI4.lb (lM hx6) (by omega);refine Je 16 [(1,.cmp (op:=.geq) (m:=(k:Int)) (n:=0) (b:=true) .i64 (show decide ((k:Int)>=0)=true from yQ (by omega))),(6,.g (xO 36 34 13 out.length k zcl (eC 35 _))),(8,.g (Op.loadR_c (d:=38) (t:=37) (n:=13) (i:=k) (fo:=0) (rty:=124) (es:=3) (x:=(.raw (.int .i64 x6.v))) tl_7 rfl (za7 hx6 (f:=eK)) rfl))] [] [(42,vb (x6.v == x4.v))] h fun a w h=>cS (x6.v == x4.v) h (fun hc4=>?_) (fun hc5=>?_)
  ·obtain ⟨r7,er7,vr7,or7,lr7⟩:=mkZ (v:=x6.c.val+x4.c.val) (m:=x6.c.abs.length+x4.c.abs.length+1) (zep ox6 ox4);refine Jh 16 [(6,.g (xO 49 47 13 out.length k zcl (eC 48 _))),(8,.g (Op.loadR_agg (d:=51) (t:=50) (n:=13) (i:=k) (fo:=1) (rty:=124) (es:=3) (xs:=[.raw (.bool x6.c.neg),nsl x6.c.abs]) zet rfl (za7 hx6 (f:=eK)) rfl rfl)),(11,.call (eB (SAdd x6.c x4.c ox6 ox4 (by omega) (by omega)) (yJ vz er7.symm))),(12,.g (xO 55 44 13 out.length k zcl (eC 45 _))),(14,.g (Op.storeR (t:=56) (n:=13) (i:=k) (fo:=1) (rty:=124) (es:=3) (r:=eK x6) (ds:=[.raw (.bool r7.neg),nsl r7.abs]) (rs:=[(54,vz r7)]) (rows:=out.map eK) (rows':=(out.set k (za4.mk x6.v r7)).map eK) zet (eC 54 _) rfl rfl rfl (za7 hx6 (f:=eK)) (by simp [eK]) (zc0 (xs:=out) (F:=eK) k _ _ rfl)))] [6,7,42] [] [14] [(13,.row 124 3 ((out.set k (za4.mk x6.v r7)).map eK))] h fun a w h=>za6 (za1 (Jf 16 [(0,.j1 j)] [] [(19,vI ((j:Int)+1))] h fun a w h=>za1 ?_));have hst:(zii ((ssV za4.v t.parts).take (j+1)))=zb8 out x4:=by rw [hI1,show ((ssV za4.v t.parts).take (j+1):List za4)=(ssV za4.v t.parts).take j++[x4] from by rw [bW,hx4];rfl,zch]
   replace h:=cvM [] [] [] [(12,.box ([.own 13 (out.set k (za4.mk x6.v r7)).length]++zi r3))] (by rw [List.length_set]; try kernel_rfl) h;have hst2:=zjk hc3' hk1 hx6 (by simpa using hc4);refine zaa (x:=(j,out)) (y:=((j+1),(out.set k (za4.mk x6.v r7)))) h ?_ ?_
   ·have hnew:(out.set k (za4.mk x6.v r7))=zb8 out x4:=by rw [hst2,er7]
    exact ⟨by rw [hst];exact hnew,(by have:=zab hx4;omega),by rw [List.length_set];omega,by rw [hnew];exact hI4.step (ht.get_mem (zdl (lM hx4)))⟩
   show (ssV za4.v t.parts).length - (j+1)<(ssV za4.v t.parts).length - j;have:=zab hx4;omega
  obtain ⟨r8,er8,vr8,or8,lr8⟩:=mkZ (v:=x4.c.val) (m:=x4.c.abs.length) (zdd ox4);refine Jh 16 [(6,.call (eB (zg6 x4.c ox4 (by omega)) (yJ vz er8.symm))),(8,.g (bD 65 ([(za4.mk x4.v r8)].map eK) [(64,vG ([cI x4.v]++zi r8))] tb_9 (.cons (i:=0) (eC 64 _) (.nil)) (by kernel_rfl) (by simp [eK]))),(9,.g (aD 66 58 65 13 16 out [(za4.mk x4.v r8)] eK zld (by simp [eK])))] [6,7,42] [] [13,14] [(12,.box ([.own 16 (out++[(za4.mk x4.v r8)]).length]++zi r3)),(16,.row 124 3 ((out++[(za4.mk x4.v r8)]).map eK))] h fun a w h=>za6 (za1 (Jf 17 [(0,.j1 j)] [] [(19,vI ((j:Int)+1))] h fun a w h=>za1 ?_));have hst:(zii ((ssV za4.v t.parts).take (j+1)))=zb8 out x4:=by rw [hI1,show ((ssV za4.v t.parts).take (j+1):List za4)=(ssV za4.v t.parts).take j++[x4] from by rw [bW,hx4];rfl,zch]
  have hst2:=mrg_new hc3' hk1 hx6 (by simpa using hc5);replace h:=zd7 16 13 h;refine zaa (x:=(j,out)) (y:=((j+1),(out++[(za4.mk x4.v r8)]))) h ?_ ?_
  ·have hnew:(out++[(za4.mk x4.v r8)])=zb8 out x4:=by rw [hst2,er8]
   exact ⟨by rw [hst];exact hnew,(by have:=zab hx4;omega),by rw [cU];simp only [dN,List.length_nil];omega,by rw [hnew];exact hI4.step (ht.get_mem (zdl (lM hx4)))⟩
  show (ssV za4.v t.parts).length - (j+1)<(ssV za4.v t.parts).length - j;have:=zab hx4;omega
 refine exA ?_;replace h:=atS (sl':=[(2,vp 11 0),(4,vp 12 0)]) (lc':=[(9,.row 124 3 (t.parts.map eK)),(11,.box zT0),(12,.box ([.own 13 out.length]++zi r3)),(13,.row 124 3 (out.map eK))]) h;replace h:=zd7 13 0 h;refine Jg 17 [(2,.call (SDeleteFZ isZ out (fun p hp=>SPlain2 p (hI4.lb hp (by omega)).1 (by have:=(hI4.lb hp (by omega)).2;omega)) (by omega)))] [] [] [] [(12,.box ([.own 0 (out.filter (fun p=>!isZ p)).length]++zi r3)),(0,.row 124 3 ((out.filter (fun p=>!isZ p)).map eK))] h fun a w h=>Jg 17 [] [4] [] [12] [(11,.box ([.own 0 (out.filter (fun p=>!isZ p)).length]++zi r3))] h fun a w h=>qV ?_;replace h:=pubKX 0 3 124 ((out.filter (fun p=>!isZ p)).map eK) h [(out.filter (fun p=>!isZ p)).length] ⟨by first | exact (bE _).symm | simp,trivial⟩;refine rA 11 ([cPs (out.filter (fun p=>!isZ p))]++zi r3) h zh7 rfl ?_;have hj:j=(ssV za4.v t.parts).length:=by omega
 subst hj;rw [hI1,cF,plain_law,er3];try rfl
theorem SPlainW (t:zaf) {L:Nat} (h:TOk n L t) (hn:n<=1000000000) (hL:L<=40000) (hp:0<t.parts.length):Fn eA 52 [(9,.row 124 3 (t.parts.map eK))] [vG ([.own 9 t.parts.length]++zi t.k)] (vd (za2 t).d) [(9,.row 124 3 (t.parts.map eK))] :=
 have h':=h.mono hn hL
 SPlainW0 t h'.psok h'.kb h'.kl hp
theorem SContentW (t:zaf) {L:Nat} (ht:TOk n L t) (hn:n<=1000000000) (hL:L<=20000) (hp:0<t.parts.length):Fn eA 125 [(9,.row 124 3 (t.parts.map eK))] [vG ([.own 9 t.parts.length]++zi t.k)] (vz (eI (zcc (za2 t).parts))) [(9,.row 124 3 (t.parts.map eK))]:=by
 refine fB Tryz.func125 rfl 21 fun w H B a h=>Jq 10 [] [(1,vp 10 0),(2,vp 11 0)] [(9,.row 124 3 (t.parts.map eK)),(10,.box ([.own 9 t.parts.length]++zi t.k)),(11,.box [cB false,.d (nsl [])])] h fun a w h=>Jg 12 [] [] [(3,vp 12 0)] [] [(12,.box [cB false,.d (nsl [])])] h fun a w h=>qW (Jg 13 [(1,.call (SPlainW t ht hn (by omega) hp)),(3,.len (za3 3 eK ((za2 t).parts)))] [1] [(9,(vPs (za2 t).parts)),(10,vI ((za2 t).parts.length:Int)),(11,vI 0)] [10] [] h fun a w h=>qZ ?_)
 refine zbw (ι:=(Nat) × (ZI)) (fun (j,out)=>out=eI (zcc ((za2 t).parts.take j))/\j<=(za2 t).parts.length)
   [] (fun (j,out)=>[(11,vN j)])
   [] (fun (j,out)=>[(12,.box (zi out))])
   (fun (j,out)=>(za2 t).parts.length - j) (0,(eI 0)) ?_ h ?_
 ·exact ⟨by simp [zcc],bC _⟩
 clear h;rintro ⟨j,out⟩ a w hI h;dsimp only at h;obtain ⟨hI1,hI2⟩:=hI;have lpp:=(ht.plain hn).len;have lvv:(ze7 t.parts).length=(za2 t).parts.length:=(bE _).symm;have lo:out.abs.length<=L+1:=by rw [hI1];exact con_len ht hn j
 have ho:Lb out.abs:=by rw [hI1];exact eG _
 have vo:out.val=zcc ((za2 t).parts.take j):=by rw [hI1];exact eJ _
 refine Je 13 [] [] [(12,vb (decide ((j:Int)<((za2 t).parts.length:Int))))] h fun a w h=>qW (zad ((j:Int)<((za2 t).parts.length:Int)) h (fun hc1 hc1'=>?_) (fun hc2 hc2'=>?_))
 ·refine qU (za1 (qW (qZ ?_)));obtain ⟨x2,hx2⟩:=gl ((za2 t).parts) j;obtain ⟨ox2,lx2⟩:=(ht.plain hn).get hx2;refine Jg 13 [(0,.g (xD 13 9 zcl (za7 hx2 (f:=eK)) (eC 11 _)))] [12] [(5,vp 13 0)] [] [(13,.box ([cI x2.v]++zi x2.c))] h fun a w h=>?_;obtain ⟨r3,er3,vr3,or3,lr3⟩:=mkZ (v:=(bF out.val.natAbs x2.c.val.natAbs:Int)) (m:=out.abs.length+x2.c.abs.length) (len_gcd ho ox2);refine Jh 14 [(3,.call (eB (SGcd out x2.c ho ox2 (by omega) (by omega)) (yJ vz er3.symm)))] [5] [] [13] [(12,.box (zi r3))] h fun a w h=>za6 (za1 (Jf 14 [(0,.j1 j)] [] [(11,vI ((j:Int)+1))] h fun a w h=>za1 (zaa (x:=(j,out)) (y:=((j+1),r3)) h ?_ ?_)))
  ·have:=zab hx2;exact ⟨by rw [er3,vo,con_take hx2],by omega⟩
  show (za2 t).parts.length - (j+1)<(za2 t).parts.length - j;have:=zab hx2;omega
 refine exA (Jg 14 [] [3,9,10,11,12] [] [12] [(11,.box (zi out))] h fun a w h=>qV (rA 11 (zi out) h zet rfl ?_));have hj:j=(za2 t).parts.length:=by omega
 subst hj;rw [hI1,cF];try rfl
def zi5 (g:Int) (p:za4):za4:=⟨p.v,eI (p.c.val.fdiv g)⟩
def zct (t:zaf):zaf:=if zcc (za2 t).parts=0 then za2 t else ⟨(za2 t).parts.map (zi5 (zcc (za2 t).parts)),eI (t.k.val.fdiv (zcc (za2 t).parts))⟩
theorem ziw (ps:List za4):∀ p ∈ ps,zcc ps∣p.c.val:=by
 have key:∀ (ps:List za4) (g:Int),(ps.foldl (fun g p=>(bF g.natAbs p.c.val.natAbs:Int)) g)∣g/\∀ p ∈ ps,(ps.foldl (fun g p=>(bF g.natAbs p.c.val.natAbs:Int)) g)∣p.c.val:=by
  intro ps
  induction ps with
  | nil=>intro g;exact ⟨Int.dvd_refl g,fun p hp=>by cases hp⟩
  | cons p ps ih =>
   intro g
   obtain ⟨h1,h2⟩:=ih ((bF g.natAbs p.c.val.natAbs:Int))
   rw [List.foldl_cons]
   have d1:((bF g.natAbs p.c.val.natAbs:Nat):Int)∣g:=Int.ofNat_dvd_left.2 (Nat.gcd_dvd_left _ _)
   have d2:((bF g.natAbs p.c.val.natAbs:Nat):Int)∣p.c.val:=Int.ofNat_dvd_left.2 (Nat.gcd_dvd_right _ _)
   refine ⟨Int.dvd_trans h1 d1,fun q hq=>?_⟩
   rcases cT.1 hq with rfl | hq
   ·exact Int.dvd_trans h1 d2
   ·exact h2 q hq
 exact (key ps 0).2
theorem con_ne (h:0<(za2 t).parts.length):zcc (za2 t).parts≠0:=fun e=>by
 obtain ⟨p,hp⟩:∃ p,p ∈ (za2 t).parts:=⟨_,List.getElem_mem h⟩
 have h1:=ziw _ p hp
 rw [e] at h1
 exact ((zay t).2.1 p hp).2.2 (Int.zero_dvd.1 h1)
theorem con_nil (h:(za2 t).parts.length=0):zcc (za2 t).parts=0:=by rw [cC.1 h];rfl
theorem zgd (t:zaf):zcc (za2 (za2 t)).parts=zcc (za2 t).parts:=by rw [zby]
theorem fmod_of_dvd (h:b∣a):a.fmod b=0:=by obtain ⟨c,rfl⟩:=h;exact Int.mul_fmod_right b c
theorem SShrink (t:zaf) {L:Nat} (ht:TOk n L t) (hn:n<=1000000000) (hL:L<=10000):Fn eA 123 [] [(vT t)] (.tup [.agg ((zct t).d.map C.d),.agg (zi (eI (zcc (za2 t).parts)))]) []:=by
 have lnp:=(ht.plain hn).len;have lkp:=(ht.plain hn).kl;refine fB Tryz.func123 rfl 49 fun w H B a h=>Jq 12 [] [(1,vp 12 0),(2,vp 13 0),(3,vp 14 0)] [(12,.box (zT t)),(13,.box zT0),(14,.box [cB false,.d (nsl [])])] h fun a w h=>Jg 15 [(1,.call (SPlainO t ht (by omega) (by omega)))] [1] [(4,vp 15 0)] [12] [(0,.row 124 3 ((za2 t).parts.map eK)),(15,.box ([.own 0 (za2 t).parts.length]++zi (za2 t).k))] h fun a w h=>?_
 replace h:=zd7 0 9 h
 rcases dD (za2 t).parts.length with hz | hz
 ·have hg0:=con_nil hz;replace h:=zj2 9 3 124 ((za2 t).parts.map eK) h [(za2 t).parts.length] ⟨by first | exact (bE _).symm | simp,trivial⟩;obtain ⟨r2,er2,vr2,or2,lr2⟩:=mkZ (v:=(zcc (za2 t).parts)) (m:=L+1) (by have:=con_len ht hn (za2 t).parts.length;rw [cF] at this;exact this);have hvG9:=vr2;refine Jg 16 [(1,.call (eB (SContent (za2 t) (ht.plain hn) hn (by omega)) (show vz (eI (zcc (za2 (za2 t)).parts))=vz r2 from by rw [zgd,er2])))] [] [(5,vp 16 0)] [] [(16,.box (zi r2))] h fun a w h=>qW (Je 17 [(1,.call (eB (zkz r2 or2 (by omega)) (yJ (vi .i64) (zev (by rw [vr2];exact hg0))))),(2,.cmp (op:=.eql) (m:=0) (n:=0) (b:=true) .i64 rfl)] [] [(14,vb true)] h fun a w h=>cS true h (fun _=>?_) nofun);refine Jg 17 [] [14] [] [] [(13,.box (zT (za2 t))),(14,.box (zi r2))] h fun a w h=>qV (za5 (zfj [.agg (zT (za2 t)),.agg (zi r2)] h Exit.ret (.inl rfl)  rfl ⟨eE _ 13 0 _ _ _ _ zh7 rfl rfl rfl rfl,eE _ 14 0 _ _ _ _ zet rfl rfl rfl rfl,trivial⟩ ?_));rw [show zct t=za2 t from if_pos hg0,er2];try rfl
 have hg0:=con_ne hz;obtain ⟨r4,er4,vr4,or4,lr4⟩:=mkZ (v:=(zcc (za2 t).parts)) (m:=L+1) (by have:=con_len ht hn (za2 t).parts.length;rw [cF] at this;exact this);have hvG9:=vr4;refine Jg 17 [(1,.call (eB (SContentW (za2 t) (ht.plain hn) hn (by omega) hz) (show vz (eI (zcc (za2 (za2 t)).parts))=vz r4 from by rw [zgd,er4])))] [] [(5,vp 17 0)] [] [(17,.box (zi r4))] h fun a w h=>qW (Je 18 [(1,.call (zkz r4 or4 (by omega))),(2,.cmp (op:=.eql) (m:=(sgn r4.val)) (n:=0) (b:=false) .i64 (by rw [vr4];exact beq_eq_false_iff_ne.2 (fun e=>hg0 (sgn_eq0.1 e))))] [] [(14,vb false)] h fun a w h=>zau h (qU (za1 (qW (Je 18 [] [14] [(18,vO 9 (za2 t).parts.length),(19,vI ((za2 t).parts.length:Int)),(20,vI 0)] h fun a w h=>qZ ?_)))));replace h:=cvM [] [] [] [(9,.row 124 3 ((((za2 t).parts.take 0).map (zi5 (zcc (za2 t).parts))++(za2 t).parts.drop 0).map eK))] (by rw [<- show ((za2 t).parts:List za4)=(((za2 t).parts.take 0).map (zi5 (zcc (za2 t).parts))++(za2 t).parts.drop 0) from by simp]; try kernel_rfl) h
 refine zbw (ι:=(Nat)) (fun j=>j<=(za2 t).parts.length)
   [] (fun j=>[(20,vN j)])
   [] (fun j=>[(9,.row 124 3 ((((za2 t).parts.take j).map (zi5 (zcc (za2 t).parts))++(za2 t).parts.drop j).map eK))])
   (fun j=>(za2 t).parts.length - j) 0 ?_ h ?_
 ·exact bC _
 clear h;rintro j a w hI h;have hrl:(((za2 t).parts.take j).map (zi5 (zcc (za2 t).parts))++(za2 t).parts.drop j).length=(za2 t).parts.length:=by rw [cU,bE,b5,List.length_drop];omega
 refine Je 18 [] [] [(21,vb (decide ((j:Int)<((za2 t).parts.length:Int))))] h fun a w h=>qW (zad ((j:Int)<((za2 t).parts.length:Int)) h (fun hc1 hc1'=>?_) (fun hc2 hc2'=>?_))
 ·refine qU (za1 (qW (qZ ?_)));obtain ⟨x,hx⟩:∃ z_:za4,(za2 t).parts[j]?=some z_:=⟨_,d7 (by omega)⟩;obtain ⟨ox,lx⟩:=(ht.plain hn).get hx;refine Jg 18 [(1,.g (xO 23 18 9 (za2 t).parts.length j zcl (eC 20 _))),(2,.g (Op.loadR_agg (d:=24) (t:=23) (n:=9) (i:=j) (fo:=0) (rty:=124) (es:=3) (xs:=[.raw (.int .i64 x.v),.raw (.bool x.c.neg),nsl x.c.abs]) zhw rfl (za7 (show ((((za2 t).parts.take j).map (zi5 (zcc (za2 t).parts))++(za2 t).parts.drop j):List za4)[j]?=some x from mov_at hx) (f:=eK)) rfl rfl))] [21] [(6,vN j),(7,vp 18 0)] [] [(18,.box ([cI x.v]++zi x.c))] h fun a w h=>?_;obtain ⟨r6,er6,vr6,or6,lr6⟩:=mkZ (v:=x.c.val.fdiv r4.val) (m:=x.c.abs.length) (zlz ox (by rw [hvG9];exact hg0));refine Jh 19 [(6,.call (eB (SExact x.c r4 ox or4 (by omega) (by omega) (by rw [hvG9];exact hg0) (by rw [hvG9];exact fmod_of_dvd (ziw _ x (lM hx)))) (show _=(.tup [.agg (zi r6),.c (cI 0)]:V) by rw [er6];try rfl))),(10,.g (xO 35 27 9 (za2 t).parts.length j zcl (eC 28 _))),(12,.g (Op.storeR (t:=36) (n:=9) (i:=j) (fo:=1) (rty:=124) (es:=3) (r:=eK x) (ds:=[.raw (.bool r6.neg),nsl r6.abs]) (rs:=[(33,vz r6)]) (rows:=(((za2 t).parts.take j).map (zi5 (zcc (za2 t).parts))++(za2 t).parts.drop j).map eK) (rows':=((((za2 t).parts.take j).map (zi5 (zcc (za2 t).parts))++(za2 t).parts.drop j).set j (za4.mk x.v r6)).map eK) zet (eC 33 _) rfl rfl rfl (za7 (show ((((za2 t).parts.take j).map (zi5 (zcc (za2 t).parts))++(za2 t).parts.drop j):List za4)[j]?=some x from mov_at hx) (f:=eK)) (by simp [eK]) (zc0 (xs:=(((za2 t).parts.take j).map (zi5 (zcc (za2 t).parts))++(za2 t).parts.drop j)) (F:=eK) j _ _ rfl)))] [6,7] [] [18] [(9,.row 124 3 (((((za2 t).parts.take j).map (zi5 (zcc (za2 t).parts))++(za2 t).parts.drop j).set j (za4.mk x.v r6)).map eK))] h fun a w h=>za6 (za1 (Jf 19 [(0,.j1 j)] [] [(20,vI ((j:Int)+1))] h fun a w h=>za1 ?_));have hdx:za4.mk x.v r6=zi5 (zcc (za2 t).parts) x:=by rw [er6,hvG9];rfl
  rw [show (((((za2 t).parts.take j).map (zi5 (zcc (za2 t).parts))++(za2 t).parts.drop j).set j (za4.mk x.v r6)):List za4)=(((za2 t).parts.take (j+1)).map (zi5 (zcc (za2 t).parts))++(za2 t).parts.drop (j+1)) from by rw [hdx];exact mov_set hx] at h;refine zaa (x:=j) (y:=(j+1)) h ?_ ?_
  ·have:=zab hx;omega
  show (za2 t).parts.length - (j+1)<(za2 t).parts.length - j;have:=zab hx;omega
 refine exA ?_;obtain ⟨r7q,er7q,vr7q,or7q,lr7q⟩:=mkZ (v:=(za2 t).k.val.fdiv r4.val) (m:=(za2 t).k.abs.length) (zlz (ht.plain hn).kb (by rw [hvG9];exact hg0));obtain ⟨r7r,er7r,vr7r,or7r,lr7r⟩:=mkZ (v:=(za2 t).k.val.fmod r4.val) (m:=r4.abs.length) (len_fmod or4 (by rw [hvG9];exact hg0));refine Jg 19 [(3,.call (eB (SDiv (za2 t).k r4 (ht.plain hn).kb or4 (by omega) (by omega) (by rw [hvG9];exact hg0)) (show _=(.tup [.agg (zi r7q),.agg (zi r7r),.c (cI 0)]:V) by rw [er7q,er7r];try rfl)))] [18,19,20,21] [] [] [(15,.box ([.own 9 (za2 t).parts.length]++zi r7q))] h fun a w h=>?_;rw [show ((((za2 t).parts.take j).map (zi5 (zcc (za2 t).parts))++(za2 t).parts.drop j):List za4)=((za2 t).parts.map (zi5 (zcc (za2 t).parts))) from by rw [show j=(za2 t).parts.length by omega,cF,List.drop_length,b9]] at h;replace h:=h.conv (f':=F.of [(2,vp 13 0),(3,vp 14 0),(4,vp 15 0),(5,vp 17 0)] [(13,.box zT0),(14,.box [cB false,.d (nsl [])]),(15,.box ([.own 9 ((za2 t).parts.map (zi5 (zcc (za2 t).parts))).length]++zi r7q)),(9,.row 124 3 (((za2 t).parts.map (zi5 (zcc (za2 t).parts))).map eK)),(17,.box (zi r4))]) (by rw [show ((za2 t).parts.map (zi5 (zcc (za2 t).parts))).length=(za2 t).parts.length from bE _]; try kernel_rfl);replace h:=zj2 9 3 124 (((za2 t).parts.map (zi5 (zcc (za2 t).parts))).map eK) h [((za2 t).parts.map (zi5 (zcc (za2 t).parts))).length] ⟨by first | exact (bE _).symm | simp,trivial⟩;refine Jg 19 [] [4,5] [] [15,17] [(13,.box ([cPs ((za2 t).parts.map (zi5 (zcc (za2 t).parts)))]++zi r7q)),(14,.box (zi r4))] h fun a w h=>qV (zfj [.agg ([cPs ((za2 t).parts.map (zi5 (zcc (za2 t).parts)))]++zi r7q),.agg (zi r4)] h Exit.ret (.inl rfl)  rfl ⟨eE _ 13 0 _ _ _ _ zh7 rfl rfl rfl rfl,eE _ 14 0 _ _ _ _ zet rfl rfl rfl rfl,trivial⟩ ?_);have hs:zct t=⟨(za2 t).parts.map (zi5 (zcc (za2 t).parts)),r7q⟩:=by unfold zct;rw [if_neg hg0,er7q,hvG9,show (za2 t).k.val=t.k.val from eJ _]
 rw [hs,er4];try rfl
theorem tx_6:zbt eA 201:=zbt.mk' (by kernel_rfl)
def orZ:List Int->Int
  | []=>0
  | x :: xs=>if x≠0 then x else orZ xs
theorem orZ_at {xs:List Int} {x:Int} (h:xs[j]?=some x):orZ (xs.drop j)=if x≠0 then x else orZ (xs.drop (j+1)):=by
 obtain ⟨hj,rfl⟩:=bL.1 h
 rw [bS hj];rfl
def cmpP (p q:za4):Int:=orZ [zbo p.v q.v,zbo p.c.val q.c.val]
def zhl:List za4->List za4->Int
  | [],[]=>0
  | [],_ :: _=>-1
  | _ :: _,[]=>1
  | p :: ps,q :: qs=>if cmpP p q≠0 then cmpP p q else zhl ps qs
def cmpT (s t:zaf):Int:=orZ [zhl (za2 s).parts (za2 t).parts,zbo (za2 s).k.val (za2 t).k.val]
theorem cps_at {xs ys:List za4} {p q:za4} (h:xs[j]?=some p) (k:ys[j]?=some q):zhl (xs.drop j) (ys.drop j)=if cmpP p q≠0 then cmpP p q else zhl (xs.drop (j+1)) (ys.drop (j+1)):=by
 obtain ⟨hj,rfl⟩:=bL.1 h
 obtain ⟨kj,rfl⟩:=bL.1 k
 rw [bS hj,bS kj];rfl
theorem cps_end {xs ys:List za4} (h:j<=xs.length) (k:j<=ys.length):(j=ys.length->j<xs.length->zhl (xs.drop j) (ys.drop j)=1)/\(j=xs.length->j<ys.length->zhl (xs.drop j) (ys.drop j)=-1)/\(j=xs.length->j=ys.length->zhl (xs.drop j) (ys.drop j)=0):=by
 refine ⟨fun h1 h2=>?_,fun h1 h2=>?_,fun h1 h2=>?_⟩
 ·rw [bS h2,bP (l:=ys) (by omega)];rfl
 ·rw [bS h2,bP (l:=xs) (by omega)];rfl
 ·rw [bP (l:=xs) (by omega),bP (l:=ys) (by omega)];rfl
theorem SOr (xs:List Int) (hl:xs.length<=1000000000000):Fn eA 174 [] [(vIs xs)] (vI (orZ xs)) []:=by
 refine fB Tryz.func174 rfl 18 fun w H B a h=>Jq 0 [] [(0,(vIs xs)),(2,vI 0)] [] h fun a w h=>Jg 0 [] [] [(3,vI 0)] [] [] h fun a w h=>qW (Jg 0 [(1,.len (za3 1 zal xs))] [0] [(6,(vIs xs)),(7,vN xs.length),(8,vI 0)] [] [] h fun a w h=>qZ ?_)
 refine zbw (ι:=(Nat)) (fun j=>j<=xs.length/\orZ xs=orZ (xs.drop j))
   [2] (fun j=>[(8,vN j)])
   [] (fun j=>[])
   (fun j=>xs.length - j) 0 ?_ h ?_
 ·exact ⟨bC _,rfl⟩
 clear h;rintro j a w hI h;obtain ⟨hI1,hI2⟩:=hI;refine Jg 0 [] [] [(9,vb (decide ((j:Int)<(xs.length:Int))))] [] [] h fun a w h=>qW (zad ((j:Int)<(xs.length:Int)) h (fun hc1 hc1'=>?_) (fun hc4 hc4'=>?_))
 ·refine qU (za1 (qW (qZ ?_)));obtain ⟨x1,hx1⟩:=gl xs j;refine Jg 0 [(0,.g (xD 10 6 zh0 (za7 hx1 (f:=zal)) (eC 8 _)))] [9] [(5,vI x1)] [] [] h fun a w h=>Jg 0 [] [] [(14,vb (x1 != 0))] [] [] h fun a w h=>cS (x1 != 0) h (fun hc2=>?_) (fun hc3=>?_)
  ·refine Jg 0 [] [5,14] [(2,vI x1)] [] [] h fun a w h=>qV (za8 (za5 (za5 (za8 (za5 (rT (.c (cI x1)) h rfl ?_))))));rw [hI2,orZ_at hx1,if_pos (by simpa using hc2)];try rfl
  refine qU (za6 (za1 (Jh 0 [(0,.j1 j)] [5,14] [(8,vI ((j:Int)+1))] [] [] h fun a w h=>za1 (zaa (x:=j) (y:=(j+1)) h ?_ ?_))))
  ·have:=zab hx1;exact ⟨by omega,by rw [hI2,orZ_at hx1,if_neg (by simpa using hc3)]⟩
  show xs.length - (j+1)<xs.length - j;have:=zab hx1;omega
 refine exA (Jq 0 [] [(2,vI 0)] [] h fun a w h=>qV (rT (.c (cI 0)) h rfl ?_));rw [hI2,bP (by omega)];try rfl
theorem SCmpP (p q:za4) (hp:Lb p.c.abs) (hq:Lb q.c.abs) (lp:p.c.abs.length<=49000) (lq:q.c.abs.length<=49000):Fn eA 201 [] [vG ([cI p.v]++zi p.c),vG ([cI q.v]++zi q.c)] (vI (cmpP p q)) []:=by
 refine fB Tryz.func201 rfl 17 fun w H B a h=>Jq 0 [] [(2,vp 0 0),(3,vp 1 0),(4,vI 0)] [(0,.box ([cI p.v]++zi p.c)),(1,.box ([cI q.v]++zi q.c))] h fun a w h=>Jq 2 [(4,.call (SCompare p.v q.v)),(9,.call (SCmp p.c q.c hp hq (by omega) (by omega))),(10,.g (Op.buildD (d:=15) (len:=2) (rows:=[zbo p.v q.v,(zbo p.c.val q.c.val)].map zal) (rs:=[(9,vI (zbo p.v q.v)),(14,vI (zbo p.c.val q.c.val))]) tb_0 (.cons (i:=0) (eC 9 _) (.cons (i:=1) (eC 14 _) (.nil))) (by kernel_rfl) rfl (by simp [zal]) (by decide) (by decide))),(11,.call (SOr [zbo p.v q.v,(zbo p.c.val q.c.val)] (show List.length _<=1000000000000 from by simp)))] [(4,vI (orZ [zbo p.v q.v,(zbo p.c.val q.c.val)]))] [] h fun a w h=>qV (rT (.c (cI (orZ [zbo p.v q.v,(zbo p.c.val q.c.val)]))) h rfl ?_)
 rfl
theorem SCompareF (xs ys:List za4) (hx:PsOk 40000 xs) (hy:PsOk 40000 ys):Fn eA 203 [] [(vPs xs),(vPs ys),.t (.c (.fn (.func 201) [] []))] (vI (zhl xs ys)) []:=by
 have lnx:=hx.1;have lny:=hy.1;refine fB Tryz.func203 rfl 39 fun w H B a h=>Jq 0 [] [(0,(vPs xs)),(1,(vPs ys)),(2,.t (.c (.fn (.func 201) [] []))),(6,vI 0)] [] h fun a w h=>qW (Jg 0 [(1,.len (za3 3 eK xs))] [] [(11,(vPs xs)),(12,vN xs.length),(13,vI 0)] [] [] h fun a w h=>qZ ?_)
 refine zbw (ι:=(Nat)) (fun j=>j<=xs.length/\j<=ys.length/\zhl xs ys=zhl (xs.drop j) (ys.drop j))
   [6] (fun j=>[(13,vN j)])
   [] (fun j=>[])
   (fun j=>xs.length - j) 0 ?_ h ?_
 ·exact ⟨bC _,bC _,rfl⟩
 clear h;rintro j a w hI h;obtain ⟨hI1,hI2,hI3⟩:=hI;have hce:=cps_end hI1 hI2;have lnx:=hx.1;have lny:=hy.1;refine Jg 0 [] [] [(14,vb (decide ((j:Int)<(xs.length:Int))))] [] [] h fun a w h=>qW (zad ((j:Int)<(xs.length:Int)) h (fun hc1 hc1'=>?_) (fun hc6 hc6'=>?_))
 ·refine qU (za1 (qW (qZ ?_)));obtain ⟨x1,hx1⟩:=gl xs j;obtain ⟨ox1,lx1⟩:=hx.get hx1;refine Jg 0 [(1,.g (xD 16 11 zcl (za7 hx1 (f:=eK)) (eC 13 _)))] [14] [(7,vN j),(8,vp 0 0)] [] [(0,.box ([cI x1.v]++zi x1.c))] h fun a w h=>qW (Je 1 [(2,.len (za3 3 eK ys))] [] [(21,vb (decide ((j:Int)>=(ys.length:Int))))] h fun a w h=>zad ((j:Int)>=(ys.length:Int)) h (fun hc2 hc2'=>?_) (fun hc3 hc3'=>?_))
  ·refine Je 1 [] [21] [(6,vI 1)] h fun a w h=>qV (za5 (za8 (za5 (za5 (za8 (za5 (rT (.c (cI 1)) h rfl ?_)))))));rw [hI3,hce.1 (by omega) (by omega)];try rfl
  refine qU (za1 ?_);obtain ⟨x2,hx2⟩:=gl ys j;obtain ⟨ox2,lx2⟩:=hy.get hx2;refine Jg 1 [(2,.g (xD 24 22 zcl (za7 hx2 (f:=eK)) (eC 23 _)))] [7,21] [(9,vp 1 0)] [] [(1,.box ([cI x2.v]++zi x2.c))] h fun a w h=>Jg 2 [(3,.g (Op.callV (d:=29) (t:=26) (cap:=[]) (args:=[vG ([cI x1.v]++zi x1.c),vG ([cI x2.v]++zi x2.c)]) (rs:=[(27,vG ([cI x1.v]++zi x1.c)),(28,vG ([cI x2.v]++zi x2.c))]) (tys:=#[124,124]) (SCmpP x1 x2 ox1 ox2 (by omega) (by omega)) tx_6 (OVs.cons (eC 27 _) (OVs.cons (eC 28 _) (OVs.nil)))))] [8,9] [(10,vI (cmpP x1 x2))] [0,1] [] h fun a w h=>Jg 2 [] [] [(31,vb ((cmpP x1 x2) != 0))] [] [] h fun a w h=>cS ((cmpP x1 x2) != 0) h (fun hc4=>?_) (fun hc5=>?_)
  ·refine Jg 2 [] [10,31] [(6,vI (cmpP x1 x2))] [] [] h fun a w h=>qV (za8 (za5 (za5 (za8 (za5 (rT (.c (cI (cmpP x1 x2))) h rfl ?_))))));rw [hI3,cps_at hx1 hx2,if_pos (by simpa using hc4)];try rfl
  refine qU (za6 (za1 (Jh 2 [(0,.j1 j)] [10,31] [(13,vI ((j:Int)+1))] [] [] h fun a w h=>za1 (zaa (x:=j) (y:=(j+1)) h ?_ ?_))))
  ·have:=zab hx1;have:=zab hx2;exact ⟨by omega,by omega,by rw [hI3,cps_at hx1 hx2,if_neg (by simpa using hc5)]⟩
  show xs.length - (j+1)<xs.length - j;have:=zab hx1;omega
 refine exA (qW (Jq 2 [(1,.len (za3 3 eK xs)),(3,.len (za3 3 eK ys))] [(38,vb (decide ((xs.length:Int)<(ys.length:Int))))] [] h fun a w h=>zad ((xs.length:Int)<(ys.length:Int)) h (fun hc7 hc7'=>?_) (fun hc8 hc8'=>?_)))
 ·refine Jq 2 [] [(6,vI (-1))] [] h fun a w h=>qV (za5 (rT (.c (cI (-1))) h rfl ?_));rw [hI3,hce.2.1 (by omega) (by omega)];try rfl
 refine qU (za1 (Jq 2 [] [(6,vI 0)] [] h fun a w h=>qV (rT (.c (cI 0)) h rfl ?_)));rw [hI3,hce.2.2 (by omega) (by omega)];try rfl
theorem STCmp (s t:zaf) {L:Nat} (hs:TOk n L s) (ht:TOk n L t) (hn:n<=1000000000) (hL:L<=20000):Fn eA 175 [] [(vT s),(vT t)] (vI (cmpT s t)) []:=by
 have lks:=(hs.plain hn).kl;have lkt:=(ht.plain hn).kl;refine fB Tryz.func175 rfl 23 fun w H B a h=>Jq 0 [] [(2,vp 0 0),(3,vp 1 0),(4,vI 0)] [(0,.box (zT s)),(1,.box (zT t))] h fun a w h=>Jg 2 [(1,.call (zen s hs hn (by omega))),(3,.call (zen t ht hn (by omega)))] [] [] [] [(0,.box (zT (za2 s))),(1,.box (zT (za2 t)))] h fun a w h=>Je 2 [] [] [(5,.t (.c (.fn (.func 201) [] [])))] h fun a w h=>Jq 2 [(5,.call (SCompareF (za2 s).parts (za2 t).parts ((hs.plain hn).mono hn (by omega)).psok ((ht.plain hn).mono hn (by omega)).psok)),(10,.call (SCmp (za2 s).k (za2 t).k (hs.plain hn).kb (ht.plain hn).kb (by omega) (by omega))),(11,.g (Op.buildD (d:=21) (len:=2) (rows:=[(zhl (za2 s).parts (za2 t).parts),(zbo (za2 s).k.val (za2 t).k.val)].map zal) (rs:=[(15,vI (zhl (za2 s).parts (za2 t).parts)),(20,vI (zbo (za2 s).k.val (za2 t).k.val))]) tb_0 (.cons (i:=0) (eC 15 _) (.cons (i:=1) (eC 20 _) (.nil))) (by kernel_rfl) rfl (by simp [zal]) (by decide) (by decide))),(12,.call (SOr [(zhl (za2 s).parts (za2 t).parts),(zbo (za2 s).k.val (za2 t).k.val)] (show List.length _<=1000000000000 from by simp)))] [(4,vI (orZ [(zhl (za2 s).parts (za2 t).parts),(zbo (za2 s).k.val (za2 t).k.val)]))] [] h fun a w h=>qV (rT (.c (cI (orZ [(zhl (za2 s).parts (za2 t).parts),(zbo (za2 s).k.val (za2 t).k.val)]))) h rfl ?_)
 rfl
section
variable {P:Program}
theorem Op.makeO {d L:Nat} {x y:Operand} {rs:List (Nat × V)} {zs:List D} {pos af gd} (hT:ElT P xt el es bs) (hz0:Zero P el (zs.map C.d)) (hzl:zs.length=es) (hx:OV x (vi .i64 (L:Int)) rs) (hy:OV y (vi .i64 (L:Int)) rs') (hb:L*bs<=140737488355328) :
  zbe P ⟨some d,.makeSlice xt x y,ty,pos,af,gd⟩ { rs:=rs++rs', ws:=[(d,some (.t (.c (.own n L))))],wl:=[(n,some (.row el es (List.replicate L zs)))],nw:=[n] }:=by
 refine zbe.news d n _ _ rfl rfl rfl (by simp) fun e f H B a w hok hr hn=>?_
 have h1:a.eval x = .int .i64 (L:Int):=(hx.eval hok fun p hp=>hr.1 p (List.mem_append_left _ hp)).rawI
 have h2:a.eval y = .int .i64 (L:Int):=(hy.eval hok fun p hp=>hr.1 p (List.mem_append_right _ hp)).rawI
 obtain ⟨i,z,hi,hz,hsz,hby,hzs⟩:=hT.ex
 obtain ⟨z', l,g1,g2,g3⟩:=hz0.ex
 have hzz:z'=z:=by
  rw [hi] at g1
  have g1':i.zero=some z':=g1
  rw [hz] at g1';injection g1' with g1';exact g1'.symm
 subst hzz
 have hL:L<=140737488355328:=by
  have:L*1<=L*bs:=Nat.mul_le_mul_left _ hT.bpos
  omega
 have hbb:(bs:Int)*(L:Int)<=281474976710656:=by
  have:(bs:Int)*(L:Int)=((L*bs:Nat):Int):=by rw [Int.natCast_mul,bK]
  omega
 have hrun:=run_make (P:=P) w xt el i z' hT.hu hi hz .i64 .i64 (L:Int) (L:Int) (by omega) (Int.le_refl _) (by rw [hby];exact hbb) (by omega)
 rw [Int.toNat_natCast,hsz] at hrun
 refine ⟨.slice (some ⟨w.heap.size,0,none⟩) L L,L,.cells (madeCells z'.cells (L*es)) el,?_,?_,?_⟩
 ·generalize a.eval=ρ at h1 h2 ⊢
  simp only [execOp,h1,h2,Sem.run_bind,hrun,Result.andThen_ok,Sem.run_pure]
 ·simp only [LR,if_true]
  have hall:∀ r ∈ List.replicate L zs,r.length=es:=fun r hr2=>by rw [(List.mem_replicate.1 hr2).2];exact hzl
  have hsize:(madeCells z'.cells (L*es)).toList.length=L*es:=by simp [madeCells]
  refine ⟨(madeCells z'.cells (L*es)).toList,heap_alloc_new w _,hsize,by rw [dZ];exact bI _,by simp only [maxLen];omega,hall,?_⟩
  refine (zdb hsize (by rw [dZ];exact bI _) hall).2 fun k r hri f' x' hx2=>?_
  obtain ⟨hk,hrk⟩:=bL.1 hri
  rw [dZ] at hk
  rw [List.getElem_replicate] at hrk
  subst hrk
  have hf:=(bL.1 hx2).1
  rw [hzl] at hf
  obtain ⟨u,hu1,hu2⟩:=(g3 H B).get f' (by rw [bE,hzl];exact hf)
  have hx3:(zs.map C.d)[f']'(by rw [bE,hzl];exact hf)=C.d x':=by
   rw [List.getElem_map];congr 1
   rw [d7 (by omega)] at hx2
   injection hx2
  rw [hx3] at hu2
  refine ⟨u,?_,hu2⟩
  have hlt:k*es+f'<L*es:=by
   have:(k+1)*es<=L*es:=Nat.mul_le_mul_right _ hk
   rw [Nat.add_mul] at this;omega
  have hmod:(k*es+f') % z'.cells.size=f':=by rw [hzs,Nat.mul_comm,Nat.mul_add_mod];exact Nat.mod_eq_of_lt hf
  simp only [madeCells,Array.toList_map,Array.toList_range,List.getElem?_map,List.getElem?_range hlt,Option.map_some,hmod]
  rw [g2]
  simp [hu1]
 ·simp [VR,TR,CR]
theorem Op.makeO' {d L:Nat} {x y:Operand} {rs:List (Nat × V)} {zs:List D} {rows:List (List D)} {pos af gd} (hT:ElT P xt el es bs) (hz0:Zero P el (zs.map C.d)) (hzl:zs.length=es) (hx:OV x (vi .i64 (L:Int)) rs) (hy:OV y (vi .i64 (L:Int)) rs') (hb:L*bs<=140737488355328) (hr:List.replicate L zs=rows) :
  zbe P ⟨some d,.makeSlice xt x y,ty,pos,af,gd⟩ { rs:=rs++rs', ws:=[(d,some (.t (.c (.own n L))))],wl:=[(n,some (.row el es rows))],nw:=[n] }:=by
 subst hr
 exact Op.makeO hT hz0 hzl hx hy hb
end
theorem ty_5:ElZ eA 52 28 2:=ElZ.mk' Tryz.underlying52 _ _ rfl rfl
theorem ty_16:ElZ eA 22 9 1:=ElZ.mk' Tryz.underlying22 _ _ rfl rfl
theorem cmpZ_self' (x:Int):zbo x x=0:=cmpZ_eq rfl
theorem shr_plain (t:zaf):za2 (zct t)=zct t:=by
 unfold zct
 split
 ·exact zby _
 ·rename_i hg
  obtain ⟨h1,h2,h3⟩:=zay t
  refine plainT_eq ?_ (fun q hq=>?_) (fun v=>rfl) (by simp [eJ])
  ·show List.Pairwise _ ((za2 t).parts.map (zi5 _))
   exact List.pairwise_map.2 h1
  ·obtain ⟨p,hp,rfl⟩:=bN.1 hq
   obtain ⟨k1,k2,k3⟩:=h2 p hp
   refine ⟨k1,by simp [zi5,eJ],?_⟩
   simp only [zi5,eJ]
   intro e
   obtain ⟨c,hc⟩:=ziw _ p hp
   rw [hc,d8 _ hg] at e
   exact k3 (by rw [hc,e,dQ])
theorem shr_tok {L:Nat} (h:TOk n L t) (hn:n<=1000000000):TOk n (L+1) (zct t):=by
 unfold zct
 split
 ·exact h.plain hn
 ·rename_i hg
  have hp:=h.plain hn
  have lg:(zcc (za2 t).parts)≠0:=hg
  refine ⟨by simp only [bE];exact hp.len,fun q hq=>?_,eG _,?_⟩
  ·obtain ⟨p,hp2,rfl⟩:=bN.1 hq
   obtain ⟨k1,k2⟩:=hp.ps p hp2
   refine ⟨eG _,eH ?_⟩
   exact cP (zg5 _ hg) (cK (ZI.abs_lt k1) (zdt k2))
  ·exact eH (cP (zg5 _ hg) (cK (ZI.abs_lt h.kb) (zdt (bU h.kl (Nat.le_succ L)))))
def sumV (f:Int->Int):Nat->Int
  | 0=>0
  | n+1=>sumV f n+f (n:Int)
theorem sumV_add (f g:Int->Int):∀ n,sumV (fun v=>f v+g v) n=sumV f n+sumV g n
 | 0=>rfl
 | n+1=>by simp only [sumV,sumV_add f g n];omega
theorem zk8 {f g:Int->Int}:∀ n:Nat,(∀ v:Int,f v=g v)->sumV f n=sumV g n
 | 0,_=>rfl
 | n+1,h=>by simp only [sumV,zk8 n h,h]
theorem sumV_one (a c:Int) (g:Int->Int):∀ n:Nat,sumV (fun v=>(if a=v/\0<=v then c else 0)*g v) n=if 0<=a/\a<(n:Int) then c*g a else 0
 | 0=>by rw [if_neg (by omega)];rfl
 | n+1=>by
  simp only [sumV,sumV_one a c g n]
  by_cases h:a=(n:Int)
  ·subst h
   rw [if_neg (by omega),if_pos ⟨rfl,by omega⟩,if_pos (by omega),Int.zero_add]
  ·rw [if_neg (show ¬(a=(n:Int)/\0<=(n:Int)) from fun e=>h e.1),Int.zero_mul,dM]
   by_cases k:0<=a/\a<(n:Int)
   ·rw [if_pos k,if_pos (by omega)]
   ·rw [if_neg k,if_neg (by omega)]
theorem valP_sum (vs:List ZI):∀ ps:List za4,zeq vs ps=sumV (fun v=>zah ps v*zce vs v) vs.length
 | []=>by
  have:∀ n:Nat,sumV (fun v=>zah [] v*zce vs v) n=0:=by
   intro n
   induction n with
   | zero=>rfl
   | succ n ih=>simp only [sumV,zah,Int.zero_mul] at ih ⊢;omega
  rw [this];rfl
 | p :: ps=>by
  rw [zk8 (g:=fun v=>(if p.v=v/\0<=v then p.c.val else 0)*zce vs v+zah ps v*zce vs v) _ (fun v=>by simp only [zah];rw [cR]),sumV_add,sumV_one,<- valP_sum vs ps]
  simp only [zeq]
  congr 1
  by_cases h:0<=p.v/\p.v<(vs.length:Int)
  ·rw [if_pos h]
  ·rw [if_neg h]
   by_cases k:0<=p.v
   ·rw [valAt_out (fun e=>h ⟨k,e⟩),dQ]
   ·rw [valAt_neg k,dQ]
theorem valP_congr {qs:List za4} (vs:List ZI) (h:∀ v,zah ps v=zah qs v):zeq vs ps=zeq vs qs:=by
 rw [valP_sum,valP_sum];exact zk8 _ fun v=>by rw [h]
theorem zc6 (t:zaf) (vs:List ZI):zd6 (za2 t) vs=zd6 t vs:=by
 unfold zd6
 rw [valP_congr vs (zay t).2.2,show (za2 t).k.val=t.k.val from eJ _]
theorem val_add (s t:zaf) (vs:List ZI):zd6 (zkx s t) vs=zd6 s vs+zd6 t vs:=by
 unfold zkx
 rw [zc6]
 unfold zd6
 rw [valP_app,eJ];omega
theorem valP_mul (vs:List ZI) (q:ZI):∀ ps:List za4,zeq vs (ps.map fun p=>⟨p.v,eI (p.c.val*q.val)⟩)=zeq vs ps*q.val
 | []=>by simp [zeq]
 | p :: ps=>by
  simp only [bJ,zeq,valP_mul vs q ps,eJ,cR]
  congr 1
  rw [c7,c7,bK q.val]
theorem val_scale (t:zaf) (q:ZI) (vs:List ZI):zd6 (zbi t q) vs=zd6 t vs*q.val:=by
 unfold zbi
 rw [zc6]
 unfold zd6 mulT
 rw [valP_mul,eJ,cR]
theorem val_sub (s t:zaf) (vs:List ZI):zd6 (subT s t) vs=zd6 s vs - zd6 t vs:=by
 unfold subT
 rw [val_add,val_scale,eJ];omega
def zR:za9:=⟨⟨[],⟨false,[]⟩⟩,false⟩
def cpR (r:za9):za9:=⟨za2 r.t,r.eq⟩
def zcs (b:Bool):za0:=⟨if b=true then 0 else 1,zR,[]⟩
def zfp (r:za9):za0:=⟨2,cpR r,[]⟩
def zfd (t:za9->za9) (k:Int) (r:za9) (cs:List za0):za0:=if k=0 then zcs true else if k=2 then ⟨2,t (cpR r),[]⟩ else if k=3\/k=4\/k=5 then ⟨k,zR,cnt k cs⟩ else zcs false
def za0.each (t:za9->za9) (f:za0):za0:=f.fold fun k r _ cs=>zfd t k r cs
theorem za0.each_eq (t:za9->za9) (f:za0):f.each t=zfd t f.kind f.r (f.kids.map (za0.each t)):=za0.fold_eq _ f
def za0.cl (f:za0):za0:=f.each id
theorem cl_eq (f:za0):f.cl=zfd id f.kind f.r (f.kids.map za0.cl):=za0.each_eq id f
def ziv (f:za0):za0:=⟨3,zR,[f.cl]⟩
def zcj (fs:List za0):za0:=⟨4,zR,fs.map za0.cl⟩
def za0.rels (P:za9->Prop) (f:za0):Prop:=f.fold fun k r _ ps=>(k=2->P r)/\∀ p ∈ cnt k ps,p
theorem za0.rels_eq (P:za9->Prop) (f:za0):f.rels P ↔ (f.kind=2->P f.r)/\∀ g ∈ cnt f.kind f.kids,g.rels P:=by
 have:=za0.fold_eq (fun k r _ (ps:List Prop)=>(k=2->P r)/\∀ p ∈ cnt k ps,p) f
 rw [zd0] at this
 unfold za0.rels
 rw [this]
 refine and_congr_right fun _=>⟨fun h g hg=>h _ (bN.2 ⟨g,hg,rfl⟩),fun h p hp=>?_⟩
 obtain ⟨g,hg,rfl⟩:=bN.1 hp
 exact h g hg
theorem za0.rels_mono {P Q:za9->Prop} (h:∀ r,P r->Q r) (f:za0):f.rels P->f.rels Q :=
 za0.ind (P:=fun f=>f.rels P->f.rels Q) (fun k r ks ih hf=>by
  rw [za0.rels_eq] at hf ⊢
  exact ⟨fun e=>h _ (hf.1 e),fun g hg=>ih g (zb9 hg) (hf.2 g hg)⟩) f
theorem cpR_cpR (r:za9):cpR (cpR r)=cpR r:=by unfold cpR;rw [zby]
theorem zjh (vs:List ZI) (r:za9):zax vs (cpR r)=zax vs r:=by unfold zax cpR;simp only [zc6]
theorem cnt_cnt (k:Int) (xs:List α):cnt k (cnt k xs)=cnt k xs:=by
 unfold cnt
 split
 ·rfl
 ·split
  ·rw [List.take_take];rfl
  ·rfl
theorem zea (t:za9->za9) (r:za9) (cs:List za0) (h:k=3\/k=4\/k=5):zfd t k r cs=⟨k,zR,cnt k cs⟩:=by
 unfold zfd
 rw [if_neg (by omega),if_neg (by omega),if_pos h]
theorem zgj (t:za9->za9) (r:za9) (cs:List za0) (h0:k≠0) (h2:k≠2) (h:¬ (k=3\/k=4\/k=5)):zfd t k r cs=zcs false:=by
 unfold zfd
 rw [if_neg h0,if_neg h2,if_neg h]
variable {f:za0}
theorem each_atom (t:za9->za9) (h:f.kind=2):f.each t=⟨2,t (cpR f.r),[]⟩:=by rw [za0.each_eq,h];rfl
theorem each_nil (t:za9->za9):(zcs true).each t=zcs true/\(zcs false).each t=zcs false:=⟨by rw [za0.each_eq];rfl,by rw [za0.each_eq];rfl⟩
theorem each_cl (t:za9->za9) (f:za0):f.cl.each t=f.each t :=
 za0.ind (P:=fun f=>f.cl.each t=f.each t) (fun k r ks ih=>by
  have e1:(za0.mk k r ks).cl=zfd id k r (ks.map za0.cl):=cl_eq _
  have e2:(za0.mk k r ks).each t=zfd t k r (ks.map (za0.each t)):=za0.each_eq t _
  rw [e1,e2]
  by_cases h0:k=0
  ·subst h0;exact (each_nil t).1
  ·by_cases h2:k=2
   ·subst h2
    show (za0.mk 2 (cpR r) []).each t=_
    rw [za0.each_eq]
    show za0.mk 2 (t (cpR (cpR r))) []=_
    rw [cpR_cpR];rfl
   ·by_cases h3:k=3\/k=4\/k=5
    ·rw [zea _ _ _ h3,zea _ _ _ h3,za0.each_eq]
     show zfd t k zR ((cnt k (ks.map za0.cl)).map (za0.each t))=_
     rw [zea _ _ _ h3,<- zd0,cnt_cnt,b6]
     congr 2
     exact List.map_congr_left fun g hg=>ih g hg
    ·rw [zgj _ _ _ h0 h2 h3,zgj _ _ _ h0 h2 h3];exact (each_nil t).2) f
theorem cl_cl (f:za0):f.cl.cl=f.cl:=each_cl id f
theorem zda (vs:List ZI) (b:Bool):(zcs b).holds vs=b:=by
 rw [za0.holds_eq]
 cases b <;> rfl
theorem zfb (vs:List ZI) (r:za9) (ks:List za0) (h:k=3\/k=4\/k=5):(za0.mk k r ks).holds vs=if k=3 then (match ks with | []=>false | g :: _=>!g.holds vs) else if k=4 then ks.all (za0.holds vs) else ks.any (za0.holds vs):=by
 rw [za0.holds_eq]
 show (if k=0 then _ else if k=2 then _ else if k=3 then _ else if k=4 then _ else if k=5 then _ else _)=_
 rw [if_neg (by omega),if_neg (by omega)]
 rcases h with h | h | h <;> subst h <;> rfl
theorem zko {t:za9->za9} {vs ws:List ZI} (f:za0):f.rels (fun r=>zax vs (t (cpR r))=zax ws r)->(f.each t).holds vs=f.holds ws :=
 za0.ind (P:=fun f=>f.rels (fun r=>zax vs (t (cpR r))=zax ws r)->(f.each t).holds vs=f.holds ws) (fun k r ks ih hf=>by
  obtain ⟨h1,h2⟩:=(za0.rels_eq _ _).1 hf
  change k=2->_ at h1
  change ∀ g ∈ cnt k ks,_ at h2
  rw [za0.each_eq]
  show (zfd t k r (ks.map (za0.each t))).holds vs=_
  by_cases h0:k=0
  ·subst h0
   show (zcs true).holds vs=_
   rw [zda,za0.holds_eq];rfl
  ·by_cases hk2:k=2
   ·subst hk2
    show (za0.mk 2 (t (cpR r)) []).holds vs=_
    rw [za0.holds_eq,za0.holds_eq]
    exact h1 rfl
   ·by_cases h3:k=3\/k=4\/k=5
    ·rw [zea _ _ _ h3,zfb vs _ _ h3,zfb ws _ _ h3]
     rcases h3 with e | e | e
     ·subst e
      rw [if_pos rfl,if_pos rfl]
      cases ks with
      | nil=>rfl
      | cons g gs =>
       have:=ih g (cM ..) (h2 g (cM ..))
       show (!(g.each t).holds vs)=!g.holds ws
       rw [this]
     ·subst e
      rw [if_neg (by decide),if_pos rfl,if_neg (by decide),if_pos rfl]
      show (ks.map (za0.each t)).all (za0.holds vs)=_
      rw [dB,cV,cG,cG]
      exact forall_congr' fun g=>forall_congr' fun hg=>by rw [show (za0.holds vs ∘ za0.each t) g=(g.each t).holds vs from rfl,ih g hg (h2 g hg)]
     ·subst e
      rw [if_neg (by decide),if_neg (by decide),if_neg (by decide),if_neg (by decide)]
      show (ks.map (za0.each t)).any (za0.holds vs)=_
      rw [dP,cV,cL,cL]
      exact exists_congr fun g=>and_congr_right fun hg=>by rw [show (za0.holds vs ∘ za0.each t) g=(g.each t).holds vs from rfl,ih g hg (h2 g hg)]
    ·rw [zgj _ _ _ h0 hk2 h3,zda,za0.holds_eq]
     show _=if k=0 then _ else if k=2 then _ else if k=3 then _ else if k=4 then _ else if k=5 then _ else false
     rw [if_neg h0,if_neg hk2,if_neg (by omega),if_neg (by omega),if_neg (by omega)]) f
theorem za0.rels_all {P:za9->Prop} (h:∀ r,P r) (f:za0):f.rels P :=
 za0.ind (P:=fun f=>f.rels P) (fun k r ks ih=>by
  rw [za0.rels_eq];exact ⟨fun _=>h _,fun g hg=>ih g (zb9 hg)⟩) f
theorem cl_holds (vs:List ZI) (f:za0):f.cl.holds vs=f.holds vs:=zko f (za0.rels_all (fun r=>zjh vs r) f)
theorem zi9 (vs:List ZI) (r:za9):(zfp r).holds vs=zax vs r:=by rw [za0.holds_eq];exact zjh vs r
theorem deny_holds (vs:List ZI) (f:za0):(ziv f).holds vs=!f.holds vs:=by
 rw [za0.holds_eq];show (!f.cl.holds vs)=_;rw [cl_holds]
theorem zfh (vs:List ZI) (fs:List za0):(zcj fs).holds vs=fs.all (za0.holds vs):=by
 rw [za0.holds_eq];show (fs.map za0.cl).all (za0.holds vs)=_;rw [dB]
 congr 1;funext f;exact cl_holds vs f
theorem cmpPs_self:∀ ps:List za4,zhl ps ps=0
 | []=>rfl
 | p :: ps=>by
  have h:cmpP p p=0:=by simp [cmpP,orZ,cmpZ_self']
  simp only [zhl,h,cmpPs_self ps];rfl
theorem cmpT_eq {s:zaf} (h:za2 s=za2 t):cmpT s t=0:=by
 unfold cmpT
 rw [h,cmpPs_self,cmpZ_self'];rfl
theorem con_pos (h:0<(za2 t).parts.length):0<zcc (za2 t).parts:=by
 have:=con_ne h
 have:=con_nonneg (za2 t).parts
 omega
theorem con_len' {L:Nat} (ht:TOk n L t) (hn:n<=1000000000):(eI (zcc (za2 t).parts)).abs.length<=L+1:=by
 have:=con_len ht hn (za2 t).parts.length
 rwa [cF] at this
def zl7 (t:zaf):zaf:=zbi t (eI (-1))
def zim (t:zaf):Bool:=match t.parts with | []=>false | p :: _=>decide (sgn p.c.val<0)
def zat (r:za9):za9 × Int :=
  if (za2 r.t).parts.length=0 then (zR,if (sgn r.t.k.val == 0 || (!r.eq && decide (sgn r.t.k.val>0)))=true then 1 else -1)
  else if r.eq=true/\r.t.k.val.fmod (zcc (za2 r.t).parts)≠0 then (zR,-1)
  else (⟨if (r.eq && zim (zct r.t))=true then zl7 (zct r.t) else zct r.t,r.eq⟩,0)
def zb0 (r:za9):za0:=if (zat r).2=0 then ⟨2,(zat r).1,[]⟩ else zcs (decide ((zat r).2>0))
def lowR (t:zaf):za9:=⟨subT (zl7 t) (zcu (eI 1)),false⟩
def zc1 (r:za9):List za9:=if r.eq=true then [lowR (zl7 r.t),lowR r.t] else [lowR r.t]
def zbd (k:Int):List za0->List za0->za0
  | [],out=>(match out with | []=>zcs (decide (k=4)) | [g]=>g | _=>⟨k,zR,out⟩)
  | f :: fs,out=>if (k=4/\f.kind=1)\/(k=5/\f.kind=0) then f else if f.kind=0\/f.kind=1 then zbd k fs out else if f.kind=k then zbd k fs (out++f.kids) else zbd k fs (out++[f])
def zfn (k:Int) (fs:List za0):za0:=zbd k fs []
def zgu (k:Int) (r:za9) (cs:List (Bool->za0)) (d:Bool):za0 :=
  if k=0 then zcs (!d) else if k=2 then (if d=true then zfn 5 ((zc1 r).map zb0) else zb0 r) else if k=3 then (match cs with | []=>zcs d | c :: _=>c (!d)) else if k=4\/k=5 then zfn (if d=true then 9 - k else k) (cs.map fun c=>c d) else zcs d
def za0.flat (f:za0):Bool->za0:=f.fold fun k r _ cs=>zgu k r cs
theorem za0.flat_eq (f:za0) (d:Bool):f.flat d=zgu f.kind f.r (f.kids.map za0.flat) d:=congrFun (za0.fold_eq (fun k r _ (cs:List (Bool->za0))=>zgu k r cs) f) d
theorem zix (t:zaf):zcc (za2 (za2 t)).parts=zcc (za2 t).parts:=by rw [zby]
theorem shr_plain2 (t:zaf):zct (za2 t)=zct t:=by
 unfold zct
 rw [zby]
 split
 ·rfl
 ·show zaf.mk _ (eI ((eI t.k.val).val.fdiv _))=_
  rw [eJ]
theorem valP_divP (vs:List ZI) {g:Int} (hg:g≠0):∀ ps:List za4,(∀ p ∈ ps,g∣p.c.val)->g*zeq vs (ps.map (zi5 g))=zeq vs ps
 | [],_=>dQ _
 | p :: ps,h=>by
  obtain ⟨c,hc⟩:=h p (cM ..)
  rw [bJ,zeq,zeq,cD,valP_divP vs hg ps fun q hq=>h q (d9 _ hq)]
  congr 1
  show g*((eI (p.c.val.fdiv g)).val*zce vs p.v)=_
  rw [eJ,hc,d8 _ hg,<- c7]
theorem zgb {vs:List ZI} {r:za9} (h:r.eq=false):zax vs r=decide (0<=zd6 r.t vs):=by
 unfold zax
 rw [if_neg (by rw [h];exact Bool.noConfusion)]
 refine decide_eq_decide.2 ?_
 unfold sgn;split
 ·omega
 ·split <;> omega
theorem zjg {vs:List ZI} {r:za9} (h:r.eq=true):zax vs r=decide (zd6 r.t vs=0):=by
 unfold zax
 rw [if_pos h]
 cases hd:decide (zd6 r.t vs=0) with
 | true=>rw [beq_iff_eq];exact zev (of_decide_eq_true hd)
 | false=>rw [beq_eq_false_iff_ne];exact fun e=>of_decide_eq_false hd (zis.1 e)
theorem val_shr (vs:List ZI) (h:(za2 t).parts.length≠0):∃ S g:Int,0<g/\g=zcc (za2 t).parts/\zd6 t vs=g*S+t.k.val/\zd6 (zct t) vs=S+t.k.val.fdiv g:=by
 have hp:0<(za2 t).parts.length:=by omega
 have hg:=con_pos hp
 refine ⟨zeq vs ((za2 t).parts.map (zi5 (zcc (za2 t).parts))),_,hg,rfl,?_,?_⟩
 ·rw [valP_divP vs (by omega) _ (ziw _),<- zc6]
  unfold zd6
  rw [show (za2 t).k.val=t.k.val from eJ _];omega
 ·unfold zct
  rw [if_neg (by omega)]
  unfold zd6
  show (eI _).val+zeq vs ((za2 t).parts.map (zi5 (zcc (za2 t).parts)))=_
  rw [eJ];omega
theorem neg1_val (t:zaf) (vs:List ZI):zd6 (zl7 t) vs=-zd6 t vs:=by unfold zl7;rw [val_scale,eJ];omega
theorem tight_holds (vs:List ZI) (r:za9):(zb0 r).holds vs=zax vs r:=by
 unfold zb0 zat
 by_cases h:(za2 r.t).parts.length=0
 ·rw [if_pos h]
  have hv:zd6 r.t vs=r.t.k.val:=by
   rw [<- zc6];unfold zd6
   rw [cC.1 h,show (za2 r.t).k.val=r.t.k.val from eJ _];exact dM _
  have hk:(if (sgn r.t.k.val == 0 || (!r.eq && decide (sgn r.t.k.val>0)))=true then (1:Int) else -1)≠0:=by split <;> decide
  rw [if_neg hk,zda]
  unfold zax
  rw [hv]
  cases r.eq <;> unfold sgn <;> (repeat' split) <;> simp_all <;> omega
 ·rw [if_neg h]
  obtain ⟨S,g,hg,hge,e1,e2⟩:=val_shr vs h
  by_cases hq:r.eq=true/\r.t.k.val.fmod (zcc (za2 r.t).parts)≠0
  ·rw [if_pos hq,if_neg (by decide),zda,zjg hq.1]
   refine (yX fun e=>hq.2 ?_).symm
   rw [<- hge]
   have h1:=dI r.t.k.val g
   have h2:=c6 r.t.k.val hg
   have h3:=cZ r.t.k.val hg
   have h4:g*(S+r.t.k.val.fdiv g)=-r.t.k.val.fmod g:=by rw [cD];omega
   refine Classical.byContradiction fun hne=>?_
   rcases Int.lt_or_le (S+r.t.k.val.fdiv g) 0 with hs | hs
   ·have:=bV (show S+r.t.k.val.fdiv g≤-1 by omega) (show 0≤g by omega)
    omega
   ·have:=cQ (show 0<=g by omega) hs
    omega
  ·rw [if_neg hq,if_pos rfl,za0.holds_eq]
   show zax vs ⟨if (r.eq && zim (zct r.t))=true then zl7 (zct r.t) else zct r.t,r.eq⟩=zax vs r
   have h1:=dI r.t.k.val g
   have h2:=c6 r.t.k.val hg
   have h3:=cZ r.t.k.val hg
   cases he:r.eq with
   | true =>
    rw [zjg he,zjg rfl]
    have hz:r.t.k.val.fmod g=0:=Classical.byContradiction fun hz=>hq ⟨he,by rw [<- hge];exact hz⟩
    have h4:zd6 r.t vs=g*(S+r.t.k.val.fdiv g):=by rw [e1,cD];omega
    refine decide_eq_decide.2 ?_
    rw [h4,Int.mul_eq_zero]
    show zd6 (if _ then zl7 (zct r.t) else zct r.t) vs=0 ↔ _
    split
    ·rw [neg1_val,e2];omega
    ·rw [e2];omega
   | false =>
    rw [zgb he,zgb rfl]
    refine decide_eq_decide.2 ?_
    show 0<=zd6 (zct r.t) vs ↔ _
    rw [e1,e2]
    constructor
    ·intro hs
     have:=cQ (show 0<=g by omega) hs
     rw [cD] at this;omega
    ·intro hs
     refine Classical.byContradiction fun hlt=>?_
     have:=bV (show S+r.t.k.val.fdiv g≤-1 by omega) (show 0≤g by omega)
     rw [cD] at this;omega
theorem low_holds (vs:List ZI) (t:zaf):zax vs (lowR t)=decide (zd6 t vs<0):=by
 rw [zgb rfl]
 refine decide_eq_decide.2 ?_
 show 0<=zd6 (subT (zl7 t) (zcu (eI 1))) vs ↔ _
 rw [val_sub,neg1_val]
 have:zd6 (zcu (eI 1)) vs=1:=by simp [zd6,zcu,zeq,eJ]
 omega
theorem denyR_holds (vs:List ZI) (r:za9):(zc1 r).any (zax vs)=!zax vs r:=by
 unfold zc1
 cases he:r.eq with
 | true =>
  rw [if_pos rfl,zjg he,cH,cH,dR,low_holds,low_holds,neg1_val,dS]
  rw [cV];simp;omega
 | false =>
  rw [if_neg Bool.noConfusion,zgb he,cH,dR,low_holds,dS]
  rw [cV];simp
theorem zfu (vs:List ZI) (hk:k=4\/k=5):∀ (fs out:List za0),(zbd k fs out).holds vs=if k=4 then out.all (za0.holds vs) && fs.all (za0.holds vs) else out.any (za0.holds vs) || fs.any (za0.holds vs)
 | [],out=>by
  unfold zbd
  match out with
  | []=>rcases hk with e | e <;> subst e <;> rw [zda] <;> rfl
  | [g]=>rcases hk with e | e <;> subst e <;> simp
  | g :: h :: l =>
   show (za0.mk k zR (g :: h :: l)).holds vs=_
   rw [zfb vs _ _ (by omega)]
   rcases hk with e | e <;> subst e
   ·rw [if_neg (by decide),if_pos rfl,if_pos rfl,List.all_nil,Bool.and_true]
   ·rw [if_neg (by decide),if_neg (by decide),if_neg (by decide),dR,dS]
 | f :: fs,out=>by
  rw [zbd]
  have hk01:f.kind=0->f.holds vs=true:=fun e=>by rw [za0.holds_eq,e];rfl
  have hk1:f.kind=1->f.holds vs=false:=fun e=>by rw [za0.holds_eq,e];rfl
  split
  ·rename_i h
   rcases h with ⟨e,h1⟩ | ⟨e,h1⟩ <;> subst e
   ·rw [if_pos rfl,dC,hk1 h1];simp
   ·rw [if_neg (by decide),cH,hk01 h1];simp
  ·rename_i h
   split
   ·rename_i h1
    rw [zfu vs hk fs out]
    rcases hk with e | e <;> subst e
    ·rw [if_pos rfl,if_pos rfl,dC,hk01 (by omega),Bool.true_and]
    ·rw [if_neg (by decide),if_neg (by decide),cH,hk1 (by omega),Bool.false_or]
   ·split
    ·rename_i h2
     have hf:f.holds vs=if k=4 then f.kids.all (za0.holds vs) else f.kids.any (za0.holds vs):=by
      have:=zfb vs f.r f.kids (k:=f.kind) (by omega)
      rw [za0.eta] at this
      rw [this,if_neg (by omega),h2]
     rw [zfu vs hk fs _]
     rcases hk with e | e <;> subst e
     ·rw [if_pos rfl,if_pos rfl,dW,dC,hf,if_pos rfl,Bool.and_assoc]
     ·rw [if_neg (by decide),if_neg (by decide),dX,cH,hf,if_neg (by decide),Bool.or_assoc]
    ·rw [zfu vs hk fs _]
     rcases hk with e | e <;> subst e
     ·rw [if_pos rfl,if_pos rfl,dW,dC,dC,List.all_nil,Bool.and_true,Bool.and_assoc]
     ·rw [if_neg (by decide),if_neg (by decide),dX,cH,cH,dR,dS,Bool.or_assoc]
theorem join_holds (vs:List ZI) (hk:k=4\/k=5) (fs:List za0):(zfn k fs).holds vs=if k=4 then fs.all (za0.holds vs) else fs.any (za0.holds vs):=by
 unfold zfn;rw [zfu vs hk];rfl
theorem flat_holds (vs:List ZI) (f:za0):∀ d,(f.flat d).holds vs=(f.holds vs != d) :=
 za0.ind (P:=fun f=>∀ d,(f.flat d).holds vs=(f.holds vs != d)) (fun k r ks ih d=>by
  rw [za0.flat_eq]
  show (zgu k r (ks.map za0.flat) d).holds vs=((za0.mk k r ks).holds vs != d)
  unfold zgu
  by_cases h0:k=0
  ·subst h0
   rw [if_pos rfl,zda,za0.holds_eq vs (za0.mk 0 r ks)];cases d <;> rfl
  rw [if_neg h0]
  by_cases h2:k=2
  ·subst h2
   rw [if_pos rfl,show (za0.mk 2 r ks).holds vs=zax vs r from by rw [za0.holds_eq];rfl]
   cases d with
   | true =>
    rw [if_pos rfl,join_holds vs (.inr rfl),if_neg (by decide),dP]
    have:(za0.holds vs ∘ zb0)=zax vs:=funext fun q=>tight_holds vs q
    rw [this,denyR_holds];cases zax vs r <;> rfl
   | false=>rw [if_neg Bool.noConfusion,tight_holds];cases zax vs r <;> rfl
  rw [if_neg h2]
  by_cases h3:k=3
  ·subst h3
   rw [if_pos rfl,zfb vs r ks (.inl rfl),if_pos rfl]
   cases ks with
   | nil=>show (zcs d).holds vs=_;rw [zda];cases d <;> rfl
   | cons g gs =>
    show (g.flat (!d)).holds vs=_
    rw [ih g (cM ..) (!d)]
    show _=((!g.holds vs) != d)
    cases g.holds vs <;> cases d <;> rfl
  rw [if_neg h3]
  by_cases h4:k=4\/k=5
  ·rw [if_pos h4,zfb vs r ks (.inr h4),if_neg h3,join_holds vs (by cases d <;> simp <;> omega),b6]
   have e1:∀ b:Bool,((ks.map ((fun c=>c d) ∘ za0.flat)).all (za0.holds vs))=ks.all (fun g=>g.holds vs != d):=fun _=>by
    rw [dB,cV,cG,cG]
    exact forall_congr' fun g=>forall_congr' fun hg=>by rw [show (za0.holds vs ∘ ((fun c=>c d) ∘ za0.flat)) g=(g.flat d).holds vs from rfl,ih g hg d]
   have e2:∀ b:Bool,((ks.map ((fun c=>c d) ∘ za0.flat)).any (za0.holds vs))=ks.any (fun g=>g.holds vs != d):=fun _=>by
    rw [dP,cV,cL,cL]
    exact exists_congr fun g=>and_congr_right fun hg=>by rw [show (za0.holds vs ∘ ((fun c=>c d) ∘ za0.flat)) g=(g.flat d).holds vs from rfl,ih g hg d]
   rw [e1 true,e2 true]
   cases d with
   | false =>
    have e:(fun g:za0=>g.holds vs != false)=za0.holds vs:=funext fun g=>by cases g.holds vs <;> rfl
    rw [e]
    rcases h4 with h | h <;> subst h
    ·simp
    ·simp
   | true =>
    have e:(fun g:za0=>g.holds vs != true)=fun g=>!g.holds vs:=funext fun g=>by cases g.holds vs <;> rfl
    rw [e]
    rcases h4 with h | h <;> subst h
    ·simp [List.any_eq_not_all_not]
    ·simp [List.all_eq_not_any_not]
  ·rw [if_neg h4,zda,za0.holds_eq vs (za0.mk k r ks),if_neg (show ¬ (za0.mk k r ks).kind=0 from h0),if_neg (show ¬ (za0.mk k r ks).kind=2 from h2),if_neg (show ¬ (za0.mk k r ks).kind=3 from h3),if_neg (show ¬ (za0.mk k r ks).kind=4 from fun e=>h4 (.inl e)),if_neg (show ¬ (za0.mk k r ks).kind=5 from fun e=>h4 (.inr e))];cases d <;> rfl) f
theorem kc_3:SlT eA 40 32 4:=SlT.mk' Tryz.underlying40 (by kernel_rfl)
theorem kc_5:ElZ eA 40 32 4:=ElZ.mk' Tryz.underlying40 _ _ rfl rfl
def fltV (j:Nat) (ps:List za4):List za4:=ps.filter fun p=>decide (0<=p.v/\p.v<(j:Int))
theorem fltV_succ (vs:List ZI) (j:Nat):∀ ps:List za4,zeq vs (fltV (j+1) ps)=zeq vs (fltV j ps)+zah ps j*zce vs j
 | []=>by simp [fltV,zeq,zah]
 | p :: ps=>by
  have ih:=fltV_succ vs j ps
  simp only [fltV] at ih ⊢
  simp only [List.filter_cons,zah,cR]
  by_cases h1:0<=p.v/\p.v<(j:Int)
  ·rw [if_pos (yQ (by omega)),if_pos (yQ h1),if_neg (by omega)]
   simp only [zeq,ih];omega
  ·by_cases h2:p.v=(j:Int)
   ·rw [if_pos (yQ (by omega)),if_neg (by simpa using h1),if_pos (by omega)]
    simp only [zeq,ih,h2];omega
   ·rw [if_neg (by rw [decide_eq_true_eq];omega),if_neg (by simpa using h1),if_neg (by omega),ih];omega
theorem fltV_all (vs:List ZI):∀ ps:List za4,zeq vs (fltV vs.length ps)=zeq vs ps
 | []=>rfl
 | p :: ps=>by
  have ih:=fltV_all vs ps
  simp only [fltV] at ih ⊢
  simp only [List.filter_cons]
  by_cases h1:0<=p.v/\p.v<(vs.length:Int)
  ·rw [if_pos (yQ h1)];simp only [zeq,ih]
  ·rw [if_neg (by simpa using h1),ih,zeq]
   by_cases h2:0<=p.v
   ·rw [valAt_out (by omega)];omega
   ·rw [valAt_neg (by omega)];omega
theorem fltV_zero (ps:List za4):fltV 0 ps=[]:=by
 unfold fltV;rw [List.filter_eq_nil_iff];intro p _;rw [decide_eq_true_eq];omega
theorem fltV_mem:∀ p ∈ fltV j ps,p ∈ ps:=fun p hp=>(List.mem_filter.1 hp).1
theorem fltV_len (j:Nat) (ps:List za4):(fltV j ps).length<=ps.length:=List.length_filter_le _ _
theorem SSize0 (f:za0) (lim:Int) (ih:∀ g ∈ f.kids,∀ l:Int,0<=l->l<=1000->Fn eA 102 [] [(vF g),vI l] (vI (g.size l)) []) (h0:0<=lim) (h1:lim<=1000) (hk:f.kids.length<=9223372036854775807):Fn eA 102 [] [(vF f),vI lim] (vI (f.size lim)) []:=by
 have lk:=cnt_len f.kind f.kids;refine fB Tryz.func102 rfl 32 fun w H B a h=>Jq 0 [] [(1,vI lim),(2,vp 0 0),(4,vI 0)] [(0,.box (zF f))] h fun a w h=>Je 1 [] [] [(5,vI 1)] h fun a w h=>Jg 1 [(1,.call (SKids f))] [2] [(6,(vFs (cnt f.kind f.kids)))] [0] [] h fun a w h=>qW (Jg 1 [] [] [(7,vI 0)] [] [] h fun a w h=>qZ ?_)
 refine zbw (ι:=(Nat) × (Int)) (fun (j,n)=>j<=(cnt f.kind f.kids).length/\f.size lim=zdp lim (((cnt f.kind f.kids).map za0.size).drop j) n/\1<=n/\n<=lim+1)
   [] (fun (j,n)=>[(5,vI n),(7,vN j)])
   [] (fun (j,n)=>[])
   (fun (j,n)=>(cnt f.kind f.kids).length - j) (0,1) ?_ h ?_
 ·exact ⟨bC _,za0.size_eq f lim,by omega,by omega⟩
 clear h;rintro ⟨j,n⟩ a w hI h;dsimp only at h;obtain ⟨hI1,hI2,hI3,hI4⟩:=hI;refine qW ?_
 rcases bG (decide ((j:Int)<((cnt f.kind f.kids).length:Int))) with hc1 | hc4
 ·have hc1':=dT hc1;refine Jg 1 [(2,.len (za3 6 za0.d (cnt f.kind f.kids))),(3,.cmp (op:=.lss) (m:=(j:Int)) (n:=((cnt f.kind f.kids).length:Int)) (b:=true) .i64 hc1)] [] [(18,vb (decide (n<=lim)))] [] [] h fun a w h=>zad (n<=lim) h (fun hc2 hc2'=>?_) (fun hc3 hc3'=>?_)
  ·refine qU (za1 (qW (qZ ?_)));obtain ⟨x2,hx2⟩:=gl (cnt f.kind f.kids) j;have bz:0<=lim - n->1<=x2.size (lim - n)/\x2.size (lim - n)<=lim - n+1:=x2.size_bd (lim - n);refine Jh 1 [(3,.g (xD 24 22 zie ((za7 hx2 (f:=za0.d)).trans (yJ some (za0.d_eq x2))) (eC 23 _))),(7,.sub .i64 (m:=lim) (n:=n) i6),(8,.call (ih x2 (zb9 (lM hx2)) (lim - n) (by omega) (by omega))),(9,.add .i64 (m:=n) (n:=(x2.size (lim - n))) i6)] [18] [(5,vI (n+(x2.size (lim - n))))] [] [] h fun a w h=>za6 (za1 (Jh 1 [(1,.j1 j)] [] [(7,vI ((j:Int)+1))] [] [] h fun a w h=>za1 (zaa (x:=(j,n)) (y:=((j+1),n+x2.size (lim - n))) h ?_ ?_)))
   ·exact ⟨by have:=zab hx2;omega,by rw [hI2,sizeGo_at (za7 hx2 (f:=za0.size)) (by omega)],by have:=bz (by omega);omega,by have:=bz (by omega);omega⟩
   show (cnt f.kind f.kids).length - (j+1)<(cnt f.kind f.kids).length - j;have:=zab hx2;omega
  refine exA (Jq 1 [] [(4,vI n)] [] h fun a w h=>qV (rT (.c (cI n)) h rfl ?_))
  have hz:f.size lim=n:=by
   rw [hI2];refine sizeGo_out ?_
   by_cases hn:n<=lim
   ·right;exact bP (by rw [bE];first | omega | (simp_all;omega))
   exact .inl hn
  rw [hz];try rfl
 have hc4':=dF hc4;refine Jg 1 [(2,.len (za3 6 za0.d (cnt f.kind f.kids))),(3,.cmp (op:=.lss) (m:=(j:Int)) (n:=((cnt f.kind f.kids).length:Int)) (b:=false) .i64 hc4)] [] [(18,vb false)] [] [] h fun a w h=>zau h (exA (Jq 1 [] [(4,vI n)] [] h fun a w h=>qV (rT (.c (cI n)) h rfl ?_)))
 have hz:f.size lim=n:=by
  rw [hI2];refine sizeGo_out ?_
  by_cases hn:n<=lim
  ·right;exact bP (by rw [bE];first | omega | (simp_all;omega))
  exact .inl hn
 rw [hz];try rfl
theorem SSize (f:za0):f.lb->∀ lim:Int,0<=lim->lim<=1000->Fn eA 102 [] [(vF f),vi .i64 lim] (vi .i64 (f.size lim)) [] :=
 za0.ind (P:=fun f=>f.lb->∀ lim:Int,0<=lim->lim<=1000->Fn eA 102 [] [(vF f),vi .i64 lim] (vi .i64 (f.size lim)) []) (fun k r ks ih hl lim h0 h1=>by
  have hl:=(za0.lb_eq _).1 hl
  exact SSize0 ⟨k,r,ks⟩ lim (fun g hg l g0 g1=>ih g hg (hl.2 g hg) l g0 g1) h0 h1 hl.1.2) f
def zhj (rs:List za9) (most L:Int):Bool:=decide ((rs.length:Int)<=most) && rs.all (fewR L)
theorem SFewRs (rs:List za9) (most L:Int) (hl:rs.length<=9223372036854775807):Fn eA 31 [] [(vRs rs),vI most,vI L] (vb (zhj rs most L)) []:=by
 refine fB Tryz.func31 rfl 64 fun w H B a h=>Jq 0 [] [(0,(vRs rs)),(1,vI most),(2,vI L),(6,vb false)] [] h fun a w h=>qW (Jg 0 [(1,.len (za3 4 za9.d rs))] [1] [(12,vb (decide ((rs.length:Int)>most)))] [] [] h fun a w h=>zad ((rs.length:Int)>most) h (fun hc1 hc1'=>?_) (fun hc2 hc2'=>?_))
 ·refine Jg 0 [] [12] [] [] [] h fun a w h=>qV (za5 (rT (.c (cB false)) h rfl ?_));rw [show zhj rs most L=false from by unfold zhj;rw [yX (by have:=dT hc1;omega)];rfl];try rfl
 refine qU (za1 (qW (Jg 0 [] [12] [(7,vI 0)] [] [] h fun a w h=>qZ ?_)))
 refine zbw (ι:=(Nat)) (fun j=>j<=rs.length/\(rs.take j).all (fewR L)=true)
   [6] (fun j=>[(7,vN j)])
   [] (fun j=>[])
   (fun j=>rs.length - j) 0 ?_ h ?_
 ·exact ⟨bC _,rfl⟩
 clear h;rintro j a w hI h;obtain ⟨hI1,hI2⟩:=hI;refine qW (Jg 0 [(2,.len (za3 4 za9.d rs))] [] [(16,vb (decide ((j:Int)<(rs.length:Int))))] [] [] h fun a w h=>zad ((j:Int)<(rs.length:Int)) h (fun hc3 hc3'=>?_) (fun hc12 hc12'=>?_))
 ·refine qU (za1 (qW (qZ (qW ?_))));obtain ⟨x1,hx1⟩:=gl rs j
  rcases bG (decide ((x1.t.parts.length:Int)>20)) with hc4 | hc5
  ·have hc4':=dT hc4;refine Jg 0 [(2,.g (xD 21 19 kc_3 (za7 hx1 (f:=za9.d)) (eC 20 _))),(6,.len (za3 3 eK x1.t.parts)),(7,.cmp (op:=.gtr) (m:=(x1.t.parts.length:Int)) (n:=20) (b:=true) .i64 hc4)] [16] [(38,vb true)] [] [] h fun a w h=>cS true h (fun _=>?_) nofun
   refine Jg 0 [] [38] [(6,vb false)] [] [] h fun a w h=>qV (za5 (za8 (za5 (za5 (za8 (za5 (rT (.c (cB false)) h rfl ?_)))))));rw [show zhj rs most L=false from by unfold zhj;rw [zca hx1 (show fewR L x1=false from by rw [fewR,yX (by have:=dT hc4;omega)];rfl),cN]];try rfl
  have hc5':=dF hc5;refine Jg 0 [(2,.g (xD 21 19 kc_3 (za7 hx1 (f:=za9.d)) (eC 20 _))),(6,.len (za3 3 eK x1.t.parts)),(7,.cmp (op:=.gtr) (m:=(x1.t.parts.length:Int)) (n:=20) (b:=false) .i64 hc5),(11,.g (xD 30 28 kc_3 (za7 hx1 (f:=za9.d)) (eC 29 _))),(16,.len (zf6 x1.t.k.abs))] [16] [(38,vb (decide ((x1.t.k.abs.length:Int)>L)))] [] [] h fun a w h=>zad ((x1.t.k.abs.length:Int)>L) h (fun hc6 hc6'=>?_) (fun hc7 hc7'=>?_)
  ·refine Jg 0 [] [38] [(6,vb false)] [] [] h fun a w h=>qV (za5 (za8 (za5 (za5 (za8 (za5 (rT (.c (cB false)) h rfl ?_)))))));rw [show zhj rs most L=false from by unfold zhj;rw [zca hx1 (show fewR L x1=false from by rw [fewR,yX (p:=(_:Int)<=L) (by have:=dT hc6;omega),cN];rfl),cN]];try rfl
  refine qU (za1 (Jg 0 [] [38] [(8,vI 0)] [] [] h fun a w h=>qZ ?_));have hjr:=hI1
  refine zbw (ι:=(Nat)) (fun i=>i<=x1.t.parts.length/\(x1.t.parts.take i).all (fun p=>decide ((p.c.abs.length:Int)<=L))=true)
    [] (fun i=>[(8,vN i)])
    [] (fun i=>[])
    (fun i=>x1.t.parts.length - i) 0 ?_ h ?_
  ·exact ⟨bC _,rfl⟩
  clear h;rintro i a w hI h;obtain ⟨hJ1,hJ2⟩:=hI;refine qW (Jg 0 [(3,.g (xD 42 40 kc_3 (za7 hx1 (f:=za9.d)) (eC 41 _))),(7,.len (za3 3 eK x1.t.parts))] [] [(47,vb (decide ((i:Int)<(x1.t.parts.length:Int))))] [] [] h fun a w h=>zad ((i:Int)<(x1.t.parts.length:Int)) h (fun hc8 hc8'=>?_) (fun hc11 hc11'=>?_))
  ·refine qU (za1 (qW (qZ ?_)));obtain ⟨x2,hx2⟩:=gl x1.t.parts i;refine Jg 0 [(2,.g (xD 52 50 kc_3 (za7 hx1 (f:=za9.d)) (eC 51 _))),(7,.g (xD 57 55 zcl (za7 hx2 (f:=eK)) (eC 56 _))),(11,.len (zf6 x2.c.abs))] [47] [(63,vb (decide ((x2.c.abs.length:Int)>L)))] [] [] h fun a w h=>zad ((x2.c.abs.length:Int)>L) h (fun hc9 hc9'=>?_) (fun hc10 hc10'=>?_)
   ·refine Jg 0 [] [63] [(6,vb false)] [] [] h fun a w h=>qV (za8 (za5 (za5 (za8 (za8 (za5 (za5 (za8 (za5 (rT (.c (cB false)) h rfl ?_))))))))));rw [show zhj rs most L=false from by unfold zhj;rw [zca hx1 (show fewR L x1=false from by rw [fewR,zca hx2 (yX (by have:=dT hc9;omega)),cN]),cN]];try rfl
   refine qU (za6 (za1 (Jh 0 [(1,.j1 i)] [63] [(8,vI ((i:Int)+1))] [] [] h fun a w h=>za1 (zaa (x:=i) (y:=i+1) h ?_ ?_))))
   ·exact ⟨by have:=zab hx2;omega,zdj hx2 hJ2 (yQ (by have:=dF hc10;omega))⟩
   show x1.t.parts.length - (i+1)<x1.t.parts.length - i;have:=zab hx2;omega
  refine wp_exit (zcb (zcb (zaz (za6 (za1 (Jh 0 [(1,.j1 j)] [8,47] [(7,vI ((j:Int)+1))] [] [] h fun a w h=>za1 (zaa (x:=j) (y:=j+1) h ?_ ?_)))))))
  ·exact ⟨by have:=zab hx1;omega,zdj hx1 hI2 (by rw [fewR,yQ (by have:=dF hc5;omega),yQ (by have:=dF hc7;omega),ze2 (dF hc11) hJ2];rfl)⟩
  show rs.length - (j+1)<rs.length - j;have:=zab hx1;omega
 refine exA (Jq 0 [] [(6,vb true)] [] h fun a w h=>qV (rT (.c (cB true)) h rfl ?_));rw [show zhj rs most L=true from by unfold zhj;rw [yQ (by have:=dF hc2;omega),ze2 (dF hc12) hI2];rfl];try rfl
theorem fewRs_one (r:za9) (L:Int):zhj [r] 1 L=fewR L r:=by simp [zhj]
theorem Sfew0 (f:za0) (L:Int) (ih:∀ g ∈ f.kids,Fn eA 103 [] [(vF g),vI L] (vb (g.few L)) []) (hk:f.kids.length<=9223372036854775807):Fn eA 103 [] [(vF f),vI L] (vb (f.few L)) []:=by
 have lk:=cnt_len f.kind f.kids;refine fB Tryz.func103 rfl 33 fun w H B a h=>Jq 0 [] [(1,vI L),(2,vp 0 0),(4,vb false)] [(0,.box (zF f))] h fun a w h=>qW ?_
 rcases bG (f.kind == 2) with hc1 | hc8
 ·refine Je 1 [(2,.cmp (op:=.eql) (m:=f.kind) (n:=2) (b:=true) .i64 hc1),(6,.g (bD 13 ([f.r].map za9.d) [(12,(vR f.r))] kc_5 (.cons (i:=0) (eC 12 _) (.nil)) (by kernel_rfl) (by simp [za9.d]))),(8,.call (eB (SFewRs [f.r] 1 L (by simp)) (yJ vb (fewRs_one f.r L))))] [] [(17,vb (!(fewR L f.r)))] h fun a w h=>cS (!(fewR L f.r)) h (fun hc2=>?_) (fun hc3=>?_)
  ·refine Je 1 [] [17] [] h fun a w h=>qV (za5 (rT (.c (cB false)) h rfl ?_));have hz:f.few L=false:=by rw [za0.few_eq,(show (!(f.kind == 2) || fewR L f.r)=false from by rw [hc1];rw [(show (fewR L f.r)=false from by simpa using hc2)];rfl)];rfl
   rw [hz];try rfl
  refine qU (za1 (Jg 1 [(1,.call (SKids f))] [2,17] [(5,(vFs (cnt f.kind f.kids)))] [0] [] h fun a w h=>qW (Jg 1 [] [] [(6,vI 0)] [] [] h fun a w h=>qZ ?_)))
  refine zbw (ι:=(Nat)) (fun j=>j<=(cnt f.kind f.kids).length/\((cnt f.kind f.kids).take j).all (za0.few L)=true)
    [4] (fun j=>[(6,vN j)])
    [] (fun j=>[])
    (fun j=>(cnt f.kind f.kids).length - j) 0 ?_ h ?_
  ·exact ⟨bC _,rfl⟩
  clear h;rintro j a w hI h;obtain ⟨hI1,hI2⟩:=hI;refine qW (Jg 1 [(2,.len (za3 6 za0.d (cnt f.kind f.kids)))] [] [(23,vb (decide ((j:Int)<((cnt f.kind f.kids).length:Int))))] [] [] h fun a w h=>zad ((j:Int)<((cnt f.kind f.kids).length:Int)) h (fun hc4 hc4'=>?_) (fun hc7 hc7'=>?_))
  ·refine qU (za1 (qW (qZ ?_)));obtain ⟨x3,hx3⟩:=gl (cnt f.kind f.kids) j;refine Jg 1 [(2,.g (xD 28 26 zie ((za7 hx3 (f:=za0.d)).trans (yJ some (za0.d_eq x3))) (eC 27 _))),(5,.call (ih x3 (zb9 (lM hx3))))] [23] [(32,vb (!(za0.few L x3)))] [] [] h fun a w h=>cS (!(za0.few L x3)) h (fun hc5=>?_) (fun hc6=>?_)
   ·refine Jg 1 [] [32] [(4,vb false)] [] [] h fun a w h=>qV (za8 (za5 (za5 (za8 (za5 (rT (.c (cB false)) h rfl ?_))))));have hz:f.few L=false:=by rw [za0.few_eq,zca hx3 (show (za0.few L x3)=false from by simpa using hc5),cN]
    rw [hz];try rfl
   refine qU (za6 (za1 (Jh 1 [(1,.j1 j)] [32] [(6,vI ((j:Int)+1))] [] [] h fun a w h=>za1 (zaa (x:=j) (y:=j+1) h ?_ ?_))))
   ·exact ⟨by have:=zab hx3;omega,zdj hx3 hI2 (show (za0.few L x3)=true from by simpa using hc6)⟩
   show (cnt f.kind f.kids).length - (j+1)<(cnt f.kind f.kids).length - j;have:=zab hx3;omega
  refine exA (Jq 1 [] [(4,vb true)] [] h fun a w h=>qV (rT (.c (cB true)) h rfl ?_));have hz:f.few L=true:=by rw [za0.few_eq,(show (!(f.kind == 2) || fewR L f.r)=true from by rw [hc1];rw [(show (fewR L f.r)=true from by simpa using hc3)];rfl),ze2 (dF hc7) hI2];rfl
  rw [hz];try rfl
 refine Je 1 [(2,.cmp (op:=.eql) (m:=f.kind) (n:=2) (b:=false) .i64 hc8)] [] [(17,vb false)] h fun a w h=>zau h (qU (za1 (Jg 1 [(1,.call (SKids f))] [2,17] [(5,(vFs (cnt f.kind f.kids)))] [0] [] h fun a w h=>qW (Jg 1 [] [] [(6,vI 0)] [] [] h fun a w h=>qZ ?_))))
 refine zbw (ι:=(Nat)) (fun j=>j<=(cnt f.kind f.kids).length/\((cnt f.kind f.kids).take j).all (za0.few L)=true)
   [4] (fun j=>[(6,vN j)])
   [] (fun j=>[])
   (fun j=>(cnt f.kind f.kids).length - j) 0 ?_ h ?_
 ·exact ⟨bC _,rfl⟩
 clear h;rintro j a w hI h;obtain ⟨hI1,hI2⟩:=hI;refine qW (Jg 1 [(2,.len (za3 6 za0.d (cnt f.kind f.kids)))] [] [(23,vb (decide ((j:Int)<((cnt f.kind f.kids).length:Int))))] [] [] h fun a w h=>zad ((j:Int)<((cnt f.kind f.kids).length:Int)) h (fun hc9 hc9'=>?_) (fun hc12 hc12'=>?_))
 ·refine qU (za1 (qW (qZ ?_)));obtain ⟨x6,hx6⟩:=gl (cnt f.kind f.kids) j;refine Jg 1 [(2,.g (xD 28 26 zie ((za7 hx6 (f:=za0.d)).trans (yJ some (za0.d_eq x6))) (eC 27 _))),(5,.call (ih x6 (zb9 (lM hx6))))] [23] [(32,vb (!(za0.few L x6)))] [] [] h fun a w h=>cS (!(za0.few L x6)) h (fun hc10=>?_) (fun hc11=>?_)
  ·refine Jg 1 [] [32] [(4,vb false)] [] [] h fun a w h=>qV (za8 (za5 (za5 (za8 (za5 (rT (.c (cB false)) h rfl ?_))))));have hz:f.few L=false:=by rw [za0.few_eq,zca hx6 (show (za0.few L x6)=false from by simpa using hc10),cN]
   rw [hz];try rfl
  refine qU (za6 (za1 (Jh 1 [(1,.j1 j)] [32] [(6,vI ((j:Int)+1))] [] [] h fun a w h=>za1 (zaa (x:=j) (y:=j+1) h ?_ ?_))))
  ·exact ⟨by have:=zab hx6;omega,zdj hx6 hI2 (show (za0.few L x6)=true from by simpa using hc11)⟩
  show (cnt f.kind f.kids).length - (j+1)<(cnt f.kind f.kids).length - j;have:=zab hx6;omega
 refine exA (Jq 1 [] [(4,vb true)] [] h fun a w h=>qV (rT (.c (cB true)) h rfl ?_));have hz:f.few L=true:=by rw [za0.few_eq,(show (!(f.kind == 2) || fewR L f.r)=true from by rw [hc8];rfl),ze2 (dF hc12) hI2];rfl
 rw [hz];try rfl
theorem Sfew (L:Int) (f:za0):f.lb->Fn eA 103 [] [(vF f),vi .i64 L] (vb (f.few L)) [] :=
 za0.ind (P:=fun f=>f.lb->Fn eA 103 [] [(vF f),vi .i64 L] (vb (f.few L)) []) (fun k r ks ih hl=>by
  have hl:=(za0.lb_eq _).1 hl
  exact Sfew0 ⟨k,r,ks⟩ L (fun g hg=>ih g hg (hl.2 g hg)) hl.1.2) f
theorem SFewF (f:za0) (most L:Int) (hl:f.lb) (h0:0<=most) (h1:most<=1000):Fn eA 64 [] [(vF f),vI most,vI L] (vb (zm9 f most L)) []:=by
 refine fB Tryz.func64 rfl 15 fun w H B a h=>Jq 0 [] [(1,vI most),(2,vI L),(3,vp 0 0),(6,vb false)] [(0,.box (zF f))] h fun a w h=>qW (Je 1 [(2,.call (SSize f hl most h0 h1))] [1] [(11,vb (decide (f.size most>most)))] h fun a w h=>zad (f.size most>most) h (fun hc1 hc1'=>?_) (fun hc2 hc2'=>?_))
 ·refine Je 1 [] [11] [] h fun a w h=>qV (za5 (rT (.c (cB false)) h rfl ?_));unfold zm9;rw [hc1];try rfl
 refine qU (za1 (Jq 1 [(2,.call (Sfew L f hl))] [(6,vb (f.few L))] [] h fun a w h=>qV (rT (.c (cB (f.few L))) h rfl ?_)));unfold zm9;rw [hc2];try rfl
theorem SRValue (t:zaf) (vs:List ZI) {L:Nat} (ht:TOk n L t) (hn:n<=1000000000) (hL:L+M<=20000) (hv:VOk M vs):Fn eA 42 [] [(vT t),(vZs vs)] (vz (eI (zd6 t vs))) []:=by
 have kt:=ht.kl;have lnv:=hv.1;refine fB Tryz.func42 rfl 27 fun w H B a h=>Jq 0 [] [(1,(vZs vs)),(2,vp 0 0),(4,vp 1 0)] [(0,.box (zT t)),(1,.box [cB false,.d (nsl [])])] h fun a w h=>Jg 2 [] [] [(5,vp 2 0)] [] [(2,.box (zi t.k))] h fun a w h=>qW (Je 3 [] [] [(6,vI 0)] h fun a w h=>qZ ?_)
 refine zbw (ι:=(Nat) × (ZI)) (fun (j,out)=>j<=vs.length/\out.val=t.k.val+zeq vs (fltV j t.parts)/\Lb out.abs/\out.abs.length<=L+M+2)
   [] (fun (j,out)=>[(6,vN j)])
   [] (fun (j,out)=>[(2,.box (zi out))])
   (fun (j,out)=>vs.length - j) (0,t.k) ?_ h ?_
 ·exact ⟨bC _,by rw [fltV_zero];simp [zeq],ht.kb,by omega⟩
 clear h;rintro ⟨j,out⟩ a w hI h;dsimp only at h;obtain ⟨hI1,vo,ho,lo⟩:=hI;refine qW (Je 3 [(2,.len (za3 2 ziD vs))] [] [(12,vb (decide ((j:Int)<(vs.length:Int))))] h fun a w h=>zad ((j:Int)<(vs.length:Int)) h (fun hc1 hc1'=>?_) (fun hc2 hc2'=>?_))
 ·refine qU (za1 (qW (qZ ?_)));obtain ⟨r1,er1,vr1,or1,lr1⟩:=mkZ (v:=zah t.parts (j:Int)) (m:=L+1) (zi8 (ht.mono hn (bI L)).psok (j:Int));obtain ⟨x2,hx2⟩:=gl vs j;obtain ⟨ox2,lx2⟩:=hv.get hx2;obtain ⟨r3,er3,vr3,or3,lr3⟩:=mkZ (v:=r1.val*x2.val) (m:=r1.abs.length+x2.abs.length) (len_mul or1 ox2);obtain ⟨r4,er4,vr4,or4,lr4⟩:=mkZ (v:=out.val+r3.val) (m:=out.abs.length+r3.abs.length+1) (zep ho or3);refine Jh 3 [(3,.call (eB (SCoef t (j:Int) (ht.mono hn (show L<=40000 by omega)).psok) (yJ vz er1.symm))),(6,.g (xD 21 19 tt_6 (za7 hx2 (f:=ziD)) (eC 20 _))),(8,.call (eB (SRMul r1 x2 or1 ox2 (by omega) (by omega)) (yJ vz er3.symm))),(9,.call (eB (SRAdd out r3 ho or3 (by omega) (by omega)) (yJ vz er4.symm)))] [12] [] [] [(2,.box (zi r4))] h fun a w h=>za6 (za1 (Jf 3 [(1,.j1 j)] [] [(6,vI ((j:Int)+1))] h fun a w h=>za1 (zaa (x:=(j,out)) (y:=((j+1),r4)) h ?_ ?_)))
  ·have:=zab hx2;have hvz:r4.val=t.k.val+zeq vs (fltV (j+1) t.parts):=by rw [vr4,vr3,vr1,vo,fltV_succ,valAt_some (v:=(j:Int)) rfl hx2,Int.add_assoc]
   exact ⟨by omega,hvz,or4,by rw [er4];exact bU (by rw [<- vr4,hvz];exact val_len ht hn hv fltV_mem (fltV_len _ _)) (by omega)⟩
  show vs.length - (j+1)<vs.length - j;have:=zab hx2;omega
 refine exA ?_;obtain ⟨r5,er5,vr5,or5,lr5⟩:=mkZ (v:=out.val) (m:=out.abs.length) (zdd ho);refine Jq 3 [(1,.call (eB (SRClean out ho (by omega)) (yJ vz er5.symm)))] [(4,vp 1 0)] [(1,.box (zi r5))] h fun a w h=>qV (rA 1 (zi r5) h zet rfl ?_);have hz:out.val=zd6 t vs:=by rw [vo,show j=vs.length by first | omega | (simp_all;omega),fltV_all];rfl
 first | (rw [er5,hz];done) | (rw [er5,hz];rfl) | (rw [hz];done) | (rw [hz];rfl)
theorem SRrelHoldsG (r:za9) (vs:List ZI) {L:Nat} (hn:n<=1000000000) (hL:L+M<=20000) (hv:VOk M vs) (hr:TOk n L r.t):Fn eA 19 [] [(vR r),(vZs vs)] (vb (zax vs r)) []:=by
 refine fB Tryz.func19 rfl 17 fun w H B a h=>Jq 0 [] [(1,(vZs vs)),(2,vp 0 0),(4,vb false)] [(0,.box (zR_ r))] h fun a w h=>?_
 obtain ⟨r1,er1,vr1,or1,lr1⟩:=mkZ (v:=zd6 r.t vs) (m:=L+M+2) (bU (val_len hr hn hv (fun p hp=>hp) (bI _)) (by omega));refine Je 1 [(3,.call (eB (SRValue r.t vs hr hn hL hv) (yJ vz er1.symm))),(4,.call (ze5 r1 or1 (by omega)))] [1] [(5,vI (sgn r1.val))] h fun a w h=>qW (Jg 1 [] [2] [(12,vb r.eq)] [0] [] h fun a w h=>cS r.eq h (fun hc1=>?_) (fun hc2=>?_))
 ·refine Jg 1 [] [12] [(4,vb (sgn r1.val == 0))] [] [] h fun a w h=>qV (za5 (rT (.c (cB (sgn r1.val == 0))) h rfl ?_))
  have hz:zax vs r=(sgn r1.val == 0):=by
   unfold zax;rw [<- vr1]
   cases he:r.eq <;> simp_all <;> omega
  rw [hz];try rfl
 refine qU (za1 (Jq 1 [] [(4,vb (decide (sgn r1.val>=0)))] [] h fun a w h=>qV (rT (.c (cB (decide (sgn r1.val>=0)))) h rfl ?_)))
 have hz:zax vs r=(decide (sgn r1.val>=0)):=by
  unfold zax;rw [<- vr1]
  cases he:r.eq <;> simp_all <;> omega
 rw [hz];try rfl
theorem SRrelHolds (r:za9) (vs:List ZI) {L:Nat} (hL:L+M<=20000) (hv:VOk M vs) (hr:TokR L r):Fn eA 19 [] [(vR r),(vZs vs)] (vb (zax vs r)) []:=SRrelHoldsG r vs (n:=20) (by decide) hL hv hr
theorem zjm {xs:List α} {x:α} (h:xs[0]?=some x):x ∈ xs.take 1:=by
 cases xs with
 | nil=>cases h
 | cons y ys=>simp at h;subst h;simp
theorem cons_of_at {xs:List α} {x:α} (h:xs[0]?=some x):∃ tl,xs=x :: tl:=by
 cases xs with
 | nil=>cases h
 | cons y ys=>simp at h;subst h;exact ⟨ys,rfl⟩
theorem SRHoldsG (f:za0) (vs:List ZI) (Q:za0->Prop) (ih:∀ g ∈ f.kids,Q g->Fn eA 16 [] [(vF g),(vZs vs)] (vb (za0.holds vs g)) []) (hr:f.kind=2->Fn eA 19 [] [(vR f.r),(vZs vs)] (vb (zax vs f.r)) []) (hq:∀ g ∈ cnt f.kind f.kids,Q g) (hk:f.kids.length<=9223372036854775807):Fn eA 16 [] [(vF f),(vZs vs)] (vb (f.holds vs)) []:=by
 refine fB Tryz.func16 rfl 65 fun w H B a h=>?_
 refine Jq 0 [] [(1,(vZs vs)),(2,vp 0 0),(4,vb false)] [(0,.box (zF f))] h fun a w h=>?_;refine qW (Je 1 [] [] [(8,vI f.kind)] h fun a w h=>?_);refine qZ (Je 1 [] [] [(9,vb (f.kind == 0))] h fun a w h=>?_);refine cS (f.kind == 0) h (fun hc1=>?_) (fun hc2=>?_)
 ·have hc1':=hc1;(try simp at hc1');refine Jq 1 [] [(4,vb true)] [] h fun a w h=>?_;refine qV (za8 (za5 ?_));refine rT (.c (cB true)) h rfl ?_;have hz:f.holds vs=(true):=by rw [za0.holds_eq,if_pos (by omega)];try rfl
  rw [hz];try rfl
 have hc2':=hc2;(try simp at hc2');refine Je 1 [] [9] [(11,vb (f.kind == 2))] h fun a w h=>?_;refine cS (f.kind == 2) h (fun hc3=>?_) (fun hc4=>?_)
 ·have hc3':=hc3;(try simp at hc3');refine Jq 1 [(3,.call (hr (by omega)))] [(4,vb (zax vs f.r))] [] h fun a w h=>?_;refine qV (za8 (za5 ?_));refine rT (.c (cB (zax vs f.r))) h rfl ?_;have hz:f.holds vs=(zax vs f.r):=by rw [za0.holds_eq,if_neg (by omega),if_pos (by omega)];try rfl
  rw [hz];try rfl
 have hc4':=hc4;(try simp at hc4');refine Je 1 [] [11] [(17,vb (f.kind == 3))] h fun a w h=>?_;refine cS (f.kind == 3) h (fun hc5=>?_) (fun hc8=>?_)
 ·have hc5':=hc5;(try simp at hc5')
  rcases bG (decide ((f.kids.length:Int)>0)) with hc6 | hc7
  ·have hc6':=dT hc6;obtain ⟨x2,hx2⟩:=gl f.kids 0;refine Jq 1 [(2,.len (za3 6 za0.d f.kids)),(3,.cmp (op:=.gtr) (m:=(f.kids.length:Int)) (n:=0) (b:=true) .i64 hc6),(7,.g (xD 26 25 zie ((za7 hx2 (f:=za0.d)).trans (yJ some (za0.d_eq x2))) (OV.const (.int .i64 0) rfl))),(10,.call (ih x2 (lM hx2) (hq _ (by unfold cnt;first | (rw [if_pos (by omega)];exact lM hx2) | (rw [if_neg (by omega),if_pos (by omega)];exact zjm hx2)))))] [(4,vb (!(za0.holds vs x2)))] [] h fun a w h=>?_;refine qV (za8 (za5 ?_));refine rT (.c (cB (!(za0.holds vs x2)))) h rfl ?_;have hz:f.holds vs=(!(za0.holds vs x2)):=by rw [za0.holds_eq,if_neg (by omega),if_neg (by omega),if_pos (by omega)];obtain ⟨tl,htl⟩:=cons_of_at hx2;rw [htl];try rfl
   rw [hz];try rfl
  have hc7':=dF hc7;refine Jq 1 [(2,.len (za3 6 za0.d f.kids)),(3,.cmp (op:=.gtr) (m:=(f.kids.length:Int)) (n:=0) (b:=false) .i64 hc7)] [(4,vb false)] [] h fun a w h=>?_;refine qV (za8 (za5 ?_));refine rT (.c (cB false)) h rfl ?_;have hz:f.holds vs=(false):=by rw [za0.holds_eq,if_neg (by omega),if_neg (by omega),if_pos (by omega)];rw [cC.1 (show f.kids.length=0 by have:=dF hc7;omega)];try rfl
  rw [hz];try rfl
 have hc8':=hc8;(try simp at hc8');refine Je 1 [] [17] [(32,vb (f.kind == 4))] h fun a w h=>?_;refine cS (f.kind == 4) h (fun hc9=>?_) (fun hc14=>?_)
 ·have hc9':=hc9;(try simp at hc9');refine qW (Je 1 [] [8,32] [(5,vI 0)] h fun a w h=>?_);refine qZ ?_
  refine zbw (ι:=(Nat)) (fun j=>j<=f.kids.length/\(f.kids.take j).all (za0.holds vs)=true)
    [4] (fun j=>[(5,vN j)])
    [] (fun j=>[])
    (fun j=>f.kids.length - j) 0 ?_ h ?_
  ·exact ⟨bC _,rfl⟩
  clear h;rintro j a w hI h;obtain ⟨hI1,hI2⟩:=hI;refine qW (Je 1 [(3,.len (za3 6 za0.d f.kids))] [] [(38,vb (decide ((j:Int)<(f.kids.length:Int))))] h fun a w h=>?_);refine zad ((j:Int)<(f.kids.length:Int)) h (fun hc10 hc10'=>?_) (fun hc13 hc13'=>?_)
  ·refine qU (za1 (qW (qZ ?_)));obtain ⟨x4,hx4⟩:=gl f.kids j;refine Je 1 [(3,.g (xD 44 42 zie ((za7 hx4 (f:=za0.d)).trans (yJ some (za0.d_eq x4))) (eC 43 _))),(6,.call (ih x4 (lM hx4) (hq _ (by unfold cnt;first | (rw [if_pos (by omega)];exact lM hx4) | (rw [if_neg (by omega),if_pos (by omega)];exact zjm hx4)))))] [38] [(48,vb (!(za0.holds vs x4)))] h fun a w h=>?_;refine cS (!(za0.holds vs x4)) h (fun hc11=>?_) (fun hc12=>?_)
   ·have hc11':=hc11;(try simp at hc11');refine Je 1 [] [48] [(4,vb false)] h fun a w h=>?_;refine qV (za8 (za5 (za5 (za8 (za5 (za8 (za5 ?_)))))));refine rT (.c (cB false)) h rfl ?_;have hz:f.holds vs=(false):=by rw [za0.holds_eq,if_neg (by omega),if_neg (by omega),if_neg (by omega),if_pos (by omega)];exact zca hx4 (show (za0.holds vs x4)=false from by simpa using hc11)
    rw [hz];try rfl
   have hc12':=hc12;(try simp at hc12');refine qU (za6 (za1 (Jf 1 [(1,.j1 j)] [48] [(5,vI ((j:Int)+1))] h fun a w h=>?_)));refine za1 ?_;refine zaa (x:=j) (y:=j+1) h ?_ ?_
   ·exact ⟨by have:=zab hx4;omega,zdj hx4 hI2 (show (za0.holds vs x4)=true from by simpa using hc12)⟩
   show f.kids.length - (j+1)<f.kids.length - j;have:=zab hx4;omega
  refine exA (Jq 1 [] [(4,vb true)] [] h fun a w h=>?_);refine qV (za8 (za5 ?_));refine rT (.c (cB true)) h rfl ?_;have hz:f.holds vs=(true):=by rw [za0.holds_eq,if_neg (by omega),if_neg (by omega),if_neg (by omega),if_pos (by omega)];exact ze2 (dF hc13) hI2
  rw [hz];try rfl
 have hc14':=hc14;(try simp at hc14');refine Je 1 [] [8,32] [(49,vb (f.kind == 5))] h fun a w h=>?_;refine cS (f.kind == 5) h (fun hc15=>?_) (fun hc20=>?_)
 ·have hc15':=hc15;(try simp at hc15');refine Je 1 [] [49] [(6,vI 0)] h fun a w h=>?_;refine qZ ?_
  refine zbw (ι:=(Nat)) (fun j=>j<=f.kids.length/\(f.kids.take j).any (za0.holds vs)=false)
    [4] (fun j=>[(6,vN j)])
    [] (fun j=>[])
    (fun j=>f.kids.length - j) 0 ?_ h ?_
  ·exact ⟨bC _,rfl⟩
  clear h;rintro j a w hI h;obtain ⟨hI1,hI2⟩:=hI;refine qW (Je 1 [(3,.len (za3 6 za0.d f.kids))] [] [(55,vb (decide ((j:Int)<(f.kids.length:Int))))] h fun a w h=>?_);refine zad ((j:Int)<(f.kids.length:Int)) h (fun hc16 hc16'=>?_) (fun hc19 hc19'=>?_)
  ·refine qU (za1 (qW (qZ ?_)));obtain ⟨x6,hx6⟩:=gl f.kids j;refine Je 1 [(3,.g (xD 61 59 zie ((za7 hx6 (f:=za0.d)).trans (yJ some (za0.d_eq x6))) (eC 60 _))),(6,.call (ih x6 (lM hx6) (hq _ (by unfold cnt;first | (rw [if_pos (by omega)];exact lM hx6) | (rw [if_neg (by omega),if_pos (by omega)];exact zjm hx6)))))] [55] [(64,vb (za0.holds vs x6))] h fun a w h=>?_;refine cS (za0.holds vs x6) h (fun hc17=>?_) (fun hc18=>?_)
   ·refine Je 1 [] [64] [(4,vb true)] h fun a w h=>?_;refine qV (za8 (za5 (za5 (za8 (za8 (za5 ?_))))));refine rT (.c (cB true)) h rfl ?_;have hz:f.holds vs=(true):=by rw [za0.holds_eq,if_neg (by omega),if_neg (by omega),if_neg (by omega),if_neg (by omega),if_pos (by omega)];exact zmf hx6 hc17
    rw [hz];try rfl
   refine qU (za6 (za1 (Jf 1 [(1,.j1 j)] [64] [(6,vI ((j:Int)+1))] h fun a w h=>?_)));refine za1 ?_;refine zaa (x:=j) (y:=j+1) h ?_ ?_
   ·exact ⟨by have:=zab hx6;omega,any_step hx6 hI2 hc18⟩
   show f.kids.length - (j+1)<f.kids.length - j;have:=zab hx6;omega
  refine wp_exit (zcb (zcb (zaz (za6 (za1 (Jq 1 [] [(4,vb false)] [] h fun a w h=>?_))))));refine qV ?_;refine rT (.c (cB false)) h rfl ?_;have hz:f.holds vs=(false):=by rw [za0.holds_eq,if_neg (by omega),if_neg (by omega),if_neg (by omega),if_neg (by omega),if_pos (by omega)];exact any_end (dF hc19) hI2
  rw [hz];try rfl
 have hc20':=hc20;(try simp at hc20');refine qU (za6 (za1 (Jq 1 [] [(4,vb false)] [] h fun a w h=>?_)));refine qV ?_;refine rT (.c (cB false)) h rfl ?_;have hz:f.holds vs=(false):=by rw [za0.holds_eq,if_neg (by omega),if_neg (by omega),if_neg (by omega),if_neg (by omega),if_neg (by omega)];try rfl
 rw [hz];try rfl
theorem SRHolds (vs:List ZI) {L:Nat} (hL:L+M<=20000) (hv:VOk M vs) (f:za0):f.lb->f.ok L->Fn eA 16 [] [(vF f),(vZs vs)] (vb (za0.holds vs f)) [] :=
 za0.ind (P:=fun f=>f.lb->f.ok L->Fn eA 16 [] [(vF f),(vZs vs)] (vb (za0.holds vs f)) []) (fun k r ks ih hl hf=>by
  have hl:=(za0.lb_eq _).1 hl
  exact SRHoldsG ⟨k,r,ks⟩ vs (fun g=>g.ok L) (fun g hg h=>ih g hg (hl.2 g hg) h) (fun e=>SRrelHolds r vs hL hv (((za0.ok_eq L _).1 hf).1 e)) ((za0.ok_eq L _).1 hf).2 hl.1.2) f
theorem la_1:Sz eA 32 4 true:=Sz.mk' (by kernel_rfl) Tryz.underlying32 _ rfl
theorem zdh:Sz eA 35 6 true:=Sz.mk' (by kernel_rfl) Tryz.underlying35 _ rfl
theorem la_7:ElT eA 33 35 6 96:=ElT.mk' Tryz.underlying33 _ _ rfl rfl
theorem zej {f:α->β} {xs:List α} {x:α} (h:xs[j]?=some x):(xs.take j).map f++[f x]=(xs.take (j+1)).map f:=by rw [bW,h,cO];rfl
def leaR (t:zaf):za9:=⟨za2 t,false⟩
theorem LLeast (t:zaf) (ht:TOk 1000000000 10000 t):Fn eA 191 [] [(vT t)] (vR (leaR t)) []:=by
 refine fB Tryz.func191 rfl 6 fun w H B a h=>Jq 0 [] [(1,vp 0 0),(2,vp 1 0)] [(0,.box (zT t)),(1,.box zR0)] h fun a w h=>Jd 2 [(1,.call (zen t ht (by decide) (by decide)))] [1] [] [(1,.box ((zT (za2 t))++[cB false]))] h fun a w h=>qV (rA 1 ((zT (za2 t))++[cB false]) h la_1 rfl ?_)
 rfl
theorem Lcopied (r:za9) (hr:TOk 1000000000 10000 r.t):Fn eA 144 [] [(vR r)] (vR (cpR r)) []:=by
 refine fB Tryz.func144 rfl 9 fun w H B a h=>Jq 0 [] [(1,vp 0 0),(2,vp 1 0)] [(0,.box (zR_ r)),(1,.box zR0)] h fun a w h=>Jd 2 [(2,.call (zen r.t hr (by decide) (by decide)))] [1] [] [(1,.box ((zT (za2 r.t))++[cB r.eq]))] h fun a w h=>qV (rA 1 ((zT (za2 r.t))++[cB r.eq]) h la_1 rfl ?_)
 rfl
theorem LOf (r:za9) (hr:TOk 1000000000 10000 r.t):Fn eA 104 [] [(vR r)] (vF (zfp r)) []:=by
 refine fB Tryz.func104 rfl 6 fun w H B a h=>Jq 0 [] [(1,vp 0 0),(2,vp 1 0)] [(0,.box (zR_ r)),(1,.box zF0)] h fun a w h=>Jd 2 [(1,.call (Lcopied r hr))] [1] [] [(1,.box ([cI 2,cPs (cpR r).t.parts]++zi (cpR r).t.k++[cB (cpR r).eq,nCl]))] h fun a w h=>qV ?_
 replace h:=zbs 1 5 6 ([cI 2,cPs (cpR r).t.parts]++zi (cpR r).t.k++[cB (cpR r).eq,nCl]) h;refine rA 1 ([cI 2,cPs (cpR r).t.parts]++zi (cpR r).t.k++[cB (cpR r).eq,cFs []]) h zdh rfl ?_;rfl
theorem zk3 (b:Bool) :Fn eA 109 [] [vb b] (vF (zcs b)) []:=by
 refine fB Tryz.func109 rfl 6 fun w H B a h=>Jq 0 [] [(0,vb b),(2,vp 0 0)] [(0,.box zF0)] h fun a w h=>qW (Je 1 [] [0] [(3,vb b)] h fun a w h=>cS b h (fun hc1=>?_) (fun hc2=>?_))
 ·refine Je 1 [] [3] [] h fun a w h=>qV (za5 ?_);replace h:=zbs 0 1 3 zF0 h;replace h:=zbs 0 5 6 [cI 0,cPs [],cB false,.d (nsl []),cB false,nCl] h;refine rA 0 [cI 0,cPs [],cB false,.d (nsl []),cB false,cFs []] h zdh rfl ?_;rw [hc1];rfl
 refine qU (za1 (Jd 1 [] [3] [] [(0,.box [cI 1,nCl,cB false,.d (nsl []),cB false,nCl])] h fun a w h=>qV ?_));replace h:=zbs 0 1 3 [cI 1,nCl,cB false,.d (nsl []),cB false,nCl] h;replace h:=zbs 0 5 6 [cI 1,cPs [],cB false,.d (nsl []),cB false,nCl] h;refine rA 0 [cI 1,cPs [],cB false,.d (nsl []),cB false,cFs []] h zdh rfl ?_;rw [hc2];rfl
theorem take_min1 (xs:List α):xs.take (min xs.length 1)=xs.take 1:=by
 cases xs with
 | nil=>rfl
 | cons x xs=>rw [Nat.min_eq_right (by simp)]
theorem Lkids (f:za0) (hk:f.kids.length<=9223372036854775807):Fn eA 162 [] [(vF f)] (vFs (cnt f.kind f.kids)) []:=by
 refine fB Tryz.func162 rfl 19 fun w H B a h=>Jq 0 [] [(1,vp 0 0),(2,vW zam)] [(0,.box (zF f))] h fun a w h=>qW (Je 1 [] [] [(4,vI f.kind)] h fun a w h=>qZ (qW (Je 1 [] [] [(5,vb (f.kind == 4))] h fun a w h=>cS (f.kind == 4) h (fun hc1=>?_) (fun hc2=>?_))))
 ·refine qU (za1 (cS (f.kind == 4) h (fun hc=>?_) (fun hc=>?_)))
  ·clear hc;refine Jq 1 [] [(2,(vFs f.kids))] [] h fun a w h=>qV (za8 (za5 (rT (.c (cFs f.kids)) h rfl ?_)));have p4: f.kind=4:=by have:=hc1;simpa using this
   have hz:cnt f.kind f.kids=f.kids:=by unfold cnt;rw [if_pos (by omega)]
   rw [hz];try rfl
  rw [hc1] at hc;cases hc
 refine Jf 1 [] [] [(5,vb (f.kind == 5))] h fun a w h=>za1 (cS (f.kind == 5) h (fun hc3=>?_) (fun hc4=>?_))
 ·refine Jq 1 [] [(2,(vFs f.kids))] [] h fun a w h=>qV (za8 (za5 (rT (.c (cFs f.kids)) h rfl ?_)));have p4:¬ f.kind=4:=by have:=hc2;simpa using this
  have p5: f.kind=5:=by have:=hc3;simpa using this
  have hz:cnt f.kind f.kids=f.kids:=by unfold cnt;rw [if_pos (by omega)]
  rw [hz];try rfl
 refine Je 1 [] [4,5] [(10,vb (f.kind == 3))] h fun a w h=>cS (f.kind == 3) h (fun hc5=>?_) (fun hc6=>?_)
 ·refine Jq 1 [(4,.len (za3 6 za0.d f.kids)),(5,.g (Op.min2 (d:=17) (tys:=#[3,3]) (k:=.i64) (m:=(f.kids.length:Int)) (n:=1) (r:=((min f.kids.length 1:Nat):Int)) (eC 16 _) (OV.const (.int .i64 1) rfl) (by omega))),(6,.g (Op.sliceD (d:=18) (t:=13) (l:=0) (h:=(min f.kids.length 1)) (rows:=f.kids.map za0.d) (rows':=(f.kids.take (min f.kids.length 1)).map za0.d) zie (BO.no _) (BO.yes (k:=.i64) (i:=(min f.kids.length 1)) _ (eC 17 _)) (by first | omega | (simp at *;omega)) (by first | omega | (simp only [bE];omega) | (simp at *;omega)) (by simp [dY])))] [(2,(vFs (f.kids.take (min f.kids.length 1))))] [] h fun a w h=>qV (za8 (za5 (rT (.c (cFs (f.kids.take (min f.kids.length 1)))) h rfl ?_)));have p4:¬ f.kind=4:=by have:=hc2;simpa using this
  have p5:¬ f.kind=5:=by have:=hc4;simpa using this
  have p3: f.kind=3:=by have:=hc5;simpa using this
  have hz:cnt f.kind f.kids=(f.kids.take (min f.kids.length 1)):=by unfold cnt;rw [if_neg (by omega),if_pos (by omega),<- take_min1]
  rw [hz];try rfl
 refine qU (za6 (za1 (Jg 1 [] [1,10] [] [0] [] h fun a w h=>qV ?_)));replace h:=nilDSx 2 0 6 (vW zam) h;refine rT (.c (cFs [])) h rfl ?_;have p4:¬ f.kind=4:=by have:=hc2;simpa using this
 have p5:¬ f.kind=5:=by have:=hc4;simpa using this
 have p3:¬ f.kind=3:=by have:=hc6;simpa using this
 have hz:cnt f.kind f.kids=[]:=by unfold cnt;rw [if_neg (by omega),if_neg (by omega)]
 rw [hz];try rfl
theorem Lclones (fs:List za0) (hcl:∀ g ∈ fs,Fn eA 114 [] [(vF g)] (vF (za0.cl g)) []) (hl:fs.length<=1000000000000):Fn eA 71 [] [(vFs fs)] (vFs (fs.map za0.cl)) []:=by
 refine fB Tryz.func71 rfl 19 fun w H B a h=>Jq 5 [] [(0,(vFs fs)),(2,vW zam)] [] h fun a w h=>Jg 5 [] [] [(3,vW zam)] [] [] h fun a w h=>qW (Jg 5 [(1,.len (za3 6 za0.d fs))] [0] [(6,(vFs fs)),(7,vN fs.length),(8,vI 0)] [] [] h fun a w h=>qZ ?_)
 replace h:=zfr 3 0 5 6 35 (vW zam) h
 refine zbw (ι:=(Nat)) (fun j=>j<=fs.length)
   [] (fun j=>[(3,vO 5 ((fs.take j).map za0.cl).length),(8,vN j)])
   [] (fun j=>[(5,.row 35 6 (((fs.take j).map za0.cl).map za0.d))])
   (fun j=>fs.length - j) 0 ?_ h ?_
 ·exact bC _
 clear h;rintro j a w hI h;have lmj:((fs.take j).map za0.cl).length<=j:=by rw [bE,b5];omega
 refine Je 6 [] [] [(9,vb (decide ((j:Int)<(fs.length:Int))))] h fun a w h=>qW (zad ((j:Int)<(fs.length:Int)) h (fun hc1 hc1'=>?_) (fun hc2 hc2'=>?_))
 ·refine qU (za1 (qW (qZ ?_)));obtain ⟨x1,hx1⟩:=gl fs j;refine Jg 6 [(0,.g (xD 10 6 zie ((za7 hx1 (f:=za0.d)).trans (yJ some (za0.d_eq x1))) (eC 8 _)))] [9] [(5,vp 6 0)] [] [(6,.box (zF x1))] h fun a w h=>Jh 7 [(2,.call (hcl x1 (lM hx1))),(3,.g (bD 15 ([(za0.cl x1)].map za0.d) [(14,(vF (za0.cl x1)))] kb_1 (.cons (i:=0) (eC 14 _) (.nil)) (by simp only [bJ,b7,cW,cX,b9,za0.d_eq]; try kernel_rfl) (by simp [za0.d_len]))),(4,.g (aD 16 12 15 5 7 ((fs.take j).map za0.cl) [(za0.cl x1)] za0.d la_7 (by simp [za0.d_len])))] [5] [(3,vO 7 (((fs.take j).map za0.cl)++[(za0.cl x1)]).length)] [5,6] [(7,.row 35 6 ((((fs.take j).map za0.cl)++[(za0.cl x1)]).map za0.d))] h fun a w h=>za6 (za1 (Jf 8 [(0,.j1 j)] [] [(8,vI ((j:Int)+1))] h fun a w h=>za1 ?_));rw [show ((((fs.take j).map za0.cl)++[(za0.cl x1)]):List za0)=((fs.take (j+1)).map za0.cl) from (zej hx1)] at h;replace h:=zd7 7 5 h;refine zaa (x:=j) (y:=j+1) h ?_ ?_
  ·have:=zab hx1;show j+1<=fs.length;omega
  show fs.length - (j+1)<fs.length - j;have:=zab hx1;omega
 refine exA (Jp 8 [] [(2,vO 5 ((fs.take j).map za0.cl).length)] h fun a w h=>qV ?_);rw [show (((fs.take j).map za0.cl):List za0)=(fs.map za0.cl) from (by rw [bX (by omega)])] at h;replace h:=zj2 5 6 35 ((fs.map za0.cl).map za0.d) h [(fs.map za0.cl).length] ⟨by first | exact (bE _).symm | (simp;done) | (simp;omega),trivial⟩;refine rT (.c (cFs (fs.map za0.cl))) h rfl ?_;rfl
def za0.okB (n L:Nat) (f:za0):Prop:=f.fold fun k r ks ps=>((k=2->TOk n L r.t)/\ks.length<=9223372036854775807/\(cnt k ks).length<=1000000000000)/\∀ p ∈ cnt k ps,p
theorem za0.okB_eq (n L:Nat) (f:za0):f.okB n L ↔ ((f.kind=2->TOk n L f.r.t)/\f.kids.length<=9223372036854775807/\(cnt f.kind f.kids).length<=1000000000000)/\∀ g ∈ cnt f.kind f.kids,g.okB n L:=by
 have:=za0.fold_eq (fun k r ks (ps:List Prop)=>((k=2->TOk n L r.t)/\ks.length<=9223372036854775807/\(cnt k ks).length<=1000000000000)/\∀ p ∈ cnt k ps,p) f
 rw [zd0] at this
 unfold za0.okB
 rw [this]
 refine and_congr_right fun _=>⟨fun h g hg=>h _ (bN.2 ⟨g,hg,rfl⟩),fun h p hp=>?_⟩
 obtain ⟨g,hg,rfl⟩:=bN.1 hp
 exact h g hg
theorem za0.okB_mono {L L':Nat} (hn:n<=n') (hL:L<=L') (f:za0):f.okB n L->f.okB n' L' :=
 za0.ind (P:=fun f=>f.okB n L->f.okB n' L') (fun k r ks ih hf=>by
  rw [za0.okB_eq] at hf ⊢
  exact ⟨⟨fun e=>(hf.1.1 e).mono hn hL,hf.1.2⟩,fun g hg=>ih g (zb9 hg) (hf.2 g hg)⟩) f
theorem okB_tru (n L:Nat) (b:Bool):(zcs b).okB n L:=by
 rw [za0.okB_eq];cases b <;> exact ⟨⟨fun e=>absurd e (by decide),bC _,bC _⟩,fun g hg=>by cases hg⟩
theorem zi2 {L:Nat} {r:za9} (h:TOk n L r.t):(za0.mk 2 r []).okB n L:=by
 rw [za0.okB_eq];exact ⟨⟨fun _=>h,bC _,bC _⟩,fun g hg=>by cases hg⟩
theorem zi1 {L:Nat} {r:za9} {ks:List za0} (hk:k≠2) (hl:ks.length<=1000000000000) (h:∀ g ∈ ks,g.okB n L):(za0.mk k r ks).okB n L:=by
 rw [za0.okB_eq];exact ⟨⟨fun e=>absurd e hk,bU hl (by decide),bU (cnt_len _ _) hl⟩,fun g hg=>h g (zb9 hg)⟩
theorem okB_each {L L':Nat} {t:za9->za9} (ht:∀ r,TOk n L r.t->TOk n' L' (t (cpR r)).t) (f:za0):f.okB n L->(f.each t).okB n' L' :=
 za0.ind (P:=fun f=>f.okB n L->(f.each t).okB n' L') (fun k r ks ih hf=>by
  obtain ⟨⟨h1,h2⟩,h3⟩:=(za0.okB_eq _ _ _).1 hf
  change k=2->_ at h1
  change ks.length<=_/\(cnt k ks).length<=_ at h2
  change ∀ g ∈ cnt k ks,_ at h3
  rw [za0.each_eq]
  show (zfd t k r (ks.map (za0.each t))).okB n' L'
  unfold zfd
  split
  ·exact okB_tru _ _ _
  ·split
   ·rename_i e;exact zi2 (ht r (h1 e))
   ·split
    ·rename_i hk2 h4
     refine zi1 hk2 (by rw [zd0,bE];exact h2.2) fun g hg=>?_
     rw [zd0] at hg
     obtain ⟨q,hq,rfl⟩:=bN.1 hg
     exact ih q (zb9 hq) (h3 q hq)
    ·exact okB_tru _ _ _) f
theorem okB_cl {L:Nat} (hn:n<=1000000000) (f:za0) (h:f.okB n L):f.cl.okB n (L+1):=okB_each (t:=id) (fun r hr=>hr.plain hn) f h
theorem zdw {L:Nat} (h:f.okB n L):f.kids.length<=9223372036854775807:=((za0.okB_eq _ _ _).1 h).1.2.1
theorem zff {L:Nat} (h:f.okB n L):(cnt f.kind f.kids).length<=1000000000000:=((za0.okB_eq _ _ _).1 h).1.2.2
theorem zhe {L:Nat} {g:za0} (h:f.okB n L) (hg:g ∈ cnt f.kind f.kids):g.okB n L:=((za0.okB_eq _ _ _).1 h).2 g hg
theorem rel_ok {L:Nat} (h:f.okB n L) (e:(f.kind == 2)=true):TOk n L f.r.t:=((za0.okB_eq _ _ _).1 h).1.1 (by simpa using e)
theorem cl_tru (e:(f.kind == 0)=true):f.cl=zcs true:=by rw [cl_eq];unfold zfd;rw [if_pos (by simpa using e)]
theorem cl_at (e:(f.kind == 2)=true):f.cl=zfp f.r:=by
 have e:f.kind=2:=by simpa using e
 rw [cl_eq,e];rfl
theorem cl_kids (e:f.kind=3\/f.kind=4\/f.kind=5):f.cl=⟨f.kind,zR,(cnt f.kind f.kids).map za0.cl⟩:=by
 rw [cl_eq,zea _ _ _ e,zd0]
theorem cl_out (h0:(f.kind == 0)=false) (h2:(f.kind == 2)=false) (h3:(f.kind == 3)=false) (h4:(f.kind == 4)=false) (h5:(f.kind == 5)=false):f.cl=zcs false:=by
 simp only [beq_eq_false_iff_ne] at h0 h2 h3 h4 h5
 rw [cl_eq,zgj _ _ _ h0 h2 (by omega)]
theorem Lclone0 (f:za0) (ih:∀ g ∈ cnt f.kind f.kids,Fn eA 114 [] [(vF g)] (vF (za0.cl g)) []) (hf:f.okB 1000000000 10000):Fn eA 114 [] [(vF f)] (vF (za0.cl f)) []:=by
 refine fB Tryz.func114 rfl 24 fun w H B a h=>Jq 0 [] [(1,vp 0 0),(2,vp 1 0)] [(0,.box (zF f)),(1,.box zF0)] h fun a w h=>qW (Je 2 [] [] [(4,vI f.kind)] h fun a w h=>qZ (Je 2 [] [] [(5,vb (f.kind == 0))] h fun a w h=>cS (f.kind == 0) h (fun hc1=>?_) (fun hc2=>?_)))
 ·refine Jq 2 [(0,.call (zk3 true))] [(2,vp 1 0)] [(1,.box (zF (zcs true)))] h fun a w h=>qV (za8 (za5 (rA 1 (zF (zcs true)) h zdh rfl ?_)));rw [cl_tru hc1];try rfl
 refine Je 2 [] [5] [(8,vb (f.kind == 2))] h fun a w h=>cS (f.kind == 2) h (fun hc3=>?_) (fun hc4=>?_)
 ·refine Jq 2 [(2,.call (LOf f.r (rel_ok hf hc3)))] [(2,vp 1 0)] [(1,.box (zF (zfp f.r)))] h fun a w h=>qV (za8 (za5 (rA 1 (zF (zfp f.r)) h zdh rfl ?_)));rw [cl_at hc3];try rfl
 refine qW (Je 2 [] [8] [(13,vb (f.kind == 3))] h fun a w h=>cS (f.kind == 3) h (fun hc5=>?_) (fun hc6=>?_))
 ·refine qU (za1 (cS (f.kind == 3) h (fun hc=>?_) (fun hc=>?_)))
  ·clear hc;refine Jq 2 [(3,.call (Lkids f (zdw hf))),(4,.call (Lclones (cnt f.kind f.kids) ih (zff hf)))] [(2,vp 1 0)] [(1,.box [cI f.kind,nCl,cB false,.d (nsl []),cB false,cFs ((cnt f.kind f.kids).map za0.cl)])] h fun a w h=>qV (za8 (za5 ?_));replace h:=zbs 1 1 3 [cI f.kind,nCl,cB false,.d (nsl []),cB false,cFs ((cnt f.kind f.kids).map za0.cl)] h;refine rA 1 [cI f.kind,cPs [],cB false,.d (nsl []),cB false,cFs ((cnt f.kind f.kids).map za0.cl)] h zdh rfl ?_;rw [cl_kids (by have:=hc5;simp at this;omega)];try rfl
  rw [hc5] at hc;cases hc
 refine Je 2 [] [] [(13,vb (f.kind == 4))] h fun a w h=>cS (f.kind == 4) h (fun hc7=>?_) (fun hc8=>?_)
 ·refine qU (za1 (cS (f.kind == 4) h (fun hc=>?_) (fun hc=>?_)))
  ·clear hc;refine Jq 2 [(3,.call (Lkids f (zdw hf))),(4,.call (Lclones (cnt f.kind f.kids) ih (zff hf)))] [(2,vp 1 0)] [(1,.box [cI f.kind,nCl,cB false,.d (nsl []),cB false,cFs ((cnt f.kind f.kids).map za0.cl)])] h fun a w h=>qV (za8 (za5 ?_));replace h:=zbs 1 1 3 [cI f.kind,nCl,cB false,.d (nsl []),cB false,cFs ((cnt f.kind f.kids).map za0.cl)] h;refine rA 1 [cI f.kind,cPs [],cB false,.d (nsl []),cB false,cFs ((cnt f.kind f.kids).map za0.cl)] h zdh rfl ?_;rw [cl_kids (by have:=hc7;simp at this;omega)];try rfl
  rw [hc7] at hc;cases hc
 refine Jf 2 [] [4] [(13,vb (f.kind == 5))] h fun a w h=>za1 (cS (f.kind == 5) h (fun hc9=>?_) (fun hc10=>?_))
 ·refine Jq 2 [(3,.call (Lkids f (zdw hf))),(4,.call (Lclones (cnt f.kind f.kids) ih (zff hf)))] [(2,vp 1 0)] [(1,.box [cI f.kind,nCl,cB false,.d (nsl []),cB false,cFs ((cnt f.kind f.kids).map za0.cl)])] h fun a w h=>qV (za8 (za5 ?_));replace h:=zbs 1 1 3 [cI f.kind,nCl,cB false,.d (nsl []),cB false,cFs ((cnt f.kind f.kids).map za0.cl)] h;refine rA 1 [cI f.kind,cPs [],cB false,.d (nsl []),cB false,cFs ((cnt f.kind f.kids).map za0.cl)] h zdh rfl ?_;rw [cl_kids (by have:=hc9;simp at this;omega)];try rfl
 refine qU (za6 (za1 (Jq 2 [(0,.call (zk3 false))] [(2,vp 1 0)] [(1,.box (zF (zcs false)))] h fun a w h=>qV (rA 1 (zF (zcs false)) h zdh rfl ?_))));rw [cl_out hc2 hc4 hc6 hc8 hc10];try rfl
theorem zhs (f:za0):f.okB 1000000000 10000->Fn eA 114 [] [(vF f)] (vF (za0.cl f)) [] :=
 za0.ind (P:=fun f=>f.okB 1000000000 10000->Fn eA 114 [] [(vF f)] (vF (za0.cl f)) []) (fun k r ks ih hf=>Lclone0 ⟨k,r,ks⟩ (fun g hg=>ih g (zb9 hg) (zhe hf hg)) hf) f
theorem LDeny (f:za0) (hf:f.okB 1000000000 10000):Fn eA 105 [] [(vF f)] (vF (ziv f)) []:=by
 refine fB Tryz.func105 rfl 7 fun w H B a h=>Jq 0 [] [(1,vp 0 0),(2,vp 1 0)] [(0,.box (zF f)),(1,.box zF0)] h fun a w h=>Jd 2 [(1,.call (zhs f hf)),(2,.g (bD 5 ([(za0.cl f)].map za0.d) [(4,(vF (za0.cl f)))] kb_1 (.cons (i:=0) (eC 4 _) (.nil)) (by simp only [bJ,b7,cW,cX,b9,za0.d_eq]; try kernel_rfl) (by simp [za0.d_len])))] [1] [] [(1,.box [cI 3,nCl,cB false,.d (nsl []),cB false,cFs [(za0.cl f)]])] h fun a w h=>qV ?_
 replace h:=zbs 1 1 3 [cI 3,nCl,cB false,.d (nsl []),cB false,cFs [(za0.cl f)]] h;refine rA 1 [cI 3,cPs [],cB false,.d (nsl []),cB false,cFs [(za0.cl f)]] h zdh rfl ?_;rfl
theorem LAll (fs:List za0) (hf:∀ g ∈ fs,g.okB 1000000000 10000) (hl:fs.length<=1000000000000):Fn eA 35 [] [(vFs fs)] (vF (zcj fs)) []:=by
 refine fB Tryz.func35 rfl 6 fun w H B a h=>Jq 0 [] [(0,(vFs fs)),(2,vp 0 0)] [(0,.box zF0)] h fun a w h=>Jd 1 [(1,.call (Lclones fs (fun g hg=>zhs g (hf g hg)) hl))] [0] [] [(0,.box [cI 4,nCl,cB false,.d (nsl []),cB false,cFs (fs.map za0.cl)])] h fun a w h=>qV ?_
 replace h:=zbs 0 1 3 [cI 4,nCl,cB false,.d (nsl []),cB false,cFs (fs.map za0.cl)] h;refine rA 0 [cI 4,cPs [],cB false,.d (nsl []),cB false,cFs (fs.map za0.cl)] h zdh rfl ?_;rfl
theorem Lknown (b:Bool) :Fn eA 122 [] [vb b] (.tup [.agg (zR_ zR),.c (cI (if b=true then 1 else -1))]) []:=by
 refine fB Tryz.func122 rfl 7 fun w H B a h=>Jq 0 [] [(0,vb b),(2,vp 0 0),(3,vI 0)] [(0,.box zR0)] h fun a w h=>qW (Je 1 [] [0] [(4,vb b)] h fun a w h=>cS b h (fun hc1=>?_) (fun hc2=>?_))
 ·refine Je 1 [] [4] [(3,vI 1)] h fun a w h=>qV (za5 ?_);replace h:=zbs 0 0 3 zR0 h;refine zfj [.agg [cPs [],cB false,.d (nsl []),cB false],.c (cI 1)] h Exit.ret (.inl rfl)  rfl ⟨eE _ 0 0 _ _ _ _ la_1 rfl rfl rfl rfl,vT9,trivial⟩ ?_;rw [hc1];rfl
 refine qU (za1 (Je 1 [] [4] [(3,vI (-1))] h fun a w h=>qV ?_));replace h:=zbs 0 0 3 zR0 h;refine zfj [.agg [cPs [],cB false,.d (nsl []),cB false],.c (cI (-1))] h Exit.ret (.inl rfl)  rfl ⟨eE _ 0 0 _ _ _ _ la_1 rfl rfl rfl rfl,vT9,trivial⟩ ?_;rw [hc2];rfl
theorem shr_len (t:zaf):(zct (za2 t)).parts.length=(za2 t).parts.length:=by
 unfold zct;rw [zby];split
 ·rfl
 ·exact bE _
theorem plain_k (t:zaf):(za2 t).k.val=t.k.val:=eJ _
theorem tight_k {r:za9} (h:(za2 r.t).parts.length=0):zat r=(zR,if (sgn (za2 r.t).k.val == 0 || (!r.eq && decide (sgn (za2 r.t).k.val>0)))=true then 1 else -1):=by
 unfold zat;rw [if_pos h,plain_k]
theorem tight_le {r:za9} (h:(za2 r.t).parts.length≠0) (he:r.eq=false):zat r=(⟨zct (za2 r.t),false⟩,0):=by
 unfold zat;rw [if_neg h,if_neg (fun e=>by rw [he] at e;exact Bool.noConfusion e.1),he,shr_plain2];rfl
theorem tight_no {r:za9} (h:(za2 r.t).parts.length≠0) (he:r.eq=true) (hz:(za2 r.t).k.val.fmod (zcc (za2 (za2 r.t)).parts)≠0):zat r=(zR,-1):=by
 rw [zix,plain_k] at hz
 unfold zat;rw [if_neg h,if_pos ⟨he,hz⟩]
theorem tight_eq {r:za9} (h:(za2 r.t).parts.length≠0) (he:r.eq=true) (hz:(za2 r.t).k.val.fmod (zcc (za2 (za2 r.t)).parts)=0) {b:Bool} (hb:zim (zct (za2 r.t))=b):zat r=(⟨if b=true then negT (zct (za2 r.t)) else zct (za2 r.t),true⟩,0):=by
 rw [zix,plain_k] at hz
 rw [shr_plain2] at hb ⊢
 unfold zat;rw [if_neg h,if_neg (fun e=>e.2 hz),he,hb];rfl
theorem first_at {p:za4} (h:t.parts[0]?=some p):zim t=decide (sgn p.c.val<0):=by
 unfold zim
 cases e:t.parts with
 | nil=>rw [e] at h;cases h
 | cons q qs=>rw [e] at h;injection h with h;rw [h]
theorem LTight (r:za9) (hr:TOk 400000000 9000 r.t):Fn eA 82 [] [.t (.agg ([.d (.sl 3 (r.t.parts.map eK))]++zi r.t.k++[.d (.raw (.bool r.eq))]))] (.tup [.agg ([.d (.sl 3 ((zat r).1.t.parts.map eK))]++zi (zat r).1.t.k++[.d (.raw (.bool (zat r).1.eq))]),.c (.d (.raw (.int .i64 (zat r).2)))]) []:=by
 have hpk:=(hr.plain (by decide)).kl;refine fB Tryz.func82 rfl 74 fun w H B a h=>Jq 0 [] [(1,vp 0 0),(2,vp 1 0),(3,vI 0)] [(0,.box ([.d (.sl 3 (r.t.parts.map eK))]++zi r.t.k++[.d (.raw (.bool r.eq))])),(1,.box zR0)] h fun a w h=>Jg 2 [(2,.call (zen r.t hr (by decide) (by decide)))] [] [(4,vp 2 0)] [] [(2,.box ([.d (.sl 3 ((za2 r.t).parts.map eK))]++zi (za2 r.t).k))] h fun a w h=>qW (Je 3 [(2,.len (za3 3 eK ((za2 r.t).parts)))] [] [(14,vb (((za2 r.t).parts.length:Int) == 0))] h fun a w h=>cS (((za2 r.t).parts.length:Int) == 0) h (fun hc1=>?_) (fun hc6=>?_))
 ·have hpl:(za2 r.t).parts.length=0:=by have:=hc1;simpa using this
  rcases bG (sgn (za2 r.t).k.val == 0) with hc2 | hc3
  ·refine Jg 3 [(2,.call (zkz (za2 r.t).k ((eF hr (by decide))).kb (by omega))),(3,.cmp (op:=.eql) (m:=(sgn (za2 r.t).k.val)) (n:=0) (b:=true) .i64 hc2),(15,.call (Lknown true))] [14] [(3,vI (if true=true then 1 else -1))] [] [(1,.box ([.d (.sl 3 (zR.t.parts.map eK))]++zi zR.t.k++[.d (.raw (.bool zR.eq))]))] h fun a w h=>qV (za5 (zfj [.agg ([.d (.sl 3 (zR.t.parts.map eK))]++zi zR.t.k++[.d (.raw (.bool zR.eq))]),.c (.d (.raw (.int .i64 (if true=true then 1 else -1))))] h Exit.ret (.inl rfl)  rfl ⟨eE _ 1 0 _ _ _ _ la_1 rfl rfl rfl rfl,vT9,trivial⟩ ?_));rw [tight_k hpl,hc2];try rfl
  rcases bG r.eq with hc4 | hc5
  ·rw [hc4] at h;refine Jq 3 [(2,.call (zkz (za2 r.t).k ((eF hr (by decide))).kb (by omega))),(3,.cmp (op:=.eql) (m:=(sgn (za2 r.t).k.val)) (n:=0) (b:=false) .i64 hc3),(15,.call (Lknown false))] [(1,vp 0 0),(2,vp 1 0),(3,vI (if false=true then 1 else -1)),(4,vp 2 0)] [(0,.box ([.d (.sl 3 (r.t.parts.map eK))]++zi r.t.k++[.d (.raw (.bool true))])),(1,.box ([.d (.sl 3 (zR.t.parts.map eK))]++zi zR.t.k++[.d (.raw (.bool zR.eq))])),(2,.box ([.d (.sl 3 ((za2 r.t).parts.map eK))]++zi (za2 r.t).k))] h fun a w h=>qV (za5 (zfj [.agg ([.d (.sl 3 (zR.t.parts.map eK))]++zi zR.t.k++[.d (.raw (.bool zR.eq))]),.c (.d (.raw (.int .i64 (if false=true then 1 else -1))))] h Exit.ret (.inl rfl)  rfl ⟨eE _ 1 0 _ _ _ _ la_1 rfl rfl rfl rfl,vT9,trivial⟩ ?_));rw [tight_k hpl,hc3,hc4];try rfl
  rw [hc5] at h;refine Jq 3 [(2,.call (zkz (za2 r.t).k ((eF hr (by decide))).kb (by omega))),(3,.cmp (op:=.eql) (m:=(sgn (za2 r.t).k.val)) (n:=0) (b:=false) .i64 hc3),(11,.call (zkz (za2 r.t).k ((eF hr (by decide))).kb (by omega))),(15,.call (Lknown (decide (sgn (za2 r.t).k.val>0))))] [(1,vp 0 0),(2,vp 1 0),(3,vI (if (decide (sgn (za2 r.t).k.val>0))=true then 1 else -1)),(4,vp 2 0)] [(0,.box ([.d (.sl 3 (r.t.parts.map eK))]++zi r.t.k++[.d (.raw (.bool false))])),(1,.box ([.d (.sl 3 (zR.t.parts.map eK))]++zi zR.t.k++[.d (.raw (.bool zR.eq))])),(2,.box ([.d (.sl 3 ((za2 r.t).parts.map eK))]++zi (za2 r.t).k))] h fun a w h=>qV (za5 (zfj [.agg ([.d (.sl 3 (zR.t.parts.map eK))]++zi zR.t.k++[.d (.raw (.bool zR.eq))]),.c (.d (.raw (.int .i64 (if (decide (sgn (za2 r.t).k.val>0))=true then 1 else -1))))] h Exit.ret (.inl rfl)  rfl ⟨eE _ 1 0 _ _ _ _ la_1 rfl rfl rfl rfl,vT9,trivial⟩ ?_));rw [tight_k hpl,hc3,hc5];try rfl
 refine qU (za1 (qW ?_));have hpl:(za2 r.t).parts.length≠0:=by have:=hc6;simpa using this
 have hcon:=con_pos (t:=r.t) (by omega);have hcon2:zcc (za2 (za2 r.t)).parts=zcc (za2 r.t).parts:=zix _;have hsl:=shr_len r.t;refine Jg 3 [] [1,14] [(35,vb (!r.eq))] [0] [] h fun a w h=>cS (!r.eq) h (fun hc7=>?_) (fun hc8=>?_)
 ·refine Jg 3 [(1,.call (SShrink (za2 r.t) (eF hr (by decide)) (by decide) (by decide)))] [35] [] [] [(2,.box ([.d (.sl 3 ((zct (za2 r.t)).parts.map eK))]++zi (zct (za2 r.t)).k))] h fun a w h=>Jg 3 [] [] [] [] [(1,.box ([.d (.sl 3 ((zct (za2 r.t)).parts.map eK))]++zi (zct (za2 r.t)).k++[.d (.raw (.bool false))]))] h fun a w h=>qV (za5 (zfj [.agg ([.d (.sl 3 ((zct (za2 r.t)).parts.map eK))]++zi (zct (za2 r.t)).k++[.d (.raw (.bool false))]),.c (.d (.raw (.int .i64 0)))] h Exit.ret (.inl rfl)  rfl ⟨eE _ 1 0 _ _ _ _ la_1 rfl rfl rfl rfl,vT9,trivial⟩ ?_));rw [tight_le hpl (by simpa using hc7)];try rfl
 refine qU (za1 (qW ?_));obtain ⟨r12,er12,vr12,or12,lr12⟩:=mkZ (v:=zcc (za2 (za2 r.t)).parts) (m:=9002) (con_len' (eF hr (by decide)) (by decide));obtain ⟨r13q,er13q,vr13q,or13q,lr13q⟩:=mkZ (v:=(za2 r.t).k.val.fdiv r12.val) (m:=(za2 r.t).k.abs.length) (zlz ((eF hr (by decide))).kb (by omega));obtain ⟨r13r,er13r,vr13r,or13r,lr13r⟩:=mkZ (v:=(za2 r.t).k.val.fmod r12.val) (m:=r12.abs.length) (len_fmod or12 (by omega));refine Jg 3 [(3,.call (eB (SContent (za2 r.t) (eF hr (by decide)) (by decide) (by decide)) (yJ vz er12.symm))),(4,.call (eB (SDiv (za2 r.t).k r12 ((eF hr (by decide))).kb or12 (by omega) (by omega) (by omega)) (show _=(.tup [.agg (zi r13q),.agg (zi r13r),.c (.d (.raw (.int .i64 0)))]:V) by rw [er13q,er13r];try rfl)))] [35] [(6,vp 4 0)] [] [(4,.box (zi r13r))] h fun a w h=>Jg 5 [(1,.call (zkz r13r or13r (by omega)))] [6] [(54,vb (sgn r13r.val != 0))] [4] [] h fun a w h=>cS (sgn r13r.val != 0) h (fun hc9=>?_) (fun hc10=>?_)
 ·refine Jg 5 [(0,.call (Lknown false))] [54] [(3,vI (if false=true then 1 else -1))] [] [(1,.box ([.d (.sl 3 (zR.t.parts.map eK))]++zi zR.t.k++[.d (.raw (.bool zR.eq))]))] h fun a w h=>qV (za5 (zfj [.agg ([.d (.sl 3 (zR.t.parts.map eK))]++zi zR.t.k++[.d (.raw (.bool zR.eq))]),.c (.d (.raw (.int .i64 (if false=true then 1 else -1))))] h Exit.ret (.inl rfl)  rfl ⟨eE _ 1 0 _ _ _ _ la_1 rfl rfl rfl rfl,vT9,trivial⟩ ?_));rw [tight_no hpl (by simpa using hc8) (by rw [<- vr12,<- vr13r];exact sgn_ne hc9)];try rfl
 refine qU (za1 (Jg 5 [(1,.call (SShrink (za2 r.t) (eF hr (by decide)) (by decide) (by decide)))] [54] [] [] [(2,.box ([.d (.sl 3 ((zct (za2 r.t)).parts.map eK))]++zi (zct (za2 r.t)).k))] h fun a w h=>qW ?_));obtain ⟨x17,hx17⟩:=gl ((zct (za2 r.t)).parts) 0;obtain ⟨ox17,lx17⟩:=((shr_tok (eF hr (by decide)) (by decide))).get hx17;refine Je 5 [(2,.g (xD 65 64 zcl (za7 hx17 (f:=eK)) (OV.const (.int .i64 0) rfl))),(5,.call (zkz x17.c ox17 (by omega)))] [] [(69,vb (decide (sgn x17.c.val<0)))] h fun a w h=>zad (sgn x17.c.val<0) h (fun hc11 hc11'=>?_) (fun hc12 hc12'=>?_)
 ·refine Jh 5 [(1,.call (SNeg3 (zct (za2 r.t)) ((shr_tok (eF hr (by decide)) (by decide)).mono (by decide) (by decide))))] [69] [] [] [(2,.box ([.d (.sl 3 ((negT (zct (za2 r.t))).parts.map eK))]++zi (negT (zct (za2 r.t))).k))] h fun a w h=>za1 (Jg 5 [] [4] [] [2] [(1,.box ([.d (.sl 3 ((negT (zct (za2 r.t))).parts.map eK))]++zi (negT (zct (za2 r.t))).k++[.d (.raw (.bool true))]))] h fun a w h=>qV (zfj [.agg ([.d (.sl 3 ((negT (zct (za2 r.t))).parts.map eK))]++zi (negT (zct (za2 r.t))).k++[.d (.raw (.bool true))]),.c (.d (.raw (.int .i64 0)))] h Exit.ret (.inl rfl)  rfl ⟨eE _ 1 0 _ _ _ _ la_1 rfl rfl rfl rfl,vT9,trivial⟩ ?_));rw [tight_eq hpl (by simpa using hc8) (by rw [<- vr12,<- vr13r];exact sgn_eq hc10) (b:=true) (by rw [first_at hx17];exact hc11)];try rfl
 refine qU (za1 (Jg 5 [] [4,69] [] [2] [(1,.box ([.d (.sl 3 ((zct (za2 r.t)).parts.map eK))]++zi (zct (za2 r.t)).k++[.d (.raw (.bool true))]))] h fun a w h=>qV (zfj [.agg ([.d (.sl 3 ((zct (za2 r.t)).parts.map eK))]++zi (zct (za2 r.t)).k++[.d (.raw (.bool true))]),.c (.d (.raw (.int .i64 0)))] h Exit.ret (.inl rfl)  rfl ⟨eE _ 1 0 _ _ _ _ la_1 rfl rfl rfl rfl,vT9,trivial⟩ ?_)));rw [tight_eq hpl (by simpa using hc8) (by rw [<- vr12,<- vr13r];exact sgn_eq hc10) (b:=false) (by rw [first_at hx17];exact hc12)];try rfl
theorem plain_sub (s t:zaf):za2 (subT s t)=subT s t:=zby _
theorem low_eq {r:ZI} (h:r=eI 1):leaR (subT (negT t) (zcu r))=lowR t:=by unfold leaR lowR;rw [plain_sub,h];rfl
theorem Lbelow (t:zaf) (ht:TOk 300000000 3000 t):Fn eA 167 [] [(vT t)] (vR (lowR t)) []:=by
 refine fB Tryz.func167 rfl 9 fun w H B a h=>Jq 0 [] [(1,vp 0 0),(2,vp 1 0)] [(0,.box (zT t)),(1,.box zR0)] h fun a w h=>?_
 obtain ⟨r2,er2,vr2,or2,lr2⟩:=mkZ (v:=1) (m:=2) (eH (by have:=pw2;omega));refine Jd 2 [(1,.call (SNeg3 t (ht.mono (by decide) (by decide)))),(2,.call (eB (SOf 1 ⟨by omega,by omega⟩) (yJ vz er2.symm))),(3,.call (zhq r2 or2 (by omega))),(4,.call (STSub (negT t) (zcu r2) (((TOk.mul ht (eG _) (show (eI (-1)).abs.length<=2 from by decide)).plain (by decide)).mono (by decide) (by decide)) ((TOk.num (eG _) (bU (zdd or2) (by omega))).mono (by decide) (by decide)))),(5,.call (LLeast (subT (negT t) (zcu r2)) ((addT_ok (((TOk.mul ht (eG _) (show (eI (-1)).abs.length<=2 from by decide)).plain (by decide)).mono (bI 300000000) (show 3003<=3003 by decide)) (((TOk.mul (TOk.num (eG _) (bU (zdd or2) (by omega))) (eG _) (show (eI (-1)).abs.length<=2 from by decide)).plain (by decide)).mono (bI 0) (show 103<=3003 by decide)) (by decide)).mono (by decide) (by decide))))] [1] [] [(1,.box (zR_ (leaR (subT (negT t) (zcu r2)))))] h fun a w h=>qV (rA 1 (zR_ (leaR (subT (negT t) (zcu r2)))) h la_1 rfl ?_);rw [<- low_eq er2];try rfl
theorem LrDeny (r:za9) (hr:TOk 300000000 2000 r.t):Fn eA 119 [] [(vR r)] (vRs (zc1 r)) []:=by
 refine fB Tryz.func119 rfl 18 fun w H B a h=>Jq 0 [] [(1,vp 0 0),(2,vW zam)] [(0,.box (zR_ r))] h fun a w h=>qW (Je 1 [] [] [(5,vb (!r.eq))] h fun a w h=>cS (!r.eq) h (fun hc1=>?_) (fun hc2=>?_))
 ·refine Je 1 [(2,.call (Lbelow r.t (hr.mono (by decide) (by decide)))),(3,.g (bD 9 ([(lowR r.t)].map za9.d) [(8,(vR (lowR r.t)))] kc_5 (.cons (i:=0) (eC 8 _) (.nil)) (by kernel_rfl) (by simp [za9.d])))] [5] [(2,(vRs [(lowR r.t)]))] h fun a w h=>qV (za5 (rT (.c (cRs [(lowR r.t)])) h rfl ?_));unfold zc1;rw [(show (r.eq)=false from by simpa using hc1)];try rfl
 refine qU (za1 (Jq 1 [(2,.call (SNeg3 r.t (hr.mono (by decide) (by decide)))),(3,.call (Lbelow (negT r.t) (((TOk.mul hr (eG _) (show (eI (-1)).abs.length<=2 from by decide)).plain (by decide)).mono (by decide) (by decide)))),(6,.call (Lbelow r.t (hr.mono (by decide) (by decide)))),(7,.g (Op.buildD (d:=17) (len:=2) (rows:=[(lowR (negT r.t)),(lowR r.t)].map za9.d) (rs:=[(13,(vR (lowR (negT r.t)))),(16,(vR (lowR r.t)))]) kc_5 (.cons (i:=0) (eC 13 _) (.cons (i:=1) (eC 16 _) (.nil))) (by kernel_rfl) rfl (by simp [za9.d]) (by decide) (by decide)))] [(2,(vRs [(lowR (negT r.t)),(lowR r.t)]))] [] h fun a w h=>qV (rT (.c (cRs [(lowR (negT r.t)),(lowR r.t)])) h rfl ?_)));unfold zc1;rw [(show (r.eq)=true from by simpa using hc2)];try rfl
def zgs (r:za9):Int:=if r.eq=true then 1 else 0
def zdm (x y:za9):Int:=orZ [cmpT x.t y.t,zbo (zgs x) (zgs y)]
theorem Lrank (r:za9) :Fn eA 176 [] [(vR r)] (vI (zgs r)) []:=by
 refine fB Tryz.func176 rfl 5 fun w H B a h=>Jq 0 [] [(1,vp 0 0),(2,vI 0)] [(0,.box (zR_ r))] h fun a w h=>qW (Jg 1 [] [1] [(4,vb r.eq)] [0] [] h fun a w h=>cS r.eq h (fun hc1=>?_) (fun hc2=>?_))
 ·refine Jq 1 [] [(2,vI 1)] [] h fun a w h=>qV (za5 (rT (.c (cI 1)) h rfl ?_));unfold zgs;rw [hc1];try rfl
 refine qU (za1 (Jg 1 [] [4] [] [] [] h fun a w h=>qV (rT (.c (cI 0)) h rfl ?_)));unfold zgs;rw [hc2];try rfl
theorem LCmp (x y:za9) {L:Nat} (hx:TOk n L x.t) (hy:TOk n L y.t) (hn:n<=1000000000) (hL:L<=20000):Fn eA 127 [] [(vR x),(vR y)] (vI (zdm x y)) []:=by
 refine fB Tryz.func127 rfl 17 fun w H B a h=>Jq 0 [] [(2,vp 0 0),(3,vp 1 0),(4,vI 0)] [(0,.box (zR_ x)),(1,.box (zR_ y))] h fun a w h=>Jq 2 [(4,.call (STCmp x.t y.t hx hy hn hL)),(6,.call (Lrank x)),(8,.call (Lrank y)),(9,.call (SCompare (zgs x) (zgs y))),(10,.g (Op.buildD (d:=15) (len:=2) (rows:=[(cmpT x.t y.t),zbo (zgs x) (zgs y)].map zal) (rs:=[(9,vI (cmpT x.t y.t)),(14,vI (zbo (zgs x) (zgs y)))]) tb_0 (.cons (i:=0) (eC 9 _) (.cons (i:=1) (eC 14 _) (.nil))) (by kernel_rfl) rfl (by simp [zal]) (by decide) (by decide))),(11,.call (SOr [(cmpT x.t y.t),zbo (zgs x) (zgs y)] (show List.length _<=1000000000000 from by simp)))] [(4,vI (orZ [(cmpT x.t y.t),zbo (zgs x) (zgs y)]))] [] h fun a w h=>qV (rT (.c (cI (orZ [(cmpT x.t y.t),zbo (zgs x) (zgs y)]))) h rfl ?_)
 rfl
theorem LSame (x y:za9) {L:Nat} (hx:TOk n L x.t) (hy:TOk n L y.t) (hn:n<=1000000000) (hL:L<=20000):Fn eA 83 [] [(vR x),(vR y)] (vb (zdm x y == 0)) []:=by
 refine fB Tryz.func83 rfl 9 fun w H B a h=>Jq 0 [] [(2,vp 0 0),(3,vp 1 0),(4,vb false)] [(0,.box (zR_ x)),(1,.box (zR_ y))] h fun a w h=>Jq 2 [(2,.call (LCmp x y hx hy hn hL))] [(4,vb ((zdm x y) == 0))] [] h fun a w h=>qV (rT (.c (cB ((zdm x y) == 0))) h rfl ?_)
 rfl
theorem LtightF (r:za9) (hr:TOk 400000000 9000 r.t):Fn eA 118 [] [(vR r)] (vF (zb0 r)) []:=by
 refine fB Tryz.func118 rfl 17 fun w H B a h=>Jq 0 [] [(1,vp 0 0),(2,vp 1 0)] [(0,.box (zR_ r)),(1,.box zF0)] h fun a w h=>Jg 2 [(1,.call (LTight r hr))] [1] [(3,vp 2 0),(4,vI (zat r).2)] [0] [(2,.box (zR_ (zat r).1))] h fun a w h=>qW (Je 3 [] [] [(11,vb ((zat r).2 != 0))] h fun a w h=>cS ((zat r).2 != 0) h (fun hc1=>?_) (fun hc2=>?_))
 ·refine Jg 3 [(2,.call (zk3 (decide ((zat r).2>0))))] [4,11] [] [] [(1,.box (zF (zcs (decide ((zat r).2>0)))))] h fun a w h=>qV (za5 (rA 1 (zF (zcs (decide ((zat r).2>0)))) h zdh rfl ?_));unfold zb0;rw [if_neg (by simpa using hc1)];try rfl
 refine qU (za1 (Jq 3 [] [(2,vp 1 0)] [(1,.box ([cI 2,cPs (zat r).1.t.parts]++zi (zat r).1.t.k++[cB (zat r).1.eq,nCl]))] h fun a w h=>qV ?_));replace h:=zbs 1 5 6 ([cI 2,cPs (zat r).1.t.parts]++zi (zat r).1.t.k++[cB (zat r).1.eq,nCl]) h;refine rA 1 ([cI 2,cPs (zat r).1.t.parts]++zi (zat r).1.t.k++[cB (zat r).1.eq,cFs []]) h zdh rfl ?_;unfold zb0;rw [if_pos (by simpa using hc2)];try rfl
def za0.wid (f:za0):Nat:=f.fold fun k _ _ ws=>3+(cnt k ws).sum
theorem za0.wid_eq (f:za0):f.wid=3+((cnt f.kind f.kids).map za0.wid).sum:=by
 have:=za0.fold_eq (fun k _ _ (ws:List Nat)=>3+(cnt k ws).sum) f
 rw [zd0] at this;exact this
def za0.nodes (f:za0):Nat:=f.fold fun _ _ _ ns=>1+ns.sum
theorem za0.nodes_eq (f:za0):f.nodes=1+(f.kids.map za0.nodes).sum:=za0.fold_eq (fun _ _ _ (ns:List Nat)=>1+ns.sum) f
theorem zhd (fs:List za0):fs.length<=(fs.map za0.nodes).sum:=by
 induction fs with
 | nil=>exact bI _
 | cons f fs ih=>rw [bJ,cJ,dN,za0.nodes_eq];omega
theorem zkh (f:za0):f.kids.length+1<=f.nodes:=by rw [za0.nodes_eq];have:=zhd f.kids;omega
theorem zem:∀ (fs out:List za0),(zbd k fs out).nodes<=1+(out.map za0.nodes).sum+(fs.map za0.nodes).sum
 | [],out=>by
  unfold zbd
  match out with
  | []=>rw [za0.nodes_eq];show 1+0<=_;omega
  | [g]=>show g.nodes<=_;simp
  | g :: q :: l=>rw [za0.nodes_eq];show 1+((g :: q :: l).map za0.nodes).sum<=_;omega
 | f :: fs,out=>by
  rw [zbd,bJ,cJ]
  split
  ·omega
  ·split
   ·have:=(zem fs out:(zbd k fs out).nodes<=_);omega
   ·split
    ·have:=(zem fs (out++f.kids):(zbd k fs (out++f.kids)).nodes<=_)
     rw [cO,d4] at this
     have:=za0.nodes_eq f;omega
    ·have:=(zem fs (out++[f]):(zbd k fs (out++[f])).nodes<=_)
     rw [cO,d4] at this
     simp only [bJ,b7,cJ,dU] at this
     omega
theorem zio (r:za9):(zb0 r).nodes=1:=by
 unfold zb0;split <;> (rw [za0.nodes_eq];rfl)
theorem zl4 {F G:α->Nat}:∀ {xs:List α}, (∀ x ∈ xs,F x<=G x)->(xs.map F).sum<=(xs.map G).sum
 | [],_=>bI _
 | x :: xs,h=>by
  rw [bJ,bJ,cJ,cJ]
  have:=h x (cM ..);have:=zl4 (xs:=xs) fun y hy=>h y (d9 _ hy);omega
theorem zez (f:za0):∀ d,(f.flat d).nodes<=f.wid :=
 za0.ind (P:=fun f=>∀ d,(f.flat d).nodes<=f.wid) (fun k r ks ih d=>by
  rw [za0.flat_eq,za0.wid_eq]
  show (zgu k r (ks.map za0.flat) d).nodes<=3+((cnt k ks).map za0.wid).sum
  have ht:∀ b,(zcs b).nodes=1:=fun b=>by rw [za0.nodes_eq];rfl
  unfold zgu
  split
  ·rw [ht];omega
  ·split
   ·split
    ·have h1:=zem (k:=5) ((zc1 r).map zb0) []
     rw [b6] at h1
     have e:(za0.nodes ∘ zb0)=fun _=>1:=funext fun q=>zio q
     rw [e] at h1
     have h2:((zc1 r).map fun _=>(1:Nat)).sum<=2:=by unfold zc1;split <;> simp
     show (zbd 5 _ []).nodes<=_
     simp only [b7,dU] at h1
     omega
    ·rw [zio];omega
   ·split
    ·rename_i h3
     cases ks with
     | nil=>show (zcs d).nodes<=_;rw [ht];omega
     | cons g gs =>
      subst h3
      have:=ih g (cM ..) (!d)
      show (g.flat (!d)).nodes<=3+(([g]).map za0.wid).sum
      simp only [bJ,b7,cJ,dU];omega
    ·split
     ·rename_i h4
      have h1:=zem (k:=if d=true then 9 - k else k) ((ks.map za0.flat).map fun c=>c d) []
      rw [b6,b6] at h1
      have h2:(ks.map (za0.nodes ∘ ((fun c=>c d) ∘ za0.flat))).sum<=(ks.map za0.wid).sum:=zl4 fun g hg=>ih g hg d
      show (zbd _ _ []).nodes<=_
      rw [show cnt k ks=ks from by unfold cnt;rw [if_pos h4],b6]
      simp only [b7,dU] at h1
      omega
     ·rw [ht];omega) f
theorem tight_tok {L:Nat} {r:za9} (h:TOk n L r.t) (hn:n<=1000000000):TOk n (L+4) (zat r).1.t:=by
 have hs:=shr_tok h hn
 unfold zat
 split
 ·exact ⟨bC _,(fun p hp=>by cases hp),zg0,bC _⟩
 ·split
  ·exact ⟨bC _,(fun p hp=>by cases hp),zg0,bC _⟩
  ·show TOk n (L+4) (if _ then zl7 (zct r.t) else zct r.t)
   split
   ·exact ((TOk.mul hs (eG _) (show (eI (-1)).abs.length<=2 from by decide)).plain hn).mono (bI _) (by omega)
   ·exact hs.mono (bI _) (by omega)
theorem zlu {L:Nat} (h:TOk n L t) (hn:n<=1000000000):TOk n (L+3) (zl7 t):=(TOk.mul h (eG _) (show (eI (-1)).abs.length<=2 from by decide)).plain hn
theorem low_tok {L:Nat} (h:TOk n L t) (hn:n<=1000000000):TOk n (2*L+16) (lowR t).t:=by
 have h1:=(zlu h hn).mono (bI n) (show L+3<=L+6 by omega)
 have h0:TOk 0 2 (zcu (eI 1)):=TOk.num (eG _) (by decide)
 have h2:TOk 0 (L+6) (zbi (zcu (eI 1)) (eI (-1))):=((TOk.mul h0 (eG _) (show (eI (-1)).abs.length<=2 from by decide)).plain (by decide)).mono (bI _) (by omega)
 exact (addT_ok h1 h2 (by omega)).mono (by omega) (by omega)
theorem deny_tok {L:Nat} {r:za9} (h:TOk n L r.t) (hn:n<=1000000000):∀ q ∈ zc1 r,TOk n (2*L+22) q.t:=fun q hq=>by
 unfold zc1 at hq
 split at hq
 ·rcases cT.1 hq with rfl | hq
  ·exact (low_tok (zlu h hn) hn).mono (bI _) (by omega)
  ·rw [List.mem_singleton.1 hq];exact (low_tok h hn).mono (bI _) (by omega)
 ·rw [List.mem_singleton.1 hq];exact (low_tok h hn).mono (bI _) (by omega)
theorem wid_kid {g:za0} (h:g ∈ cnt f.kind f.kids):g.wid<=f.wid:=by
 rw [za0.wid_eq f]
 have:∀ (xs:List za0),g ∈ xs->g.wid<=(xs.map za0.wid).sum:=fun xs=>by
  induction xs with
  | nil=>intro h;cases h
  | cons x xs ih =>
   intro h
   rw [bJ,cJ]
   rcases cT.1 h with rfl | h
   ·omega
   ·have:=ih h;omega
 have:=this _ h;omega
theorem flats_nodes {ks:List za0} (h4:k=4\/k=5) {r:za9} (d:Bool) (hw:(za0.mk k r ks).wid<=1000000000000):((ks.map fun g=>g.flat d).map za0.nodes).sum<=(za0.mk k r ks).wid:=by
 rw [za0.wid_eq]
 rw [b6,show cnt (za0.mk k r ks).kind (za0.mk k r ks).kids=ks from (show cnt k ks=ks from by unfold cnt;rw [if_pos h4])]
 have:(ks.map (za0.nodes ∘ fun g=>g.flat d)).sum<=(ks.map za0.wid).sum:=zl4 fun g _=>zez g d
 omega
variable {x:za0} {out:List za0}
theorem zhf {fs:List za0} (h:fs[j]?=some x):zbd k (fs.drop j) out=if (k=4/\x.kind=1)\/(k=5/\x.kind=0) then x else if x.kind=0\/x.kind=1 then zbd k (fs.drop (j+1)) out else if x.kind=k then zbd k (fs.drop (j+1)) (out++x.kids) else zbd k (fs.drop (j+1)) (out++[x]):=by
 obtain ⟨hj,rfl⟩:=bL.1 h
 rw [bS hj,zbd]
theorem zf0 {fs:List za0} (h:fs[j]?=some x):((fs.drop j).map za0.nodes).sum=x.nodes+((fs.drop (j+1)).map za0.nodes).sum:=by
 obtain ⟨hj,rfl⟩:=bL.1 h
 rw [bS hj,bJ,cJ]
theorem zgm (xs ys:List za0):((xs++ys).map za0.nodes).sum=(xs.map za0.nodes).sum+(ys.map za0.nodes).sum:=by rw [cO,d4]
theorem zji (x:za0):([x].map za0.nodes).sum=x.nodes:=by simp
theorem join_nil (h:out.length=0):zbd k [] out=zcs (k == 4):=by rw [cC.1 h];rfl
theorem join_one {g:za0} (h:out.length=1) (hg:out[0]?=some g):zbd k [] out=g:=by
 match out with
 | [q]=>injection hg with hg
 | _ :: _ :: _=>simp at h
theorem join_two (h0:out.length≠0) (h1:out.length≠1):zbd k [] out=⟨k,zR,out⟩:=by
 match out with
 | []=>exact absurd rfl h0
 | [q]=>exact absurd rfl h1
 | _ :: _ :: _=>rfl
theorem Ljoin (k:Int) (fs:List za0) (hk:k=4\/k=5) (hn:(fs.map za0.nodes).sum<=1000000000000):Fn eA 120 [] [vI k,(vFs fs)] (vF (zfn k fs)) []:=by
 have lf:=zhd fs;refine fB Tryz.func120 rfl 68 fun w H B a h=>Jq 5 [] [(0,vI k),(1,(vFs fs)),(4,vp 5 0)] [(5,.box zF0)] h fun a w h=>Je 6 [] [] [(5,vW zam)] h fun a w h=>qW (Je 6 [(1,.len (za3 6 za0.d fs))] [1] [(8,(vFs fs)),(9,vN fs.length),(10,vI 0)] h fun a w h=>qZ ?_)
 replace h:=zfr 5 0 6 6 35 (vW zam) h
 refine zbw (ι:=(Nat) × (List za0)) (fun (j,out)=>j<=fs.length/\zfn k fs=zbd k (fs.drop j) out/\(out.map za0.nodes).sum+((fs.drop j).map za0.nodes).sum<=1000000000000)
   [] (fun (j,out)=>[(5,vO 6 out.length),(10,vN j)])
   [] (fun (j,out)=>[(6,.row 35 6 (out.map za0.d))])
   (fun (j,out)=>fs.length - j) (0,[]) ?_ h ?_
 ·exact ⟨bC _,rfl,by show 0+(fs.map za0.nodes).sum<=_;omega⟩
 clear h;rintro ⟨j,out⟩ a w hI h;dsimp only at h;obtain ⟨hI1,hI2,hI3⟩:=hI;have lo:=zhd out;refine Je 7 [] [] [(11,vb (decide ((j:Int)<(fs.length:Int))))] h fun a w h=>qW (zad ((j:Int)<(fs.length:Int)) h (fun hc1 hc1'=>?_) (fun hc18 hc18'=>?_))
 ·refine qU (za1 (qW (qZ ?_)));obtain ⟨x1,hx1⟩:=gl fs j;have knx1:=zkh x1;have dnx1:=zf0 hx1;refine Jg 7 [(0,.g (xD 12 8 zie ((za7 hx1 (f:=za0.d)).trans (yJ some (za0.d_eq x1))) (eC 10 _)))] [11] [(7,vp 7 0)] [] [(7,.box (zF x1))] h fun a w h=>qZ (midH h [(0,vI k),(4,vp 5 0),(5,vO 6 out.length),(7,vp 7 0),(8,(vFs fs)),(9,vN fs.length),(10,vN j),(18,vb (decide ((k=4/\x1.kind=1)\/(k=5/\x1.kind=0))))] [(5,.box zF0),(6,.row 35 6 (out.map za0.d)),(7,.box (zF x1))] ?_ (fun a w h=>?_))
  ·rcases bG (k == 4) with hc2 | hc7
   ·refine Je 8 [(1,.cmp (op:=.eql) (m:=k) (n:=4) (b:=true) .i64 hc2)] [] [(18,vb (x1.kind == 1))] h fun a w h=>cS (x1.kind == 1) h (fun hc3=>?_) (fun hc4=>?_)
    ·refine qU (za1 ?_);have p0: k=4:=by have:=hc2;simpa using this
     have p1: x1.kind=1:=by have:=hc3;simpa using this
     have hjn:decide ((k=4/\x1.kind=1)\/(k=5/\x1.kind=0))=(x1.kind == 1):=by exact decide_eq_decide.2 (by omega)
     replace h:=cvM [] [(18,vb (decide ((k=4/\x1.kind=1)\/(k=5/\x1.kind=0))))] [] [] (by rw [hjn]; try kernel_rfl) h;exact atS h
    rcases bG (k == 5) with hc5 | hc6
    ·refine Jf 8 [(1,.cmp (op:=.eql) (m:=k) (n:=5) (b:=true) .i64 hc5)] [] [(18,vb (x1.kind == 0))] h fun a w h=>za1 ?_;have p0: k=4:=by have:=hc2;simpa using this
     have p1:¬ x1.kind=1:=by have:=hc4;simpa using this
     have p2: k=5:=by have:=hc5;simpa using this
     have hjn:decide ((k=4/\x1.kind=1)\/(k=5/\x1.kind=0))=(x1.kind == 0):=by exact decide_eq_decide.2 (by omega)
     replace h:=cvM [] [(18,vb (decide ((k=4/\x1.kind=1)\/(k=5/\x1.kind=0))))] [] [] (by rw [hjn]; try kernel_rfl) h;exact atS h
    refine Jf 8 [(1,.cmp (op:=.eql) (m:=k) (n:=5) (b:=false) .i64 hc6)] [] [(18,vb false)] h fun a w h=>za1 ?_;have p0: k=4:=by have:=hc2;simpa using this
    have p1:¬ x1.kind=1:=by have:=hc4;simpa using this
    have p2:¬ k=5:=by have:=hc6;simpa using this
    have hjn:decide ((k=4/\x1.kind=1)\/(k=5/\x1.kind=0))=(false):=by exact yX (by omega)
    replace h:=cvM [] [(18,vb (decide ((k=4/\x1.kind=1)\/(k=5/\x1.kind=0))))] [] [] (by rw [hjn]; try kernel_rfl) h;exact atS h
   refine Je 8 [(1,.cmp (op:=.eql) (m:=k) (n:=4) (b:=false) .i64 hc7)] [] [(18,vb false)] h fun a w h=>zau h ?_
   rcases bG (k == 5) with hc8 | hc9
   ·refine Jf 8 [(1,.cmp (op:=.eql) (m:=k) (n:=5) (b:=true) .i64 hc8)] [] [(18,vb (x1.kind == 0))] h fun a w h=>za1 ?_;have p0:¬ k=4:=by have:=hc7;simpa using this
    have p1: k=5:=by have:=hc8;simpa using this
    have hjn:decide ((k=4/\x1.kind=1)\/(k=5/\x1.kind=0))=(x1.kind == 0):=by exact decide_eq_decide.2 (by omega)
    replace h:=cvM [] [(18,vb (decide ((k=4/\x1.kind=1)\/(k=5/\x1.kind=0))))] [] [] (by rw [hjn]; try kernel_rfl) h;exact atS h
   refine Jf 8 [(1,.cmp (op:=.eql) (m:=k) (n:=5) (b:=false) .i64 hc9)] [] [] h fun a w h=>za1 ?_;have p0:¬ k=4:=by have:=hc7;simpa using this
   have p1:¬ k=5:=by have:=hc9;simpa using this
   have hjn:decide ((k=4/\x1.kind=1)\/(k=5/\x1.kind=0))=(false):=by exact yX (by omega)
   replace h:=cvM [] [(18,vb (decide ((k=4/\x1.kind=1)\/(k=5/\x1.kind=0))))] [] [] (by rw [hjn]; try kernel_rfl) h;exact atS h
  refine zad ((k=4/\x1.kind=1)\/(k=5/\x1.kind=0)) h (fun hc10 hc10'=>?_) (fun hc11 hc11'=>?_)
  ·refine Jg 8 [] [7,18] [] [7] [(5,.box (zF x1))] h fun a w h=>qV (za8 (za8 (za5 (za5 (za8 (za5 ?_))))));refine rA 5 (zF x1) h zdh rfl ?_
   have hz:zfn k fs=x1:=by rw [hI2,zhf hx1,if_pos (by omega)]
   rw [hz];try rfl
  rcases bG (x1.kind == 0) with hc12 | hc13
  ·refine Je 8 [(2,.cmp (op:=.eql) (m:=x1.kind) (n:=0) (b:=true) .i64 hc12)] [18] [(34,vb true)] h fun a w h=>cS true h (fun _=>?_) nofun
   refine qU (za6 (za6 (za1 (Jh 8 [(0,.j1 j)] [7,34] [(10,vI ((j:Int)+1))] [7] [] h fun a w h=>za1 (zaa (x:=(j,out)) (y:=(j+1,out)) h ?_ ?_)))))
   ·have:=zab hx1;have hdn:=zf0 hx1;have hxn:=za0.nodes_eq x1;have p0: x1.kind=0:=by have:=hc12;simpa using this
    exact ⟨by omega,by rw [hI2,zhf hx1,if_neg (by omega),if_pos (by omega)],by first | omega | (rw [zgm];(try rw [zji]);omega)⟩
   show fs.length - (j+1)<fs.length - j;have:=zab hx1;omega
  refine Je 8 [(2,.cmp (op:=.eql) (m:=x1.kind) (n:=0) (b:=false) .i64 hc13)] [18] [(34,vb (x1.kind == 1))] h fun a w h=>cS (x1.kind == 1) h (fun hc14=>?_) (fun hc15=>?_)
  ·refine qU (za6 (za6 (za1 (Jh 8 [(0,.j1 j)] [7,34] [(10,vI ((j:Int)+1))] [7] [] h fun a w h=>za1 (zaa (x:=(j,out)) (y:=(j+1,out)) h ?_ ?_)))))
   ·have:=zab hx1;have hdn:=zf0 hx1;have hxn:=za0.nodes_eq x1;have p0:¬ x1.kind=0:=by have:=hc13;simpa using this
    have p1: x1.kind=1:=by have:=hc14;simpa using this
    exact ⟨by omega,by rw [hI2,zhf hx1,if_neg (by omega),if_pos (by omega)],by first | omega | (rw [zgm];(try rw [zji]);omega)⟩
   show fs.length - (j+1)<fs.length - j;have:=zab hx1;omega
  refine Je 8 [] [34] [(43,vb (x1.kind == k))] h fun a w h=>cS (x1.kind == k) h (fun hc16=>?_) (fun hc17=>?_)
  ·refine Jh 8 [(3,.g (aD 51 48 50 6 8 out x1.kids za0.d la_7 (by simp [za0.d_len])))] [7,43] [(5,vO 8 (out++x1.kids).length)] [6,7] [(8,.row 35 6 ((out++x1.kids).map za0.d))] h fun a w h=>za6 (za6 (za1 (Jf 9 [(0,.j1 j)] [] [(10,vI ((j:Int)+1))] h fun a w h=>za1 ?_)));replace h:=zd7 8 6 h;refine zaa (x:=(j,out)) (y:=(j+1,(out++x1.kids))) h ?_ ?_
   ·have:=zab hx1;have hdn:=zf0 hx1;have hxn:=za0.nodes_eq x1;have p0:¬ x1.kind=0:=by have:=hc13;simpa using this
    have p1:¬ x1.kind=1:=by have:=hc15;simpa using this
    have p2: x1.kind=k:=by have:=hc16;simpa using this
    exact ⟨by omega,by rw [hI2,zhf hx1,if_neg (by omega),if_neg (by omega),if_pos (by omega)],by first | omega | (rw [zgm];(try rw [zji]);omega)⟩
   show fs.length - (j+1)<fs.length - j;have:=zab hx1;omega
  refine Jh 9 [(2,.g (bD 16 ([x1].map za0.d) [(15,(vF x1))] kb_1 (.cons (i:=0) (eC 15 _) (.nil)) (by simp only [bJ,b7,cW,cX,b9,za0.d_eq]; try kernel_rfl) (by simp [za0.d_len]))),(3,.g (aD 17 14 16 6 9 out [x1] za0.d la_7 (by simp [za0.d_len])))] [7,43] [(5,vO 9 (out++[x1]).length)] [6,7] [(9,.row 35 6 ((out++[x1]).map za0.d))] h fun a w h=>za6 (za6 (za1 (Jf 10 [(0,.j1 j)] [] [(10,vI ((j:Int)+1))] h fun a w h=>za1 ?_)));replace h:=zd7 9 6 h;refine zaa (x:=(j,out)) (y:=(j+1,(out++[x1]))) h ?_ ?_
  ·have:=zab hx1;have hdn:=zf0 hx1;have hxn:=za0.nodes_eq x1;have p0:¬ x1.kind=0:=by have:=hc13;simpa using this
   have p1:¬ x1.kind=1:=by have:=hc15;simpa using this
   have p2:¬ x1.kind=k:=by have:=hc17;simpa using this
   exact ⟨by omega,by rw [hI2,zhf hx1,if_neg (by omega),if_neg (by omega),if_neg (by omega)],by first | omega | (rw [zgm];(try rw [zji]);omega)⟩
  show fs.length - (j+1)<fs.length - j;have:=zab hx1;omega
 refine exA (qW (Je 10 [] [8,9,10,11] [(54,vN out.length)] h fun a w h=>qZ (Je 10 [] [] [(55,vb ((out.length:Int) == 0))] h fun a w h=>cS ((out.length:Int) == 0) h (fun hc19=>?_) (fun hc20=>?_))))
 ·refine Jg 10 [(2,.call (zk3 (k == 4)))] [54,55] [] [] [(5,.box (zF (zcs (k == 4))))] h fun a w h=>qV (za8 (za5 (rA 5 (zF (zcs (k == 4))) h zdh rfl ?_)));have hdz:fs.drop j=[]:=bP (by omega);have hz:zfn k fs=zcs (k == 4):=by rw [hI2,hdz];exact join_nil (by have:=hc19;simp at this;first | omega | (rw [this];rfl))
  rw [hz];try rfl
 refine Je 10 [] [54,55] [(60,vb ((out.length:Int) == 1))] h fun a w h=>cS ((out.length:Int) == 1) h (fun hc21=>?_) (fun hc22=>?_)
 ·obtain ⟨x3,hx3⟩:=gl out 0;refine Jg 10 [(1,.g (xO 63 62 6 out.length 0 zie (OV.const (.int .i64 0) rfl))),(2,.g (Op.loadR_agg (d:=64) (t:=63) (n:=6) (i:=0) (fo:=0) (rty:=35) (es:=6) (xs:=[.raw (.int .i64 x3.kind),.sl 3 (x3.r.t.parts.map eK),.raw (.bool x3.r.t.k.neg),nsl x3.r.t.k.abs,.raw (.bool x3.r.eq),.sl 6 (x3.kids.map za0.d)]) zdh rfl ((za7 hx3 (f:=za0.d)).trans (yJ some (za0.d_eq x3))) rfl rfl))] [60] [] [] [(5,.box (zF x3))] h fun a w h=>qV (za8 (za5 (rA 5 (zF x3) h zdh rfl ?_)));have hdz:fs.drop j=[]:=bP (by omega);have hz:zfn k fs=x3:=by rw [hI2,hdz];exact join_one (by have:=hc21;simp at this;omega) hx3
  rw [hz];try rfl
 refine qU (za6 (za1 (Jg 10 [] [0,5,60] [] [] [(5,.box [cI k,nCl,cB false,.d (nsl []),cB false,.own 6 out.length])] h fun a w h=>qV ?_)));replace h:=zbs 5 1 3 [cI k,nCl,cB false,.d (nsl []),cB false,.own 6 out.length] h;replace h:=zj2 6 6 35 (out.map za0.d) h [out.length] ⟨by first | exact (bE _).symm | (simp;done) | (simp;omega),trivial⟩;refine rA 5 [cI k,cPs [],cB false,.d (nsl []),cB false,cFs out] h zdh rfl ?_;have hdz:fs.drop j=[]:=bP (by omega);have hz:zfn k fs=⟨k,zR,out⟩:=by rw [hI2,hdz];exact join_two (fun e=>by have:=hc20;rw [e] at this;simp at this) (fun e=>by have:=hc22;rw [e] at this;simp at this)
 rw [hz];try rfl
theorem deny_len (r:za9):(zc1 r).length<=2:=by unfold zc1;split <;> simp
theorem tight_sum (r:za9):(((zc1 r).map zb0).map za0.nodes).sum<=1000000000000:=by
 rw [b6]
 have e:(za0.nodes ∘ zb0)=fun _=>1:=funext fun q=>zio q
 rw [e]
 have h2:((zc1 r).map fun _=>(1:Nat)).sum<=2:=by unfold zc1;split <;> simp
 omega
theorem zjo (h4:f.kind=4\/f.kind=5) (d:Bool) (hw:f.wid<=1000000000000):((f.kids.map fun g=>g.flat d).map za0.nodes).sum<=1000000000000:=by
 obtain ⟨k,r,ks⟩:=f
 exact bU (flats_nodes h4 (r:=r) d hw) hw
theorem flat_0 {d:Bool} (h:f.kind=0):f.flat d=zcs (!d):=by rw [za0.flat_eq,h];rfl
theorem flat_2f {d:Bool} (h:f.kind=2) (hd:d=false):f.flat d=zb0 f.r:=by rw [za0.flat_eq,h,hd];rfl
theorem flat_2t {d:Bool} (h:f.kind=2) (hd:d=true):f.flat d=zfn 5 ((zc1 f.r).map zb0):=by rw [za0.flat_eq,h,hd];rfl
theorem flat_3n {d:Bool} (h:f.kind=3) (hl:f.kids.length=0):f.flat d=zcs d:=by rw [za0.flat_eq,h,cC.1 hl];rfl
theorem flat_3c {g:za0} {d:Bool} (h:f.kind=3) (hg:f.kids[0]?=some g):f.flat d=g.flat (!d):=by
 obtain ⟨tl,e⟩:=cons_of_at hg
 rw [za0.flat_eq,h,e];rfl
theorem flat_45 {d:Bool} (h:f.kind=4\/f.kind=5):f.flat d=zfn (if d=true then 9 - f.kind else f.kind) (f.kids.map fun g=>g.flat d):=by
 rw [za0.flat_eq];unfold zgu
 rw [if_neg (by omega),if_neg (by omega),if_neg (by omega),if_pos h,b6];rfl
theorem flat_x {d:Bool} (h0:f.kind≠0) (h2:f.kind≠2) (h3:f.kind≠3) (h4:f.kind≠4) (h5:f.kind≠5):f.flat d=zcs d:=by
 rw [za0.flat_eq];unfold zgu
 rw [if_neg h0,if_neg h2,if_neg h3,if_neg (by omega)]
theorem Lflats (fs:List za0) (d:Bool) (hfl:∀ g ∈ fs,Fn eA 81 [] [(vF g),vb d] (vF (za0.flat g d)) []) (hl:fs.length<=1000000000000):Fn eA 121 [] [(vFs fs),vb d] (vFs (fs.map (fun g=>za0.flat g d))) []:=by
 refine fB Tryz.func121 rfl 22 fun w H B a h=>Jq 5 [] [(0,(vFs fs)),(1,vb d),(4,vW zam)] [] h fun a w h=>Jg 5 [] [] [(5,vW zam)] [] [] h fun a w h=>qW (Jg 5 [(1,.len (za3 6 za0.d fs))] [0] [(8,(vFs fs)),(9,vN fs.length),(10,vI 0)] [] [] h fun a w h=>qZ ?_)
 replace h:=zfr 5 0 5 6 35 (vW zam) h
 refine zbw (ι:=(Nat)) (fun j=>j<=fs.length)
   [] (fun j=>[(5,vO 5 ((fs.take j).map (fun g=>za0.flat g d)).length),(10,vN j)])
   [] (fun j=>[(5,.row 35 6 (((fs.take j).map (fun g=>za0.flat g d)).map za0.d))])
   (fun j=>fs.length - j) 0 ?_ h ?_
 ·exact bC _
 clear h;rintro j a w hI h;have lmj:((fs.take j).map (fun g=>za0.flat g d)).length<=j:=by rw [bE,b5];omega
 refine Je 6 [] [] [(11,vb (decide ((j:Int)<(fs.length:Int))))] h fun a w h=>qW (zad ((j:Int)<(fs.length:Int)) h (fun hc1 hc1'=>?_) (fun hc2 hc2'=>?_))
 ·refine qU (za1 (qW (qZ ?_)));obtain ⟨x1,hx1⟩:=gl fs j;refine Jg 6 [(0,.g (xD 12 8 zie ((za7 hx1 (f:=za0.d)).trans (yJ some (za0.d_eq x1))) (eC 10 _)))] [11] [(7,vp 6 0)] [] [(6,.box (zF x1))] h fun a w h=>Jh 7 [(3,.call (hfl x1 (lM hx1))),(4,.g (bD 18 ([(za0.flat x1 d)].map za0.d) [(17,(vF (za0.flat x1 d)))] kb_1 (.cons (i:=0) (eC 17 _) (.nil)) (by simp only [bJ,b7,cW,cX,b9,za0.d_eq]; try kernel_rfl) (by simp [za0.d_len]))),(5,.g (aD 19 14 18 5 7 ((fs.take j).map (fun g=>za0.flat g d)) [(za0.flat x1 d)] za0.d la_7 (by simp [za0.d_len])))] [7] [(5,vO 7 (((fs.take j).map (fun g=>za0.flat g d))++[(za0.flat x1 d)]).length)] [5,6] [(7,.row 35 6 ((((fs.take j).map (fun g=>za0.flat g d))++[(za0.flat x1 d)]).map za0.d))] h fun a w h=>za6 (za1 (Jf 8 [(0,.j1 j)] [] [(10,vI ((j:Int)+1))] h fun a w h=>za1 ?_));rw [show ((((fs.take j).map (fun g=>za0.flat g d))++[(za0.flat x1 d)]):List za0)=((fs.take (j+1)).map (fun g=>za0.flat g d)) from (zej hx1)] at h;replace h:=zd7 7 5 h;refine zaa (x:=j) (y:=j+1) h ?_ ?_
  ·have:=zab hx1;show j+1<=fs.length;omega
  show fs.length - (j+1)<fs.length - j;have:=zab hx1;omega
 refine exA (Jp 8 [] [(4,vO 5 ((fs.take j).map (fun g=>za0.flat g d)).length)] h fun a w h=>qV ?_);rw [show (((fs.take j).map (fun g=>za0.flat g d)):List za0)=(fs.map (fun g=>za0.flat g d)) from (by rw [bX (by omega)])] at h;replace h:=zj2 5 6 35 ((fs.map (fun g=>za0.flat g d)).map za0.d) h [(fs.map (fun g=>za0.flat g d)).length] ⟨by first | exact (bE _).symm | (simp;done) | (simp;omega),trivial⟩;refine rT (.c (cFs (fs.map (fun g=>za0.flat g d)))) h rfl ?_;rfl
theorem Lflat0 (f:za0) (d:Bool) (ih:∀ g ∈ cnt f.kind f.kids,∀ d:Bool,Fn eA 81 [] [(vF g),vb d] (vF (za0.flat g d)) []) (hf:f.okB 300000000 2000) (hw:f.wid<=1000000000000):Fn eA 81 [] [(vF f),vb d] (vF (za0.flat f d)) []:=by
 have ldn:=deny_len f.r;have lkm:=zdw hf;refine fB Tryz.func81 rfl 69 fun w H B a h=>?_
 refine Jq 5 [] [(1,vb d),(2,vp 5 0),(4,vp 6 0)] [(5,.box (zF f)),(6,.box zF0)] h fun a w h=>?_;refine qW (Je 7 [] [] [(10,vI f.kind)] h fun a w h=>?_);refine qZ (Je 7 [] [] [(11,vb (f.kind == 0))] h fun a w h=>?_);refine cS (f.kind == 0) h (fun hc1=>?_) (fun hc2=>?_)
 ·have hc1':=hc1;(try simp at hc1');refine Jd 7 [(2,.call (zk3 (!d)))] [2,10,11] [] [(6,.box (zF (zcs (!d))))] h fun a w h=>?_;refine qV (za8 (za5 ?_));refine rA 6 (zF (zcs (!d))) h zdh rfl ?_;rw [flat_0 (by have:=hc1;simpa using this)];try rfl
 have hc2':=hc2;(try simp at hc2');refine Je 7 [] [11] [(16,vb (f.kind == 2))] h fun a w h=>?_;refine cS (f.kind == 2) h (fun hc3=>?_) (fun hc8=>?_)
 ·have hc3':=hc3;(try simp at hc3');refine qW (Je 7 [] [10,16] [(19,vb (!d))] h fun a w h=>?_);refine cS (!d) h (fun hc4=>?_) (fun hc5=>?_)
  ·have hc4':=hc4;(try simp at hc4');refine Jg 7 [(2,.call (LtightF f.r ((rel_ok hf hc3).mono (by decide) (by decide))))] [19] [] [] [(6,.box (zF (zb0 f.r)))] h fun a w h=>?_;refine qV (za5 (za8 (za5 ?_)));refine rA 6 (zF (zb0 f.r)) h zdh rfl ?_;rw [flat_2f (by have:=hc3;simpa using this) (show (d)=false from by simpa using hc4)];try rfl
  have hc5':=hc5;(try simp at hc5');refine qU (za1 (Je 7 [] [19] [(5,vW zam)] h fun a w h=>?_));refine qW (Jg 7 [(2,.call (LrDeny f.r (rel_ok hf hc3))),(3,.len (za3 4 za9.d (zc1 f.r)))] [2] [(25,(vRs (zc1 f.r))),(26,vI ((zc1 f.r).length:Int)),(27,vI 0)] [5] [] h fun a w h=>?_);refine qZ ?_;replace h:=zfr 5 0 7 6 35 (vW zam) h
  refine zbw (ι:=(Nat)) (fun j=>j<=(zc1 f.r).length)
    [] (fun j=>[(5,vO 7 (((zc1 f.r).take j).map zb0).length),(27,vN j)])
    [] (fun j=>[(7,.row 35 6 ((((zc1 f.r).take j).map zb0).map za0.d))])
    (fun j=>(zc1 f.r).length - j) 0 ?_ h ?_
  ·exact bC _
  clear h;rintro j a w hI h;have lmj:(((zc1 f.r).take j).map zb0).length<=j:=by rw [bE,b5];omega
  refine Je 8 [] [] [(28,vb (decide ((j:Int)<((zc1 f.r).length:Int))))] h fun a w h=>?_;refine qW ?_;refine zad ((j:Int)<((zc1 f.r).length:Int)) h (fun hc6 hc6'=>?_) (fun hc7 hc7'=>?_)
  ·refine qU (za1 (qW (qZ ?_)));obtain ⟨x4,hx4⟩:=gl (zc1 f.r) j;refine Jg 8 [(0,.g (xD 29 25 kc_3 (za7 hx4 (f:=za9.d)) (eC 27 _)))] [28] [(7,vp 8 0)] [] [(8,.box (zR_ x4))] h fun a w h=>?_;refine Jh 9 [(2,.call (LtightF x4 ((deny_tok (rel_ok hf hc3) (by decide) x4 (lM hx4)).mono (by decide) (by decide)))),(3,.g (bD 34 ([(zb0 x4)].map za0.d) [(33,(vF (zb0 x4)))] kb_1 (.cons (i:=0) (eC 33 _) (.nil)) (by simp only [bJ,b7,cW,cX,b9,za0.d_eq]; try kernel_rfl) (by simp [za0.d_len]))),(4,.g (aD 35 31 34 7 9 (((zc1 f.r).take j).map zb0) [(zb0 x4)] za0.d la_7 (by simp [za0.d_len])))] [7] [(5,vO 9 ((((zc1 f.r).take j).map zb0)++[(zb0 x4)]).length)] [7,8] [(9,.row 35 6 (((((zc1 f.r).take j).map zb0)++[(zb0 x4)]).map za0.d))] h fun a w h=>?_;refine za6 (za1 (Jf 10 [(0,.j1 j)] [] [(27,vI ((j:Int)+1))] h fun a w h=>?_));refine za1 ?_;rw [show (((((zc1 f.r).take j).map zb0)++[(zb0 x4)]):List za0)=(((zc1 f.r).take (j+1)).map zb0) from (zej hx4)] at h;replace h:=zd7 9 7 h;refine zaa (x:=j) (y:=j+1) h ?_ ?_
   ·have:=zab hx4;show j+1<=(zc1 f.r).length;omega
   show (zc1 f.r).length - (j+1)<(zc1 f.r).length - j;have:=zab hx4;omega
  refine exA ?_;rw [show ((((zc1 f.r).take j).map zb0):List za0)=((zc1 f.r).map zb0) from (by rw [bX (by omega)])] at h;replace h:=zj2 7 6 35 (((zc1 f.r).map zb0).map za0.d) h [((zc1 f.r).map zb0).length] ⟨by first | exact (bE _).symm | (simp;done) | (simp;omega),trivial⟩;refine Jq 10 [(1,.call (Ljoin 5 ((zc1 f.r).map zb0) (.inr rfl) (tight_sum f.r)))] [(1,vb d),(4,vp 6 0)] [(6,.box (zF (zfn 5 ((zc1 f.r).map zb0))))] h fun a w h=>?_;refine qV (za8 (za5 ?_));refine rA 6 (zF (zfn 5 ((zc1 f.r).map zb0))) h zdh rfl ?_;rw [flat_2t (by have:=hc3;simpa using this) (show (d)=true from by simpa using hc5)];try rfl
 have hc8':=hc8;(try simp at hc8');refine Je 10 [] [16] [(39,vb (f.kind == 3))] h fun a w h=>?_;refine cS (f.kind == 3) h (fun hc9=>?_) (fun hc12=>?_)
 ·have hc9':=hc9;(try simp at hc9');refine Je 10 [(2,.len (za3 6 za0.d f.kids))] [10,39] [(44,vb (decide ((f.kids.length:Int)>0)))] h fun a w h=>?_;refine zad ((f.kids.length:Int)>0) h (fun hc10 hc10'=>?_) (fun hc11 hc11'=>?_)
  ·obtain ⟨x7,hx7⟩:=gl f.kids 0;refine Jg 10 [(2,.g (xD 47 46 zie ((za7 hx7 (f:=za0.d)).trans (yJ some (za0.d_eq x7))) (OV.const (.int .i64 0) rfl))),(6,.call (ih x7 (by unfold cnt;rw [if_neg (by omega),if_pos (by omega)];exact zjm hx7) (!d)))] [2,44] [] [5] [(6,.box (zF (za0.flat x7 (!d))))] h fun a w h=>?_;refine qV (za8 (za5 ?_));refine rA 6 (zF (za0.flat x7 (!d))) h zdh rfl ?_;rw [flat_3c (by have:=hc9;simpa using this) hx7];try rfl
  refine qU (za6 (za1 (Jq 10 [(1,.call (zk3 d))] [(4,vp 6 0)] [(6,.box (zF (zcs d)))] h fun a w h=>?_)));refine qV ?_;refine rA 6 (zF (zcs d)) h zdh rfl ?_;rw [flat_3n (by have:=hc9;simpa using this) (by have:=hc11;simp at this;first | omega | (rw [this];rfl))];try rfl
 have hc12':=hc12;(try simp at hc12');refine qW (Je 10 [] [39] [(52,vb (f.kind == 4))] h fun a w h=>?_);refine cS (f.kind == 4) h (fun hc13=>?_) (fun hc16=>?_)
 ·have hc13':=hc13;(try simp at hc13');refine qU (za1 ?_);refine cS (f.kind == 4) h (fun hc=>?_) (fun hc=>?_)
  ·clear hc;refine Je 10 [] [10,52] [(8,vI f.kind)] h fun a w h=>?_;refine qW (Je 10 [] [] [(57,vb d)] h fun a w h=>?_);refine cS d h (fun hc14=>?_) (fun hc15=>?_)
   ·refine Jf 10 [(2,.sub .i64 (m:=9) (n:=f.kind) i6)] [57] [(8,vI (9 - f.kind))] h fun a w h=>?_;refine za1 (Jg 10 [(4,.call (Lflats f.kids d (fun g hg=>ih g (by unfold cnt;rw [if_pos (by omega)];exact hg) d) (by have:=zff hf;unfold cnt at this;rw [if_pos (by omega)] at this;exact this))),(5,.call (Ljoin (9 - f.kind) (f.kids.map (fun g=>za0.flat g d)) (by omega) (zjo (by omega) d hw)))] [2,8] [] [5] [(6,.box (zF (zfn (9 - f.kind) (f.kids.map (fun g=>za0.flat g d)))))] h fun a w h=>?_);refine qV (za8 (za5 ?_));refine rA 6 (zF (zfn (9 - f.kind) (f.kids.map (fun g=>za0.flat g d)))) h zdh rfl ?_;rw [flat_45 (by omega),if_pos hc14];try rfl
   refine qU (za1 (Jg 10 [(4,.call (Lflats f.kids d (fun g hg=>ih g (by unfold cnt;rw [if_pos (by omega)];exact hg) d) (by have:=zff hf;unfold cnt at this;rw [if_pos (by omega)] at this;exact this))),(5,.call (Ljoin f.kind (f.kids.map (fun g=>za0.flat g d)) (by omega) (zjo (by omega) d hw)))] [2,8,57] [] [5] [(6,.box (zF (zfn f.kind (f.kids.map (fun g=>za0.flat g d)))))] h fun a w h=>?_));refine qV (za8 (za5 ?_));refine rA 6 (zF (zfn f.kind (f.kids.map (fun g=>za0.flat g d)))) h zdh rfl ?_;rw [flat_45 (by omega),if_neg (by rw [hc15];exact Bool.noConfusion)];try rfl
  rw [hc13] at hc;cases hc
 have hc16':=hc16;(try simp at hc16');refine Jf 10 [] [10] [(52,vb (f.kind == 5))] h fun a w h=>?_;refine za1 ?_;refine cS (f.kind == 5) h (fun hc17=>?_) (fun hc20=>?_)
 ·have hc17':=hc17;(try simp at hc17');refine Je 10 [] [52] [(8,vI f.kind)] h fun a w h=>?_;refine qW (Je 10 [] [] [(57,vb d)] h fun a w h=>?_);refine cS d h (fun hc18=>?_) (fun hc19=>?_)
  ·refine Jf 10 [(2,.sub .i64 (m:=9) (n:=f.kind) i6)] [57] [(8,vI (9 - f.kind))] h fun a w h=>?_;refine za1 (Jg 10 [(4,.call (Lflats f.kids d (fun g hg=>ih g (by unfold cnt;rw [if_pos (by omega)];exact hg) d) (by have:=zff hf;unfold cnt at this;rw [if_pos (by omega)] at this;exact this))),(5,.call (Ljoin (9 - f.kind) (f.kids.map (fun g=>za0.flat g d)) (by omega) (zjo (by omega) d hw)))] [2,8] [] [5] [(6,.box (zF (zfn (9 - f.kind) (f.kids.map (fun g=>za0.flat g d)))))] h fun a w h=>?_);refine qV (za8 (za5 ?_));refine rA 6 (zF (zfn (9 - f.kind) (f.kids.map (fun g=>za0.flat g d)))) h zdh rfl ?_;rw [flat_45 (by omega),if_pos hc18];try rfl
  refine qU (za1 (Jg 10 [(4,.call (Lflats f.kids d (fun g hg=>ih g (by unfold cnt;rw [if_pos (by omega)];exact hg) d) (by have:=zff hf;unfold cnt at this;rw [if_pos (by omega)] at this;exact this))),(5,.call (Ljoin f.kind (f.kids.map (fun g=>za0.flat g d)) (by omega) (zjo (by omega) d hw)))] [2,8,57] [] [5] [(6,.box (zF (zfn f.kind (f.kids.map (fun g=>za0.flat g d)))))] h fun a w h=>?_));refine qV (za8 (za5 ?_));refine rA 6 (zF (zfn f.kind (f.kids.map (fun g=>za0.flat g d)))) h zdh rfl ?_;rw [flat_45 (by omega),if_neg (by rw [hc19];exact Bool.noConfusion)];try rfl
 have hc20':=hc20;(try simp at hc20');refine qU (za6 (za1 (Jq 10 [(1,.call (zk3 d))] [(4,vp 6 0)] [(6,.box (zF (zcs d)))] h fun a w h=>?_)));refine qV ?_;refine rA 6 (zF (zcs d)) h zdh rfl ?_;rw [flat_x (by have:=hc2;simpa using this) (by have:=hc8;simpa using this) (by have:=hc12;simpa using this) (by have:=hc16;simpa using this) (by have:=hc20;simpa using this)];try rfl
theorem Lflat (f:za0):f.okB 300000000 2000->f.wid<=1000000000000->∀ d:Bool,Fn eA 81 [] [(vF f),vb d] (vF (za0.flat f d)) [] :=
 za0.ind (P:=fun f=>f.okB 300000000 2000->f.wid<=1000000000000->∀ d:Bool,Fn eA 81 [] [(vF f),vb d] (vF (za0.flat f d)) []) (fun k r ks ih hf hw d=>Lflat0 ⟨k,r,ks⟩ d (fun g hg d=>ih g (zb9 hg) (zhe hf hg) (bU (wid_kid hg) hw) d) hf hw) f
theorem LFlat (f:za0) (hf:f.okB 300000000 2000) (hw:f.wid<=1000000000000):Fn eA 49 [] [(vF f)] (vF (za0.flat f false)) []:=by
 refine fB Tryz.func49 rfl 5 fun w H B a h=>Jq 0 [] [(1,vp 0 0),(2,vp 1 0)] [(0,.box (zF f)),(1,.box zF0)] h fun a w h=>Jd 2 [(1,.call (Lflat f hf hw false))] [1] [] [(1,.box (zF (za0.flat f false)))] h fun a w h=>qV (rA 1 (zF (za0.flat f false)) h zdh rfl ?_)
 rfl
theorem ma0_13:zbt eA 184:=zbt.mk' (by kernel_rfl)
theorem ma0_14:zbt eA 157:=zbt.mk' (by kernel_rfl)
theorem zjw (h:f.kind=3\/f.kind=4\/f.kind=5):f.cl.kids=(cnt f.kind f.kids).map za0.cl:=by rw [cl_kids h];rfl
theorem cl_out9 (h:¬ (f.kind=3\/f.kind=4\/f.kind=5)) (h2:(f.kind == 2)=false) (h0:(f.kind == 0)=false):f.cl=zcs false:=by
 simp only [beq_eq_false_iff_ne] at h0 h2
 rw [cl_eq,zgj _ _ _ h0 h2 h]
theorem cl_kids_cl {q:za0} (h:q ∈ f.cl.kids):q.cl=q:=by
 by_cases e:f.kind=3\/f.kind=4\/f.kind=5
 ·rw [zjw e] at h
  obtain ⟨g,_,rfl⟩:=bN.1 h
  exact cl_cl g
 ·exfalso
  have:f.cl.kids=[]:=by
   rw [cl_eq];unfold zfd
   split
   ·rfl
   ·split
    ·rfl
    ·rfl
  rw [this] at h;cases h
theorem cnt_of_cl (f:za0):cnt f.cl.kind f.cl.kids=f.cl.kids:=by
 by_cases e:f.kind=3\/f.kind=4\/f.kind=5
 ·rw [cl_kids e]
  show cnt f.kind ((cnt f.kind f.kids).map za0.cl)=(cnt f.kind f.kids).map za0.cl
  rw [<- zd0,cnt_cnt]
 ·have h0:f.cl.kids=[]:=by
   rw [cl_eq];unfold zfd
   split
   ·rfl
   ·split
    ·rfl
    ·rfl
  rw [h0];unfold cnt;split;rfl;split;rfl;rfl
theorem mvx_at {F:za0->za0} {xs:List za0} (h:xs[j]?=some x):((xs.take j).map F++xs.drop j)[j]?=some x:=by
 obtain ⟨hj,rfl⟩:=bL.1 h
 rw [List.getElem?_append_right (by rw [bE,b5];omega),bE,b5,List.getElem?_drop,show j+(j - min j xs.length)=j by omega]
 exact h
theorem mvx_set {F:za0->za0} {xs:List za0} (h:xs[j]?=some x):((xs.take j).map F++xs.drop j).set j (F x)=(xs.take (j+1)).map F++xs.drop (j+1):=by
 obtain ⟨hj,rfl⟩:=bL.1 h
 have hl:((xs.take j).map F).length=j:=by rw [bE,b5];omega
 rw [List.set_append_right _ _ (by omega),hl,Nat.sub_self,bS hj,List.set_cons_zero,bW,cO,List.append_assoc]
 congr 1
 rw [h];rfl
theorem mvx_len {F:za0->za0} (xs:List za0) (j:Nat) (h:j<=xs.length):((xs.take j).map F++xs.drop j).length=xs.length:=by
 rw [cU,bE,b5,List.length_drop];omega
theorem each_kids (t:za9->za9) (h:f.kind=3\/f.kind=4\/f.kind=5):f.each t=⟨f.kind,zR,f.cl.kids.map (za0.each t)⟩:=by
 rw [za0.each_eq,zea _ _ _ h,zd0,zjw h,b6]
 congr 1
 exact List.map_congr_left fun g _=>(each_cl t g).symm
theorem each_0 (t:za9->za9) (h:f.kind=0):f.each t=zcs true:=by rw [za0.each_eq];unfold zfd;rw [if_pos h]
theorem each_x (t:za9->za9) (h:¬ (f.kind=3\/f.kind=4\/f.kind=5)) (h2:f.kind≠2) (h0:f.kind≠0):f.each t=zcs false:=by rw [za0.each_eq,zgj _ _ _ h0 h2 h]
def zcv (n:Int) (r:za9):za9:=⟨movZ r.t (zae n),r.eq⟩
def zbu (vs:List Int) (bys:List zaf) (r:za9):za9:=⟨putZ r.t vs bys,r.eq⟩
theorem LclonesO (fs:List za0) (hcl:∀ g ∈ fs,Fn eA 114 [] [(vF g)] (vF (za0.cl g)) []) (hl:fs.length<=1000000000000):Fn eA 71 [] [(vFs fs)] (vO 0 (fs.map za0.cl).length) [(0,.row 35 6 ((fs.map za0.cl).map za0.d))]:=by
 refine fB Tryz.func71 rfl 19 fun w H B a h=>Jq 5 [] [(0,(vFs fs)),(2,vW zam)] [] h fun a w h=>Jg 5 [] [] [(3,vW zam)] [] [] h fun a w h=>qW (Jg 5 [(1,.len (za3 6 za0.d fs))] [0] [(6,(vFs fs)),(7,vN fs.length),(8,vI 0)] [] [] h fun a w h=>qZ ?_)
 replace h:=zfr 3 0 5 6 35 (vW zam) h
 refine zbw (ι:=(Nat)) (fun j=>j<=fs.length)
   [] (fun j=>[(3,vO 5 ((fs.take j).map za0.cl).length),(8,vN j)])
   [] (fun j=>[(5,.row 35 6 (((fs.take j).map za0.cl).map za0.d))])
   (fun j=>fs.length - j) 0 ?_ h ?_
 ·exact bC _
 clear h;rintro j a w hI h;have lmj:((fs.take j).map za0.cl).length<=j:=by rw [bE,b5];omega
 refine Je 6 [] [] [(9,vb (decide ((j:Int)<(fs.length:Int))))] h fun a w h=>qW (zad ((j:Int)<(fs.length:Int)) h (fun hc1 hc1'=>?_) (fun hc2 hc2'=>?_))
 ·refine qU (za1 (qW (qZ ?_)));obtain ⟨x1,hx1⟩:=gl fs j;refine Jg 6 [(0,.g (xD 10 6 zie ((za7 hx1 (f:=za0.d)).trans (yJ some (za0.d_eq x1))) (eC 8 _)))] [9] [(5,vp 6 0)] [] [(6,.box (zF x1))] h fun a w h=>Jh 7 [(2,.call (hcl x1 (lM hx1))),(3,.g (bD 15 ([(za0.cl x1)].map za0.d) [(14,(vF (za0.cl x1)))] kb_1 (.cons (i:=0) (eC 14 _) (.nil)) (by simp only [bJ,b7,cW,cX,b9,za0.d_eq]; try kernel_rfl) (by simp [za0.d_len]))),(4,.g (aD 16 12 15 5 7 ((fs.take j).map za0.cl) [(za0.cl x1)] za0.d la_7 (by simp [za0.d_len])))] [5] [(3,vO 7 (((fs.take j).map za0.cl)++[(za0.cl x1)]).length)] [5,6] [(7,.row 35 6 ((((fs.take j).map za0.cl)++[(za0.cl x1)]).map za0.d))] h fun a w h=>za6 (za1 (Jf 8 [(0,.j1 j)] [] [(8,vI ((j:Int)+1))] h fun a w h=>za1 ?_));rw [show ((((fs.take j).map za0.cl)++[(za0.cl x1)]):List za0)=((fs.take (j+1)).map za0.cl) from (zej hx1)] at h;replace h:=zd7 7 5 h;refine zaa (x:=j) (y:=j+1) h ?_ ?_
  ·have:=zab hx1;show j+1<=fs.length;omega
  show fs.length - (j+1)<fs.length - j;have:=zab hx1;omega
 refine exA (Jp 8 [] [(2,vO 5 ((fs.take j).map za0.cl).length)] h fun a w h=>qV ?_);rw [show (((fs.take j).map za0.cl):List za0)=(fs.map za0.cl) from (by rw [bX (by omega)])] at h;replace h:=zd7 5 0 h;refine rT (.c (.own 0 (fs.map za0.cl).length)) h rfl ?_;rfl
theorem LcloneO (f:za0) (hf:f.okB 1000000000 10000) (hkd:f.kind=3\/f.kind=4\/f.kind=5):Fn eA 114 [] [(vF f)] (vG ([cI f.kind,cPs zR.t.parts]++zi zR.t.k++[cB zR.eq,.own 0 f.cl.kids.length])) [(0,.row 35 6 (f.cl.kids.map za0.d))]:=by
 refine fB Tryz.func114 rfl 24 fun w H B a h=>Jq 5 [] [(1,vp 5 0),(2,vp 6 0)] [(5,.box (zF f)),(6,.box zF0)] h fun a w h=>qW (Je 7 [] [] [(4,vI f.kind)] h fun a w h=>qZ (Je 7 [(0,.cmp (op:=.eql) (m:=f.kind) (n:=0) (b:=false) .i64 (beq_eq_false_iff_ne.2 (by omega)))] [] [(5,vb false)] h fun a w h=>zau h (Je 7 [(0,.cmp (op:=.eql) (m:=f.kind) (n:=2) (b:=false) .i64 (beq_eq_false_iff_ne.2 (by omega)))] [5] [(8,vb false)] h fun a w h=>zau h (qW (Je 7 [] [8] [(13,vb (f.kind == 3))] h fun a w h=>cS (f.kind == 3) h (fun hc1=>?_) (fun hc2=>?_))))))
 ·refine qU (za1 (cS (f.kind == 3) h (fun hc=>?_) (fun hc=>?_)))
  ·clear hc;refine Jq 7 [(3,.call (Lkids f (zdw hf))),(4,.call (LclonesO (cnt f.kind f.kids) (fun g hg=>zhs g (zhe hf hg)) (zff hf)))] [(2,vp 6 0)] [(6,.box [cI f.kind,nCl,cB false,.d (nsl []),cB false,.own 0 ((cnt f.kind f.kids).map za0.cl).length]),(0,.row 35 6 (((cnt f.kind f.kids).map za0.cl).map za0.d))] h fun a w h=>qV (za8 (za5 ?_));replace h:=cv (fun z_:List za0=>F.of [(2,vp 6 0)] [(6,.box [cI f.kind,nCl,cB false,.d (nsl []),cB false,.own 0 z_.length]),(0,.row 35 6 (z_.map za0.d))]) (show (((cnt f.kind f.kids).map za0.cl):List za0)=f.cl.kids from (zjw hkd).symm) (h.conv (by kernel_rfl));replace h:=zbs 6 1 3 [cI f.kind,nCl,cB false,.d (nsl []),cB false,.own 0 f.cl.kids.length] h;refine rA 6 [cI f.kind,cPs [],cB false,.d (nsl []),cB false,.own 0 f.cl.kids.length] h zdh rfl ?_;rfl
  rw [hc1] at hc;cases hc
 refine Je 7 [] [] [(13,vb (f.kind == 4))] h fun a w h=>cS (f.kind == 4) h (fun hc3=>?_) (fun hc4=>?_)
 ·refine qU (za1 (cS (f.kind == 4) h (fun hc=>?_) (fun hc=>?_)))
  ·clear hc;refine Jq 7 [(3,.call (Lkids f (zdw hf))),(4,.call (LclonesO (cnt f.kind f.kids) (fun g hg=>zhs g (zhe hf hg)) (zff hf)))] [(2,vp 6 0)] [(6,.box [cI f.kind,nCl,cB false,.d (nsl []),cB false,.own 0 ((cnt f.kind f.kids).map za0.cl).length]),(0,.row 35 6 (((cnt f.kind f.kids).map za0.cl).map za0.d))] h fun a w h=>qV (za8 (za5 ?_));replace h:=cv (fun z_:List za0=>F.of [(2,vp 6 0)] [(6,.box [cI f.kind,nCl,cB false,.d (nsl []),cB false,.own 0 z_.length]),(0,.row 35 6 (z_.map za0.d))]) (show (((cnt f.kind f.kids).map za0.cl):List za0)=f.cl.kids from (zjw hkd).symm) (h.conv (by kernel_rfl));replace h:=zbs 6 1 3 [cI f.kind,nCl,cB false,.d (nsl []),cB false,.own 0 f.cl.kids.length] h;refine rA 6 [cI f.kind,cPs [],cB false,.d (nsl []),cB false,.own 0 f.cl.kids.length] h zdh rfl ?_;rfl
  rw [hc3] at hc;cases hc
 refine Jf 7 [] [4] [(13,vb (f.kind == 5))] h fun a w h=>za1 (cS (f.kind == 5) h (fun hc5=>?_) (fun hc6=>?_))
 ·refine Jq 7 [(3,.call (Lkids f (zdw hf))),(4,.call (LclonesO (cnt f.kind f.kids) (fun g hg=>zhs g (zhe hf hg)) (zff hf)))] [(2,vp 6 0)] [(6,.box [cI f.kind,nCl,cB false,.d (nsl []),cB false,.own 0 ((cnt f.kind f.kids).map za0.cl).length]),(0,.row 35 6 (((cnt f.kind f.kids).map za0.cl).map za0.d))] h fun a w h=>qV (za8 (za5 ?_));replace h:=cv (fun z_:List za0=>F.of [(2,vp 6 0)] [(6,.box [cI f.kind,nCl,cB false,.d (nsl []),cB false,.own 0 z_.length]),(0,.row 35 6 (z_.map za0.d))]) (show (((cnt f.kind f.kids).map za0.cl):List za0)=f.cl.kids from (zjw hkd).symm) (h.conv (by kernel_rfl));replace h:=zbs 6 1 3 [cI f.kind,nCl,cB false,.d (nsl []),cB false,.own 0 f.cl.kids.length] h;refine rA 6 [cI f.kind,cPs [],cB false,.d (nsl []),cB false,.own 0 f.cl.kids.length] h zdh rfl ?_;rfl
 exfalso;simp_all <;> omega
theorem LrMove (r:za9) (n:Int) (hr:TOk 1000000000 20000 r.t):Fn eA 185 [] [(vR r),vI n] (vR (zcv n r)) []:=by
 refine fB Tryz.func185 rfl 12 fun w H B a h=>Jq 0 [] [(1,vI n),(2,vp 0 0),(4,vp 1 0)] [(0,.box (zR_ r)),(1,.box zR0)] h fun a w h=>Jq 2 [(3,.call (SMove r.t n hr (by decide) (by decide)))] [(4,vp 1 0)] [(1,.box ((zT (movZ r.t (zae n)))++[cB r.eq]))] h fun a w h=>qV (rA 1 ((zT (movZ r.t (zae n)))++[cB r.eq]) h la_1 rfl ?_)
 rfl
theorem LMove1 (r:za9) (n:Int) (hr:TOk 1000000000 20000 r.t):Fn eA 184 [(1,.box [cI n])] [(vR r),vp 1 0] (vR (zcv n r)) [(1,.box [cI n])]:=by
 refine fB Tryz.func184 rfl 7 fun w H B a h=>Jq 5 [] [(1,vp 1 0),(2,vp 5 0),(3,vp 6 0)] [(1,.box [cI n]),(5,.box (zR_ r)),(6,.box zR0)] h fun a w h=>Jg 7 [(2,.call (LrMove r n hr))] [1,2] [] [5] [(6,.box (zR_ (zcv n r)))] h fun a w h=>qV (rA 6 (zR_ (zcv n r)) h la_1 rfl ?_)
 rfl
theorem LrPutAll (r:za9) (vs:List Int) (bys:List zaf) (hr:TOk nt Lt r.t) (hnt:nt<=33000000) (hLt:Lt<=10000) (hb:∀ b ∈ bys,zk5 b) (hlv:vs.length<=1000000000000) (hlb:bys.length<=1000000000000):Fn eA 158 [] [(vR r),(vIs vs),vS 3 (bys.map zaf.d)] (vR (zbu vs bys r)) []:=by
 refine fB Tryz.func158 rfl 15 fun w H B a h=>Jq 0 [] [(1,(vIs vs)),(2,vS 3 (bys.map zaf.d)),(3,vp 0 0),(6,vp 1 0)] [(0,.box (zR_ r)),(1,.box zR0)] h fun a w h=>Jq 2 [(4,.call (SPutAll r.t vs bys hr hnt hLt hb hlv hlb))] [(6,vp 1 0)] [(1,.box ((zT (putZ r.t vs bys))++[cB r.eq]))] h fun a w h=>qV (rA 1 ((zT (putZ r.t vs bys))++[cB r.eq]) h la_1 rfl ?_)
 rfl
theorem LPutAll1 (r:za9) (vs:List Int) (bys:List zaf) (hr:TOk nt Lt r.t) (hnt:nt<=33000000) (hLt:Lt<=10000) (hb:∀ b ∈ bys,zk5 b) (hlv:vs.length<=1000000000000) (hlb:bys.length<=1000000000000):Fn eA 157 [(1,.box [cIs vs]),(2,.box [.d (.sl 3 (bys.map zaf.d))])] [(vR r),vp 1 0,vp 2 0] (vR (zbu vs bys r)) [(1,.box [cIs vs]),(2,.box [.d (.sl 3 (bys.map zaf.d))])]:=by
 refine fB Tryz.func157 rfl 9 fun w H B a h=>Jq 5 [] [(1,vp 1 0),(2,vp 2 0),(3,vp 5 0),(4,vp 6 0)] [(1,.box [cIs vs]),(2,.box [.d (.sl 3 (bys.map zaf.d))]),(5,.box (zR_ r)),(6,.box zR0)] h fun a w h=>Jg 7 [(3,.call (LrPutAll r vs bys hr hnt hLt hb hlv hlb))] [1,2,3] [] [5] [(6,.box (zR_ (zbu vs bys r)))] h fun a w h=>qV (rA 6 (zR_ (zbu vs bys r)) h la_1 rfl ?_)
 rfl
theorem cl_rel {L:Nat} (h:f.cl.okB n L) (e:(f.kind == 2)=true):TOk n L (cpR f.r).t:=by
 rw [cl_at e] at h;exact ((za0.okB_eq _ _ _).1 h).1.1 rfl
theorem LeachM0 (f:za0) (n:Int) (hf:f.okB 1000000000 10000) (hc:f.cl.okB 1000000000 10000)  (ih:∀ q ∈ f.cl.kids,Fn eA 156 [(1,.box [cI n])] [(vF q),.t (.c (.fn (.func 184) [] [.ptr 1 0]))] (vF (za0.each (zcv n) q)) [(1,.box [cI n])]):Fn eA 156 [(1,.box [cI n])] [(vF f),.t (.c (.fn (.func 184) [] [.ptr 1 0]))] (vF (za0.each (zcv n) f)) [(1,.box [cI n])]:=by
 have lkc:f.cl.kids.length<=9223372036854775807:=zdw hc;refine fB Tryz.func156 rfl 35 fun w H B a h=>Jq 5 [] [(1,.t (.c (.fn (.func 184) [] [.ptr 1 0]))),(2,vp 5 0),(4,vp 6 0)] [(1,.box [cI n]),(5,.box (zF f)),(6,.box zF0)] h fun a w h=>?_
 rcases bG (decide (f.kind=3\/f.kind=4\/f.kind=5)) with hc1 | hc4
 ·have hc1':=dT hc1;have hkd:=dT hc1;refine Jg 7 [(1,.call (LcloneO f hf hkd))] [2] [(5,vp 7 0)] [5] [(0,.row 35 6 (f.cl.kids.map za0.d)),(7,.box ([cI f.kind,cPs zR.t.parts]++zi zR.t.k++[cB zR.eq,.own 0 f.cl.kids.length]))] h fun a w h=>qW (Je 8 [(2,.cmp (op:=.eql) (m:=f.kind) (n:=2) (b:=false) .i64 (beq_eq_false_iff_ne.2 (by omega)))] [] [(12,vb false)] h fun a w h=>zau h (qU (za1 (qW (Je 8 [] [12] [(19,vO 0 f.cl.kids.length),(20,vN f.cl.kids.length),(21,vI 0)] h fun a w h=>qZ ?_)))));replace h:=cvM [] [] [] [(0,.row 35 6 (((f.cl.kids.take 0).map (za0.each (zcv n))++f.cl.kids.drop 0).map za0.d))] (by rw [<- show (f.cl.kids:List za0)=((f.cl.kids.take 0).map (za0.each (zcv n))++f.cl.kids.drop 0) from (by simp)]; try kernel_rfl) h
  refine zbw (ι:=(Nat)) (fun j=>j<=f.cl.kids.length)
    [] (fun j=>[(21,vN j)])
    [] (fun j=>[(0,.row 35 6 (((f.cl.kids.take j).map (za0.each (zcv n))++f.cl.kids.drop j).map za0.d))])
    (fun j=>f.cl.kids.length - j) 0 ?_ h ?_
  ·exact bC _
  clear h;rintro j a w hI h;have lej:((f.cl.kids.take j).map (za0.each (zcv n))++f.cl.kids.drop j).length=f.cl.kids.length:=mvx_len f.cl.kids _ hI;refine Je 8 [] [] [(22,vb (decide ((j:Int)<(f.cl.kids.length:Int))))] h fun a w h=>qW (zad ((j:Int)<(f.cl.kids.length:Int)) h (fun hc2 hc2'=>?_) (fun hc3 hc3'=>?_))
  ·refine qU (za1 (qW (qZ ?_)));obtain ⟨x3,hx3⟩:=gl f.cl.kids j;refine Jg 8 [(1,.g (xO 24 19 0 f.cl.kids.length j zie (eC 21 _))),(2,.g (Op.loadR_agg (d:=25) (t:=24) (n:=0) (i:=j) (fo:=0) (rty:=35) (es:=6) (xs:=[.raw (.int .i64 x3.kind),.sl 3 (x3.r.t.parts.map eK),.raw (.bool x3.r.t.k.neg),nsl x3.r.t.k.abs,.raw (.bool x3.r.eq),.sl 6 (x3.kids.map za0.d)]) zdh rfl ((za7 (mvx_at (F:=za0.each (zcv n)) hx3) (f:=za0.d)).trans (yJ some (za0.d_eq x3))) rfl rfl))] [22] [(6,vN j),(7,vp 8 0)] [] [(8,.box (zF x3))] h fun a w h=>Jh 9 [(5,.call (ih x3 (lM hx3))),(6,.g (xO 32 27 0 f.cl.kids.length j zie (eC 28 _))),(7,.g (Op.storeR (t:=32) (n:=0) (i:=j) (fo:=0) (rty:=35) (es:=6) (r:=za0.d x3) (ds:=[.raw (.int .i64 (za0.each (zcv n) x3).kind),.sl 3 ((za0.each (zcv n) x3).r.t.parts.map eK),.raw (.bool (za0.each (zcv n) x3).r.t.k.neg),nsl (za0.each (zcv n) x3).r.t.k.abs,.raw (.bool (za0.each (zcv n) x3).r.eq),.sl 6 ((za0.each (zcv n) x3).kids.map za0.d)]) (rs:=[(31,(vF (za0.each (zcv n) x3)))]) (rows:=((f.cl.kids.take j).map (za0.each (zcv n))++f.cl.kids.drop j).map za0.d) (rows':=(((f.cl.kids.take j).map (za0.each (zcv n))++f.cl.kids.drop j).set j (za0.each (zcv n) x3)).map za0.d) zdh (eC 31 _) rfl rfl rfl (za7 (mvx_at (F:=za0.each (zcv n)) hx3) (f:=za0.d)) (by rw [za0.d_len];decide) (zc0 (xs:=((f.cl.kids.take j).map (za0.each (zcv n))++f.cl.kids.drop j)) (F:=za0.d) j _ _ (by rw [za0.d_eq x3,za0.d_eq (za0.each (zcv n) x3)];rfl))))] [6,7] [] [8] [(0,.row 35 6 ((((f.cl.kids.take j).map (za0.each (zcv n))++f.cl.kids.drop j).set j (za0.each (zcv n) x3)).map za0.d))] h fun a w h=>za6 (za1 (Jf 9 [(0,.j1 j)] [] [(21,vI ((j:Int)+1))] h fun a w h=>za1 ?_));replace h:=cvM [] [] [] [(0,.row 35 6 (((f.cl.kids.take (j+1)).map (za0.each (zcv n))++f.cl.kids.drop (j+1)).map za0.d))] (by rw [<- show ((((f.cl.kids.take j).map (za0.each (zcv n))++f.cl.kids.drop j).set j (za0.each (zcv n) x3)):List za0)=((f.cl.kids.take (j+1)).map (za0.each (zcv n))++f.cl.kids.drop (j+1)) from (mvx_set (F:=za0.each (zcv n)) hx3)]; try kernel_rfl) h;refine zaa (x:=j) (y:=j+1) h ?_ ?_
   ·have:=zab hx3;show j+1<=f.cl.kids.length;omega
   show f.cl.kids.length - (j+1)<f.cl.kids.length - j;have:=zab hx3;omega
  refine exA (Jg 9 [] [1,5,19,20,21,22] [] [7] [(6,.box ([cI f.kind,cPs zR.t.parts]++zi zR.t.k++[cB zR.eq,.own 0 f.cl.kids.length]))] h fun a w h=>qV ?_);replace h:=cvM [] [] [] [(0,.row 35 6 ((f.cl.kids.map (za0.each (zcv n))).map za0.d))] (by rw [<- show (((f.cl.kids.take j).map (za0.each (zcv n))++f.cl.kids.drop j):List za0)=(f.cl.kids.map (za0.each (zcv n))) from (by rw [bX (by omega),bP (by omega),b9])]; try kernel_rfl) h;replace h:=pubKX 0 6 35 ((f.cl.kids.map (za0.each (zcv n))).map za0.d) h [f.cl.kids.length] ⟨by first | exact (bE _).symm | (simp;done) | (simp;omega),trivial⟩;refine rA 6 ([cI f.kind,cPs zR.t.parts]++zi zR.t.k++[cB zR.eq,cFs (f.cl.kids.map (za0.each (zcv n)))]) h zdh rfl ?_;rw [each_kids (zcv n) hkd];try rfl
 have hc4':=dF hc4
 rcases bG (f.kind == 2) with hc5 | hc6
 ·refine Jg 9 [(1,.call (eB (zhs f hf) (show ((vF (za0.cl f)):V) = .t (.agg ([cI 2,cPs (cpR f.r).t.parts]++zi (cpR f.r).t.k++[cB (cpR f.r).eq,cFs ([]:List za0)])) from by rw [cl_at hc5];rfl)))] [2] [(5,vp 9 0)] [5] [(9,.box ([cI 2,cPs (cpR f.r).t.parts]++zi (cpR f.r).t.k++[cB (cpR f.r).eq,cFs ([]:List za0)]))] h fun a w h=>qW (Je 10 [(2,.cmp (op:=.eql) (m:=2) (n:=2) (b:=true) .i64 rfl)] [] [(12,vb true)] h fun a w h=>cS true h (fun _=>?_) nofun);refine Jh 10 [(3,.g (Op.callV (d:=16) (t:=13) (cap:=[.ptr 1 0]) (args:=[(vR (cpR f.r))]) (rs:=[(15,(vR (cpR f.r)))]) (tys:=#[32]) (LMove1 (cpR f.r) n ((cl_rel hc hc5).mono (by decide) (by decide))) ma0_13 (OVs.cons (eC 15 _) (OVs.nil))))] [12] [] [] [(9,.box ([cI 2,cPs (zcv n (cpR f.r)).t.parts]++zi (zcv n (cpR f.r)).t.k++[cB (zcv n (cpR f.r)).eq,cFs ([]:List za0)]))] h fun a w h=>za1 (qW (Je 10 [(2,.len (za3 6 za0.d ([]:List za0)))] [] [(19,(vFs ([]:List za0))),(20,vI (([]:List za0).length:Int)),(21,vI 0)] h fun a w h=>qZ ?_))
  refine loopS (ι:=Unit) (fun (z_:Unit)=>match z_ with | ()=>True)
    (fun (z_:Unit)=>match z_ with | ()=>[(1,.t (.c (.fn (.func 184) [] [.ptr 1 0]))),(4,vp 6 0),(5,vp 9 0),(19,(vFs ([]:List za0))),(20,vI (([]:List za0).length:Int)),(21,vI 0)])
    (fun (z_:Unit)=>match z_ with | ()=>[(1,.box [cI n]),(6,.box zF0),(9,.box ([cI 2,cPs (zcv n (cpR f.r)).t.parts]++zi (zcv n (cpR f.r)).t.k++[cB (zcv n (cpR f.r)).eq,cFs ([]:List za0)]))])
    (fun (z_:Unit)=>match z_ with | ()=>0) () ?_ h (by kernel_rfl) (by kernel_rfl) ?_
  ·trivial
  clear h;rintro ⟨⟩ a w hI h;change St _ (F.of [(1,.t (.c (.fn (.func 184) [] [.ptr 1 0]))),(4,vp 6 0),(5,vp 9 0),(19,(vFs ([]:List za0))),(20,vI (([]:List za0).length:Int)),(21,vI 0)] [(1,.box [cI n]),(6,.box zF0),(9,.box ([cI 2,cPs (zcv n (cpR f.r)).t.parts]++zi (zcv n (cpR f.r)).t.k++[cB (zcv n (cpR f.r)).eq,cFs ([]:List za0)]))]) a w at h;refine Jq 10 [(0,.cmp (op:=.lss) (m:=0) (n:=(([]:List za0).length:Int)) (b:=false) .i64 rfl)] [(1,.t (.c (.fn (.func 184) [] [.ptr 1 0]))),(4,vp 6 0),(5,vp 9 0),(19,(vFs ([]:List za0))),(20,vI (([]:List za0).length:Int)),(21,vI 0),(22,vb false)] [(1,.box [cI n]),(6,.box zF0),(9,.box ([cI 2,cPs (zcv n (cpR f.r)).t.parts]++zi (zcv n (cpR f.r)).t.k++[cB (zcv n (cpR f.r)).eq,cFs ([]:List za0)]))] h fun a w h=>qW (zau h (exA (Jg 10 [] [1,5,19,20,21,22] [] [9] [(6,.box ([cI 2,cPs (zcv n (cpR f.r)).t.parts]++zi (zcv n (cpR f.r)).t.k++[cB (zcv n (cpR f.r)).eq,cFs ([]:List za0)]))] h fun a w h=>qV (rA 6 ([cI 2,cPs (zcv n (cpR f.r)).t.parts]++zi (zcv n (cpR f.r)).t.k++[cB (zcv n (cpR f.r)).eq,cFs ([]:List za0)]) h zdh rfl ?_))));rw [each_atom (zcv n) (by have:=hc5;simpa using this)];try rfl
 rcases bG (f.kind == 0) with hc7 | hc8
 ·refine Jg 10 [(1,.call (eB (zhs f hf) (show ((vF (za0.cl f)):V) = .t (.agg ([cI 0,cPs zR.t.parts]++zi zR.t.k++[cB zR.eq,cFs ([]:List za0)])) from by rw [cl_tru hc7];rfl)))] [2] [(5,vp 10 0)] [5] [(10,.box ([cI 0,cPs zR.t.parts]++zi zR.t.k++[cB zR.eq,cFs ([]:List za0)]))] h fun a w h=>qW (Je 11 [(2,.cmp (op:=.eql) (m:=0) (n:=2) (b:=false) .i64 rfl)] [] [(12,vb false)] h fun a w h=>zau h (qU (za1 (qW (Je 11 [(2,.len (za3 6 za0.d ([]:List za0)))] [12] [(19,(vFs ([]:List za0))),(20,vI (([]:List za0).length:Int)),(21,vI 0)] h fun a w h=>qZ ?_)))))
  refine loopS (ι:=Unit) (fun (z_:Unit)=>match z_ with | ()=>True)
    (fun (z_:Unit)=>match z_ with | ()=>[(1,.t (.c (.fn (.func 184) [] [.ptr 1 0]))),(4,vp 6 0),(5,vp 10 0),(19,(vFs ([]:List za0))),(20,vI (([]:List za0).length:Int)),(21,vI 0)])
    (fun (z_:Unit)=>match z_ with | ()=>[(1,.box [cI n]),(6,.box zF0),(10,.box ([cI 0,cPs zR.t.parts]++zi zR.t.k++[cB zR.eq,cFs ([]:List za0)]))])
    (fun (z_:Unit)=>match z_ with | ()=>0) () ?_ h (by kernel_rfl) (by kernel_rfl) ?_
  ·trivial
  clear h;rintro ⟨⟩ a w hI h;change St _ (F.of [(1,.t (.c (.fn (.func 184) [] [.ptr 1 0]))),(4,vp 6 0),(5,vp 10 0),(19,(vFs ([]:List za0))),(20,vI (([]:List za0).length:Int)),(21,vI 0)] [(1,.box [cI n]),(6,.box zF0),(10,.box ([cI 0,cPs zR.t.parts]++zi zR.t.k++[cB zR.eq,cFs ([]:List za0)]))]) a w at h;refine Jq 11 [(0,.cmp (op:=.lss) (m:=0) (n:=(([]:List za0).length:Int)) (b:=false) .i64 rfl)] [(1,.t (.c (.fn (.func 184) [] [.ptr 1 0]))),(4,vp 6 0),(5,vp 10 0),(19,(vFs ([]:List za0))),(20,vI (([]:List za0).length:Int)),(21,vI 0),(22,vb false)] [(1,.box [cI n]),(6,.box zF0),(10,.box ([cI 0,cPs zR.t.parts]++zi zR.t.k++[cB zR.eq,cFs ([]:List za0)]))] h fun a w h=>qW (zau h (exA (Jg 11 [] [1,5,19,20,21,22] [] [10] [(6,.box ([cI 0,cPs zR.t.parts]++zi zR.t.k++[cB zR.eq,cFs ([]:List za0)]))] h fun a w h=>qV (rA 6 ([cI 0,cPs zR.t.parts]++zi zR.t.k++[cB zR.eq,cFs ([]:List za0)]) h zdh rfl ?_))));rw [each_0 (zcv n) (by have:=hc7;simpa using this)];try rfl
 refine Jg 11 [(1,.call (eB (zhs f hf) (show ((vF (za0.cl f)):V) = .t (.agg ([cI 1,cPs zR.t.parts]++zi zR.t.k++[cB zR.eq,cFs ([]:List za0)])) from by rw [cl_out9 (dF hc4) hc6 hc8];rfl)))] [2] [(5,vp 11 0)] [5] [(11,.box ([cI 1,cPs zR.t.parts]++zi zR.t.k++[cB zR.eq,cFs ([]:List za0)]))] h fun a w h=>qW (Je 12 [(2,.cmp (op:=.eql) (m:=1) (n:=2) (b:=false) .i64 rfl)] [] [(12,vb false)] h fun a w h=>zau h (qU (za1 (qW (Je 12 [(2,.len (za3 6 za0.d ([]:List za0)))] [12] [(19,(vFs ([]:List za0))),(20,vI (([]:List za0).length:Int)),(21,vI 0)] h fun a w h=>qZ ?_)))))
 refine loopS (ι:=Unit) (fun (z_:Unit)=>match z_ with | ()=>True)
   (fun (z_:Unit)=>match z_ with | ()=>[(1,.t (.c (.fn (.func 184) [] [.ptr 1 0]))),(4,vp 6 0),(5,vp 11 0),(19,(vFs ([]:List za0))),(20,vI (([]:List za0).length:Int)),(21,vI 0)])
   (fun (z_:Unit)=>match z_ with | ()=>[(1,.box [cI n]),(6,.box zF0),(11,.box ([cI 1,cPs zR.t.parts]++zi zR.t.k++[cB zR.eq,cFs ([]:List za0)]))])
   (fun (z_:Unit)=>match z_ with | ()=>0) () ?_ h (by kernel_rfl) (by kernel_rfl) ?_
 ·trivial
 clear h;rintro ⟨⟩ a w hI h;change St _ (F.of [(1,.t (.c (.fn (.func 184) [] [.ptr 1 0]))),(4,vp 6 0),(5,vp 11 0),(19,(vFs ([]:List za0))),(20,vI (([]:List za0).length:Int)),(21,vI 0)] [(1,.box [cI n]),(6,.box zF0),(11,.box ([cI 1,cPs zR.t.parts]++zi zR.t.k++[cB zR.eq,cFs ([]:List za0)]))]) a w at h;refine Jq 12 [(0,.cmp (op:=.lss) (m:=0) (n:=(([]:List za0).length:Int)) (b:=false) .i64 rfl)] [(1,.t (.c (.fn (.func 184) [] [.ptr 1 0]))),(4,vp 6 0),(5,vp 11 0),(19,(vFs ([]:List za0))),(20,vI (([]:List za0).length:Int)),(21,vI 0),(22,vb false)] [(1,.box [cI n]),(6,.box zF0),(11,.box ([cI 1,cPs zR.t.parts]++zi zR.t.k++[cB zR.eq,cFs ([]:List za0)]))] h fun a w h=>qW (zau h (exA (Jg 12 [] [1,5,19,20,21,22] [] [11] [(6,.box ([cI 1,cPs zR.t.parts]++zi zR.t.k++[cB zR.eq,cFs ([]:List za0)]))] h fun a w h=>qV (rA 6 ([cI 1,cPs zR.t.parts]++zi zR.t.k++[cB zR.eq,cFs ([]:List za0)]) h zdh rfl ?_))));rw [each_x (zcv n) (dF hc4) (by have:=hc6;simpa using this) (by have:=hc8;simpa using this)];try rfl
theorem LeachM (n:Int) :∀ c:za0,c.okB 1000000000 10000->∀ f:za0,f.cl=c->f.okB 1000000000 10000->Fn eA 156 [(1,.box [cI n])] [(vF f),.t (.c (.fn (.func 184) [] [.ptr 1 0]))] (vF (za0.each (zcv n) f)) [(1,.box [cI n])] :=
 fun c=>za0.ind (P:=fun c=>c.okB 1000000000 10000->∀ f:za0,f.cl=c->f.okB 1000000000 10000->Fn eA 156 [(1,.box [cI n])] [(vF f),.t (.c (.fn (.func 184) [] [.ptr 1 0]))] (vF (za0.each (zcv n) f)) [(1,.box [cI n])]) (fun k r ks ih hc f e hf=>by
  refine LeachM0 f n hf (by rw [e];exact hc)  fun q hq=>?_
  have hq2:q ∈ ks:=by have:=hq;rw [e] at this;exact this
  have hk:q.okB 1000000000 10000:=by
   refine zhe hc (?_:q ∈ cnt k ks)
   have hcc:f.cl.cl=f.cl:=cl_cl f
   have:=cnt_of_cl f
   rw [e] at this;rw [show cnt k ks=ks from this];exact hq2
  exact ih q hq2 hk q (cl_kids_cl hq) (za0.okB_mono (by omega) (by omega) _ hk)) c
theorem LeachP0 (f:za0) (vs:List Int) (bys:List zaf) (hf:f.okB 1000000000 10000) (hc9:f.cl.okB nt Lt) (hnt:nt<=33000000) (hLt:Lt<=10000) (hb:∀ b ∈ bys,zk5 b) (hlv:vs.length<=1000000000000) (hlb:bys.length<=1000000000000) (ih:∀ q ∈ f.cl.kids,Fn eA 156 [(1,.box [cIs vs]),(2,.box [.d (.sl 3 (bys.map zaf.d))])] [(vF q),.t (.c (.fn (.func 157) [] [.ptr 1 0,.ptr 2 0]))] (vF (za0.each (zbu vs bys) q)) [(1,.box [cIs vs]),(2,.box [.d (.sl 3 (bys.map zaf.d))])]):Fn eA 156 [(1,.box [cIs vs]),(2,.box [.d (.sl 3 (bys.map zaf.d))])] [(vF f),.t (.c (.fn (.func 157) [] [.ptr 1 0,.ptr 2 0]))] (vF (za0.each (zbu vs bys) f)) [(1,.box [cIs vs]),(2,.box [.d (.sl 3 (bys.map zaf.d))])]:=by
 have lkc:f.cl.kids.length<=9223372036854775807:=zdw hc9;refine fB Tryz.func156 rfl 35 fun w H B a h=>Jq 5 [] [(1,.t (.c (.fn (.func 157) [] [.ptr 1 0,.ptr 2 0]))),(2,vp 5 0),(4,vp 6 0)] [(1,.box [cIs vs]),(2,.box [.d (.sl 3 (bys.map zaf.d))]),(5,.box (zF f)),(6,.box zF0)] h fun a w h=>?_
 rcases bG (decide (f.kind=3\/f.kind=4\/f.kind=5)) with hc1 | hc4
 ·have hc1':=dT hc1;have hkd:=dT hc1;refine Jg 7 [(1,.call (LcloneO f hf hkd))] [2] [(5,vp 7 0)] [5] [(0,.row 35 6 (f.cl.kids.map za0.d)),(7,.box ([cI f.kind,cPs zR.t.parts]++zi zR.t.k++[cB zR.eq,.own 0 f.cl.kids.length]))] h fun a w h=>qW (Je 8 [(2,.cmp (op:=.eql) (m:=f.kind) (n:=2) (b:=false) .i64 (beq_eq_false_iff_ne.2 (by omega)))] [] [(12,vb false)] h fun a w h=>zau h (qU (za1 (qW (Je 8 [] [12] [(19,vO 0 f.cl.kids.length),(20,vN f.cl.kids.length),(21,vI 0)] h fun a w h=>qZ ?_)))));replace h:=cvM [] [] [] [(0,.row 35 6 (((f.cl.kids.take 0).map (za0.each (zbu vs bys))++f.cl.kids.drop 0).map za0.d))] (by rw [<- show (f.cl.kids:List za0)=((f.cl.kids.take 0).map (za0.each (zbu vs bys))++f.cl.kids.drop 0) from (by simp)]; try kernel_rfl) h
  refine zbw (ι:=(Nat)) (fun j=>j<=f.cl.kids.length)
    [] (fun j=>[(21,vN j)])
    [] (fun j=>[(0,.row 35 6 (((f.cl.kids.take j).map (za0.each (zbu vs bys))++f.cl.kids.drop j).map za0.d))])
    (fun j=>f.cl.kids.length - j) 0 ?_ h ?_
  ·exact bC _
  clear h;rintro j a w hI h;have lej:((f.cl.kids.take j).map (za0.each (zbu vs bys))++f.cl.kids.drop j).length=f.cl.kids.length:=mvx_len f.cl.kids _ hI;refine Je 8 [] [] [(22,vb (decide ((j:Int)<(f.cl.kids.length:Int))))] h fun a w h=>qW (zad ((j:Int)<(f.cl.kids.length:Int)) h (fun hc2 hc2'=>?_) (fun hc3 hc3'=>?_))
  ·refine qU (za1 (qW (qZ ?_)));obtain ⟨x3,hx3⟩:=gl f.cl.kids j;refine Jg 8 [(1,.g (xO 24 19 0 f.cl.kids.length j zie (eC 21 _))),(2,.g (Op.loadR_agg (d:=25) (t:=24) (n:=0) (i:=j) (fo:=0) (rty:=35) (es:=6) (xs:=[.raw (.int .i64 x3.kind),.sl 3 (x3.r.t.parts.map eK),.raw (.bool x3.r.t.k.neg),nsl x3.r.t.k.abs,.raw (.bool x3.r.eq),.sl 6 (x3.kids.map za0.d)]) zdh rfl ((za7 (mvx_at (F:=za0.each (zbu vs bys)) hx3) (f:=za0.d)).trans (yJ some (za0.d_eq x3))) rfl rfl))] [22] [(6,vN j),(7,vp 8 0)] [] [(8,.box (zF x3))] h fun a w h=>Jh 9 [(5,.call (ih x3 (lM hx3))),(6,.g (xO 32 27 0 f.cl.kids.length j zie (eC 28 _))),(7,.g (Op.storeR (t:=32) (n:=0) (i:=j) (fo:=0) (rty:=35) (es:=6) (r:=za0.d x3) (ds:=[.raw (.int .i64 (za0.each (zbu vs bys) x3).kind),.sl 3 ((za0.each (zbu vs bys) x3).r.t.parts.map eK),.raw (.bool (za0.each (zbu vs bys) x3).r.t.k.neg),nsl (za0.each (zbu vs bys) x3).r.t.k.abs,.raw (.bool (za0.each (zbu vs bys) x3).r.eq),.sl 6 ((za0.each (zbu vs bys) x3).kids.map za0.d)]) (rs:=[(31,(vF (za0.each (zbu vs bys) x3)))]) (rows:=((f.cl.kids.take j).map (za0.each (zbu vs bys))++f.cl.kids.drop j).map za0.d) (rows':=(((f.cl.kids.take j).map (za0.each (zbu vs bys))++f.cl.kids.drop j).set j (za0.each (zbu vs bys) x3)).map za0.d) zdh (eC 31 _) rfl rfl rfl (za7 (mvx_at (F:=za0.each (zbu vs bys)) hx3) (f:=za0.d)) (by rw [za0.d_len];decide) (zc0 (xs:=((f.cl.kids.take j).map (za0.each (zbu vs bys))++f.cl.kids.drop j)) (F:=za0.d) j _ _ (by rw [za0.d_eq x3,za0.d_eq (za0.each (zbu vs bys) x3)];rfl))))] [6,7] [] [8] [(0,.row 35 6 ((((f.cl.kids.take j).map (za0.each (zbu vs bys))++f.cl.kids.drop j).set j (za0.each (zbu vs bys) x3)).map za0.d))] h fun a w h=>za6 (za1 (Jf 9 [(0,.j1 j)] [] [(21,vI ((j:Int)+1))] h fun a w h=>za1 ?_));replace h:=cvM [] [] [] [(0,.row 35 6 (((f.cl.kids.take (j+1)).map (za0.each (zbu vs bys))++f.cl.kids.drop (j+1)).map za0.d))] (by rw [<- show ((((f.cl.kids.take j).map (za0.each (zbu vs bys))++f.cl.kids.drop j).set j (za0.each (zbu vs bys) x3)):List za0)=((f.cl.kids.take (j+1)).map (za0.each (zbu vs bys))++f.cl.kids.drop (j+1)) from (mvx_set (F:=za0.each (zbu vs bys)) hx3)]; try kernel_rfl) h;refine zaa (x:=j) (y:=j+1) h ?_ ?_
   ·have:=zab hx3;show j+1<=f.cl.kids.length;omega
   show f.cl.kids.length - (j+1)<f.cl.kids.length - j;have:=zab hx3;omega
  refine exA (Jg 9 [] [1,5,19,20,21,22] [] [7] [(6,.box ([cI f.kind,cPs zR.t.parts]++zi zR.t.k++[cB zR.eq,.own 0 f.cl.kids.length]))] h fun a w h=>qV ?_);replace h:=cvM [] [] [] [(0,.row 35 6 ((f.cl.kids.map (za0.each (zbu vs bys))).map za0.d))] (by rw [<- show (((f.cl.kids.take j).map (za0.each (zbu vs bys))++f.cl.kids.drop j):List za0)=(f.cl.kids.map (za0.each (zbu vs bys))) from (by rw [bX (by omega),bP (by omega),b9])]; try kernel_rfl) h;replace h:=pubKX 0 6 35 ((f.cl.kids.map (za0.each (zbu vs bys))).map za0.d) h [f.cl.kids.length] ⟨by first | exact (bE _).symm | (simp;done) | (simp;omega),trivial⟩;refine rA 6 ([cI f.kind,cPs zR.t.parts]++zi zR.t.k++[cB zR.eq,cFs (f.cl.kids.map (za0.each (zbu vs bys)))]) h zdh rfl ?_;rw [each_kids (zbu vs bys) hkd];try rfl
 have hc4':=dF hc4
 rcases bG (f.kind == 2) with hc5 | hc6
 ·refine Jg 9 [(1,.call (eB (zhs f hf) (show ((vF (za0.cl f)):V) = .t (.agg ([cI 2,cPs (cpR f.r).t.parts]++zi (cpR f.r).t.k++[cB (cpR f.r).eq,cFs ([]:List za0)])) from by rw [cl_at hc5];rfl)))] [2] [(5,vp 9 0)] [5] [(9,.box ([cI 2,cPs (cpR f.r).t.parts]++zi (cpR f.r).t.k++[cB (cpR f.r).eq,cFs ([]:List za0)]))] h fun a w h=>qW (Je 10 [(2,.cmp (op:=.eql) (m:=2) (n:=2) (b:=true) .i64 rfl)] [] [(12,vb true)] h fun a w h=>cS true h (fun _=>?_) nofun);refine Jh 10 [(3,.g (Op.callV (d:=16) (t:=13) (cap:=[.ptr 1 0,.ptr 2 0]) (args:=[(vR (cpR f.r))]) (rs:=[(15,(vR (cpR f.r)))]) (tys:=#[32]) (LPutAll1 (cpR f.r) vs bys (cl_rel hc9 hc5) hnt hLt hb hlv hlb) ma0_14 (OVs.cons (eC 15 _) (OVs.nil))))] [12] [] [] [(9,.box ([cI 2,cPs (zbu vs bys (cpR f.r)).t.parts]++zi (zbu vs bys (cpR f.r)).t.k++[cB (zbu vs bys (cpR f.r)).eq,cFs ([]:List za0)]))] h fun a w h=>za1 (qW (Je 10 [(2,.len (za3 6 za0.d ([]:List za0)))] [] [(19,(vFs ([]:List za0))),(20,vI (([]:List za0).length:Int)),(21,vI 0)] h fun a w h=>qZ ?_))
  refine loopS (ι:=Unit) (fun (z_:Unit)=>match z_ with | ()=>True)
    (fun (z_:Unit)=>match z_ with | ()=>[(1,.t (.c (.fn (.func 157) [] [.ptr 1 0,.ptr 2 0]))),(4,vp 6 0),(5,vp 9 0),(19,(vFs ([]:List za0))),(20,vI (([]:List za0).length:Int)),(21,vI 0)])
    (fun (z_:Unit)=>match z_ with | ()=>[(1,.box [cIs vs]),(2,.box [.d (.sl 3 (bys.map zaf.d))]),(6,.box zF0),(9,.box ([cI 2,cPs (zbu vs bys (cpR f.r)).t.parts]++zi (zbu vs bys (cpR f.r)).t.k++[cB (zbu vs bys (cpR f.r)).eq,cFs ([]:List za0)]))])
    (fun (z_:Unit)=>match z_ with | ()=>0) () ?_ h (by kernel_rfl) (by kernel_rfl) ?_
  ·trivial
  clear h;rintro ⟨⟩ a w hI h;change St _ (F.of [(1,.t (.c (.fn (.func 157) [] [.ptr 1 0,.ptr 2 0]))),(4,vp 6 0),(5,vp 9 0),(19,(vFs ([]:List za0))),(20,vI (([]:List za0).length:Int)),(21,vI 0)] [(1,.box [cIs vs]),(2,.box [.d (.sl 3 (bys.map zaf.d))]),(6,.box zF0),(9,.box ([cI 2,cPs (zbu vs bys (cpR f.r)).t.parts]++zi (zbu vs bys (cpR f.r)).t.k++[cB (zbu vs bys (cpR f.r)).eq,cFs ([]:List za0)]))]) a w at h;refine Jq 10 [(0,.cmp (op:=.lss) (m:=0) (n:=(([]:List za0).length:Int)) (b:=false) .i64 rfl)] [(1,.t (.c (.fn (.func 157) [] [.ptr 1 0,.ptr 2 0]))),(4,vp 6 0),(5,vp 9 0),(19,(vFs ([]:List za0))),(20,vI (([]:List za0).length:Int)),(21,vI 0),(22,vb false)] [(1,.box [cIs vs]),(2,.box [.d (.sl 3 (bys.map zaf.d))]),(6,.box zF0),(9,.box ([cI 2,cPs (zbu vs bys (cpR f.r)).t.parts]++zi (zbu vs bys (cpR f.r)).t.k++[cB (zbu vs bys (cpR f.r)).eq,cFs ([]:List za0)]))] h fun a w h=>qW (zau h (exA (Jg 10 [] [1,5,19,20,21,22] [] [9] [(6,.box ([cI 2,cPs (zbu vs bys (cpR f.r)).t.parts]++zi (zbu vs bys (cpR f.r)).t.k++[cB (zbu vs bys (cpR f.r)).eq,cFs ([]:List za0)]))] h fun a w h=>qV (rA 6 ([cI 2,cPs (zbu vs bys (cpR f.r)).t.parts]++zi (zbu vs bys (cpR f.r)).t.k++[cB (zbu vs bys (cpR f.r)).eq,cFs ([]:List za0)]) h zdh rfl ?_))));rw [each_atom (zbu vs bys) (by have:=hc5;simpa using this)];try rfl
 rcases bG (f.kind == 0) with hc7 | hc8
 ·refine Jg 10 [(1,.call (eB (zhs f hf) (show ((vF (za0.cl f)):V) = .t (.agg ([cI 0,cPs zR.t.parts]++zi zR.t.k++[cB zR.eq,cFs ([]:List za0)])) from by rw [cl_tru hc7];rfl)))] [2] [(5,vp 10 0)] [5] [(10,.box ([cI 0,cPs zR.t.parts]++zi zR.t.k++[cB zR.eq,cFs ([]:List za0)]))] h fun a w h=>qW (Je 11 [(2,.cmp (op:=.eql) (m:=0) (n:=2) (b:=false) .i64 rfl)] [] [(12,vb false)] h fun a w h=>zau h (qU (za1 (qW (Je 11 [(2,.len (za3 6 za0.d ([]:List za0)))] [12] [(19,(vFs ([]:List za0))),(20,vI (([]:List za0).length:Int)),(21,vI 0)] h fun a w h=>qZ ?_)))))
  refine loopS (ι:=Unit) (fun (z_:Unit)=>match z_ with | ()=>True)
    (fun (z_:Unit)=>match z_ with | ()=>[(1,.t (.c (.fn (.func 157) [] [.ptr 1 0,.ptr 2 0]))),(4,vp 6 0),(5,vp 10 0),(19,(vFs ([]:List za0))),(20,vI (([]:List za0).length:Int)),(21,vI 0)])
    (fun (z_:Unit)=>match z_ with | ()=>[(1,.box [cIs vs]),(2,.box [.d (.sl 3 (bys.map zaf.d))]),(6,.box zF0),(10,.box ([cI 0,cPs zR.t.parts]++zi zR.t.k++[cB zR.eq,cFs ([]:List za0)]))])
    (fun (z_:Unit)=>match z_ with | ()=>0) () ?_ h (by kernel_rfl) (by kernel_rfl) ?_
  ·trivial
  clear h;rintro ⟨⟩ a w hI h;change St _ (F.of [(1,.t (.c (.fn (.func 157) [] [.ptr 1 0,.ptr 2 0]))),(4,vp 6 0),(5,vp 10 0),(19,(vFs ([]:List za0))),(20,vI (([]:List za0).length:Int)),(21,vI 0)] [(1,.box [cIs vs]),(2,.box [.d (.sl 3 (bys.map zaf.d))]),(6,.box zF0),(10,.box ([cI 0,cPs zR.t.parts]++zi zR.t.k++[cB zR.eq,cFs ([]:List za0)]))]) a w at h;refine Jq 11 [(0,.cmp (op:=.lss) (m:=0) (n:=(([]:List za0).length:Int)) (b:=false) .i64 rfl)] [(1,.t (.c (.fn (.func 157) [] [.ptr 1 0,.ptr 2 0]))),(4,vp 6 0),(5,vp 10 0),(19,(vFs ([]:List za0))),(20,vI (([]:List za0).length:Int)),(21,vI 0),(22,vb false)] [(1,.box [cIs vs]),(2,.box [.d (.sl 3 (bys.map zaf.d))]),(6,.box zF0),(10,.box ([cI 0,cPs zR.t.parts]++zi zR.t.k++[cB zR.eq,cFs ([]:List za0)]))] h fun a w h=>qW (zau h (exA (Jg 11 [] [1,5,19,20,21,22] [] [10] [(6,.box ([cI 0,cPs zR.t.parts]++zi zR.t.k++[cB zR.eq,cFs ([]:List za0)]))] h fun a w h=>qV (rA 6 ([cI 0,cPs zR.t.parts]++zi zR.t.k++[cB zR.eq,cFs ([]:List za0)]) h zdh rfl ?_))));rw [each_0 (zbu vs bys) (by have:=hc7;simpa using this)];try rfl
 refine Jg 11 [(1,.call (eB (zhs f hf) (show ((vF (za0.cl f)):V) = .t (.agg ([cI 1,cPs zR.t.parts]++zi zR.t.k++[cB zR.eq,cFs ([]:List za0)])) from by rw [cl_out9 (dF hc4) hc6 hc8];rfl)))] [2] [(5,vp 11 0)] [5] [(11,.box ([cI 1,cPs zR.t.parts]++zi zR.t.k++[cB zR.eq,cFs ([]:List za0)]))] h fun a w h=>qW (Je 12 [(2,.cmp (op:=.eql) (m:=1) (n:=2) (b:=false) .i64 rfl)] [] [(12,vb false)] h fun a w h=>zau h (qU (za1 (qW (Je 12 [(2,.len (za3 6 za0.d ([]:List za0)))] [12] [(19,(vFs ([]:List za0))),(20,vI (([]:List za0).length:Int)),(21,vI 0)] h fun a w h=>qZ ?_)))))
 refine loopS (ι:=Unit) (fun (z_:Unit)=>match z_ with | ()=>True)
   (fun (z_:Unit)=>match z_ with | ()=>[(1,.t (.c (.fn (.func 157) [] [.ptr 1 0,.ptr 2 0]))),(4,vp 6 0),(5,vp 11 0),(19,(vFs ([]:List za0))),(20,vI (([]:List za0).length:Int)),(21,vI 0)])
   (fun (z_:Unit)=>match z_ with | ()=>[(1,.box [cIs vs]),(2,.box [.d (.sl 3 (bys.map zaf.d))]),(6,.box zF0),(11,.box ([cI 1,cPs zR.t.parts]++zi zR.t.k++[cB zR.eq,cFs ([]:List za0)]))])
   (fun (z_:Unit)=>match z_ with | ()=>0) () ?_ h (by kernel_rfl) (by kernel_rfl) ?_
 ·trivial
 clear h;rintro ⟨⟩ a w hI h;change St _ (F.of [(1,.t (.c (.fn (.func 157) [] [.ptr 1 0,.ptr 2 0]))),(4,vp 6 0),(5,vp 11 0),(19,(vFs ([]:List za0))),(20,vI (([]:List za0).length:Int)),(21,vI 0)] [(1,.box [cIs vs]),(2,.box [.d (.sl 3 (bys.map zaf.d))]),(6,.box zF0),(11,.box ([cI 1,cPs zR.t.parts]++zi zR.t.k++[cB zR.eq,cFs ([]:List za0)]))]) a w at h;refine Jq 12 [(0,.cmp (op:=.lss) (m:=0) (n:=(([]:List za0).length:Int)) (b:=false) .i64 rfl)] [(1,.t (.c (.fn (.func 157) [] [.ptr 1 0,.ptr 2 0]))),(4,vp 6 0),(5,vp 11 0),(19,(vFs ([]:List za0))),(20,vI (([]:List za0).length:Int)),(21,vI 0),(22,vb false)] [(1,.box [cIs vs]),(2,.box [.d (.sl 3 (bys.map zaf.d))]),(6,.box zF0),(11,.box ([cI 1,cPs zR.t.parts]++zi zR.t.k++[cB zR.eq,cFs ([]:List za0)]))] h fun a w h=>qW (zau h (exA (Jg 12 [] [1,5,19,20,21,22] [] [11] [(6,.box ([cI 1,cPs zR.t.parts]++zi zR.t.k++[cB zR.eq,cFs ([]:List za0)]))] h fun a w h=>qV (rA 6 ([cI 1,cPs zR.t.parts]++zi zR.t.k++[cB zR.eq,cFs ([]:List za0)]) h zdh rfl ?_))));rw [each_x (zbu vs bys) (dF hc4) (by have:=hc6;simpa using this) (by have:=hc8;simpa using this)];try rfl
theorem LeachP (vs:List Int) (bys:List zaf) (hnt:nt<=33000000) (hLt:Lt<=10000) (hb:∀ b ∈ bys,zk5 b) (hlv:vs.length<=1000000000000) (hlb:bys.length<=1000000000000):∀ c:za0,c.okB nt Lt->∀ f:za0,f.cl=c->f.okB 1000000000 10000->Fn eA 156 [(1,.box [cIs vs]),(2,.box [.d (.sl 3 (bys.map zaf.d))])] [(vF f),.t (.c (.fn (.func 157) [] [.ptr 1 0,.ptr 2 0]))] (vF (za0.each (zbu vs bys) f)) [(1,.box [cIs vs]),(2,.box [.d (.sl 3 (bys.map zaf.d))])] :=
 fun c=>za0.ind (P:=fun c=>c.okB nt Lt->∀ f:za0,f.cl=c->f.okB 1000000000 10000->Fn eA 156 [(1,.box [cIs vs]),(2,.box [.d (.sl 3 (bys.map zaf.d))])] [(vF f),.t (.c (.fn (.func 157) [] [.ptr 1 0,.ptr 2 0]))] (vF (za0.each (zbu vs bys) f)) [(1,.box [cIs vs]),(2,.box [.d (.sl 3 (bys.map zaf.d))])]) (fun k r ks ih hc f e hf=>by
  refine LeachP0 f vs bys hf (by rw [e];exact hc) hnt hLt hb hlv hlb fun q hq=>?_
  have hq2:q ∈ ks:=by have:=hq;rw [e] at this;exact this
  have hk:q.okB nt Lt:=by
   refine zhe hc (?_:q ∈ cnt k ks)
   have hcc:f.cl.cl=f.cl:=cl_cl f
   have:=cnt_of_cl f
   rw [e] at this;rw [show cnt k ks=ks from this];exact hq2
  exact ih q hq2 hk q (cl_kids_cl hq) (za0.okB_mono (by omega) (by omega) _ hk)) c
theorem LMoveF (f:za0) (n:Int) (hf:f.okB 1000000000 10000) (hc:f.cl.okB 1000000000 10000):Fn eA 145 [] [(vF f),vI n] (vF (za0.each (zcv n) f)) []:=by
 refine fB Tryz.func145 rfl 8 fun w H B a h=>Jq 0 [] [(2,vp 0 0),(3,vp 1 0),(4,vp 2 0)] [(0,.box (zF f)),(1,.box [cI n]),(2,.box zF0)] h fun a w h=>Jq 3 [(1,.g (Op.makeFs (d:=6) (fn:=.func 184) [(3,1,0)])),(2,.call (LeachM n f.cl hc f rfl hf))] [(4,vp 2 0)] [(2,.box (zF (za0.each (zcv n) f)))] h fun a w h=>qV (rA 2 (zF (za0.each (zcv n) f)) h zdh rfl ?_)
 rfl
theorem LPutAllF (f:za0) (vs:List Int) (bys:List zaf) (hf:f.okB 1000000000 10000) (hc9:f.cl.okB nt Lt) (hnt:nt<=33000000) (hLt:Lt<=10000) (hb:∀ b ∈ bys,zk5 b) (hlv:vs.length<=1000000000000) (hlb:bys.length<=1000000000000):Fn eA 112 [] [(vF f),(vIs vs),vS 3 (bys.map zaf.d)] (vF (za0.each (zbu vs bys) f)) []:=by
 refine fB Tryz.func112 rfl 10 fun w H B a h=>Jq 0 [] [(3,vp 0 0),(4,vp 1 0),(5,vp 2 0),(6,vp 3 0)] [(0,.box (zF f)),(1,.box [cIs vs]),(2,.box [.d (.sl 3 (bys.map zaf.d))]),(3,.box zF0)] h fun a w h=>Jq 4 [(1,.g (Op.makeFs (d:=8) (fn:=.func 157) [(4,1,0),(5,2,0)])),(2,.call (LeachP vs bys hnt hLt hb hlv hlb f.cl hc9 f rfl hf))] [(6,vp 3 0)] [(3,.box (zF (za0.each (zbu vs bys) f)))] h fun a w h=>qV (rA 3 (zF (za0.each (zbu vs bys) f)) h zdh rfl ?_)
 rfl
theorem kf_0:SlT eA 23 132 5:=SlT.mk' Tryz.underlying23 (by kernel_rfl)
theorem kf_5:SlT eA 36 102 3:=SlT.mk' Tryz.underlying36 (by kernel_rfl)
def ze3:ZI:=⟨false,[]⟩
def bnd0:zak:=⟨false,ze3,ze3⟩
def zbm (s:zan) (v:Nat):zak:=(s.bounds[v]?).getD bnd0
def zbq (b:zak) (n:ZI):Bool:=!b.is_ || (decide (zbo b.lo.val n.val<=0) && decide (zbo n.val b.hi.val<=0))
def zfl (s:zan) (i:Nat):Nat:=((s.procs[i]?).map fun p=>p.locs.length).getD 0
def zlh (s:zan) (x:StD) (i:Nat):Bool:=decide (0<=(x.locs[i]?).getD 0/\(x.locs[i]?).getD 0<(zfl s i:Int))
def valOk (s:zan) (x:StD) (v:Nat):Bool:=zbq (zbm s v) ((x.vals[v]?).getD ze3)
def zd2 (s:zan) (x:StD):Bool:=decide (x.locs.length=s.procs.length/\x.vals.length=s.vars.length) && (zg8 x.locs.length (zlh s x) && zg8 x.vals.length (valOk s x))
def first (s:zan) (x:StD):Bool:=(zd2 s x && !x.locs.any fun l=>l != 0) && s.init.holds x.vals
def zgq (x y:StD):Bool:=decide (x.locs=y.locs) && decide (x.vals.map ZI.val=y.vals.map ZI.val)
def ZOk (L:Nat) (z:ZI):Prop:=Lb z.abs/\z.abs.length<=L
structure zgy (L:Nat) (a:zas):Prop where
  guard:a.guard.lb/\a.guard.ok L
  len:a.moves.length<=20
  mv:∀ m ∈ a.moves,TOk 20 L m.t
structure zbh (L:Nat) (s:zan):Prop where
  vars:s.vars.length<=8
  bnds:s.bounds.length<=20
  procs:s.procs.length<=6
  acts:s.acts.length<=20
  bnd:∀ b ∈ s.bounds,ZOk L b.lo/\ZOk L b.hi
  init:s.init.lb/\s.init.ok L
  act:∀ a ∈ s.acts,zgy L a
structure zhp (M:Nat) (x:StD):Prop where
  locs:x.locs.length<=10
  vals:x.vals.length<=10
  val:∀ z ∈ x.vals,ZOk M z
theorem zhp.vok {x:StD} (h:zhp M x):VOk M x.vals:=⟨bU h.vals (by decide),h.val⟩
theorem zhp.mono {M':Nat} {x:StD} (h:zhp M x) (hm:M<=M'):zhp M' x:=⟨h.locs,h.vals,fun z hz=>⟨(h.val z hz).1,bU (h.val z hz).2 hm⟩⟩
theorem ZOk.zero {L:Nat}:ZOk L ze3:=⟨zg0,bC _⟩
theorem bnd_ok {L:Nat} {s:zan} (h:zbh L s) (v:Nat):ZOk L (zbm s v).lo/\ZOk L (zbm s v).hi:=by
 unfold zbm
 cases hb:s.bounds[v]? with
 | none=>exact ⟨ZOk.zero,ZOk.zero⟩
 | some b=>exact h.bnd b (dA hb)
theorem cmpZ_le (x y:Int):decide (zbo x y<=0)=decide (x<=y):=by unfold zbo;split;simp;omega;split <;> simp <;> omega
theorem cmpZ_geI (x y:Int):decide (zbo x y>=0)=decide (zbo y x<=0):=by unfold zbo;split <;> split <;> (try split) <;> simp <;> omega
theorem cmpZ_gt (x y:Int):decide (zbo x y>0)=decide (y<x):=by unfold zbo;split;simp;omega;split <;> simp <;> omega
theorem cmpZ_0 (x y:Int):(zbo x y == 0)=decide (x=y):=by unfold zbo;split;simp;omega;split <;> simp <;> omega
theorem zkt (x y:Int):(zbo x y != 0)=!decide (x=y):=by rw [bne,cmpZ_0]
theorem map_take {f:α->β} {xs ys:List α} {a b:α} (hx:xs[j]?=some a) (hy:ys[j]?=some b) (h:(xs.take j).map f=(ys.take j).map f) (e:f a=f b):(xs.take (j+1)).map f=(ys.take (j+1)).map f:=by
 rw [bW,bW,hx,hy,cO,cO,h];simp [e]
theorem map_ne {f:α->β} {xs ys:List α} {a b:α} (hx:xs[j]?=some a) (hy:ys[j]?=some b) (e:f a≠f b):xs.map f≠ys.map f:=by
 intro h
 have:=yJ (fun l=>l[j]?) h
 simp only [List.getElem?_map,hx,hy,Option.map_some,Option.some.injEq] at this
 exact e this
theorem map_len_ne {f:α->β} {xs ys:List α} (e:xs.length≠ys.length):xs.map f≠ys.map f:=fun h=>e (by simpa using yJ List.length h)
theorem map_end {f:α->β} {xs ys:List α} (hl:xs.length=ys.length) (hj:¬ (j:Int)<(xs.length:Int)) (h:(xs.take j).map f=(ys.take j).map f):xs.map f=ys.map f:=by
 rwa [bX (by omega),bX (by omega)] at h
end S
end Go.Proofs.YtlcijejaplagbaaGreat
