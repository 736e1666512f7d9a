/-
  Part 4 of the proof of the statement AbstrLetters: the walk through the program and the references lifted to the given row. It holds for every input.
-/
import Derived.Test.YtcppcnfmgpphcaaGreatVL3
import Derived.Deep.LoopGhost
import Derived.Test.YtcppcnfmgpphcaaGreatVL1
import Derived.Test.YtcppcnfmgpphcaaGreatVL2
import Derived.Laws.Strings
import Derived.Laws.MakeOwn
set_option maxRecDepth 100000
section
namespace Go.Proofs.YtcppcnfmgpphcaaGreat
open Go.RowKit

theorem Own.at0 {w:World} {B:Nat} {ao:Option Addr} {c:Nat} {zs:List Nat} (h:Own w B ao c zs) (hp:0<zs.length):∃ g,ao=some ⟨g,0,none⟩∧B≤g∧g<w.heap.size:=by
 obtain ⟨h1,h2,h3,h4⟩:=h.blk hp
 exact ⟨_,h4,h1,h2⟩
theorem ownB_ne {g h n c:Nat} (hne:h≠g):(Value.slice (some ⟨h,0,none⟩) n c).ownBlock≠some g:=by simpa [Value.ownBlock] using hne

theorem norm_len {ds ys:List Nat} {n i1 x:Nat} (hy:Lb ys) (hn:n=ys.length) (h1:i1+1=n) (hx:x=lim ys i1) (h0:x≠0) (hd:zby ds) (hv:val ds=val ys*2 ^ (32 - bl x)) :
  ds.length=n∧2147483648≤lim ds i1:=by
 subst h1
 have bx:x<4294967296:=by rw [hx];exact zb5 hy _
 obtain ⟨b1,b2,b3,b4⟩:=bl_spec h0 bx
 have eY:vk ys (i1+1)=val ys:=by rw [hn];exact zba (Nat.le_refl _)
 rw [zb2,← hx] at eY
 have hl:=vk_lt hy i1
 obtain ⟨s,hs⟩:∃ s,s=32 - bl x:=⟨_,rfl⟩
 rw [← hs] at hv
 have e31:2 ^ (bl x - 1)*2 ^ s=2147483648:=by rw [← Nat.pow_add,show bl x - 1+s=31 by omega]
 have e32:2 ^ bl x*2 ^ s=4294967296:=by rw [← Nat.pow_add,show bl x+s=32 by omega]
 have lo:2147483648*pw i1≤val ds:=by
  rw [hv,← e31,Nat.mul_right_comm]
  refine Nat.mul_le_mul_right _ ?_
  have:=Nat.mul_le_mul_left (pw i1) b3
  rw [Nat.mul_comm]
  omega
 have hi:val ds<pw (i1+1):=by
  rw [zau,hv,← e32,Nat.mul_right_comm]
  refine Nat.mul_lt_mul_of_pos_right ?_ (Nat.two_pow_pos s)
  have:=Nat.mul_le_mul_left (pw i1) (Nat.succ_le_of_lt b4)
  rw [Nat.mul_succ] at this
  rw [Nat.mul_comm (2 ^ bl x)]
  omega
 have hlen:ds.length=i1+1:=by
  have h1:=zaw hd hi
  rcases Nat.lt_or_ge ds.length (i1+1) with h | h
  ·have h2:=zax hd.1 (show ds.length≤i1 by omega)
   have:=zec i1
   omega
  ·omega
 refine ⟨hlen,?_⟩
 have eD:vk ds (i1+1)=val ds:=zba (by omega)
 rw [zb2] at eD
 have hl2:=vk_lt hd.1 i1
 rcases Nat.lt_or_ge (lim ds i1) 2147483648 with h | h
 ·have:=Nat.mul_le_mul_left (pw i1) (Nat.succ_le_of_lt h)
  rw [Nat.mul_succ] at this
  rw [Nat.mul_comm] at lo
  omega
 ·exact h

def LongR (w1 w3:World) (g uc gq qc N U:Nat) (ds:List Nat) (k:Value) (wr:World):Prop :=
  ∃ (j:Nat) (zs qs:List Nat),k = .int .i64 ((j:Int) - 1)∧j+ds.length≤N∧Hid (zs.length=N)∧Hid (qs.length+ds.length=N)∧Own wr w1.heap.size (some ⟨g,0,none⟩) uc zs∧Own wr w3.heap.size (some ⟨gq,0,none⟩) qc qs∧Ext w1 wr ∧
    Hid (val zs+val ds*val qs=U)∧Hid (val zs<val ds*pw j)∧Hid (∀ t,t<j→lim qs t=0)

def Got2 (w:World) (p r:Nat) (e:Ending) (w':World):Prop :=
  ∃ ao c xs bo d ys,e = .returned (.tuple #[.slice ao xs.length c,.slice bo ys.length d])∧Own w' w.heap.size ao c xs∧zby xs∧val xs=p∧Own w' w.heap.size bo d ys∧zby ys∧val ys=r∧Ext w w'

theorem quot_step {zs z1 qs:List Nat} {k g D U:Nat} (hq:lim qs k=0) (hk:k<qs.length) (hv:val z1+pw k*(g*D)=val zs) (hu:val zs+D*val qs=U):Hid (val z1+D*val (qs.set k g)=U):=by
 unfold Hid
 have h1:=zfe (y:=g) hk
 rw [hq,Nat.mul_zero,Nat.add_zero] at h1
 rw [h1,Nat.mul_add,← hu,← hv]
 have:D*(pw k*g)=pw k*(g*D):=by rw [Nat.mul_left_comm,Nat.mul_comm D]
 omega
theorem quot_end {z q X Y P:Nat} (hP:0<P) (hv:z+(Y*P)*q=X*P) (hz:z<Y*P):q=X / Y∧z / P=X % Y:=by
 have hYP:0<Y*P:=by omega
 have h1:X*P / (Y*P)=q:=by rw [← hv,Nat.add_mul_div_left _ _ hYP,Nat.div_eq_of_lt hz,Nat.zero_add]
 have h2:X*P % (Y*P)=z:=by rw [← hv,Nat.add_mul_mod_self_left,Nat.mod_eq_of_lt hz]
 rw [Nat.mul_div_mul_right _ _ hP] at h1
 rw [Nat.mul_mod_mul_right] at h2
 exact ⟨h1.symm,by rw [← h2,Nat.mul_div_cancel _ hP]⟩
set_option maxHeartbeats 4000000 in
theorem long_any (ao:Option Addr) (n c:Nat) (xs:List Nat) (bo:Option Addr) (m d:Nat) (ys:List Nat) (i1:Nat) (w:World) (hn:n=xs.length) (hm:m=ys.length) (h1:i1+1=m) (h2:2≤m) (hmn:m≤n)
  (ha:Rd w ao c xs) (hb:Rd w bo d ys) (h0:lim ys i1≠0) (hl:n≤900000) :
  Calls Tryz.prog 170 #[.slice ao n c,.slice bo m d] w (Got2 w (val xs / val ys) (val xs % val ys)):=by
 have mA:=ha.mx
 have cA:=ha.cap
 have mB:=hb.mx
 have cB:=hb.cap
 have xb:=ixe hb m hm ((m:Int) - 1) i1 (by omega) (by omega)
 have kb:=hb.cell i1 (by omega)
 have bx:=zb5 hb.lb i1
 obtain ⟨x,hx⟩:∃ x,x=lim ys i1:=⟨_,rfl⟩
 have hno:=fun ds=>norm_len (ds:=ds) hb.lb hm h1 hx (by omega)
 rw [← hx] at h0 bx kb
 obtain ⟨b1,b2,b3,b4⟩:=bl_spec h0 bx
 clear b3 b4
 obtain ⟨s,hs⟩:∃ s,s=32 - bl x:=⟨_,rfl⟩
 have hs1:(32:Int) - (bl x:Int)=(s:Int):=by omega
 have hs2:s≤31:=by omega
 rw [← hs] at hno
 have Hn:=Lib.hid hn
 have Hm:=Lib.hid hm
 have H1:=Lib.hid h1
 clear hs hx hn hm h1
 go_enter Tryz.func170,Tryz.ntmps170
 go_wp2_with fail
 refine (Lead32_any x bx _).mono ?_
 rintro e w' ⟨rfl,rfl⟩
 rw [hs1]
 clear hs1
 go_wp2_with fail
 refine (Left_any bo _ d ys _ s _ Hm.out rfl hb (by have:=Hm.out;omega) (by omega)).mono ?_
 rintro e w1 ⟨dao,dc,ds,rfl,od,cd,vd1,ed⟩
 obtain ⟨dl,df⟩:=hno ds cd vd1
 have Dl:=Lib.hid dl
 have dle:ds.length≤n:=by omega
 have dge:2≤ds.length:=by omega
 have Vd:=Lib.hid vd1
 clear dl vd1 hno
 go_wp2_with fail
 refine (Left_any ao _ c xs _ s _ Hn.out rfl (ha.ext ed) (by have:=Hn.out;omega) (by omega)).mono ?_
 rintro e w2 ⟨mao,mc,ms,rfl,om,cm,vm,em⟩
 have lm:ms.length≤n+1:=by
  refine zaw cm ?_
  rw [vm,zau,Nat.mul_comm]
  have h3:=zax ha.lb (show xs.length≤n by have:=Hn.out;omega)
  have h4:2 ^ s≤2 ^ 31:=Nat.pow_le_pow_right (by omega) hs2
  exact Nat.mul_lt_mul_of_le_of_lt (by omega) h3 (by omega)
 have Vm:=Lib.hid vm
 clear vm
 go_wp2_with (first
  | (at_builtin;refine pushZ (wi:=w1) rfl _ _ rfl _ _ ms _ rfl rfl om _ rfl ?_ ?_ (Nat.le_refl _) em em.size ?_;omega;omega;intro uao uc w3 ou eu gu)
  | (at_make;refine mkf (wi:=w1) rfl _ _ rfl _ _ _ rfl rfl ?_ ?_ eu ?_;omega;omega;intro w4 oq eq e14))
 obtain ⟨us,hus⟩:∃ us,us=ms++List.replicate (((n:Int)+1 - (ms.length:Int))).toNat 0:=⟨_,rfl⟩
 have lus:us.length=n+1:=by rw [hus,List.length_append,List.length_replicate];omega
 have vus:val us=val xs*2 ^ s:=by rw [hus,zey,zbf,Vm.out];simp
 rw [← hus] at ou
 obtain ⟨g,rfl,g1,g2⟩:=ou.at0 (by omega)
 have U0:val us<val ds*pw (n+1 - ds.length):=by
  have Dl':=Dl.out
  have h3:=zax ha.lb (show xs.length≤n by have:=Hn.out;omega)
  have h4:2 ^ s≤2 ^ 31:=Nat.pow_le_pow_right (by omega) hs2
  have h5:2147483648*pw i1≤val ds:=by
   have h6:vk ds (i1+1)=val ds:=zba (by have:=H1.out;omega)
   rw [zb2] at h6
   have:=Nat.mul_le_mul_left (pw i1) df
   rw [Nat.mul_comm]
   omega
  have h7:pw n=pw i1*pw (n+1 - ds.length):=by rw [← zed];congr 1;have:=H1.out;omega
  have h8:=Nat.mul_le_mul_right (pw (n+1 - ds.length)) h5
  rw [Nat.mul_assoc,← h7] at h8
  rw [vus]
  have h9:val xs*2 ^ s<pw n*2 ^ 31:=Nat.mul_lt_mul_of_lt_of_le h3 h4 (by omega)
  omega
 have Vus:=Lib.hid vus
 have Lus:=Lib.hid lus
 have HU0:=Lib.hid U0
 clear vus U0 lus hus
 go_loopw [13] (LongR w1 w3 g uc w3.heap.size (n+1 - ds.length) (n+1) (val xs*2 ^ s) ds) (fun k _=>(intOf k+1).toNat)
 case atStart=>exact ⟨n+1 - ds.length,us,List.replicate (((n:Int)+1 - (ds.length:Int))).toNat 0,by go_num,by omega,Lus,by unfold Hid;rw [List.length_replicate];omega,ou.ext eq,oq.capEq (by omega),e14,by unfold Hid;rw [zbf,Vus.out];simp,HU0,fun t _=>zdi _ t⟩
 case round =>
  obtain ⟨j,zs,qs,rfl,hj,hzl,hql,oz,oq,e1r,hv,hlt,hq0⟩:=hrel
  rcases j with _ | k
  ·have zl:=hzl.out
   have czl:=oz.rd.cap
   have hv0:=hv.out
   rw [Vd.out] at hv0
   have hz0:val zs<val ys*2 ^ s:=by have:=hlt.out;rw [pw_zero,Nat.mul_one,Vd.out] at this;exact this
   obtain ⟨r1,r2⟩:=quot_end (Nat.two_pow_pos s) hv0 hz0
   have hzt:val (zs.take ds.length)=val zs:=zex (Nat.lt_trans hz0 (by rw [← Vd.out];exact zb4 cd.1))
   have oT:=oz.rd.take ds.length (by omega) uc (by rw [List.length_take];omega) (Nat.le_refl _)
   have lT:ds.length=(zs.take ds.length).length:=by rw [List.length_take];omega
   have R1:=Lib.hid r1
   have R2:=Lib.hid r2
   have Hzt:=Lib.hid hzt
   have LT:=Lib.hid lT
   have hb1:(ds.length:Int)≤(uc:Int):=by omega
   have hb2:ds.length≤uc:=by omega
   have hqb:qs.length≤1000000:=by have:=hql.out;omega
   clear zl czl hv0 hz0 r1 r2 hzt lT hv hlt
   go_wp2_with fail
   go_region_with (first
    | (go_at_call 128;refine (zc2 _ _ _ qs _ (by have:=hql.out;omega) ?_ (by omega)).mono ?_;(first | exact oq.rd.ext (Ext.refl _) | exact oq.rd.ext (Ext.refl _).drew);rintro e wa ⟨qo,qc,qz,rfl,p1,p2,p3,p4⟩;replace p3:=Lib.hid p3)
    | (go_at_call 179;refine (Right_any _ _ _ (zs.take ds.length) _ s _ LT.out rfl (by omega) ?_ (by rw [List.length_take];omega)).mono ?_;(first | exact oT.ext p4 | exact (oT.ext (Ext.refl _).drew).ext p4);rintro e wb ⟨ro,rc,rz,rfl,t1,t2,t3,t4⟩;replace t3:=Lib.hid t3))
   all_goals
    go_wp2_with fail
    go_ret2
    have ew:=ed.trans e1r
    have hw0:w.heap.size≤wr.heap.size:=ew.size
    have hw1:=p4.size
    refine ⟨qo,qc,qz,ro,rc,rz,rfl,(p1.ext t4).mono hw0,p2,by rw [p3.out];exact R1.out,t1.mono (Nat.le_trans hw0 hw1),t2,by rw [t3.out,Hzt.out];exact R2.out,?_⟩
    first
    | exact (ew.trans p4).trans t4
    | exact (ew.drew.trans p4).trans t4
    | exact ((ew.trans p4).drew).trans t4
  ·have cz:=oz.rd.cap
   have zl:=hzl.out
   have ql:=hql.out
   have hkc:¬ uc=k:=by omega
   have hkl:k+1+ds.length≤n+1:=hj
   have hT:val (zs.drop k)<val ds*4294967296:=by
    have h3:=ze3 zs k (by omega)
    have h4:=hlt.out
    rw [zau,Nat.mul_left_comm,← Nat.mul_assoc,Nat.mul_comm] at h4
    rw [Nat.mul_comm 4294967296] at h4
    exact Nat.lt_of_mul_lt_mul_left (a:=pw k) (by omega)
   have htl:=top_le (i1:=i1) cd.1 rfl (by have:=Dl.out;have:=H1.out;omega) hT
   have czl:n+1≤uc:=by omega
   have zl2:zs.length=(n+1):=zl
   clear zl cz ql zl2
   have HT:=Lib.hid hT
   have Htl:=Lib.hid htl
   have hdm:ds.length=m:=Dl.out
   have hi1:i1+1=m:=H1.out
   obtain ⟨i2,hi2⟩:∃ i2,i2+2=ds.length:=⟨ds.length - 2,by omega⟩
   have Hi1:=Lib.hid (show i1+1=ds.length by omega)
   have Hi2:=Lib.hid hi2
   clear hT htl hi2 hi1 hdm
   have od':=od.rd.ext e1r
   have dne:0<ds.length→bk dao≠g:=fun h=>by have:=(od.blk h).2.1;omega
   have o5:=oz.rd.drop k (by have:=hzl.out;omega)
   rw [Nat.zero_add] at o5
   go_wp2_with fail
   refine (guessed_any _ _ _ (zs.drop k) _ _ _ ds i1 i2 _ (by rw [List.length_drop,hzl.out]) rfl Hi1.out Hi2.out (by omega) o5 od' df Htl.out).mono ?_
   rintro e w5 ⟨gg,rfl,gs,qt5⟩
   have gf:=guess_fits (Lb_drop oz.lb k) cd.1 rfl Hi1.out Hi2.out df HT.out gs
   have gb:=gs.1
   have Gf:=Lib.hid gf
   clear gs gf
   have oz5:=oz.ext qt5.ext
   have oq5:=oq.ext qt5.ext
   have e15:=e1r.trans qt5.ext
   go_wp2_with fail
   refine (takeAway_any _ g uc zs k _ _ _ _ _ ds gg _ rfl ?_ ?_ oz5 (od'.ext qt5.ext) dne gb ?_).mono ?_
   ·omega
   ·have:=hzl.out;omega
   ·omega
   rintro e w6 ⟨b,z1,rfl,hl1,oz6,gr6,v1,t1⟩
   have oq6:=oq5.kept gr6 (ownB_ne (by omega))
   have e16:=e15.grown gr6 (fun k hk=>by cases hk;exact g1)
   have zl:=hzl.out
   rcases b with _ | _
   ·have hlt1:=took oz5.lb (by omega) hlt.out Gf.out (by simpa using v1)
    have V1:=Lib.hid (show val z1+pw k*(gg*val ds)=val zs by simpa using v1)
    have Hlt1:=Lib.hid hlt1
    have Hl1:=Lib.hid hl1
    clear v1 hlt1 hl1 zl t1
    have xq:=ixe oq6.rd (n+1 - ds.length) (by have:=hql.out;omega) (k:Int) k rfl (by omega)
    have kq:=oq6.rd.cell k (by have:=hql.out;omega)
    have fq:=oq6.frozen (by have:=hql.out;omega) k
    have hq1:=oq6.store k (by have:=hql.out;omega) (gg:Int) gg rfl gb
    go_wp2_with fail
    go_roundw
    case rel=>exact ⟨k,z1,qs.set k gg,by go_num,by omega,by unfold Hid;rw [Hl1.out];exact hzl.out,by unfold Hid;rw [List.length_set];exact hql.out,oz6.kept hq1.2 (ownB_ne (by simp only [bk];omega)),hq1.1,e16.grown hq1.2 (fun k hk=>by cases hk;simp only [bk];omega),quot_step (hq0.out k (by omega)) (by have:=hql.out;omega) V1.out hv.out,Hlt1,fun t ht=>by rw [zbr (by omega)];exact hq0.out t (by omega)⟩
    case measure=>simp [intOf];try omega
   ·have tz:=take_zero oz5.lb oz6.lb (by omega) cd.1 hlt.out Gf.out t1 (by simpa using v1)
    obtain ⟨tz1,tz2,tz3,tz4⟩:=tz
    have V1:=Lib.hid (show val z1+pw k*(gg*val ds)=val zs+pw (k+(ds.length+1)) by simpa using v1)
    have Tz4:=Lib.hid tz4
    have Tz3:=Lib.hid tz3
    have Tz1:=Lib.hid tz1
    have Hl1:=Lib.hid hl1
    have T1:=Lib.hid t1
    clear v1 tz1 tz3 tz4 hl1 zl t1
    go_wp2_with fail
    refine (putBack_any _ g uc z1 k _ _ _ _ _ ds _ rfl ?_ ?_ oz6 ((od'.ext qt5.ext).kept gr6 dne) dne ?_).mono ?_
    ·omega
    ·have:=hzl.out;have:=Hl1.out;omega
    ·omega
    rintro e w7 ⟨y,z2,rfl,hy1,hl2,oz7,gr7,v2,t2⟩
    have oq7:=oq6.kept gr7 (ownB_ne (by omega))
    have e17:=e16.grown gr7 (fun k hk=>by cases hk;exact g1)
    have h7:val z2<pw (k+(ds.length+1)):=lt_of_lims oz7.lb (fun t ht=>by rw [t2 t (by omega)];exact zf8 Tz1.out ht)
    have V2:=Lib.hid (put_val hy1 tz2 V1.out Tz4.out h7 v2)
    have Hlt2:=Lib.hid (took oz5.lb (by have:=hzl.out;omega) hlt.out ⟨Nat.le_of_eq Tz3.out.symm,by rw [Tz3.out];exact Nat.le_succ _⟩ V2.out)
    have Hl2:=Lib.hid hl2
    clear v2 t2 h7 hl2
    have gb1:gg - 1<4294967296:=by omega
    have xq:=ixe oq7.rd (n+1 - ds.length) (by have:=hql.out;omega) (k:Int) k rfl (by omega)
    have kq:=oq7.rd.cell k (by have:=hql.out;omega)
    have fq:=oq7.frozen (by have:=hql.out;omega) k
    have hq1:=oq7.store k (by have:=hql.out;omega) ((gg:Int) - 1) (gg - 1) (by omega) gb1
    go_wp2_with fail
    go_roundw
    case rel=>exact ⟨k,z2,qs.set k (gg - 1),by go_num,by omega,by unfold Hid;rw [Hl2.out,Hl1.out];exact hzl.out,by unfold Hid;rw [List.length_set];exact hql.out,oz7.kept hq1.2 (ownB_ne (by simp only [bk];omega)),hq1.1,e17.grown hq1.2 (fun k hk=>by cases hk;simp only [bk];omega),quot_step (hq0.out k (by omega)) (by have:=hql.out;omega) V2.out hv.out,Hlt2,fun t ht=>by rw [zbr (by omega)];exact hq0.out t (by omega)⟩
    case measure=>simp [intOf];try omega
end Go.Proofs.YtcppcnfmgpphcaaGreat
end
section
namespace Go.Proofs.YtcppcnfmgpphcaaGreat
open Go.RowKit

def GotD (w:World) (p r:Nat) (er:Int) (e:Ending) (w':World):Prop :=
  ∃ ao c xs bo d ys,e = .returned (.tuple #[.slice ao xs.length c,.slice bo ys.length d,.int .i64 er])∧Own w' w.heap.size ao c xs∧zby xs∧val xs=p∧Own w' w.heap.size bo d ys∧zby ys∧val ys=r∧Ext w w'

set_option maxHeartbeats 2000000 in
theorem Div_any (ao:Option Addr) (n c:Nat) (xs:List Nat) (bo:Option Addr) (m d:Nat) (ys:List Nat) (w:World) (hn:n=xs.length) (hm:m=ys.length)
  (ha:Rd w ao c xs) (hb:Rd w bo d ys) (hl:xs.length≤900000) :
  Calls Tryz.prog 161 #[.slice ao n c,.slice bo m d] w (if val ys=0 then GotD w 0 0 10 else GotD w (val xs / val ys) (val xs % val ys) 0):=by
 subst hn hm
 have hA:=ha.trm
 have hB:=hb.trm
 have kA:=zcd ha.lb
 have kB:=zcd hb.lb
 have lA:=zeb xs
 have cA:=hA.cap
 have cB:=hB.cap
 have mA:=hA.mx
 have mB:=hB.mx
 rw [← zbv xs,← zbv ys]
 by_cases h0:(trm ys).length=0
 ·have e0:trm ys=[]:=List.length_eq_zero_iff.1 h0
  have hv:val (trm ys)=0:=by rw [e0];rfl
  rw [if_pos hv]
  clear hv
  go_enter Tryz.func161,Tryz.ntmps161
  go_wp2_with fail
  refine (zat ao _ c xs w rfl ha).mono ?_
  rintro e w' ⟨rfl,rfl⟩
  go_wp2_with fail
  refine (zat bo _ d ys w rfl hb).mono ?_
  rintro e w' ⟨rfl,rfl⟩
  rw [e0]
  clear e0 h0
  go_wp2_with fail
  go_ret3
  exact ⟨none,0,[],none,0,[],rfl,Own.nil _ _,zce,rfl,Own.nil _ _,zce,rfl,Ext.refl _⟩
 ·have hv:val (trm ys)≠0:=fun e=>h0 (by rw [zgp kB e];rfl)
  rw [if_neg hv]
  have hb0:((((trm ys).length:Nat):Int) == 0)=false:=beq_eq_false_iff_ne.2 (by omega)
  by_cases hlt:val (trm xs)<val (trm ys)
  ·have hc:=zgo hlt
   have r1:val (trm xs) / val (trm ys)=0:=Nat.div_eq_of_lt hlt
   have r2:val (trm xs) % val (trm ys)=val (trm xs):=Nat.mod_eq_of_lt hlt
   rw [r1,r2]
   clear r1 r2 hlt
   go_enter Tryz.func161,Tryz.ntmps161
   go_wp2_with fail
   refine (zat ao _ c xs w rfl ha).mono ?_
   rintro e w' ⟨rfl,rfl⟩
   go_wp2_with fail
   refine (zat bo _ d ys w rfl hb).mono ?_
   rintro e w' ⟨rfl,rfl⟩
   go_wp2_with fail
   refine (zgs _ _ _ (trm xs) _ _ _ (trm ys) _ rfl rfl hA hB).mono ?_
   rintro e w1 ⟨rfl,q1⟩
   rw [hc]
   clear hc
   go_wp2_with fail
   refine (zc2 _ _ _ (trm xs) _ rfl (hA.ext q1.ext) (by omega)).mono ?_
   intro e w2 hg
   obtain ⟨ro,rc,rz,rfl,p1,p2,p3,p4⟩:=hg.from q1.ext
   go_wp2_with fail
   go_ret3
   exact ⟨none,0,[],ro,rc,rz,rfl,Own.nil _ _,zce,rfl,p1,p2,p3,p4⟩
  ·have hc:decide (zhr (val (trm xs)) (val (trm ys))<0)=false:=by
    unfold zhr
    rw [if_neg hlt]
    split <;> decide
   by_cases h1:(trm ys).length=1
   ·have hb1:((((trm ys).length:Nat):Int) == 1)=true:=by simp;omega
    have hx0:=ixe hB (trm ys).length rfl 0 0 rfl (by omega)
    simp only [Nat.add_zero] at hx0
    have k0:=fun wr (q:Qt w wr)=>(hB.ext q.ext).cell 0 (by omega)
    have b0:=zb5 kB.1 0
    have ey:val (trm ys)=lim (trm ys) 0:=by
     rw [← zba (zs:=trm ys) (k:=1) (by omega),zb2,zcj,pw_zero];omega
    have Ey:=Lib.hid ey
    have b1:lim (trm ys) 0≠0:=by rw [← ey];exact hv
    clear ey hv hlt h1 h0
    go_enter Tryz.func161,Tryz.ntmps161
    go_wp2_with fail
    refine (zat ao _ c xs w rfl ha).mono ?_
    rintro e w' ⟨rfl,rfl⟩
    go_wp2_with fail
    refine (zat bo _ d ys w rfl hb).mono ?_
    rintro e w' ⟨rfl,rfl⟩
    go_wp2_with fail
    refine (zgs _ _ _ (trm xs) _ _ _ (trm ys) _ rfl rfl hA hB).mono ?_
    rintro e w1 ⟨rfl,q1⟩
    have k1:=k0 w1 q1
    simp only [Nat.add_zero] at k1
    go_wp2_with fail
    refine (byLimb_any _ _ _ (trm xs) _ (lim (trm ys) 0) _ rfl rfl (hA.ext q1.ext) (by omega) (by omega) b0).mono ?_
    rintro e w2 ⟨qo,qc,qz,rfl,p1,p2,p3,p4⟩
    have P3:=Lib.hid p3
    clear p3
    obtain ⟨M,hM⟩:∃ M,M=val (trm xs) % lim (trm ys) 0:=⟨_,rfl⟩
    have bM:M<4294967296:=by rw [hM];exact Nat.lt_trans (Nat.mod_lt _ (by omega)) b0
    rw [← hM]
    have HM:=Lib.hid hM
    clear hM
    go_wp2_with fail
    refine (Of_any (M:Int) (by omega) (by omega) _).mono ?_
    intro e w3 hg
    obtain ⟨ro,rc,rz,rfl,t1,t2,t3,t4⟩:=hg
    go_wp2_with fail
    go_ret3
    have e2:=q1.ext.trans p4
    exact ⟨qo,qc,qz,ro,rc,rz,rfl,(p1.ext t4).mono q1.ext.size,p2,by rw [P3.out,Ey.out],t1.mono e2.size,t2,by rw [t3,Int.toNat_natCast,HM.out,Ey.out],e2.trans t4⟩
   ·have hb1:((((trm ys).length:Nat):Int) == 1)=false:=beq_eq_false_iff_ne.2 (by omega)
    obtain ⟨i1,hi1⟩:∃ i1,i1+1=(trm ys).length:=⟨(trm ys).length - 1,by omega⟩
    have hlen:(trm ys).length≤(trm xs).length:=by
     rcases Nat.lt_or_ge (trm xs).length (trm ys).length with h | h
     ·exact absurd (zc9 kA.1 kB h) hlt
     ·exact h
    have hlast:lim (trm ys) i1≠0:=by
     have:=kB.2 (by omega)
     rwa [show (trm ys).length - 1=i1 by omega] at this
    have Hi1:=Lib.hid hi1
    have hge:2≤(trm ys).length:=by omega
    clear hi1 hv hlt h1 h0
    go_enter Tryz.func161,Tryz.ntmps161
    go_wp2_with fail
    refine (zat ao _ c xs w rfl ha).mono ?_
    rintro e w' ⟨rfl,rfl⟩
    go_wp2_with fail
    refine (zat bo _ d ys w rfl hb).mono ?_
    rintro e w' ⟨rfl,rfl⟩
    go_wp2_with fail
    refine (zgs _ _ _ (trm xs) _ _ _ (trm ys) _ rfl rfl hA hB).mono ?_
    rintro e w1 ⟨rfl,q1⟩
    go_wp2_with fail
    refine (long_any _ _ _ (trm xs) _ _ _ (trm ys) i1 _ rfl rfl Hi1.out hge hlen (hA.ext q1.ext) (hB.ext q1.ext) hlast (by omega)).mono ?_
    rintro e w2 ⟨qo,qc,qz,ro,rc,rz,rfl,p1,p2,p3,p4,p5,p6,p7⟩
    go_wp2_with fail
    go_ret3
    exact ⟨qo,qc,qz,ro,rc,rz,rfl,p1.mono q1.ext.size,p2,p3,p4.mono q1.ext.size,p5,p6,q1.ext.trans p7⟩
end Go.Proofs.YtcppcnfmgpphcaaGreat
end
section
namespace Go.Proofs.YtcppcnfmgpphcaaGreat
open Go.RowKit

def GcdR (w:World) (G L:Nat) (k:Nat) (a b:Value) (wr:World):Prop :=
  ∃ (ao:Option Addr) (c:Nat) (xs:List Nat) (bo:Option Addr) (d:Nat) (ys:List Nat),a = .slice ao xs.length c∧b = .slice bo ys.length d∧Own wr w.heap.size ao c xs∧Own wr w.heap.size bo d ys∧zby xs∧zby ys∧xs.length≤L∧ys.length≤L∧Ext w wr ∧
    Hid (Nat.gcd (val xs) (val ys)=G)∧Hid (k=val ys)

set_option maxHeartbeats 2000000 in
theorem Gcd_any (ao:Option Addr) (n c:Nat) (xs:List Nat) (bo:Option Addr) (m d:Nat) (ys:List Nat) (L:Nat) (w:World) (hn:n=xs.length) (hm:m=ys.length)
  (ha:Rd w ao c xs) (hb:Rd w bo d ys) (hl1:xs.length≤L) (hl2:ys.length≤L) (hL:L≤900000) :
  Calls Tryz.prog 172 #[.slice ao n c,.slice bo m d] w (GotN w (Nat.gcd (val xs) (val ys))):=by
 subst hn hm
 go_enter Tryz.func172,Tryz.ntmps172
 go_wp2_with fail
 refine (zc2 _ _ _ xs _ rfl ha (by omega)).mono ?_
 rintro e w1 ⟨xo,xc,xz,rfl,p1,p2,p3,p4⟩
 replace p3:=Lib.hid p3
 go_wp2_with fail
 refine (zc2 _ _ _ ys _ rfl (hb.ext p4) (by omega)).mono ?_
 rintro e w2 ⟨yo,yc,yz,rfl,q1,q2,q3,q4⟩
 replace q3:=Lib.hid q3
 have lx:xz.length≤L:=zaw p2 (by rw [p3.out];exact zax ha.lb hl1)
 have ly:yz.length≤L:=zaw q2 (by rw [q3.out];exact zax hb.lb hl2)
 go_wp2_with fail
 go_loopg [0,1] (val yz) (GcdR w (Nat.gcd (val xs) (val ys)) L)
 case atStart=>exact ⟨xo,xc,xz,yo,yc,yz,rfl,rfl,p1.ext q4,q1.mono p4.size,p2,q2,lx,ly,p4.trans q4,by unfold Hid;rw [p3.out,q3.out],rfl⟩
 case round =>
  obtain ⟨ao,c,us,bo,d,bs,rfl,rfl,oa,ob,ca,cb,la,lb,hext,hg,hk⟩:=hrel
  rcases Nat.eq_zero_or_pos bs.length with h0 | hp
  ·have e0:bs=[]:=List.length_eq_zero_iff.1 h0
   subst e0
   clear h0
   have hv:val us=Nat.gcd (val xs) (val ys):=by have:=hg.out;rwa [show val []=0 from rfl,Nat.gcd_zero_right] at this
   go_wp2_with fail
   go_ret
   exact ⟨ao,c,us,rfl,oa,ca,hv,hext⟩
  ·have hne:val bs≠0:=fun e=>by rw [zgp cb e] at hp;exact absurd hp (by decide)
   have hp1:(0:Int)<(bs.length:Int):=by omega
   have hp2:decide (0<bs.length)=true:=by simpa using hp
   go_wp2_with fail
   refine (Div_any _ _ _ us _ _ _ bs _ rfl rfl oa.rd ob.rd (by omega)).mono ?_
   intro e w3 hgot
   rw [if_neg hne] at hgot
   obtain ⟨qo,qc,qz,ro,rc,rz,rfl,t1,t2,t3,t4,t5,t6,t7⟩:=hgot
   have hlt:val rz<val bs:=by rw [t6];exact Nat.mod_lt _ (by omega)
   have lr:rz.length≤L:=zaw t5 (Nat.lt_trans hlt (zax cb.1 lb))
   have hg2:Nat.gcd (val bs) (val rz)=Nat.gcd (val xs) (val ys):=by
    rw [t6,← hg.out,Nat.gcd_comm (val us),Nat.gcd_rec (val bs) (val us),Nat.gcd_comm]
   have Hg2:=Lib.hid hg2
   have Hlt:=Lib.hid hlt
   clear t3 t6 hg2 hlt hne
   go_wp2_with fail
   go_roundg (val rz)
   case rel=>exact ⟨bo,d,bs,ro,rc,rz,rfl,rfl,ob.ext t7,t4.mono hext.size,cb,t5,lb,lr,hext.trans t7,Hg2,rfl⟩
   case measure=>have h1:=hk.out;have h2:=Hlt.out;omega

theorem Div_pos (ao:Option Addr) (n c:Nat) (xs:List Nat) (bo:Option Addr) (m d:Nat) (ys:List Nat) (w:World) (hn:n=xs.length) (hm:m=ys.length)
  (ha:Rd w ao c xs) (hb:Rd w bo d ys) (hl:xs.length≤900000) (hv:val ys≠0) :
  Calls Tryz.prog 161 #[.slice ao n c,.slice bo m d] w (GotD w (val xs / val ys) (val xs % val ys) 0):=by
 have h:=Div_any ao n c xs bo m d ys w hn hm ha hb hl
 rwa [if_neg hv] at h
end Go.Proofs.YtcppcnfmgpphcaaGreat
end
section
namespace Go.Proofs.YtcppcnfmgpphcaaGreat

end Go.Proofs.YtcppcnfmgpphcaaGreat
end
section
namespace Go.Proofs.YtcppcnfmgpphcaaGreat
open Go.RowKit

end Go.Proofs.YtcppcnfmgpphcaaGreat
end
section
namespace Go.Proofs.YtcppcnfmgpphcaaGreat
open Go.RowKit

end Go.Proofs.YtcppcnfmgpphcaaGreat
end
section
namespace Go.Proofs.YtcppcnfmgpphcaaGreat
open Go.RowKit

def GotDM (w:World) (p r:Nat) (L M:Nat) (er:Int) (e:Ending) (w':World):Prop :=
  ∃ ao c xs B bo d ys C,e = .returned (.tuple #[.slice ao xs.length c,.slice bo ys.length d,.int .i64 er])∧w.heap.size≤B∧Own w' B ao c xs∧Hid (zby xs)∧Hid (val xs=p)∧xs.length≤L ∧
    w.heap.size≤C∧Own w' C bo d ys∧Hid (zby ys)∧Hid (val ys=r)∧ys.length≤M∧Ext w w'
theorem GotD.len {w:World} {p r L M:Nat} {er:Int} {e:Ending} {w':World} (h:GotD w p r er e w') (hp:p<pw L) (hr:r<pw M):GotDM w p r L M er e w':=by
 obtain ⟨ao,c,xs,bo,d,ys,he,h1,h2,h3,h4,h5,h6,h7⟩:=h
 exact ⟨ao,c,xs,_,bo,d,ys,_,he,Nat.le_refl _,h1,h2,h3,zcr h2 h3 hp,Nat.le_refl _,h4,h5,h6,zcr h5 h6 hr,h7⟩

section
variable (ao:Option Addr) (n c:Nat) (xs:List Nat) (bo:Option Addr) (m d:Nat) (ys:List Nat) (w:World)
theorem DivM (hn:n=xs.length) (hm:m=ys.length) (ha:Rd w ao c xs) (hb:Rd w bo d ys) (hl1:xs.length≤100000) (_hl2:ys.length≤100000) (h:val ys≠0) :
  Calls Tryz.prog 161 #[.slice ao n c,.slice bo m d] w (GotDM w (val xs / val ys) (val xs % val ys) xs.length ys.length 0) :=
 (Div_pos ao n c xs bo m d ys w hn hm ha hb (by omega) h).mono fun _ _ k=>k.len (Nat.lt_of_le_of_lt (Nat.div_le_self _ _) (zb4 ha.lb)) (Nat.lt_trans (Nat.mod_lt _ (Nat.pos_of_ne_zero h)) (zb4 hb.lb))
theorem gcd_lt_pw {x y a b:Nat} (hx:x<pw a) (hy:y<pw b):Nat.gcd x y<pw (a+b):=by
 rcases Nat.eq_zero_or_pos x with h0 | h0
 ·rw [h0,Nat.gcd_zero_left];exact Nat.lt_of_lt_of_le hy (zd6 (by omega))
 ·exact Nat.lt_of_le_of_lt (Nat.gcd_le_left _ h0) (Nat.lt_of_lt_of_le hx (zd6 (by omega)))
theorem GcdM (hn:n=xs.length) (hm:m=ys.length) (ha:Rd w ao c xs) (hb:Rd w bo d ys) (hl1:xs.length≤50000) (hl2:ys.length≤50000) :
  Calls Tryz.prog 172 #[.slice ao n c,.slice bo m d] w (GotM w (Nat.gcd (val xs) (val ys)) (xs.length+ys.length)) :=
 (Gcd_any ao n c xs bo m d ys (xs.length+ys.length) w hn hm ha hb (by omega) (by omega) (by omega)).mono fun _ _ k=>k.len (gcd_lt_pw (zb4 ha.lb) (zb4 hb.lb))
end
end Go.Proofs.YtcppcnfmgpphcaaGreat
end
namespace Go.Proofs.YtcppcnfmgpphcaaGreat.S
section
open Go.RowKit
theorem postDM {w w':World} {H:Im} {B:Bl} {p r L M:Nat} {er:Int} {en:Ending} (hs:∀ b o,H b=some o→w.heap[b]?=some o) (h:GotDM w p r L M er en w'):∃ v H' B', en = .returned v∧Post [] w H B (.tup [.c (.d (nsl (lbs p))),.c (.d (nsl (lbs r))),.c (.d (.raw (.int .i64 er)))]) [] v w' H' B':=by
 obtain ⟨ao,c,xs,Bk,bo,d,ys,Ck,rfl,hb,ho,hc,hv,_,hb2,ho2,hc2,hv2,_,hx⟩:=h
 exact ⟨_,_,_,rfl,postE hx hs ⟨_,rfl,own_vn (Bb:=B) ho hb hc.out hv.out,own_vn (Bb:=B) ho2 hb2 hc2.out hv2.out,DR.raw _ rfl,trivial⟩⟩
section
variable (xs ys:List Nat)
theorem SnGcd (hx:Lb xs) (hy:Lb ys) (lx:xs.length≤50000) (ly:ys.length≤50000):Fn Tryz.prog 172 [] [vn xs,vn ys] (vn (lbs (Nat.gcd (Go.Proofs.YtcppcnfmgpphcaaGreat.val xs) (Go.Proofs.YtcppcnfmgpphcaaGreat.val ys)))) []:=by
 intro w H B vals pre
 obtain ⟨a,b,rfl,h1,h2⟩:=args2 pre.arg
 obtain ⟨ao,c,rfl,r1⟩:=zdx h1 hx
 obtain ⟨bo,d,rfl,r2⟩:=zdx h2 hy
 exact (GcdM ao _ c xs bo _ d ys w rfl rfl (r1 w pre.sat) (r2 w pre.sat) (by omega) (by omega)).mono fun _ _ h=>postM pre.sat h
theorem SnDiv (hx:Lb xs) (hy:Lb ys) (lx:xs.length≤50000) (ly:ys.length≤50000) (h0:Go.Proofs.YtcppcnfmgpphcaaGreat.val ys≠0):Fn Tryz.prog 161 [] [vn xs,vn ys] (.tup [.c (.d (nsl (lbs (Go.Proofs.YtcppcnfmgpphcaaGreat.val xs / Go.Proofs.YtcppcnfmgpphcaaGreat.val ys)))),.c (.d (nsl (lbs (Go.Proofs.YtcppcnfmgpphcaaGreat.val xs % Go.Proofs.YtcppcnfmgpphcaaGreat.val ys)))),.c (cI 0)]) []:=by
 intro w H B vals pre
 obtain ⟨a,b,rfl,h1,h2⟩:=args2 pre.arg
 obtain ⟨ao,c,rfl,r1⟩:=zdx h1 hx
 obtain ⟨bo,d,rfl,r2⟩:=zdx h2 hy
 exact (DivM ao _ c xs bo _ d ys w rfl rfl (r1 w pre.sat) (r2 w pre.sat) (by omega) (by omega) h0).mono fun _ _ h=>postDM pre.sat h
end
end
section
open Go.RowKit

theorem ZI.val_abs (x:ZI):Go.Proofs.YtcppcnfmgpphcaaGreat.val x.abs=x.val.natAbs:=(iv_abs x.neg x.abs).symm
theorem zf9 (a:Int) {b:Int} (h:b<0):b<a.fmod b∧a.fmod b≤0:=by
 have h1:=Int.fmod_lt_of_pos (-a) (b:=-b) (by omega)
 have h2:=Int.fmod_nonneg_of_pos (-a) (b:=-b) (by omega)
 rw [Int.neg_fmod_neg] at h1 h2
 omega
theorem fdiv_unique {a b q r:Int} (h:a=q*b+r) (hp:0<b→0≤r∧r<b) (hn:b<0→b<r∧r≤0) (hb:b≠0):q=a.fdiv b∧r=a.fmod b:=by
 have h1:=Int.mul_fdiv_add_fmod a b
 rcases Int.lt_or_lt_of_ne hb with hlt | hgt
 ·obtain ⟨h2,h3⟩:=hn hlt
  obtain ⟨h4,h5⟩:=zf9 a hlt
  have hq:q=a.fdiv b:=by
   have e:b*(a.fdiv b - q)=r - a.fmod b:=by
    have:b*(a.fdiv b - q)=b*a.fdiv b - q*b:=by rw [Int.mul_sub,Int.mul_comm b q]
    omega
   rcases Int.lt_trichotomy (a.fdiv b - q) 0 with g | g | g
   ·have:b*(a.fdiv b - q)≥-b:=by
     have h6:(-b)*1≤(-b)*(-(a.fdiv b - q)):=Int.mul_le_mul_of_nonneg_left (by omega) (by omega)
     rw [Int.neg_mul_neg] at h6;omega
    omega
   ·omega
   ·have:b*(a.fdiv b - q)≤b:=by
     have h6:(-b)*1≤(-b)*(a.fdiv b - q):=Int.mul_le_mul_of_nonneg_left (by omega) (by omega)
     rw [Int.neg_mul b (a.fdiv b - q)] at h6;omega
    omega
  refine ⟨hq,?_⟩
  rw [hq,Int.mul_comm] at h
  omega
 ·obtain ⟨h2,h3⟩:=hp hgt
  have h4:a.fmod b<b:=Int.fmod_lt_of_pos a hgt
  have h5:0≤a.fmod b:=Int.fmod_nonneg_of_pos a hgt
  have hq:q=a.fdiv b:=by
   have e:b*(a.fdiv b - q)=r - a.fmod b:=by
    have:b*(a.fdiv b - q)=b*a.fdiv b - q*b:=by rw [Int.mul_sub,Int.mul_comm b q]
    omega
   rcases Int.lt_trichotomy (a.fdiv b - q) 0 with g | g | g
   ·have h6:b*1≤b*(-(a.fdiv b - q)):=Int.mul_le_mul_of_nonneg_left (by omega) (by omega)
    rw [Int.mul_neg] at h6;omega
   ·omega
   ·have h6:b*1≤b*(a.fdiv b - q):=Int.mul_le_mul_of_nonneg_left (by omega) (by omega)
    omega
  refine ⟨hq,?_⟩
  rw [hq,Int.mul_comm] at h
  omega
theorem fmod_range (a:Int) {b:Int} (_hb:b≠0):(0<b→0≤a.fmod b∧a.fmod b<b)∧(b<0→b<a.fmod b∧a.fmod b≤0) :=
 ⟨fun h=>⟨Int.fmod_nonneg_of_pos a h,Int.fmod_lt_of_pos a h⟩,fun h=>zf9 a h⟩
theorem fdiv_fmod (a b:Int):a=a.fdiv b*b+a.fmod b:=by have:=Int.mul_fdiv_add_fmod a b;rw [Int.mul_comm] at this;exact this.symm
theorem fdiv_same {X Y:Int} (hY:Y≠0) {s t:Bool} (hs:s=decide (X<0)) (ht:t=decide (Y<0)) {zq zr:List Nat} (hq:Go.Proofs.YtcppcnfmgpphcaaGreat.val zq=X.natAbs / Y.natAbs) (hr:Go.Proofs.YtcppcnfmgpphcaaGreat.val zr=X.natAbs % Y.natAbs) (h:(s != t)=true→Go.Proofs.YtcppcnfmgpphcaaGreat.val zr=0) :
  iv (s != t) zq=X.fdiv Y∧iv s zr=X.fmod Y:=by
 have hm:=Nat.mod_lt X.natAbs (Nat.pos_of_ne_zero (by omega:Y.natAbs≠0))
 have hd:=Nat.div_add_mod X.natAbs Y.natAbs
 generalize X.natAbs / Y.natAbs=q at *
 generalize X.natAbs % Y.natAbs=r at *
 subst hs ht
 refine fdiv_unique ?_ ?_ ?_ hY
 ·unfold iv
  rw [hq,hr]
  have hd2:((Y.natAbs:Int)*(q:Int)+(r:Int))=(X.natAbs:Int):=by rw [← hd];simp
  by_cases h1:X<0 <;> by_cases h2:Y<0
  ·have e1:(X.natAbs:Int)=-X:=by omega
   have e2:(Y.natAbs:Int)=-Y:=by omega
   rw [e1,e2,Int.neg_mul] at hd2
   simp [h1,h2]
   rw [Int.mul_comm];omega
  ·have e1:(X.natAbs:Int)=-X:=by omega
   have e2:(Y.natAbs:Int)=Y:=by omega
   rw [e1,e2] at hd2
   simp [h1,h2]
   rw [Int.neg_mul,Int.mul_comm];omega
  ·have e1:(X.natAbs:Int)=X:=by omega
   have e2:(Y.natAbs:Int)=-Y:=by omega
   rw [e1,e2,Int.neg_mul] at hd2
   simp [h1,h2]
   rw [Int.neg_mul,Int.mul_comm];omega
  ·have e1:(X.natAbs:Int)=X:=by omega
   have e2:(Y.natAbs:Int)=Y:=by omega
   rw [e1,e2] at hd2
   simp [h1,h2]
   rw [Int.mul_comm];omega
 ·intro hp
  unfold iv
  have h2:¬ Y<0:=by omega
  by_cases h1:X<0
  ·have:=h (by simp [h1,h2])
   simp [h1,this];omega
  ·simp [h1,hr];omega
 ·intro hp
  unfold iv
  by_cases h1:X<0
  ·simp [h1,hr];omega
  ·have:=h (by simp [h1,hp])
   simp [h1,this];omega
theorem fdiv_other {X Y:Int} (hY:Y≠0) {s t:Bool} (hs:s=decide (X<0)) (ht:t=decide (Y<0)) {zq zr:List Nat} (hq:Go.Proofs.YtcppcnfmgpphcaaGreat.val zq=X.natAbs / Y.natAbs) (hr:Go.Proofs.YtcppcnfmgpphcaaGreat.val zr=X.natAbs % Y.natAbs) (h:(s != t)=true) (h0:Go.Proofs.YtcppcnfmgpphcaaGreat.val zr≠0) :
  iv (s != t) zq - 1=X.fdiv Y∧iv s zr+Y=X.fmod Y:=by
 have hm:=Nat.mod_lt X.natAbs (Nat.pos_of_ne_zero (by omega:Y.natAbs≠0))
 have hd:=Nat.div_add_mod X.natAbs Y.natAbs
 generalize X.natAbs / Y.natAbs=q at *
 generalize X.natAbs % Y.natAbs=r at *
 subst hs ht
 rw [hr] at h0
 have hd2:((Y.natAbs:Int)*(q:Int)+(r:Int))=(X.natAbs:Int):=by rw [← hd];simp
 rw [h]
 refine fdiv_unique ?_ ?_ ?_ hY
 ·unfold iv
  rw [hq,hr]
  by_cases h1:X<0 <;> by_cases h2:Y<0
  ·simp [h1,h2] at h
  ·have e1:(X.natAbs:Int)=-X:=by omega
   have e2:(Y.natAbs:Int)=Y:=by omega
   rw [e1,e2] at hd2
   simp [h1]
   rw [Int.sub_mul,Int.neg_mul,Int.mul_comm];omega
  ·have e1:(X.natAbs:Int)=X:=by omega
   have e2:(Y.natAbs:Int)=-Y:=by omega
   rw [e1,e2,Int.neg_mul] at hd2
   simp [h1]
   rw [Int.sub_mul,Int.neg_mul,Int.mul_comm];omega
  ·simp [h1,h2] at h
 ·intro hp
  unfold iv
  have h2:¬ Y<0:=by omega
  by_cases h1:X<0
  ·simp [h1,hr];omega
  ·simp [h1,h2] at h
 ·intro hp
  unfold iv
  by_cases h1:X<0
  ·simp [h1,hp] at h
  ·simp [h1,hr];omega
theorem val_zero {zs:List Nat} (h:zby zs):Go.Proofs.YtcppcnfmgpphcaaGreat.val zs=0 ↔ zs.length=0 :=
 ⟨fun e=>by rw [zgp h e];rfl,fun e=>by rw [List.length_eq_zero_iff.1 e];rfl⟩
theorem zdn (X:Int) {Y:Int} (hY:Y≠0):(X.fdiv Y).natAbs≤X.natAbs:=by
 have h:=fdiv_fmod X Y
 obtain ⟨h1,h2⟩:=fmod_range X hY
 rcases Int.lt_or_lt_of_ne hY with g | g
 ·obtain ⟨h3,h4⟩:=h2 g
  by_cases hq:0≤X.fdiv Y
  ·have:X.fdiv Y*Y≤X.fdiv Y*(-1):=Int.mul_le_mul_of_nonneg_left (by omega) hq
   omega
  ·have:(-X.fdiv Y - 1)*1≤(-X.fdiv Y - 1)*(-Y):=Int.mul_le_mul_of_nonneg_left (by omega) (by omega)
   have e:(-X.fdiv Y - 1)*(-Y)=X.fdiv Y*Y+Y:=by rw [Int.sub_mul,Int.neg_mul_neg];omega
   omega
 ·obtain ⟨h3,h4⟩:=h1 g
  by_cases hq:0≤X.fdiv Y
  ·have:X.fdiv Y*1≤X.fdiv Y*Y:=Int.mul_le_mul_of_nonneg_left (by omega) hq
   omega
  ·have:(-X.fdiv Y - 1)*1≤(-X.fdiv Y - 1)*Y:=Int.mul_le_mul_of_nonneg_left (by omega) (by omega)
   have e:(-X.fdiv Y - 1)*Y=-(X.fdiv Y*Y) - Y:=by rw [Int.sub_mul,Int.neg_mul];omega
   omega
theorem zfa (X:Int) {Y:Int} (hY:Y≠0):(X.fmod Y).natAbs<Y.natAbs:=by
 obtain ⟨h1,h2⟩:=fmod_range X hY
 rcases Int.lt_or_lt_of_ne hY with g | g
 ·have:=h2 g;omega
 ·have:=h1 g;omega
theorem zhh {x y:ZI} (hx:Lb x.abs) (h:y.val≠0):(ZI.of (x.val.fdiv y.val)).abs.length≤x.abs.length:=ZI.len_of (Nat.lt_of_le_of_lt (zdn _ h) (ZI.abs_lt hx))
theorem len_fmod {x y:ZI} (hy:Lb y.abs) (h:y.val≠0):(ZI.of (x.val.fmod y.val)).abs.length≤y.abs.length:=ZI.len_of (Nat.lt_trans (zfa _ h) (ZI.abs_lt hy))
end
section
open Go.RowKit

def bez (r0 x0 y0 r1 x1 y1:Int):Int × Int × Int :=
  if _h:r1≤0 then (r0,x0,y0) else bez r1 x1 y1 (r0.fmod r1) (x0 - r0.fdiv r1*x1) (y0 - r0.fdiv r1*y1)
  termination_by r1.natAbs
  decreasing_by exact zfa _ (by omega)
end
section
open Go.RowKit

theorem zs_0:za7 Tryz.prog 171:=za7.mk' (by kernel_rfl)
theorem zs_6:za7 Tryz.prog 130:=za7.mk' (by kernel_rfl)
theorem zs_9:za7 Tryz.prog 172:=za7.mk' (by kernel_rfl)
theorem zs_14:za7 Tryz.prog 161:=za7.mk' (by kernel_rfl)
theorem zs_16:za7 Tryz.prog 162:=za7.mk' (by kernel_rfl)
theorem zs_18:za7 Tryz.prog 81:=za7.mk' (by kernel_rfl)
theorem zs_20:za7 Tryz.prog 141:=za7.mk' (by kernel_rfl)
theorem SSub (x y:ZI) (hx:Lb x.abs) (hy:Lb y.abs) (lx:x.abs.length≤49000) (ly:y.abs.length≤49000):Fn Tryz.prog 162 [] [vz x,vz y] (vz (ZI.of (x.val - y.val))) []:=by
 refine Fn.body Tryz.func162 rfl 9 rfl fun w H B a h=>?_
 refine rq za0 0 [] [(2,vp 0 0),(3,vp 1 0),(4,vp 2 0)] [(0,.box (zi x)),(1,.box (zi y)),(2,.box [cB false,.d (nsl [])])] h ?_;clear h;intro a w h
 obtain ⟨r1,er1,vr1,or1,lr1⟩:=mkZ (v:=-y.val) (m:=y.abs.length) (len_neg hy)
 obtain ⟨r2,er2,vr2,or2,lr2⟩:=mkZ (v:=x.val+r1.val) (m:=x.abs.length+r1.abs.length+1) (zd8 hx or1)
 refine rq za0 3 [(2,.call (Fn.cast (SNeg y hy (by omega)) (congrArg vz er1.symm)) zs_0),(3,.call (Fn.cast (SAdd x r1 hx or1 (by omega) (by omega)) (congrArg vz er2.symm)) tl_9)] [(4,vp 2 0)] [(2,.box (zi r2))] h ?_;clear h;intro a w h
 refine wp_ret ?_
 refine zap [.agg (zi r2)] h Exit.ret (.inl rfl)  rfl ⟨RV.agg _ 2 0 _ _ _ _ zdf rfl rfl rfl rfl,trivial⟩ ?_
 refine congrArg (fun z=>vz z) (er2.trans (congrArg ZI.of ?_))
 rw [vr1];omega
theorem zhp (x y:ZI):(sgn x.val<sgn y.val→(-1:Int)=zbn x.val y.val)∧(¬ sgn x.val<sgn y.val→sgn x.val>sgn y.val→(1:Int)=zbn x.val y.val)∧(¬ sgn x.val<sgn y.val→¬ sgn x.val>sgn y.val→sgn x.val<0→zhr (Go.Proofs.YtcppcnfmgpphcaaGreat.val y.abs) (Go.Proofs.YtcppcnfmgpphcaaGreat.val x.abs)=zbn x.val y.val)∧(¬ sgn x.val<sgn y.val→¬ sgn x.val>sgn y.val→¬ sgn x.val<0→zhr (Go.Proofs.YtcppcnfmgpphcaaGreat.val x.abs) (Go.Proofs.YtcppcnfmgpphcaaGreat.val y.abs)=zbn x.val y.val):=by
 have e1:∀ z:Int,(0<z→sgn z=1)∧(z<0→sgn z=-1)∧(z=0→sgn z=0):=fun z=>⟨sgn_pos,zge,zcy⟩
 rcases zfu x with ⟨h1,h2⟩ | ⟨h1,h2,h3⟩ | ⟨h1,h2⟩ <;> rcases zfu y with ⟨k1,k2⟩ | ⟨k1,k2,k3⟩ | ⟨k1,k2⟩ <;>
  have a1:=e1 x.val <;> have a2:=e1 y.val <;> rw [h1,k1] <;> rw [h1] at a1 <;> rw [k1] at a2 <;> unfold zbn zhr <;> refine ⟨fun _=>?_,fun _ _=>?_,fun _ _ _=>?_,fun _ _ _=>?_⟩ <;> first | omega | (split <;> first | omega | (split <;> first | omega | (split <;> first | omega | (split <;> omega))))
theorem SCmp (x y:ZI) (hx:Lb x.abs) (hy:Lb y.abs) (lx:x.abs.length≤49000) (ly:y.abs.length≤49000):Fn Tryz.prog 158 [] [vz x,vz y] (vi .i64 (zbn x.val y.val)) []:=by
 refine Fn.body Tryz.func158 rfl 32 rfl fun w H B a h=>?_
 refine rq za0 0 [] [(2,vp 0 0),(3,vp 1 0),(4,vi .i64 0)] [(0,.box (zi x)),(1,.box (zi y))] h ?_;clear h;intro a w h
 refine rq za0 2 [(1,.call (zgq x hx (by omega)) td_6),(3,.call (zgq y hy (by omega)) td_6)] [(2,vp 0 0),(3,vp 1 0),(4,vi .i64 0),(5,vi .i64 (sgn x.val)),(6,vi .i64 (sgn y.val))] [(0,.box (zi x)),(1,.box (zi y))] h ?_;clear h;intro a w h
 refine wp_seq (wp_block (rq za0 2 [] [(2,vp 0 0),(3,vp 1 0),(4,vi .i64 0),(5,vi .i64 (sgn x.val)),(6,vi .i64 (sgn y.val)),(11,vb (decide (sgn x.val<sgn y.val)))] [(0,.box (zi x)),(1,.box (zi y))] h ?_));clear h;intro a w h
 refine zaa (decide (sgn x.val<sgn y.val)) h rfl (fun hc=>?_) (fun hc=>?_)
 ·have hc1:=hc;clear hc
  have hc1':=of_decide_eq_true hc1
  refine rq za0 2 [] [(2,vp 0 0),(3,vp 1 0),(4,vi .i64 (-1))] [(0,.box (zi x)),(1,.box (zi y))] h ?_;clear h;intro a w h
  refine wp_ret (zaf (za9 ?_))
  refine zap [.c (cI (-1))] h Exit.ret (.inl rfl)  rfl ⟨RV.tmp _ _ rfl,trivial⟩ ?_
  exact congrArg (vi .i64) ((zhp x y).1 hc1')
 ·have hc2:=hc;clear hc
  have hc2':=of_decide_eq_false hc2
  refine rq za0 2 [] [(2,vp 0 0),(3,vp 1 0),(4,vi .i64 0),(5,vi .i64 (sgn x.val)),(15,vb (decide (sgn x.val>sgn y.val)))] [(0,.box (zi x)),(1,.box (zi y))] h ?_;clear h;intro a w h
  refine zaa (decide (sgn x.val>sgn y.val)) h rfl (fun hc=>?_) (fun hc=>?_)
  ·have hc3:=hc;clear hc
   have hc3':=of_decide_eq_true hc3
   refine rq za0 2 [] [(2,vp 0 0),(3,vp 1 0),(4,vi .i64 1)] [(0,.box (zi x)),(1,.box (zi y))] h ?_;clear h;intro a w h
   refine wp_ret (zaf (za9 ?_))
   refine zap [.c (cI 1)] h Exit.ret (.inl rfl)  rfl ⟨RV.tmp _ _ rfl,trivial⟩ ?_
   exact congrArg (vi .i64) ((zhp x y).2.1 hc2' hc3')
  ·have hc4:=hc;clear hc
   have hc4':=of_decide_eq_false hc4
   refine rq za0 2 [] [(2,vp 0 0),(3,vp 1 0),(4,vi .i64 0),(19,vb (decide (sgn x.val<0)))] [(0,.box (zi x)),(1,.box (zi y))] h ?_;clear h;intro a w h
   refine zaa (decide (sgn x.val<0)) h rfl (fun hc=>?_) (fun hc=>?_)
   ·have hc5:=hc;clear hc
    have hc5':=of_decide_eq_true hc5
    refine rq za0 2 [(4,.call (SnCmp y.abs x.abs hy hx) zs_6)] [(2,vp 0 0),(3,vp 1 0),(4,vi .i64 (zhr (Go.Proofs.YtcppcnfmgpphcaaGreat.val y.abs) (Go.Proofs.YtcppcnfmgpphcaaGreat.val x.abs)))] [(0,.box (zi x)),(1,.box (zi y))] h ?_;clear h;intro a w h
    refine wp_ret (zaf (za9 ?_))
    refine zap [.c (cI (zhr (Go.Proofs.YtcppcnfmgpphcaaGreat.val y.abs) (Go.Proofs.YtcppcnfmgpphcaaGreat.val x.abs)))] h Exit.ret (.inl rfl)  rfl ⟨RV.tmp _ _ rfl,trivial⟩ ?_
    exact congrArg (vi .i64) ((zhp x y).2.2.1 hc2' hc4' hc5')
   ·have hc6:=hc;clear hc
    have hc6':=of_decide_eq_false hc6
    refine wp_skip (zac (za4 (rq za0 2 [(4,.call (SnCmp x.abs y.abs hx hy) zs_6)] [(4,vi .i64 (zhr (Go.Proofs.YtcppcnfmgpphcaaGreat.val x.abs) (Go.Proofs.YtcppcnfmgpphcaaGreat.val y.abs)))] [] h ?_)));clear h;intro a w h
    refine wp_ret ?_
    refine zap [.c (cI (zhr (Go.Proofs.YtcppcnfmgpphcaaGreat.val x.abs) (Go.Proofs.YtcppcnfmgpphcaaGreat.val y.abs)))] h Exit.ret (.inl rfl)  rfl ⟨RV.tmp _ _ rfl,trivial⟩ ?_
    exact congrArg (vi .i64) ((zhp x y).2.2.2 hc2' hc4' hc6')
theorem gcd_iv (m n:Nat) {zs:List Nat} (h:Go.Proofs.YtcppcnfmgpphcaaGreat.val zs=Nat.gcd m n):iv false zs=(Nat.gcd m n:Int):=by rw [zcc,h]
theorem len_gcd {x y:ZI} (hx:Lb x.abs) (hy:Lb y.abs):(ZI.of (Nat.gcd x.val.natAbs y.val.natAbs:Int)).abs.length≤x.abs.length+y.abs.length:=ZI.len_of (by rw [Int.natAbs_natCast];exact gcd_lt_pw (ZI.abs_lt hx) (ZI.abs_lt hy))
theorem SGcd (x y:ZI) (hx:Lb x.abs) (hy:Lb y.abs) (lx:x.abs.length≤40000) (ly:y.abs.length≤40000):Fn Tryz.prog 163 [] [vz x,vz y] (vz (ZI.of (Nat.gcd x.val.natAbs y.val.natAbs:Int))) []:=by
 refine Fn.body Tryz.func163 rfl 11 rfl fun w H B a h=>?_
 refine rq za0 0 [] [(2,vp 0 0),(3,vp 1 0),(4,vp 2 0)] [(0,.box (zi x)),(1,.box (zi y)),(2,.box [cB false,.d (nsl [])])] h ?_;clear h;intro a w h
 obtain ⟨n1,en1,vn1,on1,ln1⟩:=mkN (v:=Nat.gcd (Go.Proofs.YtcppcnfmgpphcaaGreat.val x.abs) (Go.Proofs.YtcppcnfmgpphcaaGreat.val y.abs)) (m:=x.abs.length+y.abs.length) (gcd_lt_pw (zb4 hx) (zb4 hy))
 obtain ⟨r2,er2,vr2,or2,lr2⟩:=mkZ (v:=iv false n1) (m:=n1.length) (zc8 on1)
 refine rq za0 3 [(4,.call (Fn.cast (SnGcd x.abs y.abs hx hy (by omega) (by omega)) (congrArg vn en1.symm)) zs_9),(5,.call (Fn.cast (zh8 false n1 on1 (by omega)) (congrArg vz er2.symm)) ia_3)] [(4,vp 2 0)] [(2,.box (zi r2))] h ?_;clear h;intro a w h
 refine wp_ret ?_
 refine zap [.agg (zi r2)] h Exit.ret (.inl rfl)  rfl ⟨RV.agg _ 2 0 _ _ _ _ zdf rfl rfl rfl rfl,trivial⟩ ?_
 rw [er2];unfold ZI.val;rw [iv_abs,iv_abs,← gcd_iv _ _ vn1];first | done | rfl
theorem SDiv (x y:ZI) (hx:Lb x.abs) (hy:Lb y.abs) (lx:x.abs.length≤40000) (ly:y.abs.length≤40000) (h0:y.val≠0):Fn Tryz.prog 141 [] [vz x,vz y] (.tup [.agg (zi (ZI.of (x.val.fdiv y.val))),.agg (zi (ZI.of (x.val.fmod y.val))),.c (.d (.raw (.int .i64 0)))]) []:=by
 refine Fn.body Tryz.func141 rfl 56 rfl fun w H B a h=>?_
 refine rq za0 0 [] [(2,vp 0 0),(3,vp 1 0),(4,vp 2 0),(5,vp 3 0),(6,vi .i64 0)] [(0,.box (zi x)),(1,.box (zi y)),(2,.box [.d (.raw (.bool false)),.d (nsl [])]),(3,.box [.d (.raw (.bool false)),.d (nsl [])])] h ?_;clear h;intro a w h
 obtain ⟨r1,er1,vr1,or1,lr1⟩:=mkZ (v:=x.val) (m:=x.abs.length) (zci hx)
 obtain ⟨r2,er2,vr2,or2,lr2⟩:=mkZ (v:=y.val) (m:=y.abs.length) (zci hy)
 refine rq za0 4 [(1,.call (Fn.cast (SClean x hx (by omega)) (congrArg vz er1.symm)) ia_5),(3,.call (Fn.cast (SClean y hy (by omega)) (congrArg vz er2.symm)) ia_5)] [(2,vp 0 0),(3,vp 1 0),(4,vp 2 0),(5,vp 3 0),(6,vi .i64 0)] [(0,.box (zi r1)),(1,.box (zi r2)),(2,.box [.d (.raw (.bool false)),.d (nsl [])]),(3,.box [.d (.raw (.bool false)),.d (nsl [])])] h ?_;clear h;intro a w h
 obtain ⟨n3q,en3q,vn3q,on3q,ln3q⟩:=mkN (v:=Go.Proofs.YtcppcnfmgpphcaaGreat.val r1.abs / Go.Proofs.YtcppcnfmgpphcaaGreat.val r2.abs) (m:=r1.abs.length) (Nat.lt_of_le_of_lt (Nat.div_le_self _ _) (zb4 or1))
 obtain ⟨n3r,en3r,vn3r,on3r,ln3r⟩:=mkN (v:=Go.Proofs.YtcppcnfmgpphcaaGreat.val r1.abs % Go.Proofs.YtcppcnfmgpphcaaGreat.val r2.abs) (m:=r2.abs.length) (Nat.lt_trans (Nat.mod_lt _ (Nat.pos_of_ne_zero (by rw [ZI.val_abs,vr2];omega))) (zb4 or2))
 refine rq za0 4 [(4,.call (Fn.cast (SnDiv r1.abs r2.abs or1 or2 (by omega) (by omega) (by rw [ZI.val_abs,vr2];omega)) (show _=(.tup [.c (.d (nsl n3q)),.c (.d (nsl n3r)),.c (.d (.raw (.int .i64 0)))]:V) by rw [en3q,en3r];first | done | rfl)) zs_14)] [(2,vp 0 0),(3,vp 1 0),(4,vp 2 0),(5,vp 3 0),(6,vi .i64 0),(7,vn n3q),(8,vn n3r)] [(0,.box (zi r1)),(1,.box (zi r2)),(2,.box [.d (.raw (.bool false)),.d (nsl [])]),(3,.box [.d (.raw (.bool false)),.d (nsl [])])] h ?_;clear h;intro a w h
 refine wp_seq (rq za0 4 [(1,.cmp (op := .neq) (m:=0) (n:=0) (b:=false) .i64 rfl)] [(2,vp 0 0),(3,vp 1 0),(4,vp 2 0),(5,vp 3 0),(6,vi .i64 0),(7,vn n3q),(8,vn n3r),(23,vb false)] [(0,.box (zi r1)),(1,.box (zi r2)),(2,.box [.d (.raw (.bool false)),.d (nsl [])]),(3,.box [.d (.raw (.bool false)),.d (nsl [])])] h ?_);clear h;intro a w h
 refine zaa false h rfl (fun hc=>?_) (fun hc=>?_)
 ·cases hc
 ·clear hc
  refine wp_skip (za4 ?_)
  obtain ⟨r4,er4,vr4,or4,lr4⟩:=mkZ (v:=iv (r1.neg != r2.neg) n3q) (m:=n3q.length) (zc8 on3q)
  obtain ⟨r5,er5,vr5,or5,lr5⟩:=mkZ (v:=iv r1.neg n3r) (m:=n3r.length) (zc8 on3r)
  refine rq za0 4 [(6,.call (Fn.cast (zh8 (r1.neg != r2.neg) n3q on3q (by omega)) (congrArg vz er4.symm)) ia_3),(10,.call (Fn.cast (zh8 r1.neg n3r on3r (by omega)) (congrArg vz er5.symm)) ia_3)] [(2,vp 0 0),(3,vp 1 0),(4,vp 2 0),(5,vp 3 0),(6,vi .i64 0),(8,vn n3r)] [(0,.box (zi r1)),(1,.box (zi r2)),(2,.box (zi r4)),(3,.box (zi r5))] h ?_;clear h;intro a w h
  refine wp_seq ?_
  rcases Bool.eq_false_or_eq_true (r1.neg != r2.neg) with hc | hc
  ·have hc1:=hc;clear hc
   have hc1':=hc1;(try simp at hc1')
   refine rq za0 4 [(4,.cmpb .neq (m:=r1.neg) (n:=r2.neg) (b:=true) (.inr ⟨rfl,hc1.symm⟩)),(7,.len (zdm n3r))] [(3,vp 1 0),(4,vp 2 0),(5,vp 3 0),(6,vi .i64 0),(47,vb (decide ((n3r.length:Int)>0)))] [(1,.box (zi r2)),(2,.box (zi r4)),(3,.box (zi r5))] h ?_;clear h;intro a w h
   refine zaa (decide ((n3r.length:Int)>0)) h rfl (fun hc=>?_) (fun hc=>?_)
   ·have hc2:=hc;clear hc
    have hc2':=of_decide_eq_true hc2
    obtain ⟨r6,er6,vr6,or6,lr6⟩:=mkZ (v:=1) (m:=2) (ZI.len_of (by have:=pw2;omega))
    obtain ⟨r7,er7,vr7,or7,lr7⟩:=mkZ (v:=r4.val - r6.val) (m:=r4.abs.length+r6.abs.length+1) (len_sub or4 or6)
    obtain ⟨r8,er8,vr8,or8,lr8⟩:=mkZ (v:=r5.val+r2.val) (m:=r5.abs.length+r2.abs.length+1) (zd8 or5 or2)
    refine rn za0 4 [(1,.call (Fn.cast (SOf 1 ⟨by omega,by omega⟩) (congrArg vz er6.symm)) tm_10),(2,.call (Fn.cast (SSub r4 r6 or4 or6 (by omega) (by omega)) (congrArg vz er7.symm)) zs_16),(5,.call (Fn.cast (SAdd r5 r2 or5 or2 (by omega) (by omega)) (congrArg vz er8.symm)) tl_9)] [(4,vp 2 0),(5,vp 3 0),(6,vi .i64 0)] [(2,.box (zi r7)),(3,.box (zi r8))] h ?_;clear h;intro a w h
    refine za4 (rq za0 4 [] [(4,vp 2 0),(5,vp 3 0),(6,vi .i64 0)] [(2,.box (zi r7)),(3,.box (zi r8))] h ?_);clear h;intro a w h
    refine wp_ret ?_
    refine zap [.agg (zi r7),.agg (zi r8),.c (.d (.raw (.int .i64 0)))] h Exit.ret (.inl rfl)  rfl ⟨RV.agg _ 2 0 _ _ _ _ zdf rfl rfl rfl rfl,RV.agg _ 3 0 _ _ _ _ zdf rfl rfl rfl rfl,RV.tmp _ _ rfl,trivial⟩ ?_
    have f1:r1.neg=decide (x.val<0):=by rw [er1];rfl
    have f2:r2.neg=decide (y.val<0):=by rw [er2];rfl
    have f3:Go.Proofs.YtcppcnfmgpphcaaGreat.val n3q=x.val.natAbs / y.val.natAbs:=by rw [vn3q,ZI.val_abs,ZI.val_abs,vr1,vr2]
    have f4:Go.Proofs.YtcppcnfmgpphcaaGreat.val n3r=x.val.natAbs % y.val.natAbs:=by rw [vn3r,ZI.val_abs,ZI.val_abs,vr1,vr2]
    have f5:Go.Proofs.YtcppcnfmgpphcaaGreat.val n3r=0 ↔ n3r.length=0:=by rw [en3r];exact val_zero (zbz _)
    obtain ⟨e1,e2⟩:=fdiv_other h0 f1 f2 f3 f4 hc1 (fun h=>by have:=f5.1 h;omega)
    rw [er7,er8,vr4,vr5,vr6,vr2,e1,e2];first | done | rfl
   ·have hc3:=hc;clear hc
    have hc3':=of_decide_eq_false hc3
    refine wp_skip (za4 (rq za0 4 [] [(4,vp 2 0),(5,vp 3 0),(6,vi .i64 0)] [(2,.box (zi r4)),(3,.box (zi r5))] h ?_));clear h;intro a w h
    refine wp_ret ?_
    refine zap [.agg (zi r4),.agg (zi r5),.c (.d (.raw (.int .i64 0)))] h Exit.ret (.inl rfl)  rfl ⟨RV.agg _ 2 0 _ _ _ _ zdf rfl rfl rfl rfl,RV.agg _ 3 0 _ _ _ _ zdf rfl rfl rfl rfl,RV.tmp _ _ rfl,trivial⟩ ?_
    have f1:r1.neg=decide (x.val<0):=by rw [er1];rfl
    have f2:r2.neg=decide (y.val<0):=by rw [er2];rfl
    have f3:Go.Proofs.YtcppcnfmgpphcaaGreat.val n3q=x.val.natAbs / y.val.natAbs:=by rw [vn3q,ZI.val_abs,ZI.val_abs,vr1,vr2]
    have f4:Go.Proofs.YtcppcnfmgpphcaaGreat.val n3r=x.val.natAbs % y.val.natAbs:=by rw [vn3r,ZI.val_abs,ZI.val_abs,vr1,vr2]
    have f5:Go.Proofs.YtcppcnfmgpphcaaGreat.val n3r=0 ↔ n3r.length=0:=by rw [en3r];exact val_zero (zbz _)
    obtain ⟨e1,e2⟩:=fdiv_same h0 f1 f2 f3 f4 (fun _=>f5.2 (by omega))
    rw [er4,er5,e1,e2];first | done | rfl
  ·have hc4:=hc;clear hc
   have hc4':=hc4;(try simp at hc4')
   refine rq za0 4 [(4,.cmpb .neq (m:=r1.neg) (n:=r2.neg) (b:=false) (.inr ⟨rfl,hc4.symm⟩))] [(3,vp 1 0),(4,vp 2 0),(5,vp 3 0),(6,vi .i64 0),(47,vb false)] [(1,.box (zi r2)),(2,.box (zi r4)),(3,.box (zi r5))] h ?_;clear h;intro a w h
   refine zaa false h rfl (fun hc=>?_) (fun hc=>?_)
   ·cases hc
   ·clear hc
    refine wp_skip (za4 (rq za0 4 [] [(4,vp 2 0),(5,vp 3 0),(6,vi .i64 0)] [(2,.box (zi r4)),(3,.box (zi r5))] h ?_));clear h;intro a w h
    refine wp_ret ?_
    refine zap [.agg (zi r4),.agg (zi r5),.c (.d (.raw (.int .i64 0)))] h Exit.ret (.inl rfl)  rfl ⟨RV.agg _ 2 0 _ _ _ _ zdf rfl rfl rfl rfl,RV.agg _ 3 0 _ _ _ _ zdf rfl rfl rfl rfl,RV.tmp _ _ rfl,trivial⟩ ?_
    have f1:r1.neg=decide (x.val<0):=by rw [er1];rfl
    have f2:r2.neg=decide (y.val<0):=by rw [er2];rfl
    have f3:Go.Proofs.YtcppcnfmgpphcaaGreat.val n3q=x.val.natAbs / y.val.natAbs:=by rw [vn3q,ZI.val_abs,ZI.val_abs,vr1,vr2]
    have f4:Go.Proofs.YtcppcnfmgpphcaaGreat.val n3r=x.val.natAbs % y.val.natAbs:=by rw [vn3r,ZI.val_abs,ZI.val_abs,vr1,vr2]
    have f5:Go.Proofs.YtcppcnfmgpphcaaGreat.val n3r=0 ↔ n3r.length=0:=by rw [en3r];exact val_zero (zbz _)
    obtain ⟨e1,e2⟩:=fdiv_same h0 f1 f2 f3 f4 (fun h=>by rw [hc4] at h;cases h)
    rw [er4,er5,e1,e2];first | done | rfl
theorem sgn_eq0 {z:Int}:sgn z=0 ↔ z=0:=by unfold sgn;split <;> (try split) <;> omega
theorem SExact (x y:ZI) (hx:Lb x.abs) (hy:Lb y.abs) (lx:x.abs.length≤15000) (ly:y.abs.length≤15000) (h0:y.val≠0) (hr:x.val.fmod y.val=0):Fn Tryz.prog 160 [] [vz x,vz y] (.tup [.agg (zi (ZI.of (x.val.fdiv y.val))),.c (cI 0)]) []:=by
 refine Fn.body Tryz.func160 rfl 27 rfl fun w H B a h=>?_
 refine rq za0 0 [] [(2,vp 0 0),(3,vp 1 0),(4,vp 2 0),(5,vi .i64 0)] [(0,.box (zi x)),(1,.box (zi y)),(2,.box [cB false,.d (nsl [])])] h ?_;clear h;intro a w h
 obtain ⟨r1q,er1q,vr1q,or1q,lr1q⟩:=mkZ (v:=x.val.fdiv y.val) (m:=x.abs.length) (zhh hx h0)
 obtain ⟨r1r,er1r,vr1r,or1r,lr1r⟩:=mkZ (v:=x.val.fmod y.val) (m:=y.abs.length) (len_fmod hy h0)
 refine rq za0 3 [(2,.call (Fn.cast (SDiv x y hx hy (by omega) (by omega) h0) (show _=(.tup [.agg (zi r1q),.agg (zi r1r),.c (cI 0)]:V) by rw [er1q,er1r];first | done | rfl)) zs_20)] [(4,vp 2 0),(5,vi .i64 0),(6,vp 3 0),(7,vp 4 0),(8,vi .i64 0)] [(2,.box [cB false,.d (nsl [])]),(3,.box (zi r1q)),(4,.box (zi r1r))] h ?_;clear h;intro a w h
 refine wp_seq (wp_block (rq za0 5 [(1,.cmp (op := .neq) (m:=0) (n:=0) (b:=false) .i64 rfl)] [(4,vp 2 0),(5,vi .i64 0),(6,vp 3 0),(7,vp 4 0),(8,vi .i64 0),(16,vb false)] [(2,.box [cB false,.d (nsl [])]),(3,.box (zi r1q)),(4,.box (zi r1r))] h ?_));clear h;intro a w h
 refine zaa false h rfl (fun hc=>?_) (fun hc=>?_)
 ·cases hc
 ·clear hc
  refine rq za0 5 [(1,.call (Fn.cast (zgq r1r or1r (by omega)) (congrArg (vi .i64) (zcy (by rw [vr1r];exact hr)))) td_6),(2,.cmp (op := .neq) (m:=0) (n:=0) (b:=false) .i64 rfl)] [(4,vp 2 0),(5,vi .i64 0),(6,vp 3 0),(21,vb false)] [(2,.box [cB false,.d (nsl [])]),(3,.box (zi r1q))] h ?_;clear h;intro a w h
  refine zaa false h rfl (fun hc=>?_) (fun hc=>?_)
  ·cases hc
  ·clear hc
   refine wp_skip (zac (za4 (rq za0 5 [] [(4,vp 2 0),(5,vi .i64 0)] [(2,.box (zi r1q))] h ?_)));clear h;intro a w h
   refine wp_ret ?_
   refine zap [.agg (zi r1q),.c (cI 0)] h Exit.ret (.inl rfl)  rfl ⟨RV.agg _ 2 0 _ _ _ _ zdf rfl rfl rfl rfl,RV.tmp _ _ rfl,trivial⟩ ?_
   rw [er1q];first | done | rfl
end
section
open Go.RowKit

theorem tt_6:SlT Tryz.prog 28 53 2:=SlT.mk' Tryz.underlying28 (by kernel_rfl)
theorem tt_11:za7 Tryz.prog 163:=za7.mk' (by kernel_rfl)
def zeg (vs:List ZI) (v:Int):Int:=if 0≤v then ((vs[v.toNat]?).map ZI.val).getD 0 else 0
def zd5 (vs:List ZI):List za2→Int
  | []=>0
  | p :: ps=>p.c.val*zeg vs p.v+zd5 vs ps
theorem valP_app (vs:List ZI) (ps qs:List za2):zd5 vs (ps++qs)=zd5 vs ps+zd5 vs qs:=by
 induction ps with
 | nil=>simp [zd5]
 | cons p ps ih=>simp only [List.cons_append,zd5,ih];omega
theorem valP_take {vs:List ZI} {ps:List za2} {j:Nat} {p:za2} (h:ps[j]?=some p):zd5 vs (ps.take (j+1))=zd5 vs (ps.take j)+p.c.val*zeg vs p.v:=by
 have:ps.take (j+1)=ps.take j++[p]:=by rw [List.take_add_one,h];rfl
 rw [this,valP_app];simp [zd5]
theorem valAt_some {vs:List ZI} {v:Int} {k:Nat} {y:ZI} (h:v=(k:Int)) (hy:vs[k]?=some y):zeg vs v=y.val:=by
 subst h
 unfold zeg
 rw [if_pos (by omega),Int.toNat_natCast,hy];rfl
theorem valAt_neg {vs:List ZI} {v:Int} (h:¬ v≥0):zeg vs v=0:=by unfold zeg;rw [if_neg (by omega)]
theorem valAt_out {vs:List ZI} {v:Int} (h:¬ v<(vs.length:Int)):zeg vs v=0:=by
 unfold zeg
 split
 ·rw [List.getElem?_eq_none (by omega)];rfl
 ·rfl
def zdr (t:zbb) (vs:List ZI):Int:=t.k.val+zd5 vs t.parts
def VOk (M:Nat) (vs:List ZI):Prop:=vs.length≤2000∧∀ y ∈ vs,Lb y.abs∧y.abs.length≤M
theorem VOk.get {M:Nat} {vs:List ZI} (h:VOk M vs) {j:Nat} {y:ZI} (hy:vs[j]?=some y):Lb y.abs∧y.abs.length≤M:=h.2 y (List.mem_of_getElem? hy)
theorem valAt_lt {M:Nat} {vs:List ZI} (h:VOk M vs) (v:Int):(zeg vs v).natAbs<pw M:=by
 unfold zeg
 split
 ·cases hy:vs[v.toNat]? with
  | none=>exact zec M
  | some y =>
   obtain ⟨h1,h2⟩:=h.get hy
   have h3:=ZI.abs_lt h1
   have h4:=zd6 h2
   show y.val.natAbs<_
   omega
 ·exact zec M
theorem valP_lt {L M:Nat} {vs:List ZI} (hv:VOk M vs):∀ {ps:List za2}, (∀ p ∈ ps,Lb p.c.abs∧p.c.abs.length≤L)→(zd5 vs ps).natAbs≤ps.length*pw (L+M)
 | [],_=>by simp [zd5]
 | p :: ps,h=>by
  have ih:=valP_lt hv (fun q hq=>h q (by simp [hq])) (ps:=ps)
  obtain ⟨h1,h2⟩:=h p (by simp)
  have h3:=Nat.lt_of_lt_of_le (ZI.abs_lt h1) (zd6 h2)
  have h4:(p.c.val*zeg vs p.v).natAbs<pw (L+M):=by
   rw [Int.natAbs_mul,zed]
   exact Nat.mul_lt_mul'' h3 (valAt_lt hv p.v)
  simp only [zd5,List.length_cons,Nat.add_mul]
  omega
theorem val_len {n L M:Nat} {t:zbb} {vs:List ZI} (ht:TOk n L t) (hn:n≤1000) (hv:VOk M vs) {ps:List za2} (hp:∀ p ∈ ps,p ∈ t.parts) (hl:ps.length≤t.parts.length):(ZI.of (t.k.val+zd5 vs ps)).abs.length≤L+M+1:=by
 refine ZI.len_of ?_
 have h1:=valP_lt hv (fun p h=>ht.ps p (hp p h)) (L:=L)
 have h2:ps.length*pw (L+M)≤1000*pw (L+M):=Nat.mul_le_mul_right _ (by have:=ht.len;omega)
 have h3:=Nat.lt_of_lt_of_le (ZI.abs_lt ht.kb) (zd6 ht.kl)
 have h4:=zd6 (show L≤L+M by omega)
 rw [zau]
 omega
theorem SValue (t:zbb) (vs:List ZI) {n L M:Nat} (ht:TOk n L t) (hn:n≤1000) (hL:L+M≤20000) (hv:VOk M vs):Fn Tryz.prog 78 [] [(vT t),(vZs vs)] (vz (ZI.of (zdr t vs))) []:=by
 have kt:=ht.kl
 have lnv:=hv.1
 refine Fn.body Tryz.func78 rfl 40 rfl fun w H B a h=>?_
 refine rq za0 0 [] [(1,(vZs vs)),(2,vp 0 0),(4,vp 1 0)] [(0,.box (zT t)),(1,.box [cB false,.d (nsl [])])] h ?_;clear h;intro a w h
 obtain ⟨r1,er1,vr1,or1,lr1⟩:=mkZ (v:=t.k.val) (m:=t.k.abs.length) (zci ht.kb)
 refine rq za0 2 [(2,.call (Fn.cast (zde t.k ht.kb (by omega)) (congrArg vz er1.symm)) tl_5)] [(1,(vZs vs)),(2,vp 0 0),(4,vp 1 0),(5,vp 2 0)] [(0,.box (zT t)),(1,.box [cB false,.d (nsl [])]),(2,.box (zi r1))] h ?_;clear h;intro a w h
 refine wp_seq (rq za0 3 [(2,.len (c:=(cPs t.parts)) (n:=t.parts.length) (zae _ _ _))] [(1,(vZs vs)),(4,vp 1 0),(5,vp 2 0),(12,(vPs t.parts)),(13,vi .i64 (t.parts.length:Int)),(14,vi .i64 0)] [(1,.box [cB false,.d (nsl [])]),(2,.box (zi r1))] h ?_);clear h;intro a w h
 refine wp_block ?_
 refine zb1 (ι:=(Nat) × (ZI)) (fun (z_:(Nat) × (ZI))=>match z_ with | (j,out)=>out=ZI.of (t.k.val+zd5 vs (t.parts.take j))∧j≤t.parts.length)
   (fun (z_:(Nat) × (ZI))=>match z_ with | (j,out)=>[(1,(vZs vs)),(4,vp 1 0),(5,vp 2 0),(12,(vPs t.parts)),(13,vi .i64 (t.parts.length:Int)),(14,vi .i64 (j:Int))])
   (fun (z_:(Nat) × (ZI))=>match z_ with | (j,out)=>[(1,.box [cB false,.d (nsl [])]),(2,.box (zi out))])
   (fun (z_:(Nat) × (ZI))=>match z_ with | (j,out)=>t.parts.length - j) (0,r1) ?_ h (by kernel_rfl) (by kernel_rfl) ?_
 ·exact ⟨by rw [er1];simp [zd5],Nat.zero_le _⟩
 ·clear h;rintro ⟨j,out⟩ a w hI h
  change St _ (F.of [(1,(vZs vs)),(4,vp 1 0),(5,vp 2 0),(12,(vPs t.parts)),(13,vi .i64 (t.parts.length:Int)),(14,vi .i64 (j:Int))] [(1,.box [cB false,.d (nsl [])]),(2,.box (zi out))]) a w at h
  obtain ⟨hI1,hI2⟩:=hI
  have ln:=ht.len
  have lo:out.abs.length≤L+M+1:=by rw [hI1];exact val_len ht hn hv (fun p hp=>List.mem_of_mem_take hp) (by rw [List.length_take];omega)
  have ho:Lb out.abs:=by rw [hI1];exact ZI.lb_of _
  have vo:out.val=t.k.val+zd5 vs (t.parts.take j):=by rw [hI1];exact ZI.val_of _
  refine rq za0 3 [] [(1,(vZs vs)),(4,vp 1 0),(5,vp 2 0),(12,(vPs t.parts)),(13,vi .i64 (t.parts.length:Int)),(14,vi .i64 (j:Int)),(15,vb (decide ((j:Int)<(t.parts.length:Int))))] [(1,.box [cB false,.d (nsl [])]),(2,.box (zi out))] h ?_;clear h;intro a w h
  refine wp_seq ?_
  refine zaa (decide ((j:Int)<(t.parts.length:Int))) h rfl (fun hc=>?_) (fun hc=>?_)
  ·have hc1:=hc;clear hc
   have hc1':=of_decide_eq_true hc1
   refine wp_skip (za4 (wp_seq (wp_block ?_)))
   obtain ⟨x2,hx2⟩:∃ z_:za2,t.parts[j]?=some z_:=⟨_,List.getElem?_eq_getElem (by first | omega | (simp at *;omega))⟩
   obtain ⟨ox2,lx2⟩:=ht.get hx2
   refine rq za0 3 [(0,.gen _ _ _ fun _ _ _ _=>Op.idxD (d:=16) (t:=12) (k := .i64) zc0 (zal hx2 (f:=za2.d)) (OV.tmp 14 _))] [(1,(vZs vs)),(4,vp 1 0),(5,vp 2 0),(7,vp 3 0),(12,(vPs t.parts)),(13,vi .i64 (t.parts.length:Int)),(14,vi .i64 (j:Int))] [(1,.box [cB false,.d (nsl [])]),(2,.box (zi out)),(3,.box ([cI x2.v]++zi x2.c))] h ?_;clear h;intro a w h
   rcases Bool.eq_false_or_eq_true (decide (x2.v≥0)) with hc | hc
   ·have hc2:=hc;clear hc
    have hc2':=of_decide_eq_true hc2
    refine rq za0 4 [(2,.cmp (op := .geq) (m:=x2.v) (n:=0) (b:=true) .i64 hc2),(7,.len (c:=(cZs vs)) (n:=vs.length) (zae _ _ _))] [(1,(vZs vs)),(4,vp 1 0),(5,vp 2 0),(7,vp 3 0),(12,(vPs t.parts)),(13,vi .i64 (t.parts.length:Int)),(14,vi .i64 (j:Int)),(27,vb (decide (x2.v<(vs.length:Int))))] [(1,.box [cB false,.d (nsl [])]),(2,.box (zi out)),(3,.box ([cI x2.v]++zi x2.c))] h ?_;clear h;intro a w h
    refine zaa (decide (x2.v<(vs.length:Int))) h rfl (fun hc=>?_) (fun hc=>?_)
    ·have hc3:=hc;clear hc
     have hc3':=of_decide_eq_true hc3
     obtain ⟨k,hk⟩:∃ k:Nat,x2.v=(k:Int):=⟨_,(Int.toNat_of_nonneg (by omega)).symm⟩
     replace h:=h.conv (f':=F.of [(1,(vZs vs)),(4,vp 1 0),(5,vp 2 0),(7,vp 3 0),(12,(vPs t.parts)),(13,vi .i64 (t.parts.length:Int)),(14,vi .i64 (j:Int)),(27,vb (decide (x2.v<(vs.length:Int))))] [(1,.box [cB false,.d (nsl [])]),(2,.box (zi out)),(3,.box ([cI (k:Int)]++zi x2.c))]) (by rw [hk])
     obtain ⟨x3,hx3⟩:∃ z_:ZI,vs[k]?=some z_:=⟨_,List.getElem?_eq_getElem (by first | omega | (simp at *;omega))⟩
     obtain ⟨ox3,lx3⟩:=hv.get hx3
     obtain ⟨r4,er4,vr4,or4,lr4⟩:=mkZ (v:=x2.c.val*x3.val) (m:=x2.c.abs.length+x3.abs.length) (zgi ox2 ox3)
     obtain ⟨r5,er5,vr5,or5,lr5⟩:=mkZ (v:=out.val+r4.val) (m:=out.abs.length+r4.abs.length+1) (zd8 ho or4)
     refine rn za0 4 [(6,.gen _ _ _ fun _ _ _ _=>Op.idxD (d:=34) (t:=31) (k := .i64) tt_6 (zal hx3 (f:=ziD)) (OV.tmp 33 _)),(8,.call (Fn.cast (SMul x2.c x3 ox2 ox3 (by omega) (by omega)) (congrArg vz er4.symm)) tm_12),(9,.call (Fn.cast (SAdd out r4 ho or4 (by omega) (by omega)) (congrArg vz er5.symm)) tl_9)] [(1,(vZs vs)),(4,vp 1 0),(5,vp 2 0),(12,(vPs t.parts)),(13,vi .i64 (t.parts.length:Int)),(14,vi .i64 (j:Int))] [(1,.box [cB false,.d (nsl [])]),(2,.box (zi r5))] h ?_;clear h;intro a w h
     refine zac (za4 (rn za0 4 [(0,.add .i64 (m:=(j:Int)) (n:=1) (zad (by omega) (by omega)))] [(1,(vZs vs)),(4,vp 1 0),(5,vp 2 0),(12,(vPs t.parts)),(13,vi .i64 (t.parts.length:Int)),(14,vi .i64 ((j:Int)+1))] [(1,.box [cB false,.d (nsl [])]),(2,.box (zi r5))] h ?_));clear h;intro a w h
     refine za4 ?_
     refine zam (x:=(j,out)) (y:=((j+1),r5)) h ?_ ?_
     ·have:=zak hx2
      exact ⟨by rw [er5,vr4,vo,valP_take hx2,valAt_some hk hx3,← Int.add_assoc],by omega⟩
     ·show t.parts.length - (j+1)<t.parts.length - j
      have:=zak hx2;omega
    ·have hc4:=hc;clear hc
     have hc4':=of_decide_eq_false hc4
     refine wp_skip (zac (za4 (rn za0 4 [(0,.add .i64 (m:=(j:Int)) (n:=1) (zad (by omega) (by omega)))] [(1,(vZs vs)),(4,vp 1 0),(5,vp 2 0),(12,(vPs t.parts)),(13,vi .i64 (t.parts.length:Int)),(14,vi .i64 ((j:Int)+1))] [(1,.box [cB false,.d (nsl [])]),(2,.box (zi out))] h ?_)));clear h;intro a w h
     refine za4 ?_
     refine zam (x:=(j,out)) (y:=((j+1),out)) h ?_ ?_
     ·have:=zak hx2
      exact ⟨by rw [hI1,valP_take hx2,valAt_out hc4', Int.mul_zero,Int.add_zero],by omega⟩
     ·show t.parts.length - (j+1)<t.parts.length - j
      have:=zak hx2;omega
   ·have hc5:=hc;clear hc
    have hc5':=of_decide_eq_false hc5
    refine rq za0 4 [(2,.cmp (op := .geq) (m:=x2.v) (n:=0) (b:=false) .i64 hc5)] [(1,(vZs vs)),(4,vp 1 0),(5,vp 2 0),(7,vp 3 0),(12,(vPs t.parts)),(13,vi .i64 (t.parts.length:Int)),(14,vi .i64 (j:Int)),(27,vb false)] [(1,.box [cB false,.d (nsl [])]),(2,.box (zi out)),(3,.box ([cI x2.v]++zi x2.c))] h ?_;clear h;intro a w h
    refine zaa false h rfl (fun hc=>?_) (fun hc=>?_)
    ·cases hc
    ·clear hc
     refine wp_skip (zac (za4 (rn za0 4 [(0,.add .i64 (m:=(j:Int)) (n:=1) (zad (by omega) (by omega)))] [(1,(vZs vs)),(4,vp 1 0),(5,vp 2 0),(12,(vPs t.parts)),(13,vi .i64 (t.parts.length:Int)),(14,vi .i64 ((j:Int)+1))] [(1,.box [cB false,.d (nsl [])]),(2,.box (zi out))] h ?_)));clear h;intro a w h
     refine za4 ?_
     refine zam (x:=(j,out)) (y:=((j+1),out)) h ?_ ?_
     ·have:=zak hx2
      exact ⟨by rw [hI1,valP_take hx2,valAt_neg hc5', Int.mul_zero,Int.add_zero],by omega⟩
     ·show t.parts.length - (j+1)<t.parts.length - j
      have:=zak hx2;omega
  ·have hc6:=hc;clear hc
   have hc6':=of_decide_eq_false hc6
   refine wp_exit (zai (zai (za8 (za4 (rq za0 4 [] [(4,vp 1 0)] [(1,.box (zi out))] h ?_)))));clear h;intro a w h
   refine wp_ret ?_
   refine zap [.agg (zi out)] h Exit.ret (.inl rfl)  rfl ⟨RV.agg _ 1 0 _ _ _ _ zdf rfl rfl rfl rfl,trivial⟩ ?_
   have hj:j=t.parts.length:=by omega
   subst hj
   rw [hI1,List.take_length];first | done | rfl
def zbu (ps:List za2):Int:=ps.foldl (fun g p=>(Nat.gcd g.natAbs p.c.val.natAbs:Int)) 0
theorem con_take {ps:List za2} {j:Nat} {p:za2} (h:ps[j]?=some p):zbu (ps.take (j+1))=(Nat.gcd (zbu (ps.take j)).natAbs p.c.val.natAbs:Int):=by
 unfold zbu;rw [foldl_take h]
theorem con_nonneg (ps:List za2):0≤zbu ps:=by
 have key:∀ (ps:List za2) (g:Int),0≤g→0≤ps.foldl (fun g p=>(Nat.gcd g.natAbs p.c.val.natAbs:Int)) g:=by
  intro ps
  induction ps with
  | nil=>intro g h;exact h
  | cons p ps ih=>intro g h;exact ih _ (Int.natCast_nonneg _)
 exact key ps 0 (Int.le_refl 0)
theorem con_le {L:Nat} {ps:List za2} (h:∀ p ∈ ps,p.c.val.natAbs<pw L∧p.c.val≠0):(zbu ps).natAbs<pw L:=by
 have key:∀ (ps:List za2),(∀ p ∈ ps,p.c.val.natAbs<pw L∧p.c.val≠0)→∀ g:Int,g.natAbs<pw L→(ps.foldl (fun g p=>(Nat.gcd g.natAbs p.c.val.natAbs:Int)) g).natAbs<pw L:=by
  intro ps
  induction ps with
  | nil=>intro _ g h;exact h
  | cons p ps ih =>
   intro hp g h
   obtain ⟨h1,h2⟩:=hp p (by simp)
   refine ih (fun q hq=>hp q (by simp [hq])) _ ?_
   rw [Int.natAbs_natCast]
   have:=Nat.le_of_dvd (by omega) (Nat.gcd_dvd_right g.natAbs p.c.val.natAbs)
   omega
 exact key ps h 0 (by simpa using zec L)
theorem plain_lt {n L:Nat} {t:zbb} (ht:TOk n L t) (hn:n≤1000):∀ p ∈ (za3 t).parts,p.c.val.natAbs<pw (L+1)∧p.c.val≠0:=fun p hp=>by
 obtain ⟨h1,h2⟩:=(ht.plain hn).ps p hp
 exact ⟨Nat.lt_of_lt_of_le (ZI.abs_lt h1) (zd6 h2),((zdh t).2.1 p hp).2.2⟩
theorem con_len {n L:Nat} {t:zbb} (ht:TOk n L t) (hn:n≤1000) (j:Nat):(ZI.of (zbu ((za3 t).parts.take j))).abs.length≤L+1 :=
 ZI.len_of (con_le fun p hp=>plain_lt ht hn p (List.mem_of_mem_take hp))
theorem SContent (t:zbb) {n L:Nat} (ht:TOk n L t) (hn:n≤1000) (hL:L≤20000):Fn Tryz.prog 142 [] [(vT t)] (vz (ZI.of (zbu (za3 t).parts))) []:=by
 refine Fn.body Tryz.func142 rfl 21 rfl fun w H B a h=>?_
 refine rq za0 0 [] [(1,vp 0 0),(2,vp 1 0)] [(0,.box (zT t)),(1,.box [cB false,.d (nsl [])])] h ?_;clear h;intro a w h
 refine rq za0 2 [] [(1,vp 0 0),(2,vp 1 0),(3,vp 2 0)] [(0,.box (zT t)),(1,.box [cB false,.d (nsl [])]),(2,.box [cB false,.d (nsl [])])] h ?_;clear h;intro a w h
 refine wp_seq (rq za0 3 [(1,.call (zev t ht (by omega) (by omega)) tm_7),(3,.len (c:=(cPs (za3 t).parts)) (n:=(za3 t).parts.length) (zae _ _ _))] [(2,vp 1 0),(3,vp 2 0),(9,(vPs (za3 t).parts)),(10,vi .i64 ((za3 t).parts.length:Int)),(11,vi .i64 0)] [(1,.box [cB false,.d (nsl [])]),(2,.box [cB false,.d (nsl [])])] h ?_);clear h;intro a w h
 refine wp_block ?_
 refine zb1 (ι:=(Nat) × (ZI)) (fun (z_:(Nat) × (ZI))=>match z_ with | (j,out)=>out=ZI.of (zbu ((za3 t).parts.take j))∧j≤(za3 t).parts.length)
   (fun (z_:(Nat) × (ZI))=>match z_ with | (j,out)=>[(2,vp 1 0),(3,vp 2 0),(9,(vPs (za3 t).parts)),(10,vi .i64 ((za3 t).parts.length:Int)),(11,vi .i64 (j:Int))])
   (fun (z_:(Nat) × (ZI))=>match z_ with | (j,out)=>[(1,.box [cB false,.d (nsl [])]),(2,.box (zi out))])
   (fun (z_:(Nat) × (ZI))=>match z_ with | (j,out)=>(za3 t).parts.length - j) (0,(ZI.of 0)) ?_ h (by kernel_rfl) (by kernel_rfl) ?_
 ·exact ⟨by simp [zbu],Nat.zero_le _⟩
 ·clear h;rintro ⟨j,out⟩ a w hI h
  change St _ (F.of [(2,vp 1 0),(3,vp 2 0),(9,(vPs (za3 t).parts)),(10,vi .i64 ((za3 t).parts.length:Int)),(11,vi .i64 (j:Int))] [(1,.box [cB false,.d (nsl [])]),(2,.box (zi out))]) a w at h
  obtain ⟨hI1,hI2⟩:=hI
  have lpp:=(ht.plain hn).len
  have lvv:(zfd t.parts).length=(za3 t).parts.length:=(List.length_map _).symm
  have lo:out.abs.length≤L+1:=by rw [hI1];exact con_len ht hn j
  have ho:Lb out.abs:=by rw [hI1];exact ZI.lb_of _
  have vo:out.val=zbu ((za3 t).parts.take j):=by rw [hI1];exact ZI.val_of _
  refine rq za0 3 [] [(2,vp 1 0),(3,vp 2 0),(9,(vPs (za3 t).parts)),(10,vi .i64 ((za3 t).parts.length:Int)),(11,vi .i64 (j:Int)),(12,vb (decide ((j:Int)<((za3 t).parts.length:Int))))] [(1,.box [cB false,.d (nsl [])]),(2,.box (zi out))] h ?_;clear h;intro a w h
  refine wp_seq ?_
  refine zaa (decide ((j:Int)<((za3 t).parts.length:Int))) h rfl (fun hc=>?_) (fun hc=>?_)
  ·have hc1:=hc;clear hc
   have hc1':=of_decide_eq_true hc1
   refine wp_skip (za4 (wp_seq (wp_block ?_)))
   obtain ⟨x2,hx2⟩:∃ z_:za2,(za3 t).parts[j]?=some z_:=⟨_,List.getElem?_eq_getElem (by first | omega | (simp at *;omega))⟩
   obtain ⟨ox2,lx2⟩:=(ht.plain hn).get hx2
   refine rq za0 3 [(0,.gen _ _ _ fun _ _ _ _=>Op.idxD (d:=13) (t:=9) (k := .i64) zc0 (zal hx2 (f:=za2.d)) (OV.tmp 11 _))] [(2,vp 1 0),(3,vp 2 0),(5,vp 3 0),(9,(vPs (za3 t).parts)),(10,vi .i64 ((za3 t).parts.length:Int)),(11,vi .i64 (j:Int))] [(1,.box [cB false,.d (nsl [])]),(2,.box (zi out)),(3,.box ([cI x2.v]++zi x2.c))] h ?_;clear h;intro a w h
   obtain ⟨r3,er3,vr3,or3,lr3⟩:=mkZ (v:=(Nat.gcd out.val.natAbs x2.c.val.natAbs:Int)) (m:=out.abs.length+x2.c.abs.length) (len_gcd ho ox2)
   refine rn za0 4 [(3,.call (Fn.cast (SGcd out x2.c ho ox2 (by omega) (by omega)) (congrArg vz er3.symm)) tt_11)] [(2,vp 1 0),(3,vp 2 0),(9,(vPs (za3 t).parts)),(10,vi .i64 ((za3 t).parts.length:Int)),(11,vi .i64 (j:Int))] [(1,.box [cB false,.d (nsl [])]),(2,.box (zi r3))] h ?_;clear h;intro a w h
   refine zac (za4 (rn za0 4 [(0,.add .i64 (m:=(j:Int)) (n:=1) (zad (by omega) (by omega)))] [(2,vp 1 0),(3,vp 2 0),(9,(vPs (za3 t).parts)),(10,vi .i64 ((za3 t).parts.length:Int)),(11,vi .i64 ((j:Int)+1))] [(1,.box [cB false,.d (nsl [])]),(2,.box (zi r3))] h ?_));clear h;intro a w h
   refine za4 ?_
   refine zam (x:=(j,out)) (y:=((j+1),r3)) h ?_ ?_
   ·have:=zak hx2
    exact ⟨by rw [er3,vo,con_take hx2],by omega⟩
   ·show (za3 t).parts.length - (j+1)<(za3 t).parts.length - j
    have:=zak hx2;omega
  ·have hc2:=hc;clear hc
   have hc2':=of_decide_eq_false hc2
   refine wp_exit (zai (zai (za8 (za4 (rq za0 4 [] [(2,vp 1 0)] [(1,.box (zi out))] h ?_)))));clear h;intro a w h
   refine wp_ret ?_
   refine zap [.agg (zi out)] h Exit.ret (.inl rfl)  rfl ⟨RV.agg _ 1 0 _ _ _ _ zdf rfl rfl rfl rfl,trivial⟩ ?_
   have hj:j=(za3 t).parts.length:=by omega
   subst hj
   rw [hI1,List.take_length];first | done | rfl
end
section
def zgk {α:Type} (pr:α→Bool):List α→Nat→Int
  | [],_=>-1
  | p :: ps,n=>if pr p=true then n else zgk pr ps (n+1)
theorem idxB_at {α:Type} {pr:α→Bool} {xs:List α} {j:Nat} {p:α} (h:xs[j]?=some p):zgk pr (xs.drop j) j=if pr p=true then (j:Int) else zgk pr (xs.drop (j+1)) (j+1):=by
 obtain ⟨hj,rfl⟩:=List.getElem?_eq_some_iff.1 h
 rw [List.drop_eq_getElem_cons hj];rfl
structure zab where
  t:zbb
  eq:Bool
def zab.d (x:zab):List D:=[.sl 3 (x.t.parts.map za2.d),.raw (.bool x.t.k.neg),nsl x.t.k.abs,.raw (.bool x.eq)]
inductive za1 where
  | mk (kind:Int) (r:zab) (kids:List za1)
def za1.kind:za1→Int | ⟨k,_,_⟩=>k
def za1.r:za1→zab | ⟨_,r,_⟩=>r
def za1.kids:za1→List za1 | ⟨_,_,ks⟩=>ks
theorem za1.eta (f:za1):za1.mk f.kind f.r f.kids=f:=by cases f;rfl
theorem za1.ind {P:za1→Prop} (h:∀ k r ks,(∀ g ∈ ks,P g)→P ⟨k,r,ks⟩) (f:za1):P f :=
 za1.rec (motive_1:=P) (motive_2:=fun ks=>∀ g ∈ ks,P g) h (fun g hg=>(by cases hg)) (fun a l ha has g hg=>(List.mem_cons.1 hg).elim (fun e=>e ▸ ha) (has g)) f
def za1.fold {α:Type} (g:Int→zab→List za1→List α→α):za1→α
  | ⟨k,r,ks⟩=>g k r ks (ks.attach.map fun x=>za1.fold g x.1)
  termination_by f=>SizeOf.sizeOf f
  decreasing_by have:=List.sizeOf_lt_of_mem x.2;simp;omega
theorem za1.fold_mk {α:Type} (g:Int→zab→List za1→List α→α) (k:Int) (r:zab) (ks:List za1):za1.fold g ⟨k,r,ks⟩=g k r ks (ks.map (za1.fold g)):=by
 rw [za1.fold,List.attach_map_val]
theorem za1.fold_eq {α:Type} (g:Int→zab→List za1→List α→α) (f:za1):za1.fold g f=g f.kind f.r f.kids (f.kids.map (za1.fold g)):=by cases f;exact za1.fold_mk g _ _ _
def za1.d (f:za1):List D:=f.fold fun k r _ ds=>[.raw (.int .i64 k),.sl 3 (r.t.parts.map za2.d),.raw (.bool r.t.k.neg),nsl r.t.k.abs,.raw (.bool r.eq),.sl 6 ds]
theorem za1.d_eq (f:za1):f.d=[.raw (.int .i64 f.kind),.sl 3 (f.r.t.parts.map za2.d),.raw (.bool f.r.t.k.neg),nsl f.r.t.k.abs,.raw (.bool f.r.eq),.sl 6 (f.kids.map za1.d)]:=za1.fold_eq _ f
theorem za1.d_len (f:za1):f.d.length=6:=by rw [za1.d_eq];rfl
structure BoundD where
  is_:Bool
  lo:ZI
  hi:ZI
def BoundD.d (x:BoundD):List D:=[.raw (.bool x.is_),.raw (.bool x.lo.neg),nsl x.lo.abs,.raw (.bool x.hi.neg),nsl x.hi.abs]
structure MoveD where
  v:Int
  any:Bool
  t:zbb
def MoveD.d (x:MoveD):List D:=[.raw (.int .i64 x.v),.raw (.bool x.any),.sl 3 (x.t.parts.map za2.d),.raw (.bool x.t.k.neg),nsl x.t.k.abs]
structure ActD where
  proc:Int
  from_:Int
  to_:Int
  guard:za1
  moves:List MoveD
def ActD.d (x:ActD):List D:=[.raw (.int .i64 x.proc),.raw (.int .i64 x.from_),.raw (.int .i64 x.to_),.raw (.int .i64 x.guard.kind),.sl 3 (x.guard.r.t.parts.map za2.d),.raw (.bool x.guard.r.t.k.neg),nsl x.guard.r.t.k.abs,.raw (.bool x.guard.r.eq),.sl 6 (x.guard.kids.map za1.d),.sl 5 (x.moves.map MoveD.d)]
structure ProcD where
  name:ByteArray
  locs:List ByteArray
  cmds:D
def ProcD.d (x:ProcD):List D:=[.raw (.string x.name),.sl 1 (x.locs.map strD),x.cmds]
structure SysD where
  vars:List ByteArray
  bounds:List BoundD
  init:za1
  procs:List ProcD
  acts:List ActD
structure StD where
  locs:List Int
  vals:List ZI
def StD.d (x:StD):List D:=[.sl 1 (x.locs.map zbo),.sl 2 (x.vals.map ziD)]
structure zag where
  at_:Bool
  proc:Int
  loc:Int
  f:za1
def zag.d (x:zag):List D:=[.raw (.bool x.at_),.raw (.int .i64 x.proc),.raw (.int .i64 x.loc),.raw (.int .i64 x.f.kind),.sl 3 (x.f.r.t.parts.map za2.d),.raw (.bool x.f.r.t.k.neg),nsl x.f.r.t.k.abs,.raw (.bool x.f.r.eq),.sl 6 (x.f.kids.map za1.d)]
abbrev sysC (s:SysD):List C:=([.d (.sl 1 (s.vars.map strD)),.d (.sl 5 (s.bounds.map BoundD.d)),.d (.raw (.int .i64 s.init.kind)),.d (.sl 3 (s.init.r.t.parts.map za2.d))]++zi s.init.r.t.k++[.d (.raw (.bool s.init.r.eq)),.d (.sl 6 (s.init.kids.map za1.d)),.d (.sl 3 (s.procs.map ProcD.d)),.d (.sl 10 (s.acts.map ActD.d))])
abbrev zF (x:za1):List C:=[.d (.raw (.int .i64 x.kind)),.d (.sl 3 (x.r.t.parts.map za2.d))]++zi x.r.t.k++[.d (.raw (.bool x.r.eq)),.d (.sl 6 (x.kids.map za1.d))]
abbrev zR_ (x:zab):List C:=[.d (.sl 3 (x.t.parts.map za2.d))]++zi x.t.k++[.d (.raw (.bool x.eq))]
abbrev vF (x:za1):V := .t (.agg (zF x))
abbrev vR (x:zab):V := .t (.agg (zR_ x))
abbrev vFs (x:List za1):V := .t (.c (.d (.sl 6 (x.map za1.d))))
abbrev vRs (x:List zab):V := .t (.c (.d (.sl 4 (x.map zab.d))))
abbrev cFs (x:List za1):C := .d (.sl 6 (x.map za1.d))
abbrev cRs (x:List zab):C := .d (.sl 4 (x.map zab.d))
end
section
open Go.RowKit

theorem kb_0:SlT Tryz.prog 58 60 6:=SlT.mk' Tryz.underlying58 (by kernel_rfl)
theorem kb_1:ElZ Tryz.prog 58 60 6:=ElZ.mk' Tryz.underlying58 _ _ rfl rfl (by kernel_rfl) (by kernel_rfl) (by kernel_rfl) (by decide)
section
variable {P:Program}
theorem ze9.fnc {t:TypeId} {z:C} {dd:TypeDesc} (hu:P.underlying t=some dd) (ha:(match dd with | .struct _ | .array _ _=>true | _=>false)=false) (hs:(P.info? t).map (·.size)=some 1) (hz:Zero P t [z]):ze9 P t ⟨1,false,[],[z],4⟩ :=
 ⟨Sz.mk' hs hu _ ha.symm,fun k off n ag h=>(by simp at h),fun _=>hz,fun h=>absurd rfl h,fun h=>(by cases h),fun h=>(by cases h),fun h=>(by cases h),fun k h=>(by cases h)⟩
theorem Op.makeFs {d:Nat} {fn:Go.Fn} (ts:List (Nat × Nat × Nat)) {ty:TypeId} {pos af gd} :
  zb9 P ⟨some d,.makeFunc fn #[] ⟨ts.map fun p => .tmp p.1⟩,ty,pos,af,gd⟩ { rs:=ts.map fun p=>(p.1,vp p.2.1 p.2.2),ws:=[(d,some (.t (.c (.fn fn [] (ts.map fun p=>A.ptr p.2.1 p.2.2)))))] } :=
 zb9.value d _ rfl rfl rfl fun e f H B a w hok hr=>by
  refine ⟨.func fn #[] ⟨ts.map fun p=>a.eval (.tmp p.1)⟩,?_,[],ts.map fun p=>a.eval (.tmp p.1),rfl,trivial,?_⟩
  ·simp [execOp,Instr.makeFunc,Function.comp_def]
  ·have h1:∀ p ∈ ts,AR H B (.ptr p.2.1 p.2.2) (a.eval (.tmp p.1)):=fun p hp=>hok.slot p.1 _ (hr.1 (p.1,vp p.2.1 p.2.2) (List.mem_map.2 ⟨p,hp,rfl⟩))
   clear hr
   induction ts with
   | nil=>trivial
   | cons p ts ih=>exact ⟨h1 p (by simp),ih fun q hq=>h1 q (by simp [hq])⟩
end
theorem all_take {α:Type} {q:α→Bool} {xs:List α} {j:Nat} {x:α} (h:xs[j]?=some x):(xs.take (j+1)).all q=((xs.take j).all q && q x):=by
 have e:xs.take (j+1)=xs.take j++[x]:=by rw [List.take_add_one,h];rfl
 rw [e,List.all_append];simp
theorem zbj {α:Type} {q:α→Bool} {xs:List α} {j:Nat} {x:α} (h:xs[j]?=some x) (h1:(xs.take j).all q=true) (h2:q x=true):(xs.take (j+1)).all q=true:=by rw [all_take h,h1,h2];rfl
theorem zbd {α:Type} {q:α→Bool} {xs:List α} {j:Nat} {x:α} (h:xs[j]?=some x) (h2:q x=false):xs.all q=false:=by
 cases h3:xs.all q with
 | false=>rfl
 | true=>rw [List.all_eq_true.1 h3 x (List.mem_of_getElem? h)] at h2;cases h2
theorem zdd {α:Type} {q:α→Bool} {xs:List α} {j:Nat} (hj:¬ (j:Int)<(xs.length:Int)) (h1:(xs.take j).all q=true):xs.all q=true:=by rwa [List.take_of_length_le (by omega)] at h1
theorem any_step {α:Type} {q:α→Bool} {xs:List α} {j:Nat} {x:α} (h:xs[j]?=some x) (h1:(xs.take j).any q=false) (h2:q x=false):(xs.take (j+1)).any q=false:=by
 have e:xs.take (j+1)=xs.take j++[x]:=by rw [List.take_add_one,h];rfl
 rw [e,List.any_append,h1];simp [h2]
theorem any_stop {α:Type} {q:α→Bool} {xs:List α} {j:Nat} {x:α} (h:xs[j]?=some x) (h2:q x=true):xs.any q=true:=List.any_eq_true.2 ⟨x,List.mem_of_getElem? h,h2⟩
theorem any_end {α:Type} {q:α→Bool} {xs:List α} {j:Nat} (hj:¬ (j:Int)<(xs.length:Int)) (h1:(xs.take j).any q=false):xs.any q=false:=by rwa [List.take_of_length_le (by omega)] at h1
def cnt {α:Type} (k:Int) (xs:List α):List α:=if k=4∨k=5 then xs else if k=3 then xs.take 1 else []
theorem zdo {α β:Type} (g:α→β) (k:Int) (xs:List α):cnt k (xs.map g)=(cnt k xs).map g:=by unfold cnt;split;rfl;split;rw [List.map_take];rfl
theorem zbx {α:Type} {k:Int} {xs:List α} {x:α} (h:x ∈ cnt k xs):x ∈ xs:=by
 unfold cnt at h
 split at h
 ·exact h
 ·split at h
  ·exact List.mem_of_mem_take h
  ·cases h
theorem cnt_len {α:Type} (k:Int) (xs:List α):(cnt k xs).length≤xs.length:=by
 unfold cnt;split;exact Nat.le_refl _;split;rw [List.length_take];omega;exact Nat.zero_le _
def zc6 (lim:Int):List (Int→Int)→Int→Int
  | [],n=>n
  | s :: ss,n=>if n≤lim then zc6 lim ss (n+s (lim - n)) else n
def za1.size (f:za1):Int→Int:=f.fold fun k _ _ ss lim=>zc6 lim (cnt k ss) 1
theorem za1.size_eq (f:za1) (lim:Int):f.size lim=zc6 lim ((cnt f.kind f.kids).map za1.size) 1:=by
 have:=congrFun (za1.fold_eq (fun k _ _ (ss:List (Int→Int)) lim=>zc6 lim (cnt k ss) 1) f) lim
 rw [zdo] at this;exact this
theorem sizeGo_bd {lim:Int}:∀ (ss:List (Int→Int)) (n:Int),(∀ s ∈ ss,∀ l,0≤l→1≤s l∧s l≤l+1)→1≤n→n≤lim+1→1≤zc6 lim ss n∧zc6 lim ss n≤lim+1
 | [],n,_,h1,h2=>⟨h1,h2⟩
 | s :: ss,n,h,h1,h2=>by
  unfold zc6
  split
  ·rename_i hn
   have:=h s (by simp) (lim - n) (by omega)
   exact sizeGo_bd ss _ (fun t ht=>h t (by simp [ht])) (by omega) (by omega)
  ·exact ⟨h1,h2⟩
theorem za1.size_bd (f:za1):∀ lim:Int,0≤lim→1≤f.size lim∧f.size lim≤lim+1 :=
 za1.ind (P:=fun f=>∀ lim:Int,0≤lim→1≤f.size lim∧f.size lim≤lim+1) (fun k r ks ih lim hl=>by
  rw [za1.size_eq]
  refine sizeGo_bd _ _ (fun s hs=>?_) (by omega) (by omega)
  obtain ⟨g,hg,rfl⟩:=List.mem_map.1 hs
  exact ih g (zbx hg)) f
theorem sizeGo_at {lim n:Int} {ss:List (Int→Int)} {j:Nat} {s:Int→Int} (h:ss[j]?=some s) (hn:n≤lim):zc6 lim (ss.drop j) n=zc6 lim (ss.drop (j+1)) (n+s (lim - n)):=by
 obtain ⟨hj,rfl⟩:=List.getElem?_eq_some_iff.1 h
 rw [List.drop_eq_getElem_cons hj,zc6,if_pos hn]
theorem sizeGo_out {lim n:Int} {ss:List (Int→Int)} (h:¬ n≤lim∨ss=[]):zc6 lim ss n=n:=by
 cases ss with
 | nil=>rfl
 | cons s ss=>rw [zc6,if_neg (h.resolve_right (by simp))]
def zfl (L:Int) (r:zab):Bool:=decide ((r.t.parts.length:Int)≤20) && decide ((r.t.k.abs.length:Int)≤L) && r.t.parts.all fun p=>decide ((p.c.abs.length:Int)≤L)
def za1.few (L:Int) (f:za1):Bool:=f.fold fun k r _ bs=>(!(k == 2) || zfl L r) && (cnt k bs).all id
theorem za1.few_eq (L:Int) (f:za1):f.few L=((!(f.kind == 2) || zfl L f.r) && (cnt f.kind f.kids).all (za1.few L)):=by
 have:=za1.fold_eq (fun k r _ (bs:List Bool)=>(!(k == 2) || zfl L r) && (cnt k bs).all id) f
 rw [zdo,List.all_map] at this;exact this
def fewF (f:za1) (most L:Int):Bool:=!decide (f.size most>most) && f.few L
def zan (vs:List ZI) (r:zab):Bool:=if r.eq=true then sgn (zdr r.t vs) == 0 else decide (sgn (zdr r.t vs)≥0)
def za1.holds (vs:List ZI) (f:za1):Bool:=f.fold fun k r _ bs=>if k=0 then true else if k=2 then zan vs r else if k=3 then (match bs with | []=>false | b :: _=>!b) else if k=4 then bs.all id else if k=5 then bs.any id else false
theorem za1.holds_eq (vs:List ZI) (f:za1):f.holds vs=if f.kind=0 then true else if f.kind=2 then zan vs f.r else if f.kind=3 then (match f.kids with | []=>false | g :: _=>!g.holds vs) else if f.kind=4 then f.kids.all (za1.holds vs) else if f.kind=5 then f.kids.any (za1.holds vs) else false:=by
 have:=za1.fold_eq (fun k r _ (bs:List Bool)=>if k=0 then true else if k=2 then zan vs r else if k=3 then (match bs with | []=>false | b :: _=>!b) else if k=4 then bs.all id else if k=5 then bs.any id else false) f
 rw [List.all_map,List.any_map] at this
 refine this.trans ?_
 cases f.kids <;> rfl
def TokR (L:Nat) (r:zab):Prop:=TOk 20 L r.t
def za1.ok (L:Nat) (f:za1):Prop:=f.fold fun k r _ ps=>(k=2→TokR L r)∧∀ p ∈ cnt k ps,p
theorem za1.ok_eq (L:Nat) (f:za1):f.ok L ↔ (f.kind=2→TokR L f.r)∧∀ g ∈ cnt f.kind f.kids,g.ok L:=by
 have:=za1.fold_eq (fun k r _ (ps:List Prop)=>(k=2→TokR L r)∧∀ p ∈ cnt k ps,p) f
 rw [zdo] at this
 unfold za1.ok
 rw [this]
 refine and_congr_right fun _=>⟨fun h g hg=>h _ (List.mem_map.2 ⟨g,hg,rfl⟩),fun h p hp=>?_⟩
 obtain ⟨g,hg,rfl⟩:=List.mem_map.1 hp
 exact h g hg
def za1.lb (f:za1):Prop:=f.fold fun _ r ks ps=>(TLb r.t∧ks.length≤9223372036854775807)∧∀ p ∈ ps,p
theorem za1.lb_eq (f:za1):f.lb ↔ (TLb f.r.t∧f.kids.length≤9223372036854775807)∧∀ g ∈ f.kids,g.lb:=by
 have:=za1.fold_eq (fun _ r ks (ps:List Prop)=>(TLb r.t∧ks.length≤9223372036854775807)∧∀ p ∈ ps,p) f
 unfold za1.lb
 rw [this]
 refine and_congr_right fun _=>⟨fun h g hg=>h _ (List.mem_map.2 ⟨g,hg,rfl⟩),fun h p hp=>?_⟩
 obtain ⟨g,hg,rfl⟩:=List.mem_map.1 hp
 exact h g hg
theorem fewR_ok {L:Nat} {r:zab} (h:zfl L r=true) (hl:TLb r.t):TokR L r:=by
 simp only [zfl,Bool.and_eq_true,decide_eq_true_eq,List.all_eq_true] at h
 exact ⟨by omega,fun p hp=>⟨hl.2 p hp,by have:=h.2 p hp;omega⟩,hl.1,by omega⟩
theorem za1.few_ok {L:Nat} (f:za1):f.few L=true→f.lb→f.ok L :=
 za1.ind (P:=fun f=>f.few L=true→f.lb→f.ok L) (fun k r ks ih h hl=>by
  rw [za1.few_eq,Bool.and_eq_true] at h
  rw [za1.lb_eq] at hl
  rw [za1.ok_eq]
  refine ⟨fun hk=>fewR_ok (by have:=h.1;rw [show ((za1.mk k r ks).kind == 2)=true from by rw [hk];rfl] at this;simpa using this) hl.1.1,fun g hg=>ih g (zbx hg) (List.all_eq_true.1 h.2 g hg) (hl.2 g (zbx hg))⟩) f
set_option maxHeartbeats 4000000 in
theorem SKids (f:za1) :Fn Tryz.prog 89 [] [(vF f)] (vFs (cnt f.kind f.kids)) []:=by
 refine Fn.body Tryz.func89 rfl 26 rfl fun w H B a h=>?_
 refine rq za0 0 [] [(1,vp 0 0),(2,.t (.c (.d (.raw za6))))] [(0,.box (zF f))] h ?_;clear h;intro a w h
 refine wp_seq ?_
 rcases Bool.eq_false_or_eq_true (f.kind == 4) with hc | hc
 ·have hc1:=hc;clear hc
  have hc1':=hc1;(try simp at hc1')
  refine rq za0 1 [(2,.cmp (op := .eql) (m:=f.kind) (n:=4) (b:=true) .i64 hc1)] [(1,vp 0 0),(2,.t (.c (.d (.raw za6)))),(10,vb true)] [(0,.box (zF f))] h ?_;clear h;intro a w h
  refine zaa true h rfl (fun hc=>?_) (fun hc=>?_)
  ·clear hc
   refine rq za0 1 [] [(1,vp 0 0),(2,(vFs f.kids))] [(0,.box (zF f))] h ?_;clear h;intro a w h
   refine wp_ret (za9 ?_)
   refine zap [.c (cFs f.kids)] h Exit.ret (.inl rfl)  rfl ⟨RV.tmp _ _ rfl,trivial⟩ ?_
   have p4: f.kind=4:=by have:=hc1;simpa using this
   have hz:(cnt f.kind f.kids)=f.kids:=by unfold cnt;rw [if_pos (by omega)]
   rw [hz];first | done | rfl
  ·cases hc
 ·have hc2:=hc;clear hc
  have hc2':=hc2;(try simp at hc2')
  refine rq za0 1 [(2,.cmp (op := .eql) (m:=f.kind) (n:=4) (b:=false) .i64 hc2)] [(1,vp 0 0),(2,.t (.c (.d (.raw za6)))),(10,vb (f.kind == 5))] [(0,.box (zF f))] h ?_;clear h;intro a w h
  refine zaa (f.kind == 5) h rfl (fun hc=>?_) (fun hc=>?_)
  ·have hc3:=hc;clear hc
   have hc3':=hc3;(try simp at hc3')
   refine rq za0 1 [] [(1,vp 0 0),(2,(vFs f.kids))] [(0,.box (zF f))] h ?_;clear h;intro a w h
   refine wp_ret (za9 ?_)
   refine zap [.c (cFs f.kids)] h Exit.ret (.inl rfl)  rfl ⟨RV.tmp _ _ rfl,trivial⟩ ?_
   have p4:¬ f.kind=4:=by have:=hc2;simpa using this
   have p5: f.kind=5:=by have:=hc3;simpa using this
   have hz:(cnt f.kind f.kids)=f.kids:=by unfold cnt;rw [if_pos (by omega)]
   rw [hz];first | done | rfl
  ·have hc4:=hc;clear hc
   have hc4':=hc4;(try simp at hc4')
   refine wp_skip (za4 (wp_seq ?_))
   rcases Bool.eq_false_or_eq_true (f.kind == 3) with hc | hc
   ·have hc5:=hc;clear hc
    have hc5':=hc5;(try simp at hc5')
    refine rq za0 1 [(2,.cmp (op := .eql) (m:=f.kind) (n:=3) (b:=true) .i64 hc5),(6,.len (c:=(cFs f.kids)) (n:=f.kids.length) (zae _ _ _))] [(1,vp 0 0),(2,.t (.c (.d (.raw za6)))),(21,vb (decide ((f.kids.length:Int)>0)))] [(0,.box (zF f))] h ?_;clear h;intro a w h
    refine zaa (decide ((f.kids.length:Int)>0)) h rfl (fun hc=>?_) (fun hc=>?_)
    ·have hc6:=hc;clear hc
     have hc6':=of_decide_eq_true hc6
     refine rq za0 1 [(2,.gen _ _ _ fun _ _ _ _=>Op.sliceD (d:=24) (t:=23) (l:=0) (h:=1) (rows:=f.kids.map za1.d) (rows':=(f.kids.take 1).map za1.d) kb_0 (BO.no _) (BO.yes _ (OV.const (.int .i64 1) rfl)) (by first | omega | (simp at *;omega)) (by first | omega | (simp only [List.length_map];omega) | (simp at *;omega)) (by simp [List.map_take]))] [(2,(vFs (f.kids.take 1)))] [] h ?_;clear h;intro a w h
     refine wp_ret (za9 ?_)
     refine zap [.c (cFs (f.kids.take 1))] h Exit.ret (.inl rfl)  rfl ⟨RV.tmp _ _ rfl,trivial⟩ ?_
     have p4:¬ f.kind=4:=by have:=hc2;simpa using this
     have p5:¬ f.kind=5:=by have:=hc4;simpa using this
     have p3: f.kind=3:=by have:=hc5;simpa using this
     have hz:(cnt f.kind f.kids)=(f.kids.take 1):=by unfold cnt;rw [if_neg (by omega),if_pos (by omega)]
     rw [hz];first | done | rfl
    ·have hc7:=hc;clear hc
     have hc7':=of_decide_eq_false hc7
     refine wp_skip (za4 (rq za0 1 [(0,.gen _ _ _ fun _ _ _ _=>Op.buildED (d:=25) kb_1)] [(2,(vFs []))] [] h ?_));clear h;intro a w h
     refine wp_ret ?_
     refine zap [.c (cFs [])] h Exit.ret (.inl rfl)  rfl ⟨RV.tmp _ _ rfl,trivial⟩ ?_
     have p4:¬ f.kind=4:=by have:=hc2;simpa using this
     have p5:¬ f.kind=5:=by have:=hc4;simpa using this
     have p3: f.kind=3:=by have:=hc5;simpa using this
     have hz:(cnt f.kind f.kids)=[]:=by unfold cnt;rw [if_neg (by omega),if_pos (by omega),List.length_eq_zero_iff.1 (show f.kids.length=0 by have:=of_decide_eq_false hc7;omega)];rfl
     rw [hz];first | done | rfl
   ·have hc8:=hc;clear hc
    have hc8':=hc8;(try simp at hc8')
    refine rq za0 1 [(2,.cmp (op := .eql) (m:=f.kind) (n:=3) (b:=false) .i64 hc8)] [(1,vp 0 0),(2,.t (.c (.d (.raw za6)))),(21,vb false)] [(0,.box (zF f))] h ?_;clear h;intro a w h
    refine zaa false h rfl (fun hc=>?_) (fun hc=>?_)
    ·cases hc
    ·clear hc
     refine wp_skip (za4 (rq za0 1 [(0,.gen _ _ _ fun _ _ _ _=>Op.buildED (d:=25) kb_1)] [(2,(vFs []))] [] h ?_));clear h;intro a w h
     refine wp_ret ?_
     refine zap [.c (cFs [])] h Exit.ret (.inl rfl)  rfl ⟨RV.tmp _ _ rfl,trivial⟩ ?_
     have p4:¬ f.kind=4:=by have:=hc2;simpa using this
     have p5:¬ f.kind=5:=by have:=hc4;simpa using this
     have p3:¬ f.kind=3:=by have:=hc8;simpa using this
     have hz:(cnt f.kind f.kids)=[]:=by unfold cnt;rw [if_neg (by omega),if_neg (by omega)]
     rw [hz];first | done | rfl
end
section
open Go.RowKit

theorem St.pubK {w0:World} {H0:Im} {B0:Bl} {K:List Nat} {N:Nat} {f:F} {a:Act} {w:World} (h:St ⟨w0,H0,B0,K,N⟩ f a w) (n es:Nat) (ty:TypeId) (rows:List (List D)) (hl:f.l n=some (.row ty es rows)) (hK:∀ k ∈ K,k≠n∧∃ l,f.l k=some l)
  (h1:∀ t v,f.s t=some v→∀ k ∈ v.owns n,k=rows.length) (h2:∀ m l,f.l m=some l→∀ k ∈ l.owns n,k=rows.length):St ⟨w0,H0,B0,K,N⟩ (f.pub n es rows) a w:=by
 obtain ⟨H,B,hok⟩:=h
 have hLR:=hok.loc n _ hl
 -- what stays from here on
 obtain ⟨H', hle,hH', hcell⟩:∃ H':Im,Le H H'∧(∀ b o,H' b=some o→H b=some o∨(w.heap[b]?=some o∧∃ c,B n=some (b,c))) ∧
   (∀ (x:C) (v:Value),(∀ k ∈ x.owns n,k=rows.length)→CR H B x v→CR H' B (x.pub n es rows) v):=by
  have keepC:∀ {H':Im} (hle:Le H H'),(∀ v,CR H B (.own n rows.length) v→DR H' (.sl es rows) v)→∀ (x:C) (v:Value),(∀ k ∈ x.owns n,k=rows.length)→CR H B x v→CR H' B (x.pub n es rows) v:=by
   intro H' hle hown x v hk hx
   cases x with
   | own m k =>
    simp only [C.pub]
    split
    ·rename_i e1
     have e1:=Nat.eq_of_beq_eq_true e1
     subst e1
     have:=hk k (by simp [C.owns])
     subst this
     exact hown v hx
    ·exact CR.mono hle (fun _ _=>rfl) hx
   | ptr m o =>
    simp only [C.pub]
    split
    ·exact CR.flat hx
    ·exact CR.mono hle (fun _ _=>rfl) hx
   | sub m o k =>
    simp only [C.pub]
    split
    ·exact CR.flat hx
    ·exact CR.mono hle (fun _ _=>rfl) hx
   | d x=>exact CR.mono hle (fun _ _=>rfl) hx
   | el x=>exact CR.mono hle (fun _ _=>rfl) hx
   | fn f' x y=>exact CR.mono hle (fun _ _=>rfl) hx
   | any=>exact hx
  cases hB:B n with
  | none =>
   simp only [LR,hB] at hLR
   subst hLR
   refine ⟨H,Le.refl _,fun b o h => .inl h,keepC (Le.refl _) fun v hv=>?_⟩
   simp only [CR,hB] at hv
   obtain ⟨_,ao,hv⟩:=hv
   rw [hv]
   exact .nil es ao 0 (fun _=>rfl) (Nat.zero_le _)
  | some p =>
   obtain ⟨b,c⟩:=p
   obtain ⟨arr,g1,g2,g3,g4,g5,g6⟩:=hok.row hl hB
   have hnone:=(hok.priv n _ b c hl hB).2.1
   have hle:Le H (fun x=>if x=b then some (.cells ⟨arr⟩ ty (0,0)) else H x):=by
    intro x o hx
    have:x≠b:=fun e=>by rw [e,hnone] at hx;cases hx
    simp [this,hx]
   refine ⟨fun x=>if x=b then some (.cells ⟨arr⟩ ty (0,0)) else H x,hle,?_,keepC hle fun v hv=>?_⟩
   ·intro x o hx
    by_cases e:x=b
    ·subst e
     simp only [if_true] at hx
     exact .inr ⟨by rw [g1];exact hx,c,rfl⟩
    ·simp [e] at hx;exact .inl hx
   ·simp only [CR,hB] at hv
    rw [hv]
    exact row_data (arr:=arr) (ty:=ty) (if_pos rfl) g3 g4 g5 fun i r hr f' x hx=>by
     obtain ⟨u,k1,k2⟩:=g6 i r hr f' x hx
     exact ⟨u,k1,k2.mono hle⟩
 have hT:∀ (x:T) (v:Value),(∀ k ∈ x.owns n,k=rows.length)→TR H B x v→TR H' B (x.pub n es rows) v:=by
  intro x v hk hx
  cases x with
  | c x=>exact hcell x v hk hx
  | agg cs =>
   obtain ⟨vs,hv,hx⟩:=hx
   refine ⟨vs,hv,zb3.iff.2 ⟨by rw [List.length_map];exact hx.length,fun j a' b' ha hb=>?_⟩⟩
   rw [List.getElem?_map] at ha
   cases hj:cs[j]? with
   | none=>rw [hj] at ha;cases ha
   | some y =>
    rw [hj] at ha
    injection ha with ha
    subst ha
    exact hcell y b' (fun k hk2=>hk k (by simp only [T.owns,List.mem_flatMap];exact ⟨y,List.mem_of_getElem? hj,hk2⟩)) ((zb3.iff.1 hx).2 j y b' hj hb)
 refine ⟨H', B,hok.df,hok.n,hok.ext,?_,?_,?_,?_,?_,?_,hok.le.trans hle,hok.keep⟩
 ·intro b o hb
  rcases hH' b o hb with h' | ⟨h', _⟩
  ·exact hok.sat b o h'
  ·exact h'
 ·intro t v hv
  simp only [F.pub,Option.map_eq_some_iff] at hv
  obtain ⟨x,hx,rfl⟩:=hv
  have hR:=hok.slot t x hx
  have hk:=h1 t x hx
  cases x with
  | t x=>exact hT x _ hk hR
  | tup xs =>
   obtain ⟨vs,hv,hx2⟩:=hR
   refine ⟨vs,hv,zb3.iff.2 ⟨by rw [List.length_map];exact hx2.length,fun j a' b' ha hb=>?_⟩⟩
   rw [List.getElem?_map] at ha
   cases hj:xs[j]? with
   | none=>rw [hj] at ha;cases ha
   | some y =>
    rw [hj] at ha
    injection ha with ha
    subst ha
    exact hT y b' (fun k hk2=>hk k (by simp only [V.owns,List.mem_flatMap];exact ⟨y,List.mem_of_getElem? hj,hk2⟩)) ((zb3.iff.1 hx2).2 j y b' hj hb)
 ·intro m l hm
  simp only [F.pub] at hm
  split at hm
  ·cases hm
  ·simp only [Option.map_eq_some_iff] at hm
   obtain ⟨x,hx,rfl⟩:=hm
   have hR:=hok.loc m x hx
   have hk:=h2 m x hx
   cases x with
   | box cs =>
    obtain ⟨b,c,arr,ty', hb,hc,hx2⟩:=hR
    refine ⟨b,c,arr,ty', hb,hc,zb3.iff.2 ⟨by rw [List.length_map];exact hx2.length,fun j a' b' ha hb=>?_⟩⟩
    rw [List.getElem?_map] at ha
    cases hj:cs[j]? with
    | none=>rw [hj] at ha;cases ha
    | some y =>
     rw [hj] at ha
     injection ha with ha
     subst ha
     exact hcell y b' (fun k hk2=>hk k (by simp only [L.owns,List.mem_flatMap];exact ⟨y,List.mem_of_getElem? hj,hk2⟩)) ((zb3.iff.1 hx2).2 j y b' hj hb)
   | row ty' es' rows'=>exact LR.mono hle rfl (fun _ _=>rfl) (fun _ _ _=>rfl) hR
   | bld ty' c' =>
    obtain ⟨b,k,v1,v2,hb,hc,g1,g0,g2⟩:=hR
    exact ⟨b,k,v1,v2,hb,hc,g1,g0,hcell c' v2 (fun k hk2=>hk k hk2) g2⟩
 ·intro m l b c hm hb
  simp only [F.pub] at hm
  split at hm
  ·cases hm
  ·rename_i hne
   simp only [Option.map_eq_some_iff] at hm
   obtain ⟨x,hx,rfl⟩:=hm
   obtain ⟨p1,p2,p3⟩:=hok.priv m x b c hx hb
   refine ⟨p1,?_,p3⟩
   cases hq:H' b with
   | none=>rfl
   | some o =>
    rcases hH' b o hq with h' | ⟨_,c', h'⟩
    ·rw [p2] at h';cases h'
    ·have:=hok.inj m n x _ b c c' hx hl hb h'
     subst this
     simp at hne
 ·intro m k l l' b c c' hm hk hb hb'
  simp only [F.pub] at hm hk
  split at hm
  ·cases hm
  ·split at hk
   ·cases hk
   ·simp only [Option.map_eq_some_iff] at hm hk
    obtain ⟨x,hx,_⟩:=hm
    obtain ⟨y,hy,_⟩:=hk
    exact hok.inj m k x y b c c' hx hy hb hb'
 ·intro b hb
  cases hq:H' b with
  | none =>
   rw [← hok.low b hb]
   cases hr:H b with
   | none=>rfl
   | some o=>rw [hle b o hr] at hq;cases hq
  | some o =>
   rcases hH' b o hq with h' | ⟨_,c', h'⟩
   ·rw [← hok.low b hb,h']
   ·rcases (hok.priv n _ b c' hl h').2.2 with ⟨m,hm,c9,hc9⟩ | h3
    ·obtain ⟨k1,l9,k2⟩:=hK m hm
     exact absurd (hok.inj m n l9 _ b c9 c' k2 hl (by rw [hok.keep m hm];exact hc9) h') k1
    ·exact absurd hb (by simpa using h3)
section
variable {w0:World} {H0:Im} {B0:Bl} {K:List Nat} {N:Nat} {sl:List (Nat × V)} {lc:List (Nat × L)} {a:Act} {w:World}
def keepK (K:List Nat) (n:Nat) (lc:List (Nat × L)):Bool:=K.all fun k=>!Nat.beq k n && (lc.lookup k).isSome
theorem pubSK (n es:Nat) (ty:TypeId) (rows:List (List D)) (sl':List (Nat × V)) (lc':List (Nat × L)) (h:St ⟨w0,H0,B0,K,N⟩ (F.of sl lc) a w) (hl:lc.lookup n=some (.row ty es rows)) (hk:keepK K n lc=true)
  (h1:zc5 rows.length (sl.flatMap (·.2.owns n))) (h2:zc5 rows.length (lc.flatMap (·.2.owns n))) (h3:leS ((F.of sl lc).pub n es rows) sl'=sl'.map fun p=>some p.2:=by kernel_rfl) (h4:leN ((F.of sl lc).pub n es rows) lc'=lc'.map fun p=>some p.2:=by kernel_rfl) :
  St ⟨w0,H0,B0,K,N⟩ (F.of sl' lc') a w :=
 (h.pubK n es ty rows hl (fun k hk2=>by
  have:=List.all_eq_true.1 hk k hk2
  simp only [Bool.and_eq_true,Bool.not_eq_true'] at this
  refine And.intro (fun e=>?_) ?_
  ·rw [e,Nat.beq_refl] at this
   exact absurd this.1 (by decide)
  ·exact Option.isSome_iff_exists.1 this.2) (fun t v hv k hk=>zc5.mem h1 k (List.mem_flatMap.2 ⟨(t,v),ofS_mem hv,hk⟩)) (fun m l hm k hk=>zc5.mem h2 k (List.mem_flatMap.2 ⟨(m,l),ofL_mem hm,hk⟩))).weaken (zh6 h3 h4)
end
section
variable {P:Program}
theorem Op.appOO {d t u n n' sn len len2 len' es bs:Nat} {rows rows2 rows':List (List D)} {xt el ty:TypeId} {pos af gd} (hT:ElT P xt el es bs) (hlen:len=rows.length) (hlen2:len2=rows2.length) (hlen':len'=len+rows2.length) (hrow:rows++rows2=rows')
  (hb:(len+rows2.length)*bs≤140737488355328) :
  zb9 P ⟨some d,.call { callee := .builtin .append,args:=#[.tmp t,.tmp u],argTypes:=#[xt,xt] }, ty,pos,af,gd⟩
   { rs:=[(t,.t (.c (.own n len))),(u,.t (.c (.own sn len2)))],rl:=[(n,.row el es rows),(sn,.row el es rows2)],ws:=[(d,some (.t (.c (.own n' len'))))],wl:=[(n', some (.row el es rows')),(n,none)],nw:=[n'] }:=by
 rintro e f a w Q ⟨H,B,hok⟩ hr hnw hb0
 subst hlen hlen2 hlen' hrow
 have hnew:=hnw n' (by simp)
 have hl:=hr.2 (n,.row el es rows) (by simp)
 have h1:CR H B (.own n rows.length) (a.eval (.tmp t)):=hok.slot t _ (hr.1 (t,.t (.c (.own n rows.length))) (by simp))
 have hl2:=hr.2 (sn,.row el es rows2) (by simp)
 have h2:CR H B (.own sn rows2.length) (a.eval (.tmp u)):=hok.slot u _ (hr.1 (u,.t (.c (.own sn rows2.length))) (by simp))
 have hes2:∀ r ∈ rows2,r.length=es:=by
  cases hB:B sn with
  | none=>have:=hok.loc sn _ hl2;simp only [LR,hB] at this;rw [this];intro r hr;cases hr
  | some q=>obtain ⟨_,_,_,_,_,g5,_⟩:=hok.row hl2 hB;exact g5
 have hsrc:(rows2=[]∧∃ ao c,a.eval (.tmp u) = .slice ao 0 c)∨(0<rows2.length∧∃ b c news,a.eval (.tmp u) = .slice (some ⟨b,0,none⟩) rows2.length c∧news.length=rows2.length*es∧(∀ j u,news[j]?=some u→w.cell? ((⟨b,0,none⟩:Addr).add j)=some u)∧RowAt H news es rows2∧(∀ u ∈ news,u.oneCell'=true)):=by
  simp only [CR] at h2
  cases hB:B sn with
  | none=>rw [hB] at h2;obtain ⟨h3,ao,h4⟩:=h2;exact .inl ⟨List.length_eq_zero_iff.1 h3,ao,0,h4⟩
  | some q =>
   obtain ⟨b,c⟩:=q
   rw [hB] at h2
   obtain ⟨arr,g1,g2,g3,g4,g5,g6⟩:=hok.row hl2 hB
   by_cases hz0:rows2.length=0
   ·exact .inl ⟨List.length_eq_zero_iff.1 hz0,_,c,by rw [h2,hz0]⟩
   ·have hle:rows2.length*es≤c*es:=Nat.mul_le_mul_right _ g3
    refine .inr ⟨by omega,b,c,arr.take (rows2.length*es),h2,by rw [List.length_take];omega,fun j u hu=>?_,fun i r hri f x hx2=>?_,fun u hu=>?_⟩
    ·rw [List.getElem?_take] at hu
     split at hu
     ·rw [Addr.add_mid,Nat.zero_add];simp [World.cell?, g1,hu]
     ·cases hu
    ·obtain ⟨u,k1,k2⟩:=g6 i r hri f x hx2
     refine ⟨u,?_,k2⟩
     have hi2:=(List.getElem?_eq_some_iff.1 hri).1
     have hf2:=(List.getElem?_eq_some_iff.1 hx2).1
     rw [g5 r (List.mem_of_getElem? hri)] at hf2
     have:(i+1)*es≤rows2.length*es:=Nat.mul_le_mul_right _ hi2
     rw [Nat.add_mul] at this
     rw [List.getElem?_take,if_pos (by omega)];exact k1
    ·obtain ⟨j,hj⟩:=List.mem_iff_getElem?.1 hu
     have hj1:=(List.getElem?_eq_some_iff.1 hj).1
     rw [List.length_take] at hj1
     have hes0:0<es:=Nat.pos_of_ne_zero fun e=>by simp [e] at hj1
     have h5:j / es<rows2.length:=Nat.div_lt_of_lt_mul (by rw [Nat.mul_comm];omega)
     have h6:j % es<es:=Nat.mod_lt _ hes0
     have h7:(rows2[j / es]'h5).length=es:=g5 _ (List.getElem_mem h5)
     obtain ⟨u2,k1,k2⟩:=g6 (j / es) _ (List.getElem?_eq_getElem h5) (j % es) _ (List.getElem?_eq_getElem (by rw [h7];exact h6))
     have h8:j / es*es+j % es=j:=by rw [Nat.mul_comm];exact Nat.div_add_mod j es
     rw [h8] at k1
     rw [List.getElem?_take,if_pos (by omega),k1] at hj
     injection hj with hj
     subst hj
     exact zg2 (DR.flat k2)
 obtain ⟨i,z,hi,hz,hsz,hby,hzs⟩:=hT.ex
 have hne:n≠n':=fun e=>by have:=hnew.2.1;rw [← e,hl] at this;cases this
 have hlr:=hok.loc n _ hl
 have hml:rows.length+rows2.length≤maxLen:=by
  have:(rows.length+rows2.length)*1≤(rows.length+rows2.length)*bs:=Nat.mul_le_mul_left _ hT.bpos
  simp only [maxLen];omega
 -- the run, the new block
 have main:∃ v w' p,(Builtin.append_ #[xt,xt] ty #[a.eval (.tmp t),a.eval (.tmp u)]).run P w = .ok v w'∧CR H (fun x=>if x=n' then p else B x) (.own n' (rows.length+rows2.length)) v ∧
   LR H (fun x=>if x=n' then p else B x) w' n' (.row el es (rows++rows2))∧w'.os=w.os∧w'.tape=w.tape∧w'.output=w.output∧w.heap.size≤w'.heap.size∧(∀ k,k<w.heap.size→(∀ c,B n≠some (k,c))→w'.heap[k]?=w.heap[k]?) ∧
   (∀ b c,p=some (b,c)→b<w'.heap.size∧((∃ c', B n=some (b,c'))∨w.heap.size≤b)):=by
  generalize a.eval (.tmp t)=vt at h1
  generalize a.eval (.tmp u)=vu at hsrc
  -- nothing is added
  have empty:∀ ao c,rows2=[]→∃ v w' p,(Builtin.append_ #[xt,xt] ty #[vt,.slice ao 0 c]).run P w = .ok v w'∧CR H (fun x=>if x=n' then p else B x) (.own n' (rows.length+rows2.length)) v ∧
    LR H (fun x=>if x=n' then p else B x) w' n' (.row el es (rows++rows2))∧w'.os=w.os∧w'.tape=w.tape∧w'.output=w.output∧w.heap.size≤w'.heap.size∧(∀ k,k<w.heap.size→(∀ c,B n≠some (k,c))→w'.heap[k]?=w.heap[k]?) ∧
    (∀ b c,p=some (b,c)→b<w'.heap.size∧((∃ c', B n=some (b,c'))∨w.heap.size≤b)):=by
   rintro ao c rfl
   have hrun:∀ base m cap,m≤cap→(Builtin.append_ #[xt,xt] ty #[.slice base m cap,.slice ao 0 c]).run P w = .ok (.slice base m cap) w:=by
    intro base m cap hmc
    cases ao <;> cases base <;> simp [Builtin.append_,run_underlying hT.hu,sizeOf,typeInfo,hi,Builtin.lenOf,hmc,Builtin.firstCells,loadCells,loadCellsFrom,storeCells]
   refine ⟨vt,w,B n,?_,?_,?_,rfl,rfl,rfl,Nat.le_refl _,fun _ _ _=>rfl,fun b c hb=>⟨(hok.priv n _ b c hl hb).1,.inl ⟨c,hb⟩⟩⟩
   ·simp only [CR] at h1
    cases hB:B n with
    | none=>rw [hB] at h1;obtain ⟨_,ao0,h1⟩:=h1;rw [h1];exact hrun ao0 0 0 (Nat.le_refl _)
    | some q =>
     obtain ⟨b,cc⟩:=q
     rw [hB] at h1
     obtain ⟨arr,g1,g2,g3,g4,g5,g6⟩:=hok.row hl hB
     rw [h1];exact hrun _ _ _ g3
   ·simp only [CR,if_true,List.length_nil,Nat.add_zero] at h1 ⊢;exact h1
   ·simp only [LR,if_true,List.append_nil] at hlr ⊢;exact hlr
  rcases hsrc with ⟨hz0,ao,c,rfl⟩ | ⟨hp,b,c,news,rfl,n1,n2,n3,n4⟩
  ·exact empty ao c hz0
  ·obtain ⟨vt0,hvt0,hblk,hown⟩:∃ vt0,(Builtin.append_ #[xt,xt] ty #[vt,.slice (some ⟨b,0,none⟩) rows2.length c]).run P w=(Builtin.append_ #[xt,xt] ty #[vt0,.slice (some ⟨b,0,none⟩) rows2.length c]).run P w∧vt0.ownBlock=(B n).map (·.1)∧∃ xs,w.ownsRow 0 el es vt0 rows.length xs∧RowAt H xs es rows:=by
    simp only [CR] at h1
    cases hB:B n with
    | none =>
     simp only [LR,hB] at hlr
     rw [hB] at h1
     subst hlr
     obtain ⟨_,ao0,rfl⟩:=h1
     refine ⟨.slice none 0 0,?_,rfl,[],⟨by simp,.inl ⟨rfl,rfl⟩⟩,fun i r hr=>by simp at hr⟩
     cases ao0 with
     | none=>rfl
     | some a0=>exact zh2 hT.hu hi hz hsz a0 n1 n2 hp (by simpa using hml) (by rw [hby];simpa using hb)
    | some q =>
     obtain ⟨b2,cc⟩:=q
     rw [hB] at h1
     obtain ⟨arr2,g1,g2,g3,g4,g5,g6⟩:=hok.row hl hB
     have hle:rows.length*es≤cc*es:=Nat.mul_le_mul_right _ g3
     refine ⟨vt,rfl,by rw [h1];rfl,arr2.take (rows.length*es),⟨by rw [List.length_take];omega,.inr ⟨b2,cc,⟨arr2⟩,h1,Nat.zero_le _,g1,g3,g4,by simpa using g2,rfl⟩⟩,?_⟩
     intro i r hri f x hx2
     obtain ⟨u,k1,k2⟩:=g6 i r hri f x hx2
     refine ⟨u,?_,k2⟩
     have hi2:=(List.getElem?_eq_some_iff.1 hri).1
     have hf2:=(List.getElem?_eq_some_iff.1 hx2).1
     rw [g5 r (List.mem_of_getElem? hri)] at hf2
     have:(i+1)*es≤rows.length*es:=Nat.mul_le_mul_right _ hi2
     rw [Nat.add_mul] at this
     rw [List.getElem?_take,if_pos (by omega)];exact k1
   obtain ⟨xs,hown,hxs⟩:=hown
   obtain ⟨v', w', r1,r2,r3,r4⟩:=run_append_own (P:=P) w 0 xt ty el i z es bs hT.hu hi hz hsz hby hzs hT.pos vt0 rows.length xs hown ⟨b,0,none⟩ rows2.length c news n1 n2 n4 hml hb (Nat.zero_le _)
   have hall:∀ r ∈ rows++rows2,r.length=es:=by
    intro r hr2
    rcases List.mem_append.1 hr2 with h' | h'
    ·cases hB:B n with
     | none=>simp only [LR,hB] at hlr;rw [hlr] at h';cases h'
     | some q=>obtain ⟨_,_,_,_,_,g5,_⟩:=hok.row hl hB;exact g5 r h'
    ·exact hes2 r h'
   have hboth:RowAt H (xs++news) es (rows++rows2):=by
    intro i2 r hri f x hx2
    by_cases hlt:i2<rows.length
    ·rw [List.getElem?_append_left hlt] at hri
     obtain ⟨u,k1,k2⟩:=hxs i2 r hri f x hx2
     exact ⟨u,by rw [List.getElem?_append_left (List.getElem?_eq_some_iff.1 k1).1];exact k1,k2⟩
    ·rw [List.getElem?_append_right (by omega)] at hri
     obtain ⟨u,k1,k2⟩:=n3 _ r hri f x hx2
     refine ⟨u,?_,k2⟩
     have hq:rows.length*es≤i2*es:=Nat.mul_le_mul_right _ (by omega)
     rw [List.getElem?_append_right (by rw [hown.1];omega),hown.1,← k1]
     congr 1
     rw [Nat.sub_mul];omega
   obtain ⟨q1,q2⟩:=r2
   have hkk:∀ k,k<w.heap.size→(∀ c,B n≠some (k,c))→w'.heap[k]?=w.heap[k]?:=by
    intro k hk hnk
    refine r3.block k hk ?_
    rw [hblk]
    intro e1
    cases hB:B n with
    | none=>rw [hB] at e1;cases e1
    | some q=>obtain ⟨b2,cc⟩:=q;rw [hB] at e1;simp at e1;exact hnk cc (by rw [hB,e1])
   rcases q2 with ⟨_,hn0⟩ | ⟨g,cap,cur,rfl,_,k2,k3,k4,k5,k6⟩
   ·omega
   ·refine ⟨_,w', some (g,cap),hvt0.trans r1,?_,?_,r3.os,r3.tape,r3.output,r3.size,hkk,?_⟩
    ·simp [CR]
    ·simp only [LR,if_true]
     refine ⟨cur.toList,k2,by simpa using k5,by simpa using k3,k4,hall,?_⟩
     refine (zca (by simpa using k5) (by simpa using k3) hall).2 fun i2 r hri f x hx2=>?_
     obtain ⟨u,j1,j2⟩:=hboth i2 r hri f x hx2
     refine ⟨u,?_,j2⟩
     rw [← k6,List.getElem?_take] at j1
     split at j1
     ·exact j1
     ·cases j1
    ·rintro b3 c3 e3
     injection e3 with e3
     injection e3 with e3 e4
     subst e3 e4
     refine ⟨(Array.getElem?_eq_some_iff.1 k2).1,?_⟩
     rcases zh1 hT.hu hi hz hsz hown hp n1 n2 n4 hml (by rw [hby];exact hb) r1 g rfl with hh | hh
     ·rw [hblk] at hh
      cases hB:B n with
      | none=>rw [hB] at hh;cases hh
      | some q=>obtain ⟨b2,cc⟩:=q;rw [hB] at hh;simp at hh;exact .inl ⟨cc,by rw [hh]⟩
     ·exact .inr (by omega)
 obtain ⟨v,w', p,r1,r2,r3,r4,r5,r6,r7,r8,r9⟩:=main
 have hok':Ok e ⟨f.s,fun m=>if m=n' then some (.row el es (rows++rows2)) else if m=n then none else f.l m⟩ H (fun x=>if x=n' then p else B x) a w' :=
  hok.renew hl hnew p r4 r5 r6 r7 r8 r9 r3 (fun _=>rfl) (fun _=>rfl)
 refine zef (d:=d) rfl ?_ ⟨H,_,hok'.put (x:=some (.t (.c (.own n' (rows.length+rows2.length))))) (hb0.1 (d,some (.t (.c (.own n' (rows.length+rows2.length))))) (by simp)) (zfb f d _ _ rfl) (fun m=>?_) (fun y hy=>by injection hy with hy;subst hy;exact r2)⟩
 ·generalize a.eval=ρ at r1 ⊢
  have e1:(Array.map ρ #[.tmp t,.tmp u])=#[ρ (.tmp t),ρ (.tmp u)]:=by simp
  simp only [execOp,resolve,e1,Sem.run_bind,Sem.run_pure,Result.andThen_ok,invoke,builtin,r1]
 ·simp only [F.app,List.lookup]
  by_cases e1:m=n'
  ·simp [e1]
  ·have g1:(m == n')=false:=by simpa using e1
   by_cases e2:m=n
   ·subst e2;simp [g1,e1]
   ·have g2:(m == n)=false:=by simpa using e2
    simp [g1,g2,e1,e2]
theorem Op.eqNilO {d t n len:Nat} {y:Operand} {rs':List (Nat × V)} {xt yt el ty:TypeId} {pos af gd} (hu:P.underlying xt=some (.slice el)) (hn:0<len) (h':OV y (.t (.c (.d (.raw za6)))) rs') :
  zb9 P ⟨some d,.binOp .eql xt (.tmp t) y yt,ty,pos,af,gd⟩ { rs:=(t,.t (.c (.own n len))) :: rs', ws:=[(d,some (vb false))] } :=
 zb9.value d _ rfl rfl rfl fun e f H B a w hok hr2=>by
  have h1:=hok.slot t _ (hr2.1 (t,.t (.c (.own n len))) (by simp))
  have h2:a.eval y=za6:=(h'.eval hok fun p hp=>hr2.1 p (by simp [hp])).rawI
  have h3:CR H B (.own n len) (a.eval (.tmp t)):=h1
  generalize hv0:a.eval (.tmp t)=v at h3
  simp only [CR] at h3
  cases hB:B n with
  | none=>rw [hB] at h3;omega
  | some q =>
   obtain ⟨b,c⟩:=q
   rw [hB] at h3
   subst h3
   refine ⟨.bool false,?_,DR.raw _ rfl⟩
   generalize a.eval=ρ at hv0 h2 ⊢
   have:=run_eqNil (P:=P) hu (some ⟨b,0,none⟩) len c (.tmp t) y w
   simp only [Sem.run_bind] at this
   simp only [execOp,hv0,h2,Sem.run_bind,this,Result.andThen_ok,Sem.run_pure]
   rfl
end
end
section
open Go.RowKit

theorem SCloneO (xs:List za2) (hn:0<xs.length) (hl:xs.length≤1000000):Fn Tryz.prog 68 [(9,.row 100 3 (xs.map za2.d))] [.t (.c (.own 9 xs.length))] (.t (.c (.own 0 xs.length))) [(9,.row 100 3 (xs.map za2.d)),(0,.row 100 3 (xs.map za2.d))]:=by
 refine Fn.body Tryz.func68 rfl 8 rfl fun w H B a h=>?_
 refine rq za0 10 [] [(0,.t (.c (.own 9 xs.length))),(2,.t (.c (.d (.raw za6))))] [(9,.row 100 3 (xs.map za2.d))] h ?_;clear h;intro a w h
 refine wp_seq (rq za0 10 [(1,.gen _ _ _ fun _ _ _ _=>Op.eqNilO (d:=4) (t:=3) (n:=9) (len:=xs.length) (xt:=49) (yt:=49) zc0.hu hn (OV.const za6 rfl))] [(0,.t (.c (.own 9 xs.length))),(2,.t (.c (.d (.raw za6)))),(4,vb false)] [(9,.row 100 3 (xs.map za2.d))] h ?_);clear h;intro a w h
 refine zaa false h rfl (fun hc=>?_) (fun hc=>?_)
 ·cases hc
 ·clear hc
  refine wp_skip (za4 (rq za0 10 [(0,.gen _ _ _ fun _ _ _ _=>Op.buildE (d:=5) (n:=10) tb_9),(2,.gen _ _ _ fun _ _ _ _=>Op.appOO (d:=7) (t:=5) (u:=6) (n:=10) (sn:=9) (n':=11) (len:=0) (len2:=xs.length) (len':=xs.length) (rows:=[].map za2.d) (rows2:=xs.map za2.d) (rows':=xs.map za2.d) zh4 (by first | exact (List.length_map _).symm | simp) (by first | exact (List.length_map _).symm | simp) (by first | (rw [List.length_append,List.length_map];done) | simp) (by simp) (by first | omega | (simp at *;done) | (simp at *;omega)))] [(2,.t (.c (.own 11 xs.length)))] [(9,.row 100 3 (xs.map za2.d)),(11,.row 100 3 (xs.map za2.d))] h ?_));clear h;intro a w h
  refine wp_ret ?_
  replace h:=zc7 11 0 [(2,.t (.c (.own 0 xs.length)))] [(9,.row 100 3 (xs.map za2.d)),(0,.row 100 3 (xs.map za2.d))] h
  refine zap [.c (.own 0 xs.length)] h Exit.ret (.inl rfl)  rfl ⟨RV.tmp _ _ rfl,trivial⟩ ?_
  rfl
theorem SPlainW0 (t:zbb) (ht:PsOk 40000 t.parts) (hk:Lb t.k.abs) (lk:t.k.abs.length≤40000) (hn:0<t.parts.length):Fn Tryz.prog 47 [(9,.row 100 3 (t.parts.map za2.d))] [.t (.agg ([.own 9 t.parts.length]++zi t.k))] (vd (za3 t).d) [(9,.row 100 3 (t.parts.map za2.d))]:=by
 have ln:=ht.1
 refine Fn.body Tryz.func47 rfl 74 rfl fun w H B a h=>?_
 refine rq za0 10 [] [(1,vp 10 0),(2,vp 11 0)] [(9,.row 100 3 (t.parts.map za2.d)),(10,.box ([.own 9 t.parts.length]++zi t.k)),(11,.box [.d (.raw za6),cB false,.d (nsl [])])] h ?_;clear h;intro a w h
 refine rq za0 12 [(2,.call (SCloneO t.parts hn (by omega)) tl_3)] [(1,vp 10 0),(2,vp 11 0),(3,.t (.c (.own 0 t.parts.length)))] [(9,.row 100 3 (t.parts.map za2.d)),(10,.box ([.own 9 t.parts.length]++zi t.k)),(11,.box [.d (.raw za6),cB false,.d (nsl [])]),(0,.row 100 3 (t.parts.map za2.d))] h ?_;clear h;intro a w h
 refine rq za0 12 [(1,.call (zfp t.parts (by omega)) tl_4)] [(1,vp 10 0),(2,vp 11 0),(3,.t (.c (.own 0 t.parts.length)))] [(9,.row 100 3 (t.parts.map za2.d)),(10,.box ([.own 9 t.parts.length]++zi t.k)),(11,.box [.d (.raw za6),cB false,.d (nsl [])]),(0,.row 100 3 ((ssV za2.v t.parts).map za2.d))] h ?_;clear h;intro a w h
 obtain ⟨r3,er3,vr3,or3,lr3⟩:=mkZ (v:=t.k.val) (m:=t.k.abs.length) (zci hk)
 refine rq za0 12 [(2,.call (Fn.cast (zde t.k hk (by omega)) (congrArg vz er3.symm)) tl_5)] [(2,vp 11 0),(3,.t (.c (.own 0 t.parts.length))),(4,vp 12 0)] [(9,.row 100 3 (t.parts.map za2.d)),(11,.box [.d (.raw za6),cB false,.d (nsl [])]),(0,.row 100 3 ((ssV za2.v t.parts).map za2.d)),(12,.box ([.d (.raw za6)]++zi r3))] h ?_;clear h;intro a w h
 refine wp_seq ?_
 replace h:=nilOLs 12 0 13 3 100 ([.d (.raw za6)]++zi r3) [(2,vp 11 0),(3,.t (.c (.own 0 t.parts.length))),(4,vp 12 0)] [(9,.row 100 3 (t.parts.map za2.d)),(11,.box [.d (.raw za6),cB false,.d (nsl [])]),(0,.row 100 3 ((ssV za2.v t.parts).map za2.d)),(12,.box ([.own 13 0]++zi r3)),(13,.row 100 3 ([].map za2.d))] h (by kernel_rfl) rfl rfl
 refine rq za0 14 [] [(2,vp 11 0),(4,vp 12 0),(17,.t (.c (.own 0 t.parts.length))),(18,vi .i64 (t.parts.length:Int)),(19,vi .i64 0)] [(9,.row 100 3 (t.parts.map za2.d)),(11,.box [.d (.raw za6),cB false,.d (nsl [])]),(0,.row 100 3 ((ssV za2.v t.parts).map za2.d)),(12,.box ([.own 13 0]++zi r3)),(13,.row 100 3 ([].map za2.d))] h ?_;clear h;intro a w h
 refine wp_block ?_
 refine zb1 (ι:=(Nat) × (List za2)) (fun (z_:(Nat) × (List za2))=>match z_ with | (j,out)=>out=(zf7 ((ssV za2.v t.parts).take j))∧j≤(ssV za2.v t.parts).length∧out.length≤j∧MOk 40000 j out)
   (fun (z_:(Nat) × (List za2))=>match z_ with | (j,out)=>[(2,vp 11 0),(4,vp 12 0),(17,.t (.c (.own 0 t.parts.length))),(18,vi .i64 (t.parts.length:Int)),(19,vi .i64 (j:Int))])
   (fun (z_:(Nat) × (List za2))=>match z_ with | (j,out)=>[(9,.row 100 3 (t.parts.map za2.d)),(11,.box [.d (.raw za6),cB false,.d (nsl [])]),(0,.row 100 3 ((ssV za2.v t.parts).map za2.d)),(12,.box ([.own 13 out.length]++zi r3)),(13,.row 100 3 (out.map za2.d))])
   (fun (z_:(Nat) × (List za2))=>match z_ with | (j,out)=>(ssV za2.v t.parts).length - j) (0,[]) ?_ h (by kernel_rfl) (by kernel_rfl) ?_
 ·exact ⟨by simp [zf7],Nat.zero_le _,Nat.zero_le _,fun q hq=>(by cases hq)⟩
 ·clear h;rintro ⟨j,out⟩ a w hI h
  change St _ (F.of [(2,vp 11 0),(4,vp 12 0),(17,.t (.c (.own 0 t.parts.length))),(18,vi .i64 (t.parts.length:Int)),(19,vi .i64 (j:Int))] [(9,.row 100 3 (t.parts.map za2.d)),(11,.box [.d (.raw za6),cB false,.d (nsl [])]),(0,.row 100 3 ((ssV za2.v t.parts).map za2.d)),(12,.box ([.own 13 out.length]++zi r3)),(13,.row 100 3 (out.map za2.d))]) a w at h
  obtain ⟨hI1,hI2,hI3,hI4⟩:=hI
  have ln:=ht.1
  have ls:(ssV za2.v t.parts).length=t.parts.length:=zaz _
  refine rq za0 14 [] [(2,vp 11 0),(4,vp 12 0),(17,.t (.c (.own 0 t.parts.length))),(18,vi .i64 (t.parts.length:Int)),(19,vi .i64 (j:Int)),(20,vb (decide ((j:Int)<(t.parts.length:Int))))] [(9,.row 100 3 (t.parts.map za2.d)),(11,.box [.d (.raw za6),cB false,.d (nsl [])]),(0,.row 100 3 ((ssV za2.v t.parts).map za2.d)),(12,.box ([.own 13 out.length]++zi r3)),(13,.row 100 3 (out.map za2.d))] h ?_;clear h;intro a w h
  refine wp_seq ?_
  refine zaa (decide ((j:Int)<(t.parts.length:Int))) h rfl (fun hc=>?_) (fun hc=>?_)
  ·have hc1:=hc;clear hc
   have hc1':=of_decide_eq_true hc1
   refine wp_skip (za4 (wp_seq (wp_block ?_)))
   obtain ⟨x4,hx4⟩:∃ z_:za2,(ssV za2.v t.parts)[j]?=some z_:=⟨_,List.getElem?_eq_getElem (by first | omega | (simp at *;omega))⟩
   obtain ⟨ox4,lx4⟩:=ht.get_mem (zc3 (List.mem_of_getElem? hx4))
   refine rq za0 14 [(0,.gen _ _ _ fun _ _ _ _=>Op.idxO (d:=21) (t:=17) (k := .i64) (n:=0) (len:=t.parts.length) (i:=j) zc0 (by first | omega | (simp at *;omega)) (OV.tmp 19 _)),(1,.gen _ _ _ fun _ _ _ _=>Op.loadR_agg (d:=22) (t:=21) (n:=0) (i:=j) (fo:=0) (rty:=100) (es:=3) (xs:=[.raw (.int .i64 x4.v),.raw (.bool x4.c.neg),nsl x4.c.abs]) zfg rfl (zal hx4 (f:=za2.d)) rfl rfl)] [(2,vp 11 0),(4,vp 12 0),(6,vp 14 0),(17,.t (.c (.own 0 t.parts.length))),(18,vi .i64 (t.parts.length:Int)),(19,vi .i64 (j:Int))] [(9,.row 100 3 (t.parts.map za2.d)),(11,.box [.d (.raw za6),cB false,.d (nsl [])]),(0,.row 100 3 ((ssV za2.v t.parts).map za2.d)),(12,.box ([.own 13 out.length]++zi r3)),(13,.row 100 3 (out.map za2.d)),(14,.box ([cI x4.v]++zi x4.c))] h ?_;clear h;intro a w h
   refine wp_seq (rq za0 15 [] [(2,vp 11 0),(4,vp 12 0),(6,vp 14 0),(17,.t (.c (.own 0 t.parts.length))),(18,vi .i64 (t.parts.length:Int)),(19,vi .i64 (j:Int)),(25,vb (decide (x4.v<0)))] [(9,.row 100 3 (t.parts.map za2.d)),(11,.box [.d (.raw za6),cB false,.d (nsl [])]),(0,.row 100 3 ((ssV za2.v t.parts).map za2.d)),(12,.box ([.own 13 out.length]++zi r3)),(13,.row 100 3 (out.map za2.d)),(14,.box ([cI x4.v]++zi x4.c))] h ?_);clear h;intro a w h
   refine zaa (decide (x4.v<0)) h rfl (fun hc=>?_) (fun hc=>?_)
   ·have hc2:=hc;clear hc
    have hc2':=of_decide_eq_true hc2
    refine wp_exit (zai (za8 (za4 (rn za0 15 [(0,.add .i64 (m:=(j:Int)) (n:=1) (zad (by omega) (by omega)))] [(2,vp 11 0),(4,vp 12 0),(17,.t (.c (.own 0 t.parts.length))),(18,vi .i64 (t.parts.length:Int)),(19,vi .i64 ((j:Int)+1))] [(9,.row 100 3 (t.parts.map za2.d)),(11,.box [.d (.raw za6),cB false,.d (nsl [])]),(0,.row 100 3 ((ssV za2.v t.parts).map za2.d)),(12,.box ([.own 13 out.length]++zi r3)),(13,.row 100 3 (out.map za2.d))] h ?_))));clear h;intro a w h
    refine za4 ?_
    have hst:(zf7 ((ssV za2.v t.parts).take (j+1)))=zay out x4:=by rw [hI1,show ((ssV za2.v t.parts).take (j+1):List za2)=(ssV za2.v t.parts).take j++[x4] from by rw [List.take_add_one,hx4];rfl,zbl]
    have hst2:=mrg_neg (out:=out) hc2'
    refine zam (x:=(j,out)) (y:=((j+1),out)) h ?_ ?_
    ·exact ⟨by rw [hst,hst2],(by have:=zak hx4;omega),by omega,by have hh:=hI4.step (ht.get_mem (zc3 (List.mem_of_getElem? hx4)));rw [hst2] at hh;exact hh⟩
    ·show (ssV za2.v t.parts).length - (j+1)<(ssV za2.v t.parts).length - j
     have:=zak hx4;omega
   ·have hc3:=hc;clear hc
    have hc3':=of_decide_eq_false hc3
    refine wp_skip (za4 ?_)
    rcases Nat.eq_zero_or_pos out.length with hz | hz
    ·refine rq za0 15 [(3,.gen _ _ _ fun _ _ _ _=>Op.arith (op := .sub) (d:=29) (xt:=3) (yt:=3) (k := .i64) (m:=(out.length:Int)) (n:=1) (r:=(-1)) (OV.tmp 28 _) (OV.const (.int .i64 1) rfl) (.inr (.inl ⟨rfl,(by omega)⟩)) (zad (by omega) (by omega)))] [(2,vp 11 0),(4,vp 12 0),(6,vp 14 0),(7,vi .i64 (-1)),(17,.t (.c (.own 0 t.parts.length))),(18,vi .i64 (t.parts.length:Int)),(19,vi .i64 (j:Int))] [(9,.row 100 3 (t.parts.map za2.d)),(11,.box [.d (.raw za6),cB false,.d (nsl [])]),(0,.row 100 3 ((ssV za2.v t.parts).map za2.d)),(12,.box ([.own 13 out.length]++zi r3)),(13,.row 100 3 (out.map za2.d)),(14,.box ([cI x4.v]++zi x4.c))] h ?_;clear h;intro a w h
     refine rq za0 15 [(1,.cmp (op := .geq) (m:=(-1)) (n:=0) (b:=false) .i64 rfl)] [(2,vp 11 0),(4,vp 12 0),(6,vp 14 0),(7,vi .i64 (-1)),(17,.t (.c (.own 0 t.parts.length))),(18,vi .i64 (t.parts.length:Int)),(19,vi .i64 (j:Int)),(42,vb false)] [(9,.row 100 3 (t.parts.map za2.d)),(11,.box [.d (.raw za6),cB false,.d (nsl [])]),(0,.row 100 3 ((ssV za2.v t.parts).map za2.d)),(12,.box ([.own 13 out.length]++zi r3)),(13,.row 100 3 (out.map za2.d)),(14,.box ([cI x4.v]++zi x4.c))] h ?_;clear h;intro a w h
     refine zaa false h rfl (fun hc=>?_) (fun hc=>?_)
     ·cases hc
     ·clear hc
      obtain ⟨r5,er5,vr5,or5,lr5⟩:=mkZ (v:=x4.c.val) (m:=x4.c.abs.length) (zci ox4)
      refine rn za0 15 [(6,.call (Fn.cast (zde x4.c ox4 (by omega)) (congrArg vz er5.symm)) tl_5),(8,.gen _ _ _ fun _ _ _ _=>Op.buildD (d:=65) (len:=1) (rows:=[(za2.mk x4.v r5)].map za2.d) (rs:=[(64,.t (.agg ([cI x4.v]++zi r5)))]) tb_9 (.cons (i:=0) (OV.tmp 64 _) (.nil)) (by kernel_rfl) rfl (by simp [za2.d]) (by decide) (by decide)),(9,.gen _ _ _ fun _ _ _ _=>Op.appOD (d:=66) (t:=58) (u:=65) (n:=13) (n':=15) (len:=out.length) (len':=(out++[(za2.mk x4.v r5)]).length) (rows:=out.map za2.d) (rows2:=[(za2.mk x4.v r5)].map za2.d) (rows':=(out++[(za2.mk x4.v r5)]).map za2.d) zh4 (by first | exact (List.length_map _).symm | simp) (by first | (rw [List.length_append,List.length_map];done) | simp) (by simp) (by simp [za2.d]) (by first | omega | (simp at *;done) | (simp at *;omega)))] [(2,vp 11 0),(4,vp 12 0),(17,.t (.c (.own 0 t.parts.length))),(18,vi .i64 (t.parts.length:Int)),(19,vi .i64 (j:Int))] [(9,.row 100 3 (t.parts.map za2.d)),(11,.box [.d (.raw za6),cB false,.d (nsl [])]),(0,.row 100 3 ((ssV za2.v t.parts).map za2.d)),(12,.box ([.own 15 (out++[(za2.mk x4.v r5)]).length]++zi r3)),(15,.row 100 3 ((out++[(za2.mk x4.v r5)]).map za2.d))] h ?_;clear h;intro a w h
      refine zac (za4 (rn za0 16 [(0,.add .i64 (m:=(j:Int)) (n:=1) (zad (by omega) (by omega)))] [(2,vp 11 0),(4,vp 12 0),(17,.t (.c (.own 0 t.parts.length))),(18,vi .i64 (t.parts.length:Int)),(19,vi .i64 ((j:Int)+1))] [(9,.row 100 3 (t.parts.map za2.d)),(11,.box [.d (.raw za6),cB false,.d (nsl [])]),(0,.row 100 3 ((ssV za2.v t.parts).map za2.d)),(12,.box ([.own 15 (out++[(za2.mk x4.v r5)]).length]++zi r3)),(15,.row 100 3 ((out++[(za2.mk x4.v r5)]).map za2.d))] h ?_));clear h;intro a w h
      refine za4 ?_
      have hst:(zf7 ((ssV za2.v t.parts).take (j+1)))=zay out x4:=by rw [hI1,show ((ssV za2.v t.parts).take (j+1):List za2)=(ssV za2.v t.parts).take j++[x4] from by rw [List.take_add_one,hx4];rfl,zbl]
      have hst2:=mrg_nil hc3' hz
      replace h:=zc7 15 13 [(2,vp 11 0),(4,vp 12 0),(17,.t (.c (.own 0 t.parts.length))),(18,vi .i64 (t.parts.length:Int)),(19,vi .i64 ((j:Int)+1))] [(9,.row 100 3 (t.parts.map za2.d)),(11,.box [.d (.raw za6),cB false,.d (nsl [])]),(0,.row 100 3 ((ssV za2.v t.parts).map za2.d)),(12,.box ([.own 13 (out++[(za2.mk x4.v r5)]).length]++zi r3)),(13,.row 100 3 ((out++[(za2.mk x4.v r5)]).map za2.d))] h
      refine zam (x:=(j,out)) (y:=((j+1),(out++[(za2.mk x4.v r5)]))) h ?_ ?_
      ·have hnew:(out++[(za2.mk x4.v r5)])=zay out x4:=by rw [hst2,er5]
       exact ⟨by rw [hst];exact hnew,(by have:=zak hx4;omega),by rw [List.length_append];simp only [List.length_cons,List.length_nil];omega,by rw [hnew];exact hI4.step (ht.get_mem (zc3 (List.mem_of_getElem? hx4)))⟩
      ·show (ssV za2.v t.parts).length - (j+1)<(ssV za2.v t.parts).length - j
       have:=zak hx4;omega
    ·obtain ⟨k,hk1⟩:∃ k,out.length=k+1:=⟨out.length - 1,by omega⟩
     refine rq za0 16 [(3,.gen _ _ _ fun _ _ _ _=>Op.arith (op := .sub) (d:=29) (xt:=3) (yt:=3) (k := .i64) (m:=(out.length:Int)) (n:=1) (r:=(k:Int)) (OV.tmp 28 _) (OV.const (.int .i64 1) rfl) (.inr (.inl ⟨rfl,(by omega)⟩)) (zad (by omega) (by omega)))] [(2,vp 11 0),(4,vp 12 0),(6,vp 14 0),(7,vi .i64 (k:Int)),(17,.t (.c (.own 0 t.parts.length))),(18,vi .i64 (t.parts.length:Int)),(19,vi .i64 (j:Int))] [(9,.row 100 3 (t.parts.map za2.d)),(11,.box [.d (.raw za6),cB false,.d (nsl [])]),(0,.row 100 3 ((ssV za2.v t.parts).map za2.d)),(12,.box ([.own 13 out.length]++zi r3)),(13,.row 100 3 (out.map za2.d)),(14,.box ([cI x4.v]++zi x4.c))] h ?_;clear h;intro a w h
     obtain ⟨x6,hx6⟩:∃ z_:za2,out[k]?=some z_:=⟨_,List.getElem?_eq_getElem (by first | omega | (simp at *;omega))⟩
     obtain ⟨ox6,lx6⟩:=hI4.lb (List.mem_of_getElem? hx6) (by omega)
     refine rq za0 16 [(1,.cmp (op := .geq) (m:=(k:Int)) (n:=0) (b:=true) .i64 (show decide ((k:Int)≥0)=true from decide_eq_true (by omega))),(6,.gen _ _ _ fun _ _ _ _=>Op.idxO (d:=36) (t:=34) (k := .i64) (n:=13) (len:=out.length) (i:=k) zc0 (by first | omega | (simp at *;omega)) (OV.tmp 35 _)),(8,.gen _ _ _ fun _ _ _ _=>Op.loadR_c (d:=38) (t:=37) (n:=13) (i:=k) (fo:=0) (rty:=100) (es:=3) (x:=(.raw (.int .i64 x6.v))) tl_7 rfl (zal hx6 (f:=za2.d)) rfl)] [(2,vp 11 0),(4,vp 12 0),(6,vp 14 0),(7,vi .i64 (k:Int)),(17,.t (.c (.own 0 t.parts.length))),(18,vi .i64 (t.parts.length:Int)),(19,vi .i64 (j:Int)),(42,vb (x6.v == x4.v))] [(9,.row 100 3 (t.parts.map za2.d)),(11,.box [.d (.raw za6),cB false,.d (nsl [])]),(0,.row 100 3 ((ssV za2.v t.parts).map za2.d)),(12,.box ([.own 13 out.length]++zi r3)),(13,.row 100 3 (out.map za2.d)),(14,.box ([cI x4.v]++zi x4.c))] h ?_;clear h;intro a w h
     refine zaa (x6.v == x4.v) h rfl (fun hc=>?_) (fun hc=>?_)
     ·have hc4:=hc;clear hc
      have hc4':=hc4;(try simp at hc4')
      obtain ⟨r7,er7,vr7,or7,lr7⟩:=mkZ (v:=x6.c.val+x4.c.val) (m:=x6.c.abs.length+x4.c.abs.length+1) (zd8 ox6 ox4)
      refine rn za0 16 [(6,.gen _ _ _ fun _ _ _ _=>Op.idxO (d:=49) (t:=47) (k := .i64) (n:=13) (len:=out.length) (i:=k) zc0 (by first | omega | (simp at *;omega)) (OV.tmp 48 _)),(8,.gen _ _ _ fun _ _ _ _=>Op.loadR_agg (d:=51) (t:=50) (n:=13) (i:=k) (fo:=1) (rty:=100) (es:=3) (xs:=[.raw (.bool x6.c.neg),nsl x6.c.abs]) zdf rfl (zal hx6 (f:=za2.d)) rfl rfl),(11,.call (Fn.cast (SAdd x6.c x4.c ox6 ox4 (by omega) (by omega)) (congrArg vz er7.symm)) tl_9),(12,.gen _ _ _ fun _ _ _ _=>Op.idxO (d:=55) (t:=44) (k := .i64) (n:=13) (len:=out.length) (i:=k) zc0 (by first | omega | (simp at *;omega)) (OV.tmp 45 _)),(14,.gen _ _ _ fun _ _ _ _=>Op.storeR (t:=56) (n:=13) (i:=k) (fo:=1) (rty:=100) (es:=3) (r:=za2.d x6) (ds:=[.raw (.bool r7.neg),nsl r7.abs]) (rs:=[(54,vz r7)]) (rows:=out.map za2.d) (rows':=(out.set k (za2.mk x6.v r7)).map za2.d) zdf (OV.tmp 54 _) rfl rfl rfl (zal hx6 (f:=za2.d)) (by simp [za2.d]) (zck (xs:=out) (F:=za2.d) k _ _ rfl))] [(2,vp 11 0),(4,vp 12 0),(17,.t (.c (.own 0 t.parts.length))),(18,vi .i64 (t.parts.length:Int)),(19,vi .i64 (j:Int))] [(9,.row 100 3 (t.parts.map za2.d)),(11,.box [.d (.raw za6),cB false,.d (nsl [])]),(0,.row 100 3 ((ssV za2.v t.parts).map za2.d)),(12,.box ([.own 13 out.length]++zi r3)),(13,.row 100 3 ((out.set k (za2.mk x6.v r7)).map za2.d))] h ?_;clear h;intro a w h
      refine zac (za4 (rn za0 16 [(0,.add .i64 (m:=(j:Int)) (n:=1) (zad (by omega) (by omega)))] [(2,vp 11 0),(4,vp 12 0),(17,.t (.c (.own 0 t.parts.length))),(18,vi .i64 (t.parts.length:Int)),(19,vi .i64 ((j:Int)+1))] [(9,.row 100 3 (t.parts.map za2.d)),(11,.box [.d (.raw za6),cB false,.d (nsl [])]),(0,.row 100 3 ((ssV za2.v t.parts).map za2.d)),(12,.box ([.own 13 out.length]++zi r3)),(13,.row 100 3 ((out.set k (za2.mk x6.v r7)).map za2.d))] h ?_));clear h;intro a w h
      refine za4 ?_
      have hst:(zf7 ((ssV za2.v t.parts).take (j+1)))=zay out x4:=by rw [hI1,show ((ssV za2.v t.parts).take (j+1):List za2)=(ssV za2.v t.parts).take j++[x4] from by rw [List.take_add_one,hx4];rfl,zbl]
      replace h:=h.conv (f':=F.of [(2,vp 11 0),(4,vp 12 0),(17,.t (.c (.own 0 t.parts.length))),(18,vi .i64 (t.parts.length:Int)),(19,vi .i64 ((j:Int)+1))] [(9,.row 100 3 (t.parts.map za2.d)),(11,.box [.d (.raw za6),cB false,.d (nsl [])]),(0,.row 100 3 ((ssV za2.v t.parts).map za2.d)),(12,.box ([.own 13 (out.set k (za2.mk x6.v r7)).length]++zi r3)),(13,.row 100 3 ((out.set k (za2.mk x6.v r7)).map za2.d))]) (by rw [List.length_set])
      have hst2:=zfy hc3' hk1 hx6 (by simpa using hc4)
      refine zam (x:=(j,out)) (y:=((j+1),(out.set k (za2.mk x6.v r7)))) h ?_ ?_
      ·have hnew:(out.set k (za2.mk x6.v r7))=zay out x4:=by rw [hst2,er7]
       exact ⟨by rw [hst];exact hnew,(by have:=zak hx4;omega),by rw [List.length_set];omega,by rw [hnew];exact hI4.step (ht.get_mem (zc3 (List.mem_of_getElem? hx4)))⟩
      ·show (ssV za2.v t.parts).length - (j+1)<(ssV za2.v t.parts).length - j
       have:=zak hx4;omega
     ·have hc5:=hc;clear hc
      have hc5':=hc5;(try simp at hc5')
      obtain ⟨r8,er8,vr8,or8,lr8⟩:=mkZ (v:=x4.c.val) (m:=x4.c.abs.length) (zci ox4)
      refine rn za0 16 [(6,.call (Fn.cast (zde x4.c ox4 (by omega)) (congrArg vz er8.symm)) tl_5),(8,.gen _ _ _ fun _ _ _ _=>Op.buildD (d:=65) (len:=1) (rows:=[(za2.mk x4.v r8)].map za2.d) (rs:=[(64,.t (.agg ([cI x4.v]++zi r8)))]) tb_9 (.cons (i:=0) (OV.tmp 64 _) (.nil)) (by kernel_rfl) rfl (by simp [za2.d]) (by decide) (by decide)),(9,.gen _ _ _ fun _ _ _ _=>Op.appOD (d:=66) (t:=58) (u:=65) (n:=13) (n':=16) (len:=out.length) (len':=(out++[(za2.mk x4.v r8)]).length) (rows:=out.map za2.d) (rows2:=[(za2.mk x4.v r8)].map za2.d) (rows':=(out++[(za2.mk x4.v r8)]).map za2.d) zh4 (by first | exact (List.length_map _).symm | simp) (by first | (rw [List.length_append,List.length_map];done) | simp) (by simp) (by simp [za2.d]) (by first | omega | (simp at *;done) | (simp at *;omega)))] [(2,vp 11 0),(4,vp 12 0),(17,.t (.c (.own 0 t.parts.length))),(18,vi .i64 (t.parts.length:Int)),(19,vi .i64 (j:Int))] [(9,.row 100 3 (t.parts.map za2.d)),(11,.box [.d (.raw za6),cB false,.d (nsl [])]),(0,.row 100 3 ((ssV za2.v t.parts).map za2.d)),(12,.box ([.own 16 (out++[(za2.mk x4.v r8)]).length]++zi r3)),(16,.row 100 3 ((out++[(za2.mk x4.v r8)]).map za2.d))] h ?_;clear h;intro a w h
      refine zac (za4 (rn za0 17 [(0,.add .i64 (m:=(j:Int)) (n:=1) (zad (by omega) (by omega)))] [(2,vp 11 0),(4,vp 12 0),(17,.t (.c (.own 0 t.parts.length))),(18,vi .i64 (t.parts.length:Int)),(19,vi .i64 ((j:Int)+1))] [(9,.row 100 3 (t.parts.map za2.d)),(11,.box [.d (.raw za6),cB false,.d (nsl [])]),(0,.row 100 3 ((ssV za2.v t.parts).map za2.d)),(12,.box ([.own 16 (out++[(za2.mk x4.v r8)]).length]++zi r3)),(16,.row 100 3 ((out++[(za2.mk x4.v r8)]).map za2.d))] h ?_));clear h;intro a w h
      refine za4 ?_
      have hst:(zf7 ((ssV za2.v t.parts).take (j+1)))=zay out x4:=by rw [hI1,show ((ssV za2.v t.parts).take (j+1):List za2)=(ssV za2.v t.parts).take j++[x4] from by rw [List.take_add_one,hx4];rfl,zbl]
      have hst2:=mrg_new hc3' hk1 hx6 (by simpa using hc5)
      replace h:=zc7 16 13 [(2,vp 11 0),(4,vp 12 0),(17,.t (.c (.own 0 t.parts.length))),(18,vi .i64 (t.parts.length:Int)),(19,vi .i64 ((j:Int)+1))] [(9,.row 100 3 (t.parts.map za2.d)),(11,.box [.d (.raw za6),cB false,.d (nsl [])]),(0,.row 100 3 ((ssV za2.v t.parts).map za2.d)),(12,.box ([.own 13 (out++[(za2.mk x4.v r8)]).length]++zi r3)),(13,.row 100 3 ((out++[(za2.mk x4.v r8)]).map za2.d))] h
      refine zam (x:=(j,out)) (y:=((j+1),(out++[(za2.mk x4.v r8)]))) h ?_ ?_
      ·have hnew:(out++[(za2.mk x4.v r8)])=zay out x4:=by rw [hst2,er8]
       exact ⟨by rw [hst];exact hnew,(by have:=zak hx4;omega),by rw [List.length_append];simp only [List.length_cons,List.length_nil];omega,by rw [hnew];exact hI4.step (ht.get_mem (zc3 (List.mem_of_getElem? hx4)))⟩
      ·show (ssV za2.v t.parts).length - (j+1)<(ssV za2.v t.parts).length - j
       have:=zak hx4;omega
  ·have hc6:=hc;clear hc
   have hc6':=of_decide_eq_false hc6
   refine wp_exit (zai (zai (za8 (za4 ?_))))
   replace h:=atS (sl':=[(2,vp 11 0),(4,vp 12 0)]) (lc':=[(9,.row 100 3 (t.parts.map za2.d)),(11,.box [.d (.raw za6),cB false,.d (nsl [])]),(12,.box ([.own 13 out.length]++zi r3)),(13,.row 100 3 (out.map za2.d))]) h
   replace h:=zc7 13 0 [(2,vp 11 0),(4,vp 12 0)] [(9,.row 100 3 (t.parts.map za2.d)),(11,.box [.d (.raw za6),cB false,.d (nsl [])]),(12,.box ([.own 0 out.length]++zi r3)),(0,.row 100 3 (out.map za2.d))] h
   refine rq za0 17 [(2,.call (SDeleteFZ isZ out (fun p hp=>SPlain2 p (hI4.lb hp (by omega)).1 (by have:=(hI4.lb hp (by omega)).2;omega)) (by omega)) tl_10)] [(2,vp 11 0),(4,vp 12 0)] [(9,.row 100 3 (t.parts.map za2.d)),(11,.box [.d (.raw za6),cB false,.d (nsl [])]),(12,.box ([.own 0 (out.filter (fun p=>!isZ p)).length]++zi r3)),(0,.row 100 3 ((out.filter (fun p=>!isZ p)).map za2.d))] h ?_;clear h;intro a w h
   refine rq za0 17 [] [(2,vp 11 0)] [(9,.row 100 3 (t.parts.map za2.d)),(11,.box ([.own 0 (out.filter (fun p=>!isZ p)).length]++zi r3)),(0,.row 100 3 ((out.filter (fun p=>!isZ p)).map za2.d))] h ?_;clear h;intro a w h
   refine wp_ret ?_
   replace h:=pubSK 0 3 100 ((out.filter (fun p=>!isZ p)).map za2.d) [(2,vp 11 0)] [(9,.row 100 3 (t.parts.map za2.d)),(11,.box ([cPs (out.filter (fun p=>!isZ p))]++zi r3))] h rfl (by kernel_rfl) trivial (show zc5 _ [(out.filter (fun p=>!isZ p)).length] from ⟨by first | exact (List.length_map _).symm | simp,trivial⟩)
   refine zap [.agg ([cPs (out.filter (fun p=>!isZ p))]++zi r3)] h Exit.ret (.inl rfl)  rfl ⟨RV.agg _ 11 0 _ _ _ _ tb_11 rfl rfl rfl rfl,trivial⟩ ?_
   have hj:j=(ssV za2.v t.parts).length:=by omega
   subst hj
   rw [hI1,List.take_length,plain_law,er3];first | done | rfl
theorem SPlainW (t:zbb) {n L:Nat} (h:TOk n L t) (hn:n≤1000) (hL:L≤40000) (hp:0<t.parts.length):Fn Tryz.prog 47 [(9,.row 100 3 (t.parts.map za2.d))] [.t (.agg ([.own 9 t.parts.length]++zi t.k))] (vd (za3 t).d) [(9,.row 100 3 (t.parts.map za2.d))] :=
 have h':=h.mono hn hL
 SPlainW0 t h'.psok h'.kb h'.kl hp
theorem SContentW (t:zbb) {n L:Nat} (ht:TOk n L t) (hn:n≤1000) (hL:L≤20000) (hp:0<t.parts.length):Fn Tryz.prog 142 [(9,.row 100 3 (t.parts.map za2.d))] [.t (.agg ([.own 9 t.parts.length]++zi t.k))] (vz (ZI.of (zbu (za3 t).parts))) [(9,.row 100 3 (t.parts.map za2.d))]:=by
 refine Fn.body Tryz.func142 rfl 21 rfl fun w H B a h=>?_
 refine rq za0 10 [] [(1,vp 10 0),(2,vp 11 0)] [(9,.row 100 3 (t.parts.map za2.d)),(10,.box ([.own 9 t.parts.length]++zi t.k)),(11,.box [cB false,.d (nsl [])])] h ?_;clear h;intro a w h
 refine rq za0 12 [] [(1,vp 10 0),(2,vp 11 0),(3,vp 12 0)] [(9,.row 100 3 (t.parts.map za2.d)),(10,.box ([.own 9 t.parts.length]++zi t.k)),(11,.box [cB false,.d (nsl [])]),(12,.box [cB false,.d (nsl [])])] h ?_;clear h;intro a w h
 refine wp_seq (rq za0 13 [(1,.call (SPlainW t ht hn (by omega) hp) tm_7),(3,.len (c:=(cPs (za3 t).parts)) (n:=(za3 t).parts.length) (zae _ _ _))] [(2,vp 11 0),(3,vp 12 0),(9,(vPs (za3 t).parts)),(10,vi .i64 ((za3 t).parts.length:Int)),(11,vi .i64 0)] [(9,.row 100 3 (t.parts.map za2.d)),(11,.box [cB false,.d (nsl [])]),(12,.box [cB false,.d (nsl [])])] h ?_);clear h;intro a w h
 refine wp_block ?_
 refine zb1 (ι:=(Nat) × (ZI)) (fun (z_:(Nat) × (ZI))=>match z_ with | (j,out)=>out=ZI.of (zbu ((za3 t).parts.take j))∧j≤(za3 t).parts.length)
   (fun (z_:(Nat) × (ZI))=>match z_ with | (j,out)=>[(2,vp 11 0),(3,vp 12 0),(9,(vPs (za3 t).parts)),(10,vi .i64 ((za3 t).parts.length:Int)),(11,vi .i64 (j:Int))])
   (fun (z_:(Nat) × (ZI))=>match z_ with | (j,out)=>[(9,.row 100 3 (t.parts.map za2.d)),(11,.box [cB false,.d (nsl [])]),(12,.box (zi out))])
   (fun (z_:(Nat) × (ZI))=>match z_ with | (j,out)=>(za3 t).parts.length - j) (0,(ZI.of 0)) ?_ h (by kernel_rfl) (by kernel_rfl) ?_
 ·exact ⟨by simp [zbu],Nat.zero_le _⟩
 ·clear h;rintro ⟨j,out⟩ a w hI h
  change St _ (F.of [(2,vp 11 0),(3,vp 12 0),(9,(vPs (za3 t).parts)),(10,vi .i64 ((za3 t).parts.length:Int)),(11,vi .i64 (j:Int))] [(9,.row 100 3 (t.parts.map za2.d)),(11,.box [cB false,.d (nsl [])]),(12,.box (zi out))]) a w at h
  obtain ⟨hI1,hI2⟩:=hI
  have lpp:=(ht.plain hn).len
  have lvv:(zfd t.parts).length=(za3 t).parts.length:=(List.length_map _).symm
  have lo:out.abs.length≤L+1:=by rw [hI1];exact con_len ht hn j
  have ho:Lb out.abs:=by rw [hI1];exact ZI.lb_of _
  have vo:out.val=zbu ((za3 t).parts.take j):=by rw [hI1];exact ZI.val_of _
  refine rq za0 13 [] [(2,vp 11 0),(3,vp 12 0),(9,(vPs (za3 t).parts)),(10,vi .i64 ((za3 t).parts.length:Int)),(11,vi .i64 (j:Int)),(12,vb (decide ((j:Int)<((za3 t).parts.length:Int))))] [(9,.row 100 3 (t.parts.map za2.d)),(11,.box [cB false,.d (nsl [])]),(12,.box (zi out))] h ?_;clear h;intro a w h
  refine wp_seq ?_
  refine zaa (decide ((j:Int)<((za3 t).parts.length:Int))) h rfl (fun hc=>?_) (fun hc=>?_)
  ·have hc1:=hc;clear hc
   have hc1':=of_decide_eq_true hc1
   refine wp_skip (za4 (wp_seq (wp_block ?_)))
   obtain ⟨x2,hx2⟩:∃ z_:za2,(za3 t).parts[j]?=some z_:=⟨_,List.getElem?_eq_getElem (by first | omega | (simp at *;omega))⟩
   obtain ⟨ox2,lx2⟩:=(ht.plain hn).get hx2
   refine rq za0 13 [(0,.gen _ _ _ fun _ _ _ _=>Op.idxD (d:=13) (t:=9) (k := .i64) zc0 (zal hx2 (f:=za2.d)) (OV.tmp 11 _))] [(2,vp 11 0),(3,vp 12 0),(5,vp 13 0),(9,(vPs (za3 t).parts)),(10,vi .i64 ((za3 t).parts.length:Int)),(11,vi .i64 (j:Int))] [(9,.row 100 3 (t.parts.map za2.d)),(11,.box [cB false,.d (nsl [])]),(12,.box (zi out)),(13,.box ([cI x2.v]++zi x2.c))] h ?_;clear h;intro a w h
   obtain ⟨r3,er3,vr3,or3,lr3⟩:=mkZ (v:=(Nat.gcd out.val.natAbs x2.c.val.natAbs:Int)) (m:=out.abs.length+x2.c.abs.length) (len_gcd ho ox2)
   refine rn za0 14 [(3,.call (Fn.cast (SGcd out x2.c ho ox2 (by omega) (by omega)) (congrArg vz er3.symm)) tt_11)] [(2,vp 11 0),(3,vp 12 0),(9,(vPs (za3 t).parts)),(10,vi .i64 ((za3 t).parts.length:Int)),(11,vi .i64 (j:Int))] [(9,.row 100 3 (t.parts.map za2.d)),(11,.box [cB false,.d (nsl [])]),(12,.box (zi r3))] h ?_;clear h;intro a w h
   refine zac (za4 (rn za0 14 [(0,.add .i64 (m:=(j:Int)) (n:=1) (zad (by omega) (by omega)))] [(2,vp 11 0),(3,vp 12 0),(9,(vPs (za3 t).parts)),(10,vi .i64 ((za3 t).parts.length:Int)),(11,vi .i64 ((j:Int)+1))] [(9,.row 100 3 (t.parts.map za2.d)),(11,.box [cB false,.d (nsl [])]),(12,.box (zi r3))] h ?_));clear h;intro a w h
   refine za4 ?_
   refine zam (x:=(j,out)) (y:=((j+1),r3)) h ?_ ?_
   ·have:=zak hx2
    exact ⟨by rw [er3,vo,con_take hx2],by omega⟩
   ·show (za3 t).parts.length - (j+1)<(za3 t).parts.length - j
    have:=zak hx2;omega
  ·have hc2:=hc;clear hc
   have hc2':=of_decide_eq_false hc2
   refine wp_exit (zai (zai (za8 (za4 (rq za0 14 [] [(2,vp 11 0)] [(9,.row 100 3 (t.parts.map za2.d)),(11,.box (zi out))] h ?_)))));clear h;intro a w h
   refine wp_ret ?_
   refine zap [.agg (zi out)] h Exit.ret (.inl rfl)  rfl ⟨RV.agg _ 11 0 _ _ _ _ zdf rfl rfl rfl rfl,trivial⟩ ?_
   have hj:j=(za3 t).parts.length:=by omega
   subst hj
   rw [hI1,List.take_length];first | done | rfl
end
section
open Go.RowKit
end
section
open Go.RowKit

theorem tw_1:za7 Tryz.prog 142:=za7.mk' (by kernel_rfl)
theorem tw_7:za7 Tryz.prog 160:=za7.mk' (by kernel_rfl)
def zeq (g:Int) (p:za2):za2:=⟨p.v,ZI.of (p.c.val.fdiv g)⟩
def zcv (t:zbb):zbb:=if zbu (za3 t).parts=0 then za3 t else ⟨(za3 t).parts.map (zeq (zbu (za3 t).parts)),ZI.of (t.k.val.fdiv (zbu (za3 t).parts))⟩
theorem con_dvd (ps:List za2):∀ p ∈ ps,zbu ps∣p.c.val:=by
 have key:∀ (ps:List za2) (g:Int),(ps.foldl (fun g p=>(Nat.gcd g.natAbs p.c.val.natAbs:Int)) g)∣g∧∀ p ∈ ps,(ps.foldl (fun g p=>(Nat.gcd g.natAbs p.c.val.natAbs:Int)) g)∣p.c.val:=by
  intro ps
  induction ps with
  | nil=>intro g;exact ⟨Int.dvd_refl g,fun p hp=>by cases hp⟩
  | cons p ps ih =>
   intro g
   obtain ⟨h1,h2⟩:=ih ((Nat.gcd g.natAbs p.c.val.natAbs:Int))
   rw [List.foldl_cons]
   have d1:((Nat.gcd g.natAbs p.c.val.natAbs:Nat):Int)∣g:=Int.ofNat_dvd_left.2 (Nat.gcd_dvd_left _ _)
   have d2:((Nat.gcd g.natAbs p.c.val.natAbs:Nat):Int)∣p.c.val:=Int.ofNat_dvd_left.2 (Nat.gcd_dvd_right _ _)
   refine ⟨Int.dvd_trans h1 d1,fun q hq=>?_⟩
   rcases List.mem_cons.1 hq with rfl | hq
   ·exact Int.dvd_trans h1 d2
   ·exact h2 q hq
 exact (key ps 0).2
theorem con_ne {t:zbb} (h:0<(za3 t).parts.length):zbu (za3 t).parts≠0:=fun e=>by
 obtain ⟨p,hp⟩:∃ p,p ∈ (za3 t).parts:=⟨_,List.getElem_mem h⟩
 have h1:=con_dvd _ p hp
 rw [e] at h1
 exact ((zdh t).2.1 p hp).2.2 (Int.zero_dvd.1 h1)
theorem con_nil {t:zbb} (h:(za3 t).parts.length=0):zbu (za3 t).parts=0:=by rw [List.length_eq_zero_iff.1 h];rfl
theorem zdv (t:zbb):zbu (za3 (za3 t)).parts=zbu (za3 t).parts:=by rw [zcn]
theorem fmod_of_dvd {a b:Int} (h:b∣a):a.fmod b=0:=by obtain ⟨c,rfl⟩:=h;exact Int.mul_fmod_right b c
theorem SShrink (t:zbb) {n L:Nat} (ht:TOk n L t) (hn:n≤1000) (hL:L≤10000):Fn Tryz.prog 140 [] [(vT t)] (.tup [.agg ((zcv t).d.map C.d),.agg (zi (ZI.of (zbu (za3 t).parts)))]) []:=by
 have lnp:=(ht.plain hn).len
 have lkp:=(ht.plain hn).kl
 refine Fn.body Tryz.func140 rfl 49 rfl fun w H B a h=>?_
 refine rq za0 12 [] [(1,vp 12 0),(2,vp 13 0),(3,vp 14 0)] [(12,.box (zT t)),(13,.box [.d (.raw za6),cB false,.d (nsl [])]),(14,.box [cB false,.d (nsl [])])] h ?_;clear h;intro a w h
 refine rq za0 15 [(1,.call (SPlainO t ht (by omega) (by omega)) tm_7)] [(2,vp 13 0),(3,vp 14 0),(4,vp 15 0)] [(13,.box [.d (.raw za6),cB false,.d (nsl [])]),(14,.box [cB false,.d (nsl [])]),(0,.row 100 3 ((za3 t).parts.map za2.d)),(15,.box ([.own 0 (za3 t).parts.length]++zi (za3 t).k))] h ?_;clear h;intro a w h
 replace h:=zc7 0 9 [(2,vp 13 0),(3,vp 14 0),(4,vp 15 0)] [(13,.box [.d (.raw za6),cB false,.d (nsl [])]),(14,.box [cB false,.d (nsl [])]),(15,.box ([.own 9 (za3 t).parts.length]++zi (za3 t).k)),(9,.row 100 3 ((za3 t).parts.map za2.d))] h
 rcases Nat.eq_zero_or_pos (za3 t).parts.length with hz | hz
 ·have hg0:=con_nil hz
  replace h:=pubS 9 3 100 ((za3 t).parts.map za2.d) [(2,vp 13 0),(3,vp 14 0),(4,vp 15 0)] [(13,.box [.d (.raw za6),cB false,.d (nsl [])]),(14,.box [cB false,.d (nsl [])]),(15,.box (zT (za3 t)))] h rfl trivial (show zc5 _ [(za3 t).parts.length] from ⟨by first | exact (List.length_map _).symm | simp,trivial⟩)
  obtain ⟨r2,er2,vr2,or2,lr2⟩:=mkZ (v:=(zbu (za3 t).parts)) (m:=L+1) (by have:=con_len ht hn (za3 t).parts.length;rw [List.take_length] at this;exact this)
  have vG:=vr2
  refine rq za0 16 [(1,.call (Fn.cast (SContent (za3 t) (ht.plain hn) hn (by omega)) (show vz (ZI.of (zbu (za3 (za3 t)).parts))=vz r2 from by rw [zdv,er2])) tw_1)] [(2,vp 13 0),(3,vp 14 0),(4,vp 15 0),(5,vp 16 0)] [(13,.box [.d (.raw za6),cB false,.d (nsl [])]),(14,.box [cB false,.d (nsl [])]),(15,.box (zT (za3 t))),(16,.box (zi r2))] h ?_;clear h;intro a w h
  refine wp_seq (rq za0 17 [(1,.call (Fn.cast (zgq r2 or2 (by omega)) (congrArg (vi .i64) (zcy (by rw [vr2];exact hg0)))) td_6),(2,.cmp (op := .eql) (m:=0) (n:=0) (b:=true) .i64 rfl)] [(2,vp 13 0),(3,vp 14 0),(4,vp 15 0),(5,vp 16 0),(14,vb true)] [(13,.box [.d (.raw za6),cB false,.d (nsl [])]),(14,.box [cB false,.d (nsl [])]),(15,.box (zT (za3 t))),(16,.box (zi r2))] h ?_);clear h;intro a w h
  refine zaa true h rfl (fun hc=>?_) (fun hc=>?_)
  ·clear hc
   refine rq za0 17 [] [(2,vp 13 0),(3,vp 14 0),(4,vp 15 0),(5,vp 16 0)] [(13,.box (zT (za3 t))),(14,.box (zi r2)),(15,.box (zT (za3 t))),(16,.box (zi r2))] h ?_;clear h;intro a w h
   refine wp_ret (za9 ?_)
   refine zap [.agg (zT (za3 t)),.agg (zi r2)] h Exit.ret (.inl rfl)  rfl ⟨RV.agg _ 13 0 _ _ _ _ tb_11 rfl rfl rfl rfl,RV.agg _ 14 0 _ _ _ _ zdf rfl rfl rfl rfl,trivial⟩ ?_
   rw [show zcv t=za3 t from if_pos hg0,er2];first | done | rfl
  ·cases hc
 ·have hg0:=con_ne hz
  obtain ⟨r4,er4,vr4,or4,lr4⟩:=mkZ (v:=(zbu (za3 t).parts)) (m:=L+1) (by have:=con_len ht hn (za3 t).parts.length;rw [List.take_length] at this;exact this)
  have vG:=vr4
  refine rq za0 17 [(1,.call (Fn.cast (SContentW (za3 t) (ht.plain hn) hn (by omega) hz) (show vz (ZI.of (zbu (za3 (za3 t)).parts))=vz r4 from by rw [zdv,er4])) tw_1)] [(2,vp 13 0),(3,vp 14 0),(4,vp 15 0),(5,vp 17 0)] [(13,.box [.d (.raw za6),cB false,.d (nsl [])]),(14,.box [cB false,.d (nsl [])]),(15,.box ([.own 9 (za3 t).parts.length]++zi (za3 t).k)),(9,.row 100 3 ((za3 t).parts.map za2.d)),(17,.box (zi r4))] h ?_;clear h;intro a w h
  refine wp_seq (rq za0 18 [(1,.call (zgq r4 or4 (by omega)) td_6),(2,.cmp (op := .eql) (m:=(sgn r4.val)) (n:=0) (b:=false) .i64 (by rw [vr4];exact beq_eq_false_iff_ne.2 (fun e=>hg0 (sgn_eq0.1 e))))] [(2,vp 13 0),(3,vp 14 0),(4,vp 15 0),(5,vp 17 0),(14,vb false)] [(13,.box [.d (.raw za6),cB false,.d (nsl [])]),(14,.box [cB false,.d (nsl [])]),(15,.box ([.own 9 (za3 t).parts.length]++zi (za3 t).k)),(9,.row 100 3 ((za3 t).parts.map za2.d)),(17,.box (zi r4))] h ?_);clear h;intro a w h
  refine zaa false h rfl (fun hc=>?_) (fun hc=>?_)
  ·cases hc
  ·clear hc
   refine wp_skip (za4 (wp_seq (rq za0 18 [] [(2,vp 13 0),(3,vp 14 0),(4,vp 15 0),(5,vp 17 0),(18,.t (.c (.own 9 (za3 t).parts.length))),(19,vi .i64 ((za3 t).parts.length:Int)),(20,vi .i64 0)] [(13,.box [.d (.raw za6),cB false,.d (nsl [])]),(14,.box [cB false,.d (nsl [])]),(15,.box ([.own 9 (za3 t).parts.length]++zi (za3 t).k)),(9,.row 100 3 ((za3 t).parts.map za2.d)),(17,.box (zi r4))] h ?_)));clear h;intro a w h
   refine wp_block ?_
   replace h:=h.conv (f':=F.of [(2,vp 13 0),(3,vp 14 0),(4,vp 15 0),(5,vp 17 0),(18,.t (.c (.own 9 (za3 t).parts.length))),(19,vi .i64 ((za3 t).parts.length:Int)),(20,vi .i64 0)] [(13,.box [.d (.raw za6),cB false,.d (nsl [])]),(14,.box [cB false,.d (nsl [])]),(15,.box ([.own 9 (za3 t).parts.length]++zi (za3 t).k)),(9,.row 100 3 ((((za3 t).parts.take 0).map (zeq (zbu (za3 t).parts))++(za3 t).parts.drop 0).map za2.d)),(17,.box (zi r4))]) (congrArg (fun (z_:List za2)=>F.of [(2,vp 13 0),(3,vp 14 0),(4,vp 15 0),(5,vp 17 0),(18,.t (.c (.own 9 (za3 t).parts.length))),(19,vi .i64 ((za3 t).parts.length:Int)),(20,vi .i64 0)] [(13,.box [.d (.raw za6),cB false,.d (nsl [])]),(14,.box [cB false,.d (nsl [])]),(15,.box ([.own 9 (za3 t).parts.length]++zi (za3 t).k)),(9,.row 100 3 (z_.map za2.d)),(17,.box (zi r4))]) (show ((za3 t).parts:List za2)=(((za3 t).parts.take 0).map (zeq (zbu (za3 t).parts))++(za3 t).parts.drop 0) from by simp))
   refine zb1 (ι:=(Nat)) (fun (z_:(Nat))=>match z_ with | j=>j≤(za3 t).parts.length)
     (fun (z_:(Nat))=>match z_ with | j=>[(2,vp 13 0),(3,vp 14 0),(4,vp 15 0),(5,vp 17 0),(18,.t (.c (.own 9 (za3 t).parts.length))),(19,vi .i64 ((za3 t).parts.length:Int)),(20,vi .i64 (j:Int))])
     (fun (z_:(Nat))=>match z_ with | j=>[(13,.box [.d (.raw za6),cB false,.d (nsl [])]),(14,.box [cB false,.d (nsl [])]),(15,.box ([.own 9 (za3 t).parts.length]++zi (za3 t).k)),(9,.row 100 3 ((((za3 t).parts.take j).map (zeq (zbu (za3 t).parts))++(za3 t).parts.drop j).map za2.d)),(17,.box (zi r4))])
     (fun (z_:(Nat))=>match z_ with | j=>(za3 t).parts.length - j) 0 ?_ h (by kernel_rfl) (by kernel_rfl) ?_
   ·exact Nat.zero_le _
   ·clear h;rintro j a w hI h
    change St _ (F.of [(2,vp 13 0),(3,vp 14 0),(4,vp 15 0),(5,vp 17 0),(18,.t (.c (.own 9 (za3 t).parts.length))),(19,vi .i64 ((za3 t).parts.length:Int)),(20,vi .i64 (j:Int))] [(13,.box [.d (.raw za6),cB false,.d (nsl [])]),(14,.box [cB false,.d (nsl [])]),(15,.box ([.own 9 (za3 t).parts.length]++zi (za3 t).k)),(9,.row 100 3 ((((za3 t).parts.take j).map (zeq (zbu (za3 t).parts))++(za3 t).parts.drop j).map za2.d)),(17,.box (zi r4))]) a w at h
    have hrl:(((za3 t).parts.take j).map (zeq (zbu (za3 t).parts))++(za3 t).parts.drop j).length=(za3 t).parts.length:=by rw [List.length_append,List.length_map,List.length_take,List.length_drop];omega
    refine rq za0 18 [] [(2,vp 13 0),(3,vp 14 0),(4,vp 15 0),(5,vp 17 0),(18,.t (.c (.own 9 (za3 t).parts.length))),(19,vi .i64 ((za3 t).parts.length:Int)),(20,vi .i64 (j:Int)),(21,vb (decide ((j:Int)<((za3 t).parts.length:Int))))] [(13,.box [.d (.raw za6),cB false,.d (nsl [])]),(14,.box [cB false,.d (nsl [])]),(15,.box ([.own 9 (za3 t).parts.length]++zi (za3 t).k)),(9,.row 100 3 ((((za3 t).parts.take j).map (zeq (zbu (za3 t).parts))++(za3 t).parts.drop j).map za2.d)),(17,.box (zi r4))] h ?_;clear h;intro a w h
    refine wp_seq ?_
    refine zaa (decide ((j:Int)<((za3 t).parts.length:Int))) h rfl (fun hc=>?_) (fun hc=>?_)
    ·have hc1:=hc;clear hc
     have hc1':=of_decide_eq_true hc1
     refine wp_skip (za4 (wp_seq (wp_block ?_)))
     obtain ⟨x,hx⟩:∃ z_:za2,(za3 t).parts[j]?=some z_:=⟨_,List.getElem?_eq_getElem (by omega)⟩
     obtain ⟨ox,lx⟩:=(ht.plain hn).get hx
     refine rq za0 18 [(1,.gen _ _ _ fun _ _ _ _=>Op.idxO (d:=23) (t:=18) (k := .i64) (n:=9) (len:=(za3 t).parts.length) (i:=j) zc0 (by first | omega | (simp at *;omega)) (OV.tmp 20 _)),(2,.gen _ _ _ fun _ _ _ _=>Op.loadR_agg (d:=24) (t:=23) (n:=9) (i:=j) (fo:=0) (rty:=100) (es:=3) (xs:=[.raw (.int .i64 x.v),.raw (.bool x.c.neg),nsl x.c.abs]) zfg rfl (zal (show ((((za3 t).parts.take j).map (zeq (zbu (za3 t).parts))++(za3 t).parts.drop j):List za2)[j]?=some x from mov_at hx) (f:=za2.d)) rfl rfl)] [(2,vp 13 0),(3,vp 14 0),(4,vp 15 0),(5,vp 17 0),(6,vi .i64 (j:Int)),(7,vp 18 0),(18,.t (.c (.own 9 (za3 t).parts.length))),(19,vi .i64 ((za3 t).parts.length:Int)),(20,vi .i64 (j:Int))] [(13,.box [.d (.raw za6),cB false,.d (nsl [])]),(14,.box [cB false,.d (nsl [])]),(15,.box ([.own 9 (za3 t).parts.length]++zi (za3 t).k)),(9,.row 100 3 ((((za3 t).parts.take j).map (zeq (zbu (za3 t).parts))++(za3 t).parts.drop j).map za2.d)),(17,.box (zi r4)),(18,.box ([cI x.v]++zi x.c))] h ?_;clear h;intro a w h
     obtain ⟨r6,er6,vr6,or6,lr6⟩:=mkZ (v:=x.c.val.fdiv r4.val) (m:=x.c.abs.length) (zhh ox (by rw [vG];exact hg0))
     refine rn za0 19 [(6,.call (Fn.cast (SExact x.c r4 ox or4 (by omega) (by omega) (by rw [vG];exact hg0) (by rw [vG];exact fmod_of_dvd (con_dvd _ x (List.mem_of_getElem? hx)))) (show _=(.tup [.agg (zi r6),.c (cI 0)]:V) by rw [er6];first | done | rfl)) tw_7),(10,.gen _ _ _ fun _ _ _ _=>Op.idxO (d:=35) (t:=27) (k := .i64) (n:=9) (len:=(za3 t).parts.length) (i:=j) zc0 (by first | omega | (simp at *;omega)) (OV.tmp 28 _)),(12,.gen _ _ _ fun _ _ _ _=>Op.storeR (t:=36) (n:=9) (i:=j) (fo:=1) (rty:=100) (es:=3) (r:=za2.d x) (ds:=[.raw (.bool r6.neg),nsl r6.abs]) (rs:=[(33,vz r6)]) (rows:=(((za3 t).parts.take j).map (zeq (zbu (za3 t).parts))++(za3 t).parts.drop j).map za2.d) (rows':=((((za3 t).parts.take j).map (zeq (zbu (za3 t).parts))++(za3 t).parts.drop j).set j (za2.mk x.v r6)).map za2.d) zdf (OV.tmp 33 _) rfl rfl rfl (zal (show ((((za3 t).parts.take j).map (zeq (zbu (za3 t).parts))++(za3 t).parts.drop j):List za2)[j]?=some x from mov_at hx) (f:=za2.d)) (by simp [za2.d]) (zck (xs:=(((za3 t).parts.take j).map (zeq (zbu (za3 t).parts))++(za3 t).parts.drop j)) (F:=za2.d) j _ _ rfl))] [(2,vp 13 0),(3,vp 14 0),(4,vp 15 0),(5,vp 17 0),(18,.t (.c (.own 9 (za3 t).parts.length))),(19,vi .i64 ((za3 t).parts.length:Int)),(20,vi .i64 (j:Int))] [(13,.box [.d (.raw za6),cB false,.d (nsl [])]),(14,.box [cB false,.d (nsl [])]),(15,.box ([.own 9 (za3 t).parts.length]++zi (za3 t).k)),(9,.row 100 3 (((((za3 t).parts.take j).map (zeq (zbu (za3 t).parts))++(za3 t).parts.drop j).set j (za2.mk x.v r6)).map za2.d)),(17,.box (zi r4))] h ?_;clear h;intro a w h
     refine zac (za4 (rn za0 19 [(0,.add .i64 (m:=(j:Int)) (n:=1) (zad (by omega) (by omega)))] [(2,vp 13 0),(3,vp 14 0),(4,vp 15 0),(5,vp 17 0),(18,.t (.c (.own 9 (za3 t).parts.length))),(19,vi .i64 ((za3 t).parts.length:Int)),(20,vi .i64 ((j:Int)+1))] [(13,.box [.d (.raw za6),cB false,.d (nsl [])]),(14,.box [cB false,.d (nsl [])]),(15,.box ([.own 9 (za3 t).parts.length]++zi (za3 t).k)),(9,.row 100 3 (((((za3 t).parts.take j).map (zeq (zbu (za3 t).parts))++(za3 t).parts.drop j).set j (za2.mk x.v r6)).map za2.d)),(17,.box (zi r4))] h ?_));clear h;intro a w h
     refine za4 ?_
     have hdx:za2.mk x.v r6=zeq (zbu (za3 t).parts) x:=by rw [er6,vG];rfl
     replace h:=h.conv (f':=F.of [(2,vp 13 0),(3,vp 14 0),(4,vp 15 0),(5,vp 17 0),(18,.t (.c (.own 9 (za3 t).parts.length))),(19,vi .i64 ((za3 t).parts.length:Int)),(20,vi .i64 ((j:Int)+1))] [(13,.box [.d (.raw za6),cB false,.d (nsl [])]),(14,.box [cB false,.d (nsl [])]),(15,.box ([.own 9 (za3 t).parts.length]++zi (za3 t).k)),(9,.row 100 3 ((((za3 t).parts.take (j+1)).map (zeq (zbu (za3 t).parts))++(za3 t).parts.drop (j+1)).map za2.d)),(17,.box (zi r4))]) (congrArg (fun (z_:List za2)=>F.of [(2,vp 13 0),(3,vp 14 0),(4,vp 15 0),(5,vp 17 0),(18,.t (.c (.own 9 (za3 t).parts.length))),(19,vi .i64 ((za3 t).parts.length:Int)),(20,vi .i64 ((j:Int)+1))] [(13,.box [.d (.raw za6),cB false,.d (nsl [])]),(14,.box [cB false,.d (nsl [])]),(15,.box ([.own 9 (za3 t).parts.length]++zi (za3 t).k)),(9,.row 100 3 (z_.map za2.d)),(17,.box (zi r4))]) (show (((((za3 t).parts.take j).map (zeq (zbu (za3 t).parts))++(za3 t).parts.drop j).set j (za2.mk x.v r6)):List za2)=(((za3 t).parts.take (j+1)).map (zeq (zbu (za3 t).parts))++(za3 t).parts.drop (j+1)) from by rw [hdx];exact mov_set hx))
     refine zam (x:=j) (y:=(j+1)) h ?_ ?_
     ·have:=zak hx;omega
     ·show (za3 t).parts.length - (j+1)<(za3 t).parts.length - j
      have:=zak hx;omega
    ·have hc2:=hc;clear hc
     have hc2':=of_decide_eq_false hc2
     refine wp_exit (zai (zai (za8 (za4 ?_))))
     obtain ⟨r7q,er7q,vr7q,or7q,lr7q⟩:=mkZ (v:=(za3 t).k.val.fdiv r4.val) (m:=(za3 t).k.abs.length) (zhh (ht.plain hn).kb (by rw [vG];exact hg0))
     obtain ⟨r7r,er7r,vr7r,or7r,lr7r⟩:=mkZ (v:=(za3 t).k.val.fmod r4.val) (m:=r4.abs.length) (len_fmod or4 (by rw [vG];exact hg0))
     refine rq za0 19 [(3,.call (Fn.cast (SDiv (za3 t).k r4 (ht.plain hn).kb or4 (by omega) (by omega) (by rw [vG];exact hg0)) (show _=(.tup [.agg (zi r7q),.agg (zi r7r),.c (cI 0)]:V) by rw [er7q,er7r];first | done | rfl)) zs_20)] [(2,vp 13 0),(3,vp 14 0),(4,vp 15 0),(5,vp 17 0)] [(13,.box [.d (.raw za6),cB false,.d (nsl [])]),(14,.box [cB false,.d (nsl [])]),(15,.box ([.own 9 (za3 t).parts.length]++zi r7q)),(9,.row 100 3 ((((za3 t).parts.take j).map (zeq (zbu (za3 t).parts))++(za3 t).parts.drop j).map za2.d)),(17,.box (zi r4))] h ?_;clear h;intro a w h
     replace h:=h.conv (f':=F.of [(2,vp 13 0),(3,vp 14 0),(4,vp 15 0),(5,vp 17 0)] [(13,.box [.d (.raw za6),cB false,.d (nsl [])]),(14,.box [cB false,.d (nsl [])]),(15,.box ([.own 9 (za3 t).parts.length]++zi r7q)),(9,.row 100 3 (((za3 t).parts.map (zeq (zbu (za3 t).parts))).map za2.d)),(17,.box (zi r4))]) (congrArg (fun (z_:List za2)=>F.of [(2,vp 13 0),(3,vp 14 0),(4,vp 15 0),(5,vp 17 0)] [(13,.box [.d (.raw za6),cB false,.d (nsl [])]),(14,.box [cB false,.d (nsl [])]),(15,.box ([.own 9 (za3 t).parts.length]++zi r7q)),(9,.row 100 3 (z_.map za2.d)),(17,.box (zi r4))]) (show ((((za3 t).parts.take j).map (zeq (zbu (za3 t).parts))++(za3 t).parts.drop j):List za2)=((za3 t).parts.map (zeq (zbu (za3 t).parts))) from by rw [show j=(za3 t).parts.length by omega,List.take_length,List.drop_length,List.append_nil]))
     replace h:=h.conv (f':=F.of [(2,vp 13 0),(3,vp 14 0),(4,vp 15 0),(5,vp 17 0)] [(13,.box [.d (.raw za6),cB false,.d (nsl [])]),(14,.box [cB false,.d (nsl [])]),(15,.box ([.own 9 ((za3 t).parts.map (zeq (zbu (za3 t).parts))).length]++zi r7q)),(9,.row 100 3 (((za3 t).parts.map (zeq (zbu (za3 t).parts))).map za2.d)),(17,.box (zi r4))]) (by rw [show ((za3 t).parts.map (zeq (zbu (za3 t).parts))).length=(za3 t).parts.length from List.length_map _])
     replace h:=pubS 9 3 100 (((za3 t).parts.map (zeq (zbu (za3 t).parts))).map za2.d) [(2,vp 13 0),(3,vp 14 0),(4,vp 15 0),(5,vp 17 0)] [(13,.box [.d (.raw za6),cB false,.d (nsl [])]),(14,.box [cB false,.d (nsl [])]),(15,.box ([cPs ((za3 t).parts.map (zeq (zbu (za3 t).parts)))]++zi r7q)),(17,.box (zi r4))] h rfl trivial (show zc5 _ [((za3 t).parts.map (zeq (zbu (za3 t).parts))).length] from ⟨by first | exact (List.length_map _).symm | simp,trivial⟩)
     refine rq za0 19 [] [(2,vp 13 0),(3,vp 14 0)] [(13,.box ([cPs ((za3 t).parts.map (zeq (zbu (za3 t).parts)))]++zi r7q)),(14,.box (zi r4))] h ?_;clear h;intro a w h
     refine wp_ret ?_
     refine zap [.agg ([cPs ((za3 t).parts.map (zeq (zbu (za3 t).parts)))]++zi r7q),.agg (zi r4)] h Exit.ret (.inl rfl)  rfl ⟨RV.agg _ 13 0 _ _ _ _ tb_11 rfl rfl rfl rfl,RV.agg _ 14 0 _ _ _ _ zdf rfl rfl rfl rfl,trivial⟩ ?_
     have hs:zcv t=⟨(za3 t).parts.map (zeq (zbu (za3 t).parts)),r7q⟩:=by unfold zcv;rw [if_neg hg0,er7q,vG,show (za3 t).k.val=t.k.val from ZI.val_of _]
     rw [hs,er4];first | done | rfl
end
section
open Go.RowKit

theorem tx_2:za7 Tryz.prog 158:=za7.mk' (by kernel_rfl)
theorem tx_4:za7 Tryz.prog 42:=za7.mk' (by kernel_rfl)
theorem tx_6:za7 Tryz.prog 157:=za7.mk' (by kernel_rfl)
theorem tx_8:za7 Tryz.prog 159:=za7.mk' (by kernel_rfl)
theorem tx_9:za7 Tryz.prog 137:=za7.mk' (by kernel_rfl)
def orZ:List Int→Int
  | []=>0
  | x :: xs=>if x≠0 then x else orZ xs
theorem orZ_at {xs:List Int} {j:Nat} {x:Int} (h:xs[j]?=some x):orZ (xs.drop j)=if x≠0 then x else orZ (xs.drop (j+1)):=by
 obtain ⟨hj,rfl⟩:=List.getElem?_eq_some_iff.1 h
 rw [List.drop_eq_getElem_cons hj];rfl
def cmpP (p q:za2):Int:=orZ [zbn p.v q.v,zbn p.c.val q.c.val]
def ze8:List za2→List za2→Int
  | [],[]=>0
  | [],_ :: _=>-1
  | _ :: _,[]=>1
  | p :: ps,q :: qs=>if cmpP p q≠0 then cmpP p q else ze8 ps qs
def cmpT (s t:zbb):Int:=orZ [ze8 (za3 s).parts (za3 t).parts,zbn (za3 s).k.val (za3 t).k.val]
theorem cps_at {xs ys:List za2} {j:Nat} {p q:za2} (h:xs[j]?=some p) (k:ys[j]?=some q):ze8 (xs.drop j) (ys.drop j)=if cmpP p q≠0 then cmpP p q else ze8 (xs.drop (j+1)) (ys.drop (j+1)):=by
 obtain ⟨hj,rfl⟩:=List.getElem?_eq_some_iff.1 h
 obtain ⟨kj,rfl⟩:=List.getElem?_eq_some_iff.1 k
 rw [List.drop_eq_getElem_cons hj,List.drop_eq_getElem_cons kj];rfl
theorem cps_end {xs ys:List za2} {j:Nat} (_h:j≤xs.length) (_k:j≤ys.length):(j=ys.length→j<xs.length→ze8 (xs.drop j) (ys.drop j)=1)∧(j=xs.length→j<ys.length→ze8 (xs.drop j) (ys.drop j)=-1)∧(j=xs.length→j=ys.length→ze8 (xs.drop j) (ys.drop j)=0):=by
 refine ⟨fun h1 h2=>?_,fun h1 h2=>?_,fun h1 h2=>?_⟩
 ·rw [List.drop_eq_getElem_cons h2,List.drop_of_length_le (l:=ys) (by omega)];rfl
 ·rw [List.drop_eq_getElem_cons h2,List.drop_of_length_le (l:=xs) (by omega)];rfl
 ·rw [List.drop_of_length_le (l:=xs) (by omega),List.drop_of_length_le (l:=ys) (by omega)];rfl
theorem SOr (xs:List Int) (hl:xs.length≤1000000):Fn Tryz.prog 42 [] [(vIs xs)] (vi .i64 (orZ xs)) []:=by
 refine Fn.body Tryz.func42 rfl 18 rfl fun w H B a h=>?_
 refine rq za0 0 [] [(0,(vIs xs)),(2,vi .i64 0)] [] h ?_;clear h;intro a w h
 refine rq za0 0 [] [(0,(vIs xs)),(2,vi .i64 0),(3,vi .i64 0)] [] h ?_;clear h;intro a w h
 refine wp_seq (rq za0 0 [(1,.len (c:=(cIs xs)) (n:=xs.length) (zae _ _ _))] [(2,vi .i64 0),(3,vi .i64 0),(6,(vIs xs)),(7,vi .i64 (xs.length:Int)),(8,vi .i64 0)] [] h ?_);clear h;intro a w h
 refine wp_block ?_
 refine zb1 (ι:=(Nat)) (fun (z_:(Nat))=>match z_ with | j=>j≤xs.length∧orZ xs=orZ (xs.drop j))
   (fun (z_:(Nat))=>match z_ with | j=>[(3,vi .i64 0),(6,(vIs xs)),(7,vi .i64 (xs.length:Int)),(8,vi .i64 (j:Int))])
   (fun (z_:(Nat))=>match z_ with | j=>[])
   (fun (z_:(Nat))=>match z_ with | j=>xs.length - j) 0 ?_ h (by kernel_rfl) (by kernel_rfl) ?_
 ·exact ⟨Nat.zero_le _,rfl⟩
 ·clear h;rintro j a w hI h
  change St _ (F.of [(3,vi .i64 0),(6,(vIs xs)),(7,vi .i64 (xs.length:Int)),(8,vi .i64 (j:Int))] []) a w at h
  obtain ⟨hI1,hI2⟩:=hI
  refine rq za0 0 [] [(3,vi .i64 0),(6,(vIs xs)),(7,vi .i64 (xs.length:Int)),(8,vi .i64 (j:Int)),(9,vb (decide ((j:Int)<(xs.length:Int))))] [] h ?_;clear h;intro a w h
  refine wp_seq ?_
  refine zaa (decide ((j:Int)<(xs.length:Int))) h rfl (fun hc=>?_) (fun hc=>?_)
  ·have hc1:=hc;clear hc
   have hc1':=of_decide_eq_true hc1
   refine wp_skip (za4 (wp_seq (wp_block ?_)))
   obtain ⟨x1,hx1⟩:∃ z_:Int,xs[j]?=some z_:=⟨_,List.getElem?_eq_getElem (by first | omega | (simp at *;omega))⟩
   refine rq za0 0 [(0,.gen _ _ _ fun _ _ _ _=>Op.idxD (d:=10) (t:=6) (k := .i64) tb_1 (zal hx1 (f:=zbo)) (OV.tmp 8 _))] [(3,vi .i64 0),(5,vi .i64 x1),(6,(vIs xs)),(7,vi .i64 (xs.length:Int)),(8,vi .i64 (j:Int))] [] h ?_;clear h;intro a w h
   refine rq za0 0 [] [(3,vi .i64 0),(5,vi .i64 x1),(6,(vIs xs)),(7,vi .i64 (xs.length:Int)),(8,vi .i64 (j:Int)),(14,vb (x1 != 0))] [] h ?_;clear h;intro a w h
   refine zaa (x1 != 0) h rfl (fun hc=>?_) (fun hc=>?_)
   ·have hc2:=hc;clear hc
    have hc2':=hc2;(try simp at hc2')
    refine rq za0 0 [] [(2,vi .i64 x1),(3,vi .i64 0),(6,(vIs xs)),(7,vi .i64 (xs.length:Int)),(8,vi .i64 (j:Int))] [] h ?_;clear h;intro a w h
    refine wp_ret (zaf (za9 (za9 (zaf (za9 ?_)))))
    refine zap [.c (cI x1)] h Exit.ret (.inl rfl)  rfl ⟨RV.tmp _ _ rfl,trivial⟩ ?_
    rw [hI2,orZ_at hx1,if_pos (by simpa using hc2)];first | done | rfl
   ·have hc3:=hc;clear hc
    have hc3':=hc3;(try simp at hc3')
    refine wp_skip (zac (za4 (rn za0 0 [(0,.add .i64 (m:=(j:Int)) (n:=1) (zad (by omega) (by omega)))] [(3,vi .i64 0),(6,(vIs xs)),(7,vi .i64 (xs.length:Int)),(8,vi .i64 ((j:Int)+1))] [] h ?_)));clear h;intro a w h
    refine za4 ?_
    refine zam (x:=j) (y:=(j+1)) h ?_ ?_
    ·have:=zak hx1
     exact ⟨by omega,by rw [hI2,orZ_at hx1,if_neg (by simpa using hc3)]⟩
    ·show xs.length - (j+1)<xs.length - j
     have:=zak hx1;omega
  ·have hc4:=hc;clear hc
   have hc4':=of_decide_eq_false hc4
   refine wp_exit (zai (zai (za8 (za4 (rq za0 0 [] [(2,vi .i64 0)] [] h ?_)))));clear h;intro a w h
   refine wp_ret ?_
   refine zap [.c (cI 0)] h Exit.ret (.inl rfl)  rfl ⟨RV.tmp _ _ rfl,trivial⟩ ?_
   rw [hI2,List.drop_of_length_le (by omega)];first | done | rfl
theorem SCmpP (p q:za2) (hp:Lb p.c.abs) (hq:Lb q.c.abs) (lp:p.c.abs.length≤49000) (lq:q.c.abs.length≤49000):Fn Tryz.prog 157 [] [.t (.agg ([cI p.v]++zi p.c)),.t (.agg ([cI q.v]++zi q.c))] (vi .i64 (cmpP p q)) []:=by
 refine Fn.body Tryz.func157 rfl 17 rfl fun w H B a h=>?_
 refine rq za0 0 [] [(2,vp 0 0),(3,vp 1 0),(4,vi .i64 0)] [(0,.box ([cI p.v]++zi p.c)),(1,.box ([cI q.v]++zi q.c))] h ?_;clear h;intro a w h
 refine rq za0 2 [(4,.call (zg8 p.v q.v) td_5),(9,.call (SCmp p.c q.c hp hq (by omega) (by omega)) tx_2),(10,.gen _ _ _ fun _ _ _ _=>Op.buildD (d:=15) (len:=2) (rows:=[zbn p.v q.v,(zbn p.c.val q.c.val)].map zbo) (rs:=[(9,vi .i64 (zbn p.v q.v)),(14,vi .i64 (zbn p.c.val q.c.val))]) tb_0 (.cons (i:=0) (OV.tmp 9 _) (.cons (i:=1) (OV.tmp 14 _) (.nil))) (by kernel_rfl) rfl (by simp [zbo]) (by decide) (by decide)),(11,.call (SOr [zbn p.v q.v,(zbn p.c.val q.c.val)] (show List.length _≤1000000 from by simp)) tx_4)] [(4,vi .i64 (orZ [zbn p.v q.v,(zbn p.c.val q.c.val)]))] [] h ?_;clear h;intro a w h
 refine wp_ret ?_
 refine zap [.c (cI (orZ [zbn p.v q.v,(zbn p.c.val q.c.val)]))] h Exit.ret (.inl rfl)  rfl ⟨RV.tmp _ _ rfl,trivial⟩ ?_
 rfl
theorem SCompareF (xs ys:List za2) (hx:PsOk 40000 xs) (hy:PsOk 40000 ys):Fn Tryz.prog 159 [] [(vPs xs),(vPs ys),.t (.c (.fn (.func 157) [] []))] (vi .i64 (ze8 xs ys)) []:=by
 have lnx:=hx.1
 have lny:=hy.1
 refine Fn.body Tryz.func159 rfl 39 rfl fun w H B a h=>?_
 refine rq za0 0 [] [(0,(vPs xs)),(1,(vPs ys)),(2,.t (.c (.fn (.func 157) [] []))),(6,vi .i64 0)] [] h ?_;clear h;intro a w h
 refine wp_seq (rq za0 0 [(1,.len (c:=(cPs xs)) (n:=xs.length) (zae _ _ _))] [(0,(vPs xs)),(1,(vPs ys)),(2,.t (.c (.fn (.func 157) [] []))),(6,vi .i64 0),(11,(vPs xs)),(12,vi .i64 (xs.length:Int)),(13,vi .i64 0)] [] h ?_);clear h;intro a w h
 refine wp_block ?_
 refine zb1 (ι:=(Nat)) (fun (z_:(Nat))=>match z_ with | j=>j≤xs.length∧j≤ys.length∧ze8 xs ys=ze8 (xs.drop j) (ys.drop j))
   (fun (z_:(Nat))=>match z_ with | j=>[(0,(vPs xs)),(1,(vPs ys)),(2,.t (.c (.fn (.func 157) [] []))),(11,(vPs xs)),(12,vi .i64 (xs.length:Int)),(13,vi .i64 (j:Int))])
   (fun (z_:(Nat))=>match z_ with | j=>[])
   (fun (z_:(Nat))=>match z_ with | j=>xs.length - j) 0 ?_ h (by kernel_rfl) (by kernel_rfl) ?_
 ·exact ⟨Nat.zero_le _,Nat.zero_le _,rfl⟩
 ·clear h;rintro j a w hI h
  change St _ (F.of [(0,(vPs xs)),(1,(vPs ys)),(2,.t (.c (.fn (.func 157) [] []))),(11,(vPs xs)),(12,vi .i64 (xs.length:Int)),(13,vi .i64 (j:Int))] []) a w at h
  obtain ⟨hI1,hI2,hI3⟩:=hI
  have hce:=cps_end hI1 hI2
  have lnx:=hx.1
  have lny:=hy.1
  refine rq za0 0 [] [(0,(vPs xs)),(1,(vPs ys)),(2,.t (.c (.fn (.func 157) [] []))),(11,(vPs xs)),(12,vi .i64 (xs.length:Int)),(13,vi .i64 (j:Int)),(14,vb (decide ((j:Int)<(xs.length:Int))))] [] h ?_;clear h;intro a w h
  refine wp_seq ?_
  refine zaa (decide ((j:Int)<(xs.length:Int))) h rfl (fun hc=>?_) (fun hc=>?_)
  ·have hc1:=hc;clear hc
   have hc1':=of_decide_eq_true hc1
   refine wp_skip (za4 (wp_seq (wp_block ?_)))
   obtain ⟨x1,hx1⟩:∃ z_:za2,xs[j]?=some z_:=⟨_,List.getElem?_eq_getElem (by first | omega | (simp at *;omega))⟩
   obtain ⟨ox1,lx1⟩:=hx.get hx1
   refine rq za0 0 [(1,.gen _ _ _ fun _ _ _ _=>Op.idxD (d:=16) (t:=11) (k := .i64) zc0 (zal hx1 (f:=za2.d)) (OV.tmp 13 _))] [(0,(vPs xs)),(1,(vPs ys)),(2,.t (.c (.fn (.func 157) [] []))),(7,vi .i64 (j:Int)),(8,vp 0 0),(11,(vPs xs)),(12,vi .i64 (xs.length:Int)),(13,vi .i64 (j:Int))] [(0,.box ([cI x1.v]++zi x1.c))] h ?_;clear h;intro a w h
   refine wp_seq (rq za0 1 [(2,.len (c:=(cPs ys)) (n:=ys.length) (zae _ _ _))] [(0,(vPs xs)),(1,(vPs ys)),(2,.t (.c (.fn (.func 157) [] []))),(7,vi .i64 (j:Int)),(8,vp 0 0),(11,(vPs xs)),(12,vi .i64 (xs.length:Int)),(13,vi .i64 (j:Int)),(21,vb (decide ((j:Int)≥(ys.length:Int))))] [(0,.box ([cI x1.v]++zi x1.c))] h ?_);clear h;intro a w h
   refine zaa (decide ((j:Int)≥(ys.length:Int))) h rfl (fun hc=>?_) (fun hc=>?_)
   ·have hc2:=hc;clear hc
    have hc2':=of_decide_eq_true hc2
    refine rq za0 1 [] [(0,(vPs xs)),(1,(vPs ys)),(2,.t (.c (.fn (.func 157) [] []))),(6,vi .i64 1),(7,vi .i64 (j:Int)),(8,vp 0 0),(11,(vPs xs)),(12,vi .i64 (xs.length:Int)),(13,vi .i64 (j:Int))] [(0,.box ([cI x1.v]++zi x1.c))] h ?_;clear h;intro a w h
    refine wp_ret (za9 (zaf (za9 (za9 (zaf (za9 ?_))))))
    refine zap [.c (cI 1)] h Exit.ret (.inl rfl)  rfl ⟨RV.tmp _ _ rfl,trivial⟩ ?_
    rw [hI3,hce.1 (by omega) (by omega)];first | done | rfl
   ·have hc3:=hc;clear hc
    have hc3':=of_decide_eq_false hc3
    refine wp_skip (za4 ?_)
    obtain ⟨x2,hx2⟩:∃ z_:za2,ys[j]?=some z_:=⟨_,List.getElem?_eq_getElem (by first | omega | (simp at *;omega))⟩
    obtain ⟨ox2,lx2⟩:=hy.get hx2
    refine rq za0 1 [(2,.gen _ _ _ fun _ _ _ _=>Op.idxD (d:=24) (t:=22) (k := .i64) zc0 (zal hx2 (f:=za2.d)) (OV.tmp 23 _))] [(0,(vPs xs)),(1,(vPs ys)),(2,.t (.c (.fn (.func 157) [] []))),(8,vp 0 0),(9,vp 1 0),(11,(vPs xs)),(12,vi .i64 (xs.length:Int)),(13,vi .i64 (j:Int))] [(0,.box ([cI x1.v]++zi x1.c)),(1,.box ([cI x2.v]++zi x2.c))] h ?_;clear h;intro a w h
    refine rq za0 2 [(3,.gen _ _ _ fun _ _ _ _=>Op.callV (d:=29) (t:=26) (cap:=[]) (args:=[.t (.agg ([cI x1.v]++zi x1.c)),.t (.agg ([cI x2.v]++zi x2.c))]) (rs:=[(27,.t (.agg ([cI x1.v]++zi x1.c))),(28,.t (.agg ([cI x2.v]++zi x2.c)))]) (tys:=#[100,100]) (SCmpP x1 x2 ox1 ox2 (by omega) (by omega)) tx_6 (OVs.cons (OV.tmp 27 _) (OVs.cons (OV.tmp 28 _) (OVs.nil))))] [(0,(vPs xs)),(1,(vPs ys)),(2,.t (.c (.fn (.func 157) [] []))),(10,vi .i64 (cmpP x1 x2)),(11,(vPs xs)),(12,vi .i64 (xs.length:Int)),(13,vi .i64 (j:Int))] [] h ?_;clear h;intro a w h
    refine rq za0 2 [] [(0,(vPs xs)),(1,(vPs ys)),(2,.t (.c (.fn (.func 157) [] []))),(10,vi .i64 (cmpP x1 x2)),(11,(vPs xs)),(12,vi .i64 (xs.length:Int)),(13,vi .i64 (j:Int)),(31,vb ((cmpP x1 x2) != 0))] [] h ?_;clear h;intro a w h
    refine zaa ((cmpP x1 x2) != 0) h rfl (fun hc=>?_) (fun hc=>?_)
    ·have hc4:=hc;clear hc
     have hc4':=hc4;(try simp at hc4')
     refine rq za0 2 [] [(0,(vPs xs)),(1,(vPs ys)),(2,.t (.c (.fn (.func 157) [] []))),(6,vi .i64 (cmpP x1 x2)),(11,(vPs xs)),(12,vi .i64 (xs.length:Int)),(13,vi .i64 (j:Int))] [] h ?_;clear h;intro a w h
     refine wp_ret (zaf (za9 (za9 (zaf (za9 ?_)))))
     refine zap [.c (cI (cmpP x1 x2))] h Exit.ret (.inl rfl)  rfl ⟨RV.tmp _ _ rfl,trivial⟩ ?_
     rw [hI3,cps_at hx1 hx2,if_pos (by simpa using hc4)];first | done | rfl
    ·have hc5:=hc;clear hc
     have hc5':=hc5;(try simp at hc5')
     refine wp_skip (zac (za4 (rn za0 2 [(0,.add .i64 (m:=(j:Int)) (n:=1) (zad (by omega) (by omega)))] [(0,(vPs xs)),(1,(vPs ys)),(2,.t (.c (.fn (.func 157) [] []))),(11,(vPs xs)),(12,vi .i64 (xs.length:Int)),(13,vi .i64 ((j:Int)+1))] [] h ?_)));clear h;intro a w h
     refine za4 ?_
     refine zam (x:=j) (y:=(j+1)) h ?_ ?_
     ·have:=zak hx1
      have:=zak hx2
      exact ⟨by omega,by omega,by rw [hI3,cps_at hx1 hx2,if_neg (by simpa using hc5)]⟩
     ·show xs.length - (j+1)<xs.length - j
      have:=zak hx1;omega
  ·have hc6:=hc;clear hc
   have hc6':=of_decide_eq_false hc6
   refine wp_exit (zai (zai (za8 (za4 (wp_seq (rq za0 2 [(1,.len (c:=(cPs xs)) (n:=xs.length) (zae _ _ _)),(3,.len (c:=(cPs ys)) (n:=ys.length) (zae _ _ _))] [(38,vb (decide ((xs.length:Int)<(ys.length:Int))))] [] h ?_))))));clear h;intro a w h
   refine zaa (decide ((xs.length:Int)<(ys.length:Int))) h rfl (fun hc=>?_) (fun hc=>?_)
   ·have hc7:=hc;clear hc
    have hc7':=of_decide_eq_true hc7
    refine rq za0 2 [] [(6,vi .i64 (-1))] [] h ?_;clear h;intro a w h
    refine wp_ret (za9 ?_)
    refine zap [.c (cI (-1))] h Exit.ret (.inl rfl)  rfl ⟨RV.tmp _ _ rfl,trivial⟩ ?_
    rw [hI3,hce.2.1 (by omega) (by omega)];first | done | rfl
   ·have hc8:=hc;clear hc
    have hc8':=of_decide_eq_false hc8
    refine wp_skip (za4 (rq za0 2 [] [(6,vi .i64 0)] [] h ?_));clear h;intro a w h
    refine wp_ret ?_
    refine zap [.c (cI 0)] h Exit.ret (.inl rfl)  rfl ⟨RV.tmp _ _ rfl,trivial⟩ ?_
    rw [hI3,hce.2.2 (by omega) (by omega)];first | done | rfl
theorem STCmp (s t:zbb) {n L:Nat} (hs:TOk n L s) (ht:TOk n L t) (hn:n≤1000) (hL:L≤20000):Fn Tryz.prog 137 [] [(vT s),(vT t)] (vi .i64 (cmpT s t)) []:=by
 have lks:=(hs.plain hn).kl
 have lkt:=(ht.plain hn).kl
 refine Fn.body Tryz.func137 rfl 23 rfl fun w H B a h=>?_
 refine rq za0 0 [] [(2,vp 0 0),(3,vp 1 0),(4,vi .i64 0)] [(0,.box (zT s)),(1,.box (zT t))] h ?_;clear h;intro a w h
 refine rq za0 2 [(1,.call (zev s hs hn (by omega)) tm_7),(3,.call (zev t ht hn (by omega)) tm_7)] [(2,vp 0 0),(3,vp 1 0),(4,vi .i64 0)] [(0,.box (zT (za3 s))),(1,.box (zT (za3 t)))] h ?_;clear h;intro a w h
 refine rq za0 2 [] [(2,vp 0 0),(3,vp 1 0),(4,vi .i64 0),(5,.t (.c (.fn (.func 157) [] [])))] [(0,.box (zT (za3 s))),(1,.box (zT (za3 t)))] h ?_;clear h;intro a w h
 refine rq za0 2 [(5,.call (SCompareF (za3 s).parts (za3 t).parts ((hs.plain hn).mono hn (by omega)).psok ((ht.plain hn).mono hn (by omega)).psok) tx_8),(10,.call (SCmp (za3 s).k (za3 t).k (hs.plain hn).kb (ht.plain hn).kb (by omega) (by omega)) tx_2),(11,.gen _ _ _ fun _ _ _ _=>Op.buildD (d:=21) (len:=2) (rows:=[(ze8 (za3 s).parts (za3 t).parts),(zbn (za3 s).k.val (za3 t).k.val)].map zbo) (rs:=[(15,vi .i64 (ze8 (za3 s).parts (za3 t).parts)),(20,vi .i64 (zbn (za3 s).k.val (za3 t).k.val))]) tb_0 (.cons (i:=0) (OV.tmp 15 _) (.cons (i:=1) (OV.tmp 20 _) (.nil))) (by kernel_rfl) rfl (by simp [zbo]) (by decide) (by decide)),(12,.call (SOr [(ze8 (za3 s).parts (za3 t).parts),(zbn (za3 s).k.val (za3 t).k.val)] (show List.length _≤1000000 from by simp)) tx_4)] [(4,vi .i64 (orZ [(ze8 (za3 s).parts (za3 t).parts),(zbn (za3 s).k.val (za3 t).k.val)]))] [] h ?_;clear h;intro a w h
 refine wp_ret ?_
 refine zap [.c (cI (orZ [(ze8 (za3 s).parts (za3 t).parts),(zbn (za3 s).k.val (za3 t).k.val)]))] h Exit.ret (.inl rfl)  rfl ⟨RV.tmp _ _ rfl,trivial⟩ ?_
 rfl
end
section
open Go.RowKit
end
section
open Go.RowKit

theorem ty_2:za7 Tryz.prog 140:=za7.mk' (by kernel_rfl)
theorem ty_5:ElZ Tryz.prog 28 53 2:=ElZ.mk' Tryz.underlying28 _ _ rfl rfl (by kernel_rfl) (by kernel_rfl) (by kernel_rfl) (by decide)
theorem ty_6:za7 Tryz.prog 78:=za7.mk' (by kernel_rfl)
theorem cmpZ_self' (x:Int):zbn x x=0:=cmpZ_eq rfl
end
section
open Go.RowKit

theorem shr_tok {n L:Nat} {t:zbb} (h:TOk n L t) (hn:n≤1000):TOk n (L+1) (zcv t):=by
 unfold zcv
 split
 ·exact h.plain hn
 ·rename_i hg
  have hp:=h.plain hn
  have lg:(zbu (za3 t).parts)≠0:=hg
  refine ⟨by simp only [List.length_map];exact hp.len,fun q hq=>?_,ZI.lb_of _,?_⟩
  ·obtain ⟨p,hp2,rfl⟩:=List.mem_map.1 hq
   obtain ⟨k1,k2⟩:=hp.ps p hp2
   refine ⟨ZI.lb_of _,ZI.len_of ?_⟩
   exact Nat.lt_of_le_of_lt (zdn _ hg) (Nat.lt_of_lt_of_le (ZI.abs_lt k1) (zd6 k2))
  ·exact ZI.len_of (Nat.lt_of_le_of_lt (zdn _ hg) (Nat.lt_of_lt_of_le (ZI.abs_lt h.kb) (zd6 (Nat.le_trans h.kl (Nat.le_succ L)))))
end
section
open Go.RowKit

def sumV (f:Int→Int):Nat→Int
  | 0=>0
  | n+1=>sumV f n+f (n:Int)
theorem sumV_add (f g:Int→Int):∀ n,sumV (fun v=>f v+g v) n=sumV f n+sumV g n
 | 0=>rfl
 | n+1=>by simp only [sumV,sumV_add f g n];omega
theorem zgc {f g:Int→Int}:∀ n:Nat,(∀ v:Int,f v=g v)→sumV f n=sumV g n
 | 0,_=>rfl
 | n+1,h=>by simp only [sumV,zgc n h,h]
theorem sumV_one (a c:Int) (g:Int→Int):∀ n:Nat,sumV (fun v=>(if a=v∧0≤v then c else 0)*g v) n=if 0≤a∧a<(n:Int) then c*g a else 0
 | 0=>by rw [if_neg (by omega)];rfl
 | n+1=>by
  simp only [sumV,sumV_one a c g n]
  by_cases h:a=(n:Int)
  ·subst h
   rw [if_neg (by omega),if_pos ⟨rfl,by omega⟩,if_pos (by omega),Int.zero_add]
  ·rw [if_neg (show ¬(a=(n:Int)∧0≤(n:Int)) from fun e=>h e.1),Int.zero_mul,Int.add_zero]
   by_cases k:0≤a∧a<(n:Int)
   ·rw [if_pos k,if_pos (by omega)]
   ·rw [if_neg k,if_neg (by omega)]
theorem valP_sum (vs:List ZI):∀ ps:List za2,zd5 vs ps=sumV (fun v=>zav ps v*zeg vs v) vs.length
 | []=>by
  have:∀ n:Nat,sumV (fun v=>zav [] v*zeg vs v) n=0:=by
   intro n
   induction n with
   | zero=>rfl
   | succ n ih=>simp only [sumV,zav,Int.zero_mul] at ih ⊢;omega
  rw [this];rfl
 | p :: ps=>by
  rw [zgc (g:=fun v=>(if p.v=v∧0≤v then p.c.val else 0)*zeg vs v+zav ps v*zeg vs v) _ (fun v=>by simp only [zav];rw [Int.add_mul]),sumV_add,sumV_one,← valP_sum vs ps]
  simp only [zd5]
  congr 1
  by_cases h:0≤p.v∧p.v<(vs.length:Int)
  ·rw [if_pos h]
  ·rw [if_neg h]
   by_cases k:0≤p.v
   ·rw [valAt_out (fun e=>h ⟨k,e⟩),Int.mul_zero]
   ·rw [valAt_neg k,Int.mul_zero]
theorem valP_congr {ps qs:List za2} (vs:List ZI) (h:∀ v,zav ps v=zav qs v):zd5 vs ps=zd5 vs qs:=by
 rw [valP_sum,valP_sum];exact zgc _ fun v=>by rw [h]
theorem zd4 (t:zbb) (vs:List ZI):zdr (za3 t) vs=zdr t vs:=by
 unfold zdr
 rw [valP_congr vs (zdh t).2.2,show (za3 t).k.val=t.k.val from ZI.val_of _]
theorem val_add (s t:zbb) (vs:List ZI):zdr (addT s t) vs=zdr s vs+zdr t vs:=by
 unfold addT
 rw [zd4]
 unfold zdr
 rw [valP_app,ZI.val_of];omega
theorem valP_mul (vs:List ZI) (q:ZI):∀ ps:List za2,zd5 vs (ps.map fun p=>⟨p.v,ZI.of (p.c.val*q.val)⟩)=zd5 vs ps*q.val
 | []=>by simp [zd5]
 | p :: ps=>by
  simp only [List.map_cons,zd5,valP_mul vs q ps,ZI.val_of,Int.add_mul]
  congr 1
  rw [Int.mul_assoc,Int.mul_assoc,Int.mul_comm q.val]
theorem val_scale (t:zbb) (q:ZI) (vs:List ZI):zdr (zei t q) vs=zdr t vs*q.val:=by
 unfold zei
 rw [zd4]
 unfold zdr mulT
 rw [valP_mul,ZI.val_of,Int.add_mul]
theorem val_sub (s t:zbb) (vs:List ZI):zdr (subT s t) vs=zdr s vs - zdr t vs:=by
 unfold subT
 rw [val_add,val_scale,ZI.val_of];omega
end
section
open Go.RowKit

def zR:zab:=⟨⟨[],⟨false,[]⟩⟩,false⟩
def cpR (r:zab):zab:=⟨za3 r.t,r.eq⟩
def zdq (b:Bool):za1:=⟨if b=true then 0 else 1,zR,[]⟩
def zdp (r:zab):za1:=⟨2,cpR r,[]⟩
def zg5 (t:zab→zab) (k:Int) (r:zab) (cs:List za1):za1:=if k=0 then zdq true else if k=2 then ⟨2,t (cpR r),[]⟩ else if k=3∨k=4∨k=5 then ⟨k,zR,cnt k cs⟩ else zdq false
def za1.each (t:zab→zab) (f:za1):za1:=f.fold fun k r _ cs=>zg5 t k r cs
theorem za1.each_eq (t:zab→zab) (f:za1):f.each t=zg5 t f.kind f.r (f.kids.map (za1.each t)):=za1.fold_eq _ f
def za1.cl (f:za1):za1:=f.each id
theorem cl_eq (f:za1):f.cl=zg5 id f.kind f.r (f.kids.map za1.cl):=za1.each_eq id f
def denyF (f:za1):za1:=⟨3,zR,[f.cl]⟩
def allF (fs:List za1):za1:=⟨4,zR,fs.map za1.cl⟩
def za1.rels (P:zab→Prop) (f:za1):Prop:=f.fold fun k r _ ps=>(k=2→P r)∧∀ p ∈ cnt k ps,p
theorem za1.rels_eq (P:zab→Prop) (f:za1):f.rels P ↔ (f.kind=2→P f.r)∧∀ g ∈ cnt f.kind f.kids,g.rels P:=by
 have:=za1.fold_eq (fun k r _ (ps:List Prop)=>(k=2→P r)∧∀ p ∈ cnt k ps,p) f
 rw [zdo] at this
 unfold za1.rels
 rw [this]
 refine and_congr_right fun _=>⟨fun h g hg=>h _ (List.mem_map.2 ⟨g,hg,rfl⟩),fun h p hp=>?_⟩
 obtain ⟨g,hg,rfl⟩:=List.mem_map.1 hp
 exact h g hg
theorem cpR_cpR (r:zab):cpR (cpR r)=cpR r:=by unfold cpR;rw [zcn]
theorem relOk_cp (vs:List ZI) (r:zab):zan vs (cpR r)=zan vs r:=by unfold zan cpR;simp only [zd4]
theorem cnt_cnt {α:Type} (k:Int) (xs:List α):cnt k (cnt k xs)=cnt k xs:=by
 unfold cnt
 split
 ·rfl
 ·split
  ·rw [List.take_take];rfl
  ·rfl
theorem ze1 (t:zab→zab) {k:Int} (r:zab) (cs:List za1) (h:k=3∨k=4∨k=5):zg5 t k r cs=⟨k,zR,cnt k cs⟩:=by
 unfold zg5
 rw [if_neg (by omega),if_neg (by omega),if_pos h]
theorem zg4 (t:zab→zab) {k:Int} (r:zab) (cs:List za1) (h0:k≠0) (h2:k≠2) (h:¬ (k=3∨k=4∨k=5)):zg5 t k r cs=zdq false:=by
 unfold zg5
 rw [if_neg h0,if_neg h2,if_neg h]
theorem each_nil (t:zab→zab):(zdq true).each t=zdq true∧(zdq false).each t=zdq false:=⟨by rw [za1.each_eq];rfl,by rw [za1.each_eq];rfl⟩
theorem each_cl (t:zab→zab) (f:za1):f.cl.each t=f.each t :=
 za1.ind (P:=fun f=>f.cl.each t=f.each t) (fun k r ks ih=>by
  have e1:(za1.mk k r ks).cl=zg5 id k r (ks.map za1.cl):=cl_eq _
  have e2:(za1.mk k r ks).each t=zg5 t k r (ks.map (za1.each t)):=za1.each_eq t _
  rw [e1,e2]
  by_cases h0:k=0
  ·subst h0;exact (each_nil t).1
  ·by_cases h2:k=2
   ·subst h2
    show (za1.mk 2 (cpR r) []).each t=_
    rw [za1.each_eq]
    show za1.mk 2 (t (cpR (cpR r))) []=_
    rw [cpR_cpR];rfl
   ·by_cases h3:k=3∨k=4∨k=5
    ·rw [ze1 _ _ _ h3,ze1 _ _ _ h3,za1.each_eq]
     show zg5 t k zR ((cnt k (ks.map za1.cl)).map (za1.each t))=_
     rw [ze1 _ _ _ h3,← zdo,cnt_cnt,List.map_map]
     congr 2
     exact List.map_congr_left fun g hg=>ih g hg
    ·rw [zg4 _ _ _ h0 h2 h3,zg4 _ _ _ h0 h2 h3];exact (each_nil t).2) f
theorem cl_cl (f:za1):f.cl.cl=f.cl:=each_cl id f
theorem zcs (vs:List ZI) (b:Bool):(zdq b).holds vs=b:=by
 rw [za1.holds_eq]
 cases b <;> rfl
theorem ze0 (vs:List ZI) {k:Int} (r:zab) (ks:List za1) (h:k=3∨k=4∨k=5):(za1.mk k r ks).holds vs=if k=3 then (match ks with | []=>false | g :: _=>!g.holds vs) else if k=4 then ks.all (za1.holds vs) else ks.any (za1.holds vs):=by
 rw [za1.holds_eq]
 show (if k=0 then _ else if k=2 then _ else if k=3 then _ else if k=4 then _ else if k=5 then _ else _)=_
 rw [if_neg (by omega),if_neg (by omega)]
 rcases h with h | h | h <;> subst h <;> rfl
theorem each_holds {t:zab→zab} {vs ws:List ZI} (f:za1):f.rels (fun r=>zan vs (t (cpR r))=zan ws r)→(f.each t).holds vs=f.holds ws :=
 za1.ind (P:=fun f=>f.rels (fun r=>zan vs (t (cpR r))=zan ws r)→(f.each t).holds vs=f.holds ws) (fun k r ks ih hf=>by
  obtain ⟨h1,h2⟩:=(za1.rels_eq _ _).1 hf
  change k=2→_ at h1
  change ∀ g ∈ cnt k ks,_ at h2
  rw [za1.each_eq]
  show (zg5 t k r (ks.map (za1.each t))).holds vs=_
  by_cases h0:k=0
  ·subst h0
   show (zdq true).holds vs=_
   rw [zcs,za1.holds_eq];rfl
  ·by_cases hk2:k=2
   ·subst hk2
    show (za1.mk 2 (t (cpR r)) []).holds vs=_
    rw [za1.holds_eq,za1.holds_eq]
    exact h1 rfl
   ·by_cases h3:k=3∨k=4∨k=5
    ·rw [ze1 _ _ _ h3,ze0 vs _ _ h3,ze0 ws _ _ h3]
     rcases h3 with e | e | e
     ·subst e
      rw [if_pos rfl,if_pos rfl]
      cases ks with
      | nil=>rfl
      | cons g gs =>
       have:=ih g (List.mem_cons_self ..) (h2 g (List.mem_cons_self ..))
       show (!(g.each t).holds vs)=!g.holds ws
       rw [this]
     ·subst e
      rw [if_neg (by decide),if_pos rfl,if_neg (by decide),if_pos rfl]
      show (ks.map (za1.each t)).all (za1.holds vs)=_
      rw [List.all_map,Bool.eq_iff_iff,List.all_eq_true,List.all_eq_true]
      exact forall_congr' fun g=>forall_congr' fun hg=>by rw [show (za1.holds vs ∘ za1.each t) g=(g.each t).holds vs from rfl,ih g hg (h2 g hg)]
     ·subst e
      rw [if_neg (by decide),if_neg (by decide),if_neg (by decide),if_neg (by decide)]
      show (ks.map (za1.each t)).any (za1.holds vs)=_
      rw [List.any_map,Bool.eq_iff_iff,List.any_eq_true,List.any_eq_true]
      exact exists_congr fun g=>and_congr_right fun hg=>by rw [show (za1.holds vs ∘ za1.each t) g=(g.each t).holds vs from rfl,ih g hg (h2 g hg)]
    ·rw [zg4 _ _ _ h0 hk2 h3,zcs,za1.holds_eq]
     show _=if k=0 then _ else if k=2 then _ else if k=3 then _ else if k=4 then _ else if k=5 then _ else false
     rw [if_neg h0,if_neg hk2,if_neg (by omega),if_neg (by omega),if_neg (by omega)]) f
theorem za1.rels_all {P:zab→Prop} (h:∀ r,P r) (f:za1):f.rels P :=
 za1.ind (P:=fun f=>f.rels P) (fun k r ks ih=>by
  rw [za1.rels_eq];exact ⟨fun _=>h _,fun g hg=>ih g (zbx hg)⟩) f
theorem cl_holds (vs:List ZI) (f:za1):f.cl.holds vs=f.holds vs:=each_holds f (za1.rels_all (fun r=>relOk_cp vs r) f)
theorem atom_holds (vs:List ZI) (r:zab):(zdp r).holds vs=zan vs r:=by rw [za1.holds_eq];exact relOk_cp vs r
theorem deny_holds (vs:List ZI) (f:za1):(denyF f).holds vs=!f.holds vs:=by
 rw [za1.holds_eq];show (!f.cl.holds vs)=_;rw [cl_holds]
theorem all_holds (vs:List ZI) (fs:List za1):(allF fs).holds vs=fs.all (za1.holds vs):=by
 rw [za1.holds_eq];show (fs.map za1.cl).all (za1.holds vs)=_;rw [List.all_map]
 congr 1;funext f;exact cl_holds vs f
end
section
open Go.RowKit

theorem cmpPs_self:∀ ps:List za2,ze8 ps ps=0
 | []=>rfl
 | p :: ps=>by
  have h:cmpP p p=0:=by simp [cmpP,orZ,cmpZ_self']
  simp only [ze8,h,cmpPs_self ps];rfl
theorem cmpT_eq {s t:zbb} (h:za3 s=za3 t):cmpT s t=0:=by
 unfold cmpT
 rw [h,cmpPs_self,cmpZ_self'];rfl
theorem con_pos {t:zbb} (h:0<(za3 t).parts.length):0<zbu (za3 t).parts:=by
 have:=con_ne h
 have:=con_nonneg (za3 t).parts
 omega
theorem con_len' {n L:Nat} {t:zbb} (ht:TOk n L t) (hn:n≤1000):(ZI.of (zbu (za3 t).parts)).abs.length≤L+1:=by
 have:=con_len ht hn (za3 t).parts.length
 rwa [List.take_length] at this
end
section
open Go.RowKit

def neg1 (t:zbb):zbb:=zei t (ZI.of (-1))
def firstN (t:zbb):Bool:=match t.parts with | []=>false | p :: _=>decide (sgn p.c.val<0)
def zb0 (r:zab):zab × Int :=
  if (za3 r.t).parts.length=0 then (zR,if (sgn r.t.k.val == 0 || (!r.eq && decide (sgn r.t.k.val>0)))=true then 1 else -1)
  else if r.eq=true∧r.t.k.val.fmod (zbu (za3 r.t).parts)≠0 then (zR,-1)
  else (⟨if (r.eq && firstN (zcv r.t))=true then neg1 (zcv r.t) else zcv r.t,r.eq⟩,0)
def zaq (r:zab):za1:=if (zb0 r).2=0 then ⟨2,(zb0 r).1,[]⟩ else zdq (decide ((zb0 r).2>0))
def lowR (t:zbb):zab:=⟨subT (neg1 t) (numT (ZI.of 1)),false⟩
def zar (r:zab):List zab:=if r.eq=true then [lowR (neg1 r.t),lowR r.t] else [lowR r.t]
def zbm (k:Int):List za1→List za1→za1
  | [],out=>(match out with | []=>zdq (decide (k=4)) | [g]=>g | _=>⟨k,zR,out⟩)
  | f :: fs,out=>if (k=4∧f.kind=1)∨(k=5∧f.kind=0) then f else if f.kind=0∨f.kind=1 then zbm k fs out else if f.kind=k then zbm k fs (out++f.kids) else zbm k fs (out++[f])
def zd0 (k:Int) (fs:List za1):za1:=zbm k fs []
def zgl (k:Int) (r:zab) (cs:List (Bool→za1)) (d:Bool):za1 :=
  if k=0 then zdq (!d) else if k=2 then (if d=true then zd0 5 ((zar r).map zaq) else zaq r) else if k=3 then (match cs with | []=>zdq d | c :: _=>c (!d)) else if k=4∨k=5 then zd0 (if d=true then 9 - k else k) (cs.map fun c=>c d) else zdq d
def za1.flat (f:za1):Bool→za1:=f.fold fun k r _ cs=>zgl k r cs
theorem za1.flat_eq (f:za1) (d:Bool):f.flat d=zgl f.kind f.r (f.kids.map za1.flat) d:=congrFun (za1.fold_eq (fun k r _ (cs:List (Bool→za1))=>zgl k r cs) f) d
theorem zfm (t:zbb):zbu (za3 (za3 t)).parts=zbu (za3 t).parts:=by rw [zcn]
theorem shr_plain2 (t:zbb):zcv (za3 t)=zcv t:=by
 unfold zcv
 rw [zcn]
 split
 ·rfl
 ·show zbb.mk _ (ZI.of ((ZI.of t.k.val).val.fdiv _))=_
  rw [ZI.val_of]
theorem valP_divP (vs:List ZI) {g:Int} (hg:g≠0):∀ ps:List za2,(∀ p ∈ ps,g∣p.c.val)→g*zd5 vs (ps.map (zeq g))=zd5 vs ps
 | [],_=>Int.mul_zero _
 | p :: ps,h=>by
  obtain ⟨c,hc⟩:=h p (List.mem_cons_self ..)
  rw [List.map_cons,zd5,zd5,Int.mul_add,valP_divP vs hg ps fun q hq=>h q (List.mem_cons_of_mem _ hq)]
  congr 1
  show g*((ZI.of (p.c.val.fdiv g)).val*zeg vs p.v)=_
  rw [ZI.val_of,hc,Int.mul_fdiv_cancel_left _ hg,← Int.mul_assoc]
theorem zfv {vs:List ZI} {r:zab} (h:r.eq=false):zan vs r=decide (0≤zdr r.t vs):=by
 unfold zan
 rw [if_neg (by rw [h];exact Bool.noConfusion)]
 refine decide_eq_decide.2 ?_
 unfold sgn;split
 ·omega
 ·split <;> omega
theorem zfw {vs:List ZI} {r:zab} (h:r.eq=true):zan vs r=decide (zdr r.t vs=0):=by
 unfold zan
 rw [if_pos h]
 cases hd:decide (zdr r.t vs=0) with
 | true=>rw [beq_iff_eq];exact zcy (of_decide_eq_true hd)
 | false=>rw [beq_eq_false_iff_ne];exact fun e=>of_decide_eq_false hd (zfi.1 e)
theorem val_shr {t:zbb} (vs:List ZI) (h:(za3 t).parts.length≠0):∃ S g:Int,0<g∧g=zbu (za3 t).parts∧zdr t vs=g*S+t.k.val∧zdr (zcv t) vs=S+t.k.val.fdiv g:=by
 have hp:0<(za3 t).parts.length:=by omega
 have hg:=con_pos hp
 refine ⟨zd5 vs ((za3 t).parts.map (zeq (zbu (za3 t).parts))),_,hg,rfl,?_,?_⟩
 ·rw [valP_divP vs (by omega) _ (con_dvd _),← zd4]
  unfold zdr
  rw [show (za3 t).k.val=t.k.val from ZI.val_of _];omega
 ·unfold zcv
  rw [if_neg (by omega)]
  unfold zdr
  show (ZI.of _).val+zd5 vs ((za3 t).parts.map (zeq (zbu (za3 t).parts)))=_
  rw [ZI.val_of];omega
theorem neg1_val (t:zbb) (vs:List ZI):zdr (neg1 t) vs=-zdr t vs:=by unfold neg1;rw [val_scale,ZI.val_of];omega
theorem tight_holds (vs:List ZI) (r:zab):(zaq r).holds vs=zan vs r:=by
 unfold zaq zb0
 by_cases h:(za3 r.t).parts.length=0
 ·rw [if_pos h]
  have hv:zdr r.t vs=r.t.k.val:=by
   rw [← zd4];unfold zdr
   rw [List.length_eq_zero_iff.1 h,show (za3 r.t).k.val=r.t.k.val from ZI.val_of _];exact Int.add_zero _
  have hk:(if (sgn r.t.k.val == 0 || (!r.eq && decide (sgn r.t.k.val>0)))=true then (1:Int) else -1)≠0:=by split <;> decide
  rw [if_neg hk,zcs]
  unfold zan
  rw [hv]
  cases r.eq <;> unfold sgn <;> (repeat' split) <;> simp_all <;> omega
 ·rw [if_neg h]
  obtain ⟨S,g,hg,hge,e1,e2⟩:=val_shr vs h
  by_cases hq:r.eq=true∧r.t.k.val.fmod (zbu (za3 r.t).parts)≠0
  ·rw [if_pos hq,if_neg (by decide),zcs,zfw hq.1]
   refine (decide_eq_false fun e=>hq.2 ?_).symm
   rw [← hge]
   have h1:=Int.mul_fdiv_add_fmod r.t.k.val g
   have h2:=Int.fmod_nonneg_of_pos r.t.k.val hg
   have h3:=Int.fmod_lt_of_pos r.t.k.val hg
   have h4:g*(S+r.t.k.val.fdiv g)=-r.t.k.val.fmod g:=by rw [Int.mul_add];omega
   refine Classical.byContradiction fun hne=>?_
   rcases Int.lt_or_le (S+r.t.k.val.fdiv g) 0 with hs | hs
   ·have:=Int.mul_le_mul_of_nonneg_left (show S+r.t.k.val.fdiv g≤-1 by omega) (show 0≤g by omega)
    omega
   ·have:=Int.mul_nonneg (show 0≤g by omega) hs
    omega
  ·rw [if_neg hq,if_pos rfl,za1.holds_eq]
   show zan vs ⟨if (r.eq && firstN (zcv r.t))=true then neg1 (zcv r.t) else zcv r.t,r.eq⟩=zan vs r
   have h1:=Int.mul_fdiv_add_fmod r.t.k.val g
   have h2:=Int.fmod_nonneg_of_pos r.t.k.val hg
   have h3:=Int.fmod_lt_of_pos r.t.k.val hg
   cases he:r.eq with
   | true =>
    rw [zfw he,zfw rfl]
    have hz:r.t.k.val.fmod g=0:=Classical.byContradiction fun hz=>hq ⟨he,by rw [← hge];exact hz⟩
    have h4:zdr r.t vs=g*(S+r.t.k.val.fdiv g):=by rw [e1,Int.mul_add];omega
    refine decide_eq_decide.2 ?_
    rw [h4,Int.mul_eq_zero]
    show zdr (if _ then neg1 (zcv r.t) else zcv r.t) vs=0 ↔ _
    split
    ·rw [neg1_val,e2];omega
    ·rw [e2];omega
   | false =>
    rw [zfv he,zfv rfl]
    refine decide_eq_decide.2 ?_
    show 0≤zdr (zcv r.t) vs ↔ _
    rw [e1,e2]
    constructor
    ·intro hs
     have:=Int.mul_nonneg (show 0≤g by omega) hs
     rw [Int.mul_add] at this;omega
    ·intro hs
     refine Classical.byContradiction fun hlt=>?_
     have:=Int.mul_le_mul_of_nonneg_left (show S+r.t.k.val.fdiv g≤-1 by omega) (show 0≤g by omega)
     rw [Int.mul_add] at this;omega
theorem low_holds (vs:List ZI) (t:zbb):zan vs (lowR t)=decide (zdr t vs<0):=by
 rw [zfv rfl]
 refine decide_eq_decide.2 ?_
 show 0≤zdr (subT (neg1 t) (numT (ZI.of 1))) vs ↔ _
 rw [val_sub,neg1_val]
 have:zdr (numT (ZI.of 1)) vs=1:=by simp [zdr,numT,zd5,ZI.val_of]
 omega
theorem denyR_holds (vs:List ZI) (r:zab):(zar r).any (zan vs)=!zan vs r:=by
 unfold zar
 cases he:r.eq with
 | true =>
  rw [if_pos rfl,zfw he,List.any_cons,List.any_cons,List.any_nil,low_holds,low_holds,neg1_val,Bool.or_false]
  rw [Bool.eq_iff_iff];simp;omega
 | false =>
  rw [if_neg Bool.noConfusion,zfv he,List.any_cons,List.any_nil,low_holds,Bool.or_false]
  rw [Bool.eq_iff_iff];simp
theorem zdj (vs:List ZI) {k:Int} (hk:k=4∨k=5):∀ (fs out:List za1),(zbm k fs out).holds vs=if k=4 then out.all (za1.holds vs) && fs.all (za1.holds vs) else out.any (za1.holds vs) || fs.any (za1.holds vs)
 | [],out=>by
  unfold zbm
  match out with
  | []=>rcases hk with e | e <;> subst e <;> rw [zcs] <;> rfl
  | [g]=>rcases hk with e | e <;> subst e <;> simp
  | g :: h :: l =>
   show (za1.mk k zR (g :: h :: l)).holds vs=_
   rw [ze0 vs _ _ (by omega)]
   rcases hk with e | e <;> subst e
   ·rw [if_neg (by decide),if_pos rfl,if_pos rfl,List.all_nil,Bool.and_true]
   ·rw [if_neg (by decide),if_neg (by decide),if_neg (by decide),List.any_nil,Bool.or_false]
 | f :: fs,out=>by
  rw [zbm]
  have hk01:f.kind=0→f.holds vs=true:=fun e=>by rw [za1.holds_eq,e];rfl
  have hk1:f.kind=1→f.holds vs=false:=fun e=>by rw [za1.holds_eq,e];rfl
  split
  ·rename_i h
   rcases h with ⟨e,h1⟩ | ⟨e,h1⟩ <;> subst e
   ·rw [if_pos rfl,List.all_cons,hk1 h1];simp
   ·rw [if_neg (by decide),List.any_cons,hk01 h1];simp
  ·rename_i h
   split
   ·rename_i h1
    rw [zdj vs hk fs out]
    rcases hk with e | e <;> subst e
    ·rw [if_pos rfl,if_pos rfl,List.all_cons,hk01 (by omega),Bool.true_and]
    ·rw [if_neg (by decide),if_neg (by decide),List.any_cons,hk1 (by omega),Bool.false_or]
   ·split
    ·rename_i h2
     have hf:f.holds vs=if k=4 then f.kids.all (za1.holds vs) else f.kids.any (za1.holds vs):=by
      have:=ze0 vs f.r f.kids (k:=f.kind) (by omega)
      rw [za1.eta] at this
      rw [this,if_neg (by omega),h2]
     rw [zdj vs hk fs _]
     rcases hk with e | e <;> subst e
     ·rw [if_pos rfl,if_pos rfl,List.all_append,List.all_cons,hf,if_pos rfl,Bool.and_assoc]
     ·rw [if_neg (by decide),if_neg (by decide),List.any_append,List.any_cons,hf,if_neg (by decide),Bool.or_assoc]
    ·rw [zdj vs hk fs _]
     rcases hk with e | e <;> subst e
     ·rw [if_pos rfl,if_pos rfl,List.all_append,List.all_cons,List.all_cons,List.all_nil,Bool.and_true,Bool.and_assoc]
     ·rw [if_neg (by decide),if_neg (by decide),List.any_append,List.any_cons,List.any_cons,List.any_nil,Bool.or_false,Bool.or_assoc]
theorem join_holds (vs:List ZI) {k:Int} (hk:k=4∨k=5) (fs:List za1):(zd0 k fs).holds vs=if k=4 then fs.all (za1.holds vs) else fs.any (za1.holds vs):=by
 unfold zd0;rw [zdj vs hk];rfl
theorem flat_holds (vs:List ZI) (f:za1):∀ d,(f.flat d).holds vs=(f.holds vs != d) :=
 za1.ind (P:=fun f=>∀ d,(f.flat d).holds vs=(f.holds vs != d)) (fun k r ks ih d=>by
  rw [za1.flat_eq]
  show (zgl k r (ks.map za1.flat) d).holds vs=((za1.mk k r ks).holds vs != d)
  unfold zgl
  by_cases h0:k=0
  ·subst h0
   rw [if_pos rfl,zcs,za1.holds_eq vs (za1.mk 0 r ks)];cases d <;> rfl
  rw [if_neg h0]
  by_cases h2:k=2
  ·subst h2
   rw [if_pos rfl,show (za1.mk 2 r ks).holds vs=zan vs r from by rw [za1.holds_eq];rfl]
   cases d with
   | true =>
    rw [if_pos rfl,join_holds vs (.inr rfl),if_neg (by decide),List.any_map]
    have:(za1.holds vs ∘ zaq)=zan vs:=funext fun q=>tight_holds vs q
    rw [this,denyR_holds];cases zan vs r <;> rfl
   | false=>rw [if_neg Bool.noConfusion,tight_holds];cases zan vs r <;> rfl
  rw [if_neg h2]
  by_cases h3:k=3
  ·subst h3
   rw [if_pos rfl,ze0 vs r ks (.inl rfl),if_pos rfl]
   cases ks with
   | nil=>show (zdq d).holds vs=_;rw [zcs];cases d <;> rfl
   | cons g gs =>
    show (g.flat (!d)).holds vs=_
    rw [ih g (List.mem_cons_self ..) (!d)]
    show _=((!g.holds vs) != d)
    cases g.holds vs <;> cases d <;> rfl
  rw [if_neg h3]
  by_cases h4:k=4∨k=5
  ·rw [if_pos h4,ze0 vs r ks (.inr h4),if_neg h3,join_holds vs (by cases d <;> simp <;> omega),List.map_map]
   have e1:∀ b:Bool,((ks.map ((fun c=>c d) ∘ za1.flat)).all (za1.holds vs))=ks.all (fun g=>g.holds vs != d):=fun _=>by
    rw [List.all_map,Bool.eq_iff_iff,List.all_eq_true,List.all_eq_true]
    exact forall_congr' fun g=>forall_congr' fun hg=>by rw [show (za1.holds vs ∘ ((fun c=>c d) ∘ za1.flat)) g=(g.flat d).holds vs from rfl,ih g hg d]
   have e2:∀ b:Bool,((ks.map ((fun c=>c d) ∘ za1.flat)).any (za1.holds vs))=ks.any (fun g=>g.holds vs != d):=fun _=>by
    rw [List.any_map,Bool.eq_iff_iff,List.any_eq_true,List.any_eq_true]
    exact exists_congr fun g=>and_congr_right fun hg=>by rw [show (za1.holds vs ∘ ((fun c=>c d) ∘ za1.flat)) g=(g.flat d).holds vs from rfl,ih g hg d]
   rw [e1 true,e2 true]
   cases d with
   | false =>
    have e:(fun g:za1=>g.holds vs != false)=za1.holds vs:=funext fun g=>by cases g.holds vs <;> rfl
    rw [e]
    rcases h4 with h | h <;> subst h
    ·simp
    ·simp
   | true =>
    have e:(fun g:za1=>g.holds vs != true)=fun g=>!g.holds vs:=funext fun g=>by cases g.holds vs <;> rfl
    rw [e]
    rcases h4 with h | h <;> subst h
    ·simp [List.any_eq_not_all_not]
    ·simp [List.all_eq_not_any_not]
  ·rw [if_neg h4,zcs,za1.holds_eq vs (za1.mk k r ks),if_neg (show ¬ (za1.mk k r ks).kind=0 from h0),if_neg (show ¬ (za1.mk k r ks).kind=2 from h2),if_neg (show ¬ (za1.mk k r ks).kind=3 from h3),if_neg (show ¬ (za1.mk k r ks).kind=4 from fun e=>h4 (.inl e)),if_neg (show ¬ (za1.mk k r ks).kind=5 from fun e=>h4 (.inr e))];cases d <;> rfl) f
end
section
open Go.RowKit

theorem kc_0:za7 Tryz.prog 89:=za7.mk' (by kernel_rfl)
theorem kc_2:za7 Tryz.prog 58:=za7.mk' (by kernel_rfl)
theorem kc_3:SlT Tryz.prog 23 57 4:=SlT.mk' Tryz.underlying23 (by kernel_rfl)
theorem kc_5:ElZ Tryz.prog 23 57 4:=ElZ.mk' Tryz.underlying23 _ _ rfl rfl (by kernel_rfl) (by kernel_rfl) (by kernel_rfl) (by decide)
theorem kc_6:za7 Tryz.prog 32:=za7.mk' (by kernel_rfl)
theorem kc_7:za7 Tryz.prog 59:=za7.mk' (by kernel_rfl)
def fltV (j:Nat) (ps:List za2):List za2:=ps.filter fun p=>decide (0≤p.v∧p.v<(j:Int))
theorem fltV_succ (vs:List ZI) (j:Nat):∀ ps:List za2,zd5 vs (fltV (j+1) ps)=zd5 vs (fltV j ps)+zav ps j*zeg vs j
 | []=>by simp [fltV,zd5,zav]
 | p :: ps=>by
  have ih:=fltV_succ vs j ps
  simp only [fltV] at ih ⊢
  simp only [List.filter_cons,zav,Int.add_mul]
  by_cases h1:0≤p.v∧p.v<(j:Int)
  ·rw [if_pos (decide_eq_true (by omega)),if_pos (decide_eq_true h1),if_neg (by omega)]
   simp only [zd5,ih];omega
  ·by_cases h2:p.v=(j:Int)
   ·rw [if_pos (decide_eq_true (by omega)),if_neg (by simpa using h1),if_pos (by omega)]
    simp only [zd5,ih,h2];omega
   ·rw [if_neg (by rw [decide_eq_true_eq];omega),if_neg (by simpa using h1),if_neg (by omega),ih];omega
theorem fltV_all (vs:List ZI):∀ ps:List za2,zd5 vs (fltV vs.length ps)=zd5 vs ps
 | []=>rfl
 | p :: ps=>by
  have ih:=fltV_all vs ps
  simp only [fltV] at ih ⊢
  simp only [List.filter_cons]
  by_cases h1:0≤p.v∧p.v<(vs.length:Int)
  ·rw [if_pos (decide_eq_true h1)];simp only [zd5,ih]
  ·rw [if_neg (by simpa using h1),ih,zd5]
   by_cases h2:0≤p.v
   ·rw [valAt_out (by omega)];omega
   ·rw [valAt_neg (by omega)];omega
theorem fltV_zero (ps:List za2):fltV 0 ps=[]:=by
 unfold fltV;rw [List.filter_eq_nil_iff];intro p _;rw [decide_eq_true_eq];omega
theorem fltV_mem {j:Nat} {ps:List za2}:∀ p ∈ fltV j ps,p ∈ ps:=fun _p hp=>(List.mem_filter.1 hp).1
theorem fltV_len (j:Nat) (ps:List za2):(fltV j ps).length≤ps.length:=List.length_filter_le _ _
set_option maxHeartbeats 4000000 in
theorem SSize0 (f:za1) (lim:Int) (ih:∀ g ∈ f.kids,∀ l:Int,0≤l→l≤1000→Fn Tryz.prog 58 [] [(vF g),vi .i64 l] (vi .i64 (g.size l)) []) (h0:0≤lim) (h1:lim≤1000) (hk:f.kids.length≤9223372036854775807):Fn Tryz.prog 58 [] [(vF f),vi .i64 lim] (vi .i64 (f.size lim)) []:=by
 have lk:=cnt_len f.kind f.kids
 refine Fn.body Tryz.func58 rfl 32 rfl fun w H B a h=>?_
 refine rq za0 0 [] [(1,vi .i64 lim),(2,vp 0 0),(4,vi .i64 0)] [(0,.box (zF f))] h ?_;clear h;intro a w h
 refine rq za0 1 [] [(1,vi .i64 lim),(2,vp 0 0),(4,vi .i64 0),(5,vi .i64 1)] [(0,.box (zF f))] h ?_;clear h;intro a w h
 refine rq za0 1 [(1,.call (SKids f) kc_0)] [(1,vi .i64 lim),(4,vi .i64 0),(5,vi .i64 1),(6,(vFs (cnt f.kind f.kids)))] [] h ?_;clear h;intro a w h
 refine wp_seq (rq za0 1 [] [(1,vi .i64 lim),(4,vi .i64 0),(5,vi .i64 1),(6,(vFs (cnt f.kind f.kids))),(7,vi .i64 0)] [] h ?_);clear h;intro a w h
 refine wp_block ?_
 refine zb1 (ι:=(Nat) × (Int)) (fun (z_:(Nat) × (Int))=>match z_ with | (j,n)=>j≤(cnt f.kind f.kids).length∧f.size lim=zc6 lim (((cnt f.kind f.kids).map za1.size).drop j) n∧1≤n∧n≤lim+1)
   (fun (z_:(Nat) × (Int))=>match z_ with | (j,n)=>[(1,vi .i64 lim),(4,vi .i64 0),(5,vi .i64 n),(6,(vFs (cnt f.kind f.kids))),(7,vi .i64 (j:Int))])
   (fun (z_:(Nat) × (Int))=>match z_ with | (j,n)=>[])
   (fun (z_:(Nat) × (Int))=>match z_ with | (j,n)=>(cnt f.kind f.kids).length - j) (0,1) ?_ h (by kernel_rfl) (by kernel_rfl) ?_
 ·exact ⟨Nat.zero_le _,za1.size_eq f lim,by omega,by omega⟩
 ·clear h;rintro ⟨j,n⟩ a w hI h
  change St _ (F.of [(1,vi .i64 lim),(4,vi .i64 0),(5,vi .i64 n),(6,(vFs (cnt f.kind f.kids))),(7,vi .i64 (j:Int))] []) a w at h
  obtain ⟨hI1,hI2,hI3,hI4⟩:=hI
  refine wp_seq ?_
  rcases Bool.eq_false_or_eq_true (decide ((j:Int)<((cnt f.kind f.kids).length:Int))) with hc | hc
  ·have hc1:=hc;clear hc
   have hc1':=of_decide_eq_true hc1
   refine rq za0 1 [(2,.len (c:=(cFs (cnt f.kind f.kids))) (n:=(cnt f.kind f.kids).length) (zae _ _ _)),(3,.cmp (op := .lss) (m:=(j:Int)) (n:=((cnt f.kind f.kids).length:Int)) (b:=true) .i64 hc1)] [(1,vi .i64 lim),(4,vi .i64 0),(5,vi .i64 n),(6,(vFs (cnt f.kind f.kids))),(7,vi .i64 (j:Int)),(18,vb (decide (n≤lim)))] [] h ?_;clear h;intro a w h
   refine zaa (decide (n≤lim)) h rfl (fun hc=>?_) (fun hc=>?_)
   ·have hc2:=hc;clear hc
    have hc2':=of_decide_eq_true hc2
    refine wp_skip (za4 (wp_seq (wp_block ?_)))
    obtain ⟨x2,hx2⟩:∃ z_:za1,(cnt f.kind f.kids)[j]?=some z_:=⟨_,List.getElem?_eq_getElem (by first | omega | (simp at *;omega))⟩
    have bz:0≤lim - n→1≤x2.size (lim - n)∧x2.size (lim - n)≤lim - n+1:=x2.size_bd (lim - n)
    refine rn za0 1 [(3,.gen _ _ _ fun _ _ _ _=>Op.idxD (d:=24) (t:=22) (k := .i64) kb_0 ((zal hx2 (f:=za1.d)).trans (congrArg some (za1.d_eq x2))) (OV.tmp 23 _)),(7,.sub .i64 (m:=lim) (n:=n) (zad (by omega) (by omega))),(8,.call (ih x2 (zbx (List.mem_of_getElem? hx2)) (lim - n) (by omega) (by omega)) kc_2),(9,.add .i64 (m:=n) (n:=(x2.size (lim - n))) (zad (by omega) (by omega)))] [(1,vi .i64 lim),(4,vi .i64 0),(5,vi .i64 (n+(x2.size (lim - n)))),(6,(vFs (cnt f.kind f.kids))),(7,vi .i64 (j:Int))] [] h ?_;clear h;intro a w h
    refine zac (za4 (rn za0 1 [(1,.add .i64 (m:=(j:Int)) (n:=1) (zad (by omega) (by omega)))] [(1,vi .i64 lim),(4,vi .i64 0),(5,vi .i64 (n+(x2.size (lim - n)))),(6,(vFs (cnt f.kind f.kids))),(7,vi .i64 ((j:Int)+1))] [] h ?_));clear h;intro a w h
    refine za4 ?_
    refine zam (x:=(j,n)) (y:=((j+1),n+x2.size (lim - n))) h ?_ ?_
    ·exact ⟨by have:=zak hx2;omega,by rw [hI2,sizeGo_at (zal hx2 (f:=za1.size)) (by omega)],by have:=bz (by omega);omega,by have:=bz (by omega);omega⟩
    ·show (cnt f.kind f.kids).length - (j+1)<(cnt f.kind f.kids).length - j
     have:=zak hx2;omega
   ·have hc3:=hc;clear hc
    have hc3':=of_decide_eq_false hc3
    refine wp_exit (zai (zai (za8 (za4 (rq za0 1 [] [(4,vi .i64 n)] [] h ?_)))));clear h;intro a w h
    refine wp_ret ?_
    refine zap [.c (cI n)] h Exit.ret (.inl rfl)  rfl ⟨RV.tmp _ _ rfl,trivial⟩ ?_
    have hz:f.size lim=n:=by
     rw [hI2];refine sizeGo_out ?_
     by_cases hn:n≤lim
     ·right;exact List.drop_of_length_le (by rw [List.length_map];first | omega | (simp_all;omega))
     ·exact .inl hn
    rw [hz];first | done | rfl
  ·have hc4:=hc;clear hc
   have hc4':=of_decide_eq_false hc4
   refine rq za0 1 [(2,.len (c:=(cFs (cnt f.kind f.kids))) (n:=(cnt f.kind f.kids).length) (zae _ _ _)),(3,.cmp (op := .lss) (m:=(j:Int)) (n:=((cnt f.kind f.kids).length:Int)) (b:=false) .i64 hc4)] [(1,vi .i64 lim),(4,vi .i64 0),(5,vi .i64 n),(6,(vFs (cnt f.kind f.kids))),(7,vi .i64 (j:Int)),(18,vb false)] [] h ?_;clear h;intro a w h
   refine zaa false h rfl (fun hc=>?_) (fun hc=>?_)
   ·cases hc
   ·clear hc
    refine wp_exit (zai (zai (za8 (za4 (rq za0 1 [] [(4,vi .i64 n)] [] h ?_)))));clear h;intro a w h
    refine wp_ret ?_
    refine zap [.c (cI n)] h Exit.ret (.inl rfl)  rfl ⟨RV.tmp _ _ rfl,trivial⟩ ?_
    have hz:f.size lim=n:=by
     rw [hI2];refine sizeGo_out ?_
     by_cases hn:n≤lim
     ·right;exact List.drop_of_length_le (by rw [List.length_map];first | omega | (simp_all;omega))
     ·exact .inl hn
    rw [hz];first | done | rfl
theorem SSize (f:za1):f.lb→∀ lim:Int,0≤lim→lim≤1000→Fn Tryz.prog 58 [] [(vF f),vi .i64 lim] (vi .i64 (f.size lim)) [] :=
 za1.ind (P:=fun f=>f.lb→∀ lim:Int,0≤lim→lim≤1000→Fn Tryz.prog 58 [] [(vF f),vi .i64 lim] (vi .i64 (f.size lim)) []) (fun k r ks ih hl lim h0 h1=>by
  have hl:=(za1.lb_eq _).1 hl
  exact SSize0 ⟨k,r,ks⟩ lim (fun g hg l g0 g1=>ih g hg (hl.2 g hg) l g0 g1) h0 h1 hl.1.2) f
def zcg (rs:List zab) (most L:Int):Bool:=decide ((rs.length:Int)≤most) && rs.all (zfl L)
set_option maxHeartbeats 4000000 in
theorem SFewRs (rs:List zab) (most L:Int) (hl:rs.length≤1000):Fn Tryz.prog 32 [] [(vRs rs),vi .i64 most,vi .i64 L] (vb (zcg rs most L)) []:=by
 refine Fn.body Tryz.func32 rfl 64 rfl fun w H B a h=>?_
 refine rq za0 0 [] [(0,(vRs rs)),(1,vi .i64 most),(2,vi .i64 L),(6,vb false)] [] h ?_;clear h;intro a w h
 refine wp_seq (rq za0 0 [(1,.len (c:=(cRs rs)) (n:=rs.length) (zae _ _ _))] [(0,(vRs rs)),(2,vi .i64 L),(6,vb false),(12,vb (decide ((rs.length:Int)>most)))] [] h ?_);clear h;intro a w h
 refine zaa (decide ((rs.length:Int)>most)) h rfl (fun hc=>?_) (fun hc=>?_)
 ·have hc1:=hc;clear hc
  have hc1':=of_decide_eq_true hc1
  refine rq za0 0 [] [(0,(vRs rs)),(2,vi .i64 L),(6,vb false)] [] h ?_;clear h;intro a w h
  refine wp_ret (za9 ?_)
  refine zap [.c (cB false)] h Exit.ret (.inl rfl)  rfl ⟨RV.tmp _ _ rfl,trivial⟩ ?_
  rw [show zcg rs most L=false from by unfold zcg;rw [decide_eq_false (by have:=of_decide_eq_true hc1;omega)];rfl];first | done | rfl
 ·have hc2:=hc;clear hc
  have hc2':=of_decide_eq_false hc2
  refine wp_skip (za4 (wp_seq (rq za0 0 [] [(0,(vRs rs)),(2,vi .i64 L),(6,vb false),(7,vi .i64 0)] [] h ?_)));clear h;intro a w h
  refine wp_block ?_
  refine zb1 (ι:=(Nat)) (fun (z_:(Nat))=>match z_ with | j=>j≤rs.length∧(rs.take j).all (zfl L)=true)
    (fun (z_:(Nat))=>match z_ with | j=>[(0,(vRs rs)),(2,vi .i64 L),(7,vi .i64 (j:Int))])
    (fun (z_:(Nat))=>match z_ with | j=>[])
    (fun (z_:(Nat))=>match z_ with | j=>rs.length - j) 0 ?_ h (by kernel_rfl) (by kernel_rfl) ?_
  ·exact ⟨Nat.zero_le _,rfl⟩
  ·clear h;rintro j a w hI h
   change St _ (F.of [(0,(vRs rs)),(2,vi .i64 L),(7,vi .i64 (j:Int))] []) a w at h
   obtain ⟨hI1,hI2⟩:=hI
   refine wp_seq (rq za0 0 [(2,.len (c:=(cRs rs)) (n:=rs.length) (zae _ _ _))] [(0,(vRs rs)),(2,vi .i64 L),(7,vi .i64 (j:Int)),(16,vb (decide ((j:Int)<(rs.length:Int))))] [] h ?_);clear h;intro a w h
   refine zaa (decide ((j:Int)<(rs.length:Int))) h rfl (fun hc=>?_) (fun hc=>?_)
   ·have hc3:=hc;clear hc
    have hc3':=of_decide_eq_true hc3
    refine wp_skip (za4 (wp_seq (wp_block (wp_seq ?_))))
    obtain ⟨x1,hx1⟩:∃ z_:zab,rs[j]?=some z_:=⟨_,List.getElem?_eq_getElem (by first | omega | (simp at *;omega))⟩
    rcases Bool.eq_false_or_eq_true (decide ((x1.t.parts.length:Int)>20)) with hc | hc
    ·have hc4:=hc;clear hc
     have hc4':=of_decide_eq_true hc4
     refine rq za0 0 [(2,.gen _ _ _ fun _ _ _ _=>Op.idxD (d:=21) (t:=19) (k := .i64) kc_3 (zal hx1 (f:=zab.d)) (OV.tmp 20 _)),(6,.len (c:=(cPs x1.t.parts)) (n:=x1.t.parts.length) (zae _ _ _)),(7,.cmp (op := .gtr) (m:=(x1.t.parts.length:Int)) (n:=20) (b:=true) .i64 hc4)] [(0,(vRs rs)),(2,vi .i64 L),(7,vi .i64 (j:Int)),(38,vb true)] [] h ?_;clear h;intro a w h
     refine zaa true h rfl (fun hc=>?_) (fun hc=>?_)
     ·clear hc
      refine rq za0 0 [] [(0,(vRs rs)),(2,vi .i64 L),(6,vb false),(7,vi .i64 (j:Int))] [] h ?_;clear h;intro a w h
      refine wp_ret (za9 (zaf (za9 (za9 (zaf (za9 ?_))))))
      refine zap [.c (cB false)] h Exit.ret (.inl rfl)  rfl ⟨RV.tmp _ _ rfl,trivial⟩ ?_
      rw [show zcg rs most L=false from by unfold zcg;rw [zbd hx1 (show zfl L x1=false from by rw [zfl,decide_eq_false (by have:=of_decide_eq_true hc4;omega)];rfl),Bool.and_false]];first | done | rfl
     ·cases hc
    ·have hc5:=hc;clear hc
     have hc5':=of_decide_eq_false hc5
     refine rq za0 0 [(2,.gen _ _ _ fun _ _ _ _=>Op.idxD (d:=21) (t:=19) (k := .i64) kc_3 (zal hx1 (f:=zab.d)) (OV.tmp 20 _)),(6,.len (c:=(cPs x1.t.parts)) (n:=x1.t.parts.length) (zae _ _ _)),(7,.cmp (op := .gtr) (m:=(x1.t.parts.length:Int)) (n:=20) (b:=false) .i64 hc5),(11,.gen _ _ _ fun _ _ _ _=>Op.idxD (d:=30) (t:=28) (k := .i64) kc_3 (zal hx1 (f:=zab.d)) (OV.tmp 29 _)),(16,.len (zdm x1.t.k.abs))] [(0,(vRs rs)),(2,vi .i64 L),(7,vi .i64 (j:Int)),(38,vb (decide ((x1.t.k.abs.length:Int)>L)))] [] h ?_;clear h;intro a w h
     refine zaa (decide ((x1.t.k.abs.length:Int)>L)) h rfl (fun hc=>?_) (fun hc=>?_)
     ·have hc6:=hc;clear hc
      have hc6':=of_decide_eq_true hc6
      refine rq za0 0 [] [(0,(vRs rs)),(2,vi .i64 L),(6,vb false),(7,vi .i64 (j:Int))] [] h ?_;clear h;intro a w h
      refine wp_ret (za9 (zaf (za9 (za9 (zaf (za9 ?_))))))
      refine zap [.c (cB false)] h Exit.ret (.inl rfl)  rfl ⟨RV.tmp _ _ rfl,trivial⟩ ?_
      rw [show zcg rs most L=false from by unfold zcg;rw [zbd hx1 (show zfl L x1=false from by rw [zfl,decide_eq_false (p:=(_:Int)≤L) (by have:=of_decide_eq_true hc6;omega),Bool.and_false];rfl),Bool.and_false]];first | done | rfl
     ·have hc7:=hc;clear hc
      have hc7':=of_decide_eq_false hc7
      refine wp_skip (za4 (rq za0 0 [] [(0,(vRs rs)),(2,vi .i64 L),(7,vi .i64 (j:Int)),(8,vi .i64 0)] [] h ?_));clear h;intro a w h
      refine wp_block ?_
      have hjr:=hI1
      refine zb1 (ι:=(Nat)) (fun (z_:(Nat))=>match z_ with | i=>i≤x1.t.parts.length∧(x1.t.parts.take i).all (fun p=>decide ((p.c.abs.length:Int)≤L))=true)
        (fun (z_:(Nat))=>match z_ with | i=>[(0,(vRs rs)),(2,vi .i64 L),(7,vi .i64 (j:Int)),(8,vi .i64 (i:Int))])
        (fun (z_:(Nat))=>match z_ with | i=>[])
        (fun (z_:(Nat))=>match z_ with | i=>x1.t.parts.length - i) 0 ?_ h (by kernel_rfl) (by kernel_rfl) ?_
      ·exact ⟨Nat.zero_le _,rfl⟩
      ·clear h;rintro i a w hI h
       change St _ (F.of [(0,(vRs rs)),(2,vi .i64 L),(7,vi .i64 (j:Int)),(8,vi .i64 (i:Int))] []) a w at h
       obtain ⟨hJ1,hJ2⟩:=hI
       refine wp_seq (rq za0 0 [(3,.gen _ _ _ fun _ _ _ _=>Op.idxD (d:=42) (t:=40) (k := .i64) kc_3 (zal hx1 (f:=zab.d)) (OV.tmp 41 _)),(7,.len (c:=(cPs x1.t.parts)) (n:=x1.t.parts.length) (zae _ _ _))] [(0,(vRs rs)),(2,vi .i64 L),(7,vi .i64 (j:Int)),(8,vi .i64 (i:Int)),(47,vb (decide ((i:Int)<(x1.t.parts.length:Int))))] [] h ?_);clear h;intro a w h
       refine zaa (decide ((i:Int)<(x1.t.parts.length:Int))) h rfl (fun hc=>?_) (fun hc=>?_)
       ·have hc8:=hc;clear hc
        have hc8':=of_decide_eq_true hc8
        refine wp_skip (za4 (wp_seq (wp_block ?_)))
        obtain ⟨x2,hx2⟩:∃ z_:za2,x1.t.parts[i]?=some z_:=⟨_,List.getElem?_eq_getElem (by first | omega | (simp at *;omega))⟩
        refine rq za0 0 [(2,.gen _ _ _ fun _ _ _ _=>Op.idxD (d:=52) (t:=50) (k := .i64) kc_3 (zal hx1 (f:=zab.d)) (OV.tmp 51 _)),(7,.gen _ _ _ fun _ _ _ _=>Op.idxD (d:=57) (t:=55) (k := .i64) zc0 (zal hx2 (f:=za2.d)) (OV.tmp 56 _)),(11,.len (zdm x2.c.abs))] [(0,(vRs rs)),(2,vi .i64 L),(7,vi .i64 (j:Int)),(8,vi .i64 (i:Int)),(63,vb (decide ((x2.c.abs.length:Int)>L)))] [] h ?_;clear h;intro a w h
        refine zaa (decide ((x2.c.abs.length:Int)>L)) h rfl (fun hc=>?_) (fun hc=>?_)
        ·have hc9:=hc;clear hc
         have hc9':=of_decide_eq_true hc9
         refine rq za0 0 [] [(0,(vRs rs)),(2,vi .i64 L),(6,vb false),(7,vi .i64 (j:Int)),(8,vi .i64 (i:Int))] [] h ?_;clear h;intro a w h
         refine wp_ret (zaf (za9 (za9 (zaf (zaf (za9 (za9 (zaf (za9 ?_)))))))))
         refine zap [.c (cB false)] h Exit.ret (.inl rfl)  rfl ⟨RV.tmp _ _ rfl,trivial⟩ ?_
         rw [show zcg rs most L=false from by unfold zcg;rw [zbd hx1 (show zfl L x1=false from by rw [zfl,zbd hx2 (decide_eq_false (by have:=of_decide_eq_true hc9;omega)),Bool.and_false]),Bool.and_false]];first | done | rfl
        ·have hc10:=hc;clear hc
         have hc10':=of_decide_eq_false hc10
         refine wp_skip (zac (za4 (rn za0 0 [(1,.add .i64 (m:=(i:Int)) (n:=1) (zad (by omega) (by omega)))] [(0,(vRs rs)),(2,vi .i64 L),(7,vi .i64 (j:Int)),(8,vi .i64 ((i:Int)+1))] [] h ?_)));clear h;intro a w h
         refine za4 ?_
         refine zam (x:=i) (y:=i+1) h ?_ ?_
         ·exact ⟨by have:=zak hx2;omega,zbj hx2 hJ2 (decide_eq_true (by have:=of_decide_eq_false hc10;omega))⟩
         ·show x1.t.parts.length - (i+1)<x1.t.parts.length - i
          have:=zak hx2;omega
       ·have hc11:=hc;clear hc
        have hc11':=of_decide_eq_false hc11
        refine wp_exit (zai (zai (za8 (zac (za4 (rn za0 0 [(1,.add .i64 (m:=(j:Int)) (n:=1) (zad (by omega) (by omega)))] [(0,(vRs rs)),(2,vi .i64 L),(7,vi .i64 ((j:Int)+1))] [] h ?_))))));clear h;intro a w h
        refine za4 ?_
        refine zam (x:=j) (y:=j+1) h ?_ ?_
        ·exact ⟨by have:=zak hx1;omega,zbj hx1 hI2 (by rw [zfl,decide_eq_true (by have:=of_decide_eq_false hc5;omega),decide_eq_true (by have:=of_decide_eq_false hc7;omega),zdd (of_decide_eq_false hc11) hJ2];rfl)⟩
        ·show rs.length - (j+1)<rs.length - j
         have:=zak hx1;omega
   ·have hc12:=hc;clear hc
    have hc12':=of_decide_eq_false hc12
    refine wp_exit (zai (zai (za8 (za4 (rq za0 0 [] [(6,vb true)] [] h ?_)))));clear h;intro a w h
    refine wp_ret ?_
    refine zap [.c (cB true)] h Exit.ret (.inl rfl)  rfl ⟨RV.tmp _ _ rfl,trivial⟩ ?_
    rw [show zcg rs most L=true from by unfold zcg;rw [decide_eq_true (by have:=of_decide_eq_false hc2;omega),zdd (of_decide_eq_false hc12) hI2];rfl];first | done | rfl
theorem fewRs_one (r:zab) (L:Int):zcg [r] 1 L=zfl L r:=by simp [zcg]
set_option maxHeartbeats 4000000 in
theorem Sfew0 (f:za1) (L:Int) (ih:∀ g ∈ f.kids,Fn Tryz.prog 59 [] [(vF g),vi .i64 L] (vb (g.few L)) []) (hk:f.kids.length≤9223372036854775807):Fn Tryz.prog 59 [] [(vF f),vi .i64 L] (vb (f.few L)) []:=by
 have lk:=cnt_len f.kind f.kids
 refine Fn.body Tryz.func59 rfl 33 rfl fun w H B a h=>?_
 refine rq za0 0 [] [(1,vi .i64 L),(2,vp 0 0),(4,vb false)] [(0,.box (zF f))] h ?_;clear h;intro a w h
 refine wp_seq ?_
 rcases Bool.eq_false_or_eq_true (f.kind == 2) with hc | hc
 ·have hc1:=hc;clear hc
  have hc1':=hc1;(try simp at hc1')
  refine rq za0 1 [(2,.cmp (op := .eql) (m:=f.kind) (n:=2) (b:=true) .i64 hc1),(6,.gen _ _ _ fun _ _ _ _=>Op.buildD (d:=13) (len:=1) (rows:=[f.r].map zab.d) (rs:=[(12,(vR f.r))]) kc_5 (.cons (i:=0) (OV.tmp 12 _) (.nil)) (by kernel_rfl) rfl (by simp [zab.d]) (by decide) (by decide)),(8,.call (Fn.cast (SFewRs [f.r] 1 L (by simp)) (congrArg vb (fewRs_one f.r L))) kc_6)] [(1,vi .i64 L),(2,vp 0 0),(4,vb false),(17,vb (!(zfl L f.r)))] [(0,.box (zF f))] h ?_;clear h;intro a w h
  refine zaa (!(zfl L f.r)) h rfl (fun hc=>?_) (fun hc=>?_)
  ·have hc2:=hc;clear hc
   have hc2':=hc2;(try simp at hc2')
   refine rq za0 1 [] [(1,vi .i64 L),(2,vp 0 0),(4,vb false)] [(0,.box (zF f))] h ?_;clear h;intro a w h
   refine wp_ret (za9 ?_)
   refine zap [.c (cB false)] h Exit.ret (.inl rfl)  rfl ⟨RV.tmp _ _ rfl,trivial⟩ ?_
   have hz:f.few L=false:=by rw [za1.few_eq,(show (!(f.kind == 2) || zfl L f.r)=false from by rw [hc1];rw [(show (zfl L f.r)=false from by simpa using hc2)];rfl)];rfl
   rw [hz];first | done | rfl
  ·have hc3:=hc;clear hc
   have hc3':=hc3;(try simp at hc3')
   refine wp_skip (za4 (rq za0 1 [(1,.call (SKids f) kc_0)] [(1,vi .i64 L),(4,vb false),(5,(vFs (cnt f.kind f.kids)))] [] h ?_));clear h;intro a w h
   refine wp_seq (rq za0 1 [] [(1,vi .i64 L),(4,vb false),(5,(vFs (cnt f.kind f.kids))),(6,vi .i64 0)] [] h ?_);clear h;intro a w h
   refine wp_block ?_
   refine zb1 (ι:=(Nat)) (fun (z_:(Nat))=>match z_ with | j=>j≤(cnt f.kind f.kids).length∧((cnt f.kind f.kids).take j).all (za1.few L)=true)
     (fun (z_:(Nat))=>match z_ with | j=>[(1,vi .i64 L),(5,(vFs (cnt f.kind f.kids))),(6,vi .i64 (j:Int))])
     (fun (z_:(Nat))=>match z_ with | j=>[])
     (fun (z_:(Nat))=>match z_ with | j=>(cnt f.kind f.kids).length - j) 0 ?_ h (by kernel_rfl) (by kernel_rfl) ?_
   ·exact ⟨Nat.zero_le _,rfl⟩
   ·clear h;rintro j a w hI h
    change St _ (F.of [(1,vi .i64 L),(5,(vFs (cnt f.kind f.kids))),(6,vi .i64 (j:Int))] []) a w at h
    obtain ⟨hI1,hI2⟩:=hI
    refine wp_seq (rq za0 1 [(2,.len (c:=(cFs (cnt f.kind f.kids))) (n:=(cnt f.kind f.kids).length) (zae _ _ _))] [(1,vi .i64 L),(5,(vFs (cnt f.kind f.kids))),(6,vi .i64 (j:Int)),(23,vb (decide ((j:Int)<((cnt f.kind f.kids).length:Int))))] [] h ?_);clear h;intro a w h
    refine zaa (decide ((j:Int)<((cnt f.kind f.kids).length:Int))) h rfl (fun hc=>?_) (fun hc=>?_)
    ·have hc4:=hc;clear hc
     have hc4':=of_decide_eq_true hc4
     refine wp_skip (za4 (wp_seq (wp_block ?_)))
     obtain ⟨x3,hx3⟩:∃ z_:za1,(cnt f.kind f.kids)[j]?=some z_:=⟨_,List.getElem?_eq_getElem (by first | omega | (simp at *;omega))⟩
     refine rq za0 1 [(2,.gen _ _ _ fun _ _ _ _=>Op.idxD (d:=28) (t:=26) (k := .i64) kb_0 ((zal hx3 (f:=za1.d)).trans (congrArg some (za1.d_eq x3))) (OV.tmp 27 _)),(5,.call (ih x3 (zbx (List.mem_of_getElem? hx3))) kc_7)] [(1,vi .i64 L),(5,(vFs (cnt f.kind f.kids))),(6,vi .i64 (j:Int)),(32,vb (!(za1.few L x3)))] [] h ?_;clear h;intro a w h
     refine zaa (!(za1.few L x3)) h rfl (fun hc=>?_) (fun hc=>?_)
     ·have hc5:=hc;clear hc
      have hc5':=hc5;(try simp at hc5')
      refine rq za0 1 [] [(1,vi .i64 L),(4,vb false),(5,(vFs (cnt f.kind f.kids))),(6,vi .i64 (j:Int))] [] h ?_;clear h;intro a w h
      refine wp_ret (zaf (za9 (za9 (zaf (za9 ?_)))))
      refine zap [.c (cB false)] h Exit.ret (.inl rfl)  rfl ⟨RV.tmp _ _ rfl,trivial⟩ ?_
      have hz:f.few L=false:=by rw [za1.few_eq,zbd hx3 (show (za1.few L x3)=false from by simpa using hc5),Bool.and_false]
      rw [hz];first | done | rfl
     ·have hc6:=hc;clear hc
      have hc6':=hc6;(try simp at hc6')
      refine wp_skip (zac (za4 (rn za0 1 [(1,.add .i64 (m:=(j:Int)) (n:=1) (zad (by omega) (by omega)))] [(1,vi .i64 L),(5,(vFs (cnt f.kind f.kids))),(6,vi .i64 ((j:Int)+1))] [] h ?_)));clear h;intro a w h
      refine za4 ?_
      refine zam (x:=j) (y:=j+1) h ?_ ?_
      ·exact ⟨by have:=zak hx3;omega,zbj hx3 hI2 (show (za1.few L x3)=true from by simpa using hc6)⟩
      ·show (cnt f.kind f.kids).length - (j+1)<(cnt f.kind f.kids).length - j
       have:=zak hx3;omega
    ·have hc7:=hc;clear hc
     have hc7':=of_decide_eq_false hc7
     refine wp_exit (zai (zai (za8 (za4 (rq za0 1 [] [(4,vb true)] [] h ?_)))));clear h;intro a w h
     refine wp_ret ?_
     refine zap [.c (cB true)] h Exit.ret (.inl rfl)  rfl ⟨RV.tmp _ _ rfl,trivial⟩ ?_
     have hz:f.few L=true:=by rw [za1.few_eq,(show (!(f.kind == 2) || zfl L f.r)=true from by rw [hc1];rw [(show (zfl L f.r)=true from by simpa using hc3)];rfl),zdd (of_decide_eq_false hc7) hI2];rfl
     rw [hz];first | done | rfl
 ·have hc8:=hc;clear hc
  have hc8':=hc8;(try simp at hc8')
  refine rq za0 1 [(2,.cmp (op := .eql) (m:=f.kind) (n:=2) (b:=false) .i64 hc8)] [(1,vi .i64 L),(2,vp 0 0),(4,vb false),(17,vb false)] [(0,.box (zF f))] h ?_;clear h;intro a w h
  refine zaa false h rfl (fun hc=>?_) (fun hc=>?_)
  ·cases hc
  ·clear hc
   refine wp_skip (za4 (rq za0 1 [(1,.call (SKids f) kc_0)] [(1,vi .i64 L),(4,vb false),(5,(vFs (cnt f.kind f.kids)))] [] h ?_));clear h;intro a w h
   refine wp_seq (rq za0 1 [] [(1,vi .i64 L),(4,vb false),(5,(vFs (cnt f.kind f.kids))),(6,vi .i64 0)] [] h ?_);clear h;intro a w h
   refine wp_block ?_
   refine zb1 (ι:=(Nat)) (fun (z_:(Nat))=>match z_ with | j=>j≤(cnt f.kind f.kids).length∧((cnt f.kind f.kids).take j).all (za1.few L)=true)
     (fun (z_:(Nat))=>match z_ with | j=>[(1,vi .i64 L),(5,(vFs (cnt f.kind f.kids))),(6,vi .i64 (j:Int))])
     (fun (z_:(Nat))=>match z_ with | j=>[])
     (fun (z_:(Nat))=>match z_ with | j=>(cnt f.kind f.kids).length - j) 0 ?_ h (by kernel_rfl) (by kernel_rfl) ?_
   ·exact ⟨Nat.zero_le _,rfl⟩
   ·clear h;rintro j a w hI h
    change St _ (F.of [(1,vi .i64 L),(5,(vFs (cnt f.kind f.kids))),(6,vi .i64 (j:Int))] []) a w at h
    obtain ⟨hI1,hI2⟩:=hI
    refine wp_seq (rq za0 1 [(2,.len (c:=(cFs (cnt f.kind f.kids))) (n:=(cnt f.kind f.kids).length) (zae _ _ _))] [(1,vi .i64 L),(5,(vFs (cnt f.kind f.kids))),(6,vi .i64 (j:Int)),(23,vb (decide ((j:Int)<((cnt f.kind f.kids).length:Int))))] [] h ?_);clear h;intro a w h
    refine zaa (decide ((j:Int)<((cnt f.kind f.kids).length:Int))) h rfl (fun hc=>?_) (fun hc=>?_)
    ·have hc9:=hc;clear hc
     have hc9':=of_decide_eq_true hc9
     refine wp_skip (za4 (wp_seq (wp_block ?_)))
     obtain ⟨x6,hx6⟩:∃ z_:za1,(cnt f.kind f.kids)[j]?=some z_:=⟨_,List.getElem?_eq_getElem (by first | omega | (simp at *;omega))⟩
     refine rq za0 1 [(2,.gen _ _ _ fun _ _ _ _=>Op.idxD (d:=28) (t:=26) (k := .i64) kb_0 ((zal hx6 (f:=za1.d)).trans (congrArg some (za1.d_eq x6))) (OV.tmp 27 _)),(5,.call (ih x6 (zbx (List.mem_of_getElem? hx6))) kc_7)] [(1,vi .i64 L),(5,(vFs (cnt f.kind f.kids))),(6,vi .i64 (j:Int)),(32,vb (!(za1.few L x6)))] [] h ?_;clear h;intro a w h
     refine zaa (!(za1.few L x6)) h rfl (fun hc=>?_) (fun hc=>?_)
     ·have hc10:=hc;clear hc
      have hc10':=hc10;(try simp at hc10')
      refine rq za0 1 [] [(1,vi .i64 L),(4,vb false),(5,(vFs (cnt f.kind f.kids))),(6,vi .i64 (j:Int))] [] h ?_;clear h;intro a w h
      refine wp_ret (zaf (za9 (za9 (zaf (za9 ?_)))))
      refine zap [.c (cB false)] h Exit.ret (.inl rfl)  rfl ⟨RV.tmp _ _ rfl,trivial⟩ ?_
      have hz:f.few L=false:=by rw [za1.few_eq,zbd hx6 (show (za1.few L x6)=false from by simpa using hc10),Bool.and_false]
      rw [hz];first | done | rfl
     ·have hc11:=hc;clear hc
      have hc11':=hc11;(try simp at hc11')
      refine wp_skip (zac (za4 (rn za0 1 [(1,.add .i64 (m:=(j:Int)) (n:=1) (zad (by omega) (by omega)))] [(1,vi .i64 L),(5,(vFs (cnt f.kind f.kids))),(6,vi .i64 ((j:Int)+1))] [] h ?_)));clear h;intro a w h
      refine za4 ?_
      refine zam (x:=j) (y:=j+1) h ?_ ?_
      ·exact ⟨by have:=zak hx6;omega,zbj hx6 hI2 (show (za1.few L x6)=true from by simpa using hc11)⟩
      ·show (cnt f.kind f.kids).length - (j+1)<(cnt f.kind f.kids).length - j
       have:=zak hx6;omega
    ·have hc12:=hc;clear hc
     have hc12':=of_decide_eq_false hc12
     refine wp_exit (zai (zai (za8 (za4 (rq za0 1 [] [(4,vb true)] [] h ?_)))));clear h;intro a w h
     refine wp_ret ?_
     refine zap [.c (cB true)] h Exit.ret (.inl rfl)  rfl ⟨RV.tmp _ _ rfl,trivial⟩ ?_
     have hz:f.few L=true:=by rw [za1.few_eq,(show (!(f.kind == 2) || zfl L f.r)=true from by rw [hc8];rfl),zdd (of_decide_eq_false hc12) hI2];rfl
     rw [hz];first | done | rfl
theorem Sfew (L:Int) (f:za1):f.lb→Fn Tryz.prog 59 [] [(vF f),vi .i64 L] (vb (f.few L)) [] :=
 za1.ind (P:=fun f=>f.lb→Fn Tryz.prog 59 [] [(vF f),vi .i64 L] (vb (f.few L)) []) (fun k r ks ih hl=>by
  have hl:=(za1.lb_eq _).1 hl
  exact Sfew0 ⟨k,r,ks⟩ L (fun g hg=>ih g hg (hl.2 g hg)) hl.1.2) f
set_option maxHeartbeats 4000000 in
theorem SFewF (f:za1) (most L:Int) (hl:f.lb) (h0:0≤most) (h1:most≤1000):Fn Tryz.prog 31 [] [(vF f),vi .i64 most,vi .i64 L] (vb (fewF f most L)) []:=by
 refine Fn.body Tryz.func31 rfl 15 rfl fun w H B a h=>?_
 refine rq za0 0 [] [(1,vi .i64 most),(2,vi .i64 L),(3,vp 0 0),(6,vb false)] [(0,.box (zF f))] h ?_;clear h;intro a w h
 refine wp_seq (rq za0 1 [(2,.call (SSize f hl most h0 h1) kc_2)] [(2,vi .i64 L),(3,vp 0 0),(6,vb false),(11,vb (decide (f.size most>most)))] [(0,.box (zF f))] h ?_);clear h;intro a w h
 refine zaa (decide (f.size most>most)) h rfl (fun hc=>?_) (fun hc=>?_)
 ·have hc1:=hc;clear hc
  have hc1':=of_decide_eq_true hc1
  refine rq za0 1 [] [(2,vi .i64 L),(3,vp 0 0),(6,vb false)] [(0,.box (zF f))] h ?_;clear h;intro a w h
  refine wp_ret (za9 ?_)
  refine zap [.c (cB false)] h Exit.ret (.inl rfl)  rfl ⟨RV.tmp _ _ rfl,trivial⟩ ?_
  unfold fewF;rw [hc1];first | done | rfl
 ·have hc2:=hc;clear hc
  have hc2':=of_decide_eq_false hc2
  refine wp_skip (za4 (rq za0 1 [(2,.call (Sfew L f hl) kc_7)] [(6,vb (f.few L))] [] h ?_));clear h;intro a w h
  refine wp_ret ?_
  refine zap [.c (cB (f.few L))] h Exit.ret (.inl rfl)  rfl ⟨RV.tmp _ _ rfl,trivial⟩ ?_
  unfold fewF;rw [hc2];first | done | rfl
set_option maxHeartbeats 4000000 in
theorem SRValue (t:zbb) (vs:List ZI) {n L M:Nat} (ht:TOk n L t) (hn:n≤1000) (hL:L+M≤20000) (hv:VOk M vs):Fn Tryz.prog 53 [] [(vT t),(vZs vs)] (vz (ZI.of (zdr t vs))) []:=by
 have kt:=ht.kl
 have lnv:=hv.1
 refine Fn.body Tryz.func53 rfl 27 rfl fun w H B a h=>?_
 refine rq za0 0 [] [(1,(vZs vs)),(2,vp 0 0),(4,vp 1 0)] [(0,.box (zT t)),(1,.box [cB false,.d (nsl [])])] h ?_;clear h;intro a w h
 refine rq za0 2 [] [(1,(vZs vs)),(2,vp 0 0),(4,vp 1 0),(5,vp 2 0)] [(0,.box (zT t)),(1,.box [cB false,.d (nsl [])]),(2,.box (zi t.k))] h ?_;clear h;intro a w h
 refine wp_seq (rq za0 3 [] [(1,(vZs vs)),(2,vp 0 0),(4,vp 1 0),(5,vp 2 0),(6,vi .i64 0)] [(0,.box (zT t)),(1,.box [cB false,.d (nsl [])]),(2,.box (zi t.k))] h ?_);clear h;intro a w h
 refine wp_block ?_
 refine zb1 (ι:=(Nat) × (ZI)) (fun (z_:(Nat) × (ZI))=>match z_ with | (j,out)=>j≤vs.length∧out.val=t.k.val+zd5 vs (fltV j t.parts)∧Lb out.abs∧out.abs.length≤L+M+2)
   (fun (z_:(Nat) × (ZI))=>match z_ with | (j,out)=>[(1,(vZs vs)),(2,vp 0 0),(4,vp 1 0),(5,vp 2 0),(6,vi .i64 (j:Int))])
   (fun (z_:(Nat) × (ZI))=>match z_ with | (j,out)=>[(0,.box (zT t)),(1,.box [cB false,.d (nsl [])]),(2,.box (zi out))])
   (fun (z_:(Nat) × (ZI))=>match z_ with | (j,out)=>vs.length - j) (0,t.k) ?_ h (by kernel_rfl) (by kernel_rfl) ?_
 ·exact ⟨Nat.zero_le _,by rw [fltV_zero];simp [zd5],ht.kb,by omega⟩
 ·clear h;rintro ⟨j,out⟩ a w hI h
  change St _ (F.of [(1,(vZs vs)),(2,vp 0 0),(4,vp 1 0),(5,vp 2 0),(6,vi .i64 (j:Int))] [(0,.box (zT t)),(1,.box [cB false,.d (nsl [])]),(2,.box (zi out))]) a w at h
  obtain ⟨hI1,vo,ho,lo⟩:=hI
  refine wp_seq (rq za0 3 [(2,.len (c:=(cZs vs)) (n:=vs.length) (zae _ _ _))] [(1,(vZs vs)),(2,vp 0 0),(4,vp 1 0),(5,vp 2 0),(6,vi .i64 (j:Int)),(12,vb (decide ((j:Int)<(vs.length:Int))))] [(0,.box (zT t)),(1,.box [cB false,.d (nsl [])]),(2,.box (zi out))] h ?_);clear h;intro a w h
  refine zaa (decide ((j:Int)<(vs.length:Int))) h rfl (fun hc=>?_) (fun hc=>?_)
  ·have hc1:=hc;clear hc
   have hc1':=of_decide_eq_true hc1
   refine wp_skip (za4 (wp_seq (wp_block ?_)))
   obtain ⟨r1,er1,vr1,or1,lr1⟩:=mkZ (v:=zav t.parts (j:Int)) (m:=L+1) (coef_len (ht.mono hn (Nat.le_refl L)).psok (j:Int))
   obtain ⟨x2,hx2⟩:∃ z_:ZI,vs[j]?=some z_:=⟨_,List.getElem?_eq_getElem (by first | omega | (simp at *;omega))⟩
   obtain ⟨ox2,lx2⟩:=hv.get hx2
   obtain ⟨r3,er3,vr3,or3,lr3⟩:=mkZ (v:=r1.val*x2.val) (m:=r1.abs.length+x2.abs.length) (zgi or1 ox2)
   obtain ⟨r4,er4,vr4,or4,lr4⟩:=mkZ (v:=out.val+r3.val) (m:=out.abs.length+r3.abs.length+1) (zd8 ho or3)
   refine rn za0 3 [(3,.call (Fn.cast (SCoef t (j:Int) (ht.mono hn (show L≤40000 by omega)).psok) (congrArg vz er1.symm)) tb_4),(6,.gen _ _ _ fun _ _ _ _=>Op.idxD (d:=21) (t:=19) (k := .i64) tt_6 (zal hx2 (f:=ziD)) (OV.tmp 20 _)),(8,.call (Fn.cast (SRMul r1 x2 or1 ox2 (by omega) (by omega)) (congrArg vz er3.symm)) zs_18),(9,.call (Fn.cast (SRAdd out r3 ho or3 (by omega) (by omega)) (congrArg vz er4.symm)) ib_5)] [(1,(vZs vs)),(2,vp 0 0),(4,vp 1 0),(5,vp 2 0),(6,vi .i64 (j:Int))] [(0,.box (zT t)),(1,.box [cB false,.d (nsl [])]),(2,.box (zi r4))] h ?_;clear h;intro a w h
   refine zac (za4 (rn za0 3 [(1,.add .i64 (m:=(j:Int)) (n:=1) (zad (by omega) (by omega)))] [(1,(vZs vs)),(2,vp 0 0),(4,vp 1 0),(5,vp 2 0),(6,vi .i64 ((j:Int)+1))] [(0,.box (zT t)),(1,.box [cB false,.d (nsl [])]),(2,.box (zi r4))] h ?_));clear h;intro a w h
   refine za4 ?_
   refine zam (x:=(j,out)) (y:=((j+1),r4)) h ?_ ?_
   ·have:=zak hx2
    have hvz:r4.val=t.k.val+zd5 vs (fltV (j+1) t.parts):=by rw [vr4,vr3,vr1,vo,fltV_succ,valAt_some (v:=(j:Int)) rfl hx2,Int.add_assoc]
    exact ⟨by omega,hvz,or4,by rw [er4];exact Nat.le_trans (by rw [← vr4,hvz];exact val_len ht hn hv fltV_mem (fltV_len _ _)) (by omega)⟩
   ·show vs.length - (j+1)<vs.length - j
    have:=zak hx2;omega
  ·have hc2:=hc;clear hc
   have hc2':=of_decide_eq_false hc2
   refine wp_exit (zai (zai (za8 (za4 ?_))))
   obtain ⟨r5,er5,vr5,or5,lr5⟩:=mkZ (v:=out.val) (m:=out.abs.length) (zci ho)
   refine rq za0 3 [(1,.call (Fn.cast (SRClean out ho (by omega)) (congrArg vz er5.symm)) tb_7)] [(4,vp 1 0)] [(1,.box (zi r5))] h ?_;clear h;intro a w h
   refine wp_ret ?_
   refine zap [.agg (zi r5)] h Exit.ret (.inl rfl)  rfl ⟨RV.agg _ 1 0 _ _ _ _ zdf rfl rfl rfl rfl,trivial⟩ ?_
   have hz:out.val=zdr t vs:=by rw [vo,show j=vs.length by first | omega | (simp_all;omega),fltV_all];rfl
   first | (rw [er5,hz];done) | (rw [er5,hz];rfl) | (rw [hz];done) | (rw [hz];rfl)
end
section
open Go.RowKit

theorem ke_2:za7 Tryz.prog 53:=za7.mk' (by kernel_rfl)
theorem ke_9:za7 Tryz.prog 25:=za7.mk' (by kernel_rfl)
theorem ke_10:za7 Tryz.prog 26:=za7.mk' (by kernel_rfl)
theorem ke_11:za7 Tryz.prog 51:=za7.mk' (by kernel_rfl)
set_option maxHeartbeats 4000000 in
theorem SrelHolds (r:zab) (vs:List ZI) {L M:Nat} (hL:L+M≤20000) (hv:VOk M vs) (hr:TokR L r):Fn Tryz.prog 51 [] [.t (.agg ([.d (.sl 3 (r.t.parts.map za2.d))]++zi r.t.k++[.d (.raw (.bool r.eq))])),.t (.c (.d (.sl 2 (vs.map ziD))))] (vb (zan vs r)) []:=by
 refine Fn.body Tryz.func51 rfl 22 rfl fun w H B a h=>?_
 refine rq za0 0 [] [(1,.t (.c (.d (.sl 2 (vs.map ziD))))),(2,vp 0 0),(4,vb false)] [(0,.box ([.d (.sl 3 (r.t.parts.map za2.d))]++zi r.t.k++[.d (.raw (.bool r.eq))]))] h ?_;clear h;intro a w h
 obtain ⟨r1,er1,vr1,or1,lr1⟩:=mkZ (v:=zdr r.t vs) (m:=L+M+2) (Nat.le_trans (val_len hr (by decide) hv (fun p hp=>hp) (Nat.le_refl _)) (by omega))
 refine rq za0 1 [(3,.call (Fn.cast (SValue r.t vs hr (by decide) hL hv) (congrArg vz er1.symm)) ty_6),(4,.call (zgq r1 or1 (by omega)) td_6)] [(2,vp 0 0),(4,vb false),(5,vi .i64 (sgn r1.val))] [(0,.box ([.d (.sl 3 (r.t.parts.map za2.d))]++zi r.t.k++[.d (.raw (.bool r.eq))]))] h ?_;clear h;intro a w h
 rcases Bool.eq_false_or_eq_true (sgn r1.val == 0) with hc | hc
 ·have hc1:=hc;clear hc
  have hc1':=hc1;(try simp at hc1')
  refine rq za0 1 [(1,.cmp (op := .eql) (m:=(sgn r1.val)) (n:=0) (b:=true) .i64 hc1)] [(4,vb true)] [] h ?_;clear h;intro a w h
  refine wp_ret ?_
  refine zap [.c (.d (.raw (.bool true)))] h Exit.ret (.inl rfl)  rfl ⟨RV.tmp _ _ rfl,trivial⟩ ?_
  have hz:zan vs r=(true):=by
   unfold zan;rw [← vr1]
   cases he:r.eq <;> simp_all <;> omega
  rw [hz];first | done | rfl
 ·have hc2:=hc;clear hc
  have hc2':=hc2;(try simp at hc2')
  rcases Bool.eq_false_or_eq_true r.eq with hc | hc
  ·have hc3:=hc;clear hc
   rw [hc3] at h
   refine rq za0 1 [(1,.cmp (op := .eql) (m:=(sgn r1.val)) (n:=0) (b:=false) .i64 hc2)] [(4,vb false)] [] h ?_;clear h;intro a w h
   refine wp_ret ?_
   refine zap [.c (.d (.raw (.bool false)))] h Exit.ret (.inl rfl)  rfl ⟨RV.tmp _ _ rfl,trivial⟩ ?_
   have hz:zan vs r=(false):=by
    unfold zan;rw [← vr1]
    cases he:r.eq <;> simp_all <;> omega
   rw [hz];first | done | rfl
  ·have hc4:=hc;clear hc
   rw [hc4] at h
   refine rq za0 1 [(1,.cmp (op := .eql) (m:=(sgn r1.val)) (n:=0) (b:=false) .i64 hc2)] [(4,vb (decide (sgn r1.val>0)))] [] h ?_;clear h;intro a w h
   refine wp_ret ?_
   refine zap [.c (.d (.raw (.bool (decide (sgn r1.val>0)))))] h Exit.ret (.inl rfl)  rfl ⟨RV.tmp _ _ rfl,trivial⟩ ?_
   have hz:zan vs r=(decide (sgn r1.val>0)):=by
    unfold zan;rw [← vr1]
    cases he:r.eq <;> simp_all <;> omega
   rw [hz];first | done | rfl
set_option maxHeartbeats 4000000 in
theorem SRrelHolds (r:zab) (vs:List ZI) {L M:Nat} (hL:L+M≤20000) (hv:VOk M vs) (hr:TokR L r):Fn Tryz.prog 25 [] [(vR r),(vZs vs)] (vb (zan vs r)) []:=by
 refine Fn.body Tryz.func25 rfl 17 rfl fun w H B a h=>?_
 refine rq za0 0 [] [(1,(vZs vs)),(2,vp 0 0),(4,vb false)] [(0,.box (zR_ r))] h ?_;clear h;intro a w h
 obtain ⟨r1,er1,vr1,or1,lr1⟩:=mkZ (v:=zdr r.t vs) (m:=L+M+2) (Nat.le_trans (val_len hr (by decide) hv (fun p hp=>hp) (Nat.le_refl _)) (by omega))
 refine rq za0 1 [(3,.call (Fn.cast (SRValue r.t vs hr (by decide) hL hv) (congrArg vz er1.symm)) ke_2),(4,.call (zcw r1 or1 (by omega)) ib_0)] [(2,vp 0 0),(4,vb false),(5,vi .i64 (sgn r1.val))] [(0,.box (zR_ r))] h ?_;clear h;intro a w h
 refine wp_seq (rq za0 1 [] [(4,vb false),(5,vi .i64 (sgn r1.val)),(12,vb r.eq)] [] h ?_);clear h;intro a w h
 refine zaa r.eq h rfl (fun hc=>?_) (fun hc=>?_)
 ·have hc1:=hc;clear hc
  refine rq za0 1 [] [(4,vb (sgn r1.val == 0)),(5,vi .i64 (sgn r1.val))] [] h ?_;clear h;intro a w h
  refine wp_ret (za9 ?_)
  refine zap [.c (cB (sgn r1.val == 0))] h Exit.ret (.inl rfl)  rfl ⟨RV.tmp _ _ rfl,trivial⟩ ?_
  have hz:zan vs r=(sgn r1.val == 0):=by
   unfold zan;rw [← vr1]
   cases he:r.eq <;> simp_all <;> omega
  rw [hz];first | done | rfl
 ·have hc2:=hc;clear hc
  refine wp_skip (za4 (rq za0 1 [] [(4,vb (decide (sgn r1.val≥0)))] [] h ?_));clear h;intro a w h
  refine wp_ret ?_
  refine zap [.c (cB (decide (sgn r1.val≥0)))] h Exit.ret (.inl rfl)  rfl ⟨RV.tmp _ _ rfl,trivial⟩ ?_
  have hz:zan vs r=(decide (sgn r1.val≥0)):=by
   unfold zan;rw [← vr1]
   cases he:r.eq <;> simp_all <;> omega
  rw [hz];first | done | rfl
theorem zg0 {α:Type} {xs:List α} {x:α} (h:xs[0]?=some x):x ∈ xs.take 1:=by
 cases xs with
 | nil=>cases h
 | cons y ys=>simp at h;subst h;simp
theorem cons_of_at {α:Type} {xs:List α} {x:α} (h:xs[0]?=some x):∃ tl,xs=x :: tl:=by
 cases xs with
 | nil=>cases h
 | cons y ys=>simp at h;subst h;exact ⟨ys,rfl⟩
set_option maxHeartbeats 4000000 in
theorem SRHolds0 (f:za1) (vs:List ZI) {L M:Nat} (ih:∀ g ∈ f.kids,g.ok L→Fn Tryz.prog 26 [] [(vF g),(vZs vs)] (vb (za1.holds vs g)) []) (hL:L+M≤20000) (hv:VOk M vs) (hf:f.ok L) (hk:f.kids.length≤9223372036854775807):Fn Tryz.prog 26 [] [(vF f),(vZs vs)] (vb (f.holds vs)) []:=by
 refine Fn.body Tryz.func26 rfl 65 rfl fun w H B a h=>?_
 refine rq za0 0 [] [(1,(vZs vs)),(2,vp 0 0),(4,vb false)] [(0,.box (zF f))] h ?_;clear h;intro a w h
 refine wp_seq (rq za0 1 [] [(1,(vZs vs)),(2,vp 0 0),(4,vb false),(8,vi .i64 f.kind)] [(0,.box (zF f))] h ?_);clear h;intro a w h
 refine wp_block (rq za0 1 [] [(1,(vZs vs)),(2,vp 0 0),(4,vb false),(8,vi .i64 f.kind),(9,vb (f.kind == 0))] [(0,.box (zF f))] h ?_);clear h;intro a w h
 refine zaa (f.kind == 0) h rfl (fun hc=>?_) (fun hc=>?_)
 ·have hc1:=hc;clear hc
  have hc1':=hc1;(try simp at hc1')
  refine rq za0 1 [] [(4,vb true)] [] h ?_;clear h;intro a w h
  refine wp_ret (zaf (za9 ?_))
  refine zap [.c (cB true)] h Exit.ret (.inl rfl)  rfl ⟨RV.tmp _ _ rfl,trivial⟩ ?_
  have hz:f.holds vs=(true):=by rw [za1.holds_eq,if_pos (by omega)];first | done | rfl
  rw [hz];first | done | rfl
 ·have hc2:=hc;clear hc
  have hc2':=hc2;(try simp at hc2')
  refine rq za0 1 [] [(1,(vZs vs)),(2,vp 0 0),(4,vb false),(8,vi .i64 f.kind),(11,vb (f.kind == 2))] [(0,.box (zF f))] h ?_;clear h;intro a w h
  refine zaa (f.kind == 2) h rfl (fun hc=>?_) (fun hc=>?_)
  ·have hc3:=hc;clear hc
   have hc3':=hc3;(try simp at hc3')
   refine rq za0 1 [(3,.call (SRrelHolds f.r vs hL hv (((za1.ok_eq L f).1 hf).1 (by omega))) ke_9)] [(4,vb (zan vs f.r))] [] h ?_;clear h;intro a w h
   refine wp_ret (zaf (za9 ?_))
   refine zap [.c (cB (zan vs f.r))] h Exit.ret (.inl rfl)  rfl ⟨RV.tmp _ _ rfl,trivial⟩ ?_
   have hz:f.holds vs=(zan vs f.r):=by rw [za1.holds_eq,if_neg (by omega),if_pos (by omega)];first | done | rfl
   rw [hz];first | done | rfl
  ·have hc4:=hc;clear hc
   have hc4':=hc4;(try simp at hc4')
   refine rq za0 1 [] [(1,(vZs vs)),(2,vp 0 0),(4,vb false),(8,vi .i64 f.kind),(17,vb (f.kind == 3))] [(0,.box (zF f))] h ?_;clear h;intro a w h
   refine zaa (f.kind == 3) h rfl (fun hc=>?_) (fun hc=>?_)
   ·have hc5:=hc;clear hc
    have hc5':=hc5;(try simp at hc5')
    rcases Bool.eq_false_or_eq_true (decide ((f.kids.length:Int)>0)) with hc | hc
    ·have hc6:=hc;clear hc
     have hc6':=of_decide_eq_true hc6
     obtain ⟨x2,hx2⟩:∃ z_:za1,f.kids[0]?=some z_:=⟨_,List.getElem?_eq_getElem (by first | omega | (simp at *;omega))⟩
     refine rq za0 1 [(2,.len (c:=(cFs f.kids)) (n:=f.kids.length) (zae _ _ _)),(3,.cmp (op := .gtr) (m:=(f.kids.length:Int)) (n:=0) (b:=true) .i64 hc6),(7,.gen _ _ _ fun _ _ _ _=>Op.idxD (d:=26) (t:=25) (k := .i64) kb_0 ((zal hx2 (f:=za1.d)).trans (congrArg some (za1.d_eq x2))) (OV.const (.int .i64 0) rfl)),(10,.call (ih x2 (List.mem_of_getElem? hx2) (((za1.ok_eq L f).1 hf).2 _ (by unfold cnt;first | (rw [if_pos (by omega)];exact List.mem_of_getElem? hx2) | (rw [if_neg (by omega),if_pos (by omega)];exact zg0 hx2)))) ke_10)] [(4,vb (!(za1.holds vs x2)))] [] h ?_;clear h;intro a w h
     refine wp_ret (zaf (za9 ?_))
     refine zap [.c (cB (!(za1.holds vs x2)))] h Exit.ret (.inl rfl)  rfl ⟨RV.tmp _ _ rfl,trivial⟩ ?_
     have hz:f.holds vs=(!(za1.holds vs x2)):=by rw [za1.holds_eq,if_neg (by omega),if_neg (by omega),if_pos (by omega)];obtain ⟨tl,htl⟩:=cons_of_at hx2;rw [htl];first | done | rfl
     rw [hz];first | done | rfl
    ·have hc7:=hc;clear hc
     have hc7':=of_decide_eq_false hc7
     refine rq za0 1 [(2,.len (c:=(cFs f.kids)) (n:=f.kids.length) (zae _ _ _)),(3,.cmp (op := .gtr) (m:=(f.kids.length:Int)) (n:=0) (b:=false) .i64 hc7)] [(4,vb false)] [] h ?_;clear h;intro a w h
     refine wp_ret (zaf (za9 ?_))
     refine zap [.c (cB false)] h Exit.ret (.inl rfl)  rfl ⟨RV.tmp _ _ rfl,trivial⟩ ?_
     have hz:f.holds vs=(false):=by rw [za1.holds_eq,if_neg (by omega),if_neg (by omega),if_pos (by omega)];rw [List.length_eq_zero_iff.1 (show f.kids.length=0 by have:=of_decide_eq_false hc7;omega)];first | done | rfl
     rw [hz];first | done | rfl
   ·have hc8:=hc;clear hc
    have hc8':=hc8;(try simp at hc8')
    refine rq za0 1 [] [(1,(vZs vs)),(2,vp 0 0),(4,vb false),(8,vi .i64 f.kind),(32,vb (f.kind == 4))] [(0,.box (zF f))] h ?_;clear h;intro a w h
    refine zaa (f.kind == 4) h rfl (fun hc=>?_) (fun hc=>?_)
    ·have hc9:=hc;clear hc
     have hc9':=hc9;(try simp at hc9')
     refine wp_seq (rq za0 1 [] [(1,(vZs vs)),(2,vp 0 0),(4,vb false),(5,vi .i64 0)] [(0,.box (zF f))] h ?_);clear h;intro a w h
     refine wp_block ?_
     refine zb1 (ι:=(Nat)) (fun (z_:(Nat))=>match z_ with | j=>j≤f.kids.length∧(f.kids.take j).all (za1.holds vs)=true)
       (fun (z_:(Nat))=>match z_ with | j=>[(1,(vZs vs)),(2,vp 0 0),(5,vi .i64 (j:Int))])
       (fun (z_:(Nat))=>match z_ with | j=>[(0,.box (zF f))])
       (fun (z_:(Nat))=>match z_ with | j=>f.kids.length - j) 0 ?_ h (by kernel_rfl) (by kernel_rfl) ?_
     ·exact ⟨Nat.zero_le _,rfl⟩
     ·clear h;rintro j a w hI h
      change St _ (F.of [(1,(vZs vs)),(2,vp 0 0),(5,vi .i64 (j:Int))] [(0,.box (zF f))]) a w at h
      obtain ⟨hI1,hI2⟩:=hI
      refine wp_seq (rq za0 1 [(3,.len (c:=(cFs f.kids)) (n:=f.kids.length) (zae _ _ _))] [(1,(vZs vs)),(2,vp 0 0),(5,vi .i64 (j:Int)),(38,vb (decide ((j:Int)<(f.kids.length:Int))))] [(0,.box (zF f))] h ?_);clear h;intro a w h
      refine zaa (decide ((j:Int)<(f.kids.length:Int))) h rfl (fun hc=>?_) (fun hc=>?_)
      ·have hc10:=hc;clear hc
       have hc10':=of_decide_eq_true hc10
       refine wp_skip (za4 (wp_seq (wp_block ?_)))
       obtain ⟨x4,hx4⟩:∃ z_:za1,f.kids[j]?=some z_:=⟨_,List.getElem?_eq_getElem (by first | omega | (simp at *;omega))⟩
       refine rq za0 1 [(3,.gen _ _ _ fun _ _ _ _=>Op.idxD (d:=44) (t:=42) (k := .i64) kb_0 ((zal hx4 (f:=za1.d)).trans (congrArg some (za1.d_eq x4))) (OV.tmp 43 _)),(6,.call (ih x4 (List.mem_of_getElem? hx4) (((za1.ok_eq L f).1 hf).2 _ (by unfold cnt;first | (rw [if_pos (by omega)];exact List.mem_of_getElem? hx4) | (rw [if_neg (by omega),if_pos (by omega)];exact zg0 hx4)))) ke_10)] [(1,(vZs vs)),(2,vp 0 0),(5,vi .i64 (j:Int)),(48,vb (!(za1.holds vs x4)))] [(0,.box (zF f))] h ?_;clear h;intro a w h
       refine zaa (!(za1.holds vs x4)) h rfl (fun hc=>?_) (fun hc=>?_)
       ·have hc11:=hc;clear hc
        have hc11':=hc11;(try simp at hc11')
        refine rq za0 1 [] [(1,(vZs vs)),(2,vp 0 0),(4,vb false),(5,vi .i64 (j:Int))] [(0,.box (zF f))] h ?_;clear h;intro a w h
        refine wp_ret (zaf (za9 (za9 (zaf (za9 (zaf (za9 ?_)))))))
        refine zap [.c (cB false)] h Exit.ret (.inl rfl)  rfl ⟨RV.tmp _ _ rfl,trivial⟩ ?_
        have hz:f.holds vs=(false):=by rw [za1.holds_eq,if_neg (by omega),if_neg (by omega),if_neg (by omega),if_pos (by omega)];exact zbd hx4 (show (za1.holds vs x4)=false from by simpa using hc11)
        rw [hz];first | done | rfl
       ·have hc12:=hc;clear hc
        have hc12':=hc12;(try simp at hc12')
        refine wp_skip (zac (za4 (rn za0 1 [(1,.add .i64 (m:=(j:Int)) (n:=1) (zad (by omega) (by omega)))] [(1,(vZs vs)),(2,vp 0 0),(5,vi .i64 ((j:Int)+1))] [(0,.box (zF f))] h ?_)));clear h;intro a w h
        refine za4 ?_
        refine zam (x:=j) (y:=j+1) h ?_ ?_
        ·exact ⟨by have:=zak hx4;omega,zbj hx4 hI2 (show (za1.holds vs x4)=true from by simpa using hc12)⟩
        ·show f.kids.length - (j+1)<f.kids.length - j
         have:=zak hx4;omega
      ·have hc13:=hc;clear hc
       have hc13':=of_decide_eq_false hc13
       refine wp_exit (zai (zai (za8 (za4 (rq za0 1 [] [(4,vb true)] [] h ?_)))));clear h;intro a w h
       refine wp_ret (zaf (za9 ?_))
       refine zap [.c (cB true)] h Exit.ret (.inl rfl)  rfl ⟨RV.tmp _ _ rfl,trivial⟩ ?_
       have hz:f.holds vs=(true):=by rw [za1.holds_eq,if_neg (by omega),if_neg (by omega),if_neg (by omega),if_pos (by omega)];exact zdd (of_decide_eq_false hc13) hI2
       rw [hz];first | done | rfl
    ·have hc14:=hc;clear hc
     have hc14':=hc14;(try simp at hc14')
     refine rq za0 1 [] [(1,(vZs vs)),(2,vp 0 0),(4,vb false),(49,vb (f.kind == 5))] [(0,.box (zF f))] h ?_;clear h;intro a w h
     refine zaa (f.kind == 5) h rfl (fun hc=>?_) (fun hc=>?_)
     ·have hc15:=hc;clear hc
      have hc15':=hc15;(try simp at hc15')
      refine rq za0 1 [] [(1,(vZs vs)),(2,vp 0 0),(4,vb false),(6,vi .i64 0)] [(0,.box (zF f))] h ?_;clear h;intro a w h
      refine wp_block ?_
      refine zb1 (ι:=(Nat)) (fun (z_:(Nat))=>match z_ with | j=>j≤f.kids.length∧(f.kids.take j).any (za1.holds vs)=false)
        (fun (z_:(Nat))=>match z_ with | j=>[(1,(vZs vs)),(2,vp 0 0),(6,vi .i64 (j:Int))])
        (fun (z_:(Nat))=>match z_ with | j=>[(0,.box (zF f))])
        (fun (z_:(Nat))=>match z_ with | j=>f.kids.length - j) 0 ?_ h (by kernel_rfl) (by kernel_rfl) ?_
      ·exact ⟨Nat.zero_le _,rfl⟩
      ·clear h;rintro j a w hI h
       change St _ (F.of [(1,(vZs vs)),(2,vp 0 0),(6,vi .i64 (j:Int))] [(0,.box (zF f))]) a w at h
       obtain ⟨hI1,hI2⟩:=hI
       refine wp_seq (rq za0 1 [(3,.len (c:=(cFs f.kids)) (n:=f.kids.length) (zae _ _ _))] [(1,(vZs vs)),(2,vp 0 0),(6,vi .i64 (j:Int)),(55,vb (decide ((j:Int)<(f.kids.length:Int))))] [(0,.box (zF f))] h ?_);clear h;intro a w h
       refine zaa (decide ((j:Int)<(f.kids.length:Int))) h rfl (fun hc=>?_) (fun hc=>?_)
       ·have hc16:=hc;clear hc
        have hc16':=of_decide_eq_true hc16
        refine wp_skip (za4 (wp_seq (wp_block ?_)))
        obtain ⟨x6,hx6⟩:∃ z_:za1,f.kids[j]?=some z_:=⟨_,List.getElem?_eq_getElem (by first | omega | (simp at *;omega))⟩
        refine rq za0 1 [(3,.gen _ _ _ fun _ _ _ _=>Op.idxD (d:=61) (t:=59) (k := .i64) kb_0 ((zal hx6 (f:=za1.d)).trans (congrArg some (za1.d_eq x6))) (OV.tmp 60 _)),(6,.call (ih x6 (List.mem_of_getElem? hx6) (((za1.ok_eq L f).1 hf).2 _ (by unfold cnt;first | (rw [if_pos (by omega)];exact List.mem_of_getElem? hx6) | (rw [if_neg (by omega),if_pos (by omega)];exact zg0 hx6)))) ke_10)] [(1,(vZs vs)),(2,vp 0 0),(6,vi .i64 (j:Int)),(64,vb (za1.holds vs x6))] [(0,.box (zF f))] h ?_;clear h;intro a w h
        refine zaa (za1.holds vs x6) h rfl (fun hc=>?_) (fun hc=>?_)
        ·have hc17:=hc;clear hc
         refine rq za0 1 [] [(1,(vZs vs)),(2,vp 0 0),(4,vb true),(6,vi .i64 (j:Int))] [(0,.box (zF f))] h ?_;clear h;intro a w h
         refine wp_ret (zaf (za9 (za9 (zaf (zaf (za9 ?_))))))
         refine zap [.c (cB true)] h Exit.ret (.inl rfl)  rfl ⟨RV.tmp _ _ rfl,trivial⟩ ?_
         have hz:f.holds vs=(true):=by rw [za1.holds_eq,if_neg (by omega),if_neg (by omega),if_neg (by omega),if_neg (by omega),if_pos (by omega)];exact any_stop hx6 hc17
         rw [hz];first | done | rfl
        ·have hc18:=hc;clear hc
         refine wp_skip (zac (za4 (rn za0 1 [(1,.add .i64 (m:=(j:Int)) (n:=1) (zad (by omega) (by omega)))] [(1,(vZs vs)),(2,vp 0 0),(6,vi .i64 ((j:Int)+1))] [(0,.box (zF f))] h ?_)));clear h;intro a w h
         refine za4 ?_
         refine zam (x:=j) (y:=j+1) h ?_ ?_
         ·exact ⟨by have:=zak hx6;omega,any_step hx6 hI2 hc18⟩
         ·show f.kids.length - (j+1)<f.kids.length - j
          have:=zak hx6;omega
       ·have hc19:=hc;clear hc
        have hc19':=of_decide_eq_false hc19
        refine wp_exit (zai (zai (za8 (zac (za4 (rq za0 1 [] [(4,vb false)] [] h ?_))))));clear h;intro a w h
        refine wp_ret ?_
        refine zap [.c (cB false)] h Exit.ret (.inl rfl)  rfl ⟨RV.tmp _ _ rfl,trivial⟩ ?_
        have hz:f.holds vs=(false):=by rw [za1.holds_eq,if_neg (by omega),if_neg (by omega),if_neg (by omega),if_neg (by omega),if_pos (by omega)];exact any_end (of_decide_eq_false hc19) hI2
        rw [hz];first | done | rfl
     ·have hc20:=hc;clear hc
      have hc20':=hc20;(try simp at hc20')
      refine wp_skip (zac (za4 (rq za0 1 [] [(4,vb false)] [] h ?_)));clear h;intro a w h
      refine wp_ret ?_
      refine zap [.c (cB false)] h Exit.ret (.inl rfl)  rfl ⟨RV.tmp _ _ rfl,trivial⟩ ?_
      have hz:f.holds vs=(false):=by rw [za1.holds_eq,if_neg (by omega),if_neg (by omega),if_neg (by omega),if_neg (by omega),if_neg (by omega)];first | done | rfl
      rw [hz];first | done | rfl
theorem SRHolds (vs:List ZI) {L M:Nat} (hL:L+M≤20000) (hv:VOk M vs) (f:za1):f.lb→f.ok L→Fn Tryz.prog 26 [] [(vF f),(vZs vs)] (vb (za1.holds vs f)) [] :=
 za1.ind (P:=fun f=>f.lb→f.ok L→Fn Tryz.prog 26 [] [(vF f),(vZs vs)] (vb (za1.holds vs f)) []) (fun k r ks ih hl hf=>by
  have hl:=(za1.lb_eq _).1 hl
  exact SRHolds0 ⟨k,r,ks⟩ vs (fun g hg h=>ih g hg (hl.2 g hg) h) hL hv hf hl.1.2) f
end
section
open Go.RowKit

theorem la_1:Sz Tryz.prog 57 4 true:=Sz.mk' (by kernel_rfl) Tryz.underlying57 _ rfl
theorem la_2:za7 Tryz.prog 116:=za7.mk' (by kernel_rfl)
theorem zf3:Sz Tryz.prog 60 6 true:=Sz.mk' (by kernel_rfl) Tryz.underlying60 _ rfl
theorem la_5:za7 Tryz.prog 117:=za7.mk' (by kernel_rfl)
theorem la_7:ElT Tryz.prog 58 60 6 96:=ElT.mk' Tryz.underlying58 _ _ rfl rfl (by kernel_rfl) (by kernel_rfl) (by kernel_rfl) (by decide) (by decide)
theorem la_8:za7 Tryz.prog 93:=za7.mk' (by kernel_rfl)
theorem la_9:za7 Tryz.prog 84:=za7.mk' (by kernel_rfl)
theorem la_10:za7 Tryz.prog 136:=za7.mk' (by kernel_rfl)
theorem la_11:za7 Tryz.prog 86:=za7.mk' (by kernel_rfl)
theorem zc1 {α β:Type} {f:α→β} {xs:List α} {j:Nat} {x:α} (h:xs[j]?=some x):(xs.take j).map f++[f x]=(xs.take (j+1)).map f:=by rw [List.take_add_one,h,List.map_append];rfl
def leaR (t:zbb):zab:=⟨za3 t,false⟩
set_option maxHeartbeats 4000000 in
theorem LLeast (t:zbb) (ht:TOk 400 10000 t):Fn Tryz.prog 143 [] [(vT t)] (vR (leaR t)) []:=by
 refine Fn.body Tryz.func143 rfl 6 rfl fun w H B a h=>?_
 refine rq za0 0 [] [(1,vp 0 0),(2,vp 1 0)] [(0,.box (zT t)),(1,.box [.d (.raw za6),cB false,.d (nsl []),cB false])] h ?_;clear h;intro a w h
 refine rq za0 2 [(1,.call (zev t ht (by decide) (by decide)) tm_7)] [(2,vp 1 0)] [(1,.box ((zT (za3 t))++[cB false]))] h ?_;clear h;intro a w h
 refine wp_ret ?_
 refine zap [.agg ((zT (za3 t))++[cB false])] h Exit.ret (.inl rfl)  rfl ⟨RV.agg _ 1 0 _ _ _ _ la_1 rfl rfl rfl rfl,trivial⟩ ?_
 rfl
set_option maxHeartbeats 4000000 in
theorem Lcopied (r:zab) (hr:TOk 400 10000 r.t):Fn Tryz.prog 116 [] [(vR r)] (vR (cpR r)) []:=by
 refine Fn.body Tryz.func116 rfl 9 rfl fun w H B a h=>?_
 refine rq za0 0 [] [(1,vp 0 0),(2,vp 1 0)] [(0,.box (zR_ r)),(1,.box [.d (.raw za6),cB false,.d (nsl []),cB false])] h ?_;clear h;intro a w h
 refine rq za0 2 [(2,.call (zev r.t hr (by decide) (by decide)) tm_7)] [(2,vp 1 0)] [(1,.box ((zT (za3 r.t))++[cB r.eq]))] h ?_;clear h;intro a w h
 refine wp_ret ?_
 refine zap [.agg ((zT (za3 r.t))++[cB r.eq])] h Exit.ret (.inl rfl)  rfl ⟨RV.agg _ 1 0 _ _ _ _ la_1 rfl rfl rfl rfl,trivial⟩ ?_
 rfl
set_option maxHeartbeats 4000000 in
theorem LOf (r:zab) (hr:TOk 400 10000 r.t):Fn Tryz.prog 84 [] [(vR r)] (vF (zdp r)) []:=by
 refine Fn.body Tryz.func84 rfl 6 rfl fun w H B a h=>?_
 refine rq za0 0 [] [(1,vp 0 0),(2,vp 1 0)] [(0,.box (zR_ r)),(1,.box [cI 0,.d (.raw za6),cB false,.d (nsl []),cB false,.d (.raw za6)])] h ?_;clear h;intro a w h
 refine rq za0 2 [(1,.call (Lcopied r hr) la_2)] [(2,vp 1 0)] [(1,.box ([cI 2,cPs (cpR r).t.parts]++zi (cpR r).t.k++[cB (cpR r).eq,.d (.raw za6)]))] h ?_;clear h;intro a w h
 refine wp_ret ?_
 replace h:=zd7 1 5 6 ([cI 2,cPs (cpR r).t.parts]++zi (cpR r).t.k++[cB (cpR r).eq,.d (.raw za6)]) [(2,vp 1 0)] [(1,.box ([cI 2,cPs (cpR r).t.parts]++zi (cpR r).t.k++[cB (cpR r).eq,cFs []]))] h rfl rfl
 refine zap [.agg ([cI 2,cPs (cpR r).t.parts]++zi (cpR r).t.k++[cB (cpR r).eq,cFs []])] h Exit.ret (.inl rfl)  rfl ⟨RV.agg _ 1 0 _ _ _ _ zf3 rfl rfl rfl rfl,trivial⟩ ?_
 rfl
set_option maxHeartbeats 4000000 in
theorem LTruth (b:Bool) :Fn Tryz.prog 93 [] [vb b] (vF (zdq b)) []:=by
 refine Fn.body Tryz.func93 rfl 6 rfl fun w H B a h=>?_
 refine rq za0 0 [] [(0,vb b),(2,vp 0 0)] [(0,.box [cI 0,.d (.raw za6),cB false,.d (nsl []),cB false,.d (.raw za6)])] h ?_;clear h;intro a w h
 refine wp_seq (rq za0 1 [] [(2,vp 0 0),(3,vb b)] [(0,.box [cI 0,.d (.raw za6),cB false,.d (nsl []),cB false,.d (.raw za6)])] h ?_);clear h;intro a w h
 refine zaa b h rfl (fun hc=>?_) (fun hc=>?_)
 ·have hc1:=hc;clear hc
  refine rq za0 1 [] [(2,vp 0 0)] [(0,.box [cI 0,.d (.raw za6),cB false,.d (nsl []),cB false,.d (.raw za6)])] h ?_;clear h;intro a w h
  refine wp_ret (za9 ?_)
  replace h:=zd7 0 1 3 [cI 0,.d (.raw za6),cB false,.d (nsl []),cB false,.d (.raw za6)] [(2,vp 0 0)] [(0,.box [cI 0,cPs [],cB false,.d (nsl []),cB false,.d (.raw za6)])] h rfl rfl
  replace h:=zd7 0 5 6 [cI 0,cPs [],cB false,.d (nsl []),cB false,.d (.raw za6)] [(2,vp 0 0)] [(0,.box [cI 0,cPs [],cB false,.d (nsl []),cB false,cFs []])] h rfl rfl
  refine zap [.agg [cI 0,cPs [],cB false,.d (nsl []),cB false,cFs []]] h Exit.ret (.inl rfl)  rfl ⟨RV.agg _ 0 0 _ _ _ _ zf3 rfl rfl rfl rfl,trivial⟩ ?_
  rw [hc1];rfl
 ·have hc2:=hc;clear hc
  refine wp_skip (za4 (rq za0 1 [] [(2,vp 0 0)] [(0,.box [cI 1,.d (.raw za6),cB false,.d (nsl []),cB false,.d (.raw za6)])] h ?_));clear h;intro a w h
  refine wp_ret ?_
  replace h:=zd7 0 1 3 [cI 1,.d (.raw za6),cB false,.d (nsl []),cB false,.d (.raw za6)] [(2,vp 0 0)] [(0,.box [cI 1,cPs [],cB false,.d (nsl []),cB false,.d (.raw za6)])] h rfl rfl
  replace h:=zd7 0 5 6 [cI 1,cPs [],cB false,.d (nsl []),cB false,.d (.raw za6)] [(2,vp 0 0)] [(0,.box [cI 1,cPs [],cB false,.d (nsl []),cB false,cFs []])] h rfl rfl
  refine zap [.agg [cI 1,cPs [],cB false,.d (nsl []),cB false,cFs []]] h Exit.ret (.inl rfl)  rfl ⟨RV.agg _ 0 0 _ _ _ _ zf3 rfl rfl rfl rfl,trivial⟩ ?_
  rw [hc2];rfl
theorem take_min1 {α:Type} (xs:List α):xs.take (min xs.length 1)=xs.take 1:=by
 cases xs with
 | nil=>rfl
 | cons x xs=>rw [Nat.min_eq_right (by simp)]
set_option maxHeartbeats 4000000 in
theorem Lkids (f:za1) (hk:f.kids.length≤9223372036854775807):Fn Tryz.prog 136 [] [(vF f)] (vFs (cnt f.kind f.kids)) []:=by
 refine Fn.body Tryz.func136 rfl 19 rfl fun w H B a h=>?_
 refine rq za0 0 [] [(1,vp 0 0),(2,.t (.c (.d (.raw za6))))] [(0,.box (zF f))] h ?_;clear h;intro a w h
 refine wp_seq (rq za0 1 [] [(1,vp 0 0),(2,.t (.c (.d (.raw za6)))),(4,vi .i64 f.kind)] [(0,.box (zF f))] h ?_);clear h;intro a w h
 refine wp_block (wp_seq (rq za0 1 [] [(1,vp 0 0),(2,.t (.c (.d (.raw za6)))),(4,vi .i64 f.kind),(5,vb (f.kind == 4))] [(0,.box (zF f))] h ?_));clear h;intro a w h
 refine zaa (f.kind == 4) h rfl (fun hc=>?_) (fun hc=>?_)
 ·have hc1:=hc;clear hc
  have hc1':=hc1;(try simp at hc1')
  refine wp_skip (za4 ?_)
  refine zaa (f.kind == 4) h rfl (fun hc=>?_) (fun hc=>?_)
  ·clear hc
   refine rq za0 1 [] [(2,(vFs f.kids))] [] h ?_;clear h;intro a w h
   refine wp_ret (zaf (za9 ?_))
   refine zap [.c (cFs f.kids)] h Exit.ret (.inl rfl)  rfl ⟨RV.tmp _ _ rfl,trivial⟩ ?_
   have p4: f.kind=4:=by have:=hc1;simpa using this
   have hz:cnt f.kind f.kids=f.kids:=by unfold cnt;rw [if_pos (by omega)]
   rw [hz];first | done | rfl
  ·rw [hc1] at hc;cases hc
 ·have hc2:=hc;clear hc
  have hc2':=hc2;(try simp at hc2')
  refine rn za0 1 [] [(1,vp 0 0),(2,.t (.c (.d (.raw za6)))),(4,vi .i64 f.kind),(5,vb (f.kind == 5))] [(0,.box (zF f))] h ?_;clear h;intro a w h
  refine za4 ?_
  refine zaa (f.kind == 5) h rfl (fun hc=>?_) (fun hc=>?_)
  ·have hc3:=hc;clear hc
   have hc3':=hc3;(try simp at hc3')
   refine rq za0 1 [] [(2,(vFs f.kids))] [] h ?_;clear h;intro a w h
   refine wp_ret (zaf (za9 ?_))
   refine zap [.c (cFs f.kids)] h Exit.ret (.inl rfl)  rfl ⟨RV.tmp _ _ rfl,trivial⟩ ?_
   have p4:¬ f.kind=4:=by have:=hc2;simpa using this
   have p5: f.kind=5:=by have:=hc3;simpa using this
   have hz:cnt f.kind f.kids=f.kids:=by unfold cnt;rw [if_pos (by omega)]
   rw [hz];first | done | rfl
  ·have hc4:=hc;clear hc
   have hc4':=hc4;(try simp at hc4')
   refine rq za0 1 [] [(1,vp 0 0),(2,.t (.c (.d (.raw za6)))),(10,vb (f.kind == 3))] [(0,.box (zF f))] h ?_;clear h;intro a w h
   refine zaa (f.kind == 3) h rfl (fun hc=>?_) (fun hc=>?_)
   ·have hc5:=hc;clear hc
    have hc5':=hc5;(try simp at hc5')
    refine rq za0 1 [(4,.len (c:=(cFs f.kids)) (n:=f.kids.length) (zae _ _ _)),(5,.gen _ _ _ fun _ _ _ _=>Op.min2 (d:=17) (tys:=#[3,3]) (k := .i64) (m:=(f.kids.length:Int)) (n:=1) (r:=((min f.kids.length 1:Nat):Int)) (OV.tmp 16 _) (OV.const (.int .i64 1) rfl) (by omega)),(6,.gen _ _ _ fun _ _ _ _=>Op.sliceD (d:=18) (t:=13) (l:=0) (h:=(min f.kids.length 1)) (rows:=f.kids.map za1.d) (rows':=(f.kids.take (min f.kids.length 1)).map za1.d) kb_0 (BO.no _) (BO.yes (k := .i64) (i:=(min f.kids.length 1)) _ (OV.tmp 17 _)) (by first | omega | (simp at *;omega)) (by first | omega | (simp only [List.length_map];omega) | (simp at *;omega)) (by simp [List.map_take]))] [(2,(vFs (f.kids.take (min f.kids.length 1))))] [] h ?_;clear h;intro a w h
    refine wp_ret (zaf (za9 ?_))
    refine zap [.c (cFs (f.kids.take (min f.kids.length 1)))] h Exit.ret (.inl rfl)  rfl ⟨RV.tmp _ _ rfl,trivial⟩ ?_
    have p4:¬ f.kind=4:=by have:=hc2;simpa using this
    have p5:¬ f.kind=5:=by have:=hc4;simpa using this
    have p3: f.kind=3:=by have:=hc5;simpa using this
    have hz:cnt f.kind f.kids=(f.kids.take (min f.kids.length 1)):=by unfold cnt;rw [if_neg (by omega),if_pos (by omega),← take_min1]
    rw [hz];first | done | rfl
   ·have hc6:=hc;clear hc
    have hc6':=hc6;(try simp at hc6')
    refine wp_skip (zac (za4 (rq za0 1 [] [(2,.t (.c (.d (.raw za6))))] [] h ?_)));clear h;intro a w h
    refine wp_ret ?_
    replace h:=nilDSs 2 0 6 (.t (.c (.d (.raw za6)))) [(2,(vFs []))] [] h rfl rfl
    refine zap [.c (cFs [])] h Exit.ret (.inl rfl)  rfl ⟨RV.tmp _ _ rfl,trivial⟩ ?_
    have p4:¬ f.kind=4:=by have:=hc2;simpa using this
    have p5:¬ f.kind=5:=by have:=hc4;simpa using this
    have p3:¬ f.kind=3:=by have:=hc6;simpa using this
    have hz:cnt f.kind f.kids=[]:=by unfold cnt;rw [if_neg (by omega),if_neg (by omega)]
    rw [hz];first | done | rfl
set_option maxHeartbeats 4000000 in
theorem Lclones (fs:List za1) (hcl:∀ g ∈ fs,Fn Tryz.prog 117 [] [(vF g)] (vF (za1.cl g)) []) (hl:fs.length≤1000000):Fn Tryz.prog 86 [] [(vFs fs)] (vFs (fs.map za1.cl)) []:=by
 refine Fn.body Tryz.func86 rfl 19 rfl fun w H B a h=>?_
 refine rq za0 5 [] [(0,(vFs fs)),(2,.t (.c (.d (.raw za6))))] [] h ?_;clear h;intro a w h
 refine rq za0 5 [] [(0,(vFs fs)),(2,.t (.c (.d (.raw za6)))),(3,.t (.c (.d (.raw za6))))] [] h ?_;clear h;intro a w h
 refine wp_seq (rq za0 5 [(1,.len (c:=(cFs fs)) (n:=fs.length) (zae _ _ _))] [(2,.t (.c (.d (.raw za6)))),(3,.t (.c (.d (.raw za6)))),(6,(vFs fs)),(7,vi .i64 (fs.length:Int)),(8,vi .i64 0)] [] h ?_);clear h;intro a w h
 refine wp_block ?_
 replace h:=zel 3 0 5 6 60 (.t (.c (.d (.raw za6)))) [(2,.t (.c (.d (.raw za6)))),(3,.t (.c (.own 5 0))),(6,(vFs fs)),(7,vi .i64 (fs.length:Int)),(8,vi .i64 0)] [(5,.row 60 6 ([].map za1.d))] h (by kernel_rfl) rfl rfl
 replace h:=h.conv (f':=F.of [(2,.t (.c (.d (.raw za6)))),(3,.t (.c (.own 5 0))),(6,(vFs fs)),(7,vi .i64 (fs.length:Int)),(8,vi .i64 0)] [(5,.row 60 6 (((fs.take 0).map za1.cl).map za1.d))]) (congrArg (fun (z_:List za1)=>F.of [(2,.t (.c (.d (.raw za6)))),(3,.t (.c (.own 5 0))),(6,(vFs fs)),(7,vi .i64 (fs.length:Int)),(8,vi .i64 0)] [(5,.row 60 6 (z_.map za1.d))]) (show ([]:List za1)=((fs.take 0).map za1.cl) from (by simp)))
 refine zb1 (ι:=(Nat)) (fun (z_:(Nat))=>match z_ with | j=>j≤fs.length)
   (fun (z_:(Nat))=>match z_ with | j=>[(2,.t (.c (.d (.raw za6)))),(3,.t (.c (.own 5 ((fs.take j).map za1.cl).length))),(6,(vFs fs)),(7,vi .i64 (fs.length:Int)),(8,vi .i64 (j:Int))])
   (fun (z_:(Nat))=>match z_ with | j=>[(5,.row 60 6 (((fs.take j).map za1.cl).map za1.d))])
   (fun (z_:(Nat))=>match z_ with | j=>fs.length - j) 0 ?_ h (by kernel_rfl) (by kernel_rfl) ?_
 ·exact Nat.zero_le _
 ·clear h;rintro j a w hI h
  change St _ (F.of [(2,.t (.c (.d (.raw za6)))),(3,.t (.c (.own 5 ((fs.take j).map za1.cl).length))),(6,(vFs fs)),(7,vi .i64 (fs.length:Int)),(8,vi .i64 (j:Int))] [(5,.row 60 6 (((fs.take j).map za1.cl).map za1.d))]) a w at h
  have lmj:((fs.take j).map za1.cl).length≤j:=by rw [List.length_map,List.length_take];omega
  refine rq za0 6 [] [(2,.t (.c (.d (.raw za6)))),(3,.t (.c (.own 5 ((fs.take j).map za1.cl).length))),(6,(vFs fs)),(7,vi .i64 (fs.length:Int)),(8,vi .i64 (j:Int)),(9,vb (decide ((j:Int)<(fs.length:Int))))] [(5,.row 60 6 (((fs.take j).map za1.cl).map za1.d))] h ?_;clear h;intro a w h
  refine wp_seq ?_
  refine zaa (decide ((j:Int)<(fs.length:Int))) h rfl (fun hc=>?_) (fun hc=>?_)
  ·have hc1:=hc;clear hc
   have hc1':=of_decide_eq_true hc1
   refine wp_skip (za4 (wp_seq (wp_block ?_)))
   obtain ⟨x1,hx1⟩:∃ z_:za1,fs[j]?=some z_:=⟨_,List.getElem?_eq_getElem (by first | omega | (simp at *;omega))⟩
   refine rq za0 6 [(0,.gen _ _ _ fun _ _ _ _=>Op.idxD (d:=10) (t:=6) (k := .i64) kb_0 ((zal hx1 (f:=za1.d)).trans (congrArg some (za1.d_eq x1))) (OV.tmp 8 _))] [(2,.t (.c (.d (.raw za6)))),(3,.t (.c (.own 5 ((fs.take j).map za1.cl).length))),(5,vp 6 0),(6,(vFs fs)),(7,vi .i64 (fs.length:Int)),(8,vi .i64 (j:Int))] [(5,.row 60 6 (((fs.take j).map za1.cl).map za1.d)),(6,.box (zF x1))] h ?_;clear h;intro a w h
   refine rn za0 7 [(2,.call (hcl x1 (List.mem_of_getElem? hx1)) la_5),(3,.gen _ _ _ fun _ _ _ _=>Op.buildD (d:=15) (len:=1) (rows:=[(za1.cl x1)].map za1.d) (rs:=[(14,(vF (za1.cl x1)))]) kb_1 (.cons (i:=0) (OV.tmp 14 _) (.nil)) (by simp only [List.map_cons,List.map_nil,List.flatten_cons,List.flatten_nil,List.append_nil,za1.d_eq];kernel_rfl) rfl (by simp [za1.d_len]) (by decide) (by decide)),(4,.gen _ _ _ fun _ _ _ _=>Op.appOD (d:=16) (t:=12) (u:=15) (n:=5) (n':=7) (len:=((fs.take j).map za1.cl).length) (len':=(((fs.take j).map za1.cl)++[(za1.cl x1)]).length) (rows:=((fs.take j).map za1.cl).map za1.d) (rows2:=[(za1.cl x1)].map za1.d) (rows':=(((fs.take j).map za1.cl)++[(za1.cl x1)]).map za1.d) la_7 (by first | exact (List.length_map _).symm | simp) (by first | (rw [List.length_append,List.length_map];done) | simp) (by simp) (by simp [za1.d_len]) (by first | omega | (simp at *;done) | (simp at *;omega)))] [(2,.t (.c (.d (.raw za6)))),(3,.t (.c (.own 7 (((fs.take j).map za1.cl)++[(za1.cl x1)]).length))),(6,(vFs fs)),(7,vi .i64 (fs.length:Int)),(8,vi .i64 (j:Int))] [(7,.row 60 6 ((((fs.take j).map za1.cl)++[(za1.cl x1)]).map za1.d))] h ?_;clear h;intro a w h
   refine zac (za4 (rn za0 8 [(0,.add .i64 (m:=(j:Int)) (n:=1) (zad (by omega) (by omega)))] [(2,.t (.c (.d (.raw za6)))),(3,.t (.c (.own 7 (((fs.take j).map za1.cl)++[(za1.cl x1)]).length))),(6,(vFs fs)),(7,vi .i64 (fs.length:Int)),(8,vi .i64 ((j:Int)+1))] [(7,.row 60 6 ((((fs.take j).map za1.cl)++[(za1.cl x1)]).map za1.d))] h ?_));clear h;intro a w h
   refine za4 ?_
   replace h:=h.conv (f':=F.of [(2,.t (.c (.d (.raw za6)))),(3,.t (.c (.own 7 ((fs.take (j+1)).map za1.cl).length))),(6,(vFs fs)),(7,vi .i64 (fs.length:Int)),(8,vi .i64 ((j:Int)+1))] [(7,.row 60 6 (((fs.take (j+1)).map za1.cl).map za1.d))]) (congrArg (fun (z_:List za1)=>F.of [(2,.t (.c (.d (.raw za6)))),(3,.t (.c (.own 7 z_.length))),(6,(vFs fs)),(7,vi .i64 (fs.length:Int)),(8,vi .i64 ((j:Int)+1))] [(7,.row 60 6 (z_.map za1.d))]) (show ((((fs.take j).map za1.cl)++[(za1.cl x1)]):List za1)=((fs.take (j+1)).map za1.cl) from (zc1 hx1)))
   replace h:=zc7 7 5 [(2,.t (.c (.d (.raw za6)))),(3,.t (.c (.own 5 ((fs.take (j+1)).map za1.cl).length))),(6,(vFs fs)),(7,vi .i64 (fs.length:Int)),(8,vi .i64 ((j:Int)+1))] [(5,.row 60 6 (((fs.take (j+1)).map za1.cl).map za1.d))] h
   refine zam (x:=j) (y:=j+1) h ?_ ?_
   ·have:=zak hx1
    show j+1≤fs.length
    omega
   ·show fs.length - (j+1)<fs.length - j
    have:=zak hx1;omega
  ·have hc2:=hc;clear hc
   have hc2':=of_decide_eq_false hc2
   refine wp_exit (zai (zai (za8 (za4 (rq za0 8 [] [(2,.t (.c (.own 5 ((fs.take j).map za1.cl).length)))] [(5,.row 60 6 (((fs.take j).map za1.cl).map za1.d))] h ?_)))));clear h;intro a w h
   refine wp_ret ?_
   replace h:=h.conv (f':=F.of [(2,.t (.c (.own 5 (fs.map za1.cl).length)))] [(5,.row 60 6 ((fs.map za1.cl).map za1.d))]) (congrArg (fun (z_:List za1)=>F.of [(2,.t (.c (.own 5 z_.length)))] [(5,.row 60 6 (z_.map za1.d))]) (show (((fs.take j).map za1.cl):List za1)=(fs.map za1.cl) from (by rw [List.take_of_length_le (by omega)])))
   replace h:=pubS 5 6 60 ((fs.map za1.cl).map za1.d) [(2,(vFs (fs.map za1.cl)))] [] h rfl (show zc5 _ [(fs.map za1.cl).length] from ⟨by first | exact (List.length_map _).symm | (simp;done) | (simp;omega),trivial⟩) trivial
   refine zap [.c (cFs (fs.map za1.cl))] h Exit.ret (.inl rfl)  rfl ⟨RV.tmp _ _ rfl,trivial⟩ ?_
   rfl
def za1.okB (n L:Nat) (f:za1):Prop:=f.fold fun k r ks ps=>((k=2→TOk n L r.t)∧ks.length≤9223372036854775807∧(cnt k ks).length≤1000000)∧∀ p ∈ cnt k ps,p
theorem za1.okB_eq (n L:Nat) (f:za1):f.okB n L ↔ ((f.kind=2→TOk n L f.r.t)∧f.kids.length≤9223372036854775807∧(cnt f.kind f.kids).length≤1000000)∧∀ g ∈ cnt f.kind f.kids,g.okB n L:=by
 have:=za1.fold_eq (fun k r ks (ps:List Prop)=>((k=2→TOk n L r.t)∧ks.length≤9223372036854775807∧(cnt k ks).length≤1000000)∧∀ p ∈ cnt k ps,p) f
 rw [zdo] at this
 unfold za1.okB
 rw [this]
 refine and_congr_right fun _=>⟨fun h g hg=>h _ (List.mem_map.2 ⟨g,hg,rfl⟩),fun h p hp=>?_⟩
 obtain ⟨g,hg,rfl⟩:=List.mem_map.1 hp
 exact h g hg
theorem za1.okB_mono {n L n' L':Nat} (hn:n≤n') (hL:L≤L') (f:za1):f.okB n L→f.okB n' L' :=
 za1.ind (P:=fun f=>f.okB n L→f.okB n' L') (fun k r ks ih hf=>by
  rw [za1.okB_eq] at hf ⊢
  exact ⟨⟨fun e=>(hf.1.1 e).mono hn hL,hf.1.2⟩,fun g hg=>ih g (zbx hg) (hf.2 g hg)⟩) f
theorem okB_tru (n L:Nat) (b:Bool):(zdq b).okB n L:=by
 rw [za1.okB_eq];cases b <;> exact ⟨⟨fun e=>absurd e (by decide),Nat.zero_le _,Nat.zero_le _⟩,fun g hg=>by cases hg⟩
theorem zhe {n L:Nat} {r:zab} (h:TOk n L r.t):(za1.mk 2 r []).okB n L:=by
 rw [za1.okB_eq];exact ⟨⟨fun _=>h,Nat.zero_le _,Nat.zero_le _⟩,fun g hg=>by cases hg⟩
theorem okB_kids {n L:Nat} {k:Int} {r:zab} {ks:List za1} (hk:k≠2) (hl:ks.length≤1000000) (h:∀ g ∈ ks,g.okB n L):(za1.mk k r ks).okB n L:=by
 rw [za1.okB_eq];exact ⟨⟨fun e=>absurd e hk,Nat.le_trans hl (by decide),Nat.le_trans (cnt_len _ _) hl⟩,fun g hg=>h g (zbx hg)⟩
theorem okB_each {n L n' L':Nat} {t:zab→zab} (ht:∀ r,TOk n L r.t→TOk n' L' (t (cpR r)).t) (f:za1):f.okB n L→(f.each t).okB n' L' :=
 za1.ind (P:=fun f=>f.okB n L→(f.each t).okB n' L') (fun k r ks ih hf=>by
  obtain ⟨⟨h1,h2⟩,h3⟩:=(za1.okB_eq _ _ _).1 hf
  change k=2→_ at h1
  change ks.length≤_∧(cnt k ks).length≤_ at h2
  change ∀ g ∈ cnt k ks,_ at h3
  rw [za1.each_eq]
  show (zg5 t k r (ks.map (za1.each t))).okB n' L'
  unfold zg5
  split
  ·exact okB_tru _ _ _
  ·split
   ·rename_i e;exact zhe (ht r (h1 e))
   ·split
    ·rename_i hk2 h4
     refine okB_kids hk2 (by rw [zdo,List.length_map];exact h2.2) fun g hg=>?_
     rw [zdo] at hg
     obtain ⟨q,hq,rfl⟩:=List.mem_map.1 hg
     exact ih q (zbx hq) (h3 q hq)
    ·exact okB_tru _ _ _) f
theorem okB_cl {n L:Nat} (hn:n≤1000) (f:za1) (h:f.okB n L):f.cl.okB n (L+1):=okB_each (t:=id) (fun _r hr=>hr.plain hn) f h
theorem zhi {n L:Nat} {f:za1} (h:f.okB n L):f.kids.length≤9223372036854775807:=((za1.okB_eq _ _ _).1 h).1.2.1
theorem zfn {n L:Nat} {f:za1} (h:f.okB n L):(cnt f.kind f.kids).length≤1000000:=((za1.okB_eq _ _ _).1 h).1.2.2
theorem kid_ok {n L:Nat} {f g:za1} (h:f.okB n L) (hg:g ∈ cnt f.kind f.kids):g.okB n L:=((za1.okB_eq _ _ _).1 h).2 g hg
theorem rel_ok {n L:Nat} {f:za1} (h:f.okB n L) (e:(f.kind == 2)=true):TOk n L f.r.t:=((za1.okB_eq _ _ _).1 h).1.1 (by simpa using e)
theorem cl_tru {f:za1} (e:(f.kind == 0)=true):f.cl=zdq true:=by rw [cl_eq];unfold zg5;rw [if_pos (by simpa using e)]
theorem cl_at {f:za1} (e:(f.kind == 2)=true):f.cl=zdp f.r:=by
 have e:f.kind=2:=by simpa using e
 rw [cl_eq,e];rfl
theorem cl_kids {f:za1} (e:f.kind=3∨f.kind=4∨f.kind=5):f.cl=⟨f.kind,zR,(cnt f.kind f.kids).map za1.cl⟩:=by
 rw [cl_eq,ze1 _ _ _ e,zdo]
theorem cl_out {f:za1} (h0:(f.kind == 0)=false) (h2:(f.kind == 2)=false) (h3:(f.kind == 3)=false) (h4:(f.kind == 4)=false) (h5:(f.kind == 5)=false):f.cl=zdq false:=by
 simp only [beq_eq_false_iff_ne] at h0 h2 h3 h4 h5
 rw [cl_eq,zg4 _ _ _ h0 h2 (by omega)]
set_option maxHeartbeats 4000000 in
theorem Lclone0 (f:za1) (ih:∀ g ∈ cnt f.kind f.kids,Fn Tryz.prog 117 [] [(vF g)] (vF (za1.cl g)) []) (hf:f.okB 400 10000):Fn Tryz.prog 117 [] [(vF f)] (vF (za1.cl f)) []:=by
 refine Fn.body Tryz.func117 rfl 24 rfl fun w H B a h=>?_
 refine rq za0 0 [] [(1,vp 0 0),(2,vp 1 0)] [(0,.box (zF f)),(1,.box [cI 0,.d (.raw za6),cB false,.d (nsl []),cB false,.d (.raw za6)])] h ?_;clear h;intro a w h
 refine wp_seq (rq za0 2 [] [(1,vp 0 0),(2,vp 1 0),(4,vi .i64 f.kind)] [(0,.box (zF f)),(1,.box [cI 0,.d (.raw za6),cB false,.d (nsl []),cB false,.d (.raw za6)])] h ?_);clear h;intro a w h
 refine wp_block (rq za0 2 [] [(1,vp 0 0),(2,vp 1 0),(4,vi .i64 f.kind),(5,vb (f.kind == 0))] [(0,.box (zF f)),(1,.box [cI 0,.d (.raw za6),cB false,.d (nsl []),cB false,.d (.raw za6)])] h ?_);clear h;intro a w h
 refine zaa (f.kind == 0) h rfl (fun hc=>?_) (fun hc=>?_)
 ·have hc1:=hc;clear hc
  have hc1':=hc1;(try simp at hc1')
  refine rq za0 2 [(0,.call (LTruth true) la_8)] [(2,vp 1 0)] [(1,.box (zF (zdq true)))] h ?_;clear h;intro a w h
  refine wp_ret (zaf (za9 ?_))
  refine zap [.agg (zF (zdq true))] h Exit.ret (.inl rfl)  rfl ⟨RV.agg _ 1 0 _ _ _ _ zf3 rfl rfl rfl rfl,trivial⟩ ?_
  rw [cl_tru hc1];first | done | rfl
 ·have hc2:=hc;clear hc
  have hc2':=hc2;(try simp at hc2')
  refine rq za0 2 [] [(1,vp 0 0),(2,vp 1 0),(4,vi .i64 f.kind),(8,vb (f.kind == 2))] [(0,.box (zF f)),(1,.box [cI 0,.d (.raw za6),cB false,.d (nsl []),cB false,.d (.raw za6)])] h ?_;clear h;intro a w h
  refine zaa (f.kind == 2) h rfl (fun hc=>?_) (fun hc=>?_)
  ·have hc3:=hc;clear hc
   have hc3':=hc3;(try simp at hc3')
   refine rq za0 2 [(2,.call (LOf f.r (rel_ok hf hc3)) la_9)] [(2,vp 1 0)] [(1,.box (zF (zdp f.r)))] h ?_;clear h;intro a w h
   refine wp_ret (zaf (za9 ?_))
   refine zap [.agg (zF (zdp f.r))] h Exit.ret (.inl rfl)  rfl ⟨RV.agg _ 1 0 _ _ _ _ zf3 rfl rfl rfl rfl,trivial⟩ ?_
   rw [cl_at hc3];first | done | rfl
  ·have hc4:=hc;clear hc
   have hc4':=hc4;(try simp at hc4')
   refine wp_seq (rq za0 2 [] [(1,vp 0 0),(2,vp 1 0),(4,vi .i64 f.kind),(13,vb (f.kind == 3))] [(0,.box (zF f)),(1,.box [cI 0,.d (.raw za6),cB false,.d (nsl []),cB false,.d (.raw za6)])] h ?_);clear h;intro a w h
   refine zaa (f.kind == 3) h rfl (fun hc=>?_) (fun hc=>?_)
   ·have hc5:=hc;clear hc
    have hc5':=hc5;(try simp at hc5')
    refine wp_skip (za4 ?_)
    refine zaa (f.kind == 3) h rfl (fun hc=>?_) (fun hc=>?_)
    ·clear hc
     refine rq za0 2 [(3,.call (Lkids f (zhi hf)) la_10),(4,.call (Lclones (cnt f.kind f.kids) ih (zfn hf)) la_11)] [(2,vp 1 0)] [(1,.box [cI f.kind,.d (.raw za6),cB false,.d (nsl []),cB false,cFs ((cnt f.kind f.kids).map za1.cl)])] h ?_;clear h;intro a w h
     refine wp_ret (zaf (za9 ?_))
     replace h:=zd7 1 1 3 [cI f.kind,.d (.raw za6),cB false,.d (nsl []),cB false,cFs ((cnt f.kind f.kids).map za1.cl)] [(2,vp 1 0)] [(1,.box [cI f.kind,cPs [],cB false,.d (nsl []),cB false,cFs ((cnt f.kind f.kids).map za1.cl)])] h rfl rfl
     refine zap [.agg [cI f.kind,cPs [],cB false,.d (nsl []),cB false,cFs ((cnt f.kind f.kids).map za1.cl)]] h Exit.ret (.inl rfl)  rfl ⟨RV.agg _ 1 0 _ _ _ _ zf3 rfl rfl rfl rfl,trivial⟩ ?_
     rw [cl_kids (by have:=hc5;simp at this;omega)];first | done | rfl
    ·rw [hc5] at hc;cases hc
   ·have hc6:=hc;clear hc
    have hc6':=hc6;(try simp at hc6')
    refine rq za0 2 [] [(1,vp 0 0),(2,vp 1 0),(4,vi .i64 f.kind),(13,vb (f.kind == 4))] [(0,.box (zF f)),(1,.box [cI 0,.d (.raw za6),cB false,.d (nsl []),cB false,.d (.raw za6)])] h ?_;clear h;intro a w h
    refine zaa (f.kind == 4) h rfl (fun hc=>?_) (fun hc=>?_)
    ·have hc7:=hc;clear hc
     have hc7':=hc7;(try simp at hc7')
     refine wp_skip (za4 ?_)
     refine zaa (f.kind == 4) h rfl (fun hc=>?_) (fun hc=>?_)
     ·clear hc
      refine rq za0 2 [(3,.call (Lkids f (zhi hf)) la_10),(4,.call (Lclones (cnt f.kind f.kids) ih (zfn hf)) la_11)] [(2,vp 1 0)] [(1,.box [cI f.kind,.d (.raw za6),cB false,.d (nsl []),cB false,cFs ((cnt f.kind f.kids).map za1.cl)])] h ?_;clear h;intro a w h
      refine wp_ret (zaf (za9 ?_))
      replace h:=zd7 1 1 3 [cI f.kind,.d (.raw za6),cB false,.d (nsl []),cB false,cFs ((cnt f.kind f.kids).map za1.cl)] [(2,vp 1 0)] [(1,.box [cI f.kind,cPs [],cB false,.d (nsl []),cB false,cFs ((cnt f.kind f.kids).map za1.cl)])] h rfl rfl
      refine zap [.agg [cI f.kind,cPs [],cB false,.d (nsl []),cB false,cFs ((cnt f.kind f.kids).map za1.cl)]] h Exit.ret (.inl rfl)  rfl ⟨RV.agg _ 1 0 _ _ _ _ zf3 rfl rfl rfl rfl,trivial⟩ ?_
      rw [cl_kids (by have:=hc7;simp at this;omega)];first | done | rfl
     ·rw [hc7] at hc;cases hc
    ·have hc8:=hc;clear hc
     have hc8':=hc8;(try simp at hc8')
     refine rn za0 2 [] [(1,vp 0 0),(2,vp 1 0),(13,vb (f.kind == 5))] [(0,.box (zF f)),(1,.box [cI 0,.d (.raw za6),cB false,.d (nsl []),cB false,.d (.raw za6)])] h ?_;clear h;intro a w h
     refine za4 ?_
     refine zaa (f.kind == 5) h rfl (fun hc=>?_) (fun hc=>?_)
     ·have hc9:=hc;clear hc
      have hc9':=hc9;(try simp at hc9')
      refine rq za0 2 [(3,.call (Lkids f (zhi hf)) la_10),(4,.call (Lclones (cnt f.kind f.kids) ih (zfn hf)) la_11)] [(2,vp 1 0)] [(1,.box [cI f.kind,.d (.raw za6),cB false,.d (nsl []),cB false,cFs ((cnt f.kind f.kids).map za1.cl)])] h ?_;clear h;intro a w h
      refine wp_ret (zaf (za9 ?_))
      replace h:=zd7 1 1 3 [cI f.kind,.d (.raw za6),cB false,.d (nsl []),cB false,cFs ((cnt f.kind f.kids).map za1.cl)] [(2,vp 1 0)] [(1,.box [cI f.kind,cPs [],cB false,.d (nsl []),cB false,cFs ((cnt f.kind f.kids).map za1.cl)])] h rfl rfl
      refine zap [.agg [cI f.kind,cPs [],cB false,.d (nsl []),cB false,cFs ((cnt f.kind f.kids).map za1.cl)]] h Exit.ret (.inl rfl)  rfl ⟨RV.agg _ 1 0 _ _ _ _ zf3 rfl rfl rfl rfl,trivial⟩ ?_
      rw [cl_kids (by have:=hc9;simp at this;omega)];first | done | rfl
     ·have hc10:=hc;clear hc
      have hc10':=hc10;(try simp at hc10')
      refine wp_skip (zac (za4 (rq za0 2 [(0,.call (LTruth false) la_8)] [(2,vp 1 0)] [(1,.box (zF (zdq false)))] h ?_)));clear h;intro a w h
      refine wp_ret ?_
      refine zap [.agg (zF (zdq false))] h Exit.ret (.inl rfl)  rfl ⟨RV.agg _ 1 0 _ _ _ _ zf3 rfl rfl rfl rfl,trivial⟩ ?_
      rw [cl_out hc2 hc4 hc6 hc8 hc10];first | done | rfl
theorem Lclone (f:za1):f.okB 400 10000→Fn Tryz.prog 117 [] [(vF f)] (vF (za1.cl f)) [] :=
 za1.ind (P:=fun f=>f.okB 400 10000→Fn Tryz.prog 117 [] [(vF f)] (vF (za1.cl f)) []) (fun k r ks ih hf=>Lclone0 ⟨k,r,ks⟩ (fun g hg=>ih g (zbx hg) (kid_ok hf hg)) hf) f
set_option maxHeartbeats 4000000 in
theorem LDeny (f:za1) (hf:f.okB 400 10000):Fn Tryz.prog 85 [] [(vF f)] (vF (denyF f)) []:=by
 refine Fn.body Tryz.func85 rfl 7 rfl fun w H B a h=>?_
 refine rq za0 0 [] [(1,vp 0 0),(2,vp 1 0)] [(0,.box (zF f)),(1,.box [cI 0,.d (.raw za6),cB false,.d (nsl []),cB false,.d (.raw za6)])] h ?_;clear h;intro a w h
 refine rq za0 2 [(1,.call (Lclone f hf) la_5),(2,.gen _ _ _ fun _ _ _ _=>Op.buildD (d:=5) (len:=1) (rows:=[(za1.cl f)].map za1.d) (rs:=[(4,(vF (za1.cl f)))]) kb_1 (.cons (i:=0) (OV.tmp 4 _) (.nil)) (by simp only [List.map_cons,List.map_nil,List.flatten_cons,List.flatten_nil,List.append_nil,za1.d_eq];kernel_rfl) rfl (by simp [za1.d_len]) (by decide) (by decide))] [(2,vp 1 0)] [(1,.box [cI 3,.d (.raw za6),cB false,.d (nsl []),cB false,cFs [(za1.cl f)]])] h ?_;clear h;intro a w h
 refine wp_ret ?_
 replace h:=zd7 1 1 3 [cI 3,.d (.raw za6),cB false,.d (nsl []),cB false,cFs [(za1.cl f)]] [(2,vp 1 0)] [(1,.box [cI 3,cPs [],cB false,.d (nsl []),cB false,cFs [(za1.cl f)]])] h rfl rfl
 refine zap [.agg [cI 3,cPs [],cB false,.d (nsl []),cB false,cFs [(za1.cl f)]]] h Exit.ret (.inl rfl)  rfl ⟨RV.agg _ 1 0 _ _ _ _ zf3 rfl rfl rfl rfl,trivial⟩ ?_
 rfl
set_option maxHeartbeats 4000000 in
theorem LAll (fs:List za1) (hf:∀ g ∈ fs,g.okB 400 10000) (hl:fs.length≤1000000):Fn Tryz.prog 55 [] [(vFs fs)] (vF (allF fs)) []:=by
 refine Fn.body Tryz.func55 rfl 6 rfl fun w H B a h=>?_
 refine rq za0 0 [] [(0,(vFs fs)),(2,vp 0 0)] [(0,.box [cI 0,.d (.raw za6),cB false,.d (nsl []),cB false,.d (.raw za6)])] h ?_;clear h;intro a w h
 refine rq za0 1 [(1,.call (Lclones fs (fun g hg=>Lclone g (hf g hg)) hl) la_11)] [(2,vp 0 0)] [(0,.box [cI 4,.d (.raw za6),cB false,.d (nsl []),cB false,cFs (fs.map za1.cl)])] h ?_;clear h;intro a w h
 refine wp_ret ?_
 replace h:=zd7 0 1 3 [cI 4,.d (.raw za6),cB false,.d (nsl []),cB false,cFs (fs.map za1.cl)] [(2,vp 0 0)] [(0,.box [cI 4,cPs [],cB false,.d (nsl []),cB false,cFs (fs.map za1.cl)])] h rfl rfl
 refine zap [.agg [cI 4,cPs [],cB false,.d (nsl []),cB false,cFs (fs.map za1.cl)]] h Exit.ret (.inl rfl)  rfl ⟨RV.agg _ 0 0 _ _ _ _ zf3 rfl rfl rfl rfl,trivial⟩ ?_
 rfl
end
end Go.Proofs.YtcppcnfmgpphcaaGreat.S
