/-
  Part 4 of the proof of the statement RefineNew. It holds for every input.
-/
import Derived.Test.YtlcijejaplagbaaGreatRN3
import Derived.Deep.LoopGhost
import Derived.Test.YtlcijejaplagbaaGreatRN1
import Derived.Test.YtlcijejaplagbaaGreatRN2
import Derived.Laws.Strings
import Derived.Laws.MakeOwn
set_option maxRecDepth 100000
set_option maxHeartbeats 20000000
open Go.RowKit
open Nat renaming zero_le->bC,le_refl->bF,mod_lt->bI,lt_of_le_of_lt->bU,lt_trans->bX,le_trans->b5,lt_of_lt_of_le->b9,pos_of_ne_zero->cC,div_le_self->cD,eq_zero_or_pos->cH,div_eq_of_lt->cL,gcd_comm->cM,pow_succ->cP,div_add_mod->cQ,mod_eq_of_lt->cZ,pow_add->c6,mul_assoc->c7,add_zero->dJ,mul_le_mul_left->dM,div_div_eq_div_mul->dN,add_mul_div_left->dO,add_mul_mod_self_left->dP
open List renaming length_map->bE,mem_map->bL,map_map->bN,map_cons->bP,getElem?_eq_some_iff->bS,take_length->bV,length_eq_zero_iff->bW,drop_of_length_le->b6,drop_eq_getElem_cons->b7,map_nil->b8,sum_cons->cG,take_add_one->cJ,mem_cons->cN,append_nil->cO,take_of_length_le->cU,length_take->cV,length_append->cW,flatten_cons->cX,flatten_nil->cY,mem_of_getElem?->dB,length_cons->dC,all_eq_true->dE,mem_cons_self->dG,map_append->dH,sum_nil->dI,any_eq_true->dU,map_take->dV,length_replicate->dW,map_congr_left->dX,sum_append->dY,mem_of_mem_take->d4,getElem?_eq_getElem->d5
open Int renaming mul_comm->bG,neg_mul->bJ,mul_le_mul_of_nonneg_left->cF,sub_mul->cR,natAbs_natCast->cT,mul_sub->c8,mul_nonneg->dA,toNat_natCast->dL,fmod_lt_of_pos->dQ,fmod_nonneg_of_pos->dR,lt_or_lt_of_ne->dS,mul_fdiv_add_fmod->dZ,eq_ofNat_of_zero_le->d3
open Bool renaming eq_false_or_eq_true->bK,and_false->cK,and_eq_true->dD
namespace Go.Proofs.YtlcijejaplagbaaGreat
variable {w w':World} {p v n b x M:Nat} {er:Int} {zs:List Nat}
def GotD (w:World) (p r:Nat) (er:Int) (e:Ending) (w':World):Prop :=
  ∃ ao c xs bo d ys,e = .returned (.tuple #[.slice ao xs.length c,.slice bo ys.length d,.int .i64 er])/\Own w' w.heap.size ao c xs/\zch xs/\nV xs=p/\Own w' w.heap.size bo d ys/\zch ys/\nV ys=r/\Ext w w'
theorem GotD.from {w0:World} {r:Nat} {e:Ending} (h:GotD w p r er e w') (k:Ext w0 w):GotD w0 p r er e w':=by
 obtain ⟨ao,c,xs,bo,d,ys,h1,h2,h3,h4,h5,h6,h7,h8⟩:=h
 exact ⟨ao,c,xs,bo,d,ys,h1,h2.mono k.size,h3,h4,h5.mono k.size,h6,h7,k.trans h8⟩
set_option maxHeartbeats 2000000 in
theorem Div_any (ao:Option Addr) (n c:Nat) (xs:List Nat) (bo:Option Addr) (m d:Nat) (ys:List Nat) (w:World) (hn:n=xs.length) (hm:m=ys.length)
  (ha:Rd w ao c xs) (hb:Rd w bo d ys) (hl:xs.length<=900000) :
  Calls Tryz.prog 169 #[.slice ao n c,.slice bo m d] w (if nV ys=0 then GotD w 0 0 10 else GotD w (nV xs / nV ys) (nV xs % nV ys) 0):=by
 subst hn hm
 have hA:=ha.trm
 have hB:=hb.trm
 have kA:=zdg ha.lb
 have kB:=zdg hb.lb
 have lA:=zft xs
 have cA:=hA.cap
 have cB:=hB.cap
 have mA:=hA.mx
 have mB:=hB.mx
 rw [<- zci xs,<- zci ys]
 by_cases h0:(trm ys).length=0
 ·have e0:trm ys=[]:=bW.1 h0
  have hv:nV (trm ys)=0:=by rw [e0];rfl
  rw [if_pos hv]
  clear hv
  go_enter Tryz.func169,Tryz.ntmps169
  go_wp2_with fail
  refine (zar ao _ c xs w rfl ha).mono ?_
  rintro e w' ⟨rfl,rfl⟩
  go_wp2_with fail
  refine (zar bo _ d ys w rfl hb).mono ?_
  rintro e w' ⟨rfl,rfl⟩
  rw [e0]
  clear e0 h0
  go_wp2_with fail
  go_ret3
  exact ⟨none,0,[],none,0,[],rfl,Own.nil _ _,zcv,rfl,Own.nil _ _,zcv,rfl,Ext.refl _⟩
 ·have hv:nV (trm ys)≠0:=fun e=>h0 (by rw [zh1 kB e];rfl)
  rw [if_neg hv]
  have hb0:((((trm ys).length:Nat):Int) == 0)=false:=beq_eq_false_iff_ne.2 (by omega)
  by_cases hlt:nV (trm xs)<nV (trm ys)
  ·have hc:=zjb hlt
   have r1:nV (trm xs) / nV (trm ys)=0:=cL hlt
   have r2:nV (trm xs) % nV (trm ys)=nV (trm xs):=cZ hlt
   rw [r1,r2]
   clear r1 r2 hlt
   go_enter Tryz.func169,Tryz.ntmps169
   go_wp2_with fail
   refine (zar ao _ c xs w rfl ha).mono ?_
   rintro e w' ⟨rfl,rfl⟩
   go_wp2_with fail
   refine (zar bo _ d ys w rfl hb).mono ?_
   rintro e w' ⟨rfl,rfl⟩
   go_wp2_with fail
   refine (zjd _ _ _ (trm xs) _ _ _ (trm ys) _ rfl rfl hA hB).mono ?_
   rintro e w1 ⟨rfl,q1⟩
   rw [hc]
   clear hc
   go_wp2_with fail
   refine (zcx _ _ _ (trm xs) _ rfl (hA.ext q1.ext) (by omega)).mono ?_
   intro e w2 hg
   obtain ⟨ro,rc,rz,rfl,p1,p2,p3,p4⟩:=hg.from q1.ext
   go_wp2_with fail
   go_ret3
   exact ⟨none,0,[],ro,rc,rz,rfl,Own.nil _ _,zcv,rfl,p1,p2,p3,p4⟩
  ·have hc:decide (zkh (nV (trm xs)) (nV (trm ys))<0)=false:=by
    unfold zkh
    rw [if_neg hlt]
    split <;> decide
   by_cases h1:(trm ys).length=1
   ·have hb1:((((trm ys).length:Nat):Int) == 1)=true:=by simp;omega
    have hx0:=ixe hB (trm ys).length rfl 0 0 rfl (by omega)
    simp only [dJ] at hx0
    have k0:=fun wr (q:Qt w wr)=>(hB.ext q.ext).cell 0 (by omega)
    have b0:=zbb kB.1 0
    have ey:nV (trm ys)=lim (trm ys) 0:=by
     rw [<- zbg (zs:=trm ys) (k:=1) (by omega),zb6,zdk,pw_zero];omega
    have Ey:=Lib.hid ey
    have b1:lim (trm ys) 0≠0:=by rw [<- ey];exact hv
    clear ey hv hlt h1 h0
    go_enter Tryz.func169,Tryz.ntmps169
    go_wp2_with fail
    refine (zar ao _ c xs w rfl ha).mono ?_
    rintro e w' ⟨rfl,rfl⟩
    go_wp2_with fail
    refine (zar bo _ d ys w rfl hb).mono ?_
    rintro e w' ⟨rfl,rfl⟩
    go_wp2_with fail
    refine (zjd _ _ _ (trm xs) _ _ _ (trm ys) _ rfl rfl hA hB).mono ?_
    rintro e w1 ⟨rfl,q1⟩
    have k1:=k0 w1 q1
    simp only [dJ] at k1
    go_wp2_with fail
    refine (byLimb_any _ _ _ (trm xs) _ (lim (trm ys) 0) _ rfl rfl (hA.ext q1.ext) (by omega) (by omega) b0).mono ?_
    rintro e w2 ⟨qo,qc,qz,rfl,p1,p2,p3,p4⟩
    have P3:=Lib.hid p3
    clear p3
    obtain ⟨M,hM⟩:∃ M,M=nV (trm xs) % lim (trm ys) 0:=⟨_,rfl⟩
    have bM:M<4294967296:=by rw [hM];exact bX (bI _ (by omega)) b0
    rw [<- hM]
    have HM:=Lib.hid hM
    clear hM
    go_wp2_with fail
    refine (Of_any (M:Int) (by omega) (by omega) _).mono ?_
    intro e w3 hg
    obtain ⟨ro,rc,rz,rfl,t1,t2,t3,t4⟩:=hg
    go_wp2_with fail
    go_ret3
    have e2:=q1.ext.trans p4
    exact ⟨qo,qc,qz,ro,rc,rz,rfl,(p1.ext t4).mono q1.ext.size,p2,by rw [P3.out,Ey.out],t1.mono e2.size,t2,by rw [t3,dL,HM.out,Ey.out],e2.trans t4⟩
   ·have hb1:((((trm ys).length:Nat):Int) == 1)=false:=beq_eq_false_iff_ne.2 (by omega)
    obtain ⟨i1,hi1⟩:∃ i1,i1+1=(trm ys).length:=⟨(trm ys).length - 1,by omega⟩
    have hlen:(trm ys).length<=(trm xs).length:=by
     rcases Nat.lt_or_ge (trm xs).length (trm ys).length with h | h
     ·exact absurd (zd7 kA.1 kB h) hlt
     ·exact h
    have hlast:lim (trm ys) i1≠0:=by
     have:=kB.2 (by omega)
     rwa [show (trm ys).length - 1=i1 by omega] at this
    have Hi1:=Lib.hid hi1
    have hge:2<=(trm ys).length:=by omega
    clear hi1 hv hlt h1 h0
    go_enter Tryz.func169,Tryz.ntmps169
    go_wp2_with fail
    refine (zar ao _ c xs w rfl ha).mono ?_
    rintro e w' ⟨rfl,rfl⟩
    go_wp2_with fail
    refine (zar bo _ d ys w rfl hb).mono ?_
    rintro e w' ⟨rfl,rfl⟩
    go_wp2_with fail
    refine (zjd _ _ _ (trm xs) _ _ _ (trm ys) _ rfl rfl hA hB).mono ?_
    rintro e w1 ⟨rfl,q1⟩
    go_wp2_with fail
    refine (long_any _ _ _ (trm xs) _ _ _ (trm ys) i1 _ rfl rfl Hi1.out hge hlen (hA.ext q1.ext) (hB.ext q1.ext) hlast (by omega)).mono ?_
    rintro e w2 ⟨qo,qc,qz,ro,rc,rz,rfl,p1,p2,p3,p4,p5,p6,p7⟩
    go_wp2_with fail
    go_ret3
    exact ⟨qo,qc,qz,ro,rc,rz,rfl,p1.mono q1.ext.size,p2,p3,p4.mono q1.ext.size,p5,p6,q1.ext.trans p7⟩
def GcdR (w:World) (G L:Nat) (k:Nat) (a b:Value) (wr:World):Prop :=
  ∃ (ao:Option Addr) (c:Nat) (xs:List Nat) (bo:Option Addr) (d:Nat) (ys:List Nat),a = .slice ao xs.length c/\b = .slice bo ys.length d/\Own wr w.heap.size ao c xs/\Own wr w.heap.size bo d ys/\zch xs/\zch ys/\xs.length<=L/\ys.length<=L/\Ext w wr /\
    Hid (Nat.gcd (nV xs) (nV ys)=G)/\Hid (k=nV ys)
set_option maxHeartbeats 2000000 in
theorem Gcd_any (ao:Option Addr) (n c:Nat) (xs:List Nat) (bo:Option Addr) (m d:Nat) (ys:List Nat) (L:Nat) (w:World) (hn:n=xs.length) (hm:m=ys.length)
  (ha:Rd w ao c xs) (hb:Rd w bo d ys) (hl1:xs.length<=L) (hl2:ys.length<=L) (hL:L<=900000) :
  Calls Tryz.prog 199 #[.slice ao n c,.slice bo m d] w (GotN w (Nat.gcd (nV xs) (nV ys))):=by
 subst hn hm
 go_enter Tryz.func199,Tryz.ntmps199
 go_wp2_with fail
 refine (zcx _ _ _ xs _ rfl ha (by omega)).mono ?_
 rintro e w1 ⟨xo,xc,xz,rfl,p1,p2,p3,p4⟩
 replace p3:=Lib.hid p3
 go_wp2_with fail
 refine (zcx _ _ _ ys _ rfl (hb.ext p4) (by omega)).mono ?_
 rintro e w2 ⟨yo,yc,yz,rfl,q1,q2,q3,q4⟩
 replace q3:=Lib.hid q3
 have lx:xz.length<=L:=zak p2 (by rw [p3.out];exact zaq ha.lb hl1)
 have ly:yz.length<=L:=zak q2 (by rw [q3.out];exact zaq hb.lb hl2)
 go_wp2_with fail
 go_loopg [0,1] (nV yz) (GcdR w (Nat.gcd (nV xs) (nV ys)) L)
 case atStart=>exact ⟨xo,xc,xz,yo,yc,yz,rfl,rfl,p1.ext q4,q1.mono p4.size,p2,q2,lx,ly,p4.trans q4,by unfold Hid;rw [p3.out,q3.out],rfl⟩
 case round =>
  obtain ⟨ao,c,us,bo,d,bs,rfl,rfl,oa,ob,ca,cb,la,lb,hext,hg,hk⟩:=hrel
  rcases cH bs.length with h0 | hp
  ·have e0:bs=[]:=bW.1 h0
   subst e0
   clear h0
   have hv:nV us=Nat.gcd (nV xs) (nV ys):=by have:=hg.out;rwa [show nV []=0 from rfl,Nat.gcd_zero_right] at this
   go_wp2_with fail
   go_ret
   exact ⟨ao,c,us,rfl,oa,ca,hv,hext⟩
  ·have hne:nV bs≠0:=fun e=>by rw [zh1 cb e] at hp;exact absurd hp (by decide)
   have hp1:(0:Int)<(bs.length:Int):=by omega
   have hp2:decide (0<bs.length)=true:=by simpa using hp
   go_wp2_with fail
   refine (Div_any _ _ _ us _ _ _ bs _ rfl rfl oa.rd ob.rd (by omega)).mono ?_
   intro e w3 hgot
   rw [if_neg hne] at hgot
   obtain ⟨qo,qc,qz,ro,rc,rz,rfl,t1,t2,t3,t4,t5,t6,t7⟩:=hgot
   have hlt:nV rz<nV bs:=by rw [t6];exact bI _ (by omega)
   have lr:rz.length<=L:=zak t5 (bX hlt (zaq cb.1 lb))
   have hg2:Nat.gcd (nV bs) (nV rz)=Nat.gcd (nV xs) (nV ys):=by
    rw [t6,<- hg.out,cM (nV us),Nat.gcd_rec (nV bs) (nV us),cM]
   have Hg2:=Lib.hid hg2
   have Hlt:=Lib.hid hlt
   clear t3 t6 hg2 hlt hne
   go_wp2_with fail
   go_roundg (nV rz)
   case rel=>exact ⟨bo,d,bs,ro,rc,rz,rfl,rfl,ob.ext t7,t4.mono hext.size,cb,t5,lb,lr,hext.trans t7,Hg2,rfl⟩
   case measure=>have h1:=hk.out;have h2:=Hlt.out;omega
theorem Div_pos (ao:Option Addr) (n c:Nat) (xs:List Nat) (bo:Option Addr) (m d:Nat) (ys:List Nat) (w:World) (hn:n=xs.length) (hm:m=ys.length)
  (ha:Rd w ao c xs) (hb:Rd w bo d ys) (hl:xs.length<=900000) (hv:nV ys≠0) :
  Calls Tryz.prog 169 #[.slice ao n c,.slice bo m d] w (GotD w (nV xs / nV ys) (nV xs % nV ys) 0):=by
 have h:=Div_any ao n c xs bo m d ys w hn hm ha hb hl
 rwa [if_neg hv] at h
def nb (v:Nat):Nat:=if v=0 then 0 else v.log2+1
theorem nb_eq {k:Nat} (h1:2 ^ k<=v) (h2:v<2 ^ (k+1)):nb v=k+1:=by
 have hv:v≠0:=by have:=Nat.two_pow_pos k;omega
 unfold nb
 rw [if_neg hv,(Nat.log2_eq_iff hv).2 ⟨h1,h2⟩]
theorem nb_lt (v:Nat):v<2 ^ nb v:=by
 unfold nb
 split
 ·omega
 ·exact Nat.lt_log2_self
theorem nb_ge (hv:v≠0):1<=nb v/\2 ^ (nb v - 1)<=v:=by
 unfold nb
 rw [if_neg hv]
 exact ⟨by omega,by simpa using Nat.log2_self_le hv⟩
theorem nb_half (hv:v≠0):nb v=nb (v / 2)+1:=by
 by_cases h1:v=1
 ·subst h1;decide
 ·obtain ⟨a,b⟩:=nb_ge (v:=v / 2) (by omega)
  have c:=nb_lt (v / 2)
  obtain ⟨k,hk⟩:∃ k,nb (v / 2)=k+1:=⟨nb (v / 2) - 1,by omega⟩
  rw [hk] at b c ⊢
  simp only [Nat.add_sub_cancel] at b
  refine nb_eq ?_ ?_
  ·rw [cP];omega
  ·rw [cP];omega
theorem nb_le {k:Nat} (h:v<2 ^ k):nb v<=k:=by
 by_cases hv:v=0
 ·subst hv;simp [nb]
 ·obtain ⟨a,b⟩:=nb_ge hv
  have:=(Nat.pow_lt_pow_iff_right (a:=2) (by omega)).1 (bU b h)
  omega
theorem pw_two (n:Nat):pw n=2 ^ (32*n):=by
 unfold pw
 rw [show (4294967296:Nat)=2 ^ 32 from rfl,<- Nat.pow_mul]
theorem nb_canon (h:zch zs) (hp:0<zs.length):nb (nV zs)=32*(zs.length - 1)+nb (lim zs (zs.length - 1)):=by
 have h1:=zb6 zs (zs.length - 1)
 rw [Nat.sub_add_cancel hp,zbg (bF _)] at h1
 have h2:=vk_lt h.1 (zs.length - 1)
 have h3:=h.2 hp
 obtain ⟨x,hx⟩:∃ x,x=lim zs (zs.length - 1):=⟨_,rfl⟩
 rw [<- hx] at h1 h3 ⊢
 obtain ⟨a,b⟩:=nb_ge h3
 have c:=nb_lt x
 obtain ⟨k,hk⟩:∃ k,nb x=k+1:=⟨nb x - 1,by omega⟩
 rw [hk] at b c ⊢
 simp only [Nat.add_sub_cancel] at b
 rw [pw_two] at h1 h2
 obtain ⟨P,hP⟩:∃ P,P=2 ^ (32*(zs.length - 1)):=⟨_,rfl⟩
 rw [<- Nat.add_assoc]
 have e1:2 ^ (32*(zs.length - 1)+k)=P*2 ^ k:=by rw [c6,hP]
 have e2:2 ^ (32*(zs.length - 1)+k+1)=P*2 ^ (k+1):=by rw [Nat.add_assoc,c6,hP]
 rw [<- hP] at h1 h2
 refine nb_eq ?_ ?_
 ·rw [e1,h1]
  have:=dM P b
  omega
 ·rw [e2,h1]
  have:P*(x+1)<=P*2 ^ (k+1):=dM P c
  rw [Nat.mul_add] at this
  omega
theorem nb_le_len (h:Lb zs) (hn:zs.length<=n):nb (nV zs)<=32*n:=nb_le (by rw [<- pw_two];exact zaq h hn)
def tb (v i:Nat):Bool:=decide (v / 2 ^ i % 2=1)
theorem tb_no {i:Nat} (h:v / 2 ^ i % 2≠1):tb v i=false:=decide_eq_false h
theorem vd_any (zs:List Nat) (k:Nat):vd zs k=lim zs k+4294967296*vd zs (k+1):=by
 by_cases h:k<zs.length
 ·exact vd_step h
 ·rw [zjf (by omega),zjf (by omega),zc6 (by omega)]
theorem bit_lim (h:Lb zs) (i:Nat):nV zs / 2 ^ i % 2=lim zs (i / 32) / 2 ^ (i % 32) % 2:=by
 have e:2 ^ i=pw (i / 32)*2 ^ (i % 32):=by
  rw [pw_two,<- c6];congr 1;omega
 rw [e,<- dN,vd_div h,vd_any]
 have hr:i % 32<32:=bI _ (by omega)
 obtain ⟨r,hr'⟩:∃ r,r=i % 32:=⟨_,rfl⟩
 rw [<- hr'] at hr ⊢
 have h32:(4294967296:Nat)=2 ^ r*(2*2 ^ (31 - r)):=by
  have:2 ^ r*(2*2 ^ (31 - r))=2 ^ (r+(31 - r)+1):=by rw [cP,c6,Nat.mul_comm 2,c7]
  rw [this,show r+(31 - r)+1=32 by omega]
 rw [show 4294967296*vd zs (i / 32+1)=2 ^ r*(2*(2 ^ (31 - r)*vd zs (i / 32+1))) by
  rw [<- c7,<- c7,c7 (2 ^ r),<- h32],dO _ _ (Nat.two_pow_pos r),dP]
theorem tb_ge (h:Lb zs) {i:Nat} (hi:32*zs.length<=i):tb (nV zs) i=false:=by
 refine tb_no ?_
 rw [cL (b9 (by have:=zas h;rwa [pw_two] at this) (Nat.pow_le_pow_right (by omega) hi))]
 decide
theorem up_bit (v k:Nat):v / 2 ^ k=2*(v / 2 ^ (k+1))+v / 2 ^ k % 2:=by
 rw [cP,<- dN];omega
theorem div_bit_yes {t:Nat} (hb:0<b) (h:b<=2*(t % b)+x) (hx:x<=1):(2*t+x) / b=2*(t / b)+1/\(2*t+x) % b=2*(t % b)+x - b:=by
 have h1:=cQ t b
 have h2:=bI t hb
 have e:2*t+x=(2*(t % b)+x - b)+b*(2*(t / b)+1):=by
  rw [Nat.mul_add,Nat.mul_left_comm]
  omega
 rw [e,dO _ _ hb,dP,cL (by omega),cZ (by omega)]
 exact ⟨by omega,rfl⟩
theorem div_bit_no {t:Nat} (hb:0<b) (h:2*(t % b)+x<b):(2*t+x) / b=2*(t / b)/\(2*t+x) % b=2*(t % b)+x:=by
 have h1:=cQ t b
 have e:2*t+x=(2*(t % b)+x)+b*(2*(t / b)):=by
  rw [Nat.mul_left_comm]
  omega
 rw [e,dO _ _ hb,dP,cL h,cZ h]
 exact ⟨by omega,rfl⟩
def GotI (w:World) (k:Nat) (e:Ending) (w':World):Prop:=e = .returned (.int .i64 k)/\Ext w w'
set_option maxHeartbeats 1000000 in
theorem RBits_any (ao:Option Addr) (n c:Nat) (xs:List Nat) (w:World) (hn:n=xs.length) (ha:Rd w ao c xs) (hl:xs.length<=1000000) :
  Calls Tryz.prog 139 #[.slice ao n c] w (GotI w (nb (nV xs))):=by
 subst hn
 go_enter Tryz.func139,Tryz.ntmps139
 go_wp2_with fail
 refine (zco _ _ _ xs _ rfl ha (by omega)).mono ?_
 rintro e w1 ⟨tq,tc,tz,rfl,t1,t2,t3,t4⟩
 have lt:tz.length<=xs.length:=zak t2 (by rw [t3];exact zaq ha.lb (bF _))
 replace t3:=Lib.hid t3
 rcases cH tz.length with h0 | hp
 ·have e0:tz=[]:=bW.1 h0
  subst e0
  clear h0
  go_wp2_with fail
  go_ret
  exact ⟨by rw [<- t3.out];rfl,t4⟩
 ·have hb:=Lib.hid (nb_canon t2 hp)
  have hd:((tz.length:Int) == 0)=false:=beq_eq_false_iff_ne.2 (by omega)
  have hx:=t1.rd.cell (tz.length - 1) (by omega)
  have hix:=ixe t1.rd tz.length rfl ((tz.length:Int) - 1) (tz.length - 1) (by omega) (by omega) w1
  have bx:=zbb t2.1 (tz.length - 1)
  obtain ⟨top,htop⟩:∃ top,top=lim tz (tz.length - 1):=⟨_,rfl⟩
  rw [<- htop] at hx bx hb
  clear htop
  have bn:=nb_le (v:=top) (k:=32) bx
  have ec:32*((tz.length:Int) - 1)=((32*(tz.length - 1):Nat):Int):=by omega
  have Ec:=Lib.hid ec
  clear ec
  go_wp2_with fail
  rw [Ec.out]
  go_loop [4,5] (fun k t=>∃ (j x:Nat),k = .int .i64 j/\t = .int .u32 x/\x<4294967296/\j<=40000000/\Hid (j+nb x=nb (nV tz))/\Hid (nb x<=32/\j+nb x<=32*xs.length)) (fun _ t=>(intOf t).toNat)
  case atStart=>exact ⟨_,top,rfl,rfl,bx,by omega,hb.out.symm,bn,by omega⟩
  case round =>
   obtain ⟨j,x,rfl,rfl,hx1,hj,hv,hv2⟩:=hrel
   rcases cH x with h0 | hp1
   ·subst h0
    have hv3:j=nb (nV tz):=hv.out
    have Hv3:=Lib.hid hv3
    clear hv3
    go_wp2_with fail
    go_ret
    exact ⟨by rw [<- t3.out,<- Hv3.out];rfl,t4⟩
   ·have hh:Hid (nb x=nb (x / 2)+1):=nb_half (by omega)
    have hj1:j+1<=32*xs.length:=by have:=hv2.out;have:=hh.out;omega
    go_wp2_with fail
    go_round
    case rel=>exact ⟨j+1,x / 2,by go_num,by simp,by omega,by omega,by unfold Hid;have:=hv.out;have:=hh.out;omega,by unfold Hid;have:=hv2.out;have:=hh.out;omega⟩
    case measure=>simp [intOf];omega
set_option maxHeartbeats 1000000 in
theorem RBit_any (ao:Option Addr) (n c:Nat) (xs:List Nat) (E:Int) (i:Nat) (w:World) (hn:n=xs.length) (hE:E=(i:Int)) (hi:i<9223372036854775808) (ha:Rd w ao c xs) (hl:xs.length<=1000000) :
  Calls Tryz.prog 141 #[.slice ao n c,.int .i64 E] w fun e w'=>e = .returned (.bool (tb (nV xs) i))/\w=w':=by
 subst hn hE
 by_cases hlt:i<32*xs.length
 ·have hb:=Lib.hid (bit_lim ha.lb i)
  have hd:decide (32*(xs.length:Int)<=(i:Int))=false:=decide_eq_false (by omega)
  have hx:=ha.cell (i / 32) (by omega)
  have hix:=ixe ha xs.length rfl ((i:Int) / 32) (i / 32) (by omega) (by omega) w
  have bx:=zbb ha.lb (i / 32)
  obtain ⟨top,htop⟩:∃ top,top=lim xs (i / 32):=⟨_,rfl⟩
  rw [<- htop] at hx bx hb
  clear htop
  have er:((i:Int) % 32)=((i % 32:Nat):Int):=by omega
  obtain ⟨r,hr⟩:∃ r,r=i % 32:=⟨_,rfl⟩
  rw [<- hr] at hb er
  have br:r<32:=by omega
  have Er:=Lib.hid er
  clear er hr
  go_enter Tryz.func141,Tryz.ntmps141
  go_wp2_with fail
  go_loop [5,6] (fun t k=>∃ (j x:Nat),k = .int .i64 j/\t = .int .u32 x/\x<4294967296/\j<=r/\Hid (x=top / 2 ^ j)) (fun _ k=>(r - intOf k).toNat)
  case atStart=>exact ⟨0,top,rfl,rfl,bx,by omega,by simp [Hid]⟩
  case round =>
   obtain ⟨j,x,rfl,rfl,hx1,hj,hv⟩:=hrel
   by_cases hjr:j<r
   ·have hd2:decide ((j:Int)<(i:Int) % 32)=true:=decide_eq_true (by rw [Er.out];omega)
    go_wp2_with fail
    go_round
    case rel=>exact ⟨j+1,x / 2,by go_num,by simp,by omega,by omega,by unfold Hid;rw [cP,<- dN,<- hv.out]⟩
    case measure=>simp [intOf];omega
   ·have hd2:decide ((j:Int)<(i:Int) % 32)=false:=decide_eq_false (by rw [Er.out];omega)
    obtain rfl:j=r:=by omega
    have hres:Hid (tb (nV xs) i=((x:Int) % 2 == 1)):=by
     unfold Hid tb
     rw [hb.out,<- hv.out,Bool.eq_iff_iff]
     simp
     omega
    go_wp2_with fail
    go_ret
    exact ⟨by rw [hres.out];rfl,rfl⟩
 ·have hres:=Lib.hid (tb_ge ha.lb (Nat.le_of_not_lt hlt))
  have hd:decide (32*(xs.length:Int)<=(i:Int))=true:=decide_eq_true (by omega)
  go_enter Tryz.func141,Tryz.ntmps141
  go_wp2_with fail
  go_ret
  exact ⟨by rw [hres.out];rfl,rfl⟩
def b2n (b:Bool):Nat:=if b then 1 else 0
set_option maxHeartbeats 1000000 in
theorem twice_any (ao:Option Addr) (n c:Nat) (xs:List Nat) (b:Bool) (w:World) (hn:n=xs.length) (ha:Rd w ao c xs) (hl:xs.length<=900000) :
  Calls Tryz.prog 140 #[.slice ao n c,.bool b] w (GotN w (2*nV xs+b2n b)):=by
 subst hn
 cases b
 ·have he:Hid (2*nV xs+b2n false=nV xs*2):=by unfold Hid b2n;simp;omega
  go_enter Tryz.func140,Tryz.ntmps140
  go_wp2_with fail
  refine (small_any _ _ _ xs _ 2 _ rfl rfl ha (by omega) (by omega)).mono ?_
  rintro e w1 ⟨so,sc,sz,rfl,p1,p2,p3,p4⟩
  replace p3:=Lib.hid p3
  go_wp2_with fail
  go_ret
  exact ⟨so,sc,sz,rfl,p1,p2,p3.out.trans he.out.symm,p4⟩
 ·have he:Hid (2*nV xs+b2n true=nV xs*2+1):=by unfold Hid b2n;simp;omega
  have hm:nV xs*2<pw (xs.length+1):=by
   have:=zas ha.lb;rw [zal];omega
  replace hm:=Lib.hid hm
  go_enter Tryz.func140,Tryz.ntmps140
  go_wp2_with fail
  refine (small_any _ _ _ xs _ 2 _ rfl rfl ha (by omega) (by omega)).mono ?_
  rintro e w1 ⟨so,sc,sz,rfl,p1,p2,p3,p4⟩
  have ls:sz.length<=xs.length+1:=zak p2 (by rw [p3];exact hm.out)
  replace p3:=Lib.hid p3
  go_wp2_with fail
  refine (RAdd_any _ _ _ sz _ _ _ [1] _ rfl rfl (p1.rd.ext ((Ext.refl _).alloc _)) (row1 _ 1 1 rfl (by omega)).rd (by omega) (by simp)).mono ?_
  intro e w2 hg
  have hg2:=hg.from ((Ext.refl _).alloc _)
  obtain ⟨ro,rc,rz,rfl,q1,q2,q3,q4⟩:=hg2
  replace q3:=Lib.hid q3
  go_wp2_with fail
  go_ret
  exact ⟨ro,rc,rz,rfl,q1.mono p4.size,q2,by rw [q3.out,he.out,p3.out];simp [nV],p4.trans q4⟩
def RDivR (w:World) (xs ys:List Nat) (q r i:Value) (wr:World):Prop :=
  ∃ (k:Nat) (qo:Option Addr) (qc:Nat) (qz:List Nat) (ro:Option Addr) (rc:Nat) (rz:List Nat),i = .int .i64 ((k:Int) - 1)/\k<=nb (nV xs)/\q = .slice qo qz.length qc/\r = .slice ro rz.length rc /\
    Rd wr qo qc qz/\Rd wr ro rc rz/\qz.length<=xs.length/\rz.length<=ys.length/\Ext w wr /\
    Hid (nV qz=nV xs / 2 ^ k / nV ys)/\Hid (nV rz=nV xs / 2 ^ k % nV ys)
theorem b2n_tb (v k:Nat):b2n (tb v k)=v / 2 ^ k % 2:=by
 unfold b2n tb
 have:v / 2 ^ k % 2<2:=bI _ (by omega)
 by_cases h:v / 2 ^ k % 2=1
 ·simp [h]
 ·simp [h];omega
theorem rdiv_yes {k:Nat} (hb:0<b) (h:b<=2*(v / 2 ^ (k+1) % b)+v / 2 ^ k % 2) :
  v / 2 ^ k / b=2*(v / 2 ^ (k+1) / b)+1/\v / 2 ^ k % b=2*(v / 2 ^ (k+1) % b)+v / 2 ^ k % 2 - b:=by
 have:=div_bit_yes (t:=v / 2 ^ (k+1)) hb h (by omega)
 rw [<- up_bit v k] at this
 exact this
theorem rdiv_no {k:Nat} (hb:0<b) (h:2*(v / 2 ^ (k+1) % b)+v / 2 ^ k % 2<b) :
  v / 2 ^ k / b=2*(v / 2 ^ (k+1) / b)/\v / 2 ^ k % b=2*(v / 2 ^ (k+1) % b)+v / 2 ^ k % 2:=by
 have:=div_bit_no (t:=v / 2 ^ (k+1)) hb h
 rw [<- up_bit v k] at this
 exact this
set_option maxHeartbeats 2000000 in
theorem RDiv_pos (ao:Option Addr) (n c:Nat) (xs:List Nat) (bo:Option Addr) (m d:Nat) (ys:List Nat) (w:World) (hn:n=xs.length) (hm:m=ys.length)
  (ha:Rd w ao c xs) (hb:Rd w bo d ys) (hl1:xs.length<=100000) (hl2:ys.length<=100000) (hv:nV ys≠0) :
  Calls Tryz.prog 97 #[.slice ao n c,.slice bo m d] w (GotD w (nV xs / nV ys) (nV xs % nV ys) 0):=by
 subst hn hm
 have hpos:0<nV ys:=cC hv
 have hV:=Lib.hid hv
 have hnb:=nb_le_len ha.lb (bF xs.length)
 have hq0:Hid (nV ([]:List Nat)=nV xs / 2 ^ nb (nV xs) / nV ys):=by unfold Hid;rw [cL (nb_lt _),Nat.zero_div];rfl
 have hr0:Hid (nV ([]:List Nat)=nV xs / 2 ^ nb (nV xs) % nV ys):=by unfold Hid;rw [cL (nb_lt _),Nat.zero_mod];rfl
 clear hv
 go_enter Tryz.func97,Tryz.ntmps97
 go_wp2_with fail
 refine (zco _ _ _ ys _ rfl hb (by omega)).mono ?_
 rintro e w1 ⟨tq,tc,tz,rfl,t1,t2,t3,t4⟩
 have ht:((tz.length:Int) == 0)=false:=by
  refine beq_eq_false_iff_ne.2 (fun e=>?_)
  have:tz=[]:=bW.1 (by omega)
  subst this
  exact hV.out (t3.symm.trans rfl)
 clear t3
 go_wp2_with fail
 have hE:=(t4.alloc (.cells #[] 128)).alloc (.cells #[] 128)
 refine (RBits_any _ _ _ xs _ rfl (ha.ext hE) (by omega)).mono ?_
 rintro e w2 ⟨rfl,x⟩
 go_wp2_with fail
 go_loopw [7,8,9] (RDivR w xs ys) (fun _ _ i _=>(intOf i+1).toNat)
 case atStart =>
  have hr1:=(zec (w1.alloc (.cells #[] 128))).rd
  simp at hr1
  exact ⟨nb (nV xs),_,0,[],_,0,[],rfl,bF _,rfl,rfl,((zec w1).rd.ext ((Ext.refl _).alloc _)).ext x,hr1.ext x,bC _,bC _,hE.trans x,hq0,hr0⟩
 case round =>
  obtain ⟨k,qo,qc,qz,ro,rc,rz,rfl,hk,rfl,rfl,qr,rr,lq,lr,hE2,hq,hr⟩:=hrel
  rcases k with _ | k
  ·go_wp2_with fail
   refine (zco _ _ _ qz _ rfl qr (by omega)).mono ?_
   rintro e w3 ⟨po,pc,pz,rfl,p1,p2,p3,p4⟩
   replace p3:=Lib.hid p3
   go_wp2_with fail
   refine (zco _ _ _ rz _ rfl (rr.ext p4) (by omega)).mono ?_
   rintro e w4 ⟨so,sc,sz,rfl,s1,s2,s3,s4⟩
   replace s3:=Lib.hid s3
   go_wp2_with fail
   go_ret3
   refine ⟨po,pc,pz,so,sc,sz,rfl,(p1.ext s4).mono hE2.size,p2,?_,s1.mono (hE2.trans p4).size,s2,?_,(hE2.trans p4).trans s4⟩
   ·rw [p3.out,hq.out,Nat.pow_zero,Nat.div_one]
   ·rw [s3.out,hr.out,Nat.pow_zero,Nat.div_one]
  ·have ek:((k+1:Nat):Int) - 1=(k:Int):=by omega
   rw [ek]
   clear ek
   have hk9:(k:Int)<4000000:=by omega
   go_wp2_with fail
   refine (RBit_any _ _ _ xs _ k _ rfl rfl (by omega) (ha.ext hE2) (by omega)).mono ?_
   rintro e w' ⟨rfl,rfl⟩
   obtain ⟨bt,hbt⟩:∃ bt,bt=tb (nV xs) k:=⟨_,rfl⟩
   rw [<- hbt]
   replace hbt:=Lib.hid hbt
   go_wp2_with fail
   refine (twice_any _ _ _ rz bt _ rfl rr (by omega)).mono ?_
   rintro e w3 ⟨to2,tc2,tz2,rfl,u1,u2,u3,u4⟩
   have ev:nV tz2=2*(nV xs / 2 ^ (k+1) % nV ys)+nV xs / 2 ^ k % 2:=by rw [u3,hr.out,hbt.out,b2n_tb]
   have hlt:=bI (nV xs / 2 ^ (k+1)) hpos
   have l3:tz2.length<=ys.length+1:=zak u2 (by rw [zal,ev];have:=zas hb.lb;omega)
   have Ev:=Lib.hid ev
   clear u3 ev hlt
   have hbE:=hb.ext (hE2.trans u4)
   go_wp2_with fail
   refine (RSub_any _ _ _ tz2 _ _ _ ys _ rfl rfl u1.rd hbE (by omega) (by omega)).mono ?_
   rintro e w4 ⟨lo,lc,lz,rfl,v1,v2,v3,v4⟩
   by_cases hge:nV ys<=nV tz2
   ·have hstep:=rdiv_yes (v:=nV xs) (k:=k) hpos (by rw [<- Ev.out];exact hge)
    have hdt:decide (nV ys<=nV tz2)=true:=decide_eq_true hge
    have l4:lz.length<=ys.length:=zak v2 (by rw [v3,Ev.out,<- hstep.2];exact bX (bI _ hpos) (zas hb.lb))
    have Hs:=Lib.hid hstep
    have V3:=Lib.hid v3
    rw [hdt]
    clear hstep v3 hge hdt
    go_wp2_with fail
    refine (twice_any _ _ _ qz true _ rfl (qr.ext (u4.trans v4)) (by omega)).mono ?_
    rintro e w5 ⟨po,pc,pz,rfl,p1,p2,p3,p4⟩
    have l5:pz.length<=xs.length:=zak p2 (by rw [p3,hq.out];unfold b2n;rw [if_pos rfl,<- Hs.out.1];exact bU (b5 (cD _ _) (cD _ _)) (zas ha.lb))
    replace p3:=Lib.hid p3
    go_wp2_with fail
    go_roundw
    case rel=>exact ⟨k,po,pc,pz,lo,lc,lz,by go_num,by omega,rfl,rfl,p1.rd,v1.rd.ext p4,l5,l4,hE2.trans (u4.trans (v4.trans p4)),by unfold Hid;rw [p3.out,hq.out,Hs.out.1];rfl,by unfold Hid;rw [V3.out,Ev.out,Hs.out.2]⟩
    case measure=>simp [intOf];try omega
   ·have hstep:=rdiv_no (v:=nV xs) (k:=k) hpos (by rw [<- Ev.out];omega)
    have hdt:decide (nV ys<=nV tz2)=false:=decide_eq_false hge
    have l4:tz2.length<=ys.length:=zak u2 (by rw [Ev.out,<- hstep.2];exact bX (bI _ hpos) (zas hb.lb))
    have Hs:=Lib.hid hstep
    rw [hdt]
    clear hstep v3 hge hdt
    go_wp2_with fail
    refine (twice_any _ _ _ qz false _ rfl (qr.ext (u4.trans v4)) (by omega)).mono ?_
    rintro e w5 ⟨po,pc,pz,rfl,p1,p2,p3,p4⟩
    have l5:pz.length<=xs.length:=zak p2 (by rw [p3,hq.out];unfold b2n;rw [if_neg (by decide),dJ,<- Hs.out.1];exact bU (b5 (cD _ _) (cD _ _)) (zas ha.lb))
    replace p3:=Lib.hid p3
    go_wp2_with fail
    go_roundw
    case rel=>exact ⟨k,po,pc,pz,to2,tc2,tz2,by go_num,by omega,rfl,rfl,p1.rd,(u1.rd.ext v4).ext p4,l5,l4,hE2.trans (u4.trans (v4.trans p4)),by unfold Hid;rw [p3.out,hq.out,Hs.out.1];rfl,by unfold Hid;rw [Ev.out,Hs.out.2]⟩
    case measure=>simp [intOf];try omega
set_option maxHeartbeats 2000000 in
theorem RGcd_any (ao:Option Addr) (n c:Nat) (xs:List Nat) (bo:Option Addr) (m d:Nat) (ys:List Nat) (L:Nat) (w:World) (hn:n=xs.length) (hm:m=ys.length)
  (ha:Rd w ao c xs) (hb:Rd w bo d ys) (hl1:xs.length<=L) (hl2:ys.length<=L) (hL:L<=100000) :
  Calls Tryz.prog 138 #[.slice ao n c,.slice bo m d] w (GotN w (Nat.gcd (nV xs) (nV ys))):=by
 subst hn hm
 go_enter Tryz.func138,Tryz.ntmps138
 go_wp2_with fail
 refine (zco _ _ _ xs _ rfl ha (by omega)).mono ?_
 rintro e w1 ⟨xo,xc,xz,rfl,p1,p2,p3,p4⟩
 replace p3:=Lib.hid p3
 go_wp2_with fail
 refine (zco _ _ _ ys _ rfl (hb.ext p4) (by omega)).mono ?_
 rintro e w2 ⟨yo,yc,yz,rfl,q1,q2,q3,q4⟩
 replace q3:=Lib.hid q3
 have lx:xz.length<=L:=zak p2 (by rw [p3.out];exact zaq ha.lb hl1)
 have ly:yz.length<=L:=zak q2 (by rw [q3.out];exact zaq hb.lb hl2)
 go_wp2_with fail
 go_loopg [5,6] (nV yz) (GcdR w (Nat.gcd (nV xs) (nV ys)) L)
 case atStart=>exact ⟨xo,xc,xz,yo,yc,yz,rfl,rfl,p1.ext q4,q1.mono p4.size,p2,q2,lx,ly,p4.trans q4,by unfold Hid;rw [p3.out,q3.out],rfl⟩
 case round =>
  obtain ⟨ao,c,us,bo,d,bs,rfl,rfl,oa,ob,ca,cb,la,lb,hext,hg,hk⟩:=hrel
  rcases cH bs.length with h0 | hp
  ·have e0:bs=[]:=bW.1 h0
   subst e0
   clear h0
   have hv:nV us=Nat.gcd (nV xs) (nV ys):=by have:=hg.out;rwa [show nV []=0 from rfl,Nat.gcd_zero_right] at this
   go_wp2_with fail
   go_ret
   exact ⟨ao,c,us,rfl,oa,ca,hv,hext⟩
  ·have hne:nV bs≠0:=fun e=>by rw [zh1 cb e] at hp;exact absurd hp (by decide)
   have hp1:(0:Int)<(bs.length:Int):=by omega
   have hp2:decide (0<bs.length)=true:=by simpa using hp
   go_wp2_with fail
   refine (RDiv_pos _ _ _ us _ _ _ bs _ rfl rfl oa.rd ob.rd (by omega) (by omega) hne).mono ?_
   rintro e w3 ⟨qo,qc,qz,ro,rc,rz,rfl,t1,t2,t3,t4,t5,t6,t7⟩
   have hlt:nV rz<nV bs:=by rw [t6];exact bI _ (by omega)
   have lr:rz.length<=L:=zak t5 (bX hlt (zaq cb.1 lb))
   have hg2:Nat.gcd (nV bs) (nV rz)=Nat.gcd (nV xs) (nV ys):=by
    rw [t6,<- hg.out,cM (nV us),Nat.gcd_rec (nV bs) (nV us),cM]
   have Hg2:=Lib.hid hg2
   have Hlt:=Lib.hid hlt
   clear t3 t6 hg2 hlt hne
   go_wp2_with fail
   go_roundg (nV rz)
   case rel=>exact ⟨bo,d,bs,ro,rc,rz,rfl,rfl,ob.ext t7,t4.mono hext.size,cb,t5,lb,lr,hext.trans t7,Hg2,rfl⟩
   case measure=>have h1:=hk.out;have h2:=Hlt.out;omega
def GotDM (w:World) (p r:Nat) (L M:Nat) (er:Int) (e:Ending) (w':World):Prop :=
  ∃ ao c xs B bo d ys C,e = .returned (.tuple #[.slice ao xs.length c,.slice bo ys.length d,.int .i64 er])/\w.heap.size<=B/\Own w' B ao c xs/\Hid (zch xs)/\Hid (nV xs=p)/\xs.length<=L /\
    w.heap.size<=C/\Own w' C bo d ys/\Hid (zch ys)/\Hid (nV ys=r)/\ys.length<=M/\Ext w w'
theorem GotD.len {r L:Nat} {e:Ending} (h:GotD w p r er e w') (hp:p<pw L) (hr:r<pw M):GotDM w p r L M er e w':=by
 obtain ⟨ao,c,xs,bo,d,ys,he,h1,h2,h3,h4,h5,h6,h7⟩:=h
 exact ⟨ao,c,xs,_,bo,d,ys,_,he,bF _,h1,h2,h3,zdq h2 h3 hp,bF _,h4,h5,h6,zdq h5 h6 hr,h7⟩
section
variable (ao:Option Addr) (n c:Nat) (xs:List Nat) (bo:Option Addr) (m d:Nat) (ys:List Nat) (w:World)
theorem DivM (hn:n=xs.length) (hm:m=ys.length) (ha:Rd w ao c xs) (hb:Rd w bo d ys) (hl1:xs.length<=100000) (_hl2:ys.length<=100000) (h:nV ys≠0) :
  Calls Tryz.prog 169 #[.slice ao n c,.slice bo m d] w (GotDM w (nV xs / nV ys) (nV xs % nV ys) xs.length ys.length 0) :=
 (Div_pos ao n c xs bo m d ys w hn hm ha hb (by omega) h).mono fun _ _ k=>k.len (bU (cD _ _) (zas ha.lb)) (bX (bI _ (cC h)) (zas hb.lb))
theorem RDivM (hn:n=xs.length) (hm:m=ys.length) (ha:Rd w ao c xs) (hb:Rd w bo d ys) (hl1:xs.length<=100000) (hl2:ys.length<=100000) (h:nV ys≠0) :
  Calls Tryz.prog 97 #[.slice ao n c,.slice bo m d] w (GotDM w (nV xs / nV ys) (nV xs % nV ys) xs.length ys.length 0) :=
 (RDiv_pos ao n c xs bo m d ys w hn hm ha hb (by omega) (by omega) h).mono fun _ _ k=>k.len (bU (cD _ _) (zas ha.lb)) (bX (bI _ (cC h)) (zas hb.lb))
theorem zgb {y a:Nat} (hx:x<pw a) (hy:y<pw b):Nat.gcd x y<pw (a+b):=by
 rcases cH x with h0 | h0
 ·rw [h0,Nat.gcd_zero_left];exact b9 hy (zda (by omega))
 ·exact bU (Nat.gcd_le_left _ h0) (b9 hx (zda (by omega)))
theorem GcdM (hn:n=xs.length) (hm:m=ys.length) (ha:Rd w ao c xs) (hb:Rd w bo d ys) (hl1:xs.length<=50000) (hl2:ys.length<=50000) :
  Calls Tryz.prog 199 #[.slice ao n c,.slice bo m d] w (GotM w (Nat.gcd (nV xs) (nV ys)) (xs.length+ys.length)) :=
 (Gcd_any ao n c xs bo m d ys (xs.length+ys.length) w hn hm ha hb (by omega) (by omega) (by omega)).mono fun _ _ k=>k.len (zgb (zas ha.lb) (zas hb.lb))
theorem RGcdM (hn:n=xs.length) (hm:m=ys.length) (ha:Rd w ao c xs) (hb:Rd w bo d ys) (hl1:xs.length<=50000) (hl2:ys.length<=50000) :
  Calls Tryz.prog 138 #[.slice ao n c,.slice bo m d] w (GotM w (Nat.gcd (nV xs) (nV ys)) (xs.length+ys.length)) :=
 (RGcd_any ao n c xs bo m d ys (xs.length+ys.length) w hn hm ha hb (by omega) (by omega) (by omega)).mono fun _ _ k=>k.len (zgb (zas ha.lb) (zas hb.lb))
end
namespace S
variable {a q X Y x0 x1 k:Int} {zq:List Nat} {y:ZI} {j n' es bs:Nat} {t:zaf} {ps:List za3} {α:Type} {ty xt el:TypeId} {rs':List (Nat × V)}
theorem postDM {H:Im} {B:Bl} {r L:Nat} {en:Ending} (hs:∀ b o,H b=some o->w.heap[b]?=some o) (h:GotDM w p r L M er en w'):∃ v H' B', en = .returned v/\Post [] w H B (.tup [.c (.d (nsl (lbs p))),.c (.d (nsl (lbs r))),.c (.d (.raw (.int .i64 er)))]) [] v w' H' B':=by
 obtain ⟨ao,c,xs,Bk,bo,d,ys,Ck,rfl,hb,ho,hc,hv,_,hb2,ho2,hc2,hv2,_,hx⟩:=h
 exact ⟨_,_,_,rfl,postE hx hs ⟨_,rfl,own_vn (Bb:=B) ho hb hc.out hv.out,own_vn (Bb:=B) ho2 hb2 hc2.out hv2.out,DR.raw _ rfl,trivial⟩⟩
section
variable (xs ys:List Nat)
theorem SnGcd (hx:Lb xs) (hy:Lb ys) (lx:xs.length<=50000) (ly:ys.length<=50000):Fn Tryz.prog 199 [] [vn xs,vn ys] (vn (lbs (Nat.gcd (nV xs) (nV ys)))) []:=by
 intro w H B vals pre
 obtain ⟨a,b,rfl,h1,h2⟩:=zjt pre.arg
 obtain ⟨ao,c,rfl,r1⟩:=zdu h1 hx
 obtain ⟨bo,d,rfl,r2⟩:=zdu h2 hy
 exact (GcdM ao _ c xs bo _ d ys w rfl rfl (r1 w pre.sat) (r2 w pre.sat) (by omega) (by omega)).mono fun _ _ h=>postM pre.sat h
theorem SnDiv (hx:Lb xs) (hy:Lb ys) (lx:xs.length<=50000) (ly:ys.length<=50000) (h0:nV ys≠0):Fn Tryz.prog 169 [] [vn xs,vn ys] (.tup [.c (.d (nsl (lbs (nV xs / nV ys)))),.c (.d (nsl (lbs (nV xs % nV ys)))),.c (cI 0)]) []:=by
 intro w H B vals pre
 obtain ⟨a,b,rfl,h1,h2⟩:=zjt pre.arg
 obtain ⟨ao,c,rfl,r1⟩:=zdu h1 hx
 obtain ⟨bo,d,rfl,r2⟩:=zdu h2 hy
 exact (DivM ao _ c xs bo _ d ys w rfl rfl (r1 w pre.sat) (r2 w pre.sat) (by omega) (by omega) h0).mono fun _ _ h=>postDM pre.sat h
theorem SRnGcd (hx:Lb xs) (hy:Lb ys) (lx:xs.length<=50000) (ly:ys.length<=50000):Fn Tryz.prog 138 [] [vn xs,vn ys] (vn (lbs (Nat.gcd (nV xs) (nV ys)))) []:=by
 intro w H B vals pre
 obtain ⟨a,b,rfl,h1,h2⟩:=zjt pre.arg
 obtain ⟨ao,c,rfl,r1⟩:=zdu h1 hx
 obtain ⟨bo,d,rfl,r2⟩:=zdu h2 hy
 exact (RGcdM ao _ c xs bo _ d ys w rfl rfl (r1 w pre.sat) (r2 w pre.sat) (by omega) (by omega)).mono fun _ _ h=>postM pre.sat h
theorem SRnDiv (hx:Lb xs) (hy:Lb ys) (lx:xs.length<=50000) (ly:ys.length<=50000) (h0:nV ys≠0):Fn Tryz.prog 97 [] [vn xs,vn ys] (.tup [.c (.d (nsl (lbs (nV xs / nV ys)))),.c (.d (nsl (lbs (nV xs % nV ys)))),.c (cI 0)]) []:=by
 intro w H B vals pre
 obtain ⟨a,b,rfl,h1,h2⟩:=zjt pre.arg
 obtain ⟨ao,c,rfl,r1⟩:=zdu h1 hx
 obtain ⟨bo,d,rfl,r2⟩:=zdu h2 hy
 exact (RDivM ao _ c xs bo _ d ys w rfl rfl (r1 w pre.sat) (r2 w pre.sat) (by omega) (by omega) h0).mono fun _ _ h=>postDM pre.sat h
end
theorem ZI.val_abs (x:ZI):nV x.abs=x.val.natAbs:=(zi6 x.neg x.abs).symm
theorem zh8 (a:Int) {b:Int} (h:b<0):b<a.fmod b/\a.fmod b<=0:=by
 have h1:=dQ (-a) (b:=-b) (by omega)
 have h2:=dR (-a) (b:=-b) (by omega)
 rw [Int.neg_fmod_neg] at h1 h2
 omega
theorem zfq {b r:Int} (h:a=q*b+r) (hp:0<b->0<=r/\r<b) (hn:b<0->b<r/\r<=0) (hb:b≠0):q=a.fdiv b/\r=a.fmod b:=by
 have h1:=dZ a b
 rcases dS hb with hlt | hgt
 ·obtain ⟨h2,h3⟩:=hn hlt
  obtain ⟨h4,h5⟩:=zh8 a hlt
  have hq:q=a.fdiv b:=by
   have e:b*(a.fdiv b - q)=r - a.fmod b:=by
    have:b*(a.fdiv b - q)=b*a.fdiv b - q*b:=by rw [c8,bG b q]
    omega
   rcases Int.lt_trichotomy (a.fdiv b - q) 0 with g | g | g
   ·have:b*(a.fdiv b - q)≥-b:=by
     have h6:(-b)*1<=(-b)*(-(a.fdiv b - q)):=cF (by omega) (by omega)
     rw [Int.neg_mul_neg] at h6;omega
    omega
   ·omega
   ·have:b*(a.fdiv b - q)<=b:=by
     have h6:(-b)*1<=(-b)*(a.fdiv b - q):=cF (by omega) (by omega)
     rw [bJ b (a.fdiv b - q)] at h6;omega
    omega
  refine ⟨hq,?_⟩
  rw [hq,bG] at h
  omega
 ·obtain ⟨h2,h3⟩:=hp hgt
  have h4:a.fmod b<b:=dQ a hgt
  have h5:0<=a.fmod b:=dR a hgt
  have hq:q=a.fdiv b:=by
   have e:b*(a.fdiv b - q)=r - a.fmod b:=by
    have:b*(a.fdiv b - q)=b*a.fdiv b - q*b:=by rw [c8,bG b q]
    omega
   rcases Int.lt_trichotomy (a.fdiv b - q) 0 with g | g | g
   ·have h6:b*1<=b*(-(a.fdiv b - q)):=cF (by omega) (by omega)
    rw [Int.mul_neg] at h6;omega
   ·omega
   ·have h6:b*1<=b*(a.fdiv b - q):=cF (by omega) (by omega)
    omega
  refine ⟨hq,?_⟩
  rw [hq,bG] at h
  omega
theorem zj2 (a:Int) {b:Int} (_hb:b≠0):(0<b->0<=a.fmod b/\a.fmod b<b)/\(b<0->b<a.fmod b/\a.fmod b<=0) :=
 ⟨fun h=>⟨dR a h,dQ a h⟩,fun h=>zh8 a h⟩
theorem fdiv_fmod (a b:Int):a=a.fdiv b*b+a.fmod b:=by have:=dZ a b;rw [bG] at this;exact this.symm
theorem fdiv_same (hY:Y≠0) {s t:Bool} (hs:s=decide (X<0)) (ht:t=decide (Y<0)) {zr:List Nat} (hq:nV zq=X.natAbs / Y.natAbs) (hr:nV zr=X.natAbs % Y.natAbs) (h:(s != t)=true->nV zr=0) :
  iv (s != t) zq=X.fdiv Y/\iv s zr=X.fmod Y:=by
 have hm:=bI X.natAbs (cC (by omega:Y.natAbs≠0))
 have hd:=cQ X.natAbs Y.natAbs
 generalize X.natAbs / Y.natAbs=q at *
 generalize X.natAbs % Y.natAbs=r at *
 subst hs ht
 refine zfq ?_ ?_ ?_ hY
 ·unfold iv
  rw [hq,hr]
  have hd2:((Y.natAbs:Int)*(q:Int)+(r:Int))=(X.natAbs:Int):=by rw [<- hd];simp
  by_cases h1:X<0 <;> by_cases h2:Y<0
  ·have e1:(X.natAbs:Int)=-X:=by omega
   have e2:(Y.natAbs:Int)=-Y:=by omega
   rw [e1,e2,bJ] at hd2
   simp [h1,h2]
   rw [bG];omega
  ·have e1:(X.natAbs:Int)=-X:=by omega
   have e2:(Y.natAbs:Int)=Y:=by omega
   rw [e1,e2] at hd2
   simp [h1,h2]
   rw [bJ,bG];omega
  ·have e1:(X.natAbs:Int)=X:=by omega
   have e2:(Y.natAbs:Int)=-Y:=by omega
   rw [e1,e2,bJ] at hd2
   simp [h1,h2]
   rw [bJ,bG];omega
  ·have e1:(X.natAbs:Int)=X:=by omega
   have e2:(Y.natAbs:Int)=Y:=by omega
   rw [e1,e2] at hd2
   simp [h1,h2]
   rw [bG];omega
 ·intro hp
  unfold iv
  have h2:¬ Y<0:=by omega
  by_cases h1:X<0
  ·have:=h (by simp [h1,h2])
   simp [h1,this];omega
  ·simp [h1,hr];omega
 ·intro hp
  unfold iv
  by_cases h1:X<0
  ·simp [h1,hr];omega
  ·have:=h (by simp [h1,hp])
   simp [h1,this];omega
theorem fdiv_other (hY:Y≠0) {s t:Bool} (hs:s=decide (X<0)) (ht:t=decide (Y<0)) {zr:List Nat} (hq:nV zq=X.natAbs / Y.natAbs) (hr:nV zr=X.natAbs % Y.natAbs) (h:(s != t)=true) (h0:nV zr≠0) :
  iv (s != t) zq - 1=X.fdiv Y/\iv s zr+Y=X.fmod Y:=by
 have hm:=bI X.natAbs (cC (by omega:Y.natAbs≠0))
 have hd:=cQ X.natAbs Y.natAbs
 generalize X.natAbs / Y.natAbs=q at *
 generalize X.natAbs % Y.natAbs=r at *
 subst hs ht
 rw [hr] at h0
 have hd2:((Y.natAbs:Int)*(q:Int)+(r:Int))=(X.natAbs:Int):=by rw [<- hd];simp
 rw [h]
 refine zfq ?_ ?_ ?_ hY
 ·unfold iv
  rw [hq,hr]
  by_cases h1:X<0 <;> by_cases h2:Y<0
  ·simp [h1,h2] at h
  ·have e1:(X.natAbs:Int)=-X:=by omega
   have e2:(Y.natAbs:Int)=Y:=by omega
   rw [e1,e2] at hd2
   simp [h1]
   rw [cR,bJ,bG];omega
  ·have e1:(X.natAbs:Int)=X:=by omega
   have e2:(Y.natAbs:Int)=-Y:=by omega
   rw [e1,e2,bJ] at hd2
   simp [h1]
   rw [cR,bJ,bG];omega
  ·simp [h1,h2] at h
 ·intro hp
  unfold iv
  have h2:¬ Y<0:=by omega
  by_cases h1:X<0
  ·simp [h1,hr];omega
  ·simp [h1,h2] at h
 ·intro hp
  unfold iv
  by_cases h1:X<0
  ·simp [h1,hp] at h
  ·simp [h1,hr];omega
theorem val_zero (h:zch zs):nV zs=0 ↔ zs.length=0 :=
 ⟨fun e=>by rw [zh1 h e];rfl,fun e=>by rw [bW.1 e];rfl⟩
theorem zf1 (X:Int) (hY:Y≠0):(X.fdiv Y).natAbs<=X.natAbs:=by
 have h:=fdiv_fmod X Y
 obtain ⟨h1,h2⟩:=zj2 X hY
 rcases dS hY with g | g
 ·obtain ⟨h3,h4⟩:=h2 g
  by_cases hq:0<=X.fdiv Y
  ·have:X.fdiv Y*Y<=X.fdiv Y*(-1):=cF (by omega) hq
   omega
  ·have:(-X.fdiv Y - 1)*1<=(-X.fdiv Y - 1)*(-Y):=cF (by omega) (by omega)
   have e:(-X.fdiv Y - 1)*(-Y)=X.fdiv Y*Y+Y:=by rw [cR,Int.neg_mul_neg];omega
   omega
 ·obtain ⟨h3,h4⟩:=h1 g
  by_cases hq:0<=X.fdiv Y
  ·have:X.fdiv Y*1<=X.fdiv Y*Y:=cF (by omega) hq
   omega
  ·have:(-X.fdiv Y - 1)*1<=(-X.fdiv Y - 1)*Y:=cF (by omega) (by omega)
   have e:(-X.fdiv Y - 1)*Y=-(X.fdiv Y*Y) - Y:=by rw [cR,bJ];omega
   omega
theorem zh9 (X:Int) (hY:Y≠0):(X.fmod Y).natAbs<Y.natAbs:=by
 obtain ⟨h1,h2⟩:=zj2 X hY
 rcases dS hY with g | g
 ·have:=h2 g;omega
 ·have:=h1 g;omega
theorem zfp {x:ZI} (hx:Lb x.abs) (h:y.val≠0):(ZI.of (x.val.fdiv y.val)).abs.length<=x.abs.length:=ZI.len_of (bU (zf1 _ h) (ZI.abs_lt hx))
theorem zgv {x:ZI} (hy:Lb y.abs) (h:y.val≠0):(ZI.of (x.val.fmod y.val)).abs.length<=y.abs.length:=ZI.len_of (bX (zh9 _ h) (ZI.abs_lt hy))
theorem sgn_prod_range (X Y:Int):-1<=sgn X*sgn Y/\sgn X*sgn Y<=1:=by
 unfold sgn
 split <;> split <;> first | decide | (split <;> first | decide | (split <;> decide))
theorem zhf (X Y:Int):sgn X*sgn Y<0 ↔ (X<0/\0<Y)\/(0<X/\Y<0):=by
 unfold sgn
 by_cases h1:X<0 <;> by_cases h2:Y<0 <;> by_cases h3:0<X <;> by_cases h4:0<Y <;> simp [h1,h2,h3,h4] <;> omega
theorem tdiv_leaf (hY:Y≠0) {b:Bool} (hb:b=decide (sgn X*sgn Y<0)) (hq:nV zq=X.natAbs / Y.natAbs) :
  (X - iv b zq*Y).natAbs<Y.natAbs/\(0<=X->0<=X - iv b zq*Y)/\(X<=0->X - iv b zq*Y<=0):=by
 have hm:=bI X.natAbs (cC (by omega:Y.natAbs≠0))
 have hd:=cQ X.natAbs Y.natAbs
 have h0:X=0->X.natAbs / Y.natAbs=0:=fun h=>by rw [h];simp
 generalize X.natAbs / Y.natAbs=q at *
 generalize X.natAbs % Y.natAbs=r at *
 have hd2:((Y.natAbs:Int)*(q:Int)+(r:Int))=(X.natAbs:Int):=by rw [<- hd];simp
 have hs:=zhf X Y
 subst hb
 unfold iv
 rw [hq]
 by_cases h1:X<0 <;> by_cases h2:Y<0
 ·have e1:(X.natAbs:Int)=-X:=by omega
  have e2:(Y.natAbs:Int)=-Y:=by omega
  have hc:¬ sgn X*sgn Y<0:=by rw [hs];omega
  rw [e1,e2,bJ,bG] at hd2
  simp [hc];omega
 ·have e1:(X.natAbs:Int)=-X:=by omega
  have e2:(Y.natAbs:Int)=Y:=by omega
  have hc:sgn X*sgn Y<0:=by rw [hs];omega
  rw [e1,e2,bG] at hd2
  simp [hc,bJ];omega
 ·have e1:(X.natAbs:Int)=X:=by omega
  have e2:(Y.natAbs:Int)=-Y:=by omega
  rw [e1,e2,bJ,bG] at hd2
  by_cases h3:X=0
  ·have:=h0 h3
   subst this
   simp at hd2 ⊢;omega
  ·have hc:sgn X*sgn Y<0:=by rw [hs];omega
   simp [hc,bJ];omega
 ·have e1:(X.natAbs:Int)=X:=by omega
  have e2:(Y.natAbs:Int)=Y:=by omega
  have hc:¬ sgn X*sgn Y<0:=by rw [hs];omega
  rw [e1,e2,bG] at hd2
  simp [hc];omega
theorem rdiv_stay (hY:Y≠0) (h:(X - q*Y).natAbs<Y.natAbs) (hs:¬ sgn (X - q*Y)*sgn Y<0):q=X.fdiv Y/\X - q*Y=X.fmod Y:=by
 rw [zhf] at hs
 exact zfq (by omega) (fun _=>by omega) (fun _=>by omega) hY
theorem rdiv_turn (hY:Y≠0) (h:(X - q*Y).natAbs<Y.natAbs) (hs:sgn (X - q*Y)*sgn Y<0):q - 1=X.fdiv Y/\X - q*Y+Y=X.fmod Y:=by
 rw [zhf] at hs
 have e:(q - 1)*Y=q*Y - Y:=by rw [cR];omega
 exact zfq (by omega) (fun _=>by omega) (fun _=>by omega) hY
def bez (r0 x0 y0 r1 x1 y1:Int):Int × Int × Int :=
  if _h:r1<=0 then (r0,x0,y0) else bez r1 x1 y1 (r0.fmod r1) (x0 - r0.fdiv r1*x1) (y0 - r0.fdiv r1*y1)
  termination_by r1.natAbs
  decreasing_by exact zh9 _ (by omega)
theorem bez_step {r0 y0 r1 y1:Int} (h:¬ r1<=0):bez r0 x0 y0 r1 x1 y1=bez r1 x1 y1 (r0.fmod r1) (x0 - r0.fdiv r1*x1) (y0 - r0.fdiv r1*y1):=by rw [bez,dif_neg h]
structure BzI (A B r0 x0 y0 r1 x1 y1:Int):Prop where
  a:0<=A
  b:0<=B
  p0:0<=r0
  p1:0<=r1
  g:Nat.gcd r0.natAbs r1.natAbs=Nat.gcd A.natAbs B.natAbs
  e0:r0=A*x0+B*y0
  e1:r1=A*x1+B*y1
  sx:(0<=x0/\x1<=0)\/(x0<=0/\0<=x1)
  sy:(0<=y0/\y1<=0)\/(y0<=0/\0<=y1)
  bx:r0*(x1.natAbs:Int)+r1*(x0.natAbs:Int)=B
  byy:r0*(y1.natAbs:Int)+r1*(y0.natAbs:Int)=A
  lx:(x1.natAbs:Int)<=B+1
  ly:(y1.natAbs:Int)<=A+1
  z:bez r0 x0 y0 r1 x1 y1=bez A 1 0 B 0 1
theorem alt_abs (hq:0<=q) (h:(0<=x0/\x1<=0)\/(x0<=0/\0<=x1)):((x0 - q*x1).natAbs:Int)=x0.natAbs+q*x1.natAbs/\((0<=x1/\x0 - q*x1<=0)\/(x1<=0/\0<=x0 - q*x1)):=by
 rcases h with ⟨h1,h2⟩ | ⟨h1,h2⟩
 ·have h3:0<=q*(-x1):=dA hq (by omega)
  have e1:(x1.natAbs:Int)=-x1:=by omega
  rw [e1]
  rw [Int.mul_neg] at h3 ⊢
  omega
 ·have h3:0<=q*x1:=dA hq h2
  have e1:(x1.natAbs:Int)=x1:=by omega
  rw [e1]
  omega
theorem zjl {r b B:Int} (hr:0<r) (ha:0<=a) (hb:0<=b) (h:r*a+b=B):a<=B:=by
 have:1*a<=r*a:=Int.mul_le_mul_of_nonneg_right (by omega) ha
 omega
theorem BzI.step {A B r0 y0 r1 y1:Int} (h:BzI A B r0 x0 y0 r1 x1 y1) (hr:r1≠0) :
  BzI A B r1 x1 y1 (r0.fmod r1) (x0 - r0.fdiv r1*x1) (y0 - r0.fdiv r1*y1):=by
 obtain ⟨ha,hb,p0,p1,g,e0,e1,sx,sy,bx,by_,lx,ly,z⟩:=h
 have hpos:0<r1:=by omega
 have hq:0<=r0.fdiv r1:=Int.fdiv_nonneg p0 p1
 obtain ⟨m1,m2⟩:=(zj2 r0 hr).1 hpos
 have hd:=fdiv_fmod r0 r1
 obtain ⟨k1,k2⟩:=alt_abs hq sx
 obtain ⟨j1,j2⟩:=alt_abs hq sy
 have ex:r1*((x0 - r0.fdiv r1*x1).natAbs:Int)+r0.fmod r1*(x1.natAbs:Int)=B:=by
  rw [k1,Int.mul_add,<- bx]
  have:r0*(x1.natAbs:Int)=r0.fdiv r1*r1*(x1.natAbs:Int)+r0.fmod r1*(x1.natAbs:Int):=by rw [<- Int.add_mul,<- hd]
  have e2:r1*(r0.fdiv r1*(x1.natAbs:Int))=r0.fdiv r1*r1*(x1.natAbs:Int):=by rw [<- Int.mul_assoc,bG r1]
  omega
 have ey:r1*((y0 - r0.fdiv r1*y1).natAbs:Int)+r0.fmod r1*(y1.natAbs:Int)=A:=by
  rw [j1,Int.mul_add,<- by_]
  have:r0*(y1.natAbs:Int)=r0.fdiv r1*r1*(y1.natAbs:Int)+r0.fmod r1*(y1.natAbs:Int):=by rw [<- Int.add_mul,<- hd]
  have e2:r1*(r0.fdiv r1*(y1.natAbs:Int))=r0.fdiv r1*r1*(y1.natAbs:Int):=by rw [<- Int.mul_assoc,bG r1]
  omega
 refine ⟨ha,hb,p1,m1,?_,e1,?_,k2,j2,ex,ey,?_,?_,?_⟩
 ·have:(r0.fmod r1).natAbs=r0.natAbs % r1.natAbs:=by
   obtain ⟨u,hu⟩:=d3 p0
   obtain ⟨v,hv⟩:=d3 p1
   rw [hu,hv,<- Int.ofNat_fmod,cT,cT,cT]
  rw [this,cM,<- Nat.gcd_rec,cM,g]
 ·have:r0.fmod r1=r0 - r0.fdiv r1*r1:=by omega
  rw [this]
  have h1:A*(x0 - r0.fdiv r1*x1)=A*x0 - r0.fdiv r1*(A*x1):=by rw [c8,Int.mul_left_comm]
  have h2:B*(y0 - r0.fdiv r1*y1)=B*y0 - r0.fdiv r1*(B*y1):=by rw [c8,Int.mul_left_comm]
  have h3:r0.fdiv r1*r1=r0.fdiv r1*(A*x1)+r0.fdiv r1*(B*y1):=by rw [<- Int.mul_add,<- e1]
  omega
 ·have:=zjl hpos (by omega) (dA m1 (by omega)) ex;omega
 ·have:=zjl hpos (by omega) (dA m1 (by omega)) ey;omega
 ·rw [<- z];exact (bez_step (by omega)).symm
theorem SSub (x y:ZI) (hx:Lb x.abs) (hy:Lb y.abs) (lx:x.abs.length<=49000) (ly:y.abs.length<=49000):Fn Tryz.prog 170 [] [vz x,vz y] (vz (ZI.of (x.val - y.val))) []:=by
 refine fB Tryz.func170 rfl 9 fun w H B a h=>Jq 0 [] [(2,vp 0 0),(3,vp 1 0),(4,vp 2 0)] [(0,.box (zi x)),(1,.box (zi y)),(2,.box [cB false,.d (nsl [])])] h fun a w h=>?_
 obtain ⟨r1,er1,vr1,or1,lr1⟩:=mkZ (v:=-y.val) (m:=y.abs.length) (len_neg hy);obtain ⟨r2,er2,vr2,or2,lr2⟩:=mkZ (v:=x.val+r1.val) (m:=x.abs.length+r1.abs.length+1) (zcz hx or1);refine Jq 3 [(2,.call (Fn.cast (SNeg y hy (by omega)) (congrArg vz er1.symm))),(3,.call (Fn.cast (SAdd x r1 hx or1 (by omega) (by omega)) (congrArg vz er2.symm)))] [(4,vp 2 0)] [(2,.box (zi r2))] h fun a w h=>qV (rA 2 (zi r2) h zdm rfl (congrArg (fun z=>vz z) (er2.trans (congrArg ZI.of ?_))));rw [vr1];omega
theorem SRSub (x y:ZI) (hx:Lb x.abs) (hy:Lb y.abs) (lx:x.abs.length<=49000) (ly:y.abs.length<=49000):Fn Tryz.prog 98 [] [vz x,vz y] (vz (ZI.of (x.val - y.val))) []:=by
 refine fB Tryz.func98 rfl 9 fun w H B a h=>Jq 0 [] [(2,vp 0 0),(3,vp 1 0),(4,vp 2 0)] [(0,.box (zi x)),(1,.box (zi y)),(2,.box [cB false,.d (nsl [])])] h fun a w h=>?_
 obtain ⟨r1,er1,vr1,or1,lr1⟩:=mkZ (v:=-y.val) (m:=y.abs.length) (len_neg hy);obtain ⟨r2,er2,vr2,or2,lr2⟩:=mkZ (v:=x.val+r1.val) (m:=x.abs.length+r1.abs.length+1) (zcz hx or1);refine Jq 3 [(2,.call (Fn.cast (SRNeg y hy (by omega)) (congrArg vz er1.symm))),(3,.call (Fn.cast (SRAdd x r1 hx or1 (by omega) (by omega)) (congrArg vz er2.symm)))] [(4,vp 2 0)] [(2,.box (zi r2))] h fun a w h=>qV (rA 2 (zi r2) h zdm rfl (congrArg (fun z=>vz z) (er2.trans (congrArg ZI.of ?_))));rw [vr1];omega
theorem zkg (x y:ZI):(sgn x.val<sgn y.val->(-1:Int)=zbx x.val y.val)/\(¬ sgn x.val<sgn y.val->sgn x.val>sgn y.val->(1:Int)=zbx x.val y.val)/\(¬ sgn x.val<sgn y.val->¬ sgn x.val>sgn y.val->sgn x.val<0->zkh (nV y.abs) (nV x.abs)=zbx x.val y.val)/\(¬ sgn x.val<sgn y.val->¬ sgn x.val>sgn y.val->¬ sgn x.val<0->zkh (nV x.abs) (nV y.abs)=zbx x.val y.val):=by
 have e1:∀ z:Int,(0<z->sgn z=1)/\(z<0->sgn z=-1)/\(z=0->sgn z=0):=fun z=>⟨sgn_pos,zis,ze4⟩
 rcases zhx x with ⟨h1,h2⟩ | ⟨h1,h2,h3⟩ | ⟨h1,h2⟩ <;> rcases zhx y with ⟨k1,k2⟩ | ⟨k1,k2,k3⟩ | ⟨k1,k2⟩ <;>
  have a1:=e1 x.val <;> have a2:=e1 y.val <;> rw [h1,k1] <;> rw [h1] at a1 <;> rw [k1] at a2 <;> unfold zbx zkh <;> refine ⟨fun _=>?_,fun _ _=>?_,fun _ _ _=>?_,fun _ _ _=>?_⟩ <;> first | omega | (split <;> first | omega | (split <;> first | omega | (split <;> first | omega | (split <;> omega))))
theorem SCmp (x y:ZI) (hx:Lb x.abs) (hy:Lb y.abs) (lx:x.abs.length<=49000) (ly:y.abs.length<=49000):Fn Tryz.prog 202 [] [vz x,vz y] (vI (zbx x.val y.val)) []:=by
 refine fB Tryz.func202 rfl 32 fun w H B a h=>Jq 0 [] [(2,vp 0 0),(3,vp 1 0),(4,vI 0)] [(0,.box (zi x)),(1,.box (zi y))] h fun a w h=>Je 2 [(1,.call (zjc x hx (by omega))),(3,.call (zjc y hy (by omega)))] [] [(5,vI (sgn x.val)),(6,vI (sgn y.val))] h fun a w h=>qW (qZ (Je 2 [] [] [(11,vb (decide (sgn x.val<sgn y.val)))] h fun a w h=>zae (sgn x.val<sgn y.val) h (fun hc1 hc1'=>?_) (fun hc2 hc2'=>?_)))
 ·refine Je 2 [] [5,6,11] [(4,vI (-1))] h fun a w h=>qV (za9 (za5 (rT (.c (cI (-1))) h rfl ?_)));exact congrArg (vi .i64) ((zkg x y).1 hc1')
 refine Je 2 [] [6,11] [(15,vb (decide (sgn x.val>sgn y.val)))] h fun a w h=>zae (sgn x.val>sgn y.val) h (fun hc3 hc3'=>?_) (fun hc4 hc4'=>?_)
 ·refine Je 2 [] [5,15] [(4,vI 1)] h fun a w h=>qV (za9 (za5 (rT (.c (cI 1)) h rfl ?_)));exact congrArg (vi .i64) ((zkg x y).2.1 hc2' hc3')
 refine Je 2 [] [5,15] [(19,vb (decide (sgn x.val<0)))] h fun a w h=>zae (sgn x.val<0) h (fun hc5 hc5'=>?_) (fun hc6 hc6'=>?_)
 ·refine Je 2 [(4,.call (SnCmp y.abs x.abs hy hx))] [19] [(4,vI (zkh (nV y.abs) (nV x.abs)))] h fun a w h=>qV (za9 (za5 (rT (.c (cI (zkh (nV y.abs) (nV x.abs)))) h rfl ?_)));exact congrArg (vi .i64) ((zkg x y).2.2.1 hc2' hc4' hc5')
 refine qU (za7 (za2 (Jq 2 [(4,.call (SnCmp x.abs y.abs hx hy))] [(4,vI (zkh (nV x.abs) (nV y.abs)))] [] h fun a w h=>qV (rT (.c (cI (zkh (nV x.abs) (nV y.abs)))) h rfl ?_))));exact congrArg (vi .i64) ((zkg x y).2.2.2 hc2' hc4' hc6')
theorem SRCmp (x y:ZI) (hx:Lb x.abs) (hy:Lb y.abs) (lx:x.abs.length<=49000) (ly:y.abs.length<=49000):Fn Tryz.prog 73 [] [vz x,vz y] (vI (zbx x.val y.val)) []:=by
 refine fB Tryz.func73 rfl 9 fun w H B a h=>Jq 0 [] [(2,vp 0 0),(3,vp 1 0),(4,vI 0)] [(0,.box (zi x)),(1,.box (zi y))] h fun a w h=>?_
 obtain ⟨r1,er1,vr1,or1,lr1⟩:=mkZ (v:=x.val - y.val) (m:=x.abs.length+y.abs.length+1) (len_sub hx hy);refine Jq 2 [(2,.call (Fn.cast (SRSub x y hx hy (by omega) (by omega)) (congrArg vz er1.symm))),(3,.call (zc7 r1 or1 (by omega)))] [(4,vI (sgn r1.val))] [] h fun a w h=>qV (rT (.c (cI (sgn r1.val))) h rfl ?_);rw [vr1,cmpZ_sgn];try rfl
theorem gcd_iv (m n:Nat) (h:nV zs=Nat.gcd m n):iv false zs=(Nat.gcd m n:Int):=by rw [zdd,h]
theorem len_gcd {x:ZI} (hx:Lb x.abs) (hy:Lb y.abs):(ZI.of (Nat.gcd x.val.natAbs y.val.natAbs:Int)).abs.length<=x.abs.length+y.abs.length:=ZI.len_of (by rw [cT];exact zgb (ZI.abs_lt hx) (ZI.abs_lt hy))
theorem SGcd (x y:ZI) (hx:Lb x.abs) (hy:Lb y.abs) (lx:x.abs.length<=40000) (ly:y.abs.length<=40000):Fn Tryz.prog 172 [] [vz x,vz y] (vz (ZI.of (Nat.gcd x.val.natAbs y.val.natAbs:Int))) []:=by
 refine fB Tryz.func172 rfl 11 fun w H B a h=>Jq 0 [] [(2,vp 0 0),(3,vp 1 0),(4,vp 2 0)] [(0,.box (zi x)),(1,.box (zi y)),(2,.box [cB false,.d (nsl [])])] h fun a w h=>?_
 obtain ⟨n1,en1,vn1,on1,ln1⟩:=mkN (v:=Nat.gcd (nV x.abs) (nV y.abs)) (m:=x.abs.length+y.abs.length) (zgb (zas hx) (zas hy));obtain ⟨r2,er2,vr2,or2,lr2⟩:=mkZ (v:=iv false n1) (m:=n1.length) (zcl on1);refine Jq 3 [(4,.call (Fn.cast (SnGcd x.abs y.abs hx hy (by omega) (by omega)) (congrArg vn en1.symm))),(5,.call (Fn.cast (zjv false n1 on1 (by omega)) (congrArg vz er2.symm)))] [(4,vp 2 0)] [(2,.box (zi r2))] h fun a w h=>qV (rA 2 (zi r2) h zdm rfl ?_);rw [er2];unfold ZI.val;rw [zi6,zi6,<- gcd_iv _ _ vn1];try rfl
theorem SRGcd (x y:ZI) (hx:Lb x.abs) (hy:Lb y.abs) (lx:x.abs.length<=40000) (ly:y.abs.length<=40000):Fn Tryz.prog 96 [] [vz x,vz y] (vz (ZI.of (Nat.gcd x.val.natAbs y.val.natAbs:Int))) []:=by
 refine fB Tryz.func96 rfl 11 fun w H B a h=>Jq 0 [] [(2,vp 0 0),(3,vp 1 0),(4,vp 2 0)] [(0,.box (zi x)),(1,.box (zi y)),(2,.box [cB false,.d (nsl [])])] h fun a w h=>?_
 obtain ⟨n1,en1,vn1,on1,ln1⟩:=mkN (v:=Nat.gcd (nV x.abs) (nV y.abs)) (m:=x.abs.length+y.abs.length) (zgb (zas hx) (zas hy));obtain ⟨r2,er2,vr2,or2,lr2⟩:=mkZ (v:=iv false n1) (m:=n1.length) (zcl on1);refine Jq 3 [(4,.call (Fn.cast (SRnGcd x.abs y.abs hx hy (by omega) (by omega)) (congrArg vn en1.symm))),(5,.call (Fn.cast (zgh false n1 on1 (by omega)) (congrArg vz er2.symm)))] [(4,vp 2 0)] [(2,.box (zi r2))] h fun a w h=>qV (rA 2 (zi r2) h zdm rfl ?_);rw [er2];unfold ZI.val;rw [zi6,zi6,<- gcd_iv _ _ vn1];try rfl
theorem SDiv (x y:ZI) (hx:Lb x.abs) (hy:Lb y.abs) (lx:x.abs.length<=40000) (ly:y.abs.length<=40000) (h0:y.val≠0):Fn Tryz.prog 124 [] [vz x,vz y] (.tup [.agg (zi (ZI.of (x.val.fdiv y.val))),.agg (zi (ZI.of (x.val.fmod y.val))),.c (.d (.raw (.int .i64 0)))]) []:=by
 refine fB Tryz.func124 rfl 56 fun w H B a h=>Jq 0 [] [(2,vp 0 0),(3,vp 1 0),(4,vp 2 0),(5,vp 3 0),(6,vI 0)] [(0,.box (zi x)),(1,.box (zi y)),(2,.box [.d (.raw (.bool false)),.d (nsl [])]),(3,.box [.d (.raw (.bool false)),.d (nsl [])])] h fun a w h=>?_
 obtain ⟨r1,er1,vr1,or1,lr1⟩:=mkZ (v:=x.val) (m:=x.abs.length) (zcp hx);obtain ⟨r2,er2,vr2,or2,lr2⟩:=mkZ (v:=y.val) (m:=y.abs.length) (zcp hy);refine Jg 4 [(1,.call (Fn.cast (SClean x hx (by omega)) (congrArg vz er1.symm))),(3,.call (Fn.cast (SClean y hy (by omega)) (congrArg vz er2.symm)))] [] [] [] [(0,.box (zi r1)),(1,.box (zi r2))] h fun a w h=>?_;obtain ⟨n3q,en3q,vn3q,on3q,ln3q⟩:=mkN (v:=nV r1.abs / nV r2.abs) (m:=r1.abs.length) (bU (cD _ _) (zas or1));obtain ⟨n3r,en3r,vn3r,on3r,ln3r⟩:=mkN (v:=nV r1.abs % nV r2.abs) (m:=r2.abs.length) (bX (bI _ (cC (by rw [ZI.val_abs,vr2];omega))) (zas or2));refine Je 4 [(4,.call (Fn.cast (SnDiv r1.abs r2.abs or1 or2 (by omega) (by omega) (by rw [ZI.val_abs,vr2];omega)) (show _=(.tup [.c (.d (nsl n3q)),.c (.d (nsl n3r)),.c (.d (.raw (.int .i64 0)))]:V) by rw [en3q,en3r];try rfl)))] [] [(7,vn n3q),(8,vn n3r)] h fun a w h=>qW (Je 4 [(1,.cmp (op:=.neq) (m:=0) (n:=0) (b:=false) .i64 rfl)] [] [(23,vb false)] h fun a w h=>zaw h (qU (za2 ?_)));obtain ⟨r4,er4,vr4,or4,lr4⟩:=mkZ (v:=iv (r1.neg != r2.neg) n3q) (m:=n3q.length) (zcl on3q);obtain ⟨r5,er5,vr5,or5,lr5⟩:=mkZ (v:=iv r1.neg n3r) (m:=n3r.length) (zcl on3r);refine Jg 4 [(6,.call (Fn.cast (zjv (r1.neg != r2.neg) n3q on3q (by omega)) (congrArg vz er4.symm))),(10,.call (Fn.cast (zjv r1.neg n3r on3r (by omega)) (congrArg vz er5.symm)))] [7,23] [] [] [(2,.box (zi r4)),(3,.box (zi r5))] h fun a w h=>qW ?_
 rcases bK (r1.neg != r2.neg) with hc1 | hc4
 ·refine Jg 4 [(4,.cmpb .neq (m:=r1.neg) (n:=r2.neg) (b:=true) (.inr ⟨rfl,hc1.symm⟩)),(7,.len (zey n3r))] [2,8] [(47,vb (decide ((n3r.length:Int)>0)))] [0] [] h fun a w h=>zae ((n3r.length:Int)>0) h (fun hc2 hc2'=>?_) (fun hc3 hc3'=>?_)
  ·obtain ⟨r6,er6,vr6,or6,lr6⟩:=mkZ (v:=1) (m:=2) (ZI.len_of (by have:=pw2;omega));obtain ⟨r7,er7,vr7,or7,lr7⟩:=mkZ (v:=r4.val - r6.val) (m:=r4.abs.length+r6.abs.length+1) (len_sub or4 or6);obtain ⟨r8,er8,vr8,or8,lr8⟩:=mkZ (v:=r5.val+r2.val) (m:=r5.abs.length+r2.abs.length+1) (zcz or5 or2);refine Jh 4 [(1,.call (Fn.cast (SOf 1 ⟨by omega,by omega⟩) (congrArg vz er6.symm))),(2,.call (Fn.cast (SSub r4 r6 or4 or6 (by omega) (by omega)) (congrArg vz er7.symm))),(5,.call (Fn.cast (SAdd r5 r2 or5 or2 (by omega) (by omega)) (congrArg vz er8.symm)))] [3,47] [] [1] [(2,.box (zi r7)),(3,.box (zi r8))] h fun a w h=>za2 (Je 4 [] [] [] h fun a w h=>qV (zds [.agg (zi r7),.agg (zi r8),.c (.d (.raw (.int .i64 0)))] h Exit.ret (.inl rfl)  rfl ⟨RV.agg _ 2 0 _ _ _ _ zdm rfl rfl rfl rfl,RV.agg _ 3 0 _ _ _ _ zdm rfl rfl rfl rfl,RV.tmp _ _ rfl,trivial⟩ ?_));have f1:r1.neg=decide (x.val<0):=by rw [er1];rfl
   have f2:r2.neg=decide (y.val<0):=by rw [er2];rfl
   have f3:nV n3q=x.val.natAbs / y.val.natAbs:=by rw [vn3q,ZI.val_abs,ZI.val_abs,vr1,vr2]
   have f4:nV n3r=x.val.natAbs % y.val.natAbs:=by rw [vn3r,ZI.val_abs,ZI.val_abs,vr1,vr2]
   have f5:nV n3r=0 ↔ n3r.length=0:=by rw [en3r];exact val_zero (zcu _)
   obtain ⟨e1,e2⟩:=fdiv_other h0 f1 f2 f3 f4 hc1 (fun h=>by have:=f5.1 h;omega);rw [er7,er8,vr4,vr5,vr6,vr2,e1,e2];try rfl
  refine qU (za2 (Jg 4 [] [3,47] [] [1] [] h fun a w h=>qV (zds [.agg (zi r4),.agg (zi r5),.c (.d (.raw (.int .i64 0)))] h Exit.ret (.inl rfl)  rfl ⟨RV.agg _ 2 0 _ _ _ _ zdm rfl rfl rfl rfl,RV.agg _ 3 0 _ _ _ _ zdm rfl rfl rfl rfl,RV.tmp _ _ rfl,trivial⟩ ?_)));have f1:r1.neg=decide (x.val<0):=by rw [er1];rfl
  have f2:r2.neg=decide (y.val<0):=by rw [er2];rfl
  have f3:nV n3q=x.val.natAbs / y.val.natAbs:=by rw [vn3q,ZI.val_abs,ZI.val_abs,vr1,vr2]
  have f4:nV n3r=x.val.natAbs % y.val.natAbs:=by rw [vn3r,ZI.val_abs,ZI.val_abs,vr1,vr2]
  have f5:nV n3r=0 ↔ n3r.length=0:=by rw [en3r];exact val_zero (zcu _)
  obtain ⟨e1,e2⟩:=fdiv_same h0 f1 f2 f3 f4 (fun _=>f5.2 (by omega));rw [er4,er5,e1,e2];try rfl
 refine Jg 4 [(4,.cmpb .neq (m:=r1.neg) (n:=r2.neg) (b:=false) (.inr ⟨rfl,hc4.symm⟩))] [2,8] [(47,vb false)] [0] [] h fun a w h=>zaw h (qU (za2 (Jg 4 [] [3,47] [] [1] [] h fun a w h=>qV (zds [.agg (zi r4),.agg (zi r5),.c (.d (.raw (.int .i64 0)))] h Exit.ret (.inl rfl)  rfl ⟨RV.agg _ 2 0 _ _ _ _ zdm rfl rfl rfl rfl,RV.agg _ 3 0 _ _ _ _ zdm rfl rfl rfl rfl,RV.tmp _ _ rfl,trivial⟩ ?_))));have f1:r1.neg=decide (x.val<0):=by rw [er1];rfl
 have f2:r2.neg=decide (y.val<0):=by rw [er2];rfl
 have f3:nV n3q=x.val.natAbs / y.val.natAbs:=by rw [vn3q,ZI.val_abs,ZI.val_abs,vr1,vr2]
 have f4:nV n3r=x.val.natAbs % y.val.natAbs:=by rw [vn3r,ZI.val_abs,ZI.val_abs,vr1,vr2]
 have f5:nV n3r=0 ↔ n3r.length=0:=by rw [en3r];exact val_zero (zcu _)
 obtain ⟨e1,e2⟩:=fdiv_same h0 f1 f2 f3 f4 (fun h=>by rw [hc4] at h;cases h);rw [er4,er5,e1,e2];try rfl
theorem SRDiv (x y:ZI) (hx:Lb x.abs) (hy:Lb y.abs) (lx:x.abs.length<=15000) (ly:y.abs.length<=15000) (h0:y.val≠0):Fn Tryz.prog 58 [] [vz x,vz y] (.tup [.agg (zi (ZI.of (x.val.fdiv y.val))),.agg (zi (ZI.of (x.val.fmod y.val))),.c (cI 0)]) []:=by
 have sm:=sgn_prod_range x.val y.val;refine fB Tryz.func58 rfl 53 fun w H B a h=>Jq 0 [] [(2,vp 0 0),(3,vp 1 0),(4,vp 2 0),(5,vp 3 0),(6,vI 0)] [(0,.box (zi x)),(1,.box (zi y)),(2,.box [cB false,.d (nsl [])]),(3,.box [cB false,.d (nsl [])])] h fun a w h=>?_
 obtain ⟨n1q,en1q,vn1q,on1q,ln1q⟩:=mkN (v:=nV x.abs / nV y.abs) (m:=x.abs.length) (bU (cD _ _) (zas hx));obtain ⟨n1r,en1r,vn1r,on1r,ln1r⟩:=mkN (v:=nV x.abs % nV y.abs) (m:=y.abs.length) (bX (bI _ (cC (by rw [ZI.val_abs];omega))) (zas hy));refine Je 4 [(4,.call (Fn.cast (SRnDiv x.abs y.abs hx hy (by omega) (by omega) (by rw [ZI.val_abs];omega)) (show _=(.tup [.c (.d (nsl n1q)),.c (.d (nsl n1r)),.c (cI 0)]:V) by rw [en1q,en1r];try rfl)))] [] [(7,vn n1q),(9,vI 0)] h fun a w h=>qW (Je 4 [(1,.cmp (op:=.neq) (m:=0) (n:=0) (b:=false) .i64 rfl)] [] [(22,vb false)] h fun a w h=>zaw h (qU (za2 ?_)));obtain ⟨r4,er4,vr4,or4,lr4⟩:=mkZ (v:=iv (decide ((sgn x.val*sgn y.val)<0)) n1q) (m:=n1q.length) (zcl on1q);refine Jg 4 [(1,.call (zc7 x hx (by omega))),(3,.call (zc7 y hy (by omega))),(4,.mul .i64 (m:=(sgn x.val)) (n:=(sgn y.val)) (i64_id (by have:=sgn_mul_range' x.val y.val;omega) (by have:=sgn_mul_range' x.val y.val;omega))),(7,.call (Fn.cast (zgh (decide ((sgn x.val*sgn y.val)<0)) n1q on1q (by omega)) (congrArg vz er4.symm)))] [7,9,22] [(10,vp 4 0)] [] [(4,.box (zi r4))] h fun a w h=>?_;obtain ⟨r5,er5,vr5,or5,lr5⟩:=mkZ (v:=r4.val*y.val) (m:=r4.abs.length+y.abs.length) (zg8 or4 hy);obtain ⟨r6,er6,vr6,or6,lr6⟩:=mkZ (v:=x.val - r5.val) (m:=x.abs.length+r5.abs.length+1) (len_sub hx or5);refine Jg 5 [(3,.call (Fn.cast (SRMul r4 y or4 hy (by omega) (by omega)) (congrArg vz er5.symm))),(4,.call (Fn.cast (SRSub x r5 hx or5 (by omega) (by omega)) (congrArg vz er6.symm)))] [2] [(11,vp 5 0)] [0] [(5,.box (zi r6))] h fun a w h=>qW (Je 6 [(1,.call (zc7 r6 or6 (by omega))),(3,.call (zc7 y hy (by omega))),(4,.mul .i64 (m:=(sgn r6.val)) (n:=(sgn y.val)) (i64_id (by have:=sgn_mul_range' r6.val y.val;omega) (by have:=sgn_mul_range' r6.val y.val;omega)))] [] [(44,vb (decide ((sgn r6.val*sgn y.val)<0)))] h fun a w h=>zae ((sgn r6.val*sgn y.val)<0) h (fun hc1 hc1'=>?_) (fun hc2 hc2'=>?_))
 ·obtain ⟨r9,er9,vr9,or9,lr9⟩:=mkZ (v:=1) (m:=2) (ZI.len_of (by have:=pw2;omega));obtain ⟨r10,er10,vr10,or10,lr10⟩:=mkZ (v:=r4.val - r9.val) (m:=r4.abs.length+r9.abs.length+1) (len_sub or4 or9);refine Jg 6 [(1,.call (Fn.cast (SROf 1 ⟨by omega,by omega⟩) (congrArg vz er9.symm))),(2,.call (Fn.cast (SRSub r4 r9 or4 or9 (by omega) (by omega)) (congrArg vz er10.symm)))] [44] [] [] [(4,.box (zi r10))] h fun a w h=>?_;obtain ⟨r11,er11,vr11,or11,lr11⟩:=mkZ (v:=r6.val+y.val) (m:=r6.abs.length+y.abs.length+1) (zcz or6 hy);refine Jh 6 [(2,.call (Fn.cast (SRAdd r6 y or6 hy (by omega) (by omega)) (congrArg vz er11.symm)))] [3] [] [1] [(5,.box (zi r11))] h fun a w h=>za2 (Jg 6 [] [10,11] [] [4,5] [(2,.box (zi r10)),(3,.box (zi r11))] h fun a w h=>qV (zds [.agg (zi r10),.agg (zi r11),.c (cI 0)] h Exit.ret (.inl rfl)  rfl ⟨RV.agg _ 2 0 _ _ _ _ zdm rfl rfl rfl rfl,RV.agg _ 3 0 _ _ _ _ zdm rfl rfl rfl rfl,RV.tmp _ _ rfl,trivial⟩ ?_));have f1:=(tdiv_leaf h0 (b:=decide (sgn x.val*sgn y.val<0)) rfl (zq:=n1q) (by rw [vn1q,ZI.val_abs,ZI.val_abs])).1;obtain ⟨e1,e2⟩:=rdiv_turn h0 f1 (by rw [<- vr4,<- vr5,<- vr6];exact hc1');rw [er10,er11,vr4,vr9,vr6,vr5,vr4,e1,e2];try rfl
 refine qU (za2 (Jg 6 [] [3,10,11,44] [] [1,4,5] [(2,.box (zi r4)),(3,.box (zi r6))] h fun a w h=>qV (zds [.agg (zi r4),.agg (zi r6),.c (cI 0)] h Exit.ret (.inl rfl)  rfl ⟨RV.agg _ 2 0 _ _ _ _ zdm rfl rfl rfl rfl,RV.agg _ 3 0 _ _ _ _ zdm rfl rfl rfl rfl,RV.tmp _ _ rfl,trivial⟩ ?_)));have f1:=(tdiv_leaf h0 (b:=decide (sgn x.val*sgn y.val<0)) rfl (zq:=n1q) (by rw [vn1q,ZI.val_abs,ZI.val_abs])).1;obtain ⟨e1,e2⟩:=rdiv_stay h0 f1 (by rw [<- vr4,<- vr5,<- vr6];exact hc2');rw [er4,er6,vr5,vr4,e2,e1];try rfl
theorem sgn_eq0 {z:Int}:sgn z=0 ↔ z=0:=by unfold sgn;split <;> (try split) <;> omega
theorem SExact (x y:ZI) (hx:Lb x.abs) (hy:Lb y.abs) (lx:x.abs.length<=15000) (ly:y.abs.length<=15000) (h0:y.val≠0) (hr:x.val.fmod y.val=0):Fn Tryz.prog 168 [] [vz x,vz y] (.tup [.agg (zi (ZI.of (x.val.fdiv y.val))),.c (cI 0)]) []:=by
 refine fB Tryz.func168 rfl 27 fun w H B a h=>Jq 0 [] [(2,vp 0 0),(3,vp 1 0),(4,vp 2 0),(5,vI 0)] [(0,.box (zi x)),(1,.box (zi y)),(2,.box [cB false,.d (nsl [])])] h fun a w h=>?_
 obtain ⟨r1q,er1q,vr1q,or1q,lr1q⟩:=mkZ (v:=x.val.fdiv y.val) (m:=x.abs.length) (zfp hx h0);obtain ⟨r1r,er1r,vr1r,or1r,lr1r⟩:=mkZ (v:=x.val.fmod y.val) (m:=y.abs.length) (zgv hy h0);refine Jg 3 [(2,.call (Fn.cast (SDiv x y hx hy (by omega) (by omega) h0) (show _=(.tup [.agg (zi r1q),.agg (zi r1r),.c (cI 0)]:V) by rw [er1q,er1r];try rfl)))] [2,3] [(6,vp 3 0),(7,vp 4 0),(8,vI 0)] [0,1] [(3,.box (zi r1q)),(4,.box (zi r1r))] h fun a w h=>qW (qZ (Je 5 [(1,.cmp (op:=.neq) (m:=0) (n:=0) (b:=false) .i64 rfl)] [] [(16,vb false)] h fun a w h=>zaw h (Jg 5 [(1,.call (Fn.cast (zjc r1r or1r (by omega)) (congrArg (vi .i64) (ze4 (by rw [vr1r];exact hr))))),(2,.cmp (op:=.neq) (m:=0) (n:=0) (b:=false) .i64 rfl)] [7,8,16] [(21,vb false)] [4] [] h fun a w h=>zaw h (qU (za7 (za2 (Jg 5 [] [6,21] [] [3] [(2,.box (zi r1q))] h fun a w h=>qV (zds [.agg (zi r1q),.c (cI 0)] h Exit.ret (.inl rfl)  rfl ⟨RV.agg _ 2 0 _ _ _ _ zdm rfl rfl rfl rfl,RV.tmp _ _ rfl,trivial⟩ ?_))))))));rw [er1q];try rfl
theorem tt_6:SlT Tryz.prog 52 28 2:=SlT.mk' Tryz.underlying52 (by kernel_rfl)
theorem STCoef (t:zaf) (v:Int) (ht:PsOk 40000 t.parts):Fn Tryz.prog 194 [] [(vT t),vI v] (vz (ZI.of (zaj t.parts v))) []:=by
 refine fB Tryz.func194 rfl 30 fun w H B a h=>Jq 0 [] [(1,vI v),(2,vp 0 0),(4,vp 1 0)] [(0,.box (zT t)),(1,.box [cB false,.d (nsl [])])] h fun a w h=>Jg 2 [] [] [(5,vp 2 0)] [] [(2,.box [cB false,.d (nsl [])])] h fun a w h=>qW (Jg 3 [(2,.len (za4 3 za3.d t.parts))] [2] [(10,(vPs t.parts)),(11,vN t.parts.length),(12,vI 0)] [0] [] h fun a w h=>qZ ?_)
 refine zbz (ι:=(Nat) × (ZI)) (fun (j,out)=>out=ZI.of (zaj (t.parts.take j) v)/\j<=t.parts.length)
   [] (fun (j,out)=>[(12,vN j)])
   [] (fun (j,out)=>[(2,.box (zi out))])
   (fun (j,out)=>t.parts.length - j) (0,(ZI.of 0)) ?_ h ?_
 ·exact ⟨by simp [zaj],bC _⟩
 clear h;rintro ⟨j,out⟩ a w hI h;dsimp only at h;obtain ⟨hI1,hI2⟩:=hI;have ln:=ht.1;have lo:out.abs.length<=40001:=by rw [hI1];exact ze7 (ht.take j) v
 have ho:Lb out.abs:=by rw [hI1];exact ZI.lb_of _
 have vo:out.val=zaj (t.parts.take j) v:=by rw [hI1];exact ZI.val_of _
 refine Je 3 [] [] [(13,vb (decide ((j:Int)<(t.parts.length:Int))))] h fun a w h=>qW (zae ((j:Int)<(t.parts.length:Int)) h (fun hc1 hc1'=>?_) (fun hc6 hc6'=>?_))
 ·refine qU (za2 (qW (qZ ?_)));obtain ⟨x1,hx1⟩:=gl t.parts j;obtain ⟨ox1,lx1⟩:=ht.get hx1;refine Jg 3 [(0,.g (xD 14 10 zc1 (za8 hx1 (f:=za3.d)) (OV.tmp 12 _)))] [13] [(7,vp 3 0)] [] [(3,.box ([cI x1.v]++zi x1.c))] h fun a w h=>?_
  rcases bK (x1.v == v) with hc2 | hc5
  ·refine Je 4 [(3,.cmp (op:=.eql) (m:=x1.v) (n:=v) (b:=true) .i64 hc2)] [] [(23,vb (decide (v>=0)))] h fun a w h=>zae (v>=0) h (fun hc3 hc3'=>?_) (fun hc4 hc4'=>?_)
   ·obtain ⟨r2,er2,vr2,or2,lr2⟩:=mkZ (v:=out.val+x1.c.val) (m:=out.abs.length+x1.c.abs.length+1) (zcz ho ox1);refine Jh 4 [(3,.call (Fn.cast (SAdd out x1.c ho ox1 (by omega) (by omega)) (congrArg vz er2.symm)))] [7,23] [] [3] [(2,.box (zi r2))] h fun a w h=>za7 (za2 (Jf 4 [(0,.j1 j)] [] [(12,vI ((j:Int)+1))] h fun a w h=>za2 (zaa (x:=(j,out)) (y:=(j+1,r2)) h ?_ ?_)))
    ·have hc:x1.v=v/\0<=v:=⟨by simpa using hc2,by have:=hc3';omega⟩;exact ⟨by rw [er2,vo,zea hx1,if_pos hc],by have:=(bS.1 hx1).1;omega⟩
    (try simp);omega
   refine qU (za7 (za2 (Jh 4 [(0,.j1 j)] [7,23] [(12,vI ((j:Int)+1))] [3] [] h fun a w h=>za2 (zaa (x:=(j,out)) (y:=(j+1,out)) h ?_ ?_))))
   ·exact ⟨by rw [hI1,zea hx1,if_neg (fun hc=>absurd hc.2 (by have:=hc4';omega)),Int.add_zero],by have:=(bS.1 hx1).1;omega⟩
   (try simp);omega
  refine Je 4 [(3,.cmp (op:=.eql) (m:=x1.v) (n:=v) (b:=false) .i64 hc5)] [] [(23,vb false)] h fun a w h=>zaw h (qU (za7 (za2 (Jh 4 [(0,.j1 j)] [7,23] [(12,vI ((j:Int)+1))] [3] [] h fun a w h=>za2 (zaa (x:=(j,out)) (y:=(j+1,out)) h ?_ ?_)))))
  ·exact ⟨by rw [hI1,zea hx1,if_neg (fun hc=>absurd hc.1 (by simpa using hc5)),Int.add_zero],by have:=(bS.1 hx1).1;omega⟩
  (try simp);omega
 refine exA (Jq 4 [] [(4,vp 1 0)] [(1,.box (zi out))] h fun a w h=>qV (rA 1 (zi out) h zdm rfl ?_));have hj:j=t.parts.length:=by have:=hc6';omega
 subst hj;rw [hI1,bV];try rfl
theorem SHas (t:zaf) (v:Int) {L:Nat} (ht:TOk n L t) (hn:n<=1000000000) (hL:L<=20000):Fn Tryz.prog 161 [] [(vT t),vI v] (vb (sgn (zaj t.parts v) != 0)) []:=by
 refine fB Tryz.func161 rfl 10 fun w H B a h=>Jq 0 [] [(1,vI v),(2,vp 0 0),(4,vb false)] [(0,.box (zT t))] h fun a w h=>?_
 obtain ⟨r1,er1,vr1,or1,lr1⟩:=mkZ (v:=zaj t.parts v) (m:=L+1) (ze7 (ht.mono hn (bF L)).psok v);refine Jq 1 [(2,.call (Fn.cast (STCoef t v (ht.mono hn (by omega)).psok) (congrArg vz er1.symm))),(3,.call (zjc r1 or1 (by omega)))] [(4,vb (sgn r1.val != 0))] [] h fun a w h=>qV (rT (.c (cB (sgn r1.val != 0))) h rfl ?_);rw [vr1];try rfl
def valAt (vs:List ZI) (v:Int):Int:=if 0<=v then ((vs[v.toNat]?).map ZI.val).getD 0 else 0
def valP (vs:List ZI):List za3->Int
  | []=>0
  | p :: ps=>p.c.val*valAt vs p.v+valP vs ps
theorem valAt_some {vs:List ZI} {v:Int} {k:Nat} (h:v=(k:Int)) (hy:vs[k]?=some y):valAt vs v=y.val:=by
 subst h
 unfold valAt
 rw [if_pos (by omega),dL,hy];rfl
theorem valAt_neg {vs:List ZI} {v:Int} (h:¬ v>=0):valAt vs v=0:=by unfold valAt;rw [if_neg (by omega)]
theorem valAt_out {vs:List ZI} {v:Int} (h:¬ v<(vs.length:Int)):valAt vs v=0:=by
 unfold valAt
 split
 ·rw [List.getElem?_eq_none (by omega)];rfl
 ·rfl
def valT (t:zaf) (vs:List ZI):Int:=t.k.val+valP vs t.parts
def VOk (M:Nat) (vs:List ZI):Prop:=vs.length<=2000/\∀ y ∈ vs,Lb y.abs/\y.abs.length<=M
theorem VOk.get {vs:List ZI} (h:VOk M vs) (hy:vs[j]?=some y):Lb y.abs/\y.abs.length<=M:=h.2 y (dB hy)
theorem valAt_lt {vs:List ZI} (h:VOk M vs) (v:Int):(valAt vs v).natAbs<pw M:=by
 unfold valAt
 split
 ·cases hy:vs[v.toNat]? with
  | none=>exact zeo M
  | some y =>
   obtain ⟨h1,h2⟩:=h.get hy
   have h3:=ZI.abs_lt h1
   have h4:=zda h2
   show y.val.natAbs<_
   omega
 ·exact zeo M
theorem valP_lt {L:Nat} {vs:List ZI} (hv:VOk M vs):∀ {ps:List za3}, (∀ p ∈ ps,Lb p.c.abs/\p.c.abs.length<=L)->(valP vs ps).natAbs<=ps.length*pw (L+M)
 | [],_=>by simp [valP]
 | p :: ps,h=>by
  have ih:=valP_lt hv (fun q hq=>h q (by simp [hq])) (ps:=ps)
  obtain ⟨h1,h2⟩:=h p (by simp)
  have h3:=b9 (ZI.abs_lt h1) (zda h2)
  have h4:(p.c.val*valAt vs p.v).natAbs<pw (L+M):=by
   rw [Int.natAbs_mul,zf7]
   exact Nat.mul_lt_mul'' h3 (valAt_lt hv p.v)
  simp only [valP,dC,Nat.add_mul]
  omega
theorem val_len {L:Nat} {vs:List ZI} (ht:TOk n L t) (hn:n<=1000000000) (hv:VOk M vs) (hp:∀ p ∈ ps,p ∈ t.parts) (hl:ps.length<=t.parts.length):(ZI.of (t.k.val+valP vs ps)).abs.length<=L+M+1:=by
 refine ZI.len_of ?_
 have h1:=valP_lt hv (fun p h=>ht.ps p (hp p h)) (L:=L)
 have h2:ps.length*pw (L+M)<=1000000000*pw (L+M):=Nat.mul_le_mul_right _ (by have:=ht.len;omega)
 have h3:=b9 (ZI.abs_lt ht.kb) (zda ht.kl)
 have h4:=zda (show L<=L+M by omega)
 rw [zal]
 omega
def zbm (ps:List za3):Int:=ps.foldl (fun g p=>(Nat.gcd g.natAbs p.c.val.natAbs:Int)) 0
theorem con_take {p:za3} (h:ps[j]?=some p):zbm (ps.take (j+1))=(Nat.gcd (zbm (ps.take j)).natAbs p.c.val.natAbs:Int):=by
 unfold zbm;rw [zbr h]
theorem con_nonneg (ps:List za3):0<=zbm ps:=by
 have key:∀ (ps:List za3) (g:Int),0<=g->0<=ps.foldl (fun g p=>(Nat.gcd g.natAbs p.c.val.natAbs:Int)) g:=by
  intro ps
  induction ps with
  | nil=>intro g h;exact h
  | cons p ps ih=>intro g h;exact ih _ (Int.natCast_nonneg _)
 exact key ps 0 (Int.le_refl 0)
theorem con_le {L:Nat} (h:∀ p ∈ ps,p.c.val.natAbs<pw L/\p.c.val≠0):(zbm ps).natAbs<pw L:=by
 have key:∀ (ps:List za3),(∀ p ∈ ps,p.c.val.natAbs<pw L/\p.c.val≠0)->∀ g:Int,g.natAbs<pw L->(ps.foldl (fun g p=>(Nat.gcd g.natAbs p.c.val.natAbs:Int)) g).natAbs<pw L:=by
  intro ps
  induction ps with
  | nil=>intro _ g h;exact h
  | cons p ps ih =>
   intro hp g h
   obtain ⟨h1,h2⟩:=hp p (by simp)
   refine ih (fun q hq=>hp q (by simp [hq])) _ ?_
   rw [cT]
   have:=Nat.le_of_dvd (by omega) (Nat.gcd_dvd_right g.natAbs p.c.val.natAbs)
   omega
 exact key ps h 0 (by simpa using zeo L)
theorem plain_lt {L:Nat} (ht:TOk n L t) (hn:n<=1000000000):∀ p ∈ (za1 t).parts,p.c.val.natAbs<pw (L+1)/\p.c.val≠0:=fun p hp=>by
 obtain ⟨h1,h2⟩:=(ht.plain hn).ps p hp
 exact ⟨b9 (ZI.abs_lt h1) (zda h2),((zb5 t).2.1 p hp).2.2⟩
theorem zhj {L:Nat} (ht:TOk n L t) (hn:n<=1000000000) (j:Nat):(ZI.of (zbm ((za1 t).parts.take j))).abs.length<=L+1 :=
 ZI.len_of (con_le fun p hp=>plain_lt ht hn p (d4 hp))
theorem SContent (t:zaf) {L:Nat} (ht:TOk n L t) (hn:n<=1000000000) (hL:L<=20000):Fn Tryz.prog 125 [] [(vT t)] (vz (ZI.of (zbm (za1 t).parts))) []:=by
 refine fB Tryz.func125 rfl 21 fun w H B a h=>Jq 0 [] [(1,vp 0 0),(2,vp 1 0)] [(0,.box (zT t)),(1,.box [cB false,.d (nsl [])])] h fun a w h=>Jg 2 [] [] [(3,vp 2 0)] [] [(2,.box [cB false,.d (nsl [])])] h fun a w h=>qW (Jg 3 [(1,.call (zdj t ht (by omega) (by omega))),(3,.len (za4 3 za3.d ((za1 t).parts)))] [1] [(9,(vPs (za1 t).parts)),(10,vI ((za1 t).parts.length:Int)),(11,vI 0)] [0] [] h fun a w h=>qZ ?_)
 refine zbz (ι:=(Nat) × (ZI)) (fun (j,out)=>out=ZI.of (zbm ((za1 t).parts.take j))/\j<=(za1 t).parts.length)
   [] (fun (j,out)=>[(11,vN j)])
   [] (fun (j,out)=>[(2,.box (zi out))])
   (fun (j,out)=>(za1 t).parts.length - j) (0,(ZI.of 0)) ?_ h ?_
 ·exact ⟨by simp [zbm],bC _⟩
 clear h;rintro ⟨j,out⟩ a w hI h;dsimp only at h;obtain ⟨hI1,hI2⟩:=hI;have lpp:=(ht.plain hn).len;have lvv:(zbn t.parts).length=(za1 t).parts.length:=(bE _).symm;have lo:out.abs.length<=L+1:=by rw [hI1];exact zhj ht hn j
 have ho:Lb out.abs:=by rw [hI1];exact ZI.lb_of _
 have vo:out.val=zbm ((za1 t).parts.take j):=by rw [hI1];exact ZI.val_of _
 refine Je 3 [] [] [(12,vb (decide ((j:Int)<((za1 t).parts.length:Int))))] h fun a w h=>qW (zae ((j:Int)<((za1 t).parts.length:Int)) h (fun hc1 hc1'=>?_) (fun hc2 hc2'=>?_))
 ·refine qU (za2 (qW (qZ ?_)));obtain ⟨x2,hx2⟩:=gl ((za1 t).parts) j;obtain ⟨ox2,lx2⟩:=(ht.plain hn).get hx2;refine Jg 3 [(0,.g (xD 13 9 zc1 (za8 hx2 (f:=za3.d)) (OV.tmp 11 _)))] [12] [(5,vp 3 0)] [] [(3,.box ([cI x2.v]++zi x2.c))] h fun a w h=>?_;obtain ⟨r3,er3,vr3,or3,lr3⟩:=mkZ (v:=(Nat.gcd out.val.natAbs x2.c.val.natAbs:Int)) (m:=out.abs.length+x2.c.abs.length) (len_gcd ho ox2);refine Jh 4 [(3,.call (Fn.cast (SGcd out x2.c ho ox2 (by omega) (by omega)) (congrArg vz er3.symm)))] [5] [] [3] [(2,.box (zi r3))] h fun a w h=>za7 (za2 (Jf 4 [(0,.j1 j)] [] [(11,vI ((j:Int)+1))] h fun a w h=>za2 (zaa (x:=(j,out)) (y:=((j+1),r3)) h ?_ ?_)))
  ·have:=zac hx2;exact ⟨by rw [er3,vo,con_take hx2],by omega⟩
  show (za1 t).parts.length - (j+1)<(za1 t).parts.length - j;have:=zac hx2;omega
 refine exA (Jq 4 [] [(2,vp 1 0)] [(1,.box (zi out))] h fun a w h=>qV (rA 1 (zi out) h zdm rfl ?_));have hj:j=(za1 t).parts.length:=by omega
 subst hj;rw [hI1,bV];try rfl
theorem SRContent (t:zaf) {L:Nat} (ht:TOk n L t) (hn:n<=1000000000) (hL:L<=20000):Fn Tryz.prog 57 [] [(vT t)] (vz (ZI.of (zbm (za1 t).parts))) []:=by
 refine fB Tryz.func57 rfl 24 fun w H B a h=>Jq 0 [] [(1,vp 0 0),(2,vp 1 0)] [(0,.box (zT t)),(1,.box [cB false,.d (nsl [])])] h fun a w h=>Jg 2 [] [] [(3,vp 2 0)] [] [(2,.box [cB false,.d (nsl [])])] h fun a w h=>Je 3 [(1,.call (SVars t (ht.mono hn (by omega)).psok))] [] [(4,(vIs (zbn t.parts)))] h fun a w h=>qW (Je 3 [] [] [(5,vI 0)] h fun a w h=>qZ ?_)
 refine zbz (ι:=(Nat) × (ZI)) (fun (j,out)=>out=ZI.of (zbm ((za1 t).parts.take j))/\j<=(za1 t).parts.length)
   [] (fun (j,out)=>[(5,vN j)])
   [] (fun (j,out)=>[(2,.box (zi out))])
   (fun (j,out)=>(za1 t).parts.length - j) (0,(ZI.of 0)) ?_ h ?_
 ·exact ⟨by simp [zbm],bC _⟩
 clear h;rintro ⟨j,out⟩ a w hI h;dsimp only at h;obtain ⟨hI1,hI2⟩:=hI;have lpp:=(ht.plain hn).len;have lvv:(zbn t.parts).length=(za1 t).parts.length:=(bE _).symm;have lo:out.abs.length<=L+1:=by rw [hI1];exact zhj ht hn j
 have ho:Lb out.abs:=by rw [hI1];exact ZI.lb_of _
 have vo:out.val=zbm ((za1 t).parts.take j):=by rw [hI1];exact ZI.val_of _
 refine qW (Je 3 [(2,.len (za4 1 zb4 (zbn t.parts)))] [] [(12,vb (decide ((j:Int)<((zbn t.parts).length:Int))))] h fun a w h=>zae ((j:Int)<((zbn t.parts).length:Int)) h (fun hc1 hc1'=>?_) (fun hc2 hc2'=>?_))
 ·refine qU (za2 (qW (qZ ?_)));obtain ⟨x2,hx2⟩:=gl (zbn t.parts) j;obtain ⟨r3,er3,vr3,or3,lr3⟩:=mkZ (v:=zaj t.parts x2) (m:=L+1) (ze7 (ht.mono hn (bF L)).psok x2);obtain ⟨r4,er4,vr4,or4,lr4⟩:=mkZ (v:=(Nat.gcd out.val.natAbs r3.val.natAbs:Int)) (m:=out.abs.length+r3.abs.length) (len_gcd ho or3);refine Jh 3 [(4,.g (xD 19 17 tb_1 (za8 hx2 (f:=zb4)) (OV.tmp 18 _))),(6,.call (Fn.cast (SCoef t x2 (ht.mono hn (by omega)).psok) (congrArg vz er3.symm))),(7,.call (Fn.cast (SRGcd out r3 ho or3 (by omega) (by omega)) (congrArg vz er4.symm)))] [12] [] [] [(2,.box (zi r4))] h fun a w h=>za7 (za2 (Jf 3 [(1,.j1 j)] [] [(5,vI ((j:Int)+1))] h fun a w h=>za2 ?_));have hp2:(za1 t).parts[j]?=some (zdb t.parts x2):=za8 (f:=zdb t.parts) hx2;refine zaa (x:=(j,out)) (y:=((j+1),r4)) h ?_ ?_
  ·have:=zac hp2;exact ⟨by rw [er4,vr3,vo,con_take hp2];first | done | (simp only [zdb,ZI.val_of]),by omega⟩
  show (za1 t).parts.length - (j+1)<(za1 t).parts.length - j;have:=zac hp2;omega
 refine exA (Jq 3 [] [(2,vp 1 0)] [(1,.box (zi out))] h fun a w h=>qV (rA 1 (zi out) h zdm rfl ?_));have hj:j=(za1 t).parts.length:=by omega
 subst hj;rw [hI1,bV];try rfl
def allN:Nat->(Nat->Bool)->Bool
  | 0,_=>true
  | n+1,p=>allN n p && p n
theorem allN_iff {p:Nat->Bool}:∀ {n:Nat}, allN n p=true ↔ ∀ i,i<n->p i=true
 | 0=>by simp [allN]
 | n+1=>by
  rw [allN,dD,allN_iff]
  exact ⟨fun h i hi=>(Nat.lt_succ_iff_lt_or_eq.1 hi).elim (h.1 i) fun e=>e ▸ h.2,fun h=>⟨fun i hi=>h i (by omega),h n (by omega)⟩⟩
theorem allN_step {p:Nat->Bool} (h:allN j p=true) (hp:p j=true):allN (j+1) p=true:=by rw [allN,h,hp];rfl
theorem allN_fail {p:Nat->Bool} (hj:j<n) (hp:p j=false):allN n p=false:=by
 cases h:allN n p with
 | false=>rfl
 | true=>rw [allN_iff.1 h j hj] at hp;cases hp
def zd8 {α:Type} (pr:α->Bool):List α->Nat->Int
  | [],_=>-1
  | p :: ps,n=>if pr p=true then n else zd8 pr ps (n+1)
theorem zf0 {pr:α->Bool} {xs:List α} {p:α} (h:xs[j]?=some p):zd8 pr (xs.drop j) j=if pr p=true then (j:Int) else zd8 pr (xs.drop (j+1)) (j+1):=by
 obtain ⟨hj,rfl⟩:=bS.1 h
 rw [b7 hj];rfl
theorem zj1 (pr:α->Bool):∀ (xs:List α) (n:Nat),(zd8 pr xs n=-1/\∀ x ∈ xs,pr x=false)\/∃ k x,zd8 pr xs n=((n+k:Nat):Int)/\xs[k]?=some x/\pr x=true/\∀ y ∈ xs.take k,pr y=false
 | [],n => .inl ⟨rfl,fun x hx=>(by cases hx)⟩
 | p :: ps,n=>by
  cases hp:pr p with
  | true=>exact .inr ⟨0,p,by simp [zd8,hp],rfl,hp,fun y hy=>by simp at hy⟩
  | false =>
   rcases zj1 pr ps (n+1) with ⟨h1,h2⟩ | ⟨k,x,h1,h2,h3,h4⟩
   ·exact .inl ⟨by simp [zd8,hp,h1],fun x hx=>(cN.1 hx).elim (fun e=>e ▸ hp) (h2 x)⟩
   ·exact .inr ⟨k+1,x,by simp only [zd8,hp,Bool.false_eq_true,if_false,h1];omega,h2,h3,fun y hy=>by rw [List.take_succ_cons] at hy;exact (cN.1 hy).elim (fun e=>e ▸ hp) (h4 y)⟩
theorem idxB_any (pr:α->Bool) (xs:List α):decide (zd8 pr xs 0>=0)=xs.any pr:=by
 rcases zj1 pr xs 0 with ⟨h1,h2⟩ | ⟨k,x,h1,h2,h3,_⟩
 ·rw [h1]
  cases h:xs.any pr with
  | false=>rfl
  | true=>obtain ⟨x,hx,hp⟩:=dU.1 h;rw [h2 x hx] at hp;cases hp
 ·rw [h1,decide_eq_true (by omega)]
  exact (dU.2 ⟨x,dB h2,h3⟩).symm
structure za6 where
  t:zaf
  eq:Bool
def za6.d (x:za6):List D:=[.sl 3 (x.t.parts.map za3.d),.raw (.bool x.t.k.neg),nsl x.t.k.abs,.raw (.bool x.eq)]
inductive za0 where
  | mk (kind:Int) (r:za6) (kids:List za0)
def za0.kind:za0->Int | ⟨k,_,_⟩=>k
def za0.r:za0->za6 | ⟨_,r,_⟩=>r
def za0.kids:za0->List za0 | ⟨_,_,ks⟩=>ks
theorem za0.ind {P:za0->Prop} (h:∀ k r ks,(∀ g ∈ ks,P g)->P ⟨k,r,ks⟩) (f:za0):P f :=
 za0.rec (motive_1:=P) (motive_2:=fun ks=>∀ g ∈ ks,P g) h (fun g hg=>(by cases hg)) (fun a l ha has g hg=>(cN.1 hg).elim (fun e=>e ▸ ha) (has g)) f
def za0.fold {α:Type} (g:Int->za6->List za0->List α->α):za0->α
  | ⟨k,r,ks⟩=>g k r ks (ks.attach.map fun x=>za0.fold g x.1)
  termination_by f=>SizeOf.sizeOf f
  decreasing_by have:=List.sizeOf_lt_of_mem x.2;simp;omega
theorem za0.fold_mk (g:Int->za6->List za0->List α->α) (k:Int) (r:za6) (ks:List za0):za0.fold g ⟨k,r,ks⟩=g k r ks (ks.map (za0.fold g)):=by
 rw [za0.fold,List.attach_map_val]
theorem za0.fold_eq (g:Int->za6->List za0->List α->α) (f:za0):za0.fold g f=g f.kind f.r f.kids (f.kids.map (za0.fold g)):=by cases f;exact za0.fold_mk g _ _ _
def za0.d (f:za0):List D:=f.fold fun k r _ ds=>[.raw (.int .i64 k),.sl 3 (r.t.parts.map za3.d),.raw (.bool r.t.k.neg),nsl r.t.k.abs,.raw (.bool r.eq),.sl 6 ds]
theorem za0.d_eq (f:za0):f.d=[.raw (.int .i64 f.kind),.sl 3 (f.r.t.parts.map za3.d),.raw (.bool f.r.t.k.neg),nsl f.r.t.k.abs,.raw (.bool f.r.eq),.sl 6 (f.kids.map za0.d)]:=za0.fold_eq _ f
theorem za0.d_len (f:za0):f.d.length=6:=by rw [za0.d_eq];rfl
def rawD (x:D):List D:=[x]
structure zao where
  is_:Bool
  lo:ZI
  hi:ZI
def zao.d (x:zao):List D:=[.raw (.bool x.is_),.raw (.bool x.lo.neg),nsl x.lo.abs,.raw (.bool x.hi.neg),nsl x.hi.abs]
structure zap where
  v:Int
  any:Bool
  t:zaf
def zap.d (x:zap):List D:=[.raw (.int .i64 x.v),.raw (.bool x.any),.sl 3 (x.t.parts.map za3.d),.raw (.bool x.t.k.neg),nsl x.t.k.abs]
structure zbe where
  proc:Int
  from_:Int
  to_:Int
  guard:za0
  moves:List zap
def zbe.d (x:zbe):List D:=[.raw (.int .i64 x.proc),.raw (.int .i64 x.from_),.raw (.int .i64 x.to_),.raw (.int .i64 x.guard.kind),.sl 3 (x.guard.r.t.parts.map za3.d),.raw (.bool x.guard.r.t.k.neg),nsl x.guard.r.t.k.abs,.raw (.bool x.guard.r.eq),.sl 6 (x.guard.kids.map za0.d),.sl 5 (x.moves.map zap.d)]
structure zbv where
  name:ByteArray
  locs:List ByteArray
  cmds:D
def zbv.d (x:zbv):List D:=[.raw (.string x.name),.sl 1 (x.locs.map zew),x.cmds]
structure zb3 where
  vars:List ByteArray
  bounds:List zao
  init:za0
  procs:List zbv
  acts:List zbe
def zb3.d (x:zb3):List D:=[.sl 1 (x.vars.map zew),.sl 5 (x.bounds.map zao.d),.raw (.int .i64 x.init.kind),.sl 3 (x.init.r.t.parts.map za3.d),.raw (.bool x.init.r.t.k.neg),nsl x.init.r.t.k.abs,.raw (.bool x.init.r.eq),.sl 6 (x.init.kids.map za0.d),.sl 3 (x.procs.map zbv.d),.sl 10 (x.acts.map zbe.d)]
structure StD where
  locs:List Int
  vals:List ZI
def StD.d (x:StD):List D:=[.sl 1 (x.locs.map zb4),.sl 2 (x.vals.map ziD)]
structure RunD where
  stem:List StD
  cycle:List StD
  acts:List Int
def RunD.d (x:RunD):List D:=[.sl 2 (x.stem.map StD.d),.sl 2 (x.cycle.map StD.d),.sl 1 (x.acts.map zb4)]
structure PropD where
  at_:Bool
  proc:Int
  loc:Int
  f:za0
def PropD.d (x:PropD):List D:=[.raw (.bool x.at_),.raw (.int .i64 x.proc),.raw (.int .i64 x.loc),.raw (.int .i64 x.f.kind),.sl 3 (x.f.r.t.parts.map za3.d),.raw (.bool x.f.r.t.k.neg),nsl x.f.r.t.k.abs,.raw (.bool x.f.r.eq),.sl 6 (x.f.kids.map za0.d)]
structure WordD where
  stem:List (List Bool)
  cycle:List (List Bool)
def WordD.d (x:WordD):List D:=[.sl 1 (x.stem.map (slD 1 zdz)),.sl 1 (x.cycle.map (slD 1 zdz))]
abbrev zfu (s:zb3):List C:=([.d (.sl 1 (s.vars.map zew)),.d (.sl 5 (s.bounds.map zao.d)),.d (.raw (.int .i64 s.init.kind)),.d (.sl 3 (s.init.r.t.parts.map za3.d))]++zi s.init.r.t.k++[.d (.raw (.bool s.init.r.eq)),.d (.sl 6 (s.init.kids.map za0.d)),.d (.sl 3 (s.procs.map zbv.d)),.d (.sl 10 (s.acts.map zbe.d))])
abbrev acC (x:zbe):List C:=[.d (.raw (.int .i64 x.proc)),.d (.raw (.int .i64 x.from_)),.d (.raw (.int .i64 x.to_)),.d (.raw (.int .i64 x.guard.kind)),.d (.sl 3 (x.guard.r.t.parts.map za3.d))]++zi x.guard.r.t.k++[.d (.raw (.bool x.guard.r.eq)),.d (.sl 6 (x.guard.kids.map za0.d)),.d (.sl 5 (x.moves.map zap.d))]
abbrev zF (x:za0):List C:=[.d (.raw (.int .i64 x.kind)),.d (.sl 3 (x.r.t.parts.map za3.d))]++zi x.r.t.k++[.d (.raw (.bool x.r.eq)),.d (.sl 6 (x.kids.map za0.d))]
abbrev zR_ (x:za6):List C:=[.d (.sl 3 (x.t.parts.map za3.d))]++zi x.t.k++[.d (.raw (.bool x.eq))]
abbrev vF (x:za0):V:=.t (.agg (zF x))
abbrev vR (x:za6):V:=.t (.agg (zR_ x))
abbrev vFs (x:List za0):V:=.t (.c (.d (.sl 6 (x.map za0.d))))
abbrev vRs (x:List za6):V:=.t (.c (.d (.sl 4 (x.map za6.d))))
abbrev cFs (x:List za0):C:=.d (.sl 6 (x.map za0.d))
abbrev cRs (x:List za6):C:=.d (.sl 4 (x.map za6.d))
theorem zfx:SlT Tryz.prog 33 35 6:=SlT.mk' Tryz.underlying33 (by kernel_rfl)
theorem kb_1:ElZ Tryz.prog 33 35 6:=ElZ.mk' Tryz.underlying33 _ _ rfl rfl (by kernel_rfl) (by kernel_rfl) (by kernel_rfl) (by decide)
section
variable {P:Program}
theorem TyOk.fnc {t:TypeId} {z:C} {dd:TypeDesc} (hu:P.underlying t=some dd) (ha:(match dd with | .struct _ | .array _ _=>true | _=>false)=false) (hs:(P.info? t).map (·.size)=some 1) (hz:Zero P t [z]):TyOk P t ⟨1,false,[],[z],4⟩ :=
 ⟨Sz.mk' hs hu _ ha.symm,fun k off n ag h=>(by simp at h),fun _=>hz,fun h=>absurd rfl h,fun h=>(by cases h),fun h=>(by cases h),fun h=>(by cases h),fun k h=>(by cases h)⟩
theorem Op.makeFs {d:Nat} {fn:Go.Fn} (ts:List (Nat × Nat × Nat)) {pos af gd} :
  zba P ⟨some d,.makeFunc fn #[] ⟨ts.map fun p => .tmp p.1⟩,ty,pos,af,gd⟩ { rs:=ts.map fun p=>(p.1,vp p.2.1 p.2.2),ws:=[(d,some (.t (.c (.fn fn [] (ts.map fun p=>A.ptr p.2.1 p.2.2)))))] } :=
 zba.value d _ rfl rfl rfl fun e f H B a w hok hr=>by
  refine ⟨.func fn #[] ⟨ts.map fun p=>a.eval (.tmp p.1)⟩,?_,[],ts.map fun p=>a.eval (.tmp p.1),rfl,trivial,?_⟩
  ·simp [execOp,Instr.makeFunc,Function.comp_def]
  ·have h1:∀ p ∈ ts,AR H B (.ptr p.2.1 p.2.2) (a.eval (.tmp p.1)):=fun p hp=>hok.slot p.1 _ (hr.1 (p.1,vp p.2.1 p.2.2) (bL.2 ⟨p,hp,rfl⟩))
   clear hr
   induction ts with
   | nil=>trivial
   | cons p ts ih=>exact ⟨h1 p (by simp),ih fun q hq=>h1 q (by simp [hq])⟩
end
theorem all_take {q:α->Bool} {xs:List α} {x:α} (h:xs[j]?=some x):(xs.take (j+1)).all q=((xs.take j).all q && q x):=by
 have e:xs.take (j+1)=xs.take j++[x]:=by rw [cJ,h];rfl
 rw [e,List.all_append];simp
theorem ze8 {q:α->Bool} {xs:List α} {x:α} (h:xs[j]?=some x) (h1:(xs.take j).all q=true) (h2:q x=true):(xs.take (j+1)).all q=true:=by rw [all_take h,h1,h2];rfl
theorem zc9 {q:α->Bool} {xs:List α} {x:α} (h:xs[j]?=some x) (h2:q x=false):xs.all q=false:=by
 cases h3:xs.all q with
 | false=>rfl
 | true=>rw [dE.1 h3 x (dB h)] at h2;cases h2
theorem ze2 {q:α->Bool} {xs:List α} (hj:¬ (j:Int)<(xs.length:Int)) (h1:(xs.take j).all q=true):xs.all q=true:=by rwa [cU (by omega)] at h1
theorem any_step {q:α->Bool} {xs:List α} {x:α} (h:xs[j]?=some x) (h1:(xs.take j).any q=false) (h2:q x=false):(xs.take (j+1)).any q=false:=by
 have e:xs.take (j+1)=xs.take j++[x]:=by rw [cJ,h];rfl
 rw [e,List.any_append,h1];simp [h2]
theorem any_stop {q:α->Bool} {xs:List α} {x:α} (h:xs[j]?=some x) (h2:q x=true):xs.any q=true:=dU.2 ⟨x,dB h,h2⟩
theorem any_end {q:α->Bool} {xs:List α} (hj:¬ (j:Int)<(xs.length:Int)) (h1:(xs.take j).any q=false):xs.any q=false:=by rwa [cU (by omega)] at h1
def cnt {α:Type} (k:Int) (xs:List α):List α:=if k=4\/k=5 then xs else if k=3 then xs.take 1 else []
theorem zdf {β:Type} (g:α->β) (k:Int) (xs:List α):cnt k (xs.map g)=(cnt k xs).map g:=by unfold cnt;split;rfl;split;rw [dV];rfl
theorem zbw {xs:List α} {x:α} (h:x ∈ cnt k xs):x ∈ xs:=by
 unfold cnt at h
 split at h
 ·exact h
 ·split at h
  ·exact d4 h
  ·cases h
theorem cnt_len (k:Int) (xs:List α):(cnt k xs).length<=xs.length:=by
 unfold cnt;split;exact bF _;split;rw [cV];omega;exact bC _
def zd1 (lim:Int):List (Int->Int)->Int->Int
  | [],n=>n
  | s :: ss,n=>if n<=lim then zd1 lim ss (n+s (lim - n)) else n
def za0.size (f:za0):Int->Int:=f.fold fun k _ _ ss lim=>zd1 lim (cnt k ss) 1
theorem za0.size_eq (f:za0) (lim:Int):f.size lim=zd1 lim ((cnt f.kind f.kids).map za0.size) 1:=by
 have:=congrFun (za0.fold_eq (fun k _ _ (ss:List (Int->Int)) lim=>zd1 lim (cnt k ss) 1) f) lim
 rw [zdf] at this;exact this
theorem sizeGo_bd {lim:Int}:∀ (ss:List (Int->Int)) (n:Int),(∀ s ∈ ss,∀ l,0<=l->1<=s l/\s l<=l+1)->1<=n->n<=lim+1->1<=zd1 lim ss n/\zd1 lim ss n<=lim+1
 | [],n,_,h1,h2=>⟨h1,h2⟩
 | s :: ss,n,h,h1,h2=>by
  unfold zd1
  split
  ·rename_i hn
   have:=h s (by simp) (lim - n) (by omega)
   exact sizeGo_bd ss _ (fun t ht=>h t (by simp [ht])) (by omega) (by omega)
  ·exact ⟨h1,h2⟩
theorem za0.size_bd (f:za0):∀ lim:Int,0<=lim->1<=f.size lim/\f.size lim<=lim+1 :=
 za0.ind (P:=fun f=>∀ lim:Int,0<=lim->1<=f.size lim/\f.size lim<=lim+1) (fun k r ks ih lim hl=>by
  rw [za0.size_eq]
  refine sizeGo_bd _ _ (fun s hs=>?_) (by omega) (by omega)
  obtain ⟨g,hg,rfl⟩:=bL.1 hs
  exact ih g (zbw hg)) f
theorem sizeGo_at {lim n:Int} {ss:List (Int->Int)} {s:Int->Int} (h:ss[j]?=some s) (hn:n<=lim):zd1 lim (ss.drop j) n=zd1 lim (ss.drop (j+1)) (n+s (lim - n)):=by
 obtain ⟨hj,rfl⟩:=bS.1 h
 rw [b7 hj,zd1,if_pos hn]
theorem sizeGo_out {lim n:Int} {ss:List (Int->Int)} (h:¬ n<=lim\/ss=[]):zd1 lim ss n=n:=by
 cases ss with
 | nil=>rfl
 | cons s ss=>rw [zd1,if_neg (h.resolve_right (by simp))]
def fewR (L:Int) (r:za6):Bool:=decide ((r.t.parts.length:Int)<=20) && decide ((r.t.k.abs.length:Int)<=L) && r.t.parts.all fun p=>decide ((p.c.abs.length:Int)<=L)
def za0.few (L:Int) (f:za0):Bool:=f.fold fun k r _ bs=>(!(k == 2) || fewR L r) && (cnt k bs).all id
theorem za0.few_eq (L:Int) (f:za0):f.few L=((!(f.kind == 2) || fewR L f.r) && (cnt f.kind f.kids).all (za0.few L)):=by
 have:=za0.fold_eq (fun k r _ (bs:List Bool)=>(!(k == 2) || fewR L r) && (cnt k bs).all id) f
 rw [zdf,List.all_map] at this;exact this
def zke (f:za0) (most L:Int):Bool:=!decide (f.size most>most) && f.few L
def relOk (vs:List ZI) (r:za6):Bool:=if r.eq=true then sgn (valT r.t vs) == 0 else decide (sgn (valT r.t vs)>=0)
def za0.holds (vs:List ZI) (f:za0):Bool:=f.fold fun k r _ bs=>if k=0 then true else if k=2 then relOk vs r else if k=3 then (match bs with | []=>false | b :: _=>!b) else if k=4 then bs.all id else if k=5 then bs.any id else false
theorem za0.holds_eq (vs:List ZI) (f:za0):f.holds vs=if f.kind=0 then true else if f.kind=2 then relOk vs f.r else if f.kind=3 then (match f.kids with | []=>false | g :: _=>!g.holds vs) else if f.kind=4 then f.kids.all (za0.holds vs) else if f.kind=5 then f.kids.any (za0.holds vs) else false:=by
 have:=za0.fold_eq (fun k r _ (bs:List Bool)=>if k=0 then true else if k=2 then relOk vs r else if k=3 then (match bs with | []=>false | b :: _=>!b) else if k=4 then bs.all id else if k=5 then bs.any id else false) f
 rw [List.all_map,List.any_map] at this
 refine this.trans ?_
 cases f.kids <;> rfl
def TokR (L:Nat) (r:za6):Prop:=TOk 20 L r.t
def za0.ok (L:Nat) (f:za0):Prop:=f.fold fun k r _ ps=>(k=2->TokR L r)/\∀ p ∈ cnt k ps,p
theorem za0.ok_eq (L:Nat) (f:za0):f.ok L ↔ (f.kind=2->TokR L f.r)/\∀ g ∈ cnt f.kind f.kids,g.ok L:=by
 have:=za0.fold_eq (fun k r _ (ps:List Prop)=>(k=2->TokR L r)/\∀ p ∈ cnt k ps,p) f
 rw [zdf] at this
 unfold za0.ok
 rw [this]
 refine and_congr_right fun _=>⟨fun h g hg=>h _ (bL.2 ⟨g,hg,rfl⟩),fun h p hp=>?_⟩
 obtain ⟨g,hg,rfl⟩:=bL.1 hp
 exact h g hg
def za0.lb (f:za0):Prop:=f.fold fun _ r ks ps=>(TLb r.t/\ks.length<=9223372036854775807)/\∀ p ∈ ps,p
theorem za0.lb_eq (f:za0):f.lb ↔ (TLb f.r.t/\f.kids.length<=9223372036854775807)/\∀ g ∈ f.kids,g.lb:=by
 have:=za0.fold_eq (fun _ r ks (ps:List Prop)=>(TLb r.t/\ks.length<=9223372036854775807)/\∀ p ∈ ps,p) f
 unfold za0.lb
 rw [this]
 refine and_congr_right fun _=>⟨fun h g hg=>h _ (bL.2 ⟨g,hg,rfl⟩),fun h p hp=>?_⟩
 obtain ⟨g,hg,rfl⟩:=bL.1 hp
 exact h g hg
theorem fewR_ok {L:Nat} {r:za6} (h:fewR L r=true) (hl:TLb r.t):TokR L r:=by
 simp only [fewR,dD,decide_eq_true_eq,dE] at h
 exact ⟨by omega,fun p hp=>⟨hl.2 p hp,by have:=h.2 p hp;omega⟩,hl.1,by omega⟩
theorem za0.few_ok {L:Nat} (f:za0):f.few L=true->f.lb->f.ok L :=
 za0.ind (P:=fun f=>f.few L=true->f.lb->f.ok L) (fun k r ks ih h hl=>by
  rw [za0.few_eq,dD] at h
  rw [za0.lb_eq] at hl
  rw [za0.ok_eq]
  refine ⟨fun hk=>fewR_ok (by have:=h.1;rw [show ((za0.mk k r ks).kind == 2)=true from by rw [hk];rfl] at this;simpa using this) hl.1.1,fun g hg=>ih g (zbw hg) (dE.1 h.2 g hg) (hl.2 g (zbw hg))⟩) f
theorem SKids (f:za0) :Fn Tryz.prog 66 [] [(vF f)] (vFs (cnt f.kind f.kids)) []:=by
 refine fB Tryz.func66 rfl 26 fun w H B a h=>Jq 0 [] [(1,vp 0 0),(2,vW zai)] [(0,.box (zF f))] h fun a w h=>qW ?_
 rcases bK (f.kind == 4) with hc1 | hc2
 ·refine Je 1 [(2,.cmp (op:=.eql) (m:=f.kind) (n:=4) (b:=true) .i64 hc1)] [] [(10,vb true)] h fun a w h=>cS true h (fun _=>?_) nofun
  refine Je 1 [] [10] [(2,(vFs f.kids))] h fun a w h=>qV (za5 (rT (.c (cFs f.kids)) h rfl ?_));have p4: f.kind=4:=by have:=hc1;simpa using this
  have hz:(cnt f.kind f.kids)=f.kids:=by unfold cnt;rw [if_pos (by omega)]
  rw [hz];try rfl
 refine Je 1 [(2,.cmp (op:=.eql) (m:=f.kind) (n:=4) (b:=false) .i64 hc2)] [] [(10,vb (f.kind == 5))] h fun a w h=>cS (f.kind == 5) h (fun hc3=>?_) (fun hc4=>?_)
 ·refine Je 1 [] [10] [(2,(vFs f.kids))] h fun a w h=>qV (za5 (rT (.c (cFs f.kids)) h rfl ?_));have p4:¬ f.kind=4:=by have:=hc2;simpa using this
  have p5: f.kind=5:=by have:=hc3;simpa using this
  have hz:(cnt f.kind f.kids)=f.kids:=by unfold cnt;rw [if_pos (by omega)]
  rw [hz];try rfl
 refine qU (za2 (qW ?_))
 rcases bK (f.kind == 3) with hc5 | hc8
 ·refine Je 1 [(2,.cmp (op:=.eql) (m:=f.kind) (n:=3) (b:=true) .i64 hc5),(6,.len (za4 6 za0.d f.kids))] [10] [(21,vb (decide ((f.kids.length:Int)>0)))] h fun a w h=>zae ((f.kids.length:Int)>0) h (fun hc6 hc6'=>?_) (fun hc7 hc7'=>?_)
  ·refine Jq 1 [(2,.g (Op.sliceD (d:=24) (t:=23) (l:=0) (h:=1) (rows:=f.kids.map za0.d) (rows':=(f.kids.take 1).map za0.d) zfx (BO.no _) (BO.yes _ (OV.const (.int .i64 1) rfl)) (by first | omega | (simp at *;omega)) (by first | omega | (simp only [bE];omega) | (simp at *;omega)) (by simp [dV])))] [(2,(vFs (f.kids.take 1)))] [] h fun a w h=>qV (za5 (rT (.c (cFs (f.kids.take 1))) h rfl ?_));have p4:¬ f.kind=4:=by have:=hc2;simpa using this
   have p5:¬ f.kind=5:=by have:=hc4;simpa using this
   have p3: f.kind=3:=by have:=hc5;simpa using this
   have hz:(cnt f.kind f.kids)=(f.kids.take 1):=by unfold cnt;rw [if_neg (by omega),if_pos (by omega)]
   rw [hz];try rfl
  refine qU (za2 (Jq 1 [(0,.g (Op.buildED (d:=25) kb_1))] [(2,(vFs []))] [] h fun a w h=>qV (rT (.c (cFs [])) h rfl ?_)));have p4:¬ f.kind=4:=by have:=hc2;simpa using this
  have p5:¬ f.kind=5:=by have:=hc4;simpa using this
  have p3: f.kind=3:=by have:=hc5;simpa using this
  have hz:(cnt f.kind f.kids)=[]:=by unfold cnt;rw [if_neg (by omega),if_pos (by omega),bW.1 (show f.kids.length=0 by have:=dF hc7;omega)];rfl
  rw [hz];try rfl
 refine Je 1 [(2,.cmp (op:=.eql) (m:=f.kind) (n:=3) (b:=false) .i64 hc8)] [10] [(21,vb false)] h fun a w h=>zaw h (qU (za2 (Jq 1 [(0,.g (Op.buildED (d:=25) kb_1))] [(2,(vFs []))] [] h fun a w h=>qV (rT (.c (cFs [])) h rfl ?_))));have p4:¬ f.kind=4:=by have:=hc2;simpa using this
 have p5:¬ f.kind=5:=by have:=hc4;simpa using this
 have p3:¬ f.kind=3:=by have:=hc8;simpa using this
 have hz:(cnt f.kind f.kids)=[]:=by unfold cnt;rw [if_neg (by omega),if_neg (by omega)]
 rw [hz];try rfl
section
variable {w0:World} {H0:Im} {B0:Bl} {K:List Nat} {N:Nat} {sl:List (Nat × V)} {lc:List (Nat × L)} {a:Act} {w:World}
def keepK (K:List Nat) (n:Nat) (lc:List (Nat × L)):Bool:=K.all fun k=>!Nat.beq k n && (lc.lookup k).isSome
theorem pubSK (n es:Nat) (ty:TypeId) (rows:List (List D)) (sl':List (Nat × V)) (lc':List (Nat × L)) (h:St ⟨w0,H0,B0,K,N⟩ (F.of sl lc) a w) (hl:lc.lookup n=some (.row ty es rows)) (hk:keepK K n lc=true)
  (h1:zem rows.length (sl.flatMap (·.2.owns n))) (h2:zem rows.length (lc.flatMap (·.2.owns n))) (h3:leS ((F.of sl lc).pub n es rows) sl'=sl'.map fun p=>some p.2:=by kernel_rfl) (h4:leN ((F.of sl lc).pub n es rows) lc'=lc'.map fun p=>some p.2:=by kernel_rfl) :
  St ⟨w0,H0,B0,K,N⟩ (F.of sl' lc') a w :=
 (h.pubK n es ty rows hl (fun k hk2=>by
  have:=dE.1 hk k hk2
  simp only [dD,Bool.not_eq_true'] at this
  refine And.intro (fun e=>?_) ?_
  ·rw [e,Nat.beq_refl] at this
   exact absurd this.1 (by decide)
  ·exact Option.isSome_iff_exists.1 this.2) (fun t v hv k hk=>zem.mem h1 k (List.mem_flatMap.2 ⟨(t,v),ofS_mem hv,hk⟩)) (fun m l hm k hk=>zem.mem h2 k (List.mem_flatMap.2 ⟨(m,l),ofL_mem hm,hk⟩))).weaken (zi5 h3 h4)
theorem pubKX (n es:Nat) (ty:TypeId) (rows:List (List D)) (h:St ⟨w0,H0,B0,K,N⟩ (F.of sl lc) a w) (ks:List Nat) (h1:zem rows.length ks) (h2:sl.flatMap (·.2.owns n)++lc.flatMap (·.2.owns n)=ks:=by kernel_rfl) (hl:lc.lookup n=some (.row ty es rows):=by kernel_rfl) (hk:keepK K n lc=true:=by kernel_rfl) (h3:leS ((F.of sl lc).pub n es rows) (sl.map fun p=>(p.1,p.2.pub n es rows))=(sl.map fun p=>(p.1,p.2.pub n es rows)).map fun p=>some p.2:=by kernel_rfl) (h4:leN ((F.of sl lc).pub n es rows) (puM n es rows lc)=(puM n es rows lc).map fun p=>some p.2:=by kernel_rfl) :
  St ⟨w0,H0,B0,K,N⟩ (F.of (sl.map fun p=>(p.1,p.2.pub n es rows)) (puM n es rows lc)) a w:=pubSK n es ty rows (sl.map fun p=>(p.1,p.2.pub n es rows)) (puM n es rows lc) h hl hk (allApp (by rw [h2];exact h1:zem rows.length (sl.flatMap (·.2.owns n)++lc.flatMap (·.2.owns n)))).1 (allApp (by rw [h2];exact h1:zem rows.length (sl.flatMap (·.2.owns n)++lc.flatMap (·.2.owns n)))).2 h3 h4
end
section
variable {P:Program}
theorem Op.appOO {d t u sn len len2 len':Nat} {rows rows2 rows':List (List D)} {pos af gd} (hT:ElT P xt el es bs) (hlen:len=rows.length) (hlen2:len2=rows2.length) (hlen':len'=len+rows2.length) (hrow:rows++rows2=rows')
  (hb:(len+rows2.length)*bs<=140737488355328) :
  zba P ⟨some d,.call { callee:=.builtin .append,args:=#[.tmp t,.tmp u],argTypes:=#[xt,xt] }, ty,pos,af,gd⟩
   { rs:=[(t,.t (.c (.own n len))),(u,.t (.c (.own sn len2)))],rl:=[(n,.row el es rows),(sn,.row el es rows2)],ws:=[(d,some (.t (.c (.own n' len'))))],wl:=[(n', some (.row el es rows')),(n,none)],nw:=[n'] }:=by
 subst hlen hlen2 hlen' hrow
 refine Op.appG (dG ..) fun e f H B a w hok hs hl hnew=>?_
 have h2:=hok.ownD (hl (sn,.row el es rows2) (by simp)) (hok.slot u _ (hs (u,.t (.c (.own sn rows2.length))) (by simp)))
 obtain ⟨v,w', p,r1,r2,r⟩:=append_run (ty:=ty) hT (hok.ownD (hl (n,.row el es rows) (by simp)) (hok.slot t _ (hs (t,.t (.c (.own n rows.length))) (by simp)))) h2.hes (h2.src fun _ _ h=>DR.flat h) hb
 exact ⟨v,w', p,r1,r2.cr (if_pos rfl) cW,r2.lrD (if_pos rfl),r⟩
theorem Op.eqNilO {d t len:Nat} {y:Operand} {yt:TypeId} {pos af gd} (hu:P.underlying xt=some (.slice el)) (hn:0<len) (h':OV y (.t (.c (.d (.raw zai)))) rs') :
  zba P ⟨some d,.binOp .eql xt (.tmp t) y yt,ty,pos,af,gd⟩ { rs:=(t,.t (.c (.own n len))) :: rs', ws:=[(d,some (vb false))] } :=
 zba.value d _ rfl rfl rfl fun e f H B a w hok hr2=>by
  have h1:=hok.slot t _ (hr2.1 (t,.t (.c (.own n len))) (by simp))
  have h2:a.eval y=zai:=(h'.eval hok fun p hp=>hr2.1 p (by simp [hp])).rawI
  have h3:CR H B (.own n len) (a.eval (.tmp t)):=h1
  generalize hv0:a.eval (.tmp t)=v at h3
  simp only [CR] at h3
  cases hB:B n with
  | none=>rw [hB] at h3;omega
  | some q =>
   obtain ⟨b,c⟩:=q
   rw [hB] at h3
   subst h3
   refine ⟨.bool false,?_,DR.raw _ rfl⟩
   generalize a.eval=ρ at hv0 h2 ⊢
   have:=run_eqNil (P:=P) hu (some ⟨b,0,none⟩) len c (.tmp t) y w
   simp only [Sem.run_bind] at this
   simp only [execOp,hv0,h2,Sem.run_bind,this,Result.andThen_ok,Sem.run_pure]
   rfl
end
theorem SCloneO (xs:List za3) (hn:0<xs.length) (hl:xs.length<=1000000000000):Fn Tryz.prog 84 [(9,.row 124 3 (xs.map za3.d))] [vO 9 xs.length] (vO 0 xs.length) [(9,.row 124 3 (xs.map za3.d)),(0,.row 124 3 (xs.map za3.d))]:=by
 refine fB Tryz.func84 rfl 8 fun w H B a h=>Jq 10 [] [(0,vO 9 xs.length),(2,vW zai)] [(9,.row 124 3 (xs.map za3.d))] h fun a w h=>qW (Je 10 [(1,.g (Op.eqNilO (d:=4) (t:=3) (n:=9) (len:=xs.length) (xt:=24) (yt:=24) zc1.hu hn (OV.const zai rfl)))] [] [(4,vb false)] h fun a w h=>zaw h (qU (za2 (Jg 10 [(0,.g (Op.buildE (d:=5) (n:=10) tb_9)),(2,.g (Op.appOO (d:=7) (t:=5) (u:=6) (n:=10) (sn:=9) (n':=11) (len:=0) (len2:=xs.length) (len':=xs.length) (rows:=[].map za3.d) (rows2:=xs.map za3.d) (rows':=xs.map za3.d) zg1 (by first | exact (bE _).symm | simp) (by first | exact (bE _).symm | simp) (by first | (rw [cW,bE];done) | simp) (by simp) (by first | omega | (simp at *;done) | (simp at *;omega))))] [0,4] [(2,vO 11 xs.length)] [] [(11,.row 124 3 (xs.map za3.d))] h fun a w h=>qV ?_))))
 replace h:=zcr 11 0 h;refine rT (.c (.own 0 xs.length)) h rfl ?_;rfl
theorem SPlainW0 (t:zaf) (ht:PsOk 40000 t.parts) (hk:Lb t.k.abs) (lk:t.k.abs.length<=40000) (hn:0<t.parts.length):Fn Tryz.prog 52 [(9,.row 124 3 (t.parts.map za3.d))] [vG ([.own 9 t.parts.length]++zi t.k)] (vd (za1 t).d) [(9,.row 124 3 (t.parts.map za3.d))]:=by
 have ln:=ht.1;refine fB Tryz.func52 rfl 74 fun w H B a h=>Jq 10 [] [(1,vp 10 0),(2,vp 11 0)] [(9,.row 124 3 (t.parts.map za3.d)),(10,.box ([.own 9 t.parts.length]++zi t.k)),(11,.box zT0)] h fun a w h=>Jg 12 [(2,.call (SCloneO t.parts hn (by omega)))] [] [(3,vO 0 t.parts.length)] [] [(0,.row 124 3 (t.parts.map za3.d))] h fun a w h=>Jg 12 [(1,.call (zhn t.parts (by omega)))] [] [] [] [(0,.row 124 3 ((ssV za3.v t.parts).map za3.d))] h fun a w h=>?_
 obtain ⟨r3,er3,vr3,or3,lr3⟩:=mkZ (v:=t.k.val) (m:=t.k.abs.length) (zcp hk);refine Jg 12 [(2,.call (Fn.cast (zf3 t.k hk (by omega)) (congrArg vz er3.symm)))] [1] [(4,vp 12 0)] [10] [(12,.box ([nCl]++zi r3))] h fun a w h=>qW ?_;replace h:=zg5 12 0 13 3 124 ([nCl]++zi r3) h;refine Je 14 [] [3] [(17,vO 0 t.parts.length),(18,vN t.parts.length),(19,vI 0)] h fun a w h=>qZ ?_
 refine zbz (ι:=(Nat) × (List za3)) (fun (j,out)=>out=(zh6 ((ssV za3.v t.parts).take j))/\j<=(ssV za3.v t.parts).length/\out.length<=j/\MOk 40000 j out)
   [] (fun (j,out)=>[(19,vN j)])
   [] (fun (j,out)=>[(12,.box ([.own 13 out.length]++zi r3)),(13,.row 124 3 (out.map za3.d))])
   (fun (j,out)=>(ssV za3.v t.parts).length - j) (0,[]) ?_ h ?_
 ·exact ⟨by simp [zh6],bC _,bC _,fun q hq=>(by cases hq)⟩
 clear h;rintro ⟨j,out⟩ a w hI h;dsimp only at h;obtain ⟨hI1,hI2,hI3,hI4⟩:=hI;have ln:=ht.1;have ls:(ssV za3.v t.parts).length=t.parts.length:=zb0 _;refine Je 14 [] [] [(20,vb (decide ((j:Int)<(t.parts.length:Int))))] h fun a w h=>qW (zae ((j:Int)<(t.parts.length:Int)) h (fun hc1 hc1'=>?_) (fun hc6 hc6'=>?_))
 ·refine qU (za2 (qW (qZ ?_)));obtain ⟨x4,hx4⟩:=gl (ssV za3.v t.parts) j;obtain ⟨ox4,lx4⟩:=ht.get_mem (zcy (lM hx4));refine Jg 14 [(0,.g (xO 21 17 0 t.parts.length j zc1 (OV.tmp 19 _))),(1,.g (Op.loadR_agg (d:=22) (t:=21) (n:=0) (i:=j) (fo:=0) (rty:=124) (es:=3) (xs:=[.raw (.int .i64 x4.v),.raw (.bool x4.c.neg),nsl x4.c.abs]) zgm rfl (za8 hx4 (f:=za3.d)) rfl rfl))] [20] [(6,vp 14 0)] [] [(14,.box ([cI x4.v]++zi x4.c))] h fun a w h=>qW (Je 15 [] [] [(25,vb (decide (x4.v<0)))] h fun a w h=>zae (x4.v<0) h (fun hc2 hc2'=>?_) (fun hc3 hc3'=>?_))
  ·refine wp_exit (zc2 (zau (za2 (Jh 15 [(0,.j1 j)] [6,25] [(19,vI ((j:Int)+1))] [14] [] h fun a w h=>za2 ?_))));have hst:(zh6 ((ssV za3.v t.parts).take (j+1)))=zb1 out x4:=by rw [hI1,show ((ssV za3.v t.parts).take (j+1):List za3)=(ssV za3.v t.parts).take j++[x4] from by rw [cJ,hx4];rfl,zc5]
   have hst2:=mrg_neg (out:=out) hc2';refine zaa (x:=(j,out)) (y:=((j+1),out)) h ?_ ?_
   ·exact ⟨by rw [hst,hst2],(by have:=zac hx4;omega),by omega,by have hh:=hI4.step (ht.get_mem (zcy (lM hx4)));rw [hst2] at hh;exact hh⟩
   show (ssV za3.v t.parts).length - (j+1)<(ssV za3.v t.parts).length - j;have:=zac hx4;omega
  refine qU (za2 ?_)
  rcases cH out.length with hz | hz
  ·refine Je 15 [(3,.g (Op.arith (op:=.sub) (d:=29) (xt:=3) (yt:=3) (k:=.i64) (m:=(out.length:Int)) (n:=1) (r:=(-1)) (OV.tmp 28 _) (OV.const (.int .i64 1) rfl) (.inr (.inl ⟨rfl,(by omega)⟩)) i6))] [25] [(7,vI (-1))] h fun a w h=>Je 15 [(1,.cmp (op:=.geq) (m:=(-1)) (n:=0) (b:=false) .i64 rfl)] [] [(42,vb false)] h fun a w h=>zaw h ?_;obtain ⟨r5,er5,vr5,or5,lr5⟩:=mkZ (v:=x4.c.val) (m:=x4.c.abs.length) (zcp ox4);refine Jh 15 [(6,.call (Fn.cast (zf3 x4.c ox4 (by omega)) (congrArg vz er5.symm))),(8,.g (bD 65 ([(za3.mk x4.v r5)].map za3.d) [(64,vG ([cI x4.v]++zi r5))] tb_9 (.cons (i:=0) (OV.tmp 64 _) (.nil)) (by kernel_rfl) (by simp [za3.d]))),(9,.g (aD 66 58 65 13 15 out [(za3.mk x4.v r5)] za3.d zg1 (by simp [za3.d])))] [6,7,42] [] [13,14] [(12,.box ([.own 15 (out++[(za3.mk x4.v r5)]).length]++zi r3)),(15,.row 124 3 ((out++[(za3.mk x4.v r5)]).map za3.d))] h fun a w h=>za7 (za2 (Jf 16 [(0,.j1 j)] [] [(19,vI ((j:Int)+1))] h fun a w h=>za2 ?_));have hst:(zh6 ((ssV za3.v t.parts).take (j+1)))=zb1 out x4:=by rw [hI1,show ((ssV za3.v t.parts).take (j+1):List za3)=(ssV za3.v t.parts).take j++[x4] from by rw [cJ,hx4];rfl,zc5]
   have hst2:=mrg_nil hc3' hz;replace h:=zcr 15 13 h;refine zaa (x:=(j,out)) (y:=((j+1),(out++[(za3.mk x4.v r5)]))) h ?_ ?_
   ·have hnew:(out++[(za3.mk x4.v r5)])=zb1 out x4:=by rw [hst2,er5]
    exact ⟨by rw [hst];exact hnew,(by have:=zac hx4;omega),by rw [cW];simp only [dC,List.length_nil];omega,by rw [hnew];exact hI4.step (ht.get_mem (zcy (lM hx4)))⟩
   show (ssV za3.v t.parts).length - (j+1)<(ssV za3.v t.parts).length - j;have:=zac hx4;omega
  obtain ⟨k,hk1⟩:∃ k,out.length=k+1:=⟨out.length - 1,by omega⟩;refine Je 16 [(3,.g (Op.arith (op:=.sub) (d:=29) (xt:=3) (yt:=3) (k:=.i64) (m:=(out.length:Int)) (n:=1) (r:=(k:Int)) (OV.tmp 28 _) (OV.const (.int .i64 1) rfl) (.inr (.inl ⟨rfl,(by omega)⟩)) i6))] [25] [(7,vN k)] h fun a w h=>?_;obtain ⟨x6,hx6⟩:=gl out k;obtain ⟨ox6,lx6⟩:=hI4.lb (lM hx6) (by omega);refine Je 16 [(1,.cmp (op:=.geq) (m:=(k:Int)) (n:=0) (b:=true) .i64 (show decide ((k:Int)>=0)=true from decide_eq_true (by omega))),(6,.g (xO 36 34 13 out.length k zc1 (OV.tmp 35 _))),(8,.g (Op.loadR_c (d:=38) (t:=37) (n:=13) (i:=k) (fo:=0) (rty:=124) (es:=3) (x:=(.raw (.int .i64 x6.v))) tl_7 rfl (za8 hx6 (f:=za3.d)) rfl))] [] [(42,vb (x6.v == x4.v))] h fun a w h=>cS (x6.v == x4.v) h (fun hc4=>?_) (fun hc5=>?_)
  ·obtain ⟨r7,er7,vr7,or7,lr7⟩:=mkZ (v:=x6.c.val+x4.c.val) (m:=x6.c.abs.length+x4.c.abs.length+1) (zcz ox6 ox4);refine Jh 16 [(6,.g (xO 49 47 13 out.length k zc1 (OV.tmp 48 _))),(8,.g (Op.loadR_agg (d:=51) (t:=50) (n:=13) (i:=k) (fo:=1) (rty:=124) (es:=3) (xs:=[.raw (.bool x6.c.neg),nsl x6.c.abs]) zdm rfl (za8 hx6 (f:=za3.d)) rfl rfl)),(11,.call (Fn.cast (SAdd x6.c x4.c ox6 ox4 (by omega) (by omega)) (congrArg vz er7.symm))),(12,.g (xO 55 44 13 out.length k zc1 (OV.tmp 45 _))),(14,.g (Op.storeR (t:=56) (n:=13) (i:=k) (fo:=1) (rty:=124) (es:=3) (r:=za3.d x6) (ds:=[.raw (.bool r7.neg),nsl r7.abs]) (rs:=[(54,vz r7)]) (rows:=out.map za3.d) (rows':=(out.set k (za3.mk x6.v r7)).map za3.d) zdm (OV.tmp 54 _) rfl rfl rfl (za8 hx6 (f:=za3.d)) (by simp [za3.d]) (zc8 (xs:=out) (F:=za3.d) k _ _ rfl)))] [6,7,42] [] [14] [(13,.row 124 3 ((out.set k (za3.mk x6.v r7)).map za3.d))] h fun a w h=>za7 (za2 (Jf 16 [(0,.j1 j)] [] [(19,vI ((j:Int)+1))] h fun a w h=>za2 ?_));have hst:(zh6 ((ssV za3.v t.parts).take (j+1)))=zb1 out x4:=by rw [hI1,show ((ssV za3.v t.parts).take (j+1):List za3)=(ssV za3.v t.parts).take j++[x4] from by rw [cJ,hx4];rfl,zc5]
   replace h:=cvM [] [] [] [(12,.box ([.own 13 (out.set k (za3.mk x6.v r7)).length]++zi r3))] (by rw [List.length_set];kernel_rfl) h;have hst2:=zi2 hc3' hk1 hx6 (by simpa using hc4);refine zaa (x:=(j,out)) (y:=((j+1),(out.set k (za3.mk x6.v r7)))) h ?_ ?_
   ·have hnew:(out.set k (za3.mk x6.v r7))=zb1 out x4:=by rw [hst2,er7]
    exact ⟨by rw [hst];exact hnew,(by have:=zac hx4;omega),by rw [List.length_set];omega,by rw [hnew];exact hI4.step (ht.get_mem (zcy (lM hx4)))⟩
   show (ssV za3.v t.parts).length - (j+1)<(ssV za3.v t.parts).length - j;have:=zac hx4;omega
  obtain ⟨r8,er8,vr8,or8,lr8⟩:=mkZ (v:=x4.c.val) (m:=x4.c.abs.length) (zcp ox4);refine Jh 16 [(6,.call (Fn.cast (zf3 x4.c ox4 (by omega)) (congrArg vz er8.symm))),(8,.g (bD 65 ([(za3.mk x4.v r8)].map za3.d) [(64,vG ([cI x4.v]++zi r8))] tb_9 (.cons (i:=0) (OV.tmp 64 _) (.nil)) (by kernel_rfl) (by simp [za3.d]))),(9,.g (aD 66 58 65 13 16 out [(za3.mk x4.v r8)] za3.d zg1 (by simp [za3.d])))] [6,7,42] [] [13,14] [(12,.box ([.own 16 (out++[(za3.mk x4.v r8)]).length]++zi r3)),(16,.row 124 3 ((out++[(za3.mk x4.v r8)]).map za3.d))] h fun a w h=>za7 (za2 (Jf 17 [(0,.j1 j)] [] [(19,vI ((j:Int)+1))] h fun a w h=>za2 ?_));have hst:(zh6 ((ssV za3.v t.parts).take (j+1)))=zb1 out x4:=by rw [hI1,show ((ssV za3.v t.parts).take (j+1):List za3)=(ssV za3.v t.parts).take j++[x4] from by rw [cJ,hx4];rfl,zc5]
  have hst2:=mrg_new hc3' hk1 hx6 (by simpa using hc5);replace h:=zcr 16 13 h;refine zaa (x:=(j,out)) (y:=((j+1),(out++[(za3.mk x4.v r8)]))) h ?_ ?_
  ·have hnew:(out++[(za3.mk x4.v r8)])=zb1 out x4:=by rw [hst2,er8]
   exact ⟨by rw [hst];exact hnew,(by have:=zac hx4;omega),by rw [cW];simp only [dC,List.length_nil];omega,by rw [hnew];exact hI4.step (ht.get_mem (zcy (lM hx4)))⟩
  show (ssV za3.v t.parts).length - (j+1)<(ssV za3.v t.parts).length - j;have:=zac hx4;omega
 refine exA ?_;replace h:=atS (sl':=[(2,vp 11 0),(4,vp 12 0)]) (lc':=[(9,.row 124 3 (t.parts.map za3.d)),(11,.box zT0),(12,.box ([.own 13 out.length]++zi r3)),(13,.row 124 3 (out.map za3.d))]) h;replace h:=zcr 13 0 h;refine Jg 17 [(2,.call (SDeleteFZ isZ out (fun p hp=>SPlain2 p (hI4.lb hp (by omega)).1 (by have:=(hI4.lb hp (by omega)).2;omega)) (by omega)))] [] [] [] [(12,.box ([.own 0 (out.filter (fun p=>!isZ p)).length]++zi r3)),(0,.row 124 3 ((out.filter (fun p=>!isZ p)).map za3.d))] h fun a w h=>Jg 17 [] [4] [] [12] [(11,.box ([.own 0 (out.filter (fun p=>!isZ p)).length]++zi r3))] h fun a w h=>qV ?_;replace h:=pubKX 0 3 124 ((out.filter (fun p=>!isZ p)).map za3.d) h [(out.filter (fun p=>!isZ p)).length] ⟨by first | exact (bE _).symm | simp,trivial⟩;refine rA 11 ([cPs (out.filter (fun p=>!isZ p))]++zi r3) h ze1 rfl ?_;have hj:j=(ssV za3.v t.parts).length:=by omega
 subst hj;rw [hI1,bV,plain_law,er3];try rfl
theorem SPlainW (t:zaf) {L:Nat} (h:TOk n L t) (hn:n<=1000000000) (hL:L<=40000) (hp:0<t.parts.length):Fn Tryz.prog 52 [(9,.row 124 3 (t.parts.map za3.d))] [vG ([.own 9 t.parts.length]++zi t.k)] (vd (za1 t).d) [(9,.row 124 3 (t.parts.map za3.d))] :=
 have h':=h.mono hn hL
 SPlainW0 t h'.psok h'.kb h'.kl hp
theorem SContentW (t:zaf) {L:Nat} (ht:TOk n L t) (hn:n<=1000000000) (hL:L<=20000) (hp:0<t.parts.length):Fn Tryz.prog 125 [(9,.row 124 3 (t.parts.map za3.d))] [vG ([.own 9 t.parts.length]++zi t.k)] (vz (ZI.of (zbm (za1 t).parts))) [(9,.row 124 3 (t.parts.map za3.d))]:=by
 refine fB Tryz.func125 rfl 21 fun w H B a h=>Jq 10 [] [(1,vp 10 0),(2,vp 11 0)] [(9,.row 124 3 (t.parts.map za3.d)),(10,.box ([.own 9 t.parts.length]++zi t.k)),(11,.box [cB false,.d (nsl [])])] h fun a w h=>Jg 12 [] [] [(3,vp 12 0)] [] [(12,.box [cB false,.d (nsl [])])] h fun a w h=>qW (Jg 13 [(1,.call (SPlainW t ht hn (by omega) hp)),(3,.len (za4 3 za3.d ((za1 t).parts)))] [1] [(9,(vPs (za1 t).parts)),(10,vI ((za1 t).parts.length:Int)),(11,vI 0)] [10] [] h fun a w h=>qZ ?_)
 refine zbz (ι:=(Nat) × (ZI)) (fun (j,out)=>out=ZI.of (zbm ((za1 t).parts.take j))/\j<=(za1 t).parts.length)
   [] (fun (j,out)=>[(11,vN j)])
   [] (fun (j,out)=>[(12,.box (zi out))])
   (fun (j,out)=>(za1 t).parts.length - j) (0,(ZI.of 0)) ?_ h ?_
 ·exact ⟨by simp [zbm],bC _⟩
 clear h;rintro ⟨j,out⟩ a w hI h;dsimp only at h;obtain ⟨hI1,hI2⟩:=hI;have lpp:=(ht.plain hn).len;have lvv:(zbn t.parts).length=(za1 t).parts.length:=(bE _).symm;have lo:out.abs.length<=L+1:=by rw [hI1];exact zhj ht hn j
 have ho:Lb out.abs:=by rw [hI1];exact ZI.lb_of _
 have vo:out.val=zbm ((za1 t).parts.take j):=by rw [hI1];exact ZI.val_of _
 refine Je 13 [] [] [(12,vb (decide ((j:Int)<((za1 t).parts.length:Int))))] h fun a w h=>qW (zae ((j:Int)<((za1 t).parts.length:Int)) h (fun hc1 hc1'=>?_) (fun hc2 hc2'=>?_))
 ·refine qU (za2 (qW (qZ ?_)));obtain ⟨x2,hx2⟩:=gl ((za1 t).parts) j;obtain ⟨ox2,lx2⟩:=(ht.plain hn).get hx2;refine Jg 13 [(0,.g (xD 13 9 zc1 (za8 hx2 (f:=za3.d)) (OV.tmp 11 _)))] [12] [(5,vp 13 0)] [] [(13,.box ([cI x2.v]++zi x2.c))] h fun a w h=>?_;obtain ⟨r3,er3,vr3,or3,lr3⟩:=mkZ (v:=(Nat.gcd out.val.natAbs x2.c.val.natAbs:Int)) (m:=out.abs.length+x2.c.abs.length) (len_gcd ho ox2);refine Jh 14 [(3,.call (Fn.cast (SGcd out x2.c ho ox2 (by omega) (by omega)) (congrArg vz er3.symm)))] [5] [] [13] [(12,.box (zi r3))] h fun a w h=>za7 (za2 (Jf 14 [(0,.j1 j)] [] [(11,vI ((j:Int)+1))] h fun a w h=>za2 (zaa (x:=(j,out)) (y:=((j+1),r3)) h ?_ ?_)))
  ·have:=zac hx2;exact ⟨by rw [er3,vo,con_take hx2],by omega⟩
  show (za1 t).parts.length - (j+1)<(za1 t).parts.length - j;have:=zac hx2;omega
 refine exA (Jg 14 [] [3,9,10,11,12] [] [12] [(11,.box (zi out))] h fun a w h=>qV (rA 11 (zi out) h zdm rfl ?_));have hj:j=(za1 t).parts.length:=by omega
 subst hj;rw [hI1,bV];try rfl
def zgy (g:Int) (p:za3):za3:=⟨p.v,ZI.of (p.c.val.fdiv g)⟩
def zby (t:zaf):zaf:=if zbm (za1 t).parts=0 then za1 t else ⟨(za1 t).parts.map (zgy (zbm (za1 t).parts)),ZI.of (t.k.val.fdiv (zbm (za1 t).parts))⟩
theorem zj7 (ps:List za3):∀ p ∈ ps,zbm ps∣p.c.val:=by
 have key:∀ (ps:List za3) (g:Int),(ps.foldl (fun g p=>(Nat.gcd g.natAbs p.c.val.natAbs:Int)) g)∣g/\∀ p ∈ ps,(ps.foldl (fun g p=>(Nat.gcd g.natAbs p.c.val.natAbs:Int)) g)∣p.c.val:=by
  intro ps
  induction ps with
  | nil=>intro g;exact ⟨Int.dvd_refl g,fun p hp=>by cases hp⟩
  | cons p ps ih =>
   intro g
   obtain ⟨h1,h2⟩:=ih ((Nat.gcd g.natAbs p.c.val.natAbs:Int))
   rw [List.foldl_cons]
   have d1:((Nat.gcd g.natAbs p.c.val.natAbs:Nat):Int)∣g:=Int.ofNat_dvd_left.2 (Nat.gcd_dvd_left _ _)
   have d2:((Nat.gcd g.natAbs p.c.val.natAbs:Nat):Int)∣p.c.val:=Int.ofNat_dvd_left.2 (Nat.gcd_dvd_right _ _)
   refine ⟨Int.dvd_trans h1 d1,fun q hq=>?_⟩
   rcases cN.1 hq with rfl | hq
   ·exact Int.dvd_trans h1 d2
   ·exact h2 q hq
 exact (key ps 0).2
theorem con_ne (h:0<(za1 t).parts.length):zbm (za1 t).parts≠0:=fun e=>by
 obtain ⟨p,hp⟩:∃ p,p ∈ (za1 t).parts:=⟨_,List.getElem_mem h⟩
 have h1:=zj7 _ p hp
 rw [e] at h1
 exact ((zb5 t).2.1 p hp).2.2 (Int.zero_dvd.1 h1)
theorem con_nil (h:(za1 t).parts.length=0):zbm (za1 t).parts=0:=by rw [bW.1 h];rfl
theorem zf8 (t:zaf):zbm (za1 (za1 t)).parts=zbm (za1 t).parts:=by rw [zbc]
theorem fmod_of_dvd {b:Int} (h:b∣a):a.fmod b=0:=by obtain ⟨c,rfl⟩:=h;exact Int.mul_fmod_right b c
theorem SShrink (t:zaf) {L:Nat} (ht:TOk n L t) (hn:n<=1000000000) (hL:L<=10000):Fn Tryz.prog 123 [] [(vT t)] (.tup [.agg ((zby t).d.map C.d),.agg (zi (ZI.of (zbm (za1 t).parts)))]) []:=by
 have lnp:=(ht.plain hn).len;have lkp:=(ht.plain hn).kl;refine fB Tryz.func123 rfl 49 fun w H B a h=>Jq 12 [] [(1,vp 12 0),(2,vp 13 0),(3,vp 14 0)] [(12,.box (zT t)),(13,.box zT0),(14,.box [cB false,.d (nsl [])])] h fun a w h=>Jg 15 [(1,.call (SPlainO t ht (by omega) (by omega)))] [1] [(4,vp 15 0)] [12] [(0,.row 124 3 ((za1 t).parts.map za3.d)),(15,.box ([.own 0 (za1 t).parts.length]++zi (za1 t).k))] h fun a w h=>?_
 replace h:=zcr 0 9 h
 rcases cH (za1 t).parts.length with hz | hz
 ·have hg0:=con_nil hz;replace h:=zh5 9 3 124 ((za1 t).parts.map za3.d) h [(za1 t).parts.length] ⟨by first | exact (bE _).symm | simp,trivial⟩;obtain ⟨r2,er2,vr2,or2,lr2⟩:=mkZ (v:=(zbm (za1 t).parts)) (m:=L+1) (by have:=zhj ht hn (za1 t).parts.length;rw [bV] at this;exact this);have hvG9:=vr2;refine Jg 16 [(1,.call (Fn.cast (SContent (za1 t) (ht.plain hn) hn (by omega)) (show vz (ZI.of (zbm (za1 (za1 t)).parts))=vz r2 from by rw [zf8,er2])))] [] [(5,vp 16 0)] [] [(16,.box (zi r2))] h fun a w h=>qW (Je 17 [(1,.call (Fn.cast (zjc r2 or2 (by omega)) (congrArg (vi .i64) (ze4 (by rw [vr2];exact hg0))))),(2,.cmp (op:=.eql) (m:=0) (n:=0) (b:=true) .i64 rfl)] [] [(14,vb true)] h fun a w h=>cS true h (fun _=>?_) nofun);refine Jg 17 [] [14] [] [] [(13,.box (zT (za1 t))),(14,.box (zi r2))] h fun a w h=>qV (za5 (zds [.agg (zT (za1 t)),.agg (zi r2)] h Exit.ret (.inl rfl)  rfl ⟨RV.agg _ 13 0 _ _ _ _ ze1 rfl rfl rfl rfl,RV.agg _ 14 0 _ _ _ _ zdm rfl rfl rfl rfl,trivial⟩ ?_));rw [show zby t=za1 t from if_pos hg0,er2];try rfl
 have hg0:=con_ne hz;obtain ⟨r4,er4,vr4,or4,lr4⟩:=mkZ (v:=(zbm (za1 t).parts)) (m:=L+1) (by have:=zhj ht hn (za1 t).parts.length;rw [bV] at this;exact this);have hvG9:=vr4;refine Jg 17 [(1,.call (Fn.cast (SContentW (za1 t) (ht.plain hn) hn (by omega) hz) (show vz (ZI.of (zbm (za1 (za1 t)).parts))=vz r4 from by rw [zf8,er4])))] [] [(5,vp 17 0)] [] [(17,.box (zi r4))] h fun a w h=>qW (Je 18 [(1,.call (zjc r4 or4 (by omega))),(2,.cmp (op:=.eql) (m:=(sgn r4.val)) (n:=0) (b:=false) .i64 (by rw [vr4];exact beq_eq_false_iff_ne.2 (fun e=>hg0 (sgn_eq0.1 e))))] [] [(14,vb false)] h fun a w h=>zaw h (qU (za2 (qW (Je 18 [] [14] [(18,vO 9 (za1 t).parts.length),(19,vI ((za1 t).parts.length:Int)),(20,vI 0)] h fun a w h=>qZ ?_)))));replace h:=cvM [] [] [] [(9,.row 124 3 ((((za1 t).parts.take 0).map (zgy (zbm (za1 t).parts))++(za1 t).parts.drop 0).map za3.d))] (by rw [<- show ((za1 t).parts:List za3)=(((za1 t).parts.take 0).map (zgy (zbm (za1 t).parts))++(za1 t).parts.drop 0) from by simp];kernel_rfl) h
 refine zbz (ι:=(Nat)) (fun j=>j<=(za1 t).parts.length)
   [] (fun j=>[(20,vN j)])
   [] (fun j=>[(9,.row 124 3 ((((za1 t).parts.take j).map (zgy (zbm (za1 t).parts))++(za1 t).parts.drop j).map za3.d))])
   (fun j=>(za1 t).parts.length - j) 0 ?_ h ?_
 ·exact bC _
 clear h;rintro j a w hI h;have hrl:(((za1 t).parts.take j).map (zgy (zbm (za1 t).parts))++(za1 t).parts.drop j).length=(za1 t).parts.length:=by rw [cW,bE,cV,List.length_drop];omega
 refine Je 18 [] [] [(21,vb (decide ((j:Int)<((za1 t).parts.length:Int))))] h fun a w h=>qW (zae ((j:Int)<((za1 t).parts.length:Int)) h (fun hc1 hc1'=>?_) (fun hc2 hc2'=>?_))
 ·refine qU (za2 (qW (qZ ?_)));obtain ⟨x,hx⟩:∃ z_:za3,(za1 t).parts[j]?=some z_:=⟨_,d5 (by omega)⟩;obtain ⟨ox,lx⟩:=(ht.plain hn).get hx;refine Jg 18 [(1,.g (xO 23 18 9 (za1 t).parts.length j zc1 (OV.tmp 20 _))),(2,.g (Op.loadR_agg (d:=24) (t:=23) (n:=9) (i:=j) (fo:=0) (rty:=124) (es:=3) (xs:=[.raw (.int .i64 x.v),.raw (.bool x.c.neg),nsl x.c.abs]) zgm rfl (za8 (show ((((za1 t).parts.take j).map (zgy (zbm (za1 t).parts))++(za1 t).parts.drop j):List za3)[j]?=some x from mov_at hx) (f:=za3.d)) rfl rfl))] [21] [(6,vN j),(7,vp 18 0)] [] [(18,.box ([cI x.v]++zi x.c))] h fun a w h=>?_;obtain ⟨r6,er6,vr6,or6,lr6⟩:=mkZ (v:=x.c.val.fdiv r4.val) (m:=x.c.abs.length) (zfp ox (by rw [hvG9];exact hg0));refine Jh 19 [(6,.call (Fn.cast (SExact x.c r4 ox or4 (by omega) (by omega) (by rw [hvG9];exact hg0) (by rw [hvG9];exact fmod_of_dvd (zj7 _ x (lM hx)))) (show _=(.tup [.agg (zi r6),.c (cI 0)]:V) by rw [er6];try rfl))),(10,.g (xO 35 27 9 (za1 t).parts.length j zc1 (OV.tmp 28 _))),(12,.g (Op.storeR (t:=36) (n:=9) (i:=j) (fo:=1) (rty:=124) (es:=3) (r:=za3.d x) (ds:=[.raw (.bool r6.neg),nsl r6.abs]) (rs:=[(33,vz r6)]) (rows:=(((za1 t).parts.take j).map (zgy (zbm (za1 t).parts))++(za1 t).parts.drop j).map za3.d) (rows':=((((za1 t).parts.take j).map (zgy (zbm (za1 t).parts))++(za1 t).parts.drop j).set j (za3.mk x.v r6)).map za3.d) zdm (OV.tmp 33 _) rfl rfl rfl (za8 (show ((((za1 t).parts.take j).map (zgy (zbm (za1 t).parts))++(za1 t).parts.drop j):List za3)[j]?=some x from mov_at hx) (f:=za3.d)) (by simp [za3.d]) (zc8 (xs:=(((za1 t).parts.take j).map (zgy (zbm (za1 t).parts))++(za1 t).parts.drop j)) (F:=za3.d) j _ _ rfl)))] [6,7] [] [18] [(9,.row 124 3 (((((za1 t).parts.take j).map (zgy (zbm (za1 t).parts))++(za1 t).parts.drop j).set j (za3.mk x.v r6)).map za3.d))] h fun a w h=>za7 (za2 (Jf 19 [(0,.j1 j)] [] [(20,vI ((j:Int)+1))] h fun a w h=>za2 ?_));have hdx:za3.mk x.v r6=zgy (zbm (za1 t).parts) x:=by rw [er6,hvG9];rfl
  rw [show (((((za1 t).parts.take j).map (zgy (zbm (za1 t).parts))++(za1 t).parts.drop j).set j (za3.mk x.v r6)):List za3)=(((za1 t).parts.take (j+1)).map (zgy (zbm (za1 t).parts))++(za1 t).parts.drop (j+1)) from by rw [hdx];exact mov_set hx] at h;refine zaa (x:=j) (y:=(j+1)) h ?_ ?_
  ·have:=zac hx;omega
  show (za1 t).parts.length - (j+1)<(za1 t).parts.length - j;have:=zac hx;omega
 refine exA ?_;obtain ⟨r7q,er7q,vr7q,or7q,lr7q⟩:=mkZ (v:=(za1 t).k.val.fdiv r4.val) (m:=(za1 t).k.abs.length) (zfp (ht.plain hn).kb (by rw [hvG9];exact hg0));obtain ⟨r7r,er7r,vr7r,or7r,lr7r⟩:=mkZ (v:=(za1 t).k.val.fmod r4.val) (m:=r4.abs.length) (zgv or4 (by rw [hvG9];exact hg0));refine Jg 19 [(3,.call (Fn.cast (SDiv (za1 t).k r4 (ht.plain hn).kb or4 (by omega) (by omega) (by rw [hvG9];exact hg0)) (show _=(.tup [.agg (zi r7q),.agg (zi r7r),.c (cI 0)]:V) by rw [er7q,er7r];try rfl)))] [18,19,20,21] [] [] [(15,.box ([.own 9 (za1 t).parts.length]++zi r7q))] h fun a w h=>?_;rw [show ((((za1 t).parts.take j).map (zgy (zbm (za1 t).parts))++(za1 t).parts.drop j):List za3)=((za1 t).parts.map (zgy (zbm (za1 t).parts))) from by rw [show j=(za1 t).parts.length by omega,bV,List.drop_length,cO]] at h;replace h:=h.conv (f':=F.of [(2,vp 13 0),(3,vp 14 0),(4,vp 15 0),(5,vp 17 0)] [(13,.box zT0),(14,.box [cB false,.d (nsl [])]),(15,.box ([.own 9 ((za1 t).parts.map (zgy (zbm (za1 t).parts))).length]++zi r7q)),(9,.row 124 3 (((za1 t).parts.map (zgy (zbm (za1 t).parts))).map za3.d)),(17,.box (zi r4))]) (by rw [show ((za1 t).parts.map (zgy (zbm (za1 t).parts))).length=(za1 t).parts.length from bE _];kernel_rfl);replace h:=zh5 9 3 124 (((za1 t).parts.map (zgy (zbm (za1 t).parts))).map za3.d) h [((za1 t).parts.map (zgy (zbm (za1 t).parts))).length] ⟨by first | exact (bE _).symm | simp,trivial⟩;refine Jg 19 [] [4,5] [] [15,17] [(13,.box ([cPs ((za1 t).parts.map (zgy (zbm (za1 t).parts)))]++zi r7q)),(14,.box (zi r4))] h fun a w h=>qV (zds [.agg ([cPs ((za1 t).parts.map (zgy (zbm (za1 t).parts)))]++zi r7q),.agg (zi r4)] h Exit.ret (.inl rfl)  rfl ⟨RV.agg _ 13 0 _ _ _ _ ze1 rfl rfl rfl rfl,RV.agg _ 14 0 _ _ _ _ zdm rfl rfl rfl rfl,trivial⟩ ?_);have hs:zby t=⟨(za1 t).parts.map (zgy (zbm (za1 t).parts)),r7q⟩:=by unfold zby;rw [if_neg hg0,er7q,hvG9,show (za1 t).k.val=t.k.val from ZI.val_of _]
 rw [hs,er4];try rfl
theorem SRShrink (t:zaf) {L:Nat} (ht:TOk n L t) (hn:n<=1000000000) (hL:L<=10000):Fn Tryz.prog 59 [] [(vT t)] (.tup [.agg ((zby t).d.map C.d),.agg (zi (ZI.of (zbm (za1 t).parts)))]) []:=by
 have lnp:=(ht.plain hn).len;have lkp:=ht.kl;have lvv:(zbn t.parts).length=(za1 t).parts.length:=(bE _).symm;refine fB Tryz.func59 rfl 66 fun w H B a h=>?_
 refine Jq 12 [] [(1,vp 12 0),(2,vp 13 0),(3,vp 14 0)] [(12,.box (zT t)),(13,.box zT0),(14,.box [cB false,.d (nsl [])])] h fun a w h=>?_;obtain ⟨r1,er1,vr1,or1,lr1⟩:=mkZ (v:=(zbm (za1 t).parts)) (m:=L+1) (by have:=zhj ht hn (za1 t).parts.length;rw [bV] at this;exact this);have hvG9:=vr1;refine Jg 15 [(1,.call (Fn.cast (SRContent t ht hn (by omega)) (congrArg vz er1.symm)))] [] [(4,vp 15 0)] [] [(15,.box (zi r1))] h fun a w h=>?_;refine qW (Je 16 [(1,.call (zc7 r1 or1 (by omega)))] [] [(18,vb (sgn r1.val == 0))] h fun a w h=>?_);refine cS (sgn r1.val == 0) h (fun hc1=>?_) (fun hc2=>?_)
 ·have hc1':=hc1;(try simp at hc1');have hg0:(zbm (za1 t).parts)=0:=by rw [<- hvG9];exact sgn_eq0.1 (by simpa using hc1)
  refine Jg 16 [(1,.call (SRPlain' t ht hn (by omega)))] [18] [] [] [(13,.box (zT (za1 t)))] h fun a w h=>?_;refine qV (za5 ?_);refine zds [.agg (zT (za1 t)),.agg [cB false,.d (nsl [])]] h Exit.ret (.inl rfl)  rfl ⟨RV.agg _ 13 0 _ _ _ _ ze1 rfl rfl rfl rfl,RV.agg _ 14 0 _ _ _ _ zdm rfl rfl rfl rfl,trivial⟩ ?_;rw [show zby t=za1 t from if_pos hg0,hg0];try rfl
 have hc2':=hc2;(try simp at hc2');have hg0:(zbm (za1 t).parts)≠0:=by rw [<- hvG9];intro e;rw [ze4 e] at hc2;exact absurd hc2 (by decide)
 refine qU (za2 (Jg 16 [] [18] [(5,vp 16 0)] [] [(16,.box zT0)] h fun a w h=>?_));replace h:=zg5 16 0 17 3 124 zT0 h;refine Je 18 [(1,.call (SVars t (ht.mono hn (by omega)).psok))] [] [(6,(vIs (zbn t.parts)))] h fun a w h=>?_;refine qW (Je 18 [] [] [(7,vI 0)] h fun a w h=>?_);refine qZ ?_
 refine zbz (ι:=(Nat) × (List za3)) (fun (j,out)=>out=((zbn t.parts).take j).map (fun v=>zgy (zbm (za1 t).parts) (zdb t.parts v))/\j<=(zbn t.parts).length/\out.length<=j)
   [] (fun (j,out)=>[(7,vN j)])
   [] (fun (j,out)=>[(16,.box [.own 17 out.length,cB false,.d (nsl [])]),(17,.row 124 3 (out.map za3.d))])
   (fun (j,out)=>(zbn t.parts).length - j) (0,[]) ?_ h ?_
 ·exact ⟨by simp,bC _,bC _⟩
 clear h;rintro ⟨j,out⟩ a w hI h;dsimp only at h;obtain ⟨hI1,hI2,hI3⟩:=hI;refine qW (Je 18 [(2,.len (za4 1 zb4 (zbn t.parts)))] [] [(28,vb (decide ((j:Int)<((zbn t.parts).length:Int))))] h fun a w h=>?_);refine zae ((j:Int)<((zbn t.parts).length:Int)) h (fun hc3 hc3'=>?_) (fun hc4 hc4'=>?_)
 ·refine qU (za2 (qW (qZ ?_)));obtain ⟨x5,hx5⟩:=gl (zbn t.parts) j;obtain ⟨r6,er6,vr6,or6,lr6⟩:=mkZ (v:=zaj t.parts x5) (m:=L+1) (ze7 (ht.mono hn (bF L)).psok x5);obtain ⟨r7q,er7q,vr7q,or7q,lr7q⟩:=mkZ (v:=r6.val.fdiv r1.val) (m:=r6.abs.length) (zfp or6 (by rw [hvG9];exact hg0));obtain ⟨r7r,er7r,vr7r,or7r,lr7r⟩:=mkZ (v:=r6.val.fmod r1.val) (m:=r1.abs.length) (zgv or1 (by rw [hvG9];exact hg0));refine Jg 18 [(3,.g (xD 35 33 tb_1 (za8 hx5 (f:=zb4)) (OV.tmp 34 _))),(5,.call (Fn.cast (SCoef t x5 (ht.mono hn (by omega)).psok) (congrArg vz er6.symm))),(7,.call (Fn.cast (SRDiv r6 r1 or6 or1 (by omega) (by omega) (by rw [hvG9];exact hg0)) (show _=(.tup [.agg (zi r7q),.agg (zi r7r),.c (cI 0)]:V) by rw [er7q,er7r];try rfl)))] [28] [(8,vp 18 0)] [] [(18,.box (zi r7q))] h fun a w h=>?_;refine Jh 20 [(4,.g (xD 47 45 tb_1 (za8 hx5 (f:=zb4)) (OV.tmp 46 _))),(8,.g (bD 51 ([(za3.mk x5 r7q)].map za3.d) [(50,vG ([cI x5]++zi r7q))] tb_9 (.cons (i:=0) (OV.tmp 50 _) (.nil)) (by kernel_rfl) (by simp [za3.d]))),(9,.g (aD 52 44 51 17 20 out [(za3.mk x5 r7q)] za3.d zg1 (by simp [za3.d])))] [8] [] [17,18] [(16,.box ([.own 20 (out++[(za3.mk x5 r7q)]).length,cB false,.d (nsl [])])),(20,.row 124 3 ((out++[(za3.mk x5 r7q)]).map za3.d))] h fun a w h=>?_;refine za7 (za2 (Jf 21 [(1,.j1 j)] [] [(7,vI ((j:Int)+1))] h fun a w h=>?_));refine za2 ?_;replace h:=zcr 20 17 h;refine zaa (x:=(j,out)) (y:=((j+1),(out++[(za3.mk x5 r7q)]))) h ?_ ?_
  ·have:=zac hx5;have hd:zgy (zbm (za1 t).parts) (zdb t.parts x5)=za3.mk x5 r7q:=by rw [er7q,vr6,hvG9];simp only [zgy,zdb,ZI.val_of]
   exact ⟨by rw [zjy hx5,<- hI1,hd],by omega,by simp;omega⟩
  show (zbn t.parts).length - (j+1)<(zbn t.parts).length - j;have:=zac hx5;omega
 refine exA ?_;have hj:j=(zbn t.parts).length:=by omega
 rw [hj,bV] at hI1;replace h:=zh5 17 3 124 (out.map za3.d) h [out.length] ⟨by first | exact (bE _).symm | simp,trivial⟩;obtain ⟨r8q,er8q,vr8q,or8q,lr8q⟩:=mkZ (v:=t.k.val.fdiv r1.val) (m:=t.k.abs.length) (zfp ht.kb (by rw [hvG9];exact hg0));obtain ⟨r8r,er8r,vr8r,or8r,lr8r⟩:=mkZ (v:=t.k.val.fmod r1.val) (m:=r1.abs.length) (zgv or1 (by rw [hvG9];exact hg0));refine Jg 21 [(3,.call (Fn.cast (SRDiv t.k r1 ht.kb or1 (by omega) (by omega) (by rw [hvG9];exact hg0)) (show _=(.tup [.agg (zi r8q),.agg (zi r8r),.c (cI 0)]:V) by rw [er8q,er8r];try rfl)))] [1,6,7,28] [(11,vp 21 0)] [12] [(21,.box (zi r8q))] h fun a w h=>?_;refine Jg 23 [] [11] [] [21] [(16,.box ([cPs out]++zi r8q))] h fun a w h=>?_;refine Jg 23 [] [4,5] [] [15,16] [(13,.box ([cPs out]++zi r8q)),(14,.box (zi r1))] h fun a w h=>?_;refine qV ?_;refine zds [.agg ([cPs out]++zi r8q),.agg (zi r1)] h Exit.ret (.inl rfl)  rfl ⟨RV.agg _ 13 0 _ _ _ _ ze1 rfl rfl rfl rfl,RV.agg _ 14 0 _ _ _ _ zdm rfl rfl rfl rfl,trivial⟩ ?_;have hs:zby t=⟨out,r8q⟩:=by unfold zby;rw [if_neg hg0,hI1,er8q,hvG9];congr 1;exact bN
 rw [hs,er1];try rfl
theorem tx_6:zbj Tryz.prog 201:=zbj.mk' (by kernel_rfl)
def orZ:List Int->Int
  | []=>0
  | x :: xs=>if x≠0 then x else orZ xs
theorem orZ_at {xs:List Int} {x:Int} (h:xs[j]?=some x):orZ (xs.drop j)=if x≠0 then x else orZ (xs.drop (j+1)):=by
 obtain ⟨hj,rfl⟩:=bS.1 h
 rw [b7 hj];rfl
def cmpP (p q:za3):Int:=orZ [zbx p.v q.v,zbx p.c.val q.c.val]
def zej:List za3->List za3->Int
  | [],[]=>0
  | [],_ :: _=>-1
  | _ :: _,[]=>1
  | p :: ps,q :: qs=>if cmpP p q≠0 then cmpP p q else zej ps qs
def zha (s t:zaf):Int:=orZ [zej (za1 s).parts (za1 t).parts,zbx (za1 s).k.val (za1 t).k.val]
theorem cps_at {xs ys:List za3} {p q:za3} (h:xs[j]?=some p) (k:ys[j]?=some q):zej (xs.drop j) (ys.drop j)=if cmpP p q≠0 then cmpP p q else zej (xs.drop (j+1)) (ys.drop (j+1)):=by
 obtain ⟨hj,rfl⟩:=bS.1 h
 obtain ⟨kj,rfl⟩:=bS.1 k
 rw [b7 hj,b7 kj];rfl
theorem cps_end {xs ys:List za3} (h:j<=xs.length) (k:j<=ys.length):(j=ys.length->j<xs.length->zej (xs.drop j) (ys.drop j)=1)/\(j=xs.length->j<ys.length->zej (xs.drop j) (ys.drop j)=-1)/\(j=xs.length->j=ys.length->zej (xs.drop j) (ys.drop j)=0):=by
 refine ⟨fun h1 h2=>?_,fun h1 h2=>?_,fun h1 h2=>?_⟩
 ·rw [b7 h2,b6 (l:=ys) (by omega)];rfl
 ·rw [b7 h2,b6 (l:=xs) (by omega)];rfl
 ·rw [b6 (l:=xs) (by omega),b6 (l:=ys) (by omega)];rfl
theorem SOr (xs:List Int) (hl:xs.length<=1000000000000):Fn Tryz.prog 174 [] [(vIs xs)] (vI (orZ xs)) []:=by
 refine fB Tryz.func174 rfl 18 fun w H B a h=>Jq 0 [] [(0,(vIs xs)),(2,vI 0)] [] h fun a w h=>Jg 0 [] [] [(3,vI 0)] [] [] h fun a w h=>qW (Jg 0 [(1,.len (za4 1 zb4 xs))] [0] [(6,(vIs xs)),(7,vN xs.length),(8,vI 0)] [] [] h fun a w h=>qZ ?_)
 refine zbz (ι:=(Nat)) (fun j=>j<=xs.length/\orZ xs=orZ (xs.drop j))
   [2] (fun j=>[(8,vN j)])
   [] (fun j=>[])
   (fun j=>xs.length - j) 0 ?_ h ?_
 ·exact ⟨bC _,rfl⟩
 clear h;rintro j a w hI h;obtain ⟨hI1,hI2⟩:=hI;refine Jg 0 [] [] [(9,vb (decide ((j:Int)<(xs.length:Int))))] [] [] h fun a w h=>qW (zae ((j:Int)<(xs.length:Int)) h (fun hc1 hc1'=>?_) (fun hc4 hc4'=>?_))
 ·refine qU (za2 (qW (qZ ?_)));obtain ⟨x1,hx1⟩:=gl xs j;refine Jg 0 [(0,.g (xD 10 6 tb_1 (za8 hx1 (f:=zb4)) (OV.tmp 8 _)))] [9] [(5,vI x1)] [] [] h fun a w h=>Jg 0 [] [] [(14,vb (x1 != 0))] [] [] h fun a w h=>cS (x1 != 0) h (fun hc2=>?_) (fun hc3=>?_)
  ·refine Jg 0 [] [5,14] [(2,vI x1)] [] [] h fun a w h=>qV (za9 (za5 (za5 (za9 (za5 (rT (.c (cI x1)) h rfl ?_))))));rw [hI2,orZ_at hx1,if_pos (by simpa using hc2)];try rfl
  refine qU (za7 (za2 (Jh 0 [(0,.j1 j)] [5,14] [(8,vI ((j:Int)+1))] [] [] h fun a w h=>za2 (zaa (x:=j) (y:=(j+1)) h ?_ ?_))))
  ·have:=zac hx1;exact ⟨by omega,by rw [hI2,orZ_at hx1,if_neg (by simpa using hc3)]⟩
  show xs.length - (j+1)<xs.length - j;have:=zac hx1;omega
 refine exA (Jq 0 [] [(2,vI 0)] [] h fun a w h=>qV (rT (.c (cI 0)) h rfl ?_));rw [hI2,b6 (by omega)];try rfl
theorem SCmpP (p q:za3) (hp:Lb p.c.abs) (hq:Lb q.c.abs) (lp:p.c.abs.length<=49000) (lq:q.c.abs.length<=49000):Fn Tryz.prog 201 [] [vG ([cI p.v]++zi p.c),vG ([cI q.v]++zi q.c)] (vI (cmpP p q)) []:=by
 refine fB Tryz.func201 rfl 17 fun w H B a h=>Jq 0 [] [(2,vp 0 0),(3,vp 1 0),(4,vI 0)] [(0,.box ([cI p.v]++zi p.c)),(1,.box ([cI q.v]++zi q.c))] h fun a w h=>Jq 2 [(4,.call (SCompare p.v q.v)),(9,.call (SCmp p.c q.c hp hq (by omega) (by omega))),(10,.g (Op.buildD (d:=15) (len:=2) (rows:=[zbx p.v q.v,(zbx p.c.val q.c.val)].map zb4) (rs:=[(9,vI (zbx p.v q.v)),(14,vI (zbx p.c.val q.c.val))]) tb_0 (.cons (i:=0) (OV.tmp 9 _) (.cons (i:=1) (OV.tmp 14 _) (.nil))) (by kernel_rfl) rfl (by simp [zb4]) (by decide) (by decide))),(11,.call (SOr [zbx p.v q.v,(zbx p.c.val q.c.val)] (show List.length _<=1000000000000 from by simp)))] [(4,vI (orZ [zbx p.v q.v,(zbx p.c.val q.c.val)]))] [] h fun a w h=>qV (rT (.c (cI (orZ [zbx p.v q.v,(zbx p.c.val q.c.val)]))) h rfl ?_)
 rfl
theorem SCompareF (xs ys:List za3) (hx:PsOk 40000 xs) (hy:PsOk 40000 ys):Fn Tryz.prog 203 [] [(vPs xs),(vPs ys),.t (.c (.fn (.func 201) [] []))] (vI (zej xs ys)) []:=by
 have lnx:=hx.1;have lny:=hy.1;refine fB Tryz.func203 rfl 39 fun w H B a h=>Jq 0 [] [(0,(vPs xs)),(1,(vPs ys)),(2,.t (.c (.fn (.func 201) [] []))),(6,vI 0)] [] h fun a w h=>qW (Jg 0 [(1,.len (za4 3 za3.d xs))] [] [(11,(vPs xs)),(12,vN xs.length),(13,vI 0)] [] [] h fun a w h=>qZ ?_)
 refine zbz (ι:=(Nat)) (fun j=>j<=xs.length/\j<=ys.length/\zej xs ys=zej (xs.drop j) (ys.drop j))
   [6] (fun j=>[(13,vN j)])
   [] (fun j=>[])
   (fun j=>xs.length - j) 0 ?_ h ?_
 ·exact ⟨bC _,bC _,rfl⟩
 clear h;rintro j a w hI h;obtain ⟨hI1,hI2,hI3⟩:=hI;have hce:=cps_end hI1 hI2;have lnx:=hx.1;have lny:=hy.1;refine Jg 0 [] [] [(14,vb (decide ((j:Int)<(xs.length:Int))))] [] [] h fun a w h=>qW (zae ((j:Int)<(xs.length:Int)) h (fun hc1 hc1'=>?_) (fun hc6 hc6'=>?_))
 ·refine qU (za2 (qW (qZ ?_)));obtain ⟨x1,hx1⟩:=gl xs j;obtain ⟨ox1,lx1⟩:=hx.get hx1;refine Jg 0 [(1,.g (xD 16 11 zc1 (za8 hx1 (f:=za3.d)) (OV.tmp 13 _)))] [14] [(7,vN j),(8,vp 0 0)] [] [(0,.box ([cI x1.v]++zi x1.c))] h fun a w h=>qW (Je 1 [(2,.len (za4 3 za3.d ys))] [] [(21,vb (decide ((j:Int)>=(ys.length:Int))))] h fun a w h=>zae ((j:Int)>=(ys.length:Int)) h (fun hc2 hc2'=>?_) (fun hc3 hc3'=>?_))
  ·refine Je 1 [] [21] [(6,vI 1)] h fun a w h=>qV (za5 (za9 (za5 (za5 (za9 (za5 (rT (.c (cI 1)) h rfl ?_)))))));rw [hI3,hce.1 (by omega) (by omega)];try rfl
  refine qU (za2 ?_);obtain ⟨x2,hx2⟩:=gl ys j;obtain ⟨ox2,lx2⟩:=hy.get hx2;refine Jg 1 [(2,.g (xD 24 22 zc1 (za8 hx2 (f:=za3.d)) (OV.tmp 23 _)))] [7,21] [(9,vp 1 0)] [] [(1,.box ([cI x2.v]++zi x2.c))] h fun a w h=>Jg 2 [(3,.g (Op.callV (d:=29) (t:=26) (cap:=[]) (args:=[vG ([cI x1.v]++zi x1.c),vG ([cI x2.v]++zi x2.c)]) (rs:=[(27,vG ([cI x1.v]++zi x1.c)),(28,vG ([cI x2.v]++zi x2.c))]) (tys:=#[124,124]) (SCmpP x1 x2 ox1 ox2 (by omega) (by omega)) tx_6 (OVs.cons (OV.tmp 27 _) (OVs.cons (OV.tmp 28 _) (OVs.nil)))))] [8,9] [(10,vI (cmpP x1 x2))] [0,1] [] h fun a w h=>Jg 2 [] [] [(31,vb ((cmpP x1 x2) != 0))] [] [] h fun a w h=>cS ((cmpP x1 x2) != 0) h (fun hc4=>?_) (fun hc5=>?_)
  ·refine Jg 2 [] [10,31] [(6,vI (cmpP x1 x2))] [] [] h fun a w h=>qV (za9 (za5 (za5 (za9 (za5 (rT (.c (cI (cmpP x1 x2))) h rfl ?_))))));rw [hI3,cps_at hx1 hx2,if_pos (by simpa using hc4)];try rfl
  refine qU (za7 (za2 (Jh 2 [(0,.j1 j)] [10,31] [(13,vI ((j:Int)+1))] [] [] h fun a w h=>za2 (zaa (x:=j) (y:=(j+1)) h ?_ ?_))))
  ·have:=zac hx1;have:=zac hx2;exact ⟨by omega,by omega,by rw [hI3,cps_at hx1 hx2,if_neg (by simpa using hc5)]⟩
  show xs.length - (j+1)<xs.length - j;have:=zac hx1;omega
 refine exA (qW (Jq 2 [(1,.len (za4 3 za3.d xs)),(3,.len (za4 3 za3.d ys))] [(38,vb (decide ((xs.length:Int)<(ys.length:Int))))] [] h fun a w h=>zae ((xs.length:Int)<(ys.length:Int)) h (fun hc7 hc7'=>?_) (fun hc8 hc8'=>?_)))
 ·refine Jq 2 [] [(6,vI (-1))] [] h fun a w h=>qV (za5 (rT (.c (cI (-1))) h rfl ?_));rw [hI3,hce.2.1 (by omega) (by omega)];try rfl
 refine qU (za2 (Jq 2 [] [(6,vI 0)] [] h fun a w h=>qV (rT (.c (cI 0)) h rfl ?_)));rw [hI3,hce.2.2 (by omega) (by omega)];try rfl
theorem STCmp (s t:zaf) {L:Nat} (hs:TOk n L s) (ht:TOk n L t) (hn:n<=1000000000) (hL:L<=20000):Fn Tryz.prog 175 [] [(vT s),(vT t)] (vI (zha s t)) []:=by
 have lks:=(hs.plain hn).kl;have lkt:=(ht.plain hn).kl;refine fB Tryz.func175 rfl 23 fun w H B a h=>Jq 0 [] [(2,vp 0 0),(3,vp 1 0),(4,vI 0)] [(0,.box (zT s)),(1,.box (zT t))] h fun a w h=>Jg 2 [(1,.call (zdj s hs hn (by omega))),(3,.call (zdj t ht hn (by omega)))] [] [] [] [(0,.box (zT (za1 s))),(1,.box (zT (za1 t)))] h fun a w h=>Je 2 [] [] [(5,.t (.c (.fn (.func 201) [] [])))] h fun a w h=>Jq 2 [(5,.call (SCompareF (za1 s).parts (za1 t).parts ((hs.plain hn).mono hn (by omega)).psok ((ht.plain hn).mono hn (by omega)).psok)),(10,.call (SCmp (za1 s).k (za1 t).k (hs.plain hn).kb (ht.plain hn).kb (by omega) (by omega))),(11,.g (Op.buildD (d:=21) (len:=2) (rows:=[(zej (za1 s).parts (za1 t).parts),(zbx (za1 s).k.val (za1 t).k.val)].map zb4) (rs:=[(15,vI (zej (za1 s).parts (za1 t).parts)),(20,vI (zbx (za1 s).k.val (za1 t).k.val))]) tb_0 (.cons (i:=0) (OV.tmp 15 _) (.cons (i:=1) (OV.tmp 20 _) (.nil))) (by kernel_rfl) rfl (by simp [zb4]) (by decide) (by decide))),(12,.call (SOr [(zej (za1 s).parts (za1 t).parts),(zbx (za1 s).k.val (za1 t).k.val)] (show List.length _<=1000000000000 from by simp)))] [(4,vI (orZ [(zej (za1 s).parts (za1 t).parts),(zbx (za1 s).k.val (za1 t).k.val)]))] [] h fun a w h=>qV (rT (.c (cI (orZ [(zej (za1 s).parts (za1 t).parts),(zbx (za1 s).k.val (za1 t).k.val)]))) h rfl ?_)
 rfl
section
variable {P:Program}
theorem Op.makeO {d L:Nat} {x y:Operand} {rs:List (Nat × V)} {zs:List D} {pos af gd} (hT:ElT P xt el es bs) (hz0:Zero P el (zs.map C.d)) (hzl:zs.length=es) (hx:OV x (vi .i64 (L:Int)) rs) (hy:OV y (vi .i64 (L:Int)) rs') (hb:L*bs<=140737488355328) :
  zba P ⟨some d,.makeSlice xt x y,ty,pos,af,gd⟩ { rs:=rs++rs', ws:=[(d,some (.t (.c (.own n L))))],wl:=[(n,some (.row el es (List.replicate L zs)))],nw:=[n] }:=by
 refine zba.news d n _ _ rfl rfl rfl (by simp) fun e f H B a w hok hr hn=>?_
 have h1:a.eval x = .int .i64 (L:Int):=(hx.eval hok fun p hp=>hr.1 p (List.mem_append_left _ hp)).rawI
 have h2:a.eval y = .int .i64 (L:Int):=(hy.eval hok fun p hp=>hr.1 p (List.mem_append_right _ hp)).rawI
 obtain ⟨i,z,hi,hz,hsz,hby,hzs⟩:=hT.ex
 obtain ⟨z', l,g1,g2,g3⟩:=hz0.ex
 have hzz:z'=z:=by
  rw [hi] at g1
  have g1':i.zero=some z':=g1
  rw [hz] at g1';injection g1' with g1';exact g1'.symm
 subst hzz
 have hL:L<=140737488355328:=by
  have:L*1<=L*bs:=dM _ hT.bpos
  omega
 have hbb:(bs:Int)*(L:Int)<=281474976710656:=by
  have:(bs:Int)*(L:Int)=((L*bs:Nat):Int):=by rw [Int.natCast_mul,bG]
  omega
 have hrun:=run_make (P:=P) w xt el i z' hT.hu hi hz .i64 .i64 (L:Int) (L:Int) (by omega) (Int.le_refl _) (by rw [hby];exact hbb) (by omega)
 rw [dL,hsz] at hrun
 refine ⟨.slice (some ⟨w.heap.size,0,none⟩) L L,L,.cells (madeCells z'.cells (L*es)) el,?_,?_,?_⟩
 ·generalize a.eval=ρ at h1 h2 ⊢
  simp only [execOp,h1,h2,Sem.run_bind,hrun,Result.andThen_ok,Sem.run_pure]
 ·simp only [LR,if_true]
  have hall:∀ r ∈ List.replicate L zs,r.length=es:=fun r hr2=>by rw [(List.mem_replicate.1 hr2).2];exact hzl
  have hsize:(madeCells z'.cells (L*es)).toList.length=L*es:=by simp [madeCells]
  refine ⟨(madeCells z'.cells (L*es)).toList,heap_alloc_new w _,hsize,by rw [dW];exact bF _,by simp only [maxLen];omega,hall,?_⟩
  refine (zct hsize (by rw [dW];exact bF _) hall).2 fun k r hri f' x' hx2=>?_
  obtain ⟨hk,hrk⟩:=bS.1 hri
  rw [dW] at hk
  rw [List.getElem_replicate] at hrk
  subst hrk
  have hf:=(bS.1 hx2).1
  rw [hzl] at hf
  obtain ⟨u,hu1,hu2⟩:=(g3 H B).get f' (by rw [bE,hzl];exact hf)
  have hx3:(zs.map C.d)[f']'(by rw [bE,hzl];exact hf)=C.d x':=by
   rw [List.getElem_map];congr 1
   rw [d5 (by omega)] at hx2
   injection hx2
  rw [hx3] at hu2
  refine ⟨u,?_,hu2⟩
  have hlt:k*es+f'<L*es:=by
   have:(k+1)*es<=L*es:=Nat.mul_le_mul_right _ hk
   rw [Nat.add_mul] at this;omega
  have hmod:(k*es+f') % z'.cells.size=f':=by rw [hzs,Nat.mul_comm,Nat.mul_add_mod];exact cZ hf
  simp only [madeCells,Array.toList_map,Array.toList_range,List.getElem?_map,List.getElem?_range hlt,Option.map_some,hmod]
  rw [g2]
  simp [hu1]
 ·simp [VR,TR,CR]
theorem Op.makeO' {d L:Nat} {x y:Operand} {rs:List (Nat × V)} {zs:List D} {rows:List (List D)} {pos af gd} (hT:ElT P xt el es bs) (hz0:Zero P el (zs.map C.d)) (hzl:zs.length=es) (hx:OV x (vi .i64 (L:Int)) rs) (hy:OV y (vi .i64 (L:Int)) rs') (hb:L*bs<=140737488355328) (hr:List.replicate L zs=rows) :
  zba P ⟨some d,.makeSlice xt x y,ty,pos,af,gd⟩ { rs:=rs++rs', ws:=[(d,some (.t (.c (.own n L))))],wl:=[(n,some (.row el es rows))],nw:=[n] }:=by
 subst hr
 exact Op.makeO hT hz0 hzl hx hy hb
end
theorem ty_5:ElZ Tryz.prog 52 28 2:=ElZ.mk' Tryz.underlying52 _ _ rfl rfl (by kernel_rfl) (by kernel_rfl) (by kernel_rfl) (by decide)
theorem ty_16:ElZ Tryz.prog 22 9 1:=ElZ.mk' Tryz.underlying22 _ _ rfl rfl (by kernel_rfl) (by kernel_rfl) (by kernel_rfl) (by decide)
theorem cmpZ_self' (x:Int):zbx x x=0:=cmpZ_eq rfl
theorem shr_plain (t:zaf):za1 (zby t)=zby t:=by
 unfold zby
 split
 ·exact zbc _
 ·rename_i hg
  obtain ⟨h1,h2,h3⟩:=zb5 t
  refine zi0 ?_ (fun q hq=>?_) (fun v=>rfl) (by simp [ZI.val_of])
  ·show List.Pairwise _ ((za1 t).parts.map (zgy _))
   exact List.pairwise_map.2 h1
  ·obtain ⟨p,hp,rfl⟩:=bL.1 hq
   obtain ⟨k1,k2,k3⟩:=h2 p hp
   refine ⟨k1,by simp [zgy,ZI.val_of],?_⟩
   simp only [zgy,ZI.val_of]
   intro e
   obtain ⟨c,hc⟩:=zj7 _ p hp
   rw [hc,Int.mul_fdiv_cancel_left _ hg] at e
   exact k3 (by rw [hc,e,Int.mul_zero])
theorem shr_tok {L:Nat} (h:TOk n L t) (hn:n<=1000000000):TOk n (L+1) (zby t):=by
 unfold zby
 split
 ·exact h.plain hn
 ·rename_i hg
  have hp:=h.plain hn
  have lg:(zbm (za1 t).parts)≠0:=hg
  refine ⟨by simp only [bE];exact hp.len,fun q hq=>?_,ZI.lb_of _,?_⟩
  ·obtain ⟨p,hp2,rfl⟩:=bL.1 hq
   obtain ⟨k1,k2⟩:=hp.ps p hp2
   refine ⟨ZI.lb_of _,ZI.len_of ?_⟩
   exact bU (zf1 _ hg) (b9 (ZI.abs_lt k1) (zda k2))
  ·exact ZI.len_of (bU (zf1 _ hg) (b9 (ZI.abs_lt h.kb) (zda (b5 h.kl (Nat.le_succ L)))))
theorem valT_len {L:Nat} {vs:List ZI} (ht:TOk n L t) (hn:n<=1000000000) (hv:VOk M vs):(ZI.of (valT t vs)).abs.length<=L+M+1:=val_len ht hn hv (fun _ h=>h) (bF _)
def zR:za6:=⟨⟨[],⟨false,[]⟩⟩,false⟩
def cpR (r:za6):za6:=⟨za1 r.t,r.eq⟩
def zbo (b:Bool):za0:=⟨if b=true then 0 else 1,zR,[]⟩
def zbd (r:za6):za0:=⟨2,cpR r,[]⟩
def zfg (t:za6->za6) (k:Int) (r:za6) (cs:List za0):za0:=if k=0 then zbo true else if k=2 then ⟨2,t (cpR r),[]⟩ else if k=3\/k=4\/k=5 then ⟨k,zR,cnt k cs⟩ else zbo false
def za0.each (t:za6->za6) (f:za0):za0:=f.fold fun k r _ cs=>zfg t k r cs
theorem za0.each_eq (t:za6->za6) (f:za0):f.each t=zfg t f.kind f.r (f.kids.map (za0.each t)):=za0.fold_eq _ f
def za0.cl (f:za0):za0:=f.each id
theorem cl_eq (f:za0):f.cl=zfg id f.kind f.r (f.kids.map za0.cl):=za0.each_eq id f
def zj4 (f:za0):za0:=⟨3,zR,[f.cl]⟩
def zca (fs:List za0):za0:=⟨4,zR,fs.map za0.cl⟩
def za0.rels (P:za6->Prop) (f:za0):Prop:=f.fold fun k r _ ps=>(k=2->P r)/\∀ p ∈ cnt k ps,p
theorem za0.rels_eq (P:za6->Prop) (f:za0):f.rels P ↔ (f.kind=2->P f.r)/\∀ g ∈ cnt f.kind f.kids,g.rels P:=by
 have:=za0.fold_eq (fun k r _ (ps:List Prop)=>(k=2->P r)/\∀ p ∈ cnt k ps,p) f
 rw [zdf] at this
 unfold za0.rels
 rw [this]
 refine and_congr_right fun _=>⟨fun h g hg=>h _ (bL.2 ⟨g,hg,rfl⟩),fun h p hp=>?_⟩
 obtain ⟨g,hg,rfl⟩:=bL.1 hp
 exact h g hg
theorem za0.rels_mono {P Q:za6->Prop} (h:∀ r,P r->Q r) (f:za0):f.rels P->f.rels Q :=
 za0.ind (P:=fun f=>f.rels P->f.rels Q) (fun k r ks ih hf=>by
  rw [za0.rels_eq] at hf ⊢
  exact ⟨fun e=>h _ (hf.1 e),fun g hg=>ih g (zbw hg) (hf.2 g hg)⟩) f
theorem cpR_cpR (r:za6):cpR (cpR r)=cpR r:=by unfold cpR;rw [zbc]
theorem cnt_cnt (k:Int) (xs:List α):cnt k (cnt k xs)=cnt k xs:=by
 unfold cnt
 split
 ·rfl
 ·split
  ·rw [List.take_take];rfl
  ·rfl
theorem zff (t:za6->za6) (r:za6) (cs:List za0) (h:k=3\/k=4\/k=5):zfg t k r cs=⟨k,zR,cnt k cs⟩:=by
 unfold zfg
 rw [if_neg (by omega),if_neg (by omega),if_pos h]
theorem zge (t:za6->za6) (r:za6) (cs:List za0) (h0:k≠0) (h2:k≠2) (h:¬ (k=3\/k=4\/k=5)):zfg t k r cs=zbo false:=by
 unfold zfg
 rw [if_neg h0,if_neg h2,if_neg h]
variable {f:za0}
theorem each_atom (t:za6->za6) (h:f.kind=2):f.each t=⟨2,t (cpR f.r),[]⟩:=by rw [za0.each_eq,h];rfl
theorem each_nil (t:za6->za6):(zbo true).each t=zbo true/\(zbo false).each t=zbo false:=⟨by rw [za0.each_eq];rfl,by rw [za0.each_eq];rfl⟩
theorem each_cl (t:za6->za6) (f:za0):f.cl.each t=f.each t :=
 za0.ind (P:=fun f=>f.cl.each t=f.each t) (fun k r ks ih=>by
  have e1:(za0.mk k r ks).cl=zfg id k r (ks.map za0.cl):=cl_eq _
  have e2:(za0.mk k r ks).each t=zfg t k r (ks.map (za0.each t)):=za0.each_eq t _
  rw [e1,e2]
  by_cases h0:k=0
  ·subst h0;exact (each_nil t).1
  ·by_cases h2:k=2
   ·subst h2
    show (za0.mk 2 (cpR r) []).each t=_
    rw [za0.each_eq]
    show za0.mk 2 (t (cpR (cpR r))) []=_
    rw [cpR_cpR];rfl
   ·by_cases h3:k=3\/k=4\/k=5
    ·rw [zff _ _ _ h3,zff _ _ _ h3,za0.each_eq]
     show zfg t k zR ((cnt k (ks.map za0.cl)).map (za0.each t))=_
     rw [zff _ _ _ h3,<- zdf,cnt_cnt,bN]
     congr 2
     exact dX fun g hg=>ih g hg
    ·rw [zge _ _ _ h0 h2 h3,zge _ _ _ h0 h2 h3];exact (each_nil t).2) f
theorem cl_cl (f:za0):f.cl.cl=f.cl:=each_cl id f
theorem cmpPs_self:∀ ps:List za3,zej ps ps=0
 | []=>rfl
 | p :: ps=>by
  have h:cmpP p p=0:=by simp [cmpP,orZ,cmpZ_self']
  simp only [zej,h,cmpPs_self ps];rfl
theorem cmpT_eq {s:zaf} (h:za1 s=za1 t):zha s t=0:=by
 unfold zha
 rw [h,cmpPs_self,cmpZ_self'];rfl
theorem con_pos (h:0<(za1 t).parts.length):0<zbm (za1 t).parts:=by
 have:=con_ne h
 have:=con_nonneg (za1 t).parts
 omega
theorem con_len' {L:Nat} (ht:TOk n L t) (hn:n<=1000000000):(ZI.of (zbm (za1 t).parts)).abs.length<=L+1:=by
 have:=zhj ht hn (za1 t).parts.length
 rwa [bV] at this
def zhh (t:zaf):zaf:=zam t (ZI.of (-1))
def zia (t:zaf):Bool:=match t.parts with | []=>false | p :: _=>decide (sgn p.c.val<0)
def zag (r:za6):za6 × Int :=
  if (za1 r.t).parts.length=0 then (zR,if (sgn r.t.k.val == 0 || (!r.eq && decide (sgn r.t.k.val>0)))=true then 1 else -1)
  else if r.eq=true/\r.t.k.val.fmod (zbm (za1 r.t).parts)≠0 then (zR,-1)
  else (⟨if (r.eq && zia (zby r.t))=true then zhh (zby r.t) else zby r.t,r.eq⟩,0)
def zav (r:za6):za0:=if (zag r).2=0 then ⟨2,(zag r).1,[]⟩ else zbo (decide ((zag r).2>0))
def lowR (t:zaf):za6:=⟨zgo (zhh t) (zc4 (ZI.of 1)),false⟩
def zat (r:za6):List za6:=if r.eq=true then [lowR (zhh r.t),lowR r.t] else [lowR r.t]
def zb7 (k:Int):List za0->List za0->za0
  | [],out=>(match out with | []=>zbo (decide (k=4)) | [g]=>g | _=>⟨k,zR,out⟩)
  | f :: fs,out=>if (k=4/\f.kind=1)\/(k=5/\f.kind=0) then f else if f.kind=0\/f.kind=1 then zb7 k fs out else if f.kind=k then zb7 k fs (out++f.kids) else zb7 k fs (out++[f])
def zei (k:Int) (fs:List za0):za0:=zb7 k fs []
def zhi (k:Int) (r:za6) (cs:List (Bool->za0)) (d:Bool):za0 :=
  if k=0 then zbo (!d) else if k=2 then (if d=true then zei 5 ((zat r).map zav) else zav r) else if k=3 then (match cs with | []=>zbo d | c :: _=>c (!d)) else if k=4\/k=5 then zei (if d=true then 9 - k else k) (cs.map fun c=>c d) else zbo d
def za0.flat (f:za0):Bool->za0:=f.fold fun k r _ cs=>zhi k r cs
theorem za0.flat_eq (f:za0) (d:Bool):f.flat d=zhi f.kind f.r (f.kids.map za0.flat) d:=congrFun (za0.fold_eq (fun k r _ (cs:List (Bool->za0))=>zhi k r cs) f) d
def inwK (k:Int) (r:za6) (cs:List (Bool->za0)) (d:Bool):za0 :=
  if k=0 then zbo (!d) else if k=2 then (if d=true then ⟨5,zR,(zat r).map zbd⟩ else zbd r) else if k=3 then (match cs with | []=>zbo d | c :: _=>c (!d)) else if k=4\/k=5 then ⟨if d=true then 9 - k else k,zR,cs.map fun c=>c d⟩ else zbo d
def za0.inw (f:za0):Bool->za0:=f.fold fun k r _ cs=>inwK k r cs
theorem za0.inw_eq (f:za0) (d:Bool):f.inw d=inwK f.kind f.r (f.kids.map za0.inw) d:=congrFun (za0.fold_eq (fun k r _ (cs:List (Bool->za0))=>inwK k r cs) f) d
def zfv (k:Int) (r:za6) (ks cs:List za0):za0:=if k=2 then zav r else if k=4\/k=5 then zei k cs else ⟨k,r,ks⟩
def za0.merge (f:za0):za0:=f.fold zfv
theorem za0.merge_eq (f:za0):f.merge=zfv f.kind f.r f.kids (f.kids.map za0.merge):=za0.fold_eq _ f
theorem zfr (t:zaf):zbm (za1 (za1 t)).parts=zbm (za1 t).parts:=by rw [zbc]
theorem zir (t:zaf):zby (za1 t)=zby t:=by
 unfold zby
 rw [zbc]
 split
 ·rfl
 ·show zaf.mk _ (ZI.of ((ZI.of t.k.val).val.fdiv _))=_
  rw [ZI.val_of]
theorem tightR_cp (r:za6):zag (cpR r)=zag r:=by
 unfold zag cpR
 simp only [zbc,zir]
 have:(za1 r.t).k.val=r.t.k.val:=ZI.val_of _
 simp only [this]
theorem tightF_cp (r:za6):zav (cpR r)=zav r:=by unfold zav;rw [tightR_cp]
theorem merge_atom (r:za6):(zbd r).merge=zav r:=by
 rw [za0.merge_eq];show zfv 2 (cpR r) [] _=_;unfold zfv;rw [if_pos rfl,tightF_cp]
theorem merge_tru (b:Bool):(zbo b).merge=zbo b:=by
 rw [za0.merge_eq];cases b <;> rfl
theorem merge_join (h:k=4\/k=5) (fs:List za0):(za0.mk k zR fs).merge=zei k (fs.map za0.merge):=by
 rw [za0.merge_eq];show zfv k zR fs _=_;unfold zfv;rw [if_neg (by omega),if_pos h];rfl
theorem flat_merge (f:za0):∀ d,f.flat d=(f.inw d).merge :=
 za0.ind (P:=fun f=>∀ d,f.flat d=(f.inw d).merge) (fun k r ks ih d=>by
  rw [za0.flat_eq,za0.inw_eq]
  show zhi k r (ks.map za0.flat) d=(inwK k r (ks.map za0.inw) d).merge
  unfold zhi inwK
  by_cases h0:k=0
  ·rw [if_pos h0,if_pos h0,merge_tru]
  rw [if_neg h0,if_neg h0]
  by_cases h2:k=2
  ·rw [if_pos h2,if_pos h2]
   cases d with
   | true =>
    rw [if_pos rfl,if_pos rfl,merge_join (.inr rfl),bN]
    congr 1
    exact dX fun q _=>(merge_atom q).symm
   | false=>rw [if_neg Bool.noConfusion,if_neg Bool.noConfusion,merge_atom]
  rw [if_neg h2,if_neg h2]
  by_cases h3:k=3
  ·rw [if_pos h3,if_pos h3]
   cases ks with
   | nil=>exact (merge_tru d).symm
   | cons g gs=>exact ih g (dG ..) (!d)
  rw [if_neg h3,if_neg h3]
  by_cases h4:k=4\/k=5
  ·rw [if_pos h4,if_pos h4,merge_join (by cases d <;> simp <;> omega),bN,bN,bN]
   congr 1
   exact dX fun q hq=>ih q hq d
  ·rw [if_neg h4,if_neg h4,merge_tru]) f
theorem kc_3:SlT Tryz.prog 40 32 4:=SlT.mk' Tryz.underlying40 (by kernel_rfl)
theorem kc_5:ElZ Tryz.prog 40 32 4:=ElZ.mk' Tryz.underlying40 _ _ rfl rfl (by kernel_rfl) (by kernel_rfl) (by kernel_rfl) (by decide)
def fltV (j:Nat) (ps:List za3):List za3:=ps.filter fun p=>decide (0<=p.v/\p.v<(j:Int))
theorem fltV_succ (vs:List ZI) (j:Nat):∀ ps:List za3,valP vs (fltV (j+1) ps)=valP vs (fltV j ps)+zaj ps j*valAt vs j
 | []=>by simp [fltV,valP,zaj]
 | p :: ps=>by
  have ih:=fltV_succ vs j ps
  simp only [fltV] at ih ⊢
  simp only [List.filter_cons,zaj,Int.add_mul]
  by_cases h1:0<=p.v/\p.v<(j:Int)
  ·rw [if_pos (decide_eq_true (by omega)),if_pos (decide_eq_true h1),if_neg (by omega)]
   simp only [valP,ih];omega
  ·by_cases h2:p.v=(j:Int)
   ·rw [if_pos (decide_eq_true (by omega)),if_neg (by simpa using h1),if_pos (by omega)]
    simp only [valP,ih,h2];omega
   ·rw [if_neg (by rw [decide_eq_true_eq];omega),if_neg (by simpa using h1),if_neg (by omega),ih];omega
theorem fltV_all (vs:List ZI):∀ ps:List za3,valP vs (fltV vs.length ps)=valP vs ps
 | []=>rfl
 | p :: ps=>by
  have ih:=fltV_all vs ps
  simp only [fltV] at ih ⊢
  simp only [List.filter_cons]
  by_cases h1:0<=p.v/\p.v<(vs.length:Int)
  ·rw [if_pos (decide_eq_true h1)];simp only [valP,ih]
  ·rw [if_neg (by simpa using h1),ih,valP]
   by_cases h2:0<=p.v
   ·rw [valAt_out (by omega)];omega
   ·rw [valAt_neg (by omega)];omega
theorem fltV_zero (ps:List za3):fltV 0 ps=[]:=by
 unfold fltV;rw [List.filter_eq_nil_iff];intro p _;rw [decide_eq_true_eq];omega
theorem fltV_mem:∀ p ∈ fltV j ps,p ∈ ps:=fun p hp=>(List.mem_filter.1 hp).1
theorem fltV_len (j:Nat) (ps:List za3):(fltV j ps).length<=ps.length:=List.length_filter_le _ _
theorem SSize0 (f:za0) (lim:Int) (ih:∀ g ∈ f.kids,∀ l:Int,0<=l->l<=1000->Fn Tryz.prog 102 [] [(vF g),vI l] (vI (g.size l)) []) (h0:0<=lim) (h1:lim<=1000) (hk:f.kids.length<=9223372036854775807):Fn Tryz.prog 102 [] [(vF f),vI lim] (vI (f.size lim)) []:=by
 have lk:=cnt_len f.kind f.kids;refine fB Tryz.func102 rfl 32 fun w H B a h=>Jq 0 [] [(1,vI lim),(2,vp 0 0),(4,vI 0)] [(0,.box (zF f))] h fun a w h=>Je 1 [] [] [(5,vI 1)] h fun a w h=>Jg 1 [(1,.call (SKids f))] [2] [(6,(vFs (cnt f.kind f.kids)))] [0] [] h fun a w h=>qW (Jg 1 [] [] [(7,vI 0)] [] [] h fun a w h=>qZ ?_)
 refine zbz (ι:=(Nat) × (Int)) (fun (j,n)=>j<=(cnt f.kind f.kids).length/\f.size lim=zd1 lim (((cnt f.kind f.kids).map za0.size).drop j) n/\1<=n/\n<=lim+1)
   [] (fun (j,n)=>[(5,vI n),(7,vN j)])
   [] (fun (j,n)=>[])
   (fun (j,n)=>(cnt f.kind f.kids).length - j) (0,1) ?_ h ?_
 ·exact ⟨bC _,za0.size_eq f lim,by omega,by omega⟩
 clear h;rintro ⟨j,n⟩ a w hI h;dsimp only at h;obtain ⟨hI1,hI2,hI3,hI4⟩:=hI;refine qW ?_
 rcases bK (decide ((j:Int)<((cnt f.kind f.kids).length:Int))) with hc1 | hc4
 ·have hc1':=dT hc1;refine Jg 1 [(2,.len (za4 6 za0.d (cnt f.kind f.kids))),(3,.cmp (op:=.lss) (m:=(j:Int)) (n:=((cnt f.kind f.kids).length:Int)) (b:=true) .i64 hc1)] [] [(18,vb (decide (n<=lim)))] [] [] h fun a w h=>zae (n<=lim) h (fun hc2 hc2'=>?_) (fun hc3 hc3'=>?_)
  ·refine qU (za2 (qW (qZ ?_)));obtain ⟨x2,hx2⟩:=gl (cnt f.kind f.kids) j;have bz:0<=lim - n->1<=x2.size (lim - n)/\x2.size (lim - n)<=lim - n+1:=x2.size_bd (lim - n);refine Jh 1 [(3,.g (xD 24 22 zfx ((za8 hx2 (f:=za0.d)).trans (congrArg some (za0.d_eq x2))) (OV.tmp 23 _))),(7,.sub .i64 (m:=lim) (n:=n) i6),(8,.call (ih x2 (zbw (lM hx2)) (lim - n) (by omega) (by omega))),(9,.add .i64 (m:=n) (n:=(x2.size (lim - n))) i6)] [18] [(5,vI (n+(x2.size (lim - n))))] [] [] h fun a w h=>za7 (za2 (Jh 1 [(1,.j1 j)] [] [(7,vI ((j:Int)+1))] [] [] h fun a w h=>za2 (zaa (x:=(j,n)) (y:=((j+1),n+x2.size (lim - n))) h ?_ ?_)))
   ·exact ⟨by have:=zac hx2;omega,by rw [hI2,sizeGo_at (za8 hx2 (f:=za0.size)) (by omega)],by have:=bz (by omega);omega,by have:=bz (by omega);omega⟩
   show (cnt f.kind f.kids).length - (j+1)<(cnt f.kind f.kids).length - j;have:=zac hx2;omega
  refine exA (Jq 1 [] [(4,vI n)] [] h fun a w h=>qV (rT (.c (cI n)) h rfl ?_))
  have hz:f.size lim=n:=by
   rw [hI2];refine sizeGo_out ?_
   by_cases hn:n<=lim
   ·right;exact b6 (by rw [bE];first | omega | (simp_all;omega))
   exact .inl hn
  rw [hz];try rfl
 have hc4':=dF hc4;refine Jg 1 [(2,.len (za4 6 za0.d (cnt f.kind f.kids))),(3,.cmp (op:=.lss) (m:=(j:Int)) (n:=((cnt f.kind f.kids).length:Int)) (b:=false) .i64 hc4)] [] [(18,vb false)] [] [] h fun a w h=>zaw h (exA (Jq 1 [] [(4,vI n)] [] h fun a w h=>qV (rT (.c (cI n)) h rfl ?_)))
 have hz:f.size lim=n:=by
  rw [hI2];refine sizeGo_out ?_
  by_cases hn:n<=lim
  ·right;exact b6 (by rw [bE];first | omega | (simp_all;omega))
  exact .inl hn
 rw [hz];try rfl
theorem SSize (f:za0):f.lb->∀ lim:Int,0<=lim->lim<=1000->Fn Tryz.prog 102 [] [(vF f),vi .i64 lim] (vi .i64 (f.size lim)) [] :=
 za0.ind (P:=fun f=>f.lb->∀ lim:Int,0<=lim->lim<=1000->Fn Tryz.prog 102 [] [(vF f),vi .i64 lim] (vi .i64 (f.size lim)) []) (fun k r ks ih hl lim h0 h1=>by
  have hl:=(za0.lb_eq _).1 hl
  exact SSize0 ⟨k,r,ks⟩ lim (fun g hg l g0 g1=>ih g hg (hl.2 g hg) l g0 g1) h0 h1 hl.1.2) f
def zgd (rs:List za6) (most L:Int):Bool:=decide ((rs.length:Int)<=most) && rs.all (fewR L)
theorem SFewRs (rs:List za6) (most L:Int) (hl:rs.length<=9223372036854775807):Fn Tryz.prog 31 [] [(vRs rs),vI most,vI L] (vb (zgd rs most L)) []:=by
 refine fB Tryz.func31 rfl 64 fun w H B a h=>Jq 0 [] [(0,(vRs rs)),(1,vI most),(2,vI L),(6,vb false)] [] h fun a w h=>qW (Jg 0 [(1,.len (za4 4 za6.d rs))] [1] [(12,vb (decide ((rs.length:Int)>most)))] [] [] h fun a w h=>zae ((rs.length:Int)>most) h (fun hc1 hc1'=>?_) (fun hc2 hc2'=>?_))
 ·refine Jg 0 [] [12] [] [] [] h fun a w h=>qV (za5 (rT (.c (cB false)) h rfl ?_));rw [show zgd rs most L=false from by unfold zgd;rw [decide_eq_false (by have:=dT hc1;omega)];rfl];try rfl
 refine qU (za2 (qW (Jg 0 [] [12] [(7,vI 0)] [] [] h fun a w h=>qZ ?_)))
 refine zbz (ι:=(Nat)) (fun j=>j<=rs.length/\(rs.take j).all (fewR L)=true)
   [6] (fun j=>[(7,vN j)])
   [] (fun j=>[])
   (fun j=>rs.length - j) 0 ?_ h ?_
 ·exact ⟨bC _,rfl⟩
 clear h;rintro j a w hI h;obtain ⟨hI1,hI2⟩:=hI;refine qW (Jg 0 [(2,.len (za4 4 za6.d rs))] [] [(16,vb (decide ((j:Int)<(rs.length:Int))))] [] [] h fun a w h=>zae ((j:Int)<(rs.length:Int)) h (fun hc3 hc3'=>?_) (fun hc12 hc12'=>?_))
 ·refine qU (za2 (qW (qZ (qW ?_))));obtain ⟨x1,hx1⟩:=gl rs j
  rcases bK (decide ((x1.t.parts.length:Int)>20)) with hc4 | hc5
  ·have hc4':=dT hc4;refine Jg 0 [(2,.g (xD 21 19 kc_3 (za8 hx1 (f:=za6.d)) (OV.tmp 20 _))),(6,.len (za4 3 za3.d x1.t.parts)),(7,.cmp (op:=.gtr) (m:=(x1.t.parts.length:Int)) (n:=20) (b:=true) .i64 hc4)] [16] [(38,vb true)] [] [] h fun a w h=>cS true h (fun _=>?_) nofun
   refine Jg 0 [] [38] [(6,vb false)] [] [] h fun a w h=>qV (za5 (za9 (za5 (za5 (za9 (za5 (rT (.c (cB false)) h rfl ?_)))))));rw [show zgd rs most L=false from by unfold zgd;rw [zc9 hx1 (show fewR L x1=false from by rw [fewR,decide_eq_false (by have:=dT hc4;omega)];rfl),cK]];try rfl
  have hc5':=dF hc5;refine Jg 0 [(2,.g (xD 21 19 kc_3 (za8 hx1 (f:=za6.d)) (OV.tmp 20 _))),(6,.len (za4 3 za3.d x1.t.parts)),(7,.cmp (op:=.gtr) (m:=(x1.t.parts.length:Int)) (n:=20) (b:=false) .i64 hc5),(11,.g (xD 30 28 kc_3 (za8 hx1 (f:=za6.d)) (OV.tmp 29 _))),(16,.len (zey x1.t.k.abs))] [16] [(38,vb (decide ((x1.t.k.abs.length:Int)>L)))] [] [] h fun a w h=>zae ((x1.t.k.abs.length:Int)>L) h (fun hc6 hc6'=>?_) (fun hc7 hc7'=>?_)
  ·refine Jg 0 [] [38] [(6,vb false)] [] [] h fun a w h=>qV (za5 (za9 (za5 (za5 (za9 (za5 (rT (.c (cB false)) h rfl ?_)))))));rw [show zgd rs most L=false from by unfold zgd;rw [zc9 hx1 (show fewR L x1=false from by rw [fewR,decide_eq_false (p:=(_:Int)<=L) (by have:=dT hc6;omega),cK];rfl),cK]];try rfl
  refine qU (za2 (Jg 0 [] [38] [(8,vI 0)] [] [] h fun a w h=>qZ ?_));have hjr:=hI1
  refine zbz (ι:=(Nat)) (fun i=>i<=x1.t.parts.length/\(x1.t.parts.take i).all (fun p=>decide ((p.c.abs.length:Int)<=L))=true)
    [] (fun i=>[(8,vN i)])
    [] (fun i=>[])
    (fun i=>x1.t.parts.length - i) 0 ?_ h ?_
  ·exact ⟨bC _,rfl⟩
  clear h;rintro i a w hI h;obtain ⟨hJ1,hJ2⟩:=hI;refine qW (Jg 0 [(3,.g (xD 42 40 kc_3 (za8 hx1 (f:=za6.d)) (OV.tmp 41 _))),(7,.len (za4 3 za3.d x1.t.parts))] [] [(47,vb (decide ((i:Int)<(x1.t.parts.length:Int))))] [] [] h fun a w h=>zae ((i:Int)<(x1.t.parts.length:Int)) h (fun hc8 hc8'=>?_) (fun hc11 hc11'=>?_))
  ·refine qU (za2 (qW (qZ ?_)));obtain ⟨x2,hx2⟩:=gl x1.t.parts i;refine Jg 0 [(2,.g (xD 52 50 kc_3 (za8 hx1 (f:=za6.d)) (OV.tmp 51 _))),(7,.g (xD 57 55 zc1 (za8 hx2 (f:=za3.d)) (OV.tmp 56 _))),(11,.len (zey x2.c.abs))] [47] [(63,vb (decide ((x2.c.abs.length:Int)>L)))] [] [] h fun a w h=>zae ((x2.c.abs.length:Int)>L) h (fun hc9 hc9'=>?_) (fun hc10 hc10'=>?_)
   ·refine Jg 0 [] [63] [(6,vb false)] [] [] h fun a w h=>qV (za9 (za5 (za5 (za9 (za9 (za5 (za5 (za9 (za5 (rT (.c (cB false)) h rfl ?_))))))))));rw [show zgd rs most L=false from by unfold zgd;rw [zc9 hx1 (show fewR L x1=false from by rw [fewR,zc9 hx2 (decide_eq_false (by have:=dT hc9;omega)),cK]),cK]];try rfl
   refine qU (za7 (za2 (Jh 0 [(1,.j1 i)] [63] [(8,vI ((i:Int)+1))] [] [] h fun a w h=>za2 (zaa (x:=i) (y:=i+1) h ?_ ?_))))
   ·exact ⟨by have:=zac hx2;omega,ze8 hx2 hJ2 (decide_eq_true (by have:=dF hc10;omega))⟩
   show x1.t.parts.length - (i+1)<x1.t.parts.length - i;have:=zac hx2;omega
  refine wp_exit (zc2 (zc2 (zau (za7 (za2 (Jh 0 [(1,.j1 j)] [8,47] [(7,vI ((j:Int)+1))] [] [] h fun a w h=>za2 (zaa (x:=j) (y:=j+1) h ?_ ?_)))))))
  ·exact ⟨by have:=zac hx1;omega,ze8 hx1 hI2 (by rw [fewR,decide_eq_true (by have:=dF hc5;omega),decide_eq_true (by have:=dF hc7;omega),ze2 (dF hc11) hJ2];rfl)⟩
  show rs.length - (j+1)<rs.length - j;have:=zac hx1;omega
 refine exA (Jq 0 [] [(6,vb true)] [] h fun a w h=>qV (rT (.c (cB true)) h rfl ?_));rw [show zgd rs most L=true from by unfold zgd;rw [decide_eq_true (by have:=dF hc2;omega),ze2 (dF hc12) hI2];rfl];try rfl
theorem fewRs_one (r:za6) (L:Int):zgd [r] 1 L=fewR L r:=by simp [zgd]
theorem Sfew0 (f:za0) (L:Int) (ih:∀ g ∈ f.kids,Fn Tryz.prog 103 [] [(vF g),vI L] (vb (g.few L)) []) (hk:f.kids.length<=9223372036854775807):Fn Tryz.prog 103 [] [(vF f),vI L] (vb (f.few L)) []:=by
 have lk:=cnt_len f.kind f.kids;refine fB Tryz.func103 rfl 33 fun w H B a h=>Jq 0 [] [(1,vI L),(2,vp 0 0),(4,vb false)] [(0,.box (zF f))] h fun a w h=>qW ?_
 rcases bK (f.kind == 2) with hc1 | hc8
 ·refine Je 1 [(2,.cmp (op:=.eql) (m:=f.kind) (n:=2) (b:=true) .i64 hc1),(6,.g (bD 13 ([f.r].map za6.d) [(12,(vR f.r))] kc_5 (.cons (i:=0) (OV.tmp 12 _) (.nil)) (by kernel_rfl) (by simp [za6.d]))),(8,.call (Fn.cast (SFewRs [f.r] 1 L (by simp)) (congrArg vb (fewRs_one f.r L))))] [] [(17,vb (!(fewR L f.r)))] h fun a w h=>cS (!(fewR L f.r)) h (fun hc2=>?_) (fun hc3=>?_)
  ·refine Je 1 [] [17] [] h fun a w h=>qV (za5 (rT (.c (cB false)) h rfl ?_));have hz:f.few L=false:=by rw [za0.few_eq,(show (!(f.kind == 2) || fewR L f.r)=false from by rw [hc1];rw [(show (fewR L f.r)=false from by simpa using hc2)];rfl)];rfl
   rw [hz];try rfl
  refine qU (za2 (Jg 1 [(1,.call (SKids f))] [2,17] [(5,(vFs (cnt f.kind f.kids)))] [0] [] h fun a w h=>qW (Jg 1 [] [] [(6,vI 0)] [] [] h fun a w h=>qZ ?_)))
  refine zbz (ι:=(Nat)) (fun j=>j<=(cnt f.kind f.kids).length/\((cnt f.kind f.kids).take j).all (za0.few L)=true)
    [4] (fun j=>[(6,vN j)])
    [] (fun j=>[])
    (fun j=>(cnt f.kind f.kids).length - j) 0 ?_ h ?_
  ·exact ⟨bC _,rfl⟩
  clear h;rintro j a w hI h;obtain ⟨hI1,hI2⟩:=hI;refine qW (Jg 1 [(2,.len (za4 6 za0.d (cnt f.kind f.kids)))] [] [(23,vb (decide ((j:Int)<((cnt f.kind f.kids).length:Int))))] [] [] h fun a w h=>zae ((j:Int)<((cnt f.kind f.kids).length:Int)) h (fun hc4 hc4'=>?_) (fun hc7 hc7'=>?_))
  ·refine qU (za2 (qW (qZ ?_)));obtain ⟨x3,hx3⟩:=gl (cnt f.kind f.kids) j;refine Jg 1 [(2,.g (xD 28 26 zfx ((za8 hx3 (f:=za0.d)).trans (congrArg some (za0.d_eq x3))) (OV.tmp 27 _))),(5,.call (ih x3 (zbw (lM hx3))))] [23] [(32,vb (!(za0.few L x3)))] [] [] h fun a w h=>cS (!(za0.few L x3)) h (fun hc5=>?_) (fun hc6=>?_)
   ·refine Jg 1 [] [32] [(4,vb false)] [] [] h fun a w h=>qV (za9 (za5 (za5 (za9 (za5 (rT (.c (cB false)) h rfl ?_))))));have hz:f.few L=false:=by rw [za0.few_eq,zc9 hx3 (show (za0.few L x3)=false from by simpa using hc5),cK]
    rw [hz];try rfl
   refine qU (za7 (za2 (Jh 1 [(1,.j1 j)] [32] [(6,vI ((j:Int)+1))] [] [] h fun a w h=>za2 (zaa (x:=j) (y:=j+1) h ?_ ?_))))
   ·exact ⟨by have:=zac hx3;omega,ze8 hx3 hI2 (show (za0.few L x3)=true from by simpa using hc6)⟩
   show (cnt f.kind f.kids).length - (j+1)<(cnt f.kind f.kids).length - j;have:=zac hx3;omega
  refine exA (Jq 1 [] [(4,vb true)] [] h fun a w h=>qV (rT (.c (cB true)) h rfl ?_));have hz:f.few L=true:=by rw [za0.few_eq,(show (!(f.kind == 2) || fewR L f.r)=true from by rw [hc1];rw [(show (fewR L f.r)=true from by simpa using hc3)];rfl),ze2 (dF hc7) hI2];rfl
  rw [hz];try rfl
 refine Je 1 [(2,.cmp (op:=.eql) (m:=f.kind) (n:=2) (b:=false) .i64 hc8)] [] [(17,vb false)] h fun a w h=>zaw h (qU (za2 (Jg 1 [(1,.call (SKids f))] [2,17] [(5,(vFs (cnt f.kind f.kids)))] [0] [] h fun a w h=>qW (Jg 1 [] [] [(6,vI 0)] [] [] h fun a w h=>qZ ?_))))
 refine zbz (ι:=(Nat)) (fun j=>j<=(cnt f.kind f.kids).length/\((cnt f.kind f.kids).take j).all (za0.few L)=true)
   [4] (fun j=>[(6,vN j)])
   [] (fun j=>[])
   (fun j=>(cnt f.kind f.kids).length - j) 0 ?_ h ?_
 ·exact ⟨bC _,rfl⟩
 clear h;rintro j a w hI h;obtain ⟨hI1,hI2⟩:=hI;refine qW (Jg 1 [(2,.len (za4 6 za0.d (cnt f.kind f.kids)))] [] [(23,vb (decide ((j:Int)<((cnt f.kind f.kids).length:Int))))] [] [] h fun a w h=>zae ((j:Int)<((cnt f.kind f.kids).length:Int)) h (fun hc9 hc9'=>?_) (fun hc12 hc12'=>?_))
 ·refine qU (za2 (qW (qZ ?_)));obtain ⟨x6,hx6⟩:=gl (cnt f.kind f.kids) j;refine Jg 1 [(2,.g (xD 28 26 zfx ((za8 hx6 (f:=za0.d)).trans (congrArg some (za0.d_eq x6))) (OV.tmp 27 _))),(5,.call (ih x6 (zbw (lM hx6))))] [23] [(32,vb (!(za0.few L x6)))] [] [] h fun a w h=>cS (!(za0.few L x6)) h (fun hc10=>?_) (fun hc11=>?_)
  ·refine Jg 1 [] [32] [(4,vb false)] [] [] h fun a w h=>qV (za9 (za5 (za5 (za9 (za5 (rT (.c (cB false)) h rfl ?_))))));have hz:f.few L=false:=by rw [za0.few_eq,zc9 hx6 (show (za0.few L x6)=false from by simpa using hc10),cK]
   rw [hz];try rfl
  refine qU (za7 (za2 (Jh 1 [(1,.j1 j)] [32] [(6,vI ((j:Int)+1))] [] [] h fun a w h=>za2 (zaa (x:=j) (y:=j+1) h ?_ ?_))))
  ·exact ⟨by have:=zac hx6;omega,ze8 hx6 hI2 (show (za0.few L x6)=true from by simpa using hc11)⟩
  show (cnt f.kind f.kids).length - (j+1)<(cnt f.kind f.kids).length - j;have:=zac hx6;omega
 refine exA (Jq 1 [] [(4,vb true)] [] h fun a w h=>qV (rT (.c (cB true)) h rfl ?_));have hz:f.few L=true:=by rw [za0.few_eq,(show (!(f.kind == 2) || fewR L f.r)=true from by rw [hc8];rfl),ze2 (dF hc12) hI2];rfl
 rw [hz];try rfl
theorem Sfew (L:Int) (f:za0):f.lb->Fn Tryz.prog 103 [] [(vF f),vi .i64 L] (vb (f.few L)) [] :=
 za0.ind (P:=fun f=>f.lb->Fn Tryz.prog 103 [] [(vF f),vi .i64 L] (vb (f.few L)) []) (fun k r ks ih hl=>by
  have hl:=(za0.lb_eq _).1 hl
  exact Sfew0 ⟨k,r,ks⟩ L (fun g hg=>ih g hg (hl.2 g hg)) hl.1.2) f
theorem SFewF (f:za0) (most L:Int) (hl:f.lb) (h0:0<=most) (h1:most<=1000):Fn Tryz.prog 64 [] [(vF f),vI most,vI L] (vb (zke f most L)) []:=by
 refine fB Tryz.func64 rfl 15 fun w H B a h=>Jq 0 [] [(1,vI most),(2,vI L),(3,vp 0 0),(6,vb false)] [(0,.box (zF f))] h fun a w h=>qW (Je 1 [(2,.call (SSize f hl most h0 h1))] [1] [(11,vb (decide (f.size most>most)))] h fun a w h=>zae (f.size most>most) h (fun hc1 hc1'=>?_) (fun hc2 hc2'=>?_))
 ·refine Je 1 [] [11] [] h fun a w h=>qV (za5 (rT (.c (cB false)) h rfl ?_));unfold zke;rw [hc1];try rfl
 refine qU (za2 (Jq 1 [(2,.call (Sfew L f hl))] [(6,vb (f.few L))] [] h fun a w h=>qV (rT (.c (cB (f.few L))) h rfl ?_)));unfold zke;rw [hc2];try rfl
theorem SRValue (t:zaf) (vs:List ZI) {L:Nat} (ht:TOk n L t) (hn:n<=1000000000) (hL:L+M<=20000) (hv:VOk M vs):Fn Tryz.prog 42 [] [(vT t),(vZs vs)] (vz (ZI.of (valT t vs))) []:=by
 have kt:=ht.kl;have lnv:=hv.1;refine fB Tryz.func42 rfl 27 fun w H B a h=>Jq 0 [] [(1,(vZs vs)),(2,vp 0 0),(4,vp 1 0)] [(0,.box (zT t)),(1,.box [cB false,.d (nsl [])])] h fun a w h=>Jg 2 [] [] [(5,vp 2 0)] [] [(2,.box (zi t.k))] h fun a w h=>qW (Je 3 [] [] [(6,vI 0)] h fun a w h=>qZ ?_)
 refine zbz (ι:=(Nat) × (ZI)) (fun (j,out)=>j<=vs.length/\out.val=t.k.val+valP vs (fltV j t.parts)/\Lb out.abs/\out.abs.length<=L+M+2)
   [] (fun (j,out)=>[(6,vN j)])
   [] (fun (j,out)=>[(2,.box (zi out))])
   (fun (j,out)=>vs.length - j) (0,t.k) ?_ h ?_
 ·exact ⟨bC _,by rw [fltV_zero];simp [valP],ht.kb,by omega⟩
 clear h;rintro ⟨j,out⟩ a w hI h;dsimp only at h;obtain ⟨hI1,vo,ho,lo⟩:=hI;refine qW (Je 3 [(2,.len (za4 2 ziD vs))] [] [(12,vb (decide ((j:Int)<(vs.length:Int))))] h fun a w h=>zae ((j:Int)<(vs.length:Int)) h (fun hc1 hc1'=>?_) (fun hc2 hc2'=>?_))
 ·refine qU (za2 (qW (qZ ?_)));obtain ⟨r1,er1,vr1,or1,lr1⟩:=mkZ (v:=zaj t.parts (j:Int)) (m:=L+1) (ze7 (ht.mono hn (bF L)).psok (j:Int));obtain ⟨x2,hx2⟩:=gl vs j;obtain ⟨ox2,lx2⟩:=hv.get hx2;obtain ⟨r3,er3,vr3,or3,lr3⟩:=mkZ (v:=r1.val*x2.val) (m:=r1.abs.length+x2.abs.length) (zg8 or1 ox2);obtain ⟨r4,er4,vr4,or4,lr4⟩:=mkZ (v:=out.val+r3.val) (m:=out.abs.length+r3.abs.length+1) (zcz ho or3);refine Jh 3 [(3,.call (Fn.cast (SCoef t (j:Int) (ht.mono hn (show L<=40000 by omega)).psok) (congrArg vz er1.symm))),(6,.g (xD 21 19 tt_6 (za8 hx2 (f:=ziD)) (OV.tmp 20 _))),(8,.call (Fn.cast (SRMul r1 x2 or1 ox2 (by omega) (by omega)) (congrArg vz er3.symm))),(9,.call (Fn.cast (SRAdd out r3 ho or3 (by omega) (by omega)) (congrArg vz er4.symm)))] [12] [] [] [(2,.box (zi r4))] h fun a w h=>za7 (za2 (Jf 3 [(1,.j1 j)] [] [(6,vI ((j:Int)+1))] h fun a w h=>za2 (zaa (x:=(j,out)) (y:=((j+1),r4)) h ?_ ?_)))
  ·have:=zac hx2;have hvz:r4.val=t.k.val+valP vs (fltV (j+1) t.parts):=by rw [vr4,vr3,vr1,vo,fltV_succ,valAt_some (v:=(j:Int)) rfl hx2,Int.add_assoc]
   exact ⟨by omega,hvz,or4,by rw [er4];exact b5 (by rw [<- vr4,hvz];exact val_len ht hn hv fltV_mem (fltV_len _ _)) (by omega)⟩
  show vs.length - (j+1)<vs.length - j;have:=zac hx2;omega
 refine exA ?_;obtain ⟨r5,er5,vr5,or5,lr5⟩:=mkZ (v:=out.val) (m:=out.abs.length) (zcp ho);refine Jq 3 [(1,.call (Fn.cast (SRClean out ho (by omega)) (congrArg vz er5.symm)))] [(4,vp 1 0)] [(1,.box (zi r5))] h fun a w h=>qV (rA 1 (zi r5) h zdm rfl ?_);have hz:out.val=valT t vs:=by rw [vo,show j=vs.length by first | omega | (simp_all;omega),fltV_all];rfl
 first | (rw [er5,hz];done) | (rw [er5,hz];rfl) | (rw [hz];done) | (rw [hz];rfl)
theorem zg7 {xs:List α} {x:α} (h:xs[0]?=some x):x ∈ xs.take 1:=by
 cases xs with
 | nil=>cases h
 | cons y ys=>simp at h;subst h;simp
theorem zj6 {xs:List α} {x:α} (h:xs[0]?=some x):∃ tl,xs=x :: tl:=by
 cases xs with
 | nil=>cases h
 | cons y ys=>simp at h;subst h;exact ⟨ys,rfl⟩
theorem zjm:Sz Tryz.prog 32 4 true:=Sz.mk' (by kernel_rfl) Tryz.underlying32 _ rfl
theorem zc0:Sz Tryz.prog 35 6 true:=Sz.mk' (by kernel_rfl) Tryz.underlying35 _ rfl
theorem la_7:ElT Tryz.prog 33 35 6 96:=ElT.mk' Tryz.underlying33 _ _ rfl rfl (by kernel_rfl) (by kernel_rfl) (by kernel_rfl) (by decide) (by decide)
theorem ze6 {β:Type} {f:α->β} {xs:List α} {x:α} (h:xs[j]?=some x):(xs.take j).map f++[f x]=(xs.take (j+1)).map f:=by rw [cJ,h,dH];rfl
def leaR (t:zaf):za6:=⟨za1 t,false⟩
theorem LLeast (t:zaf) (ht:TOk 1000000000 10000 t):Fn Tryz.prog 191 [] [(vT t)] (vR (leaR t)) []:=by
 refine fB Tryz.func191 rfl 6 fun w H B a h=>Jq 0 [] [(1,vp 0 0),(2,vp 1 0)] [(0,.box (zT t)),(1,.box zR0)] h fun a w h=>Jd 2 [(1,.call (zdj t ht (by decide) (by decide)))] [1] [] [(1,.box ((zT (za1 t))++[cB false]))] h fun a w h=>qV (rA 1 ((zT (za1 t))++[cB false]) h zjm rfl ?_)
 rfl
theorem Lcopied (r:za6) (hr:TOk 1000000000 10000 r.t):Fn Tryz.prog 144 [] [(vR r)] (vR (cpR r)) []:=by
 refine fB Tryz.func144 rfl 9 fun w H B a h=>Jq 0 [] [(1,vp 0 0),(2,vp 1 0)] [(0,.box (zR_ r)),(1,.box zR0)] h fun a w h=>Jd 2 [(2,.call (zdj r.t hr (by decide) (by decide)))] [1] [] [(1,.box ((zT (za1 r.t))++[cB r.eq]))] h fun a w h=>qV (rA 1 ((zT (za1 r.t))++[cB r.eq]) h zjm rfl ?_)
 rfl
theorem LOf (r:za6) (hr:TOk 1000000000 10000 r.t):Fn Tryz.prog 104 [] [(vR r)] (vF (zbd r)) []:=by
 refine fB Tryz.func104 rfl 6 fun w H B a h=>Jq 0 [] [(1,vp 0 0),(2,vp 1 0)] [(0,.box (zR_ r)),(1,.box zF0)] h fun a w h=>Jd 2 [(1,.call (Lcopied r hr))] [1] [] [(1,.box ([cI 2,cPs (cpR r).t.parts]++zi (cpR r).t.k++[cB (cpR r).eq,nCl]))] h fun a w h=>qV ?_
 replace h:=zb2 1 5 6 ([cI 2,cPs (cpR r).t.parts]++zi (cpR r).t.k++[cB (cpR r).eq,nCl]) h;refine rA 1 ([cI 2,cPs (cpR r).t.parts]++zi (cpR r).t.k++[cB (cpR r).eq,cFs []]) h zc0 rfl ?_;rfl
theorem zih (b:Bool) :Fn Tryz.prog 109 [] [vb b] (vF (zbo b)) []:=by
 refine fB Tryz.func109 rfl 6 fun w H B a h=>Jq 0 [] [(0,vb b),(2,vp 0 0)] [(0,.box zF0)] h fun a w h=>qW (Je 1 [] [0] [(3,vb b)] h fun a w h=>cS b h (fun hc1=>?_) (fun hc2=>?_))
 ·refine Je 1 [] [3] [] h fun a w h=>qV (za5 ?_);replace h:=zb2 0 1 3 zF0 h;replace h:=zb2 0 5 6 [cI 0,cPs [],cB false,.d (nsl []),cB false,nCl] h;refine rA 0 [cI 0,cPs [],cB false,.d (nsl []),cB false,cFs []] h zc0 rfl ?_;rw [hc1];rfl
 refine qU (za2 (Jd 1 [] [3] [] [(0,.box [cI 1,nCl,cB false,.d (nsl []),cB false,nCl])] h fun a w h=>qV ?_));replace h:=zb2 0 1 3 [cI 1,nCl,cB false,.d (nsl []),cB false,nCl] h;replace h:=zb2 0 5 6 [cI 1,cPs [],cB false,.d (nsl []),cB false,nCl] h;refine rA 0 [cI 1,cPs [],cB false,.d (nsl []),cB false,cFs []] h zc0 rfl ?_;rw [hc2];rfl
theorem take_min1 (xs:List α):xs.take (min xs.length 1)=xs.take 1:=by
 cases xs with
 | nil=>rfl
 | cons x xs=>rw [Nat.min_eq_right (by simp)]
theorem Lkids (f:za0) (hk:f.kids.length<=9223372036854775807):Fn Tryz.prog 162 [] [(vF f)] (vFs (cnt f.kind f.kids)) []:=by
 refine fB Tryz.func162 rfl 19 fun w H B a h=>Jq 0 [] [(1,vp 0 0),(2,vW zai)] [(0,.box (zF f))] h fun a w h=>qW (Je 1 [] [] [(4,vI f.kind)] h fun a w h=>qZ (qW (Je 1 [] [] [(5,vb (f.kind == 4))] h fun a w h=>cS (f.kind == 4) h (fun hc1=>?_) (fun hc2=>?_))))
 ·refine qU (za2 (cS (f.kind == 4) h (fun hc=>?_) (fun hc=>?_)))
  ·clear hc;refine Jq 1 [] [(2,(vFs f.kids))] [] h fun a w h=>qV (za9 (za5 (rT (.c (cFs f.kids)) h rfl ?_)));have p4: f.kind=4:=by have:=hc1;simpa using this
   have hz:cnt f.kind f.kids=f.kids:=by unfold cnt;rw [if_pos (by omega)]
   rw [hz];try rfl
  rw [hc1] at hc;cases hc
 refine Jf 1 [] [] [(5,vb (f.kind == 5))] h fun a w h=>za2 (cS (f.kind == 5) h (fun hc3=>?_) (fun hc4=>?_))
 ·refine Jq 1 [] [(2,(vFs f.kids))] [] h fun a w h=>qV (za9 (za5 (rT (.c (cFs f.kids)) h rfl ?_)));have p4:¬ f.kind=4:=by have:=hc2;simpa using this
  have p5: f.kind=5:=by have:=hc3;simpa using this
  have hz:cnt f.kind f.kids=f.kids:=by unfold cnt;rw [if_pos (by omega)]
  rw [hz];try rfl
 refine Je 1 [] [4,5] [(10,vb (f.kind == 3))] h fun a w h=>cS (f.kind == 3) h (fun hc5=>?_) (fun hc6=>?_)
 ·refine Jq 1 [(4,.len (za4 6 za0.d f.kids)),(5,.g (Op.min2 (d:=17) (tys:=#[3,3]) (k:=.i64) (m:=(f.kids.length:Int)) (n:=1) (r:=((min f.kids.length 1:Nat):Int)) (OV.tmp 16 _) (OV.const (.int .i64 1) rfl) (by omega))),(6,.g (Op.sliceD (d:=18) (t:=13) (l:=0) (h:=(min f.kids.length 1)) (rows:=f.kids.map za0.d) (rows':=(f.kids.take (min f.kids.length 1)).map za0.d) zfx (BO.no _) (BO.yes (k:=.i64) (i:=(min f.kids.length 1)) _ (OV.tmp 17 _)) (by first | omega | (simp at *;omega)) (by first | omega | (simp only [bE];omega) | (simp at *;omega)) (by simp [dV])))] [(2,(vFs (f.kids.take (min f.kids.length 1))))] [] h fun a w h=>qV (za9 (za5 (rT (.c (cFs (f.kids.take (min f.kids.length 1)))) h rfl ?_)));have p4:¬ f.kind=4:=by have:=hc2;simpa using this
  have p5:¬ f.kind=5:=by have:=hc4;simpa using this
  have p3: f.kind=3:=by have:=hc5;simpa using this
  have hz:cnt f.kind f.kids=(f.kids.take (min f.kids.length 1)):=by unfold cnt;rw [if_neg (by omega),if_pos (by omega),<- take_min1]
  rw [hz];try rfl
 refine qU (za7 (za2 (Jg 1 [] [1,10] [] [0] [] h fun a w h=>qV ?_)));replace h:=nilDSx 2 0 6 (vW zai) h;refine rT (.c (cFs [])) h rfl ?_;have p4:¬ f.kind=4:=by have:=hc2;simpa using this
 have p5:¬ f.kind=5:=by have:=hc4;simpa using this
 have p3:¬ f.kind=3:=by have:=hc6;simpa using this
 have hz:cnt f.kind f.kids=[]:=by unfold cnt;rw [if_neg (by omega),if_neg (by omega)]
 rw [hz];try rfl
theorem Lclones (fs:List za0) (hcl:∀ g ∈ fs,Fn Tryz.prog 114 [] [(vF g)] (vF (za0.cl g)) []) (hl:fs.length<=1000000000000):Fn Tryz.prog 71 [] [(vFs fs)] (vFs (fs.map za0.cl)) []:=by
 refine fB Tryz.func71 rfl 19 fun w H B a h=>Jq 5 [] [(0,(vFs fs)),(2,vW zai)] [] h fun a w h=>Jg 5 [] [] [(3,vW zai)] [] [] h fun a w h=>qW (Jg 5 [(1,.len (za4 6 za0.d fs))] [0] [(6,(vFs fs)),(7,vN fs.length),(8,vI 0)] [] [] h fun a w h=>qZ ?_)
 replace h:=zep 3 0 5 6 35 (vW zai) h
 refine zbz (ι:=(Nat)) (fun j=>j<=fs.length)
   [] (fun j=>[(3,vO 5 ((fs.take j).map za0.cl).length),(8,vN j)])
   [] (fun j=>[(5,.row 35 6 (((fs.take j).map za0.cl).map za0.d))])
   (fun j=>fs.length - j) 0 ?_ h ?_
 ·exact bC _
 clear h;rintro j a w hI h;have lmj:((fs.take j).map za0.cl).length<=j:=by rw [bE,cV];omega
 refine Je 6 [] [] [(9,vb (decide ((j:Int)<(fs.length:Int))))] h fun a w h=>qW (zae ((j:Int)<(fs.length:Int)) h (fun hc1 hc1'=>?_) (fun hc2 hc2'=>?_))
 ·refine qU (za2 (qW (qZ ?_)));obtain ⟨x1,hx1⟩:=gl fs j;refine Jg 6 [(0,.g (xD 10 6 zfx ((za8 hx1 (f:=za0.d)).trans (congrArg some (za0.d_eq x1))) (OV.tmp 8 _)))] [9] [(5,vp 6 0)] [] [(6,.box (zF x1))] h fun a w h=>Jh 7 [(2,.call (hcl x1 (lM hx1))),(3,.g (bD 15 ([(za0.cl x1)].map za0.d) [(14,(vF (za0.cl x1)))] kb_1 (.cons (i:=0) (OV.tmp 14 _) (.nil)) (by simp only [bP,b8,cX,cY,cO,za0.d_eq];kernel_rfl) (by simp [za0.d_len]))),(4,.g (aD 16 12 15 5 7 ((fs.take j).map za0.cl) [(za0.cl x1)] za0.d la_7 (by simp [za0.d_len])))] [5] [(3,vO 7 (((fs.take j).map za0.cl)++[(za0.cl x1)]).length)] [5,6] [(7,.row 35 6 ((((fs.take j).map za0.cl)++[(za0.cl x1)]).map za0.d))] h fun a w h=>za7 (za2 (Jf 8 [(0,.j1 j)] [] [(8,vI ((j:Int)+1))] h fun a w h=>za2 ?_));rw [show ((((fs.take j).map za0.cl)++[(za0.cl x1)]):List za0)=((fs.take (j+1)).map za0.cl) from (ze6 hx1)] at h;replace h:=zcr 7 5 h;refine zaa (x:=j) (y:=j+1) h ?_ ?_
  ·have:=zac hx1;show j+1<=fs.length;omega
  show fs.length - (j+1)<fs.length - j;have:=zac hx1;omega
 refine exA (Jp 8 [] [(2,vO 5 ((fs.take j).map za0.cl).length)] h fun a w h=>qV ?_);rw [show (((fs.take j).map za0.cl):List za0)=(fs.map za0.cl) from (by rw [cU (by omega)])] at h;replace h:=zh5 5 6 35 ((fs.map za0.cl).map za0.d) h [(fs.map za0.cl).length] ⟨by first | exact (bE _).symm | (simp;done) | (simp;omega),trivial⟩;refine rT (.c (cFs (fs.map za0.cl))) h rfl ?_;rfl
def za0.okB (n L:Nat) (f:za0):Prop:=f.fold fun k r ks ps=>((k=2->TOk n L r.t)/\ks.length<=9223372036854775807/\(cnt k ks).length<=1000000000000)/\∀ p ∈ cnt k ps,p
theorem za0.okB_eq (n L:Nat) (f:za0):f.okB n L ↔ ((f.kind=2->TOk n L f.r.t)/\f.kids.length<=9223372036854775807/\(cnt f.kind f.kids).length<=1000000000000)/\∀ g ∈ cnt f.kind f.kids,g.okB n L:=by
 have:=za0.fold_eq (fun k r ks (ps:List Prop)=>((k=2->TOk n L r.t)/\ks.length<=9223372036854775807/\(cnt k ks).length<=1000000000000)/\∀ p ∈ cnt k ps,p) f
 rw [zdf] at this
 unfold za0.okB
 rw [this]
 refine and_congr_right fun _=>⟨fun h g hg=>h _ (bL.2 ⟨g,hg,rfl⟩),fun h p hp=>?_⟩
 obtain ⟨g,hg,rfl⟩:=bL.1 hp
 exact h g hg
theorem za0.okB_mono {L L':Nat} (hn:n<=n') (hL:L<=L') (f:za0):f.okB n L->f.okB n' L' :=
 za0.ind (P:=fun f=>f.okB n L->f.okB n' L') (fun k r ks ih hf=>by
  rw [za0.okB_eq] at hf ⊢
  exact ⟨⟨fun e=>(hf.1.1 e).mono hn hL,hf.1.2⟩,fun g hg=>ih g (zbw hg) (hf.2 g hg)⟩) f
theorem okB_tru (n L:Nat) (b:Bool):(zbo b).okB n L:=by
 rw [za0.okB_eq];cases b <;> exact ⟨⟨fun e=>absurd e (by decide),bC _,bC _⟩,fun g hg=>by cases hg⟩
theorem zi1 {L:Nat} {r:za6} (h:TOk n L r.t):(za0.mk 2 r []).okB n L:=by
 rw [za0.okB_eq];exact ⟨⟨fun _=>h,bC _,bC _⟩,fun g hg=>by cases hg⟩
theorem zgu {L:Nat} {r:za6} {ks:List za0} (hk:k≠2) (hl:ks.length<=1000000000000) (h:∀ g ∈ ks,g.okB n L):(za0.mk k r ks).okB n L:=by
 rw [za0.okB_eq];exact ⟨⟨fun e=>absurd e hk,b5 hl (by decide),b5 (cnt_len _ _) hl⟩,fun g hg=>h g (zbw hg)⟩
theorem okB_each {L L':Nat} {t:za6->za6} (ht:∀ r,TOk n L r.t->TOk n' L' (t (cpR r)).t) (f:za0):f.okB n L->(f.each t).okB n' L' :=
 za0.ind (P:=fun f=>f.okB n L->(f.each t).okB n' L') (fun k r ks ih hf=>by
  obtain ⟨⟨h1,h2⟩,h3⟩:=(za0.okB_eq _ _ _).1 hf
  change k=2->_ at h1
  change ks.length<=_/\(cnt k ks).length<=_ at h2
  change ∀ g ∈ cnt k ks,_ at h3
  rw [za0.each_eq]
  show (zfg t k r (ks.map (za0.each t))).okB n' L'
  unfold zfg
  split
  ·exact okB_tru _ _ _
  ·split
   ·rename_i e;exact zi1 (ht r (h1 e))
   ·split
    ·rename_i hk2 h4
     refine zgu hk2 (by rw [zdf,bE];exact h2.2) fun g hg=>?_
     rw [zdf] at hg
     obtain ⟨q,hq,rfl⟩:=bL.1 hg
     exact ih q (zbw hq) (h3 q hq)
    ·exact okB_tru _ _ _) f
theorem okB_cl {L:Nat} (hn:n<=1000000000) (f:za0) (h:f.okB n L):f.cl.okB n (L+1):=okB_each (t:=id) (fun r hr=>hr.plain hn) f h
theorem zdc {L:Nat} (h:f.okB n L):f.kids.length<=9223372036854775807:=((za0.okB_eq _ _ _).1 h).1.2.1
theorem zeh {L:Nat} (h:f.okB n L):(cnt f.kind f.kids).length<=1000000000000:=((za0.okB_eq _ _ _).1 h).1.2.2
theorem zga {L:Nat} {g:za0} (h:f.okB n L) (hg:g ∈ cnt f.kind f.kids):g.okB n L:=((za0.okB_eq _ _ _).1 h).2 g hg
theorem rel_ok {L:Nat} (h:f.okB n L) (e:(f.kind == 2)=true):TOk n L f.r.t:=((za0.okB_eq _ _ _).1 h).1.1 (by simpa using e)
theorem cl_tru (e:(f.kind == 0)=true):f.cl=zbo true:=by rw [cl_eq];unfold zfg;rw [if_pos (by simpa using e)]
theorem cl_at (e:(f.kind == 2)=true):f.cl=zbd f.r:=by
 have e:f.kind=2:=by simpa using e
 rw [cl_eq,e];rfl
theorem cl_kids (e:f.kind=3\/f.kind=4\/f.kind=5):f.cl=⟨f.kind,zR,(cnt f.kind f.kids).map za0.cl⟩:=by
 rw [cl_eq,zff _ _ _ e,zdf]
theorem cl_out (h0:(f.kind == 0)=false) (h2:(f.kind == 2)=false) (h3:(f.kind == 3)=false) (h4:(f.kind == 4)=false) (h5:(f.kind == 5)=false):f.cl=zbo false:=by
 simp only [beq_eq_false_iff_ne] at h0 h2 h3 h4 h5
 rw [cl_eq,zge _ _ _ h0 h2 (by omega)]
theorem Lclone0 (f:za0) (ih:∀ g ∈ cnt f.kind f.kids,Fn Tryz.prog 114 [] [(vF g)] (vF (za0.cl g)) []) (hf:f.okB 1000000000 10000):Fn Tryz.prog 114 [] [(vF f)] (vF (za0.cl f)) []:=by
 refine fB Tryz.func114 rfl 24 fun w H B a h=>Jq 0 [] [(1,vp 0 0),(2,vp 1 0)] [(0,.box (zF f)),(1,.box zF0)] h fun a w h=>qW (Je 2 [] [] [(4,vI f.kind)] h fun a w h=>qZ (Je 2 [] [] [(5,vb (f.kind == 0))] h fun a w h=>cS (f.kind == 0) h (fun hc1=>?_) (fun hc2=>?_)))
 ·refine Jq 2 [(0,.call (zih true))] [(2,vp 1 0)] [(1,.box (zF (zbo true)))] h fun a w h=>qV (za9 (za5 (rA 1 (zF (zbo true)) h zc0 rfl ?_)));rw [cl_tru hc1];try rfl
 refine Je 2 [] [5] [(8,vb (f.kind == 2))] h fun a w h=>cS (f.kind == 2) h (fun hc3=>?_) (fun hc4=>?_)
 ·refine Jq 2 [(2,.call (LOf f.r (rel_ok hf hc3)))] [(2,vp 1 0)] [(1,.box (zF (zbd f.r)))] h fun a w h=>qV (za9 (za5 (rA 1 (zF (zbd f.r)) h zc0 rfl ?_)));rw [cl_at hc3];try rfl
 refine qW (Je 2 [] [8] [(13,vb (f.kind == 3))] h fun a w h=>cS (f.kind == 3) h (fun hc5=>?_) (fun hc6=>?_))
 ·refine qU (za2 (cS (f.kind == 3) h (fun hc=>?_) (fun hc=>?_)))
  ·clear hc;refine Jq 2 [(3,.call (Lkids f (zdc hf))),(4,.call (Lclones (cnt f.kind f.kids) ih (zeh hf)))] [(2,vp 1 0)] [(1,.box [cI f.kind,nCl,cB false,.d (nsl []),cB false,cFs ((cnt f.kind f.kids).map za0.cl)])] h fun a w h=>qV (za9 (za5 ?_));replace h:=zb2 1 1 3 [cI f.kind,nCl,cB false,.d (nsl []),cB false,cFs ((cnt f.kind f.kids).map za0.cl)] h;refine rA 1 [cI f.kind,cPs [],cB false,.d (nsl []),cB false,cFs ((cnt f.kind f.kids).map za0.cl)] h zc0 rfl ?_;rw [cl_kids (by have:=hc5;simp at this;omega)];try rfl
  rw [hc5] at hc;cases hc
 refine Je 2 [] [] [(13,vb (f.kind == 4))] h fun a w h=>cS (f.kind == 4) h (fun hc7=>?_) (fun hc8=>?_)
 ·refine qU (za2 (cS (f.kind == 4) h (fun hc=>?_) (fun hc=>?_)))
  ·clear hc;refine Jq 2 [(3,.call (Lkids f (zdc hf))),(4,.call (Lclones (cnt f.kind f.kids) ih (zeh hf)))] [(2,vp 1 0)] [(1,.box [cI f.kind,nCl,cB false,.d (nsl []),cB false,cFs ((cnt f.kind f.kids).map za0.cl)])] h fun a w h=>qV (za9 (za5 ?_));replace h:=zb2 1 1 3 [cI f.kind,nCl,cB false,.d (nsl []),cB false,cFs ((cnt f.kind f.kids).map za0.cl)] h;refine rA 1 [cI f.kind,cPs [],cB false,.d (nsl []),cB false,cFs ((cnt f.kind f.kids).map za0.cl)] h zc0 rfl ?_;rw [cl_kids (by have:=hc7;simp at this;omega)];try rfl
  rw [hc7] at hc;cases hc
 refine Jf 2 [] [4] [(13,vb (f.kind == 5))] h fun a w h=>za2 (cS (f.kind == 5) h (fun hc9=>?_) (fun hc10=>?_))
 ·refine Jq 2 [(3,.call (Lkids f (zdc hf))),(4,.call (Lclones (cnt f.kind f.kids) ih (zeh hf)))] [(2,vp 1 0)] [(1,.box [cI f.kind,nCl,cB false,.d (nsl []),cB false,cFs ((cnt f.kind f.kids).map za0.cl)])] h fun a w h=>qV (za9 (za5 ?_));replace h:=zb2 1 1 3 [cI f.kind,nCl,cB false,.d (nsl []),cB false,cFs ((cnt f.kind f.kids).map za0.cl)] h;refine rA 1 [cI f.kind,cPs [],cB false,.d (nsl []),cB false,cFs ((cnt f.kind f.kids).map za0.cl)] h zc0 rfl ?_;rw [cl_kids (by have:=hc9;simp at this;omega)];try rfl
 refine qU (za7 (za2 (Jq 2 [(0,.call (zih false))] [(2,vp 1 0)] [(1,.box (zF (zbo false)))] h fun a w h=>qV (rA 1 (zF (zbo false)) h zc0 rfl ?_))));rw [cl_out hc2 hc4 hc6 hc8 hc10];try rfl
theorem zgj (f:za0):f.okB 1000000000 10000->Fn Tryz.prog 114 [] [(vF f)] (vF (za0.cl f)) [] :=
 za0.ind (P:=fun f=>f.okB 1000000000 10000->Fn Tryz.prog 114 [] [(vF f)] (vF (za0.cl f)) []) (fun k r ks ih hf=>Lclone0 ⟨k,r,ks⟩ (fun g hg=>ih g (zbw hg) (zga hf hg)) hf) f
theorem LDeny (f:za0) (hf:f.okB 1000000000 10000):Fn Tryz.prog 105 [] [(vF f)] (vF (zj4 f)) []:=by
 refine fB Tryz.func105 rfl 7 fun w H B a h=>Jq 0 [] [(1,vp 0 0),(2,vp 1 0)] [(0,.box (zF f)),(1,.box zF0)] h fun a w h=>Jd 2 [(1,.call (zgj f hf)),(2,.g (bD 5 ([(za0.cl f)].map za0.d) [(4,(vF (za0.cl f)))] kb_1 (.cons (i:=0) (OV.tmp 4 _) (.nil)) (by simp only [bP,b8,cX,cY,cO,za0.d_eq];kernel_rfl) (by simp [za0.d_len])))] [1] [] [(1,.box [cI 3,nCl,cB false,.d (nsl []),cB false,cFs [(za0.cl f)]])] h fun a w h=>qV ?_
 replace h:=zb2 1 1 3 [cI 3,nCl,cB false,.d (nsl []),cB false,cFs [(za0.cl f)]] h;refine rA 1 [cI 3,cPs [],cB false,.d (nsl []),cB false,cFs [(za0.cl f)]] h zc0 rfl ?_;rfl
theorem LAll (fs:List za0) (hf:∀ g ∈ fs,g.okB 1000000000 10000) (hl:fs.length<=1000000000000):Fn Tryz.prog 35 [] [(vFs fs)] (vF (zca fs)) []:=by
 refine fB Tryz.func35 rfl 6 fun w H B a h=>Jq 0 [] [(0,(vFs fs)),(2,vp 0 0)] [(0,.box zF0)] h fun a w h=>Jd 1 [(1,.call (Lclones fs (fun g hg=>zgj g (hf g hg)) hl))] [0] [] [(0,.box [cI 4,nCl,cB false,.d (nsl []),cB false,cFs (fs.map za0.cl)])] h fun a w h=>qV ?_
 replace h:=zb2 0 1 3 [cI 4,nCl,cB false,.d (nsl []),cB false,cFs (fs.map za0.cl)] h;refine rA 0 [cI 4,cPs [],cB false,.d (nsl []),cB false,cFs (fs.map za0.cl)] h zc0 rfl ?_;rfl
theorem Lknown (b:Bool) :Fn Tryz.prog 122 [] [vb b] (.tup [.agg (zR_ zR),.c (cI (if b=true then 1 else -1))]) []:=by
 refine fB Tryz.func122 rfl 7 fun w H B a h=>Jq 0 [] [(0,vb b),(2,vp 0 0),(3,vI 0)] [(0,.box zR0)] h fun a w h=>qW (Je 1 [] [0] [(4,vb b)] h fun a w h=>cS b h (fun hc1=>?_) (fun hc2=>?_))
 ·refine Je 1 [] [4] [(3,vI 1)] h fun a w h=>qV (za5 ?_);replace h:=zb2 0 0 3 zR0 h;refine zds [.agg [cPs [],cB false,.d (nsl []),cB false],.c (cI 1)] h Exit.ret (.inl rfl)  rfl ⟨RV.agg _ 0 0 _ _ _ _ zjm rfl rfl rfl rfl,RV.tmp _ _ rfl,trivial⟩ ?_;rw [hc1];rfl
 refine qU (za2 (Je 1 [] [4] [(3,vI (-1))] h fun a w h=>qV ?_));replace h:=zb2 0 0 3 zR0 h;refine zds [.agg [cPs [],cB false,.d (nsl []),cB false],.c (cI (-1))] h Exit.ret (.inl rfl)  rfl ⟨RV.agg _ 0 0 _ _ _ _ zjm rfl rfl rfl rfl,RV.tmp _ _ rfl,trivial⟩ ?_;rw [hc2];rfl
theorem shr_len (t:zaf):(zby (za1 t)).parts.length=(za1 t).parts.length:=by
 unfold zby;rw [zbc];split
 ·rfl
 ·exact bE _
theorem plain_k (t:zaf):(za1 t).k.val=t.k.val:=ZI.val_of _
theorem zhd {r:za6} (h:(za1 r.t).parts.length=0):zag r=(zR,if (sgn (za1 r.t).k.val == 0 || (!r.eq && decide (sgn (za1 r.t).k.val>0)))=true then 1 else -1):=by
 unfold zag;rw [if_pos h,plain_k]
theorem tight_le {r:za6} (h:(za1 r.t).parts.length≠0) (he:r.eq=false):zag r=(⟨zby (za1 r.t),false⟩,0):=by
 unfold zag;rw [if_neg h,if_neg (fun e=>by rw [he] at e;exact Bool.noConfusion e.1),he,zir];rfl
theorem tight_no {r:za6} (h:(za1 r.t).parts.length≠0) (he:r.eq=true) (hz:(za1 r.t).k.val.fmod (zbm (za1 (za1 r.t)).parts)≠0):zag r=(zR,-1):=by
 rw [zfr,plain_k] at hz
 unfold zag;rw [if_neg h,if_pos ⟨he,hz⟩]
theorem zjx {r:za6} (h:(za1 r.t).parts.length≠0) (he:r.eq=true) (hz:(za1 r.t).k.val.fmod (zbm (za1 (za1 r.t)).parts)=0) {b:Bool} (hb:zia (zby (za1 r.t))=b):zag r=(⟨if b=true then negT (zby (za1 r.t)) else zby (za1 r.t),true⟩,0):=by
 rw [zfr,plain_k] at hz
 rw [zir] at hb ⊢
 unfold zag;rw [if_neg h,if_neg (fun e=>e.2 hz),he,hb];rfl
theorem zkc {p:za3} (h:t.parts[0]?=some p):zia t=decide (sgn p.c.val<0):=by
 unfold zia
 cases e:t.parts with
 | nil=>rw [e] at h;cases h
 | cons q qs=>rw [e] at h;injection h with h;rw [h]
theorem LTight (r:za6) (hr:TOk 400000000 9000 r.t):Fn Tryz.prog 82 [] [.t (.agg ([.d (.sl 3 (r.t.parts.map za3.d))]++zi r.t.k++[.d (.raw (.bool r.eq))]))] (.tup [.agg ([.d (.sl 3 ((zag r).1.t.parts.map za3.d))]++zi (zag r).1.t.k++[.d (.raw (.bool (zag r).1.eq))]),.c (.d (.raw (.int .i64 (zag r).2)))]) []:=by
 have hpk:=(hr.plain (by decide)).kl;refine fB Tryz.func82 rfl 74 fun w H B a h=>Jq 0 [] [(1,vp 0 0),(2,vp 1 0),(3,vI 0)] [(0,.box ([.d (.sl 3 (r.t.parts.map za3.d))]++zi r.t.k++[.d (.raw (.bool r.eq))])),(1,.box zR0)] h fun a w h=>Jg 2 [(2,.call (zdj r.t hr (by decide) (by decide)))] [] [(4,vp 2 0)] [] [(2,.box ([.d (.sl 3 ((za1 r.t).parts.map za3.d))]++zi (za1 r.t).k))] h fun a w h=>qW (Je 3 [(2,.len (za4 3 za3.d ((za1 r.t).parts)))] [] [(14,vb (((za1 r.t).parts.length:Int) == 0))] h fun a w h=>cS (((za1 r.t).parts.length:Int) == 0) h (fun hc1=>?_) (fun hc6=>?_))
 ·have hpl:(za1 r.t).parts.length=0:=by have:=hc1;simpa using this
  rcases bK (sgn (za1 r.t).k.val == 0) with hc2 | hc3
  ·refine Jg 3 [(2,.call (zjc (za1 r.t).k ((TOk.plain hr (by decide))).kb (by omega))),(3,.cmp (op:=.eql) (m:=(sgn (za1 r.t).k.val)) (n:=0) (b:=true) .i64 hc2),(15,.call (Lknown true))] [14] [(3,vI (if true=true then 1 else -1))] [] [(1,.box ([.d (.sl 3 (zR.t.parts.map za3.d))]++zi zR.t.k++[.d (.raw (.bool zR.eq))]))] h fun a w h=>qV (za5 (zds [.agg ([.d (.sl 3 (zR.t.parts.map za3.d))]++zi zR.t.k++[.d (.raw (.bool zR.eq))]),.c (.d (.raw (.int .i64 (if true=true then 1 else -1))))] h Exit.ret (.inl rfl)  rfl ⟨RV.agg _ 1 0 _ _ _ _ zjm rfl rfl rfl rfl,RV.tmp _ _ rfl,trivial⟩ ?_));rw [zhd hpl,hc2];try rfl
  rcases bK r.eq with hc4 | hc5
  ·rw [hc4] at h;refine Jq 3 [(2,.call (zjc (za1 r.t).k ((TOk.plain hr (by decide))).kb (by omega))),(3,.cmp (op:=.eql) (m:=(sgn (za1 r.t).k.val)) (n:=0) (b:=false) .i64 hc3),(15,.call (Lknown false))] [(1,vp 0 0),(2,vp 1 0),(3,vI (if false=true then 1 else -1)),(4,vp 2 0)] [(0,.box ([.d (.sl 3 (r.t.parts.map za3.d))]++zi r.t.k++[.d (.raw (.bool true))])),(1,.box ([.d (.sl 3 (zR.t.parts.map za3.d))]++zi zR.t.k++[.d (.raw (.bool zR.eq))])),(2,.box ([.d (.sl 3 ((za1 r.t).parts.map za3.d))]++zi (za1 r.t).k))] h fun a w h=>qV (za5 (zds [.agg ([.d (.sl 3 (zR.t.parts.map za3.d))]++zi zR.t.k++[.d (.raw (.bool zR.eq))]),.c (.d (.raw (.int .i64 (if false=true then 1 else -1))))] h Exit.ret (.inl rfl)  rfl ⟨RV.agg _ 1 0 _ _ _ _ zjm rfl rfl rfl rfl,RV.tmp _ _ rfl,trivial⟩ ?_));rw [zhd hpl,hc3,hc4];try rfl
  rw [hc5] at h;refine Jq 3 [(2,.call (zjc (za1 r.t).k ((TOk.plain hr (by decide))).kb (by omega))),(3,.cmp (op:=.eql) (m:=(sgn (za1 r.t).k.val)) (n:=0) (b:=false) .i64 hc3),(11,.call (zjc (za1 r.t).k ((TOk.plain hr (by decide))).kb (by omega))),(15,.call (Lknown (decide (sgn (za1 r.t).k.val>0))))] [(1,vp 0 0),(2,vp 1 0),(3,vI (if (decide (sgn (za1 r.t).k.val>0))=true then 1 else -1)),(4,vp 2 0)] [(0,.box ([.d (.sl 3 (r.t.parts.map za3.d))]++zi r.t.k++[.d (.raw (.bool false))])),(1,.box ([.d (.sl 3 (zR.t.parts.map za3.d))]++zi zR.t.k++[.d (.raw (.bool zR.eq))])),(2,.box ([.d (.sl 3 ((za1 r.t).parts.map za3.d))]++zi (za1 r.t).k))] h fun a w h=>qV (za5 (zds [.agg ([.d (.sl 3 (zR.t.parts.map za3.d))]++zi zR.t.k++[.d (.raw (.bool zR.eq))]),.c (.d (.raw (.int .i64 (if (decide (sgn (za1 r.t).k.val>0))=true then 1 else -1))))] h Exit.ret (.inl rfl)  rfl ⟨RV.agg _ 1 0 _ _ _ _ zjm rfl rfl rfl rfl,RV.tmp _ _ rfl,trivial⟩ ?_));rw [zhd hpl,hc3,hc5];try rfl
 refine qU (za2 (qW ?_));have hpl:(za1 r.t).parts.length≠0:=by have:=hc6;simpa using this
 have hcon:=con_pos (t:=r.t) (by omega);have hcon2:zbm (za1 (za1 r.t)).parts=zbm (za1 r.t).parts:=zfr _;have hsl:=shr_len r.t;refine Jg 3 [] [1,14] [(35,vb (!r.eq))] [0] [] h fun a w h=>cS (!r.eq) h (fun hc7=>?_) (fun hc8=>?_)
 ·refine Jg 3 [(1,.call (SShrink (za1 r.t) (TOk.plain hr (by decide)) (by decide) (by decide)))] [35] [] [] [(2,.box ([.d (.sl 3 ((zby (za1 r.t)).parts.map za3.d))]++zi (zby (za1 r.t)).k))] h fun a w h=>Jg 3 [] [] [] [] [(1,.box ([.d (.sl 3 ((zby (za1 r.t)).parts.map za3.d))]++zi (zby (za1 r.t)).k++[.d (.raw (.bool false))]))] h fun a w h=>qV (za5 (zds [.agg ([.d (.sl 3 ((zby (za1 r.t)).parts.map za3.d))]++zi (zby (za1 r.t)).k++[.d (.raw (.bool false))]),.c (.d (.raw (.int .i64 0)))] h Exit.ret (.inl rfl)  rfl ⟨RV.agg _ 1 0 _ _ _ _ zjm rfl rfl rfl rfl,RV.tmp _ _ rfl,trivial⟩ ?_));rw [tight_le hpl (by simpa using hc7)];try rfl
 refine qU (za2 (qW ?_));obtain ⟨r12,er12,vr12,or12,lr12⟩:=mkZ (v:=zbm (za1 (za1 r.t)).parts) (m:=9002) (con_len' (TOk.plain hr (by decide)) (by decide));obtain ⟨r13q,er13q,vr13q,or13q,lr13q⟩:=mkZ (v:=(za1 r.t).k.val.fdiv r12.val) (m:=(za1 r.t).k.abs.length) (zfp ((TOk.plain hr (by decide))).kb (by omega));obtain ⟨r13r,er13r,vr13r,or13r,lr13r⟩:=mkZ (v:=(za1 r.t).k.val.fmod r12.val) (m:=r12.abs.length) (zgv or12 (by omega));refine Jg 3 [(3,.call (Fn.cast (SContent (za1 r.t) (TOk.plain hr (by decide)) (by decide) (by decide)) (congrArg vz er12.symm))),(4,.call (Fn.cast (SDiv (za1 r.t).k r12 ((TOk.plain hr (by decide))).kb or12 (by omega) (by omega) (by omega)) (show _=(.tup [.agg (zi r13q),.agg (zi r13r),.c (.d (.raw (.int .i64 0)))]:V) by rw [er13q,er13r];try rfl)))] [35] [(6,vp 4 0)] [] [(4,.box (zi r13r))] h fun a w h=>Jg 5 [(1,.call (zjc r13r or13r (by omega)))] [6] [(54,vb (sgn r13r.val != 0))] [4] [] h fun a w h=>cS (sgn r13r.val != 0) h (fun hc9=>?_) (fun hc10=>?_)
 ·refine Jg 5 [(0,.call (Lknown false))] [54] [(3,vI (if false=true then 1 else -1))] [] [(1,.box ([.d (.sl 3 (zR.t.parts.map za3.d))]++zi zR.t.k++[.d (.raw (.bool zR.eq))]))] h fun a w h=>qV (za5 (zds [.agg ([.d (.sl 3 (zR.t.parts.map za3.d))]++zi zR.t.k++[.d (.raw (.bool zR.eq))]),.c (.d (.raw (.int .i64 (if false=true then 1 else -1))))] h Exit.ret (.inl rfl)  rfl ⟨RV.agg _ 1 0 _ _ _ _ zjm rfl rfl rfl rfl,RV.tmp _ _ rfl,trivial⟩ ?_));rw [tight_no hpl (by simpa using hc8) (by rw [<- vr12,<- vr13r];exact sgn_ne hc9)];try rfl
 refine qU (za2 (Jg 5 [(1,.call (SShrink (za1 r.t) (TOk.plain hr (by decide)) (by decide) (by decide)))] [54] [] [] [(2,.box ([.d (.sl 3 ((zby (za1 r.t)).parts.map za3.d))]++zi (zby (za1 r.t)).k))] h fun a w h=>qW ?_));obtain ⟨x17,hx17⟩:=gl ((zby (za1 r.t)).parts) 0;obtain ⟨ox17,lx17⟩:=((shr_tok (TOk.plain hr (by decide)) (by decide))).get hx17;refine Je 5 [(2,.g (xD 65 64 zc1 (za8 hx17 (f:=za3.d)) (OV.const (.int .i64 0) rfl))),(5,.call (zjc x17.c ox17 (by omega)))] [] [(69,vb (decide (sgn x17.c.val<0)))] h fun a w h=>zae (sgn x17.c.val<0) h (fun hc11 hc11'=>?_) (fun hc12 hc12'=>?_)
 ·refine Jh 5 [(1,.call (SNeg3 (zby (za1 r.t)) ((shr_tok (TOk.plain hr (by decide)) (by decide)).mono (by decide) (by decide))))] [69] [] [] [(2,.box ([.d (.sl 3 ((negT (zby (za1 r.t))).parts.map za3.d))]++zi (negT (zby (za1 r.t))).k))] h fun a w h=>za2 (Jg 5 [] [4] [] [2] [(1,.box ([.d (.sl 3 ((negT (zby (za1 r.t))).parts.map za3.d))]++zi (negT (zby (za1 r.t))).k++[.d (.raw (.bool true))]))] h fun a w h=>qV (zds [.agg ([.d (.sl 3 ((negT (zby (za1 r.t))).parts.map za3.d))]++zi (negT (zby (za1 r.t))).k++[.d (.raw (.bool true))]),.c (.d (.raw (.int .i64 0)))] h Exit.ret (.inl rfl)  rfl ⟨RV.agg _ 1 0 _ _ _ _ zjm rfl rfl rfl rfl,RV.tmp _ _ rfl,trivial⟩ ?_));rw [zjx hpl (by simpa using hc8) (by rw [<- vr12,<- vr13r];exact sgn_eq hc10) (b:=true) (by rw [zkc hx17];exact hc11)];try rfl
 refine qU (za2 (Jg 5 [] [4,69] [] [2] [(1,.box ([.d (.sl 3 ((zby (za1 r.t)).parts.map za3.d))]++zi (zby (za1 r.t)).k++[.d (.raw (.bool true))]))] h fun a w h=>qV (zds [.agg ([.d (.sl 3 ((zby (za1 r.t)).parts.map za3.d))]++zi (zby (za1 r.t)).k++[.d (.raw (.bool true))]),.c (.d (.raw (.int .i64 0)))] h Exit.ret (.inl rfl)  rfl ⟨RV.agg _ 1 0 _ _ _ _ zjm rfl rfl rfl rfl,RV.tmp _ _ rfl,trivial⟩ ?_)));rw [zjx hpl (by simpa using hc8) (by rw [<- vr12,<- vr13r];exact sgn_eq hc10) (b:=false) (by rw [zkc hx17];exact hc12)];try rfl
theorem plain_sub (s t:zaf):za1 (zgo s t)=zgo s t:=zbc _
theorem low_eq {r:ZI} (h:r=ZI.of 1):leaR (zgo (negT t) (zc4 r))=lowR t:=by unfold leaR lowR;rw [plain_sub,h];rfl
theorem Lbelow (t:zaf) (ht:TOk 300000000 3000 t):Fn Tryz.prog 167 [] [(vT t)] (vR (lowR t)) []:=by
 refine fB Tryz.func167 rfl 9 fun w H B a h=>Jq 0 [] [(1,vp 0 0),(2,vp 1 0)] [(0,.box (zT t)),(1,.box zR0)] h fun a w h=>?_
 obtain ⟨r2,er2,vr2,or2,lr2⟩:=mkZ (v:=1) (m:=2) (ZI.len_of (by have:=pw2;omega));refine Jd 2 [(1,.call (SNeg3 t (ht.mono (by decide) (by decide)))),(2,.call (Fn.cast (SOf 1 ⟨by omega,by omega⟩) (congrArg vz er2.symm))),(3,.call (zgi r2 or2 (by omega))),(4,.call (STSub (negT t) (zc4 r2) (((TOk.mul ht (ZI.lb_of _) (show (ZI.of (-1)).abs.length<=2 from by decide)).plain (by decide)).mono (by decide) (by decide)) ((TOk.num (ZI.lb_of _) (b5 (zcp or2) (by omega))).mono (by decide) (by decide)))),(5,.call (LLeast (zgo (negT t) (zc4 r2)) ((addT_ok (((TOk.mul ht (ZI.lb_of _) (show (ZI.of (-1)).abs.length<=2 from by decide)).plain (by decide)).mono (bF 300000000) (show 3003<=3003 by decide)) (((TOk.mul (TOk.num (ZI.lb_of _) (b5 (zcp or2) (by omega))) (ZI.lb_of _) (show (ZI.of (-1)).abs.length<=2 from by decide)).plain (by decide)).mono (bF 0) (show 103<=3003 by decide)) (by decide)).mono (by decide) (by decide))))] [1] [] [(1,.box (zR_ (leaR (zgo (negT t) (zc4 r2)))))] h fun a w h=>qV (rA 1 (zR_ (leaR (zgo (negT t) (zc4 r2)))) h zjm rfl ?_);rw [<- low_eq er2];try rfl
theorem LrDeny (r:za6) (hr:TOk 300000000 2000 r.t):Fn Tryz.prog 119 [] [(vR r)] (vRs (zat r)) []:=by
 refine fB Tryz.func119 rfl 18 fun w H B a h=>Jq 0 [] [(1,vp 0 0),(2,vW zai)] [(0,.box (zR_ r))] h fun a w h=>qW (Je 1 [] [] [(5,vb (!r.eq))] h fun a w h=>cS (!r.eq) h (fun hc1=>?_) (fun hc2=>?_))
 ·refine Je 1 [(2,.call (Lbelow r.t (hr.mono (by decide) (by decide)))),(3,.g (bD 9 ([(lowR r.t)].map za6.d) [(8,(vR (lowR r.t)))] kc_5 (.cons (i:=0) (OV.tmp 8 _) (.nil)) (by kernel_rfl) (by simp [za6.d])))] [5] [(2,(vRs [(lowR r.t)]))] h fun a w h=>qV (za5 (rT (.c (cRs [(lowR r.t)])) h rfl ?_));unfold zat;rw [(show (r.eq)=false from by simpa using hc1)];try rfl
 refine qU (za2 (Jq 1 [(2,.call (SNeg3 r.t (hr.mono (by decide) (by decide)))),(3,.call (Lbelow (negT r.t) (((TOk.mul hr (ZI.lb_of _) (show (ZI.of (-1)).abs.length<=2 from by decide)).plain (by decide)).mono (by decide) (by decide)))),(6,.call (Lbelow r.t (hr.mono (by decide) (by decide)))),(7,.g (Op.buildD (d:=17) (len:=2) (rows:=[(lowR (negT r.t)),(lowR r.t)].map za6.d) (rs:=[(13,(vR (lowR (negT r.t)))),(16,(vR (lowR r.t)))]) kc_5 (.cons (i:=0) (OV.tmp 13 _) (.cons (i:=1) (OV.tmp 16 _) (.nil))) (by kernel_rfl) rfl (by simp [za6.d]) (by decide) (by decide)))] [(2,(vRs [(lowR (negT r.t)),(lowR r.t)]))] [] h fun a w h=>qV (rT (.c (cRs [(lowR (negT r.t)),(lowR r.t)])) h rfl ?_)));unfold zat;rw [(show (r.eq)=true from by simpa using hc2)];try rfl
def zeb (r:za6):Int:=if r.eq=true then 1 else 0
def zbp (x y:za6):Int:=orZ [zha x.t y.t,zbx (zeb x) (zeb y)]
theorem Lrank (r:za6) :Fn Tryz.prog 176 [] [(vR r)] (vI (zeb r)) []:=by
 refine fB Tryz.func176 rfl 5 fun w H B a h=>Jq 0 [] [(1,vp 0 0),(2,vI 0)] [(0,.box (zR_ r))] h fun a w h=>qW (Jg 1 [] [1] [(4,vb r.eq)] [0] [] h fun a w h=>cS r.eq h (fun hc1=>?_) (fun hc2=>?_))
 ·refine Jq 1 [] [(2,vI 1)] [] h fun a w h=>qV (za5 (rT (.c (cI 1)) h rfl ?_));unfold zeb;rw [hc1];try rfl
 refine qU (za2 (Jg 1 [] [4] [] [] [] h fun a w h=>qV (rT (.c (cI 0)) h rfl ?_)));unfold zeb;rw [hc2];try rfl
theorem LCmp (x y:za6) {L:Nat} (hx:TOk n L x.t) (hy:TOk n L y.t) (hn:n<=1000000000) (hL:L<=20000):Fn Tryz.prog 127 [] [(vR x),(vR y)] (vI (zbp x y)) []:=by
 refine fB Tryz.func127 rfl 17 fun w H B a h=>Jq 0 [] [(2,vp 0 0),(3,vp 1 0),(4,vI 0)] [(0,.box (zR_ x)),(1,.box (zR_ y))] h fun a w h=>Jq 2 [(4,.call (STCmp x.t y.t hx hy hn hL)),(6,.call (Lrank x)),(8,.call (Lrank y)),(9,.call (SCompare (zeb x) (zeb y))),(10,.g (Op.buildD (d:=15) (len:=2) (rows:=[(zha x.t y.t),zbx (zeb x) (zeb y)].map zb4) (rs:=[(9,vI (zha x.t y.t)),(14,vI (zbx (zeb x) (zeb y)))]) tb_0 (.cons (i:=0) (OV.tmp 9 _) (.cons (i:=1) (OV.tmp 14 _) (.nil))) (by kernel_rfl) rfl (by simp [zb4]) (by decide) (by decide))),(11,.call (SOr [(zha x.t y.t),zbx (zeb x) (zeb y)] (show List.length _<=1000000000000 from by simp)))] [(4,vI (orZ [(zha x.t y.t),zbx (zeb x) (zeb y)]))] [] h fun a w h=>qV (rT (.c (cI (orZ [(zha x.t y.t),zbx (zeb x) (zeb y)]))) h rfl ?_)
 rfl
theorem LSame (x y:za6) {L:Nat} (hx:TOk n L x.t) (hy:TOk n L y.t) (hn:n<=1000000000) (hL:L<=20000):Fn Tryz.prog 83 [] [(vR x),(vR y)] (vb (zbp x y == 0)) []:=by
 refine fB Tryz.func83 rfl 9 fun w H B a h=>Jq 0 [] [(2,vp 0 0),(3,vp 1 0),(4,vb false)] [(0,.box (zR_ x)),(1,.box (zR_ y))] h fun a w h=>Jq 2 [(2,.call (LCmp x y hx hy hn hL))] [(4,vb ((zbp x y) == 0))] [] h fun a w h=>qV (rT (.c (cB ((zbp x y) == 0))) h rfl ?_)
 rfl
theorem LtightF (r:za6) (hr:TOk 400000000 9000 r.t):Fn Tryz.prog 118 [] [(vR r)] (vF (zav r)) []:=by
 refine fB Tryz.func118 rfl 17 fun w H B a h=>Jq 0 [] [(1,vp 0 0),(2,vp 1 0)] [(0,.box (zR_ r)),(1,.box zF0)] h fun a w h=>Jg 2 [(1,.call (LTight r hr))] [1] [(3,vp 2 0),(4,vI (zag r).2)] [0] [(2,.box (zR_ (zag r).1))] h fun a w h=>qW (Je 3 [] [] [(11,vb ((zag r).2 != 0))] h fun a w h=>cS ((zag r).2 != 0) h (fun hc1=>?_) (fun hc2=>?_))
 ·refine Jg 3 [(2,.call (zih (decide ((zag r).2>0))))] [4,11] [] [] [(1,.box (zF (zbo (decide ((zag r).2>0)))))] h fun a w h=>qV (za5 (rA 1 (zF (zbo (decide ((zag r).2>0)))) h zc0 rfl ?_));unfold zav;rw [if_neg (by simpa using hc1)];try rfl
 refine qU (za2 (Jq 3 [] [(2,vp 1 0)] [(1,.box ([cI 2,cPs (zag r).1.t.parts]++zi (zag r).1.t.k++[cB (zag r).1.eq,nCl]))] h fun a w h=>qV ?_));replace h:=zb2 1 5 6 ([cI 2,cPs (zag r).1.t.parts]++zi (zag r).1.t.k++[cB (zag r).1.eq,nCl]) h;refine rA 1 ([cI 2,cPs (zag r).1.t.parts]++zi (zag r).1.t.k++[cB (zag r).1.eq,cFs []]) h zc0 rfl ?_;unfold zav;rw [if_pos (by simpa using hc2)];try rfl
def za0.wid (f:za0):Nat:=f.fold fun k _ _ ws=>3+(cnt k ws).sum
theorem za0.wid_eq (f:za0):f.wid=3+((cnt f.kind f.kids).map za0.wid).sum:=by
 have:=za0.fold_eq (fun k _ _ (ws:List Nat)=>3+(cnt k ws).sum) f
 rw [zdf] at this;exact this
def za0.nodes (f:za0):Nat:=f.fold fun _ _ _ ns=>1+ns.sum
theorem za0.nodes_eq (f:za0):f.nodes=1+(f.kids.map za0.nodes).sum:=za0.fold_eq (fun _ _ _ (ns:List Nat)=>1+ns.sum) f
theorem zdw (fs:List za0):fs.length<=(fs.map za0.nodes).sum:=by
 induction fs with
 | nil=>exact bF _
 | cons f fs ih=>rw [bP,cG,dC,za0.nodes_eq];omega
theorem zgw (f:za0):f.kids.length+1<=f.nodes:=by rw [za0.nodes_eq];have:=zdw f.kids;omega
theorem zd4:∀ (fs out:List za0),(zb7 k fs out).nodes<=1+(out.map za0.nodes).sum+(fs.map za0.nodes).sum
 | [],out=>by
  unfold zb7
  match out with
  | []=>rw [za0.nodes_eq];show 1+0<=_;omega
  | [g]=>show g.nodes<=_;simp
  | g :: q :: l=>rw [za0.nodes_eq];show 1+((g :: q :: l).map za0.nodes).sum<=_;omega
 | f :: fs,out=>by
  rw [zb7,bP,cG]
  split
  ·omega
  ·split
   ·have:=(zd4 fs out:(zb7 k fs out).nodes<=_);omega
   ·split
    ·have:=(zd4 fs (out++f.kids):(zb7 k fs (out++f.kids)).nodes<=_)
     rw [dH,dY] at this
     have:=za0.nodes_eq f;omega
    ·have:=(zd4 fs (out++[f]):(zb7 k fs (out++[f])).nodes<=_)
     rw [dH,dY] at this
     simp only [bP,b8,cG,dI] at this
     omega
theorem zfl (r:za6):(zav r).nodes=1:=by
 unfold zav;split <;> (rw [za0.nodes_eq];rfl)
theorem zg2 {F G:α->Nat}:∀ {xs:List α}, (∀ x ∈ xs,F x<=G x)->(xs.map F).sum<=(xs.map G).sum
 | [],_=>bF _
 | x :: xs,h=>by
  rw [bP,bP,cG,cG]
  have:=h x (dG ..);have:=zg2 (xs:=xs) fun y hy=>h y (List.mem_cons_of_mem _ hy);omega
theorem zd5 (f:za0):∀ d,(f.flat d).nodes<=f.wid :=
 za0.ind (P:=fun f=>∀ d,(f.flat d).nodes<=f.wid) (fun k r ks ih d=>by
  rw [za0.flat_eq,za0.wid_eq]
  show (zhi k r (ks.map za0.flat) d).nodes<=3+((cnt k ks).map za0.wid).sum
  have ht:∀ b,(zbo b).nodes=1:=fun b=>by rw [za0.nodes_eq];rfl
  unfold zhi
  split
  ·rw [ht];omega
  ·split
   ·split
    ·have h1:=zd4 (k:=5) ((zat r).map zav) []
     rw [bN] at h1
     have e:(za0.nodes ∘ zav)=fun _=>1:=funext fun q=>zfl q
     rw [e] at h1
     have h2:((zat r).map fun _=>(1:Nat)).sum<=2:=by unfold zat;split <;> simp
     show (zb7 5 _ []).nodes<=_
     simp only [b8,dI] at h1
     omega
    ·rw [zfl];omega
   ·split
    ·rename_i h3
     cases ks with
     | nil=>show (zbo d).nodes<=_;rw [ht];omega
     | cons g gs =>
      subst h3
      have:=ih g (dG ..) (!d)
      show (g.flat (!d)).nodes<=3+(([g]).map za0.wid).sum
      simp only [bP,b8,cG,dI];omega
    ·split
     ·rename_i h4
      have h1:=zd4 (k:=if d=true then 9 - k else k) ((ks.map za0.flat).map fun c=>c d) []
      rw [bN,bN] at h1
      have h2:(ks.map (za0.nodes ∘ ((fun c=>c d) ∘ za0.flat))).sum<=(ks.map za0.wid).sum:=zg2 fun g hg=>ih g hg d
      show (zb7 _ _ []).nodes<=_
      rw [show cnt k ks=ks from by unfold cnt;rw [if_pos h4],bN]
      simp only [b8,dI] at h1
      omega
     ·rw [ht];omega) f
theorem tight_tok {L:Nat} {r:za6} (h:TOk n L r.t) (hn:n<=1000000000):TOk n (L+4) (zag r).1.t:=by
 have hs:=shr_tok h hn
 unfold zag
 split
 ·exact ⟨bC _,(fun p hp=>by cases hp),zeu,bC _⟩
 ·split
  ·exact ⟨bC _,(fun p hp=>by cases hp),zeu,bC _⟩
  ·show TOk n (L+4) (if _ then zhh (zby r.t) else zby r.t)
   split
   ·exact ((TOk.mul hs (ZI.lb_of _) (show (ZI.of (-1)).abs.length<=2 from by decide)).plain hn).mono (bF _) (by omega)
   ·exact hs.mono (bF _) (by omega)
theorem zk3 {L:Nat} (h:TOk n L t) (hn:n<=1000000000):TOk n (L+3) (zhh t):=(TOk.mul h (ZI.lb_of _) (show (ZI.of (-1)).abs.length<=2 from by decide)).plain hn
theorem low_tok {L:Nat} (h:TOk n L t) (hn:n<=1000000000):TOk n (2*L+16) (lowR t).t:=by
 have h1:=(zk3 h hn).mono (bF n) (show L+3<=L+6 by omega)
 have h0:TOk 0 2 (zc4 (ZI.of 1)):=TOk.num (ZI.lb_of _) (by decide)
 have h2:TOk 0 (L+6) (zam (zc4 (ZI.of 1)) (ZI.of (-1))):=((TOk.mul h0 (ZI.lb_of _) (show (ZI.of (-1)).abs.length<=2 from by decide)).plain (by decide)).mono (bF _) (by omega)
 exact (addT_ok h1 h2 (by omega)).mono (by omega) (by omega)
theorem deny_tok {L:Nat} {r:za6} (h:TOk n L r.t) (hn:n<=1000000000):∀ q ∈ zat r,TOk n (2*L+22) q.t:=fun q hq=>by
 unfold zat at hq
 split at hq
 ·rcases cN.1 hq with rfl | hq
  ·exact (low_tok (zk3 h hn) hn).mono (bF _) (by omega)
  ·rw [List.mem_singleton.1 hq];exact (low_tok h hn).mono (bF _) (by omega)
 ·rw [List.mem_singleton.1 hq];exact (low_tok h hn).mono (bF _) (by omega)
theorem wid_kid {g:za0} (h:g ∈ cnt f.kind f.kids):g.wid<=f.wid:=by
 rw [za0.wid_eq f]
 have:∀ (xs:List za0),g ∈ xs->g.wid<=(xs.map za0.wid).sum:=fun xs=>by
  induction xs with
  | nil=>intro h;cases h
  | cons x xs ih =>
   intro h
   rw [bP,cG]
   rcases cN.1 h with rfl | h
   ·omega
   ·have:=ih h;omega
 have:=this _ h;omega
theorem flats_nodes {ks:List za0} (h4:k=4\/k=5) {r:za6} (d:Bool) (hw:(za0.mk k r ks).wid<=1000000000000):((ks.map fun g=>g.flat d).map za0.nodes).sum<=(za0.mk k r ks).wid:=by
 rw [za0.wid_eq]
 rw [bN,show cnt (za0.mk k r ks).kind (za0.mk k r ks).kids=ks from (show cnt k ks=ks from by unfold cnt;rw [if_pos h4])]
 have:(ks.map (za0.nodes ∘ fun g=>g.flat d)).sum<=(ks.map za0.wid).sum:=zg2 fun g _=>zd5 g d
 omega
variable {out:List za0}
theorem zcm {fs:List za0} {x:za0} (h:fs[j]?=some x):zb7 k (fs.drop j) out=if (k=4/\x.kind=1)\/(k=5/\x.kind=0) then x else if x.kind=0\/x.kind=1 then zb7 k (fs.drop (j+1)) out else if x.kind=k then zb7 k (fs.drop (j+1)) (out++x.kids) else zb7 k (fs.drop (j+1)) (out++[x]):=by
 obtain ⟨hj,rfl⟩:=bS.1 h
 rw [b7 hj,zb7]
theorem zd6 {fs:List za0} {x:za0} (h:fs[j]?=some x):((fs.drop j).map za0.nodes).sum=x.nodes+((fs.drop (j+1)).map za0.nodes).sum:=by
 obtain ⟨hj,rfl⟩:=bS.1 h
 rw [b7 hj,bP,cG]
theorem zcw (xs ys:List za0):((xs++ys).map za0.nodes).sum=(xs.map za0.nodes).sum+(ys.map za0.nodes).sum:=by rw [dH,dY]
theorem zdv (x:za0):([x].map za0.nodes).sum=x.nodes:=by simp
theorem join_nil (h:out.length=0):zb7 k [] out=zbo (k == 4):=by rw [bW.1 h];rfl
theorem join_one {g:za0} (h:out.length=1) (hg:out[0]?=some g):zb7 k [] out=g:=by
 match out with
 | [q]=>injection hg with hg
 | _ :: _ :: _=>simp at h
theorem join_two (h0:out.length≠0) (h1:out.length≠1):zb7 k [] out=⟨k,zR,out⟩:=by
 match out with
 | []=>exact absurd rfl h0
 | [q]=>exact absurd rfl h1
 | _ :: _ :: _=>rfl
theorem Ljoin (k:Int) (fs:List za0) (hk:k=4\/k=5) (hn:(fs.map za0.nodes).sum<=1000000000000):Fn Tryz.prog 120 [] [vI k,(vFs fs)] (vF (zei k fs)) []:=by
 have lf:=zdw fs;refine fB Tryz.func120 rfl 68 fun w H B a h=>Jq 5 [] [(0,vI k),(1,(vFs fs)),(4,vp 5 0)] [(5,.box zF0)] h fun a w h=>Je 6 [] [] [(5,vW zai)] h fun a w h=>qW (Je 6 [(1,.len (za4 6 za0.d fs))] [1] [(8,(vFs fs)),(9,vN fs.length),(10,vI 0)] h fun a w h=>qZ ?_)
 replace h:=zep 5 0 6 6 35 (vW zai) h
 refine zbz (ι:=(Nat) × (List za0)) (fun (j,out)=>j<=fs.length/\zei k fs=zb7 k (fs.drop j) out/\(out.map za0.nodes).sum+((fs.drop j).map za0.nodes).sum<=1000000000000)
   [] (fun (j,out)=>[(5,vO 6 out.length),(10,vN j)])
   [] (fun (j,out)=>[(6,.row 35 6 (out.map za0.d))])
   (fun (j,out)=>fs.length - j) (0,[]) ?_ h ?_
 ·exact ⟨bC _,rfl,by show 0+(fs.map za0.nodes).sum<=_;omega⟩
 clear h;rintro ⟨j,out⟩ a w hI h;dsimp only at h;obtain ⟨hI1,hI2,hI3⟩:=hI;have lo:=zdw out;refine Je 7 [] [] [(11,vb (decide ((j:Int)<(fs.length:Int))))] h fun a w h=>qW (zae ((j:Int)<(fs.length:Int)) h (fun hc1 hc1'=>?_) (fun hc18 hc18'=>?_))
 ·refine qU (za2 (qW (qZ ?_)));obtain ⟨x1,hx1⟩:=gl fs j;have knx1:=zgw x1;have dnx1:=zd6 hx1;refine Jg 7 [(0,.g (xD 12 8 zfx ((za8 hx1 (f:=za0.d)).trans (congrArg some (za0.d_eq x1))) (OV.tmp 10 _)))] [11] [(7,vp 7 0)] [] [(7,.box (zF x1))] h fun a w h=>qZ (midH h [(0,vI k),(4,vp 5 0),(5,vO 6 out.length),(7,vp 7 0),(8,(vFs fs)),(9,vN fs.length),(10,vN j),(18,vb (decide ((k=4/\x1.kind=1)\/(k=5/\x1.kind=0))))] [(5,.box zF0),(6,.row 35 6 (out.map za0.d)),(7,.box (zF x1))] ?_ (fun a w h=>?_))
  ·rcases bK (k == 4) with hc2 | hc7
   ·refine Je 8 [(1,.cmp (op:=.eql) (m:=k) (n:=4) (b:=true) .i64 hc2)] [] [(18,vb (x1.kind == 1))] h fun a w h=>cS (x1.kind == 1) h (fun hc3=>?_) (fun hc4=>?_)
    ·refine qU (za2 ?_);have p0: k=4:=by have:=hc2;simpa using this
     have p1: x1.kind=1:=by have:=hc3;simpa using this
     have hjn:decide ((k=4/\x1.kind=1)\/(k=5/\x1.kind=0))=(x1.kind == 1):=by exact decide_eq_decide.2 (by omega)
     replace h:=cvM [] [(18,vb (decide ((k=4/\x1.kind=1)\/(k=5/\x1.kind=0))))] [] [] (by rw [hjn];kernel_rfl) h;exact atS h
    rcases bK (k == 5) with hc5 | hc6
    ·refine Jf 8 [(1,.cmp (op:=.eql) (m:=k) (n:=5) (b:=true) .i64 hc5)] [] [(18,vb (x1.kind == 0))] h fun a w h=>za2 ?_;have p0: k=4:=by have:=hc2;simpa using this
     have p1:¬ x1.kind=1:=by have:=hc4;simpa using this
     have p2: k=5:=by have:=hc5;simpa using this
     have hjn:decide ((k=4/\x1.kind=1)\/(k=5/\x1.kind=0))=(x1.kind == 0):=by exact decide_eq_decide.2 (by omega)
     replace h:=cvM [] [(18,vb (decide ((k=4/\x1.kind=1)\/(k=5/\x1.kind=0))))] [] [] (by rw [hjn];kernel_rfl) h;exact atS h
    refine Jf 8 [(1,.cmp (op:=.eql) (m:=k) (n:=5) (b:=false) .i64 hc6)] [] [(18,vb false)] h fun a w h=>za2 ?_;have p0: k=4:=by have:=hc2;simpa using this
    have p1:¬ x1.kind=1:=by have:=hc4;simpa using this
    have p2:¬ k=5:=by have:=hc6;simpa using this
    have hjn:decide ((k=4/\x1.kind=1)\/(k=5/\x1.kind=0))=(false):=by exact decide_eq_false (by omega)
    replace h:=cvM [] [(18,vb (decide ((k=4/\x1.kind=1)\/(k=5/\x1.kind=0))))] [] [] (by rw [hjn];kernel_rfl) h;exact atS h
   refine Je 8 [(1,.cmp (op:=.eql) (m:=k) (n:=4) (b:=false) .i64 hc7)] [] [(18,vb false)] h fun a w h=>zaw h ?_
   rcases bK (k == 5) with hc8 | hc9
   ·refine Jf 8 [(1,.cmp (op:=.eql) (m:=k) (n:=5) (b:=true) .i64 hc8)] [] [(18,vb (x1.kind == 0))] h fun a w h=>za2 ?_;have p0:¬ k=4:=by have:=hc7;simpa using this
    have p1: k=5:=by have:=hc8;simpa using this
    have hjn:decide ((k=4/\x1.kind=1)\/(k=5/\x1.kind=0))=(x1.kind == 0):=by exact decide_eq_decide.2 (by omega)
    replace h:=cvM [] [(18,vb (decide ((k=4/\x1.kind=1)\/(k=5/\x1.kind=0))))] [] [] (by rw [hjn];kernel_rfl) h;exact atS h
   refine Jf 8 [(1,.cmp (op:=.eql) (m:=k) (n:=5) (b:=false) .i64 hc9)] [] [] h fun a w h=>za2 ?_;have p0:¬ k=4:=by have:=hc7;simpa using this
   have p1:¬ k=5:=by have:=hc9;simpa using this
   have hjn:decide ((k=4/\x1.kind=1)\/(k=5/\x1.kind=0))=(false):=by exact decide_eq_false (by omega)
   replace h:=cvM [] [(18,vb (decide ((k=4/\x1.kind=1)\/(k=5/\x1.kind=0))))] [] [] (by rw [hjn];kernel_rfl) h;exact atS h
  refine zae ((k=4/\x1.kind=1)\/(k=5/\x1.kind=0)) h (fun hc10 hc10'=>?_) (fun hc11 hc11'=>?_)
  ·refine Jg 8 [] [7,18] [] [7] [(5,.box (zF x1))] h fun a w h=>qV (za9 (za9 (za5 (za5 (za9 (za5 ?_))))));refine rA 5 (zF x1) h zc0 rfl ?_
   have hz:zei k fs=x1:=by rw [hI2,zcm hx1,if_pos (by omega)]
   rw [hz];try rfl
  rcases bK (x1.kind == 0) with hc12 | hc13
  ·refine Je 8 [(2,.cmp (op:=.eql) (m:=x1.kind) (n:=0) (b:=true) .i64 hc12)] [18] [(34,vb true)] h fun a w h=>cS true h (fun _=>?_) nofun
   refine qU (za7 (za7 (za2 (Jh 8 [(0,.j1 j)] [7,34] [(10,vI ((j:Int)+1))] [7] [] h fun a w h=>za2 (zaa (x:=(j,out)) (y:=(j+1,out)) h ?_ ?_)))))
   ·have:=zac hx1;have hdn:=zd6 hx1;have hxn:=za0.nodes_eq x1;have p0: x1.kind=0:=by have:=hc12;simpa using this
    exact ⟨by omega,by rw [hI2,zcm hx1,if_neg (by omega),if_pos (by omega)],by first | omega | (rw [zcw];(try rw [zdv]);omega)⟩
   show fs.length - (j+1)<fs.length - j;have:=zac hx1;omega
  refine Je 8 [(2,.cmp (op:=.eql) (m:=x1.kind) (n:=0) (b:=false) .i64 hc13)] [18] [(34,vb (x1.kind == 1))] h fun a w h=>cS (x1.kind == 1) h (fun hc14=>?_) (fun hc15=>?_)
  ·refine qU (za7 (za7 (za2 (Jh 8 [(0,.j1 j)] [7,34] [(10,vI ((j:Int)+1))] [7] [] h fun a w h=>za2 (zaa (x:=(j,out)) (y:=(j+1,out)) h ?_ ?_)))))
   ·have:=zac hx1;have hdn:=zd6 hx1;have hxn:=za0.nodes_eq x1;have p0:¬ x1.kind=0:=by have:=hc13;simpa using this
    have p1: x1.kind=1:=by have:=hc14;simpa using this
    exact ⟨by omega,by rw [hI2,zcm hx1,if_neg (by omega),if_pos (by omega)],by first | omega | (rw [zcw];(try rw [zdv]);omega)⟩
   show fs.length - (j+1)<fs.length - j;have:=zac hx1;omega
  refine Je 8 [] [34] [(43,vb (x1.kind == k))] h fun a w h=>cS (x1.kind == k) h (fun hc16=>?_) (fun hc17=>?_)
  ·refine Jh 8 [(3,.g (aD 51 48 50 6 8 out x1.kids za0.d la_7 (by simp [za0.d_len])))] [7,43] [(5,vO 8 (out++x1.kids).length)] [6,7] [(8,.row 35 6 ((out++x1.kids).map za0.d))] h fun a w h=>za7 (za7 (za2 (Jf 9 [(0,.j1 j)] [] [(10,vI ((j:Int)+1))] h fun a w h=>za2 ?_)));replace h:=zcr 8 6 h;refine zaa (x:=(j,out)) (y:=(j+1,(out++x1.kids))) h ?_ ?_
   ·have:=zac hx1;have hdn:=zd6 hx1;have hxn:=za0.nodes_eq x1;have p0:¬ x1.kind=0:=by have:=hc13;simpa using this
    have p1:¬ x1.kind=1:=by have:=hc15;simpa using this
    have p2: x1.kind=k:=by have:=hc16;simpa using this
    exact ⟨by omega,by rw [hI2,zcm hx1,if_neg (by omega),if_neg (by omega),if_pos (by omega)],by first | omega | (rw [zcw];(try rw [zdv]);omega)⟩
   show fs.length - (j+1)<fs.length - j;have:=zac hx1;omega
  refine Jh 9 [(2,.g (bD 16 ([x1].map za0.d) [(15,(vF x1))] kb_1 (.cons (i:=0) (OV.tmp 15 _) (.nil)) (by simp only [bP,b8,cX,cY,cO,za0.d_eq];kernel_rfl) (by simp [za0.d_len]))),(3,.g (aD 17 14 16 6 9 out [x1] za0.d la_7 (by simp [za0.d_len])))] [7,43] [(5,vO 9 (out++[x1]).length)] [6,7] [(9,.row 35 6 ((out++[x1]).map za0.d))] h fun a w h=>za7 (za7 (za2 (Jf 10 [(0,.j1 j)] [] [(10,vI ((j:Int)+1))] h fun a w h=>za2 ?_)));replace h:=zcr 9 6 h;refine zaa (x:=(j,out)) (y:=(j+1,(out++[x1]))) h ?_ ?_
  ·have:=zac hx1;have hdn:=zd6 hx1;have hxn:=za0.nodes_eq x1;have p0:¬ x1.kind=0:=by have:=hc13;simpa using this
   have p1:¬ x1.kind=1:=by have:=hc15;simpa using this
   have p2:¬ x1.kind=k:=by have:=hc17;simpa using this
   exact ⟨by omega,by rw [hI2,zcm hx1,if_neg (by omega),if_neg (by omega),if_neg (by omega)],by first | omega | (rw [zcw];(try rw [zdv]);omega)⟩
  show fs.length - (j+1)<fs.length - j;have:=zac hx1;omega
 refine exA (qW (Je 10 [] [8,9,10,11] [(54,vN out.length)] h fun a w h=>qZ (Je 10 [] [] [(55,vb ((out.length:Int) == 0))] h fun a w h=>cS ((out.length:Int) == 0) h (fun hc19=>?_) (fun hc20=>?_))))
 ·refine Jg 10 [(2,.call (zih (k == 4)))] [54,55] [] [] [(5,.box (zF (zbo (k == 4))))] h fun a w h=>qV (za9 (za5 (rA 5 (zF (zbo (k == 4))) h zc0 rfl ?_)));have hdz:fs.drop j=[]:=b6 (by omega);have hz:zei k fs=zbo (k == 4):=by rw [hI2,hdz];exact join_nil (by have:=hc19;simp at this;first | omega | (rw [this];rfl))
  rw [hz];try rfl
 refine Je 10 [] [54,55] [(60,vb ((out.length:Int) == 1))] h fun a w h=>cS ((out.length:Int) == 1) h (fun hc21=>?_) (fun hc22=>?_)
 ·obtain ⟨x3,hx3⟩:=gl out 0;refine Jg 10 [(1,.g (xO 63 62 6 out.length 0 zfx (OV.const (.int .i64 0) rfl))),(2,.g (Op.loadR_agg (d:=64) (t:=63) (n:=6) (i:=0) (fo:=0) (rty:=35) (es:=6) (xs:=[.raw (.int .i64 x3.kind),.sl 3 (x3.r.t.parts.map za3.d),.raw (.bool x3.r.t.k.neg),nsl x3.r.t.k.abs,.raw (.bool x3.r.eq),.sl 6 (x3.kids.map za0.d)]) zc0 rfl ((za8 hx3 (f:=za0.d)).trans (congrArg some (za0.d_eq x3))) rfl rfl))] [60] [] [] [(5,.box (zF x3))] h fun a w h=>qV (za9 (za5 (rA 5 (zF x3) h zc0 rfl ?_)));have hdz:fs.drop j=[]:=b6 (by omega);have hz:zei k fs=x3:=by rw [hI2,hdz];exact join_one (by have:=hc21;simp at this;omega) hx3
  rw [hz];try rfl
 refine qU (za7 (za2 (Jg 10 [] [0,5,60] [] [] [(5,.box [cI k,nCl,cB false,.d (nsl []),cB false,.own 6 out.length])] h fun a w h=>qV ?_)));replace h:=zb2 5 1 3 [cI k,nCl,cB false,.d (nsl []),cB false,.own 6 out.length] h;replace h:=zh5 6 6 35 (out.map za0.d) h [out.length] ⟨by first | exact (bE _).symm | (simp;done) | (simp;omega),trivial⟩;refine rA 5 [cI k,cPs [],cB false,.d (nsl []),cB false,cFs out] h zc0 rfl ?_;have hdz:fs.drop j=[]:=b6 (by omega);have hz:zei k fs=⟨k,zR,out⟩:=by rw [hI2,hdz];exact join_two (fun e=>by have:=hc20;rw [e] at this;simp at this) (fun e=>by have:=hc22;rw [e] at this;simp at this)
 rw [hz];try rfl
theorem deny_len (r:za6):(zat r).length<=2:=by unfold zat;split <;> simp
theorem tight_sum (r:za6):(((zat r).map zav).map za0.nodes).sum<=1000000000000:=by
 rw [bN]
 have e:(za0.nodes ∘ zav)=fun _=>1:=funext fun q=>zfl q
 rw [e]
 have h2:((zat r).map fun _=>(1:Nat)).sum<=2:=by unfold zat;split <;> simp
 omega
theorem zi7 (h4:f.kind=4\/f.kind=5) (d:Bool) (hw:f.wid<=1000000000000):((f.kids.map fun g=>g.flat d).map za0.nodes).sum<=1000000000000:=by
 obtain ⟨k,r,ks⟩:=f
 exact b5 (flats_nodes h4 (r:=r) d hw) hw
theorem flat_0 {d:Bool} (h:f.kind=0):f.flat d=zbo (!d):=by rw [za0.flat_eq,h];rfl
theorem flat_2f {d:Bool} (h:f.kind=2) (hd:d=false):f.flat d=zav f.r:=by rw [za0.flat_eq,h,hd];rfl
theorem flat_2t {d:Bool} (h:f.kind=2) (hd:d=true):f.flat d=zei 5 ((zat f.r).map zav):=by rw [za0.flat_eq,h,hd];rfl
theorem flat_3n {d:Bool} (h:f.kind=3) (hl:f.kids.length=0):f.flat d=zbo d:=by rw [za0.flat_eq,h,bW.1 hl];rfl
theorem flat_3c {g:za0} {d:Bool} (h:f.kind=3) (hg:f.kids[0]?=some g):f.flat d=g.flat (!d):=by
 obtain ⟨tl,e⟩:=zj6 hg
 rw [za0.flat_eq,h,e];rfl
theorem flat_45 {d:Bool} (h:f.kind=4\/f.kind=5):f.flat d=zei (if d=true then 9 - f.kind else f.kind) (f.kids.map fun g=>g.flat d):=by
 rw [za0.flat_eq];unfold zhi
 rw [if_neg (by omega),if_neg (by omega),if_neg (by omega),if_pos h,bN];rfl
theorem flat_x {d:Bool} (h0:f.kind≠0) (h2:f.kind≠2) (h3:f.kind≠3) (h4:f.kind≠4) (h5:f.kind≠5):f.flat d=zbo d:=by
 rw [za0.flat_eq];unfold zhi
 rw [if_neg h0,if_neg h2,if_neg h3,if_neg (by omega)]
theorem Lflats (fs:List za0) (d:Bool) (hfl:∀ g ∈ fs,Fn Tryz.prog 81 [] [(vF g),vb d] (vF (za0.flat g d)) []) (hl:fs.length<=1000000000000):Fn Tryz.prog 121 [] [(vFs fs),vb d] (vFs (fs.map (fun g=>za0.flat g d))) []:=by
 refine fB Tryz.func121 rfl 22 fun w H B a h=>Jq 5 [] [(0,(vFs fs)),(1,vb d),(4,vW zai)] [] h fun a w h=>Jg 5 [] [] [(5,vW zai)] [] [] h fun a w h=>qW (Jg 5 [(1,.len (za4 6 za0.d fs))] [0] [(8,(vFs fs)),(9,vN fs.length),(10,vI 0)] [] [] h fun a w h=>qZ ?_)
 replace h:=zep 5 0 5 6 35 (vW zai) h
 refine zbz (ι:=(Nat)) (fun j=>j<=fs.length)
   [] (fun j=>[(5,vO 5 ((fs.take j).map (fun g=>za0.flat g d)).length),(10,vN j)])
   [] (fun j=>[(5,.row 35 6 (((fs.take j).map (fun g=>za0.flat g d)).map za0.d))])
   (fun j=>fs.length - j) 0 ?_ h ?_
 ·exact bC _
 clear h;rintro j a w hI h;have lmj:((fs.take j).map (fun g=>za0.flat g d)).length<=j:=by rw [bE,cV];omega
 refine Je 6 [] [] [(11,vb (decide ((j:Int)<(fs.length:Int))))] h fun a w h=>qW (zae ((j:Int)<(fs.length:Int)) h (fun hc1 hc1'=>?_) (fun hc2 hc2'=>?_))
 ·refine qU (za2 (qW (qZ ?_)));obtain ⟨x1,hx1⟩:=gl fs j;refine Jg 6 [(0,.g (xD 12 8 zfx ((za8 hx1 (f:=za0.d)).trans (congrArg some (za0.d_eq x1))) (OV.tmp 10 _)))] [11] [(7,vp 6 0)] [] [(6,.box (zF x1))] h fun a w h=>Jh 7 [(3,.call (hfl x1 (lM hx1))),(4,.g (bD 18 ([(za0.flat x1 d)].map za0.d) [(17,(vF (za0.flat x1 d)))] kb_1 (.cons (i:=0) (OV.tmp 17 _) (.nil)) (by simp only [bP,b8,cX,cY,cO,za0.d_eq];kernel_rfl) (by simp [za0.d_len]))),(5,.g (aD 19 14 18 5 7 ((fs.take j).map (fun g=>za0.flat g d)) [(za0.flat x1 d)] za0.d la_7 (by simp [za0.d_len])))] [7] [(5,vO 7 (((fs.take j).map (fun g=>za0.flat g d))++[(za0.flat x1 d)]).length)] [5,6] [(7,.row 35 6 ((((fs.take j).map (fun g=>za0.flat g d))++[(za0.flat x1 d)]).map za0.d))] h fun a w h=>za7 (za2 (Jf 8 [(0,.j1 j)] [] [(10,vI ((j:Int)+1))] h fun a w h=>za2 ?_));rw [show ((((fs.take j).map (fun g=>za0.flat g d))++[(za0.flat x1 d)]):List za0)=((fs.take (j+1)).map (fun g=>za0.flat g d)) from (ze6 hx1)] at h;replace h:=zcr 7 5 h;refine zaa (x:=j) (y:=j+1) h ?_ ?_
  ·have:=zac hx1;show j+1<=fs.length;omega
  show fs.length - (j+1)<fs.length - j;have:=zac hx1;omega
 refine exA (Jp 8 [] [(4,vO 5 ((fs.take j).map (fun g=>za0.flat g d)).length)] h fun a w h=>qV ?_);rw [show (((fs.take j).map (fun g=>za0.flat g d)):List za0)=(fs.map (fun g=>za0.flat g d)) from (by rw [cU (by omega)])] at h;replace h:=zh5 5 6 35 ((fs.map (fun g=>za0.flat g d)).map za0.d) h [(fs.map (fun g=>za0.flat g d)).length] ⟨by first | exact (bE _).symm | (simp;done) | (simp;omega),trivial⟩;refine rT (.c (cFs (fs.map (fun g=>za0.flat g d)))) h rfl ?_;rfl
theorem Lflat0 (f:za0) (d:Bool) (ih:∀ g ∈ cnt f.kind f.kids,∀ d:Bool,Fn Tryz.prog 81 [] [(vF g),vb d] (vF (za0.flat g d)) []) (hf:f.okB 300000000 2000) (hw:f.wid<=1000000000000):Fn Tryz.prog 81 [] [(vF f),vb d] (vF (za0.flat f d)) []:=by
 have ldn:=deny_len f.r;have lkm:=zdc hf;refine fB Tryz.func81 rfl 69 fun w H B a h=>?_
 refine Jq 5 [] [(1,vb d),(2,vp 5 0),(4,vp 6 0)] [(5,.box (zF f)),(6,.box zF0)] h fun a w h=>?_;refine qW (Je 7 [] [] [(10,vI f.kind)] h fun a w h=>?_);refine qZ (Je 7 [] [] [(11,vb (f.kind == 0))] h fun a w h=>?_);refine cS (f.kind == 0) h (fun hc1=>?_) (fun hc2=>?_)
 ·have hc1':=hc1;(try simp at hc1');refine Jd 7 [(2,.call (zih (!d)))] [2,10,11] [] [(6,.box (zF (zbo (!d))))] h fun a w h=>?_;refine qV (za9 (za5 ?_));refine rA 6 (zF (zbo (!d))) h zc0 rfl ?_;rw [flat_0 (by have:=hc1;simpa using this)];try rfl
 have hc2':=hc2;(try simp at hc2');refine Je 7 [] [11] [(16,vb (f.kind == 2))] h fun a w h=>?_;refine cS (f.kind == 2) h (fun hc3=>?_) (fun hc8=>?_)
 ·have hc3':=hc3;(try simp at hc3');refine qW (Je 7 [] [10,16] [(19,vb (!d))] h fun a w h=>?_);refine cS (!d) h (fun hc4=>?_) (fun hc5=>?_)
  ·have hc4':=hc4;(try simp at hc4');refine Jg 7 [(2,.call (LtightF f.r ((rel_ok hf hc3).mono (by decide) (by decide))))] [19] [] [] [(6,.box (zF (zav f.r)))] h fun a w h=>?_;refine qV (za5 (za9 (za5 ?_)));refine rA 6 (zF (zav f.r)) h zc0 rfl ?_;rw [flat_2f (by have:=hc3;simpa using this) (show (d)=false from by simpa using hc4)];try rfl
  have hc5':=hc5;(try simp at hc5');refine qU (za2 (Je 7 [] [19] [(5,vW zai)] h fun a w h=>?_));refine qW (Jg 7 [(2,.call (LrDeny f.r (rel_ok hf hc3))),(3,.len (za4 4 za6.d (zat f.r)))] [2] [(25,(vRs (zat f.r))),(26,vI ((zat f.r).length:Int)),(27,vI 0)] [5] [] h fun a w h=>?_);refine qZ ?_;replace h:=zep 5 0 7 6 35 (vW zai) h
  refine zbz (ι:=(Nat)) (fun j=>j<=(zat f.r).length)
    [] (fun j=>[(5,vO 7 (((zat f.r).take j).map zav).length),(27,vN j)])
    [] (fun j=>[(7,.row 35 6 ((((zat f.r).take j).map zav).map za0.d))])
    (fun j=>(zat f.r).length - j) 0 ?_ h ?_
  ·exact bC _
  clear h;rintro j a w hI h;have lmj:(((zat f.r).take j).map zav).length<=j:=by rw [bE,cV];omega
  refine Je 8 [] [] [(28,vb (decide ((j:Int)<((zat f.r).length:Int))))] h fun a w h=>?_;refine qW ?_;refine zae ((j:Int)<((zat f.r).length:Int)) h (fun hc6 hc6'=>?_) (fun hc7 hc7'=>?_)
  ·refine qU (za2 (qW (qZ ?_)));obtain ⟨x4,hx4⟩:=gl (zat f.r) j;refine Jg 8 [(0,.g (xD 29 25 kc_3 (za8 hx4 (f:=za6.d)) (OV.tmp 27 _)))] [28] [(7,vp 8 0)] [] [(8,.box (zR_ x4))] h fun a w h=>?_;refine Jh 9 [(2,.call (LtightF x4 ((deny_tok (rel_ok hf hc3) (by decide) x4 (lM hx4)).mono (by decide) (by decide)))),(3,.g (bD 34 ([(zav x4)].map za0.d) [(33,(vF (zav x4)))] kb_1 (.cons (i:=0) (OV.tmp 33 _) (.nil)) (by simp only [bP,b8,cX,cY,cO,za0.d_eq];kernel_rfl) (by simp [za0.d_len]))),(4,.g (aD 35 31 34 7 9 (((zat f.r).take j).map zav) [(zav x4)] za0.d la_7 (by simp [za0.d_len])))] [7] [(5,vO 9 ((((zat f.r).take j).map zav)++[(zav x4)]).length)] [7,8] [(9,.row 35 6 (((((zat f.r).take j).map zav)++[(zav x4)]).map za0.d))] h fun a w h=>?_;refine za7 (za2 (Jf 10 [(0,.j1 j)] [] [(27,vI ((j:Int)+1))] h fun a w h=>?_));refine za2 ?_;rw [show (((((zat f.r).take j).map zav)++[(zav x4)]):List za0)=(((zat f.r).take (j+1)).map zav) from (ze6 hx4)] at h;replace h:=zcr 9 7 h;refine zaa (x:=j) (y:=j+1) h ?_ ?_
   ·have:=zac hx4;show j+1<=(zat f.r).length;omega
   show (zat f.r).length - (j+1)<(zat f.r).length - j;have:=zac hx4;omega
  refine exA ?_;rw [show ((((zat f.r).take j).map zav):List za0)=((zat f.r).map zav) from (by rw [cU (by omega)])] at h;replace h:=zh5 7 6 35 (((zat f.r).map zav).map za0.d) h [((zat f.r).map zav).length] ⟨by first | exact (bE _).symm | (simp;done) | (simp;omega),trivial⟩;refine Jq 10 [(1,.call (Ljoin 5 ((zat f.r).map zav) (.inr rfl) (tight_sum f.r)))] [(1,vb d),(4,vp 6 0)] [(6,.box (zF (zei 5 ((zat f.r).map zav))))] h fun a w h=>?_;refine qV (za9 (za5 ?_));refine rA 6 (zF (zei 5 ((zat f.r).map zav))) h zc0 rfl ?_;rw [flat_2t (by have:=hc3;simpa using this) (show (d)=true from by simpa using hc5)];try rfl
 have hc8':=hc8;(try simp at hc8');refine Je 10 [] [16] [(39,vb (f.kind == 3))] h fun a w h=>?_;refine cS (f.kind == 3) h (fun hc9=>?_) (fun hc12=>?_)
 ·have hc9':=hc9;(try simp at hc9');refine Je 10 [(2,.len (za4 6 za0.d f.kids))] [10,39] [(44,vb (decide ((f.kids.length:Int)>0)))] h fun a w h=>?_;refine zae ((f.kids.length:Int)>0) h (fun hc10 hc10'=>?_) (fun hc11 hc11'=>?_)
  ·obtain ⟨x7,hx7⟩:=gl f.kids 0;refine Jg 10 [(2,.g (xD 47 46 zfx ((za8 hx7 (f:=za0.d)).trans (congrArg some (za0.d_eq x7))) (OV.const (.int .i64 0) rfl))),(6,.call (ih x7 (by unfold cnt;rw [if_neg (by omega),if_pos (by omega)];exact zg7 hx7) (!d)))] [2,44] [] [5] [(6,.box (zF (za0.flat x7 (!d))))] h fun a w h=>?_;refine qV (za9 (za5 ?_));refine rA 6 (zF (za0.flat x7 (!d))) h zc0 rfl ?_;rw [flat_3c (by have:=hc9;simpa using this) hx7];try rfl
  refine qU (za7 (za2 (Jq 10 [(1,.call (zih d))] [(4,vp 6 0)] [(6,.box (zF (zbo d)))] h fun a w h=>?_)));refine qV ?_;refine rA 6 (zF (zbo d)) h zc0 rfl ?_;rw [flat_3n (by have:=hc9;simpa using this) (by have:=hc11;simp at this;first | omega | (rw [this];rfl))];try rfl
 have hc12':=hc12;(try simp at hc12');refine qW (Je 10 [] [39] [(52,vb (f.kind == 4))] h fun a w h=>?_);refine cS (f.kind == 4) h (fun hc13=>?_) (fun hc16=>?_)
 ·have hc13':=hc13;(try simp at hc13');refine qU (za2 ?_);refine cS (f.kind == 4) h (fun hc=>?_) (fun hc=>?_)
  ·clear hc;refine Je 10 [] [10,52] [(8,vI f.kind)] h fun a w h=>?_;refine qW (Je 10 [] [] [(57,vb d)] h fun a w h=>?_);refine cS d h (fun hc14=>?_) (fun hc15=>?_)
   ·refine Jf 10 [(2,.sub .i64 (m:=9) (n:=f.kind) i6)] [57] [(8,vI (9 - f.kind))] h fun a w h=>?_;refine za2 (Jg 10 [(4,.call (Lflats f.kids d (fun g hg=>ih g (by unfold cnt;rw [if_pos (by omega)];exact hg) d) (by have:=zeh hf;unfold cnt at this;rw [if_pos (by omega)] at this;exact this))),(5,.call (Ljoin (9 - f.kind) (f.kids.map (fun g=>za0.flat g d)) (by omega) (zi7 (by omega) d hw)))] [2,8] [] [5] [(6,.box (zF (zei (9 - f.kind) (f.kids.map (fun g=>za0.flat g d)))))] h fun a w h=>?_);refine qV (za9 (za5 ?_));refine rA 6 (zF (zei (9 - f.kind) (f.kids.map (fun g=>za0.flat g d)))) h zc0 rfl ?_;rw [flat_45 (by omega),if_pos hc14];try rfl
   refine qU (za2 (Jg 10 [(4,.call (Lflats f.kids d (fun g hg=>ih g (by unfold cnt;rw [if_pos (by omega)];exact hg) d) (by have:=zeh hf;unfold cnt at this;rw [if_pos (by omega)] at this;exact this))),(5,.call (Ljoin f.kind (f.kids.map (fun g=>za0.flat g d)) (by omega) (zi7 (by omega) d hw)))] [2,8,57] [] [5] [(6,.box (zF (zei f.kind (f.kids.map (fun g=>za0.flat g d)))))] h fun a w h=>?_));refine qV (za9 (za5 ?_));refine rA 6 (zF (zei f.kind (f.kids.map (fun g=>za0.flat g d)))) h zc0 rfl ?_;rw [flat_45 (by omega),if_neg (by rw [hc15];exact Bool.noConfusion)];try rfl
  rw [hc13] at hc;cases hc
 have hc16':=hc16;(try simp at hc16');refine Jf 10 [] [10] [(52,vb (f.kind == 5))] h fun a w h=>?_;refine za2 ?_;refine cS (f.kind == 5) h (fun hc17=>?_) (fun hc20=>?_)
 ·have hc17':=hc17;(try simp at hc17');refine Je 10 [] [52] [(8,vI f.kind)] h fun a w h=>?_;refine qW (Je 10 [] [] [(57,vb d)] h fun a w h=>?_);refine cS d h (fun hc18=>?_) (fun hc19=>?_)
  ·refine Jf 10 [(2,.sub .i64 (m:=9) (n:=f.kind) i6)] [57] [(8,vI (9 - f.kind))] h fun a w h=>?_;refine za2 (Jg 10 [(4,.call (Lflats f.kids d (fun g hg=>ih g (by unfold cnt;rw [if_pos (by omega)];exact hg) d) (by have:=zeh hf;unfold cnt at this;rw [if_pos (by omega)] at this;exact this))),(5,.call (Ljoin (9 - f.kind) (f.kids.map (fun g=>za0.flat g d)) (by omega) (zi7 (by omega) d hw)))] [2,8] [] [5] [(6,.box (zF (zei (9 - f.kind) (f.kids.map (fun g=>za0.flat g d)))))] h fun a w h=>?_);refine qV (za9 (za5 ?_));refine rA 6 (zF (zei (9 - f.kind) (f.kids.map (fun g=>za0.flat g d)))) h zc0 rfl ?_;rw [flat_45 (by omega),if_pos hc18];try rfl
  refine qU (za2 (Jg 10 [(4,.call (Lflats f.kids d (fun g hg=>ih g (by unfold cnt;rw [if_pos (by omega)];exact hg) d) (by have:=zeh hf;unfold cnt at this;rw [if_pos (by omega)] at this;exact this))),(5,.call (Ljoin f.kind (f.kids.map (fun g=>za0.flat g d)) (by omega) (zi7 (by omega) d hw)))] [2,8,57] [] [5] [(6,.box (zF (zei f.kind (f.kids.map (fun g=>za0.flat g d)))))] h fun a w h=>?_));refine qV (za9 (za5 ?_));refine rA 6 (zF (zei f.kind (f.kids.map (fun g=>za0.flat g d)))) h zc0 rfl ?_;rw [flat_45 (by omega),if_neg (by rw [hc19];exact Bool.noConfusion)];try rfl
 have hc20':=hc20;(try simp at hc20');refine qU (za7 (za2 (Jq 10 [(1,.call (zih d))] [(4,vp 6 0)] [(6,.box (zF (zbo d)))] h fun a w h=>?_)));refine qV ?_;refine rA 6 (zF (zbo d)) h zc0 rfl ?_;rw [flat_x (by have:=hc2;simpa using this) (by have:=hc8;simpa using this) (by have:=hc12;simpa using this) (by have:=hc16;simpa using this) (by have:=hc20;simpa using this)];try rfl
theorem Lflat (f:za0):f.okB 300000000 2000->f.wid<=1000000000000->∀ d:Bool,Fn Tryz.prog 81 [] [(vF f),vb d] (vF (za0.flat f d)) [] :=
 za0.ind (P:=fun f=>f.okB 300000000 2000->f.wid<=1000000000000->∀ d:Bool,Fn Tryz.prog 81 [] [(vF f),vb d] (vF (za0.flat f d)) []) (fun k r ks ih hf hw d=>Lflat0 ⟨k,r,ks⟩ d (fun g hg d=>ih g (zbw hg) (zga hf hg) (b5 (wid_kid hg) hw) d) hf hw) f
theorem LFlat (f:za0) (hf:f.okB 300000000 2000) (hw:f.wid<=1000000000000):Fn Tryz.prog 49 [] [(vF f)] (vF (za0.flat f false)) []:=by
 refine fB Tryz.func49 rfl 5 fun w H B a h=>Jq 0 [] [(1,vp 0 0),(2,vp 1 0)] [(0,.box (zF f)),(1,.box zF0)] h fun a w h=>Jd 2 [(1,.call (Lflat f hf hw false))] [1] [] [(1,.box (zF (za0.flat f false)))] h fun a w h=>qV (rA 1 (zF (za0.flat f false)) h zc0 rfl ?_)
 rfl
end S
end Go.Proofs.YtlcijejaplagbaaGreat
