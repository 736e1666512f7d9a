/-
  The proof of the statement AbstrTells: the walk through the program and the references lifted to the given row. It holds for every input.
-/
import Derived.Test.YtcppcnfmgpphcaaGreatVT5
import Derived.Test.YtcppcnfmgpphcaaGreatRows
import Derived.Test.YtcppcnfmgpphcaaGreatVT2
set_option maxRecDepth 100000
set_option maxHeartbeats 4000000
namespace Go.Proofs.YtcppcnfmgpphcaaGreat.S
section
open Go.RowKit

theorem lr18_3:za6 Tryz.prog 49:=za6.mk' (by kernel_rfl)
theorem zi1 (a b:Int) (h:a=0):orZ [a,b]=b:=by
 unfold orZ;rw [if_neg (fun e=>e h)];unfold orZ
 split
 ·rfl
 ·rename_i e;exact (Classical.not_not.1 e).symm
theorem orZ2_l (a b:Int) (h:a≠0):orZ [a,b]=a:=by unfold orZ;rw [if_pos h]
theorem cmpP_same {p q:za4} (h:p.v=q.v) (k:zbc p.c.val q.c.val=0):cmpP p q=0:=by
 unfold cmpP;rw [h,zi1 _ _ (zdd _),k]
theorem cmpP_lt {p q:za4} (h:p.v<q.v):cmpP p q=-1:=by
 have e:zbc p.v q.v=-1:=by unfold zbc;split <;> (try split) <;> omega
 unfold cmpP;rw [e];rfl
theorem cmpP_gt {p q:za4} (h:p.v>q.v):cmpP p q=1:=by
 have e:zbc p.v q.v=1:=by unfold zbc;split <;> (try split) <;> omega
 unfold cmpP;rw [e];rfl
theorem cmpP_c {p q:za4} (h:p.v=q.v) (_k:¬ zbc p.c.val q.c.val=0):cmpP p q=zbc p.c.val q.c.val:=by
 unfold cmpP;rw [h,zi1 _ _ (zdd _)]
theorem cmpT_l0 {s t:zb9} {c:Int} (h:zdy (za3 s).parts (za3 t).parts=c) (hc:c≠0):zfx s t=c:=by
 unfold zfx;rw [h,orZ2_l _ _ hc]
theorem cmpT_left {s t:zb9} {a b c:Int} (h:zdy (za3 s).parts (za3 t).parts=if a≠0 then a else b) (ha:a=c) (hc:c≠0:=by first | decide | assumption):zfx s t=c:=by
 subst ha;rw [if_pos hc] at h;exact cmpT_l0 h hc
theorem cmpT_r {s t:zb9} (h:zdy (za3 s).parts (za3 t).parts=0):zfx s t=zbc (za3 s).k.val (za3 t).k.val:=by
 unfold zfx;rw [h,zi1 _ _ rfl]
theorem LR3Cmp (s t:zb9) (hs:TOk 400 20000 s) (ht:TOk 400 20000 t):Fn Tryz.prog 49 [] [(vT s),(vT t)] (vI (zfx s t)) []:=by
 have lsp:=(hs.plain (by decide)).len
 have ltp:=(ht.plain (by decide)).len
 have lsk:=(hs.plain (by decide)).kl
 have ltk:=(ht.plain (by decide)).kl
 refine Fn.body Tryz.func49 rfl 76 rfl fun w H B a h=>?_
 refine rq za0 0 [] [(2,vp 0 0),(3,vp 1 0),(4,vI 0)] [(0,.box (zT s)),(1,.box (zT t))] h fun a w h=>?_
 refine rq za0 2 [(1,.call (SRPlain' s hs (by decide) (by decide)) tc_2),(3,.call (SRPlain' t ht (by decide) (by decide)) tc_2)] [(4,vI 0),(5,vp 2 0),(6,vp 3 0)] [(2,.box (zT (za3 s))),(3,.box (zT (za3 t)))] h fun a w h=>?_
 refine wp_seq (rqk za0 4 [] [(4,vI 0),(5,vp 2 0),(6,vp 3 0),(7,vI 0)] h fun a w h=>?_)
 refine wp_block ?_
 refine zau (ι:=(Nat)) (fun j=>j≤(za3 s).parts.length∧j≤(za3 t).parts.length∧zdy (za3 s).parts (za3 t).parts=zdy ((za3 s).parts.drop j) ((za3 t).parts.drop j))
   (fun j=>[(5,vp 2 0),(6,vp 3 0),(7,vN j)])
   (fun j=>[(2,.box (zT (za3 s))),(3,.box (zT (za3 t)))])
   (fun j=>(za3 s).parts.length - j) 0 ?_ h (by kernel_rfl) (by kernel_rfl) ?_
 ·exact ⟨Nat.zero_le _,Nat.zero_le _,rfl⟩
 clear h;rintro j a w hI h
 obtain ⟨hI1,hI2,hI3⟩:=hI
 have hce:=cps_end hI1 hI2
 refine wp_seq ?_
 rcases Bool.eq_false_or_eq_true (decide ((j:Int)<((za3 s).parts.length:Int))) with hc | hc
 ·have hc1:=hc;clear hc
  have hc1':=dT hc1
  refine rqk za0 4 [(3,.len (za9 3 za4.d ((za3 s).parts))),(4,.cmp (op:=.lss) (m:=(j:Int)) (n:=((za3 s).parts.length:Int)) (b:=true) .i64 hc1),(9,.len (za9 3 za4.d ((za3 t).parts)))] [(5,vp 2 0),(6,vp 3 0),(7,vN j),(26,vb (decide ((j:Int)<((za3 t).parts.length:Int))))] h fun a w h=>?_
  refine zam ((j:Int)<((za3 t).parts.length:Int)) h rfl (fun hc2 hc2'=>?_) (fun hc9 hc9'=>?_)
  ·refine wp_skip (za2 (wp_seq (wp_block ?_)))
   obtain ⟨x3,hx3⟩:=gl ((za3 s).parts) j
   obtain ⟨ox3,lx3⟩:=((TOk.plain hs (by decide))).get hx3
   obtain ⟨x4,hx4⟩:=gl ((za3 t).parts) j
   obtain ⟨ox4,lx4⟩:=((TOk.plain ht (by decide))).get hx4
   refine rq za0 4 [(3,.g (xD 32 30 zc3 (zaf hx3 (f:=za4.d)) (OV.tmp 31 _))),(8,.g (xD 37 35 zc3 (zaf hx4 (f:=za4.d)) (OV.tmp 36 _)))] [(5,vp 2 0),(6,vp 3 0),(7,vN j),(8,vp 4 0),(9,vp 5 0)] [(2,.box (zT (za3 s))),(3,.box (zT (za3 t))),(4,.box ([cI x3.v]++zi x3.c)),(5,.box ([cI x4.v]++zi x4.c))] h fun a w h=>?_
   refine wp_seq (rqk za0 6 [] [(5,vp 2 0),(6,vp 3 0),(7,vN j),(8,vp 4 0),(9,vp 5 0),(43,vb (decide (x3.v<x4.v)))] h fun a w h=>?_)
   refine zam (x3.v<x4.v) h rfl (fun hc3 hc3'=>?_) (fun hc4 hc4'=>?_)
   ·refine rqk za0 6 [] [(4,vI (-1)),(5,vp 2 0),(6,vp 3 0),(7,vN j),(8,vp 4 0),(9,vp 5 0)] h fun a w h=>?_
    refine wp_ret (za8 (zad (za8 (za8 (zad (za8 ?_))))))
    refine rT (.c (cI (-1))) h rfl rfl ?_
    have p0:=dT hc3
    have hz:zfx s t=-1:=cmpT_left (hI3.trans (cps_at hx3 hx4)) (cmpP_lt p0)
    rw [hz];first | done | rfl
   refine wp_skip (za2 (wp_seq (rqk za0 6 [] [(5,vp 2 0),(6,vp 3 0),(7,vN j),(8,vp 4 0),(9,vp 5 0),(48,vb (decide (x3.v>x4.v)))] h fun a w h=>?_)))
   refine zam (x3.v>x4.v) h rfl (fun hc5 hc5'=>?_) (fun hc6 hc6'=>?_)
   ·refine rqk za0 6 [] [(4,vI 1),(5,vp 2 0),(6,vp 3 0),(7,vN j),(8,vp 4 0),(9,vp 5 0)] h fun a w h=>?_
    refine wp_ret (za8 (zad (za8 (za8 (zad (za8 ?_))))))
    refine rT (.c (cI 1)) h rfl rfl ?_
    have p0:=dF hc4
    have p1:=dT hc5
    have hz:zfx s t=1:=cmpT_left (hI3.trans (cps_at hx3 hx4)) (cmpP_gt p1)
    rw [hz];first | done | rfl
   refine wp_skip (za2 (rq za0 6 [(4,.call (SRCmp x3.c x4.c ox3 ox4 (by omega) (by omega)) ub_1)] [(5,vp 2 0),(6,vp 3 0),(7,vN j),(10,vI (zbc x3.c.val x4.c.val))] [(2,.box (zT (za3 s))),(3,.box (zT (za3 t)))] h fun a w h=>?_))
   refine rqk za0 6 [] [(5,vp 2 0),(6,vp 3 0),(7,vN j),(10,vI (zbc x3.c.val x4.c.val)),(55,vb (zbc x3.c.val x4.c.val != 0))] h fun a w h=>?_
   refine zah (zbc x3.c.val x4.c.val != 0) h rfl (fun hc7=>?_) (fun hc8=>?_)
   ·have hc7':=hc7;(try simp at hc7')
    refine rqk za0 6 [] [(4,vI (zbc x3.c.val x4.c.val)),(5,vp 2 0),(6,vp 3 0),(7,vN j)] h fun a w h=>?_
    refine wp_ret (zad (za8 (za8 (zad (za8 ?_)))))
    refine rT (.c (cI (zbc x3.c.val x4.c.val))) h rfl rfl ?_
    have p0:=dF hc4
    have p1:=dF hc6
    have p2:¬zbc x3.c.val x4.c.val=0:=by have:=hc7;simpa using this
    have hz:zfx s t=zbc x3.c.val x4.c.val:=cmpT_left (hI3.trans (cps_at hx3 hx4)) (cmpP_c (by omega) p2)
    rw [hz];first | done | rfl
   have hc8':=hc8;(try simp at hc8')
   refine wp_skip (zaa (za2 (rnk za0 6 [(1,.j1 j)] [(5,vp 2 0),(6,vp 3 0),(7,vI ((j:Int)+1))] h fun a w h=>?_)))
   refine za2 ?_
   refine zaj (x:=j) (y:=j+1) h ?_ ?_
   ·have:=zag hx3
    have:=zag hx4
    have p0:=dF hc4
    have p1:=dF hc6
    have p2:zbc x3.c.val x4.c.val=0:=by have:=hc8;simpa using this
    exact ⟨by omega,by omega,by rw [hI3,cps_at hx3 hx4,if_neg (fun e=>e (cmpP_same (by omega) p2))]⟩
   show (za3 s).parts.length - (j+1)<(za3 s).parts.length - j
   have:=zag hx3;omega
  refine wp_exit (zab (zab (za7 (za2 (wp_seq (rqk za0 6 [(2,.len (za9 3 za4.d ((za3 s).parts))),(5,.len (za9 3 za4.d ((za3 t).parts)))] [(5,vp 2 0),(6,vp 3 0),(63,vb (decide (((za3 s).parts.length:Int)<((za3 t).parts.length:Int))))] h fun a w h=>?_))))))
  refine zam (((za3 s).parts.length:Int)<((za3 t).parts.length:Int)) h rfl (fun hc10 hc10'=>?_) (fun hc11 hc11'=>?_)
  ·refine rqk za0 6 [] [(4,vI (-1)),(5,vp 2 0),(6,vp 3 0)] h fun a w h=>?_
   refine wp_ret (za8 ?_)
   refine rT (.c (cI (-1))) h rfl rfl ?_
   have l0:=dT hc10
   have hz:zfx s t=-1:=cmpT_l0 (hI3.trans (hce.2.1 (by omega) (by omega))) (by decide)
   rw [hz];first | done | rfl
  refine wp_skip (za2 (wp_seq (rqk za0 6 [(2,.len (za9 3 za4.d ((za3 s).parts))),(5,.len (za9 3 za4.d ((za3 t).parts)))] [(5,vp 2 0),(6,vp 3 0),(70,vb (decide (((za3 s).parts.length:Int)>((za3 t).parts.length:Int))))] h fun a w h=>?_)))
  refine zam (((za3 s).parts.length:Int)>((za3 t).parts.length:Int)) h rfl (fun hc12 hc12'=>?_) (fun hc13 hc13'=>?_)
  ·refine rqk za0 6 [] [(4,vI 1),(5,vp 2 0),(6,vp 3 0)] h fun a w h=>?_
   refine wp_ret (za8 ?_)
   refine rT (.c (cI 1)) h rfl rfl ?_
   have l0:=dF hc11
   have l1:=dT hc12
   have hz:zfx s t=1:=cmpT_l0 (hI3.trans (hce.1 (by omega) (by omega))) (by decide)
   rw [hz];first | done | rfl
  refine wp_skip (za2 (rq za0 6 [(4,.call (SRCmp (za3 s).k (za3 t).k ((TOk.plain hs (by decide))).kb ((TOk.plain ht (by decide))).kb (by omega) (by omega)) ub_1)] [(4,vI (zbc (za3 s).k.val (za3 t).k.val))] [] h fun a w h=>?_))
  refine wp_ret ?_
  refine rT (.c (cI (zbc (za3 s).k.val (za3 t).k.val))) h rfl rfl ?_
  have l0:=dF hc11
  have l1:=dF hc13
  have hz:zfx s t=zbc (za3 s).k.val (za3 t).k.val:=cmpT_r (hI3.trans (hce.2.2 (by omega) (by omega)))
  rw [hz];first | done | rfl
 have hc14:=hc;clear hc
 have hc14':=dF hc14
 refine rqk za0 6 [(3,.len (za9 3 za4.d ((za3 s).parts))),(4,.cmp (op:=.lss) (m:=(j:Int)) (n:=((za3 s).parts.length:Int)) (b:=false) .i64 hc14)] [(5,vp 2 0),(6,vp 3 0),(7,vN j),(26,vb false)] h fun a w h=>?_
 refine zah false h rfl nofun (fun _=>?_)
 refine wp_exit (zab (zab (za7 (za2 (wp_seq (rqk za0 6 [(2,.len (za9 3 za4.d ((za3 s).parts))),(5,.len (za9 3 za4.d ((za3 t).parts)))] [(5,vp 2 0),(6,vp 3 0),(63,vb (decide (((za3 s).parts.length:Int)<((za3 t).parts.length:Int))))] h fun a w h=>?_))))))
 refine zam (((za3 s).parts.length:Int)<((za3 t).parts.length:Int)) h rfl (fun hc15 hc15'=>?_) (fun hc16 hc16'=>?_)
 ·refine rqk za0 6 [] [(4,vI (-1)),(5,vp 2 0),(6,vp 3 0)] h fun a w h=>?_
  refine wp_ret (za8 ?_)
  refine rT (.c (cI (-1))) h rfl rfl ?_
  have l0:=dT hc15
  have hz:zfx s t=-1:=cmpT_l0 (hI3.trans (hce.2.1 (by omega) (by omega))) (by decide)
  rw [hz];first | done | rfl
 refine wp_skip (za2 (wp_seq (rqk za0 6 [(2,.len (za9 3 za4.d ((za3 s).parts))),(5,.len (za9 3 za4.d ((za3 t).parts)))] [(5,vp 2 0),(6,vp 3 0),(70,vb (decide (((za3 s).parts.length:Int)>((za3 t).parts.length:Int))))] h fun a w h=>?_)))
 refine zam (((za3 s).parts.length:Int)>((za3 t).parts.length:Int)) h rfl (fun hc17 hc17'=>?_) (fun hc18 hc18'=>?_)
 ·refine rqk za0 6 [] [(4,vI 1),(5,vp 2 0),(6,vp 3 0)] h fun a w h=>?_
  refine wp_ret (za8 ?_)
  refine rT (.c (cI 1)) h rfl rfl ?_
  have l0:=dF hc16
  have l1:=dT hc17
  have hz:zfx s t=1:=cmpT_l0 (hI3.trans (hce.1 (by omega) (by omega))) (by decide)
  rw [hz];first | done | rfl
 refine wp_skip (za2 (rq za0 6 [(4,.call (SRCmp (za3 s).k (za3 t).k ((TOk.plain hs (by decide))).kb ((TOk.plain ht (by decide))).kb (by omega) (by omega)) ub_1)] [(4,vI (zbc (za3 s).k.val (za3 t).k.val))] [] h fun a w h=>?_))
 refine wp_ret ?_
 refine rT (.c (cI (zbc (za3 s).k.val (za3 t).k.val))) h rfl rfl ?_
 have l0:=dF hc16
 have l1:=dF hc18
 have hz:zfx s t=zbc (za3 s).k.val (za3 t).k.val:=cmpT_r (hI3.trans (hce.2.2 (by omega) (by omega)))
 rw [hz];first | done | rfl
theorem LR4Cmp (x y:zac) (hx:TOk 400 20000 x.t) (hy:TOk 400 20000 y.t):Fn Tryz.prog 22 [] [.t (.agg ([.d (.sl 3 (x.t.parts.map za4.d))]++zi x.t.k++[.d (.raw (.bool x.eq))])),.t (.agg ([.d (.sl 3 (y.t.parts.map za4.d))]++zi y.t.k++[.d (.raw (.bool y.eq))]))] (vI (zbx x y)) []:=by
 refine Fn.body Tryz.func22 rfl 28 rfl fun w H B a h=>?_
 refine rq za0 0 [] [(2,vp 0 0),(3,vp 1 0),(4,vI 0)] [(0,.box ([.d (.sl 3 (x.t.parts.map za4.d))]++zi x.t.k++[.d (.raw (.bool x.eq))])),(1,.box ([.d (.sl 3 (y.t.parts.map za4.d))]++zi y.t.k++[.d (.raw (.bool y.eq))]))] h fun a w h=>?_
 refine wp_seq (rqk za0 2 [(4,.call (LR3Cmp x.t y.t hx hy) lr18_3)] [(2,vp 0 0),(3,vp 1 0),(4,vI 0),(5,vI (zfx x.t y.t))] h fun a w h=>?_)
 refine rqk za0 2 [] [(2,vp 0 0),(3,vp 1 0),(4,vI 0),(5,vI (zfx x.t y.t)),(12,vb ((zfx x.t y.t) != 0))] h fun a w h=>?_
 refine zah ((zfx x.t y.t) != 0) h rfl (fun hc1=>?_) (fun hc2=>?_)
 ·have hc1':=hc1;(try simp at hc1')
  refine rqk za0 2 [] [(2,vp 0 0),(3,vp 1 0),(4,vI (zfx x.t y.t))] h fun a w h=>?_
  refine wp_ret (za8 ?_)
  refine rT (.c (.d (.raw (.int .i64 (zfx x.t y.t))))) h rfl rfl ?_
  have hz:zbx x y=zfx x.t y.t:=orZ2_l _ _ (by have:=hc1;simpa using this)
  rw [hz];first | done | rfl
 have hc2':=hc2;(try simp at hc2')
 refine wp_skip (za2 (wp_seq ?_))
 rcases Bool.eq_false_or_eq_true x.eq with hc | hc
 ·have hc3:=hc;clear hc
  rw [hc3] at h
  refine rq za0 2 [] [(2,vp 0 0),(3,vp 1 0),(4,vI 0),(20,vb false)] [(0,.box ([.d (.sl 3 (x.t.parts.map za4.d))]++zi x.t.k++[.d (.raw (.bool true))])),(1,.box ([.d (.sl 3 (y.t.parts.map za4.d))]++zi y.t.k++[.d (.raw (.bool y.eq))]))] h fun a w h=>?_
  refine zah false h rfl nofun (fun _=>?_)
  refine wp_skip (za2 (wp_seq (rq za0 2 [] [(4,vI 0),(27,vb (!y.eq))] [] h fun a w h=>?_)))
  refine zah (!y.eq) h rfl (fun hc4=>?_) (fun hc5=>?_)
  ·have hc4':=hc4;(try simp at hc4')
   refine rq za0 2 [] [(4,vI 1)] [] h fun a w h=>?_
   refine wp_ret (za8 ?_)
   refine rT (.c (.d (.raw (.int .i64 1)))) h rfl rfl ?_
   have hz:zbx x y=1:=(zi1 _ _ (by have:=hc2;simpa using this)).trans (by unfold zdn zbc;first | (simp [hc3,(show (y.eq)=false from by simpa using hc4)];done) | (cases hx_:x.eq <;> cases hy_:y.eq <;> simp_all))
   rw [hz];first | done | rfl
  have hc5':=hc5;(try simp at hc5')
  refine wp_skip (za2 (rq za0 2 [] [(4,vI 0)] [] h fun a w h=>?_))
  refine wp_ret ?_
  refine rT (.c (.d (.raw (.int .i64 0)))) h rfl rfl ?_
  have hz:zbx x y=0:=(zi1 _ _ (by have:=hc2;simpa using this)).trans (by unfold zdn zbc;first | (simp [hc3,(show (y.eq)=true from by simpa using hc5)];done) | (cases hx_:x.eq <;> cases hy_:y.eq <;> simp_all))
  rw [hz];first | done | rfl
 have hc6:=hc;clear hc
 rw [hc6] at h
 refine rq za0 2 [] [(2,vp 0 0),(3,vp 1 0),(4,vI 0),(20,vb y.eq)] [(0,.box ([.d (.sl 3 (x.t.parts.map za4.d))]++zi x.t.k++[.d (.raw (.bool false))])),(1,.box ([.d (.sl 3 (y.t.parts.map za4.d))]++zi y.t.k++[.d (.raw (.bool y.eq))]))] h fun a w h=>?_
 refine zah y.eq h rfl (fun hc7=>?_) (fun hc8=>?_)
 ·refine rqk za0 2 [] [(2,vp 0 0),(3,vp 1 0),(4,vI (-1))] h fun a w h=>?_
  refine wp_ret (za8 ?_)
  refine rT (.c (.d (.raw (.int .i64 (-1))))) h rfl rfl ?_
  have hz:zbx x y=(-1):=(zi1 _ _ (by have:=hc2;simpa using this)).trans (by unfold zdn zbc;first | (simp [hc6,hc7];done) | (cases hx_:x.eq <;> cases hy_:y.eq <;> simp_all))
  rw [hz];first | done | rfl
 refine wp_skip (za2 (wp_seq (rq za0 2 [] [(4,vI 0),(27,vb false)] [] h fun a w h=>?_)))
 refine zah false h rfl nofun (fun _=>?_)
 refine wp_skip (za2 (rq za0 2 [] [(4,vI 0)] [] h fun a w h=>?_))
 refine wp_ret ?_
 refine rT (.c (.d (.raw (.int .i64 0)))) h rfl rfl ?_
 have hz:zbx x y=0:=(zi1 _ _ (by have:=hc2;simpa using this)).trans (by unfold zdn zbc;first | (simp [hc6,hc8];done) | (cases hx_:x.eq <;> cases hy_:y.eq <;> simp_all))
 rw [hz];first | done | rfl
theorem LR4Tight (r:zac) (hr:TOk 400 9000 r.t):Fn Tryz.prog 64 [] [.t (.agg ([.d (.sl 3 (r.t.parts.map za4.d))]++zi r.t.k++[.d (.raw (.bool r.eq))]))] (.tup [.agg ([.d (.sl 3 ((zao r).1.t.parts.map za4.d))]++zi (zao r).1.t.k++[.d (.raw (.bool (zao r).1.eq))]),.c (.d (.raw (.int .i64 (zao r).2)))]) []:=by
 have hpk:=(hr.plain (by decide)).kl
 refine Fn.body Tryz.func64 rfl 76 rfl fun w H B a h=>?_
 refine rq za0 0 [] [(1,vp 0 0),(2,vp 1 0),(3,vI 0)] [(0,.box ([.d (.sl 3 (r.t.parts.map za4.d))]++zi r.t.k++[.d (.raw (.bool r.eq))])),(1,.box zR0)] h fun a w h=>?_
 refine rq za0 2 [(2,.call (SRPlain' r.t hr (by decide) (by decide)) tc_2)] [(1,vp 0 0),(2,vp 1 0),(3,vI 0),(4,vp 2 0)] [(0,.box ([.d (.sl 3 (r.t.parts.map za4.d))]++zi r.t.k++[.d (.raw (.bool r.eq))])),(1,.box zR0),(2,.box ([.d (.sl 3 ((za3 r.t).parts.map za4.d))]++zi (za3 r.t).k))] h fun a w h=>?_
 refine rqk za0 3 [(2,.call (zby (za3 r.t).k ((TOk.plain hr (by decide))).kb (by omega)) zi4)] [(1,vp 0 0),(2,vp 1 0),(3,vI 0),(4,vp 2 0),(5,vI (sgn (za3 r.t).k.val))] h fun a w h=>?_
 refine wp_seq (rqk za0 3 [(2,.len (za9 3 za4.d ((za3 r.t).parts)))] [(1,vp 0 0),(2,vp 1 0),(3,vI 0),(4,vp 2 0),(5,vI (sgn (za3 r.t).k.val)),(21,vb (((za3 r.t).parts.length:Int) == 0))] h fun a w h=>?_)
 refine zah (((za3 r.t).parts.length:Int) == 0) h rfl (fun hc1=>?_) (fun hc8=>?_)
 ·have hc1':=hc1;(try simp at hc1')
  refine wp_seq ?_
  have hpl:(za3 r.t).parts.length=0:=by have:=hc1;simpa using this
  rcases Bool.eq_false_or_eq_true (sgn (za3 r.t).k.val == 0) with hc | hc
  ·have hc2:=hc;clear hc
   have hc2':=hc2;(try simp at hc2')
   refine rqk za0 3 [(1,.cmp (op:=.eql) (m:=(sgn (za3 r.t).k.val)) (n:=0) (b:=true) .i64 hc2)] [(1,vp 0 0),(2,vp 1 0),(3,vI 0),(4,vp 2 0),(32,vb true)] h fun a w h=>?_
   refine zah true h rfl (fun _=>?_) nofun
   refine rqk za0 3 [] [(1,vp 0 0),(2,vp 1 0),(3,vI 1),(4,vp 2 0)] h fun a w h=>?_
   refine wp_ret (za8 (za8 ?_))
   replace h:=zbo 1 0 3 zR0 [(1,vp 0 0),(2,vp 1 0),(3,vI 1),(4,vp 2 0)] [(0,.box ([.d (.sl 3 (r.t.parts.map za4.d))]++zi r.t.k++[.d (.raw (.bool r.eq))])),(1,.box [.d (.sl 3 ([].map za4.d)),.d (.raw (.bool false)),.d (nsl []),.d (.raw (.bool false))]),(2,.box ([.d (.sl 3 ((za3 r.t).parts.map za4.d))]++zi (za3 r.t).k))] h rfl rfl
   refine zd0 [.agg [.d (.sl 3 ([].map za4.d)),.d (.raw (.bool false)),.d (nsl []),.d (.raw (.bool false))],.c (.d (.raw (.int .i64 1)))] h Exit.ret (.inl rfl)  rfl ⟨RV.agg _ 1 0 _ _ _ _ la_1 rfl rfl rfl rfl,RV.tmp _ _ rfl,trivial⟩ ?_
   rw [zg8 hpl,hc2];first | done | rfl
  have hc3:=hc;clear hc
  have hc3':=hc3;(try simp at hc3')
  rcases Bool.eq_false_or_eq_true r.eq with hc | hc
  ·have hc4:=hc;clear hc
   rw [hc4] at h
   refine rq za0 3 [(1,.cmp (op:=.eql) (m:=(sgn (za3 r.t).k.val)) (n:=0) (b:=false) .i64 hc3)] [(1,vp 0 0),(2,vp 1 0),(3,vI 0),(4,vp 2 0),(32,vb false)] [(0,.box ([.d (.sl 3 (r.t.parts.map za4.d))]++zi r.t.k++[.d (.raw (.bool true))])),(1,.box zR0),(2,.box ([.d (.sl 3 ((za3 r.t).parts.map za4.d))]++zi (za3 r.t).k))] h fun a w h=>?_
   refine zah false h rfl nofun (fun _=>?_)
   refine wp_skip (za2 (rqk za0 3 [] [(1,vp 0 0),(2,vp 1 0),(3,vI (-1)),(4,vp 2 0)] h fun a w h=>?_))
   refine wp_ret (za8 ?_)
   replace h:=zbo 1 0 3 zR0 [(1,vp 0 0),(2,vp 1 0),(3,vI (-1)),(4,vp 2 0)] [(0,.box ([.d (.sl 3 (r.t.parts.map za4.d))]++zi r.t.k++[.d (.raw (.bool true))])),(1,.box [.d (.sl 3 ([].map za4.d)),.d (.raw (.bool false)),.d (nsl []),.d (.raw (.bool false))]),(2,.box ([.d (.sl 3 ((za3 r.t).parts.map za4.d))]++zi (za3 r.t).k))] h rfl rfl
   refine zd0 [.agg [.d (.sl 3 ([].map za4.d)),.d (.raw (.bool false)),.d (nsl []),.d (.raw (.bool false))],.c (.d (.raw (.int .i64 (-1))))] h Exit.ret (.inl rfl)  rfl ⟨RV.agg _ 1 0 _ _ _ _ la_1 rfl rfl rfl rfl,RV.tmp _ _ rfl,trivial⟩ ?_
   rw [zg8 hpl,hc3,hc4];first | done | rfl
  have hc5:=hc;clear hc
  rw [hc5] at h
  refine rq za0 3 [(1,.cmp (op:=.eql) (m:=(sgn (za3 r.t).k.val)) (n:=0) (b:=false) .i64 hc3)] [(1,vp 0 0),(2,vp 1 0),(3,vI 0),(4,vp 2 0),(32,vb (decide (sgn (za3 r.t).k.val>0)))] [(0,.box ([.d (.sl 3 (r.t.parts.map za4.d))]++zi r.t.k++[.d (.raw (.bool false))])),(1,.box zR0),(2,.box ([.d (.sl 3 ((za3 r.t).parts.map za4.d))]++zi (za3 r.t).k))] h fun a w h=>?_
  refine zam (sgn (za3 r.t).k.val>0) h rfl (fun hc6 hc6'=>?_) (fun hc7 hc7'=>?_)
  ·refine rqk za0 3 [] [(1,vp 0 0),(2,vp 1 0),(3,vI 1),(4,vp 2 0)] h fun a w h=>?_
   refine wp_ret (za8 (za8 ?_))
   replace h:=zbo 1 0 3 zR0 [(1,vp 0 0),(2,vp 1 0),(3,vI 1),(4,vp 2 0)] [(0,.box ([.d (.sl 3 (r.t.parts.map za4.d))]++zi r.t.k++[.d (.raw (.bool false))])),(1,.box [.d (.sl 3 ([].map za4.d)),.d (.raw (.bool false)),.d (nsl []),.d (.raw (.bool false))]),(2,.box ([.d (.sl 3 ((za3 r.t).parts.map za4.d))]++zi (za3 r.t).k))] h rfl rfl
   refine zd0 [.agg [.d (.sl 3 ([].map za4.d)),.d (.raw (.bool false)),.d (nsl []),.d (.raw (.bool false))],.c (.d (.raw (.int .i64 1)))] h Exit.ret (.inl rfl)  rfl ⟨RV.agg _ 1 0 _ _ _ _ la_1 rfl rfl rfl rfl,RV.tmp _ _ rfl,trivial⟩ ?_
   rw [zg8 hpl,hc3,hc5,hc6];first | done | rfl
  refine wp_skip (za2 (rqk za0 3 [] [(1,vp 0 0),(2,vp 1 0),(3,vI (-1)),(4,vp 2 0)] h fun a w h=>?_))
  refine wp_ret (za8 ?_)
  replace h:=zbo 1 0 3 zR0 [(1,vp 0 0),(2,vp 1 0),(3,vI (-1)),(4,vp 2 0)] [(0,.box ([.d (.sl 3 (r.t.parts.map za4.d))]++zi r.t.k++[.d (.raw (.bool false))])),(1,.box [.d (.sl 3 ([].map za4.d)),.d (.raw (.bool false)),.d (nsl []),.d (.raw (.bool false))]),(2,.box ([.d (.sl 3 ((za3 r.t).parts.map za4.d))]++zi (za3 r.t).k))] h rfl rfl
  refine zd0 [.agg [.d (.sl 3 ([].map za4.d)),.d (.raw (.bool false)),.d (nsl []),.d (.raw (.bool false))],.c (.d (.raw (.int .i64 (-1))))] h Exit.ret (.inl rfl)  rfl ⟨RV.agg _ 1 0 _ _ _ _ la_1 rfl rfl rfl rfl,RV.tmp _ _ rfl,trivial⟩ ?_
  rw [zg8 hpl,hc3,hc5,hc7];first | done | rfl
 have hc8':=hc8;(try simp at hc8')
 refine wp_skip (za2 ?_)
 have hpl:(za3 r.t).parts.length≠0:=by have:=hc8;simpa using this
 have hcon:=con_pos (t:=r.t) (by omega)
 have hcon2:zc1 (za3 (za3 r.t)).parts=zc1 (za3 r.t).parts:=zeo _
 have hsl:=shr_len r.t
 obtain ⟨r3,er3,vr3,or3,lr3⟩:=mkZ (v:=zc1 (za3 (za3 r.t)).parts) (m:=9002) (con_len' (TOk.plain hr (by decide)) (by decide))
 refine rq za0 3 [(1,.call (Fn.cast (SRContent (za3 r.t) (TOk.plain hr (by decide)) (by decide) (by decide)) (congrArg vz er3.symm)) tw_9)] [(1,vp 0 0),(2,vp 1 0),(3,vI 0),(4,vp 2 0),(6,vp 3 0)] [(0,.box ([.d (.sl 3 (r.t.parts.map za4.d))]++zi r.t.k++[.d (.raw (.bool r.eq))])),(1,.box zR0),(2,.box ([.d (.sl 3 ((za3 r.t).parts.map za4.d))]++zi (za3 r.t).k)),(3,.box (zi r3))] h fun a w h=>?_
 obtain ⟨r4q,er4q,vr4q,or4q,lr4q⟩:=mkZ (v:=(za3 r.t).k.val.fdiv r3.val) (m:=(za3 r.t).k.abs.length) (zek ((TOk.plain hr (by decide))).kb (by omega))
 obtain ⟨r4r,er4r,vr4r,or4r,lr4r⟩:=mkZ (v:=(za3 r.t).k.val.fmod r3.val) (m:=r3.abs.length) (zfp or3 (by omega))
 refine rq za0 4 [(3,.call (Fn.cast (SRDiv (za3 r.t).k r3 ((TOk.plain hr (by decide))).kb or3 (by omega) (by omega) (by omega)) (show _=(.tup [.agg (zi r4q),.agg (zi r4r),.c (.d (.raw (.int .i64 0)))]:V) by rw [er4q,er4r];first | done | rfl)) tw_15)] [(1,vp 0 0),(2,vp 1 0),(3,vI 0),(4,vp 2 0),(8,vp 5 0)] [(0,.box ([.d (.sl 3 (r.t.parts.map za4.d))]++zi r.t.k++[.d (.raw (.bool r.eq))])),(1,.box zR0),(2,.box ([.d (.sl 3 ((za3 r.t).parts.map za4.d))]++zi (za3 r.t).k)),(5,.box (zi r4r))] h fun a w h=>?_
 refine wp_seq ?_
 rcases Bool.eq_false_or_eq_true r.eq with hc | hc
 ·have hc9:=hc;clear hc
  rw [hc9] at h
  refine rq za0 6 [(4,.call (zby r4r or4r (by omega)) zi4)] [(1,vp 0 0),(2,vp 1 0),(3,vI 0),(4,vp 2 0),(51,vb (sgn r4r.val != 0))] [(0,.box ([.d (.sl 3 (r.t.parts.map za4.d))]++zi r.t.k++[.d (.raw (.bool true))])),(1,.box zR0),(2,.box ([.d (.sl 3 ((za3 r.t).parts.map za4.d))]++zi (za3 r.t).k))] h fun a w h=>?_
  refine zah (sgn r4r.val != 0) h rfl (fun hc10=>?_) (fun hc11=>?_)
  ·have hc10':=hc10;(try simp at hc10')
   refine rqk za0 6 [] [(1,vp 0 0),(2,vp 1 0),(3,vI (-1)),(4,vp 2 0)] h fun a w h=>?_
   refine wp_ret (za8 ?_)
   replace h:=zbo 1 0 3 zR0 [(1,vp 0 0),(2,vp 1 0),(3,vI (-1)),(4,vp 2 0)] [(0,.box ([.d (.sl 3 (r.t.parts.map za4.d))]++zi r.t.k++[.d (.raw (.bool true))])),(1,.box [.d (.sl 3 ([].map za4.d)),.d (.raw (.bool false)),.d (nsl []),.d (.raw (.bool false))]),(2,.box ([.d (.sl 3 ((za3 r.t).parts.map za4.d))]++zi (za3 r.t).k))] h rfl rfl
   refine zd0 [.agg [.d (.sl 3 ([].map za4.d)),.d (.raw (.bool false)),.d (nsl []),.d (.raw (.bool false))],.c (.d (.raw (.int .i64 (-1))))] h Exit.ret (.inl rfl)  rfl ⟨RV.agg _ 1 0 _ _ _ _ la_1 rfl rfl rfl rfl,RV.tmp _ _ rfl,trivial⟩ ?_
   rw [tight_no hpl hc9 (by rw [← vr3,← vr4r];exact sgn_ne hc10)];first | done | rfl
  have hc11':=hc11;(try simp at hc11')
  refine wp_skip (za2 (rq za0 6 [(1,.call (SRShrink (za3 r.t) (TOk.plain hr (by decide)) (by decide) (by decide)) ua_5)] [(1,vp 0 0),(2,vp 1 0),(3,vI 0),(10,vp 6 0)] [(0,.box ([.d (.sl 3 (r.t.parts.map za4.d))]++zi r.t.k++[.d (.raw (.bool true))])),(1,.box zR0),(6,.box ([.d (.sl 3 ((zc4 (za3 r.t)).parts.map za4.d))]++zi (zc4 (za3 r.t)).k))] h fun a w h=>?_))
  refine wp_seq ?_
  obtain ⟨x7,hx7⟩:=gl ((zc4 (za3 r.t)).parts) 0
  obtain ⟨ox7,lx7⟩:=((shr_tok (TOk.plain hr (by decide)) (by decide))).get hx7
  refine rqk za0 8 [(5,.g (xD 63 62 zc3 (zaf hx7 (f:=za4.d)) (OV.const (.int .i64 0) rfl))),(8,.call (zby x7.c ox7 (by omega)) zi4)] [(1,vp 0 0),(2,vp 1 0),(3,vI 0),(10,vp 6 0),(68,vb (decide (sgn x7.c.val<0)))] h fun a w h=>?_
  refine zam (sgn x7.c.val<0) h rfl (fun hc12 hc12'=>?_) (fun hc13 hc13'=>?_)
  ·obtain ⟨r9,er9,vr9,or9,lr9⟩:=mkZ (v:=(-1)) (m:=2) (ZI.len_of (by have:=pw2;omega))
   refine rn za0 8 [(1,.call (Fn.cast (SROf (-1) ⟨by omega,by omega⟩) (congrArg vz er9.symm)) tc_0),(2,.call (SRScale (zc4 (za3 r.t)) r9 (shr_tok (TOk.plain hr (by decide)) (by decide)) (by decide) or9 lr9 (by decide)) hT_10)] [(1,vp 0 0),(2,vp 1 0),(3,vI 0),(10,vp 6 0)] [(0,.box ([.d (.sl 3 (r.t.parts.map za4.d))]++zi r.t.k++[.d (.raw (.bool true))])),(1,.box zR0),(6,.box ([.d (.sl 3 ((zb7 (zc4 (za3 r.t)) r9).parts.map za4.d))]++zi (zb7 (zc4 (za3 r.t)) r9).k))] h fun a w h=>?_
   refine za2 (rq za0 8 [] [(2,vp 1 0),(3,vI 0)] [(1,.box ([.d (.sl 3 ((zb7 (zc4 (za3 r.t)) r9).parts.map za4.d))]++zi (zb7 (zc4 (za3 r.t)) r9).k++[.d (.raw (.bool true))]))] h fun a w h=>?_)
   refine wp_ret ?_
   refine zd0 [.agg ([.d (.sl 3 ((zb7 (zc4 (za3 r.t)) r9).parts.map za4.d))]++zi (zb7 (zc4 (za3 r.t)) r9).k++[.d (.raw (.bool true))]),.c (.d (.raw (.int .i64 0)))] h Exit.ret (.inl rfl)  rfl ⟨RV.agg _ 1 0 _ _ _ _ la_1 rfl rfl rfl rfl,RV.tmp _ _ rfl,trivial⟩ ?_
   rw [er9];rw [zif hpl hc9 (by rw [← vr3,← vr4r];exact sgn_eq hc11) (b:=true) (by rw [ziv hx7];exact hc12)];first | done | rfl
  refine wp_skip (za2 (rq za0 8 [] [(2,vp 1 0),(3,vI 0)] [(1,.box ([.d (.sl 3 ((zc4 (za3 r.t)).parts.map za4.d))]++zi (zc4 (za3 r.t)).k++[.d (.raw (.bool true))]))] h fun a w h=>?_))
  refine wp_ret ?_
  refine zd0 [.agg ([.d (.sl 3 ((zc4 (za3 r.t)).parts.map za4.d))]++zi (zc4 (za3 r.t)).k++[.d (.raw (.bool true))]),.c (.d (.raw (.int .i64 0)))] h Exit.ret (.inl rfl)  rfl ⟨RV.agg _ 1 0 _ _ _ _ la_1 rfl rfl rfl rfl,RV.tmp _ _ rfl,trivial⟩ ?_
  rw [zif hpl hc9 (by rw [← vr3,← vr4r];exact sgn_eq hc11) (b:=false) (by rw [ziv hx7];exact hc13)];first | done | rfl
 have hc14:=hc;clear hc
 rw [hc14] at h
 refine rq za0 8 [] [(1,vp 0 0),(2,vp 1 0),(3,vI 0),(4,vp 2 0),(51,vb false)] [(0,.box ([.d (.sl 3 (r.t.parts.map za4.d))]++zi r.t.k++[.d (.raw (.bool false))])),(1,.box zR0),(2,.box ([.d (.sl 3 ((za3 r.t).parts.map za4.d))]++zi (za3 r.t).k))] h fun a w h=>?_
 refine zah false h rfl nofun (fun _=>?_)
 refine wp_skip (za2 (rq za0 8 [(1,.call (SRShrink (za3 r.t) (TOk.plain hr (by decide)) (by decide) (by decide)) ua_5)] [(1,vp 0 0),(2,vp 1 0),(3,vI 0),(10,vp 8 0)] [(0,.box ([.d (.sl 3 (r.t.parts.map za4.d))]++zi r.t.k++[.d (.raw (.bool false))])),(1,.box zR0),(8,.box ([.d (.sl 3 ((zc4 (za3 r.t)).parts.map za4.d))]++zi (zc4 (za3 r.t)).k))] h fun a w h=>?_))
 refine wp_seq (rqk za0 10 [] [(1,vp 0 0),(2,vp 1 0),(3,vI 0),(10,vp 8 0),(68,vb false)] h fun a w h=>?_)
 refine zah false h rfl nofun (fun _=>?_)
 refine wp_skip (za2 (rq za0 10 [] [(2,vp 1 0),(3,vI 0)] [(1,.box ([.d (.sl 3 ((zc4 (za3 r.t)).parts.map za4.d))]++zi (zc4 (za3 r.t)).k++[.d (.raw (.bool false))]))] h fun a w h=>?_))
 refine wp_ret ?_
 refine zd0 [.agg ([.d (.sl 3 ((zc4 (za3 r.t)).parts.map za4.d))]++zi (zc4 (za3 r.t)).k++[.d (.raw (.bool false))]),.c (.d (.raw (.int .i64 0)))] h Exit.ret (.inl rfl)  rfl ⟨RV.agg _ 1 0 _ _ _ _ la_1 rfl rfl rfl rfl,RV.tmp _ _ rfl,trivial⟩ ?_
 rw [tight_le hpl hc14];first | done | rfl
end
section
open Go.RowKit

theorem ls19_1:za6 Tryz.prog 103:=za6.mk' (by kernel_rfl)
theorem ls19_3:za6 Tryz.prog 104:=za6.mk' (by kernel_rfl)
theorem ls19_7:za6 Tryz.prog 65:=za6.mk' (by kernel_rfl)
theorem ls19_8:za6 Tryz.prog 66:=za6.mk' (by kernel_rfl)
theorem ls19_9:za6 Tryz.prog 67:=za6.mk' (by kernel_rfl)
theorem ls19_14:za6 Tryz.prog 46:=za6.mk' (by kernel_rfl)
theorem ls19_15:za6 Tryz.prog 64:=za6.mk' (by kernel_rfl)
theorem ls19_16:za6 Tryz.prog 45:=za6.mk' (by kernel_rfl)
theorem neg_neg (t:zb9) (s:zb9):zhz (za3 t) s=zhz (neg1 (neg1 t)) s:=by
 unfold zhz
 rw [add_eq (u:=addT (neg1 (neg1 t)) (zb7 s (ZI.of (-1)))) ?_ ?_]
 ·unfold addT;rw [zbp]
 ·intro v;rw [coef_add,zhp];unfold neg1;simp only [coef_scale,ZI.val_of];omega
 ·rw [show (addT (neg1 (neg1 t)) (zb7 s (ZI.of (-1)))).k.val=(neg1 (neg1 t)).k.val+(zb7 s (ZI.of (-1))).k.val from k_add _ _,show (za3 t).k.val=t.k.val from ZI.val_of _]
  unfold neg1;simp only [k_scale,ZI.val_of];omega
theorem low_two (t:zb9):(⟨zhz (za3 t) (zgo (ZI.of 1)),false⟩:zac)=lowR (neg1 t):=by unfold lowR;rw [neg_neg]
theorem LR4Deny (r:zac) (hr:TOk 300 2000 r.t):Fn Tryz.prog 67 [] [(vR r)] (vRs (zap r)) []:=by
 refine Fn.body Tryz.func67 rfl 29 rfl fun w H B a h=>?_
 refine rq za0 0 [] [(1,vp 0 0),(2,.t (.c (.d (.raw zae))))] [(0,.box (zR_ r))] h fun a w h=>?_
 obtain ⟨r1,er1,vr1,or1,lr1⟩:=mkZ (v:=1) (m:=2) (ZI.len_of (by have:=pw2;omega))
 refine rq za0 1 [(0,.call (Fn.cast (SROf 1 ⟨by omega,by omega⟩) (congrArg vz er1.symm)) tc_0),(1,.call (SRNumber r1 or1 (by omega)) ls19_1)] [(1,vp 0 0),(2,.t (.c (.d (.raw zae)))),(3,vp 1 0)] [(0,.box (zR_ r)),(1,.box (zT (zgo r1)))] h fun a w h=>?_
 obtain ⟨r3,er3,vr3,or3,lr3⟩:=mkZ (v:=(-1)) (m:=2) (ZI.len_of (by have:=pw2;omega))
 refine rq za0 2 [(2,.call (Fn.cast (SROf (-1) ⟨by omega,by omega⟩) (congrArg vz er3.symm)) tc_0),(3,.call (SRScale r.t r3 hr (by decide) or3 lr3 (by decide)) hT_10)] [(1,vp 0 0),(2,.t (.c (.d (.raw zae)))),(3,vp 1 0),(4,vp 2 0)] [(0,.box (zR_ r)),(1,.box (zT (zgo r1))),(2,.box (zT (zb7 r.t r3)))] h fun a w h=>?_
 refine rq za0 3 [(2,.call (SRTSub (zb7 r.t r3) (zgo r1) (((TOk.mul hr or3 lr3).plain (by decide)).mono (by decide) (by decide)) ((TOk.num (ZI.lb_of _) (Nat.le_trans (zcd or1) (by omega))).mono (by decide) (by decide))) ls19_3)] [(1,vp 0 0),(2,.t (.c (.d (.raw zae)))),(3,vp 1 0),(5,vp 3 0)] [(0,.box (zR_ r)),(1,.box (zT (zgo r1))),(3,.box ((zT (zhz (zb7 r.t r3) (zgo r1)))++[cB false]))] h fun a w h=>?_
 refine wp_seq (rqk za0 4 [] [(1,vp 0 0),(2,.t (.c (.d (.raw zae)))),(3,vp 1 0),(5,vp 3 0),(18,vb (!r.eq))] h fun a w h=>?_)
 refine zah (!r.eq) h rfl (fun hc1=>?_) (fun hc2=>?_)
 ·have hc1':=hc1;(try simp at hc1')
  refine rqk za0 4 [(1,.g (bD 20 ([(zac.mk (zhz (zb7 r.t r3) (zgo r1)) false)].map zac.d) [(19,.t (.agg ((zT (zhz (zb7 r.t r3) (zgo r1)))++[cB false])))] kc_5 (.cons (i:=0) (OV.tmp 19 _) (.nil)) (by kernel_rfl) (by simp [zac.d])))] [(1,vp 0 0),(2,(vRs [(zac.mk (zhz (zb7 r.t r3) (zgo r1)) false)])),(3,vp 1 0),(5,vp 3 0)] h fun a w h=>?_
  refine wp_ret (za8 ?_)
  refine rT (.c (cRs [(zac.mk (zhz (zb7 r.t r3) (zgo r1)) false)])) h rfl rfl ?_
  subst er1;subst er3;unfold zap;rw [if_neg (by rw [(show (r.eq)=false from by simpa using hc1)];exact Bool.noConfusion)];first | (rw [← low_two];first | done | rfl) | rfl
 have hc2':=hc2;(try simp at hc2')
 refine wp_skip (za2 (rq za0 4 [(2,.call (SRPlain' r.t hr (by decide) (by decide)) tc_2),(4,.call (SRTSub (za3 r.t) (zgo r1) ((TOk.plain hr (by decide)).mono (by decide) (by decide)) ((TOk.num (ZI.lb_of _) (Nat.le_trans (zcd or1) (by omega))).mono (by decide) (by decide))) ls19_3),(7,.g (Op.buildD (d:=28) (len:=2) (rows:=[(zac.mk (zhz (za3 r.t) (zgo r1)) false),(zac.mk (zhz (zb7 r.t r3) (zgo r1)) false)].map zac.d) (rs:=[(26,.t (.agg ((zT (zhz (za3 r.t) (zgo r1)))++[cB false]))),(27,.t (.agg ((zT (zhz (zb7 r.t r3) (zgo r1)))++[cB false])))]) kc_5 (.cons (i:=0) (OV.tmp 26 _) (.cons (i:=1) (OV.tmp 27 _) (.nil))) (by kernel_rfl) rfl (by simp [zac.d]) (by decide) (by decide)))] [(2,(vRs [(zac.mk (zhz (za3 r.t) (zgo r1)) false),(zac.mk (zhz (zb7 r.t r3) (zgo r1)) false)]))] [] h fun a w h=>?_))
 refine wp_ret ?_
 refine rT (.c (cRs [(zac.mk (zhz (za3 r.t) (zgo r1)) false),(zac.mk (zhz (zb7 r.t r3) (zgo r1)) false)])) h rfl rfl ?_
 subst er1;subst er3;unfold zap;rw [if_pos (show (r.eq)=true from by simpa using hc2)];first | (rw [← low_two];first | done | rfl) | rfl
theorem zh6 (b:Bool) :Fn Tryz.prog 65 [] [vb b] (vF (zcf b)) []:=by
 refine Fn.body Tryz.func65 rfl 6 rfl fun w H B a h=>?_
 refine rq za0 0 [] [(0,vb b),(2,vp 0 0)] [(0,.box zF0)] h fun a w h=>?_
 refine wp_seq (rqk za0 1 [] [(2,vp 0 0),(3,vb b)] h fun a w h=>?_)
 refine zah b h rfl (fun hc1=>?_) (fun hc2=>?_)
 ·refine rqk za0 1 [] [(2,vp 0 0)] h fun a w h=>?_
  refine wp_ret (za8 ?_)
  replace h:=zbo 0 1 3 zF0 [(2,vp 0 0)] [(0,.box [cI 0,cPs [],cB false,.d (nsl []),cB false,.d (.raw zae)])] h rfl rfl
  replace h:=zbo 0 5 6 [cI 0,cPs [],cB false,.d (nsl []),cB false,.d (.raw zae)] [(2,vp 0 0)] [(0,.box [cI 0,cPs [],cB false,.d (nsl []),cB false,cFs []])] h rfl rfl
  refine rA 0 [cI 0,cPs [],cB false,.d (nsl []),cB false,cFs []] h zd2 rfl rfl rfl rfl rfl ?_
  rw [hc1];rfl
 refine wp_skip (za2 (rq za0 1 [] [(2,vp 0 0)] [(0,.box [cI 1,.d (.raw zae),cB false,.d (nsl []),cB false,.d (.raw zae)])] h fun a w h=>?_))
 refine wp_ret ?_
 replace h:=zbo 0 1 3 [cI 1,.d (.raw zae),cB false,.d (nsl []),cB false,.d (.raw zae)] [(2,vp 0 0)] [(0,.box [cI 1,cPs [],cB false,.d (nsl []),cB false,.d (.raw zae)])] h rfl rfl
 replace h:=zbo 0 5 6 [cI 1,cPs [],cB false,.d (nsl []),cB false,.d (.raw zae)] [(2,vp 0 0)] [(0,.box [cI 1,cPs [],cB false,.d (nsl []),cB false,cFs []])] h rfl rfl
 refine rA 0 [cI 1,cPs [],cB false,.d (nsl []),cB false,cFs []] h zd2 rfl rfl rfl rfl rfl ?_
 rw [hc2];rfl
theorem LR5Atom (r:zac) (hr:TOk 1000 10000 r.t):Fn Tryz.prog 66 [] [(vR r)] (vF (zb8 r)) []:=by
 refine Fn.body Tryz.func66 rfl 10 rfl fun w H B a h=>?_
 refine rq za0 0 [] [(1,vp 0 0),(2,vp 1 0)] [(0,.box (zR_ r)),(1,.box zF0)] h fun a w h=>?_
 refine rq za0 2 [(2,.call (SRPlain' r.t hr (by decide) (by decide)) tc_2)] [(2,vp 1 0)] [(1,.box ([cI 2,cPs (za3 r.t).parts]++zi (za3 r.t).k++[cB r.eq,.d (.raw zae)]))] h fun a w h=>?_
 refine wp_ret ?_
 replace h:=zbo 1 5 6 ([cI 2,cPs (za3 r.t).parts]++zi (za3 r.t).k++[cB r.eq,.d (.raw zae)]) [(2,vp 1 0)] [(1,.box ([cI 2,cPs (za3 r.t).parts]++zi (za3 r.t).k++[cB r.eq,cFs []]))] h rfl rfl
 refine rA 1 ([cI 2,cPs (za3 r.t).parts]++zi (za3 r.t).k++[cB r.eq,cFs []]) h zd2 rfl rfl rfl rfl rfl ?_
 rfl
theorem inw_0 {f:za1} {d:Bool} (h:f.kind=0):f.inw d=zcf (!d):=by rw [za1.inw_eq,h];rfl
theorem inw_2f {f:za1} {d:Bool} (h:f.kind=2) (hd:d=false):f.inw d=zb8 f.r:=by rw [za1.inw_eq,h,hd];rfl
theorem inw_2t {f:za1} {d:Bool} (h:f.kind=2) (hd:d=true):f.inw d=⟨5,zR,(zap f.r).map zb8⟩:=by rw [za1.inw_eq,h,hd];rfl
theorem inw_3n {f:za1} {d:Bool} (h:f.kind=3) (hl:f.kids.length=0):f.inw d=zcf d:=by rw [za1.inw_eq,h,List.length_eq_zero_iff.1 hl];rfl
theorem inw_3c {f g:za1} {d:Bool} (h:f.kind=3) (hg:f.kids[0]?=some g):f.inw d=g.inw (!d):=by
 obtain ⟨tl,e⟩:=zho hg
 rw [za1.inw_eq,h,e];rfl
theorem inw_45 {f:za1} {d:Bool} (h:f.kind=4∨f.kind=5):f.inw d=⟨if d=true then 9 - f.kind else f.kind,zR,f.kids.map fun g=>g.inw d⟩:=by
 rw [za1.inw_eq];unfold inwK
 rw [if_neg (by omega),if_neg (by omega),if_neg (by omega),if_pos h,List.map_map];rfl
theorem inw_x {f:za1} {d:Bool} (h0:f.kind≠0) (h2:f.kind≠2) (h3:f.kind≠3) (h4:f.kind≠4) (h5:f.kind≠5):f.inw d=zcf d:=by
 rw [za1.inw_eq];unfold inwK
 rw [if_neg h0,if_neg h2,if_neg h3,if_neg (by omega)]
theorem merge_2k {f:za1} (h:f.kind=2) (hk:(zao f.r).2≠0):f.merge=zcf (decide ((zao f.r).2>0)):=by
 rw [za1.merge_eq];unfold zew zav;rw [if_pos h,if_neg hk]
theorem merge_2o {f:za1} (h:f.kind=2) (hk:(zao f.r).2=0):f.merge=⟨2,(zao f.r).1,[]⟩:=by
 rw [za1.merge_eq];unfold zew zav;rw [if_pos h,if_pos hk]
theorem merge_x {f:za1} (h2:¬ f.kind=2) (h4:¬ f.kind=4) (h5:¬ f.kind=5):f.merge=f:=by
 rw [za1.merge_eq];unfold zew;rw [if_neg h2,if_neg (by omega)];cases f;rfl
theorem zgs {f:za1} (h:f.kind=4∨f.kind=5):f.merge=zbe f.kind (f.kids.map za1.merge) []:=by
 rw [za1.merge_eq];unfold zew;rw [if_neg (by omega),if_pos h];rfl
theorem merge_nodes (f:za1):f.merge.nodes≤f.nodes :=
 za1.ind (P:=fun f=>f.merge.nodes≤f.nodes) (fun k r ks ih=>by
  rw [za1.merge_eq,za1.nodes_eq ⟨k,r,ks⟩]
  show (zew k r ks (ks.map za1.merge)).nodes≤1+(ks.map za1.nodes).sum
  unfold zew
  split
  ·rw [zef];omega
  ·split
   ·have h1:=zcn (k:=k) (ks.map za1.merge) []
    rw [List.map_map] at h1
    have h2:(ks.map (za1.nodes ∘ za1.merge)).sum≤(ks.map za1.nodes).sum:=sum_le fun g hg=>ih g hg
    show (zbe k _ []).nodes≤_
    simp only [List.map_nil,List.sum_nil] at h1
    omega
   ·rw [za1.nodes_eq];exact Nat.le_refl _) f
theorem merges_nodes (f:za1):((f.kids.map za1.merge).map za1.nodes).sum≤f.nodes:=by
 rw [List.map_map,za1.nodes_eq]
 have h2:(f.kids.map (za1.nodes ∘ za1.merge)).sum≤(f.kids.map za1.nodes).sum:=sum_le fun g _=>merge_nodes g
 omega
theorem Linward0 (f:za1) (d:Bool) (ih:∀ g ∈ cnt f.kind f.kids,∀ d:Bool,Fn Tryz.prog 46 [] [(vF g),vb d] (vF (za1.inw g d)) []) (hf:f.okB 300 2000):Fn Tryz.prog 46 [] [(vF f),vb d] (vF (za1.inw f d)) []:=by
 have ldn:=deny_len f.r
 have lkm:=zgt hf
 have lck:=zfd hf
 refine Fn.body Tryz.func46 rfl 91 rfl fun w H B a h=>?_
 refine rq za0 0 [] [(1,vb d),(2,vp 0 0),(4,vp 1 0)] [(0,.box (zF f)),(1,.box zF0)] h fun a w h=>?_
 refine wp_seq (rqk za0 2 [] [(1,vb d),(2,vp 0 0),(4,vp 1 0),(11,vI f.kind)] h fun a w h=>?_)
 refine wp_block (rqk za0 2 [] [(1,vb d),(2,vp 0 0),(4,vp 1 0),(11,vI f.kind),(12,vb (f.kind == 0))] h fun a w h=>?_)
 refine zah (f.kind == 0) h rfl (fun hc1=>?_) (fun hc2=>?_)
 ·have hc1':=hc1;(try simp at hc1')
  refine rq za0 2 [(2,.call (zh6 (!d)) ls19_7)] [(1,vb d),(4,vp 1 0)] [(1,.box (zF (zcf (!d))))] h fun a w h=>?_
  refine wp_ret (zad (za8 ?_))
  refine rA 1 (zF (zcf (!d))) h zd2 rfl rfl rfl rfl rfl ?_
  rw [inw_0 (by have:=hc1;simpa using this)];first | done | rfl
 have hc2':=hc2;(try simp at hc2')
 refine rqk za0 2 [] [(1,vb d),(2,vp 0 0),(4,vp 1 0),(11,vI f.kind),(17,vb (f.kind == 2))] h fun a w h=>?_
 refine zah (f.kind == 2) h rfl (fun hc3=>?_) (fun hc8=>?_)
 ·have hc3':=hc3;(try simp at hc3')
  refine wp_seq (rqk za0 2 [] [(1,vb d),(2,vp 0 0),(4,vp 1 0),(20,vb (!d))] h fun a w h=>?_)
  refine zah (!d) h rfl (fun hc4=>?_) (fun hc5=>?_)
  ·have hc4':=hc4;(try simp at hc4')
   refine rq za0 2 [(2,.call (LR5Atom f.r ((rel_ok hf hc3).mono (by decide) (by decide))) ls19_8)] [(1,vb d),(2,vp 0 0),(4,vp 1 0)] [(0,.box (zF f)),(1,.box (zF (zb8 f.r)))] h fun a w h=>?_
   refine wp_ret (za8 (zad (za8 ?_)))
   refine rA 1 (zF (zb8 f.r)) h zd2 rfl rfl rfl rfl rfl ?_
   rw [inw_2f (by have:=hc3;simpa using this) (by have:=hc4;simpa using this)];first | done | rfl
  have hc5':=hc5;(try simp at hc5')
  refine wp_skip (za2 (rq za0 2 [] [(1,vb d),(2,vp 0 0),(4,vp 1 0),(5,vp 2 0)] [(0,.box (zF f)),(1,.box zF0),(2,.box [cI 5,.d (.raw zae),cB false,.d (nsl []),cB false,.d (.raw zae)])] h fun a w h=>?_))
  refine rq za0 3 [(2,.call (LR4Deny f.r (rel_ok hf hc3)) ls19_9)] [(1,vb d),(4,vp 1 0),(5,vp 2 0),(6,(vRs (zap f.r)))] [(1,.box zF0),(2,.box [cI 5,.d (.raw zae),cB false,.d (nsl []),cB false,.d (.raw zae)])] h fun a w h=>?_
  refine wp_seq (rqk za0 3 [] [(1,vb d),(4,vp 1 0),(5,vp 2 0),(6,(vRs (zap f.r))),(7,vI 0)] h fun a w h=>?_)
  refine wp_block ?_
  replace h:=ze7 2 5 3 6 60 [cI 5,.d (.raw zae),cB false,.d (nsl []),cB false,.d (.raw zae)] [(1,vb d),(4,vp 1 0),(5,vp 2 0),(6,(vRs (zap f.r))),(7,vI 0)] [(1,.box zF0),(2,.box [cI 5,.d (.raw zae),cB false,.d (nsl []),cB false,.own 3 0]),(3,.row 60 6 ([].map za1.d))] h (by kernel_rfl) rfl rfl
  refine zau (ι:=(Nat)) (fun j=>j≤(zap f.r).length)
    (fun j=>[(1,vb d),(4,vp 1 0),(5,vp 2 0),(6,(vRs (zap f.r))),(7,vN j)])
    (fun j=>[(1,.box zF0),(2,.box [cI 5,.d (.raw zae),cB false,.d (nsl []),cB false,.own 3 (((zap f.r).take j).map zb8).length]),(3,.row 60 6 ((((zap f.r).take j).map zb8).map za1.d))])
    (fun j=>(zap f.r).length - j) 0 ?_ h (by kernel_rfl) (by kernel_rfl) ?_
  ·exact Nat.zero_le _
  clear h;rintro j a w hI h
  have lmj:(((zap f.r).take j).map zb8).length≤j:=by rw [List.length_map,List.length_take];omega
  refine wp_seq (rqk za0 4 [(2,.len (za9 4 zac.d (zap f.r)))] [(1,vb d),(4,vp 1 0),(5,vp 2 0),(6,(vRs (zap f.r))),(7,vN j),(31,vb (decide ((j:Int)<((zap f.r).length:Int))))] h fun a w h=>?_)
  refine zam ((j:Int)<((zap f.r).length:Int)) h rfl (fun hc6 hc6'=>?_) (fun hc7 hc7'=>?_)
  ·refine wp_skip (za2 (wp_seq (wp_block ?_)))
   obtain ⟨x4,hx4⟩:=gl (zap f.r) j
   refine rn za0 4 [(4,.g (xD 38 36 kc_3 (zaf hx4 (f:=zac.d)) (OV.tmp 37 _))),(6,.call (LR5Atom x4 ((ziw (rel_ok hf hc3) (by decide) x4 (lM hx4)).mono (by decide) (by decide))) ls19_8),(7,.g (bD 41 ([(zb8 x4)].map za1.d) [(40,(vF (zb8 x4)))] kb_1 (.cons (i:=0) (OV.tmp 40 _) (.nil)) (by simp only [List.map_cons,List.map_nil,List.flatten_cons,List.flatten_nil,List.append_nil,za1.d_eq];kernel_rfl) (by simp [za1.d_len]))),(8,.g (aD 42 35 41 3 4 (((zap f.r).take j).map zb8) [(zb8 x4)] za1.d la_7 (by simp [za1.d_len])))] [(1,vb d),(4,vp 1 0),(5,vp 2 0),(6,(vRs (zap f.r))),(7,vN j)] [(1,.box zF0),(2,.box ([cI 5,.d (.raw zae),cB false,.d (nsl []),cB false,.own 4 ((((zap f.r).take j).map zb8)++[(zb8 x4)]).length])),(4,.row 60 6 (((((zap f.r).take j).map zb8)++[(zb8 x4)]).map za1.d))] h fun a w h=>?_
   refine zaa (za2 (rnk za0 5 [(1,.j1 j)] [(1,vb d),(4,vp 1 0),(5,vp 2 0),(6,(vRs (zap f.r))),(7,vI ((j:Int)+1))] h fun a w h=>?_))
   refine za2 ?_
   rw [show (((((zap f.r).take j).map zb8)++[(zb8 x4)]):List za1)=(((zap f.r).take (j+1)).map zb8) from (zbn hx4)] at h
   replace h:=zbz 4 3 [(1,vb d),(4,vp 1 0),(5,vp 2 0),(6,(vRs (zap f.r))),(7,vI ((j:Int)+1))] [(1,.box zF0),(2,.box [cI 5,.d (.raw zae),cB false,.d (nsl []),cB false,.own 3 (((zap f.r).take (j+1)).map zb8).length]),(3,.row 60 6 ((((zap f.r).take (j+1)).map zb8).map za1.d))] h
   refine zaj (x:=j) (y:=j+1) h ?_ ?_
   ·have:=zag hx4
    show j+1≤(zap f.r).length
    omega
   show (zap f.r).length - (j+1)<(zap f.r).length - j
   have:=zag hx4;omega
  refine wp_exit (zab (zab (za7 (za2 (rq za0 5 [] [(1,vb d),(4,vp 1 0)] [(1,.box [cI 5,.d (.raw zae),cB false,.d (nsl []),cB false,.own 3 (((zap f.r).take j).map zb8).length]),(3,.row 60 6 ((((zap f.r).take j).map zb8).map za1.d))] h fun a w h=>?_)))))
  refine wp_ret (zad (za8 ?_))
  rw [show ((((zap f.r).take j).map zb8):List za1)=((zap f.r).map zb8) from (by rw [List.take_of_length_le (by omega)])] at h
  replace h:=zbo 1 1 3 [cI 5,.d (.raw zae),cB false,.d (nsl []),cB false,.own 3 ((zap f.r).map zb8).length] [(1,vb d),(4,vp 1 0)] [(1,.box [cI 5,cPs [],cB false,.d (nsl []),cB false,.own 3 ((zap f.r).map zb8).length]),(3,.row 60 6 (((zap f.r).map zb8).map za1.d))] h rfl rfl
  replace h:=zgn 3 6 60 (((zap f.r).map zb8).map za1.d) [(1,vb d),(4,vp 1 0)] [(1,.box [cI 5,cPs [],cB false,.d (nsl []),cB false,cFs ((zap f.r).map zb8)])] h rfl trivial (show zbt _ [((zap f.r).map zb8).length] from ⟨by first | exact (List.length_map _).symm | (simp;done) | (simp;omega),trivial⟩)
  refine rA 1 [cI 5,cPs [],cB false,.d (nsl []),cB false,cFs ((zap f.r).map zb8)] h zd2 rfl rfl rfl rfl rfl ?_
  rw [inw_2t (by have:=hc3;simpa using this) (by have:=hc5;simpa using this)];first | done | rfl
 have hc8':=hc8;(try simp at hc8')
 refine rqk za0 5 [] [(1,vb d),(2,vp 0 0),(4,vp 1 0),(11,vI f.kind),(45,vb (f.kind == 3))] h fun a w h=>?_
 refine zah (f.kind == 3) h rfl (fun hc9=>?_) (fun hc12=>?_)
 ·have hc9':=hc9;(try simp at hc9')
  refine rqk za0 5 [(2,.len (za9 6 za1.d f.kids))] [(1,vb d),(2,vp 0 0),(4,vp 1 0),(50,vb (decide ((f.kids.length:Int)>0)))] h fun a w h=>?_
  refine zam ((f.kids.length:Int)>0) h rfl (fun hc10 hc10'=>?_) (fun hc11 hc11'=>?_)
  ·obtain ⟨x6,hx6⟩:=gl f.kids 0
   refine rq za0 5 [(2,.g (xD 53 52 zhj ((zaf hx6 (f:=za1.d)).trans (congrArg some (za1.d_eq x6))) (OV.const (.int .i64 0) rfl))),(6,.call (ih x6 (by unfold cnt;rw [if_neg (by omega),if_pos (by omega)];exact zf7 hx6) (!d)) ls19_14)] [(1,vb d),(4,vp 1 0)] [(1,.box (zF (za1.inw x6 (!d))))] h fun a w h=>?_
   refine wp_ret (zad (za8 ?_))
   refine rA 1 (zF (za1.inw x6 (!d))) h zd2 rfl rfl rfl rfl rfl ?_
   rw [inw_3c (by have:=hc9;simpa using this) hx6];first | done | rfl
  refine wp_skip (zaa (za2 (rq za0 5 [(1,.call (zh6 d) ls19_7)] [(4,vp 1 0)] [(1,.box (zF (zcf d)))] h fun a w h=>?_)))
  refine wp_ret ?_
  refine rA 1 (zF (zcf d)) h zd2 rfl rfl rfl rfl rfl ?_
  rw [inw_3n (by have:=hc9;simpa using this) (by have:=hc11;simp at this;first | omega | (rw [this];rfl))];first | done | rfl
 have hc12':=hc12;(try simp at hc12')
 refine midH h [(1,vb d),(2,vp 0 0),(4,vp 1 0),(58,vb (decide (f.kind=4∨f.kind=5)))] [(0,.box (zF f)),(1,.box zF0)] ?_ (fun a w h=>?_)
 ·refine rqk za0 5 [] [(1,vb d),(2,vp 0 0),(4,vp 1 0),(11,vI f.kind),(58,vb (f.kind == 4))] h fun a w h=>?_
  refine zah (f.kind == 4) h rfl (fun hc13=>?_) (fun hc14=>?_)
  ·have hc13':=hc13;(try simp at hc13')
   refine wp_skip (za2 ?_)
   have hjn:decide (f.kind=4∨f.kind=5)=(f.kind == 4):=by rw [hc13];exact decide_eq_true (.inl (by have:=hc13;simpa using this))
   replace h:=h.conv (f':=F.of [(1,vb d),(2,vp 0 0),(4,vp 1 0),(11,vI f.kind),(58,vb (decide (f.kind=4∨f.kind=5)))] [(0,.box (zF f)),(1,.box zF0)]) (by rw [hjn])
   exact atS h
  have hc14':=hc14;(try simp at hc14')
  refine rnk za0 5 [] [(1,vb d),(2,vp 0 0),(4,vp 1 0),(58,vb (f.kind == 5))] h fun a w h=>?_
  refine za2 ?_
  have hjn:decide (f.kind=4∨f.kind=5)=(f.kind == 5):=by exact decide_eq_decide.2 ⟨fun e=>e.resolve_left (by have:=hc14;simpa using this),.inr⟩
  replace h:=h.conv (f':=F.of [(1,vb d),(2,vp 0 0),(4,vp 1 0),(58,vb (decide (f.kind=4∨f.kind=5)))] [(0,.box (zF f)),(1,.box zF0)]) (by rw [hjn])
  exact atS h
 refine zam (f.kind=4∨f.kind=5) h rfl (fun hc15 hc15'=>?_) (fun hc20 hc20'=>?_)
 ·refine rq za0 5 [] [(1,vb d),(2,vp 0 0),(4,vp 1 0),(8,vp 5 0)] [(0,.box (zF f)),(1,.box zF0),(5,.box [cI f.kind,.d (.raw zae),cB false,.d (nsl []),cB false,.d (.raw zae)])] h fun a w h=>?_
  refine midH h [(1,vb d),(2,vp 0 0),(4,vp 1 0),(8,vp 5 0)] [(0,.box (zF f)),(1,.box zF0),(5,.box [cI (if d=true then 9 - f.kind else f.kind),.d (.raw zae),cB false,.d (nsl []),cB false,.d (.raw zae)])] ?_ (fun a w h=>?_)
  ·refine rqk za0 6 [] [(1,vb d),(2,vp 0 0),(4,vp 1 0),(8,vp 5 0),(64,vb d)] h fun a w h=>?_
   refine zah d h rfl (fun hc16=>?_) (fun hc17=>?_)
   ·refine rn za0 6 [(2,.sub .i64 (m:=9) (n:=f.kind) i6)] [(1,vb d),(2,vp 0 0),(4,vp 1 0),(8,vp 5 0)] [(0,.box (zF f)),(1,.box zF0),(5,.box [cI (9 - f.kind),.d (.raw zae),cB false,.d (nsl []),cB false,.d (.raw zae)])] h fun a w h=>?_
    refine za2 ?_
    have hjn:(if d=true then 9 - f.kind else f.kind)=9 - f.kind:=if_pos hc16
    replace h:=h.conv (f':=F.of [(1,vb d),(2,vp 0 0),(4,vp 1 0),(8,vp 5 0)] [(0,.box (zF f)),(1,.box zF0),(5,.box [cI (if d=true then 9 - f.kind else f.kind),.d (.raw zae),cB false,.d (nsl []),cB false,.d (.raw zae)])]) (by rw [hjn])
    exact atS h
   refine wp_skip (za2 ?_)
   have hjn:(if d=true then 9 - f.kind else f.kind)=f.kind:=if_neg (by rw [hc17];exact Bool.noConfusion)
   replace h:=h.conv (f':=F.of [(1,vb d),(2,vp 0 0),(4,vp 1 0),(8,vp 5 0),(64,vb d)] [(0,.box (zF f)),(1,.box zF0),(5,.box [cI (if d=true then 9 - f.kind else f.kind),.d (.raw zae),cB false,.d (nsl []),cB false,.d (.raw zae)])]) (by rw [hjn])
   exact atS h
  refine wp_seq (rqk za0 6 [] [(1,vb d),(2,vp 0 0),(4,vp 1 0),(8,vp 5 0),(9,vI 0)] h fun a w h=>?_)
  refine wp_block ?_
  have lck2:f.kids.length≤1000000:=by have:=lck;unfold cnt at this;rw [if_pos (by omega)] at this;exact this
  replace h:=ze7 5 5 6 6 60 [cI (if d=true then 9 - f.kind else f.kind),.d (.raw zae),cB false,.d (nsl []),cB false,.d (.raw zae)] [(1,vb d),(2,vp 0 0),(4,vp 1 0),(8,vp 5 0),(9,vI 0)] [(0,.box (zF f)),(1,.box zF0),(5,.box [cI (if d=true then 9 - f.kind else f.kind),.d (.raw zae),cB false,.d (nsl []),cB false,.own 6 0]),(6,.row 60 6 ([].map za1.d))] h (by kernel_rfl) rfl rfl
  refine zau (ι:=(Nat)) (fun j=>j≤f.kids.length)
    (fun j=>[(1,vb d),(2,vp 0 0),(4,vp 1 0),(8,vp 5 0),(9,vN j)])
    (fun j=>[(0,.box (zF f)),(1,.box zF0),(5,.box [cI (if d=true then 9 - f.kind else f.kind),.d (.raw zae),cB false,.d (nsl []),cB false,.own 6 ((f.kids.take j).map (fun g=>za1.inw g d)).length]),(6,.row 60 6 (((f.kids.take j).map (fun g=>za1.inw g d)).map za1.d))])
    (fun j=>f.kids.length - j) 0 ?_ h (by kernel_rfl) (by kernel_rfl) ?_
  ·exact Nat.zero_le _
  clear h;rintro j a w hI h
  have lmj:((f.kids.take j).map (fun g=>za1.inw g d)).length≤j:=by rw [List.length_map,List.length_take];omega
  refine wp_seq (rqk za0 7 [(3,.len (za9 6 za1.d f.kids))] [(1,vb d),(2,vp 0 0),(4,vp 1 0),(8,vp 5 0),(9,vN j),(73,vb (decide ((j:Int)<(f.kids.length:Int))))] h fun a w h=>?_)
  refine zam ((j:Int)<(f.kids.length:Int)) h rfl (fun hc18 hc18'=>?_) (fun hc19 hc19'=>?_)
  ·refine wp_skip (za2 (wp_seq (wp_block ?_)))
   obtain ⟨x9,hx9⟩:=gl f.kids j
   refine rn za0 7 [(5,.g (xD 81 79 zhj ((zaf hx9 (f:=za1.d)).trans (congrArg some (za1.d_eq x9))) (OV.tmp 80 _))),(8,.call (ih x9 (by unfold cnt;rw [if_pos (by omega)];exact lM hx9) d) ls19_14),(9,.g (bD 85 ([(za1.inw x9 d)].map za1.d) [(84,(vF (za1.inw x9 d)))] kb_1 (.cons (i:=0) (OV.tmp 84 _) (.nil)) (by simp only [List.map_cons,List.map_nil,List.flatten_cons,List.flatten_nil,List.append_nil,za1.d_eq];kernel_rfl) (by simp [za1.d_len]))),(10,.g (aD 86 77 85 6 7 ((f.kids.take j).map (fun g=>za1.inw g d)) [(za1.inw x9 d)] za1.d la_7 (by simp [za1.d_len])))] [(1,vb d),(2,vp 0 0),(4,vp 1 0),(8,vp 5 0),(9,vN j)] [(0,.box (zF f)),(1,.box zF0),(5,.box ([cI (if d=true then 9 - f.kind else f.kind),.d (.raw zae),cB false,.d (nsl []),cB false,.own 7 (((f.kids.take j).map (fun g=>za1.inw g d))++[(za1.inw x9 d)]).length])),(7,.row 60 6 ((((f.kids.take j).map (fun g=>za1.inw g d))++[(za1.inw x9 d)]).map za1.d))] h fun a w h=>?_
   refine zaa (za2 (rnk za0 8 [(1,.j1 j)] [(1,vb d),(2,vp 0 0),(4,vp 1 0),(8,vp 5 0),(9,vI ((j:Int)+1))] h fun a w h=>?_))
   refine za2 ?_
   rw [show ((((f.kids.take j).map (fun g=>za1.inw g d))++[(za1.inw x9 d)]):List za1)=((f.kids.take (j+1)).map (fun g=>za1.inw g d)) from (zbn hx9)] at h
   replace h:=zbz 7 6 [(1,vb d),(2,vp 0 0),(4,vp 1 0),(8,vp 5 0),(9,vI ((j:Int)+1))] [(0,.box (zF f)),(1,.box zF0),(5,.box [cI (if d=true then 9 - f.kind else f.kind),.d (.raw zae),cB false,.d (nsl []),cB false,.own 6 ((f.kids.take (j+1)).map (fun g=>za1.inw g d)).length]),(6,.row 60 6 (((f.kids.take (j+1)).map (fun g=>za1.inw g d)).map za1.d))] h
   refine zaj (x:=j) (y:=j+1) h ?_ ?_
   ·have:=zag hx9
    show j+1≤f.kids.length
    omega
   show f.kids.length - (j+1)<f.kids.length - j
   have:=zag hx9;omega
  refine wp_exit (zab (zab (za7 (za2 (rq za0 8 [] [(1,vb d),(4,vp 1 0)] [(1,.box [cI (if d=true then 9 - f.kind else f.kind),.d (.raw zae),cB false,.d (nsl []),cB false,.own 6 ((f.kids.take j).map (fun g=>za1.inw g d)).length]),(6,.row 60 6 (((f.kids.take j).map (fun g=>za1.inw g d)).map za1.d))] h fun a w h=>?_)))))
  refine wp_ret (zad (za8 ?_))
  rw [show (((f.kids.take j).map (fun g=>za1.inw g d)):List za1)=(f.kids.map (fun g=>za1.inw g d)) from (by rw [List.take_of_length_le (by omega)])] at h
  replace h:=zbo 1 1 3 [cI (if d=true then 9 - f.kind else f.kind),.d (.raw zae),cB false,.d (nsl []),cB false,.own 6 (f.kids.map (fun g=>za1.inw g d)).length] [(1,vb d),(4,vp 1 0)] [(1,.box [cI (if d=true then 9 - f.kind else f.kind),cPs [],cB false,.d (nsl []),cB false,.own 6 (f.kids.map (fun g=>za1.inw g d)).length]),(6,.row 60 6 ((f.kids.map (fun g=>za1.inw g d)).map za1.d))] h rfl rfl
  replace h:=zgn 6 6 60 ((f.kids.map (fun g=>za1.inw g d)).map za1.d) [(1,vb d),(4,vp 1 0)] [(1,.box [cI (if d=true then 9 - f.kind else f.kind),cPs [],cB false,.d (nsl []),cB false,cFs (f.kids.map (fun g=>za1.inw g d))])] h rfl trivial (show zbt _ [(f.kids.map (fun g=>za1.inw g d)).length] from ⟨by first | exact (List.length_map _).symm | (simp;done) | (simp;omega),trivial⟩)
  refine rA 1 [cI (if d=true then 9 - f.kind else f.kind),cPs [],cB false,.d (nsl []),cB false,cFs (f.kids.map (fun g=>za1.inw g d))] h zd2 rfl rfl rfl rfl rfl ?_
  rw [inw_45 (dT hc15)];first | done | rfl
 refine wp_skip (zaa (za2 (rq za0 8 [(1,.call (zh6 d) ls19_7)] [(4,vp 1 0)] [(1,.box (zF (zcf d)))] h fun a w h=>?_)))
 refine wp_ret ?_
 refine rA 1 (zF (zcf d)) h zd2 rfl rfl rfl rfl rfl ?_
 rw [inw_x (by have:=hc2;simpa using this) (by have:=hc8;simpa using this) (by have:=hc12;simpa using this) (fun e4=>dF hc20 (.inl e4)) (fun e5=>dF hc20 (.inr e5))];first | done | rfl
theorem Linward (f:za1):f.okB 300 2000→∀ d:Bool,Fn Tryz.prog 46 [] [(vF f),vb d] (vF (za1.inw f d)) [] :=
 za1.ind (P:=fun f=>f.okB 300 2000→∀ d:Bool,Fn Tryz.prog 46 [] [(vF f),vb d] (vF (za1.inw f d)) []) (fun k r ks ih hf d=>Linward0 ⟨k,r,ks⟩ d (fun g hg d=>ih g (zce hg) (kid_ok hf hg) d) hf) f
theorem Lmerge0 (f:za1) (ih:∀ g ∈ f.kids,Fn Tryz.prog 45 [] [(vF g)] (vF (za1.merge g)) []) (hf:f.okA 300 4100) (hn:f.nodes≤1000000):Fn Tryz.prog 45 [] [(vF f)] (vF (za1.merge f)) []:=by
 have lkn:=ze9 f
 have lmn:=merges_nodes f
 refine Fn.body Tryz.func45 rfl 111 rfl fun w H B a h=>?_
 refine rq za0 0 [] [(1,vp 0 0),(2,vp 1 0)] [(0,.box (zF f)),(1,.box zF0)] h fun a w h=>?_
 refine wp_seq (rqk za0 2 [] [(1,vp 0 0),(2,vp 1 0),(11,vb (f.kind == 2))] h fun a w h=>?_)
 refine zah (f.kind == 2) h rfl (fun hc1=>?_) (fun hc4=>?_)
 ·have hc1':=hc1;(try simp at hc1')
  refine rq za0 2 [(2,.call (LR4Tight f.r ((((za1.okA_eq _ _ _).1 hf).1 (by have:=hc1;simpa using this)).mono (by decide) (by decide))) ls19_15)] [(1,vp 0 0),(2,vp 1 0),(3,vp 2 0),(4,vI (zao f.r).2)] [(0,.box (zF f)),(1,.box zF0),(2,.box (zR_ (zao f.r).1))] h fun a w h=>?_
  refine wp_seq (rqk za0 3 [] [(1,vp 0 0),(2,vp 1 0),(3,vp 2 0),(4,vI (zao f.r).2),(19,vb ((zao f.r).2 != 0))] h fun a w h=>?_)
  refine zah ((zao f.r).2 != 0) h rfl (fun hc2=>?_) (fun hc3=>?_)
  ·have hc2':=hc2;(try simp at hc2')
   refine rq za0 3 [(2,.call (zh6 (decide ((zao f.r).2>0))) ls19_7)] [(1,vp 0 0),(2,vp 1 0),(3,vp 2 0)] [(0,.box (zF f)),(1,.box (zF (zcf (decide ((zao f.r).2>0))))),(2,.box (zR_ (zao f.r).1))] h fun a w h=>?_
   refine wp_ret (za8 (za8 ?_))
   refine rA 1 (zF (zcf (decide ((zao f.r).2>0)))) h zd2 rfl rfl rfl rfl rfl ?_
   rw [merge_2k (by have:=hc1;simpa using this) (by have:=hc2;simpa using this)];first | done | rfl
  have hc3':=hc3;(try simp at hc3')
  refine wp_skip (za2 (rq za0 3 [] [(1,vp 0 0),(2,vp 1 0)] [(0,.box (zF f)),(1,.box ([cI 2,cPs (zao f.r).1.t.parts]++zi (zao f.r).1.t.k++[cB (zao f.r).1.eq,.d (.raw zae)]))] h fun a w h=>?_))
  refine wp_ret (za8 ?_)
  replace h:=zbo 1 5 6 ([cI 2,cPs (zao f.r).1.t.parts]++zi (zao f.r).1.t.k++[cB (zao f.r).1.eq,.d (.raw zae)]) [(1,vp 0 0),(2,vp 1 0)] [(0,.box (zF f)),(1,.box ([cI 2,cPs (zao f.r).1.t.parts]++zi (zao f.r).1.t.k++[cB (zao f.r).1.eq,cFs []]))] h rfl rfl
  refine rA 1 ([cI 2,cPs (zao f.r).1.t.parts]++zi (zao f.r).1.t.k++[cB (zao f.r).1.eq,cFs []]) h zd2 rfl rfl rfl rfl rfl ?_
  rw [merge_2o (by have:=hc1;simpa using this) (by have:=hc3;simpa using this)];first | done | rfl
 have hc4':=hc4;(try simp at hc4')
 refine wp_skip (za2 ?_)
 by_cases h45:f.kind=4∨f.kind=5
 ·refine midH h [(1,vp 0 0),(2,vp 1 0)] [(0,.box (zF f)),(1,.box zF0)] ?_ (fun a w h=>?_)
  ·rcases Bool.eq_false_or_eq_true (f.kind != 4) with hc | hc
   ·have hc5:=hc;clear hc
    have hc5':=hc5;(try simp at hc5')
    refine rqk za0 3 [(2,.cmp (op:=.neq) (m:=f.kind) (n:=4) (b:=true) .i64 hc5)] [(1,vp 0 0),(2,vp 1 0),(32,vb (f.kind != 5))] h fun a w h=>?_
    refine zah (f.kind != 5) h rfl (fun hc6=>?_) (fun hc7=>?_)
    ·have hc6':=hc6;(try simp at hc6')
     refine rq za0 3 [] [(1,vp 0 0),(2,vp 1 0)] [(0,.box (zF f)),(1,.box (zF f))] h fun a w h=>?_
     refine wp_ret (za8 ?_)
     refine rA 1 (zF f) h zd2 rfl rfl rfl rfl rfl ?_
     rw [merge_x (by have:=hc4;simpa using this) (by have:=hc5;simpa using this) (by have:=hc6;simpa using this)];first | done | rfl
    have hc7':=hc7;(try simp at hc7')
    refine wp_skip (za2 ?_)
    exact atS h
   have hc8:=hc;clear hc
   have hc8':=hc8;(try simp at hc8')
   refine rqk za0 3 [(2,.cmp (op:=.neq) (m:=f.kind) (n:=4) (b:=false) .i64 hc8)] [(1,vp 0 0),(2,vp 1 0),(32,vb false)] h fun a w h=>?_
   refine zah false h rfl nofun (fun _=>?_)
   refine wp_skip (za2 ?_)
   exact atS h
  refine rq za0 3 [] [(1,vp 0 0),(2,vp 1 0),(5,vp 3 0)] [(0,.box (zF f)),(1,.box zF0),(3,.box [cI f.kind,.d (.raw zae),cB false,.d (nsl []),cB false,.d (.raw zae)])] h fun a w h=>?_
  refine wp_seq (rqk za0 4 [] [(1,vp 0 0),(2,vp 1 0),(5,vp 3 0),(6,vI 0)] h fun a w h=>?_)
  refine wp_block ?_
  replace h:=ze7 3 5 4 6 60 [cI f.kind,.d (.raw zae),cB false,.d (nsl []),cB false,.d (.raw zae)] [(1,vp 0 0),(2,vp 1 0),(5,vp 3 0),(6,vI 0)] [(0,.box (zF f)),(1,.box zF0),(3,.box [cI f.kind,.d (.raw zae),cB false,.d (nsl []),cB false,.own 4 0]),(4,.row 60 6 ([].map za1.d))] h (by kernel_rfl) rfl rfl
  refine zau (ι:=(Nat) × (List za1)) (fun (j,out)=>j≤f.kids.length∧zbe f.kind (f.kids.map za1.merge) []=zbe f.kind ((f.kids.map za1.merge).drop j) out∧(out.map za1.nodes).sum+(((f.kids.map za1.merge).drop j).map za1.nodes).sum≤1000000)
    (fun (j,out)=>[(1,vp 0 0),(2,vp 1 0),(5,vp 3 0),(6,vN j)])
    (fun (j,out)=>[(0,.box (zF f)),(1,.box zF0),(3,.box [cI f.kind,.d (.raw zae),cB false,.d (nsl []),cB false,.own 4 out.length]),(4,.row 60 6 (out.map za1.d))])
    (fun (j,out)=>f.kids.length - j) (0,[]) ?_ h (by kernel_rfl) (by kernel_rfl) ?_
  ·exact ⟨Nat.zero_le _,rfl,by show 0+((f.kids.map za1.merge).map za1.nodes).sum≤_;omega⟩
  clear h;rintro ⟨j,out⟩ a w hI h
  dsimp only at h
  obtain ⟨hI1,hI2,hI3⟩:=hI
  have lo:=zdc out
  refine wp_seq (rqk za0 5 [(3,.len (za9 6 za1.d f.kids))] [(1,vp 0 0),(2,vp 1 0),(5,vp 3 0),(6,vN j),(41,vb (decide ((j:Int)<(f.kids.length:Int))))] h fun a w h=>?_)
  refine zam ((j:Int)<(f.kids.length:Int)) h rfl (fun hc9 hc9'=>?_) (fun hc22 hc22'=>?_)
  ·refine wp_skip (za2 (wp_seq (wp_block ?_)))
   obtain ⟨x3,hx3⟩:=gl f.kids j
   refine rq za0 5 [(3,.g (xD 47 45 zhj ((zaf hx3 (f:=za1.d)).trans (congrArg some (za1.d_eq x3))) (OV.tmp 46 _))),(5,.call (ih x3 (lM hx3)) ls19_16)] [(1,vp 0 0),(2,vp 1 0),(5,vp 3 0),(6,vN j),(7,vp 5 0)] [(0,.box (zF f)),(1,.box zF0),(3,.box [cI f.kind,.d (.raw zae),cB false,.d (nsl []),cB false,.own 4 out.length]),(4,.row 60 6 (out.map za1.d)),(5,.box (zF (za1.merge x3)))] h fun a w h=>?_
   refine wp_seq ?_
   rcases Bool.eq_false_or_eq_true ((za1.merge x3).kind == 0) with hc | hc
   ·have hc10:=hc;clear hc
    have hc10':=hc10;(try simp at hc10')
    have hmx:(f.kids.map za1.merge)[j]?=some (za1.merge x3):=by rw [List.getElem?_map,hx3];rfl
    have hdn:=zbb hmx
    have hxn:=za1.nodes_eq (za1.merge x3)
    refine rqk za0 6 [(2,.cmp (op:=.eql) (m:=(za1.merge x3).kind) (n:=0) (b:=true) .i64 hc10)] [(1,vp 0 0),(2,vp 1 0),(5,vp 3 0),(6,vN j),(7,vp 5 0),(57,vb true)] h fun a w h=>?_
    refine zah true h rfl (fun _=>?_) nofun
    refine wp_seq (rqk za0 6 [] [(1,vp 0 0),(2,vp 1 0),(5,vp 3 0),(6,vN j),(7,vp 5 0),(64,vb ((f.kind == 4) == ((za1.merge x3).kind == 1)))] h fun a w h=>?_)
    refine zah ((f.kind == 4) == ((za1.merge x3).kind == 1)) h rfl (fun hc11=>?_) (fun hc12=>?_)
    ·have hc11':=hc11;(try simp at hc11')
     refine rq za0 6 [] [(1,vp 0 0),(2,vp 1 0),(5,vp 3 0),(6,vN j),(7,vp 5 0)] [(0,.box (zF f)),(1,.box (zF (za1.merge x3))),(3,.box [cI f.kind,.d (.raw zae),cB false,.d (nsl []),cB false,.own 4 out.length]),(4,.row 60 6 (out.map za1.d)),(5,.box (zF (za1.merge x3)))] h fun a w h=>?_
     refine wp_ret (za8 (za8 (zad (za8 (za8 (zad (za8 ?_)))))))
     refine rA 1 (zF (za1.merge x3)) h zd2 rfl rfl rfl rfl rfl ?_
     have h45:=h45
     have p0:¬ f.kind=2:=by have:=hc4;simpa using this
     have p1: (za1.merge x3).kind=0:=by have:=hc10;simpa using this
     have pq:=hc11
     have hz:f.merge=za1.merge x3:=by rw [zgs h45,hI2,zb3 hmx,if_pos (by rcases h45 with h45 | h45 <;> simp_all)]
     rw [hz];first | done | rfl
    have hc12':=hc12;(try simp at hc12')
    refine wp_skip (za2 (wp_exit (zab (za7 (za2 (rn za0 6 [(1,.j1 j)] [(1,vp 0 0),(2,vp 1 0),(5,vp 3 0),(6,vI ((j:Int)+1))] [(0,.box (zF f)),(1,.box zF0),(3,.box [cI f.kind,.d (.raw zae),cB false,.d (nsl []),cB false,.own 4 out.length]),(4,.row 60 6 (out.map za1.d))] h fun a w h=>?_))))))
    refine za2 ?_
    refine zaj (x:=(j,out)) (y:=(j+1,out)) h ?_ ?_
    ·have:=zag hx3
     have p0:¬ f.kind=2:=by have:=hc4;simpa using this
     have p1: (za1.merge x3).kind=0:=by have:=hc10;simpa using this
     have pq:=hc12
     exact ⟨by omega,by rw [hI2,zb3 hmx,if_neg (fun e=>by simp_all),if_pos (by omega)],by first | omega | (rw [zbf];(try rw [zbm]);omega)⟩
    show f.kids.length - (j+1)<f.kids.length - j
    have:=zag hx3;omega
   have hc13:=hc;clear hc
   have hc13':=hc13;(try simp at hc13')
   have hmx:(f.kids.map za1.merge)[j]?=some (za1.merge x3):=by rw [List.getElem?_map,hx3];rfl
   have hdn:=zbb hmx
   have hxn:=za1.nodes_eq (za1.merge x3)
   refine rqk za0 6 [(2,.cmp (op:=.eql) (m:=(za1.merge x3).kind) (n:=0) (b:=false) .i64 hc13)] [(1,vp 0 0),(2,vp 1 0),(5,vp 3 0),(6,vN j),(7,vp 5 0),(57,vb ((za1.merge x3).kind == 1))] h fun a w h=>?_
   refine zah ((za1.merge x3).kind == 1) h rfl (fun hc14=>?_) (fun hc17=>?_)
   ·have hc14':=hc14;(try simp at hc14')
    refine wp_seq (rqk za0 6 [(5,.cmp (op:=.eql) (m:=(za1.merge x3).kind) (n:=1) (b:=true) .i64 hc14)] [(1,vp 0 0),(2,vp 1 0),(5,vp 3 0),(6,vN j),(7,vp 5 0),(64,vb ((f.kind == 4) == true))] h fun a w h=>?_)
    refine zah ((f.kind == 4) == true) h rfl (fun hc15=>?_) (fun hc16=>?_)
    ·have hc15':=hc15;(try simp at hc15')
     refine rq za0 6 [] [(1,vp 0 0),(2,vp 1 0),(5,vp 3 0),(6,vN j),(7,vp 5 0)] [(0,.box (zF f)),(1,.box (zF (za1.merge x3))),(3,.box [cI f.kind,.d (.raw zae),cB false,.d (nsl []),cB false,.own 4 out.length]),(4,.row 60 6 (out.map za1.d)),(5,.box (zF (za1.merge x3)))] h fun a w h=>?_
     refine wp_ret (za8 (za8 (zad (za8 (za8 (zad (za8 ?_)))))))
     refine rA 1 (zF (za1.merge x3)) h zd2 rfl rfl rfl rfl rfl ?_
     have h45:=h45
     have p0:¬ f.kind=2:=by have:=hc4;simpa using this
     have p1:¬ (za1.merge x3).kind=0:=by have:=hc13;simpa using this
     have p2: (za1.merge x3).kind=1:=by have:=hc14;simpa using this
     have hz:f.merge=za1.merge x3:=by rw [zgs h45,hI2,zb3 hmx,if_pos (by rcases h45 with h45 | h45 <;> simp_all)]
     rw [hz];first | done | rfl
    have hc16':=hc16;(try simp at hc16')
    refine wp_skip (za2 (wp_exit (zab (za7 (za2 (rn za0 6 [(1,.j1 j)] [(1,vp 0 0),(2,vp 1 0),(5,vp 3 0),(6,vI ((j:Int)+1))] [(0,.box (zF f)),(1,.box zF0),(3,.box [cI f.kind,.d (.raw zae),cB false,.d (nsl []),cB false,.own 4 out.length]),(4,.row 60 6 (out.map za1.d))] h fun a w h=>?_))))))
    refine za2 ?_
    refine zaj (x:=(j,out)) (y:=(j+1,out)) h ?_ ?_
    ·have:=zag hx3
     have p0:¬ f.kind=2:=by have:=hc4;simpa using this
     have p1:¬ (za1.merge x3).kind=0:=by have:=hc13;simpa using this
     have p2: (za1.merge x3).kind=1:=by have:=hc14;simpa using this
     exact ⟨by omega,by rw [hI2,zb3 hmx,if_neg (fun e=>by simp_all),if_pos (by omega)],by first | omega | (rw [zbf];(try rw [zbm]);omega)⟩
    show f.kids.length - (j+1)<f.kids.length - j
    have:=zag hx3;omega
   have hc17':=hc17;(try simp at hc17')
   refine wp_skip (za2 (rqk za0 6 [] [(1,vp 0 0),(2,vp 1 0),(5,vp 3 0),(6,vN j),(7,vp 5 0),(70,vb ((za1.merge x3).kind == f.kind))] h fun a w h=>?_))
   refine zah ((za1.merge x3).kind == f.kind) h rfl (fun hc18=>?_) (fun hc21=>?_)
   ·have hc18':=hc18;(try simp at hc18')
    refine rqk za0 6 [] [(1,vp 0 0),(2,vp 1 0),(5,vp 3 0),(6,vN j),(7,vp 5 0),(8,vI 0)] h fun a w h=>?_
    refine wp_block ?_
    replace h:=cv (fun z_:List za1=>F.of [(1,vp 0 0),(2,vp 1 0),(5,vp 3 0),(6,vN j),(7,vp 5 0),(8,vI 0)] [(0,.box (zF f)),(1,.box zF0),(3,.box [cI f.kind,.d (.raw zae),cB false,.d (nsl []),cB false,.own 4 z_.length]),(4,.row 60 6 (z_.map za1.d)),(5,.box (zF (za1.merge x3)))]) (show (out:List za1)=(out++((za1.merge x3).kids.take 0)) from (by simp)) h
    refine zau (ι:=(Nat)) (fun i=>i≤(za1.merge x3).kids.length)
      (fun i=>[(1,vp 0 0),(2,vp 1 0),(5,vp 3 0),(6,vN j),(7,vp 5 0),(8,vN i)])
      (fun i=>[(0,.box (zF f)),(1,.box zF0),(3,.box ([cI f.kind,.d (.raw zae),cB false,.d (nsl []),cB false,.own 4 (out++((za1.merge x3).kids.take i)).length])),(4,.row 60 6 ((out++((za1.merge x3).kids.take i)).map za1.d)),(5,.box (zF (za1.merge x3)))])
      (fun i=>(za1.merge x3).kids.length - i) 0 ?_ h (by kernel_rfl) (by kernel_rfl) ?_
    ·exact Nat.zero_le _
    clear h;rintro i a w hI h
    have lti:(out++((za1.merge x3).kids.take i)).length=out.length+i:=by rw [List.length_append,List.length_take];omega
    have lkg:=zdc (za1.merge x3).kids
    refine wp_seq (rqk za0 6 [(3,.len (za9 6 za1.d ((za1.merge x3).kids)))] [(1,vp 0 0),(2,vp 1 0),(5,vp 3 0),(6,vN j),(7,vp 5 0),(8,vN i),(75,vb (decide ((i:Int)<((za1.merge x3).kids.length:Int))))] h fun a w h=>?_)
    refine zam ((i:Int)<((za1.merge x3).kids.length:Int)) h rfl (fun hc19 hc19'=>?_) (fun hc20 hc20'=>?_)
    ·refine wp_skip (za2 (wp_seq (wp_block ?_)))
     obtain ⟨x5,hx5⟩:=gl ((za1.merge x3).kids) i
     refine rn za0 6 [(5,.g (xD 83 81 zhj ((zaf hx5 (f:=za1.d)).trans (congrArg some (za1.d_eq x5))) (OV.tmp 82 _))),(7,.g (bD 85 ([x5].map za1.d) [(84,(vF x5))] kb_1 (.cons (i:=0) (OV.tmp 84 _) (.nil)) (by simp only [List.map_cons,List.map_nil,List.flatten_cons,List.flatten_nil,List.append_nil,za1.d_eq];kernel_rfl) (by simp [za1.d_len]))),(8,.g (aD 86 79 85 4 6 (out++((za1.merge x3).kids.take i)) [x5] za1.d la_7 (by simp [za1.d_len])))] [(1,vp 0 0),(2,vp 1 0),(5,vp 3 0),(6,vN j),(7,vp 5 0),(8,vN i)] [(0,.box (zF f)),(1,.box zF0),(3,.box ([cI f.kind,.d (.raw zae),cB false,.d (nsl []),cB false,.own 6 ((out++((za1.merge x3).kids.take i))++[x5]).length])),(5,.box (zF (za1.merge x3))),(6,.row 60 6 (((out++((za1.merge x3).kids.take i))++[x5]).map za1.d))] h fun a w h=>?_
     refine zaa (za2 (rnk za0 7 [(1,.j1 i)] [(1,vp 0 0),(2,vp 1 0),(5,vp 3 0),(6,vN j),(7,vp 5 0),(8,vI ((i:Int)+1))] h fun a w h=>?_))
     refine za2 ?_
     rw [show (((out++((za1.merge x3).kids.take i))++[x5]):List za1)=(out++((za1.merge x3).kids.take (i+1))) from (by rw [List.take_add_one,hx5,← List.append_assoc];rfl)] at h
     replace h:=zbz 6 4 [(1,vp 0 0),(2,vp 1 0),(5,vp 3 0),(6,vN j),(7,vp 5 0),(8,vI ((i:Int)+1))] [(0,.box (zF f)),(1,.box zF0),(3,.box ([cI f.kind,.d (.raw zae),cB false,.d (nsl []),cB false,.own 4 (out++((za1.merge x3).kids.take (i+1))).length])),(5,.box (zF (za1.merge x3))),(4,.row 60 6 ((out++((za1.merge x3).kids.take (i+1))).map za1.d))] h
     refine zaj (x:=i) (y:=i+1) h ?_ ?_
     ·have:=zag hx5
      show i+1≤(za1.merge x3).kids.length
      omega
     show (za1.merge x3).kids.length - (i+1)<(za1.merge x3).kids.length - i
     have:=zag hx5;omega
    refine wp_exit (zab (zab (za7 (zaa (za2 (rn za0 7 [(1,.j1 j)] [(1,vp 0 0),(2,vp 1 0),(5,vp 3 0),(6,vI ((j:Int)+1))] [(0,.box (zF f)),(1,.box zF0),(3,.box ([cI f.kind,.d (.raw zae),cB false,.d (nsl []),cB false,.own 4 (out++((za1.merge x3).kids.take i)).length])),(4,.row 60 6 ((out++((za1.merge x3).kids.take i)).map za1.d))] h fun a w h=>?_))))))
    refine za2 ?_
    rw [show ((out++((za1.merge x3).kids.take i)):List za1)=(out++(za1.merge x3).kids) from (by rw [List.take_of_length_le (by omega)])] at h
    refine zaj (x:=(j,out)) (y:=(j+1,(out++(za1.merge x3).kids))) h ?_ ?_
    ·have:=zag hx3
     have p0:¬ f.kind=2:=by have:=hc4;simpa using this
     have p1:¬ (za1.merge x3).kind=0:=by have:=hc13;simpa using this
     have p2:¬ (za1.merge x3).kind=1:=by have:=hc17;simpa using this
     have p3: (za1.merge x3).kind=f.kind:=by have:=hc18;simpa using this
     exact ⟨by omega,by rw [hI2,zb3 hmx,if_neg (by omega),if_neg (by omega),if_pos (by omega)],by first | omega | (rw [zbf];(try rw [zbm]);omega)⟩
    show f.kids.length - (j+1)<f.kids.length - j
    have:=zag hx3;omega
   have hc21':=hc21;(try simp at hc21')
   refine rn za0 7 [(3,.g (bD 91 ([(za1.merge x3)].map za1.d) [(90,(vF (za1.merge x3)))] kb_1 (.cons (i:=0) (OV.tmp 90 _) (.nil)) (by simp only [List.map_cons,List.map_nil,List.flatten_cons,List.flatten_nil,List.append_nil,za1.d_eq];kernel_rfl) (by simp [za1.d_len]))),(4,.g (aD 92 89 91 4 7 out [(za1.merge x3)] za1.d la_7 (by simp [za1.d_len])))] [(1,vp 0 0),(2,vp 1 0),(5,vp 3 0),(6,vN j)] [(0,.box (zF f)),(1,.box zF0),(3,.box ([cI f.kind,.d (.raw zae),cB false,.d (nsl []),cB false,.own 7 (out++[(za1.merge x3)]).length])),(7,.row 60 6 ((out++[(za1.merge x3)]).map za1.d))] h fun a w h=>?_
   refine zaa (za2 (rnk za0 8 [(1,.j1 j)] [(1,vp 0 0),(2,vp 1 0),(5,vp 3 0),(6,vI ((j:Int)+1))] h fun a w h=>?_))
   refine za2 ?_
   replace h:=zbz 7 4 [(1,vp 0 0),(2,vp 1 0),(5,vp 3 0),(6,vI ((j:Int)+1))] [(0,.box (zF f)),(1,.box zF0),(3,.box ([cI f.kind,.d (.raw zae),cB false,.d (nsl []),cB false,.own 4 (out++[(za1.merge x3)]).length])),(4,.row 60 6 ((out++[(za1.merge x3)]).map za1.d))] h
   refine zaj (x:=(j,out)) (y:=(j+1,(out++[(za1.merge x3)]))) h ?_ ?_
   ·have:=zag hx3
    have p0:¬ f.kind=2:=by have:=hc4;simpa using this
    have p1:¬ (za1.merge x3).kind=0:=by have:=hc13;simpa using this
    have p2:¬ (za1.merge x3).kind=1:=by have:=hc17;simpa using this
    have p3:¬ (za1.merge x3).kind=f.kind:=by have:=hc21;simpa using this
    exact ⟨by omega,by rw [hI2,zb3 hmx,if_neg (by omega),if_neg (by omega),if_neg (by omega)],by first | omega | (rw [zbf];(try rw [zbm]);omega)⟩
   show f.kids.length - (j+1)<f.kids.length - j
   have:=zag hx3;omega
  refine wp_exit (zab (zab (za7 (za2 (wp_seq (rqk za0 8 [] [(1,vp 0 0),(2,vp 1 0),(5,vp 3 0),(97,vb ((out.length:Int) == 0))] h fun a w h=>?_))))))
  refine zah ((out.length:Int) == 0) h rfl (fun hc23=>?_) (fun hc24=>?_)
  ·have hc23':=hc23;(try simp at hc23')
   refine rq za0 8 [(3,.call (zh6 (f.kind == 4)) ls19_7)] [(2,vp 1 0),(5,vp 3 0)] [(1,.box (zF (zcf (f.kind == 4)))),(3,.box [cI f.kind,.d (.raw zae),cB false,.d (nsl []),cB false,.own 4 out.length]),(4,.row 60 6 (out.map za1.d))] h fun a w h=>?_
   refine wp_ret (za8 ?_)
   refine rA 1 (zF (zcf (f.kind == 4))) h zd2 rfl rfl rfl rfl rfl ?_
   have h45:=h45
   have hje:zbe f.kind (f.kids.map za1.merge) []=zbe f.kind [] out:=by rw [hI2,List.drop_of_length_le (by rw [List.length_map];omega)]
   have hz:f.merge=zcf (f.kind == 4):=by rw [zgs h45,hje,join_nil (by have:=hc23;simpa using this)]
   rw [hz];first | done | rfl
  have hc24':=hc24;(try simp at hc24')
  refine wp_skip (za2 (wp_seq (rq za0 8 [] [(2,vp 1 0),(5,vp 3 0),(105,vb ((out.length:Int) == 1))] [(1,.box zF0),(3,.box [cI f.kind,.d (.raw zae),cB false,.d (nsl []),cB false,.own 4 out.length]),(4,.row 60 6 (out.map za1.d))] h fun a w h=>?_)))
  refine zah ((out.length:Int) == 1) h rfl (fun hc25=>?_) (fun hc26=>?_)
  ·have hc25':=hc25;(try simp at hc25')
   obtain ⟨x7,hx7⟩:=gl out 0
   refine rq za0 8 [(2,.g (xO 108 107 4 out.length 0 zhj (OV.const (.int .i64 0) rfl))),(3,.g (Op.loadR_agg (d:=109) (t:=108) (n:=4) (i:=0) (fo:=0) (rty:=60) (es:=6) (xs:=[.raw (.int .i64 x7.kind),.sl 3 (x7.r.t.parts.map za4.d),.raw (.bool x7.r.t.k.neg),nsl x7.r.t.k.abs,.raw (.bool x7.r.eq),.sl 6 (x7.kids.map za1.d)]) zd2 rfl ((zaf hx7 (f:=za1.d)).trans (congrArg some (za1.d_eq x7))) rfl rfl))] [(2,vp 1 0),(5,vp 3 0)] [(1,.box (zF x7)),(3,.box [cI f.kind,.d (.raw zae),cB false,.d (nsl []),cB false,.own 4 out.length]),(4,.row 60 6 (out.map za1.d))] h fun a w h=>?_
   refine wp_ret (za8 ?_)
   refine rA 1 (zF x7) h zd2 rfl rfl rfl rfl rfl ?_
   have h45:=h45
   have hje:zbe f.kind (f.kids.map za1.merge) []=zbe f.kind [] out:=by rw [hI2,List.drop_of_length_le (by rw [List.length_map];omega)]
   have hz:f.merge=x7:=by rw [zgs h45,hje,join_one (by have:=hc25;simp at this;omega) hx7]
   rw [hz];first | done | rfl
  have hc26':=hc26;(try simp at hc26')
  refine wp_skip (za2 (rq za0 8 [] [(2,vp 1 0)] [(1,.box [cI f.kind,.d (.raw zae),cB false,.d (nsl []),cB false,.own 4 out.length]),(4,.row 60 6 (out.map za1.d))] h fun a w h=>?_))
  refine wp_ret ?_
  replace h:=zbo 1 1 3 [cI f.kind,.d (.raw zae),cB false,.d (nsl []),cB false,.own 4 out.length] [(2,vp 1 0)] [(1,.box [cI f.kind,cPs [],cB false,.d (nsl []),cB false,.own 4 out.length]),(4,.row 60 6 (out.map za1.d))] h rfl rfl
  replace h:=zgn 4 6 60 (out.map za1.d) [(2,vp 1 0)] [(1,.box [cI f.kind,cPs [],cB false,.d (nsl []),cB false,cFs out])] h rfl trivial (show zbt _ [out.length] from ⟨by first | exact (List.length_map _).symm | (simp;done) | (simp;omega),trivial⟩)
  refine rA 1 [cI f.kind,cPs [],cB false,.d (nsl []),cB false,cFs out] h zd2 rfl rfl rfl rfl rfl ?_
  have h45:=h45
  have hje:zbe f.kind (f.kids.map za1.merge) []=zbe f.kind [] out:=by rw [hI2,List.drop_of_length_le (by rw [List.length_map];omega)]
  have hz:f.merge=⟨f.kind,zR,out⟩:=by rw [zgs h45,hje,join_two (by have:=hc24;simpa using this) (by have:=hc26;simp at this;omega)]
  rw [hz];first | done | rfl
 have hk4:(f.kind != 4)=true:=bne_iff_ne.2 fun e=>h45 (.inl e)
 have hk5:(f.kind != 5)=true:=bne_iff_ne.2 fun e=>h45 (.inr e)
 refine wp_seq (rqk za0 8 [(2,.cmp (op:=.neq) (m:=f.kind) (n:=4) (b:=true) .i64 hk4),(6,.cmp (op:=.neq) (m:=f.kind) (n:=5) (b:=true) .i64 hk5)] [(1,vp 0 0),(2,vp 1 0),(32,vb true)] h fun a w h=>?_)
 refine zah true h rfl (fun _=>?_) nofun
 refine rq za0 8 [] [(1,vp 0 0),(2,vp 1 0)] [(0,.box (zF f)),(1,.box (zF f))] h fun a w h=>?_
 refine wp_ret (za8 ?_)
 refine rA 1 (zF f) h zd2 rfl rfl rfl rfl rfl ?_
 rw [merge_x (by have:=hc4;simpa using this) (by have:=hk4;simpa using this) (by have:=hk5;simpa using this)];first | done | rfl
theorem kid_okA2 {n L:Nat} {f g:za1} (h:f.okA n L) (hg:g ∈ f.kids):g.okA n L:=((za1.okA_eq _ _ _).1 h).2 g hg
theorem zhi {f g:za1} (hg:g ∈ f.kids):g.nodes≤f.nodes:=by
 rw [za1.nodes_eq f]
 obtain ⟨j,hj⟩:=List.getElem?_of_mem hg
 have:=zfk f.kids j hj;omega
theorem Lmerge (f:za1):f.okA 300 4100→f.nodes≤1000000→Fn Tryz.prog 45 [] [(vF f)] (vF (za1.merge f)) [] :=
 za1.ind (P:=fun f=>f.okA 300 4100→f.nodes≤1000000→Fn Tryz.prog 45 [] [(vF f)] (vF (za1.merge f)) []) (fun k r ks ih hf hn=>Lmerge0 ⟨k,r,ks⟩ (fun g hg=>ih g hg (kid_okA2 hf hg) (Nat.le_trans (zhi (f:=⟨k,r,ks⟩) hg) hn)) hf hn) f
theorem inw_okA {n L:Nat} (hn:n≤1000) (f:za1):f.okB n L→∀ d,(f.inw d).okA n (2*L+23) :=
 za1.ind (P:=fun f=>f.okB n L→∀ d,(f.inw d).okA n (2*L+23)) (fun k r ks ih hf d=>by
  obtain ⟨⟨h1,h2⟩,h3⟩:=(za1.okB_eq _ _ _).1 hf
  change k=2→_ at h1
  change ∀ g ∈ cnt k ks,_ at h3
  have hat:∀ q:zac,TOk n (2*L+22) q.t→(zb8 q).okA n (2*L+23):=fun q hq=>okA_atom (hq.plain hn)
  rw [za1.inw_eq]
  show (inwK k r (ks.map za1.inw) d).okA n (2*L+23)
  unfold inwK
  split
  ·exact zf5 _ _ _
  ·split
   ·rename_i e
    split
    ·rw [za1.okA_eq]
     refine ⟨fun e=>absurd e (by show (5:Int)≠2;decide),fun g hg=>?_⟩
     obtain ⟨q,hq,rfl⟩:=List.mem_map.1 hg
     exact hat q (ziw (h1 e) hn q hq)
    ·exact hat r ((h1 e).mono (Nat.le_refl _) (by omega))
   ·split
    ·rename_i e
     subst e
     cases ks with
     | nil=>exact zf5 _ _ _
     | cons g gs=>exact ih g (List.mem_cons_self ..) (h3 g (List.mem_cons_self ..)) (!d)
    ·split
     ·rename_i h4
      have hc:cnt k ks=ks:=by unfold cnt;rw [if_pos h4]
      rw [hc] at h3
      rw [za1.okA_eq]
      refine ⟨fun e=>by exfalso;revert e;show (if d=true then 9 - k else k)=2→False;cases d <;> simp <;> omega,fun g hg=>?_⟩
      rw [List.map_map] at hg
      obtain ⟨q,hq,rfl⟩:=List.mem_map.1 hg
      exact ih q hq (h3 q hq) d
     ·exact zf5 _ _ _) f
theorem inw_nodes (f:za1):∀ d,(f.inw d).nodes≤f.wid :=
 za1.ind (P:=fun f=>∀ d,(f.inw d).nodes≤f.wid) (fun k r ks ih d=>by
  rw [za1.inw_eq,za1.wid_eq]
  show (inwK k r (ks.map za1.inw) d).nodes≤3+((cnt k ks).map za1.wid).sum
  have ht:∀ b,(zcf b).nodes=1:=fun b=>by rw [za1.nodes_eq];rfl
  have ha:∀ q,(zb8 q).nodes=1:=fun q=>by rw [za1.nodes_eq];rfl
  unfold inwK
  split
  ·rw [ht];omega
  ·split
   ·split
    ·rw [za1.nodes_eq]
     show 1+(((zap r).map zb8).map za1.nodes).sum≤_
     rw [List.map_map]
     have e:(za1.nodes ∘ zb8)=fun _=>1:=funext fun q=>ha q
     rw [e]
     have h2:((zap r).map fun _=>(1:Nat)).sum≤2:=by unfold zap;split <;> simp
     omega
    ·rw [ha];omega
   ·split
    ·rename_i h3
     cases ks with
     | nil=>show (zcf d).nodes≤_;rw [ht];omega
     | cons g gs =>
      subst h3
      have:=ih g (List.mem_cons_self ..) (!d)
      show (g.inw (!d)).nodes≤3+(([g]).map za1.wid).sum
      simp only [List.map_cons,List.map_nil,List.sum_cons,List.sum_nil];omega
    ·split
     ·rename_i h4
      rw [za1.nodes_eq,show cnt k ks=ks from by unfold cnt;rw [if_pos h4]]
      show 1+(((ks.map za1.inw).map fun c=>c d).map za1.nodes).sum≤_
      rw [List.map_map,List.map_map]
      have h2:(ks.map ((za1.nodes ∘ fun c=>c d) ∘ za1.inw)).sum≤(ks.map za1.wid).sum:=sum_le fun g hg=>ih g hg d
      have e:(za1.nodes ∘ (fun c=>c d) ∘ za1.inw)=(za1.nodes ∘ ((fun c=>c d) ∘ za1.inw)):=rfl
      omega
     ·rw [ht];omega) f
theorem LR5Flat (f:za1) (hf:f.okB 300 2000) (hw:f.wid≤1000000):Fn Tryz.prog 19 [] [(vF f)] (vF (za1.flat f false)) []:=by
 refine Fn.body Tryz.func19 rfl 6 rfl fun w H B a h=>?_
 refine rq za0 0 [] [(1,vp 0 0),(2,vp 1 0)] [(0,.box (zF f)),(1,.box zF0)] h fun a w h=>?_
 refine rq za0 2 [(1,.call (Linward f hf false) ls19_14),(2,.call (Fn.cast (Lmerge (za1.inw f false) (za1.okA_mono (by decide) (by decide) _ (inw_okA (by decide) f hf false)) (Nat.le_trans (inw_nodes f false) hw)) (show ((vF (za1.merge (za1.inw f false))):V)=(vF (za1.flat f false)) from by rw [flat_merge])) ls19_16)] [(2,vp 1 0)] [(1,.box (zF (za1.flat f false)))] h fun a w h=>?_
 refine wp_ret ?_
 refine rA 1 (zF (za1.flat f false)) h zd2 rfl rfl rfl rfl rfl ?_
 rfl
end
section
open Go.RowKit

def za1.fk (f:za1):Prop:=f.fold fun k r ks hs=>((k=4∨k=5∨ks=[])∧(k=2→cpR r=r))∧∀ h ∈ hs,h
theorem za1.fk_eq (f:za1):f.fk ↔ ((f.kind=4∨f.kind=5∨f.kids=[])∧(f.kind=2→cpR f.r=f.r))∧∀ g ∈ f.kids,g.fk:=by
 have:=za1.fold_eq (fun k r ks (hs:List Prop)=>((k=4∨k=5∨ks=[])∧(k=2→cpR r=r))∧∀ h ∈ hs,h) f
 unfold za1.fk
 rw [this]
 refine and_congr_right fun _=>⟨fun h g hg=>h _ (List.mem_map.2 ⟨g,hg,rfl⟩),fun h p hp=>?_⟩
 obtain ⟨g,hg,rfl⟩:=List.mem_map.1 hp
 exact h g hg
theorem fk_tru (b:Bool):(zcf b).fk:=by rw [za1.fk_eq];exact ⟨⟨.inr (.inr rfl),fun e=>by cases b <;> exact absurd e (by decide)⟩,fun g hg=>by cases hg⟩
theorem tight_cp (r:zac):cpR (zao r).1=(zao r).1:=by
 unfold zao
 split
 ·rfl
 ·split
  ·rfl
  ·unfold cpR
   show (⟨za3 (if _ then neg1 (zc4 r.t) else zc4 r.t),r.eq⟩:zac)=_
   split
   ·show (⟨za3 (neg1 (zc4 r.t)),r.eq⟩:zac)=_
    unfold neg1 zb7;rw [zbp]
   ·rw [shr_plain]
theorem fk_tight (r:zac):(zav r).fk:=by
 unfold zav;split
 ·rw [za1.fk_eq];exact ⟨⟨.inr (.inr rfl),fun _=>tight_cp r⟩,fun g hg=>by cases hg⟩
 ·exact fk_tru _
theorem zfb {k:Int} (hk:k=4∨k=5):∀ (fs out:List za1),(∀ g ∈ out,g.fk)→(∀ g ∈ fs,g.fk)→(zbe k fs out).fk
 | [],out,h,_=>by
  unfold zbe
  match out with
  | []=>exact fk_tru _
  | [g]=>exact h g (List.mem_cons_self ..)
  | g :: q :: l=>rw [za1.fk_eq];exact ⟨⟨by rcases hk with hk | hk;exact .inl hk;exact .inr (.inl hk),fun e=>by exfalso;change k=2 at e;omega⟩,h⟩
 | f :: fs,out,h,h2=>by
  rw [zbe]
  have hf:=h2 f (List.mem_cons_self ..)
  have hfs:∀ g ∈ fs,g.fk:=fun g hg=>h2 g (List.mem_cons_of_mem _ hg)
  split
  ·exact hf
  ·split
   ·exact zfb hk fs out h hfs
   ·split
    ·exact zfb hk fs _ (fun g hg=>(List.mem_append.1 hg).elim (h g) fun hg=>((za1.fk_eq _).1 hf).2 g hg) hfs
    ·exact zfb hk fs _ (fun g hg=>(List.mem_append.1 hg).elim (h g) fun hg=>by rw [List.mem_singleton.1 hg];exact hf) hfs
theorem zgd (f:za1):∀ d,(f.flat d).fk :=
 za1.ind (P:=fun f=>∀ d,(f.flat d).fk) (fun k r ks ih d=>by
  rw [za1.flat_eq]
  show (zge k r (ks.map za1.flat) d).fk
  unfold zge
  split
  ·exact fk_tru _
  ·split
   ·split
    ·refine zfb (.inr rfl) _ [] (fun g hg=>by cases hg) fun g hg=>?_
     obtain ⟨q,hq,rfl⟩:=List.mem_map.1 hg
     exact fk_tight q
    ·exact fk_tight r
   ·split
    ·cases ks with
     | nil=>exact fk_tru _
     | cons g gs=>exact ih g (List.mem_cons_self ..) (!d)
    ·split
     ·rename_i h4
      refine zfb (by cases d <;> simp <;> omega) _ [] (fun g hg=>by cases hg) fun g hg=>?_
      rw [List.map_map] at hg
      obtain ⟨q,hq,rfl⟩:=List.mem_map.1 hg
      exact ih q hq d
     ·exact fk_tru _) f
def gathRK (k:Int) (r:zac) (gs:List (List zac→List zac)) (ps:List zac):List zac:=if k=2 then (if 0≤atR ps r then ps else ps++[r]) else gs.foldl (fun a g=>g a) ps
def za1.gathR (f:za1):List zac→List zac:=f.fold fun k r _ gs ps=>gathRK k r gs ps
theorem za1.gathR_eq (f:za1) (ps:List zac):f.gathR ps=if f.kind=2 then (if 0≤atR ps f.r then ps else ps++[f.r]) else f.kids.foldl (fun a g=>g.gathR a) ps:=by
 have:=congrFun (za1.fold_eq (fun k r _ (gs:List (List zac→List zac)) ps=>gathRK k r gs ps) f) ps
 refine this.trans ?_
 unfold gathRK
 rw [List.foldl_map];rfl
theorem zhm (f:za1):f.fk→∀ ps,f.gathR ps=f.gath ps :=
 za1.ind (P:=fun f=>f.fk→∀ ps,f.gathR ps=f.gath ps) (fun k r ks ih h ps=>by
  obtain ⟨⟨h1,h2⟩,h3⟩:=(za1.fk_eq _).1 h
  change k=4∨k=5∨ks=[] at h1
  change k=2→cpR r=r at h2
  rw [za1.gathR_eq,za1.gath_eq]
  show (if k=2 then (if 0≤atR ps r then ps else ps++[r]) else ks.foldl (fun a g=>g.gathR a) ps)=if k=2∧atR ps r<0 then ps++[cpR r] else ks.foldl (fun a g=>g.gath a) ps
  by_cases e:k=2
  ·rw [if_pos e]
   have hks:ks=[]:=by rcases h1 with h1 | h1 | h1;omega;omega;exact h1
   by_cases e2:0≤atR ps r
   ·rw [if_pos e2,if_neg (fun h=>by omega),hks];rfl
   ·rw [if_neg e2,if_pos ⟨e,by omega⟩,h2 e]
  ·rw [if_neg e,if_neg (fun h=>e h.1)]
   have key:∀ (xs:List za1),(∀ g ∈ xs,g ∈ ks)→∀ qs:List zac,xs.foldl (fun a g=>g.gathR a) qs=xs.foldl (fun a g=>g.gath a) qs:=fun xs=>by
    induction xs with
    | nil=>intro _ qs;rfl
    | cons x xs ihx =>
     intro hx qs
     rw [List.foldl_cons,List.foldl_cons,ih x (hx x (List.mem_cons_self ..)) (h3 x (hx x (List.mem_cons_self ..))) qs]
     exact ihx (fun g hg=>hx g (List.mem_cons_of_mem _ hg)) _
   exact key ks (fun g hg=>hg) ps) f
theorem cmpRl_cpl (p r:zac):zbx (cpR p) r=zbx p r:=by
 unfold zbx cpR zfx
 simp only [zbp];rfl
theorem idxB_map {α β:Type} (F:α→β) (pr:β→Bool) (pr':α→Bool) (h:∀ x,pr (F x)=pr' x):∀ (xs:List α) (n:Nat),zib pr (xs.map F) n=zib pr' xs n
 | [],n=>rfl
 | x :: xs,n=>by
  rw [List.map_cons];unfold zib;rw [h x,idxB_map F pr pr' h xs (n+1)]
theorem atR_cp (ps:List zac) (r:zac):atR (ps.map cpR) r=atR ps r:=by
 unfold atR;exact idxB_map cpR _ _ (fun x=>by rw [cmpRl_cpl]) ps 0
theorem gath_cp (f:za1):∀ ps,(f.gath ps).map cpR=f.gath (ps.map cpR) :=
 za1.ind (P:=fun f=>∀ ps,(f.gath ps).map cpR=f.gath (ps.map cpR)) (fun k r ks ih ps=>by
  rw [za1.gath_eq,za1.gath_eq]
  show (if k=2∧atR ps r<0 then ps++[cpR r] else ks.foldl (fun a g=>g.gath a) ps).map cpR=if k=2∧atR (ps.map cpR) r<0 then ps.map cpR++[cpR r] else ks.foldl (fun a g=>g.gath a) (ps.map cpR)
  rw [atR_cp]
  split
  ·rw [List.map_append,List.map_cons,List.map_nil,cpR_cpR]
  ·have key:∀ (xs:List za1),(∀ g ∈ xs,g ∈ ks)→∀ qs:List zac,(xs.foldl (fun a g=>g.gath a) qs).map cpR=xs.foldl (fun a g=>g.gath a) (qs.map cpR):=fun xs=>by
    induction xs with
    | nil=>intro _ qs;rfl
    | cons x xs ihx =>
     intro hx qs
     rw [List.foldl_cons,List.foldl_cons,ihx (fun g hg=>hx g (List.mem_cons_of_mem _ hg)),ih x (hx x (List.mem_cons_self ..)) qs]
   exact key ks (fun g hg=>hg) ps) f
theorem foldGR_at {ks:List za1} {j:Nat} {g:za1} {ps:List zac} (h:ks[j]?=some g):(ks.take (j+1)).foldl (fun a g=>g.gathR a) ps=g.gathR ((ks.take j).foldl (fun a g=>g.gathR a) ps):=by
 rw [List.take_add_one,h,List.foldl_append];rfl
theorem gathR_2 {f:za1} {ps:List zac} (h:f.kind=2) (hi:0≤atR ps f.r):f.gathR ps=ps:=by rw [za1.gathR_eq,if_pos h,if_pos hi]
theorem gathR_2n {f:za1} {ps:List zac} (h:f.kind=2) (hi:¬ 0≤atR ps f.r):f.gathR ps=ps++[f.r]:=by rw [za1.gathR_eq,if_pos h,if_neg hi]
theorem gathR_k {f:za1} {ps:List zac} (h:¬ f.kind=2):f.gathR ps=f.kids.foldl (fun a g=>g.gathR a) ps:=by rw [za1.gathR_eq,if_neg h]
theorem foldGR_len (xs:List za1) (qs:List zac) (h:∀ g ∈ xs,∀ qs:List zac,(g.gathR qs).length≤qs.length+g.nodes):(xs.foldl (fun a g=>g.gathR a) qs).length≤qs.length+(xs.map za1.nodes).sum:=by
 induction xs generalizing qs with
 | nil=>exact Nat.le_refl _
 | cons x xs ih =>
  rw [List.foldl_cons,List.map_cons,List.sum_cons]
  have h1:=ih (x.gathR qs) (fun g hg=>h g (List.mem_cons_of_mem _ hg))
  have h2:=h x (List.mem_cons_self ..) qs
  omega
theorem gathR_len (f:za1):∀ ps,(f.gathR ps).length≤ps.length+f.nodes :=
 za1.ind (P:=fun f=>∀ ps,(f.gathR ps).length≤ps.length+f.nodes) (fun k r ks ih ps=>by
  rw [za1.gathR_eq,za1.nodes_eq]
  show (if k=2 then (if 0≤atR ps r then ps else ps++[r]) else ks.foldl (fun a g=>g.gathR a) ps).length≤ps.length+(1+(ks.map za1.nodes).sum)
  split
  ·split
   ·omega
   ·rw [List.length_append];show ps.length+1≤_;omega
  ·have:=foldGR_len ks ps ih;omega) f
theorem gathR_tok {n L:Nat} (f:za1):f.okA n L→∀ ps:List zac,(∀ r ∈ ps,TOk n L r.t)→∀ r ∈ f.gathR ps,TOk n L r.t :=
 za1.ind (P:=fun f=>f.okA n L→∀ ps:List zac,(∀ r ∈ ps,TOk n L r.t)→∀ r ∈ f.gathR ps,TOk n L r.t) (fun k r ks ih hf ps hps=>by
  obtain ⟨h1,h2⟩:=(za1.okA_eq _ _ _).1 hf
  rw [za1.gathR_eq]
  split
  ·rename_i e
   split
   ·exact hps
   ·intro q hq
    rcases List.mem_append.1 hq with hq | hq
    ·exact hps q hq
    ·rw [List.mem_singleton.1 hq];exact h1 e
  ·have:∀ (xs:List za1),(∀ g ∈ xs,g ∈ ks)→∀ qs:List zac,(∀ r ∈ qs,TOk n L r.t)→∀ r ∈ xs.foldl (fun a g=>g.gathR a) qs,TOk n L r.t:=fun xs=>by
    induction xs with
    | nil=>intro _ qs h;exact h
    | cons x xs ihx =>
     intro hx qs h
     rw [List.foldl_cons]
     exact ihx (fun g hg=>hx g (List.mem_cons_of_mem _ hg)) _ (ih x (hx x (List.mem_cons_self ..)) (h2 x (hx x (List.mem_cons_self ..))) qs h)
   exact this ks (fun g hg=>hg) ps hps) f
theorem foldGR_tok {n L:Nat} (xs:List za1) (h:∀ g ∈ xs,g.okA n L):∀ qs:List zac,(∀ r ∈ qs,TOk n L r.t)→∀ r ∈ xs.foldl (fun a g=>g.gathR a) qs,TOk n L r.t:=by
 induction xs with
 | nil=>intro qs h;exact h
 | cons x xs ih=>intro qs hq;rw [List.foldl_cons];exact ih (fun g hg=>h g (List.mem_cons_of_mem _ hg)) _ (gathR_tok x (h x (List.mem_cons_self ..)) qs hq)
def za1.kn (ps:List zac) (bs:List Bool) (f:za1):Bool:=f.fold fun k r _ hs=>if k=2 then decide (0≤atR ps r∧atR ps r<(bs.length:Int)) else hs.all id
theorem za1.kn_eq (ps:List zac) (bs:List Bool) (f:za1):f.kn ps bs=if f.kind=2 then decide (0≤atR ps f.r∧atR ps f.r<(bs.length:Int)) else f.kids.all (za1.kn ps bs):=by
 have:=za1.fold_eq (fun k r _ (hs:List Bool)=>if k=2 then decide (0≤atR ps r∧atR ps r<(bs.length:Int)) else hs.all id) f
 rw [List.all_map] at this;exact this
def za1.rd (ps:List zac) (bs:List Bool) (f:za1):Bool:=f.fold fun k r _ hs=>if k=0 then true else if k=2 then (bs[(atR ps r).toNat]?).getD false else if k=4 then hs.all id else if k=5 then hs.any id else false
theorem za1.rd_eq (ps:List zac) (bs:List Bool) (f:za1):f.rd ps bs=if f.kind=0 then true else if f.kind=2 then (bs[(atR ps f.r).toNat]?).getD false else if f.kind=4 then f.kids.all (za1.rd ps bs) else if f.kind=5 then f.kids.any (za1.rd ps bs) else false:=by
 have:=za1.fold_eq (fun k r _ (hs:List Bool)=>if k=0 then true else if k=2 then (bs[(atR ps r).toNat]?).getD false else if k=4 then hs.all id else if k=5 then hs.any id else false) f
 rw [List.all_map,List.any_map] at this;exact this
theorem tru_kn {ps:List zac} {bs:List Bool} (f:za1):f.fl→f.fk→(f.tru ps bs).2=f.kn ps bs∧(f.kn ps bs=true→(f.tru ps bs).1=f.rd ps bs) :=
 za1.ind (P:=fun f=>f.fl→f.fk→(f.tru ps bs).2=f.kn ps bs∧(f.kn ps bs=true→(f.tru ps bs).1=f.rd ps bs)) (fun k r ks ih hfl hfk=>by
  obtain ⟨hk,hks⟩:=(za1.fl_eq _).1 hfl
  obtain ⟨⟨h1,_⟩,h3⟩:=(za1.fk_eq _).1 hfk
  change k=0∨k=1∨k=2∨k=4∨k=5 at hk
  change k=4∨k=5∨ks=[] at h1
  rw [za1.kn_eq,za1.rd_eq]
  show ((za1.mk k r ks).tru ps bs).2=(if k=2 then decide (0≤atR ps r∧atR ps r<(bs.length:Int)) else ks.all (za1.kn ps bs))∧((if k=2 then decide (0≤atR ps r∧atR ps r<(bs.length:Int)) else ks.all (za1.kn ps bs))=true→((za1.mk k r ks).tru ps bs).1=if k=0 then true else if k=2 then (bs[(atR ps r).toNat]?).getD false else if k=4 then ks.all (za1.rd ps bs) else if k=5 then ks.any (za1.rd ps bs) else false)
  by_cases e01:k=0∨k=1
  ·have hn:ks=[]:=by rcases h1 with h1 | h1 | h1;omega;omega;exact h1
   rw [tru_01 (f:=⟨k,r,ks⟩) e01,if_neg (show ¬ k=2 by omega),hn]
   refine ⟨rfl,fun _=>?_⟩
   rcases e01 with e | e <;> subst e <;> rfl
  ·by_cases e2:k=2
   ·rw [if_pos e2,if_neg (show ¬ k=0 by omega),if_pos e2]
    by_cases e3:0≤atR ps r∧atR ps r<(bs.length:Int)
    ·obtain ⟨i,hi⟩:∃ i:Nat,atR ps r=(i:Int):=⟨_,(Int.toNat_of_nonneg e3.1).symm⟩
     obtain ⟨b,hb⟩:∃ b,bs[i]?=some b:=⟨_,List.getElem?_eq_getElem (by omega)⟩
     rw [tru_at (f:=⟨k,r,ks⟩) e2 hi hb,decide_eq_true e3]
     refine ⟨rfl,fun _=>?_⟩
     rw [hi,Int.toNat_natCast,hb];rfl
    ·rw [tru_no (f:=⟨k,r,ks⟩) e2 (by show atR ps r<0∨atR ps r≥(bs.length:Int);omega),decide_eq_false e3]
     exact ⟨rfl,fun h=>by cases h⟩
   ·rw [if_neg e2,if_neg (fun e=>e01 (.inl e)),if_neg e2]
    have key:∀ (xs:List za1),(∀ g ∈ xs,g ∈ ks)→∀ b c:Bool,(xs.foldl (fun a g=>zbk k a (g.tru ps bs)) (b,c)).2=(c && xs.all (za1.kn ps bs))∧(xs.all (za1.kn ps bs)=true→(xs.foldl (fun a g=>zbk k a (g.tru ps bs)) (b,c)).1=if k=4 then b && xs.all (za1.rd ps bs) else b || xs.any (za1.rd ps bs)):=fun xs=>by
     induction xs with
     | nil=>intro _ b c;simp
     | cons x xs ihx =>
      intro hx b c
      have hm:=hx x (List.mem_cons_self ..)
      obtain ⟨i1,i2⟩:=ih x hm (hks x hm) (h3 x hm)
      rw [List.foldl_cons]
      obtain ⟨j1,j2⟩:=ihx (fun g hg=>hx g (List.mem_cons_of_mem _ hg)) (if k=4 then b && (x.tru ps bs).1 else b || (x.tru ps bs).1) (c && (x.tru ps bs).2)
      rw [show zbk k (b,c) (x.tru ps bs)=(if k=4 then b && (x.tru ps bs).1 else b || (x.tru ps bs).1,c && (x.tru ps bs).2) from rfl]
      refine ⟨by rw [j1,i1,List.all_cons,Bool.and_assoc],fun h=>?_⟩
      rw [List.all_cons,Bool.and_eq_true] at h
      rw [j2 h.2,i2 h.1,List.all_cons,List.any_cons]
      split <;> simp [Bool.and_assoc,Bool.or_assoc]
    have k0:=key ks (fun g hg=>hg) (k == 4) true
    rw [tru_fold (f:=⟨k,r,ks⟩) (fun e=>e01 (.inl e)) (fun e=>e01 (.inr e)) e2]
    refine ⟨by have:=k0.1;rw [Bool.true_and] at this;exact this,fun h=>?_⟩
    refine (k0.2 h).trans ?_
    by_cases e4:k=4
    ·rw [if_pos e4,if_pos e4];subst e4;simp
    ·rw [if_neg e4,if_neg e4,if_pos (show k=5 by omega),show (k == 4)=false by simpa using e4,Bool.false_or]) f
theorem kn_2 {ps:List zac} {bs:List Bool} {f:za1} (h:f.kind=2):f.kn ps bs=decide (0≤atR ps f.r∧atR ps f.r<(bs.length:Int)):=by rw [za1.kn_eq,if_pos h]
theorem kn_k {ps:List zac} {bs:List Bool} {f:za1} (h:¬ f.kind=2):f.kn ps bs=f.kids.all (za1.kn ps bs):=by rw [za1.kn_eq,if_neg h]
theorem kn_kid {ps:List zac} {bs:List Bool} {f g:za1} (hk:f.kn ps bs=true) (h:¬ f.kind=2) (hg:g ∈ f.kids):g.kn ps bs=true:=by rw [kn_k h,List.all_eq_true] at hk;exact hk g hg
theorem letterA_len (props:List zai) (ps:List zac) (a:zcx):(zan props ps a).1.length≤props.length:=by
 unfold zan;split
 ·show (props.map _).length≤_;rw [List.length_map];exact Nat.le_refl _
 ·exact Nat.zero_le _
theorem cmpL_self {α:Type} {c:α→α→Int} (h:∀ x,c x x=0):∀ xs:List α,zey c xs xs=0
 | []=>rfl
 | x :: xs=>by unfold zey;rw [if_neg (fun e=>e (h x)),cmpL_self h xs]
theorem cmpA_self (a:zcx):zdk a a=0:=by
 unfold zdk
 rw [cmpL_self (c:=zbc) zdd,cmpL_self (c:=zd6) (fun x=>zdd _)];rfl
end
section
open Go.RowKit

theorem lt20_0:Sz Tryz.prog 42 2 true:=Sz.mk' (by kernel_rfl) Tryz.underlying42 _ rfl
theorem lt20_7:za6 Tryz.prog 22:=za6.mk' (by kernel_rfl)
theorem lt20_8:za6 Tryz.prog 48:=za6.mk' (by kernel_rfl)
theorem lt20_12:za6 Tryz.prog 21:=za6.mk' (by kernel_rfl)
theorem lt20_13:za6 Tryz.prog 36:=za6.mk' (by kernel_rfl)
theorem lt20_14:za6 Tryz.prog 37:=za6.mk' (by kernel_rfl)
theorem Las (a_:zcx) :Fn Tryz.prog 13 [] [.t (.agg [cIs a_.locs,.d (.sl 1 (a_.bits.map za5))])] (.t (.agg [cIs a_.locs,.d (.sl 1 (a_.bits.map za5))])) []:=by
 refine Fn.body Tryz.func13 rfl 8 rfl fun w H B a h=>?_
 refine rq za0 0 [] [(1,vp 0 0),(2,vp 1 0)] [(0,.box [cIs a_.locs,.d (.sl 1 (a_.bits.map za5))]),(1,.box [.d (.raw zae),.d (.raw zae)])] h fun a w h=>?_
 refine rq za0 2 [] [(2,vp 1 0)] [(1,.box [cIs a_.locs,.d (.sl 1 (a_.bits.map za5))])] h fun a w h=>?_
 refine wp_ret ?_
 refine rA 1 [cIs a_.locs,.d (.sl 1 (a_.bits.map za5))] h lt20_0 rfl rfl rfl rfl rfl ?_
 first | rfl | (cases a_;rfl)
theorem cmpZ_l9 {a b:Int} (h:a<b):zbc a b=-1:=by unfold zbc;split <;> (try split) <;> omega
theorem cmpZ_g9 {a b:Int} (h:a>b):zbc a b=1:=by unfold zbc;split <;> (try split) <;> omega
theorem cmpZ_e9 {a b:Int} (h:a=b):zbc a b=0:=by subst h;exact zdd _
theorem cmpA_l0 {a b:zcx} {c:Int} (h:zey zbc a.locs b.locs=c) (hc:c≠0):zdk a b=c:=by unfold zdk;rw [h,orZ2_l _ _ hc]
theorem cmpA_left {a b:zcx} {x y c:Int} (h:zey zbc a.locs b.locs=if x≠0 then x else y) (hx:x=c) (hc:c≠0:=by decide):zdk a b=c:=by
 subst hx;rw [if_pos hc] at h;exact cmpA_l0 h hc
theorem zec {a b:zcx} {c:Int} (h:zey zbc a.locs b.locs=0) (k:zey zd6 a.bits b.bits=c):zdk a b=c:=by unfold zdk;rw [h,k,zi1 _ _ rfl]
theorem cmpA_rs {a b:zcx} {x y c:Int} (h:zey zbc a.locs b.locs=0) (k:zey zd6 a.bits b.bits=if x≠0 then x else y) (hx:x=c) (hc:c≠0:=by decide):zdk a b=c:=by
 subst hx;rw [if_pos hc] at k;exact zec h k
theorem bit_ne {p q:Bool} {b:Bool} (h:(p != q)=true) (k:q=b):zd6 p q=if b=true then -1 else 1:=by
 subst k;cases p <;> cases q <;> first | (cases h;done) | rfl
theorem LR21Of (ps:List zac) (x:StD) (hps:PsOkW ps) (hx:StOk 10 x):Fn Tryz.prog 24 [] [(vRs ps),.t (.agg [cIs x.locs,cZs x.vals])] (.t (.agg [cIs (ofA ps x).locs,.d (.sl 1 ((ofA ps x).bits.map za5))])) []:=by
 have lps:=hps.1
 have lxl:=hx.locs
 refine Fn.body Tryz.func24 rfl 29 rfl fun w H B a h=>?_
 refine rq za0 0 [] [(0,(vRs ps)),(3,vp 0 0),(4,vp 1 0)] [(0,.box [cIs x.locs,cZs x.vals]),(1,.box [.d (.raw zae),.d (.raw zae)])] h fun a w h=>?_
 refine rq za0 2 [] [(0,(vRs ps)),(3,vp 0 0),(4,vp 1 0),(5,vp 2 0)] [(0,.box [cIs x.locs,cZs x.vals]),(1,.box [.d (.raw zae),.d (.raw zae)]),(2,.box [cIs x.locs,.d (.raw zae)])] h fun a w h=>?_
 refine wp_seq (rqk za0 3 [] [(0,(vRs ps)),(3,vp 0 0),(4,vp 1 0),(5,vp 2 0),(6,vI 0)] h fun a w h=>?_)
 refine wp_block ?_
 replace h:=ze7 2 1 3 1 4 [cIs x.locs,.d (.raw zae)] [(0,(vRs ps)),(3,vp 0 0),(4,vp 1 0),(5,vp 2 0),(6,vI 0)] [(0,.box [cIs x.locs,cZs x.vals]),(1,.box [.d (.raw zae),.d (.raw zae)]),(2,.box [cIs x.locs,.own 3 0]),(3,.row 4 1 ([].map za5))] h (by kernel_rfl) rfl rfl
 refine zau (ι:=(Nat)) (fun j=>j≤ps.length)
   (fun j=>[(0,(vRs ps)),(3,vp 0 0),(4,vp 1 0),(5,vp 2 0),(6,vN j)])
   (fun j=>[(0,.box [cIs x.locs,cZs x.vals]),(1,.box [.d (.raw zae),.d (.raw zae)]),(2,.box [cIs x.locs,.own 3 ((ps.take j).map (zar x.vals)).length]),(3,.row 4 1 (((ps.take j).map (zar x.vals)).map za5))])
   (fun j=>ps.length - j) 0 ?_ h (by kernel_rfl) (by kernel_rfl) ?_
 ·exact Nat.zero_le _
 clear h;rintro j a w hI h
 have lmj:((ps.take j).map (zar x.vals)).length≤j:=by rw [List.length_map,List.length_take];omega
 refine wp_seq (rqk za0 4 [(2,.len (za9 4 zac.d ps))] [(0,(vRs ps)),(3,vp 0 0),(4,vp 1 0),(5,vp 2 0),(6,vN j),(13,vb (decide ((j:Int)<(ps.length:Int))))] h fun a w h=>?_)
 refine zam ((j:Int)<(ps.length:Int)) h rfl (fun hc1 hc1'=>?_) (fun hc2 hc2'=>?_)
 ·refine wp_skip (za2 (wp_seq (wp_block ?_)))
  obtain ⟨x1,hx1⟩:=gl ps j
  refine rn za0 4 [(4,.g (xD 20 18 kc_3 (zaf hx1 (f:=zac.d)) (OV.tmp 19 _))),(8,.call (SRrelHolds x1 x.vals (L:=100) (M:=10) (by decide) hx.vok (hps.2 x1 (lM hx1))) ke_9),(9,.g (bD 25 ([zar x.vals x1].map za5) [(24,vb (zar x.vals x1))] zfv (.cons (i:=0) (OV.tmp 24 _) (.nil)) (by kernel_rfl) (by simp [za5]))),(10,.g (aD 26 17 25 3 4 ((ps.take j).map (zar x.vals)) [zar x.vals x1] za5 zhh (by simp [za5])))] [(0,(vRs ps)),(3,vp 0 0),(4,vp 1 0),(5,vp 2 0),(6,vN j)] [(0,.box [cIs x.locs,cZs x.vals]),(1,.box [.d (.raw zae),.d (.raw zae)]),(2,.box ([cIs x.locs,.own 4 (((ps.take j).map (zar x.vals))++[zar x.vals x1]).length])),(4,.row 4 1 ((((ps.take j).map (zar x.vals))++[zar x.vals x1]).map za5))] h fun a w h=>?_
  refine zaa (za2 (rnk za0 5 [(1,.j1 j)] [(0,(vRs ps)),(3,vp 0 0),(4,vp 1 0),(5,vp 2 0),(6,vI ((j:Int)+1))] h fun a w h=>?_))
  refine za2 ?_
  rw [show ((((ps.take j).map (zar x.vals))++[zar x.vals x1]):List Bool)=((ps.take (j+1)).map (zar x.vals)) from (zbn hx1)] at h
  replace h:=zbz 4 3 [(0,(vRs ps)),(3,vp 0 0),(4,vp 1 0),(5,vp 2 0),(6,vI ((j:Int)+1))] [(0,.box [cIs x.locs,cZs x.vals]),(1,.box [.d (.raw zae),.d (.raw zae)]),(2,.box [cIs x.locs,.own 3 ((ps.take (j+1)).map (zar x.vals)).length]),(3,.row 4 1 (((ps.take (j+1)).map (zar x.vals)).map za5))] h
  refine zaj (x:=j) (y:=j+1) h ?_ ?_
  ·have:=zag hx1
   show j+1≤ps.length
   omega
  show ps.length - (j+1)<ps.length - j
  have:=zag hx1;omega
 refine wp_exit (zab (zab (za7 (za2 (rq za0 5 [] [(4,vp 1 0)] [(1,.box [cIs x.locs,.own 3 ((ps.take j).map (zar x.vals)).length]),(3,.row 4 1 (((ps.take j).map (zar x.vals)).map za5))] h fun a w h=>?_)))))
 refine wp_ret ?_
 rw [show (((ps.take j).map (zar x.vals)):List Bool)=(ps.map (zar x.vals)) from (by rw [List.take_of_length_le (by omega)])] at h
 replace h:=zgn 3 1 4 ((ps.map (zar x.vals)).map za5) [(4,vp 1 0)] [(1,.box [cIs x.locs,.d (.sl 1 ((ps.map (zar x.vals)).map za5))])] h rfl trivial (show zbt _ [(ps.map (zar x.vals)).length] from ⟨by first | exact (List.length_map _).symm | (simp;done) | (simp;omega),trivial⟩)
 refine rA 1 [cIs x.locs,.d (.sl 1 ((ps.map (zar x.vals)).map za5))] h lt20_0 rfl rfl rfl rfl rfl ?_
 rfl
theorem LR21Cmp (a_ b_:zcx) (hx:a_.locs.length≤9223372036854775807∧a_.bits.length≤9223372036854775807) (hy:b_.locs.length≤9223372036854775807∧b_.bits.length≤9223372036854775807):Fn Tryz.prog 14 [] [.t (.agg [cIs a_.locs,.d (.sl 1 (a_.bits.map za5))]),.t (.agg [cIs b_.locs,.d (.sl 1 (b_.bits.map za5))])] (vI (zdk a_ b_)) []:=by
 have lx1:=hx.1
 have lx2:=hx.2
 have ly1:=hy.1
 have ly2:=hy.2
 refine Fn.body Tryz.func14 rfl 101 rfl fun w H B a h=>?_
 refine rq za0 0 [] [(2,vp 0 0),(3,vp 1 0),(4,vI 0)] [(0,.box [cIs a_.locs,.d (.sl 1 (a_.bits.map za5))]),(1,.box [cIs b_.locs,.d (.sl 1 (b_.bits.map za5))])] h fun a w h=>?_
 refine wp_seq (rqk za0 2 [] [(2,vp 0 0),(3,vp 1 0),(4,vI 0),(5,vI 0)] h fun a w h=>?_)
 refine wp_block ?_
 refine zau (ι:=(Nat)) (fun i=>i≤a_.locs.length∧i≤b_.locs.length∧zey zbc a_.locs b_.locs=zey zbc (a_.locs.drop i) (b_.locs.drop i))
   (fun i=>[(2,vp 0 0),(3,vp 1 0),(5,vN i)])
   (fun i=>[(0,.box [cIs a_.locs,.d (.sl 1 (a_.bits.map za5))]),(1,.box [cIs b_.locs,.d (.sl 1 (b_.bits.map za5))])])
   (fun i=>a_.locs.length - i) 0 ?_ h (by kernel_rfl) (by kernel_rfl) ?_
 ·exact ⟨Nat.zero_le _,Nat.zero_le _,rfl⟩
 clear h;rintro i a w hI h
 obtain ⟨hIi,hKi,hJi⟩:=hI
 have hcei:=zh3 (c:=zbc) hIi hKi
 refine wp_seq ?_
 rcases Bool.eq_false_or_eq_true (decide ((i:Int)<(a_.locs.length:Int))) with hc | hc
 ·have hc1:=hc;clear hc
  have hc1':=dT hc1
  refine rqk za0 2 [(3,.len (za9 1 zaw a_.locs)),(4,.cmp (op:=.lss) (m:=(i:Int)) (n:=(a_.locs.length:Int)) (b:=true) .i64 hc1),(9,.len (za9 1 zaw b_.locs))] [(2,vp 0 0),(3,vp 1 0),(5,vN i),(18,vb (decide ((i:Int)<(b_.locs.length:Int))))] h fun a w h=>?_
  refine zam ((i:Int)<(b_.locs.length:Int)) h rfl (fun hc2 hc2'=>?_) (fun hc7 hc7'=>?_)
  ·refine wp_skip (za2 (wp_seq (wp_block (wp_seq ?_))))
   obtain ⟨x1,hx1⟩:=gl a_.locs i
   obtain ⟨x2,hx2⟩:=gl b_.locs i
   refine rqk za0 2 [(3,.g (xD 24 22 zig (zaf hx1 (f:=zaw)) (OV.tmp 23 _))),(8,.g (xD 29 27 zig (zaf hx2 (f:=zaw)) (OV.tmp 28 _)))] [(2,vp 0 0),(3,vp 1 0),(5,vN i),(31,vb (decide (x1<x2)))] h fun a w h=>?_
   refine zam (x1<x2) h rfl (fun hc3 hc3'=>?_) (fun hc4 hc4'=>?_)
   ·refine rqk za0 2 [] [(2,vp 0 0),(3,vp 1 0),(4,vI (-1)),(5,vN i)] h fun a w h=>?_
    refine wp_ret (za8 (zad (za8 (za8 (zad (za8 ?_))))))
    refine rT (.c (cI (-1))) h rfl rfl ?_
    have l0:=dT hc1
    have l1:=dT hc2
    have l2:=dT hc3
    have hz:zdk a_ b_=-1:=cmpA_left (hJi.trans (zd5 hx1 hx2)) (cmpZ_l9 (by omega))
    rw [hz];first | done | rfl
   refine wp_skip (za2 (rqk za0 2 [(3,.g (xD 35 33 zig (zaf hx1 (f:=zaw)) (OV.tmp 34 _))),(8,.g (xD 40 38 zig (zaf hx2 (f:=zaw)) (OV.tmp 39 _)))] [(2,vp 0 0),(3,vp 1 0),(5,vN i),(42,vb (decide (x1>x2)))] h fun a w h=>?_))
   refine zam (x1>x2) h rfl (fun hc5 hc5'=>?_) (fun hc6 hc6'=>?_)
   ·refine rqk za0 2 [] [(2,vp 0 0),(3,vp 1 0),(4,vI 1),(5,vN i)] h fun a w h=>?_
    refine wp_ret (zad (za8 (za8 (zad (za8 ?_)))))
    refine rT (.c (cI 1)) h rfl rfl ?_
    have l0:=dT hc1
    have l1:=dT hc2
    have l2:=dF hc4
    have l3:=dT hc5
    have hz:zdk a_ b_=1:=cmpA_left (hJi.trans (zd5 hx1 hx2)) (cmpZ_g9 (by omega))
    rw [hz];first | done | rfl
   refine wp_skip (zaa (za2 (rnk za0 2 [(1,.j1 i)] [(2,vp 0 0),(3,vp 1 0),(5,vI ((i:Int)+1))] h fun a w h=>?_)))
   refine za2 ?_
   refine zaj (x:=i) (y:=i+1) h ?_ ?_
   ·have:=zag hx1
    have:=zag hx2
    have p0:=dF hc4
    have p1:=dF hc6
    exact ⟨by omega,by omega,by rw [hJi,zd5 hx1 hx2,if_neg (fun e=>e (cmpZ_e9 (by omega)))]⟩
   show a_.locs.length - (i+1)<a_.locs.length - i
   have:=zag hx1;omega
  refine wp_exit (zab (zab (za7 (za2 (wp_seq (rqk za0 2 [(2,.len (za9 1 zaw a_.locs)),(5,.len (za9 1 zaw b_.locs))] [(2,vp 0 0),(3,vp 1 0),(49,vb ((a_.locs.length:Int) != (b_.locs.length:Int)))] h fun a w h=>?_))))))
  refine zah ((a_.locs.length:Int) != (b_.locs.length:Int)) h rfl (fun hc8=>?_) (fun hc11=>?_)
  ·have hc8':=hc8;(try simp at hc8')
   refine wp_seq (rqk za0 2 [(2,.len (za9 1 zaw a_.locs)),(5,.len (za9 1 zaw b_.locs))] [(2,vp 0 0),(3,vp 1 0),(56,vb (decide ((a_.locs.length:Int)<(b_.locs.length:Int))))] h fun a w h=>?_)
   refine zam ((a_.locs.length:Int)<(b_.locs.length:Int)) h rfl (fun hc9 hc9'=>?_) (fun hc10 hc10'=>?_)
   ·refine rqk za0 2 [] [(2,vp 0 0),(3,vp 1 0),(4,vI (-1))] h fun a w h=>?_
    refine wp_ret (za8 (za8 ?_))
    refine rT (.c (cI (-1))) h rfl rfl ?_
    have l0:=dT hc1
    have l1:=dF hc7
    have l3:=dT hc9
    have lne:a_.locs.length≠b_.locs.length:=by have:=hc8;simp at this;omega
    have hz:zdk a_ b_=-1:=cmpA_l0 (hJi.trans (hcei.2.1 (by omega) (by omega))) (by decide)
    rw [hz];first | done | rfl
   refine wp_skip (za2 (rqk za0 2 [] [(2,vp 0 0),(3,vp 1 0),(4,vI 1)] h fun a w h=>?_))
   refine wp_ret (za8 ?_)
   refine rT (.c (cI 1)) h rfl rfl ?_
   have l0:=dT hc1
   have l1:=dF hc7
   have l3:=dF hc10
   have lne:a_.locs.length≠b_.locs.length:=by have:=hc8;simp at this;omega
   have hz:zdk a_ b_=1:=cmpA_l0 (hJi.trans (hcei.1 (by omega) (by omega))) (by decide)
   rw [hz];first | done | rfl
  have hc11':=hc11;(try simp at hc11')
  refine wp_skip (za2 (wp_seq (rqk za0 2 [] [(2,vp 0 0),(3,vp 1 0),(6,vI 0)] h fun a w h=>?_)))
  refine wp_block ?_
  refine zau (ι:=(Nat)) (fun k=>k≤a_.bits.length∧k≤b_.bits.length∧zey zd6 a_.bits b_.bits=zey zd6 (a_.bits.drop k) (b_.bits.drop k))
    (fun k=>[(2,vp 0 0),(3,vp 1 0),(6,vN k)])
    (fun k=>[(0,.box [cIs a_.locs,.d (.sl 1 (a_.bits.map za5))]),(1,.box [cIs b_.locs,.d (.sl 1 (b_.bits.map za5))])])
    (fun k=>a_.bits.length - k) 0 ?_ h (by kernel_rfl) (by kernel_rfl) ?_
  ·exact ⟨Nat.zero_le _,Nat.zero_le _,rfl⟩
  clear h;rintro k a w hI h
  obtain ⟨hIk,hKk,hJk⟩:=hI
  have hcek:=zh3 (c:=zd6) hIk hKk
  refine wp_seq ?_
  rcases Bool.eq_false_or_eq_true (decide ((k:Int)<(a_.bits.length:Int))) with hc | hc
  ·have hc12:=hc;clear hc
   have hc12':=dT hc12
   refine rqk za0 2 [(3,.len (za9 1 za5 a_.bits)),(4,.cmp (op:=.lss) (m:=(k:Int)) (n:=(a_.bits.length:Int)) (b:=true) .i64 hc12),(9,.len (za9 1 za5 b_.bits))] [(2,vp 0 0),(3,vp 1 0),(6,vN k),(68,vb (decide ((k:Int)<(b_.bits.length:Int))))] h fun a w h=>?_
   refine zam ((k:Int)<(b_.bits.length:Int)) h rfl (fun hc13 hc13'=>?_) (fun hc18 hc18'=>?_)
   ·refine wp_skip (za2 (wp_seq (wp_block ?_)))
    obtain ⟨x3,hx3⟩:=gl a_.bits k
    obtain ⟨x4,hx4⟩:=gl b_.bits k
    refine rqk za0 2 [(3,.g (xD 74 72 zfu (zaf hx3 (f:=za5)) (OV.tmp 73 _))),(8,.g (xD 79 77 zfu (zaf hx4 (f:=za5)) (OV.tmp 78 _)))] [(2,vp 0 0),(3,vp 1 0),(6,vN k),(81,vb (x3 != x4))] h fun a w h=>?_
    refine zah (x3 != x4) h rfl (fun hc14=>?_) (fun hc17=>?_)
    ·have hc14':=hc14;(try simp at hc14')
     refine wp_seq (rqk za0 2 [(3,.g (xD 85 83 zfu (zaf hx4 (f:=za5)) (OV.tmp 84 _)))] [(2,vp 0 0),(3,vp 1 0),(6,vN k),(86,vb x4)] h fun a w h=>?_)
     refine zah x4 h rfl (fun hc15=>?_) (fun hc16=>?_)
     ·refine rqk za0 2 [] [(2,vp 0 0),(3,vp 1 0),(4,vI (-1)),(6,vN k)] h fun a w h=>?_
      refine wp_ret (za8 (zad (za8 (za8 (zad (za8 ?_))))))
      refine rT (.c (cI (-1))) h rfl rfl ?_
      have l0:=dT hc1
      have l1:=dF hc7
      have l3:=dT hc12
      have l4:=dT hc13
      have leq:a_.locs.length=b_.locs.length:=by have:=hc11;simp at this;omega
      have hl0:=hJi.trans (hcei.2.2 (by omega) (by omega))
      have hz:zdk a_ b_=-1:=cmpA_rs hl0 (hJk.trans (zd5 hx3 hx4)) (bit_ne hc14 hc15)
      rw [hz];first | done | rfl
     refine wp_skip (za2 (rqk za0 2 [] [(2,vp 0 0),(3,vp 1 0),(4,vI 1),(6,vN k)] h fun a w h=>?_))
     refine wp_ret (zad (za8 (za8 (zad (za8 ?_)))))
     refine rT (.c (cI 1)) h rfl rfl ?_
     have l0:=dT hc1
     have l1:=dF hc7
     have l3:=dT hc12
     have l4:=dT hc13
     have leq:a_.locs.length=b_.locs.length:=by have:=hc11;simp at this;omega
     have hl0:=hJi.trans (hcei.2.2 (by omega) (by omega))
     have hz:zdk a_ b_=1:=cmpA_rs hl0 (hJk.trans (zd5 hx3 hx4)) (bit_ne hc14 hc16)
     rw [hz];first | done | rfl
    have hc17':=hc17;(try simp at hc17')
    refine wp_skip (zaa (za2 (rnk za0 2 [(1,.add .i64 (m:=(k:Int)) (n:=1) i6)] [(2,vp 0 0),(3,vp 1 0),(6,vI ((k:Int)+1))] h fun a w h=>?_)))
    refine za2 ?_
    refine zaj (x:=k) (y:=k+1) h ?_ ?_
    ·have:=zag hx3
     have:=zag hx4
     have p0:x3=x4:=by have:=hc17;simpa using this
     exact ⟨by omega,by omega,by rw [hJk,zd5 hx3 hx4,if_neg (fun e=>e ((by subst p0;exact zdd _)))]⟩
    show a_.bits.length - (k+1)<a_.bits.length - k
    have:=zag hx3;omega
   refine wp_exit (zab (zab (za7 (za2 (wp_seq (rqk za0 2 [(2,.len (za9 1 za5 a_.bits)),(5,.len (za9 1 za5 b_.bits))] [(2,vp 0 0),(3,vp 1 0),(93,vb (decide ((a_.bits.length:Int)<(b_.bits.length:Int))))] h fun a w h=>?_))))))
   refine zam ((a_.bits.length:Int)<(b_.bits.length:Int)) h rfl (fun hc19 hc19'=>?_) (fun hc20 hc20'=>?_)
   ·refine rqk za0 2 [] [(2,vp 0 0),(3,vp 1 0),(4,vI (-1))] h fun a w h=>?_
    refine wp_ret (za8 ?_)
    refine rT (.c (cI (-1))) h rfl rfl ?_
    have l0:=dT hc1
    have l1:=dF hc7
    have l3:=dT hc12
    have l4:=dF hc18
    have l5:=dT hc19
    have leq:a_.locs.length=b_.locs.length:=by have:=hc11;simp at this;omega
    have hl0:=hJi.trans (hcei.2.2 (by omega) (by omega))
    have hz:zdk a_ b_=-1:=zec hl0 (hJk.trans (hcek.2.1 (by omega) (by omega)))
    rw [hz];first | done | rfl
   refine wp_skip (za2 (wp_seq (rq za0 2 [(2,.len (za9 1 za5 a_.bits)),(5,.len (za9 1 za5 b_.bits))] [(100,vb (decide ((a_.bits.length:Int)>(b_.bits.length:Int))))] [] h fun a w h=>?_)))
   refine zam ((a_.bits.length:Int)>(b_.bits.length:Int)) h rfl (fun hc21 hc21'=>?_) (fun hc22 hc22'=>?_)
   ·refine rq za0 2 [] [(4,vI 1)] [] h fun a w h=>?_
    refine wp_ret (za8 ?_)
    refine rT (.c (cI 1)) h rfl rfl ?_
    have l0:=dT hc1
    have l1:=dF hc7
    have l3:=dT hc12
    have l4:=dF hc18
    have l5:=dF hc20
    have l6:=dT hc21
    have leq:a_.locs.length=b_.locs.length:=by have:=hc11;simp at this;omega
    have hl0:=hJi.trans (hcei.2.2 (by omega) (by omega))
    have hz:zdk a_ b_=1:=zec hl0 (hJk.trans (hcek.1 (by omega) (by omega)))
    rw [hz];first | done | rfl
   refine wp_skip (za2 (rq za0 2 [] [(4,vI 0)] [] h fun a w h=>?_))
   refine wp_ret ?_
   refine rT (.c (cI 0)) h rfl rfl ?_
   have l0:=dT hc1
   have l1:=dF hc7
   have l3:=dT hc12
   have l4:=dF hc18
   have l5:=dF hc20
   have l6:=dF hc22
   have leq:a_.locs.length=b_.locs.length:=by have:=hc11;simp at this;omega
   have hl0:=hJi.trans (hcei.2.2 (by omega) (by omega))
   have hz:zdk a_ b_=0:=zec hl0 (hJk.trans (hcek.2.2 (by omega) (by omega)))
   rw [hz];first | done | rfl
  have hc23:=hc;clear hc
  have hc23':=dF hc23
  refine rqk za0 2 [(3,.len (za9 1 za5 a_.bits)),(4,.cmp (op:=.lss) (m:=(k:Int)) (n:=(a_.bits.length:Int)) (b:=false) .i64 hc23)] [(2,vp 0 0),(3,vp 1 0),(6,vN k),(68,vb false)] h fun a w h=>?_
  refine zah false h rfl nofun (fun _=>?_)
  refine wp_exit (zab (zab (za7 (za2 (wp_seq (rqk za0 2 [(2,.len (za9 1 za5 a_.bits)),(5,.len (za9 1 za5 b_.bits))] [(2,vp 0 0),(3,vp 1 0),(93,vb (decide ((a_.bits.length:Int)<(b_.bits.length:Int))))] h fun a w h=>?_))))))
  refine zam ((a_.bits.length:Int)<(b_.bits.length:Int)) h rfl (fun hc24 hc24'=>?_) (fun hc25 hc25'=>?_)
  ·refine rqk za0 2 [] [(2,vp 0 0),(3,vp 1 0),(4,vI (-1))] h fun a w h=>?_
   refine wp_ret (za8 ?_)
   refine rT (.c (cI (-1))) h rfl rfl ?_
   have l0:=dT hc1
   have l1:=dF hc7
   have l3:=dF hc23
   have l4:=dT hc24
   have leq:a_.locs.length=b_.locs.length:=by have:=hc11;simp at this;omega
   have hl0:=hJi.trans (hcei.2.2 (by omega) (by omega))
   have hz:zdk a_ b_=-1:=zec hl0 (hJk.trans (hcek.2.1 (by omega) (by omega)))
   rw [hz];first | done | rfl
  refine wp_skip (za2 (wp_seq (rq za0 2 [(2,.len (za9 1 za5 a_.bits)),(5,.len (za9 1 za5 b_.bits))] [(100,vb (decide ((a_.bits.length:Int)>(b_.bits.length:Int))))] [] h fun a w h=>?_)))
  refine zam ((a_.bits.length:Int)>(b_.bits.length:Int)) h rfl (fun hc26 hc26'=>?_) (fun hc27 hc27'=>?_)
  ·refine rq za0 2 [] [(4,vI 1)] [] h fun a w h=>?_
   refine wp_ret (za8 ?_)
   refine rT (.c (cI 1)) h rfl rfl ?_
   have l0:=dT hc1
   have l1:=dF hc7
   have l3:=dF hc23
   have l4:=dF hc25
   have l5:=dT hc26
   have leq:a_.locs.length=b_.locs.length:=by have:=hc11;simp at this;omega
   have hl0:=hJi.trans (hcei.2.2 (by omega) (by omega))
   have hz:zdk a_ b_=1:=zec hl0 (hJk.trans (hcek.1 (by omega) (by omega)))
   rw [hz];first | done | rfl
  refine wp_skip (za2 (rq za0 2 [] [(4,vI 0)] [] h fun a w h=>?_))
  refine wp_ret ?_
  refine rT (.c (cI 0)) h rfl rfl ?_
  have l0:=dT hc1
  have l1:=dF hc7
  have l3:=dF hc23
  have l4:=dF hc25
  have l5:=dF hc27
  have leq:a_.locs.length=b_.locs.length:=by have:=hc11;simp at this;omega
  have hl0:=hJi.trans (hcei.2.2 (by omega) (by omega))
  have hz:zdk a_ b_=0:=zec hl0 (hJk.trans (hcek.2.2 (by omega) (by omega)))
  rw [hz];first | done | rfl
 have hc28:=hc;clear hc
 have hc28':=dF hc28
 refine rqk za0 2 [(3,.len (za9 1 zaw a_.locs)),(4,.cmp (op:=.lss) (m:=(i:Int)) (n:=(a_.locs.length:Int)) (b:=false) .i64 hc28)] [(2,vp 0 0),(3,vp 1 0),(5,vN i),(18,vb false)] h fun a w h=>?_
 refine zah false h rfl nofun (fun _=>?_)
 refine wp_exit (zab (zab (za7 (za2 (wp_seq (rqk za0 2 [(2,.len (za9 1 zaw a_.locs)),(5,.len (za9 1 zaw b_.locs))] [(2,vp 0 0),(3,vp 1 0),(49,vb ((a_.locs.length:Int) != (b_.locs.length:Int)))] h fun a w h=>?_))))))
 refine zah ((a_.locs.length:Int) != (b_.locs.length:Int)) h rfl (fun hc29=>?_) (fun hc32=>?_)
 ·have hc29':=hc29;(try simp at hc29')
  refine wp_seq (rqk za0 2 [(2,.len (za9 1 zaw a_.locs)),(5,.len (za9 1 zaw b_.locs))] [(2,vp 0 0),(3,vp 1 0),(56,vb (decide ((a_.locs.length:Int)<(b_.locs.length:Int))))] h fun a w h=>?_)
  refine zam ((a_.locs.length:Int)<(b_.locs.length:Int)) h rfl (fun hc30 hc30'=>?_) (fun hc31 hc31'=>?_)
  ·refine rqk za0 2 [] [(2,vp 0 0),(3,vp 1 0),(4,vI (-1))] h fun a w h=>?_
   refine wp_ret (za8 (za8 ?_))
   refine rT (.c (cI (-1))) h rfl rfl ?_
   have l0:=dF hc28
   have l2:=dT hc30
   have lne:a_.locs.length≠b_.locs.length:=by have:=hc29;simp at this;omega
   have hz:zdk a_ b_=-1:=cmpA_l0 (hJi.trans (hcei.2.1 (by omega) (by omega))) (by decide)
   rw [hz];first | done | rfl
  refine wp_skip (za2 (rqk za0 2 [] [(2,vp 0 0),(3,vp 1 0),(4,vI 1)] h fun a w h=>?_))
  refine wp_ret (za8 ?_)
  refine rT (.c (cI 1)) h rfl rfl ?_
  have l0:=dF hc28
  have l2:=dF hc31
  have lne:a_.locs.length≠b_.locs.length:=by have:=hc29;simp at this;omega
  have hz:zdk a_ b_=1:=cmpA_l0 (hJi.trans (hcei.1 (by omega) (by omega))) (by decide)
  rw [hz];first | done | rfl
 have hc32':=hc32;(try simp at hc32')
 refine wp_skip (za2 (wp_seq (rqk za0 2 [] [(2,vp 0 0),(3,vp 1 0),(6,vI 0)] h fun a w h=>?_)))
 refine wp_block ?_
 refine zau (ι:=(Nat)) (fun k=>k≤a_.bits.length∧k≤b_.bits.length∧zey zd6 a_.bits b_.bits=zey zd6 (a_.bits.drop k) (b_.bits.drop k))
   (fun k=>[(2,vp 0 0),(3,vp 1 0),(6,vN k)])
   (fun k=>[(0,.box [cIs a_.locs,.d (.sl 1 (a_.bits.map za5))]),(1,.box [cIs b_.locs,.d (.sl 1 (b_.bits.map za5))])])
   (fun k=>a_.bits.length - k) 0 ?_ h (by kernel_rfl) (by kernel_rfl) ?_
 ·exact ⟨Nat.zero_le _,Nat.zero_le _,rfl⟩
 clear h;rintro k a w hI h
 obtain ⟨hIk,hKk,hJk⟩:=hI
 have hcek:=zh3 (c:=zd6) hIk hKk
 refine wp_seq ?_
 rcases Bool.eq_false_or_eq_true (decide ((k:Int)<(a_.bits.length:Int))) with hc | hc
 ·have hc33:=hc;clear hc
  have hc33':=dT hc33
  refine rqk za0 2 [(3,.len (za9 1 za5 a_.bits)),(4,.cmp (op:=.lss) (m:=(k:Int)) (n:=(a_.bits.length:Int)) (b:=true) .i64 hc33),(9,.len (za9 1 za5 b_.bits))] [(2,vp 0 0),(3,vp 1 0),(6,vN k),(68,vb (decide ((k:Int)<(b_.bits.length:Int))))] h fun a w h=>?_
  refine zam ((k:Int)<(b_.bits.length:Int)) h rfl (fun hc34 hc34'=>?_) (fun hc39 hc39'=>?_)
  ·refine wp_skip (za2 (wp_seq (wp_block ?_)))
   obtain ⟨x5,hx5⟩:=gl a_.bits k
   obtain ⟨x6,hx6⟩:=gl b_.bits k
   refine rqk za0 2 [(3,.g (xD 74 72 zfu (zaf hx5 (f:=za5)) (OV.tmp 73 _))),(8,.g (xD 79 77 zfu (zaf hx6 (f:=za5)) (OV.tmp 78 _)))] [(2,vp 0 0),(3,vp 1 0),(6,vN k),(81,vb (x5 != x6))] h fun a w h=>?_
   refine zah (x5 != x6) h rfl (fun hc35=>?_) (fun hc38=>?_)
   ·have hc35':=hc35;(try simp at hc35')
    refine wp_seq (rqk za0 2 [(3,.g (xD 85 83 zfu (zaf hx6 (f:=za5)) (OV.tmp 84 _)))] [(2,vp 0 0),(3,vp 1 0),(6,vN k),(86,vb x6)] h fun a w h=>?_)
    refine zah x6 h rfl (fun hc36=>?_) (fun hc37=>?_)
    ·refine rqk za0 2 [] [(2,vp 0 0),(3,vp 1 0),(4,vI (-1)),(6,vN k)] h fun a w h=>?_
     refine wp_ret (za8 (zad (za8 (za8 (zad (za8 ?_))))))
     refine rT (.c (cI (-1))) h rfl rfl ?_
     have l0:=dF hc28
     have l2:=dT hc33
     have l3:=dT hc34
     have leq:a_.locs.length=b_.locs.length:=by have:=hc32;simp at this;omega
     have hl0:=hJi.trans (hcei.2.2 (by omega) (by omega))
     have hz:zdk a_ b_=-1:=cmpA_rs hl0 (hJk.trans (zd5 hx5 hx6)) (bit_ne hc35 hc36)
     rw [hz];first | done | rfl
    refine wp_skip (za2 (rqk za0 2 [] [(2,vp 0 0),(3,vp 1 0),(4,vI 1),(6,vN k)] h fun a w h=>?_))
    refine wp_ret (zad (za8 (za8 (zad (za8 ?_)))))
    refine rT (.c (cI 1)) h rfl rfl ?_
    have l0:=dF hc28
    have l2:=dT hc33
    have l3:=dT hc34
    have leq:a_.locs.length=b_.locs.length:=by have:=hc32;simp at this;omega
    have hl0:=hJi.trans (hcei.2.2 (by omega) (by omega))
    have hz:zdk a_ b_=1:=cmpA_rs hl0 (hJk.trans (zd5 hx5 hx6)) (bit_ne hc35 hc37)
    rw [hz];first | done | rfl
   have hc38':=hc38;(try simp at hc38')
   refine wp_skip (zaa (za2 (rnk za0 2 [(1,.add .i64 (m:=(k:Int)) (n:=1) i6)] [(2,vp 0 0),(3,vp 1 0),(6,vI ((k:Int)+1))] h fun a w h=>?_)))
   refine za2 ?_
   refine zaj (x:=k) (y:=k+1) h ?_ ?_
   ·have:=zag hx5
    have:=zag hx6
    have p0:x5=x6:=by have:=hc38;simpa using this
    exact ⟨by omega,by omega,by rw [hJk,zd5 hx5 hx6,if_neg (fun e=>e ((by subst p0;exact zdd _)))]⟩
   show a_.bits.length - (k+1)<a_.bits.length - k
   have:=zag hx5;omega
  refine wp_exit (zab (zab (za7 (za2 (wp_seq (rqk za0 2 [(2,.len (za9 1 za5 a_.bits)),(5,.len (za9 1 za5 b_.bits))] [(2,vp 0 0),(3,vp 1 0),(93,vb (decide ((a_.bits.length:Int)<(b_.bits.length:Int))))] h fun a w h=>?_))))))
  refine zam ((a_.bits.length:Int)<(b_.bits.length:Int)) h rfl (fun hc40 hc40'=>?_) (fun hc41 hc41'=>?_)
  ·refine rqk za0 2 [] [(2,vp 0 0),(3,vp 1 0),(4,vI (-1))] h fun a w h=>?_
   refine wp_ret (za8 ?_)
   refine rT (.c (cI (-1))) h rfl rfl ?_
   have l0:=dF hc28
   have l2:=dT hc33
   have l3:=dF hc39
   have l4:=dT hc40
   have leq:a_.locs.length=b_.locs.length:=by have:=hc32;simp at this;omega
   have hl0:=hJi.trans (hcei.2.2 (by omega) (by omega))
   have hz:zdk a_ b_=-1:=zec hl0 (hJk.trans (hcek.2.1 (by omega) (by omega)))
   rw [hz];first | done | rfl
  refine wp_skip (za2 (wp_seq (rq za0 2 [(2,.len (za9 1 za5 a_.bits)),(5,.len (za9 1 za5 b_.bits))] [(100,vb (decide ((a_.bits.length:Int)>(b_.bits.length:Int))))] [] h fun a w h=>?_)))
  refine zam ((a_.bits.length:Int)>(b_.bits.length:Int)) h rfl (fun hc42 hc42'=>?_) (fun hc43 hc43'=>?_)
  ·refine rq za0 2 [] [(4,vI 1)] [] h fun a w h=>?_
   refine wp_ret (za8 ?_)
   refine rT (.c (cI 1)) h rfl rfl ?_
   have l0:=dF hc28
   have l2:=dT hc33
   have l3:=dF hc39
   have l4:=dF hc41
   have l5:=dT hc42
   have leq:a_.locs.length=b_.locs.length:=by have:=hc32;simp at this;omega
   have hl0:=hJi.trans (hcei.2.2 (by omega) (by omega))
   have hz:zdk a_ b_=1:=zec hl0 (hJk.trans (hcek.1 (by omega) (by omega)))
   rw [hz];first | done | rfl
  refine wp_skip (za2 (rq za0 2 [] [(4,vI 0)] [] h fun a w h=>?_))
  refine wp_ret ?_
  refine rT (.c (cI 0)) h rfl rfl ?_
  have l0:=dF hc28
  have l2:=dT hc33
  have l3:=dF hc39
  have l4:=dF hc41
  have l5:=dF hc43
  have leq:a_.locs.length=b_.locs.length:=by have:=hc32;simp at this;omega
  have hl0:=hJi.trans (hcei.2.2 (by omega) (by omega))
  have hz:zdk a_ b_=0:=zec hl0 (hJk.trans (hcek.2.2 (by omega) (by omega)))
  rw [hz];first | done | rfl
 have hc44:=hc;clear hc
 have hc44':=dF hc44
 refine rqk za0 2 [(3,.len (za9 1 za5 a_.bits)),(4,.cmp (op:=.lss) (m:=(k:Int)) (n:=(a_.bits.length:Int)) (b:=false) .i64 hc44)] [(2,vp 0 0),(3,vp 1 0),(6,vN k),(68,vb false)] h fun a w h=>?_
 refine zah false h rfl nofun (fun _=>?_)
 refine wp_exit (zab (zab (za7 (za2 (wp_seq (rqk za0 2 [(2,.len (za9 1 za5 a_.bits)),(5,.len (za9 1 za5 b_.bits))] [(2,vp 0 0),(3,vp 1 0),(93,vb (decide ((a_.bits.length:Int)<(b_.bits.length:Int))))] h fun a w h=>?_))))))
 refine zam ((a_.bits.length:Int)<(b_.bits.length:Int)) h rfl (fun hc45 hc45'=>?_) (fun hc46 hc46'=>?_)
 ·refine rqk za0 2 [] [(2,vp 0 0),(3,vp 1 0),(4,vI (-1))] h fun a w h=>?_
  refine wp_ret (za8 ?_)
  refine rT (.c (cI (-1))) h rfl rfl ?_
  have l0:=dF hc28
  have l2:=dF hc44
  have l3:=dT hc45
  have leq:a_.locs.length=b_.locs.length:=by have:=hc32;simp at this;omega
  have hl0:=hJi.trans (hcei.2.2 (by omega) (by omega))
  have hz:zdk a_ b_=-1:=zec hl0 (hJk.trans (hcek.2.1 (by omega) (by omega)))
  rw [hz];first | done | rfl
 refine wp_skip (za2 (wp_seq (rq za0 2 [(2,.len (za9 1 za5 a_.bits)),(5,.len (za9 1 za5 b_.bits))] [(100,vb (decide ((a_.bits.length:Int)>(b_.bits.length:Int))))] [] h fun a w h=>?_)))
 refine zam ((a_.bits.length:Int)>(b_.bits.length:Int)) h rfl (fun hc47 hc47'=>?_) (fun hc48 hc48'=>?_)
 ·refine rq za0 2 [] [(4,vI 1)] [] h fun a w h=>?_
  refine wp_ret (za8 ?_)
  refine rT (.c (cI 1)) h rfl rfl ?_
  have l0:=dF hc28
  have l2:=dF hc44
  have l3:=dF hc46
  have l4:=dT hc47
  have leq:a_.locs.length=b_.locs.length:=by have:=hc32;simp at this;omega
  have hl0:=hJi.trans (hcei.2.2 (by omega) (by omega))
  have hz:zdk a_ b_=1:=zec hl0 (hJk.trans (hcek.1 (by omega) (by omega)))
  rw [hz];first | done | rfl
 refine wp_skip (za2 (rq za0 2 [] [(4,vI 0)] [] h fun a w h=>?_))
 refine wp_ret ?_
 refine rT (.c (cI 0)) h rfl rfl ?_
 have l0:=dF hc28
 have l2:=dF hc44
 have l3:=dF hc46
 have l4:=dF hc48
 have leq:a_.locs.length=b_.locs.length:=by have:=hc32;simp at this;omega
 have hl0:=hJi.trans (hcei.2.2 (by omega) (by omega))
 have hz:zdk a_ b_=0:=zec hl0 (hJk.trans (hcek.2.2 (by omega) (by omega)))
 rw [hz];first | done | rfl
theorem Lplace (ps:List zac) (r:zac) (hps:ps.length≤1000000∧∀ p ∈ ps,TOk 200 3000 p.t) (hr:TOk 200 3000 r.t):Fn Tryz.prog 48 [] [(vRs ps),(vR r)] (vI (atR ps r)) []:=by
 have lps:=hps.1
 refine Fn.body Tryz.func48 rfl 20 rfl fun w H B a h=>?_
 refine rq za0 0 [] [(0,(vRs ps)),(3,vp 0 0),(4,vI 0)] [(0,.box (zR_ r))] h fun a w h=>?_
 refine wp_seq (rqk za0 1 [] [(0,(vRs ps)),(3,vp 0 0),(4,vI 0),(5,vI 0)] h fun a w h=>?_)
 refine wp_block ?_
 refine zau (ι:=(Nat)) (fun j=>j≤ps.length∧zib (fun p=>zbx p r == 0) ps 0=zib (fun p=>zbx p r == 0) (ps.drop j) j)
   (fun j=>[(0,(vRs ps)),(3,vp 0 0),(5,vN j)])
   (fun j=>[(0,.box (zR_ r))])
   (fun j=>ps.length - j) 0 ?_ h (by kernel_rfl) (by kernel_rfl) ?_
 ·exact ⟨Nat.zero_le _,rfl⟩
 clear h;rintro j a w hI h
 obtain ⟨hI1,hI2⟩:=hI
 refine wp_seq (rqk za0 1 [(2,.len (za9 4 zac.d ps))] [(0,(vRs ps)),(3,vp 0 0),(5,vN j),(9,vb (decide ((j:Int)<(ps.length:Int))))] h fun a w h=>?_)
 refine zam ((j:Int)<(ps.length:Int)) h rfl (fun hc1 hc1'=>?_) (fun hc4 hc4'=>?_)
 ·refine wp_skip (za2 (wp_seq (wp_block ?_)))
  obtain ⟨x1,hx1⟩:=gl ps j
  refine rqk za0 1 [(2,.g (xD 14 12 kc_3 (zaf hx1 (f:=zac.d)) (OV.tmp 13 _))),(5,.call (LR4Cmp x1 r ((hps.2 x1 (lM hx1)).mono (by decide) (by decide)) (hr.mono (by decide) (by decide))) lt20_7)] [(0,(vRs ps)),(3,vp 0 0),(5,vN j),(18,vb ((zbx x1 r) == 0))] h fun a w h=>?_
  refine zah ((zbx x1 r) == 0) h rfl (fun hc2=>?_) (fun hc3=>?_)
  ·have hc2':=hc2;(try simp at hc2')
   refine rqk za0 1 [] [(0,(vRs ps)),(3,vp 0 0),(4,vN j),(5,vN j)] h fun a w h=>?_
   refine wp_ret (zad (za8 (za8 (zad (za8 ?_)))))
   refine rT (.c (cI (j:Int))) h rfl rfl ?_
   have hz:atR ps r=(j:Int):=by unfold atR;rw [hI2,zhl hx1,if_pos hc2]
   rw [hz];first | done | rfl
  have hc3':=hc3;(try simp at hc3')
  refine wp_skip (zaa (za2 (rnk za0 1 [(1,.j1 j)] [(0,(vRs ps)),(3,vp 0 0),(5,vI ((j:Int)+1))] h fun a w h=>?_)))
  refine za2 ?_
  refine zaj (x:=j) (y:=j+1) h ?_ ?_
  ·exact ⟨by have:=zag hx1;omega,by rw [hI2,zhl hx1,if_neg (by rw [hc3];exact Bool.noConfusion)]⟩
  show ps.length - (j+1)<ps.length - j
  have:=zag hx1;omega
 refine wp_exit (zab (zab (za7 (za2 (rq za0 1 [] [(4,vI (-1))] [] h fun a w h=>?_)))))
 refine wp_ret ?_
 refine rT (.c (cI (-1))) h rfl rfl ?_
 have hz:atR ps r=-1:=by unfold atR;rw [hI2,List.drop_of_length_le (by omega)];rfl
 rw [hz];first | done | rfl
theorem LR21Gather0 (ps:List zac) (f:za1) (ih:∀ g ∈ f.kids,∀ ps:List zac,(∀ r ∈ ps,TOk 200 3000 r.t)→ps.length+g.nodes≤1000000→Fn Tryz.prog 21 [] [.t (.c (.d (.sl 4 (ps.map zac.d)))),.t (.agg ([.d (.raw (.int .i64 g.kind)),.d (.sl 3 (g.r.t.parts.map za4.d))]++zi g.r.t.k++[.d (.raw (.bool g.r.eq)),.d (.sl 6 (g.kids.map za1.d))]))] (.t (.c (.d (.sl 4 ((za1.gathR g ps).map zac.d))))) []) (hf:f.okA 200 2900) (hps:ps.length≤1000000∧∀ p ∈ ps,TOk 200 3000 p.t) (hl:ps.length+f.nodes≤1000000):Fn Tryz.prog 21 [] [.t (.c (.d (.sl 4 (ps.map zac.d)))),.t (.agg ([.d (.raw (.int .i64 f.kind)),.d (.sl 3 (f.r.t.parts.map za4.d))]++zi f.r.t.k++[.d (.raw (.bool f.r.eq)),.d (.sl 6 (f.kids.map za1.d))]))] (.t (.c (.d (.sl 4 ((za1.gathR f ps).map zac.d))))) []:=by
 have hnf:=za1.nodes_eq f
 have lkn:=zdc f.kids
 have lps:=hps.1
 refine Fn.body Tryz.func21 rfl 51 rfl fun w H B a h=>?_
 refine rq za0 0 [] [(0,.t (.c (.d (.sl 4 (ps.map zac.d))))),(3,vp 0 0),(4,.t (.c (.d (.raw zae))))] [(0,.box ([.d (.raw (.int .i64 f.kind)),.d (.sl 3 (f.r.t.parts.map za4.d))]++zi f.r.t.k++[.d (.raw (.bool f.r.eq)),.d (.sl 6 (f.kids.map za1.d))]))] h fun a w h=>?_
 refine wp_seq (rqk za0 1 [] [(0,.t (.c (.d (.sl 4 (ps.map zac.d))))),(3,vp 0 0),(4,.t (.c (.d (.raw zae)))),(10,vb (f.kind == 2))] h fun a w h=>?_)
 refine zah (f.kind == 2) h rfl (fun hc1=>?_) (fun hc6=>?_)
 ·have hc1':=hc1;(try simp at hc1')
  refine wp_seq (rqk za0 1 [(3,.call (Lplace ps f.r hps (zf3 hf (by first | exact hc1 | (have:=hc1;simpa using this)))) lt20_8)] [(0,.t (.c (.d (.sl 4 (ps.map zac.d))))),(3,vp 0 0),(4,.t (.c (.d (.raw zae)))),(15,vb (decide ((atR ps f.r)≥0)))] h fun a w h=>?_)
  refine zam ((atR ps f.r)≥0) h rfl (fun hc2 hc2'=>?_) (fun hc3 hc3'=>?_)
  ·refine rqk za0 1 [] [(0,.t (.c (.d (.sl 4 (ps.map zac.d))))),(3,vp 0 0),(4,.t (.c (.d (.sl 4 (ps.map zac.d)))))] h fun a w h=>?_
   refine wp_ret (za8 (za8 ?_))
   refine rT (.c (.d (.sl 4 (ps.map zac.d)))) h rfl rfl ?_
   have hz:f.gathR ps=ps:=gathR_2 (by have:=hc1;simpa using this) (dT hc2)
   rw [hz];first | done | rfl
  refine wp_skip (za2 (rq za0 1 [(0,.g (Op.buildE (d:=17) (n:=1) kc_5))] [(0,.t (.c (.d (.sl 4 (ps.map zac.d))))),(3,vp 0 0),(4,.t (.c (.d (.raw zae)))),(5,.t (.c (.own 1 0)))] [(0,.box ([.d (.raw (.int .i64 f.kind)),.d (.sl 3 (f.r.t.parts.map za4.d))]++zi f.r.t.k++[.d (.raw (.bool f.r.eq)),.d (.sl 6 (f.kids.map za1.d))])),(1,.row 57 4 ([].map zac.d))] h fun a w h=>?_))
  refine wp_seq (rqk za0 2 [] [(0,.t (.c (.d (.sl 4 (ps.map zac.d))))),(3,vp 0 0),(4,.t (.c (.d (.raw zae)))),(5,.t (.c (.own 1 0))),(6,vI 0)] h fun a w h=>?_)
  refine wp_block ?_
  refine zau (ι:=(Nat)) (fun j=>j≤ps.length)
    (fun j=>[(0,.t (.c (.d (.sl 4 (ps.map zac.d))))),(3,vp 0 0),(4,.t (.c (.d (.raw zae)))),(5,.t (.c (.own 1 (ps.take j).length))),(6,vN j)])
    (fun j=>[(0,.box ([.d (.raw (.int .i64 f.kind)),.d (.sl 3 (f.r.t.parts.map za4.d))]++zi f.r.t.k++[.d (.raw (.bool f.r.eq)),.d (.sl 6 (f.kids.map za1.d))])),(1,.row 57 4 ((ps.take j).map zac.d))])
    (fun j=>ps.length - j) 0 ?_ h (by kernel_rfl) (by kernel_rfl) ?_
  ·exact Nat.zero_le _
  clear h;rintro j a w hI h
  have lpj:(ps.take j).length≤j:=by rw [List.length_take];omega
  refine wp_seq (rqk za0 2 [(2,.len (za9 4 zac.d ps))] [(0,.t (.c (.d (.sl 4 (ps.map zac.d))))),(3,vp 0 0),(4,.t (.c (.d (.raw zae)))),(5,.t (.c (.own 1 (ps.take j).length))),(6,vN j),(21,vb (decide ((j:Int)<(ps.length:Int))))] h fun a w h=>?_)
  refine zam ((j:Int)<(ps.length:Int)) h rfl (fun hc4 hc4'=>?_) (fun hc5 hc5'=>?_)
  ·refine wp_skip (za2 (wp_seq (wp_block ?_)))
   obtain ⟨x2,hx2⟩:=gl ps j
   refine rn za0 2 [(3,.g (xD 27 25 kc_3 (zaf hx2 (f:=zac.d)) (OV.tmp 26 _))),(5,.g (Op.buildO (d:=29) (n:=2) (len:=1) (rows:=[x2].map zac.d) (rs:=[(28,.t (.agg ([.d (.sl 3 (x2.t.parts.map za4.d))]++zi x2.t.k++[.d (.raw (.bool x2.eq))])))]) kc_5 (.cons (i:=0) (OV.tmp 28 _) (.nil)) (by kernel_rfl) rfl (by simp [zac.d]) (by decide) (by decide))),(6,.g (Op.appOO (d:=30) (t:=24) (u:=29) (n:=1) (sn:=2) (n':=3) (len:=(ps.take j).length) (len2:=1) (len':=((ps.take j)++[x2]).length) (rows:=(ps.take j).map zac.d) (rows2:=[x2].map zac.d) (rows':=((ps.take j)++[x2]).map zac.d) lh8_3 (by first | exact (List.length_map _).symm | simp) (by first | exact (List.length_map _).symm | simp) (by first | (rw [List.length_append,List.length_map];done) | simp) (by simp) (by first | omega | (simp at *;done) | (simp at *;omega))))] [(0,.t (.c (.d (.sl 4 (ps.map zac.d))))),(3,vp 0 0),(4,.t (.c (.d (.raw zae)))),(5,.t (.c (.own 3 ((ps.take j)++[x2]).length))),(6,vN j)] [(0,.box ([.d (.raw (.int .i64 f.kind)),.d (.sl 3 (f.r.t.parts.map za4.d))]++zi f.r.t.k++[.d (.raw (.bool f.r.eq)),.d (.sl 6 (f.kids.map za1.d))])),(3,.row 57 4 (((ps.take j)++[x2]).map zac.d))] h fun a w h=>?_
   refine zaa (za2 (rnk za0 4 [(1,.j1 j)] [(0,.t (.c (.d (.sl 4 (ps.map zac.d))))),(3,vp 0 0),(4,.t (.c (.d (.raw zae)))),(5,.t (.c (.own 3 ((ps.take j)++[x2]).length))),(6,vI ((j:Int)+1))] h fun a w h=>?_))
   refine za2 ?_
   rw [show (((ps.take j)++[x2]):List zac)=(ps.take (j+1)) from (by rw [List.take_add_one,hx2];rfl)] at h
   replace h:=zbz 3 1 [(0,.t (.c (.d (.sl 4 (ps.map zac.d))))),(3,vp 0 0),(4,.t (.c (.d (.raw zae)))),(5,.t (.c (.own 1 (ps.take (j+1)).length))),(6,vI ((j:Int)+1))] [(0,.box ([.d (.raw (.int .i64 f.kind)),.d (.sl 3 (f.r.t.parts.map za4.d))]++zi f.r.t.k++[.d (.raw (.bool f.r.eq)),.d (.sl 6 (f.kids.map za1.d))])),(1,.row 57 4 ((ps.take (j+1)).map zac.d))] h
   refine zaj (x:=j) (y:=j+1) h ?_ ?_
   ·have:=zag hx2
    show j+1≤ps.length
    omega
   show ps.length - (j+1)<ps.length - j
   have:=zag hx2;omega
  refine wp_exit (zab (zab (za7 (za2 (rq za0 4 [(3,.g (Op.buildO (d:=34) (n:=4) (len:=1) (rows:=[f.r].map zac.d) (rs:=[(33,.t (.agg ([.d (.sl 3 (f.r.t.parts.map za4.d))]++zi f.r.t.k++[.d (.raw (.bool f.r.eq))])))]) kc_5 (.cons (i:=0) (OV.tmp 33 _) (.nil)) (by kernel_rfl) rfl (by simp [zac.d]) (by decide) (by decide))),(4,.g (Op.appOO (d:=35) (t:=31) (u:=34) (n:=1) (sn:=4) (n':=5) (len:=(ps.take j).length) (len2:=1) (len':=((ps.take j)++[f.r]).length) (rows:=(ps.take j).map zac.d) (rows2:=[f.r].map zac.d) (rows':=((ps.take j)++[f.r]).map zac.d) lh8_3 (by first | exact (List.length_map _).symm | simp) (by first | exact (List.length_map _).symm | simp) (by first | (rw [List.length_append,List.length_map];done) | simp) (by simp) (by first | omega | (simp at *;done) | (simp at *;omega))))] [(0,.t (.c (.d (.sl 4 (ps.map zac.d))))),(3,vp 0 0),(4,.t (.c (.own 5 ((ps.take j)++[f.r]).length)))] [(0,.box ([.d (.raw (.int .i64 f.kind)),.d (.sl 3 (f.r.t.parts.map za4.d))]++zi f.r.t.k++[.d (.raw (.bool f.r.eq)),.d (.sl 6 (f.kids.map za1.d))])),(5,.row 57 4 (((ps.take j)++[f.r]).map zac.d))] h fun a w h=>?_)))))
  refine wp_ret (za8 ?_)
  replace h:=zgn 5 4 57 (((ps.take j)++[f.r]).map zac.d) [(0,.t (.c (.d (.sl 4 (ps.map zac.d))))),(3,vp 0 0),(4,.t (.c (.d (.sl 4 (((ps.take j)++[f.r]).map zac.d)))))] [(0,.box ([.d (.raw (.int .i64 f.kind)),.d (.sl 3 (f.r.t.parts.map za4.d))]++zi f.r.t.k++[.d (.raw (.bool f.r.eq)),.d (.sl 6 (f.kids.map za1.d))]))] h rfl (show zbt _ [((ps.take j)++[f.r]).length] from ⟨by first | exact (List.length_map _).symm | (simp;done) | (simp;omega),trivial⟩) trivial
  refine rT (.c (.d (.sl 4 (((ps.take j)++[f.r]).map zac.d)))) h rfl rfl ?_
  have hz:f.gathR ps=((ps.take j)++[f.r]):=(gathR_2n (by have:=hc1;simpa using this) (dF hc3)).trans (by rw [List.take_of_length_le (by omega)])
  rw [hz];first | done | rfl
 have hc6':=hc6;(try simp at hc6')
 refine wp_skip (za2 (wp_seq (rqk za0 6 [] [(0,.t (.c (.d (.sl 4 (ps.map zac.d))))),(3,vp 0 0),(4,.t (.c (.d (.raw zae)))),(7,vI 0)] h fun a w h=>?_)))
 refine wp_block ?_
 refine zau (ι:=(Nat)) (fun j=>j≤f.kids.length)
   (fun j=>[(0,.t (.c (.d (.sl 4 (((f.kids.take j).foldl (fun a g=>g.gathR a) ps).map zac.d))))),(3,vp 0 0),(4,.t (.c (.d (.raw zae)))),(7,vN j)])
   (fun j=>[(0,.box ([.d (.raw (.int .i64 f.kind)),.d (.sl 3 (f.r.t.parts.map za4.d))]++zi f.r.t.k++[.d (.raw (.bool f.r.eq)),.d (.sl 6 (f.kids.map za1.d))]))])
   (fun j=>f.kids.length - j) 0 ?_ h (by kernel_rfl) (by kernel_rfl) ?_
 ·exact Nat.zero_le _
 clear h;rintro j a w hI h
 have lfj:=foldGR_len (f.kids.take j) ps (fun g _=>gathR_len g)
 have ltj:=take_le f.kids j
 refine wp_seq (rqk za0 6 [(3,.len (za9 6 za1.d f.kids))] [(0,.t (.c (.d (.sl 4 (((f.kids.take j).foldl (fun a g=>g.gathR a) ps).map zac.d))))),(3,vp 0 0),(4,.t (.c (.d (.raw zae)))),(7,vN j),(40,vb (decide ((j:Int)<(f.kids.length:Int))))] h fun a w h=>?_)
 refine zam ((j:Int)<(f.kids.length:Int)) h rfl (fun hc7 hc7'=>?_) (fun hc8 hc8'=>?_)
 ·refine wp_skip (za2 (wp_seq (wp_block ?_)))
  obtain ⟨x3,hx3⟩:=gl f.kids j
  refine rnk za0 6 [(4,.g (xD 47 45 zhj ((zaf hx3 (f:=za1.d)).trans (congrArg some (za1.d_eq x3))) (OV.tmp 46 _))),(6,.call (ih x3 (lM hx3) ((f.kids.take j).foldl (fun a g=>g.gathR a) ps) (foldGR_tok _ (fun q hq=>za1.okA_mono (by decide) (by decide) _ (zdr hf (List.mem_of_mem_take hq))) ps hps.2) (by have:=zfk f.kids j hx3;omega)) lt20_12)] [(0,.t (.c (.d (.sl 4 ((za1.gathR x3 ((f.kids.take j).foldl (fun a g=>g.gathR a) ps)).map zac.d))))),(3,vp 0 0),(4,.t (.c (.d (.raw zae)))),(7,vN j)] h fun a w h=>?_
  refine zaa (za2 (rnk za0 6 [(1,.j1 j)] [(0,.t (.c (.d (.sl 4 ((za1.gathR x3 ((f.kids.take j).foldl (fun a g=>g.gathR a) ps)).map zac.d))))),(3,vp 0 0),(4,.t (.c (.d (.raw zae)))),(7,vI ((j:Int)+1))] h fun a w h=>?_))
  refine za2 ?_
  rw [show ((za1.gathR x3 ((f.kids.take j).foldl (fun a g=>g.gathR a) ps)):List zac)=((f.kids.take (j+1)).foldl (fun a g=>g.gathR a) ps) from (foldGR_at hx3).symm] at h
  refine zaj (x:=j) (y:=j+1) h ?_ ?_
  ·have:=zag hx3
   show j+1≤f.kids.length
   omega
  show f.kids.length - (j+1)<f.kids.length - j
  have:=zag hx3;omega
 refine wp_exit (zab (zab (za7 (za2 (rq za0 6 [] [(4,.t (.c (.d (.sl 4 (((f.kids.take j).foldl (fun a g=>g.gathR a) ps).map zac.d)))))] [] h fun a w h=>?_)))))
 refine wp_ret ?_
 refine rT (.c (.d (.sl 4 (((f.kids.take j).foldl (fun a g=>g.gathR a) ps).map zac.d)))) h rfl rfl ?_
 have hz:f.gathR ps=((f.kids.take j).foldl (fun a g=>g.gathR a) ps):=(gathR_k (by have:=hc6;simpa using this)).trans (by rw [List.take_of_length_le (by omega)])
 rw [hz];first | done | rfl
theorem zhu (f:za1):f.okA 200 2900→∀ ps:List zac,(∀ r ∈ ps,TOk 200 3000 r.t)→ps.length+f.nodes≤1000000→Fn Tryz.prog 21 [] [(vRs ps),(vF f)] (vRs (za1.gathR f ps)) [] :=
 za1.ind (P:=fun f=>f.okA 200 2900→∀ ps:List zac,(∀ r ∈ ps,TOk 200 3000 r.t)→ps.length+f.nodes≤1000000→Fn Tryz.prog 21 [] [(vRs ps),(vF f)] (vRs (za1.gathR f ps)) []) (fun k r ks ih hf ps hps hl=>LR21Gather0 ps ⟨k,r,ks⟩ (fun g hg=>ih g hg (zdr hf hg)) hf ⟨by omega,hps⟩ hl) f
theorem LR21known0 (f:za1) (ps:List zac) (bs:List Bool) (ih:∀ g ∈ f.kids,Fn Tryz.prog 36 [] [(vF g),(vRs ps),.t (.c (.d (.sl 1 (bs.map za5))))] (vb (za1.kn ps bs g)) []) (hf:f.okA 200 2900) (hps:ps.length≤1000000∧∀ p ∈ ps,TOk 200 3000 p.t) (_hb:bs.length≤9223372036854775807) (hn:f.nodes≤1000000):Fn Tryz.prog 36 [] [(vF f),(vRs ps),.t (.c (.d (.sl 1 (bs.map za5))))] (vb (za1.kn ps bs f)) []:=by
 have lkn:=ze9 f
 have lps:=hps.1
 refine Fn.body Tryz.func36 rfl 40 rfl fun w H B a h=>?_
 refine rq za0 0 [] [(1,(vRs ps)),(2,.t (.c (.d (.sl 1 (bs.map za5))))),(3,vp 0 0),(6,vb false)] [(0,.box (zF f))] h fun a w h=>?_
 refine wp_seq (rqk za0 1 [] [(1,(vRs ps)),(2,.t (.c (.d (.sl 1 (bs.map za5))))),(3,vp 0 0),(6,vb false),(11,vb (f.kind == 2))] h fun a w h=>?_)
 refine zah (f.kind == 2) h rfl (fun hc1=>?_) (fun hc4=>?_)
 ·have hc1':=hc1;(try simp at hc1')
  refine rqk za0 1 [(3,.call (Lplace ps f.r hps (zf3 hf (by first | exact hc1 | (have:=hc1;simpa using this)))) lt20_8)] [(1,(vRs ps)),(2,.t (.c (.d (.sl 1 (bs.map za5))))),(3,vp 0 0),(6,vb false),(7,vI (atR ps f.r))] h fun a w h=>?_
  rcases Bool.eq_false_or_eq_true (decide ((atR ps f.r)≥0)) with hc | hc
  ·have hc2:=hc;clear hc
   have hc2':=dT hc2
   refine rqk za0 1 [(1,.cmp (op:=.geq) (m:=(atR ps f.r)) (n:=0) (b:=true) .i64 hc2),(5,.len (za9 1 za5 bs))] [(1,(vRs ps)),(2,.t (.c (.d (.sl 1 (bs.map za5))))),(3,vp 0 0),(6,vb (decide ((atR ps f.r)<(bs.length:Int))))] h fun a w h=>?_
   refine wp_ret (za8 ?_)
   refine rT (.c (cB (decide ((atR ps f.r)<(bs.length:Int))))) h rfl rfl ?_
   have hz:f.kn ps bs=(decide ((atR ps f.r)<(bs.length:Int))):=by rw [kn_2 (by have:=hc1;simpa using this)];have h0:=dT hc2;exact decide_eq_decide.2 ⟨fun e=>e.2,fun e=>⟨h0,e⟩⟩
   rw [hz];first | done | rfl
  have hc3:=hc;clear hc
  have hc3':=dF hc3
  refine rqk za0 1 [(1,.cmp (op:=.geq) (m:=(atR ps f.r)) (n:=0) (b:=false) .i64 hc3)] [(1,(vRs ps)),(2,.t (.c (.d (.sl 1 (bs.map za5))))),(3,vp 0 0),(6,vb false)] h fun a w h=>?_
  refine wp_ret (za8 ?_)
  refine rT (.c (cB false)) h rfl rfl ?_
  have hz:f.kn ps bs=(false):=by rw [kn_2 (by have:=hc1;simpa using this)];exact decide_eq_false (fun e=>dF hc3 e.1)
  rw [hz];first | done | rfl
 have hc4':=hc4;(try simp at hc4')
 refine wp_skip (za2 (wp_seq (rqk za0 1 [] [(1,(vRs ps)),(2,.t (.c (.d (.sl 1 (bs.map za5))))),(3,vp 0 0),(6,vb false),(8,vI 0)] h fun a w h=>?_)))
 refine wp_block ?_
 refine zau (ι:=(Nat)) (fun j=>j≤f.kids.length∧(f.kids.take j).all (za1.kn ps bs)=true)
   (fun j=>[(1,(vRs ps)),(2,.t (.c (.d (.sl 1 (bs.map za5))))),(3,vp 0 0),(8,vN j)])
   (fun j=>[(0,.box (zF f))])
   (fun j=>f.kids.length - j) 0 ?_ h (by kernel_rfl) (by kernel_rfl) ?_
 ·exact ⟨Nat.zero_le _,rfl⟩
 clear h;rintro j a w hI h
 obtain ⟨hI1,hI2⟩:=hI
 refine wp_seq (rqk za0 1 [(3,.len (za9 6 za1.d f.kids))] [(1,(vRs ps)),(2,.t (.c (.d (.sl 1 (bs.map za5))))),(3,vp 0 0),(8,vN j),(28,vb (decide ((j:Int)<(f.kids.length:Int))))] h fun a w h=>?_)
 refine zam ((j:Int)<(f.kids.length:Int)) h rfl (fun hc5 hc5'=>?_) (fun hc8 hc8'=>?_)
 ·refine wp_skip (za2 (wp_seq (wp_block ?_)))
  obtain ⟨x2,hx2⟩:=gl f.kids j
  refine rqk za0 1 [(3,.g (xD 34 32 zhj ((zaf hx2 (f:=za1.d)).trans (congrArg some (za1.d_eq x2))) (OV.tmp 33 _))),(7,.call (ih x2 (lM hx2)) lt20_13)] [(1,(vRs ps)),(2,.t (.c (.d (.sl 1 (bs.map za5))))),(3,vp 0 0),(8,vN j),(39,vb (!(za1.kn ps bs x2)))] h fun a w h=>?_
  refine zah (!(za1.kn ps bs x2)) h rfl (fun hc6=>?_) (fun hc7=>?_)
  ·have hc6':=hc6;(try simp at hc6')
   refine rqk za0 1 [] [(1,(vRs ps)),(2,.t (.c (.d (.sl 1 (bs.map za5))))),(3,vp 0 0),(6,vb false),(8,vN j)] h fun a w h=>?_
   refine wp_ret (zad (za8 (za8 (zad (za8 ?_)))))
   refine rT (.c (cB false)) h rfl rfl ?_
   have hz:f.kn ps bs=false:=by rw [kn_k (by have:=hc4;simpa using this)];exact zbs hx2 (show (za1.kn ps bs x2)=false from by simpa using hc6)
   rw [hz];first | done | rfl
  have hc7':=hc7;(try simp at hc7')
  refine wp_skip (zaa (za2 (rnk za0 1 [(1,.j1 j)] [(1,(vRs ps)),(2,.t (.c (.d (.sl 1 (bs.map za5))))),(3,vp 0 0),(8,vI ((j:Int)+1))] h fun a w h=>?_)))
  refine za2 ?_
  refine zaj (x:=j) (y:=j+1) h ?_ ?_
  ·exact ⟨by have:=zag hx2;omega,zbi hx2 hI2 (show (za1.kn ps bs x2)=true from by simpa using hc7)⟩
  show f.kids.length - (j+1)<f.kids.length - j
  have:=zag hx2;omega
 refine wp_exit (zab (zab (za7 (za2 (rq za0 1 [] [(6,vb true)] [] h fun a w h=>?_)))))
 refine wp_ret ?_
 refine rT (.c (cB true)) h rfl rfl ?_
 have hz:f.kn ps bs=true:=by rw [kn_k (by have:=hc4;simpa using this)];exact zdf (by omega) hI2
 rw [hz];first | done | rfl
theorem LR21read0 (f:za1) (ps:List zac) (bs:List Bool) (ih:∀ g ∈ f.kids,g.kn ps bs=true→Fn Tryz.prog 37 [] [(vF g),(vRs ps),.t (.c (.d (.sl 1 (bs.map za5))))] (vb (za1.rd ps bs g)) []) (hf:f.okA 200 2900) (hps:ps.length≤1000000∧∀ p ∈ ps,TOk 200 3000 p.t) (_hb:bs.length≤9223372036854775807) (hn:f.nodes≤1000000) (hkn:f.kn ps bs=true):Fn Tryz.prog 37 [] [(vF f),(vRs ps),.t (.c (.d (.sl 1 (bs.map za5))))] (vb (za1.rd ps bs f)) []:=by
 have lkn:=ze9 f
 have lps:=hps.1
 refine Fn.body Tryz.func37 rfl 57 rfl fun w H B a h=>?_
 refine rq za0 0 [] [(1,(vRs ps)),(2,.t (.c (.d (.sl 1 (bs.map za5))))),(3,vp 0 0),(6,vb false)] [(0,.box (zF f))] h fun a w h=>?_
 refine wp_seq (rqk za0 1 [] [(1,(vRs ps)),(2,.t (.c (.d (.sl 1 (bs.map za5))))),(3,vp 0 0),(6,vb false),(10,vI f.kind)] h fun a w h=>?_)
 refine wp_block (rqk za0 1 [] [(1,(vRs ps)),(2,.t (.c (.d (.sl 1 (bs.map za5))))),(3,vp 0 0),(6,vb false),(10,vI f.kind),(11,vb (f.kind == 0))] h fun a w h=>?_)
 refine zah (f.kind == 0) h rfl (fun hc1=>?_) (fun hc2=>?_)
 ·have hc1':=hc1;(try simp at hc1')
  refine rq za0 1 [] [(6,vb true)] [] h fun a w h=>?_
  refine wp_ret (zad (za8 ?_))
  refine rT (.c (cB true)) h rfl rfl ?_
  have k0:f.kind=0:=by have:=hc1;simpa using this
  have hz:f.rd ps bs=true:=by rw [za1.rd_eq,if_pos (by omega)];skip
  rw [hz];first | done | rfl
 have hc2':=hc2;(try simp at hc2')
 refine rqk za0 1 [] [(1,(vRs ps)),(2,.t (.c (.d (.sl 1 (bs.map za5))))),(3,vp 0 0),(6,vb false),(10,vI f.kind),(13,vb (f.kind == 2))] h fun a w h=>?_
 refine zah (f.kind == 2) h rfl (fun hc3=>?_) (fun hc4=>?_)
 ·have hc3':=hc3;(try simp at hc3')
  obtain ⟨ki,hkki⟩:∃ k_:Nat,atR ps f.r=(k_:Int):=⟨_,(Int.toNat_of_nonneg (by rw [kn_2 (by have:=hc3;simpa using this)] at hkn;exact (dT hkn).1)).symm⟩
  have hkil:ki<bs.length:=by rw [kn_2 (by have:=hc3;simpa using this)] at hkn;have:=(dT hkn).2;omega
  obtain ⟨x2,hx2⟩:=gl bs ki
  refine rq za0 1 [(4,.call (Fn.cast (Lplace ps f.r hps (zf3 hf (by first | exact hc3 | (have:=hc3;simpa using this)))) (congrArg (vi .i64) hkki)) lt20_8),(5,.g (xD 20 15 zfu (zaf hx2 (f:=za5)) (OV.tmp 19 _)))] [(6,vb x2)] [] h fun a w h=>?_
  refine wp_ret (zad (za8 ?_))
  refine rT (.c (cB x2)) h rfl rfl ?_
  have k0:¬ f.kind=0:=by have:=hc2;simpa using this
  have k2:f.kind=2:=by have:=hc3;simpa using this
  have hz:f.rd ps bs=x2:=by rw [za1.rd_eq,if_neg (by omega),if_pos (by omega),hkki,Int.toNat_natCast,hx2];rfl
  rw [hz];first | done | rfl
 have hc4':=hc4;(try simp at hc4')
 refine rqk za0 1 [] [(1,(vRs ps)),(2,.t (.c (.d (.sl 1 (bs.map za5))))),(3,vp 0 0),(6,vb false),(10,vI f.kind),(22,vb (f.kind == 4))] h fun a w h=>?_
 refine zah (f.kind == 4) h rfl (fun hc5=>?_) (fun hc10=>?_)
 ·have hc5':=hc5;(try simp at hc5')
  refine wp_seq (rqk za0 1 [] [(1,(vRs ps)),(2,.t (.c (.d (.sl 1 (bs.map za5))))),(3,vp 0 0),(6,vb false),(7,vI 0)] h fun a w h=>?_)
  refine wp_block ?_
  refine zau (ι:=(Nat)) (fun j=>j≤f.kids.length∧(f.kids.take j).all (za1.rd ps bs)=true)
    (fun j=>[(1,(vRs ps)),(2,.t (.c (.d (.sl 1 (bs.map za5))))),(3,vp 0 0),(7,vN j)])
    (fun j=>[(0,.box (zF f))])
    (fun j=>f.kids.length - j) 0 ?_ h (by kernel_rfl) (by kernel_rfl) ?_
  ·exact ⟨Nat.zero_le _,rfl⟩
  clear h;rintro j a w hI h
  obtain ⟨hI1,hI2⟩:=hI
  refine wp_seq (rqk za0 1 [(3,.len (za9 6 za1.d f.kids))] [(1,(vRs ps)),(2,.t (.c (.d (.sl 1 (bs.map za5))))),(3,vp 0 0),(7,vN j),(28,vb (decide ((j:Int)<(f.kids.length:Int))))] h fun a w h=>?_)
  refine zam ((j:Int)<(f.kids.length:Int)) h rfl (fun hc6 hc6'=>?_) (fun hc9 hc9'=>?_)
  ·refine wp_skip (za2 (wp_seq (wp_block ?_)))
   obtain ⟨x3,hx3⟩:=gl f.kids j
   refine rqk za0 1 [(3,.g (xD 34 32 zhj ((zaf hx3 (f:=za1.d)).trans (congrArg some (za1.d_eq x3))) (OV.tmp 33 _))),(7,.call (ih x3 (lM hx3) (kn_kid hkn (by omega) (lM hx3))) lt20_14)] [(1,(vRs ps)),(2,.t (.c (.d (.sl 1 (bs.map za5))))),(3,vp 0 0),(7,vN j),(39,vb (!(za1.rd ps bs x3)))] h fun a w h=>?_
   refine zah (!(za1.rd ps bs x3)) h rfl (fun hc7=>?_) (fun hc8=>?_)
   ·have hc7':=hc7;(try simp at hc7')
    refine rqk za0 1 [] [(1,(vRs ps)),(2,.t (.c (.d (.sl 1 (bs.map za5))))),(3,vp 0 0),(6,vb false),(7,vN j)] h fun a w h=>?_
    refine wp_ret (zad (za8 (za8 (zad (za8 (zad (za8 ?_)))))))
    refine rT (.c (cB false)) h rfl rfl ?_
    have k0:¬ f.kind=0:=by have:=hc2;simpa using this
    have k2:¬ f.kind=2:=by have:=hc4;simpa using this
    have k4:f.kind=4:=by have:=hc5;simpa using this
    have hz:f.rd ps bs=false:=by rw [za1.rd_eq,if_neg (by omega),if_neg (by omega),if_pos (by omega)];exact zbs hx3 (show (za1.rd ps bs x3)=false from by simpa using hc7)
    rw [hz];first | done | rfl
   have hc8':=hc8;(try simp at hc8')
   refine wp_skip (zaa (za2 (rnk za0 1 [(1,.j1 j)] [(1,(vRs ps)),(2,.t (.c (.d (.sl 1 (bs.map za5))))),(3,vp 0 0),(7,vI ((j:Int)+1))] h fun a w h=>?_)))
   refine za2 ?_
   refine zaj (x:=j) (y:=j+1) h ?_ ?_
   ·exact ⟨by have:=zag hx3;omega,zbi hx3 hI2 (show (za1.rd ps bs x3)=true from by simpa using hc8)⟩
   show f.kids.length - (j+1)<f.kids.length - j
   have:=zag hx3;omega
  refine wp_exit (zab (zab (za7 (za2 (rq za0 1 [] [(6,vb true)] [] h fun a w h=>?_)))))
  refine wp_ret (zad (za8 ?_))
  refine rT (.c (cB true)) h rfl rfl ?_
  have k0:¬ f.kind=0:=by have:=hc2;simpa using this
  have k2:¬ f.kind=2:=by have:=hc4;simpa using this
  have k4:f.kind=4:=by have:=hc5;simpa using this
  have hz:f.rd ps bs=true:=by rw [za1.rd_eq,if_neg (by omega),if_neg (by omega),if_pos (by omega)];exact zdf (by omega) hI2
  rw [hz];first | done | rfl
 have hc10':=hc10;(try simp at hc10')
 refine rqk za0 1 [] [(1,(vRs ps)),(2,.t (.c (.d (.sl 1 (bs.map za5))))),(3,vp 0 0),(6,vb false),(40,vb (f.kind == 5))] h fun a w h=>?_
 refine zah (f.kind == 5) h rfl (fun hc11=>?_) (fun hc16=>?_)
 ·have hc11':=hc11;(try simp at hc11')
  refine rqk za0 1 [] [(1,(vRs ps)),(2,.t (.c (.d (.sl 1 (bs.map za5))))),(3,vp 0 0),(6,vb false),(8,vI 0)] h fun a w h=>?_
  refine wp_block ?_
  refine zau (ι:=(Nat)) (fun j=>j≤f.kids.length∧(f.kids.take j).any (za1.rd ps bs)=false)
    (fun j=>[(1,(vRs ps)),(2,.t (.c (.d (.sl 1 (bs.map za5))))),(3,vp 0 0),(8,vN j)])
    (fun j=>[(0,.box (zF f))])
    (fun j=>f.kids.length - j) 0 ?_ h (by kernel_rfl) (by kernel_rfl) ?_
  ·exact ⟨Nat.zero_le _,rfl⟩
  clear h;rintro j a w hI h
  obtain ⟨hI1,hI2⟩:=hI
  refine wp_seq (rqk za0 1 [(3,.len (za9 6 za1.d f.kids))] [(1,(vRs ps)),(2,.t (.c (.d (.sl 1 (bs.map za5))))),(3,vp 0 0),(8,vN j),(46,vb (decide ((j:Int)<(f.kids.length:Int))))] h fun a w h=>?_)
  refine zam ((j:Int)<(f.kids.length:Int)) h rfl (fun hc12 hc12'=>?_) (fun hc15 hc15'=>?_)
  ·refine wp_skip (za2 (wp_seq (wp_block ?_)))
   obtain ⟨x5,hx5⟩:=gl f.kids j
   refine rqk za0 1 [(3,.g (xD 52 50 zhj ((zaf hx5 (f:=za1.d)).trans (congrArg some (za1.d_eq x5))) (OV.tmp 51 _))),(7,.call (ih x5 (lM hx5) (kn_kid hkn (by omega) (lM hx5))) lt20_14)] [(1,(vRs ps)),(2,.t (.c (.d (.sl 1 (bs.map za5))))),(3,vp 0 0),(8,vN j),(56,vb (za1.rd ps bs x5))] h fun a w h=>?_
   refine zah (za1.rd ps bs x5) h rfl (fun hc13=>?_) (fun hc14=>?_)
   ·refine rqk za0 1 [] [(1,(vRs ps)),(2,.t (.c (.d (.sl 1 (bs.map za5))))),(3,vp 0 0),(6,vb true),(8,vN j)] h fun a w h=>?_
    refine wp_ret (zad (za8 (za8 (zad (zad (za8 ?_))))))
    refine rT (.c (cB true)) h rfl rfl ?_
    have k0:¬ f.kind=0:=by have:=hc2;simpa using this
    have k2:¬ f.kind=2:=by have:=hc4;simpa using this
    have k4:¬ f.kind=4:=by have:=hc10;simpa using this
    have k5:f.kind=5:=by have:=hc11;simpa using this
    have hz:f.rd ps bs=true:=by rw [za1.rd_eq,if_neg (by omega),if_neg (by omega),if_neg (by omega),if_pos (by omega)];exact any_stop hx5 hc13
    rw [hz];first | done | rfl
   refine wp_skip (zaa (za2 (rnk za0 1 [(1,.j1 j)] [(1,(vRs ps)),(2,.t (.c (.d (.sl 1 (bs.map za5))))),(3,vp 0 0),(8,vI ((j:Int)+1))] h fun a w h=>?_)))
   refine za2 ?_
   refine zaj (x:=j) (y:=j+1) h ?_ ?_
   ·exact ⟨by have:=zag hx5;omega,any_step hx5 hI2 hc14⟩
   show f.kids.length - (j+1)<f.kids.length - j
   have:=zag hx5;omega
  refine wp_exit (zab (zab (za7 (zaa (za2 (rq za0 1 [] [(6,vb false)] [] h fun a w h=>?_))))))
  refine wp_ret ?_
  refine rT (.c (cB false)) h rfl rfl ?_
  have k0:¬ f.kind=0:=by have:=hc2;simpa using this
  have k2:¬ f.kind=2:=by have:=hc4;simpa using this
  have k4:¬ f.kind=4:=by have:=hc10;simpa using this
  have k5:f.kind=5:=by have:=hc11;simpa using this
  have hz:f.rd ps bs=false:=by rw [za1.rd_eq,if_neg (by omega),if_neg (by omega),if_neg (by omega),if_pos (by omega)];exact any_end (by omega) hI2
  rw [hz];first | done | rfl
 have hc16':=hc16;(try simp at hc16')
 refine wp_skip (zaa (za2 (rq za0 1 [] [(6,vb false)] [] h fun a w h=>?_)))
 refine wp_ret ?_
 refine rT (.c (cB false)) h rfl rfl ?_
 have k0:¬ f.kind=0:=by have:=hc2;simpa using this
 have k2:¬ f.kind=2:=by have:=hc4;simpa using this
 have k4:¬ f.kind=4:=by have:=hc10;simpa using this
 have k5:¬ f.kind=5:=by have:=hc16;simpa using this
 have hz:f.rd ps bs=false:=by rw [za1.rd_eq,if_neg (by omega),if_neg (by omega),if_neg (by omega),if_neg (by omega)];skip
 rw [hz];first | done | rfl
theorem LR21known (ps:List zac) (bs:List Bool) (hps:ps.length≤1000000∧∀ p ∈ ps,TOk 200 3000 p.t) (hb:bs.length≤9223372036854775807) (f:za1):f.okA 200 2900→f.nodes≤1000000→Fn Tryz.prog 36 [] [(vF f),(vRs ps),.t (.c (.d (.sl 1 (bs.map za5))))] (vb (za1.kn ps bs f)) [] :=
 za1.ind (P:=fun f=>f.okA 200 2900→f.nodes≤1000000→Fn Tryz.prog 36 [] [(vF f),(vRs ps),.t (.c (.d (.sl 1 (bs.map za5))))] (vb (za1.kn ps bs f)) []) (fun k r ks ih hf hn=>LR21known0 ⟨k,r,ks⟩ ps bs (fun g hg=>ih g hg (zdr hf hg) (Nat.le_trans (zhi (f:=⟨k,r,ks⟩) hg) hn)) hf hps hb hn) f
theorem LR21read (ps:List zac) (bs:List Bool) (hps:ps.length≤1000000∧∀ p ∈ ps,TOk 200 3000 p.t) (hb:bs.length≤9223372036854775807) (f:za1):f.okA 200 2900→f.nodes≤1000000→f.kn ps bs=true→Fn Tryz.prog 37 [] [(vF f),(vRs ps),.t (.c (.d (.sl 1 (bs.map za5))))] (vb (za1.rd ps bs f)) [] :=
 za1.ind (P:=fun f=>f.okA 200 2900→f.nodes≤1000000→f.kn ps bs=true→Fn Tryz.prog 37 [] [(vF f),(vRs ps),.t (.c (.d (.sl 1 (bs.map za5))))] (vb (za1.rd ps bs f)) []) (fun k r ks ih hf hn=>LR21read0 ⟨k,r,ks⟩ ps bs (fun g hg=>ih g hg (zdr hf hg) (Nat.le_trans (zhi (f:=⟨k,r,ks⟩) hg) hn)) hf hps hb hn) f
end
section
open Go.RowKit

theorem lu21_2:za6 Tryz.prog 19:=za6.mk' (by kernel_rfl)
theorem lu21_10:ElZ Tryz.prog 77 27 2:=ElZ.mk' Tryz.underlying77 _ _ rfl rfl (by kernel_rfl) (by kernel_rfl) (by kernel_rfl) (by decide)
theorem lu21_14:za6 Tryz.prog 10:=za6.mk' (by kernel_rfl)
theorem zf8:za6 Tryz.prog 13:=za6.mk' (by kernel_rfl)
theorem lu21_17:za6 Tryz.prog 12:=za6.mk' (by kernel_rfl)
theorem lu21_18:za6 Tryz.prog 14:=za6.mk' (by kernel_rfl)
theorem lu21_19:za6 Tryz.prog 15:=za6.mk' (by kernel_rfl)
theorem lu21_27:za6 Tryz.prog 24:=za6.mk' (by kernel_rfl)
theorem LR21Base (props:List zai) (hpr:zfh props):Fn Tryz.prog 10 [] [.t (.c (.d (.sl 9 (props.map zai.d))))] (.tup [.c (cRs (zcw props).1),.c (cI (zcw props).2)]) []:=by
 have lpr:=hpr.1
 refine Fn.body Tryz.func10 rfl 31 rfl fun w H B a h=>?_
 refine rq za0 0 [] [(0,.t (.c (.d (.sl 9 (props.map zai.d))))),(2,.t (.c (.d (.raw zae)))),(3,vI 0)] [] h fun a w h=>?_
 refine rq za0 0 [(0,.g (Op.buildED (d:=6) kc_5))] [(0,.t (.c (.d (.sl 9 (props.map zai.d))))),(2,.t (.c (.d (.raw zae)))),(3,vI 0),(4,(vRs []))] [] h fun a w h=>?_
 refine wp_seq (rq za0 0 [] [(0,.t (.c (.d (.sl 9 (props.map zai.d))))),(2,.t (.c (.d (.raw zae)))),(3,vI 0),(4,(vRs [])),(5,vI 0)] [] h fun a w h=>?_)
 refine wp_block ?_
 refine zau (ι:=(Nat)) (fun j=>j≤props.length)
   (fun j=>[(0,.t (.c (.d (.sl 9 (props.map zai.d))))),(2,.t (.c (.d (.raw zae)))),(3,vI 0),(4,(vRs ((props.take j).foldl zal []))),(5,vN j)])
   (fun j=>[])
   (fun j=>props.length - j) 0 ?_ h (by kernel_rfl) (by kernel_rfl) ?_
 ·exact Nat.zero_le _
 clear h;rintro j a w hI h
 obtain ⟨hb1,hb2⟩:=base_ok hpr j
 refine wp_seq (rq za0 0 [(2,.len (za9 9 zai.d props))] [(0,.t (.c (.d (.sl 9 (props.map zai.d))))),(2,.t (.c (.d (.raw zae)))),(3,vI 0),(4,(vRs ((props.take j).foldl zal []))),(5,vN j),(10,vb (decide ((j:Int)<(props.length:Int))))] [] h fun a w h=>?_)
 refine zam ((j:Int)<(props.length:Int)) h rfl (fun hc1 hc1'=>?_) (fun hc4 hc4'=>?_)
 ·refine wp_skip (za2 (wp_seq (wp_block ?_)))
  obtain ⟨x1,hx1⟩:=gl props j
  refine rq za0 0 [(2,.g (xD 15 13 li9_5 (zaf hx1 (f:=zai.d)) (OV.tmp 14 _)))] [(0,.t (.c (.d (.sl 9 (props.map zai.d))))),(2,.t (.c (.d (.raw zae)))),(3,vI 0),(4,(vRs ((props.take j).foldl zal []))),(5,vN j),(18,vb (!x1.at_))] [] h fun a w h=>?_
  refine zah (!x1.at_) h rfl (fun hc2=>?_) (fun hc3=>?_)
  ·have hc2':=hc2;(try simp at hc2')
   refine rn za0 0 [(3,.g (xD 22 20 li9_5 (zaf hx1 (f:=zai.d)) (OV.tmp 21 _))),(6,.call (LR5Flat x1.f (za1.okB_mono (by decide) (by decide) _ (hpr.2 x1 (lM hx1) (by have:=(show (x1.at_)=false from by simpa using hc2);simpa using this)).1) (Nat.le_trans (hpr.2 x1 (lM hx1) (by have:=(show (x1.at_)=false from by simpa using hc2);simpa using this)).2 (by decide))) lu21_2),(7,.call (Fn.cast (zhu (za1.flat x1.f false) (zay (hpr.2 x1 (lM hx1) (by have:=(show (x1.at_)=false from by simpa using hc2);simpa using this))).1 ((props.take j).foldl zal []) hb2 (by have:=(zay (hpr.2 x1 (lM hx1) (by have:=(show (x1.at_)=false from by simpa using hc2);simpa using this))).2;omega)) (show ((vRs (za1.gathR (za1.flat x1.f false) ((props.take j).foldl zal []))):V)=(vRs (za1.gath (za1.flat x1.f false) ((props.take j).foldl zal []))) from by rw [zhm _ (zgd _ _)])) lt20_12)] [(0,.t (.c (.d (.sl 9 (props.map zai.d))))),(2,.t (.c (.d (.raw zae)))),(3,vI 0),(4,(vRs (za1.gath (za1.flat x1.f false) ((props.take j).foldl zal [])))),(5,vN j)] [] h fun a w h=>?_
   refine zaa (za2 (rn za0 0 [(1,.j1 j)] [(0,.t (.c (.d (.sl 9 (props.map zai.d))))),(2,.t (.c (.d (.raw zae)))),(3,vI 0),(4,(vRs (za1.gath (za1.flat x1.f false) ((props.take j).foldl zal [])))),(5,vI ((j:Int)+1))] [] h fun a w h=>?_))
   refine za2 ?_
   rw [show ((za1.gath (za1.flat x1.f false) ((props.take j).foldl zal [])):List zac)=((props.take (j+1)).foldl zal []) from (by rw [zeq hx1];unfold zal;rw [if_neg (by rw [show x1.at_=false from (by have:=(show (x1.at_)=false from by simpa using hc2);simpa using this)];exact Bool.noConfusion)])] at h
   refine zaj (x:=j) (y:=j+1) h ?_ ?_
   ·have:=zag hx1
    show j+1≤props.length
    omega
   show props.length - (j+1)<props.length - j
   have:=zag hx1;omega
  have hc3':=hc3;(try simp at hc3')
  refine wp_skip (zaa (za2 (rn za0 0 [(1,.j1 j)] [(0,.t (.c (.d (.sl 9 (props.map zai.d))))),(2,.t (.c (.d (.raw zae)))),(3,vI 0),(4,(vRs ((props.take j).foldl zal []))),(5,vI ((j:Int)+1))] [] h fun a w h=>?_)))
  refine za2 ?_
  rw [show (((props.take j).foldl zal []):List zac)=((props.take (j+1)).foldl zal []) from (by rw [zeq hx1];unfold zal;rw [if_pos (by have:=(show (x1.at_)=true from by simpa using hc3);simpa using this)])] at h
  refine zaj (x:=j) (y:=j+1) h ?_ ?_
  ·have:=zag hx1
   show j+1≤props.length
   omega
  show props.length - (j+1)<props.length - j
  have:=zag hx1;omega
 refine wp_exit (zab (zab (za7 (za2 (wp_seq (rq za0 0 [(1,.len (za9 4 zac.d ((props.take j).foldl zal [])))] [(2,.t (.c (.d (.raw zae)))),(3,vI 0),(4,(vRs ((props.take j).foldl zal []))),(29,vb (decide ((((props.take j).foldl zal []).length:Int)>24)))] [] h fun a w h=>?_))))))
 refine zam ((((props.take j).foldl zal []).length:Int)>24) h rfl (fun hc5 hc5'=>?_) (fun hc6 hc6'=>?_)
 ·refine rq za0 0 [] [(2,.t (.c (.d (.raw zae)))),(3,vI 3),(4,(vRs ((props.take j).foldl zal [])))] [] h fun a w h=>?_
  refine wp_ret (za8 ?_)
  replace h:=nilDSs 2 0 4 (.t (.c (.d (.raw zae)))) [(2,(vRs [])),(3,vI 3),(4,(vRs ((props.take j).foldl zal [])))] [] h rfl rfl
  refine zd0 [.c (cRs []),.c (cI 3)] h Exit.ret (.inl rfl)  rfl ⟨RV.tmp _ _ rfl,RV.tmp _ _ rfl,trivial⟩ ?_
  have hz:zde props=((props.take j).foldl zal []):=by unfold zde;rw [List.take_of_length_le (by omega)]
  have hz2:zcw props=([],3):=by unfold zcw;rw [hz,if_pos (by have:=dT hc5;omega)]
  rw [hz2];first | done | rfl
 refine wp_skip (za2 (rq za0 0 [] [(2,(vRs ((props.take j).foldl zal []))),(3,vI 0)] [] h fun a w h=>?_))
 refine wp_ret ?_
 refine zd0 [.c (cRs ((props.take j).foldl zal [])),.c (cI 0)] h Exit.ret (.inl rfl)  rfl ⟨RV.tmp _ _ rfl,RV.tmp _ _ rfl,trivial⟩ ?_
 have hz:zde props=((props.take j).foldl zal []):=by unfold zde;rw [List.take_of_length_le (by omega)]
 have hz2:zcw props=(((props.take j).foldl zal []),0):=by unfold zcw;rw [hz,if_neg (by have:=dF hc6;omega)]
 rw [hz2];first | done | rfl
theorem LR21Letter (props:List zai) (ps:List zac) (a_:zcx) (hpr:zfh props) (hps:ps.length≤1000000∧∀ p ∈ ps,TOk 200 3000 p.t) (ha:a_.locs.length≤9223372036854775807∧a_.bits.length≤9223372036854775807):Fn Tryz.prog 12 [] [.t (.c (.d (.sl 9 (props.map zai.d)))),(vRs ps),.t (.agg [cIs a_.locs,.d (.sl 1 (a_.bits.map za5))])] (.tup [.c (.d (.sl 1 ((zan props ps a_).1.map za5))),.c (cB (zan props ps a_).2)]) []:=by
 have lpr:=hpr.1
 have la1:=ha.1
 refine Fn.body Tryz.func12 rfl 68 rfl fun w H B a h=>?_
 refine rq za0 20 [] [(0,.t (.c (.d (.sl 9 (props.map zai.d))))),(1,(vRs ps)),(5,vp 20 0),(6,.t (.c (.d (.raw zae)))),(7,vb false)] [(20,.box [cIs a_.locs,.d (.sl 1 (a_.bits.map za5))])] h fun a w h=>?_
 refine rq za0 21 [(0,.g (Op.buildE (d:=12) (n:=21) zfv))] [(0,.t (.c (.d (.sl 9 (props.map zai.d))))),(1,(vRs ps)),(5,vp 20 0),(6,.t (.c (.d (.raw zae)))),(7,vb false),(8,.t (.c (.own 21 0)))] [(20,.box [cIs a_.locs,.d (.sl 1 (a_.bits.map za5))]),(21,.row 4 1 ([].map za5))] h fun a w h=>?_
 refine wp_seq (rqk za0 22 [] [(0,.t (.c (.d (.sl 9 (props.map zai.d))))),(1,(vRs ps)),(5,vp 20 0),(6,.t (.c (.d (.raw zae)))),(7,vb false),(8,.t (.c (.own 21 0))),(9,vI 0)] h fun a w h=>?_)
 refine wp_block ?_
 replace h:=zev 6 0 22 1 4 (.t (.c (.d (.raw zae)))) [(0,.t (.c (.d (.sl 9 (props.map zai.d))))),(1,(vRs ps)),(5,vp 20 0),(6,.t (.c (.own 22 0))),(7,vb false),(8,.t (.c (.own 21 0))),(9,vI 0)] [(20,.box [cIs a_.locs,.d (.sl 1 (a_.bits.map za5))]),(21,.row 4 1 ([].map za5)),(22,.row 4 1 ([].map za5))] h (by kernel_rfl) rfl rfl
 refine zau (ι:=(Nat)) (fun j=>j≤props.length∧(props.take j).all (fun p=>(zaq ps a_ p).2)=true)
   (fun j=>[(0,.t (.c (.d (.sl 9 (props.map zai.d))))),(1,(vRs ps)),(5,vp 20 0),(8,.t (.c (.own 21 ((props.take j).map (fun p=>(zaq ps a_ p).1)).length))),(9,vN j)])
   (fun j=>[(20,.box [cIs a_.locs,.d (.sl 1 (a_.bits.map za5))]),(21,.row 4 1 (((props.take j).map (fun p=>(zaq ps a_ p).1)).map za5)),(22,.row 4 1 (((props.take 0).map (fun p=>(zaq ps a_ p).1)).map za5))])
   (fun j=>props.length - j) 0 ?_ h (by kernel_rfl) (by kernel_rfl) ?_
 ·exact ⟨Nat.zero_le _,rfl⟩
 clear h;rintro j a w hI h
 obtain ⟨hI1,hI2⟩:=hI
 have llj:((props.take j).map (fun p=>(zaq ps a_ p).1)).length≤j:=by rw [List.length_map,List.length_take];omega
 refine wp_seq (rqk za0 23 [(2,.len (za9 9 zai.d props))] [(0,.t (.c (.d (.sl 9 (props.map zai.d))))),(1,(vRs ps)),(5,vp 20 0),(8,.t (.c (.own 21 ((props.take j).map (fun p=>(zaq ps a_ p).1)).length))),(9,vN j),(16,vb (decide ((j:Int)<(props.length:Int))))] h fun a w h=>?_)
 refine zam ((j:Int)<(props.length:Int)) h rfl (fun hc1 hc1'=>?_) (fun hc10 hc10'=>?_)
 ·refine wp_skip (za2 (wp_seq (wp_block ?_)))
  obtain ⟨x1,hx1⟩:=gl props j
  refine rq za0 23 [(2,.g (xD 21 19 li9_5 (zaf hx1 (f:=zai.d)) (OV.tmp 20 _)))] [(0,.t (.c (.d (.sl 9 (props.map zai.d))))),(1,(vRs ps)),(5,vp 20 0),(8,.t (.c (.own 21 ((props.take j).map (fun p=>(zaq ps a_ p).1)).length))),(9,vN j),(10,vp 23 0)] [(20,.box [cIs a_.locs,.d (.sl 1 (a_.bits.map za5))]),(21,.row 4 1 (((props.take j).map (fun p=>(zaq ps a_ p).1)).map za5)),(22,.row 4 1 (((props.take 0).map (fun p=>(zaq ps a_ p).1)).map za5)),(23,.box ([cB x1.at_,cI x1.proc,cI x1.loc,cI x1.f.kind,cPs x1.f.r.t.parts]++zi x1.f.r.t.k++[cB x1.f.r.eq,cFs x1.f.kids]))] h fun a w h=>?_
  refine wp_seq (rqk za0 24 [] [(0,.t (.c (.d (.sl 9 (props.map zai.d))))),(1,(vRs ps)),(5,vp 20 0),(8,.t (.c (.own 21 ((props.take j).map (fun p=>(zaq ps a_ p).1)).length))),(9,vN j),(10,vp 23 0),(24,vb x1.at_)] h fun a w h=>?_)
  refine zah x1.at_ h rfl (fun hc2=>?_) (fun hc7=>?_)
  ·rcases Bool.eq_false_or_eq_true (decide (x1.proc≥0)) with hc | hc
   ·have hc3:=hc;clear hc
    have hc3':=dT hc3
    rcases Bool.eq_false_or_eq_true (decide (x1.proc<(a_.locs.length:Int))) with hc | hc
    ·have hc4:=hc;clear hc
     have hc4':=dT hc4
     obtain ⟨kp,hkkp⟩:∃ k_:Nat,x1.proc=(k_:Int):=⟨_,(Int.toNat_of_nonneg (by have:=dT hc3;omega)).symm⟩
     replace h:=h.conv (f':=F.of [(0,.t (.c (.d (.sl 9 (props.map zai.d))))),(1,(vRs ps)),(5,vp 20 0),(8,.t (.c (.own 21 ((props.take j).map (fun p=>(zaq ps a_ p).1)).length))),(9,vN j),(10,vp 23 0),(24,vb x1.at_)] [(20,.box [cIs a_.locs,.d (.sl 1 (a_.bits.map za5))]),(21,.row 4 1 (((props.take j).map (fun p=>(zaq ps a_ p).1)).map za5)),(22,.row 4 1 (((props.take 0).map (fun p=>(zaq ps a_ p).1)).map za5)),(23,.box ([cB x1.at_,cI (kp:Int),cI x1.loc,cI x1.f.kind,cPs x1.f.r.t.parts]++zi x1.f.r.t.k++[cB x1.f.r.eq,cFs x1.f.kids]))]) (by rw [hkkp])
     obtain ⟨x2,hx2⟩:=gl a_.locs kp
     refine rq za0 24 [(3,.cmp (op:=.geq) (m:=(kp:Int)) (n:=0) (b:=true) .i64 (show (decide ((kp:Int)≥0))=true from by rw [← hkkp];exact hc3)),(9,.len (za9 1 zaw a_.locs)),(10,.cmp (op:=.lss) (m:=(kp:Int)) (n:=(a_.locs.length:Int)) (b:=true) .i64 (show (decide ((kp:Int)<(a_.locs.length:Int)))=true from by rw [← hkkp];exact hc4)),(17,.g (xD 42 39 zig (zaf hx2 (f:=zaw)) (OV.tmp 41 _))),(23,.g (Op.buildO (d:=48) (n:=24) (len:=1) (rows:=[x2 == x1.loc].map za5) (rs:=[(47,vb (x2 == x1.loc))]) zfv (.cons (i:=0) (OV.tmp 47 _) (.nil)) (by kernel_rfl) rfl (by simp [za5]) (by decide) (by decide))),(24,.g (Op.appOO (d:=49) (t:=25) (u:=48) (n:=21) (sn:=24) (n':=25) (len:=((props.take j).map (fun p=>(zaq ps a_ p).1)).length) (len2:=1) (len':=(((props.take j).map (fun p=>(zaq ps a_ p).1))++[x2 == x1.loc]).length) (rows:=((props.take j).map (fun p=>(zaq ps a_ p).1)).map za5) (rows2:=[x2 == x1.loc].map za5) (rows':=(((props.take j).map (fun p=>(zaq ps a_ p).1))++[x2 == x1.loc]).map za5) zhh (by first | exact (List.length_map _).symm | simp) (by first | exact (List.length_map _).symm | simp) (by first | (rw [List.length_append,List.length_map];done) | simp) (by simp) (by first | omega | (simp at *;done) | (simp at *;omega))))] [(0,.t (.c (.d (.sl 9 (props.map zai.d))))),(1,(vRs ps)),(5,vp 20 0),(8,.t (.c (.own 25 (((props.take j).map (fun p=>(zaq ps a_ p).1))++[x2 == x1.loc]).length))),(9,vN j),(10,vp 23 0)] [(20,.box [cIs a_.locs,.d (.sl 1 (a_.bits.map za5))]),(22,.row 4 1 (((props.take 0).map (fun p=>(zaq ps a_ p).1)).map za5)),(23,.box ([cB x1.at_,cI (kp:Int),cI x1.loc,cI x1.f.kind,cPs x1.f.r.t.parts]++zi x1.f.r.t.k++[cB x1.f.r.eq,cFs x1.f.kids])),(25,.row 4 1 ((((props.take j).map (fun p=>(zaq ps a_ p).1))++[x2 == x1.loc]).map za5))] h fun a w h=>?_
     refine wp_exit (zab (za7 (za2 (rn za0 26 [(1,.j1 j)] [(0,.t (.c (.d (.sl 9 (props.map zai.d))))),(1,(vRs ps)),(5,vp 20 0),(8,.t (.c (.own 25 (((props.take j).map (fun p=>(zaq ps a_ p).1))++[x2 == x1.loc]).length))),(9,vI ((j:Int)+1))] [(20,.box [cIs a_.locs,.d (.sl 1 (a_.bits.map za5))]),(22,.row 4 1 (((props.take 0).map (fun p=>(zaq ps a_ p).1)).map za5)),(25,.row 4 1 ((((props.take j).map (fun p=>(zaq ps a_ p).1))++[x2 == x1.loc]).map za5))] h fun a w h=>?_))))
     refine za2 ?_
     have hla:zaq ps a_ x1=(x2 == x1.loc,true):=by rw [zgc hc2,locB_at hkkp hx2]
     rw [show ((((props.take j).map (fun p=>(zaq ps a_ p).1))++[x2 == x1.loc]):List Bool)=((props.take (j+1)).map (fun p=>(zaq ps a_ p).1)) from (by rw [← zbn (f:=(fun p=>(zaq ps a_ p).1)) hx1];congr 2;rw [hla])] at h
     replace h:=zbz 25 21 [(0,.t (.c (.d (.sl 9 (props.map zai.d))))),(1,(vRs ps)),(5,vp 20 0),(8,.t (.c (.own 21 ((props.take (j+1)).map (fun p=>(zaq ps a_ p).1)).length))),(9,vI ((j:Int)+1))] [(20,.box [cIs a_.locs,.d (.sl 1 (a_.bits.map za5))]),(22,.row 4 1 (((props.take 0).map (fun p=>(zaq ps a_ p).1)).map za5)),(21,.row 4 1 (((props.take (j+1)).map (fun p=>(zaq ps a_ p).1)).map za5))] h
     refine zaj (x:=j) (y:=j+1) h ?_ ?_
     ·have:=zag hx1
      exact ⟨by omega,zbi hx1 hI2 (show (zaq ps a_ x1).2=true from by rw [hla])⟩
     show props.length - (j+1)<props.length - j
     have:=zag hx1;omega
    have hc5:=hc;clear hc
    have hc5':=dF hc5
    refine rq za0 26 [(3,.cmp (op:=.geq) (m:=x1.proc) (n:=0) (b:=true) .i64 hc3),(9,.len (za9 1 zaw a_.locs)),(10,.cmp (op:=.lss) (m:=x1.proc) (n:=(a_.locs.length:Int)) (b:=false) .i64 hc5),(23,.g (Op.buildO (d:=48) (n:=26) (len:=1) (rows:=[false].map za5) (rs:=[(47,vb false)]) zfv (.cons (i:=0) (OV.tmp 47 _) (.nil)) (by kernel_rfl) rfl (by simp [za5]) (by decide) (by decide))),(24,.g (Op.appOO (d:=49) (t:=25) (u:=48) (n:=21) (sn:=26) (n':=27) (len:=((props.take j).map (fun p=>(zaq ps a_ p).1)).length) (len2:=1) (len':=(((props.take j).map (fun p=>(zaq ps a_ p).1))++[false]).length) (rows:=((props.take j).map (fun p=>(zaq ps a_ p).1)).map za5) (rows2:=[false].map za5) (rows':=(((props.take j).map (fun p=>(zaq ps a_ p).1))++[false]).map za5) zhh (by first | exact (List.length_map _).symm | simp) (by first | exact (List.length_map _).symm | simp) (by first | (rw [List.length_append,List.length_map];done) | simp) (by simp) (by first | omega | (simp at *;done) | (simp at *;omega))))] [(0,.t (.c (.d (.sl 9 (props.map zai.d))))),(1,(vRs ps)),(5,vp 20 0),(8,.t (.c (.own 27 (((props.take j).map (fun p=>(zaq ps a_ p).1))++[false]).length))),(9,vN j),(10,vp 23 0)] [(20,.box [cIs a_.locs,.d (.sl 1 (a_.bits.map za5))]),(22,.row 4 1 (((props.take 0).map (fun p=>(zaq ps a_ p).1)).map za5)),(23,.box ([cB x1.at_,cI x1.proc,cI x1.loc,cI x1.f.kind,cPs x1.f.r.t.parts]++zi x1.f.r.t.k++[cB x1.f.r.eq,cFs x1.f.kids])),(27,.row 4 1 ((((props.take j).map (fun p=>(zaq ps a_ p).1))++[false]).map za5))] h fun a w h=>?_
    refine wp_exit (zab (za7 (za2 (rn za0 28 [(1,.j1 j)] [(0,.t (.c (.d (.sl 9 (props.map zai.d))))),(1,(vRs ps)),(5,vp 20 0),(8,.t (.c (.own 27 (((props.take j).map (fun p=>(zaq ps a_ p).1))++[false]).length))),(9,vI ((j:Int)+1))] [(20,.box [cIs a_.locs,.d (.sl 1 (a_.bits.map za5))]),(22,.row 4 1 (((props.take 0).map (fun p=>(zaq ps a_ p).1)).map za5)),(27,.row 4 1 ((((props.take j).map (fun p=>(zaq ps a_ p).1))++[false]).map za5))] h fun a w h=>?_))))
    refine za2 ?_
    have hla:zaq ps a_ x1=(false,true):=by rw [zgc hc2,locB_no (.inr (by have:=dF hc5;omega))]
    rw [show ((((props.take j).map (fun p=>(zaq ps a_ p).1))++[false]):List Bool)=((props.take (j+1)).map (fun p=>(zaq ps a_ p).1)) from (by rw [← zbn (f:=(fun p=>(zaq ps a_ p).1)) hx1];congr 2;rw [hla])] at h
    replace h:=zbz 27 21 [(0,.t (.c (.d (.sl 9 (props.map zai.d))))),(1,(vRs ps)),(5,vp 20 0),(8,.t (.c (.own 21 ((props.take (j+1)).map (fun p=>(zaq ps a_ p).1)).length))),(9,vI ((j:Int)+1))] [(20,.box [cIs a_.locs,.d (.sl 1 (a_.bits.map za5))]),(22,.row 4 1 (((props.take 0).map (fun p=>(zaq ps a_ p).1)).map za5)),(21,.row 4 1 (((props.take (j+1)).map (fun p=>(zaq ps a_ p).1)).map za5))] h
    refine zaj (x:=j) (y:=j+1) h ?_ ?_
    ·have:=zag hx1
     exact ⟨by omega,zbi hx1 hI2 (show (zaq ps a_ x1).2=true from by rw [hla])⟩
    show props.length - (j+1)<props.length - j
    have:=zag hx1;omega
   have hc6:=hc;clear hc
   have hc6':=dF hc6
   refine rq za0 28 [(3,.cmp (op:=.geq) (m:=x1.proc) (n:=0) (b:=false) .i64 hc6),(23,.g (Op.buildO (d:=48) (n:=28) (len:=1) (rows:=[false].map za5) (rs:=[(47,vb false)]) zfv (.cons (i:=0) (OV.tmp 47 _) (.nil)) (by kernel_rfl) rfl (by simp [za5]) (by decide) (by decide))),(24,.g (Op.appOO (d:=49) (t:=25) (u:=48) (n:=21) (sn:=28) (n':=29) (len:=((props.take j).map (fun p=>(zaq ps a_ p).1)).length) (len2:=1) (len':=(((props.take j).map (fun p=>(zaq ps a_ p).1))++[false]).length) (rows:=((props.take j).map (fun p=>(zaq ps a_ p).1)).map za5) (rows2:=[false].map za5) (rows':=(((props.take j).map (fun p=>(zaq ps a_ p).1))++[false]).map za5) zhh (by first | exact (List.length_map _).symm | simp) (by first | exact (List.length_map _).symm | simp) (by first | (rw [List.length_append,List.length_map];done) | simp) (by simp) (by first | omega | (simp at *;done) | (simp at *;omega))))] [(0,.t (.c (.d (.sl 9 (props.map zai.d))))),(1,(vRs ps)),(5,vp 20 0),(8,.t (.c (.own 29 (((props.take j).map (fun p=>(zaq ps a_ p).1))++[false]).length))),(9,vN j),(10,vp 23 0)] [(20,.box [cIs a_.locs,.d (.sl 1 (a_.bits.map za5))]),(22,.row 4 1 (((props.take 0).map (fun p=>(zaq ps a_ p).1)).map za5)),(23,.box ([cB x1.at_,cI x1.proc,cI x1.loc,cI x1.f.kind,cPs x1.f.r.t.parts]++zi x1.f.r.t.k++[cB x1.f.r.eq,cFs x1.f.kids])),(29,.row 4 1 ((((props.take j).map (fun p=>(zaq ps a_ p).1))++[false]).map za5))] h fun a w h=>?_
   refine wp_exit (zab (za7 (za2 (rn za0 30 [(1,.j1 j)] [(0,.t (.c (.d (.sl 9 (props.map zai.d))))),(1,(vRs ps)),(5,vp 20 0),(8,.t (.c (.own 29 (((props.take j).map (fun p=>(zaq ps a_ p).1))++[false]).length))),(9,vI ((j:Int)+1))] [(20,.box [cIs a_.locs,.d (.sl 1 (a_.bits.map za5))]),(22,.row 4 1 (((props.take 0).map (fun p=>(zaq ps a_ p).1)).map za5)),(29,.row 4 1 ((((props.take j).map (fun p=>(zaq ps a_ p).1))++[false]).map za5))] h fun a w h=>?_))))
   refine za2 ?_
   have hla:zaq ps a_ x1=(false,true):=by rw [zgc hc2,locB_no (.inl (by have:=dF hc6;omega))]
   rw [show ((((props.take j).map (fun p=>(zaq ps a_ p).1))++[false]):List Bool)=((props.take (j+1)).map (fun p=>(zaq ps a_ p).1)) from (by rw [← zbn (f:=(fun p=>(zaq ps a_ p).1)) hx1];congr 2;rw [hla])] at h
   replace h:=zbz 29 21 [(0,.t (.c (.d (.sl 9 (props.map zai.d))))),(1,(vRs ps)),(5,vp 20 0),(8,.t (.c (.own 21 ((props.take (j+1)).map (fun p=>(zaq ps a_ p).1)).length))),(9,vI ((j:Int)+1))] [(20,.box [cIs a_.locs,.d (.sl 1 (a_.bits.map za5))]),(22,.row 4 1 (((props.take 0).map (fun p=>(zaq ps a_ p).1)).map za5)),(21,.row 4 1 (((props.take (j+1)).map (fun p=>(zaq ps a_ p).1)).map za5))] h
   refine zaj (x:=j) (y:=j+1) h ?_ ?_
   ·have:=zag hx1
    exact ⟨by omega,zbi hx1 hI2 (show (zaq ps a_ x1).2=true from by rw [hla])⟩
   show props.length - (j+1)<props.length - j
   have:=zag hx1;omega
  refine wp_skip (za2 (rq za0 30 [(2,.call (LR5Flat x1.f (za1.okB_mono (by decide) (by decide) _ (hpr.2 x1 (lM hx1) (by have:=hc7;simpa using this)).1) (Nat.le_trans (hpr.2 x1 (lM hx1) (by have:=hc7;simpa using this)).2 (by decide))) lu21_2)] [(0,.t (.c (.d (.sl 9 (props.map zai.d))))),(1,(vRs ps)),(5,vp 20 0),(8,.t (.c (.own 21 ((props.take j).map (fun p=>(zaq ps a_ p).1)).length))),(9,vN j),(11,vp 30 0)] [(20,.box [cIs a_.locs,.d (.sl 1 (a_.bits.map za5))]),(21,.row 4 1 (((props.take j).map (fun p=>(zaq ps a_ p).1)).map za5)),(22,.row 4 1 (((props.take 0).map (fun p=>(zaq ps a_ p).1)).map za5)),(30,.box (zF (za1.flat x1.f false)))] h fun a w h=>?_))
  refine wp_seq (rqk za0 31 [(4,.call (Fn.cast (LR21known ps a_.bits hps ha.2 (za1.flat x1.f false) (zay (hpr.2 x1 (lM hx1) (by have:=hc7;simpa using this))).1 (Nat.le_trans (zay (hpr.2 x1 (lM hx1) (by have:=hc7;simpa using this))).2 (by decide))) (show (vb (za1.kn ps a_.bits (za1.flat x1.f false)):V)=vb (za1.tru ps a_.bits (za1.flat x1.f false)).2 from congrArg vb (tru_kn _ (flat_fl _ _) (zgd _ _)).1.symm)) lt20_13)] [(0,.t (.c (.d (.sl 9 (props.map zai.d))))),(1,(vRs ps)),(5,vp 20 0),(8,.t (.c (.own 21 ((props.take j).map (fun p=>(zaq ps a_ p).1)).length))),(9,vN j),(11,vp 30 0),(58,vb (!(za1.tru ps a_.bits (za1.flat x1.f false)).2))] h fun a w h=>?_)
  refine zah (!(za1.tru ps a_.bits (za1.flat x1.f false)).2) h rfl (fun hc8=>?_) (fun hc9=>?_)
  ·have hc8':=hc8;(try simp at hc8')
   refine rqk za0 31 [] [(0,.t (.c (.d (.sl 9 (props.map zai.d))))),(1,(vRs ps)),(5,vp 20 0),(6,.t (.c (.d (.raw zae)))),(7,vb false),(8,.t (.c (.own 21 ((props.take j).map (fun p=>(zaq ps a_ p).1)).length))),(9,vN j),(11,vp 30 0)] h fun a w h=>?_
   refine wp_ret (za8 (zad (za8 (za8 (zad (za8 ?_))))))
   replace h:=nilDSs 6 0 1 (.t (.c (.d (.raw zae)))) [(0,.t (.c (.d (.sl 9 (props.map zai.d))))),(1,(vRs ps)),(5,vp 20 0),(6,.t (.c (.d (.sl 1 ([].map za5))))),(7,vb false),(8,.t (.c (.own 21 ((props.take j).map (fun p=>(zaq ps a_ p).1)).length))),(9,vN j),(11,vp 30 0)] [(20,.box [cIs a_.locs,.d (.sl 1 (a_.bits.map za5))]),(21,.row 4 1 (((props.take j).map (fun p=>(zaq ps a_ p).1)).map za5)),(22,.row 4 1 (((props.take 0).map (fun p=>(zaq ps a_ p).1)).map za5)),(30,.box (zF (za1.flat x1.f false)))] h rfl rfl
   refine zd0 [.c (.d (.sl 1 ([].map za5))),.c (cB false)] h Exit.ret (.inl rfl)  rfl ⟨RV.tmp _ _ rfl,RV.tmp _ _ rfl,trivial⟩ ?_
   have hz:zan props ps a_=([],false):=by unfold zan;rw [zbs hx1 (show (zaq ps a_ x1).2=false from by rw [zg1 hc7];have:=hc8;simpa using this)];rfl
   rw [hz];first | done | rfl
  have hc9':=hc9;(try simp at hc9')
  refine wp_skip (za2 (rn za0 31 [(5,.call (Fn.cast (LR21read ps a_.bits hps ha.2 (za1.flat x1.f false) (zay (hpr.2 x1 (lM hx1) (by have:=hc7;simpa using this))).1 (Nat.le_trans (zay (hpr.2 x1 (lM hx1) (by have:=hc7;simpa using this))).2 (by decide)) ((tru_kn _ (flat_fl _ _) (zgd _ _)).1.symm.trans (by have:=hc9;simpa using this))) (show (vb (za1.rd ps a_.bits (za1.flat x1.f false)):V)=vb (za1.tru ps a_.bits (za1.flat x1.f false)).1 from congrArg vb ((tru_kn _ (flat_fl _ _) (zgd _ _)).2 ((tru_kn _ (flat_fl _ _) (zgd _ _)).1.symm.trans (by have:=hc9;simpa using this))).symm)) lt20_14),(6,.g (Op.buildO (d:=65) (n:=31) (len:=1) (rows:=[(za1.tru ps a_.bits (za1.flat x1.f false)).1].map za5) (rs:=[(64,vb (za1.tru ps a_.bits (za1.flat x1.f false)).1)]) zfv (.cons (i:=0) (OV.tmp 64 _) (.nil)) (by kernel_rfl) rfl (by simp [za5]) (by decide) (by decide))),(7,.g (Op.appOO (d:=66) (t:=59) (u:=65) (n:=21) (sn:=31) (n':=32) (len:=((props.take j).map (fun p=>(zaq ps a_ p).1)).length) (len2:=1) (len':=(((props.take j).map (fun p=>(zaq ps a_ p).1))++[(za1.tru ps a_.bits (za1.flat x1.f false)).1]).length) (rows:=((props.take j).map (fun p=>(zaq ps a_ p).1)).map za5) (rows2:=[(za1.tru ps a_.bits (za1.flat x1.f false)).1].map za5) (rows':=(((props.take j).map (fun p=>(zaq ps a_ p).1))++[(za1.tru ps a_.bits (za1.flat x1.f false)).1]).map za5) zhh (by first | exact (List.length_map _).symm | simp) (by first | exact (List.length_map _).symm | simp) (by first | (rw [List.length_append,List.length_map];done) | simp) (by simp) (by first | omega | (simp at *;done) | (simp at *;omega))))] [(0,.t (.c (.d (.sl 9 (props.map zai.d))))),(1,(vRs ps)),(5,vp 20 0),(8,.t (.c (.own 32 (((props.take j).map (fun p=>(zaq ps a_ p).1))++[(za1.tru ps a_.bits (za1.flat x1.f false)).1]).length))),(9,vN j)] [(20,.box [cIs a_.locs,.d (.sl 1 (a_.bits.map za5))]),(22,.row 4 1 (((props.take 0).map (fun p=>(zaq ps a_ p).1)).map za5)),(32,.row 4 1 ((((props.take j).map (fun p=>(zaq ps a_ p).1))++[(za1.tru ps a_.bits (za1.flat x1.f false)).1]).map za5))] h fun a w h=>?_))
  refine zaa (za2 (rnk za0 33 [(1,.j1 j)] [(0,.t (.c (.d (.sl 9 (props.map zai.d))))),(1,(vRs ps)),(5,vp 20 0),(8,.t (.c (.own 32 (((props.take j).map (fun p=>(zaq ps a_ p).1))++[(za1.tru ps a_.bits (za1.flat x1.f false)).1]).length))),(9,vI ((j:Int)+1))] h fun a w h=>?_))
  refine za2 ?_
  have hla:zaq ps a_ x1=((za1.tru ps a_.bits (za1.flat x1.f false)).1,((za1.flat x1.f false).tru ps a_.bits).2):=zg1 hc7
  rw [show ((((props.take j).map (fun p=>(zaq ps a_ p).1))++[(za1.tru ps a_.bits (za1.flat x1.f false)).1]):List Bool)=((props.take (j+1)).map (fun p=>(zaq ps a_ p).1)) from (by rw [← zbn (f:=(fun p=>(zaq ps a_ p).1)) hx1];congr 2;rw [hla])] at h
  replace h:=zbz 32 21 [(0,.t (.c (.d (.sl 9 (props.map zai.d))))),(1,(vRs ps)),(5,vp 20 0),(8,.t (.c (.own 21 ((props.take (j+1)).map (fun p=>(zaq ps a_ p).1)).length))),(9,vI ((j:Int)+1))] [(20,.box [cIs a_.locs,.d (.sl 1 (a_.bits.map za5))]),(22,.row 4 1 (((props.take 0).map (fun p=>(zaq ps a_ p).1)).map za5)),(21,.row 4 1 (((props.take (j+1)).map (fun p=>(zaq ps a_ p).1)).map za5))] h
  refine zaj (x:=j) (y:=j+1) h ?_ ?_
  ·have:=zag hx1
   exact ⟨by omega,zbi hx1 hI2 (show (zaq ps a_ x1).2=true from by rw [hla];have:=hc9;simpa using this)⟩
  show props.length - (j+1)<props.length - j
  have:=zag hx1;omega
 refine wp_exit (zab (zab (za7 (za2 (rq za0 33 [] [(6,.t (.c (.own 21 ((props.take j).map (fun p=>(zaq ps a_ p).1)).length))),(7,vb true)] [(21,.row 4 1 (((props.take j).map (fun p=>(zaq ps a_ p).1)).map za5))] h fun a w h=>?_)))))
 refine wp_ret ?_
 replace h:=zgn 21 1 4 (((props.take j).map (fun p=>(zaq ps a_ p).1)).map za5) [(6,.t (.c (.d (.sl 1 (((props.take j).map (fun p=>(zaq ps a_ p).1)).map za5))))),(7,vb true)] [] h rfl (show zbt _ [((props.take j).map (fun p=>(zaq ps a_ p).1)).length] from ⟨by first | exact (List.length_map _).symm | (simp;done) | (simp;omega),trivial⟩) trivial
 refine zd0 [.c (.d (.sl 1 (((props.take j).map (fun p=>(zaq ps a_ p).1)).map za5))),.c (cB true)] h Exit.ret (.inl rfl)  rfl ⟨RV.tmp _ _ rfl,RV.tmp _ _ rfl,trivial⟩ ?_
 have hz:zan props ps a_=(((props.take j).map (fun p=>(zaq ps a_ p).1)),true):=by unfold zan;rw [if_pos (zdf (by omega) hI2),List.take_of_length_le (by omega)]
 rw [hz];first | done | rfl
theorem few21_rels {props:List zai} {ps:List zac} {xs:List zcx} (h:zfw props ps xs=true) (hl:∀ r ∈ ps,TLb r.t):ps.length≤1000∧∀ r ∈ ps,TOk 20 3 r.t:=by
 unfold zfw at h
 simp only [Bool.and_eq_true] at h
 have h2:=h.2.2.2
 unfold zem at h2
 rw [Bool.and_eq_true,decide_eq_true_eq,List.all_eq_true] at h2
 exact ⟨by omega,fun r hr=>(show TOk 20 3 r.t from fewR_ok (L:=3) (h2.2 r hr) (hl r hr))⟩
theorem LAbstrTells (props:List zai) (ps:List zac) (a_ b_:zcx) (x:StD) (hpl:∀ p ∈ props,p.f.lb) (hlp:props.length≤9223372036854775807) (hql:∀ r ∈ ps,TLb r.t) (hlq:ps.length≤9223372036854775807) (ha:a_.locs.length≤9223372036854775807∧a_.bits.length≤9223372036854775807) (hb:b_.locs.length≤9223372036854775807∧b_.bits.length≤9223372036854775807) (hxr:StRd x):Fn Tryz.prog 3 [] [.t (.c (.d (.sl 9 (props.map zai.d)))),(vRs ps),.t (.agg [cIs a_.locs,.d (.sl 1 (a_.bits.map za5))]),.t (.agg [cIs b_.locs,.d (.sl 1 (b_.bits.map za5))]),.t (.agg [cIs x.locs,cZs x.vals])] (vb true) []:=by
 refine Fn.body Tryz.func3 rfl 151 rfl fun w H B a h=>?_
 refine rq za0 0 [] [(0,.t (.c (.d (.sl 9 (props.map zai.d))))),(1,(vRs ps)),(7,vp 0 0),(8,vp 1 0),(9,vp 2 0),(10,vb false)] [(0,.box [cIs a_.locs,.d (.sl 1 (a_.bits.map za5))]),(1,.box [cIs b_.locs,.d (.sl 1 (b_.bits.map za5))]),(2,.box [cIs x.locs,cZs x.vals])] h fun a w h=>?_
 refine wp_seq (rqk za0 3 [(0,.call (Ltelling) lo15_0)] [(0,.t (.c (.d (.sl 9 (props.map zai.d))))),(1,(vRs ps)),(7,vp 0 0),(8,vp 1 0),(9,vp 2 0),(10,vb false),(27,vb false)] h fun a w h=>?_)
 refine zah false h rfl nofun (fun _=>?_)
 refine wp_skip (za2 (wp_seq ?_))
 rcases Bool.eq_false_or_eq_true (zfw props ps [a_,b_]) with hc | hc
 ·have hc1:=hc;clear hc
  refine rqk za0 3 [(4,.g (Op.buildD (d:=32) (len:=2) (rows:=[a_,b_].map zcx.d) (rs:=[(30,.t (.agg [cIs a_.locs,.d (.sl 1 (a_.bits.map za5))])),(31,.t (.agg [cIs b_.locs,.d (.sl 1 (b_.bits.map za5))]))]) lu21_10 (.cons (i:=0) (OV.tmp 30 _) (.cons (i:=1) (OV.tmp 31 _) (.nil))) (by kernel_rfl) rfl (by simp [zcx.d]) (by decide) (by decide))),(5,.call (Fn.cast (LfewA props ps [a_,b_] hpl hlp hlq (show List.length _≤9223372036854775807 from by simp)) (congrArg vb hc1)) lo15_1),(9,.call (SFewSt x 3 hxr) lo15_2)] [(0,.t (.c (.d (.sl 9 (props.map zai.d))))),(1,(vRs ps)),(7,vp 0 0),(8,vp 1 0),(9,vp 2 0),(10,vb false),(39,vb (!(zgz 3 x)))] h fun a w h=>?_
  refine zah (!(zgz 3 x)) h rfl (fun hc2=>?_) (fun hc3=>?_)
  ·have hc2':=hc2;(try simp at hc2')
   refine rqk za0 3 [] [(0,.t (.c (.d (.sl 9 (props.map zai.d))))),(1,(vRs ps)),(7,vp 0 0),(8,vp 1 0),(9,vp 2 0),(10,vb true)] h fun a w h=>?_
   refine wp_ret (za8 ?_)
   refine rT (.c (cB true)) h rfl rfl ?_
   rfl
  have hc3':=hc3;(try simp at hc3')
  refine wp_skip (za2 ?_)
  have hfp:=few21_props hc1 hpl
  have hpr:zfh props:=props_ok hfp
  have hx:StOk 10 x:=(few_st (show (zgz 3 x)=true from by simpa using hc3) hxr).mono (by decide)
  obtain ⟨hpw,hpt⟩:=few21_rels hc1 hql
  have hpw0:PsOkW ps:=⟨hpw,fun r hr=>(hpt r hr).mono (by decide) (by decide)⟩
  have hla:=letterA_len props ps a_
  rcases Bool.eq_false_or_eq_true (decide ((zde props).length>24)) with hc | hc
  ·have hc4:=hc;clear hc
   have hc4':=dT hc4
   refine rqk za0 3 [(1,.call (Fn.cast (LBase props hpr) (show (.tup [.c (cRs (zcw props).1),.c (cI (zcw props).2)]:V) = .tup [.c (cRs ([]:List zac)),.c (cI 3)] from by unfold zcw;rw [if_pos (dT hc4)])) lm13_7)] [(0,.t (.c (.d (.sl 9 (props.map zai.d))))),(1,(vRs ps)),(7,vp 0 0),(8,vp 1 0),(9,vp 2 0),(10,vb false),(11,(vRs ([]:List zac))),(12,vI 3)] h fun a w h=>?_
   refine rqk za0 3 [(1,.call (Fn.cast (LR21Base props hpr) (show (.tup [.c (cRs (zcw props).1),.c (cI (zcw props).2)]:V) = .tup [.c (cRs ([]:List zac)),.c (cI 3)] from by unfold zcw;rw [if_pos (dT hc4)])) lu21_14)] [(0,.t (.c (.d (.sl 9 (props.map zai.d))))),(1,(vRs ps)),(7,vp 0 0),(8,vp 1 0),(9,vp 2 0),(10,vb false),(11,(vRs ([]:List zac))),(12,vI 3),(13,(vRs ([]:List zac))),(14,vI 3)] h fun a w h=>?_
   refine rqk za0 3 [(3,.call (LLetter props ps a_ hpr ⟨by omega,fun r hr=>(hpt r hr).mono (by decide) (by decide)⟩ ha) lm13_8)] [(0,.t (.c (.d (.sl 9 (props.map zai.d))))),(1,(vRs ps)),(7,vp 0 0),(8,vp 1 0),(9,vp 2 0),(10,vb false),(11,(vRs ([]:List zac))),(12,vI 3),(13,(vRs ([]:List zac))),(14,vI 3),(15,.t (.c (.d (.sl 1 ((zan props ps a_).1.map za5))))),(16,vb (zan props ps a_).2)] h fun a w h=>?_
   refine rqk za0 3 [(3,.call (Las a_) zf8),(4,.call (LR21Letter props ps a_ hpr ⟨by omega,fun r hr=>(hpt r hr).mono (by decide) (by decide)⟩ ha) lu21_17)] [(0,.t (.c (.d (.sl 9 (props.map zai.d))))),(1,(vRs ps)),(7,vp 0 0),(8,vp 1 0),(9,vp 2 0),(10,vb false),(11,(vRs ([]:List zac))),(12,vI 3),(13,(vRs ([]:List zac))),(14,vI 3),(15,.t (.c (.d (.sl 1 ((zan props ps a_).1.map za5))))),(16,vb (zan props ps a_).2),(17,.t (.c (.d (.sl 1 ((zan props ps a_).1.map za5))))),(18,vb (zan props ps a_).2)] h fun a w h=>?_
   refine rqk za0 3 [(1,.call (Las a_) zf8),(3,.call (Las b_) zf8),(4,.call (LR21Cmp a_ b_ ha hb) lu21_18)] [(0,.t (.c (.d (.sl 9 (props.map zai.d))))),(1,(vRs ps)),(7,vp 0 0),(8,vp 1 0),(9,vp 2 0),(10,vb false),(11,(vRs ([]:List zac))),(12,vI 3),(13,(vRs ([]:List zac))),(14,vI 3),(15,.t (.c (.d (.sl 1 ((zan props ps a_).1.map za5))))),(16,vb (zan props ps a_).2),(17,.t (.c (.d (.sl 1 ((zan props ps a_).1.map za5))))),(18,vb (zan props ps a_).2),(19,vI (zdk a_ b_))] h fun a w h=>?_
   refine wp_seq (rq za0 3 [(2,.cmp (op:=.neq) (m:=3) (n:=3) (b:=false) .i64 rfl),(6,.call (SRSameAll2 (rs:=([]:List zac)) (qs:=([]:List zac)) rfl (fun r hr=>by cases hr) (by decide)) lu21_19),(12,.cmpb .neq (m:=(zan props ps a_).2) (n:=(zan props ps a_).2) (b:=false) (.inr ⟨rfl,(bne_self_eq_false _).symm⟩)),(17,.call (Fn.cast (LSameBits (zan props ps a_).1 (zan props ps a_).1 (by omega) (by omega)) (show (vb (decide ((zan props ps a_).1=(zan props ps a_).1)):V)=vb true from by rw [decide_eq_true rfl])) lq17_14),(23,.call (LCmpA a_ b_ ha hb) lf6_13),(25,.cmp (op:=.neq) (m:=(zdk a_ b_)) (n:=(zdk a_ b_)) (b:=false) .i64 (bne_self_eq_false _)),(30,.call (LSameA a_ b_ ha hb) lm13_13),(33,.cmpb .neq (m:=((zdk a_ b_) == 0)) (n:=((zdk a_ b_) == 0)) (b:=false) (.inr ⟨rfl,(bne_self_eq_false _).symm⟩))] [(0,.t (.c (.d (.sl 9 (props.map zai.d))))),(1,(vRs ps)),(9,vp 2 0),(10,vb false),(104,vb false)] [(2,.box [cIs x.locs,cZs x.vals])] h fun a w h=>?_)
   refine zah false h rfl nofun (fun _=>?_)
   refine wp_skip (za2 (wp_seq (rqk za0 3 [(1,.len (za9 9 zai.d props))] [(1,(vRs ps)),(9,vp 2 0),(10,vb false),(105,.t (.c (.d (.sl 9 (props.map zai.d))))),(106,vN props.length),(107,vI 0)] h fun a w h=>?_)))
   refine wp_block ?_
   refine zau (ι:=(Nat)) (fun j=>j≤props.length)
     (fun j=>[(1,(vRs ps)),(9,vp 2 0),(105,.t (.c (.d (.sl 9 (props.map zai.d))))),(106,vN props.length),(107,vN j)])
     (fun j=>[(2,.box [cIs x.locs,cZs x.vals])])
     (fun j=>props.length - j) 0 ?_ h (by kernel_rfl) (by kernel_rfl) ?_
   ·exact Nat.zero_le _
   clear h;rintro j a w hI h
   refine rqk za0 3 [] [(1,(vRs ps)),(9,vp 2 0),(105,.t (.c (.d (.sl 9 (props.map zai.d))))),(106,vN props.length),(107,vN j),(108,vb (decide ((j:Int)<(props.length:Int))))] h fun a w h=>?_
   refine wp_seq ?_
   refine zam ((j:Int)<(props.length:Int)) h rfl (fun hc5 hc5'=>?_) (fun hc8 hc8'=>?_)
   ·refine wp_skip (za2 (wp_seq (wp_block ?_)))
    obtain ⟨x18,hx18⟩:=gl props j
    refine rq za0 3 [(0,.g (xD 109 105 li9_5 (zaf hx18 (f:=zai.d)) (OV.tmp 107 _)))] [(1,(vRs ps)),(9,vp 2 0),(21,vp 3 0),(105,.t (.c (.d (.sl 9 (props.map zai.d))))),(106,vN props.length),(107,vN j)] [(2,.box [cIs x.locs,cZs x.vals]),(3,.box ([cB x18.at_,cI x18.proc,cI x18.loc,cI x18.f.kind,cPs x18.f.r.t.parts]++zi x18.f.r.t.k++[cB x18.f.r.eq,cFs x18.f.kids]))] h fun a w h=>?_
    refine rq za0 4 [(2,.call (LR5Flat x18.f (za1.okB_mono (by decide) (by decide) _ (hfp.2 x18 (lM hx18)).1) (Nat.le_trans (hfp.2 x18 (lM hx18)).2 (by decide))) lu21_2)] [(1,(vRs ps)),(9,vp 2 0),(22,vp 4 0),(105,.t (.c (.d (.sl 9 (props.map zai.d))))),(106,vN props.length),(107,vN j)] [(2,.box [cIs x.locs,cZs x.vals]),(4,.box (zF (za1.flat x18.f false)))] h fun a w h=>?_
    have hgl:(za1.gath (za1.flat x18.f false) ps).length≤1000000:=by have:=zis (za1.flat x18.f false) ps;have:=(zay ⟨za1.okB_mono (by decide) (by decide) _ (hfp.2 x18 (lM hx18)).1,Nat.le_trans (hfp.2 x18 (lM hx18)).2 (by decide)⟩).2;omega
    have hgt:∀ r ∈ (za1.gath (za1.flat x18.f false) ps),TOk 200 3000 r.t:=zip (zay ⟨za1.okB_mono (by decide) (by decide) _ (hfp.2 x18 (lM hx18)).1,Nat.le_trans (hfp.2 x18 (lM hx18)).2 (by decide)⟩).1 (fun r hr=>(hpt r hr).mono (by decide) (by decide))
    refine rq za0 5 [(2,.call (Fn.cast (LGather ps (za1.flat x18.f false) (fun r hr=>(hpt r hr).mono (by decide) (by decide)) (zay ⟨za1.okB_mono (by decide) (by decide) _ (hfp.2 x18 (lM hx18)).1,Nat.le_trans (hfp.2 x18 (lM hx18)).2 (by decide)⟩).1 (by have:=(zay ⟨za1.okB_mono (by decide) (by decide) _ (hfp.2 x18 (lM hx18)).1,Nat.le_trans (hfp.2 x18 (lM hx18)).2 (by decide)⟩).2;omega)) (show ((vRs (zgv ps (za1.flat x18.f false))):V)=(vRs ((za1.gath (za1.flat x18.f false) ps).map cpR)) from by unfold zgv;rw [gath_cp])) lm13_15),(5,.call (Fn.cast (zhu (za1.flat x18.f false) (zay ⟨za1.okB_mono (by decide) (by decide) _ (hfp.2 x18 (lM hx18)).1,Nat.le_trans (hfp.2 x18 (lM hx18)).2 (by decide)⟩).1 ps (fun r hr=>(hpt r hr).mono (by decide) (by decide)) (by have:=(zay ⟨za1.okB_mono (by decide) (by decide) _ (hfp.2 x18 (lM hx18)).1,Nat.le_trans (hfp.2 x18 (lM hx18)).2 (by decide)⟩).2;omega)) (show ((vRs (za1.gathR (za1.flat x18.f false) ps)):V)=(vRs (za1.gath (za1.flat x18.f false) ps)) from by rw [zhm _ (zgd _ _)])) lt20_12)] [(1,(vRs ps)),(9,vp 2 0),(23,(vRs ((za1.gath (za1.flat x18.f false) ps).map cpR))),(24,(vRs (za1.gath (za1.flat x18.f false) ps))),(105,.t (.c (.d (.sl 9 (props.map zai.d))))),(106,vN props.length),(107,vN j)] [(2,.box [cIs x.locs,cZs x.vals])] h fun a w h=>?_
    refine wp_seq (rqk za0 5 [(1,.len (za9 4 zac.d ((za1.gath (za1.flat x18.f false) ps).map cpR))),(3,.len (za9 4 zac.d (za1.gath (za1.flat x18.f false) ps))),(4,.cmp (op:=.neq) (m:=(((za1.gath (za1.flat x18.f false) ps).map cpR).length:Int)) (n:=((za1.gath (za1.flat x18.f false) ps).length:Int)) (b:=false) .i64 (show ((((za1.gath (za1.flat x18.f false) ps).map cpR).length:Int) != ((za1.gath (za1.flat x18.f false) ps).length:Int))=false from by rw [List.length_map];exact bne_self_eq_false _))] [(1,(vRs ps)),(9,vp 2 0),(23,(vRs ((za1.gath (za1.flat x18.f false) ps).map cpR))),(24,(vRs (za1.gath (za1.flat x18.f false) ps))),(105,.t (.c (.d (.sl 9 (props.map zai.d))))),(106,vN props.length),(107,vN j),(124,vb false)] h fun a w h=>?_)
    refine zah false h rfl nofun (fun _=>?_)
    refine wp_skip (za2 (rqk za0 5 [(1,.len (za9 4 zac.d ((za1.gath (za1.flat x18.f false) ps).map cpR)))] [(1,(vRs ps)),(9,vp 2 0),(23,(vRs ((za1.gath (za1.flat x18.f false) ps).map cpR))),(24,(vRs (za1.gath (za1.flat x18.f false) ps))),(105,.t (.c (.d (.sl 9 (props.map zai.d))))),(106,vN props.length),(107,vN j),(126,vI (((za1.gath (za1.flat x18.f false) ps).map cpR).length:Int)),(127,vI 0)] h fun a w h=>?_))
    refine wp_block ?_
    refine zau (ι:=(Nat)) (fun i=>i≤(za1.gath (za1.flat x18.f false) ps).length)
      (fun i=>[(1,(vRs ps)),(9,vp 2 0),(23,(vRs ((za1.gath (za1.flat x18.f false) ps).map cpR))),(24,(vRs (za1.gath (za1.flat x18.f false) ps))),(105,.t (.c (.d (.sl 9 (props.map zai.d))))),(106,vN props.length),(107,vN j),(126,vI (((za1.gath (za1.flat x18.f false) ps).map cpR).length:Int)),(127,vN i)])
      (fun i=>[(2,.box [cIs x.locs,cZs x.vals])])
      (fun i=>(za1.gath (za1.flat x18.f false) ps).length - i) 0 ?_ h (by kernel_rfl) (by kernel_rfl) ?_
    ·exact Nat.zero_le _
    clear h;rintro i a w hI h
    have lgm:((za1.gath (za1.flat x18.f false) ps).map cpR).length=(za1.gath (za1.flat x18.f false) ps).length:=List.length_map _
    refine rqk za0 5 [] [(1,(vRs ps)),(9,vp 2 0),(23,(vRs ((za1.gath (za1.flat x18.f false) ps).map cpR))),(24,(vRs (za1.gath (za1.flat x18.f false) ps))),(105,.t (.c (.d (.sl 9 (props.map zai.d))))),(106,vN props.length),(107,vN j),(126,vI (((za1.gath (za1.flat x18.f false) ps).map cpR).length:Int)),(127,vN i),(128,vb (decide ((i:Int)<(((za1.gath (za1.flat x18.f false) ps).map cpR).length:Int))))] h fun a w h=>?_
    refine wp_seq ?_
    refine zam ((i:Int)<(((za1.gath (za1.flat x18.f false) ps).map cpR).length:Int)) h rfl (fun hc6 hc6'=>?_) (fun hc7 hc7'=>?_)
    ·refine wp_skip (za2 (wp_seq (wp_block (rqk za0 5 [] [(1,(vRs ps)),(9,vp 2 0),(23,(vRs ((za1.gath (za1.flat x18.f false) ps).map cpR))),(24,(vRs (za1.gath (za1.flat x18.f false) ps))),(25,vN i),(105,.t (.c (.d (.sl 9 (props.map zai.d))))),(106,vN props.length),(107,vN j),(126,vI (((za1.gath (za1.flat x18.f false) ps).map cpR).length:Int)),(127,vN i)] h fun a w h=>?_))))
     obtain ⟨x22,hx22⟩:=gl (za1.gath (za1.flat x18.f false) ps) i
     refine rqk za0 5 [(2,.g (xD 132 130 kc_3 (zaf (show (((za1.gath (za1.flat x18.f false) ps).map cpR))[i]?=some (cpR x22) from by rw [List.getElem?_map,hx22];rfl) (f:=zac.d)) (OV.tmp 131 _))),(6,.g (xD 136 134 kc_3 (zaf hx22 (f:=zac.d)) (OV.tmp 135 _))),(8,.call (Fn.cast (LR4Cmp (cpR x22) x22 (((hgt x22 (lM hx22)).plain (by decide)).mono (by decide) (by decide)) ((hgt x22 (lM hx22)).mono (by decide) (by decide))) (congrArg (vi .i64) (cmpRl_cp x22))) lt20_7),(9,.cmp (op:=.neq) (m:=0) (n:=0) (b:=false) .i64 rfl)] [(1,(vRs ps)),(9,vp 2 0),(23,(vRs ((za1.gath (za1.flat x18.f false) ps).map cpR))),(24,(vRs (za1.gath (za1.flat x18.f false) ps))),(105,.t (.c (.d (.sl 9 (props.map zai.d))))),(106,vN props.length),(107,vN j),(126,vI (((za1.gath (za1.flat x18.f false) ps).map cpR).length:Int)),(127,vN i),(139,vb false)] h fun a w h=>?_
     refine zah false h rfl nofun (fun _=>?_)
     refine wp_skip (zaa (za2 (rnk za0 5 [(0,.j1 i)] [(1,(vRs ps)),(9,vp 2 0),(23,(vRs ((za1.gath (za1.flat x18.f false) ps).map cpR))),(24,(vRs (za1.gath (za1.flat x18.f false) ps))),(105,.t (.c (.d (.sl 9 (props.map zai.d))))),(106,vN props.length),(107,vN j),(126,vI (((za1.gath (za1.flat x18.f false) ps).map cpR).length:Int)),(127,vI ((i:Int)+1))] h fun a w h=>?_)))
     refine za2 ?_
     refine zaj (x:=i) (y:=i+1) h ?_ ?_
     ·have:=zag hx22
      show i+1≤(za1.gath (za1.flat x18.f false) ps).length
      omega
     show (za1.gath (za1.flat x18.f false) ps).length - (i+1)<(za1.gath (za1.flat x18.f false) ps).length - i
     have:=zag hx22;omega
    refine wp_exit (zab (zab (za7 (zaa (za2 (rnk za0 5 [(0,.j1 j)] [(1,(vRs ps)),(9,vp 2 0),(105,.t (.c (.d (.sl 9 (props.map zai.d))))),(106,vN props.length),(107,vI ((j:Int)+1))] h fun a w h=>?_))))))
    refine za2 ?_
    refine zaj (x:=j) (y:=j+1) h ?_ ?_
    ·have:=zag hx18
     show j+1≤props.length
     omega
    show props.length - (j+1)<props.length - j
    have:=zag hx18;omega
   refine wp_exit (zab (zab (za7 (za2 ?_))))
   have hoa:(ofA ps x).locs.length≤9223372036854775807∧(ofA ps x).bits.length≤9223372036854775807:=⟨by show x.locs.length≤_;have:=hx.locs;omega,by show (ps.map _).length≤_;rw [List.length_map];omega⟩
   refine rq za0 5 [(2,.call (LabsOfW ps x hpw0 hx) lm13_5),(3,.call (Las (ofA ps x)) zf8),(6,.call (LR21Of ps x hpw0 hx) lu21_27),(7,.call (Fn.cast (LR21Cmp (ofA ps x) (ofA ps x) hoa hoa) (congrArg (vi .i64) (cmpA_self _))) lu21_18),(8,.cmp (op:=.eql) (m:=0) (n:=0) (b:=true) .i64 rfl)] [(10,vb true)] [] h fun a w h=>?_
   refine wp_ret ?_
   refine rT (.c (cB true)) h rfl rfl ?_
   rfl
  have hc9:=hc;clear hc
  have hc9':=dF hc9
  refine rqk za0 5 [(1,.call (Fn.cast (LBase props hpr) (show (.tup [.c (cRs (zcw props).1),.c (cI (zcw props).2)]:V) = .tup [.c (cRs (zde props)),.c (cI 0)] from by unfold zcw;rw [if_neg (dF hc9)])) lm13_7)] [(0,.t (.c (.d (.sl 9 (props.map zai.d))))),(1,(vRs ps)),(7,vp 0 0),(8,vp 1 0),(9,vp 2 0),(10,vb false),(11,(vRs (zde props))),(12,vI 0)] h fun a w h=>?_
  refine rqk za0 5 [(1,.call (Fn.cast (LR21Base props hpr) (show (.tup [.c (cRs (zcw props).1),.c (cI (zcw props).2)]:V) = .tup [.c (cRs (zde props)),.c (cI 0)] from by unfold zcw;rw [if_neg (dF hc9)])) lu21_14)] [(0,.t (.c (.d (.sl 9 (props.map zai.d))))),(1,(vRs ps)),(7,vp 0 0),(8,vp 1 0),(9,vp 2 0),(10,vb false),(11,(vRs (zde props))),(12,vI 0),(13,(vRs (zde props))),(14,vI 0)] h fun a w h=>?_
  refine rqk za0 5 [(3,.call (LLetter props ps a_ hpr ⟨by omega,fun r hr=>(hpt r hr).mono (by decide) (by decide)⟩ ha) lm13_8)] [(0,.t (.c (.d (.sl 9 (props.map zai.d))))),(1,(vRs ps)),(7,vp 0 0),(8,vp 1 0),(9,vp 2 0),(10,vb false),(11,(vRs (zde props))),(12,vI 0),(13,(vRs (zde props))),(14,vI 0),(15,.t (.c (.d (.sl 1 ((zan props ps a_).1.map za5))))),(16,vb (zan props ps a_).2)] h fun a w h=>?_
  refine rqk za0 5 [(3,.call (Las a_) zf8),(4,.call (LR21Letter props ps a_ hpr ⟨by omega,fun r hr=>(hpt r hr).mono (by decide) (by decide)⟩ ha) lu21_17)] [(0,.t (.c (.d (.sl 9 (props.map zai.d))))),(1,(vRs ps)),(7,vp 0 0),(8,vp 1 0),(9,vp 2 0),(10,vb false),(11,(vRs (zde props))),(12,vI 0),(13,(vRs (zde props))),(14,vI 0),(15,.t (.c (.d (.sl 1 ((zan props ps a_).1.map za5))))),(16,vb (zan props ps a_).2),(17,.t (.c (.d (.sl 1 ((zan props ps a_).1.map za5))))),(18,vb (zan props ps a_).2)] h fun a w h=>?_
  refine rqk za0 5 [(1,.call (Las a_) zf8),(3,.call (Las b_) zf8),(4,.call (LR21Cmp a_ b_ ha hb) lu21_18)] [(0,.t (.c (.d (.sl 9 (props.map zai.d))))),(1,(vRs ps)),(7,vp 0 0),(8,vp 1 0),(9,vp 2 0),(10,vb false),(11,(vRs (zde props))),(12,vI 0),(13,(vRs (zde props))),(14,vI 0),(15,.t (.c (.d (.sl 1 ((zan props ps a_).1.map za5))))),(16,vb (zan props ps a_).2),(17,.t (.c (.d (.sl 1 ((zan props ps a_).1.map za5))))),(18,vb (zan props ps a_).2),(19,vI (zdk a_ b_))] h fun a w h=>?_
  refine wp_seq (rq za0 5 [(2,.cmp (op:=.neq) (m:=0) (n:=0) (b:=false) .i64 rfl),(6,.call (SRSameAll2 (rs:=(zde props)) (qs:=(zde props)) rfl (fun r hr=>(base_tok hfp.2 r hr).mono (by decide) (by decide)) (by have:=dF hc9;omega)) lu21_19),(12,.cmpb .neq (m:=(zan props ps a_).2) (n:=(zan props ps a_).2) (b:=false) (.inr ⟨rfl,(bne_self_eq_false _).symm⟩)),(17,.call (Fn.cast (LSameBits (zan props ps a_).1 (zan props ps a_).1 (by omega) (by omega)) (show (vb (decide ((zan props ps a_).1=(zan props ps a_).1)):V)=vb true from by rw [decide_eq_true rfl])) lq17_14),(23,.call (LCmpA a_ b_ ha hb) lf6_13),(25,.cmp (op:=.neq) (m:=(zdk a_ b_)) (n:=(zdk a_ b_)) (b:=false) .i64 (bne_self_eq_false _)),(30,.call (LSameA a_ b_ ha hb) lm13_13),(33,.cmpb .neq (m:=((zdk a_ b_) == 0)) (n:=((zdk a_ b_) == 0)) (b:=false) (.inr ⟨rfl,(bne_self_eq_false _).symm⟩))] [(0,.t (.c (.d (.sl 9 (props.map zai.d))))),(1,(vRs ps)),(9,vp 2 0),(10,vb false),(104,vb false)] [(2,.box [cIs x.locs,cZs x.vals])] h fun a w h=>?_)
  refine zah false h rfl nofun (fun _=>?_)
  refine wp_skip (za2 (wp_seq (rqk za0 5 [(1,.len (za9 9 zai.d props))] [(1,(vRs ps)),(9,vp 2 0),(10,vb false),(105,.t (.c (.d (.sl 9 (props.map zai.d))))),(106,vN props.length),(107,vI 0)] h fun a w h=>?_)))
  refine wp_block ?_
  refine zau (ι:=(Nat)) (fun j=>j≤props.length)
    (fun j=>[(1,(vRs ps)),(9,vp 2 0),(105,.t (.c (.d (.sl 9 (props.map zai.d))))),(106,vN props.length),(107,vN j)])
    (fun j=>[(2,.box [cIs x.locs,cZs x.vals])])
    (fun j=>props.length - j) 0 ?_ h (by kernel_rfl) (by kernel_rfl) ?_
  ·exact Nat.zero_le _
  clear h;rintro j a w hI h
  refine rqk za0 5 [] [(1,(vRs ps)),(9,vp 2 0),(105,.t (.c (.d (.sl 9 (props.map zai.d))))),(106,vN props.length),(107,vN j),(108,vb (decide ((j:Int)<(props.length:Int))))] h fun a w h=>?_
  refine wp_seq ?_
  refine zam ((j:Int)<(props.length:Int)) h rfl (fun hc10 hc10'=>?_) (fun hc13 hc13'=>?_)
  ·refine wp_skip (za2 (wp_seq (wp_block ?_)))
   obtain ⟨x40,hx40⟩:=gl props j
   refine rq za0 5 [(0,.g (xD 109 105 li9_5 (zaf hx40 (f:=zai.d)) (OV.tmp 107 _)))] [(1,(vRs ps)),(9,vp 2 0),(21,vp 5 0),(105,.t (.c (.d (.sl 9 (props.map zai.d))))),(106,vN props.length),(107,vN j)] [(2,.box [cIs x.locs,cZs x.vals]),(5,.box ([cB x40.at_,cI x40.proc,cI x40.loc,cI x40.f.kind,cPs x40.f.r.t.parts]++zi x40.f.r.t.k++[cB x40.f.r.eq,cFs x40.f.kids]))] h fun a w h=>?_
   refine rq za0 6 [(2,.call (LR5Flat x40.f (za1.okB_mono (by decide) (by decide) _ (hfp.2 x40 (lM hx40)).1) (Nat.le_trans (hfp.2 x40 (lM hx40)).2 (by decide))) lu21_2)] [(1,(vRs ps)),(9,vp 2 0),(22,vp 6 0),(105,.t (.c (.d (.sl 9 (props.map zai.d))))),(106,vN props.length),(107,vN j)] [(2,.box [cIs x.locs,cZs x.vals]),(6,.box (zF (za1.flat x40.f false)))] h fun a w h=>?_
   have hgl:(za1.gath (za1.flat x40.f false) ps).length≤1000000:=by have:=zis (za1.flat x40.f false) ps;have:=(zay ⟨za1.okB_mono (by decide) (by decide) _ (hfp.2 x40 (lM hx40)).1,Nat.le_trans (hfp.2 x40 (lM hx40)).2 (by decide)⟩).2;omega
   have hgt:∀ r ∈ (za1.gath (za1.flat x40.f false) ps),TOk 200 3000 r.t:=zip (zay ⟨za1.okB_mono (by decide) (by decide) _ (hfp.2 x40 (lM hx40)).1,Nat.le_trans (hfp.2 x40 (lM hx40)).2 (by decide)⟩).1 (fun r hr=>(hpt r hr).mono (by decide) (by decide))
   refine rq za0 7 [(2,.call (Fn.cast (LGather ps (za1.flat x40.f false) (fun r hr=>(hpt r hr).mono (by decide) (by decide)) (zay ⟨za1.okB_mono (by decide) (by decide) _ (hfp.2 x40 (lM hx40)).1,Nat.le_trans (hfp.2 x40 (lM hx40)).2 (by decide)⟩).1 (by have:=(zay ⟨za1.okB_mono (by decide) (by decide) _ (hfp.2 x40 (lM hx40)).1,Nat.le_trans (hfp.2 x40 (lM hx40)).2 (by decide)⟩).2;omega)) (show ((vRs (zgv ps (za1.flat x40.f false))):V)=(vRs ((za1.gath (za1.flat x40.f false) ps).map cpR)) from by unfold zgv;rw [gath_cp])) lm13_15),(5,.call (Fn.cast (zhu (za1.flat x40.f false) (zay ⟨za1.okB_mono (by decide) (by decide) _ (hfp.2 x40 (lM hx40)).1,Nat.le_trans (hfp.2 x40 (lM hx40)).2 (by decide)⟩).1 ps (fun r hr=>(hpt r hr).mono (by decide) (by decide)) (by have:=(zay ⟨za1.okB_mono (by decide) (by decide) _ (hfp.2 x40 (lM hx40)).1,Nat.le_trans (hfp.2 x40 (lM hx40)).2 (by decide)⟩).2;omega)) (show ((vRs (za1.gathR (za1.flat x40.f false) ps)):V)=(vRs (za1.gath (za1.flat x40.f false) ps)) from by rw [zhm _ (zgd _ _)])) lt20_12)] [(1,(vRs ps)),(9,vp 2 0),(23,(vRs ((za1.gath (za1.flat x40.f false) ps).map cpR))),(24,(vRs (za1.gath (za1.flat x40.f false) ps))),(105,.t (.c (.d (.sl 9 (props.map zai.d))))),(106,vN props.length),(107,vN j)] [(2,.box [cIs x.locs,cZs x.vals])] h fun a w h=>?_
   refine wp_seq (rqk za0 7 [(1,.len (za9 4 zac.d ((za1.gath (za1.flat x40.f false) ps).map cpR))),(3,.len (za9 4 zac.d (za1.gath (za1.flat x40.f false) ps))),(4,.cmp (op:=.neq) (m:=(((za1.gath (za1.flat x40.f false) ps).map cpR).length:Int)) (n:=((za1.gath (za1.flat x40.f false) ps).length:Int)) (b:=false) .i64 (show ((((za1.gath (za1.flat x40.f false) ps).map cpR).length:Int) != ((za1.gath (za1.flat x40.f false) ps).length:Int))=false from by rw [List.length_map];exact bne_self_eq_false _))] [(1,(vRs ps)),(9,vp 2 0),(23,(vRs ((za1.gath (za1.flat x40.f false) ps).map cpR))),(24,(vRs (za1.gath (za1.flat x40.f false) ps))),(105,.t (.c (.d (.sl 9 (props.map zai.d))))),(106,vN props.length),(107,vN j),(124,vb false)] h fun a w h=>?_)
   refine zah false h rfl nofun (fun _=>?_)
   refine wp_skip (za2 (rqk za0 7 [(1,.len (za9 4 zac.d ((za1.gath (za1.flat x40.f false) ps).map cpR)))] [(1,(vRs ps)),(9,vp 2 0),(23,(vRs ((za1.gath (za1.flat x40.f false) ps).map cpR))),(24,(vRs (za1.gath (za1.flat x40.f false) ps))),(105,.t (.c (.d (.sl 9 (props.map zai.d))))),(106,vN props.length),(107,vN j),(126,vI (((za1.gath (za1.flat x40.f false) ps).map cpR).length:Int)),(127,vI 0)] h fun a w h=>?_))
   refine wp_block ?_
   refine zau (ι:=(Nat)) (fun i=>i≤(za1.gath (za1.flat x40.f false) ps).length)
     (fun i=>[(1,(vRs ps)),(9,vp 2 0),(23,(vRs ((za1.gath (za1.flat x40.f false) ps).map cpR))),(24,(vRs (za1.gath (za1.flat x40.f false) ps))),(105,.t (.c (.d (.sl 9 (props.map zai.d))))),(106,vN props.length),(107,vN j),(126,vI (((za1.gath (za1.flat x40.f false) ps).map cpR).length:Int)),(127,vN i)])
     (fun i=>[(2,.box [cIs x.locs,cZs x.vals])])
     (fun i=>(za1.gath (za1.flat x40.f false) ps).length - i) 0 ?_ h (by kernel_rfl) (by kernel_rfl) ?_
   ·exact Nat.zero_le _
   clear h;rintro i a w hI h
   have lgm:((za1.gath (za1.flat x40.f false) ps).map cpR).length=(za1.gath (za1.flat x40.f false) ps).length:=List.length_map _
   refine rqk za0 7 [] [(1,(vRs ps)),(9,vp 2 0),(23,(vRs ((za1.gath (za1.flat x40.f false) ps).map cpR))),(24,(vRs (za1.gath (za1.flat x40.f false) ps))),(105,.t (.c (.d (.sl 9 (props.map zai.d))))),(106,vN props.length),(107,vN j),(126,vI (((za1.gath (za1.flat x40.f false) ps).map cpR).length:Int)),(127,vN i),(128,vb (decide ((i:Int)<(((za1.gath (za1.flat x40.f false) ps).map cpR).length:Int))))] h fun a w h=>?_
   refine wp_seq ?_
   refine zam ((i:Int)<(((za1.gath (za1.flat x40.f false) ps).map cpR).length:Int)) h rfl (fun hc11 hc11'=>?_) (fun hc12 hc12'=>?_)
   ·refine wp_skip (za2 (wp_seq (wp_block (rqk za0 7 [] [(1,(vRs ps)),(9,vp 2 0),(23,(vRs ((za1.gath (za1.flat x40.f false) ps).map cpR))),(24,(vRs (za1.gath (za1.flat x40.f false) ps))),(25,vN i),(105,.t (.c (.d (.sl 9 (props.map zai.d))))),(106,vN props.length),(107,vN j),(126,vI (((za1.gath (za1.flat x40.f false) ps).map cpR).length:Int)),(127,vN i)] h fun a w h=>?_))))
    obtain ⟨x44,hx44⟩:=gl (za1.gath (za1.flat x40.f false) ps) i
    refine rqk za0 7 [(2,.g (xD 132 130 kc_3 (zaf (show (((za1.gath (za1.flat x40.f false) ps).map cpR))[i]?=some (cpR x44) from by rw [List.getElem?_map,hx44];rfl) (f:=zac.d)) (OV.tmp 131 _))),(6,.g (xD 136 134 kc_3 (zaf hx44 (f:=zac.d)) (OV.tmp 135 _))),(8,.call (Fn.cast (LR4Cmp (cpR x44) x44 (((hgt x44 (lM hx44)).plain (by decide)).mono (by decide) (by decide)) ((hgt x44 (lM hx44)).mono (by decide) (by decide))) (congrArg (vi .i64) (cmpRl_cp x44))) lt20_7),(9,.cmp (op:=.neq) (m:=0) (n:=0) (b:=false) .i64 rfl)] [(1,(vRs ps)),(9,vp 2 0),(23,(vRs ((za1.gath (za1.flat x40.f false) ps).map cpR))),(24,(vRs (za1.gath (za1.flat x40.f false) ps))),(105,.t (.c (.d (.sl 9 (props.map zai.d))))),(106,vN props.length),(107,vN j),(126,vI (((za1.gath (za1.flat x40.f false) ps).map cpR).length:Int)),(127,vN i),(139,vb false)] h fun a w h=>?_
    refine zah false h rfl nofun (fun _=>?_)
    refine wp_skip (zaa (za2 (rnk za0 7 [(0,.j1 i)] [(1,(vRs ps)),(9,vp 2 0),(23,(vRs ((za1.gath (za1.flat x40.f false) ps).map cpR))),(24,(vRs (za1.gath (za1.flat x40.f false) ps))),(105,.t (.c (.d (.sl 9 (props.map zai.d))))),(106,vN props.length),(107,vN j),(126,vI (((za1.gath (za1.flat x40.f false) ps).map cpR).length:Int)),(127,vI ((i:Int)+1))] h fun a w h=>?_)))
    refine za2 ?_
    refine zaj (x:=i) (y:=i+1) h ?_ ?_
    ·have:=zag hx44
     show i+1≤(za1.gath (za1.flat x40.f false) ps).length
     omega
    show (za1.gath (za1.flat x40.f false) ps).length - (i+1)<(za1.gath (za1.flat x40.f false) ps).length - i
    have:=zag hx44;omega
   refine wp_exit (zab (zab (za7 (zaa (za2 (rnk za0 7 [(0,.j1 j)] [(1,(vRs ps)),(9,vp 2 0),(105,.t (.c (.d (.sl 9 (props.map zai.d))))),(106,vN props.length),(107,vI ((j:Int)+1))] h fun a w h=>?_))))))
   refine za2 ?_
   refine zaj (x:=j) (y:=j+1) h ?_ ?_
   ·have:=zag hx40
    show j+1≤props.length
    omega
   show props.length - (j+1)<props.length - j
   have:=zag hx40;omega
  refine wp_exit (zab (zab (za7 (za2 ?_))))
  have hoa:(ofA ps x).locs.length≤9223372036854775807∧(ofA ps x).bits.length≤9223372036854775807:=⟨by show x.locs.length≤_;have:=hx.locs;omega,by show (ps.map _).length≤_;rw [List.length_map];omega⟩
  refine rq za0 7 [(2,.call (LabsOfW ps x hpw0 hx) lm13_5),(3,.call (Las (ofA ps x)) zf8),(6,.call (LR21Of ps x hpw0 hx) lu21_27),(7,.call (Fn.cast (LR21Cmp (ofA ps x) (ofA ps x) hoa hoa) (congrArg (vi .i64) (cmpA_self _))) lu21_18),(8,.cmp (op:=.eql) (m:=0) (n:=0) (b:=true) .i64 rfl)] [(10,vb true)] [] h fun a w h=>?_
  refine wp_ret ?_
  refine rT (.c (cB true)) h rfl rfl ?_
  rfl
 have hc14:=hc;clear hc
 refine rqk za0 7 [(4,.g (Op.buildD (d:=32) (len:=2) (rows:=[a_,b_].map zcx.d) (rs:=[(30,.t (.agg [cIs a_.locs,.d (.sl 1 (a_.bits.map za5))])),(31,.t (.agg [cIs b_.locs,.d (.sl 1 (b_.bits.map za5))]))]) lu21_10 (.cons (i:=0) (OV.tmp 30 _) (.cons (i:=1) (OV.tmp 31 _) (.nil))) (by kernel_rfl) rfl (by simp [zcx.d]) (by decide) (by decide))),(5,.call (Fn.cast (LfewA props ps [a_,b_] hpl hlp hlq (show List.length _≤9223372036854775807 from by simp)) (congrArg vb hc14)) lo15_1)] [(0,.t (.c (.d (.sl 9 (props.map zai.d))))),(1,(vRs ps)),(7,vp 0 0),(8,vp 1 0),(9,vp 2 0),(10,vb false),(39,vb true)] h fun a w h=>?_
 refine zah true h rfl (fun _=>?_) nofun
 refine rqk za0 7 [] [(0,.t (.c (.d (.sl 9 (props.map zai.d))))),(1,(vRs ps)),(7,vp 0 0),(8,vp 1 0),(9,vp 2 0),(10,vb true)] h fun a w h=>?_
 refine wp_ret (za8 ?_)
 refine rT (.c (cB true)) h rfl rfl ?_
 rfl
section
variable {w:World} {n:Nat}
theorem rep_Abs:zfr w n 27 zcx.d (fun a=>a.locs.length≤maxLen∧a.bits.length≤maxLen) :=
 ((zcm (n:=n) Tryz.underlying27 (by kernel_rfl) (.cons (k0:=1) rfl (by kernel_rfl) rep_ints (.cons (k0:=1) rfl (by kernel_rfl) rep_bools .nil))).map (fun p=>⟨p.1,p.2.1⟩) (fun _=>rfl) fun _ h=>⟨h.1.1,h.2.1.1⟩).mono (Nat.le_succ n)
end
theorem SAbstrTellsW (props:List zai) (ps:List zac) (a b:zcx) (x:StD) (hp:props.length≤maxLen∧∀ p ∈ props,p.f.lb) (hq:ps.length≤maxLen∧∀ r ∈ ps,TLb r.t) (ha:a.locs.length≤maxLen∧a.bits.length≤maxLen) (hb:b.locs.length≤maxLen∧b.bits.length≤maxLen) (hx:StRd x):Fn Tryz.prog 3 [] [.t (.c (.d (.sl 9 (props.map zai.d)))),(vRs ps),vd (zcx.d a),vd (zcx.d b),vd (StD.d x)] (vb true) [] :=
 LAbstrTells props ps a b x hp.2 (Nat.le_trans hp.1 (by decide)) hq.2 (Nat.le_trans hq.1 (by decide)) ⟨Nat.le_trans ha.1 (by decide),Nat.le_trans ha.2 (by decide)⟩ ⟨Nat.le_trans hb.1 (by decide),Nat.le_trans hb.2 (by decide)⟩ hx
end
end Go.Proofs.YtcppcnfmgpphcaaGreat.S
section
namespace Go.Proofs.YtcppcnfmgpphcaaGreat.abstrTellsDone
open Go.ChangeShapes Go.WideShapes Go.ChangeAt Go.RowKit
open Go.ChangeMaps (open_string shut_string)
open Go.Proofs.YtcppcnfmgpphcaaGreat.S

theorem own:ownKnob Tryz.prog.godebug=none:=by kernel_rfl
theorem laidOut:laidOutB Tryz.prog=true:=by kernel_rfl

theorem lifted (os:Os) (started:os.Started) (H:Type) (enc:TypeId × Value→H) :
  ReturnsInHanded {} Tryz.checked os 3 .any (Rows.abstrTellsSpec.pre6 enc Tryz.prog Tryz.f3 Rows.abstrTellsRow.domain false) (Rows.abstrTellsSpec.post enc Tryz.prog Tryz.f3 false true false false):=by
 refine returnsInHanded_of_change (C:=Tryz.checked) own started (by kernel_rfl) Tryz.func3
  (ChangeSpec.witness6 (enc:=enc) (C:=Tryz.checked) false ⟨#[],#[.slice none 0 0,.slice none 0 0,.agg #[.slice none 0 0,.slice none 0 0],.agg #[.slice none 0 0,.slice none 0 0],.agg #[.slice none 0 0,.slice none 0 0]],[]⟩ 12 (by kernel_rfl) (by kernel_rfl) (by kernel_rfl) (by kernel_rfl)) ?_
 intro W base args ds gs before hval0 hW hcnd _
 have hval:∀ (j:Nat) t v,Tryz.f3.params[j]?=some t→args[j]?=some v→Value.okWide Tryz.prog W .any base t v:=hval0
 have hW':=hW
 obtain ⟨p,q,hA0,hV,rfl,hfz,hnd⟩:=hW
 have hA:DataW.TrodAll enc Tryz.prog W 0 (fun _=>true) true Tryz.f3.params.toList args.toList ds p:=hA0
 rw [Tryz.params3] at hA hval
 obtain ⟨v0,vs0,d0,ds0,p0,q0,hargs,rfl,rfl,h0,r0⟩:=trodAll_cons hA
 obtain ⟨v1,vs1,d1,ds1,p1,q1,rfl,rfl,rfl,h1,r1⟩:=trodAll_cons r0
 obtain ⟨v2,vs2,d2,ds2,p2,q2,rfl,rfl,rfl,h2,r2⟩:=trodAll_cons r1
 obtain ⟨v3,vs3,d3,ds3,p3,q3,rfl,rfl,rfl,h3,r3⟩:=trodAll_cons r2
 obtain ⟨v4,vs4,d4,ds4,p4,q4,rfl,rfl,rfl,h4,r4⟩:=trodAll_cons r3
 obtain ⟨rfl,rfl,rfl⟩:=trodAll_nil r4
 obtain rfl:args=#[v0,v1,v2,v3,v4]:=by cases args;simp_all
 obtain ⟨rfl,rfl⟩:=trodVars_none hV
 have k0:=h0
 have lt0:∀ x ∈ p0,x.block<W.heap.size:=by obtain ⟨m,hm⟩:=k0;exact DataW.trod_lt m _ _ _ hm
 obtain ⟨a0,ao0,len0,cap0,g0,rfl,dr0⟩:=rep_one Tryz.underlying22 (fun _=>rep_Props) (hval 0 22 v0 rfl rfl) h0
 have k1:=h1
 have lt1:∀ x ∈ p1,x.block<W.heap.size:=by obtain ⟨m,hm⟩:=k1;exact DataW.trod_lt m _ _ _ hm
 obtain ⟨a1,ao1,len1,cap1,g1,rfl,dr1⟩:=rep_one Tryz.underlying23 (fun _=>rep_RelsL) (hval 1 23 v1 rfl rfl) h1
 have k2:=h2
 have lt2:∀ x ∈ p2,x.block<W.heap.size:=by obtain ⟨m,hm⟩:=k2;exact DataW.trod_lt m _ _ _ hm
 obtain ⟨a2,cs2,g2,rfl,dr2⟩:=rep_agg Tryz.underlying27 (fun _=>rep_Abs) (hval 2 27 v2 rfl rfl) h2
 have k3:=h3
 have lt3:∀ x ∈ p3,x.block<W.heap.size:=by obtain ⟨m,hm⟩:=k3;exact DataW.trod_lt m _ _ _ hm
 obtain ⟨a3,cs3,g3,rfl,dr3⟩:=rep_agg Tryz.underlying27 (fun _=>rep_Abs) (hval 3 27 v3 rfl rfl) h3
 have k4:=h4
 have lt4:∀ x ∈ p4,x.block<W.heap.size:=by obtain ⟨m,hm⟩:=k4;exact DataW.trod_lt m _ _ _ hm
 obtain ⟨a4,cs4,g4,rfl,dr4⟩:=rep_agg Tryz.underlying30 (fun _=>rep_State) (hval 4 30 v4 rfl rfl) h4
 clear hA0 hval0
 refine ((SAbstrTellsW a0 a1 a2 a3 a4 g0 g1 g2 g3 g4).calls (w:=W) (vals:=[.slice ao0 len0 cap0,.slice ao1 len1 cap1,.agg ⟨cs2⟩,.agg ⟨cs3⟩,.agg ⟨cs4⟩]) fun B=>⟨dr0,dr1,dr_vd dr2 B,dr_vd dr3 B,dr_vd dr4 B,trivial⟩).mono fun e W' ⟨he,bel⟩=>?_
 subst he
 exact ⟨_,rfl,_,_,_,[],_,[],hW', trodAll_mk1 (shut_bool Tryz.underlying4 _),(trodAll_cons_mk (Below.trod laidOut (by kernel_rfl) (of_decide_eq_true (by kernel_rfl)) k0 bel lt0) (trodAll_cons_mk (Below.trod laidOut (by kernel_rfl) (of_decide_eq_true (by kernel_rfl)) k1 bel lt1) (trodAll_cons_mk (Below.trod laidOut (by kernel_rfl) (of_decide_eq_true (by kernel_rfl)) k2 bel lt2) (trodAll_cons_mk (Below.trod laidOut (by kernel_rfl) (of_decide_eq_true (by kernel_rfl)) k3 bel lt3) (trodAll_cons_mk (Below.trod laidOut (by kernel_rfl) (of_decide_eq_true (by kernel_rfl)) k4 bel lt4) trodAll_mk0))))),rfl,bel.below.frame _,fun h=>by cases h⟩

theorem over:Rows.abstrTellsRow.holds Tryz.pinned (OpenSpec.ofChange Rows.abstrTellsSpec) :=
 OpenClaim.holds_of_wide 3 Tryz.f3 rfl rfl rfl rfl rfl rfl rfl ⟨rfl,rfl,rfl,rfl,rfl⟩ rfl rfl rfl rfl rfl (by kernel_rfl) Tryz.func3 (by kernel_rfl)
  (of_decide_eq_true (by kernel_rfl)) (by unfold Func.isWrapper;first | (rw [if_pos (by decide +kernel)];kernel_rfl) | (rw [if_neg (by decide +kernel)];exact ⟨rfl,rfl⟩))
  (fun os started H enc _=>lifted os started H enc)

theorem proved:Rows.AbstrTellsSaid:=over
end Go.Proofs.YtcppcnfmgpphcaaGreat.abstrTellsDone
end
