/-
  Part 5 of the proof of the statement AbstrLetters: the walk through the program and the references lifted to the given row. It holds for every input.
-/
import Derived.Test.YtcppcnfmgpphcaaGreatVL4
set_option maxRecDepth 100000
namespace Go.Proofs.YtcppcnfmgpphcaaGreat.S
section
open Go.RowKit

theorem lb_3:za7 Tryz.prog 139:=za7.mk' (by kernel_rfl)
theorem lb_12:za7 Tryz.prog 143:=za7.mk' (by kernel_rfl)
theorem lb_13:za7 Tryz.prog 120:=za7.mk' (by kernel_rfl)
theorem lb_16:za7 Tryz.prog 138:=za7.mk' (by kernel_rfl)
theorem lb_20:za7 Tryz.prog 118:=za7.mk' (by kernel_rfl)
theorem lb_21:za7 Tryz.prog 119:=za7.mk' (by kernel_rfl)
set_option maxHeartbeats 4000000 in
theorem Lknown (b:Bool) :Fn Tryz.prog 139 [] [vb b] (.tup [.agg (zR_ zR),.c (cI (if b=true then 1 else -1))]) []:=by
 refine Fn.body Tryz.func139 rfl 7 rfl fun w H B a h=>?_
 refine rq za0 0 [] [(0,vb b),(2,vp 0 0),(3,vi .i64 0)] [(0,.box [.d (.raw za6),cB false,.d (nsl []),cB false])] h ?_;clear h;intro a w h
 refine wp_seq (rq za0 1 [] [(2,vp 0 0),(3,vi .i64 0),(4,vb b)] [(0,.box [.d (.raw za6),cB false,.d (nsl []),cB false])] h ?_);clear h;intro a w h
 refine zaa b h rfl (fun hc=>?_) (fun hc=>?_)
 ·have hc1:=hc;clear hc
  refine rq za0 1 [] [(2,vp 0 0),(3,vi .i64 1)] [(0,.box [.d (.raw za6),cB false,.d (nsl []),cB false])] h ?_;clear h;intro a w h
  refine wp_ret (za9 ?_)
  replace h:=zd7 0 0 3 [.d (.raw za6),cB false,.d (nsl []),cB false] [(2,vp 0 0),(3,vi .i64 1)] [(0,.box [cPs [],cB false,.d (nsl []),cB false])] h rfl rfl
  refine zap [.agg [cPs [],cB false,.d (nsl []),cB false],.c (cI 1)] h Exit.ret (.inl rfl)  rfl ⟨RV.agg _ 0 0 _ _ _ _ la_1 rfl rfl rfl rfl,RV.tmp _ _ rfl,trivial⟩ ?_
  rw [hc1];rfl
 ·have hc2:=hc;clear hc
  refine wp_skip (za4 (rq za0 1 [] [(2,vp 0 0),(3,vi .i64 (-1))] [(0,.box [.d (.raw za6),cB false,.d (nsl []),cB false])] h ?_));clear h;intro a w h
  refine wp_ret ?_
  replace h:=zd7 0 0 3 [.d (.raw za6),cB false,.d (nsl []),cB false] [(2,vp 0 0),(3,vi .i64 (-1))] [(0,.box [cPs [],cB false,.d (nsl []),cB false])] h rfl rfl
  refine zap [.agg [cPs [],cB false,.d (nsl []),cB false],.c (cI (-1))] h Exit.ret (.inl rfl)  rfl ⟨RV.agg _ 0 0 _ _ _ _ la_1 rfl rfl rfl rfl,RV.tmp _ _ rfl,trivial⟩ ?_
  rw [hc2];rfl
theorem shr_len (t:zbb):(zcv (za3 t)).parts.length=(za3 t).parts.length:=by
 unfold zcv;rw [zcn];split
 ·rfl
 ·exact List.length_map _
theorem plain_k (t:zbb):(za3 t).k.val=t.k.val:=ZI.val_of _
theorem tight_k {r:zab} (h:(za3 r.t).parts.length=0):zb0 r=(zR,if (sgn (za3 r.t).k.val == 0 || (!r.eq && decide (sgn (za3 r.t).k.val>0)))=true then 1 else -1):=by
 unfold zb0;rw [if_pos h,plain_k]
theorem tight_le {r:zab} (h:(za3 r.t).parts.length≠0) (he:r.eq=false):zb0 r=(⟨zcv (za3 r.t),false⟩,0):=by
 unfold zb0;rw [if_neg h,if_neg (fun e=>by rw [he] at e;exact Bool.noConfusion e.1),he,shr_plain2];rfl
theorem tight_no {r:zab} (h:(za3 r.t).parts.length≠0) (he:r.eq=true) (hz:(za3 r.t).k.val.fmod (zbu (za3 (za3 r.t)).parts)≠0):zb0 r=(zR,-1):=by
 rw [zfm,plain_k] at hz
 unfold zb0;rw [if_neg h,if_pos ⟨he,hz⟩]
theorem tight_eq {r:zab} (h:(za3 r.t).parts.length≠0) (he:r.eq=true) (hz:(za3 r.t).k.val.fmod (zbu (za3 (za3 r.t)).parts)=0) {b:Bool} (hb:firstN (zcv (za3 r.t))=b):zb0 r=(⟨if b=true then negT (zcv (za3 r.t)) else zcv (za3 r.t),true⟩,0):=by
 rw [zfm,plain_k] at hz
 rw [shr_plain2] at hb ⊢
 unfold zb0;rw [if_neg h,if_neg (fun e=>e.2 hz),he,hb];rfl
theorem first_at {t:zbb} {p:za2} (h:t.parts[0]?=some p):firstN t=decide (sgn p.c.val<0):=by
 unfold firstN
 cases e:t.parts with
 | nil=>rw [e] at h;cases h
 | cons q qs=>rw [e] at h;injection h with h;rw [h]
set_option maxHeartbeats 4000000 in
theorem LTight (r:zab) (hr:TOk 400 9000 r.t):Fn Tryz.prog 119 [] [.t (.agg ([.d (.sl 3 (r.t.parts.map za2.d))]++zi r.t.k++[.d (.raw (.bool r.eq))]))] (.tup [.agg ([.d (.sl 3 ((zb0 r).1.t.parts.map za2.d))]++zi (zb0 r).1.t.k++[.d (.raw (.bool (zb0 r).1.eq))]),.c (.d (.raw (.int .i64 (zb0 r).2)))]) []:=by
 have hpk:=(hr.plain (by decide)).kl
 refine Fn.body Tryz.func119 rfl 74 rfl fun w H B a h=>?_
 refine rq za0 0 [] [(1,vp 0 0),(2,vp 1 0),(3,vi .i64 0)] [(0,.box ([.d (.sl 3 (r.t.parts.map za2.d))]++zi r.t.k++[.d (.raw (.bool r.eq))])),(1,.box [.d (.raw za6),.d (.raw (.bool false)),.d (nsl []),.d (.raw (.bool false))])] h ?_;clear h;intro a w h
 refine rq za0 2 [(2,.call (zev r.t hr (by decide) (by decide)) tm_7)] [(1,vp 0 0),(2,vp 1 0),(3,vi .i64 0),(4,vp 2 0)] [(0,.box ([.d (.sl 3 (r.t.parts.map za2.d))]++zi r.t.k++[.d (.raw (.bool r.eq))])),(1,.box [.d (.raw za6),.d (.raw (.bool false)),.d (nsl []),.d (.raw (.bool false))]),(2,.box ([.d (.sl 3 ((za3 r.t).parts.map za2.d))]++zi (za3 r.t).k))] h ?_;clear h;intro a w h
 refine wp_seq (rq za0 3 [(2,.len (c:=(.d (.sl 3 ((za3 r.t).parts.map za2.d)))) (n:=(za3 r.t).parts.length) (zae _ _ _))] [(1,vp 0 0),(2,vp 1 0),(3,vi .i64 0),(4,vp 2 0),(14,vb (((za3 r.t).parts.length:Int) == 0))] [(0,.box ([.d (.sl 3 (r.t.parts.map za2.d))]++zi r.t.k++[.d (.raw (.bool r.eq))])),(1,.box [.d (.raw za6),.d (.raw (.bool false)),.d (nsl []),.d (.raw (.bool false))]),(2,.box ([.d (.sl 3 ((za3 r.t).parts.map za2.d))]++zi (za3 r.t).k))] h ?_);clear h;intro a w h
 refine zaa (((za3 r.t).parts.length:Int) == 0) h rfl (fun hc=>?_) (fun hc=>?_)
 ·have hc1:=hc;clear hc
  have hc1':=hc1;(try simp at hc1')
  have hpl:(za3 r.t).parts.length=0:=by have:=hc1;simpa using this
  rcases Bool.eq_false_or_eq_true (sgn (za3 r.t).k.val == 0) with hc | hc
  ·have hc2:=hc;clear hc
   have hc2':=hc2;(try simp at hc2')
   refine rq za0 3 [(2,.call (zgq (za3 r.t).k ((TOk.plain hr (by decide))).kb (by omega)) td_6),(3,.cmp (op := .eql) (m:=(sgn (za3 r.t).k.val)) (n:=0) (b:=true) .i64 hc2),(15,.call (Lknown true) lb_3)] [(1,vp 0 0),(2,vp 1 0),(3,vi .i64 (if true=true then 1 else -1)),(4,vp 2 0)] [(0,.box ([.d (.sl 3 (r.t.parts.map za2.d))]++zi r.t.k++[.d (.raw (.bool r.eq))])),(1,.box ([.d (.sl 3 (zR.t.parts.map za2.d))]++zi zR.t.k++[.d (.raw (.bool zR.eq))])),(2,.box ([.d (.sl 3 ((za3 r.t).parts.map za2.d))]++zi (za3 r.t).k))] h ?_;clear h;intro a w h
   refine wp_ret (za9 ?_)
   refine zap [.agg ([.d (.sl 3 (zR.t.parts.map za2.d))]++zi zR.t.k++[.d (.raw (.bool zR.eq))]),.c (.d (.raw (.int .i64 (if true=true then 1 else -1))))] h Exit.ret (.inl rfl)  rfl ⟨RV.agg _ 1 0 _ _ _ _ la_1 rfl rfl rfl rfl,RV.tmp _ _ rfl,trivial⟩ ?_
   rw [tight_k hpl,hc2];first | done | rfl
  ·have hc3:=hc;clear hc
   have hc3':=hc3;(try simp at hc3')
   rcases Bool.eq_false_or_eq_true r.eq with hc | hc
   ·have hc4:=hc;clear hc
    rw [hc4] at h
    refine rq za0 3 [(2,.call (zgq (za3 r.t).k ((TOk.plain hr (by decide))).kb (by omega)) td_6),(3,.cmp (op := .eql) (m:=(sgn (za3 r.t).k.val)) (n:=0) (b:=false) .i64 hc3),(15,.call (Lknown false) lb_3)] [(1,vp 0 0),(2,vp 1 0),(3,vi .i64 (if false=true then 1 else -1)),(4,vp 2 0)] [(0,.box ([.d (.sl 3 (r.t.parts.map za2.d))]++zi r.t.k++[.d (.raw (.bool true))])),(1,.box ([.d (.sl 3 (zR.t.parts.map za2.d))]++zi zR.t.k++[.d (.raw (.bool zR.eq))])),(2,.box ([.d (.sl 3 ((za3 r.t).parts.map za2.d))]++zi (za3 r.t).k))] h ?_;clear h;intro a w h
    refine wp_ret (za9 ?_)
    refine zap [.agg ([.d (.sl 3 (zR.t.parts.map za2.d))]++zi zR.t.k++[.d (.raw (.bool zR.eq))]),.c (.d (.raw (.int .i64 (if false=true then 1 else -1))))] h Exit.ret (.inl rfl)  rfl ⟨RV.agg _ 1 0 _ _ _ _ la_1 rfl rfl rfl rfl,RV.tmp _ _ rfl,trivial⟩ ?_
    rw [tight_k hpl,hc3,hc4];first | done | rfl
   ·have hc5:=hc;clear hc
    rw [hc5] at h
    refine rq za0 3 [(2,.call (zgq (za3 r.t).k ((TOk.plain hr (by decide))).kb (by omega)) td_6),(3,.cmp (op := .eql) (m:=(sgn (za3 r.t).k.val)) (n:=0) (b:=false) .i64 hc3),(11,.call (zgq (za3 r.t).k ((TOk.plain hr (by decide))).kb (by omega)) td_6),(15,.call (Lknown (decide (sgn (za3 r.t).k.val>0))) lb_3)] [(1,vp 0 0),(2,vp 1 0),(3,vi .i64 (if (decide (sgn (za3 r.t).k.val>0))=true then 1 else -1)),(4,vp 2 0)] [(0,.box ([.d (.sl 3 (r.t.parts.map za2.d))]++zi r.t.k++[.d (.raw (.bool false))])),(1,.box ([.d (.sl 3 (zR.t.parts.map za2.d))]++zi zR.t.k++[.d (.raw (.bool zR.eq))])),(2,.box ([.d (.sl 3 ((za3 r.t).parts.map za2.d))]++zi (za3 r.t).k))] h ?_;clear h;intro a w h
    refine wp_ret (za9 ?_)
    refine zap [.agg ([.d (.sl 3 (zR.t.parts.map za2.d))]++zi zR.t.k++[.d (.raw (.bool zR.eq))]),.c (.d (.raw (.int .i64 (if (decide (sgn (za3 r.t).k.val>0))=true then 1 else -1))))] h Exit.ret (.inl rfl)  rfl ⟨RV.agg _ 1 0 _ _ _ _ la_1 rfl rfl rfl rfl,RV.tmp _ _ rfl,trivial⟩ ?_
    rw [tight_k hpl,hc3,hc5];first | done | rfl
 ·have hc6:=hc;clear hc
  have hc6':=hc6;(try simp at hc6')
  refine wp_skip (za4 (wp_seq ?_))
  have hpl:(za3 r.t).parts.length≠0:=by have:=hc6;simpa using this
  have hcon:=con_pos (t:=r.t) (by omega)
  have hcon2:zbu (za3 (za3 r.t)).parts=zbu (za3 r.t).parts:=zfm _
  have hsl:=shr_len r.t
  refine rq za0 3 [] [(2,vp 1 0),(3,vi .i64 0),(4,vp 2 0),(35,vb (!r.eq))] [(1,.box [.d (.raw za6),.d (.raw (.bool false)),.d (nsl []),.d (.raw (.bool false))]),(2,.box ([.d (.sl 3 ((za3 r.t).parts.map za2.d))]++zi (za3 r.t).k))] h ?_;clear h;intro a w h
  refine zaa (!r.eq) h rfl (fun hc=>?_) (fun hc=>?_)
  ·have hc7:=hc;clear hc
   have hc7':=hc7;(try simp at hc7')
   refine rq za0 3 [(1,.call (SShrink (za3 r.t) (TOk.plain hr (by decide)) (by decide) (by decide)) ty_2)] [(2,vp 1 0),(3,vi .i64 0),(4,vp 2 0)] [(1,.box [.d (.raw za6),.d (.raw (.bool false)),.d (nsl []),.d (.raw (.bool false))]),(2,.box ([.d (.sl 3 ((zcv (za3 r.t)).parts.map za2.d))]++zi (zcv (za3 r.t)).k))] h ?_;clear h;intro a w h
   refine rq za0 3 [] [(2,vp 1 0),(3,vi .i64 0),(4,vp 2 0)] [(1,.box ([.d (.sl 3 ((zcv (za3 r.t)).parts.map za2.d))]++zi (zcv (za3 r.t)).k++[.d (.raw (.bool false))])),(2,.box ([.d (.sl 3 ((zcv (za3 r.t)).parts.map za2.d))]++zi (zcv (za3 r.t)).k))] h ?_;clear h;intro a w h
   refine wp_ret (za9 ?_)
   refine zap [.agg ([.d (.sl 3 ((zcv (za3 r.t)).parts.map za2.d))]++zi (zcv (za3 r.t)).k++[.d (.raw (.bool false))]),.c (.d (.raw (.int .i64 0)))] h Exit.ret (.inl rfl)  rfl ⟨RV.agg _ 1 0 _ _ _ _ la_1 rfl rfl rfl rfl,RV.tmp _ _ rfl,trivial⟩ ?_
   rw [tight_le hpl (by simpa using hc7)];first | done | rfl
  ·have hc8:=hc;clear hc
   have hc8':=hc8;(try simp at hc8')
   refine wp_skip (za4 (wp_seq ?_))
   obtain ⟨r12,er12,vr12,or12,lr12⟩:=mkZ (v:=zbu (za3 (za3 r.t)).parts) (m:=9002) (con_len' (TOk.plain hr (by decide)) (by decide))
   obtain ⟨r13q,er13q,vr13q,or13q,lr13q⟩:=mkZ (v:=(za3 r.t).k.val.fdiv r12.val) (m:=(za3 r.t).k.abs.length) (zhh ((TOk.plain hr (by decide))).kb (by omega))
   obtain ⟨r13r,er13r,vr13r,or13r,lr13r⟩:=mkZ (v:=(za3 r.t).k.val.fmod r12.val) (m:=r12.abs.length) (len_fmod or12 (by omega))
   refine rq za0 3 [(3,.call (Fn.cast (SContent (za3 r.t) (TOk.plain hr (by decide)) (by decide) (by decide)) (congrArg vz er12.symm)) tw_1),(4,.call (Fn.cast (SDiv (za3 r.t).k r12 ((TOk.plain hr (by decide))).kb or12 (by omega) (by omega) (by omega)) (show _=(.tup [.agg (zi r13q),.agg (zi r13r),.c (.d (.raw (.int .i64 0)))]:V) by rw [er13q,er13r];first | done | rfl)) zs_20)] [(2,vp 1 0),(3,vi .i64 0),(4,vp 2 0),(6,vp 4 0)] [(1,.box [.d (.raw za6),.d (.raw (.bool false)),.d (nsl []),.d (.raw (.bool false))]),(2,.box ([.d (.sl 3 ((za3 r.t).parts.map za2.d))]++zi (za3 r.t).k)),(4,.box (zi r13r))] h ?_;clear h;intro a w h
   refine rq za0 5 [(1,.call (zgq r13r or13r (by omega)) td_6)] [(2,vp 1 0),(3,vi .i64 0),(4,vp 2 0),(54,vb (sgn r13r.val != 0))] [(1,.box [.d (.raw za6),.d (.raw (.bool false)),.d (nsl []),.d (.raw (.bool false))]),(2,.box ([.d (.sl 3 ((za3 r.t).parts.map za2.d))]++zi (za3 r.t).k))] h ?_;clear h;intro a w h
   refine zaa (sgn r13r.val != 0) h rfl (fun hc=>?_) (fun hc=>?_)
   ·have hc9:=hc;clear hc
    have hc9':=hc9;(try simp at hc9')
    refine rq za0 5 [(0,.call (Lknown false) lb_3)] [(2,vp 1 0),(3,vi .i64 (if false=true then 1 else -1)),(4,vp 2 0)] [(1,.box ([.d (.sl 3 (zR.t.parts.map za2.d))]++zi zR.t.k++[.d (.raw (.bool zR.eq))])),(2,.box ([.d (.sl 3 ((za3 r.t).parts.map za2.d))]++zi (za3 r.t).k))] h ?_;clear h;intro a w h
    refine wp_ret (za9 ?_)
    refine zap [.agg ([.d (.sl 3 (zR.t.parts.map za2.d))]++zi zR.t.k++[.d (.raw (.bool zR.eq))]),.c (.d (.raw (.int .i64 (if false=true then 1 else -1))))] h Exit.ret (.inl rfl)  rfl ⟨RV.agg _ 1 0 _ _ _ _ la_1 rfl rfl rfl rfl,RV.tmp _ _ rfl,trivial⟩ ?_
    rw [tight_no hpl (by simpa using hc8) (by rw [← vr12,← vr13r];exact sgn_ne hc9)];first | done | rfl
   ·have hc10:=hc;clear hc
    have hc10':=hc10;(try simp at hc10')
    refine wp_skip (za4 (rq za0 5 [(1,.call (SShrink (za3 r.t) (TOk.plain hr (by decide)) (by decide) (by decide)) ty_2)] [(2,vp 1 0),(3,vi .i64 0),(4,vp 2 0)] [(1,.box [.d (.raw za6),.d (.raw (.bool false)),.d (nsl []),.d (.raw (.bool false))]),(2,.box ([.d (.sl 3 ((zcv (za3 r.t)).parts.map za2.d))]++zi (zcv (za3 r.t)).k))] h ?_));clear h;intro a w h
    refine wp_seq ?_
    obtain ⟨x17,hx17⟩:∃ z_:za2,(zcv (za3 r.t)).parts[0]?=some z_:=⟨_,List.getElem?_eq_getElem (by first | omega | (simp at *;omega))⟩
    obtain ⟨ox17,lx17⟩:=((shr_tok (TOk.plain hr (by decide)) (by decide))).get hx17
    refine rq za0 5 [(2,.gen _ _ _ fun _ _ _ _=>Op.idxD (d:=65) (t:=64) (k := .i64) zc0 (zal hx17 (f:=za2.d)) (OV.const (.int .i64 0) rfl)),(5,.call (zgq x17.c ox17 (by omega)) td_6)] [(2,vp 1 0),(3,vi .i64 0),(4,vp 2 0),(69,vb (decide (sgn x17.c.val<0)))] [(1,.box [.d (.raw za6),.d (.raw (.bool false)),.d (nsl []),.d (.raw (.bool false))]),(2,.box ([.d (.sl 3 ((zcv (za3 r.t)).parts.map za2.d))]++zi (zcv (za3 r.t)).k))] h ?_;clear h;intro a w h
    refine zaa (decide (sgn x17.c.val<0)) h rfl (fun hc=>?_) (fun hc=>?_)
    ·have hc11:=hc;clear hc
     have hc11':=of_decide_eq_true hc11
     refine rn za0 5 [(1,.call (SNeg3 (zcv (za3 r.t)) ((shr_tok (TOk.plain hr (by decide)) (by decide)).mono (by decide) (by decide))) tm_14)] [(2,vp 1 0),(3,vi .i64 0),(4,vp 2 0)] [(1,.box [.d (.raw za6),.d (.raw (.bool false)),.d (nsl []),.d (.raw (.bool false))]),(2,.box ([.d (.sl 3 ((negT (zcv (za3 r.t))).parts.map za2.d))]++zi (negT (zcv (za3 r.t))).k))] h ?_;clear h;intro a w h
     refine za4 (rq za0 5 [] [(2,vp 1 0),(3,vi .i64 0)] [(1,.box ([.d (.sl 3 ((negT (zcv (za3 r.t))).parts.map za2.d))]++zi (negT (zcv (za3 r.t))).k++[.d (.raw (.bool true))]))] h ?_);clear h;intro a w h
     refine wp_ret ?_
     refine zap [.agg ([.d (.sl 3 ((negT (zcv (za3 r.t))).parts.map za2.d))]++zi (negT (zcv (za3 r.t))).k++[.d (.raw (.bool true))]),.c (.d (.raw (.int .i64 0)))] h Exit.ret (.inl rfl)  rfl ⟨RV.agg _ 1 0 _ _ _ _ la_1 rfl rfl rfl rfl,RV.tmp _ _ rfl,trivial⟩ ?_
     rw [tight_eq hpl (by simpa using hc8) (by rw [← vr12,← vr13r];exact sgn_eq hc10) (b:=true) (by rw [first_at hx17];exact hc11)];first | done | rfl
    ·have hc12:=hc;clear hc
     have hc12':=of_decide_eq_false hc12
     refine wp_skip (za4 (rq za0 5 [] [(2,vp 1 0),(3,vi .i64 0)] [(1,.box ([.d (.sl 3 ((zcv (za3 r.t)).parts.map za2.d))]++zi (zcv (za3 r.t)).k++[.d (.raw (.bool true))]))] h ?_));clear h;intro a w h
     refine wp_ret ?_
     refine zap [.agg ([.d (.sl 3 ((zcv (za3 r.t)).parts.map za2.d))]++zi (zcv (za3 r.t)).k++[.d (.raw (.bool true))]),.c (.d (.raw (.int .i64 0)))] h Exit.ret (.inl rfl)  rfl ⟨RV.agg _ 1 0 _ _ _ _ la_1 rfl rfl rfl rfl,RV.tmp _ _ rfl,trivial⟩ ?_
     rw [tight_eq hpl (by simpa using hc8) (by rw [← vr12,← vr13r];exact sgn_eq hc10) (b:=false) (by rw [first_at hx17];exact hc12)];first | done | rfl
theorem plain_sub (s t:zbb):za3 (subT s t)=subT s t:=zcn _
theorem low_eq {t:zbb} {r:ZI} (h:r=ZI.of 1):leaR (subT (negT t) (numT r))=lowR t:=by unfold leaR lowR;rw [plain_sub,h];rfl
set_option maxHeartbeats 4000000 in
theorem Lbelow (t:zbb) (ht:TOk 300 3000 t):Fn Tryz.prog 120 [] [(vT t)] (vR (lowR t)) []:=by
 refine Fn.body Tryz.func120 rfl 9 rfl fun w H B a h=>?_
 refine rq za0 0 [] [(1,vp 0 0),(2,vp 1 0)] [(0,.box (zT t)),(1,.box [.d (.raw za6),cB false,.d (nsl []),cB false])] h ?_;clear h;intro a w h
 obtain ⟨r2,er2,vr2,or2,lr2⟩:=mkZ (v:=1) (m:=2) (ZI.len_of (by have:=pw2;omega))
 refine rq za0 2 [(1,.call (SNeg3 t (ht.mono (by decide) (by decide))) tm_14),(2,.call (Fn.cast (SOf 1 ⟨by omega,by omega⟩) (congrArg vz er2.symm)) tm_10),(3,.call (SNumber r2 or2 (by omega)) to_7),(4,.call (STSub (negT t) (numT r2) (((TOk.mul ht (ZI.lb_of _) (show (ZI.of (-1)).abs.length≤2 from by decide)).plain (by decide)).mono (by decide) (by decide)) ((TOk.num (ZI.lb_of _) (Nat.le_trans (zci or2) (by omega))).mono (by decide) (by decide))) to_9),(5,.call (LLeast (subT (negT t) (numT r2)) ((addT_ok (((TOk.mul ht (ZI.lb_of _) (show (ZI.of (-1)).abs.length≤2 from by decide)).plain (by decide)).mono (Nat.le_refl 300) (show 3003≤3003 by decide)) (((TOk.mul (TOk.num (ZI.lb_of _) (Nat.le_trans (zci or2) (by omega))) (ZI.lb_of _) (show (ZI.of (-1)).abs.length≤2 from by decide)).plain (by decide)).mono (Nat.le_refl 0) (show 103≤3003 by decide)) (by decide)).mono (by decide) (by decide))) lb_12)] [(2,vp 1 0)] [(1,.box (zR_ (leaR (subT (negT t) (numT r2)))))] h ?_;clear h;intro a w h
 refine wp_ret ?_
 refine zap [.agg (zR_ (leaR (subT (negT t) (numT r2))))] h Exit.ret (.inl rfl)  rfl ⟨RV.agg _ 1 0 _ _ _ _ la_1 rfl rfl rfl rfl,trivial⟩ ?_
 rw [← low_eq er2];first | done | rfl
set_option maxHeartbeats 4000000 in
theorem LrDeny (r:zab) (hr:TOk 300 2000 r.t):Fn Tryz.prog 95 [] [(vR r)] (vRs (zar r)) []:=by
 refine Fn.body Tryz.func95 rfl 18 rfl fun w H B a h=>?_
 refine rq za0 0 [] [(1,vp 0 0),(2,.t (.c (.d (.raw za6))))] [(0,.box (zR_ r))] h ?_;clear h;intro a w h
 refine wp_seq (rq za0 1 [] [(1,vp 0 0),(2,.t (.c (.d (.raw za6)))),(5,vb (!r.eq))] [(0,.box (zR_ r))] h ?_);clear h;intro a w h
 refine zaa (!r.eq) h rfl (fun hc=>?_) (fun hc=>?_)
 ·have hc1:=hc;clear hc
  have hc1':=hc1;(try simp at hc1')
  refine rq za0 1 [(2,.call (Lbelow r.t (hr.mono (by decide) (by decide))) lb_13),(3,.gen _ _ _ fun _ _ _ _=>Op.buildD (d:=9) (len:=1) (rows:=[(lowR r.t)].map zab.d) (rs:=[(8,(vR (lowR r.t)))]) kc_5 (.cons (i:=0) (OV.tmp 8 _) (.nil)) (by kernel_rfl) rfl (by simp [zab.d]) (by decide) (by decide))] [(1,vp 0 0),(2,(vRs [(lowR r.t)]))] [(0,.box (zR_ r))] h ?_;clear h;intro a w h
  refine wp_ret (za9 ?_)
  refine zap [.c (cRs [(lowR r.t)])] h Exit.ret (.inl rfl)  rfl ⟨RV.tmp _ _ rfl,trivial⟩ ?_
  unfold zar;rw [(show (r.eq)=false from by simpa using hc1)];first | done | rfl
 ·have hc2:=hc;clear hc
  have hc2':=hc2;(try simp at hc2')
  refine wp_skip (za4 (rq za0 1 [(2,.call (SNeg3 r.t (hr.mono (by decide) (by decide))) tm_14),(3,.call (Lbelow (negT r.t) (((TOk.mul hr (ZI.lb_of _) (show (ZI.of (-1)).abs.length≤2 from by decide)).plain (by decide)).mono (by decide) (by decide))) lb_13),(6,.call (Lbelow r.t (hr.mono (by decide) (by decide))) lb_13),(7,.gen _ _ _ fun _ _ _ _=>Op.buildD (d:=17) (len:=2) (rows:=[(lowR (negT r.t)),(lowR r.t)].map zab.d) (rs:=[(13,(vR (lowR (negT r.t)))),(16,(vR (lowR r.t)))]) kc_5 (.cons (i:=0) (OV.tmp 13 _) (.cons (i:=1) (OV.tmp 16 _) (.nil))) (by kernel_rfl) rfl (by simp [zab.d]) (by decide) (by decide))] [(2,(vRs [(lowR (negT r.t)),(lowR r.t)]))] [] h ?_));clear h;intro a w h
  refine wp_ret ?_
  refine zap [.c (cRs [(lowR (negT r.t)),(lowR r.t)])] h Exit.ret (.inl rfl)  rfl ⟨RV.tmp _ _ rfl,trivial⟩ ?_
  unfold zar;rw [(show (r.eq)=true from by simpa using hc2)];first | done | rfl
def zdu (r:zab):Int:=if r.eq=true then 1 else 0
def zch (x y:zab):Int:=orZ [cmpT x.t y.t,zbn (zdu x) (zdu y)]
set_option maxHeartbeats 4000000 in
theorem Lrank (r:zab) :Fn Tryz.prog 138 [] [(vR r)] (vi .i64 (zdu r)) []:=by
 refine Fn.body Tryz.func138 rfl 5 rfl fun w H B a h=>?_
 refine rq za0 0 [] [(1,vp 0 0),(2,vi .i64 0)] [(0,.box (zR_ r))] h ?_;clear h;intro a w h
 refine wp_seq (rq za0 1 [] [(2,vi .i64 0),(4,vb r.eq)] [] h ?_);clear h;intro a w h
 refine zaa r.eq h rfl (fun hc=>?_) (fun hc=>?_)
 ·have hc1:=hc;clear hc
  refine rq za0 1 [] [(2,vi .i64 1)] [] h ?_;clear h;intro a w h
  refine wp_ret (za9 ?_)
  refine zap [.c (cI 1)] h Exit.ret (.inl rfl)  rfl ⟨RV.tmp _ _ rfl,trivial⟩ ?_
  unfold zdu;rw [hc1];first | done | rfl
 ·have hc2:=hc;clear hc
  refine wp_skip (za4 (rq za0 1 [] [(2,vi .i64 0)] [] h ?_));clear h;intro a w h
  refine wp_ret ?_
  refine zap [.c (cI 0)] h Exit.ret (.inl rfl)  rfl ⟨RV.tmp _ _ rfl,trivial⟩ ?_
  unfold zdu;rw [hc2];first | done | rfl
set_option maxHeartbeats 4000000 in
theorem LCmp (x y:zab) {n L:Nat} (hx:TOk n L x.t) (hy:TOk n L y.t) (hn:n≤1000) (hL:L≤20000):Fn Tryz.prog 118 [] [(vR x),(vR y)] (vi .i64 (zch x y)) []:=by
 refine Fn.body Tryz.func118 rfl 17 rfl fun w H B a h=>?_
 refine rq za0 0 [] [(2,vp 0 0),(3,vp 1 0),(4,vi .i64 0)] [(0,.box (zR_ x)),(1,.box (zR_ y))] h ?_;clear h;intro a w h
 refine rq za0 2 [(4,.call (STCmp x.t y.t hx hy hn hL) tx_9),(6,.call (Lrank x) lb_16),(8,.call (Lrank y) lb_16),(9,.call (zg8 (zdu x) (zdu y)) td_5),(10,.gen _ _ _ fun _ _ _ _=>Op.buildD (d:=15) (len:=2) (rows:=[(cmpT x.t y.t),zbn (zdu x) (zdu y)].map zbo) (rs:=[(9,vi .i64 (cmpT x.t y.t)),(14,vi .i64 (zbn (zdu x) (zdu y)))]) tb_0 (.cons (i:=0) (OV.tmp 9 _) (.cons (i:=1) (OV.tmp 14 _) (.nil))) (by kernel_rfl) rfl (by simp [zbo]) (by decide) (by decide)),(11,.call (SOr [(cmpT x.t y.t),zbn (zdu x) (zdu y)] (show List.length _≤1000000 from by simp)) tx_4)] [(4,vi .i64 (orZ [(cmpT x.t y.t),zbn (zdu x) (zdu y)]))] [] h ?_;clear h;intro a w h
 refine wp_ret ?_
 refine zap [.c (cI (orZ [(cmpT x.t y.t),zbn (zdu x) (zdu y)]))] h Exit.ret (.inl rfl)  rfl ⟨RV.tmp _ _ rfl,trivial⟩ ?_
 rfl
set_option maxHeartbeats 4000000 in
theorem LSame (x y:zab) {n L:Nat} (hx:TOk n L x.t) (hy:TOk n L y.t) (hn:n≤1000) (hL:L≤20000):Fn Tryz.prog 92 [] [(vR x),(vR y)] (vb (zch x y == 0)) []:=by
 refine Fn.body Tryz.func92 rfl 9 rfl fun w H B a h=>?_
 refine rq za0 0 [] [(2,vp 0 0),(3,vp 1 0),(4,vb false)] [(0,.box (zR_ x)),(1,.box (zR_ y))] h ?_;clear h;intro a w h
 refine rq za0 2 [(2,.call (LCmp x y hx hy hn hL) lb_20)] [(4,vb ((zch x y) == 0))] [] h ?_;clear h;intro a w h
 refine wp_ret ?_
 refine zap [.c (cB ((zch x y) == 0))] h Exit.ret (.inl rfl)  rfl ⟨RV.tmp _ _ rfl,trivial⟩ ?_
 rfl
set_option maxHeartbeats 4000000 in
theorem LtightF (r:zab) (hr:TOk 400 9000 r.t):Fn Tryz.prog 94 [] [(vR r)] (vF (zaq r)) []:=by
 refine Fn.body Tryz.func94 rfl 17 rfl fun w H B a h=>?_
 refine rq za0 0 [] [(1,vp 0 0),(2,vp 1 0)] [(0,.box (zR_ r)),(1,.box [cI 0,.d (.raw za6),cB false,.d (nsl []),cB false,.d (.raw za6)])] h ?_;clear h;intro a w h
 refine rq za0 2 [(1,.call (LTight r hr) lb_21)] [(2,vp 1 0),(3,vp 2 0),(4,vi .i64 (zb0 r).2)] [(1,.box [cI 0,.d (.raw za6),cB false,.d (nsl []),cB false,.d (.raw za6)]),(2,.box (zR_ (zb0 r).1))] h ?_;clear h;intro a w h
 refine wp_seq (rq za0 3 [] [(2,vp 1 0),(3,vp 2 0),(4,vi .i64 (zb0 r).2),(11,vb ((zb0 r).2 != 0))] [(1,.box [cI 0,.d (.raw za6),cB false,.d (nsl []),cB false,.d (.raw za6)]),(2,.box (zR_ (zb0 r).1))] h ?_);clear h;intro a w h
 refine zaa ((zb0 r).2 != 0) h rfl (fun hc=>?_) (fun hc=>?_)
 ·have hc1:=hc;clear hc
  have hc1':=hc1;(try simp at hc1')
  refine rq za0 3 [(2,.call (LTruth (decide ((zb0 r).2>0))) la_8)] [(2,vp 1 0),(3,vp 2 0)] [(1,.box (zF (zdq (decide ((zb0 r).2>0))))),(2,.box (zR_ (zb0 r).1))] h ?_;clear h;intro a w h
  refine wp_ret (za9 ?_)
  refine zap [.agg (zF (zdq (decide ((zb0 r).2>0))))] h Exit.ret (.inl rfl)  rfl ⟨RV.agg _ 1 0 _ _ _ _ zf3 rfl rfl rfl rfl,trivial⟩ ?_
  unfold zaq;rw [if_neg (by simpa using hc1)];first | done | rfl
 ·have hc2:=hc;clear hc
  have hc2':=hc2;(try simp at hc2')
  refine wp_skip (za4 (rq za0 3 [] [(2,vp 1 0)] [(1,.box ([cI 2,cPs (zb0 r).1.t.parts]++zi (zb0 r).1.t.k++[cB (zb0 r).1.eq,.d (.raw za6)]))] h ?_));clear h;intro a w h
  refine wp_ret ?_
  replace h:=zd7 1 5 6 ([cI 2,cPs (zb0 r).1.t.parts]++zi (zb0 r).1.t.k++[cB (zb0 r).1.eq,.d (.raw za6)]) [(2,vp 1 0)] [(1,.box ([cI 2,cPs (zb0 r).1.t.parts]++zi (zb0 r).1.t.k++[cB (zb0 r).1.eq,cFs []]))] h rfl rfl
  refine zap [.agg ([cI 2,cPs (zb0 r).1.t.parts]++zi (zb0 r).1.t.k++[cB (zb0 r).1.eq,cFs []])] h Exit.ret (.inl rfl)  rfl ⟨RV.agg _ 1 0 _ _ _ _ zf3 rfl rfl rfl rfl,trivial⟩ ?_
  unfold zaq;rw [if_pos (by simpa using hc2)];first | done | rfl
end
section
open Go.RowKit

def za1.wid (f:za1):Nat:=f.fold fun k _ _ ws=>3+(cnt k ws).sum
theorem za1.wid_eq (f:za1):f.wid=3+((cnt f.kind f.kids).map za1.wid).sum:=by
 have:=za1.fold_eq (fun k _ _ (ws:List Nat)=>3+(cnt k ws).sum) f
 rw [zdo] at this;exact this
def za1.nodes (f:za1):Nat:=f.fold fun _ _ _ ns=>1+ns.sum
theorem za1.nodes_eq (f:za1):f.nodes=1+(f.kids.map za1.nodes).sum:=za1.fold_eq (fun _ _ _ (ns:List Nat)=>1+ns.sum) f
theorem zen (fs:List za1):fs.length≤(fs.map za1.nodes).sum:=by
 induction fs with
 | nil=>exact Nat.le_refl _
 | cons f fs ih=>rw [List.map_cons,List.sum_cons,List.length_cons,za1.nodes_eq];omega
theorem kids_nodes (f:za1):f.kids.length+1≤f.nodes:=by rw [za1.nodes_eq];have:=zen f.kids;omega
theorem zcu {k:Int}:∀ (fs out:List za1),(zbm k fs out).nodes≤1+(out.map za1.nodes).sum+(fs.map za1.nodes).sum
 | [],out=>by
  unfold zbm
  match out with
  | []=>rw [za1.nodes_eq];show 1+0≤_;omega
  | [g]=>show g.nodes≤_;simp
  | g :: q :: l=>rw [za1.nodes_eq];show 1+((g :: q :: l).map za1.nodes).sum≤_;omega
 | f :: fs,out=>by
  rw [zbm,List.map_cons,List.sum_cons]
  split
  ·omega
  ·split
   ·have:=zcu (k:=k) fs out;omega
   ·split
    ·have:=zcu (k:=k) fs (out++f.kids)
     rw [List.map_append,List.sum_append] at this
     have:=za1.nodes_eq f;omega
    ·have:=zcu (k:=k) fs (out++[f])
     rw [List.map_append,List.sum_append] at this
     simp only [List.map_cons,List.map_nil,List.sum_cons,List.sum_nil] at this
     omega
theorem zff (r:zab):(zaq r).nodes=1:=by
 unfold zaq;split <;> (rw [za1.nodes_eq];rfl)
theorem sum_le {α:Type} {F G:α→Nat}:∀ {xs:List α}, (∀ x ∈ xs,F x≤G x)→(xs.map F).sum≤(xs.map G).sum
 | [],_=>Nat.le_refl _
 | x :: xs,h=>by
  rw [List.map_cons,List.map_cons,List.sum_cons,List.sum_cons]
  have:=h x (List.mem_cons_self ..);have:=sum_le (xs:=xs) fun y hy=>h y (List.mem_cons_of_mem _ hy);omega
theorem flat_nodes (f:za1):∀ d,(f.flat d).nodes≤f.wid :=
 za1.ind (P:=fun f=>∀ d,(f.flat d).nodes≤f.wid) (fun k r ks ih d=>by
  rw [za1.flat_eq,za1.wid_eq]
  show (zgl k r (ks.map za1.flat) d).nodes≤3+((cnt k ks).map za1.wid).sum
  have ht:∀ b,(zdq b).nodes=1:=fun b=>by rw [za1.nodes_eq];rfl
  unfold zgl
  split
  ·rw [ht];omega
  ·split
   ·split
    ·have h1:=zcu (k:=5) ((zar r).map zaq) []
     rw [List.map_map] at h1
     have e:(za1.nodes ∘ zaq)=fun _=>1:=funext fun q=>zff q
     rw [e] at h1
     have h2:((zar r).map fun _=>(1:Nat)).sum≤2:=by unfold zar;split <;> simp
     show (zbm 5 _ []).nodes≤_
     simp only [List.map_nil,List.sum_nil] at h1
     omega
    ·rw [zff];omega
   ·split
    ·rename_i h3
     cases ks with
     | nil=>show (zdq d).nodes≤_;rw [ht];omega
     | cons g gs =>
      subst h3
      have:=ih g (List.mem_cons_self ..) (!d)
      show (g.flat (!d)).nodes≤3+(([g]).map za1.wid).sum
      simp only [List.map_cons,List.map_nil,List.sum_cons,List.sum_nil];omega
    ·split
     ·rename_i h4
      have h1:=zcu (k:=if d=true then 9 - k else k) ((ks.map za1.flat).map fun c=>c d) []
      rw [List.map_map,List.map_map] at h1
      have h2:(ks.map (za1.nodes ∘ ((fun c=>c d) ∘ za1.flat))).sum≤(ks.map za1.wid).sum:=sum_le fun g hg=>ih g hg d
      show (zbm _ _ []).nodes≤_
      rw [show cnt k ks=ks from by unfold cnt;rw [if_pos h4],List.map_map]
      simp only [List.map_nil,List.sum_nil] at h1
      omega
     ·rw [ht];omega) f
theorem tight_tok {n L:Nat} {r:zab} (h:TOk n L r.t) (hn:n≤1000):TOk n (L+4) (zb0 r).1.t:=by
 have hs:=shr_tok h hn
 unfold zb0
 split
 ·exact ⟨Nat.zero_le _,(fun p hp=>by cases hp),zfc,Nat.zero_le _⟩
 ·split
  ·exact ⟨Nat.zero_le _,(fun p hp=>by cases hp),zfc,Nat.zero_le _⟩
  ·show TOk n (L+4) (if _ then neg1 (zcv r.t) else zcv r.t)
   split
   ·exact ((TOk.mul hs (ZI.lb_of _) (show (ZI.of (-1)).abs.length≤2 from by decide)).plain hn).mono (Nat.le_refl _) (by omega)
   ·exact hs.mono (Nat.le_refl _) (by omega)
theorem neg1_tok {n L:Nat} {t:zbb} (h:TOk n L t) (hn:n≤1000):TOk n (L+3) (neg1 t):=(TOk.mul h (ZI.lb_of _) (show (ZI.of (-1)).abs.length≤2 from by decide)).plain hn
theorem low_tok {n L:Nat} {t:zbb} (h:TOk n L t) (hn:n≤1000):TOk n (2*L+16) (lowR t).t:=by
 have h1:=(neg1_tok h hn).mono (Nat.le_refl n) (show L+3≤L+6 by omega)
 have h0:TOk 0 2 (numT (ZI.of 1)):=TOk.num (ZI.lb_of _) (by decide)
 have h2:TOk 0 (L+6) (zei (numT (ZI.of 1)) (ZI.of (-1))):=((TOk.mul h0 (ZI.lb_of _) (show (ZI.of (-1)).abs.length≤2 from by decide)).plain (by decide)).mono (Nat.le_refl _) (by omega)
 exact (addT_ok h1 h2 (by omega)).mono (by omega) (by omega)
theorem deny_tok {n L:Nat} {r:zab} (h:TOk n L r.t) (hn:n≤1000):∀ q ∈ zar r,TOk n (2*L+22) q.t:=fun q hq=>by
 unfold zar at hq
 split at hq
 ·rcases List.mem_cons.1 hq with rfl | hq
  ·exact (low_tok (neg1_tok h hn) hn).mono (Nat.le_refl _) (by omega)
  ·rw [List.mem_singleton.1 hq];exact (low_tok h hn).mono (Nat.le_refl _) (by omega)
 ·rw [List.mem_singleton.1 hq];exact (low_tok h hn).mono (Nat.le_refl _) (by omega)
theorem wid_kid {f g:za1} (h:g ∈ cnt f.kind f.kids):g.wid≤f.wid:=by
 rw [za1.wid_eq f]
 have:∀ (xs:List za1),g ∈ xs→g.wid≤(xs.map za1.wid).sum:=fun xs=>by
  induction xs with
  | nil=>intro h;cases h
  | cons x xs ih =>
   intro h
   rw [List.map_cons,List.sum_cons]
   rcases List.mem_cons.1 h with rfl | h
   ·omega
   ·have:=ih h;omega
 have:=this _ h;omega
theorem flats_nodes {ks:List za1} {k:Int} (h4:k=4∨k=5) {r:zab} (d:Bool) (_hw:(za1.mk k r ks).wid≤1000000):((ks.map fun g=>g.flat d).map za1.nodes).sum≤(za1.mk k r ks).wid:=by
 rw [za1.wid_eq]
 rw [List.map_map,show cnt (za1.mk k r ks).kind (za1.mk k r ks).kids=ks from (show cnt k ks=ks from by unfold cnt;rw [if_pos h4])]
 have:(ks.map (za1.nodes ∘ fun g=>g.flat d)).sum≤(ks.map za1.wid).sum:=sum_le fun g _=>flat_nodes g d
 omega
end
section
open Go.RowKit

theorem ld4_5:za7 Tryz.prog 61:=za7.mk' (by kernel_rfl)
theorem ld4_6:za7 Tryz.prog 94:=za7.mk' (by kernel_rfl)
theorem ld4_7:za7 Tryz.prog 95:=za7.mk' (by kernel_rfl)
theorem ld4_9:za7 Tryz.prog 96:=za7.mk' (by kernel_rfl)
theorem ld4_10:za7 Tryz.prog 97:=za7.mk' (by kernel_rfl)
theorem zbc {k:Int} {fs:List za1} {j:Nat} {x:za1} {out:List za1} (h:fs[j]?=some x):zbm k (fs.drop j) out=if (k=4∧x.kind=1)∨(k=5∧x.kind=0) then x else if x.kind=0∨x.kind=1 then zbm k (fs.drop (j+1)) out else if x.kind=k then zbm k (fs.drop (j+1)) (out++x.kids) else zbm k (fs.drop (j+1)) (out++[x]):=by
 obtain ⟨hj,rfl⟩:=List.getElem?_eq_some_iff.1 h
 rw [List.drop_eq_getElem_cons hj,zbm]
theorem zb7 {fs:List za1} {j:Nat} {x:za1} (h:fs[j]?=some x):((fs.drop j).map za1.nodes).sum=x.nodes+((fs.drop (j+1)).map za1.nodes).sum:=by
 obtain ⟨hj,rfl⟩:=List.getElem?_eq_some_iff.1 h
 rw [List.drop_eq_getElem_cons hj,List.map_cons,List.sum_cons]
theorem zbh (xs ys:List za1):((xs++ys).map za1.nodes).sum=(xs.map za1.nodes).sum+(ys.map za1.nodes).sum:=by rw [List.map_append,List.sum_append]
theorem zbp (x:za1):([x].map za1.nodes).sum=x.nodes:=by simp
theorem join_nil {k:Int} {out:List za1} (h:out.length=0):zbm k [] out=zdq (k == 4):=by rw [List.length_eq_zero_iff.1 h];rfl
theorem join_one {k:Int} {out:List za1} {g:za1} (h:out.length=1) (hg:out[0]?=some g):zbm k [] out=g:=by
 match out with
 | [q]=>injection hg with hg
 | _ :: _ :: _=>simp at h
theorem join_two {k:Int} {out:List za1} (h0:out.length≠0) (h1:out.length≠1):zbm k [] out=⟨k,zR,out⟩:=by
 match out with
 | []=>exact absurd rfl h0
 | [q]=>exact absurd rfl h1
 | _ :: _ :: _=>rfl
set_option maxHeartbeats 4000000 in
theorem Ljoin (k:Int) (fs:List za1) (hk:k=4∨k=5) (hn:(fs.map za1.nodes).sum≤1000000):Fn Tryz.prog 96 [] [vi .i64 k,(vFs fs)] (vF (zd0 k fs)) []:=by
 have lf:=zen fs
 refine Fn.body Tryz.func96 rfl 68 rfl fun w H B a h=>?_
 refine rq za0 5 [] [(0,vi .i64 k),(1,(vFs fs)),(4,vp 5 0)] [(5,.box [cI 0,.d (.raw za6),cB false,.d (nsl []),cB false,.d (.raw za6)])] h ?_;clear h;intro a w h
 refine rq za0 6 [] [(0,vi .i64 k),(1,(vFs fs)),(4,vp 5 0),(5,.t (.c (.d (.raw za6))))] [(5,.box [cI 0,.d (.raw za6),cB false,.d (nsl []),cB false,.d (.raw za6)])] h ?_;clear h;intro a w h
 refine wp_seq (rq za0 6 [(1,.len (c:=(cFs fs)) (n:=fs.length) (zae _ _ _))] [(0,vi .i64 k),(4,vp 5 0),(5,.t (.c (.d (.raw za6)))),(8,(vFs fs)),(9,vi .i64 (fs.length:Int)),(10,vi .i64 0)] [(5,.box [cI 0,.d (.raw za6),cB false,.d (nsl []),cB false,.d (.raw za6)])] h ?_);clear h;intro a w h
 refine wp_block ?_
 replace h:=zel 5 0 6 6 60 (.t (.c (.d (.raw za6)))) [(0,vi .i64 k),(4,vp 5 0),(5,.t (.c (.own 6 0))),(8,(vFs fs)),(9,vi .i64 (fs.length:Int)),(10,vi .i64 0)] [(5,.box [cI 0,.d (.raw za6),cB false,.d (nsl []),cB false,.d (.raw za6)]),(6,.row 60 6 ([].map za1.d))] h (by kernel_rfl) rfl rfl
 refine zb1 (ι:=(Nat) × (List za1)) (fun (z_:(Nat) × (List za1))=>match z_ with | (j,out)=>j≤fs.length∧zd0 k fs=zbm k (fs.drop j) out∧(out.map za1.nodes).sum+((fs.drop j).map za1.nodes).sum≤1000000)
   (fun (z_:(Nat) × (List za1))=>match z_ with | (j,out)=>[(0,vi .i64 k),(4,vp 5 0),(5,.t (.c (.own 6 out.length))),(8,(vFs fs)),(9,vi .i64 (fs.length:Int)),(10,vi .i64 (j:Int))])
   (fun (z_:(Nat) × (List za1))=>match z_ with | (j,out)=>[(5,.box [cI 0,.d (.raw za6),cB false,.d (nsl []),cB false,.d (.raw za6)]),(6,.row 60 6 (out.map za1.d))])
   (fun (z_:(Nat) × (List za1))=>match z_ with | (j,out)=>fs.length - j) (0,[]) ?_ h (by kernel_rfl) (by kernel_rfl) ?_
 ·exact ⟨Nat.zero_le _,rfl,by show 0+(fs.map za1.nodes).sum≤_;omega⟩
 ·clear h;rintro ⟨j,out⟩ a w hI h
  change St _ (F.of [(0,vi .i64 k),(4,vp 5 0),(5,.t (.c (.own 6 out.length))),(8,(vFs fs)),(9,vi .i64 (fs.length:Int)),(10,vi .i64 (j:Int))] [(5,.box [cI 0,.d (.raw za6),cB false,.d (nsl []),cB false,.d (.raw za6)]),(6,.row 60 6 (out.map za1.d))]) a w at h
  obtain ⟨hI1,hI2,hI3⟩:=hI
  have lo:=zen out
  refine rq za0 7 [] [(0,vi .i64 k),(4,vp 5 0),(5,.t (.c (.own 6 out.length))),(8,(vFs fs)),(9,vi .i64 (fs.length:Int)),(10,vi .i64 (j:Int)),(11,vb (decide ((j:Int)<(fs.length:Int))))] [(5,.box [cI 0,.d (.raw za6),cB false,.d (nsl []),cB false,.d (.raw za6)]),(6,.row 60 6 (out.map za1.d))] h ?_;clear h;intro a w h
  refine wp_seq ?_
  refine zaa (decide ((j:Int)<(fs.length:Int))) h rfl (fun hc=>?_) (fun hc=>?_)
  ·have hc1:=hc;clear hc
   have hc1':=of_decide_eq_true hc1
   refine wp_skip (za4 (wp_seq (wp_block ?_)))
   obtain ⟨x1,hx1⟩:∃ z_:za1,fs[j]?=some z_:=⟨_,List.getElem?_eq_getElem (by first | omega | (simp at *;omega))⟩
   have knx1:=kids_nodes x1
   have dnx1:=zb7 hx1
   refine rq za0 7 [(0,.gen _ _ _ fun _ _ _ _=>Op.idxD (d:=12) (t:=8) (k := .i64) kb_0 ((zal hx1 (f:=za1.d)).trans (congrArg some (za1.d_eq x1))) (OV.tmp 10 _))] [(0,vi .i64 k),(4,vp 5 0),(5,.t (.c (.own 6 out.length))),(7,vp 7 0),(8,(vFs fs)),(9,vi .i64 (fs.length:Int)),(10,vi .i64 (j:Int))] [(5,.box [cI 0,.d (.raw za6),cB false,.d (nsl []),cB false,.d (.raw za6)]),(6,.row 60 6 (out.map za1.d)),(7,.box (zF x1))] h ?_;clear h;intro a w h
   refine wp_block (wp_seq ?_)
   rcases Bool.eq_false_or_eq_true (k == 4) with hc | hc
   ·have hc2:=hc;clear hc
    have hc2':=hc2;(try simp at hc2')
    refine rq za0 8 [(1,.cmp (op := .eql) (m:=k) (n:=4) (b:=true) .i64 hc2)] [(0,vi .i64 k),(4,vp 5 0),(5,.t (.c (.own 6 out.length))),(7,vp 7 0),(8,(vFs fs)),(9,vi .i64 (fs.length:Int)),(10,vi .i64 (j:Int)),(18,vb (x1.kind == 1))] [(5,.box [cI 0,.d (.raw za6),cB false,.d (nsl []),cB false,.d (.raw za6)]),(6,.row 60 6 (out.map za1.d)),(7,.box (zF x1))] h ?_;clear h;intro a w h
    refine zaa (x1.kind == 1) h rfl (fun hc=>?_) (fun hc=>?_)
    ·have hc3:=hc;clear hc
     have hc3':=hc3;(try simp at hc3')
     refine wp_skip (za4 ?_)
     refine zaa (x1.kind == 1) h rfl (fun hc=>?_) (fun hc=>?_)
     ·clear hc
      refine rq za0 8 [] [(0,vi .i64 k),(4,vp 5 0),(5,.t (.c (.own 6 out.length))),(8,(vFs fs)),(9,vi .i64 (fs.length:Int)),(10,vi .i64 (j:Int))] [(5,.box (zF x1)),(6,.row 60 6 (out.map za1.d))] h ?_;clear h;intro a w h
      refine wp_ret (zaf (zaf (za9 (za9 (zaf (za9 ?_))))))
      refine zap [.agg (zF x1)] h Exit.ret (.inl rfl)  rfl ⟨RV.agg _ 5 0 _ _ _ _ zf3 rfl rfl rfl rfl,trivial⟩ ?_
      have p0: k=4:=by have:=hc2;simpa using this
      have p1: x1.kind=1:=by have:=hc3;simpa using this
      have hz:zd0 k fs=x1:=by rw [hI2,zbc hx1,if_pos (by omega)]
      rw [hz];first | done | rfl
     ·rw [hc3] at hc;cases hc
    ·have hc4:=hc;clear hc
     have hc4':=hc4;(try simp at hc4')
     rcases Bool.eq_false_or_eq_true (k == 5) with hc | hc
     ·have hc5:=hc;clear hc
      have hc5':=hc5;(try simp at hc5')
      refine rn za0 8 [(1,.cmp (op := .eql) (m:=k) (n:=5) (b:=true) .i64 hc5)] [(0,vi .i64 k),(4,vp 5 0),(5,.t (.c (.own 6 out.length))),(7,vp 7 0),(8,(vFs fs)),(9,vi .i64 (fs.length:Int)),(10,vi .i64 (j:Int)),(18,vb (x1.kind == 0))] [(5,.box [cI 0,.d (.raw za6),cB false,.d (nsl []),cB false,.d (.raw za6)]),(6,.row 60 6 (out.map za1.d)),(7,.box (zF x1))] h ?_;clear h;intro a w h
      refine za4 ?_
      refine zaa (x1.kind == 0) h rfl (fun hc=>?_) (fun hc=>?_)
      ·have hc6:=hc;clear hc
       have hc6':=hc6;(try simp at hc6')
       refine rq za0 8 [] [(0,vi .i64 k),(4,vp 5 0),(5,.t (.c (.own 6 out.length))),(8,(vFs fs)),(9,vi .i64 (fs.length:Int)),(10,vi .i64 (j:Int))] [(5,.box (zF x1)),(6,.row 60 6 (out.map za1.d))] h ?_;clear h;intro a w h
       refine wp_ret (zaf (zaf (za9 (za9 (zaf (za9 ?_))))))
       refine zap [.agg (zF x1)] h Exit.ret (.inl rfl)  rfl ⟨RV.agg _ 5 0 _ _ _ _ zf3 rfl rfl rfl rfl,trivial⟩ ?_
       have p0: k=4:=by have:=hc2;simpa using this
       have p1:¬ x1.kind=1:=by have:=hc4;simpa using this
       have p2: k=5:=by have:=hc5;simpa using this
       have p3: x1.kind=0:=by have:=hc6;simpa using this
       have hz:zd0 k fs=x1:=by rw [hI2,zbc hx1,if_pos (by omega)]
       rw [hz];first | done | rfl
      ·have hc7:=hc;clear hc
       have hc7':=hc7;(try simp at hc7')
       refine rq za0 8 [(2,.cmp (op := .eql) (m:=x1.kind) (n:=0) (b:=false) .i64 hc7),(6,.cmp (op := .eql) (m:=x1.kind) (n:=1) (b:=false) .i64 hc4)] [(0,vi .i64 k),(4,vp 5 0),(5,.t (.c (.own 6 out.length))),(7,vp 7 0),(8,(vFs fs)),(9,vi .i64 (fs.length:Int)),(10,vi .i64 (j:Int)),(34,vb false)] [(5,.box [cI 0,.d (.raw za6),cB false,.d (nsl []),cB false,.d (.raw za6)]),(6,.row 60 6 (out.map za1.d)),(7,.box (zF x1))] h ?_;clear h;intro a w h
       refine zaa false h rfl (fun hc=>?_) (fun hc=>?_)
       ·cases hc
       ·clear hc
        refine rq za0 8 [] [(0,vi .i64 k),(4,vp 5 0),(5,.t (.c (.own 6 out.length))),(7,vp 7 0),(8,(vFs fs)),(9,vi .i64 (fs.length:Int)),(10,vi .i64 (j:Int)),(43,vb (x1.kind == k))] [(5,.box [cI 0,.d (.raw za6),cB false,.d (nsl []),cB false,.d (.raw za6)]),(6,.row 60 6 (out.map za1.d)),(7,.box (zF x1))] h ?_;clear h;intro a w h
        refine zaa (x1.kind == k) h rfl (fun hc=>?_) (fun hc=>?_)
        ·have hc8:=hc;clear hc
         have hc8':=hc8;(try simp at hc8')
         refine rn za0 8 [(3,.gen _ _ _ fun _ _ _ _=>Op.appOD (d:=51) (t:=48) (u:=50) (n:=6) (n':=8) (len:=out.length) (len':=(out++x1.kids).length) (rows:=out.map za1.d) (rows2:=x1.kids.map za1.d) (rows':=(out++x1.kids).map za1.d) la_7 (by first | exact (List.length_map _).symm | simp) (by first | (rw [List.length_append,List.length_map];done) | simp) (by simp) (by simp [za1.d_len]) (by first | omega | (simp at *;done) | (simp at *;omega)))] [(0,vi .i64 k),(4,vp 5 0),(5,.t (.c (.own 8 (out++x1.kids).length))),(8,(vFs fs)),(9,vi .i64 (fs.length:Int)),(10,vi .i64 (j:Int))] [(5,.box [cI 0,.d (.raw za6),cB false,.d (nsl []),cB false,.d (.raw za6)]),(8,.row 60 6 ((out++x1.kids).map za1.d))] h ?_;clear h;intro a w h
         refine zac (zac (za4 (rn za0 9 [(0,.add .i64 (m:=(j:Int)) (n:=1) (zad (by omega) (by omega)))] [(0,vi .i64 k),(4,vp 5 0),(5,.t (.c (.own 8 (out++x1.kids).length))),(8,(vFs fs)),(9,vi .i64 (fs.length:Int)),(10,vi .i64 ((j:Int)+1))] [(5,.box [cI 0,.d (.raw za6),cB false,.d (nsl []),cB false,.d (.raw za6)]),(8,.row 60 6 ((out++x1.kids).map za1.d))] h ?_)));clear h;intro a w h
         refine za4 ?_
         replace h:=zc7 8 6 [(0,vi .i64 k),(4,vp 5 0),(5,.t (.c (.own 6 (out++x1.kids).length))),(8,(vFs fs)),(9,vi .i64 (fs.length:Int)),(10,vi .i64 ((j:Int)+1))] [(5,.box [cI 0,.d (.raw za6),cB false,.d (nsl []),cB false,.d (.raw za6)]),(6,.row 60 6 ((out++x1.kids).map za1.d))] h
         refine zam (x:=(j,out)) (y:=(j+1,(out++x1.kids))) h ?_ ?_
         ·have:=zak hx1
          have hdn:=zb7 hx1
          have hxn:=za1.nodes_eq x1
          have p0: k=4:=by have:=hc2;simpa using this
          have p1:¬ x1.kind=1:=by have:=hc4;simpa using this
          have p2: k=5:=by have:=hc5;simpa using this
          have p3:¬ x1.kind=0:=by have:=hc7;simpa using this
          have p4: x1.kind=k:=by have:=hc8;simpa using this
          exact ⟨by omega,by rw [hI2,zbc hx1,if_neg (by omega),if_neg (by omega),if_pos (by omega)],by first | omega | (rw [zbh];(try rw [zbp]);omega)⟩
         ·show fs.length - (j+1)<fs.length - j
          have:=zak hx1;omega
        ·have hc9:=hc;clear hc
         have hc9':=hc9;(try simp at hc9')
         refine rn za0 9 [(2,.gen _ _ _ fun _ _ _ _=>Op.buildD (d:=16) (len:=1) (rows:=[x1].map za1.d) (rs:=[(15,(vF x1))]) kb_1 (.cons (i:=0) (OV.tmp 15 _) (.nil)) (by simp only [List.map_cons,List.map_nil,List.flatten_cons,List.flatten_nil,List.append_nil,za1.d_eq];kernel_rfl) rfl (by simp [za1.d_len]) (by decide) (by decide)),(3,.gen _ _ _ fun _ _ _ _=>Op.appOD (d:=17) (t:=14) (u:=16) (n:=6) (n':=9) (len:=out.length) (len':=(out++[x1]).length) (rows:=out.map za1.d) (rows2:=[x1].map za1.d) (rows':=(out++[x1]).map za1.d) la_7 (by first | exact (List.length_map _).symm | simp) (by first | (rw [List.length_append,List.length_map];done) | simp) (by simp) (by simp [za1.d_len]) (by first | omega | (simp at *;done) | (simp at *;omega)))] [(0,vi .i64 k),(4,vp 5 0),(5,.t (.c (.own 9 (out++[x1]).length))),(8,(vFs fs)),(9,vi .i64 (fs.length:Int)),(10,vi .i64 (j:Int))] [(5,.box [cI 0,.d (.raw za6),cB false,.d (nsl []),cB false,.d (.raw za6)]),(9,.row 60 6 ((out++[x1]).map za1.d))] h ?_;clear h;intro a w h
         refine zac (zac (za4 (rn za0 10 [(0,.add .i64 (m:=(j:Int)) (n:=1) (zad (by omega) (by omega)))] [(0,vi .i64 k),(4,vp 5 0),(5,.t (.c (.own 9 (out++[x1]).length))),(8,(vFs fs)),(9,vi .i64 (fs.length:Int)),(10,vi .i64 ((j:Int)+1))] [(5,.box [cI 0,.d (.raw za6),cB false,.d (nsl []),cB false,.d (.raw za6)]),(9,.row 60 6 ((out++[x1]).map za1.d))] h ?_)));clear h;intro a w h
         refine za4 ?_
         replace h:=zc7 9 6 [(0,vi .i64 k),(4,vp 5 0),(5,.t (.c (.own 6 (out++[x1]).length))),(8,(vFs fs)),(9,vi .i64 (fs.length:Int)),(10,vi .i64 ((j:Int)+1))] [(5,.box [cI 0,.d (.raw za6),cB false,.d (nsl []),cB false,.d (.raw za6)]),(6,.row 60 6 ((out++[x1]).map za1.d))] h
         refine zam (x:=(j,out)) (y:=(j+1,(out++[x1]))) h ?_ ?_
         ·have:=zak hx1
          have hdn:=zb7 hx1
          have hxn:=za1.nodes_eq x1
          have p0: k=4:=by have:=hc2;simpa using this
          have p1:¬ x1.kind=1:=by have:=hc4;simpa using this
          have p2: k=5:=by have:=hc5;simpa using this
          have p3:¬ x1.kind=0:=by have:=hc7;simpa using this
          have p4:¬ x1.kind=k:=by have:=hc9;simpa using this
          exact ⟨by omega,by rw [hI2,zbc hx1,if_neg (by omega),if_neg (by omega),if_neg (by omega)],by first | omega | (rw [zbh];(try rw [zbp]);omega)⟩
         ·show fs.length - (j+1)<fs.length - j
          have:=zak hx1;omega
     ·have hc10:=hc;clear hc
      have hc10':=hc10;(try simp at hc10')
      refine rn za0 10 [(1,.cmp (op := .eql) (m:=k) (n:=5) (b:=false) .i64 hc10)] [(0,vi .i64 k),(4,vp 5 0),(5,.t (.c (.own 6 out.length))),(7,vp 7 0),(8,(vFs fs)),(9,vi .i64 (fs.length:Int)),(10,vi .i64 (j:Int)),(18,vb false)] [(5,.box [cI 0,.d (.raw za6),cB false,.d (nsl []),cB false,.d (.raw za6)]),(6,.row 60 6 (out.map za1.d)),(7,.box (zF x1))] h ?_;clear h;intro a w h
      refine za4 ?_
      refine zaa false h rfl (fun hc=>?_) (fun hc=>?_)
      ·cases hc
      ·clear hc
       rcases Bool.eq_false_or_eq_true (x1.kind == 0) with hc | hc
       ·have hc11:=hc;clear hc
        have hc11':=hc11;(try simp at hc11')
        refine rq za0 10 [(2,.cmp (op := .eql) (m:=x1.kind) (n:=0) (b:=true) .i64 hc11)] [(0,vi .i64 k),(4,vp 5 0),(5,.t (.c (.own 6 out.length))),(7,vp 7 0),(8,(vFs fs)),(9,vi .i64 (fs.length:Int)),(10,vi .i64 (j:Int)),(34,vb true)] [(5,.box [cI 0,.d (.raw za6),cB false,.d (nsl []),cB false,.d (.raw za6)]),(6,.row 60 6 (out.map za1.d)),(7,.box (zF x1))] h ?_;clear h;intro a w h
        refine zaa true h rfl (fun hc=>?_) (fun hc=>?_)
        ·clear hc
         refine wp_skip (zac (zac (za4 (rn za0 10 [(0,.add .i64 (m:=(j:Int)) (n:=1) (zad (by omega) (by omega)))] [(0,vi .i64 k),(4,vp 5 0),(5,.t (.c (.own 6 out.length))),(8,(vFs fs)),(9,vi .i64 (fs.length:Int)),(10,vi .i64 ((j:Int)+1))] [(5,.box [cI 0,.d (.raw za6),cB false,.d (nsl []),cB false,.d (.raw za6)]),(6,.row 60 6 (out.map za1.d))] h ?_))));clear h;intro a w h
         refine za4 ?_
         refine zam (x:=(j,out)) (y:=(j+1,out)) h ?_ ?_
         ·have:=zak hx1
          have hdn:=zb7 hx1
          have hxn:=za1.nodes_eq x1
          have p0: k=4:=by have:=hc2;simpa using this
          have p1:¬ x1.kind=1:=by have:=hc4;simpa using this
          have p2:¬ k=5:=by have:=hc10;simpa using this
          have p3: x1.kind=0:=by have:=hc11;simpa using this
          exact ⟨by omega,by rw [hI2,zbc hx1,if_neg (by omega),if_pos (by omega)],by first | omega | (rw [zbh];(try rw [zbp]);omega)⟩
         ·show fs.length - (j+1)<fs.length - j
          have:=zak hx1;omega
        ·cases hc
       ·have hc12:=hc;clear hc
        have hc12':=hc12;(try simp at hc12')
        refine rq za0 10 [(2,.cmp (op := .eql) (m:=x1.kind) (n:=0) (b:=false) .i64 hc12),(6,.cmp (op := .eql) (m:=x1.kind) (n:=1) (b:=false) .i64 hc4)] [(0,vi .i64 k),(4,vp 5 0),(5,.t (.c (.own 6 out.length))),(7,vp 7 0),(8,(vFs fs)),(9,vi .i64 (fs.length:Int)),(10,vi .i64 (j:Int)),(34,vb false)] [(5,.box [cI 0,.d (.raw za6),cB false,.d (nsl []),cB false,.d (.raw za6)]),(6,.row 60 6 (out.map za1.d)),(7,.box (zF x1))] h ?_;clear h;intro a w h
        refine zaa false h rfl (fun hc=>?_) (fun hc=>?_)
        ·cases hc
        ·clear hc
         refine rq za0 10 [] [(0,vi .i64 k),(4,vp 5 0),(5,.t (.c (.own 6 out.length))),(7,vp 7 0),(8,(vFs fs)),(9,vi .i64 (fs.length:Int)),(10,vi .i64 (j:Int)),(43,vb (x1.kind == k))] [(5,.box [cI 0,.d (.raw za6),cB false,.d (nsl []),cB false,.d (.raw za6)]),(6,.row 60 6 (out.map za1.d)),(7,.box (zF x1))] h ?_;clear h;intro a w h
         refine zaa (x1.kind == k) h rfl (fun hc=>?_) (fun hc=>?_)
         ·have hc13:=hc;clear hc
          have hc13':=hc13;(try simp at hc13')
          refine rn za0 10 [(3,.gen _ _ _ fun _ _ _ _=>Op.appOD (d:=51) (t:=48) (u:=50) (n:=6) (n':=10) (len:=out.length) (len':=(out++x1.kids).length) (rows:=out.map za1.d) (rows2:=x1.kids.map za1.d) (rows':=(out++x1.kids).map za1.d) la_7 (by first | exact (List.length_map _).symm | simp) (by first | (rw [List.length_append,List.length_map];done) | simp) (by simp) (by simp [za1.d_len]) (by first | omega | (simp at *;done) | (simp at *;omega)))] [(0,vi .i64 k),(4,vp 5 0),(5,.t (.c (.own 10 (out++x1.kids).length))),(8,(vFs fs)),(9,vi .i64 (fs.length:Int)),(10,vi .i64 (j:Int))] [(5,.box [cI 0,.d (.raw za6),cB false,.d (nsl []),cB false,.d (.raw za6)]),(10,.row 60 6 ((out++x1.kids).map za1.d))] h ?_;clear h;intro a w h
          refine zac (zac (za4 (rn za0 11 [(0,.add .i64 (m:=(j:Int)) (n:=1) (zad (by omega) (by omega)))] [(0,vi .i64 k),(4,vp 5 0),(5,.t (.c (.own 10 (out++x1.kids).length))),(8,(vFs fs)),(9,vi .i64 (fs.length:Int)),(10,vi .i64 ((j:Int)+1))] [(5,.box [cI 0,.d (.raw za6),cB false,.d (nsl []),cB false,.d (.raw za6)]),(10,.row 60 6 ((out++x1.kids).map za1.d))] h ?_)));clear h;intro a w h
          refine za4 ?_
          replace h:=zc7 10 6 [(0,vi .i64 k),(4,vp 5 0),(5,.t (.c (.own 6 (out++x1.kids).length))),(8,(vFs fs)),(9,vi .i64 (fs.length:Int)),(10,vi .i64 ((j:Int)+1))] [(5,.box [cI 0,.d (.raw za6),cB false,.d (nsl []),cB false,.d (.raw za6)]),(6,.row 60 6 ((out++x1.kids).map za1.d))] h
          refine zam (x:=(j,out)) (y:=(j+1,(out++x1.kids))) h ?_ ?_
          ·have:=zak hx1
           have hdn:=zb7 hx1
           have hxn:=za1.nodes_eq x1
           have p0: k=4:=by have:=hc2;simpa using this
           have p1:¬ x1.kind=1:=by have:=hc4;simpa using this
           have p2:¬ k=5:=by have:=hc10;simpa using this
           have p3:¬ x1.kind=0:=by have:=hc12;simpa using this
           have p4: x1.kind=k:=by have:=hc13;simpa using this
           exact ⟨by omega,by rw [hI2,zbc hx1,if_neg (by omega),if_neg (by omega),if_pos (by omega)],by first | omega | (rw [zbh];(try rw [zbp]);omega)⟩
          ·show fs.length - (j+1)<fs.length - j
           have:=zak hx1;omega
         ·have hc14:=hc;clear hc
          have hc14':=hc14;(try simp at hc14')
          refine rn za0 11 [(2,.gen _ _ _ fun _ _ _ _=>Op.buildD (d:=16) (len:=1) (rows:=[x1].map za1.d) (rs:=[(15,(vF x1))]) kb_1 (.cons (i:=0) (OV.tmp 15 _) (.nil)) (by simp only [List.map_cons,List.map_nil,List.flatten_cons,List.flatten_nil,List.append_nil,za1.d_eq];kernel_rfl) rfl (by simp [za1.d_len]) (by decide) (by decide)),(3,.gen _ _ _ fun _ _ _ _=>Op.appOD (d:=17) (t:=14) (u:=16) (n:=6) (n':=11) (len:=out.length) (len':=(out++[x1]).length) (rows:=out.map za1.d) (rows2:=[x1].map za1.d) (rows':=(out++[x1]).map za1.d) la_7 (by first | exact (List.length_map _).symm | simp) (by first | (rw [List.length_append,List.length_map];done) | simp) (by simp) (by simp [za1.d_len]) (by first | omega | (simp at *;done) | (simp at *;omega)))] [(0,vi .i64 k),(4,vp 5 0),(5,.t (.c (.own 11 (out++[x1]).length))),(8,(vFs fs)),(9,vi .i64 (fs.length:Int)),(10,vi .i64 (j:Int))] [(5,.box [cI 0,.d (.raw za6),cB false,.d (nsl []),cB false,.d (.raw za6)]),(11,.row 60 6 ((out++[x1]).map za1.d))] h ?_;clear h;intro a w h
          refine zac (zac (za4 (rn za0 12 [(0,.add .i64 (m:=(j:Int)) (n:=1) (zad (by omega) (by omega)))] [(0,vi .i64 k),(4,vp 5 0),(5,.t (.c (.own 11 (out++[x1]).length))),(8,(vFs fs)),(9,vi .i64 (fs.length:Int)),(10,vi .i64 ((j:Int)+1))] [(5,.box [cI 0,.d (.raw za6),cB false,.d (nsl []),cB false,.d (.raw za6)]),(11,.row 60 6 ((out++[x1]).map za1.d))] h ?_)));clear h;intro a w h
          refine za4 ?_
          replace h:=zc7 11 6 [(0,vi .i64 k),(4,vp 5 0),(5,.t (.c (.own 6 (out++[x1]).length))),(8,(vFs fs)),(9,vi .i64 (fs.length:Int)),(10,vi .i64 ((j:Int)+1))] [(5,.box [cI 0,.d (.raw za6),cB false,.d (nsl []),cB false,.d (.raw za6)]),(6,.row 60 6 ((out++[x1]).map za1.d))] h
          refine zam (x:=(j,out)) (y:=(j+1,(out++[x1]))) h ?_ ?_
          ·have:=zak hx1
           have hdn:=zb7 hx1
           have hxn:=za1.nodes_eq x1
           have p0: k=4:=by have:=hc2;simpa using this
           have p1:¬ x1.kind=1:=by have:=hc4;simpa using this
           have p2:¬ k=5:=by have:=hc10;simpa using this
           have p3:¬ x1.kind=0:=by have:=hc12;simpa using this
           have p4:¬ x1.kind=k:=by have:=hc14;simpa using this
           exact ⟨by omega,by rw [hI2,zbc hx1,if_neg (by omega),if_neg (by omega),if_neg (by omega)],by first | omega | (rw [zbh];(try rw [zbp]);omega)⟩
          ·show fs.length - (j+1)<fs.length - j
           have:=zak hx1;omega
   ·have hc15:=hc;clear hc
    have hc15':=hc15;(try simp at hc15')
    refine rq za0 12 [(1,.cmp (op := .eql) (m:=k) (n:=4) (b:=false) .i64 hc15)] [(0,vi .i64 k),(4,vp 5 0),(5,.t (.c (.own 6 out.length))),(7,vp 7 0),(8,(vFs fs)),(9,vi .i64 (fs.length:Int)),(10,vi .i64 (j:Int)),(18,vb false)] [(5,.box [cI 0,.d (.raw za6),cB false,.d (nsl []),cB false,.d (.raw za6)]),(6,.row 60 6 (out.map za1.d)),(7,.box (zF x1))] h ?_;clear h;intro a w h
    refine zaa false h rfl (fun hc=>?_) (fun hc=>?_)
    ·cases hc
    ·clear hc
     rcases Bool.eq_false_or_eq_true (k == 5) with hc | hc
     ·have hc16:=hc;clear hc
      have hc16':=hc16;(try simp at hc16')
      refine rn za0 12 [(1,.cmp (op := .eql) (m:=k) (n:=5) (b:=true) .i64 hc16)] [(0,vi .i64 k),(4,vp 5 0),(5,.t (.c (.own 6 out.length))),(7,vp 7 0),(8,(vFs fs)),(9,vi .i64 (fs.length:Int)),(10,vi .i64 (j:Int)),(18,vb (x1.kind == 0))] [(5,.box [cI 0,.d (.raw za6),cB false,.d (nsl []),cB false,.d (.raw za6)]),(6,.row 60 6 (out.map za1.d)),(7,.box (zF x1))] h ?_;clear h;intro a w h
      refine za4 ?_
      refine zaa (x1.kind == 0) h rfl (fun hc=>?_) (fun hc=>?_)
      ·have hc17:=hc;clear hc
       have hc17':=hc17;(try simp at hc17')
       refine rq za0 12 [] [(0,vi .i64 k),(4,vp 5 0),(5,.t (.c (.own 6 out.length))),(8,(vFs fs)),(9,vi .i64 (fs.length:Int)),(10,vi .i64 (j:Int))] [(5,.box (zF x1)),(6,.row 60 6 (out.map za1.d))] h ?_;clear h;intro a w h
       refine wp_ret (zaf (zaf (za9 (za9 (zaf (za9 ?_))))))
       refine zap [.agg (zF x1)] h Exit.ret (.inl rfl)  rfl ⟨RV.agg _ 5 0 _ _ _ _ zf3 rfl rfl rfl rfl,trivial⟩ ?_
       have p0:¬ k=4:=by have:=hc15;simpa using this
       have p1: k=5:=by have:=hc16;simpa using this
       have p2: x1.kind=0:=by have:=hc17;simpa using this
       have hz:zd0 k fs=x1:=by rw [hI2,zbc hx1,if_pos (by omega)]
       rw [hz];first | done | rfl
      ·have hc18:=hc;clear hc
       have hc18':=hc18;(try simp at hc18')
       refine rq za0 12 [(2,.cmp (op := .eql) (m:=x1.kind) (n:=0) (b:=false) .i64 hc18)] [(0,vi .i64 k),(4,vp 5 0),(5,.t (.c (.own 6 out.length))),(7,vp 7 0),(8,(vFs fs)),(9,vi .i64 (fs.length:Int)),(10,vi .i64 (j:Int)),(34,vb (x1.kind == 1))] [(5,.box [cI 0,.d (.raw za6),cB false,.d (nsl []),cB false,.d (.raw za6)]),(6,.row 60 6 (out.map za1.d)),(7,.box (zF x1))] h ?_;clear h;intro a w h
       refine zaa (x1.kind == 1) h rfl (fun hc=>?_) (fun hc=>?_)
       ·have hc19:=hc;clear hc
        have hc19':=hc19;(try simp at hc19')
        refine wp_skip (zac (zac (za4 (rn za0 12 [(0,.add .i64 (m:=(j:Int)) (n:=1) (zad (by omega) (by omega)))] [(0,vi .i64 k),(4,vp 5 0),(5,.t (.c (.own 6 out.length))),(8,(vFs fs)),(9,vi .i64 (fs.length:Int)),(10,vi .i64 ((j:Int)+1))] [(5,.box [cI 0,.d (.raw za6),cB false,.d (nsl []),cB false,.d (.raw za6)]),(6,.row 60 6 (out.map za1.d))] h ?_))));clear h;intro a w h
        refine za4 ?_
        refine zam (x:=(j,out)) (y:=(j+1,out)) h ?_ ?_
        ·have:=zak hx1
         have hdn:=zb7 hx1
         have hxn:=za1.nodes_eq x1
         have p0:¬ k=4:=by have:=hc15;simpa using this
         have p1: k=5:=by have:=hc16;simpa using this
         have p2:¬ x1.kind=0:=by have:=hc18;simpa using this
         have p3: x1.kind=1:=by have:=hc19;simpa using this
         exact ⟨by omega,by rw [hI2,zbc hx1,if_neg (by omega),if_pos (by omega)],by first | omega | (rw [zbh];(try rw [zbp]);omega)⟩
        ·show fs.length - (j+1)<fs.length - j
         have:=zak hx1;omega
       ·have hc20:=hc;clear hc
        have hc20':=hc20;(try simp at hc20')
        refine rq za0 12 [] [(0,vi .i64 k),(4,vp 5 0),(5,.t (.c (.own 6 out.length))),(7,vp 7 0),(8,(vFs fs)),(9,vi .i64 (fs.length:Int)),(10,vi .i64 (j:Int)),(43,vb (x1.kind == k))] [(5,.box [cI 0,.d (.raw za6),cB false,.d (nsl []),cB false,.d (.raw za6)]),(6,.row 60 6 (out.map za1.d)),(7,.box (zF x1))] h ?_;clear h;intro a w h
        refine zaa (x1.kind == k) h rfl (fun hc=>?_) (fun hc=>?_)
        ·have hc21:=hc;clear hc
         have hc21':=hc21;(try simp at hc21')
         refine rn za0 12 [(3,.gen _ _ _ fun _ _ _ _=>Op.appOD (d:=51) (t:=48) (u:=50) (n:=6) (n':=12) (len:=out.length) (len':=(out++x1.kids).length) (rows:=out.map za1.d) (rows2:=x1.kids.map za1.d) (rows':=(out++x1.kids).map za1.d) la_7 (by first | exact (List.length_map _).symm | simp) (by first | (rw [List.length_append,List.length_map];done) | simp) (by simp) (by simp [za1.d_len]) (by first | omega | (simp at *;done) | (simp at *;omega)))] [(0,vi .i64 k),(4,vp 5 0),(5,.t (.c (.own 12 (out++x1.kids).length))),(8,(vFs fs)),(9,vi .i64 (fs.length:Int)),(10,vi .i64 (j:Int))] [(5,.box [cI 0,.d (.raw za6),cB false,.d (nsl []),cB false,.d (.raw za6)]),(12,.row 60 6 ((out++x1.kids).map za1.d))] h ?_;clear h;intro a w h
         refine zac (zac (za4 (rn za0 13 [(0,.add .i64 (m:=(j:Int)) (n:=1) (zad (by omega) (by omega)))] [(0,vi .i64 k),(4,vp 5 0),(5,.t (.c (.own 12 (out++x1.kids).length))),(8,(vFs fs)),(9,vi .i64 (fs.length:Int)),(10,vi .i64 ((j:Int)+1))] [(5,.box [cI 0,.d (.raw za6),cB false,.d (nsl []),cB false,.d (.raw za6)]),(12,.row 60 6 ((out++x1.kids).map za1.d))] h ?_)));clear h;intro a w h
         refine za4 ?_
         replace h:=zc7 12 6 [(0,vi .i64 k),(4,vp 5 0),(5,.t (.c (.own 6 (out++x1.kids).length))),(8,(vFs fs)),(9,vi .i64 (fs.length:Int)),(10,vi .i64 ((j:Int)+1))] [(5,.box [cI 0,.d (.raw za6),cB false,.d (nsl []),cB false,.d (.raw za6)]),(6,.row 60 6 ((out++x1.kids).map za1.d))] h
         refine zam (x:=(j,out)) (y:=(j+1,(out++x1.kids))) h ?_ ?_
         ·have:=zak hx1
          have hdn:=zb7 hx1
          have hxn:=za1.nodes_eq x1
          have p0:¬ k=4:=by have:=hc15;simpa using this
          have p1: k=5:=by have:=hc16;simpa using this
          have p2:¬ x1.kind=0:=by have:=hc18;simpa using this
          have p3:¬ x1.kind=1:=by have:=hc20;simpa using this
          have p4: x1.kind=k:=by have:=hc21;simpa using this
          exact ⟨by omega,by rw [hI2,zbc hx1,if_neg (by omega),if_neg (by omega),if_pos (by omega)],by first | omega | (rw [zbh];(try rw [zbp]);omega)⟩
         ·show fs.length - (j+1)<fs.length - j
          have:=zak hx1;omega
        ·have hc22:=hc;clear hc
         have hc22':=hc22;(try simp at hc22')
         refine rn za0 13 [(2,.gen _ _ _ fun _ _ _ _=>Op.buildD (d:=16) (len:=1) (rows:=[x1].map za1.d) (rs:=[(15,(vF x1))]) kb_1 (.cons (i:=0) (OV.tmp 15 _) (.nil)) (by simp only [List.map_cons,List.map_nil,List.flatten_cons,List.flatten_nil,List.append_nil,za1.d_eq];kernel_rfl) rfl (by simp [za1.d_len]) (by decide) (by decide)),(3,.gen _ _ _ fun _ _ _ _=>Op.appOD (d:=17) (t:=14) (u:=16) (n:=6) (n':=13) (len:=out.length) (len':=(out++[x1]).length) (rows:=out.map za1.d) (rows2:=[x1].map za1.d) (rows':=(out++[x1]).map za1.d) la_7 (by first | exact (List.length_map _).symm | simp) (by first | (rw [List.length_append,List.length_map];done) | simp) (by simp) (by simp [za1.d_len]) (by first | omega | (simp at *;done) | (simp at *;omega)))] [(0,vi .i64 k),(4,vp 5 0),(5,.t (.c (.own 13 (out++[x1]).length))),(8,(vFs fs)),(9,vi .i64 (fs.length:Int)),(10,vi .i64 (j:Int))] [(5,.box [cI 0,.d (.raw za6),cB false,.d (nsl []),cB false,.d (.raw za6)]),(13,.row 60 6 ((out++[x1]).map za1.d))] h ?_;clear h;intro a w h
         refine zac (zac (za4 (rn za0 14 [(0,.add .i64 (m:=(j:Int)) (n:=1) (zad (by omega) (by omega)))] [(0,vi .i64 k),(4,vp 5 0),(5,.t (.c (.own 13 (out++[x1]).length))),(8,(vFs fs)),(9,vi .i64 (fs.length:Int)),(10,vi .i64 ((j:Int)+1))] [(5,.box [cI 0,.d (.raw za6),cB false,.d (nsl []),cB false,.d (.raw za6)]),(13,.row 60 6 ((out++[x1]).map za1.d))] h ?_)));clear h;intro a w h
         refine za4 ?_
         replace h:=zc7 13 6 [(0,vi .i64 k),(4,vp 5 0),(5,.t (.c (.own 6 (out++[x1]).length))),(8,(vFs fs)),(9,vi .i64 (fs.length:Int)),(10,vi .i64 ((j:Int)+1))] [(5,.box [cI 0,.d (.raw za6),cB false,.d (nsl []),cB false,.d (.raw za6)]),(6,.row 60 6 ((out++[x1]).map za1.d))] h
         refine zam (x:=(j,out)) (y:=(j+1,(out++[x1]))) h ?_ ?_
         ·have:=zak hx1
          have hdn:=zb7 hx1
          have hxn:=za1.nodes_eq x1
          have p0:¬ k=4:=by have:=hc15;simpa using this
          have p1: k=5:=by have:=hc16;simpa using this
          have p2:¬ x1.kind=0:=by have:=hc18;simpa using this
          have p3:¬ x1.kind=1:=by have:=hc20;simpa using this
          have p4:¬ x1.kind=k:=by have:=hc22;simpa using this
          exact ⟨by omega,by rw [hI2,zbc hx1,if_neg (by omega),if_neg (by omega),if_neg (by omega)],by first | omega | (rw [zbh];(try rw [zbp]);omega)⟩
         ·show fs.length - (j+1)<fs.length - j
          have:=zak hx1;omega
     ·have hc23:=hc;clear hc
      have hc23':=hc23;(try simp at hc23')
      refine rn za0 14 [(1,.cmp (op := .eql) (m:=k) (n:=5) (b:=false) .i64 hc23)] [(0,vi .i64 k),(4,vp 5 0),(5,.t (.c (.own 6 out.length))),(7,vp 7 0),(8,(vFs fs)),(9,vi .i64 (fs.length:Int)),(10,vi .i64 (j:Int)),(18,vb false)] [(5,.box [cI 0,.d (.raw za6),cB false,.d (nsl []),cB false,.d (.raw za6)]),(6,.row 60 6 (out.map za1.d)),(7,.box (zF x1))] h ?_;clear h;intro a w h
      refine za4 ?_
      refine zaa false h rfl (fun hc=>?_) (fun hc=>?_)
      ·cases hc
      ·clear hc
       rcases Bool.eq_false_or_eq_true (x1.kind == 0) with hc | hc
       ·have hc24:=hc;clear hc
        have hc24':=hc24;(try simp at hc24')
        refine rq za0 14 [(2,.cmp (op := .eql) (m:=x1.kind) (n:=0) (b:=true) .i64 hc24)] [(0,vi .i64 k),(4,vp 5 0),(5,.t (.c (.own 6 out.length))),(7,vp 7 0),(8,(vFs fs)),(9,vi .i64 (fs.length:Int)),(10,vi .i64 (j:Int)),(34,vb true)] [(5,.box [cI 0,.d (.raw za6),cB false,.d (nsl []),cB false,.d (.raw za6)]),(6,.row 60 6 (out.map za1.d)),(7,.box (zF x1))] h ?_;clear h;intro a w h
        refine zaa true h rfl (fun hc=>?_) (fun hc=>?_)
        ·clear hc
         refine wp_skip (zac (zac (za4 (rn za0 14 [(0,.add .i64 (m:=(j:Int)) (n:=1) (zad (by omega) (by omega)))] [(0,vi .i64 k),(4,vp 5 0),(5,.t (.c (.own 6 out.length))),(8,(vFs fs)),(9,vi .i64 (fs.length:Int)),(10,vi .i64 ((j:Int)+1))] [(5,.box [cI 0,.d (.raw za6),cB false,.d (nsl []),cB false,.d (.raw za6)]),(6,.row 60 6 (out.map za1.d))] h ?_))));clear h;intro a w h
         refine za4 ?_
         refine zam (x:=(j,out)) (y:=(j+1,out)) h ?_ ?_
         ·have:=zak hx1
          have hdn:=zb7 hx1
          have hxn:=za1.nodes_eq x1
          have p0:¬ k=4:=by have:=hc15;simpa using this
          have p1:¬ k=5:=by have:=hc23;simpa using this
          have p2: x1.kind=0:=by have:=hc24;simpa using this
          exact ⟨by omega,by rw [hI2,zbc hx1,if_neg (by omega),if_pos (by omega)],by first | omega | (rw [zbh];(try rw [zbp]);omega)⟩
         ·show fs.length - (j+1)<fs.length - j
          have:=zak hx1;omega
        ·cases hc
       ·have hc25:=hc;clear hc
        have hc25':=hc25;(try simp at hc25')
        refine rq za0 14 [(2,.cmp (op := .eql) (m:=x1.kind) (n:=0) (b:=false) .i64 hc25)] [(0,vi .i64 k),(4,vp 5 0),(5,.t (.c (.own 6 out.length))),(7,vp 7 0),(8,(vFs fs)),(9,vi .i64 (fs.length:Int)),(10,vi .i64 (j:Int)),(34,vb (x1.kind == 1))] [(5,.box [cI 0,.d (.raw za6),cB false,.d (nsl []),cB false,.d (.raw za6)]),(6,.row 60 6 (out.map za1.d)),(7,.box (zF x1))] h ?_;clear h;intro a w h
        refine zaa (x1.kind == 1) h rfl (fun hc=>?_) (fun hc=>?_)
        ·have hc26:=hc;clear hc
         have hc26':=hc26;(try simp at hc26')
         refine wp_skip (zac (zac (za4 (rn za0 14 [(0,.add .i64 (m:=(j:Int)) (n:=1) (zad (by omega) (by omega)))] [(0,vi .i64 k),(4,vp 5 0),(5,.t (.c (.own 6 out.length))),(8,(vFs fs)),(9,vi .i64 (fs.length:Int)),(10,vi .i64 ((j:Int)+1))] [(5,.box [cI 0,.d (.raw za6),cB false,.d (nsl []),cB false,.d (.raw za6)]),(6,.row 60 6 (out.map za1.d))] h ?_))));clear h;intro a w h
         refine za4 ?_
         refine zam (x:=(j,out)) (y:=(j+1,out)) h ?_ ?_
         ·have:=zak hx1
          have hdn:=zb7 hx1
          have hxn:=za1.nodes_eq x1
          have p0:¬ k=4:=by have:=hc15;simpa using this
          have p1:¬ k=5:=by have:=hc23;simpa using this
          have p2:¬ x1.kind=0:=by have:=hc25;simpa using this
          have p3: x1.kind=1:=by have:=hc26;simpa using this
          exact ⟨by omega,by rw [hI2,zbc hx1,if_neg (by omega),if_pos (by omega)],by first | omega | (rw [zbh];(try rw [zbp]);omega)⟩
         ·show fs.length - (j+1)<fs.length - j
          have:=zak hx1;omega
        ·have hc27:=hc;clear hc
         have hc27':=hc27;(try simp at hc27')
         refine rq za0 14 [] [(0,vi .i64 k),(4,vp 5 0),(5,.t (.c (.own 6 out.length))),(7,vp 7 0),(8,(vFs fs)),(9,vi .i64 (fs.length:Int)),(10,vi .i64 (j:Int)),(43,vb (x1.kind == k))] [(5,.box [cI 0,.d (.raw za6),cB false,.d (nsl []),cB false,.d (.raw za6)]),(6,.row 60 6 (out.map za1.d)),(7,.box (zF x1))] h ?_;clear h;intro a w h
         refine zaa (x1.kind == k) h rfl (fun hc=>?_) (fun hc=>?_)
         ·have hc28:=hc;clear hc
          have hc28':=hc28;(try simp at hc28')
          refine rn za0 14 [(3,.gen _ _ _ fun _ _ _ _=>Op.appOD (d:=51) (t:=48) (u:=50) (n:=6) (n':=14) (len:=out.length) (len':=(out++x1.kids).length) (rows:=out.map za1.d) (rows2:=x1.kids.map za1.d) (rows':=(out++x1.kids).map za1.d) la_7 (by first | exact (List.length_map _).symm | simp) (by first | (rw [List.length_append,List.length_map];done) | simp) (by simp) (by simp [za1.d_len]) (by first | omega | (simp at *;done) | (simp at *;omega)))] [(0,vi .i64 k),(4,vp 5 0),(5,.t (.c (.own 14 (out++x1.kids).length))),(8,(vFs fs)),(9,vi .i64 (fs.length:Int)),(10,vi .i64 (j:Int))] [(5,.box [cI 0,.d (.raw za6),cB false,.d (nsl []),cB false,.d (.raw za6)]),(14,.row 60 6 ((out++x1.kids).map za1.d))] h ?_;clear h;intro a w h
          refine zac (zac (za4 (rn za0 15 [(0,.add .i64 (m:=(j:Int)) (n:=1) (zad (by omega) (by omega)))] [(0,vi .i64 k),(4,vp 5 0),(5,.t (.c (.own 14 (out++x1.kids).length))),(8,(vFs fs)),(9,vi .i64 (fs.length:Int)),(10,vi .i64 ((j:Int)+1))] [(5,.box [cI 0,.d (.raw za6),cB false,.d (nsl []),cB false,.d (.raw za6)]),(14,.row 60 6 ((out++x1.kids).map za1.d))] h ?_)));clear h;intro a w h
          refine za4 ?_
          replace h:=zc7 14 6 [(0,vi .i64 k),(4,vp 5 0),(5,.t (.c (.own 6 (out++x1.kids).length))),(8,(vFs fs)),(9,vi .i64 (fs.length:Int)),(10,vi .i64 ((j:Int)+1))] [(5,.box [cI 0,.d (.raw za6),cB false,.d (nsl []),cB false,.d (.raw za6)]),(6,.row 60 6 ((out++x1.kids).map za1.d))] h
          refine zam (x:=(j,out)) (y:=(j+1,(out++x1.kids))) h ?_ ?_
          ·have:=zak hx1
           have hdn:=zb7 hx1
           have hxn:=za1.nodes_eq x1
           have p0:¬ k=4:=by have:=hc15;simpa using this
           have p1:¬ k=5:=by have:=hc23;simpa using this
           have p2:¬ x1.kind=0:=by have:=hc25;simpa using this
           have p3:¬ x1.kind=1:=by have:=hc27;simpa using this
           have p4: x1.kind=k:=by have:=hc28;simpa using this
           exact ⟨by omega,by rw [hI2,zbc hx1,if_neg (by omega),if_neg (by omega),if_pos (by omega)],by first | omega | (rw [zbh];(try rw [zbp]);omega)⟩
          ·show fs.length - (j+1)<fs.length - j
           have:=zak hx1;omega
         ·have hc29:=hc;clear hc
          have hc29':=hc29;(try simp at hc29')
          refine rn za0 15 [(2,.gen _ _ _ fun _ _ _ _=>Op.buildD (d:=16) (len:=1) (rows:=[x1].map za1.d) (rs:=[(15,(vF x1))]) kb_1 (.cons (i:=0) (OV.tmp 15 _) (.nil)) (by simp only [List.map_cons,List.map_nil,List.flatten_cons,List.flatten_nil,List.append_nil,za1.d_eq];kernel_rfl) rfl (by simp [za1.d_len]) (by decide) (by decide)),(3,.gen _ _ _ fun _ _ _ _=>Op.appOD (d:=17) (t:=14) (u:=16) (n:=6) (n':=15) (len:=out.length) (len':=(out++[x1]).length) (rows:=out.map za1.d) (rows2:=[x1].map za1.d) (rows':=(out++[x1]).map za1.d) la_7 (by first | exact (List.length_map _).symm | simp) (by first | (rw [List.length_append,List.length_map];done) | simp) (by simp) (by simp [za1.d_len]) (by first | omega | (simp at *;done) | (simp at *;omega)))] [(0,vi .i64 k),(4,vp 5 0),(5,.t (.c (.own 15 (out++[x1]).length))),(8,(vFs fs)),(9,vi .i64 (fs.length:Int)),(10,vi .i64 (j:Int))] [(5,.box [cI 0,.d (.raw za6),cB false,.d (nsl []),cB false,.d (.raw za6)]),(15,.row 60 6 ((out++[x1]).map za1.d))] h ?_;clear h;intro a w h
          refine zac (zac (za4 (rn za0 16 [(0,.add .i64 (m:=(j:Int)) (n:=1) (zad (by omega) (by omega)))] [(0,vi .i64 k),(4,vp 5 0),(5,.t (.c (.own 15 (out++[x1]).length))),(8,(vFs fs)),(9,vi .i64 (fs.length:Int)),(10,vi .i64 ((j:Int)+1))] [(5,.box [cI 0,.d (.raw za6),cB false,.d (nsl []),cB false,.d (.raw za6)]),(15,.row 60 6 ((out++[x1]).map za1.d))] h ?_)));clear h;intro a w h
          refine za4 ?_
          replace h:=zc7 15 6 [(0,vi .i64 k),(4,vp 5 0),(5,.t (.c (.own 6 (out++[x1]).length))),(8,(vFs fs)),(9,vi .i64 (fs.length:Int)),(10,vi .i64 ((j:Int)+1))] [(5,.box [cI 0,.d (.raw za6),cB false,.d (nsl []),cB false,.d (.raw za6)]),(6,.row 60 6 ((out++[x1]).map za1.d))] h
          refine zam (x:=(j,out)) (y:=(j+1,(out++[x1]))) h ?_ ?_
          ·have:=zak hx1
           have hdn:=zb7 hx1
           have hxn:=za1.nodes_eq x1
           have p0:¬ k=4:=by have:=hc15;simpa using this
           have p1:¬ k=5:=by have:=hc23;simpa using this
           have p2:¬ x1.kind=0:=by have:=hc25;simpa using this
           have p3:¬ x1.kind=1:=by have:=hc27;simpa using this
           have p4:¬ x1.kind=k:=by have:=hc29;simpa using this
           exact ⟨by omega,by rw [hI2,zbc hx1,if_neg (by omega),if_neg (by omega),if_neg (by omega)],by first | omega | (rw [zbh];(try rw [zbp]);omega)⟩
          ·show fs.length - (j+1)<fs.length - j
           have:=zak hx1;omega
  ·have hc30:=hc;clear hc
   have hc30':=of_decide_eq_false hc30
   refine wp_exit (zai (zai (za8 (za4 (wp_seq (rq za0 16 [] [(0,vi .i64 k),(4,vp 5 0),(5,.t (.c (.own 6 out.length))),(54,vi .i64 (out.length:Int))] [(5,.box [cI 0,.d (.raw za6),cB false,.d (nsl []),cB false,.d (.raw za6)]),(6,.row 60 6 (out.map za1.d))] h ?_))))));clear h;intro a w h
   refine wp_block (rq za0 16 [] [(0,vi .i64 k),(4,vp 5 0),(5,.t (.c (.own 6 out.length))),(54,vi .i64 (out.length:Int)),(55,vb ((out.length:Int) == 0))] [(5,.box [cI 0,.d (.raw za6),cB false,.d (nsl []),cB false,.d (.raw za6)]),(6,.row 60 6 (out.map za1.d))] h ?_);clear h;intro a w h
   refine zaa ((out.length:Int) == 0) h rfl (fun hc=>?_) (fun hc=>?_)
   ·have hc31:=hc;clear hc
    have hc31':=hc31;(try simp at hc31')
    refine rq za0 16 [(2,.call (LTruth (k == 4)) la_8)] [(0,vi .i64 k),(4,vp 5 0),(5,.t (.c (.own 6 out.length)))] [(5,.box (zF (zdq (k == 4)))),(6,.row 60 6 (out.map za1.d))] h ?_;clear h;intro a w h
    refine wp_ret (zaf (za9 ?_))
    refine zap [.agg (zF (zdq (k == 4)))] h Exit.ret (.inl rfl)  rfl ⟨RV.agg _ 5 0 _ _ _ _ zf3 rfl rfl rfl rfl,trivial⟩ ?_
    have hdz:fs.drop j=[]:=List.drop_of_length_le (by omega)
    have hz:zd0 k fs=zdq (k == 4):=by rw [hI2,hdz];exact join_nil (by have:=hc31;simp at this;first | omega | (rw [this];rfl))
    rw [hz];first | done | rfl
   ·have hc32:=hc;clear hc
    have hc32':=hc32;(try simp at hc32')
    refine rq za0 16 [] [(0,vi .i64 k),(4,vp 5 0),(5,.t (.c (.own 6 out.length))),(60,vb ((out.length:Int) == 1))] [(5,.box [cI 0,.d (.raw za6),cB false,.d (nsl []),cB false,.d (.raw za6)]),(6,.row 60 6 (out.map za1.d))] h ?_;clear h;intro a w h
    refine zaa ((out.length:Int) == 1) h rfl (fun hc=>?_) (fun hc=>?_)
    ·have hc33:=hc;clear hc
     have hc33':=hc33;(try simp at hc33')
     obtain ⟨x3,hx3⟩:∃ z_:za1,out[0]?=some z_:=⟨_,List.getElem?_eq_getElem (by first | omega | (simp at *;omega))⟩
     refine rq za0 16 [(1,.gen _ _ _ fun _ _ _ _=>Op.idxO (d:=63) (t:=62) (k := .i64) (n:=6) (len:=out.length) (i:=0) kb_0 (by first | omega | (simp at *;omega)) (OV.const (.int .i64 0) rfl)),(2,.gen _ _ _ fun _ _ _ _=>Op.loadR_agg (d:=64) (t:=63) (n:=6) (i:=0) (fo:=0) (rty:=60) (es:=6) (xs:=[.raw (.int .i64 x3.kind),.sl 3 (x3.r.t.parts.map za2.d),.raw (.bool x3.r.t.k.neg),nsl x3.r.t.k.abs,.raw (.bool x3.r.eq),.sl 6 (x3.kids.map za1.d)]) zf3 rfl ((zal hx3 (f:=za1.d)).trans (congrArg some (za1.d_eq x3))) rfl rfl)] [(0,vi .i64 k),(4,vp 5 0),(5,.t (.c (.own 6 out.length)))] [(5,.box (zF x3)),(6,.row 60 6 (out.map za1.d))] h ?_;clear h;intro a w h
     refine wp_ret (zaf (za9 ?_))
     refine zap [.agg (zF x3)] h Exit.ret (.inl rfl)  rfl ⟨RV.agg _ 5 0 _ _ _ _ zf3 rfl rfl rfl rfl,trivial⟩ ?_
     have hdz:fs.drop j=[]:=List.drop_of_length_le (by omega)
     have hz:zd0 k fs=x3:=by rw [hI2,hdz];exact join_one (by have:=hc33;simp at this;omega) hx3
     rw [hz];first | done | rfl
    ·have hc34:=hc;clear hc
     have hc34':=hc34;(try simp at hc34')
     refine wp_skip (zac (za4 (rq za0 16 [] [(4,vp 5 0)] [(5,.box [cI k,.d (.raw za6),cB false,.d (nsl []),cB false,.own 6 out.length]),(6,.row 60 6 (out.map za1.d))] h ?_)));clear h;intro a w h
     refine wp_ret ?_
     replace h:=zd7 5 1 3 [cI k,.d (.raw za6),cB false,.d (nsl []),cB false,.own 6 out.length] [(4,vp 5 0)] [(5,.box [cI k,cPs [],cB false,.d (nsl []),cB false,.own 6 out.length]),(6,.row 60 6 (out.map za1.d))] h rfl rfl
     replace h:=pubS 6 6 60 (out.map za1.d) [(4,vp 5 0)] [(5,.box [cI k,cPs [],cB false,.d (nsl []),cB false,cFs out])] h rfl trivial (show zc5 _ [out.length] from ⟨by first | exact (List.length_map _).symm | (simp;done) | (simp;omega),trivial⟩)
     refine zap [.agg [cI k,cPs [],cB false,.d (nsl []),cB false,cFs out]] h Exit.ret (.inl rfl)  rfl ⟨RV.agg _ 5 0 _ _ _ _ zf3 rfl rfl rfl rfl,trivial⟩ ?_
     have hdz:fs.drop j=[]:=List.drop_of_length_le (by omega)
     have hz:zd0 k fs=⟨k,zR,out⟩:=by rw [hI2,hdz];exact join_two (fun e=>by have:=hc32;rw [e] at this;simp at this) (fun e=>by have:=hc34;rw [e] at this;simp at this)
     rw [hz];first | done | rfl
theorem deny_len (r:zab):(zar r).length≤2:=by unfold zar;split <;> simp
theorem tight_sum (r:zab):(((zar r).map zaq).map za1.nodes).sum≤1000000:=by
 rw [List.map_map]
 have e:(za1.nodes ∘ zaq)=fun _=>1:=funext fun q=>zff q
 rw [e]
 have h2:((zar r).map fun _=>(1:Nat)).sum≤2:=by unfold zar;split <;> simp
 omega
theorem zg1 {f:za1} (h4:f.kind=4∨f.kind=5) (d:Bool) (hw:f.wid≤1000000):((f.kids.map fun g=>g.flat d).map za1.nodes).sum≤1000000:=by
 obtain ⟨k,r,ks⟩:=f
 exact Nat.le_trans (flats_nodes h4 (r:=r) d hw) hw
theorem flat_0 {f:za1} {d:Bool} (h:f.kind=0):f.flat d=zdq (!d):=by rw [za1.flat_eq,h];rfl
theorem flat_2f {f:za1} {d:Bool} (h:f.kind=2) (hd:d=false):f.flat d=zaq f.r:=by rw [za1.flat_eq,h,hd];rfl
theorem flat_2t {f:za1} {d:Bool} (h:f.kind=2) (hd:d=true):f.flat d=zd0 5 ((zar f.r).map zaq):=by rw [za1.flat_eq,h,hd];rfl
theorem flat_3n {f:za1} {d:Bool} (h:f.kind=3) (hl:f.kids.length=0):f.flat d=zdq d:=by rw [za1.flat_eq,h,List.length_eq_zero_iff.1 hl];rfl
theorem flat_3c {f g:za1} {d:Bool} (h:f.kind=3) (hg:f.kids[0]?=some g):f.flat d=g.flat (!d):=by
 obtain ⟨tl,e⟩:=cons_of_at hg
 rw [za1.flat_eq,h,e];rfl
theorem flat_45 {f:za1} {d:Bool} (h:f.kind=4∨f.kind=5):f.flat d=zd0 (if d=true then 9 - f.kind else f.kind) (f.kids.map fun g=>g.flat d):=by
 rw [za1.flat_eq];unfold zgl
 rw [if_neg (by omega),if_neg (by omega),if_neg (by omega),if_pos h,List.map_map];rfl
theorem flat_x {f:za1} {d:Bool} (h0:f.kind≠0) (h2:f.kind≠2) (h3:f.kind≠3) (h4:f.kind≠4) (h5:f.kind≠5):f.flat d=zdq d:=by
 rw [za1.flat_eq];unfold zgl
 rw [if_neg h0,if_neg h2,if_neg h3,if_neg (by omega)]
set_option maxHeartbeats 4000000 in
theorem Lflats (fs:List za1) (d:Bool) (hfl:∀ g ∈ fs,Fn Tryz.prog 61 [] [(vF g),vb d] (vF (za1.flat g d)) []) (hl:fs.length≤1000000):Fn Tryz.prog 97 [] [(vFs fs),vb d] (vFs (fs.map (fun g=>za1.flat g d))) []:=by
 refine Fn.body Tryz.func97 rfl 22 rfl fun w H B a h=>?_
 refine rq za0 5 [] [(0,(vFs fs)),(1,vb d),(4,.t (.c (.d (.raw za6))))] [] h ?_;clear h;intro a w h
 refine rq za0 5 [] [(0,(vFs fs)),(1,vb d),(4,.t (.c (.d (.raw za6)))),(5,.t (.c (.d (.raw za6))))] [] h ?_;clear h;intro a w h
 refine wp_seq (rq za0 5 [(1,.len (c:=(cFs fs)) (n:=fs.length) (zae _ _ _))] [(1,vb d),(4,.t (.c (.d (.raw za6)))),(5,.t (.c (.d (.raw za6)))),(8,(vFs fs)),(9,vi .i64 (fs.length:Int)),(10,vi .i64 0)] [] h ?_);clear h;intro a w h
 refine wp_block ?_
 replace h:=zel 5 0 5 6 60 (.t (.c (.d (.raw za6)))) [(1,vb d),(4,.t (.c (.d (.raw za6)))),(5,.t (.c (.own 5 0))),(8,(vFs fs)),(9,vi .i64 (fs.length:Int)),(10,vi .i64 0)] [(5,.row 60 6 ([].map za1.d))] h (by kernel_rfl) rfl rfl
 replace h:=h.conv (f':=F.of [(1,vb d),(4,.t (.c (.d (.raw za6)))),(5,.t (.c (.own 5 0))),(8,(vFs fs)),(9,vi .i64 (fs.length:Int)),(10,vi .i64 0)] [(5,.row 60 6 (((fs.take 0).map (fun g=>za1.flat g d)).map za1.d))]) (congrArg (fun (z_:List za1)=>F.of [(1,vb d),(4,.t (.c (.d (.raw za6)))),(5,.t (.c (.own 5 0))),(8,(vFs fs)),(9,vi .i64 (fs.length:Int)),(10,vi .i64 0)] [(5,.row 60 6 (z_.map za1.d))]) (show ([]:List za1)=((fs.take 0).map (fun g=>za1.flat g d)) from (by simp)))
 refine zb1 (ι:=(Nat)) (fun (z_:(Nat))=>match z_ with | j=>j≤fs.length)
   (fun (z_:(Nat))=>match z_ with | j=>[(1,vb d),(4,.t (.c (.d (.raw za6)))),(5,.t (.c (.own 5 ((fs.take j).map (fun g=>za1.flat g d)).length))),(8,(vFs fs)),(9,vi .i64 (fs.length:Int)),(10,vi .i64 (j:Int))])
   (fun (z_:(Nat))=>match z_ with | j=>[(5,.row 60 6 (((fs.take j).map (fun g=>za1.flat g d)).map za1.d))])
   (fun (z_:(Nat))=>match z_ with | j=>fs.length - j) 0 ?_ h (by kernel_rfl) (by kernel_rfl) ?_
 ·exact Nat.zero_le _
 ·clear h;rintro j a w hI h
  change St _ (F.of [(1,vb d),(4,.t (.c (.d (.raw za6)))),(5,.t (.c (.own 5 ((fs.take j).map (fun g=>za1.flat g d)).length))),(8,(vFs fs)),(9,vi .i64 (fs.length:Int)),(10,vi .i64 (j:Int))] [(5,.row 60 6 (((fs.take j).map (fun g=>za1.flat g d)).map za1.d))]) a w at h
  have lmj:((fs.take j).map (fun g=>za1.flat g d)).length≤j:=by rw [List.length_map,List.length_take];omega
  refine rq za0 6 [] [(1,vb d),(4,.t (.c (.d (.raw za6)))),(5,.t (.c (.own 5 ((fs.take j).map (fun g=>za1.flat g d)).length))),(8,(vFs fs)),(9,vi .i64 (fs.length:Int)),(10,vi .i64 (j:Int)),(11,vb (decide ((j:Int)<(fs.length:Int))))] [(5,.row 60 6 (((fs.take j).map (fun g=>za1.flat g d)).map za1.d))] h ?_;clear h;intro a w h
  refine wp_seq ?_
  refine zaa (decide ((j:Int)<(fs.length:Int))) h rfl (fun hc=>?_) (fun hc=>?_)
  ·have hc1:=hc;clear hc
   have hc1':=of_decide_eq_true hc1
   refine wp_skip (za4 (wp_seq (wp_block ?_)))
   obtain ⟨x1,hx1⟩:∃ z_:za1,fs[j]?=some z_:=⟨_,List.getElem?_eq_getElem (by first | omega | (simp at *;omega))⟩
   refine rq za0 6 [(0,.gen _ _ _ fun _ _ _ _=>Op.idxD (d:=12) (t:=8) (k := .i64) kb_0 ((zal hx1 (f:=za1.d)).trans (congrArg some (za1.d_eq x1))) (OV.tmp 10 _))] [(1,vb d),(4,.t (.c (.d (.raw za6)))),(5,.t (.c (.own 5 ((fs.take j).map (fun g=>za1.flat g d)).length))),(7,vp 6 0),(8,(vFs fs)),(9,vi .i64 (fs.length:Int)),(10,vi .i64 (j:Int))] [(5,.row 60 6 (((fs.take j).map (fun g=>za1.flat g d)).map za1.d)),(6,.box (zF x1))] h ?_;clear h;intro a w h
   refine rn za0 7 [(3,.call (hfl x1 (List.mem_of_getElem? hx1)) ld4_5),(4,.gen _ _ _ fun _ _ _ _=>Op.buildD (d:=18) (len:=1) (rows:=[(za1.flat x1 d)].map za1.d) (rs:=[(17,(vF (za1.flat x1 d)))]) kb_1 (.cons (i:=0) (OV.tmp 17 _) (.nil)) (by simp only [List.map_cons,List.map_nil,List.flatten_cons,List.flatten_nil,List.append_nil,za1.d_eq];kernel_rfl) rfl (by simp [za1.d_len]) (by decide) (by decide)),(5,.gen _ _ _ fun _ _ _ _=>Op.appOD (d:=19) (t:=14) (u:=18) (n:=5) (n':=7) (len:=((fs.take j).map (fun g=>za1.flat g d)).length) (len':=(((fs.take j).map (fun g=>za1.flat g d))++[(za1.flat x1 d)]).length) (rows:=((fs.take j).map (fun g=>za1.flat g d)).map za1.d) (rows2:=[(za1.flat x1 d)].map za1.d) (rows':=(((fs.take j).map (fun g=>za1.flat g d))++[(za1.flat x1 d)]).map za1.d) la_7 (by first | exact (List.length_map _).symm | simp) (by first | (rw [List.length_append,List.length_map];done) | simp) (by simp) (by simp [za1.d_len]) (by first | omega | (simp at *;done) | (simp at *;omega)))] [(1,vb d),(4,.t (.c (.d (.raw za6)))),(5,.t (.c (.own 7 (((fs.take j).map (fun g=>za1.flat g d))++[(za1.flat x1 d)]).length))),(8,(vFs fs)),(9,vi .i64 (fs.length:Int)),(10,vi .i64 (j:Int))] [(7,.row 60 6 ((((fs.take j).map (fun g=>za1.flat g d))++[(za1.flat x1 d)]).map za1.d))] h ?_;clear h;intro a w h
   refine zac (za4 (rn za0 8 [(0,.add .i64 (m:=(j:Int)) (n:=1) (zad (by omega) (by omega)))] [(1,vb d),(4,.t (.c (.d (.raw za6)))),(5,.t (.c (.own 7 (((fs.take j).map (fun g=>za1.flat g d))++[(za1.flat x1 d)]).length))),(8,(vFs fs)),(9,vi .i64 (fs.length:Int)),(10,vi .i64 ((j:Int)+1))] [(7,.row 60 6 ((((fs.take j).map (fun g=>za1.flat g d))++[(za1.flat x1 d)]).map za1.d))] h ?_));clear h;intro a w h
   refine za4 ?_
   replace h:=h.conv (f':=F.of [(1,vb d),(4,.t (.c (.d (.raw za6)))),(5,.t (.c (.own 7 ((fs.take (j+1)).map (fun g=>za1.flat g d)).length))),(8,(vFs fs)),(9,vi .i64 (fs.length:Int)),(10,vi .i64 ((j:Int)+1))] [(7,.row 60 6 (((fs.take (j+1)).map (fun g=>za1.flat g d)).map za1.d))]) (congrArg (fun (z_:List za1)=>F.of [(1,vb d),(4,.t (.c (.d (.raw za6)))),(5,.t (.c (.own 7 z_.length))),(8,(vFs fs)),(9,vi .i64 (fs.length:Int)),(10,vi .i64 ((j:Int)+1))] [(7,.row 60 6 (z_.map za1.d))]) (show ((((fs.take j).map (fun g=>za1.flat g d))++[(za1.flat x1 d)]):List za1)=((fs.take (j+1)).map (fun g=>za1.flat g d)) from (zc1 hx1)))
   replace h:=zc7 7 5 [(1,vb d),(4,.t (.c (.d (.raw za6)))),(5,.t (.c (.own 5 ((fs.take (j+1)).map (fun g=>za1.flat g d)).length))),(8,(vFs fs)),(9,vi .i64 (fs.length:Int)),(10,vi .i64 ((j:Int)+1))] [(5,.row 60 6 (((fs.take (j+1)).map (fun g=>za1.flat g d)).map za1.d))] h
   refine zam (x:=j) (y:=j+1) h ?_ ?_
   ·have:=zak hx1
    show j+1≤fs.length
    omega
   ·show fs.length - (j+1)<fs.length - j
    have:=zak hx1;omega
  ·have hc2:=hc;clear hc
   have hc2':=of_decide_eq_false hc2
   refine wp_exit (zai (zai (za8 (za4 (rq za0 8 [] [(4,.t (.c (.own 5 ((fs.take j).map (fun g=>za1.flat g d)).length)))] [(5,.row 60 6 (((fs.take j).map (fun g=>za1.flat g d)).map za1.d))] h ?_)))));clear h;intro a w h
   refine wp_ret ?_
   replace h:=h.conv (f':=F.of [(4,.t (.c (.own 5 (fs.map (fun g=>za1.flat g d)).length)))] [(5,.row 60 6 ((fs.map (fun g=>za1.flat g d)).map za1.d))]) (congrArg (fun (z_:List za1)=>F.of [(4,.t (.c (.own 5 z_.length)))] [(5,.row 60 6 (z_.map za1.d))]) (show (((fs.take j).map (fun g=>za1.flat g d)):List za1)=(fs.map (fun g=>za1.flat g d)) from (by rw [List.take_of_length_le (by omega)])))
   replace h:=pubS 5 6 60 ((fs.map (fun g=>za1.flat g d)).map za1.d) [(4,(vFs (fs.map (fun g=>za1.flat g d))))] [] h rfl (show zc5 _ [(fs.map (fun g=>za1.flat g d)).length] from ⟨by first | exact (List.length_map _).symm | (simp;done) | (simp;omega),trivial⟩) trivial
   refine zap [.c (cFs (fs.map (fun g=>za1.flat g d)))] h Exit.ret (.inl rfl)  rfl ⟨RV.tmp _ _ rfl,trivial⟩ ?_
   rfl
set_option maxHeartbeats 4000000 in
theorem Lflat0 (f:za1) (d:Bool) (ih:∀ g ∈ cnt f.kind f.kids,∀ d:Bool,Fn Tryz.prog 61 [] [(vF g),vb d] (vF (za1.flat g d)) []) (hf:f.okB 300 2000) (hw:f.wid≤1000000):Fn Tryz.prog 61 [] [(vF f),vb d] (vF (za1.flat f d)) []:=by
 have ldn:=deny_len f.r
 have lkm:=zhi hf
 refine Fn.body Tryz.func61 rfl 69 rfl fun w H B a h=>?_
 refine rq za0 5 [] [(1,vb d),(2,vp 5 0),(4,vp 6 0)] [(5,.box (zF f)),(6,.box [cI 0,.d (.raw za6),cB false,.d (nsl []),cB false,.d (.raw za6)])] h ?_;clear h;intro a w h
 refine wp_seq (rq za0 7 [] [(1,vb d),(2,vp 5 0),(4,vp 6 0),(10,vi .i64 f.kind)] [(5,.box (zF f)),(6,.box [cI 0,.d (.raw za6),cB false,.d (nsl []),cB false,.d (.raw za6)])] h ?_);clear h;intro a w h
 refine wp_block (rq za0 7 [] [(1,vb d),(2,vp 5 0),(4,vp 6 0),(10,vi .i64 f.kind),(11,vb (f.kind == 0))] [(5,.box (zF f)),(6,.box [cI 0,.d (.raw za6),cB false,.d (nsl []),cB false,.d (.raw za6)])] h ?_);clear h;intro a w h
 refine zaa (f.kind == 0) h rfl (fun hc=>?_) (fun hc=>?_)
 ·have hc1:=hc;clear hc
  have hc1':=hc1;(try simp at hc1')
  refine rq za0 7 [(2,.call (LTruth (!d)) la_8)] [(1,vb d),(4,vp 6 0)] [(6,.box (zF (zdq (!d))))] h ?_;clear h;intro a w h
  refine wp_ret (zaf (za9 ?_))
  refine zap [.agg (zF (zdq (!d)))] h Exit.ret (.inl rfl)  rfl ⟨RV.agg _ 6 0 _ _ _ _ zf3 rfl rfl rfl rfl,trivial⟩ ?_
  rw [flat_0 (by have:=hc1;simpa using this)];first | done | rfl
 ·have hc2:=hc;clear hc
  have hc2':=hc2;(try simp at hc2')
  refine rq za0 7 [] [(1,vb d),(2,vp 5 0),(4,vp 6 0),(10,vi .i64 f.kind),(16,vb (f.kind == 2))] [(5,.box (zF f)),(6,.box [cI 0,.d (.raw za6),cB false,.d (nsl []),cB false,.d (.raw za6)])] h ?_;clear h;intro a w h
  refine zaa (f.kind == 2) h rfl (fun hc=>?_) (fun hc=>?_)
  ·have hc3:=hc;clear hc
   have hc3':=hc3;(try simp at hc3')
   refine wp_seq (rq za0 7 [] [(1,vb d),(2,vp 5 0),(4,vp 6 0),(19,vb (!d))] [(5,.box (zF f)),(6,.box [cI 0,.d (.raw za6),cB false,.d (nsl []),cB false,.d (.raw za6)])] h ?_);clear h;intro a w h
   refine zaa (!d) h rfl (fun hc=>?_) (fun hc=>?_)
   ·have hc4:=hc;clear hc
    have hc4':=hc4;(try simp at hc4')
    refine rq za0 7 [(2,.call (LtightF f.r ((rel_ok hf hc3).mono (by decide) (by decide))) ld4_6)] [(1,vb d),(2,vp 5 0),(4,vp 6 0)] [(5,.box (zF f)),(6,.box (zF (zaq f.r)))] h ?_;clear h;intro a w h
    refine wp_ret (za9 (zaf (za9 ?_)))
    refine zap [.agg (zF (zaq f.r))] h Exit.ret (.inl rfl)  rfl ⟨RV.agg _ 6 0 _ _ _ _ zf3 rfl rfl rfl rfl,trivial⟩ ?_
    rw [flat_2f (by have:=hc3;simpa using this) (show (d)=false from by simpa using hc4)];first | done | rfl
   ·have hc5:=hc;clear hc
    have hc5':=hc5;(try simp at hc5')
    refine wp_skip (za4 (rq za0 7 [] [(1,vb d),(2,vp 5 0),(4,vp 6 0),(5,.t (.c (.d (.raw za6))))] [(5,.box (zF f)),(6,.box [cI 0,.d (.raw za6),cB false,.d (nsl []),cB false,.d (.raw za6)])] h ?_));clear h;intro a w h
    refine wp_seq (rq za0 7 [(2,.call (LrDeny f.r (rel_ok hf hc3)) ld4_7),(3,.len (c:=(cRs (zar f.r))) (n:=(zar f.r).length) (zae _ _ _))] [(1,vb d),(4,vp 6 0),(5,.t (.c (.d (.raw za6)))),(25,(vRs (zar f.r))),(26,vi .i64 ((zar f.r).length:Int)),(27,vi .i64 0)] [(6,.box [cI 0,.d (.raw za6),cB false,.d (nsl []),cB false,.d (.raw za6)])] h ?_);clear h;intro a w h
    refine wp_block ?_
    replace h:=zel 5 0 7 6 60 (.t (.c (.d (.raw za6)))) [(1,vb d),(4,vp 6 0),(5,.t (.c (.own 7 0))),(25,(vRs (zar f.r))),(26,vi .i64 ((zar f.r).length:Int)),(27,vi .i64 0)] [(6,.box [cI 0,.d (.raw za6),cB false,.d (nsl []),cB false,.d (.raw za6)]),(7,.row 60 6 ([].map za1.d))] h (by kernel_rfl) rfl rfl
    replace h:=h.conv (f':=F.of [(1,vb d),(4,vp 6 0),(5,.t (.c (.own 7 0))),(25,(vRs (zar f.r))),(26,vi .i64 ((zar f.r).length:Int)),(27,vi .i64 0)] [(6,.box [cI 0,.d (.raw za6),cB false,.d (nsl []),cB false,.d (.raw za6)]),(7,.row 60 6 ((((zar f.r).take 0).map zaq).map za1.d))]) (congrArg (fun (z_:List za1)=>F.of [(1,vb d),(4,vp 6 0),(5,.t (.c (.own 7 0))),(25,(vRs (zar f.r))),(26,vi .i64 ((zar f.r).length:Int)),(27,vi .i64 0)] [(6,.box [cI 0,.d (.raw za6),cB false,.d (nsl []),cB false,.d (.raw za6)]),(7,.row 60 6 (z_.map za1.d))]) (show ([]:List za1)=(((zar f.r).take 0).map zaq) from (by simp)))
    refine zb1 (ι:=(Nat)) (fun (z_:(Nat))=>match z_ with | j=>j≤(zar f.r).length)
      (fun (z_:(Nat))=>match z_ with | j=>[(1,vb d),(4,vp 6 0),(5,.t (.c (.own 7 (((zar f.r).take j).map zaq).length))),(25,(vRs (zar f.r))),(26,vi .i64 ((zar f.r).length:Int)),(27,vi .i64 (j:Int))])
      (fun (z_:(Nat))=>match z_ with | j=>[(6,.box [cI 0,.d (.raw za6),cB false,.d (nsl []),cB false,.d (.raw za6)]),(7,.row 60 6 ((((zar f.r).take j).map zaq).map za1.d))])
      (fun (z_:(Nat))=>match z_ with | j=>(zar f.r).length - j) 0 ?_ h (by kernel_rfl) (by kernel_rfl) ?_
    ·exact Nat.zero_le _
    ·clear h;rintro j a w hI h
     change St _ (F.of [(1,vb d),(4,vp 6 0),(5,.t (.c (.own 7 (((zar f.r).take j).map zaq).length))),(25,(vRs (zar f.r))),(26,vi .i64 ((zar f.r).length:Int)),(27,vi .i64 (j:Int))] [(6,.box [cI 0,.d (.raw za6),cB false,.d (nsl []),cB false,.d (.raw za6)]),(7,.row 60 6 ((((zar f.r).take j).map zaq).map za1.d))]) a w at h
     have lmj:(((zar f.r).take j).map zaq).length≤j:=by rw [List.length_map,List.length_take];omega
     refine rq za0 8 [] [(1,vb d),(4,vp 6 0),(5,.t (.c (.own 7 (((zar f.r).take j).map zaq).length))),(25,(vRs (zar f.r))),(26,vi .i64 ((zar f.r).length:Int)),(27,vi .i64 (j:Int)),(28,vb (decide ((j:Int)<((zar f.r).length:Int))))] [(6,.box [cI 0,.d (.raw za6),cB false,.d (nsl []),cB false,.d (.raw za6)]),(7,.row 60 6 ((((zar f.r).take j).map zaq).map za1.d))] h ?_;clear h;intro a w h
     refine wp_seq ?_
     refine zaa (decide ((j:Int)<((zar f.r).length:Int))) h rfl (fun hc=>?_) (fun hc=>?_)
     ·have hc6:=hc;clear hc
      have hc6':=of_decide_eq_true hc6
      refine wp_skip (za4 (wp_seq (wp_block ?_)))
      obtain ⟨x4,hx4⟩:∃ z_:zab,(zar f.r)[j]?=some z_:=⟨_,List.getElem?_eq_getElem (by first | omega | (simp at *;omega))⟩
      refine rq za0 8 [(0,.gen _ _ _ fun _ _ _ _=>Op.idxD (d:=29) (t:=25) (k := .i64) kc_3 (zal hx4 (f:=zab.d)) (OV.tmp 27 _))] [(1,vb d),(4,vp 6 0),(5,.t (.c (.own 7 (((zar f.r).take j).map zaq).length))),(7,vp 8 0),(25,(vRs (zar f.r))),(26,vi .i64 ((zar f.r).length:Int)),(27,vi .i64 (j:Int))] [(6,.box [cI 0,.d (.raw za6),cB false,.d (nsl []),cB false,.d (.raw za6)]),(7,.row 60 6 ((((zar f.r).take j).map zaq).map za1.d)),(8,.box (zR_ x4))] h ?_;clear h;intro a w h
      refine rn za0 9 [(2,.call (LtightF x4 ((deny_tok (rel_ok hf hc3) (by decide) x4 (List.mem_of_getElem? hx4)).mono (by decide) (by decide))) ld4_6),(3,.gen _ _ _ fun _ _ _ _=>Op.buildD (d:=34) (len:=1) (rows:=[(zaq x4)].map za1.d) (rs:=[(33,(vF (zaq x4)))]) kb_1 (.cons (i:=0) (OV.tmp 33 _) (.nil)) (by simp only [List.map_cons,List.map_nil,List.flatten_cons,List.flatten_nil,List.append_nil,za1.d_eq];kernel_rfl) rfl (by simp [za1.d_len]) (by decide) (by decide)),(4,.gen _ _ _ fun _ _ _ _=>Op.appOD (d:=35) (t:=31) (u:=34) (n:=7) (n':=9) (len:=(((zar f.r).take j).map zaq).length) (len':=((((zar f.r).take j).map zaq)++[(zaq x4)]).length) (rows:=(((zar f.r).take j).map zaq).map za1.d) (rows2:=[(zaq x4)].map za1.d) (rows':=((((zar f.r).take j).map zaq)++[(zaq x4)]).map za1.d) la_7 (by first | exact (List.length_map _).symm | simp) (by first | (rw [List.length_append,List.length_map];done) | simp) (by simp) (by simp [za1.d_len]) (by first | omega | (simp at *;done) | (simp at *;omega)))] [(1,vb d),(4,vp 6 0),(5,.t (.c (.own 9 ((((zar f.r).take j).map zaq)++[(zaq x4)]).length))),(25,(vRs (zar f.r))),(26,vi .i64 ((zar f.r).length:Int)),(27,vi .i64 (j:Int))] [(6,.box [cI 0,.d (.raw za6),cB false,.d (nsl []),cB false,.d (.raw za6)]),(9,.row 60 6 (((((zar f.r).take j).map zaq)++[(zaq x4)]).map za1.d))] h ?_;clear h;intro a w h
      refine zac (za4 (rn za0 10 [(0,.add .i64 (m:=(j:Int)) (n:=1) (zad (by omega) (by omega)))] [(1,vb d),(4,vp 6 0),(5,.t (.c (.own 9 ((((zar f.r).take j).map zaq)++[(zaq x4)]).length))),(25,(vRs (zar f.r))),(26,vi .i64 ((zar f.r).length:Int)),(27,vi .i64 ((j:Int)+1))] [(6,.box [cI 0,.d (.raw za6),cB false,.d (nsl []),cB false,.d (.raw za6)]),(9,.row 60 6 (((((zar f.r).take j).map zaq)++[(zaq x4)]).map za1.d))] h ?_));clear h;intro a w h
      refine za4 ?_
      replace h:=h.conv (f':=F.of [(1,vb d),(4,vp 6 0),(5,.t (.c (.own 9 (((zar f.r).take (j+1)).map zaq).length))),(25,(vRs (zar f.r))),(26,vi .i64 ((zar f.r).length:Int)),(27,vi .i64 ((j:Int)+1))] [(6,.box [cI 0,.d (.raw za6),cB false,.d (nsl []),cB false,.d (.raw za6)]),(9,.row 60 6 ((((zar f.r).take (j+1)).map zaq).map za1.d))]) (congrArg (fun (z_:List za1)=>F.of [(1,vb d),(4,vp 6 0),(5,.t (.c (.own 9 z_.length))),(25,(vRs (zar f.r))),(26,vi .i64 ((zar f.r).length:Int)),(27,vi .i64 ((j:Int)+1))] [(6,.box [cI 0,.d (.raw za6),cB false,.d (nsl []),cB false,.d (.raw za6)]),(9,.row 60 6 (z_.map za1.d))]) (show (((((zar f.r).take j).map zaq)++[(zaq x4)]):List za1)=(((zar f.r).take (j+1)).map zaq) from (zc1 hx4)))
      replace h:=zc7 9 7 [(1,vb d),(4,vp 6 0),(5,.t (.c (.own 7 (((zar f.r).take (j+1)).map zaq).length))),(25,(vRs (zar f.r))),(26,vi .i64 ((zar f.r).length:Int)),(27,vi .i64 ((j:Int)+1))] [(6,.box [cI 0,.d (.raw za6),cB false,.d (nsl []),cB false,.d (.raw za6)]),(7,.row 60 6 ((((zar f.r).take (j+1)).map zaq).map za1.d))] h
      refine zam (x:=j) (y:=j+1) h ?_ ?_
      ·have:=zak hx4
       show j+1≤(zar f.r).length
       omega
      ·show (zar f.r).length - (j+1)<(zar f.r).length - j
       have:=zak hx4;omega
     ·have hc7:=hc;clear hc
      have hc7':=of_decide_eq_false hc7
      refine wp_exit (zai (zai (za8 (za4 ?_))))
      replace h:=h.conv (f':=F.of [(1,vb d),(4,vp 6 0),(5,.t (.c (.own 7 ((zar f.r).map zaq).length))),(25,(vRs (zar f.r))),(26,vi .i64 ((zar f.r).length:Int)),(27,vi .i64 (j:Int)),(28,vb (decide ((j:Int)<((zar f.r).length:Int))))] [(6,.box [cI 0,.d (.raw za6),cB false,.d (nsl []),cB false,.d (.raw za6)]),(7,.row 60 6 (((zar f.r).map zaq).map za1.d))]) (congrArg (fun (z_:List za1)=>F.of [(1,vb d),(4,vp 6 0),(5,.t (.c (.own 7 z_.length))),(25,(vRs (zar f.r))),(26,vi .i64 ((zar f.r).length:Int)),(27,vi .i64 (j:Int)),(28,vb (decide ((j:Int)<((zar f.r).length:Int))))] [(6,.box [cI 0,.d (.raw za6),cB false,.d (nsl []),cB false,.d (.raw za6)]),(7,.row 60 6 (z_.map za1.d))]) (show ((((zar f.r).take j).map zaq):List za1)=((zar f.r).map zaq) from (by rw [List.take_of_length_le (by omega)])))
      replace h:=pubS 7 6 60 (((zar f.r).map zaq).map za1.d) [(1,vb d),(4,vp 6 0),(5,(vFs ((zar f.r).map zaq))),(25,(vRs (zar f.r))),(26,vi .i64 ((zar f.r).length:Int)),(27,vi .i64 (j:Int)),(28,vb (decide ((j:Int)<((zar f.r).length:Int))))] [(6,.box [cI 0,.d (.raw za6),cB false,.d (nsl []),cB false,.d (.raw za6)])] h rfl (show zc5 _ [((zar f.r).map zaq).length] from ⟨by first | exact (List.length_map _).symm | (simp;done) | (simp;omega),trivial⟩) trivial
      refine rq za0 10 [(1,.call (Ljoin 5 ((zar f.r).map zaq) (.inr rfl) (tight_sum f.r)) ld4_9)] [(1,vb d),(4,vp 6 0)] [(6,.box (zF (zd0 5 ((zar f.r).map zaq))))] h ?_;clear h;intro a w h
      refine wp_ret (zaf (za9 ?_))
      refine zap [.agg (zF (zd0 5 ((zar f.r).map zaq)))] h Exit.ret (.inl rfl)  rfl ⟨RV.agg _ 6 0 _ _ _ _ zf3 rfl rfl rfl rfl,trivial⟩ ?_
      rw [flat_2t (by have:=hc3;simpa using this) (show (d)=true from by simpa using hc5)];first | done | rfl
  ·have hc8:=hc;clear hc
   have hc8':=hc8;(try simp at hc8')
   refine rq za0 10 [] [(1,vb d),(2,vp 5 0),(4,vp 6 0),(10,vi .i64 f.kind),(39,vb (f.kind == 3))] [(5,.box (zF f)),(6,.box [cI 0,.d (.raw za6),cB false,.d (nsl []),cB false,.d (.raw za6)])] h ?_;clear h;intro a w h
   refine zaa (f.kind == 3) h rfl (fun hc=>?_) (fun hc=>?_)
   ·have hc9:=hc;clear hc
    have hc9':=hc9;(try simp at hc9')
    refine rq za0 10 [(2,.len (c:=(cFs f.kids)) (n:=f.kids.length) (zae _ _ _))] [(1,vb d),(2,vp 5 0),(4,vp 6 0),(44,vb (decide ((f.kids.length:Int)>0)))] [(5,.box (zF f)),(6,.box [cI 0,.d (.raw za6),cB false,.d (nsl []),cB false,.d (.raw za6)])] h ?_;clear h;intro a w h
    refine zaa (decide ((f.kids.length:Int)>0)) h rfl (fun hc=>?_) (fun hc=>?_)
    ·have hc10:=hc;clear hc
     have hc10':=of_decide_eq_true hc10
     obtain ⟨x7,hx7⟩:∃ z_:za1,f.kids[0]?=some z_:=⟨_,List.getElem?_eq_getElem (by first | omega | (simp at *;omega))⟩
     refine rq za0 10 [(2,.gen _ _ _ fun _ _ _ _=>Op.idxD (d:=47) (t:=46) (k := .i64) kb_0 ((zal hx7 (f:=za1.d)).trans (congrArg some (za1.d_eq x7))) (OV.const (.int .i64 0) rfl)),(6,.call (ih x7 (by unfold cnt;rw [if_neg (by omega),if_pos (by omega)];exact zg0 hx7) (!d)) ld4_5)] [(1,vb d),(4,vp 6 0)] [(6,.box (zF (za1.flat x7 (!d))))] h ?_;clear h;intro a w h
     refine wp_ret (zaf (za9 ?_))
     refine zap [.agg (zF (za1.flat x7 (!d)))] h Exit.ret (.inl rfl)  rfl ⟨RV.agg _ 6 0 _ _ _ _ zf3 rfl rfl rfl rfl,trivial⟩ ?_
     rw [flat_3c (by have:=hc9;simpa using this) hx7];first | done | rfl
    ·have hc11:=hc;clear hc
     have hc11':=of_decide_eq_false hc11
     refine wp_skip (zac (za4 (rq za0 10 [(1,.call (LTruth d) la_8)] [(4,vp 6 0)] [(6,.box (zF (zdq d)))] h ?_)));clear h;intro a w h
     refine wp_ret ?_
     refine zap [.agg (zF (zdq d))] h Exit.ret (.inl rfl)  rfl ⟨RV.agg _ 6 0 _ _ _ _ zf3 rfl rfl rfl rfl,trivial⟩ ?_
     rw [flat_3n (by have:=hc9;simpa using this) (by have:=hc11;simp at this;first | omega | (rw [this];rfl))];first | done | rfl
   ·have hc12:=hc;clear hc
    have hc12':=hc12;(try simp at hc12')
    refine wp_seq (rq za0 10 [] [(1,vb d),(2,vp 5 0),(4,vp 6 0),(10,vi .i64 f.kind),(52,vb (f.kind == 4))] [(5,.box (zF f)),(6,.box [cI 0,.d (.raw za6),cB false,.d (nsl []),cB false,.d (.raw za6)])] h ?_);clear h;intro a w h
    refine zaa (f.kind == 4) h rfl (fun hc=>?_) (fun hc=>?_)
    ·have hc13:=hc;clear hc
     have hc13':=hc13;(try simp at hc13')
     refine wp_skip (za4 ?_)
     refine zaa (f.kind == 4) h rfl (fun hc=>?_) (fun hc=>?_)
     ·clear hc
      refine rq za0 10 [] [(1,vb d),(2,vp 5 0),(4,vp 6 0),(8,vi .i64 f.kind)] [(5,.box (zF f)),(6,.box [cI 0,.d (.raw za6),cB false,.d (nsl []),cB false,.d (.raw za6)])] h ?_;clear h;intro a w h
      refine wp_seq (rq za0 10 [] [(1,vb d),(2,vp 5 0),(4,vp 6 0),(8,vi .i64 f.kind),(57,vb d)] [(5,.box (zF f)),(6,.box [cI 0,.d (.raw za6),cB false,.d (nsl []),cB false,.d (.raw za6)])] h ?_);clear h;intro a w h
      refine zaa d h rfl (fun hc=>?_) (fun hc=>?_)
      ·have hc14:=hc;clear hc
       refine rn za0 10 [(2,.sub .i64 (m:=9) (n:=f.kind) (zad (by omega) (by omega)))] [(1,vb d),(2,vp 5 0),(4,vp 6 0),(8,vi .i64 (9 - f.kind))] [(5,.box (zF f)),(6,.box [cI 0,.d (.raw za6),cB false,.d (nsl []),cB false,.d (.raw za6)])] h ?_;clear h;intro a w h
       refine za4 (rq za0 10 [(4,.call (Lflats f.kids d (fun g hg=>ih g (by unfold cnt;rw [if_pos (by omega)];exact hg) d) (by have:=zfn hf;unfold cnt at this;rw [if_pos (by omega)] at this;exact this)) ld4_10),(5,.call (Ljoin (9 - f.kind) (f.kids.map (fun g=>za1.flat g d)) (by omega) (zg1 (by omega) d hw)) ld4_9)] [(1,vb d),(4,vp 6 0)] [(6,.box (zF (zd0 (9 - f.kind) (f.kids.map (fun g=>za1.flat g d)))))] h ?_);clear h;intro a w h
       refine wp_ret (zaf (za9 ?_))
       refine zap [.agg (zF (zd0 (9 - f.kind) (f.kids.map (fun g=>za1.flat g d))))] h Exit.ret (.inl rfl)  rfl ⟨RV.agg _ 6 0 _ _ _ _ zf3 rfl rfl rfl rfl,trivial⟩ ?_
       rw [flat_45 (by omega),if_pos hc14];first | done | rfl
      ·have hc15:=hc;clear hc
       refine wp_skip (za4 (rq za0 10 [(4,.call (Lflats f.kids d (fun g hg=>ih g (by unfold cnt;rw [if_pos (by omega)];exact hg) d) (by have:=zfn hf;unfold cnt at this;rw [if_pos (by omega)] at this;exact this)) ld4_10),(5,.call (Ljoin f.kind (f.kids.map (fun g=>za1.flat g d)) (by omega) (zg1 (by omega) d hw)) ld4_9)] [(1,vb d),(4,vp 6 0)] [(6,.box (zF (zd0 f.kind (f.kids.map (fun g=>za1.flat g d)))))] h ?_));clear h;intro a w h
       refine wp_ret (zaf (za9 ?_))
       refine zap [.agg (zF (zd0 f.kind (f.kids.map (fun g=>za1.flat g d))))] h Exit.ret (.inl rfl)  rfl ⟨RV.agg _ 6 0 _ _ _ _ zf3 rfl rfl rfl rfl,trivial⟩ ?_
       rw [flat_45 (by omega),if_neg (by rw [hc15];exact Bool.noConfusion)];first | done | rfl
     ·rw [hc13] at hc;cases hc
    ·have hc16:=hc;clear hc
     have hc16':=hc16;(try simp at hc16')
     refine rn za0 10 [] [(1,vb d),(2,vp 5 0),(4,vp 6 0),(52,vb (f.kind == 5))] [(5,.box (zF f)),(6,.box [cI 0,.d (.raw za6),cB false,.d (nsl []),cB false,.d (.raw za6)])] h ?_;clear h;intro a w h
     refine za4 ?_
     refine zaa (f.kind == 5) h rfl (fun hc=>?_) (fun hc=>?_)
     ·have hc17:=hc;clear hc
      have hc17':=hc17;(try simp at hc17')
      refine rq za0 10 [] [(1,vb d),(2,vp 5 0),(4,vp 6 0),(8,vi .i64 f.kind)] [(5,.box (zF f)),(6,.box [cI 0,.d (.raw za6),cB false,.d (nsl []),cB false,.d (.raw za6)])] h ?_;clear h;intro a w h
      refine wp_seq (rq za0 10 [] [(1,vb d),(2,vp 5 0),(4,vp 6 0),(8,vi .i64 f.kind),(57,vb d)] [(5,.box (zF f)),(6,.box [cI 0,.d (.raw za6),cB false,.d (nsl []),cB false,.d (.raw za6)])] h ?_);clear h;intro a w h
      refine zaa d h rfl (fun hc=>?_) (fun hc=>?_)
      ·have hc18:=hc;clear hc
       refine rn za0 10 [(2,.sub .i64 (m:=9) (n:=f.kind) (zad (by omega) (by omega)))] [(1,vb d),(2,vp 5 0),(4,vp 6 0),(8,vi .i64 (9 - f.kind))] [(5,.box (zF f)),(6,.box [cI 0,.d (.raw za6),cB false,.d (nsl []),cB false,.d (.raw za6)])] h ?_;clear h;intro a w h
       refine za4 (rq za0 10 [(4,.call (Lflats f.kids d (fun g hg=>ih g (by unfold cnt;rw [if_pos (by omega)];exact hg) d) (by have:=zfn hf;unfold cnt at this;rw [if_pos (by omega)] at this;exact this)) ld4_10),(5,.call (Ljoin (9 - f.kind) (f.kids.map (fun g=>za1.flat g d)) (by omega) (zg1 (by omega) d hw)) ld4_9)] [(1,vb d),(4,vp 6 0)] [(6,.box (zF (zd0 (9 - f.kind) (f.kids.map (fun g=>za1.flat g d)))))] h ?_);clear h;intro a w h
       refine wp_ret (zaf (za9 ?_))
       refine zap [.agg (zF (zd0 (9 - f.kind) (f.kids.map (fun g=>za1.flat g d))))] h Exit.ret (.inl rfl)  rfl ⟨RV.agg _ 6 0 _ _ _ _ zf3 rfl rfl rfl rfl,trivial⟩ ?_
       rw [flat_45 (by omega),if_pos hc18];first | done | rfl
      ·have hc19:=hc;clear hc
       refine wp_skip (za4 (rq za0 10 [(4,.call (Lflats f.kids d (fun g hg=>ih g (by unfold cnt;rw [if_pos (by omega)];exact hg) d) (by have:=zfn hf;unfold cnt at this;rw [if_pos (by omega)] at this;exact this)) ld4_10),(5,.call (Ljoin f.kind (f.kids.map (fun g=>za1.flat g d)) (by omega) (zg1 (by omega) d hw)) ld4_9)] [(1,vb d),(4,vp 6 0)] [(6,.box (zF (zd0 f.kind (f.kids.map (fun g=>za1.flat g d)))))] h ?_));clear h;intro a w h
       refine wp_ret (zaf (za9 ?_))
       refine zap [.agg (zF (zd0 f.kind (f.kids.map (fun g=>za1.flat g d))))] h Exit.ret (.inl rfl)  rfl ⟨RV.agg _ 6 0 _ _ _ _ zf3 rfl rfl rfl rfl,trivial⟩ ?_
       rw [flat_45 (by omega),if_neg (by rw [hc19];exact Bool.noConfusion)];first | done | rfl
     ·have hc20:=hc;clear hc
      have hc20':=hc20;(try simp at hc20')
      refine wp_skip (zac (za4 (rq za0 10 [(1,.call (LTruth d) la_8)] [(4,vp 6 0)] [(6,.box (zF (zdq d)))] h ?_)));clear h;intro a w h
      refine wp_ret ?_
      refine zap [.agg (zF (zdq d))] h Exit.ret (.inl rfl)  rfl ⟨RV.agg _ 6 0 _ _ _ _ zf3 rfl rfl rfl rfl,trivial⟩ ?_
      rw [flat_x (by have:=hc2;simpa using this) (by have:=hc8;simpa using this) (by have:=hc12;simpa using this) (by have:=hc16;simpa using this) (by have:=hc20;simpa using this)];first | done | rfl
theorem Lflat (f:za1):f.okB 300 2000→f.wid≤1000000→∀ d:Bool,Fn Tryz.prog 61 [] [(vF f),vb d] (vF (za1.flat f d)) [] :=
 za1.ind (P:=fun f=>f.okB 300 2000→f.wid≤1000000→∀ d:Bool,Fn Tryz.prog 61 [] [(vF f),vb d] (vF (za1.flat f d)) []) (fun k r ks ih hf hw d=>Lflat0 ⟨k,r,ks⟩ d (fun g hg d=>ih g (zbx hg) (kid_ok hf hg) (Nat.le_trans (wid_kid hg) hw) d) hf hw) f
set_option maxHeartbeats 4000000 in
theorem LFlat (f:za1) (hf:f.okB 300 2000) (hw:f.wid≤1000000):Fn Tryz.prog 34 [] [(vF f)] (vF (za1.flat f false)) []:=by
 refine Fn.body Tryz.func34 rfl 5 rfl fun w H B a h=>?_
 refine rq za0 0 [] [(1,vp 0 0),(2,vp 1 0)] [(0,.box (zF f)),(1,.box [cI 0,.d (.raw za6),cB false,.d (nsl []),cB false,.d (.raw za6)])] h ?_;clear h;intro a w h
 refine rq za0 2 [(1,.call (Lflat f hf hw false) ld4_5)] [(2,vp 1 0)] [(1,.box (zF (za1.flat f false)))] h ?_;clear h;intro a w h
 refine wp_ret ?_
 refine zap [.agg (zF (za1.flat f false))] h Exit.ret (.inl rfl)  rfl ⟨RV.agg _ 1 0 _ _ _ _ zf3 rfl rfl rfl rfl,trivial⟩ ?_
 rfl
end
section
open Go.RowKit

def ZOk (L:Nat) (z:ZI):Prop:=Lb z.abs∧z.abs.length≤L
structure ActOk (L:Nat) (a:ActD):Prop where
  guard:a.guard.lb∧a.guard.ok L
  len:a.moves.length≤20
  mv:∀ m ∈ a.moves,TOk 20 L m.t
structure SysOk (L:Nat) (s:SysD):Prop where
  vars:s.vars.length≤8
  bnds:s.bounds.length≤20
  procs:s.procs.length≤6
  acts:s.acts.length≤20
  bnd:∀ b ∈ s.bounds,ZOk L b.lo∧ZOk L b.hi
  init:s.init.lb∧s.init.ok L
  act:∀ a ∈ s.acts,ActOk L a
structure StOk (M:Nat) (x:StD):Prop where
  locs:x.locs.length≤10
  vals:x.vals.length≤10
  val:∀ z ∈ x.vals,ZOk M z
theorem StOk.vok {M:Nat} {x:StD} (h:StOk M x):VOk M x.vals:=⟨Nat.le_trans h.vals (by decide),h.val⟩
theorem StOk.mono {M M':Nat} {x:StD} (h:StOk M x) (hm:M≤M'):StOk M' x:=⟨h.locs,h.vals,fun z hz=>⟨(h.val z hz).1,Nat.le_trans (h.val z hz).2 hm⟩⟩
end
section
open Go.RowKit
end
section
open Go.RowKit
end
section
open Go.RowKit
end
section
open Go.RowKit

set_option maxHeartbeats 4000000 in
theorem SCloneI1 (xs:List Int) (hn:0<xs.length) (hl:xs.length≤1000000):Fn Tryz.prog 50 [] [(vIs xs)] (.t (.c (.own 0 xs.length))) [(0,.row 3 1 (xs.map zbo))]:=by
 refine Fn.body Tryz.func50 rfl 8 rfl fun w H B a h=>?_
 refine rq za0 1 [] [(0,(vIs xs)),(2,.t (.c (.d (.raw za6))))] [] h ?_;clear h;intro a w h
 refine wp_seq (rq za0 1 [(1,.gen _ _ _ fun _ _ _ _=>Op.eqNilD (d:=4) (t:=3) (es:=1) (xt:=24) (yt:=24) (rows:=xs.map zbo) tb_1.hu ((by rw [List.length_map];exact hn)) (OV.const za6 rfl))] [(0,(vIs xs)),(2,.t (.c (.d (.raw za6)))),(4,vb false)] [] h ?_);clear h;intro a w h
 refine zaa false h rfl (fun hc=>?_) (fun hc=>?_)
 ·cases hc
 ·clear hc
  refine wp_skip (za4 (rq za0 1 [(0,.gen _ _ _ fun _ _ _ _=>Op.buildE (d:=5) (n:=1) tb_0),(2,.gen _ _ _ fun _ _ _ _=>Op.appOD (d:=7) (t:=5) (u:=6) (n:=1) (n':=2) (len:=0) (len':=xs.length) (rows:=[].map zbo) (rows2:=xs.map zbo) (rows':=xs.map zbo) tb_2 (by first | exact (List.length_map _).symm | simp) (by first | (rw [List.length_append,List.length_map];done) | simp) (by simp) (by simp [zbo]) (by first | omega | (simp at *;done) | (simp at *;omega)))] [(2,.t (.c (.own 2 xs.length)))] [(2,.row 3 1 (xs.map zbo))] h ?_));clear h;intro a w h
  refine wp_ret ?_
  replace h:=zc7 2 0 [(2,.t (.c (.own 0 xs.length)))] [(0,.row 3 1 (xs.map zbo))] h
  refine zap [.c (.own 0 xs.length)] h Exit.ret (.inl rfl)  rfl ⟨RV.tmp _ _ rfl,trivial⟩ ?_
  rfl
set_option maxHeartbeats 4000000 in
theorem SCloneI2 :Fn Tryz.prog 50 [] [.t (.c (.d (.raw za6)))] (.t (.c (.own 0 0))) [(0,.row 3 1 ([].map zbo))]:=by
 refine Fn.body Tryz.func50 rfl 8 rfl fun w H B a h=>?_
 refine rq za0 1 [] [(0,.t (.c (.d (.raw za6)))),(2,.t (.c (.d (.raw za6))))] [] h ?_;clear h;intro a w h
 refine wp_seq (rq za0 1 [(1,.gen _ _ _ fun _ _ _ _=>Op.eqNilR (d:=4) (xt:=24) (yt:=24) (ao:=none) (n:=0) (c:=0) tb_1.hu (OV.tmp 3 _) (OV.const za6 rfl))] [(0,.t (.c (.d (.raw za6)))),(2,.t (.c (.d (.raw za6)))),(4,vb true)] [] h ?_);clear h;intro a w h
 refine zaa true h rfl (fun hc=>?_) (fun hc=>?_)
 ·clear hc
  refine rq za0 1 [] [(0,.t (.c (.d (.raw za6)))),(2,.t (.c (.d (.raw za6))))] [] h ?_;clear h;intro a w h
  refine wp_ret (za9 ?_)
  replace h:=zel 2 0 1 1 3 (.t (.c (.d (.raw za6)))) [(0,.t (.c (.d (.raw za6)))),(2,.t (.c (.own 1 0)))] [(1,.row 3 1 ([].map zbo))] h (by kernel_rfl) rfl rfl
  replace h:=zc7 1 0 [(0,.t (.c (.d (.raw za6)))),(2,.t (.c (.own 0 0)))] [(0,.row 3 1 ([].map zbo))] h
  refine zap [.c (.own 0 0)] h Exit.ret (.inl rfl)  rfl ⟨RV.tmp _ _ rfl,trivial⟩ ?_
  rfl
 ·cases hc
set_option maxHeartbeats 4000000 in
theorem SCloneI3 (ao:Addr) (c:Nat) (hc:c≤maxLen):Fn Tryz.prog 50 [] [.t (.c (.d (.raw (.slice (some ao) 0 c))))] (.t (.c (.own 0 0))) [(0,.row 3 1 ([].map zbo))]:=by
 refine Fn.body Tryz.func50 rfl 8 rfl fun w H B a h=>?_
 refine rq za0 1 [] [(0,.t (.c (.d (.raw (.slice (some ao) 0 c))))),(2,.t (.c (.d (.raw za6))))] [] h ?_;clear h;intro a w h
 refine wp_seq (rq za0 1 [(1,.gen _ _ _ fun _ _ _ _=>Op.eqNilR (d:=4) (xt:=24) (yt:=24) (ao:=some ao) (n:=0) (c:=c) tb_1.hu (OV.tmp 3 _) (OV.const za6 rfl))] [(0,.t (.c (.d (.raw (.slice (some ao) 0 c))))),(2,.t (.c (.d (.raw za6)))),(4,vb false)] [] h ?_);clear h;intro a w h
 refine zaa false h rfl (fun hc=>?_) (fun hc=>?_)
 ·cases hc
 ·clear hc
  refine wp_skip (za4 ?_)
  replace h:=nilDSr 0 0 1 (.t (.c (.d (.raw (.slice (some ao) 0 c))))) (some ao) c (fun e=>by cases e) hc [(0,(vIs [])),(2,.t (.c (.d (.raw za6)))),(4,vb false)] [] h rfl rfl
  refine rq za0 1 [(0,.gen _ _ _ fun _ _ _ _=>Op.buildE (d:=5) (n:=1) tb_0),(2,.gen _ _ _ fun _ _ _ _=>Op.appOD (d:=7) (t:=5) (u:=6) (n:=1) (n':=2) (len:=0) (len':=0) (rows:=[].map zbo) (rows2:=[].map zbo) (rows':=[].map zbo) tb_2 (by first | exact (List.length_map _).symm | simp) (by first | (rw [List.length_append,List.length_map];done) | simp) (by simp) (by simp [zbo]) (by first | omega | (simp at *;done) | (simp at *;omega)))] [(2,.t (.c (.own 2 0)))] [(2,.row 3 1 ([].map zbo))] h ?_;clear h;intro a w h
  refine wp_ret ?_
  replace h:=zc7 2 0 [(2,.t (.c (.own 0 0)))] [(0,.row 3 1 ([].map zbo))] h
  refine zap [.c (.own 0 0)] h Exit.ret (.inl rfl)  rfl ⟨RV.tmp _ _ rfl,trivial⟩ ?_
  rfl
theorem SCloneI (xs:List Int) (hl:xs.length≤1000000):Fn Tryz.prog 50 [] [(vIs xs)] (.t (.c (.own 0 xs.length))) [(0,.row 3 1 (xs.map zbo))]:=by
 cases xs with
 | nil =>
  refine Fn.rawE fun ao c h1 h2=>?_
  cases ao with
  | none=>obtain rfl:=h1 rfl;exact SCloneI2
  | some ao=>exact SCloneI3 ao c h2
 | cons x xs=>exact SCloneI1 (x :: xs) (by simp) hl
end
section
open Go.RowKit

theorem le5_0:za7 Tryz.prog 50:=za7.mk' (by kernel_rfl)
theorem zfj:ElZ Tryz.prog 25 4 1:=ElZ.mk' Tryz.underlying25 _ _ rfl rfl (by kernel_rfl) (by kernel_rfl) (by kernel_rfl) (by decide)
theorem zh7:ElT Tryz.prog 25 4 1 1:=ElT.mk' Tryz.underlying25 _ _ rfl rfl (by kernel_rfl) (by kernel_rfl) (by kernel_rfl) (by decide) (by decide)
theorem le5_5:Sz Tryz.prog 27 2 true:=Sz.mk' (by kernel_rfl) Tryz.underlying27 _ rfl
theorem le5_8:za7 Tryz.prog 85:=za7.mk' (by kernel_rfl)
theorem le5_9:SlT Tryz.prog 25 4 1:=SlT.mk' Tryz.underlying25 (by kernel_rfl)
theorem le5_10:za7 Tryz.prog 54:=za7.mk' (by kernel_rfl)
theorem le5_13:za7 Tryz.prog 55:=za7.mk' (by kernel_rfl)
structure ze2 where
  locs:List Int
  bits:List Bool
def ze2.d (x:ze2):List D:=[.sl 1 (x.locs.map zbo),.sl 1 (x.bits.map za5)]
def ofA (ps:List zab) (x:StD):ze2:=⟨x.locs,ps.map (zan x.vals)⟩
def litF (r:zab) (b:Bool):za1:=if b=true then zdp r else denyF (zdp r)
def PsOkR (ps:List zab):Prop:=ps.length≤1000∧∀ r ∈ ps,TokR 10 r
set_option maxHeartbeats 4000000 in
theorem LabsOf (ps:List zab) (x:StD) (hps:PsOkR ps) (hx:StOk 10 x):Fn Tryz.prog 23 [] [(vRs ps),.t (.agg [cIs x.locs,cZs x.vals])] (.t (.agg [cIs (ofA ps x).locs,.d (.sl 1 ((ofA ps x).bits.map za5))])) []:=by
 have lps:=hps.1
 have lxl:=hx.locs
 refine Fn.body Tryz.func23 rfl 29 rfl fun w H B a h=>?_
 refine rq za0 5 [] [(0,(vRs ps)),(3,vp 5 0),(4,vp 6 0)] [(5,.box [cIs x.locs,cZs x.vals]),(6,.box [.d (.raw za6),.d (.raw za6)])] h ?_;clear h;intro a w h
 refine rq za0 7 [(2,.call (SCloneI x.locs (by omega)) le5_0)] [(0,(vRs ps)),(3,vp 5 0),(4,vp 6 0),(5,vp 7 0)] [(5,.box [cIs x.locs,cZs x.vals]),(6,.box [.d (.raw za6),.d (.raw za6)]),(0,.row 3 1 (x.locs.map zbo)),(7,.box [.own 0 x.locs.length,.d (.raw za6)])] h ?_;clear h;intro a w h
 refine wp_seq (rq za0 8 [(1,.len (c:=(cRs ps)) (n:=ps.length) (zae _ _ _))] [(3,vp 5 0),(4,vp 6 0),(5,vp 7 0),(12,(vRs ps)),(13,vi .i64 (ps.length:Int)),(14,vi .i64 0)] [(5,.box [cIs x.locs,cZs x.vals]),(6,.box [.d (.raw za6),.d (.raw za6)]),(0,.row 3 1 (x.locs.map zbo)),(7,.box [.own 0 x.locs.length,.d (.raw za6)])] h ?_);clear h;intro a w h
 refine wp_block ?_
 replace h:=nilOLs 7 1 8 1 4 [.own 0 x.locs.length,.d (.raw za6)] [(3,vp 5 0),(4,vp 6 0),(5,vp 7 0),(12,(vRs ps)),(13,vi .i64 (ps.length:Int)),(14,vi .i64 0)] [(5,.box [cIs x.locs,cZs x.vals]),(6,.box [.d (.raw za6),.d (.raw za6)]),(0,.row 3 1 (x.locs.map zbo)),(7,.box [.own 0 x.locs.length,.own 8 0]),(8,.row 4 1 ([].map za5))] h (by kernel_rfl) rfl rfl
 replace h:=h.conv (f':=F.of [(3,vp 5 0),(4,vp 6 0),(5,vp 7 0),(12,(vRs ps)),(13,vi .i64 (ps.length:Int)),(14,vi .i64 0)] [(5,.box [cIs x.locs,cZs x.vals]),(6,.box [.d (.raw za6),.d (.raw za6)]),(0,.row 3 1 (x.locs.map zbo)),(7,.box [.own 0 x.locs.length,.own 8 0]),(8,.row 4 1 (((ps.take 0).map (zan x.vals)).map za5))]) (congrArg (fun (z_:List Bool)=>F.of [(3,vp 5 0),(4,vp 6 0),(5,vp 7 0),(12,(vRs ps)),(13,vi .i64 (ps.length:Int)),(14,vi .i64 0)] [(5,.box [cIs x.locs,cZs x.vals]),(6,.box [.d (.raw za6),.d (.raw za6)]),(0,.row 3 1 (x.locs.map zbo)),(7,.box [.own 0 x.locs.length,.own 8 0]),(8,.row 4 1 (z_.map za5))]) (show ([]:List Bool)=((ps.take 0).map (zan x.vals)) from (by simp)))
 refine zb1 (ι:=(Nat)) (fun (z_:(Nat))=>match z_ with | j=>j≤ps.length)
   (fun (z_:(Nat))=>match z_ with | j=>[(3,vp 5 0),(4,vp 6 0),(5,vp 7 0),(12,(vRs ps)),(13,vi .i64 (ps.length:Int)),(14,vi .i64 (j:Int))])
   (fun (z_:(Nat))=>match z_ with | j=>[(5,.box [cIs x.locs,cZs x.vals]),(6,.box [.d (.raw za6),.d (.raw za6)]),(0,.row 3 1 (x.locs.map zbo)),(7,.box [.own 0 x.locs.length,.own 8 ((ps.take j).map (zan x.vals)).length]),(8,.row 4 1 (((ps.take j).map (zan x.vals)).map za5))])
   (fun (z_:(Nat))=>match z_ with | j=>ps.length - j) 0 ?_ h (by kernel_rfl) (by kernel_rfl) ?_
 ·exact Nat.zero_le _
 ·clear h;rintro j a w hI h
  change St _ (F.of [(3,vp 5 0),(4,vp 6 0),(5,vp 7 0),(12,(vRs ps)),(13,vi .i64 (ps.length:Int)),(14,vi .i64 (j:Int))] [(5,.box [cIs x.locs,cZs x.vals]),(6,.box [.d (.raw za6),.d (.raw za6)]),(0,.row 3 1 (x.locs.map zbo)),(7,.box [.own 0 x.locs.length,.own 8 ((ps.take j).map (zan x.vals)).length]),(8,.row 4 1 (((ps.take j).map (zan x.vals)).map za5))]) a w at h
  have lmj:((ps.take j).map (zan x.vals)).length≤j:=by rw [List.length_map,List.length_take];omega
  refine rq za0 9 [] [(3,vp 5 0),(4,vp 6 0),(5,vp 7 0),(12,(vRs ps)),(13,vi .i64 (ps.length:Int)),(14,vi .i64 (j:Int)),(15,vb (decide ((j:Int)<(ps.length:Int))))] [(5,.box [cIs x.locs,cZs x.vals]),(6,.box [.d (.raw za6),.d (.raw za6)]),(0,.row 3 1 (x.locs.map zbo)),(7,.box [.own 0 x.locs.length,.own 8 ((ps.take j).map (zan x.vals)).length]),(8,.row 4 1 (((ps.take j).map (zan x.vals)).map za5))] h ?_;clear h;intro a w h
  refine wp_seq ?_
  refine zaa (decide ((j:Int)<(ps.length:Int))) h rfl (fun hc=>?_) (fun hc=>?_)
  ·have hc1:=hc;clear hc
   have hc1':=of_decide_eq_true hc1
   refine wp_skip (za4 (wp_seq (wp_block ?_)))
   obtain ⟨x2,hx2⟩:∃ z_:zab,ps[j]?=some z_:=⟨_,List.getElem?_eq_getElem (by first | omega | (simp at *;omega))⟩
   refine rq za0 9 [(0,.gen _ _ _ fun _ _ _ _=>Op.idxD (d:=16) (t:=12) (k := .i64) kc_3 (zal hx2 (f:=zab.d)) (OV.tmp 14 _))] [(3,vp 5 0),(4,vp 6 0),(5,vp 7 0),(7,vp 9 0),(12,(vRs ps)),(13,vi .i64 (ps.length:Int)),(14,vi .i64 (j:Int))] [(5,.box [cIs x.locs,cZs x.vals]),(6,.box [.d (.raw za6),.d (.raw za6)]),(0,.row 3 1 (x.locs.map zbo)),(7,.box [.own 0 x.locs.length,.own 8 ((ps.take j).map (zan x.vals)).length]),(8,.row 4 1 (((ps.take j).map (zan x.vals)).map za5)),(9,.box (zR_ x2))] h ?_;clear h;intro a w h
   refine rn za0 10 [(5,.call (SrelHolds x2 x.vals (L:=10) (M:=10) (by decide) hx.vok (hps.2 x2 (List.mem_of_getElem? hx2))) ke_11),(6,.gen _ _ _ fun _ _ _ _=>Op.buildD (d:=24) (len:=1) (rows:=[zan x.vals x2].map za5) (rs:=[(23,vb (zan x.vals x2))]) zfj (.cons (i:=0) (OV.tmp 23 _) (.nil)) (by kernel_rfl) rfl (by simp [za5]) (by decide) (by decide)),(7,.gen _ _ _ fun _ _ _ _=>Op.appOD (d:=25) (t:=19) (u:=24) (n:=8) (n':=10) (len:=((ps.take j).map (zan x.vals)).length) (len':=(((ps.take j).map (zan x.vals))++[zan x.vals x2]).length) (rows:=((ps.take j).map (zan x.vals)).map za5) (rows2:=[zan x.vals x2].map za5) (rows':=(((ps.take j).map (zan x.vals))++[zan x.vals x2]).map za5) zh7 (by first | exact (List.length_map _).symm | simp) (by first | (rw [List.length_append,List.length_map];done) | simp) (by simp) (by simp [za5]) (by first | omega | (simp at *;done) | (simp at *;omega)))] [(3,vp 5 0),(4,vp 6 0),(5,vp 7 0),(12,(vRs ps)),(13,vi .i64 (ps.length:Int)),(14,vi .i64 (j:Int))] [(5,.box [cIs x.locs,cZs x.vals]),(6,.box [.d (.raw za6),.d (.raw za6)]),(0,.row 3 1 (x.locs.map zbo)),(7,.box ([.own 0 x.locs.length,.own 10 (((ps.take j).map (zan x.vals))++[zan x.vals x2]).length])),(10,.row 4 1 ((((ps.take j).map (zan x.vals))++[zan x.vals x2]).map za5))] h ?_;clear h;intro a w h
   refine zac (za4 (rn za0 11 [(0,.add .i64 (m:=(j:Int)) (n:=1) (zad (by omega) (by omega)))] [(3,vp 5 0),(4,vp 6 0),(5,vp 7 0),(12,(vRs ps)),(13,vi .i64 (ps.length:Int)),(14,vi .i64 ((j:Int)+1))] [(5,.box [cIs x.locs,cZs x.vals]),(6,.box [.d (.raw za6),.d (.raw za6)]),(0,.row 3 1 (x.locs.map zbo)),(7,.box ([.own 0 x.locs.length,.own 10 (((ps.take j).map (zan x.vals))++[zan x.vals x2]).length])),(10,.row 4 1 ((((ps.take j).map (zan x.vals))++[zan x.vals x2]).map za5))] h ?_));clear h;intro a w h
   refine za4 ?_
   replace h:=h.conv (f':=F.of [(3,vp 5 0),(4,vp 6 0),(5,vp 7 0),(12,(vRs ps)),(13,vi .i64 (ps.length:Int)),(14,vi .i64 ((j:Int)+1))] [(5,.box [cIs x.locs,cZs x.vals]),(6,.box [.d (.raw za6),.d (.raw za6)]),(0,.row 3 1 (x.locs.map zbo)),(7,.box [.own 0 x.locs.length,.own 10 ((ps.take (j+1)).map (zan x.vals)).length]),(10,.row 4 1 (((ps.take (j+1)).map (zan x.vals)).map za5))]) (congrArg (fun (z_:List Bool)=>F.of [(3,vp 5 0),(4,vp 6 0),(5,vp 7 0),(12,(vRs ps)),(13,vi .i64 (ps.length:Int)),(14,vi .i64 ((j:Int)+1))] [(5,.box [cIs x.locs,cZs x.vals]),(6,.box [.d (.raw za6),.d (.raw za6)]),(0,.row 3 1 (x.locs.map zbo)),(7,.box [.own 0 x.locs.length,.own 10 z_.length]),(10,.row 4 1 (z_.map za5))]) (show ((((ps.take j).map (zan x.vals))++[zan x.vals x2]):List Bool)=((ps.take (j+1)).map (zan x.vals)) from (zc1 hx2)))
   replace h:=zc7 10 8 [(3,vp 5 0),(4,vp 6 0),(5,vp 7 0),(12,(vRs ps)),(13,vi .i64 (ps.length:Int)),(14,vi .i64 ((j:Int)+1))] [(5,.box [cIs x.locs,cZs x.vals]),(6,.box [.d (.raw za6),.d (.raw za6)]),(0,.row 3 1 (x.locs.map zbo)),(7,.box [.own 0 x.locs.length,.own 8 ((ps.take (j+1)).map (zan x.vals)).length]),(8,.row 4 1 (((ps.take (j+1)).map (zan x.vals)).map za5))] h
   refine zam (x:=j) (y:=j+1) h ?_ ?_
   ·have:=zak hx2
    show j+1≤ps.length
    omega
   ·show ps.length - (j+1)<ps.length - j
    have:=zak hx2;omega
  ·have hc2:=hc;clear hc
   have hc2':=of_decide_eq_false hc2
   refine wp_exit (zai (zai (za8 (za4 (rq za0 11 [] [(4,vp 6 0)] [(6,.box [.own 0 x.locs.length,.own 8 ((ps.take j).map (zan x.vals)).length]),(0,.row 3 1 (x.locs.map zbo)),(8,.row 4 1 (((ps.take j).map (zan x.vals)).map za5))] h ?_)))));clear h;intro a w h
   refine wp_ret ?_
   replace h:=h.conv (f':=F.of [(4,vp 6 0)] [(6,.box [.own 0 x.locs.length,.own 8 (ps.map (zan x.vals)).length]),(0,.row 3 1 (x.locs.map zbo)),(8,.row 4 1 ((ps.map (zan x.vals)).map za5))]) (congrArg (fun (z_:List Bool)=>F.of [(4,vp 6 0)] [(6,.box [.own 0 x.locs.length,.own 8 z_.length]),(0,.row 3 1 (x.locs.map zbo)),(8,.row 4 1 (z_.map za5))]) (show (((ps.take j).map (zan x.vals)):List Bool)=(ps.map (zan x.vals)) from (by rw [List.take_of_length_le (by omega)])))
   replace h:=pubS 0 1 3 (x.locs.map zbo) [(4,vp 6 0)] [(6,.box [cIs x.locs,.own 8 (ps.map (zan x.vals)).length]),(8,.row 4 1 ((ps.map (zan x.vals)).map za5))] h rfl trivial (show zc5 _ [x.locs.length] from ⟨by first | exact (List.length_map _).symm | (simp;done) | (simp;omega),trivial⟩)
   replace h:=pubS 8 1 4 ((ps.map (zan x.vals)).map za5) [(4,vp 6 0)] [(6,.box [cIs x.locs,.d (.sl 1 ((ps.map (zan x.vals)).map za5))])] h rfl trivial (show zc5 _ [(ps.map (zan x.vals)).length] from ⟨by first | exact (List.length_map _).symm | (simp;done) | (simp;omega),trivial⟩)
   refine zap [.agg [cIs x.locs,.d (.sl 1 ((ps.map (zan x.vals)).map za5))]] h Exit.ret (.inl rfl)  rfl ⟨RV.agg _ 6 0 _ _ _ _ le5_5 rfl rfl rfl rfl,trivial⟩ ?_
   rfl
theorem lit_okB {r:zab} (hr:TOk 20 10 r.t) (b:Bool):(litF r b).okB 400 100:=by
 have h:(zdp r).okB 20 11:=zhe (hr.plain (by decide))
 unfold litF
 split
 ·exact za1.okB_mono (by decide) (by decide) _ h
 ·exact okB_kids (by decide) (by simp) fun g hg=>by rw [List.mem_singleton.1 hg];exact za1.okB_mono (by decide) (by decide) _ (okB_cl (by decide) _ h)
def zbi (ps:List zab) (bs:List Bool):List za1:=List.zipWith litF ps bs
def cubeF (ps:List zab) (bs:List Bool):za1:=allF (zbi ps bs)
theorem cube_at {ps:List zab} {bs:List Bool} {j:Nat} {r:zab} {b:Bool} (h:ps[j]?=some r) (k:bs[j]?=some b):(zbi ps bs).take j++[litF r b]=(zbi ps bs).take (j+1):=by
 have:(zbi ps bs)[j]?=some (litF r b):=by unfold zbi;rw [List.getElem?_zipWith,h,k]
 rw [List.take_add_one,this];rfl
theorem cube_len (ps:List zab) (bs:List Bool):(zbi ps bs).length=min ps.length bs.length:=by unfold zbi;exact List.length_zipWith ..
theorem cube_okB {ps:List zab} (hps:PsOkR ps) (bs:List Bool):∀ g ∈ zbi ps bs,g.okB 400 100:=fun g hg=>by
 obtain ⟨j,hj,rfl⟩:=List.getElem_of_mem hg
 have hl:=cube_len ps bs
 have e:(zbi ps bs)[j]'hj=litF (ps[j]'(by omega)) (bs[j]'(by omega)):=List.getElem_zipWith ..
 rw [e]
 exact lit_okB (hps.2 _ (List.getElem_mem _)) _
set_option maxHeartbeats 4000000 in
theorem Lliteral (r:zab) (b:Bool) (hr:TOk 20 10 r.t):Fn Tryz.prog 54 [] [(vR r),vb b] (vF (litF r b)) []:=by
 refine Fn.body Tryz.func54 rfl 11 rfl fun w H B a h=>?_
 refine rq za0 0 [] [(1,vb b),(2,vp 0 0),(4,vp 1 0)] [(0,.box (zR_ r)),(1,.box [cI 0,.d (.raw za6),cB false,.d (nsl []),cB false,.d (.raw za6)])] h ?_;clear h;intro a w h
 refine wp_seq (rq za0 2 [] [(2,vp 0 0),(4,vp 1 0),(5,vb b)] [(0,.box (zR_ r)),(1,.box [cI 0,.d (.raw za6),cB false,.d (nsl []),cB false,.d (.raw za6)])] h ?_);clear h;intro a w h
 refine zaa b h rfl (fun hc=>?_) (fun hc=>?_)
 ·have hc1:=hc;clear hc
  refine rq za0 2 [(1,.call (LOf r (hr.mono (by decide) (by decide))) la_9)] [(2,vp 0 0),(4,vp 1 0)] [(0,.box (zR_ r)),(1,.box (zF (zdp r)))] h ?_;clear h;intro a w h
  refine wp_ret (za9 ?_)
  refine zap [.agg (zF (zdp r))] h Exit.ret (.inl rfl)  rfl ⟨RV.agg _ 1 0 _ _ _ _ zf3 rfl rfl rfl rfl,trivial⟩ ?_
  unfold litF;rw [hc1];first | done | rfl
 ·have hc2:=hc;clear hc
  refine wp_skip (za4 (rq za0 2 [(1,.call (LOf r (hr.mono (by decide) (by decide))) la_9),(2,.call (LDeny (zdp r) (za1.okB_mono (by decide) (by decide) _ (zhe (n:=20) (L:=11) (hr.plain (by decide))))) le5_8)] [(4,vp 1 0)] [(1,.box (zF (denyF (zdp r))))] h ?_));clear h;intro a w h
  refine wp_ret ?_
  refine zap [.agg (zF (denyF (zdp r)))] h Exit.ret (.inl rfl)  rfl ⟨RV.agg _ 1 0 _ _ _ _ zf3 rfl rfl rfl rfl,trivial⟩ ?_
  unfold litF;rw [hc2];first | done | rfl
set_option maxHeartbeats 4000000 in
theorem LCube (ps:List zab) (bs:List Bool) (hps:PsOkR ps) (hb:bs.length≤9223372036854775807):Fn Tryz.prog 27 [] [(vRs ps),.t (.c (.d (.sl 1 (bs.map za5))))] (vF (cubeF ps bs)) []:=by
 have lps:=hps.1
 have lcb:=cube_len ps bs
 refine Fn.body Tryz.func27 rfl 30 rfl fun w H B a h=>?_
 refine rq za0 5 [] [(0,(vRs ps)),(1,.t (.c (.d (.sl 1 (bs.map za5))))),(4,vp 5 0)] [(5,.box [cI 0,.d (.raw za6),cB false,.d (nsl []),cB false,.d (.raw za6)])] h ?_;clear h;intro a w h
 refine rq za0 6 [] [(0,(vRs ps)),(1,.t (.c (.d (.sl 1 (bs.map za5))))),(4,vp 5 0),(5,.t (.c (.d (.raw za6))))] [(5,.box [cI 0,.d (.raw za6),cB false,.d (nsl []),cB false,.d (.raw za6)])] h ?_;clear h;intro a w h
 refine wp_seq (rq za0 6 [(1,.len (c:=(cRs ps)) (n:=ps.length) (zae _ _ _)),(3,.len (c:=(.d (.sl 1 (bs.map za5)))) (n:=bs.length) (zae _ _ _)),(4,.gen _ _ _ fun _ _ _ _=>Op.min2 (d:=11) (tys:=#[3,3]) (k := .i64) (m:=(ps.length:Int)) (n:=(bs.length:Int)) (r:=((min ps.length bs.length:Nat):Int)) (OV.tmp 8 _) (OV.tmp 10 _) (by omega))] [(0,(vRs ps)),(1,.t (.c (.d (.sl 1 (bs.map za5))))),(4,vp 5 0),(5,.t (.c (.d (.raw za6)))),(11,vi .i64 ((min ps.length bs.length:Nat):Int)),(12,vi .i64 0)] [(5,.box [cI 0,.d (.raw za6),cB false,.d (nsl []),cB false,.d (.raw za6)])] h ?_);clear h;intro a w h
 refine wp_block ?_
 replace h:=zel 5 0 6 6 60 (.t (.c (.d (.raw za6)))) [(0,(vRs ps)),(1,.t (.c (.d (.sl 1 (bs.map za5))))),(4,vp 5 0),(5,.t (.c (.own 6 0))),(11,vi .i64 ((min ps.length bs.length:Nat):Int)),(12,vi .i64 0)] [(5,.box [cI 0,.d (.raw za6),cB false,.d (nsl []),cB false,.d (.raw za6)]),(6,.row 60 6 ([].map za1.d))] h (by kernel_rfl) rfl rfl
 replace h:=h.conv (f':=F.of [(0,(vRs ps)),(1,.t (.c (.d (.sl 1 (bs.map za5))))),(4,vp 5 0),(5,.t (.c (.own 6 0))),(11,vi .i64 ((min ps.length bs.length:Nat):Int)),(12,vi .i64 0)] [(5,.box [cI 0,.d (.raw za6),cB false,.d (nsl []),cB false,.d (.raw za6)]),(6,.row 60 6 (((zbi ps bs).take 0).map za1.d))]) (congrArg (fun (z_:List za1)=>F.of [(0,(vRs ps)),(1,.t (.c (.d (.sl 1 (bs.map za5))))),(4,vp 5 0),(5,.t (.c (.own 6 0))),(11,vi .i64 ((min ps.length bs.length:Nat):Int)),(12,vi .i64 0)] [(5,.box [cI 0,.d (.raw za6),cB false,.d (nsl []),cB false,.d (.raw za6)]),(6,.row 60 6 (z_.map za1.d))]) (show ([]:List za1)=((zbi ps bs).take 0) from (by simp)))
 refine zb1 (ι:=(Nat)) (fun (z_:(Nat))=>match z_ with | j=>j≤min ps.length bs.length)
   (fun (z_:(Nat))=>match z_ with | j=>[(0,(vRs ps)),(1,.t (.c (.d (.sl 1 (bs.map za5))))),(4,vp 5 0),(5,.t (.c (.own 6 ((zbi ps bs).take j).length))),(11,vi .i64 ((min ps.length bs.length:Nat):Int)),(12,vi .i64 (j:Int))])
   (fun (z_:(Nat))=>match z_ with | j=>[(5,.box [cI 0,.d (.raw za6),cB false,.d (nsl []),cB false,.d (.raw za6)]),(6,.row 60 6 (((zbi ps bs).take j).map za1.d))])
   (fun (z_:(Nat))=>match z_ with | j=>min ps.length bs.length - j) 0 ?_ h (by kernel_rfl) (by kernel_rfl) ?_
 ·exact Nat.zero_le _
 ·clear h;rintro j a w hI h
  change St _ (F.of [(0,(vRs ps)),(1,.t (.c (.d (.sl 1 (bs.map za5))))),(4,vp 5 0),(5,.t (.c (.own 6 ((zbi ps bs).take j).length))),(11,vi .i64 ((min ps.length bs.length:Nat):Int)),(12,vi .i64 (j:Int))] [(5,.box [cI 0,.d (.raw za6),cB false,.d (nsl []),cB false,.d (.raw za6)]),(6,.row 60 6 (((zbi ps bs).take j).map za1.d))]) a w at h
  have lcj:((zbi ps bs).take j).length≤j:=by rw [List.length_take];omega
  refine rq za0 7 [] [(0,(vRs ps)),(1,.t (.c (.d (.sl 1 (bs.map za5))))),(4,vp 5 0),(5,.t (.c (.own 6 ((zbi ps bs).take j).length))),(11,vi .i64 ((min ps.length bs.length:Nat):Int)),(12,vi .i64 (j:Int)),(13,vb (decide ((j:Int)<((min ps.length bs.length:Nat):Int))))] [(5,.box [cI 0,.d (.raw za6),cB false,.d (nsl []),cB false,.d (.raw za6)]),(6,.row 60 6 (((zbi ps bs).take j).map za1.d))] h ?_;clear h;intro a w h
  refine wp_seq ?_
  refine zaa (decide ((j:Int)<((min ps.length bs.length:Nat):Int))) h rfl (fun hc=>?_) (fun hc=>?_)
  ·have hc1:=hc;clear hc
   have hc1':=of_decide_eq_true hc1
   refine wp_skip (za4 (wp_seq (wp_block (rq za0 7 [] [(0,(vRs ps)),(1,.t (.c (.d (.sl 1 (bs.map za5))))),(4,vp 5 0),(5,.t (.c (.own 6 ((zbi ps bs).take j).length))),(6,vi .i64 (j:Int)),(11,vi .i64 ((min ps.length bs.length:Nat):Int)),(12,vi .i64 (j:Int))] [(5,.box [cI 0,.d (.raw za6),cB false,.d (nsl []),cB false,.d (.raw za6)]),(6,.row 60 6 (((zbi ps bs).take j).map za1.d))] h ?_))));clear h;intro a w h
   obtain ⟨x1,hx1⟩:∃ z_:zab,ps[j]?=some z_:=⟨_,List.getElem?_eq_getElem (by first | omega | (simp at *;omega))⟩
   obtain ⟨x2,hx2⟩:∃ z_:Bool,bs[j]?=some z_:=⟨_,List.getElem?_eq_getElem (by first | omega | (simp at *;omega))⟩
   refine rn za0 7 [(3,.gen _ _ _ fun _ _ _ _=>Op.idxD (d:=18) (t:=16) (k := .i64) kc_3 (zal hx1 (f:=zab.d)) (OV.tmp 17 _)),(7,.gen _ _ _ fun _ _ _ _=>Op.idxD (d:=22) (t:=20) (k := .i64) le5_9 (zal hx2 (f:=za5)) (OV.tmp 21 _)),(9,.call (Lliteral x1 x2 (hps.2 x1 (List.mem_of_getElem? hx1))) le5_10),(10,.gen _ _ _ fun _ _ _ _=>Op.buildD (d:=25) (len:=1) (rows:=[(litF x1 x2)].map za1.d) (rs:=[(24,(vF (litF x1 x2)))]) kb_1 (.cons (i:=0) (OV.tmp 24 _) (.nil)) (by simp only [List.map_cons,List.map_nil,List.flatten_cons,List.flatten_nil,List.append_nil,za1.d_eq];kernel_rfl) rfl (by simp [za1.d_len]) (by decide) (by decide)),(11,.gen _ _ _ fun _ _ _ _=>Op.appOD (d:=26) (t:=15) (u:=25) (n:=6) (n':=7) (len:=((zbi ps bs).take j).length) (len':=(((zbi ps bs).take j)++[(litF x1 x2)]).length) (rows:=((zbi ps bs).take j).map za1.d) (rows2:=[(litF x1 x2)].map za1.d) (rows':=(((zbi ps bs).take j)++[(litF x1 x2)]).map za1.d) la_7 (by first | exact (List.length_map _).symm | simp) (by first | (rw [List.length_append,List.length_map];done) | simp) (by simp) (by simp [za1.d_len]) (by first | omega | (simp at *;done) | (simp at *;omega)))] [(0,(vRs ps)),(1,.t (.c (.d (.sl 1 (bs.map za5))))),(4,vp 5 0),(5,.t (.c (.own 7 (((zbi ps bs).take j)++[(litF x1 x2)]).length))),(11,vi .i64 ((min ps.length bs.length:Nat):Int)),(12,vi .i64 (j:Int))] [(5,.box [cI 0,.d (.raw za6),cB false,.d (nsl []),cB false,.d (.raw za6)]),(7,.row 60 6 ((((zbi ps bs).take j)++[(litF x1 x2)]).map za1.d))] h ?_;clear h;intro a w h
   refine zac (za4 (rn za0 8 [(0,.add .i64 (m:=(j:Int)) (n:=1) (zad (by omega) (by omega)))] [(0,(vRs ps)),(1,.t (.c (.d (.sl 1 (bs.map za5))))),(4,vp 5 0),(5,.t (.c (.own 7 (((zbi ps bs).take j)++[(litF x1 x2)]).length))),(11,vi .i64 ((min ps.length bs.length:Nat):Int)),(12,vi .i64 ((j:Int)+1))] [(5,.box [cI 0,.d (.raw za6),cB false,.d (nsl []),cB false,.d (.raw za6)]),(7,.row 60 6 ((((zbi ps bs).take j)++[(litF x1 x2)]).map za1.d))] h ?_));clear h;intro a w h
   refine za4 ?_
   replace h:=h.conv (f':=F.of [(0,(vRs ps)),(1,.t (.c (.d (.sl 1 (bs.map za5))))),(4,vp 5 0),(5,.t (.c (.own 7 ((zbi ps bs).take (j+1)).length))),(11,vi .i64 ((min ps.length bs.length:Nat):Int)),(12,vi .i64 ((j:Int)+1))] [(5,.box [cI 0,.d (.raw za6),cB false,.d (nsl []),cB false,.d (.raw za6)]),(7,.row 60 6 (((zbi ps bs).take (j+1)).map za1.d))]) (congrArg (fun (z_:List za1)=>F.of [(0,(vRs ps)),(1,.t (.c (.d (.sl 1 (bs.map za5))))),(4,vp 5 0),(5,.t (.c (.own 7 z_.length))),(11,vi .i64 ((min ps.length bs.length:Nat):Int)),(12,vi .i64 ((j:Int)+1))] [(5,.box [cI 0,.d (.raw za6),cB false,.d (nsl []),cB false,.d (.raw za6)]),(7,.row 60 6 (z_.map za1.d))]) (show ((((zbi ps bs).take j)++[(litF x1 x2)]):List za1)=((zbi ps bs).take (j+1)) from (cube_at hx1 hx2)))
   replace h:=zc7 7 6 [(0,(vRs ps)),(1,.t (.c (.d (.sl 1 (bs.map za5))))),(4,vp 5 0),(5,.t (.c (.own 6 ((zbi ps bs).take (j+1)).length))),(11,vi .i64 ((min ps.length bs.length:Nat):Int)),(12,vi .i64 ((j:Int)+1))] [(5,.box [cI 0,.d (.raw za6),cB false,.d (nsl []),cB false,.d (.raw za6)]),(6,.row 60 6 (((zbi ps bs).take (j+1)).map za1.d))] h
   refine zam (x:=j) (y:=j+1) h ?_ ?_
   ·have:=zak hx1
    have:=zak hx2
    show j+1≤min ps.length bs.length
    omega
   ·show min ps.length bs.length - (j+1)<min ps.length bs.length - j
    have:=zak hx1;have:=zak hx2;omega
  ·have hc2:=hc;clear hc
   have hc2':=of_decide_eq_false hc2
   refine wp_exit (zai (zai (za8 (za4 ?_))))
   replace h:=h.conv (f':=F.of [(0,(vRs ps)),(1,.t (.c (.d (.sl 1 (bs.map za5))))),(4,vp 5 0),(5,.t (.c (.own 6 (zbi ps bs).length))),(11,vi .i64 ((min ps.length bs.length:Nat):Int)),(12,vi .i64 (j:Int)),(13,vb (decide ((j:Int)<((min ps.length bs.length:Nat):Int))))] [(5,.box [cI 0,.d (.raw za6),cB false,.d (nsl []),cB false,.d (.raw za6)]),(6,.row 60 6 ((zbi ps bs).map za1.d))]) (congrArg (fun (z_:List za1)=>F.of [(0,(vRs ps)),(1,.t (.c (.d (.sl 1 (bs.map za5))))),(4,vp 5 0),(5,.t (.c (.own 6 z_.length))),(11,vi .i64 ((min ps.length bs.length:Nat):Int)),(12,vi .i64 (j:Int)),(13,vb (decide ((j:Int)<((min ps.length bs.length:Nat):Int))))] [(5,.box [cI 0,.d (.raw za6),cB false,.d (nsl []),cB false,.d (.raw za6)]),(6,.row 60 6 (z_.map za1.d))]) (show (((zbi ps bs).take j):List za1)=(zbi ps bs) from (by rw [List.take_of_length_le (by rw [cube_len];omega)])))
   replace h:=pubS 6 6 60 ((zbi ps bs).map za1.d) [(0,(vRs ps)),(1,.t (.c (.d (.sl 1 (bs.map za5))))),(4,vp 5 0),(5,(vFs (zbi ps bs))),(11,vi .i64 ((min ps.length bs.length:Nat):Int)),(12,vi .i64 (j:Int)),(13,vb (decide ((j:Int)<((min ps.length bs.length:Nat):Int))))] [(5,.box [cI 0,.d (.raw za6),cB false,.d (nsl []),cB false,.d (.raw za6)])] h rfl (show zc5 _ [(zbi ps bs).length] from ⟨by first | exact (List.length_map _).symm | (simp;done) | (simp;omega),trivial⟩) trivial
   refine rq za0 8 [(1,.call (LAll (zbi ps bs) (fun g hg=>za1.okB_mono (by decide) (by decide) _ (cube_okB hps bs g hg)) (by omega)) le5_13)] [(4,vp 5 0)] [(5,.box (zF (cubeF ps bs)))] h ?_;clear h;intro a w h
   refine wp_ret ?_
   refine zap [.agg (zF (cubeF ps bs))] h Exit.ret (.inl rfl)  rfl ⟨RV.agg _ 5 0 _ _ _ _ zf3 rfl rfl rfl rfl,trivial⟩ ?_
   rfl
end
section
open Go.RowKit

theorem lf6_0:za7 Tryz.prog 92:=za7.mk' (by kernel_rfl)
theorem lf6_2:za7 Tryz.prog 91:=za7.mk' (by kernel_rfl)
theorem lf6_3:za7 Tryz.prog 90:=za7.mk' (by kernel_rfl)
theorem lf6_4:za7 Tryz.prog 41:=za7.mk' (by kernel_rfl)
theorem lf6_8:za7 Tryz.prog 39:=za7.mk' (by kernel_rfl)
theorem lf6_9:za7 Tryz.prog 43:=za7.mk' (by kernel_rfl)
theorem lf6_10:za7 Tryz.prog 44:=za7.mk' (by kernel_rfl)
theorem lf6_13:za7 Tryz.prog 17:=za7.mk' (by kernel_rfl)
def zhq {α:Type} (c:α→α→Int):List α→List α→Int
  | [],[]=>0
  | [],_ :: _=>-1
  | _ :: _,[]=>1
  | p :: ps,q :: qs=>if c p q≠0 then c p q else zhq c ps qs
theorem cmpL_at {α:Type} {c:α→α→Int} {xs ys:List α} {j:Nat} {p q:α} (h:xs[j]?=some p) (k:ys[j]?=some q):zhq c (xs.drop j) (ys.drop j)=if c p q≠0 then c p q else zhq c (xs.drop (j+1)) (ys.drop (j+1)):=by
 obtain ⟨hj,rfl⟩:=List.getElem?_eq_some_iff.1 h
 obtain ⟨hk,rfl⟩:=List.getElem?_eq_some_iff.1 k
 rw [List.drop_eq_getElem_cons hj,List.drop_eq_getElem_cons hk];rfl
theorem cmpL_end {α:Type} {c:α→α→Int} {xs ys:List α} {j:Nat} (_h:j≤xs.length) (_k:j≤ys.length):(j=ys.length→j<xs.length→zhq c (xs.drop j) (ys.drop j)=1)∧(j=xs.length→j<ys.length→zhq c (xs.drop j) (ys.drop j)=-1)∧(j=xs.length→j=ys.length→zhq c (xs.drop j) (ys.drop j)=0):=by
 refine ⟨fun e1 e2=>?_,fun e1 e2=>?_,fun e1 e2=>?_⟩
 ·rw [List.drop_eq_getElem_cons e2,List.drop_of_length_le (l:=ys) (by omega)];rfl
 ·rw [List.drop_eq_getElem_cons e2,List.drop_of_length_le (l:=xs) (by omega)];rfl
 ·rw [List.drop_of_length_le (l:=ys) (by omega),List.drop_of_length_le (l:=xs) (by omega)];rfl
def bitZ (b:Bool):Int:=if b=true then 1 else 0
def zet (p q:Bool):Int:=zbn (bitZ p) (bitZ q)
def cmpA (a b:ze2):Int:=orZ [zhq zbn a.locs b.locs,zhq zet a.bits b.bits]
set_option maxHeartbeats 4000000 in
theorem Lindex1 (p r:zab) (hp:TOk 200 3000 p.t) (hr:TOk 200 3000 r.t):Fn Tryz.prog 91 [(0,.box (zR_ r))] [(vR p),vp 0 0] (vb (zch p r == 0)) [(0,.box (zR_ r))]:=by
 refine Fn.body Tryz.func91 rfl 7 rfl fun w H B a h=>?_
 refine rq za0 5 [] [(1,vp 0 0),(2,vp 5 0),(3,vb false)] [(0,.box (zR_ r)),(5,.box (zR_ p))] h ?_;clear h;intro a w h
 refine rq za0 6 [(2,.call (LSame p r hp hr (by decide) (by decide)) lf6_0)] [(3,vb (zch p r == 0))] [(0,.box (zR_ r))] h ?_;clear h;intro a w h
 refine wp_ret ?_
 refine zap [.c (cB (zch p r == 0))] h Exit.ret (.inl rfl)  rfl ⟨RV.tmp _ _ rfl,trivial⟩ ?_
 rfl
set_option maxHeartbeats 4000000 in
theorem SIdxIX (pr:zab→Bool) (xs:List zab) (r:zab) (hf:∀ x ∈ xs,Fn Tryz.prog 91 [(0,.box (zR_ r))] [(vR x),vp 0 0] (vb (pr x)) [(0,.box (zR_ r))]) (hl:xs.length≤9223372036854775807):Fn Tryz.prog 90 [(0,.box (zR_ r))] [(vRs xs),.t (.c (.fn (.func 91) [] [.ptr 0 0]))] (vi .i64 (zgk pr xs 0)) [(0,.box (zR_ r))]:=by
 refine Fn.body Tryz.func90 rfl 19 rfl fun w H B a h=>?_
 refine rq za0 5 [] [(0,(vRs xs)),(1,.t (.c (.fn (.func 91) [] [.ptr 0 0]))),(4,vi .i64 0)] [(0,.box (zR_ r))] h ?_;clear h;intro a w h
 refine wp_seq (rq za0 5 [(1,.len (c:=(cRs xs)) (n:=xs.length) (zae _ _ _))] [(0,(vRs xs)),(1,.t (.c (.fn (.func 91) [] [.ptr 0 0]))),(4,vi .i64 0),(7,vi .i64 (xs.length:Int)),(8,vi .i64 0)] [(0,.box (zR_ r))] h ?_);clear h;intro a w h
 refine wp_block ?_
 refine zb1 (ι:=(Nat)) (fun (z_:(Nat))=>match z_ with | j=>j≤xs.length∧zgk pr xs 0=zgk pr (xs.drop j) j)
   (fun (z_:(Nat))=>match z_ with | j=>[(0,(vRs xs)),(1,.t (.c (.fn (.func 91) [] [.ptr 0 0]))),(7,vi .i64 (xs.length:Int)),(8,vi .i64 (j:Int))])
   (fun (z_:(Nat))=>match z_ with | j=>[(0,.box (zR_ r))])
   (fun (z_:(Nat))=>match z_ with | j=>xs.length - j) 0 ?_ h (by kernel_rfl) (by kernel_rfl) ?_
 ·exact ⟨Nat.zero_le _,rfl⟩
 ·clear h;rintro j a w hI h
  change St _ (F.of [(0,(vRs xs)),(1,.t (.c (.fn (.func 91) [] [.ptr 0 0]))),(7,vi .i64 (xs.length:Int)),(8,vi .i64 (j:Int))] [(0,.box (zR_ r))]) a w at h
  obtain ⟨hI1,hI2⟩:=hI
  refine rq za0 5 [] [(0,(vRs xs)),(1,.t (.c (.fn (.func 91) [] [.ptr 0 0]))),(7,vi .i64 (xs.length:Int)),(8,vi .i64 (j:Int)),(9,vb (decide ((j:Int)<(xs.length:Int))))] [(0,.box (zR_ r))] h ?_;clear h;intro a w h
  refine wp_seq ?_
  refine zaa (decide ((j:Int)<(xs.length:Int))) h rfl (fun hc=>?_) (fun hc=>?_)
  ·have hc1:=hc;clear hc
   have hc1':=of_decide_eq_true hc1
   refine wp_skip (za4 (wp_seq (wp_block (rq za0 5 [] [(0,(vRs xs)),(1,.t (.c (.fn (.func 91) [] [.ptr 0 0]))),(5,vi .i64 (j:Int)),(7,vi .i64 (xs.length:Int)),(8,vi .i64 (j:Int))] [(0,.box (zR_ r))] h ?_))));clear h;intro a w h
   obtain ⟨x1,hx1⟩:∃ z_:zab,xs[j]?=some z_:=⟨_,List.getElem?_eq_getElem (by first | omega | (simp at *;omega))⟩
   refine rq za0 5 [(3,.gen _ _ _ fun _ _ _ _=>Op.idxD (d:=14) (t:=12) (k := .i64) kc_3 (zal hx1 (f:=zab.d)) (OV.tmp 13 _)),(5,.gen _ _ _ fun _ _ _ _=>Op.callV (d:=16) (t:=11) (cap:=[.ptr 0 0]) (args:=[(vR x1)]) (rs:=[(15,(vR x1))]) (tys:=#[57]) (hf x1 (List.mem_of_getElem? hx1)) lf6_2 (OVs.cons (OV.tmp 15 _) (OVs.nil)))] [(0,(vRs xs)),(1,.t (.c (.fn (.func 91) [] [.ptr 0 0]))),(5,vi .i64 (j:Int)),(7,vi .i64 (xs.length:Int)),(8,vi .i64 (j:Int)),(16,vb (pr x1))] [(0,.box (zR_ r))] h ?_;clear h;intro a w h
   refine zaa (pr x1) h rfl (fun hc=>?_) (fun hc=>?_)
   ·have hc2:=hc;clear hc
    refine rq za0 5 [] [(0,(vRs xs)),(1,.t (.c (.fn (.func 91) [] [.ptr 0 0]))),(4,vi .i64 (j:Int)),(7,vi .i64 (xs.length:Int)),(8,vi .i64 (j:Int))] [(0,.box (zR_ r))] h ?_;clear h;intro a w h
    refine wp_ret (zaf (za9 (za9 (zaf (za9 ?_)))))
    refine zap [.c (cI (j:Int))] h Exit.ret (.inl rfl)  rfl ⟨RV.tmp _ _ rfl,trivial⟩ ?_
    have hz:zgk pr xs 0=(j:Int):=by rw [hI2,idxB_at hx1,if_pos hc2]
    rw [hz];first | done | rfl
   ·have hc3:=hc;clear hc
    refine wp_skip (zac (za4 (rn za0 5 [(0,.add .i64 (m:=(j:Int)) (n:=1) (zad (by omega) (by omega)))] [(0,(vRs xs)),(1,.t (.c (.fn (.func 91) [] [.ptr 0 0]))),(7,vi .i64 (xs.length:Int)),(8,vi .i64 ((j:Int)+1))] [(0,.box (zR_ r))] h ?_)));clear h;intro a w h
    refine za4 ?_
    refine zam (x:=j) (y:=j+1) h ?_ ?_
    ·exact ⟨by have:=zak hx1;omega,by rw [hI2,idxB_at hx1,if_neg (by rw [hc3];exact Bool.noConfusion)]⟩
    ·simp;omega
  ·have hc4:=hc;clear hc
   have hc4':=of_decide_eq_false hc4
   refine wp_exit (zai (zai (za8 (za4 (rq za0 5 [] [(4,vi .i64 (-1))] [(0,.box (zR_ r))] h ?_)))));clear h;intro a w h
   refine wp_ret ?_
   refine zap [.c (cI (-1))] h Exit.ret (.inl rfl)  rfl ⟨RV.tmp _ _ rfl,trivial⟩ ?_
   have hz:zgk pr xs 0=-1:=by rw [hI2,List.drop_of_length_le (by omega)];rfl
   rw [hz];first | done | rfl
set_option maxHeartbeats 4000000 in
theorem Lindex (ps:List zab) (r:zab) (hps:ps.length≤1000000∧∀ p ∈ ps,TOk 200 3000 p.t) (hr:TOk 200 3000 r.t):Fn Tryz.prog 60 [] [(vRs ps),(vR r)] (vi .i64 (zgk (fun p=>zch p r == 0) ps 0)) []:=by
 refine Fn.body Tryz.func60 rfl 8 rfl fun w H B a h=>?_
 refine rq za0 0 [] [(0,(vRs ps)),(3,vp 0 0),(4,vi .i64 0)] [(0,.box (zR_ r))] h ?_;clear h;intro a w h
 refine rq za0 1 [(1,.gen _ _ _ fun _ _ _ _=>Op.makeFs (d:=6) (fn := .func 91) [(3,0,0)]),(2,.call (SIdxIX (fun p=>zch p r == 0) ps r (fun p hp=>Lindex1 p r (hps.2 p hp) hr) (Nat.le_trans hps.1 (by decide))) lf6_3)] [(4,vi .i64 (zgk (fun p=>zch p r == 0) ps 0))] [] h ?_;clear h;intro a w h
 refine wp_ret ?_
 refine zap [.c (cI (zgk (fun p=>zch p r == 0) ps 0))] h Exit.ret (.inl rfl)  rfl ⟨RV.tmp _ _ rfl,trivial⟩ ?_
 rfl
set_option maxHeartbeats 4000000 in
theorem Lbit (b:Bool) :Fn Tryz.prog 41 [] [vb b] (vi .i64 (bitZ b)) []:=by
 refine Fn.body Tryz.func41 rfl 4 rfl fun w H B a h=>?_
 refine rq za0 0 [] [(0,vb b),(2,vi .i64 0)] [] h ?_;clear h;intro a w h
 refine wp_seq (rq za0 0 [] [(2,vi .i64 0),(3,vb b)] [] h ?_);clear h;intro a w h
 refine zaa b h rfl (fun hc=>?_) (fun hc=>?_)
 ·have hc1:=hc;clear hc
  refine rq za0 0 [] [(2,vi .i64 1)] [] h ?_;clear h;intro a w h
  refine wp_ret (za9 ?_)
  refine zap [.c (cI 1)] h Exit.ret (.inl rfl)  rfl ⟨RV.tmp _ _ rfl,trivial⟩ ?_
  rw [hc1];rfl
 ·have hc2:=hc;clear hc
  refine wp_skip (za4 (rq za0 0 [] [(2,vi .i64 0)] [] h ?_));clear h;intro a w h
  refine wp_ret ?_
  refine zap [.c (cI 0)] h Exit.ret (.inl rfl)  rfl ⟨RV.tmp _ _ rfl,trivial⟩ ?_
  rw [hc2];rfl
set_option maxHeartbeats 4000000 in
theorem LCmp1 (p q:Bool) :Fn Tryz.prog 39 [] [vb p,vb q] (vi .i64 (zet p q)) []:=by
 refine Fn.body Tryz.func39 rfl 10 rfl fun w H B a h=>?_
 refine rq za0 0 [] [(0,vb p),(1,vb q),(4,vi .i64 0)] [] h ?_;clear h;intro a w h
 refine rq za0 0 [(1,.call (Lbit p) lf6_4),(3,.call (Lbit q) lf6_4),(4,.call (zg8 (bitZ p) (bitZ q)) td_5)] [(4,vi .i64 (zbn (bitZ p) (bitZ q)))] [] h ?_;clear h;intro a w h
 refine wp_ret ?_
 refine zap [.c (cI (zbn (bitZ p) (bitZ q)))] h Exit.ret (.inl rfl)  rfl ⟨RV.tmp _ _ rfl,trivial⟩ ?_
 rfl
set_option maxHeartbeats 4000000 in
theorem LCompareI (xs ys:List Int) (hx:xs.length≤9223372036854775807) (_hy:ys.length≤9223372036854775807):Fn Tryz.prog 43 [] [(vIs xs),(vIs ys)] (vi .i64 (zhq zbn xs ys)) []:=by
 refine Fn.body Tryz.func43 rfl 36 rfl fun w H B a h=>?_
 refine rq za0 0 [] [(0,(vIs xs)),(1,(vIs ys)),(4,vi .i64 0)] [] h ?_;clear h;intro a w h
 refine wp_seq (rq za0 0 [(1,.len (c:=(cIs xs)) (n:=xs.length) (zae _ _ _))] [(0,(vIs xs)),(1,(vIs ys)),(4,vi .i64 0),(9,(vIs xs)),(10,vi .i64 (xs.length:Int)),(11,vi .i64 0)] [] h ?_);clear h;intro a w h
 refine wp_block ?_
 refine zb1 (ι:=(Nat)) (fun (z_:(Nat))=>match z_ with | j=>j≤xs.length∧j≤ys.length∧zhq zbn xs ys=zhq zbn (xs.drop j) (ys.drop j))
   (fun (z_:(Nat))=>match z_ with | j=>[(0,(vIs xs)),(1,(vIs ys)),(9,(vIs xs)),(10,vi .i64 (xs.length:Int)),(11,vi .i64 (j:Int))])
   (fun (z_:(Nat))=>match z_ with | j=>[])
   (fun (z_:(Nat))=>match z_ with | j=>xs.length - j) 0 ?_ h (by kernel_rfl) (by kernel_rfl) ?_
 ·exact ⟨Nat.zero_le _,Nat.zero_le _,rfl⟩
 ·clear h;rintro j a w hI h
  change St _ (F.of [(0,(vIs xs)),(1,(vIs ys)),(9,(vIs xs)),(10,vi .i64 (xs.length:Int)),(11,vi .i64 (j:Int))] []) a w at h
  obtain ⟨hI1,hI2,hI3⟩:=hI
  have hce:=cmpL_end (c:=zbn) hI1 hI2
  refine rq za0 0 [] [(0,(vIs xs)),(1,(vIs ys)),(9,(vIs xs)),(10,vi .i64 (xs.length:Int)),(11,vi .i64 (j:Int)),(12,vb (decide ((j:Int)<(xs.length:Int))))] [] h ?_;clear h;intro a w h
  refine wp_seq ?_
  refine zaa (decide ((j:Int)<(xs.length:Int))) h rfl (fun hc=>?_) (fun hc=>?_)
  ·have hc1:=hc;clear hc
   have hc1':=of_decide_eq_true hc1
   refine wp_skip (za4 (wp_seq (wp_block ?_)))
   obtain ⟨x1,hx1⟩:∃ z_:Int,xs[j]?=some z_:=⟨_,List.getElem?_eq_getElem (by first | omega | (simp at *;omega))⟩
   refine rq za0 0 [(1,.gen _ _ _ fun _ _ _ _=>Op.idxD (d:=14) (t:=9) (k := .i64) tb_1 (zal hx1 (f:=zbo)) (OV.tmp 11 _))] [(0,(vIs xs)),(1,(vIs ys)),(5,vi .i64 (j:Int)),(6,vi .i64 x1),(9,(vIs xs)),(10,vi .i64 (xs.length:Int)),(11,vi .i64 (j:Int))] [] h ?_;clear h;intro a w h
   refine wp_seq (rq za0 0 [(2,.len (c:=(cIs ys)) (n:=ys.length) (zae _ _ _))] [(0,(vIs xs)),(1,(vIs ys)),(5,vi .i64 (j:Int)),(6,vi .i64 x1),(9,(vIs xs)),(10,vi .i64 (xs.length:Int)),(11,vi .i64 (j:Int)),(19,vb (decide ((j:Int)≥(ys.length:Int))))] [] h ?_);clear h;intro a w h
   refine zaa (decide ((j:Int)≥(ys.length:Int))) h rfl (fun hc=>?_) (fun hc=>?_)
   ·have hc2:=hc;clear hc
    have hc2':=of_decide_eq_true hc2
    refine rq za0 0 [] [(0,(vIs xs)),(1,(vIs ys)),(4,vi .i64 1),(5,vi .i64 (j:Int)),(6,vi .i64 x1),(9,(vIs xs)),(10,vi .i64 (xs.length:Int)),(11,vi .i64 (j:Int))] [] h ?_;clear h;intro a w h
    refine wp_ret (za9 (zaf (za9 (za9 (zaf (za9 ?_))))))
    refine zap [.c (cI 1)] h Exit.ret (.inl rfl)  rfl ⟨RV.tmp _ _ rfl,trivial⟩ ?_
    rw [hI3,hce.1 (by omega) (by omega)];first | done | rfl
   ·have hc3:=hc;clear hc
    have hc3':=of_decide_eq_false hc3
    refine wp_skip (za4 ?_)
    obtain ⟨x2,hx2⟩:∃ z_:Int,ys[j]?=some z_:=⟨_,List.getElem?_eq_getElem (by first | omega | (simp at *;omega))⟩
    refine rq za0 0 [(2,.gen _ _ _ fun _ _ _ _=>Op.idxD (d:=22) (t:=20) (k := .i64) tb_1 (zal hx2 (f:=zbo)) (OV.tmp 21 _))] [(0,(vIs xs)),(1,(vIs ys)),(6,vi .i64 x1),(7,vi .i64 x2),(9,(vIs xs)),(10,vi .i64 (xs.length:Int)),(11,vi .i64 (j:Int))] [] h ?_;clear h;intro a w h
    refine rq za0 0 [(2,.call (zg8 x1 x2) td_5)] [(0,(vIs xs)),(1,(vIs ys)),(8,vi .i64 (zbn x1 x2)),(9,(vIs xs)),(10,vi .i64 (xs.length:Int)),(11,vi .i64 (j:Int))] [] h ?_;clear h;intro a w h
    refine rq za0 0 [] [(0,(vIs xs)),(1,(vIs ys)),(8,vi .i64 (zbn x1 x2)),(9,(vIs xs)),(10,vi .i64 (xs.length:Int)),(11,vi .i64 (j:Int)),(28,vb (zbn x1 x2 != 0))] [] h ?_;clear h;intro a w h
    refine zaa (zbn x1 x2 != 0) h rfl (fun hc=>?_) (fun hc=>?_)
    ·have hc4:=hc;clear hc
     have hc4':=hc4;(try simp at hc4')
     refine rq za0 0 [] [(0,(vIs xs)),(1,(vIs ys)),(4,vi .i64 (zbn x1 x2)),(9,(vIs xs)),(10,vi .i64 (xs.length:Int)),(11,vi .i64 (j:Int))] [] h ?_;clear h;intro a w h
     refine wp_ret (zaf (za9 (za9 (zaf (za9 ?_)))))
     refine zap [.c (cI (zbn x1 x2))] h Exit.ret (.inl rfl)  rfl ⟨RV.tmp _ _ rfl,trivial⟩ ?_
     rw [hI3,cmpL_at hx1 hx2,if_pos (by have:=hc4;simpa using this)];first | done | rfl
    ·have hc5:=hc;clear hc
     have hc5':=hc5;(try simp at hc5')
     refine wp_skip (zac (za4 (rn za0 0 [(0,.add .i64 (m:=(j:Int)) (n:=1) (zad (by omega) (by omega)))] [(0,(vIs xs)),(1,(vIs ys)),(9,(vIs xs)),(10,vi .i64 (xs.length:Int)),(11,vi .i64 ((j:Int)+1))] [] h ?_)));clear h;intro a w h
     refine za4 ?_
     refine zam (x:=j) (y:=j+1) h ?_ ?_
     ·have:=zak hx1
      have:=zak hx2
      exact ⟨by omega,by omega,by rw [hI3,cmpL_at hx1 hx2,if_neg (by have:=hc5;simpa using this)]⟩
     ·show xs.length - (j+1)<xs.length - j
      have:=zak hx1;omega
  ·have hc6:=hc;clear hc
   have hc6':=of_decide_eq_false hc6
   refine wp_exit (zai (zai (za8 (za4 (wp_seq (rq za0 0 [(1,.len (c:=(cIs xs)) (n:=xs.length) (zae _ _ _)),(3,.len (c:=(cIs ys)) (n:=ys.length) (zae _ _ _))] [(35,vb (decide ((xs.length:Int)<(ys.length:Int))))] [] h ?_))))));clear h;intro a w h
   refine zaa (decide ((xs.length:Int)<(ys.length:Int))) h rfl (fun hc=>?_) (fun hc=>?_)
   ·have hc7:=hc;clear hc
    have hc7':=of_decide_eq_true hc7
    refine rq za0 0 [] [(4,vi .i64 (-1))] [] h ?_;clear h;intro a w h
    refine wp_ret (za9 ?_)
    refine zap [.c (cI (-1))] h Exit.ret (.inl rfl)  rfl ⟨RV.tmp _ _ rfl,trivial⟩ ?_
    rw [hI3,hce.2.1 (by omega) (by omega)];first | done | rfl
   ·have hc8:=hc;clear hc
    have hc8':=of_decide_eq_false hc8
    refine wp_skip (za4 (rq za0 0 [] [(4,vi .i64 0)] [] h ?_));clear h;intro a w h
    refine wp_ret ?_
    refine zap [.c (cI 0)] h Exit.ret (.inl rfl)  rfl ⟨RV.tmp _ _ rfl,trivial⟩ ?_
    rw [hI3,hce.2.2 (by omega) (by omega)];first | done | rfl
set_option maxHeartbeats 4000000 in
theorem LCompareB (xs ys:List Bool) (hx:xs.length≤9223372036854775807) (_hy:ys.length≤9223372036854775807):Fn Tryz.prog 44 [] [.t (.c (.d (.sl 1 (xs.map za5)))),.t (.c (.d (.sl 1 (ys.map za5)))),.t (.c (.fn (.func 39) [] []))] (vi .i64 (zhq zet xs ys)) []:=by
 refine Fn.body Tryz.func44 rfl 39 rfl fun w H B a h=>?_
 refine rq za0 0 [] [(0,.t (.c (.d (.sl 1 (xs.map za5))))),(1,.t (.c (.d (.sl 1 (ys.map za5))))),(2,.t (.c (.fn (.func 39) [] []))),(6,vi .i64 0)] [] h ?_;clear h;intro a w h
 refine wp_seq (rq za0 0 [(1,.len (c:=(.d (.sl 1 (xs.map za5)))) (n:=xs.length) (zae _ _ _))] [(0,.t (.c (.d (.sl 1 (xs.map za5))))),(1,.t (.c (.d (.sl 1 (ys.map za5))))),(2,.t (.c (.fn (.func 39) [] []))),(6,vi .i64 0),(11,.t (.c (.d (.sl 1 (xs.map za5))))),(12,vi .i64 (xs.length:Int)),(13,vi .i64 0)] [] h ?_);clear h;intro a w h
 refine wp_block ?_
 refine zb1 (ι:=(Nat)) (fun (z_:(Nat))=>match z_ with | j=>j≤xs.length∧j≤ys.length∧zhq zet xs ys=zhq zet (xs.drop j) (ys.drop j))
   (fun (z_:(Nat))=>match z_ with | j=>[(0,.t (.c (.d (.sl 1 (xs.map za5))))),(1,.t (.c (.d (.sl 1 (ys.map za5))))),(2,.t (.c (.fn (.func 39) [] []))),(11,.t (.c (.d (.sl 1 (xs.map za5))))),(12,vi .i64 (xs.length:Int)),(13,vi .i64 (j:Int))])
   (fun (z_:(Nat))=>match z_ with | j=>[])
   (fun (z_:(Nat))=>match z_ with | j=>xs.length - j) 0 ?_ h (by kernel_rfl) (by kernel_rfl) ?_
 ·exact ⟨Nat.zero_le _,Nat.zero_le _,rfl⟩
 ·clear h;rintro j a w hI h
  change St _ (F.of [(0,.t (.c (.d (.sl 1 (xs.map za5))))),(1,.t (.c (.d (.sl 1 (ys.map za5))))),(2,.t (.c (.fn (.func 39) [] []))),(11,.t (.c (.d (.sl 1 (xs.map za5))))),(12,vi .i64 (xs.length:Int)),(13,vi .i64 (j:Int))] []) a w at h
  obtain ⟨hI1,hI2,hI3⟩:=hI
  have hce:=cmpL_end (c:=zet) hI1 hI2
  refine rq za0 0 [] [(0,.t (.c (.d (.sl 1 (xs.map za5))))),(1,.t (.c (.d (.sl 1 (ys.map za5))))),(2,.t (.c (.fn (.func 39) [] []))),(11,.t (.c (.d (.sl 1 (xs.map za5))))),(12,vi .i64 (xs.length:Int)),(13,vi .i64 (j:Int)),(14,vb (decide ((j:Int)<(xs.length:Int))))] [] h ?_;clear h;intro a w h
  refine wp_seq ?_
  refine zaa (decide ((j:Int)<(xs.length:Int))) h rfl (fun hc=>?_) (fun hc=>?_)
  ·have hc1:=hc;clear hc
   have hc1':=of_decide_eq_true hc1
   refine wp_skip (za4 (wp_seq (wp_block ?_)))
   obtain ⟨x1,hx1⟩:∃ z_:Bool,xs[j]?=some z_:=⟨_,List.getElem?_eq_getElem (by first | omega | (simp at *;omega))⟩
   refine rq za0 0 [(1,.gen _ _ _ fun _ _ _ _=>Op.idxD (d:=16) (t:=11) (k := .i64) le5_9 (zal hx1 (f:=za5)) (OV.tmp 13 _))] [(0,.t (.c (.d (.sl 1 (xs.map za5))))),(1,.t (.c (.d (.sl 1 (ys.map za5))))),(2,.t (.c (.fn (.func 39) [] []))),(7,vi .i64 (j:Int)),(8,vb x1),(11,.t (.c (.d (.sl 1 (xs.map za5))))),(12,vi .i64 (xs.length:Int)),(13,vi .i64 (j:Int))] [] h ?_;clear h;intro a w h
   refine wp_seq (rq za0 0 [(2,.len (c:=(.d (.sl 1 (ys.map za5)))) (n:=ys.length) (zae _ _ _))] [(0,.t (.c (.d (.sl 1 (xs.map za5))))),(1,.t (.c (.d (.sl 1 (ys.map za5))))),(2,.t (.c (.fn (.func 39) [] []))),(7,vi .i64 (j:Int)),(8,vb x1),(11,.t (.c (.d (.sl 1 (xs.map za5))))),(12,vi .i64 (xs.length:Int)),(13,vi .i64 (j:Int)),(21,vb (decide ((j:Int)≥(ys.length:Int))))] [] h ?_);clear h;intro a w h
   refine zaa (decide ((j:Int)≥(ys.length:Int))) h rfl (fun hc=>?_) (fun hc=>?_)
   ·have hc2:=hc;clear hc
    have hc2':=of_decide_eq_true hc2
    refine rq za0 0 [] [(0,.t (.c (.d (.sl 1 (xs.map za5))))),(1,.t (.c (.d (.sl 1 (ys.map za5))))),(2,.t (.c (.fn (.func 39) [] []))),(6,vi .i64 1),(7,vi .i64 (j:Int)),(8,vb x1),(11,.t (.c (.d (.sl 1 (xs.map za5))))),(12,vi .i64 (xs.length:Int)),(13,vi .i64 (j:Int))] [] h ?_;clear h;intro a w h
    refine wp_ret (za9 (zaf (za9 (za9 (zaf (za9 ?_))))))
    refine zap [.c (cI 1)] h Exit.ret (.inl rfl)  rfl ⟨RV.tmp _ _ rfl,trivial⟩ ?_
    rw [hI3,hce.1 (by omega) (by omega)];first | done | rfl
   ·have hc3:=hc;clear hc
    have hc3':=of_decide_eq_false hc3
    refine wp_skip (za4 ?_)
    obtain ⟨x2,hx2⟩:∃ z_:Bool,ys[j]?=some z_:=⟨_,List.getElem?_eq_getElem (by first | omega | (simp at *;omega))⟩
    refine rq za0 0 [(2,.gen _ _ _ fun _ _ _ _=>Op.idxD (d:=24) (t:=22) (k := .i64) le5_9 (zal hx2 (f:=za5)) (OV.tmp 23 _))] [(0,.t (.c (.d (.sl 1 (xs.map za5))))),(1,.t (.c (.d (.sl 1 (ys.map za5))))),(2,.t (.c (.fn (.func 39) [] []))),(8,vb x1),(9,vb x2),(11,.t (.c (.d (.sl 1 (xs.map za5))))),(12,vi .i64 (xs.length:Int)),(13,vi .i64 (j:Int))] [] h ?_;clear h;intro a w h
    refine rq za0 0 [(3,.gen _ _ _ fun _ _ _ _=>Op.callV (d:=29) (t:=26) (cap:=[]) (args:=[vb x1,vb x2]) (rs:=[(27,vb x1),(28,vb x2)]) (tys:=#[4,4]) (LCmp1 x1 x2) lf6_8 (OVs.cons (OV.tmp 27 _) (OVs.cons (OV.tmp 28 _) (OVs.nil))))] [(0,.t (.c (.d (.sl 1 (xs.map za5))))),(1,.t (.c (.d (.sl 1 (ys.map za5))))),(2,.t (.c (.fn (.func 39) [] []))),(10,vi .i64 (zet x1 x2)),(11,.t (.c (.d (.sl 1 (xs.map za5))))),(12,vi .i64 (xs.length:Int)),(13,vi .i64 (j:Int))] [] h ?_;clear h;intro a w h
    refine rq za0 0 [] [(0,.t (.c (.d (.sl 1 (xs.map za5))))),(1,.t (.c (.d (.sl 1 (ys.map za5))))),(2,.t (.c (.fn (.func 39) [] []))),(10,vi .i64 (zet x1 x2)),(11,.t (.c (.d (.sl 1 (xs.map za5))))),(12,vi .i64 (xs.length:Int)),(13,vi .i64 (j:Int)),(31,vb ((zet x1 x2) != 0))] [] h ?_;clear h;intro a w h
    refine zaa ((zet x1 x2) != 0) h rfl (fun hc=>?_) (fun hc=>?_)
    ·have hc4:=hc;clear hc
     have hc4':=hc4;(try simp at hc4')
     refine rq za0 0 [] [(0,.t (.c (.d (.sl 1 (xs.map za5))))),(1,.t (.c (.d (.sl 1 (ys.map za5))))),(2,.t (.c (.fn (.func 39) [] []))),(6,vi .i64 (zet x1 x2)),(11,.t (.c (.d (.sl 1 (xs.map za5))))),(12,vi .i64 (xs.length:Int)),(13,vi .i64 (j:Int))] [] h ?_;clear h;intro a w h
     refine wp_ret (zaf (za9 (za9 (zaf (za9 ?_)))))
     refine zap [.c (cI (zet x1 x2))] h Exit.ret (.inl rfl)  rfl ⟨RV.tmp _ _ rfl,trivial⟩ ?_
     rw [hI3,cmpL_at hx1 hx2,if_pos (by have:=hc4;simpa using this)];first | done | rfl
    ·have hc5:=hc;clear hc
     have hc5':=hc5;(try simp at hc5')
     refine wp_skip (zac (za4 (rn za0 0 [(0,.add .i64 (m:=(j:Int)) (n:=1) (zad (by omega) (by omega)))] [(0,.t (.c (.d (.sl 1 (xs.map za5))))),(1,.t (.c (.d (.sl 1 (ys.map za5))))),(2,.t (.c (.fn (.func 39) [] []))),(11,.t (.c (.d (.sl 1 (xs.map za5))))),(12,vi .i64 (xs.length:Int)),(13,vi .i64 ((j:Int)+1))] [] h ?_)));clear h;intro a w h
     refine za4 ?_
     refine zam (x:=j) (y:=j+1) h ?_ ?_
     ·have:=zak hx1
      have:=zak hx2
      exact ⟨by omega,by omega,by rw [hI3,cmpL_at hx1 hx2,if_neg (by have:=hc5;simpa using this)]⟩
     ·show xs.length - (j+1)<xs.length - j
      have:=zak hx1;omega
  ·have hc6:=hc;clear hc
   have hc6':=of_decide_eq_false hc6
   refine wp_exit (zai (zai (za8 (za4 (wp_seq (rq za0 0 [(1,.len (c:=(.d (.sl 1 (xs.map za5)))) (n:=xs.length) (zae _ _ _)),(3,.len (c:=(.d (.sl 1 (ys.map za5)))) (n:=ys.length) (zae _ _ _))] [(38,vb (decide ((xs.length:Int)<(ys.length:Int))))] [] h ?_))))));clear h;intro a w h
   refine zaa (decide ((xs.length:Int)<(ys.length:Int))) h rfl (fun hc=>?_) (fun hc=>?_)
   ·have hc7:=hc;clear hc
    have hc7':=of_decide_eq_true hc7
    refine rq za0 0 [] [(6,vi .i64 (-1))] [] h ?_;clear h;intro a w h
    refine wp_ret (za9 ?_)
    refine zap [.c (cI (-1))] h Exit.ret (.inl rfl)  rfl ⟨RV.tmp _ _ rfl,trivial⟩ ?_
    rw [hI3,hce.2.1 (by omega) (by omega)];first | done | rfl
   ·have hc8:=hc;clear hc
    have hc8':=of_decide_eq_false hc8
    refine wp_skip (za4 (rq za0 0 [] [(6,vi .i64 0)] [] h ?_));clear h;intro a w h
    refine wp_ret ?_
    refine zap [.c (cI 0)] h Exit.ret (.inl rfl)  rfl ⟨RV.tmp _ _ rfl,trivial⟩ ?_
    rw [hI3,hce.2.2 (by omega) (by omega)];first | done | rfl
set_option maxHeartbeats 4000000 in
theorem LCmpA (x y:ze2) (hx:x.locs.length≤9223372036854775807∧x.bits.length≤9223372036854775807) (hy:y.locs.length≤9223372036854775807∧y.bits.length≤9223372036854775807):Fn Tryz.prog 17 [] [.t (.agg [cIs x.locs,.d (.sl 1 (x.bits.map za5))]),.t (.agg [cIs y.locs,.d (.sl 1 (y.bits.map za5))])] (vi .i64 (cmpA x y)) []:=by
 refine Fn.body Tryz.func17 rfl 19 rfl fun w H B a h=>?_
 refine rq za0 0 [] [(2,vp 0 0),(3,vp 1 0),(4,vi .i64 0)] [(0,.box [cIs x.locs,.d (.sl 1 (x.bits.map za5))]),(1,.box [cIs y.locs,.d (.sl 1 (y.bits.map za5))])] h ?_;clear h;intro a w h
 refine rq za0 2 [] [(2,vp 0 0),(3,vp 1 0),(4,vi .i64 0),(5,.t (.c (.fn (.func 39) [] [])))] [(0,.box [cIs x.locs,.d (.sl 1 (x.bits.map za5))]),(1,.box [cIs y.locs,.d (.sl 1 (y.bits.map za5))])] h ?_;clear h;intro a w h
 refine rq za0 2 [(4,.call (LCompareI x.locs y.locs hx.1 hy.1) lf6_9),(10,.call (LCompareB x.bits y.bits hx.2 hy.2) lf6_10),(11,.gen _ _ _ fun _ _ _ _=>Op.buildD (d:=17) (len:=2) (rows:=[(zhq zbn x.locs y.locs),(zhq zet x.bits y.bits)].map zbo) (rs:=[(10,vi .i64 (zhq zbn x.locs y.locs)),(16,vi .i64 (zhq zet x.bits y.bits))]) tb_0 (.cons (i:=0) (OV.tmp 10 _) (.cons (i:=1) (OV.tmp 16 _) (.nil))) (by kernel_rfl) rfl (by simp [zbo]) (by decide) (by decide)),(12,.call (SOr [(zhq zbn x.locs y.locs),(zhq zet x.bits y.bits)] (show List.length _≤1000000 from by simp)) tx_4)] [(4,vi .i64 (orZ [(zhq zbn x.locs y.locs),(zhq zet x.bits y.bits)]))] [] h ?_;clear h;intro a w h
 refine wp_ret ?_
 refine zap [.c (cI (orZ [(zhq zbn x.locs y.locs),(zhq zet x.bits y.bits)]))] h Exit.ret (.inl rfl)  rfl ⟨RV.tmp _ _ rfl,trivial⟩ ?_
 rfl
set_option maxHeartbeats 4000000 in
theorem LSameA (x y:ze2) (hx:x.locs.length≤9223372036854775807∧x.bits.length≤9223372036854775807) (hy:y.locs.length≤9223372036854775807∧y.bits.length≤9223372036854775807):Fn Tryz.prog 18 [] [.t (.agg [cIs x.locs,.d (.sl 1 (x.bits.map za5))]),.t (.agg [cIs y.locs,.d (.sl 1 (y.bits.map za5))])] (vb (cmpA x y == 0)) []:=by
 refine Fn.body Tryz.func18 rfl 9 rfl fun w H B a h=>?_
 refine rq za0 0 [] [(2,vp 0 0),(3,vp 1 0),(4,vb false)] [(0,.box [cIs x.locs,.d (.sl 1 (x.bits.map za5))]),(1,.box [cIs y.locs,.d (.sl 1 (y.bits.map za5))])] h ?_;clear h;intro a w h
 refine rq za0 2 [(2,.call (LCmpA x y hx hy) lf6_13)] [(4,vb ((cmpA x y) == 0))] [] h ?_;clear h;intro a w h
 refine wp_ret ?_
 refine zap [.c (cB ((cmpA x y) == 0))] h Exit.ret (.inl rfl)  rfl ⟨RV.tmp _ _ rfl,trivial⟩ ?_
 rfl
end
section
open Go.RowKit

set_option maxHeartbeats 4000000 in
theorem Lindex1b (p r:zab) (hp:TOk 200 3000 p.t) (hr:TOk 200 3000 r.t):Fn Tryz.prog 91 [(10,.box (zR_ r))] [(vR p),vp 10 0] (vb (zch p r == 0)) [(10,.box (zR_ r))]:=by
 refine Fn.body Tryz.func91 rfl 7 rfl fun w H B a h=>?_
 refine rq za0 12 [] [(1,vp 10 0),(2,vp 12 0),(3,vb false)] [(10,.box (zR_ r)),(12,.box (zR_ p))] h ?_;clear h;intro a w h
 refine rq za0 13 [(2,.call (LSame p r hp hr (by decide) (by decide)) lf6_0)] [(3,vb (zch p r == 0))] [(10,.box (zR_ r))] h ?_;clear h;intro a w h
 refine wp_ret ?_
 refine zap [.c (cB (zch p r == 0))] h Exit.ret (.inl rfl)  rfl ⟨RV.tmp _ _ rfl,trivial⟩ ?_
 rfl
set_option maxHeartbeats 4000000 in
theorem LIdxO (xs:List zab) (r:zab) (hf:∀ x ∈ xs,TOk 200 3000 x.t) (hr:TOk 200 3000 r.t) (hl:xs.length≤1000000):Fn Tryz.prog 90 [(9,.row 57 4 (xs.map zab.d)),(10,.box (zR_ r))] [.t (.c (.own 9 xs.length)),.t (.c (.fn (.func 91) [] [.ptr 10 0]))] (vi .i64 (zgk (fun p=>zch p r == 0) xs 0)) [(9,.row 57 4 (xs.map zab.d)),(10,.box (zR_ r))]:=by
 refine Fn.body Tryz.func90 rfl 19 rfl fun w H B a h=>?_
 refine rq za0 12 [] [(0,.t (.c (.own 9 xs.length))),(1,.t (.c (.fn (.func 91) [] [.ptr 10 0]))),(4,vi .i64 0)] [(9,.row 57 4 (xs.map zab.d)),(10,.box (zR_ r))] h ?_;clear h;intro a w h
 refine wp_seq (rq za0 12 [] [(0,.t (.c (.own 9 xs.length))),(1,.t (.c (.fn (.func 91) [] [.ptr 10 0]))),(4,vi .i64 0),(7,vi .i64 (xs.length:Int)),(8,vi .i64 0)] [(9,.row 57 4 (xs.map zab.d)),(10,.box (zR_ r))] h ?_);clear h;intro a w h
 refine wp_block ?_
 refine zb1 (ι:=(Nat)) (fun (z_:(Nat))=>match z_ with | j=>j≤xs.length∧zgk (fun p=>zch p r == 0) xs 0=zgk (fun p=>zch p r == 0) (xs.drop j) j)
   (fun (z_:(Nat))=>match z_ with | j=>[(0,.t (.c (.own 9 xs.length))),(1,.t (.c (.fn (.func 91) [] [.ptr 10 0]))),(7,vi .i64 (xs.length:Int)),(8,vi .i64 (j:Int))])
   (fun (z_:(Nat))=>match z_ with | j=>[(9,.row 57 4 (xs.map zab.d)),(10,.box (zR_ r))])
   (fun (z_:(Nat))=>match z_ with | j=>xs.length - j) 0 ?_ h (by kernel_rfl) (by kernel_rfl) ?_
 ·exact ⟨Nat.zero_le _,rfl⟩
 ·clear h;rintro j a w hI h
  change St _ (F.of [(0,.t (.c (.own 9 xs.length))),(1,.t (.c (.fn (.func 91) [] [.ptr 10 0]))),(7,vi .i64 (xs.length:Int)),(8,vi .i64 (j:Int))] [(9,.row 57 4 (xs.map zab.d)),(10,.box (zR_ r))]) a w at h
  obtain ⟨hI1,hI2⟩:=hI
  refine rq za0 12 [] [(0,.t (.c (.own 9 xs.length))),(1,.t (.c (.fn (.func 91) [] [.ptr 10 0]))),(7,vi .i64 (xs.length:Int)),(8,vi .i64 (j:Int)),(9,vb (decide ((j:Int)<(xs.length:Int))))] [(9,.row 57 4 (xs.map zab.d)),(10,.box (zR_ r))] h ?_;clear h;intro a w h
  refine wp_seq ?_
  refine zaa (decide ((j:Int)<(xs.length:Int))) h rfl (fun hc=>?_) (fun hc=>?_)
  ·have hc1:=hc;clear hc
   have hc1':=of_decide_eq_true hc1
   refine wp_skip (za4 (wp_seq (wp_block (rq za0 12 [] [(0,.t (.c (.own 9 xs.length))),(1,.t (.c (.fn (.func 91) [] [.ptr 10 0]))),(5,vi .i64 (j:Int)),(7,vi .i64 (xs.length:Int)),(8,vi .i64 (j:Int))] [(9,.row 57 4 (xs.map zab.d)),(10,.box (zR_ r))] h ?_))));clear h;intro a w h
   obtain ⟨x1,hx1⟩:∃ z_:zab,xs[j]?=some z_:=⟨_,List.getElem?_eq_getElem (by first | omega | (simp at *;omega))⟩
   refine rq za0 12 [(3,.gen _ _ _ fun _ _ _ _=>Op.idxO (d:=14) (t:=12) (k := .i64) (n:=9) (len:=xs.length) (i:=j) kc_3 (by first | omega | (simp at *;omega)) (OV.tmp 13 _)),(4,.gen _ _ _ fun _ _ _ _=>Op.loadR_agg (d:=15) (t:=14) (n:=9) (i:=j) (fo:=0) (rty:=57) (es:=4) (xs:=[.sl 3 (x1.t.parts.map za2.d),.raw (.bool x1.t.k.neg),nsl x1.t.k.abs,.raw (.bool x1.eq)]) la_1 rfl (zal hx1 (f:=zab.d)) rfl rfl),(5,.gen _ _ _ fun _ _ _ _=>Op.callV (d:=16) (t:=11) (cap:=[.ptr 10 0]) (args:=[(vR x1)]) (rs:=[(15,(vR x1))]) (tys:=#[57]) (Lindex1b x1 r (hf x1 (List.mem_of_getElem? hx1)) hr) lf6_2 (OVs.cons (OV.tmp 15 _) (OVs.nil)))] [(0,.t (.c (.own 9 xs.length))),(1,.t (.c (.fn (.func 91) [] [.ptr 10 0]))),(5,vi .i64 (j:Int)),(7,vi .i64 (xs.length:Int)),(8,vi .i64 (j:Int)),(16,vb (zch x1 r == 0))] [(9,.row 57 4 (xs.map zab.d)),(10,.box (zR_ r))] h ?_;clear h;intro a w h
   refine zaa (zch x1 r == 0) h rfl (fun hc=>?_) (fun hc=>?_)
   ·have hc2:=hc;clear hc
    have hc2':=hc2;(try simp at hc2')
    refine rq za0 12 [] [(0,.t (.c (.own 9 xs.length))),(1,.t (.c (.fn (.func 91) [] [.ptr 10 0]))),(4,vi .i64 (j:Int)),(7,vi .i64 (xs.length:Int)),(8,vi .i64 (j:Int))] [(9,.row 57 4 (xs.map zab.d)),(10,.box (zR_ r))] h ?_;clear h;intro a w h
    refine wp_ret (zaf (za9 (za9 (zaf (za9 ?_)))))
    refine zap [.c (cI (j:Int))] h Exit.ret (.inl rfl)  rfl ⟨RV.tmp _ _ rfl,trivial⟩ ?_
    have hz:zgk (fun p=>zch p r == 0) xs 0=(j:Int):=by rw [hI2,idxB_at hx1,if_pos hc2]
    rw [hz];first | done | rfl
   ·have hc3:=hc;clear hc
    have hc3':=hc3;(try simp at hc3')
    refine wp_skip (zac (za4 (rn za0 12 [(0,.add .i64 (m:=(j:Int)) (n:=1) (zad (by omega) (by omega)))] [(0,.t (.c (.own 9 xs.length))),(1,.t (.c (.fn (.func 91) [] [.ptr 10 0]))),(7,vi .i64 (xs.length:Int)),(8,vi .i64 ((j:Int)+1))] [(9,.row 57 4 (xs.map zab.d)),(10,.box (zR_ r))] h ?_)));clear h;intro a w h
    refine za4 ?_
    refine zam (x:=j) (y:=j+1) h ?_ ?_
    ·exact ⟨by have:=zak hx1;omega,by rw [hI2,idxB_at hx1,if_neg (by rw [hc3];exact Bool.noConfusion)]⟩
    ·show xs.length - (j+1)<xs.length - j
     have:=zak hx1;omega
  ·have hc4:=hc;clear hc
   have hc4':=of_decide_eq_false hc4
   refine wp_exit (zai (zai (za8 (za4 (rq za0 12 [] [(4,vi .i64 (-1))] [(9,.row 57 4 (xs.map zab.d)),(10,.box (zR_ r))] h ?_)))));clear h;intro a w h
   refine wp_ret ?_
   refine zap [.c (cI (-1))] h Exit.ret (.inl rfl)  rfl ⟨RV.tmp _ _ rfl,trivial⟩ ?_
   have hz:zgk (fun p=>zch p r == 0) xs 0=-1:=by rw [hI2,List.drop_of_length_le (by omega)];rfl
   rw [hz];first | done | rfl
set_option maxHeartbeats 4000000 in
theorem LindexO (xs:List zab) (r:zab) (hf:∀ x ∈ xs,TOk 200 3000 x.t) (hr:TOk 200 3000 r.t) (hl:xs.length≤1000000):Fn Tryz.prog 60 [(9,.row 57 4 (xs.map zab.d))] [.t (.c (.own 9 xs.length)),(vR r)] (vi .i64 (zgk (fun p=>zch p r == 0) xs 0)) [(9,.row 57 4 (xs.map zab.d))]:=by
 refine Fn.body Tryz.func60 rfl 8 rfl fun w H B a h=>?_
 refine rq za0 10 [] [(0,.t (.c (.own 9 xs.length))),(3,vp 10 0),(4,vi .i64 0)] [(9,.row 57 4 (xs.map zab.d)),(10,.box (zR_ r))] h ?_;clear h;intro a w h
 refine rq za0 11 [(1,.gen _ _ _ fun _ _ _ _=>Op.makeFs (d:=6) (fn := .func 91) [(3,10,0)]),(2,.call (LIdxO xs r hf hr hl) lf6_3)] [(4,vi .i64 (zgk (fun p=>zch p r == 0) xs 0))] [(9,.row 57 4 (xs.map zab.d))] h ?_;clear h;intro a w h
 refine wp_ret ?_
 refine zap [.c (cI (zgk (fun p=>zch p r == 0) xs 0))] h Exit.ret (.inl rfl)  rfl ⟨RV.tmp _ _ rfl,trivial⟩ ?_
 rfl
end
section
open Go.RowKit

def za1.okA (n L:Nat) (f:za1):Prop:=f.fold fun k r _ ps=>(k=2→TOk n L r.t)∧∀ p ∈ ps,p
theorem za1.okA_eq (n L:Nat) (f:za1):f.okA n L ↔ (f.kind=2→TOk n L f.r.t)∧∀ g ∈ f.kids,g.okA n L:=by
 have:=za1.fold_eq (fun k r _ (ps:List Prop)=>(k=2→TOk n L r.t)∧∀ p ∈ ps,p) f
 unfold za1.okA
 rw [this]
 refine and_congr_right fun _=>⟨fun h g hg=>h _ (List.mem_map.2 ⟨g,hg,rfl⟩),fun h p hp=>?_⟩
 obtain ⟨g,hg,rfl⟩:=List.mem_map.1 hp
 exact h g hg
theorem za1.okA_mono {n L n' L':Nat} (hn:n≤n') (hL:L≤L') (f:za1):f.okA n L→f.okA n' L' :=
 za1.ind (P:=fun f=>f.okA n L→f.okA n' L') (fun k r ks ih hf=>by
  rw [za1.okA_eq] at hf ⊢
  exact ⟨fun e=>(hf.1 e).mono hn hL,fun g hg=>ih g hg (hf.2 g hg)⟩) f
theorem okA_tru (n L:Nat) (b:Bool):(zdq b).okA n L:=by
 rw [za1.okA_eq];cases b <;> exact ⟨fun e=>absurd e (by decide),fun g hg=>by cases hg⟩
theorem okA_atom {n L:Nat} {r:zab} (h:TOk n L r.t):(za1.mk 2 r []).okA n L:=by
 rw [za1.okA_eq];exact ⟨fun _=>h,fun g hg=>by cases hg⟩
theorem zdz {n L:Nat} {k:Int} (hk:k=4∨k=5):∀ (fs out:List za1),(∀ g ∈ out,g.okA n L)→(∀ g ∈ fs,g.okA n L)→(zbm k fs out).okA n L
 | [],out,h,_=>by
  unfold zbm
  match out with
  | []=>exact okA_tru _ _ _
  | [g]=>exact h g (List.mem_cons_self ..)
  | g :: q :: l=>rw [za1.okA_eq];exact ⟨fun e=>absurd e (by show k≠2;omega),h⟩
 | f :: fs,out,h,h2=>by
  rw [zbm]
  have hf:=h2 f (List.mem_cons_self ..)
  have hfs:∀ g ∈ fs,g.okA n L:=fun g hg=>h2 g (List.mem_cons_of_mem _ hg)
  split
  ·exact hf
  ·split
   ·exact zdz hk fs out h hfs
   ·split
    ·exact zdz hk fs _ (fun g hg=>(List.mem_append.1 hg).elim (h g) fun hg=>((za1.okA_eq _ _ _).1 hf).2 g hg) hfs
    ·exact zdz hk fs _ (fun g hg=>(List.mem_append.1 hg).elim (h g) fun hg=>by rw [List.mem_singleton.1 hg];exact hf) hfs
theorem tight_okA {n L:Nat} {r:zab} (h:TOk n L r.t) (hn:n≤1000):(zaq r).okA n (L+4):=by
 unfold zaq
 split
 ·exact okA_atom (tight_tok h hn)
 ·exact okA_tru _ _ _
theorem flat_okA {n L:Nat} (hn:n≤1000) (f:za1):f.okB n L→∀ d,(f.flat d).okA n (2*L+26) :=
 za1.ind (P:=fun f=>f.okB n L→∀ d,(f.flat d).okA n (2*L+26)) (fun k r ks ih hf d=>by
  obtain ⟨⟨h1,_⟩,h3⟩:=(za1.okB_eq _ _ _).1 hf
  change k=2→_ at h1
  change ∀ g ∈ cnt k ks,_ at h3
  rw [za1.flat_eq]
  show (zgl k r (ks.map za1.flat) d).okA n (2*L+26)
  unfold zgl
  split
  ·exact okA_tru _ _ _
  ·split
   ·rename_i e
    split
    ·refine zdz (.inr rfl) _ [] (fun g hg=>by cases hg) fun g hg=>?_
     obtain ⟨q,hq,rfl⟩:=List.mem_map.1 hg
     exact tight_okA (deny_tok (h1 e) hn q hq) hn
    ·exact za1.okA_mono (Nat.le_refl _) (by omega) _ (tight_okA (h1 e) hn)
   ·split
    ·rename_i e
     subst e
     cases ks with
     | nil=>exact okA_tru _ _ _
     | cons g gs=>exact ih g (List.mem_cons_self ..) (h3 g (List.mem_cons_self ..)) (!d)
    ·split
     ·rename_i h4
      have hc:cnt k ks=ks:=by unfold cnt;rw [if_pos h4]
      rw [hc] at h3
      refine zdz (by cases d <;> simp <;> omega) _ [] (fun g hg=>by cases hg) fun g hg=>?_
      rw [List.map_map] at hg
      obtain ⟨q,hq,rfl⟩:=List.mem_map.1 hg
      exact ih q hq (h3 q hq) d
     ·exact okA_tru _ _ _) f
def atR (ps:List zab) (r:zab):Int:=zgk (fun p=>zch p r == 0) ps 0
def gathK (k:Int) (r:zab) (gs:List (List zab→List zab)) (ps:List zab):List zab:=if k=2∧atR ps r<0 then ps++[cpR r] else gs.foldl (fun a g=>g a) ps
def za1.gath (f:za1):List zab→List zab:=f.fold fun k r _ gs ps=>gathK k r gs ps
theorem za1.gath_eq (f:za1) (ps:List zab):f.gath ps=if f.kind=2∧atR ps f.r<0 then ps++[cpR f.r] else f.kids.foldl (fun a g=>g.gath a) ps:=by
 have:=congrFun (za1.fold_eq (fun k r _ (gs:List (List zab→List zab)) ps=>gathK k r gs ps) f) ps
 refine this.trans ?_
 unfold gathK
 rw [List.foldl_map];rfl
theorem gath_len (f:za1):∀ ps,(f.gath ps).length≤ps.length+f.nodes :=
 za1.ind (P:=fun f=>∀ ps,(f.gath ps).length≤ps.length+f.nodes) (fun k r ks ih ps=>by
  rw [za1.gath_eq,za1.nodes_eq]
  split
  ·rw [List.length_append];show ps.length+1≤ps.length+(1+_);omega
  ·have:∀ (xs:List za1),(∀ g ∈ xs,g ∈ ks)→∀ qs:List zab,(xs.foldl (fun a g=>g.gath a) qs).length≤qs.length+(xs.map za1.nodes).sum:=fun xs=>by
    induction xs with
    | nil=>intro _ qs;exact Nat.le_refl _
    | cons x xs ihx =>
     intro hx qs
     rw [List.foldl_cons,List.map_cons,List.sum_cons]
     have h1:=ihx (fun g hg=>hx g (List.mem_cons_of_mem _ hg)) (x.gath qs)
     have h2:=ih x (hx x (List.mem_cons_self ..)) qs
     omega
   have:=this ks (fun g hg=>hg) ps
   show (ks.foldl _ ps).length≤ps.length+(1+(ks.map za1.nodes).sum)
   omega) f
theorem zhm (xs:List za1) (qs:List zab):(xs.foldl (fun a g=>g.gath a) qs).length≤qs.length+(xs.map za1.nodes).sum:=by
 induction xs generalizing qs with
 | nil=>exact Nat.le_refl _
 | cons x xs ih =>
  rw [List.foldl_cons,List.map_cons,List.sum_cons]
  have h1:=ih (x.gath qs)
  have h2:=gath_len x qs
  omega
theorem gath_all {P:zab→Prop} (hP:∀ r,TOk 200 2900 r.t→P (cpR r)) (f:za1):f.okA 200 2900→∀ ps,(∀ r ∈ ps,P r)→∀ r ∈ f.gath ps,P r :=
 za1.ind (P:=fun f=>f.okA 200 2900→∀ ps,(∀ r ∈ ps,P r)→∀ r ∈ f.gath ps,P r) (fun k r ks ih hf ps hps=>by
  obtain ⟨h1,h2⟩:=(za1.okA_eq _ _ _).1 hf
  rw [za1.gath_eq]
  split
  ·rename_i e
   intro q hq
   rcases List.mem_append.1 hq with hq | hq
   ·exact hps q hq
   ·rw [List.mem_singleton.1 hq];exact hP r (h1 e.1)
  ·have:∀ (xs:List za1),(∀ g ∈ xs,g ∈ ks)→∀ qs:List zab,(∀ r ∈ qs,P r)→∀ r ∈ xs.foldl (fun a g=>g.gath a) qs,P r:=fun xs=>by
    induction xs with
    | nil=>intro _ qs h;exact h
    | cons x xs ihx =>
     intro hx qs h
     rw [List.foldl_cons]
     exact ihx (fun g hg=>hx g (List.mem_cons_of_mem _ hg)) _ (ih x (hx x (List.mem_cons_self ..)) (h2 x (hx x (List.mem_cons_self ..))) qs h)
   exact this ks (fun g hg=>hg) ps hps) f
theorem gath_tok {f:za1} (hf:f.okA 200 2900) {ps:List zab} (hps:∀ r ∈ ps,TOk 200 3000 r.t):∀ r ∈ f.gath ps,TOk 200 3000 r.t:=gath_all (P:=fun r=>TOk 200 3000 r.t) (fun r hr=>(hr.plain (by decide)).mono (by decide) (by decide)) f hf ps hps
theorem zhn {ks:List za1} {j:Nat} {g:za1} {ps:List zab} (h:ks[j]?=some g):(ks.take (j+1)).foldl (fun a g=>g.gath a) ps=g.gath ((ks.take j).foldl (fun a g=>g.gath a) ps):=by
 rw [List.take_add_one,h,List.foldl_append];rfl
theorem zhl {f:za1} {ps:List zab} (h:f.kind=2) (hi:atR ps f.r<0):f.gath ps=ps++[cpR f.r]:=by rw [za1.gath_eq,if_pos ⟨h,hi⟩]
theorem zhk {f:za1} {ps:List zab} (h:¬ (f.kind=2∧atR ps f.r<0)):f.gath ps=f.kids.foldl (fun a g=>g.gath a) ps:=by rw [za1.gath_eq,if_neg h]
end
section
open Go.RowKit

theorem lh8_0:za7 Tryz.prog 60:=za7.mk' (by kernel_rfl)
theorem lh8_3:ElT Tryz.prog 23 57 4 64:=ElT.mk' Tryz.underlying23 _ _ rfl rfl (by kernel_rfl) (by kernel_rfl) (by kernel_rfl) (by decide) (by decide)
theorem lh8_5:za7 Tryz.prog 33:=za7.mk' (by kernel_rfl)
theorem rel_okA {f:za1} (h:f.okA 200 2900) (e:(f.kind == 2)=true):TOk 200 3000 f.r.t:=(((za1.okA_eq _ _ _).1 h).1 (by simpa using e)).mono (by decide) (by decide)
theorem zfk {f g:za1} (h:f.okA 200 2900) (hg:g ∈ f.kids):g.okA 200 2900:=((za1.okA_eq _ _ _).1 h).2 g hg
theorem fold_ok {ks:List za1} (h:∀ g ∈ ks,g.okA 200 2900) {ps:List zab} (hps:∀ r ∈ ps,TOk 200 3000 r.t):∀ r ∈ ks.foldl (fun a g=>g.gath a) ps,TOk 200 3000 r.t:=by
 induction ks generalizing ps with
 | nil=>exact hps
 | cons x xs ih=>rw [List.foldl_cons];exact ih (fun g hg=>h g (List.mem_cons_of_mem _ hg)) (gath_tok (h x (List.mem_cons_self ..)) hps)
theorem zha (ks:List za1) (j:Nat) {x:za1} (h:ks[j]?=some x):((ks.take j).map za1.nodes).sum+x.nodes≤(ks.map za1.nodes).sum:=by
 have e:ks=ks.take j++ks.drop j:=(List.take_append_drop j ks).symm
 have h1:=zb7 h
 have h2:(ks.map za1.nodes).sum=((ks.take j).map za1.nodes).sum+((ks.drop j).map za1.nodes).sum:=by rw [← zbh,List.take_append_drop]
 omega
theorem take_le (ks:List za1) (j:Nat):((ks.take j).map za1.nodes).sum≤(ks.map za1.nodes).sum:=by
 have h2:(ks.map za1.nodes).sum=((ks.take j).map za1.nodes).sum+((ks.drop j).map za1.nodes).sum:=by rw [← zbh,List.take_append_drop]
 omega
set_option maxHeartbeats 4000000 in
theorem Lgather9 (ps:List zab) (f:za1) (ih:∀ g ∈ f.kids,∀ ps:List zab,(∀ r ∈ ps,TOk 200 3000 r.t)→ps.length+g.nodes≤1000000→Fn Tryz.prog 33 [(13,.row 57 4 (ps.map zab.d))] [.t (.c (.own 13 ps.length)),(vF g)] (.t (.c (.own 14 (za1.gath g ps).length))) [(14,.row 57 4 ((za1.gath g ps).map zab.d))]) (hf:f.okA 200 2900) (hps:∀ r ∈ ps,TOk 200 3000 r.t) (hl:ps.length+f.nodes≤1000000):Fn Tryz.prog 33 [(9,.row 57 4 (ps.map zab.d))] [.t (.c (.own 9 ps.length)),(vF f)] (.t (.c (.own 14 (za1.gath f ps).length))) [(14,.row 57 4 ((za1.gath f ps).map zab.d))]:=by
 have hnf:=za1.nodes_eq f
 have lkn:=zen f.kids
 refine Fn.body Tryz.func33 rfl 40 rfl fun w H B a h=>?_
 refine rq za0 20 [] [(0,.t (.c (.own 9 ps.length))),(3,vp 20 0),(4,.t (.c (.d (.raw za6))))] [(9,.row 57 4 (ps.map zab.d)),(20,.box (zF f))] h ?_;clear h;intro a w h
 refine wp_seq ?_
 rcases Bool.eq_false_or_eq_true (f.kind == 2) with hc | hc
 ·have hc1:=hc;clear hc
  have hc1':=hc1;(try simp at hc1')
  refine rq za0 21 [(2,.cmp (op := .eql) (m:=f.kind) (n:=2) (b:=true) .i64 hc1),(7,.call (LindexO ps f.r hps (rel_okA hf hc1) (by omega)) lh8_0)] [(0,.t (.c (.own 9 ps.length))),(3,vp 20 0),(4,.t (.c (.d (.raw za6)))),(16,vb (decide ((atR ps f.r)<0)))] [(9,.row 57 4 (ps.map zab.d)),(20,.box (zF f))] h ?_;clear h;intro a w h
  refine zaa (decide ((atR ps f.r)<0)) h rfl (fun hc=>?_) (fun hc=>?_)
  ·have hc2:=hc;clear hc
   have hc2':=of_decide_eq_true hc2
   refine rq za0 21 [(4,.call (zev f.r.t (rel_okA hf hc1) (by decide) (by decide)) tm_7),(9,.gen _ _ _ fun _ _ _ _=>Op.buildD (d:=26) (len:=1) (rows:=[(zab.mk (za3 f.r.t) f.r.eq)].map zab.d) (rs:=[(25,.t (.agg ((zT (za3 f.r.t))++[cB f.r.eq])))]) kc_5 (.cons (i:=0) (OV.tmp 25 _) (.nil)) (by kernel_rfl) rfl (by simp [zab.d]) (by decide) (by decide)),(10,.gen _ _ _ fun _ _ _ _=>Op.appOD (d:=27) (t:=17) (u:=26) (n:=9) (n':=21) (len:=ps.length) (len':=(ps++[(zab.mk (za3 f.r.t) f.r.eq)]).length) (rows:=ps.map zab.d) (rows2:=[(zab.mk (za3 f.r.t) f.r.eq)].map zab.d) (rows':=(ps++[(zab.mk (za3 f.r.t) f.r.eq)]).map zab.d) lh8_3 (by first | exact (List.length_map _).symm | simp) (by first | (rw [List.length_append,List.length_map];done) | simp) (by simp) (by simp [zab.d]) (by first | omega | (simp at *;done) | (simp at *;omega)))] [(0,.t (.c (.own 9 ps.length))),(3,vp 20 0),(4,.t (.c (.own 21 (ps++[(zab.mk (za3 f.r.t) f.r.eq)]).length)))] [(20,.box (zF f)),(21,.row 57 4 ((ps++[(zab.mk (za3 f.r.t) f.r.eq)]).map zab.d))] h ?_;clear h;intro a w h
   refine wp_ret (za9 ?_)
   replace h:=h.conv (f':=F.of [(0,.t (.c (.own 9 ps.length))),(3,vp 20 0),(4,.t (.c (.own 21 (za1.gath f ps).length)))] [(20,.box (zF f)),(21,.row 57 4 ((za1.gath f ps).map zab.d))]) (congrArg (fun (z_:List zab)=>F.of [(0,.t (.c (.own 9 ps.length))),(3,vp 20 0),(4,.t (.c (.own 21 z_.length)))] [(20,.box (zF f)),(21,.row 57 4 (z_.map zab.d))]) (show ((ps++[(zab.mk (za3 f.r.t) f.r.eq)]):List zab)=(za1.gath f ps) from (zhl (by have:=hc1;simpa using this) (of_decide_eq_true hc2)).symm))
   replace h:=zc7 21 14 [(0,.t (.c (.own 9 ps.length))),(3,vp 20 0),(4,.t (.c (.own 14 (za1.gath f ps).length)))] [(20,.box (zF f)),(14,.row 57 4 ((za1.gath f ps).map zab.d))] h
   refine zap [.c (.own 14 (za1.gath f ps).length)] h Exit.ret (.inl rfl)  rfl ⟨RV.tmp _ _ rfl,trivial⟩ ?_
   rfl
  ·have hc3:=hc;clear hc
   have hc3':=of_decide_eq_false hc3
   refine wp_skip (za4 (wp_seq (rq za0 22 [(2,.len (c:=(cFs f.kids)) (n:=f.kids.length) (zae _ _ _))] [(0,.t (.c (.own 9 ps.length))),(4,.t (.c (.d (.raw za6)))),(29,(vFs f.kids)),(30,vi .i64 (f.kids.length:Int)),(31,vi .i64 0)] [(9,.row 57 4 (ps.map zab.d))] h ?_)));clear h;intro a w h
   refine wp_block ?_
   replace h:=h.conv (f':=F.of [(0,.t (.c (.own 9 ((f.kids.take 0).foldl (fun a g=>g.gath a) ps).length))),(4,.t (.c (.d (.raw za6)))),(29,(vFs f.kids)),(30,vi .i64 (f.kids.length:Int)),(31,vi .i64 0)] [(9,.row 57 4 (((f.kids.take 0).foldl (fun a g=>g.gath a) ps).map zab.d))]) (congrArg (fun (z_:List zab)=>F.of [(0,.t (.c (.own 9 z_.length))),(4,.t (.c (.d (.raw za6)))),(29,(vFs f.kids)),(30,vi .i64 (f.kids.length:Int)),(31,vi .i64 0)] [(9,.row 57 4 (z_.map zab.d))]) (show (ps:List zab)=((f.kids.take 0).foldl (fun a g=>g.gath a) ps) from rfl))
   replace h:=zc7 9 13 [(0,.t (.c (.own 13 ((f.kids.take 0).foldl (fun a g=>g.gath a) ps).length))),(4,.t (.c (.d (.raw za6)))),(29,(vFs f.kids)),(30,vi .i64 (f.kids.length:Int)),(31,vi .i64 0)] [(13,.row 57 4 (((f.kids.take 0).foldl (fun a g=>g.gath a) ps).map zab.d))] h
   refine zb1 (ι:=(Nat)) (fun (z_:(Nat))=>match z_ with | j=>j≤f.kids.length)
     (fun (z_:(Nat))=>match z_ with | j=>[(0,.t (.c (.own 13 ((f.kids.take j).foldl (fun a g=>g.gath a) ps).length))),(4,.t (.c (.d (.raw za6)))),(29,(vFs f.kids)),(30,vi .i64 (f.kids.length:Int)),(31,vi .i64 (j:Int))])
     (fun (z_:(Nat))=>match z_ with | j=>[(13,.row 57 4 (((f.kids.take j).foldl (fun a g=>g.gath a) ps).map zab.d))])
     (fun (z_:(Nat))=>match z_ with | j=>f.kids.length - j) 0 ?_ h (by kernel_rfl) (by kernel_rfl) ?_
   ·exact Nat.zero_le _
   ·clear h;rintro j a w hI h
    change St _ (F.of [(0,.t (.c (.own 13 ((f.kids.take j).foldl (fun a g=>g.gath a) ps).length))),(4,.t (.c (.d (.raw za6)))),(29,(vFs f.kids)),(30,vi .i64 (f.kids.length:Int)),(31,vi .i64 (j:Int))] [(13,.row 57 4 (((f.kids.take j).foldl (fun a g=>g.gath a) ps).map zab.d))]) a w at h
    have lfj:=zhm (f.kids.take j) ps
    have ltj:=take_le f.kids j
    refine rq za0 22 [] [(0,.t (.c (.own 13 ((f.kids.take j).foldl (fun a g=>g.gath a) ps).length))),(4,.t (.c (.d (.raw za6)))),(29,(vFs f.kids)),(30,vi .i64 (f.kids.length:Int)),(31,vi .i64 (j:Int)),(32,vb (decide ((j:Int)<(f.kids.length:Int))))] [(13,.row 57 4 (((f.kids.take j).foldl (fun a g=>g.gath a) ps).map zab.d))] h ?_;clear h;intro a w h
    refine wp_seq ?_
    refine zaa (decide ((j:Int)<(f.kids.length:Int))) h rfl (fun hc=>?_) (fun hc=>?_)
    ·have hc4:=hc;clear hc
     have hc4':=of_decide_eq_true hc4
     refine wp_skip (za4 (wp_seq (wp_block ?_)))
     obtain ⟨x3,hx3⟩:∃ z_:za1,f.kids[j]?=some z_:=⟨_,List.getElem?_eq_getElem (by first | omega | (simp at *;omega))⟩
     refine rq za0 22 [(0,.gen _ _ _ fun _ _ _ _=>Op.idxD (d:=33) (t:=29) (k := .i64) kb_0 ((zal hx3 (f:=za1.d)).trans (congrArg some (za1.d_eq x3))) (OV.tmp 31 _))] [(0,.t (.c (.own 13 ((f.kids.take j).foldl (fun a g=>g.gath a) ps).length))),(4,.t (.c (.d (.raw za6)))),(6,vp 22 0),(29,(vFs f.kids)),(30,vi .i64 (f.kids.length:Int)),(31,vi .i64 (j:Int))] [(13,.row 57 4 (((f.kids.take j).foldl (fun a g=>g.gath a) ps).map zab.d)),(22,.box (zF x3))] h ?_;clear h;intro a w h
     refine rn za0 23 [(2,.call (ih x3 (List.mem_of_getElem? hx3) ((f.kids.take j).foldl (fun a g=>g.gath a) ps) (fold_ok (fun q hq=>zfk hf (List.mem_of_mem_take hq)) hps) (by have:=zha f.kids j hx3;omega)) lh8_5)] [(0,.t (.c (.own 14 (za1.gath x3 ((f.kids.take j).foldl (fun a g=>g.gath a) ps)).length))),(4,.t (.c (.d (.raw za6)))),(29,(vFs f.kids)),(30,vi .i64 (f.kids.length:Int)),(31,vi .i64 (j:Int))] [(14,.row 57 4 ((za1.gath x3 ((f.kids.take j).foldl (fun a g=>g.gath a) ps)).map zab.d))] h ?_;clear h;intro a w h
     refine zac (za4 (rn za0 23 [(0,.add .i64 (m:=(j:Int)) (n:=1) (zad (by omega) (by omega)))] [(0,.t (.c (.own 14 (za1.gath x3 ((f.kids.take j).foldl (fun a g=>g.gath a) ps)).length))),(4,.t (.c (.d (.raw za6)))),(29,(vFs f.kids)),(30,vi .i64 (f.kids.length:Int)),(31,vi .i64 ((j:Int)+1))] [(14,.row 57 4 ((za1.gath x3 ((f.kids.take j).foldl (fun a g=>g.gath a) ps)).map zab.d))] h ?_));clear h;intro a w h
     refine za4 ?_
     replace h:=zc7 14 13 [(0,.t (.c (.own 13 (za1.gath x3 ((f.kids.take j).foldl (fun a g=>g.gath a) ps)).length))),(4,.t (.c (.d (.raw za6)))),(29,(vFs f.kids)),(30,vi .i64 (f.kids.length:Int)),(31,vi .i64 ((j:Int)+1))] [(13,.row 57 4 ((za1.gath x3 ((f.kids.take j).foldl (fun a g=>g.gath a) ps)).map zab.d))] h
     replace h:=h.conv (f':=F.of [(0,.t (.c (.own 13 ((f.kids.take (j+1)).foldl (fun a g=>g.gath a) ps).length))),(4,.t (.c (.d (.raw za6)))),(29,(vFs f.kids)),(30,vi .i64 (f.kids.length:Int)),(31,vi .i64 ((j:Int)+1))] [(13,.row 57 4 (((f.kids.take (j+1)).foldl (fun a g=>g.gath a) ps).map zab.d))]) (congrArg (fun (z_:List zab)=>F.of [(0,.t (.c (.own 13 z_.length))),(4,.t (.c (.d (.raw za6)))),(29,(vFs f.kids)),(30,vi .i64 (f.kids.length:Int)),(31,vi .i64 ((j:Int)+1))] [(13,.row 57 4 (z_.map zab.d))]) (show ((za1.gath x3 ((f.kids.take j).foldl (fun a g=>g.gath a) ps)):List zab)=((f.kids.take (j+1)).foldl (fun a g=>g.gath a) ps) from (zhn hx3).symm))
     refine zam (x:=j) (y:=j+1) h ?_ ?_
     ·have:=zak hx3
      show j+1≤f.kids.length
      omega
     ·show f.kids.length - (j+1)<f.kids.length - j
      have:=zak hx3;omega
    ·have hc5:=hc;clear hc
     have hc5':=of_decide_eq_false hc5
     refine wp_exit (zai (zai (za8 (za4 (rq za0 23 [] [(4,.t (.c (.own 13 ((f.kids.take j).foldl (fun a g=>g.gath a) ps).length)))] [(13,.row 57 4 (((f.kids.take j).foldl (fun a g=>g.gath a) ps).map zab.d))] h ?_)))));clear h;intro a w h
     refine wp_ret ?_
     replace h:=h.conv (f':=F.of [(4,.t (.c (.own 13 (za1.gath f ps).length)))] [(13,.row 57 4 ((za1.gath f ps).map zab.d))]) (congrArg (fun (z_:List zab)=>F.of [(4,.t (.c (.own 13 z_.length)))] [(13,.row 57 4 (z_.map zab.d))]) (show (((f.kids.take j).foldl (fun a g=>g.gath a) ps):List zab)=(za1.gath f ps) from (by rw [List.take_of_length_le (by omega)];exact (zhk (fun e=>of_decide_eq_false hc3 e.2)).symm)))
     replace h:=zc7 13 14 [(4,.t (.c (.own 14 (za1.gath f ps).length)))] [(14,.row 57 4 ((za1.gath f ps).map zab.d))] h
     refine zap [.c (.own 14 (za1.gath f ps).length)] h Exit.ret (.inl rfl)  rfl ⟨RV.tmp _ _ rfl,trivial⟩ ?_
     rfl
 ·have hc6:=hc;clear hc
  have hc6':=hc6;(try simp at hc6')
  refine rq za0 23 [(2,.cmp (op := .eql) (m:=f.kind) (n:=2) (b:=false) .i64 hc6)] [(0,.t (.c (.own 9 ps.length))),(3,vp 20 0),(4,.t (.c (.d (.raw za6)))),(16,vb false)] [(9,.row 57 4 (ps.map zab.d)),(20,.box (zF f))] h ?_;clear h;intro a w h
  refine zaa false h rfl (fun hc=>?_) (fun hc=>?_)
  ·cases hc
  ·clear hc
   refine wp_skip (za4 (wp_seq (rq za0 23 [(2,.len (c:=(cFs f.kids)) (n:=f.kids.length) (zae _ _ _))] [(0,.t (.c (.own 9 ps.length))),(4,.t (.c (.d (.raw za6)))),(29,(vFs f.kids)),(30,vi .i64 (f.kids.length:Int)),(31,vi .i64 0)] [(9,.row 57 4 (ps.map zab.d))] h ?_)));clear h;intro a w h
   refine wp_block ?_
   replace h:=h.conv (f':=F.of [(0,.t (.c (.own 9 ((f.kids.take 0).foldl (fun a g=>g.gath a) ps).length))),(4,.t (.c (.d (.raw za6)))),(29,(vFs f.kids)),(30,vi .i64 (f.kids.length:Int)),(31,vi .i64 0)] [(9,.row 57 4 (((f.kids.take 0).foldl (fun a g=>g.gath a) ps).map zab.d))]) (congrArg (fun (z_:List zab)=>F.of [(0,.t (.c (.own 9 z_.length))),(4,.t (.c (.d (.raw za6)))),(29,(vFs f.kids)),(30,vi .i64 (f.kids.length:Int)),(31,vi .i64 0)] [(9,.row 57 4 (z_.map zab.d))]) (show (ps:List zab)=((f.kids.take 0).foldl (fun a g=>g.gath a) ps) from rfl))
   replace h:=zc7 9 13 [(0,.t (.c (.own 13 ((f.kids.take 0).foldl (fun a g=>g.gath a) ps).length))),(4,.t (.c (.d (.raw za6)))),(29,(vFs f.kids)),(30,vi .i64 (f.kids.length:Int)),(31,vi .i64 0)] [(13,.row 57 4 (((f.kids.take 0).foldl (fun a g=>g.gath a) ps).map zab.d))] h
   refine zb1 (ι:=(Nat)) (fun (z_:(Nat))=>match z_ with | j=>j≤f.kids.length)
     (fun (z_:(Nat))=>match z_ with | j=>[(0,.t (.c (.own 13 ((f.kids.take j).foldl (fun a g=>g.gath a) ps).length))),(4,.t (.c (.d (.raw za6)))),(29,(vFs f.kids)),(30,vi .i64 (f.kids.length:Int)),(31,vi .i64 (j:Int))])
     (fun (z_:(Nat))=>match z_ with | j=>[(13,.row 57 4 (((f.kids.take j).foldl (fun a g=>g.gath a) ps).map zab.d))])
     (fun (z_:(Nat))=>match z_ with | j=>f.kids.length - j) 0 ?_ h (by kernel_rfl) (by kernel_rfl) ?_
   ·exact Nat.zero_le _
   ·clear h;rintro j a w hI h
    change St _ (F.of [(0,.t (.c (.own 13 ((f.kids.take j).foldl (fun a g=>g.gath a) ps).length))),(4,.t (.c (.d (.raw za6)))),(29,(vFs f.kids)),(30,vi .i64 (f.kids.length:Int)),(31,vi .i64 (j:Int))] [(13,.row 57 4 (((f.kids.take j).foldl (fun a g=>g.gath a) ps).map zab.d))]) a w at h
    have lfj:=zhm (f.kids.take j) ps
    have ltj:=take_le f.kids j
    refine rq za0 23 [] [(0,.t (.c (.own 13 ((f.kids.take j).foldl (fun a g=>g.gath a) ps).length))),(4,.t (.c (.d (.raw za6)))),(29,(vFs f.kids)),(30,vi .i64 (f.kids.length:Int)),(31,vi .i64 (j:Int)),(32,vb (decide ((j:Int)<(f.kids.length:Int))))] [(13,.row 57 4 (((f.kids.take j).foldl (fun a g=>g.gath a) ps).map zab.d))] h ?_;clear h;intro a w h
    refine wp_seq ?_
    refine zaa (decide ((j:Int)<(f.kids.length:Int))) h rfl (fun hc=>?_) (fun hc=>?_)
    ·have hc7:=hc;clear hc
     have hc7':=of_decide_eq_true hc7
     refine wp_skip (za4 (wp_seq (wp_block ?_)))
     obtain ⟨x5,hx5⟩:∃ z_:za1,f.kids[j]?=some z_:=⟨_,List.getElem?_eq_getElem (by first | omega | (simp at *;omega))⟩
     refine rq za0 23 [(0,.gen _ _ _ fun _ _ _ _=>Op.idxD (d:=33) (t:=29) (k := .i64) kb_0 ((zal hx5 (f:=za1.d)).trans (congrArg some (za1.d_eq x5))) (OV.tmp 31 _))] [(0,.t (.c (.own 13 ((f.kids.take j).foldl (fun a g=>g.gath a) ps).length))),(4,.t (.c (.d (.raw za6)))),(6,vp 23 0),(29,(vFs f.kids)),(30,vi .i64 (f.kids.length:Int)),(31,vi .i64 (j:Int))] [(13,.row 57 4 (((f.kids.take j).foldl (fun a g=>g.gath a) ps).map zab.d)),(23,.box (zF x5))] h ?_;clear h;intro a w h
     refine rn za0 24 [(2,.call (ih x5 (List.mem_of_getElem? hx5) ((f.kids.take j).foldl (fun a g=>g.gath a) ps) (fold_ok (fun q hq=>zfk hf (List.mem_of_mem_take hq)) hps) (by have:=zha f.kids j hx5;omega)) lh8_5)] [(0,.t (.c (.own 14 (za1.gath x5 ((f.kids.take j).foldl (fun a g=>g.gath a) ps)).length))),(4,.t (.c (.d (.raw za6)))),(29,(vFs f.kids)),(30,vi .i64 (f.kids.length:Int)),(31,vi .i64 (j:Int))] [(14,.row 57 4 ((za1.gath x5 ((f.kids.take j).foldl (fun a g=>g.gath a) ps)).map zab.d))] h ?_;clear h;intro a w h
     refine zac (za4 (rn za0 24 [(0,.add .i64 (m:=(j:Int)) (n:=1) (zad (by omega) (by omega)))] [(0,.t (.c (.own 14 (za1.gath x5 ((f.kids.take j).foldl (fun a g=>g.gath a) ps)).length))),(4,.t (.c (.d (.raw za6)))),(29,(vFs f.kids)),(30,vi .i64 (f.kids.length:Int)),(31,vi .i64 ((j:Int)+1))] [(14,.row 57 4 ((za1.gath x5 ((f.kids.take j).foldl (fun a g=>g.gath a) ps)).map zab.d))] h ?_));clear h;intro a w h
     refine za4 ?_
     replace h:=zc7 14 13 [(0,.t (.c (.own 13 (za1.gath x5 ((f.kids.take j).foldl (fun a g=>g.gath a) ps)).length))),(4,.t (.c (.d (.raw za6)))),(29,(vFs f.kids)),(30,vi .i64 (f.kids.length:Int)),(31,vi .i64 ((j:Int)+1))] [(13,.row 57 4 ((za1.gath x5 ((f.kids.take j).foldl (fun a g=>g.gath a) ps)).map zab.d))] h
     replace h:=h.conv (f':=F.of [(0,.t (.c (.own 13 ((f.kids.take (j+1)).foldl (fun a g=>g.gath a) ps).length))),(4,.t (.c (.d (.raw za6)))),(29,(vFs f.kids)),(30,vi .i64 (f.kids.length:Int)),(31,vi .i64 ((j:Int)+1))] [(13,.row 57 4 (((f.kids.take (j+1)).foldl (fun a g=>g.gath a) ps).map zab.d))]) (congrArg (fun (z_:List zab)=>F.of [(0,.t (.c (.own 13 z_.length))),(4,.t (.c (.d (.raw za6)))),(29,(vFs f.kids)),(30,vi .i64 (f.kids.length:Int)),(31,vi .i64 ((j:Int)+1))] [(13,.row 57 4 (z_.map zab.d))]) (show ((za1.gath x5 ((f.kids.take j).foldl (fun a g=>g.gath a) ps)):List zab)=((f.kids.take (j+1)).foldl (fun a g=>g.gath a) ps) from (zhn hx5).symm))
     refine zam (x:=j) (y:=j+1) h ?_ ?_
     ·have:=zak hx5
      show j+1≤f.kids.length
      omega
     ·show f.kids.length - (j+1)<f.kids.length - j
      have:=zak hx5;omega
    ·have hc8:=hc;clear hc
     have hc8':=of_decide_eq_false hc8
     refine wp_exit (zai (zai (za8 (za4 (rq za0 24 [] [(4,.t (.c (.own 13 ((f.kids.take j).foldl (fun a g=>g.gath a) ps).length)))] [(13,.row 57 4 (((f.kids.take j).foldl (fun a g=>g.gath a) ps).map zab.d))] h ?_)))));clear h;intro a w h
     refine wp_ret ?_
     replace h:=h.conv (f':=F.of [(4,.t (.c (.own 13 (za1.gath f ps).length)))] [(13,.row 57 4 ((za1.gath f ps).map zab.d))]) (congrArg (fun (z_:List zab)=>F.of [(4,.t (.c (.own 13 z_.length)))] [(13,.row 57 4 (z_.map zab.d))]) (show (((f.kids.take j).foldl (fun a g=>g.gath a) ps):List zab)=(za1.gath f ps) from (by rw [List.take_of_length_le (by omega)];exact (zhk (fun e=>by have:=hc6;simp at this;omega)).symm)))
     replace h:=zc7 13 14 [(4,.t (.c (.own 14 (za1.gath f ps).length)))] [(14,.row 57 4 ((za1.gath f ps).map zab.d))] h
     refine zap [.c (.own 14 (za1.gath f ps).length)] h Exit.ret (.inl rfl)  rfl ⟨RV.tmp _ _ rfl,trivial⟩ ?_
     rfl
set_option maxHeartbeats 4000000 in
theorem Lgather13 (ps:List zab) (f:za1) (ih:∀ g ∈ f.kids,∀ ps:List zab,(∀ r ∈ ps,TOk 200 3000 r.t)→ps.length+g.nodes≤1000000→Fn Tryz.prog 33 [(9,.row 57 4 (ps.map zab.d))] [.t (.c (.own 9 ps.length)),(vF g)] (.t (.c (.own 14 (za1.gath g ps).length))) [(14,.row 57 4 ((za1.gath g ps).map zab.d))]) (hf:f.okA 200 2900) (hps:∀ r ∈ ps,TOk 200 3000 r.t) (hl:ps.length+f.nodes≤1000000):Fn Tryz.prog 33 [(13,.row 57 4 (ps.map zab.d))] [.t (.c (.own 13 ps.length)),(vF f)] (.t (.c (.own 14 (za1.gath f ps).length))) [(14,.row 57 4 ((za1.gath f ps).map zab.d))]:=by
 have hnf:=za1.nodes_eq f
 have lkn:=zen f.kids
 refine Fn.body Tryz.func33 rfl 40 rfl fun w H B a h=>?_
 replace h:=zc7 13 9 [(0,.t (.c (.own 9 ps.length))),(1,(vF f))] [(9,.row 57 4 (ps.map zab.d))] h
 refine rq za0 20 [] [(0,.t (.c (.own 9 ps.length))),(3,vp 20 0),(4,.t (.c (.d (.raw za6))))] [(9,.row 57 4 (ps.map zab.d)),(20,.box (zF f))] h ?_;clear h;intro a w h
 refine wp_seq ?_
 rcases Bool.eq_false_or_eq_true (f.kind == 2) with hc | hc
 ·have hc1:=hc;clear hc
  have hc1':=hc1;(try simp at hc1')
  refine rq za0 21 [(2,.cmp (op := .eql) (m:=f.kind) (n:=2) (b:=true) .i64 hc1),(7,.call (LindexO ps f.r hps (rel_okA hf hc1) (by omega)) lh8_0)] [(0,.t (.c (.own 9 ps.length))),(3,vp 20 0),(4,.t (.c (.d (.raw za6)))),(16,vb (decide ((atR ps f.r)<0)))] [(9,.row 57 4 (ps.map zab.d)),(20,.box (zF f))] h ?_;clear h;intro a w h
  refine zaa (decide ((atR ps f.r)<0)) h rfl (fun hc=>?_) (fun hc=>?_)
  ·have hc2:=hc;clear hc
   have hc2':=of_decide_eq_true hc2
   refine rq za0 21 [(4,.call (zev f.r.t (rel_okA hf hc1) (by decide) (by decide)) tm_7),(9,.gen _ _ _ fun _ _ _ _=>Op.buildD (d:=26) (len:=1) (rows:=[(zab.mk (za3 f.r.t) f.r.eq)].map zab.d) (rs:=[(25,.t (.agg ((zT (za3 f.r.t))++[cB f.r.eq])))]) kc_5 (.cons (i:=0) (OV.tmp 25 _) (.nil)) (by kernel_rfl) rfl (by simp [zab.d]) (by decide) (by decide)),(10,.gen _ _ _ fun _ _ _ _=>Op.appOD (d:=27) (t:=17) (u:=26) (n:=9) (n':=21) (len:=ps.length) (len':=(ps++[(zab.mk (za3 f.r.t) f.r.eq)]).length) (rows:=ps.map zab.d) (rows2:=[(zab.mk (za3 f.r.t) f.r.eq)].map zab.d) (rows':=(ps++[(zab.mk (za3 f.r.t) f.r.eq)]).map zab.d) lh8_3 (by first | exact (List.length_map _).symm | simp) (by first | (rw [List.length_append,List.length_map];done) | simp) (by simp) (by simp [zab.d]) (by first | omega | (simp at *;done) | (simp at *;omega)))] [(0,.t (.c (.own 9 ps.length))),(3,vp 20 0),(4,.t (.c (.own 21 (ps++[(zab.mk (za3 f.r.t) f.r.eq)]).length)))] [(20,.box (zF f)),(21,.row 57 4 ((ps++[(zab.mk (za3 f.r.t) f.r.eq)]).map zab.d))] h ?_;clear h;intro a w h
   refine wp_ret (za9 ?_)
   replace h:=h.conv (f':=F.of [(0,.t (.c (.own 9 ps.length))),(3,vp 20 0),(4,.t (.c (.own 21 (za1.gath f ps).length)))] [(20,.box (zF f)),(21,.row 57 4 ((za1.gath f ps).map zab.d))]) (congrArg (fun (z_:List zab)=>F.of [(0,.t (.c (.own 9 ps.length))),(3,vp 20 0),(4,.t (.c (.own 21 z_.length)))] [(20,.box (zF f)),(21,.row 57 4 (z_.map zab.d))]) (show ((ps++[(zab.mk (za3 f.r.t) f.r.eq)]):List zab)=(za1.gath f ps) from (zhl (by have:=hc1;simpa using this) (of_decide_eq_true hc2)).symm))
   replace h:=zc7 21 14 [(0,.t (.c (.own 9 ps.length))),(3,vp 20 0),(4,.t (.c (.own 14 (za1.gath f ps).length)))] [(20,.box (zF f)),(14,.row 57 4 ((za1.gath f ps).map zab.d))] h
   refine zap [.c (.own 14 (za1.gath f ps).length)] h Exit.ret (.inl rfl)  rfl ⟨RV.tmp _ _ rfl,trivial⟩ ?_
   rfl
  ·have hc3:=hc;clear hc
   have hc3':=of_decide_eq_false hc3
   refine wp_skip (za4 (wp_seq (rq za0 22 [(2,.len (c:=(cFs f.kids)) (n:=f.kids.length) (zae _ _ _))] [(0,.t (.c (.own 9 ps.length))),(4,.t (.c (.d (.raw za6)))),(29,(vFs f.kids)),(30,vi .i64 (f.kids.length:Int)),(31,vi .i64 0)] [(9,.row 57 4 (ps.map zab.d))] h ?_)));clear h;intro a w h
   refine wp_block ?_
   replace h:=h.conv (f':=F.of [(0,.t (.c (.own 9 ((f.kids.take 0).foldl (fun a g=>g.gath a) ps).length))),(4,.t (.c (.d (.raw za6)))),(29,(vFs f.kids)),(30,vi .i64 (f.kids.length:Int)),(31,vi .i64 0)] [(9,.row 57 4 (((f.kids.take 0).foldl (fun a g=>g.gath a) ps).map zab.d))]) (congrArg (fun (z_:List zab)=>F.of [(0,.t (.c (.own 9 z_.length))),(4,.t (.c (.d (.raw za6)))),(29,(vFs f.kids)),(30,vi .i64 (f.kids.length:Int)),(31,vi .i64 0)] [(9,.row 57 4 (z_.map zab.d))]) (show (ps:List zab)=((f.kids.take 0).foldl (fun a g=>g.gath a) ps) from rfl))
   refine zb1 (ι:=(Nat)) (fun (z_:(Nat))=>match z_ with | j=>j≤f.kids.length)
     (fun (z_:(Nat))=>match z_ with | j=>[(0,.t (.c (.own 9 ((f.kids.take j).foldl (fun a g=>g.gath a) ps).length))),(4,.t (.c (.d (.raw za6)))),(29,(vFs f.kids)),(30,vi .i64 (f.kids.length:Int)),(31,vi .i64 (j:Int))])
     (fun (z_:(Nat))=>match z_ with | j=>[(9,.row 57 4 (((f.kids.take j).foldl (fun a g=>g.gath a) ps).map zab.d))])
     (fun (z_:(Nat))=>match z_ with | j=>f.kids.length - j) 0 ?_ h (by kernel_rfl) (by kernel_rfl) ?_
   ·exact Nat.zero_le _
   ·clear h;rintro j a w hI h
    change St _ (F.of [(0,.t (.c (.own 9 ((f.kids.take j).foldl (fun a g=>g.gath a) ps).length))),(4,.t (.c (.d (.raw za6)))),(29,(vFs f.kids)),(30,vi .i64 (f.kids.length:Int)),(31,vi .i64 (j:Int))] [(9,.row 57 4 (((f.kids.take j).foldl (fun a g=>g.gath a) ps).map zab.d))]) a w at h
    have lfj:=zhm (f.kids.take j) ps
    have ltj:=take_le f.kids j
    refine rq za0 22 [] [(0,.t (.c (.own 9 ((f.kids.take j).foldl (fun a g=>g.gath a) ps).length))),(4,.t (.c (.d (.raw za6)))),(29,(vFs f.kids)),(30,vi .i64 (f.kids.length:Int)),(31,vi .i64 (j:Int)),(32,vb (decide ((j:Int)<(f.kids.length:Int))))] [(9,.row 57 4 (((f.kids.take j).foldl (fun a g=>g.gath a) ps).map zab.d))] h ?_;clear h;intro a w h
    refine wp_seq ?_
    refine zaa (decide ((j:Int)<(f.kids.length:Int))) h rfl (fun hc=>?_) (fun hc=>?_)
    ·have hc4:=hc;clear hc
     have hc4':=of_decide_eq_true hc4
     refine wp_skip (za4 (wp_seq (wp_block ?_)))
     obtain ⟨x3,hx3⟩:∃ z_:za1,f.kids[j]?=some z_:=⟨_,List.getElem?_eq_getElem (by first | omega | (simp at *;omega))⟩
     refine rq za0 22 [(0,.gen _ _ _ fun _ _ _ _=>Op.idxD (d:=33) (t:=29) (k := .i64) kb_0 ((zal hx3 (f:=za1.d)).trans (congrArg some (za1.d_eq x3))) (OV.tmp 31 _))] [(0,.t (.c (.own 9 ((f.kids.take j).foldl (fun a g=>g.gath a) ps).length))),(4,.t (.c (.d (.raw za6)))),(6,vp 22 0),(29,(vFs f.kids)),(30,vi .i64 (f.kids.length:Int)),(31,vi .i64 (j:Int))] [(9,.row 57 4 (((f.kids.take j).foldl (fun a g=>g.gath a) ps).map zab.d)),(22,.box (zF x3))] h ?_;clear h;intro a w h
     refine rn za0 23 [(2,.call (ih x3 (List.mem_of_getElem? hx3) ((f.kids.take j).foldl (fun a g=>g.gath a) ps) (fold_ok (fun q hq=>zfk hf (List.mem_of_mem_take hq)) hps) (by have:=zha f.kids j hx3;omega)) lh8_5)] [(0,.t (.c (.own 14 (za1.gath x3 ((f.kids.take j).foldl (fun a g=>g.gath a) ps)).length))),(4,.t (.c (.d (.raw za6)))),(29,(vFs f.kids)),(30,vi .i64 (f.kids.length:Int)),(31,vi .i64 (j:Int))] [(14,.row 57 4 ((za1.gath x3 ((f.kids.take j).foldl (fun a g=>g.gath a) ps)).map zab.d))] h ?_;clear h;intro a w h
     refine zac (za4 (rn za0 23 [(0,.add .i64 (m:=(j:Int)) (n:=1) (zad (by omega) (by omega)))] [(0,.t (.c (.own 14 (za1.gath x3 ((f.kids.take j).foldl (fun a g=>g.gath a) ps)).length))),(4,.t (.c (.d (.raw za6)))),(29,(vFs f.kids)),(30,vi .i64 (f.kids.length:Int)),(31,vi .i64 ((j:Int)+1))] [(14,.row 57 4 ((za1.gath x3 ((f.kids.take j).foldl (fun a g=>g.gath a) ps)).map zab.d))] h ?_));clear h;intro a w h
     refine za4 ?_
     replace h:=zc7 14 9 [(0,.t (.c (.own 9 (za1.gath x3 ((f.kids.take j).foldl (fun a g=>g.gath a) ps)).length))),(4,.t (.c (.d (.raw za6)))),(29,(vFs f.kids)),(30,vi .i64 (f.kids.length:Int)),(31,vi .i64 ((j:Int)+1))] [(9,.row 57 4 ((za1.gath x3 ((f.kids.take j).foldl (fun a g=>g.gath a) ps)).map zab.d))] h
     replace h:=h.conv (f':=F.of [(0,.t (.c (.own 9 ((f.kids.take (j+1)).foldl (fun a g=>g.gath a) ps).length))),(4,.t (.c (.d (.raw za6)))),(29,(vFs f.kids)),(30,vi .i64 (f.kids.length:Int)),(31,vi .i64 ((j:Int)+1))] [(9,.row 57 4 (((f.kids.take (j+1)).foldl (fun a g=>g.gath a) ps).map zab.d))]) (congrArg (fun (z_:List zab)=>F.of [(0,.t (.c (.own 9 z_.length))),(4,.t (.c (.d (.raw za6)))),(29,(vFs f.kids)),(30,vi .i64 (f.kids.length:Int)),(31,vi .i64 ((j:Int)+1))] [(9,.row 57 4 (z_.map zab.d))]) (show ((za1.gath x3 ((f.kids.take j).foldl (fun a g=>g.gath a) ps)):List zab)=((f.kids.take (j+1)).foldl (fun a g=>g.gath a) ps) from (zhn hx3).symm))
     refine zam (x:=j) (y:=j+1) h ?_ ?_
     ·have:=zak hx3
      show j+1≤f.kids.length
      omega
     ·show f.kids.length - (j+1)<f.kids.length - j
      have:=zak hx3;omega
    ·have hc5:=hc;clear hc
     have hc5':=of_decide_eq_false hc5
     refine wp_exit (zai (zai (za8 (za4 (rq za0 23 [] [(4,.t (.c (.own 9 ((f.kids.take j).foldl (fun a g=>g.gath a) ps).length)))] [(9,.row 57 4 (((f.kids.take j).foldl (fun a g=>g.gath a) ps).map zab.d))] h ?_)))));clear h;intro a w h
     refine wp_ret ?_
     replace h:=h.conv (f':=F.of [(4,.t (.c (.own 9 (za1.gath f ps).length)))] [(9,.row 57 4 ((za1.gath f ps).map zab.d))]) (congrArg (fun (z_:List zab)=>F.of [(4,.t (.c (.own 9 z_.length)))] [(9,.row 57 4 (z_.map zab.d))]) (show (((f.kids.take j).foldl (fun a g=>g.gath a) ps):List zab)=(za1.gath f ps) from (by rw [List.take_of_length_le (by omega)];exact (zhk (fun e=>of_decide_eq_false hc3 e.2)).symm)))
     replace h:=zc7 9 14 [(4,.t (.c (.own 14 (za1.gath f ps).length)))] [(14,.row 57 4 ((za1.gath f ps).map zab.d))] h
     refine zap [.c (.own 14 (za1.gath f ps).length)] h Exit.ret (.inl rfl)  rfl ⟨RV.tmp _ _ rfl,trivial⟩ ?_
     rfl
 ·have hc6:=hc;clear hc
  have hc6':=hc6;(try simp at hc6')
  refine rq za0 23 [(2,.cmp (op := .eql) (m:=f.kind) (n:=2) (b:=false) .i64 hc6)] [(0,.t (.c (.own 9 ps.length))),(3,vp 20 0),(4,.t (.c (.d (.raw za6)))),(16,vb false)] [(9,.row 57 4 (ps.map zab.d)),(20,.box (zF f))] h ?_;clear h;intro a w h
  refine zaa false h rfl (fun hc=>?_) (fun hc=>?_)
  ·cases hc
  ·clear hc
   refine wp_skip (za4 (wp_seq (rq za0 23 [(2,.len (c:=(cFs f.kids)) (n:=f.kids.length) (zae _ _ _))] [(0,.t (.c (.own 9 ps.length))),(4,.t (.c (.d (.raw za6)))),(29,(vFs f.kids)),(30,vi .i64 (f.kids.length:Int)),(31,vi .i64 0)] [(9,.row 57 4 (ps.map zab.d))] h ?_)));clear h;intro a w h
   refine wp_block ?_
   replace h:=h.conv (f':=F.of [(0,.t (.c (.own 9 ((f.kids.take 0).foldl (fun a g=>g.gath a) ps).length))),(4,.t (.c (.d (.raw za6)))),(29,(vFs f.kids)),(30,vi .i64 (f.kids.length:Int)),(31,vi .i64 0)] [(9,.row 57 4 (((f.kids.take 0).foldl (fun a g=>g.gath a) ps).map zab.d))]) (congrArg (fun (z_:List zab)=>F.of [(0,.t (.c (.own 9 z_.length))),(4,.t (.c (.d (.raw za6)))),(29,(vFs f.kids)),(30,vi .i64 (f.kids.length:Int)),(31,vi .i64 0)] [(9,.row 57 4 (z_.map zab.d))]) (show (ps:List zab)=((f.kids.take 0).foldl (fun a g=>g.gath a) ps) from rfl))
   refine zb1 (ι:=(Nat)) (fun (z_:(Nat))=>match z_ with | j=>j≤f.kids.length)
     (fun (z_:(Nat))=>match z_ with | j=>[(0,.t (.c (.own 9 ((f.kids.take j).foldl (fun a g=>g.gath a) ps).length))),(4,.t (.c (.d (.raw za6)))),(29,(vFs f.kids)),(30,vi .i64 (f.kids.length:Int)),(31,vi .i64 (j:Int))])
     (fun (z_:(Nat))=>match z_ with | j=>[(9,.row 57 4 (((f.kids.take j).foldl (fun a g=>g.gath a) ps).map zab.d))])
     (fun (z_:(Nat))=>match z_ with | j=>f.kids.length - j) 0 ?_ h (by kernel_rfl) (by kernel_rfl) ?_
   ·exact Nat.zero_le _
   ·clear h;rintro j a w hI h
    change St _ (F.of [(0,.t (.c (.own 9 ((f.kids.take j).foldl (fun a g=>g.gath a) ps).length))),(4,.t (.c (.d (.raw za6)))),(29,(vFs f.kids)),(30,vi .i64 (f.kids.length:Int)),(31,vi .i64 (j:Int))] [(9,.row 57 4 (((f.kids.take j).foldl (fun a g=>g.gath a) ps).map zab.d))]) a w at h
    have lfj:=zhm (f.kids.take j) ps
    have ltj:=take_le f.kids j
    refine rq za0 23 [] [(0,.t (.c (.own 9 ((f.kids.take j).foldl (fun a g=>g.gath a) ps).length))),(4,.t (.c (.d (.raw za6)))),(29,(vFs f.kids)),(30,vi .i64 (f.kids.length:Int)),(31,vi .i64 (j:Int)),(32,vb (decide ((j:Int)<(f.kids.length:Int))))] [(9,.row 57 4 (((f.kids.take j).foldl (fun a g=>g.gath a) ps).map zab.d))] h ?_;clear h;intro a w h
    refine wp_seq ?_
    refine zaa (decide ((j:Int)<(f.kids.length:Int))) h rfl (fun hc=>?_) (fun hc=>?_)
    ·have hc7:=hc;clear hc
     have hc7':=of_decide_eq_true hc7
     refine wp_skip (za4 (wp_seq (wp_block ?_)))
     obtain ⟨x5,hx5⟩:∃ z_:za1,f.kids[j]?=some z_:=⟨_,List.getElem?_eq_getElem (by first | omega | (simp at *;omega))⟩
     refine rq za0 23 [(0,.gen _ _ _ fun _ _ _ _=>Op.idxD (d:=33) (t:=29) (k := .i64) kb_0 ((zal hx5 (f:=za1.d)).trans (congrArg some (za1.d_eq x5))) (OV.tmp 31 _))] [(0,.t (.c (.own 9 ((f.kids.take j).foldl (fun a g=>g.gath a) ps).length))),(4,.t (.c (.d (.raw za6)))),(6,vp 23 0),(29,(vFs f.kids)),(30,vi .i64 (f.kids.length:Int)),(31,vi .i64 (j:Int))] [(9,.row 57 4 (((f.kids.take j).foldl (fun a g=>g.gath a) ps).map zab.d)),(23,.box (zF x5))] h ?_;clear h;intro a w h
     refine rn za0 24 [(2,.call (ih x5 (List.mem_of_getElem? hx5) ((f.kids.take j).foldl (fun a g=>g.gath a) ps) (fold_ok (fun q hq=>zfk hf (List.mem_of_mem_take hq)) hps) (by have:=zha f.kids j hx5;omega)) lh8_5)] [(0,.t (.c (.own 14 (za1.gath x5 ((f.kids.take j).foldl (fun a g=>g.gath a) ps)).length))),(4,.t (.c (.d (.raw za6)))),(29,(vFs f.kids)),(30,vi .i64 (f.kids.length:Int)),(31,vi .i64 (j:Int))] [(14,.row 57 4 ((za1.gath x5 ((f.kids.take j).foldl (fun a g=>g.gath a) ps)).map zab.d))] h ?_;clear h;intro a w h
     refine zac (za4 (rn za0 24 [(0,.add .i64 (m:=(j:Int)) (n:=1) (zad (by omega) (by omega)))] [(0,.t (.c (.own 14 (za1.gath x5 ((f.kids.take j).foldl (fun a g=>g.gath a) ps)).length))),(4,.t (.c (.d (.raw za6)))),(29,(vFs f.kids)),(30,vi .i64 (f.kids.length:Int)),(31,vi .i64 ((j:Int)+1))] [(14,.row 57 4 ((za1.gath x5 ((f.kids.take j).foldl (fun a g=>g.gath a) ps)).map zab.d))] h ?_));clear h;intro a w h
     refine za4 ?_
     replace h:=zc7 14 9 [(0,.t (.c (.own 9 (za1.gath x5 ((f.kids.take j).foldl (fun a g=>g.gath a) ps)).length))),(4,.t (.c (.d (.raw za6)))),(29,(vFs f.kids)),(30,vi .i64 (f.kids.length:Int)),(31,vi .i64 ((j:Int)+1))] [(9,.row 57 4 ((za1.gath x5 ((f.kids.take j).foldl (fun a g=>g.gath a) ps)).map zab.d))] h
     replace h:=h.conv (f':=F.of [(0,.t (.c (.own 9 ((f.kids.take (j+1)).foldl (fun a g=>g.gath a) ps).length))),(4,.t (.c (.d (.raw za6)))),(29,(vFs f.kids)),(30,vi .i64 (f.kids.length:Int)),(31,vi .i64 ((j:Int)+1))] [(9,.row 57 4 (((f.kids.take (j+1)).foldl (fun a g=>g.gath a) ps).map zab.d))]) (congrArg (fun (z_:List zab)=>F.of [(0,.t (.c (.own 9 z_.length))),(4,.t (.c (.d (.raw za6)))),(29,(vFs f.kids)),(30,vi .i64 (f.kids.length:Int)),(31,vi .i64 ((j:Int)+1))] [(9,.row 57 4 (z_.map zab.d))]) (show ((za1.gath x5 ((f.kids.take j).foldl (fun a g=>g.gath a) ps)):List zab)=((f.kids.take (j+1)).foldl (fun a g=>g.gath a) ps) from (zhn hx5).symm))
     refine zam (x:=j) (y:=j+1) h ?_ ?_
     ·have:=zak hx5
      show j+1≤f.kids.length
      omega
     ·show f.kids.length - (j+1)<f.kids.length - j
      have:=zak hx5;omega
    ·have hc8:=hc;clear hc
     have hc8':=of_decide_eq_false hc8
     refine wp_exit (zai (zai (za8 (za4 (rq za0 24 [] [(4,.t (.c (.own 9 ((f.kids.take j).foldl (fun a g=>g.gath a) ps).length)))] [(9,.row 57 4 (((f.kids.take j).foldl (fun a g=>g.gath a) ps).map zab.d))] h ?_)))));clear h;intro a w h
     refine wp_ret ?_
     replace h:=h.conv (f':=F.of [(4,.t (.c (.own 9 (za1.gath f ps).length)))] [(9,.row 57 4 ((za1.gath f ps).map zab.d))]) (congrArg (fun (z_:List zab)=>F.of [(4,.t (.c (.own 9 z_.length)))] [(9,.row 57 4 (z_.map zab.d))]) (show (((f.kids.take j).foldl (fun a g=>g.gath a) ps):List zab)=(za1.gath f ps) from (by rw [List.take_of_length_le (by omega)];exact (zhk (fun e=>by have:=hc6;simp at this;omega)).symm)))
     replace h:=zc7 9 14 [(4,.t (.c (.own 14 (za1.gath f ps).length)))] [(14,.row 57 4 ((za1.gath f ps).map zab.d))] h
     refine zap [.c (.own 14 (za1.gath f ps).length)] h Exit.ret (.inl rfl)  rfl ⟨RV.tmp _ _ rfl,trivial⟩ ?_
     rfl
theorem Lgather (f:za1):f.okA 200 2900→(∀ ps:List zab,(∀ r ∈ ps,TOk 200 3000 r.t)→ps.length+f.nodes≤1000000→Fn Tryz.prog 33 [(9,.row 57 4 (ps.map zab.d))] [.t (.c (.own 9 ps.length)),(vF f)] (.t (.c (.own 14 (za1.gath f ps).length))) [(14,.row 57 4 ((za1.gath f ps).map zab.d))])∧(∀ ps:List zab,(∀ r ∈ ps,TOk 200 3000 r.t)→ps.length+f.nodes≤1000000→Fn Tryz.prog 33 [(13,.row 57 4 (ps.map zab.d))] [.t (.c (.own 13 ps.length)),(vF f)] (.t (.c (.own 14 (za1.gath f ps).length))) [(14,.row 57 4 ((za1.gath f ps).map zab.d))]) :=
 za1.ind (P:=fun f=>f.okA 200 2900→(∀ ps:List zab,(∀ r ∈ ps,TOk 200 3000 r.t)→ps.length+f.nodes≤1000000→Fn Tryz.prog 33 [(9,.row 57 4 (ps.map zab.d))] [.t (.c (.own 9 ps.length)),(vF f)] (.t (.c (.own 14 (za1.gath f ps).length))) [(14,.row 57 4 ((za1.gath f ps).map zab.d))])∧(∀ ps:List zab,(∀ r ∈ ps,TOk 200 3000 r.t)→ps.length+f.nodes≤1000000→Fn Tryz.prog 33 [(13,.row 57 4 (ps.map zab.d))] [.t (.c (.own 13 ps.length)),(vF f)] (.t (.c (.own 14 (za1.gath f ps).length))) [(14,.row 57 4 ((za1.gath f ps).map zab.d))])) (fun k r ks ih hf=>⟨fun ps hps hl=>Lgather9 ps ⟨k,r,ks⟩ (fun g hg=>(ih g hg (zfk hf hg)).2) hf hps hl,fun ps hps hl=>Lgather13 ps ⟨k,r,ks⟩ (fun g hg=>(ih g hg (zfk hf hg)).1) hf hps hl⟩) f
end
section
open Go.RowKit

theorem li9_5:SlT Tryz.prog 22 62 9:=SlT.mk' Tryz.underlying22 (by kernel_rfl)
theorem li9_6:za7 Tryz.prog 34:=za7.mk' (by kernel_rfl)
def gathT (ps:List zab) (f:za1):List zab:=f.gath (ps.map cpR)
def zgr (ps:List zag):Prop:=ps.length≤100∧∀ p ∈ ps,p.at_=false→p.f.okB 20 10∧p.f.wid≤1000
def zaj (a:List zab) (p:zag):List zab:=if p.at_=true then a else (p.f.flat false).gath a
def zcf (props:List zag):List zab:=props.foldl zaj []
def zf5 (props:List zag):List zab × Int:=if (zcf props).length>24 then ([],3) else (zcf props,0)
theorem zcb {f:za1} (h:f.okB 20 10∧f.wid≤1000):(f.flat false).okA 200 2900∧(f.flat false).nodes≤1000:=⟨za1.okA_mono (by decide) (by decide) _ (flat_okA (by decide) f h.1 false),Nat.le_trans (flat_nodes f false) h.2⟩
theorem baseStep_at {props:List zag} {j:Nat} {p:zag} (h:props[j]?=some p):(props.take (j+1)).foldl zaj []=zaj ((props.take j).foldl zaj []) p:=by
 rw [List.take_add_one,h,List.foldl_append];rfl
theorem base_ok {props:List zag} (h:zgr props):∀ j,((props.take j).foldl zaj []).length≤j*1000∧∀ r ∈ (props.take j).foldl zaj [],TOk 200 3000 r.t:=fun j=>by
 have key:∀ (xs:List zag),(∀ p ∈ xs,p.at_=false→p.f.okB 20 10∧p.f.wid≤1000)→∀ a:List zab,(∀ r ∈ a,TOk 200 3000 r.t)→(xs.foldl zaj a).length≤a.length+xs.length*1000∧∀ r ∈ xs.foldl zaj a,TOk 200 3000 r.t:=fun xs=>by
  induction xs with
  | nil=>intro _ a ha;exact ⟨by simp,ha⟩
  | cons x xs ih =>
   intro hx a ha
   rw [List.foldl_cons,List.length_cons]
   have h1:(zaj a x).length≤a.length+1000∧∀ r ∈ zaj a x,TOk 200 3000 r.t:=by
    unfold zaj
    split
    ·exact ⟨by omega,ha⟩
    ·rename_i e
     obtain ⟨h2,h3⟩:=zcb (hx x (List.mem_cons_self ..) (by simpa using e))
     exact ⟨by have:=gath_len (x.f.flat false) a;omega,gath_tok h2 ha⟩
   obtain ⟨h2,h3⟩:=ih (fun p hp=>hx p (List.mem_cons_of_mem _ hp)) _ h1.2
   exact ⟨by omega,h3⟩
 obtain ⟨h1,h2⟩:=key (props.take j) (fun p hp=>h.2 p (List.mem_of_mem_take hp)) [] (fun r hr=>by cases hr)
 refine ⟨Nat.le_trans h1 ?_,h2⟩
 rw [List.length_take];show 0+_≤_;have:min j props.length*1000≤j*1000:=Nat.mul_le_mul_right 1000 (by omega);omega
theorem cps_tok {ps:List zab} (h:∀ r ∈ ps,TOk 200 2900 r.t):∀ r ∈ ps.map cpR,TOk 200 3000 r.t:=fun r hr=>by
 obtain ⟨q,hq,rfl⟩:=List.mem_map.1 hr
 exact ((h q hq).plain (by decide)).mono (by decide) (by decide)
set_option maxHeartbeats 4000000 in
theorem LGather (ps:List zab) (f:za1) (hps:∀ r ∈ ps,TOk 200 2900 r.t) (hf:f.okA 200 2900) (hl:ps.length+f.nodes≤1000000):Fn Tryz.prog 20 [] [(vRs ps),(vF f)] (vRs (gathT ps f)) []:=by
 refine Fn.body Tryz.func20 rfl 27 rfl fun w H B a h=>?_
 refine rq za0 20 [] [(0,(vRs ps)),(3,vp 20 0),(4,.t (.c (.d (.raw za6))))] [(20,.box (zF f))] h ?_;clear h;intro a w h
 refine rq za0 21 [] [(0,(vRs ps)),(3,vp 20 0),(4,.t (.c (.d (.raw za6)))),(5,.t (.c (.d (.raw za6))))] [(20,.box (zF f))] h ?_;clear h;intro a w h
 refine wp_seq (rq za0 21 [(1,.len (c:=(cRs ps)) (n:=ps.length) (zae _ _ _))] [(3,vp 20 0),(4,.t (.c (.d (.raw za6)))),(5,.t (.c (.d (.raw za6)))),(8,(vRs ps)),(9,vi .i64 (ps.length:Int)),(10,vi .i64 0)] [(20,.box (zF f))] h ?_);clear h;intro a w h
 refine wp_block ?_
 replace h:=zel 5 0 21 4 57 (.t (.c (.d (.raw za6)))) [(3,vp 20 0),(4,.t (.c (.d (.raw za6)))),(5,.t (.c (.own 21 0))),(8,(vRs ps)),(9,vi .i64 (ps.length:Int)),(10,vi .i64 0)] [(20,.box (zF f)),(21,.row 57 4 ([].map zab.d))] h (by kernel_rfl) rfl rfl
 replace h:=h.conv (f':=F.of [(3,vp 20 0),(4,.t (.c (.d (.raw za6)))),(5,.t (.c (.own 21 0))),(8,(vRs ps)),(9,vi .i64 (ps.length:Int)),(10,vi .i64 0)] [(20,.box (zF f)),(21,.row 57 4 (((ps.take 0).map cpR).map zab.d))]) (congrArg (fun (z_:List zab)=>F.of [(3,vp 20 0),(4,.t (.c (.d (.raw za6)))),(5,.t (.c (.own 21 0))),(8,(vRs ps)),(9,vi .i64 (ps.length:Int)),(10,vi .i64 0)] [(20,.box (zF f)),(21,.row 57 4 (z_.map zab.d))]) (show ([]:List zab)=((ps.take 0).map cpR) from (by simp)))
 refine zb1 (ι:=(Nat)) (fun (z_:(Nat))=>match z_ with | j=>j≤ps.length)
   (fun (z_:(Nat))=>match z_ with | j=>[(3,vp 20 0),(4,.t (.c (.d (.raw za6)))),(5,.t (.c (.own 21 ((ps.take j).map cpR).length))),(8,(vRs ps)),(9,vi .i64 (ps.length:Int)),(10,vi .i64 (j:Int))])
   (fun (z_:(Nat))=>match z_ with | j=>[(20,.box (zF f)),(21,.row 57 4 (((ps.take j).map cpR).map zab.d))])
   (fun (z_:(Nat))=>match z_ with | j=>ps.length - j) 0 ?_ h (by kernel_rfl) (by kernel_rfl) ?_
 ·exact Nat.zero_le _
 ·clear h;rintro j a w hI h
  change St _ (F.of [(3,vp 20 0),(4,.t (.c (.d (.raw za6)))),(5,.t (.c (.own 21 ((ps.take j).map cpR).length))),(8,(vRs ps)),(9,vi .i64 (ps.length:Int)),(10,vi .i64 (j:Int))] [(20,.box (zF f)),(21,.row 57 4 (((ps.take j).map cpR).map zab.d))]) a w at h
  have lmj:((ps.take j).map cpR).length≤j:=by rw [List.length_map,List.length_take];omega
  refine rq za0 22 [] [(3,vp 20 0),(4,.t (.c (.d (.raw za6)))),(5,.t (.c (.own 21 ((ps.take j).map cpR).length))),(8,(vRs ps)),(9,vi .i64 (ps.length:Int)),(10,vi .i64 (j:Int)),(11,vb (decide ((j:Int)<(ps.length:Int))))] [(20,.box (zF f)),(21,.row 57 4 (((ps.take j).map cpR).map zab.d))] h ?_;clear h;intro a w h
  refine wp_seq ?_
  refine zaa (decide ((j:Int)<(ps.length:Int))) h rfl (fun hc=>?_) (fun hc=>?_)
  ·have hc1:=hc;clear hc
   have hc1':=of_decide_eq_true hc1
   refine wp_skip (za4 (wp_seq (wp_block ?_)))
   obtain ⟨x1,hx1⟩:∃ z_:zab,ps[j]?=some z_:=⟨_,List.getElem?_eq_getElem (by first | omega | (simp at *;omega))⟩
   refine rq za0 22 [(0,.gen _ _ _ fun _ _ _ _=>Op.idxD (d:=12) (t:=8) (k := .i64) kc_3 (zal hx1 (f:=zab.d)) (OV.tmp 10 _))] [(3,vp 20 0),(4,.t (.c (.d (.raw za6)))),(5,.t (.c (.own 21 ((ps.take j).map cpR).length))),(7,vp 22 0),(8,(vRs ps)),(9,vi .i64 (ps.length:Int)),(10,vi .i64 (j:Int))] [(20,.box (zF f)),(21,.row 57 4 (((ps.take j).map cpR).map zab.d)),(22,.box (zR_ x1))] h ?_;clear h;intro a w h
   refine rn za0 23 [(3,.call (zev x1.t (hps x1 (List.mem_of_getElem? hx1)) (by decide) (by decide)) tm_7),(7,.gen _ _ _ fun _ _ _ _=>Op.buildD (d:=21) (len:=1) (rows:=[(zab.mk (za3 x1.t) x1.eq)].map zab.d) (rs:=[(20,.t (.agg ((zT (za3 x1.t))++[cB x1.eq])))]) kc_5 (.cons (i:=0) (OV.tmp 20 _) (.nil)) (by kernel_rfl) rfl (by simp [zab.d]) (by decide) (by decide)),(8,.gen _ _ _ fun _ _ _ _=>Op.appOD (d:=22) (t:=14) (u:=21) (n:=21) (n':=23) (len:=((ps.take j).map cpR).length) (len':=(((ps.take j).map cpR)++[(zab.mk (za3 x1.t) x1.eq)]).length) (rows:=((ps.take j).map cpR).map zab.d) (rows2:=[(zab.mk (za3 x1.t) x1.eq)].map zab.d) (rows':=(((ps.take j).map cpR)++[(zab.mk (za3 x1.t) x1.eq)]).map zab.d) lh8_3 (by first | exact (List.length_map _).symm | simp) (by first | (rw [List.length_append,List.length_map];done) | simp) (by simp) (by simp [zab.d]) (by first | omega | (simp at *;done) | (simp at *;omega)))] [(3,vp 20 0),(4,.t (.c (.d (.raw za6)))),(5,.t (.c (.own 23 (((ps.take j).map cpR)++[(zab.mk (za3 x1.t) x1.eq)]).length))),(8,(vRs ps)),(9,vi .i64 (ps.length:Int)),(10,vi .i64 (j:Int))] [(20,.box (zF f)),(23,.row 57 4 ((((ps.take j).map cpR)++[(zab.mk (za3 x1.t) x1.eq)]).map zab.d))] h ?_;clear h;intro a w h
   refine zac (za4 (rn za0 24 [(0,.add .i64 (m:=(j:Int)) (n:=1) (zad (by omega) (by omega)))] [(3,vp 20 0),(4,.t (.c (.d (.raw za6)))),(5,.t (.c (.own 23 (((ps.take j).map cpR)++[(zab.mk (za3 x1.t) x1.eq)]).length))),(8,(vRs ps)),(9,vi .i64 (ps.length:Int)),(10,vi .i64 ((j:Int)+1))] [(20,.box (zF f)),(23,.row 57 4 ((((ps.take j).map cpR)++[(zab.mk (za3 x1.t) x1.eq)]).map zab.d))] h ?_));clear h;intro a w h
   refine za4 ?_
   replace h:=h.conv (f':=F.of [(3,vp 20 0),(4,.t (.c (.d (.raw za6)))),(5,.t (.c (.own 23 ((ps.take (j+1)).map cpR).length))),(8,(vRs ps)),(9,vi .i64 (ps.length:Int)),(10,vi .i64 ((j:Int)+1))] [(20,.box (zF f)),(23,.row 57 4 (((ps.take (j+1)).map cpR).map zab.d))]) (congrArg (fun (z_:List zab)=>F.of [(3,vp 20 0),(4,.t (.c (.d (.raw za6)))),(5,.t (.c (.own 23 z_.length))),(8,(vRs ps)),(9,vi .i64 (ps.length:Int)),(10,vi .i64 ((j:Int)+1))] [(20,.box (zF f)),(23,.row 57 4 (z_.map zab.d))]) (show ((((ps.take j).map cpR)++[(zab.mk (za3 x1.t) x1.eq)]):List zab)=((ps.take (j+1)).map cpR) from (zc1 hx1)))
   replace h:=zc7 23 21 [(3,vp 20 0),(4,.t (.c (.d (.raw za6)))),(5,.t (.c (.own 21 ((ps.take (j+1)).map cpR).length))),(8,(vRs ps)),(9,vi .i64 (ps.length:Int)),(10,vi .i64 ((j:Int)+1))] [(20,.box (zF f)),(21,.row 57 4 (((ps.take (j+1)).map cpR).map zab.d))] h
   refine zam (x:=j) (y:=j+1) h ?_ ?_
   ·have:=zak hx1
    show j+1≤ps.length
    omega
   ·show ps.length - (j+1)<ps.length - j
    have:=zak hx1;omega
  ·have hc2:=hc;clear hc
   have hc2':=of_decide_eq_false hc2
   refine wp_exit (zai (zai (za8 (za4 ?_))))
   replace h:=h.conv (f':=F.of [(3,vp 20 0),(4,.t (.c (.d (.raw za6)))),(5,.t (.c (.own 21 (ps.map cpR).length))),(8,(vRs ps)),(9,vi .i64 (ps.length:Int)),(10,vi .i64 (j:Int)),(11,vb (decide ((j:Int)<(ps.length:Int))))] [(20,.box (zF f)),(21,.row 57 4 ((ps.map cpR).map zab.d))]) (congrArg (fun (z_:List zab)=>F.of [(3,vp 20 0),(4,.t (.c (.d (.raw za6)))),(5,.t (.c (.own 21 z_.length))),(8,(vRs ps)),(9,vi .i64 (ps.length:Int)),(10,vi .i64 (j:Int)),(11,vb (decide ((j:Int)<(ps.length:Int))))] [(20,.box (zF f)),(21,.row 57 4 (z_.map zab.d))]) (show (((ps.take j).map cpR):List zab)=(ps.map cpR) from (by rw [List.take_of_length_le (by omega)])))
   replace h:=zc7 21 9 [(3,vp 20 0),(4,.t (.c (.d (.raw za6)))),(5,.t (.c (.own 9 (ps.map cpR).length))),(8,(vRs ps)),(9,vi .i64 (ps.length:Int)),(10,vi .i64 (j:Int)),(11,vb (decide ((j:Int)<(ps.length:Int))))] [(20,.box (zF f)),(9,.row 57 4 ((ps.map cpR).map zab.d))] h
   refine rq za0 24 [(2,.call ((Lgather f hf).1 (ps.map cpR) (cps_tok hps) (by rw [List.length_map];exact hl)) lh8_5)] [(4,.t (.c (.own 14 (gathT ps f).length)))] [(14,.row 57 4 ((gathT ps f).map zab.d))] h ?_;clear h;intro a w h
   refine wp_ret ?_
   replace h:=pubS 14 4 57 ((gathT ps f).map zab.d) [(4,(vRs (gathT ps f)))] [] h rfl (show zc5 _ [(gathT ps f).length] from ⟨by first | exact (List.length_map _).symm | (simp;done) | (simp;omega),trivial⟩) trivial
   refine zap [.c (cRs (gathT ps f))] h Exit.ret (.inl rfl)  rfl ⟨RV.tmp _ _ rfl,trivial⟩ ?_
   rfl
set_option maxHeartbeats 4000000 in
theorem LBase (props:List zag) (hpr:zgr props):Fn Tryz.prog 9 [] [.t (.c (.d (.sl 9 (props.map zag.d))))] (.tup [.c (cRs (zf5 props).1),.c (cI (zf5 props).2)]) []:=by
 have lpr:=hpr.1
 refine Fn.body Tryz.func9 rfl 26 rfl fun w H B a h=>?_
 refine rq za0 20 [] [(0,.t (.c (.d (.sl 9 (props.map zag.d))))),(2,.t (.c (.d (.raw za6)))),(3,vi .i64 0)] [] h ?_;clear h;intro a w h
 refine rq za0 20 [] [(0,.t (.c (.d (.sl 9 (props.map zag.d))))),(2,.t (.c (.d (.raw za6)))),(3,vi .i64 0),(4,.t (.c (.d (.raw za6))))] [] h ?_;clear h;intro a w h
 refine wp_seq (rq za0 20 [(1,.len (c:=(.d (.sl 9 (props.map zag.d)))) (n:=props.length) (zae _ _ _))] [(2,.t (.c (.d (.raw za6)))),(3,vi .i64 0),(4,.t (.c (.d (.raw za6)))),(7,.t (.c (.d (.sl 9 (props.map zag.d))))),(8,vi .i64 (props.length:Int)),(9,vi .i64 0)] [] h ?_);clear h;intro a w h
 refine wp_block ?_
 replace h:=zel 4 0 20 4 57 (.t (.c (.d (.raw za6)))) [(2,.t (.c (.d (.raw za6)))),(3,vi .i64 0),(4,.t (.c (.own 20 0))),(7,.t (.c (.d (.sl 9 (props.map zag.d))))),(8,vi .i64 (props.length:Int)),(9,vi .i64 0)] [(20,.row 57 4 ([].map zab.d))] h (by kernel_rfl) rfl rfl
 replace h:=zc7 20 9 [(2,.t (.c (.d (.raw za6)))),(3,vi .i64 0),(4,.t (.c (.own 9 0))),(7,.t (.c (.d (.sl 9 (props.map zag.d))))),(8,vi .i64 (props.length:Int)),(9,vi .i64 0)] [(9,.row 57 4 ([].map zab.d))] h
 replace h:=h.conv (f':=F.of [(2,.t (.c (.d (.raw za6)))),(3,vi .i64 0),(4,.t (.c (.own 9 0))),(7,.t (.c (.d (.sl 9 (props.map zag.d))))),(8,vi .i64 (props.length:Int)),(9,vi .i64 0)] [(9,.row 57 4 (((props.take 0).foldl zaj []).map zab.d))]) (congrArg (fun (z_:List zab)=>F.of [(2,.t (.c (.d (.raw za6)))),(3,vi .i64 0),(4,.t (.c (.own 9 0))),(7,.t (.c (.d (.sl 9 (props.map zag.d))))),(8,vi .i64 (props.length:Int)),(9,vi .i64 0)] [(9,.row 57 4 (z_.map zab.d))]) (show ([]:List zab)=((props.take 0).foldl zaj []) from rfl))
 refine zb1 (ι:=(Nat)) (fun (z_:(Nat))=>match z_ with | j=>j≤props.length)
   (fun (z_:(Nat))=>match z_ with | j=>[(2,.t (.c (.d (.raw za6)))),(3,vi .i64 0),(4,.t (.c (.own 9 ((props.take j).foldl zaj []).length))),(7,.t (.c (.d (.sl 9 (props.map zag.d))))),(8,vi .i64 (props.length:Int)),(9,vi .i64 (j:Int))])
   (fun (z_:(Nat))=>match z_ with | j=>[(9,.row 57 4 (((props.take j).foldl zaj []).map zab.d))])
   (fun (z_:(Nat))=>match z_ with | j=>props.length - j) 0 ?_ h (by kernel_rfl) (by kernel_rfl) ?_
 ·exact Nat.zero_le _
 ·clear h;rintro j a w hI h
  change St _ (F.of [(2,.t (.c (.d (.raw za6)))),(3,vi .i64 0),(4,.t (.c (.own 9 ((props.take j).foldl zaj []).length))),(7,.t (.c (.d (.sl 9 (props.map zag.d))))),(8,vi .i64 (props.length:Int)),(9,vi .i64 (j:Int))] [(9,.row 57 4 (((props.take j).foldl zaj []).map zab.d))]) a w at h
  obtain ⟨hb1,hb2⟩:=base_ok hpr j
  refine rq za0 21 [] [(2,.t (.c (.d (.raw za6)))),(3,vi .i64 0),(4,.t (.c (.own 9 ((props.take j).foldl zaj []).length))),(7,.t (.c (.d (.sl 9 (props.map zag.d))))),(8,vi .i64 (props.length:Int)),(9,vi .i64 (j:Int)),(10,vb (decide ((j:Int)<(props.length:Int))))] [(9,.row 57 4 (((props.take j).foldl zaj []).map zab.d))] h ?_;clear h;intro a w h
  refine wp_seq ?_
  refine zaa (decide ((j:Int)<(props.length:Int))) h rfl (fun hc=>?_) (fun hc=>?_)
  ·have hc1:=hc;clear hc
   have hc1':=of_decide_eq_true hc1
   refine wp_skip (za4 (wp_seq (wp_block ?_)))
   obtain ⟨x1,hx1⟩:∃ z_:zag,props[j]?=some z_:=⟨_,List.getElem?_eq_getElem (by first | omega | (simp at *;omega))⟩
   refine rq za0 21 [(0,.gen _ _ _ fun _ _ _ _=>Op.idxD (d:=11) (t:=7) (k := .i64) li9_5 (zal hx1 (f:=zag.d)) (OV.tmp 9 _))] [(2,.t (.c (.d (.raw za6)))),(3,vi .i64 0),(4,.t (.c (.own 9 ((props.take j).foldl zaj []).length))),(6,vp 21 0),(7,.t (.c (.d (.sl 9 (props.map zag.d))))),(8,vi .i64 (props.length:Int)),(9,vi .i64 (j:Int))] [(9,.row 57 4 (((props.take j).foldl zaj []).map zab.d)),(21,.box ([cB x1.at_,cI x1.proc,cI x1.loc,cI x1.f.kind,cPs x1.f.r.t.parts]++zi x1.f.r.t.k++[cB x1.f.r.eq,cFs x1.f.kids]))] h ?_;clear h;intro a w h
   refine rq za0 22 [] [(2,.t (.c (.d (.raw za6)))),(3,vi .i64 0),(4,.t (.c (.own 9 ((props.take j).foldl zaj []).length))),(6,vp 21 0),(7,.t (.c (.d (.sl 9 (props.map zag.d))))),(8,vi .i64 (props.length:Int)),(9,vi .i64 (j:Int)),(15,vb (!x1.at_))] [(9,.row 57 4 (((props.take j).foldl zaj []).map zab.d)),(21,.box ([cB x1.at_,cI x1.proc,cI x1.loc,cI x1.f.kind,cPs x1.f.r.t.parts]++zi x1.f.r.t.k++[cB x1.f.r.eq,cFs x1.f.kids]))] h ?_;clear h;intro a w h
   refine zaa (!x1.at_) h rfl (fun hc=>?_) (fun hc=>?_)
   ·have hc2:=hc;clear hc
    have hc2':=hc2;(try simp at hc2')
    refine rn za0 22 [(3,.call (LFlat x1.f (za1.okB_mono (by decide) (by decide) _ (hpr.2 x1 (List.mem_of_getElem? hx1) (show (x1.at_)=false from by simpa using hc2)).1) (Nat.le_trans (hpr.2 x1 (List.mem_of_getElem? hx1) (show (x1.at_)=false from by simpa using hc2)).2 (by decide))) li9_6),(4,.call ((Lgather (za1.flat x1.f false) (zcb (hpr.2 x1 (List.mem_of_getElem? hx1) (show (x1.at_)=false from by simpa using hc2))).1).1 ((props.take j).foldl zaj []) hb2 (by have:=(zcb (hpr.2 x1 (List.mem_of_getElem? hx1) (show (x1.at_)=false from by simpa using hc2))).2;omega)) lh8_5)] [(2,.t (.c (.d (.raw za6)))),(3,vi .i64 0),(4,.t (.c (.own 14 (za1.gath (za1.flat x1.f false) ((props.take j).foldl zaj [])).length))),(7,.t (.c (.d (.sl 9 (props.map zag.d))))),(8,vi .i64 (props.length:Int)),(9,vi .i64 (j:Int))] [(14,.row 57 4 ((za1.gath (za1.flat x1.f false) ((props.take j).foldl zaj [])).map zab.d))] h ?_;clear h;intro a w h
    refine zac (za4 (rn za0 22 [(0,.add .i64 (m:=(j:Int)) (n:=1) (zad (by omega) (by omega)))] [(2,.t (.c (.d (.raw za6)))),(3,vi .i64 0),(4,.t (.c (.own 14 (za1.gath (za1.flat x1.f false) ((props.take j).foldl zaj [])).length))),(7,.t (.c (.d (.sl 9 (props.map zag.d))))),(8,vi .i64 (props.length:Int)),(9,vi .i64 ((j:Int)+1))] [(14,.row 57 4 ((za1.gath (za1.flat x1.f false) ((props.take j).foldl zaj [])).map zab.d))] h ?_));clear h;intro a w h
    refine za4 ?_
    replace h:=zc7 14 9 [(2,.t (.c (.d (.raw za6)))),(3,vi .i64 0),(4,.t (.c (.own 9 (za1.gath (za1.flat x1.f false) ((props.take j).foldl zaj [])).length))),(7,.t (.c (.d (.sl 9 (props.map zag.d))))),(8,vi .i64 (props.length:Int)),(9,vi .i64 ((j:Int)+1))] [(9,.row 57 4 ((za1.gath (za1.flat x1.f false) ((props.take j).foldl zaj [])).map zab.d))] h
    replace h:=h.conv (f':=F.of [(2,.t (.c (.d (.raw za6)))),(3,vi .i64 0),(4,.t (.c (.own 9 ((props.take (j+1)).foldl zaj []).length))),(7,.t (.c (.d (.sl 9 (props.map zag.d))))),(8,vi .i64 (props.length:Int)),(9,vi .i64 ((j:Int)+1))] [(9,.row 57 4 (((props.take (j+1)).foldl zaj []).map zab.d))]) (congrArg (fun (z_:List zab)=>F.of [(2,.t (.c (.d (.raw za6)))),(3,vi .i64 0),(4,.t (.c (.own 9 z_.length))),(7,.t (.c (.d (.sl 9 (props.map zag.d))))),(8,vi .i64 (props.length:Int)),(9,vi .i64 ((j:Int)+1))] [(9,.row 57 4 (z_.map zab.d))]) (show ((za1.gath (za1.flat x1.f false) ((props.take j).foldl zaj [])):List zab)=((props.take (j+1)).foldl zaj []) from (by rw [baseStep_at hx1];unfold zaj;rw [if_neg (by rw [(show (x1.at_)=false from by simpa using hc2)];exact Bool.noConfusion)])))
    refine zam (x:=j) (y:=j+1) h ?_ ?_
    ·have:=zak hx1
     show j+1≤props.length
     omega
    ·show props.length - (j+1)<props.length - j
     have:=zak hx1;omega
   ·have hc3:=hc;clear hc
    have hc3':=hc3;(try simp at hc3')
    refine wp_skip (zac (za4 (rn za0 22 [(0,.add .i64 (m:=(j:Int)) (n:=1) (zad (by omega) (by omega)))] [(2,.t (.c (.d (.raw za6)))),(3,vi .i64 0),(4,.t (.c (.own 9 ((props.take j).foldl zaj []).length))),(7,.t (.c (.d (.sl 9 (props.map zag.d))))),(8,vi .i64 (props.length:Int)),(9,vi .i64 ((j:Int)+1))] [(9,.row 57 4 (((props.take j).foldl zaj []).map zab.d))] h ?_)));clear h;intro a w h
    refine za4 ?_
    replace h:=h.conv (f':=F.of [(2,.t (.c (.d (.raw za6)))),(3,vi .i64 0),(4,.t (.c (.own 9 ((props.take (j+1)).foldl zaj []).length))),(7,.t (.c (.d (.sl 9 (props.map zag.d))))),(8,vi .i64 (props.length:Int)),(9,vi .i64 ((j:Int)+1))] [(9,.row 57 4 (((props.take (j+1)).foldl zaj []).map zab.d))]) (congrArg (fun (z_:List zab)=>F.of [(2,.t (.c (.d (.raw za6)))),(3,vi .i64 0),(4,.t (.c (.own 9 z_.length))),(7,.t (.c (.d (.sl 9 (props.map zag.d))))),(8,vi .i64 (props.length:Int)),(9,vi .i64 ((j:Int)+1))] [(9,.row 57 4 (z_.map zab.d))]) (show (((props.take j).foldl zaj []):List zab)=((props.take (j+1)).foldl zaj []) from (by rw [baseStep_at hx1];unfold zaj;rw [if_pos (show (x1.at_)=true from by simpa using hc3)])))
    refine zam (x:=j) (y:=j+1) h ?_ ?_
    ·have:=zak hx1
     show j+1≤props.length
     omega
    ·show props.length - (j+1)<props.length - j
     have:=zak hx1;omega
  ·have hc4:=hc;clear hc
   have hc4':=of_decide_eq_false hc4
   refine wp_exit (zai (zai (za8 (za4 (wp_seq (rq za0 22 [] [(2,.t (.c (.d (.raw za6)))),(3,vi .i64 0),(4,.t (.c (.own 9 ((props.take j).foldl zaj []).length))),(24,vb (decide ((((props.take j).foldl zaj []).length:Int)>24)))] [(9,.row 57 4 (((props.take j).foldl zaj []).map zab.d))] h ?_))))));clear h;intro a w h
   refine zaa (decide ((((props.take j).foldl zaj []).length:Int)>24)) h rfl (fun hc=>?_) (fun hc=>?_)
   ·have hc5:=hc;clear hc
    have hc5':=of_decide_eq_true hc5
    refine rq za0 22 [] [(2,.t (.c (.d (.raw za6)))),(3,vi .i64 3),(4,.t (.c (.own 9 ((props.take j).foldl zaj []).length)))] [(9,.row 57 4 (((props.take j).foldl zaj []).map zab.d))] h ?_;clear h;intro a w h
    refine wp_ret (za9 ?_)
    replace h:=nilDSs 2 0 4 (.t (.c (.d (.raw za6)))) [(2,(vRs [])),(3,vi .i64 3),(4,.t (.c (.own 9 ((props.take j).foldl zaj []).length)))] [(9,.row 57 4 (((props.take j).foldl zaj []).map zab.d))] h rfl rfl
    refine zap [.c (cRs []),.c (cI 3)] h Exit.ret (.inl rfl)  rfl ⟨RV.tmp _ _ rfl,RV.tmp _ _ rfl,trivial⟩ ?_
    have hz:zcf props=((props.take j).foldl zaj []):=by unfold zcf;rw [List.take_of_length_le (by omega)]
    have hz2:zf5 props=([],3):=by unfold zf5;rw [hz,if_pos (by have:=of_decide_eq_true hc5;omega)]
    rw [hz2];first | done | rfl
   ·have hc6:=hc;clear hc
    have hc6':=of_decide_eq_false hc6
    refine wp_skip (za4 (rq za0 22 [] [(2,.t (.c (.own 9 ((props.take j).foldl zaj []).length))),(3,vi .i64 0)] [(9,.row 57 4 (((props.take j).foldl zaj []).map zab.d))] h ?_));clear h;intro a w h
    refine wp_ret ?_
    replace h:=pubS 9 4 57 (((props.take j).foldl zaj []).map zab.d) [(2,(vRs ((props.take j).foldl zaj []))),(3,vi .i64 0)] [] h rfl (show zc5 _ [((props.take j).foldl zaj []).length] from ⟨by first | exact (List.length_map _).symm | (simp;done) | (simp;omega),trivial⟩) trivial
    refine zap [.c (cRs ((props.take j).foldl zaj [])),.c (cI 0)] h Exit.ret (.inl rfl)  rfl ⟨RV.tmp _ _ rfl,RV.tmp _ _ rfl,trivial⟩ ?_
    have hz:zcf props=((props.take j).foldl zaj []):=by unfold zcf;rw [List.take_of_length_le (by omega)]
    have hz2:zf5 props=(((props.take j).foldl zaj []),0):=by unfold zf5;rw [hz,if_neg (by have:=of_decide_eq_false hc6;omega)]
    rw [hz2];first | done | rfl
end
section
open Go.RowKit

theorem lj10_3:za7 Tryz.prog 35:=za7.mk' (by kernel_rfl)
def zb8 (k:Int) (a t:Bool × Bool):Bool × Bool:=(if k=4 then a.1 && t.1 else a.1 || t.1,a.2 && t.2)
def truK (ps:List zab) (bs:List Bool) (k:Int) (r:zab) (ts:List (Bool × Bool)):Bool × Bool :=
  if k=0∨k=1 then (k == 0,true) else if k=2 then (if atR ps r<0∨atR ps r≥(bs.length:Int) then (false,false) else ((bs[(atR ps r).toNat]?).getD false,true)) else ts.foldl (zb8 k) (k == 4,true)
def za1.tru (ps:List zab) (bs:List Bool) (f:za1):Bool × Bool:=f.fold fun k r _ ts=>truK ps bs k r ts
theorem za1.tru_eq (ps:List zab) (bs:List Bool) (f:za1):f.tru ps bs=truK ps bs f.kind f.r (f.kids.map (za1.tru ps bs)):=za1.fold_eq _ f
theorem tru_fold {ps:List zab} {bs:List Bool} {f:za1} (h0:f.kind≠0) (h1:f.kind≠1) (h2:f.kind≠2):f.tru ps bs=f.kids.foldl (fun a g=>zb8 f.kind a (g.tru ps bs)) (f.kind == 4,true):=by
 rw [za1.tru_eq];unfold truK
 rw [if_neg (by omega),if_neg h2,List.foldl_map]
theorem tru_01 {ps:List zab} {bs:List Bool} {f:za1} (h:f.kind=0∨f.kind=1):f.tru ps bs=(f.kind == 0,true):=by
 rw [za1.tru_eq];unfold truK;rw [if_pos h]
theorem tru_no {ps:List zab} {bs:List Bool} {f:za1} (h:f.kind=2) (hi:atR ps f.r<0∨atR ps f.r≥(bs.length:Int)):f.tru ps bs=(false,false):=by
 rw [za1.tru_eq];unfold truK;rw [if_neg (by omega),if_pos h,if_pos hi]
theorem tru_at {ps:List zab} {bs:List Bool} {f:za1} {i:Nat} {b:Bool} (h:f.kind=2) (hi:atR ps f.r=(i:Int)) (hb:bs[i]?=some b):f.tru ps bs=(b,true):=by
 have hl:=(List.getElem?_eq_some_iff.1 hb).1
 rw [za1.tru_eq];unfold truK;rw [if_neg (by omega),if_pos h,if_neg (by omega),hi,Int.toNat_natCast,hb];rfl
theorem zeh {ks:List za1} {k:Int} {ps:List zab} {bs:List Bool} {j:Nat} {g:za1} {z:Bool × Bool} (h:ks[j]?=some g):(ks.take (j+1)).foldl (fun a g=>zb8 k a (g.tru ps bs)) z=zb8 k ((ks.take j).foldl (fun a g=>zb8 k a (g.tru ps bs)) z) (g.tru ps bs):=by
 rw [List.take_add_one,h,List.foldl_append];rfl
set_option maxHeartbeats 4000000 in
theorem Ltruth0 (f:za1) (ps:List zab) (bs:List Bool) (ih:∀ g ∈ f.kids,Fn Tryz.prog 35 [] [.t (.agg ([.d (.raw (.int .i64 g.kind)),.d (.sl 3 (g.r.t.parts.map za2.d))]++zi g.r.t.k++[.d (.raw (.bool g.r.eq)),.d (.sl 6 (g.kids.map za1.d))])),.t (.c (.d (.sl 4 (ps.map zab.d)))),.t (.c (.d (.sl 1 (bs.map za5))))] (.tup [.c (.d (.raw (.bool (za1.tru ps bs g).1))),.c (.d (.raw (.bool (za1.tru ps bs g).2)))]) []) (hf:f.okA 200 2900) (hps:ps.length≤1000000∧∀ p ∈ ps,TOk 200 3000 p.t) (_hb:bs.length≤9223372036854775807) (hn:f.nodes≤1000000):Fn Tryz.prog 35 [] [.t (.agg ([.d (.raw (.int .i64 f.kind)),.d (.sl 3 (f.r.t.parts.map za2.d))]++zi f.r.t.k++[.d (.raw (.bool f.r.eq)),.d (.sl 6 (f.kids.map za1.d))])),.t (.c (.d (.sl 4 (ps.map zab.d)))),.t (.c (.d (.sl 1 (bs.map za5))))] (.tup [.c (.d (.raw (.bool (za1.tru ps bs f).1))),.c (.d (.raw (.bool (za1.tru ps bs f).2)))]) []:=by
 have lkn:=kids_nodes f
 refine Fn.body Tryz.func35 rfl 76 rfl fun w H B a h=>?_
 refine rq za0 0 [] [(1,.t (.c (.d (.sl 4 (ps.map zab.d))))),(2,.t (.c (.d (.sl 1 (bs.map za5))))),(3,vp 0 0),(6,vb false),(7,vb false)] [(0,.box ([.d (.raw (.int .i64 f.kind)),.d (.sl 3 (f.r.t.parts.map za2.d))]++zi f.r.t.k++[.d (.raw (.bool f.r.eq)),.d (.sl 6 (f.kids.map za1.d))]))] h ?_;clear h;intro a w h
 refine wp_seq (rq za0 1 [] [(1,.t (.c (.d (.sl 4 (ps.map zab.d))))),(2,.t (.c (.d (.sl 1 (bs.map za5))))),(3,vp 0 0),(6,vb false),(7,vb false),(16,vi .i64 f.kind)] [(0,.box ([.d (.raw (.int .i64 f.kind)),.d (.sl 3 (f.r.t.parts.map za2.d))]++zi f.r.t.k++[.d (.raw (.bool f.r.eq)),.d (.sl 6 (f.kids.map za1.d))]))] h ?_);clear h;intro a w h
 refine wp_block (wp_seq (rq za0 1 [] [(1,.t (.c (.d (.sl 4 (ps.map zab.d))))),(2,.t (.c (.d (.sl 1 (bs.map za5))))),(3,vp 0 0),(6,vb false),(7,vb false),(16,vi .i64 f.kind),(17,vb (f.kind == 0))] [(0,.box ([.d (.raw (.int .i64 f.kind)),.d (.sl 3 (f.r.t.parts.map za2.d))]++zi f.r.t.k++[.d (.raw (.bool f.r.eq)),.d (.sl 6 (f.kids.map za1.d))]))] h ?_));clear h;intro a w h
 refine zaa (f.kind == 0) h rfl (fun hc=>?_) (fun hc=>?_)
 ·have hc1:=hc;clear hc
  have hc1':=hc1;(try simp at hc1')
  refine wp_skip (za4 ?_)
  refine zaa (f.kind == 0) h rfl (fun hc=>?_) (fun hc=>?_)
  ·clear hc
   refine rq za0 1 [(2,.cmp (op := .eql) (m:=f.kind) (n:=0) (b:=true) .i64 hc1)] [(1,.t (.c (.d (.sl 4 (ps.map zab.d))))),(2,.t (.c (.d (.sl 1 (bs.map za5))))),(3,vp 0 0),(6,vb true),(7,vb true)] [(0,.box ([.d (.raw (.int .i64 f.kind)),.d (.sl 3 (f.r.t.parts.map za2.d))]++zi f.r.t.k++[.d (.raw (.bool f.r.eq)),.d (.sl 6 (f.kids.map za1.d))]))] h ?_;clear h;intro a w h
   refine wp_ret (zaf (za9 ?_))
   refine zap [.c (.d (.raw (.bool true))),.c (.d (.raw (.bool true)))] h Exit.ret (.inl rfl)  rfl ⟨RV.tmp _ _ rfl,RV.tmp _ _ rfl,trivial⟩ ?_
   rw [tru_01 (.inl (by have:=hc1;simpa using this)),hc1];first | done | rfl
  ·rw [hc1] at hc;cases hc
 ·have hc2:=hc;clear hc
  have hc2':=hc2;(try simp at hc2')
  refine rn za0 1 [] [(1,.t (.c (.d (.sl 4 (ps.map zab.d))))),(2,.t (.c (.d (.sl 1 (bs.map za5))))),(3,vp 0 0),(6,vb false),(7,vb false),(16,vi .i64 f.kind),(17,vb (f.kind == 1))] [(0,.box ([.d (.raw (.int .i64 f.kind)),.d (.sl 3 (f.r.t.parts.map za2.d))]++zi f.r.t.k++[.d (.raw (.bool f.r.eq)),.d (.sl 6 (f.kids.map za1.d))]))] h ?_;clear h;intro a w h
  refine za4 ?_
  refine zaa (f.kind == 1) h rfl (fun hc=>?_) (fun hc=>?_)
  ·have hc3:=hc;clear hc
   have hc3':=hc3;(try simp at hc3')
   refine rq za0 1 [(2,.cmp (op := .eql) (m:=f.kind) (n:=0) (b:=false) .i64 hc2)] [(1,.t (.c (.d (.sl 4 (ps.map zab.d))))),(2,.t (.c (.d (.sl 1 (bs.map za5))))),(3,vp 0 0),(6,vb false),(7,vb true)] [(0,.box ([.d (.raw (.int .i64 f.kind)),.d (.sl 3 (f.r.t.parts.map za2.d))]++zi f.r.t.k++[.d (.raw (.bool f.r.eq)),.d (.sl 6 (f.kids.map za1.d))]))] h ?_;clear h;intro a w h
   refine wp_ret (zaf (za9 ?_))
   refine zap [.c (.d (.raw (.bool false))),.c (.d (.raw (.bool true)))] h Exit.ret (.inl rfl)  rfl ⟨RV.tmp _ _ rfl,RV.tmp _ _ rfl,trivial⟩ ?_
   rw [tru_01 (.inr (by have:=hc3;simpa using this)),hc2];first | done | rfl
  ·have hc4:=hc;clear hc
   have hc4':=hc4;(try simp at hc4')
   refine rq za0 1 [] [(1,.t (.c (.d (.sl 4 (ps.map zab.d))))),(2,.t (.c (.d (.sl 1 (bs.map za5))))),(3,vp 0 0),(6,vb false),(7,vb false),(23,vb (f.kind == 2))] [(0,.box ([.d (.raw (.int .i64 f.kind)),.d (.sl 3 (f.r.t.parts.map za2.d))]++zi f.r.t.k++[.d (.raw (.bool f.r.eq)),.d (.sl 6 (f.kids.map za1.d))]))] h ?_;clear h;intro a w h
   refine zaa (f.kind == 2) h rfl (fun hc=>?_) (fun hc=>?_)
   ·have hc5:=hc;clear hc
    have hc5':=hc5;(try simp at hc5')
    refine rq za0 1 [(3,.call (Lindex ps f.r hps (rel_okA hf hc5)) lh8_0)] [(1,.t (.c (.d (.sl 4 (ps.map zab.d))))),(2,.t (.c (.d (.sl 1 (bs.map za5))))),(3,vp 0 0),(6,vb false),(7,vb false),(8,vi .i64 (atR ps f.r))] [(0,.box ([.d (.raw (.int .i64 f.kind)),.d (.sl 3 (f.r.t.parts.map za2.d))]++zi f.r.t.k++[.d (.raw (.bool f.r.eq)),.d (.sl 6 (f.kids.map za1.d))]))] h ?_;clear h;intro a w h
    refine wp_seq ?_
    rcases Bool.eq_false_or_eq_true (decide ((atR ps f.r)<0)) with hc | hc
    ·have hc6:=hc;clear hc
     have hc6':=of_decide_eq_true hc6
     refine rq za0 1 [(1,.cmp (op := .lss) (m:=(atR ps f.r)) (n:=0) (b:=true) .i64 hc6)] [(1,.t (.c (.d (.sl 4 (ps.map zab.d))))),(2,.t (.c (.d (.sl 1 (bs.map za5))))),(3,vp 0 0),(6,vb false),(7,vb false),(8,vi .i64 (atR ps f.r)),(36,vb true)] [(0,.box ([.d (.raw (.int .i64 f.kind)),.d (.sl 3 (f.r.t.parts.map za2.d))]++zi f.r.t.k++[.d (.raw (.bool f.r.eq)),.d (.sl 6 (f.kids.map za1.d))]))] h ?_;clear h;intro a w h
     refine zaa true h rfl (fun hc=>?_) (fun hc=>?_)
     ·clear hc
      refine rq za0 1 [] [(1,.t (.c (.d (.sl 4 (ps.map zab.d))))),(2,.t (.c (.d (.sl 1 (bs.map za5))))),(3,vp 0 0),(6,vb false),(7,vb false),(8,vi .i64 (atR ps f.r))] [(0,.box ([.d (.raw (.int .i64 f.kind)),.d (.sl 3 (f.r.t.parts.map za2.d))]++zi f.r.t.k++[.d (.raw (.bool f.r.eq)),.d (.sl 6 (f.kids.map za1.d))]))] h ?_;clear h;intro a w h
      refine wp_ret (za9 (zaf (za9 ?_)))
      refine zap [.c (.d (.raw (.bool false))),.c (.d (.raw (.bool false)))] h Exit.ret (.inl rfl)  rfl ⟨RV.tmp _ _ rfl,RV.tmp _ _ rfl,trivial⟩ ?_
      rw [tru_no (by have:=hc5;simpa using this) (.inl (of_decide_eq_true hc6))];first | done | rfl
     ·cases hc
    ·have hc7:=hc;clear hc
     have hc7':=of_decide_eq_false hc7
     refine rq za0 1 [(1,.cmp (op := .lss) (m:=(atR ps f.r)) (n:=0) (b:=false) .i64 hc7),(5,.len (c:=(.d (.sl 1 (bs.map za5)))) (n:=bs.length) (zae _ _ _))] [(1,.t (.c (.d (.sl 4 (ps.map zab.d))))),(2,.t (.c (.d (.sl 1 (bs.map za5))))),(3,vp 0 0),(6,vb false),(7,vb false),(8,vi .i64 (atR ps f.r)),(36,vb (decide ((atR ps f.r)≥(bs.length:Int))))] [(0,.box ([.d (.raw (.int .i64 f.kind)),.d (.sl 3 (f.r.t.parts.map za2.d))]++zi f.r.t.k++[.d (.raw (.bool f.r.eq)),.d (.sl 6 (f.kids.map za1.d))]))] h ?_;clear h;intro a w h
     refine zaa (decide ((atR ps f.r)≥(bs.length:Int))) h rfl (fun hc=>?_) (fun hc=>?_)
     ·have hc8:=hc;clear hc
      have hc8':=of_decide_eq_true hc8
      refine rq za0 1 [] [(1,.t (.c (.d (.sl 4 (ps.map zab.d))))),(2,.t (.c (.d (.sl 1 (bs.map za5))))),(3,vp 0 0),(6,vb false),(7,vb false),(8,vi .i64 (atR ps f.r))] [(0,.box ([.d (.raw (.int .i64 f.kind)),.d (.sl 3 (f.r.t.parts.map za2.d))]++zi f.r.t.k++[.d (.raw (.bool f.r.eq)),.d (.sl 6 (f.kids.map za1.d))]))] h ?_;clear h;intro a w h
      refine wp_ret (za9 (zaf (za9 ?_)))
      refine zap [.c (.d (.raw (.bool false))),.c (.d (.raw (.bool false)))] h Exit.ret (.inl rfl)  rfl ⟨RV.tmp _ _ rfl,RV.tmp _ _ rfl,trivial⟩ ?_
      rw [tru_no (by have:=hc5;simpa using this) (.inr (of_decide_eq_true hc8))];first | done | rfl
     ·have hc9:=hc;clear hc
      have hc9':=of_decide_eq_false hc9
      refine wp_skip (za4 ?_)
      obtain ⟨ki,hkki⟩:∃ k_:Nat,(atR ps f.r)=(k_:Int):=⟨_,(Int.toNat_of_nonneg (by have:=of_decide_eq_false hc7;omega)).symm⟩
      replace h:=h.conv (f':=F.of [(1,.t (.c (.d (.sl 4 (ps.map zab.d))))),(2,.t (.c (.d (.sl 1 (bs.map za5))))),(3,vp 0 0),(6,vb false),(7,vb false),(8,vi .i64 (ki:Int)),(36,vb (decide ((atR ps f.r)≥(bs.length:Int))))] [(0,.box ([.d (.raw (.int .i64 f.kind)),.d (.sl 3 (f.r.t.parts.map za2.d))]++zi f.r.t.k++[.d (.raw (.bool f.r.eq)),.d (.sl 6 (f.kids.map za1.d))]))]) (by rw [hkki])
      obtain ⟨x2,hx2⟩:∃ z_:Bool,bs[ki]?=some z_:=⟨_,List.getElem?_eq_getElem (by first | omega | (simp at *;omega))⟩
      refine rq za0 1 [(2,.gen _ _ _ fun _ _ _ _=>Op.idxD (d:=39) (t:=37) (k := .i64) le5_9 (zal hx2 (f:=za5)) (OV.tmp 38 _))] [(1,.t (.c (.d (.sl 4 (ps.map zab.d))))),(2,.t (.c (.d (.sl 1 (bs.map za5))))),(3,vp 0 0),(6,vb x2),(7,vb true)] [(0,.box ([.d (.raw (.int .i64 f.kind)),.d (.sl 3 (f.r.t.parts.map za2.d))]++zi f.r.t.k++[.d (.raw (.bool f.r.eq)),.d (.sl 6 (f.kids.map za1.d))]))] h ?_;clear h;intro a w h
      refine wp_ret (zaf (za9 ?_))
      refine zap [.c (.d (.raw (.bool x2))),.c (.d (.raw (.bool true)))] h Exit.ret (.inl rfl)  rfl ⟨RV.tmp _ _ rfl,RV.tmp _ _ rfl,trivial⟩ ?_
      rw [tru_at (by have:=hc5;simpa using this) hkki hx2];first | done | rfl
   ·have hc10:=hc;clear hc
    have hc10':=hc10;(try simp at hc10')
    refine wp_skip (zac (za4 (rq za0 1 [] [(1,.t (.c (.d (.sl 4 (ps.map zab.d))))),(2,.t (.c (.d (.sl 1 (bs.map za5))))),(3,vp 0 0),(6,vb false),(7,vb false),(9,vb (f.kind == 4)),(10,vb true)] [(0,.box ([.d (.raw (.int .i64 f.kind)),.d (.sl 3 (f.r.t.parts.map za2.d))]++zi f.r.t.k++[.d (.raw (.bool f.r.eq)),.d (.sl 6 (f.kids.map za1.d))]))] h ?_)));clear h;intro a w h
    refine wp_seq (rq za0 1 [(2,.len (c:=(.d (.sl 6 (f.kids.map za1.d)))) (n:=f.kids.length) (zae _ _ _))] [(1,.t (.c (.d (.sl 4 (ps.map zab.d))))),(2,.t (.c (.d (.sl 1 (bs.map za5))))),(3,vp 0 0),(6,vb false),(7,vb false),(9,vb (f.kind == 4)),(10,vb true),(45,.t (.c (.d (.sl 6 (f.kids.map za1.d))))),(46,vi .i64 (f.kids.length:Int)),(47,vi .i64 0)] [(0,.box ([.d (.raw (.int .i64 f.kind)),.d (.sl 3 (f.r.t.parts.map za2.d))]++zi f.r.t.k++[.d (.raw (.bool f.r.eq)),.d (.sl 6 (f.kids.map za1.d))]))] h ?_);clear h;intro a w h
    refine wp_block ?_
    refine zb1 (ι:=(Nat) × (Bool) × (Bool)) (fun (z_:(Nat) × (Bool) × (Bool))=>match z_ with | (j,tb,tk)=>j≤f.kids.length∧(f.kids.take j).foldl (fun a g=>zb8 f.kind a (g.tru ps bs)) (f.kind == 4,true)=(tb,tk))
      (fun (z_:(Nat) × (Bool) × (Bool))=>match z_ with | (j,tb,tk)=>[(1,.t (.c (.d (.sl 4 (ps.map zab.d))))),(2,.t (.c (.d (.sl 1 (bs.map za5))))),(3,vp 0 0),(6,vb false),(7,vb false),(9,vb tb),(10,vb tk),(45,.t (.c (.d (.sl 6 (f.kids.map za1.d))))),(46,vi .i64 (f.kids.length:Int)),(47,vi .i64 (j:Int))])
      (fun (z_:(Nat) × (Bool) × (Bool))=>match z_ with | (j,tb,tk)=>[(0,.box ([.d (.raw (.int .i64 f.kind)),.d (.sl 3 (f.r.t.parts.map za2.d))]++zi f.r.t.k++[.d (.raw (.bool f.r.eq)),.d (.sl 6 (f.kids.map za1.d))]))])
      (fun (z_:(Nat) × (Bool) × (Bool))=>match z_ with | (j,tb,tk)=>f.kids.length - j) (0,(f.kind == 4),true) ?_ h (by kernel_rfl) (by kernel_rfl) ?_
    ·exact ⟨Nat.zero_le _,rfl⟩
    ·clear h;rintro ⟨j,tb,tk⟩ a w hI h
     change St _ (F.of [(1,.t (.c (.d (.sl 4 (ps.map zab.d))))),(2,.t (.c (.d (.sl 1 (bs.map za5))))),(3,vp 0 0),(6,vb false),(7,vb false),(9,vb tb),(10,vb tk),(45,.t (.c (.d (.sl 6 (f.kids.map za1.d))))),(46,vi .i64 (f.kids.length:Int)),(47,vi .i64 (j:Int))] [(0,.box ([.d (.raw (.int .i64 f.kind)),.d (.sl 3 (f.r.t.parts.map za2.d))]++zi f.r.t.k++[.d (.raw (.bool f.r.eq)),.d (.sl 6 (f.kids.map za1.d))]))]) a w at h
     obtain ⟨hI1,hI2⟩:=hI
     refine rq za0 1 [] [(1,.t (.c (.d (.sl 4 (ps.map zab.d))))),(2,.t (.c (.d (.sl 1 (bs.map za5))))),(3,vp 0 0),(6,vb false),(7,vb false),(9,vb tb),(10,vb tk),(45,.t (.c (.d (.sl 6 (f.kids.map za1.d))))),(46,vi .i64 (f.kids.length:Int)),(47,vi .i64 (j:Int)),(48,vb (decide ((j:Int)<(f.kids.length:Int))))] [(0,.box ([.d (.raw (.int .i64 f.kind)),.d (.sl 3 (f.r.t.parts.map za2.d))]++zi f.r.t.k++[.d (.raw (.bool f.r.eq)),.d (.sl 6 (f.kids.map za1.d))]))] h ?_;clear h;intro a w h
     refine wp_seq ?_
     refine zaa (decide ((j:Int)<(f.kids.length:Int))) h rfl (fun hc=>?_) (fun hc=>?_)
     ·have hc11:=hc;clear hc
      have hc11':=of_decide_eq_true hc11
      refine wp_skip (za4 (wp_seq (wp_block ?_)))
      obtain ⟨x3,hx3⟩:∃ z_:za1,f.kids[j]?=some z_:=⟨_,List.getElem?_eq_getElem (by first | omega | (simp at *;omega))⟩
      refine rq za0 1 [(0,.gen _ _ _ fun _ _ _ _=>Op.idxD (d:=49) (t:=45) (k := .i64) kb_0 ((zal hx3 (f:=za1.d)).trans (congrArg some (za1.d_eq x3))) (OV.tmp 47 _))] [(1,.t (.c (.d (.sl 4 (ps.map zab.d))))),(2,.t (.c (.d (.sl 1 (bs.map za5))))),(3,vp 0 0),(6,vb false),(7,vb false),(9,vb tb),(10,vb tk),(12,vp 1 0),(45,.t (.c (.d (.sl 6 (f.kids.map za1.d))))),(46,vi .i64 (f.kids.length:Int)),(47,vi .i64 (j:Int))] [(0,.box ([.d (.raw (.int .i64 f.kind)),.d (.sl 3 (f.r.t.parts.map za2.d))]++zi f.r.t.k++[.d (.raw (.bool f.r.eq)),.d (.sl 6 (f.kids.map za1.d))])),(1,.box ([.d (.raw (.int .i64 x3.kind)),.d (.sl 3 (x3.r.t.parts.map za2.d))]++zi x3.r.t.k++[.d (.raw (.bool x3.r.eq)),.d (.sl 6 (x3.kids.map za1.d))]))] h ?_;clear h;intro a w h
      refine rq za0 2 [(3,.call (ih x3 (List.mem_of_getElem? hx3)) lj10_3)] [(1,.t (.c (.d (.sl 4 (ps.map zab.d))))),(2,.t (.c (.d (.sl 1 (bs.map za5))))),(3,vp 0 0),(6,vb false),(7,vb false),(9,vb tb),(10,vb tk),(13,vb (za1.tru ps bs x3).1),(14,vb (za1.tru ps bs x3).2),(45,.t (.c (.d (.sl 6 (f.kids.map za1.d))))),(46,vi .i64 (f.kids.length:Int)),(47,vi .i64 (j:Int))] [(0,.box ([.d (.raw (.int .i64 f.kind)),.d (.sl 3 (f.r.t.parts.map za2.d))]++zi f.r.t.k++[.d (.raw (.bool f.r.eq)),.d (.sl 6 (f.kids.map za1.d))]))] h ?_;clear h;intro a w h
      rcases Bool.eq_false_or_eq_true tk with hc | hc
      ·have hc12:=hc;clear hc
       rw [hc12] at h
       refine rq za0 2 [] [(1,.t (.c (.d (.sl 4 (ps.map zab.d))))),(2,.t (.c (.d (.sl 1 (bs.map za5))))),(3,vp 0 0),(6,vb false),(7,vb false),(9,vb tb),(10,vb (za1.tru ps bs x3).2),(13,vb (za1.tru ps bs x3).1),(45,.t (.c (.d (.sl 6 (f.kids.map za1.d))))),(46,vi .i64 (f.kids.length:Int)),(47,vi .i64 (j:Int))] [(0,.box ([.d (.raw (.int .i64 f.kind)),.d (.sl 3 (f.r.t.parts.map za2.d))]++zi f.r.t.k++[.d (.raw (.bool f.r.eq)),.d (.sl 6 (f.kids.map za1.d))]))] h ?_;clear h;intro a w h
       refine rq za0 2 [] [(1,.t (.c (.d (.sl 4 (ps.map zab.d))))),(2,.t (.c (.d (.sl 1 (bs.map za5))))),(3,vp 0 0),(6,vb false),(7,vb false),(9,vb tb),(10,vb (za1.tru ps bs x3).2),(13,vb (za1.tru ps bs x3).1),(45,.t (.c (.d (.sl 6 (f.kids.map za1.d))))),(46,vi .i64 (f.kids.length:Int)),(47,vi .i64 (j:Int)),(64,vb (f.kind == 4))] [(0,.box ([.d (.raw (.int .i64 f.kind)),.d (.sl 3 (f.r.t.parts.map za2.d))]++zi f.r.t.k++[.d (.raw (.bool f.r.eq)),.d (.sl 6 (f.kids.map za1.d))]))] h ?_;clear h;intro a w h
       refine zaa (f.kind == 4) h rfl (fun hc=>?_) (fun hc=>?_)
       ·have hc13:=hc;clear hc
        have hc13':=hc13;(try simp at hc13')
        rcases Bool.eq_false_or_eq_true tb with hc | hc
        ·have hc14:=hc;clear hc
         rw [hc14] at h
         refine rn za0 2 [] [(1,.t (.c (.d (.sl 4 (ps.map zab.d))))),(2,.t (.c (.d (.sl 1 (bs.map za5))))),(3,vp 0 0),(6,vb false),(7,vb false),(9,vb (za1.tru ps bs x3).1),(10,vb (za1.tru ps bs x3).2),(45,.t (.c (.d (.sl 6 (f.kids.map za1.d))))),(46,vi .i64 (f.kids.length:Int)),(47,vi .i64 (j:Int))] [(0,.box ([.d (.raw (.int .i64 f.kind)),.d (.sl 3 (f.r.t.parts.map za2.d))]++zi f.r.t.k++[.d (.raw (.bool f.r.eq)),.d (.sl 6 (f.kids.map za1.d))]))] h ?_;clear h;intro a w h
         refine zac (za4 (rn za0 2 [(0,.add .i64 (m:=(j:Int)) (n:=1) (zad (by omega) (by omega)))] [(1,.t (.c (.d (.sl 4 (ps.map zab.d))))),(2,.t (.c (.d (.sl 1 (bs.map za5))))),(3,vp 0 0),(6,vb false),(7,vb false),(9,vb (za1.tru ps bs x3).1),(10,vb (za1.tru ps bs x3).2),(45,.t (.c (.d (.sl 6 (f.kids.map za1.d))))),(46,vi .i64 (f.kids.length:Int)),(47,vi .i64 ((j:Int)+1))] [(0,.box ([.d (.raw (.int .i64 f.kind)),.d (.sl 3 (f.r.t.parts.map za2.d))]++zi f.r.t.k++[.d (.raw (.bool f.r.eq)),.d (.sl 6 (f.kids.map za1.d))]))] h ?_));clear h;intro a w h
         refine za4 ?_
         refine zam (x:=(j,tb,tk)) (y:=(j+1,(za1.tru ps bs x3).1,(za1.tru ps bs x3).2)) h ?_ ?_
         ·have:=zak hx3
          refine ⟨by omega,?_⟩
          rw [zeh hx3,hI2]
          show zb8 f.kind (tb,tk) (za1.tru ps bs x3)=((za1.tru ps bs x3).1,(za1.tru ps bs x3).2)
          unfold zb8
          have q1:=hc12
          have q1:=hc14
          have q1:=hc13
          simp_all
         ·show f.kids.length - (j+1)<f.kids.length - j
          have:=zak hx3;omega
        ·have hc15:=hc;clear hc
         rw [hc15] at h
         refine rn za0 2 [] [(1,.t (.c (.d (.sl 4 (ps.map zab.d))))),(2,.t (.c (.d (.sl 1 (bs.map za5))))),(3,vp 0 0),(6,vb false),(7,vb false),(9,vb false),(10,vb (za1.tru ps bs x3).2),(45,.t (.c (.d (.sl 6 (f.kids.map za1.d))))),(46,vi .i64 (f.kids.length:Int)),(47,vi .i64 (j:Int))] [(0,.box ([.d (.raw (.int .i64 f.kind)),.d (.sl 3 (f.r.t.parts.map za2.d))]++zi f.r.t.k++[.d (.raw (.bool f.r.eq)),.d (.sl 6 (f.kids.map za1.d))]))] h ?_;clear h;intro a w h
         refine zac (za4 (rn za0 2 [(0,.add .i64 (m:=(j:Int)) (n:=1) (zad (by omega) (by omega)))] [(1,.t (.c (.d (.sl 4 (ps.map zab.d))))),(2,.t (.c (.d (.sl 1 (bs.map za5))))),(3,vp 0 0),(6,vb false),(7,vb false),(9,vb false),(10,vb (za1.tru ps bs x3).2),(45,.t (.c (.d (.sl 6 (f.kids.map za1.d))))),(46,vi .i64 (f.kids.length:Int)),(47,vi .i64 ((j:Int)+1))] [(0,.box ([.d (.raw (.int .i64 f.kind)),.d (.sl 3 (f.r.t.parts.map za2.d))]++zi f.r.t.k++[.d (.raw (.bool f.r.eq)),.d (.sl 6 (f.kids.map za1.d))]))] h ?_));clear h;intro a w h
         refine za4 ?_
         refine zam (x:=(j,tb,tk)) (y:=(j+1,false,(za1.tru ps bs x3).2)) h ?_ ?_
         ·have:=zak hx3
          refine ⟨by omega,?_⟩
          rw [zeh hx3,hI2]
          show zb8 f.kind (tb,tk) (za1.tru ps bs x3)=(false,(za1.tru ps bs x3).2)
          unfold zb8
          have q1:=hc12
          have q1:=hc15
          have q1:=hc13
          simp_all
         ·show f.kids.length - (j+1)<f.kids.length - j
          have:=zak hx3;omega
       ·have hc16:=hc;clear hc
        have hc16':=hc16;(try simp at hc16')
        rcases Bool.eq_false_or_eq_true tb with hc | hc
        ·have hc17:=hc;clear hc
         rw [hc17] at h
         refine rn za0 2 [] [(1,.t (.c (.d (.sl 4 (ps.map zab.d))))),(2,.t (.c (.d (.sl 1 (bs.map za5))))),(3,vp 0 0),(6,vb false),(7,vb false),(9,vb true),(10,vb (za1.tru ps bs x3).2),(45,.t (.c (.d (.sl 6 (f.kids.map za1.d))))),(46,vi .i64 (f.kids.length:Int)),(47,vi .i64 (j:Int))] [(0,.box ([.d (.raw (.int .i64 f.kind)),.d (.sl 3 (f.r.t.parts.map za2.d))]++zi f.r.t.k++[.d (.raw (.bool f.r.eq)),.d (.sl 6 (f.kids.map za1.d))]))] h ?_;clear h;intro a w h
         refine zac (za4 (rn za0 2 [(0,.add .i64 (m:=(j:Int)) (n:=1) (zad (by omega) (by omega)))] [(1,.t (.c (.d (.sl 4 (ps.map zab.d))))),(2,.t (.c (.d (.sl 1 (bs.map za5))))),(3,vp 0 0),(6,vb false),(7,vb false),(9,vb true),(10,vb (za1.tru ps bs x3).2),(45,.t (.c (.d (.sl 6 (f.kids.map za1.d))))),(46,vi .i64 (f.kids.length:Int)),(47,vi .i64 ((j:Int)+1))] [(0,.box ([.d (.raw (.int .i64 f.kind)),.d (.sl 3 (f.r.t.parts.map za2.d))]++zi f.r.t.k++[.d (.raw (.bool f.r.eq)),.d (.sl 6 (f.kids.map za1.d))]))] h ?_));clear h;intro a w h
         refine za4 ?_
         refine zam (x:=(j,tb,tk)) (y:=(j+1,true,(za1.tru ps bs x3).2)) h ?_ ?_
         ·have:=zak hx3
          refine ⟨by omega,?_⟩
          rw [zeh hx3,hI2]
          show zb8 f.kind (tb,tk) (za1.tru ps bs x3)=(true,(za1.tru ps bs x3).2)
          unfold zb8
          have q1:=hc12
          have q1:=hc17
          have q1:=hc16
          simp_all
         ·show f.kids.length - (j+1)<f.kids.length - j
          have:=zak hx3;omega
        ·have hc18:=hc;clear hc
         rw [hc18] at h
         refine rn za0 2 [] [(1,.t (.c (.d (.sl 4 (ps.map zab.d))))),(2,.t (.c (.d (.sl 1 (bs.map za5))))),(3,vp 0 0),(6,vb false),(7,vb false),(9,vb (za1.tru ps bs x3).1),(10,vb (za1.tru ps bs x3).2),(45,.t (.c (.d (.sl 6 (f.kids.map za1.d))))),(46,vi .i64 (f.kids.length:Int)),(47,vi .i64 (j:Int))] [(0,.box ([.d (.raw (.int .i64 f.kind)),.d (.sl 3 (f.r.t.parts.map za2.d))]++zi f.r.t.k++[.d (.raw (.bool f.r.eq)),.d (.sl 6 (f.kids.map za1.d))]))] h ?_;clear h;intro a w h
         refine zac (za4 (rn za0 2 [(0,.add .i64 (m:=(j:Int)) (n:=1) (zad (by omega) (by omega)))] [(1,.t (.c (.d (.sl 4 (ps.map zab.d))))),(2,.t (.c (.d (.sl 1 (bs.map za5))))),(3,vp 0 0),(6,vb false),(7,vb false),(9,vb (za1.tru ps bs x3).1),(10,vb (za1.tru ps bs x3).2),(45,.t (.c (.d (.sl 6 (f.kids.map za1.d))))),(46,vi .i64 (f.kids.length:Int)),(47,vi .i64 ((j:Int)+1))] [(0,.box ([.d (.raw (.int .i64 f.kind)),.d (.sl 3 (f.r.t.parts.map za2.d))]++zi f.r.t.k++[.d (.raw (.bool f.r.eq)),.d (.sl 6 (f.kids.map za1.d))]))] h ?_));clear h;intro a w h
         refine za4 ?_
         refine zam (x:=(j,tb,tk)) (y:=(j+1,(za1.tru ps bs x3).1,(za1.tru ps bs x3).2)) h ?_ ?_
         ·have:=zak hx3
          refine ⟨by omega,?_⟩
          rw [zeh hx3,hI2]
          show zb8 f.kind (tb,tk) (za1.tru ps bs x3)=((za1.tru ps bs x3).1,(za1.tru ps bs x3).2)
          unfold zb8
          have q1:=hc12
          have q1:=hc18
          have q1:=hc16
          simp_all
         ·show f.kids.length - (j+1)<f.kids.length - j
          have:=zak hx3;omega
      ·have hc19:=hc;clear hc
       rw [hc19] at h
       refine rq za0 2 [] [(1,.t (.c (.d (.sl 4 (ps.map zab.d))))),(2,.t (.c (.d (.sl 1 (bs.map za5))))),(3,vp 0 0),(6,vb false),(7,vb false),(9,vb tb),(10,vb false),(13,vb (za1.tru ps bs x3).1),(45,.t (.c (.d (.sl 6 (f.kids.map za1.d))))),(46,vi .i64 (f.kids.length:Int)),(47,vi .i64 (j:Int))] [(0,.box ([.d (.raw (.int .i64 f.kind)),.d (.sl 3 (f.r.t.parts.map za2.d))]++zi f.r.t.k++[.d (.raw (.bool f.r.eq)),.d (.sl 6 (f.kids.map za1.d))]))] h ?_;clear h;intro a w h
       refine rq za0 2 [] [(1,.t (.c (.d (.sl 4 (ps.map zab.d))))),(2,.t (.c (.d (.sl 1 (bs.map za5))))),(3,vp 0 0),(6,vb false),(7,vb false),(9,vb tb),(10,vb false),(13,vb (za1.tru ps bs x3).1),(45,.t (.c (.d (.sl 6 (f.kids.map za1.d))))),(46,vi .i64 (f.kids.length:Int)),(47,vi .i64 (j:Int)),(64,vb (f.kind == 4))] [(0,.box ([.d (.raw (.int .i64 f.kind)),.d (.sl 3 (f.r.t.parts.map za2.d))]++zi f.r.t.k++[.d (.raw (.bool f.r.eq)),.d (.sl 6 (f.kids.map za1.d))]))] h ?_;clear h;intro a w h
       refine zaa (f.kind == 4) h rfl (fun hc=>?_) (fun hc=>?_)
       ·have hc20:=hc;clear hc
        have hc20':=hc20;(try simp at hc20')
        rcases Bool.eq_false_or_eq_true tb with hc | hc
        ·have hc21:=hc;clear hc
         rw [hc21] at h
         refine rn za0 2 [] [(1,.t (.c (.d (.sl 4 (ps.map zab.d))))),(2,.t (.c (.d (.sl 1 (bs.map za5))))),(3,vp 0 0),(6,vb false),(7,vb false),(9,vb (za1.tru ps bs x3).1),(10,vb false),(45,.t (.c (.d (.sl 6 (f.kids.map za1.d))))),(46,vi .i64 (f.kids.length:Int)),(47,vi .i64 (j:Int))] [(0,.box ([.d (.raw (.int .i64 f.kind)),.d (.sl 3 (f.r.t.parts.map za2.d))]++zi f.r.t.k++[.d (.raw (.bool f.r.eq)),.d (.sl 6 (f.kids.map za1.d))]))] h ?_;clear h;intro a w h
         refine zac (za4 (rn za0 2 [(0,.add .i64 (m:=(j:Int)) (n:=1) (zad (by omega) (by omega)))] [(1,.t (.c (.d (.sl 4 (ps.map zab.d))))),(2,.t (.c (.d (.sl 1 (bs.map za5))))),(3,vp 0 0),(6,vb false),(7,vb false),(9,vb (za1.tru ps bs x3).1),(10,vb false),(45,.t (.c (.d (.sl 6 (f.kids.map za1.d))))),(46,vi .i64 (f.kids.length:Int)),(47,vi .i64 ((j:Int)+1))] [(0,.box ([.d (.raw (.int .i64 f.kind)),.d (.sl 3 (f.r.t.parts.map za2.d))]++zi f.r.t.k++[.d (.raw (.bool f.r.eq)),.d (.sl 6 (f.kids.map za1.d))]))] h ?_));clear h;intro a w h
         refine za4 ?_
         refine zam (x:=(j,tb,tk)) (y:=(j+1,(za1.tru ps bs x3).1,false)) h ?_ ?_
         ·have:=zak hx3
          refine ⟨by omega,?_⟩
          rw [zeh hx3,hI2]
          show zb8 f.kind (tb,tk) (za1.tru ps bs x3)=((za1.tru ps bs x3).1,false)
          unfold zb8
          have q1:=hc19
          have q1:=hc21
          have q1:=hc20
          simp_all
         ·show f.kids.length - (j+1)<f.kids.length - j
          have:=zak hx3;omega
        ·have hc22:=hc;clear hc
         rw [hc22] at h
         refine rn za0 2 [] [(1,.t (.c (.d (.sl 4 (ps.map zab.d))))),(2,.t (.c (.d (.sl 1 (bs.map za5))))),(3,vp 0 0),(6,vb false),(7,vb false),(9,vb false),(10,vb false),(45,.t (.c (.d (.sl 6 (f.kids.map za1.d))))),(46,vi .i64 (f.kids.length:Int)),(47,vi .i64 (j:Int))] [(0,.box ([.d (.raw (.int .i64 f.kind)),.d (.sl 3 (f.r.t.parts.map za2.d))]++zi f.r.t.k++[.d (.raw (.bool f.r.eq)),.d (.sl 6 (f.kids.map za1.d))]))] h ?_;clear h;intro a w h
         refine zac (za4 (rn za0 2 [(0,.add .i64 (m:=(j:Int)) (n:=1) (zad (by omega) (by omega)))] [(1,.t (.c (.d (.sl 4 (ps.map zab.d))))),(2,.t (.c (.d (.sl 1 (bs.map za5))))),(3,vp 0 0),(6,vb false),(7,vb false),(9,vb false),(10,vb false),(45,.t (.c (.d (.sl 6 (f.kids.map za1.d))))),(46,vi .i64 (f.kids.length:Int)),(47,vi .i64 ((j:Int)+1))] [(0,.box ([.d (.raw (.int .i64 f.kind)),.d (.sl 3 (f.r.t.parts.map za2.d))]++zi f.r.t.k++[.d (.raw (.bool f.r.eq)),.d (.sl 6 (f.kids.map za1.d))]))] h ?_));clear h;intro a w h
         refine za4 ?_
         refine zam (x:=(j,tb,tk)) (y:=(j+1,false,false)) h ?_ ?_
         ·have:=zak hx3
          refine ⟨by omega,?_⟩
          rw [zeh hx3,hI2]
          show zb8 f.kind (tb,tk) (za1.tru ps bs x3)=(false,false)
          unfold zb8
          have q1:=hc19
          have q1:=hc22
          have q1:=hc20
          simp_all
         ·show f.kids.length - (j+1)<f.kids.length - j
          have:=zak hx3;omega
       ·have hc23:=hc;clear hc
        have hc23':=hc23;(try simp at hc23')
        rcases Bool.eq_false_or_eq_true tb with hc | hc
        ·have hc24:=hc;clear hc
         rw [hc24] at h
         refine rn za0 2 [] [(1,.t (.c (.d (.sl 4 (ps.map zab.d))))),(2,.t (.c (.d (.sl 1 (bs.map za5))))),(3,vp 0 0),(6,vb false),(7,vb false),(9,vb true),(10,vb false),(45,.t (.c (.d (.sl 6 (f.kids.map za1.d))))),(46,vi .i64 (f.kids.length:Int)),(47,vi .i64 (j:Int))] [(0,.box ([.d (.raw (.int .i64 f.kind)),.d (.sl 3 (f.r.t.parts.map za2.d))]++zi f.r.t.k++[.d (.raw (.bool f.r.eq)),.d (.sl 6 (f.kids.map za1.d))]))] h ?_;clear h;intro a w h
         refine zac (za4 (rn za0 2 [(0,.add .i64 (m:=(j:Int)) (n:=1) (zad (by omega) (by omega)))] [(1,.t (.c (.d (.sl 4 (ps.map zab.d))))),(2,.t (.c (.d (.sl 1 (bs.map za5))))),(3,vp 0 0),(6,vb false),(7,vb false),(9,vb true),(10,vb false),(45,.t (.c (.d (.sl 6 (f.kids.map za1.d))))),(46,vi .i64 (f.kids.length:Int)),(47,vi .i64 ((j:Int)+1))] [(0,.box ([.d (.raw (.int .i64 f.kind)),.d (.sl 3 (f.r.t.parts.map za2.d))]++zi f.r.t.k++[.d (.raw (.bool f.r.eq)),.d (.sl 6 (f.kids.map za1.d))]))] h ?_));clear h;intro a w h
         refine za4 ?_
         refine zam (x:=(j,tb,tk)) (y:=(j+1,true,false)) h ?_ ?_
         ·have:=zak hx3
          refine ⟨by omega,?_⟩
          rw [zeh hx3,hI2]
          show zb8 f.kind (tb,tk) (za1.tru ps bs x3)=(true,false)
          unfold zb8
          have q1:=hc19
          have q1:=hc24
          have q1:=hc23
          simp_all
         ·show f.kids.length - (j+1)<f.kids.length - j
          have:=zak hx3;omega
        ·have hc25:=hc;clear hc
         rw [hc25] at h
         refine rn za0 2 [] [(1,.t (.c (.d (.sl 4 (ps.map zab.d))))),(2,.t (.c (.d (.sl 1 (bs.map za5))))),(3,vp 0 0),(6,vb false),(7,vb false),(9,vb (za1.tru ps bs x3).1),(10,vb false),(45,.t (.c (.d (.sl 6 (f.kids.map za1.d))))),(46,vi .i64 (f.kids.length:Int)),(47,vi .i64 (j:Int))] [(0,.box ([.d (.raw (.int .i64 f.kind)),.d (.sl 3 (f.r.t.parts.map za2.d))]++zi f.r.t.k++[.d (.raw (.bool f.r.eq)),.d (.sl 6 (f.kids.map za1.d))]))] h ?_;clear h;intro a w h
         refine zac (za4 (rn za0 2 [(0,.add .i64 (m:=(j:Int)) (n:=1) (zad (by omega) (by omega)))] [(1,.t (.c (.d (.sl 4 (ps.map zab.d))))),(2,.t (.c (.d (.sl 1 (bs.map za5))))),(3,vp 0 0),(6,vb false),(7,vb false),(9,vb (za1.tru ps bs x3).1),(10,vb false),(45,.t (.c (.d (.sl 6 (f.kids.map za1.d))))),(46,vi .i64 (f.kids.length:Int)),(47,vi .i64 ((j:Int)+1))] [(0,.box ([.d (.raw (.int .i64 f.kind)),.d (.sl 3 (f.r.t.parts.map za2.d))]++zi f.r.t.k++[.d (.raw (.bool f.r.eq)),.d (.sl 6 (f.kids.map za1.d))]))] h ?_));clear h;intro a w h
         refine za4 ?_
         refine zam (x:=(j,tb,tk)) (y:=(j+1,(za1.tru ps bs x3).1,false)) h ?_ ?_
         ·have:=zak hx3
          refine ⟨by omega,?_⟩
          rw [zeh hx3,hI2]
          show zb8 f.kind (tb,tk) (za1.tru ps bs x3)=((za1.tru ps bs x3).1,false)
          unfold zb8
          have q1:=hc19
          have q1:=hc25
          have q1:=hc23
          simp_all
         ·show f.kids.length - (j+1)<f.kids.length - j
          have:=zak hx3;omega
     ·have hc26:=hc;clear hc
      have hc26':=of_decide_eq_false hc26
      refine wp_exit (zai (zai (za8 (za4 (rq za0 2 [] [(6,vb tb),(7,vb tk)] [] h ?_)))));clear h;intro a w h
      refine wp_ret ?_
      refine zap [.c (.d (.raw (.bool tb))),.c (.d (.raw (.bool tk)))] h Exit.ret (.inl rfl)  rfl ⟨RV.tmp _ _ rfl,RV.tmp _ _ rfl,trivial⟩ ?_
      have hz:f.tru ps bs=(tb,tk):=by rw [tru_fold (by have:=hc2;simpa using this) (by have:=hc4;simpa using this) (by have:=hc10;simpa using this),← hI2,List.take_of_length_le (by omega)]
      rw [hz];first | done | rfl
end
end Go.Proofs.YtcppcnfmgpphcaaGreat.S
