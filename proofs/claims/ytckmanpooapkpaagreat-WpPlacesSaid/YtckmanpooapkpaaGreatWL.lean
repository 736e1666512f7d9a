/-
  The proof of the statement WpPlaces: the walk through the program and the references lifted to the given row. It holds for every input.
-/
import Derived.Test.YtckmanpooapkpaaGreatWL5
import Derived.Test.YtckmanpooapkpaaGreatRows
import Derived.Test.YtckmanpooapkpaaGreatWL2
set_option maxRecDepth 100000
set_option maxHeartbeats 20000000
open Go.RowKit
namespace Go.Proofs.YtckmanpooapkpaaGreat
namespace S
theorem mj9_0:za4 Tryz.prog 30:=za4.mk' (by kernel_rfl)
theorem mj9_3:za4 Tryz.prog 26:=za4.mk' (by kernel_rfl)
theorem mj9_5:za4 Tryz.prog 13:=za4.mk' (by kernel_rfl)
theorem mj9_6:za4 Tryz.prog 11:=za4.mk' (by kernel_rfl)
theorem zix:za4 Tryz.prog 33:=za4.mk' (by kernel_rfl)
theorem ziw:za4 Tryz.prog 32:=za4.mk' (by kernel_rfl)
theorem zig:za4 Tryz.prog 20:=za4.mk' (by kernel_rfl)
theorem mj9_11:za4 Tryz.prog 22:=za4.mk' (by kernel_rfl)
theorem mj9_13:za4 Tryz.prog 18:=za4.mk' (by kernel_rfl)
theorem at_ok9 {f:za0} (h:f.okB 40 200) (s:zar) (k:Nat):(atF s f k).okB 40 203:=zjd (t:=zc8 (offZ s k)) (fun r hr=>by
 have:=movZ_tok (hr.plain (by decide)) (by decide) (zah (offZ s k))
 exact this) f h
theorem rngK_ok {s:zar} (hs:zba 3 s) (k:Nat):(atF s (zav s) k).okB 40 203:=at_ok9 (za0.okB_mono (by decide) (by decide) _ (rngF_ok hs)) s k
theorem startK_ok {s:zar} (hs:zba 3 s) (hw:zhk s) (k:Nat):(atF s (zc7 [s.init,zav s]) k).okB 40 203:=at_ok9 (za0.okB_mono (Nat.le_refl _) (by decide) _ (ze9 (n:=40) (L:=60) (by decide) (fun g hg=>by
 rcases List.mem_cons.1 hg with rfl | hg
 ·exact za0.okB_mono (by decide) (by decide) _ (zfb hs.init (by have:=hw.1;omega))
 ·rw [List.mem_singleton.1 hg];exact za0.okB_mono (by decide) (by decide) _ (rngF_ok hs)) (show List.length _<=1000000 from by simp))) s k
theorem canK_ok {s:zar} (hs:zba 3 s) (hw:zhk s) (act:Int) (k:Nat):(zdh s act k).okB 40 203:=by
 unfold zdh;split
 ·exact at_ok9 (za0.okB_mono (by decide) (by decide) _ (zi8 hs (zbj hs act) (zeg hw act))) s k
 ·exact zhs _ _ _
theorem stuckK_ok {s:zar} (hs:zba 3 s) (hw:zhk s) (locs:List Int) (k:Nat):(atF s (zbf s locs) k).okB 40 203:=at_ok9 (za0.okB_mono (by decide) (by decide) _ (stkF_ok hs hw locs)) s k
theorem zj7 {s:zar} (hs:zba 3 s) (hw:zhk s) (locs:List Int) (act:Int) (k:Nat):(zal s locs act k).okB 40 203:=by
 unfold zal
 have hl:=stpL_len s
 have hv:=hs.vars
 split
 ·exact at_ok9 (za0.okB_mono (Nat.le_refl _) (by decide) _ (ze9 (n:=40) (L:=60) (by decide) (stpL_ok (za0.okB_mono (by decide) (by decide) _ (stkF_ok hs hw locs)) (zbj hs (-1))) (Nat.le_trans (hl (zbf s locs) (zac s locs (-1)).1) (by omega)))) s k
 ·split
  ·refine at_ok9 (za0.okB_mono (Nat.le_refl _) (by decide) _ (ze9 (n:=40) (L:=103) (by decide) (fun g hg=>?_) ?_)) s k
   ·rcases List.mem_append.1 hg with hg | hg
    ·exact za0.okB_mono (by decide) (by decide) _ (stpL_ok (za0.okB_mono (by decide) (by decide) _ (zfb (zbj hs act).guard (Nat.le_trans (zeg hw act) (by decide)))) (zbj hs act) g hg)
    ·rw [List.mem_singleton.1 hg];exact rng1_ok hs
   ·rw [List.length_append,List.length_singleton];have:=hl (zac s locs act).1.guard (zac s locs act).1;omega
  ·exact zhs _ _ _
theorem preK_ok {s:zar} (hs:zba 3 s) (hw:zhk s) (act:Int) {f:za0} (hf:f.okB 20 3) (hfw:f.wid<=1000):(preF s act f).okB 900 61:=by
 unfold preF;split
 ·exact za0.okB_mono (by decide) (by decide) _ (ze9 (n:=20) (L:=3) (by decide) (fun g hg=>by rw [List.mem_singleton.1 hg];exact hf) (show List.length _<=1000000 from by simp))
 ·split
  ·refine ze9 (n:=900) (L:=60) (by decide) (fun g hg=>?_) (show List.length _<=1000000 from by simp)
   rcases List.mem_cons.1 hg with rfl | hg
   ·exact za0.okB_mono (by decide) (by decide) _ (zi8 hs (zbj hs act) (zeg hw act))
   ·rw [List.mem_singleton.1 hg];exact za0.okB_mono (by decide) (by decide) _ (put_ok (preT_ok hs hf hfw act) (preB_ok (zbj hs act) _))
  ·exact zhs _ _ _
theorem LStep (s:zar) (locs:List Int) (act:Int) (k:Nat) (hs:zba 3 s) (hw:zhk s) (hl:locs.length<=9223372036854775807) (hk:k<=4096):Fn Tryz.prog 13 [] [vG (zan s),(vIs locs),vi .i64 act,vi .i64 (k:Int)] (vF (zal s locs act k)) []:=by
 by_cases ha:act=-1
 ·subst ha;rw [show zal s locs (-1) k=_ from if_pos rfl];exact LStepM s locs k hs hw hl hk
 ·cases hb:(zac s locs act).2 with
  | true=>rw [show zal s locs act k=_ from (if_neg ha).trans (if_pos hb)];exact LStepS s locs act k ha hb hs hw hl hk
  | false=>rw [show zal s locs act k=_ from (if_neg ha).trans (if_neg (by rw [hb];exact Bool.noConfusion))];exact LStepN s locs act k ha hb hs hl
theorem LPre (s:zar) (act:Int) (f:za0) (hs:zba 3 s) (hw:zhk s) (hf:f.okB 20 3) (hfw:f.wid<=1000):Fn Tryz.prog 26 [] [vG (zan s),vi .i64 act,(vF f)] (vF (preF s act f)) []:=by
 by_cases ha:act=-1
 ·subst ha;rw [show preF s (-1) f=_ from if_pos rfl];exact LPreM s f hf hfw
 ·rw [show preF s act f=_ from if_neg ha];exact LPreS s act f ha hs hw hf hfw
theorem LCanK (s:zar) (act:Int) (k:Nat) (hs:zba 3 s) (hw:zhk s) (hk:k<=4096):Fn Tryz.prog 20 [] [vG (zan s),vi .i64 act,vi .i64 (k:Int)] (vF (zdh s act k)) []:=LCan s act k hs hw hk
def zdn:za0:=⟨2,⟨⟨[⟨0,ZI.of 1⟩],ZI.of (-3)⟩,false⟩,[]⟩
theorem ev0:za0.holds ([2].map ZI.of) (preF zbw 0 zdn)=true:=by kernel_rfl
theorem ev1:za0.holds ([1].map ZI.of) (preF zbw 0 zdn)=false:=by kernel_rfl
theorem ev2:za0.holds ([3].map ZI.of) (preF zbw 0 zdn)=false:=by kernel_rfl
theorem ev3:za0.holds ([1,2].map ZI.of) (zal zbw [0] 0 0)=true:=by kernel_rfl
theorem ev4:za0.holds ([1,1].map ZI.of) (zal zbw [0] 0 0)=false:=by kernel_rfl
theorem ev5:za0.holds ([3,4].map ZI.of) (zal zbw [0] 0 0)=false:=by kernel_rfl
theorem ev6:za0.holds ([2].map ZI.of) (zdh zbw 0 0)=true:=by kernel_rfl
theorem ev7:za0.holds ([3].map ZI.of) (zdh zbw 0 0)=false:=by kernel_rfl
theorem ev8:za0.holds ([0].map ZI.of) (atF zbw (zbf zbw [1]) 0)=true:=by kernel_rfl
theorem ev9:za0.holds ([0].map ZI.of) (atF zbw (zbf zbw [0]) 0)=false:=by kernel_rfl
theorem ev10:za0.holds ([9,3].map ZI.of) (atF zbw (zav zbw) 1)=true:=by kernel_rfl
theorem ev11:za0.holds ([0].map ZI.of) (atF zbw (zc7 [zbw.init,zav zbw]) 0)=true:=by kernel_rfl
theorem evp1:(zbv zbw [0] 0).1=[1]:=by kernel_rfl
theorem evp2:(zbv zbw [0] 0).2=true:=by kernel_rfl
theorem evp3:(zbv zbw [1] 0).2=false:=by kernel_rfl
theorem evp4:(zbv zbw [1] 0).1=[]:=by kernel_rfl
theorem vokE (ns:List Int) (hl:ns.length<=2000) (h:∀ z ∈ ns,-9223372036854775808<=z/\z<=9223372036854775807):VOk 3 (ns.map ZI.of):=⟨by rw [List.length_map];exact hl,fun y hy=>by
 obtain ⟨z,hz,rfl⟩:=List.mem_map.1 hy
 have:=h z hz
 exact ⟨ZI.lb_of _,Nat.le_trans (ZI.len_of (L:=2) (by have:=pw2;omega)) (by decide)⟩⟩
theorem zd8:zhk zbw:=⟨Nat.le_of_ble_eq_true (by kernel_rfl),fun c hc=>by rw [mem1 hc];exact Nat.le_of_ble_eq_true (by kernel_rfl)⟩
theorem three_few:zi4 zdn 20 3=true:=by kernel_rfl
theorem three_lb:zdn.lb:=(za0.lb_eq _).2 ⟨⟨⟨ZI.lb_of _,fun p hp=>by rw [mem1 hp];exact ZI.lb_of 1⟩,Nat.zero_le _⟩,fun g hg=>(by cases hg)⟩
theorem zef:zdn.okB 20 3/\zdn.wid<=60:=fewF_okB three_few three_lb
theorem LAlive :Fn Tryz.prog 7 [] [] (vb true) []:=by
 refine Fn.body Tryz.func7 rfl 137 rfl fun w H B a h=>Jq 0 [] [(0,vb false)] [] h fun a w h=>Jd 0 [(0,.call (SSys) mj9_0)] [] [(1,vp 0 0)] [(0,.box (zan zbw))] h fun a w h=>Jd 1 [(0,.call (SROf 1 ⟨by decide,by decide⟩) tc_0),(2,.g (bD 12 ([(za3.mk 0 (ZI.of 1))].map za3.d) [(11,vG ([cI 0]++zi (ZI.of 1)))] tb_9 (.cons (i:=0) (OV.tmp 11 _) (.nil)) (by kernel_rfl) (by simp [za3.d]))),(3,.call (SROf (-3) ⟨by decide,by decide⟩) tc_0)] [] [(2,vp 1 0)] [(0,.box (zan zbw)),(1,.box ([cI 2,cPs [(za3.mk 0 (ZI.of 1))]]++zi (ZI.of (-3))++[cB false,.d (.raw zaf)]))] h fun a w h=>Jd 2 [(2,.call (Fn.argw (LPre zbw 0 zdn zbn zd8 zef.1 (Nat.le_trans zef.2 (by decide))) (.cons _ _ _ _ (.refl _) (.cons _ _ _ _ (.refl _) (.cons _ _ _ _ (.agg _ _ (.same _ _ _ (.same _ _ _ (.same _ _ _ (.same _ _ _ (.same _ _ _ (.d _ _ _ _ (.nil _) .nil))))))) .nil)))) mj9_3)] [2] [(3,vp 2 0)] [(0,.box (zan zbw)),(2,.box (zF (preF zbw 0 zdn)))] h fun a w h=>Jd 3 [(1,.g (Op.buildD (d:=21) (len:=1) (rows:=[0].map zai) (rs:=[]) tb_0 (.cons (i:=0) (OV.const (.int .i64 0) rfl) (.nil)) (by kernel_rfl) rfl (by simp [zai]) (by decide) (by decide))),(2,.call (LStep zbw [0] 0 0 zbn zd8 (by decide) (by decide)) mj9_5)] [] [(4,vp 3 0)] [(0,.box (zan zbw)),(2,.box (zF (preF zbw 0 zdn))),(3,.box (zF (zal zbw [0] 0 0)))] h fun a w h=>Je 4 [(1,.g (Op.buildD (d:=25) (len:=1) (rows:=[0].map zai) (rs:=[]) tb_0 (.cons (i:=0) (OV.const (.int .i64 0) rfl) (.nil)) (by kernel_rfl) rfl (by simp [zai]) (by decide) (by decide))),(2,.call (Fn.cast (LPlaces zbw [0] 0 zbn (by decide)) (show (.tup [.c (cIs (zbv zbw [0] 0).1),.c (cB (zbv zbw [0] 0).2)]:V) = .tup [.c (cIs [1]),.c (cB true)] from by rw [evp1,evp2])) mj9_6)] [] [(5,(vIs [1])),(6,vb true)] h fun a w h=>Je 4 [(1,.g (Op.buildD (d:=31) (len:=1) (rows:=[1].map zai) (rs:=[]) tb_0 (.cons (i:=0) (OV.const (.int .i64 1) rfl) (.nil)) (by kernel_rfl) rfl (by simp [zai]) (by decide) (by decide))),(2,.call (Fn.cast (LPlaces zbw [1] 0 zbn (by decide)) (show (.tup [.c (cIs (zbv zbw [1] 0).1),.c (cB (zbv zbw [1] 0).2)]:V) = .tup [.c (cIs []),.c (cB false)] from by rw [evp4,evp3])) mj9_6)] [] [(8,vb false)] h fun a w h=>?_
 refine Jq 4 [(1,.g (Op.buildD (d:=36) (len:=1) (rows:=[2].map zai) (rs:=[]) to_1 (.cons (i:=0) (OV.const (.int .i64 2) rfl) (.nil)) (by kernel_rfl) rfl (by simp [zai]) (by decide) (by decide))),(2,.call (zj2 [2] (by decide) (by decide)) zix),(3,.call (Fn.cast (zj3 (preF zbw 0 zdn) ([2].map ZI.of) (M:=3) (by decide) (vokE _ (by decide) (by decide)) (za0.okB_mono (by decide) (by decide) _ (preK_ok zbn zd8 0 zef.1 (Nat.le_trans zef.2 (by decide))))) (show (vb (za0.holds ([2].map ZI.of) (preF zbw 0 zdn)):V)=vb true from by rw [ev0])) ziw),(6,.g (Op.buildD (d:=41) (len:=1) (rows:=[1].map zai) (rs:=[]) to_1 (.cons (i:=0) (OV.const (.int .i64 1) rfl) (.nil)) (by kernel_rfl) rfl (by simp [zai]) (by decide) (by decide))),(7,.call (zj2 [1] (by decide) (by decide)) zix),(8,.call (Fn.cast (zj3 (preF zbw 0 zdn) ([1].map ZI.of) (M:=3) (by decide) (vokE _ (by decide) (by decide)) (za0.okB_mono (by decide) (by decide) _ (preK_ok zbn zd8 0 zef.1 (Nat.le_trans zef.2 (by decide))))) (show (vb (za0.holds ([1].map ZI.of) (preF zbw 0 zdn)):V)=vb false from by rw [ev1])) ziw),(13,.g (Op.buildD (d:=48) (len:=1) (rows:=[3].map zai) (rs:=[]) to_1 (.cons (i:=0) (OV.const (.int .i64 3) rfl) (.nil)) (by kernel_rfl) rfl (by simp [zai]) (by decide) (by decide))),(14,.call (zj2 [3] (by decide) (by decide)) zix),(15,.call (Fn.cast (zj3 (preF zbw 0 zdn) ([3].map ZI.of) (M:=3) (by decide) (vokE _ (by decide) (by decide)) (za0.okB_mono (by decide) (by decide) _ (preK_ok zbn zd8 0 zef.1 (Nat.le_trans zef.2 (by decide))))) (show (vb (za0.holds ([3].map ZI.of) (preF zbw 0 zdn)):V)=vb false from by rw [ev2])) ziw),(20,.g (Op.buildD (d:=55) (len:=2) (rows:=[1,2].map zai) (rs:=[]) to_1 (.cons (i:=0) (OV.const (.int .i64 1) rfl) (.cons (i:=1) (OV.const (.int .i64 2) rfl) (.nil))) (by kernel_rfl) rfl (by simp [zai]) (by decide) (by decide))),(21,.call (zj2 [1,2] (by decide) (by decide)) zix),(22,.call (Fn.cast (zj3 (zal zbw [0] 0 0) ([1,2].map ZI.of) (M:=3) (by decide) (vokE _ (by decide) (by decide)) (za0.okB_mono (by decide) (by decide) _ (zj7 zbn zd8 [0] 0 0))) (show (vb (za0.holds ([1,2].map ZI.of) (zal zbw [0] 0 0)):V)=vb true from by rw [ev3])) ziw),(26,.g (Op.buildD (d:=61) (len:=2) (rows:=[1,1].map zai) (rs:=[]) to_1 (.cons (i:=0) (OV.const (.int .i64 1) rfl) (.cons (i:=1) (OV.const (.int .i64 1) rfl) (.nil))) (by kernel_rfl) rfl (by simp [zai]) (by decide) (by decide))),(27,.call (zj2 [1,1] (by decide) (by decide)) zix),(28,.call (Fn.cast (zj3 (zal zbw [0] 0 0) ([1,1].map ZI.of) (M:=3) (by decide) (vokE _ (by decide) (by decide)) (za0.okB_mono (by decide) (by decide) _ (zj7 zbn zd8 [0] 0 0))) (show (vb (za0.holds ([1,1].map ZI.of) (zal zbw [0] 0 0)):V)=vb false from by rw [ev4])) ziw),(33,.g (Op.buildD (d:=68) (len:=2) (rows:=[3,4].map zai) (rs:=[]) to_1 (.cons (i:=0) (OV.const (.int .i64 3) rfl) (.cons (i:=1) (OV.const (.int .i64 4) rfl) (.nil))) (by kernel_rfl) rfl (by simp [zai]) (by decide) (by decide))),(34,.call (zj2 [3,4] (by decide) (by decide)) zix),(35,.call (Fn.cast (zj3 (zal zbw [0] 0 0) ([3,4].map ZI.of) (M:=3) (by decide) (vokE _ (by decide) (by decide)) (za0.okB_mono (by decide) (by decide) _ (zj7 zbn zd8 [0] 0 0))) (show (vb (za0.holds ([3,4].map ZI.of) (zal zbw [0] 0 0)):V)=vb false from by rw [ev5])) ziw),(40,.call (LCanK zbw 0 0 zbn zd8 (by decide)) zig),(41,.g (Op.buildD (d:=76) (len:=1) (rows:=[2].map zai) (rs:=[]) to_1 (.cons (i:=0) (OV.const (.int .i64 2) rfl) (.nil)) (by kernel_rfl) rfl (by simp [zai]) (by decide) (by decide))),(42,.call (zj2 [2] (by decide) (by decide)) zix),(43,.call (Fn.cast (zj3 (zdh zbw 0 0) ([2].map ZI.of) (M:=3) (by decide) (vokE _ (by decide) (by decide)) (za0.okB_mono (by decide) (by decide) _ (canK_ok zbn zd8 0 0))) (show (vb (za0.holds ([2].map ZI.of) (zdh zbw 0 0)):V)=vb true from by rw [ev6])) ziw),(47,.call (LCanK zbw 0 0 zbn zd8 (by decide)) zig),(48,.g (Op.buildD (d:=83) (len:=1) (rows:=[3].map zai) (rs:=[]) to_1 (.cons (i:=0) (OV.const (.int .i64 3) rfl) (.nil)) (by kernel_rfl) rfl (by simp [zai]) (by decide) (by decide))),(49,.call (zj2 [3] (by decide) (by decide)) zix),(50,.call (Fn.cast (zj3 (zdh zbw 0 0) ([3].map ZI.of) (M:=3) (by decide) (vokE _ (by decide) (by decide)) (za0.okB_mono (by decide) (by decide) _ (canK_ok zbn zd8 0 0))) (show (vb (za0.holds ([3].map ZI.of) (zdh zbw 0 0)):V)=vb false from by rw [ev7])) ziw),(55,.g (Op.buildD (d:=90) (len:=1) (rows:=[1].map zai) (rs:=[]) tb_0 (.cons (i:=0) (OV.const (.int .i64 1) rfl) (.nil)) (by kernel_rfl) rfl (by simp [zai]) (by decide) (by decide))),(56,.call (LStuck zbw [1] 0 zbn zd8 (by decide) (by decide)) mj9_11),(57,.g (Op.buildD (d:=92) (len:=1) (rows:=[0].map zai) (rs:=[]) to_1 (.cons (i:=0) (OV.const (.int .i64 0) rfl) (.nil)) (by kernel_rfl) rfl (by simp [zai]) (by decide) (by decide))),(58,.call (zj2 [0] (by decide) (by decide)) zix),(59,.call (Fn.cast (zj3 (atF zbw (zbf zbw [1]) 0) ([0].map ZI.of) (M:=3) (by decide) (vokE _ (by decide) (by decide)) (za0.okB_mono (by decide) (by decide) _ (stuckK_ok zbn zd8 [1] 0))) (show (vb (za0.holds ([0].map ZI.of) (atF zbw (zbf zbw [1]) 0)):V)=vb true from by rw [ev8])) ziw),(63,.g (Op.buildD (d:=98) (len:=1) (rows:=[0].map zai) (rs:=[]) tb_0 (.cons (i:=0) (OV.const (.int .i64 0) rfl) (.nil)) (by kernel_rfl) rfl (by simp [zai]) (by decide) (by decide))),(64,.call (LStuck zbw [0] 0 zbn zd8 (by decide) (by decide)) mj9_11),(65,.g (Op.buildD (d:=100) (len:=1) (rows:=[0].map zai) (rs:=[]) to_1 (.cons (i:=0) (OV.const (.int .i64 0) rfl) (.nil)) (by kernel_rfl) rfl (by simp [zai]) (by decide) (by decide))),(66,.call (zj2 [0] (by decide) (by decide)) zix),(67,.call (Fn.cast (zj3 (atF zbw (zbf zbw [0]) 0) ([0].map ZI.of) (M:=3) (by decide) (vokE _ (by decide) (by decide)) (za0.okB_mono (by decide) (by decide) _ (stuckK_ok zbn zd8 [0] 0))) (show (vb (za0.holds ([0].map ZI.of) (atF zbw (zbf zbw [0]) 0)):V)=vb false from by rw [ev9])) ziw),(72,.call (LRange zbw 1 zbn (by decide)) mg6_13),(73,.g (Op.buildD (d:=108) (len:=2) (rows:=[9,3].map zai) (rs:=[]) to_1 (.cons (i:=0) (OV.const (.int .i64 9) rfl) (.cons (i:=1) (OV.const (.int .i64 3) rfl) (.nil))) (by kernel_rfl) rfl (by simp [zai]) (by decide) (by decide))),(74,.call (zj2 [9,3] (by decide) (by decide)) zix),(75,.call (Fn.cast (zj3 (atF zbw (zav zbw) 1) ([9,3].map ZI.of) (M:=3) (by decide) (vokE _ (by decide) (by decide)) (za0.okB_mono (by decide) (by decide) _ (rngK_ok zbn 1))) (show (vb (za0.holds ([9,3].map ZI.of) (atF zbw (zav zbw) 1)):V)=vb true from by rw [ev10])) ziw),(79,.call (LStart zbw 0 zbn zd8 (by decide)) mj9_13),(80,.g (Op.buildD (d:=115) (len:=1) (rows:=[0].map zai) (rs:=[]) to_1 (.cons (i:=0) (OV.const (.int .i64 0) rfl) (.nil)) (by kernel_rfl) rfl (by simp [zai]) (by decide) (by decide))),(81,.call (zj2 [0] (by decide) (by decide)) zix),(82,.call (Fn.cast (zj3 (atF zbw (zc7 [zbw.init,zav zbw]) 0) ([0].map ZI.of) (M:=3) (by decide) (vokE _ (by decide) (by decide)) (za0.okB_mono (by decide) (by decide) _ (startK_ok zbn zd8 0))) (show (vb (za0.holds ([0].map ZI.of) (atF zbw (zc7 [zbw.init,zav zbw]) 0)):V)=vb true from by rw [ev11])) ziw),(89,.len (za6 1 zai ([1]))),(90,.cmp (op:=.eql) (m:=([1].length:Int)) (n:=1) (b:=true) .i64 (show (([1].length:Int) == 1)=true from by decide)),(94,.g (xD 129 128 zfm (zab (show [(1:Int)][0]?=some 1 from rfl) (f:=zai)) (OV.const (.int .i64 0) rfl))),(96,.cmp (op:=.eql) (m:=1) (n:=1) (b:=true) .i64 (show ((1:Int) == 1)=true from by decide))] [(0,vb true)] [] h fun a w h=>?_;refine qV (rT (.c (cB true)) h rfl ?_);rfl
theorem wid_tru (b:Bool):(zcq b).wid=3:=by rw [za0.wid_eq];cases b <;> rfl
theorem zj5 (r:zb0):(zd7 r).wid=3:=by rw [za0.wid_eq];rfl
theorem wid_ge (f:za0):3<=f.wid:=by rw [za0.wid_eq];omega
theorem wid_each (t:zb0->zb0) (f:za0):(f.each t).wid<=f.wid :=
 za0.ind (P:=fun f=>(f.each t).wid<=f.wid) (fun k r ks ih=>by
  rw [za0.each_eq]
  show (zee t k r (ks.map (za0.each t))).wid<=(⟨k,r,ks⟩:za0).wid
  unfold zee
  split
  ·rw [wid_tru];exact wid_ge _
  ·split
   ·refine Nat.le_trans (Nat.le_of_eq ?_) (wid_ge _);rw [za0.wid_eq];rfl
   ·split
    ·rw [za0.wid_eq,za0.wid_eq]
     show 3+((cnt k (cnt k (ks.map (za0.each t)))).map za0.wid).sum<=3+((cnt k ks).map za0.wid).sum
     rw [cnt_cnt,zci,List.map_map]
     have:=sum_le (F:=za0.wid ∘ za0.each t) (G:=za0.wid) (xs:=cnt k ks) fun g hg=>ih g (zb3 hg)
     omega
    ·rw [wid_tru];exact wid_ge _) f
theorem wid_cl (f:za0):f.cl.wid<=f.wid:=wid_each id f
theorem wid_at (s:zar) (f:za0) (k:Nat):(atF s f k).wid<=f.wid:=wid_each _ f
theorem zhl (fs:List za0):(zc7 fs).wid<=3+(fs.map za0.wid).sum:=by
 rw [za0.wid_eq]
 show 3+((cnt 4 (fs.map za0.cl)).map za0.wid).sum<=_
 rw [show cnt (4:Int) (fs.map za0.cl)=fs.map za0.cl from by unfold cnt;rw [if_pos (.inl rfl)],List.map_map]
 have:=sum_le (F:=za0.wid ∘ za0.cl) (G:=za0.wid) (xs:=fs) fun g _=>wid_cl g
 omega
theorem wid_deny (f:za0):(denyF f).wid<=3+f.wid:=by
 rw [za0.wid_eq]
 show 3+((cnt 3 [f.cl]).map za0.wid).sum<=_
 rw [show cnt (3:Int) [f.cl]=[f.cl] from by unfold cnt;rw [if_neg (by decide),if_pos rfl];rfl]
 have:=wid_cl f
 simp only [List.map_cons,List.map_nil,List.sum_cons,List.sum_nil];omega
theorem zj4 {F:Nat->List za0} {w:Nat} (h:∀ v,((F v).map za0.wid).sum<=w) (n:Nat):(((List.range n).flatMap F).map za0.wid).sum<=n*w:=by
 induction n with
 | zero=>simp
 | succ n ih=>rw [zbr,List.map_append,List.sum_append,Nat.succ_mul];have:=h n;omega
theorem wid_bnd (s:zar) (v:Nat) (t:zak):((zi9 s v t).map za0.wid).sum<=6:=by
 unfold zi9;split
 ·simp only [List.map_cons,List.map_nil,List.sum_cons,List.sum_nil];unfold geF leF;rw [zj5,zj5];decide
 ·exact Nat.zero_le _
theorem wid_rng {s:zar} (hs:zba 3 s):(zav s).wid<=51:=by
 have:=zhl ((List.range s.vars.length).flatMap (rngS s))
 have h2:=zj4 (F:=rngS s) (w:=6) (fun v=>wid_bnd s v _) s.vars.length
 have:=hs.vars
 unfold zav;omega
theorem wid_can {s:zar} (hs:zba 3 s) {c:zbi} (hg:c.guard.wid<=100):(zgu s c).wid<=151:=by
 have h1:=zhl (canL s c)
 have h2:=zj4 (F:=ze8 s c) (w:=6) (fun v=>by
  unfold ze8;split
  ·exact wid_bnd s v _
  ·split
   ·simp only [List.map_cons,List.map_nil,List.sum_cons,List.sum_nil];unfold leF;rw [zj5];decide
   ·exact Nat.zero_le _) s.vars.length
 have:=hs.vars
 unfold canL at h1
 rw [List.map_cons,List.sum_cons] at h1
 unfold zgu canL;omega
theorem wid_stk {s:zar} (hs:zba 3 s) (hw:zhk s) (locs:List Int):(zbf s locs).wid<=3083:=by
 have h1:=zhl ((List.range s.acts.length).flatMap (zfn s locs))
 have h2:=zj4 (F:=zfn s locs) (w:=154) (fun v=>by
  unfold zfn;split
  ·simp only [List.map_cons,List.map_nil,List.sum_cons,List.sum_nil]
   have:=wid_deny (zgu s (zac s locs (v:Int)).1)
   have:=wid_can hs (c:=(zac s locs (v:Int)).1) (zeg hw _)
   omega
  ·exact Nat.zero_le _) s.acts.length
 have:=hs.acts
 unfold zbf;omega
theorem wid_stpL {s:zar} (hs:zba 3 s) (h:za0) (c:zbi):((zer s h c).map za0.wid).sum<=h.wid+24:=by
 have h2:=zj4 (F:=zd9 s c) (w:=3) (fun v=>by
  unfold zd9;split
  ·simp only [List.map_cons,List.map_nil,List.sum_cons,List.sum_nil];unfold samF;rw [zj5];decide
  ·exact Nat.zero_le _) s.vars.length
 have:=hs.vars
 unfold zer;rw [List.map_cons,List.sum_cons];omega
theorem wid_rngK {s:zar} (hs:zba 3 s) (k:Nat):(atF s (zav s) k).wid<=20000:=Nat.le_trans (wid_at s _ k) (Nat.le_trans (wid_rng hs) (by decide))
theorem wid_startK {s:zar} (hs:zba 3 s) (hw:zhk s) (k:Nat):(atF s (zc7 [s.init,zav s]) k).wid<=20000:=by
 refine Nat.le_trans (wid_at s _ k) (Nat.le_trans (zhl _) ?_)
 simp only [List.map_cons,List.map_nil,List.sum_cons,List.sum_nil]
 have:=wid_rng hs;have:=hw.1;omega
theorem wid_stuckK {s:zar} (hs:zba 3 s) (hw:zhk s) (locs:List Int) (k:Nat):(atF s (zbf s locs) k).wid<=20000:=Nat.le_trans (wid_at s _ k) (Nat.le_trans (wid_stk hs hw locs) (by decide))
theorem wid_canK {s:zar} (hs:zba 3 s) (hw:zhk s) (act:Int) (k:Nat):(zdh s act k).wid<=20000:=by
 unfold zdh;split
 ·exact Nat.le_trans (wid_at s _ k) (Nat.le_trans (wid_can hs (zeg hw act)) (by decide))
 ·rw [wid_tru];decide
theorem wid_stepK {s:zar} (hs:zba 3 s) (hw:zhk s) (locs:List Int) (act:Int) (k:Nat):(zal s locs act k).wid<=20000:=by
 unfold zal;split
 ·refine Nat.le_trans (wid_at s _ k) (Nat.le_trans (zhl _) ?_)
  have:=wid_stpL hs (zbf s locs) (zac s locs (-1)).1;have:=wid_stk hs hw locs;omega
 ·split
  ·refine Nat.le_trans (wid_at s _ k) (Nat.le_trans (zhl _) ?_)
   rw [List.map_append,List.sum_append]
   have h1:=wid_stpL hs (zac s locs act).1.guard (zac s locs act).1
   have h2:(zac s locs act).1.guard.wid<=100:=zeg hw act
   have h3:=wid_at s (zav s) 1;have h4:=wid_rng hs
   simp only [List.map_cons,List.map_nil,List.sum_cons,List.sum_nil];omega
  ·rw [wid_tru];decide
theorem few_wid {f:za0} {n:Int} (hn:0<=n) (hn2:n<=30) (h:zi4 f n 3=true):f.wid<=100:=by
 unfold zi4 at h
 rw [Bool.and_eq_true] at h
 have h1:f.size n<=n:=by have:=h.1;simpa using this
 have hw:=size_wid f n hn h1
 omega
theorem few_w {s:zar} (h:zbh 3 s=true):zhk s:=by
 unfold zbh at h
 simp only [Bool.and_eq_true,decide_eq_true_eq,List.all_eq_true] at h
 refine ⟨few_wid (by decide) (by decide) h.1.2,fun c hc=>?_⟩
 have:=h.2.2 c hc
 unfold fewA at this
 simp only [Bool.and_eq_true] at this
 first | exact few_wid (by decide) (by decide) this.1.2 | exact few_wid (by decide) (by decide) this.1 | exact few_wid (by decide) (by decide) this.2.1 | exact few_wid (by decide) (by decide) this.1.1
theorem smB_sys {s:zar} {xs:List StD} (h:smB s xs=true) (hs:SysRd s):zba 3 s/\zhk s:=by
 unfold smB at h
 rw [Bool.and_eq_true] at h
 exact ⟨few_sys h.2 hs,few_w h.2⟩
theorem mo2_0:za4 Tryz.prog 7:=za4.mk' (by kernel_rfl)
theorem mo2_2:za4 Tryz.prog 8:=za4.mk' (by kernel_rfl)
theorem mo2_3:za4 Tryz.prog 9:=za4.mk' (by kernel_rfl)
theorem mo2_11:za4 Tryz.prog 28:=za4.mk' (by kernel_rfl)
theorem snd_idx {s:zar} {i:Int} (h:(za8 s i).2=true):0<=i/\i<(s.acts.length:Int):=by
 unfold za8 at h
 cases e:zf2 s i with
 | none=>rw [e] at h;cases h
 | some c=>obtain ⟨k,rfl,hk⟩:=zia e;have:=zaj hk;omega
theorem snd_at {s:zar} {k:Nat} {c:zbi} (h:s.acts[k]?=some c):(za8 s (k:Int)).1=c:=by
 unfold za8 zf2;rw [if_pos (by omega),Int.toNat_natCast,h]
def zc1 (s:zar) (locs:List Int) (act:Int) (k:Nat):List za0:=[zal s locs act k,zdh s act k,atF s (zbf s locs) k,atF s (zav s) k,atF s (zc7 [s.init,zav s]) k]
def mkA (k:Nat) (c:zbi):zbi:=⟨(k:Int),c.from_,c.to_,c.guard,c.moves⟩
theorem zh1 {s:zar} {locs:List Int} {act:Int} (ha:act≠-1) (hb:(zac s locs act).2=false):zbv s locs act=([],false):=by unfold zbv;rw [if_neg ha,if_neg (by rw [hb];exact Bool.noConfusion)]
theorem plc_two {s:zar} {locs:List Int} {act:Int} (ha:act≠-1):(zbv s locs act).2=(zac s locs act).2:=by
 unfold zbv;rw [if_neg ha]
 cases e:(zac s locs act).2 with
 | true=>rw [if_pos rfl]
 | false=>rw [if_neg Bool.noConfusion]
theorem stp_no {s:zar} {locs:List Int} {act:Int} {k:Nat} (ha:act≠-1) (hb:(zac s locs act).2=false):zal s locs act k=zcq false:=(if_neg ha).trans (if_neg (by rw [hb];exact Bool.noConfusion))
theorem can_no {s:zar} {act:Int} {k:Nat} (h:(za8 s act).2=false):zdh s act k=zcq false:=if_neg (by rw [h];exact Bool.noConfusion)
theorem beg_val {s:zar} {locs:List Int} {ka:Nat} {c:zbi} (hka:s.acts[ka]?=some c) (hsd:(za8 s (ka:Int)).2=true):(zac s locs (ka:Int)).2=begB s locs c:=by
 show ((za8 s (ka:Int)).2 && begB s locs (za8 s (ka:Int)).1)=_
 rw [hsd,Bool.true_and,snd_at hka]
theorem beg_len {s:zar} {locs:List Int} {ka:Nat} {c:zbi} (hka:s.acts[ka]?=some c) (hsd:(za8 s (ka:Int)).2=true) (h:¬ locs.length=s.procs.length):(zac s locs (ka:Int)).2=false:=by
 rw [beg_val hka hsd];unfold begB;rw [decide_eq_false h,Bool.false_and]
theorem beg_at {s:zar} {locs:List Int} {ka kp:Nat} {c:zbi} {x:Int} (hka:s.acts[ka]?=some (mkA kp c)) (hsd:(za8 s (ka:Int)).2=true) (h:locs.length=s.procs.length) (hx:locs[kp]?=some x):(zac s locs (ka:Int)).2=(x == c.from_):=by
 rw [beg_val hka hsd];unfold begB;rw [decide_eq_true h,Bool.true_and]
 show ((locs[((kp:Int)).toNat]?).getD 0 == c.from_)=_
 rw [Int.toNat_natCast,hx];rfl
theorem plc_yes {s:zar} {locs:List Int} {ka kp:Nat} {c:zbi} (hka:s.acts[ka]?=some (mkA kp c)) (hb:(zac s locs (ka:Int)).2=true):(zbv s locs (ka:Int)).1=locs.set kp c.to_:=by
 unfold zbv
 rw [if_neg (by omega),if_pos hb]
 show locs.set (za8 s (ka:Int)).1.proc.toNat (za8 s (ka:Int)).1.to_=_
 rw [snd_at hka]
 show locs.set ((kp:Int)).toNat c.to_=_
 rw [Int.toNat_natCast]
theorem set_yes {l:List Int} {i p:Nat} {x t:Int} (h:l[i]?=some x) (e:i=p):(l.set p t)[i]?=some t:=by
 subst e;exact List.getElem?_set_self (List.getElem?_eq_some_iff.1 h).1
theorem set_no {l:List Int} {i p:Nat} {x t:Int} (h:l[i]?=some x) (e:i≠p):(l.set p t)[i]?=some x:=(List.getElem?_set_ne (Ne.symm e)).trans h
theorem five_ok {s:zar} (hs:zba 3 s) (hw:zhk s) (locs:List Int) (act:Int) (k:Nat):∀ f ∈ zc1 s locs act k,f.okB 40 400/\f.wid<=20000:=fun f hf=>by
 have m {g:za0} (h:g.okB 40 203):g.okB 40 400:=za0.okB_mono (by decide) (by decide) _ h
 simp only [zc1,List.mem_cons,List.not_mem_nil,or_false] at hf
 rcases hf with rfl | rfl | rfl | rfl | rfl
 ·exact ⟨m (zj7 hs hw _ _ _),wid_stepK hs hw _ _ _⟩
 ·exact ⟨m (canK_ok hs hw _ _),wid_canK hs hw _ _⟩
 ·exact ⟨m (stuckK_ok hs hw _ _),wid_stuckK hs hw _ _⟩
 ·exact ⟨m (rngK_ok hs _),wid_rngK hs _⟩
 ·exact ⟨m (startK_ok hs hw _),wid_startK hs hw _⟩
theorem five_in {s:zar} (hp:ProS s) (locs:List Int) (act:Int) {k mkv i:Nat} {f:za0} (hv:s.vars.length<=8) (hk:k<=4096) (hm:mkv=k*s.vars.length) (h:(zc1 s locs act k)[i]?=some f) :
  ∀ v ∈ f.vars,(mkv:Int)<=v/\v<(mkv:Int)+(s.vars.length:Int)+(if i=0 then (s.vars.length:Int) else 0):=fun v hx=>by
 subst hm
 match i,h with
 | 0,h=>cases h;have:=step_in hp locs act hv hk v hx;rw [if_pos rfl];omega
 | 1,h=>cases h;have:=can_in hp act hv hk v hx;rw [if_neg (by decide)];omega
 | 2,h=>cases h;have:=stuck_in hp locs hv hk v hx;rw [if_neg (by decide)];omega
 | 3,h=>cases h;have:=range_in hv hk v hx;rw [if_neg (by decide)];omega
 | 4,h=>cases h;have:=start_in hp hv hk v hx;rw [if_neg (by decide)];omega
 | (n+5),h=>cases h
theorem LWpPlacesM (s:zar) (locs:List Int) (k:Int) (hs:SysRd s) (hll9:locs.length<=9223372036854775807):Fn Tryz.prog 6 [] [vG (zan s),(vIs locs),vI (-1),vI k] (vb true) []:=by
 refine Fn.body Tryz.func6 rfl 209 rfl fun w H B a h=>Jq 18 [] [(1,(vIs locs)),(2,vI (-1)),(3,vI k),(4,vp 18 0),(8,vb false)] [(18,.box (zan s))] h fun a w h=>qW (Je 19 [(0,.call (LAlive) mo2_0)] [] [(21,vb false)] h fun a w h=>zap false h rfl nofun (fun _=>qU (za1 (qW ?_))))
 rcases Bool.eq_false_or_eq_true (smB s []) with hc1 | hc12
 ·obtain ⟨hs3,hw9⟩:=smB_sys hc1 hs;have lvs:=hs3.vars
  rcases Bool.eq_false_or_eq_true (proB s) with hc2 | hc11
  ·refine Je 19 [(1,.call (Fn.cast (Fn.argw (zhi s [] hs (by intro x_ hx_;cases hx_) (by simp)) (.cons _ _ _ _ (.refl _) (.cons _ _ _ _ (.c _ _ (.nil _)) .nil))) (congrArg vb hc1)) mo2_2),(5,.call (Fn.cast (zib s hs3 hw9) (congrArg vb hc2)) mo2_3),(10,.len (za6 1 zai locs))] [21] [(34,vb (decide ((locs.length:Int)>10)))] h fun a w h=>zam ((locs.length:Int)>10) h (fun hc3 hc3'=>?_) (fun hc4 hc4'=>?_)
   ·refine Je 19 [] [34] [(8,vb true)] h fun a w h=>qV (za7 (rT (.c (cB true)) h rfl ?_));rfl
   have lln:locs.length<=10:=by have:=dF hc4;omega
   refine qU (za1 (Je 19 [(1,.g (Op.mask (d:=36) (xt:=3) (yt:=3) (m:=k) (n:=7) (r:=(k % 8)) 3 (OV.tmp 35 _) (OV.const (.int .i64 7) rfl) (by decide) (by decide) (by rw [show ((2 ^ 3:Nat):Int)=8 from rfl])))] [34] [(3,vI (k % 8))] h fun a w h=>?_));have hk0:0<=k % 8/\k % 8<8:=⟨Int.emod_nonneg _ (by decide),Int.emod_lt_of_pos _ (by decide)⟩;obtain ⟨kk,hkkk⟩:∃ k_:Nat,k % 8=(k_:Int):=⟨_,(Int.toNat_of_nonneg (by omega)).symm⟩;replace h:=h.conv (f':=F.of [(1,(vIs locs)),(2,vI (-1)),(3,vN kk),(4,vp 18 0),(8,vb false)] [(18,.box (zan s))]) (by rw [hkkk];kernel_rfl);obtain ⟨mkv,hmkv⟩:∃ z_:Nat,z_=kk*s.vars.length:=⟨_,rfl⟩;have hmk2:mkv<=8*8:=by rw [hmkv];exact Nat.mul_le_mul (by omega) lvs
   have hmk3:(kk:Int)*(s.vars.length:Int)=(mkv:Int):=by rw [hmkv,Int.natCast_mul]
   refine Jq 19 [(2,.len (za6 1 zfj s.vars))] [(1,(vIs locs)),(2,vI (-1)),(3,vN kk),(4,vp 18 0),(8,vb false),(9,vN s.vars.length)] [(18,.box (zan s))] h fun a w h=>Je 19 [(3,.call (Fn.cast (LPlaces s locs (-1) hs3 (by omega)) (show (.tup [.c (cIs (zbv s locs (-1)).1),.c (cB (zbv s locs (-1)).2)]:V) = .tup [.c (cIs locs),.c (cB true)] from rfl)) mj9_6)] [] [(10,(vIs locs)),(11,vb true)] h fun a w h=>Je 19 [(2,.call (Fn.cast (Lsnd s (-1) hs3) (show (vb (za8 s (-1)).2:V)=vb false from rfl)) mo2_11)] [] [(12,vb false)] h fun a w h=>Je 19 [] [] [] h fun a w h=>Jd 19 [(4,.call (LStep s locs (-1) kk hs3 hw9 (by omega) (by omega)) mj9_5)] [] [(13,vp 19 0)] [(18,.box (zan s)),(19,.box (zF (zal s locs (-1) kk)))] h fun a w h=>qW (Je 20 [(1,.cmp (op:=.eql) (m:=(-1)) (n:=(-1)) (b:=true) .i64 rfl)] [] [(83,vb true)] h fun a w h=>cS true h (fun _=>?_) nofun);refine Je 20 [(5,.call (Fn.cast (LSameI locs locs (by omega) (by omega)) (congrArg vb (decide_eq_true (rfl:locs=locs)))) ua_14)] [10,11,12,83] [(91,vb false)] h fun a w h=>zap false h rfl nofun (fun _=>qU (za1 (qW (Jd 20 [(4,.call (LCanK s (-1) kk hs3 hw9 (by omega)) zig),(8,.call (LStuck s locs kk hs3 hw9 (by omega) (by omega)) mj9_11),(11,.call (LRange s kk hs3 (by omega)) mg6_13),(14,.call (LStart s kk hs3 hw9 (by omega)) mj9_13),(15,.g (Op.buildD (d:=168) (len:=5) (rows:=[(zal s locs (-1) kk),(zdh s (-1) kk),(atF s (zbf s locs) kk),(atF s (zav s) kk),(atF s (zc7 [s.init,zav s]) kk)].map za0.d) (rs:=[(153,(vF (zal s locs (-1) kk))),(157,(vF (zdh s (-1) kk))),(161,(vF (atF s (zbf s locs) kk))),(164,(vF (atF s (zav s) kk))),(167,(vF (atF s (zc7 [s.init,zav s]) kk)))]) zh7 (.cons (i:=0) (OV.tmp 153 _) (.cons (i:=1) (OV.tmp 157 _) (.cons (i:=2) (OV.tmp 161 _) (.cons (i:=3) (OV.tmp 164 _) (.cons (i:=4) (OV.tmp 167 _) (.nil)))))) (by simp only [List.map_cons,List.map_nil,List.flatten_cons,List.flatten_nil,List.append_nil,za0.d_eq];kernel_rfl) rfl (by simp [za0.d_len]) (by decide) (by decide))),(16,.len (za6 6 za0.d ([(zal s locs (-1) kk),(zdh s (-1) kk),(atF s (zbf s locs) kk),(atF s (zav s) kk),(atF s (zc7 [s.init,zav s]) kk)])))] [1,2,4,13,91] [(168,(vFs [(zal s locs (-1) kk),(zdh s (-1) kk),(atF s (zbf s locs) kk),(atF s (zav s) kk),(atF s (zc7 [s.init,zav s]) kk)])),(169,vI ([(zal s locs (-1) kk),(zdh s (-1) kk),(atF s (zbf s locs) kk),(atF s (zav s) kk),(atF s (zc7 [s.init,zav s]) kk)].length:Int)),(170,vI 0)] [] h fun a w h=>qZ ?_))))
   have hf5:(zc1 s locs (-1) kk).length=5:=rfl;replace h:=h.conv (f':=F.of [(3,vN kk),(8,vb false),(9,vN s.vars.length),(168,(vFs (zc1 s locs (-1) kk))),(169,vN 5),(170,vI 0)] []) (by rfl)
   refine zaq (ι:=(Nat)) (fun i=>i<=5)
     (fun i=>[(3,vN kk),(9,vN s.vars.length),(168,(vFs (zc1 s locs (-1) kk))),(169,vN 5),(170,vN i)])
     (fun i=>[])
     (fun i=>5 - i) 0 ?_ h (by kernel_rfl) (by kernel_rfl) ?_
   ·exact Nat.zero_le _
   clear h;rintro i a w hI h;refine Jd 20 [] [] [(171,vb (decide ((i:Int)<(5:Int))))] [] h fun a w h=>qW (zam ((i:Int)<(5:Int)) h (fun hc5 hc5'=>?_) (fun hc10 hc10'=>?_))
   ·refine qU (za1 (qW (qZ ?_)));obtain ⟨x15,hx15⟩:=gl (zc1 s locs (-1) kk) i;have hokx15:=five_ok hs3 hw9 locs (-1) kk x15 (lM hx15);have hinx15:=five_in (pro_of hc2) locs (-1) lvs (show kk<=4096 by omega) hmkv hx15;have lvfx15:=zf4 x15 hokx15.1;refine Jd 20 [(1,.g (xD 173 168 ziz ((zab hx15 (f:=za0.d)).trans (congrArg some (za0.d_eq x15))) (OV.tmp 170 _)))] [171] [(16,vN i),(17,vp 20 0)] [(20,.box (zF x15))] h fun a w h=>Jd 21 [(1,.call (zic x15 hokx15.1 hokx15.2) mf5_8)] [17] [(18,(vIs (za0.vars x15)))] [] h fun a w h=>Jd 21 [(1,.add .i64 (m:=(kk:Int)) (n:=1) i6),(3,.g (Op.arith (op:=.mul) (d:=180) (xt:=3) (yt:=3) (k:=.i64) (m:=((kk:Int)+1)) (n:=(s.vars.length:Int)) (r:=((mkv:Int)+(s.vars.length:Int))) (OV.tmp 178 _) (OV.tmp 179 _) (.inr (.inr ⟨rfl,(show _=_ from by rw [Int.add_mul,Int.one_mul,hmk3])⟩)) i6))] [] [(19,vI ((mkv:Int)+(s.vars.length:Int)))] [] h fun a w h=>midH h [(3,vN kk),(9,vN s.vars.length),(18,(vIs (za0.vars x15))),(19,vI ((mkv:Int)+(s.vars.length:Int)+(if i=0 then (s.vars.length:Int) else 0))),(168,(vFs (zc1 s locs (-1) kk))),(169,vN 5),(170,vN i)] [] ?_ (fun a w h=>?_)
    ·refine Jd 21 [] [16] [(182,vb ((i:Int) == 0))] [] h fun a w h=>cS ((i:Int) == 0) h (fun hc6=>?_) (fun hc7=>?_)
     ·have hc6':=hc6;(try simp at hc6');refine Jm 21 [(2,.add .i64 (m:=((mkv:Int)+(s.vars.length:Int))) (n:=(s.vars.length:Int)) i6)] [182] [(19,vI (((mkv:Int)+(s.vars.length:Int))+(s.vars.length:Int)))] [] h fun a w h=>za1 ?_;have hcn:((mkv:Int)+(s.vars.length:Int)+(if i=0 then (s.vars.length:Int) else 0))=((mkv:Int)+(s.vars.length:Int))+(s.vars.length:Int):=by have h8:=hc6;simp at h8;rw [if_pos (by omega)]
      replace h:=h.conv (f':=F.of [(3,vN kk),(9,vN s.vars.length),(18,(vIs (za0.vars x15))),(19,vI ((mkv:Int)+(s.vars.length:Int)+(if i=0 then (s.vars.length:Int) else 0))),(168,(vFs (zc1 s locs (-1) kk))),(169,vN 5),(170,vN i)] []) (by rw [hcn];kernel_rfl);exact atS h
     have hc7':=hc7;(try simp at hc7');refine qU (za1 ?_);have hcn:((mkv:Int)+(s.vars.length:Int)+(if i=0 then (s.vars.length:Int) else 0))=((mkv:Int)+(s.vars.length:Int)):=by have h8:=hc7;simp at h8;rw [if_neg (by omega),Int.add_zero]
     replace h:=h.conv (f':=F.of [(3,vN kk),(9,vN s.vars.length),(18,(vIs (za0.vars x15))),(19,vI ((mkv:Int)+(s.vars.length:Int)+(if i=0 then (s.vars.length:Int) else 0))),(168,(vFs (zc1 s locs (-1) kk))),(169,vN 5),(170,vN i),(182,vb ((i:Int) == 0))] []) (by rw [hcn];kernel_rfl);exact atS h
    rcases Bool.eq_false_or_eq_true (decide (((za0.vars x15).length:Int)>0)) with hc8 | hc9
    ·have hc8':=dT hc8;obtain ⟨x17,hx17⟩:=gl (za0.vars x15) 0;obtain ⟨jl,hjl⟩:∃ j_:Nat,j_+1=(za0.vars x15).length:=⟨(za0.vars x15).length - 1,by have:=dT hc8;omega⟩;obtain ⟨x18,hx18⟩:=gl (za0.vars x15) jl;refine Jd 21 [(1,.len (za6 1 zai (za0.vars x15))),(2,.cmp (op:=.gtr) (m:=((za0.vars x15).length:Int)) (n:=0) (b:=true) .i64 hc8),(5,.g (xD 191 190 zfm (zab hx17 (f:=zai)) (OV.const (.int .i64 0) rfl))),(9,.g (Op.arith (op:=.mul) (d:=195) (xt:=3) (yt:=3) (k:=.i64) (m:=(kk:Int)) (n:=(s.vars.length:Int)) (r:=(mkv:Int)) (OV.tmp 193 _) (OV.tmp 194 _) (.inr (.inr ⟨rfl,hmk3.symm⟩)) i6)),(10,.cmp (op:=.lss) (m:=x17) (n:=(mkv:Int)) (b:=false) .i64 (decide_eq_false (zhb hinx15 hx17))),(14,.len (za6 1 zai (za0.vars x15))),(15,.g (Op.arith (op:=.sub) (d:=201) (xt:=3) (yt:=3) (k:=.i64) (m:=((za0.vars x15).length:Int)) (n:=1) (r:=(jl:Int)) (OV.tmp 200 _) (OV.const (.int .i64 1) rfl) (.inr (.inl ⟨rfl,(by omega)⟩)) i6)),(16,.g (xD 202 198 zfm (zab hx18 (f:=zai)) (OV.tmp 201 _))),(19,.cmp (op:=.geq) (m:=x18) (n:=((mkv:Int)+(s.vars.length:Int)+(if i=0 then (s.vars.length:Int) else 0))) (b:=false) .i64 (decide_eq_false (last_in (hi:=((mkv:Int)+(s.vars.length:Int)+(if i=0 then (s.vars.length:Int) else 0))) hinx15 hx18)))] [18,19] [(207,vb false)] [] h fun a w h=>zap false h rfl nofun (fun _=>qU (za9 (za1 (Jm 21 [(0,.j1 i)] [207] [(170,vI ((i:Int)+1))] [] h fun a w h=>za1 (zag (x:=i) (y:=i+1) h ?_ ?_)))))
     ·show i+1<=5;omega
     show 5 - (i+1)<5 - i;omega
    have hc9':=dF hc9;refine Jd 21 [(1,.len (za6 1 zai (za0.vars x15))),(2,.cmp (op:=.gtr) (m:=((za0.vars x15).length:Int)) (n:=0) (b:=false) .i64 hc9)] [18,19] [(207,vb false)] [] h fun a w h=>zap false h rfl nofun (fun _=>qU (za9 (za1 (Jm 21 [(0,.j1 i)] [207] [(170,vI ((i:Int)+1))] [] h fun a w h=>za1 (zag (x:=i) (y:=i+1) h ?_ ?_)))))
    ·show i+1<=5;omega
    show 5 - (i+1)<5 - i;omega
   refine wp_exit (zaa (zaa (za5 (za1 (Jq 21 [] [(8,vb true)] [] h fun a w h=>qV (rT (.c (cB true)) h rfl ?_))))));rfl
  refine Je 21 [(1,.call (Fn.cast (Fn.argw (zhi s [] hs (by intro x_ hx_;cases hx_) (by simp)) (.cons _ _ _ _ (.refl _) (.cons _ _ _ _ (.c _ _ (.nil _)) .nil))) (congrArg vb hc1)) mo2_2),(5,.call (Fn.cast (zib s hs3 hw9) (congrArg vb hc11)) mo2_3)] [21] [(34,vb true)] h fun a w h=>cS true h (fun _=>?_) nofun
  refine Je 21 [] [34] [(8,vb true)] h fun a w h=>qV (za7 (rT (.c (cB true)) h rfl ?_));rfl
 refine Je 21 [(1,.call (Fn.cast (Fn.argw (zhi s [] hs (by intro x_ hx_;cases hx_) (by simp)) (.cons _ _ _ _ (.refl _) (.cons _ _ _ _ (.c _ _ (.nil _)) .nil))) (congrArg vb hc12)) mo2_2)] [21] [(34,vb true)] h fun a w h=>cS true h (fun _=>?_) nofun
 refine Je 21 [] [34] [(8,vb true)] h fun a w h=>qV (za7 (rT (.c (cB true)) h rfl ?_));rfl
theorem LWpPlacesN (s:zar) (locs:List Int) (act:Int) (k:Int) (hs:SysRd s) (hll9:locs.length<=9223372036854775807) (ha:act≠-1) (hsn:(za8 s act).2=false):Fn Tryz.prog 6 [] [vG (zan s),(vIs locs),vI act,vI k] (vb true) []:=by
 have hbg:(zac s locs act).2=false:=by show ((za8 s act).2 && _)=_;rw [hsn,Bool.false_and]
 refine Fn.body Tryz.func6 rfl 209 rfl fun w H B a h=>Jq 18 [] [(1,(vIs locs)),(2,vI act),(3,vI k),(4,vp 18 0),(8,vb false)] [(18,.box (zan s))] h fun a w h=>qW (Je 19 [(0,.call (LAlive) mo2_0)] [] [(21,vb false)] h fun a w h=>zap false h rfl nofun (fun _=>qU (za1 (qW ?_))))
 rcases Bool.eq_false_or_eq_true (smB s []) with hc1 | hc12
 ·obtain ⟨hs3,hw9⟩:=smB_sys hc1 hs;have lvs:=hs3.vars
  rcases Bool.eq_false_or_eq_true (proB s) with hc2 | hc11
  ·refine Je 19 [(1,.call (Fn.cast (Fn.argw (zhi s [] hs (by intro x_ hx_;cases hx_) (by simp)) (.cons _ _ _ _ (.refl _) (.cons _ _ _ _ (.c _ _ (.nil _)) .nil))) (congrArg vb hc1)) mo2_2),(5,.call (Fn.cast (zib s hs3 hw9) (congrArg vb hc2)) mo2_3),(10,.len (za6 1 zai locs))] [21] [(34,vb (decide ((locs.length:Int)>10)))] h fun a w h=>zam ((locs.length:Int)>10) h (fun hc3 hc3'=>?_) (fun hc4 hc4'=>?_)
   ·refine Je 19 [] [34] [(8,vb true)] h fun a w h=>qV (za7 (rT (.c (cB true)) h rfl ?_));rfl
   have lln:locs.length<=10:=by have:=dF hc4;omega
   refine qU (za1 (Je 19 [(1,.g (Op.mask (d:=36) (xt:=3) (yt:=3) (m:=k) (n:=7) (r:=(k % 8)) 3 (OV.tmp 35 _) (OV.const (.int .i64 7) rfl) (by decide) (by decide) (by rw [show ((2 ^ 3:Nat):Int)=8 from rfl])))] [34] [(3,vI (k % 8))] h fun a w h=>?_));have hk0:0<=k % 8/\k % 8<8:=⟨Int.emod_nonneg _ (by decide),Int.emod_lt_of_pos _ (by decide)⟩;obtain ⟨kk,hkkk⟩:∃ k_:Nat,k % 8=(k_:Int):=⟨_,(Int.toNat_of_nonneg (by omega)).symm⟩;replace h:=h.conv (f':=F.of [(1,(vIs locs)),(2,vI act),(3,vN kk),(4,vp 18 0),(8,vb false)] [(18,.box (zan s))]) (by rw [hkkk];kernel_rfl);obtain ⟨mkv,hmkv⟩:∃ z_:Nat,z_=kk*s.vars.length:=⟨_,rfl⟩;have hmk2:mkv<=8*8:=by rw [hmkv];exact Nat.mul_le_mul (by omega) lvs
   have hmk3:(kk:Int)*(s.vars.length:Int)=(mkv:Int):=by rw [hmkv,Int.natCast_mul]
   refine Jq 19 [(2,.len (za6 1 zfj s.vars))] [(1,(vIs locs)),(2,vI act),(3,vN kk),(4,vp 18 0),(8,vb false),(9,vN s.vars.length)] [(18,.box (zan s))] h fun a w h=>Je 19 [(3,.call (LPlaces s locs act hs3 (by omega)) mj9_6)] [] [(10,(vIs (zbv s locs act).1)),(11,vb (zbv s locs act).2)] h fun a w h=>Je 19 [(2,.call (Fn.cast (Lsnd s act hs3) (show (vb (za8 s act).2:V)=vb false from by rw [hsn])) mo2_11)] [] [(12,vb false)] h fun a w h=>Je 19 [] [] [] h fun a w h=>Jd 19 [(4,.call (LStep s locs act kk hs3 hw9 (by omega) (by omega)) mj9_5)] [] [(13,vp 19 0)] [(18,.box (zan s)),(19,.box (zF (zal s locs act kk)))] h fun a w h=>qW (Je 20 [(1,.cmp (op:=.eql) (m:=act) (n:=(-1)) (b:=false) .i64 (beq_eq_false_iff_ne.2 ha))] [] [(83,vb false)] h fun a w h=>zap false h rfl nofun (fun _=>qW (Je 20 [(2,.cmpb .neq (m:=(zbv s locs act).2) (n:=false) (b:=false) (.inr ⟨rfl,(show ((zbv s locs act).2 != false)=false from by rw [zh1 ha hbg];rfl).symm⟩)),(9,.cmp (op:=.neq) (m:=(zal s locs act kk).kind) (n:=1) (b:=false) .i64 (show ((zal s locs act kk).kind != 1)=false from by rw [stp_no ha hbg];rfl)),(12,.len (za6 1 zai ((zbv s locs act).1))),(13,.cmp (op:=.neq) (m:=((zbv s locs act).1.length:Int)) (n:=0) (b:=false) .i64 (show (((zbv s locs act).1.length:Int) != 0)=false from by rw [zh1 ha hbg];rfl)),(20,.call (Fn.cast (Lsnd s act hs3) (show (vb (za8 s act).2:V)=vb false from by rw [hsn])) mo2_11),(26,.call (LCanK s act kk hs3 hw9 (by omega)) zig),(28,.cmp (op:=.neq) (m:=(zdh s act kk).kind) (n:=1) (b:=false) .i64 (show ((zdh s act kk).kind != 1)=false from by rw [can_no hsn];rfl))] [11,12,83] [(122,vb false)] h fun a w h=>zap false h rfl nofun (fun _=>qU (za1 (Je 20 [(1,.len (za6 1 zai ((zbv s locs act).1)))] [122] [(124,vI ((zbv s locs act).1.length:Int)),(125,vI 0)] h fun a w h=>qZ ?_))))))
   refine zaq (ι:=Unit) (fun (z_:Unit)=>match z_ with | ()=>True)
     (fun (z_:Unit)=>match z_ with | ()=>[(1,(vIs locs)),(2,vI act),(3,vN kk),(4,vp 18 0),(9,vN s.vars.length),(10,(vIs (zbv s locs act).1)),(13,vp 19 0),(124,vI ((zbv s locs act).1.length:Int)),(125,vI 0)])
     (fun (z_:Unit)=>match z_ with | ()=>[(18,.box (zan s)),(19,.box (zF (zal s locs act kk)))])
     (fun (z_:Unit)=>match z_ with | ()=>0) () ?_ h (by kernel_rfl) (by kernel_rfl) ?_
   ·trivial
   clear h;rintro ⟨⟩ a w hI h;change St _ (F.of [(1,(vIs locs)),(2,vI act),(3,vN kk),(4,vp 18 0),(9,vN s.vars.length),(10,(vIs (zbv s locs act).1)),(13,vp 19 0),(124,vI ((zbv s locs act).1.length:Int)),(125,vI 0)] [(18,.box (zan s)),(19,.box (zF (zal s locs act kk)))]) a w at h;refine Jq 20 [(0,.cmp (op:=.lss) (m:=0) (n:=((zbv s locs act).1.length:Int)) (b:=false) .i64 (show (decide (0<((zbv s locs act).1.length:Int)))=false from by rw [zh1 ha hbg];exact decide_eq_false (by simp)))] [(1,(vIs locs)),(2,vI act),(3,vN kk),(4,vp 18 0),(9,vN s.vars.length),(10,(vIs (zbv s locs act).1)),(13,vp 19 0),(124,vI ((zbv s locs act).1.length:Int)),(125,vI 0),(126,vb false)] [(18,.box (zan s)),(19,.box (zF (zal s locs act kk)))] h fun a w h=>qW (zap false h rfl nofun (fun _=>wp_exit (zaa (zaa (za5 (za1 (qW (Jd 20 [(4,.call (LCanK s act kk hs3 hw9 (by omega)) zig),(8,.call (LStuck s locs kk hs3 hw9 (by omega) (by omega)) mj9_11),(11,.call (LRange s kk hs3 (by omega)) mg6_13),(14,.call (LStart s kk hs3 hw9 (by omega)) mj9_13),(15,.g (Op.buildD (d:=168) (len:=5) (rows:=[(zal s locs act kk),(zdh s act kk),(atF s (zbf s locs) kk),(atF s (zav s) kk),(atF s (zc7 [s.init,zav s]) kk)].map za0.d) (rs:=[(153,(vF (zal s locs act kk))),(157,(vF (zdh s act kk))),(161,(vF (atF s (zbf s locs) kk))),(164,(vF (atF s (zav s) kk))),(167,(vF (atF s (zc7 [s.init,zav s]) kk)))]) zh7 (.cons (i:=0) (OV.tmp 153 _) (.cons (i:=1) (OV.tmp 157 _) (.cons (i:=2) (OV.tmp 161 _) (.cons (i:=3) (OV.tmp 164 _) (.cons (i:=4) (OV.tmp 167 _) (.nil)))))) (by simp only [List.map_cons,List.map_nil,List.flatten_cons,List.flatten_nil,List.append_nil,za0.d_eq];kernel_rfl) rfl (by simp [za0.d_len]) (by decide) (by decide))),(16,.len (za6 6 za0.d ([(zal s locs act kk),(zdh s act kk),(atF s (zbf s locs) kk),(atF s (zav s) kk),(atF s (zc7 [s.init,zav s]) kk)])))] [1,2,4,10,13,124,125,126] [(168,(vFs [(zal s locs act kk),(zdh s act kk),(atF s (zbf s locs) kk),(atF s (zav s) kk),(atF s (zc7 [s.init,zav s]) kk)])),(169,vI ([(zal s locs act kk),(zdh s act kk),(atF s (zbf s locs) kk),(atF s (zav s) kk),(atF s (zc7 [s.init,zav s]) kk)].length:Int)),(170,vI 0)] [] h fun a w h=>qZ ?_))))))));have hf5:(zc1 s locs act kk).length=5:=rfl;replace h:=h.conv (f':=F.of [(3,vN kk),(9,vN s.vars.length),(168,(vFs (zc1 s locs act kk))),(169,vN 5),(170,vI 0)] []) (by rfl)
   refine zaq (ι:=(Nat)) (fun i=>i<=5)
     (fun i=>[(3,vN kk),(9,vN s.vars.length),(168,(vFs (zc1 s locs act kk))),(169,vN 5),(170,vN i)])
     (fun i=>[])
     (fun i=>5 - i) 0 ?_ h (by kernel_rfl) (by kernel_rfl) ?_
   ·exact Nat.zero_le _
   clear h;rintro i a w hI h;refine Jd 20 [] [] [(171,vb (decide ((i:Int)<(5:Int))))] [] h fun a w h=>qW (zam ((i:Int)<(5:Int)) h (fun hc5 hc5'=>?_) (fun hc10 hc10'=>?_))
   ·refine qU (za1 (qW (qZ ?_)));obtain ⟨x16,hx16⟩:=gl (zc1 s locs act kk) i;have hokx16:=five_ok hs3 hw9 locs act kk x16 (lM hx16);have hinx16:=five_in (pro_of hc2) locs act lvs (show kk<=4096 by omega) hmkv hx16;have lvfx16:=zf4 x16 hokx16.1;refine Jd 20 [(1,.g (xD 173 168 ziz ((zab hx16 (f:=za0.d)).trans (congrArg some (za0.d_eq x16))) (OV.tmp 170 _)))] [171] [(16,vN i),(17,vp 20 0)] [(20,.box (zF x16))] h fun a w h=>Jd 21 [(1,.call (zic x16 hokx16.1 hokx16.2) mf5_8)] [17] [(18,(vIs (za0.vars x16)))] [] h fun a w h=>Jd 21 [(1,.add .i64 (m:=(kk:Int)) (n:=1) i6),(3,.g (Op.arith (op:=.mul) (d:=180) (xt:=3) (yt:=3) (k:=.i64) (m:=((kk:Int)+1)) (n:=(s.vars.length:Int)) (r:=((mkv:Int)+(s.vars.length:Int))) (OV.tmp 178 _) (OV.tmp 179 _) (.inr (.inr ⟨rfl,(show _=_ from by rw [Int.add_mul,Int.one_mul,hmk3])⟩)) i6))] [] [(19,vI ((mkv:Int)+(s.vars.length:Int)))] [] h fun a w h=>midH h [(3,vN kk),(9,vN s.vars.length),(18,(vIs (za0.vars x16))),(19,vI ((mkv:Int)+(s.vars.length:Int)+(if i=0 then (s.vars.length:Int) else 0))),(168,(vFs (zc1 s locs act kk))),(169,vN 5),(170,vN i)] [] ?_ (fun a w h=>?_)
    ·refine Jd 21 [] [16] [(182,vb ((i:Int) == 0))] [] h fun a w h=>cS ((i:Int) == 0) h (fun hc6=>?_) (fun hc7=>?_)
     ·have hc6':=hc6;(try simp at hc6');refine Jm 21 [(2,.add .i64 (m:=((mkv:Int)+(s.vars.length:Int))) (n:=(s.vars.length:Int)) i6)] [182] [(19,vI (((mkv:Int)+(s.vars.length:Int))+(s.vars.length:Int)))] [] h fun a w h=>za1 ?_;have hcn:((mkv:Int)+(s.vars.length:Int)+(if i=0 then (s.vars.length:Int) else 0))=((mkv:Int)+(s.vars.length:Int))+(s.vars.length:Int):=by have h8:=hc6;simp at h8;rw [if_pos (by omega)]
      replace h:=h.conv (f':=F.of [(3,vN kk),(9,vN s.vars.length),(18,(vIs (za0.vars x16))),(19,vI ((mkv:Int)+(s.vars.length:Int)+(if i=0 then (s.vars.length:Int) else 0))),(168,(vFs (zc1 s locs act kk))),(169,vN 5),(170,vN i)] []) (by rw [hcn];kernel_rfl);exact atS h
     have hc7':=hc7;(try simp at hc7');refine qU (za1 ?_);have hcn:((mkv:Int)+(s.vars.length:Int)+(if i=0 then (s.vars.length:Int) else 0))=((mkv:Int)+(s.vars.length:Int)):=by have h8:=hc7;simp at h8;rw [if_neg (by omega),Int.add_zero]
     replace h:=h.conv (f':=F.of [(3,vN kk),(9,vN s.vars.length),(18,(vIs (za0.vars x16))),(19,vI ((mkv:Int)+(s.vars.length:Int)+(if i=0 then (s.vars.length:Int) else 0))),(168,(vFs (zc1 s locs act kk))),(169,vN 5),(170,vN i),(182,vb ((i:Int) == 0))] []) (by rw [hcn];kernel_rfl);exact atS h
    rcases Bool.eq_false_or_eq_true (decide (((za0.vars x16).length:Int)>0)) with hc8 | hc9
    ·have hc8':=dT hc8;obtain ⟨x18,hx18⟩:=gl (za0.vars x16) 0;obtain ⟨jl,hjl⟩:∃ j_:Nat,j_+1=(za0.vars x16).length:=⟨(za0.vars x16).length - 1,by have:=dT hc8;omega⟩;obtain ⟨x19,hx19⟩:=gl (za0.vars x16) jl;refine Jd 21 [(1,.len (za6 1 zai (za0.vars x16))),(2,.cmp (op:=.gtr) (m:=((za0.vars x16).length:Int)) (n:=0) (b:=true) .i64 hc8),(5,.g (xD 191 190 zfm (zab hx18 (f:=zai)) (OV.const (.int .i64 0) rfl))),(9,.g (Op.arith (op:=.mul) (d:=195) (xt:=3) (yt:=3) (k:=.i64) (m:=(kk:Int)) (n:=(s.vars.length:Int)) (r:=(mkv:Int)) (OV.tmp 193 _) (OV.tmp 194 _) (.inr (.inr ⟨rfl,hmk3.symm⟩)) i6)),(10,.cmp (op:=.lss) (m:=x18) (n:=(mkv:Int)) (b:=false) .i64 (decide_eq_false (zhb hinx16 hx18))),(14,.len (za6 1 zai (za0.vars x16))),(15,.g (Op.arith (op:=.sub) (d:=201) (xt:=3) (yt:=3) (k:=.i64) (m:=((za0.vars x16).length:Int)) (n:=1) (r:=(jl:Int)) (OV.tmp 200 _) (OV.const (.int .i64 1) rfl) (.inr (.inl ⟨rfl,(by omega)⟩)) i6)),(16,.g (xD 202 198 zfm (zab hx19 (f:=zai)) (OV.tmp 201 _))),(19,.cmp (op:=.geq) (m:=x19) (n:=((mkv:Int)+(s.vars.length:Int)+(if i=0 then (s.vars.length:Int) else 0))) (b:=false) .i64 (decide_eq_false (last_in (hi:=((mkv:Int)+(s.vars.length:Int)+(if i=0 then (s.vars.length:Int) else 0))) hinx16 hx19)))] [18,19] [(207,vb false)] [] h fun a w h=>zap false h rfl nofun (fun _=>qU (za9 (za1 (Jm 21 [(0,.j1 i)] [207] [(170,vI ((i:Int)+1))] [] h fun a w h=>za1 (zag (x:=i) (y:=i+1) h ?_ ?_)))))
     ·show i+1<=5;omega
     show 5 - (i+1)<5 - i;omega
    have hc9':=dF hc9;refine Jd 21 [(1,.len (za6 1 zai (za0.vars x16))),(2,.cmp (op:=.gtr) (m:=((za0.vars x16).length:Int)) (n:=0) (b:=false) .i64 hc9)] [18,19] [(207,vb false)] [] h fun a w h=>zap false h rfl nofun (fun _=>qU (za9 (za1 (Jm 21 [(0,.j1 i)] [207] [(170,vI ((i:Int)+1))] [] h fun a w h=>za1 (zag (x:=i) (y:=i+1) h ?_ ?_)))))
    ·show i+1<=5;omega
    show 5 - (i+1)<5 - i;omega
   refine wp_exit (zaa (zaa (za5 (za1 (Jq 21 [] [(8,vb true)] [] h fun a w h=>qV (rT (.c (cB true)) h rfl ?_))))));rfl
  refine Je 21 [(1,.call (Fn.cast (Fn.argw (zhi s [] hs (by intro x_ hx_;cases hx_) (by simp)) (.cons _ _ _ _ (.refl _) (.cons _ _ _ _ (.c _ _ (.nil _)) .nil))) (congrArg vb hc1)) mo2_2),(5,.call (Fn.cast (zib s hs3 hw9) (congrArg vb hc11)) mo2_3)] [21] [(34,vb true)] h fun a w h=>cS true h (fun _=>?_) nofun
  refine Je 21 [] [34] [(8,vb true)] h fun a w h=>qV (za7 (rT (.c (cB true)) h rfl ?_));rfl
 refine Je 21 [(1,.call (Fn.cast (Fn.argw (zhi s [] hs (by intro x_ hx_;cases hx_) (by simp)) (.cons _ _ _ _ (.refl _) (.cons _ _ _ _ (.c _ _ (.nil _)) .nil))) (congrArg vb hc12)) mo2_2)] [21] [(34,vb true)] h fun a w h=>cS true h (fun _=>?_) nofun
 refine Je 21 [] [34] [(8,vb true)] h fun a w h=>qV (za7 (rT (.c (cB true)) h rfl ?_));rfl
theorem LWpPlacesS (s:zar) (locs:List Int) (ka kp:Nat) (c:zbi) (k:Int) (hs:SysRd s) (hll9:locs.length<=9223372036854775807) (hka:s.acts[ka]?=some (mkA kp c)) (hsd:(za8 s (ka:Int)).2=true):Fn Tryz.prog 6 [] [.t (.agg (zan s)),.t (.c (.d (.sl 1 (locs.map zai)))),vN ka,vI k] (vb true) []:=by
 have lka:=zaj hka
 have lkp:kp<s.procs.length:=by
  have:=(ze0 hsd).2;rw [snd_at hka] at this;have h9:(kp:Int)<(s.procs.length:Int):=this;omega
 refine Fn.body Tryz.func6 rfl 209 rfl fun w H B a h=>Jq 18 [] [(1,.t (.c (.d (.sl 1 (locs.map zai))))),(2,vN ka),(3,vI k),(4,vp 18 0),(8,vb false)] [(18,.box (zan s))] h fun a w h=>qW (Je 19 [(0,.call (LAlive) mo2_0)] [] [(21,vb false)] h fun a w h=>zap false h rfl nofun (fun _=>qU (za1 (qW ?_))))
 rcases Bool.eq_false_or_eq_true (smB s []) with hc1 | hc32
 ·obtain ⟨hs3,hw9⟩:=smB_sys hc1 hs;have lvs:=hs3.vars
  rcases Bool.eq_false_or_eq_true (proB s) with hc2 | hc31
  ·refine Je 19 [(1,.call (Fn.cast (Fn.argw (zhi s [] hs (by intro x_ hx_;cases hx_) (by simp)) (.cons _ _ _ _ (.refl _) (.cons _ _ _ _ (.c _ _ (.nil _)) .nil))) (congrArg vb hc1)) mo2_2),(5,.call (Fn.cast (zib s hs3 hw9) (congrArg vb hc2)) mo2_3),(10,.len (za6 1 zai locs))] [21] [(34,vb (decide ((locs.length:Int)>10)))] h fun a w h=>zam ((locs.length:Int)>10) h (fun hc3 hc3'=>?_) (fun hc4 hc4'=>?_)
   ·refine Je 19 [] [34] [(8,vb true)] h fun a w h=>qV (za7 (rT (.c (.d (.raw (.bool true)))) h rfl ?_));rfl
   have lln:locs.length<=10:=by have:=dF hc4;omega
   refine qU (za1 (Je 19 [(1,.g (Op.mask (d:=36) (xt:=3) (yt:=3) (m:=k) (n:=7) (r:=(k % 8)) 3 (OV.tmp 35 _) (OV.const (.int .i64 7) rfl) (by decide) (by decide) (by rw [show ((2 ^ 3:Nat):Int)=8 from rfl])))] [34] [(3,vI (k % 8))] h fun a w h=>?_));have hk0:0<=k % 8/\k % 8<8:=⟨Int.emod_nonneg _ (by decide),Int.emod_lt_of_pos _ (by decide)⟩;obtain ⟨kk,hkkk⟩:∃ k_:Nat,k % 8=(k_:Int):=⟨_,(Int.toNat_of_nonneg (by omega)).symm⟩;replace h:=h.conv (f':=F.of [(1,.t (.c (.d (.sl 1 (locs.map zai))))),(2,vN ka),(3,vN kk),(4,vp 18 0),(8,vb false)] [(18,.box (zan s))]) (by rw [hkkk];kernel_rfl);obtain ⟨mkv,hmkv⟩:∃ z_:Nat,z_=kk*s.vars.length:=⟨_,rfl⟩;have hmk2:mkv<=8*8:=by rw [hmkv];exact Nat.mul_le_mul (by omega) lvs
   have hmk3:(kk:Int)*(s.vars.length:Int)=(mkv:Int):=by rw [hmkv,Int.natCast_mul]
   refine Jq 19 [(2,.len (za6 1 zfj s.vars))] [(1,.t (.c (.d (.sl 1 (locs.map zai))))),(2,vN ka),(3,vN kk),(4,vp 18 0),(8,vb false),(9,vN s.vars.length)] [(18,.box (zan s))] h fun a w h=>Je 19 [(3,.call (LPlaces s locs (ka:Int) hs3 (by omega)) mj9_6)] [] [(10,.t (.c (.d (.sl 1 ((zbv s locs (ka:Int)).1.map zai))))),(11,vb (zbv s locs (ka:Int)).2)] h fun a w h=>Je 19 [(2,.call (Fn.cast (Lsnd s (ka:Int) hs3) (show (vb (za8 s (ka:Int)).2:V)=vb true from by rw [hsd])) mo2_11),(5,.len (za6 1 zai locs)),(8,.len (za6 3 zcg.d s.procs))] [] [(12,vb ((locs.length:Int) == (s.procs.length:Int)))] h fun a w h=>?_
   rcases Bool.eq_false_or_eq_true ((locs.length:Int) == (s.procs.length:Int)) with hc5 | hc24
   ·have hc5':=hc5;(try simp at hc5');have hll:locs.length=s.procs.length:=by have:=hc5;simp at this;omega
    rw [hc5] at h;obtain ⟨x9,hx9⟩:=gl locs kp;refine Jq 19 [(6,.g (xD 64 62 ki_1 (zab hka (f:=zbi.d)) (OV.tmp 63 _))),(9,.g (xD 67 60 zfm (zab hx9 (f:=zai)) (OV.tmp 66 _))),(14,.g (xD 72 70 ki_1 (zab hka (f:=zbi.d)) (OV.tmp 71 _)))] [(1,.t (.c (.d (.sl 1 (locs.map zai))))),(2,vN ka),(3,vN kk),(4,vp 18 0),(8,vb false),(9,vN s.vars.length),(10,.t (.c (.d (.sl 1 ((zbv s locs (ka:Int)).1.map zai))))),(11,vb (zbv s locs (ka:Int)).2),(12,vb (x9 == c.from_))] [(18,.box (zan s))] h fun a w h=>Jd 19 [(4,.call (LStep s locs (ka:Int) kk hs3 hw9 (by omega) (by omega)) mj9_5)] [] [(13,vp 19 0)] [(18,.box (zan s)),(19,.box ([.d (.raw (.int .i64 (zal s locs (ka:Int) kk).kind)),.d (.sl 3 ((zal s locs (ka:Int) kk).r.t.parts.map za3.d))]++zi (zal s locs (ka:Int) kk).r.t.k++[.d (.raw (.bool (zal s locs (ka:Int) kk).r.eq)),.d (.sl 6 ((zal s locs (ka:Int) kk).kids.map za0.d))]))] h fun a w h=>qW (Je 20 [(1,.cmp (op:=.eql) (m:=(ka:Int)) (n:=(-1)) (b:=false) .i64 (beq_eq_false_iff_ne.2 (by omega)))] [] [(83,vb false)] h fun a w h=>zap false h rfl nofun (fun _=>qW ?_))
    rcases Bool.eq_false_or_eq_true (x9 == c.from_) with hc6 | hc17
    ·have hc6':=hc6;(try simp at hc6');have hbg:(zac s locs (ka:Int)).2=true:=(beg_at hka hsd hll hx9).trans hc6;rw [hc6] at h;refine Jq 20 [(2,.cmpb .neq (m:=(zbv s locs (ka:Int)).2) (n:=true) (b:=false) (.inr ⟨rfl,(show ((zbv s locs (ka:Int)).2 != true)=false from by rw [plc_two (by omega),hbg];rfl).symm⟩)),(20,.call (Fn.cast (Lsnd s (ka:Int) hs3) (show (vb (za8 s (ka:Int)).2:V)=vb true from by rw [hsd])) mo2_11)] [(1,.t (.c (.d (.sl 1 (locs.map zai))))),(2,vN ka),(3,vN kk),(4,vp 18 0),(8,vb false),(9,vN s.vars.length),(10,.t (.c (.d (.sl 1 ((zbv s locs (ka:Int)).1.map zai))))),(13,vp 19 0),(122,vb false)] [(18,.box (zan s)),(19,.box ([.d (.raw (.int .i64 (zal s locs (ka:Int) kk).kind)),.d (.sl 3 ((zal s locs (ka:Int) kk).r.t.parts.map za3.d))]++zi (zal s locs (ka:Int) kk).r.t.k++[.d (.raw (.bool (zal s locs (ka:Int) kk).r.eq)),.d (.sl 6 ((zal s locs (ka:Int) kk).kids.map za0.d))]))] h fun a w h=>zap false h rfl nofun (fun _=>qU (za1 ?_))
     have hpl:(zbv s locs (ka:Int)).1=locs.set kp c.to_:=plc_yes hka hbg;have lset:(locs.set kp c.to_).length=locs.length:=List.length_set;replace h:=h.conv (f':=F.of [(1,.t (.c (.d (.sl 1 (locs.map zai))))),(2,vN ka),(3,vN kk),(4,vp 18 0),(8,vb false),(9,vN s.vars.length),(10,.t (.c (.d (.sl 1 ((locs.set kp c.to_).map zai))))),(13,vp 19 0),(122,vb false)] [(18,.box (zan s)),(19,.box ([.d (.raw (.int .i64 (zal s locs (ka:Int) kk).kind)),.d (.sl 3 ((zal s locs (ka:Int) kk).r.t.parts.map za3.d))]++zi (zal s locs (ka:Int) kk).r.t.k++[.d (.raw (.bool (zal s locs (ka:Int) kk).r.eq)),.d (.sl 6 ((zal s locs (ka:Int) kk).kids.map za0.d))]))]) (by rw [hpl]);refine Jq 20 [(1,.len (za6 1 zai (locs.set kp c.to_)))] [(1,.t (.c (.d (.sl 1 (locs.map zai))))),(2,vN ka),(3,vN kk),(4,vp 18 0),(8,vb false),(9,vN s.vars.length),(10,.t (.c (.d (.sl 1 ((locs.set kp c.to_).map zai))))),(13,vp 19 0),(124,vI ((locs.set kp c.to_).length:Int)),(125,vI 0)] [(18,.box (zan s)),(19,.box ([.d (.raw (.int .i64 (zal s locs (ka:Int) kk).kind)),.d (.sl 3 ((zal s locs (ka:Int) kk).r.t.parts.map za3.d))]++zi (zal s locs (ka:Int) kk).r.t.k++[.d (.raw (.bool (zal s locs (ka:Int) kk).r.eq)),.d (.sl 6 ((zal s locs (ka:Int) kk).kids.map za0.d))]))] h fun a w h=>qZ ?_
     refine zaq (ι:=(Nat)) (fun i=>i<=locs.length)
       (fun i=>[(1,.t (.c (.d (.sl 1 (locs.map zai))))),(2,vN ka),(3,vN kk),(4,vp 18 0),(9,vN s.vars.length),(10,.t (.c (.d (.sl 1 ((locs.set kp c.to_).map zai))))),(13,vp 19 0),(124,vI ((locs.set kp c.to_).length:Int)),(125,vN i)])
       (fun i=>[(18,.box (zan s)),(19,.box ([.d (.raw (.int .i64 (zal s locs (ka:Int) kk).kind)),.d (.sl 3 ((zal s locs (ka:Int) kk).r.t.parts.map za3.d))]++zi (zal s locs (ka:Int) kk).r.t.k++[.d (.raw (.bool (zal s locs (ka:Int) kk).r.eq)),.d (.sl 6 ((zal s locs (ka:Int) kk).kids.map za0.d))]))])
       (fun i=>locs.length - i) 0 ?_ h (by kernel_rfl) (by kernel_rfl) ?_
     ·exact Nat.zero_le _
     clear h;rintro i a w hI h;refine Je 20 [] [] [(126,vb (decide ((i:Int)<((locs.set kp c.to_).length:Int))))] h fun a w h=>qW (zam ((i:Int)<((locs.set kp c.to_).length:Int)) h (fun hc7 hc7'=>?_) (fun hc10 hc10'=>?_))
     ·refine qU (za1 (qW (qZ (Je 20 [] [126] [(14,vN i)] h fun a w h=>?_))));obtain ⟨x12,hx12⟩:=gl locs i;refine Je 20 [(2,.g (xD 130 128 zfm (zab hx12 (f:=zai)) (OV.tmp 129 _)))] [] [(15,vI x12)] h fun a w h=>qW (Je 20 [(4,.g (xD 136 134 ki_1 (zab hka (f:=zbi.d)) (OV.tmp 135 _)))] [] [(139,vb ((i:Int) == (kp:Int)))] h fun a w h=>cS ((i:Int) == (kp:Int)) h (fun hc8=>?_) (fun hc9=>?_))
      ·have hc8':=hc8;(try simp at hc8');refine Jf 20 [(3,.g (xD 143 141 ki_1 (zab hka (f:=zbi.d)) (OV.tmp 142 _)))] [139] [(15,vI c.to_)] h fun a w h=>za1 (Je 20 [(2,.g (xD 148 146 zfm (zab (set_yes (p:=kp) (t:=c.to_) hx12 (by have:=hc8;simp at this;omega)) (f:=zai)) (OV.tmp 147 _))),(5,.cmp (op:=.neq) (m:=c.to_) (n:=c.to_) (b:=false) .i64 (bne_self_eq_false _))] [14,15] [(151,vb false)] h fun a w h=>zap false h rfl nofun (fun _=>qU (za9 (za1 (Jf 20 [(0,.j1 i)] [151] [(125,vI ((i:Int)+1))] h fun a w h=>za1 (zag (x:=i) (y:=i+1) h ?_ ?_))))))
       ·have:=zaj hx12;show i+1<=locs.length;omega
       show locs.length - (i+1)<locs.length - i;have:=zaj hx12;omega
      have hc9':=hc9;(try simp at hc9');refine qU (za1 (Je 20 [(2,.g (xD 148 146 zfm (zab (set_no (p:=kp) (t:=c.to_) hx12 (by have:=hc9;simp at this;omega)) (f:=zai)) (OV.tmp 147 _))),(5,.cmp (op:=.neq) (m:=x12) (n:=x12) (b:=false) .i64 (bne_self_eq_false _))] [14,15,139] [(151,vb false)] h fun a w h=>zap false h rfl nofun (fun _=>qU (za9 (za1 (Jf 20 [(0,.j1 i)] [151] [(125,vI ((i:Int)+1))] h fun a w h=>za1 (zag (x:=i) (y:=i+1) h ?_ ?_)))))))
      ·have:=zaj hx12;show i+1<=locs.length;omega
      show locs.length - (i+1)<locs.length - i;have:=zaj hx12;omega
     refine wp_exit (zaa (zaa (za5 (za1 (qW (Jd 20 [(4,.call (LCanK s (ka:Int) kk hs3 hw9 (by omega)) zig),(8,.call (LStuck s locs kk hs3 hw9 (by omega) (by omega)) mj9_11),(11,.call (LRange s kk hs3 (by omega)) mg6_13),(14,.call (LStart s kk hs3 hw9 (by omega)) mj9_13),(15,.g (Op.buildD (d:=168) (len:=5) (rows:=[(zal s locs (ka:Int) kk),(zdh s (ka:Int) kk),(atF s (zbf s locs) kk),(atF s (zav s) kk),(atF s (zc7 [s.init,zav s]) kk)].map za0.d) (rs:=[(153,.t (.agg ([.d (.raw (.int .i64 (zal s locs (ka:Int) kk).kind)),.d (.sl 3 ((zal s locs (ka:Int) kk).r.t.parts.map za3.d))]++zi (zal s locs (ka:Int) kk).r.t.k++[.d (.raw (.bool (zal s locs (ka:Int) kk).r.eq)),.d (.sl 6 ((zal s locs (ka:Int) kk).kids.map za0.d))]))),(157,.t (.agg ([.d (.raw (.int .i64 (zdh s (ka:Int) kk).kind)),.d (.sl 3 ((zdh s (ka:Int) kk).r.t.parts.map za3.d))]++zi (zdh s (ka:Int) kk).r.t.k++[.d (.raw (.bool (zdh s (ka:Int) kk).r.eq)),.d (.sl 6 ((zdh s (ka:Int) kk).kids.map za0.d))]))),(161,.t (.agg ([.d (.raw (.int .i64 (atF s (zbf s locs) kk).kind)),.d (.sl 3 ((atF s (zbf s locs) kk).r.t.parts.map za3.d))]++zi (atF s (zbf s locs) kk).r.t.k++[.d (.raw (.bool (atF s (zbf s locs) kk).r.eq)),.d (.sl 6 ((atF s (zbf s locs) kk).kids.map za0.d))]))),(164,.t (.agg ([.d (.raw (.int .i64 (atF s (zav s) kk).kind)),.d (.sl 3 ((atF s (zav s) kk).r.t.parts.map za3.d))]++zi (atF s (zav s) kk).r.t.k++[.d (.raw (.bool (atF s (zav s) kk).r.eq)),.d (.sl 6 ((atF s (zav s) kk).kids.map za0.d))]))),(167,.t (.agg ([.d (.raw (.int .i64 (atF s (zc7 [s.init,zav s]) kk).kind)),.d (.sl 3 ((atF s (zc7 [s.init,zav s]) kk).r.t.parts.map za3.d))]++zi (atF s (zc7 [s.init,zav s]) kk).r.t.k++[.d (.raw (.bool (atF s (zc7 [s.init,zav s]) kk).r.eq)),.d (.sl 6 ((atF s (zc7 [s.init,zav s]) kk).kids.map za0.d))])))]) zh7 (.cons (i:=0) (OV.tmp 153 _) (.cons (i:=1) (OV.tmp 157 _) (.cons (i:=2) (OV.tmp 161 _) (.cons (i:=3) (OV.tmp 164 _) (.cons (i:=4) (OV.tmp 167 _) (.nil)))))) (by simp only [List.map_cons,List.map_nil,List.flatten_cons,List.flatten_nil,List.append_nil,za0.d_eq];kernel_rfl) rfl (by simp [za0.d_len]) (by decide) (by decide))),(16,.len (za6 6 za0.d ([(zal s locs (ka:Int) kk),(zdh s (ka:Int) kk),(atF s (zbf s locs) kk),(atF s (zav s) kk),(atF s (zc7 [s.init,zav s]) kk)])))] [1,2,4,10,13,124,125,126] [(168,.t (.c (.d (.sl 6 ([(zal s locs (ka:Int) kk),(zdh s (ka:Int) kk),(atF s (zbf s locs) kk),(atF s (zav s) kk),(atF s (zc7 [s.init,zav s]) kk)].map za0.d))))),(169,vI ([(zal s locs (ka:Int) kk),(zdh s (ka:Int) kk),(atF s (zbf s locs) kk),(atF s (zav s) kk),(atF s (zc7 [s.init,zav s]) kk)].length:Int)),(170,vI 0)] [] h fun a w h=>qZ ?_))))));have hf5:(zc1 s locs (ka:Int) kk).length=5:=rfl;replace h:=h.conv (f':=F.of [(3,vN kk),(9,vN s.vars.length),(168,.t (.c (.d (.sl 6 ((zc1 s locs (ka:Int) kk).map za0.d))))),(169,vN 5),(170,vI 0)] []) (by rfl)
     refine zaq (ι:=(Nat)) (fun i=>i<=5)
       (fun i=>[(3,vN kk),(9,vN s.vars.length),(168,.t (.c (.d (.sl 6 ((zc1 s locs (ka:Int) kk).map za0.d))))),(169,vN 5),(170,vN i)])
       (fun i=>[])
       (fun i=>5 - i) 0 ?_ h (by kernel_rfl) (by kernel_rfl) ?_
     ·exact Nat.zero_le _
     clear h;rintro i a w hI h;refine Jd 20 [] [] [(171,vb (decide ((i:Int)<(5:Int))))] [] h fun a w h=>qW (zam ((i:Int)<(5:Int)) h (fun hc11 hc11'=>?_) (fun hc16 hc16'=>?_))
     ·refine qU (za1 (qW (qZ ?_)));obtain ⟨x17,hx17⟩:=gl (zc1 s locs (ka:Int) kk) i;have hokx17:=five_ok hs3 hw9 locs (ka:Int) kk x17 (lM hx17);have hinx17:=five_in (pro_of hc2) locs (ka:Int) lvs (show kk<=4096 by omega) hmkv hx17;have lvfx17:=zf4 x17 hokx17.1;refine Jd 20 [(1,.g (xD 173 168 ziz ((zab hx17 (f:=za0.d)).trans (congrArg some (za0.d_eq x17))) (OV.tmp 170 _)))] [171] [(16,vN i),(17,vp 20 0)] [(20,.box ([.d (.raw (.int .i64 x17.kind)),.d (.sl 3 (x17.r.t.parts.map za3.d))]++zi x17.r.t.k++[.d (.raw (.bool x17.r.eq)),.d (.sl 6 (x17.kids.map za0.d))]))] h fun a w h=>Jd 21 [(1,.call (zic x17 hokx17.1 hokx17.2) mf5_8)] [17] [(18,.t (.c (.d (.sl 1 ((za0.vars x17).map zai)))))] [] h fun a w h=>Jd 21 [(1,.add .i64 (m:=(kk:Int)) (n:=1) i6),(3,.g (Op.arith (op:=.mul) (d:=180) (xt:=3) (yt:=3) (k:=.i64) (m:=((kk:Int)+1)) (n:=(s.vars.length:Int)) (r:=((mkv:Int)+(s.vars.length:Int))) (OV.tmp 178 _) (OV.tmp 179 _) (.inr (.inr ⟨rfl,(show _=_ from by rw [Int.add_mul,Int.one_mul,hmk3])⟩)) i6))] [] [(19,vI ((mkv:Int)+(s.vars.length:Int)))] [] h fun a w h=>midH h [(3,vN kk),(9,vN s.vars.length),(18,.t (.c (.d (.sl 1 ((za0.vars x17).map zai))))),(19,vI ((mkv:Int)+(s.vars.length:Int)+(if i=0 then (s.vars.length:Int) else 0))),(168,.t (.c (.d (.sl 6 ((zc1 s locs (ka:Int) kk).map za0.d))))),(169,vN 5),(170,vN i)] [] ?_ (fun a w h=>?_)
      ·refine Jd 21 [] [16] [(182,vb ((i:Int) == 0))] [] h fun a w h=>cS ((i:Int) == 0) h (fun hc12=>?_) (fun hc13=>?_)
       ·have hc12':=hc12;(try simp at hc12');refine Jm 21 [(2,.add .i64 (m:=((mkv:Int)+(s.vars.length:Int))) (n:=(s.vars.length:Int)) i6)] [182] [(19,vI (((mkv:Int)+(s.vars.length:Int))+(s.vars.length:Int)))] [] h fun a w h=>za1 ?_;have hcn:((mkv:Int)+(s.vars.length:Int)+(if i=0 then (s.vars.length:Int) else 0))=((mkv:Int)+(s.vars.length:Int))+(s.vars.length:Int):=by have h8:=hc12;simp at h8;rw [if_pos (by omega)]
        replace h:=h.conv (f':=F.of [(3,vN kk),(9,vN s.vars.length),(18,.t (.c (.d (.sl 1 ((za0.vars x17).map zai))))),(19,vI ((mkv:Int)+(s.vars.length:Int)+(if i=0 then (s.vars.length:Int) else 0))),(168,.t (.c (.d (.sl 6 ((zc1 s locs (ka:Int) kk).map za0.d))))),(169,vN 5),(170,vN i)] []) (by rw [hcn];kernel_rfl);exact atS h
       have hc13':=hc13;(try simp at hc13');refine qU (za1 ?_);have hcn:((mkv:Int)+(s.vars.length:Int)+(if i=0 then (s.vars.length:Int) else 0))=((mkv:Int)+(s.vars.length:Int)):=by have h8:=hc13;simp at h8;rw [if_neg (by omega),Int.add_zero]
       replace h:=h.conv (f':=F.of [(3,vN kk),(9,vN s.vars.length),(18,.t (.c (.d (.sl 1 ((za0.vars x17).map zai))))),(19,vI ((mkv:Int)+(s.vars.length:Int)+(if i=0 then (s.vars.length:Int) else 0))),(168,.t (.c (.d (.sl 6 ((zc1 s locs (ka:Int) kk).map za0.d))))),(169,vN 5),(170,vN i),(182,vb ((i:Int) == 0))] []) (by rw [hcn];kernel_rfl);exact atS h
      rcases Bool.eq_false_or_eq_true (decide (((za0.vars x17).length:Int)>0)) with hc14 | hc15
      ·have hc14':=dT hc14;obtain ⟨x19,hx19⟩:=gl (za0.vars x17) 0;obtain ⟨jl,hjl⟩:∃ j_:Nat,j_+1=(za0.vars x17).length:=⟨(za0.vars x17).length - 1,by have:=dT hc14;omega⟩;obtain ⟨x20,hx20⟩:=gl (za0.vars x17) jl;refine Jd 21 [(1,.len (za6 1 zai (za0.vars x17))),(2,.cmp (op:=.gtr) (m:=((za0.vars x17).length:Int)) (n:=0) (b:=true) .i64 hc14),(5,.g (xD 191 190 zfm (zab hx19 (f:=zai)) (OV.const (.int .i64 0) rfl))),(9,.g (Op.arith (op:=.mul) (d:=195) (xt:=3) (yt:=3) (k:=.i64) (m:=(kk:Int)) (n:=(s.vars.length:Int)) (r:=(mkv:Int)) (OV.tmp 193 _) (OV.tmp 194 _) (.inr (.inr ⟨rfl,hmk3.symm⟩)) i6)),(10,.cmp (op:=.lss) (m:=x19) (n:=(mkv:Int)) (b:=false) .i64 (decide_eq_false (zhb hinx17 hx19))),(14,.len (za6 1 zai (za0.vars x17))),(15,.g (Op.arith (op:=.sub) (d:=201) (xt:=3) (yt:=3) (k:=.i64) (m:=((za0.vars x17).length:Int)) (n:=1) (r:=(jl:Int)) (OV.tmp 200 _) (OV.const (.int .i64 1) rfl) (.inr (.inl ⟨rfl,(by omega)⟩)) i6)),(16,.g (xD 202 198 zfm (zab hx20 (f:=zai)) (OV.tmp 201 _))),(19,.cmp (op:=.geq) (m:=x20) (n:=((mkv:Int)+(s.vars.length:Int)+(if i=0 then (s.vars.length:Int) else 0))) (b:=false) .i64 (decide_eq_false (last_in (hi:=((mkv:Int)+(s.vars.length:Int)+(if i=0 then (s.vars.length:Int) else 0))) hinx17 hx20)))] [18,19] [(207,vb false)] [] h fun a w h=>zap false h rfl nofun (fun _=>qU (za9 (za1 (Jm 21 [(0,.j1 i)] [207] [(170,vI ((i:Int)+1))] [] h fun a w h=>za1 (zag (x:=i) (y:=i+1) h ?_ ?_)))))
       ·show i+1<=5;omega
       show 5 - (i+1)<5 - i;omega
      have hc15':=dF hc15;refine Jd 21 [(1,.len (za6 1 zai (za0.vars x17))),(2,.cmp (op:=.gtr) (m:=((za0.vars x17).length:Int)) (n:=0) (b:=false) .i64 hc15)] [18,19] [(207,vb false)] [] h fun a w h=>zap false h rfl nofun (fun _=>qU (za9 (za1 (Jm 21 [(0,.j1 i)] [207] [(170,vI ((i:Int)+1))] [] h fun a w h=>za1 (zag (x:=i) (y:=i+1) h ?_ ?_)))))
      ·show i+1<=5;omega
      show 5 - (i+1)<5 - i;omega
     refine wp_exit (zaa (zaa (za5 (za1 (Jq 21 [] [(8,vb true)] [] h fun a w h=>qV (rT (.c (.d (.raw (.bool true)))) h rfl ?_))))));rfl
    have hc17':=hc17;(try simp at hc17');have hbg:(zac s locs (ka:Int)).2=false:=(beg_at hka hsd hll hx9).trans hc17;rw [hc17] at h;refine Jq 21 [(2,.cmpb .neq (m:=(zbv s locs (ka:Int)).2) (n:=false) (b:=false) (.inr ⟨rfl,(show ((zbv s locs (ka:Int)).2 != false)=false from by rw [zh1 (by omega) hbg];rfl).symm⟩)),(9,.cmp (op:=.neq) (m:=(zal s locs (ka:Int) kk).kind) (n:=1) (b:=false) .i64 (show ((zal s locs (ka:Int) kk).kind != 1)=false from by rw [stp_no (by omega) hbg];rfl)),(12,.len (za6 1 zai ((zbv s locs (ka:Int)).1))),(13,.cmp (op:=.neq) (m:=((zbv s locs (ka:Int)).1.length:Int)) (n:=0) (b:=false) .i64 (show (((zbv s locs (ka:Int)).1.length:Int) != 0)=false from by rw [zh1 (by omega) hbg];rfl)),(20,.call (Fn.cast (Lsnd s (ka:Int) hs3) (show (vb (za8 s (ka:Int)).2:V)=vb true from by rw [hsd])) mo2_11)] [(1,.t (.c (.d (.sl 1 (locs.map zai))))),(2,vN ka),(3,vN kk),(4,vp 18 0),(8,vb false),(9,vN s.vars.length),(10,.t (.c (.d (.sl 1 ((zbv s locs (ka:Int)).1.map zai))))),(13,vp 19 0),(122,vb false)] [(18,.box (zan s)),(19,.box ([.d (.raw (.int .i64 (zal s locs (ka:Int) kk).kind)),.d (.sl 3 ((zal s locs (ka:Int) kk).r.t.parts.map za3.d))]++zi (zal s locs (ka:Int) kk).r.t.k++[.d (.raw (.bool (zal s locs (ka:Int) kk).r.eq)),.d (.sl 6 ((zal s locs (ka:Int) kk).kids.map za0.d))]))] h fun a w h=>zap false h rfl nofun (fun _=>qU (za1 (Je 21 [(1,.len (za6 1 zai ((zbv s locs (ka:Int)).1)))] [122] [(124,vI ((zbv s locs (ka:Int)).1.length:Int)),(125,vI 0)] h fun a w h=>qZ ?_)))
    refine zaq (ι:=Unit) (fun (z_:Unit)=>match z_ with | ()=>True)
      (fun (z_:Unit)=>match z_ with | ()=>[(1,.t (.c (.d (.sl 1 (locs.map zai))))),(2,vN ka),(3,vN kk),(4,vp 18 0),(9,vN s.vars.length),(10,.t (.c (.d (.sl 1 ((zbv s locs (ka:Int)).1.map zai))))),(13,vp 19 0),(124,vI ((zbv s locs (ka:Int)).1.length:Int)),(125,vI 0)])
      (fun (z_:Unit)=>match z_ with | ()=>[(18,.box (zan s)),(19,.box ([.d (.raw (.int .i64 (zal s locs (ka:Int) kk).kind)),.d (.sl 3 ((zal s locs (ka:Int) kk).r.t.parts.map za3.d))]++zi (zal s locs (ka:Int) kk).r.t.k++[.d (.raw (.bool (zal s locs (ka:Int) kk).r.eq)),.d (.sl 6 ((zal s locs (ka:Int) kk).kids.map za0.d))]))])
      (fun (z_:Unit)=>match z_ with | ()=>0) () ?_ h (by kernel_rfl) (by kernel_rfl) ?_
    ·trivial
    clear h;rintro ⟨⟩ a w hI h;change St _ (F.of [(1,.t (.c (.d (.sl 1 (locs.map zai))))),(2,vN ka),(3,vN kk),(4,vp 18 0),(9,vN s.vars.length),(10,.t (.c (.d (.sl 1 ((zbv s locs (ka:Int)).1.map zai))))),(13,vp 19 0),(124,vI ((zbv s locs (ka:Int)).1.length:Int)),(125,vI 0)] [(18,.box (zan s)),(19,.box ([.d (.raw (.int .i64 (zal s locs (ka:Int) kk).kind)),.d (.sl 3 ((zal s locs (ka:Int) kk).r.t.parts.map za3.d))]++zi (zal s locs (ka:Int) kk).r.t.k++[.d (.raw (.bool (zal s locs (ka:Int) kk).r.eq)),.d (.sl 6 ((zal s locs (ka:Int) kk).kids.map za0.d))]))]) a w at h;refine Jq 21 [(0,.cmp (op:=.lss) (m:=0) (n:=((zbv s locs (ka:Int)).1.length:Int)) (b:=false) .i64 (show (decide (0<((zbv s locs (ka:Int)).1.length:Int)))=false from by rw [zh1 (by omega) hbg];exact decide_eq_false (by simp)))] [(1,.t (.c (.d (.sl 1 (locs.map zai))))),(2,vN ka),(3,vN kk),(4,vp 18 0),(9,vN s.vars.length),(10,.t (.c (.d (.sl 1 ((zbv s locs (ka:Int)).1.map zai))))),(13,vp 19 0),(124,vI ((zbv s locs (ka:Int)).1.length:Int)),(125,vI 0),(126,vb false)] [(18,.box (zan s)),(19,.box ([.d (.raw (.int .i64 (zal s locs (ka:Int) kk).kind)),.d (.sl 3 ((zal s locs (ka:Int) kk).r.t.parts.map za3.d))]++zi (zal s locs (ka:Int) kk).r.t.k++[.d (.raw (.bool (zal s locs (ka:Int) kk).r.eq)),.d (.sl 6 ((zal s locs (ka:Int) kk).kids.map za0.d))]))] h fun a w h=>qW (zap false h rfl nofun (fun _=>wp_exit (zaa (zaa (za5 (za1 (qW (Jd 21 [(4,.call (LCanK s (ka:Int) kk hs3 hw9 (by omega)) zig),(8,.call (LStuck s locs kk hs3 hw9 (by omega) (by omega)) mj9_11),(11,.call (LRange s kk hs3 (by omega)) mg6_13),(14,.call (LStart s kk hs3 hw9 (by omega)) mj9_13),(15,.g (Op.buildD (d:=168) (len:=5) (rows:=[(zal s locs (ka:Int) kk),(zdh s (ka:Int) kk),(atF s (zbf s locs) kk),(atF s (zav s) kk),(atF s (zc7 [s.init,zav s]) kk)].map za0.d) (rs:=[(153,.t (.agg ([.d (.raw (.int .i64 (zal s locs (ka:Int) kk).kind)),.d (.sl 3 ((zal s locs (ka:Int) kk).r.t.parts.map za3.d))]++zi (zal s locs (ka:Int) kk).r.t.k++[.d (.raw (.bool (zal s locs (ka:Int) kk).r.eq)),.d (.sl 6 ((zal s locs (ka:Int) kk).kids.map za0.d))]))),(157,.t (.agg ([.d (.raw (.int .i64 (zdh s (ka:Int) kk).kind)),.d (.sl 3 ((zdh s (ka:Int) kk).r.t.parts.map za3.d))]++zi (zdh s (ka:Int) kk).r.t.k++[.d (.raw (.bool (zdh s (ka:Int) kk).r.eq)),.d (.sl 6 ((zdh s (ka:Int) kk).kids.map za0.d))]))),(161,.t (.agg ([.d (.raw (.int .i64 (atF s (zbf s locs) kk).kind)),.d (.sl 3 ((atF s (zbf s locs) kk).r.t.parts.map za3.d))]++zi (atF s (zbf s locs) kk).r.t.k++[.d (.raw (.bool (atF s (zbf s locs) kk).r.eq)),.d (.sl 6 ((atF s (zbf s locs) kk).kids.map za0.d))]))),(164,.t (.agg ([.d (.raw (.int .i64 (atF s (zav s) kk).kind)),.d (.sl 3 ((atF s (zav s) kk).r.t.parts.map za3.d))]++zi (atF s (zav s) kk).r.t.k++[.d (.raw (.bool (atF s (zav s) kk).r.eq)),.d (.sl 6 ((atF s (zav s) kk).kids.map za0.d))]))),(167,.t (.agg ([.d (.raw (.int .i64 (atF s (zc7 [s.init,zav s]) kk).kind)),.d (.sl 3 ((atF s (zc7 [s.init,zav s]) kk).r.t.parts.map za3.d))]++zi (atF s (zc7 [s.init,zav s]) kk).r.t.k++[.d (.raw (.bool (atF s (zc7 [s.init,zav s]) kk).r.eq)),.d (.sl 6 ((atF s (zc7 [s.init,zav s]) kk).kids.map za0.d))])))]) zh7 (.cons (i:=0) (OV.tmp 153 _) (.cons (i:=1) (OV.tmp 157 _) (.cons (i:=2) (OV.tmp 161 _) (.cons (i:=3) (OV.tmp 164 _) (.cons (i:=4) (OV.tmp 167 _) (.nil)))))) (by simp only [List.map_cons,List.map_nil,List.flatten_cons,List.flatten_nil,List.append_nil,za0.d_eq];kernel_rfl) rfl (by simp [za0.d_len]) (by decide) (by decide))),(16,.len (za6 6 za0.d ([(zal s locs (ka:Int) kk),(zdh s (ka:Int) kk),(atF s (zbf s locs) kk),(atF s (zav s) kk),(atF s (zc7 [s.init,zav s]) kk)])))] [1,2,4,10,13,124,125,126] [(168,.t (.c (.d (.sl 6 ([(zal s locs (ka:Int) kk),(zdh s (ka:Int) kk),(atF s (zbf s locs) kk),(atF s (zav s) kk),(atF s (zc7 [s.init,zav s]) kk)].map za0.d))))),(169,vI ([(zal s locs (ka:Int) kk),(zdh s (ka:Int) kk),(atF s (zbf s locs) kk),(atF s (zav s) kk),(atF s (zc7 [s.init,zav s]) kk)].length:Int)),(170,vI 0)] [] h fun a w h=>qZ ?_))))))));have hf5:(zc1 s locs (ka:Int) kk).length=5:=rfl;replace h:=h.conv (f':=F.of [(3,vN kk),(9,vN s.vars.length),(168,.t (.c (.d (.sl 6 ((zc1 s locs (ka:Int) kk).map za0.d))))),(169,vN 5),(170,vI 0)] []) (by rfl)
    refine zaq (ι:=(Nat)) (fun i=>i<=5)
      (fun i=>[(3,vN kk),(9,vN s.vars.length),(168,.t (.c (.d (.sl 6 ((zc1 s locs (ka:Int) kk).map za0.d))))),(169,vN 5),(170,vN i)])
      (fun i=>[])
      (fun i=>5 - i) 0 ?_ h (by kernel_rfl) (by kernel_rfl) ?_
    ·exact Nat.zero_le _
    clear h;rintro i a w hI h;refine Jd 21 [] [] [(171,vb (decide ((i:Int)<(5:Int))))] [] h fun a w h=>qW (zam ((i:Int)<(5:Int)) h (fun hc18 hc18'=>?_) (fun hc23 hc23'=>?_))
    ·refine qU (za1 (qW (qZ ?_)));obtain ⟨x26,hx26⟩:=gl (zc1 s locs (ka:Int) kk) i;have hokx26:=five_ok hs3 hw9 locs (ka:Int) kk x26 (lM hx26);have hinx26:=five_in (pro_of hc2) locs (ka:Int) lvs (show kk<=4096 by omega) hmkv hx26;have lvfx26:=zf4 x26 hokx26.1;refine Jd 21 [(1,.g (xD 173 168 ziz ((zab hx26 (f:=za0.d)).trans (congrArg some (za0.d_eq x26))) (OV.tmp 170 _)))] [171] [(16,vN i),(17,vp 21 0)] [(21,.box ([.d (.raw (.int .i64 x26.kind)),.d (.sl 3 (x26.r.t.parts.map za3.d))]++zi x26.r.t.k++[.d (.raw (.bool x26.r.eq)),.d (.sl 6 (x26.kids.map za0.d))]))] h fun a w h=>Jd 22 [(1,.call (zic x26 hokx26.1 hokx26.2) mf5_8)] [17] [(18,.t (.c (.d (.sl 1 ((za0.vars x26).map zai)))))] [] h fun a w h=>Jd 22 [(1,.add .i64 (m:=(kk:Int)) (n:=1) i6),(3,.g (Op.arith (op:=.mul) (d:=180) (xt:=3) (yt:=3) (k:=.i64) (m:=((kk:Int)+1)) (n:=(s.vars.length:Int)) (r:=((mkv:Int)+(s.vars.length:Int))) (OV.tmp 178 _) (OV.tmp 179 _) (.inr (.inr ⟨rfl,(show _=_ from by rw [Int.add_mul,Int.one_mul,hmk3])⟩)) i6))] [] [(19,vI ((mkv:Int)+(s.vars.length:Int)))] [] h fun a w h=>midH h [(3,vN kk),(9,vN s.vars.length),(18,.t (.c (.d (.sl 1 ((za0.vars x26).map zai))))),(19,vI ((mkv:Int)+(s.vars.length:Int)+(if i=0 then (s.vars.length:Int) else 0))),(168,.t (.c (.d (.sl 6 ((zc1 s locs (ka:Int) kk).map za0.d))))),(169,vN 5),(170,vN i)] [] ?_ (fun a w h=>?_)
     ·refine Jd 22 [] [16] [(182,vb ((i:Int) == 0))] [] h fun a w h=>cS ((i:Int) == 0) h (fun hc19=>?_) (fun hc20=>?_)
      ·have hc19':=hc19;(try simp at hc19');refine Jm 22 [(2,.add .i64 (m:=((mkv:Int)+(s.vars.length:Int))) (n:=(s.vars.length:Int)) i6)] [182] [(19,vI (((mkv:Int)+(s.vars.length:Int))+(s.vars.length:Int)))] [] h fun a w h=>za1 ?_;have hcn:((mkv:Int)+(s.vars.length:Int)+(if i=0 then (s.vars.length:Int) else 0))=((mkv:Int)+(s.vars.length:Int))+(s.vars.length:Int):=by have h8:=hc19;simp at h8;rw [if_pos (by omega)]
       replace h:=h.conv (f':=F.of [(3,vN kk),(9,vN s.vars.length),(18,.t (.c (.d (.sl 1 ((za0.vars x26).map zai))))),(19,vI ((mkv:Int)+(s.vars.length:Int)+(if i=0 then (s.vars.length:Int) else 0))),(168,.t (.c (.d (.sl 6 ((zc1 s locs (ka:Int) kk).map za0.d))))),(169,vN 5),(170,vN i)] []) (by rw [hcn];kernel_rfl);exact atS h
      have hc20':=hc20;(try simp at hc20');refine qU (za1 ?_);have hcn:((mkv:Int)+(s.vars.length:Int)+(if i=0 then (s.vars.length:Int) else 0))=((mkv:Int)+(s.vars.length:Int)):=by have h8:=hc20;simp at h8;rw [if_neg (by omega),Int.add_zero]
      replace h:=h.conv (f':=F.of [(3,vN kk),(9,vN s.vars.length),(18,.t (.c (.d (.sl 1 ((za0.vars x26).map zai))))),(19,vI ((mkv:Int)+(s.vars.length:Int)+(if i=0 then (s.vars.length:Int) else 0))),(168,.t (.c (.d (.sl 6 ((zc1 s locs (ka:Int) kk).map za0.d))))),(169,vN 5),(170,vN i),(182,vb ((i:Int) == 0))] []) (by rw [hcn];kernel_rfl);exact atS h
     rcases Bool.eq_false_or_eq_true (decide (((za0.vars x26).length:Int)>0)) with hc21 | hc22
     ·have hc21':=dT hc21;obtain ⟨x28,hx28⟩:=gl (za0.vars x26) 0;obtain ⟨jl,hjl⟩:∃ j_:Nat,j_+1=(za0.vars x26).length:=⟨(za0.vars x26).length - 1,by have:=dT hc21;omega⟩;obtain ⟨x29,hx29⟩:=gl (za0.vars x26) jl;refine Jd 22 [(1,.len (za6 1 zai (za0.vars x26))),(2,.cmp (op:=.gtr) (m:=((za0.vars x26).length:Int)) (n:=0) (b:=true) .i64 hc21),(5,.g (xD 191 190 zfm (zab hx28 (f:=zai)) (OV.const (.int .i64 0) rfl))),(9,.g (Op.arith (op:=.mul) (d:=195) (xt:=3) (yt:=3) (k:=.i64) (m:=(kk:Int)) (n:=(s.vars.length:Int)) (r:=(mkv:Int)) (OV.tmp 193 _) (OV.tmp 194 _) (.inr (.inr ⟨rfl,hmk3.symm⟩)) i6)),(10,.cmp (op:=.lss) (m:=x28) (n:=(mkv:Int)) (b:=false) .i64 (decide_eq_false (zhb hinx26 hx28))),(14,.len (za6 1 zai (za0.vars x26))),(15,.g (Op.arith (op:=.sub) (d:=201) (xt:=3) (yt:=3) (k:=.i64) (m:=((za0.vars x26).length:Int)) (n:=1) (r:=(jl:Int)) (OV.tmp 200 _) (OV.const (.int .i64 1) rfl) (.inr (.inl ⟨rfl,(by omega)⟩)) i6)),(16,.g (xD 202 198 zfm (zab hx29 (f:=zai)) (OV.tmp 201 _))),(19,.cmp (op:=.geq) (m:=x29) (n:=((mkv:Int)+(s.vars.length:Int)+(if i=0 then (s.vars.length:Int) else 0))) (b:=false) .i64 (decide_eq_false (last_in (hi:=((mkv:Int)+(s.vars.length:Int)+(if i=0 then (s.vars.length:Int) else 0))) hinx26 hx29)))] [18,19] [(207,vb false)] [] h fun a w h=>zap false h rfl nofun (fun _=>qU (za9 (za1 (Jm 22 [(0,.j1 i)] [207] [(170,vI ((i:Int)+1))] [] h fun a w h=>za1 (zag (x:=i) (y:=i+1) h ?_ ?_)))))
      ·show i+1<=5;omega
      show 5 - (i+1)<5 - i;omega
     have hc22':=dF hc22;refine Jd 22 [(1,.len (za6 1 zai (za0.vars x26))),(2,.cmp (op:=.gtr) (m:=((za0.vars x26).length:Int)) (n:=0) (b:=false) .i64 hc22)] [18,19] [(207,vb false)] [] h fun a w h=>zap false h rfl nofun (fun _=>qU (za9 (za1 (Jm 22 [(0,.j1 i)] [207] [(170,vI ((i:Int)+1))] [] h fun a w h=>za1 (zag (x:=i) (y:=i+1) h ?_ ?_)))))
     ·show i+1<=5;omega
     show 5 - (i+1)<5 - i;omega
    refine wp_exit (zaa (zaa (za5 (za1 (Jq 22 [] [(8,vb true)] [] h fun a w h=>qV (rT (.c (.d (.raw (.bool true)))) h rfl ?_))))));rfl
   have hc24':=hc24;(try simp at hc24');have hbg:=beg_len hka hsd (locs:=locs) (fun e=>by have:=hc24;simp [e] at this);rw [hc24] at h;refine Jq 22 [] [(1,.t (.c (.d (.sl 1 (locs.map zai))))),(2,vN ka),(3,vN kk),(4,vp 18 0),(8,vb false),(9,vN s.vars.length),(10,.t (.c (.d (.sl 1 ((zbv s locs (ka:Int)).1.map zai))))),(11,vb (zbv s locs (ka:Int)).2),(12,vb false)] [(18,.box (zan s))] h fun a w h=>Jd 22 [(4,.call (LStep s locs (ka:Int) kk hs3 hw9 (by omega) (by omega)) mj9_5)] [] [(13,vp 22 0)] [(18,.box (zan s)),(22,.box ([.d (.raw (.int .i64 (zal s locs (ka:Int) kk).kind)),.d (.sl 3 ((zal s locs (ka:Int) kk).r.t.parts.map za3.d))]++zi (zal s locs (ka:Int) kk).r.t.k++[.d (.raw (.bool (zal s locs (ka:Int) kk).r.eq)),.d (.sl 6 ((zal s locs (ka:Int) kk).kids.map za0.d))]))] h fun a w h=>qW (Je 23 [(1,.cmp (op:=.eql) (m:=(ka:Int)) (n:=(-1)) (b:=false) .i64 (beq_eq_false_iff_ne.2 (by omega)))] [] [(83,vb false)] h fun a w h=>zap false h rfl nofun (fun _=>qW (Je 23 [(2,.cmpb .neq (m:=(zbv s locs (ka:Int)).2) (n:=false) (b:=false) (.inr ⟨rfl,(show ((zbv s locs (ka:Int)).2 != false)=false from by rw [zh1 (by omega) hbg];rfl).symm⟩)),(9,.cmp (op:=.neq) (m:=(zal s locs (ka:Int) kk).kind) (n:=1) (b:=false) .i64 (show ((zal s locs (ka:Int) kk).kind != 1)=false from by rw [stp_no (by omega) hbg];rfl)),(12,.len (za6 1 zai ((zbv s locs (ka:Int)).1))),(13,.cmp (op:=.neq) (m:=((zbv s locs (ka:Int)).1.length:Int)) (n:=0) (b:=false) .i64 (show (((zbv s locs (ka:Int)).1.length:Int) != 0)=false from by rw [zh1 (by omega) hbg];rfl)),(20,.call (Fn.cast (Lsnd s (ka:Int) hs3) (show (vb (za8 s (ka:Int)).2:V)=vb true from by rw [hsd])) mo2_11)] [11,12,83] [(122,vb false)] h fun a w h=>zap false h rfl nofun (fun _=>qU (za1 (Je 23 [(1,.len (za6 1 zai ((zbv s locs (ka:Int)).1)))] [122] [(124,vI ((zbv s locs (ka:Int)).1.length:Int)),(125,vI 0)] h fun a w h=>qZ ?_))))))
   refine zaq (ι:=Unit) (fun (z_:Unit)=>match z_ with | ()=>True)
     (fun (z_:Unit)=>match z_ with | ()=>[(1,.t (.c (.d (.sl 1 (locs.map zai))))),(2,vN ka),(3,vN kk),(4,vp 18 0),(9,vN s.vars.length),(10,.t (.c (.d (.sl 1 ((zbv s locs (ka:Int)).1.map zai))))),(13,vp 22 0),(124,vI ((zbv s locs (ka:Int)).1.length:Int)),(125,vI 0)])
     (fun (z_:Unit)=>match z_ with | ()=>[(18,.box (zan s)),(22,.box ([.d (.raw (.int .i64 (zal s locs (ka:Int) kk).kind)),.d (.sl 3 ((zal s locs (ka:Int) kk).r.t.parts.map za3.d))]++zi (zal s locs (ka:Int) kk).r.t.k++[.d (.raw (.bool (zal s locs (ka:Int) kk).r.eq)),.d (.sl 6 ((zal s locs (ka:Int) kk).kids.map za0.d))]))])
     (fun (z_:Unit)=>match z_ with | ()=>0) () ?_ h (by kernel_rfl) (by kernel_rfl) ?_
   ·trivial
   clear h;rintro ⟨⟩ a w hI h;change St _ (F.of [(1,.t (.c (.d (.sl 1 (locs.map zai))))),(2,vN ka),(3,vN kk),(4,vp 18 0),(9,vN s.vars.length),(10,.t (.c (.d (.sl 1 ((zbv s locs (ka:Int)).1.map zai))))),(13,vp 22 0),(124,vI ((zbv s locs (ka:Int)).1.length:Int)),(125,vI 0)] [(18,.box (zan s)),(22,.box ([.d (.raw (.int .i64 (zal s locs (ka:Int) kk).kind)),.d (.sl 3 ((zal s locs (ka:Int) kk).r.t.parts.map za3.d))]++zi (zal s locs (ka:Int) kk).r.t.k++[.d (.raw (.bool (zal s locs (ka:Int) kk).r.eq)),.d (.sl 6 ((zal s locs (ka:Int) kk).kids.map za0.d))]))]) a w at h;refine Jq 23 [(0,.cmp (op:=.lss) (m:=0) (n:=((zbv s locs (ka:Int)).1.length:Int)) (b:=false) .i64 (show (decide (0<((zbv s locs (ka:Int)).1.length:Int)))=false from by rw [zh1 (by omega) hbg];exact decide_eq_false (by simp)))] [(1,.t (.c (.d (.sl 1 (locs.map zai))))),(2,vN ka),(3,vN kk),(4,vp 18 0),(9,vN s.vars.length),(10,.t (.c (.d (.sl 1 ((zbv s locs (ka:Int)).1.map zai))))),(13,vp 22 0),(124,vI ((zbv s locs (ka:Int)).1.length:Int)),(125,vI 0),(126,vb false)] [(18,.box (zan s)),(22,.box ([.d (.raw (.int .i64 (zal s locs (ka:Int) kk).kind)),.d (.sl 3 ((zal s locs (ka:Int) kk).r.t.parts.map za3.d))]++zi (zal s locs (ka:Int) kk).r.t.k++[.d (.raw (.bool (zal s locs (ka:Int) kk).r.eq)),.d (.sl 6 ((zal s locs (ka:Int) kk).kids.map za0.d))]))] h fun a w h=>qW (zap false h rfl nofun (fun _=>wp_exit (zaa (zaa (za5 (za1 (qW (Jd 23 [(4,.call (LCanK s (ka:Int) kk hs3 hw9 (by omega)) zig),(8,.call (LStuck s locs kk hs3 hw9 (by omega) (by omega)) mj9_11),(11,.call (LRange s kk hs3 (by omega)) mg6_13),(14,.call (LStart s kk hs3 hw9 (by omega)) mj9_13),(15,.g (Op.buildD (d:=168) (len:=5) (rows:=[(zal s locs (ka:Int) kk),(zdh s (ka:Int) kk),(atF s (zbf s locs) kk),(atF s (zav s) kk),(atF s (zc7 [s.init,zav s]) kk)].map za0.d) (rs:=[(153,.t (.agg ([.d (.raw (.int .i64 (zal s locs (ka:Int) kk).kind)),.d (.sl 3 ((zal s locs (ka:Int) kk).r.t.parts.map za3.d))]++zi (zal s locs (ka:Int) kk).r.t.k++[.d (.raw (.bool (zal s locs (ka:Int) kk).r.eq)),.d (.sl 6 ((zal s locs (ka:Int) kk).kids.map za0.d))]))),(157,.t (.agg ([.d (.raw (.int .i64 (zdh s (ka:Int) kk).kind)),.d (.sl 3 ((zdh s (ka:Int) kk).r.t.parts.map za3.d))]++zi (zdh s (ka:Int) kk).r.t.k++[.d (.raw (.bool (zdh s (ka:Int) kk).r.eq)),.d (.sl 6 ((zdh s (ka:Int) kk).kids.map za0.d))]))),(161,.t (.agg ([.d (.raw (.int .i64 (atF s (zbf s locs) kk).kind)),.d (.sl 3 ((atF s (zbf s locs) kk).r.t.parts.map za3.d))]++zi (atF s (zbf s locs) kk).r.t.k++[.d (.raw (.bool (atF s (zbf s locs) kk).r.eq)),.d (.sl 6 ((atF s (zbf s locs) kk).kids.map za0.d))]))),(164,.t (.agg ([.d (.raw (.int .i64 (atF s (zav s) kk).kind)),.d (.sl 3 ((atF s (zav s) kk).r.t.parts.map za3.d))]++zi (atF s (zav s) kk).r.t.k++[.d (.raw (.bool (atF s (zav s) kk).r.eq)),.d (.sl 6 ((atF s (zav s) kk).kids.map za0.d))]))),(167,.t (.agg ([.d (.raw (.int .i64 (atF s (zc7 [s.init,zav s]) kk).kind)),.d (.sl 3 ((atF s (zc7 [s.init,zav s]) kk).r.t.parts.map za3.d))]++zi (atF s (zc7 [s.init,zav s]) kk).r.t.k++[.d (.raw (.bool (atF s (zc7 [s.init,zav s]) kk).r.eq)),.d (.sl 6 ((atF s (zc7 [s.init,zav s]) kk).kids.map za0.d))])))]) zh7 (.cons (i:=0) (OV.tmp 153 _) (.cons (i:=1) (OV.tmp 157 _) (.cons (i:=2) (OV.tmp 161 _) (.cons (i:=3) (OV.tmp 164 _) (.cons (i:=4) (OV.tmp 167 _) (.nil)))))) (by simp only [List.map_cons,List.map_nil,List.flatten_cons,List.flatten_nil,List.append_nil,za0.d_eq];kernel_rfl) rfl (by simp [za0.d_len]) (by decide) (by decide))),(16,.len (za6 6 za0.d ([(zal s locs (ka:Int) kk),(zdh s (ka:Int) kk),(atF s (zbf s locs) kk),(atF s (zav s) kk),(atF s (zc7 [s.init,zav s]) kk)])))] [1,2,4,10,13,124,125,126] [(168,.t (.c (.d (.sl 6 ([(zal s locs (ka:Int) kk),(zdh s (ka:Int) kk),(atF s (zbf s locs) kk),(atF s (zav s) kk),(atF s (zc7 [s.init,zav s]) kk)].map za0.d))))),(169,vI ([(zal s locs (ka:Int) kk),(zdh s (ka:Int) kk),(atF s (zbf s locs) kk),(atF s (zav s) kk),(atF s (zc7 [s.init,zav s]) kk)].length:Int)),(170,vI 0)] [] h fun a w h=>qZ ?_))))))));have hf5:(zc1 s locs (ka:Int) kk).length=5:=rfl;replace h:=h.conv (f':=F.of [(3,vN kk),(9,vN s.vars.length),(168,.t (.c (.d (.sl 6 ((zc1 s locs (ka:Int) kk).map za0.d))))),(169,vN 5),(170,vI 0)] []) (by rfl)
   refine zaq (ι:=(Nat)) (fun i=>i<=5)
     (fun i=>[(3,vN kk),(9,vN s.vars.length),(168,.t (.c (.d (.sl 6 ((zc1 s locs (ka:Int) kk).map za0.d))))),(169,vN 5),(170,vN i)])
     (fun i=>[])
     (fun i=>5 - i) 0 ?_ h (by kernel_rfl) (by kernel_rfl) ?_
   ·exact Nat.zero_le _
   clear h;rintro i a w hI h;refine Jd 23 [] [] [(171,vb (decide ((i:Int)<(5:Int))))] [] h fun a w h=>qW (zam ((i:Int)<(5:Int)) h (fun hc25 hc25'=>?_) (fun hc30 hc30'=>?_))
   ·refine qU (za1 (qW (qZ ?_)));obtain ⟨x36,hx36⟩:=gl (zc1 s locs (ka:Int) kk) i;have hokx36:=five_ok hs3 hw9 locs (ka:Int) kk x36 (lM hx36);have hinx36:=five_in (pro_of hc2) locs (ka:Int) lvs (show kk<=4096 by omega) hmkv hx36;have lvfx36:=zf4 x36 hokx36.1;refine Jd 23 [(1,.g (xD 173 168 ziz ((zab hx36 (f:=za0.d)).trans (congrArg some (za0.d_eq x36))) (OV.tmp 170 _)))] [171] [(16,vN i),(17,vp 23 0)] [(23,.box ([.d (.raw (.int .i64 x36.kind)),.d (.sl 3 (x36.r.t.parts.map za3.d))]++zi x36.r.t.k++[.d (.raw (.bool x36.r.eq)),.d (.sl 6 (x36.kids.map za0.d))]))] h fun a w h=>Jd 24 [(1,.call (zic x36 hokx36.1 hokx36.2) mf5_8)] [17] [(18,.t (.c (.d (.sl 1 ((za0.vars x36).map zai)))))] [] h fun a w h=>Jd 24 [(1,.add .i64 (m:=(kk:Int)) (n:=1) i6),(3,.g (Op.arith (op:=.mul) (d:=180) (xt:=3) (yt:=3) (k:=.i64) (m:=((kk:Int)+1)) (n:=(s.vars.length:Int)) (r:=((mkv:Int)+(s.vars.length:Int))) (OV.tmp 178 _) (OV.tmp 179 _) (.inr (.inr ⟨rfl,(show _=_ from by rw [Int.add_mul,Int.one_mul,hmk3])⟩)) i6))] [] [(19,vI ((mkv:Int)+(s.vars.length:Int)))] [] h fun a w h=>midH h [(3,vN kk),(9,vN s.vars.length),(18,.t (.c (.d (.sl 1 ((za0.vars x36).map zai))))),(19,vI ((mkv:Int)+(s.vars.length:Int)+(if i=0 then (s.vars.length:Int) else 0))),(168,.t (.c (.d (.sl 6 ((zc1 s locs (ka:Int) kk).map za0.d))))),(169,vN 5),(170,vN i)] [] ?_ (fun a w h=>?_)
    ·refine Jd 24 [] [16] [(182,vb ((i:Int) == 0))] [] h fun a w h=>cS ((i:Int) == 0) h (fun hc26=>?_) (fun hc27=>?_)
     ·have hc26':=hc26;(try simp at hc26');refine Jm 24 [(2,.add .i64 (m:=((mkv:Int)+(s.vars.length:Int))) (n:=(s.vars.length:Int)) i6)] [182] [(19,vI (((mkv:Int)+(s.vars.length:Int))+(s.vars.length:Int)))] [] h fun a w h=>za1 ?_;have hcn:((mkv:Int)+(s.vars.length:Int)+(if i=0 then (s.vars.length:Int) else 0))=((mkv:Int)+(s.vars.length:Int))+(s.vars.length:Int):=by have h8:=hc26;simp at h8;rw [if_pos (by omega)]
      replace h:=h.conv (f':=F.of [(3,vN kk),(9,vN s.vars.length),(18,.t (.c (.d (.sl 1 ((za0.vars x36).map zai))))),(19,vI ((mkv:Int)+(s.vars.length:Int)+(if i=0 then (s.vars.length:Int) else 0))),(168,.t (.c (.d (.sl 6 ((zc1 s locs (ka:Int) kk).map za0.d))))),(169,vN 5),(170,vN i)] []) (by rw [hcn];kernel_rfl);exact atS h
     have hc27':=hc27;(try simp at hc27');refine qU (za1 ?_);have hcn:((mkv:Int)+(s.vars.length:Int)+(if i=0 then (s.vars.length:Int) else 0))=((mkv:Int)+(s.vars.length:Int)):=by have h8:=hc27;simp at h8;rw [if_neg (by omega),Int.add_zero]
     replace h:=h.conv (f':=F.of [(3,vN kk),(9,vN s.vars.length),(18,.t (.c (.d (.sl 1 ((za0.vars x36).map zai))))),(19,vI ((mkv:Int)+(s.vars.length:Int)+(if i=0 then (s.vars.length:Int) else 0))),(168,.t (.c (.d (.sl 6 ((zc1 s locs (ka:Int) kk).map za0.d))))),(169,vN 5),(170,vN i),(182,vb ((i:Int) == 0))] []) (by rw [hcn];kernel_rfl);exact atS h
    rcases Bool.eq_false_or_eq_true (decide (((za0.vars x36).length:Int)>0)) with hc28 | hc29
    ·have hc28':=dT hc28;obtain ⟨x38,hx38⟩:=gl (za0.vars x36) 0;obtain ⟨jl,hjl⟩:∃ j_:Nat,j_+1=(za0.vars x36).length:=⟨(za0.vars x36).length - 1,by have:=dT hc28;omega⟩;obtain ⟨x39,hx39⟩:=gl (za0.vars x36) jl;refine Jd 24 [(1,.len (za6 1 zai (za0.vars x36))),(2,.cmp (op:=.gtr) (m:=((za0.vars x36).length:Int)) (n:=0) (b:=true) .i64 hc28),(5,.g (xD 191 190 zfm (zab hx38 (f:=zai)) (OV.const (.int .i64 0) rfl))),(9,.g (Op.arith (op:=.mul) (d:=195) (xt:=3) (yt:=3) (k:=.i64) (m:=(kk:Int)) (n:=(s.vars.length:Int)) (r:=(mkv:Int)) (OV.tmp 193 _) (OV.tmp 194 _) (.inr (.inr ⟨rfl,hmk3.symm⟩)) i6)),(10,.cmp (op:=.lss) (m:=x38) (n:=(mkv:Int)) (b:=false) .i64 (decide_eq_false (zhb hinx36 hx38))),(14,.len (za6 1 zai (za0.vars x36))),(15,.g (Op.arith (op:=.sub) (d:=201) (xt:=3) (yt:=3) (k:=.i64) (m:=((za0.vars x36).length:Int)) (n:=1) (r:=(jl:Int)) (OV.tmp 200 _) (OV.const (.int .i64 1) rfl) (.inr (.inl ⟨rfl,(by omega)⟩)) i6)),(16,.g (xD 202 198 zfm (zab hx39 (f:=zai)) (OV.tmp 201 _))),(19,.cmp (op:=.geq) (m:=x39) (n:=((mkv:Int)+(s.vars.length:Int)+(if i=0 then (s.vars.length:Int) else 0))) (b:=false) .i64 (decide_eq_false (last_in (hi:=((mkv:Int)+(s.vars.length:Int)+(if i=0 then (s.vars.length:Int) else 0))) hinx36 hx39)))] [18,19] [(207,vb false)] [] h fun a w h=>zap false h rfl nofun (fun _=>qU (za9 (za1 (Jm 24 [(0,.j1 i)] [207] [(170,vI ((i:Int)+1))] [] h fun a w h=>za1 (zag (x:=i) (y:=i+1) h ?_ ?_)))))
     ·show i+1<=5;omega
     show 5 - (i+1)<5 - i;omega
    have hc29':=dF hc29;refine Jd 24 [(1,.len (za6 1 zai (za0.vars x36))),(2,.cmp (op:=.gtr) (m:=((za0.vars x36).length:Int)) (n:=0) (b:=false) .i64 hc29)] [18,19] [(207,vb false)] [] h fun a w h=>zap false h rfl nofun (fun _=>qU (za9 (za1 (Jm 24 [(0,.j1 i)] [207] [(170,vI ((i:Int)+1))] [] h fun a w h=>za1 (zag (x:=i) (y:=i+1) h ?_ ?_)))))
    ·show i+1<=5;omega
    show 5 - (i+1)<5 - i;omega
   refine wp_exit (zaa (zaa (za5 (za1 (Jq 24 [] [(8,vb true)] [] h fun a w h=>qV (rT (.c (.d (.raw (.bool true)))) h rfl ?_))))));rfl
  refine Je 24 [(1,.call (Fn.cast (Fn.argw (zhi s [] hs (by intro x_ hx_;cases hx_) (by simp)) (.cons _ _ _ _ (.refl _) (.cons _ _ _ _ (.c _ _ (.nil _)) .nil))) (congrArg vb hc1)) mo2_2),(5,.call (Fn.cast (zib s hs3 hw9) (congrArg vb hc31)) mo2_3)] [21] [(34,vb true)] h fun a w h=>cS true h (fun _=>?_) nofun
  refine Je 24 [] [34] [(8,vb true)] h fun a w h=>qV (za7 (rT (.c (.d (.raw (.bool true)))) h rfl ?_));rfl
 refine Je 24 [(1,.call (Fn.cast (Fn.argw (zhi s [] hs (by intro x_ hx_;cases hx_) (by simp)) (.cons _ _ _ _ (.refl _) (.cons _ _ _ _ (.c _ _ (.nil _)) .nil))) (congrArg vb hc32)) mo2_2)] [21] [(34,vb true)] h fun a w h=>cS true h (fun _=>?_) nofun
 refine Je 24 [] [34] [(8,vb true)] h fun a w h=>qV (za7 (rT (.c (.d (.raw (.bool true)))) h rfl ?_));rfl
theorem LWpPlaces (s:zar) (locs:List Int) (act k:Int) (hs:SysRd s) (hl:locs.length<=9223372036854775807):Fn Tryz.prog 6 [] [vG (zan s),(vIs locs),vi .i64 act,vi .i64 k] (vb true) []:=by
 by_cases ha:act=-1
 ·subst ha;exact LWpPlacesM s locs k hs hl
 ·cases hsd:(za8 s act).2 with
  | false=>exact LWpPlacesN s locs act k hs hl ha hsd
  | true =>
   obtain ⟨h0,h1⟩:=snd_idx hsd
   obtain ⟨ka,rfl⟩:∃ ka:Nat,act=(ka:Int):=⟨act.toNat,(Int.toNat_of_nonneg h0).symm⟩
   obtain ⟨c,hc⟩:∃ c,s.acts[ka]?=some c:=⟨_,List.getElem?_eq_getElem (by omega)⟩
   have hp:=ze0 hsd
   rw [snd_at hc] at hp
   obtain ⟨kp,hk⟩:∃ kp:Nat,c.proc=(kp:Int):=⟨c.proc.toNat,(Int.toNat_of_nonneg hp.1).symm⟩
   exact LWpPlacesS s locs ka kp c k hs hl (hc.trans (by cases c;cases hk;rfl)) hsd
theorem LWpPlacesW (s:zar) (locs:List Int) (act k:Int) (hs:SysRd s) (hl:locs.length<=9223372036854775807):Fn Tryz.prog 6 [] [vd (zar.d s),(vIs locs),vi .i64 act,vi .i64 k] (vb true) [] :=
 LWpPlaces s locs act k hs hl
end S
end Go.Proofs.YtckmanpooapkpaaGreat
section
namespace Go.Proofs.YtckmanpooapkpaaGreat.wpPlacesDone
open Go.ChangeShapes Go.WideShapes Go.ChangeAt Go.RowKit
open Go.ChangeMaps (open_string shut_string)
open Go.Proofs.YtckmanpooapkpaaGreat.S

theorem own:ownKnob Tryz.prog.godebug=none:=by kernel_rfl
theorem laidOut:laidOutB Tryz.prog=true:=by kernel_rfl

theorem lifted (os:Os) (started:os.Started) (H:Type) (enc:TypeId × Value->H) :
  ReturnsInHanded {} Tryz.checked os 6 .any (Rows.wpPlacesSpec.pre6 enc Tryz.prog Tryz.f6 Rows.wpPlacesRow.domain false) (Rows.wpPlacesSpec.post enc Tryz.prog Tryz.f6 false true false false):=by
 refine returnsInHanded_of_change (C:=Tryz.checked) own started (by kernel_rfl) Tryz.func6
  (ChangeSpec.witness6 (enc:=enc) (C:=Tryz.checked) false ⟨#[],#[.agg #[.slice none 0 0,.slice none 0 0,.int .i64 0,.slice none 0 0,.bool false,.slice none 0 0,.bool false,.slice none 0 0,.slice none 0 0,.slice none 0 0],.slice none 0 0,.int .i64 0,.int .i64 0],[]⟩ 12 (by kernel_rfl) (by kernel_rfl) (by kernel_rfl) (by kernel_rfl)) ?_
 intro W base args ds gs before hval0 hW hcnd _
 have hval:∀ (j:Nat) t v,Tryz.f6.params[j]?=some t->args[j]?=some v->Value.okWide Tryz.prog W .any base t v:=hval0
 have hW':=hW
 obtain ⟨p,q,hA0,hV,rfl,hfz,hnd⟩:=hW
 have hA:DataW.TrodAll enc Tryz.prog W 0 (fun _=>true) true Tryz.f6.params.toList args.toList ds p:=hA0
 rw [Tryz.params6] at hA hval
 obtain ⟨v0,vs0,d0,ds0,p0,q0,hargs,rfl,rfl,h0,r0⟩:=trodAll_cons hA
 obtain ⟨v1,vs1,d1,ds1,p1,q1,rfl,rfl,rfl,h1,r1⟩:=trodAll_cons r0
 obtain ⟨v2,vs2,d2,ds2,p2,q2,rfl,rfl,rfl,h2,r2⟩:=trodAll_cons r1
 obtain ⟨v3,vs3,d3,ds3,p3,q3,rfl,rfl,rfl,h3,r3⟩:=trodAll_cons r2
 obtain ⟨rfl,rfl,rfl⟩:=trodAll_nil r3
 obtain rfl:args=#[v0,v1,v2,v3]:=by cases args;simp_all
 obtain ⟨rfl,rfl⟩:=trodVars_none hV
 have k0:=h0
 have lt0:∀ x ∈ p0,x.block<W.heap.size:=by obtain ⟨m,hm⟩:=k0;exact DataW.trod_lt m _ _ _ hm
 obtain ⟨a0,cs0,g0,rfl,dr0⟩:=rep_agg Tryz.underlying39 (fun _=>rep_Sys) (hval 0 39 v0 rfl rfl) h0
 have k1:=h1
 have lt1:∀ x ∈ p1,x.block<W.heap.size:=by obtain ⟨m,hm⟩:=k1;exact DataW.trod_lt m _ _ _ hm
 obtain ⟨a1,ao1,len1,cap1,g1,rfl,dr1⟩:=rep_one Tryz.underlying40 (fun _=>rep_ints) (hval 1 40 v1 rfl rfl) h1
 obtain ⟨a2,rfl,rfl,rfl,g20⟩:=open_int Tryz.underlying3 (hval 2 3 v2 rfl rfl) h2
 have g2:-9223372036854775808<=a2/\a2<=9223372036854775807:=by have:=bounds_i64 g20;omega
 obtain ⟨a3,rfl,rfl,rfl,g30⟩:=open_int Tryz.underlying3 (hval 3 3 v3 rfl rfl) h3
 have g3:-9223372036854775808<=a3/\a3<=9223372036854775807:=by have:=bounds_i64 g30;omega
 clear hA0 hval0
 refine ((LWpPlacesW a0 a1 a2 a3 g0 g1.1).calls (w:=W) (vals:=[.agg ⟨cs0⟩,.slice ao1 len1 cap1,.int .i64 a2,.int .i64 a3]) fun B=>⟨dr_vd dr0 B,dr1,DR.raw _ rfl,DR.raw _ rfl,trivial⟩).mono fun e W' ⟨he,bel⟩=>?_
 subst he
 exact ⟨_,rfl,_,_,_,[],_,[],hW', trodAll_mk1 (shut_bool Tryz.underlying4 _),(trodAll_cons_mk (Below.trod laidOut (by kernel_rfl) (of_decide_eq_true (by kernel_rfl)) k0 bel lt0) (trodAll_cons_mk (Below.trod laidOut (by kernel_rfl) (of_decide_eq_true (by kernel_rfl)) k1 bel lt1) (trodAll_cons_mk (shut_int Tryz.underlying3 g20) (trodAll_cons_mk (shut_int Tryz.underlying3 g30) trodAll_mk0)))),rfl,bel.below.frame _,fun h=>by cases h⟩

theorem over:Rows.wpPlacesRow.holds Tryz.pinned (OpenSpec.ofChange Rows.wpPlacesSpec) :=
 OpenClaim.holds_of_wide 6 Tryz.f6 rfl rfl rfl rfl rfl rfl rfl ⟨rfl,rfl,rfl,rfl,rfl⟩ rfl rfl rfl rfl rfl (by kernel_rfl) Tryz.func6 (by kernel_rfl)
  (of_decide_eq_true (by kernel_rfl)) (by unfold Func.isWrapper;first | (rw [if_pos (by decide +kernel)];kernel_rfl) | (rw [if_neg (by decide +kernel)];exact ⟨rfl,rfl⟩))
  (fun os started H enc _=>lifted os started H enc)

theorem proved:Rows.WpPlacesSaid:=over
end Go.Proofs.YtckmanpooapkpaaGreat.wpPlacesDone
end
