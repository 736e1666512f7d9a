/-
  Part 5 of the proof of the statement ConfineFuel: the walk through the program and the references lifted to the given row. It holds for every input.
-/
import Derived.Test.YtdnhcneallkljaaGreatCF4
import Derived.Test.YtdnhcneallkljaaGreatCF3
import Derived.Test.YtdnhcneallkljaaGreatCF2
import Derived.SizedLaws
import Derived.Test.YtdnhcneallkljaaGreatCF1
import Derived.Maps.Keyed
import Derived.DeepKeys4
set_option maxRecDepth 100000
set_option maxHeartbeats 20000000
open Go.RowKit
namespace Go.Proofs.YtdnhcneallkljaaGreat
namespace S
theorem zero_of:zdz=ZI.of zdz.val:=by kernel_rfl
theorem can_new (x:StD) (c:zaz) (v:Nat):zbx x c v=ZI.of (zbx x c v).val:=by
 unfold zbx
 split
 ·exact zof _
 ·split
  ·exact zero_of
  ·exact zof _
theorem can_newV (x:StD) (c:zaz) (p:List ZI) (v:Nat):zc4 x c p v=ZI.of (zc4 x c p v).val:=by
 unfold zc4
 split
 ·split
  ·exact zof _
  ·exact zero_of
 ·exact can_new x c v
theorem can_outS (s:zan) (x:StD) (c:zaz) (p:List ZI):CanS (zcn s x c p):=fun z hz=>by
 obtain ⟨v,_,rfl⟩:=List.mem_map.1 hz
 exact can_newV x c p v
theorem can_clone {x:StD} (h:CanS x):cloneS x=x:=by
 have:=can_vals h
 rw [List.map_map] at this
 unfold cloneS clZ
 cases x
 simp only at this ⊢
 rw [show (fun z:ZI=>ZI.of z.val)=ZI.of ∘ ZI.val from rfl,this]
theorem goC_yes {s:zan} {x:StD} {c:zaz} {p:List ZI} (h:(goC s x c p).2=true):zaj s x c=true/\zbu s (zcn s x c p)=true/\(goC s x c p).1=zcn s x c p:=by
 unfold goC at h ⊢
 split at h
 ·rename_i hh;rw [if_pos hh];exact ⟨hh.1,hh.2,rfl⟩
 ·cases h
theorem act_nat {s:zan} {i:Nat} {c:zaz} (hc:s.acts[i]?=some c):zdy s (i:Int)=some c:=by
 unfold zdy;rw [if_pos (by omega),Int.toNat_natCast,hc]
theorem goS_act {s:zan} {x:StD} {i:Nat} {c:zaz} (hc:s.acts[i]?=some c) (p:List ZI):goS s x (i:Int) p=goC s x c p:=by
 unfold goS;rw [if_neg (fun h=>by have:=h.1;omega),act_nat hc]
theorem same_self (y:StD):zek y y=true:=by unfold zek;simp
theorem egP_act {s:zan} {x:StD} {i:Int} {ps:List (List ZI)} {e:zar} (h:e ∈ egP s x i ps):∃ p ∈ ps,(goS s x i p).2=true/\e=⟨i,(goS s x i p).1⟩:=by
 obtain ⟨p,hp,h2⟩:=List.mem_flatMap.1 h
 split at h2
 ·rename_i hk;exact ⟨p,hp,hk,List.mem_singleton.1 h2⟩
 ·cases h2
theorem egA_act {s:zan} {x:StD} {i:Nat} {e:zar} (h:e ∈ egA s x i):∃ c p,s.acts[i]?=some c/\p ∈ pkT s (zb3 c s.vars.length)/\(goS s x (i:Int) p).2=true/\e=⟨(i:Int),(goS s x (i:Int) p).1⟩:=by
 unfold egA at h
 split at h
 ·cases h
 ·rename_i c hc
  split at h
  ·obtain ⟨p,hp,h2⟩:=egP_act h;exact ⟨c,p,hc,hp,h2⟩
  ·cases h
theorem stay {s:zan} {x:StD} (h:CanS x):goS s x (-1) []=if zee s x=true then (x,true) else (st0,false):=by
 unfold goS
 cases hk:zee s x with
 | true=>rw [if_pos ⟨rfl,rfl⟩,can_clone h];rfl
 | false=>rw [if_neg (fun h=>by cases h.2)];rfl
theorem ed_each {s:zan} {x:StD} (hc:(zbw s).2=true) (hx:CanS x) {e:zar} (he:e ∈ edT s x):∃ k:Nat,k<cN s/\e.to_=stI s k/\∃ a:Nat,a<s.acts.length+1/\e.act=(a:Int) - 1:=by
 unfold edT at he
 split at he
 ·rename_i hh
  rcases List.mem_append.1 he with he | he
  ·obtain ⟨i,hi,h⟩:=List.mem_flatMap.1 he
   obtain ⟨c,p,ha,hp,h1,rfl⟩:=egA_act h
   rw [goS_act ha] at h1 ⊢
   obtain ⟨_,hfo,e1⟩:=goC_yes h1
   obtain ⟨k,hk,ek⟩:=stN_sur hc hfo (can_outS s x c p)
   exact ⟨k,cN_lt hk,by rw [e1,ek],i+1,by have:=List.mem_range.1 hi;omega,by show (i:Int)=_;omega⟩
  ·obtain ⟨p,hp,h1,rfl⟩:=egP_act he
   rw [List.mem_singleton.1 hp,stay hx] at h1 ⊢
   split at h1
   ·rename_i hk
    obtain ⟨k,hk2,ek⟩:=stN_sur hc hh.2 hx
    exact ⟨k,cN_lt hk2,by rw [if_pos hk,ek],0,by omega,rfl⟩
   ·cases h1
 ·cases he
theorem ol1_3:ElZ Tryz.prog 23 89 5:=ElZ.mk' Tryz.underlying23 _ _ rfl rfl (by kernel_rfl) (by kernel_rfl) (by kernel_rfl) (by decide)
theorem ol1_4:ElZ Tryz.prog 36 93 3:=ElZ.mk' Tryz.underlying36 _ _ rfl rfl (by kernel_rfl) (by kernel_rfl) (by kernel_rfl) (by decide)
theorem ol1_5:ElZ Tryz.prog 94 105 5:=ElZ.mk' Tryz.underlying94 _ _ rfl rfl (by kernel_rfl) (by kernel_rfl) (by kernel_rfl) (by decide)
theorem ol1_6:ElZ Tryz.prog 37 96 10:=ElZ.mk' Tryz.underlying37 _ _ rfl rfl (by kernel_rfl) (by kernel_rfl) (by kernel_rfl) (by decide)
theorem ol1_7:Sz Tryz.prog 39 10 true:=Sz.mk' (by kernel_rfl) Tryz.underlying39 _ rfl
theorem ol1_8:za6 Tryz.prog 24:=za6.mk' (by kernel_rfl)
theorem ol1_11:za6 Tryz.prog 27:=za6.mk' (by kernel_rfl)
theorem ol1_14:za6 Tryz.prog 13:=za6.mk' (by kernel_rfl)
theorem ol1_18:za6 Tryz.prog 8:=za6.mk' (by kernel_rfl)
theorem ol1_19:SlT Tryz.prog 52 56 3:=SlT.mk' Tryz.underlying52 (by kernel_rfl)
theorem ol1_20:za6 Tryz.prog 30:=za6.mk' (by kernel_rfl)
def zbc:zan:=⟨[⟨#[120]⟩],[⟨true,zdz,ZI.of 3⟩],form0,[⟨⟨#[112]⟩,[⟨#[97]⟩,⟨#[98]⟩],.raw za4⟩],[⟨0,0,1,form0,[⟨0,false,⟨[⟨0,ZI.of 1⟩],ZI.of 1⟩⟩]⟩]⟩
theorem mem1 {α:Type} {x y:α} (h:x ∈ [y]):x=y:=by simpa using h
theorem zin:form0.lb:=(za8.lb_eq _).2 ⟨⟨⟨zg9,fun p hp=>(by cases hp)⟩,Nat.zero_le _⟩,fun g hg=>(by cases hg)⟩
theorem few19:zbv 3 zbc=true:=by kernel_rfl
theorem sys19_rd:SysRd zbc:=⟨zin,fun b hb=>by rw [mem1 hb];exact ⟨zg9,ZI.lb_of 3⟩,fun c hc=>by
 rw [mem1 hc]
 exact ⟨zin,fun m hm=>by rw [mem1 hm];exact ⟨ZI.lb_of 1,fun p hp=>by rw [mem1 hp];exact ZI.lb_of 1⟩⟩,by decide,fun c hc=>by rw [mem1 hc];decide⟩
theorem zib:zb1 3 zbc:=few_sys few19 sys19_rd
theorem prc19:zc2 zbc:=fun p hp=>by rw [mem1 hp];decide
theorem SSys19_0 :Fn Tryz.prog 24 [] [] (vG [.d (.sl 1 ([(⟨#[120]⟩:ByteArray)].map zc6)),.d (.sl 5 ([(zah.mk true (ZI.mk false []) (ZI.of 3))].map zah.d)),cI 0,cPs [],cB false,.d (nsl []),cB false,cFs [],.d (.sl 3 ([(zav.mk (⟨#[112]⟩:ByteArray) [(⟨#[97]⟩:ByteArray),(⟨#[98]⟩:ByteArray)] (.raw za4))].map zav.d)),.d (.sl 10 [[.raw (.int .i64 0),.raw (.int .i64 0),.raw (.int .i64 1),.raw (.int .i64 0),.raw za4,.raw (.bool false),nsl [],.raw (.bool false),.raw za4,.sl 5 ([(zaf.mk 0 false (zgm.mk [(zbr.mk 0 (ZI.of 1))] (ZI.of 1)))].map zaf.d)]])]) []:=by
 refine Fn.body Tryz.func24 rfl 20 rfl fun w H B a h=>Jq 0 [] [(0,vp 0 0)] [(0,.box [.d (.raw za4),.d (.raw za4),cI 0,.d (.raw za4),cB false,.d (nsl []),cB false,.d (.raw za4),.d (.raw za4),.d (.raw za4)])] h fun a w h=>Jd 1 [(0,.call (SROf 1 ⟨by decide,by decide⟩) tc_0),(2,.g (bD 4 ([(zbr.mk 0 (ZI.of 1))].map zbr.d) [(3,vG ([cI 0]++zi (ZI.of 1)))] tb_9 (.cons (i:=0) (OV.tmp 3 _) (.nil)) (by kernel_rfl) (by simp [zbr.d]))),(3,.call (SROf 1 ⟨by decide,by decide⟩) tc_0)] [] [(1,vp 1 0)] [(0,.box [.d (.raw za4),.d (.raw za4),cI 0,.d (.raw za4),cB false,.d (nsl []),cB false,.d (.raw za4),.d (.raw za4),.d (.raw za4)]),(1,.box ([cPs [(zbr.mk 0 (ZI.of 1))]]++zi (ZI.of 1)))] h fun a w h=>Jd 2 [(0,.g (Op.buildD (d:=7) (len:=1) (rows:=[(⟨#[120]⟩:ByteArray)].map zc6) (rs:=[]) ty_16 (.cons (i:=0) (OV.const (.string (⟨#[120]⟩:ByteArray)) rfl) (.nil)) (by kernel_rfl) rfl (by simp [zc6]) (by decide) (by decide))),(1,.call (SROf 3 ⟨by decide,by decide⟩) tc_0),(3,.g (bD 10 ([(zah.mk true (ZI.mk false []) (ZI.of 3))].map zah.d) [(9,vG ([cB true,cB false,.d (nsl [])]++zi (ZI.of 3)))] ol1_3 (.cons (i:=0) (OV.tmp 9 _) (.nil)) (by kernel_rfl) (by simp [zah.d]))),(4,.g (Op.buildD (d:=11) (len:=2) (rows:=[(⟨#[97]⟩:ByteArray),(⟨#[98]⟩:ByteArray)].map zc6) (rs:=[]) ty_16 (.cons (i:=0) (OV.const (.string (⟨#[97]⟩:ByteArray)) rfl) (.cons (i:=1) (OV.const (.string (⟨#[98]⟩:ByteArray)) rfl) (.nil))) (by kernel_rfl) rfl (by simp [zc6]) (by decide) (by decide))),(6,.g (bD 13 ([(zav.mk (⟨#[112]⟩:ByteArray) [(⟨#[97]⟩:ByteArray),(⟨#[98]⟩:ByteArray)] (.raw za4))].map zav.d) [(12,vG [.d (.raw (.string (⟨#[112]⟩:ByteArray))),.d (.sl 1 ([(⟨#[97]⟩:ByteArray),(⟨#[98]⟩:ByteArray)].map zc6)),.d (.raw za4)])] ol1_4 (.cons (i:=0) (OV.tmp 12 _) (.nil)) (by kernel_rfl) (by simp [zav.d]))),(9,.g (bD 16 ([(zaf.mk 0 false (zgm.mk [(zbr.mk 0 (ZI.of 1))] (ZI.of 1)))].map zaf.d) [(15,vG ([cI 0,cB false,cPs [(zbr.mk 0 (ZI.of 1))]]++zi (ZI.of 1)))] ol1_5 (.cons (i:=0) (OV.tmp 15 _) (.nil)) (by kernel_rfl) (by simp [zaf.d]))),(11,.g (bD 18 ([[.raw (.int .i64 0),.raw (.int .i64 0),.raw (.int .i64 1),.raw (.int .i64 0),.raw za4,.raw (.bool false),nsl [],.raw (.bool false),.raw za4,.sl 5 ([(zaf.mk 0 false (zgm.mk [(zbr.mk 0 (ZI.of 1))] (ZI.of 1)))].map zaf.d)]]) [(17,vG [cI 0,cI 0,cI 1,cI 0,.d (.raw za4),cB false,.d (nsl []),cB false,.d (.raw za4),.d (.sl 5 ([(zaf.mk 0 false (zgm.mk [(zbr.mk 0 (ZI.of 1))] (ZI.of 1)))].map zaf.d))])] ol1_6 (.cons (i:=0) (OV.tmp 17 _) (.nil)) (by kernel_rfl) (by simp)))] [1] [] [(0,.box [.d (.sl 1 ([(⟨#[120]⟩:ByteArray)].map zc6)),.d (.sl 5 ([(zah.mk true (ZI.mk false []) (ZI.of 3))].map zah.d)),cI 0,.d (.raw za4),cB false,.d (nsl []),cB false,.d (.raw za4),.d (.sl 3 ([(zav.mk (⟨#[112]⟩:ByteArray) [(⟨#[97]⟩:ByteArray),(⟨#[98]⟩:ByteArray)] (.raw za4))].map zav.d)),.d (.sl 10 [[.raw (.int .i64 0),.raw (.int .i64 0),.raw (.int .i64 1),.raw (.int .i64 0),.raw za4,.raw (.bool false),nsl [],.raw (.bool false),.raw za4,.sl 5 ([(zaf.mk 0 false (zgm.mk [(zbr.mk 0 (ZI.of 1))] (ZI.of 1)))].map zaf.d)]])])] h fun a w h=>qV ?_
 replace h:=zbj 0 3 3 [.d (.sl 1 ([(⟨#[120]⟩:ByteArray)].map zc6)),.d (.sl 5 ([(zah.mk true (ZI.mk false []) (ZI.of 3))].map zah.d)),cI 0,.d (.raw za4),cB false,.d (nsl []),cB false,.d (.raw za4),.d (.sl 3 ([(zav.mk (⟨#[112]⟩:ByteArray) [(⟨#[97]⟩:ByteArray),(⟨#[98]⟩:ByteArray)] (.raw za4))].map zav.d)),.d (.sl 10 [[.raw (.int .i64 0),.raw (.int .i64 0),.raw (.int .i64 1),.raw (.int .i64 0),.raw za4,.raw (.bool false),nsl [],.raw (.bool false),.raw za4,.sl 5 ([(zaf.mk 0 false (zgm.mk [(zbr.mk 0 (ZI.of 1))] (ZI.of 1)))].map zaf.d)]])] [(0,vp 0 0)] [(0,.box [.d (.sl 1 ([(⟨#[120]⟩:ByteArray)].map zc6)),.d (.sl 5 ([(zah.mk true (ZI.mk false []) (ZI.of 3))].map zah.d)),cI 0,cPs [],cB false,.d (nsl []),cB false,.d (.raw za4),.d (.sl 3 ([(zav.mk (⟨#[112]⟩:ByteArray) [(⟨#[97]⟩:ByteArray),(⟨#[98]⟩:ByteArray)] (.raw za4))].map zav.d)),.d (.sl 10 [[.raw (.int .i64 0),.raw (.int .i64 0),.raw (.int .i64 1),.raw (.int .i64 0),.raw za4,.raw (.bool false),nsl [],.raw (.bool false),.raw za4,.sl 5 ([(zaf.mk 0 false (zgm.mk [(zbr.mk 0 (ZI.of 1))] (ZI.of 1)))].map zaf.d)]])])] h rfl rfl;replace h:=zbj 0 7 6 [.d (.sl 1 ([(⟨#[120]⟩:ByteArray)].map zc6)),.d (.sl 5 ([(zah.mk true (ZI.mk false []) (ZI.of 3))].map zah.d)),cI 0,cPs [],cB false,.d (nsl []),cB false,.d (.raw za4),.d (.sl 3 ([(zav.mk (⟨#[112]⟩:ByteArray) [(⟨#[97]⟩:ByteArray),(⟨#[98]⟩:ByteArray)] (.raw za4))].map zav.d)),.d (.sl 10 [[.raw (.int .i64 0),.raw (.int .i64 0),.raw (.int .i64 1),.raw (.int .i64 0),.raw za4,.raw (.bool false),nsl [],.raw (.bool false),.raw za4,.sl 5 ([(zaf.mk 0 false (zgm.mk [(zbr.mk 0 (ZI.of 1))] (ZI.of 1)))].map zaf.d)]])] [(0,vp 0 0)] [(0,.box [.d (.sl 1 ([(⟨#[120]⟩:ByteArray)].map zc6)),.d (.sl 5 ([(zah.mk true (ZI.mk false []) (ZI.of 3))].map zah.d)),cI 0,cPs [],cB false,.d (nsl []),cB false,cFs [],.d (.sl 3 ([(zav.mk (⟨#[112]⟩:ByteArray) [(⟨#[97]⟩:ByteArray),(⟨#[98]⟩:ByteArray)] (.raw za4))].map zav.d)),.d (.sl 10 [[.raw (.int .i64 0),.raw (.int .i64 0),.raw (.int .i64 1),.raw (.int .i64 0),.raw za4,.raw (.bool false),nsl [],.raw (.bool false),.raw za4,.sl 5 ([(zaf.mk 0 false (zgm.mk [(zbr.mk 0 (ZI.of 1))] (ZI.of 1)))].map zaf.d)]])])] h rfl rfl;refine rA 0 [.d (.sl 1 ([(⟨#[120]⟩:ByteArray)].map zc6)),.d (.sl 5 ([(zah.mk true (ZI.mk false []) (ZI.of 3))].map zah.d)),cI 0,cPs [],cB false,.d (nsl []),cB false,cFs [],.d (.sl 3 ([(zav.mk (⟨#[112]⟩:ByteArray) [(⟨#[97]⟩:ByteArray),(⟨#[98]⟩:ByteArray)] (.raw za4))].map zav.d)),.d (.sl 10 [[.raw (.int .i64 0),.raw (.int .i64 0),.raw (.int .i64 1),.raw (.int .i64 0),.raw za4,.raw (.bool false),nsl [],.raw (.bool false),.raw za4,.sl 5 ([(zaf.mk 0 false (zgm.mk [(zbr.mk 0 (ZI.of 1))] (ZI.of 1)))].map zaf.d)]])] h ol1_7 rfl ?_;rfl
theorem SSys19:Fn Tryz.prog 24 [] [] (vG (zai zbc)) []:=by
 refine Fn.resw SSys19_0 (WkV.agg _ _ (.same _ _ _ (.same _ _ _ (.same _ _ _ (.same _ _ _ (.same _ _ _ (.same _ _ _ (.same _ _ _ (.same _ _ _ (.same _ _ _ (.d _ _ _ _ ?_ .nil)))))))))))
 refine Wk.sl _ _ _ (.cons _ _ _ _ ?_ .nil)
 refine .cons _ _ _ _ (.refl _) (.cons _ _ _ _ (.refl _) (.cons _ _ _ _ (.refl _) (.cons _ _ _ _ (.refl _) (.cons _ _ _ _ (.nil _) (.cons _ _ _ _ (.refl _) (.cons _ _ _ _ (.refl _) (.cons _ _ _ _ (.refl _) (.cons _ _ _ _ (.nil _) (.cons _ _ _ _ (.refl _) .nil)))))))))
def zg8 (s:zan) (most:Int):Bool:=zbv 3 s && (!(zbw s).2 || decide ((zbw s).1<=most))
theorem Ssmall (s:zan) (most:Int) (hr:SysRd s) (hp:zc2 s):Fn Tryz.prog 7 [] [.t (.agg (zai s)),vI most] (vb (zg8 s most)) []:=by
 refine Fn.body Tryz.func7 rfl 22 rfl fun w H B a h=>Jq 0 [] [(1,vI most),(2,vp 0 0),(4,vb false)] [(0,.box (zai s))] h fun a w h=>qW (Je 1 [(1,.call (SFewSys s 3 hr) ol1_20)] [] [(9,vb (!(zbv 3 s)))] h fun a w h=>cS (!(zbv 3 s)) h (fun hc1=>?_) (fun hc2=>?_))
 ·have hc1':=hc1;(try simp at hc1');refine Je 1 [] [9] [] h fun a w h=>qV (za2 (rT (.c (.d (.raw (.bool false)))) h rfl ?_));rw [show zg8 s most=false by unfold zg8;rw [(show (zbv 3 s)=false from by simpa using hc1)];rfl];rfl
 have hc2':=hc2;(try simp at hc2');refine qU (za0 (Jd 1 [(1,.call (ORCount s (few_sys (show (zbv 3 s)=true from by simpa using hc2) hr) (by decide) hp) oe1_0)] [2,9] [(5,vI (zbw s).1),(6,vb (zbw s).2)] [] h fun a w h=>?_))
 rcases Bool.eq_false_or_eq_true (zbw s).2 with hc3 | hc4
 ·rw [hc3] at h;refine Jq 1 [] [(4,vb (decide ((zbw s).1<=most)))] [] h fun a w h=>qV (rT (.c (.d (.raw (.bool (decide ((zbw s).1<=most)))))) h rfl ?_);rw [show zg8 s most=decide ((zbw s).1<=most) by unfold zg8;rw [(show (zbv 3 s)=true from by simpa using hc2),hc3];rfl];rfl
 rw [hc4] at h;refine Jq 1 [] [(4,vb true)] [] h fun a w h=>qV (rT (.c (.d (.raw (.bool true)))) h rfl ?_);rw [show zg8 s most=true by unfold zg8;rw [(show (zbv 3 s)=true from by simpa using hc2),hc4];rfl];rfl
theorem om1_1:za6 Tryz.prog 7:=za6.mk' (by kernel_rfl)
theorem all_len (s:zan):(allT s).length=cN s:=by unfold allT;rw [List.length_map,List.length_range]
theorem all_at {s:zan} {j:Nat} {x:StD} (h:(allT s)[j]?=some x):j<cN s/\x=stI s j:=by
 have h1:=zak h
 rw [all_len] at h1
 unfold allT at h
 rw [List.getElem?_map,List.getElem?_range h1] at h
 exact ⟨h1,by injection h with h;exact h.symm⟩
theorem cN_int {s:zan} {j:Nat} (h:j<cN s):(j:Int)<(zbw s).1:=by unfold cN at h;omega
theorem all_ok {s:zan} {L:Nat} (hs:zb1 L s) (hp:zc2 s) {j:Nat} {x:StD} (h:(allT s)[j]?=some x):zd0 (L+3) x:=by
 obtain ⟨h1,rfl⟩:=all_at h
 have h2:=cN_int h1
 exact stN_ok hs hp ⟨cnt_pos (by omega),by omega,h2⟩
theorem st19_yes {s:zan} {n:Int} (h:(zcz s n).2=true):(zbw s).2=true/\0<=n/\n<(zbw s).1/\(zcz s n).1=stN s n:=by
 unfold zcz at h ⊢
 split at h
 ·rename_i hh;rw [if_pos hh];exact ⟨hh.1,hh.2.1,hh.2.2,rfl⟩
 ·cases h
theorem st19_ok {s:zan} {L:Nat} (hs:zb1 L s) (hp:zc2 s) (n:Int):zd0 (L+3) (zcz s n).1:=by
 cases h:(zcz s n).2 with
 | true=>obtain ⟨h1,h2,h3,h4⟩:=st19_yes h;rw [h4];exact stN_ok hs hp ⟨h1,h2,h3⟩
 | false =>
  unfold zcz at h ⊢
  split at h
  ·cases h
  ·rename_i hh;rw [if_neg hh];exact ⟨by show 0<=10;decide,by show 0<=10;decide,fun z hz=>by cases hz⟩
theorem st19_can (s:zan) (n:Int):CanS (zcz s n).1:=by
 unfold zcz
 split
 ·exact can_stN s n
 ·exact fun z hz=>by cases hz
theorem ed_ok {s:zan} {L:Nat} (hs:zb1 L s) (hp:zc2 s) {x:StD} (hx:CanS x) {j:Nat} {e:zar} (he:(edT s x)[j]?=some e):zd0 (L+3) e.to_:=by
 have hm:=List.mem_of_getElem? he
 have hc:(zbw s).2=true:=by
  unfold edT at hm
  split at hm
  ·rename_i hh;exact hh.1
  ·cases hm
 obtain ⟨k,hk,e1,_⟩:=ed_each hc hx hm
 rw [e1]
 have h2:=cN_int hk
 exact stN_ok hs hp ⟨hc,by omega,h2⟩
section
open Go.WideShapes
section
variable {w:World} {n:Nat}
theorem rep_raw {t e:TypeId} (hu:Tryz.prog.underlying t=some (.slice e)):zeb w n t rawD (fun _=>True):=fun H enc base spare held fuel cs x hn hx=>by
 rcases DataW.trod_slice hu hx with ⟨rfl,_⟩ | ⟨a,len,cap,elems,rest,m,rfl,rfl,_⟩
 ·exact ⟨.raw _,trivial,DR.raw _ rfl,trivial⟩
 ·exact ⟨.raw _,trivial,DR.raw _ rfl,trivial⟩
theorem rep_strs:zeb w n 22 (slD 1 zc6) (fun xs=>xs.length<=maxLen/\∀ x ∈ xs,x.size<=maxLen) :=
 zcm (k:=1) Tryz.underlying22 (by kernel_rfl) (by decide) (fun _=>rfl) (rep_str Tryz.underlying9)
theorem rep_Rel:zeb w n 32 zg6.d (fun r=>TLb r.t) :=
 ((zc8 (n:=n) Tryz.underlying32 (by kernel_rfl) (.cons (k0:=3) rfl (by kernel_rfl) rep_Term (.cons (k0:=1) rfl (by kernel_rfl) (zfy Tryz.underlying4) .nil))).map (fun p=>⟨p.1,p.2.1⟩) (fun _=>rfl) fun _ h=>h.1).mono (Nat.le_succ n)
theorem zif:∀ {n:Nat}, zeb w n 35 za8.d za8.lb
 | 0=>zeb.zero
 | n+1=>(zc8 (n:=n) Tryz.underlying35 (by kernel_rfl) (.cons (k0:=1) rfl (by kernel_rfl) (zew Tryz.underlying3) (.cons (k0:=4) rfl (by kernel_rfl) rep_Rel (.cons (k0:=1) rfl (by kernel_rfl) (zcm (k:=6) Tryz.underlying33 (by kernel_rfl) (by decide) za8.d_len zif) .nil)))).map (fun p=>⟨p.1,p.2.1,p.2.2.1⟩) (fun _=>(za8.d_eq _).trans rfl) fun _ h=>(za8.lb_eq _).2 ⟨⟨h.2.1,Nat.le_trans h.2.2.1.1 (by decide)⟩,h.2.2.1.2⟩
theorem rep_Bound:zeb w n 89 zah.d (fun b=>Lb b.lo.abs/\Lb b.hi.abs) :=
 ((zc8 (n:=n) Tryz.underlying89 (by kernel_rfl) (.cons (k0:=1) rfl (by kernel_rfl) (zfy Tryz.underlying4) (.cons (k0:=2) rfl (by kernel_rfl) rep_ZI (.cons (k0:=2) rfl (by kernel_rfl) rep_ZI .nil)))).map (fun p=>⟨p.1,p.2.1,p.2.2.1⟩) (fun _=>rfl) fun _ h=>⟨h.2.1,h.2.2.1⟩).mono (Nat.le_succ n)
theorem rep_Move:zeb w n 105 zaf.d (fun m=>TLb m.t) :=
 ((zc8 (n:=n) Tryz.underlying105 (by kernel_rfl) (.cons (k0:=1) rfl (by kernel_rfl) (zew Tryz.underlying3) (.cons (k0:=1) rfl (by kernel_rfl) (zfy Tryz.underlying4) (.cons (k0:=3) rfl (by kernel_rfl) rep_Term .nil)))).map (fun p=>⟨p.1,p.2.1,p.2.2.1⟩) (fun _=>rfl) fun _ h=>h.2.2.1).mono (Nat.le_succ n)
theorem rep_Moves:zeb w n 94 (slD 5 zaf.d) (fun xs=>xs.length<=maxLen/\∀ x ∈ xs,TLb x.t) :=
 zcm (k:=5) Tryz.underlying94 (by kernel_rfl) (by decide) (fun _=>rfl) rep_Move
theorem rep_Bounds:zeb w n 23 (slD 5 zah.d) (fun xs=>xs.length<=maxLen/\∀ x ∈ xs,Lb x.lo.abs/\Lb x.hi.abs) :=
 zcm (k:=5) Tryz.underlying23 (by kernel_rfl) (by decide) (fun _=>rfl) rep_Bound
theorem rep_Act:zeb w n 96 zaz.d (fun c=>c.guard.lb/\c.moves.length<=maxLen/\∀ m ∈ c.moves,TLb m.t) :=
 ((zc8 (n:=n) Tryz.underlying96 (by kernel_rfl) (.cons (k0:=1) rfl (by kernel_rfl) (zew Tryz.underlying3) (.cons (k0:=1) rfl (by kernel_rfl) (zew Tryz.underlying3) (.cons (k0:=1) rfl (by kernel_rfl) (zew Tryz.underlying3) (.cons (k0:=6) rfl (by kernel_rfl) zif (.cons (k0:=1) rfl (by kernel_rfl) rep_Moves .nil)))))).map (fun p=>⟨p.1,p.2.1,p.2.2.1,p.2.2.2.1,p.2.2.2.2.1⟩) (fun _=>by rw [za8.d_eq];rfl) fun _ h=>⟨h.2.2.2.1,h.2.2.2.2.1⟩).mono (Nat.le_succ n)
theorem rep_Acts:zeb w n 37 (slD 10 zaz.d) (fun xs=>xs.length<=maxLen/\∀ x ∈ xs,x.guard.lb/\x.moves.length<=maxLen/\∀ m ∈ x.moves,TLb m.t) :=
 zcm (k:=10) Tryz.underlying37 (by kernel_rfl) (by decide) (fun _=>rfl) rep_Act
end
section
variable {w:World} {n:Nat} {t:TypeId} {α β:Type} {f:α->List D} {good:α->Prop}
def RepS (w:World) (n:Nat) (t:TypeId) {α:Type} (f:α->List D) (good:α->Prop):Prop :=
  ∀ (H:Type) (enc:TypeId × Value->H) (base:Nat) (spare:Nat->Bool) (held:Bool) (fuel:Nat) (cs:List Value) (x:DataW H × List MemPlace),fuel<=n->DataW.trod enc Tryz.prog w base spare held fuel t cs=some x->(∀ q ∈ x.1.weights Tryz.prog t,q<=reachBytes)->∃ a:α,good a/\zba (DR (all w)) (f a) cs
theorem zeb.s (h:zeb w n t f good):RepS w n t f good:=fun H enc base spare held fuel cs x hn hx _=>h H enc base spare held fuel cs x hn hx
theorem RepS.mono {m:Nat} (h:RepS w n t f good) (hm:m<=n):RepS w m t f good:=fun H enc base spare held fuel cs x hn hx=>h H enc base spare held fuel cs x (by omega) hx
theorem RepS.map {f':β->List D} {good':β->Prop} (h:RepS w n t f good) (g:α->β) (hf:∀ a,f' (g a)=f a) (hg:∀ a,good a->good' (g a)):RepS w n t f' good':=fun H enc base spare held fuel cs x hn hx hw=>by
 obtain ⟨a,h1,h2⟩:=h H enc base spare held fuel cs x hn hx hw
 exact ⟨g a,hg a h1,by rw [hf];exact h2⟩
theorem weights_all {H:Type} {P:Program} {e:TypeId} {q:Nat}:∀ {ds:List (DataW H)} {d:DataW H}, d ∈ ds->q ∈ d.weights P e->q ∈ DataW.weightsAll P e ds
 | [],_,h,_=>by cases h
 | c :: ds,d,h,hq=>by
  rw [DataW.weightsAll]
  rcases List.mem_cons.1 h with rfl | h
  ·exact List.mem_append_left _ hq
  ·exact List.mem_append_right _ (weights_all h hq)
theorem rep_sliceS {e:TypeId} {k:Nat} (hu:Tryz.prog.underlying t=some (.slice e)) (hc:Tryz.prog.cellsOf e=k) (hk:0<k) (hl:∀ a,(f a).length=k) (he:RepS w n e f good):RepS w n t (slD k f) (fun xs=>(xs.length<=maxLen/\xs.length*Tryz.prog.bytesOf e<=reachBytes)/\∀ x ∈ xs,good x):=fun H enc base spare held fuel cs x hn hx hw=>by
 rcases DataW.trod_slice hu hx with ⟨rfl,_⟩ | ⟨a,len,cap,elems,rest,m,rfl,rfl,rfl,_,h2,h3,h4,h5,_,_⟩
 ·exact ⟨[],⟨⟨Nat.zero_le _,by rw [List.length_nil,Nat.zero_mul];exact Nat.zero_le _⟩,by simp⟩,DR.nil _ _ _ (fun _=>rfl) (Nat.zero_le _),trivial⟩
 ·rw [hc] at h5
  obtain ⟨xs,hxl,hxs⟩:=listOf (P:=fun i (y:α)=>good y/\∃ cs', w.cells? base (a.add (i*k)) k=some cs'/\zba (DR (all w)) (f y) cs') len fun i hi=>by
   have h6:=h5 i hi
   rw [List.getElem?_eq_getElem (by omega)] at h6
   obtain ⟨cs', g1,g2⟩:=Option.bind_eq_some_iff.1 h6
   obtain ⟨y,g3,g4⟩:=he H enc base spare held m cs' _ (by omega) g2 fun q hq=>hw q (by
    simp only [DataW.weights,hu]
    exact List.mem_cons_of_mem _ (List.mem_append_left _ (weights_all (List.mem_map.2 ⟨elems[i],List.getElem_mem _,rfl⟩) hq)))
   exact ⟨y,g3,cs', g1,g4⟩
  have hb9:(elems.length+rest.length)*Tryz.prog.bytesOf e<=reachBytes:=by
   have:=hw ((elems.length+rest.length)*Tryz.prog.bytesOf e) (by simp [DataW.weights,hu])
   exact this
  refine ⟨xs,⟨⟨by omega,Nat.le_trans (Nat.mul_le_mul_right _ (by omega)) hb9⟩,fun y hy=>?_⟩,?_,trivial⟩
  ·obtain ⟨i,hi⟩:=List.mem_iff_getElem?.1 hy
   exact (hxs i y hi).1
  ·show DR (all w) (.sl k (xs.map f)) _
   rcases Nat.eq_zero_or_pos len with h0 | h0
   ·subst h0
    have:xs=[]:=List.length_eq_zero_iff.1 hxl
    subst this
    exact DR.nil _ _ _ (fun e=>by cases e) h3
   ·have cells:∀ i y,xs[i]?=some y->∀ j,j<k->∃ v d,w.cell? ((a.add (i*k)).add j)=some v/\(f y)[j]?=some d/\DR (all w) d v:=fun i y hy j hj=>by
     obtain ⟨_,cs', g1,g2⟩:=hxs i y hy
     obtain ⟨_,g4,g5⟩:=World.cells?_some g1
     obtain ⟨v,g6,g7⟩:=g2.get j (by rw [hl];exact hj)
     exact ⟨v,_,by rw [g5 j hj];exact g6,List.getElem?_eq_getElem (by rw [hl];exact hj),g7⟩
    obtain ⟨y0,hy0⟩:∃ y,xs[0]?=some y:=⟨_,List.getElem?_eq_getElem (by omega)⟩
    obtain ⟨v0,_,c0,_,_⟩:=cells 0 y0 hy0 0 hk
    obtain ⟨b,o,sp⟩:=a
    have hsp:sp=none:=by
     have:=World.cell?_spot c0
     simpa [Addr.add] using this
    subst hsp
    have c0':w.cell? ⟨b,o,none⟩=some v0:=by simpa [Addr.add_mid] using c0
    obtain ⟨arr,ty,fz,hb,_⟩:=cell_at c0'
    have at_:∀ i y,xs[i]?=some y->∀ j,j<k->∃ v d,arr[o+i*k+j]?=some v/\(f y)[j]?=some d/\DR (all w) d v:=fun i y hy j hj=>by
     obtain ⟨v,d,g1,g2,g3⟩:=cells i y hy j hj
     rw [Addr.add_mid,Addr.add_mid] at g1
     obtain ⟨arr', ty', fz', hb', g4⟩:=cell_at g1
     rw [hb] at hb'
     injection hb' with hb'
     injection hb' with e1
     subst e1
     exact ⟨v,d,g4,g2,g3⟩
    have:=DR.sl (H:=all w) k (xs.map f) b o cap arr ty fz (fun i j=>(arr[o+i*k+j]?).getD v0) (by rw [List.length_map];omega) hb (by rw [List.length_map];omega) h3 (fun i hi=>by rw [List.getElem_map];exact hl _)
     (fun i hi j hj=>by
      have hi':i<xs.length:=by simpa using hi
      obtain ⟨v,d,g1,_,_⟩:=at_ i xs[i] (List.getElem?_eq_getElem hi') j hj
      rw [g1];rfl)
     (fun i hi j hj=>by
      have hi':i<xs.length:=by simpa using hi
      have hj':j<k:=by rw [List.getElem_map,hl] at hj;exact hj
      obtain ⟨v,d,g1,g2,g3⟩:=at_ i xs[i] (List.getElem?_eq_getElem hi') j hj'
      have e1:((xs.map f)[i])[j]?=some d:=by rw [List.getElem_map];exact g2
      rw [List.getElem?_eq_getElem hj] at e1
      injection e1 with e1
      rw [e1,g1];exact g3)
    rwa [List.length_map,hxl] at this
def FsS (w:World) (n:Nat) (fs:List Field) (o k:Nat) {α:Type} (f:α->List D) (good:α->Prop):Prop :=
  ∀ (H:Type) (enc:TypeId × Value->H) (base:Nat) (spare:Nat->Bool) (held:Bool) (cs:List Value),(∀ fl ∈ fs,∃ m x,m<=n/\DataW.trod enc Tryz.prog w base spare held m fl.type ((cs.drop fl.offset).take (Tryz.prog.cellsOf fl.type))=some x/\∀ q ∈ x.1.weights Tryz.prog fl.type,q<=reachBytes)->o+k=cs.length->∃ a:α,good a/\zba (DR (all w)) (f a) (cs.drop o)
theorem FsS.nil {o:Nat}:FsS w n [] o 0 (fun _:Unit=>[]) (fun _=>True):=fun H enc base spare held cs _ hl=>⟨(),trivial,by rw [List.drop_of_length_le (by omega)];trivial⟩
theorem FsS.cons {fl:Field} {fs:List Field} {o k0 k1:Nat} {f1:β->List D} {good1:β->Prop} (ho:fl.offset=o) (hc:Tryz.prog.cellsOf fl.type=k0) (h0:RepS w n fl.type f good) (h1:FsS w n fs (o+k0) k1 f1 good1) :
  FsS w n (fl :: fs) o (k0+k1) (fun p:α × β=>f p.1++f1 p.2) (fun p=>good p.1/\good1 p.2):=fun H enc base spare held cs hf hl=>by
 obtain ⟨m,x,hm,hx,hw⟩:=hf fl (by simp)
 rw [ho,hc] at hx
 obtain ⟨a,g1,g2⟩:=h0 H enc base spare held m _ x hm hx hw
 obtain ⟨b,g3,g4⟩:=h1 H enc base spare held cs (fun fl' h'=>hf fl' (by simp [h'])) (by omega)
 refine ⟨(a,b),⟨g1,g3⟩,?_⟩
 have e:cs.drop o=(cs.drop o).take k0++cs.drop (o+k0):=by rw [<- List.drop_drop,List.take_append_drop]
 rw [e]
 exact g2.append g4
theorem rep_structS {k:Nat} {fs:Array Field} (hu:Tryz.prog.underlying t=some (.struct fs)) (hc:Tryz.prog.cellsOf t=k) (h:FsS w n fs.toList 0 k f good):RepS w (n+1) t f good:=fun H enc base spare held fuel cs x hn hx hw=>by
 obtain ⟨xs,m,rfl,rfl,h2,h3,h4⟩:=DataW.trod_struct hu hx
 obtain ⟨a,g1,g2⟩:=h H enc base spare held cs (fun fl hfl=>by
  obtain ⟨i,hi⟩:=List.mem_iff_getElem?.1 hfl
  have hi':fs[i]?=some fl:=by simpa using hi
  have:=h4 i fl hi'
  have hlt:i<xs.length:=by rw [h3];exact (Array.getElem?_eq_some_iff.1 hi').1
  rw [List.getElem?_eq_getElem hlt] at this
  exact ⟨m,_,by omega,this,fun q hq=>hw q (by
   simp only [DataW.weights,hu]
   exact DataW.weights_mem_each (j:=i) (t:=fl.type) (by rw [List.getElem?_map,hi];rfl) (by rw [List.getElem?_map,List.getElem?_eq_getElem hlt];rfl) q hq)⟩) (by rw [h2,hc];omega)
 exact ⟨a,g1,by simpa using g2⟩
/-- a struct that came in -/
theorem rep_aggS {fs:Array Field} (hu:Tryz.prog.underlying t=some (.struct fs)) (hr:∀ n,RepS w n t f good) {H:Type} {enc:TypeId × Value->H} {base:Nat} {spare:Nat->Bool} {held:Bool} {r:Reach} {b0:Nat} {v:Value} {d:DataW H} {p:List MemPlace} (hv:Value.okWide Tryz.prog w r b0 t v) (h:DataW.Trod enc Tryz.prog w base spare held t v d p) (hw:∀ q ∈ d.weights Tryz.prog t,q<=reachBytes) :
  ∃ (a:α) (cs:List Value),good a/\v = .agg ⟨cs⟩/\zba (DR (all w)) (f a) cs:=by
 obtain ⟨cs,rfl,_⟩:=okWide_struct hu hv
 obtain ⟨fuel,hf⟩:=h
 obtain ⟨a,g1,g2⟩:=hr fuel H enc base spare held fuel _ _ (Nat.le_refl _) hf hw
 exact ⟨a,cs.toList,g1,rfl,g2⟩
end
section
variable {w:World} {n:Nat}
theorem rep_strsS:RepS w n 22 (slD 1 zc6) (fun xs=>(xs.length<=maxLen/\xs.length*Tryz.prog.bytesOf 9<=reachBytes)/\∀ x ∈ xs,x.size<=maxLen) :=
 rep_sliceS (k:=1) Tryz.underlying22 (by kernel_rfl) (by decide) (fun _=>rfl) (rep_str Tryz.underlying9).s
theorem rep_ProcS:RepS w n 93 zav.d (fun p=>p.locs.length*Tryz.prog.bytesOf 9<=reachBytes) :=
 ((rep_structS (n:=n) Tryz.underlying93 (by kernel_rfl) (.cons (k0:=1) rfl (by kernel_rfl) (rep_str Tryz.underlying9).s (.cons (k0:=1) rfl (by kernel_rfl) rep_strsS (.cons (k0:=1) rfl (by kernel_rfl) (rep_raw Tryz.underlying91).s .nil)))).map (fun p=>⟨p.1,p.2.1,p.2.2.1⟩) (fun _=>rfl) fun _ h=>h.2.1.1.2).mono (Nat.le_succ n)
theorem rep_ProcsS:RepS w n 36 (slD 3 zav.d) (fun xs=>(xs.length<=maxLen/\xs.length*Tryz.prog.bytesOf 93<=reachBytes)/\∀ x ∈ xs,x.locs.length*Tryz.prog.bytesOf 9<=reachBytes) :=
 rep_sliceS (k:=3) Tryz.underlying36 (by kernel_rfl) (by decide) (fun _=>rfl) rep_ProcS
theorem bytes_str:Tryz.prog.bytesOf 9=16:=by kernel_rfl
theorem rep_SysS:RepS w n 39 zan.d (fun s=>SysRd s/\zc2 s) :=
 ((rep_structS (n:=n) Tryz.underlying39 (by kernel_rfl) (.cons (k0:=1) rfl (by kernel_rfl) rep_strs.s (.cons (k0:=1) rfl (by kernel_rfl) rep_Bounds.s (.cons (k0:=6) rfl (by kernel_rfl) zif.s (.cons (k0:=1) rfl (by kernel_rfl) rep_ProcsS (.cons (k0:=1) rfl (by kernel_rfl) rep_Acts.s .nil)))))).map (fun p=>⟨p.1,p.2.1,p.2.2.1,p.2.2.2.1,p.2.2.2.2.1⟩) (fun _=>by rw [za8.d_eq];rfl) fun _ h=>⟨⟨h.2.2.1,h.2.1.2,fun c hc=>⟨(h.2.2.2.2.1.2 c hc).1,(h.2.2.2.2.1.2 c hc).2.2⟩,⟨Nat.le_trans h.2.1.1 (by decide),Nat.le_trans h.2.2.2.2.1.1 (by decide)⟩,fun c hc=>Nat.le_trans (h.2.2.2.2.1.2 c hc).2.1 (by decide)⟩,fun p hp=>by
  have h9:=h.2.2.2.1.2 p hp
  rw [bytes_str] at h9
  have h8:reachBytes=140737488351232:=rfl
  omega⟩).mono (Nat.le_succ n)
end
end
structure PrD where
  st:Int
  nd:Int
structure MvD where
  act:Int
  to_:PrD
def MvD.d (x:MvD):List D:=[.raw (.int .i64 x.act),.raw (.int .i64 x.to_.st),.raw (.int .i64 x.to_.nd)]
structure WkD where
  at_:PrD
  moves:List MvD
  done:Nat
def WkD.d (x:WkD):List D:=[.raw (.int .i64 x.at_.st),.raw (.int .i64 x.at_.nd),.sl 3 (x.moves.map MvD.d),.raw (.int .i64 ((x.done:Nat):Int))]
structure zbd where
  must:List Int
  never:List Int
  next:List Int
def zbd.d (x:zbd):List D:=[.sl 1 (x.must.map zad),.sl 1 (x.never.map zad),.sl 1 (x.next.map zad)]
structure zcy where
  nodes:List zbd
  first:List Int
  good:List Bool
def zcy.d (x:zcy):List D:=[.sl 3 (x.nodes.map zbd.d),.sl 1 (x.first.map zad),.sl 1 (x.good.map zaq)]
instance prDec:DecidableEq PrD:=fun x y=>decidable_of_iff (x.st=y.st/\x.nd=y.nd) (by cases x;cases y;simp)
def pr0:PrD:=⟨0,0⟩
def mvz:MvD:=⟨0,pr0⟩
def wk0:WkD:=⟨pr0,[],0⟩
def nd0:zbd:=⟨[],[],[]⟩
def zcc (ls:List Int) (n:Int):List Int:=if n ∈ ls then ls else ls++[n]
def hdB (l:List Bool) (p:Int):Bool:=decide (0<=p) && decide (p<(l.length:Int)) && (l[p.toNat]?).getD false
def alwT (n:zbd) (l:List Bool):Bool:=!n.must.any (fun p=>!hdB l p) && !n.never.any (hdB l)
section
variable (s:zan) (ps:List zb4) (a:zcy)
def zax (n:Int):List Bool:=letter ps (zcz s n).1
def zbm (n:Int):List zar:=edT s (zcz s n).1
def zbh (k:Int):zbd:=(a.nodes[k.toNat]?).getD nd0
def okN (k:Int):Bool:=decide (0<=k) && decide (k<(a.nodes.length:Int))
def fitO (l:List Bool) (out:List Int) (k:Int):List Int:=if (okN a k && !hasI k out && alwT (zbh a k) l)=true then out++[k] else out
def zb2 (l:List Bool) (nodes:List Int):List Int:=nodes.foldl (fitO a l) []
def lsF (ls:List Int) (n:Int) (nodes:List Int):List Int:=if nodes.any (okN a)=true then zcc ls n else ls
def nmN (e:zar):Int:=(nmT s e.to_).1
def mvE (nodes:List Int) (e:zar):List MvD:=(zb2 a (zax s ps (nmN s e)) nodes).map fun k=>⟨e.act,⟨nmN s e,k⟩⟩
def zb6 (p:PrD):List MvD:=(zbm s p.st).flatMap (mvE s ps a (zbh a p.nd).next)
def lsE (nodes:List Int) (ls:List Int) (e:zar):List Int:=lsF a ls (nmN s e) nodes
def lsM (ls:List Int) (p:PrD):List Int:=(zbm s p.st).foldl (lsE s a (zbh a p.nd).next) ls
/-- what changes while it is searched -/
structure SS where
  fuel:Int
  out:Bool
  ls:List Int
  es:List Int
  fs:List PrD
  sc:List PrD
def tkB (x:SS) (n:Int):Bool:=decide (n<=x.fuel)
def tkS (x:SS) (n:Int):SS:=if tkB x n=true then { x with fuel:=x.fuel - n } else { x with fuel:=0,out:=true }
def mvS (x:SS) (p:PrD):SS:={ x with ls:=lsM s a x.ls p,es:=zcc x.es p.st }
def cost (p:PrD):Int:=1+((zb6 s ps a p).length:Int)
def bgB (x:SS) (p:PrD):Bool:=tkB (mvS s a x p) (cost s ps a p)
def bgS (x:SS) (p:PrD):SS:=tkS (mvS s a x p) (cost s ps a p)
def bgW (x:SS) (way:List WkD) (p:PrD):List WkD:=if bgB s ps a x p=true then way++[⟨p,zb6 s ps a p,0⟩] else way
def zbi (way:List WkD):WkD:=(way[way.length - 1]?).getD wk0
def zay (way:List WkD):Bool:=decide ((zbi way).done≠(zbi way).moves.length)
def za1 (way:List WkD):MvD:=((zbi way).moves[(zbi way).done]?).getD mvz
def zae (way:List WkD):List WkD:=way.set (way.length - 1) { zbi way with done:=(zbi way).done+1 }
structure LS where
  way:List WkD
  ok:Bool
  x:SS
def goB (goal:PrD) (z:LS):LS ⊕ (Option (List WkD) × SS) :=
  if z.ok=true/\0<z.way.length then
    if zay z.way=true then
      if (za1 z.way).to_=goal then .inr (some (zae z.way),z.x)
      else if (za1 z.way).to_ ∈ z.x.sc then .inl ⟨zae z.way,z.ok,z.x⟩
      else .inl ⟨bgW s ps a { z.x with sc:=z.x.sc++[(za1 z.way).to_] } (zae z.way) (za1 z.way).to_,bgB s ps a { z.x with sc:=z.x.sc++[(za1 z.way).to_] } (za1 z.way).to_,bgS s ps a { z.x with sc:=z.x.sc++[(za1 z.way).to_] } (za1 z.way).to_⟩
    else .inl ⟨z.way.dropLast,z.ok,z.x⟩
  else .inr (none,z.x)
end
def zfc {α β:Type} (f:α->α ⊕ β):Nat->α->α ⊕ β
  | 0,x => .inl x
  | n+1,x=>match f x with
    | .inl y=>zfc f n y
    | .inr r => .inr r
def rem1 (w:WkD):Nat:=w.moves.length - w.done
def remW (way:List WkD):Nat:=(way.map rem1).foldr (·+·) 0
def mu (z:LS):Nat:=2*z.x.fuel.toNat+remW z.way+z.way.length
section
variable (s:zan) (ps:List zb4) (a:zcy)
def zal (x:SS) (goal:PrD):Option (List WkD) × SS :=
  if x.out=true then (none,x) else
    match zfc (goB s ps a goal) (mu ⟨bgW s ps a x [] goal,bgB s ps a x goal,bgS s ps a x goal⟩+1) ⟨bgW s ps a x [] goal,bgB s ps a x goal,bgS s ps a x goal⟩ with
    | .inr r=>r
    | .inl _=>(none,x)
def zgg (p:PrD):Bool:=decide (p.nd<(a.good.length:Int)) && (a.good[p.nd.toNat]?).getD false
def goF (z:LS):LS ⊕ (Option (List WkD × List WkD) × SS) :=
  if z.ok=true/\0<z.way.length then
    if zay z.way=true then
      if (za1 z.way).to_ ∈ z.x.fs then .inl ⟨zae z.way,z.ok,z.x⟩
      else .inl ⟨bgW s ps a { z.x with fs:=z.x.fs++[(za1 z.way).to_] } (zae z.way) (za1 z.way).to_,bgB s ps a { z.x with fs:=z.x.fs++[(za1 z.way).to_] } (za1 z.way).to_,bgS s ps a { z.x with fs:=z.x.fs++[(za1 z.way).to_] } (za1 z.way).to_⟩
    else if zgg a (zbi z.way).at_=true then
      match zal s ps a z.x (zbi z.way).at_ with
      | (some r,y) => .inr (some (z.way,r),y)
      | (none,y) => .inl ⟨z.way.dropLast,z.ok,y⟩
    else .inl ⟨z.way.dropLast,z.ok,z.x⟩
  else .inr (none,z.x)
def zam (x:SS) (p:PrD):Option (List WkD × List WkD) × SS :=
  let y:={ x with fs:=x.fs++[p] }
  let z:LS:=⟨bgW s ps a y [] p,bgB s ps a y p,bgS s ps a y p⟩
  match zfc (goF s ps a) (mu z+1) z with
  | .inr r=>r
  | .inl _=>(none,y)
def zc1 (w:WkD):StD:=(zcz s w.at_.st).1
def zaw (w:WkD):Int:=((w.moves[w.done - 1]?).getD mvz).act
def runT (stem cycle:List WkD):RunD:=⟨stem.dropLast.map (zc1 s),cycle.map (zc1 s),stem.dropLast.map zaw++cycle.map zaw⟩
structure AnsD where
  state:Int
  run:RunD
  left:Int
def run0:RunD:=⟨[],[],[]⟩
def goK (n:Int):SS->List Int->AnsD ⊕ SS
  | x,[] => .inr x
  | x,k :: ks =>
    if (⟨n,k⟩:PrD) ∈ x.fs then goK n x ks else
      match zam s ps a x ⟨n,k⟩ with
      | (some (st,cy),y) => .inl ⟨1,runT s st cy,y.fuel⟩
      | (none,y)=>if y.out=true then .inl ⟨3,run0,0⟩ else goK n y ks
def goX:SS->List StD->AnsD ⊕ SS
  | x,[] => .inr x
  | x,f :: fs =>
    match goK s ps a (nmT s f).1 { x with ls:=lsF a x.ls (nmT s f).1 a.first } (zb2 a (zax s ps (nmT s f).1) a.first) with
    | .inl r => .inl r
    | .inr y=>goX y fs
def zct (fuel:Int):Int:=min (max fuel 0) 1073741824
def zau (fuel:Int):AnsD :=
  if (zbw s).2=true then
    match goX s ps a ⟨zct fuel,false,[],[],[],[]⟩ (zd3 s) with
    | .inl r=>r
    | .inr y=>⟨2,run0,y.fuel⟩
  else ⟨3,run0,zct fuel⟩
end
section
variable {P:Program}
def mpv (n:Nat):V:=.t (.c (.mp n))
/-- what a key's slot says of its value -/
inductive KV:T->Value->Prop
  | c (v:Value):KV (.c (.d (.raw v))) v
  | agg2 (u v:Value):KV (.agg [.d (.raw u),.d (.raw v)]) (.agg #[u,v])
theorem KV.eq {H:Im} {B:Bl} {x:T} {key v:Value} (h:KV x key) (hv:TR H B x v):v=key:=by
 cases h with
 | c u=>cases hv;rfl
 | agg2 u1 u2 =>
  obtain ⟨vs,rfl,h2⟩:=hv
  match vs,h2 with
  | [_,_],h2 =>
   obtain ⟨h3,h4,_⟩:=h2
   cases h3;cases h4;rfl
  | [],h2=>exact h2.elim
  | [_],h2=>exact h2.2.elim
  | _ :: _ :: _ :: _,h2=>exact h2.2.2.elim
/-- what a map's type says, and the zero of its elements -/
structure MpT (P:Program) (mt kt et:TypeId) (z:Value):Prop where
  key:Maps.Keyed P kt
  ty:P.underlying mt=some (.map kt et)
  zero:∀ w,(zeroValue et).run P w = .ok z w
def KeysOk (P:Program) (kt:TypeId) (es:List (Value × D)):Prop:=∀ p ∈ es,∃ l,keyOf P kt p.1=some l
theorem zij {kt:TypeId} {H:Im}:∀ {es:List (Value × D)} {arr:List MapEntry}, zba (fun (p:Value × D) (e:MapEntry)=>e.key=p.1/\DR H p.2 e.val) es arr->KeysOk P kt es->∀ e ∈ arr,∃ l,keyOf P kt e.key=some l
 | [],[],_,_,e,he=>by cases he
 | p :: es,x :: arr,h,hk,e,he=>by
  rcases List.mem_cons.1 he with rfl | he
  ·rw [h.1.1];exact hk p (by simp)
  ·exact zij h.2 (fun q hq=>hk q (by simp [hq])) e he
theorem mem_arr {H:Im}:∀ {es:List (Value × D)} {arr:List MapEntry}, zba (fun (p:Value × D) (e:MapEntry)=>e.key=p.1/\DR H p.2 e.val) es arr->∀ e ∈ arr,∃ p ∈ es,e.key=p.1/\DR H p.2 e.val
 | [],[],_,e,he=>by cases he
 | p :: es,x :: arr,h,e,he=>by
  rcases List.mem_cons.1 he with rfl | he
  ·exact ⟨p,by simp,h.1⟩
  ·obtain ⟨q,hq,h2⟩:=mem_arr h.2 e he
   exact ⟨q,by simp [hq],h2⟩
theorem arr_mem {H:Im}:∀ {es:List (Value × D)} {arr:List MapEntry}, zba (fun (p:Value × D) (e:MapEntry)=>e.key=p.1/\DR H p.2 e.val) es arr->∀ p ∈ es,∃ e ∈ arr,e.key=p.1
 | [],[],_,p,hp=>by cases hp
 | q :: es,x :: arr,h,p,hp=>by
  rcases List.mem_cons.1 hp with rfl | hp
  ·exact ⟨x,by simp,h.1.1⟩
  ·obtain ⟨e,he,h2⟩:=arr_mem h.2 p hp
   exact ⟨e,by simp [he],h2⟩
theorem Op.mkMap {d n:Nat} {t ty:TypeId} {pos af gd}:zbg P ⟨some d,.makeMap t none,ty,pos,af,gd⟩ { ws:=[(d,some (mpv n))],wl:=[(n,some (.mp []))],nw:=[n] }:=by
 refine zbg.news d n _ _ rfl rfl rfl (by simp) fun e f H B a w hok hr hn=>⟨.map (some w.heap.size),0,.map #[] 0,?_,⟨w.heap.size,0,[],0,by simp,heap_alloc_new w _,trivial⟩,⟨w.heap.size,0,by simp,rfl⟩⟩
 simp only [execOp,Instr.makeMap,newObj,Sem.run_bind,Sem.run_pure]
 rfl
theorem mp_at {e:E} {f:F} {H:Im} {B:Bl} {a:Act} {w:World} (hok:Ok e f H B a w) {t n:Nat} {es:List (Value × D)} (ht:f.s t=some (mpv n)) (hl:f.l n=some (.mp es)) :
  ∃ b c arr cl,B n=some (b,c)/\a.eval (.tmp t) = .map (some b)/\w.heap[b]?=some (.map ⟨arr⟩ cl)/\zba (fun (p:Value × D) (e:MapEntry)=>e.key=p.1/\DR H p.2 e.val) es arr:=by
 obtain ⟨b,c,hb,hv⟩:=hok.slot t _ ht
 obtain ⟨b', c', arr,cl,hb', hc,h2⟩:=hok.loc n _ hl
 rw [hb] at hb'
 cases hb'
 exact ⟨b,c,arr,cl,hb,hv,hc,h2⟩
def lkV:Bool->D->Bool->V
  | true,x,b => .tup [.c (.d x),.c (.d (.raw (.bool b)))]
  | false,x,_ => .t (.c (.d x))
theorem lkV_of {H:Im} {B:Bl} {c b:Bool} {x:D} {v:Value} (h:DR H x v):VR H B (lkV c x b) (if c then .tuple #[v,.bool b] else v):=by
 cases c with
 | true=>exact ⟨[v,.bool b],rfl,h,DR.raw _ rfl,trivial⟩
 | false=>exact h
theorem Op.lookF {d t n:Nat} {c:Bool} {x:Operand} {kv:T} {key z:Value} {zd:D} {es:List (Value × D)} {rs:List (Nat × V)} {mt kt et ty:TypeId} {l:Lit} {pos af gd} (M:MpT P mt kt et z) (hx:OV x (.t kv) rs) (hkv:KV kv key) (hk:keyOf P kt key=some l) (hes:KeysOk P kt es)
  (hz:∀ H,DR H zd z) (hn:∀ p ∈ es,p.1≠key):zbg P ⟨some d,.lookup mt (.tmp t) x c,ty,pos,af,gd⟩ { rs:=(t,mpv n) :: rs,rl:=[(n,.mp es)],ws:=[(d,some (lkV c zd false))] } :=
 zbg.value d _ rfl rfl rfl fun e f H B a w hok hr=>by
  obtain ⟨b,c', arr,cl,hb,hm,hc,h2⟩:=mp_at hok (hr.1 (t,mpv n) (by simp)) (hr.2 (n,.mp es) (by simp))
  have hxv:a.eval x=key:=hkv.eq (hx.eval hok fun p hp=>hr.1 p (by simp [hp]))
  refine ⟨_,?_,lkV_of (hz H)⟩
  rcases M.key.find w hk arr (zij h2 hes) with ⟨h3,_⟩ | ⟨j,e0,_,h4,h5⟩
  ·have hlk:(Instr.lookup mt (.map (some b)) key c).run P w = .ok (if c then .tuple #[z,.bool false] else z) w:=by
    simp [Instr.lookup,run_underlying M.ty,MapKept.run_getObj_map hc,M.key.check w _ hk,h3,M.zero w,Result.andThen]
   generalize a.eval=ρ at hm hxv ⊢
   simp only [execOp,hm,hxv,Sem.run_bind,hlk,Result.andThen_ok,Sem.run_pure]
  ·obtain ⟨p,hp,h6,_⟩:=mem_arr h2 e0 (List.mem_of_getElem? h4)
   exact absurd (h6.symm.trans h5) (hn p hp)
theorem Op.lookT {d t n:Nat} {c:Bool} {x:Operand} {kv:T} {key z:Value} {xd:D} {es:List (Value × D)} {rs:List (Nat × V)} {mt kt et ty:TypeId} {l:Lit} {pos af gd} (M:MpT P mt kt et z) (hx:OV x (.t kv) rs) (hkv:KV kv key) (hk:keyOf P kt key=some l) (hes:KeysOk P kt es)
  (hn:∃ p ∈ es,p.1=key) (ha:∀ p ∈ es,p.1=key->p.2=xd):zbg P ⟨some d,.lookup mt (.tmp t) x c,ty,pos,af,gd⟩ { rs:=(t,mpv n) :: rs,rl:=[(n,.mp es)],ws:=[(d,some (lkV c xd true))] } :=
 zbg.value d _ rfl rfl rfl fun e f H B a w hok hr=>by
  obtain ⟨b,c', arr,cl,hb,hm,hc,h2⟩:=mp_at hok (hr.1 (t,mpv n) (by simp)) (hr.2 (n,.mp es) (by simp))
  have hxv:a.eval x=key:=hkv.eq (hx.eval hok fun p hp=>hr.1 p (by simp [hp]))
  rcases M.key.find w hk arr (zij h2 hes) with ⟨_,h3⟩ | ⟨j,e0,h3,h4,h5⟩
  ·obtain ⟨p,hp,h4⟩:=hn
   obtain ⟨e0,he0,h5⟩:=arr_mem h2 p hp
   exact absurd (h5.trans h4) (h3 e0 he0)
  ·obtain ⟨p,hp,h6,h7⟩:=mem_arr h2 e0 (List.mem_of_getElem? h4)
   rw [ha p hp (h6.symm.trans h5)] at h7
   refine ⟨_,?_,lkV_of h7⟩
   have hlk:(Instr.lookup mt (.map (some b)) key c).run P w = .ok (if c then .tuple #[e0.val,.bool true] else e0.val) w:=by
    simp [Instr.lookup,run_underlying M.ty,MapKept.run_getObj_map hc,M.key.check w _ hk,h3,Result.andThen]
   generalize a.eval=ρ at hm hxv ⊢
   simp only [execOp,hm,hxv,Sem.run_bind,hlk,Result.andThen_ok,Sem.run_pure]
theorem Op.lookB {d t n:Nat} {x:Operand} {kv:T} {key:Value} {q:Bool} {es:List (Value × D)} {rs:List (Nat × V)} {mt kt et ty:TypeId} {l:Lit} {pos af gd} (M:MpT P mt kt et (.bool false)) (hx:OV x (.t kv) rs) (hkv:KV kv key) (hk:keyOf P kt key=some l) (hes:KeysOk P kt es)
  (ha:∀ p ∈ es,p.2 = .raw (.bool true)) (hq:q=true ↔ ∃ p ∈ es,p.1=key):zbg P ⟨some d,.lookup mt (.tmp t) x false,ty,pos,af,gd⟩ { rs:=(t,mpv n) :: rs,rl:=[(n,.mp es)],ws:=[(d,some (vb q))] }:=by
 cases q with
 | true=>exact Op.lookT M hx hkv hk hes (hq.1 rfl) fun p hp _=>ha p hp
 | false=>exact Op.lookF (zd:=.raw (.bool false)) M hx hkv hk hes (fun H=>DR.raw _ rfl) fun p hp e=>by cases hq.2 ⟨p,hp,e⟩
def putM (w:World) (b:Nat) (o:Obj):World:={ w with heap:=w.heap.setIfInBounds b o }
theorem putM_same {w:World} {b:Nat} {ob ob':Obj} (h:w.heap[b]?=some ob):(putM w b ob').heap[b]?=some ob':=Array.getElem?_setIfInBounds_self_of_lt (Array.getElem?_eq_some_iff.1 h).1
theorem putM_other {w:World} {b k:Nat} {ob:Obj} (h:k≠b):(putM w b ob).heap[k]?=w.heap[k]?:=Array.getElem?_setIfInBounds_ne (fun e=>h e.symm)
theorem zba.snoc {α β:Type} {R:α->β->Prop} {xs:List α} {ys:List β} {a:α} {b:β} (h:zba R xs ys) (k:R a b):zba R (xs++[a]) (ys++[b]):=h.append ⟨k,trivial⟩
theorem Op.mapNew {t n:Nat} {x y:Operand} {kv:T} {key z:Value} {xd:D} {es es':List (Value × D)} {rs rs':List (Nat × V)} {mt kt et ty:TypeId} {l:Lit} {pos af gd} (M:MpT P mt kt et z) (hx:OV x (.t kv) rs) (hkv:KV kv key) (hk:keyOf P kt key=some l) (hes:KeysOk P kt es)
  (hy:OV y (.t (.c (.d xd))) rs') (hn:∀ p ∈ es,p.1≠key) (he:es++[(key,xd)]=es'):zbg P ⟨none,.mapUpdate mt (.tmp t) x y,ty,pos,af,gd⟩ { rs:=(t,mpv n) :: (rs++rs'),rl:=[(n,.mp es)],wl:=[(n,some (.mp es'))] }:=by
 subst he
 rintro e f a w Q ⟨H,B,hok⟩ hr hnw hb0
 have hfl:=hr.2 (n,.mp es) (by simp)
 obtain ⟨b,c', arr,cl,hb,hm,hc,h2⟩:=mp_at hok (hr.1 (t,mpv n) (by simp)) hfl
 have hxv:a.eval x=key:=hkv.eq (hx.eval hok fun p hp=>hr.1 p (by simp [hp]))
 have hyv:=hy.eval hok fun p hp=>hr.1 p (by simp [hp])
 rcases M.key.find w hk arr (zij h2 hes) with ⟨h3,_⟩ | ⟨j,e0,_,h4,h5⟩
 ·have hup:(Instr.mapUpdate mt (.map (some b)) key (a.eval y)).run P w = .ok () (putM w b (.map ⟨arr++[⟨key,a.eval y,cl⟩]⟩ (cl+1))):=by
   simp [Instr.mapUpdate,run_underlying M.ty,MapKept.run_getObj_map hc,M.key.check w _ hk,h3,MapKept.run_setObj_map _ hc,Result.andThen,putM]
  have hexec:(execOp a.eval ⟨none,.mapUpdate mt (.tmp t) x y,ty,pos,af,gd⟩).run P w = .ok .skip (putM w b (.map ⟨arr++[⟨key,a.eval y,cl⟩]⟩ (cl+1))):=by
   generalize hq:a.eval y=q at hup
   generalize a.eval=ρ at hm hxv hq ⊢
   simp only [execOp,hm,hxv,hq,Sem.run_bind,hup,Result.andThen_ok,Sem.run_pure]
  unfold Oper.wp
  rw [hexec,Oper.upon_skip]
  refine St.put0 ⟨H,B,hok.write (g:=⟨f.s,fun m=>if m=n then some (.mp (es++[(key,xd)])) else f.l m⟩) (l' := .mp (es++[(key,xd)])) hfl hb (fun _=>rfl) (fun _=>rfl) (fun k hk=>putM_other hk) (by simp [putM]) rfl rfl rfl
   ⟨b,c', _,_,hb,putM_same hc,h2.snoc ⟨rfl,(show DR H xd (a.eval y) from hyv)⟩⟩⟩ rfl (app0_s _ _ rfl) (fun m=>app1_l f n _ _ rfl m)
 ·obtain ⟨p,hp,h6,_⟩:=mem_arr h2 e0 (List.mem_of_getElem? h4)
  exact absurd (h6.symm.trans h5) (hn p hp)
theorem F.eq_of {f g:F} (h1:∀ t,f.s t=g.s t) (h2:∀ n,f.l n=g.l n):f=g:=by
 cases f;cases g
 simp only [F.mk.injEq]
 exact ⟨funext h1,funext h2⟩
theorem zgw {β:Type} (ids:List Nat) (n:Nat):∀ (l:List (Nat × β)),(l.filter fun p=>!zgl ids p.1).lookup n=if zgl ids n=true then none else l.lookup n
 | []=>by simp
 | (m,b) :: l=>by
  have ih:=zgw ids n l
  rw [List.filter_cons]
  by_cases hm:zgl ids m=true
  ·simp only [hm,Bool.not_true,Bool.false_eq_true,if_false]
   rw [ih]
   by_cases hn:zgl ids n=true
   ·rw [if_pos hn,if_pos hn]
   ·rw [if_neg hn,if_neg hn,List.lookup_cons]
    have:(n == m)=false:=by
     cases e:(n == m) with
     | false=>rfl
     | true=>have:=eq_of_beq e;subst this;exact absurd hm hn
    rw [this]
  ·have hm':(!zgl ids m)=true:=by simpa using hm
   simp only [hm', if_true]
   rw [List.lookup_cons,List.lookup_cons]
   cases e:(n == m) with
   | true=>have:=eq_of_beq e;subst this;dsimp only;rw [if_neg hm]
   | false=>dsimp only;exact ih
theorem zbg.idle {o:Oper} {i:I} (h:zbg P o i) (ids:List Nat) (hi:(ids.map fun n=>i.wl.lookup n)=ids.map fun n=>(i.rl.lookup n).map some):zbg P o { i with wl:=i.wl.filter fun p=>!zgl ids p.1 }:=by
 intro e f a w Q hst hr hn hf
 have h1:=h e f a w Q hst hr hn hf
 have e1:f.app { i with wl:=i.wl.filter fun p=>!zgl ids p.1 }=f.app i:=by
  refine F.eq_of (fun t=>rfl) fun n=>?_
  simp only [F.app,zgw]
  by_cases hn2:zgl ids n=true
  ·rw [if_pos hn2]
   have h2:i.wl.lookup n=(i.rl.lookup n).map some:=by
    have hmem:=zdn.1 hn2
    obtain ⟨j,hj⟩:=List.getElem?_of_mem hmem
    have h3:=congrArg (fun (l:List (Option (Option L)))=>l[j]?) hi
    simp only [List.getElem?_map,hj,Option.map_some,Option.some.injEq] at h3
    exact h3
   rw [h2]
   cases hl:i.rl.lookup n with
   | none=>rfl
   | some l=>exact hr.2 (n,l) (zb9 hl)
  ·rw [if_neg hn2]
 rw [e1];exact h1
theorem Op.callI {k:FuncId} {ps qs:List (Nat × L)} {args:List V} {res:V} (hc:Fn P k ps args res qs) (hk:za6 P k) (ids:List Nat) {d:Nat} {xs:List Operand} {rs:List (Nat × V)} {tys:Array TypeId} {ty pos af gd} (h:OVs xs args rs)
  (hi:(ids.map fun n=>(callI rs ps qs d res).wl.lookup n)=ids.map fun n=>((callI rs ps qs d res).rl.lookup n).map some) :
  zbg P ⟨some d,.call { callee:=.value (.func k),args:=⟨xs⟩,argTypes:=tys }, ty,pos,af,gd⟩ { callI rs ps qs d res with wl:=(callI rs ps qs d res).wl.filter fun p=>!zgl ids p.1 }:=zbg.idle (Op.call hc hk h) ids hi
theorem Op.nilQ {d t n o:Nat} {ty:TypeId} {pos af gd}:zbg P ⟨some d,.nilCheck (.tmp t),ty,pos,af,gd⟩ { rs:=[(t,vp n o)],ws:=[(d,some (vp n o))] } :=
 zbg.value d _ rfl rfl rfl fun e f H B a w hok hr=>by
  obtain ⟨b,c,hb,hu⟩:=(hok.slot t _ (hr.1 (t,vp n o) (by simp))).ptrI
  refine ⟨.pointer (some ⟨b,o,none⟩),?_,⟨b,c,hb,rfl⟩⟩
  have h5:a.eval (.tmp t) = .pointer (some ⟨b,o,none⟩):=hu
  generalize a.eval=ρ at h5 ⊢
  simp only [execOp,h5,Sem.run_pure]
end
def InI (n:Int):Prop:=-9223372036854775808<=n/\n<9223372036854775808
def zha (ls:List Int):Prop:=∀ n ∈ ls,InI n
def KinP (fs:List PrD):Prop:=∀ p ∈ fs,InI p.st/\InI p.nd
theorem InI.wf {n:Int} (h:InI n):(Lit.int .i64 n).wf=true:=by
 obtain ⟨h1,h2⟩:=h
 simp only [Lit.wf,Bool.and_eq_true,decide_eq_true_eq]
 exact ⟨h1,show n<=9223372036854775807 by omega⟩
abbrev bxS (s:zan) (ps:List zb4) (au:zcy) (fu:Int) (ot:Bool):L:=.box [.d (.sl 1 (s.vars.map zc6)),.d (.sl 5 (s.bounds.map zah.d)),.d (.raw (.int .i64 s.init.kind)),.d (.sl 3 (s.init.r.t.parts.map zbr.d)),.d (.raw (.bool s.init.r.t.k.neg)),.d (nsl s.init.r.t.k.abs),.d (.raw (.bool s.init.r.eq)),.d (.sl 6 (s.init.kids.map za8.d)),.d (.sl 3 (s.procs.map zav.d)),.d (.sl 10 (s.acts.map zaz.d)),.d (.sl 9 (ps.map zb4.d)),.d (.sl 3 (au.nodes.map zbd.d)),.d (.sl 1 (au.first.map zad)),.d (.sl 1 (au.good.map zaq)),.d (.raw (.int .i64 fu)),.d (.raw (.bool ot)),.mp 1,.mp 2,.mp 3,.mp 4]
def mpL (s:zan) (ps:List zb4) (ls:List Int):List (Value × D):=ls.map fun n=>(.int .i64 n,.sl 1 ((zax s ps n).map zaq))
def mpE (s:zan) (es:List Int):List (Value × D):=es.map fun n=>(.int .i64 n,.sl 3 ((zbm s n).map zar.d))
def prV (p:PrD):Value:=.agg #[.int .i64 p.st,.int .i64 p.nd]
def mpP (fs:List PrD):List (Value × D):=fs.map fun p=>(prV p,.raw (.bool true))
theorem laid9:laidOutB Tryz.prog=true:=by kernel_rfl
theorem pairK:Maps.Keyed Tryz.prog 121:=.of_law (deep_law_laid laid9 (m:=2) (by omega) (of_decide_eq_true (by kernel_rfl)) (by kernel_rfl) (by rw [Tryz.underlying121]))
theorem cells9:Tryz.prog.cellsOf 121=2:=by kernel_rfl
theorem cells8:Tryz.prog.cellsOf 3=1:=by kernel_rfl
theorem kt9:Tryz.prog.keyType 121=true:=by kernel_rfl
theorem ts9:∃ m,Tryz.prog.types.size=m+1:=⟨Tryz.prog.types.size - 1,by kernel_rfl⟩
theorem zgz {p:PrD} (h:InI p.st/\InI p.nd):∃ l,keyOf Tryz.prog 121 (prV p)=some l:=by
 obtain ⟨m,hm⟩:=ts9
 unfold keyOf prV
 simp only [Tryz.underlying121]
 rw [if_pos (by simp [kt9,Value.formed,Tryz.underlying121,cells9]),hm]
 unfold Program.keyLits
 simp only [Tryz.underlying121,Value.cells]
 rw [if_pos (by rw [cells9];exact ⟨rfl,by kernel_rfl⟩)]
 unfold Program.keyLits
 simp [cells8,Tryz.underlying3,h.1.wf,h.2.wf]
theorem zgf {n:Int} (h:InI n):keyOf Tryz.prog 3 (.int .i64 n)=some (.int .i64 n):=Maps.keyOf_int_mk Tryz.underlying3 h.wf
theorem mptP:MpT Tryz.prog 116 121 4 (.bool false):=⟨pairK,Tryz.underlying116,fun _=>by kernel_rfl⟩
theorem mptL:MpT Tryz.prog 114 3 59 (.slice none 0 0):=⟨Maps.int_keyed Tryz.underlying3,Tryz.underlying114,fun _=>by kernel_rfl⟩
theorem mptE:MpT Tryz.prog 115 3 52 (.slice none 0 0):=⟨Maps.int_keyed Tryz.underlying3,Tryz.underlying115,fun _=>by kernel_rfl⟩
theorem keysI {ls:List Int} {f:Int->D} (h:zha ls):KeysOk Tryz.prog 3 (ls.map fun n=>(Value.int .i64 n,f n)):=fun p hp=>by
 obtain ⟨n,hn,rfl⟩:=List.mem_map.1 hp
 exact ⟨_,zgf (h n hn)⟩
theorem keysP {fs:List PrD} (h:KinP fs):KeysOk Tryz.prog 121 (mpP fs):=fun p hp=>by
 obtain ⟨n,hn,rfl⟩:=List.mem_map.1 hp
 exact zgz (h n hn)
theorem prV_inj {p q:PrD} (h:prV p=prV q):p=q:=by
 cases p;cases q
 simpa [prV] using h
section
variable {s:zan} {ps:List zb4} {d t m x y:Nat} {n:Int} {ls:List Int} {ty:TypeId} {pos:String} {af:Array Edge} {gd:Option (Nat × Bool)}
theorem kyT {f:Int->D} (h:n ∈ ls):(∃ p ∈ ls.map (fun n=>(Value.int .i64 n,f n)),p.1 = .int .i64 n)/\∀ p ∈ ls.map (fun n=>(Value.int .i64 n,f n)),p.1 = .int .i64 n->p.2=f n :=
 ⟨⟨_,List.mem_map.2 ⟨n,h,rfl⟩,rfl⟩,fun p hp e=>by
  obtain ⟨k,_,rfl⟩:=List.mem_map.1 hp
  have:k=n:=by simpa using e
  rw [this]⟩
theorem kyF {f:Int->D} (h:n ∉ ls):∀ p ∈ ls.map (fun n=>(Value.int .i64 n,f n)),p.1 ≠ .int .i64 n:=fun p hp e=>by
 obtain ⟨k,hk,rfl⟩:=List.mem_map.1 hp
 have:k=n:=by simpa using e
 exact h (this ▸ hk)
theorem Op.lkLT (hk:zha ls) (hn:InI n) (h:n ∈ ls):zbg Tryz.prog ⟨some d,.lookup 114 (.tmp t) (.tmp x) true,ty,pos,af,gd⟩ { rs:=[(t,mpv m),(x,vi .i64 n)],rl:=[(m,.mp (mpL s ps ls))],ws:=[(d,some (.tup [.c (.d (.sl 1 ((zax s ps n).map zaq))),.c (.d (.raw (.bool true)))]))] } :=
 Op.lookT mptL (OV.tmp x _) (.c _) (zgf hn) (keysI hk) (kyT h).1 (kyT h).2
theorem Op.lkLF (hk:zha ls) (hn:InI n) (h:n ∉ ls):zbg Tryz.prog ⟨some d,.lookup 114 (.tmp t) (.tmp x) true,ty,pos,af,gd⟩ { rs:=[(t,mpv m),(x,vi .i64 n)],rl:=[(m,.mp (mpL s ps ls))],ws:=[(d,some (.tup [.c (.d (.sl 1 (([]:List Bool).map zaq))),.c (.d (.raw (.bool false)))]))] } :=
 Op.lookF mptL (OV.tmp x _) (.c _) (zgf hn) (keysI hk) (fun _=>DR.nil _ _ _ (fun _=>rfl) (Nat.zero_le _)) (kyF h)
theorem Op.upL (hk:zha ls) (hn:InI n) (h:n ∉ ls):zbg Tryz.prog ⟨none,.mapUpdate 114 (.tmp t) (.tmp x) (.tmp y),ty,pos,af,gd⟩ { rs:=[(t,mpv m),(x,vi .i64 n),(y,.t (.c (.d (.sl 1 ((zax s ps n).map zaq)))))],rl:=[(m,.mp (mpL s ps ls))],wl:=[(m,some (.mp (mpL s ps (ls++[n]))))] } :=
 Op.mapNew mptL (OV.tmp x _) (.c _) (zgf hn) (keysI hk) (OV.tmp y _) (kyF h) (by unfold mpL;rw [List.map_append];rfl)
theorem Op.lkET (hk:zha ls) (hn:InI n) (h:n ∈ ls):zbg Tryz.prog ⟨some d,.lookup 115 (.tmp t) (.tmp x) true,ty,pos,af,gd⟩ { rs:=[(t,mpv m),(x,vi .i64 n)],rl:=[(m,.mp (mpE s ls))],ws:=[(d,some (.tup [.c (.d (.sl 3 ((zbm s n).map zar.d))),.c (.d (.raw (.bool true)))]))] } :=
 Op.lookT mptE (OV.tmp x _) (.c _) (zgf hn) (keysI hk) (kyT h).1 (kyT h).2
theorem Op.lkEF (hk:zha ls) (hn:InI n) (h:n ∉ ls):zbg Tryz.prog ⟨some d,.lookup 115 (.tmp t) (.tmp x) true,ty,pos,af,gd⟩ { rs:=[(t,mpv m),(x,vi .i64 n)],rl:=[(m,.mp (mpE s ls))],ws:=[(d,some (.tup [.c (.d (.sl 3 (([]:List zar).map zar.d))),.c (.d (.raw (.bool false)))]))] } :=
 Op.lookF mptE (OV.tmp x _) (.c _) (zgf hn) (keysI hk) (fun _=>DR.nil _ _ _ (fun _=>rfl) (Nat.zero_le _)) (kyF h)
theorem Op.upE (hk:zha ls) (hn:InI n) (h:n ∉ ls):zbg Tryz.prog ⟨none,.mapUpdate 115 (.tmp t) (.tmp x) (.tmp y),ty,pos,af,gd⟩ { rs:=[(t,mpv m),(x,vi .i64 n),(y,.t (.c (.d (.sl 3 ((zbm s n).map zar.d)))))],rl:=[(m,.mp (mpE s ls))],wl:=[(m,some (.mp (mpE s (ls++[n]))))] } :=
 Op.mapNew mptE (OV.tmp x _) (.c _) (zgf hn) (keysI hk) (OV.tmp y _) (kyF h) (by unfold mpE;rw [List.map_append];rfl)
theorem Op.lkP {p:PrD} {fs:List PrD} {q:Bool} (hk:KinP fs) (hn:InI p.st/\InI p.nd) (hq:decide (p ∈ fs)=q):zbg Tryz.prog ⟨some d,.lookup 116 (.tmp t) (.tmp x) false,ty,pos,af,gd⟩ { rs:=[(t,mpv m),(x,.t (.agg [.d (.raw (.int .i64 p.st)),.d (.raw (.int .i64 p.nd))]))],rl:=[(m,.mp (mpP fs))],ws:=[(d,some (vb q))] }:=by
 obtain ⟨l,hl⟩:=zgz hn
 subst hq
 refine Op.lookB mptP (OV.tmp x _) (.agg2 _ _) hl (keysP hk) (fun r hr=>?_) ?_
 ·obtain ⟨k,_,rfl⟩:=List.mem_map.1 hr;rfl
 ·rw [decide_eq_true_eq]
  constructor
  ·intro h;exact ⟨_,List.mem_map.2 ⟨p,h,rfl⟩,rfl⟩
  ·rintro ⟨r,hr,e⟩
   obtain ⟨k,hk2,rfl⟩:=List.mem_map.1 hr
   exact prV_inj e ▸ hk2
theorem Op.upP {p:PrD} {fs:List PrD} (hk:KinP fs) (hn:InI p.st/\InI p.nd) (h:p ∉ fs):zbg Tryz.prog ⟨none,.mapUpdate 116 (.tmp t) (.tmp x) (.const (.bool true)),ty,pos,af,gd⟩ { rs:=[(t,mpv m),(x,.t (.agg [.d (.raw (.int .i64 p.st)),.d (.raw (.int .i64 p.nd))]))],rl:=[(m,.mp (mpP fs))],wl:=[(m,some (.mp (mpP (fs++[p]))))] }:=by
 obtain ⟨l,hl⟩:=zgz hn
 refine Op.mapNew mptP (OV.tmp x _) (.agg2 _ _) hl (keysP hk) (OV.const _ rfl) (fun r hr e=>?_) (by unfold mpP;rw [List.map_append];rfl)
 obtain ⟨k,hk2,rfl⟩:=List.mem_map.1 hr
 exact h (prV_inj e ▸ hk2)
end
def fam3tb:Tb:=[(22,⟨1,false,[],[.d (.raw za4)],1⟩),(23,⟨1,false,[],[.d (.raw za4)],1⟩),(3,⟨1,false,[],[.d (.raw (.int .i64 0))],13⟩),(24,⟨1,false,[],[.d (.raw za4)],1⟩),(4,⟨1,false,[],[.d (.raw (.bool false))],3⟩),(26,⟨1,false,[],[.d (nsl [])],1⟩),(28,⟨2,true,[(0,1,false),(1,1,false)],[.d (.raw (.bool false)),.d (nsl [])],0⟩),(30,⟨3,true,[(0,1,false),(1,2,true)],[.d (.raw za4),.d (.raw (.bool false)),.d (nsl [])],0⟩),(32,⟨4,true,[(0,3,true),(3,1,false)],[.d (.raw za4),.d (.raw (.bool false)),.d (nsl []),.d (.raw (.bool false))],0⟩),(33,⟨1,false,[],[.d (.raw za4)],1⟩),(35,⟨6,true,[(0,1,false),(1,4,true),(5,1,false)],[.d (.raw (.int .i64 0)),.d (.raw za4),.d (.raw (.bool false)),.d (nsl []),.d (.raw (.bool false)),.d (.raw za4)],0⟩),(36,⟨1,false,[],[.d (.raw za4)],1⟩),(37,⟨1,false,[],[.d (.raw za4)],1⟩),(39,⟨10,true,[(0,1,false),(1,1,false),(2,6,true),(8,1,false),(9,1,false)],[.d (.raw za4),.d (.raw za4),.d (.raw (.int .i64 0)),.d (.raw za4),.d (.raw (.bool false)),.d (nsl []),.d (.raw (.bool false)),.d (.raw za4),.d (.raw za4),.d (.raw za4)],0⟩),(57,⟨1,false,[],[.d (.raw za4)],1⟩),(58,⟨1,false,[],[.d (.raw za4)],1⟩),(44,⟨1,false,[],[.d (.raw za4)],1⟩),(59,⟨1,false,[],[.d (.raw za4)],1⟩),(61,⟨3,true,[(0,1,false),(1,1,false),(2,1,false)],[.d (.raw za4),.d (.raw za4),.d (.raw za4)],0⟩),(114,⟨1,false,[],[.d (.raw (.map none))],4⟩),(115,⟨1,false,[],[.d (.raw (.map none))],4⟩),(116,⟨1,false,[],[.d (.raw (.map none))],4⟩),(118,⟨20,true,[(0,10,true),(10,1,false),(11,3,true),(14,1,false),(15,1,false),(16,1,false),(17,1,false),(18,1,false),(19,1,false)],[.d (.raw za4),.d (.raw za4),.d (.raw (.int .i64 0)),.d (.raw za4),.d (.raw (.bool false)),.d (nsl []),.d (.raw (.bool false)),.d (.raw za4),.d (.raw za4),.d (.raw za4),.d (.raw za4),.d (.raw za4),.d (.raw za4),.d (.raw za4),.d (.raw (.int .i64 0)),.d (.raw (.bool false)),.d (.raw (.map none)),.d (.raw (.map none)),.d (.raw (.map none)),.d (.raw (.map none))],0⟩),(45,⟨1,false,[],[.d (.raw za4)],1⟩),(47,⟨2,true,[(0,1,false),(1,1,false)],[.d (.raw za4),.d (.raw za4)],0⟩),(121,⟨2,true,[(0,1,false),(1,1,false)],[.d (.raw (.int .i64 0)),.d (.raw (.int .i64 0))],0⟩),(171,⟨3,true,[(0,1,false),(1,2,true)],[.d (.raw (.int .i64 0)),.d (.raw (.int .i64 0)),.d (.raw (.int .i64 0))],0⟩),(122,⟨1,false,[],[.d (.raw za4)],1⟩),(174,⟨1,false,[],[.d (.raw za4)],1⟩),(176,⟨4,true,[(0,2,true),(2,1,false),(3,1,false)],[.d (.raw (.int .i64 0)),.d (.raw (.int .i64 0)),.d (.raw za4),.d (.raw (.int .i64 0))],0⟩),(108,⟨3,true,[(0,1,false),(1,1,false),(2,1,false)],[.d (.raw za4),.d (.raw za4),.d (.raw za4)],0⟩),(52,⟨1,false,[],[.d (.raw za4)],1⟩),(56,⟨3,true,[(0,1,false),(1,2,true)],[.d (.raw (.int .i64 0)),.d (.raw za4),.d (.raw za4)],0⟩),(42,⟨1,false,[],[.d (.raw za4)],1⟩),(67,⟨3,true,[(0,1,false),(1,1,false),(2,1,false)],[.d (.raw za4),.d (.raw za4),.d (.raw za4)],0⟩),(69,⟨5,true,[(0,1,false),(1,3,true),(4,1,false)],[.d (.raw (.int .i64 0)),.d (.raw za4),.d (.raw za4),.d (.raw za4),.d (.raw (.int .i64 0))],0⟩)]
theorem za9:zi6 Tryz.prog fam3tb:=⟨zbb.slc Tryz.underlying22 (by kernel_rfl) ⟨(.slice none 0 0:Value),[.slice none 0 0],by kernel_rfl,rfl,(fun _ _=>⟨DR.raw _ rfl,trivial⟩)⟩,
 zbb.slc Tryz.underlying23 (by kernel_rfl) ⟨(.slice none 0 0:Value),[.slice none 0 0],by kernel_rfl,rfl,(fun _ _=>⟨DR.raw _ rfl,trivial⟩)⟩,
 zbb.int Tryz.underlying3 rfl (by kernel_rfl) ⟨(.int .i64 0:Value),[.int .i64 0],by kernel_rfl,rfl,(fun _ _=>⟨DR.raw _ rfl,trivial⟩)⟩,
 zbb.slc Tryz.underlying24 (by kernel_rfl) ⟨(.slice none 0 0:Value),[.slice none 0 0],by kernel_rfl,rfl,(fun _ _=>⟨DR.raw _ rfl,trivial⟩)⟩,
 zbb.bl Tryz.underlying4 (by kernel_rfl) ⟨(.bool false:Value),[.bool false],by kernel_rfl,rfl,(fun _ _=>⟨DR.raw _ rfl,trivial⟩)⟩,
 zbb.slc Tryz.underlying26 (by kernel_rfl) ⟨(.slice none 0 0:Value),[.slice none 0 0],by kernel_rfl,rfl,(fun _ _=>⟨DR.nil _ _ _ (fun _=>rfl) (Nat.zero_le _),trivial⟩)⟩,
 zbb.st Tryz.underlying28 (by kernel_rfl) ⟨⟨by decide,Fd.mk' _ _ Tryz.underlying28 rfl rfl (Sz.mk' (by kernel_rfl) Tryz.underlying4 _ rfl)⟩,⟨by decide,Fd.mk' _ _ Tryz.underlying28 rfl rfl (Sz.mk' (by kernel_rfl) Tryz.underlying26 _ rfl)⟩,trivial⟩ ⟨(Value.agg #[.bool false,.slice none 0 0]),[.bool false,.slice none 0 0],by kernel_rfl,rfl,(fun _ _=>⟨DR.raw _ rfl,DR.nil _ _ _ (fun _=>rfl) (Nat.zero_le _),trivial⟩)⟩ ⟨_,Tryz.underlying28,⟨⟨rfl,by kernel_rfl⟩,⟨rfl,by kernel_rfl⟩,trivial⟩⟩,
 zbb.st Tryz.underlying30 (by kernel_rfl) ⟨⟨by decide,Fd.mk' _ _ Tryz.underlying30 rfl rfl (Sz.mk' (by kernel_rfl) Tryz.underlying24 _ rfl)⟩,⟨by decide,Fd.mk' _ _ Tryz.underlying30 rfl rfl (Sz.mk' (by kernel_rfl) Tryz.underlying28 _ rfl)⟩,trivial⟩ ⟨(Value.agg #[.slice none 0 0,.bool false,.slice none 0 0]),[.slice none 0 0,.bool false,.slice none 0 0],by kernel_rfl,rfl,(fun _ _=>⟨DR.raw _ rfl,DR.raw _ rfl,DR.nil _ _ _ (fun _=>rfl) (Nat.zero_le _),trivial⟩)⟩ ⟨_,Tryz.underlying30,⟨⟨rfl,by kernel_rfl⟩,⟨rfl,by kernel_rfl⟩,trivial⟩⟩,
 zbb.st Tryz.underlying32 (by kernel_rfl) ⟨⟨by decide,Fd.mk' _ _ Tryz.underlying32 rfl rfl (Sz.mk' (by kernel_rfl) Tryz.underlying30 _ rfl)⟩,⟨by decide,Fd.mk' _ _ Tryz.underlying32 rfl rfl (Sz.mk' (by kernel_rfl) Tryz.underlying4 _ rfl)⟩,trivial⟩ ⟨(Value.agg #[.slice none 0 0,.bool false,.slice none 0 0,.bool false]),[.slice none 0 0,.bool false,.slice none 0 0,.bool false],by kernel_rfl,rfl,(fun _ _=>⟨DR.raw _ rfl,DR.raw _ rfl,DR.nil _ _ _ (fun _=>rfl) (Nat.zero_le _),DR.raw _ rfl,trivial⟩)⟩ ⟨_,Tryz.underlying32,⟨⟨rfl,by kernel_rfl⟩,⟨rfl,by kernel_rfl⟩,trivial⟩⟩,
 zbb.slc Tryz.underlying33 (by kernel_rfl) ⟨(.slice none 0 0:Value),[.slice none 0 0],by kernel_rfl,rfl,(fun _ _=>⟨DR.raw _ rfl,trivial⟩)⟩,
 zbb.st Tryz.underlying35 (by kernel_rfl) ⟨⟨by decide,Fd.mk' _ _ Tryz.underlying35 rfl rfl (Sz.mk' (by kernel_rfl) Tryz.underlying3 _ rfl)⟩,⟨by decide,Fd.mk' _ _ Tryz.underlying35 rfl rfl (Sz.mk' (by kernel_rfl) Tryz.underlying32 _ rfl)⟩,⟨by decide,Fd.mk' _ _ Tryz.underlying35 rfl rfl (Sz.mk' (by kernel_rfl) Tryz.underlying33 _ rfl)⟩,trivial⟩ ⟨(Value.agg #[.int .i64 0,.slice none 0 0,.bool false,.slice none 0 0,.bool false,.slice none 0 0]),[.int .i64 0,.slice none 0 0,.bool false,.slice none 0 0,.bool false,.slice none 0 0],by kernel_rfl,rfl,(fun _ _=>⟨DR.raw _ rfl,DR.raw _ rfl,DR.raw _ rfl,DR.nil _ _ _ (fun _=>rfl) (Nat.zero_le _),DR.raw _ rfl,DR.raw _ rfl,trivial⟩)⟩ ⟨_,Tryz.underlying35,⟨⟨rfl,by kernel_rfl⟩,⟨rfl,by kernel_rfl⟩,⟨rfl,by kernel_rfl⟩,trivial⟩⟩,
 zbb.slc Tryz.underlying36 (by kernel_rfl) ⟨(.slice none 0 0:Value),[.slice none 0 0],by kernel_rfl,rfl,(fun _ _=>⟨DR.raw _ rfl,trivial⟩)⟩,
 zbb.slc Tryz.underlying37 (by kernel_rfl) ⟨(.slice none 0 0:Value),[.slice none 0 0],by kernel_rfl,rfl,(fun _ _=>⟨DR.raw _ rfl,trivial⟩)⟩,
 zbb.st Tryz.underlying39 (by kernel_rfl) ⟨⟨by decide,Fd.mk' _ _ Tryz.underlying39 rfl rfl (Sz.mk' (by kernel_rfl) Tryz.underlying22 _ rfl)⟩,⟨by decide,Fd.mk' _ _ Tryz.underlying39 rfl rfl (Sz.mk' (by kernel_rfl) Tryz.underlying23 _ rfl)⟩,⟨by decide,Fd.mk' _ _ Tryz.underlying39 rfl rfl (Sz.mk' (by kernel_rfl) Tryz.underlying35 _ rfl)⟩,⟨by decide,Fd.mk' _ _ Tryz.underlying39 rfl rfl (Sz.mk' (by kernel_rfl) Tryz.underlying36 _ rfl)⟩,⟨by decide,Fd.mk' _ _ Tryz.underlying39 rfl rfl (Sz.mk' (by kernel_rfl) Tryz.underlying37 _ rfl)⟩,trivial⟩ ⟨(Value.agg #[.slice none 0 0,.slice none 0 0,.int .i64 0,.slice none 0 0,.bool false,.slice none 0 0,.bool false,.slice none 0 0,.slice none 0 0,.slice none 0 0]),[.slice none 0 0,.slice none 0 0,.int .i64 0,.slice none 0 0,.bool false,.slice none 0 0,.bool false,.slice none 0 0,.slice none 0 0,.slice none 0 0],by kernel_rfl,rfl,(fun _ _=>⟨DR.raw _ rfl,DR.raw _ rfl,DR.raw _ rfl,DR.raw _ rfl,DR.raw _ rfl,DR.nil _ _ _ (fun _=>rfl) (Nat.zero_le _),DR.raw _ rfl,DR.raw _ rfl,DR.raw _ rfl,DR.raw _ rfl,trivial⟩)⟩ ⟨_,Tryz.underlying39,⟨⟨rfl,by kernel_rfl⟩,⟨rfl,by kernel_rfl⟩,⟨rfl,by kernel_rfl⟩,⟨rfl,by kernel_rfl⟩,⟨rfl,by kernel_rfl⟩,trivial⟩⟩,
 zbb.slc Tryz.underlying57 (by kernel_rfl) ⟨(.slice none 0 0:Value),[.slice none 0 0],by kernel_rfl,rfl,(fun _ _=>⟨DR.raw _ rfl,trivial⟩)⟩,
 zbb.slc Tryz.underlying58 (by kernel_rfl) ⟨(.slice none 0 0:Value),[.slice none 0 0],by kernel_rfl,rfl,(fun _ _=>⟨DR.raw _ rfl,trivial⟩)⟩,
 zbb.slc Tryz.underlying44 (by kernel_rfl) ⟨(.slice none 0 0:Value),[.slice none 0 0],by kernel_rfl,rfl,(fun _ _=>⟨DR.raw _ rfl,trivial⟩)⟩,
 zbb.slc Tryz.underlying59 (by kernel_rfl) ⟨(.slice none 0 0:Value),[.slice none 0 0],by kernel_rfl,rfl,(fun _ _=>⟨DR.raw _ rfl,trivial⟩)⟩,
 zbb.st Tryz.underlying61 (by kernel_rfl) ⟨⟨by decide,Fd.mk' _ _ Tryz.underlying61 rfl rfl (Sz.mk' (by kernel_rfl) Tryz.underlying58 _ rfl)⟩,⟨by decide,Fd.mk' _ _ Tryz.underlying61 rfl rfl (Sz.mk' (by kernel_rfl) Tryz.underlying44 _ rfl)⟩,⟨by decide,Fd.mk' _ _ Tryz.underlying61 rfl rfl (Sz.mk' (by kernel_rfl) Tryz.underlying59 _ rfl)⟩,trivial⟩ ⟨(Value.agg #[.slice none 0 0,.slice none 0 0,.slice none 0 0]),[.slice none 0 0,.slice none 0 0,.slice none 0 0],by kernel_rfl,rfl,(fun _ _=>⟨DR.raw _ rfl,DR.raw _ rfl,DR.raw _ rfl,trivial⟩)⟩ ⟨_,Tryz.underlying61,⟨⟨rfl,by kernel_rfl⟩,⟨rfl,by kernel_rfl⟩,⟨rfl,by kernel_rfl⟩,trivial⟩⟩,
 zbb.fnc Tryz.underlying114 rfl (by kernel_rfl) ⟨(.map none:Value),[.map none],by kernel_rfl,rfl,(fun _ _=>⟨DR.raw _ rfl,trivial⟩)⟩,
 zbb.fnc Tryz.underlying115 rfl (by kernel_rfl) ⟨(.map none:Value),[.map none],by kernel_rfl,rfl,(fun _ _=>⟨DR.raw _ rfl,trivial⟩)⟩,
 zbb.fnc Tryz.underlying116 rfl (by kernel_rfl) ⟨(.map none:Value),[.map none],by kernel_rfl,rfl,(fun _ _=>⟨DR.raw _ rfl,trivial⟩)⟩,
 zbb.st Tryz.underlying118 (by kernel_rfl) ⟨⟨by decide,Fd.mk' _ _ Tryz.underlying118 rfl rfl (Sz.mk' (by kernel_rfl) Tryz.underlying39 _ rfl)⟩,⟨by decide,Fd.mk' _ _ Tryz.underlying118 rfl rfl (Sz.mk' (by kernel_rfl) Tryz.underlying57 _ rfl)⟩,⟨by decide,Fd.mk' _ _ Tryz.underlying118 rfl rfl (Sz.mk' (by kernel_rfl) Tryz.underlying61 _ rfl)⟩,⟨by decide,Fd.mk' _ _ Tryz.underlying118 rfl rfl (Sz.mk' (by kernel_rfl) Tryz.underlying3 _ rfl)⟩,⟨by decide,Fd.mk' _ _ Tryz.underlying118 rfl rfl (Sz.mk' (by kernel_rfl) Tryz.underlying4 _ rfl)⟩,⟨by decide,Fd.mk' _ _ Tryz.underlying118 rfl rfl (Sz.mk' (by kernel_rfl) Tryz.underlying114 _ rfl)⟩,⟨by decide,Fd.mk' _ _ Tryz.underlying118 rfl rfl (Sz.mk' (by kernel_rfl) Tryz.underlying115 _ rfl)⟩,⟨by decide,Fd.mk' _ _ Tryz.underlying118 rfl rfl (Sz.mk' (by kernel_rfl) Tryz.underlying116 _ rfl)⟩,⟨by decide,Fd.mk' _ _ Tryz.underlying118 rfl rfl (Sz.mk' (by kernel_rfl) Tryz.underlying116 _ rfl)⟩,trivial⟩ ⟨(Value.agg #[.slice none 0 0,.slice none 0 0,.int .i64 0,.slice none 0 0,.bool false,.slice none 0 0,.bool false,.slice none 0 0,.slice none 0 0,.slice none 0 0,.slice none 0 0,.slice none 0 0,.slice none 0 0,.slice none 0 0,.int .i64 0,.bool false,.map none,.map none,.map none,.map none]),[.slice none 0 0,.slice none 0 0,.int .i64 0,.slice none 0 0,.bool false,.slice none 0 0,.bool false,.slice none 0 0,.slice none 0 0,.slice none 0 0,.slice none 0 0,.slice none 0 0,.slice none 0 0,.slice none 0 0,.int .i64 0,.bool false,.map none,.map none,.map none,.map none],by kernel_rfl,rfl,(fun _ _=>⟨DR.raw _ rfl,DR.raw _ rfl,DR.raw _ rfl,DR.raw _ rfl,DR.raw _ rfl,DR.nil _ _ _ (fun _=>rfl) (Nat.zero_le _),DR.raw _ rfl,DR.raw _ rfl,DR.raw _ rfl,DR.raw _ rfl,DR.raw _ rfl,DR.raw _ rfl,DR.raw _ rfl,DR.raw _ rfl,DR.raw _ rfl,DR.raw _ rfl,DR.raw _ rfl,DR.raw _ rfl,DR.raw _ rfl,DR.raw _ rfl,trivial⟩)⟩ ⟨_,Tryz.underlying118,⟨⟨rfl,by kernel_rfl⟩,⟨rfl,by kernel_rfl⟩,⟨rfl,by kernel_rfl⟩,⟨rfl,by kernel_rfl⟩,⟨rfl,by kernel_rfl⟩,⟨rfl,by kernel_rfl⟩,⟨rfl,by kernel_rfl⟩,⟨rfl,by kernel_rfl⟩,⟨rfl,by kernel_rfl⟩,trivial⟩⟩,
 zbb.slc Tryz.underlying45 (by kernel_rfl) ⟨(.slice none 0 0:Value),[.slice none 0 0],by kernel_rfl,rfl,(fun _ _=>⟨DR.raw _ rfl,trivial⟩)⟩,
 zbb.st Tryz.underlying47 (by kernel_rfl) ⟨⟨by decide,Fd.mk' _ _ Tryz.underlying47 rfl rfl (Sz.mk' (by kernel_rfl) Tryz.underlying44 _ rfl)⟩,⟨by decide,Fd.mk' _ _ Tryz.underlying47 rfl rfl (Sz.mk' (by kernel_rfl) Tryz.underlying45 _ rfl)⟩,trivial⟩ ⟨(Value.agg #[.slice none 0 0,.slice none 0 0]),[.slice none 0 0,.slice none 0 0],by kernel_rfl,rfl,(fun _ _=>⟨DR.raw _ rfl,DR.raw _ rfl,trivial⟩)⟩ ⟨_,Tryz.underlying47,⟨⟨rfl,by kernel_rfl⟩,⟨rfl,by kernel_rfl⟩,trivial⟩⟩,
 zbb.st Tryz.underlying121 (by kernel_rfl) ⟨⟨by decide,Fd.mk' _ _ Tryz.underlying121 rfl rfl (Sz.mk' (by kernel_rfl) Tryz.underlying3 _ rfl)⟩,⟨by decide,Fd.mk' _ _ Tryz.underlying121 rfl rfl (Sz.mk' (by kernel_rfl) Tryz.underlying3 _ rfl)⟩,trivial⟩ ⟨(Value.agg #[.int .i64 0,.int .i64 0]),[.int .i64 0,.int .i64 0],by kernel_rfl,rfl,(fun _ _=>⟨DR.raw _ rfl,DR.raw _ rfl,trivial⟩)⟩ ⟨_,Tryz.underlying121,⟨⟨rfl,by kernel_rfl⟩,⟨rfl,by kernel_rfl⟩,trivial⟩⟩,
 zbb.st Tryz.underlying171 (by kernel_rfl) ⟨⟨by decide,Fd.mk' _ _ Tryz.underlying171 rfl rfl (Sz.mk' (by kernel_rfl) Tryz.underlying3 _ rfl)⟩,⟨by decide,Fd.mk' _ _ Tryz.underlying171 rfl rfl (Sz.mk' (by kernel_rfl) Tryz.underlying121 _ rfl)⟩,trivial⟩ ⟨(Value.agg #[.int .i64 0,.int .i64 0,.int .i64 0]),[.int .i64 0,.int .i64 0,.int .i64 0],by kernel_rfl,rfl,(fun _ _=>⟨DR.raw _ rfl,DR.raw _ rfl,DR.raw _ rfl,trivial⟩)⟩ ⟨_,Tryz.underlying171,⟨⟨rfl,by kernel_rfl⟩,⟨rfl,by kernel_rfl⟩,trivial⟩⟩,
 zbb.slc Tryz.underlying122 (by kernel_rfl) ⟨(.slice none 0 0:Value),[.slice none 0 0],by kernel_rfl,rfl,(fun _ _=>⟨DR.raw _ rfl,trivial⟩)⟩,
 zbb.slc Tryz.underlying174 (by kernel_rfl) ⟨(.slice none 0 0:Value),[.slice none 0 0],by kernel_rfl,rfl,(fun _ _=>⟨DR.raw _ rfl,trivial⟩)⟩,
 zbb.st Tryz.underlying176 (by kernel_rfl) ⟨⟨by decide,Fd.mk' _ _ Tryz.underlying176 rfl rfl (Sz.mk' (by kernel_rfl) Tryz.underlying121 _ rfl)⟩,⟨by decide,Fd.mk' _ _ Tryz.underlying176 rfl rfl (Sz.mk' (by kernel_rfl) Tryz.underlying174 _ rfl)⟩,⟨by decide,Fd.mk' _ _ Tryz.underlying176 rfl rfl (Sz.mk' (by kernel_rfl) Tryz.underlying3 _ rfl)⟩,trivial⟩ ⟨(Value.agg #[.int .i64 0,.int .i64 0,.slice none 0 0,.int .i64 0]),[.int .i64 0,.int .i64 0,.slice none 0 0,.int .i64 0],by kernel_rfl,rfl,(fun _ _=>⟨DR.raw _ rfl,DR.raw _ rfl,DR.raw _ rfl,DR.raw _ rfl,trivial⟩)⟩ ⟨_,Tryz.underlying176,⟨⟨rfl,by kernel_rfl⟩,⟨rfl,by kernel_rfl⟩,⟨rfl,by kernel_rfl⟩,trivial⟩⟩,
 zbb.st Tryz.underlying108 (by kernel_rfl) ⟨⟨by decide,Fd.mk' _ _ Tryz.underlying108 rfl rfl (Sz.mk' (by kernel_rfl) Tryz.underlying44 _ rfl)⟩,⟨by decide,Fd.mk' _ _ Tryz.underlying108 rfl rfl (Sz.mk' (by kernel_rfl) Tryz.underlying44 _ rfl)⟩,⟨by decide,Fd.mk' _ _ Tryz.underlying108 rfl rfl (Sz.mk' (by kernel_rfl) Tryz.underlying44 _ rfl)⟩,trivial⟩ ⟨(Value.agg #[.slice none 0 0,.slice none 0 0,.slice none 0 0]),[.slice none 0 0,.slice none 0 0,.slice none 0 0],by kernel_rfl,rfl,(fun _ _=>⟨DR.raw _ rfl,DR.raw _ rfl,DR.raw _ rfl,trivial⟩)⟩ ⟨_,Tryz.underlying108,⟨⟨rfl,by kernel_rfl⟩,⟨rfl,by kernel_rfl⟩,⟨rfl,by kernel_rfl⟩,trivial⟩⟩,
 zbb.slc Tryz.underlying52 (by kernel_rfl) ⟨(.slice none 0 0:Value),[.slice none 0 0],by kernel_rfl,rfl,(fun _ _=>⟨DR.raw _ rfl,trivial⟩)⟩,
 zbb.st Tryz.underlying56 (by kernel_rfl) ⟨⟨by decide,Fd.mk' _ _ Tryz.underlying56 rfl rfl (Sz.mk' (by kernel_rfl) Tryz.underlying3 _ rfl)⟩,⟨by decide,Fd.mk' _ _ Tryz.underlying56 rfl rfl (Sz.mk' (by kernel_rfl) Tryz.underlying47 _ rfl)⟩,trivial⟩ ⟨(Value.agg #[.int .i64 0,.slice none 0 0,.slice none 0 0]),[.int .i64 0,.slice none 0 0,.slice none 0 0],by kernel_rfl,rfl,(fun _ _=>⟨DR.raw _ rfl,DR.raw _ rfl,DR.raw _ rfl,trivial⟩)⟩ ⟨_,Tryz.underlying56,⟨⟨rfl,by kernel_rfl⟩,⟨rfl,by kernel_rfl⟩,trivial⟩⟩,
 zbb.slc Tryz.underlying42 (by kernel_rfl) ⟨(.slice none 0 0:Value),[.slice none 0 0],by kernel_rfl,rfl,(fun _ _=>⟨DR.raw _ rfl,trivial⟩)⟩,
 zbb.st Tryz.underlying67 (by kernel_rfl) ⟨⟨by decide,Fd.mk' _ _ Tryz.underlying67 rfl rfl (Sz.mk' (by kernel_rfl) Tryz.underlying42 _ rfl)⟩,⟨by decide,Fd.mk' _ _ Tryz.underlying67 rfl rfl (Sz.mk' (by kernel_rfl) Tryz.underlying42 _ rfl)⟩,⟨by decide,Fd.mk' _ _ Tryz.underlying67 rfl rfl (Sz.mk' (by kernel_rfl) Tryz.underlying44 _ rfl)⟩,trivial⟩ ⟨(Value.agg #[.slice none 0 0,.slice none 0 0,.slice none 0 0]),[.slice none 0 0,.slice none 0 0,.slice none 0 0],by kernel_rfl,rfl,(fun _ _=>⟨DR.raw _ rfl,DR.raw _ rfl,DR.raw _ rfl,trivial⟩)⟩ ⟨_,Tryz.underlying67,⟨⟨rfl,by kernel_rfl⟩,⟨rfl,by kernel_rfl⟩,⟨rfl,by kernel_rfl⟩,trivial⟩⟩,
 zbb.st Tryz.underlying69 (by kernel_rfl) ⟨⟨by decide,Fd.mk' _ _ Tryz.underlying69 rfl rfl (Sz.mk' (by kernel_rfl) Tryz.underlying3 _ rfl)⟩,⟨by decide,Fd.mk' _ _ Tryz.underlying69 rfl rfl (Sz.mk' (by kernel_rfl) Tryz.underlying67 _ rfl)⟩,⟨by decide,Fd.mk' _ _ Tryz.underlying69 rfl rfl (Sz.mk' (by kernel_rfl) Tryz.underlying3 _ rfl)⟩,trivial⟩ ⟨(Value.agg #[.int .i64 0,.slice none 0 0,.slice none 0 0,.slice none 0 0,.int .i64 0]),[.int .i64 0,.slice none 0 0,.slice none 0 0,.slice none 0 0,.int .i64 0],by kernel_rfl,rfl,(fun _ _=>⟨DR.raw _ rfl,DR.raw _ rfl,DR.raw _ rfl,DR.raw _ rfl,DR.raw _ rfl,trivial⟩)⟩ ⟨_,Tryz.underlying69,⟨⟨rfl,by kernel_rfl⟩,⟨rfl,by kernel_rfl⟩,⟨rfl,by kernel_rfl⟩,trivial⟩⟩,
 trivial⟩
theorem zf9:SlT Tryz.prog 122 176 4:=SlT.mk' Tryz.underlying122 (by kernel_rfl)
theorem qc1_6:Sz Tryz.prog 174 1 false:=Sz.mk' (by kernel_rfl) Tryz.underlying174 _ rfl
theorem qc1_7:Sz Tryz.prog 171 3 true:=Sz.mk' (by kernel_rfl) Tryz.underlying171 _ rfl
theorem qc1_8:SlT Tryz.prog 174 171 3:=SlT.mk' Tryz.underlying174 (by kernel_rfl)
def tkF (fu n:Int):Int:=if n<=fu then fu - n else 0
def tkO (fu:Int) (ot:Bool) (n:Int):Bool:=if n<=fu then ot else true
theorem tkF_yes {fu n:Int} (h:decide (n>fu)=false):tkF fu n=fu - n:=if_pos (by have:=of_decide_eq_false h;omega)
theorem tkF_no {fu n:Int} (h:decide (n>fu)=true):tkF fu n=0:=if_neg (by have:=of_decide_eq_true h;omega)
theorem tkO_yes {fu n:Int} {ot:Bool} (h:decide (n>fu)=false):tkO fu ot n=ot:=if_pos (by have:=of_decide_eq_false h;omega)
theorem tkO_no {fu n:Int} {ot:Bool} (h:decide (n>fu)=true):tkO fu ot n=true:=if_neg (by have:=of_decide_eq_true h;omega)
theorem addI_yes {ls:List Int} {n:Int} (h:decide (n ∈ ls)=true):zcc ls n=ls:=if_pos (of_decide_eq_true h)
theorem addI_no {ls:List Int} {n:Int} (h:decide (n ∈ ls)=false):zcc ls n=ls++[n]:=if_neg (of_decide_eq_false h)
theorem STake (s:zan) (ps:List zb4) (au:zcy) (fu:Int) (ot:Bool) (ls es:List Int) (fs sc:List PrD) (n:Int) (hf:0<=fu/\fu<=1073741824) (hn:0<=n/\n<=100000000000):Fn Tryz.prog 140 [(7,(bxS s ps au fu ot)),(1,.mp (mpL s ps ls)),(2,.mp (mpE s es)),(3,.mp (mpP fs)),(4,.mp (mpP sc))] [vp 7 0,vI n] (vb (decide (n<=fu))) [(7,(bxS s ps au (tkF fu n) (tkO fu ot n))),(1,.mp (mpL s ps ls)),(2,.mp (mpE s es)),(3,.mp (mpP fs)),(4,.mp (mpP sc))]:=by
 refine Fn.body Tryz.func140 rfl 25 rfl fun w H B a h=>Jq (htb:=za9) 8 [] [(0,vp 7 0),(1,vI n),(4,vb false)] [(7,(bxS s ps au fu ot)),(1,.mp (mpL s ps ls)),(2,.mp (mpE s es)),(3,.mp (mpP fs)),(4,.mp (mpP sc))] h fun a w h=>qW (Je (htb:=za9) 8 [(2,.g (Op.nilQ (d:=7) (t:=6) (n:=7) (o:=0)))] [] [(10,vb (decide (n>fu)))] h fun a w h=>zap (n>fu) h (fun hc1 hc1'=>?_) (fun hc2 hc2'=>?_))
 ·refine Jd (htb:=za9) 8 [(2,.g (Op.nilQ (d:=13) (t:=11) (n:=7) (o:=0))),(5,.g (Op.nilQ (d:=15) (t:=12) (n:=7) (o:=0)))] [10] [] [(7,(bxS s ps au 0 true)),(1,.mp (mpL s ps ls)),(2,.mp (mpE s es)),(3,.mp (mpP fs)),(4,.mp (mpP sc))] h fun a w h=>Je (htb:=za9) 8 [] [] [] h fun a w h=>qV (za2 ?_);replace h:=h.conv (f':=F.of [(0,vp 7 0),(1,vI n),(4,vb false)] [(7,(bxS s ps au (tkF fu n) (tkO fu ot n))),(1,.mp (mpL s ps ls)),(2,.mp (mpE s es)),(3,.mp (mpP fs)),(4,.mp (mpP sc))]) (by rw [tkF_no hc1,tkO_no hc1];kernel_rfl);refine rT (.c (cB false)) h rfl ?_;exact congrArg vb (by first | exact (decide_eq_false (by have:=dT hc1;omega)).symm | exact (decide_eq_true (by have:=dF hc1;omega)).symm)
 refine qU (za0 (Jq (htb:=za9) 8 [(1,.g (Op.nilQ (d:=18) (t:=17) (n:=7) (o:=0))),(5,.sub .i64 (m:=fu) (n:=n) i6),(6,.g (Op.nilQ (d:=23) (t:=17) (n:=7) (o:=0)))] [(4,vb false)] [(7,(bxS s ps au (fu - n) ot)),(1,.mp (mpL s ps ls)),(2,.mp (mpE s es)),(3,.mp (mpP fs)),(4,.mp (mpP sc))] h fun a w h=>Jp (htb:=za9) 8 [] [(4,vb true)] h fun a w h=>qV ?_));replace h:=h.conv (f':=F.of [(4,vb true)] [(7,(bxS s ps au (tkF fu n) (tkO fu ot n))),(1,.mp (mpL s ps ls)),(2,.mp (mpE s es)),(3,.mp (mpP fs)),(4,.mp (mpP sc))]) (by rw [tkF_yes hc2,tkO_yes hc2]);refine rT (.c (cB true)) h rfl ?_;exact congrArg vb (by first | exact (decide_eq_false (by have:=dT hc2;omega)).symm | exact (decide_eq_true (by have:=dF hc2;omega)).symm)
theorem SLetterX (s:zan) (ps:List zb4) (au:zcy) (fu:Int) (ot:Bool) (ls es:List Int) (fs sc:List PrD) (n:Int) {L:Nat} (hs:zb1 L s) (hL:L<=1000) (hp:zc2 s) (hps:∀ p ∈ ps,zec L p) (hpl:ps.length<=1000) (hls:zha ls) (hn:InI n):Fn Tryz.prog 96 [(7,(bxS s ps au fu ot)),(1,.mp (mpL s ps ls)),(2,.mp (mpE s es)),(3,.mp (mpP fs)),(4,.mp (mpP sc))] [vp 7 0,vI n] (vS 1 ((zax s ps n).map zaq)) [(7,(bxS s ps au fu ot)),(1,.mp (mpL s ps (zcc ls n))),(2,.mp (mpE s es)),(3,.mp (mpP fs)),(4,.mp (mpP sc))]:=by
 refine Fn.body Tryz.func96 rfl 42 rfl fun w H B a h=>Jq (htb:=za9) 8 [] [(0,vp 7 0),(1,vI n),(4,vW za4)] [(7,(bxS s ps au fu ot)),(1,.mp (mpL s ps ls)),(2,.mp (mpE s es)),(3,.mp (mpP fs)),(4,.mp (mpP sc))] h fun a w h=>?_
 rcases Bool.eq_false_or_eq_true (decide (n ∈ ls)) with hc1 | hc2
 ·have hc1':=dT hc1;refine Je (htb:=za9) 8 [(1,.g (Op.nilQ (d:=11) (t:=10) (n:=7) (o:=0))),(5,.g (Op.lkLT (s:=s) (ps:=ps) (d:=15) (t:=13) (m:=1) (x:=14) (ls:=ls) hls hn (dT hc1)))] [] [(5,vS 1 ((zax s ps n).map zaq)),(6,vb true)] h fun a w h=>qW (Je (htb:=za9) 8 [] [6] [(19,vb false)] h fun a w h=>zbn false h rfl nofun (fun _=>qU (za0 (Jp (htb:=za9) 8 [] [(4,vS 1 ((zax s ps n).map zaq))] h fun a w h=>qV ?_))));replace h:=h.conv (f':=F.of [(4,vS 1 ((zax s ps n).map zaq))] [(7,(bxS s ps au fu ot)),(1,.mp (mpL s ps (zcc ls n))),(2,.mp (mpE s es)),(3,.mp (mpP fs)),(4,.mp (mpP sc))]) (by rw [addI_yes hc1]);refine rT (.c (.d (.sl 1 ((zax s ps n).map zaq)))) h rfl ?_;rfl
 have hc2':=dF hc2;refine Je (htb:=za9) 8 [(1,.g (Op.nilQ (d:=11) (t:=10) (n:=7) (o:=0))),(5,.g (Op.lkLF (s:=s) (ps:=ps) (d:=15) (t:=13) (m:=1) (x:=14) (ls:=ls) hls hn (dF hc2)))] [] [(5,vS 1 ([].map zaq)),(6,vb false)] h fun a w h=>qW (Je (htb:=za9) 8 [] [6] [(19,vb true)] h fun a w h=>cS true h (fun _=>?_) nofun);refine Jd (htb:=za9) 8 [(1,.g (Op.nilQ (d:=22) (t:=21) (n:=7) (o:=0))),(5,.call (OState s n hs hL hp) of1_8)] [19] [(7,vp 8 0)] [(7,(bxS s ps au fu ot)),(1,.mp (mpL s ps ls)),(2,.mp (mpE s es)),(3,.mp (mpP fs)),(4,.mp (mpP sc)),(8,.box [cIs (zcz s n).1.locs,cZs (zcz s n).1.vals])] h fun a w h=>Jd (htb:=za9) 9 [(1,.g (Op.nilQ (d:=30) (t:=29) (n:=7) (o:=0))),(5,.call (SLetter ps (zcz s n).1 (L:=L) (M:=L+3) (by omega) hps hpl (st19_ok hs hp n)) kn_14)] [7] [(5,vS 1 ((zax s ps n).map zaq))] [(7,(bxS s ps au fu ot)),(1,.mp (mpL s ps ls)),(2,.mp (mpE s es)),(3,.mp (mpP fs)),(4,.mp (mpP sc))] h fun a w h=>Jm (htb:=za9) 9 [(1,.g (Op.nilQ (d:=36) (t:=35) (n:=7) (o:=0))),(6,.g (Op.upL (s:=s) (ps:=ps) (t:=38) (m:=1) (x:=39) (y:=40) (n:=n) (ls:=ls) hls hn (dF hc2)))] [0,1] [] [(7,(bxS s ps au fu ot)),(1,.mp (mpL s ps (ls++[n]))),(2,.mp (mpE s es)),(3,.mp (mpP fs)),(4,.mp (mpP sc))] h fun a w h=>za0 (Jp (htb:=za9) 9 [] [(4,vS 1 ((zax s ps n).map zaq))] h fun a w h=>qV ?_);replace h:=h.conv (f':=F.of [(4,vS 1 ((zax s ps n).map zaq))] [(7,(bxS s ps au fu ot)),(1,.mp (mpL s ps (zcc ls n))),(2,.mp (mpE s es)),(3,.mp (mpP fs)),(4,.mp (mpP sc))]) (by rw [addI_no hc2]);refine rT (.c (.d (.sl 1 ((zax s ps n).map zaq)))) h rfl ?_;rfl
theorem SSteps (s:zan) (ps:List zb4) (au:zcy) (fu:Int) (ot:Bool) (ls es:List Int) (fs sc:List PrD) (n:Int) {L:Nat} (hs:zb1 L s) (hL:L<=1000) (hp:zc2 s) (hes:zha es) (hn:InI n):Fn Tryz.prog 149 [(7,(bxS s ps au fu ot)),(1,.mp (mpL s ps ls)),(2,.mp (mpE s es)),(3,.mp (mpP fs)),(4,.mp (mpP sc))] [vp 7 0,vI n] (vS 3 ((zbm s n).map zar.d)) [(7,(bxS s ps au fu ot)),(1,.mp (mpL s ps ls)),(2,.mp (mpE s (zcc es n))),(3,.mp (mpP fs)),(4,.mp (mpP sc))]:=by
 refine Fn.body Tryz.func149 rfl 42 rfl fun w H B a h=>Jq (htb:=za9) 8 [] [(0,vp 7 0),(1,vI n),(4,vW za4)] [(7,(bxS s ps au fu ot)),(1,.mp (mpL s ps ls)),(2,.mp (mpE s es)),(3,.mp (mpP fs)),(4,.mp (mpP sc))] h fun a w h=>?_
 rcases Bool.eq_false_or_eq_true (decide (n ∈ es)) with hc1 | hc2
 ·have hc1':=dT hc1;refine Je (htb:=za9) 8 [(1,.g (Op.nilQ (d:=11) (t:=10) (n:=7) (o:=0))),(5,.g (Op.lkET (s:=s) (d:=15) (t:=13) (m:=2) (x:=14) (ls:=es) hes hn (dT hc1)))] [] [(5,vS 3 ((zbm s n).map zar.d)),(6,vb true)] h fun a w h=>qW (Je (htb:=za9) 8 [] [6] [(19,vb false)] h fun a w h=>zbn false h rfl nofun (fun _=>qU (za0 (Jp (htb:=za9) 8 [] [(4,vS 3 ((zbm s n).map zar.d))] h fun a w h=>qV ?_))));replace h:=h.conv (f':=F.of [(4,vS 3 ((zbm s n).map zar.d))] [(7,(bxS s ps au fu ot)),(1,.mp (mpL s ps ls)),(2,.mp (mpE s (zcc es n))),(3,.mp (mpP fs)),(4,.mp (mpP sc))]) (by rw [addI_yes hc1]);refine rT (.c (.d (.sl 3 ((zbm s n).map zar.d)))) h rfl ?_;rfl
 have hc2':=dF hc2;refine Je (htb:=za9) 8 [(1,.g (Op.nilQ (d:=11) (t:=10) (n:=7) (o:=0))),(5,.g (Op.lkEF (s:=s) (d:=15) (t:=13) (m:=2) (x:=14) (ls:=es) hes hn (dF hc2)))] [] [(5,vS 3 ([].map zar.d)),(6,vb false)] h fun a w h=>qW (Je (htb:=za9) 8 [] [6] [(19,vb true)] h fun a w h=>cS true h (fun _=>?_) nofun);refine Jd (htb:=za9) 8 [(1,.g (Op.nilQ (d:=22) (t:=21) (n:=7) (o:=0))),(5,.call (OState s n hs hL hp) of1_8)] [19] [(7,vp 8 0)] [(7,(bxS s ps au fu ot)),(1,.mp (mpL s ps ls)),(2,.mp (mpE s es)),(3,.mp (mpP fs)),(4,.mp (mpP sc)),(8,.box [cIs (zcz s n).1.locs,cZs (zcz s n).1.vals])] h fun a w h=>Jd (htb:=za9) 9 [(1,.g (Op.nilQ (d:=30) (t:=29) (n:=7) (o:=0))),(5,.call (OEdges s (zcz s n).1 (L:=L) (M:=L+3) hs hL hp (by omega) (Nat.le_refl _) (st19_ok hs hp n)) ol1_14)] [7] [(5,vS 3 ((zbm s n).map zar.d))] [(7,(bxS s ps au fu ot)),(1,.mp (mpL s ps ls)),(2,.mp (mpE s es)),(3,.mp (mpP fs)),(4,.mp (mpP sc))] h fun a w h=>Jm (htb:=za9) 9 [(1,.g (Op.nilQ (d:=36) (t:=35) (n:=7) (o:=0))),(6,.g (Op.upE (s:=s) (t:=38) (m:=2) (x:=39) (y:=40) (n:=n) (ls:=es) hes hn (dF hc2)))] [0,1] [] [(7,(bxS s ps au fu ot)),(1,.mp (mpL s ps ls)),(2,.mp (mpE s (es++[n]))),(3,.mp (mpP fs)),(4,.mp (mpP sc))] h fun a w h=>za0 (Jp (htb:=za9) 9 [] [(4,vS 3 ((zbm s n).map zar.d))] h fun a w h=>qV ?_);replace h:=h.conv (f':=F.of [(4,vS 3 ((zbm s n).map zar.d))] [(7,(bxS s ps au fu ot)),(1,.mp (mpL s ps ls)),(2,.mp (mpE s (zcc es n))),(3,.mp (mpP fs)),(4,.mp (mpP sc))]) (by rw [addI_no hc2]);refine rT (.c (.d (.sl 3 ((zbm s n).map zar.d)))) h rfl ?_;rfl
theorem SGood (s:zan) (ps:List zb4) (au:zcy) (fu:Int) (ot:Bool) (ls es:List Int) (fs sc:List PrD) (p:PrD) (hp0:0<=p.nd):Fn Tryz.prog 99 [(7,(bxS s ps au fu ot)),(1,.mp (mpL s ps ls)),(2,.mp (mpE s es)),(3,.mp (mpP fs)),(4,.mp (mpP sc))] [vp 7 0,vG [cI p.st,cI p.nd]] (vb (zgg au p)) [(7,(bxS s ps au fu ot)),(1,.mp (mpL s ps ls)),(2,.mp (mpE s es)),(3,.mp (mpP fs)),(4,.mp (mpP sc))]:=by
 refine Fn.body Tryz.func99 rfl 25 rfl fun w H B a h=>Jq (htb:=za9) 8 [] [(0,vp 7 0),(3,vp 8 0),(4,vb false)] [(7,(bxS s ps au fu ot)),(1,.mp (mpL s ps ls)),(2,.mp (mpE s es)),(3,.mp (mpP fs)),(4,.mp (mpP sc)),(8,.box [cI p.st,cI p.nd])] h fun a w h=>?_
 obtain ⟨k,hkk⟩:∃ k_:Nat,p.nd=(k_:Int):=⟨_,(Int.toNat_of_nonneg (by omega)).symm⟩;replace h:=h.conv (f':=F.of [(0,vp 7 0),(3,vp 8 0),(4,vb false)] [(7,(bxS s ps au fu ot)),(1,.mp (mpL s ps ls)),(2,.mp (mpE s es)),(3,.mp (mpP fs)),(4,.mp (mpP sc)),(8,.box [cI p.st,cI (k:Int)])]) (by rw [hkk])
 rcases Bool.eq_false_or_eq_true (decide ((k:Int)<(au.good.length:Int))) with hc1 | hc2
 ·have hc1':=dT hc1;obtain ⟨x1,hx1⟩:=gl au.good k;refine Jq (htb:=za9) 9 [(3,.g (Op.nilQ (d:=8) (t:=7) (n:=7) (o:=0))),(7,.len (za3 1 zaq au.good)),(8,.cmp (op:=.lss) (m:=(k:Int)) (n:=(au.good.length:Int)) (b:=true) .i64 hc1),(11,.g (Op.nilQ (d:=16) (t:=15) (n:=7) (o:=0))),(17,.g (xD 22 19 ks_15 (zab hx1 (f:=zaq)) (OV.tmp 21 _)))] [(4,vb x1)] [(7,(bxS s ps au fu ot)),(1,.mp (mpL s ps ls)),(2,.mp (mpE s es)),(3,.mp (mpP fs)),(4,.mp (mpP sc))] h fun a w h=>qV (rT (.c (cB x1)) h rfl ?_);have hz:zgg au p=x1:=by unfold zgg;rw [decide_eq_true (p:=p.nd<(au.good.length:Int)) (by have:=dT hc1;omega),Bool.true_and,show p.nd.toNat=k by omega,hx1];rfl
  rw [hz];try rfl
 have hc2':=dF hc2;refine Jq (htb:=za9) 9 [(3,.g (Op.nilQ (d:=8) (t:=7) (n:=7) (o:=0))),(7,.len (za3 1 zaq au.good)),(8,.cmp (op:=.lss) (m:=(k:Int)) (n:=(au.good.length:Int)) (b:=false) .i64 hc2)] [(4,vb false)] [(7,(bxS s ps au fu ot)),(1,.mp (mpL s ps ls)),(2,.mp (mpE s es)),(3,.mp (mpP fs)),(4,.mp (mpP sc))] h fun a w h=>qV (rT (.c (cB false)) h rfl ?_);have hz:zgg au p=false:=by unfold zgg;rw [decide_eq_false (by have:=dF hc2;omega)];rfl
 rw [hz];try rfl
theorem SNext (way:List WkD) (hw0:0<way.length) (hwm:way.length<=1000000000000) (hwd:∀ w ∈ way,w.done<=w.moves.length) (hwl:∀ w ∈ way,w.moves.length<=1000000000000):Fn Tryz.prog 98 [(9,.row 176 4 (way.map WkD.d))] [vO 9 way.length] (.tup [.agg [cI (if zay way=true then za1 way else mvz).act,cI (if zay way=true then za1 way else mvz).to_.st,cI (if zay way=true then za1 way else mvz).to_.nd],.c (cB (zay way))]) [(9,.row 176 4 ((if zay way=true then zae way else way).map WkD.d))]:=by
 refine Fn.body Tryz.func98 rfl 39 rfl fun w H B a h=>?_
 refine Jq (htb:=za9) 10 [] [(0,vO 9 way.length),(2,vp 10 0),(3,vb false)] [(9,.row 176 4 (way.map WkD.d)),(10,.box [cI 0,cI 0,cI 0])] h fun a w h=>?_;refine Jp (htb:=za9) 11 [(3,.g (Op.arith (op:=.sub) (d:=8) (xt:=3) (yt:=3) (k:=.i64) (m:=(way.length:Int)) (n:=1) (r:=((way.length - 1:Nat):Int)) (OV.tmp 7 _) (OV.const (.int .i64 1) rfl) (.inr (.inl ⟨rfl,by omega⟩)) i6)),(4,.g (xO 9 5 9 way.length (way.length - 1) zf9 (OV.tmp 8 _)))] [(2,vp 10 0),(3,vb false),(4,.t (.c (.ptr 9 ((way.length - 1)*4))))] h fun a w h=>?_;refine qW ?_;obtain ⟨x1,hx1⟩:=gl way (way.length - 1);have hmx1:=lM hx1;have hdx1:=hwd x1 hmx1;have hlx1:=hwl x1 hmx1;have elx1:zbi way=x1:=by unfold zbi;rw [hx1];rfl
 refine Jp (htb:=za9) 11 [(1,.g (Op.nilQ (d:=11) (t:=10) (n:=9) (o:=(way.length - 1)*4))),(3,.g (Op.loadR_c (d:=13) (t:=12) (n:=9) (i:=(way.length - 1)) (fo:=3) (rty:=176) (es:=4) (x:=(.raw (.int .i64 ((x1.done:Nat):Int)))) tl_7 rfl (zab hx1 (f:=WkD.d)) rfl)),(5,.g (Op.nilQ (d:=15) (t:=14) (n:=9) (o:=(way.length - 1)*4))),(7,.g (Op.loadR_c (d:=17) (t:=16) (n:=9) (i:=(way.length - 1)) (fo:=2) (rty:=176) (es:=4) (x:=(.sl 3 (x1.moves.map MvD.d))) qc1_6 rfl (zab hx1 (f:=WkD.d)) rfl)),(8,.len (za3 3 MvD.d x1.moves))] [(2,vp 10 0),(3,vb false),(4,.t (.c (.ptr 9 ((way.length - 1)*4)))),(19,vb (((x1.done:Nat):Int) == (x1.moves.length:Int)))] h fun a w h=>?_;refine cS (((x1.done:Nat):Int) == (x1.moves.length:Int)) h (fun hc1=>?_) (fun hc2=>?_)
 ·have hc1':=hc1;(try simp at hc1');have h8:x1.done=x1.moves.length:=by have:=hc1;simp at this;omega
  have emw:zay way=false:=by unfold zay;rw [elx1];exact decide_eq_false (fun h9=>h9 h8)
  refine Jp (htb:=za9) 11 [] [(2,vp 10 0),(3,vb false),(4,.t (.c (.ptr 9 ((way.length - 1)*4))))] h fun a w h=>?_;refine qV (za2 ?_);replace h:=h.conv (f':=F.of [(2,vp 10 0),(3,vb false),(4,.t (.c (.ptr 9 ((way.length - 1)*4))))] [(9,.row 176 4 ((if zay way=true then zae way else way).map WkD.d)),(10,.box [cI 0,cI 0,cI 0])]) (by rw [if_neg (by rw [emw];exact Bool.noConfusion)]);refine zdb [.agg [cI 0,cI 0,cI 0],.c (cB false)] h Exit.ret (.inl rfl)  rfl ⟨RV.agg _ 10 0 _ _ _ _ qc1_7 rfl rfl rfl rfl,RV.tmp _ _ rfl,trivial⟩ ?_;rw [emw];rfl
 have hc2':=hc2;(try simp at hc2');have h8:x1.done≠x1.moves.length:=by have:=hc2;simp at this;omega
 have emw:zay way=true:=by unfold zay;rw [elx1];exact decide_eq_true h8
 have hltx1:x1.done<x1.moves.length:=by omega
 refine qU (za0 (Jq (htb:=za9) 11 [(1,.g (Op.nilQ (d:=22) (t:=21) (n:=9) (o:=(way.length - 1)*4))),(3,.g (Op.loadR_c (d:=24) (t:=23) (n:=9) (i:=(way.length - 1)) (fo:=3) (rty:=176) (es:=4) (x:=(.raw (.int .i64 ((x1.done:Nat):Int)))) tl_7 rfl (zab hx1 (f:=WkD.d)) rfl)),(4,.add .i64 (m:=((x1.done:Nat):Int)) (n:=1) i6),(5,.g (Op.nilQ (d:=26) (t:=21) (n:=9) (o:=(way.length - 1)*4))),(7,.g (Op.storeR (t:=27) (n:=9) (i:=(way.length - 1)) (fo:=3) (rty:=176) (es:=4) (r:=WkD.d x1) (ds:=[.raw (.int .i64 (((x1.done:Nat):Int)+1))]) (rs:=[(25,vI (((x1.done:Nat):Int)+1))]) (rows:=way.map WkD.d) (rows':=(way.set (way.length - 1) (WkD.mk x1.at_ x1.moves (x1.done+1))).map WkD.d) tl_7 (OV.tmp 25 _) rfl rfl rfl (zab hx1 (f:=WkD.d)) (by simp [WkD.d]) (zef (xs:=way) (F:=WkD.d) (way.length - 1) _ _ rfl)))] [(2,vp 10 0),(3,vb false),(4,.t (.c (.ptr 9 ((way.length - 1)*4))))] [(9,.row 176 4 ((way.set (way.length - 1) (WkD.mk x1.at_ x1.moves (x1.done+1))).map WkD.d)),(10,.box [cI 0,cI 0,cI 0])] h fun a w h=>?_));obtain ⟨x2,hx2⟩:=gl ((WkD.mk x1.at_ x1.moves (x1.done+1)).moves) x1.done;refine Jq (htb:=za9) 11 [(1,.g (Op.nilQ (d:=29) (t:=28) (n:=9) (o:=(way.length - 1)*4))),(3,.g (Op.loadR_c (d:=31) (t:=30) (n:=9) (i:=(way.length - 1)) (fo:=2) (rty:=176) (es:=4) (x:=(.sl 3 ((WkD.mk x1.at_ x1.moves (x1.done+1)).moves.map MvD.d))) qc1_6 rfl (zab (List.getElem?_set_self (List.getElem?_eq_some_iff.1 hx1).1) (f:=WkD.d)) rfl)),(5,.g (Op.nilQ (d:=33) (t:=32) (n:=9) (o:=(way.length - 1)*4))),(7,.g (Op.loadR_c (d:=35) (t:=34) (n:=9) (i:=(way.length - 1)) (fo:=3) (rty:=176) (es:=4) (x:=(.raw (.int .i64 (((WkD.mk x1.at_ x1.moves (x1.done+1)).done:Nat):Int)))) tl_7 rfl (zab (List.getElem?_set_self (List.getElem?_eq_some_iff.1 hx1).1) (f:=WkD.d)) rfl)),(8,.g (Op.arith (op:=.sub) (d:=36) (xt:=3) (yt:=3) (k:=.i64) (m:=(((WkD.mk x1.at_ x1.moves (x1.done+1)).done:Nat):Int)) (n:=1) (r:=((x1.done:Nat):Int)) (OV.tmp 35 _) (OV.const (.int .i64 1) rfl) (.inr (.inl ⟨rfl,by first | (show _=((x1.done+1:Nat):Int) - 1;omega) | (show ((x1.done+1:Nat):Int) - 1=_;omega)⟩)) i6)),(9,.g (xD 37 31 qc1_8 (zab hx2 (f:=MvD.d)) (OV.tmp 36 _)))] [(2,vp 10 0),(3,vb true)] [(9,.row 176 4 ((way.set (way.length - 1) (WkD.mk x1.at_ x1.moves (x1.done+1))).map WkD.d)),(10,.box [cI x2.act,cI x2.to_.st,cI x2.to_.nd])] h fun a w h=>?_;refine qV ?_;replace h:=h.conv (f':=F.of [(2,vp 10 0),(3,vb true)] [(9,.row 176 4 ((if zay way=true then zae way else way).map WkD.d)),(10,.box [cI x2.act,cI x2.to_.st,cI x2.to_.nd])]) (by rw [if_pos emw];unfold zae;rw [elx1]);refine zdb [.agg [cI x2.act,cI x2.to_.st,cI x2.to_.nd],.c (cB true)] h Exit.ret (.inl rfl)  rfl ⟨RV.agg _ 10 0 _ _ _ _ qc1_7 rfl rfl rfl rfl,RV.tmp _ _ rfl,trivial⟩ ?_;rw [if_pos emw,show za1 way=x2 by unfold za1;rw [elx1,hx2];rfl,emw];rfl
def fam4tb:Tb:=[(59,⟨1,false,[],[.d (.raw za4)],1⟩),(4,⟨1,false,[],[.d (.raw (.bool false))],3⟩),(84,⟨1,false,[],[.d (.raw .nilFunc)],4⟩),(44,⟨1,false,[],[.d (.raw za4)],1⟩),(3,⟨1,false,[],[.d (.raw (.int .i64 0))],13⟩),(108,⟨3,true,[(0,1,false),(1,1,false),(2,1,false)],[.d (.raw za4),.d (.raw za4),.d (.raw za4)],0⟩)]
theorem zc0:zi6 Tryz.prog fam4tb:=⟨zbb.slc Tryz.underlying59 (by kernel_rfl) ⟨(.slice none 0 0:Value),[.slice none 0 0],by kernel_rfl,rfl,(fun _ _=>⟨DR.raw _ rfl,trivial⟩)⟩,
 zbb.bl Tryz.underlying4 (by kernel_rfl) ⟨(.bool false:Value),[.bool false],by kernel_rfl,rfl,(fun _ _=>⟨DR.raw _ rfl,trivial⟩)⟩,
 zbb.fnc Tryz.underlying84 rfl (by kernel_rfl) ⟨(.nilFunc:Value),[.nilFunc],by kernel_rfl,rfl,(fun _ _=>⟨DR.raw _ rfl,trivial⟩)⟩,
 zbb.slc Tryz.underlying44 (by kernel_rfl) ⟨(.slice none 0 0:Value),[.slice none 0 0],by kernel_rfl,rfl,(fun _ _=>⟨DR.raw _ rfl,trivial⟩)⟩,
 zbb.int Tryz.underlying3 rfl (by kernel_rfl) ⟨(.int .i64 0:Value),[.int .i64 0],by kernel_rfl,rfl,(fun _ _=>⟨DR.raw _ rfl,trivial⟩)⟩,
 zbb.st Tryz.underlying108 (by kernel_rfl) ⟨⟨by decide,Fd.mk' _ _ Tryz.underlying108 rfl rfl (Sz.mk' (by kernel_rfl) Tryz.underlying44 _ rfl)⟩,⟨by decide,Fd.mk' _ _ Tryz.underlying108 rfl rfl (Sz.mk' (by kernel_rfl) Tryz.underlying44 _ rfl)⟩,⟨by decide,Fd.mk' _ _ Tryz.underlying108 rfl rfl (Sz.mk' (by kernel_rfl) Tryz.underlying44 _ rfl)⟩,trivial⟩ ⟨(Value.agg #[.slice none 0 0,.slice none 0 0,.slice none 0 0]),[.slice none 0 0,.slice none 0 0,.slice none 0 0],by kernel_rfl,rfl,(fun _ _=>⟨DR.raw _ rfl,DR.raw _ rfl,DR.raw _ rfl,trivial⟩)⟩ ⟨_,Tryz.underlying108,⟨⟨rfl,by kernel_rfl⟩,⟨rfl,by kernel_rfl⟩,⟨rfl,by kernel_rfl⟩,trivial⟩⟩,
 trivial⟩
theorem qd1_1:za6 Tryz.prog 136:=za6.mk' (by kernel_rfl)
theorem qd1_4:za6 Tryz.prog 137:=za6.mk' (by kernel_rfl)
theorem SAl1p (k:Nat) (l:List Bool) (_hl:l.length<=9223372036854775807):Fn Tryz.prog 136 [(1,.box [.d (.sl 1 (l.map zaq))])] [vN k,vp 1 0] (vb (hdB l (k:Int))) [(1,.box [.d (.sl 1 (l.map zaq))])]:=by
 refine Fn.body Tryz.func136 rfl 18 rfl fun w H B a h=>Jq (htb:=zc0) 5 [] [(0,vN k),(1,vp 1 0),(3,vb false)] [(1,.box [.d (.sl 1 (l.map zaq))])] h fun a w h=>?_
 rcases Bool.eq_false_or_eq_true (decide ((k:Int)<(l.length:Int))) with hc1 | hc2
 ·have hc1':=dT hc1;obtain ⟨x1,hx1⟩:=gl l k;refine Jp (htb:=zc0) 5 [(1,.cmp (op:=.geq) (m:=(k:Int)) (n:=0) (b:=true) .i64 (show decide ((k:Int)>=0)=true from decide_eq_true (by omega))),(5,.len (za3 1 zaq l)),(6,.cmp (op:=.lss) (m:=(k:Int)) (n:=(l.length:Int)) (b:=true) .i64 hc1),(11,.g (xD 15 13 ks_15 (zab hx1 (f:=zaq)) (OV.tmp 14 _)))] [(3,vb x1)] h fun a w h=>qV (rT (.c (cB x1)) h rfl ?_);have hz:hdB l (k:Int)=x1:=by unfold hdB;rw [decide_eq_true (p:=(0:Int)<=(k:Int)) (by omega),Bool.true_and];rw [hc1,Bool.true_and,show ((k:Int)).toNat=k by omega,hx1];rfl
  rw [hz];try rfl
 have hc2':=dF hc2;refine Jp (htb:=zc0) 5 [(1,.cmp (op:=.geq) (m:=(k:Int)) (n:=0) (b:=true) .i64 (show decide ((k:Int)>=0)=true from decide_eq_true (by omega))),(5,.len (za3 1 zaq l)),(6,.cmp (op:=.lss) (m:=(k:Int)) (n:=(l.length:Int)) (b:=false) .i64 hc2)] [(3,vb false)] h fun a w h=>qV (rT (.c (cB false)) h rfl ?_);have hz:hdB l (k:Int)=false:=by unfold hdB;rw [decide_eq_true (p:=(0:Int)<=(k:Int)) (by omega),Bool.true_and];rw [hc2];rfl
 rw [hz];try rfl
theorem SAl1n (p:Int) (l:List Bool) (hp:p<0):Fn Tryz.prog 136 [(1,.box [.d (.sl 1 (l.map zaq))])] [vI p,vp 1 0] (vb (hdB l p)) [(1,.box [.d (.sl 1 (l.map zaq))])]:=by
 refine Fn.body Tryz.func136 rfl 18 rfl fun w H B a h=>Jq (htb:=zc0) 5 [] [(0,vI p),(1,vp 1 0),(3,vb false)] [(1,.box [.d (.sl 1 (l.map zaq))])] h fun a w h=>Jp (htb:=zc0) 5 [(1,.cmp (op:=.geq) (m:=p) (n:=0) (b:=false) .i64 (show decide (p>=0)=false from decide_eq_false (by omega)))] [(3,vb false)] h fun a w h=>qV (rT (.c (cB false)) h rfl ?_)
 unfold hdB;rw [decide_eq_false (p:=0<=p) (by omega)];rfl
theorem SAl1 (l:List Bool) (p:Int) (hl:l.length<=9223372036854775807):Fn Tryz.prog 136 [(1,.box [.d (.sl 1 (l.map zaq))])] [vi .i64 p,vp 1 0] (vb (hdB l p)) [(1,.box [.d (.sl 1 (l.map zaq))])]:=by
 by_cases hp:p<0
 ·exact SAl1n p l hp
 ·obtain ⟨k,rfl⟩:=Int.eq_ofNat_of_zero_le (show 0<=p by omega)
  exact SAl1p k l hl
theorem SAl2 (l:List Bool) (p:Int) (hl:l.length<=9223372036854775807):Fn Tryz.prog 137 [(2,.box [.fn (.func 136) [] [.ptr 1 0]]),(1,.box [.d (.sl 1 (l.map zaq))])] [vI p,vp 2 0] (vb (!hdB l p)) [(2,.box [.fn (.func 136) [] [.ptr 1 0]]),(1,.box [.d (.sl 1 (l.map zaq))])]:=by
 refine Fn.body Tryz.func137 rfl 8 rfl fun w H B a h=>Jq (htb:=zc0) 5 [] [(0,vI p),(1,vp 2 0),(3,vb false)] [(2,.box [.fn (.func 136) [] [.ptr 1 0]]),(1,.box [.d (.sl 1 (l.map zaq))])] h fun a w h=>Jp (htb:=zc0) 5 [(2,.g (Op.callV (d:=6) (t:=4) (cap:=[.ptr 1 0]) (args:=[vI p]) (rs:=[(5,vI p)]) (tys:=#[3]) (SAl1 l p hl) qd1_1 (OVs.cons (OV.tmp 5 _) (OVs.nil))))] [(3,vb (!(hdB l p)))] h fun a w h=>qV (rT (.c (cB (!(hdB l p)))) h rfl ?_)
 rfl
theorem SIdxA1 (pr:Int->Bool) (xs:List Int) (l:List Bool) (hf:∀ x ∈ xs,Fn Tryz.prog 136 [(1,.box [.d (.sl 1 (l.map zaq))])] [vI x,vp 1 0] (vb (pr x)) [(1,.box [.d (.sl 1 (l.map zaq))])]) (hl:xs.length<=9223372036854775807):Fn Tryz.prog 67 [(1,.box [.d (.sl 1 (l.map zaq))])] [(vIs xs),.t (.c (.fn (.func 136) [] [.ptr 1 0]))] (vI (zcf pr xs 0)) [(1,.box [.d (.sl 1 (l.map zaq))])]:=by
 refine Fn.body Tryz.func67 rfl 19 rfl fun w H B a h=>Jq (htb:=zc0) 5 [] [(0,(vIs xs)),(1,.t (.c (.fn (.func 136) [] [.ptr 1 0]))),(4,vI 0)] [(1,.box [.d (.sl 1 (l.map zaq))])] h fun a w h=>qW (Je (htb:=zc0) 5 [(1,.len (za3 1 zad xs))] [] [(7,vN xs.length),(8,vI 0)] h fun a w h=>qZ ?_)
 refine zb5 (ι:=(Nat)) (fun j=>j<=xs.length/\zcf pr xs 0=zcf pr (xs.drop j) j)
   (fun j=>[(0,(vIs xs)),(1,.t (.c (.fn (.func 136) [] [.ptr 1 0]))),(7,vN xs.length),(8,vN j)])
   (fun j=>[(1,.box [.d (.sl 1 (l.map zaq))])])
   (fun j=>xs.length - j) 0 ?_ h (by kernel_rfl) (by kernel_rfl) ?_
 ·exact ⟨Nat.zero_le _,rfl⟩
 clear h;rintro j a w hI h;obtain ⟨hI1,hI2⟩:=hI;refine Je (htb:=zc0) 5 [] [] [(9,vb (decide ((j:Int)<(xs.length:Int))))] h fun a w h=>qW (zap ((j:Int)<(xs.length:Int)) h (fun hc1 hc1'=>?_) (fun hc4 hc4'=>?_))
 ·refine qU (za0 (qW (qZ (Je (htb:=zc0) 5 [] [9] [(5,vN j)] h fun a w h=>?_))));obtain ⟨x1,hx1⟩:=gl xs j;refine Je (htb:=zc0) 5 [(3,.g (xD 14 12 zdo (zab hx1 (f:=zad)) (OV.tmp 13 _))),(5,.g (Op.callV (d:=16) (t:=11) (cap:=[.ptr 1 0]) (args:=[vI x1]) (rs:=[(15,vI x1)]) (tys:=#[3]) (hf x1 (lM hx1)) qd1_1 (OVs.cons (OV.tmp 15 _) (OVs.nil))))] [] [(16,vb (pr x1))] h fun a w h=>cS (pr x1) h (fun hc2=>?_) (fun hc3=>?_)
  ·refine Je (htb:=zc0) 5 [] [5,16] [(4,vN j)] h fun a w h=>qV (za7 (za2 (za2 (za7 (za2 (rT (.c (cI (j:Int))) h rfl ?_))))));have hz:zcf pr xs 0=(j:Int):=by rw [hI2,zca hx1,if_pos hc2]
   rw [hz];try rfl
  refine qU (zac (za0 (Jf (htb:=zc0) 5 [(0,.j1 j)] [5,16] [(8,vI ((j:Int)+1))] h fun a w h=>za0 (zag (x:=j) (y:=j+1) h ?_ ?_))))
  ·exact ⟨by have:=zak hx1;omega,by rw [hI2,zca hx1,if_neg (by rw [hc3];exact Bool.noConfusion)]⟩
  (try simp);omega
 refine wp_exit (zaa (zaa (za5 (za0 (Jp (htb:=zc0) 5 [] [(4,vI (-1))] h fun a w h=>qV (rT (.c (cI (-1))) h rfl ?_))))));have hz:zcf pr xs 0=-1:=by rw [hI2,List.drop_of_length_le (by omega)];rfl
 rw [hz];try rfl
theorem SAnyA1 (pr:Int->Bool) (xs:List Int) (l:List Bool) (hf:∀ x ∈ xs,Fn Tryz.prog 136 [(1,.box [.d (.sl 1 (l.map zaq))])] [vI x,vp 1 0] (vb (pr x)) [(1,.box [.d (.sl 1 (l.map zaq))])]) (hl:xs.length<=9223372036854775807):Fn Tryz.prog 31 [(1,.box [.d (.sl 1 (l.map zaq))])] [(vIs xs),.t (.c (.fn (.func 136) [] [.ptr 1 0]))] (vb (xs.any pr)) [(1,.box [.d (.sl 1 (l.map zaq))])]:=by
 refine Fn.body Tryz.func31 rfl 9 rfl fun w H B a h=>Jq (htb:=zc0) 5 [] [(0,(vIs xs)),(1,.t (.c (.fn (.func 136) [] [.ptr 1 0]))),(4,vb false)] [(1,.box [.d (.sl 1 (l.map zaq))])] h fun a w h=>Jp (htb:=zc0) 5 [(2,.call (SIdxA1 pr xs l hf  hl) kg_7)] [(4,vb (decide (zcf pr xs 0>=0)))] h fun a w h=>qV (rT (.c (cB (decide (zcf pr xs 0>=0)))) h rfl ?_)
 rw [<- zf1];try rfl
theorem SIdxA2 (pr:Int->Bool) (xs:List Int) (l:List Bool) (hf:∀ x ∈ xs,Fn Tryz.prog 137 [(2,.box [.fn (.func 136) [] [.ptr 1 0]]),(1,.box [.d (.sl 1 (l.map zaq))])] [vI x,vp 2 0] (vb (pr x)) [(2,.box [.fn (.func 136) [] [.ptr 1 0]]),(1,.box [.d (.sl 1 (l.map zaq))])]) (hl:xs.length<=9223372036854775807):Fn Tryz.prog 67 [(2,.box [.fn (.func 136) [] [.ptr 1 0]]),(1,.box [.d (.sl 1 (l.map zaq))])] [(vIs xs),.t (.c (.fn (.func 137) [] [.ptr 2 0]))] (vI (zcf pr xs 0)) [(2,.box [.fn (.func 136) [] [.ptr 1 0]]),(1,.box [.d (.sl 1 (l.map zaq))])]:=by
 refine Fn.body Tryz.func67 rfl 19 rfl fun w H B a h=>Jq (htb:=zc0) 5 [] [(0,(vIs xs)),(1,.t (.c (.fn (.func 137) [] [.ptr 2 0]))),(4,vI 0)] [(2,.box [.fn (.func 136) [] [.ptr 1 0]]),(1,.box [.d (.sl 1 (l.map zaq))])] h fun a w h=>qW (Je (htb:=zc0) 5 [(1,.len (za3 1 zad xs))] [] [(7,vN xs.length),(8,vI 0)] h fun a w h=>qZ ?_)
 refine zb5 (ι:=(Nat)) (fun j=>j<=xs.length/\zcf pr xs 0=zcf pr (xs.drop j) j)
   (fun j=>[(0,(vIs xs)),(1,.t (.c (.fn (.func 137) [] [.ptr 2 0]))),(7,vN xs.length),(8,vN j)])
   (fun j=>[(2,.box [.fn (.func 136) [] [.ptr 1 0]]),(1,.box [.d (.sl 1 (l.map zaq))])])
   (fun j=>xs.length - j) 0 ?_ h (by kernel_rfl) (by kernel_rfl) ?_
 ·exact ⟨Nat.zero_le _,rfl⟩
 clear h;rintro j a w hI h;obtain ⟨hI1,hI2⟩:=hI;refine Je (htb:=zc0) 5 [] [] [(9,vb (decide ((j:Int)<(xs.length:Int))))] h fun a w h=>qW (zap ((j:Int)<(xs.length:Int)) h (fun hc1 hc1'=>?_) (fun hc4 hc4'=>?_))
 ·refine qU (za0 (qW (qZ (Je (htb:=zc0) 5 [] [9] [(5,vN j)] h fun a w h=>?_))));obtain ⟨x1,hx1⟩:=gl xs j;refine Je (htb:=zc0) 5 [(3,.g (xD 14 12 zdo (zab hx1 (f:=zad)) (OV.tmp 13 _))),(5,.g (Op.callV (d:=16) (t:=11) (cap:=[.ptr 2 0]) (args:=[vI x1]) (rs:=[(15,vI x1)]) (tys:=#[3]) (hf x1 (lM hx1)) qd1_4 (OVs.cons (OV.tmp 15 _) (OVs.nil))))] [] [(16,vb (pr x1))] h fun a w h=>cS (pr x1) h (fun hc2=>?_) (fun hc3=>?_)
  ·refine Je (htb:=zc0) 5 [] [5,16] [(4,vN j)] h fun a w h=>qV (za7 (za2 (za2 (za7 (za2 (rT (.c (cI (j:Int))) h rfl ?_))))));have hz:zcf pr xs 0=(j:Int):=by rw [hI2,zca hx1,if_pos hc2]
   rw [hz];try rfl
  refine qU (zac (za0 (Jf (htb:=zc0) 5 [(0,.j1 j)] [5,16] [(8,vI ((j:Int)+1))] h fun a w h=>za0 (zag (x:=j) (y:=j+1) h ?_ ?_))))
  ·exact ⟨by have:=zak hx1;omega,by rw [hI2,zca hx1,if_neg (by rw [hc3];exact Bool.noConfusion)]⟩
  (try simp);omega
 refine wp_exit (zaa (zaa (za5 (za0 (Jp (htb:=zc0) 5 [] [(4,vI (-1))] h fun a w h=>qV (rT (.c (cI (-1))) h rfl ?_))))));have hz:zcf pr xs 0=-1:=by rw [hI2,List.drop_of_length_le (by omega)];rfl
 rw [hz];try rfl
theorem SAnyA2 (pr:Int->Bool) (xs:List Int) (l:List Bool) (hf:∀ x ∈ xs,Fn Tryz.prog 137 [(2,.box [.fn (.func 136) [] [.ptr 1 0]]),(1,.box [.d (.sl 1 (l.map zaq))])] [vI x,vp 2 0] (vb (pr x)) [(2,.box [.fn (.func 136) [] [.ptr 1 0]]),(1,.box [.d (.sl 1 (l.map zaq))])]) (hl:xs.length<=9223372036854775807):Fn Tryz.prog 31 [(2,.box [.fn (.func 136) [] [.ptr 1 0]]),(1,.box [.d (.sl 1 (l.map zaq))])] [(vIs xs),.t (.c (.fn (.func 137) [] [.ptr 2 0]))] (vb (xs.any pr)) [(2,.box [.fn (.func 136) [] [.ptr 1 0]]),(1,.box [.d (.sl 1 (l.map zaq))])]:=by
 refine Fn.body Tryz.func31 rfl 9 rfl fun w H B a h=>Jq (htb:=zc0) 5 [] [(0,(vIs xs)),(1,.t (.c (.fn (.func 137) [] [.ptr 2 0]))),(4,vb false)] [(2,.box [.fn (.func 136) [] [.ptr 1 0]]),(1,.box [.d (.sl 1 (l.map zaq))])] h fun a w h=>Jp (htb:=zc0) 5 [(2,.call (SIdxA2 pr xs l hf  hl) kg_7)] [(4,vb (decide (zcf pr xs 0>=0)))] h fun a w h=>qV (rT (.c (cB (decide (zcf pr xs 0>=0)))) h rfl ?_)
 rw [<- zf1];try rfl
theorem SAllows (nd:zbd) (l:List Bool) (hl:l.length<=9223372036854775807) (hn1:nd.must.length<=9223372036854775807) (hn2:nd.never.length<=9223372036854775807):Fn Tryz.prog 95 [] [vG [cIs nd.must,cIs nd.never,cIs nd.next],vS 1 (l.map zaq)] (vb (alwT nd l)) []:=by
 refine Fn.body Tryz.func95 rfl 19 rfl fun w H B a h=>Jq (htb:=zc0) 0 [] [(2,vp 0 0),(3,vp 1 0),(4,vb false)] [(0,.box [cIs nd.must,cIs nd.never,cIs nd.next]),(1,.box [.d (.sl 1 (l.map zaq))])] h fun a w h=>Jd (htb:=zc0) 2 [(0,.g (Op.makeFs (d:=6) (fn:=.func 136) [(3,1,0)]))] [3] [(5,vp 2 0)] [(0,.box [cIs nd.must,cIs nd.never,cIs nd.next]),(1,.box [.d (.sl 1 (l.map zaq))]),(2,.box [.fn (.func 136) [] [.ptr 1 0]])] h fun a w h=>?_
 rcases Bool.eq_false_or_eq_true (nd.must.any (fun p=>!hdB l p)) with hc1 | hc2
 ·refine Jq (htb:=zc0) 3 [(2,.g (Op.makeFs (d:=9) (fn:=.func 137) [(5,2,0)])),(3,.call (Fn.cast (SAnyA2 (fun p=>!hdB l p) nd.must l (fun p _=>SAl2 l p hl) hn1) (congrArg vb hc1)) kg_8)] [(4,vb false)] [] h fun a w h=>qV (rT (.c (cB false)) h rfl ?_);have hz:alwT nd l=(false):=by unfold alwT;rw [hc1];rfl
  rw [hz];try rfl
 refine Jq (htb:=zc0) 3 [(2,.g (Op.makeFs (d:=9) (fn:=.func 137) [(5,2,0)])),(3,.call (Fn.cast (SAnyA2 (fun p=>!hdB l p) nd.must l (fun p _=>SAl2 l p hl) hn1) (congrArg vb hc2)) kg_8),(9,.call (SAnyA1 (hdB l) nd.never l (fun p _=>SAl1 l p hl) hn2) kg_8)] [(4,vb (!(nd.never.any (hdB l))))] [] h fun a w h=>qV (rT (.c (cB (!(nd.never.any (hdB l))))) h rfl ?_);have hz:alwT nd l=(!(nd.never.any (hdB l))):=by unfold alwT;rw [hc2];rfl
 rw [hz];try rfl
theorem qe1_4:SlT Tryz.prog 58 108 3:=SlT.mk' Tryz.underlying58 (by kernel_rfl)
theorem qe1_5:za6 Tryz.prog 96:=za6.mk' (by kernel_rfl)
theorem qe1_6:za6 Tryz.prog 95:=za6.mk' (by kernel_rfl)
theorem SIndexO (xs:List Int) (v:Int) (hl:xs.length<=1000000):Fn Tryz.prog 135 [(9,.row 3 1 (xs.map zad))] [vO 9 xs.length,vI v] (vI (idxI v xs 0)) [(9,.row 3 1 (xs.map zad))]:=by
 refine Fn.body Tryz.func135 rfl 19 rfl fun w H B a h=>Jq (htb:=za9) 10 [] [(0,vO 9 xs.length),(1,vI v),(4,vI 0)] [(9,.row 3 1 (xs.map zad))] h fun a w h=>qW (Je (htb:=za9) 10 [] [] [(7,vN xs.length),(8,vI 0)] h fun a w h=>qZ ?_)
 refine zb5 (ι:=(Nat)) (fun j=>j<=xs.length/\idxI v xs 0=idxI v (xs.drop j) j)
   (fun j=>[(0,vO 9 xs.length),(1,vI v),(7,vN xs.length),(8,vN j)])
   (fun j=>[(9,.row 3 1 (xs.map zad))])
   (fun j=>xs.length - j) 0 ?_ h (by kernel_rfl) (by kernel_rfl) ?_
 ·exact ⟨Nat.zero_le _,rfl⟩
 clear h;rintro j a w hI h;obtain ⟨hI1,hI2⟩:=hI;refine Je (htb:=za9) 10 [] [] [(9,vb (decide ((j:Int)<(xs.length:Int))))] h fun a w h=>qW (zap ((j:Int)<(xs.length:Int)) h (fun hc1 hc1'=>?_) (fun hc4 hc4'=>?_))
 ·refine qU (za0 (qW (qZ (Je (htb:=za9) 10 [] [9] [(5,vN j)] h fun a w h=>?_))));obtain ⟨x1,hx1⟩:=gl xs j;refine Je (htb:=za9) 10 [(3,.g (xO 14 12 9 xs.length j zdo (OV.tmp 13 _))),(4,.g (Op.loadR_c (d:=15) (t:=14) (n:=9) (i:=j) (fo:=0) (rty:=3) (es:=1) (x:=(.raw (.int .i64 x1))) tl_7 rfl (zab hx1 (f:=zad)) rfl))] [] [(16,vb (v == x1))] h fun a w h=>cS (v == x1) h (fun hc2=>?_) (fun hc3=>?_)
  ·have hc2':=hc2;(try simp at hc2');refine Je (htb:=za9) 10 [] [5,16] [(4,vN j)] h fun a w h=>qV (za7 (za2 (za2 (za7 (za2 (rT (.c (cI (j:Int))) h rfl ?_))))));have hz:idxI v xs 0=(j:Int):=by rw [hI2,idxI_at hx1,if_pos (by simpa using hc2)]
   rw [hz];try rfl
  have hc3':=hc3;(try simp at hc3');refine qU (zac (za0 (Jf (htb:=za9) 10 [(0,.j1 j)] [5,16] [(8,vI ((j:Int)+1))] h fun a w h=>za0 (zag (x:=j) (y:=j+1) h ?_ ?_))))
  ·exact ⟨by have:=zak hx1;omega,by rw [hI2,idxI_at hx1,if_neg (by simpa using hc3)]⟩
  show xs.length - (j+1)<xs.length - j;have:=zak hx1;omega
 refine wp_exit (zaa (zaa (za5 (za0 (Jp (htb:=za9) 10 [] [(4,vI (-1))] h fun a w h=>qV (rT (.c (cI (-1))) h rfl ?_))))));have hz:idxI v xs 0=-1:=by rw [hI2,List.drop_of_length_le (by omega)];rfl
 rw [hz];try rfl
theorem SContainsO (xs:List Int) (v:Int) (hl:xs.length<=1000000):Fn Tryz.prog 94 [(9,.row 3 1 (xs.map zad))] [vO 9 xs.length,vI v] (vb (hasI v xs)) [(9,.row 3 1 (xs.map zad))]:=by
 refine Fn.body Tryz.func94 rfl 9 rfl fun w H B a h=>Jq (htb:=za9) 10 [] [(0,vO 9 xs.length),(1,vI v),(4,vb false)] [(9,.row 3 1 (xs.map zad))] h fun a w h=>Jp (htb:=za9) 10 [(2,.call (SIndexO xs v hl) tq_7)] [(4,vb (decide (idxI v xs 0>=0)))] h fun a w h=>qV (rT (.c (cB (decide (idxI v xs 0>=0)))) h rfl ?_)
 rfl
structure zda (au:zcy):Prop where
  nodes:au.nodes.length<=1000000
  first:au.first.length<=1000000
  good:au.good.length<=9223372036854775807
  node:∀ nd ∈ au.nodes,nd.must.length<=1000000/\nd.never.length<=1000000/\nd.next.length<=1000
theorem ftn_snoc {au:zcy} {l:List Bool} {nodes:List Int} {j:Nat} {x:Int} (h:nodes[j]?=some x):zb2 au l (nodes.take (j+1))=fitO au l (zb2 au l (nodes.take j)) x:=by
 unfold zb2;rw [List.take_add_one,h,List.foldl_append];rfl
theorem ftn_no {au:zcy} {l:List Bool} {nodes:List Int} {j:Nat} {x:Int} (h:nodes[j]?=some x) (hk:(okN au x && !hasI x (zb2 au l (nodes.take j)) && alwT (zbh au x) l)=false):zb2 au l (nodes.take j)=zb2 au l (nodes.take (j+1)):=by
 rw [ftn_snoc h];unfold fitO;rw [if_neg (by rw [hk];exact Bool.noConfusion)]
theorem ftn_yes {au:zcy} {l:List Bool} {nodes:List Int} {j:Nat} {x:Int} (h:nodes[j]?=some x) (hk:(okN au x && !hasI x (zb2 au l (nodes.take j)) && alwT (zbh au x) l)=true):zb2 au l (nodes.take j)++[x]=zb2 au l (nodes.take (j+1)):=by
 rw [ftn_snoc h];unfold fitO;rw [if_pos hk]
theorem ftn_ind (au:zcy) (l:List Bool) {Q:List Int->Prop} (h0:Q []):∀ (nodes out:List Int),Q out->(∀ out x,x ∈ nodes->okN au x=true->Q out->Q (out++[x]))->Q (nodes.foldl (fitO au l) out)
 | [],out,h,_=>h
 | x :: xs,out,h,hs=>by
  refine ftn_ind au l h0 xs (fitO au l out x) ?_ fun o y hy=>hs o y (by simp [hy])
  unfold fitO
  split
  ·rename_i hc
   simp only [Bool.and_eq_true] at hc
   exact hs out x (by simp) hc.1.1 h
  ·exact h
theorem ftn_ok (au:zcy) (l:List Bool) (nodes:List Int):∀ x ∈ zb2 au l nodes,okN au x=true/\x ∈ nodes:=by
 refine ftn_ind au l (Q:=fun out=>∀ x ∈ out,okN au x=true/\x ∈ nodes) (fun x hx=>by cases hx) nodes [] (fun x hx=>by cases hx) fun out x hx hk ho y hy=>?_
 rcases List.mem_append.1 hy with hy | hy
 ·exact ho y hy
 ·rw [List.mem_singleton.1 hy];exact ⟨hk,hx⟩
theorem ftn_len (au:zcy) (l:List Bool):∀ (nodes out:List Int),(nodes.foldl (fitO au l) out).length<=out.length+nodes.length
 | [],out=>Nat.le_refl _
 | x :: xs,out=>by
  have h:=ftn_len au l xs (fitO au l out x)
  have h2:(fitO au l out x).length<=out.length+1:=by unfold fitO;split <;> simp
  rw [List.foldl_cons,List.length_cons];omega
theorem ziq (au:zcy) (l:List Bool) (nodes:List Int):(zb2 au l nodes).length<=nodes.length:=Nat.le_trans (ftn_len au l nodes []) (by simp)
theorem addI_two (ls:List Int) (n:Int):zcc (zcc ls n) n=zcc ls n:=by
 unfold zcc
 by_cases h:n ∈ ls
 ·rw [if_pos h,if_pos h]
 ·rw [if_neg h,if_pos (by simp)]
theorem lsF_no {au:zcy} {ls nodes:List Int} {n x:Int} {j:Nat} (h:nodes[j]?=some x) (hk:okN au x=false):lsF au ls n (nodes.take j)=lsF au ls n (nodes.take (j+1)):=by
 unfold lsF;rw [List.take_add_one,h,List.any_append];simp [hk]
theorem lsF_yes {au:zcy} {ls nodes:List Int} {n x:Int} {j:Nat} (h:nodes[j]?=some x) (hk:okN au x=true):zcc (lsF au ls n (nodes.take j)) n=lsF au ls n (nodes.take (j+1)):=by
 unfold lsF;rw [List.take_add_one,h,List.any_append]
 simp only [Option.toList_some,List.any_cons,hk,List.any_nil,Bool.or_false,Bool.or_true,if_true]
 by_cases ha:(nodes.take j).any (okN au)=true
 ·rw [if_pos ha,addI_two]
 ·rw [if_neg ha]
theorem lsF_has {au:zcy} {l:List Bool} {ls nodes:List Int} {n x:Int} {j:Nat} (h:nodes[j]?=some x) (hk:hasI x (zb2 au l (nodes.take j))=true):lsF au ls n (nodes.take j)=lsF au ls n (nodes.take (j+1)):=by
 obtain ⟨h1,h2⟩:=ftn_ok au l _ x (hasI_iff.1 hk)
 unfold lsF;rw [List.take_add_one,h,List.any_append,if_pos (List.any_eq_true.2 ⟨x,h2,h1⟩),if_pos (by rw [List.any_eq_true.2 ⟨x,h2,h1⟩];rfl)]
theorem kin_add {ls:List Int} {n:Int} (h:zha ls) (hn:InI n):zha (zcc ls n):=by
 unfold zcc;split
 ·exact h
 ·intro m hm
  rcases List.mem_append.1 hm with hm | hm
  ·exact h m hm
  ·rw [List.mem_singleton.1 hm];exact hn
theorem kin_lsF {au:zcy} {ls nodes:List Int} {n:Int} (h:zha ls) (hn:InI n):zha (lsF au ls n nodes):=by
 unfold lsF;split
 ·exact kin_add h hn
 ·exact h
theorem okN_yes {au:zcy} {x:Int} (h1:0<=x) (h2:x<(au.nodes.length:Int)):okN au x=true:=by unfold okN;rw [decide_eq_true h1,decide_eq_true h2];rfl
theorem okN_no {au:zcy} {x:Int} (h:x<0\/(au.nodes.length:Int)<=x):okN au x=false:=by
 unfold okN
 rcases h with h | h
 ·rw [decide_eq_false (p:=0<=x) (by omega)];rfl
 ·rw [decide_eq_false (p:=x<(au.nodes.length:Int)) (by omega),Bool.and_false]
theorem nodA_at {au:zcy} {k:Nat} {nd:zbd} (h:au.nodes[k]?=some nd):zbh au (k:Int)=nd:=by unfold zbh;rw [show ((k:Int)).toNat=k by omega,h];rfl
theorem SFitsX (s:zan) (ps:List zb4) (au:zcy) (fu:Int) (ot:Bool) (ls es:List Int) (fs sc:List PrD) (n:Int) (nodes:List Int) {L:Nat} (hs:zb1 L s) (hL:L<=1000) (hp:zc2 s) (hps:∀ p ∈ ps,zec L p) (hpl:ps.length<=1000) (hau:zda au) (hls:zha ls) (hn:InI n) (hnl:nodes.length<=1000000):Fn Tryz.prog 50 [(7,(bxS s ps au fu ot)),(1,.mp (mpL s ps ls)),(2,.mp (mpE s es)),(3,.mp (mpP fs)),(4,.mp (mpP sc))] [vp 7 0,vI n,(vIs nodes)] (vIs (zb2 au (zax s ps n) nodes)) [(7,(bxS s ps au fu ot)),(1,.mp (mpL s ps (lsF au ls n nodes))),(2,.mp (mpE s es)),(3,.mp (mpP fs)),(4,.mp (mpP sc))]:=by
 refine Fn.body Tryz.func50 rfl 54 rfl fun w H B a h=>?_
 refine Jq (htb:=za9) 30 [] [(0,vp 7 0),(1,vI n),(2,(vIs nodes)),(6,vW za4)] [(7,(bxS s ps au fu ot)),(1,.mp (mpL s ps ls)),(2,.mp (mpE s es)),(3,.mp (mpP fs)),(4,.mp (mpP sc))] h fun a w h=>?_;refine Jp (htb:=za9) 30 [] [(0,vp 7 0),(1,vI n),(2,(vIs nodes)),(6,vW za4),(7,vW za4)] h fun a w h=>?_;refine qW (Jp (htb:=za9) 30 [(1,.len (za3 1 zad nodes))] [(0,vp 7 0),(1,vI n),(6,vW za4),(7,vW za4),(10,(vIs nodes)),(11,vN nodes.length),(12,vI 0)] h fun a w h=>?_);refine qZ ?_;replace h:=ze5 7 0 30 1 3 (vW za4) [(0,vp 7 0),(1,vI n),(6,vW za4),(7,vO 30 0),(10,(vIs nodes)),(11,vN nodes.length),(12,vI 0)] [(7,(bxS s ps au fu ot)),(1,.mp (mpL s ps ls)),(2,.mp (mpE s es)),(3,.mp (mpP fs)),(4,.mp (mpP sc)),(30,.row 3 1 ([].map zad))] h (by kernel_rfl) rfl rfl;replace h:=zd9 30 9 [(0,vp 7 0),(1,vI n),(6,vW za4),(7,vO 9 0),(10,(vIs nodes)),(11,vN nodes.length),(12,vI 0)] [(7,(bxS s ps au fu ot)),(1,.mp (mpL s ps ls)),(2,.mp (mpE s es)),(3,.mp (mpP fs)),(4,.mp (mpP sc)),(9,.row 3 1 ([].map zad))] h;replace h:=h.conv (f':=F.of [(0,vp 7 0),(1,vI n),(6,vW za4),(7,vO 9 (zb2 au (zax s ps n) (nodes.take 0)).length),(10,(vIs nodes)),(11,vN nodes.length),(12,vI 0)] [(7,(bxS s ps au fu ot)),(1,.mp (mpL s ps (lsF au ls n (nodes.take 0)))),(2,.mp (mpE s es)),(3,.mp (mpP fs)),(4,.mp (mpP sc)),(9,.row 3 1 ((zb2 au (zax s ps n) (nodes.take 0)).map zad))]) (rfl)
 refine zb5 (ι:=(Nat)) (fun j=>j<=nodes.length)
   (fun j=>[(0,vp 7 0),(1,vI n),(6,vW za4),(7,vO 9 (zb2 au (zax s ps n) (nodes.take j)).length),(10,(vIs nodes)),(11,vN nodes.length),(12,vN j)])
   (fun j=>[(7,(bxS s ps au fu ot)),(1,.mp (mpL s ps (lsF au ls n (nodes.take j)))),(2,.mp (mpE s es)),(3,.mp (mpP fs)),(4,.mp (mpP sc)),(9,.row 3 1 ((zb2 au (zax s ps n) (nodes.take j)).map zad))])
   (fun j=>nodes.length - j) 0 ?_ h (by kernel_rfl) (by kernel_rfl) ?_
 ·exact Nat.zero_le _
 clear h;rintro j a w hI h;have hkl:zha (lsF au ls n (nodes.take j)):=kin_lsF hls hn;have lfi:=ziq au (zax s ps n) (nodes.take j);have ltk:(nodes.take j).length<=nodes.length:=by simp;omega
 have hlo:(zb2 au (zax s ps n) (nodes.take j)).length<=1000000:=by omega
 have hll:(zax s ps n).length<=9223372036854775807:=by have:(zax s ps n).length=ps.length:=List.length_map _;omega
 refine Jp (htb:=za9) 31 [] [(0,vp 7 0),(1,vI n),(6,vW za4),(7,vO 9 (zb2 au (zax s ps n) (nodes.take j)).length),(10,(vIs nodes)),(11,vN nodes.length),(12,vN j),(13,vb (decide ((j:Int)<(nodes.length:Int))))] h fun a w h=>?_;refine qW ?_;refine zap ((j:Int)<(nodes.length:Int)) h (fun hc1 hc1'=>?_) (fun hc10 hc10'=>?_)
 ·refine qU (za0 (qW (qZ ?_)));obtain ⟨x1,hx1⟩:=gl nodes j;refine Jp (htb:=za9) 31 [(0,.g (xD 14 10 zdo (zab hx1 (f:=zad)) (OV.tmp 12 _)))] [(0,vp 7 0),(1,vI n),(6,vW za4),(7,vO 9 (zb2 au (zax s ps n) (nodes.take j)).length),(9,vI x1),(10,(vIs nodes)),(11,vN nodes.length),(12,vN j)] h fun a w h=>?_
  rcases Bool.eq_false_or_eq_true (decide (x1>=0)) with hc2 | hc9
  ·have hc2':=dT hc2;obtain ⟨k,hkk⟩:∃ k_:Nat,x1=(k_:Int):=⟨_,(Int.toNat_of_nonneg (by have:=dT hc2;omega)).symm⟩;replace h:=h.conv (f':=F.of [(0,vp 7 0),(1,vI n),(6,vW za4),(7,vO 9 (zb2 au (zax s ps n) (nodes.take j)).length),(9,vN k),(10,(vIs nodes)),(11,vN nodes.length),(12,vN j)] [(7,(bxS s ps au fu ot)),(1,.mp (mpL s ps (lsF au ls n (nodes.take j)))),(2,.mp (mpE s es)),(3,.mp (mpP fs)),(4,.mp (mpP sc)),(9,.row 3 1 ((zb2 au (zax s ps n) (nodes.take j)).map zad))]) (by rw [hkk])
   rcases Bool.eq_false_or_eq_true (decide ((k:Int)<(au.nodes.length:Int))) with hc3 | hc8
   ·have hc3':=dT hc3
    rcases Bool.eq_false_or_eq_true (hasI (k:Int) (zb2 au (zax s ps n) (nodes.take j))) with hc4 | hc5
    ·refine Jq (htb:=za9) 31 [(1,.cmp (op:=.geq) (m:=(k:Int)) (n:=0) (b:=true) .i64 (show (decide ((k:Int)>=0))=true from by rw [<- hkk];exact hc2)),(5,.g (Op.nilQ (d:=21) (t:=20) (n:=7) (o:=0))),(9,.len (za3 3 zbd.d au.nodes)),(10,.cmp (op:=.lss) (m:=(k:Int)) (n:=(au.nodes.length:Int)) (b:=true) .i64 hc3),(15,.call (Fn.cast (SContainsO (zb2 au (zax s ps n) (nodes.take j)) (k:Int) hlo) (congrArg vb hc4)) ob1_6)] [(0,vp 7 0),(1,vI n),(6,vW za4),(7,vO 9 (zb2 au (zax s ps n) (nodes.take j)).length),(9,vN k),(10,(vIs nodes)),(11,vN nodes.length),(12,vN j),(47,vb false)] [(7,(bxS s ps au fu ot)),(1,.mp (mpL s ps (lsF au ls n (nodes.take j)))),(2,.mp (mpE s es)),(3,.mp (mpP fs)),(4,.mp (mpP sc)),(9,.row 3 1 ((zb2 au (zax s ps n) (nodes.take j)).map zad))] h fun a w h=>?_;refine zbn false h rfl nofun (fun _=>?_)
     refine qU (zac (za0 (Jl (htb:=za9) 31 [(0,.j1 j)] [(0,vp 7 0),(1,vI n),(6,vW za4),(7,vO 9 (zb2 au (zax s ps n) (nodes.take j)).length),(10,(vIs nodes)),(11,vN nodes.length),(12,vI ((j:Int)+1))] h fun a w h=>?_)));refine za0 ?_;have hok:okN au x1=true:=okN_yes (by have:=dT hc2;omega) (by have:=dT hc3;omega);have hhs:hasI x1 (zb2 au (zax s ps n) (nodes.take j))=true:=by rw [hkk];exact hc4
     replace h:=h.conv (f':=F.of [(0,vp 7 0),(1,vI n),(6,vW za4),(7,vO 9 (zb2 au (zax s ps n) (nodes.take (j+1))).length),(10,(vIs nodes)),(11,vN nodes.length),(12,vI ((j:Int)+1))] [(7,(bxS s ps au fu ot)),(1,.mp (mpL s ps (lsF au ls n (nodes.take (j+1))))),(2,.mp (mpE s es)),(3,.mp (mpP fs)),(4,.mp (mpP sc)),(9,.row 3 1 ((zb2 au (zax s ps n) (nodes.take (j+1))).map zad))]) (by rw [<- (ftn_no hx1 (by rw [hok,hhs];rfl):(zb2 au (zax s ps n) (nodes.take j))=(zb2 au (zax s ps n) (nodes.take (j+1)))),<- (lsF_has hx1 hhs:(lsF au ls n (nodes.take j))=(lsF au ls n (nodes.take (j+1))))]);refine zag (x:=j) (y:=j+1) h ?_ ?_
     ·have:=zak hx1;show j+1<=nodes.length;omega
     show nodes.length - (j+1)<nodes.length - j;have:=zak hx1;omega
    obtain ⟨x5,hx5⟩:=gl au.nodes k;refine Jq (htb:=za9) 31 [(1,.cmp (op:=.geq) (m:=(k:Int)) (n:=0) (b:=true) .i64 (show (decide ((k:Int)>=0))=true from by rw [<- hkk];exact hc2)),(5,.g (Op.nilQ (d:=21) (t:=20) (n:=7) (o:=0))),(9,.len (za3 3 zbd.d au.nodes)),(10,.cmp (op:=.lss) (m:=(k:Int)) (n:=(au.nodes.length:Int)) (b:=true) .i64 hc3),(15,.call (Fn.cast (SContainsO (zb2 au (zax s ps n) (nodes.take j)) (k:Int) hlo) (congrArg vb hc5)) ob1_6),(20,.g (Op.nilQ (d:=36) (t:=35) (n:=7) (o:=0))),(25,.g (xD 41 39 qe1_4 (zab hx5 (f:=zbd.d)) (OV.tmp 40 _))),(29,.g (Op.callI (d:=45) (SLetterX s ps au fu ot (lsF au ls n (nodes.take j)) es fs sc n hs hL hp hps hpl hkl hn) qe1_5 [7,2,3,4] (tys:=#[113,3]) (OVs.cons (OV.tmp 43 _) (OVs.cons (OV.tmp 44 _) (OVs.nil))) rfl)),(30,.call (SAllows x5 (zax s ps n) hll (by have:=(hau.node x5 (lM hx5)).1;omega) (by have:=(hau.node x5 (lM hx5)).2.1;omega)) qe1_6)] [(0,vp 7 0),(1,vI n),(6,vW za4),(7,vO 9 (zb2 au (zax s ps n) (nodes.take j)).length),(9,vN k),(10,(vIs nodes)),(11,vN nodes.length),(12,vN j),(47,vb (alwT x5 (zax s ps n)))] [(7,(bxS s ps au fu ot)),(1,.mp (mpL s ps (zcc (lsF au ls n (nodes.take j)) n))),(2,.mp (mpE s es)),(3,.mp (mpP fs)),(4,.mp (mpP sc)),(9,.row 3 1 ((zb2 au (zax s ps n) (nodes.take j)).map zad))] h fun a w h=>?_;refine cS (alwT x5 (zax s ps n)) h (fun hc6=>?_) (fun hc7=>?_)
    ·refine Jn (htb:=za9) 31 [(2,.g (bD 50 ([(k:Int)].map zad) [(49,vN k)] tb_0 (.cons (i:=0) (OV.tmp 49 _) (.nil)) (by kernel_rfl) (by simp [zad]))),(3,.g (Op.appOD (d:=51) (t:=48) (u:=50) (n:=9) (n':=31) (len:=(zb2 au (zax s ps n) (nodes.take j)).length) (len':=((zb2 au (zax s ps n) (nodes.take j))++[(k:Int)]).length) (rows:=(zb2 au (zax s ps n) (nodes.take j)).map zad) (rows2:=[(k:Int)].map zad) (rows':=((zb2 au (zax s ps n) (nodes.take j))++[(k:Int)]).map zad) tb_2 (by first | exact (List.length_map _).symm | simp) (by first | (rw [List.length_append,List.length_map];done) | (simp;done) | (simp;omega)) (by simp) (by simp [zad]) (by first | omega | (simp at *;done) | (simp at *;omega))))] [(0,vp 7 0),(1,vI n),(6,vW za4),(7,vO 31 ((zb2 au (zax s ps n) (nodes.take j))++[(k:Int)]).length),(10,(vIs nodes)),(11,vN nodes.length),(12,vN j)] [(7,(bxS s ps au fu ot)),(1,.mp (mpL s ps (zcc (lsF au ls n (nodes.take j)) n))),(2,.mp (mpE s es)),(3,.mp (mpP fs)),(4,.mp (mpP sc)),(31,.row 3 1 (((zb2 au (zax s ps n) (nodes.take j))++[(k:Int)]).map zad))] h fun a w h=>?_;refine zac (za0 (Jl (htb:=za9) 32 [(0,.j1 j)] [(0,vp 7 0),(1,vI n),(6,vW za4),(7,vO 31 ((zb2 au (zax s ps n) (nodes.take j))++[(k:Int)]).length),(10,(vIs nodes)),(11,vN nodes.length),(12,vI ((j:Int)+1))] h fun a w h=>?_));refine za0 ?_;have hok:okN au x1=true:=okN_yes (by have:=dT hc2;omega) (by have:=dT hc3;omega);have hhs:hasI x1 (zb2 au (zax s ps n) (nodes.take j))=false:=by rw [hkk];exact hc5
     have hal:alwT (zbh au x1) (zax s ps n)=true:=by rw [hkk,nodA_at hx5];exact hc6
     replace h:=h.conv (f':=F.of [(0,vp 7 0),(1,vI n),(6,vW za4),(7,vO 31 (zb2 au (zax s ps n) (nodes.take (j+1))).length),(10,(vIs nodes)),(11,vN nodes.length),(12,vI ((j:Int)+1))] [(7,(bxS s ps au fu ot)),(1,.mp (mpL s ps (lsF au ls n (nodes.take (j+1))))),(2,.mp (mpE s es)),(3,.mp (mpP fs)),(4,.mp (mpP sc)),(31,.row 3 1 ((zb2 au (zax s ps n) (nodes.take (j+1))).map zad))]) (by rw [<- (ftn_yes hx1 (by rw [hok,hhs,hal];rfl):(zb2 au (zax s ps n) (nodes.take j))++[x1]=(zb2 au (zax s ps n) (nodes.take (j+1)))),<- (lsF_yes hx1 hok:(zcc (lsF au ls n (nodes.take j)) n)=(lsF au ls n (nodes.take (j+1)))),<- hkk]);replace h:=zd9 31 9 [(0,vp 7 0),(1,vI n),(6,vW za4),(7,vO 9 (zb2 au (zax s ps n) (nodes.take (j+1))).length),(10,(vIs nodes)),(11,vN nodes.length),(12,vI ((j:Int)+1))] [(7,(bxS s ps au fu ot)),(1,.mp (mpL s ps (lsF au ls n (nodes.take (j+1))))),(2,.mp (mpE s es)),(3,.mp (mpP fs)),(4,.mp (mpP sc)),(9,.row 3 1 ((zb2 au (zax s ps n) (nodes.take (j+1))).map zad))] h;refine zag (x:=j) (y:=j+1) h ?_ ?_
     ·have:=zak hx1;show j+1<=nodes.length;omega
     show nodes.length - (j+1)<nodes.length - j;have:=zak hx1;omega
    refine qU (zac (za0 (Jl (htb:=za9) 32 [(0,.j1 j)] [(0,vp 7 0),(1,vI n),(6,vW za4),(7,vO 9 (zb2 au (zax s ps n) (nodes.take j)).length),(10,(vIs nodes)),(11,vN nodes.length),(12,vI ((j:Int)+1))] h fun a w h=>?_)));refine za0 ?_;have hok:okN au x1=true:=okN_yes (by have:=dT hc2;omega) (by have:=dT hc3;omega);have hhs:hasI x1 (zb2 au (zax s ps n) (nodes.take j))=false:=by rw [hkk];exact hc5
    have hal:alwT (zbh au x1) (zax s ps n)=false:=by rw [hkk,nodA_at hx5];exact hc7
    replace h:=h.conv (f':=F.of [(0,vp 7 0),(1,vI n),(6,vW za4),(7,vO 9 (zb2 au (zax s ps n) (nodes.take (j+1))).length),(10,(vIs nodes)),(11,vN nodes.length),(12,vI ((j:Int)+1))] [(7,(bxS s ps au fu ot)),(1,.mp (mpL s ps (lsF au ls n (nodes.take (j+1))))),(2,.mp (mpE s es)),(3,.mp (mpP fs)),(4,.mp (mpP sc)),(9,.row 3 1 ((zb2 au (zax s ps n) (nodes.take (j+1))).map zad))]) (by rw [<- (ftn_no hx1 (by rw [hok,hhs,hal];rfl):(zb2 au (zax s ps n) (nodes.take j))=(zb2 au (zax s ps n) (nodes.take (j+1)))),<- (lsF_yes hx1 hok:(zcc (lsF au ls n (nodes.take j)) n)=(lsF au ls n (nodes.take (j+1))))]);refine zag (x:=j) (y:=j+1) h ?_ ?_
    ·have:=zak hx1;show j+1<=nodes.length;omega
    show nodes.length - (j+1)<nodes.length - j;have:=zak hx1;omega
   have hc8':=dF hc8;refine Jq (htb:=za9) 32 [(1,.cmp (op:=.geq) (m:=(k:Int)) (n:=0) (b:=true) .i64 (show (decide ((k:Int)>=0))=true from by rw [<- hkk];exact hc2)),(5,.g (Op.nilQ (d:=21) (t:=20) (n:=7) (o:=0))),(9,.len (za3 3 zbd.d au.nodes)),(10,.cmp (op:=.lss) (m:=(k:Int)) (n:=(au.nodes.length:Int)) (b:=false) .i64 hc8)] [(0,vp 7 0),(1,vI n),(6,vW za4),(7,vO 9 (zb2 au (zax s ps n) (nodes.take j)).length),(9,vN k),(10,(vIs nodes)),(11,vN nodes.length),(12,vN j),(47,vb false)] [(7,(bxS s ps au fu ot)),(1,.mp (mpL s ps (lsF au ls n (nodes.take j)))),(2,.mp (mpE s es)),(3,.mp (mpP fs)),(4,.mp (mpP sc)),(9,.row 3 1 ((zb2 au (zax s ps n) (nodes.take j)).map zad))] h fun a w h=>?_;refine zbn false h rfl nofun (fun _=>?_)
   refine qU (zac (za0 (Jl (htb:=za9) 32 [(0,.j1 j)] [(0,vp 7 0),(1,vI n),(6,vW za4),(7,vO 9 (zb2 au (zax s ps n) (nodes.take j)).length),(10,(vIs nodes)),(11,vN nodes.length),(12,vI ((j:Int)+1))] h fun a w h=>?_)));refine za0 ?_;have hok:okN au x1=false:=okN_no (.inr (by have:=dF hc8;omega));replace h:=h.conv (f':=F.of [(0,vp 7 0),(1,vI n),(6,vW za4),(7,vO 9 (zb2 au (zax s ps n) (nodes.take (j+1))).length),(10,(vIs nodes)),(11,vN nodes.length),(12,vI ((j:Int)+1))] [(7,(bxS s ps au fu ot)),(1,.mp (mpL s ps (lsF au ls n (nodes.take (j+1))))),(2,.mp (mpE s es)),(3,.mp (mpP fs)),(4,.mp (mpP sc)),(9,.row 3 1 ((zb2 au (zax s ps n) (nodes.take (j+1))).map zad))]) (by rw [<- (ftn_no hx1 (by rw [hok];rfl):(zb2 au (zax s ps n) (nodes.take j))=(zb2 au (zax s ps n) (nodes.take (j+1)))),<- (lsF_no hx1 hok:(lsF au ls n (nodes.take j))=(lsF au ls n (nodes.take (j+1))))]);refine zag (x:=j) (y:=j+1) h ?_ ?_
   ·have:=zak hx1;show j+1<=nodes.length;omega
   show nodes.length - (j+1)<nodes.length - j;have:=zak hx1;omega
  have hc9':=dF hc9;refine Jp (htb:=za9) 32 [(1,.cmp (op:=.geq) (m:=x1) (n:=0) (b:=false) .i64 hc9)] [(0,vp 7 0),(1,vI n),(6,vW za4),(7,vO 9 (zb2 au (zax s ps n) (nodes.take j)).length),(9,vI x1),(10,(vIs nodes)),(11,vN nodes.length),(12,vN j),(47,vb false)] h fun a w h=>?_;refine zbn false h rfl nofun (fun _=>?_)
  refine qU (zac (za0 (Jl (htb:=za9) 32 [(0,.j1 j)] [(0,vp 7 0),(1,vI n),(6,vW za4),(7,vO 9 (zb2 au (zax s ps n) (nodes.take j)).length),(10,(vIs nodes)),(11,vN nodes.length),(12,vI ((j:Int)+1))] h fun a w h=>?_)));refine za0 ?_;have hok:okN au x1=false:=okN_no (.inl (by have:=dF hc9;omega));replace h:=h.conv (f':=F.of [(0,vp 7 0),(1,vI n),(6,vW za4),(7,vO 9 (zb2 au (zax s ps n) (nodes.take (j+1))).length),(10,(vIs nodes)),(11,vN nodes.length),(12,vI ((j:Int)+1))] [(7,(bxS s ps au fu ot)),(1,.mp (mpL s ps (lsF au ls n (nodes.take (j+1))))),(2,.mp (mpE s es)),(3,.mp (mpP fs)),(4,.mp (mpP sc)),(9,.row 3 1 ((zb2 au (zax s ps n) (nodes.take (j+1))).map zad))]) (by rw [<- (ftn_no hx1 (by rw [hok];rfl):(zb2 au (zax s ps n) (nodes.take j))=(zb2 au (zax s ps n) (nodes.take (j+1)))),<- (lsF_no hx1 hok:(lsF au ls n (nodes.take j))=(lsF au ls n (nodes.take (j+1))))]);refine zag (x:=j) (y:=j+1) h ?_ ?_
  ·have:=zak hx1;show j+1<=nodes.length;omega
  show nodes.length - (j+1)<nodes.length - j;have:=zak hx1;omega
 refine wp_exit (zaa (zaa (za5 (za0 (Jp (htb:=za9) 32 [] [(6,vO 9 (zb2 au (zax s ps n) (nodes.take j)).length)] h fun a w h=>?_)))));refine qV ?_;replace h:=h.conv (f':=F.of [(6,vO 9 (zb2 au (zax s ps n) nodes).length)] [(7,(bxS s ps au fu ot)),(1,.mp (mpL s ps (lsF au ls n nodes))),(2,.mp (mpE s es)),(3,.mp (mpP fs)),(4,.mp (mpP sc)),(9,.row 3 1 ((zb2 au (zax s ps n) nodes).map zad))]) (by rw [show nodes.take j=nodes from List.take_of_length_le (by have:=dF hc10;omega)]);replace h:=pubSK 9 1 3 ((zb2 au (zax s ps n) nodes).map zad) [(6,(vIs (zb2 au (zax s ps n) nodes)))] [(7,(bxS s ps au fu ot)),(1,.mp (mpL s ps (lsF au ls n nodes))),(2,.mp (mpE s es)),(3,.mp (mpP fs)),(4,.mp (mpP sc))] h rfl (by kernel_rfl) (show zcj _ [(zb2 au (zax s ps n) nodes).length] from ⟨by first | exact (List.length_map _).symm | (simp;done) | (simp;omega),trivial⟩) trivial;refine rT (.c (cIs (zb2 au (zax s ps n) nodes))) h rfl ?_;rfl
theorem qf1_0:za6 Tryz.prog 149:=za6.mk' (by kernel_rfl)
theorem qf1_4:za6 Tryz.prog 50:=za6.mk' (by kernel_rfl)
theorem qf1_6:ElZ Tryz.prog 174 171 3:=ElZ.mk' Tryz.underlying174 _ _ rfl rfl (by kernel_rfl) (by kernel_rfl) (by kernel_rfl) (by decide)
theorem qf1_7:ElT Tryz.prog 174 171 3 24:=ElT.mk' Tryz.underlying174 _ _ rfl rfl (by kernel_rfl) (by kernel_rfl) (by kernel_rfl) (by decide) (by decide)
theorem hrn_in {s:zan} {x:StD} (hc:(zbw s).2=true) (hf:zbu s x=true):∀ j,j<=(wdl s s.vars.length).length->0<=hrn s x j/\hrn s x j<prd ((wdl s s.vars.length).take j)
 | 0,_=>⟨Int.le_refl _,by rw [List.take_zero];exact (by decide:(0:Int)<1)⟩
 | j+1,h=>by
  obtain ⟨h1,h2⟩:=hrn_in hc hf j (by omega)
  have hw:(wdl s s.vars.length)[j]?=some ((wdl s s.vars.length)[j]'(by omega)):=List.getElem?_eq_getElem _
  obtain ⟨d1,d2⟩:=dgN_in hc hf hw
  obtain ⟨e1,e2⟩:=hrn_step h1 h2 d1 d2
  rw [<- hrn_at hw,zfz hw]
  exact ⟨by omega,e2⟩
theorem nmT_in (s:zan) (x:StD):0<=(nmT s x).1/\(nmT s x).1<=1048576:=by
 unfold nmT
 split
 ·rename_i h
  have h1:=hrn_in h.1 h.2 (s.procs.length+s.vars.length) (by rw [zff];exact Nat.le_refl _)
  rw [List.take_of_length_le (by rw [zff];exact Nat.le_refl _)] at h1
  have h2:=fit_prd h.1 h.2
  show 0<=hrn s x _/\hrn s x _<=1048576
  omega
 ·exact ⟨Int.le_refl _,by decide⟩
theorem nmN_in (s:zan) (e:zar):InI (nmN s e):=by have:=nmT_in s e.to_;unfold nmN InI;omega
theorem edg_len {s:zan} {L:Nat} (hs:zb1 L s) (n:Int):(zbm s n).length<=20971521:=by
 unfold zbm edT
 split
 ·rename_i h
  have h1:=egN_len hs h.1 h.2 s.acts.length
  have h2:=egP_len s (zcz s n).1 (-1) [[]]
  have h3:=hs.acts
  rw [List.length_append]
  simp only [List.length_cons,List.length_nil] at h2
  omega
 ·exact Nat.zero_le _
section
variable {s:zan} {ps:List zb4} {au:zcy} {nodes:List Int} {es:List zar} {e:zar} {ls:List Int}
theorem mvE_len:(mvE s ps au nodes e).length<=nodes.length:=by unfold mvE;rw [List.length_map];exact ziq _ _ _
theorem mvs_len:∀ (es:List zar),(es.flatMap (mvE s ps au nodes)).length<=es.length*nodes.length
 | []=>Nat.zero_le _
 | e :: es=>by
  have h1:=mvs_len es
  have h2:=mvE_len (s:=s) (ps:=ps) (au:=au) (nodes:=nodes) (e:=e)
  rw [List.flatMap_cons,List.length_append,List.length_cons,Nat.succ_mul];omega
theorem mvs_at {j:Nat} (h:es[j]?=some e):(es.take j).flatMap (mvE s ps au nodes)++mvE s ps au nodes e=(es.take (j+1)).flatMap (mvE s ps au nodes):=by rw [List.take_add_one,h,List.flatMap_append];simp
theorem lsE_at {j:Nat} (h:es[j]?=some e):lsF au ((es.take j).foldl (lsE s au nodes) ls) (nmN s e) nodes=(es.take (j+1)).foldl (lsE s au nodes) ls:=by rw [List.take_add_one,h,List.foldl_append];rfl
theorem kin_lsM (hls:zha ls):∀ (es:List zar),zha (es.foldl (lsE s au nodes) ls):=by
 intro es
 induction es generalizing ls with
 | nil=>exact hls
 | cons e es ih=>exact ih (kin_lsF hls (nmN_in s e))
theorem nodA_get {p:PrD} {k:Nat} (hk:p.nd=(k:Int)) (h:p.nd<(au.nodes.length:Int)):au.nodes[k]?=some (zbh au p.nd):=by
 unfold zbh
 rw [hk,show ((k:Int)).toNat=k by omega,List.getElem?_eq_getElem (by omega)];rfl
theorem nodA_ok (h:zda au) (k:Int):(zbh au k).next.length<=1000:=by
 unfold zbh
 cases hx:au.nodes[k.toNat]? with
 | none=>exact Nat.zero_le _
 | some x=>exact (h.node x (List.mem_of_getElem? hx)).2.2
theorem movT_len {L:Nat} (hs:zb1 L s) (hau:zda au) (p:PrD):(zb6 s ps au p).length<=20971521000:=by
 have h1:=mvs_len (s:=s) (ps:=ps) (au:=au) (nodes:=(zbh au p.nd).next) (zbm s p.st)
 have h2:=Nat.mul_le_mul (edg_len hs p.st) (nodA_ok hau p.nd)
 unfold zb6;omega
end
theorem SMoves (s:zan) (ps:List zb4) (au:zcy) (fu:Int) (ot:Bool) (ls es:List Int) (fs sc:List PrD) (p:PrD) {L:Nat} (hs:zb1 L s) (hL:L<=1000) (hp:zc2 s) (hps:∀ p ∈ ps,zec L p) (hpl:ps.length<=1000) (hau:zda au) (hls:zha ls) (hes:zha es) (hst:InI p.st) (hpn:okN au p.nd=true):Fn Tryz.prog 139 [(7,(bxS s ps au fu ot)),(1,.mp (mpL s ps ls)),(2,.mp (mpE s es)),(3,.mp (mpP fs)),(4,.mp (mpP sc))] [vp 7 0,vG [cI p.st,cI p.nd]] (vS 3 ((zb6 s ps au p).map MvD.d)) [(7,(bxS s ps au fu ot)),(1,.mp (mpL s ps (lsM s au ls p))),(2,.mp (mpE s (zcc es p.st))),(3,.mp (mpP fs)),(4,.mp (mpP sc))]:=by
 have hp0:0<=p.nd/\p.nd<(au.nodes.length:Int):=by { have:=hpn;unfold okN at this;simpa using this }
 obtain ⟨hp0,hp1⟩:=hp0;have lnx:=nodA_ok hau p.nd;have led:=edg_len hs p.st;refine Fn.body Tryz.func139 rfl 61 rfl fun w H B a h=>?_
 refine Jq (htb:=za9) 30 [] [(0,vp 7 0),(3,vp 30 0),(4,vW za4)] [(7,(bxS s ps au fu ot)),(1,.mp (mpL s ps ls)),(2,.mp (mpE s es)),(3,.mp (mpP fs)),(4,.mp (mpP sc)),(30,.box [cI p.st,cI p.nd])] h fun a w h=>?_;refine Jp (htb:=za9) 31 [] [(0,vp 7 0),(3,vp 30 0),(4,vW za4),(5,vW za4)] h fun a w h=>?_;refine qW ?_;obtain ⟨k,hkk⟩:∃ k_:Nat,p.nd=(k_:Int):=⟨_,(Int.toNat_of_nonneg (by omega)).symm⟩;replace h:=h.conv (f':=F.of [(0,vp 7 0),(3,vp 30 0),(4,vW za4),(5,vW za4)] [(7,(bxS s ps au fu ot)),(1,.mp (mpL s ps ls)),(2,.mp (mpE s es)),(3,.mp (mpP fs)),(4,.mp (mpP sc)),(30,.box [cI p.st,cI (k:Int)])]) (by rw [hkk]);refine Jq (htb:=za9) 31 [(3,.call (SSteps s ps au fu ot ls es fs sc p.st hs hL hp hes hst) qf1_0),(4,.len (za3 3 zar.d (zbm s p.st)))] [(0,vp 7 0),(3,vp 30 0),(4,vW za4),(5,vW za4),(15,vS 3 ((zbm s p.st).map zar.d)),(16,vI ((zbm s p.st).length:Int)),(17,vI 0)] [(7,(bxS s ps au fu ot)),(1,.mp (mpL s ps ls)),(2,.mp (mpE s (zcc es p.st))),(3,.mp (mpP fs)),(4,.mp (mpP sc)),(30,.box [cI p.st,cI (k:Int)])] h fun a w h=>?_;refine qZ ?_;replace h:=ze5 5 0 31 3 171 (vW za4) [(0,vp 7 0),(3,vp 30 0),(4,vW za4),(5,vO 31 0),(15,vS 3 ((zbm s p.st).map zar.d)),(16,vI ((zbm s p.st).length:Int)),(17,vI 0)] [(7,(bxS s ps au fu ot)),(1,.mp (mpL s ps ls)),(2,.mp (mpE s (zcc es p.st))),(3,.mp (mpP fs)),(4,.mp (mpP sc)),(30,.box [cI p.st,cI (k:Int)]),(31,.row 171 3 ([].map MvD.d))] h (by kernel_rfl) rfl rfl;replace h:=h.conv (f':=F.of [(0,vp 7 0),(3,vp 30 0),(4,vW za4),(5,vO 31 (((zbm s p.st).take 0).flatMap (mvE s ps au (zbh au p.nd).next)).length),(15,vS 3 ((zbm s p.st).map zar.d)),(16,vI ((zbm s p.st).length:Int)),(17,vI 0)] [(7,(bxS s ps au fu ot)),(1,.mp (mpL s ps (((zbm s p.st).take 0).foldl (lsE s au (zbh au p.nd).next) ls))),(2,.mp (mpE s (zcc es p.st))),(3,.mp (mpP fs)),(4,.mp (mpP sc)),(30,.box [cI p.st,cI (k:Int)]),(31,.row 171 3 ((((zbm s p.st).take 0).flatMap (mvE s ps au (zbh au p.nd).next)).map MvD.d))]) (rfl)
 refine zb5 (ι:=(Nat)) (fun i=>i<=(zbm s p.st).length)
   (fun i=>[(0,vp 7 0),(3,vp 30 0),(4,vW za4),(5,vO 31 (((zbm s p.st).take i).flatMap (mvE s ps au (zbh au p.nd).next)).length),(15,vS 3 ((zbm s p.st).map zar.d)),(16,vI ((zbm s p.st).length:Int)),(17,vN i)])
   (fun i=>[(7,(bxS s ps au fu ot)),(1,.mp (mpL s ps (((zbm s p.st).take i).foldl (lsE s au (zbh au p.nd).next) ls))),(2,.mp (mpE s (zcc es p.st))),(3,.mp (mpP fs)),(4,.mp (mpP sc)),(30,.box [cI p.st,cI (k:Int)]),(31,.row 171 3 ((((zbm s p.st).take i).flatMap (mvE s ps au (zbh au p.nd).next)).map MvD.d))])
   (fun i=>(zbm s p.st).length - i) 0 ?_ h (by kernel_rfl) (by kernel_rfl) ?_
 ·exact Nat.zero_le _
 clear h;rintro i a w hI h;have hkl:zha (((zbm s p.st).take i).foldl (lsE s au (zbh au p.nd).next) ls):=kin_lsM hls _;have hnd:au.nodes[k]?=some (zbh au p.nd):=nodA_get hkk hp1;have lmi:=mvs_len (s:=s) (ps:=ps) (au:=au) (nodes:=(zbh au p.nd).next) ((zbm s p.st).take i);have lti:((zbm s p.st).take i).length<=20971521:=by have:((zbm s p.st).take i).length<=(zbm s p.st).length:=by { rw [List.length_take];omega };omega
 have lmm:=Nat.mul_le_mul lti lnx;refine Jp (htb:=za9) 32 [] [(0,vp 7 0),(3,vp 30 0),(4,vW za4),(5,vO 31 (((zbm s p.st).take i).flatMap (mvE s ps au (zbh au p.nd).next)).length),(15,vS 3 ((zbm s p.st).map zar.d)),(16,vI ((zbm s p.st).length:Int)),(17,vN i),(18,vb (decide ((i:Int)<((zbm s p.st).length:Int))))] h fun a w h=>?_;refine qW ?_;refine zap ((i:Int)<((zbm s p.st).length:Int)) h (fun hc1 hc1'=>?_) (fun hc4 hc4'=>?_)
 ·refine qU (za0 (qW (qZ ?_)));obtain ⟨x2,hx2⟩:=gl (zbm s p.st) i;refine Jq (htb:=za9) 32 [(0,.g (xD 19 15 ol1_19 (zab hx2 (f:=zar.d)) (OV.tmp 17 _)))] [(0,vp 7 0),(3,vp 30 0),(4,vW za4),(5,vO 31 (((zbm s p.st).take i).flatMap (mvE s ps au (zbh au p.nd).next)).length),(7,vp 32 0),(15,vS 3 ((zbm s p.st).map zar.d)),(16,vI ((zbm s p.st).length:Int)),(17,vN i)] [(7,(bxS s ps au fu ot)),(1,.mp (mpL s ps (((zbm s p.st).take i).foldl (lsE s au (zbh au p.nd).next) ls))),(2,.mp (mpE s (zcc es p.st))),(3,.mp (mpP fs)),(4,.mp (mpP sc)),(30,.box [cI p.st,cI (k:Int)]),(31,.row 171 3 ((((zbm s p.st).take i).flatMap (mvE s ps au (zbh au p.nd).next)).map MvD.d)),(32,.box [cI x2.act,cIs x2.to_.locs,cZs x2.to_.vals])] h fun a w h=>?_;refine Jp (htb:=za9) 33 [(1,.g (Op.nilQ (d:=23) (t:=22) (n:=7) (o:=0))),(6,.call (ONumber s x2.to_ (L:=L) (M:=L+3) hs hL hp (by omega) (ed_ok hs hp (st19_can s p.st) hx2)) ol1_11)] [(0,vp 7 0),(3,vp 30 0),(4,vW za4),(5,vO 31 (((zbm s p.st).take i).flatMap (mvE s ps au (zbh au p.nd).next)).length),(7,vp 32 0),(8,vI (nmN s x2)),(15,vS 3 ((zbm s p.st).map zar.d)),(16,vI ((zbm s p.st).length:Int)),(17,vN i)] h fun a w h=>?_;refine Jq (htb:=za9) 33 [(3,.g (Op.nilQ (d:=34) (t:=33) (n:=7) (o:=0))),(9,.g (xD 40 37 qe1_4 (zab hnd (f:=zbd.d)) (OV.tmp 39 _))),(12,.g (Op.callI (d:=43) (SFitsX s ps au fu ot (((zbm s p.st).take i).foldl (lsE s au (zbh au p.nd).next) ls) (zcc es p.st) fs sc (nmN s x2) (zbh au p.nd).next hs hL hp hps hpl hau hkl (nmN_in s x2) (by omega)) qf1_4 [7,2,3,4] (tys:=#[113,3,44]) (OVs.cons (OV.tmp 31 _) (OVs.cons (OV.tmp 32 _) (OVs.cons (OV.tmp 42 _) (OVs.nil)))) rfl)),(13,.len (za3 1 zad (zb2 au (zax s ps (nmN s x2)) (zbh au p.nd).next)))] [(0,vp 7 0),(3,vp 30 0),(4,vW za4),(5,vO 31 (((zbm s p.st).take i).flatMap (mvE s ps au (zbh au p.nd).next)).length),(7,vp 32 0),(8,vI (nmN s x2)),(15,vS 3 ((zbm s p.st).map zar.d)),(16,vI ((zbm s p.st).length:Int)),(17,vN i),(43,(vIs (zb2 au (zax s ps (nmN s x2)) (zbh au p.nd).next))),(44,vI ((zb2 au (zax s ps (nmN s x2)) (zbh au p.nd).next).length:Int)),(45,vI 0)] [(7,(bxS s ps au fu ot)),(1,.mp (mpL s ps (lsF au (((zbm s p.st).take i).foldl (lsE s au (zbh au p.nd).next) ls) (nmN s x2) (zbh au p.nd).next))),(2,.mp (mpE s (zcc es p.st))),(3,.mp (mpP fs)),(4,.mp (mpP sc)),(30,.box [cI p.st,cI (k:Int)]),(31,.row 171 3 ((((zbm s p.st).take i).flatMap (mvE s ps au (zbh au p.nd).next)).map MvD.d)),(32,.box [cI x2.act,cIs x2.to_.locs,cZs x2.to_.vals])] h fun a w h=>?_;refine qZ ?_;replace h:=h.conv (f':=F.of [(0,vp 7 0),(3,vp 30 0),(4,vW za4),(5,vO 31 ((((zbm s p.st).take i).flatMap (mvE s ps au (zbh au p.nd).next))++((zb2 au (zax s ps (nmN s x2)) (zbh au p.nd).next).take 0).map fun k_=>(⟨x2.act,⟨nmN s x2,k_⟩⟩:MvD)).length),(7,vp 32 0),(8,vI (nmN s x2)),(15,vS 3 ((zbm s p.st).map zar.d)),(16,vI ((zbm s p.st).length:Int)),(17,vN i),(43,(vIs (zb2 au (zax s ps (nmN s x2)) (zbh au p.nd).next))),(44,vI ((zb2 au (zax s ps (nmN s x2)) (zbh au p.nd).next).length:Int)),(45,vI 0)] [(7,(bxS s ps au fu ot)),(1,.mp (mpL s ps (lsF au (((zbm s p.st).take i).foldl (lsE s au (zbh au p.nd).next) ls) (nmN s x2) (zbh au p.nd).next))),(2,.mp (mpE s (zcc es p.st))),(3,.mp (mpP fs)),(4,.mp (mpP sc)),(30,.box [cI p.st,cI (k:Int)]),(31,.row 171 3 (((((zbm s p.st).take i).flatMap (mvE s ps au (zbh au p.nd).next))++((zb2 au (zax s ps (nmN s x2)) (zbh au p.nd).next).take 0).map fun k_=>(⟨x2.act,⟨nmN s x2,k_⟩⟩:MvD)).map MvD.d)),(32,.box [cI x2.act,cIs x2.to_.locs,cZs x2.to_.vals])]) (by simp only [List.take_zero,List.map_nil,List.append_nil])
  refine zb5 (ι:=(Nat)) (fun j=>j<=(zb2 au (zax s ps (nmN s x2)) (zbh au p.nd).next).length)
    (fun j=>[(0,vp 7 0),(3,vp 30 0),(4,vW za4),(5,vO 31 ((((zbm s p.st).take i).flatMap (mvE s ps au (zbh au p.nd).next))++((zb2 au (zax s ps (nmN s x2)) (zbh au p.nd).next).take j).map fun k_=>(⟨x2.act,⟨nmN s x2,k_⟩⟩:MvD)).length),(7,vp 32 0),(8,vI (nmN s x2)),(15,vS 3 ((zbm s p.st).map zar.d)),(16,vI ((zbm s p.st).length:Int)),(17,vN i),(43,(vIs (zb2 au (zax s ps (nmN s x2)) (zbh au p.nd).next))),(44,vI ((zb2 au (zax s ps (nmN s x2)) (zbh au p.nd).next).length:Int)),(45,vN j)])
    (fun j=>[(7,(bxS s ps au fu ot)),(1,.mp (mpL s ps (lsF au (((zbm s p.st).take i).foldl (lsE s au (zbh au p.nd).next) ls) (nmN s x2) (zbh au p.nd).next))),(2,.mp (mpE s (zcc es p.st))),(3,.mp (mpP fs)),(4,.mp (mpP sc)),(30,.box [cI p.st,cI (k:Int)]),(31,.row 171 3 (((((zbm s p.st).take i).flatMap (mvE s ps au (zbh au p.nd).next))++((zb2 au (zax s ps (nmN s x2)) (zbh au p.nd).next).take j).map fun k_=>(⟨x2.act,⟨nmN s x2,k_⟩⟩:MvD)).map MvD.d)),(32,.box [cI x2.act,cIs x2.to_.locs,cZs x2.to_.vals])])
    (fun j=>(zb2 au (zax s ps (nmN s x2)) (zbh au p.nd).next).length - j) 0 ?_ h (by kernel_rfl) (by kernel_rfl) ?_
  ·exact Nat.zero_le _
  clear h;rintro j a w hI h;have lfn:=ziq au (zax s ps (nmN s x2)) (zbh au p.nd).next;have ljj:((zb2 au (zax s ps (nmN s x2)) (zbh au p.nd).next).take j).length<=(zb2 au (zax s ps (nmN s x2)) (zbh au p.nd).next).length:=by rw [List.length_take];omega
  have lmj:((((zbm s p.st).take i).flatMap (mvE s ps au (zbh au p.nd).next))++((zb2 au (zax s ps (nmN s x2)) (zbh au p.nd).next).take j).map fun k_=>(⟨x2.act,⟨nmN s x2,k_⟩⟩:MvD)).length<=30000000000:=by rw [List.length_append,List.length_map];omega
  refine Jp (htb:=za9) 33 [] [(0,vp 7 0),(3,vp 30 0),(4,vW za4),(5,vO 31 ((((zbm s p.st).take i).flatMap (mvE s ps au (zbh au p.nd).next))++((zb2 au (zax s ps (nmN s x2)) (zbh au p.nd).next).take j).map fun k_=>(⟨x2.act,⟨nmN s x2,k_⟩⟩:MvD)).length),(7,vp 32 0),(8,vI (nmN s x2)),(15,vS 3 ((zbm s p.st).map zar.d)),(16,vI ((zbm s p.st).length:Int)),(17,vN i),(43,(vIs (zb2 au (zax s ps (nmN s x2)) (zbh au p.nd).next))),(44,vI ((zb2 au (zax s ps (nmN s x2)) (zbh au p.nd).next).length:Int)),(45,vN j),(46,vb (decide ((j:Int)<((zb2 au (zax s ps (nmN s x2)) (zbh au p.nd).next).length:Int))))] h fun a w h=>?_;refine qW ?_;refine zap ((j:Int)<((zb2 au (zax s ps (nmN s x2)) (zbh au p.nd).next).length:Int)) h (fun hc2 hc2'=>?_) (fun hc3 hc3'=>?_)
  ·refine qU (za0 (qW (qZ ?_)));obtain ⟨x5,hx5⟩:=gl (zb2 au (zax s ps (nmN s x2)) (zbh au p.nd).next) j;refine Jp (htb:=za9) 33 [(0,.g (xD 47 43 zdo (zab hx5 (f:=zad)) (OV.tmp 45 _)))] [(0,vp 7 0),(3,vp 30 0),(4,vW za4),(5,vO 31 ((((zbm s p.st).take i).flatMap (mvE s ps au (zbh au p.nd).next))++((zb2 au (zax s ps (nmN s x2)) (zbh au p.nd).next).take j).map fun k_=>(⟨x2.act,⟨nmN s x2,k_⟩⟩:MvD)).length),(7,vp 32 0),(8,vI (nmN s x2)),(11,vI x5),(15,vS 3 ((zbm s p.st).map zar.d)),(16,vI ((zbm s p.st).length:Int)),(17,vN i),(43,(vIs (zb2 au (zax s ps (nmN s x2)) (zbh au p.nd).next))),(44,vI ((zb2 au (zax s ps (nmN s x2)) (zbh au p.nd).next).length:Int)),(45,vN j)] h fun a w h=>?_;refine Jn (htb:=za9) 33 [(7,.g (bD 56 ([(MvD.mk x2.act (PrD.mk (nmN s x2) x5))].map MvD.d) [(55,vG [cI x2.act,cI (nmN s x2),cI x5])] qf1_6 (.cons (i:=0) (OV.tmp 55 _) (.nil)) (by kernel_rfl) (by simp [MvD.d]))),(8,.g (Op.appOD (d:=57) (t:=49) (u:=56) (n:=31) (n':=33) (len:=((((zbm s p.st).take i).flatMap (mvE s ps au (zbh au p.nd).next))++((zb2 au (zax s ps (nmN s x2)) (zbh au p.nd).next).take j).map fun k_=>(⟨x2.act,⟨nmN s x2,k_⟩⟩:MvD)).length) (len':=(((((zbm s p.st).take i).flatMap (mvE s ps au (zbh au p.nd).next))++((zb2 au (zax s ps (nmN s x2)) (zbh au p.nd).next).take j).map fun k_=>(⟨x2.act,⟨nmN s x2,k_⟩⟩:MvD))++[(MvD.mk x2.act (PrD.mk (nmN s x2) x5))]).length) (rows:=((((zbm s p.st).take i).flatMap (mvE s ps au (zbh au p.nd).next))++((zb2 au (zax s ps (nmN s x2)) (zbh au p.nd).next).take j).map fun k_=>(⟨x2.act,⟨nmN s x2,k_⟩⟩:MvD)).map MvD.d) (rows2:=[(MvD.mk x2.act (PrD.mk (nmN s x2) x5))].map MvD.d) (rows':=(((((zbm s p.st).take i).flatMap (mvE s ps au (zbh au p.nd).next))++((zb2 au (zax s ps (nmN s x2)) (zbh au p.nd).next).take j).map fun k_=>(⟨x2.act,⟨nmN s x2,k_⟩⟩:MvD))++[(MvD.mk x2.act (PrD.mk (nmN s x2) x5))]).map MvD.d) qf1_7 (by first | exact (List.length_map _).symm | simp) (by first | (rw [List.length_append,List.length_map];done) | (simp;done) | (simp;omega)) (by simp) (by simp [MvD.d]) (by first | omega | (simp at *;done) | (simp at *;omega))))] [(0,vp 7 0),(3,vp 30 0),(4,vW za4),(5,vO 33 (((((zbm s p.st).take i).flatMap (mvE s ps au (zbh au p.nd).next))++((zb2 au (zax s ps (nmN s x2)) (zbh au p.nd).next).take j).map fun k_=>(⟨x2.act,⟨nmN s x2,k_⟩⟩:MvD))++[(MvD.mk x2.act (PrD.mk (nmN s x2) x5))]).length),(7,vp 32 0),(8,vI (nmN s x2)),(15,vS 3 ((zbm s p.st).map zar.d)),(16,vI ((zbm s p.st).length:Int)),(17,vN i),(43,(vIs (zb2 au (zax s ps (nmN s x2)) (zbh au p.nd).next))),(44,vI ((zb2 au (zax s ps (nmN s x2)) (zbh au p.nd).next).length:Int)),(45,vN j)] [(7,(bxS s ps au fu ot)),(1,.mp (mpL s ps (lsF au (((zbm s p.st).take i).foldl (lsE s au (zbh au p.nd).next) ls) (nmN s x2) (zbh au p.nd).next))),(2,.mp (mpE s (zcc es p.st))),(3,.mp (mpP fs)),(4,.mp (mpP sc)),(30,.box [cI p.st,cI (k:Int)]),(32,.box [cI x2.act,cIs x2.to_.locs,cZs x2.to_.vals]),(33,.row 171 3 ((((((zbm s p.st).take i).flatMap (mvE s ps au (zbh au p.nd).next))++((zb2 au (zax s ps (nmN s x2)) (zbh au p.nd).next).take j).map fun k_=>(⟨x2.act,⟨nmN s x2,k_⟩⟩:MvD))++[(MvD.mk x2.act (PrD.mk (nmN s x2) x5))]).map MvD.d))] h fun a w h=>?_;refine zac (za0 (Jl (htb:=za9) 34 [(0,.j1 j)] [(0,vp 7 0),(3,vp 30 0),(4,vW za4),(5,vO 33 (((((zbm s p.st).take i).flatMap (mvE s ps au (zbh au p.nd).next))++((zb2 au (zax s ps (nmN s x2)) (zbh au p.nd).next).take j).map fun k_=>(⟨x2.act,⟨nmN s x2,k_⟩⟩:MvD))++[(MvD.mk x2.act (PrD.mk (nmN s x2) x5))]).length),(7,vp 32 0),(8,vI (nmN s x2)),(15,vS 3 ((zbm s p.st).map zar.d)),(16,vI ((zbm s p.st).length:Int)),(17,vN i),(43,(vIs (zb2 au (zax s ps (nmN s x2)) (zbh au p.nd).next))),(44,vI ((zb2 au (zax s ps (nmN s x2)) (zbh au p.nd).next).length:Int)),(45,vI ((j:Int)+1))] h fun a w h=>?_));refine za0 ?_;have hnw:((((zbm s p.st).take i).flatMap (mvE s ps au (zbh au p.nd).next))++((zb2 au (zax s ps (nmN s x2)) (zbh au p.nd).next).take (j+1)).map fun k_=>(⟨x2.act,⟨nmN s x2,k_⟩⟩:MvD))=((((zbm s p.st).take i).flatMap (mvE s ps au (zbh au p.nd).next))++((zb2 au (zax s ps (nmN s x2)) (zbh au p.nd).next).take j).map fun k_=>(⟨x2.act,⟨nmN s x2,k_⟩⟩:MvD))++[(⟨x2.act,⟨nmN s x2,x5⟩⟩:MvD)]:=by rw [List.take_add_one,hx5,List.map_append,<- List.append_assoc];rfl
   replace h:=h.conv (f':=F.of [(0,vp 7 0),(3,vp 30 0),(4,vW za4),(5,vO 33 ((((zbm s p.st).take i).flatMap (mvE s ps au (zbh au p.nd).next))++((zb2 au (zax s ps (nmN s x2)) (zbh au p.nd).next).take (j+1)).map fun k_=>(⟨x2.act,⟨nmN s x2,k_⟩⟩:MvD)).length),(7,vp 32 0),(8,vI (nmN s x2)),(15,vS 3 ((zbm s p.st).map zar.d)),(16,vI ((zbm s p.st).length:Int)),(17,vN i),(43,(vIs (zb2 au (zax s ps (nmN s x2)) (zbh au p.nd).next))),(44,vI ((zb2 au (zax s ps (nmN s x2)) (zbh au p.nd).next).length:Int)),(45,vI ((j:Int)+1))] [(7,(bxS s ps au fu ot)),(1,.mp (mpL s ps (lsF au (((zbm s p.st).take i).foldl (lsE s au (zbh au p.nd).next) ls) (nmN s x2) (zbh au p.nd).next))),(2,.mp (mpE s (zcc es p.st))),(3,.mp (mpP fs)),(4,.mp (mpP sc)),(30,.box [cI p.st,cI (k:Int)]),(32,.box [cI x2.act,cIs x2.to_.locs,cZs x2.to_.vals]),(33,.row 171 3 (((((zbm s p.st).take i).flatMap (mvE s ps au (zbh au p.nd).next))++((zb2 au (zax s ps (nmN s x2)) (zbh au p.nd).next).take (j+1)).map fun k_=>(⟨x2.act,⟨nmN s x2,k_⟩⟩:MvD)).map MvD.d))]) (by rw [hnw];try rfl);replace h:=zd9 33 31 [(0,vp 7 0),(3,vp 30 0),(4,vW za4),(5,vO 31 ((((zbm s p.st).take i).flatMap (mvE s ps au (zbh au p.nd).next))++((zb2 au (zax s ps (nmN s x2)) (zbh au p.nd).next).take (j+1)).map fun k_=>(⟨x2.act,⟨nmN s x2,k_⟩⟩:MvD)).length),(7,vp 32 0),(8,vI (nmN s x2)),(15,vS 3 ((zbm s p.st).map zar.d)),(16,vI ((zbm s p.st).length:Int)),(17,vN i),(43,(vIs (zb2 au (zax s ps (nmN s x2)) (zbh au p.nd).next))),(44,vI ((zb2 au (zax s ps (nmN s x2)) (zbh au p.nd).next).length:Int)),(45,vI ((j:Int)+1))] [(7,(bxS s ps au fu ot)),(1,.mp (mpL s ps (lsF au (((zbm s p.st).take i).foldl (lsE s au (zbh au p.nd).next) ls) (nmN s x2) (zbh au p.nd).next))),(2,.mp (mpE s (zcc es p.st))),(3,.mp (mpP fs)),(4,.mp (mpP sc)),(30,.box [cI p.st,cI (k:Int)]),(32,.box [cI x2.act,cIs x2.to_.locs,cZs x2.to_.vals]),(31,.row 171 3 (((((zbm s p.st).take i).flatMap (mvE s ps au (zbh au p.nd).next))++((zb2 au (zax s ps (nmN s x2)) (zbh au p.nd).next).take (j+1)).map fun k_=>(⟨x2.act,⟨nmN s x2,k_⟩⟩:MvD)).map MvD.d))] h;refine zag (x:=j) (y:=j+1) h ?_ ?_
   ·have:=zak hx5;show j+1<=(zb2 au (zax s ps (nmN s x2)) (zbh au p.nd).next).length;omega
   show (zb2 au (zax s ps (nmN s x2)) (zbh au p.nd).next).length - (j+1)<(zb2 au (zax s ps (nmN s x2)) (zbh au p.nd).next).length - j;have:=zak hx5;omega
  refine wp_exit (zaa (zaa (za5 (zac (za0 (Jn (htb:=za9) 34 [(0,.j1 i)] [(0,vp 7 0),(3,vp 30 0),(4,vW za4),(5,vO 31 ((((zbm s p.st).take i).flatMap (mvE s ps au (zbh au p.nd).next))++((zb2 au (zax s ps (nmN s x2)) (zbh au p.nd).next).take j).map fun k_=>(⟨x2.act,⟨nmN s x2,k_⟩⟩:MvD)).length),(15,vS 3 ((zbm s p.st).map zar.d)),(16,vI ((zbm s p.st).length:Int)),(17,vI ((i:Int)+1))] [(7,(bxS s ps au fu ot)),(1,.mp (mpL s ps (lsF au (((zbm s p.st).take i).foldl (lsE s au (zbh au p.nd).next) ls) (nmN s x2) (zbh au p.nd).next))),(2,.mp (mpE s (zcc es p.st))),(3,.mp (mpP fs)),(4,.mp (mpP sc)),(30,.box [cI p.st,cI (k:Int)]),(31,.row 171 3 (((((zbm s p.st).take i).flatMap (mvE s ps au (zbh au p.nd).next))++((zb2 au (zax s ps (nmN s x2)) (zbh au p.nd).next).take j).map fun k_=>(⟨x2.act,⟨nmN s x2,k_⟩⟩:MvD)).map MvD.d))] h fun a w h=>?_))))));refine za0 ?_;replace h:=h.conv (f':=F.of [(0,vp 7 0),(3,vp 30 0),(4,vW za4),(5,vO 31 (((zbm s p.st).take (i+1)).flatMap (mvE s ps au (zbh au p.nd).next)).length),(15,vS 3 ((zbm s p.st).map zar.d)),(16,vI ((zbm s p.st).length:Int)),(17,vI ((i:Int)+1))] [(7,(bxS s ps au fu ot)),(1,.mp (mpL s ps (((zbm s p.st).take (i+1)).foldl (lsE s au (zbh au p.nd).next) ls))),(2,.mp (mpE s (zcc es p.st))),(3,.mp (mpP fs)),(4,.mp (mpP sc)),(30,.box [cI p.st,cI (k:Int)]),(31,.row 171 3 ((((zbm s p.st).take (i+1)).flatMap (mvE s ps au (zbh au p.nd).next)).map MvD.d))]) (by rw [<- lsE_at hx2,<- mvs_at hx2,show ((zb2 au (zax s ps (nmN s x2)) (zbh au p.nd).next).take j)=(zb2 au (zax s ps (nmN s x2)) (zbh au p.nd).next) from List.take_of_length_le (by have:=dF hc3;omega)];rfl);refine zag (x:=i) (y:=i+1) h ?_ ?_
  ·have:=zak hx2;show i+1<=(zbm s p.st).length;omega
  show (zbm s p.st).length - (i+1)<(zbm s p.st).length - i;have:=zak hx2;omega
 refine wp_exit (zaa (zaa (za5 (za0 (Jq (htb:=za9) 34 [] [(4,vO 31 (((zbm s p.st).take i).flatMap (mvE s ps au (zbh au p.nd).next)).length)] [(7,(bxS s ps au fu ot)),(1,.mp (mpL s ps (((zbm s p.st).take i).foldl (lsE s au (zbh au p.nd).next) ls))),(2,.mp (mpE s (zcc es p.st))),(3,.mp (mpP fs)),(4,.mp (mpP sc)),(31,.row 171 3 ((((zbm s p.st).take i).flatMap (mvE s ps au (zbh au p.nd).next)).map MvD.d))] h fun a w h=>?_)))));refine qV ?_;replace h:=h.conv (f':=F.of [(4,vO 31 (zb6 s ps au p).length)] [(7,(bxS s ps au fu ot)),(1,.mp (mpL s ps (lsM s au ls p))),(2,.mp (mpE s (zcc es p.st))),(3,.mp (mpP fs)),(4,.mp (mpP sc)),(31,.row 171 3 ((zb6 s ps au p).map MvD.d))]) (by rw [show (zbm s p.st).take i=(zbm s p.st) from List.take_of_length_le (by have:=dF hc4;omega)];rfl);replace h:=pubSK 31 3 171 ((zb6 s ps au p).map MvD.d) [(4,vS 3 ((zb6 s ps au p).map MvD.d))] [(7,(bxS s ps au fu ot)),(1,.mp (mpL s ps (lsM s au ls p))),(2,.mp (mpE s (zcc es p.st))),(3,.mp (mpP fs)),(4,.mp (mpP sc))] h rfl (by kernel_rfl) (show zcj _ [(zb6 s ps au p).length] from ⟨by first | exact (List.length_map _).symm | (simp;done) | (simp;omega),trivial⟩) trivial;refine rT (.c (.d (.sl 3 ((zb6 s ps au p).map MvD.d)))) h rfl ?_;rfl
theorem qg1_0:za6 Tryz.prog 139:=za6.mk' (by kernel_rfl)
theorem qg1_1:za6 Tryz.prog 140:=za6.mk' (by kernel_rfl)
theorem qg1_2:ElZ Tryz.prog 122 176 4:=ElZ.mk' Tryz.underlying122 _ _ rfl rfl (by kernel_rfl) (by kernel_rfl) (by kernel_rfl) (by decide)
theorem qg1_3:ElT Tryz.prog 122 176 4 48:=ElT.mk' Tryz.underlying122 _ _ rfl rfl (by kernel_rfl) (by kernel_rfl) (by kernel_rfl) (by decide) (by decide)
theorem run_eqPr {p q:PrD} (hp:InI p.st/\InI p.nd) (hq:InI q.st/\InI q.nd) (x y:Operand) (w:World) :
  (do eqGuard .eql 121 x y (prV p) (prV q);binOp .eql 121 (prV p) (prV q):Sem Value).run Tryz.prog w = .ok (.bool (decide (p=q))) w:=by
 obtain ⟨lp,hlp⟩:=zgz hp
 obtain ⟨lq,hlq⟩:=zgz hq
 have h1:(eqGuard .eql 121 x y (prV p) (prV q)).run Tryz.prog w = .ok () w:=by
  unfold eqGuard
  simp [prV]
 obtain ⟨r,hr,hiff⟩:=run_equal_deep (P:=Tryz.prog) w (m:=3) (by omega) (k:=121) (by kernel_rfl) (by rw [Tryz.underlying121]) hlp hlq
 have h2:(binOp .eql 121 (prV p) (prV q)).run Tryz.prog w = .ok (.bool (decide (p=q))) w:=by
  show (do pure (Value.bool (<- Op.equal 121 (prV p) (prV q))):Sem Value).run Tryz.prog w=_
  have e:r=decide (p=q):=by
   rw [Bool.eq_iff_iff,hiff,decide_eq_true_eq]
   constructor
   ·intro e
    rw [<- e] at hlq
    exact prV_inj (pairK.inj hlp hlq)
   ·intro e
    rw [e] at hlp
    rw [hlp] at hlq
    exact Option.some.inj hlq
  simp only [Sem.run_bind,hr,Result.andThen_ok,Sem.run_pure,e]
 simp only [Sem.run_bind,h1,Result.andThen_ok,h2]
theorem Op.eqPr {d x y:Nat} {p q:PrD} {ty:TypeId} {pos:String} {af:Array Edge} {gd:Option (Nat × Bool)} (hp:InI p.st/\InI p.nd) (hq:InI q.st/\InI q.nd):zbg Tryz.prog ⟨some d,.binOp .eql 121 (.tmp x) (.tmp y) 121,ty,pos,af,gd⟩ { rs:=[(x,.t (.agg [.d (.raw (.int .i64 p.st)),.d (.raw (.int .i64 p.nd))])),(y,.t (.agg [.d (.raw (.int .i64 q.st)),.d (.raw (.int .i64 q.nd))]))],ws:=[(d,some (vb (decide (p=q))))] } :=
 zbg.value d _ rfl rfl rfl fun e f H B a w hok hr=>by
  have h1:a.eval (.tmp x)=prV p:=(KV.agg2 _ _).eq (hok.slot x _ (hr.1 (x,.t (.agg [.d (.raw (.int .i64 p.st)),.d (.raw (.int .i64 p.nd))])) (by simp)))
  have h2:a.eval (.tmp y)=prV q:=(KV.agg2 _ _).eq (hok.slot y _ (hr.1 (y,.t (.agg [.d (.raw (.int .i64 q.st)),.d (.raw (.int .i64 q.nd))])) (by simp)))
  have h3:=run_eqPr hp hq (.tmp x) (.tmp y) w
  refine ⟨_,?_,DR.raw _ rfl⟩
  generalize a.eval=ρ at h1 h2 ⊢
  simp only [Sem.run_bind] at h3
  simp only [execOp,h1,h2,Sem.run_bind,h3,Result.andThen_ok,Sem.run_pure]
section
variable {s:zan} {ps:List zb4} {au:zcy} {fu:Int} {ot:Bool} {ls es:List Int} {fs sc:List PrD} {way:List WkD} {p:PrD}
theorem bgW_yes (h:decide (1+((zb6 s ps au p).length:Int)<=fu)=true):way++[⟨p,zb6 s ps au p,0⟩]=bgW s ps au ⟨fu,ot,ls,es,fs,sc⟩ way p:=(if_pos h).symm
theorem bgW_no (h:decide (1+((zb6 s ps au p).length:Int)<=fu)=false):way=bgW s ps au ⟨fu,ot,ls,es,fs,sc⟩ way p:=(if_neg (by show ¬decide (1+((zb6 s ps au p).length:Int)<=fu)=true;rw [h];exact Bool.noConfusion)).symm
theorem zfr:(bgS s ps au ⟨fu,ot,ls,es,fs,sc⟩ p).fuel=tkF fu (1+((zb6 s ps au p).length:Int)):=by
 unfold bgS tkS tkF tkB mvS cost
 by_cases h:1+((zb6 s ps au p).length:Int)<=fu
 ·rw [if_pos (decide_eq_true h),if_pos h]
 ·rw [if_neg (by rw [decide_eq_false h];exact Bool.noConfusion),if_neg h]
theorem bg_ot:(bgS s ps au ⟨fu,ot,ls,es,fs,sc⟩ p).out=tkO fu ot (1+((zb6 s ps au p).length:Int)):=by
 unfold bgS tkS tkO tkB mvS cost
 by_cases h:1+((zb6 s ps au p).length:Int)<=fu
 ·rw [if_pos (decide_eq_true h),if_pos h]
 ·rw [if_neg (by rw [decide_eq_false h];exact Bool.noConfusion),if_neg h]
theorem bg_ls:(bgS s ps au ⟨fu,ot,ls,es,fs,sc⟩ p).ls=lsM s au ls p:=by unfold bgS tkS;split <;> rfl
theorem bg_es:(bgS s ps au ⟨fu,ot,ls,es,fs,sc⟩ p).es=zcc es p.st:=by unfold bgS tkS;split <;> rfl
theorem bg_fs:(bgS s ps au ⟨fu,ot,ls,es,fs,sc⟩ p).fs=fs:=by unfold bgS tkS;split <;> rfl
theorem bg_sc:(bgS s ps au ⟨fu,ot,ls,es,fs,sc⟩ p).sc=sc:=by unfold bgS tkS;split <;> rfl
end
theorem SBegin (s:zan) (ps:List zb4) (au:zcy) (fu:Int) (ot:Bool) (ls es:List Int) (fs sc:List PrD) (way:List WkD) (p:PrD) {L:Nat} (hs:zb1 L s) (hL:L<=1000) (hp:zc2 s) (hps:∀ p ∈ ps,zec L p) (hpl:ps.length<=1000) (hau:zda au) (hls:zha ls) (hes:zha es) (hst:InI p.st) (hpn:okN au p.nd=true) (hf:0<=fu/\fu<=1073741824) (hwm:way.length<=1000000000000):Fn Tryz.prog 97 [(7,(bxS s ps au fu ot)),(1,.mp (mpL s ps ls)),(2,.mp (mpE s es)),(3,.mp (mpP fs)),(4,.mp (mpP sc)),(9,.row 176 4 (way.map WkD.d))] [vp 7 0,vO 9 way.length,vG [cI p.st,cI p.nd]] (.tup [.c (.own 14 (bgW s ps au (SS.mk fu ot ls es fs sc) way p).length),.c (cB (bgB s ps au (SS.mk fu ot ls es fs sc) p))]) [(7,(bxS s ps au (tkF fu (1+((zb6 s ps au p).length:Int))) (tkO fu ot (1+((zb6 s ps au p).length:Int))))),(1,.mp (mpL s ps (lsM s au ls p))),(2,.mp (mpE s (zcc es p.st))),(3,.mp (mpP fs)),(4,.mp (mpP sc)),(14,.row 176 4 ((bgW s ps au (SS.mk fu ot ls es fs sc) way p).map WkD.d))]:=by
 have lmv:=movT_len (ps:=ps) hs hau p;refine Fn.body Tryz.func97 rfl 25 rfl fun w H B a h=>Jq 30 [] [(0,vp 7 0),(1,vO 9 way.length),(5,vp 30 0),(6,vW za4),(7,vb false)] [(7,(bxS s ps au fu ot)),(1,.mp (mpL s ps ls)),(2,.mp (mpE s es)),(3,.mp (mpP fs)),(4,.mp (mpP sc)),(9,.row 176 4 (way.map WkD.d)),(30,.box [cI p.st,cI p.nd])] h fun a w h=>Jd 31 [(2,.call (SMoves s ps au fu ot ls es fs sc p hs hL hp hps hpl hau hls hes hst hpn) qg1_0)] [] [(8,vS 3 ((zb6 s ps au p).map MvD.d))] [(7,(bxS s ps au fu ot)),(1,.mp (mpL s ps (lsM s au ls p))),(2,.mp (mpE s (zcc es p.st))),(3,.mp (mpP fs)),(4,.mp (mpP sc)),(9,.row 176 4 (way.map WkD.d)),(30,.box [cI p.st,cI p.nd])] h fun a w h=>qW (Jd 31 [(2,.len (za3 3 MvD.d (zb6 s ps au p))),(3,.add .i64 (m:=1) (n:=((zb6 s ps au p).length:Int)) i6),(4,.call (STake s ps au fu ot (lsM s au ls p) (zcc es p.st) fs sc (1+((zb6 s ps au p).length:Int)) hf (by omega)) qg1_1)] [0] [(17,vb (!(decide (1+((zb6 s ps au p).length:Int)<=fu))))] [(7,(bxS s ps au (tkF fu (1+((zb6 s ps au p).length:Int))) (tkO fu ot (1+((zb6 s ps au p).length:Int))))),(1,.mp (mpL s ps (lsM s au ls p))),(2,.mp (mpE s (zcc es p.st))),(3,.mp (mpP fs)),(4,.mp (mpP sc)),(9,.row 176 4 (way.map WkD.d)),(30,.box [cI p.st,cI p.nd])] h fun a w h=>cS (!(decide (1+((zb6 s ps au p).length:Int)<=fu))) h (fun hc1=>?_) (fun hc2=>?_))
 ·have hc1':=hc1;(try simp at hc1');refine Je 31 [] [17] [(6,vO 9 way.length)] h fun a w h=>qV (za2 ?_);replace h:=zd9 9 14 [(1,vO 14 way.length),(5,vp 30 0),(6,vO 14 way.length),(7,vb false),(8,vS 3 ((zb6 s ps au p).map MvD.d))] [(7,(bxS s ps au (tkF fu (1+((zb6 s ps au p).length:Int))) (tkO fu ot (1+((zb6 s ps au p).length:Int))))),(1,.mp (mpL s ps (lsM s au ls p))),(2,.mp (mpE s (zcc es p.st))),(3,.mp (mpP fs)),(4,.mp (mpP sc)),(30,.box [cI p.st,cI p.nd]),(14,.row 176 4 (way.map WkD.d))] h;replace h:=h.conv (f':=F.of [(1,vO 14 (bgW s ps au (SS.mk fu ot ls es fs sc) way p).length),(5,vp 30 0),(6,vO 14 (bgW s ps au (SS.mk fu ot ls es fs sc) way p).length),(7,vb false),(8,vS 3 ((zb6 s ps au p).map MvD.d))] [(7,(bxS s ps au (tkF fu (1+((zb6 s ps au p).length:Int))) (tkO fu ot (1+((zb6 s ps au p).length:Int))))),(1,.mp (mpL s ps (lsM s au ls p))),(2,.mp (mpE s (zcc es p.st))),(3,.mp (mpP fs)),(4,.mp (mpP sc)),(30,.box [cI p.st,cI p.nd]),(14,.row 176 4 ((bgW s ps au (SS.mk fu ot ls es fs sc) way p).map WkD.d))]) (by rw [<- bgW_no (s:=s) (ps:=ps) (au:=au) (fu:=fu) (ot:=ot) (ls:=ls) (es:=es) (fs:=fs) (sc:=sc) (way:=way) (show decide (1+((zb6 s ps au p).length:Int)<=fu)=false by have:=hc1;simpa using this)];try rfl);refine zdb [.c (.own 14 (bgW s ps au (SS.mk fu ot ls es fs sc) way p).length),.c (cB false)] h Exit.ret (.inl rfl)  rfl ⟨RV.tmp _ _ rfl,RV.tmp _ _ rfl,trivial⟩ ?_;rw [show bgB s ps au (SS.mk fu ot ls es fs sc) p=false from (show decide (1+((zb6 s ps au p).length:Int)<=fu)=false by have:=hc1;simpa using this)];rfl
 have hc2':=hc2;(try simp at hc2');refine qU (za0 (Jq 31 [(4,.g (bD 23 ([(WkD.mk p (zb6 s ps au p) 0)].map WkD.d) [(22,vG [cI p.st,cI p.nd,.d (.sl 3 ((zb6 s ps au p).map MvD.d)),cI 0])] qg1_2 (.cons (i:=0) (OV.tmp 22 _) (.nil)) (by kernel_rfl) (by simp [WkD.d]))),(5,.g (Op.appOD (d:=24) (t:=19) (u:=23) (n:=9) (n':=31) (len:=way.length) (len':=(way++[(WkD.mk p (zb6 s ps au p) 0)]).length) (rows:=way.map WkD.d) (rows2:=[(WkD.mk p (zb6 s ps au p) 0)].map WkD.d) (rows':=(way++[(WkD.mk p (zb6 s ps au p) 0)]).map WkD.d) qg1_3 (by first | exact (List.length_map _).symm | simp) (by first | (rw [List.length_append,List.length_map];done) | (simp;done) | (simp;omega)) (by simp) (by simp [WkD.d]) (by first | omega | (simp at *;done) | (simp at *;omega))))] [(6,vO 31 (way++[(WkD.mk p (zb6 s ps au p) 0)]).length),(7,vb true)] [(7,(bxS s ps au (tkF fu (1+((zb6 s ps au p).length:Int))) (tkO fu ot (1+((zb6 s ps au p).length:Int))))),(1,.mp (mpL s ps (lsM s au ls p))),(2,.mp (mpE s (zcc es p.st))),(3,.mp (mpP fs)),(4,.mp (mpP sc)),(31,.row 176 4 ((way++[(WkD.mk p (zb6 s ps au p) 0)]).map WkD.d))] h fun a w h=>qV ?_));replace h:=zd9 31 14 [(6,vO 14 (way++[(WkD.mk p (zb6 s ps au p) 0)]).length),(7,vb true)] [(7,(bxS s ps au (tkF fu (1+((zb6 s ps au p).length:Int))) (tkO fu ot (1+((zb6 s ps au p).length:Int))))),(1,.mp (mpL s ps (lsM s au ls p))),(2,.mp (mpE s (zcc es p.st))),(3,.mp (mpP fs)),(4,.mp (mpP sc)),(14,.row 176 4 ((way++[(WkD.mk p (zb6 s ps au p) 0)]).map WkD.d))] h;replace h:=h.conv (f':=F.of [(6,vO 14 (bgW s ps au (SS.mk fu ot ls es fs sc) way p).length),(7,vb true)] [(7,(bxS s ps au (tkF fu (1+((zb6 s ps au p).length:Int))) (tkO fu ot (1+((zb6 s ps au p).length:Int))))),(1,.mp (mpL s ps (lsM s au ls p))),(2,.mp (mpE s (zcc es p.st))),(3,.mp (mpP fs)),(4,.mp (mpP sc)),(14,.row 176 4 ((bgW s ps au (SS.mk fu ot ls es fs sc) way p).map WkD.d))]) (by rw [<- bgW_yes (s:=s) (ps:=ps) (au:=au) (fu:=fu) (ot:=ot) (ls:=ls) (es:=es) (fs:=fs) (sc:=sc) (way:=way) (show decide (1+((zb6 s ps au p).length:Int)<=fu)=true by have:=hc2;simpa using this)];try rfl);refine zdb [.c (.own 14 (bgW s ps au (SS.mk fu ot ls es fs sc) way p).length),.c (cB true)] h Exit.ret (.inl rfl)  rfl ⟨RV.tmp _ _ rfl,RV.tmp _ _ rfl,trivial⟩ ?_;rw [show bgB s ps au (SS.mk fu ot ls es fs sc) p=true from (show decide (1+((zb6 s ps au p).length:Int)<=fu)=true by have:=hc2;simpa using this)];rfl
theorem SBegin0 (s:zan) (ps:List zb4) (au:zcy) (fu:Int) (ot:Bool) (ls es:List Int) (fs sc:List PrD) (p:PrD) {L:Nat} (hs:zb1 L s) (hL:L<=1000) (hp:zc2 s) (hps:∀ p ∈ ps,zec L p) (hpl:ps.length<=1000) (hau:zda au) (hls:zha ls) (hes:zha es) (hst:InI p.st) (hpn:okN au p.nd=true) (hf:0<=fu/\fu<=1073741824):Fn Tryz.prog 97 [(7,(bxS s ps au fu ot)),(1,.mp (mpL s ps ls)),(2,.mp (mpE s es)),(3,.mp (mpP fs)),(4,.mp (mpP sc))] [vp 7 0,vW za4,vG [cI p.st,cI p.nd]] (.tup [.c (.own 14 (bgW s ps au (SS.mk fu ot ls es fs sc) [] p).length),.c (cB (bgB s ps au (SS.mk fu ot ls es fs sc) p))]) [(7,(bxS s ps au (tkF fu (1+((zb6 s ps au p).length:Int))) (tkO fu ot (1+((zb6 s ps au p).length:Int))))),(1,.mp (mpL s ps (lsM s au ls p))),(2,.mp (mpE s (zcc es p.st))),(3,.mp (mpP fs)),(4,.mp (mpP sc)),(14,.row 176 4 ((bgW s ps au (SS.mk fu ot ls es fs sc) [] p).map WkD.d))]:=by
 have lmv:=movT_len (ps:=ps) hs hau p;refine Fn.body Tryz.func97 rfl 25 rfl fun w H B a h=>Jq 30 [] [(0,vp 7 0),(1,vW za4),(5,vp 30 0),(6,vW za4),(7,vb false)] [(7,(bxS s ps au fu ot)),(1,.mp (mpL s ps ls)),(2,.mp (mpE s es)),(3,.mp (mpP fs)),(4,.mp (mpP sc)),(30,.box [cI p.st,cI p.nd])] h fun a w h=>?_
 replace h:=ze5 1 0 31 4 176 (vW za4) [(0,vp 7 0),(1,vO 31 0),(5,vp 30 0),(6,vW za4),(7,vb false)] [(7,(bxS s ps au fu ot)),(1,.mp (mpL s ps ls)),(2,.mp (mpE s es)),(3,.mp (mpP fs)),(4,.mp (mpP sc)),(30,.box [cI p.st,cI p.nd]),(31,.row 176 4 ([].map WkD.d))] h (by kernel_rfl) rfl rfl;refine Jd 32 [(2,.call (SMoves s ps au fu ot ls es fs sc p hs hL hp hps hpl hau hls hes hst hpn) qg1_0)] [] [(8,vS 3 ((zb6 s ps au p).map MvD.d))] [(7,(bxS s ps au fu ot)),(1,.mp (mpL s ps (lsM s au ls p))),(2,.mp (mpE s (zcc es p.st))),(3,.mp (mpP fs)),(4,.mp (mpP sc)),(30,.box [cI p.st,cI p.nd]),(31,.row 176 4 ([].map WkD.d))] h fun a w h=>qW (Jd 32 [(2,.len (za3 3 MvD.d (zb6 s ps au p))),(3,.add .i64 (m:=1) (n:=((zb6 s ps au p).length:Int)) i6),(4,.call (STake s ps au fu ot (lsM s au ls p) (zcc es p.st) fs sc (1+((zb6 s ps au p).length:Int)) hf (by omega)) qg1_1)] [0] [(17,vb (!(decide (1+((zb6 s ps au p).length:Int)<=fu))))] [(7,(bxS s ps au (tkF fu (1+((zb6 s ps au p).length:Int))) (tkO fu ot (1+((zb6 s ps au p).length:Int))))),(1,.mp (mpL s ps (lsM s au ls p))),(2,.mp (mpE s (zcc es p.st))),(3,.mp (mpP fs)),(4,.mp (mpP sc)),(30,.box [cI p.st,cI p.nd]),(31,.row 176 4 ([].map WkD.d))] h fun a w h=>cS (!(decide (1+((zb6 s ps au p).length:Int)<=fu))) h (fun hc1=>?_) (fun hc2=>?_))
 ·have hc1':=hc1;(try simp at hc1');refine Je 32 [] [17] [(6,vO 31 0)] h fun a w h=>qV (za2 ?_);replace h:=zd9 31 14 [(1,vO 14 0),(5,vp 30 0),(6,vO 14 0),(7,vb false),(8,vS 3 ((zb6 s ps au p).map MvD.d))] [(7,(bxS s ps au (tkF fu (1+((zb6 s ps au p).length:Int))) (tkO fu ot (1+((zb6 s ps au p).length:Int))))),(1,.mp (mpL s ps (lsM s au ls p))),(2,.mp (mpE s (zcc es p.st))),(3,.mp (mpP fs)),(4,.mp (mpP sc)),(30,.box [cI p.st,cI p.nd]),(14,.row 176 4 ([].map WkD.d))] h;replace h:=h.conv (f':=F.of [(1,vO 14 (bgW s ps au (SS.mk fu ot ls es fs sc) [] p).length),(5,vp 30 0),(6,vO 14 (bgW s ps au (SS.mk fu ot ls es fs sc) [] p).length),(7,vb false),(8,vS 3 ((zb6 s ps au p).map MvD.d))] [(7,(bxS s ps au (tkF fu (1+((zb6 s ps au p).length:Int))) (tkO fu ot (1+((zb6 s ps au p).length:Int))))),(1,.mp (mpL s ps (lsM s au ls p))),(2,.mp (mpE s (zcc es p.st))),(3,.mp (mpP fs)),(4,.mp (mpP sc)),(30,.box [cI p.st,cI p.nd]),(14,.row 176 4 ((bgW s ps au (SS.mk fu ot ls es fs sc) [] p).map WkD.d))]) (by rw [<- bgW_no (s:=s) (ps:=ps) (au:=au) (fu:=fu) (ot:=ot) (ls:=ls) (es:=es) (fs:=fs) (sc:=sc) (way:=[]) (show decide (1+((zb6 s ps au p).length:Int)<=fu)=false by have:=hc1;simpa using this)];try rfl);refine zdb [.c (.own 14 (bgW s ps au (SS.mk fu ot ls es fs sc) [] p).length),.c (cB false)] h Exit.ret (.inl rfl)  rfl ⟨RV.tmp _ _ rfl,RV.tmp _ _ rfl,trivial⟩ ?_;rw [show bgB s ps au (SS.mk fu ot ls es fs sc) p=false from (show decide (1+((zb6 s ps au p).length:Int)<=fu)=false by have:=hc1;simpa using this)];rfl
 have hc2':=hc2;(try simp at hc2');refine qU (za0 (Jq 32 [(4,.g (bD 23 ([(WkD.mk p (zb6 s ps au p) 0)].map WkD.d) [(22,vG [cI p.st,cI p.nd,.d (.sl 3 ((zb6 s ps au p).map MvD.d)),cI 0])] qg1_2 (.cons (i:=0) (OV.tmp 22 _) (.nil)) (by kernel_rfl) (by simp [WkD.d]))),(5,.g (Op.appOD (d:=24) (t:=19) (u:=23) (n:=31) (n':=32) (len:=0) (len':=[(WkD.mk p (zb6 s ps au p) 0)].length) (rows:=[].map WkD.d) (rows2:=[(WkD.mk p (zb6 s ps au p) 0)].map WkD.d) (rows':=[(WkD.mk p (zb6 s ps au p) 0)].map WkD.d) qg1_3 (by first | exact (List.length_map _).symm | simp) (by first | (rw [List.length_append,List.length_map];done) | (simp;done) | (simp;omega)) (by simp) (by simp [WkD.d]) (by first | omega | (simp at *;done) | (simp at *;omega))))] [(6,vO 32 ([(WkD.mk p (zb6 s ps au p) 0)].length)),(7,vb true)] [(7,(bxS s ps au (tkF fu (1+((zb6 s ps au p).length:Int))) (tkO fu ot (1+((zb6 s ps au p).length:Int))))),(1,.mp (mpL s ps (lsM s au ls p))),(2,.mp (mpE s (zcc es p.st))),(3,.mp (mpP fs)),(4,.mp (mpP sc)),(32,.row 176 4 ([(WkD.mk p (zb6 s ps au p) 0)].map WkD.d))] h fun a w h=>qV ?_));replace h:=zd9 32 14 [(6,vO 14 ([(WkD.mk p (zb6 s ps au p) 0)].length)),(7,vb true)] [(7,(bxS s ps au (tkF fu (1+((zb6 s ps au p).length:Int))) (tkO fu ot (1+((zb6 s ps au p).length:Int))))),(1,.mp (mpL s ps (lsM s au ls p))),(2,.mp (mpE s (zcc es p.st))),(3,.mp (mpP fs)),(4,.mp (mpP sc)),(14,.row 176 4 ([(WkD.mk p (zb6 s ps au p) 0)].map WkD.d))] h;replace h:=h.conv (f':=F.of [(6,vO 14 (bgW s ps au (SS.mk fu ot ls es fs sc) [] p).length),(7,vb true)] [(7,(bxS s ps au (tkF fu (1+((zb6 s ps au p).length:Int))) (tkO fu ot (1+((zb6 s ps au p).length:Int))))),(1,.mp (mpL s ps (lsM s au ls p))),(2,.mp (mpE s (zcc es p.st))),(3,.mp (mpP fs)),(4,.mp (mpP sc)),(14,.row 176 4 ((bgW s ps au (SS.mk fu ot ls es fs sc) [] p).map WkD.d))]) (by rw [<- bgW_yes (s:=s) (ps:=ps) (au:=au) (fu:=fu) (ot:=ot) (ls:=ls) (es:=es) (fs:=fs) (sc:=sc) (way:=[]) (show decide (1+((zb6 s ps au p).length:Int)<=fu)=true by have:=hc2;simpa using this)];try rfl);refine zdb [.c (.own 14 (bgW s ps au (SS.mk fu ot ls es fs sc) [] p).length),.c (cB true)] h Exit.ret (.inl rfl)  rfl ⟨RV.tmp _ _ rfl,RV.tmp _ _ rfl,trivial⟩ ?_;rw [show bgB s ps au (SS.mk fu ot ls es fs sc) p=true from (show decide (1+((zb6 s ps au p).length:Int)<=fu)=true by have:=hc2;simpa using this)];rfl
def shS (d:Int) (x:SS):SS:={ x with fuel:=x.fuel+d }
def shL (d:Int) (z:LS):LS:={ z with x:=shS d z.x }
section
variable {s:zan} {ps:List zb4} {a:zcy} {d:Int}
theorem zhw {x:SS} {n:Int} (h:tkB x n=true):tkS x n={ x with fuel:=x.fuel - n }:=if_pos h
theorem tk_no {x:SS} {n:Int} (h:tkB x n=false):tkS x n={ x with fuel:=0,out:=true }:=if_neg (by rw [h];exact Bool.noConfusion)
theorem tk_out {x:SS} {n:Int} (h:x.out=true):(tkS x n).out=true:=by
 cases e:tkB x n with
 | true=>rw [zhw e];exact h
 | false=>rw [tk_no e]
theorem tk_sh {x:SS} {n:Int} (hd:0<=d) (h:tkB x n=true):tkB (shS d x) n=true/\tkS (shS d x) n=shS d (tkS x n):=by
 have h1:tkB (shS d x) n=true:=by
  have:=of_decide_eq_true h
  exact decide_eq_true (show n<=x.fuel+d by omega)
 refine ⟨h1,?_⟩
 rw [zhw h1,zhw h]
 show (⟨x.fuel+d - n,_,_,_,_,_⟩:SS)=⟨x.fuel - n+d,_,_,_,_,_⟩
 rw [show x.fuel+d - n=x.fuel - n+d by omega];rfl
theorem bg_out {x:SS} {p:PrD} (h:x.out=true):(bgS s ps a x p).out=true:=tk_out (x:=mvS s a x p) h
theorem bg_no {x:SS} {p:PrD} (h:bgB s ps a x p=false):(bgS s ps a x p).out=true:=by
 unfold bgS;rw [tk_no (x:=mvS s a x p) h]
theorem bg_sh {x:SS} {p:PrD} (hd:0<=d) (h:(bgS s ps a x p).out=false) (way:List WkD):bgB s ps a (shS d x) p=bgB s ps a x p/\bgS s ps a (shS d x) p=shS d (bgS s ps a x p)/\bgW s ps a (shS d x) way p=bgW s ps a x way p:=by
 have hb:bgB s ps a x p=true:=by
  cases e:bgB s ps a x p with
  | true=>rfl
  | false=>rw [bg_no e] at h;cases h
 have h1:=tk_sh (x:=mvS s a x p) (n:=cost s ps a p) hd hb
 have hb2:bgB s ps a (shS d x) p=true:=h1.1
 refine ⟨hb2.trans hb.symm,h1.2,?_⟩
 unfold bgW
 rw [hb2,hb]
def outL {β:Type}:LS ⊕ (β × SS)->Bool
  | .inl z=>z.x.out
  | .inr r=>r.2.out
def shR {β:Type} (d:Int):LS ⊕ (β × SS)->LS ⊕ (β × SS)
  | .inl z => .inl (shL d z)
  | .inr r => .inr (r.1,shS d r.2)
/-- a step that keeps what it does at more fuel -/
structure Stp {β:Type} (f:LS->LS ⊕ (β × SS)):Prop where
  out:∀ z,z.x.out=true->outL (f z)=true
  sh:∀ z (d:Int),0<=d->outL (f z)=false->f (shL d z)=shR d (f z)
theorem iter_out {β:Type} {f:LS->LS ⊕ (β × SS)} (S:Stp f):∀ n z,z.x.out=true->outL (zfc f n z)=true
 | 0,z,h=>h
 | n+1,z,h=>by
  have h1:=S.out z h
  unfold zfc
  cases e:f z with
  | inl y=>rw [e] at h1;exact iter_out S n y h1
  | inr r=>rw [e] at h1;exact h1
theorem iter_sh {β:Type} {f:LS->LS ⊕ (β × SS)} (S:Stp f) (hd:0<=d):∀ n z,outL (zfc f n z)=false->zfc f n (shL d z)=shR d (zfc f n z)
 | 0,_,_=>rfl
 | n+1,z,h=>by
  unfold zfc at h ⊢
  cases e:f z with
  | inl y =>
   rw [e] at h
   have hy:outL (f z)=false:=by
    rw [e]
    show y.x.out=false
    cases ho:y.x.out with
    | false=>rfl
    | true=>have:=iter_out S n y ho;rw [h] at this;cases this
   have h1:=S.sh z d hd hy
   rw [e] at h1
   rw [h1]
   exact iter_sh S hd n y h
  | inr r =>
   rw [e] at h
   have h1:=S.sh z d hd (by rw [e];exact h)
   rw [e] at h1
   rw [h1];rfl
theorem zfn {α β:Type} {f:α->α ⊕ β} {r:β}:∀ n m z,zfc f n z = .inr r->n<=m->zfc f m z = .inr r
 | 0,_,_,h,_=>by cases h
 | n+1,0,_,_,h=>by omega
 | n+1,m+1,z,h,hm=>by
  unfold zfc at h ⊢
  cases e:f z with
  | inl y=>rw [e] at h;exact zfn n m y h (by omega)
  | inr r'=>rw [e] at h;exact h
theorem iter_ends {α β:Type} {f:α->α ⊕ β} (μ:α->Nat) (I:α->Prop) (hI:∀ z y,I z->f z = .inl y->I y/\μ y<μ z):∀ n z,I z->μ z<n->∃ r,zfc f n z = .inr r
 | 0,_,_,h=>by omega
 | n+1,z,hz,h=>by
  unfold zfc
  cases e:f z with
  | inl y=>obtain ⟨h1,h2⟩:=hI z y hz e;exact iter_ends μ I hI n y h1 (by omega)
  | inr r=>exact ⟨r,rfl⟩
theorem ze7 {α β:Type} {f:α->α ⊕ β} (I:α->Prop) (J:β->Prop) (hI:∀ z,I z->match f z with | .inl y=>I y | .inr r=>J r):∀ n z,I z->∀ r,zfc f n z = .inr r->J r
 | 0,_,_,_,h=>by cases h
 | n+1,z,hz,r,h=>by
  unfold zfc at h
  have h1:=hI z hz
  cases e:f z with
  | inl y=>rw [e] at h h1;exact ze7 I J hI n y h1 r h
  | inr r'=>rw [e] at h h1;cases h;exact h1
/-- what is so of a way -/
structure WayI (z:LS):Prop where
  fuel:0<=z.x.fuel
  done:∀ w ∈ z.way,w.done<=w.moves.length
theorem rem_app (xs ys:List WkD):remW (xs++ys)=remW xs+remW ys:=by
 unfold remW
 induction xs with
 | nil=>simp
 | cons x xs ih=>simp only [List.map_cons,List.cons_append,List.foldr_cons];omega
theorem zi9 {way:List WkD} (h:0<way.length):way=way.dropLast++[zbi way]:=by
 have h1:=List.dropLast_concat_getLast (l:=way) (by intro e;rw [e] at h;cases h)
 have h2:zbi way=way.getLast (by intro e;rw [e] at h;cases h):=by
  unfold zbi
  rw [List.getLast_eq_getElem,List.getElem?_eq_getElem (by omega)];rfl
 rw [h2];exact h1.symm
theorem zi8 {way:List WkD} (h:0<way.length):zae way=way.dropLast++[{ zbi way with done:=(zbi way).done+1 }]:=by
 unfold zae
 generalize hq:({ zbi way with done:=(zbi way).done+1 }:WkD)=q
 have h1:=zi9 h
 generalize zbi way=l at h1
 have h2:way.length - 1=way.dropLast.length:=by simp
 rw [h2]
 generalize way.dropLast=ds at h1 ⊢
 rw [h1]
 simp
theorem last_mem {way:List WkD} (h:0<way.length):zbi way ∈ way:=by
 have h1:=zi9 h
 have h2:zbi way ∈ way.dropLast++[zbi way]:=by simp
 rw [<- h1] at h2;exact h2
theorem drop_mu {way:List WkD} (h:0<way.length):remW way.dropLast+way.dropLast.length<remW way+way.length:=by
 have h1:=zi9 h
 have h2:=rem_app way.dropLast [zbi way]
 rw [<- h1] at h2
 have h3:way.dropLast.length=way.length - 1:=by simp
 omega
theorem next_mu {way:List WkD} (h:0<way.length) (hd:∀ w ∈ way,w.done<=w.moves.length) (hm:zay way=true) :
  remW (zae way)+1=remW way/\(zae way).length=way.length/\∀ w ∈ zae way,w.done<=w.moves.length:=by
 have h1:=zi9 h
 have hl:=hd _ (last_mem h)
 have hne:=of_decide_eq_true hm
 have h2:=rem_app way.dropLast [zbi way]
 rw [<- h1] at h2
 have h3:=rem_app way.dropLast [{ zbi way with done:=(zbi way).done+1 }]
 rw [<- zi8 h] at h3
 have e1:remW [zbi way]=(zbi way).moves.length - (zbi way).done:=by unfold remW rem1;simp
 have e2:remW [{ zbi way with done:=(zbi way).done+1 }]=(zbi way).moves.length - ((zbi way).done+1):=by unfold remW rem1;simp
 refine ⟨by omega,by unfold zae;simp,?_⟩
 intro w hw
 rw [zi8 h] at hw
 rcases List.mem_append.1 hw with hw | hw
 ·exact hd w (List.dropLast_subset _ hw)
 ·rw [List.mem_singleton.1 hw]
  show (zbi way).done+1<=(zbi way).moves.length
  omega
theorem bg_mu {x:SS} {way:List WkD} {p:PrD} (hf:0<=x.fuel) (hd:∀ w ∈ way,w.done<=w.moves.length) (ok:Bool) :
  WayI ⟨bgW s ps a x way p,ok,bgS s ps a x p⟩/\mu ⟨bgW s ps a x way p,ok,bgS s ps a x p⟩<=2*x.fuel.toNat+remW way+way.length:=by
 cases e:bgB s ps a x p with
 | true =>
  have hc:1+((zb6 s ps a p).length:Int)<=x.fuel:=of_decide_eq_true e
  have e1:(bgS s ps a x p).fuel=x.fuel - (1+((zb6 s ps a p).length:Int)):=by unfold bgS;rw [zhw (x:=mvS s a x p) e];rfl
  have e2:bgW s ps a x way p=way++[⟨p,zb6 s ps a p,0⟩]:=if_pos e
  have e3:remW [(⟨p,zb6 s ps a p,0⟩:WkD)]=(zb6 s ps a p).length:=by unfold remW rem1;simp
  refine ⟨⟨by show 0<=(bgS s ps a x p).fuel;omega,?_⟩,?_⟩
  ·intro w hw
   have hw:w ∈ bgW s ps a x way p:=hw
   rw [e2] at hw
   rcases List.mem_append.1 hw with hw | hw
   ·exact hd w hw
   ·rw [List.mem_singleton.1 hw];exact Nat.zero_le _
  ·show 2*(bgS s ps a x p).fuel.toNat+remW (bgW s ps a x way p)+(bgW s ps a x way p).length<=_
   rw [e1,e2,rem_app,e3,List.length_append]
   simp only [List.length_cons,List.length_nil]
   omega
 | false =>
  have e1:(bgS s ps a x p).fuel=0:=by unfold bgS;rw [tk_no (x:=mvS s a x p) e]
  have e2:bgW s ps a x way p=way:=if_neg (by rw [e];exact Bool.noConfusion)
  refine ⟨⟨by show 0<=(bgS s ps a x p).fuel;omega,fun w hw=>hd w (by have hw:w ∈ bgW s ps a x way p:=hw;rwa [e2] at hw)⟩,?_⟩
  show 2*(bgS s ps a x p).fuel.toNat+remW (bgW s ps a x way p)+(bgW s ps a x way p).length<=_
  rw [e1,e2]
  omega
theorem goB_mu {goal:PrD} {z y:LS} (hz:WayI z) (h:goB s ps a goal z = .inl y):WayI y/\mu y<mu z:=by
 unfold goB at h
 split at h
 ·rename_i hc
  split at h
  ·rename_i hm
   obtain ⟨n1,n2,n3⟩:=next_mu hc.2 hz.done hm
   split at h
   ·cases h
   ·split at h
    ·cases h
     refine ⟨⟨hz.fuel,n3⟩,?_⟩
     unfold mu;dsimp only;omega
    ·cases h
     have h1:=bg_mu (s:=s) (ps:=ps) (a:=a) (x:={ z.x with sc:=z.x.sc++[(za1 z.way).to_] }) (p:=(za1 z.way).to_) hz.fuel n3 (bgB s ps a { z.x with sc:=z.x.sc++[(za1 z.way).to_] } (za1 z.way).to_)
     refine ⟨h1.1,Nat.lt_of_le_of_lt h1.2 ?_⟩
     unfold mu;dsimp only;omega
  ·cases h
   refine ⟨⟨hz.fuel,fun w hw=>hz.done w (List.dropLast_subset _ hw)⟩,?_⟩
   have:=drop_mu hc.2
   unfold mu;dsimp only;omega
 ·cases h
theorem goB_stp (goal:PrD):Stp (goB s ps a goal) where
 out z h:=by
  unfold goB
  split
  ·split
   ·split
    ·exact h
    ·split
     ·exact h
     ·exact bg_out h
   ·exact h
  ·exact h
 sh z d hd h:=by
  unfold goB at h ⊢
  split at h
  ·rename_i hc
   rw [if_pos (show (shL d z).ok=true/\0<(shL d z).way.length from hc),if_pos hc]
   split at h
   ·rename_i hm
    rw [if_pos (show zay (shL d z).way=true from hm),if_pos hm]
    split at h
    ·rename_i hg
     rw [if_pos (show (za1 (shL d z).way).to_=goal from hg),if_pos hg];rfl
    ·rename_i hg
     rw [if_neg (show ¬(za1 (shL d z).way).to_=goal from hg),if_neg hg]
     split at h
     ·rename_i hs
      rw [if_pos (show (za1 (shL d z).way).to_ ∈ (shL d z).x.sc from hs),if_pos hs];rfl
     ·rename_i hs
      rw [if_neg (show ¬(za1 (shL d z).way).to_ ∈ (shL d z).x.sc from hs),if_neg hs]
      obtain ⟨g1,g2,g3⟩:=bg_sh (d:=d) hd h (zae z.way)
      show Sum.inl (LS.mk (bgW s ps a (shS d { z.x with sc:=z.x.sc++[(za1 z.way).to_] }) (zae z.way) (za1 z.way).to_) (bgB s ps a (shS d { z.x with sc:=z.x.sc++[(za1 z.way).to_] }) (za1 z.way).to_) (bgS s ps a (shS d { z.x with sc:=z.x.sc++[(za1 z.way).to_] }) (za1 z.way).to_))=_
      rw [g1,g2,g3];rfl
   ·rename_i hm
    rw [if_neg (show ¬zay (shL d z).way=true from hm),if_neg hm];rfl
  ·rename_i hc
   rw [if_neg (show ¬((shL d z).ok=true/\0<(shL d z).way.length) from hc),if_neg hc];rfl
def stB (s:zan) (ps:List zb4) (a:zcy) (x:SS) (goal:PrD):LS:=⟨bgW s ps a x [] goal,bgB s ps a x goal,bgS s ps a x goal⟩
theorem stB_ok {x:SS} (hf:0<=x.fuel) (goal:PrD):WayI (stB s ps a x goal):=(bg_mu hf (fun w hw=>by cases hw) _).1
theorem ze8 {x:SS} (hf:0<=x.fuel) (ho:x.out=false) (goal:PrD):zfc (goB s ps a goal) (mu (stB s ps a x goal)+1) (stB s ps a x goal) = .inr (zal s ps a x goal):=by
 obtain ⟨r,hr⟩:=iter_ends mu WayI (fun z y hz h=>goB_mu hz h) (mu (stB s ps a x goal)+1) (stB s ps a x goal) (stB_ok hf goal) (Nat.lt_succ_self _)
 have e:zal s ps a x goal=r:=by
  unfold zal
  rw [if_neg (by rw [ho];exact Bool.noConfusion)]
  show (match zfc (goB s ps a goal) (mu (stB s ps a x goal)+1) (stB s ps a x goal) with | .inr r=>r | .inl _=>(none,x))=r
  rw [hr]
 rw [hr,e]
theorem ze9 {x:SS} (ho:x.out=true) (goal:PrD):zal s ps a x goal=(none,x):=if_pos ho
theorem back_fuel {x:SS} (hf:0<=x.fuel) (goal:PrD):0<=(zal s ps a x goal).2.fuel/\(zal s ps a x goal).2.fuel<=x.fuel:=by
 cases ho:x.out with
 | true=>rw [ze9 ho];exact ⟨hf,Int.le_refl _⟩
 | false =>
  have h1:∀ y:SS,0<=y.fuel->∀ p,(bgS s ps a y p).fuel<=y.fuel:=fun y hy p=>by
   cases e:bgB s ps a y p with
   | true =>
    have e1:(bgS s ps a y p).fuel=y.fuel - (1+((zb6 s ps a p).length:Int)):=by unfold bgS;rw [zhw (x:=mvS s a y p) e];rfl
    omega
   | false=>have e1:(bgS s ps a y p).fuel=0:=by { unfold bgS;rw [tk_no (x:=mvS s a y p) e] };omega
  refine ze7 (fun z=>WayI z/\z.x.fuel<=x.fuel) (fun r=>0<=r.2.fuel/\r.2.fuel<=x.fuel) (fun z hz=>?_) _ _ ⟨stB_ok hf goal,h1 x hf goal⟩ _ (ze8 hf ho goal)
  cases e:goB s ps a goal z with
  | inl y =>
   refine ⟨(goB_mu hz.1 e).1,?_⟩
   unfold goB at e
   split at e
   ·split at e
    ·split at e
     ·cases e
     ·split at e
      ·cases e;exact hz.2
      ·cases e;exact Int.le_trans (h1 { z.x with sc:=z.x.sc++[(za1 z.way).to_] } hz.1.fuel _) hz.2
    ·cases e;exact hz.2
   ·cases e
  | inr r =>
   unfold goB at e
   split at e
   ·split at e
    ·split at e
     ·cases e;exact ⟨hz.1.fuel,hz.2⟩
     ·split at e <;> cases e
    ·cases e
   ·cases e;exact ⟨hz.1.fuel,hz.2⟩
theorem back_sh {x:SS} (hf:0<=x.fuel) (hd:0<=d) (goal:PrD) (h:(zal s ps a x goal).2.out=false):zal s ps a (shS d x) goal=((zal s ps a x goal).1,shS d (zal s ps a x goal).2):=by
 have ho:x.out=false:=by
  cases ho:x.out with
  | false=>rfl
  | true=>rw [ze9 ho] at h;exact absurd ho (by rw [h];exact Bool.noConfusion)
 have h1:=ze8 (s:=s) (ps:=ps) (a:=a) hf ho goal
 have h2:=ze8 (s:=s) (ps:=ps) (a:=a) (x:=shS d x) (show 0<=x.fuel+d by omega) ho goal
 have hz:(stB s ps a x goal).x.out=false:=by
  cases e:(stB s ps a x goal).x.out with
  | false=>rfl
  | true=>have:=iter_out (goB_stp (s:=s) (ps:=ps) (a:=a) goal) (mu (stB s ps a x goal)+1) _ e;rw [h1] at this;exact absurd this (by show ¬(zal s ps a x goal).2.out=true;rw [h];exact Bool.noConfusion)
 have hzz:stB s ps a (shS d x) goal=shL d (stB s ps a x goal):=by
  obtain ⟨g1,g2,g3⟩:=bg_sh (d:=d) hd hz []
  show LS.mk _ _ _=LS.mk _ _ _
  rw [g1,g2,g3];rfl
 have h3:=iter_sh (goB_stp (s:=s) (ps:=ps) (a:=a) goal) hd (mu (stB s ps a x goal)+1) (stB s ps a x goal) (by rw [h1];exact h)
 rw [h1] at h3
 have h4:=zfn _ (max (mu (stB s ps a x goal)+1) (mu (stB s ps a (shS d x) goal)+1)) _ h3 (Nat.le_max_left _ _)
 have h5:=zfn _ (max (mu (stB s ps a x goal)+1) (mu (stB s ps a (shS d x) goal)+1)) _ h2 (Nat.le_max_right _ _)
 rw [hzz] at h4 h5
 rw [h4] at h5
 exact (Sum.inr.inj h5).symm
theorem back_some {x:SS} (hf:0<=x.fuel) (goal:PrD) {r:List WkD} (h:(zal s ps a x goal).1=some r):(zal s ps a x goal).2.out=false:=by
 cases ho:x.out with
 | true=>rw [ze9 ho] at h;cases h
 | false =>
  have hb:∀ y:SS,y.out=false->∀ p,bgB s ps a y p=true->(bgS s ps a y p).out=false:=fun y hy p e=>by
   unfold bgS;rw [zhw (x:=mvS s a y p) e];exact hy
  refine ze7 (fun z=>z.ok=true->z.x.out=false) (fun r=>(∃ w,r.1=some w)->r.2.out=false) (fun z hz=>?_) _ _ (hb x ho goal) _ (ze8 hf ho goal) ⟨r,h⟩
  cases e:goB s ps a goal z with
  | inl y =>
   unfold goB at e
   split at e
   ·split at e
    ·rename_i hc _
     split at e
     ·cases e
     ·split at e
      ·cases e;exact hz
      ·cases e;exact hb { z.x with sc:=z.x.sc++[(za1 z.way).to_] } (hz hc.1) _
    ·cases e;exact hz
   ·cases e
  | inr r =>
   unfold goB at e
   split at e
   ·rename_i hc
    split at e
    ·split at e
     ·cases e;exact fun _=>hz hc.1
     ·split at e <;> cases e
    ·cases e
   ·cases e;rintro ⟨w,hw⟩;cases hw
theorem goF_mu {z y:LS} (hz:WayI z) (h:goF s ps a z = .inl y):WayI y/\mu y<mu z:=by
 unfold goF at h
 split at h
 ·rename_i hc
  have h9:=drop_mu hc.2
  have hdr:∀ w ∈ z.way.dropLast,w.done<=w.moves.length:=fun w hw=>hz.done w (List.dropLast_subset _ hw)
  split at h
  ·rename_i hm
   obtain ⟨n1,n2,n3⟩:=next_mu hc.2 hz.done hm
   split at h
   ·cases h
    refine ⟨⟨hz.fuel,n3⟩,?_⟩
    unfold mu;dsimp only;omega
   ·cases h
    have h1:=bg_mu (s:=s) (ps:=ps) (a:=a) (x:={ z.x with fs:=z.x.fs++[(za1 z.way).to_] }) (p:=(za1 z.way).to_) hz.fuel n3 (bgB s ps a { z.x with fs:=z.x.fs++[(za1 z.way).to_] } (za1 z.way).to_)
    refine ⟨h1.1,Nat.lt_of_le_of_lt h1.2 ?_⟩
    unfold mu;dsimp only;omega
  ·split at h
   ·have h1:=back_fuel (s:=s) (ps:=ps) (a:=a) hz.fuel (zbi z.way).at_
    split at h
    ·cases h
    ·rename_i y' e
     rw [e] at h1
     have g1:0<=y'.fuel:=h1.1
     have g2:y'.fuel<=z.x.fuel:=h1.2
     cases h
     refine ⟨⟨g1,hdr⟩,?_⟩
     unfold mu;dsimp only;omega
   ·cases h
    refine ⟨⟨hz.fuel,hdr⟩,?_⟩
    unfold mu;dsimp only;omega
 ·cases h
theorem goF_out (z:LS) (h:z.x.out=true):outL (goF s ps a z)=true:=by
 unfold goF
 split
 ·split
  ·split
   ·exact h
   ·exact bg_out h
  ·split
   ·rw [ze9 h];exact h
   ·exact h
 ·exact h
theorem goF_sh (z:LS) (d:Int) (hf:0<=z.x.fuel) (hd:0<=d) (h:outL (goF s ps a z)=false):goF s ps a (shL d z)=shR d (goF s ps a z):=by
 unfold goF at h ⊢
 split at h
 ·rename_i hc
  rw [if_pos (show (shL d z).ok=true/\0<(shL d z).way.length from hc),if_pos hc]
  split at h
  ·rename_i hm
   rw [if_pos (show zay (shL d z).way=true from hm),if_pos hm]
   split at h
   ·rename_i hs
    rw [if_pos (show (za1 (shL d z).way).to_ ∈ (shL d z).x.fs from hs),if_pos hs];rfl
   ·rename_i hs
    rw [if_neg (show ¬(za1 (shL d z).way).to_ ∈ (shL d z).x.fs from hs),if_neg hs]
    obtain ⟨g1,g2,g3⟩:=bg_sh (d:=d) hd h (zae z.way)
    show Sum.inl (LS.mk (bgW s ps a (shS d { z.x with fs:=z.x.fs++[(za1 z.way).to_] }) (zae z.way) (za1 z.way).to_) (bgB s ps a (shS d { z.x with fs:=z.x.fs++[(za1 z.way).to_] }) (za1 z.way).to_) (bgS s ps a (shS d { z.x with fs:=z.x.fs++[(za1 z.way).to_] }) (za1 z.way).to_))=_
    rw [g1,g2,g3];rfl
  ·rename_i hm
   rw [if_neg (show ¬zay (shL d z).way=true from hm),if_neg hm]
   split at h
   ·rename_i hg
    rw [if_pos (show zgg a (zbi (shL d z).way).at_=true from hg),if_pos hg]
    have hb:(zal s ps a z.x (zbi z.way).at_).2.out=false:=by
     split at h
     ·rename_i r y e;rw [e];exact h
     ·rename_i y e;rw [e];exact h
    have h2:=back_sh hf hd _ hb
    rw [show zal s ps a (shL d z).x (zbi (shL d z).way).at_=zal s ps a (shS d z.x) (zbi z.way).at_ from rfl,h2]
    cases e:zal s ps a z.x (zbi z.way).at_ with
    | mk r y=>cases r <;> rfl
   ·rename_i hg
    rw [if_neg (show ¬zgg a (zbi (shL d z).way).at_=true from hg),if_neg hg];rfl
 ·rename_i hc
  rw [if_neg (show ¬((shL d z).ok=true/\0<(shL d z).way.length) from hc),if_neg hc];rfl
theorem iterF_out:∀ n z,z.x.out=true->outL (zfc (goF s ps a) n z)=true
 | 0,z,h=>h
 | n+1,z,h=>by
  have h1:=goF_out (s:=s) (ps:=ps) (a:=a) z h
  unfold zfc
  cases e:goF s ps a z with
  | inl y=>rw [e] at h1;exact iterF_out n y h1
  | inr r=>rw [e] at h1;exact h1
theorem iterF_sh (hd:0<=d):∀ n z,WayI z->outL (zfc (goF s ps a) n z)=false->zfc (goF s ps a) n (shL d z)=shR d (zfc (goF s ps a) n z)
 | 0,_,_,_=>rfl
 | n+1,z,hz,h=>by
  unfold zfc at h ⊢
  cases e:goF s ps a z with
  | inl y =>
   rw [e] at h
   have hy:outL (goF s ps a z)=false:=by
    rw [e]
    show y.x.out=false
    cases ho:y.x.out with
    | false=>rfl
    | true=>have:=iterF_out (s:=s) (ps:=ps) (a:=a) n y ho;rw [h] at this;cases this
   have h1:=goF_sh z d hz.fuel hd hy
   rw [e] at h1
   rw [h1]
   exact iterF_sh hd n y (goF_mu hz e).1 h
  | inr r =>
   rw [e] at h
   have h1:=goF_sh z d hz.fuel hd (by rw [e];exact h)
   rw [e] at h1
   rw [h1];rfl
def stF (s:zan) (ps:List zb4) (a:zcy) (x:SS) (p:PrD):LS:=stB s ps a { x with fs:=x.fs++[p] } p
theorem zfo {x:SS} (hf:0<=x.fuel) (p:PrD):zfc (goF s ps a) (mu (stF s ps a x p)+1) (stF s ps a x p) = .inr (zam s ps a x p):=by
 obtain ⟨r,hr⟩:=iter_ends mu WayI (fun z y hz h=>goF_mu hz h) (mu (stF s ps a x p)+1) (stF s ps a x p) (stB_ok (x:={ x with fs:=x.fs++[p] }) hf p) (Nat.lt_succ_self _)
 have e:zam s ps a x p=r:=by
  show (match zfc (goF s ps a) (mu (stF s ps a x p)+1) (stF s ps a x p) with | .inr r=>r | .inl _=>(none,{ x with fs:=x.fs++[p] }))=r
  rw [hr]
 rw [hr,e]
theorem frm_sh {x:SS} (hf:0<=x.fuel) (hd:0<=d) (p:PrD) (h:(zam s ps a x p).2.out=false):zam s ps a (shS d x) p=((zam s ps a x p).1,shS d (zam s ps a x p).2):=by
 have h1:=zfo (s:=s) (ps:=ps) (a:=a) hf p
 have h2:=zfo (s:=s) (ps:=ps) (a:=a) (x:=shS d x) (show 0<=x.fuel+d by omega) p
 have hz:(stF s ps a x p).x.out=false:=by
  cases e:(stF s ps a x p).x.out with
  | false=>rfl
  | true=>have:=iterF_out (s:=s) (ps:=ps) (a:=a) (mu (stF s ps a x p)+1) _ e;rw [h1] at this;exact absurd this (by show ¬(zam s ps a x p).2.out=true;rw [h];exact Bool.noConfusion)
 have hzz:stF s ps a (shS d x) p=shL d (stF s ps a x p):=by
  obtain ⟨g1,g2,g3⟩:=bg_sh (d:=d) (x:={ x with fs:=x.fs++[p] }) hd hz []
  show LS.mk (bgW s ps a (shS d { x with fs:=x.fs++[p] }) [] p) (bgB s ps a (shS d { x with fs:=x.fs++[p] }) p) (bgS s ps a (shS d { x with fs:=x.fs++[p] }) p)=LS.mk _ _ _
  rw [g1,g2,g3];rfl
 have h3:=iterF_sh hd (mu (stF s ps a x p)+1) (stF s ps a x p) (stB_ok (x:={ x with fs:=x.fs++[p] }) hf p) (by rw [h1];exact h)
 rw [h1] at h3
 have h4:=zfn _ (max (mu (stF s ps a x p)+1) (mu (stF s ps a (shS d x) p)+1)) _ h3 (Nat.le_max_left _ _)
 have h5:=zfn _ (max (mu (stF s ps a x p)+1) (mu (stF s ps a (shS d x) p)+1)) _ h2 (Nat.le_max_right _ _)
 rw [hzz] at h4 h5
 rw [h4] at h5
 exact (Sum.inr.inj h5).symm
theorem frm_fuel {x:SS} (hf:0<=x.fuel) (p:PrD):0<=(zam s ps a x p).2.fuel:=by
 refine ze7 WayI (fun r=>0<=r.2.fuel) (fun z hz=>?_) _ _ (stB_ok (x:={ x with fs:=x.fs++[p] }) hf p) _ (zfo hf p)
 cases e:goF s ps a z with
 | inl y=>exact (goF_mu hz e).1
 | inr r =>
  unfold goF at e
  split at e
  ·split at e
   ·split at e <;> cases e
   ·split at e
    ·have h1:=(back_fuel (s:=s) (ps:=ps) (a:=a) hz.fuel (zbi z.way).at_).1
     split at e
     ·rename_i e2;rw [e2] at h1;cases e;exact h1
     ·cases e
    ·cases e
  ·cases e;exact hz.fuel
theorem frm_some {x:SS} (hf:0<=x.fuel) (p:PrD) {r:List WkD × List WkD} (h:(zam s ps a x p).1=some r):(zam s ps a x p).2.out=false:=by
 refine ze7 WayI (fun r=>(∃ w,r.1=some w)->r.2.out=false) (fun z hz=>?_) _ _ (stB_ok (x:={ x with fs:=x.fs++[p] }) hf p) _ (zfo hf p) ⟨r,h⟩
 cases e:goF s ps a z with
 | inl y=>exact (goF_mu hz e).1
 | inr r =>
  unfold goF at e
  split at e
  ·split at e
   ·split at e <;> cases e
   ·split at e
    ·split at e
     ·rename_i e2
      have h1:=back_some (s:=s) (ps:=ps) (a:=a) hz.fuel (zbi z.way).at_ (by rw [e2])
      rw [e2] at h1
      cases e;exact fun _=>h1
     ·cases e
    ·cases e
  ·cases e;rintro ⟨w,hw⟩;cases hw
def shA (d:Int) (r:AnsD):AnsD:={ r with left:=r.left+d }
theorem goK_sh (hd:0<=d) (n:Int):∀ (ks:List Int) (x:SS),0<=x.fuel ->
  (∀ r,goK s ps a n x ks = .inl r->r.state≠3->goK s ps a n (shS d x) ks = .inl (shA d r))/\(∀ y,goK s ps a n x ks = .inr y->0<=y.fuel/\goK s ps a n (shS d x) ks = .inr (shS d y))
 | [],x,hf=>⟨fun r h=>(by unfold goK at h;cases h),fun y h=>(by unfold goK at h ⊢;cases h;exact ⟨hf,rfl⟩)⟩
 | k :: ks,x,hf=>by
  unfold goK
  by_cases hm:(⟨n,k⟩:PrD) ∈ x.fs
  ·rw [if_pos hm,if_pos (show (⟨n,k⟩:PrD) ∈ (shS d x).fs from hm)]
   exact goK_sh hd n ks x hf
  ·rw [if_neg hm,if_neg (show ¬(⟨n,k⟩:PrD) ∈ (shS d x).fs from hm)]
   have h1:=frm_fuel (s:=s) (ps:=ps) (a:=a) hf ⟨n,k⟩
   have h2:=frm_sh (s:=s) (ps:=ps) (a:=a) hf hd ⟨n,k⟩
   have h3:∀ r,(zam s ps a x ⟨n,k⟩).1=some r->(zam s ps a x ⟨n,k⟩).2.out=false:=fun r hr=>frm_some hf ⟨n,k⟩ hr
   cases e:zam s ps a x ⟨n,k⟩ with
   | mk q y =>
    rw [e] at h1 h2 h3
    cases q with
    | some sc =>
     have ho:y.out=false:=h3 sc rfl
     rw [h2 ho]
     refine ⟨fun r h _=>?_,fun y' h=>by cases h⟩
     cases h;rfl
    | none =>
     cases ho:y.out with
     | true =>
      refine ⟨fun r h hr=>?_,fun y' h=>?_⟩
      ·simp only [ho,if_true] at h
       cases h
       exact absurd rfl hr
      ·simp only [ho,if_true] at h
       cases h
     | false =>
      rw [h2 ho]
      have h4:=goK_sh hd n ks y h1
      have e1:(shS d y).out=false:=ho
      simp only [ho,e1,Bool.false_eq_true,if_false]
      exact h4
theorem goX_sh (hd:0<=d):∀ (fs:List StD) (x:SS),0<=x.fuel ->
  (∀ r,goX s ps a x fs = .inl r->r.state≠3->goX s ps a (shS d x) fs = .inl (shA d r))/\(∀ y,goX s ps a x fs = .inr y->goX s ps a (shS d x) fs = .inr (shS d y))
 | [],x,hf=>⟨fun r h=>(by unfold goX at h;cases h),fun y h=>(by unfold goX at h ⊢;cases h;rfl)⟩
 | f :: fs,x,hf=>by
  unfold goX
  have h1:=goK_sh (s:=s) (ps:=ps) (a:=a) hd (nmT s f).1 (zb2 a (zax s ps (nmT s f).1) a.first) { x with ls:=lsF a x.ls (nmT s f).1 a.first } hf
  have e0:({ shS d x with ls:=lsF a (shS d x).ls (nmT s f).1 a.first }:SS)=shS d { x with ls:=lsF a x.ls (nmT s f).1 a.first }:=rfl
  rw [e0]
  cases e:goK s ps a (nmT s f).1 { x with ls:=lsF a x.ls (nmT s f).1 a.first } (zb2 a (zax s ps (nmT s f).1) a.first) with
  | inl r =>
   refine ⟨fun r' h hr=>?_,fun y h=>by cases h⟩
   cases h
   rw [h1.1 r e hr]
  | inr y =>
   obtain ⟨g1,g2⟩:=h1.2 y e
   rw [g2]
   exact goX_sh hd fs y g1
theorem sea_more {f g:Int} (h0:0<=f) (hg:g<=1073741824) (hfg:f<=g) (hk:(zau s ps a f).state≠3):zau s ps a g=shA (g - f) (zau s ps a f):=by
 have e1:zct f=f:=by unfold zct;omega
 have e2:zct g=f+(g - f):=by unfold zct;omega
 unfold zau at hk ⊢
 split at hk
 ·rename_i hc
  rw [if_pos hc,if_pos hc,e1,e2]
  rw [e1] at hk
  have h1:=goX_sh (s:=s) (ps:=ps) (a:=a) (d:=g - f) (by omega) (zd3 s) ⟨f,false,[],[],[],[]⟩ h0
  have e3:(⟨f+(g - f),false,[],[],[],[]⟩:SS)=shS (g - f) ⟨f,false,[],[],[],[]⟩:=rfl
  rw [e3]
  cases e:goX s ps a ⟨f,false,[],[],[],[]⟩ (zd3 s) with
  | inl r=>rw [e] at hk;rw [h1.1 r e hk]
  | inr y=>rw [h1.2 y e];rfl
 ·exact absurd rfl hk
end
def okP (au:zcy) (p:PrD):Prop:=okN au p.nd=true/\InI p.st
structure WkOk (au:zcy) (w:WkD):Prop where
  done:w.done<=w.moves.length
  len:w.moves.length<=20971521000
  mok:∀ m ∈ w.moves,okP au m.to_
  aok:okP au w.at_
structure XI (x:SS):Prop where
  f0:0<=x.fuel
  f1:x.fuel<=1073741824
  ls:zha x.ls
  es:zha x.es
  fs:KinP x.fs
  sc:KinP x.sc
structure LI (au:zcy) (z:LS):Prop where
  x:XI z.x
  way:∀ w ∈ z.way,WkOk au w
  len:(z.way.length:Int)+z.x.fuel<=1073741824
section
variable {s:zan} {ps:List zb4} {au:zcy} {L:Nat}
theorem zd4 (hau:zda au) {p:PrD} (h:okP au p):InI p.st/\InI p.nd:=by
 have h1:0<=p.nd/\p.nd<(au.nodes.length:Int):=by have:=h.1;unfold okN at this;simpa using this
 have h2:=hau.nodes
 exact ⟨h.2,by unfold InI;omega⟩
theorem mvt_ok {p:PrD}:∀ m ∈ zb6 s ps au p,okP au m.to_:=fun m hm=>by
 unfold zb6 at hm
 obtain ⟨e,_,h2⟩:=List.mem_flatMap.1 hm
 unfold mvE at h2
 obtain ⟨k,hk,rfl⟩:=List.mem_map.1 h2
 exact ⟨(ftn_ok au _ _ k hk).1,nmN_in s e⟩
theorem kinP_snoc {fs:List PrD} (h:KinP fs) {p:PrD} (hp:InI p.st/\InI p.nd):KinP (fs++[p]):=fun q hq=>by
 rcases List.mem_append.1 hq with hq | hq
 ·exact h q hq
 ·rw [List.mem_singleton.1 hq];exact hp
theorem bg_XI {x:SS} {p:PrD} (hx:XI x) (hp:okP au p):XI (bgS s ps au x p):=by
 have h1:zha (lsM s au x.ls p):=kin_lsM hx.ls _
 have h2:zha (zcc x.es p.st):=kin_add hx.es hp.2
 cases e:bgB s ps au x p with
 | true =>
  have hc:1+((zb6 s ps au p).length:Int)<=x.fuel:=of_decide_eq_true e
  have e1:bgS s ps au x p={ mvS s au x p with fuel:=x.fuel - (1+((zb6 s ps au p).length:Int)) }:=by unfold bgS;rw [zhw (x:=mvS s au x p) e];rfl
  rw [e1]
  have:=hx.f1
  exact ⟨by show 0<=x.fuel - _;omega,by show x.fuel - _<=_;omega,h1,h2,hx.fs,hx.sc⟩
 | false =>
  have e1:bgS s ps au x p={ mvS s au x p with fuel:=0,out:=true }:=by unfold bgS;rw [tk_no (x:=mvS s au x p) e]
  rw [e1]
  exact ⟨Int.le_refl _,(by decide:(0:Int)<=1073741824),h1,h2,hx.fs,hx.sc⟩
theorem bg_LI {x:SS} {p:PrD} {way:List WkD} (hs:zb1 L s) (hau:zda au) (hx:XI x) (hp:okP au p) (hw:∀ w ∈ way,WkOk au w) (hl:(way.length:Int)+x.fuel<=1073741824) (ok:Bool):LI au ⟨bgW s ps au x way p,ok,bgS s ps au x p⟩:=by
 refine ⟨bg_XI hx hp,?_,?_⟩
 ·intro w hw2
  have hw2:w ∈ bgW s ps au x way p:=hw2
  unfold bgW at hw2
  split at hw2
  ·rcases List.mem_append.1 hw2 with h | h
   ·exact hw w h
   ·rw [List.mem_singleton.1 h];exact ⟨Nat.zero_le _,movT_len hs hau p,mvt_ok,hp⟩
  ·exact hw w hw2
 ·show ((bgW s ps au x way p).length:Int)+(bgS s ps au x p).fuel<=_
  cases e:bgB s ps au x p with
  | true =>
   have hc:1+((zb6 s ps au p).length:Int)<=x.fuel:=of_decide_eq_true e
   have e1:(bgS s ps au x p).fuel=x.fuel - (1+((zb6 s ps au p).length:Int)):=by unfold bgS;rw [zhw (x:=mvS s au x p) e];rfl
   have e2:bgW s ps au x way p=way++[⟨p,zb6 s ps au p,0⟩]:=if_pos e
   rw [e1,e2,List.length_append]
   simp only [List.length_cons,List.length_nil]
   omega
  | false =>
   have e1:(bgS s ps au x p).fuel=0:=by unfold bgS;rw [tk_no (x:=mvS s au x p) e]
   have e2:bgW s ps au x way p=way:=if_neg (by rw [e];exact Bool.noConfusion)
   have:=hx.f0
   rw [e1,e2]
   omega
theorem zhj {way:List WkD} (h:∀ w ∈ way,WkOk au w) (h0:0<way.length) (hm:zay way=true):(∀ w ∈ zae way,WkOk au w)/\okP au (za1 way).to_/\(zae way).length=way.length:=by
 have hl:=h _ (last_mem h0)
 have hne:(zbi way).done≠(zbi way).moves.length:=of_decide_eq_true hm
 have hd:=hl.done
 refine ⟨fun w hw=>?_,?_,by unfold zae;simp⟩
 ·rw [zi8 h0] at hw
  rcases List.mem_append.1 hw with hw | hw
  ·exact h w (List.dropLast_subset _ hw)
  ·rw [List.mem_singleton.1 hw]
   exact ⟨by show (zbi way).done+1<=(zbi way).moves.length;omega,hl.len,hl.mok,hl.aok⟩
 ·unfold za1
  rw [List.getElem?_eq_getElem (by omega)]
  exact hl.mok _ (List.getElem_mem _)
theorem LI.drop {z:LS} (h:LI au z) (ok:Bool):LI au ⟨z.way.dropLast,ok,z.x⟩:=⟨h.x,fun w hw=>h.way w (List.dropLast_subset _ hw),by
 have:=h.len
 have e:z.way.dropLast.length<=z.way.length:=by simp
 show (z.way.dropLast.length:Int)+z.x.fuel<=_
 omega⟩
def gJ {β:Type} (au:zcy) (J:β->Prop):LS ⊕ β->Prop
  | .inl y=>LI au y
  | .inr r=>J r
theorem iter_J {β:Type} {f:LS->LS ⊕ β} {J:β->Prop} (hI:∀ z,LI au z->gJ au J (f z)) (n:Nat) (z:LS) (hz:LI au z) (r:β) (h:zfc f n z = .inr r):J r :=
 ze7 (LI au) J (fun z hz=>by have h:=hI z hz;revert h;cases f z <;> exact id) n z hz r h
def jB (au:zcy) (r:Option (List WkD) × SS):Prop:=XI r.2/\∀ w,r.1=some w->(∀ x ∈ w,WkOk au x)/\0<w.length/\(w.length:Int)<=1073741824
def jF (au:zcy) (r:Option (List WkD × List WkD) × SS):Prop:=XI r.2/\∀ w,r.1=some w->((∀ x ∈ w.1,WkOk au x)/\0<w.1.length/\(w.1.length:Int)<=1073741824)/\(∀ x ∈ w.2,WkOk au x)/\0<w.2.length/\(w.2.length:Int)<=1073741824
theorem goB_LI (hs:zb1 L s) (hau:zda au) {goal:PrD} {z:LS} (hz:LI au z):gJ au (jB au) (goB s ps au goal z):=by
 unfold goB
 split
 ·rename_i hc
  split
  ·rename_i hm
   obtain ⟨n1,n2,n3⟩:=zhj hz.way hc.2 hm
   split
   ·refine (show jB au (some (zae z.way),z.x) from ⟨hz.x,fun w hw=>?_⟩)
    cases hw
    have:=hz.len
    have:=hz.x.f0
    exact ⟨n1,by omega,by omega⟩
   ·split
    ·exact (show LI au ⟨zae z.way,z.ok,z.x⟩ from ⟨hz.x,n1,by have:=hz.len;show ((zae z.way).length:Int)+z.x.fuel<=_;omega⟩)
    ·refine bg_LI hs hau (show XI { z.x with sc:=z.x.sc++[(za1 z.way).to_] } from ⟨hz.x.f0,hz.x.f1,hz.x.ls,hz.x.es,hz.x.fs,kinP_snoc hz.x.sc (zd4 hau n2)⟩) n2 n1 ?_ _
     have:=hz.len;show ((zae z.way).length:Int)+z.x.fuel<=_;omega
  ·exact hz.drop _
 ·exact (show jB au (none,z.x) from ⟨hz.x,fun w hw=>by cases hw⟩)
theorem stB_LI (hs:zb1 L s) (hau:zda au) {x:SS} (hx:XI x) {goal:PrD} (hg:okP au goal):LI au (stB s ps au x goal):=bg_LI hs hau hx hg (fun w hw=>by cases hw) (by have:=hx.f1;simpa using this) _
theorem back_LI (hs:zb1 L s) (hau:zda au) {x:SS} (hx:XI x) {goal:PrD} (hg:okP au goal):jB au (zal s ps au x goal):=by
 cases ho:x.out with
 | true=>rw [ze9 ho];exact ⟨hx,fun w hw=>by cases hw⟩
 | false=>exact iter_J (fun z hz=>goB_LI hs hau hz) _ _ (stB_LI hs hau hx hg) _ (ze8 hx.f0 ho goal)
theorem goF_LI (hs:zb1 L s) (hau:zda au) {z:LS} (hz:LI au z):gJ au (jF au) (goF s ps au z):=by
 unfold goF
 split
 ·rename_i hc
  have hl:=hz.way _ (last_mem hc.2)
  split
  ·rename_i hm
   obtain ⟨n1,n2,n3⟩:=zhj hz.way hc.2 hm
   split
   ·exact (show LI au ⟨zae z.way,z.ok,z.x⟩ from ⟨hz.x,n1,by have:=hz.len;show ((zae z.way).length:Int)+z.x.fuel<=_;omega⟩)
   ·refine bg_LI hs hau (show XI { z.x with fs:=z.x.fs++[(za1 z.way).to_] } from ⟨hz.x.f0,hz.x.f1,hz.x.ls,hz.x.es,kinP_snoc hz.x.fs (zd4 hau n2),hz.x.sc⟩) n2 n1 ?_ _
    have:=hz.len;show ((zae z.way).length:Int)+z.x.fuel<=_;omega
  ·split
   ·have hb:=back_LI (ps:=ps) hs hau hz.x hl.aok
    have hf:=back_fuel (s:=s) (ps:=ps) (a:=au) hz.x.f0 (zbi z.way).at_
    split
    ·rename_i r y e
     rw [e] at hb
     refine (show jF au (some (z.way,r),y) from ⟨hb.1,fun w hw=>?_⟩)
     cases hw
     have:=hz.len
     have:=hz.x.f0
     exact ⟨⟨hz.way,hc.2,by show (z.way.length:Int)<=_;omega⟩,hb.2 r rfl⟩
    ·rename_i y e
     rw [e] at hb hf
     have h1:=hz.drop z.ok
     refine (show LI au ⟨z.way.dropLast,z.ok,y⟩ from ⟨hb.1,h1.way,?_⟩)
     have h2:=h1.len
     have h3:y.fuel<=z.x.fuel:=hf.2
     show (z.way.dropLast.length:Int)+y.fuel<=_
     have h4:(z.way.dropLast.length:Int)+z.x.fuel<=1073741824:=h2
     omega
   ·exact hz.drop _
 ·exact (show jF au (none,z.x) from ⟨hz.x,fun w hw=>by cases hw⟩)
theorem stF_LI (hs:zb1 L s) (hau:zda au) {x:SS} (hx:XI x) {p:PrD} (hg:okP au p):LI au (stF s ps au x p):=stB_LI hs hau (show XI { x with fs:=x.fs++[p] } from ⟨hx.f0,hx.f1,hx.ls,hx.es,kinP_snoc hx.fs (zd4 hau hg),hx.sc⟩) hg
theorem from_LI (hs:zb1 L s) (hau:zda au) {x:SS} (hx:XI x) {p:PrD} (hg:okP au p):jF au (zam s ps au x p) :=
 iter_J (fun _z hz=>goF_LI hs hau hz) _ _ (stF_LI hs hau hx hg) _ (zfo hx.f0 p)
end
theorem qi1_0:za6 Tryz.prog 97:=za6.mk' (by kernel_rfl)
theorem qi1_1:za6 Tryz.prog 98:=za6.mk' (by kernel_rfl)
theorem zil {α β:Type} {f:α->α ⊕ β} {n:Nat} {z:α} {r:β} (h:zfc f n z = .inr r):∃ m,n=m+1:=by
 cases n with
 | zero=>cases h
 | succ m=>exact ⟨m,rfl⟩
theorem ze6 {α β:Type} {f:α->α ⊕ β} {m:Nat} {z y:α} {r:β} (h:zfc f (m+1) z = .inr r) (hf:f z = .inl y):zfc f m y = .inr r:=by
 unfold zfc at h;rw [hf] at h;exact h
theorem zf7 {α β:Type} {f:α->α ⊕ β} {m:Nat} {z:α} {r q:β} (h:zfc f (m+1) z = .inr r) (hf:f z = .inr q):r=q:=by
 unfold zfc at h;rw [hf] at h;exact (Sum.inr.inj h).symm
section
variable {s:zan} {ps:List zb4} {au:zcy} {goal:PrD} {z y:LS} {L:Nat}
theorem goB_end (h:¬(z.ok=true/\0<z.way.length)):goB s ps au goal z = .inr (none,z.x):=by unfold goB;rw [if_neg h]
theorem goB_pop (h:z.ok=true/\0<z.way.length) (hm:zay z.way=false):goB s ps au goal z = .inl ⟨z.way.dropLast,z.ok,z.x⟩:=by unfold goB;rw [if_pos h,if_neg (by rw [hm];exact Bool.noConfusion)]
theorem goB_hit (h:z.ok=true/\0<z.way.length) (hm:zay z.way=true) (hg:(za1 z.way).to_=goal):goB s ps au goal z = .inr (some (zae z.way),z.x):=by unfold goB;rw [if_pos h,if_pos hm,if_pos hg]
theorem goB_old (h:z.ok=true/\0<z.way.length) (hm:zay z.way=true) (hg:¬(za1 z.way).to_=goal) (hk:(za1 z.way).to_ ∈ z.x.sc):goB s ps au goal z = .inl ⟨zae z.way,z.ok,z.x⟩:=by unfold goB;rw [if_pos h,if_pos hm,if_neg hg,if_pos hk]
theorem goB_new (h:z.ok=true/\0<z.way.length) (hm:zay z.way=true) (hg:¬(za1 z.way).to_=goal) (hk:(za1 z.way).to_ ∉ z.x.sc):goB s ps au goal z = .inl (LS.mk (bgW s ps au (SS.mk z.x.fuel z.x.out z.x.ls z.x.es z.x.fs (z.x.sc++[(za1 z.way).to_])) (zae z.way) (za1 z.way).to_) (bgB s ps au (SS.mk z.x.fuel z.x.out z.x.ls z.x.es z.x.fs (z.x.sc++[(za1 z.way).to_])) (za1 z.way).to_) (bgS s ps au (SS.mk z.x.fuel z.x.out z.x.ls z.x.es z.x.fs (z.x.sc++[(za1 z.way).to_])) (za1 z.way).to_)):=by unfold goB;rw [if_pos h,if_pos hm,if_neg hg,if_neg hk]
theorem LI.stepB (hz:LI au z) (hs:zb1 L s) (hau:zda au) (h:goB s ps au goal z = .inl y):LI au y:=by have h1:=goB_LI (ps:=ps) (goal:=goal) hs hau hz;rw [h] at h1;exact h1
theorem zde (way:List WkD):(zae way).length=way.length:=by unfold zae;simp
end
theorem SBackN (s:zan) (ps:List zb4) (au:zcy) (fu:Int) (ot:Bool) (ls es:List Int) (fs sc:List PrD) (goal:PrD) {L:Nat} (hs:zb1 L s) (hL:L<=1000) (hp:zc2 s) (hps:∀ p ∈ ps,zec L p) (hpl:ps.length<=1000) (hau:zda au) (hX:XI (SS.mk fu ot ls es fs sc)) (hg:okP au goal) (hr:(zal s ps au (SS.mk fu ot ls es fs sc) goal).1=none):Fn Tryz.prog 100 [(7,(bxS s ps au fu ot)),(1,.mp (mpL s ps ls)),(2,.mp (mpE s es)),(3,.mp (mpP fs)),(4,.mp (mpP sc))] [vp 7 0,.t (.agg [.d (.raw (.int .i64 goal.st)),.d (.raw (.int .i64 goal.nd))])] (.t (.c (.d (.raw za4)))) [(7,(bxS s ps au (zal s ps au (SS.mk fu ot ls es fs sc) goal).2.fuel (zal s ps au (SS.mk fu ot ls es fs sc) goal).2.out)),(1,.mp (mpL s ps (zal s ps au (SS.mk fu ot ls es fs sc) goal).2.ls)),(2,.mp (mpE s (zal s ps au (SS.mk fu ot ls es fs sc) goal).2.es)),(3,.mp (mpP (zal s ps au (SS.mk fu ot ls es fs sc) goal).2.fs)),(4,.mp (mpP (zal s ps au (SS.mk fu ot ls es fs sc) goal).2.sc))]:=by
 refine Fn.body Tryz.func100 rfl 67 rfl fun w H B a h=>?_
 refine Jq (htb:=za9) 30 [] [(0,vp 7 0),(3,vp 30 0),(4,.t (.c (.d (.raw za4))))] [(7,(bxS s ps au fu ot)),(1,.mp (mpL s ps ls)),(2,.mp (mpE s es)),(3,.mp (mpP fs)),(4,.mp (mpP sc)),(30,.box [.d (.raw (.int .i64 goal.st)),.d (.raw (.int .i64 goal.nd))])] h fun a w h=>?_;refine qW (Jp (htb:=za9) 31 [(1,.g (Op.nilQ (d:=10) (t:=9) (n:=7) (o:=0)))] [(0,vp 7 0),(3,vp 30 0),(4,.t (.c (.d (.raw za4)))),(12,vb ot)] h fun a w h=>?_);refine cS ot h (fun hc1=>?_) (fun hc2=>?_)
 ·refine Jp (htb:=za9) 31 [] [(0,vp 7 0),(3,vp 30 0),(4,.t (.c (.d (.raw za4))))] h fun a w h=>?_;refine qV (za2 ?_);have eR:(zal s ps au (SS.mk fu ot ls es fs sc) goal)=(none,(SS.mk fu ot ls es fs sc)):=ze9 hc1 goal;replace h:=h.conv (f':=F.of [(0,vp 7 0),(3,vp 30 0),(4,.t (.c (.d (.raw za4))))] [(7,(bxS s ps au (zal s ps au (SS.mk fu ot ls es fs sc) goal).2.fuel (zal s ps au (SS.mk fu ot ls es fs sc) goal).2.out)),(1,.mp (mpL s ps (zal s ps au (SS.mk fu ot ls es fs sc) goal).2.ls)),(2,.mp (mpE s (zal s ps au (SS.mk fu ot ls es fs sc) goal).2.es)),(3,.mp (mpP (zal s ps au (SS.mk fu ot ls es fs sc) goal).2.fs)),(4,.mp (mpP (zal s ps au (SS.mk fu ot ls es fs sc) goal).2.sc)),(30,.box [.d (.raw (.int .i64 goal.st)),.d (.raw (.int .i64 goal.nd))])]) (by rw [eR]);refine rT (.c (.d (.raw za4))) h rfl ?_;rfl
 refine qU (za0 (Jq (htb:=za9) 31 [(2,.call (SBegin0 s ps au fu ot ls es fs sc goal hs hL hp hps hpl hau hX.ls hX.es hg.2 hg.1 ⟨hX.f0,hX.f1⟩) qi1_0)] [(0,vp 7 0),(3,vp 30 0),(4,.t (.c (.d (.raw za4)))),(5,.t (.c (.own 14 (bgW s ps au (SS.mk fu ot ls es fs sc) [] goal).length))),(6,vb (bgB s ps au (SS.mk fu ot ls es fs sc) goal))] [(7,(bxS s ps au (tkF fu (1+((zb6 s ps au goal).length:Int))) (tkO fu ot (1+((zb6 s ps au goal).length:Int))))),(1,.mp (mpL s ps (lsM s au ls goal))),(2,.mp (mpE s (zcc es goal.st))),(3,.mp (mpP fs)),(4,.mp (mpP sc)),(30,.box [.d (.raw (.int .i64 goal.st)),.d (.raw (.int .i64 goal.nd))]),(14,.row 176 4 ((bgW s ps au (SS.mk fu ot ls es fs sc) [] goal).map WkD.d))] h fun a w h=>?_));refine qW (qZ ?_);replace h:=zd9 14 9 [(0,vp 7 0),(3,vp 30 0),(4,.t (.c (.d (.raw za4)))),(5,.t (.c (.own 9 (bgW s ps au (SS.mk fu ot ls es fs sc) [] goal).length))),(6,vb (bgB s ps au (SS.mk fu ot ls es fs sc) goal))] [(7,(bxS s ps au (tkF fu (1+((zb6 s ps au goal).length:Int))) (tkO fu ot (1+((zb6 s ps au goal).length:Int))))),(1,.mp (mpL s ps (lsM s au ls goal))),(2,.mp (mpE s (zcc es goal.st))),(3,.mp (mpP fs)),(4,.mp (mpP sc)),(30,.box [.d (.raw (.int .i64 goal.st)),.d (.raw (.int .i64 goal.nd))]),(9,.row 176 4 ((bgW s ps au (SS.mk fu ot ls es fs sc) [] goal).map WkD.d))] h;replace h:=h.conv (f':=F.of [(0,vp 7 0),(3,vp 30 0),(4,.t (.c (.d (.raw za4)))),(5,.t (.c (.own 9 (stB s ps au (SS.mk fu ot ls es fs sc) goal).way.length))),(6,vb (stB s ps au (SS.mk fu ot ls es fs sc) goal).ok)] [(7,(bxS s ps au (stB s ps au (SS.mk fu ot ls es fs sc) goal).x.fuel (stB s ps au (SS.mk fu ot ls es fs sc) goal).x.out)),(1,.mp (mpL s ps (stB s ps au (SS.mk fu ot ls es fs sc) goal).x.ls)),(2,.mp (mpE s (stB s ps au (SS.mk fu ot ls es fs sc) goal).x.es)),(3,.mp (mpP (stB s ps au (SS.mk fu ot ls es fs sc) goal).x.fs)),(4,.mp (mpP (stB s ps au (SS.mk fu ot ls es fs sc) goal).x.sc)),(30,.box [.d (.raw (.int .i64 goal.st)),.d (.raw (.int .i64 goal.nd))]),(9,.row 176 4 ((stB s ps au (SS.mk fu ot ls es fs sc) goal).way.map WkD.d))]) (by rw [(show (stB s ps au (SS.mk fu ot ls es fs sc) goal).x.fuel=tkF fu (1+((zb6 s ps au goal).length:Int)) from zfr (s:=s) (ps:=ps) (au:=au) (fu:=fu) (ot:=ot) (ls:=ls) (es:=es) (fs:=fs) (sc:=sc) (p:=goal)),(show (stB s ps au (SS.mk fu ot ls es fs sc) goal).x.out=tkO fu ot (1+((zb6 s ps au goal).length:Int)) from bg_ot (s:=s) (ps:=ps) (au:=au) (fu:=fu) (ot:=ot) (ls:=ls) (es:=es) (fs:=fs) (sc:=sc) (p:=goal)),(show (stB s ps au (SS.mk fu ot ls es fs sc) goal).x.ls=lsM s au ls goal from bg_ls (s:=s) (ps:=ps) (au:=au) (fu:=fu) (ot:=ot) (ls:=ls) (es:=es) (fs:=fs) (sc:=sc) (p:=goal)),(show (stB s ps au (SS.mk fu ot ls es fs sc) goal).x.es=zcc es goal.st from bg_es (s:=s) (ps:=ps) (au:=au) (fu:=fu) (ot:=ot) (ls:=ls) (es:=es) (fs:=fs) (sc:=sc) (p:=goal)),(show (stB s ps au (SS.mk fu ot ls es fs sc) goal).x.fs=fs from bg_fs (s:=s) (ps:=ps) (au:=au) (fu:=fu) (ot:=ot) (ls:=ls) (es:=es) (fs:=fs) (sc:=sc) (p:=goal)),(show (stB s ps au (SS.mk fu ot ls es fs sc) goal).x.sc=sc from bg_sc (s:=s) (ps:=ps) (au:=au) (fu:=fu) (ot:=ot) (ls:=ls) (es:=es) (fs:=fs) (sc:=sc) (p:=goal))];try rfl);have hzB:=stB_LI (ps:=ps) hs hau hX hg;have hrun:=ze8 (s:=s) (ps:=ps) (a:=au) (x:=(SS.mk fu ot ls es fs sc)) hX.f0 hc2 goal
 refine zb5 (ι:=(LS) × (Nat)) (fun (z,n)=>LI au z/\zfc (goB s ps au goal) n z = .inr (zal s ps au (SS.mk fu ot ls es fs sc) goal))
   (fun (z,n)=>[(0,vp 7 0),(3,vp 30 0),(5,.t (.c (.own 9 z.way.length))),(6,vb z.ok)])
   (fun (z,n)=>[(7,(bxS s ps au z.x.fuel z.x.out)),(1,.mp (mpL s ps z.x.ls)),(2,.mp (mpE s z.x.es)),(3,.mp (mpP z.x.fs)),(4,.mp (mpP z.x.sc)),(30,.box [.d (.raw (.int .i64 goal.st)),.d (.raw (.int .i64 goal.nd))]),(9,.row 176 4 (z.way.map WkD.d))])
   (fun (z,n)=>n) ((stB s ps au (SS.mk fu ot ls es fs sc) goal),mu (stB s ps au (SS.mk fu ot ls es fs sc) goal)+1) ?_ h (by kernel_rfl) (by kernel_rfl) ?_
 ·exact ⟨hzB,hrun⟩
 clear h;rintro ⟨z,n⟩ a w hI h;dsimp only at h;obtain ⟨hI1,hI2⟩:=hI;obtain ⟨m,hm8⟩:=zil hI2;rw [hm8] at hI2;refine qW ?_
 rcases Bool.eq_false_or_eq_true z.ok with hc3 | hc12
 ·rw [hc3] at h;refine Jq (htb:=za9) 31 [] [(0,vp 7 0),(3,vp 30 0),(5,.t (.c (.own 9 z.way.length))),(6,vb true),(24,vb (decide ((z.way.length:Int)>0)))] [(7,(bxS s ps au z.x.fuel z.x.out)),(1,.mp (mpL s ps z.x.ls)),(2,.mp (mpE s z.x.es)),(3,.mp (mpP z.x.fs)),(4,.mp (mpP z.x.sc)),(30,.box [.d (.raw (.int .i64 goal.st)),.d (.raw (.int .i64 goal.nd))]),(9,.row 176 4 (z.way.map WkD.d))] h fun a w h=>?_;refine zap ((z.way.length:Int)>0) h (fun hc4 hc4'=>?_) (fun hc11 hc11'=>?_)
  ·refine qU (za0 (qZ ?_));have hw0:0<z.way.length:=by have:=dT hc4;omega
   have hwm:z.way.length<=1000000000000:=by have:=hI1.len;have:=hI1.x.f0;omega
   have hwd:∀ w ∈ z.way,w.done<=w.moves.length:=fun w hw=>(hI1.way w hw).done
   have hwl:∀ w ∈ z.way,w.moves.length<=1000000000000:=fun w hw=>Nat.le_trans (hI1.way w hw).len (by decide)
   refine Jq (htb:=za9) 31 [(1,.call (SNext z.way hw0 hwm hwd hwl) qi1_1)] [(0,vp 7 0),(3,vp 30 0),(5,.t (.c (.own 9 z.way.length))),(6,vb true),(7,vp 31 0),(8,vb (zay z.way))] [(7,(bxS s ps au z.x.fuel z.x.out)),(1,.mp (mpL s ps z.x.ls)),(2,.mp (mpE s z.x.es)),(3,.mp (mpP z.x.fs)),(4,.mp (mpP z.x.sc)),(30,.box [.d (.raw (.int .i64 goal.st)),.d (.raw (.int .i64 goal.nd))]),(9,.row 176 4 ((if zay z.way=true then zae z.way else z.way).map WkD.d)),(31,.box [.d (.raw (.int .i64 (if zay z.way=true then za1 z.way else mvz).act)),.d (.raw (.int .i64 (if zay z.way=true then za1 z.way else mvz).to_.st)),.d (.raw (.int .i64 (if zay z.way=true then za1 z.way else mvz).to_.nd))])] h fun a w h=>?_;refine qZ (Jp (htb:=za9) 32 [] [(0,vp 7 0),(3,vp 30 0),(5,.t (.c (.own 9 z.way.length))),(6,vb true),(7,vp 31 0),(30,vb (!(zay z.way)))] h fun a w h=>?_);refine cS (!(zay z.way)) h (fun hc5=>?_) (fun hc6=>?_)
   ·have hc5':=hc5;(try simp at hc5');have hmo:zay z.way=false:=(show (zay z.way)=false by have:=hc5;simpa using this);replace h:=h.conv (f':=F.of [(0,vp 7 0),(3,vp 30 0),(5,.t (.c (.own 9 z.way.length))),(6,vb true),(7,vp 31 0),(30,vb (!(zay z.way)))] [(7,(bxS s ps au z.x.fuel z.x.out)),(1,.mp (mpL s ps z.x.ls)),(2,.mp (mpE s z.x.es)),(3,.mp (mpP z.x.fs)),(4,.mp (mpP z.x.sc)),(30,.box [.d (.raw (.int .i64 goal.st)),.d (.raw (.int .i64 goal.nd))]),(9,.row 176 4 (z.way.map WkD.d)),(31,.box [.d (.raw (.int .i64 mvz.act)),.d (.raw (.int .i64 mvz.to_.st)),.d (.raw (.int .i64 mvz.to_.nd))])]) (by first | rw [if_neg (by rw [hmo];exact Bool.noConfusion),if_neg (by rw [hmo];exact Bool.noConfusion)] | rw [if_neg (by rw [hmo];exact Bool.noConfusion)]);refine Jn (htb:=za9) 32 [(3,.g (Op.arith (op:=.sub) (d:=36) (xt:=3) (yt:=3) (k:=.i64) (m:=(z.way.length:Int)) (n:=1) (r:=((z.way.length - 1:Nat):Int)) (OV.tmp 35 _) (OV.const (.int .i64 1) rfl) (.inr (.inl ⟨rfl,by omega⟩)) i6)),(4,.g (Op.sliceHi (d:=37) (t:=33) (k:=.i64) (n:=9) (len:=z.way.length) (h:=(z.way.length - 1)) (rows:=z.way.map WkD.d) (rty:=176) zf9 (by rw [List.length_map];exact Nat.sub_le _ _) (OV.tmp 36 _)))] [(0,vp 7 0),(3,vp 30 0),(5,.t (.c (.own 9 (z.way.length - 1)))),(6,vb true)] [(7,(bxS s ps au z.x.fuel z.x.out)),(1,.mp (mpL s ps z.x.ls)),(2,.mp (mpE s z.x.es)),(3,.mp (mpP z.x.fs)),(4,.mp (mpP z.x.sc)),(30,.box [.d (.raw (.int .i64 goal.st)),.d (.raw (.int .i64 goal.nd))]),(9,.row 176 4 (z.way.map WkD.d))] h fun a w h=>?_;refine zac (zac (za0 ?_));replace h:=cutS 9 (z.way.length - 1) 4 176 (z.way.map WkD.d) [(0,vp 7 0),(3,vp 30 0),(5,.t (.c (.own 9 (z.way.length - 1)))),(6,vb true)] [(7,(bxS s ps au z.x.fuel z.x.out)),(1,.mp (mpL s ps z.x.ls)),(2,.mp (mpE s z.x.es)),(3,.mp (mpP z.x.fs)),(4,.mp (mpP z.x.sc)),(30,.box [.d (.raw (.int .i64 goal.st)),.d (.raw (.int .i64 goal.nd))]),(9,.row 176 4 ((z.way.map WkD.d).take (z.way.length - 1)))] h rfl (by kernel_rfl) (by kernel_rfl);replace h:=h.conv (f':=F.of [(0,vp 7 0),(3,vp 30 0),(5,.t (.c (.own 9 z.way.dropLast.length))),(6,vb true)] [(7,(bxS s ps au z.x.fuel z.x.out)),(1,.mp (mpL s ps z.x.ls)),(2,.mp (mpE s z.x.es)),(3,.mp (mpP z.x.fs)),(4,.mp (mpP z.x.sc)),(30,.box [.d (.raw (.int .i64 goal.st)),.d (.raw (.int .i64 goal.nd))]),(9,.row 176 4 (z.way.dropLast.map WkD.d))]) (by rw [List.length_dropLast,List.dropLast_eq_take,List.map_take];try rfl);have hgo:=goB_pop (s:=s) (ps:=ps) (au:=au) (goal:=goal) ⟨hc3,hw0⟩ (show (zay z.way)=false by have:=hc5;simpa using this);replace h:=h.conv (f':=F.of [(0,vp 7 0),(3,vp 30 0),(5,.t (.c (.own 9 (LS.mk z.way.dropLast z.ok z.x).way.length))),(6,vb (LS.mk z.way.dropLast z.ok z.x).ok)] [(7,(bxS s ps au (LS.mk z.way.dropLast z.ok z.x).x.fuel (LS.mk z.way.dropLast z.ok z.x).x.out)),(1,.mp (mpL s ps (LS.mk z.way.dropLast z.ok z.x).x.ls)),(2,.mp (mpE s (LS.mk z.way.dropLast z.ok z.x).x.es)),(3,.mp (mpP (LS.mk z.way.dropLast z.ok z.x).x.fs)),(4,.mp (mpP (LS.mk z.way.dropLast z.ok z.x).x.sc)),(30,.box [.d (.raw (.int .i64 goal.st)),.d (.raw (.int .i64 goal.nd))]),(9,.row 176 4 ((LS.mk z.way.dropLast z.ok z.x).way.map WkD.d))]) (by rw [show (LS.mk z.way.dropLast z.ok z.x).ok=true from hc3];try rfl);refine zag (x:=(z,n)) (y:=((LS.mk z.way.dropLast z.ok z.x),m)) h ?_ ?_
    ·exact ⟨hI1.stepB hs hau hgo,ze6 hI2 hgo⟩
    show m<n;omega
   have hc6':=hc6;(try simp at hc6');have hmo:zay z.way=true:=(show (zay z.way)=true by have:=hc6;simpa using this);have hto:=(zhj hI1.way hw0 hmo).2.1;replace h:=h.conv (f':=F.of [(0,vp 7 0),(3,vp 30 0),(5,.t (.c (.own 9 z.way.length))),(6,vb true),(7,vp 31 0),(30,vb (!(zay z.way)))] [(7,(bxS s ps au z.x.fuel z.x.out)),(1,.mp (mpL s ps z.x.ls)),(2,.mp (mpE s z.x.es)),(3,.mp (mpP z.x.fs)),(4,.mp (mpP z.x.sc)),(30,.box [.d (.raw (.int .i64 goal.st)),.d (.raw (.int .i64 goal.nd))]),(9,.row 176 4 ((zae z.way).map WkD.d)),(31,.box [.d (.raw (.int .i64 (za1 z.way).act)),.d (.raw (.int .i64 (za1 z.way).to_.st)),.d (.raw (.int .i64 (za1 z.way).to_.nd))])]) (by first | rw [if_pos hmo,if_pos hmo] | rw [if_pos hmo]);replace h:=h.conv (f':=F.of [(0,vp 7 0),(3,vp 30 0),(5,.t (.c (.own 9 (zae z.way).length))),(6,vb true),(7,vp 31 0),(30,vb (!(zay z.way)))] [(7,(bxS s ps au z.x.fuel z.x.out)),(1,.mp (mpL s ps z.x.ls)),(2,.mp (mpE s z.x.es)),(3,.mp (mpP z.x.fs)),(4,.mp (mpP z.x.sc)),(30,.box [.d (.raw (.int .i64 goal.st)),.d (.raw (.int .i64 goal.nd))]),(9,.row 176 4 ((zae z.way).map WkD.d)),(31,.box [.d (.raw (.int .i64 (za1 z.way).act)),.d (.raw (.int .i64 (za1 z.way).to_.st)),.d (.raw (.int .i64 (za1 z.way).to_.nd))])]) (by rw [zde]);refine Jq (htb:=za9) 32 [(3,.g (Op.eqPr (d:=42) (x:=40) (y:=41) (p:=(za1 z.way).to_) (q:=goal) (zd4 hau hto) (zd4 hau hg)))] [(0,vp 7 0),(3,vp 30 0),(5,.t (.c (.own 9 (zae z.way).length))),(6,vb true),(7,vp 31 0),(38,vb (decide ((za1 z.way).to_=goal)))] [(7,(bxS s ps au z.x.fuel z.x.out)),(1,.mp (mpL s ps z.x.ls)),(2,.mp (mpE s z.x.es)),(3,.mp (mpP z.x.fs)),(4,.mp (mpP z.x.sc)),(30,.box [.d (.raw (.int .i64 goal.st)),.d (.raw (.int .i64 goal.nd))]),(9,.row 176 4 ((zae z.way).map WkD.d)),(31,.box [.d (.raw (.int .i64 (za1 z.way).act)),.d (.raw (.int .i64 (za1 z.way).to_.st)),.d (.raw (.int .i64 (za1 z.way).to_.nd))])] h fun a w h=>?_;refine zap ((za1 z.way).to_=goal) h (fun hc7 hc7'=>?_) (fun hc8 hc8'=>?_)
   ·refine Jq (htb:=za9) 32 [] [(0,vp 7 0),(3,vp 30 0),(4,.t (.c (.own 9 (zae z.way).length))),(5,.t (.c (.own 9 (zae z.way).length))),(6,vb true)] [(7,(bxS s ps au z.x.fuel z.x.out)),(1,.mp (mpL s ps z.x.ls)),(2,.mp (mpE s z.x.es)),(3,.mp (mpP z.x.fs)),(4,.mp (mpP z.x.sc)),(30,.box [.d (.raw (.int .i64 goal.st)),.d (.raw (.int .i64 goal.nd))]),(9,.row 176 4 ((zae z.way).map WkD.d))] h fun a w h=>?_;refine qV (za7 (za7 (za2 (za7 (za2 ?_)))));have eR:=zf7 hI2 (goB_hit (s:=s) (ps:=ps) (au:=au) ⟨hc3,hw0⟩ hmo (dT hc7));rw [eR] at hr;cases hr
   refine Jp (htb:=za9) 32 [(1,.g (Op.nilQ (d:=46) (t:=45) (n:=7) (o:=0))),(6,.g (Op.lkP (d:=51) (t:=48) (m:=4) (x:=50) (p:=(za1 z.way).to_) (fs:=z.x.sc) (q:=(decide ((za1 z.way).to_ ∈ z.x.sc))) hI1.x.sc (zd4 hau hto) rfl))] [(0,vp 7 0),(3,vp 30 0),(5,.t (.c (.own 9 (zae z.way).length))),(6,vb true),(7,vp 31 0),(44,vb (!(decide ((za1 z.way).to_ ∈ z.x.sc))))] h fun a w h=>?_;refine cS (!(decide ((za1 z.way).to_ ∈ z.x.sc))) h (fun hc9=>?_) (fun hc10=>?_)
   ·have hc9':=hc9;(try simp at hc9');refine Jq (htb:=za9) 32 [(1,.g (Op.nilQ (d:=54) (t:=53) (n:=7) (o:=0))),(6,.g (Op.upP (t:=56) (m:=4) (x:=58) (p:=(za1 z.way).to_) (fs:=z.x.sc) hI1.x.sc (zd4 hau hto) (dF (show (decide ((za1 z.way).to_ ∈ z.x.sc))=false by have:=hc9;simpa using this))))] [(0,vp 7 0),(3,vp 30 0),(5,.t (.c (.own 9 (zae z.way).length))),(6,vb true),(7,vp 31 0)] [(7,(bxS s ps au z.x.fuel z.x.out)),(1,.mp (mpL s ps z.x.ls)),(2,.mp (mpE s z.x.es)),(3,.mp (mpP z.x.fs)),(4,.mp (mpP (z.x.sc++[(za1 z.way).to_]))),(30,.box [.d (.raw (.int .i64 goal.st)),.d (.raw (.int .i64 goal.nd))]),(9,.row 176 4 ((zae z.way).map WkD.d)),(31,.box [.d (.raw (.int .i64 (za1 z.way).act)),.d (.raw (.int .i64 (za1 z.way).to_.st)),.d (.raw (.int .i64 (za1 z.way).to_.nd))])] h fun a w h=>?_;refine Jn (htb:=za9) 32 [(4,.call (SBegin s ps au z.x.fuel z.x.out z.x.ls z.x.es z.x.fs (z.x.sc++[(za1 z.way).to_]) (zae z.way) (za1 z.way).to_ hs hL hp hps hpl hau hI1.x.ls hI1.x.es hto.2 hto.1 ⟨hI1.x.f0,hI1.x.f1⟩ (by rw [zde];have:=hI1.len;have:=hI1.x.f0;omega)) qi1_0)] [(0,vp 7 0),(3,vp 30 0),(5,.t (.c (.own 14 (bgW s ps au (SS.mk z.x.fuel z.x.out z.x.ls z.x.es z.x.fs (z.x.sc++[(za1 z.way).to_])) (zae z.way) (za1 z.way).to_).length))),(6,vb (bgB s ps au (SS.mk z.x.fuel z.x.out z.x.ls z.x.es z.x.fs (z.x.sc++[(za1 z.way).to_])) (za1 z.way).to_))] [(7,(bxS s ps au (tkF z.x.fuel (1+((zb6 s ps au (za1 z.way).to_).length:Int))) (tkO z.x.fuel z.x.out (1+((zb6 s ps au (za1 z.way).to_).length:Int))))),(1,.mp (mpL s ps (lsM s au z.x.ls (za1 z.way).to_))),(2,.mp (mpE s (zcc z.x.es (za1 z.way).to_.st))),(3,.mp (mpP z.x.fs)),(4,.mp (mpP (z.x.sc++[(za1 z.way).to_]))),(30,.box [.d (.raw (.int .i64 goal.st)),.d (.raw (.int .i64 goal.nd))]),(14,.row 176 4 ((bgW s ps au (SS.mk z.x.fuel z.x.out z.x.ls z.x.es z.x.fs (z.x.sc++[(za1 z.way).to_])) (zae z.way) (za1 z.way).to_).map WkD.d))] h fun a w h=>?_;refine zac (zac (za0 ?_));have hgo:=goB_new (s:=s) (ps:=ps) (au:=au) ⟨hc3,hw0⟩ (show (zay z.way)=true by have:=hc6;simpa using this) (dF hc8) (dF (show (decide ((za1 z.way).to_ ∈ z.x.sc))=false by have:=hc9;simpa using this));replace h:=zd9 14 9 [(0,vp 7 0),(3,vp 30 0),(5,.t (.c (.own 9 (bgW s ps au (SS.mk z.x.fuel z.x.out z.x.ls z.x.es z.x.fs (z.x.sc++[(za1 z.way).to_])) (zae z.way) (za1 z.way).to_).length))),(6,vb (bgB s ps au (SS.mk z.x.fuel z.x.out z.x.ls z.x.es z.x.fs (z.x.sc++[(za1 z.way).to_])) (za1 z.way).to_))] [(7,(bxS s ps au (tkF z.x.fuel (1+((zb6 s ps au (za1 z.way).to_).length:Int))) (tkO z.x.fuel z.x.out (1+((zb6 s ps au (za1 z.way).to_).length:Int))))),(1,.mp (mpL s ps (lsM s au z.x.ls (za1 z.way).to_))),(2,.mp (mpE s (zcc z.x.es (za1 z.way).to_.st))),(3,.mp (mpP z.x.fs)),(4,.mp (mpP (z.x.sc++[(za1 z.way).to_]))),(30,.box [.d (.raw (.int .i64 goal.st)),.d (.raw (.int .i64 goal.nd))]),(9,.row 176 4 ((bgW s ps au (SS.mk z.x.fuel z.x.out z.x.ls z.x.es z.x.fs (z.x.sc++[(za1 z.way).to_])) (zae z.way) (za1 z.way).to_).map WkD.d))] h;replace h:=h.conv (f':=F.of [(0,vp 7 0),(3,vp 30 0),(5,.t (.c (.own 9 (LS.mk (bgW s ps au (SS.mk z.x.fuel z.x.out z.x.ls z.x.es z.x.fs (z.x.sc++[(za1 z.way).to_])) (zae z.way) (za1 z.way).to_) (bgB s ps au (SS.mk z.x.fuel z.x.out z.x.ls z.x.es z.x.fs (z.x.sc++[(za1 z.way).to_])) (za1 z.way).to_) (bgS s ps au (SS.mk z.x.fuel z.x.out z.x.ls z.x.es z.x.fs (z.x.sc++[(za1 z.way).to_])) (za1 z.way).to_)).way.length))),(6,vb (LS.mk (bgW s ps au (SS.mk z.x.fuel z.x.out z.x.ls z.x.es z.x.fs (z.x.sc++[(za1 z.way).to_])) (zae z.way) (za1 z.way).to_) (bgB s ps au (SS.mk z.x.fuel z.x.out z.x.ls z.x.es z.x.fs (z.x.sc++[(za1 z.way).to_])) (za1 z.way).to_) (bgS s ps au (SS.mk z.x.fuel z.x.out z.x.ls z.x.es z.x.fs (z.x.sc++[(za1 z.way).to_])) (za1 z.way).to_)).ok)] [(7,(bxS s ps au (LS.mk (bgW s ps au (SS.mk z.x.fuel z.x.out z.x.ls z.x.es z.x.fs (z.x.sc++[(za1 z.way).to_])) (zae z.way) (za1 z.way).to_) (bgB s ps au (SS.mk z.x.fuel z.x.out z.x.ls z.x.es z.x.fs (z.x.sc++[(za1 z.way).to_])) (za1 z.way).to_) (bgS s ps au (SS.mk z.x.fuel z.x.out z.x.ls z.x.es z.x.fs (z.x.sc++[(za1 z.way).to_])) (za1 z.way).to_)).x.fuel (LS.mk (bgW s ps au (SS.mk z.x.fuel z.x.out z.x.ls z.x.es z.x.fs (z.x.sc++[(za1 z.way).to_])) (zae z.way) (za1 z.way).to_) (bgB s ps au (SS.mk z.x.fuel z.x.out z.x.ls z.x.es z.x.fs (z.x.sc++[(za1 z.way).to_])) (za1 z.way).to_) (bgS s ps au (SS.mk z.x.fuel z.x.out z.x.ls z.x.es z.x.fs (z.x.sc++[(za1 z.way).to_])) (za1 z.way).to_)).x.out)),(1,.mp (mpL s ps (LS.mk (bgW s ps au (SS.mk z.x.fuel z.x.out z.x.ls z.x.es z.x.fs (z.x.sc++[(za1 z.way).to_])) (zae z.way) (za1 z.way).to_) (bgB s ps au (SS.mk z.x.fuel z.x.out z.x.ls z.x.es z.x.fs (z.x.sc++[(za1 z.way).to_])) (za1 z.way).to_) (bgS s ps au (SS.mk z.x.fuel z.x.out z.x.ls z.x.es z.x.fs (z.x.sc++[(za1 z.way).to_])) (za1 z.way).to_)).x.ls)),(2,.mp (mpE s (LS.mk (bgW s ps au (SS.mk z.x.fuel z.x.out z.x.ls z.x.es z.x.fs (z.x.sc++[(za1 z.way).to_])) (zae z.way) (za1 z.way).to_) (bgB s ps au (SS.mk z.x.fuel z.x.out z.x.ls z.x.es z.x.fs (z.x.sc++[(za1 z.way).to_])) (za1 z.way).to_) (bgS s ps au (SS.mk z.x.fuel z.x.out z.x.ls z.x.es z.x.fs (z.x.sc++[(za1 z.way).to_])) (za1 z.way).to_)).x.es)),(3,.mp (mpP (LS.mk (bgW s ps au (SS.mk z.x.fuel z.x.out z.x.ls z.x.es z.x.fs (z.x.sc++[(za1 z.way).to_])) (zae z.way) (za1 z.way).to_) (bgB s ps au (SS.mk z.x.fuel z.x.out z.x.ls z.x.es z.x.fs (z.x.sc++[(za1 z.way).to_])) (za1 z.way).to_) (bgS s ps au (SS.mk z.x.fuel z.x.out z.x.ls z.x.es z.x.fs (z.x.sc++[(za1 z.way).to_])) (za1 z.way).to_)).x.fs)),(4,.mp (mpP (LS.mk (bgW s ps au (SS.mk z.x.fuel z.x.out z.x.ls z.x.es z.x.fs (z.x.sc++[(za1 z.way).to_])) (zae z.way) (za1 z.way).to_) (bgB s ps au (SS.mk z.x.fuel z.x.out z.x.ls z.x.es z.x.fs (z.x.sc++[(za1 z.way).to_])) (za1 z.way).to_) (bgS s ps au (SS.mk z.x.fuel z.x.out z.x.ls z.x.es z.x.fs (z.x.sc++[(za1 z.way).to_])) (za1 z.way).to_)).x.sc)),(30,.box [.d (.raw (.int .i64 goal.st)),.d (.raw (.int .i64 goal.nd))]),(9,.row 176 4 ((LS.mk (bgW s ps au (SS.mk z.x.fuel z.x.out z.x.ls z.x.es z.x.fs (z.x.sc++[(za1 z.way).to_])) (zae z.way) (za1 z.way).to_) (bgB s ps au (SS.mk z.x.fuel z.x.out z.x.ls z.x.es z.x.fs (z.x.sc++[(za1 z.way).to_])) (za1 z.way).to_) (bgS s ps au (SS.mk z.x.fuel z.x.out z.x.ls z.x.es z.x.fs (z.x.sc++[(za1 z.way).to_])) (za1 z.way).to_)).way.map WkD.d))]) (by rw [(show (LS.mk (bgW s ps au (SS.mk z.x.fuel z.x.out z.x.ls z.x.es z.x.fs (z.x.sc++[(za1 z.way).to_])) (zae z.way) (za1 z.way).to_) (bgB s ps au (SS.mk z.x.fuel z.x.out z.x.ls z.x.es z.x.fs (z.x.sc++[(za1 z.way).to_])) (za1 z.way).to_) (bgS s ps au (SS.mk z.x.fuel z.x.out z.x.ls z.x.es z.x.fs (z.x.sc++[(za1 z.way).to_])) (za1 z.way).to_)).x.fuel=tkF z.x.fuel (1+((zb6 s ps au (za1 z.way).to_).length:Int)) from zfr (s:=s) (ps:=ps) (au:=au) (fu:=z.x.fuel) (ot:=z.x.out) (ls:=z.x.ls) (es:=z.x.es) (fs:=z.x.fs) (sc:=(z.x.sc++[(za1 z.way).to_])) (p:=(za1 z.way).to_)),(show (LS.mk (bgW s ps au (SS.mk z.x.fuel z.x.out z.x.ls z.x.es z.x.fs (z.x.sc++[(za1 z.way).to_])) (zae z.way) (za1 z.way).to_) (bgB s ps au (SS.mk z.x.fuel z.x.out z.x.ls z.x.es z.x.fs (z.x.sc++[(za1 z.way).to_])) (za1 z.way).to_) (bgS s ps au (SS.mk z.x.fuel z.x.out z.x.ls z.x.es z.x.fs (z.x.sc++[(za1 z.way).to_])) (za1 z.way).to_)).x.out=tkO z.x.fuel z.x.out (1+((zb6 s ps au (za1 z.way).to_).length:Int)) from bg_ot (s:=s) (ps:=ps) (au:=au) (fu:=z.x.fuel) (ot:=z.x.out) (ls:=z.x.ls) (es:=z.x.es) (fs:=z.x.fs) (sc:=(z.x.sc++[(za1 z.way).to_])) (p:=(za1 z.way).to_)),(show (LS.mk (bgW s ps au (SS.mk z.x.fuel z.x.out z.x.ls z.x.es z.x.fs (z.x.sc++[(za1 z.way).to_])) (zae z.way) (za1 z.way).to_) (bgB s ps au (SS.mk z.x.fuel z.x.out z.x.ls z.x.es z.x.fs (z.x.sc++[(za1 z.way).to_])) (za1 z.way).to_) (bgS s ps au (SS.mk z.x.fuel z.x.out z.x.ls z.x.es z.x.fs (z.x.sc++[(za1 z.way).to_])) (za1 z.way).to_)).x.ls=lsM s au z.x.ls (za1 z.way).to_ from bg_ls (s:=s) (ps:=ps) (au:=au) (fu:=z.x.fuel) (ot:=z.x.out) (ls:=z.x.ls) (es:=z.x.es) (fs:=z.x.fs) (sc:=(z.x.sc++[(za1 z.way).to_])) (p:=(za1 z.way).to_)),(show (LS.mk (bgW s ps au (SS.mk z.x.fuel z.x.out z.x.ls z.x.es z.x.fs (z.x.sc++[(za1 z.way).to_])) (zae z.way) (za1 z.way).to_) (bgB s ps au (SS.mk z.x.fuel z.x.out z.x.ls z.x.es z.x.fs (z.x.sc++[(za1 z.way).to_])) (za1 z.way).to_) (bgS s ps au (SS.mk z.x.fuel z.x.out z.x.ls z.x.es z.x.fs (z.x.sc++[(za1 z.way).to_])) (za1 z.way).to_)).x.es=zcc z.x.es (za1 z.way).to_.st from bg_es (s:=s) (ps:=ps) (au:=au) (fu:=z.x.fuel) (ot:=z.x.out) (ls:=z.x.ls) (es:=z.x.es) (fs:=z.x.fs) (sc:=(z.x.sc++[(za1 z.way).to_])) (p:=(za1 z.way).to_)),(show (LS.mk (bgW s ps au (SS.mk z.x.fuel z.x.out z.x.ls z.x.es z.x.fs (z.x.sc++[(za1 z.way).to_])) (zae z.way) (za1 z.way).to_) (bgB s ps au (SS.mk z.x.fuel z.x.out z.x.ls z.x.es z.x.fs (z.x.sc++[(za1 z.way).to_])) (za1 z.way).to_) (bgS s ps au (SS.mk z.x.fuel z.x.out z.x.ls z.x.es z.x.fs (z.x.sc++[(za1 z.way).to_])) (za1 z.way).to_)).x.fs=z.x.fs from bg_fs (s:=s) (ps:=ps) (au:=au) (fu:=z.x.fuel) (ot:=z.x.out) (ls:=z.x.ls) (es:=z.x.es) (fs:=z.x.fs) (sc:=(z.x.sc++[(za1 z.way).to_])) (p:=(za1 z.way).to_)),(show (LS.mk (bgW s ps au (SS.mk z.x.fuel z.x.out z.x.ls z.x.es z.x.fs (z.x.sc++[(za1 z.way).to_])) (zae z.way) (za1 z.way).to_) (bgB s ps au (SS.mk z.x.fuel z.x.out z.x.ls z.x.es z.x.fs (z.x.sc++[(za1 z.way).to_])) (za1 z.way).to_) (bgS s ps au (SS.mk z.x.fuel z.x.out z.x.ls z.x.es z.x.fs (z.x.sc++[(za1 z.way).to_])) (za1 z.way).to_)).x.sc=(z.x.sc++[(za1 z.way).to_]) from bg_sc (s:=s) (ps:=ps) (au:=au) (fu:=z.x.fuel) (ot:=z.x.out) (ls:=z.x.ls) (es:=z.x.es) (fs:=z.x.fs) (sc:=(z.x.sc++[(za1 z.way).to_])) (p:=(za1 z.way).to_))];try rfl);refine zag (x:=(z,n)) (y:=((LS.mk (bgW s ps au (SS.mk z.x.fuel z.x.out z.x.ls z.x.es z.x.fs (z.x.sc++[(za1 z.way).to_])) (zae z.way) (za1 z.way).to_) (bgB s ps au (SS.mk z.x.fuel z.x.out z.x.ls z.x.es z.x.fs (z.x.sc++[(za1 z.way).to_])) (za1 z.way).to_) (bgS s ps au (SS.mk z.x.fuel z.x.out z.x.ls z.x.es z.x.fs (z.x.sc++[(za1 z.way).to_])) (za1 z.way).to_)),m)) h ?_ ?_
    ·exact ⟨hI1.stepB hs hau hgo,ze6 hI2 hgo⟩
    show m<n;omega
   have hc10':=hc10;(try simp at hc10');refine qU (zac (zac (za0 ?_)));have hgo:=goB_old (s:=s) (ps:=ps) (au:=au) ⟨hc3,hw0⟩ (show (zay z.way)=true by have:=hc6;simpa using this) (dF hc8) (dT (show (decide ((za1 z.way).to_ ∈ z.x.sc))=true by have:=hc10;simpa using this));replace h:=h.conv (f':=F.of [(0,vp 7 0),(3,vp 30 0),(5,.t (.c (.own 9 (LS.mk (zae z.way) z.ok z.x).way.length))),(6,vb (LS.mk (zae z.way) z.ok z.x).ok),(7,vp 31 0),(44,vb (!(decide ((za1 z.way).to_ ∈ z.x.sc))))] [(7,(bxS s ps au (LS.mk (zae z.way) z.ok z.x).x.fuel (LS.mk (zae z.way) z.ok z.x).x.out)),(1,.mp (mpL s ps (LS.mk (zae z.way) z.ok z.x).x.ls)),(2,.mp (mpE s (LS.mk (zae z.way) z.ok z.x).x.es)),(3,.mp (mpP (LS.mk (zae z.way) z.ok z.x).x.fs)),(4,.mp (mpP (LS.mk (zae z.way) z.ok z.x).x.sc)),(30,.box [.d (.raw (.int .i64 goal.st)),.d (.raw (.int .i64 goal.nd))]),(9,.row 176 4 ((LS.mk (zae z.way) z.ok z.x).way.map WkD.d)),(31,.box [.d (.raw (.int .i64 (za1 z.way).act)),.d (.raw (.int .i64 (za1 z.way).to_.st)),.d (.raw (.int .i64 (za1 z.way).to_.nd))])]) (by rw [show (LS.mk (zae z.way) z.ok z.x).ok=true from hc3];try rfl);refine zag (x:=(z,n)) (y:=((LS.mk (zae z.way) z.ok z.x),m)) h ?_ ?_
   ·exact ⟨hI1.stepB hs hau hgo,ze6 hI2 hgo⟩
   show m<n;omega
  refine wp_exit (zaa (zaa (za5 (za0 (Jq (htb:=za9) 32 [] [(4,.t (.c (.d (.raw za4))))] [(7,(bxS s ps au z.x.fuel z.x.out)),(1,.mp (mpL s ps z.x.ls)),(2,.mp (mpE s z.x.es)),(3,.mp (mpP z.x.fs)),(4,.mp (mpP z.x.sc))] h fun a w h=>?_)))));refine qV ?_;have eR:=zf7 hI2 (goB_end (s:=s) (ps:=ps) (au:=au) (goal:=goal) (fun h8=>by have:=dF hc11;have:=h8.2;omega));replace h:=h.conv (f':=F.of [(4,.t (.c (.d (.raw za4))))] [(7,(bxS s ps au (zal s ps au (SS.mk fu ot ls es fs sc) goal).2.fuel (zal s ps au (SS.mk fu ot ls es fs sc) goal).2.out)),(1,.mp (mpL s ps (zal s ps au (SS.mk fu ot ls es fs sc) goal).2.ls)),(2,.mp (mpE s (zal s ps au (SS.mk fu ot ls es fs sc) goal).2.es)),(3,.mp (mpP (zal s ps au (SS.mk fu ot ls es fs sc) goal).2.fs)),(4,.mp (mpP (zal s ps au (SS.mk fu ot ls es fs sc) goal).2.sc))]) (by rw [eR]);refine rT (.c (.d (.raw za4))) h rfl ?_;rfl
 rw [hc12] at h;refine Jq (htb:=za9) 32 [] [(0,vp 7 0),(3,vp 30 0),(5,.t (.c (.own 9 z.way.length))),(6,vb false),(24,vb false)] [(7,(bxS s ps au z.x.fuel z.x.out)),(1,.mp (mpL s ps z.x.ls)),(2,.mp (mpE s z.x.es)),(3,.mp (mpP z.x.fs)),(4,.mp (mpP z.x.sc)),(30,.box [.d (.raw (.int .i64 goal.st)),.d (.raw (.int .i64 goal.nd))]),(9,.row 176 4 (z.way.map WkD.d))] h fun a w h=>?_;refine zbn false h rfl nofun (fun _=>?_)
 refine wp_exit (zaa (zaa (za5 (za0 (Jq (htb:=za9) 32 [] [(4,.t (.c (.d (.raw za4))))] [(7,(bxS s ps au z.x.fuel z.x.out)),(1,.mp (mpL s ps z.x.ls)),(2,.mp (mpE s z.x.es)),(3,.mp (mpP z.x.fs)),(4,.mp (mpP z.x.sc))] h fun a w h=>?_)))));refine qV ?_;have eR:=zf7 hI2 (goB_end (s:=s) (ps:=ps) (au:=au) (goal:=goal) (fun h8=>by have:=h8.1;rw [hc12] at this;cases this));replace h:=h.conv (f':=F.of [(4,.t (.c (.d (.raw za4))))] [(7,(bxS s ps au (zal s ps au (SS.mk fu ot ls es fs sc) goal).2.fuel (zal s ps au (SS.mk fu ot ls es fs sc) goal).2.out)),(1,.mp (mpL s ps (zal s ps au (SS.mk fu ot ls es fs sc) goal).2.ls)),(2,.mp (mpE s (zal s ps au (SS.mk fu ot ls es fs sc) goal).2.es)),(3,.mp (mpP (zal s ps au (SS.mk fu ot ls es fs sc) goal).2.fs)),(4,.mp (mpP (zal s ps au (SS.mk fu ot ls es fs sc) goal).2.sc))]) (by rw [eR]);refine rT (.c (.d (.raw za4))) h rfl ?_;rfl
theorem SBackS (s:zan) (ps:List zb4) (au:zcy) (fu:Int) (ot:Bool) (ls es:List Int) (fs sc:List PrD) (goal:PrD) (r:List WkD) {L:Nat} (hs:zb1 L s) (hL:L<=1000) (hp:zc2 s) (hps:∀ p ∈ ps,zec L p) (hpl:ps.length<=1000) (hau:zda au) (hX:XI (SS.mk fu ot ls es fs sc)) (hg:okP au goal) (hr:(zal s ps au (SS.mk fu ot ls es fs sc) goal).1=some r):Fn Tryz.prog 100 [(7,(bxS s ps au fu ot)),(1,.mp (mpL s ps ls)),(2,.mp (mpE s es)),(3,.mp (mpP fs)),(4,.mp (mpP sc))] [vp 7 0,.t (.agg [.d (.raw (.int .i64 goal.st)),.d (.raw (.int .i64 goal.nd))])] (.t (.c (.own 19 r.length))) [(7,(bxS s ps au (zal s ps au (SS.mk fu ot ls es fs sc) goal).2.fuel (zal s ps au (SS.mk fu ot ls es fs sc) goal).2.out)),(1,.mp (mpL s ps (zal s ps au (SS.mk fu ot ls es fs sc) goal).2.ls)),(2,.mp (mpE s (zal s ps au (SS.mk fu ot ls es fs sc) goal).2.es)),(3,.mp (mpP (zal s ps au (SS.mk fu ot ls es fs sc) goal).2.fs)),(4,.mp (mpP (zal s ps au (SS.mk fu ot ls es fs sc) goal).2.sc)),(19,.row 176 4 (r.map WkD.d))]:=by
 refine Fn.body Tryz.func100 rfl 67 rfl fun w H B a h=>?_
 refine Jq (htb:=za9) 30 [] [(0,vp 7 0),(3,vp 30 0),(4,.t (.c (.d (.raw za4))))] [(7,(bxS s ps au fu ot)),(1,.mp (mpL s ps ls)),(2,.mp (mpE s es)),(3,.mp (mpP fs)),(4,.mp (mpP sc)),(30,.box [.d (.raw (.int .i64 goal.st)),.d (.raw (.int .i64 goal.nd))])] h fun a w h=>?_;refine qW (Jp (htb:=za9) 31 [(1,.g (Op.nilQ (d:=10) (t:=9) (n:=7) (o:=0)))] [(0,vp 7 0),(3,vp 30 0),(4,.t (.c (.d (.raw za4)))),(12,vb ot)] h fun a w h=>?_);refine cS ot h (fun hc1=>?_) (fun hc2=>?_)
 ·refine Jp (htb:=za9) 31 [] [(0,vp 7 0),(3,vp 30 0),(4,.t (.c (.d (.raw za4))))] h fun a w h=>?_;refine qV (za2 ?_);have eR:(zal s ps au (SS.mk fu ot ls es fs sc) goal)=(none,(SS.mk fu ot ls es fs sc)):=ze9 hc1 goal;rw [eR] at hr;cases hr
 refine qU (za0 (Jq (htb:=za9) 31 [(2,.call (SBegin0 s ps au fu ot ls es fs sc goal hs hL hp hps hpl hau hX.ls hX.es hg.2 hg.1 ⟨hX.f0,hX.f1⟩) qi1_0)] [(0,vp 7 0),(3,vp 30 0),(4,.t (.c (.d (.raw za4)))),(5,.t (.c (.own 14 (bgW s ps au (SS.mk fu ot ls es fs sc) [] goal).length))),(6,vb (bgB s ps au (SS.mk fu ot ls es fs sc) goal))] [(7,(bxS s ps au (tkF fu (1+((zb6 s ps au goal).length:Int))) (tkO fu ot (1+((zb6 s ps au goal).length:Int))))),(1,.mp (mpL s ps (lsM s au ls goal))),(2,.mp (mpE s (zcc es goal.st))),(3,.mp (mpP fs)),(4,.mp (mpP sc)),(30,.box [.d (.raw (.int .i64 goal.st)),.d (.raw (.int .i64 goal.nd))]),(14,.row 176 4 ((bgW s ps au (SS.mk fu ot ls es fs sc) [] goal).map WkD.d))] h fun a w h=>?_));refine qW (qZ ?_);replace h:=zd9 14 9 [(0,vp 7 0),(3,vp 30 0),(4,.t (.c (.d (.raw za4)))),(5,.t (.c (.own 9 (bgW s ps au (SS.mk fu ot ls es fs sc) [] goal).length))),(6,vb (bgB s ps au (SS.mk fu ot ls es fs sc) goal))] [(7,(bxS s ps au (tkF fu (1+((zb6 s ps au goal).length:Int))) (tkO fu ot (1+((zb6 s ps au goal).length:Int))))),(1,.mp (mpL s ps (lsM s au ls goal))),(2,.mp (mpE s (zcc es goal.st))),(3,.mp (mpP fs)),(4,.mp (mpP sc)),(30,.box [.d (.raw (.int .i64 goal.st)),.d (.raw (.int .i64 goal.nd))]),(9,.row 176 4 ((bgW s ps au (SS.mk fu ot ls es fs sc) [] goal).map WkD.d))] h;replace h:=h.conv (f':=F.of [(0,vp 7 0),(3,vp 30 0),(4,.t (.c (.d (.raw za4)))),(5,.t (.c (.own 9 (stB s ps au (SS.mk fu ot ls es fs sc) goal).way.length))),(6,vb (stB s ps au (SS.mk fu ot ls es fs sc) goal).ok)] [(7,(bxS s ps au (stB s ps au (SS.mk fu ot ls es fs sc) goal).x.fuel (stB s ps au (SS.mk fu ot ls es fs sc) goal).x.out)),(1,.mp (mpL s ps (stB s ps au (SS.mk fu ot ls es fs sc) goal).x.ls)),(2,.mp (mpE s (stB s ps au (SS.mk fu ot ls es fs sc) goal).x.es)),(3,.mp (mpP (stB s ps au (SS.mk fu ot ls es fs sc) goal).x.fs)),(4,.mp (mpP (stB s ps au (SS.mk fu ot ls es fs sc) goal).x.sc)),(30,.box [.d (.raw (.int .i64 goal.st)),.d (.raw (.int .i64 goal.nd))]),(9,.row 176 4 ((stB s ps au (SS.mk fu ot ls es fs sc) goal).way.map WkD.d))]) (by rw [(show (stB s ps au (SS.mk fu ot ls es fs sc) goal).x.fuel=tkF fu (1+((zb6 s ps au goal).length:Int)) from zfr (s:=s) (ps:=ps) (au:=au) (fu:=fu) (ot:=ot) (ls:=ls) (es:=es) (fs:=fs) (sc:=sc) (p:=goal)),(show (stB s ps au (SS.mk fu ot ls es fs sc) goal).x.out=tkO fu ot (1+((zb6 s ps au goal).length:Int)) from bg_ot (s:=s) (ps:=ps) (au:=au) (fu:=fu) (ot:=ot) (ls:=ls) (es:=es) (fs:=fs) (sc:=sc) (p:=goal)),(show (stB s ps au (SS.mk fu ot ls es fs sc) goal).x.ls=lsM s au ls goal from bg_ls (s:=s) (ps:=ps) (au:=au) (fu:=fu) (ot:=ot) (ls:=ls) (es:=es) (fs:=fs) (sc:=sc) (p:=goal)),(show (stB s ps au (SS.mk fu ot ls es fs sc) goal).x.es=zcc es goal.st from bg_es (s:=s) (ps:=ps) (au:=au) (fu:=fu) (ot:=ot) (ls:=ls) (es:=es) (fs:=fs) (sc:=sc) (p:=goal)),(show (stB s ps au (SS.mk fu ot ls es fs sc) goal).x.fs=fs from bg_fs (s:=s) (ps:=ps) (au:=au) (fu:=fu) (ot:=ot) (ls:=ls) (es:=es) (fs:=fs) (sc:=sc) (p:=goal)),(show (stB s ps au (SS.mk fu ot ls es fs sc) goal).x.sc=sc from bg_sc (s:=s) (ps:=ps) (au:=au) (fu:=fu) (ot:=ot) (ls:=ls) (es:=es) (fs:=fs) (sc:=sc) (p:=goal))];try rfl);have hzB:=stB_LI (ps:=ps) hs hau hX hg;have hrun:=ze8 (s:=s) (ps:=ps) (a:=au) (x:=(SS.mk fu ot ls es fs sc)) hX.f0 hc2 goal
 refine zb5 (ι:=(LS) × (Nat)) (fun (z,n)=>LI au z/\zfc (goB s ps au goal) n z = .inr (zal s ps au (SS.mk fu ot ls es fs sc) goal))
   (fun (z,n)=>[(0,vp 7 0),(3,vp 30 0),(5,.t (.c (.own 9 z.way.length))),(6,vb z.ok)])
   (fun (z,n)=>[(7,(bxS s ps au z.x.fuel z.x.out)),(1,.mp (mpL s ps z.x.ls)),(2,.mp (mpE s z.x.es)),(3,.mp (mpP z.x.fs)),(4,.mp (mpP z.x.sc)),(30,.box [.d (.raw (.int .i64 goal.st)),.d (.raw (.int .i64 goal.nd))]),(9,.row 176 4 (z.way.map WkD.d))])
   (fun (z,n)=>n) ((stB s ps au (SS.mk fu ot ls es fs sc) goal),mu (stB s ps au (SS.mk fu ot ls es fs sc) goal)+1) ?_ h (by kernel_rfl) (by kernel_rfl) ?_
 ·exact ⟨hzB,hrun⟩
 clear h;rintro ⟨z,n⟩ a w hI h;dsimp only at h;obtain ⟨hI1,hI2⟩:=hI;obtain ⟨m,hm8⟩:=zil hI2;rw [hm8] at hI2;refine qW ?_
 rcases Bool.eq_false_or_eq_true z.ok with hc3 | hc12
 ·rw [hc3] at h;refine Jq (htb:=za9) 31 [] [(0,vp 7 0),(3,vp 30 0),(5,.t (.c (.own 9 z.way.length))),(6,vb true),(24,vb (decide ((z.way.length:Int)>0)))] [(7,(bxS s ps au z.x.fuel z.x.out)),(1,.mp (mpL s ps z.x.ls)),(2,.mp (mpE s z.x.es)),(3,.mp (mpP z.x.fs)),(4,.mp (mpP z.x.sc)),(30,.box [.d (.raw (.int .i64 goal.st)),.d (.raw (.int .i64 goal.nd))]),(9,.row 176 4 (z.way.map WkD.d))] h fun a w h=>?_;refine zap ((z.way.length:Int)>0) h (fun hc4 hc4'=>?_) (fun hc11 hc11'=>?_)
  ·refine qU (za0 (qZ ?_));have hw0:0<z.way.length:=by have:=dT hc4;omega
   have hwm:z.way.length<=1000000000000:=by have:=hI1.len;have:=hI1.x.f0;omega
   have hwd:∀ w ∈ z.way,w.done<=w.moves.length:=fun w hw=>(hI1.way w hw).done
   have hwl:∀ w ∈ z.way,w.moves.length<=1000000000000:=fun w hw=>Nat.le_trans (hI1.way w hw).len (by decide)
   refine Jq (htb:=za9) 31 [(1,.call (SNext z.way hw0 hwm hwd hwl) qi1_1)] [(0,vp 7 0),(3,vp 30 0),(5,.t (.c (.own 9 z.way.length))),(6,vb true),(7,vp 31 0),(8,vb (zay z.way))] [(7,(bxS s ps au z.x.fuel z.x.out)),(1,.mp (mpL s ps z.x.ls)),(2,.mp (mpE s z.x.es)),(3,.mp (mpP z.x.fs)),(4,.mp (mpP z.x.sc)),(30,.box [.d (.raw (.int .i64 goal.st)),.d (.raw (.int .i64 goal.nd))]),(9,.row 176 4 ((if zay z.way=true then zae z.way else z.way).map WkD.d)),(31,.box [.d (.raw (.int .i64 (if zay z.way=true then za1 z.way else mvz).act)),.d (.raw (.int .i64 (if zay z.way=true then za1 z.way else mvz).to_.st)),.d (.raw (.int .i64 (if zay z.way=true then za1 z.way else mvz).to_.nd))])] h fun a w h=>?_;refine qZ (Jp (htb:=za9) 32 [] [(0,vp 7 0),(3,vp 30 0),(5,.t (.c (.own 9 z.way.length))),(6,vb true),(7,vp 31 0),(30,vb (!(zay z.way)))] h fun a w h=>?_);refine cS (!(zay z.way)) h (fun hc5=>?_) (fun hc6=>?_)
   ·have hc5':=hc5;(try simp at hc5');have hmo:zay z.way=false:=(show (zay z.way)=false by have:=hc5;simpa using this);replace h:=h.conv (f':=F.of [(0,vp 7 0),(3,vp 30 0),(5,.t (.c (.own 9 z.way.length))),(6,vb true),(7,vp 31 0),(30,vb (!(zay z.way)))] [(7,(bxS s ps au z.x.fuel z.x.out)),(1,.mp (mpL s ps z.x.ls)),(2,.mp (mpE s z.x.es)),(3,.mp (mpP z.x.fs)),(4,.mp (mpP z.x.sc)),(30,.box [.d (.raw (.int .i64 goal.st)),.d (.raw (.int .i64 goal.nd))]),(9,.row 176 4 (z.way.map WkD.d)),(31,.box [.d (.raw (.int .i64 mvz.act)),.d (.raw (.int .i64 mvz.to_.st)),.d (.raw (.int .i64 mvz.to_.nd))])]) (by first | rw [if_neg (by rw [hmo];exact Bool.noConfusion),if_neg (by rw [hmo];exact Bool.noConfusion)] | rw [if_neg (by rw [hmo];exact Bool.noConfusion)]);refine Jn (htb:=za9) 32 [(3,.g (Op.arith (op:=.sub) (d:=36) (xt:=3) (yt:=3) (k:=.i64) (m:=(z.way.length:Int)) (n:=1) (r:=((z.way.length - 1:Nat):Int)) (OV.tmp 35 _) (OV.const (.int .i64 1) rfl) (.inr (.inl ⟨rfl,by omega⟩)) i6)),(4,.g (Op.sliceHi (d:=37) (t:=33) (k:=.i64) (n:=9) (len:=z.way.length) (h:=(z.way.length - 1)) (rows:=z.way.map WkD.d) (rty:=176) zf9 (by rw [List.length_map];exact Nat.sub_le _ _) (OV.tmp 36 _)))] [(0,vp 7 0),(3,vp 30 0),(5,.t (.c (.own 9 (z.way.length - 1)))),(6,vb true)] [(7,(bxS s ps au z.x.fuel z.x.out)),(1,.mp (mpL s ps z.x.ls)),(2,.mp (mpE s z.x.es)),(3,.mp (mpP z.x.fs)),(4,.mp (mpP z.x.sc)),(30,.box [.d (.raw (.int .i64 goal.st)),.d (.raw (.int .i64 goal.nd))]),(9,.row 176 4 (z.way.map WkD.d))] h fun a w h=>?_;refine zac (zac (za0 ?_));replace h:=cutS 9 (z.way.length - 1) 4 176 (z.way.map WkD.d) [(0,vp 7 0),(3,vp 30 0),(5,.t (.c (.own 9 (z.way.length - 1)))),(6,vb true)] [(7,(bxS s ps au z.x.fuel z.x.out)),(1,.mp (mpL s ps z.x.ls)),(2,.mp (mpE s z.x.es)),(3,.mp (mpP z.x.fs)),(4,.mp (mpP z.x.sc)),(30,.box [.d (.raw (.int .i64 goal.st)),.d (.raw (.int .i64 goal.nd))]),(9,.row 176 4 ((z.way.map WkD.d).take (z.way.length - 1)))] h rfl (by kernel_rfl) (by kernel_rfl);replace h:=h.conv (f':=F.of [(0,vp 7 0),(3,vp 30 0),(5,.t (.c (.own 9 z.way.dropLast.length))),(6,vb true)] [(7,(bxS s ps au z.x.fuel z.x.out)),(1,.mp (mpL s ps z.x.ls)),(2,.mp (mpE s z.x.es)),(3,.mp (mpP z.x.fs)),(4,.mp (mpP z.x.sc)),(30,.box [.d (.raw (.int .i64 goal.st)),.d (.raw (.int .i64 goal.nd))]),(9,.row 176 4 (z.way.dropLast.map WkD.d))]) (by rw [List.length_dropLast,List.dropLast_eq_take,List.map_take];try rfl);have hgo:=goB_pop (s:=s) (ps:=ps) (au:=au) (goal:=goal) ⟨hc3,hw0⟩ (show (zay z.way)=false by have:=hc5;simpa using this);replace h:=h.conv (f':=F.of [(0,vp 7 0),(3,vp 30 0),(5,.t (.c (.own 9 (LS.mk z.way.dropLast z.ok z.x).way.length))),(6,vb (LS.mk z.way.dropLast z.ok z.x).ok)] [(7,(bxS s ps au (LS.mk z.way.dropLast z.ok z.x).x.fuel (LS.mk z.way.dropLast z.ok z.x).x.out)),(1,.mp (mpL s ps (LS.mk z.way.dropLast z.ok z.x).x.ls)),(2,.mp (mpE s (LS.mk z.way.dropLast z.ok z.x).x.es)),(3,.mp (mpP (LS.mk z.way.dropLast z.ok z.x).x.fs)),(4,.mp (mpP (LS.mk z.way.dropLast z.ok z.x).x.sc)),(30,.box [.d (.raw (.int .i64 goal.st)),.d (.raw (.int .i64 goal.nd))]),(9,.row 176 4 ((LS.mk z.way.dropLast z.ok z.x).way.map WkD.d))]) (by rw [show (LS.mk z.way.dropLast z.ok z.x).ok=true from hc3];try rfl);refine zag (x:=(z,n)) (y:=((LS.mk z.way.dropLast z.ok z.x),m)) h ?_ ?_
    ·exact ⟨hI1.stepB hs hau hgo,ze6 hI2 hgo⟩
    show m<n;omega
   have hc6':=hc6;(try simp at hc6');have hmo:zay z.way=true:=(show (zay z.way)=true by have:=hc6;simpa using this);have hto:=(zhj hI1.way hw0 hmo).2.1;replace h:=h.conv (f':=F.of [(0,vp 7 0),(3,vp 30 0),(5,.t (.c (.own 9 z.way.length))),(6,vb true),(7,vp 31 0),(30,vb (!(zay z.way)))] [(7,(bxS s ps au z.x.fuel z.x.out)),(1,.mp (mpL s ps z.x.ls)),(2,.mp (mpE s z.x.es)),(3,.mp (mpP z.x.fs)),(4,.mp (mpP z.x.sc)),(30,.box [.d (.raw (.int .i64 goal.st)),.d (.raw (.int .i64 goal.nd))]),(9,.row 176 4 ((zae z.way).map WkD.d)),(31,.box [.d (.raw (.int .i64 (za1 z.way).act)),.d (.raw (.int .i64 (za1 z.way).to_.st)),.d (.raw (.int .i64 (za1 z.way).to_.nd))])]) (by first | rw [if_pos hmo,if_pos hmo] | rw [if_pos hmo]);replace h:=h.conv (f':=F.of [(0,vp 7 0),(3,vp 30 0),(5,.t (.c (.own 9 (zae z.way).length))),(6,vb true),(7,vp 31 0),(30,vb (!(zay z.way)))] [(7,(bxS s ps au z.x.fuel z.x.out)),(1,.mp (mpL s ps z.x.ls)),(2,.mp (mpE s z.x.es)),(3,.mp (mpP z.x.fs)),(4,.mp (mpP z.x.sc)),(30,.box [.d (.raw (.int .i64 goal.st)),.d (.raw (.int .i64 goal.nd))]),(9,.row 176 4 ((zae z.way).map WkD.d)),(31,.box [.d (.raw (.int .i64 (za1 z.way).act)),.d (.raw (.int .i64 (za1 z.way).to_.st)),.d (.raw (.int .i64 (za1 z.way).to_.nd))])]) (by rw [zde]);refine Jq (htb:=za9) 32 [(3,.g (Op.eqPr (d:=42) (x:=40) (y:=41) (p:=(za1 z.way).to_) (q:=goal) (zd4 hau hto) (zd4 hau hg)))] [(0,vp 7 0),(3,vp 30 0),(5,.t (.c (.own 9 (zae z.way).length))),(6,vb true),(7,vp 31 0),(38,vb (decide ((za1 z.way).to_=goal)))] [(7,(bxS s ps au z.x.fuel z.x.out)),(1,.mp (mpL s ps z.x.ls)),(2,.mp (mpE s z.x.es)),(3,.mp (mpP z.x.fs)),(4,.mp (mpP z.x.sc)),(30,.box [.d (.raw (.int .i64 goal.st)),.d (.raw (.int .i64 goal.nd))]),(9,.row 176 4 ((zae z.way).map WkD.d)),(31,.box [.d (.raw (.int .i64 (za1 z.way).act)),.d (.raw (.int .i64 (za1 z.way).to_.st)),.d (.raw (.int .i64 (za1 z.way).to_.nd))])] h fun a w h=>?_;refine zap ((za1 z.way).to_=goal) h (fun hc7 hc7'=>?_) (fun hc8 hc8'=>?_)
   ·refine Jq (htb:=za9) 32 [] [(0,vp 7 0),(3,vp 30 0),(4,.t (.c (.own 9 (zae z.way).length))),(5,.t (.c (.own 9 (zae z.way).length))),(6,vb true)] [(7,(bxS s ps au z.x.fuel z.x.out)),(1,.mp (mpL s ps z.x.ls)),(2,.mp (mpE s z.x.es)),(3,.mp (mpP z.x.fs)),(4,.mp (mpP z.x.sc)),(30,.box [.d (.raw (.int .i64 goal.st)),.d (.raw (.int .i64 goal.nd))]),(9,.row 176 4 ((zae z.way).map WkD.d))] h fun a w h=>?_;refine qV (za7 (za7 (za2 (za7 (za2 ?_)))));have eR:=zf7 hI2 (goB_hit (s:=s) (ps:=ps) (au:=au) ⟨hc3,hw0⟩ hmo (dT hc7));have er:r=zae z.way:=by { rw [eR] at hr;exact (Option.some.inj hr).symm }
    replace h:=zd9 9 19 [(0,vp 7 0),(3,vp 30 0),(4,.t (.c (.own 19 (zae z.way).length))),(5,.t (.c (.own 19 (zae z.way).length))),(6,vb true)] [(7,(bxS s ps au z.x.fuel z.x.out)),(1,.mp (mpL s ps z.x.ls)),(2,.mp (mpE s z.x.es)),(3,.mp (mpP z.x.fs)),(4,.mp (mpP z.x.sc)),(30,.box [.d (.raw (.int .i64 goal.st)),.d (.raw (.int .i64 goal.nd))]),(19,.row 176 4 ((zae z.way).map WkD.d))] h;replace h:=h.conv (f':=F.of [(0,vp 7 0),(3,vp 30 0),(4,.t (.c (.own 19 r.length))),(5,.t (.c (.own 19 r.length))),(6,vb true)] [(7,(bxS s ps au (zal s ps au (SS.mk fu ot ls es fs sc) goal).2.fuel (zal s ps au (SS.mk fu ot ls es fs sc) goal).2.out)),(1,.mp (mpL s ps (zal s ps au (SS.mk fu ot ls es fs sc) goal).2.ls)),(2,.mp (mpE s (zal s ps au (SS.mk fu ot ls es fs sc) goal).2.es)),(3,.mp (mpP (zal s ps au (SS.mk fu ot ls es fs sc) goal).2.fs)),(4,.mp (mpP (zal s ps au (SS.mk fu ot ls es fs sc) goal).2.sc)),(30,.box [.d (.raw (.int .i64 goal.st)),.d (.raw (.int .i64 goal.nd))]),(19,.row 176 4 (r.map WkD.d))]) (by rw [eR,er]);refine rT (.c (.own 19 r.length)) h rfl ?_;rfl
   refine Jp (htb:=za9) 32 [(1,.g (Op.nilQ (d:=46) (t:=45) (n:=7) (o:=0))),(6,.g (Op.lkP (d:=51) (t:=48) (m:=4) (x:=50) (p:=(za1 z.way).to_) (fs:=z.x.sc) (q:=(decide ((za1 z.way).to_ ∈ z.x.sc))) hI1.x.sc (zd4 hau hto) rfl))] [(0,vp 7 0),(3,vp 30 0),(5,.t (.c (.own 9 (zae z.way).length))),(6,vb true),(7,vp 31 0),(44,vb (!(decide ((za1 z.way).to_ ∈ z.x.sc))))] h fun a w h=>?_;refine cS (!(decide ((za1 z.way).to_ ∈ z.x.sc))) h (fun hc9=>?_) (fun hc10=>?_)
   ·have hc9':=hc9;(try simp at hc9');refine Jq (htb:=za9) 32 [(1,.g (Op.nilQ (d:=54) (t:=53) (n:=7) (o:=0))),(6,.g (Op.upP (t:=56) (m:=4) (x:=58) (p:=(za1 z.way).to_) (fs:=z.x.sc) hI1.x.sc (zd4 hau hto) (dF (show (decide ((za1 z.way).to_ ∈ z.x.sc))=false by have:=hc9;simpa using this))))] [(0,vp 7 0),(3,vp 30 0),(5,.t (.c (.own 9 (zae z.way).length))),(6,vb true),(7,vp 31 0)] [(7,(bxS s ps au z.x.fuel z.x.out)),(1,.mp (mpL s ps z.x.ls)),(2,.mp (mpE s z.x.es)),(3,.mp (mpP z.x.fs)),(4,.mp (mpP (z.x.sc++[(za1 z.way).to_]))),(30,.box [.d (.raw (.int .i64 goal.st)),.d (.raw (.int .i64 goal.nd))]),(9,.row 176 4 ((zae z.way).map WkD.d)),(31,.box [.d (.raw (.int .i64 (za1 z.way).act)),.d (.raw (.int .i64 (za1 z.way).to_.st)),.d (.raw (.int .i64 (za1 z.way).to_.nd))])] h fun a w h=>?_;refine Jn (htb:=za9) 32 [(4,.call (SBegin s ps au z.x.fuel z.x.out z.x.ls z.x.es z.x.fs (z.x.sc++[(za1 z.way).to_]) (zae z.way) (za1 z.way).to_ hs hL hp hps hpl hau hI1.x.ls hI1.x.es hto.2 hto.1 ⟨hI1.x.f0,hI1.x.f1⟩ (by rw [zde];have:=hI1.len;have:=hI1.x.f0;omega)) qi1_0)] [(0,vp 7 0),(3,vp 30 0),(5,.t (.c (.own 14 (bgW s ps au (SS.mk z.x.fuel z.x.out z.x.ls z.x.es z.x.fs (z.x.sc++[(za1 z.way).to_])) (zae z.way) (za1 z.way).to_).length))),(6,vb (bgB s ps au (SS.mk z.x.fuel z.x.out z.x.ls z.x.es z.x.fs (z.x.sc++[(za1 z.way).to_])) (za1 z.way).to_))] [(7,(bxS s ps au (tkF z.x.fuel (1+((zb6 s ps au (za1 z.way).to_).length:Int))) (tkO z.x.fuel z.x.out (1+((zb6 s ps au (za1 z.way).to_).length:Int))))),(1,.mp (mpL s ps (lsM s au z.x.ls (za1 z.way).to_))),(2,.mp (mpE s (zcc z.x.es (za1 z.way).to_.st))),(3,.mp (mpP z.x.fs)),(4,.mp (mpP (z.x.sc++[(za1 z.way).to_]))),(30,.box [.d (.raw (.int .i64 goal.st)),.d (.raw (.int .i64 goal.nd))]),(14,.row 176 4 ((bgW s ps au (SS.mk z.x.fuel z.x.out z.x.ls z.x.es z.x.fs (z.x.sc++[(za1 z.way).to_])) (zae z.way) (za1 z.way).to_).map WkD.d))] h fun a w h=>?_;refine zac (zac (za0 ?_));have hgo:=goB_new (s:=s) (ps:=ps) (au:=au) ⟨hc3,hw0⟩ (show (zay z.way)=true by have:=hc6;simpa using this) (dF hc8) (dF (show (decide ((za1 z.way).to_ ∈ z.x.sc))=false by have:=hc9;simpa using this));replace h:=zd9 14 9 [(0,vp 7 0),(3,vp 30 0),(5,.t (.c (.own 9 (bgW s ps au (SS.mk z.x.fuel z.x.out z.x.ls z.x.es z.x.fs (z.x.sc++[(za1 z.way).to_])) (zae z.way) (za1 z.way).to_).length))),(6,vb (bgB s ps au (SS.mk z.x.fuel z.x.out z.x.ls z.x.es z.x.fs (z.x.sc++[(za1 z.way).to_])) (za1 z.way).to_))] [(7,(bxS s ps au (tkF z.x.fuel (1+((zb6 s ps au (za1 z.way).to_).length:Int))) (tkO z.x.fuel z.x.out (1+((zb6 s ps au (za1 z.way).to_).length:Int))))),(1,.mp (mpL s ps (lsM s au z.x.ls (za1 z.way).to_))),(2,.mp (mpE s (zcc z.x.es (za1 z.way).to_.st))),(3,.mp (mpP z.x.fs)),(4,.mp (mpP (z.x.sc++[(za1 z.way).to_]))),(30,.box [.d (.raw (.int .i64 goal.st)),.d (.raw (.int .i64 goal.nd))]),(9,.row 176 4 ((bgW s ps au (SS.mk z.x.fuel z.x.out z.x.ls z.x.es z.x.fs (z.x.sc++[(za1 z.way).to_])) (zae z.way) (za1 z.way).to_).map WkD.d))] h;replace h:=h.conv (f':=F.of [(0,vp 7 0),(3,vp 30 0),(5,.t (.c (.own 9 (LS.mk (bgW s ps au (SS.mk z.x.fuel z.x.out z.x.ls z.x.es z.x.fs (z.x.sc++[(za1 z.way).to_])) (zae z.way) (za1 z.way).to_) (bgB s ps au (SS.mk z.x.fuel z.x.out z.x.ls z.x.es z.x.fs (z.x.sc++[(za1 z.way).to_])) (za1 z.way).to_) (bgS s ps au (SS.mk z.x.fuel z.x.out z.x.ls z.x.es z.x.fs (z.x.sc++[(za1 z.way).to_])) (za1 z.way).to_)).way.length))),(6,vb (LS.mk (bgW s ps au (SS.mk z.x.fuel z.x.out z.x.ls z.x.es z.x.fs (z.x.sc++[(za1 z.way).to_])) (zae z.way) (za1 z.way).to_) (bgB s ps au (SS.mk z.x.fuel z.x.out z.x.ls z.x.es z.x.fs (z.x.sc++[(za1 z.way).to_])) (za1 z.way).to_) (bgS s ps au (SS.mk z.x.fuel z.x.out z.x.ls z.x.es z.x.fs (z.x.sc++[(za1 z.way).to_])) (za1 z.way).to_)).ok)] [(7,(bxS s ps au (LS.mk (bgW s ps au (SS.mk z.x.fuel z.x.out z.x.ls z.x.es z.x.fs (z.x.sc++[(za1 z.way).to_])) (zae z.way) (za1 z.way).to_) (bgB s ps au (SS.mk z.x.fuel z.x.out z.x.ls z.x.es z.x.fs (z.x.sc++[(za1 z.way).to_])) (za1 z.way).to_) (bgS s ps au (SS.mk z.x.fuel z.x.out z.x.ls z.x.es z.x.fs (z.x.sc++[(za1 z.way).to_])) (za1 z.way).to_)).x.fuel (LS.mk (bgW s ps au (SS.mk z.x.fuel z.x.out z.x.ls z.x.es z.x.fs (z.x.sc++[(za1 z.way).to_])) (zae z.way) (za1 z.way).to_) (bgB s ps au (SS.mk z.x.fuel z.x.out z.x.ls z.x.es z.x.fs (z.x.sc++[(za1 z.way).to_])) (za1 z.way).to_) (bgS s ps au (SS.mk z.x.fuel z.x.out z.x.ls z.x.es z.x.fs (z.x.sc++[(za1 z.way).to_])) (za1 z.way).to_)).x.out)),(1,.mp (mpL s ps (LS.mk (bgW s ps au (SS.mk z.x.fuel z.x.out z.x.ls z.x.es z.x.fs (z.x.sc++[(za1 z.way).to_])) (zae z.way) (za1 z.way).to_) (bgB s ps au (SS.mk z.x.fuel z.x.out z.x.ls z.x.es z.x.fs (z.x.sc++[(za1 z.way).to_])) (za1 z.way).to_) (bgS s ps au (SS.mk z.x.fuel z.x.out z.x.ls z.x.es z.x.fs (z.x.sc++[(za1 z.way).to_])) (za1 z.way).to_)).x.ls)),(2,.mp (mpE s (LS.mk (bgW s ps au (SS.mk z.x.fuel z.x.out z.x.ls z.x.es z.x.fs (z.x.sc++[(za1 z.way).to_])) (zae z.way) (za1 z.way).to_) (bgB s ps au (SS.mk z.x.fuel z.x.out z.x.ls z.x.es z.x.fs (z.x.sc++[(za1 z.way).to_])) (za1 z.way).to_) (bgS s ps au (SS.mk z.x.fuel z.x.out z.x.ls z.x.es z.x.fs (z.x.sc++[(za1 z.way).to_])) (za1 z.way).to_)).x.es)),(3,.mp (mpP (LS.mk (bgW s ps au (SS.mk z.x.fuel z.x.out z.x.ls z.x.es z.x.fs (z.x.sc++[(za1 z.way).to_])) (zae z.way) (za1 z.way).to_) (bgB s ps au (SS.mk z.x.fuel z.x.out z.x.ls z.x.es z.x.fs (z.x.sc++[(za1 z.way).to_])) (za1 z.way).to_) (bgS s ps au (SS.mk z.x.fuel z.x.out z.x.ls z.x.es z.x.fs (z.x.sc++[(za1 z.way).to_])) (za1 z.way).to_)).x.fs)),(4,.mp (mpP (LS.mk (bgW s ps au (SS.mk z.x.fuel z.x.out z.x.ls z.x.es z.x.fs (z.x.sc++[(za1 z.way).to_])) (zae z.way) (za1 z.way).to_) (bgB s ps au (SS.mk z.x.fuel z.x.out z.x.ls z.x.es z.x.fs (z.x.sc++[(za1 z.way).to_])) (za1 z.way).to_) (bgS s ps au (SS.mk z.x.fuel z.x.out z.x.ls z.x.es z.x.fs (z.x.sc++[(za1 z.way).to_])) (za1 z.way).to_)).x.sc)),(30,.box [.d (.raw (.int .i64 goal.st)),.d (.raw (.int .i64 goal.nd))]),(9,.row 176 4 ((LS.mk (bgW s ps au (SS.mk z.x.fuel z.x.out z.x.ls z.x.es z.x.fs (z.x.sc++[(za1 z.way).to_])) (zae z.way) (za1 z.way).to_) (bgB s ps au (SS.mk z.x.fuel z.x.out z.x.ls z.x.es z.x.fs (z.x.sc++[(za1 z.way).to_])) (za1 z.way).to_) (bgS s ps au (SS.mk z.x.fuel z.x.out z.x.ls z.x.es z.x.fs (z.x.sc++[(za1 z.way).to_])) (za1 z.way).to_)).way.map WkD.d))]) (by rw [(show (LS.mk (bgW s ps au (SS.mk z.x.fuel z.x.out z.x.ls z.x.es z.x.fs (z.x.sc++[(za1 z.way).to_])) (zae z.way) (za1 z.way).to_) (bgB s ps au (SS.mk z.x.fuel z.x.out z.x.ls z.x.es z.x.fs (z.x.sc++[(za1 z.way).to_])) (za1 z.way).to_) (bgS s ps au (SS.mk z.x.fuel z.x.out z.x.ls z.x.es z.x.fs (z.x.sc++[(za1 z.way).to_])) (za1 z.way).to_)).x.fuel=tkF z.x.fuel (1+((zb6 s ps au (za1 z.way).to_).length:Int)) from zfr (s:=s) (ps:=ps) (au:=au) (fu:=z.x.fuel) (ot:=z.x.out) (ls:=z.x.ls) (es:=z.x.es) (fs:=z.x.fs) (sc:=(z.x.sc++[(za1 z.way).to_])) (p:=(za1 z.way).to_)),(show (LS.mk (bgW s ps au (SS.mk z.x.fuel z.x.out z.x.ls z.x.es z.x.fs (z.x.sc++[(za1 z.way).to_])) (zae z.way) (za1 z.way).to_) (bgB s ps au (SS.mk z.x.fuel z.x.out z.x.ls z.x.es z.x.fs (z.x.sc++[(za1 z.way).to_])) (za1 z.way).to_) (bgS s ps au (SS.mk z.x.fuel z.x.out z.x.ls z.x.es z.x.fs (z.x.sc++[(za1 z.way).to_])) (za1 z.way).to_)).x.out=tkO z.x.fuel z.x.out (1+((zb6 s ps au (za1 z.way).to_).length:Int)) from bg_ot (s:=s) (ps:=ps) (au:=au) (fu:=z.x.fuel) (ot:=z.x.out) (ls:=z.x.ls) (es:=z.x.es) (fs:=z.x.fs) (sc:=(z.x.sc++[(za1 z.way).to_])) (p:=(za1 z.way).to_)),(show (LS.mk (bgW s ps au (SS.mk z.x.fuel z.x.out z.x.ls z.x.es z.x.fs (z.x.sc++[(za1 z.way).to_])) (zae z.way) (za1 z.way).to_) (bgB s ps au (SS.mk z.x.fuel z.x.out z.x.ls z.x.es z.x.fs (z.x.sc++[(za1 z.way).to_])) (za1 z.way).to_) (bgS s ps au (SS.mk z.x.fuel z.x.out z.x.ls z.x.es z.x.fs (z.x.sc++[(za1 z.way).to_])) (za1 z.way).to_)).x.ls=lsM s au z.x.ls (za1 z.way).to_ from bg_ls (s:=s) (ps:=ps) (au:=au) (fu:=z.x.fuel) (ot:=z.x.out) (ls:=z.x.ls) (es:=z.x.es) (fs:=z.x.fs) (sc:=(z.x.sc++[(za1 z.way).to_])) (p:=(za1 z.way).to_)),(show (LS.mk (bgW s ps au (SS.mk z.x.fuel z.x.out z.x.ls z.x.es z.x.fs (z.x.sc++[(za1 z.way).to_])) (zae z.way) (za1 z.way).to_) (bgB s ps au (SS.mk z.x.fuel z.x.out z.x.ls z.x.es z.x.fs (z.x.sc++[(za1 z.way).to_])) (za1 z.way).to_) (bgS s ps au (SS.mk z.x.fuel z.x.out z.x.ls z.x.es z.x.fs (z.x.sc++[(za1 z.way).to_])) (za1 z.way).to_)).x.es=zcc z.x.es (za1 z.way).to_.st from bg_es (s:=s) (ps:=ps) (au:=au) (fu:=z.x.fuel) (ot:=z.x.out) (ls:=z.x.ls) (es:=z.x.es) (fs:=z.x.fs) (sc:=(z.x.sc++[(za1 z.way).to_])) (p:=(za1 z.way).to_)),(show (LS.mk (bgW s ps au (SS.mk z.x.fuel z.x.out z.x.ls z.x.es z.x.fs (z.x.sc++[(za1 z.way).to_])) (zae z.way) (za1 z.way).to_) (bgB s ps au (SS.mk z.x.fuel z.x.out z.x.ls z.x.es z.x.fs (z.x.sc++[(za1 z.way).to_])) (za1 z.way).to_) (bgS s ps au (SS.mk z.x.fuel z.x.out z.x.ls z.x.es z.x.fs (z.x.sc++[(za1 z.way).to_])) (za1 z.way).to_)).x.fs=z.x.fs from bg_fs (s:=s) (ps:=ps) (au:=au) (fu:=z.x.fuel) (ot:=z.x.out) (ls:=z.x.ls) (es:=z.x.es) (fs:=z.x.fs) (sc:=(z.x.sc++[(za1 z.way).to_])) (p:=(za1 z.way).to_)),(show (LS.mk (bgW s ps au (SS.mk z.x.fuel z.x.out z.x.ls z.x.es z.x.fs (z.x.sc++[(za1 z.way).to_])) (zae z.way) (za1 z.way).to_) (bgB s ps au (SS.mk z.x.fuel z.x.out z.x.ls z.x.es z.x.fs (z.x.sc++[(za1 z.way).to_])) (za1 z.way).to_) (bgS s ps au (SS.mk z.x.fuel z.x.out z.x.ls z.x.es z.x.fs (z.x.sc++[(za1 z.way).to_])) (za1 z.way).to_)).x.sc=(z.x.sc++[(za1 z.way).to_]) from bg_sc (s:=s) (ps:=ps) (au:=au) (fu:=z.x.fuel) (ot:=z.x.out) (ls:=z.x.ls) (es:=z.x.es) (fs:=z.x.fs) (sc:=(z.x.sc++[(za1 z.way).to_])) (p:=(za1 z.way).to_))];try rfl);refine zag (x:=(z,n)) (y:=((LS.mk (bgW s ps au (SS.mk z.x.fuel z.x.out z.x.ls z.x.es z.x.fs (z.x.sc++[(za1 z.way).to_])) (zae z.way) (za1 z.way).to_) (bgB s ps au (SS.mk z.x.fuel z.x.out z.x.ls z.x.es z.x.fs (z.x.sc++[(za1 z.way).to_])) (za1 z.way).to_) (bgS s ps au (SS.mk z.x.fuel z.x.out z.x.ls z.x.es z.x.fs (z.x.sc++[(za1 z.way).to_])) (za1 z.way).to_)),m)) h ?_ ?_
    ·exact ⟨hI1.stepB hs hau hgo,ze6 hI2 hgo⟩
    show m<n;omega
   have hc10':=hc10;(try simp at hc10');refine qU (zac (zac (za0 ?_)));have hgo:=goB_old (s:=s) (ps:=ps) (au:=au) ⟨hc3,hw0⟩ (show (zay z.way)=true by have:=hc6;simpa using this) (dF hc8) (dT (show (decide ((za1 z.way).to_ ∈ z.x.sc))=true by have:=hc10;simpa using this));replace h:=h.conv (f':=F.of [(0,vp 7 0),(3,vp 30 0),(5,.t (.c (.own 9 (LS.mk (zae z.way) z.ok z.x).way.length))),(6,vb (LS.mk (zae z.way) z.ok z.x).ok),(7,vp 31 0),(44,vb (!(decide ((za1 z.way).to_ ∈ z.x.sc))))] [(7,(bxS s ps au (LS.mk (zae z.way) z.ok z.x).x.fuel (LS.mk (zae z.way) z.ok z.x).x.out)),(1,.mp (mpL s ps (LS.mk (zae z.way) z.ok z.x).x.ls)),(2,.mp (mpE s (LS.mk (zae z.way) z.ok z.x).x.es)),(3,.mp (mpP (LS.mk (zae z.way) z.ok z.x).x.fs)),(4,.mp (mpP (LS.mk (zae z.way) z.ok z.x).x.sc)),(30,.box [.d (.raw (.int .i64 goal.st)),.d (.raw (.int .i64 goal.nd))]),(9,.row 176 4 ((LS.mk (zae z.way) z.ok z.x).way.map WkD.d)),(31,.box [.d (.raw (.int .i64 (za1 z.way).act)),.d (.raw (.int .i64 (za1 z.way).to_.st)),.d (.raw (.int .i64 (za1 z.way).to_.nd))])]) (by rw [show (LS.mk (zae z.way) z.ok z.x).ok=true from hc3];try rfl);refine zag (x:=(z,n)) (y:=((LS.mk (zae z.way) z.ok z.x),m)) h ?_ ?_
   ·exact ⟨hI1.stepB hs hau hgo,ze6 hI2 hgo⟩
   show m<n;omega
  refine wp_exit (zaa (zaa (za5 (za0 (Jq (htb:=za9) 32 [] [(4,.t (.c (.d (.raw za4))))] [(7,(bxS s ps au z.x.fuel z.x.out)),(1,.mp (mpL s ps z.x.ls)),(2,.mp (mpE s z.x.es)),(3,.mp (mpP z.x.fs)),(4,.mp (mpP z.x.sc))] h fun a w h=>?_)))));refine qV ?_;have eR:=zf7 hI2 (goB_end (s:=s) (ps:=ps) (au:=au) (goal:=goal) (fun h8=>by have:=dF hc11;have:=h8.2;omega));rw [eR] at hr;cases hr
 rw [hc12] at h;refine Jq (htb:=za9) 32 [] [(0,vp 7 0),(3,vp 30 0),(5,.t (.c (.own 9 z.way.length))),(6,vb false),(24,vb false)] [(7,(bxS s ps au z.x.fuel z.x.out)),(1,.mp (mpL s ps z.x.ls)),(2,.mp (mpE s z.x.es)),(3,.mp (mpP z.x.fs)),(4,.mp (mpP z.x.sc)),(30,.box [.d (.raw (.int .i64 goal.st)),.d (.raw (.int .i64 goal.nd))]),(9,.row 176 4 (z.way.map WkD.d))] h fun a w h=>?_;refine zbn false h rfl nofun (fun _=>?_)
 refine wp_exit (zaa (zaa (za5 (za0 (Jq (htb:=za9) 32 [] [(4,.t (.c (.d (.raw za4))))] [(7,(bxS s ps au z.x.fuel z.x.out)),(1,.mp (mpL s ps z.x.ls)),(2,.mp (mpE s z.x.es)),(3,.mp (mpP z.x.fs)),(4,.mp (mpP z.x.sc))] h fun a w h=>?_)))));refine qV ?_;have eR:=zf7 hI2 (goB_end (s:=s) (ps:=ps) (au:=au) (goal:=goal) (fun h8=>by have:=h8.1;rw [hc12] at this;cases this));rw [eR] at hr;cases hr
end S
end Go.Proofs.YtdnhcneallkljaaGreat
