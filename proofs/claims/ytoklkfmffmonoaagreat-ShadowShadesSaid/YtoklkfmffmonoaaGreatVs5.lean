/-
  Part 5 of the proof of the statement ShadowShades: the walk through the program and the references lifted to the given row. It holds for every input.
-/
import Derived.Test.YtoklkfmffmonoaaGreatVs4
import Derived.Test.YtoklkfmffmonoaaGreatVs2
import Derived.Lib.RowBridge
import Derived.Test.YtoklkfmffmonoaaGreatVs1
set_option maxRecDepth 100000
section
namespace Go.Proofs.YtoklkfmffmonoaaGreat.S
open Go.RowKit

theorem hb_1 : SlT Tryz.prog 58 63 5 := SlT.mk' Tryz.underlying58 (by kernel_rfl)
theorem hb_2 : Bodied Tryz.prog 132 := Bodied.mk' (by kernel_rfl)
theorem hb_3 : Bodied Tryz.prog 152 := Bodied.mk' (by kernel_rfl)
theorem hb_5 : Bodied Tryz.prog 131 := Bodied.mk' (by kernel_rfl)
theorem hb_6 : Bodied Tryz.prog 88 := Bodied.mk' (by kernel_rfl)
theorem hb_12 : Bodied Tryz.prog 52 := Bodied.mk' (by kernel_rfl)
theorem hb_15 : Bodied Tryz.prog 30 := Bodied.mk' (by kernel_rfl)
theorem hb_19 : Bodied Tryz.prog 60 := Bodied.mk' (by kernel_rfl)
theorem hb_20 : Bodied Tryz.prog 51 := Bodied.mk' (by kernel_rfl)
def onesS (l : List SideD) : Bool := !l.any fun s => cmpZ s.times.val 1 != 0
def exactS (s : SidesD) : Bool := onesS s.lows || onesS s.highs
def brightT (l h : SideD) : Term := addT (scaleT h.rest l.times) (scaleT l.rest h.times)
def darkT (l h : SideD) : Term := subT (brightT l h) (numT (ZI.of ((l.times.val - 1) * (h.times.val - 1))))
def eachS (sh : SideD → SideD → Term) (rs : List RelD) (v : Int) : List RelD := othersOf rs v ++ (lowsOf rs v).flatMap fun l => (highsOf rs v).map fun h => lstR (sh l h)
theorem mapSnoc {α β : Type} {f : α → β} {xs : List α} {j : Nat} {x : α} (h : xs[j]? = some x) : (xs.take j).map f ++ [f x] = (xs.take (j + 1)).map f := by rw [List.take_add_one, h, List.map_append]; rfl
theorem subT_ok {n m L : Nat} {s t : Term} (hs : TOk n L s) (ht : TOk m L t) (hnm : n + m ≤ 1000) : TOk (n + m) (L + L + 8) (subT s t) := by
 have h1 : TOk m (L + 2 + 1) (scaleT t (ZI.of (-1))) := (TOk.mul (M := 2) ht (ZI.lb_of _) (by decide)).plain (by omega)
 exact (addT_ok (L := L + 3) (hs.mono (Nat.le_refl _) (by omega)) (h1.mono (Nat.le_refl _) (by omega)) hnm).mono (Nat.le_refl _) (by omega)
theorem scaleT_ok {n L M : Nat} {t : Term} {q : ZI} (ht : TOk n L t) (hq : Lb q.abs) (lq : q.abs.length ≤ M) (hn : n ≤ 1000) : TOk n (L + M + 1) (scaleT t q) := (TOk.mul ht hq lq).plain hn
theorem bright_ok {l h : SideD} (hl : SideOk l) (hh : SideOk h) : TOk 40 40 (brightT l h) := addT_ok (n := 20) (m := 20) (L := 19) (scaleT_ok hh.rest hl.lb hl.len (by decide)) (scaleT_ok hl.rest hh.lb hh.len (by decide)) (by decide)
theorem gap_len {l h : SideD} (hl : SideOk l) (hh : SideOk h) : (ZI.of ((l.times.val - 1) * (h.times.val - 1))).abs.length ≤ 24 := by
 have h1 := len_sub (x := l.times) (y := ZI.of 1) hl.lb (ZI.lb_of 1)
 have h2 := len_sub (x := h.times) (y := ZI.of 1) hh.lb (ZI.lb_of 1)
 have h3 := len_mul (x := ZI.of (l.times.val - (ZI.of 1).val)) (y := ZI.of (h.times.val - (ZI.of 1).val)) (ZI.lb_of _) (ZI.lb_of _)
 rw [ZI.val_of, ZI.val_of, ZI.val_of] at h3
 rw [ZI.val_of] at h1 h2
 have e : (ZI.of 1).abs.length ≤ 1 := by decide
 have := hl.len; have := hh.len
 omega
theorem dark_ok {l h : SideD} (hl : SideOk l) (hh : SideOk h) : TOk 40 88 (darkT l h) := (subT_ok (n := 40) (m := 0) (L := 40) (bright_ok hl hh) ((TOk.num (ZI.lb_of _) (Nat.le_refl _)).mono (Nat.le_refl 0) (show (ZI.of (ZI.of ((l.times.val - 1) * (h.times.val - 1))).val).abs.length ≤ 40 by rw [ZI.val_of]; exact Nat.le_trans (gap_len hl hh) (by decide))) (by decide)).mono (by decide) (by decide)
theorem flat_bd {α β : Type} {g : α → List β} {k : Nat} (hg : ∀ x, (g x).length ≤ k) : ∀ xs : List α, (xs.flatMap g).length ≤ xs.length * k
 | [] => by simp
 | x :: xs => by
  rw [List.flatMap_cons, List.length_append, List.length_cons, Nat.add_mul]
  have := flat_bd hg xs; have := hg x; omega
set_option maxHeartbeats 4000000 in
theorem SOnes1 (s : SideD) (one : ZI) (hs : SideOk s) (ho : Lb one.abs) (lo : one.abs.length ≤ 9) : Fn Tryz.prog 132 [(1, .box (zi one))] [.t (.agg (zi s.times ++ [.d (.sl 3 (s.rest.parts.map Part.d))] ++ zi s.rest.k)), vp 1 0] (vb (cmpZ s.times.val one.val != 0)) [(1, .box (zi one))] := by
 have ls := hs.len
 refine Fn.body Tryz.func132 rfl 9 rfl fun w H B a h => ?_
 refine rSeq fam0ok 5 [] [(1, vp 1 0), (2, vp 5 0), (3, vb false)] [(1, .box (zi one)), (5, .box (zi s.times ++ [.d (.sl 3 (s.rest.parts.map Part.d))] ++ zi s.rest.k))] (by kernel_rfl) h ?_; clear h; intro a w h
 refine rSeq fam0ok 6 [(3, .call (SCmp s.times one hs.lb ho (by omega) (by omega)) tx_2)] [(3, vb (cmpZ s.times.val one.val != 0))] [(1, .box (zi one))] (by kernel_rfl) h ?_; clear h; intro a w h
 refine wp_ret ?_
 refine retS [.c (.d (.raw (.bool (cmpZ s.times.val one.val != 0))))] h Exit.ret (.inl rfl)  rfl ⟨RV.tmp _ _ rfl, trivial⟩ ?_ (by kernel_rfl) (by kernel_rfl)
 rfl
set_option maxHeartbeats 4000000 in
theorem SIdxOn (pr : SideD → Bool) (xs : List SideD) (one : ZI) (hf : ∀ x ∈ xs, Fn Tryz.prog 132 [(1, .box (zi one))] [.t (.agg (zi x.times ++ [.d (.sl 3 (x.rest.parts.map Part.d))] ++ zi x.rest.k)), vp 1 0] (vb (pr x)) [(1, .box (zi one))]) (hl : xs.length ≤ 9223372036854775807) : Fn Tryz.prog 152 [(1, .box (zi one))] [.t (.c (.d (.sl 5 (xs.map SideD.d)))), .t (.c (.fn (.func 132) [] [.ptr 1 0]))] (vi .i64 (idxB pr xs 0)) [(1, .box (zi one))] := by
 refine Fn.body Tryz.func152 rfl 19 rfl fun w H B a h => ?_
 refine rSeq fam0ok 5 [] [(0, .t (.c (.d (.sl 5 (xs.map SideD.d))))), (1, .t (.c (.fn (.func 132) [] [.ptr 1 0]))), (4, vi .i64 0)] [(1, .box (zi one))] (by kernel_rfl) h ?_; clear h; intro a w h
 refine wp_seq ?_
 refine rSeq fam0ok 5 [(1, .len (c := (.d (.sl 5 (xs.map SideD.d)))) (n := xs.length) (lenC_map _ _ _))] [(0, .t (.c (.d (.sl 5 (xs.map SideD.d))))), (1, .t (.c (.fn (.func 132) [] [.ptr 1 0]))), (4, vi .i64 0), (7, vi .i64 (xs.length : Int)), (8, vi .i64 0)] [(1, .box (zi one))] (by kernel_rfl) h ?_; clear h; intro a w h
 refine wp_block ?_
 refine loopS (ι := (Nat)) (fun (z_ : (Nat)) => match z_ with | j => j ≤ xs.length ∧ idxB pr xs 0 = idxB pr (xs.drop j) j)
   (fun (z_ : (Nat)) => match z_ with | j => [(0, .t (.c (.d (.sl 5 (xs.map SideD.d))))), (1, .t (.c (.fn (.func 132) [] [.ptr 1 0]))), (7, vi .i64 (xs.length : Int)), (8, vi .i64 (j : Int))])
   (fun (z_ : (Nat)) => match z_ with | j => [(1, .box (zi one))])
   (fun (z_ : (Nat)) => match z_ with | j => xs.length - j) 0 ?_ h (by kernel_rfl) (by kernel_rfl) ?_
 ·exact ⟨Nat.zero_le _, rfl⟩
 ·clear h; rintro j a w hI h
  change St _ (F.of [(0, .t (.c (.d (.sl 5 (xs.map SideD.d))))), (1, .t (.c (.fn (.func 132) [] [.ptr 1 0]))), (7, vi .i64 (xs.length : Int)), (8, vi .i64 (j : Int))] [(1, .box (zi one))]) a w at h
  obtain ⟨hI1, hI2⟩ := hI
  refine rSeq fam0ok 5 [] [(0, .t (.c (.d (.sl 5 (xs.map SideD.d))))), (1, .t (.c (.fn (.func 132) [] [.ptr 1 0]))), (7, vi .i64 (xs.length : Int)), (8, vi .i64 (j : Int)), (9, vb (decide ((j : Int) < (xs.length : Int))))] [(1, .box (zi one))] (by kernel_rfl) h ?_; clear h; intro a w h
  refine wp_seq ?_
  refine condS (decide ((j : Int) < (xs.length : Int))) h rfl (fun hc => ?_) (fun hc => ?_)
  ·have hc1 := hc; clear hc
   have hc1' := of_decide_eq_true hc1
   refine wp_skip ?_
   refine then_n ?_
   refine wp_seq ?_
   refine wp_block ?_
   refine rSeq fam0ok 5 [] [(0, .t (.c (.d (.sl 5 (xs.map SideD.d))))), (1, .t (.c (.fn (.func 132) [] [.ptr 1 0]))), (5, vi .i64 (j : Int)), (7, vi .i64 (xs.length : Int)), (8, vi .i64 (j : Int))] [(1, .box (zi one))] (by kernel_rfl) h ?_; clear h; intro a w h
   obtain ⟨x1, hx1⟩ : ∃ z_ : SideD, xs[j]? = some z_ := ⟨_, List.getElem?_eq_getElem (by first | omega | (simp at *; omega))⟩
   refine rSeq fam0ok 5 [(3, .gen _ _ _ fun _ _ _ _ => Op.idxD (d := 14) (t := 12) (k := .i64) hb_1 (map_at hx1 (f := SideD.d)) (OV.tmp 13 _)), (5, .gen _ _ _ fun _ _ _ _ => Op.callV (d := 16) (t := 11) (cap := [.ptr 1 0]) (args := [.t (.agg (zi x1.times ++ [.d (.sl 3 (x1.rest.parts.map Part.d))] ++ zi x1.rest.k))]) (rs := [(15, .t (.agg (zi x1.times ++ [.d (.sl 3 (x1.rest.parts.map Part.d))] ++ zi x1.rest.k)))]) (tys := #[63]) (hf x1 (List.mem_of_getElem? hx1)) hb_2 (OVs.cons (OV.tmp 15 _) (OVs.nil)))] [(0, .t (.c (.d (.sl 5 (xs.map SideD.d))))), (1, .t (.c (.fn (.func 132) [] [.ptr 1 0]))), (5, vi .i64 (j : Int)), (7, vi .i64 (xs.length : Int)), (8, vi .i64 (j : Int)), (16, vb (pr x1))] [(1, .box (zi one))] (by kernel_rfl) h ?_; clear h; intro a w h
   refine condS (pr x1) h rfl (fun hc => ?_) (fun hc => ?_)
   ·have hc2 := hc; clear hc
    refine rSeq fam0ok 5 [] [(0, .t (.c (.d (.sl 5 (xs.map SideD.d))))), (1, .t (.c (.fn (.func 132) [] [.ptr 1 0]))), (4, vi .i64 (j : Int)), (7, vi .i64 (xs.length : Int)), (8, vi .i64 (j : Int))] [(1, .box (zi one))] (by kernel_rfl) h ?_; clear h; intro a w h
    refine wp_ret ?_
    refine block_r ?_
    refine then_r ?_
    refine then_r ?_
    refine block_r ?_
    refine then_r ?_
    refine retS [.c (.d (.raw (.int .i64 (j : Int))))] h Exit.ret (.inl rfl)  rfl ⟨RV.tmp _ _ rfl, trivial⟩ ?_ (by kernel_rfl) (by kernel_rfl)
    have hz : idxB pr xs 0 = (j : Int) := by rw [hI2, idxB_at hx1, if_pos hc2]
    rw [hz]; first | done | rfl
   ·have hc3 := hc; clear hc
    refine wp_skip ?_
    refine block_n ?_
    refine then_n ?_
    refine rS fam0ok 5 [(0, .add .i64 (m := (j : Int)) (n := 1) (i64_id (by omega) (by omega)))] [(0, .t (.c (.d (.sl 5 (xs.map SideD.d))))), (1, .t (.c (.fn (.func 132) [] [.ptr 1 0]))), (7, vi .i64 (xs.length : Int)), (8, vi .i64 ((j : Int) + 1))] [(1, .box (zi one))] (by kernel_rfl) h ?_; clear h; intro a w h
    refine then_n ?_
    refine roundS (x := j) (y := j + 1) h ?_ ?_ (by kernel_rfl) (by kernel_rfl)
    ·exact ⟨by have := at_lt hx1; omega, by rw [hI2, idxB_at hx1, if_neg (by rw [hc3]; exact Bool.noConfusion)]⟩
    ·simp; omega
  ·have hc4 := hc; clear hc
   have hc4' := of_decide_eq_false hc4
   refine wp_exit ?_
   refine then_x ?_
   refine then_x ?_
   refine inBlock_exit ?_
   refine then_n ?_
   refine rSeq fam0ok 5 [] [(4, vi .i64 (-1))] [(1, .box (zi one))] (by kernel_rfl) h ?_; clear h; intro a w h
   refine wp_ret ?_
   refine retS [.c (.d (.raw (.int .i64 (-1))))] h Exit.ret (.inl rfl)  rfl ⟨RV.tmp _ _ rfl, trivial⟩ ?_ (by kernel_rfl) (by kernel_rfl)
   have hz : idxB pr xs 0 = -1 := by rw [hI2, List.drop_of_length_le (by omega)]; rfl
   rw [hz]; first | done | rfl
set_option maxHeartbeats 4000000 in
theorem SAnyOn (pr : SideD → Bool) (xs : List SideD) (one : ZI) (hf : ∀ x ∈ xs, Fn Tryz.prog 132 [(1, .box (zi one))] [.t (.agg (zi x.times ++ [.d (.sl 3 (x.rest.parts.map Part.d))] ++ zi x.rest.k)), vp 1 0] (vb (pr x)) [(1, .box (zi one))]) (hl : xs.length ≤ 9223372036854775807) : Fn Tryz.prog 131 [(1, .box (zi one))] [.t (.c (.d (.sl 5 (xs.map SideD.d)))), .t (.c (.fn (.func 132) [] [.ptr 1 0]))] (vb (xs.any pr)) [(1, .box (zi one))] := by
 refine Fn.body Tryz.func131 rfl 9 rfl fun w H B a h => ?_
 refine rSeq fam0ok 5 [] [(0, .t (.c (.d (.sl 5 (xs.map SideD.d))))), (1, .t (.c (.fn (.func 132) [] [.ptr 1 0]))), (4, vb false)] [(1, .box (zi one))] (by kernel_rfl) h ?_; clear h; intro a w h
 refine rSeq fam0ok 5 [(2, .call (SIdxOn pr xs one hf  hl) hb_3)] [(4, vb (decide (idxB pr xs 0 ≥ 0)))] [(1, .box (zi one))] (by kernel_rfl) h ?_; clear h; intro a w h
 refine wp_ret ?_
 refine retS [.c (.d (.raw (.bool (decide (idxB pr xs 0 ≥ 0)))))] h Exit.ret (.inl rfl)  rfl ⟨RV.tmp _ _ rfl, trivial⟩ ?_ (by kernel_rfl) (by kernel_rfl)
 rw [← idxB_any]; first | done | rfl
set_option maxHeartbeats 4000000 in
theorem SOnes (l : List SideD) (hl : ∀ s ∈ l, SideOk s) (hn : l.length ≤ 1000) : Fn Tryz.prog 88 [] [.t (.c (.d (.sl 5 (l.map SideD.d))))] (vb (onesS l)) [] := by
 refine Fn.body Tryz.func88 rfl 9 rfl fun w H B a h => ?_
 refine rSeq fam0ok 1 [] [(0, .t (.c (.d (.sl 5 (l.map SideD.d))))), (2, vb false)] [] (by kernel_rfl) h ?_; clear h; intro a w h
 obtain ⟨r1, er1, vr1, or1, lr1⟩ := mkZ (v := 1) (m := 2) (ZI.len_of (by have := pw2; omega))
 refine rSeq fam0ok 1 [(0, .call (Fn.cast (SOf 1 ⟨by omega, by omega⟩) (congrArg vz er1.symm)) tm_10)] [(0, .t (.c (.d (.sl 5 (l.map SideD.d))))), (2, vb false), (3, vp 1 0)] [(1, .box (zi r1))] (by kernel_rfl) h ?_; clear h; intro a w h
 refine rSeq fam0ok 2 [(1, .gen _ _ _ fun _ _ _ _ => Op.makeFs (d := 6) (fn := .func 132) [(3, 1, 0)]), (2, .call (SAnyOn (fun s => cmpZ s.times.val r1.val != 0) l r1 (fun x hx => SOnes1 x r1 (hl x hx) or1 (by omega)) (by omega)) hb_5)] [(2, vb (!(l.any (fun s => cmpZ s.times.val r1.val != 0))))] [] (by kernel_rfl) h ?_; clear h; intro a w h
 refine wp_ret ?_
 refine retS [.c (.d (.raw (.bool (!(l.any (fun s => cmpZ s.times.val r1.val != 0))))))] h Exit.ret (.inl rfl)  rfl ⟨RV.tmp _ _ rfl, trivial⟩ ?_ (by kernel_rfl) (by kernel_rfl)
 unfold onesS; simp only [vr1]; first | done | rfl
set_option maxHeartbeats 4000000 in
theorem SExact (s : SidesD) (hl : ∀ x ∈ s.lows, SideOk x) (hh : ∀ x ∈ s.highs, SideOk x) (nl : s.lows.length ≤ 1000) (nh : s.highs.length ≤ 1000) : Fn Tryz.prog 47 [] [.t (.agg [.d (.sl 5 (s.lows.map SideD.d)), .d (.sl 5 (s.highs.map SideD.d)), .d (.sl 4 (s.others.map RelD.d))])] (vb (exactS s)) [] := by
 refine Fn.body Tryz.func47 rfl 11 rfl fun w H B a h => ?_
 refine rSeq fam0ok 0 [] [(1, vp 0 0), (2, vb false)] [(0, .box [.d (.sl 5 (s.lows.map SideD.d)), .d (.sl 5 (s.highs.map SideD.d)), .d (.sl 4 (s.others.map RelD.d))])] (by kernel_rfl) h ?_; clear h; intro a w h
 rcases Bool.eq_false_or_eq_true (onesS s.lows) with hc | hc
 ·have hc1 := hc; clear hc
  refine rSeq fam0ok 1 [(2, .call (Fn.cast (SOnes s.lows hl nl) (congrArg vb hc1)) hb_6)] [(2, vb true)] [] (by kernel_rfl) h ?_; clear h; intro a w h
  refine wp_ret ?_
  refine retS [.c (.d (.raw (.bool true)))] h Exit.ret (.inl rfl)  rfl ⟨RV.tmp _ _ rfl, trivial⟩ ?_ (by kernel_rfl) (by kernel_rfl)
  have hz : exactS s = (true) := by unfold exactS; rw [hc1]; rfl
  rw [hz]; first | done | rfl
 ·have hc2 := hc; clear hc
  refine rSeq fam0ok 1 [(2, .call (Fn.cast (SOnes s.lows hl nl) (congrArg vb hc2)) hb_6), (6, .call (SOnes s.highs hh nh) hb_6)] [(2, vb (onesS s.highs))] [] (by kernel_rfl) h ?_; clear h; intro a w h
  refine wp_ret ?_
  refine retS [.c (.d (.raw (.bool (onesS s.highs))))] h Exit.ret (.inl rfl)  rfl ⟨RV.tmp _ _ rfl, trivial⟩ ?_ (by kernel_rfl) (by kernel_rfl)
  have hz : exactS s = (onesS s.highs) := by unfold exactS; rw [hc2]; rfl
  rw [hz]; first | done | rfl
set_option maxHeartbeats 4000000 in
theorem SBright (low high : SideD) (hlow : SideOk low) (hhigh : SideOk high) : Fn Tryz.prog 52 [] [.t (.agg (zi low.times ++ [.d (.sl 3 (low.rest.parts.map Part.d))] ++ zi low.rest.k)), .t (.agg (zi high.times ++ [.d (.sl 3 (high.rest.parts.map Part.d))] ++ zi high.rest.k))] (.t (.agg ([.d (.sl 3 ((brightT low high).parts.map Part.d))] ++ zi (brightT low high).k))) [] := by
 have ll := hlow.len
 have lh := hhigh.len
 refine Fn.body Tryz.func52 rfl 16 rfl fun w H B a h => ?_
 refine rSeq fam0ok 0 [] [(2, vp 0 0), (3, vp 1 0), (4, vp 2 0)] [(0, .box (zi low.times ++ [.d (.sl 3 (low.rest.parts.map Part.d))] ++ zi low.rest.k)), (1, .box (zi high.times ++ [.d (.sl 3 (high.rest.parts.map Part.d))] ++ zi high.rest.k)), (2, .box [.d (.raw nilV), .d (.raw (.bool false)), .d (nsl [])])] (by kernel_rfl) h ?_; clear h; intro a w h
 refine rSeq fam0ok 3 [(4, .call (SScale high.rest low.times hhigh.rest (by decide) hlow.lb hlow.len (by decide)) tm_13), (9, .call (SScale low.rest high.times hlow.rest (by decide) hhigh.lb hhigh.len (by decide)) tm_13), (10, .call (STAdd (scaleT high.rest low.times) (scaleT low.rest high.times) ((scaleT_ok hhigh.rest hlow.lb hlow.len (by decide)).mono (by decide) (by decide)) ((scaleT_ok hlow.rest hhigh.lb hhigh.len (by decide)).mono (by decide) (by decide))) tm_15)] [(4, vp 2 0)] [(2, .box ([.d (.sl 3 ((addT (scaleT high.rest low.times) (scaleT low.rest high.times)).parts.map Part.d))] ++ zi (addT (scaleT high.rest low.times) (scaleT low.rest high.times)).k))] (by kernel_rfl) h ?_; clear h; intro a w h
 refine wp_ret ?_
 refine retS [.agg ([.d (.sl 3 ((addT (scaleT high.rest low.times) (scaleT low.rest high.times)).parts.map Part.d))] ++ zi (addT (scaleT high.rest low.times) (scaleT low.rest high.times)).k)] h Exit.ret (.inl rfl)  rfl ⟨RV.agg _ 2 0 _ _ _ _ tb_11 rfl rfl rfl rfl, trivial⟩ ?_ (by kernel_rfl) (by kernel_rfl)
 rfl
theorem num_len {k : ZI} {L : Nat} (hk : Lb k.abs) (lk : k.abs.length ≤ L) : (ZI.of k.val).abs.length ≤ L := Nat.le_trans (len_id hk) lk
set_option maxHeartbeats 4000000 in
theorem SDark (low high : SideD) (hlow : SideOk low) (hhigh : SideOk high) : Fn Tryz.prog 60 [] [.t (.agg (zi low.times ++ [.d (.sl 3 (low.rest.parts.map Part.d))] ++ zi low.rest.k)), .t (.agg (zi high.times ++ [.d (.sl 3 (high.rest.parts.map Part.d))] ++ zi high.rest.k))] (.t (.agg ([.d (.sl 3 ((darkT low high).parts.map Part.d))] ++ zi (darkT low high).k))) [] := by
 have ll := hlow.len
 have lh := hhigh.len
 refine Fn.body Tryz.func60 rfl 23 rfl fun w H B a h => ?_
 refine rSeq fam0ok 0 [] [(2, vp 0 0), (3, vp 1 0), (4, vp 2 0)] [(0, .box (zi low.times ++ [.d (.sl 3 (low.rest.parts.map Part.d))] ++ zi low.rest.k)), (1, .box (zi high.times ++ [.d (.sl 3 (high.rest.parts.map Part.d))] ++ zi high.rest.k)), (2, .box [.d (.raw nilV), .d (.raw (.bool false)), .d (nsl [])])] (by kernel_rfl) h ?_; clear h; intro a w h
 obtain ⟨r1, er1, vr1, or1, lr1⟩ := mkZ (v := 1) (m := 2) (ZI.len_of (by have := pw2; omega))
 refine rSeq fam0ok 3 [(0, .call (Fn.cast (SOf 1 ⟨by omega, by omega⟩) (congrArg vz er1.symm)) tm_10)] [(2, vp 0 0), (3, vp 1 0), (4, vp 2 0), (5, vp 3 0)] [(0, .box (zi low.times ++ [.d (.sl 3 (low.rest.parts.map Part.d))] ++ zi low.rest.k)), (1, .box (zi high.times ++ [.d (.sl 3 (high.rest.parts.map Part.d))] ++ zi high.rest.k)), (2, .box [.d (.raw nilV), .d (.raw (.bool false)), .d (nsl [])]), (3, .box (zi r1))] (by kernel_rfl) h ?_; clear h; intro a w h
 obtain ⟨r2, er2, vr2, or2, lr2⟩ := mkZ (v := low.times.val - r1.val) (m := low.times.abs.length + r1.abs.length + 1) (len_sub hlow.lb or1)
 obtain ⟨r3, er3, vr3, or3, lr3⟩ := mkZ (v := high.times.val - r1.val) (m := high.times.abs.length + r1.abs.length + 1) (len_sub hhigh.lb or1)
 obtain ⟨r4, er4, vr4, or4, lr4⟩ := mkZ (v := r2.val * r3.val) (m := r2.abs.length + r3.abs.length) (len_mul or2 or3)
 refine rSeq fam0ok 4 [(3, .call (Fn.cast (SSub low.times r1 hlow.lb or1 (by omega) (by omega)) (congrArg vz er2.symm)) zs_16), (7, .call (Fn.cast (SSub high.times r1 hhigh.lb or1 (by omega) (by omega)) (congrArg vz er3.symm)) zs_16), (8, .call (Fn.cast (SMul r2 r3 or2 or3 (by omega) (by omega)) (congrArg vz er4.symm)) tm_12)] [(2, vp 0 0), (3, vp 1 0), (4, vp 2 0), (6, vp 4 0)] [(0, .box (zi low.times ++ [.d (.sl 3 (low.rest.parts.map Part.d))] ++ zi low.rest.k)), (1, .box (zi high.times ++ [.d (.sl 3 (high.rest.parts.map Part.d))] ++ zi high.rest.k)), (2, .box [.d (.raw nilV), .d (.raw (.bool false)), .d (nsl [])]), (4, .box (zi r4))] (by kernel_rfl) h ?_; clear h; intro a w h
 refine rSeq fam0ok 5 [(2, .call (SBright low high hlow hhigh) hb_12), (4, .call (SNumber r4 or4 (by omega)) to_7), (5, .call (STSub (brightT low high) (numT r4) ((bright_ok hlow hhigh).mono (by decide) (by decide)) ((TOk.num (L := 40) (ZI.lb_of _) (num_len or4 (show r4.abs.length ≤ 40 by omega))).mono (by decide) (by decide))) to_9)] [(4, vp 2 0)] [(2, .box ([.d (.sl 3 ((subT (brightT low high) (numT r4)).parts.map Part.d))] ++ zi (subT (brightT low high) (numT r4)).k))] (by kernel_rfl) h ?_; clear h; intro a w h
 refine wp_ret ?_
 refine retS [.agg ([.d (.sl 3 ((subT (brightT low high) (numT r4)).parts.map Part.d))] ++ zi (subT (brightT low high) (numT r4)).k)] h Exit.ret (.inl rfl)  rfl ⟨RV.agg _ 2 0 _ _ _ _ tb_11 rfl rfl rfl rfl, trivial⟩ ?_ (by kernel_rfl) (by kernel_rfl)
 have hz : darkT low high = subT (brightT low high) (numT r4) := by unfold darkT; rw [er4]; congr 3; simp only [vr1, vr2, vr3]
 rw [hz]; first | done | rfl
theorem each_len {rs : List RelD} (h : RsOk rs) {sh : SideD → SideD → Term} (v : Int) (j : Nat) : (othersOf rs v ++ ((lowsOf rs v).take j).flatMap fun l => (highsOf rs v).map fun h => lstR (sh l h)).length ≤ 420 := by
 have h1 := lows_len h v; have h2 := highs_len h v; have h3 := others_len h v
 have h4 := flat_bd (g := fun l => (highsOf rs v).map fun h => lstR (sh l h)) (k := 20) (fun x => by rw [List.length_map]; exact h2) ((lowsOf rs v).take j)
 rw [List.length_take] at h4
 rw [List.length_append]
 have h5 : min j (lowsOf rs v).length * 20 ≤ 20 * 20 := Nat.mul_le_mul_right 20 (by omega)
 omega
set_option maxHeartbeats 4000000 in
theorem SEachBright (rs : List RelD) (v : Int) (hrs : RsOk rs) : Fn Tryz.prog 51 [] [.t (.c (.d (.sl 4 (rs.map RelD.d)))), vi .i64 v, .t (.c (.fn (.func 52) [] []))] (.t (.c (.d (.sl 4 ((eachS brightT rs v).map RelD.d))))) [] := by
 have lrs := hrs.1
 have nl := lows_len hrs v
 have nh := highs_len hrs v
 have no := others_len hrs v
 refine Fn.body Tryz.func51 rfl 43 rfl fun w H B a h => ?_
 refine rSeq fam0ok 5 [] [(0, .t (.c (.d (.sl 4 (rs.map RelD.d))))), (1, vi .i64 v), (2, .t (.c (.fn (.func 52) [] []))), (6, .t (.c (.d (.raw nilV))))] [] (by kernel_rfl) h ?_; clear h; intro a w h
 refine rSeq fam0ok 5 [(2, .call (SsplitO rs v hrs) hb_15)] [(2, .t (.c (.fn (.func 52) [] []))), (6, .t (.c (.d (.raw nilV)))), (7, vp 5 0)] [(0, .row 45 4 ((othersOf rs v).map RelD.d)), (5, .box [.d (.sl 5 ((lowsOf rs v).map SideD.d)), .d (.sl 5 ((highsOf rs v).map SideD.d)), .own 0 (othersOf rs v).length])] (by kernel_rfl) h ?_; clear h; intro a w h
 refine rSeq fam0ok 6 [] [(2, .t (.c (.fn (.func 52) [] []))), (6, .t (.c (.d (.raw nilV)))), (7, vp 5 0), (8, .t (.c (.own 0 (othersOf rs v).length)))] [(0, .row 45 4 ((othersOf rs v).map RelD.d)), (5, .box [.d (.sl 5 ((lowsOf rs v).map SideD.d)), .d (.sl 5 ((highsOf rs v).map SideD.d)), .own 0 (othersOf rs v).length])] (by kernel_rfl) h ?_; clear h; intro a w h
 refine wp_seq ?_
 replace h := anyLs 5 2 [.d (.sl 5 ((lowsOf rs v).map SideD.d)), .d (.sl 5 ((highsOf rs v).map SideD.d)), .own 0 (othersOf rs v).length] (.own 0 (othersOf rs v).length) [(2, .t (.c (.fn (.func 52) [] []))), (6, .t (.c (.d (.raw nilV)))), (7, vp 5 0), (8, .t (.c (.own 0 (othersOf rs v).length)))] [(0, .row 45 4 ((othersOf rs v).map RelD.d)), (5, .box [.d (.sl 5 ((lowsOf rs v).map SideD.d)), .d (.sl 5 ((highsOf rs v).map SideD.d)), .any])] h rfl rfl (by kernel_rfl) (by kernel_rfl)
 refine rSeq fam0ok 6 [(2, .len (c := (.d (.sl 5 ((lowsOf rs v).map SideD.d)))) (n := (lowsOf rs v).length) (lenC_map _ _ _))] [(2, .t (.c (.fn (.func 52) [] []))), (6, .t (.c (.d (.raw nilV)))), (7, vp 5 0), (8, .t (.c (.own 0 (othersOf rs v).length))), (19, .t (.c (.d (.sl 5 ((lowsOf rs v).map SideD.d))))), (20, vi .i64 ((lowsOf rs v).length : Int)), (21, vi .i64 0)] [(0, .row 45 4 ((othersOf rs v).map RelD.d)), (5, .box [.d (.sl 5 ((lowsOf rs v).map SideD.d)), .d (.sl 5 ((highsOf rs v).map SideD.d)), .any])] (by kernel_rfl) h ?_; clear h; intro a w h
 refine wp_block ?_
 replace h := h.conv (f' := F.of [(2, .t (.c (.fn (.func 52) [] []))), (6, .t (.c (.d (.raw nilV)))), (7, vp 5 0), (8, .t (.c (.own 0 ((othersOf rs v) ++ ((lowsOf rs v).take 0).flatMap (fun l => (highsOf rs v).map fun h => lstR (brightT l h))).length))), (19, .t (.c (.d (.sl 5 ((lowsOf rs v).map SideD.d))))), (20, vi .i64 ((lowsOf rs v).length : Int)), (21, vi .i64 0)] [(0, .row 45 4 (((othersOf rs v) ++ ((lowsOf rs v).take 0).flatMap (fun l => (highsOf rs v).map fun h => lstR (brightT l h))).map RelD.d)), (5, .box [.d (.sl 5 ((lowsOf rs v).map SideD.d)), .d (.sl 5 ((highsOf rs v).map SideD.d)), .any])]) (congrArg (fun (z_ : List RelD) => F.of [(2, .t (.c (.fn (.func 52) [] []))), (6, .t (.c (.d (.raw nilV)))), (7, vp 5 0), (8, .t (.c (.own 0 z_.length))), (19, .t (.c (.d (.sl 5 ((lowsOf rs v).map SideD.d))))), (20, vi .i64 ((lowsOf rs v).length : Int)), (21, vi .i64 0)] [(0, .row 45 4 (z_.map RelD.d)), (5, .box [.d (.sl 5 ((lowsOf rs v).map SideD.d)), .d (.sl 5 ((highsOf rs v).map SideD.d)), .any])]) (show ((othersOf rs v) : List RelD) = ((othersOf rs v) ++ ((lowsOf rs v).take 0).flatMap (fun l => (highsOf rs v).map fun h => lstR (brightT l h))) from (by simp)))
 refine loopS (ι := (Nat)) (fun (z_ : (Nat)) => match z_ with | j => j ≤ (lowsOf rs v).length)
   (fun (z_ : (Nat)) => match z_ with | j => [(2, .t (.c (.fn (.func 52) [] []))), (6, .t (.c (.d (.raw nilV)))), (7, vp 5 0), (8, .t (.c (.own 0 ((othersOf rs v) ++ ((lowsOf rs v).take j).flatMap (fun l => (highsOf rs v).map fun h => lstR (brightT l h))).length))), (19, .t (.c (.d (.sl 5 ((lowsOf rs v).map SideD.d))))), (20, vi .i64 ((lowsOf rs v).length : Int)), (21, vi .i64 (j : Int))])
   (fun (z_ : (Nat)) => match z_ with | j => [(0, .row 45 4 (((othersOf rs v) ++ ((lowsOf rs v).take j).flatMap (fun l => (highsOf rs v).map fun h => lstR (brightT l h))).map RelD.d)), (5, .box [.d (.sl 5 ((lowsOf rs v).map SideD.d)), .d (.sl 5 ((highsOf rs v).map SideD.d)), .any])])
   (fun (z_ : (Nat)) => match z_ with | j => (lowsOf rs v).length - j) 0 ?_ h (by kernel_rfl) (by kernel_rfl) ?_
 ·exact Nat.zero_le _
 ·clear h; rintro j a w hI h
  change St _ (F.of [(2, .t (.c (.fn (.func 52) [] []))), (6, .t (.c (.d (.raw nilV)))), (7, vp 5 0), (8, .t (.c (.own 0 ((othersOf rs v) ++ ((lowsOf rs v).take j).flatMap (fun l => (highsOf rs v).map fun h => lstR (brightT l h))).length))), (19, .t (.c (.d (.sl 5 ((lowsOf rs v).map SideD.d))))), (20, vi .i64 ((lowsOf rs v).length : Int)), (21, vi .i64 (j : Int))] [(0, .row 45 4 (((othersOf rs v) ++ ((lowsOf rs v).take j).flatMap (fun l => (highsOf rs v).map fun h => lstR (brightT l h))).map RelD.d)), (5, .box [.d (.sl 5 ((lowsOf rs v).map SideD.d)), .d (.sl 5 ((highsOf rs v).map SideD.d)), .any])]) a w at h
  have oj := each_len (sh := brightT) hrs v j
  refine rSeq fam0ok 6 [] [(2, .t (.c (.fn (.func 52) [] []))), (6, .t (.c (.d (.raw nilV)))), (7, vp 5 0), (8, .t (.c (.own 0 ((othersOf rs v) ++ ((lowsOf rs v).take j).flatMap (fun l => (highsOf rs v).map fun h => lstR (brightT l h))).length))), (19, .t (.c (.d (.sl 5 ((lowsOf rs v).map SideD.d))))), (20, vi .i64 ((lowsOf rs v).length : Int)), (21, vi .i64 (j : Int)), (22, vb (decide ((j : Int) < ((lowsOf rs v).length : Int))))] [(0, .row 45 4 (((othersOf rs v) ++ ((lowsOf rs v).take j).flatMap (fun l => (highsOf rs v).map fun h => lstR (brightT l h))).map RelD.d)), (5, .box [.d (.sl 5 ((lowsOf rs v).map SideD.d)), .d (.sl 5 ((highsOf rs v).map SideD.d)), .any])] (by kernel_rfl) h ?_; clear h; intro a w h
  refine wp_seq ?_
  refine condS (decide ((j : Int) < ((lowsOf rs v).length : Int))) h rfl (fun hc => ?_) (fun hc => ?_)
  ·have hc1 := hc; clear hc
   have hc1' := of_decide_eq_true hc1
   refine wp_skip ?_
   refine then_n ?_
   refine wp_seq ?_
   refine wp_block ?_
   obtain ⟨x2, hx2⟩ : ∃ z_ : SideD, (lowsOf rs v)[j]? = some z_ := ⟨_, List.getElem?_eq_getElem (by first | omega | (simp at *; omega))⟩
   have hx2_ := lows_ok hrs v x2 (List.mem_of_getElem? hx2)
   refine rSeq fam0ok 6 [(0, .gen _ _ _ fun _ _ _ _ => Op.idxD (d := 23) (t := 19) (k := .i64) hb_1 (map_at hx2 (f := SideD.d)) (OV.tmp 21 _))] [(2, .t (.c (.fn (.func 52) [] []))), (6, .t (.c (.d (.raw nilV)))), (7, vp 5 0), (8, .t (.c (.own 0 ((othersOf rs v) ++ ((lowsOf rs v).take j).flatMap (fun l => (highsOf rs v).map fun h => lstR (brightT l h))).length))), (10, vp 6 0), (19, .t (.c (.d (.sl 5 ((lowsOf rs v).map SideD.d))))), (20, vi .i64 ((lowsOf rs v).length : Int)), (21, vi .i64 (j : Int))] [(0, .row 45 4 (((othersOf rs v) ++ ((lowsOf rs v).take j).flatMap (fun l => (highsOf rs v).map fun h => lstR (brightT l h))).map RelD.d)), (5, .box [.d (.sl 5 ((lowsOf rs v).map SideD.d)), .d (.sl 5 ((highsOf rs v).map SideD.d)), .any]), (6, .box (zi x2.times ++ [.d (.sl 3 (x2.rest.parts.map Part.d))] ++ zi x2.rest.k))] (by kernel_rfl) h ?_; clear h; intro a w h
   refine rSeq fam0ok 7 [(2, .len (c := (.d (.sl 5 ((highsOf rs v).map SideD.d)))) (n := (highsOf rs v).length) (lenC_map _ _ _))] [(2, .t (.c (.fn (.func 52) [] []))), (6, .t (.c (.d (.raw nilV)))), (7, vp 5 0), (8, .t (.c (.own 0 ((othersOf rs v) ++ ((lowsOf rs v).take j).flatMap (fun l => (highsOf rs v).map fun h => lstR (brightT l h))).length))), (10, vp 6 0), (19, .t (.c (.d (.sl 5 ((lowsOf rs v).map SideD.d))))), (20, vi .i64 ((lowsOf rs v).length : Int)), (21, vi .i64 (j : Int)), (26, .t (.c (.d (.sl 5 ((highsOf rs v).map SideD.d))))), (27, vi .i64 ((highsOf rs v).length : Int)), (28, vi .i64 0)] [(0, .row 45 4 (((othersOf rs v) ++ ((lowsOf rs v).take j).flatMap (fun l => (highsOf rs v).map fun h => lstR (brightT l h))).map RelD.d)), (5, .box [.d (.sl 5 ((lowsOf rs v).map SideD.d)), .d (.sl 5 ((highsOf rs v).map SideD.d)), .any]), (6, .box (zi x2.times ++ [.d (.sl 3 (x2.rest.parts.map Part.d))] ++ zi x2.rest.k))] (by kernel_rfl) h ?_; clear h; intro a w h
   refine wp_block ?_
   replace h := h.conv (f' := F.of [(2, .t (.c (.fn (.func 52) [] []))), (6, .t (.c (.d (.raw nilV)))), (7, vp 5 0), (8, .t (.c (.own 0 (((othersOf rs v) ++ ((lowsOf rs v).take j).flatMap (fun l => (highsOf rs v).map fun h => lstR (brightT l h))) ++ ((highsOf rs v).take 0).map (fun h => lstR (brightT x2 h))).length))), (10, vp 6 0), (19, .t (.c (.d (.sl 5 ((lowsOf rs v).map SideD.d))))), (20, vi .i64 ((lowsOf rs v).length : Int)), (21, vi .i64 (j : Int)), (26, .t (.c (.d (.sl 5 ((highsOf rs v).map SideD.d))))), (27, vi .i64 ((highsOf rs v).length : Int)), (28, vi .i64 0)] [(0, .row 45 4 ((((othersOf rs v) ++ ((lowsOf rs v).take j).flatMap (fun l => (highsOf rs v).map fun h => lstR (brightT l h))) ++ ((highsOf rs v).take 0).map (fun h => lstR (brightT x2 h))).map RelD.d)), (5, .box [.d (.sl 5 ((lowsOf rs v).map SideD.d)), .d (.sl 5 ((highsOf rs v).map SideD.d)), .any]), (6, .box (zi x2.times ++ [.d (.sl 3 (x2.rest.parts.map Part.d))] ++ zi x2.rest.k))]) (congrArg (fun (z_ : List RelD) => F.of [(2, .t (.c (.fn (.func 52) [] []))), (6, .t (.c (.d (.raw nilV)))), (7, vp 5 0), (8, .t (.c (.own 0 z_.length))), (10, vp 6 0), (19, .t (.c (.d (.sl 5 ((lowsOf rs v).map SideD.d))))), (20, vi .i64 ((lowsOf rs v).length : Int)), (21, vi .i64 (j : Int)), (26, .t (.c (.d (.sl 5 ((highsOf rs v).map SideD.d))))), (27, vi .i64 ((highsOf rs v).length : Int)), (28, vi .i64 0)] [(0, .row 45 4 (z_.map RelD.d)), (5, .box [.d (.sl 5 ((lowsOf rs v).map SideD.d)), .d (.sl 5 ((highsOf rs v).map SideD.d)), .any]), (6, .box (zi x2.times ++ [.d (.sl 3 (x2.rest.parts.map Part.d))] ++ zi x2.rest.k))]) (show (((othersOf rs v) ++ ((lowsOf rs v).take j).flatMap (fun l => (highsOf rs v).map fun h => lstR (brightT l h))) : List RelD) = (((othersOf rs v) ++ ((lowsOf rs v).take j).flatMap (fun l => (highsOf rs v).map fun h => lstR (brightT l h))) ++ ((highsOf rs v).take 0).map (fun h => lstR (brightT x2 h))) from (by simp)))
   refine loopS (ι := (Nat)) (fun (z_ : (Nat)) => match z_ with | i => i ≤ (highsOf rs v).length)
     (fun (z_ : (Nat)) => match z_ with | i => [(2, .t (.c (.fn (.func 52) [] []))), (6, .t (.c (.d (.raw nilV)))), (7, vp 5 0), (8, .t (.c (.own 0 (((othersOf rs v) ++ ((lowsOf rs v).take j).flatMap (fun l => (highsOf rs v).map fun h => lstR (brightT l h))) ++ ((highsOf rs v).take i).map (fun h => lstR (brightT x2 h))).length))), (10, vp 6 0), (19, .t (.c (.d (.sl 5 ((lowsOf rs v).map SideD.d))))), (20, vi .i64 ((lowsOf rs v).length : Int)), (21, vi .i64 (j : Int)), (26, .t (.c (.d (.sl 5 ((highsOf rs v).map SideD.d))))), (27, vi .i64 ((highsOf rs v).length : Int)), (28, vi .i64 (i : Int))])
     (fun (z_ : (Nat)) => match z_ with | i => [(0, .row 45 4 ((((othersOf rs v) ++ ((lowsOf rs v).take j).flatMap (fun l => (highsOf rs v).map fun h => lstR (brightT l h))) ++ ((highsOf rs v).take i).map (fun h => lstR (brightT x2 h))).map RelD.d)), (5, .box [.d (.sl 5 ((lowsOf rs v).map SideD.d)), .d (.sl 5 ((highsOf rs v).map SideD.d)), .any]), (6, .box (zi x2.times ++ [.d (.sl 3 (x2.rest.parts.map Part.d))] ++ zi x2.rest.k))])
     (fun (z_ : (Nat)) => match z_ with | i => (highsOf rs v).length - i) 0 ?_ h (by kernel_rfl) (by kernel_rfl) ?_
   ·exact Nat.zero_le _
   ·clear h; rintro i a w hI h
    change St _ (F.of [(2, .t (.c (.fn (.func 52) [] []))), (6, .t (.c (.d (.raw nilV)))), (7, vp 5 0), (8, .t (.c (.own 0 (((othersOf rs v) ++ ((lowsOf rs v).take j).flatMap (fun l => (highsOf rs v).map fun h => lstR (brightT l h))) ++ ((highsOf rs v).take i).map (fun h => lstR (brightT x2 h))).length))), (10, vp 6 0), (19, .t (.c (.d (.sl 5 ((lowsOf rs v).map SideD.d))))), (20, vi .i64 ((lowsOf rs v).length : Int)), (21, vi .i64 (j : Int)), (26, .t (.c (.d (.sl 5 ((highsOf rs v).map SideD.d))))), (27, vi .i64 ((highsOf rs v).length : Int)), (28, vi .i64 (i : Int))] [(0, .row 45 4 ((((othersOf rs v) ++ ((lowsOf rs v).take j).flatMap (fun l => (highsOf rs v).map fun h => lstR (brightT l h))) ++ ((highsOf rs v).take i).map (fun h => lstR (brightT x2 h))).map RelD.d)), (5, .box [.d (.sl 5 ((lowsOf rs v).map SideD.d)), .d (.sl 5 ((highsOf rs v).map SideD.d)), .any]), (6, .box (zi x2.times ++ [.d (.sl 3 (x2.rest.parts.map Part.d))] ++ zi x2.rest.k))]) a w at h
    have ij : (((othersOf rs v) ++ ((lowsOf rs v).take j).flatMap (fun l => (highsOf rs v).map fun h => lstR (brightT l h))) ++ ((highsOf rs v).take i).map (fun h => lstR (brightT x2 h))).length ≤ 500 := by rw [List.length_append, List.length_map, List.length_take]; omega
    refine rSeq fam0ok 7 [] [(2, .t (.c (.fn (.func 52) [] []))), (6, .t (.c (.d (.raw nilV)))), (7, vp 5 0), (8, .t (.c (.own 0 (((othersOf rs v) ++ ((lowsOf rs v).take j).flatMap (fun l => (highsOf rs v).map fun h => lstR (brightT l h))) ++ ((highsOf rs v).take i).map (fun h => lstR (brightT x2 h))).length))), (10, vp 6 0), (19, .t (.c (.d (.sl 5 ((lowsOf rs v).map SideD.d))))), (20, vi .i64 ((lowsOf rs v).length : Int)), (21, vi .i64 (j : Int)), (26, .t (.c (.d (.sl 5 ((highsOf rs v).map SideD.d))))), (27, vi .i64 ((highsOf rs v).length : Int)), (28, vi .i64 (i : Int)), (29, vb (decide ((i : Int) < ((highsOf rs v).length : Int))))] [(0, .row 45 4 ((((othersOf rs v) ++ ((lowsOf rs v).take j).flatMap (fun l => (highsOf rs v).map fun h => lstR (brightT l h))) ++ ((highsOf rs v).take i).map (fun h => lstR (brightT x2 h))).map RelD.d)), (5, .box [.d (.sl 5 ((lowsOf rs v).map SideD.d)), .d (.sl 5 ((highsOf rs v).map SideD.d)), .any]), (6, .box (zi x2.times ++ [.d (.sl 3 (x2.rest.parts.map Part.d))] ++ zi x2.rest.k))] (by kernel_rfl) h ?_; clear h; intro a w h
    refine wp_seq ?_
    refine condS (decide ((i : Int) < ((highsOf rs v).length : Int))) h rfl (fun hc => ?_) (fun hc => ?_)
    ·have hc2 := hc; clear hc
     have hc2' := of_decide_eq_true hc2
     refine wp_skip ?_
     refine then_n ?_
     refine wp_seq ?_
     refine wp_block ?_
     obtain ⟨x3, hx3⟩ : ∃ z_ : SideD, (highsOf rs v)[i]? = some z_ := ⟨_, List.getElem?_eq_getElem (by first | omega | (simp at *; omega))⟩
     have hx3_ := highs_ok hrs v x3 (List.mem_of_getElem? hx3)
     refine rSeq fam0ok 7 [(0, .gen _ _ _ fun _ _ _ _ => Op.idxD (d := 30) (t := 26) (k := .i64) hb_1 (map_at hx3 (f := SideD.d)) (OV.tmp 28 _))] [(2, .t (.c (.fn (.func 52) [] []))), (6, .t (.c (.d (.raw nilV)))), (7, vp 5 0), (8, .t (.c (.own 0 (((othersOf rs v) ++ ((lowsOf rs v).take j).flatMap (fun l => (highsOf rs v).map fun h => lstR (brightT l h))) ++ ((highsOf rs v).take i).map (fun h => lstR (brightT x2 h))).length))), (10, vp 6 0), (12, vp 7 0), (19, .t (.c (.d (.sl 5 ((lowsOf rs v).map SideD.d))))), (20, vi .i64 ((lowsOf rs v).length : Int)), (21, vi .i64 (j : Int)), (26, .t (.c (.d (.sl 5 ((highsOf rs v).map SideD.d))))), (27, vi .i64 ((highsOf rs v).length : Int)), (28, vi .i64 (i : Int))] [(0, .row 45 4 ((((othersOf rs v) ++ ((lowsOf rs v).take j).flatMap (fun l => (highsOf rs v).map fun h => lstR (brightT l h))) ++ ((highsOf rs v).take i).map (fun h => lstR (brightT x2 h))).map RelD.d)), (5, .box [.d (.sl 5 ((lowsOf rs v).map SideD.d)), .d (.sl 5 ((highsOf rs v).map SideD.d)), .any]), (6, .box (zi x2.times ++ [.d (.sl 3 (x2.rest.parts.map Part.d))] ++ zi x2.rest.k)), (7, .box (zi x3.times ++ [.d (.sl 3 (x3.rest.parts.map Part.d))] ++ zi x3.rest.k))] (by kernel_rfl) h ?_; clear h; intro a w h
     refine rS fam0ok 8 [(4, .gen _ _ _ fun _ _ _ _ => Op.callV (d := 36) (t := 33) (cap := []) (args := [.t (.agg (zi x2.times ++ [.d (.sl 3 (x2.rest.parts.map Part.d))] ++ zi x2.rest.k)), .t (.agg (zi x3.times ++ [.d (.sl 3 (x3.rest.parts.map Part.d))] ++ zi x3.rest.k))]) (rs := [(34, .t (.agg (zi x2.times ++ [.d (.sl 3 (x2.rest.parts.map Part.d))] ++ zi x2.rest.k))), (35, .t (.agg (zi x3.times ++ [.d (.sl 3 (x3.rest.parts.map Part.d))] ++ zi x3.rest.k)))]) (tys := #[63, 63]) (SBright x2 x3 hx2_ hx3_) hb_12 (OVs.cons (OV.tmp 34 _) (OVs.cons (OV.tmp 35 _) (OVs.nil)))), (5, .call (SLeast (brightT x2 x3) ((bright_ok hx2_ hx3_).mono (by decide) (by decide))) ha_9), (6, .gen _ _ _ fun _ _ _ _ => Op.buildD (d := 38) (len := 1) (rows := [(lstR (brightT x2 x3))].map RelD.d) (rs := [(37, .t (.agg ([.d (.sl 3 ((lstR (brightT x2 x3)).t.parts.map Part.d))] ++ zi (lstR (brightT x2 x3)).t.k ++ [.d (.raw (.bool (lstR (brightT x2 x3)).eq))])))]) kc_5 (.cons (i := 0) (OV.tmp 37 _) (.nil)) (by kernel_rfl) rfl (by simp [RelD.d]) (by decide) (by decide)), (7, .gen _ _ _ fun _ _ _ _ => Op.appOD (d := 39) (t := 32) (u := 38) (n := 0) (n' := 8) (len := (((othersOf rs v) ++ ((lowsOf rs v).take j).flatMap (fun l => (highsOf rs v).map fun h => lstR (brightT l h))) ++ ((highsOf rs v).take i).map (fun h => lstR (brightT x2 h))).length) (len' := ((((othersOf rs v) ++ ((lowsOf rs v).take j).flatMap (fun l => (highsOf rs v).map fun h => lstR (brightT l h))) ++ ((highsOf rs v).take i).map (fun h => lstR (brightT x2 h))) ++ [(lstR (brightT x2 x3))]).length) (rows := (((othersOf rs v) ++ ((lowsOf rs v).take j).flatMap (fun l => (highsOf rs v).map fun h => lstR (brightT l h))) ++ ((highsOf rs v).take i).map (fun h => lstR (brightT x2 h))).map RelD.d) (rows2 := [(lstR (brightT x2 x3))].map RelD.d) (rows' := ((((othersOf rs v) ++ ((lowsOf rs v).take j).flatMap (fun l => (highsOf rs v).map fun h => lstR (brightT l h))) ++ ((highsOf rs v).take i).map (fun h => lstR (brightT x2 h))) ++ [(lstR (brightT x2 x3))]).map RelD.d) ha_11 (by first | exact (List.length_map _).symm | simp) (by first | (rw [List.length_append, List.length_map]; done) | simp) (by simp) (by simp [RelD.d]) (by first | omega | (simp at *; done) | (simp at *; omega)))] [(2, .t (.c (.fn (.func 52) [] []))), (6, .t (.c (.d (.raw nilV)))), (7, vp 5 0), (8, .t (.c (.own 8 ((((othersOf rs v) ++ ((lowsOf rs v).take j).flatMap (fun l => (highsOf rs v).map fun h => lstR (brightT l h))) ++ ((highsOf rs v).take i).map (fun h => lstR (brightT x2 h))) ++ [(lstR (brightT x2 x3))]).length))), (10, vp 6 0), (19, .t (.c (.d (.sl 5 ((lowsOf rs v).map SideD.d))))), (20, vi .i64 ((lowsOf rs v).length : Int)), (21, vi .i64 (j : Int)), (26, .t (.c (.d (.sl 5 ((highsOf rs v).map SideD.d))))), (27, vi .i64 ((highsOf rs v).length : Int)), (28, vi .i64 (i : Int))] [(5, .box [.d (.sl 5 ((lowsOf rs v).map SideD.d)), .d (.sl 5 ((highsOf rs v).map SideD.d)), .any]), (6, .box (zi x2.times ++ [.d (.sl 3 (x2.rest.parts.map Part.d))] ++ zi x2.rest.k)), (8, .row 45 4 (((((othersOf rs v) ++ ((lowsOf rs v).take j).flatMap (fun l => (highsOf rs v).map fun h => lstR (brightT l h))) ++ ((highsOf rs v).take i).map (fun h => lstR (brightT x2 h))) ++ [(lstR (brightT x2 x3))]).map RelD.d))] (by kernel_rfl) h ?_; clear h; intro a w h
     refine block_n ?_
     refine then_n ?_
     refine rS fam0ok 9 [(0, .add .i64 (m := (i : Int)) (n := 1) (i64_id (by omega) (by omega)))] [(2, .t (.c (.fn (.func 52) [] []))), (6, .t (.c (.d (.raw nilV)))), (7, vp 5 0), (8, .t (.c (.own 8 ((((othersOf rs v) ++ ((lowsOf rs v).take j).flatMap (fun l => (highsOf rs v).map fun h => lstR (brightT l h))) ++ ((highsOf rs v).take i).map (fun h => lstR (brightT x2 h))) ++ [(lstR (brightT x2 x3))]).length))), (10, vp 6 0), (19, .t (.c (.d (.sl 5 ((lowsOf rs v).map SideD.d))))), (20, vi .i64 ((lowsOf rs v).length : Int)), (21, vi .i64 (j : Int)), (26, .t (.c (.d (.sl 5 ((highsOf rs v).map SideD.d))))), (27, vi .i64 ((highsOf rs v).length : Int)), (28, vi .i64 ((i : Int) + 1))] [(5, .box [.d (.sl 5 ((lowsOf rs v).map SideD.d)), .d (.sl 5 ((highsOf rs v).map SideD.d)), .any]), (6, .box (zi x2.times ++ [.d (.sl 3 (x2.rest.parts.map Part.d))] ++ zi x2.rest.k)), (8, .row 45 4 (((((othersOf rs v) ++ ((lowsOf rs v).take j).flatMap (fun l => (highsOf rs v).map fun h => lstR (brightT l h))) ++ ((highsOf rs v).take i).map (fun h => lstR (brightT x2 h))) ++ [(lstR (brightT x2 x3))]).map RelD.d))] (by kernel_rfl) h ?_; clear h; intro a w h
     refine then_n ?_
     replace h := h.conv (f' := F.of [(2, .t (.c (.fn (.func 52) [] []))), (6, .t (.c (.d (.raw nilV)))), (7, vp 5 0), (8, .t (.c (.own 8 (((othersOf rs v) ++ ((lowsOf rs v).take j).flatMap (fun l => (highsOf rs v).map fun h => lstR (brightT l h))) ++ ((highsOf rs v).take (i + 1)).map (fun h => lstR (brightT x2 h))).length))), (10, vp 6 0), (19, .t (.c (.d (.sl 5 ((lowsOf rs v).map SideD.d))))), (20, vi .i64 ((lowsOf rs v).length : Int)), (21, vi .i64 (j : Int)), (26, .t (.c (.d (.sl 5 ((highsOf rs v).map SideD.d))))), (27, vi .i64 ((highsOf rs v).length : Int)), (28, vi .i64 ((i : Int) + 1))] [(5, .box [.d (.sl 5 ((lowsOf rs v).map SideD.d)), .d (.sl 5 ((highsOf rs v).map SideD.d)), .any]), (6, .box (zi x2.times ++ [.d (.sl 3 (x2.rest.parts.map Part.d))] ++ zi x2.rest.k)), (8, .row 45 4 ((((othersOf rs v) ++ ((lowsOf rs v).take j).flatMap (fun l => (highsOf rs v).map fun h => lstR (brightT l h))) ++ ((highsOf rs v).take (i + 1)).map (fun h => lstR (brightT x2 h))).map RelD.d))]) (congrArg (fun (z_ : List RelD) => F.of [(2, .t (.c (.fn (.func 52) [] []))), (6, .t (.c (.d (.raw nilV)))), (7, vp 5 0), (8, .t (.c (.own 8 z_.length))), (10, vp 6 0), (19, .t (.c (.d (.sl 5 ((lowsOf rs v).map SideD.d))))), (20, vi .i64 ((lowsOf rs v).length : Int)), (21, vi .i64 (j : Int)), (26, .t (.c (.d (.sl 5 ((highsOf rs v).map SideD.d))))), (27, vi .i64 ((highsOf rs v).length : Int)), (28, vi .i64 ((i : Int) + 1))] [(5, .box [.d (.sl 5 ((lowsOf rs v).map SideD.d)), .d (.sl 5 ((highsOf rs v).map SideD.d)), .any]), (6, .box (zi x2.times ++ [.d (.sl 3 (x2.rest.parts.map Part.d))] ++ zi x2.rest.k)), (8, .row 45 4 (z_.map RelD.d))]) (show (((((othersOf rs v) ++ ((lowsOf rs v).take j).flatMap (fun l => (highsOf rs v).map fun h => lstR (brightT l h))) ++ ((highsOf rs v).take i).map (fun h => lstR (brightT x2 h))) ++ [(lstR (brightT x2 x3))]) : List RelD) = (((othersOf rs v) ++ ((lowsOf rs v).take j).flatMap (fun l => (highsOf rs v).map fun h => lstR (brightT l h))) ++ ((highsOf rs v).take (i + 1)).map (fun h => lstR (brightT x2 h))) from (by rw [List.append_assoc]; congr 1; exact mapSnoc (f := fun h => lstR (brightT x2 h)) hx3)))
     replace h := renS 8 0 [(2, .t (.c (.fn (.func 52) [] []))), (6, .t (.c (.d (.raw nilV)))), (7, vp 5 0), (8, .t (.c (.own 0 (((othersOf rs v) ++ ((lowsOf rs v).take j).flatMap (fun l => (highsOf rs v).map fun h => lstR (brightT l h))) ++ ((highsOf rs v).take (i + 1)).map (fun h => lstR (brightT x2 h))).length))), (10, vp 6 0), (19, .t (.c (.d (.sl 5 ((lowsOf rs v).map SideD.d))))), (20, vi .i64 ((lowsOf rs v).length : Int)), (21, vi .i64 (j : Int)), (26, .t (.c (.d (.sl 5 ((highsOf rs v).map SideD.d))))), (27, vi .i64 ((highsOf rs v).length : Int)), (28, vi .i64 ((i : Int) + 1))] [(5, .box [.d (.sl 5 ((lowsOf rs v).map SideD.d)), .d (.sl 5 ((highsOf rs v).map SideD.d)), .any]), (6, .box (zi x2.times ++ [.d (.sl 3 (x2.rest.parts.map Part.d))] ++ zi x2.rest.k)), (0, .row 45 4 ((((othersOf rs v) ++ ((lowsOf rs v).take j).flatMap (fun l => (highsOf rs v).map fun h => lstR (brightT l h))) ++ ((highsOf rs v).take (i + 1)).map (fun h => lstR (brightT x2 h))).map RelD.d))] h (by kernel_rfl) (by kernel_rfl) (by kernel_rfl)
     refine roundS (x := i) (y := i + 1) h ?_ ?_ (by kernel_rfl) (by kernel_rfl)
     ·have := at_lt hx3
      show i + 1 ≤ (highsOf rs v).length
      omega
     ·show (highsOf rs v).length - (i + 1) < (highsOf rs v).length - i
      have := at_lt hx3; omega
    ·have hc3 := hc; clear hc
     have hc3' := of_decide_eq_false hc3
     refine wp_exit ?_
     refine then_x ?_
     refine then_x ?_
     refine inBlock_exit ?_
     refine block_n ?_
     refine then_n ?_
     refine rS fam0ok 9 [(0, .add .i64 (m := (j : Int)) (n := 1) (i64_id (by omega) (by omega)))] [(2, .t (.c (.fn (.func 52) [] []))), (6, .t (.c (.d (.raw nilV)))), (7, vp 5 0), (8, .t (.c (.own 0 (((othersOf rs v) ++ ((lowsOf rs v).take j).flatMap (fun l => (highsOf rs v).map fun h => lstR (brightT l h))) ++ ((highsOf rs v).take i).map (fun h => lstR (brightT x2 h))).length))), (19, .t (.c (.d (.sl 5 ((lowsOf rs v).map SideD.d))))), (20, vi .i64 ((lowsOf rs v).length : Int)), (21, vi .i64 ((j : Int) + 1))] [(0, .row 45 4 ((((othersOf rs v) ++ ((lowsOf rs v).take j).flatMap (fun l => (highsOf rs v).map fun h => lstR (brightT l h))) ++ ((highsOf rs v).take i).map (fun h => lstR (brightT x2 h))).map RelD.d)), (5, .box [.d (.sl 5 ((lowsOf rs v).map SideD.d)), .d (.sl 5 ((highsOf rs v).map SideD.d)), .any])] (by kernel_rfl) h ?_; clear h; intro a w h
     refine then_n ?_
     replace h := h.conv (f' := F.of [(2, .t (.c (.fn (.func 52) [] []))), (6, .t (.c (.d (.raw nilV)))), (7, vp 5 0), (8, .t (.c (.own 0 ((othersOf rs v) ++ ((lowsOf rs v).take (j + 1)).flatMap (fun l => (highsOf rs v).map fun h => lstR (brightT l h))).length))), (19, .t (.c (.d (.sl 5 ((lowsOf rs v).map SideD.d))))), (20, vi .i64 ((lowsOf rs v).length : Int)), (21, vi .i64 ((j : Int) + 1))] [(0, .row 45 4 (((othersOf rs v) ++ ((lowsOf rs v).take (j + 1)).flatMap (fun l => (highsOf rs v).map fun h => lstR (brightT l h))).map RelD.d)), (5, .box [.d (.sl 5 ((lowsOf rs v).map SideD.d)), .d (.sl 5 ((highsOf rs v).map SideD.d)), .any])]) (congrArg (fun (z_ : List RelD) => F.of [(2, .t (.c (.fn (.func 52) [] []))), (6, .t (.c (.d (.raw nilV)))), (7, vp 5 0), (8, .t (.c (.own 0 z_.length))), (19, .t (.c (.d (.sl 5 ((lowsOf rs v).map SideD.d))))), (20, vi .i64 ((lowsOf rs v).length : Int)), (21, vi .i64 ((j : Int) + 1))] [(0, .row 45 4 (z_.map RelD.d)), (5, .box [.d (.sl 5 ((lowsOf rs v).map SideD.d)), .d (.sl 5 ((highsOf rs v).map SideD.d)), .any])]) (show ((((othersOf rs v) ++ ((lowsOf rs v).take j).flatMap (fun l => (highsOf rs v).map fun h => lstR (brightT l h))) ++ ((highsOf rs v).take i).map (fun h => lstR (brightT x2 h))) : List RelD) = ((othersOf rs v) ++ ((lowsOf rs v).take (j + 1)).flatMap (fun l => (highsOf rs v).map fun h => lstR (brightT l h))) from (by rw [show (highsOf rs v).take i = (highsOf rs v) from List.take_of_length_le (by omega), List.append_assoc]; congr 1; exact flat_snoc (g := (fun l => (highsOf rs v).map fun h => lstR (brightT l h))) hx2 rfl)))
     refine roundS (x := j) (y := j + 1) h ?_ ?_ (by kernel_rfl) (by kernel_rfl)
     ·have := at_lt hx2
      show j + 1 ≤ (lowsOf rs v).length
      omega
     ·show (lowsOf rs v).length - (j + 1) < (lowsOf rs v).length - j
      have := at_lt hx2; omega
  ·have hc4 := hc; clear hc
   have hc4' := of_decide_eq_false hc4
   refine wp_exit ?_
   refine then_x ?_
   refine then_x ?_
   refine inBlock_exit ?_
   refine then_n ?_
   refine rSeq fam0ok 9 [] [(6, .t (.c (.own 0 ((othersOf rs v) ++ ((lowsOf rs v).take j).flatMap (fun l => (highsOf rs v).map fun h => lstR (brightT l h))).length)))] [(0, .row 45 4 (((othersOf rs v) ++ ((lowsOf rs v).take j).flatMap (fun l => (highsOf rs v).map fun h => lstR (brightT l h))).map RelD.d))] (by kernel_rfl) h ?_; clear h; intro a w h
   refine wp_ret ?_
   replace h := h.conv (f' := F.of [(6, .t (.c (.own 0 (eachS brightT rs v).length)))] [(0, .row 45 4 ((eachS brightT rs v).map RelD.d))]) (congrArg (fun (z_ : List RelD) => F.of [(6, .t (.c (.own 0 z_.length)))] [(0, .row 45 4 (z_.map RelD.d))]) (show (((othersOf rs v) ++ ((lowsOf rs v).take j).flatMap (fun l => (highsOf rs v).map fun h => lstR (brightT l h))) : List RelD) = (eachS brightT rs v) from (by unfold eachS; rw [List.take_of_length_le (by omega)])))
   replace h := pubS 0 4 45 ((eachS brightT rs v).map RelD.d) [(6, .t (.c (.d (.sl 4 ((eachS brightT rs v).map RelD.d)))))] [] h rfl (show AllEq _ [(eachS brightT rs v).length] from ⟨by first | exact (List.length_map _).symm | (simp; done) | (simp; omega), trivial⟩) trivial (by kernel_rfl) (by kernel_rfl)
   refine retS [.c (.d (.sl 4 ((eachS brightT rs v).map RelD.d)))] h Exit.ret (.inl rfl)  rfl ⟨RV.tmp _ _ rfl, trivial⟩ ?_ (by kernel_rfl) (by kernel_rfl)
   rfl
set_option maxHeartbeats 4000000 in
theorem SEachDark (rs : List RelD) (v : Int) (hrs : RsOk rs) : Fn Tryz.prog 51 [] [.t (.c (.d (.sl 4 (rs.map RelD.d)))), vi .i64 v, .t (.c (.fn (.func 60) [] []))] (.t (.c (.d (.sl 4 ((eachS darkT rs v).map RelD.d))))) [] := by
 have lrs := hrs.1
 have nl := lows_len hrs v
 have nh := highs_len hrs v
 have no := others_len hrs v
 refine Fn.body Tryz.func51 rfl 43 rfl fun w H B a h => ?_
 refine rSeq fam0ok 5 [] [(0, .t (.c (.d (.sl 4 (rs.map RelD.d))))), (1, vi .i64 v), (2, .t (.c (.fn (.func 60) [] []))), (6, .t (.c (.d (.raw nilV))))] [] (by kernel_rfl) h ?_; clear h; intro a w h
 refine rSeq fam0ok 5 [(2, .call (SsplitO rs v hrs) hb_15)] [(2, .t (.c (.fn (.func 60) [] []))), (6, .t (.c (.d (.raw nilV)))), (7, vp 5 0)] [(0, .row 45 4 ((othersOf rs v).map RelD.d)), (5, .box [.d (.sl 5 ((lowsOf rs v).map SideD.d)), .d (.sl 5 ((highsOf rs v).map SideD.d)), .own 0 (othersOf rs v).length])] (by kernel_rfl) h ?_; clear h; intro a w h
 refine rSeq fam0ok 6 [] [(2, .t (.c (.fn (.func 60) [] []))), (6, .t (.c (.d (.raw nilV)))), (7, vp 5 0), (8, .t (.c (.own 0 (othersOf rs v).length)))] [(0, .row 45 4 ((othersOf rs v).map RelD.d)), (5, .box [.d (.sl 5 ((lowsOf rs v).map SideD.d)), .d (.sl 5 ((highsOf rs v).map SideD.d)), .own 0 (othersOf rs v).length])] (by kernel_rfl) h ?_; clear h; intro a w h
 refine wp_seq ?_
 replace h := anyLs 5 2 [.d (.sl 5 ((lowsOf rs v).map SideD.d)), .d (.sl 5 ((highsOf rs v).map SideD.d)), .own 0 (othersOf rs v).length] (.own 0 (othersOf rs v).length) [(2, .t (.c (.fn (.func 60) [] []))), (6, .t (.c (.d (.raw nilV)))), (7, vp 5 0), (8, .t (.c (.own 0 (othersOf rs v).length)))] [(0, .row 45 4 ((othersOf rs v).map RelD.d)), (5, .box [.d (.sl 5 ((lowsOf rs v).map SideD.d)), .d (.sl 5 ((highsOf rs v).map SideD.d)), .any])] h rfl rfl (by kernel_rfl) (by kernel_rfl)
 refine rSeq fam0ok 6 [(2, .len (c := (.d (.sl 5 ((lowsOf rs v).map SideD.d)))) (n := (lowsOf rs v).length) (lenC_map _ _ _))] [(2, .t (.c (.fn (.func 60) [] []))), (6, .t (.c (.d (.raw nilV)))), (7, vp 5 0), (8, .t (.c (.own 0 (othersOf rs v).length))), (19, .t (.c (.d (.sl 5 ((lowsOf rs v).map SideD.d))))), (20, vi .i64 ((lowsOf rs v).length : Int)), (21, vi .i64 0)] [(0, .row 45 4 ((othersOf rs v).map RelD.d)), (5, .box [.d (.sl 5 ((lowsOf rs v).map SideD.d)), .d (.sl 5 ((highsOf rs v).map SideD.d)), .any])] (by kernel_rfl) h ?_; clear h; intro a w h
 refine wp_block ?_
 replace h := h.conv (f' := F.of [(2, .t (.c (.fn (.func 60) [] []))), (6, .t (.c (.d (.raw nilV)))), (7, vp 5 0), (8, .t (.c (.own 0 ((othersOf rs v) ++ ((lowsOf rs v).take 0).flatMap (fun l => (highsOf rs v).map fun h => lstR (darkT l h))).length))), (19, .t (.c (.d (.sl 5 ((lowsOf rs v).map SideD.d))))), (20, vi .i64 ((lowsOf rs v).length : Int)), (21, vi .i64 0)] [(0, .row 45 4 (((othersOf rs v) ++ ((lowsOf rs v).take 0).flatMap (fun l => (highsOf rs v).map fun h => lstR (darkT l h))).map RelD.d)), (5, .box [.d (.sl 5 ((lowsOf rs v).map SideD.d)), .d (.sl 5 ((highsOf rs v).map SideD.d)), .any])]) (congrArg (fun (z_ : List RelD) => F.of [(2, .t (.c (.fn (.func 60) [] []))), (6, .t (.c (.d (.raw nilV)))), (7, vp 5 0), (8, .t (.c (.own 0 z_.length))), (19, .t (.c (.d (.sl 5 ((lowsOf rs v).map SideD.d))))), (20, vi .i64 ((lowsOf rs v).length : Int)), (21, vi .i64 0)] [(0, .row 45 4 (z_.map RelD.d)), (5, .box [.d (.sl 5 ((lowsOf rs v).map SideD.d)), .d (.sl 5 ((highsOf rs v).map SideD.d)), .any])]) (show ((othersOf rs v) : List RelD) = ((othersOf rs v) ++ ((lowsOf rs v).take 0).flatMap (fun l => (highsOf rs v).map fun h => lstR (darkT l h))) from (by simp)))
 refine loopS (ι := (Nat)) (fun (z_ : (Nat)) => match z_ with | j => j ≤ (lowsOf rs v).length)
   (fun (z_ : (Nat)) => match z_ with | j => [(2, .t (.c (.fn (.func 60) [] []))), (6, .t (.c (.d (.raw nilV)))), (7, vp 5 0), (8, .t (.c (.own 0 ((othersOf rs v) ++ ((lowsOf rs v).take j).flatMap (fun l => (highsOf rs v).map fun h => lstR (darkT l h))).length))), (19, .t (.c (.d (.sl 5 ((lowsOf rs v).map SideD.d))))), (20, vi .i64 ((lowsOf rs v).length : Int)), (21, vi .i64 (j : Int))])
   (fun (z_ : (Nat)) => match z_ with | j => [(0, .row 45 4 (((othersOf rs v) ++ ((lowsOf rs v).take j).flatMap (fun l => (highsOf rs v).map fun h => lstR (darkT l h))).map RelD.d)), (5, .box [.d (.sl 5 ((lowsOf rs v).map SideD.d)), .d (.sl 5 ((highsOf rs v).map SideD.d)), .any])])
   (fun (z_ : (Nat)) => match z_ with | j => (lowsOf rs v).length - j) 0 ?_ h (by kernel_rfl) (by kernel_rfl) ?_
 ·exact Nat.zero_le _
 ·clear h; rintro j a w hI h
  change St _ (F.of [(2, .t (.c (.fn (.func 60) [] []))), (6, .t (.c (.d (.raw nilV)))), (7, vp 5 0), (8, .t (.c (.own 0 ((othersOf rs v) ++ ((lowsOf rs v).take j).flatMap (fun l => (highsOf rs v).map fun h => lstR (darkT l h))).length))), (19, .t (.c (.d (.sl 5 ((lowsOf rs v).map SideD.d))))), (20, vi .i64 ((lowsOf rs v).length : Int)), (21, vi .i64 (j : Int))] [(0, .row 45 4 (((othersOf rs v) ++ ((lowsOf rs v).take j).flatMap (fun l => (highsOf rs v).map fun h => lstR (darkT l h))).map RelD.d)), (5, .box [.d (.sl 5 ((lowsOf rs v).map SideD.d)), .d (.sl 5 ((highsOf rs v).map SideD.d)), .any])]) a w at h
  have oj := each_len (sh := darkT) hrs v j
  refine rSeq fam0ok 6 [] [(2, .t (.c (.fn (.func 60) [] []))), (6, .t (.c (.d (.raw nilV)))), (7, vp 5 0), (8, .t (.c (.own 0 ((othersOf rs v) ++ ((lowsOf rs v).take j).flatMap (fun l => (highsOf rs v).map fun h => lstR (darkT l h))).length))), (19, .t (.c (.d (.sl 5 ((lowsOf rs v).map SideD.d))))), (20, vi .i64 ((lowsOf rs v).length : Int)), (21, vi .i64 (j : Int)), (22, vb (decide ((j : Int) < ((lowsOf rs v).length : Int))))] [(0, .row 45 4 (((othersOf rs v) ++ ((lowsOf rs v).take j).flatMap (fun l => (highsOf rs v).map fun h => lstR (darkT l h))).map RelD.d)), (5, .box [.d (.sl 5 ((lowsOf rs v).map SideD.d)), .d (.sl 5 ((highsOf rs v).map SideD.d)), .any])] (by kernel_rfl) h ?_; clear h; intro a w h
  refine wp_seq ?_
  refine condS (decide ((j : Int) < ((lowsOf rs v).length : Int))) h rfl (fun hc => ?_) (fun hc => ?_)
  ·have hc1 := hc; clear hc
   have hc1' := of_decide_eq_true hc1
   refine wp_skip ?_
   refine then_n ?_
   refine wp_seq ?_
   refine wp_block ?_
   obtain ⟨x2, hx2⟩ : ∃ z_ : SideD, (lowsOf rs v)[j]? = some z_ := ⟨_, List.getElem?_eq_getElem (by first | omega | (simp at *; omega))⟩
   have hx2_ := lows_ok hrs v x2 (List.mem_of_getElem? hx2)
   refine rSeq fam0ok 6 [(0, .gen _ _ _ fun _ _ _ _ => Op.idxD (d := 23) (t := 19) (k := .i64) hb_1 (map_at hx2 (f := SideD.d)) (OV.tmp 21 _))] [(2, .t (.c (.fn (.func 60) [] []))), (6, .t (.c (.d (.raw nilV)))), (7, vp 5 0), (8, .t (.c (.own 0 ((othersOf rs v) ++ ((lowsOf rs v).take j).flatMap (fun l => (highsOf rs v).map fun h => lstR (darkT l h))).length))), (10, vp 6 0), (19, .t (.c (.d (.sl 5 ((lowsOf rs v).map SideD.d))))), (20, vi .i64 ((lowsOf rs v).length : Int)), (21, vi .i64 (j : Int))] [(0, .row 45 4 (((othersOf rs v) ++ ((lowsOf rs v).take j).flatMap (fun l => (highsOf rs v).map fun h => lstR (darkT l h))).map RelD.d)), (5, .box [.d (.sl 5 ((lowsOf rs v).map SideD.d)), .d (.sl 5 ((highsOf rs v).map SideD.d)), .any]), (6, .box (zi x2.times ++ [.d (.sl 3 (x2.rest.parts.map Part.d))] ++ zi x2.rest.k))] (by kernel_rfl) h ?_; clear h; intro a w h
   refine rSeq fam0ok 7 [(2, .len (c := (.d (.sl 5 ((highsOf rs v).map SideD.d)))) (n := (highsOf rs v).length) (lenC_map _ _ _))] [(2, .t (.c (.fn (.func 60) [] []))), (6, .t (.c (.d (.raw nilV)))), (7, vp 5 0), (8, .t (.c (.own 0 ((othersOf rs v) ++ ((lowsOf rs v).take j).flatMap (fun l => (highsOf rs v).map fun h => lstR (darkT l h))).length))), (10, vp 6 0), (19, .t (.c (.d (.sl 5 ((lowsOf rs v).map SideD.d))))), (20, vi .i64 ((lowsOf rs v).length : Int)), (21, vi .i64 (j : Int)), (26, .t (.c (.d (.sl 5 ((highsOf rs v).map SideD.d))))), (27, vi .i64 ((highsOf rs v).length : Int)), (28, vi .i64 0)] [(0, .row 45 4 (((othersOf rs v) ++ ((lowsOf rs v).take j).flatMap (fun l => (highsOf rs v).map fun h => lstR (darkT l h))).map RelD.d)), (5, .box [.d (.sl 5 ((lowsOf rs v).map SideD.d)), .d (.sl 5 ((highsOf rs v).map SideD.d)), .any]), (6, .box (zi x2.times ++ [.d (.sl 3 (x2.rest.parts.map Part.d))] ++ zi x2.rest.k))] (by kernel_rfl) h ?_; clear h; intro a w h
   refine wp_block ?_
   replace h := h.conv (f' := F.of [(2, .t (.c (.fn (.func 60) [] []))), (6, .t (.c (.d (.raw nilV)))), (7, vp 5 0), (8, .t (.c (.own 0 (((othersOf rs v) ++ ((lowsOf rs v).take j).flatMap (fun l => (highsOf rs v).map fun h => lstR (darkT l h))) ++ ((highsOf rs v).take 0).map (fun h => lstR (darkT x2 h))).length))), (10, vp 6 0), (19, .t (.c (.d (.sl 5 ((lowsOf rs v).map SideD.d))))), (20, vi .i64 ((lowsOf rs v).length : Int)), (21, vi .i64 (j : Int)), (26, .t (.c (.d (.sl 5 ((highsOf rs v).map SideD.d))))), (27, vi .i64 ((highsOf rs v).length : Int)), (28, vi .i64 0)] [(0, .row 45 4 ((((othersOf rs v) ++ ((lowsOf rs v).take j).flatMap (fun l => (highsOf rs v).map fun h => lstR (darkT l h))) ++ ((highsOf rs v).take 0).map (fun h => lstR (darkT x2 h))).map RelD.d)), (5, .box [.d (.sl 5 ((lowsOf rs v).map SideD.d)), .d (.sl 5 ((highsOf rs v).map SideD.d)), .any]), (6, .box (zi x2.times ++ [.d (.sl 3 (x2.rest.parts.map Part.d))] ++ zi x2.rest.k))]) (congrArg (fun (z_ : List RelD) => F.of [(2, .t (.c (.fn (.func 60) [] []))), (6, .t (.c (.d (.raw nilV)))), (7, vp 5 0), (8, .t (.c (.own 0 z_.length))), (10, vp 6 0), (19, .t (.c (.d (.sl 5 ((lowsOf rs v).map SideD.d))))), (20, vi .i64 ((lowsOf rs v).length : Int)), (21, vi .i64 (j : Int)), (26, .t (.c (.d (.sl 5 ((highsOf rs v).map SideD.d))))), (27, vi .i64 ((highsOf rs v).length : Int)), (28, vi .i64 0)] [(0, .row 45 4 (z_.map RelD.d)), (5, .box [.d (.sl 5 ((lowsOf rs v).map SideD.d)), .d (.sl 5 ((highsOf rs v).map SideD.d)), .any]), (6, .box (zi x2.times ++ [.d (.sl 3 (x2.rest.parts.map Part.d))] ++ zi x2.rest.k))]) (show (((othersOf rs v) ++ ((lowsOf rs v).take j).flatMap (fun l => (highsOf rs v).map fun h => lstR (darkT l h))) : List RelD) = (((othersOf rs v) ++ ((lowsOf rs v).take j).flatMap (fun l => (highsOf rs v).map fun h => lstR (darkT l h))) ++ ((highsOf rs v).take 0).map (fun h => lstR (darkT x2 h))) from (by simp)))
   refine loopS (ι := (Nat)) (fun (z_ : (Nat)) => match z_ with | i => i ≤ (highsOf rs v).length)
     (fun (z_ : (Nat)) => match z_ with | i => [(2, .t (.c (.fn (.func 60) [] []))), (6, .t (.c (.d (.raw nilV)))), (7, vp 5 0), (8, .t (.c (.own 0 (((othersOf rs v) ++ ((lowsOf rs v).take j).flatMap (fun l => (highsOf rs v).map fun h => lstR (darkT l h))) ++ ((highsOf rs v).take i).map (fun h => lstR (darkT x2 h))).length))), (10, vp 6 0), (19, .t (.c (.d (.sl 5 ((lowsOf rs v).map SideD.d))))), (20, vi .i64 ((lowsOf rs v).length : Int)), (21, vi .i64 (j : Int)), (26, .t (.c (.d (.sl 5 ((highsOf rs v).map SideD.d))))), (27, vi .i64 ((highsOf rs v).length : Int)), (28, vi .i64 (i : Int))])
     (fun (z_ : (Nat)) => match z_ with | i => [(0, .row 45 4 ((((othersOf rs v) ++ ((lowsOf rs v).take j).flatMap (fun l => (highsOf rs v).map fun h => lstR (darkT l h))) ++ ((highsOf rs v).take i).map (fun h => lstR (darkT x2 h))).map RelD.d)), (5, .box [.d (.sl 5 ((lowsOf rs v).map SideD.d)), .d (.sl 5 ((highsOf rs v).map SideD.d)), .any]), (6, .box (zi x2.times ++ [.d (.sl 3 (x2.rest.parts.map Part.d))] ++ zi x2.rest.k))])
     (fun (z_ : (Nat)) => match z_ with | i => (highsOf rs v).length - i) 0 ?_ h (by kernel_rfl) (by kernel_rfl) ?_
   ·exact Nat.zero_le _
   ·clear h; rintro i a w hI h
    change St _ (F.of [(2, .t (.c (.fn (.func 60) [] []))), (6, .t (.c (.d (.raw nilV)))), (7, vp 5 0), (8, .t (.c (.own 0 (((othersOf rs v) ++ ((lowsOf rs v).take j).flatMap (fun l => (highsOf rs v).map fun h => lstR (darkT l h))) ++ ((highsOf rs v).take i).map (fun h => lstR (darkT x2 h))).length))), (10, vp 6 0), (19, .t (.c (.d (.sl 5 ((lowsOf rs v).map SideD.d))))), (20, vi .i64 ((lowsOf rs v).length : Int)), (21, vi .i64 (j : Int)), (26, .t (.c (.d (.sl 5 ((highsOf rs v).map SideD.d))))), (27, vi .i64 ((highsOf rs v).length : Int)), (28, vi .i64 (i : Int))] [(0, .row 45 4 ((((othersOf rs v) ++ ((lowsOf rs v).take j).flatMap (fun l => (highsOf rs v).map fun h => lstR (darkT l h))) ++ ((highsOf rs v).take i).map (fun h => lstR (darkT x2 h))).map RelD.d)), (5, .box [.d (.sl 5 ((lowsOf rs v).map SideD.d)), .d (.sl 5 ((highsOf rs v).map SideD.d)), .any]), (6, .box (zi x2.times ++ [.d (.sl 3 (x2.rest.parts.map Part.d))] ++ zi x2.rest.k))]) a w at h
    have ij : (((othersOf rs v) ++ ((lowsOf rs v).take j).flatMap (fun l => (highsOf rs v).map fun h => lstR (darkT l h))) ++ ((highsOf rs v).take i).map (fun h => lstR (darkT x2 h))).length ≤ 500 := by rw [List.length_append, List.length_map, List.length_take]; omega
    refine rSeq fam0ok 7 [] [(2, .t (.c (.fn (.func 60) [] []))), (6, .t (.c (.d (.raw nilV)))), (7, vp 5 0), (8, .t (.c (.own 0 (((othersOf rs v) ++ ((lowsOf rs v).take j).flatMap (fun l => (highsOf rs v).map fun h => lstR (darkT l h))) ++ ((highsOf rs v).take i).map (fun h => lstR (darkT x2 h))).length))), (10, vp 6 0), (19, .t (.c (.d (.sl 5 ((lowsOf rs v).map SideD.d))))), (20, vi .i64 ((lowsOf rs v).length : Int)), (21, vi .i64 (j : Int)), (26, .t (.c (.d (.sl 5 ((highsOf rs v).map SideD.d))))), (27, vi .i64 ((highsOf rs v).length : Int)), (28, vi .i64 (i : Int)), (29, vb (decide ((i : Int) < ((highsOf rs v).length : Int))))] [(0, .row 45 4 ((((othersOf rs v) ++ ((lowsOf rs v).take j).flatMap (fun l => (highsOf rs v).map fun h => lstR (darkT l h))) ++ ((highsOf rs v).take i).map (fun h => lstR (darkT x2 h))).map RelD.d)), (5, .box [.d (.sl 5 ((lowsOf rs v).map SideD.d)), .d (.sl 5 ((highsOf rs v).map SideD.d)), .any]), (6, .box (zi x2.times ++ [.d (.sl 3 (x2.rest.parts.map Part.d))] ++ zi x2.rest.k))] (by kernel_rfl) h ?_; clear h; intro a w h
    refine wp_seq ?_
    refine condS (decide ((i : Int) < ((highsOf rs v).length : Int))) h rfl (fun hc => ?_) (fun hc => ?_)
    ·have hc2 := hc; clear hc
     have hc2' := of_decide_eq_true hc2
     refine wp_skip ?_
     refine then_n ?_
     refine wp_seq ?_
     refine wp_block ?_
     obtain ⟨x3, hx3⟩ : ∃ z_ : SideD, (highsOf rs v)[i]? = some z_ := ⟨_, List.getElem?_eq_getElem (by first | omega | (simp at *; omega))⟩
     have hx3_ := highs_ok hrs v x3 (List.mem_of_getElem? hx3)
     refine rSeq fam0ok 7 [(0, .gen _ _ _ fun _ _ _ _ => Op.idxD (d := 30) (t := 26) (k := .i64) hb_1 (map_at hx3 (f := SideD.d)) (OV.tmp 28 _))] [(2, .t (.c (.fn (.func 60) [] []))), (6, .t (.c (.d (.raw nilV)))), (7, vp 5 0), (8, .t (.c (.own 0 (((othersOf rs v) ++ ((lowsOf rs v).take j).flatMap (fun l => (highsOf rs v).map fun h => lstR (darkT l h))) ++ ((highsOf rs v).take i).map (fun h => lstR (darkT x2 h))).length))), (10, vp 6 0), (12, vp 7 0), (19, .t (.c (.d (.sl 5 ((lowsOf rs v).map SideD.d))))), (20, vi .i64 ((lowsOf rs v).length : Int)), (21, vi .i64 (j : Int)), (26, .t (.c (.d (.sl 5 ((highsOf rs v).map SideD.d))))), (27, vi .i64 ((highsOf rs v).length : Int)), (28, vi .i64 (i : Int))] [(0, .row 45 4 ((((othersOf rs v) ++ ((lowsOf rs v).take j).flatMap (fun l => (highsOf rs v).map fun h => lstR (darkT l h))) ++ ((highsOf rs v).take i).map (fun h => lstR (darkT x2 h))).map RelD.d)), (5, .box [.d (.sl 5 ((lowsOf rs v).map SideD.d)), .d (.sl 5 ((highsOf rs v).map SideD.d)), .any]), (6, .box (zi x2.times ++ [.d (.sl 3 (x2.rest.parts.map Part.d))] ++ zi x2.rest.k)), (7, .box (zi x3.times ++ [.d (.sl 3 (x3.rest.parts.map Part.d))] ++ zi x3.rest.k))] (by kernel_rfl) h ?_; clear h; intro a w h
     refine rS fam0ok 8 [(4, .gen _ _ _ fun _ _ _ _ => Op.callV (d := 36) (t := 33) (cap := []) (args := [.t (.agg (zi x2.times ++ [.d (.sl 3 (x2.rest.parts.map Part.d))] ++ zi x2.rest.k)), .t (.agg (zi x3.times ++ [.d (.sl 3 (x3.rest.parts.map Part.d))] ++ zi x3.rest.k))]) (rs := [(34, .t (.agg (zi x2.times ++ [.d (.sl 3 (x2.rest.parts.map Part.d))] ++ zi x2.rest.k))), (35, .t (.agg (zi x3.times ++ [.d (.sl 3 (x3.rest.parts.map Part.d))] ++ zi x3.rest.k)))]) (tys := #[63, 63]) (SDark x2 x3 hx2_ hx3_) hb_19 (OVs.cons (OV.tmp 34 _) (OVs.cons (OV.tmp 35 _) (OVs.nil)))), (5, .call (SLeast (darkT x2 x3) ((dark_ok hx2_ hx3_).mono (by decide) (by decide))) ha_9), (6, .gen _ _ _ fun _ _ _ _ => Op.buildD (d := 38) (len := 1) (rows := [(lstR (darkT x2 x3))].map RelD.d) (rs := [(37, .t (.agg ([.d (.sl 3 ((lstR (darkT x2 x3)).t.parts.map Part.d))] ++ zi (lstR (darkT x2 x3)).t.k ++ [.d (.raw (.bool (lstR (darkT x2 x3)).eq))])))]) kc_5 (.cons (i := 0) (OV.tmp 37 _) (.nil)) (by kernel_rfl) rfl (by simp [RelD.d]) (by decide) (by decide)), (7, .gen _ _ _ fun _ _ _ _ => Op.appOD (d := 39) (t := 32) (u := 38) (n := 0) (n' := 8) (len := (((othersOf rs v) ++ ((lowsOf rs v).take j).flatMap (fun l => (highsOf rs v).map fun h => lstR (darkT l h))) ++ ((highsOf rs v).take i).map (fun h => lstR (darkT x2 h))).length) (len' := ((((othersOf rs v) ++ ((lowsOf rs v).take j).flatMap (fun l => (highsOf rs v).map fun h => lstR (darkT l h))) ++ ((highsOf rs v).take i).map (fun h => lstR (darkT x2 h))) ++ [(lstR (darkT x2 x3))]).length) (rows := (((othersOf rs v) ++ ((lowsOf rs v).take j).flatMap (fun l => (highsOf rs v).map fun h => lstR (darkT l h))) ++ ((highsOf rs v).take i).map (fun h => lstR (darkT x2 h))).map RelD.d) (rows2 := [(lstR (darkT x2 x3))].map RelD.d) (rows' := ((((othersOf rs v) ++ ((lowsOf rs v).take j).flatMap (fun l => (highsOf rs v).map fun h => lstR (darkT l h))) ++ ((highsOf rs v).take i).map (fun h => lstR (darkT x2 h))) ++ [(lstR (darkT x2 x3))]).map RelD.d) ha_11 (by first | exact (List.length_map _).symm | simp) (by first | (rw [List.length_append, List.length_map]; done) | simp) (by simp) (by simp [RelD.d]) (by first | omega | (simp at *; done) | (simp at *; omega)))] [(2, .t (.c (.fn (.func 60) [] []))), (6, .t (.c (.d (.raw nilV)))), (7, vp 5 0), (8, .t (.c (.own 8 ((((othersOf rs v) ++ ((lowsOf rs v).take j).flatMap (fun l => (highsOf rs v).map fun h => lstR (darkT l h))) ++ ((highsOf rs v).take i).map (fun h => lstR (darkT x2 h))) ++ [(lstR (darkT x2 x3))]).length))), (10, vp 6 0), (19, .t (.c (.d (.sl 5 ((lowsOf rs v).map SideD.d))))), (20, vi .i64 ((lowsOf rs v).length : Int)), (21, vi .i64 (j : Int)), (26, .t (.c (.d (.sl 5 ((highsOf rs v).map SideD.d))))), (27, vi .i64 ((highsOf rs v).length : Int)), (28, vi .i64 (i : Int))] [(5, .box [.d (.sl 5 ((lowsOf rs v).map SideD.d)), .d (.sl 5 ((highsOf rs v).map SideD.d)), .any]), (6, .box (zi x2.times ++ [.d (.sl 3 (x2.rest.parts.map Part.d))] ++ zi x2.rest.k)), (8, .row 45 4 (((((othersOf rs v) ++ ((lowsOf rs v).take j).flatMap (fun l => (highsOf rs v).map fun h => lstR (darkT l h))) ++ ((highsOf rs v).take i).map (fun h => lstR (darkT x2 h))) ++ [(lstR (darkT x2 x3))]).map RelD.d))] (by kernel_rfl) h ?_; clear h; intro a w h
     refine block_n ?_
     refine then_n ?_
     refine rS fam0ok 9 [(0, .add .i64 (m := (i : Int)) (n := 1) (i64_id (by omega) (by omega)))] [(2, .t (.c (.fn (.func 60) [] []))), (6, .t (.c (.d (.raw nilV)))), (7, vp 5 0), (8, .t (.c (.own 8 ((((othersOf rs v) ++ ((lowsOf rs v).take j).flatMap (fun l => (highsOf rs v).map fun h => lstR (darkT l h))) ++ ((highsOf rs v).take i).map (fun h => lstR (darkT x2 h))) ++ [(lstR (darkT x2 x3))]).length))), (10, vp 6 0), (19, .t (.c (.d (.sl 5 ((lowsOf rs v).map SideD.d))))), (20, vi .i64 ((lowsOf rs v).length : Int)), (21, vi .i64 (j : Int)), (26, .t (.c (.d (.sl 5 ((highsOf rs v).map SideD.d))))), (27, vi .i64 ((highsOf rs v).length : Int)), (28, vi .i64 ((i : Int) + 1))] [(5, .box [.d (.sl 5 ((lowsOf rs v).map SideD.d)), .d (.sl 5 ((highsOf rs v).map SideD.d)), .any]), (6, .box (zi x2.times ++ [.d (.sl 3 (x2.rest.parts.map Part.d))] ++ zi x2.rest.k)), (8, .row 45 4 (((((othersOf rs v) ++ ((lowsOf rs v).take j).flatMap (fun l => (highsOf rs v).map fun h => lstR (darkT l h))) ++ ((highsOf rs v).take i).map (fun h => lstR (darkT x2 h))) ++ [(lstR (darkT x2 x3))]).map RelD.d))] (by kernel_rfl) h ?_; clear h; intro a w h
     refine then_n ?_
     replace h := h.conv (f' := F.of [(2, .t (.c (.fn (.func 60) [] []))), (6, .t (.c (.d (.raw nilV)))), (7, vp 5 0), (8, .t (.c (.own 8 (((othersOf rs v) ++ ((lowsOf rs v).take j).flatMap (fun l => (highsOf rs v).map fun h => lstR (darkT l h))) ++ ((highsOf rs v).take (i + 1)).map (fun h => lstR (darkT x2 h))).length))), (10, vp 6 0), (19, .t (.c (.d (.sl 5 ((lowsOf rs v).map SideD.d))))), (20, vi .i64 ((lowsOf rs v).length : Int)), (21, vi .i64 (j : Int)), (26, .t (.c (.d (.sl 5 ((highsOf rs v).map SideD.d))))), (27, vi .i64 ((highsOf rs v).length : Int)), (28, vi .i64 ((i : Int) + 1))] [(5, .box [.d (.sl 5 ((lowsOf rs v).map SideD.d)), .d (.sl 5 ((highsOf rs v).map SideD.d)), .any]), (6, .box (zi x2.times ++ [.d (.sl 3 (x2.rest.parts.map Part.d))] ++ zi x2.rest.k)), (8, .row 45 4 ((((othersOf rs v) ++ ((lowsOf rs v).take j).flatMap (fun l => (highsOf rs v).map fun h => lstR (darkT l h))) ++ ((highsOf rs v).take (i + 1)).map (fun h => lstR (darkT x2 h))).map RelD.d))]) (congrArg (fun (z_ : List RelD) => F.of [(2, .t (.c (.fn (.func 60) [] []))), (6, .t (.c (.d (.raw nilV)))), (7, vp 5 0), (8, .t (.c (.own 8 z_.length))), (10, vp 6 0), (19, .t (.c (.d (.sl 5 ((lowsOf rs v).map SideD.d))))), (20, vi .i64 ((lowsOf rs v).length : Int)), (21, vi .i64 (j : Int)), (26, .t (.c (.d (.sl 5 ((highsOf rs v).map SideD.d))))), (27, vi .i64 ((highsOf rs v).length : Int)), (28, vi .i64 ((i : Int) + 1))] [(5, .box [.d (.sl 5 ((lowsOf rs v).map SideD.d)), .d (.sl 5 ((highsOf rs v).map SideD.d)), .any]), (6, .box (zi x2.times ++ [.d (.sl 3 (x2.rest.parts.map Part.d))] ++ zi x2.rest.k)), (8, .row 45 4 (z_.map RelD.d))]) (show (((((othersOf rs v) ++ ((lowsOf rs v).take j).flatMap (fun l => (highsOf rs v).map fun h => lstR (darkT l h))) ++ ((highsOf rs v).take i).map (fun h => lstR (darkT x2 h))) ++ [(lstR (darkT x2 x3))]) : List RelD) = (((othersOf rs v) ++ ((lowsOf rs v).take j).flatMap (fun l => (highsOf rs v).map fun h => lstR (darkT l h))) ++ ((highsOf rs v).take (i + 1)).map (fun h => lstR (darkT x2 h))) from (by rw [List.append_assoc]; congr 1; exact mapSnoc (f := fun h => lstR (darkT x2 h)) hx3)))
     replace h := renS 8 0 [(2, .t (.c (.fn (.func 60) [] []))), (6, .t (.c (.d (.raw nilV)))), (7, vp 5 0), (8, .t (.c (.own 0 (((othersOf rs v) ++ ((lowsOf rs v).take j).flatMap (fun l => (highsOf rs v).map fun h => lstR (darkT l h))) ++ ((highsOf rs v).take (i + 1)).map (fun h => lstR (darkT x2 h))).length))), (10, vp 6 0), (19, .t (.c (.d (.sl 5 ((lowsOf rs v).map SideD.d))))), (20, vi .i64 ((lowsOf rs v).length : Int)), (21, vi .i64 (j : Int)), (26, .t (.c (.d (.sl 5 ((highsOf rs v).map SideD.d))))), (27, vi .i64 ((highsOf rs v).length : Int)), (28, vi .i64 ((i : Int) + 1))] [(5, .box [.d (.sl 5 ((lowsOf rs v).map SideD.d)), .d (.sl 5 ((highsOf rs v).map SideD.d)), .any]), (6, .box (zi x2.times ++ [.d (.sl 3 (x2.rest.parts.map Part.d))] ++ zi x2.rest.k)), (0, .row 45 4 ((((othersOf rs v) ++ ((lowsOf rs v).take j).flatMap (fun l => (highsOf rs v).map fun h => lstR (darkT l h))) ++ ((highsOf rs v).take (i + 1)).map (fun h => lstR (darkT x2 h))).map RelD.d))] h (by kernel_rfl) (by kernel_rfl) (by kernel_rfl)
     refine roundS (x := i) (y := i + 1) h ?_ ?_ (by kernel_rfl) (by kernel_rfl)
     ·have := at_lt hx3
      show i + 1 ≤ (highsOf rs v).length
      omega
     ·show (highsOf rs v).length - (i + 1) < (highsOf rs v).length - i
      have := at_lt hx3; omega
    ·have hc3 := hc; clear hc
     have hc3' := of_decide_eq_false hc3
     refine wp_exit ?_
     refine then_x ?_
     refine then_x ?_
     refine inBlock_exit ?_
     refine block_n ?_
     refine then_n ?_
     refine rS fam0ok 9 [(0, .add .i64 (m := (j : Int)) (n := 1) (i64_id (by omega) (by omega)))] [(2, .t (.c (.fn (.func 60) [] []))), (6, .t (.c (.d (.raw nilV)))), (7, vp 5 0), (8, .t (.c (.own 0 (((othersOf rs v) ++ ((lowsOf rs v).take j).flatMap (fun l => (highsOf rs v).map fun h => lstR (darkT l h))) ++ ((highsOf rs v).take i).map (fun h => lstR (darkT x2 h))).length))), (19, .t (.c (.d (.sl 5 ((lowsOf rs v).map SideD.d))))), (20, vi .i64 ((lowsOf rs v).length : Int)), (21, vi .i64 ((j : Int) + 1))] [(0, .row 45 4 ((((othersOf rs v) ++ ((lowsOf rs v).take j).flatMap (fun l => (highsOf rs v).map fun h => lstR (darkT l h))) ++ ((highsOf rs v).take i).map (fun h => lstR (darkT x2 h))).map RelD.d)), (5, .box [.d (.sl 5 ((lowsOf rs v).map SideD.d)), .d (.sl 5 ((highsOf rs v).map SideD.d)), .any])] (by kernel_rfl) h ?_; clear h; intro a w h
     refine then_n ?_
     replace h := h.conv (f' := F.of [(2, .t (.c (.fn (.func 60) [] []))), (6, .t (.c (.d (.raw nilV)))), (7, vp 5 0), (8, .t (.c (.own 0 ((othersOf rs v) ++ ((lowsOf rs v).take (j + 1)).flatMap (fun l => (highsOf rs v).map fun h => lstR (darkT l h))).length))), (19, .t (.c (.d (.sl 5 ((lowsOf rs v).map SideD.d))))), (20, vi .i64 ((lowsOf rs v).length : Int)), (21, vi .i64 ((j : Int) + 1))] [(0, .row 45 4 (((othersOf rs v) ++ ((lowsOf rs v).take (j + 1)).flatMap (fun l => (highsOf rs v).map fun h => lstR (darkT l h))).map RelD.d)), (5, .box [.d (.sl 5 ((lowsOf rs v).map SideD.d)), .d (.sl 5 ((highsOf rs v).map SideD.d)), .any])]) (congrArg (fun (z_ : List RelD) => F.of [(2, .t (.c (.fn (.func 60) [] []))), (6, .t (.c (.d (.raw nilV)))), (7, vp 5 0), (8, .t (.c (.own 0 z_.length))), (19, .t (.c (.d (.sl 5 ((lowsOf rs v).map SideD.d))))), (20, vi .i64 ((lowsOf rs v).length : Int)), (21, vi .i64 ((j : Int) + 1))] [(0, .row 45 4 (z_.map RelD.d)), (5, .box [.d (.sl 5 ((lowsOf rs v).map SideD.d)), .d (.sl 5 ((highsOf rs v).map SideD.d)), .any])]) (show ((((othersOf rs v) ++ ((lowsOf rs v).take j).flatMap (fun l => (highsOf rs v).map fun h => lstR (darkT l h))) ++ ((highsOf rs v).take i).map (fun h => lstR (darkT x2 h))) : List RelD) = ((othersOf rs v) ++ ((lowsOf rs v).take (j + 1)).flatMap (fun l => (highsOf rs v).map fun h => lstR (darkT l h))) from (by rw [show (highsOf rs v).take i = (highsOf rs v) from List.take_of_length_le (by omega), List.append_assoc]; congr 1; exact flat_snoc (g := (fun l => (highsOf rs v).map fun h => lstR (darkT l h))) hx2 rfl)))
     refine roundS (x := j) (y := j + 1) h ?_ ?_ (by kernel_rfl) (by kernel_rfl)
     ·have := at_lt hx2
      show j + 1 ≤ (lowsOf rs v).length
      omega
     ·show (lowsOf rs v).length - (j + 1) < (lowsOf rs v).length - j
      have := at_lt hx2; omega
  ·have hc4 := hc; clear hc
   have hc4' := of_decide_eq_false hc4
   refine wp_exit ?_
   refine then_x ?_
   refine then_x ?_
   refine inBlock_exit ?_
   refine then_n ?_
   refine rSeq fam0ok 9 [] [(6, .t (.c (.own 0 ((othersOf rs v) ++ ((lowsOf rs v).take j).flatMap (fun l => (highsOf rs v).map fun h => lstR (darkT l h))).length)))] [(0, .row 45 4 (((othersOf rs v) ++ ((lowsOf rs v).take j).flatMap (fun l => (highsOf rs v).map fun h => lstR (darkT l h))).map RelD.d))] (by kernel_rfl) h ?_; clear h; intro a w h
   refine wp_ret ?_
   replace h := h.conv (f' := F.of [(6, .t (.c (.own 0 (eachS darkT rs v).length)))] [(0, .row 45 4 ((eachS darkT rs v).map RelD.d))]) (congrArg (fun (z_ : List RelD) => F.of [(6, .t (.c (.own 0 z_.length)))] [(0, .row 45 4 (z_.map RelD.d))]) (show (((othersOf rs v) ++ ((lowsOf rs v).take j).flatMap (fun l => (highsOf rs v).map fun h => lstR (darkT l h))) : List RelD) = (eachS darkT rs v) from (by unfold eachS; rw [List.take_of_length_le (by omega)])))
   replace h := pubS 0 4 45 ((eachS darkT rs v).map RelD.d) [(6, .t (.c (.d (.sl 4 ((eachS darkT rs v).map RelD.d)))))] [] h rfl (show AllEq _ [(eachS darkT rs v).length] from ⟨by first | exact (List.length_map _).symm | (simp; done) | (simp; omega), trivial⟩) trivial (by kernel_rfl) (by kernel_rfl)
   refine retS [.c (.d (.sl 4 ((eachS darkT rs v).map RelD.d)))] h Exit.ret (.inl rfl)  rfl ⟨RV.tmp _ _ rfl, trivial⟩ ?_ (by kernel_rfl) (by kernel_rfl)
   rfl
set_option maxHeartbeats 4000000 in
theorem SSReal (rs : List RelD) (v : Int) (hrs : RsOk rs) : Fn Tryz.prog 19 [] [.t (.c (.d (.sl 4 (rs.map RelD.d)))), vi .i64 v] (.t (.c (.d (.sl 4 ((eachS brightT rs v).map RelD.d))))) [] := by
 refine Fn.body Tryz.func19 rfl 8 rfl fun w H B a h => ?_
 refine rSeq fam0ok 0 [] [(0, .t (.c (.d (.sl 4 (rs.map RelD.d))))), (1, vi .i64 v), (4, .t (.c (.d (.raw nilV))))] [] (by kernel_rfl) h ?_; clear h; intro a w h
 refine rSeq fam0ok 0 [(2, .call (SEachBright rs v hrs) hb_20)] [(4, .t (.c (.d (.sl 4 ((eachS brightT rs v).map RelD.d)))))] [] (by kernel_rfl) h ?_; clear h; intro a w h
 refine wp_ret ?_
 refine retS [.c (.d (.sl 4 ((eachS brightT rs v).map RelD.d)))] h Exit.ret (.inl rfl)  rfl ⟨RV.tmp _ _ rfl, trivial⟩ ?_ (by kernel_rfl) (by kernel_rfl)
 rfl
set_option maxHeartbeats 4000000 in
theorem SSDark (rs : List RelD) (v : Int) (hrs : RsOk rs) : Fn Tryz.prog 21 [] [.t (.c (.d (.sl 4 (rs.map RelD.d)))), vi .i64 v] (.t (.c (.d (.sl 4 ((eachS darkT rs v).map RelD.d))))) [] := by
 refine Fn.body Tryz.func21 rfl 8 rfl fun w H B a h => ?_
 refine rSeq fam0ok 0 [] [(0, .t (.c (.d (.sl 4 (rs.map RelD.d))))), (1, vi .i64 v), (4, .t (.c (.d (.raw nilV))))] [] (by kernel_rfl) h ?_; clear h; intro a w h
 refine rSeq fam0ok 0 [(2, .call (SEachDark rs v hrs) hb_20)] [(4, .t (.c (.d (.sl 4 ((eachS darkT rs v).map RelD.d)))))] [] (by kernel_rfl) h ?_; clear h; intro a w h
 refine wp_ret ?_
 refine retS [.c (.d (.sl 4 ((eachS darkT rs v).map RelD.d)))] h Exit.ret (.inl rfl)  rfl ⟨RV.tmp _ _ rfl, trivial⟩ ?_ (by kernel_rfl) (by kernel_rfl)
 rfl
end Go.Proofs.YtoklkfmffmonoaaGreat.S
end
section
namespace Go.Proofs.YtoklkfmffmonoaaGreat.S
open Go.RowKit

end Go.Proofs.YtoklkfmffmonoaaGreat.S
end
section
namespace Go.Proofs.YtoklkfmffmonoaaGreat.S
open Go.RowKit

theorem hd_4 : Bodied Tryz.prog 82 := Bodied.mk' (by kernel_rfl)
theorem hd_10 : Bodied Tryz.prog 36 := Bodied.mk' (by kernel_rfl)
theorem hd_11 : Bodied Tryz.prog 37 := Bodied.mk' (by kernel_rfl)
theorem lows_take {rs : List RelD} {v : Int} {j : Nat} {x : RelD} (h : rs[j]? = some x) : lowsOf (rs.take (j + 1)) v = lowsOf (rs.take j) v ++ lowF v x := (flat_snoc h rfl).symm
theorem highs_take {rs : List RelD} {v : Int} {j : Nat} {x : RelD} (h : rs[j]? = some x) : highsOf (rs.take (j + 1)) v = highsOf (rs.take j) v ++ highF v x := (flat_snoc h rfl).symm
theorem low_yes {v : Int} {x : RelD} (h : decide (sgn (coefZ x.t.parts v) > 0) = true) : lowF v x = [sideOf v x] := if_pos (sgn_gt_zero.1 (of_decide_eq_true h))
theorem low_no {v : Int} {x : RelD} (h : decide (sgn (coefZ x.t.parts v) > 0) = false) : lowF v x = [] := if_neg (fun e => of_decide_eq_false h (sgn_gt_zero.2 e))
theorem high_yes {v : Int} {x : RelD} (h : decide (sgn (coefZ x.t.parts v) < 0) = true) : highF v x = [sideOf v x] := if_pos (sgn_lt_zero.1 (of_decide_eq_true h))
theorem high_no {v : Int} {x : RelD} (h : decide (sgn (coefZ x.t.parts v) < 0) = false) : highF v x = [] := if_neg (fun e => of_decide_eq_false h (sgn_lt_zero.2 e))
set_option maxHeartbeats 4000000 in
theorem SRAbs (x : ZI) (hx : Lb x.abs) (lx : x.abs.length ≤ 1000) : Fn Tryz.prog 82 [] [vz x] (vz (ZI.of (x.val.natAbs : Int))) [] := by
 refine Fn.body Tryz.func82 rfl 6 rfl fun w H B a h => ?_
 refine rSeq fam0ok 0 [] [(1, vp 0 0), (2, vp 1 0)] [(0, .box (zi x)), (1, .box [.d (.raw (.bool false)), .d (nsl [])])] (by kernel_rfl) h ?_; clear h; intro a w h
 obtain ⟨r1, er1, vr1, or1, lr1⟩ := mkZ (v := iv false x.abs) (m := x.abs.length) (len_iv hx)
 refine rSeq fam0ok 2 [(2, .call (Fn.cast (SRFrom false x.abs hx (by omega)) (congrArg vz er1.symm)) ia_4)] [(2, vp 1 0)] [(1, .box (zi r1))] (by kernel_rfl) h ?_; clear h; intro a w h
 refine wp_ret ?_
 refine retS [.agg (zi r1)] h Exit.ret (.inl rfl)  rfl ⟨RV.agg _ 1 0 _ _ _ _ ia_1 rfl rfl rfl rfl, trivial⟩ ?_ (by kernel_rfl) (by kernel_rfl)
 rw [er1, iv_pos]; first | done | rfl
set_option maxHeartbeats 4000000 in
theorem SSign7 (r : RelD) (v : Int) (hr : TOk 20 8 r.t) : Fn Tryz.prog 37 [] [.t (.agg ([.d (.sl 3 (r.t.parts.map Part.d))] ++ zi r.t.k ++ [.d (.raw (.bool r.eq))])), vi .i64 v] (vi .i64 (sgn (coefZ r.t.parts v))) [] := by
 refine Fn.body Tryz.func37 rfl 10 rfl fun w H B a h => ?_
 refine rSeq fam0ok 0 [] [(1, vi .i64 v), (2, vp 0 0), (4, vi .i64 0)] [(0, .box ([.d (.sl 3 (r.t.parts.map Part.d))] ++ zi r.t.k ++ [.d (.raw (.bool r.eq))]))] (by kernel_rfl) h ?_; clear h; intro a w h
 obtain ⟨r1, er1, vr1, or1, lr1⟩ := mkZ (v := coefZ r.t.parts v) (m := 9) (coef_len (TOk.mono hr (show 20 ≤ 1000 by decide) (Nat.le_refl 8)).psok v)
 refine rSeq fam0ok 1 [(3, .call (Fn.cast (SCoef r.t v (TOk.mono (n' := 1000) (L' := 40000) hr (by decide) (by decide)).psok) (congrArg vz er1.symm)) tb_4), (4, .call (SRSign r1 or1 (by omega)) ib_0)] [(4, vi .i64 (sgn r1.val))] [] (by kernel_rfl) h ?_; clear h; intro a w h
 refine wp_ret ?_
 refine retS [.c (.d (.raw (.int .i64 (sgn r1.val))))] h Exit.ret (.inl rfl)  rfl ⟨RV.tmp _ _ rfl, trivial⟩ ?_ (by kernel_rfl) (by kernel_rfl)
 rw [vr1]; first | done | rfl
set_option maxHeartbeats 4000000 in
theorem STimes7 (r : RelD) (v : Int) (hr : TOk 20 8 r.t) : Fn Tryz.prog 36 [] [.t (.agg ([.d (.sl 3 (r.t.parts.map Part.d))] ++ zi r.t.k ++ [.d (.raw (.bool r.eq))])), vi .i64 v] (vz (ZI.of ((coefZ r.t.parts v).natAbs : Int))) [] := by
 refine Fn.body Tryz.func36 rfl 10 rfl fun w H B a h => ?_
 refine rSeq fam0ok 0 [] [(1, vi .i64 v), (2, vp 0 0), (4, vp 1 0)] [(0, .box ([.d (.sl 3 (r.t.parts.map Part.d))] ++ zi r.t.k ++ [.d (.raw (.bool r.eq))])), (1, .box [.d (.raw (.bool false)), .d (nsl [])])] (by kernel_rfl) h ?_; clear h; intro a w h
 obtain ⟨r1, er1, vr1, or1, lr1⟩ := mkZ (v := coefZ r.t.parts v) (m := 9) (coef_len (TOk.mono hr (show 20 ≤ 1000 by decide) (Nat.le_refl 8)).psok v)
 obtain ⟨r2, er2, vr2, or2, lr2⟩ := mkZ (v := (r1.val.natAbs : Int)) (m := r1.abs.length) (len_abs or1)
 refine rSeq fam0ok 2 [(3, .call (Fn.cast (SCoef r.t v (TOk.mono (n' := 1000) (L' := 40000) hr (by decide) (by decide)).psok) (congrArg vz er1.symm)) tb_4), (4, .call (Fn.cast (SRAbs r1 or1 (by omega)) (congrArg vz er2.symm)) hd_4)] [(4, vp 1 0)] [(1, .box (zi r2))] (by kernel_rfl) h ?_; clear h; intro a w h
 refine wp_ret ?_
 refine retS [.agg (zi r2)] h Exit.ret (.inl rfl)  rfl ⟨RV.agg _ 1 0 _ _ _ _ ia_1 rfl rfl rfl rfl, trivial⟩ ?_ (by kernel_rfl) (by kernel_rfl)
 rw [er2, vr1]; first | done | rfl
set_option maxHeartbeats 4000000 in
theorem SFewRsL (rs : List RelD) (most L : Int) (hl : rs.length ≤ 9223372036854775807) : Fn Tryz.prog 10 [] [.t (.c (.d (.sl 4 (rs.map RelD.d)))), vi .i64 most, vi .i64 L] (vb (fewRs rs most L)) [] := by
 refine Fn.body Tryz.func10 rfl 64 rfl fun w H B a h => ?_
 refine rSeq fam0ok 0 [] [(0, .t (.c (.d (.sl 4 (rs.map RelD.d))))), (1, vi .i64 most), (2, vi .i64 L), (6, vb false)] [] (by kernel_rfl) h ?_; clear h; intro a w h
 refine wp_seq ?_
 refine rSeq fam0ok 0 [(1, .len (c := (.d (.sl 4 (rs.map RelD.d)))) (n := rs.length) (lenC_map _ _ _))] [(0, .t (.c (.d (.sl 4 (rs.map RelD.d))))), (2, vi .i64 L), (6, vb false), (12, vb (decide ((rs.length : Int) > most)))] [] (by kernel_rfl) h ?_; clear h; intro a w h
 refine condS (decide ((rs.length : Int) > most)) h rfl (fun hc => ?_) (fun hc => ?_)
 ·have hc1 := hc; clear hc
  have hc1' := of_decide_eq_true hc1
  refine rSeq fam0ok 0 [] [(0, .t (.c (.d (.sl 4 (rs.map RelD.d))))), (2, vi .i64 L), (6, vb false)] [] (by kernel_rfl) h ?_; clear h; intro a w h
  refine wp_ret ?_
  refine then_r ?_
  refine retS [.c (.d (.raw (.bool false)))] h Exit.ret (.inl rfl)  rfl ⟨RV.tmp _ _ rfl, trivial⟩ ?_ (by kernel_rfl) (by kernel_rfl)
  rw [show fewRs rs most L = false from by unfold fewRs; rw [decide_eq_false (by have := of_decide_eq_true hc1; omega)]; rfl]; first | done | rfl
 ·have hc2 := hc; clear hc
  have hc2' := of_decide_eq_false hc2
  refine wp_skip ?_
  refine then_n ?_
  refine wp_seq ?_
  refine rSeq fam0ok 0 [] [(0, .t (.c (.d (.sl 4 (rs.map RelD.d))))), (2, vi .i64 L), (6, vb false), (7, vi .i64 0)] [] (by kernel_rfl) h ?_; clear h; intro a w h
  refine wp_block ?_
  refine loopS (ι := (Nat)) (fun (z_ : (Nat)) => match z_ with | j => j ≤ rs.length ∧ (rs.take j).all (fewR L) = true)
    (fun (z_ : (Nat)) => match z_ with | j => [(0, .t (.c (.d (.sl 4 (rs.map RelD.d))))), (2, vi .i64 L), (7, vi .i64 (j : Int))])
    (fun (z_ : (Nat)) => match z_ with | j => [])
    (fun (z_ : (Nat)) => match z_ with | j => rs.length - j) 0 ?_ h (by kernel_rfl) (by kernel_rfl) ?_
  ·exact ⟨Nat.zero_le _, rfl⟩
  ·clear h; rintro j a w hI h
   change St _ (F.of [(0, .t (.c (.d (.sl 4 (rs.map RelD.d))))), (2, vi .i64 L), (7, vi .i64 (j : Int))] []) a w at h
   obtain ⟨hI1, hI2⟩ := hI
   refine wp_seq ?_
   refine rSeq fam0ok 0 [(2, .len (c := (.d (.sl 4 (rs.map RelD.d)))) (n := rs.length) (lenC_map _ _ _))] [(0, .t (.c (.d (.sl 4 (rs.map RelD.d))))), (2, vi .i64 L), (7, vi .i64 (j : Int)), (16, vb (decide ((j : Int) < (rs.length : Int))))] [] (by kernel_rfl) h ?_; clear h; intro a w h
   refine condS (decide ((j : Int) < (rs.length : Int))) h rfl (fun hc => ?_) (fun hc => ?_)
   ·have hc3 := hc; clear hc
    have hc3' := of_decide_eq_true hc3
    refine wp_skip ?_
    refine then_n ?_
    refine wp_seq ?_
    refine wp_block ?_
    refine wp_seq ?_
    obtain ⟨x1, hx1⟩ : ∃ z_ : RelD, rs[j]? = some z_ := ⟨_, List.getElem?_eq_getElem (by first | omega | (simp at *; omega))⟩
    rcases Bool.eq_false_or_eq_true (decide ((x1.t.parts.length : Int) > 20)) with hc | hc
    ·have hc4 := hc; clear hc
     have hc4' := of_decide_eq_true hc4
     refine rSeq fam0ok 0 [(2, .gen _ _ _ fun _ _ _ _ => Op.idxD (d := 21) (t := 19) (k := .i64) kc_3 (map_at hx1 (f := RelD.d)) (OV.tmp 20 _)), (6, .len (c := (.d (.sl 3 (x1.t.parts.map Part.d)))) (n := x1.t.parts.length) (lenC_map _ _ _)), (7, .cmp (op := .gtr) (m := (x1.t.parts.length : Int)) (n := 20) (b := true) .i64 hc4)] [(0, .t (.c (.d (.sl 4 (rs.map RelD.d))))), (2, vi .i64 L), (7, vi .i64 (j : Int)), (38, vb true)] [] (by kernel_rfl) h ?_; clear h; intro a w h
     refine condS true h rfl (fun hc => ?_) (fun hc => ?_)
     ·clear hc
      refine rSeq fam0ok 0 [] [(0, .t (.c (.d (.sl 4 (rs.map RelD.d))))), (2, vi .i64 L), (6, vb false), (7, vi .i64 (j : Int))] [] (by kernel_rfl) h ?_; clear h; intro a w h
      refine wp_ret ?_
      refine then_r ?_
      refine block_r ?_
      refine then_r ?_
      refine then_r ?_
      refine block_r ?_
      refine then_r ?_
      refine retS [.c (.d (.raw (.bool false)))] h Exit.ret (.inl rfl)  rfl ⟨RV.tmp _ _ rfl, trivial⟩ ?_ (by kernel_rfl) (by kernel_rfl)
      rw [show fewRs rs most L = false from by unfold fewRs; rw [all_stop hx1 (show fewR L x1 = false from by rw [fewR, decide_eq_false (by have := of_decide_eq_true hc4; omega)]; rfl), Bool.and_false]]; first | done | rfl
     ·cases hc
    ·have hc5 := hc; clear hc
     have hc5' := of_decide_eq_false hc5
     refine rSeq fam0ok 0 [(2, .gen _ _ _ fun _ _ _ _ => Op.idxD (d := 21) (t := 19) (k := .i64) kc_3 (map_at hx1 (f := RelD.d)) (OV.tmp 20 _)), (6, .len (c := (.d (.sl 3 (x1.t.parts.map Part.d)))) (n := x1.t.parts.length) (lenC_map _ _ _)), (7, .cmp (op := .gtr) (m := (x1.t.parts.length : Int)) (n := 20) (b := false) .i64 hc5), (11, .gen _ _ _ fun _ _ _ _ => Op.idxD (d := 30) (t := 28) (k := .i64) kc_3 (map_at hx1 (f := RelD.d)) (OV.tmp 29 _)), (16, .len (nsl_len x1.t.k.abs))] [(0, .t (.c (.d (.sl 4 (rs.map RelD.d))))), (2, vi .i64 L), (7, vi .i64 (j : Int)), (38, vb (decide ((x1.t.k.abs.length : Int) > L)))] [] (by kernel_rfl) h ?_; clear h; intro a w h
     refine condS (decide ((x1.t.k.abs.length : Int) > L)) h rfl (fun hc => ?_) (fun hc => ?_)
     ·have hc6 := hc; clear hc
      have hc6' := of_decide_eq_true hc6
      refine rSeq fam0ok 0 [] [(0, .t (.c (.d (.sl 4 (rs.map RelD.d))))), (2, vi .i64 L), (6, vb false), (7, vi .i64 (j : Int))] [] (by kernel_rfl) h ?_; clear h; intro a w h
      refine wp_ret ?_
      refine then_r ?_
      refine block_r ?_
      refine then_r ?_
      refine then_r ?_
      refine block_r ?_
      refine then_r ?_
      refine retS [.c (.d (.raw (.bool false)))] h Exit.ret (.inl rfl)  rfl ⟨RV.tmp _ _ rfl, trivial⟩ ?_ (by kernel_rfl) (by kernel_rfl)
      rw [show fewRs rs most L = false from by unfold fewRs; rw [all_stop hx1 (show fewR L x1 = false from by rw [fewR, decide_eq_false (p := (_ : Int) ≤ L) (by have := of_decide_eq_true hc6; omega), Bool.and_false]; rfl), Bool.and_false]]; first | done | rfl
     ·have hc7 := hc; clear hc
      have hc7' := of_decide_eq_false hc7
      refine wp_skip ?_
      refine then_n ?_
      refine rSeq fam0ok 0 [] [(0, .t (.c (.d (.sl 4 (rs.map RelD.d))))), (2, vi .i64 L), (7, vi .i64 (j : Int)), (8, vi .i64 0)] [] (by kernel_rfl) h ?_; clear h; intro a w h
      refine wp_block ?_
      have hjr := hI1
      refine loopS (ι := (Nat)) (fun (z_ : (Nat)) => match z_ with | i => i ≤ x1.t.parts.length ∧ (x1.t.parts.take i).all (fun p => decide ((p.c.abs.length : Int) ≤ L)) = true)
        (fun (z_ : (Nat)) => match z_ with | i => [(0, .t (.c (.d (.sl 4 (rs.map RelD.d))))), (2, vi .i64 L), (7, vi .i64 (j : Int)), (8, vi .i64 (i : Int))])
        (fun (z_ : (Nat)) => match z_ with | i => [])
        (fun (z_ : (Nat)) => match z_ with | i => x1.t.parts.length - i) 0 ?_ h (by kernel_rfl) (by kernel_rfl) ?_
      ·exact ⟨Nat.zero_le _, rfl⟩
      ·clear h; rintro i a w hI h
       change St _ (F.of [(0, .t (.c (.d (.sl 4 (rs.map RelD.d))))), (2, vi .i64 L), (7, vi .i64 (j : Int)), (8, vi .i64 (i : Int))] []) a w at h
       obtain ⟨hJ1, hJ2⟩ := hI
       refine wp_seq ?_
       refine rSeq fam0ok 0 [(3, .gen _ _ _ fun _ _ _ _ => Op.idxD (d := 42) (t := 40) (k := .i64) kc_3 (map_at hx1 (f := RelD.d)) (OV.tmp 41 _)), (7, .len (c := (.d (.sl 3 (x1.t.parts.map Part.d)))) (n := x1.t.parts.length) (lenC_map _ _ _))] [(0, .t (.c (.d (.sl 4 (rs.map RelD.d))))), (2, vi .i64 L), (7, vi .i64 (j : Int)), (8, vi .i64 (i : Int)), (47, vb (decide ((i : Int) < (x1.t.parts.length : Int))))] [] (by kernel_rfl) h ?_; clear h; intro a w h
       refine condS (decide ((i : Int) < (x1.t.parts.length : Int))) h rfl (fun hc => ?_) (fun hc => ?_)
       ·have hc8 := hc; clear hc
        have hc8' := of_decide_eq_true hc8
        refine wp_skip ?_
        refine then_n ?_
        refine wp_seq ?_
        refine wp_block ?_
        obtain ⟨x2, hx2⟩ : ∃ z_ : Part, x1.t.parts[i]? = some z_ := ⟨_, List.getElem?_eq_getElem (by first | omega | (simp at *; omega))⟩
        refine rSeq fam0ok 0 [(2, .gen _ _ _ fun _ _ _ _ => Op.idxD (d := 52) (t := 50) (k := .i64) kc_3 (map_at hx1 (f := RelD.d)) (OV.tmp 51 _)), (7, .gen _ _ _ fun _ _ _ _ => Op.idxD (d := 57) (t := 55) (k := .i64) ta_0 (map_at hx2 (f := Part.d)) (OV.tmp 56 _)), (11, .len (nsl_len x2.c.abs))] [(0, .t (.c (.d (.sl 4 (rs.map RelD.d))))), (2, vi .i64 L), (7, vi .i64 (j : Int)), (8, vi .i64 (i : Int)), (63, vb (decide ((x2.c.abs.length : Int) > L)))] [] (by kernel_rfl) h ?_; clear h; intro a w h
        refine condS (decide ((x2.c.abs.length : Int) > L)) h rfl (fun hc => ?_) (fun hc => ?_)
        ·have hc9 := hc; clear hc
         have hc9' := of_decide_eq_true hc9
         refine rSeq fam0ok 0 [] [(0, .t (.c (.d (.sl 4 (rs.map RelD.d))))), (2, vi .i64 L), (6, vb false), (7, vi .i64 (j : Int)), (8, vi .i64 (i : Int))] [] (by kernel_rfl) h ?_; clear h; intro a w h
         refine wp_ret ?_
         refine block_r ?_
         refine then_r ?_
         refine then_r ?_
         refine block_r ?_
         refine block_r ?_
         refine then_r ?_
         refine then_r ?_
         refine block_r ?_
         refine then_r ?_
         refine retS [.c (.d (.raw (.bool false)))] h Exit.ret (.inl rfl)  rfl ⟨RV.tmp _ _ rfl, trivial⟩ ?_ (by kernel_rfl) (by kernel_rfl)
         rw [show fewRs rs most L = false from by unfold fewRs; rw [all_stop hx1 (show fewR L x1 = false from by rw [fewR, all_stop hx2 (decide_eq_false (by have := of_decide_eq_true hc9; omega)), Bool.and_false]), Bool.and_false]]; first | done | rfl
        ·have hc10 := hc; clear hc
         have hc10' := of_decide_eq_false hc10
         refine wp_skip ?_
         refine block_n ?_
         refine then_n ?_
         refine rS fam0ok 0 [(1, .add .i64 (m := (i : Int)) (n := 1) (i64_id (by omega) (by omega)))] [(0, .t (.c (.d (.sl 4 (rs.map RelD.d))))), (2, vi .i64 L), (7, vi .i64 (j : Int)), (8, vi .i64 ((i : Int) + 1))] [] (by kernel_rfl) h ?_; clear h; intro a w h
         refine then_n ?_
         refine roundS (x := i) (y := i + 1) h ?_ ?_ (by kernel_rfl) (by kernel_rfl)
         ·exact ⟨by have := at_lt hx2; omega, all_step hx2 hJ2 (decide_eq_true (by have := of_decide_eq_false hc10; omega))⟩
         ·show x1.t.parts.length - (i + 1) < x1.t.parts.length - i
          have := at_lt hx2; omega
       ·have hc11 := hc; clear hc
        have hc11' := of_decide_eq_false hc11
        refine wp_exit ?_
        refine then_x ?_
        refine then_x ?_
        refine inBlock_exit ?_
        refine block_n ?_
        refine then_n ?_
        refine rS fam0ok 0 [(1, .add .i64 (m := (j : Int)) (n := 1) (i64_id (by omega) (by omega)))] [(0, .t (.c (.d (.sl 4 (rs.map RelD.d))))), (2, vi .i64 L), (7, vi .i64 ((j : Int) + 1))] [] (by kernel_rfl) h ?_; clear h; intro a w h
        refine then_n ?_
        refine roundS (x := j) (y := j + 1) h ?_ ?_ (by kernel_rfl) (by kernel_rfl)
        ·exact ⟨by have := at_lt hx1; omega, all_step hx1 hI2 (by rw [fewR, decide_eq_true (by have := of_decide_eq_false hc5; omega), decide_eq_true (by have := of_decide_eq_false hc7; omega), all_end (of_decide_eq_false hc11) hJ2]; rfl)⟩
        ·show rs.length - (j + 1) < rs.length - j
         have := at_lt hx1; omega
   ·have hc12 := hc; clear hc
    have hc12' := of_decide_eq_false hc12
    refine wp_exit ?_
    refine then_x ?_
    refine then_x ?_
    refine inBlock_exit ?_
    refine then_n ?_
    refine rSeq fam0ok 0 [] [(6, vb true)] [] (by kernel_rfl) h ?_; clear h; intro a w h
    refine wp_ret ?_
    refine retS [.c (.d (.raw (.bool true)))] h Exit.ret (.inl rfl)  rfl ⟨RV.tmp _ _ rfl, trivial⟩ ?_ (by kernel_rfl) (by kernel_rfl)
    rw [show fewRs rs most L = true from by unfold fewRs; rw [decide_eq_true (by have := of_decide_eq_false hc2; omega), all_end (of_decide_eq_false hc12) hI2]; rfl]; first | done | rfl
end Go.Proofs.YtoklkfmffmonoaaGreat.S
end
section
namespace Go.Proofs.YtoklkfmffmonoaaGreat.S
open Go.RowKit Go.Sort

theorem ints_cells {H : Im} : ∀ (xs : List Int) (us : List Value), All2 (DR H) (xs.map intD).flatten us → us = xs.map (Value.int .i64)
 | [], [], _ => rfl
 | [], _ :: _, h => h.elim
 | _ :: _, [], h => h.elim
 | x :: xs, u :: us, h => by
  have h1 : DR H (.raw (.int .i64 x)) u ∧ All2 (DR H) (xs.map intD).flatten us := h
  have e : u = .int .i64 x := VR.rawI (H := H) (B := fun _ => none) h1.1
  rw [e, ints_cells xs us h1.2]; rfl
theorem ints_all2 {H : Im} : ∀ xs : List Int, All2 (DR H) (xs.map intD).flatten (xs.map (Value.int .i64))
 | [] => trivial
 | _ :: xs => ⟨DR.raw _ rfl, ints_all2 xs⟩
theorem put_cells {arr : List Value} {ys : List Int} (hl : ys.length ≤ arr.length) : putCells (Value.int .i64) 0 ys.toArray ⟨arr⟩ = ⟨ys.map (Value.int .i64) ++ arr.drop ys.length⟩ := by
 apply Array.ext_getElem?
 intro k
 unfold putCells
 rw [Array.getElem?_mapIdx, show (⟨arr⟩ : Array Value) = arr.toArray from rfl, show (⟨ys.map (Value.int .i64) ++ arr.drop ys.length⟩ : Array Value) = (ys.map (Value.int .i64) ++ arr.drop ys.length).toArray from rfl, List.getElem?_toArray, List.getElem?_toArray]
 by_cases hk : k < ys.length
 ·rw [List.getElem?_append_left (by rw [List.length_map]; exact hk), List.getElem?_map, List.getElem?_eq_getElem hk, List.getElem?_eq_getElem (by omega)]
  simp only [Option.map_some]
  rw [if_pos ⟨Nat.zero_le _, by rw [Nat.zero_add]; exact hk⟩]
  simp [hk]
 ·rw [List.getElem?_append_right (by rw [List.length_map]; omega), List.length_map, List.getElem?_drop, show ys.length + (k - ys.length) = k by omega]
  cases hx : arr[k]? with
  | none => rfl
  | some x =>
   simp only [Option.map_some]
   rw [if_neg (fun h => hk (by have := h.2; rw [Nat.zero_add] at this; exact this))]
theorem block_put {w : World} {b n : Nat} {arr : List Value} {ty : TypeId} {ys : List Int} {os : Array Obj} (hb : w.heap[b]? = some (.cells ⟨arr⟩ ty (0, 0))) (hl : ys.length ≤ arr.length) :
  (grow (putRow (Value.int .i64) (Go.Sort.ahead w n) b 0 ys.toArray) os).heap[b]? = some (.cells ⟨ys.map (Value.int .i64) ++ arr.drop ys.length⟩ ty (0, 0)) := by
 have hlt : b < w.heap.size := (Array.getElem?_eq_some_iff.1 hb).1
 rw [heap_grow_old _ _ (by rw [size_putRow]; exact hlt)]
 unfold putRow mapBlock
 rw [Array.getElem?_modify]
 show (if b = b then Option.map _ w.heap[b]? else _) = _
 rw [if_pos rfl, hb]
 show some (Obj.cells (putCells (Value.int .i64) 0 ys.toArray ⟨arr⟩) ty (0, 0)) = _
 rw [put_cells hl]
theorem block_keep {w : World} {b n k : Nat} {ys : List Int} {os : Array Obj} (hk : k < w.heap.size) (hne : k ≠ b) : (grow (putRow (Value.int .i64) (Go.Sort.ahead w n) b 0 ys.toArray) os).heap[k]? = w.heap[k]? := by
 rw [heap_grow_old _ _ (by rw [size_putRow]; exact hk)]
 unfold putRow mapBlock
 rw [Array.getElem?_modify]
 show (if b = k then _ else w.heap[k]?) = _
 rw [if_neg (Ne.symm hne)]
theorem put_post {w : World} {H : Im} {B : Bl} {args : List V} {vals : List Value} {res : V} {v : Value} {b c n : Nat} {xs ys : List Int} {os : Array Obj} (pre : Pre [(0, .row 3 1 (xs.map intD))] args w H B vals) (hB : B 0 = some (b, c)) (hl : ys.length = xs.length) (hv : VR H B res v) :
  Post [(0, .row 3 1 (xs.map intD))] w H B res [(0, .row 3 1 (ys.map intD))] v (grow (putRow (Value.int .i64) (Go.Sort.ahead w n) b 0 ys.toArray) os) H B := by
 have hloc := pre.loc _ (List.mem_singleton.2 rfl)
 simp only [LR, hB] at hloc
 obtain ⟨arr, g1, g2, g3, g4, g5, g6⟩ := hloc
 rw [List.length_map] at g3
 have hpr := pre.priv _ (List.mem_singleton.2 rfl) b c hB
 have hla : ys.length ≤ arr.length := by omega
 refine ⟨Le.refl _, fun _ _ => rfl, fun k o hk => ?_, fun p hp => ?_, fun p hp b2 c2 h2 => ?_, fun p hp q hq _ _ _ _ _ => ?_, fun _ _ => rfl, hv, ⟨rfl, rfl, rfl, by rw [size_grow, size_putRow]; show w.heap.size ≤ w.heap.size + _; omega, fun k hk hm => ?_⟩⟩
 ·have h1 := pre.sat k o hk
  have hne : k ≠ b := fun e => by rw [e, hpr.2] at hk; cases hk
  rw [block_keep (Array.getElem?_eq_some_iff.1 h1).1 hne]; exact h1
 ·rw [List.mem_singleton.1 hp]
  simp only [LR, hB]
  refine ⟨_, block_put g1 hla, ?_, by rw [List.length_map]; omega, g4, fun r hr => ?_, ?_⟩
  ·rw [List.length_append, List.length_map, List.length_drop]; omega
  ·obtain ⟨x, _, rfl⟩ := List.mem_map.1 hr; rfl
  ·rw [List.length_map, Nat.mul_one, List.take_append_of_le_length (by rw [List.length_map]; omega), List.take_of_length_le (by rw [List.length_map]; omega)]
   exact ints_all2 ys
 ·rw [List.mem_singleton.1 hp] at h2
  have h2 : B 0 = some (b2, c2) := h2
  rw [hB] at h2
  injection h2 with h2
  obtain ⟨rfl, rfl⟩ := Prod.mk.injEq .. ▸ h2
  exact ⟨by rw [size_grow, size_putRow]; show b < w.heap.size + _; omega, hpr.2, .inl ⟨_, List.mem_singleton.2 rfl, c, hB⟩⟩
 ·rw [List.mem_singleton.1 hp, List.mem_singleton.1 hq]
 ·have hne : k ≠ b := fun e => hm ⟨_, List.mem_singleton.2 rfl, c, by rw [e]; exact hB⟩
  exact block_keep hk hne
theorem row_holds {w : World} {H : Im} {B : Bl} {b c : Nat} {xs : List Int} (hloc : LR H B w 0 (.row 3 1 (xs.map intD))) (hB : B 0 = some (b, c)) : Holds (Value.int .i64) w b 0 xs.toArray ∧ xs.length ≤ c ∧ c ≤ maxLen := by
 simp only [LR, hB] at hloc
 obtain ⟨arr, g1, g2, g3, g4, g5, g6⟩ := hloc
 rw [List.length_map] at g3 g6
 rw [Nat.mul_one] at g6
 have e := ints_cells xs _ g6
 refine ⟨fun j hj => ?_, g3, g4⟩
 have hj' : j < xs.length := by simpa using hj
 constructor
 ·simp only [World.cell?, g1, Nat.zero_add]
  rw [if_neg (by decide), show (⟨arr⟩ : Array Value) = arr.toArray from rfl, List.getElem?_toArray]
  have h2 : (arr.take xs.length)[j]? = arr[j]? := List.getElem?_take_of_lt hj'
  rw [← h2, e, List.getElem?_map, List.getElem?_eq_getElem hj']
  simp [hj']
 ·simp only [World.frozen?, g1]; simp
def sortZ (xs : List Int) : List Int := xs.mergeSort fun x y => decide (x ≤ y)
theorem sortZ_len (xs : List Int) : (sortZ xs).length = xs.length := List.length_mergeSort xs
theorem arg1 {H : Im} {B : Bl} {x : V} {vals : List Value} (h : All2 (VR H B) [x] vals) : ∃ v, vals = [v] ∧ VR H B x v := by
 match vals, h with
 | [v], h => exact ⟨v, rfl, h.1⟩
 | [], h => exact h.elim
 | _ :: _ :: _, h => exact h.2.elim
theorem none_rows {w : World} {H : Im} {B : Bl} {xs : List Int} (hloc : LR H B w 0 (.row 3 1 (xs.map intD))) (hB : B 0 = none) : xs = [] := by
 simp only [LR, hB] at hloc
 simpa using hloc
theorem same_post {ps : List (Nat × L)} {w : World} {H : Im} {B : Bl} {args : List V} {vals : List Value} {res : V} {v : Value} (pre : Pre ps args w H B vals) (hv : VR H B res v) : Post ps w H B res ps v w H B :=
 ⟨Le.refl _, fun _ _ => rfl, pre.sat, pre.loc, fun p hp b c h => ⟨(pre.priv p hp b c h).1, (pre.priv p hp b c h).2, .inl ⟨p, hp, c, h⟩⟩, pre.inj, fun _ _ => rfl, hv, Ext.refl _ _⟩
theorem SSortI (xs : List Int) (hl : xs.length ≤ 1000000) : Fn Tryz.prog 45 [(0, .row 3 1 (xs.map intD))] [.t (.c (.own 0 xs.length))] (.tup []) [(0, .row 3 1 ((sortZ xs).map intD))] := by
 intro w H B vals pre
 obtain ⟨v, rfl, hv⟩ := arg1 pre.arg
 have hloc := pre.loc _ (List.mem_singleton.2 rfl)
 have hv : CR H B (.own 0 xs.length) v := hv
 cases hB : B 0 with
 | none =>
  have hx := none_rows hloc hB
  subst hx
  simp only [CR, hB] at hv
  obtain ⟨_, ao, rfl⟩ := hv
  refine (Tryz.slices_Sort_int_none ao 0 w).mono ?_
  rintro e w' ⟨rfl, rfl⟩
  rw [show sortZ [] = [] by unfold sortZ; simp]
  exact ⟨_, H, B, rfl, same_post pre (show VR H B (.tup []) (.tuple #[]) from ⟨[], rfl, trivial⟩)⟩
 | some p =>
  obtain ⟨b, c⟩ := p
  simp only [CR, hB] at hv
  subst hv
  obtain ⟨h1, h2, h3⟩ := row_holds hloc hB
  have hpr := pre.priv _ (List.mem_singleton.2 rfl) b c hB
  refine (Tryz.slices_Sort_int b 0 c xs w h1 hpr.1 (by omega)).mono ?_
  rintro e w' ⟨rfl, n, os, rfl⟩
  exact ⟨_, H, B, rfl, put_post pre hB (sortZ_len xs) (show VR H B (.tup []) (.tuple #[]) from ⟨[], rfl, trivial⟩)⟩
def comZ (xs : List Int) : List Int := Lib.compact xs
def comR (xs : List Int) : List Int := comZ xs ++ List.replicate (xs.length - (comZ xs).length) 0
theorem comR_len (xs : List Int) : (comR xs).length = xs.length := by
 have := Lib.compact_length_le xs
 unfold comR comZ; rw [List.length_append, List.length_replicate]; omega
theorem SCompactI (xs : List Int) (hl : xs.length ≤ 1000000) : Fn Tryz.prog 46 [(0, .row 3 1 (xs.map intD))] [.t (.c (.own 0 xs.length))] (.t (.c (.own 0 (comZ xs).length))) [(0, .row 3 1 ((comR xs).map intD))] := by
 intro w H B vals pre
 obtain ⟨v, rfl, hv⟩ := arg1 pre.arg
 have hloc := pre.loc _ (List.mem_singleton.2 rfl)
 have hv : CR H B (.own 0 xs.length) v := hv
 cases hB : B 0 with
 | none =>
  have hx := none_rows hloc hB
  subst hx
  simp only [CR, hB] at hv
  obtain ⟨_, ao, rfl⟩ := hv
  refine (Tryz.slices_Compact_int_empty ao 0 w).mono ?_
  rintro e w' ⟨rfl, rfl⟩
  exact ⟨_, H, B, rfl, same_post pre (show VR H B (.t (.c (.own 0 0))) (.slice ao 0 0) from by show CR H B (.own 0 0) (.slice ao 0 0); simp only [CR, hB]; exact ⟨trivial, ao, rfl⟩)⟩
 | some p =>
  obtain ⟨b, c⟩ := p
  simp only [CR, hB] at hv
  subst hv
  obtain ⟨h1, h2, h3⟩ := row_holds hloc hB
  refine (Tryz.slices_Compact_int b 0 c xs w h1 (by omega) h2).mono ?_
  rintro e w' ⟨rfl, q, rfl⟩
  have := put_post (n := q) (os := #[]) pre hB (comR_len xs) (show VR H B (.t (.c (.own 0 (comZ xs).length))) (.slice (some ⟨b, 0, none⟩) (Lib.compact xs).length c) from by show CR H B (.own 0 (comZ xs).length) (.slice (some ⟨b, 0, none⟩) (Lib.compact xs).length c); simp only [CR, hB]; rfl)
  rw [grow_empty] at this
  exact ⟨_, H, B, rfl, this⟩
end Go.Proofs.YtoklkfmffmonoaaGreat.S
end
section
namespace Go.Proofs.YtoklkfmffmonoaaGreat.S
open Go.RowKit

theorem sri_eq : ∀ {xs ys : List Int}, SRi xs → SRi ys → (∀ v, v ∈ xs ↔ v ∈ ys) → xs = ys
 | [], [], _, _, _ => rfl
 | [], y :: _, _, _, h => absurd ((h y).2 (List.mem_cons_self ..)) (List.not_mem_nil)
 | x :: _, [], _, _, h => absurd ((h x).1 (List.mem_cons_self ..)) (List.not_mem_nil)
 | x :: xs, y :: ys, hx, hy, h => by
  have hx' := List.pairwise_cons.1 hx
  have hy' := List.pairwise_cons.1 hy
  have e : x = y := by
   rcases List.mem_cons.1 ((h x).1 (List.mem_cons_self ..)) with e | h1
   ·exact e
   ·rcases List.mem_cons.1 ((h y).2 (List.mem_cons_self ..)) with e | h2
    ·exact e.symm
    ·have := hy'.1 x h1; have := hx'.1 y h2; omega
  subst e
  congr 1
  refine sri_eq hx'.2 hy'.2 fun v => ⟨fun hv => ?_, fun hv => ?_⟩
  ·rcases List.mem_cons.1 ((h v).1 (List.mem_cons_of_mem _ hv)) with e | h1
   ·have := hx'.1 v hv; omega
   ·exact h1
  ·rcases List.mem_cons.1 ((h v).2 (List.mem_cons_of_mem _ hv)) with e | h1
   ·have := hy'.1 v hv; omega
   ·exact h1
theorem com_spec {zs : List Int} (hs : zs.Pairwise (· ≤ ·)) : ∀ m, m ≤ zs.length → SRi (Lib.compactUpTo zs.toArray m) ∧ ∀ v, v ∈ Lib.compactUpTo zs.toArray m ↔ v ∈ zs.take m
  | 0, _ => by
    have e : Lib.compactUpTo zs.toArray 0 = [] := by simp [Lib.compactUpTo]
    rw [e]; exact ⟨List.Pairwise.nil, fun v => by simp⟩
  | m + 1, hm => by
    obtain ⟨h1, h2⟩ := com_spec hs m (by omega)
    have hml : m < zs.length := by omega
    have hd : zs.toArray[m]! = zs[m] := by simp [hml]
    have ht : zs.take (m + 1) = zs.take m ++ [zs[m]] := by rw [List.take_add_one, List.getElem?_eq_getElem hml]; rfl
    rw [Lib.compactUpTo_succ, hd, ht]
    have hle : ∀ v ∈ zs.take m, v ≤ zs[m] := fun v hv => by
      obtain ⟨i, hi, e⟩ := List.mem_iff_getElem.1 hv
      rw [List.length_take] at hi
      rw [List.getElem_take] at e
      rw [← e]
      exact List.pairwise_iff_getElem.1 hs i m (by omega) hml (by omega)
    by_cases hk : Lib.keeps zs.toArray m = true
    · rw [if_pos hk]
      refine ⟨List.pairwise_append.2 ⟨h1, List.pairwise_singleton .., fun x hx y hy => ?_⟩, fun v => by rw [List.mem_append, List.mem_append, h2]⟩
      rw [List.mem_singleton.1 hy]
      have hx' := (h2 x).1 hx
      have := hle x hx'
      rcases Nat.eq_zero_or_pos m with rfl | hp
      · simp at hx'
      · have hne : zs[m] ≠ zs[m - 1] := by
          unfold Lib.keeps at hk
          have hd2 : zs.toArray[m - 1]! = zs[m - 1] := by simp [show m - 1 < zs.length by omega]
          rw [hd, hd2] at hk
          intro e
          rw [e] at hk
          simp at hk
          omega
        obtain ⟨i, hi, e⟩ := List.mem_iff_getElem.1 hx'
        rw [List.length_take] at hi
        rw [List.getElem_take] at e
        have h3 : x ≤ zs[m - 1] := by
          rw [← e]
          rcases Nat.lt_or_ge i (m - 1) with h | h
          · exact List.pairwise_iff_getElem.1 hs i (m - 1) (by omega) (by omega) h
          · have : i = m - 1 := by omega
            subst this; exact Int.le_refl _
        have h4 : zs[m - 1] ≤ zs[m] := List.pairwise_iff_getElem.1 hs (m - 1) m (by omega) hml (by omega)
        omega
    · rw [if_neg hk, List.append_nil]
      refine ⟨h1, fun v => ?_⟩
      rw [List.mem_append, List.mem_singleton, h2]
      refine ⟨.inl, fun h => h.elim id fun e => ?_⟩
      have hp : 0 < m := by
        rcases Nat.eq_zero_or_pos m with rfl | hp
        · exact absurd (by simp [Lib.keeps]) hk
        · exact hp
      have he : zs[m] = zs[m - 1] := by
        refine Classical.byContradiction fun hne => hk ?_
        have hd2 : zs.toArray[m - 1]! = zs[m - 1] := by simp [show m - 1 < zs.length by omega]
        exact Lib.keeps_pos (by rw [hd, hd2]; exact hne)
      rw [e, he]
      exact List.mem_iff_getElem.2 ⟨m - 1, by rw [List.length_take]; omega, by rw [List.getElem_take]⟩
theorem sortZ_ris (xs : List Int) : (sortZ xs).Pairwise (· ≤ ·) := by
  have h := List.pairwise_mergeSort (le := fun x y : Int => decide (x ≤ y)) (fun a b c h1 h2 => by simp only [decide_eq_true_eq] at *; omega) (fun a b => by simp only [Bool.or_eq_true, decide_eq_true_eq]; omega) xs
  exact h.imp fun h => of_decide_eq_true h
theorem sortZ_mem (xs : List Int) (v : Int) : v ∈ sortZ xs ↔ v ∈ xs := (List.mergeSort_perm xs _).mem_iff
def uniZ (xs : List Int) : List Int := comZ (sortZ xs)
theorem uniZ_ris (xs : List Int) : SRi (uniZ xs) := (com_spec (sortZ_ris xs) _ (Nat.le_refl _)).1
theorem uniZ_mem (xs : List Int) (v : Int) : v ∈ uniZ xs ↔ v ∈ xs := by
 unfold uniZ comZ Lib.compact
 rw [(com_spec (sortZ_ris xs) _ (Nat.le_refl _)).2, List.take_length, sortZ_mem]
theorem uniZ_eq {xs ys : List Int} (h : SRi ys) (hm : ∀ v, v ∈ xs ↔ v ∈ ys) : uniZ xs = ys := sri_eq (uniZ_ris xs) h fun v => by rw [uniZ_mem, hm]
theorem comR_at {xs : List Int} {i : Nat} {x : Int} (h : (comZ xs)[i]? = some x) : (comR xs)[i]? = some x := by
 unfold comR; rw [List.getElem?_append_left (List.getElem?_eq_some_iff.1 h).1]; exact h
theorem SCompactN (xs : List Int) (n : Nat) (hn : n = xs.length) (hl : xs.length ≤ 1000000) : Fn Tryz.prog 46 [(0, .row 3 1 (xs.map intD))] [.t (.c (.own 0 n))] (.t (.c (.own 0 (comZ xs).length))) [(0, .row 3 1 ((comR xs).map intD))] := by subst hn; exact SCompactI xs hl
end Go.Proofs.YtoklkfmffmonoaaGreat.S
end
section
namespace Go.Proofs.YtoklkfmffmonoaaGreat
open Go.RowKit

end Go.Proofs.YtoklkfmffmonoaaGreat
end
section
namespace Go.Proofs.YtoklkfmffmonoaaGreat
open Go.RowKit

end Go.Proofs.YtoklkfmffmonoaaGreat
end
section
namespace Go.Proofs.YtoklkfmffmonoaaGreat
open Go.RowKit

end Go.Proofs.YtoklkfmffmonoaaGreat
end
section
namespace Go.Proofs.YtoklkfmffmonoaaGreat
open Go.RowKit

theorem sgn_mul_range {x y : Int} (hx : -1 ≤ x ∧ x ≤ 1) (hy : -1 ≤ y ∧ y ≤ 1) : -1 ≤ x * y ∧ x * y ≤ 1 := by
 have h1 : x = -1 ∨ x = 0 ∨ x = 1 := by omega
 rcases h1 with rfl | rfl | rfl <;> omega

end Go.Proofs.YtoklkfmffmonoaaGreat
end
section
namespace Go.Proofs.YtoklkfmffmonoaaGreat
open Go.RowKit

theorem val_two (x : Nat) : val [x % 4294967296, x / 4294967296] = x := by simp only [val]; omega
end Go.Proofs.YtoklkfmffmonoaaGreat
end
section
namespace Go.Proofs.YtoklkfmffmonoaaGreat
open Go.RowKit

end Go.Proofs.YtoklkfmffmonoaaGreat
end
section
namespace Go.Proofs.YtoklkfmffmonoaaGreat.S
open Go.RowKit

end Go.Proofs.YtoklkfmffmonoaaGreat.S
end
section
namespace Go.Proofs.YtoklkfmffmonoaaGreat.S
open Go.RowKit

end Go.Proofs.YtoklkfmffmonoaaGreat.S
end
section
namespace Go.Proofs.YtoklkfmffmonoaaGreat.S
open Go.RowKit

end Go.Proofs.YtoklkfmffmonoaaGreat.S
end
section
namespace Go.Proofs.YtoklkfmffmonoaaGreat.S
open Go.RowKit

end Go.Proofs.YtoklkfmffmonoaaGreat.S
end
section
namespace Go.Proofs.YtoklkfmffmonoaaGreat.S
open Go.RowKit

end Go.Proofs.YtoklkfmffmonoaaGreat.S
end
section
namespace Go.Proofs.YtoklkfmffmonoaaGreat.S
open Go.RowKit

end Go.Proofs.YtoklkfmffmonoaaGreat.S
end
section
namespace Go.Proofs.YtoklkfmffmonoaaGreat.S
open Go.RowKit

end Go.Proofs.YtoklkfmffmonoaaGreat.S
end
section
namespace Go.Proofs.YtoklkfmffmonoaaGreat.S
open Go.RowKit

end Go.Proofs.YtoklkfmffmonoaaGreat.S
end
section
namespace Go.Proofs.YtoklkfmffmonoaaGreat.S
open Go.RowKit

end Go.Proofs.YtoklkfmffmonoaaGreat.S
end
section
namespace Go.Proofs.YtoklkfmffmonoaaGreat.S
open Go.RowKit

end Go.Proofs.YtoklkfmffmonoaaGreat.S
end
section
namespace Go.Proofs.YtoklkfmffmonoaaGreat.S
open Go.RowKit

end Go.Proofs.YtoklkfmffmonoaaGreat.S
end
section
namespace Go.Proofs.YtoklkfmffmonoaaGreat.S
open Go.RowKit

end Go.Proofs.YtoklkfmffmonoaaGreat.S
end
section
namespace Go.Proofs.YtoklkfmffmonoaaGreat.S
open Go.RowKit

end Go.Proofs.YtoklkfmffmonoaaGreat.S
end
section
namespace Go.Proofs.YtoklkfmffmonoaaGreat.S
open Go.RowKit

end Go.Proofs.YtoklkfmffmonoaaGreat.S
end
section
namespace Go.Proofs.YtoklkfmffmonoaaGreat.S
open Go.RowKit

end Go.Proofs.YtoklkfmffmonoaaGreat.S
end
section
namespace Go.Proofs.YtoklkfmffmonoaaGreat.S
open Go.RowKit

end Go.Proofs.YtoklkfmffmonoaaGreat.S
end
section
namespace Go.Proofs.YtoklkfmffmonoaaGreat.S
open Go.RowKit

end Go.Proofs.YtoklkfmffmonoaaGreat.S
end
section
namespace Go.Proofs.YtoklkfmffmonoaaGreat.S
open Go.RowKit

end Go.Proofs.YtoklkfmffmonoaaGreat.S
end
section
namespace Go.Proofs.YtoklkfmffmonoaaGreat.S
open Go.RowKit

mutual
/-- y is x, with nil read as an empty slice here and there -/
inductive Wk : D → D → Prop
  | refl (x : D) : Wk x x
  | nil (es : Nat) : Wk (.raw nilV) (.sl es [])
  | sl (es : Nat) (a b : List (List D)) (h : WkR a b) : Wk (.sl es a) (.sl es b)
inductive WkL : List D → List D → Prop
  | nil : WkL [] []
  | cons (x y : D) (xs ys : List D) (h : Wk x y) (hs : WkL xs ys) : WkL (x :: xs) (y :: ys)
inductive WkR : List (List D) → List (List D) → Prop
  | nil : WkR [] []
  | cons (x y : List D) (xs ys : List (List D)) (h : WkL x y) (hs : WkR xs ys) : WkR (x :: xs) (y :: ys)
end
def WkM (x y : D) : Prop := ∀ (H : Im) (v : Value), DR H x v → DR H y v
def WkLM (xs ys : List D) : Prop := xs.length = ys.length ∧ ∀ j (h : j < xs.length) (h' : j < ys.length), WkM xs[j] ys[j]
def WkRM (xs ys : List (List D)) : Prop := xs.length = ys.length ∧ ∀ i (h : i < xs.length) (h' : i < ys.length), WkLM xs[i] ys[i]
theorem Wk.sound {x y : D} (h : Wk x y) : WkM x y := by
 refine Wk.rec (motive_1 := fun x y _ => WkM x y) (motive_2 := fun x y _ => WkLM x y) (motive_3 := fun x y _ => WkRM x y) ?_ ?_ ?_ ?_ ?_ ?_ ?_ h
 ·intro x H v h; exact h
 ·intro es H v h
  cases h with
  | raw v h => exact DR.nil _ _ _ (fun _ => rfl) (Nat.zero_le _)
 ·intro es a b _ ih H v h
  cases h with
  | nil es ao c h hc =>
   have : b = [] := List.length_eq_zero_iff.1 ih.1.symm
   subst this
   exact DR.nil _ _ _ h hc
  | sl es rows bb o c arr ty fz vs hp hb hl hc hes hv hr =>
   rw [ih.1] at hp hl ⊢
   refine DR.sl es b bb o c arr ty fz vs hp hb hl hc (fun i hi => ?_) (fun i hi => ?_) (fun i hi j hj => ?_)
   ·have h0 : i < a.length := by rw [ih.1]; exact hi
    rw [← (ih.2 i h0 hi).1]; exact hes i h0
   ·exact hv i (by rw [ih.1]; exact hi)
   ·have h0 : i < a.length := by rw [ih.1]; exact hi
    have hj0 : j < a[i].length := by rw [(ih.2 i h0 hi).1]; exact hj
    exact (ih.2 i h0 hi).2 j hj0 hj _ _ (hr i h0 j hj0)
 ·exact ⟨rfl, fun j h => absurd h (Nat.not_lt_zero j)⟩
 ·intro x y xs ys _ _ h hs
  refine ⟨by simp [hs.1], fun j hj hj' => ?_⟩
  cases j with
  | zero => exact h
  | succ j => exact hs.2 j (by simpa using hj) (by simpa using hj')
 ·exact ⟨rfl, fun j h => absurd h (Nat.not_lt_zero j)⟩
 ·intro x y xs ys _ _ h hs
  refine ⟨by simp [hs.1], fun j hj hj' => ?_⟩
  cases j with
  | zero => exact h
  | succ j => exact hs.2 j (by simpa using hj) (by simpa using hj')
inductive WkC : List C → List C → Prop
  | nil : WkC [] []
  | same (x : C) (xs ys : List C) (hs : WkC xs ys) : WkC (x :: xs) (x :: ys)
  | d (x y : D) (xs ys : List C) (h : Wk x y) (hs : WkC xs ys) : WkC (.d x :: xs) (.d y :: ys)
theorem WkC.sound {H : Im} {B : Bl} {xs ys : List C} (h : WkC xs ys) : ∀ {vs : List Value}, All2 (CR H B) xs vs → All2 (CR H B) ys vs := by
 induction h with
 | nil => exact fun h => h
 | same x xs ys _ ih =>
  intro vs k
  cases vs with
  | nil => exact k.elim
  | cons v vs => exact ⟨k.1, ih k.2⟩
 | d x y xs ys h _ ih =>
  intro vs k
  cases vs with
  | nil => exact k.elim
  | cons v vs => exact ⟨h.sound H v k.1, ih k.2⟩
inductive WkV : V → V → Prop
  | refl (x : V) : WkV x x
  | c (x y : D) (h : Wk x y) : WkV (.t (.c (.d x))) (.t (.c (.d y)))
  | agg (xs ys : List C) (h : WkC xs ys) : WkV (.t (.agg xs)) (.t (.agg ys))
theorem WkV.sound {H : Im} {B : Bl} {x y : V} (h : WkV x y) {v : Value} (k : VR H B x v) : VR H B y v := by
 cases h with
 | refl => exact k
 | c x y h => exact h.sound H v k
 | agg xs ys h => obtain ⟨vs, e, k⟩ := k; exact ⟨vs, e, h.sound k⟩
inductive WkA : List V → List V → Prop
  | nil : WkA [] []
  | cons (x y : V) (xs ys : List V) (h : WkV x y) (hs : WkA xs ys) : WkA (x :: xs) (y :: ys)
theorem WkA.sound {H : Im} {B : Bl} {xs ys : List V} (h : WkA xs ys) : ∀ {vs : List Value}, All2 (VR H B) xs vs → All2 (VR H B) ys vs := by
 induction h with
 | nil => exact fun h => h
 | cons x y xs ys h _ ih =>
  intro vs k
  cases vs with
  | nil => exact k.elim
  | cons v vs => exact ⟨h.sound k.1, ih k.2⟩
theorem Fn.argw {P : Program} {k : FuncId} {ps qs : List (Nat × L)} {args args' : List V} {res : V} (h : Fn P k ps args' res qs) (hw : WkA args args') : Fn P k ps args res qs :=
 fun w H B vals pre => h w H B vals ⟨pre.sat, pre.loc, pre.priv, pre.inj, hw.sound pre.arg⟩
end Go.Proofs.YtoklkfmffmonoaaGreat.S
end
section
namespace Go.Proofs.YtoklkfmffmonoaaGreat.S
open Go.RowKit

theorem he_6 : Bodied Tryz.prog 28 := Bodied.mk' (by kernel_rfl)
def ofP7 : List Int → Nat → List Part
  | [], _ => []
  | c :: cs, i => (if c ≠ 0 then [⟨(i : Int), ZI.of c⟩] else []) ++ ofP7 cs (i + 1)
def ofR (k : Int) (cs : List Int) : RelD := ⟨⟨ofP7 cs 0, ZI.of k⟩, false⟩
theorem ofP7_app : ∀ (xs ys : List Int) (i : Nat), ofP7 (xs ++ ys) i = ofP7 xs i ++ ofP7 ys (i + xs.length)
 | [], ys, i => by simp [ofP7]
 | x :: xs, ys, i => by
  simp only [List.cons_append, ofP7, ofP7_app xs ys (i + 1), List.append_assoc, List.length_cons]
  rw [show i + 1 + xs.length = i + (xs.length + 1) by omega]
theorem ofP7_take {cs : List Int} {j : Nat} {c : Int} (h : cs[j]? = some c) : ofP7 (cs.take (j + 1)) 0 = ofP7 (cs.take j) 0 ++ (if c ≠ 0 then [⟨(j : Int), ZI.of c⟩] else []) := by
 have hj := (List.getElem?_eq_some_iff.1 h).1
 rw [List.take_add_one, h, ofP7_app, List.length_take, Nat.min_eq_left (by omega), Nat.zero_add]; simp [ofP7]
theorem ofP7_len : ∀ (cs : List Int) (i : Nat), (ofP7 cs i).length ≤ cs.length
 | [], _ => Nat.le_refl _
 | c :: cs, i => by
  have := ofP7_len cs (i + 1)
  simp only [ofP7, List.length_append, List.length_cons]
  split <;> simp <;> omega
theorem ofP7_mem : ∀ (cs : List Int) (i : Nat), ∀ p ∈ ofP7 cs i, ∃ c ∈ cs, p.c = ZI.of c
 | [], _, p, hp => by cases hp
 | c :: cs, i, p, hp => by
  rcases List.mem_append.1 hp with h | h
  ·split at h
   ·exact ⟨c, List.mem_cons_self .., by rw [List.mem_singleton.1 h]⟩
   ·cases h
  ·obtain ⟨d, hd, e⟩ := ofP7_mem cs (i + 1) p h
   exact ⟨d, List.mem_cons_of_mem _ hd, e⟩
theorem small_len {c : Int} (h : -1000 ≤ c ∧ c ≤ 1000) : (ZI.of c).abs.length ≤ 2 := ZI.len_of (by have := pw2; omega)
theorem ofR_ok (k : Int) (cs : List Int) (hk : -1000 ≤ k ∧ k ≤ 1000) (hc : ∀ c ∈ cs, -1000 ≤ c ∧ c ≤ 1000) (hl : cs.length ≤ 20) : TokR 8 (ofR k cs) := ⟨Nat.le_trans (ofP7_len cs 0) hl, fun p hp => by
 obtain ⟨c, h1, h2⟩ := ofP7_mem cs 0 p hp
 rw [h2]; exact ⟨ZI.lb_of _, Nat.le_trans (small_len (hc c h1)) (by decide)⟩, ZI.lb_of _, Nat.le_trans (small_len hk) (by decide)⟩
theorem rs2_ok {x y : RelD} (hx : TokR 8 x) (hy : TokR 8 y) : RsOk [x, y] := ⟨by show 2 ≤ 20; decide, fun r hr => by
 rcases List.mem_cons.1 hr with rfl | hr
 ·exact hx
 ·rw [List.mem_singleton.1 hr]; exact hy⟩
theorem fewRs_ok {rs : List RelD} {n : Int} {L : Nat} (h : fewRs rs n L = true) (hl : ∀ r ∈ rs, TLb r.t) : (rs.length : Int) ≤ n ∧ ∀ r ∈ rs, TokR L r := by
 unfold fewRs at h
 rw [Bool.and_eq_true, decide_eq_true_eq, List.all_eq_true] at h
 exact ⟨h.1, fun r hr => fewR_ok (h.2 r hr) (hl r hr)⟩
theorem fewRs_rs {rs : List RelD} {n : Int} (hn : n ≤ 20) (h : fewRs rs n 8 = true) (hl : ∀ r ∈ rs, TLb r.t) : RsOk rs := by
 have := fewRs_ok (L := 8) h hl; exact ⟨by omega, this.2⟩
abbrev hardE : List RelD := [(ofR 0 [2, (-1)]), (ofR 1 [(-3), 1])]
theorem hardE_ok : RsOk hardE := rs2_ok (ofR_ok 0 [2, (-1)] (by decide) (by decide) (by decide)) (ofR_ok 1 [(-3), 1] (by decide) (by decide) (by decide))
set_option maxHeartbeats 4000000 in
theorem SofR (k : Int) (cs : List Int) (hk : -1000 ≤ k ∧ k ≤ 1000) (hc : ∀ c ∈ cs, -1000 ≤ c ∧ c ≤ 1000) (hl : cs.length ≤ 20) : Fn Tryz.prog 28 [] [vi .i64 k, .t (.c (.d (.sl 1 (cs.map intD))))] (.t (.agg ([.d (.sl 3 ((ofR k cs).t.parts.map Part.d))] ++ zi (ofR k cs).t.k ++ [.d (.raw (.bool (ofR k cs).eq))]))) [] := by
 refine Fn.body Tryz.func28 rfl 34 rfl fun w H B a h => ?_
 refine rSeq fam0ok 5 [] [(0, vi .i64 k), (1, .t (.c (.d (.sl 1 (cs.map intD))))), (4, vp 5 0)] [(5, .box [.d (.raw nilV), .d (.raw (.bool false)), .d (nsl []), .d (.raw (.bool false))])] (by kernel_rfl) h ?_; clear h; intro a w h
 obtain ⟨r1, er1, vr1, or1, lr1⟩ := mkZ (v := k) (m := 2) (small_len ⟨by omega, by omega⟩)
 refine rSeq fam0ok 6 [(1, .call (Fn.cast (SROf k ⟨by omega, by omega⟩) (congrArg vz er1.symm)) tc_0)] [(1, .t (.c (.d (.sl 1 (cs.map intD))))), (4, vp 5 0), (5, vp 6 0)] [(5, .box [.d (.raw nilV), .d (.raw (.bool false)), .d (nsl []), .d (.raw (.bool false))]), (6, .box ([.d (.raw nilV)] ++ zi r1 ++ [.d (.raw (.bool false))]))] (by kernel_rfl) h ?_; clear h; intro a w h
 refine wp_seq ?_
 replace h := nilOLs 6 0 7 3 57 ([.d (.raw nilV)] ++ zi r1 ++ [.d (.raw (.bool false))]) [(1, .t (.c (.d (.sl 1 (cs.map intD))))), (4, vp 5 0), (5, vp 6 0)] [(5, .box [.d (.raw nilV), .d (.raw (.bool false)), .d (nsl []), .d (.raw (.bool false))]), (6, .box ([.own 7 0] ++ zi r1 ++ [.d (.raw (.bool false))])), (7, .row 57 3 ([].map Part.d))] h (by kernel_rfl) rfl rfl (by kernel_rfl) (by kernel_rfl)
 refine rSeq fam0ok 8 [(1, .len (c := (.d (.sl 1 (cs.map intD)))) (n := cs.length) (lenC_map _ _ _))] [(4, vp 5 0), (5, vp 6 0), (12, .t (.c (.d (.sl 1 (cs.map intD))))), (13, vi .i64 (cs.length : Int)), (14, vi .i64 0)] [(5, .box [.d (.raw nilV), .d (.raw (.bool false)), .d (nsl []), .d (.raw (.bool false))]), (6, .box ([.own 7 0] ++ zi r1 ++ [.d (.raw (.bool false))])), (7, .row 57 3 ([].map Part.d))] (by kernel_rfl) h ?_; clear h; intro a w h
 refine wp_block ?_
 replace h := h.conv (f' := F.of [(4, vp 5 0), (5, vp 6 0), (12, .t (.c (.d (.sl 1 (cs.map intD))))), (13, vi .i64 (cs.length : Int)), (14, vi .i64 0)] [(5, .box [.d (.raw nilV), .d (.raw (.bool false)), .d (nsl []), .d (.raw (.bool false))]), (6, .box ([.own 7 0] ++ zi r1 ++ [.d (.raw (.bool false))])), (7, .row 57 3 ((ofP7 (cs.take 0) 0).map Part.d))]) (congrArg (fun (z_ : List Part) => F.of [(4, vp 5 0), (5, vp 6 0), (12, .t (.c (.d (.sl 1 (cs.map intD))))), (13, vi .i64 (cs.length : Int)), (14, vi .i64 0)] [(5, .box [.d (.raw nilV), .d (.raw (.bool false)), .d (nsl []), .d (.raw (.bool false))]), (6, .box ([.own 7 0] ++ zi r1 ++ [.d (.raw (.bool false))])), (7, .row 57 3 (z_.map Part.d))]) (show ([] : List Part) = (ofP7 (cs.take 0) 0) from rfl))
 refine loopS (ι := (Nat)) (fun (z_ : (Nat)) => match z_ with | j => j ≤ cs.length)
   (fun (z_ : (Nat)) => match z_ with | j => [(4, vp 5 0), (5, vp 6 0), (12, .t (.c (.d (.sl 1 (cs.map intD))))), (13, vi .i64 (cs.length : Int)), (14, vi .i64 (j : Int))])
   (fun (z_ : (Nat)) => match z_ with | j => [(5, .box [.d (.raw nilV), .d (.raw (.bool false)), .d (nsl []), .d (.raw (.bool false))]), (6, .box ([.own 7 (ofP7 (cs.take j) 0).length] ++ zi r1 ++ [.d (.raw (.bool false))])), (7, .row 57 3 ((ofP7 (cs.take j) 0).map Part.d))])
   (fun (z_ : (Nat)) => match z_ with | j => cs.length - j) 0 ?_ h (by kernel_rfl) (by kernel_rfl) ?_
 ·exact Nat.zero_le _
 ·clear h; rintro j a w hI h
  change St _ (F.of [(4, vp 5 0), (5, vp 6 0), (12, .t (.c (.d (.sl 1 (cs.map intD))))), (13, vi .i64 (cs.length : Int)), (14, vi .i64 (j : Int))] [(5, .box [.d (.raw nilV), .d (.raw (.bool false)), .d (nsl []), .d (.raw (.bool false))]), (6, .box ([.own 7 (ofP7 (cs.take j) 0).length] ++ zi r1 ++ [.d (.raw (.bool false))])), (7, .row 57 3 ((ofP7 (cs.take j) 0).map Part.d))]) a w at h
  have ol := ofP7_len (cs.take j) 0
  rw [List.length_take] at ol
  refine rSeq fam0ok 8 [] [(4, vp 5 0), (5, vp 6 0), (12, .t (.c (.d (.sl 1 (cs.map intD))))), (13, vi .i64 (cs.length : Int)), (14, vi .i64 (j : Int)), (15, vb (decide ((j : Int) < (cs.length : Int))))] [(5, .box [.d (.raw nilV), .d (.raw (.bool false)), .d (nsl []), .d (.raw (.bool false))]), (6, .box ([.own 7 (ofP7 (cs.take j) 0).length] ++ zi r1 ++ [.d (.raw (.bool false))])), (7, .row 57 3 ((ofP7 (cs.take j) 0).map Part.d))] (by kernel_rfl) h ?_; clear h; intro a w h
  refine wp_seq ?_
  refine condS (decide ((j : Int) < (cs.length : Int))) h rfl (fun hc => ?_) (fun hc => ?_)
  ·have hc1 := hc; clear hc
   have hc1' := of_decide_eq_true hc1
   refine wp_skip ?_
   refine then_n ?_
   refine wp_seq ?_
   refine wp_block ?_
   obtain ⟨x2, hx2⟩ : ∃ z_ : Int, cs[j]? = some z_ := ⟨_, List.getElem?_eq_getElem (by first | omega | (simp at *; omega))⟩
   have bx2 := hc x2 (List.mem_of_getElem? hx2)
   refine rSeq fam0ok 8 [(1, .gen _ _ _ fun _ _ _ _ => Op.idxD (d := 17) (t := 12) (k := .i64) tn_1 (map_at hx2 (f := intD)) (OV.tmp 14 _))] [(4, vp 5 0), (5, vp 6 0), (6, vi .i64 (j : Int)), (7, vi .i64 x2), (12, .t (.c (.d (.sl 1 (cs.map intD))))), (13, vi .i64 (cs.length : Int)), (14, vi .i64 (j : Int))] [(5, .box [.d (.raw nilV), .d (.raw (.bool false)), .d (nsl []), .d (.raw (.bool false))]), (6, .box ([.own 7 (ofP7 (cs.take j) 0).length] ++ zi r1 ++ [.d (.raw (.bool false))])), (7, .row 57 3 ((ofP7 (cs.take j) 0).map Part.d))] (by kernel_rfl) h ?_; clear h; intro a w h
   refine rSeq fam0ok 8 [] [(4, vp 5 0), (5, vp 6 0), (6, vi .i64 (j : Int)), (7, vi .i64 x2), (12, .t (.c (.d (.sl 1 (cs.map intD))))), (13, vi .i64 (cs.length : Int)), (14, vi .i64 (j : Int)), (20, vb (x2 != 0))] [(5, .box [.d (.raw nilV), .d (.raw (.bool false)), .d (nsl []), .d (.raw (.bool false))]), (6, .box ([.own 7 (ofP7 (cs.take j) 0).length] ++ zi r1 ++ [.d (.raw (.bool false))])), (7, .row 57 3 ((ofP7 (cs.take j) 0).map Part.d))] (by kernel_rfl) h ?_; clear h; intro a w h
   refine condS (x2 != 0) h rfl (fun hc => ?_) (fun hc => ?_)
   ·have hc2 := hc; clear hc
    have hc2' := hc2; (try simp at hc2')
    obtain ⟨r3, er3, vr3, or3, lr3⟩ := mkZ (v := x2) (m := 2) (small_len ⟨by omega, by omega⟩)
    refine rS fam0ok 8 [(5, .call (Fn.cast (SROf x2 ⟨by omega, by omega⟩) (congrArg vz er3.symm)) tc_0), (7, .gen _ _ _ fun _ _ _ _ => Op.buildD (d := 28) (len := 1) (rows := [(Part.mk (j : Int) r3)].map Part.d) (rs := [(27, .t (.agg ([.d (.raw (.int .i64 (j : Int)))] ++ zi r3)))]) tb_9 (.cons (i := 0) (OV.tmp 27 _) (.nil)) (by kernel_rfl) rfl (by simp [Part.d]) (by decide) (by decide)), (8, .gen _ _ _ fun _ _ _ _ => Op.appOD (d := 29) (t := 23) (u := 28) (n := 7) (n' := 8) (len := (ofP7 (cs.take j) 0).length) (len' := ((ofP7 (cs.take j) 0) ++ [(Part.mk (j : Int) r3)]).length) (rows := (ofP7 (cs.take j) 0).map Part.d) (rows2 := [(Part.mk (j : Int) r3)].map Part.d) (rows' := ((ofP7 (cs.take j) 0) ++ [(Part.mk (j : Int) r3)]).map Part.d) tb_10 (by first | exact (List.length_map _).symm | simp) (by first | (rw [List.length_append, List.length_map]; done) | simp) (by simp) (by simp [Part.d]) (by first | omega | (simp at *; done) | (simp at *; omega)))] [(4, vp 5 0), (5, vp 6 0), (12, .t (.c (.d (.sl 1 (cs.map intD))))), (13, vi .i64 (cs.length : Int)), (14, vi .i64 (j : Int))] [(5, .box [.d (.raw nilV), .d (.raw (.bool false)), .d (nsl []), .d (.raw (.bool false))]), (6, .box ([.own 8 ((ofP7 (cs.take j) 0) ++ [(Part.mk (j : Int) r3)]).length] ++ zi r1 ++ [.d (.raw (.bool false))])), (8, .row 57 3 (((ofP7 (cs.take j) 0) ++ [(Part.mk (j : Int) r3)]).map Part.d))] (by kernel_rfl) h ?_; clear h; intro a w h
    refine block_n ?_
    refine then_n ?_
    refine rS fam0ok 9 [(0, .add .i64 (m := (j : Int)) (n := 1) (i64_id (by omega) (by omega)))] [(4, vp 5 0), (5, vp 6 0), (12, .t (.c (.d (.sl 1 (cs.map intD))))), (13, vi .i64 (cs.length : Int)), (14, vi .i64 ((j : Int) + 1))] [(5, .box [.d (.raw nilV), .d (.raw (.bool false)), .d (nsl []), .d (.raw (.bool false))]), (6, .box ([.own 8 ((ofP7 (cs.take j) 0) ++ [(Part.mk (j : Int) r3)]).length] ++ zi r1 ++ [.d (.raw (.bool false))])), (8, .row 57 3 (((ofP7 (cs.take j) 0) ++ [(Part.mk (j : Int) r3)]).map Part.d))] (by kernel_rfl) h ?_; clear h; intro a w h
    refine then_n ?_
    replace h := h.conv (f' := F.of [(4, vp 5 0), (5, vp 6 0), (12, .t (.c (.d (.sl 1 (cs.map intD))))), (13, vi .i64 (cs.length : Int)), (14, vi .i64 ((j : Int) + 1))] [(5, .box [.d (.raw nilV), .d (.raw (.bool false)), .d (nsl []), .d (.raw (.bool false))]), (6, .box ([.own 8 (ofP7 (cs.take (j + 1)) 0).length] ++ zi r1 ++ [.d (.raw (.bool false))])), (8, .row 57 3 ((ofP7 (cs.take (j + 1)) 0).map Part.d))]) (congrArg (fun (z_ : List Part) => F.of [(4, vp 5 0), (5, vp 6 0), (12, .t (.c (.d (.sl 1 (cs.map intD))))), (13, vi .i64 (cs.length : Int)), (14, vi .i64 ((j : Int) + 1))] [(5, .box [.d (.raw nilV), .d (.raw (.bool false)), .d (nsl []), .d (.raw (.bool false))]), (6, .box ([.own 8 z_.length] ++ zi r1 ++ [.d (.raw (.bool false))])), (8, .row 57 3 (z_.map Part.d))]) (show (((ofP7 (cs.take j) 0) ++ [(Part.mk (j : Int) r3)]) : List Part) = (ofP7 (cs.take (j + 1)) 0) from (by rw [ofP7_take hx2, if_pos (by simpa using hc2), er3])))
    replace h := renS 8 7 [(4, vp 5 0), (5, vp 6 0), (12, .t (.c (.d (.sl 1 (cs.map intD))))), (13, vi .i64 (cs.length : Int)), (14, vi .i64 ((j : Int) + 1))] [(5, .box [.d (.raw nilV), .d (.raw (.bool false)), .d (nsl []), .d (.raw (.bool false))]), (6, .box ([.own 7 (ofP7 (cs.take (j + 1)) 0).length] ++ zi r1 ++ [.d (.raw (.bool false))])), (7, .row 57 3 ((ofP7 (cs.take (j + 1)) 0).map Part.d))] h (by kernel_rfl) (by kernel_rfl) (by kernel_rfl)
    refine roundS (x := j) (y := j + 1) h ?_ ?_ (by kernel_rfl) (by kernel_rfl)
    ·have := at_lt hx2
     show j + 1 ≤ cs.length
     omega
    ·show cs.length - (j + 1) < cs.length - j
     have := at_lt hx2; omega
   ·have hc3 := hc; clear hc
    have hc3' := hc3; (try simp at hc3')
    refine wp_skip ?_
    refine block_n ?_
    refine then_n ?_
    refine rS fam0ok 9 [(0, .add .i64 (m := (j : Int)) (n := 1) (i64_id (by omega) (by omega)))] [(4, vp 5 0), (5, vp 6 0), (12, .t (.c (.d (.sl 1 (cs.map intD))))), (13, vi .i64 (cs.length : Int)), (14, vi .i64 ((j : Int) + 1))] [(5, .box [.d (.raw nilV), .d (.raw (.bool false)), .d (nsl []), .d (.raw (.bool false))]), (6, .box ([.own 7 (ofP7 (cs.take j) 0).length] ++ zi r1 ++ [.d (.raw (.bool false))])), (7, .row 57 3 ((ofP7 (cs.take j) 0).map Part.d))] (by kernel_rfl) h ?_; clear h; intro a w h
    refine then_n ?_
    replace h := h.conv (f' := F.of [(4, vp 5 0), (5, vp 6 0), (12, .t (.c (.d (.sl 1 (cs.map intD))))), (13, vi .i64 (cs.length : Int)), (14, vi .i64 ((j : Int) + 1))] [(5, .box [.d (.raw nilV), .d (.raw (.bool false)), .d (nsl []), .d (.raw (.bool false))]), (6, .box ([.own 7 (ofP7 (cs.take (j + 1)) 0).length] ++ zi r1 ++ [.d (.raw (.bool false))])), (7, .row 57 3 ((ofP7 (cs.take (j + 1)) 0).map Part.d))]) (congrArg (fun (z_ : List Part) => F.of [(4, vp 5 0), (5, vp 6 0), (12, .t (.c (.d (.sl 1 (cs.map intD))))), (13, vi .i64 (cs.length : Int)), (14, vi .i64 ((j : Int) + 1))] [(5, .box [.d (.raw nilV), .d (.raw (.bool false)), .d (nsl []), .d (.raw (.bool false))]), (6, .box ([.own 7 z_.length] ++ zi r1 ++ [.d (.raw (.bool false))])), (7, .row 57 3 (z_.map Part.d))]) (show ((ofP7 (cs.take j) 0) : List Part) = (ofP7 (cs.take (j + 1)) 0) from (by rw [ofP7_take hx2, if_neg (by simpa using hc3), List.append_nil])))
    refine roundS (x := j) (y := j + 1) h ?_ ?_ (by kernel_rfl) (by kernel_rfl)
    ·have := at_lt hx2
     show j + 1 ≤ cs.length
     omega
    ·show cs.length - (j + 1) < cs.length - j
     have := at_lt hx2; omega
  ·have hc4 := hc; clear hc
   have hc4' := of_decide_eq_false hc4
   refine wp_exit ?_
   refine then_x ?_
   refine then_x ?_
   refine inBlock_exit ?_
   refine then_n ?_
   refine rSeq fam0ok 9 [] [(4, vp 5 0)] [(5, .box ([.own 7 (ofP7 (cs.take j) 0).length] ++ zi r1 ++ [.d (.raw (.bool false))])), (7, .row 57 3 ((ofP7 (cs.take j) 0).map Part.d))] (by kernel_rfl) h ?_; clear h; intro a w h
   refine wp_ret ?_
   replace h := h.conv (f' := F.of [(4, vp 5 0)] [(5, .box ([.own 7 (ofP7 cs 0).length] ++ zi r1 ++ [.d (.raw (.bool false))])), (7, .row 57 3 ((ofP7 cs 0).map Part.d))]) (congrArg (fun (z_ : List Part) => F.of [(4, vp 5 0)] [(5, .box ([.own 7 z_.length] ++ zi r1 ++ [.d (.raw (.bool false))])), (7, .row 57 3 (z_.map Part.d))]) (show ((ofP7 (cs.take j) 0) : List Part) = (ofP7 cs 0) from (by rw [List.take_of_length_le (by omega)])))
   replace h := pubS 7 3 57 ((ofP7 cs 0).map Part.d) [(4, vp 5 0)] [(5, .box ([.d (.sl 3 ((ofP7 cs 0).map Part.d))] ++ zi r1 ++ [.d (.raw (.bool false))]))] h rfl trivial (show AllEq _ [(ofP7 cs 0).length] from ⟨by first | exact (List.length_map _).symm | (simp; done) | (simp; omega), trivial⟩) (by kernel_rfl) (by kernel_rfl)
   refine retS [.agg ([.d (.sl 3 ((ofP7 cs 0).map Part.d))] ++ zi r1 ++ [.d (.raw (.bool false))])] h Exit.ret (.inl rfl)  rfl ⟨RV.agg _ 5 0 _ _ _ _ ha_1 rfl rfl rfl rfl, trivial⟩ ?_ (by kernel_rfl) (by kernel_rfl)
   first | rfl | (rw [er1]; first | done | rfl)
end Go.Proofs.YtoklkfmffmonoaaGreat.S
end
section
namespace Go.Proofs.YtoklkfmffmonoaaGreat.S
open Go.RowKit

end Go.Proofs.YtoklkfmffmonoaaGreat.S
end
section
namespace Go.Proofs.YtoklkfmffmonoaaGreat.S
open Go.RowKit

end Go.Proofs.YtoklkfmffmonoaaGreat.S
end
section
namespace Go.Proofs.YtoklkfmffmonoaaGreat.S
open Go.RowKit

end Go.Proofs.YtoklkfmffmonoaaGreat.S
end
section
namespace Go.Proofs.YtoklkfmffmonoaaGreat.S
open Go.RowKit

section
variable {w : World} {n : Nat}
theorem rep_Rel : RepN w n 45 RelD.d (fun r => TLb r.t) :=
 ((rep_struct (n := n) Tryz.underlying45 (by kernel_rfl) (.cons (k0 := 3) rfl (by kernel_rfl) rep_Term (.cons (k0 := 1) rfl (by kernel_rfl) (rep_bool Tryz.underlying4) .nil))).map (fun p => ⟨p.1, p.2.1⟩) (fun _ => rfl) fun _ h => h.1).mono (Nat.le_succ n)
end
end Go.Proofs.YtoklkfmffmonoaaGreat.S
end
section
namespace Go.Proofs.YtoklkfmffmonoaaGreat.S
open Go.RowKit

section
variable {w : World} {n : Nat}
theorem rep_Rels : RepN w n 22 (slD 4 RelD.d) (fun xs => xs.length ≤ maxLen ∧ ∀ x ∈ xs, TLb x.t) :=
 rep_slice (k := 4) Tryz.underlying22 (by kernel_rfl) (by decide) (fun _ => rfl) rep_Rel
end
end Go.Proofs.YtoklkfmffmonoaaGreat.S
end
section
namespace Go.Proofs.YtoklkfmffmonoaaGreat.S
open Go.RowKit

theorem hg_5 : Bodied Tryz.prog 43 := Bodied.mk' (by kernel_rfl)
def RkOk (r : RelD) : Prop := TOk 200 200 r.t
theorem RkOk.of {L n : Nat} {r : RelD} (h : TOk n L r.t) (hn : n ≤ 200) (hL : L ≤ 200) : RkOk r := h.mono hn hL
set_option maxHeartbeats 4000000 in
theorem SR4Same (r : RelD) (hr : RkOk r) : Fn Tryz.prog 43 [] [.t (.agg ([.d (.sl 3 (r.t.parts.map Part.d))] ++ zi r.t.k ++ [.d (.raw (.bool r.eq))])), .t (.agg ([.d (.sl 3 (r.t.parts.map Part.d))] ++ zi r.t.k ++ [.d (.raw (.bool r.eq))]))] (vb true) [] := by
 refine Fn.body Tryz.func43 rfl 17 rfl fun w H B a h => ?_
 refine rSeq fam0ok 0 [] [(2, vp 0 0), (3, vp 1 0), (4, vb false)] [(0, .box ([.d (.sl 3 (r.t.parts.map Part.d))] ++ zi r.t.k ++ [.d (.raw (.bool r.eq))])), (1, .box ([.d (.sl 3 (r.t.parts.map Part.d))] ++ zi r.t.k ++ [.d (.raw (.bool r.eq))]))] (by kernel_rfl) h ?_; clear h; intro a w h
 refine rSeq fam0ok 2 [(4, .cmpb .eql (m := r.eq) (n := r.eq) (b := true) (.inl ⟨rfl, (show (r.eq == r.eq) = true from by simp).symm⟩)), (10, .call (SRTSame r.t (n := 200) (L := 200) hr (by decide)) tn_5)] [(4, vb true)] [] (by kernel_rfl) h ?_; clear h; intro a w h
 refine wp_ret ?_
 refine retS [.c (.d (.raw (.bool true)))] h Exit.ret (.inl rfl)  rfl ⟨RV.tmp _ _ rfl, trivial⟩ ?_ (by kernel_rfl) (by kernel_rfl)
 first | rfl | (cases r.eq <;> rfl)
set_option maxHeartbeats 4000000 in
theorem SRSameAll (rs : List RelD) (hrk : ∀ r ∈ rs, RkOk r) (hl : rs.length ≤ 9223372036854775807) : Fn Tryz.prog 18 [] [.t (.c (.d (.sl 4 (rs.map RelD.d)))), .t (.c (.d (.sl 4 (rs.map RelD.d))))] (vb true) [] := by
 refine Fn.body Tryz.func18 rfl 27 rfl fun w H B a h => ?_
 refine rSeq fam0ok 0 [] [(0, .t (.c (.d (.sl 4 (rs.map RelD.d))))), (1, .t (.c (.d (.sl 4 (rs.map RelD.d))))), (4, vb false)] [] (by kernel_rfl) h ?_; clear h; intro a w h
 refine wp_seq ?_
 refine rSeq fam0ok 0 [(1, .len (c := (.d (.sl 4 (rs.map RelD.d)))) (n := rs.length) (lenC_map _ _ _)), (3, .len (c := (.d (.sl 4 (rs.map RelD.d)))) (n := rs.length) (lenC_map _ _ _)), (4, .cmp (op := .neq) (m := (rs.length : Int)) (n := (rs.length : Int)) (b := false) .i64 (show ((rs.length : Int) != (rs.length : Int)) = false from by simp))] [(0, .t (.c (.d (.sl 4 (rs.map RelD.d))))), (1, .t (.c (.d (.sl 4 (rs.map RelD.d))))), (4, vb false), (10, vb false)] [] (by kernel_rfl) h ?_; clear h; intro a w h
 refine condS false h rfl (fun hc => ?_) (fun hc => ?_)
 ·cases hc
 ·clear hc
  refine wp_skip ?_
  refine then_n ?_
  refine wp_seq ?_
  refine rSeq fam0ok 0 [] [(0, .t (.c (.d (.sl 4 (rs.map RelD.d))))), (1, .t (.c (.d (.sl 4 (rs.map RelD.d))))), (4, vb false), (5, vi .i64 0)] [] (by kernel_rfl) h ?_; clear h; intro a w h
  refine wp_block ?_
  refine loopS (ι := (Nat)) (fun (z_ : (Nat)) => match z_ with | j => j ≤ rs.length)
    (fun (z_ : (Nat)) => match z_ with | j => [(0, .t (.c (.d (.sl 4 (rs.map RelD.d))))), (1, .t (.c (.d (.sl 4 (rs.map RelD.d))))), (5, vi .i64 (j : Int))])
    (fun (z_ : (Nat)) => match z_ with | j => [])
    (fun (z_ : (Nat)) => match z_ with | j => rs.length - j) 0 ?_ h (by kernel_rfl) (by kernel_rfl) ?_
  ·exact Nat.zero_le _
  ·clear h; rintro j a w hI h
   change St _ (F.of [(0, .t (.c (.d (.sl 4 (rs.map RelD.d))))), (1, .t (.c (.d (.sl 4 (rs.map RelD.d))))), (5, vi .i64 (j : Int))] []) a w at h
   refine wp_seq ?_
   refine rSeq fam0ok 0 [(2, .len (c := (.d (.sl 4 (rs.map RelD.d)))) (n := rs.length) (lenC_map _ _ _))] [(0, .t (.c (.d (.sl 4 (rs.map RelD.d))))), (1, .t (.c (.d (.sl 4 (rs.map RelD.d))))), (5, vi .i64 (j : Int)), (14, vb (decide ((j : Int) < (rs.length : Int))))] [] (by kernel_rfl) h ?_; clear h; intro a w h
   refine condS (decide ((j : Int) < (rs.length : Int))) h rfl (fun hc => ?_) (fun hc => ?_)
   ·have hc1 := hc; clear hc
    have hc1' := of_decide_eq_true hc1
    refine wp_skip ?_
    refine then_n ?_
    refine wp_seq ?_
    refine wp_block ?_
    obtain ⟨x1, hx1⟩ : ∃ z_ : RelD, rs[j]? = some z_ := ⟨_, List.getElem?_eq_getElem (by first | omega | (simp at *; omega))⟩
    refine rSeq fam0ok 0 [(2, .gen _ _ _ fun _ _ _ _ => Op.idxD (d := 19) (t := 17) (k := .i64) kc_3 (map_at hx1 (f := RelD.d)) (OV.tmp 18 _)), (6, .gen _ _ _ fun _ _ _ _ => Op.idxD (d := 23) (t := 21) (k := .i64) kc_3 (map_at hx1 (f := RelD.d)) (OV.tmp 22 _)), (8, .call (SR4Same x1 (hrk x1 (List.mem_of_getElem? hx1))) hg_5)] [(0, .t (.c (.d (.sl 4 (rs.map RelD.d))))), (1, .t (.c (.d (.sl 4 (rs.map RelD.d))))), (5, vi .i64 (j : Int)), (26, vb false)] [] (by kernel_rfl) h ?_; clear h; intro a w h
    refine condS false h rfl (fun hc => ?_) (fun hc => ?_)
    ·cases hc
    ·clear hc
     refine wp_skip ?_
     refine block_n ?_
     refine then_n ?_
     refine rS fam0ok 0 [(1, .add .i64 (m := (j : Int)) (n := 1) (i64_id (by omega) (by omega)))] [(0, .t (.c (.d (.sl 4 (rs.map RelD.d))))), (1, .t (.c (.d (.sl 4 (rs.map RelD.d))))), (5, vi .i64 ((j : Int) + 1))] [] (by kernel_rfl) h ?_; clear h; intro a w h
     refine then_n ?_
     refine roundS (x := j) (y := j + 1) h ?_ ?_ (by kernel_rfl) (by kernel_rfl)
     ·have := at_lt hx1
      show j + 1 ≤ rs.length
      omega
     ·show rs.length - (j + 1) < rs.length - j
      have := at_lt hx1; omega
   ·have hc2 := hc; clear hc
    have hc2' := of_decide_eq_false hc2
    refine wp_exit ?_
    refine then_x ?_
    refine then_x ?_
    refine inBlock_exit ?_
    refine then_n ?_
    refine rSeq fam0ok 0 [] [(4, vb true)] [] (by kernel_rfl) h ?_; clear h; intro a w h
    refine wp_ret ?_
    refine retS [.c (.d (.raw (.bool true)))] h Exit.ret (.inl rfl)  rfl ⟨RV.tmp _ _ rfl, trivial⟩ ?_ (by kernel_rfl) (by kernel_rfl)
    rfl
theorem SRSameAll2 {rs qs : List RelD} (e : qs = rs) (hrk : ∀ r ∈ rs, RkOk r) (hl : rs.length ≤ 9223372036854775807) : Fn Tryz.prog 18 [] [.t (.c (.d (.sl 4 (qs.map RelD.d)))), .t (.c (.d (.sl 4 (rs.map RelD.d))))] (vb true) [] := by subst e; exact SRSameAll qs hrk hl
end Go.Proofs.YtoklkfmffmonoaaGreat.S
end
section
namespace Go.Proofs.YtoklkfmffmonoaaGreat.S
open Go.RowKit

theorem hv_2 : Bodied Tryz.prog 44 := Bodied.mk' (by kernel_rfl)
theorem hv_4 : Bodied Tryz.prog 45 := Bodied.mk' (by kernel_rfl)
theorem hv_5 : Bodied Tryz.prog 46 := Bodied.mk' (by kernel_rfl)
theorem hv_9 : Bodied Tryz.prog 47 := Bodied.mk' (by kernel_rfl)
def varsAll (rs : List RelD) : List Int := rs.flatMap fun r => varsZ r.t.parts
def stepCh (rs : List RelD) (st : Int × Bool × Int) (x : Int) : Int × Bool × Int := if (decide (st.1 < 0) || (exactS (splitS rs x) && !st.2.1) || ((exactS (splitS rs x) == st.2.1) && decide ((((lowsOf rs x).length * (highsOf rs x).length : Nat) : Int) < st.2.2))) = true then (x, exactS (splitS rs x), (((lowsOf rs x).length * (highsOf rs x).length : Nat) : Int)) else st
def chooseSt (rs : List RelD) : Int × Bool × Int := (uniZ (varsAll rs)).foldl (stepCh rs) (-1, false, 0)
theorem fold_at {α β : Type} {f : β → α → β} {u : List α} {i : Nat} {x : α} {z : β} (h : u[i]? = some x) : (u.take (i + 1)).foldl f z = f ((u.take i).foldl f z) x := by
 rw [List.take_add_one, h, List.foldl_append]; rfl
theorem cost_le {rs : List RelD} (h : RsOk rs) (v : Int) : (lowsOf rs v).length * (highsOf rs v).length ≤ 400 := Nat.mul_le_mul (lows_len h v) (highs_len h v)
theorem varsAll_len {rs : List RelD} (h : ∀ r ∈ rs, TokR 8 r) : (varsAll rs).length ≤ rs.length * 20 := by
 unfold varsAll
 induction rs with
 | nil => simp
 | cons r rs ih =>
  rw [List.flatMap_cons, List.length_append, List.length_cons, Nat.add_mul]
  have h1 := ih (fun q hq => h q (List.mem_cons_of_mem _ hq))
  have h2 := varsZ_len r.t.parts
  have h3 := (h r (List.mem_cons_self ..)).len
  omega
theorem mem_take {α : Type} {xs : List α} {n : Nat} {x : α} (h : x ∈ xs.take n) : x ∈ xs := List.mem_of_mem_take h
set_option maxHeartbeats 4000000 in
theorem SRelVars (r : RelD) (hr : TOk 20 8 r.t) : Fn Tryz.prog 44 [] [.t (.agg ([.d (.sl 3 (r.t.parts.map Part.d))] ++ zi r.t.k ++ [.d (.raw (.bool r.eq))]))] (.t (.c (.d (.sl 1 ((varsZ r.t.parts).map intD))))) [] := by
 refine Fn.body Tryz.func44 rfl 6 rfl fun w H B a h => ?_
 refine rSeq fam0ok 0 [] [(1, vp 0 0), (2, .t (.c (.d (.raw nilV))))] [(0, .box ([.d (.sl 3 (r.t.parts.map Part.d))] ++ zi r.t.k ++ [.d (.raw (.bool r.eq))]))] (by kernel_rfl) h ?_; clear h; intro a w h
 refine rSeq fam0ok 1 [(2, .call (STVars r.t hr (by decide) (by decide)) ty_3)] [(2, .t (.c (.d (.sl 1 ((varsZ r.t.parts).map intD)))))] [] (by kernel_rfl) h ?_; clear h; intro a w h
 refine wp_ret ?_
 refine retS [.c (.d (.sl 1 ((varsZ r.t.parts).map intD)))] h Exit.ret (.inl rfl)  rfl ⟨RV.tmp _ _ rfl, trivial⟩ ?_ (by kernel_rfl) (by kernel_rfl)
 rfl
set_option maxHeartbeats 4000000 in
theorem SChoose (rs : List RelD) (hrs : RsOk rs) : Fn Tryz.prog 16 [] [.t (.c (.d (.sl 4 (rs.map RelD.d))))] (.tup [.c (.d (.raw (.int .i64 (chooseSt rs).1))), .c (.d (.raw (.bool (chooseSt rs).2.1)))]) [] := by
 have lrs := hrs.1
 refine Fn.body Tryz.func16 rfl 70 rfl fun w H B a h => ?_
 refine rSeq fam0ok 5 [] [(0, .t (.c (.d (.sl 4 (rs.map RelD.d))))), (2, vi .i64 0), (3, vb false)] [] (by kernel_rfl) h ?_; clear h; intro a w h
 refine rSeq fam0ok 5 [] [(0, .t (.c (.d (.sl 4 (rs.map RelD.d))))), (2, vi .i64 0), (3, vb false), (4, .t (.c (.d (.raw nilV))))] [] (by kernel_rfl) h ?_; clear h; intro a w h
 refine wp_seq ?_
 replace h := nilOSs 4 0 5 1 3 (.t (.c (.d (.raw nilV)))) [(0, .t (.c (.d (.sl 4 (rs.map RelD.d))))), (2, vi .i64 0), (3, vb false), (4, .t (.c (.own 5 0)))] [(5, .row 3 1 ([].map intD))] h (by kernel_rfl) rfl rfl (by kernel_rfl) (by kernel_rfl)
 refine rSeq fam0ok 6 [(1, .len (c := (.d (.sl 4 (rs.map RelD.d)))) (n := rs.length) (lenC_map _ _ _))] [(0, .t (.c (.d (.sl 4 (rs.map RelD.d))))), (2, vi .i64 0), (3, vb false), (4, .t (.c (.own 5 0))), (13, .t (.c (.d (.sl 4 (rs.map RelD.d))))), (14, vi .i64 (rs.length : Int)), (15, vi .i64 0)] [(5, .row 3 1 ([].map intD))] (by kernel_rfl) h ?_; clear h; intro a w h
 refine wp_block ?_
 replace h := h.conv (f' := F.of [(0, .t (.c (.d (.sl 4 (rs.map RelD.d))))), (2, vi .i64 0), (3, vb false), (4, .t (.c (.own 5 0))), (13, .t (.c (.d (.sl 4 (rs.map RelD.d))))), (14, vi .i64 (rs.length : Int)), (15, vi .i64 0)] [(5, .row 3 1 (((rs.take 0).flatMap fun r => varsZ r.t.parts).map intD))]) (congrArg (fun (z_ : List Int) => F.of [(0, .t (.c (.d (.sl 4 (rs.map RelD.d))))), (2, vi .i64 0), (3, vb false), (4, .t (.c (.own 5 0))), (13, .t (.c (.d (.sl 4 (rs.map RelD.d))))), (14, vi .i64 (rs.length : Int)), (15, vi .i64 0)] [(5, .row 3 1 (z_.map intD))]) (show ([] : List Int) = ((rs.take 0).flatMap fun r => varsZ r.t.parts) from (by simp)))
 refine loopS (ι := (Nat)) (fun (z_ : (Nat)) => match z_ with | j => j ≤ rs.length)
   (fun (z_ : (Nat)) => match z_ with | j => [(0, .t (.c (.d (.sl 4 (rs.map RelD.d))))), (2, vi .i64 0), (3, vb false), (4, .t (.c (.own 5 ((rs.take j).flatMap fun r => varsZ r.t.parts).length))), (13, .t (.c (.d (.sl 4 (rs.map RelD.d))))), (14, vi .i64 (rs.length : Int)), (15, vi .i64 (j : Int))])
   (fun (z_ : (Nat)) => match z_ with | j => [(5, .row 3 1 (((rs.take j).flatMap fun r => varsZ r.t.parts).map intD))])
   (fun (z_ : (Nat)) => match z_ with | j => rs.length - j) 0 ?_ h (by kernel_rfl) (by kernel_rfl) ?_
 ·exact Nat.zero_le _
 ·clear h; rintro j a w hI h
  change St _ (F.of [(0, .t (.c (.d (.sl 4 (rs.map RelD.d))))), (2, vi .i64 0), (3, vb false), (4, .t (.c (.own 5 ((rs.take j).flatMap fun r => varsZ r.t.parts).length))), (13, .t (.c (.d (.sl 4 (rs.map RelD.d))))), (14, vi .i64 (rs.length : Int)), (15, vi .i64 (j : Int))] [(5, .row 3 1 (((rs.take j).flatMap fun r => varsZ r.t.parts).map intD))]) a w at h
  have lvj : ((rs.take j).flatMap fun r => varsZ r.t.parts).length ≤ 400 := Nat.le_trans (varsAll_len (fun r hr => hrs.2 r (mem_take hr))) (by rw [List.length_take]; omega)
  refine rSeq fam0ok 6 [] [(0, .t (.c (.d (.sl 4 (rs.map RelD.d))))), (2, vi .i64 0), (3, vb false), (4, .t (.c (.own 5 ((rs.take j).flatMap fun r => varsZ r.t.parts).length))), (13, .t (.c (.d (.sl 4 (rs.map RelD.d))))), (14, vi .i64 (rs.length : Int)), (15, vi .i64 (j : Int)), (16, vb (decide ((j : Int) < (rs.length : Int))))] [(5, .row 3 1 (((rs.take j).flatMap fun r => varsZ r.t.parts).map intD))] (by kernel_rfl) h ?_; clear h; intro a w h
  refine wp_seq ?_
  refine condS (decide ((j : Int) < (rs.length : Int))) h rfl (fun hc => ?_) (fun hc => ?_)
  ·have hc1 := hc; clear hc
   have hc1' := of_decide_eq_true hc1
   refine wp_skip ?_
   refine then_n ?_
   refine wp_seq ?_
   refine wp_block ?_
   obtain ⟨x1, hx1⟩ : ∃ z_ : RelD, rs[j]? = some z_ := ⟨_, List.getElem?_eq_getElem (by first | omega | (simp at *; omega))⟩
   have gx1 : TOk 20 8 x1.t := hrs.2 x1 (List.mem_of_getElem? hx1)
   have lvxx1 : (varsZ x1.t.parts).length ≤ 20 := Nat.le_trans (varsZ_len _) gx1.len
   refine rSeq fam0ok 6 [(0, .gen _ _ _ fun _ _ _ _ => Op.idxD (d := 17) (t := 13) (k := .i64) kc_3 (map_at hx1 (f := RelD.d)) (OV.tmp 15 _))] [(0, .t (.c (.d (.sl 4 (rs.map RelD.d))))), (2, vi .i64 0), (3, vb false), (4, .t (.c (.own 5 ((rs.take j).flatMap fun r => varsZ r.t.parts).length))), (6, vp 6 0), (13, .t (.c (.d (.sl 4 (rs.map RelD.d))))), (14, vi .i64 (rs.length : Int)), (15, vi .i64 (j : Int))] [(5, .row 3 1 (((rs.take j).flatMap fun r => varsZ r.t.parts).map intD)), (6, .box ([.d (.sl 3 (x1.t.parts.map Part.d))] ++ zi x1.t.k ++ [.d (.raw (.bool x1.eq))]))] (by kernel_rfl) h ?_; clear h; intro a w h
   refine rS fam0ok 7 [(2, .call (SRelVars x1 gx1) hv_2), (3, .gen _ _ _ fun _ _ _ _ => Op.appOD (d := 22) (t := 19) (u := 21) (n := 5) (n' := 7) (len := ((rs.take j).flatMap fun r => varsZ r.t.parts).length) (len' := (((rs.take j).flatMap fun r => varsZ r.t.parts) ++ (varsZ x1.t.parts)).length) (rows := ((rs.take j).flatMap fun r => varsZ r.t.parts).map intD) (rows2 := (varsZ x1.t.parts).map intD) (rows' := (((rs.take j).flatMap fun r => varsZ r.t.parts) ++ (varsZ x1.t.parts)).map intD) tb_2 (by first | exact (List.length_map _).symm | simp) (by first | (rw [List.length_append, List.length_map]; done) | simp) (by simp) (by simp [intD]) (by first | omega | (simp at *; done) | (simp at *; omega)))] [(0, .t (.c (.d (.sl 4 (rs.map RelD.d))))), (2, vi .i64 0), (3, vb false), (4, .t (.c (.own 7 (((rs.take j).flatMap fun r => varsZ r.t.parts) ++ (varsZ x1.t.parts)).length))), (13, .t (.c (.d (.sl 4 (rs.map RelD.d))))), (14, vi .i64 (rs.length : Int)), (15, vi .i64 (j : Int))] [(7, .row 3 1 ((((rs.take j).flatMap fun r => varsZ r.t.parts) ++ (varsZ x1.t.parts)).map intD))] (by kernel_rfl) h ?_; clear h; intro a w h
   refine block_n ?_
   refine then_n ?_
   refine rS fam0ok 8 [(0, .add .i64 (m := (j : Int)) (n := 1) (i64_id (by omega) (by omega)))] [(0, .t (.c (.d (.sl 4 (rs.map RelD.d))))), (2, vi .i64 0), (3, vb false), (4, .t (.c (.own 7 (((rs.take j).flatMap fun r => varsZ r.t.parts) ++ (varsZ x1.t.parts)).length))), (13, .t (.c (.d (.sl 4 (rs.map RelD.d))))), (14, vi .i64 (rs.length : Int)), (15, vi .i64 ((j : Int) + 1))] [(7, .row 3 1 ((((rs.take j).flatMap fun r => varsZ r.t.parts) ++ (varsZ x1.t.parts)).map intD))] (by kernel_rfl) h ?_; clear h; intro a w h
   refine then_n ?_
   replace h := h.conv (f' := F.of [(0, .t (.c (.d (.sl 4 (rs.map RelD.d))))), (2, vi .i64 0), (3, vb false), (4, .t (.c (.own 7 ((rs.take (j + 1)).flatMap fun r => varsZ r.t.parts).length))), (13, .t (.c (.d (.sl 4 (rs.map RelD.d))))), (14, vi .i64 (rs.length : Int)), (15, vi .i64 ((j : Int) + 1))] [(7, .row 3 1 (((rs.take (j + 1)).flatMap fun r => varsZ r.t.parts).map intD))]) (congrArg (fun (z_ : List Int) => F.of [(0, .t (.c (.d (.sl 4 (rs.map RelD.d))))), (2, vi .i64 0), (3, vb false), (4, .t (.c (.own 7 z_.length))), (13, .t (.c (.d (.sl 4 (rs.map RelD.d))))), (14, vi .i64 (rs.length : Int)), (15, vi .i64 ((j : Int) + 1))] [(7, .row 3 1 (z_.map intD))]) (show ((((rs.take j).flatMap fun r => varsZ r.t.parts) ++ (varsZ x1.t.parts)) : List Int) = ((rs.take (j + 1)).flatMap fun r => varsZ r.t.parts) from (flat_snoc (g := fun r => varsZ r.t.parts) hx1 rfl)))
   replace h := renS 7 5 [(0, .t (.c (.d (.sl 4 (rs.map RelD.d))))), (2, vi .i64 0), (3, vb false), (4, .t (.c (.own 5 ((rs.take (j + 1)).flatMap fun r => varsZ r.t.parts).length))), (13, .t (.c (.d (.sl 4 (rs.map RelD.d))))), (14, vi .i64 (rs.length : Int)), (15, vi .i64 ((j : Int) + 1))] [(5, .row 3 1 (((rs.take (j + 1)).flatMap fun r => varsZ r.t.parts).map intD))] h (by kernel_rfl) (by kernel_rfl) (by kernel_rfl)
   refine roundS (x := j) (y := j + 1) h ?_ ?_ (by kernel_rfl) (by kernel_rfl)
   ·have := at_lt hx1
    show j + 1 ≤ rs.length
    omega
   ·show rs.length - (j + 1) < rs.length - j
    have := at_lt hx1; omega
  ·have hc2 := hc; clear hc
   have hc2' := of_decide_eq_false hc2
   refine wp_exit ?_
   refine then_x ?_
   refine then_x ?_
   refine inBlock_exit ?_
   refine then_n ?_
   replace h := h.conv (f' := F.of [(0, .t (.c (.d (.sl 4 (rs.map RelD.d))))), (2, vi .i64 0), (3, vb false), (4, .t (.c (.own 5 (varsAll rs).length))), (13, .t (.c (.d (.sl 4 (rs.map RelD.d))))), (14, vi .i64 (rs.length : Int)), (15, vi .i64 (j : Int)), (16, vb (decide ((j : Int) < (rs.length : Int))))] [(5, .row 3 1 ((varsAll rs).map intD))]) (congrArg (fun (z_ : List Int) => F.of [(0, .t (.c (.d (.sl 4 (rs.map RelD.d))))), (2, vi .i64 0), (3, vb false), (4, .t (.c (.own 5 z_.length))), (13, .t (.c (.d (.sl 4 (rs.map RelD.d))))), (14, vi .i64 (rs.length : Int)), (15, vi .i64 (j : Int)), (16, vb (decide ((j : Int) < (rs.length : Int))))] [(5, .row 3 1 (z_.map intD))]) (show (((rs.take j).flatMap fun r => varsZ r.t.parts) : List Int) = (varsAll rs) from (by unfold varsAll; rw [List.take_of_length_le (by omega)])))
   have lva : (varsAll rs).length ≤ 400 := Nat.le_trans (varsAll_len hrs.2) (by omega)
   replace h := renS 5 0 [(0, .t (.c (.d (.sl 4 (rs.map RelD.d))))), (2, vi .i64 0), (3, vb false), (4, .t (.c (.own 0 (varsAll rs).length))), (13, .t (.c (.d (.sl 4 (rs.map RelD.d))))), (14, vi .i64 (rs.length : Int)), (15, vi .i64 (j : Int)), (16, vb (decide ((j : Int) < (rs.length : Int))))] [(0, .row 3 1 ((varsAll rs).map intD))] h (by kernel_rfl) (by kernel_rfl) (by kernel_rfl)
   have luz : (uniZ (varsAll rs)).length ≤ 400 := by have h1 := Lib.compact_length_le (sortZ (varsAll rs)); rw [sortZ_len] at h1; show (Lib.compact _).length ≤ 400; omega
   refine rSeq fam0ok 8 [(1, .call (SSortI (varsAll rs) (by omega)) hv_4)] [(0, .t (.c (.d (.sl 4 (rs.map RelD.d))))), (2, vi .i64 0), (3, vb false), (4, .t (.c (.own 0 (varsAll rs).length)))] [(0, .row 3 1 ((sortZ (varsAll rs)).map intD))] (by kernel_rfl) h ?_; clear h; intro a w h
   refine rSeq fam0ok 8 [] [(0, .t (.c (.d (.sl 4 (rs.map RelD.d))))), (2, vi .i64 (-1)), (3, vb false), (4, .t (.c (.own 0 (varsAll rs).length))), (7, vi .i64 0)] [(0, .row 3 1 ((sortZ (varsAll rs)).map intD))] (by kernel_rfl) h ?_; clear h; intro a w h
   refine wp_seq ?_
   refine rSeq fam0ok 8 [(1, .call (SCompactN (sortZ (varsAll rs)) (varsAll rs).length (sortZ_len _).symm (by rw [sortZ_len]; omega)) hv_5)] [(0, .t (.c (.d (.sl 4 (rs.map RelD.d))))), (2, vi .i64 (-1)), (3, vb false), (7, vi .i64 0), (27, .t (.c (.own 0 (uniZ (varsAll rs)).length))), (28, vi .i64 ((uniZ (varsAll rs)).length : Int)), (29, vi .i64 0)] [(0, .row 3 1 ((comR (sortZ (varsAll rs))).map intD))] (by kernel_rfl) h ?_; clear h; intro a w h
   refine wp_block ?_
   refine loopS (ι := (Nat) × (Int) × (Bool) × (Int)) (fun (z_ : (Nat) × (Int) × (Bool) × (Int)) => match z_ with | (i, v, e, b) => i ≤ (uniZ (varsAll rs)).length ∧ ((uniZ (varsAll rs)).take i).foldl (stepCh rs) (-1, false, 0) = (v, e, b))
     (fun (z_ : (Nat) × (Int) × (Bool) × (Int)) => match z_ with | (i, v, e, b) => [(0, .t (.c (.d (.sl 4 (rs.map RelD.d))))), (2, vi .i64 v), (3, vb e), (7, vi .i64 b), (27, .t (.c (.own 0 (uniZ (varsAll rs)).length))), (28, vi .i64 ((uniZ (varsAll rs)).length : Int)), (29, vi .i64 (i : Int))])
     (fun (z_ : (Nat) × (Int) × (Bool) × (Int)) => match z_ with | (i, v, e, b) => [(0, .row 3 1 ((comR (sortZ (varsAll rs))).map intD))])
     (fun (z_ : (Nat) × (Int) × (Bool) × (Int)) => match z_ with | (i, v, e, b) => (uniZ (varsAll rs)).length - i) (0, (-1), false, 0) ?_ h (by kernel_rfl) (by kernel_rfl) ?_
   ·exact ⟨Nat.zero_le _, rfl⟩
   ·clear h; rintro ⟨i, v, e, b⟩ a w hI h
    change St _ (F.of [(0, .t (.c (.d (.sl 4 (rs.map RelD.d))))), (2, vi .i64 v), (3, vb e), (7, vi .i64 b), (27, .t (.c (.own 0 (uniZ (varsAll rs)).length))), (28, vi .i64 ((uniZ (varsAll rs)).length : Int)), (29, vi .i64 (i : Int))] [(0, .row 3 1 ((comR (sortZ (varsAll rs))).map intD))]) a w at h
    obtain ⟨hI1, hI2⟩ := hI
    refine rSeq fam0ok 8 [] [(0, .t (.c (.d (.sl 4 (rs.map RelD.d))))), (2, vi .i64 v), (3, vb e), (7, vi .i64 b), (27, .t (.c (.own 0 (uniZ (varsAll rs)).length))), (28, vi .i64 ((uniZ (varsAll rs)).length : Int)), (29, vi .i64 (i : Int)), (30, vb (decide ((i : Int) < ((uniZ (varsAll rs)).length : Int))))] [(0, .row 3 1 ((comR (sortZ (varsAll rs))).map intD))] (by kernel_rfl) h ?_; clear h; intro a w h
    refine wp_seq ?_
    refine condS (decide ((i : Int) < ((uniZ (varsAll rs)).length : Int))) h rfl (fun hc => ?_) (fun hc => ?_)
    ·have hc3 := hc; clear hc
     have hc3' := of_decide_eq_true hc3
     refine wp_skip ?_
     refine then_n ?_
     refine wp_seq ?_
     refine wp_block ?_
     obtain ⟨x5, hux5⟩ : ∃ z_ : Int, (uniZ (varsAll rs))[i]? = some z_ := ⟨_, List.getElem?_eq_getElem (by omega)⟩
     refine rSeq fam0ok 8 [(0, .gen _ _ _ fun _ _ _ _ => Op.idxO (d := 31) (t := 27) (k := .i64) (n := 0) (len := (uniZ (varsAll rs)).length) (i := i) tb_1 (by first | omega | (simp at *; omega)) (OV.tmp 29 _)), (1, .gen _ _ _ fun _ _ _ _ => Op.loadR_c (d := 32) (t := 31) (n := 0) (i := i) (fo := 0) (rty := 3) (es := 1) (x := (.raw (.int .i64 x5))) tl_7 rfl (map_at (comR_at hux5) (f := intD)) rfl)] [(0, .t (.c (.d (.sl 4 (rs.map RelD.d))))), (2, vi .i64 v), (3, vb e), (7, vi .i64 b), (9, vi .i64 x5), (27, .t (.c (.own 0 (uniZ (varsAll rs)).length))), (28, vi .i64 ((uniZ (varsAll rs)).length : Int)), (29, vi .i64 (i : Int))] [(0, .row 3 1 ((comR (sortZ (varsAll rs))).map intD))] (by kernel_rfl) h ?_; clear h; intro a w h
     have hcs6 := cost_le hrs x5
     have nlx := lows_len hrs x5
     have nhx := highs_len hrs x5
     refine rSeq fam0ok 8 [(2, .call (Ssplit rs x5 hrs) hb_15)] [(0, .t (.c (.d (.sl 4 (rs.map RelD.d))))), (2, vi .i64 v), (3, vb e), (7, vi .i64 b), (9, vi .i64 x5), (10, vp 8 0), (27, .t (.c (.own 0 (uniZ (varsAll rs)).length))), (28, vi .i64 ((uniZ (varsAll rs)).length : Int)), (29, vi .i64 (i : Int))] [(0, .row 3 1 ((comR (sortZ (varsAll rs))).map intD)), (8, .box [.d (.sl 5 ((lowsOf rs x5).map SideD.d)), .d (.sl 5 ((highsOf rs x5).map SideD.d)), .d (.sl 4 ((othersOf rs x5).map RelD.d))])] (by kernel_rfl) h ?_; clear h; intro a w h
     refine rSeq fam0ok 9 [(1, .call (SExact (splitS rs x5) (lows_ok hrs x5) (highs_ok hrs x5) (Nat.le_trans (lows_len hrs x5) (by decide)) (Nat.le_trans (highs_len hrs x5) (by decide))) hv_9), (4, .len (c := (.d (.sl 5 ((lowsOf rs x5).map SideD.d)))) (n := (lowsOf rs x5).length) (lenC_map _ _ _)), (7, .len (c := (.d (.sl 5 ((highsOf rs x5).map SideD.d)))) (n := (highsOf rs x5).length) (lenC_map _ _ _)), (8, .gen _ _ _ fun _ _ _ _ => Op.arith (op := .mul) (d := 44) (xt := 3) (yt := 3) (k := .i64) (m := ((lowsOf rs x5).length : Int)) (n := ((highsOf rs x5).length : Int)) (r := (((lowsOf rs x5).length * (highsOf rs x5).length : Nat) : Int)) (OV.tmp 40 _) (OV.tmp 43 _) (.inr (.inr ⟨rfl, (Int.natCast_mul _ _)⟩)) (i64_id (by omega) (by omega)))] [(0, .t (.c (.d (.sl 4 (rs.map RelD.d))))), (2, vi .i64 v), (3, vb e), (7, vi .i64 b), (9, vi .i64 x5), (11, vb (exactS (splitS rs x5))), (12, vi .i64 (((lowsOf rs x5).length * (highsOf rs x5).length : Nat) : Int)), (27, .t (.c (.own 0 (uniZ (varsAll rs)).length))), (28, vi .i64 ((uniZ (varsAll rs)).length : Int)), (29, vi .i64 (i : Int))] [(0, .row 3 1 ((comR (sortZ (varsAll rs))).map intD))] (by kernel_rfl) h ?_; clear h; intro a w h
     rcases Bool.eq_false_or_eq_true (decide (v < 0)) with hc | hc
     ·have hc4 := hc; clear hc
      have hc4' := of_decide_eq_true hc4
      refine rSeq fam0ok 9 [(1, .cmp (op := .lss) (m := v) (n := 0) (b := true) .i64 hc4)] [(0, .t (.c (.d (.sl 4 (rs.map RelD.d))))), (2, vi .i64 v), (3, vb e), (7, vi .i64 b), (9, vi .i64 x5), (11, vb (exactS (splitS rs x5))), (12, vi .i64 (((lowsOf rs x5).length * (highsOf rs x5).length : Nat) : Int)), (27, .t (.c (.own 0 (uniZ (varsAll rs)).length))), (28, vi .i64 ((uniZ (varsAll rs)).length : Int)), (29, vi .i64 (i : Int)), (63, vb true)] [(0, .row 3 1 ((comR (sortZ (varsAll rs))).map intD))] (by kernel_rfl) h ?_; clear h; intro a w h
      refine condS true h rfl (fun hc => ?_) (fun hc => ?_)
      ·clear hc
       refine rS fam0ok 9 [] [(0, .t (.c (.d (.sl 4 (rs.map RelD.d))))), (2, vi .i64 x5), (3, vb (exactS (splitS rs x5))), (7, vi .i64 (((lowsOf rs x5).length * (highsOf rs x5).length : Nat) : Int)), (27, .t (.c (.own 0 (uniZ (varsAll rs)).length))), (28, vi .i64 ((uniZ (varsAll rs)).length : Int)), (29, vi .i64 (i : Int))] [(0, .row 3 1 ((comR (sortZ (varsAll rs))).map intD))] (by kernel_rfl) h ?_; clear h; intro a w h
       refine block_n ?_
       refine then_n ?_
       refine rS fam0ok 9 [(0, .add .i64 (m := (i : Int)) (n := 1) (i64_id (by omega) (by omega)))] [(0, .t (.c (.d (.sl 4 (rs.map RelD.d))))), (2, vi .i64 x5), (3, vb (exactS (splitS rs x5))), (7, vi .i64 (((lowsOf rs x5).length * (highsOf rs x5).length : Nat) : Int)), (27, .t (.c (.own 0 (uniZ (varsAll rs)).length))), (28, vi .i64 ((uniZ (varsAll rs)).length : Int)), (29, vi .i64 ((i : Int) + 1))] [(0, .row 3 1 ((comR (sortZ (varsAll rs))).map intD))] (by kernel_rfl) h ?_; clear h; intro a w h
       refine then_n ?_
       refine roundS (x := (i, v, e, b)) (y := (i + 1, x5, exactS (splitS rs x5), (((lowsOf rs x5).length * (highsOf rs x5).length : Nat) : Int))) h ?_ ?_ (by kernel_rfl) (by kernel_rfl)
       ·have := at_lt hux5
        refine ⟨by omega, ?_⟩
        rw [fold_at hux5, hI2]
        show stepCh rs (v, e, b) x5 = (x5, exactS (splitS rs x5), (((lowsOf rs x5).length * (highsOf rs x5).length : Nat) : Int))
        unfold stepCh
        have q1 := hc4
        cases he : e <;> cases hn : exactS (splitS rs x5) <;> simp_all <;> (first | omega | (intro hq; omega))
       ·show (uniZ (varsAll rs)).length - (i + 1) < (uniZ (varsAll rs)).length - i
        have := at_lt hux5; omega
      ·cases hc
     ·have hc5 := hc; clear hc
      have hc5' := of_decide_eq_false hc5
      rcases Bool.eq_false_or_eq_true (exactS (splitS rs x5)) with hc | hc
      ·have hc6 := hc; clear hc
       rw [hc6] at h
       rcases Bool.eq_false_or_eq_true e with hc | hc
       ·have hc7 := hc; clear hc
        rw [hc7] at h
        refine rSeq fam0ok 9 [(1, .cmp (op := .lss) (m := v) (n := 0) (b := false) .i64 hc5), (12, .cmpb .eql (m := true) (n := true) (b := true) (.inl ⟨rfl, (show (true == true) = true from rfl).symm⟩))] [(0, .t (.c (.d (.sl 4 (rs.map RelD.d))))), (2, vi .i64 v), (3, vb true), (7, vi .i64 b), (9, vi .i64 x5), (11, vb true), (12, vi .i64 (((lowsOf rs x5).length * (highsOf rs x5).length : Nat) : Int)), (27, .t (.c (.own 0 (uniZ (varsAll rs)).length))), (28, vi .i64 ((uniZ (varsAll rs)).length : Int)), (29, vi .i64 (i : Int)), (63, vb (decide ((((lowsOf rs x5).length * (highsOf rs x5).length : Nat) : Int) < b)))] [(0, .row 3 1 ((comR (sortZ (varsAll rs))).map intD))] (by kernel_rfl) h ?_; clear h; intro a w h
        refine condS (decide ((((lowsOf rs x5).length * (highsOf rs x5).length : Nat) : Int) < b)) h rfl (fun hc => ?_) (fun hc => ?_)
        ·have hc8 := hc; clear hc
         have hc8' := of_decide_eq_true hc8
         refine rS fam0ok 9 [] [(0, .t (.c (.d (.sl 4 (rs.map RelD.d))))), (2, vi .i64 x5), (3, vb true), (7, vi .i64 (((lowsOf rs x5).length * (highsOf rs x5).length : Nat) : Int)), (27, .t (.c (.own 0 (uniZ (varsAll rs)).length))), (28, vi .i64 ((uniZ (varsAll rs)).length : Int)), (29, vi .i64 (i : Int))] [(0, .row 3 1 ((comR (sortZ (varsAll rs))).map intD))] (by kernel_rfl) h ?_; clear h; intro a w h
         refine block_n ?_
         refine then_n ?_
         refine rS fam0ok 9 [(0, .add .i64 (m := (i : Int)) (n := 1) (i64_id (by omega) (by omega)))] [(0, .t (.c (.d (.sl 4 (rs.map RelD.d))))), (2, vi .i64 x5), (3, vb true), (7, vi .i64 (((lowsOf rs x5).length * (highsOf rs x5).length : Nat) : Int)), (27, .t (.c (.own 0 (uniZ (varsAll rs)).length))), (28, vi .i64 ((uniZ (varsAll rs)).length : Int)), (29, vi .i64 ((i : Int) + 1))] [(0, .row 3 1 ((comR (sortZ (varsAll rs))).map intD))] (by kernel_rfl) h ?_; clear h; intro a w h
         refine then_n ?_
         refine roundS (x := (i, v, e, b)) (y := (i + 1, x5, true, (((lowsOf rs x5).length * (highsOf rs x5).length : Nat) : Int))) h ?_ ?_ (by kernel_rfl) (by kernel_rfl)
         ·have := at_lt hux5
          refine ⟨by omega, ?_⟩
          rw [fold_at hux5, hI2]
          show stepCh rs (v, e, b) x5 = (x5, true, (((lowsOf rs x5).length * (highsOf rs x5).length : Nat) : Int))
          unfold stepCh
          have q1 := hc5
          have q1 := hc6
          have q1 := hc7
          have q1 := hc8
          cases he : e <;> cases hn : exactS (splitS rs x5) <;> simp_all <;> (first | omega | (intro hq; omega))
         ·show (uniZ (varsAll rs)).length - (i + 1) < (uniZ (varsAll rs)).length - i
          have := at_lt hux5; omega
        ·have hc9 := hc; clear hc
         have hc9' := of_decide_eq_false hc9
         refine wp_skip ?_
         refine block_n ?_
         refine then_n ?_
         refine rS fam0ok 9 [(0, .add .i64 (m := (i : Int)) (n := 1) (i64_id (by omega) (by omega)))] [(0, .t (.c (.d (.sl 4 (rs.map RelD.d))))), (2, vi .i64 v), (3, vb true), (7, vi .i64 b), (27, .t (.c (.own 0 (uniZ (varsAll rs)).length))), (28, vi .i64 ((uniZ (varsAll rs)).length : Int)), (29, vi .i64 ((i : Int) + 1))] [(0, .row 3 1 ((comR (sortZ (varsAll rs))).map intD))] (by kernel_rfl) h ?_; clear h; intro a w h
         refine then_n ?_
         refine roundS (x := (i, v, e, b)) (y := (i + 1, v, true, b)) h ?_ ?_ (by kernel_rfl) (by kernel_rfl)
         ·have := at_lt hux5
          refine ⟨by omega, ?_⟩
          rw [fold_at hux5, hI2]
          show stepCh rs (v, e, b) x5 = (v, true, b)
          unfold stepCh
          have q1 := hc5
          have q1 := hc6
          have q1 := hc7
          have q1 := hc9
          cases he : e <;> cases hn : exactS (splitS rs x5) <;> simp_all <;> (first | omega | (intro hq; omega))
         ·show (uniZ (varsAll rs)).length - (i + 1) < (uniZ (varsAll rs)).length - i
          have := at_lt hux5; omega
       ·have hc10 := hc; clear hc
        rw [hc10] at h
        refine rSeq fam0ok 9 [(1, .cmp (op := .lss) (m := v) (n := 0) (b := false) .i64 hc5)] [(0, .t (.c (.d (.sl 4 (rs.map RelD.d))))), (2, vi .i64 v), (3, vb false), (7, vi .i64 b), (9, vi .i64 x5), (11, vb true), (12, vi .i64 (((lowsOf rs x5).length * (highsOf rs x5).length : Nat) : Int)), (27, .t (.c (.own 0 (uniZ (varsAll rs)).length))), (28, vi .i64 ((uniZ (varsAll rs)).length : Int)), (29, vi .i64 (i : Int)), (63, vb true)] [(0, .row 3 1 ((comR (sortZ (varsAll rs))).map intD))] (by kernel_rfl) h ?_; clear h; intro a w h
        refine condS true h rfl (fun hc => ?_) (fun hc => ?_)
        ·clear hc
         refine rS fam0ok 9 [] [(0, .t (.c (.d (.sl 4 (rs.map RelD.d))))), (2, vi .i64 x5), (3, vb true), (7, vi .i64 (((lowsOf rs x5).length * (highsOf rs x5).length : Nat) : Int)), (27, .t (.c (.own 0 (uniZ (varsAll rs)).length))), (28, vi .i64 ((uniZ (varsAll rs)).length : Int)), (29, vi .i64 (i : Int))] [(0, .row 3 1 ((comR (sortZ (varsAll rs))).map intD))] (by kernel_rfl) h ?_; clear h; intro a w h
         refine block_n ?_
         refine then_n ?_
         refine rS fam0ok 9 [(0, .add .i64 (m := (i : Int)) (n := 1) (i64_id (by omega) (by omega)))] [(0, .t (.c (.d (.sl 4 (rs.map RelD.d))))), (2, vi .i64 x5), (3, vb true), (7, vi .i64 (((lowsOf rs x5).length * (highsOf rs x5).length : Nat) : Int)), (27, .t (.c (.own 0 (uniZ (varsAll rs)).length))), (28, vi .i64 ((uniZ (varsAll rs)).length : Int)), (29, vi .i64 ((i : Int) + 1))] [(0, .row 3 1 ((comR (sortZ (varsAll rs))).map intD))] (by kernel_rfl) h ?_; clear h; intro a w h
         refine then_n ?_
         refine roundS (x := (i, v, e, b)) (y := (i + 1, x5, true, (((lowsOf rs x5).length * (highsOf rs x5).length : Nat) : Int))) h ?_ ?_ (by kernel_rfl) (by kernel_rfl)
         ·have := at_lt hux5
          refine ⟨by omega, ?_⟩
          rw [fold_at hux5, hI2]
          show stepCh rs (v, e, b) x5 = (x5, true, (((lowsOf rs x5).length * (highsOf rs x5).length : Nat) : Int))
          unfold stepCh
          have q1 := hc5
          have q1 := hc6
          have q1 := hc10
          cases he : e <;> cases hn : exactS (splitS rs x5) <;> simp_all <;> (first | omega | (intro hq; omega))
         ·show (uniZ (varsAll rs)).length - (i + 1) < (uniZ (varsAll rs)).length - i
          have := at_lt hux5; omega
        ·cases hc
      ·have hc11 := hc; clear hc
       rw [hc11] at h
       rcases Bool.eq_false_or_eq_true (false == e) with hc | hc
       ·have hc12 := hc; clear hc
        have hc12' := hc12; (try simp at hc12')
        refine rSeq fam0ok 9 [(1, .cmp (op := .lss) (m := v) (n := 0) (b := false) .i64 hc5), (12, .cmpb .eql (m := false) (n := e) (b := true) (.inl ⟨rfl, hc12.symm⟩))] [(0, .t (.c (.d (.sl 4 (rs.map RelD.d))))), (2, vi .i64 v), (3, vb e), (7, vi .i64 b), (9, vi .i64 x5), (11, vb false), (12, vi .i64 (((lowsOf rs x5).length * (highsOf rs x5).length : Nat) : Int)), (27, .t (.c (.own 0 (uniZ (varsAll rs)).length))), (28, vi .i64 ((uniZ (varsAll rs)).length : Int)), (29, vi .i64 (i : Int)), (63, vb (decide ((((lowsOf rs x5).length * (highsOf rs x5).length : Nat) : Int) < b)))] [(0, .row 3 1 ((comR (sortZ (varsAll rs))).map intD))] (by kernel_rfl) h ?_; clear h; intro a w h
        refine condS (decide ((((lowsOf rs x5).length * (highsOf rs x5).length : Nat) : Int) < b)) h rfl (fun hc => ?_) (fun hc => ?_)
        ·have hc13 := hc; clear hc
         have hc13' := of_decide_eq_true hc13
         refine rS fam0ok 9 [] [(0, .t (.c (.d (.sl 4 (rs.map RelD.d))))), (2, vi .i64 x5), (3, vb false), (7, vi .i64 (((lowsOf rs x5).length * (highsOf rs x5).length : Nat) : Int)), (27, .t (.c (.own 0 (uniZ (varsAll rs)).length))), (28, vi .i64 ((uniZ (varsAll rs)).length : Int)), (29, vi .i64 (i : Int))] [(0, .row 3 1 ((comR (sortZ (varsAll rs))).map intD))] (by kernel_rfl) h ?_; clear h; intro a w h
         refine block_n ?_
         refine then_n ?_
         refine rS fam0ok 9 [(0, .add .i64 (m := (i : Int)) (n := 1) (i64_id (by omega) (by omega)))] [(0, .t (.c (.d (.sl 4 (rs.map RelD.d))))), (2, vi .i64 x5), (3, vb false), (7, vi .i64 (((lowsOf rs x5).length * (highsOf rs x5).length : Nat) : Int)), (27, .t (.c (.own 0 (uniZ (varsAll rs)).length))), (28, vi .i64 ((uniZ (varsAll rs)).length : Int)), (29, vi .i64 ((i : Int) + 1))] [(0, .row 3 1 ((comR (sortZ (varsAll rs))).map intD))] (by kernel_rfl) h ?_; clear h; intro a w h
         refine then_n ?_
         refine roundS (x := (i, v, e, b)) (y := (i + 1, x5, false, (((lowsOf rs x5).length * (highsOf rs x5).length : Nat) : Int))) h ?_ ?_ (by kernel_rfl) (by kernel_rfl)
         ·have := at_lt hux5
          refine ⟨by omega, ?_⟩
          rw [fold_at hux5, hI2]
          show stepCh rs (v, e, b) x5 = (x5, false, (((lowsOf rs x5).length * (highsOf rs x5).length : Nat) : Int))
          unfold stepCh
          have q1 := hc5
          have q1 := hc11
          have q1 := hc12
          have q1 := hc13
          cases he : e <;> cases hn : exactS (splitS rs x5) <;> simp_all <;> (first | omega | (intro hq; omega))
         ·show (uniZ (varsAll rs)).length - (i + 1) < (uniZ (varsAll rs)).length - i
          have := at_lt hux5; omega
        ·have hc14 := hc; clear hc
         have hc14' := of_decide_eq_false hc14
         refine wp_skip ?_
         refine block_n ?_
         refine then_n ?_
         refine rS fam0ok 9 [(0, .add .i64 (m := (i : Int)) (n := 1) (i64_id (by omega) (by omega)))] [(0, .t (.c (.d (.sl 4 (rs.map RelD.d))))), (2, vi .i64 v), (3, vb e), (7, vi .i64 b), (27, .t (.c (.own 0 (uniZ (varsAll rs)).length))), (28, vi .i64 ((uniZ (varsAll rs)).length : Int)), (29, vi .i64 ((i : Int) + 1))] [(0, .row 3 1 ((comR (sortZ (varsAll rs))).map intD))] (by kernel_rfl) h ?_; clear h; intro a w h
         refine then_n ?_
         refine roundS (x := (i, v, e, b)) (y := (i + 1, v, e, b)) h ?_ ?_ (by kernel_rfl) (by kernel_rfl)
         ·have := at_lt hux5
          refine ⟨by omega, ?_⟩
          rw [fold_at hux5, hI2]
          show stepCh rs (v, e, b) x5 = (v, e, b)
          unfold stepCh
          have q1 := hc5
          have q1 := hc11
          have q1 := hc12
          have q1 := hc14
          cases he : e <;> cases hn : exactS (splitS rs x5) <;> simp_all <;> (first | omega | (intro hq; omega))
         ·show (uniZ (varsAll rs)).length - (i + 1) < (uniZ (varsAll rs)).length - i
          have := at_lt hux5; omega
       ·have hc15 := hc; clear hc
        have hc15' := hc15; (try simp at hc15')
        refine rSeq fam0ok 9 [(1, .cmp (op := .lss) (m := v) (n := 0) (b := false) .i64 hc5), (12, .cmpb .eql (m := false) (n := e) (b := false) (.inl ⟨rfl, hc15.symm⟩))] [(0, .t (.c (.d (.sl 4 (rs.map RelD.d))))), (2, vi .i64 v), (3, vb e), (7, vi .i64 b), (9, vi .i64 x5), (11, vb false), (12, vi .i64 (((lowsOf rs x5).length * (highsOf rs x5).length : Nat) : Int)), (27, .t (.c (.own 0 (uniZ (varsAll rs)).length))), (28, vi .i64 ((uniZ (varsAll rs)).length : Int)), (29, vi .i64 (i : Int)), (63, vb false)] [(0, .row 3 1 ((comR (sortZ (varsAll rs))).map intD))] (by kernel_rfl) h ?_; clear h; intro a w h
        refine condS false h rfl (fun hc => ?_) (fun hc => ?_)
        ·cases hc
        ·clear hc
         refine wp_skip ?_
         refine block_n ?_
         refine then_n ?_
         refine rS fam0ok 9 [(0, .add .i64 (m := (i : Int)) (n := 1) (i64_id (by omega) (by omega)))] [(0, .t (.c (.d (.sl 4 (rs.map RelD.d))))), (2, vi .i64 v), (3, vb e), (7, vi .i64 b), (27, .t (.c (.own 0 (uniZ (varsAll rs)).length))), (28, vi .i64 ((uniZ (varsAll rs)).length : Int)), (29, vi .i64 ((i : Int) + 1))] [(0, .row 3 1 ((comR (sortZ (varsAll rs))).map intD))] (by kernel_rfl) h ?_; clear h; intro a w h
         refine then_n ?_
         refine roundS (x := (i, v, e, b)) (y := (i + 1, v, e, b)) h ?_ ?_ (by kernel_rfl) (by kernel_rfl)
         ·have := at_lt hux5
          refine ⟨by omega, ?_⟩
          rw [fold_at hux5, hI2]
          show stepCh rs (v, e, b) x5 = (v, e, b)
          unfold stepCh
          have q1 := hc5
          have q1 := hc11
          have q1 := hc15
          cases he : e <;> cases hn : exactS (splitS rs x5) <;> simp_all <;> (first | omega | (intro hq; omega))
         ·show (uniZ (varsAll rs)).length - (i + 1) < (uniZ (varsAll rs)).length - i
          have := at_lt hux5; omega
    ·have hc16 := hc; clear hc
     have hc16' := of_decide_eq_false hc16
     refine wp_exit ?_
     refine then_x ?_
     refine then_x ?_
     refine inBlock_exit ?_
     refine then_n ?_
     refine rSeq fam0ok 9 [] [(2, vi .i64 v), (3, vb e)] [] (by kernel_rfl) h ?_; clear h; intro a w h
     refine wp_ret ?_
     refine retS [.c (.d (.raw (.int .i64 v))), .c (.d (.raw (.bool e)))] h Exit.ret (.inl rfl)  rfl ⟨RV.tmp _ _ rfl, RV.tmp _ _ rfl, trivial⟩ ?_ (by kernel_rfl) (by kernel_rfl)
     have hz : chooseSt rs = (v, e, b) := by unfold chooseSt; rw [← hI2, List.take_of_length_le (by omega)]
     rw [hz]; first | done | rfl
end Go.Proofs.YtoklkfmffmonoaaGreat.S
end
section
namespace Go.Proofs.YtoklkfmffmonoaaGreat.S
open Go.RowKit

theorem hs_3 : Bodied Tryz.prog 16 := Bodied.mk' (by kernel_rfl)
theorem hs_4 : Bodied Tryz.prog 19 := Bodied.mk' (by kernel_rfl)
theorem hs_5 : Bodied Tryz.prog 21 := Bodied.mk' (by kernel_rfl)
abbrev choE : List RelD := [(ofR (-1) [1]), (ofR 0 [(-2), 1])]
theorem choE_ok : RsOk choE := rs2_ok (ofR_ok (-1) [1] (by decide) (by decide) (by decide)) (ofR_ok 0 [(-2), 1] (by decide) (by decide) (by decide))
theorem nilE_ok : RsOk [] := ⟨by decide, fun r hr => by cases hr⟩
theorem uni01 {xs ys : List Int} (h : xs = ys) (hy : ys = [0, 0, 1] ∨ ys = [0, 1, 0, 1]) : uniZ xs = [0, 1] := by
 subst h
 refine uniZ_eq (List.pairwise_cons.2 ⟨fun v hv => by rw [List.mem_singleton.1 hv]; decide, List.pairwise_singleton _ _⟩) fun v => ?_
 rcases hy with h | h <;> rw [h] <;> simp <;> omega
theorem cv1 : varsAll choE = [0, 0, 1] := by kernel_rfl
theorem cv2 : varsAll hardE = [0, 1, 0, 1] := by kernel_rfl
theorem ch1 : (chooseSt choE).1 = 1 ∧ (chooseSt choE).2.1 = true := by
 unfold chooseSt; rw [uni01 cv1 (.inl rfl)]
 exact ⟨by kernel_rfl, by kernel_rfl⟩
theorem ch2 : (chooseSt hardE).1 = 1 ∧ (chooseSt hardE).2.1 = true := by
 unfold chooseSt; rw [uni01 cv2 (.inr rfl)]
 exact ⟨by kernel_rfl, by kernel_rfl⟩
theorem ch3 : (chooseSt []).1 = -1 ∧ (chooseSt []).2.1 = false := by
 unfold chooseSt; rw [show varsAll ([] : List RelD) = [] from rfl, uniZ_eq (xs := []) (ys := []) List.Pairwise.nil fun v => Iff.rfl]
 exact ⟨rfl, rfl⟩
abbrev realE : RelD := ofR 2 [0, (-1)]
abbrev darkE : RelD := ofR 0 [0, (-1)]
theorem re1 : eachS brightT hardE 0 = [realE] := by kernel_rfl
theorem re2 : eachS darkT hardE 0 = [darkE] := by kernel_rfl
theorem ofR_rk (k : Int) (cs : List Int) (hk : -1000 ≤ k ∧ k ≤ 1000) (hc : ∀ c ∈ cs, -1000 ≤ c ∧ c ≤ 1000) (hl : cs.length ≤ 20) : RkOk (ofR k cs) := RkOk.of (ofR_ok k cs hk hc hl) (by decide) (by decide)
set_option maxHeartbeats 4000000 in
theorem SShading  : Fn Tryz.prog 15 [] [] (vb true) [] := by
 refine Fn.body Tryz.func15 rfl 81 rfl fun w H B a h => ?_
 refine rSeq fam0ok 0 [] [(0, vb false)] [] (by kernel_rfl) h ?_; clear h; intro a w h
 refine rSeq fam0ok 0 [(0, .gen _ _ _ fun _ _ _ _ => Op.buildD (d := 11) (len := 1) (rows := [1].map intD) (rs := []) to_1 (.cons (i := 0) (OV.const (.int .i64 1) rfl) (.nil)) (by kernel_rfl) rfl (by simp [intD]) (by decide) (by decide)), (1, .call (SofR (-1) [1] (by decide) (by decide) (by decide)) he_6), (2, .gen _ _ _ fun _ _ _ _ => Op.buildD (d := 13) (len := 2) (rows := [(-2), 1].map intD) (rs := []) to_1 (.cons (i := 0) (OV.const (.int .i64 (-2)) rfl) (.cons (i := 1) (OV.const (.int .i64 1) rfl) (.nil))) (by kernel_rfl) rfl (by simp [intD]) (by decide) (by decide)), (3, .call (SofR 0 [(-2), 1] (by decide) (by decide) (by decide)) he_6), (4, .gen _ _ _ fun _ _ _ _ => Op.buildD (d := 15) (len := 2) (rows := [(ofR (-1) [1]), (ofR 0 [(-2), 1])].map RelD.d) (rs := [(12, .t (.agg ([.d (.sl 3 ((ofR (-1) [1]).t.parts.map Part.d))] ++ zi (ofR (-1) [1]).t.k ++ [.d (.raw (.bool (ofR (-1) [1]).eq))]))), (14, .t (.agg ([.d (.sl 3 ((ofR 0 [(-2), 1]).t.parts.map Part.d))] ++ zi (ofR 0 [(-2), 1]).t.k ++ [.d (.raw (.bool (ofR 0 [(-2), 1]).eq))])))]) kc_5 (.cons (i := 0) (OV.tmp 12 _) (.cons (i := 1) (OV.tmp 14 _) (.nil))) (by kernel_rfl) rfl (by simp [RelD.d]) (by decide) (by decide))] [(0, vb false), (1, .t (.c (.d (.sl 4 ([(ofR (-1) [1]), (ofR 0 [(-2), 1])].map RelD.d)))))] [] (by kernel_rfl) h ?_; clear h; intro a w h
 refine rSeq fam0ok 0 [(0, .gen _ _ _ fun _ _ _ _ => Op.buildD (d := 16) (len := 2) (rows := [2, (-1)].map intD) (rs := []) to_1 (.cons (i := 0) (OV.const (.int .i64 2) rfl) (.cons (i := 1) (OV.const (.int .i64 (-1)) rfl) (.nil))) (by kernel_rfl) rfl (by simp [intD]) (by decide) (by decide)), (1, .call (SofR 0 [2, (-1)] (by decide) (by decide) (by decide)) he_6), (2, .gen _ _ _ fun _ _ _ _ => Op.buildD (d := 18) (len := 2) (rows := [(-3), 1].map intD) (rs := []) to_1 (.cons (i := 0) (OV.const (.int .i64 (-3)) rfl) (.cons (i := 1) (OV.const (.int .i64 1) rfl) (.nil))) (by kernel_rfl) rfl (by simp [intD]) (by decide) (by decide)), (3, .call (SofR 1 [(-3), 1] (by decide) (by decide) (by decide)) he_6), (4, .gen _ _ _ fun _ _ _ _ => Op.buildD (d := 20) (len := 2) (rows := [(ofR 0 [2, (-1)]), (ofR 1 [(-3), 1])].map RelD.d) (rs := [(17, .t (.agg ([.d (.sl 3 ((ofR 0 [2, (-1)]).t.parts.map Part.d))] ++ zi (ofR 0 [2, (-1)]).t.k ++ [.d (.raw (.bool (ofR 0 [2, (-1)]).eq))]))), (19, .t (.agg ([.d (.sl 3 ((ofR 1 [(-3), 1]).t.parts.map Part.d))] ++ zi (ofR 1 [(-3), 1]).t.k ++ [.d (.raw (.bool (ofR 1 [(-3), 1]).eq))])))]) kc_5 (.cons (i := 0) (OV.tmp 17 _) (.cons (i := 1) (OV.tmp 19 _) (.nil))) (by kernel_rfl) rfl (by simp [RelD.d]) (by decide) (by decide))] [(0, vb false), (1, .t (.c (.d (.sl 4 ([(ofR (-1) [1]), (ofR 0 [(-2), 1])].map RelD.d))))), (2, .t (.c (.d (.sl 4 ([(ofR 0 [2, (-1)]), (ofR 1 [(-3), 1])].map RelD.d)))))] [] (by kernel_rfl) h ?_; clear h; intro a w h
 refine rSeq fam0ok 0 [(1, .call (Fn.cast (SChoose choE choE_ok) (show (.tup [.c (.d (.raw (.int .i64 (chooseSt choE).1))), .c (.d (.raw (.bool (chooseSt choE).2.1)))] : V) = .tup [.c (.d (.raw (.int .i64 1))), .c (.d (.raw (.bool true)))] from by rw [ch1.1, ch1.2])) hs_3)] [(0, vb false), (2, .t (.c (.d (.sl 4 ([(ofR 0 [2, (-1)]), (ofR 1 [(-3), 1])].map RelD.d))))), (3, vi .i64 1), (4, vb true)] [] (by kernel_rfl) h ?_; clear h; intro a w h
 refine rSeq fam0ok 0 [(1, .call (Fn.cast (SChoose hardE hardE_ok) (show (.tup [.c (.d (.raw (.int .i64 (chooseSt hardE).1))), .c (.d (.raw (.bool (chooseSt hardE).2.1)))] : V) = .tup [.c (.d (.raw (.int .i64 1))), .c (.d (.raw (.bool true)))] from by rw [ch2.1, ch2.2])) hs_3)] [(0, vb false), (2, .t (.c (.d (.sl 4 ([(ofR 0 [2, (-1)]), (ofR 1 [(-3), 1])].map RelD.d))))), (3, vi .i64 1), (4, vb true), (5, vi .i64 1), (6, vb true)] [] (by kernel_rfl) h ?_; clear h; intro a w h
 refine rSeq fam0ok 0 [(1, .call (Fn.cast (SSReal hardE 0 hardE_ok) (show (.t (.c (.d (.sl 4 ((eachS brightT hardE 0).map RelD.d)))) : V) = .t (.c (.d (.sl 4 ([realE].map RelD.d)))) from by rw [re1])) hs_4), (3, .call (Fn.cast (SSDark hardE 0 hardE_ok) (show (.t (.c (.d (.sl 4 ((eachS darkT hardE 0).map RelD.d)))) : V) = .t (.c (.d (.sl 4 ([darkE].map RelD.d)))) from by rw [re2])) hs_5)] [(0, vb false), (3, vi .i64 1), (4, vb true), (5, vi .i64 1), (6, vb true), (7, .t (.c (.d (.sl 4 ([realE].map RelD.d))))), (8, .t (.c (.d (.sl 4 ([darkE].map RelD.d)))))] [] (by kernel_rfl) h ?_; clear h; intro a w h
 refine rSeq fam0ok 0 [(0, .call (Fn.argw (Fn.cast (SChoose ([] : List RelD) nilE_ok) (show (.tup [.c (.d (.raw (.int .i64 (chooseSt ([] : List RelD)).1))), .c (.d (.raw (.bool (chooseSt ([] : List RelD)).2.1)))] : V) = .tup [.c (.d (.raw (.int .i64 (-1)))), .c (.d (.raw (.bool false)))] from by rw [ch3.1, ch3.2])) (.cons _ _ _ _ (.c _ _ (.nil _)) .nil)) hs_3)] [(0, vb false), (3, vi .i64 1), (4, vb true), (5, vi .i64 1), (6, vb true), (7, .t (.c (.d (.sl 4 ([realE].map RelD.d))))), (8, .t (.c (.d (.sl 4 ([darkE].map RelD.d))))), (9, vi .i64 (-1))] [] (by kernel_rfl) h ?_; clear h; intro a w h
 refine rSeq fam0ok 0 [(1, .cmp (op := .eql) (m := 1) (n := 1) (b := true) .i64 (show ((1 : Int) == 1) = true from rfl)), (7, .cmp (op := .eql) (m := 1) (n := 1) (b := true) .i64 (show ((1 : Int) == 1) = true from rfl)), (14, .len (c := (.d (.sl 4 ([realE].map RelD.d)))) (n := [realE].length) (lenC_map _ _ _)), (15, .cmp (op := .eql) (m := ([realE].length : Int)) (n := 1) (b := true) .i64 (show (([realE].length : Int) == 1) = true from rfl)), (19, .gen _ _ _ fun _ _ _ _ => Op.idxD (d := 58) (t := 57) (k := .i64) kc_3 (map_at (show ([realE] : List RelD)[0]? = some realE from rfl) (f := RelD.d)) (OV.const (.int .i64 0) rfl)), (21, .gen _ _ _ fun _ _ _ _ => Op.buildD (d := 60) (len := 2) (rows := [0, (-1)].map intD) (rs := []) to_1 (.cons (i := 0) (OV.const (.int .i64 0) rfl) (.cons (i := 1) (OV.const (.int .i64 (-1)) rfl) (.nil))) (by kernel_rfl) rfl (by simp [intD]) (by decide) (by decide)), (22, .call (SofR 2 [0, (-1)] (by decide) (by decide) (by decide)) he_6), (23, .call (SR4Same realE (ofR_rk 2 [0, (-1)] (by decide) (by decide) (by decide))) hg_5), (27, .len (c := (.d (.sl 4 ([darkE].map RelD.d)))) (n := [darkE].length) (lenC_map _ _ _)), (28, .cmp (op := .eql) (m := ([darkE].length : Int)) (n := 1) (b := true) .i64 (show (([darkE].length : Int) == 1) = true from rfl)), (32, .gen _ _ _ fun _ _ _ _ => Op.idxD (d := 71) (t := 70) (k := .i64) kc_3 (map_at (show ([darkE] : List RelD)[0]? = some darkE from rfl) (f := RelD.d)) (OV.const (.int .i64 0) rfl)), (34, .gen _ _ _ fun _ _ _ _ => Op.buildD (d := 73) (len := 2) (rows := [0, (-1)].map intD) (rs := []) to_1 (.cons (i := 0) (OV.const (.int .i64 0) rfl) (.cons (i := 1) (OV.const (.int .i64 (-1)) rfl) (.nil))) (by kernel_rfl) rfl (by simp [intD]) (by decide) (by decide)), (35, .call (SofR 0 [0, (-1)] (by decide) (by decide) (by decide)) he_6), (36, .call (SR4Same darkE (ofR_rk 0 [0, (-1)] (by decide) (by decide) (by decide))) hg_5), (40, .cmp (op := .eql) (m := (-1)) (n := (-1)) (b := true) .i64 (show (((-1) : Int) == (-1)) = true from rfl))] [(0, vb true)] [] (by kernel_rfl) h ?_; clear h; intro a w h
 refine wp_ret ?_
 refine retS [.c (.d (.raw (.bool true)))] h Exit.ret (.inl rfl)  rfl ⟨RV.tmp _ _ rfl, trivial⟩ ?_ (by kernel_rfl) (by kernel_rfl)
 rfl
end Go.Proofs.YtoklkfmffmonoaaGreat.S
end
section
namespace Go.Proofs.YtoklkfmffmonoaaGreat.S
open Go.RowKit

end Go.Proofs.YtoklkfmffmonoaaGreat.S
end
section
namespace Go.Proofs.YtoklkfmffmonoaaGreat.S
open Go.RowKit

theorem each_rk {rs : List RelD} (hrs : RsOk rs) (v : Int) {sh : SideD → SideD → Term} (hsh : ∀ l h, SideOk l → SideOk h → TOk 40 88 (sh l h)) : ∀ r ∈ eachS sh rs v, RkOk r := fun r hr => by
 unfold eachS at hr
 rcases List.mem_append.1 hr with h | h
 ·obtain ⟨q, hq, hm⟩ := List.mem_flatMap.1 h
  unfold othF at hm
  split at hm
  ·rw [List.mem_singleton.1 hm]; exact ((hrs.2 q hq).plain (by decide)).mono (by decide) (by decide)
  ·cases hm
 ·obtain ⟨l, hl, hq2⟩ := List.mem_flatMap.1 h
  obtain ⟨m, hm, rfl⟩ := List.mem_map.1 hq2
  exact ((hsh l m (lows_ok hrs v l hl) (highs_ok hrs v m hm)).plain (by decide)).mono (by decide) (by decide)
theorem real_rk {rs : List RelD} (hrs : RsOk rs) (v : Int) : ∀ r ∈ eachS brightT rs v, RkOk r := each_rk hrs v fun _ _ hl hh => (bright_ok hl hh).mono (by decide) (by decide)
theorem dark_rk {rs : List RelD} (hrs : RsOk rs) (v : Int) : ∀ r ∈ eachS darkT rs v, RkOk r := each_rk hrs v fun _ _ hl hh => dark_ok hl hh
theorem each_len2 {rs : List RelD} (hrs : RsOk rs) (v : Int) (sh : SideD → SideD → Term) : (eachS sh rs v).length ≤ 420 := by
 have := each_len hrs (sh := sh) v (lowsOf rs v).length
 rwa [List.take_length] at this
end Go.Proofs.YtoklkfmffmonoaaGreat.S
end
section
namespace Go.Proofs.YtoklkfmffmonoaaGreat.S
open Go.RowKit

theorem hr_0 : Bodied Tryz.prog 15 := Bodied.mk' (by kernel_rfl)
end Go.Proofs.YtoklkfmffmonoaaGreat.S
end
section
namespace Go.Proofs.YtoklkfmffmonoaaGreat.S
open Go.RowKit

end Go.Proofs.YtoklkfmffmonoaaGreat.S
end
section
namespace Go.Proofs.YtoklkfmffmonoaaGreat.S
open Go.RowKit

theorem ones_snoc (l : List SideD) (x : SideD) : onesS (l ++ [x]) = (onesS l && (cmpZ x.times.val 1 == 0)) := by
 unfold onesS
 rw [List.any_append, Bool.not_or]
 congr 1
 simp [bne]
theorem ones_at {v : Int} {x : RelD} {r one : ZI} (hr : r.val = ((coefZ x.t.parts v).natAbs : Int)) (ho : one.val = 1) : (cmpZ (sideOf v x).times.val 1 == 0) = (cmpZ r.val one.val == 0) := by
 unfold sideOf; rw [ZI.val_of, hr, ho]
theorem snoc_len {α : Type} (l : List α) (x : α) : ((l ++ [x]).length : Int) = (l.length : Int) + 1 := by rw [List.length_append]; rfl
theorem RsOk.take {rs : List RelD} (h : RsOk rs) (j : Nat) : RsOk (rs.take j) := ⟨by rw [List.length_take]; have := h.1; omega, fun r hr => h.2 r (List.mem_of_mem_take hr)⟩
set_option maxHeartbeats 4000000 in
theorem SRCount (rs : List RelD) (v : Int) (hrs : RsOk rs) : Fn Tryz.prog 50 [] [.t (.c (.d (.sl 4 (rs.map RelD.d)))), vi .i64 v] (.tup [.c (.d (.raw (.int .i64 ((lowsOf rs v).length : Int)))), .c (.d (.raw (.int .i64 ((highsOf rs v).length : Int)))), .c (.d (.raw (.bool (exactS (splitS rs v)))))]) [] := by
 have lrs := hrs.1
 refine Fn.body Tryz.func50 rfl 60 rfl fun w H B a h => ?_
 refine rSeq fam0ok 0 [] [(0, .t (.c (.d (.sl 4 (rs.map RelD.d))))), (1, vi .i64 v), (4, vi .i64 0), (5, vi .i64 0), (6, vb false)] [] (by kernel_rfl) h ?_; clear h; intro a w h
 refine rSeq fam0ok 0 [] [(0, .t (.c (.d (.sl 4 (rs.map RelD.d))))), (1, vi .i64 v), (4, vi .i64 0), (5, vi .i64 0), (6, vb false), (7, vi .i64 0), (8, vi .i64 0)] [] (by kernel_rfl) h ?_; clear h; intro a w h
 refine rSeq fam0ok 0 [] [(0, .t (.c (.d (.sl 4 (rs.map RelD.d))))), (1, vi .i64 v), (4, vi .i64 0), (5, vi .i64 0), (6, vb false), (7, vi .i64 0), (8, vi .i64 0), (9, vb true), (10, vb true)] [] (by kernel_rfl) h ?_; clear h; intro a w h
 refine wp_seq ?_
 refine rSeq fam0ok 0 [] [(0, .t (.c (.d (.sl 4 (rs.map RelD.d))))), (1, vi .i64 v), (4, vi .i64 0), (5, vi .i64 0), (6, vb false), (7, vi .i64 0), (8, vi .i64 0), (9, vb true), (10, vb true), (11, vi .i64 0)] [] (by kernel_rfl) h ?_; clear h; intro a w h
 refine wp_block ?_
 refine loopS (ι := (Nat) × (Bool) × (Bool)) (fun (z_ : (Nat) × (Bool) × (Bool)) => match z_ with | (j, lo, hi) => j ≤ rs.length ∧ lo = onesS (lowsOf (rs.take j) v) ∧ hi = onesS (highsOf (rs.take j) v))
   (fun (z_ : (Nat) × (Bool) × (Bool)) => match z_ with | (j, lo, hi) => [(0, .t (.c (.d (.sl 4 (rs.map RelD.d))))), (1, vi .i64 v), (4, vi .i64 0), (5, vi .i64 0), (6, vb false), (7, vi .i64 ((lowsOf (rs.take j) v).length : Int)), (8, vi .i64 ((highsOf (rs.take j) v).length : Int)), (9, vb lo), (10, vb hi), (11, vi .i64 (j : Int))])
   (fun (z_ : (Nat) × (Bool) × (Bool)) => match z_ with | (j, lo, hi) => [])
   (fun (z_ : (Nat) × (Bool) × (Bool)) => match z_ with | (j, lo, hi) => rs.length - j) (0, true, true) ?_ h (by kernel_rfl) (by kernel_rfl) ?_
 ·exact ⟨Nat.zero_le _, rfl, rfl⟩
 ·clear h; rintro ⟨j, lo, hi⟩ a w hI h
  change St _ (F.of [(0, .t (.c (.d (.sl 4 (rs.map RelD.d))))), (1, vi .i64 v), (4, vi .i64 0), (5, vi .i64 0), (6, vb false), (7, vi .i64 ((lowsOf (rs.take j) v).length : Int)), (8, vi .i64 ((highsOf (rs.take j) v).length : Int)), (9, vb lo), (10, vb hi), (11, vi .i64 (j : Int))] []) a w at h
  obtain ⟨hI1, hI2, hI3⟩ := hI
  have hl1 := lows_len (RsOk.take hrs j) v
  have hh1 := highs_len (RsOk.take hrs j) v
  refine wp_seq ?_
  refine rSeq fam0ok 0 [(2, .len (c := (.d (.sl 4 (rs.map RelD.d)))) (n := rs.length) (lenC_map _ _ _))] [(0, .t (.c (.d (.sl 4 (rs.map RelD.d))))), (1, vi .i64 v), (4, vi .i64 0), (5, vi .i64 0), (6, vb false), (7, vi .i64 ((lowsOf (rs.take j) v).length : Int)), (8, vi .i64 ((highsOf (rs.take j) v).length : Int)), (9, vb lo), (10, vb hi), (11, vi .i64 (j : Int)), (16, vb (decide ((j : Int) < (rs.length : Int))))] [] (by kernel_rfl) h ?_; clear h; intro a w h
  refine condS (decide ((j : Int) < (rs.length : Int))) h rfl (fun hc => ?_) (fun hc => ?_)
  ·have hc1 := hc; clear hc
   have hc1' := of_decide_eq_true hc1
   refine wp_skip ?_
   refine then_n ?_
   refine wp_seq ?_
   refine wp_block ?_
   obtain ⟨x1, hx1⟩ : ∃ z_ : RelD, rs[j]? = some z_ := ⟨_, List.getElem?_eq_getElem (by first | omega | (simp at *; omega))⟩
   have gx1 : TOk 20 8 x1.t := hrs.2 x1 (List.mem_of_getElem? hx1)
   obtain ⟨r2, er2, vr2, or2, lr2⟩ := mkZ (v := ((coefZ x1.t.parts v).natAbs : Int)) (m := 9) ((side_ok gx1 v).len)
   obtain ⟨r3, er3, vr3, or3, lr3⟩ := mkZ (v := 1) (m := 2) (ZI.len_of (by have := pw2; omega))
   refine rSeq fam0ok 0 [(2, .gen _ _ _ fun _ _ _ _ => Op.idxD (d := 21) (t := 19) (k := .i64) kc_3 (map_at hx1 (f := RelD.d)) (OV.tmp 20 _)), (5, .call (Fn.cast (STimes7 x1 v gx1) (congrArg vz er2.symm)) hd_10), (6, .call (Fn.cast (SROf 1 ⟨by omega, by omega⟩) (congrArg vz er3.symm)) tc_0), (7, .call (SRCmp r2 r3 or2 or3 (by omega) (by omega)) ub_1)] [(0, .t (.c (.d (.sl 4 (rs.map RelD.d))))), (1, vi .i64 v), (4, vi .i64 0), (5, vi .i64 0), (6, vb false), (7, vi .i64 ((lowsOf (rs.take j) v).length : Int)), (8, vi .i64 ((highsOf (rs.take j) v).length : Int)), (9, vb lo), (10, vb hi), (11, vi .i64 (j : Int)), (12, vb (cmpZ r2.val r3.val == 0))] [] (by kernel_rfl) h ?_; clear h; intro a w h
   refine wp_seq ?_
   refine rSeq fam0ok 0 [(2, .gen _ _ _ fun _ _ _ _ => Op.idxD (d := 30) (t := 28) (k := .i64) kc_3 (map_at hx1 (f := RelD.d)) (OV.tmp 29 _)), (5, .call (SSign7 x1 v gx1) hd_11)] [(0, .t (.c (.d (.sl 4 (rs.map RelD.d))))), (1, vi .i64 v), (4, vi .i64 0), (5, vi .i64 0), (6, vb false), (7, vi .i64 ((lowsOf (rs.take j) v).length : Int)), (8, vi .i64 ((highsOf (rs.take j) v).length : Int)), (9, vb lo), (10, vb hi), (11, vi .i64 (j : Int)), (12, vb (cmpZ r2.val r3.val == 0)), (34, vb (decide (sgn (coefZ x1.t.parts v) > 0)))] [] (by kernel_rfl) h ?_; clear h; intro a w h
   refine condS (decide (sgn (coefZ x1.t.parts v) > 0)) h rfl (fun hc => ?_) (fun hc => ?_)
   ·have hc2 := hc; clear hc
    have hc2' := of_decide_eq_true hc2
    refine rSeq fam0ok 0 [(1, .add .i64 (m := ((lowsOf (rs.take j) v).length : Int)) (n := 1) (i64_id (by omega) (by omega)))] [(0, .t (.c (.d (.sl 4 (rs.map RelD.d))))), (1, vi .i64 v), (4, vi .i64 0), (5, vi .i64 0), (6, vb false), (7, vi .i64 (((lowsOf (rs.take j) v).length : Int) + 1)), (8, vi .i64 ((highsOf (rs.take j) v).length : Int)), (9, vb lo), (10, vb hi), (11, vi .i64 (j : Int)), (12, vb (cmpZ r2.val r3.val == 0))] [] (by kernel_rfl) h ?_; clear h; intro a w h
    rcases Bool.eq_false_or_eq_true lo with hc | hc
    ·have hc3 := hc; clear hc
     rw [hc3] at h
     refine rS fam0ok 0 [] [(0, .t (.c (.d (.sl 4 (rs.map RelD.d))))), (1, vi .i64 v), (4, vi .i64 0), (5, vi .i64 0), (6, vb false), (7, vi .i64 (((lowsOf (rs.take j) v).length : Int) + 1)), (8, vi .i64 ((highsOf (rs.take j) v).length : Int)), (9, vb (cmpZ r2.val r3.val == 0)), (10, vb hi), (11, vi .i64 (j : Int)), (12, vb (cmpZ r2.val r3.val == 0))] [] (by kernel_rfl) h ?_; clear h; intro a w h
     refine then_n ?_
     refine rSeq fam0ok 0 [(2, .gen _ _ _ fun _ _ _ _ => Op.idxD (d := 43) (t := 41) (k := .i64) kc_3 (map_at hx1 (f := RelD.d)) (OV.tmp 42 _)), (5, .call (SSign7 x1 v gx1) hd_11)] [(0, .t (.c (.d (.sl 4 (rs.map RelD.d))))), (1, vi .i64 v), (4, vi .i64 0), (5, vi .i64 0), (6, vb false), (7, vi .i64 (((lowsOf (rs.take j) v).length : Int) + 1)), (8, vi .i64 ((highsOf (rs.take j) v).length : Int)), (9, vb (cmpZ r2.val r3.val == 0)), (10, vb hi), (11, vi .i64 (j : Int)), (12, vb (cmpZ r2.val r3.val == 0)), (47, vb (decide (sgn (coefZ x1.t.parts v) < 0)))] [] (by kernel_rfl) h ?_; clear h; intro a w h
     refine condS (decide (sgn (coefZ x1.t.parts v) < 0)) h rfl (fun hc => ?_) (fun hc => ?_)
     ·have hc4 := hc; clear hc
      have hc4' := of_decide_eq_true hc4
      refine rSeq fam0ok 0 [(1, .add .i64 (m := ((highsOf (rs.take j) v).length : Int)) (n := 1) (i64_id (by omega) (by omega)))] [(0, .t (.c (.d (.sl 4 (rs.map RelD.d))))), (1, vi .i64 v), (4, vi .i64 0), (5, vi .i64 0), (6, vb false), (7, vi .i64 (((lowsOf (rs.take j) v).length : Int) + 1)), (8, vi .i64 (((highsOf (rs.take j) v).length : Int) + 1)), (9, vb (cmpZ r2.val r3.val == 0)), (10, vb hi), (11, vi .i64 (j : Int)), (12, vb (cmpZ r2.val r3.val == 0))] [] (by kernel_rfl) h ?_; clear h; intro a w h
      rcases Bool.eq_false_or_eq_true hi with hc | hc
      ·have hc5 := hc; clear hc
       rw [hc5] at h
       refine rS fam0ok 0 [] [(0, .t (.c (.d (.sl 4 (rs.map RelD.d))))), (1, vi .i64 v), (4, vi .i64 0), (5, vi .i64 0), (6, vb false), (7, vi .i64 (((lowsOf (rs.take j) v).length : Int) + 1)), (8, vi .i64 (((highsOf (rs.take j) v).length : Int) + 1)), (9, vb (cmpZ r2.val r3.val == 0)), (10, vb (cmpZ r2.val r3.val == 0)), (11, vi .i64 (j : Int))] [] (by kernel_rfl) h ?_; clear h; intro a w h
       refine block_n ?_
       refine then_n ?_
       refine rS fam0ok 0 [(1, .add .i64 (m := (j : Int)) (n := 1) (i64_id (by omega) (by omega)))] [(0, .t (.c (.d (.sl 4 (rs.map RelD.d))))), (1, vi .i64 v), (4, vi .i64 0), (5, vi .i64 0), (6, vb false), (7, vi .i64 (((lowsOf (rs.take j) v).length : Int) + 1)), (8, vi .i64 (((highsOf (rs.take j) v).length : Int) + 1)), (9, vb (cmpZ r2.val r3.val == 0)), (10, vb (cmpZ r2.val r3.val == 0)), (11, vi .i64 ((j : Int) + 1))] [] (by kernel_rfl) h ?_; clear h; intro a w h
       refine then_n ?_
       have hqlow : ((lowsOf (rs.take j) v).length : Int) + 1 = ((lowsOf (rs.take (j + 1)) v).length : Int) := by rw [lows_take hx1, low_yes hc2, snoc_len]
       rw [hqlow] at h
       have hqhigh : ((highsOf (rs.take j) v).length : Int) + 1 = ((highsOf (rs.take (j + 1)) v).length : Int) := by rw [highs_take hx1, high_yes hc4, snoc_len]
       rw [hqhigh] at h
       refine roundS (x := (j, lo, hi)) (y := (j + 1, cmpZ r2.val r3.val == 0, cmpZ r2.val r3.val == 0)) h ?_ ?_ (by kernel_rfl) (by kernel_rfl)
       ·have := at_lt hx1
        exact ⟨by omega, (by rw [lows_take hx1, low_yes hc2, ones_snoc, ← hI2, hc3, ones_at vr2 vr3]; first | done | rfl), (by rw [highs_take hx1, high_yes hc4, ones_snoc, ← hI3, hc5, ones_at vr2 vr3]; first | done | rfl)⟩
       ·show rs.length - (j + 1) < rs.length - j
        have := at_lt hx1; omega
      ·have hc6 := hc; clear hc
       rw [hc6] at h
       refine rS fam0ok 0 [] [(0, .t (.c (.d (.sl 4 (rs.map RelD.d))))), (1, vi .i64 v), (4, vi .i64 0), (5, vi .i64 0), (6, vb false), (7, vi .i64 (((lowsOf (rs.take j) v).length : Int) + 1)), (8, vi .i64 (((highsOf (rs.take j) v).length : Int) + 1)), (9, vb (cmpZ r2.val r3.val == 0)), (10, vb false), (11, vi .i64 (j : Int))] [] (by kernel_rfl) h ?_; clear h; intro a w h
       refine block_n ?_
       refine then_n ?_
       refine rS fam0ok 0 [(1, .add .i64 (m := (j : Int)) (n := 1) (i64_id (by omega) (by omega)))] [(0, .t (.c (.d (.sl 4 (rs.map RelD.d))))), (1, vi .i64 v), (4, vi .i64 0), (5, vi .i64 0), (6, vb false), (7, vi .i64 (((lowsOf (rs.take j) v).length : Int) + 1)), (8, vi .i64 (((highsOf (rs.take j) v).length : Int) + 1)), (9, vb (cmpZ r2.val r3.val == 0)), (10, vb false), (11, vi .i64 ((j : Int) + 1))] [] (by kernel_rfl) h ?_; clear h; intro a w h
       refine then_n ?_
       have hqlow : ((lowsOf (rs.take j) v).length : Int) + 1 = ((lowsOf (rs.take (j + 1)) v).length : Int) := by rw [lows_take hx1, low_yes hc2, snoc_len]
       rw [hqlow] at h
       have hqhigh : ((highsOf (rs.take j) v).length : Int) + 1 = ((highsOf (rs.take (j + 1)) v).length : Int) := by rw [highs_take hx1, high_yes hc4, snoc_len]
       rw [hqhigh] at h
       refine roundS (x := (j, lo, hi)) (y := (j + 1, cmpZ r2.val r3.val == 0, false)) h ?_ ?_ (by kernel_rfl) (by kernel_rfl)
       ·have := at_lt hx1
        exact ⟨by omega, (by rw [lows_take hx1, low_yes hc2, ones_snoc, ← hI2, hc3, ones_at vr2 vr3]; first | done | rfl), (by rw [highs_take hx1, high_yes hc4, ones_snoc, ← hI3, hc6, ones_at vr2 vr3]; first | done | rfl)⟩
       ·show rs.length - (j + 1) < rs.length - j
        have := at_lt hx1; omega
     ·have hc7 := hc; clear hc
      have hc7' := of_decide_eq_false hc7
      refine wp_skip ?_
      refine block_n ?_
      refine then_n ?_
      refine rS fam0ok 0 [(1, .add .i64 (m := (j : Int)) (n := 1) (i64_id (by omega) (by omega)))] [(0, .t (.c (.d (.sl 4 (rs.map RelD.d))))), (1, vi .i64 v), (4, vi .i64 0), (5, vi .i64 0), (6, vb false), (7, vi .i64 (((lowsOf (rs.take j) v).length : Int) + 1)), (8, vi .i64 ((highsOf (rs.take j) v).length : Int)), (9, vb (cmpZ r2.val r3.val == 0)), (10, vb hi), (11, vi .i64 ((j : Int) + 1))] [] (by kernel_rfl) h ?_; clear h; intro a w h
      refine then_n ?_
      have hqlow : ((lowsOf (rs.take j) v).length : Int) + 1 = ((lowsOf (rs.take (j + 1)) v).length : Int) := by rw [lows_take hx1, low_yes hc2, snoc_len]
      rw [hqlow] at h
      have hqhigh : ((highsOf (rs.take j) v).length : Int) = ((highsOf (rs.take (j + 1)) v).length : Int) := by rw [highs_take hx1, high_no hc7, List.append_nil]
      rw [hqhigh] at h
      refine roundS (x := (j, lo, hi)) (y := (j + 1, cmpZ r2.val r3.val == 0, hi)) h ?_ ?_ (by kernel_rfl) (by kernel_rfl)
      ·have := at_lt hx1
       exact ⟨by omega, (by rw [lows_take hx1, low_yes hc2, ones_snoc, ← hI2, hc3, ones_at vr2 vr3]; first | done | rfl), (by rw [highs_take hx1, high_no hc7, List.append_nil]; exact hI3)⟩
      ·show rs.length - (j + 1) < rs.length - j
       have := at_lt hx1; omega
    ·have hc8 := hc; clear hc
     rw [hc8] at h
     refine rS fam0ok 0 [] [(0, .t (.c (.d (.sl 4 (rs.map RelD.d))))), (1, vi .i64 v), (4, vi .i64 0), (5, vi .i64 0), (6, vb false), (7, vi .i64 (((lowsOf (rs.take j) v).length : Int) + 1)), (8, vi .i64 ((highsOf (rs.take j) v).length : Int)), (9, vb false), (10, vb hi), (11, vi .i64 (j : Int)), (12, vb (cmpZ r2.val r3.val == 0))] [] (by kernel_rfl) h ?_; clear h; intro a w h
     refine then_n ?_
     refine rSeq fam0ok 0 [(2, .gen _ _ _ fun _ _ _ _ => Op.idxD (d := 43) (t := 41) (k := .i64) kc_3 (map_at hx1 (f := RelD.d)) (OV.tmp 42 _)), (5, .call (SSign7 x1 v gx1) hd_11)] [(0, .t (.c (.d (.sl 4 (rs.map RelD.d))))), (1, vi .i64 v), (4, vi .i64 0), (5, vi .i64 0), (6, vb false), (7, vi .i64 (((lowsOf (rs.take j) v).length : Int) + 1)), (8, vi .i64 ((highsOf (rs.take j) v).length : Int)), (9, vb false), (10, vb hi), (11, vi .i64 (j : Int)), (12, vb (cmpZ r2.val r3.val == 0)), (47, vb (decide (sgn (coefZ x1.t.parts v) < 0)))] [] (by kernel_rfl) h ?_; clear h; intro a w h
     refine condS (decide (sgn (coefZ x1.t.parts v) < 0)) h rfl (fun hc => ?_) (fun hc => ?_)
     ·have hc9 := hc; clear hc
      have hc9' := of_decide_eq_true hc9
      refine rSeq fam0ok 0 [(1, .add .i64 (m := ((highsOf (rs.take j) v).length : Int)) (n := 1) (i64_id (by omega) (by omega)))] [(0, .t (.c (.d (.sl 4 (rs.map RelD.d))))), (1, vi .i64 v), (4, vi .i64 0), (5, vi .i64 0), (6, vb false), (7, vi .i64 (((lowsOf (rs.take j) v).length : Int) + 1)), (8, vi .i64 (((highsOf (rs.take j) v).length : Int) + 1)), (9, vb false), (10, vb hi), (11, vi .i64 (j : Int)), (12, vb (cmpZ r2.val r3.val == 0))] [] (by kernel_rfl) h ?_; clear h; intro a w h
      rcases Bool.eq_false_or_eq_true hi with hc | hc
      ·have hc10 := hc; clear hc
       rw [hc10] at h
       refine rS fam0ok 0 [] [(0, .t (.c (.d (.sl 4 (rs.map RelD.d))))), (1, vi .i64 v), (4, vi .i64 0), (5, vi .i64 0), (6, vb false), (7, vi .i64 (((lowsOf (rs.take j) v).length : Int) + 1)), (8, vi .i64 (((highsOf (rs.take j) v).length : Int) + 1)), (9, vb false), (10, vb (cmpZ r2.val r3.val == 0)), (11, vi .i64 (j : Int))] [] (by kernel_rfl) h ?_; clear h; intro a w h
       refine block_n ?_
       refine then_n ?_
       refine rS fam0ok 0 [(1, .add .i64 (m := (j : Int)) (n := 1) (i64_id (by omega) (by omega)))] [(0, .t (.c (.d (.sl 4 (rs.map RelD.d))))), (1, vi .i64 v), (4, vi .i64 0), (5, vi .i64 0), (6, vb false), (7, vi .i64 (((lowsOf (rs.take j) v).length : Int) + 1)), (8, vi .i64 (((highsOf (rs.take j) v).length : Int) + 1)), (9, vb false), (10, vb (cmpZ r2.val r3.val == 0)), (11, vi .i64 ((j : Int) + 1))] [] (by kernel_rfl) h ?_; clear h; intro a w h
       refine then_n ?_
       have hqlow : ((lowsOf (rs.take j) v).length : Int) + 1 = ((lowsOf (rs.take (j + 1)) v).length : Int) := by rw [lows_take hx1, low_yes hc2, snoc_len]
       rw [hqlow] at h
       have hqhigh : ((highsOf (rs.take j) v).length : Int) + 1 = ((highsOf (rs.take (j + 1)) v).length : Int) := by rw [highs_take hx1, high_yes hc9, snoc_len]
       rw [hqhigh] at h
       refine roundS (x := (j, lo, hi)) (y := (j + 1, false, cmpZ r2.val r3.val == 0)) h ?_ ?_ (by kernel_rfl) (by kernel_rfl)
       ·have := at_lt hx1
        exact ⟨by omega, (by rw [lows_take hx1, low_yes hc2, ones_snoc, ← hI2, hc8, ones_at vr2 vr3]; first | done | rfl), (by rw [highs_take hx1, high_yes hc9, ones_snoc, ← hI3, hc10, ones_at vr2 vr3]; first | done | rfl)⟩
       ·show rs.length - (j + 1) < rs.length - j
        have := at_lt hx1; omega
      ·have hc11 := hc; clear hc
       rw [hc11] at h
       refine rS fam0ok 0 [] [(0, .t (.c (.d (.sl 4 (rs.map RelD.d))))), (1, vi .i64 v), (4, vi .i64 0), (5, vi .i64 0), (6, vb false), (7, vi .i64 (((lowsOf (rs.take j) v).length : Int) + 1)), (8, vi .i64 (((highsOf (rs.take j) v).length : Int) + 1)), (9, vb false), (10, vb false), (11, vi .i64 (j : Int))] [] (by kernel_rfl) h ?_; clear h; intro a w h
       refine block_n ?_
       refine then_n ?_
       refine rS fam0ok 0 [(1, .add .i64 (m := (j : Int)) (n := 1) (i64_id (by omega) (by omega)))] [(0, .t (.c (.d (.sl 4 (rs.map RelD.d))))), (1, vi .i64 v), (4, vi .i64 0), (5, vi .i64 0), (6, vb false), (7, vi .i64 (((lowsOf (rs.take j) v).length : Int) + 1)), (8, vi .i64 (((highsOf (rs.take j) v).length : Int) + 1)), (9, vb false), (10, vb false), (11, vi .i64 ((j : Int) + 1))] [] (by kernel_rfl) h ?_; clear h; intro a w h
       refine then_n ?_
       have hqlow : ((lowsOf (rs.take j) v).length : Int) + 1 = ((lowsOf (rs.take (j + 1)) v).length : Int) := by rw [lows_take hx1, low_yes hc2, snoc_len]
       rw [hqlow] at h
       have hqhigh : ((highsOf (rs.take j) v).length : Int) + 1 = ((highsOf (rs.take (j + 1)) v).length : Int) := by rw [highs_take hx1, high_yes hc9, snoc_len]
       rw [hqhigh] at h
       refine roundS (x := (j, lo, hi)) (y := (j + 1, false, false)) h ?_ ?_ (by kernel_rfl) (by kernel_rfl)
       ·have := at_lt hx1
        exact ⟨by omega, (by rw [lows_take hx1, low_yes hc2, ones_snoc, ← hI2, hc8, ones_at vr2 vr3]; first | done | rfl), (by rw [highs_take hx1, high_yes hc9, ones_snoc, ← hI3, hc11, ones_at vr2 vr3]; first | done | rfl)⟩
       ·show rs.length - (j + 1) < rs.length - j
        have := at_lt hx1; omega
     ·have hc12 := hc; clear hc
      have hc12' := of_decide_eq_false hc12
      refine wp_skip ?_
      refine block_n ?_
      refine then_n ?_
      refine rS fam0ok 0 [(1, .add .i64 (m := (j : Int)) (n := 1) (i64_id (by omega) (by omega)))] [(0, .t (.c (.d (.sl 4 (rs.map RelD.d))))), (1, vi .i64 v), (4, vi .i64 0), (5, vi .i64 0), (6, vb false), (7, vi .i64 (((lowsOf (rs.take j) v).length : Int) + 1)), (8, vi .i64 ((highsOf (rs.take j) v).length : Int)), (9, vb false), (10, vb hi), (11, vi .i64 ((j : Int) + 1))] [] (by kernel_rfl) h ?_; clear h; intro a w h
      refine then_n ?_
      have hqlow : ((lowsOf (rs.take j) v).length : Int) + 1 = ((lowsOf (rs.take (j + 1)) v).length : Int) := by rw [lows_take hx1, low_yes hc2, snoc_len]
      rw [hqlow] at h
      have hqhigh : ((highsOf (rs.take j) v).length : Int) = ((highsOf (rs.take (j + 1)) v).length : Int) := by rw [highs_take hx1, high_no hc12, List.append_nil]
      rw [hqhigh] at h
      refine roundS (x := (j, lo, hi)) (y := (j + 1, false, hi)) h ?_ ?_ (by kernel_rfl) (by kernel_rfl)
      ·have := at_lt hx1
       exact ⟨by omega, (by rw [lows_take hx1, low_yes hc2, ones_snoc, ← hI2, hc8, ones_at vr2 vr3]; first | done | rfl), (by rw [highs_take hx1, high_no hc12, List.append_nil]; exact hI3)⟩
      ·show rs.length - (j + 1) < rs.length - j
       have := at_lt hx1; omega
   ·have hc13 := hc; clear hc
    have hc13' := of_decide_eq_false hc13
    refine wp_skip ?_
    refine then_n ?_
    refine rSeq fam0ok 0 [(2, .gen _ _ _ fun _ _ _ _ => Op.idxD (d := 43) (t := 41) (k := .i64) kc_3 (map_at hx1 (f := RelD.d)) (OV.tmp 42 _)), (5, .call (SSign7 x1 v gx1) hd_11)] [(0, .t (.c (.d (.sl 4 (rs.map RelD.d))))), (1, vi .i64 v), (4, vi .i64 0), (5, vi .i64 0), (6, vb false), (7, vi .i64 ((lowsOf (rs.take j) v).length : Int)), (8, vi .i64 ((highsOf (rs.take j) v).length : Int)), (9, vb lo), (10, vb hi), (11, vi .i64 (j : Int)), (12, vb (cmpZ r2.val r3.val == 0)), (47, vb (decide (sgn (coefZ x1.t.parts v) < 0)))] [] (by kernel_rfl) h ?_; clear h; intro a w h
    refine condS (decide (sgn (coefZ x1.t.parts v) < 0)) h rfl (fun hc => ?_) (fun hc => ?_)
    ·have hc14 := hc; clear hc
     have hc14' := of_decide_eq_true hc14
     refine rSeq fam0ok 0 [(1, .add .i64 (m := ((highsOf (rs.take j) v).length : Int)) (n := 1) (i64_id (by omega) (by omega)))] [(0, .t (.c (.d (.sl 4 (rs.map RelD.d))))), (1, vi .i64 v), (4, vi .i64 0), (5, vi .i64 0), (6, vb false), (7, vi .i64 ((lowsOf (rs.take j) v).length : Int)), (8, vi .i64 (((highsOf (rs.take j) v).length : Int) + 1)), (9, vb lo), (10, vb hi), (11, vi .i64 (j : Int)), (12, vb (cmpZ r2.val r3.val == 0))] [] (by kernel_rfl) h ?_; clear h; intro a w h
     rcases Bool.eq_false_or_eq_true hi with hc | hc
     ·have hc15 := hc; clear hc
      rw [hc15] at h
      refine rS fam0ok 0 [] [(0, .t (.c (.d (.sl 4 (rs.map RelD.d))))), (1, vi .i64 v), (4, vi .i64 0), (5, vi .i64 0), (6, vb false), (7, vi .i64 ((lowsOf (rs.take j) v).length : Int)), (8, vi .i64 (((highsOf (rs.take j) v).length : Int) + 1)), (9, vb lo), (10, vb (cmpZ r2.val r3.val == 0)), (11, vi .i64 (j : Int))] [] (by kernel_rfl) h ?_; clear h; intro a w h
      refine block_n ?_
      refine then_n ?_
      refine rS fam0ok 0 [(1, .add .i64 (m := (j : Int)) (n := 1) (i64_id (by omega) (by omega)))] [(0, .t (.c (.d (.sl 4 (rs.map RelD.d))))), (1, vi .i64 v), (4, vi .i64 0), (5, vi .i64 0), (6, vb false), (7, vi .i64 ((lowsOf (rs.take j) v).length : Int)), (8, vi .i64 (((highsOf (rs.take j) v).length : Int) + 1)), (9, vb lo), (10, vb (cmpZ r2.val r3.val == 0)), (11, vi .i64 ((j : Int) + 1))] [] (by kernel_rfl) h ?_; clear h; intro a w h
      refine then_n ?_
      have hqlow : ((lowsOf (rs.take j) v).length : Int) = ((lowsOf (rs.take (j + 1)) v).length : Int) := by rw [lows_take hx1, low_no hc13, List.append_nil]
      rw [hqlow] at h
      have hqhigh : ((highsOf (rs.take j) v).length : Int) + 1 = ((highsOf (rs.take (j + 1)) v).length : Int) := by rw [highs_take hx1, high_yes hc14, snoc_len]
      rw [hqhigh] at h
      refine roundS (x := (j, lo, hi)) (y := (j + 1, lo, cmpZ r2.val r3.val == 0)) h ?_ ?_ (by kernel_rfl) (by kernel_rfl)
      ·have := at_lt hx1
       exact ⟨by omega, (by rw [lows_take hx1, low_no hc13, List.append_nil]; exact hI2), (by rw [highs_take hx1, high_yes hc14, ones_snoc, ← hI3, hc15, ones_at vr2 vr3]; first | done | rfl)⟩
      ·show rs.length - (j + 1) < rs.length - j
       have := at_lt hx1; omega
     ·have hc16 := hc; clear hc
      rw [hc16] at h
      refine rS fam0ok 0 [] [(0, .t (.c (.d (.sl 4 (rs.map RelD.d))))), (1, vi .i64 v), (4, vi .i64 0), (5, vi .i64 0), (6, vb false), (7, vi .i64 ((lowsOf (rs.take j) v).length : Int)), (8, vi .i64 (((highsOf (rs.take j) v).length : Int) + 1)), (9, vb lo), (10, vb false), (11, vi .i64 (j : Int))] [] (by kernel_rfl) h ?_; clear h; intro a w h
      refine block_n ?_
      refine then_n ?_
      refine rS fam0ok 0 [(1, .add .i64 (m := (j : Int)) (n := 1) (i64_id (by omega) (by omega)))] [(0, .t (.c (.d (.sl 4 (rs.map RelD.d))))), (1, vi .i64 v), (4, vi .i64 0), (5, vi .i64 0), (6, vb false), (7, vi .i64 ((lowsOf (rs.take j) v).length : Int)), (8, vi .i64 (((highsOf (rs.take j) v).length : Int) + 1)), (9, vb lo), (10, vb false), (11, vi .i64 ((j : Int) + 1))] [] (by kernel_rfl) h ?_; clear h; intro a w h
      refine then_n ?_
      have hqlow : ((lowsOf (rs.take j) v).length : Int) = ((lowsOf (rs.take (j + 1)) v).length : Int) := by rw [lows_take hx1, low_no hc13, List.append_nil]
      rw [hqlow] at h
      have hqhigh : ((highsOf (rs.take j) v).length : Int) + 1 = ((highsOf (rs.take (j + 1)) v).length : Int) := by rw [highs_take hx1, high_yes hc14, snoc_len]
      rw [hqhigh] at h
      refine roundS (x := (j, lo, hi)) (y := (j + 1, lo, false)) h ?_ ?_ (by kernel_rfl) (by kernel_rfl)
      ·have := at_lt hx1
       exact ⟨by omega, (by rw [lows_take hx1, low_no hc13, List.append_nil]; exact hI2), (by rw [highs_take hx1, high_yes hc14, ones_snoc, ← hI3, hc16, ones_at vr2 vr3]; first | done | rfl)⟩
      ·show rs.length - (j + 1) < rs.length - j
       have := at_lt hx1; omega
    ·have hc17 := hc; clear hc
     have hc17' := of_decide_eq_false hc17
     refine wp_skip ?_
     refine block_n ?_
     refine then_n ?_
     refine rS fam0ok 0 [(1, .add .i64 (m := (j : Int)) (n := 1) (i64_id (by omega) (by omega)))] [(0, .t (.c (.d (.sl 4 (rs.map RelD.d))))), (1, vi .i64 v), (4, vi .i64 0), (5, vi .i64 0), (6, vb false), (7, vi .i64 ((lowsOf (rs.take j) v).length : Int)), (8, vi .i64 ((highsOf (rs.take j) v).length : Int)), (9, vb lo), (10, vb hi), (11, vi .i64 ((j : Int) + 1))] [] (by kernel_rfl) h ?_; clear h; intro a w h
     refine then_n ?_
     have hqlow : ((lowsOf (rs.take j) v).length : Int) = ((lowsOf (rs.take (j + 1)) v).length : Int) := by rw [lows_take hx1, low_no hc13, List.append_nil]
     rw [hqlow] at h
     have hqhigh : ((highsOf (rs.take j) v).length : Int) = ((highsOf (rs.take (j + 1)) v).length : Int) := by rw [highs_take hx1, high_no hc17, List.append_nil]
     rw [hqhigh] at h
     refine roundS (x := (j, lo, hi)) (y := (j + 1, lo, hi)) h ?_ ?_ (by kernel_rfl) (by kernel_rfl)
     ·have := at_lt hx1
      exact ⟨by omega, (by rw [lows_take hx1, low_no hc13, List.append_nil]; exact hI2), (by rw [highs_take hx1, high_no hc17, List.append_nil]; exact hI3)⟩
     ·show rs.length - (j + 1) < rs.length - j
      have := at_lt hx1; omega
  ·have hc18 := hc; clear hc
   have hc18' := of_decide_eq_false hc18
   refine wp_exit ?_
   refine then_x ?_
   refine then_x ?_
   refine inBlock_exit ?_
   refine then_n ?_
   rcases Bool.eq_false_or_eq_true lo with hc | hc
   ·have hc19 := hc; clear hc
    rw [hc19] at h
    refine rSeq fam0ok 0 [] [(4, vi .i64 ((lowsOf (rs.take j) v).length : Int)), (5, vi .i64 ((highsOf (rs.take j) v).length : Int)), (6, vb true)] [] (by kernel_rfl) h ?_; clear h; intro a w h
    refine wp_ret ?_
    refine retS [.c (.d (.raw (.int .i64 ((lowsOf (rs.take j) v).length : Int)))), .c (.d (.raw (.int .i64 ((highsOf (rs.take j) v).length : Int)))), .c (.d (.raw (.bool true)))] h Exit.ret (.inl rfl)  rfl ⟨RV.tmp _ _ rfl, RV.tmp _ _ rfl, RV.tmp _ _ rfl, trivial⟩ ?_ (by kernel_rfl) (by kernel_rfl)
    have hj : rs.take j = rs := List.take_of_length_le (by omega)
    rw [hj] at hI2 hI3
    have hz : exactS (splitS rs v) = true := by unfold exactS splitS; show (onesS (lowsOf rs v) || onesS (highsOf rs v)) = _; rw [← hI2, ← hI3, hc19]; first | done | rfl
    rw [hz, hj]; first | done | rfl
   ·have hc20 := hc; clear hc
    rw [hc20] at h
    refine rSeq fam0ok 0 [] [(4, vi .i64 ((lowsOf (rs.take j) v).length : Int)), (5, vi .i64 ((highsOf (rs.take j) v).length : Int)), (6, vb hi)] [] (by kernel_rfl) h ?_; clear h; intro a w h
    refine wp_ret ?_
    refine retS [.c (.d (.raw (.int .i64 ((lowsOf (rs.take j) v).length : Int)))), .c (.d (.raw (.int .i64 ((highsOf (rs.take j) v).length : Int)))), .c (.d (.raw (.bool hi)))] h Exit.ret (.inl rfl)  rfl ⟨RV.tmp _ _ rfl, RV.tmp _ _ rfl, RV.tmp _ _ rfl, trivial⟩ ?_ (by kernel_rfl) (by kernel_rfl)
    have hj : rs.take j = rs := List.take_of_length_le (by omega)
    rw [hj] at hI2 hI3
    have hz : exactS (splitS rs v) = hi := by unfold exactS splitS; show (onesS (lowsOf rs v) || onesS (highsOf rs v)) = _; rw [← hI2, ← hI3, hc20]; first | done | rfl
    rw [hz, hj]; first | done | rfl
end Go.Proofs.YtoklkfmffmonoaaGreat.S
end
section
namespace Go.Proofs.YtoklkfmffmonoaaGreat.S
open Go.RowKit

theorem hz_5 : Bodied Tryz.prog 50 := Bodied.mk' (by kernel_rfl)
def insAll (xs : List Int) : List Int := xs.foldl insZ []
theorem insAll_snoc (xs : List Int) (x : Int) : insAll (xs ++ [x]) = insZ (insAll xs) x := by unfold insAll; rw [List.foldl_append]; rfl
theorem insAll_ok (xs : List Int) : SRi (insAll xs) ∧ ∀ v, v ∈ insAll xs ↔ v ∈ xs := by
 suffices h : ∀ xs : List Int, SRi (insAll xs.reverse) ∧ ∀ v, v ∈ insAll xs.reverse ↔ v ∈ xs.reverse by
  have := h xs.reverse; rwa [List.reverse_reverse] at this
 intro xs
 induction xs with
 | nil => exact ⟨List.Pairwise.nil, fun v => Iff.rfl⟩
 | cons x xs ih =>
  rw [List.reverse_cons, insAll_snoc, insZ_eq]
  exact ⟨insR_sr x ih.1, fun v => by rw [insR_mem, ih.2, List.mem_append, List.mem_singleton]; exact Or.comm⟩
theorem insAll_uni (xs : List Int) : insAll xs = uniZ xs := (uniZ_eq (insAll_ok xs).1 fun v => ((insAll_ok xs).2 v).symm).symm
theorem coefZ_neg7 {v : Int} (h : v < 0) : ∀ ps : List Part, coefZ ps v = 0
 | [] => rfl
 | p :: ps => by rw [coefZ, coefZ_neg7 h ps, if_neg (by omega)]; rfl
theorem uni_nn {rs : List RelD} : ∀ v ∈ uniZ (varsAll rs), 0 ≤ v := fun v hv => by
 rw [uniZ_mem] at hv
 obtain ⟨r, _, hm⟩ := List.mem_flatMap.1 hv
 have := ((varsZ_ok r.t.parts).2 v).1 hm
 exact Classical.byContradiction fun h => this (coefZ_neg7 (by omega) _)
def costN (rs : List RelD) (x : Int) : Int := ((lowsOf rs x).length * (highsOf rs x).length : Nat)
def stepP (rs : List RelD) (e : Bool) (st : Int × Int) (x : Int) : Int × Int := if (exactS (splitS rs x) != e) = true then st else if (decide (st.2 < 0) || decide (costN rs x < st.1)) = true then (costN rs x, x) else st
def passS (rs : List RelD) (e : Bool) (us : List Int) : Int × Int := us.foldl (stepP rs e) (0, -1)
def comb (p q : Int × Int) : Int × Bool × Int := if 0 ≤ p.2 then (p.2, true, p.1) else (q.2, false, q.1)
theorem comb_step (rs : List RelD) {x : Int} (hx : 0 ≤ x) (p q : Int × Int) : stepCh rs (comb p q) x = comb (stepP rs true p x) (stepP rs false q x) := by
 unfold stepCh stepP
 show (if (_ || _ || (_ && decide (costN rs x < _))) = true then _ else _) = _
 obtain ⟨b, a⟩ := p
 obtain ⟨d, c⟩ := q
 cases exactS (splitS rs x) with
 | true =>
  by_cases ha : 0 ≤ a
  ·have e1 : comb (b, a) (d, c) = (a, true, b) := if_pos ha
   rw [e1]
   simp only [show decide (a < 0) = false from decide_eq_false (by omega)]
   by_cases hc : costN rs x < b
   ·simp [hc, comb, hx]; rfl
   ·simp [hc, comb, ha]
  ·have e1 : comb (b, a) (d, c) = (c, false, d) := if_neg ha
   rw [e1]
   simp only [show decide (a < 0) = true from decide_eq_true (by omega)]
   simp [comb, hx]; rfl
 | false =>
  by_cases ha : 0 ≤ a
  ·have e1 : ∀ z, comb (b, a) z = (a, true, b) := fun z => if_pos ha
   rw [e1]
   simp only [show decide (a < 0) = false from decide_eq_false (by omega)]
   simp [e1]
  ·have e1 : ∀ z, comb (b, a) z = (z.2, false, z.1) := fun z => if_neg ha
   rw [e1]
   by_cases hc : c < 0 <;> by_cases hd : costN rs x < d <;> simp [hc, hd, e1] <;> rfl
theorem comb_fold (rs : List RelD) : ∀ (us : List Int) (p q : Int × Int), (∀ v ∈ us, 0 ≤ v) → us.foldl (stepCh rs) (comb p q) = comb (us.foldl (stepP rs true) p) (us.foldl (stepP rs false) q)
 | [], _, _, _ => rfl
 | x :: us, p, q, h => by
  rw [List.foldl_cons, List.foldl_cons, List.foldl_cons, comb_step rs (h x (List.mem_cons_self ..))]
  exact comb_fold rs us _ _ fun v hv => h v (List.mem_cons_of_mem _ hv)
theorem choose_comb (rs : List RelD) : chooseSt rs = comb (passS rs true (uniZ (varsAll rs))) (passS rs false (uniZ (varsAll rs))) := comb_fold rs _ (0, -1) (0, -1) uni_nn
theorem pass_or (rs : List RelD) (e : Bool) : ∀ (us : List Int) (p : Int × Int), (∀ v ∈ us, 0 ≤ v) → (p.2 = -1 ∨ 0 ≤ p.2) → ((us.foldl (stepP rs e) p).2 = -1 ∨ 0 ≤ (us.foldl (stepP rs e) p).2)
 | [], _, _, h => h
 | x :: us, p, h, hp => by
  rw [List.foldl_cons]
  refine pass_or rs e us _ (fun v hv => h v (List.mem_cons_of_mem _ hv)) ?_
  unfold stepP
  split
  ·exact hp
  ·split
   ·exact .inr (h x (List.mem_cons_self ..))
   ·exact hp
theorem choose_pass {rs : List RelD} {p : Nat} {a b : Int} (hp : p < 2) (h0 : 1 ≤ p → (passS rs true (uniZ (varsAll rs))).2 < 0) (h : passS rs ((p : Int) == 0) (uniZ (varsAll rs)) = (b, a)) (ha : 0 ≤ a) : (chooseSt rs).1 = a ∧ (chooseSt rs).2.1 = ((p : Int) == 0) := by
 rw [choose_comb]
 unfold comb
 match p, hp with
 | 0, _ =>
  change passS rs true _ = _ at h
  rw [h, if_pos ha]; exact ⟨rfl, rfl⟩
 | 1, _ =>
  change passS rs false _ = _ at h
  rw [if_neg (by have := h0 (Nat.le_refl _); omega), h]; exact ⟨rfl, rfl⟩
theorem choose_none {rs : List RelD} (h0 : (passS rs true (uniZ (varsAll rs))).2 < 0) (h1 : (passS rs false (uniZ (varsAll rs))).2 < 0) : (chooseSt rs).1 = -1 ∧ (chooseSt rs).2.1 = false := by
 rw [choose_comb]
 unfold comb
 rw [if_neg (by omega)]
 refine ⟨?_, rfl⟩
 have := pass_or rs false _ (0, -1) (uni_nn (rs := rs)) (.inl rfl)
 change (passS rs false _).2 = -1 ∨ 0 ≤ (passS rs false _).2 at this
 show (passS rs false _).2 = -1
 omega
theorem pass_next {rs : List RelD} {us : List Int} {p : Nat} {a b : Int} (hp : p < 2) (h0 : 1 ≤ p → (passS rs true us).2 < 0) (h : passS rs ((p : Int) == 0) us = (b, a)) (ha : a < 0) : p + 1 ≤ 2 ∧ (1 ≤ p + 1 → (passS rs true us).2 < 0) ∧ (2 ≤ p + 1 → (passS rs false us).2 < 0) := by
 match p, hp with
 | 0, _ => change passS rs true _ = _ at h; exact ⟨by decide, fun _ => by rw [h]; exact ha, fun e => absurd e (by decide)⟩
 | 1, _ => change passS rs false _ = _ at h; exact ⟨by decide, fun _ => h0 (Nat.le_refl _), fun _ => by rw [h]; exact ha⟩
set_option maxHeartbeats 4000000 in
theorem SRChoose (rs : List RelD) (hrs : RsOk rs) : Fn Tryz.prog 17 [] [.t (.c (.d (.sl 4 (rs.map RelD.d))))] (.tup [.c (.d (.raw (.int .i64 (chooseSt rs).1))), .c (.d (.raw (.bool (chooseSt rs).2.1)))]) [] := by
 have lrs := hrs.1
 refine Fn.body Tryz.func17 rfl 85 rfl fun w H B a h => ?_
 refine rSeq fam0ok 0 [] [(0, .t (.c (.d (.sl 4 (rs.map RelD.d))))), (2, vi .i64 0), (3, vb false)] [] (by kernel_rfl) h ?_; clear h; intro a w h
 refine rSeq fam0ok 0 [(0, .gen _ _ _ fun _ _ _ _ => Op.buildED (d := 15) tb_0)] [(0, .t (.c (.d (.sl 4 (rs.map RelD.d))))), (2, vi .i64 0), (3, vb false), (4, .t (.c (.d (.sl 1 ([].map intD)))))] [] (by kernel_rfl) h ?_; clear h; intro a w h
 refine wp_seq ?_
 refine rSeq fam0ok 0 [] [(0, .t (.c (.d (.sl 4 (rs.map RelD.d))))), (2, vi .i64 0), (3, vb false), (4, .t (.c (.d (.sl 1 ([].map intD))))), (5, vi .i64 0)] [] (by kernel_rfl) h ?_; clear h; intro a w h
 refine wp_block ?_
 refine loopS (ι := (Nat) × (List Int)) (fun (z_ : (Nat) × (List Int)) => match z_ with | (j, out) => j ≤ rs.length ∧ out = insAll ((rs.take j).flatMap fun r => varsZ r.t.parts) ∧ out.length ≤ j * 20)
   (fun (z_ : (Nat) × (List Int)) => match z_ with | (j, out) => [(0, .t (.c (.d (.sl 4 (rs.map RelD.d))))), (2, vi .i64 0), (3, vb false), (4, .t (.c (.d (.sl 1 (out.map intD))))), (5, vi .i64 (j : Int))])
   (fun (z_ : (Nat) × (List Int)) => match z_ with | (j, out) => [])
   (fun (z_ : (Nat) × (List Int)) => match z_ with | (j, out) => rs.length - j) (0, []) ?_ h (by kernel_rfl) (by kernel_rfl) ?_
 ·exact ⟨Nat.zero_le _, rfl, Nat.zero_le _⟩
 ·clear h; rintro ⟨j, out⟩ a w hI h
  change St _ (F.of [(0, .t (.c (.d (.sl 4 (rs.map RelD.d))))), (2, vi .i64 0), (3, vb false), (4, .t (.c (.d (.sl 1 (out.map intD))))), (5, vi .i64 (j : Int))] []) a w at h
  obtain ⟨hI1, hI2, hI3⟩ := hI
  refine wp_seq ?_
  refine rSeq fam0ok 0 [(2, .len (c := (.d (.sl 4 (rs.map RelD.d)))) (n := rs.length) (lenC_map _ _ _))] [(0, .t (.c (.d (.sl 4 (rs.map RelD.d))))), (2, vi .i64 0), (3, vb false), (4, .t (.c (.d (.sl 1 (out.map intD))))), (5, vi .i64 (j : Int)), (19, vb (decide ((j : Int) < (rs.length : Int))))] [] (by kernel_rfl) h ?_; clear h; intro a w h
  refine condS (decide ((j : Int) < (rs.length : Int))) h rfl (fun hc => ?_) (fun hc => ?_)
  ·have hc1 := hc; clear hc
   have hc1' := of_decide_eq_true hc1
   refine wp_skip ?_
   refine then_n ?_
   refine wp_seq ?_
   refine wp_block ?_
   obtain ⟨x1, hx1⟩ : ∃ z_ : RelD, rs[j]? = some z_ := ⟨_, List.getElem?_eq_getElem (by first | omega | (simp at *; omega))⟩
   have gx1 : TOk 20 8 x1.t := hrs.2 x1 (List.mem_of_getElem? hx1)
   have lvxx1 : (varsZ x1.t.parts).length ≤ 20 := Nat.le_trans (varsZ_len _) gx1.len
   refine rSeq fam0ok 0 [(2, .gen _ _ _ fun _ _ _ _ => Op.idxD (d := 24) (t := 22) (k := .i64) kc_3 (map_at hx1 (f := RelD.d)) (OV.tmp 23 _)), (5, .call (SVars x1.t (TOk.mono (n' := 1000) (L' := 40000) gx1 (by decide) (by decide)).psok) tb_8)] [(0, .t (.c (.d (.sl 4 (rs.map RelD.d))))), (2, vi .i64 0), (3, vb false), (4, .t (.c (.d (.sl 1 (out.map intD))))), (5, vi .i64 (j : Int)), (6, .t (.c (.d (.sl 1 ((varsZ x1.t.parts).map intD)))))] [] (by kernel_rfl) h ?_; clear h; intro a w h
   refine rSeq fam0ok 0 [] [(0, .t (.c (.d (.sl 4 (rs.map RelD.d))))), (2, vi .i64 0), (3, vb false), (4, .t (.c (.d (.sl 1 (out.map intD))))), (5, vi .i64 (j : Int)), (6, .t (.c (.d (.sl 1 ((varsZ x1.t.parts).map intD))))), (7, vi .i64 0)] [] (by kernel_rfl) h ?_; clear h; intro a w h
   refine wp_block ?_
   refine loopS (ι := (Nat) × (List Int)) (fun (z_ : (Nat) × (List Int)) => match z_ with | (k, ou2) => k ≤ (varsZ x1.t.parts).length ∧ ou2 = insAll (((rs.take j).flatMap fun r => varsZ r.t.parts) ++ (varsZ x1.t.parts).take k) ∧ ou2.length ≤ j * 20 + k)
     (fun (z_ : (Nat) × (List Int)) => match z_ with | (k, ou2) => [(0, .t (.c (.d (.sl 4 (rs.map RelD.d))))), (2, vi .i64 0), (3, vb false), (4, .t (.c (.d (.sl 1 (ou2.map intD))))), (5, vi .i64 (j : Int)), (6, .t (.c (.d (.sl 1 ((varsZ x1.t.parts).map intD))))), (7, vi .i64 (k : Int))])
     (fun (z_ : (Nat) × (List Int)) => match z_ with | (k, ou2) => [])
     (fun (z_ : (Nat) × (List Int)) => match z_ with | (k, ou2) => (varsZ x1.t.parts).length - k) (0, out) ?_ h (by kernel_rfl) (by kernel_rfl) ?_
   ·exact ⟨Nat.zero_le _, by rw [hI2]; simp, by omega⟩
   ·clear h; rintro ⟨k, ou2⟩ a w hI h
    change St _ (F.of [(0, .t (.c (.d (.sl 4 (rs.map RelD.d))))), (2, vi .i64 0), (3, vb false), (4, .t (.c (.d (.sl 1 (ou2.map intD))))), (5, vi .i64 (j : Int)), (6, .t (.c (.d (.sl 1 ((varsZ x1.t.parts).map intD))))), (7, vi .i64 (k : Int))] []) a w at h
    have hJ1 := hI1
    have hJ2 := hI2
    obtain ⟨hK1, hK2, hK3⟩ := hI
    refine wp_seq ?_
    refine rSeq fam0ok 0 [(2, .len (c := (.d (.sl 1 ((varsZ x1.t.parts).map intD)))) (n := (varsZ x1.t.parts).length) (lenC_map _ _ _))] [(0, .t (.c (.d (.sl 4 (rs.map RelD.d))))), (2, vi .i64 0), (3, vb false), (4, .t (.c (.d (.sl 1 (ou2.map intD))))), (5, vi .i64 (j : Int)), (6, .t (.c (.d (.sl 1 ((varsZ x1.t.parts).map intD))))), (7, vi .i64 (k : Int)), (31, vb (decide ((k : Int) < ((varsZ x1.t.parts).length : Int))))] [] (by kernel_rfl) h ?_; clear h; intro a w h
    refine condS (decide ((k : Int) < ((varsZ x1.t.parts).length : Int))) h rfl (fun hc => ?_) (fun hc => ?_)
    ·have hc2 := hc; clear hc
     have hc2' := of_decide_eq_true hc2
     refine wp_skip ?_
     refine then_n ?_
     refine wp_seq ?_
     refine wp_block ?_
     obtain ⟨x3, hx3⟩ : ∃ z_ : Int, (varsZ x1.t.parts)[k]? = some z_ := ⟨_, List.getElem?_eq_getElem (by first | omega | (simp at *; omega))⟩
     refine rS fam0ok 0 [(3, .gen _ _ _ fun _ _ _ _ => Op.idxD (d := 37) (t := 35) (k := .i64) tb_1 (map_at hx3 (f := intD)) (OV.tmp 36 _)), (5, .call (SInsert ou2 x3 (by omega)) tb_6)] [(0, .t (.c (.d (.sl 4 (rs.map RelD.d))))), (2, vi .i64 0), (3, vb false), (4, .t (.c (.d (.sl 1 ((insZ ou2 x3).map intD))))), (5, vi .i64 (j : Int)), (6, .t (.c (.d (.sl 1 ((varsZ x1.t.parts).map intD))))), (7, vi .i64 (k : Int))] [] (by kernel_rfl) h ?_; clear h; intro a w h
     refine block_n ?_
     refine then_n ?_
     refine rS fam0ok 0 [(1, .add .i64 (m := (k : Int)) (n := 1) (i64_id (by omega) (by omega)))] [(0, .t (.c (.d (.sl 4 (rs.map RelD.d))))), (2, vi .i64 0), (3, vb false), (4, .t (.c (.d (.sl 1 ((insZ ou2 x3).map intD))))), (5, vi .i64 (j : Int)), (6, .t (.c (.d (.sl 1 ((varsZ x1.t.parts).map intD))))), (7, vi .i64 ((k : Int) + 1))] [] (by kernel_rfl) h ?_; clear h; intro a w h
     refine then_n ?_
     refine roundS (x := (k, ou2)) (y := (k + 1, (insZ ou2 x3))) h ?_ ?_ (by kernel_rfl) (by kernel_rfl)
     ·have := at_lt hx3
      exact ⟨by omega, by rw [List.take_add_one, hx3, ← List.append_assoc]; show _ = insAll (_ ++ [x3]); rw [insAll_snoc, ← hK2], by have := insZ_len ou2 x3; omega⟩
     ·show (varsZ x1.t.parts).length - (k + 1) < (varsZ x1.t.parts).length - k
      have := at_lt hx3; omega
    ·have hc3 := hc; clear hc
     have hc3' := of_decide_eq_false hc3
     refine wp_exit ?_
     refine then_x ?_
     refine then_x ?_
     refine inBlock_exit ?_
     refine block_n ?_
     refine then_n ?_
     refine rS fam0ok 0 [(1, .add .i64 (m := (j : Int)) (n := 1) (i64_id (by omega) (by omega)))] [(0, .t (.c (.d (.sl 4 (rs.map RelD.d))))), (2, vi .i64 0), (3, vb false), (4, .t (.c (.d (.sl 1 (ou2.map intD))))), (5, vi .i64 ((j : Int) + 1))] [] (by kernel_rfl) h ?_; clear h; intro a w h
     refine then_n ?_
     refine roundS (x := (j, out)) (y := (j + 1, ou2)) h ?_ ?_ (by kernel_rfl) (by kernel_rfl)
     ·have := at_lt hx1
      exact ⟨by omega, by rw [hK2, show (varsZ x1.t.parts).take k = varsZ x1.t.parts from List.take_of_length_le (by omega)]; congr 1; exact flat_snoc (g := fun r => varsZ r.t.parts) hx1 rfl, by omega⟩
     ·show rs.length - (j + 1) < rs.length - j
      have := at_lt hx1; omega
  ·have hc4 := hc; clear hc
   have hc4' := of_decide_eq_false hc4
   refine wp_exit ?_
   refine then_x ?_
   refine then_x ?_
   refine inBlock_exit ?_
   refine then_n ?_
   refine wp_seq ?_
   refine rSeq fam0ok 0 [] [(0, .t (.c (.d (.sl 4 (rs.map RelD.d))))), (2, vi .i64 0), (3, vb false), (4, .t (.c (.d (.sl 1 (out.map intD))))), (8, vi .i64 0)] [] (by kernel_rfl) h ?_; clear h; intro a w h
   refine wp_block ?_
   refine loopS (ι := (Nat)) (fun (z_ : (Nat)) => match z_ with | p => p ≤ 2 ∧ (1 ≤ p → (passS rs true out).2 < 0) ∧ (2 ≤ p → (passS rs false out).2 < 0))
     (fun (z_ : (Nat)) => match z_ with | p => [(0, .t (.c (.d (.sl 4 (rs.map RelD.d))))), (4, .t (.c (.d (.sl 1 (out.map intD))))), (8, vi .i64 (p : Int))])
     (fun (z_ : (Nat)) => match z_ with | p => [])
     (fun (z_ : (Nat)) => match z_ with | p => 2 - p) 0 ?_ h (by kernel_rfl) (by kernel_rfl) ?_
   ·exact ⟨by decide, fun e => absurd e (by decide), fun e => absurd e (by decide)⟩
   ·clear h; rintro p a w hI h
    change St _ (F.of [(0, .t (.c (.d (.sl 4 (rs.map RelD.d))))), (4, .t (.c (.d (.sl 1 (out.map intD))))), (8, vi .i64 (p : Int))] []) a w at h
    obtain ⟨hP1, hP2, hP3⟩ := hI
    refine wp_seq ?_
    refine rSeq fam0ok 0 [] [(0, .t (.c (.d (.sl 4 (rs.map RelD.d))))), (4, .t (.c (.d (.sl 1 (out.map intD))))), (8, vi .i64 (p : Int)), (41, vb (decide ((p : Int) < 2)))] [] (by kernel_rfl) h ?_; clear h; intro a w h
    refine condS (decide ((p : Int) < 2)) h rfl (fun hc => ?_) (fun hc => ?_)
    ·have hc5 := hc; clear hc
     have hc5' := of_decide_eq_true hc5
     refine wp_skip ?_
     refine then_n ?_
     refine wp_seq ?_
     refine wp_block ?_
     refine rSeq fam0ok 0 [] [(0, .t (.c (.d (.sl 4 (rs.map RelD.d))))), (4, .t (.c (.d (.sl 1 (out.map intD))))), (8, vi .i64 (p : Int)), (9, vi .i64 0), (10, vi .i64 (-1))] [] (by kernel_rfl) h ?_; clear h; intro a w h
     refine wp_seq ?_
     refine rSeq fam0ok 0 [] [(0, .t (.c (.d (.sl 4 (rs.map RelD.d))))), (4, .t (.c (.d (.sl 1 (out.map intD))))), (8, vi .i64 (p : Int)), (9, vi .i64 0), (10, vi .i64 (-1)), (11, vi .i64 0)] [] (by kernel_rfl) h ?_; clear h; intro a w h
     refine wp_block ?_
     refine loopS (ι := (Nat) × (Int) × (Int)) (fun (z_ : (Nat) × (Int) × (Int)) => match z_ with | (i, tb, ta) => i ≤ out.length ∧ (out.take i).foldl (stepP rs ((p : Int) == 0)) (0, -1) = (tb, ta))
       (fun (z_ : (Nat) × (Int) × (Int)) => match z_ with | (i, tb, ta) => [(0, .t (.c (.d (.sl 4 (rs.map RelD.d))))), (4, .t (.c (.d (.sl 1 (out.map intD))))), (8, vi .i64 (p : Int)), (9, vi .i64 tb), (10, vi .i64 ta), (11, vi .i64 (i : Int))])
       (fun (z_ : (Nat) × (Int) × (Int)) => match z_ with | (i, tb, ta) => [])
       (fun (z_ : (Nat) × (Int) × (Int)) => match z_ with | (i, tb, ta) => out.length - i) (0, 0, (-1)) ?_ h (by kernel_rfl) (by kernel_rfl) ?_
     ·exact ⟨Nat.zero_le _, rfl⟩
     ·clear h; rintro ⟨i, tb, ta⟩ a w hI h
      change St _ (F.of [(0, .t (.c (.d (.sl 4 (rs.map RelD.d))))), (4, .t (.c (.d (.sl 1 (out.map intD))))), (8, vi .i64 (p : Int)), (9, vi .i64 tb), (10, vi .i64 ta), (11, vi .i64 (i : Int))] []) a w at h
      obtain ⟨hA1, hA2⟩ := hI
      refine wp_seq ?_
      refine rSeq fam0ok 0 [(2, .len (c := (.d (.sl 1 (out.map intD)))) (n := out.length) (lenC_map _ _ _))] [(0, .t (.c (.d (.sl 4 (rs.map RelD.d))))), (4, .t (.c (.d (.sl 1 (out.map intD))))), (8, vi .i64 (p : Int)), (9, vi .i64 tb), (10, vi .i64 ta), (11, vi .i64 (i : Int)), (47, vb (decide ((i : Int) < (out.length : Int))))] [] (by kernel_rfl) h ?_; clear h; intro a w h
      refine condS (decide ((i : Int) < (out.length : Int))) h rfl (fun hc => ?_) (fun hc => ?_)
      ·have hc6 := hc; clear hc
       have hc6' := of_decide_eq_true hc6
       refine wp_skip ?_
       refine then_n ?_
       refine wp_seq ?_
       refine wp_block ?_
       obtain ⟨x5, hx5⟩ : ∃ z_ : Int, out[i]? = some z_ := ⟨_, List.getElem?_eq_getElem (by first | omega | (simp at *; omega))⟩
       have hcs6 := cost_le hrs x5
       have nlx := lows_len hrs x5
       have nhx := highs_len hrs x5
       refine rSeq fam0ok 0 [(3, .gen _ _ _ fun _ _ _ _ => Op.idxD (d := 54) (t := 52) (k := .i64) tb_1 (map_at hx5 (f := intD)) (OV.tmp 53 _)), (5, .call (SRCount rs x5 hrs) hz_5)] [(0, .t (.c (.d (.sl 4 (rs.map RelD.d))))), (4, .t (.c (.d (.sl 1 (out.map intD))))), (8, vi .i64 (p : Int)), (9, vi .i64 tb), (10, vi .i64 ta), (11, vi .i64 (i : Int)), (12, vi .i64 ((lowsOf rs x5).length : Int)), (13, vi .i64 ((highsOf rs x5).length : Int)), (14, vb (exactS (splitS rs x5)))] [] (by kernel_rfl) h ?_; clear h; intro a w h
       refine wp_seq ?_
       refine rSeq fam0ok 0 [] [(0, .t (.c (.d (.sl 4 (rs.map RelD.d))))), (4, .t (.c (.d (.sl 1 (out.map intD))))), (8, vi .i64 (p : Int)), (9, vi .i64 tb), (10, vi .i64 ta), (11, vi .i64 (i : Int)), (12, vi .i64 ((lowsOf rs x5).length : Int)), (13, vi .i64 ((highsOf rs x5).length : Int)), (63, vb (exactS (splitS rs x5) != ((p : Int) == 0)))] [] (by kernel_rfl) h ?_; clear h; intro a w h
       refine condS (exactS (splitS rs x5) != ((p : Int) == 0)) h rfl (fun hc => ?_) (fun hc => ?_)
       ·have hc7 := hc; clear hc
        have hc7' := hc7; (try simp at hc7')
        refine wp_exit ?_
        refine then_x ?_
        refine inBlock_exit ?_
        refine then_n ?_
        refine rS fam0ok 0 [(1, .add .i64 (m := (i : Int)) (n := 1) (i64_id (by omega) (by omega)))] [(0, .t (.c (.d (.sl 4 (rs.map RelD.d))))), (4, .t (.c (.d (.sl 1 (out.map intD))))), (8, vi .i64 (p : Int)), (9, vi .i64 tb), (10, vi .i64 ta), (11, vi .i64 ((i : Int) + 1))] [] (by kernel_rfl) h ?_; clear h; intro a w h
        refine then_n ?_
        refine roundS (x := (i, tb, ta)) (y := (i + 1, tb, ta)) h ?_ ?_ (by kernel_rfl) (by kernel_rfl)
        ·have := at_lt hx5
         refine ⟨by omega, ?_⟩
         rw [fold_at hx5, hA2]
         show stepP rs ((p : Int) == 0) (tb, ta) x5 = (tb, ta)
         have q1 := hc7
         unfold stepP costN
         simp_all <;> (first | done | (intro hq; first | omega | (rcases hq with hq | hq <;> omega)) | omega)
        ·show out.length - (i + 1) < out.length - i
         have := at_lt hx5; omega
       ·have hc8 := hc; clear hc
        have hc8' := hc8; (try simp at hc8')
        refine wp_skip ?_
        refine then_n ?_
        rcases Bool.eq_false_or_eq_true (decide (ta < 0)) with hc | hc
        ·have hc9 := hc; clear hc
         have hc9' := of_decide_eq_true hc9
         refine rSeq fam0ok 0 [(1, .cmp (op := .lss) (m := ta) (n := 0) (b := true) .i64 hc9)] [(0, .t (.c (.d (.sl 4 (rs.map RelD.d))))), (4, .t (.c (.d (.sl 1 (out.map intD))))), (8, vi .i64 (p : Int)), (9, vi .i64 tb), (10, vi .i64 ta), (11, vi .i64 (i : Int)), (12, vi .i64 ((lowsOf rs x5).length : Int)), (13, vi .i64 ((highsOf rs x5).length : Int)), (72, vb true)] [] (by kernel_rfl) h ?_; clear h; intro a w h
         refine condS true h rfl (fun hc => ?_) (fun hc => ?_)
         ·clear hc
          refine rS fam0ok 0 [(2, .gen _ _ _ fun _ _ _ _ => Op.arith (op := .mul) (d := 75) (xt := 3) (yt := 3) (k := .i64) (m := ((lowsOf rs x5).length : Int)) (n := ((highsOf rs x5).length : Int)) (r := (((lowsOf rs x5).length * (highsOf rs x5).length : Nat) : Int)) (OV.tmp 73 _) (OV.tmp 74 _) (.inr (.inr ⟨rfl, (Int.natCast_mul _ _)⟩)) (i64_id (by omega) (by omega))), (5, .gen _ _ _ fun _ _ _ _ => Op.idxD (d := 78) (t := 76) (k := .i64) tb_1 (map_at hx5 (f := intD)) (OV.tmp 77 _))] [(0, .t (.c (.d (.sl 4 (rs.map RelD.d))))), (4, .t (.c (.d (.sl 1 (out.map intD))))), (8, vi .i64 (p : Int)), (9, vi .i64 (((lowsOf rs x5).length * (highsOf rs x5).length : Nat) : Int)), (10, vi .i64 x5), (11, vi .i64 (i : Int))] [] (by kernel_rfl) h ?_; clear h; intro a w h
          refine block_n ?_
          refine then_n ?_
          refine rS fam0ok 0 [(1, .add .i64 (m := (i : Int)) (n := 1) (i64_id (by omega) (by omega)))] [(0, .t (.c (.d (.sl 4 (rs.map RelD.d))))), (4, .t (.c (.d (.sl 1 (out.map intD))))), (8, vi .i64 (p : Int)), (9, vi .i64 (((lowsOf rs x5).length * (highsOf rs x5).length : Nat) : Int)), (10, vi .i64 x5), (11, vi .i64 ((i : Int) + 1))] [] (by kernel_rfl) h ?_; clear h; intro a w h
          refine then_n ?_
          refine roundS (x := (i, tb, ta)) (y := (i + 1, (((lowsOf rs x5).length * (highsOf rs x5).length : Nat) : Int), x5)) h ?_ ?_ (by kernel_rfl) (by kernel_rfl)
          ·have := at_lt hx5
           refine ⟨by omega, ?_⟩
           rw [fold_at hx5, hA2]
           show stepP rs ((p : Int) == 0) (tb, ta) x5 = ((((lowsOf rs x5).length * (highsOf rs x5).length : Nat) : Int), x5)
           have q1 := hc8
           have q1 := hc9
           unfold stepP costN
           simp_all <;> (first | done | (intro hq; first | omega | (rcases hq with hq | hq <;> omega)) | omega)
          ·show out.length - (i + 1) < out.length - i
           have := at_lt hx5; omega
         ·cases hc
        ·have hc10 := hc; clear hc
         have hc10' := of_decide_eq_false hc10
         refine rSeq fam0ok 0 [(1, .cmp (op := .lss) (m := ta) (n := 0) (b := false) .i64 hc10), (5, .gen _ _ _ fun _ _ _ _ => Op.arith (op := .mul) (d := 69) (xt := 3) (yt := 3) (k := .i64) (m := ((lowsOf rs x5).length : Int)) (n := ((highsOf rs x5).length : Int)) (r := (((lowsOf rs x5).length * (highsOf rs x5).length : Nat) : Int)) (OV.tmp 67 _) (OV.tmp 68 _) (.inr (.inr ⟨rfl, (Int.natCast_mul _ _)⟩)) (i64_id (by omega) (by omega)))] [(0, .t (.c (.d (.sl 4 (rs.map RelD.d))))), (4, .t (.c (.d (.sl 1 (out.map intD))))), (8, vi .i64 (p : Int)), (9, vi .i64 tb), (10, vi .i64 ta), (11, vi .i64 (i : Int)), (12, vi .i64 ((lowsOf rs x5).length : Int)), (13, vi .i64 ((highsOf rs x5).length : Int)), (72, vb (decide ((((lowsOf rs x5).length * (highsOf rs x5).length : Nat) : Int) < tb)))] [] (by kernel_rfl) h ?_; clear h; intro a w h
         refine condS (decide ((((lowsOf rs x5).length * (highsOf rs x5).length : Nat) : Int) < tb)) h rfl (fun hc => ?_) (fun hc => ?_)
         ·have hc11 := hc; clear hc
          have hc11' := of_decide_eq_true hc11
          refine rS fam0ok 0 [(2, .gen _ _ _ fun _ _ _ _ => Op.arith (op := .mul) (d := 75) (xt := 3) (yt := 3) (k := .i64) (m := ((lowsOf rs x5).length : Int)) (n := ((highsOf rs x5).length : Int)) (r := (((lowsOf rs x5).length * (highsOf rs x5).length : Nat) : Int)) (OV.tmp 73 _) (OV.tmp 74 _) (.inr (.inr ⟨rfl, (Int.natCast_mul _ _)⟩)) (i64_id (by omega) (by omega))), (5, .gen _ _ _ fun _ _ _ _ => Op.idxD (d := 78) (t := 76) (k := .i64) tb_1 (map_at hx5 (f := intD)) (OV.tmp 77 _))] [(0, .t (.c (.d (.sl 4 (rs.map RelD.d))))), (4, .t (.c (.d (.sl 1 (out.map intD))))), (8, vi .i64 (p : Int)), (9, vi .i64 (((lowsOf rs x5).length * (highsOf rs x5).length : Nat) : Int)), (10, vi .i64 x5), (11, vi .i64 (i : Int))] [] (by kernel_rfl) h ?_; clear h; intro a w h
          refine block_n ?_
          refine then_n ?_
          refine rS fam0ok 0 [(1, .add .i64 (m := (i : Int)) (n := 1) (i64_id (by omega) (by omega)))] [(0, .t (.c (.d (.sl 4 (rs.map RelD.d))))), (4, .t (.c (.d (.sl 1 (out.map intD))))), (8, vi .i64 (p : Int)), (9, vi .i64 (((lowsOf rs x5).length * (highsOf rs x5).length : Nat) : Int)), (10, vi .i64 x5), (11, vi .i64 ((i : Int) + 1))] [] (by kernel_rfl) h ?_; clear h; intro a w h
          refine then_n ?_
          refine roundS (x := (i, tb, ta)) (y := (i + 1, (((lowsOf rs x5).length * (highsOf rs x5).length : Nat) : Int), x5)) h ?_ ?_ (by kernel_rfl) (by kernel_rfl)
          ·have := at_lt hx5
           refine ⟨by omega, ?_⟩
           rw [fold_at hx5, hA2]
           show stepP rs ((p : Int) == 0) (tb, ta) x5 = ((((lowsOf rs x5).length * (highsOf rs x5).length : Nat) : Int), x5)
           have q1 := hc8
           have q1 := hc10
           have q1 := hc11
           unfold stepP costN
           simp_all <;> (first | done | (intro hq; first | omega | (rcases hq with hq | hq <;> omega)) | omega)
          ·show out.length - (i + 1) < out.length - i
           have := at_lt hx5; omega
         ·have hc12 := hc; clear hc
          have hc12' := of_decide_eq_false hc12
          refine wp_skip ?_
          refine block_n ?_
          refine then_n ?_
          refine rS fam0ok 0 [(1, .add .i64 (m := (i : Int)) (n := 1) (i64_id (by omega) (by omega)))] [(0, .t (.c (.d (.sl 4 (rs.map RelD.d))))), (4, .t (.c (.d (.sl 1 (out.map intD))))), (8, vi .i64 (p : Int)), (9, vi .i64 tb), (10, vi .i64 ta), (11, vi .i64 ((i : Int) + 1))] [] (by kernel_rfl) h ?_; clear h; intro a w h
          refine then_n ?_
          refine roundS (x := (i, tb, ta)) (y := (i + 1, tb, ta)) h ?_ ?_ (by kernel_rfl) (by kernel_rfl)
          ·have := at_lt hx5
           refine ⟨by omega, ?_⟩
           rw [fold_at hx5, hA2]
           show stepP rs ((p : Int) == 0) (tb, ta) x5 = (tb, ta)
           have q1 := hc8
           have q1 := hc10
           have q1 := hc12
           unfold stepP costN
           simp_all <;> (first | done | (intro hq; first | omega | (rcases hq with hq | hq <;> omega)) | omega)
          ·show out.length - (i + 1) < out.length - i
           have := at_lt hx5; omega
      ·have hc13 := hc; clear hc
       have hc13' := of_decide_eq_false hc13
       refine wp_exit ?_
       refine then_x ?_
       refine then_x ?_
       refine inBlock_exit ?_
       refine then_n ?_
       refine rSeq fam0ok 0 [] [(0, .t (.c (.d (.sl 4 (rs.map RelD.d))))), (4, .t (.c (.d (.sl 1 (out.map intD))))), (8, vi .i64 (p : Int)), (10, vi .i64 ta), (81, vb (decide (ta ≥ 0)))] [] (by kernel_rfl) h ?_; clear h; intro a w h
       refine condS (decide (ta ≥ 0)) h rfl (fun hc => ?_) (fun hc => ?_)
       ·have hc14 := hc; clear hc
        have hc14' := of_decide_eq_true hc14
        refine rSeq fam0ok 0 [] [(0, .t (.c (.d (.sl 4 (rs.map RelD.d))))), (2, vi .i64 ta), (3, vb ((p : Int) == 0)), (4, .t (.c (.d (.sl 1 (out.map intD))))), (8, vi .i64 (p : Int))] [] (by kernel_rfl) h ?_; clear h; intro a w h
        refine wp_ret ?_
        refine block_r ?_
        refine then_r ?_
        refine then_r ?_
        refine block_r ?_
        refine then_r ?_
        refine retS [.c (.d (.raw (.int .i64 ta))), .c (.d (.raw (.bool ((p : Int) == 0))))] h Exit.ret (.inl rfl)  rfl ⟨RV.tmp _ _ rfl, RV.tmp _ _ rfl, trivial⟩ ?_ (by kernel_rfl) (by kernel_rfl)
        have hu : out = uniZ (varsAll rs) := by rw [hI2, List.take_of_length_le (by omega)]; exact insAll_uni _
        have hr : passS rs ((p : Int) == 0) out = (tb, ta) := by unfold passS; rw [← hA2, List.take_of_length_le (by omega)]
        have hz := choose_pass (rs := rs) (p := p) (a := ta) (b := tb) (by omega) (by rw [← hu]; exact hP2) (by rw [← hu]; exact hr) (by omega)
        rw [hz.1, hz.2]; first | done | rfl | simp_all
       ·have hc15 := hc; clear hc
        have hc15' := of_decide_eq_false hc15
        refine wp_skip ?_
        refine block_n ?_
        refine then_n ?_
        refine rS fam0ok 0 [(1, .add .i64 (m := (p : Int)) (n := 1) (i64_id (by omega) (by omega)))] [(0, .t (.c (.d (.sl 4 (rs.map RelD.d))))), (4, .t (.c (.d (.sl 1 (out.map intD))))), (8, vi .i64 ((p : Int) + 1))] [] (by kernel_rfl) h ?_; clear h; intro a w h
        refine then_n ?_
        refine roundS (x := p) (y := p + 1) h ?_ ?_ (by kernel_rfl) (by kernel_rfl)
        ·have hr : passS rs ((p : Int) == 0) out = (tb, ta) := by unfold passS; rw [← hA2, List.take_of_length_le (by omega)]
         exact pass_next (by omega) hP2 hr (by omega)
        ·show 2 - (p + 1) < 2 - p
         omega
    ·have hc16 := hc; clear hc
     have hc16' := of_decide_eq_false hc16
     refine wp_exit ?_
     refine then_x ?_
     refine then_x ?_
     refine inBlock_exit ?_
     refine then_n ?_
     refine rSeq fam0ok 0 [] [(2, vi .i64 (-1)), (3, vb false)] [] (by kernel_rfl) h ?_; clear h; intro a w h
     refine wp_ret ?_
     refine retS [.c (.d (.raw (.int .i64 (-1)))), .c (.d (.raw (.bool false)))] h Exit.ret (.inl rfl)  rfl ⟨RV.tmp _ _ rfl, RV.tmp _ _ rfl, trivial⟩ ?_ (by kernel_rfl) (by kernel_rfl)
     have hu : out = uniZ (varsAll rs) := by rw [hI2, List.take_of_length_le (by omega)]; exact insAll_uni _
     have hz := choose_none (by rw [← hu]; exact hP2 (by omega)) (by rw [← hu]; exact hP3 (by omega))
     rw [hz.1, hz.2]; first | done | rfl
end Go.Proofs.YtoklkfmffmonoaaGreat.S
end
section
namespace Go.Proofs.YtoklkfmffmonoaaGreat.S
open Go.RowKit

def nA (v : Int) (r : RelD) : ZI := ZI.of ((coefZ r.t.parts v).natAbs : Int)
def pairT (v : Int) (a b : RelD) : Term := addT (scaleT a.t (nA v b)) (scaleT b.t (nA v a))
def shadeT (d : Bool) (v : Int) (a b : RelD) : Term := if d = true then subT (pairT v a b) (numT (ZI.of (((nA v a).val - 1) * ((nA v b).val - 1)))) else pairT v a b
def shF (d : Bool) (v : Int) (a b : RelD) : List RelD := if 0 < coefZ a.t.parts v ∧ coefZ b.t.parts v < 0 then [⟨shadeT d v a b, false⟩] else []
def shadeS (d : Bool) (rs : List RelD) (v : Int) : List RelD := othersOf rs v ++ rs.flatMap fun a => rs.flatMap (shF d v a)
theorem shF_le (d : Bool) (v : Int) (a b : RelD) : (shF d v a b).length ≤ 1 := by unfold shF; split <;> simp
theorem shade_len {rs : List RelD} (h : RsOk rs) (d : Bool) (v : Int) (i : Nat) : (othersOf rs v ++ (rs.take i).flatMap fun a => rs.flatMap (shF d v a)).length ≤ 420 := by
 have h1 := others_len h v
 have h4 := flat_bd (g := fun a => rs.flatMap (shF d v a)) (k := 20) (fun x => Nat.le_trans (flat_le (shF_le d v x) rs) h.1) (rs.take i)
 rw [List.length_take] at h4
 rw [List.length_append]
 have h5 : min i rs.length * 20 ≤ 20 * 20 := Nat.mul_le_mul_right 20 (by have := h.1; omega)
 omega
theorem wo_at (t : Term) (v u : Int) : coefZ (woT t v).parts u = if u = v then 0 else coefZ t.parts u := by
 unfold woT; rw [coef_plain]; show coefZ (t.parts.filter fun p => !isVar v p) u = _; rw [coefZ_strike]
theorem wo_k (t : Term) (v : Int) : (woT t v).k.val = t.k.val := by unfold woT plainT; exact ZI.val_of _
theorem pair_coef {v : Int} {a b : RelD} (ha : 0 < coefZ a.t.parts v) (hb : coefZ b.t.parts v < 0) (u : Int) : coefZ (scaleT a.t (nA v b)).parts u + coefZ (scaleT b.t (nA v a)).parts u = coefZ (brightT (sideOf v a) (sideOf v b)).parts u := by
 unfold brightT sideOf
 rw [coef_add, coef_scale, coef_scale, coef_scale, coef_scale, wo_at, wo_at]
 unfold nA
 rw [ZI.val_of, ZI.val_of, show ((coefZ a.t.parts v).natAbs : Int) = coefZ a.t.parts v by omega, show ((coefZ b.t.parts v).natAbs : Int) = -coefZ b.t.parts v by omega]
 split
 ·rename_i e; subst e; rw [Int.mul_neg, Int.zero_mul, Int.zero_mul, Int.mul_comm (coefZ b.t.parts u)]; omega
 ·omega
theorem pair_k (v : Int) (a b : RelD) : (scaleT a.t (nA v b)).k.val + (scaleT b.t (nA v a)).k.val = (brightT (sideOf v a) (sideOf v b)).k.val := by
 unfold brightT sideOf
 rw [k_add, k_scale, k_scale, k_scale, k_scale, wo_k, wo_k]
 show _ = b.t.k.val * (nA v a).val + a.t.k.val * (nA v b).val
 omega
theorem pair_eq {v : Int} {a b : RelD} (ha : 0 < coefZ a.t.parts v) (hb : coefZ b.t.parts v < 0) : pairT v a b = plainT (brightT (sideOf v a) (sideOf v b)) := add_eq (pair_coef ha hb) (pair_k v a b)
theorem dark_eq {v : Int} {a b : RelD} (ha : 0 < coefZ a.t.parts v) (hb : coefZ b.t.parts v < 0) : subT (pairT v a b) (numT (ZI.of (((nA v a).val - 1) * ((nA v b).val - 1)))) = plainT (darkT (sideOf v a) (sideOf v b)) := by
 unfold subT
 refine add_eq (fun u => ?_) ?_
 ·show _ = coefZ (addT (brightT (sideOf v a) (sideOf v b)) (scaleT (numT (ZI.of (((sideOf v a).times.val - 1) * ((sideOf v b).times.val - 1)))) (ZI.of (-1)))).parts u
  rw [coef_add, pair_eq ha hb, coef_plain]; rfl
 ·show _ = (addT (brightT (sideOf v a) (sideOf v b)) (scaleT (numT (ZI.of (((sideOf v a).times.val - 1) * ((sideOf v b).times.val - 1)))) (ZI.of (-1)))).k.val
  rw [k_add, pair_eq ha hb]
  show (ZI.of _).val + _ = _
  rw [ZI.val_of]; rfl
def shadeF (d : Bool) : SideD → SideD → Term := if d = true then darkT else brightT
theorem shade_eq (d : Bool) (rs : List RelD) (v : Int) : eachS (shadeF d) rs v = shadeS d rs v := by
 unfold eachS shadeS
 congr 1
 unfold lowsOf
 rw [List.flatMap_assoc]
 congr 1
 funext a
 unfold lowF
 split
 ·rename_i ha
  rw [List.flatMap_cons, List.flatMap_nil, List.append_nil]
  unfold highsOf
  rw [List.map_flatMap]
  congr 1
  funext b
  unfold highF shF
  by_cases hb : coefZ b.t.parts v < 0
  ·rw [if_pos hb, if_pos ⟨ha, hb⟩, List.map_cons, List.map_nil]
   unfold lstR shadeT shadeF
   cases d with
   | true => rw [if_pos rfl, if_pos rfl, dark_eq ha hb]
   | false => rw [if_neg Bool.noConfusion, if_neg Bool.noConfusion, pair_eq ha hb]
  ·rw [if_neg hb, if_neg (fun e => hb e.2)]; rfl
 ·rename_i ha
  rw [List.flatMap_nil]
  have : ∀ qs : List RelD, [] = qs.flatMap (shF d v a) := fun qs => by
   induction qs with
   | nil => rfl
   | cons q qs ih => rw [List.flatMap_cons, ← ih]; unfold shF; rw [if_neg (fun e => ha e.1)]; rfl
  exact this rs
theorem real_eq (rs : List RelD) (v : Int) : eachS brightT rs v = shadeS false rs v := shade_eq false rs v
theorem dark_eq2 (rs : List RelD) (v : Int) : eachS darkT rs v = shadeS true rs v := shade_eq true rs v
end Go.Proofs.YtoklkfmffmonoaaGreat.S
end
