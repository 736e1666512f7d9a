/-
  The proof of the statement ShadowShades: the walk through the program and the references lifted to the given row. It holds for every input.
-/
import Derived.Test.YtoklkfmffmonoaaGreatVs5
import Derived.Test.YtoklkfmffmonoaaGreatRows
import Derived.Test.YtoklkfmffmonoaaGreatVs2
set_option maxRecDepth 100000
section
namespace Go.Proofs.YtoklkfmffmonoaaGreat.S
open Go.RowKit

theorem hT_3 : Bodied Tryz.prog 91 := Bodied.mk' (by kernel_rfl)
theorem hT_10 : Bodied Tryz.prog 55 := Bodied.mk' (by kernel_rfl)
theorem hT_11 : Bodied Tryz.prog 54 := Bodied.mk' (by kernel_rfl)
theorem SRboth (xs ys : List Part) (ha : xs.length ≤ 1000) (hb : ys.length ≤ 1000) : Fn Tryz.prog 91 [] [.t (.c (.d (.sl 3 (xs.map Part.d)))), .t (.c (.d (.sl 3 (ys.map Part.d))))] (.t (.c (.d (.sl 3 ((xs ++ ys).map Part.d))))) [] := by
 refine Fn.body Tryz.func91 rfl 36 rfl fun w H B a h => ?_
 refine rSeq fam0ok 0 [] [(0, .t (.c (.d (.sl 3 (xs.map Part.d))))), (1, .t (.c (.d (.sl 3 (ys.map Part.d))))), (4, .t (.c (.d (.raw nilV))))] [] (by kernel_rfl) h ?_; clear h; intro a w h
 refine rSeq fam0ok 0 [(0, .gen _ _ _ fun _ _ _ _ => Op.buildE (d := 8) (n := 0) tb_9)] [(0, .t (.c (.d (.sl 3 (xs.map Part.d))))), (1, .t (.c (.d (.sl 3 (ys.map Part.d))))), (4, .t (.c (.d (.raw nilV)))), (5, .t (.c (.own 0 0)))] [(0, .row 57 3 ([].map Part.d))] (by kernel_rfl) h ?_; clear h; intro a w h
 refine wp_seq ?_
 refine rSeq fam0ok 1 [] [(0, .t (.c (.d (.sl 3 (xs.map Part.d))))), (1, .t (.c (.d (.sl 3 (ys.map Part.d))))), (4, .t (.c (.d (.raw nilV)))), (5, .t (.c (.own 0 0))), (6, vi .i64 0)] [(0, .row 57 3 ([].map Part.d))] (by kernel_rfl) h ?_; clear h; intro a w h
 refine wp_block ?_
 refine loopS (ι := (Nat) × (List Part)) (fun (z_ : (Nat) × (List Part)) => match z_ with | (j1, out1) => out1 = [] ++ xs.take j1 ∧ j1 ≤ xs.length)
   (fun (z_ : (Nat) × (List Part)) => match z_ with | (j1, out1) => [(0, .t (.c (.d (.sl 3 (xs.map Part.d))))), (1, .t (.c (.d (.sl 3 (ys.map Part.d))))), (4, .t (.c (.d (.raw nilV)))), (5, .t (.c (.own 0 out1.length))), (6, vi .i64 (j1 : Int))])
   (fun (z_ : (Nat) × (List Part)) => match z_ with | (j1, out1) => [(0, .row 57 3 (out1.map Part.d))])
   (fun (z_ : (Nat) × (List Part)) => match z_ with | (j1, out1) => xs.length - j1) (0, []) ?_ h (by kernel_rfl) (by kernel_rfl) ?_
 ·exact ⟨by simp, Nat.zero_le _⟩
 ·clear h; rintro ⟨j1, out1⟩ a w hI h
  change St _ (F.of [(0, .t (.c (.d (.sl 3 (xs.map Part.d))))), (1, .t (.c (.d (.sl 3 (ys.map Part.d))))), (4, .t (.c (.d (.raw nilV)))), (5, .t (.c (.own 0 out1.length))), (6, vi .i64 (j1 : Int))] [(0, .row 57 3 (out1.map Part.d))]) a w at h
  obtain ⟨hI1a, hI1b⟩ := hI
  have lo1 : out1.length ≤ 1000 := by rw [hI1a]; simp; omega
  refine wp_seq ?_
  refine rSeq fam0ok 1 [(2, .len (c := (.d (.sl 3 (xs.map Part.d)))) (n := xs.length) (lenC_map _ _ _))] [(0, .t (.c (.d (.sl 3 (xs.map Part.d))))), (1, .t (.c (.d (.sl 3 (ys.map Part.d))))), (4, .t (.c (.d (.raw nilV)))), (5, .t (.c (.own 0 out1.length))), (6, vi .i64 (j1 : Int)), (12, vb (decide ((j1 : Int) < (xs.length : Int))))] [(0, .row 57 3 (out1.map Part.d))] (by kernel_rfl) h ?_; clear h; intro a w h
  refine condS (decide ((j1 : Int) < (xs.length : Int))) h rfl (fun hc => ?_) (fun hc => ?_)
  ·have hc1 := hc; clear hc
   have hc1' := of_decide_eq_true hc1
   refine wp_skip ?_
   refine then_n ?_
   refine wp_seq ?_
   refine wp_block ?_
   obtain ⟨x1, hx1⟩ : ∃ z_ : Part, xs[j1]? = some z_ := ⟨_, List.getElem?_eq_getElem (by first | omega | (simp at *; omega))⟩
   refine rS fam0ok 1 [(3, .gen _ _ _ fun _ _ _ _ => Op.idxD (d := 18) (t := 16) (k := .i64) ta_0 (map_at hx1 (f := Part.d)) (OV.tmp 17 _)), (5, .gen _ _ _ fun _ _ _ _ => Op.buildD (d := 20) (len := 1) (rows := [x1].map Part.d) (rs := [(19, .t (.agg ([.d (.raw (.int .i64 x1.v))] ++ zi x1.c)))]) tb_9 (.cons (i := 0) (OV.tmp 19 _) (.nil)) (by kernel_rfl) rfl (by simp [Part.d]) (by decide) (by decide)), (6, .gen _ _ _ fun _ _ _ _ => Op.appOD (d := 21) (t := 15) (u := 20) (n := 0) (n' := 1) (len := out1.length) (len' := (out1 ++ [x1]).length) (rows := out1.map Part.d) (rows2 := [x1].map Part.d) (rows' := (out1 ++ [x1]).map Part.d) tb_10 (by first | exact (List.length_map _).symm | simp) (by first | (rw [List.length_append, List.length_map]; done) | simp) (by simp) (by simp [Part.d]) (by first | omega | (simp at *; done) | (simp at *; omega)))] [(0, .t (.c (.d (.sl 3 (xs.map Part.d))))), (1, .t (.c (.d (.sl 3 (ys.map Part.d))))), (4, .t (.c (.d (.raw nilV)))), (5, .t (.c (.own 1 (out1 ++ [x1]).length))), (6, vi .i64 (j1 : Int))] [(1, .row 57 3 ((out1 ++ [x1]).map Part.d))] (by kernel_rfl) h ?_; clear h; intro a w h
   refine block_n ?_
   refine then_n ?_
   refine rS fam0ok 2 [(1, .add .i64 (m := (j1 : Int)) (n := 1) (i64_id (by omega) (by omega)))] [(0, .t (.c (.d (.sl 3 (xs.map Part.d))))), (1, .t (.c (.d (.sl 3 (ys.map Part.d))))), (4, .t (.c (.d (.raw nilV)))), (5, .t (.c (.own 1 (out1 ++ [x1]).length))), (6, vi .i64 ((j1 : Int) + 1))] [(1, .row 57 3 ((out1 ++ [x1]).map Part.d))] (by kernel_rfl) h ?_; clear h; intro a w h
   refine then_n ?_
   replace h := renS 1 0 [(0, .t (.c (.d (.sl 3 (xs.map Part.d))))), (1, .t (.c (.d (.sl 3 (ys.map Part.d))))), (4, .t (.c (.d (.raw nilV)))), (5, .t (.c (.own 0 (out1 ++ [x1]).length))), (6, vi .i64 ((j1 : Int) + 1))] [(0, .row 57 3 ((out1 ++ [x1]).map Part.d))] h (by kernel_rfl) (by kernel_rfl) (by kernel_rfl)
   refine roundS (x := (j1, out1)) (y := (j1 + 1, (out1 ++ [x1]))) h ?_ ?_ (by kernel_rfl) (by kernel_rfl)
   ·refine ⟨?_, by have := at_lt hx1; omega⟩
    rw [List.take_add_one, hx1, hI1a]; simp
   ·simp; omega
  ·have hc2 := hc; clear hc
   have hc2' := of_decide_eq_false hc2
   refine wp_exit ?_
   refine then_x ?_
   refine then_x ?_
   refine inBlock_exit ?_
   refine then_n ?_
   refine wp_seq ?_
   refine rSeq fam0ok 2 [] [(1, .t (.c (.d (.sl 3 (ys.map Part.d))))), (4, .t (.c (.d (.raw nilV)))), (5, .t (.c (.own 0 out1.length))), (7, vi .i64 0)] [(0, .row 57 3 (out1.map Part.d))] (by kernel_rfl) h ?_; clear h; intro a w h
   refine wp_block ?_
   refine loopS (ι := (Nat) × (List Part)) (fun (z_ : (Nat) × (List Part)) => match z_ with | (j2, out2) => out2 = out1 ++ ys.take j2 ∧ j2 ≤ ys.length)
     (fun (z_ : (Nat) × (List Part)) => match z_ with | (j2, out2) => [(1, .t (.c (.d (.sl 3 (ys.map Part.d))))), (4, .t (.c (.d (.raw nilV)))), (5, .t (.c (.own 0 out2.length))), (7, vi .i64 (j2 : Int))])
     (fun (z_ : (Nat) × (List Part)) => match z_ with | (j2, out2) => [(0, .row 57 3 (out2.map Part.d))])
     (fun (z_ : (Nat) × (List Part)) => match z_ with | (j2, out2) => ys.length - j2) (0, out1) ?_ h (by kernel_rfl) (by kernel_rfl) ?_
   ·exact ⟨by simp, Nat.zero_le _⟩
   ·clear h; rintro ⟨j2, out2⟩ a w hI h
    change St _ (F.of [(1, .t (.c (.d (.sl 3 (ys.map Part.d))))), (4, .t (.c (.d (.raw nilV)))), (5, .t (.c (.own 0 out2.length))), (7, vi .i64 (j2 : Int))] [(0, .row 57 3 (out2.map Part.d))]) a w at h
    obtain ⟨hI2a, hI2b⟩ := hI
    have lo2 : out2.length ≤ 2000 := by rw [hI2a]; simp; omega
    refine wp_seq ?_
    refine rSeq fam0ok 2 [(2, .len (c := (.d (.sl 3 (ys.map Part.d)))) (n := ys.length) (lenC_map _ _ _))] [(1, .t (.c (.d (.sl 3 (ys.map Part.d))))), (4, .t (.c (.d (.raw nilV)))), (5, .t (.c (.own 0 out2.length))), (7, vi .i64 (j2 : Int)), (25, vb (decide ((j2 : Int) < (ys.length : Int))))] [(0, .row 57 3 (out2.map Part.d))] (by kernel_rfl) h ?_; clear h; intro a w h
    refine condS (decide ((j2 : Int) < (ys.length : Int))) h rfl (fun hc => ?_) (fun hc => ?_)
    ·have hc3 := hc; clear hc
     have hc3' := of_decide_eq_true hc3
     refine wp_skip ?_
     refine then_n ?_
     refine wp_seq ?_
     refine wp_block ?_
     obtain ⟨x2, hx2⟩ : ∃ z_ : Part, ys[j2]? = some z_ := ⟨_, List.getElem?_eq_getElem (by first | omega | (simp at *; omega))⟩
     refine rS fam0ok 2 [(3, .gen _ _ _ fun _ _ _ _ => Op.idxD (d := 31) (t := 29) (k := .i64) ta_0 (map_at hx2 (f := Part.d)) (OV.tmp 30 _)), (5, .gen _ _ _ fun _ _ _ _ => Op.buildD (d := 33) (len := 1) (rows := [x2].map Part.d) (rs := [(32, .t (.agg ([.d (.raw (.int .i64 x2.v))] ++ zi x2.c)))]) tb_9 (.cons (i := 0) (OV.tmp 32 _) (.nil)) (by kernel_rfl) rfl (by simp [Part.d]) (by decide) (by decide)), (6, .gen _ _ _ fun _ _ _ _ => Op.appOD (d := 34) (t := 28) (u := 33) (n := 0) (n' := 2) (len := out2.length) (len' := (out2 ++ [x2]).length) (rows := out2.map Part.d) (rows2 := [x2].map Part.d) (rows' := (out2 ++ [x2]).map Part.d) tb_10 (by first | exact (List.length_map _).symm | simp) (by first | (rw [List.length_append, List.length_map]; done) | simp) (by simp) (by simp [Part.d]) (by first | omega | (simp at *; done) | (simp at *; omega)))] [(1, .t (.c (.d (.sl 3 (ys.map Part.d))))), (4, .t (.c (.d (.raw nilV)))), (5, .t (.c (.own 2 (out2 ++ [x2]).length))), (7, vi .i64 (j2 : Int))] [(2, .row 57 3 ((out2 ++ [x2]).map Part.d))] (by kernel_rfl) h ?_; clear h; intro a w h
     refine block_n ?_
     refine then_n ?_
     refine rS fam0ok 3 [(1, .add .i64 (m := (j2 : Int)) (n := 1) (i64_id (by omega) (by omega)))] [(1, .t (.c (.d (.sl 3 (ys.map Part.d))))), (4, .t (.c (.d (.raw nilV)))), (5, .t (.c (.own 2 (out2 ++ [x2]).length))), (7, vi .i64 ((j2 : Int) + 1))] [(2, .row 57 3 ((out2 ++ [x2]).map Part.d))] (by kernel_rfl) h ?_; clear h; intro a w h
     refine then_n ?_
     replace h := renS 2 0 [(1, .t (.c (.d (.sl 3 (ys.map Part.d))))), (4, .t (.c (.d (.raw nilV)))), (5, .t (.c (.own 0 (out2 ++ [x2]).length))), (7, vi .i64 ((j2 : Int) + 1))] [(0, .row 57 3 ((out2 ++ [x2]).map Part.d))] h (by kernel_rfl) (by kernel_rfl) (by kernel_rfl)
     refine roundS (x := (j2, out2)) (y := (j2 + 1, (out2 ++ [x2]))) h ?_ ?_ (by kernel_rfl) (by kernel_rfl)
     ·refine ⟨?_, by have := at_lt hx2; omega⟩
      rw [List.take_add_one, hx2, hI2a]; simp
     ·simp; omega
    ·have hc4 := hc; clear hc
     have hc4' := of_decide_eq_false hc4
     refine wp_exit ?_
     refine then_x ?_
     refine then_x ?_
     refine inBlock_exit ?_
     refine then_n ?_
     refine rSeq fam0ok 3 [] [(4, .t (.c (.own 0 out2.length)))] [(0, .row 57 3 (out2.map Part.d))] (by kernel_rfl) h ?_; clear h; intro a w h
     refine wp_ret ?_
     replace h := pubS 0 3 57 (out2.map Part.d) [(4, .t (.c (.d (.sl 3 (out2.map Part.d)))))] [] h rfl (show AllEq _ [out2.length] from ⟨by first | exact (List.length_map _).symm | (simp; done) | (simp; omega), trivial⟩) trivial (by kernel_rfl) (by kernel_rfl)
     refine retS [.c (.d (.sl 3 (out2.map Part.d)))] h Exit.ret (.inl rfl)  rfl ⟨RV.tmp _ _ rfl, trivial⟩ ?_ (by kernel_rfl) (by kernel_rfl)
     have h1 : j1 = xs.length := by have := hc2'; omega
     have h2 : j2 = ys.length := by have := hc4'; omega
     subst h1 h2
     rw [hI2a, hI1a, List.take_length, List.take_length]; first | done | rfl
theorem SRTAdd (s t : Term) (hs : TOk 400 15000 s) (ht : TOk 400 15000 t) : Fn Tryz.prog 54 [] [.t (.agg ([.d (.sl 3 (s.parts.map Part.d))] ++ zi s.k)), .t (.agg ([.d (.sl 3 (t.parts.map Part.d))] ++ zi t.k))] (vd (addT s t).d) [] := by
 have ks := hs.kl
 have kt := ht.kl
 refine Fn.body Tryz.func54 rfl 17 rfl fun w H B a h => ?_
 refine rSeq fam0ok 0 [] [(2, vp 0 0), (3, vp 1 0), (4, vp 2 0)] [(0, .box ([.d (.sl 3 (s.parts.map Part.d))] ++ zi s.k)), (1, .box ([.d (.sl 3 (t.parts.map Part.d))] ++ zi t.k)), (2, .box [.d (.raw nilV), .d (.raw (.bool false)), .d (nsl [])])] (by kernel_rfl) h ?_; clear h; intro a w h
 obtain ⟨r2, er2, vr2, or2, lr2⟩ := mkZ (v := s.k.val + t.k.val) (m := s.k.abs.length + t.k.abs.length + 1) (len_add hs.kb ht.kb)
 refine rSeq fam0ok 3 [(4, .call (SRboth s.parts t.parts (by have := hs.len; omega) (by have := ht.len; omega)) hT_3), (9, .call (Fn.cast (SRAdd s.k t.k hs.kb ht.kb (by omega) (by omega)) (congrArg vz er2.symm)) ib_5), (11, .call (SRPlain' (Term.mk (s.parts ++ t.parts) r2) (TOk.add hs ht r2 or2 (by have := hs.kl; have := ht.kl; omega)) (by decide) (by decide)) tc_2)] [(4, vp 2 0)] [(2, .box ([.d (.sl 3 ((plainT (Term.mk (s.parts ++ t.parts) r2)).parts.map Part.d))] ++ zi (plainT (Term.mk (s.parts ++ t.parts) r2)).k))] (by kernel_rfl) h ?_; clear h; intro a w h
 refine wp_ret ?_
 refine retS [.agg ([.d (.sl 3 ((plainT (Term.mk (s.parts ++ t.parts) r2)).parts.map Part.d))] ++ zi (plainT (Term.mk (s.parts ++ t.parts) r2)).k)] h Exit.ret (.inl rfl)  rfl ⟨RV.agg _ 2 0 _ _ _ _ tb_11 rfl rfl rfl rfl, trivial⟩ ?_ (by kernel_rfl) (by kernel_rfl)
 rw [er2]; first | done | rfl
theorem SRNumber (k : ZI) (hk : Lb k.abs) (lk : k.abs.length ≤ 40000) : Fn Tryz.prog 59 [] [vz k] (vd (numT k).d) [] := by
 refine Fn.body Tryz.func59 rfl 6 rfl fun w H B a h => ?_
 refine rSeq fam0ok 0 [] [(1, vp 0 0), (2, vp 1 0)] [(0, .box (zi k)), (1, .box [.d (.raw nilV), .d (.raw (.bool false)), .d (nsl [])])] (by kernel_rfl) h ?_; clear h; intro a w h
 obtain ⟨r1, er1, vr1, or1, lr1⟩ := mkZ (v := k.val) (m := k.abs.length) (len_id hk)
 refine rSeq fam0ok 2 [(1, .call (Fn.cast (SRClean k hk (by omega)) (congrArg vz er1.symm)) tb_7)] [(2, vp 1 0)] [(1, .box ([.d (.raw nilV)] ++ zi r1))] (by kernel_rfl) h ?_; clear h; intro a w h
 refine wp_ret ?_
 replace h := nilDLs 1 0 3 ([.d (.raw nilV)] ++ zi r1) [(2, vp 1 0)] [(1, .box ([.d (.sl 3 ([].map Part.d))] ++ zi r1))] h rfl rfl (by kernel_rfl) (by kernel_rfl)
 refine retS [.agg ([.d (.sl 3 ([].map Part.d))] ++ zi r1)] h Exit.ret (.inl rfl)  rfl ⟨RV.agg _ 1 0 _ _ _ _ tb_11 rfl rfl rfl rfl, trivial⟩ ?_ (by kernel_rfl) (by kernel_rfl)
 rw [er1]; first | done | rfl
theorem SRScale (t : Term) (q : ZI) {n L M : Nat} (ht : TOk n L t) (hn : n ≤ 1000) (hq : Lb q.abs) (lq : q.abs.length ≤ M) (hL : L + M ≤ 40000) : Fn Tryz.prog 55 [] [.t (.agg ([.d (.sl 3 (t.parts.map Part.d))] ++ zi t.k)), vz q] (vd (scaleT t q).d) [] := by
 have kt := ht.kl
 have nt := ht.len
 refine Fn.body Tryz.func55 rfl 41 rfl fun w H B a h => ?_
 refine rSeq fam0ok 0 [] [(2, vp 0 0), (3, vp 1 0), (4, vp 2 0)] [(0, .box ([.d (.sl 3 (t.parts.map Part.d))] ++ zi t.k)), (1, .box (zi q)), (2, .box [.d (.raw nilV), .d (.raw (.bool false)), .d (nsl [])])] (by kernel_rfl) h ?_; clear h; intro a w h
 obtain ⟨r1, er1, vr1, or1, lr1⟩ := mkZ (v := t.k.val * q.val) (m := t.k.abs.length + q.abs.length) (len_mul ht.kb hq)
 refine rSeq fam0ok 3 [(3, .call (Fn.cast (SRMul t.k q ht.kb hq (by omega) (by omega)) (congrArg vz er1.symm)) zs_18)] [(2, vp 0 0), (3, vp 1 0), (4, vp 2 0), (5, vp 3 0)] [(0, .box ([.d (.sl 3 (t.parts.map Part.d))] ++ zi t.k)), (1, .box (zi q)), (2, .box [.d (.raw nilV), .d (.raw (.bool false)), .d (nsl [])]), (3, .box ([.d (.raw nilV)] ++ zi r1))] (by kernel_rfl) h ?_; clear h; intro a w h
 refine wp_seq ?_
 replace h := nilOLs 3 0 4 3 57 ([.d (.raw nilV)] ++ zi r1) [(2, vp 0 0), (3, vp 1 0), (4, vp 2 0), (5, vp 3 0)] [(0, .box ([.d (.sl 3 (t.parts.map Part.d))] ++ zi t.k)), (1, .box (zi q)), (2, .box [.d (.raw nilV), .d (.raw (.bool false)), .d (nsl [])]), (3, .box ([.own 4 0] ++ zi r1)), (4, .row 57 3 ([].map Part.d))] h (by kernel_rfl) rfl rfl (by kernel_rfl) (by kernel_rfl)
 refine rSeq fam0ok 5 [] [(2, vp 0 0), (3, vp 1 0), (4, vp 2 0), (5, vp 3 0), (6, vi .i64 0)] [(0, .box ([.d (.sl 3 (t.parts.map Part.d))] ++ zi t.k)), (1, .box (zi q)), (2, .box [.d (.raw nilV), .d (.raw (.bool false)), .d (nsl [])]), (3, .box ([.own 4 0] ++ zi r1)), (4, .row 57 3 ([].map Part.d))] (by kernel_rfl) h ?_; clear h; intro a w h
 refine wp_block ?_
 refine loopS (ι := (Nat) × (List Part)) (fun (z_ : (Nat) × (List Part)) => match z_ with | (j, out) => out = (t.parts.take j).map (fun p => Part.mk p.v (ZI.of (p.c.val * q.val))) ∧ j ≤ t.parts.length ∧ out.length ≤ j)
   (fun (z_ : (Nat) × (List Part)) => match z_ with | (j, out) => [(2, vp 0 0), (3, vp 1 0), (4, vp 2 0), (5, vp 3 0), (6, vi .i64 (j : Int))])
   (fun (z_ : (Nat) × (List Part)) => match z_ with | (j, out) => [(0, .box ([.d (.sl 3 (t.parts.map Part.d))] ++ zi t.k)), (1, .box (zi q)), (2, .box [.d (.raw nilV), .d (.raw (.bool false)), .d (nsl [])]), (3, .box ([.own 4 out.length] ++ zi r1)), (4, .row 57 3 (out.map Part.d))])
   (fun (z_ : (Nat) × (List Part)) => match z_ with | (j, out) => t.parts.length - j) (0, []) ?_ h (by kernel_rfl) (by kernel_rfl) ?_
 ·exact ⟨by simp, Nat.zero_le _, Nat.zero_le _⟩
 ·clear h; rintro ⟨j, out⟩ a w hI h
  change St _ (F.of [(2, vp 0 0), (3, vp 1 0), (4, vp 2 0), (5, vp 3 0), (6, vi .i64 (j : Int))] [(0, .box ([.d (.sl 3 (t.parts.map Part.d))] ++ zi t.k)), (1, .box (zi q)), (2, .box [.d (.raw nilV), .d (.raw (.bool false)), .d (nsl [])]), (3, .box ([.own 4 out.length] ++ zi r1)), (4, .row 57 3 (out.map Part.d))]) a w at h
  obtain ⟨hI1, hI2, hI3⟩ := hI
  refine wp_seq ?_
  refine rSeq fam0ok 5 [(3, .len (c := (.d (.sl 3 (t.parts.map Part.d)))) (n := t.parts.length) (lenC_map _ _ _))] [(2, vp 0 0), (3, vp 1 0), (4, vp 2 0), (5, vp 3 0), (6, vi .i64 (j : Int)), (16, vb (decide ((j : Int) < (t.parts.length : Int))))] [(0, .box ([.d (.sl 3 (t.parts.map Part.d))] ++ zi t.k)), (1, .box (zi q)), (2, .box [.d (.raw nilV), .d (.raw (.bool false)), .d (nsl [])]), (3, .box ([.own 4 out.length] ++ zi r1)), (4, .row 57 3 (out.map Part.d))] (by kernel_rfl) h ?_; clear h; intro a w h
  refine condS (decide ((j : Int) < (t.parts.length : Int))) h rfl (fun hc => ?_) (fun hc => ?_)
  ·have hc1 := hc; clear hc
   have hc1' := of_decide_eq_true hc1
   refine wp_skip ?_
   refine then_n ?_
   refine wp_seq ?_
   refine wp_block ?_
   obtain ⟨x2, hx2⟩ : ∃ z_ : Part, t.parts[j]? = some z_ := ⟨_, List.getElem?_eq_getElem (by first | omega | (simp at *; omega))⟩
   obtain ⟨ox2, lx2⟩ := ht.get hx2
   obtain ⟨r3, er3, vr3, or3, lr3⟩ := mkZ (v := x2.c.val * q.val) (m := x2.c.abs.length + q.abs.length) (len_mul ox2 hq)
   refine rS fam0ok 5 [(5, .gen _ _ _ fun _ _ _ _ => Op.idxD (d := 24) (t := 22) (k := .i64) ta_0 (map_at hx2 (f := Part.d)) (OV.tmp 23 _)), (11, .gen _ _ _ fun _ _ _ _ => Op.idxD (d := 30) (t := 28) (k := .i64) ta_0 (map_at hx2 (f := Part.d)) (OV.tmp 29 _)), (15, .call (Fn.cast (SRMul x2.c q ox2 hq (by omega) (by omega)) (congrArg vz er3.symm)) zs_18), (17, .gen _ _ _ fun _ _ _ _ => Op.buildD (d := 36) (len := 1) (rows := [(Part.mk x2.v r3)].map Part.d) (rs := [(35, .t (.agg ([.d (.raw (.int .i64 x2.v))] ++ zi r3)))]) tb_9 (.cons (i := 0) (OV.tmp 35 _) (.nil)) (by kernel_rfl) rfl (by simp [Part.d]) (by decide) (by decide)), (18, .gen _ _ _ fun _ _ _ _ => Op.appOD (d := 37) (t := 20) (u := 36) (n := 4) (n' := 5) (len := out.length) (len' := (out ++ [(Part.mk x2.v r3)]).length) (rows := out.map Part.d) (rows2 := [(Part.mk x2.v r3)].map Part.d) (rows' := (out ++ [(Part.mk x2.v r3)]).map Part.d) tb_10 (by first | exact (List.length_map _).symm | simp) (by first | (rw [List.length_append, List.length_map]; done) | simp) (by simp) (by simp [Part.d]) (by first | omega | (simp at *; done) | (simp at *; omega)))] [(2, vp 0 0), (3, vp 1 0), (4, vp 2 0), (5, vp 3 0), (6, vi .i64 (j : Int))] [(0, .box ([.d (.sl 3 (t.parts.map Part.d))] ++ zi t.k)), (1, .box (zi q)), (2, .box [.d (.raw nilV), .d (.raw (.bool false)), .d (nsl [])]), (3, .box ([.own 5 (out ++ [(Part.mk x2.v r3)]).length] ++ zi r1)), (5, .row 57 3 ((out ++ [(Part.mk x2.v r3)]).map Part.d))] (by kernel_rfl) h ?_; clear h; intro a w h
   refine block_n ?_
   refine then_n ?_
   refine rS fam0ok 6 [(1, .add .i64 (m := (j : Int)) (n := 1) (i64_id (by omega) (by omega)))] [(2, vp 0 0), (3, vp 1 0), (4, vp 2 0), (5, vp 3 0), (6, vi .i64 ((j : Int) + 1))] [(0, .box ([.d (.sl 3 (t.parts.map Part.d))] ++ zi t.k)), (1, .box (zi q)), (2, .box [.d (.raw nilV), .d (.raw (.bool false)), .d (nsl [])]), (3, .box ([.own 5 (out ++ [(Part.mk x2.v r3)]).length] ++ zi r1)), (5, .row 57 3 ((out ++ [(Part.mk x2.v r3)]).map Part.d))] (by kernel_rfl) h ?_; clear h; intro a w h
   refine then_n ?_
   replace h := renS 5 4 [(2, vp 0 0), (3, vp 1 0), (4, vp 2 0), (5, vp 3 0), (6, vi .i64 ((j : Int) + 1))] [(0, .box ([.d (.sl 3 (t.parts.map Part.d))] ++ zi t.k)), (1, .box (zi q)), (2, .box [.d (.raw nilV), .d (.raw (.bool false)), .d (nsl [])]), (3, .box ([.own 4 (out ++ [(Part.mk x2.v r3)]).length] ++ zi r1)), (4, .row 57 3 ((out ++ [(Part.mk x2.v r3)]).map Part.d))] h (by kernel_rfl) (by kernel_rfl) (by kernel_rfl)
   refine roundS (x := (j, out)) (y := (j + 1, (out ++ [(Part.mk x2.v r3)]))) h ?_ ?_ (by kernel_rfl) (by kernel_rfl)
   ·refine ⟨?_, by have := at_lt hx2; omega, by simp; omega⟩
    rw [take_map hx2, ← hI1, er3]
   ·simp; omega
  ·have hc2 := hc; clear hc
   have hc2' := of_decide_eq_false hc2
   refine wp_exit ?_
   refine then_x ?_
   refine then_x ?_
   refine inBlock_exit ?_
   refine then_n ?_
   have hj : j = t.parts.length := by have := hc2'; omega
   rw [hj, List.take_length] at hI1
   have hq2 : Term.mk out r1 = mulT t q := by rw [hI1, er1]; first | done | rfl
   replace h := pubS 4 3 57 (out.map Part.d) [(2, vp 0 0), (3, vp 1 0), (4, vp 2 0), (5, vp 3 0), (6, vi .i64 (j : Int)), (16, vb (decide ((j : Int) < (t.parts.length : Int))))] [(0, .box ([.d (.sl 3 (t.parts.map Part.d))] ++ zi t.k)), (1, .box (zi q)), (2, .box [.d (.raw nilV), .d (.raw (.bool false)), .d (nsl [])]), (3, .box ([.d (.sl 3 (out.map Part.d))] ++ zi r1))] h rfl trivial (show AllEq _ [out.length] from ⟨by first | exact (List.length_map _).symm | (simp; done) | (simp; omega), trivial⟩) (by kernel_rfl) (by kernel_rfl)
   refine rSeq fam0ok 6 [(1, .call ((show Fn _ _ _ [vd (Term.mk out r1).d] _ _ from by rw [hq2]; exact SRPlain' (mulT t q) (TOk.mul ht hq lq) (by omega) (by omega))) tc_2)] [(4, vp 2 0)] [(2, .box ([.d (.sl 3 ((scaleT t q).parts.map Part.d))] ++ zi (scaleT t q).k))] (by kernel_rfl) h ?_; clear h; intro a w h
   refine wp_ret ?_
   refine retS [.agg ([.d (.sl 3 ((scaleT t q).parts.map Part.d))] ++ zi (scaleT t q).k)] h Exit.ret (.inl rfl)  rfl ⟨RV.agg _ 2 0 _ _ _ _ tb_11 rfl rfl rfl rfl, trivial⟩ ?_ (by kernel_rfl) (by kernel_rfl)
   rfl
theorem SRTSub (s t : Term) (hs : TOk 400 10000 s) (ht : TOk 400 10000 t) : Fn Tryz.prog 58 [] [.t (.agg ([.d (.sl 3 (s.parts.map Part.d))] ++ zi s.k)), .t (.agg ([.d (.sl 3 (t.parts.map Part.d))] ++ zi t.k))] (vd (subT s t).d) [] := by
 refine Fn.body Tryz.func58 rfl 10 rfl fun w H B a h => ?_
 refine rSeq fam0ok 0 [] [(2, vp 0 0), (3, vp 1 0), (4, vp 2 0)] [(0, .box ([.d (.sl 3 (s.parts.map Part.d))] ++ zi s.k)), (1, .box ([.d (.sl 3 (t.parts.map Part.d))] ++ zi t.k)), (2, .box [.d (.raw nilV), .d (.raw (.bool false)), .d (nsl [])])] (by kernel_rfl) h ?_; clear h; intro a w h
 obtain ⟨r1, er1, vr1, or1, lr1⟩ := mkZ (v := (-1)) (m := 2) (ZI.len_of (by have := pw2; omega))
 refine rSeq fam0ok 3 [(2, .call (Fn.cast (SROf (-1) ⟨by omega, by omega⟩) (congrArg vz er1.symm)) tc_0), (3, .call (SRScale t r1 ht (by decide) or1 lr1 (by decide)) hT_10), (4, .call (SRTAdd s (scaleT t r1) (hs.mono (by decide) (by decide)) (((TOk.mul ht or1 lr1).plain (by decide)).mono (by decide) (by decide))) hT_11)] [(4, vp 2 0)] [(2, .box ([.d (.sl 3 ((addT s (scaleT t r1)).parts.map Part.d))] ++ zi (addT s (scaleT t r1)).k))] (by kernel_rfl) h ?_; clear h; intro a w h
 refine wp_ret ?_
 refine retS [.agg ([.d (.sl 3 ((addT s (scaleT t r1)).parts.map Part.d))] ++ zi (addT s (scaleT t r1)).k)] h Exit.ret (.inl rfl)  rfl ⟨RV.agg _ 2 0 _ _ _ _ tb_11 rfl rfl rfl rfl, trivial⟩ ?_ (by kernel_rfl) (by kernel_rfl)
 rw [er1]; first | done | rfl
end Go.Proofs.YtoklkfmffmonoaaGreat.S
end
section
namespace Go.Proofs.YtoklkfmffmonoaaGreat.S
open Go.RowKit

theorem hA_11 : Bodied Tryz.prog 59 := Bodied.mk' (by kernel_rfl)
theorem hA_12 : Bodied Tryz.prog 58 := Bodied.mk' (by kernel_rfl)
set_option maxHeartbeats 4000000 in
theorem SRShade (rs : List RelD) (v : Int) (d : Bool) (hrs : RsOk rs) : Fn Tryz.prog 20 [] [.t (.c (.d (.sl 4 (rs.map RelD.d)))), vi .i64 v, vb d] (.t (.c (.d (.sl 4 ((shadeS d rs v).map RelD.d))))) [] := by
 have lrs := hrs.1
 have no := others_len hrs v
 refine Fn.body Tryz.func20 rfl 114 rfl fun w H B a h => ?_
 refine rSeq fam0ok 5 [] [(0, .t (.c (.d (.sl 4 (rs.map RelD.d))))), (1, vi .i64 v), (2, vb d), (6, .t (.c (.d (.raw nilV))))] [] (by kernel_rfl) h ?_; clear h; intro a w h
 refine rSeq fam0ok 5 [(0, .gen _ _ _ fun _ _ _ _ => Op.buildE (d := 16) (n := 5) kc_5)] [(0, .t (.c (.d (.sl 4 (rs.map RelD.d))))), (1, vi .i64 v), (2, vb d), (6, .t (.c (.d (.raw nilV)))), (7, .t (.c (.own 5 0)))] [(5, .row 45 4 ([].map RelD.d))] (by kernel_rfl) h ?_; clear h; intro a w h
 refine wp_seq ?_
 refine rSeq fam0ok 6 [] [(0, .t (.c (.d (.sl 4 (rs.map RelD.d))))), (1, vi .i64 v), (2, vb d), (6, .t (.c (.d (.raw nilV)))), (7, .t (.c (.own 5 0))), (8, vi .i64 0)] [(5, .row 45 4 ([].map RelD.d))] (by kernel_rfl) h ?_; clear h; intro a w h
 refine wp_block ?_
 replace h := h.conv (f' := F.of [(0, .t (.c (.d (.sl 4 (rs.map RelD.d))))), (1, vi .i64 v), (2, vb d), (6, .t (.c (.d (.raw nilV)))), (7, .t (.c (.own 5 0))), (8, vi .i64 0)] [(5, .row 45 4 (((rs.take 0).flatMap (othF v)).map RelD.d))]) (congrArg (fun (z_ : List RelD) => F.of [(0, .t (.c (.d (.sl 4 (rs.map RelD.d))))), (1, vi .i64 v), (2, vb d), (6, .t (.c (.d (.raw nilV)))), (7, .t (.c (.own 5 0))), (8, vi .i64 0)] [(5, .row 45 4 (z_.map RelD.d))]) (show ([] : List RelD) = ((rs.take 0).flatMap (othF v)) from (by simp)))
 refine loopS (ι := (Nat)) (fun (z_ : (Nat)) => match z_ with | j => j ≤ rs.length)
   (fun (z_ : (Nat)) => match z_ with | j => [(0, .t (.c (.d (.sl 4 (rs.map RelD.d))))), (1, vi .i64 v), (2, vb d), (6, .t (.c (.d (.raw nilV)))), (7, .t (.c (.own 5 ((rs.take j).flatMap (othF v)).length))), (8, vi .i64 (j : Int))])
   (fun (z_ : (Nat)) => match z_ with | j => [(5, .row 45 4 (((rs.take j).flatMap (othF v)).map RelD.d))])
   (fun (z_ : (Nat)) => match z_ with | j => rs.length - j) 0 ?_ h (by kernel_rfl) (by kernel_rfl) ?_
 ·exact Nat.zero_le _
 ·clear h; rintro j a w hI h
  change St _ (F.of [(0, .t (.c (.d (.sl 4 (rs.map RelD.d))))), (1, vi .i64 v), (2, vb d), (6, .t (.c (.d (.raw nilV)))), (7, .t (.c (.own 5 ((rs.take j).flatMap (othF v)).length))), (8, vi .i64 (j : Int))] [(5, .row 45 4 (((rs.take j).flatMap (othF v)).map RelD.d))]) a w at h
  have fl3 := flat_le (oth_le v) (rs.take j)
  rw [List.length_take] at fl3
  refine wp_seq ?_
  refine rSeq fam0ok 6 [(2, .len (c := (.d (.sl 4 (rs.map RelD.d)))) (n := rs.length) (lenC_map _ _ _))] [(0, .t (.c (.d (.sl 4 (rs.map RelD.d))))), (1, vi .i64 v), (2, vb d), (6, .t (.c (.d (.raw nilV)))), (7, .t (.c (.own 5 ((rs.take j).flatMap (othF v)).length))), (8, vi .i64 (j : Int)), (20, vb (decide ((j : Int) < (rs.length : Int))))] [(5, .row 45 4 (((rs.take j).flatMap (othF v)).map RelD.d))] (by kernel_rfl) h ?_; clear h; intro a w h
  refine condS (decide ((j : Int) < (rs.length : Int))) h rfl (fun hc => ?_) (fun hc => ?_)
  ·have hc1 := hc; clear hc
   have hc1' := of_decide_eq_true hc1
   refine wp_skip ?_
   refine then_n ?_
   refine wp_seq ?_
   refine wp_block ?_
   obtain ⟨x1, hx1⟩ : ∃ z_ : RelD, rs[j]? = some z_ := ⟨_, List.getElem?_eq_getElem (by first | omega | (simp at *; omega))⟩
   have gx1 : TOk 20 8 x1.t := hrs.2 x1 (List.mem_of_getElem? hx1)
   refine rSeq fam0ok 6 [(2, .gen _ _ _ fun _ _ _ _ => Op.idxD (d := 25) (t := 23) (k := .i64) kc_3 (map_at hx1 (f := RelD.d)) (OV.tmp 24 _)), (5, .call (SSign7 x1 v gx1) hd_11)] [(0, .t (.c (.d (.sl 4 (rs.map RelD.d))))), (1, vi .i64 v), (2, vb d), (6, .t (.c (.d (.raw nilV)))), (7, .t (.c (.own 5 ((rs.take j).flatMap (othF v)).length))), (8, vi .i64 (j : Int)), (29, vb (sgn (coefZ x1.t.parts v) == 0))] [(5, .row 45 4 (((rs.take j).flatMap (othF v)).map RelD.d))] (by kernel_rfl) h ?_; clear h; intro a w h
   refine condS (sgn (coefZ x1.t.parts v) == 0) h rfl (fun hc => ?_) (fun hc => ?_)
   ·have hc2 := hc; clear hc
    have hc2' := hc2; (try simp at hc2')
    refine rS fam0ok 6 [(3, .gen _ _ _ fun _ _ _ _ => Op.idxD (d := 33) (t := 31) (k := .i64) kc_3 (map_at hx1 (f := RelD.d)) (OV.tmp 32 _)), (6, .call (SRPlain' x1.t gx1 (by decide) (by decide)) tc_2), (8, .gen _ _ _ fun _ _ _ _ => Op.buildO (d := 38) (n := 6) (len := 1) (rows := [(RelD.mk (plainT x1.t) false)].map RelD.d) (rs := [(37, .t (.agg ([.d (.sl 3 ((plainT x1.t).parts.map Part.d))] ++ zi (plainT x1.t).k ++ [.d (.raw (.bool false))])))]) kc_5 (.cons (i := 0) (OV.tmp 37 _) (.nil)) (by kernel_rfl) rfl (by simp [RelD.d]) (by decide) (by decide)), (9, .gen _ _ _ fun _ _ _ _ => Op.appOO (d := 39) (t := 30) (u := 38) (n := 5) (sn := 6) (n' := 7) (len := ((rs.take j).flatMap (othF v)).length) (len2 := 1) (len' := (((rs.take j).flatMap (othF v)) ++ [(RelD.mk (plainT x1.t) false)]).length) (rows := ((rs.take j).flatMap (othF v)).map RelD.d) (rows2 := [(RelD.mk (plainT x1.t) false)].map RelD.d) (rows' := (((rs.take j).flatMap (othF v)) ++ [(RelD.mk (plainT x1.t) false)]).map RelD.d) ha_11 (by first | exact (List.length_map _).symm | simp) (by first | exact (List.length_map _).symm | simp) (by first | (rw [List.length_append, List.length_map]; done) | simp) (by simp) (by first | omega | (simp at *; done) | (simp at *; omega)))] [(0, .t (.c (.d (.sl 4 (rs.map RelD.d))))), (1, vi .i64 v), (2, vb d), (6, .t (.c (.d (.raw nilV)))), (7, .t (.c (.own 7 (((rs.take j).flatMap (othF v)) ++ [(RelD.mk (plainT x1.t) false)]).length))), (8, vi .i64 (j : Int))] [(7, .row 45 4 ((((rs.take j).flatMap (othF v)) ++ [(RelD.mk (plainT x1.t) false)]).map RelD.d))] (by kernel_rfl) h ?_; clear h; intro a w h
    refine block_n ?_
    refine then_n ?_
    refine rS fam0ok 8 [(1, .add .i64 (m := (j : Int)) (n := 1) (i64_id (by omega) (by omega)))] [(0, .t (.c (.d (.sl 4 (rs.map RelD.d))))), (1, vi .i64 v), (2, vb d), (6, .t (.c (.d (.raw nilV)))), (7, .t (.c (.own 7 (((rs.take j).flatMap (othF v)) ++ [(RelD.mk (plainT x1.t) false)]).length))), (8, vi .i64 ((j : Int) + 1))] [(7, .row 45 4 ((((rs.take j).flatMap (othF v)) ++ [(RelD.mk (plainT x1.t) false)]).map RelD.d))] (by kernel_rfl) h ?_; clear h; intro a w h
    refine then_n ?_
    replace h := h.conv (f' := F.of [(0, .t (.c (.d (.sl 4 (rs.map RelD.d))))), (1, vi .i64 v), (2, vb d), (6, .t (.c (.d (.raw nilV)))), (7, .t (.c (.own 7 ((rs.take (j + 1)).flatMap (othF v)).length))), (8, vi .i64 ((j : Int) + 1))] [(7, .row 45 4 (((rs.take (j + 1)).flatMap (othF v)).map RelD.d))]) (congrArg (fun (z_ : List RelD) => F.of [(0, .t (.c (.d (.sl 4 (rs.map RelD.d))))), (1, vi .i64 v), (2, vb d), (6, .t (.c (.d (.raw nilV)))), (7, .t (.c (.own 7 z_.length))), (8, vi .i64 ((j : Int) + 1))] [(7, .row 45 4 (z_.map RelD.d))]) (show ((((rs.take j).flatMap (othF v)) ++ [(RelD.mk (plainT x1.t) false)]) : List RelD) = ((rs.take (j + 1)).flatMap (othF v)) from (flat_snoc (g := othF v) hx1 (by unfold othF; rw [if_pos (sgn0_t hc2)]; rfl))))
    replace h := renS 7 5 [(0, .t (.c (.d (.sl 4 (rs.map RelD.d))))), (1, vi .i64 v), (2, vb d), (6, .t (.c (.d (.raw nilV)))), (7, .t (.c (.own 5 ((rs.take (j + 1)).flatMap (othF v)).length))), (8, vi .i64 ((j : Int) + 1))] [(5, .row 45 4 (((rs.take (j + 1)).flatMap (othF v)).map RelD.d))] h (by kernel_rfl) (by kernel_rfl) (by kernel_rfl)
    refine roundS (x := j) (y := j + 1) h ?_ ?_ (by kernel_rfl) (by kernel_rfl)
    ·have := at_lt hx1
     show j + 1 ≤ rs.length
     omega
    ·show rs.length - (j + 1) < rs.length - j
     have := at_lt hx1; omega
   ·have hc3 := hc; clear hc
    have hc3' := hc3; (try simp at hc3')
    refine wp_skip ?_
    refine block_n ?_
    refine then_n ?_
    refine rS fam0ok 8 [(1, .add .i64 (m := (j : Int)) (n := 1) (i64_id (by omega) (by omega)))] [(0, .t (.c (.d (.sl 4 (rs.map RelD.d))))), (1, vi .i64 v), (2, vb d), (6, .t (.c (.d (.raw nilV)))), (7, .t (.c (.own 5 ((rs.take j).flatMap (othF v)).length))), (8, vi .i64 ((j : Int) + 1))] [(5, .row 45 4 (((rs.take j).flatMap (othF v)).map RelD.d))] (by kernel_rfl) h ?_; clear h; intro a w h
    refine then_n ?_
    replace h := h.conv (f' := F.of [(0, .t (.c (.d (.sl 4 (rs.map RelD.d))))), (1, vi .i64 v), (2, vb d), (6, .t (.c (.d (.raw nilV)))), (7, .t (.c (.own 5 ((rs.take (j + 1)).flatMap (othF v)).length))), (8, vi .i64 ((j : Int) + 1))] [(5, .row 45 4 (((rs.take (j + 1)).flatMap (othF v)).map RelD.d))]) (congrArg (fun (z_ : List RelD) => F.of [(0, .t (.c (.d (.sl 4 (rs.map RelD.d))))), (1, vi .i64 v), (2, vb d), (6, .t (.c (.d (.raw nilV)))), (7, .t (.c (.own 5 z_.length))), (8, vi .i64 ((j : Int) + 1))] [(5, .row 45 4 (z_.map RelD.d))]) (show (((rs.take j).flatMap (othF v)) : List RelD) = ((rs.take (j + 1)).flatMap (othF v)) from (flat_skip (g := othF v) hx1 (by unfold othF; rw [if_neg (sgn0_f hc3)]))))
    refine roundS (x := j) (y := j + 1) h ?_ ?_ (by kernel_rfl) (by kernel_rfl)
    ·have := at_lt hx1
     show j + 1 ≤ rs.length
     omega
    ·show rs.length - (j + 1) < rs.length - j
     have := at_lt hx1; omega
  ·have hc4 := hc; clear hc
   have hc4' := of_decide_eq_false hc4
   refine wp_exit ?_
   refine then_x ?_
   refine then_x ?_
   refine inBlock_exit ?_
   refine then_n ?_
   obtain ⟨r4, er4, vr4, or4, lr4⟩ := mkZ (v := 1) (m := 2) (ZI.len_of (by have := pw2; omega))
   refine rSeq fam0ok 8 [(0, .call (Fn.cast (SROf 1 ⟨by omega, by omega⟩) (congrArg vz er4.symm)) tc_0)] [(0, .t (.c (.d (.sl 4 (rs.map RelD.d))))), (1, vi .i64 v), (2, vb d), (6, .t (.c (.d (.raw nilV)))), (7, .t (.c (.own 5 ((rs.take j).flatMap (othF v)).length))), (9, vp 8 0)] [(5, .row 45 4 (((rs.take j).flatMap (othF v)).map RelD.d)), (8, .box (zi r4))] (by kernel_rfl) h ?_; clear h; intro a w h
   refine wp_seq ?_
   refine rSeq fam0ok 9 [] [(0, .t (.c (.d (.sl 4 (rs.map RelD.d))))), (1, vi .i64 v), (2, vb d), (6, .t (.c (.d (.raw nilV)))), (7, .t (.c (.own 5 ((rs.take j).flatMap (othF v)).length))), (9, vp 8 0), (10, vi .i64 0)] [(5, .row 45 4 (((rs.take j).flatMap (othF v)).map RelD.d)), (8, .box (zi r4))] (by kernel_rfl) h ?_; clear h; intro a w h
   refine wp_block ?_
   replace h := h.conv (f' := F.of [(0, .t (.c (.d (.sl 4 (rs.map RelD.d))))), (1, vi .i64 v), (2, vb d), (6, .t (.c (.d (.raw nilV)))), (7, .t (.c (.own 5 ((othersOf rs v) ++ (rs.take 0).flatMap (fun a => rs.flatMap (shF d v a))).length))), (9, vp 8 0), (10, vi .i64 0)] [(5, .row 45 4 (((othersOf rs v) ++ (rs.take 0).flatMap (fun a => rs.flatMap (shF d v a))).map RelD.d)), (8, .box (zi r4))]) (congrArg (fun (z_ : List RelD) => F.of [(0, .t (.c (.d (.sl 4 (rs.map RelD.d))))), (1, vi .i64 v), (2, vb d), (6, .t (.c (.d (.raw nilV)))), (7, .t (.c (.own 5 z_.length))), (9, vp 8 0), (10, vi .i64 0)] [(5, .row 45 4 (z_.map RelD.d)), (8, .box (zi r4))]) (show (((rs.take j).flatMap (othF v)) : List RelD) = ((othersOf rs v) ++ (rs.take 0).flatMap (fun a => rs.flatMap (shF d v a))) from (by unfold othersOf; rw [List.take_of_length_le (by omega)]; simp)))
   refine loopS (ι := (Nat)) (fun (z_ : (Nat)) => match z_ with | i => i ≤ rs.length)
     (fun (z_ : (Nat)) => match z_ with | i => [(0, .t (.c (.d (.sl 4 (rs.map RelD.d))))), (1, vi .i64 v), (2, vb d), (6, .t (.c (.d (.raw nilV)))), (7, .t (.c (.own 5 ((othersOf rs v) ++ (rs.take i).flatMap (fun a => rs.flatMap (shF d v a))).length))), (9, vp 8 0), (10, vi .i64 (i : Int))])
     (fun (z_ : (Nat)) => match z_ with | i => [(5, .row 45 4 (((othersOf rs v) ++ (rs.take i).flatMap (fun a => rs.flatMap (shF d v a))).map RelD.d)), (8, .box (zi r4))])
     (fun (z_ : (Nat)) => match z_ with | i => rs.length - i) 0 ?_ h (by kernel_rfl) (by kernel_rfl) ?_
   ·exact Nat.zero_le _
   ·clear h; rintro i a w hI h
    change St _ (F.of [(0, .t (.c (.d (.sl 4 (rs.map RelD.d))))), (1, vi .i64 v), (2, vb d), (6, .t (.c (.d (.raw nilV)))), (7, .t (.c (.own 5 ((othersOf rs v) ++ (rs.take i).flatMap (fun a => rs.flatMap (shF d v a))).length))), (9, vp 8 0), (10, vi .i64 (i : Int))] [(5, .row 45 4 (((othersOf rs v) ++ (rs.take i).flatMap (fun a => rs.flatMap (shF d v a))).map RelD.d)), (8, .box (zi r4))]) a w at h
    have oi := shade_len hrs d v i
    refine wp_seq ?_
    refine rSeq fam0ok 9 [(2, .len (c := (.d (.sl 4 (rs.map RelD.d)))) (n := rs.length) (lenC_map _ _ _))] [(0, .t (.c (.d (.sl 4 (rs.map RelD.d))))), (1, vi .i64 v), (2, vb d), (6, .t (.c (.d (.raw nilV)))), (7, .t (.c (.own 5 ((othersOf rs v) ++ (rs.take i).flatMap (fun a => rs.flatMap (shF d v a))).length))), (9, vp 8 0), (10, vi .i64 (i : Int)), (44, vb (decide ((i : Int) < (rs.length : Int))))] [(5, .row 45 4 (((othersOf rs v) ++ (rs.take i).flatMap (fun a => rs.flatMap (shF d v a))).map RelD.d)), (8, .box (zi r4))] (by kernel_rfl) h ?_; clear h; intro a w h
    refine condS (decide ((i : Int) < (rs.length : Int))) h rfl (fun hc => ?_) (fun hc => ?_)
    ·have hc5 := hc; clear hc
     have hc5' := of_decide_eq_true hc5
     refine wp_skip ?_
     refine then_n ?_
     refine wp_seq ?_
     refine wp_block ?_
     refine rSeq fam0ok 9 [] [(0, .t (.c (.d (.sl 4 (rs.map RelD.d))))), (1, vi .i64 v), (2, vb d), (6, .t (.c (.d (.raw nilV)))), (7, .t (.c (.own 5 ((othersOf rs v) ++ (rs.take i).flatMap (fun a => rs.flatMap (shF d v a))).length))), (9, vp 8 0), (10, vi .i64 (i : Int)), (11, vi .i64 0)] [(5, .row 45 4 (((othersOf rs v) ++ (rs.take i).flatMap (fun a => rs.flatMap (shF d v a))).map RelD.d)), (8, .box (zi r4))] (by kernel_rfl) h ?_; clear h; intro a w h
     refine wp_block ?_
     obtain ⟨xa, hxa⟩ : ∃ z_ : RelD, rs[i]? = some z_ := ⟨_, List.getElem?_eq_getElem (by omega)⟩
     have gxa : TOk 20 8 xa.t := hrs.2 xa (List.mem_of_getElem? hxa)
     replace h := h.conv (f' := F.of [(0, .t (.c (.d (.sl 4 (rs.map RelD.d))))), (1, vi .i64 v), (2, vb d), (6, .t (.c (.d (.raw nilV)))), (7, .t (.c (.own 5 (((othersOf rs v) ++ (rs.take i).flatMap (fun a => rs.flatMap (shF d v a))) ++ (rs.take 0).flatMap (shF d v xa)).length))), (9, vp 8 0), (10, vi .i64 (i : Int)), (11, vi .i64 0)] [(5, .row 45 4 ((((othersOf rs v) ++ (rs.take i).flatMap (fun a => rs.flatMap (shF d v a))) ++ (rs.take 0).flatMap (shF d v xa)).map RelD.d)), (8, .box (zi r4))]) (congrArg (fun (z_ : List RelD) => F.of [(0, .t (.c (.d (.sl 4 (rs.map RelD.d))))), (1, vi .i64 v), (2, vb d), (6, .t (.c (.d (.raw nilV)))), (7, .t (.c (.own 5 z_.length))), (9, vp 8 0), (10, vi .i64 (i : Int)), (11, vi .i64 0)] [(5, .row 45 4 (z_.map RelD.d)), (8, .box (zi r4))]) (show (((othersOf rs v) ++ (rs.take i).flatMap (fun a => rs.flatMap (shF d v a))) : List RelD) = (((othersOf rs v) ++ (rs.take i).flatMap (fun a => rs.flatMap (shF d v a))) ++ (rs.take 0).flatMap (shF d v xa)) from (by simp)))
     refine loopS (ι := (Nat)) (fun (z_ : (Nat)) => match z_ with | k => k ≤ rs.length)
       (fun (z_ : (Nat)) => match z_ with | k => [(0, .t (.c (.d (.sl 4 (rs.map RelD.d))))), (1, vi .i64 v), (2, vb d), (6, .t (.c (.d (.raw nilV)))), (7, .t (.c (.own 5 (((othersOf rs v) ++ (rs.take i).flatMap (fun a => rs.flatMap (shF d v a))) ++ (rs.take k).flatMap (shF d v xa)).length))), (9, vp 8 0), (10, vi .i64 (i : Int)), (11, vi .i64 (k : Int))])
       (fun (z_ : (Nat)) => match z_ with | k => [(5, .row 45 4 ((((othersOf rs v) ++ (rs.take i).flatMap (fun a => rs.flatMap (shF d v a))) ++ (rs.take k).flatMap (shF d v xa)).map RelD.d)), (8, .box (zi r4))])
       (fun (z_ : (Nat)) => match z_ with | k => rs.length - k) 0 ?_ h (by kernel_rfl) (by kernel_rfl) ?_
     ·exact Nat.zero_le _
     ·clear h; rintro k a w hI h
      change St _ (F.of [(0, .t (.c (.d (.sl 4 (rs.map RelD.d))))), (1, vi .i64 v), (2, vb d), (6, .t (.c (.d (.raw nilV)))), (7, .t (.c (.own 5 (((othersOf rs v) ++ (rs.take i).flatMap (fun a => rs.flatMap (shF d v a))) ++ (rs.take k).flatMap (shF d v xa)).length))), (9, vp 8 0), (10, vi .i64 (i : Int)), (11, vi .i64 (k : Int))] [(5, .row 45 4 ((((othersOf rs v) ++ (rs.take i).flatMap (fun a => rs.flatMap (shF d v a))) ++ (rs.take k).flatMap (shF d v xa)).map RelD.d)), (8, .box (zi r4))]) a w at h
      have ok := flat_le (shF_le d v xa) (rs.take k)
      rw [List.length_take] at ok
      have ok2 : (((othersOf rs v) ++ (rs.take i).flatMap (fun a => rs.flatMap (shF d v a))) ++ (rs.take k).flatMap (shF d v xa)).length ≤ 500 := by rw [List.length_append]; omega
      refine wp_seq ?_
      refine rSeq fam0ok 9 [(2, .len (c := (.d (.sl 4 (rs.map RelD.d)))) (n := rs.length) (lenC_map _ _ _))] [(0, .t (.c (.d (.sl 4 (rs.map RelD.d))))), (1, vi .i64 v), (2, vb d), (6, .t (.c (.d (.raw nilV)))), (7, .t (.c (.own 5 (((othersOf rs v) ++ (rs.take i).flatMap (fun a => rs.flatMap (shF d v a))) ++ (rs.take k).flatMap (shF d v xa)).length))), (9, vp 8 0), (10, vi .i64 (i : Int)), (11, vi .i64 (k : Int)), (50, vb (decide ((k : Int) < (rs.length : Int))))] [(5, .row 45 4 ((((othersOf rs v) ++ (rs.take i).flatMap (fun a => rs.flatMap (shF d v a))) ++ (rs.take k).flatMap (shF d v xa)).map RelD.d)), (8, .box (zi r4))] (by kernel_rfl) h ?_; clear h; intro a w h
      refine condS (decide ((k : Int) < (rs.length : Int))) h rfl (fun hc => ?_) (fun hc => ?_)
      ·have hc6 := hc; clear hc
       have hc6' := of_decide_eq_true hc6
       refine wp_skip ?_
       refine then_n ?_
       refine wp_seq ?_
       refine wp_block ?_
       refine wp_seq ?_
       rcases Bool.eq_false_or_eq_true (decide (sgn (coefZ xa.t.parts v) ≤ 0)) with hc | hc
       ·have hc7 := hc; clear hc
        have hc7' := of_decide_eq_true hc7
        refine rSeq fam0ok 9 [(2, .gen _ _ _ fun _ _ _ _ => Op.idxD (d := 55) (t := 53) (k := .i64) kc_3 (map_at hxa (f := RelD.d)) (OV.tmp 54 _)), (5, .call (SSign7 xa v gxa) hd_11), (6, .cmp (op := .leq) (m := (sgn (coefZ xa.t.parts v))) (n := 0) (b := true) .i64 hc7)] [(0, .t (.c (.d (.sl 4 (rs.map RelD.d))))), (1, vi .i64 v), (2, vb d), (6, .t (.c (.d (.raw nilV)))), (7, .t (.c (.own 5 (((othersOf rs v) ++ (rs.take i).flatMap (fun a => rs.flatMap (shF d v a))) ++ (rs.take k).flatMap (shF d v xa)).length))), (9, vp 8 0), (10, vi .i64 (i : Int)), (11, vi .i64 (k : Int)), (68, vb true)] [(5, .row 45 4 ((((othersOf rs v) ++ (rs.take i).flatMap (fun a => rs.flatMap (shF d v a))) ++ (rs.take k).flatMap (shF d v xa)).map RelD.d)), (8, .box (zi r4))] (by kernel_rfl) h ?_; clear h; intro a w h
        refine condS true h rfl (fun hc => ?_) (fun hc => ?_)
        ·clear hc
         refine wp_exit ?_
         refine then_x ?_
         refine inBlock_exit ?_
         refine then_n ?_
         refine rS fam0ok 9 [(1, .add .i64 (m := (k : Int)) (n := 1) (i64_id (by omega) (by omega)))] [(0, .t (.c (.d (.sl 4 (rs.map RelD.d))))), (1, vi .i64 v), (2, vb d), (6, .t (.c (.d (.raw nilV)))), (7, .t (.c (.own 5 (((othersOf rs v) ++ (rs.take i).flatMap (fun a => rs.flatMap (shF d v a))) ++ (rs.take k).flatMap (shF d v xa)).length))), (9, vp 8 0), (10, vi .i64 (i : Int)), (11, vi .i64 ((k : Int) + 1))] [(5, .row 45 4 ((((othersOf rs v) ++ (rs.take i).flatMap (fun a => rs.flatMap (shF d v a))) ++ (rs.take k).flatMap (shF d v xa)).map RelD.d)), (8, .box (zi r4))] (by kernel_rfl) h ?_; clear h; intro a w h
         refine then_n ?_
         obtain ⟨xk, hxk⟩ : ∃ z_ : RelD, rs[k]? = some z_ := ⟨_, List.getElem?_eq_getElem (by omega)⟩
         replace h := h.conv (f' := F.of [(0, .t (.c (.d (.sl 4 (rs.map RelD.d))))), (1, vi .i64 v), (2, vb d), (6, .t (.c (.d (.raw nilV)))), (7, .t (.c (.own 5 (((othersOf rs v) ++ (rs.take i).flatMap (fun a => rs.flatMap (shF d v a))) ++ (rs.take (k + 1)).flatMap (shF d v xa)).length))), (9, vp 8 0), (10, vi .i64 (i : Int)), (11, vi .i64 ((k : Int) + 1))] [(5, .row 45 4 ((((othersOf rs v) ++ (rs.take i).flatMap (fun a => rs.flatMap (shF d v a))) ++ (rs.take (k + 1)).flatMap (shF d v xa)).map RelD.d)), (8, .box (zi r4))]) (congrArg (fun (z_ : List RelD) => F.of [(0, .t (.c (.d (.sl 4 (rs.map RelD.d))))), (1, vi .i64 v), (2, vb d), (6, .t (.c (.d (.raw nilV)))), (7, .t (.c (.own 5 z_.length))), (9, vp 8 0), (10, vi .i64 (i : Int)), (11, vi .i64 ((k : Int) + 1))] [(5, .row 45 4 (z_.map RelD.d)), (8, .box (zi r4))]) (show ((((othersOf rs v) ++ (rs.take i).flatMap (fun a => rs.flatMap (shF d v a))) ++ (rs.take k).flatMap (shF d v xa)) : List RelD) = (((othersOf rs v) ++ (rs.take i).flatMap (fun a => rs.flatMap (shF d v a))) ++ (rs.take (k + 1)).flatMap (shF d v xa)) from (by rw [← flat_skip (g := shF d v xa) hxk (by unfold shF; rw [if_neg (fun e => by have := sgn_gt_zero (z := coefZ xa.t.parts v); have hp_ := of_decide_eq_true hc7; omega)])])))
         refine roundS (x := k) (y := k + 1) h ?_ ?_ (by kernel_rfl) (by kernel_rfl)
         ·have := at_lt hxk
          show k + 1 ≤ rs.length
          omega
         ·show rs.length - (k + 1) < rs.length - k
          have := at_lt hxk; omega
        ·cases hc
       ·have hc8 := hc; clear hc
        have hc8' := of_decide_eq_false hc8
        obtain ⟨x8, hx8⟩ : ∃ z_ : RelD, rs[k]? = some z_ := ⟨_, List.getElem?_eq_getElem (by first | omega | (simp at *; omega))⟩
        have gx8 : TOk 20 8 x8.t := hrs.2 x8 (List.mem_of_getElem? hx8)
        refine rSeq fam0ok 9 [(2, .gen _ _ _ fun _ _ _ _ => Op.idxD (d := 55) (t := 53) (k := .i64) kc_3 (map_at hxa (f := RelD.d)) (OV.tmp 54 _)), (5, .call (SSign7 xa v gxa) hd_11), (6, .cmp (op := .leq) (m := (sgn (coefZ xa.t.parts v))) (n := 0) (b := false) .i64 hc8), (10, .gen _ _ _ fun _ _ _ _ => Op.idxD (d := 63) (t := 61) (k := .i64) kc_3 (map_at hx8 (f := RelD.d)) (OV.tmp 62 _)), (13, .call (SSign7 x8 v gx8) hd_11)] [(0, .t (.c (.d (.sl 4 (rs.map RelD.d))))), (1, vi .i64 v), (2, vb d), (6, .t (.c (.d (.raw nilV)))), (7, .t (.c (.own 5 (((othersOf rs v) ++ (rs.take i).flatMap (fun a => rs.flatMap (shF d v a))) ++ (rs.take k).flatMap (shF d v xa)).length))), (9, vp 8 0), (10, vi .i64 (i : Int)), (11, vi .i64 (k : Int)), (68, vb (decide (sgn (coefZ x8.t.parts v) ≥ 0)))] [(5, .row 45 4 ((((othersOf rs v) ++ (rs.take i).flatMap (fun a => rs.flatMap (shF d v a))) ++ (rs.take k).flatMap (shF d v xa)).map RelD.d)), (8, .box (zi r4))] (by kernel_rfl) h ?_; clear h; intro a w h
        refine condS (decide (sgn (coefZ x8.t.parts v) ≥ 0)) h rfl (fun hc => ?_) (fun hc => ?_)
        ·have hc9 := hc; clear hc
         have hc9' := of_decide_eq_true hc9
         refine wp_exit ?_
         refine then_x ?_
         refine inBlock_exit ?_
         refine then_n ?_
         refine rS fam0ok 9 [(1, .add .i64 (m := (k : Int)) (n := 1) (i64_id (by omega) (by omega)))] [(0, .t (.c (.d (.sl 4 (rs.map RelD.d))))), (1, vi .i64 v), (2, vb d), (6, .t (.c (.d (.raw nilV)))), (7, .t (.c (.own 5 (((othersOf rs v) ++ (rs.take i).flatMap (fun a => rs.flatMap (shF d v a))) ++ (rs.take k).flatMap (shF d v xa)).length))), (9, vp 8 0), (10, vi .i64 (i : Int)), (11, vi .i64 ((k : Int) + 1))] [(5, .row 45 4 ((((othersOf rs v) ++ (rs.take i).flatMap (fun a => rs.flatMap (shF d v a))) ++ (rs.take k).flatMap (shF d v xa)).map RelD.d)), (8, .box (zi r4))] (by kernel_rfl) h ?_; clear h; intro a w h
         refine then_n ?_
         replace h := h.conv (f' := F.of [(0, .t (.c (.d (.sl 4 (rs.map RelD.d))))), (1, vi .i64 v), (2, vb d), (6, .t (.c (.d (.raw nilV)))), (7, .t (.c (.own 5 (((othersOf rs v) ++ (rs.take i).flatMap (fun a => rs.flatMap (shF d v a))) ++ (rs.take (k + 1)).flatMap (shF d v xa)).length))), (9, vp 8 0), (10, vi .i64 (i : Int)), (11, vi .i64 ((k : Int) + 1))] [(5, .row 45 4 ((((othersOf rs v) ++ (rs.take i).flatMap (fun a => rs.flatMap (shF d v a))) ++ (rs.take (k + 1)).flatMap (shF d v xa)).map RelD.d)), (8, .box (zi r4))]) (congrArg (fun (z_ : List RelD) => F.of [(0, .t (.c (.d (.sl 4 (rs.map RelD.d))))), (1, vi .i64 v), (2, vb d), (6, .t (.c (.d (.raw nilV)))), (7, .t (.c (.own 5 z_.length))), (9, vp 8 0), (10, vi .i64 (i : Int)), (11, vi .i64 ((k : Int) + 1))] [(5, .row 45 4 (z_.map RelD.d)), (8, .box (zi r4))]) (show ((((othersOf rs v) ++ (rs.take i).flatMap (fun a => rs.flatMap (shF d v a))) ++ (rs.take k).flatMap (shF d v xa)) : List RelD) = (((othersOf rs v) ++ (rs.take i).flatMap (fun a => rs.flatMap (shF d v a))) ++ (rs.take (k + 1)).flatMap (shF d v xa)) from (by rw [← flat_skip (g := shF d v xa) hx8 (by unfold shF; rw [if_neg (fun e => by have := sgn_lt_zero (z := coefZ x8.t.parts v); have hp_ := of_decide_eq_true hc9; omega)])])))
         refine roundS (x := k) (y := k + 1) h ?_ ?_ (by kernel_rfl) (by kernel_rfl)
         ·have := at_lt hx8
          show k + 1 ≤ rs.length
          omega
         ·show rs.length - (k + 1) < rs.length - k
          have := at_lt hx8; omega
        ·have hc10 := hc; clear hc
         have hc10' := of_decide_eq_false hc10
         refine wp_skip ?_
         refine then_n ?_
         obtain ⟨r10, er10, vr10, or10, lr10⟩ := mkZ (v := ((coefZ xa.t.parts v).natAbs : Int)) (m := 9) ((side_ok gxa v).len)
         obtain ⟨r11, er11, vr11, or11, lr11⟩ := mkZ (v := ((coefZ x8.t.parts v).natAbs : Int)) (m := 9) ((side_ok gx8 v).len)
         refine rSeq fam0ok 9 [(2, .gen _ _ _ fun _ _ _ _ => Op.idxD (d := 71) (t := 69) (k := .i64) kc_3 (map_at hxa (f := RelD.d)) (OV.tmp 70 _)), (5, .call (Fn.cast (STimes7 xa v gxa) (congrArg vz er10.symm)) hd_10), (8, .gen _ _ _ fun _ _ _ _ => Op.idxD (d := 77) (t := 75) (k := .i64) kc_3 (map_at hx8 (f := RelD.d)) (OV.tmp 76 _)), (11, .call (Fn.cast (STimes7 x8 v gx8) (congrArg vz er11.symm)) hd_10)] [(0, .t (.c (.d (.sl 4 (rs.map RelD.d))))), (1, vi .i64 v), (2, vb d), (6, .t (.c (.d (.raw nilV)))), (7, .t (.c (.own 5 (((othersOf rs v) ++ (rs.take i).flatMap (fun a => rs.flatMap (shF d v a))) ++ (rs.take k).flatMap (shF d v xa)).length))), (9, vp 8 0), (10, vi .i64 (i : Int)), (11, vi .i64 (k : Int)), (12, vp 9 0), (13, vp 10 0)] [(5, .row 45 4 ((((othersOf rs v) ++ (rs.take i).flatMap (fun a => rs.flatMap (shF d v a))) ++ (rs.take k).flatMap (shF d v xa)).map RelD.d)), (8, .box (zi r4)), (9, .box (zi r10)), (10, .box (zi r11))] (by kernel_rfl) h ?_; clear h; intro a w h
         refine rSeq fam0ok 11 [(2, .gen _ _ _ fun _ _ _ _ => Op.idxD (d := 83) (t := 81) (k := .i64) kc_3 (map_at hxa (f := RelD.d)) (OV.tmp 82 _)), (6, .call (SRScale xa.t r11 (M := 9) gxa (by decide) or11 (by omega) (by decide)) hT_10), (9, .gen _ _ _ fun _ _ _ _ => Op.idxD (d := 90) (t := 88) (k := .i64) kc_3 (map_at hx8 (f := RelD.d)) (OV.tmp 89 _)), (13, .call (SRScale x8.t r10 (M := 9) gx8 (by decide) or10 (by omega) (by decide)) hT_10), (14, .call (SRTAdd (scaleT xa.t r11) (scaleT x8.t r10) ((scaleT_ok gxa or11 (show r11.abs.length ≤ 9 by omega) (by decide)).mono (by decide) (by decide)) ((scaleT_ok gx8 or10 (show r10.abs.length ≤ 9 by omega) (by decide)).mono (by decide) (by decide))) hT_11)] [(0, .t (.c (.d (.sl 4 (rs.map RelD.d))))), (1, vi .i64 v), (2, vb d), (6, .t (.c (.d (.raw nilV)))), (7, .t (.c (.own 5 (((othersOf rs v) ++ (rs.take i).flatMap (fun a => rs.flatMap (shF d v a))) ++ (rs.take k).flatMap (shF d v xa)).length))), (9, vp 8 0), (10, vi .i64 (i : Int)), (11, vi .i64 (k : Int)), (12, vp 9 0), (13, vp 10 0), (14, vp 11 0)] [(5, .row 45 4 ((((othersOf rs v) ++ (rs.take i).flatMap (fun a => rs.flatMap (shF d v a))) ++ (rs.take k).flatMap (shF d v xa)).map RelD.d)), (8, .box (zi r4)), (9, .box (zi r10)), (10, .box (zi r11)), (11, .box ([.d (.sl 3 ((addT (scaleT xa.t r11) (scaleT x8.t r10)).parts.map Part.d))] ++ zi (addT (scaleT xa.t r11) (scaleT x8.t r10)).k))] (by kernel_rfl) h ?_; clear h; intro a w h
         refine wp_seq ?_
         refine rSeq fam0ok 12 [] [(0, .t (.c (.d (.sl 4 (rs.map RelD.d))))), (1, vi .i64 v), (2, vb d), (6, .t (.c (.d (.raw nilV)))), (7, .t (.c (.own 5 (((othersOf rs v) ++ (rs.take i).flatMap (fun a => rs.flatMap (shF d v a))) ++ (rs.take k).flatMap (shF d v xa)).length))), (9, vp 8 0), (10, vi .i64 (i : Int)), (11, vi .i64 (k : Int)), (12, vp 9 0), (13, vp 10 0), (14, vp 11 0), (96, vb d)] [(5, .row 45 4 ((((othersOf rs v) ++ (rs.take i).flatMap (fun a => rs.flatMap (shF d v a))) ++ (rs.take k).flatMap (shF d v xa)).map RelD.d)), (8, .box (zi r4)), (9, .box (zi r10)), (10, .box (zi r11)), (11, .box ([.d (.sl 3 ((addT (scaleT xa.t r11) (scaleT x8.t r10)).parts.map Part.d))] ++ zi (addT (scaleT xa.t r11) (scaleT x8.t r10)).k))] (by kernel_rfl) h ?_; clear h; intro a w h
         refine condS d h rfl (fun hc => ?_) (fun hc => ?_)
         ·have hc11 := hc; clear hc
          obtain ⟨r15, er15, vr15, or15, lr15⟩ := mkZ (v := r10.val - r4.val) (m := r10.abs.length + r4.abs.length + 1) (len_sub or10 or4)
          obtain ⟨r16, er16, vr16, or16, lr16⟩ := mkZ (v := r11.val - r4.val) (m := r11.abs.length + r4.abs.length + 1) (len_sub or11 or4)
          obtain ⟨r17, er17, vr17, or17, lr17⟩ := mkZ (v := r15.val * r16.val) (m := r15.abs.length + r16.abs.length) (len_mul or15 or16)
          refine rSeq fam0ok 12 [(2, .call (Fn.cast (SRSub r10 r4 or10 or4 (by omega) (by omega)) (congrArg vz er15.symm)) zs_7), (5, .call (Fn.cast (SRSub r11 r4 or11 or4 (by omega) (by omega)) (congrArg vz er16.symm)) zs_7), (6, .call (Fn.cast (SRMul r15 r16 or15 or16 (by omega) (by omega)) (congrArg vz er17.symm)) zs_18)] [(0, .t (.c (.d (.sl 4 (rs.map RelD.d))))), (1, vi .i64 v), (2, vb d), (6, .t (.c (.d (.raw nilV)))), (7, .t (.c (.own 5 (((othersOf rs v) ++ (rs.take i).flatMap (fun a => rs.flatMap (shF d v a))) ++ (rs.take k).flatMap (shF d v xa)).length))), (9, vp 8 0), (10, vi .i64 (i : Int)), (11, vi .i64 (k : Int)), (14, vp 11 0), (15, vp 12 0)] [(5, .row 45 4 ((((othersOf rs v) ++ (rs.take i).flatMap (fun a => rs.flatMap (shF d v a))) ++ (rs.take k).flatMap (shF d v xa)).map RelD.d)), (8, .box (zi r4)), (11, .box ([.d (.sl 3 ((addT (scaleT xa.t r11) (scaleT x8.t r10)).parts.map Part.d))] ++ zi (addT (scaleT xa.t r11) (scaleT x8.t r10)).k)), (12, .box (zi r17))] (by kernel_rfl) h ?_; clear h; intro a w h
          refine rS fam0ok 13 [(2, .call (SRNumber r17 or17 (by omega)) hA_11), (3, .call (SRTSub (addT (scaleT xa.t r11) (scaleT x8.t r10)) (numT r17) ((addT_ok (scaleT_ok gxa or11 (show r11.abs.length ≤ 9 by omega) (by decide)) (scaleT_ok gx8 or10 (show r10.abs.length ≤ 9 by omega) (by decide)) (by decide)).mono (by decide) (by decide)) ((TOk.num (L := 40) (ZI.lb_of _) (num_len or17 (show r17.abs.length ≤ 40 by omega))).mono (by decide) (by decide))) hA_12)] [(0, .t (.c (.d (.sl 4 (rs.map RelD.d))))), (1, vi .i64 v), (2, vb d), (6, .t (.c (.d (.raw nilV)))), (7, .t (.c (.own 5 (((othersOf rs v) ++ (rs.take i).flatMap (fun a => rs.flatMap (shF d v a))) ++ (rs.take k).flatMap (shF d v xa)).length))), (9, vp 8 0), (10, vi .i64 (i : Int)), (11, vi .i64 (k : Int)), (14, vp 11 0)] [(5, .row 45 4 ((((othersOf rs v) ++ (rs.take i).flatMap (fun a => rs.flatMap (shF d v a))) ++ (rs.take k).flatMap (shF d v xa)).map RelD.d)), (8, .box (zi r4)), (11, .box ([.d (.sl 3 ((subT (addT (scaleT xa.t r11) (scaleT x8.t r10)) (numT r17)).parts.map Part.d))] ++ zi (subT (addT (scaleT xa.t r11) (scaleT x8.t r10)) (numT r17)).k))] (by kernel_rfl) h ?_; clear h; intro a w h
          refine then_n ?_
          refine rS fam0ok 13 [(3, .gen _ _ _ fun _ _ _ _ => Op.buildO (d := 111) (n := 13) (len := 1) (rows := [(RelD.mk (subT (addT (scaleT xa.t r11) (scaleT x8.t r10)) (numT r17)) false)].map RelD.d) (rs := [(110, .t (.agg ([.d (.sl 3 ((subT (addT (scaleT xa.t r11) (scaleT x8.t r10)) (numT r17)).parts.map Part.d))] ++ zi (subT (addT (scaleT xa.t r11) (scaleT x8.t r10)) (numT r17)).k ++ [.d (.raw (.bool false))])))]) kc_5 (.cons (i := 0) (OV.tmp 110 _) (.nil)) (by kernel_rfl) rfl (by simp [RelD.d]) (by decide) (by decide)), (4, .gen _ _ _ fun _ _ _ _ => Op.appOO (d := 112) (t := 108) (u := 111) (n := 5) (sn := 13) (n' := 14) (len := (((othersOf rs v) ++ (rs.take i).flatMap (fun a => rs.flatMap (shF d v a))) ++ (rs.take k).flatMap (shF d v xa)).length) (len2 := 1) (len' := ((((othersOf rs v) ++ (rs.take i).flatMap (fun a => rs.flatMap (shF d v a))) ++ (rs.take k).flatMap (shF d v xa)) ++ [(RelD.mk (subT (addT (scaleT xa.t r11) (scaleT x8.t r10)) (numT r17)) false)]).length) (rows := (((othersOf rs v) ++ (rs.take i).flatMap (fun a => rs.flatMap (shF d v a))) ++ (rs.take k).flatMap (shF d v xa)).map RelD.d) (rows2 := [(RelD.mk (subT (addT (scaleT xa.t r11) (scaleT x8.t r10)) (numT r17)) false)].map RelD.d) (rows' := ((((othersOf rs v) ++ (rs.take i).flatMap (fun a => rs.flatMap (shF d v a))) ++ (rs.take k).flatMap (shF d v xa)) ++ [(RelD.mk (subT (addT (scaleT xa.t r11) (scaleT x8.t r10)) (numT r17)) false)]).map RelD.d) ha_11 (by first | exact (List.length_map _).symm | simp) (by first | exact (List.length_map _).symm | simp) (by first | (rw [List.length_append, List.length_map]; done) | simp) (by simp) (by first | omega | (simp at *; done) | (simp at *; omega)))] [(0, .t (.c (.d (.sl 4 (rs.map RelD.d))))), (1, vi .i64 v), (2, vb d), (6, .t (.c (.d (.raw nilV)))), (7, .t (.c (.own 14 ((((othersOf rs v) ++ (rs.take i).flatMap (fun a => rs.flatMap (shF d v a))) ++ (rs.take k).flatMap (shF d v xa)) ++ [(RelD.mk (subT (addT (scaleT xa.t r11) (scaleT x8.t r10)) (numT r17)) false)]).length))), (9, vp 8 0), (10, vi .i64 (i : Int)), (11, vi .i64 (k : Int))] [(8, .box (zi r4)), (14, .row 45 4 (((((othersOf rs v) ++ (rs.take i).flatMap (fun a => rs.flatMap (shF d v a))) ++ (rs.take k).flatMap (shF d v xa)) ++ [(RelD.mk (subT (addT (scaleT xa.t r11) (scaleT x8.t r10)) (numT r17)) false)]).map RelD.d))] (by kernel_rfl) h ?_; clear h; intro a w h
          refine block_n ?_
          refine then_n ?_
          refine rS fam0ok 15 [(1, .add .i64 (m := (k : Int)) (n := 1) (i64_id (by omega) (by omega)))] [(0, .t (.c (.d (.sl 4 (rs.map RelD.d))))), (1, vi .i64 v), (2, vb d), (6, .t (.c (.d (.raw nilV)))), (7, .t (.c (.own 14 ((((othersOf rs v) ++ (rs.take i).flatMap (fun a => rs.flatMap (shF d v a))) ++ (rs.take k).flatMap (shF d v xa)) ++ [(RelD.mk (subT (addT (scaleT xa.t r11) (scaleT x8.t r10)) (numT r17)) false)]).length))), (9, vp 8 0), (10, vi .i64 (i : Int)), (11, vi .i64 ((k : Int) + 1))] [(8, .box (zi r4)), (14, .row 45 4 (((((othersOf rs v) ++ (rs.take i).flatMap (fun a => rs.flatMap (shF d v a))) ++ (rs.take k).flatMap (shF d v xa)) ++ [(RelD.mk (subT (addT (scaleT xa.t r11) (scaleT x8.t r10)) (numT r17)) false)]).map RelD.d))] (by kernel_rfl) h ?_; clear h; intro a w h
          refine then_n ?_
          replace h := h.conv (f' := F.of [(0, .t (.c (.d (.sl 4 (rs.map RelD.d))))), (1, vi .i64 v), (2, vb d), (6, .t (.c (.d (.raw nilV)))), (7, .t (.c (.own 14 (((othersOf rs v) ++ (rs.take i).flatMap (fun a => rs.flatMap (shF d v a))) ++ (rs.take (k + 1)).flatMap (shF d v xa)).length))), (9, vp 8 0), (10, vi .i64 (i : Int)), (11, vi .i64 ((k : Int) + 1))] [(8, .box (zi r4)), (14, .row 45 4 ((((othersOf rs v) ++ (rs.take i).flatMap (fun a => rs.flatMap (shF d v a))) ++ (rs.take (k + 1)).flatMap (shF d v xa)).map RelD.d))]) (congrArg (fun (z_ : List RelD) => F.of [(0, .t (.c (.d (.sl 4 (rs.map RelD.d))))), (1, vi .i64 v), (2, vb d), (6, .t (.c (.d (.raw nilV)))), (7, .t (.c (.own 14 z_.length))), (9, vp 8 0), (10, vi .i64 (i : Int)), (11, vi .i64 ((k : Int) + 1))] [(8, .box (zi r4)), (14, .row 45 4 (z_.map RelD.d))]) (show (((((othersOf rs v) ++ (rs.take i).flatMap (fun a => rs.flatMap (shF d v a))) ++ (rs.take k).flatMap (shF d v xa)) ++ [(RelD.mk (subT (addT (scaleT xa.t r11) (scaleT x8.t r10)) (numT r17)) false)]) : List RelD) = (((othersOf rs v) ++ (rs.take i).flatMap (fun a => rs.flatMap (shF d v a))) ++ (rs.take (k + 1)).flatMap (shF d v xa)) from (by rw [List.append_assoc]; congr 1; exact flat_snoc (g := shF d v xa) hx8 (by unfold shF; rw [if_pos ⟨by have := sgn_gt_zero (z := coefZ xa.t.parts v); have hp_ := of_decide_eq_false hc8; omega, by have := sgn_lt_zero (z := coefZ x8.t.parts v); have hp_ := of_decide_eq_false hc10; omega⟩]; congr 2; unfold shadeT pairT nA; rw [if_pos hc11, ZI.val_of, ZI.val_of, ← er10, ← er11]; congr 3; rw [er17]; simp only [vr4, vr10, vr11, vr15, vr16]))))
          replace h := renS 14 5 [(0, .t (.c (.d (.sl 4 (rs.map RelD.d))))), (1, vi .i64 v), (2, vb d), (6, .t (.c (.d (.raw nilV)))), (7, .t (.c (.own 5 (((othersOf rs v) ++ (rs.take i).flatMap (fun a => rs.flatMap (shF d v a))) ++ (rs.take (k + 1)).flatMap (shF d v xa)).length))), (9, vp 8 0), (10, vi .i64 (i : Int)), (11, vi .i64 ((k : Int) + 1))] [(8, .box (zi r4)), (5, .row 45 4 ((((othersOf rs v) ++ (rs.take i).flatMap (fun a => rs.flatMap (shF d v a))) ++ (rs.take (k + 1)).flatMap (shF d v xa)).map RelD.d))] h (by kernel_rfl) (by kernel_rfl) (by kernel_rfl)
          refine roundS (x := k) (y := k + 1) h ?_ ?_ (by kernel_rfl) (by kernel_rfl)
          ·have := at_lt hx8
           show k + 1 ≤ rs.length
           omega
          ·show rs.length - (k + 1) < rs.length - k
           have := at_lt hx8; omega
         ·have hc12 := hc; clear hc
          refine wp_skip ?_
          refine then_n ?_
          refine rS fam0ok 15 [(3, .gen _ _ _ fun _ _ _ _ => Op.buildO (d := 111) (n := 15) (len := 1) (rows := [(RelD.mk (addT (scaleT xa.t r11) (scaleT x8.t r10)) false)].map RelD.d) (rs := [(110, .t (.agg ([.d (.sl 3 ((addT (scaleT xa.t r11) (scaleT x8.t r10)).parts.map Part.d))] ++ zi (addT (scaleT xa.t r11) (scaleT x8.t r10)).k ++ [.d (.raw (.bool false))])))]) kc_5 (.cons (i := 0) (OV.tmp 110 _) (.nil)) (by kernel_rfl) rfl (by simp [RelD.d]) (by decide) (by decide)), (4, .gen _ _ _ fun _ _ _ _ => Op.appOO (d := 112) (t := 108) (u := 111) (n := 5) (sn := 15) (n' := 16) (len := (((othersOf rs v) ++ (rs.take i).flatMap (fun a => rs.flatMap (shF d v a))) ++ (rs.take k).flatMap (shF d v xa)).length) (len2 := 1) (len' := ((((othersOf rs v) ++ (rs.take i).flatMap (fun a => rs.flatMap (shF d v a))) ++ (rs.take k).flatMap (shF d v xa)) ++ [(RelD.mk (addT (scaleT xa.t r11) (scaleT x8.t r10)) false)]).length) (rows := (((othersOf rs v) ++ (rs.take i).flatMap (fun a => rs.flatMap (shF d v a))) ++ (rs.take k).flatMap (shF d v xa)).map RelD.d) (rows2 := [(RelD.mk (addT (scaleT xa.t r11) (scaleT x8.t r10)) false)].map RelD.d) (rows' := ((((othersOf rs v) ++ (rs.take i).flatMap (fun a => rs.flatMap (shF d v a))) ++ (rs.take k).flatMap (shF d v xa)) ++ [(RelD.mk (addT (scaleT xa.t r11) (scaleT x8.t r10)) false)]).map RelD.d) ha_11 (by first | exact (List.length_map _).symm | simp) (by first | exact (List.length_map _).symm | simp) (by first | (rw [List.length_append, List.length_map]; done) | simp) (by simp) (by first | omega | (simp at *; done) | (simp at *; omega)))] [(0, .t (.c (.d (.sl 4 (rs.map RelD.d))))), (1, vi .i64 v), (2, vb d), (6, .t (.c (.d (.raw nilV)))), (7, .t (.c (.own 16 ((((othersOf rs v) ++ (rs.take i).flatMap (fun a => rs.flatMap (shF d v a))) ++ (rs.take k).flatMap (shF d v xa)) ++ [(RelD.mk (addT (scaleT xa.t r11) (scaleT x8.t r10)) false)]).length))), (9, vp 8 0), (10, vi .i64 (i : Int)), (11, vi .i64 (k : Int))] [(8, .box (zi r4)), (16, .row 45 4 (((((othersOf rs v) ++ (rs.take i).flatMap (fun a => rs.flatMap (shF d v a))) ++ (rs.take k).flatMap (shF d v xa)) ++ [(RelD.mk (addT (scaleT xa.t r11) (scaleT x8.t r10)) false)]).map RelD.d))] (by kernel_rfl) h ?_; clear h; intro a w h
          refine block_n ?_
          refine then_n ?_
          refine rS fam0ok 17 [(1, .add .i64 (m := (k : Int)) (n := 1) (i64_id (by omega) (by omega)))] [(0, .t (.c (.d (.sl 4 (rs.map RelD.d))))), (1, vi .i64 v), (2, vb d), (6, .t (.c (.d (.raw nilV)))), (7, .t (.c (.own 16 ((((othersOf rs v) ++ (rs.take i).flatMap (fun a => rs.flatMap (shF d v a))) ++ (rs.take k).flatMap (shF d v xa)) ++ [(RelD.mk (addT (scaleT xa.t r11) (scaleT x8.t r10)) false)]).length))), (9, vp 8 0), (10, vi .i64 (i : Int)), (11, vi .i64 ((k : Int) + 1))] [(8, .box (zi r4)), (16, .row 45 4 (((((othersOf rs v) ++ (rs.take i).flatMap (fun a => rs.flatMap (shF d v a))) ++ (rs.take k).flatMap (shF d v xa)) ++ [(RelD.mk (addT (scaleT xa.t r11) (scaleT x8.t r10)) false)]).map RelD.d))] (by kernel_rfl) h ?_; clear h; intro a w h
          refine then_n ?_
          replace h := h.conv (f' := F.of [(0, .t (.c (.d (.sl 4 (rs.map RelD.d))))), (1, vi .i64 v), (2, vb d), (6, .t (.c (.d (.raw nilV)))), (7, .t (.c (.own 16 (((othersOf rs v) ++ (rs.take i).flatMap (fun a => rs.flatMap (shF d v a))) ++ (rs.take (k + 1)).flatMap (shF d v xa)).length))), (9, vp 8 0), (10, vi .i64 (i : Int)), (11, vi .i64 ((k : Int) + 1))] [(8, .box (zi r4)), (16, .row 45 4 ((((othersOf rs v) ++ (rs.take i).flatMap (fun a => rs.flatMap (shF d v a))) ++ (rs.take (k + 1)).flatMap (shF d v xa)).map RelD.d))]) (congrArg (fun (z_ : List RelD) => F.of [(0, .t (.c (.d (.sl 4 (rs.map RelD.d))))), (1, vi .i64 v), (2, vb d), (6, .t (.c (.d (.raw nilV)))), (7, .t (.c (.own 16 z_.length))), (9, vp 8 0), (10, vi .i64 (i : Int)), (11, vi .i64 ((k : Int) + 1))] [(8, .box (zi r4)), (16, .row 45 4 (z_.map RelD.d))]) (show (((((othersOf rs v) ++ (rs.take i).flatMap (fun a => rs.flatMap (shF d v a))) ++ (rs.take k).flatMap (shF d v xa)) ++ [(RelD.mk (addT (scaleT xa.t r11) (scaleT x8.t r10)) false)]) : List RelD) = (((othersOf rs v) ++ (rs.take i).flatMap (fun a => rs.flatMap (shF d v a))) ++ (rs.take (k + 1)).flatMap (shF d v xa)) from (by rw [List.append_assoc]; congr 1; exact flat_snoc (g := shF d v xa) hx8 (by unfold shF; rw [if_pos ⟨by have := sgn_gt_zero (z := coefZ xa.t.parts v); have hp_ := of_decide_eq_false hc8; omega, by have := sgn_lt_zero (z := coefZ x8.t.parts v); have hp_ := of_decide_eq_false hc10; omega⟩]; congr 2; unfold shadeT pairT nA; rw [if_neg (by rw [hc12]; exact Bool.noConfusion), ← vr10, ← vr11]; first | done | rfl | simp_all))))
          replace h := renS 16 5 [(0, .t (.c (.d (.sl 4 (rs.map RelD.d))))), (1, vi .i64 v), (2, vb d), (6, .t (.c (.d (.raw nilV)))), (7, .t (.c (.own 5 (((othersOf rs v) ++ (rs.take i).flatMap (fun a => rs.flatMap (shF d v a))) ++ (rs.take (k + 1)).flatMap (shF d v xa)).length))), (9, vp 8 0), (10, vi .i64 (i : Int)), (11, vi .i64 ((k : Int) + 1))] [(8, .box (zi r4)), (5, .row 45 4 ((((othersOf rs v) ++ (rs.take i).flatMap (fun a => rs.flatMap (shF d v a))) ++ (rs.take (k + 1)).flatMap (shF d v xa)).map RelD.d))] h (by kernel_rfl) (by kernel_rfl) (by kernel_rfl)
          refine roundS (x := k) (y := k + 1) h ?_ ?_ (by kernel_rfl) (by kernel_rfl)
          ·have := at_lt hx8
           show k + 1 ≤ rs.length
           omega
          ·show rs.length - (k + 1) < rs.length - k
           have := at_lt hx8; omega
      ·have hc13 := hc; clear hc
       have hc13' := of_decide_eq_false hc13
       refine wp_exit ?_
       refine then_x ?_
       refine then_x ?_
       refine inBlock_exit ?_
       refine block_n ?_
       refine then_n ?_
       refine rS fam0ok 17 [(1, .add .i64 (m := (i : Int)) (n := 1) (i64_id (by omega) (by omega)))] [(0, .t (.c (.d (.sl 4 (rs.map RelD.d))))), (1, vi .i64 v), (2, vb d), (6, .t (.c (.d (.raw nilV)))), (7, .t (.c (.own 5 (((othersOf rs v) ++ (rs.take i).flatMap (fun a => rs.flatMap (shF d v a))) ++ (rs.take k).flatMap (shF d v xa)).length))), (9, vp 8 0), (10, vi .i64 ((i : Int) + 1))] [(5, .row 45 4 ((((othersOf rs v) ++ (rs.take i).flatMap (fun a => rs.flatMap (shF d v a))) ++ (rs.take k).flatMap (shF d v xa)).map RelD.d)), (8, .box (zi r4))] (by kernel_rfl) h ?_; clear h; intro a w h
       refine then_n ?_
       replace h := h.conv (f' := F.of [(0, .t (.c (.d (.sl 4 (rs.map RelD.d))))), (1, vi .i64 v), (2, vb d), (6, .t (.c (.d (.raw nilV)))), (7, .t (.c (.own 5 ((othersOf rs v) ++ (rs.take (i + 1)).flatMap (fun a => rs.flatMap (shF d v a))).length))), (9, vp 8 0), (10, vi .i64 ((i : Int) + 1))] [(5, .row 45 4 (((othersOf rs v) ++ (rs.take (i + 1)).flatMap (fun a => rs.flatMap (shF d v a))).map RelD.d)), (8, .box (zi r4))]) (congrArg (fun (z_ : List RelD) => F.of [(0, .t (.c (.d (.sl 4 (rs.map RelD.d))))), (1, vi .i64 v), (2, vb d), (6, .t (.c (.d (.raw nilV)))), (7, .t (.c (.own 5 z_.length))), (9, vp 8 0), (10, vi .i64 ((i : Int) + 1))] [(5, .row 45 4 (z_.map RelD.d)), (8, .box (zi r4))]) (show ((((othersOf rs v) ++ (rs.take i).flatMap (fun a => rs.flatMap (shF d v a))) ++ (rs.take k).flatMap (shF d v xa)) : List RelD) = ((othersOf rs v) ++ (rs.take (i + 1)).flatMap (fun a => rs.flatMap (shF d v a))) from (by rw [show rs.take k = rs from List.take_of_length_le (by omega), List.append_assoc]; congr 1; exact flat_snoc (g := (fun a => rs.flatMap (shF d v a))) hxa rfl)))
       refine roundS (x := i) (y := i + 1) h ?_ ?_ (by kernel_rfl) (by kernel_rfl)
       ·have := at_lt hxa
        show i + 1 ≤ rs.length
        omega
       ·show rs.length - (i + 1) < rs.length - i
        have := at_lt hxa; omega
    ·have hc14 := hc; clear hc
     have hc14' := of_decide_eq_false hc14
     refine wp_exit ?_
     refine then_x ?_
     refine then_x ?_
     refine inBlock_exit ?_
     refine then_n ?_
     refine rSeq fam0ok 17 [] [(6, .t (.c (.own 5 ((othersOf rs v) ++ (rs.take i).flatMap (fun a => rs.flatMap (shF d v a))).length)))] [(5, .row 45 4 (((othersOf rs v) ++ (rs.take i).flatMap (fun a => rs.flatMap (shF d v a))).map RelD.d))] (by kernel_rfl) h ?_; clear h; intro a w h
     refine wp_ret ?_
     replace h := h.conv (f' := F.of [(6, .t (.c (.own 5 (shadeS d rs v).length)))] [(5, .row 45 4 ((shadeS d rs v).map RelD.d))]) (congrArg (fun (z_ : List RelD) => F.of [(6, .t (.c (.own 5 z_.length)))] [(5, .row 45 4 (z_.map RelD.d))]) (show (((othersOf rs v) ++ (rs.take i).flatMap (fun a => rs.flatMap (shF d v a))) : List RelD) = (shadeS d rs v) from (by unfold shadeS; rw [List.take_of_length_le (by omega)])))
     replace h := pubS 5 4 45 ((shadeS d rs v).map RelD.d) [(6, .t (.c (.d (.sl 4 ((shadeS d rs v).map RelD.d)))))] [] h rfl (show AllEq _ [(shadeS d rs v).length] from ⟨by first | exact (List.length_map _).symm | (simp; done) | (simp; omega), trivial⟩) trivial (by kernel_rfl) (by kernel_rfl)
     refine retS [.c (.d (.sl 4 ((shadeS d rs v).map RelD.d)))] h Exit.ret (.inl rfl)  rfl ⟨RV.tmp _ _ rfl, trivial⟩ ?_ (by kernel_rfl) (by kernel_rfl)
     rfl
end Go.Proofs.YtoklkfmffmonoaaGreat.S
end
section
namespace Go.Proofs.YtoklkfmffmonoaaGreat.S
open Go.RowKit

theorem hB_3 : Bodied Tryz.prog 17 := Bodied.mk' (by kernel_rfl)
theorem hB_5 : Bodied Tryz.prog 20 := Bodied.mk' (by kernel_rfl)
theorem hB_6 : Bodied Tryz.prog 18 := Bodied.mk' (by kernel_rfl)
set_option maxHeartbeats 4000000 in
theorem SShadowShades (rs : List RelD) (v : Int) (hrl : ∀ r ∈ rs, TLb r.t) (hl : rs.length ≤ 9223372036854775807) : Fn Tryz.prog 4 [] [.t (.c (.d (.sl 4 (rs.map RelD.d)))), vi .i64 v] (vb true) [] := by
 refine Fn.body Tryz.func4 rfl 50 rfl fun w H B a h => ?_
 refine rSeq fam0ok 0 [] [(0, .t (.c (.d (.sl 4 (rs.map RelD.d))))), (1, vi .i64 v), (4, vb false)] [] (by kernel_rfl) h ?_; clear h; intro a w h
 refine wp_seq ?_
 refine rSeq fam0ok 0 [(0, .call (SShading) hr_0)] [(0, .t (.c (.d (.sl 4 (rs.map RelD.d))))), (1, vi .i64 v), (4, vb false), (10, vb false)] [] (by kernel_rfl) h ?_; clear h; intro a w h
 refine condS false h rfl (fun hc => ?_) (fun hc => ?_)
 ·cases hc
 ·clear hc
  refine wp_skip ?_
  refine then_n ?_
  refine wp_seq ?_
  refine rSeq fam0ok 0 [(1, .call (SFewRsL rs 10 8 hl) kc_6)] [(0, .t (.c (.d (.sl 4 (rs.map RelD.d))))), (1, vi .i64 v), (4, vb false), (13, vb (!(fewRs rs 10 8)))] [] (by kernel_rfl) h ?_; clear h; intro a w h
  refine condS (!(fewRs rs 10 8)) h rfl (fun hc => ?_) (fun hc => ?_)
  ·have hc1 := hc; clear hc
   have hc1' := hc1; (try simp at hc1')
   refine rSeq fam0ok 0 [] [(0, .t (.c (.d (.sl 4 (rs.map RelD.d))))), (1, vi .i64 v), (4, vb true)] [] (by kernel_rfl) h ?_; clear h; intro a w h
   refine wp_ret ?_
   refine then_r ?_
   refine retS [.c (.d (.raw (.bool true)))] h Exit.ret (.inl rfl)  rfl ⟨RV.tmp _ _ rfl, trivial⟩ ?_ (by kernel_rfl) (by kernel_rfl)
   rfl
  ·have hc2 := hc; clear hc
   have hc2' := hc2; (try simp at hc2')
   refine wp_skip ?_
   refine then_n ?_
   have hrs : RsOk rs := fewRs_rs (by decide) (show (fewRs rs 10 8) = true from by simpa using hc2) hrl
   refine rSeq fam0ok 0 [(1, .call (SChoose rs hrs) hs_3)] [(0, .t (.c (.d (.sl 4 (rs.map RelD.d))))), (1, vi .i64 v), (4, vb false), (5, vi .i64 (chooseSt rs).1), (6, vb (chooseSt rs).2.1)] [] (by kernel_rfl) h ?_; clear h; intro a w h
   refine rSeq fam0ok 0 [(1, .call (SRChoose rs hrs) hB_3)] [(0, .t (.c (.d (.sl 4 (rs.map RelD.d))))), (1, vi .i64 v), (4, vb false), (5, vi .i64 (chooseSt rs).1), (6, vb (chooseSt rs).2.1), (7, vi .i64 (chooseSt rs).1), (8, vb (chooseSt rs).2.1)] [] (by kernel_rfl) h ?_; clear h; intro a w h
   refine rSeq fam0ok 0 [(2, .cmp (op := .eql) (m := (chooseSt rs).1) (n := (chooseSt rs).1) (b := true) .i64 (show ((chooseSt rs).1 == (chooseSt rs).1) = true from by simp)), (6, .cmpb .eql (m := (chooseSt rs).2.1) (n := (chooseSt rs).2.1) (b := true) (.inl ⟨rfl, (show ((chooseSt rs).2.1 == (chooseSt rs).2.1) = true from by simp).symm⟩)), (11, .call (SSReal rs v hrs) hs_4), (14, .call (SRShade rs v false hrs) hB_5), (15, .call (SRSameAll2 (real_eq rs v) (by rw [← real_eq]; exact real_rk hrs v) (by rw [← real_eq]; exact Nat.le_trans (each_len2 hrs v brightT) (by decide))) hB_6), (20, .call (SSDark rs v hrs) hs_5), (23, .call (SRShade rs v true hrs) hB_5), (24, .call (SRSameAll2 (dark_eq2 rs v) (by rw [← dark_eq2]; exact dark_rk hrs v) (by rw [← dark_eq2]; exact Nat.le_trans (each_len2 hrs v darkT) (by decide))) hB_6)] [(4, vb true)] [] (by kernel_rfl) h ?_; clear h; intro a w h
   refine wp_ret ?_
   refine retS [.c (.d (.raw (.bool true)))] h Exit.ret (.inl rfl)  rfl ⟨RV.tmp _ _ rfl, trivial⟩ ?_ (by kernel_rfl) (by kernel_rfl)
   rfl
theorem SShadowShadesW (rs : List RelD) (v : Int) (hr : rs.length ≤ maxLen ∧ ∀ r ∈ rs, TLb r.t) : Fn Tryz.prog 4 [] [.t (.c (.d (.sl 4 (rs.map RelD.d)))), vi .i64 v] (vb true) [] :=
 SShadowShades rs v hr.2 (Nat.le_trans hr.1 (by decide))
end Go.Proofs.YtoklkfmffmonoaaGreat.S
end
section
namespace Go.Proofs.YtoklkfmffmonoaaGreat.shadowShadesDone
open Go.ChangeShapes Go.WideShapes Go.ChangeAt Go.RowKit
open Go.ChangeMaps (open_string shut_string)
open Go.Proofs.YtoklkfmffmonoaaGreat.S

theorem own : ownKnob Tryz.prog.godebug = none := by kernel_rfl
theorem laidOut : laidOutB Tryz.prog = true := by kernel_rfl

theorem lifted (os : Os) (started : os.Started) (H : Type) (enc : TypeId × Value → H) :
  ReturnsInHanded {} Tryz.checked os 4 .any (Rows.shadowShadesSpec.pre6 enc Tryz.prog Tryz.f4 Rows.shadowShadesRow.domain false) (Rows.shadowShadesSpec.post enc Tryz.prog Tryz.f4 false true false false) := by
 refine returnsInHanded_of_change (C := Tryz.checked) own started (by kernel_rfl) Tryz.func4
  (ChangeSpec.witness6 (enc := enc) (C := Tryz.checked) false ⟨#[], #[.slice none 0 0, .int .i64 0], []⟩ 12 (by kernel_rfl) (by kernel_rfl) (by kernel_rfl) (by kernel_rfl)) ?_
 intro W base args ds gs before hval0 hW hcnd _
 have hval : ∀ (j : Nat) t v, Tryz.f4.params[j]? = some t → args[j]? = some v → Value.okWide Tryz.prog W .any base t v := hval0
 have hW' := hW
 obtain ⟨p, q, hA0, hV, rfl, hfz, hnd⟩ := hW
 have hA : DataW.TrodAll enc Tryz.prog W 0 (fun _ => true) true Tryz.f4.params.toList args.toList ds p := hA0
 rw [Tryz.params4] at hA hval
 obtain ⟨v0, vs0, d0, ds0, p0, q0, hargs, rfl, rfl, h0, r0⟩ := trodAll_cons hA
 obtain ⟨v1, vs1, d1, ds1, p1, q1, rfl, rfl, rfl, h1, r1⟩ := trodAll_cons r0
 obtain ⟨rfl, rfl, rfl⟩ := trodAll_nil r1
 obtain rfl : args = #[v0, v1] := by cases args; simp_all
 obtain ⟨rfl, rfl⟩ := trodVars_none hV
 have k0 := h0
 have lt0 : ∀ x ∈ p0, x.block < W.heap.size := by obtain ⟨m, hm⟩ := k0; exact DataW.trod_lt m _ _ _ hm
 obtain ⟨a0, ao0, len0, cap0, g0, rfl, dr0⟩ := rep_one Tryz.underlying22 (fun _ => rep_Rels) (hval 0 22 v0 rfl rfl) h0
 obtain ⟨a1, rfl, rfl, rfl, g10⟩ := open_int Tryz.underlying3 (hval 1 3 v1 rfl rfl) h1
 have g1 : -9223372036854775808 ≤ a1 ∧ a1 ≤ 9223372036854775807 := by have := bounds_i64 g10; omega
 clear hA0 hval0
 refine ((SShadowShadesW a0 a1 g0).calls (w := W) (vals := [.slice ao0 len0 cap0, .int .i64 a1]) fun B => ⟨dr0, DR.raw _ rfl, trivial⟩).mono fun e W' ⟨he, bel⟩ => ?_
 subst he
 exact ⟨_, rfl, _, _, _, [], _, [], hW', trodAll_mk1 (shut_bool Tryz.underlying4 _), (trodAll_cons_mk (Below.trod laidOut (by kernel_rfl) (of_decide_eq_true (by kernel_rfl)) k0 bel lt0) (trodAll_cons_mk (shut_int Tryz.underlying3 g10) trodAll_mk0)), rfl, bel.below.frame _, fun h => by cases h⟩

theorem over : Rows.shadowShadesRow.holds Tryz.pinned (OpenSpec.ofChange Rows.shadowShadesSpec) :=
 OpenClaim.holds_of_wide 4 Tryz.f4 rfl rfl rfl rfl rfl rfl rfl ⟨rfl, rfl, rfl, rfl, rfl⟩ rfl rfl rfl rfl rfl (by kernel_rfl) Tryz.func4 (by kernel_rfl)
  (of_decide_eq_true (by kernel_rfl)) (by unfold Func.isWrapper; first | (rw [if_pos (by decide +kernel)]; kernel_rfl) | (rw [if_neg (by decide +kernel)]; exact ⟨rfl, rfl⟩))
  (fun os started H enc _ => lifted os started H enc)

theorem proved : Rows.ShadowShadesSaid := over
end Go.Proofs.YtoklkfmffmonoaaGreat.shadowShadesDone
end
