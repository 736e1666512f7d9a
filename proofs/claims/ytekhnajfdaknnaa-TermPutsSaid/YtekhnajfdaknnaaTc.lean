/-
  The reference of terms: sums and multiples.
-/
import Derived.Test.YtekhnajfdaknnaaTb
namespace Go.Proofs.Ytekhnajfdaknnaa.S
open Go.RowKit

theorem tc_0 : ElZ Try.prog 22 47 3 := ElZ.mk' Try.underlying22 _ _ rfl rfl (by kernel_rfl) (by kernel_rfl) (by kernel_rfl) (by decide)
theorem tc_1 : SlT Try.prog 22 47 3 := SlT.mk' Try.underlying22 (by kernel_rfl)
theorem tc_2 : ElT Try.prog 22 47 3 40 := ElT.mk' Try.underlying22 _ _ rfl rfl (by kernel_rfl) (by kernel_rfl) (by kernel_rfl) (by decide) (by decide)
theorem tc_3 : Bodied Try.prog 42 := Bodied.mk' (by kernel_rfl)
theorem tc_4 : Bodied Try.prog 43 := Bodied.mk' (by kernel_rfl)
theorem tc_5 : Bodied Try.prog 9 := Bodied.mk' (by kernel_rfl)
theorem tc_6 : Sz Try.prog 28 3 true := Sz.mk' (by kernel_rfl) Try.underlying28 _ rfl
theorem tc_7 : Bodied Try.prog 38 := Bodied.mk' (by kernel_rfl)
theorem tc_8 : Bodied Try.prog 17 := Bodied.mk' (by kernel_rfl)
theorem tc_9 : Bodied Try.prog 45 := Bodied.mk' (by kernel_rfl)
theorem tc_10 : Bodied Try.prog 15 := Bodied.mk' (by kernel_rfl)
theorem tc_11 : Bodied Try.prog 11 := Bodied.mk' (by kernel_rfl)
def tc_tb : Tb := [(22, ⟨1, false, [], [.d (.raw nilV)], 1⟩), (3, ⟨1, false, [], [.d (.raw (.int .i64 0))], 13⟩), (4, ⟨1, false, [], [.d (.raw (.bool false))], 3⟩), (24, ⟨1, false, [], [.d (nsl [])], 1⟩), (26, ⟨2, true, [(0, 1, false), (1, 1, false)], [.d (.raw (.bool false)), .d (nsl [])], 0⟩), (47, ⟨3, true, [(0, 1, false), (1, 2, true)], [.d (.raw (.int .i64 0)), .d (.raw (.bool false)), .d (nsl [])], 0⟩), (28, ⟨3, true, [(0, 1, false), (1, 2, true)], [.d (.raw nilV), .d (.raw (.bool false)), .d (nsl [])], 0⟩)]
theorem tc_ok : TbOk Try.prog tc_tb := ⟨TyOk.slc Try.underlying22 (by kernel_rfl) ⟨(.slice none 0 0 : Value), [.slice none 0 0], by kernel_rfl, rfl, (fun _ _ => ⟨DR.raw _ rfl, trivial⟩)⟩,
  TyOk.int Try.underlying3 rfl (by kernel_rfl) ⟨(.int .i64 0 : Value), [.int .i64 0], by kernel_rfl, rfl, (fun _ _ => ⟨DR.raw _ rfl, trivial⟩)⟩,
  TyOk.bl Try.underlying4 (by kernel_rfl) ⟨(.bool false : Value), [.bool false], by kernel_rfl, rfl, (fun _ _ => ⟨DR.raw _ rfl, trivial⟩)⟩,
  TyOk.slc Try.underlying24 (by kernel_rfl) ⟨(.slice none 0 0 : Value), [.slice none 0 0], by kernel_rfl, rfl, (fun _ _ => ⟨DR.nil _ _ _ (fun _ => rfl) (Nat.zero_le _), trivial⟩)⟩,
  TyOk.st Try.underlying26 (by kernel_rfl) ⟨⟨by decide, Fd.mk' _ _ Try.underlying26 rfl rfl (Sz.mk' (by kernel_rfl) Try.underlying4 _ rfl)⟩, ⟨by decide, Fd.mk' _ _ Try.underlying26 rfl rfl (Sz.mk' (by kernel_rfl) Try.underlying24 _ rfl)⟩, trivial⟩ ⟨(Value.agg #[.bool false, .slice none 0 0]), [.bool false, .slice none 0 0], by kernel_rfl, rfl, (fun _ _ => ⟨DR.raw _ rfl, DR.nil _ _ _ (fun _ => rfl) (Nat.zero_le _), trivial⟩)⟩ ⟨_, Try.underlying26, ⟨⟨rfl, by kernel_rfl⟩, ⟨rfl, by kernel_rfl⟩, trivial⟩⟩,
  TyOk.st Try.underlying47 (by kernel_rfl) ⟨⟨by decide, Fd.mk' _ _ Try.underlying47 rfl rfl (Sz.mk' (by kernel_rfl) Try.underlying3 _ rfl)⟩, ⟨by decide, Fd.mk' _ _ Try.underlying47 rfl rfl (Sz.mk' (by kernel_rfl) Try.underlying26 _ rfl)⟩, trivial⟩ ⟨(Value.agg #[.int .i64 0, .bool false, .slice none 0 0]), [.int .i64 0, .bool false, .slice none 0 0], by kernel_rfl, rfl, (fun _ _ => ⟨DR.raw _ rfl, DR.raw _ rfl, DR.nil _ _ _ (fun _ => rfl) (Nat.zero_le _), trivial⟩)⟩ ⟨_, Try.underlying47, ⟨⟨rfl, by kernel_rfl⟩, ⟨rfl, by kernel_rfl⟩, trivial⟩⟩,
  TyOk.st Try.underlying28 (by kernel_rfl) ⟨⟨by decide, Fd.mk' _ _ Try.underlying28 rfl rfl (Sz.mk' (by kernel_rfl) Try.underlying22 _ rfl)⟩, ⟨by decide, Fd.mk' _ _ Try.underlying28 rfl rfl (Sz.mk' (by kernel_rfl) Try.underlying26 _ rfl)⟩, trivial⟩ ⟨(Value.agg #[.slice none 0 0, .bool false, .slice none 0 0]), [.slice none 0 0, .bool false, .slice none 0 0], by kernel_rfl, rfl, (fun _ _ => ⟨DR.raw _ rfl, DR.raw _ rfl, DR.nil _ _ _ (fun _ => rfl) (Nat.zero_le _), trivial⟩)⟩ ⟨_, Try.underlying28, ⟨⟨rfl, by kernel_rfl⟩, ⟨rfl, by kernel_rfl⟩, trivial⟩⟩,
  trivial⟩
/-- terms of at most n parts, of at most L limbs -/
structure TOk (n L : Nat) (t : Term) : Prop where
  len : t.parts.length ≤ n
  ps : ∀ p ∈ t.parts, Lb p.c.abs ∧ p.c.abs.length ≤ L
  kb : Lb t.k.abs
  kl : t.k.abs.length ≤ L
theorem TOk.mono {n L n' L' : Nat} {t : Term} (h : TOk n L t) (hn : n ≤ n') (hL : L ≤ L') : TOk n' L' t :=
  ⟨Nat.le_trans h.len hn, fun p hp => ⟨(h.ps p hp).1, Nat.le_trans (h.ps p hp).2 hL⟩, h.kb, Nat.le_trans h.kl hL⟩
theorem TOk.psok {L : Nat} {t : Term} (h : TOk 1000 L t) : PsOk L t.parts := ⟨h.len, h.ps⟩
theorem TOk.get {n L : Nat} {t : Term} (h : TOk n L t) {j : Nat} {p : Part} (hp : t.parts[j]? = some p) : Lb p.c.abs ∧ p.c.abs.length ≤ L := h.ps p (List.mem_of_getElem? hp)
theorem TOk.plain {n L : Nat} {t : Term} (h : TOk n L t) (hn : n ≤ 1000) : TOk n (L + 1) (plainT t) := by
  refine ⟨?_, ?_, ZI.lb_of _, ?_⟩
  · simp only [plainT, List.length_map]; exact Nat.le_trans (varsZ_len _) h.len
  · intro p hp
    simp only [plainT, List.mem_map] at hp
    obtain ⟨v, _, rfl⟩ := hp
    exact ⟨ZI.lb_of _, coef_len (L := L) ⟨Nat.le_trans h.len hn, h.ps⟩ v⟩
  · have := len_id h.kb; simp only [plainT]; have := h.kl; omega
def addT (a b : Term) : Term := plainT ⟨a.parts ++ b.parts, ZI.of (a.k.val + b.k.val)⟩
def mulT (a : Term) (n : ZI) : Term := ⟨a.parts.map fun p => ⟨p.v, ZI.of (p.c.val * n.val)⟩, ZI.of (a.k.val * n.val)⟩
def scaleT (a : Term) (n : ZI) : Term := plainT (mulT a n)
def numT (k : ZI) : Term := ⟨[], ZI.of k.val⟩
def oneT (v : Int) : Term := ⟨[⟨v, ZI.of 1⟩], ⟨false, []⟩⟩
def varT (v : Int) : Term := plainT (oneT v)
theorem SRPlain' (t : Term) {n L : Nat} (h : TOk n L t) (hn : n ≤ 1000) (hL : L ≤ 40000) : Fn Try.prog 9 [] [vd t.d] (vd (plainT t).d) [] :=
  have h' := h.mono hn hL
  SRPlain t h'.psok h'.kb h'.kl
set_option maxRecDepth 100000 in
theorem SRboth (xs ys : List Part) (ha : xs.length ≤ 1000) (hb : ys.length ≤ 1000) : Fn Try.prog 42 [] [.t (.c (.d (.sl 3 (xs.map Part.d)))), .t (.c (.d (.sl 3 (ys.map Part.d))))] (.t (.c (.d (.sl 3 ((xs ++ ys).map Part.d))))) [] := by
  refine Fn.body Try.func42 rfl 36 rfl fun w H B a h => ?_
  refine rSeq tc_ok 0 [] [(0, .t (.c (.d (.sl 3 (xs.map Part.d))))), (1, .t (.c (.d (.sl 3 (ys.map Part.d))))), (4, .t (.c (.d (.raw nilV))))] [] (by kernel_rfl) h ?_; clear h; intro a w h
  refine rSeq tc_ok 0 [(0, .gen _ _ _ fun _ _ _ _ => Op.buildE (d := 8) (n := 0) tc_0)] [(0, .t (.c (.d (.sl 3 (xs.map Part.d))))), (1, .t (.c (.d (.sl 3 (ys.map Part.d))))), (4, .t (.c (.d (.raw nilV)))), (5, .t (.c (.own 0 0)))] [(0, .row 47 3 ([].map Part.d))] (by kernel_rfl) h ?_; clear h; intro a w h
  refine wp_seq ?_
  refine rSeq tc_ok 1 [] [(0, .t (.c (.d (.sl 3 (xs.map Part.d))))), (1, .t (.c (.d (.sl 3 (ys.map Part.d))))), (4, .t (.c (.d (.raw nilV)))), (5, .t (.c (.own 0 0))), (6, vi .i64 0)] [(0, .row 47 3 ([].map Part.d))] (by kernel_rfl) h ?_; clear h; intro a w h
  refine wp_block ?_
  refine loopS (ι := (Nat) × (List Part)) (fun (z_ : (Nat) × (List Part)) => match z_ with | (j1, out1) => out1 = [] ++ xs.take j1 ∧ j1 ≤ xs.length)
      (fun (z_ : (Nat) × (List Part)) => match z_ with | (j1, out1) => [(0, .t (.c (.d (.sl 3 (xs.map Part.d))))), (1, .t (.c (.d (.sl 3 (ys.map Part.d))))), (4, .t (.c (.d (.raw nilV)))), (5, .t (.c (.own 0 out1.length))), (6, vi .i64 (j1 : Int))])
      (fun (z_ : (Nat) × (List Part)) => match z_ with | (j1, out1) => [(0, .row 47 3 (out1.map Part.d))])
      (fun (z_ : (Nat) × (List Part)) => match z_ with | (j1, out1) => xs.length - j1) (0, []) ?_ h (by kernel_rfl) (by kernel_rfl) ?_
  · exact ⟨by simp, Nat.zero_le _⟩
  · clear h; rintro ⟨j1, out1⟩ a w hI h
    change St _ (F.of [(0, .t (.c (.d (.sl 3 (xs.map Part.d))))), (1, .t (.c (.d (.sl 3 (ys.map Part.d))))), (4, .t (.c (.d (.raw nilV)))), (5, .t (.c (.own 0 out1.length))), (6, vi .i64 (j1 : Int))] [(0, .row 47 3 (out1.map Part.d))]) a w at h
    obtain ⟨hI1a, hI1b⟩ := hI
    have lo1 : out1.length ≤ 1000 := by rw [hI1a]; simp; omega
    refine wp_seq ?_
    refine rSeq tc_ok 1 [(2, .len (c := (.d (.sl 3 (xs.map Part.d)))) (n := xs.length) (lenC_map _ _ _))] [(0, .t (.c (.d (.sl 3 (xs.map Part.d))))), (1, .t (.c (.d (.sl 3 (ys.map Part.d))))), (4, .t (.c (.d (.raw nilV)))), (5, .t (.c (.own 0 out1.length))), (6, vi .i64 (j1 : Int)), (12, vb (decide ((j1 : Int) < (xs.length : Int))))] [(0, .row 47 3 (out1.map Part.d))] (by kernel_rfl) h ?_; clear h; intro a w h
    refine condS (decide ((j1 : Int) < (xs.length : Int))) h rfl (fun hc => ?_) (fun hc => ?_)
    · have hc1 := hc; clear hc
      have hc1' := of_decide_eq_true hc1
      refine wp_skip ?_
      refine then_n ?_
      refine wp_seq ?_
      refine wp_block ?_
      obtain ⟨x1, hx1⟩ : ∃ z_ : Part, xs[j1]? = some z_ := ⟨_, List.getElem?_eq_getElem (by first | omega | (simp at *; omega))⟩
      refine rS tc_ok 1 [(3, .gen _ _ _ fun _ _ _ _ => Op.idxD (d := 18) (t := 16) (k := .i64) tc_1 (map_at hx1 (f := Part.d)) (OV.tmp 17 _)), (5, .gen _ _ _ fun _ _ _ _ => Op.buildD (d := 20) (len := 1) (rows := [x1].map Part.d) (rs := [(19, .t (.agg ([.d (.raw (.int .i64 x1.v))] ++ zi x1.c)))]) tc_0 (.cons (i := 0) (OV.tmp 19 _) (.nil)) (by kernel_rfl) rfl (by simp [Part.d]) (by decide) (by decide)), (6, .gen _ _ _ fun _ _ _ _ => Op.appOD (d := 21) (t := 15) (u := 20) (n := 0) (n' := 1) (len := out1.length) (len' := (out1 ++ [x1]).length) (rows := out1.map Part.d) (rows2 := [x1].map Part.d) (rows' := (out1 ++ [x1]).map Part.d) tc_2 (by simp) (by simp) (by simp) (by simp [Part.d]) (by first | omega | (simp at *; omega)))] [(0, .t (.c (.d (.sl 3 (xs.map Part.d))))), (1, .t (.c (.d (.sl 3 (ys.map Part.d))))), (4, .t (.c (.d (.raw nilV)))), (5, .t (.c (.own 1 (out1 ++ [x1]).length))), (6, vi .i64 (j1 : Int))] [(1, .row 47 3 ((out1 ++ [x1]).map Part.d))] (by kernel_rfl) h ?_; clear h; intro a w h
      refine block_n ?_
      refine then_n ?_
      refine rS tc_ok 2 [(1, .add .i64 (m := (j1 : Int)) (n := 1) (i64_id (by omega) (by omega)))] [(0, .t (.c (.d (.sl 3 (xs.map Part.d))))), (1, .t (.c (.d (.sl 3 (ys.map Part.d))))), (4, .t (.c (.d (.raw nilV)))), (5, .t (.c (.own 1 (out1 ++ [x1]).length))), (6, vi .i64 ((j1 : Int) + 1))] [(1, .row 47 3 ((out1 ++ [x1]).map Part.d))] (by kernel_rfl) h ?_; clear h; intro a w h
      refine then_n ?_
      replace h := renS 1 0 [(0, .t (.c (.d (.sl 3 (xs.map Part.d))))), (1, .t (.c (.d (.sl 3 (ys.map Part.d))))), (4, .t (.c (.d (.raw nilV)))), (5, .t (.c (.own 0 (out1 ++ [x1]).length))), (6, vi .i64 ((j1 : Int) + 1))] [(0, .row 47 3 ((out1 ++ [x1]).map Part.d))] h (by kernel_rfl) (by kernel_rfl) (by kernel_rfl)
      refine roundS (x := (j1, out1)) (y := (j1 + 1, (out1 ++ [x1]))) h ?_ ?_ (by kernel_rfl) (by kernel_rfl)
      · refine ⟨?_, by have := at_lt hx1; omega⟩
        rw [List.take_add_one, hx1, hI1a]; simp
      · simp; omega
    · have hc2 := hc; clear hc
      have hc2' := of_decide_eq_false hc2
      refine wp_exit ?_
      refine then_x ?_
      refine then_x ?_
      refine inBlock_exit ?_
      refine then_n ?_
      refine wp_seq ?_
      refine rSeq tc_ok 2 [] [(1, .t (.c (.d (.sl 3 (ys.map Part.d))))), (4, .t (.c (.d (.raw nilV)))), (5, .t (.c (.own 0 out1.length))), (7, vi .i64 0)] [(0, .row 47 3 (out1.map Part.d))] (by kernel_rfl) h ?_; clear h; intro a w h
      refine wp_block ?_
      refine loopS (ι := (Nat) × (List Part)) (fun (z_ : (Nat) × (List Part)) => match z_ with | (j2, out2) => out2 = out1 ++ ys.take j2 ∧ j2 ≤ ys.length)
          (fun (z_ : (Nat) × (List Part)) => match z_ with | (j2, out2) => [(1, .t (.c (.d (.sl 3 (ys.map Part.d))))), (4, .t (.c (.d (.raw nilV)))), (5, .t (.c (.own 0 out2.length))), (7, vi .i64 (j2 : Int))])
          (fun (z_ : (Nat) × (List Part)) => match z_ with | (j2, out2) => [(0, .row 47 3 (out2.map Part.d))])
          (fun (z_ : (Nat) × (List Part)) => match z_ with | (j2, out2) => ys.length - j2) (0, out1) ?_ h (by kernel_rfl) (by kernel_rfl) ?_
      · exact ⟨by simp, Nat.zero_le _⟩
      · clear h; rintro ⟨j2, out2⟩ a w hI h
        change St _ (F.of [(1, .t (.c (.d (.sl 3 (ys.map Part.d))))), (4, .t (.c (.d (.raw nilV)))), (5, .t (.c (.own 0 out2.length))), (7, vi .i64 (j2 : Int))] [(0, .row 47 3 (out2.map Part.d))]) a w at h
        obtain ⟨hI2a, hI2b⟩ := hI
        have lo2 : out2.length ≤ 2000 := by rw [hI2a]; simp; omega
        refine wp_seq ?_
        refine rSeq tc_ok 2 [(2, .len (c := (.d (.sl 3 (ys.map Part.d)))) (n := ys.length) (lenC_map _ _ _))] [(1, .t (.c (.d (.sl 3 (ys.map Part.d))))), (4, .t (.c (.d (.raw nilV)))), (5, .t (.c (.own 0 out2.length))), (7, vi .i64 (j2 : Int)), (25, vb (decide ((j2 : Int) < (ys.length : Int))))] [(0, .row 47 3 (out2.map Part.d))] (by kernel_rfl) h ?_; clear h; intro a w h
        refine condS (decide ((j2 : Int) < (ys.length : Int))) h rfl (fun hc => ?_) (fun hc => ?_)
        · have hc3 := hc; clear hc
          have hc3' := of_decide_eq_true hc3
          refine wp_skip ?_
          refine then_n ?_
          refine wp_seq ?_
          refine wp_block ?_
          obtain ⟨x2, hx2⟩ : ∃ z_ : Part, ys[j2]? = some z_ := ⟨_, List.getElem?_eq_getElem (by first | omega | (simp at *; omega))⟩
          refine rS tc_ok 2 [(3, .gen _ _ _ fun _ _ _ _ => Op.idxD (d := 31) (t := 29) (k := .i64) tc_1 (map_at hx2 (f := Part.d)) (OV.tmp 30 _)), (5, .gen _ _ _ fun _ _ _ _ => Op.buildD (d := 33) (len := 1) (rows := [x2].map Part.d) (rs := [(32, .t (.agg ([.d (.raw (.int .i64 x2.v))] ++ zi x2.c)))]) tc_0 (.cons (i := 0) (OV.tmp 32 _) (.nil)) (by kernel_rfl) rfl (by simp [Part.d]) (by decide) (by decide)), (6, .gen _ _ _ fun _ _ _ _ => Op.appOD (d := 34) (t := 28) (u := 33) (n := 0) (n' := 2) (len := out2.length) (len' := (out2 ++ [x2]).length) (rows := out2.map Part.d) (rows2 := [x2].map Part.d) (rows' := (out2 ++ [x2]).map Part.d) tc_2 (by simp) (by simp) (by simp) (by simp [Part.d]) (by first | omega | (simp at *; omega)))] [(1, .t (.c (.d (.sl 3 (ys.map Part.d))))), (4, .t (.c (.d (.raw nilV)))), (5, .t (.c (.own 2 (out2 ++ [x2]).length))), (7, vi .i64 (j2 : Int))] [(2, .row 47 3 ((out2 ++ [x2]).map Part.d))] (by kernel_rfl) h ?_; clear h; intro a w h
          refine block_n ?_
          refine then_n ?_
          refine rS tc_ok 3 [(1, .add .i64 (m := (j2 : Int)) (n := 1) (i64_id (by omega) (by omega)))] [(1, .t (.c (.d (.sl 3 (ys.map Part.d))))), (4, .t (.c (.d (.raw nilV)))), (5, .t (.c (.own 2 (out2 ++ [x2]).length))), (7, vi .i64 ((j2 : Int) + 1))] [(2, .row 47 3 ((out2 ++ [x2]).map Part.d))] (by kernel_rfl) h ?_; clear h; intro a w h
          refine then_n ?_
          replace h := renS 2 0 [(1, .t (.c (.d (.sl 3 (ys.map Part.d))))), (4, .t (.c (.d (.raw nilV)))), (5, .t (.c (.own 0 (out2 ++ [x2]).length))), (7, vi .i64 ((j2 : Int) + 1))] [(0, .row 47 3 ((out2 ++ [x2]).map Part.d))] h (by kernel_rfl) (by kernel_rfl) (by kernel_rfl)
          refine roundS (x := (j2, out2)) (y := (j2 + 1, (out2 ++ [x2]))) h ?_ ?_ (by kernel_rfl) (by kernel_rfl)
          · refine ⟨?_, by have := at_lt hx2; omega⟩
            rw [List.take_add_one, hx2, hI2a]; simp
          · simp; omega
        · have hc4 := hc; clear hc
          have hc4' := of_decide_eq_false hc4
          refine wp_exit ?_
          refine then_x ?_
          refine then_x ?_
          refine inBlock_exit ?_
          refine then_n ?_
          refine rSeq tc_ok 3 [] [(4, .t (.c (.own 0 out2.length)))] [(0, .row 47 3 (out2.map Part.d))] (by kernel_rfl) h ?_; clear h; intro a w h
          refine wp_ret ?_
          replace h := pubS 0 3 47 (out2.map Part.d) [(4, .t (.c (.d (.sl 3 (out2.map Part.d)))))] [] h rfl (show AllEq _ [out2.length] from ⟨by simp, trivial⟩) trivial (by kernel_rfl) (by kernel_rfl)
          refine retS [.c (.d (.sl 3 (out2.map Part.d)))] h Exit.ret (.inl rfl)  rfl ⟨RV.tmp _ _ rfl, trivial⟩ ?_ (by kernel_rfl) (by kernel_rfl)
          have h1 : j1 = xs.length := by have := hc2'; omega
          have h2 : j2 = ys.length := by have := hc4'; omega
          subst h1 h2
          rw [hI2a, hI1a, List.take_length, List.take_length]; first | done | rfl
theorem TOk.add {n m L : Nat} {s t : Term} (hs : TOk n L s) (ht : TOk m L t) (r : ZI) (hr : Lb r.abs) (lr : r.abs.length ≤ L + L + 1) : TOk (n + m) (L + L + 1) ⟨s.parts ++ t.parts, r⟩ := by
  refine ⟨?_, ?_, hr, lr⟩
  · simp only [List.length_append]; have := hs.len; have := ht.len; omega
  · intro p hp
    rcases List.mem_append.1 hp with h | h
    · exact ⟨(hs.ps p h).1, by have := (hs.ps p h).2; omega⟩
    · exact ⟨(ht.ps p h).1, by have := (ht.ps p h).2; omega⟩
theorem TOk.num {L : Nat} {k : ZI} (hk : Lb k.abs) (lk : k.abs.length ≤ L) : TOk 0 L ⟨[], k⟩ := ⟨Nat.le_refl _, fun p hp => (by cases hp), hk, lk⟩
theorem TOk.one {v : Int} : TOk 1 2 (oneT v) := ⟨Nat.le_refl _, fun p hp => by
  simp only [oneT, List.mem_singleton] at hp
  subst hp
  exact ⟨ZI.lb_of _, show (ZI.of 1).abs.length ≤ 2 from by decide⟩, Lb_nil, Nat.zero_le _⟩
set_option maxRecDepth 100000 in
theorem SRTAdd (s t : Term) (hs : TOk 400 15000 s) (ht : TOk 400 15000 t) : Fn Try.prog 11 [] [.t (.agg ([.d (.sl 3 (s.parts.map Part.d))] ++ zi s.k)), .t (.agg ([.d (.sl 3 (t.parts.map Part.d))] ++ zi t.k))] (vd (addT s t).d) [] := by
  have ks := hs.kl
  have kt := ht.kl
  refine Fn.body Try.func11 rfl 17 rfl fun w H B a h => ?_
  refine rSeq tc_ok 0 [] [(2, vp 0 0), (3, vp 1 0), (4, vp 2 0)] [(0, .box ([.d (.sl 3 (s.parts.map Part.d))] ++ zi s.k)), (1, .box ([.d (.sl 3 (t.parts.map Part.d))] ++ zi t.k)), (2, .box [.d (.raw nilV), .d (.raw (.bool false)), .d (nsl [])])] (by kernel_rfl) h ?_; clear h; intro a w h
  obtain ⟨r2, er2, vr2, or2, lr2⟩ := mkZ (v := s.k.val + t.k.val) (m := s.k.abs.length + t.k.abs.length + 1) (len_add hs.kb ht.kb)
  refine rSeq tc_ok 3 [(4, .call (SRboth s.parts t.parts (by have := hs.len; omega) (by have := ht.len; omega)) tc_3), (9, .call (Fn.cast (SRAdd s.k t.k hs.kb ht.kb (by omega) (by omega)) (congrArg vz er2.symm)) tc_4), (11, .call (SRPlain' (Term.mk (s.parts ++ t.parts) r2) (TOk.add hs ht r2 or2 (by have := hs.kl; have := ht.kl; omega)) (by decide) (by decide)) tc_5)] [(4, vp 2 0)] [(2, .box ([.d (.sl 3 ((plainT (Term.mk (s.parts ++ t.parts) r2)).parts.map Part.d))] ++ zi (plainT (Term.mk (s.parts ++ t.parts) r2)).k))] (by kernel_rfl) h ?_; clear h; intro a w h
  refine wp_ret ?_
  refine retS [.agg ([.d (.sl 3 ((plainT (Term.mk (s.parts ++ t.parts) r2)).parts.map Part.d))] ++ zi (plainT (Term.mk (s.parts ++ t.parts) r2)).k)] h Exit.ret (.inl rfl)  rfl ⟨RV.agg _ 2 0 _ _ _ _ tc_6 rfl rfl rfl rfl, trivial⟩ ?_ (by kernel_rfl) (by kernel_rfl)
  rw [er2]; first | done | rfl
set_option maxRecDepth 100000 in
theorem SRNumber (k : ZI) (hk : Lb k.abs) (lk : k.abs.length ≤ 40000) : Fn Try.prog 19 [] [vz k] (vd (numT k).d) [] := by
  refine Fn.body Try.func19 rfl 6 rfl fun w H B a h => ?_
  refine rSeq tc_ok 0 [] [(1, vp 0 0), (2, vp 1 0)] [(0, .box (zi k)), (1, .box [.d (.raw nilV), .d (.raw (.bool false)), .d (nsl [])])] (by kernel_rfl) h ?_; clear h; intro a w h
  obtain ⟨r1, er1, vr1, or1, lr1⟩ := mkZ (v := k.val) (m := k.abs.length) (len_id hk)
  refine rSeq tc_ok 2 [(1, .call (Fn.cast (SRClean k hk (by omega)) (congrArg vz er1.symm)) tc_7)] [(2, vp 1 0)] [(1, .box ([.d (.raw nilV)] ++ zi r1))] (by kernel_rfl) h ?_; clear h; intro a w h
  refine wp_ret ?_
  replace h := nilDLs 1 0 3 ([.d (.raw nilV)] ++ zi r1) [(2, vp 1 0)] [(1, .box ([.d (.sl 3 ([].map Part.d))] ++ zi r1))] h rfl rfl (by kernel_rfl) (by kernel_rfl)
  refine retS [.agg ([.d (.sl 3 ([].map Part.d))] ++ zi r1)] h Exit.ret (.inl rfl)  rfl ⟨RV.agg _ 1 0 _ _ _ _ tc_6 rfl rfl rfl rfl, trivial⟩ ?_ (by kernel_rfl) (by kernel_rfl)
  rw [er1]; first | done | rfl
set_option maxRecDepth 100000 in
theorem SRVar (v : Int)  : Fn Try.prog 49 [] [vi .i64 v] (vd (varT v).d) [] := by
  refine Fn.body Try.func49 rfl 9 rfl fun w H B a h => ?_
  refine rSeq tc_ok 0 [] [(0, vi .i64 v), (2, vp 0 0)] [(0, .box [.d (.raw nilV), .d (.raw (.bool false)), .d (nsl [])])] (by kernel_rfl) h ?_; clear h; intro a w h
  obtain ⟨r1, er1, vr1, or1, lr1⟩ := mkZ (v := 1) (m := 2) (ZI.len_of (by have := pw2; omega))
  refine rSeq tc_ok 1 [(1, .call (Fn.cast (SROf 1 ⟨by omega, by omega⟩) (congrArg vz er1.symm)) tc_8), (3, .gen _ _ _ fun _ _ _ _ => Op.buildD (d := 6) (len := 1) (rows := [(Part.mk v r1)].map Part.d) (rs := [(5, .t (.agg ([.d (.raw (.int .i64 v))] ++ zi r1)))]) tc_0 (.cons (i := 0) (OV.tmp 5 _) (.nil)) (by kernel_rfl) rfl (by simp [Part.d]) (by decide) (by decide)), (5, .call ((show Fn _ _ _ [vd (Term.mk [Part.mk v r1] ⟨false, []⟩).d] _ _ from by rw [er1]; exact SRPlain' (oneT v) TOk.one (by decide) (by decide))) tc_5)] [(2, vp 0 0)] [(0, .box ([.d (.sl 3 ((varT v).parts.map Part.d))] ++ zi (varT v).k))] (by kernel_rfl) h ?_; clear h; intro a w h
  refine wp_ret ?_
  refine retS [.agg ([.d (.sl 3 ((varT v).parts.map Part.d))] ++ zi (varT v).k)] h Exit.ret (.inl rfl)  rfl ⟨RV.agg _ 0 0 _ _ _ _ tc_6 rfl rfl rfl rfl, trivial⟩ ?_ (by kernel_rfl) (by kernel_rfl)
  rfl
theorem TOk.mul {n L M : Nat} {t : Term} {q : ZI} (ht : TOk n L t) (hq : Lb q.abs) (lq : q.abs.length ≤ M) : TOk n (L + M) (mulT t q) := by
  refine ⟨by simp only [mulT, List.length_map]; exact ht.len, ?_, ZI.lb_of _, ?_⟩
  · intro p hp
    simp only [mulT, List.mem_map] at hp
    obtain ⟨r, hr, rfl⟩ := hp
    obtain ⟨h1, h2⟩ := ht.ps r hr
    exact ⟨ZI.lb_of _, by have := len_mul h1 hq; simp only; omega⟩
  · have := len_mul ht.kb hq; have := ht.kl; simp only [mulT]; omega
set_option maxRecDepth 100000 in
theorem SRScale (t : Term) (q : ZI) {n L M : Nat} (ht : TOk n L t) (hn : n ≤ 1000) (hq : Lb q.abs) (lq : q.abs.length ≤ M) (hL : L + M ≤ 40000) : Fn Try.prog 15 [] [.t (.agg ([.d (.sl 3 (t.parts.map Part.d))] ++ zi t.k)), vz q] (vd (scaleT t q).d) [] := by
  have kt := ht.kl
  have nt := ht.len
  refine Fn.body Try.func15 rfl 41 rfl fun w H B a h => ?_
  refine rSeq tc_ok 0 [] [(2, vp 0 0), (3, vp 1 0), (4, vp 2 0)] [(0, .box ([.d (.sl 3 (t.parts.map Part.d))] ++ zi t.k)), (1, .box (zi q)), (2, .box [.d (.raw nilV), .d (.raw (.bool false)), .d (nsl [])])] (by kernel_rfl) h ?_; clear h; intro a w h
  obtain ⟨r1, er1, vr1, or1, lr1⟩ := mkZ (v := t.k.val * q.val) (m := t.k.abs.length + q.abs.length) (len_mul ht.kb hq)
  refine rSeq tc_ok 3 [(3, .call (Fn.cast (SRMul t.k q ht.kb hq (by omega) (by omega)) (congrArg vz er1.symm)) tc_9)] [(2, vp 0 0), (3, vp 1 0), (4, vp 2 0), (5, vp 3 0)] [(0, .box ([.d (.sl 3 (t.parts.map Part.d))] ++ zi t.k)), (1, .box (zi q)), (2, .box [.d (.raw nilV), .d (.raw (.bool false)), .d (nsl [])]), (3, .box ([.d (.raw nilV)] ++ zi r1))] (by kernel_rfl) h ?_; clear h; intro a w h
  refine wp_seq ?_
  replace h := nilOLs 3 0 4 3 47 ([.d (.raw nilV)] ++ zi r1) [(2, vp 0 0), (3, vp 1 0), (4, vp 2 0), (5, vp 3 0)] [(0, .box ([.d (.sl 3 (t.parts.map Part.d))] ++ zi t.k)), (1, .box (zi q)), (2, .box [.d (.raw nilV), .d (.raw (.bool false)), .d (nsl [])]), (3, .box ([.own 4 0] ++ zi r1)), (4, .row 47 3 ([].map Part.d))] h (by kernel_rfl) rfl rfl (by kernel_rfl) (by kernel_rfl)
  refine rSeq tc_ok 5 [] [(2, vp 0 0), (3, vp 1 0), (4, vp 2 0), (5, vp 3 0), (6, vi .i64 0)] [(0, .box ([.d (.sl 3 (t.parts.map Part.d))] ++ zi t.k)), (1, .box (zi q)), (2, .box [.d (.raw nilV), .d (.raw (.bool false)), .d (nsl [])]), (3, .box ([.own 4 0] ++ zi r1)), (4, .row 47 3 ([].map Part.d))] (by kernel_rfl) h ?_; clear h; intro a w h
  refine wp_block ?_
  refine loopS (ι := (Nat) × (List Part)) (fun (z_ : (Nat) × (List Part)) => match z_ with | (j, out) => out = (t.parts.take j).map (fun p => Part.mk p.v (ZI.of (p.c.val * q.val))) ∧ j ≤ t.parts.length ∧ out.length ≤ j)
      (fun (z_ : (Nat) × (List Part)) => match z_ with | (j, out) => [(2, vp 0 0), (3, vp 1 0), (4, vp 2 0), (5, vp 3 0), (6, vi .i64 (j : Int))])
      (fun (z_ : (Nat) × (List Part)) => match z_ with | (j, out) => [(0, .box ([.d (.sl 3 (t.parts.map Part.d))] ++ zi t.k)), (1, .box (zi q)), (2, .box [.d (.raw nilV), .d (.raw (.bool false)), .d (nsl [])]), (3, .box ([.own 4 out.length] ++ zi r1)), (4, .row 47 3 (out.map Part.d))])
      (fun (z_ : (Nat) × (List Part)) => match z_ with | (j, out) => t.parts.length - j) (0, []) ?_ h (by kernel_rfl) (by kernel_rfl) ?_
  · exact ⟨by simp, Nat.zero_le _, Nat.zero_le _⟩
  · clear h; rintro ⟨j, out⟩ a w hI h
    change St _ (F.of [(2, vp 0 0), (3, vp 1 0), (4, vp 2 0), (5, vp 3 0), (6, vi .i64 (j : Int))] [(0, .box ([.d (.sl 3 (t.parts.map Part.d))] ++ zi t.k)), (1, .box (zi q)), (2, .box [.d (.raw nilV), .d (.raw (.bool false)), .d (nsl [])]), (3, .box ([.own 4 out.length] ++ zi r1)), (4, .row 47 3 (out.map Part.d))]) a w at h
    obtain ⟨hI1, hI2, hI3⟩ := hI
    refine wp_seq ?_
    refine rSeq tc_ok 5 [(3, .len (c := (.d (.sl 3 (t.parts.map Part.d)))) (n := t.parts.length) (lenC_map _ _ _))] [(2, vp 0 0), (3, vp 1 0), (4, vp 2 0), (5, vp 3 0), (6, vi .i64 (j : Int)), (16, vb (decide ((j : Int) < (t.parts.length : Int))))] [(0, .box ([.d (.sl 3 (t.parts.map Part.d))] ++ zi t.k)), (1, .box (zi q)), (2, .box [.d (.raw nilV), .d (.raw (.bool false)), .d (nsl [])]), (3, .box ([.own 4 out.length] ++ zi r1)), (4, .row 47 3 (out.map Part.d))] (by kernel_rfl) h ?_; clear h; intro a w h
    refine condS (decide ((j : Int) < (t.parts.length : Int))) h rfl (fun hc => ?_) (fun hc => ?_)
    · have hc1 := hc; clear hc
      have hc1' := of_decide_eq_true hc1
      refine wp_skip ?_
      refine then_n ?_
      refine wp_seq ?_
      refine wp_block ?_
      obtain ⟨x2, hx2⟩ : ∃ z_ : Part, t.parts[j]? = some z_ := ⟨_, List.getElem?_eq_getElem (by first | omega | (simp at *; omega))⟩
      obtain ⟨ox2, lx2⟩ := ht.get hx2
      obtain ⟨r3, er3, vr3, or3, lr3⟩ := mkZ (v := x2.c.val * q.val) (m := x2.c.abs.length + q.abs.length) (len_mul ox2 hq)
      refine rS tc_ok 5 [(5, .gen _ _ _ fun _ _ _ _ => Op.idxD (d := 24) (t := 22) (k := .i64) tc_1 (map_at hx2 (f := Part.d)) (OV.tmp 23 _)), (11, .gen _ _ _ fun _ _ _ _ => Op.idxD (d := 30) (t := 28) (k := .i64) tc_1 (map_at hx2 (f := Part.d)) (OV.tmp 29 _)), (15, .call (Fn.cast (SRMul x2.c q ox2 hq (by omega) (by omega)) (congrArg vz er3.symm)) tc_9), (17, .gen _ _ _ fun _ _ _ _ => Op.buildD (d := 36) (len := 1) (rows := [(Part.mk x2.v r3)].map Part.d) (rs := [(35, .t (.agg ([.d (.raw (.int .i64 x2.v))] ++ zi r3)))]) tc_0 (.cons (i := 0) (OV.tmp 35 _) (.nil)) (by kernel_rfl) rfl (by simp [Part.d]) (by decide) (by decide)), (18, .gen _ _ _ fun _ _ _ _ => Op.appOD (d := 37) (t := 20) (u := 36) (n := 4) (n' := 5) (len := out.length) (len' := (out ++ [(Part.mk x2.v r3)]).length) (rows := out.map Part.d) (rows2 := [(Part.mk x2.v r3)].map Part.d) (rows' := (out ++ [(Part.mk x2.v r3)]).map Part.d) tc_2 (by simp) (by simp) (by simp) (by simp [Part.d]) (by first | omega | (simp at *; omega)))] [(2, vp 0 0), (3, vp 1 0), (4, vp 2 0), (5, vp 3 0), (6, vi .i64 (j : Int))] [(0, .box ([.d (.sl 3 (t.parts.map Part.d))] ++ zi t.k)), (1, .box (zi q)), (2, .box [.d (.raw nilV), .d (.raw (.bool false)), .d (nsl [])]), (3, .box ([.own 5 (out ++ [(Part.mk x2.v r3)]).length] ++ zi r1)), (5, .row 47 3 ((out ++ [(Part.mk x2.v r3)]).map Part.d))] (by kernel_rfl) h ?_; clear h; intro a w h
      refine block_n ?_
      refine then_n ?_
      refine rS tc_ok 6 [(1, .add .i64 (m := (j : Int)) (n := 1) (i64_id (by omega) (by omega)))] [(2, vp 0 0), (3, vp 1 0), (4, vp 2 0), (5, vp 3 0), (6, vi .i64 ((j : Int) + 1))] [(0, .box ([.d (.sl 3 (t.parts.map Part.d))] ++ zi t.k)), (1, .box (zi q)), (2, .box [.d (.raw nilV), .d (.raw (.bool false)), .d (nsl [])]), (3, .box ([.own 5 (out ++ [(Part.mk x2.v r3)]).length] ++ zi r1)), (5, .row 47 3 ((out ++ [(Part.mk x2.v r3)]).map Part.d))] (by kernel_rfl) h ?_; clear h; intro a w h
      refine then_n ?_
      replace h := renS 5 4 [(2, vp 0 0), (3, vp 1 0), (4, vp 2 0), (5, vp 3 0), (6, vi .i64 ((j : Int) + 1))] [(0, .box ([.d (.sl 3 (t.parts.map Part.d))] ++ zi t.k)), (1, .box (zi q)), (2, .box [.d (.raw nilV), .d (.raw (.bool false)), .d (nsl [])]), (3, .box ([.own 4 (out ++ [(Part.mk x2.v r3)]).length] ++ zi r1)), (4, .row 47 3 ((out ++ [(Part.mk x2.v r3)]).map Part.d))] h (by kernel_rfl) (by kernel_rfl) (by kernel_rfl)
      refine roundS (x := (j, out)) (y := (j + 1, (out ++ [(Part.mk x2.v r3)]))) h ?_ ?_ (by kernel_rfl) (by kernel_rfl)
      · refine ⟨?_, by have := at_lt hx2; omega, by simp; omega⟩
        rw [take_map hx2, ← hI1, er3]
      · simp; omega
    · have hc2 := hc; clear hc
      have hc2' := of_decide_eq_false hc2
      refine wp_exit ?_
      refine then_x ?_
      refine then_x ?_
      refine inBlock_exit ?_
      refine then_n ?_
      have hj : j = t.parts.length := by have := hc2'; omega
      rw [hj, List.take_length] at hI1
      have hq2 : Term.mk out r1 = mulT t q := by rw [hI1, er1]; first | done | rfl
      replace h := pubS 4 3 47 (out.map Part.d) [(2, vp 0 0), (3, vp 1 0), (4, vp 2 0), (5, vp 3 0), (6, vi .i64 (j : Int)), (16, vb (decide ((j : Int) < (t.parts.length : Int))))] [(0, .box ([.d (.sl 3 (t.parts.map Part.d))] ++ zi t.k)), (1, .box (zi q)), (2, .box [.d (.raw nilV), .d (.raw (.bool false)), .d (nsl [])]), (3, .box ([.d (.sl 3 (out.map Part.d))] ++ zi r1))] h rfl trivial (show AllEq _ [out.length] from ⟨by simp, trivial⟩) (by kernel_rfl) (by kernel_rfl)
      refine rSeq tc_ok 6 [(1, .call ((show Fn _ _ _ [vd (Term.mk out r1).d] _ _ from by rw [hq2]; exact SRPlain' (mulT t q) (TOk.mul ht hq lq) (by omega) (by omega))) tc_5)] [(4, vp 2 0)] [(2, .box ([.d (.sl 3 ((scaleT t q).parts.map Part.d))] ++ zi (scaleT t q).k))] (by kernel_rfl) h ?_; clear h; intro a w h
      refine wp_ret ?_
      refine retS [.agg ([.d (.sl 3 ((scaleT t q).parts.map Part.d))] ++ zi (scaleT t q).k)] h Exit.ret (.inl rfl)  rfl ⟨RV.agg _ 2 0 _ _ _ _ tc_6 rfl rfl rfl rfl, trivial⟩ ?_ (by kernel_rfl) (by kernel_rfl)
      rfl
theorem addT_ok {n m L : Nat} {s t : Term} (hs : TOk n L s) (ht : TOk m L t) (hn : n + m ≤ 1000) : TOk (n + m) (L + L + 1 + 1) (addT s t) :=
  (TOk.add hs ht _ (ZI.lb_of _) (by have := len_add hs.kb ht.kb; have := hs.kl; have := ht.kl; omega)).plain hn
def subT (s t : Term) : Term := addT s (scaleT t (ZI.of (-1)))
def negT (t : Term) : Term := scaleT t (ZI.of (-1))
set_option maxRecDepth 100000 in
theorem SRTSub (s t : Term) (hs : TOk 400 10000 s) (ht : TOk 400 10000 t) : Fn Try.prog 13 [] [.t (.agg ([.d (.sl 3 (s.parts.map Part.d))] ++ zi s.k)), .t (.agg ([.d (.sl 3 (t.parts.map Part.d))] ++ zi t.k))] (vd (subT s t).d) [] := by
  refine Fn.body Try.func13 rfl 10 rfl fun w H B a h => ?_
  refine rSeq tc_ok 0 [] [(2, vp 0 0), (3, vp 1 0), (4, vp 2 0)] [(0, .box ([.d (.sl 3 (s.parts.map Part.d))] ++ zi s.k)), (1, .box ([.d (.sl 3 (t.parts.map Part.d))] ++ zi t.k)), (2, .box [.d (.raw nilV), .d (.raw (.bool false)), .d (nsl [])])] (by kernel_rfl) h ?_; clear h; intro a w h
  obtain ⟨r1, er1, vr1, or1, lr1⟩ := mkZ (v := (-1)) (m := 2) (ZI.len_of (by have := pw2; omega))
  refine rSeq tc_ok 3 [(2, .call (Fn.cast (SROf (-1) ⟨by omega, by omega⟩) (congrArg vz er1.symm)) tc_8), (3, .call (SRScale t r1 ht (by decide) or1 lr1 (by decide)) tc_10), (4, .call (SRTAdd s (scaleT t r1) (hs.mono (by decide) (by decide)) (((TOk.mul ht or1 lr1).plain (by decide)).mono (by decide) (by decide))) tc_11)] [(4, vp 2 0)] [(2, .box ([.d (.sl 3 ((addT s (scaleT t r1)).parts.map Part.d))] ++ zi (addT s (scaleT t r1)).k))] (by kernel_rfl) h ?_; clear h; intro a w h
  refine wp_ret ?_
  refine retS [.agg ([.d (.sl 3 ((addT s (scaleT t r1)).parts.map Part.d))] ++ zi (addT s (scaleT t r1)).k)] h Exit.ret (.inl rfl)  rfl ⟨RV.agg _ 2 0 _ _ _ _ tc_6 rfl rfl rfl rfl, trivial⟩ ?_ (by kernel_rfl) (by kernel_rfl)
  rw [er1]; first | done | rfl
end Go.Proofs.Ytekhnajfdaknnaa.S
