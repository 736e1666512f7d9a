/-
  The reference of terms: how often a variable counts.
-/
import Derived.Test.YtekhnajfdaknnaaDat
import Derived.Test.YtekhnajfdaknnaaIb
namespace Go.Proofs.Ytekhnajfdaknnaa.S
open Go.RowKit

theorem ta_0 : SlT Try.prog 22 47 3 := SlT.mk' Try.underlying22 (by kernel_rfl)
theorem ta_1 : Bodied Try.prog 43 := Bodied.mk' (by kernel_rfl)
theorem ta_2 : Sz Try.prog 26 2 true := Sz.mk' (by kernel_rfl) Try.underlying26 _ rfl
def ta_tb : Tb := [(4, ⟨1, false, [], [.d (.raw (.bool false))], 3⟩), (24, ⟨1, false, [], [.d (nsl [])], 1⟩), (26, ⟨2, true, [(0, 1, false), (1, 1, false)], [.d (.raw (.bool false)), .d (nsl [])], 0⟩), (22, ⟨1, false, [], [.d (.raw nilV)], 1⟩), (28, ⟨3, true, [(0, 1, false), (1, 2, true)], [.d (.raw nilV), .d (.raw (.bool false)), .d (nsl [])], 0⟩), (3, ⟨1, false, [], [.d (.raw (.int .i64 0))], 13⟩), (47, ⟨3, true, [(0, 1, false), (1, 2, true)], [.d (.raw (.int .i64 0)), .d (.raw (.bool false)), .d (nsl [])], 0⟩)]
theorem ta_ok : TbOk Try.prog ta_tb := ⟨TyOk.bl Try.underlying4 (by kernel_rfl) ⟨(.bool false : Value), [.bool false], by kernel_rfl, rfl, (fun _ _ => ⟨DR.raw _ rfl, trivial⟩)⟩,
  TyOk.slc Try.underlying24 (by kernel_rfl) ⟨(.slice none 0 0 : Value), [.slice none 0 0], by kernel_rfl, rfl, (fun _ _ => ⟨DR.nil _ _ _ (fun _ => rfl) (Nat.zero_le _), trivial⟩)⟩,
  TyOk.st Try.underlying26 (by kernel_rfl) ⟨⟨by decide, Fd.mk' _ _ Try.underlying26 rfl rfl (Sz.mk' (by kernel_rfl) Try.underlying4 _ rfl)⟩, ⟨by decide, Fd.mk' _ _ Try.underlying26 rfl rfl (Sz.mk' (by kernel_rfl) Try.underlying24 _ rfl)⟩, trivial⟩ ⟨(Value.agg #[.bool false, .slice none 0 0]), [.bool false, .slice none 0 0], by kernel_rfl, rfl, (fun _ _ => ⟨DR.raw _ rfl, DR.nil _ _ _ (fun _ => rfl) (Nat.zero_le _), trivial⟩)⟩ ⟨_, Try.underlying26, ⟨⟨rfl, by kernel_rfl⟩, ⟨rfl, by kernel_rfl⟩, trivial⟩⟩,
  TyOk.slc Try.underlying22 (by kernel_rfl) ⟨(.slice none 0 0 : Value), [.slice none 0 0], by kernel_rfl, rfl, (fun _ _ => ⟨DR.raw _ rfl, trivial⟩)⟩,
  TyOk.st Try.underlying28 (by kernel_rfl) ⟨⟨by decide, Fd.mk' _ _ Try.underlying28 rfl rfl (Sz.mk' (by kernel_rfl) Try.underlying22 _ rfl)⟩, ⟨by decide, Fd.mk' _ _ Try.underlying28 rfl rfl (Sz.mk' (by kernel_rfl) Try.underlying26 _ rfl)⟩, trivial⟩ ⟨(Value.agg #[.slice none 0 0, .bool false, .slice none 0 0]), [.slice none 0 0, .bool false, .slice none 0 0], by kernel_rfl, rfl, (fun _ _ => ⟨DR.raw _ rfl, DR.raw _ rfl, DR.nil _ _ _ (fun _ => rfl) (Nat.zero_le _), trivial⟩)⟩ ⟨_, Try.underlying28, ⟨⟨rfl, by kernel_rfl⟩, ⟨rfl, by kernel_rfl⟩, trivial⟩⟩,
  TyOk.int Try.underlying3 rfl (by kernel_rfl) ⟨(.int .i64 0 : Value), [.int .i64 0], by kernel_rfl, rfl, (fun _ _ => ⟨DR.raw _ rfl, trivial⟩)⟩,
  TyOk.st Try.underlying47 (by kernel_rfl) ⟨⟨by decide, Fd.mk' _ _ Try.underlying47 rfl rfl (Sz.mk' (by kernel_rfl) Try.underlying3 _ rfl)⟩, ⟨by decide, Fd.mk' _ _ Try.underlying47 rfl rfl (Sz.mk' (by kernel_rfl) Try.underlying26 _ rfl)⟩, trivial⟩ ⟨(Value.agg #[.int .i64 0, .bool false, .slice none 0 0]), [.int .i64 0, .bool false, .slice none 0 0], by kernel_rfl, rfl, (fun _ _ => ⟨DR.raw _ rfl, DR.raw _ rfl, DR.nil _ _ _ (fun _ => rfl) (Nat.zero_le _), trivial⟩)⟩ ⟨_, Try.underlying47, ⟨⟨rfl, by kernel_rfl⟩, ⟨rfl, by kernel_rfl⟩, trivial⟩⟩,
  trivial⟩
/-- how often a variable counts -/
def coefZ : List Part → Int → Int
  | [], _ => 0
  | p :: ps, v => (if p.v = v ∧ 0 ≤ v then p.c.val else 0) + coefZ ps v
theorem coefZ_app (ps qs : List Part) (v : Int) : coefZ (ps ++ qs) v = coefZ ps v + coefZ qs v := by
  induction ps with
  | nil => simp [coefZ]
  | cons p ps ih => simp only [List.cons_append, coefZ, ih]; omega
theorem coefZ_take {ps : List Part} {j : Nat} {p : Part} (h : ps[j]? = some p) (v : Int) : coefZ (ps.take (j + 1)) v = coefZ (ps.take j) v + (if p.v = v ∧ 0 ≤ v then p.c.val else 0) := by
  have : ps.take (j + 1) = ps.take j ++ [p] := by rw [List.take_add_one, h]; rfl
  rw [this, coefZ_app]; simp [coefZ]
/-- parts of few limbs -/
def PsOk (L : Nat) (ps : List Part) : Prop := ps.length ≤ 1000 ∧ ∀ p ∈ ps, Lb p.c.abs ∧ p.c.abs.length ≤ L
theorem PsOk.take {L : Nat} {ps : List Part} (h : PsOk L ps) (j : Nat) : PsOk L (ps.take j) := ⟨by rw [List.length_take]; have := h.1; omega, fun p hp => h.2 p (List.mem_of_mem_take hp)⟩
theorem PsOk.get {L : Nat} {ps : List Part} (h : PsOk L ps) {j : Nat} {p : Part} (hp : ps[j]? = some p) : Lb p.c.abs ∧ p.c.abs.length ≤ L := h.2 p (List.mem_of_getElem? hp)
theorem coefZ_lt {L : Nat} : ∀ {ps : List Part}, (∀ p ∈ ps, Lb p.c.abs ∧ p.c.abs.length ≤ L) → ∀ v, (coefZ ps v).natAbs ≤ ps.length * pw L
  | [], _, v => by simp [coefZ]
  | p :: ps, h, v => by
    have ih := coefZ_lt (fun q hq => h q (by simp [hq])) v (ps := ps)
    obtain ⟨h1, h2⟩ := h p (by simp)
    have h3 := ZI.abs_lt h1
    have h4 := pw_le h2
    simp only [coefZ, List.length_cons, Nat.add_mul]
    split <;> omega
theorem coef_len {L : Nat} {ps : List Part} (h : PsOk L ps) (v : Int) : (ZI.of (coefZ ps v)).abs.length ≤ L + 1 := by
  refine ZI.len_of ?_
  have h1 := coefZ_lt h.2 v
  have h2 : ps.length * pw L ≤ 1000 * pw L := Nat.mul_le_mul_right _ h.1
  have h3 := pw_pos L
  rw [pw_succ]
  omega
set_option maxRecDepth 100000 in
theorem SCoef (t : Term) (v : Int) (ht : PsOk 40000 t.parts) : Fn Try.prog 40 [] [.t (.agg ([.d (.sl 3 (t.parts.map Part.d))] ++ zi t.k)), vi .i64 v] (vz (ZI.of (coefZ t.parts v))) [] := by
  refine Fn.body Try.func40 rfl 36 rfl fun w H B a h => ?_
  refine rSeq ta_ok 0 [] [(1, vi .i64 v), (2, vp 0 0), (4, vp 1 0)] [(0, .box ([.d (.sl 3 (t.parts.map Part.d))] ++ zi t.k)), (1, .box [.d (.raw (.bool false)), .d (nsl [])])] (by kernel_rfl) h ?_; clear h; intro a w h
  refine rSeq ta_ok 2 [] [(1, vi .i64 v), (2, vp 0 0), (4, vp 1 0), (5, vp 2 0)] [(0, .box ([.d (.sl 3 (t.parts.map Part.d))] ++ zi t.k)), (1, .box [.d (.raw (.bool false)), .d (nsl [])]), (2, .box [.d (.raw (.bool false)), .d (nsl [])])] (by kernel_rfl) h ?_; clear h; intro a w h
  refine wp_seq ?_
  refine rSeq ta_ok 3 [] [(1, vi .i64 v), (2, vp 0 0), (4, vp 1 0), (5, vp 2 0), (6, vi .i64 0)] [(0, .box ([.d (.sl 3 (t.parts.map Part.d))] ++ zi t.k)), (1, .box [.d (.raw (.bool false)), .d (nsl [])]), (2, .box [.d (.raw (.bool false)), .d (nsl [])])] (by kernel_rfl) h ?_; clear h; intro a w h
  refine wp_block ?_
  refine loopS (ι := (Nat) × (ZI)) (fun (z_ : (Nat) × (ZI)) => match z_ with | (j, out) => out = ZI.of (coefZ (t.parts.take j) v) ∧ j ≤ t.parts.length)
      (fun (z_ : (Nat) × (ZI)) => match z_ with | (j, out) => [(1, vi .i64 v), (2, vp 0 0), (4, vp 1 0), (5, vp 2 0), (6, vi .i64 (j : Int))])
      (fun (z_ : (Nat) × (ZI)) => match z_ with | (j, out) => [(0, .box ([.d (.sl 3 (t.parts.map Part.d))] ++ zi t.k)), (1, .box [.d (.raw (.bool false)), .d (nsl [])]), (2, .box (zi out))])
      (fun (z_ : (Nat) × (ZI)) => match z_ with | (j, out) => t.parts.length - j) (0, (ZI.of 0)) ?_ h (by kernel_rfl) (by kernel_rfl) ?_
  · exact ⟨by simp [coefZ], Nat.zero_le _⟩
  · clear h; rintro ⟨j, out⟩ a w hI h
    change St _ (F.of [(1, vi .i64 v), (2, vp 0 0), (4, vp 1 0), (5, vp 2 0), (6, vi .i64 (j : Int))] [(0, .box ([.d (.sl 3 (t.parts.map Part.d))] ++ zi t.k)), (1, .box [.d (.raw (.bool false)), .d (nsl [])]), (2, .box (zi out))]) a w at h
    obtain ⟨hI1, hI2⟩ := hI
    have ln := ht.1
    have lo : out.abs.length ≤ 40001 := by rw [hI1]; exact coef_len (ht.take j) v
    have ho : Lb out.abs := by rw [hI1]; exact ZI.lb_of _
    have vo : out.val = coefZ (t.parts.take j) v := by rw [hI1]; exact ZI.val_of _
    refine wp_seq ?_
    refine rSeq ta_ok 3 [(3, .len (c := (.d (.sl 3 (t.parts.map Part.d)))) (n := t.parts.length) (lenC_map _ _ _))] [(1, vi .i64 v), (2, vp 0 0), (4, vp 1 0), (5, vp 2 0), (6, vi .i64 (j : Int)), (12, vb (decide ((j : Int) < (t.parts.length : Int))))] [(0, .box ([.d (.sl 3 (t.parts.map Part.d))] ++ zi t.k)), (1, .box [.d (.raw (.bool false)), .d (nsl [])]), (2, .box (zi out))] (by kernel_rfl) h ?_; clear h; intro a w h
    refine condS (decide ((j : Int) < (t.parts.length : Int))) h rfl (fun hc => ?_) (fun hc => ?_)
    · have hc1 := hc; clear hc
      have hc1' := of_decide_eq_true hc1
      refine wp_skip ?_
      refine then_n ?_
      refine wp_seq ?_
      refine wp_block ?_
      obtain ⟨x1, hx1⟩ : ∃ z_ : Part, t.parts[j]? = some z_ := ⟨_, List.getElem?_eq_getElem (by first | omega | (simp at *; omega))⟩
      obtain ⟨ox1, lx1⟩ := ht.get hx1
      rcases Bool.eq_false_or_eq_true (x1.v == v) with hc | hc
      · have hc2 := hc; clear hc
        have hc2' := hc2; (try simp at hc2')
        refine rSeq ta_ok 3 [(3, .gen _ _ _ fun _ _ _ _ => Op.idxD (d := 18) (t := 16) (k := .i64) ta_0 (map_at hx1 (f := Part.d)) (OV.tmp 17 _)), (7, .cmp (op := .eql) (m := x1.v) (n := v) (b := true) .i64 hc2)] [(1, vi .i64 v), (2, vp 0 0), (4, vp 1 0), (5, vp 2 0), (6, vi .i64 (j : Int)), (26, vb (decide (v ≥ 0)))] [(0, .box ([.d (.sl 3 (t.parts.map Part.d))] ++ zi t.k)), (1, .box [.d (.raw (.bool false)), .d (nsl [])]), (2, .box (zi out))] (by kernel_rfl) h ?_; clear h; intro a w h
        refine condS (decide (v ≥ 0)) h rfl (fun hc => ?_) (fun hc => ?_)
        · have hc3 := hc; clear hc
          have hc3' := of_decide_eq_true hc3
          obtain ⟨r2, er2, vr2, or2, lr2⟩ := mkZ (v := out.val + x1.c.val) (m := out.abs.length + x1.c.abs.length + 1) (len_add ho ox1)
          refine rS ta_ok 3 [(4, .gen _ _ _ fun _ _ _ _ => Op.idxD (d := 31) (t := 29) (k := .i64) ta_0 (map_at hx1 (f := Part.d)) (OV.tmp 30 _)), (7, .call (Fn.cast (SRAdd out x1.c ho ox1 (by omega) (by omega)) (congrArg vz er2.symm)) ta_1)] [(1, vi .i64 v), (2, vp 0 0), (4, vp 1 0), (5, vp 2 0), (6, vi .i64 (j : Int))] [(0, .box ([.d (.sl 3 (t.parts.map Part.d))] ++ zi t.k)), (1, .box [.d (.raw (.bool false)), .d (nsl [])]), (2, .box (zi r2))] (by kernel_rfl) h ?_; clear h; intro a w h
          refine block_n ?_
          refine then_n ?_
          refine rS ta_ok 3 [(1, .add .i64 (m := (j : Int)) (n := 1) (i64_id (by omega) (by omega)))] [(1, vi .i64 v), (2, vp 0 0), (4, vp 1 0), (5, vp 2 0), (6, vi .i64 ((j : Int) + 1))] [(0, .box ([.d (.sl 3 (t.parts.map Part.d))] ++ zi t.k)), (1, .box [.d (.raw (.bool false)), .d (nsl [])]), (2, .box (zi r2))] (by kernel_rfl) h ?_; clear h; intro a w h
          refine then_n ?_
          refine roundS (x := (j, out)) (y := (j + 1, r2)) h ?_ ?_ (by kernel_rfl) (by kernel_rfl)
          · have hc : x1.v = v ∧ 0 ≤ v := ⟨by simpa using hc2, by have := hc3'; omega⟩
            exact ⟨by rw [er2, vo, coefZ_take hx1, if_pos hc], by have := (List.getElem?_eq_some_iff.1 hx1).1; omega⟩
          · simp; omega
        · have hc4 := hc; clear hc
          have hc4' := of_decide_eq_false hc4
          refine wp_skip ?_
          refine block_n ?_
          refine then_n ?_
          refine rS ta_ok 3 [(1, .add .i64 (m := (j : Int)) (n := 1) (i64_id (by omega) (by omega)))] [(1, vi .i64 v), (2, vp 0 0), (4, vp 1 0), (5, vp 2 0), (6, vi .i64 ((j : Int) + 1))] [(0, .box ([.d (.sl 3 (t.parts.map Part.d))] ++ zi t.k)), (1, .box [.d (.raw (.bool false)), .d (nsl [])]), (2, .box (zi out))] (by kernel_rfl) h ?_; clear h; intro a w h
          refine then_n ?_
          refine roundS (x := (j, out)) (y := (j + 1, out)) h ?_ ?_ (by kernel_rfl) (by kernel_rfl)
          · exact ⟨by rw [hI1, coefZ_take hx1, if_neg (fun hc => absurd hc.2 (by have := hc4'; omega)), Int.add_zero], by have := (List.getElem?_eq_some_iff.1 hx1).1; omega⟩
          · simp; omega
      · have hc5 := hc; clear hc
        have hc5' := hc5; (try simp at hc5')
        refine rSeq ta_ok 3 [(3, .gen _ _ _ fun _ _ _ _ => Op.idxD (d := 18) (t := 16) (k := .i64) ta_0 (map_at hx1 (f := Part.d)) (OV.tmp 17 _)), (7, .cmp (op := .eql) (m := x1.v) (n := v) (b := false) .i64 hc5)] [(1, vi .i64 v), (2, vp 0 0), (4, vp 1 0), (5, vp 2 0), (6, vi .i64 (j : Int)), (26, vb false)] [(0, .box ([.d (.sl 3 (t.parts.map Part.d))] ++ zi t.k)), (1, .box [.d (.raw (.bool false)), .d (nsl [])]), (2, .box (zi out))] (by kernel_rfl) h ?_; clear h; intro a w h
        refine condS false h rfl (fun hc => ?_) (fun hc => ?_)
        · cases hc
        · clear hc
          refine wp_skip ?_
          refine block_n ?_
          refine then_n ?_
          refine rS ta_ok 3 [(1, .add .i64 (m := (j : Int)) (n := 1) (i64_id (by omega) (by omega)))] [(1, vi .i64 v), (2, vp 0 0), (4, vp 1 0), (5, vp 2 0), (6, vi .i64 ((j : Int) + 1))] [(0, .box ([.d (.sl 3 (t.parts.map Part.d))] ++ zi t.k)), (1, .box [.d (.raw (.bool false)), .d (nsl [])]), (2, .box (zi out))] (by kernel_rfl) h ?_; clear h; intro a w h
          refine then_n ?_
          refine roundS (x := (j, out)) (y := (j + 1, out)) h ?_ ?_ (by kernel_rfl) (by kernel_rfl)
          · exact ⟨by rw [hI1, coefZ_take hx1, if_neg (fun hc => absurd hc.1 (by simpa using hc5)), Int.add_zero], by have := (List.getElem?_eq_some_iff.1 hx1).1; omega⟩
          · simp; omega
    · have hc6 := hc; clear hc
      have hc6' := of_decide_eq_false hc6
      refine wp_exit ?_
      refine then_x ?_
      refine then_x ?_
      refine inBlock_exit ?_
      refine then_n ?_
      refine rSeq ta_ok 3 [] [(4, vp 1 0)] [(1, .box (zi out))] (by kernel_rfl) h ?_; clear h; intro a w h
      refine wp_ret ?_
      refine retS [.agg (zi out)] h Exit.ret (.inl rfl)  rfl ⟨RV.agg _ 1 0 _ _ _ _ ta_2 rfl rfl rfl rfl, trivial⟩ ?_ (by kernel_rfl) (by kernel_rfl)
      have hj : j = t.parts.length := by have := hc6'; omega
      subst hj
      rw [hI1, List.take_length]; first | done | rfl
end Go.Proofs.Ytekhnajfdaknnaa.S
