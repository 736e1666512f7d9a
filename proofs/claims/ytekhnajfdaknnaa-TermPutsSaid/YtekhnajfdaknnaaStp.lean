/-
  The plain one of a term, plainly: parts sorted and joined, without those that count nothing, are the parts of the variables that count.
-/
import Derived.Test.YtekhnajfdaknnaaTk
namespace Go.Proofs.Ytekhnajfdaknnaa.S

/-- a part joined to those ahead -/
def mrgStep (out : List Part) (p : Part) : List Part :=
  if p.v < 0 then out else match out[out.length - 1]? with
    | some q => if q.v = p.v then out.set (out.length - 1) ⟨q.v, ZI.of (q.c.val + p.c.val)⟩ else out ++ [⟨p.v, ZI.of p.c.val⟩]
    | none => out ++ [⟨p.v, ZI.of p.c.val⟩]
def mrgZ (s : List Part) : List Part := s.foldl mrgStep []
theorem mrgZ_snoc (s : List Part) (p : Part) : mrgZ (s ++ [p]) = mrgStep (mrgZ s) p := by simp [mrgZ, List.foldl_append]
theorem mrg_neg {out : List Part} {p : Part} (h : p.v < 0) : mrgStep out p = out := by simp [mrgStep, h]
theorem mrg_nil {out : List Part} {p : Part} (h : ¬ p.v < 0) (h0 : out.length = 0) : mrgStep out p = out ++ [⟨p.v, ZI.of p.c.val⟩] := by
  rw [len_nil h0]; simp [mrgStep, h]
theorem mrg_same {out : List Part} {p q : Part} {k : Nat} (h : ¬ p.v < 0) (hk : out.length = k + 1) (hq : out[k]? = some q) (hv : q.v = p.v) : mrgStep out p = out.set k ⟨q.v, ZI.of (q.c.val + p.c.val)⟩ := by
  have : out.length - 1 = k := by omega
  simp only [mrgStep, this, hq, if_neg h, if_pos hv]
theorem mrg_new {out : List Part} {p q : Part} {k : Nat} (h : ¬ p.v < 0) (hk : out.length = k + 1) (hq : out[k]? = some q) (hv : ¬ q.v = p.v) : mrgStep out p = out ++ [⟨p.v, ZI.of p.c.val⟩] := by
  have : out.length - 1 = k := by omega
  simp only [mrgStep, this, hq, if_neg h, if_neg hv]
/-- what is known of joined parts: bounds -/
def MOk (L j : Nat) (out : List Part) : Prop := ∀ q ∈ out, q.c = ZI.of q.c.val ∧ q.c.val.natAbs ≤ j * pw L
theorem MOk.lb {L j : Nat} {out : List Part} (h : MOk L j out) {q : Part} (hq : q ∈ out) (hj : j ≤ 1000) : Lb q.c.abs ∧ q.c.abs.length ≤ L + 1 := by
  obtain ⟨h1, h2⟩ := h q hq
  rw [h1]
  refine ⟨ZI.lb_of _, ZI.len_of ?_⟩
  have h3 : j * pw L ≤ 1000 * pw L := Nat.mul_le_mul_right _ hj
  have h4 := pw_pos L
  rw [pw_succ]; omega
theorem MOk.step {L j : Nat} {out : List Part} {p : Part} (h : MOk L j out) (hp : Lb p.c.abs ∧ p.c.abs.length ≤ L) : MOk L (j + 1) (mrgStep out p) := by
  have hp2 : p.c.val.natAbs ≤ pw L := by
    have h3 := ZI.abs_lt hp.1
    have h4 := pw_le hp.2
    omega
  have up : ∀ q ∈ out, q.c = ZI.of q.c.val ∧ q.c.val.natAbs ≤ (j + 1) * pw L := fun q hq => ⟨(h q hq).1, Nat.le_trans (h q hq).2 (Nat.mul_le_mul_right _ (Nat.le_succ j))⟩
  have new : ∀ q ∈ out ++ [(⟨p.v, ZI.of p.c.val⟩ : Part)], q.c = ZI.of q.c.val ∧ q.c.val.natAbs ≤ (j + 1) * pw L := by
    intro q hq
    rcases List.mem_append.1 hq with hq | hq
    · exact up q hq
    · rw [List.mem_singleton.1 hq]
      refine ⟨by rw [ZI.val_of], ?_⟩
      show (ZI.of p.c.val).val.natAbs ≤ _
      rw [ZI.val_of, Nat.add_mul]; omega
  intro q hq
  by_cases h1 : p.v < 0
  · rw [mrg_neg h1] at hq; exact up q hq
  rcases Nat.eq_zero_or_pos out.length with h0 | h0
  · rw [mrg_nil h1 h0] at hq; exact new q hq
  obtain ⟨k, hk⟩ : ∃ k, out.length = k + 1 := ⟨out.length - 1, by omega⟩
  have hk2 : out[k]? = some (out[k]'(by omega)) := List.getElem?_eq_getElem _
  by_cases hv : (out[k]'(by omega)).v = p.v
  · rw [mrg_same h1 hk hk2 hv] at hq
    rcases List.mem_or_eq_of_mem_set hq with hq | rfl
    · exact up q hq
    · have := (h _ (List.mem_of_getElem? hk2)).2
      refine ⟨by rw [ZI.val_of], ?_⟩
      show (ZI.of _).val.natAbs ≤ _
      rw [ZI.val_of, Nat.add_mul]; omega
  · rw [mrg_new h1 hk hk2 hv] at hq; exact new q hq

abbrev SR (l : List Part) : Prop := l.Pairwise fun p q => p.v < q.v
theorem coefZ_none {l : List Part} {v : Int} (h : ∀ q ∈ l, q.v ≠ v) : coefZ l v = 0 := by
  induction l with
  | nil => rfl
  | cons q l ih => simp only [coefZ]; rw [ih fun x hx => h x (by simp [hx]), if_neg fun e => h q (by simp) e.1]; rfl
theorem coefZ_one (p : Part) (v : Int) : coefZ [p] v = if p.v = v ∧ 0 ≤ v then p.c.val else 0 := by simp [coefZ]
theorem coefZ_filter (l : List Part) (v : Int) : coefZ (l.filter fun p => decide (p.v = v)) v = coefZ l v := by
  induction l with
  | nil => rfl
  | cons p l ih =>
    by_cases h : p.v = v
    · simp only [List.filter_cons, h, decide_true, if_true, coefZ, ih]
    · simp only [List.filter_cons, h, decide_false, Bool.false_eq_true, if_false, coefZ, ih, false_and, Int.zero_add]
theorem coefZ_stb {xs ys : List Part} (h : Stb Part.v xs ys) (v : Int) : coefZ xs v = coefZ ys v := by
  rw [← coefZ_filter xs, ← coefZ_filter ys, h v]
theorem coefZ_nz (l : List Part) (v : Int) : coefZ (l.filter fun p => !isZ p) v = coefZ l v := by
  induction l with
  | nil => rfl
  | cons p l ih =>
    cases h : isZ p with
    | true =>
      have h0 : p.c.val = 0 := by simp only [isZ] at h; exact sgn0_t h
      simp only [List.filter_cons, h, Bool.not_true, Bool.false_eq_true, if_false, coefZ, ih, h0]
      split <;> omega
    | false => simp only [List.filter_cons, h, Bool.not_false, if_true, coefZ, ih]
theorem SR.head {p : Part} {l : List Part} (s : SR (p :: l)) (h0 : 0 ≤ p.v) : coefZ (p :: l) p.v = p.c.val := by
  rw [coefZ, if_pos ⟨rfl, h0⟩, coefZ_none (fun q hq => by have := (List.pairwise_cons.1 s).1 q hq; omega), Int.add_zero]
theorem SR.below {p : Part} {l : List Part} {v : Int} (s : SR (p :: l)) (hv : v < p.v) : coefZ (p :: l) v = 0 := by
  refine coefZ_none fun q hq => ?_
  rcases List.mem_cons.1 hq with rfl | hq
  · omega
  · have := (List.pairwise_cons.1 s).1 q hq; omega
/-- lists of rising variables that count are known by how often each variable counts -/
theorem SR.unique : ∀ {l m : List Part}, SR l → SR m → (∀ q ∈ l, 0 ≤ q.v ∧ q.c = ZI.of q.c.val ∧ q.c.val ≠ 0) → (∀ q ∈ m, 0 ≤ q.v ∧ q.c = ZI.of q.c.val ∧ q.c.val ≠ 0) → (∀ v, coefZ l v = coefZ m v) → l = m
  | [], [], _, _, _, _, _ => rfl
  | p :: l, [], s1, _, h1, _, h => by
    have e := h p.v
    rw [s1.head (h1 p (by simp)).1] at e
    exact absurd e (h1 p (by simp)).2.2
  | [], q :: m, _, s2, _, h2, h => by
    have e := h q.v
    rw [s2.head (h2 q (by simp)).1] at e
    exact absurd e.symm (h2 q (by simp)).2.2
  | p :: l, q :: m, s1, s2, h1, h2, h => by
    obtain ⟨p0, p1, p2⟩ := h1 p (by simp)
    obtain ⟨q0, q1, q2⟩ := h2 q (by simp)
    rcases Int.lt_trichotomy p.v q.v with hv | hv | hv
    · have e := h p.v
      rw [s1.head p0, s2.below hv] at e
      exact absurd e p2
    · have e := h p.v
      rw [s1.head p0, hv, s2.head q0] at e
      have epq : p = q := by
        cases p; cases q
        simp only at hv e p1 q1
        subst hv
        rw [p1, q1, e]
      subst epq
      rw [SR.unique (List.pairwise_cons.1 s1).2 (List.pairwise_cons.1 s2).2 (fun x hx => h1 x (by simp [hx])) (fun x hx => h2 x (by simp [hx])) fun v => by
        have := h v
        simp only [coefZ] at this
        omega]
    · have e := h q.v
      rw [s2.head q0, s1.below hv] at e
      exact absurd e.symm q2
theorem SR.last {o : List Part} {q : Part} (h : SR (o ++ [q])) : ∀ x ∈ o, x.v < q.v := fun x hx => (List.pairwise_append.1 h).2.2 x hx q (by simp)
/-- sorted parts, joined -/
theorem mrgZ_ok (s : List Part) : Ris Part.v s → SR (mrgZ s) ∧ (∀ q ∈ mrgZ s, 0 ≤ q.v ∧ q.c = ZI.of q.c.val ∧ ∃ x ∈ s, x.v = q.v) ∧ ∀ v, coefZ (mrgZ s) v = coefZ s v := by
  refine rev_ind (P := fun s => Ris Part.v s → SR (mrgZ s) ∧ (∀ q ∈ mrgZ s, 0 ≤ q.v ∧ q.c = ZI.of q.c.val ∧ ∃ x ∈ s, x.v = q.v) ∧ ∀ v, coefZ (mrgZ s) v = coefZ s v) ?_ ?_ s
  · intro _
    exact ⟨List.Pairwise.nil, fun q hq => (by cases hq), fun v => rfl⟩
  · intro s p ih hR
    obtain ⟨r1, r2, r3⟩ := Ris.app.1 hR
    obtain ⟨i1, i2, i3⟩ := ih r1
    rw [mrgZ_snoc]
    have old : ∀ q ∈ mrgZ s, 0 ≤ q.v ∧ q.c = ZI.of q.c.val ∧ ∃ x ∈ s ++ [p], x.v = q.v := fun q hq => by
      obtain ⟨h1, h2, x, h3, h4⟩ := i2 q hq
      exact ⟨h1, h2, x, by simp [h3], h4⟩
    have le : ∀ q ∈ mrgZ s, q.v ≤ p.v := fun q hq => by
      obtain ⟨_, _, x, h3, h4⟩ := i2 q hq
      have := r3 x h3 p (by simp); omega
    have cs : ∀ v, coefZ (s ++ [p]) v = coefZ (mrgZ s) v + if p.v = v ∧ 0 ≤ v then p.c.val else 0 := fun v => by rw [coefZ_app, coefZ_one, i3 v]
    by_cases hn : p.v < 0
    · rw [mrg_neg hn]
      exact ⟨i1, old, fun v => by rw [cs v, if_neg (by omega), Int.add_zero]⟩
    rcases snoc_or (mrgZ s) with h0 | ⟨o, q, ho⟩
    · rw [mrg_nil hn (by rw [h0]; rfl), h0, List.nil_append]
      refine ⟨List.pairwise_singleton _ _, fun q hq => ?_, fun v => ?_⟩
      · rw [List.mem_singleton.1 hq]
        exact ⟨by show 0 ≤ p.v; omega, by rw [ZI.val_of], p, by simp, rfl⟩
      · rw [cs v, h0, coefZ_one]; simp [coefZ, ZI.val_of]
    · rw [ho] at i1 old le cs ⊢
      have hk : (o ++ [q]).length = o.length + 1 := by simp
      have hq : (o ++ [q])[o.length]? = some q := by simp
      have lq := le q (by simp)
      by_cases hv : q.v = p.v
      · rw [mrg_same hn hk hq hv, show (o ++ [q]).set o.length ⟨q.v, ZI.of (q.c.val + p.c.val)⟩ = o ++ [⟨q.v, ZI.of (q.c.val + p.c.val)⟩] by simp [List.set_append_right]]
        obtain ⟨j1, j2, j3⟩ := List.pairwise_append.1 i1
        refine ⟨List.pairwise_append.2 ⟨j1, List.pairwise_singleton _ _, fun a ha b hb => ?_⟩, fun x hx => ?_, fun v => ?_⟩
        · rw [List.mem_singleton.1 hb]; exact i1.last a ha
        · rcases List.mem_append.1 hx with hx | hx
          · exact old x (by simp [hx])
          · rw [List.mem_singleton.1 hx]
            exact ⟨by show 0 ≤ q.v; omega, by rw [ZI.val_of], p, by simp, hv.symm⟩
        · rw [cs v, coefZ_app, coefZ_app, coefZ_one, coefZ_one]
          simp only [ZI.val_of, hv]
          split <;> omega
      · rw [mrg_new hn hk hq hv]
        refine ⟨List.pairwise_append.2 ⟨i1, List.pairwise_singleton _ _, fun a ha b hb => ?_⟩, fun x hx => ?_, fun v => ?_⟩
        · rw [List.mem_singleton.1 hb]
          show a.v < p.v
          rcases List.mem_append.1 ha with ha | ha
          · have := i1.last a ha; omega
          · rw [List.mem_singleton.1 ha]; omega
        · rcases List.mem_append.1 hx with hx | hx
          · exact old x hx
          · rw [List.mem_singleton.1 hx]
            exact ⟨by show 0 ≤ p.v; omega, by rw [ZI.val_of], p, by simp, rfl⟩
        · rw [cs v, coefZ_app, coefZ_one]
          simp only [ZI.val_of]
/-- a rising list with a number, once, by recursion -/
def insR (v : Int) : List Int → List Int
  | [] => [v]
  | x :: l => if v ≤ x then v :: (x :: l).filter (fun y => decide (y ≠ v)) else x :: insR v l
theorem ins_full (v : Int) : ∀ (l acc : List Int), l.foldl (insStep v) (acc, true) = (acc ++ l.filter (fun y => decide (y ≠ v)), true)
  | [], acc => by simp
  | x :: l, acc => by
    have e : insStep v (acc, true) x = (if x ≠ v then (acc ++ [x], true) else (acc, true)) := by simp [insStep]
    rw [List.foldl_cons, e]
    by_cases h : x = v
    · rw [if_neg (fun g => g h), ins_full v l acc]; simp [h]
    · rw [if_pos h, ins_full v l (acc ++ [x])]; simp [h]
theorem insZ_R (v : Int) : ∀ (l acc : List Int), (if (l.foldl (insStep v) (acc, false)).2 = true then (l.foldl (insStep v) (acc, false)).1 else (l.foldl (insStep v) (acc, false)).1 ++ [v]) = acc ++ insR v l
  | [], acc => by simp [insR]
  | x :: l, acc => by
    rw [List.foldl_cons]
    by_cases h : v ≤ x
    · have e : insStep v (acc, false) x = (if x ≠ v then (acc ++ [v] ++ [x], true) else (acc ++ [v], true)) := by simp [insStep, h]
      by_cases h2 : x = v
      · rw [if_neg (fun g => g h2)] at e
        rw [e, ins_full]; simp [insR, h2]
      · rw [if_pos h2] at e
        rw [e, ins_full]; simp [insR, h, h2]
    · have h2 : x ≠ v := by omega
      have e : insStep v (acc, false) x = (acc ++ [x], false) := by simp [insStep, h, h2]
      rw [e, insZ_R v l (acc ++ [x])]
      simp [insR, h]
theorem insZ_eq (l : List Int) (v : Int) : insZ l v = insR v l := by have := insZ_R v l []; simpa [insZ] using this
abbrev SRi (l : List Int) : Prop := l.Pairwise fun x y => x < y
theorem insR_mem (v x : Int) : ∀ l : List Int, x ∈ insR v l ↔ x = v ∨ x ∈ l
  | [] => by simp [insR]
  | y :: l => by
    simp only [insR]
    split
    · simp only [List.mem_cons, List.mem_filter, decide_eq_true_eq]
      by_cases h : x = v <;> simp [h]
    · simp only [List.mem_cons, insR_mem v x l]
      constructor
      · rintro (h | h | h) <;> simp [h]
      · rintro (h | h | h) <;> simp [h]
theorem insR_sr (v : Int) : ∀ {l : List Int}, SRi l → SRi (insR v l)
  | [], _ => by simp [insR]
  | y :: l, h => by
    obtain ⟨h1, h2⟩ := List.pairwise_cons.1 h
    simp only [insR]
    split
    · rename_i hv
      refine List.pairwise_cons.2 ⟨fun z hz => ?_, h.filter _⟩
      obtain ⟨hz1, hz2⟩ := List.mem_filter.1 hz
      have hz2 : z ≠ v := by simpa using hz2
      rcases List.mem_cons.1 hz1 with rfl | hz1
      · omega
      · have := h1 z hz1; omega
    · refine List.pairwise_cons.2 ⟨fun z hz => ?_, insR_sr v h2⟩
      rcases (insR_mem v z l).1 hz with rfl | hz
      · omega
      · exact h1 z hz
theorem varsFold (ps : List Part) : ∀ (qs : List Part) (out : List Int), SRi out → SRi (qs.foldl (varStep ps) out) ∧ ∀ x, x ∈ qs.foldl (varStep ps) out ↔ x ∈ out ∨ ∃ q ∈ qs, q.v = x ∧ coefZ ps x ≠ 0
  | [], out, h => ⟨h, fun x => by simp⟩
  | q :: qs, out, h => by
    have h1 : SRi (varStep ps out q) := by
      unfold varStep
      split
      · rw [insZ_eq]; exact insR_sr _ h
      · exact h
    obtain ⟨i1, i2⟩ := varsFold ps qs _ h1
    refine ⟨i1, fun x => ?_⟩
    rw [List.foldl_cons, i2 x]
    have h2 : x ∈ varStep ps out q ↔ x ∈ out ∨ (q.v = x ∧ coefZ ps x ≠ 0) := by
      unfold varStep
      split
      · rename_i hc
        rw [insZ_eq, insR_mem]
        constructor
        · rintro (rfl | h)
          · exact .inr ⟨rfl, hc⟩
          · exact .inl h
        · rintro (h | ⟨rfl, _⟩)
          · exact .inr h
          · exact .inl rfl
      · rename_i hc
        constructor
        · exact .inl
        · rintro (h | ⟨rfl, h⟩)
          · exact h
          · exact absurd h hc
    rw [h2]
    constructor
    · rintro ((h | h) | ⟨p, hp, h⟩)
      · exact .inl h
      · exact .inr ⟨q, by simp, h⟩
      · exact .inr ⟨p, by simp [hp], h⟩
    · rintro (h | ⟨p, hp, h⟩)
      · exact .inl (.inl h)
      · rcases List.mem_cons.1 hp with rfl | hp
        · exact .inl (.inr h)
        · exact .inr ⟨p, hp, h⟩
theorem coefZ_some {ps : List Part} {v : Int} (h : coefZ ps v ≠ 0) : 0 ≤ v ∧ ∃ q ∈ ps, q.v = v := by
  refine ⟨Int.not_lt.1 fun hv => h ?_, ?_⟩
  · induction ps with
    | nil => rfl
    | cons p ps ih =>
      simp only [coefZ] at h ⊢
      rw [if_neg (by omega), Int.zero_add] at h ⊢
      exact ih h
  · exact Classical.byContradiction fun hq => h (coefZ_none fun q hq1 hq2 => hq ⟨q, hq1, hq2⟩)
theorem varsZ_ok (ps : List Part) : SRi (varsZ ps) ∧ ∀ x, x ∈ varsZ ps ↔ coefZ ps x ≠ 0 := by
  obtain ⟨h1, h2⟩ := varsFold ps ps [] List.Pairwise.nil
  refine ⟨h1, fun x => (h2 x).trans ⟨?_, fun h => ?_⟩⟩
  · rintro (h | ⟨_, _, _, h⟩)
    · cases h
    · exact h
  · obtain ⟨_, q, hq, e⟩ := coefZ_some h
    exact .inr ⟨q, hq, e, h⟩
def partOf (ps : List Part) (v : Int) : Part := ⟨v, ZI.of (coefZ ps v)⟩
theorem coefZ_map (ps : List Part) (v : Int) (hv : 0 ≤ v) : ∀ {l : List Int}, SRi l → coefZ (l.map (partOf ps)) v = if v ∈ l then coefZ ps v else 0
  | [], _ => rfl
  | x :: l, h => by
    obtain ⟨h1, h2⟩ := List.pairwise_cons.1 h
    simp only [List.map_cons, coefZ, coefZ_map ps v hv h2]
    by_cases e : x = v
    · subst e
      have : x ∉ l := fun hx => by have := h1 x hx; omega
      simp [partOf, hv, this, ZI.val_of]
    · have e' : ¬ v = x := fun g => e g.symm
      simp [partOf, e, e']
/-- the plain one of a term: what the program answers is what the reference answers -/
theorem plain_law (ps : List Part) : (mrgZ (ssV Part.v ps)).filter (fun p => !isZ p) = (varsZ ps).map (partOf ps) := by
  obtain ⟨m1, m2, m3⟩ := mrgZ_ok (ssV Part.v ps) (ssV_ris ps)
  obtain ⟨v1, v2⟩ := varsZ_ok ps
  refine SR.unique (m1.filter _) (List.pairwise_map.2 v1) (fun q hq => ?_) (fun q hq => ?_) fun v => ?_
  · obtain ⟨h1, h2⟩ := List.mem_filter.1 hq
    obtain ⟨h3, h4, _⟩ := m2 q h1
    refine ⟨h3, h4, fun e => ?_⟩
    have : isZ q = true := by simp [isZ, e, sgn_zero]
    rw [this] at h2; cases h2
  · obtain ⟨v, hv, rfl⟩ := List.mem_map.1 hq
    have hv := (v2 v).1 hv
    refine ⟨(coefZ_some hv).1, by simp [partOf, ZI.val_of], by simpa [partOf, ZI.val_of] using hv⟩
  · rw [coefZ_nz, m3 v, coefZ_stb (ssV_stb ps) v]
    by_cases hv : 0 ≤ v
    · rw [coefZ_map ps v hv v1]
      by_cases h : v ∈ varsZ ps
      · rw [if_pos h]
      · rw [if_neg h]
        exact Classical.byContradiction fun e => h ((v2 v).2 e)
    · have z1 : coefZ ps v = 0 := Classical.byContradiction fun e => hv (coefZ_some e).1
      have z2 : coefZ ((varsZ ps).map (partOf ps)) v = 0 := Classical.byContradiction fun e => hv (coefZ_some e).1
      rw [z1, z2]
end Go.Proofs.Ytekhnajfdaknnaa.S
