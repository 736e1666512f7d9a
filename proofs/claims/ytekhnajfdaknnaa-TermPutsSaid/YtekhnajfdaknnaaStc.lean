/-
  Merging in place, plainly: what its searches find.
-/
import Derived.Test.YtekhnajfdaknnaaTe
namespace Go.Proofs.Ytekhnajfdaknnaa.S

/-- the key at a place of a row -/
def kat (l : List Part) (q : Nat) : Int := match l[q]? with | some x => x.v | none => 0
theorem kat_of {l : List Part} {q : Nat} {x : Part} (h : l[q]? = some x) : kat l q = x.v := by simp [kat, h]
theorem kat_app {pre X post : List Part} {q r : Nat} (h : q < X.length) (hr : r = pre.length + q) : kat (pre ++ X ++ post) r = kat X q := by
  subst hr
  simp only [kat]
  rw [List.append_assoc, List.getElem?_append_right (by omega), Nat.add_sub_cancel_left, List.getElem?_append_left h]
theorem ris_kat : ∀ {X : List Part}, Ris Part.v X → ∀ {p q : Nat}, p ≤ q → q < X.length → kat X p ≤ kat X q
  | [], _, _, _, _, hq => by simp at hq
  | x :: X, h, 0, 0, _, _ => Int.le_refl _
  | x :: X, h, 0, q + 1, _, hq => by
    have hq' : q < X.length := by simpa using hq
    have h1 := h.1 _ (List.getElem_mem hq')
    have e1 : kat (x :: X) 0 = x.v := kat_of rfl
    have e2 : kat (x :: X) (q + 1) = X[q].v := kat_of (by rw [List.getElem?_cons_succ]; exact List.getElem?_eq_getElem hq')
    rw [e1, e2]; exact h1
  | x :: X, h, p + 1, q + 1, hpq, hq => by
    have h1 := ris_kat h.2 (p := p) (q := q) (by omega) (by simpa using hq)
    simpa [kat] using h1
theorem part_at {X : List Part} {y : Part} (h : y ∈ X) : ∃ q, q < X.length ∧ kat X q = y.v := by
  obtain ⟨q, hq⟩ := List.mem_iff_getElem?.1 h
  exact ⟨q, (List.getElem?_eq_some_iff.1 hq).1, kat_of hq⟩
theorem kat_l {X Y : List Part} {q : Nat} (h : q < X.length) : kat (X ++ Y) q = kat X q := by simp only [kat]; rw [List.getElem?_append_left h]
theorem kat_r {X Y : List Part} {q : Nat} : kat (X ++ Y) (X.length + q) = kat Y q := by simp only [kat]; rw [List.getElem?_append_right (by omega), Nat.add_sub_cancel_left]
theorem len_nil {α : Type} {l : List α} (h : l.length = 0) : l = [] := List.length_eq_zero_iff.1 h
theorem sym3 {a1 a2 b1 b2 : List Part} (hX : Ris Part.v (a1 ++ a2)) (hY : Ris Part.v (b1 ++ b2)) (h1 : a1.length = 0 ∨ b2.length = 0 ∨ kat (a1 ++ a2) (a1.length - 1) ≤ kat (b1 ++ b2) b1.length) (h2 : a2.length = 0 ∨ b1.length = 0 ∨ kat (b1 ++ b2) (b1.length - 1) < kat (a1 ++ a2) a1.length) :
    ssV Part.v (a1 ++ b1) ++ ssV Part.v (a2 ++ b2) = ssV Part.v (a1 ++ a2 ++ (b1 ++ b2)) := by
  refine sym_merge hX hY (fun x hx y hy => ?_) (fun x hx y hy => ?_)
  · obtain ⟨q, hq, eq⟩ := part_at hx
    obtain ⟨r, hr, er⟩ := part_at hy
    rcases h1 with h | h | h
    · omega
    · omega
    · have g1 := ris_kat hX (p := q) (q := a1.length - 1) (by omega) (by rw [List.length_append]; omega)
      have g2 := ris_kat hY (p := b1.length) (q := b1.length + r) (by omega) (by rw [List.length_append]; omega)
      rw [kat_l hq] at g1
      rw [kat_r] at g2
      omega
  · obtain ⟨q, hq, eq⟩ := part_at hx
    obtain ⟨r, hr, er⟩ := part_at hy
    rcases h2 with h | h | h
    · omega
    · omega
    · have g1 := ris_kat hX (p := a1.length) (q := a1.length + q) (by omega) (by rw [List.length_append]; omega)
      have g2 := ris_kat hY (p := r) (q := b1.length - 1) (by omega) (by rw [List.length_append]; omega)
      rw [kat_r] at g1
      rw [kat_l hr] at g2
      omega
theorem sym1 {x : Part} {b1 b2 : List Part} (hY : Ris Part.v (b1 ++ b2)) (h1 : b1.length = 0 ∨ kat (b1 ++ b2) (b1.length - 1) < x.v) (h2 : b2.length = 0 ∨ x.v ≤ kat (b1 ++ b2) b1.length) : b1 ++ x :: b2 = ssV Part.v ([x] ++ (b1 ++ b2)) := by
  refine sym_left hY (fun y hy => ?_) (fun y hy => ?_)
  · obtain ⟨r, hr, er⟩ := part_at hy
    have g2 := ris_kat hY (p := b1.length) (q := b1.length + r) (by omega) (by rw [List.length_append]; omega)
    rw [kat_r] at g2
    rcases h2 with h | h <;> omega
  · obtain ⟨r, hr, er⟩ := part_at hy
    have g2 := ris_kat hY (p := r) (q := b1.length - 1) (by omega) (by rw [List.length_append]; omega)
    rw [kat_l hr] at g2
    rcases h1 with h | h <;> omega
theorem sym2 {y : Part} {a1 a2 : List Part} (hX : Ris Part.v (a1 ++ a2)) (h1 : a1.length = 0 ∨ kat (a1 ++ a2) (a1.length - 1) ≤ y.v) (h2 : a2.length = 0 ∨ y.v < kat (a1 ++ a2) a1.length) : a1 ++ y :: a2 = ssV Part.v (a1 ++ a2 ++ [y]) := by
  refine sym_right hX (fun x hx => ?_) (fun x hx => ?_)
  · obtain ⟨r, hr, er⟩ := part_at hx
    have g2 := ris_kat hX (p := r) (q := a1.length - 1) (by omega) (by rw [List.length_append]; omega)
    rw [kat_l hr] at g2
    rcases h1 with h | h <;> omega
  · obtain ⟨r, hr, er⟩ := part_at hx
    have g2 := ris_kat hX (p := a1.length) (q := a1.length + r) (by omega) (by rw [List.length_append]; omega)
    rw [kat_r] at g2
    rcases h2 with h | h <;> omega
theorem split_to {l : List Part} {n : Nat} (h : n ≤ l.length) : ∃ u v, l = u ++ v ∧ u.length = n := ⟨l.take n, l.drop n, (List.take_append_drop _ _).symm, by rw [List.length_take]; omega⟩
section
variable {pre X Y post : List Part}
theorem katX {q r : Nat} (h : q < X.length) (hr : r = pre.length + q) : kat (pre ++ X ++ Y ++ post) r = kat X q := by
  rw [show pre ++ X ++ Y ++ post = pre ++ X ++ (Y ++ post) by simp only [List.append_assoc]]; exact kat_app h hr
theorem katY {q r : Nat} (h : q < Y.length) (hr : r = pre.length + X.length + q) : kat (pre ++ X ++ Y ++ post) r = kat Y q :=
  kat_app (pre := pre ++ X) h (by rw [List.length_append]; exact hr)
/-- the place of the one element of the first part -/
theorem srch1 {i : Nat} (hX : X.length = 1) (hY : Ris Part.v Y) (l1 : pre.length + 1 ≤ i) (l2 : i ≤ pre.length + 1 + Y.length) (h1 : i = pre.length + 1 ∨ kat (pre ++ X ++ Y ++ post) (i - 1) < kat (pre ++ X ++ Y ++ post) pre.length) (h2 : i = pre.length + 1 + Y.length ∨ kat (pre ++ X ++ Y ++ post) pre.length ≤ kat (pre ++ X ++ Y ++ post) i) :
    ∃ x b1 b2, X = [x] ∧ Y = b1 ++ b2 ∧ i = pre.length + 1 + b1.length ∧ b1 ++ x :: b2 = ssV Part.v (X ++ Y) := by
  obtain ⟨x, rfl⟩ := List.length_eq_one_iff.1 hX
  obtain ⟨b1, b2, rfl, hb⟩ := split_to (l := Y) (n := i - (pre.length + 1)) (by omega)
  rw [List.length_append] at l2 h2
  refine ⟨x, b1, b2, rfl, rfl, by omega, sym1 hY ?_ ?_⟩
  · rcases h1 with h | h
    · exact .inl (by omega)
    · by_cases h0 : b1.length = 0
      · exact .inl h0
      · rw [katX (r := pre.length) (q := 0) (by simp) (by simp), katY (r := i - 1) (q := b1.length - 1) (by rw [List.length_append]; omega) (by simp; omega)] at h
        exact .inr h
  · rcases h2 with h | h
    · exact .inl (by omega)
    · by_cases h0 : b2.length = 0
      · exact .inl h0
      · rw [katX (r := pre.length) (q := 0) (by simp) (by simp), katY (r := i) (q := b1.length) (by rw [List.length_append]; omega) (by simp; omega)] at h
        exact .inr h
/-- the place of the one element of the second part -/
theorem srch2 {i : Nat} (hY : Y.length = 1) (hX : Ris Part.v X) (l1 : pre.length ≤ i) (l2 : i ≤ pre.length + X.length) (h1 : i = pre.length ∨ kat (pre ++ X ++ Y ++ post) (i - 1) ≤ kat (pre ++ X ++ Y ++ post) (pre.length + X.length)) (h2 : i = pre.length + X.length ∨ kat (pre ++ X ++ Y ++ post) (pre.length + X.length) < kat (pre ++ X ++ Y ++ post) i) :
    ∃ y a1 a2, Y = [y] ∧ X = a1 ++ a2 ∧ i = pre.length + a1.length ∧ a1 ++ y :: a2 = ssV Part.v (X ++ Y) := by
  obtain ⟨y, rfl⟩ := List.length_eq_one_iff.1 hY
  obtain ⟨a1, a2, rfl, hb⟩ := split_to (l := X) (n := i - pre.length) (by omega)
  have l2 : i ≤ pre.length + (a1.length + a2.length) := by rw [List.length_append] at l2; exact l2
  refine ⟨y, a1, a2, rfl, rfl, by omega, sym2 hX ?_ ?_⟩
  · rcases h1 with h | h
    · exact .inl (by omega)
    · by_cases h0 : a1.length = 0
      · exact .inl h0
      · rw [katY (r := pre.length + (a1 ++ a2).length) (q := 0) (by simp) (by simp), katX (r := i - 1) (q := a1.length - 1) (by rw [List.length_append]; omega) (by omega)] at h
        exact .inr h
  · rcases h2 with h | h
    · rw [List.length_append] at h; exact .inl (by omega)
    · by_cases h0 : a2.length = 0
      · exact .inl h0
      · rw [katX (r := i) (q := a1.length) (by rw [List.length_append]; omega) (by omega), katY (r := pre.length + (a1 ++ a2).length) (q := 0) (by simp) (by simp)] at h
        exact .inr h
/-- where both parts are cut -/
theorem srch3 {s e : Nat} (hX : Ris Part.v X) (hY : Ris Part.v Y) (l1 : pre.length ≤ s) (l2 : s ≤ pre.length + X.length) (l3 : pre.length + X.length ≤ e) (l4 : e ≤ pre.length + X.length + Y.length)
    (h1 : s = pre.length ∨ e = pre.length + X.length + Y.length ∨ kat (pre ++ X ++ Y ++ post) (s - 1) ≤ kat (pre ++ X ++ Y ++ post) e) (h2 : s = pre.length + X.length ∨ e = pre.length + X.length ∨ kat (pre ++ X ++ Y ++ post) (e - 1) < kat (pre ++ X ++ Y ++ post) s) :
    ∃ a1 a2 b1 b2, X = a1 ++ a2 ∧ Y = b1 ++ b2 ∧ s = pre.length + a1.length ∧ e = pre.length + X.length + b1.length ∧ ssV Part.v (a1 ++ b1) ++ ssV Part.v (a2 ++ b2) = ssV Part.v (X ++ Y) ∧ Ris Part.v a1 ∧ Ris Part.v a2 ∧ Ris Part.v b1 ∧ Ris Part.v b2 := by
  obtain ⟨a1, a2, rfl, ha⟩ := split_to (l := X) (n := s - pre.length) (by omega)
  obtain ⟨b1, b2, rfl, hb⟩ := split_to (l := Y) (n := e - (pre.length + (a1 ++ a2).length)) (by omega)
  have rX := Ris.app.1 hX
  have rY := Ris.app.1 hY
  have la : (a1 ++ a2).length = a1.length + a2.length := List.length_append
  have lb : (b1 ++ b2).length = b1.length + b2.length := List.length_append
  refine ⟨a1, a2, b1, b2, rfl, rfl, by omega, by omega, sym3 hX hY ?_ ?_, rX.1, rX.2.1, rY.1, rY.2.1⟩
  · by_cases g1 : a1.length = 0
    · exact .inl g1
    by_cases g2 : b2.length = 0
    · exact .inr (.inl g2)
    rcases h1 with h | h | h
    · omega
    · omega
    · rw [katX (r := s - 1) (q := a1.length - 1) (by omega) (by omega), katY (r := e) (q := b1.length) (by omega) (by omega)] at h
      exact .inr (.inr h)
  · by_cases g1 : a2.length = 0
    · exact .inl g1
    by_cases g2 : b1.length = 0
    · exact .inr (.inl g2)
    rcases h2 with h | h | h
    · omega
    · omega
    · rw [katX (r := s) (q := a1.length) (by omega) (by omega), katY (r := e - 1) (q := b1.length - 1) (by omega) (by omega)] at h
      exact .inr (.inr h)
end
/-- one element on its way up -/
theorem up_at {p q r : List Part} {x : Part} {t : Nat} (k : Nat) (hk : k = p.length + t) (ht : t ≤ q.length) : (p ++ q.take t ++ x :: (q.drop t ++ r))[k]? = some x := mid_at k (by rw [List.length_append, List.length_take]; omega)
theorem up_nx {p q r : List Part} {x y : Part} {t : Nat} (k : Nat) (hk : k = p.length + t + 1) (hy : q[t]? = some y) : (p ++ q.take t ++ x :: (q.drop t ++ r))[k]? = some y := by
  obtain ⟨ht, rfl⟩ := List.getElem?_eq_some_iff.1 hy
  have e : q.drop t = q[t] :: q.drop (t + 1) := List.drop_eq_getElem_cons ht
  have e2 : p ++ q.take t ++ x :: (q.drop t ++ r) = (p ++ q.take t ++ [x]) ++ q[t] :: (q.drop (t + 1) ++ r) := by rw [e]; simp only [List.append_assoc, List.cons_append, List.nil_append]
  rw [e2]
  exact mid_at k (by simp only [List.length_append, List.length_take, List.length_cons, List.length_nil]; omega)
theorem up_step {p q r : List Part} {x y : Part} {t : Nat} (k k1 : Nat) (hk : k = p.length + t) (hk1 : k1 = k + 1) (hy : q[t]? = some y) : ((p ++ q.take t ++ x :: (q.drop t ++ r)).set k y).set k1 x = p ++ q.take (t + 1) ++ x :: (q.drop (t + 1) ++ r) := by
  obtain ⟨ht, rfl⟩ := List.getElem?_eq_some_iff.1 hy
  have e : q.drop t = q[t] :: q.drop (t + 1) := List.drop_eq_getElem_cons ht
  have tx : q.take (t + 1) = q.take t ++ [q[t]] := by rw [List.take_add_one, List.getElem?_eq_getElem ht]; rfl
  have hl : k = (p ++ q.take t).length := by rw [List.length_append, List.length_take]; omega
  rw [e, tx, hk1, hl, List.set_append_right _ _ (Nat.le_refl _), Nat.sub_self, List.set_cons_zero, List.set_append_right _ _ (by omega), Nat.add_sub_cancel_left, List.cons_append, List.set_cons_succ, List.set_cons_zero]
  simp only [List.append_assoc, List.cons_append, List.nil_append]
theorem dn_step {p q r : List Part} {x y : Part} {t : Nat} (k k1 : Nat) (hk : k = p.length + t) (hk1 : k1 = k - 1) (ht : 0 < t) (hy : q[t - 1]? = some y) : ((p ++ q.take t ++ x :: (q.drop t ++ r)).set k y).set k1 x = p ++ q.take (t - 1) ++ x :: (q.drop (t - 1) ++ r) := by
  obtain ⟨t, rfl⟩ : ∃ s, t = s + 1 := ⟨t - 1, by omega⟩
  rw [Nat.add_sub_cancel] at hy ⊢
  obtain ⟨ht, rfl⟩ := List.getElem?_eq_some_iff.1 hy
  have e : q.drop t = q[t] :: q.drop (t + 1) := List.drop_eq_getElem_cons ht
  have tx : q.take (t + 1) = q.take t ++ [q[t]] := by rw [List.take_add_one, List.getElem?_eq_getElem ht]; rfl
  have hl : k = (p ++ q.take t).length + 1 := by rw [List.length_append, List.length_take]; omega
  have hl1 : k1 = (p ++ q.take t).length := by omega
  have e2 : p ++ (q.take t ++ [q[t]]) ++ x :: (q.drop (t + 1) ++ r) = (p ++ q.take t) ++ q[t] :: x :: (q.drop (t + 1) ++ r) := by simp only [List.append_assoc, List.cons_append, List.nil_append]
  rw [e, tx, e2, hl1, hl, List.set_append_right _ _ (by omega), Nat.add_sub_cancel_left, List.set_cons_succ, List.set_cons_zero, List.set_append_right _ _ (Nat.le_refl _), Nat.sub_self, List.set_cons_zero]
  simp only [List.append_assoc, List.cons_append, List.nil_append]
theorem dn_nx {p q r : List Part} {x y : Part} {t : Nat} (k : Nat) (hk : k + 1 = p.length + t) (ht : 0 < t) (hy : q[t - 1]? = some y) : (p ++ q.take t ++ x :: (q.drop t ++ r))[k]? = some y := by
  obtain ⟨t, rfl⟩ : ∃ s, t = s + 1 := ⟨t - 1, by omega⟩
  rw [Nat.add_sub_cancel] at hy
  obtain ⟨ht, rfl⟩ := List.getElem?_eq_some_iff.1 hy
  have tx : q.take (t + 1) = q.take t ++ [q[t]] := by rw [List.take_add_one, List.getElem?_eq_getElem ht]; rfl
  have e2 : p ++ q.take (t + 1) ++ x :: (q.drop (t + 1) ++ r) = (p ++ q.take t) ++ q[t] :: (x :: (q.drop (t + 1) ++ r)) := by rw [tx]; simp only [List.append_assoc, List.cons_append, List.nil_append]
  rw [e2]
  exact mid_at k (by simp only [List.length_append, List.length_take]; omega)
theorem half (x : Nat) : (x : Int).fdiv (2 ^ 1) = ((x / 2 : Nat) : Int) := by
  rw [Int.fdiv_eq_ediv_of_nonneg _ (by decide)]; omega
end Go.Proofs.Ytekhnajfdaknnaa.S
