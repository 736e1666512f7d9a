/-
  Stable sorting, plainly: lists of the same elements, those of one key in the same order; sorted lists of them are one.
-/
import Derived.Test.YtekhnajfdaknnaaSgn
namespace Go.Proofs.Ytekhnajfdaknnaa.S

section
variable {α : Type} (v : α → Int)
/-- the same elements, those of one key in the same order -/
def Stb (xs ys : List α) : Prop := ∀ k : Int, xs.filter (fun x => decide (v x = k)) = ys.filter (fun x => decide (v x = k))
/-- rising -/
def Ris : List α → Prop
  | [] => True
  | x :: xs => (∀ y ∈ xs, v x ≤ v y) ∧ Ris xs
/-- an element put behind those that are at most as great -/
def insV (x : α) : List α → List α
  | [] => [x]
  | y :: ys => if v x < v y then x :: y :: ys else y :: insV x ys
/-- sorted, equal ones in their order -/
def ssV (xs : List α) : List α := xs.foldl (fun l x => insV v x l) []
variable {v}
theorem Stb.refl (xs : List α) : Stb v xs xs := fun _ => rfl
theorem Stb.symm {xs ys : List α} (h : Stb v xs ys) : Stb v ys xs := fun k => (h k).symm
theorem Stb.trans {xs ys zs : List α} (h : Stb v xs ys) (g : Stb v ys zs) : Stb v xs zs := fun k => (h k).trans (g k)
theorem Stb.app {xs ys zs us : List α} (h : Stb v xs ys) (g : Stb v zs us) : Stb v (xs ++ zs) (ys ++ us) := fun k => by rw [List.filter_append, List.filter_append, h k, g k]
theorem Stb.mem {xs ys : List α} (h : Stb v xs ys) {x : α} (hx : x ∈ xs) : x ∈ ys := by
  have h1 : x ∈ xs.filter (fun y => decide (v y = v x)) := List.mem_filter.2 ⟨hx, by simp⟩
  rw [h (v x)] at h1
  exact (List.mem_filter.1 h1).1
/-- lists whose keys are apart change places -/
theorem Stb.swap {xs ys : List α} (h : ∀ x ∈ xs, ∀ y ∈ ys, v x ≠ v y) : Stb v (xs ++ ys) (ys ++ xs) := by
  intro k
  rw [List.filter_append, List.filter_append]
  by_cases hx : ∃ x ∈ xs, v x = k
  · obtain ⟨x, hx, rfl⟩ := hx
    have : ys.filter (fun y => decide (v y = v x)) = [] := List.filter_eq_nil_iff.2 fun y hy => by simpa using fun e => h x hx y hy e.symm
    rw [this]; simp
  · have : xs.filter (fun x => decide (v x = k)) = [] := List.filter_eq_nil_iff.2 fun x hx2 => by simpa using fun e => hx ⟨x, hx2, e⟩
    rw [this]; simp
theorem Stb.nil {ys : List α} (h : Stb v [] ys) : ys = [] := by
  cases ys with
  | nil => rfl
  | cons y ys => exact absurd (h.symm.mem (List.mem_cons_self ..)) (by simp)
/-- rising lists of the same elements are one -/
theorem Ris.unique : ∀ {xs ys : List α}, Ris v xs → Ris v ys → Stb v xs ys → xs = ys
  | [], ys, _, _, h => h.nil.symm
  | x :: xs, [], _, _, h => absurd (h.mem (List.mem_cons_self ..)) (by simp)
  | x :: xs, y :: ys, hx, hy, h => by
    have h1 : v y ≤ v x := by
      rcases List.mem_cons.1 (h.mem (List.mem_cons_self ..)) with e | e
      · rw [e]; exact Int.le_refl _
      · exact hy.1 x e
    have h2 : v x ≤ v y := by
      rcases List.mem_cons.1 (h.symm.mem (List.mem_cons_self ..)) with e | e
      · rw [e]; exact Int.le_refl _
      · exact hx.1 y e
    have hv : v x = v y := by omega
    have hk := h (v x)
    simp only [List.filter_cons, decide_true, hv, if_true] at hk
    injection hk with e1 _
    subst e1
    have ht : Stb v xs ys := by
      intro k
      have := h k
      simp only [List.filter_cons] at this
      split at this
      · injection this
      · exact this
    rw [Ris.unique hx.2 hy.2 ht]
theorem Ris.app {xs ys : List α} : Ris v (xs ++ ys) ↔ Ris v xs ∧ Ris v ys ∧ ∀ x ∈ xs, ∀ y ∈ ys, v x ≤ v y := by
  induction xs with
  | nil => simp [Ris]
  | cons x xs ih =>
    simp only [List.cons_append, Ris, ih, List.mem_append, List.mem_cons]
    constructor
    · rintro ⟨h1, h2, h3, h4⟩
      refine ⟨⟨fun y hy => h1 y (.inl hy), h2⟩, h3, ?_⟩
      rintro z (rfl | hz) y hy
      · exact h1 y (.inr hy)
      · exact h4 z hz y hy
    · rintro ⟨⟨h1, h2⟩, h3, h4⟩
      refine ⟨?_, h2, h3, fun z hz y hy => h4 z (.inr hz) y hy⟩
      rintro y (hy | hy)
      · exact h1 y hy
      · exact h4 x (.inl rfl) y hy
theorem insV_stb (x : α) : ∀ {ys : List α}, Ris v ys → Stb v (insV v x ys) (ys ++ [x])
  | [], _ => Stb.refl _
  | y :: ys, h => by
    unfold insV
    split
    · rename_i h1
      refine Stb.swap (xs := [x]) (ys := y :: ys) fun a ha b hb => ?_
      rw [List.mem_singleton.1 ha]
      rcases List.mem_cons.1 hb with rfl | hb
      · omega
      · have := h.1 b hb; omega
    · exact Stb.app (xs := [y]) (ys := [y]) (Stb.refl _) (insV_stb x h.2)
theorem insV_ris (x : α) : ∀ {ys : List α}, Ris v ys → Ris v (insV v x ys)
  | [], _ => ⟨fun _ h => (by cases h), trivial⟩
  | y :: ys, h => by
    unfold insV
    split
    · rename_i h1
      refine ⟨fun z hz => ?_, h⟩
      rcases List.mem_cons.1 hz with rfl | hz
      · omega
      · have := h.1 z hz; omega
    · rename_i h1
      refine ⟨fun z hz => ?_, insV_ris x h.2⟩
      have := (insV_stb x h.2).mem hz
      rcases List.mem_append.1 this with h2 | h2
      · exact h.1 z h2
      · rw [List.mem_singleton.1 h2]; omega
theorem ssV_snoc (xs : List α) (x : α) : ssV v (xs ++ [x]) = insV v x (ssV v xs) := by simp [ssV, List.foldl_append]
theorem rev_ind {P : List α → Prop} (h0 : P []) (h1 : ∀ xs x, P xs → P (xs ++ [x])) (xs : List α) : P xs := by
  have : ∀ n (xs : List α), xs.length = n → P xs := by
    intro n
    induction n with
    | zero => intro xs h; rw [List.length_eq_zero_iff.1 h]; exact h0
    | succ n ih =>
      intro xs h
      have hne : xs ≠ [] := fun e => by rw [e] at h; cases h
      rw [← List.dropLast_concat_getLast hne]
      exact h1 _ _ (ih _ (by rw [List.length_dropLast]; omega))
  exact this _ xs rfl
theorem ssV_ok (xs : List α) : Ris v (ssV v xs) ∧ Stb v (ssV v xs) xs := by
  refine rev_ind (P := fun xs => Ris v (ssV v xs) ∧ Stb v (ssV v xs) xs) ⟨trivial, Stb.refl _⟩ (fun xs x h => ?_) xs
  rw [ssV_snoc]
  exact ⟨insV_ris x h.1, (insV_stb x h.1).trans (h.2.app (Stb.refl _))⟩
theorem ssV_unique {xs ys : List α} (h : Ris v ys) (hs : Stb v ys xs) : ys = ssV v xs := h.unique (ssV_ok xs).1 (hs.trans (ssV_ok xs).2.symm)
theorem ssV_of {xs : List α} (h : Ris v xs) : ssV v xs = xs := (ssV_unique h (Stb.refl _)).symm
theorem Stb.length {xs ys : List α} : ∀ (n : Nat) (_ : xs.length = n) (_ : Stb v xs ys), xs.length = ys.length := by
  intro n
  induction n generalizing xs ys with
  | zero => intro h hs; rw [List.length_eq_zero_iff.1 h] at hs ⊢; rw [hs.nil]
  | succ n ih =>
    intro h hs
    cases xs with
    | nil => cases h
    | cons x xs =>
      have hx := hs.mem (List.mem_cons_self ..)
      obtain ⟨y1, y2, rfl, hn⟩ : ∃ y1 y2, ys = y1 ++ x :: y2 ∧ ∀ y ∈ y1, v y ≠ v x := by
        have hk := hs (v x)
        simp only [List.filter_cons, decide_true, if_true] at hk
        clear h hs ih hx
        induction ys with
        | nil => simp at hk
        | cons y ys ih2 =>
          by_cases e : v y = v x
          · simp only [List.filter_cons, e, decide_true, if_true] at hk
            injection hk with e1 _
            exact ⟨[], ys, by rw [e1]; rfl, by simp⟩
          · simp only [List.filter_cons, e, decide_false, Bool.false_eq_true, if_false] at hk
            obtain ⟨y1, y2, rfl, h2⟩ := ih2 hk
            exact ⟨y :: y1, y2, rfl, fun z hz => by rcases List.mem_cons.1 hz with rfl | hz; exact e; exact h2 z hz⟩
      have hs2 : Stb v (y1 ++ x :: y2) (x :: (y1 ++ y2)) := by
        have := (Stb.swap (v := v) (xs := y1) (ys := [x]) fun a ha b hb => by rw [List.mem_singleton.1 hb]; exact hn a ha).app (Stb.refl y2)
        simpa using this
      have hs3 := hs.trans hs2
      have ht : Stb v xs (y1 ++ y2) := by
        intro k
        have := hs3 k
        simp only [List.filter_cons] at this
        split at this
        · injection this
        · exact this
      have := ih (by simpa using h) ht
      simp only [List.length_cons, List.length_append] at this ⊢
      omega
theorem ssV_len (xs : List α) : (ssV v xs).length = xs.length := Stb.length _ rfl (ssV_ok xs).2
/-- two rising lists, each cut so that what is ahead goes ahead: merged by halves -/
theorem sym_merge {a1 a2 b1 b2 : List α} (ha : Ris v (a1 ++ a2)) (hb : Ris v (b1 ++ b2)) (h1 : ∀ x ∈ a1, ∀ y ∈ b2, v x ≤ v y) (h2 : ∀ x ∈ a2, ∀ y ∈ b1, v y < v x) : ssV v (a1 ++ b1) ++ ssV v (a2 ++ b2) = ssV v (a1 ++ a2 ++ (b1 ++ b2)) := by
  obtain ⟨_, _, ka⟩ := Ris.app.1 ha
  obtain ⟨_, _, kb⟩ := Ris.app.1 hb
  have s1 := ssV_ok (v := v) (a1 ++ b1)
  have s2 := ssV_ok (v := v) (a2 ++ b2)
  refine ssV_unique (Ris.app.2 ⟨s1.1, s2.1, fun x hx y hy => ?_⟩) ?_
  · rcases List.mem_append.1 (s1.2.mem hx) with hx | hx <;> rcases List.mem_append.1 (s2.2.mem hy) with hy | hy
    · exact ka x hx y hy
    · exact h1 x hx y hy
    · have := h2 y hy x hx; omega
    · exact kb x hx y hy
  · refine (s1.2.app s2.2).trans ?_
    have : Stb v (a1 ++ (b1 ++ a2) ++ b2) (a1 ++ (a2 ++ b1) ++ b2) := ((Stb.refl a1).app (Stb.swap fun x hx y hy => by have := h2 y hy x hx; omega)).app (Stb.refl b2)
    simpa [List.append_assoc] using this
/-- an element against a rising list: where it goes in -/
theorem sym_left {x : α} {b1 b2 : List α} (hb : Ris v (b1 ++ b2)) (h1 : ∀ y ∈ b2, v x ≤ v y) (h2 : ∀ y ∈ b1, v y < v x) : b1 ++ x :: b2 = ssV v ([x] ++ (b1 ++ b2)) := by
  obtain ⟨r1, r2, kb⟩ := Ris.app.1 hb
  refine ssV_unique (Ris.app.2 ⟨r1, ⟨h1, r2⟩, fun y hy z hz => ?_⟩) ?_
  · rcases List.mem_cons.1 hz with rfl | hz
    · have := h2 y hy; omega
    · exact kb y hy z hz
  · have : Stb v (b1 ++ [x] ++ b2) ([x] ++ b1 ++ b2) := (Stb.swap fun y hy z hz => by rw [List.mem_singleton.1 hz]; have := h2 y hy; omega).app (Stb.refl b2)
    simpa [List.append_assoc] using this
theorem sym_right {x : α} {a1 a2 : List α} (ha : Ris v (a1 ++ a2)) (h1 : ∀ y ∈ a1, v y ≤ v x) (h2 : ∀ y ∈ a2, v x < v y) : a1 ++ x :: a2 = ssV v (a1 ++ a2 ++ [x]) := by
  obtain ⟨r1, r2, ka⟩ := Ris.app.1 ha
  refine ssV_unique (Ris.app.2 ⟨r1, ⟨fun y hy => by have := h2 y hy; omega, r2⟩, fun y hy z hz => ?_⟩) ?_
  · rcases List.mem_cons.1 hz with rfl | hz
    · exact h1 y hy
    · exact ka y hy z hz
  · have : Stb v (a1 ++ ([x] ++ a2)) (a1 ++ (a2 ++ [x])) := (Stb.refl a1).app (Stb.swap fun y hy z hz => by rw [List.mem_singleton.1 hy]; have := h2 z hz; omega)
    simpa [List.append_assoc] using this
end
end Go.Proofs.Ytekhnajfdaknnaa.S
