/-
  Plain laws of long division (no program).
-/
import Derived.Test.YtehbfobfkpejoaaDivB
namespace Go.Proofs.Ytehbfobfkpejoaa

theorem vk_of_lt {zs : List Nat} {k : Nat} (h : val zs < pw k) : vk zs k = val zs := by
  by_cases hk : k ≤ zs.length
  · have h1 := vk_split zs k hk
    rcases Nat.eq_zero_or_pos (val (zs.drop k)) with h0 | h0
    · rw [h0] at h1; omega
    · have := Nat.mul_le_mul_left (pw k) h0
      omega
  · exact vk_full (by omega)
theorem lim_zero_of_lt {zs : List Nat} {k t : Nat} (h : val zs < pw k) (ht : k ≤ t) : lim zs t = 0 := by
  by_cases hk : t < zs.length
  · have h1 := vk_of_lt h
    have h2 : vk zs (t + 1) = val zs := vk_of_lt (Nat.lt_of_lt_of_le h (pw_le (by omega)))
    have h3 : vk zs t = val zs := vk_of_lt (Nat.lt_of_lt_of_le h (pw_le ht))
    rw [vk_succ, h3] at h2
    have h4 : pw t * lim zs t = 0 := by omega
    rcases Nat.mul_eq_zero.1 h4 with h5 | h5
    · have := pw_pos t; omega
    · exact h5
  · exact lim_of_le (by omega)
theorem lt_of_lims {zs : List Nat} (hl : Lb zs) {k : Nat} (h : ∀ t, k ≤ t → lim zs t = 0) : val zs < pw k := by
  have h1 : ∀ j, vk zs (k + j) = vk zs k := by
    intro j
    induction j with
    | zero => rfl
    | succ j ih => rw [← Nat.add_assoc, vk_succ, ih, h (k + j) (by omega)]; simp
  have h2 := h1 zs.length
  rw [vk_full (by omega)] at h2
  rw [h2]
  exact vk_lt hl k

theorem guess_fits {us ys : List Nat} {n i1 i2 g : Nat} (hu : Lb us) (hy : Lb ys) (hn : n = ys.length) (h1 : i1 + 1 = n) (h2 : i2 + 2 = n) (hf : 2147483648 ≤ lim ys i1) (hT : val us < val ys * 4294967296)
    (hg : gSpec (lim us n * 4294967296 + lim us i1) (lim us i2) (lim ys i1) (lim ys i2) g) : val us / val ys ≤ g ∧ g ≤ val us / val ys + 1 := by
  obtain rfl : i1 = i2 + 1 := by omega
  obtain rfl : n = i2 + 2 := by omega
  obtain ⟨g1, g2, g3⟩ := hg
  have hyp : val ys < pw (i2 + 2) := by rw [hn]; exact val_lt hy
  have hT2 : val us < pw (i2 + 3) := by
    rw [pw_succ]
    have := Nat.mul_le_mul_left 4294967296 (Nat.le_of_lt hyp)
    omega
  have eU := vk_of_lt hT2
  have eY := vk_of_lt hyp
  rw [vk_succ, vk_succ, vk_succ, pw_succ (i2 + 1), pw_succ i2] at eU
  rw [vk_succ, vk_succ, pw_succ i2] at eY
  have hlo := vk_lt hu i2
  have hdl := vk_lt hy i2
  generalize vk us i2 = lo at *
  generalize vk ys i2 = dl at *
  generalize pw i2 = P at *
  generalize lim us (i2 + 2) = un at *
  generalize lim us (i2 + 1) = u1 at *
  generalize lim us i2 = u2 at *
  generalize lim ys (i2 + 1) = first at *
  generalize lim ys i2 = d2 at *
  obtain ⟨U3, hU3⟩ : ∃ U3, U3 = (un * 4294967296 + u1) * 4294967296 + u2 := ⟨_, rfl⟩
  obtain ⟨V, hV⟩ : ∃ V, V = first * 4294967296 + d2 := ⟨_, rfl⟩
  rw [← hU3, ← hV] at g2 g3
  have eT : val us = lo + P * U3 := by
    rw [← eU, hU3]
    have e1 : P * ((un * 4294967296 + u1) * 4294967296 + u2) = P * u2 + 4294967296 * (P * u1) + 4294967296 * (4294967296 * (P * un)) := by
      rw [Nat.mul_add, Nat.add_mul, Nat.mul_add, ← Nat.mul_assoc P u1, ← Nat.mul_assoc P (un * 4294967296), ← Nat.mul_assoc P un]
      omega
    rw [e1, Nat.mul_assoc 4294967296 P u1, Nat.mul_assoc 4294967296 (4294967296 * P) un, Nat.mul_assoc 4294967296 P un]
    omega
  have eD : val ys = dl + P * V := by
    rw [← eY, hV, Nat.mul_add, ← Nat.mul_assoc P first, Nat.mul_assoc 4294967296 P first]
    omega
  have hVb : 4294967296 ≤ V := by omega
  have hP : 0 < P := by omega
  have hD : 0 < val ys := by
    have := Nat.mul_le_mul hP hVb
    omega
  constructor
  · refine Nat.le_of_lt_succ (Nat.div_lt_of_lt_mul ?_)
    rcases g3 with h | h
    · have e1 := Nat.mul_le_mul_left P (Nat.succ_le_of_lt h)
      have e2 : P * ((g + 1) * V) ≤ (g + 1) * val ys := by
        rw [Nat.mul_left_comm]
        exact Nat.mul_le_mul_left _ (by omega)
      have e3 : P * (U3 + 1) = P * U3 + P := Nat.mul_succ _ _
      rw [Nat.mul_comm (val ys)]
      simp only [Nat.succ_eq_add_one] at *
      omega
    · have := Nat.mul_le_mul_left (val ys) h
      simp only [Nat.succ_eq_add_one]
      omega
  · rcases g with _ | h
    · exact Nat.zero_le _
    · refine Nat.succ_le_succ ((Nat.le_div_iff_mul_le hD).2 ?_)
      have e1 := Nat.mul_le_mul_left P g2
      rw [Nat.succ_mul, Nat.mul_add] at e1
      have e2 : h * val ys = h * dl + P * (h * V) := by rw [eD, Nat.mul_add, Nat.mul_left_comm]
      have e3 : h * dl ≤ 4294967296 * P := Nat.mul_le_mul (by omega) (by omega)
      have e4 := Nat.mul_le_mul_left P hVb
      rw [Nat.mul_comm P 4294967296] at e4
      omega

/-- the top limb of the rest is no greater than that of the divisor -/
theorem top_le {us ys : List Nat} {n i1 : Nat} (hy : Lb ys) (hn : n = ys.length) (h1 : i1 + 1 = n) (hT : val us < val ys * 4294967296) : lim us n ≤ lim ys i1 := by
  subst h1
  have eY : vk ys (i1 + 1) = val ys := by rw [hn]; exact vk_full (Nat.le_refl _)
  rw [vk_succ] at eY
  have hdl := vk_lt hy i1
  have h3 : pw (i1 + 1) * lim us (i1 + 1) ≤ val us := by
    by_cases hk : i1 + 1 < us.length
    · have h5 := vk_split us (i1 + 1 + 1) (by omega)
      rw [vk_succ] at h5
      omega
    · rw [lim_of_le (by omega)]; simp
  rcases Nat.lt_or_ge (lim ys i1) (lim us (i1 + 1)) with h | h
  · have e1 := Nat.mul_le_mul_left (pw (i1 + 1)) (Nat.succ_le_of_lt h)
    rw [pw_succ] at e1 h3
    have e2 : 4294967296 * pw i1 * (lim ys i1).succ = 4294967296 * (pw i1 * lim ys i1) + 4294967296 * pw i1 := by rw [Nat.mul_succ, Nat.mul_assoc]
    omega
  · exact h

/-- one digit of the quotient: what taking away g times does -/
theorem took {zs zs1 ys : List Nat} {k g : Nat} (hz : Lb zs) (hk : k ≤ zs.length) (hT : val zs < val ys * pw (k + 1)) (hg : val (zs.drop k) / val ys ≤ g ∧ g ≤ val (zs.drop k) / val ys + 1)
    (hv : val zs1 + pw k * (g * val ys) = val zs) : val zs1 < val ys * pw k := by
  have h1 := vk_split zs k hk
  have h2 := vk_lt hz k
  have hD : 0 < val ys := by
    rcases Nat.eq_zero_or_pos (val ys) with h | h
    · rw [h] at hT; omega
    · exact h
  generalize val (zs.drop k) = T at *
  have h3 : T < (T / val ys + 1) * val ys := by
    have := Nat.lt_div_mul_add (a := T) hD
    rw [Nat.add_mul, Nat.one_mul]; exact this
  have h4 : T < (g + 1) * val ys := Nat.lt_of_lt_of_le h3 (Nat.mul_le_mul_right _ (by omega))
  have h5 := Nat.mul_le_mul_left (pw k) (Nat.succ_le_of_lt h4)
  rw [Nat.add_mul, Nat.one_mul, Nat.mul_add] at h5
  have h6 : pw k * T.succ = pw k * T + pw k := Nat.mul_succ _ _
  rw [Nat.mul_comm (val ys)]
  omega

theorem take_zero {zs zs1 ys : List Nat} {k g : Nat} (hz : Lb zs) (hz1 : Lb zs1) (hk : k ≤ zs.length) (hy : Lb ys) (hT : val zs < val ys * pw (k + 1))
    (hg : val (zs.drop k) / val ys ≤ g ∧ g ≤ val (zs.drop k) / val ys + 1) (hlim : ∀ t, k + ys.length < t → lim zs1 t = lim zs t)
    (hv : val zs1 + pw k * (g * val ys) = val zs + pw (k + (ys.length + 1))) : val zs1 < pw (k + (ys.length + 1)) ∧ 1 ≤ g ∧ g - 1 = val (zs.drop k) / val ys ∧ pw k * ((g - 1) * val ys) ≤ val zs := by
  have h0 : val zs < pw (k + (ys.length + 1)) := by
    have e : pw (k + (ys.length + 1)) = pw ys.length * pw (k + 1) := by rw [← pw_add]; congr 1; omega
    rw [e]
    exact Nat.lt_of_lt_of_le hT (Nat.mul_le_mul_right _ (Nat.le_of_lt (val_lt hy)))
  have hD : 0 < val ys := by
    rcases Nat.eq_zero_or_pos (val ys) with h | h
    · rw [h] at hT; omega
    · exact h
  have hz2 : val zs1 < pw (k + (ys.length + 1)) := lt_of_lims hz1 (fun t ht => by rw [hlim t (by omega)]; exact lim_zero_of_lt h0 ht)
  have h1 := vk_split zs k hk
  have h2 := vk_lt hz k
  generalize val (zs.drop k) = T at *
  have h3 : T < g * val ys := by
    rcases Nat.lt_or_ge T (g * val ys) with h | h
    · exact h
    · have := Nat.mul_le_mul_left (pw k) h
      omega
  have h4 : T / val ys < g := (Nat.div_lt_iff_lt_mul hD).2 h3
  have h6 := Nat.mul_le_mul_left (pw k) (Nat.div_mul_le_self T (val ys))
  generalize T / val ys = q at *
  have h5 : g - 1 = q := by have := hg.2; omega
  refine ⟨hz2, by omega, h5, ?_⟩
  rw [h5]
  omega

theorem put_val {zs zs1 zs2 ys : List Nat} {k g x : Nat} (hx : x ≤ 1) (hg : 1 ≤ g)
    (hv : val zs1 + pw k * (g * val ys) = val zs + pw (k + (ys.length + 1))) (hle : pw k * ((g - 1) * val ys) ≤ val zs) (h2 : val zs2 < pw (k + (ys.length + 1)))
    (hp : val zs2 + pw (k + (ys.length + 1)) * x = val zs1 + pw k * val ys) : val zs2 + pw k * ((g - 1) * val ys) = val zs := by
  obtain ⟨h, rfl⟩ : ∃ h, g = h + 1 := ⟨g - 1, by omega⟩
  rw [Nat.add_sub_cancel] at hle ⊢
  rw [Nat.succ_mul, Nat.mul_add] at hv
  rcases x with _ | x
  · omega
  · obtain rfl : x = 0 := by omega
    omega
end Go.Proofs.Ytehbfobfkpejoaa
