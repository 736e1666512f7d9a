/-
  Plain lemmas: how many bits a number has; a number's bit; division bit by bit. No program.
-/
import Derived.Test.YtehbfobfkpejoaaRight
namespace Go.Proofs.Ytehbfobfkpejoaa

/-- how many bits a number has -/
def nb (v : Nat) : Nat := if v = 0 then 0 else v.log2 + 1
theorem nb_zero : nb 0 = 0 := rfl
theorem nb_eq {v k : Nat} (h1 : 2 ^ k ≤ v) (h2 : v < 2 ^ (k + 1)) : nb v = k + 1 := by
  have hv : v ≠ 0 := by have := Nat.two_pow_pos k; omega
  unfold nb
  rw [if_neg hv, (Nat.log2_eq_iff hv).2 ⟨h1, h2⟩]
theorem nb_lt (v : Nat) : v < 2 ^ nb v := by
  unfold nb
  split
  · omega
  · exact Nat.lt_log2_self
theorem nb_ge {v : Nat} (hv : v ≠ 0) : 1 ≤ nb v ∧ 2 ^ (nb v - 1) ≤ v := by
  unfold nb
  rw [if_neg hv]
  exact ⟨by omega, by simpa using Nat.log2_self_le hv⟩
theorem nb_half {v : Nat} (hv : v ≠ 0) : nb v = nb (v / 2) + 1 := by
  by_cases h1 : v = 1
  · subst h1; decide
  · obtain ⟨a, b⟩ := nb_ge (v := v / 2) (by omega)
    have c := nb_lt (v / 2)
    obtain ⟨k, hk⟩ : ∃ k, nb (v / 2) = k + 1 := ⟨nb (v / 2) - 1, by omega⟩
    rw [hk] at b c ⊢
    simp only [Nat.add_sub_cancel] at b
    refine nb_eq ?_ ?_
    · rw [Nat.pow_succ]; omega
    · rw [Nat.pow_succ]; omega
theorem nb_le {v k : Nat} (h : v < 2 ^ k) : nb v ≤ k := by
  by_cases hv : v = 0
  · subst hv; simp [nb]
  · obtain ⟨a, b⟩ := nb_ge hv
    have := (Nat.pow_lt_pow_iff_right (a := 2) (by omega)).1 (Nat.lt_of_le_of_lt b h)
    omega
theorem nb_pos_iff (v : Nat) : 0 < nb v ↔ v ≠ 0 := by
  constructor
  · intro h e; subst e; simp [nb] at h
  · intro h; have := nb_ge h; omega
theorem bl_nb {x : Nat} (h : x < 4294967296) : bl x = nb x := by
  by_cases h0 : x = 0
  · subst h0; rw [bl_zero]; rfl
  · obtain ⟨a, b, c, d⟩ := bl_spec h0 h
    obtain ⟨k, hk⟩ : ∃ k, bl x = k + 1 := ⟨bl x - 1, by omega⟩
    rw [hk] at c d ⊢
    simp only [Nat.add_sub_cancel] at c
    exact (nb_eq c d).symm
theorem pw_two (n : Nat) : pw n = 2 ^ (32 * n) := by
  unfold pw
  rw [show (4294967296 : Nat) = 2 ^ 32 from rfl, ← Nat.pow_mul]
/-- the bits of a number by its highest limb -/
theorem nb_canon {zs : List Nat} (h : Canon zs) (hp : 0 < zs.length) : nb (val zs) = 32 * (zs.length - 1) + nb (lim zs (zs.length - 1)) := by
  have h1 := vk_succ zs (zs.length - 1)
  rw [Nat.sub_add_cancel hp, vk_full (Nat.le_refl _)] at h1
  have h2 := vk_lt h.1 (zs.length - 1)
  have h3 := h.2 hp
  obtain ⟨x, hx⟩ : ∃ x, x = lim zs (zs.length - 1) := ⟨_, rfl⟩
  rw [← hx] at h1 h3 ⊢
  obtain ⟨a, b⟩ := nb_ge h3
  have c := nb_lt x
  obtain ⟨k, hk⟩ : ∃ k, nb x = k + 1 := ⟨nb x - 1, by omega⟩
  rw [hk] at b c ⊢
  simp only [Nat.add_sub_cancel] at b
  rw [pw_two] at h1 h2
  obtain ⟨P, hP⟩ : ∃ P, P = 2 ^ (32 * (zs.length - 1)) := ⟨_, rfl⟩
  rw [← Nat.add_assoc]
  have e1 : 2 ^ (32 * (zs.length - 1) + k) = P * 2 ^ k := by rw [Nat.pow_add, hP]
  have e2 : 2 ^ (32 * (zs.length - 1) + k + 1) = P * 2 ^ (k + 1) := by rw [Nat.add_assoc, Nat.pow_add, hP]
  rw [← hP] at h1 h2
  refine nb_eq ?_ ?_
  · rw [e1, h1]
    have := Nat.mul_le_mul_left P b
    omega
  · rw [e2, h1]
    have : P * (x + 1) ≤ P * 2 ^ (k + 1) := Nat.mul_le_mul_left P c
    rw [Nat.mul_add] at this
    omega
theorem nb_le_len {zs : List Nat} (h : Lb zs) {n : Nat} (hn : zs.length ≤ n) : nb (val zs) ≤ 32 * n := nb_le (by rw [← pw_two]; exact val_lt_pw h hn)

/-- a number's bit -/
def tb (v i : Nat) : Bool := decide (v / 2 ^ i % 2 = 1)
def tbn (v i : Nat) : Nat := v / 2 ^ i % 2
theorem tb_one {v i : Nat} (h : v / 2 ^ i % 2 = 1) : tb v i = true := decide_eq_true h
theorem tb_no {v i : Nat} (h : v / 2 ^ i % 2 ≠ 1) : tb v i = false := decide_eq_false h
theorem vd_any (zs : List Nat) (k : Nat) : vd zs k = lim zs k + 4294967296 * vd zs (k + 1) := by
  by_cases h : k < zs.length
  · exact vd_step h
  · rw [vd_end (by omega), vd_end (by omega), lim_of_le (by omega)]
theorem bit_lim {zs : List Nat} (h : Lb zs) (i : Nat) : val zs / 2 ^ i % 2 = lim zs (i / 32) / 2 ^ (i % 32) % 2 := by
  have e : 2 ^ i = pw (i / 32) * 2 ^ (i % 32) := by
    rw [pw_two, ← Nat.pow_add]; congr 1; omega
  rw [e, ← Nat.div_div_eq_div_mul, vd_div h, vd_any]
  have hr : i % 32 < 32 := Nat.mod_lt _ (by omega)
  obtain ⟨r, hr'⟩ : ∃ r, r = i % 32 := ⟨_, rfl⟩
  rw [← hr'] at hr ⊢
  have h32 : (4294967296 : Nat) = 2 ^ r * (2 * 2 ^ (31 - r)) := by
    have : 2 ^ r * (2 * 2 ^ (31 - r)) = 2 ^ (r + (31 - r) + 1) := by rw [Nat.pow_succ, Nat.pow_add, Nat.mul_comm 2, Nat.mul_assoc]
    rw [this, show r + (31 - r) + 1 = 32 by omega]
  rw [show 4294967296 * vd zs (i / 32 + 1) = 2 ^ r * (2 * (2 ^ (31 - r) * vd zs (i / 32 + 1))) by
    rw [← Nat.mul_assoc, ← Nat.mul_assoc, Nat.mul_assoc (2 ^ r), ← h32], Nat.add_mul_div_left _ _ (Nat.two_pow_pos r), Nat.add_mul_mod_self_left]
theorem tb_ge {zs : List Nat} (h : Lb zs) {i : Nat} (hi : 32 * zs.length ≤ i) : tb (val zs) i = false := by
  refine tb_no ?_
  rw [Nat.div_eq_of_lt (Nat.lt_of_lt_of_le (by have := val_lt h; rwa [pw_two] at this) (Nat.pow_le_pow_right (by omega) hi))]
  decide
/-- what stands above k bits, one bit more -/
theorem up_bit (v k : Nat) : v / 2 ^ k = 2 * (v / 2 ^ (k + 1)) + v / 2 ^ k % 2 := by
  rw [Nat.pow_succ, ← Nat.div_div_eq_div_mul]; omega
/-- one step of the division bit by bit -/
theorem div_bit_yes {t b x : Nat} (hb : 0 < b) (h : b ≤ 2 * (t % b) + x) (hx : x ≤ 1) : (2 * t + x) / b = 2 * (t / b) + 1 ∧ (2 * t + x) % b = 2 * (t % b) + x - b := by
  have h1 := Nat.div_add_mod t b
  have h2 := Nat.mod_lt t hb
  have e : 2 * t + x = (2 * (t % b) + x - b) + b * (2 * (t / b) + 1) := by
    rw [Nat.mul_add, Nat.mul_left_comm]
    omega
  rw [e, Nat.add_mul_div_left _ _ hb, Nat.add_mul_mod_self_left, Nat.div_eq_of_lt (by omega), Nat.mod_eq_of_lt (by omega)]
  exact ⟨by omega, rfl⟩
theorem div_bit_no {t b x : Nat} (hb : 0 < b) (h : 2 * (t % b) + x < b) : (2 * t + x) / b = 2 * (t / b) ∧ (2 * t + x) % b = 2 * (t % b) + x := by
  have h1 := Nat.div_add_mod t b
  have e : 2 * t + x = (2 * (t % b) + x) + b * (2 * (t / b)) := by
    rw [Nat.mul_left_comm]
    omega
  rw [e, Nat.add_mul_div_left _ _ hb, Nat.add_mul_mod_self_left, Nat.div_eq_of_lt h, Nat.mod_eq_of_lt h]
  exact ⟨by omega, rfl⟩
end Go.Proofs.Ytehbfobfkpejoaa
