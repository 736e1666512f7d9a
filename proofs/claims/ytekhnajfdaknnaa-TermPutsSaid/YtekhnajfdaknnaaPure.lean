/-
  Plain lemmas on lists of limbs (base 2 to the 32, the lowest first): the value of a list, its trimmed form, comparison. No program.
-/
import Derived.WalkKit
namespace Go.Proofs.Ytekhnajfdaknnaa

def lim (zs : List Nat) (i : Nat) : Nat := zs.getD i 0
def Lb (zs : List Nat) : Prop := ∀ z ∈ zs, z < 4294967296
def pw (n : Nat) : Nat := 4294967296 ^ n
def val : List Nat → Nat
  | [] => 0
  | x :: xs => x + 4294967296 * val xs
/-- the value of the lowest k limbs -/
def vk (zs : List Nat) (k : Nat) : Nat := val (zs.take k)
def Canon (zs : List Nat) : Prop := Lb zs ∧ (0 < zs.length → lim zs (zs.length - 1) ≠ 0)

theorem pw_zero : pw 0 = 1 := rfl
theorem pw_succ (n : Nat) : pw (n + 1) = 4294967296 * pw n := by unfold pw; rw [Nat.pow_succ, Nat.mul_comm]
theorem pw_pos (n : Nat) : 0 < pw n := Nat.pow_pos (by omega)
theorem pw_add (m n : Nat) : pw (m + n) = pw m * pw n := Nat.pow_add _ _ _
theorem pw_le {m n : Nat} (h : m ≤ n) : pw m ≤ pw n := Nat.pow_le_pow_right (by omega) h

theorem lim_of_le {zs : List Nat} {i : Nat} (h : zs.length ≤ i) : lim zs i = 0 := by
  unfold lim; rw [List.getD_eq_getElem?_getD, List.getElem?_eq_none h]; rfl
theorem lim_lt {zs : List Nat} (h : Lb zs) (i : Nat) : lim zs i < 4294967296 := by
  by_cases hi : i < zs.length
  · have : lim zs i = zs[i] := by unfold lim; simp [List.getD_eq_getElem?_getD, hi]
    rw [this]; exact h _ (List.getElem_mem hi)
  · rw [lim_of_le (by omega)]; omega
theorem lim_nil (i : Nat) : lim [] i = 0 := by simp [lim]
theorem lim_take {zs : List Nat} {k i : Nat} (h : i < k) : lim (zs.take k) i = lim zs i := by
  unfold lim; simp [List.getD_eq_getElem?_getD, h]
theorem lim_drop (zs : List Nat) (k i : Nat) : lim (zs.drop k) i = lim zs (k + i) := by
  unfold lim; simp [List.getD_eq_getElem?_getD, List.getElem?_drop]
theorem lim_append_left {xs ys : List Nat} {i : Nat} (h : i < xs.length) : lim (xs ++ ys) i = lim xs i := by
  unfold lim; simp [List.getD_eq_getElem?_getD, List.getElem?_append_left h]
theorem lim_append_right {xs ys : List Nat} {i : Nat} (h : xs.length ≤ i) : lim (xs ++ ys) i = lim ys (i - xs.length) := by
  unfold lim; simp [List.getD_eq_getElem?_getD, List.getElem?_append_right h]
theorem lim_snoc (xs : List Nat) (x : Nat) : lim (xs ++ [x]) xs.length = x := by
  rw [lim_append_right (Nat.le_refl _)]; simp [lim]
theorem lim_map_at {zs : List Nat} {i : Nat} (h : i < zs.length) : zs[i]? = some (lim zs i) := by
  unfold lim; simp [List.getD_eq_getElem?_getD, h]
theorem list_ext_lim {xs ys : List Nat} (hl : xs.length = ys.length) (h : ∀ i, i < xs.length → lim xs i = lim ys i) : xs = ys := by
  apply List.ext_getElem? 
  intro i
  by_cases hi : i < xs.length
  · rw [lim_map_at hi, lim_map_at (by omega), h i hi]
  · rw [List.getElem?_eq_none (by omega), List.getElem?_eq_none (by omega)]

theorem val_nil : val [] = 0 := rfl
theorem val_cons (x : Nat) (xs : List Nat) : val (x :: xs) = x + 4294967296 * val xs := rfl
theorem val_append (xs ys : List Nat) : val (xs ++ ys) = val xs + pw xs.length * val ys := by
  induction xs with
  | nil => simp [val, pw]
  | cons x xs ih =>
    simp only [List.cons_append, val, List.length_cons, pw_succ, ih, Nat.mul_add, Nat.mul_assoc, Nat.add_assoc]
theorem val_snoc (xs : List Nat) (x : Nat) : val (xs ++ [x]) = val xs + pw xs.length * x := by
  rw [val_append]; simp [val]
theorem val_lt {xs : List Nat} (h : Lb xs) : val xs < pw xs.length := by
  induction xs with
  | nil => simp [val, pw]
  | cons x xs ih =>
    have h1 := h x (by simp)
    have h2 := ih (fun z hz => h z (by simp [hz]))
    simp only [val, List.length_cons, pw_succ]
    omega
theorem Lb_nil : Lb [] := fun _ h => by simp at h
theorem Lb_take {zs : List Nat} (h : Lb zs) (k : Nat) : Lb (zs.take k) := fun z hz => h z (List.mem_of_mem_take hz)
theorem Lb_drop {zs : List Nat} (h : Lb zs) (k : Nat) : Lb (zs.drop k) := fun z hz => h z (List.mem_of_mem_drop hz)
theorem Lb_append {xs ys : List Nat} (h : Lb xs) (k : Lb ys) : Lb (xs ++ ys) := fun z hz => by
  rcases List.mem_append.1 hz with a | a
  · exact h z a
  · exact k z a
theorem Lb_snoc {xs : List Nat} {x : Nat} (h : Lb xs) (k : x < 4294967296) : Lb (xs ++ [x]) := Lb_append h (fun z hz => by simp at hz; omega)
theorem vk_zero (zs : List Nat) : vk zs 0 = 0 := by simp [vk, val]
theorem vk_full {zs : List Nat} {k : Nat} (h : zs.length ≤ k) : vk zs k = val zs := by rw [vk, List.take_of_length_le h]
theorem vk_succ (zs : List Nat) (k : Nat) : vk zs (k + 1) = vk zs k + pw k * lim zs k := by
  by_cases h : k < zs.length
  · have : zs.take (k + 1) = zs.take k ++ [lim zs k] := by
      rw [List.take_add_one, lim_map_at h]
      rfl
    rw [vk, this, val_snoc, List.length_take, Nat.min_eq_left (by omega)]
    rfl
  · rw [vk_full (by omega), vk_full (by omega), lim_of_le (by omega)]; simp
theorem vk_lt {zs : List Nat} (h : Lb zs) (k : Nat) : vk zs k < pw k := by
  induction k with
  | zero => simp [vk_zero, pw]
  | succ k ih =>
    have h1 := lim_lt h k
    rw [vk_succ, pw_succ]
    have : pw k * lim zs k ≤ pw k * 4294967295 := Nat.mul_le_mul_left _ (by omega)
    omega
/-- the value above k limbs -/
theorem vk_split (zs : List Nat) (k : Nat) (h : k ≤ zs.length) : val zs = vk zs k + pw k * val (zs.drop k) := by
  have := val_append (zs.take k) (zs.drop k)
  rw [List.take_append_drop, List.length_take, Nat.min_eq_left h] at this
  exact this

/-- the length without the zeros at the end of the first n -/
def trimN (zs : List Nat) : Nat → Nat
  | 0 => 0
  | n + 1 => if lim zs n = 0 then trimN zs n else n + 1
theorem trimN_le (zs : List Nat) : ∀ n, trimN zs n ≤ n
  | 0 => Nat.le_refl _
  | n + 1 => by
    unfold trimN
    split
    · have := trimN_le zs n; omega
    · omega
theorem trimN_z {zs : List Nat} {n : Nat} (h : (((lim zs n : Nat) : Int) == 0) = true) : trimN zs (n + 1) = trimN zs n := by
  have : lim zs n = 0 := by simpa using h
  simp [trimN, this]
theorem trimN_nz {zs : List Nat} {n : Nat} (h : (((lim zs n : Nat) : Int) == 0) = false) : trimN zs (n + 1) = n + 1 := by
  have : lim zs n ≠ 0 := by simpa using h
  simp [trimN, this]
theorem trimN_last (zs : List Nat) : ∀ n, 0 < trimN zs n → lim zs (trimN zs n - 1) ≠ 0
  | 0 => by simp [trimN]
  | n + 1 => by
    unfold trimN
    split
    · exact trimN_last zs n
    · intro _; simpa using ‹_›
theorem vk_trimN (zs : List Nat) : ∀ n, vk zs (trimN zs n) = vk zs n
  | 0 => rfl
  | n + 1 => by
    unfold trimN
    split
    · rw [vk_trimN zs n, vk_succ, ‹lim zs n = 0›]; simp
    · rfl
/-- the trimmed list -/
def trm (zs : List Nat) : List Nat := zs.take (trimN zs zs.length)
theorem trm_length (zs : List Nat) : (trm zs).length = trimN zs zs.length := by
  unfold trm; rw [List.length_take]; exact Nat.min_eq_left (trimN_le _ _)
theorem trm_le (zs : List Nat) : (trm zs).length ≤ zs.length := by rw [trm_length]; exact trimN_le _ _
theorem val_trm (zs : List Nat) : val (trm zs) = val zs := by
  show vk zs (trimN zs zs.length) = _
  rw [vk_trimN, vk_full (Nat.le_refl _)]
theorem canon_trm {zs : List Nat} (h : Lb zs) : Canon (trm zs) := by
  refine ⟨Lb_take h _, ?_⟩
  intro hp
  rw [trm_length] at hp ⊢
  unfold trm
  rw [lim_take (by omega)]
  exact trimN_last _ _ hp
theorem canon_nil : Canon [] := ⟨Lb_nil, fun h => by simp at h⟩
theorem canon_ge {zs : List Nat} (h : Canon zs) (hp : 0 < zs.length) : pw (zs.length - 1) ≤ val zs := by
  have h1 := vk_succ zs (zs.length - 1)
  rw [Nat.sub_add_cancel hp, vk_full (Nat.le_refl _)] at h1
  have h2 := h.2 hp
  have : pw (zs.length - 1) * 1 ≤ pw (zs.length - 1) * lim zs (zs.length - 1) := Nat.mul_le_mul_left _ (by omega)
  omega
theorem canon_zero {zs : List Nat} (h : Canon zs) (hv : val zs = 0) : zs = [] := by
  rcases Nat.eq_zero_or_pos zs.length with h0 | hp
  · exact List.length_eq_zero_iff.1 h0
  · have := canon_ge h hp
    have := pw_pos (zs.length - 1)
    omega
theorem canon_len_lt {xs ys : List Nat} (hx : Lb xs) (hy : Canon ys) (h : xs.length < ys.length) : val xs < val ys := by
  have h1 := val_lt hx
  have h2 := canon_ge hy (by omega)
  have h3 : pw xs.length ≤ pw (ys.length - 1) := pw_le (by omega)
  omega
theorem val_inj {xs ys : List Nat} (hx : Lb xs) (hy : Lb ys) (hl : xs.length = ys.length) (h : val xs = val ys) : xs = ys := by
  induction xs generalizing ys with
  | nil => cases ys with
    | nil => rfl
    | cons y ys => simp at hl
  | cons x xs ih => cases ys with
    | nil => simp at hl
    | cons y ys =>
      have a := hx x (by simp)
      have b := hy y (by simp)
      simp only [val] at h
      have e1 : x = y := by omega
      have e2 : val xs = val ys := by omega
      rw [e1, ih (fun z hz => hx z (by simp [hz])) (fun z hz => hy z (by simp [hz])) (by simpa using hl) e2]
theorem canon_inj {xs ys : List Nat} (hx : Canon xs) (hy : Canon ys) (h : val xs = val ys) : xs = ys := by
  rcases Nat.lt_trichotomy xs.length ys.length with hl | hl | hl
  · have := canon_len_lt hx.1 hy hl; omega
  · exact val_inj hx.1 hy.1 hl h
  · have := canon_len_lt hy.1 hx hl; omega
theorem canon_short {zs : List Nat} {m n : Nat} (h : Canon zs) (hv : val zs = m) (hm : m < pw n) : zs.length ≤ n := by
  rcases Nat.lt_or_ge n zs.length with h1 | h1
  · have h2 := canon_ge h (by omega)
    have h3 : pw n ≤ pw (zs.length - 1) := pw_le (by omega)
    omega
  · exact h1
theorem canon_small {zs : List Nat} {m : Nat} (h : Canon zs) (hv : val zs = m) (hm : m < 340282366920938463463374607431768211456) : zs.length ≤ 4 :=
  canon_short h hv (show m < pw 4 from hm)
theorem canon_len {zs : List Nat} {n : Nat} (h : Canon zs) (hm : val zs < pw n) : zs.length ≤ n := canon_short h rfl hm
theorem val_lt_pw {xs : List Nat} {n : Nat} (h : Lb xs) (hn : xs.length ≤ n) : val xs < pw n := Nat.lt_of_lt_of_le (val_lt h) (pw_le hn)
theorem add_lt_pw {xs ys : List Nat} {n : Nat} (hx : Lb xs) (hy : Lb ys) (h1 : xs.length ≤ n) (h2 : ys.length ≤ n) : val xs + val ys < pw (n + 1) := by
  have a := val_lt_pw hx h1
  have b := val_lt_pw hy h2
  rw [pw_succ]; omega
/-- a literal is canonical -/
def canonB (zs : List Nat) : Bool := zs.all (fun z => decide (z < 4294967296)) && (zs.isEmpty || lim zs (zs.length - 1) != 0)
theorem canon_lit {zs : List Nat} (h : canonB zs = true) : Canon zs := by
  simp only [canonB, Bool.and_eq_true, List.all_eq_true, decide_eq_true_eq, Bool.or_eq_true, bne_iff_ne, List.isEmpty_iff] at h
  refine ⟨h.1, fun hp => ?_⟩
  rcases h.2 with e | e
  · rw [e] at hp; simp at hp
  · exact e
/-- carrying: what is written and what is handed on -/
theorem carry_step (p s : Nat) : p * (s % 4294967296) + 4294967296 * p * (s / 4294967296) = p * s := by
  have h : p * s = p * (4294967296 * (s / 4294967296) + s % 4294967296) := by rw [Nat.div_add_mod]
  rw [h, Nat.mul_add, Nat.mul_comm 4294967296 p, Nat.mul_assoc, Nat.add_comm]

/-- how two numbers stand -/
def cmpI (a b : Nat) : Int := if a < b then -1 else if b < a then 1 else 0
theorem cmpI_lt {a b : Nat} (h : a < b) : cmpI a b = -1 := by simp [cmpI, h]
theorem cmpI_gt {a b : Nat} (h : b < a) : cmpI a b = 1 := by simp [cmpI, h]; omega
theorem cmpI_eq {a b : Nat} (h : a = b) : cmpI a b = 0 := by simp [cmpI, h]
theorem cmpI_range (a b : Nat) : -1 ≤ cmpI a b ∧ cmpI a b ≤ 1 := by unfold cmpI; split; omega; split <;> omega
theorem cmpI_neg (a b : Nat) : cmpI a b = -cmpI b a := by unfold cmpI; split <;> split <;> omega
/-- limb by limb from above: equal so far -/
def upEq (xs ys : List Nat) (k : Nat) : Prop := ∀ i, k ≤ i → lim xs i = lim ys i
theorem upEq_val {xs ys : List Nat} {k : Nat} (h : upEq xs ys k) : ∃ r, val xs = vk xs k + r ∧ val ys = vk ys k + r := by
  have key : ∀ n, ∃ r, vk xs (k + n) = vk xs k + r ∧ vk ys (k + n) = vk ys k + r := by
    intro n
    induction n with
    | zero => exact ⟨0, rfl, rfl⟩
    | succ n ih =>
      obtain ⟨r, h1, h2⟩ := ih
      refine ⟨r + pw (k + n) * lim xs (k + n), ?_, ?_⟩
      · rw [← Nat.add_assoc, vk_succ, h1]; omega
      · rw [← Nat.add_assoc, vk_succ, h2, h (k + n) (by omega)]; omega
  obtain ⟨r, h1, h2⟩ := key (xs.length + ys.length)
  rw [vk_full (by omega)] at h1 h2
  exact ⟨r, h1, h2⟩
theorem upEq_lt {xs ys : List Nat} {k : Nat} (hx : Lb xs) (h : upEq xs ys (k + 1)) (hl : lim xs k < lim ys k) : val xs < val ys := by
  obtain ⟨r, h1, h2⟩ := upEq_val h
  have a := vk_lt hx k
  rw [vk_succ] at h1 h2
  have : pw k * (lim xs k + 1) ≤ pw k * lim ys k := Nat.mul_le_mul_left _ hl
  rw [Nat.mul_add] at this
  omega
theorem upEq_all {xs ys : List Nat} (h : upEq xs ys 0) : val xs = val ys := by
  obtain ⟨r, h1, h2⟩ := upEq_val h
  rw [vk_zero] at h1 h2
  omega
theorem upEq_start {xs ys : List Nat} {n : Nat} (h1 : xs.length ≤ n) (h2 : ys.length ≤ n) : upEq xs ys n := fun i hi => by
  rw [lim_of_le (by omega), lim_of_le (by omega)]
theorem upEq_down {xs ys : List Nat} {k : Nat} (h : upEq xs ys (k + 1)) (he : lim xs k = lim ys k) : upEq xs ys k := fun i hi => by
  rcases Nat.lt_or_ge k i with a | a
  · exact h i a
  · have : i = k := by omega
    rw [this, he]
theorem upEq_symm {xs ys : List Nat} {k : Nat} (h : upEq xs ys k) : upEq ys xs k := fun i hi => (h i hi).symm

theorem val_set {zs : List Nat} {i y : Nat} (h : i < zs.length) : val (zs.set i y) + pw i * lim zs i = val zs + pw i * y := by
  induction zs generalizing i with
  | nil => simp at h
  | cons x zs ih =>
    cases i with
    | zero => simp [val, pw, lim]; omega
    | succ i =>
      have := ih (i := i) (by simpa using h)
      have e : lim (x :: zs) (i + 1) = lim zs i := by simp [lim]
      rw [List.set_cons_succ, val_cons, val_cons, pw_succ, e, Nat.mul_assoc, Nat.mul_assoc]
      omega
theorem val_replicate_zero (n : Nat) : val (List.replicate n 0) = 0 := by
  induction n with
  | zero => rfl
  | succ n ih => rw [List.replicate_succ, val_cons, ih]
theorem lim_replicate_zero (n i : Nat) : lim (List.replicate n 0) i = 0 := by
  unfold lim
  rw [List.getD_eq_getElem?_getD, List.getElem?_replicate]
  split <;> rfl

theorem mul_lt_pw {x y m n : Nat} (hx : x < pw m) (hy : y < pw n) : x * y < pw (m + n) := by
  rw [pw_add]
  rcases Nat.eq_zero_or_pos y with h | h
  · subst h; have := Nat.mul_pos (pw_pos m) (pw_pos n); omega
  · exact Nat.lt_of_lt_of_le (Nat.mul_lt_mul_of_pos_right hx h) (Nat.mul_le_mul_left _ (Nat.le_of_lt hy))
theorem split_min (zs : List Nat) (k : Nat) : val zs = val (zs.take (min k zs.length)) + pw k * val (zs.drop (min k zs.length)) := by
  rcases Nat.le_total k zs.length with h | h
  · rw [Nat.min_eq_left h]; exact vk_split zs k h
  · rw [Nat.min_eq_right h, List.drop_length, List.take_length]; simp [val]

end Go.Proofs.Ytekhnajfdaknnaa
