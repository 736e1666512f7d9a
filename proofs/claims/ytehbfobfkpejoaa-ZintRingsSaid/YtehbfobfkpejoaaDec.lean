/-
  Plain lemmas on decimal digits in a string. No program.
-/
import Derived.Test.YtehbfobfkpejoaaPure
namespace Go.Proofs.Ytehbfobfkpejoaa

/-- byte i of a string -/
def ch (s : ByteArray) (i : Nat) : Nat := (s.data.toList.map UInt8.toNat).getD i 0
def isd (s : ByteArray) (i : Nat) : Prop := 48 ≤ ch s i ∧ ch s i ≤ 57
/-- the value of the first k digits -/
def dvk (s : ByteArray) : Nat → Nat
  | 0 => 0
  | k + 1 => dvk s k * 10 + (ch s k - 48)
def alld (s : ByteArray) (k : Nat) : Prop := ∀ i, i < k → isd s i
instance (s : ByteArray) (i : Nat) : Decidable (isd s i) := inferInstanceAs (Decidable (_ ∧ _))
instance (s : ByteArray) (k : Nat) : Decidable (alld s k) := Nat.decidableBallLT k (fun i _ => isd s i)
/-- what a text is parsed as: an error's number, and the number -/
def parseV (s : ByteArray) : Int × Nat := if 4000 < s.size then (2, 0) else if s.size = 0 ∨ ¬ alld s s.size then (20, 0) else (0, dvk s s.size)
theorem parseV_long {s : ByteArray} (h : 4000 < s.size) : parseV s = (2, 0) := by simp [parseV, h]
theorem parseV_bad {s : ByteArray} (h : ¬ 4000 < s.size) (k : s.size = 0 ∨ ¬ alld s s.size) : parseV s = (20, 0) := by unfold parseV; rw [if_neg h, if_pos k]
theorem parseV_ok {s : ByteArray} (h : ¬ 4000 < s.size) (k : s.size ≠ 0) (d : alld s s.size) : parseV s = (0, dvk s s.size) := by unfold parseV; rw [if_neg h, if_neg (fun e => e.elim k (fun n => n d))]
theorem ch_lt (s : ByteArray) (i : Nat) : ch s i < 256 := by
  unfold ch
  rw [List.getD_eq_getElem?_getD, List.getElem?_map]
  cases s.data.toList[i]? with
  | none => simp
  | some c => simpa using UInt8.toNat_lt c
theorem dvk_succ (s : ByteArray) (k : Nat) : dvk s (k + 1) = dvk s k * 10 + (ch s k - 48) := rfl
theorem dvk_lt (s : ByteArray) (k : Nat) (h : alld s k) : dvk s k < 10 ^ k := by
  induction k with
  | zero => simp [dvk]
  | succ k ih =>
    have h1 := ih (fun i hi => h i (by omega))
    have h2 := h k (by omega)
    unfold isd at h2
    rw [dvk_succ, Nat.pow_succ]
    omega
/-- a power of 10 below 10^9 -/
def p10 (S : Nat) : Prop := S = 1 ∨ S = 10 ∨ S = 100 ∨ S = 1000 ∨ S = 10000 ∨ S = 100000 ∨ S = 1000000 ∨ S = 10000000 ∨ S = 100000000
theorem p10_le {S : Nat} (h : p10 S) : 1 ≤ S ∧ S ≤ 100000000 := by unfold p10 at h; omega
theorem p10_next {S : Nat} (h : p10 S) (hn : S * 10 ≠ 1000000000) : p10 (S * 10) := by unfold p10 at h ⊢; omega
theorem dig_step {V S P D d : Nat} (h : V * S + P = D) : V * (S * 10) + (P * 10 + d) = D * 10 + d := by
  rw [← h, ← Nat.mul_assoc, Nat.add_mul]; omega

/-! ### texts -/
def bytes (s : ByteArray) : List Nat := s.data.toList.map UInt8.toNat
theorem ch_bytes (s : ByteArray) (i : Nat) : ch s i = (bytes s).getD i 0 := rfl
theorem bytes_length (s : ByteArray) : (bytes s).length = s.size := by simp [bytes]
theorem bytes_inj {s t : ByteArray} (h : bytes s = bytes t) : s = t := by
  apply ByteArray.ext
  apply Array.toList_inj.1
  unfold bytes at h
  have h2 := congrArg (fun l => l.map UInt8.ofNat) h
  simpa [List.map_map, Function.comp_def] using h2
theorem bytes_append (s t : ByteArray) : bytes (s ++ t) = bytes s ++ bytes t := by
  unfold bytes; simp [ByteArray.data_append]
/-- the value of a list of decimal bytes, the highest first -/
def dvl (l : List Nat) : Nat := l.foldl (fun n c => n * 10 + (c - 48)) 0
theorem dvl_snoc (l : List Nat) (c : Nat) : dvl (l ++ [c]) = dvl l * 10 + (c - 48) := by simp [dvl]
theorem dvl_foldl (l : List Nat) : ∀ a, l.foldl (fun n c => n * 10 + (c - 48)) a = a * 10 ^ l.length + dvl l := by
  induction l with
  | nil => intro a; simp [dvl]
  | cons c l ih =>
    intro a
    have h1 := ih (a * 10 + (c - 48))
    have h2 := ih (0 * 10 + (c - 48))
    simp only [dvl, List.foldl_cons, List.length_cons] at h1 h2 ⊢
    rw [h1, h2, Nat.pow_succ, Nat.add_mul, Nat.mul_assoc a, Nat.mul_comm 10 (10 ^ l.length)]
    simp
    omega
theorem dvl_cons (c : Nat) (l : List Nat) : dvl (c :: l) = (c - 48) * 10 ^ l.length + dvl l := by
  have := dvl_foldl l (0 * 10 + (c - 48))
  simp only [dvl, List.foldl_cons] at this ⊢
  simpa using this
theorem dvk_take (s : ByteArray) (k : Nat) (h : k ≤ s.size) : dvk s k = dvl ((bytes s).take k) := by
  induction k with
  | zero => simp [dvk, dvl]
  | succ k ih =>
    have hk : k < (bytes s).length := by rw [bytes_length]; omega
    have h2 : (bytes s)[k]? = some (ch s k) := by
      rw [ch_bytes, List.getD_eq_getElem?_getD, List.getElem?_eq_getElem hk]; rfl
    rw [dvk_succ, ih (by omega), List.take_add_one, h2]
    exact (dvl_snoc _ _).symm
theorem dvk_all (s : ByteArray) : dvk s s.size = dvl (bytes s) := by
  rw [dvk_take s s.size (Nat.le_refl _), List.take_of_length_le (by rw [bytes_length]; omega)]
/-- all are decimal digits -/
def allD (l : List Nat) : Prop := ∀ c ∈ l, 48 ≤ c ∧ c ≤ 57
theorem alld_allD (s : ByteArray) : alld s s.size ↔ allD (bytes s) := by
  constructor
  · intro h c hc
    obtain ⟨i, hi, rfl⟩ := List.mem_iff_getElem.1 hc
    have := h i (by rw [bytes_length] at hi; exact hi)
    unfold isd at this
    rw [ch_bytes, List.getD_eq_getElem?_getD, List.getElem?_eq_getElem hi] at this
    simpa using this
  · intro h i hi
    have hl : i < (bytes s).length := by rw [bytes_length]; exact hi
    unfold isd
    rw [ch_bytes, List.getD_eq_getElem?_getD, List.getElem?_eq_getElem hl]
    exact h _ (List.getElem_mem hl)
theorem dvl_lt {l : List Nat} (h : allD l) : dvl l < 10 ^ l.length := by
  induction l with
  | nil => simp [dvl]
  | cons c l ih =>
    have h1 := ih (fun x hx => h x (by simp [hx]))
    have h2 := h c (by simp)
    rw [dvl_cons, List.length_cons, Nat.pow_succ]
    have : (c - 48) * 10 ^ l.length ≤ 9 * 10 ^ l.length := Nat.mul_le_mul_right _ (by omega)
    omega
/-- l is the decimal text of n: digits, no 0 ahead -/
def isT (l : List Nat) (n : Nat) : Prop := 0 < l.length ∧ allD l ∧ dvl l = n ∧ (1 < l.length → l.getD 0 0 ≠ 48)
theorem isT_ge {l : List Nat} {n : Nat} (h : isT l n) (h1 : 1 < l.length) : 10 ^ (l.length - 1) ≤ n := by
  obtain ⟨_, hd, hv, hz⟩ := h
  cases l with
  | nil => simp at h1
  | cons c l =>
    have hc := hd c (by simp)
    have h3 := hz h1
    simp at h3
    rw [← hv, dvl_cons]
    simp only [List.length_cons, Nat.add_sub_cancel]
    have : 1 * 10 ^ l.length ≤ (c - 48) * 10 ^ l.length := Nat.mul_le_mul_right _ (by omega)
    omega
theorem dvl_inj {l m : List Nat} (hl : allD l) (hm : allD m) (hlen : l.length = m.length) (h : dvl l = dvl m) : l = m := by
  induction l generalizing m with
  | nil => cases m with
    | nil => rfl
    | cons d m => simp at hlen
  | cons c l ih => cases m with
    | nil => simp at hlen
    | cons d m =>
      have hc := hl c (by simp)
      have hd := hm d (by simp)
      have hl' : allD l := fun x hx => hl x (by simp [hx])
      have hm' : allD m := fun x hx => hm x (by simp [hx])
      have hlen' : l.length = m.length := by simpa using hlen
      rw [dvl_cons, dvl_cons, hlen'] at h
      have h1 := dvl_lt hl'
      have h2 := dvl_lt hm'
      rw [hlen'] at h1
      have hcd : c = d := by
        rcases Nat.lt_trichotomy (c - 48) (d - 48) with k | k | k
        · have : (c - 48 + 1) * 10 ^ m.length ≤ (d - 48) * 10 ^ m.length := Nat.mul_le_mul_right _ k
          rw [Nat.add_mul] at this; omega
        · omega
        · have : (d - 48 + 1) * 10 ^ m.length ≤ (c - 48) * 10 ^ m.length := Nat.mul_le_mul_right _ k
          rw [Nat.add_mul] at this; omega
      subst hcd
      rw [ih hl' hm' hlen' (by omega)]
theorem isT_len_lt {l m : List Nat} {a b : Nat} (hl : isT l a) (hm : isT m b) (h : l.length < m.length) : a < b := by
  have h1 := dvl_lt hl.2.1
  rw [hl.2.2.1] at h1
  have h2 := isT_ge hm (by have := hl.1; omega)
  have h3 : 10 ^ l.length ≤ 10 ^ (m.length - 1) := Nat.pow_le_pow_right (by omega) (by omega)
  omega
theorem isT_inj {l m : List Nat} {a : Nat} (hl : isT l a) (hm : isT m a) : l = m := by
  rcases Nat.lt_trichotomy l.length m.length with h | h | h
  · have := isT_len_lt hl hm h; omega
  · exact dvl_inj hl.2.1 hm.2.1 h (hl.2.2.1.trans hm.2.2.1.symm)
  · have := isT_len_lt hm hl h; omega
theorem isT_short {l : List Nat} {n k : Nat} (h : isT l n) (hn : n < 10 ^ k) (hk : 0 < k) : l.length ≤ k := by
  rcases Nat.lt_or_ge 1 l.length with h1 | h1
  · have h2 := isT_ge h h1
    rcases Nat.lt_or_ge k l.length with h3 | h3
    · have : 10 ^ k ≤ 10 ^ (l.length - 1) := Nat.pow_le_pow_right (by omega) (by omega)
      omega
    · exact h3
  · omega
/-- a text as a string is parsed as its number -/
theorem parse_isT {s : ByteArray} {n : Nat} (h : isT (bytes s) n) (hl : s.size ≤ 4000) : parseV s = (0, n) := by
  have h1 := h.1
  rw [bytes_length] at h1
  rw [parseV_ok (by omega) (by omega) ((alld_allD s).2 h.2.1), dvk_all, h.2.2.1]
/-- the low digits, zeros at the end (of the number's text: ahead) are kept: D is lowest first -/
def lowD (D : List Nat) : Nat := match D with | [] => 0 | d :: D => (d - 48) + 10 * lowD D
theorem lowD_snoc (D : List Nat) (c : Nat) : lowD (D ++ [c]) = lowD D + 10 ^ D.length * (c - 48) := by
  induction D with
  | nil => simp [lowD]
  | cons d D ih => simp only [List.cons_append, lowD, ih, List.length_cons, Nat.pow_succ, Nat.mul_add]; rw [Nat.mul_comm (10 ^ D.length) 10, Nat.mul_assoc]; omega
theorem dvl_reverse (D : List Nat) : dvl D.reverse = lowD D := by
  induction D with
  | nil => rfl
  | cons d D ih => rw [List.reverse_cons, dvl_snoc, ih, lowD]; omega
/-- zeros ahead do not count -/
theorem dvl_zero {l : List Nat} (h : l.getD 0 0 = 48) : dvl l.tail = dvl l := by
  cases l with
  | nil => rfl
  | cons c l =>
    simp at h
    subst h
    rw [dvl_cons]; simp
theorem isT_zero : isT [48] 0 := ⟨by simp, by intro c hc; simp at hc; omega, rfl, by simp⟩

theorem parseV_err (s : ByteArray) : 0 ≤ (parseV s).1 ∧ (parseV s).1 ≤ 20 := by
  unfold parseV
  split
  · exact ⟨by decide, by decide⟩
  · split
    · exact ⟨by decide, by decide⟩
    · exact ⟨Int.le_refl 0, (show (0 : Int) ≤ 20 by decide)⟩
def isTB (l : List Nat) (n : Nat) : Bool := decide (0 < l.length) && l.all (fun c => decide (48 ≤ c) && decide (c ≤ 57)) && decide (dvl l = n) && (decide (l.length ≤ 1) || decide (l.getD 0 0 ≠ 48))
theorem isT_lit {l : List Nat} {n : Nat} (h : isTB l n = true) : isT l n := by
  simp only [isTB, Bool.and_eq_true, decide_eq_true_eq, List.all_eq_true, Bool.or_eq_true] at h
  obtain ⟨⟨⟨h1, h2⟩, h3⟩, h4⟩ := h
  exact ⟨h1, fun c hc => h2 c hc, h3, fun h => by rcases h4 with h4 | h4; omega; exact h4⟩
theorem isT_str {s t : ByteArray} {n : Nat} (h : isT (bytes s) n) (k : isT (bytes t) n) : s = t := bytes_inj (isT_inj h k)

theorem and31 (n : Int) : ∃ M : Int, bits BinOp.and .i64 n 31 = M ∧ 0 ≤ M ∧ M ≤ 31 := by
  refine ⟨_, rfl, ?_⟩
  show 0 ≤ IntKind.i64.wrap ((BitVec.ofInt 64 n &&& BitVec.ofInt 64 31).toNat : Int) ∧ IntKind.i64.wrap ((BitVec.ofInt 64 n &&& BitVec.ofInt 64 31).toNat : Int) ≤ 31
  have h : (BitVec.ofInt 64 n &&& BitVec.ofInt 64 31).toNat ≤ 31 := by
    rw [BitVec.toNat_and]
    exact Nat.le_trans Nat.and_le_right (by decide)
  rw [IntKind.wrap_i64]
  omega
/-- texts of one length stand as their numbers do -/
theorem bytesLess_dvl : ∀ (x y : List UInt8), allD (x.map UInt8.toNat) → allD (y.map UInt8.toNat) → x.length = y.length → Op.bytesLess x y = decide (dvl (x.map UInt8.toNat) < dvl (y.map UInt8.toNat))
  | [], [], _, _, _ => by simp [Op.bytesLess, dvl]
  | [], _ :: _, _, _, h => by simp at h
  | _ :: _, [], _, _, h => by simp at h
  | a :: x, b :: y, hx, hy, h => by
    have ih := bytesLess_dvl x y (fun c hc => hx c (by simp only [List.map_cons, List.mem_cons]; exact .inr hc)) (fun c hc => hy c (by simp only [List.map_cons, List.mem_cons]; exact .inr hc)) (by simpa using h)
    have ha := hx a.toNat (by simp)
    have hb := hy b.toNat (by simp)
    have hlx := dvl_lt (l := x.map UInt8.toNat) (fun c hc => hx c (by simp only [List.map_cons, List.mem_cons]; exact .inr hc))
    have hly := dvl_lt (l := y.map UInt8.toNat) (fun c hc => hy c (by simp only [List.map_cons, List.mem_cons]; exact .inr hc))
    have hlen : x.length = y.length := by simpa using h
    rw [List.length_map] at hlx hly
    rw [hlen] at hlx
    simp only [Op.bytesLess, List.map_cons, dvl_cons, List.length_map, hlen]
    rw [ih]
    generalize 10 ^ y.length = P at *
    generalize dvl (x.map UInt8.toNat) = X at *
    generalize dvl (y.map UInt8.toNat) = Y at *
    rcases Nat.lt_trichotomy a.toNat b.toNat with k | k | k
    · have e1 : decide (a < b) = true := decide_eq_true (UInt8.lt_iff_toNat_lt.2 k)
      have : (a.toNat - 48 + 1) * P ≤ (b.toNat - 48) * P := Nat.mul_le_mul_right _ (by omega)
      rw [Nat.add_mul] at this
      rw [e1, Bool.true_or, eq_comm, decide_eq_true_eq]; omega
    · have e1 : a = b := UInt8.toNat_inj.1 k
      subst e1
      have e2 : decide (a < a) = false := decide_eq_false (fun h => by have := UInt8.lt_iff_toNat_lt.1 h; omega)
      rw [e2, Bool.false_or, beq_self_eq_true, Bool.true_and]
      congr 1
      rw [eq_iff_iff]; omega
    · have e1 : decide (a < b) = false := decide_eq_false (fun h => by have := UInt8.lt_iff_toNat_lt.1 h; omega)
      have e2 : (a == b) = false := beq_eq_false_iff_ne.2 (fun h => by rw [h] at k; omega)
      have : (b.toNat - 48 + 1) * P ≤ (a.toNat - 48) * P := Nat.mul_le_mul_right _ (by omega)
      rw [Nat.add_mul] at this
      rw [e1, e2, Bool.false_and, Bool.or_false, eq_comm, decide_eq_false_iff_not]; omega
theorem less_isT {s t : ByteArray} {m n : Nat} (hs : isT (bytes s) m) (ht : isT (bytes t) n) (h : s.size = t.size) : Op.bytesLess s.toList t.toList = decide (m < n) := by
  rw [ByteArray.toList_eq, ByteArray.toList_eq, bytesLess_dvl _ _ hs.2.1 ht.2.1 (by simpa using h)]
  have e1 := hs.2.2.1
  have e2 := ht.2.2.1
  unfold bytes at e1 e2
  rw [e1, e2]
theorem eq_isT {s t : ByteArray} {m n : Nat} (hs : isT (bytes s) m) (ht : isT (bytes t) n) : (s.toList == t.toList) = decide (m = n) := by
  by_cases h : m = n
  · subst h
    rw [isT_str hs ht]; simp
  · rw [decide_eq_false h]
    refine beq_eq_false_iff_ne.2 (fun e => h ?_)
    rw [ByteArray.toList_eq, ByteArray.toList_eq] at e
    have : bytes s = bytes t := by unfold bytes; rw [e]
    rw [← hs.2.2.1, ← ht.2.2.1, this]
theorem isT_first {s : ByteArray} {n : Nat} (h : isT (bytes s) n) (h1 : 1 < s.size) : ch s 0 ≠ 48 := h.2.2.2 (by rw [bytes_length]; exact h1)

end Go.Proofs.Ytehbfobfkpejoaa
