/-
  Putting terms into terms, plainly: bounds; the first place of a number; what moves.
-/
import Derived.Test.YtekhnajfdaknnaaTn
import Derived.Test.YtekhnajfdaknnaaFr
namespace Go.Proofs.Ytekhnajfdaknnaa.S

theorem plain_congr {s t : Term} (h : ∀ v, coefZ s.parts v = coefZ t.parts v) (hk : s.k.val = t.k.val) : plainT s = plainT t := by
  obtain ⟨h1, h2, h3⟩ := plainT_parts t
  exact plainT_eq h1 h2 (fun v => (h v).trans (h3 v).symm) (by rw [hk]; rfl)
theorem coefZ_head {l : List Part} (hs : SR l) : ∀ p ∈ l, 0 ≤ p.v → coefZ l p.v = p.c.val := by
  induction l with
  | nil => intro p hp; cases hp
  | cons q l ih =>
    intro p hp h0
    obtain ⟨h1, h2⟩ := List.pairwise_cons.1 hs
    rcases List.mem_cons.1 hp with rfl | hp
    · exact SR.head hs h0
    · have := h1 p hp
      simp only [coefZ]
      rw [if_neg (by omega), ih h2 p hp h0, Int.zero_add]
/-- plain terms whose coefficients are bounded -/
structure Bd (n M : Nat) (t : Term) : Prop where
  pl : plainT t = t
  len : t.parts.length ≤ n
  cf : ∀ v, (coefZ t.parts v).natAbs ≤ M
  kf : t.k.val.natAbs ≤ M
theorem Bd.mono {n M n' M' : Nat} {t : Term} (h : Bd n M t) (hn : n ≤ n') (hM : M ≤ M') : Bd n' M' t := ⟨h.pl, Nat.le_trans h.len hn, fun v => Nat.le_trans (h.cf v) hM, Nat.le_trans h.kf hM⟩
theorem Bd.tok {n M L : Nat} {t : Term} (h : Bd n M t) (hL : M < pw L) : TOk n L t := by
  obtain ⟨p1, p2, _⟩ := plainT_parts t
  rw [h.pl] at p1 p2
  have hk : t.k = ZI.of t.k.val := by have := congrArg Term.k h.pl; rw [← this]; simp [plainT, ZI.val_of]
  refine ⟨h.len, fun p hp => ?_, by rw [hk]; exact ZI.lb_of _, by rw [hk]; exact ZI.len_of (by have := h.kf; omega)⟩
  obtain ⟨h0, h1, _⟩ := p2 p hp
  have h2 := h.cf p.v
  rw [coefZ_head p1 p hp h0] at h2
  rw [h1]
  exact ⟨ZI.lb_of _, ZI.len_of (by omega)⟩
theorem plainT_len (t : Term) : (plainT t).parts.length ≤ t.parts.length := by simp only [plainT, List.length_map]; exact varsZ_len _
theorem Bd.add {n m M M' : Nat} {s t : Term} (hs : Bd n M s) (ht : Bd m M' t) : Bd (n + m) (M + M') (addT s t) := by
  obtain ⟨_, _, h3⟩ := plainT_parts ⟨s.parts ++ t.parts, ZI.of (s.k.val + t.k.val)⟩
  refine ⟨plain_idem _, Nat.le_trans (plainT_len _) (by simp only [List.length_append]; have := hs.len; have := ht.len; omega), fun v => ?_, ?_⟩
  · show (coefZ (plainT _).parts v).natAbs ≤ _
    rw [h3 v, coefZ_app]; have := hs.cf v; have := ht.cf v; omega
  · simp only [addT, plainT, ZI.val_of]; have := hs.kf; have := ht.kf; omega
theorem coefZ_mul (ps : List Part) (q : Int) (v : Int) : coefZ (ps.map fun p => Part.mk p.v (ZI.of (p.c.val * q))) v = coefZ ps v * q := by
  induction ps with
  | nil => simp [coefZ]
  | cons p ps ih =>
    simp only [List.map_cons, coefZ, ih, ZI.val_of, Int.add_mul]
    split <;> simp
theorem Bd.scale {n M M' : Nat} {t : Term} {q : ZI} (hn : t.parts.length ≤ n) (hc : ∀ v, (coefZ t.parts v).natAbs ≤ M) (hk : t.k.val.natAbs ≤ M) (hq : q.val.natAbs ≤ M') : Bd n (M * M') (scaleT t q) := by
  obtain ⟨_, _, h3⟩ := plainT_parts (mulT t q)
  refine ⟨plain_idem _, Nat.le_trans (plainT_len _) (by simp only [mulT, List.length_map]; exact hn), fun v => ?_, ?_⟩
  · show (coefZ (plainT _).parts v).natAbs ≤ _
    rw [h3 v]
    show (coefZ (t.parts.map _) v).natAbs ≤ _
    rw [coefZ_mul, Int.natAbs_mul]
    exact Nat.mul_le_mul (hc v) hq
  · show (ZI.of _).val.natAbs ≤ _
    rw [ZI.val_of]
    show ((ZI.of _).val).natAbs ≤ _
    rw [ZI.val_of, Int.natAbs_mul]
    exact Nat.mul_le_mul hk hq
theorem Few1.cf {t : Term} (h : Few1 t) (hl : TLb t) (v : Int) : (coefZ t.parts v).natAbs ≤ 30 * pw 20 := by
  have h1 := coefZ_lt (L := 20) (ps := t.parts) (fun q hq => ⟨hl.2 q hq, h.2.2 q hq⟩) v
  have : t.parts.length * pw 20 ≤ 30 * pw 20 := Nat.mul_le_mul_right _ h.1
  omega
theorem Few1.kf {t : Term} (h : Few1 t) (hl : TLb t) : t.k.val.natAbs ≤ pw 20 := by
  have h1 := ZI.abs_lt hl.1
  have h2 := pw_le h.2.1
  omega
/-- the first place of a number in a list, or -1 -/
def idxI (v : Int) : List Int → Nat → Int
  | [], _ => -1
  | x :: xs, n => if v = x then n else idxI v xs (n + 1)
theorem idxI_at {v : Int} {xs : List Int} {j : Nat} {x : Int} (h : xs[j]? = some x) : idxI v (xs.drop j) j = if v = x then (j : Int) else idxI v (xs.drop (j + 1)) (j + 1) := by
  obtain ⟨hj, rfl⟩ := List.getElem?_eq_some_iff.1 h
  rw [List.drop_eq_getElem_cons hj]; rfl
theorem idxI_cases (v : Int) : ∀ (xs : List Int) (n : Nat), idxI v xs n = -1 ∨ ∃ k, k < xs.length ∧ idxI v xs n = ((n + k : Nat) : Int)
  | [], n => .inl rfl
  | x :: xs, n => by
    by_cases h : v = x
    · exact .inr ⟨0, by simp, by simp [idxI, h]⟩
    · rcases idxI_cases v xs (n + 1) with h1 | ⟨k, h1, h2⟩
      · exact .inl (by simp [idxI, h, h1])
      · exact .inr ⟨k + 1, by simp; omega, by simp only [idxI, if_neg h, h2]; omega⟩
/-- what stands in a variable's place -/
def pickT (vs : List Int) (bys : List Term) (v : Int) : Term :=
  match bys[(idxI v vs 0).toNat]? with
  | some b => if idxI v vs 0 < 0 then varT v else b
  | none => varT v
theorem pick_no {vs : List Int} {bys : List Term} {v : Int} (h : idxI v vs 0 < 0 ∨ (bys.length : Int) ≤ idxI v vs 0) : pickT vs bys v = varT v := by
  unfold pickT
  rcases h with h | h
  · cases bys[(idxI v vs 0).toNat]? <;> simp [h]
  · rw [List.getElem?_eq_none (by omega)]
theorem pick_yes {vs : List Int} {bys : List Term} {v : Int} {k : Nat} {b : Term} (h : idxI v vs 0 = (k : Int)) (hb : bys[k]? = some b) : pickT vs bys v = b := by
  unfold pickT
  rw [h, Int.toNat_natCast, hb]
  simp only
  rw [if_neg (by omega)]
def putStep (vs : List Int) (bys : List Term) (out : Term) (p : Part) : Term := addT out (scaleT (pickT vs bys p.v) p.c)
def putZ (t : Term) (vs : List Int) (bys : List Term) : Term := (plainT t).parts.foldl (putStep vs bys) (numT t.k)
/-- the reference looks from behind: what it has after places down to k -/
def downT (vs : List Int) (bys : List Term) (v : Int) (k : Nat) : Term := pickT (vs.drop k) (bys.drop k) v
theorem down_end (vs : List Int) (bys : List Term) (v : Int) : downT vs bys v vs.length = varT v := by
  unfold downT
  rw [List.drop_length]
  exact pick_no (.inl (show (-1 : Int) < 0 by decide))
theorem idxI_shift (v : Int) : ∀ (xs : List Int) (n : Nat), idxI v xs (n + 1) = if idxI v xs n < 0 then -1 else idxI v xs n + 1
  | [], n => by simp [idxI]
  | x :: xs, n => by
    by_cases h : v = x
    · simp only [idxI, h, if_true]; rw [if_neg (by omega)]; omega
    · simp only [idxI, if_neg h]; exact idxI_shift v xs (n + 1)
theorem down_no {vs : List Int} {bys : List Term} {v : Int} {k : Nat} {x : Int} (h : vs[k]? = some x) (hx : ¬ x = v) : downT vs bys v k = downT vs bys v (k + 1) := by
  obtain ⟨hk, rfl⟩ := List.getElem?_eq_some_iff.1 h
  have hi : idxI v (vs.drop k) 0 = if idxI v (vs.drop (k + 1)) 0 < 0 then -1 else idxI v (vs.drop (k + 1)) 0 + 1 := by
    rw [List.drop_eq_getElem_cons hk]
    simp only [idxI, if_neg (fun e => hx (Eq.symm e))]
    exact idxI_shift v _ 0
  unfold downT pickT
  rw [hi]
  by_cases h0 : idxI v (vs.drop (k + 1)) 0 < 0
  · simp only [if_pos h0]
    cases (bys.drop k)[(-1 : Int).toNat]? <;> cases (bys.drop (k + 1))[(idxI v (vs.drop (k + 1)) 0).toNat]? <;> simp
  · simp only [if_neg h0]
    have e1 : (idxI v (vs.drop (k + 1)) 0 + 1).toNat = (idxI v (vs.drop (k + 1)) 0).toNat + 1 := by omega
    have e2 : (bys.drop k)[(idxI v (vs.drop (k + 1)) 0).toNat + 1]? = (bys.drop (k + 1))[(idxI v (vs.drop (k + 1)) 0).toNat]? := by
      rw [List.getElem?_drop, List.getElem?_drop]; congr 1; omega
    rw [e1, e2]
    cases (bys.drop (k + 1))[(idxI v (vs.drop (k + 1)) 0).toNat]? with
    | none => rfl
    | some b => simp only; rw [if_neg (by omega)]
theorem down_by {vs : List Int} {bys : List Term} {v : Int} {k : Nat} {x : Int} {b : Term} (h : vs[k]? = some x) (hx : x = v) (hb : bys[k]? = some b) : downT vs bys v k = b := by
  obtain ⟨hk, rfl⟩ := List.getElem?_eq_some_iff.1 h
  unfold downT
  refine pick_yes (k := 0) ?_ (by rw [List.getElem?_drop]; exact hb)
  rw [List.drop_eq_getElem_cons hk]; simp [idxI, hx]
theorem down_var {vs : List Int} {bys : List Term} {v : Int} {k : Nat} {x : Int} (h : vs[k]? = some x) (hx : x = v) (hb : bys.length ≤ k) : downT vs bys v k = varT v := by
  obtain ⟨hk, rfl⟩ := List.getElem?_eq_some_iff.1 h
  unfold downT
  refine pick_no (.inr ?_)
  have : idxI v (vs.drop k) 0 = 0 := by rw [List.drop_eq_getElem_cons hk]; simp [idxI, hx]
  rw [this, List.drop_of_length_le hb]; simp
/-- how often a term's parts count, and the number: bounds for what is put in -/
def PkOk (t : Term) : Prop := TOk 30 20 t
theorem PkOk.cf {t : Term} (h : PkOk t) (v : Int) : (coefZ t.parts v).natAbs ≤ 30 * pw 20 := by
  have h1 := coefZ_lt (L := 20) (ps := t.parts) h.ps v
  have : t.parts.length * pw 20 ≤ 30 * pw 20 := Nat.mul_le_mul_right _ h.len
  omega
theorem PkOk.kf {t : Term} (h : PkOk t) : t.k.val.natAbs ≤ 30 * pw 20 := by
  have h1 := ZI.abs_lt h.kb
  have h2 := pw_le h.kl
  omega
theorem PkOk.var (v : Int) : PkOk (varT v) := ((TOk.one (v := v)).plain (by decide)).mono (by decide) (by decide)
theorem PkOk.pick {vs : List Int} {bys : List Term} (h : ∀ b ∈ bys, PkOk b) (v : Int) : PkOk (pickT vs bys v) := by
  unfold pickT
  split
  · rename_i b hb
    split
    · exact PkOk.var v
    · exact h b (List.mem_of_getElem? hb)
  · exact PkOk.var v
theorem PkOk.down {vs : List Int} {bys : List Term} (h : ∀ b ∈ bys, PkOk b) (v : Int) (k : Nat) : PkOk (downT vs bys v k) := PkOk.pick (fun b hb => h b (List.mem_of_mem_drop hb)) v
/-- a sum that grows by what is put in -/
theorem putStep_bd {n j : Nat} {vs : List Int} {bys : List Term} {out : Term} {p : Part} (ho : Bd n (j * pw 43) out) (hb : ∀ b ∈ bys, PkOk b) (hp : p.c.val.natAbs ≤ 30 * pw 20) : Bd (n + 30) ((j + 1) * pw 43) (putStep vs bys out p) := by
  have h1 := PkOk.pick (vs := vs) hb p.v
  have h2 := Bd.scale (q := p.c) h1.len h1.cf h1.kf hp
  refine (ho.add h2).mono (Nat.le_refl _) ?_
  rw [Nat.add_mul, Nat.one_mul]
  have : 30 * pw 20 * (30 * pw 20) ≤ pw 43 := by
    have e : pw 43 = pw 20 * pw 20 * pw 3 := by rw [← pw_add, ← pw_add]
    have h3 : 900 ≤ pw 3 := by decide
    have h4 : 30 * pw 20 * (30 * pw 20) = pw 20 * pw 20 * 900 := by
      rw [show 30 * pw 20 * (30 * pw 20) = (pw 20 * pw 20) * (30 * 30) by ac_rfl]
    rw [e, h4]
    exact Nat.mul_le_mul_left _ h3
  omega
/-! what moves -/
def movP (n : Int) (p : Part) : Part := ⟨p.v + n, p.c⟩
def clampN (n : Int) : Int := min (max n (-2147483648)) 2147483647
def movZ (t : Term) (n : Int) : Term := plainT ⟨(((plainT t).parts.filter fun p => !isFar n p).map (movP n)), ZI.of t.k.val⟩
theorem coefZ_mov (n : Int) : ∀ (ps : List Part) (w : Int), 0 ≤ w → (∀ p ∈ ps, 0 ≤ p.v) → coefZ (ps.map (movP n)) w = if 0 ≤ w - n then coefZ ps (w - n) else 0
  | [], w, _, _ => by simp [coefZ]
  | p :: ps, w, hw, h => by
    have ih := coefZ_mov n ps w hw fun q hq => h q (by simp [hq])
    have h0 := h p (by simp)
    simp only [List.map_cons, coefZ, ih, movP]
    by_cases h1 : 0 ≤ w - n
    · rw [if_pos h1, if_pos h1]
      congr 1
      by_cases h2 : p.v = w - n
      · rw [if_pos ⟨by omega, hw⟩, if_pos ⟨h2, h1⟩]
      · rw [if_neg (by omega), if_neg (fun e => h2 e.1)]
    · rw [if_neg h1, if_neg h1, if_neg (by omega)]; rfl
theorem coefZ_neg (l : List Part) {v : Int} (h : ¬ 0 ≤ v) : coefZ l v = 0 := Classical.byContradiction fun e => h (coefZ_some e).1
/-- what the reference moves: those that stay at least 0 -/
def keepR (n : Int) (p : Part) : Bool := decide (p.v ≤ 2147483647 - n) && decide (p.v ≥ 0 - n)
theorem coefZ_keep (n : Int) (ps : List Part) (hp : ∀ p ∈ ps, 0 ≤ p.v) (w : Int) : coefZ (((ps.filter fun p => !isFar n p)).map (movP n)) w = coefZ ((ps.filter (keepR n)).map (movP n)) w := by
  by_cases hw : 0 ≤ w
  · rw [coefZ_mov n _ w hw fun p h => hp p (List.mem_filter.1 h).1, coefZ_mov n _ w hw fun p h => hp p (List.mem_filter.1 h).1]
    split
    · rename_i h0
      induction ps with
      | nil => rfl
      | cons p ps ih =>
        have ih := ih fun q hq => hp q (by simp [hq])
        by_cases h1 : p.v ≤ 2147483647 - n
        · have e1 : isFar n p = false := by simp [isFar]; omega
          by_cases h2 : p.v ≥ 0 - n
          · have e2 : keepR n p = true := by simp [keepR]; omega
            simp only [List.filter_cons, e1, e2, Bool.not_false, if_true, coefZ, ih]
          · have e2 : keepR n p = false := by simp [keepR]; omega
            simp only [List.filter_cons, e1, e2, Bool.not_false, Bool.false_eq_true, if_true, if_false, coefZ, ih]
            rw [if_neg (by omega), Int.zero_add]
        · have e1 : isFar n p = true := by simp [isFar]; omega
          have e2 : keepR n p = false := by simp [keepR]; omega
          simp only [List.filter_cons, e1, e2, Bool.not_true, Bool.false_eq_true, if_false, ih]
    · rfl
  · rw [coefZ_neg _ hw, coefZ_neg _ hw]
/-- both answer the same -/
theorem mov_law (t : Term) (n : Int) (k : ZI) (hk : k.val = t.k.val) : plainT ⟨((plainT t).parts.filter (keepR n)).map (movP n), k⟩ = movZ t n := by
  refine (plain_congr (fun w => (coefZ_keep n _ (fun p hp => ((plainT_parts t).2.1 p hp).1) w).symm) ?_)
  show k.val = (ZI.of t.k.val).val
  rw [ZI.val_of, hk]
end Go.Proofs.Ytekhnajfdaknnaa.S
