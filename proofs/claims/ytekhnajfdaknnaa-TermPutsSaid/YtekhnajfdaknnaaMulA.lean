/-
  Contract of nat.school.
-/
import Derived.Test.YtekhnajfdaknnaaRefA
namespace Go.Proofs.Ytekhnajfdaknnaa
open Go.RowKit

/-- outer loop: i limbs of the one are done -/
def SchO (w : World) (xs ys : List Nat) (po : Option Addr) (pc : Nat) (i : Value) (wr : World) : Prop :=
  ∃ (k : Nat) (zs : List Nat), k ≤ xs.length ∧ i = .int .i64 k ∧ Hid (zs.length = xs.length + ys.length) ∧ Own wr w.heap.size po pc zs ∧ Ext w wr ∧ Hid (val zs = vk xs k * val ys) ∧ Hid (∀ t, k + ys.length ≤ t → lim zs t = 0)
/-- inner loop: j limbs of the other are done -/
def SchI (w : World) (n : Nat) (ys : List Nat) (po : Option Addr) (pc : Nat) (i x v0 : Nat) (cr j : Value) (wr : World) : Prop :=
  ∃ (k carry : Nat) (zs : List Nat), k ≤ ys.length ∧ j = .int .i64 k ∧ cr = .int .u64 carry ∧ carry < 4294967296 ∧ Hid (zs.length = n) ∧ Own wr w.heap.size po pc zs ∧ Ext w wr ∧ Hid (val zs + pw (i + k) * carry = v0 + pw i * (x * vk ys k)) ∧ Hid (∀ t, i + ys.length ≤ t → lim zs t = 0)

theorem sch_step {zs ys : List Nat} {i k x v0 carry s : Nat} (h : val zs + pw (i + k) * carry = v0 + pw i * (x * vk ys k)) (hz : i + k < zs.length) (hs : s = x * lim ys k + lim zs (i + k) + carry) :
    Hid (val (zs.set (i + k) (s % 4294967296)) + pw (i + (k + 1)) * (s / 4294967296) = v0 + pw i * (x * vk ys (k + 1))) := by
  unfold Hid
  have h1 := val_set (y := s % 4294967296) hz
  have h2 := carry_step (pw (i + k)) s
  have h3 : pw i * (x * vk ys (k + 1)) = pw i * (x * vk ys k) + pw (i + k) * (x * lim ys k) := by
    rw [vk_succ, Nat.mul_add, Nat.mul_add, pw_add]
    congr 1
    rw [← Nat.mul_assoc x, Nat.mul_comm x, Nat.mul_assoc (pw k), Nat.mul_assoc (pw i)]
  rw [← Nat.add_assoc i k 1, pw_succ, h3]
  have h4 : pw (i + k) * s = pw (i + k) * (x * lim ys k) + pw (i + k) * lim zs (i + k) + pw (i + k) * carry := by rw [hs, Nat.mul_add, Nat.mul_add]
  omega
theorem sch_round {zs xs ys : List Nat} {i v carry : Nat} (hv : v = vk xs i * val ys) (h : val zs + pw (i + ys.length) * carry = v + pw i * (lim xs i * vk ys ys.length)) (hz : i + ys.length < zs.length) (h0 : lim zs (i + ys.length) = 0) :
    Hid (val (zs.set (i + ys.length) carry) = vk xs (i + 1) * val ys) := by
  unfold Hid
  have h1 := val_set (y := carry) hz
  rw [h0] at h1
  rw [vk_full (Nat.le_refl _), hv] at h
  rw [vk_succ, Nat.add_mul, Nat.mul_assoc (pw i)]
  omega
theorem prod_lt {x y : Nat} (hx : x < 4294967296) (hy : y < 4294967296) : x * y ≤ 18446744065119617025 := by
  have h : x * y ≤ 4294967295 * 4294967295 := Nat.mul_le_mul (by omega) (by omega)
  omega

set_option maxRecDepth 100000 in
set_option maxHeartbeats 2000000 in
theorem school_any (ao : Option Addr) (n c : Nat) (xs : List Nat) (bo : Option Addr) (m d : Nat) (ys : List Nat) (w : World) (hn : n = xs.length) (hm : m = ys.length) (ha : Rd w ao c xs) (hb : Rd w bo d ys)
    (hl1 : xs.length ≤ 10000000) (hl2 : ys.length ≤ 10000000) :
    Calls Try.prog 77 #[.slice ao n c, .slice bo m d] w (GotN w (val xs * val ys)) := by
  subst hn hm
  have mA := ha.mx
  have mB := hb.mx
  have cA := ha.cap
  have cB := hb.cap
  go_enter Try.func77, Try.ntmps77
  go_wp2_with (at_make; refine mkf rfl _ _ rfl _ _ _ rfl rfl ?_ ?_ (Ext.refl w) ?_; omega; omega; intro w1 hown hx0 hext)
  have ec : ((xs.length : Int) + (ys.length : Int)).toNat = xs.length + ys.length := by omega
  rw [ec] at hown
  clear ec
  go_loopw [20] (SchO w xs ys (some ⟨w.heap.size, 0, none⟩) (xs.length + ys.length)) (fun i _ => (xs.length - intOf i).toNat)
  case atStart => exact ⟨0, _, by omega, rfl, by simp [Hid], hown, hext, by unfold Hid; rw [val_replicate_zero, vk_zero]; simp, fun t _ => lim_replicate_zero _ t⟩
  case round =>
    obtain ⟨i, zs, hi, rfl, hzl, hzo, hzx, hzv, hz0⟩ := hrel
    by_cases hiA : i < xs.length
    · have hx := (ha.ext hzx).cell i hiA
      have hix := ixk ha xs.length rfl i hiA wr
      have bx := lim_lt ha.lb i
      go_wp2_with fail
      go_loopw [8, 27] (SchI w (xs.length + ys.length) ys (some ⟨w.heap.size, 0, none⟩) (xs.length + ys.length) i (lim xs i) (val zs)) (fun _ j _ => (ys.length - intOf j).toNat)
      case atStart => exact ⟨0, 0, zs, by omega, rfl, rfl, by omega, hzl, hzo, hzx, by simp [Hid, vk_zero], hz0⟩
      case round =>
        obtain ⟨k, carry, qs, hk, rfl, rfl, hc, hql, hqo, hqx, hqv, hq0⟩ := hrel
        by_cases hkB : k < ys.length
        · have hy := (hb.ext hqx).cell k hkB
          have hiy := ixk hb ys.length rfl k hkB wr
          have bY := lim_lt hb.lb k
          have hkq : i + k < qs.length := by have := hql.out; omega
          have hqc := hqo.rd.cell (i + k) hkq
          have hiq := ixe hqo.rd (xs.length + ys.length) hql.out.symm ((i : Int) + (k : Int)) (i + k) (by omega) (by omega) wr
          have hf := hqo.frozen (by omega) (i + k)
          have bQ := lim_lt hqo.lb (i + k)
          have bp := prod_lt bx bY
          have hst := sch_step hqv.out hkq rfl
          obtain ⟨p, hp⟩ : ∃ p, p = lim xs i * lim ys k := ⟨_, rfl⟩
          rw [← hp] at bp hst
          have hp' : ((lim xs i : Nat) : Int) * ((lim ys k : Nat) : Int) = (p : Int) := by rw [hp, Int.natCast_mul]
          clear hp hqv
          go_wp2_with fail
          have hs1 := hqo.store (i + k) hkq (((p : Int) + (lim qs (i + k) : Int) + (carry : Int)) % 4294967296) ((p + lim qs (i + k) + carry) % 4294967296) (by omega) (by omega)
          go_roundw
          case rel => exact ⟨k + 1, (p + lim qs (i + k) + carry) / 4294967296, _, by omega, by go_num, by go_num, by omega, by unfold Hid; rw [List.length_set]; exact hql.out, hs1.1, hqx.store (show w.heap.size ≤ w.heap.size by omega) _, hst, fun t ht => by rw [lim_set_ne (by omega)]; exact hq0.out t ht⟩
          case measure => simp [intOf]; try omega
        · obtain rfl : k = ys.length := by omega
          have hkq : i + ys.length < qs.length := by have := hql.out; omega
          have hqc := hqo.rd.cell (i + ys.length) hkq
          have hiq := ixe hqo.rd (xs.length + ys.length) hql.out.symm ((i : Int) + (ys.length : Int)) (i + ys.length) (by omega) (by omega) wr
          have hf := hqo.frozen (by omega) (i + ys.length)
          have hst := sch_round hzv.out hqv.out hkq (hq0.out _ (Nat.le_refl _))
          clear hqv
          go_wp2_with fail
          have hs1 := hqo.store (i + ys.length) hkq (carry : Int) carry rfl hc
          go_roundw
          case rel => exact ⟨i + 1, _, by omega, by go_num, by unfold Hid; rw [List.length_set]; exact hql.out, hs1.1, hqx.store (show w.heap.size ≤ w.heap.size by omega) _, hst, fun t ht => by rw [lim_set_ne (by omega)]; exact hq0.out t (by omega)⟩
          case measure => simp [intOf]; try omega
    · have hv : val zs = val xs * val ys := by have := hzv.out; rwa [vk_full (by omega)] at this
      have Hv := Lib.hid hv
      clear hv hzv
      go_wp2_with fail
      refine (Trim_got _ _ _ zs _ hzl.out.symm hzo.rd (by have := hzl.out; omega)).mono ?_
      intro e w2 hg
      rw [Hv.out] at hg
      obtain ⟨ao3, c3, zs3, rfl, h3⟩ := hg.from hzx
      go_wp2_with fail
      go_ret
      exact ⟨ao3, c3, zs3, rfl, h3⟩

/-! ### pieces, up -/
theorem Rd.hi {w : World} {ao : Option Addr} {c : Nat} {zs : List Nat} (h : Rd w ao c zs) (k : Nat) (hk : k ≤ zs.length) : Rd w (if c = k then ao else ao.map (·.add k)) (c - k) (zs.drop k) := by
  have h1 := h.cap
  rcases Nat.lt_or_ge k zs.length with h2 | h2
  · obtain ⟨b, o, rfl⟩ := h.isAt (by omega)
    rw [if_neg (by omega)]
    have h3 := h.drop k hk
    have e : (some (⟨b, o, none⟩ : Addr)).map (·.add k) = some ⟨b, o + k, none⟩ := by
      simp only [Option.map_some, Addr.add]
      split
      · subst_vars; rfl
      · rfl
    rw [e]
    exact h3
  · have e : zs.drop k = [] := List.drop_eq_nil_of_le h2
    rw [e]
    refine ⟨Nat.zero_le _, Nat.le_trans (Nat.sub_le _ _) h.mx, ?_, Lb_nil, fun hp => by simp at hp, fun i hi => by simp at hi⟩
    intro hn
    by_cases hc : c = k
    · omega
    · rw [if_neg hc] at hn
      have := h.nl (by simpa using hn)
      omega
theorem Rd.nilAt (w : World) (ao : Option Addr) : Rd w ao 0 [] := ⟨Nat.le_refl _, by omega, fun _ => rfl, Lb_nil, fun h => by simp at h, fun i h => by simp at h⟩
theorem Rd.hiNe {w : World} {ao : Option Addr} {c : Nat} {zs : List Nat} (h : Rd w ao c zs) (k : Nat) (hk : k ≤ zs.length) (hne : ¬ c = k) : Rd w (ao.map (·.add k)) (c - k) (zs.drop k) := by
  have := h.hi k hk
  rwa [if_neg hne] at this
theorem Rd.lo {w : World} {ao : Option Addr} {c : Nat} {zs : List Nat} (h : Rd w ao c zs) (k : Nat) (hk : k ≤ zs.length) : Rd w (if k = 0 then ao else ao.map (·.add 0)) k (zs.take k) := by
  have h1 := h.take k hk k (by rw [List.length_take]; omega) (Nat.le_trans hk h.cap)
  have e : (if k = 0 then ao else ao.map (·.add 0)) = ao := by
    split
    · rfl
    · cases ao with
      | none => rfl
      | some a => rfl
  rw [e]; exact h1

def GotPieces (w : World) (xs : List Nat) (k : Nat) (e : Ending) (w' : World) : Prop :=
  ∃ lo lc ho hc, e = .returned (.tuple #[.slice lo (xs.take k).length lc, .slice ho (xs.drop k).length hc]) ∧ Rd w' lo lc (xs.take k) ∧ Rd w' ho hc (xs.drop k) ∧ Qt w w'

set_option maxRecDepth 100000 in
set_option maxHeartbeats 1000000 in
theorem pieces_any (ao : Option Addr) (n c : Nat) (xs : List Nat) (E : Int) (k : Nat) (w : World) (hn : n = xs.length) (hE : E = (k : Int)) (ha : Rd w ao c xs) (_hl1 : xs.length ≤ 10000000) (hk : k ≤ 10000000) :
    Calls Try.prog 82 #[.slice ao n c, .int .i64 E] w (GotPieces w xs (min k xs.length)) := by
  subst hn hE
  have mA := ha.mx
  have cA := ha.cap
  have lo := fun j (h : j ≤ xs.length) => ha.take j h j (by rw [List.length_take]; omega) (by omega)
  have hi := fun j (h : j ≤ xs.length) (hne : ¬ c = j) => ha.hiNe j h hne
  have Lo := Lib.hid lo
  have Hi := Lib.hid hi
  clear lo hi
  rcases Nat.lt_trichotomy k xs.length with hkl | hkl | hkl
  · have e : min k xs.length = k := by omega
    rw [e]
    clear e
    have hkc : ¬ c = k := by omega
    go_enter Try.func82, Try.ntmps82
    go_wp2_with fail
    go_quiet (fail)
    go_wp2_with fail
    go_ret2
    exact ⟨ao, k, _, c - k, by rw [List.length_take, List.length_drop, Nat.min_eq_left (by omega)]; rfl, (Lo.out k (by omega)).ext ((Qt.refl w).drewN _).ext, (Hi.out k (by omega) hkc).ext ((Qt.refl w).drewN _).ext, (Qt.refl w).drewN _⟩
  · subst hkl
    have e : min xs.length xs.length = xs.length := by omega
    rw [e]
    clear e
    by_cases hkc : c = xs.length
    · subst hkc
      go_enter Try.func82, Try.ntmps82
      go_wp2_with fail
      go_quiet (fail)
      go_wp2_with fail
      go_ret2
      exact ⟨ao, xs.length, ao, 0, by simp, (Lo.out xs.length (by omega)).ext ((Qt.refl w).drewN _).ext, by rw [List.drop_length]; exact Rd.nilAt _ _, (Qt.refl w).drewN _⟩
    · go_enter Try.func82, Try.ntmps82
      go_wp2_with fail
      go_quiet (fail)
      go_wp2_with fail
      go_ret2
      exact ⟨ao, xs.length, _, c - xs.length, by simp, (Lo.out xs.length (by omega)).ext ((Qt.refl w).drewN _).ext, (Hi.out xs.length (by omega) hkc).ext ((Qt.refl w).drewN _).ext, (Qt.refl w).drewN _⟩
  · have e : min k xs.length = xs.length := by omega
    rw [e]
    clear e
    by_cases hkc : c = xs.length
    · subst hkc
      go_enter Try.func82, Try.ntmps82
      go_wp2_with fail
      go_quiet (fail)
      go_wp2_with fail
      go_ret2
      exact ⟨ao, xs.length, ao, 0, by simp, (Lo.out xs.length (by omega)).ext ((Qt.refl w).drewN _).ext, by rw [List.drop_length]; exact Rd.nilAt _ _, (Qt.refl w).drewN _⟩
    · go_enter Try.func82, Try.ntmps82
      go_wp2_with fail
      go_quiet (fail)
      go_wp2_with fail
      go_ret2
      exact ⟨ao, xs.length, _, c - xs.length, by simp, (Lo.out xs.length (by omega)).ext ((Qt.refl w).drewN _).ext, (Hi.out xs.length (by omega) hkc).ext ((Qt.refl w).drewN _).ext, (Qt.refl w).drewN _⟩
end Go.Proofs.Ytekhnajfdaknnaa
