/-
  Contracts of nat.takeAway and nat.putBack: they write into a window of a row of the call's own.
-/
import Derived.Test.YtehbfobfkpejoaaBits
import Derived.Test.YtehbfobfkpejoaaMulA
import Derived.Laws.Bits64b
namespace Go.Proofs.Ytehbfobfkpejoaa
open Go.RowKit

theorem low32 (s : Nat) (hs : s < 18446744073709551616) : bits BinOp.and .u64 (s : Int) 4294967295 = ((s % 4294967296 : Nat) : Int) := by
  have h := bits_and_u64_nat s 4294967295 hs (by omega)
  have e : s &&& 4294967295 = s % 4294967296 := Nat.and_two_pow_sub_one_eq_mod s 32
  rw [e] at h
  exact h

/-! ### windows -/
section
variable {w : World} {B g c : Nat} {zs : List Nat}
theorem Own.winCell (h : Own w B (some ⟨g, 0, none⟩) c zs) (K i : Nat) (hi : K + i < zs.length) : w.cell? ⟨g, K + i, none⟩ = some (.int .u32 (lim zs (K + i))) := by
  have := h.rd.cell (K + i) hi
  simp only [bk, of, Nat.zero_add] at this
  exact this
theorem Own.winFrozen (h : Own w B (some ⟨g, 0, none⟩) c zs) (K i : Nat) (hp : 0 < zs.length) : w.frozen? ⟨g, K + i, none⟩ = false := by
  have := h.frozen hp (K + i)
  simp only [bk, of, Nat.zero_add] at this
  exact this
theorem Own.winStore (h : Own w B (some ⟨g, 0, none⟩) c zs) (K i : Nat) (hi : K + i < zs.length) (E : Int) (y : Nat) (hE : E = (y : Int)) (hy : y < 4294967296) :
    Own (w.setCell ⟨g, K + i, none⟩ (.int .u32 E)) B (some ⟨g, 0, none⟩) c (zs.set (K + i) y) ∧ w.grownBy (w.setCell ⟨g, K + i, none⟩ (.int .u32 E)) (some g) := by
  have := h.store (K + i) hi E y hE hy
  simp only [bk, of, Nat.zero_add] at this
  exact this
end
theorem winIx (g K m C i : Nat) (E : Int) (hE : E = (i : Int)) (hi : i < m) (w : World) :
   (Instr.indexAt 23 (.slice (some ⟨g, K, none⟩) m C) (.int .i64 E)).run Try.prog w = .ok (.pointer (some ⟨g, K + i, none⟩)) w := by
  subst hE
  simp [Instr.indexAt, asIntOf, run_underlying und, hi, go_sem]

/-- what lies in the row after: the same but for the window -/
def TakeR (w : World) (B g c : Nat) (zs ys : List Nat) (K T : Nat) (cr br i : Value) (wr : World) : Prop :=
  ∃ (k carry b : Nat) (qs : List Nat), k ≤ ys.length ∧ i = .int .i64 k ∧ cr = .int .u64 carry ∧ br = .int .u64 b ∧ carry < 4294967296 ∧ b ≤ 1 ∧ Hid (qs.length = zs.length) ∧ Own wr B (some ⟨g, 0, none⟩) c qs ∧ w.grownBy wr (some g) ∧
    Hid (val qs + pw K * (T * vk ys k) = val zs + pw (K + k) * (carry + b)) ∧ Hid (∀ t, K + ys.length < t → lim qs t = lim zs t)
def GotTake (w : World) (B g c : Nat) (zs ys : List Nat) (K T : Nat) (e : Ending) (w' : World) : Prop :=
  ∃ (b : Bool) (qs : List Nat), e = .returned (.bool b) ∧ qs.length = zs.length ∧ Own w' B (some ⟨g, 0, none⟩) c qs ∧ w.grownBy w' (some g) ∧
    val qs + pw K * (T * val ys) = val zs + (if b then pw (K + (ys.length + 1)) else 0) ∧ ∀ t, K + ys.length < t → lim qs t = lim zs t

theorem take_step {zs qs ys : List Nat} {K T k carry b h y x : Nat} (hv : val qs + pw K * (T * vk ys k) = val zs + pw (K + k) * (carry + b)) (hK : K + k < qs.length)
    (hy : y + (T * lim ys k + carry) % 4294967296 + b = lim qs (K + k) + 4294967296 * x) (hh : h = (T * lim ys k + carry) / 4294967296) :
    Hid (val (qs.set (K + k) y) + pw K * (T * vk ys (k + 1)) = val zs + pw (K + (k + 1)) * (h + x)) := by
  unfold Hid
  have h1 := val_set (y := y) hK
  have h3 : pw K * (T * vk ys (k + 1)) = pw K * (T * vk ys k) + pw (K + k) * (T * lim ys k) := by
    rw [vk_succ, Nat.mul_add, Nat.mul_add, pw_add]
    congr 1
    rw [← Nat.mul_assoc T, Nat.mul_comm T, Nat.mul_assoc (pw k), Nat.mul_assoc (pw K)]
  rw [← Nat.add_assoc K k 1, pw_succ, h3]
  have h4 := carry_step (pw (K + k)) (T * lim ys k + carry)
  rw [← hh] at h4
  have h5 : pw (K + k) * (y + (T * lim ys k + carry) % 4294967296 + b) = pw (K + k) * (lim qs (K + k) + 4294967296 * x) := by rw [hy]
  rw [Nat.mul_add, Nat.mul_add, Nat.mul_add] at h5
  rw [Nat.mul_add (pw (K + k)) (T * lim ys k)] at h4
  rw [Nat.mul_add] at hv
  rw [Nat.mul_add, Nat.mul_assoc, Nat.mul_assoc] 
  rw [Nat.mul_assoc] at h4
  have h6 : pw (K + k) * (4294967296 * x) = 4294967296 * (pw (K + k) * x) := Nat.mul_left_comm _ _ _
  omega

theorem take_end {zs qs ys : List Nat} {K T carry b y x : Nat} (hv : val qs + pw K * (T * vk ys ys.length) = val zs + pw (K + ys.length) * (carry + b)) (hK : K + ys.length < qs.length)
    (hy : y + (carry + b) = lim qs (K + ys.length) + 4294967296 * x) :
    val (qs.set (K + ys.length) y) + pw K * (T * val ys) = val zs + pw (K + (ys.length + 1)) * x := by
  have h1 := val_set (y := y) hK
  rw [vk_full (Nat.le_refl _)] at hv
  rw [← Nat.add_assoc K, pw_succ]
  have h5 : pw (K + ys.length) * (y + (carry + b)) = pw (K + ys.length) * (lim qs (K + ys.length) + 4294967296 * x) := by rw [hy]
  rw [Nat.mul_add, Nat.mul_add, Nat.mul_add] at h5
  rw [Nat.mul_add] at hv
  have h6 : pw (K + ys.length) * (4294967296 * x) = 4294967296 * (pw (K + ys.length) * x) := Nat.mul_left_comm _ _ _
  rw [Nat.mul_assoc]
  omega

set_option maxRecDepth 100000 in
set_option maxHeartbeats 2000000 in
theorem takeAway_any (B g c : Nat) (zs : List Nat) (K m C : Nat) (bo : Option Addr) (n d : Nat) (ys : List Nat) (T : Nat) (w : World) (hn : n = ys.length) (hm : m = ys.length + 1) (hK : K + m ≤ zs.length)
    (hown : Own w B (some ⟨g, 0, none⟩) c zs) (hb : Rd w bo d ys) (hne : 0 < ys.length → bk bo ≠ g) (hT : T < 4294967296) (hl : ys.length ≤ 10000000) :
    Calls Try.prog 107 #[.slice (some ⟨g, K, none⟩) m C, .slice bo n d, .int .u64 T] w (GotTake w B g c zs ys K T) := by
  subst hn hm
  have mB := hb.mx
  have cB := hb.cap
  go_enter Try.func107, Try.ntmps107
  go_wp2_with fail
  go_loopw [7, 8, 19] (TakeR w B g c zs ys K T) (fun _ _ i _ => (ys.length - intOf i).toNat)
  case atStart => exact ⟨0, 0, 0, zs, by omega, rfl, rfl, rfl, by omega, by omega, rfl, hown, World.grownBy.refl _ _, by unfold Hid; simp [vk_zero], fun _ _ => rfl⟩
  case round =>
    obtain ⟨k, carry, b, qs, hk, rfl, rfl, rfl, hc, hb1, hql, hqo, hqx, hqv, hqt⟩ := hrel
    by_cases hkB : k < ys.length
    · have hy := (hb.kept hqx hne).cell k hkB
      have hiy := ixk hb ys.length rfl k hkB wr
      have bY := lim_lt hb.lb k
      have hkq : K + k < qs.length := by have := hql.out; omega
      have hqc := hqo.winCell K k hkq
      have hiq := winIx g K (ys.length + 1) C k k rfl (by omega) wr
      have hf := hqo.winFrozen K k (by omega)
      have bQ := lim_lt hqo.lb (K + k)
      have bp := prod_lt hT bY
      obtain ⟨p, hp⟩ : ∃ p, p = T * lim ys k := ⟨_, rfl⟩
      have hst := fun h y x => take_step (h := h) (y := y) (x := x) hqv.out hkq
      rw [← hp] at bp hst
      have hp' : ((T : Nat) : Int) * ((lim ys k : Nat) : Int) = (p : Int) := by rw [hp, Int.natCast_mul]
      have hlow : bits BinOp.and .u64 ((p : Int) + (carry : Int)) 4294967295 = ((p : Int) + (carry : Int)) % 4294967296 := by
        have := low32 (p + carry) (by omega)
        rw [Int.natCast_add] at this
        rw [this]; omega
      clear hp hqv
      by_cases hlt : lim qs (K + k) < (p + carry) % 4294967296 + b
      · have hlt' : ((lim qs (K + k) : Nat) : Int) < ((p : Int) + (carry : Int)) % 4294967296 + (b : Int) := by omega
        go_wp2_with fail
        obtain ⟨y, hy⟩ : ∃ y, y = lim qs (K + k) + 4294967296 - ((p + carry) % 4294967296 + b) := ⟨_, rfl⟩
        have hs1 := hqo.winStore K k hkq ((lim qs (K + k) : Int) + 4294967296 - (((p : Int) + (carry : Int)) % 4294967296 + (b : Int))) y (by omega) (by omega)
        have hst1 := hst ((p + carry) / 4294967296) y 1 (by omega) rfl
        go_roundw
        case rel => exact ⟨k + 1, (p + carry) / 4294967296, 1, _, by omega, by go_num, by go_num, by go_num, by omega, by omega, by unfold Hid; rw [List.length_set]; exact hql.out, hs1.1, grown_trans hqx hs1.2, hst1, fun t ht => by rw [lim_set_ne (by omega)]; exact hqt.out t ht⟩
        case measure => simp [intOf]; try omega
      · go_wp2_with fail
        obtain ⟨y, hy⟩ : ∃ y, y = lim qs (K + k) - ((p + carry) % 4294967296 + b) := ⟨_, rfl⟩
        have hs1 := hqo.winStore K k hkq ((lim qs (K + k) : Int) - (((p : Int) + (carry : Int)) % 4294967296 + (b : Int))) y (by omega) (by omega)
        have hst1 := hst ((p + carry) / 4294967296) y 0 (by omega) rfl
        go_roundw
        case rel => exact ⟨k + 1, (p + carry) / 4294967296, 0, _, by omega, by go_num, by go_num, by go_num, by omega, by omega, by unfold Hid; rw [List.length_set]; exact hql.out, hs1.1, grown_trans hqx hs1.2, hst1, fun t ht => by rw [lim_set_ne (by omega)]; exact hqt.out t ht⟩
        case measure => simp [intOf]; try omega
    · obtain rfl : k = ys.length := by omega
      have hkq : K + ys.length < qs.length := by have := hql.out; omega
      have hqc := hqo.winCell K ys.length hkq
      have hiq := winIx g K (ys.length + 1) C ys.length ys.length rfl (by omega) wr
      have hf := hqo.winFrozen K ys.length (by omega)
      have bQ := lim_lt hqo.lb (K + ys.length)
      have hst := fun y x => take_end (y := y) (x := x) hqv.out hkq
      clear hqv
      by_cases hlt : lim qs (K + ys.length) < carry + b
      · have hlt' : ((lim qs (K + ys.length) : Nat) : Int) < (carry : Int) + (b : Int) := by omega
        go_wp2_with fail
        obtain ⟨y, hy⟩ : ∃ y, y = lim qs (K + ys.length) + 4294967296 - (carry + b) := ⟨_, rfl⟩
        have hs1 := hqo.winStore K ys.length hkq (IntKind.u64.wrap ((lim qs (K + ys.length) : Int) - ((carry : Int) + (b : Int))) % 4294967296) y (by rw [IntKind.wrap_u64]; omega) (by omega)
        have hst1 := hst y 1 (by omega)
        go_ret
        exact ⟨true, _, rfl, by rw [List.length_set]; exact hql.out, hs1.1, grown_trans hqx hs1.2, by rw [hst1, Nat.mul_one, if_pos rfl], fun t ht => by rw [lim_set_ne (by omega)]; exact hqt.out t ht⟩
      · have hlt' : decide (((lim qs (K + ys.length) : Nat) : Int) < (carry : Int) + (b : Int)) = false := by simp; omega
        go_wp2_with fail
        obtain ⟨y, hy⟩ : ∃ y, y = lim qs (K + ys.length) - (carry + b) := ⟨_, rfl⟩
        have hs1 := hqo.winStore K ys.length hkq ((lim qs (K + ys.length) : Int) - ((carry : Int) + (b : Int))) y (by omega) (by omega)
        have hst1 := hst y 0 (by omega)
        go_ret
        exact ⟨false, _, rfl, by rw [List.length_set]; exact hql.out, hs1.1, grown_trans hqx hs1.2, by rw [hst1, Nat.mul_zero, if_neg Bool.false_ne_true], fun t ht => by rw [lim_set_ne (by omega)]; exact hqt.out t ht⟩

def PutR (w : World) (B g c : Nat) (zs ys : List Nat) (K : Nat) (cr i : Value) (wr : World) : Prop :=
  ∃ (k carry : Nat) (qs : List Nat), k ≤ ys.length ∧ i = .int .i64 k ∧ cr = .int .u64 carry ∧ carry ≤ 1 ∧ Hid (qs.length = zs.length) ∧ Own wr B (some ⟨g, 0, none⟩) c qs ∧ w.grownBy wr (some g) ∧
    Hid (val qs + pw (K + k) * carry = val zs + pw K * vk ys k) ∧ Hid (∀ t, K + ys.length < t → lim qs t = lim zs t)
def GotPut (w : World) (B g c : Nat) (zs ys : List Nat) (K : Nat) (e : Ending) (w' : World) : Prop :=
  ∃ (x : Nat) (qs : List Nat), e = .returned (.tuple #[]) ∧ x ≤ 1 ∧ qs.length = zs.length ∧ Own w' B (some ⟨g, 0, none⟩) c qs ∧ w.grownBy w' (some g) ∧
    val qs + pw (K + (ys.length + 1)) * x = val zs + pw K * val ys ∧ ∀ t, K + ys.length < t → lim qs t = lim zs t
theorem put_step {zs qs ys : List Nat} {K k carry s : Nat} (hv : val qs + pw (K + k) * carry = val zs + pw K * vk ys k) (hK : K + k < qs.length) (hs : s = lim qs (K + k) + lim ys k + carry) :
    Hid (val (qs.set (K + k) (s % 4294967296)) + pw (K + (k + 1)) * (s / 4294967296) = val zs + pw K * vk ys (k + 1)) := by
  unfold Hid
  have h1 := val_set (y := s % 4294967296) hK
  have h2 := carry_step (pw (K + k)) s
  have h3 : pw K * vk ys (k + 1) = pw K * vk ys k + pw (K + k) * lim ys k := by
    rw [vk_succ, Nat.mul_add, pw_add, Nat.mul_assoc]
  rw [← Nat.add_assoc K k 1, pw_succ, h3]
  have h4 : pw (K + k) * s = pw (K + k) * lim qs (K + k) + pw (K + k) * lim ys k + pw (K + k) * carry := by rw [hs, Nat.mul_add, Nat.mul_add]
  omega
theorem put_end {zs qs ys : List Nat} {K carry s : Nat} (hv : val qs + pw (K + ys.length) * carry = val zs + pw K * vk ys ys.length) (hK : K + ys.length < qs.length) (hs : s = lim qs (K + ys.length) + carry) :
    val (qs.set (K + ys.length) (s % 4294967296)) + pw (K + (ys.length + 1)) * (s / 4294967296) = val zs + pw K * val ys := by
  rw [vk_full (Nat.le_refl _)] at hv
  have h1 := val_set (y := s % 4294967296) hK
  have h2 := carry_step (pw (K + ys.length)) s
  rw [← Nat.add_assoc K ys.length 1, pw_succ]
  have h4 : pw (K + ys.length) * s = pw (K + ys.length) * lim qs (K + ys.length) + pw (K + ys.length) * carry := by rw [hs, Nat.mul_add]
  omega

set_option maxRecDepth 100000 in
set_option maxHeartbeats 2000000 in
theorem putBack_any (B g c : Nat) (zs : List Nat) (K m C : Nat) (bo : Option Addr) (n d : Nat) (ys : List Nat) (w : World) (hn : n = ys.length) (hm : m = ys.length + 1) (hK : K + m ≤ zs.length)
    (hown : Own w B (some ⟨g, 0, none⟩) c zs) (hb : Rd w bo d ys) (hne : 0 < ys.length → bk bo ≠ g) (hl : ys.length ≤ 10000000) :
    Calls Try.prog 108 #[.slice (some ⟨g, K, none⟩) m C, .slice bo n d] w (GotPut w B g c zs ys K) := by
  subst hn hm
  have mB := hb.mx
  have cB := hb.cap
  go_enter Try.func108, Try.ntmps108
  go_wp2_with fail
  go_loopw [4, 10] (PutR w B g c zs ys K) (fun _ i _ => (ys.length - intOf i).toNat)
  case atStart => exact ⟨0, 0, zs, by omega, rfl, rfl, by omega, rfl, hown, World.grownBy.refl _ _, by unfold Hid; simp [vk_zero], fun _ _ => rfl⟩
  case round =>
    obtain ⟨k, carry, qs, hk, rfl, rfl, hc, hql, hqo, hqx, hqv, hqt⟩ := hrel
    by_cases hkB : k < ys.length
    · have hy := (hb.kept hqx hne).cell k hkB
      have hiy := ixk hb ys.length rfl k hkB wr
      have bY := lim_lt hb.lb k
      have hkq : K + k < qs.length := by have := hql.out; omega
      have hqc := hqo.winCell K k hkq
      have hiq := winIx g K (ys.length + 1) C k k rfl (by omega) wr
      have hf := hqo.winFrozen K k (by omega)
      have bQ := lim_lt hqo.lb (K + k)
      have hst := put_step hqv.out hkq rfl
      clear hqv
      go_wp2_with fail
      have hs1 := hqo.winStore K k hkq (((lim qs (K + k) : Int) + (lim ys k : Int) + (carry : Int)) % 4294967296) ((lim qs (K + k) + lim ys k + carry) % 4294967296) (by omega) (by omega)
      go_roundw
      case rel => exact ⟨k + 1, (lim qs (K + k) + lim ys k + carry) / 4294967296, _, by omega, by go_num, by go_num, by omega, by unfold Hid; rw [List.length_set]; exact hql.out, hs1.1, grown_trans hqx hs1.2, hst, fun t ht => by rw [lim_set_ne (by omega)]; exact hqt.out t ht⟩
      case measure => simp [intOf]; try omega
    · obtain rfl : k = ys.length := by omega
      have hkq : K + ys.length < qs.length := by have := hql.out; omega
      have hqc := hqo.winCell K ys.length hkq
      have hiq := winIx g K (ys.length + 1) C ys.length ys.length rfl (by omega) wr
      have hf := hqo.winFrozen K ys.length (by omega)
      have bQ := lim_lt hqo.lb (K + ys.length)
      have hst := put_end hqv.out hkq rfl
      clear hqv
      go_wp2_with fail
      have hs1 := hqo.winStore K ys.length hkq (((lim qs (K + ys.length) : Int) + (carry : Int)) % 4294967296) ((lim qs (K + ys.length) + carry) % 4294967296) (by omega) (by omega)
      go_end0
      exact ⟨_, _, rfl, by omega, by rw [List.length_set]; exact hql.out, hs1.1, grown_trans hqx hs1.2, hst, fun t ht => by rw [lim_set_ne (by omega)]; exact hqt.out t ht⟩
end Go.Proofs.Ytehbfobfkpejoaa
