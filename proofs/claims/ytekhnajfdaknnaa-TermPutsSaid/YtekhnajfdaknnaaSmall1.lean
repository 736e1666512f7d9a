/-
  Products with one limb (the reference); values from a limb on.
-/
import Derived.Test.YtekhnajfdaknnaaRefA
import Derived.Deep.LoopGhost
namespace Go.Proofs.Ytekhnajfdaknnaa
open Go.RowKit

/-- the value of the limbs from k on -/
def vd (zs : List Nat) (k : Nat) : Nat := val (zs.drop k)
theorem vd_zero (zs : List Nat) : vd zs 0 = val zs := by simp [vd]
theorem vd_end {zs : List Nat} {k : Nat} (h : zs.length ≤ k) : vd zs k = 0 := by unfold vd; rw [List.drop_eq_nil_of_le h]; rfl
theorem vd_step {zs : List Nat} {k : Nat} (h : k < zs.length) : vd zs k = lim zs k + 4294967296 * vd zs (k + 1) := by
  unfold vd
  rw [List.drop_eq_getElem_cons h]
  have : zs[k] = lim zs k := by unfold lim; simp [List.getD_eq_getElem?_getD, h]
  rw [val_cons, this]
theorem vd_set {zs : List Nat} {k i y : Nat} (h : i < k) : vd (zs.set i y) k = vd zs k := by
  unfold vd; rw [List.drop_set]; simp [h]

def GrowR (w : World) (xs : List Nat) (t m : Nat) (out cr i : Value) (wr : World) : Prop :=
  ∃ (carry : Nat) (po : Option Addr) (pc : Nat) (zs : List Nat), i = .int .i64 zs.length ∧ out = .slice po zs.length pc ∧ cr = .int .u64 carry ∧ carry < 4294967296 ∧ zs.length ≤ xs.length ∧ Own wr w.heap.size po pc zs ∧ Ext w wr ∧
    Hid (val zs + pw zs.length * carry = vk xs zs.length * t + m)

theorem grow_step {zs xs : List Nat} {t m carry s : Nat} (h : val zs + pw zs.length * carry = vk xs zs.length * t + m) (hs : s = lim xs zs.length * t + carry) :
    Hid (val (zs ++ [s % 4294967296]) + pw (zs ++ [s % 4294967296]).length * (s / 4294967296) = vk xs (zs ++ [s % 4294967296]).length * t + m) := by
  unfold Hid
  simp only [List.length_append, List.length_cons, List.length_nil, Nat.zero_add]
  rw [val_snoc, vk_succ, pw_succ]
  have h1 := carry_step (pw zs.length) s
  rw [hs] at h1 ⊢
  rw [Nat.mul_add, ← Nat.mul_assoc] at h1
  rw [Nat.add_mul]
  omega

set_option maxRecDepth 100000 in
set_option maxHeartbeats 1000000 in
theorem small_any (ao : Option Addr) (n c : Nat) (xs : List Nat) (E : Int) (t : Nat) (w : World) (hn : n = xs.length) (hE : E = (t : Int)) (ha : Rd w ao c xs) (hl : xs.length ≤ 1000000) (ht : t < 4294967296) :
    Calls Try.prog 79 #[.slice ao n c, .int .u64 E] w (GotN w (val xs * t)) := by
  subst hn hE
  have bA := ha.cap
  have mA := ha.mx
  go_enter Try.func79, Try.ntmps79
  go_wp2_with fail
  go_loopw [5, 6, 7] (GrowR w xs t 0) (fun _ _ i _ => (xs.length - intOf i).toNat)
  case atStart => exact ⟨0, _, _, [], rfl, rfl, rfl, by omega, by simp, own_empty w, (Ext.refl w).alloc _, by simp [Hid, vk_zero, val]⟩
  case round =>
    obtain ⟨carry, po, pc, zs, rfl, rfl, rfl, hc1, hk, hown, hext, heq⟩ := hrel
    by_cases hkA : zs.length < xs.length
    · have bx := lim_lt ha.lb zs.length
      have hmul : lim xs zs.length * t ≤ 4294967295 * 4294967295 := Nat.mul_le_mul (by omega) (by omega)
      obtain ⟨q, hq⟩ : ∃ q, q = lim xs zs.length * t := ⟨_, rfl⟩
      rw [← hq] at hmul
      have hq' : ((lim xs zs.length : Nat) : Int) * (t : Int) = (q : Int) := by rw [hq]; push_cast; rfl
      have Hq := Lib.hid hq
      clear hq
      go_wp2_with fail
      refine (At_any ao _ c xs wr _ zs.length (by omega) rfl (ha.ext hext)).mono ?_
      rintro e w' ⟨rfl, rfl⟩
      go_wp2_with (at_builtin; refine push (wi := w) rfl _ _ rfl _ _ zs _ rfl rfl hown _ ?_ ?_ rfl ?_ rfl hext ?_; omega; omega; omega; intro ao' c' w2 hown2 hext2)
      go_roundw
      case rel => exact ⟨(q + carry) / 4294967296, ao', c', zs ++ [(q + carry) % 4294967296], by simp, by simp, by go_num, by omega, by simp; omega, hown2.snocEq (by omega), hext2, by have h1 := grow_step heq.out (s := q + carry) (by rw [Hq.out]); exact h1⟩
      case measure => simp [intOf]; omega
    · have hv : val zs + pw zs.length * carry = val xs * t := by
        have h1 := heq.out
        rwa [vk_full (by omega)] at h1
      have hzl : zs.length ≤ 1000000 := by omega
      have Hv := Lib.hid hv
      clear hv heq
      go_wp2_with (at_builtin; refine push (wi := w) rfl _ _ rfl _ _ zs _ rfl rfl hown _ ?_ ?_ rfl ?_ rfl hext ?_; omega; omega; omega; intro ao' c' w2 hown2 hext2)
      refine (RTrim_any _ _ _ _ _ (by simp) hown2.rd (by simp; omega)).mono ?_
      intro e w' hg
      have hv2 : val (zs ++ [(carry : Int).toNat]) = val xs * t := by rw [val_snoc]; simpa using Hv.out
      rw [hv2] at hg
      clear hv2
      obtain ⟨ao3, c3, zs3, rfl, h3⟩ := hg.from hext2
      go_wp2_with fail
      go_ret
      exact ⟨ao3, c3, zs3, rfl, h3⟩

end Go.Proofs.Ytekhnajfdaknnaa
