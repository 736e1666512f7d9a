/-
  math/bits.Len32 and LeadingZeros32 in this text's form; plain lemmas on bit lengths; nat.Left.
-/
import Derived.Test.YtehbfobfkpejoaaRefA
import Derived.Test.YtehbfobfkpejoaaShelf
namespace Go.Proofs.Ytehbfobfkpejoaa
open Go.RowKit

/-- the number of bits of a limb -/
def bl (x : Nat) : Nat := Lib.bitLen x
theorem bl_zero : bl 0 = 0 := by decide +kernel
theorem bl_half {x : Nat} (h0 : x ≠ 0) (h : x < 18446744073709551616) : bl x = 1 + bl (x / 2) := Lib.bitLen_half x h0 h
theorem bl_pow : ∀ (k x : Nat), k ≤ 63 → 2 ^ k ≤ x → x < 2 ^ (k + 1) → bl x = k + 1
  | 0, x, _, h1, h2 => by
    have : x = 1 := by omega
    subst this
    decide +kernel
  | k + 1, x, hk, h1, h2 => by
    have hlt : x < 18446744073709551616 := Nat.lt_of_lt_of_le h2 (by have := Nat.pow_le_pow_right (n := 2) (by omega) (show k + 1 + 1 ≤ 64 by omega); exact this)
    have hp : 0 < 2 ^ (k + 1) := Nat.two_pow_pos _
    rw [bl_half (by omega) hlt]
    rw [Nat.pow_succ] at h1 h2
    have := bl_pow k (x / 2) (by omega) (by omega) (by rw [Nat.pow_succ] at h2 ⊢; omega)
    omega
theorem bl_spec {x : Nat} (h0 : x ≠ 0) (h : x < 4294967296) : 1 ≤ bl x ∧ bl x ≤ 32 ∧ 2 ^ (bl x - 1) ≤ x ∧ x < 2 ^ bl x := by
  have h1 := Nat.log2_self_le h0
  have h2 : x < 2 ^ (x.log2 + 1) := Nat.lt_log2_self
  have h3 : x.log2 < 32 := (Nat.log2_lt h0).2 h
  have h4 := bl_pow x.log2 x (by omega) h1 h2
  rw [h4]
  exact ⟨by omega, by omega, by simpa using h1, h2⟩

theorem Len32_any (x : Nat) (hx : x < 4294967296) (w : World) :
    Calls Try.prog 110 #[.int .u32 x] w fun e w' => e = .returned (.int .i64 (bl x)) ∧ w = w' :=
  (Try.bits_Len32 x w (by omega) (by omega)).mono fun _ _ ⟨h1, h2⟩ => ⟨by rw [h1, Int.toNat_natCast]; rfl, h2.symm⟩
theorem Lead32_any (x : Nat) (hx : x < 4294967296) (w : World) :
    Calls Try.prog 104 #[.int .u32 x] w fun e w' => e = .returned (.int .i64 (32 - (bl x : Int))) ∧ w = w' :=
  (Try.bits_LeadingZeros32 x w (by omega) (by omega)).mono fun _ _ ⟨h1, h2⟩ => ⟨by rw [h1, Int.toNat_natCast]; rfl, h2.symm⟩

theorem shl_fit (x r : Nat) (hx : x < 4294967296) (hr : r < 32) : x * 2 ^ r < 9223372036854775808 := by
  have h1 : 2 ^ r ≤ 2 ^ 31 := Nat.pow_le_pow_right (by omega) (by omega)
  have h2 : x * 2 ^ r ≤ 4294967295 * 2147483648 := Nat.mul_le_mul (by omega) h1
  omega
theorem shl_wrap (x r : Nat) (hx : x < 4294967296) (hr : r < 32) : IntKind.u64.wrap ((x : Int) * 2 ^ r) = ((x * 2 ^ r : Nat) : Int) := by
  have h := shl_fit x r hx hr
  have e : ((x : Int) * 2 ^ r) = ((x * 2 ^ r : Nat) : Int) := by rw [Int.natCast_mul, Int.natCast_pow]; rfl
  rw [e, IntKind.wrap_u64]
  omega
theorem or_shift (x r c : Nat) (hx : x < 4294967296) (hr : r < 32) (hc : c < 2 ^ r) : bits BinOp.or .u64 ((x * 2 ^ r : Nat) : Int) (c : Int) = ((x * 2 ^ r + c : Nat) : Int) := by
  have h := shl_fit x r hx hr
  have h2 : 2 ^ r ≤ 2 ^ 31 := Nat.pow_le_pow_right (by omega) (by omega)
  rw [bits_or_u64_nat _ _ (by omega) (by omega)]
  rw [Nat.mul_comm, ← Nat.two_pow_add_eq_or_of_lt hc]
theorem left_step {zs xs : List Nat} {q r k carry s : Nat} (hl : zs.length = q + k) (h : val zs + pw (q + k) * carry = pw q * (2 ^ r * vk xs k)) (hs : s = lim xs k * 2 ^ r + carry) :
    Hid (val (zs ++ [s % 4294967296]) + pw (q + (k + 1)) * (s / 4294967296) = pw q * (2 ^ r * vk xs (k + 1))) := by
  unfold Hid
  rw [val_snoc, hl, ← Nat.add_assoc, pw_succ, vk_succ]
  have h1 := carry_step (pw (q + k)) s
  have h2 : pw q * (2 ^ r * (vk xs k + pw k * lim xs k)) = pw q * (2 ^ r * vk xs k) + pw (q + k) * (lim xs k * 2 ^ r) := by
    rw [Nat.mul_add, Nat.mul_add, pw_add]
    congr 1
    rw [Nat.mul_assoc (pw q), Nat.mul_left_comm (2 ^ r), Nat.mul_comm (2 ^ r)]
  have h3 : pw (q + k) * s = pw (q + k) * (lim xs k * 2 ^ r) + pw (q + k) * carry := by rw [hs, Nat.mul_add]
  omega

/-- what Left holds: x limbs of xs moved, q words of 0 ahead -/
def LeftR (w : World) (xs : List Nat) (q r : Nat) (out cr i : Value) (wr : World) : Prop :=
  ∃ (k carry : Nat) (po : Option Addr) (pc : Nat) (zs : List Nat), k ≤ xs.length ∧ i = .int .i64 k ∧ out = .slice po zs.length pc ∧ cr = .int .u64 carry ∧ carry < 2 ^ r ∧ Hid (zs.length = q + k) ∧ Own wr w.heap.size po pc zs ∧ Ext w wr ∧
    Hid (val zs + pw (q + k) * carry = pw q * (2 ^ r * vk xs k))

/-- a number times a power of 2, with an error's number -/
def GotE (w : World) (m : Nat) (er : Int) (e : Ending) (w' : World) : Prop := ∃ ao c zs, e = .returned (.tuple #[.slice ao zs.length c, .int .i64 er]) ∧ Own w' w.heap.size ao c zs ∧ Canon zs ∧ val zs = m ∧ Ext w w'

set_option maxRecDepth 100000 in
set_option maxHeartbeats 2000000 in
theorem Left_any (ao : Option Addr) (n c : Nat) (xs : List Nat) (E : Int) (K : Nat) (w : World) (hn : n = xs.length) (hE : E = (K : Int)) (ha : Rd w ao c xs) (hl : xs.length ≤ 1000000) (hk : K ≤ 1048576) :
    Calls Try.prog 105 #[.slice ao n c, .int .i64 E] w (GotE w (val xs * 2 ^ K) 0) := by
  subst hn hE
  have hA := ha.trm
  have lA := trm_le xs
  have mA := hA.mx
  have cA := hA.cap
  rw [← val_trm xs]
  obtain ⟨q, hq⟩ : ∃ q, q = K / 32 := ⟨_, rfl⟩
  obtain ⟨r, hr⟩ : ∃ r, r = K % 32 := ⟨_, rfl⟩
  have hq1 : (K : Int) / 32 = (q : Int) := by omega
  have hr1 : (K : Int) % 32 = (r : Int) := by omega
  have hqb : q ≤ 32768 := by omega
  have hrb : r < 32 := by omega
  have hpk : 2 ^ K = pw q * 2 ^ r := by
    unfold pw
    rw [show (4294967296 : Nat) = 2 ^ 32 from rfl, ← Nat.pow_mul, ← Nat.pow_add]; congr 1; omega
  have Hpk := Lib.hid hpk
  clear hpk hq hr
  go_enter Try.func105, Try.ntmps105
  go_wp2_with fail
  refine (trim_any ao _ c xs w rfl ha).mono ?_
  rintro e w' ⟨rfl, rfl⟩
  go_wp2_with (at_make; refine mkn rfl _ _ rfl _ _ _ _ rfl rfl ?_ ?_ ?_ (Ext.refl w) ?_; omega; omega; omega; intro w1 hown hx0 hext)
  rw [Int.toNat_natCast] at hown
  go_loopw [8, 9, 34] (LeftR w (trm xs) q r) (fun _ _ i _ => ((trm xs).length - intOf i).toNat)
  case atStart => exact ⟨0, 0, _, _, List.replicate q 0, by omega, rfl, by simp; omega, rfl, Nat.two_pow_pos r, by simp [Hid], hown, hext, by unfold Hid; rw [val_replicate_zero, vk_zero]; simp⟩
  case round =>
    obtain ⟨k, carry, po, pc, zs, hk, rfl, rfl, rfl, hc, hzl, hown, hext, heq⟩ := hrel
    by_cases hkA : k < (trm xs).length
    · have hx := (hA.ext hext).cell k hkA
      have hix := ixk hA (trm xs).length rfl k hkA wr
      have bx := lim_lt hA.lb k
      have hwr := shl_wrap (lim (trm xs) k) r bx hrb
      have hor := or_shift (lim (trm xs) k) r carry bx hrb hc
      have hft := shl_fit (lim (trm xs) k) r bx hrb
      have hst := left_step hzl.out heq.out rfl
      have hcd : (lim (trm xs) k * 2 ^ r + carry) / 4294967296 < 2 ^ r := by
        rw [Nat.div_lt_iff_lt_mul (by omega)]
        have h2 : (lim (trm xs) k + 1) * 2 ^ r ≤ 4294967296 * 2 ^ r := Nat.mul_le_mul_right _ bx
        rw [Nat.add_mul] at h2
        rw [Nat.mul_comm (2 ^ r)]
        omega
      have hcs : carry < 4294967296 := Nat.lt_of_lt_of_le hc (by have : 2 ^ r ≤ 2 ^ 31 := Nat.pow_le_pow_right (by omega) (by omega); omega)
      obtain ⟨X, hX⟩ : ∃ X, X = lim (trm xs) k * 2 ^ r := ⟨_, rfl⟩
      rw [← hX] at hwr hor hft hst hcd
      have hzb : zs.length ≤ 1100000 := by have := hzl.out; omega
      have Hcd := Lib.hid hcd
      clear hX hcd hc heq
      go_wp2_with (at_builtin; refine push (wi := w) rfl _ _ rfl _ _ zs _ rfl rfl hown _ ?_ ?_ rfl ?_ rfl hext ?_; omega; omega; omega; intro ao' c' w2 hown2 hext2)
      go_roundw
      case rel => exact ⟨k + 1, (X + carry) / 4294967296, ao', c', zs ++ [(X + carry) % 4294967296], by omega, by go_num, by simp, by go_num, Hcd.out, by unfold Hid; rw [List.length_append, hzl.out]; simp; omega, hown2.snocEq (by omega), hext2, hst⟩
      case measure => simp [intOf]; try omega
    · have hv : val (zs ++ [(carry : Int).toNat]) = val (trm xs) * 2 ^ K := by
        have h1 := heq.out
        have h2 := hzl.out
        rw [vk_full (by omega)] at h1
        rw [val_snoc, h2, Int.toNat_natCast, h1, Hpk.out, ← Nat.mul_assoc, Nat.mul_comm]
      have hcs : carry < 4294967296 := Nat.lt_of_lt_of_le hc (by have : 2 ^ r ≤ 2 ^ 31 := Nat.pow_le_pow_right (by omega) (by omega); omega)
      have hzb : zs.length ≤ 1100000 := by have := hzl.out; omega
      have Hv := Lib.hid hv
      clear hv hc heq
      go_wp2_with (at_builtin; refine push (wi := w) rfl _ _ rfl _ _ zs _ rfl rfl hown _ ?_ ?_ rfl ?_ rfl hext ?_; omega; omega; omega; intro ao' c' w2 hown2 hext2)
      refine (Trim_got _ _ _ _ _ (by simp) hown2.rd (by simp; omega)).mono ?_
      intro e w' hg
      rw [Hv.out] at hg
      obtain ⟨ao3, c3, zs3, rfl, h1, h2, h3, h4⟩ := hg.from hext2
      go_wp2_with fail
      go_ret2
      exact ⟨ao3, c3, zs3, rfl, h1, h2, h3, h4⟩

end Go.Proofs.Ytehbfobfkpejoaa
