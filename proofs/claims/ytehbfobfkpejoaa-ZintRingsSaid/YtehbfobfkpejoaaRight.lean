/-
  Contracts of nat.Right, nat.Bits, nat.Bit.
-/
import Derived.Test.YtehbfobfkpejoaaBits
import Derived.Test.YtehbfobfkpejoaaNatX
namespace Go.Proofs.Ytehbfobfkpejoaa
open Go.RowKit

theorem vd_div {xs : List Nat} (hx : Lb xs) (k : Nat) : val xs / pw k = vd xs k := by
  by_cases h : k ≤ xs.length
  · have h1 := vk_split xs k h
    have h2 := vk_lt hx k
    rw [h1, Nat.add_mul_div_left _ _ (pw_pos k), Nat.div_eq_of_lt h2, Nat.zero_add]
    rfl
  · rw [vd_end (by omega)]
    exact Nat.div_eq_of_lt (Nat.lt_of_lt_of_le (val_lt hx) (pw_le (by omega)))
theorem mod_step (Q k : Nat) : Q % pw (k + 1) = Q % pw k + pw k * (Q / pw k % 4294967296) := by
  rw [pw_succ, Nat.mul_comm 4294967296, Nat.mod_mul]
/-- a limb of a number moved down -/
theorem right_limb {xs : List Nat} (hx : Lb xs) (r k : Nat) (hr : r < 32) : val xs / 2 ^ r / pw k % 4294967296 = (lim xs (k + 1) * 4294967296 + lim xs k) / 2 ^ r % 4294967296 := by
  rw [Nat.div_div_eq_div_mul, Nat.mul_comm, ← Nat.div_div_eq_div_mul, vd_div hx]
  have e : ∀ j, vd xs j = lim xs j + 4294967296 * vd xs (j + 1) := by
    intro j
    by_cases h : j < xs.length
    · exact vd_step h
    · rw [vd_end (by omega), vd_end (by omega), lim_of_le (by omega)]
  have h32 : (4294967296 : Nat) = 2 ^ r * 2 ^ (32 - r) := by
    rw [← Nat.pow_add]
    have : r + (32 - r) = 32 := by omega
    rw [this]
  have h1 : vd xs k = (lim xs (k + 1) * 4294967296 + lim xs k) + 2 ^ r * (2 ^ (32 - r) * 4294967296 * vd xs (k + 1 + 1)) := by
    rw [e k, e (k + 1), ← Nat.mul_assoc, ← Nat.mul_assoc (2 ^ r), ← h32, Nat.mul_add, ← Nat.mul_assoc]
    omega
  rw [h1, Nat.add_mul_div_left _ _ (Nat.two_pow_pos r)]
  rw [show 2 ^ (32 - r) * 4294967296 * vd xs (k + 1 + 1) = 4294967296 * (2 ^ (32 - r) * vd xs (k + 1 + 1)) by rw [Nat.mul_comm (2 ^ (32 - r)), Nat.mul_assoc], Nat.add_mul_mod_self_left]

theorem Own.capEq {w : World} {B : Nat} {ao : Option Addr} {c c' : Nat} {zs : List Nat} (h : Own w B ao c zs) (e : c = c') : Own w B ao c' zs := e ▸ h

def RightR (w : World) (xs : List Nat) (q r : Nat) (out i : Value) (wr : World) : Prop :=
  ∃ (j : Nat) (po : Option Addr) (pc : Nat) (zs : List Nat), q ≤ j ∧ j ≤ xs.length ∧ i = .int .i64 j ∧ out = .slice po zs.length pc ∧ Hid (q + zs.length = j) ∧ Own wr w.heap.size po pc zs ∧ Ext w wr ∧
    Hid (val zs = val (xs.drop q) / 2 ^ r % pw zs.length)

theorem right_val {xs : List Nat} (hx : Lb xs) {K q r : Nat} (hq : q = K / 32) (hr : r = K % 32) : val xs / 2 ^ K = val (xs.drop q) / 2 ^ r := by
  have h1 : val (xs.drop q) = val xs / pw q := (vd_div hx q).symm
  have h2 : 2 ^ K = pw q * 2 ^ r := by
    unfold pw
    rw [show (4294967296 : Nat) = 2 ^ 32 from rfl, ← Nat.pow_mul, ← Nat.pow_add]; congr 1; omega
  rw [h1, h2, Nat.div_div_eq_div_mul]

set_option maxRecDepth 100000 in
set_option maxHeartbeats 2000000 in
theorem Right_max (ao : Option Addr) (n c : Nat) (xs : List Nat) (E : Int) (K : Nat) (w : World) (hn : n = xs.length) (hE : max E 0 = (K : Int)) (hE2 : K < 9223372036854775808) (ha : Rd w ao c xs) (hl : xs.length ≤ 1000000) :
    Calls Try.prog 109 #[.slice ao n c, .int .i64 E] w (GotN w (val xs / 2 ^ K)) := by
  subst hn
  have hA := ha.trm
  have lA := trm_le xs
  have mA := hA.mx
  have cA := hA.cap
  rw [← val_trm xs]
  obtain ⟨q, hq⟩ : ∃ q, q = K / 32 := ⟨_, rfl⟩
  obtain ⟨r, hr⟩ : ∃ r, r = K % 32 := ⟨_, rfl⟩
  have hq1 : (K : Int) / 32 = (q : Int) := by omega
  have hr1 : (K : Int) % 32 = (r : Int) := by omega
  have hqb : q < 9223372036854775808 := by omega
  have hrb : r < 32 := by omega
  have hv := right_val hA.lb hq hr
  have Hv := Lib.hid hv
  have hK0 : ¬ (K : Int) < 0 := by omega
  clear hv hq hr
  by_cases hql : q < (trm xs).length
  · go_enter Try.func109, Try.ntmps109
    go_wp2_with fail
    refine (trim_any ao _ c xs w rfl ha).mono ?_
    rintro e w' ⟨rfl, rfl⟩
    go_wp2_with (at_make; refine mk0 rfl _ _ rfl _ _ _ rfl rfl ?_ ?_ (Ext.refl w) ?_; omega; omega; intro w1 hown hext)
    go_loopw [7, 8] (RightR w (trm xs) q r) (fun _ i _ => ((trm xs).length - intOf i).toNat)
    case atStart => exact ⟨q, _, _, [], by omega, by omega, rfl, rfl, rfl, hown.capEq (by omega), hext, by unfold Hid; simp [val, pw, Nat.mod_one]⟩
    case round =>
      obtain ⟨j, po, pc, zs, hqj, hk, rfl, rfl, hzl, hown, hext, heq⟩ := hrel
      have hzb : zs.length ≤ 1100000 := by have := hzl.out; omega
      by_cases hkA : j < (trm xs).length
      · have hx := (hA.ext hext).cell j hkA
        have hix := ixk hA (trm xs).length rfl j hkA wr
        have bx := lim_lt hA.lb j
        have bx2 := lim_lt hA.lb (j + 1)
        have hrl := right_limb (Lb_drop hA.lb q) r zs.length hrb
        rw [lim_drop, lim_drop, ← Nat.add_assoc, hzl.out] at hrl
        have hor := or_join (lim (trm xs) (j + 1)) (lim (trm xs) j) bx2 bx
        have hor0 := or_join 0 (lim (trm xs) j) (by omega) bx
        have hst : val (zs ++ [(lim (trm xs) (j + 1) * 4294967296 + lim (trm xs) j) / 2 ^ r % 4294967296]) = val ((trm xs).drop q) / 2 ^ r % pw (zs.length + 1) := by
          rw [val_snoc, mod_step, heq.out, hrl]
        have Hst := Lib.hid hst
        obtain ⟨H, hH⟩ : ∃ H, H = lim (trm xs) (j + 1) * 4294967296 + lim (trm xs) j := ⟨_, rfl⟩
        have hHb : H < 18446744073709551616 := by omega
        obtain ⟨G, hG⟩ : ∃ G, G = H / 2 ^ r := ⟨_, rfl⟩
        have hGb : G < 18446744073709551616 := by rw [hG]; exact Nat.lt_of_le_of_lt (Nat.div_le_self _ _) hHb
        have hG1 : (H : Int) / 2 ^ r = (G : Int) := by rw [hG, Int.natCast_ediv, Int.natCast_pow]; rfl
        rw [← hH] at hor Hst
        rw [← hG] at Hst
        clear hst hrl heq hG
        by_cases hkB : j + 1 < (trm xs).length
        · have hx2 := (hA.ext hext).cell (j + 1) hkB
          have hix2 := ixe hA (trm xs).length rfl ((j : Int) + 1) (j + 1) (by omega) hkB wr
          clear hor0 hH
          go_wp2_with (at_builtin; refine push (wi := w) rfl _ _ rfl _ _ zs _ rfl rfl hown _ ?_ ?_ rfl ?_ rfl hext ?_; omega; omega; omega; intro ao' c' w2 hown2 hext2)
          go_roundw
          case rel => exact ⟨j + 1, ao', c', zs ++ [G % 4294967296], by omega, by omega, by go_num, by simp, by unfold Hid; have := hzl.out; simp; omega, hown2.snocEq (by omega), hext2, by unfold Hid; rw [List.length_append]; exact Hst.out⟩
          case measure => simp [intOf]; try omega
        · have hl0 : lim (trm xs) (j + 1) = 0 := lim_of_le (by omega)
          rw [hl0] at hH
          have hH2 : H = lim (trm xs) j := by omega
          rw [← hH2] at hx bx
          clear hH hor hor0 hl0 hH2 bx2
          have hor1 : bits BinOp.or .u64 0 (H : Int) = (H : Int) := by have := or_join 0 H (by omega) bx; simpa using this
          go_wp2_with (at_builtin; refine push (wi := w) rfl _ _ rfl _ _ zs _ rfl rfl hown _ ?_ ?_ rfl ?_ rfl hext ?_; omega; omega; omega; intro ao' c' w2 hown2 hext2)
          go_roundw
          case rel => exact ⟨j + 1, ao', c', zs ++ [G % 4294967296], by omega, by omega, by go_num, by simp, by unfold Hid; have := hzl.out; simp; omega, hown2.snocEq (by omega), hext2, by unfold Hid; rw [List.length_append]; exact Hst.out⟩
          case measure => simp [intOf]; try omega
      · have hv : val zs = val (trm xs) / 2 ^ K := by
          rw [heq.out, Hv.out]
          apply Nat.mod_eq_of_lt
          refine Nat.lt_of_le_of_lt (Nat.div_le_self _ _) (val_lt_pw (Lb_drop hA.lb q) ?_)
          have := hzl.out
          rw [List.length_drop]; omega
        have HV := Lib.hid hv
        clear hv heq
        go_wp2_with fail
        refine (Trim_got _ _ _ _ _ rfl hown.rd (by omega)).mono ?_
        intro e w' hg
        rw [HV.out] at hg
        obtain ⟨ao3, c3, zs3, rfl, h3⟩ := hg.from hext
        go_wp2_with fail
        go_ret
        exact ⟨ao3, c3, zs3, rfl, h3⟩
  · have hv : val (trm xs) / 2 ^ K = 0 := by
      rw [Hv.out, List.drop_eq_nil_of_le (by omega)]; simp [val]
    rw [hv]
    clear hv
    go_enter Try.func109, Try.ntmps109
    go_wp2_with fail
    refine (trim_any ao _ c xs w rfl ha).mono ?_
    rintro e w' ⟨rfl, rfl⟩
    go_wp2_with fail
    go_ret
    exact ⟨none, 0, [], rfl, Own.nil _ _, canon_nil, rfl, Ext.refl _⟩
theorem Right_any (ao : Option Addr) (n c : Nat) (xs : List Nat) (E : Int) (K : Nat) (w : World) (hn : n = xs.length) (hE : E = (K : Int)) (hE2 : K < 9223372036854775808) (ha : Rd w ao c xs) (hl : xs.length ≤ 1000000) :
    Calls Try.prog 109 #[.slice ao n c, .int .i64 E] w (GotN w (val xs / 2 ^ K)) := Right_max ao n c xs E K w hn (by omega) hE2 ha hl
theorem Right_neg (ao : Option Addr) (n c : Nat) (xs : List Nat) (E : Int) (w : World) (hn : n = xs.length) (hE : E < 0) (ha : Rd w ao c xs) (hl : xs.length ≤ 1000000) :
    Calls Try.prog 109 #[.slice ao n c, .int .i64 E] w (GotN w (val xs)) := by
  have h := Right_max ao n c xs E 0 w hn (by omega) (by omega) ha hl
  rwa [Nat.pow_zero, Nat.div_one] at h
end Go.Proofs.Ytehbfobfkpejoaa
