/-
  Contracts of the reference's Bits, Bit, twice.
-/
import Derived.Test.YtehbfobfkpejoaaBitP
import Derived.Test.YtehbfobfkpejoaaRefM
namespace Go.Proofs.Ytehbfobfkpejoaa
open Go.RowKit

/-- a plain number as it is answered -/
def GotI (w : World) (k : Nat) (e : Ending) (w' : World) : Prop := e = .returned (.int .i64 k) ∧ Ext w w'

set_option maxRecDepth 100000 in
set_option maxHeartbeats 1000000 in
theorem RBits_any (ao : Option Addr) (n c : Nat) (xs : List Nat) (w : World) (hn : n = xs.length) (ha : Rd w ao c xs) (hl : xs.length ≤ 1000000) :
    Calls Try.prog 98 #[.slice ao n c] w (GotI w (nb (val xs))) := by
  subst hn
  go_enter Try.func98, Try.ntmps98
  go_wp2_with fail
  refine (RTrim_any _ _ _ xs _ rfl ha (by omega)).mono ?_
  rintro e w1 ⟨to, tc, tz, rfl, t1, t2, t3, t4⟩
  have lt : tz.length ≤ xs.length := canon_len t2 (by rw [t3]; exact val_lt_pw ha.lb (Nat.le_refl _))
  replace t3 := Lib.hid t3
  rcases Nat.eq_zero_or_pos tz.length with h0 | hp
  · have e0 : tz = [] := List.length_eq_zero_iff.1 h0
    subst e0
    clear h0
    go_wp2_with fail
    go_ret
    exact ⟨by rw [← t3.out]; rfl, t4⟩
  · have hb := Lib.hid (nb_canon t2 hp)
    have hd : ((tz.length : Int) == 0) = false := beq_eq_false_iff_ne.2 (by omega)
    have hx := t1.rd.cell (tz.length - 1) (by omega)
    have hix := ixe t1.rd tz.length rfl ((tz.length : Int) - 1) (tz.length - 1) (by omega) (by omega) w1
    have bx := lim_lt t2.1 (tz.length - 1)
    obtain ⟨top, htop⟩ : ∃ top, top = lim tz (tz.length - 1) := ⟨_, rfl⟩
    rw [← htop] at hx bx hb
    clear htop
    have bn := nb_le (v := top) (k := 32) bx
    have ec : 32 * ((tz.length : Int) - 1) = ((32 * (tz.length - 1) : Nat) : Int) := by omega
    have Ec := Lib.hid ec
    clear ec
    go_wp2_with fail
    rw [Ec.out]
    go_loop [4, 5] (fun k t => ∃ (j x : Nat), k = .int .i64 j ∧ t = .int .u32 x ∧ x < 4294967296 ∧ j ≤ 40000000 ∧ Hid (j + nb x = nb (val tz)) ∧ Hid (nb x ≤ 32 ∧ j + nb x ≤ 32 * xs.length)) (fun _ t => (intOf t).toNat)
    case atStart => exact ⟨_, top, rfl, rfl, bx, by omega, hb.out.symm, bn, by omega⟩
    case round =>
      obtain ⟨j, x, rfl, rfl, hx1, hj, hv, hv2⟩ := hrel
      rcases Nat.eq_zero_or_pos x with h0 | hp1
      · subst h0
        have hv3 : j = nb (val tz) := hv.out
        have Hv3 := Lib.hid hv3
        clear hv3
        go_wp2_with fail
        go_ret
        exact ⟨by rw [← t3.out, ← Hv3.out]; rfl, t4⟩
      · have hh : Hid (nb x = nb (x / 2) + 1) := nb_half (by omega)
        have hj1 : j + 1 ≤ 32 * xs.length := by have := hv2.out; have := hh.out; omega
        go_wp2_with fail
        go_round
        case rel => exact ⟨j + 1, x / 2, by go_num, by simp, by omega, by omega, by unfold Hid; have := hv.out; have := hh.out; omega, by unfold Hid; have := hv2.out; have := hh.out; omega⟩
        case measure => simp [intOf]; omega

set_option maxRecDepth 100000 in
set_option maxHeartbeats 1000000 in
theorem RBit_any (ao : Option Addr) (n c : Nat) (xs : List Nat) (E : Int) (i : Nat) (w : World) (hn : n = xs.length) (hE : E = (i : Int)) (hi : i < 9223372036854775808) (ha : Rd w ao c xs) (hl : xs.length ≤ 1000000) :
    Calls Try.prog 100 #[.slice ao n c, .int .i64 E] w fun e w' => e = .returned (.bool (tb (val xs) i)) ∧ w = w' := by
  subst hn hE
  by_cases hlt : i < 32 * xs.length
  · have hb := Lib.hid (bit_lim ha.lb i)
    have hd : decide (32 * (xs.length : Int) ≤ (i : Int)) = false := decide_eq_false (by omega)
    have hx := ha.cell (i / 32) (by omega)
    have hix := ixe ha xs.length rfl ((i : Int) / 32) (i / 32) (by omega) (by omega) w
    have bx := lim_lt ha.lb (i / 32)
    obtain ⟨top, htop⟩ : ∃ top, top = lim xs (i / 32) := ⟨_, rfl⟩
    rw [← htop] at hx bx hb
    clear htop
    have er : ((i : Int) % 32) = ((i % 32 : Nat) : Int) := by omega
    obtain ⟨r, hr⟩ : ∃ r, r = i % 32 := ⟨_, rfl⟩
    rw [← hr] at hb er
    have br : r < 32 := by omega
    have Er := Lib.hid er
    clear er hr
    go_enter Try.func100, Try.ntmps100
    go_wp2_with fail
    go_loop [5, 6] (fun t k => ∃ (j x : Nat), k = .int .i64 j ∧ t = .int .u32 x ∧ x < 4294967296 ∧ j ≤ r ∧ Hid (x = top / 2 ^ j)) (fun _ k => (r - intOf k).toNat)
    case atStart => exact ⟨0, top, rfl, rfl, bx, by omega, by simp [Hid]⟩
    case round =>
      obtain ⟨j, x, rfl, rfl, hx1, hj, hv⟩ := hrel
      by_cases hjr : j < r
      · have hd2 : decide ((j : Int) < (i : Int) % 32) = true := decide_eq_true (by rw [Er.out]; omega)
        go_wp2_with fail
        go_round
        case rel => exact ⟨j + 1, x / 2, by go_num, by simp, by omega, by omega, by unfold Hid; rw [Nat.pow_succ, ← Nat.div_div_eq_div_mul, ← hv.out]⟩
        case measure => simp [intOf]; omega
      · have hd2 : decide ((j : Int) < (i : Int) % 32) = false := decide_eq_false (by rw [Er.out]; omega)
        obtain rfl : j = r := by omega
        have hres : Hid (tb (val xs) i = ((x : Int) % 2 == 1)) := by
          unfold Hid tb
          rw [hb.out, ← hv.out, Bool.eq_iff_iff]
          simp
          omega
        go_wp2_with fail
        go_ret
        exact ⟨by rw [hres.out]; rfl, rfl⟩
  · have hres := Lib.hid (tb_ge ha.lb (Nat.le_of_not_lt hlt))
    have hd : decide (32 * (xs.length : Int) ≤ (i : Int)) = true := decide_eq_true (by omega)
    go_enter Try.func100, Try.ntmps100
    go_wp2_with fail
    go_ret
    exact ⟨by rw [hres.out]; rfl, rfl⟩

set_option maxRecDepth 100000 in
set_option maxHeartbeats 1000000 in
theorem RBit_neg (ao : Option Addr) (n c : Nat) (E : Int) (w : World) (hE : E < 0) :
    Calls Try.prog 100 #[.slice ao n c, .int .i64 E] w fun e w' => e = .returned (.bool false) ∧ w = w' := by
  go_enter Try.func100, Try.ntmps100
  go_wp2_with fail
  go_ret
  exact ⟨rfl, rfl⟩

def b2n (b : Bool) : Nat := if b then 1 else 0
set_option maxRecDepth 100000 in
set_option maxHeartbeats 1000000 in
theorem twice_any (ao : Option Addr) (n c : Nat) (xs : List Nat) (b : Bool) (w : World) (hn : n = xs.length) (ha : Rd w ao c xs) (hl : xs.length ≤ 900000) :
    Calls Try.prog 99 #[.slice ao n c, .bool b] w (GotN w (2 * val xs + b2n b)) := by
  subst hn
  cases b
  · have he : Hid (2 * val xs + b2n false = val xs * 2) := by unfold Hid b2n; simp; omega
    go_enter Try.func99, Try.ntmps99
    go_wp2_with fail
    refine (small_any _ _ _ xs _ 2 _ rfl rfl ha (by omega) (by omega)).mono ?_
    rintro e w1 ⟨so, sc, sz, rfl, p1, p2, p3, p4⟩
    replace p3 := Lib.hid p3
    go_wp2_with fail
    go_ret
    exact ⟨so, sc, sz, rfl, p1, p2, p3.out.trans he.out.symm, p4⟩
  · have he : Hid (2 * val xs + b2n true = val xs * 2 + 1) := by unfold Hid b2n; simp; omega
    have hm : val xs * 2 < pw (xs.length + 1) := by
      have := val_lt ha.lb; rw [pw_succ]; omega
    replace hm := Lib.hid hm
    go_enter Try.func99, Try.ntmps99
    go_wp2_with fail
    refine (small_any _ _ _ xs _ 2 _ rfl rfl ha (by omega) (by omega)).mono ?_
    rintro e w1 ⟨so, sc, sz, rfl, p1, p2, p3, p4⟩
    have ls : sz.length ≤ xs.length + 1 := canon_len p2 (by rw [p3]; exact hm.out)
    replace p3 := Lib.hid p3
    go_wp2_with fail
    refine (RAdd_any _ _ _ sz _ _ _ [1] _ rfl rfl (p1.rd.ext ((Ext.refl _).alloc _)) (row1 _ 1 1 rfl (by omega)).rd (by omega) (by simp)).mono ?_
    intro e w2 hg
    have hg2 := hg.from ((Ext.refl _).alloc _)
    obtain ⟨ro, rc, rz, rfl, q1, q2, q3, q4⟩ := hg2
    replace q3 := Lib.hid q3
    go_wp2_with fail
    go_ret
    exact ⟨ro, rc, rz, rfl, q1.mono p4.size, q2, by rw [q3.out, he.out, p3.out]; simp [val], p4.trans q4⟩
end Go.Proofs.Ytehbfobfkpejoaa
