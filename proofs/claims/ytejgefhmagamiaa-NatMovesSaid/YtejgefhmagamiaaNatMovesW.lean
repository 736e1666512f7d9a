/-
  The walk of the statement NatMoves.
-/
import Derived.Test.YtejgefhmagamiaaMoving
namespace Go.Proofs.Ytejgefhmagamiaa
open Go.RowKit

/-- a number moved up, as it is answered: the error's number and the value -/
def leftN (v : Nat) (n : Int) : Int × Nat := if n < 0 then (1, 0) else if 1048576 < n then (2, 0) else (0, v * 2 ^ n.toNat)
def rightN (v : Nat) (n : Int) : Nat := v / 2 ^ n.toNat
def tbI (v : Nat) (n : Int) : Bool := if n < 0 then false else tb v n.toNat
theorem leftN_bd {v L : Nat} (n : Int) (hv : v < pw L) : ∃ M, M ≤ L + 40000 ∧ (leftN v n).2 < pw M := by
  refine ⟨L + 32768, by omega, ?_⟩
  unfold leftN
  split
  · exact pw_pos _
  · split
    · exact pw_pos _
    · have h1 : 2 ^ n.toNat ≤ pw 32768 := pow_le_pw (by omega)
      rw [pw_add]
      exact Nat.mul_lt_mul_of_lt_of_le hv h1 (pw_pos _)
theorem LeftA_any (ao : Option Addr) (n c : Nat) (xs : List Nat) (E : Int) (w : World) (hn : n = xs.length) (ha : Rd w ao c xs) (hl : xs.length ≤ 100000) :
    Calls Try.prog 38 #[.slice ao n c, .int .i64 E] w (GotE w (leftN (val xs) E).2 (leftN (val xs) E).1) := by
  unfold leftN
  by_cases h1 : E < 0
  · rw [if_pos h1]; exact Left_neg ao n c E w h1
  · rw [if_neg h1]
    by_cases h2 : 1048576 < E
    · rw [if_pos h2]; exact Left_long ao n c E w h2
    · rw [if_neg h2]; exact Left_any ao n c xs E E.toNat w hn (by omega) ha (by omega) (by omega)
theorem RLeftA_any (ao : Option Addr) (n c : Nat) (xs : List Nat) (E : Int) (w : World) (hn : n = xs.length) (ha : Rd w ao c xs) (hl : xs.length ≤ 100000) :
    Calls Try.prog 39 #[.slice ao n c, .int .i64 E] w (GotE w (leftN (val xs) E).2 (leftN (val xs) E).1) := by
  unfold leftN
  by_cases h1 : E < 0
  · rw [if_pos h1]; exact RLeft_neg ao n c E w h1
  · rw [if_neg h1]
    by_cases h2 : 1048576 < E
    · rw [if_pos h2]; exact RLeft_long ao n c E w h2
    · rw [if_neg h2]; exact RLeft_any ao n c xs E E.toNat w hn (by omega) ha (by omega) (by omega)
theorem RightA_any (ao : Option Addr) (n c : Nat) (xs : List Nat) (E : Int) (w : World) (hn : n = xs.length) (hE : -9223372036854775808 ≤ E ∧ E ≤ 9223372036854775807) (ha : Rd w ao c xs) (hl : xs.length ≤ 100000) :
    Calls Try.prog 40 #[.slice ao n c, .int .i64 E] w (GotN w (rightN (val xs) E)) :=
  Right_max ao n c xs E E.toNat w hn (by omega) (by omega) ha (by omega)
theorem RRightA_any (ao : Option Addr) (n c : Nat) (xs : List Nat) (E : Int) (w : World) (hn : n = xs.length) (ha : Rd w ao c xs) (hl : xs.length ≤ 100000) :
    Calls Try.prog 41 #[.slice ao n c, .int .i64 E] w (GotN w (rightN (val xs) E)) := by
  unfold rightN
  by_cases h1 : E < 0
  · rw [show E.toNat = 0 by omega, Nat.pow_zero, Nat.div_one]; exact RRight_neg ao n c xs E w hn h1 ha hl
  · by_cases h2 : E.toNat < 32 * xs.length
    · exact RRight_pos ao n c xs E E.toNat w hn (by omega) ha hl h2
    · exact RRight_big ao n c xs E E.toNat w hn (by omega) ha hl (by omega)
theorem BitA_any (ao : Option Addr) (n c : Nat) (xs : List Nat) (E : Int) (w : World) (hn : n = xs.length) (hE : -9223372036854775808 ≤ E ∧ E ≤ 9223372036854775807) (ha : Rd w ao c xs) (hl : xs.length ≤ 100000) :
    Calls Try.prog 44 #[.slice ao n c, .int .i64 E] w fun e w' => e = .returned (.bool (tbI (val xs) E)) ∧ w = w' := by
  unfold tbI
  by_cases h1 : E < 0
  · rw [if_pos h1]; exact Bit_neg ao n c E w h1
  · rw [if_neg h1]; exact Bit_any ao n c xs E E.toNat w hn (by omega) (by omega) ha (by omega)
theorem RBitA_any (ao : Option Addr) (n c : Nat) (xs : List Nat) (E : Int) (w : World) (hn : n = xs.length) (hE : -9223372036854775808 ≤ E ∧ E ≤ 9223372036854775807) (ha : Rd w ao c xs) (hl : xs.length ≤ 100000) :
    Calls Try.prog 45 #[.slice ao n c, .int .i64 E] w fun e w' => e = .returned (.bool (tbI (val xs) E)) ∧ w = w' := by
  unfold tbI
  by_cases h1 : E < 0
  · rw [if_pos h1]; exact RBit_neg ao n c E w h1
  · rw [if_neg h1]; exact RBit_any ao n c xs E E.toNat w hn (by omega) (by omega) ha (by omega)

set_option maxHeartbeats 4000000 in
theorem natMoves_walk (a0 : Option Addr) (c0 : Nat) (z0 : List Nat) (N : Int) (w : World) (hA : Rd w a0 c0 z0) (hN : -9223372036854775808 ≤ N ∧ N ≤ 9223372036854775807) :
    Calls Try.prog 11 #[.slice a0 z0.length c0, .int .i64 N] w fun e w' => e = .returned (.bool true) ∧ Ext w w' := by
  by_cases hm0 : z0.length ≤ 60
  · by_cases h40 : N ≤ 3000
    · replace hN := Lib.hid hN
      go_enter Try.func11, Try.ntmps11
      go_wp2_with fail
      refine (moving_any _).mono ?_
      rintro e w1 ⟨rfl, hE⟩
      replace hA := hA.ext hE
      obtain ⟨M, hM, hB⟩ := leftN_bd (N) (val_lt_pw hA.lb hm0)
      replace hB := Lib.hid hB
      go_wp2_with fail
      refine (LeftA_any _ _ _ z0 _ _ rfl hA (by omega)).mono ?_
      rintro e w1 ⟨Xa, Xc, Xz, rfl, Xo, Xk, Xv, x⟩
      replace Xv := Lib.hid Xv
      have Xr := Xo.rd
      have st := x
      replace hA := hA.ext st
      replace hE := hE.trans st
      clear st x
      go_wp2_with fail
      refine (RLeftA_any _ _ _ z0 _ _ rfl hA (by omega)).mono ?_
      rintro e w2 ⟨Ya, Yc, Yz, rfl, Yo, Yk, Yv, x⟩
      replace Yv := Lib.hid Yv
      have Yr := Yo.rd
      have st := x
      replace hA := hA.ext st
      replace Xr := Xr.ext st
      replace hE := hE.trans st
      clear st x
      have lY : Yz.length ≤ M := canon_len Yk (by rw [Yv.out]; exact hB.out)
      have hYv : Hid (val Xz = val Yz) := Xv.out.trans Yv.out.symm
      obtain ⟨er, her⟩ : ∃ er, er = (leftN (val z0) (N)).1 := ⟨_, rfl⟩
      rw [← her]
      clear her Xv Yv
      go_wp2_with fail
      refine (RTrim_any _ _ _ Yz _ rfl Yr (by omega)).mono ?_
      rintro e w3 ⟨Ta, Tc, Tz, rfl, To, Tk, Tv, x⟩
      replace Tv := Lib.hid Tv
      have Tr := To.rd
      have st := x
      replace hA := hA.ext st
      replace Xr := Xr.ext st
      replace Yr := Yr.ext st
      replace hE := hE.trans st
      clear st x
      go_wp2_with fail
      refine (same_yes _ _ _ Xz _ _ _ Tz _ rfl rfl Xr Tr Xk Tk (hYv.out.trans Tv.out.symm)).mono ?_
      rintro e w4 ⟨rfl, x⟩
      replace x := x.ext
      have st := x
      replace hA := hA.ext st
      replace Xr := Xr.ext st
      replace Yr := Yr.ext st
      replace Tr := Tr.ext st
      replace hE := hE.trans st
      clear st x
      go_wp2_with fail
      refine (RightA_any _ _ _ z0 _ _ rfl hN.out hA (by omega)).mono ?_
      rintro e w5 ⟨Ra, Rc, Rz, rfl, Ro, Rk, Rv, x⟩
      replace Rv := Lib.hid Rv
      have Rr := Ro.rd
      have st := x
      replace hA := hA.ext st
      replace hE := hE.trans st
      clear st x
      go_wp2_with fail
      refine (RRightA_any _ _ _ z0 _ _ rfl hA (by omega)).mono ?_
      rintro e w6 ⟨Sa, Sc, Sz, rfl, So, Sk, Sv, x⟩
      replace Sv := Lib.hid Sv
      have Sr := So.rd
      have st := x
      replace hA := hA.ext st
      replace Rr := Rr.ext st
      replace hE := hE.trans st
      clear st x
      go_wp2_with fail
      refine (same_yes _ _ _ Rz _ _ _ Sz _ rfl rfl Rr Sr Rk Sk (Rv.out.trans Sv.out.symm)).mono ?_
      rintro e w7 ⟨rfl, x⟩
      replace x := x.ext
      have st := x
      replace hA := hA.ext st
      replace Rr := Rr.ext st
      replace Sr := Sr.ext st
      replace hE := hE.trans st
      clear st x
      go_wp2_with fail
      refine (Bits_any _ _ _ z0 _ rfl hA (by omega)).mono ?_
      rintro e w' ⟨rfl, rfl⟩
      go_wp2_with fail
      refine (RBits_any _ _ _ z0 _ rfl hA (by omega)).mono ?_
      rintro e w8 ⟨rfl, x⟩
      have st := x
      replace hA := hA.ext st
      replace hE := hE.trans st
      clear st x
      go_wp2_with fail
      refine (BitA_any _ _ _ z0 _ _ rfl hN.out hA (by omega)).mono ?_
      rintro e w' ⟨rfl, rfl⟩
      go_wp2_with fail
      refine (RBitA_any _ _ _ z0 _ _ rfl hN.out hA (by omega)).mono ?_
      rintro e w' ⟨rfl, rfl⟩
      go_wp2_with fail
      refine (BitA_any _ _ _ z0 7 _ rfl ⟨by omega, by omega⟩ hA (by omega)).mono ?_
      rintro e w' ⟨rfl, rfl⟩
      go_wp2_with fail
      refine (RBitA_any _ _ _ z0 7 _ rfl ⟨by omega, by omega⟩ hA (by omega)).mono ?_
      rintro e w' ⟨rfl, rfl⟩
      go_wp2_with fail
      go_ret
      exact ⟨by simp, hE⟩
    by_cases hbig : N ≤ 1048576
    · obtain ⟨k, rfl⟩ := Int.eq_ofNat_of_zero_le (show 0 ≤ N by omega)
      have hnd : bits .and .i64 (k : Int) 2047 = ((k % 2048 : Nat) : Int) := and_i64_mask k 2047 11 (by omega) (by omega) rfl
      have hk : k % 2048 ≤ 2047 := by omega
      obtain ⟨j, hj⟩ : ∃ j, j = k % 2048 := ⟨_, rfl⟩
      rw [← hj] at hnd hk
      clear hj
      go_enter Try.func11, Try.ntmps11
      go_wp2_with fail
      refine (moving_any _).mono ?_
      rintro e w1 ⟨rfl, hE⟩
      replace hA := hA.ext hE
      obtain ⟨M, hM, hB⟩ := leftN_bd ((j : Int)) (val_lt_pw hA.lb hm0)
      replace hB := Lib.hid hB
      go_wp2_with fail
      refine (LeftA_any _ _ _ z0 _ _ rfl hA (by omega)).mono ?_
      rintro e w1 ⟨Xa, Xc, Xz, rfl, Xo, Xk, Xv, x⟩
      replace Xv := Lib.hid Xv
      have Xr := Xo.rd
      have st := x
      replace hA := hA.ext st
      replace hE := hE.trans st
      clear st x
      go_wp2_with fail
      refine (RLeftA_any _ _ _ z0 _ _ rfl hA (by omega)).mono ?_
      rintro e w2 ⟨Ya, Yc, Yz, rfl, Yo, Yk, Yv, x⟩
      replace Yv := Lib.hid Yv
      have Yr := Yo.rd
      have st := x
      replace hA := hA.ext st
      replace Xr := Xr.ext st
      replace hE := hE.trans st
      clear st x
      have lY : Yz.length ≤ M := canon_len Yk (by rw [Yv.out]; exact hB.out)
      have hYv : Hid (val Xz = val Yz) := Xv.out.trans Yv.out.symm
      obtain ⟨er, her⟩ : ∃ er, er = (leftN (val z0) ((j : Int))).1 := ⟨_, rfl⟩
      rw [← her]
      clear her Xv Yv
      go_wp2_with fail
      refine (RTrim_any _ _ _ Yz _ rfl Yr (by omega)).mono ?_
      rintro e w3 ⟨Ta, Tc, Tz, rfl, To, Tk, Tv, x⟩
      replace Tv := Lib.hid Tv
      have Tr := To.rd
      have st := x
      replace hA := hA.ext st
      replace Xr := Xr.ext st
      replace Yr := Yr.ext st
      replace hE := hE.trans st
      clear st x
      go_wp2_with fail
      refine (same_yes _ _ _ Xz _ _ _ Tz _ rfl rfl Xr Tr Xk Tk (hYv.out.trans Tv.out.symm)).mono ?_
      rintro e w4 ⟨rfl, x⟩
      replace x := x.ext
      have st := x
      replace hA := hA.ext st
      replace Xr := Xr.ext st
      replace Yr := Yr.ext st
      replace Tr := Tr.ext st
      replace hE := hE.trans st
      clear st x
      go_wp2_with fail
      refine (RightA_any _ _ _ z0 _ _ rfl ⟨by omega, by omega⟩ hA (by omega)).mono ?_
      rintro e w5 ⟨Ra, Rc, Rz, rfl, Ro, Rk, Rv, x⟩
      replace Rv := Lib.hid Rv
      have Rr := Ro.rd
      have st := x
      replace hA := hA.ext st
      replace hE := hE.trans st
      clear st x
      go_wp2_with fail
      refine (RRightA_any _ _ _ z0 _ _ rfl hA (by omega)).mono ?_
      rintro e w6 ⟨Sa, Sc, Sz, rfl, So, Sk, Sv, x⟩
      replace Sv := Lib.hid Sv
      have Sr := So.rd
      have st := x
      replace hA := hA.ext st
      replace Rr := Rr.ext st
      replace hE := hE.trans st
      clear st x
      go_wp2_with fail
      refine (same_yes _ _ _ Rz _ _ _ Sz _ rfl rfl Rr Sr Rk Sk (Rv.out.trans Sv.out.symm)).mono ?_
      rintro e w7 ⟨rfl, x⟩
      replace x := x.ext
      have st := x
      replace hA := hA.ext st
      replace Rr := Rr.ext st
      replace Sr := Sr.ext st
      replace hE := hE.trans st
      clear st x
      go_wp2_with fail
      refine (Bits_any _ _ _ z0 _ rfl hA (by omega)).mono ?_
      rintro e w' ⟨rfl, rfl⟩
      go_wp2_with fail
      refine (RBits_any _ _ _ z0 _ rfl hA (by omega)).mono ?_
      rintro e w8 ⟨rfl, x⟩
      have st := x
      replace hA := hA.ext st
      replace hE := hE.trans st
      clear st x
      go_wp2_with fail
      refine (BitA_any _ _ _ z0 _ _ rfl ⟨by omega, by omega⟩ hA (by omega)).mono ?_
      rintro e w' ⟨rfl, rfl⟩
      go_wp2_with fail
      refine (RBitA_any _ _ _ z0 _ _ rfl ⟨by omega, by omega⟩ hA (by omega)).mono ?_
      rintro e w' ⟨rfl, rfl⟩
      go_wp2_with fail
      refine (BitA_any _ _ _ z0 7 _ rfl ⟨by omega, by omega⟩ hA (by omega)).mono ?_
      rintro e w' ⟨rfl, rfl⟩
      go_wp2_with fail
      refine (RBitA_any _ _ _ z0 7 _ rfl ⟨by omega, by omega⟩ hA (by omega)).mono ?_
      rintro e w' ⟨rfl, rfl⟩
      go_wp2_with fail
      go_ret
      exact ⟨by simp, hE⟩
    replace hN := Lib.hid hN
    go_enter Try.func11, Try.ntmps11
    go_wp2_with fail
    refine (moving_any _).mono ?_
    rintro e w1 ⟨rfl, hE⟩
    replace hA := hA.ext hE
    obtain ⟨M, hM, hB⟩ := leftN_bd (N) (val_lt_pw hA.lb hm0)
    replace hB := Lib.hid hB
    go_wp2_with fail
    refine (LeftA_any _ _ _ z0 _ _ rfl hA (by omega)).mono ?_
    rintro e w1 ⟨Xa, Xc, Xz, rfl, Xo, Xk, Xv, x⟩
    replace Xv := Lib.hid Xv
    have Xr := Xo.rd
    have st := x
    replace hA := hA.ext st
    replace hE := hE.trans st
    clear st x
    go_wp2_with fail
    refine (RLeftA_any _ _ _ z0 _ _ rfl hA (by omega)).mono ?_
    rintro e w2 ⟨Ya, Yc, Yz, rfl, Yo, Yk, Yv, x⟩
    replace Yv := Lib.hid Yv
    have Yr := Yo.rd
    have st := x
    replace hA := hA.ext st
    replace Xr := Xr.ext st
    replace hE := hE.trans st
    clear st x
    have lY : Yz.length ≤ M := canon_len Yk (by rw [Yv.out]; exact hB.out)
    have hYv : Hid (val Xz = val Yz) := Xv.out.trans Yv.out.symm
    obtain ⟨er, her⟩ : ∃ er, er = (leftN (val z0) (N)).1 := ⟨_, rfl⟩
    rw [← her]
    clear her Xv Yv
    go_wp2_with fail
    refine (RTrim_any _ _ _ Yz _ rfl Yr (by omega)).mono ?_
    rintro e w3 ⟨Ta, Tc, Tz, rfl, To, Tk, Tv, x⟩
    replace Tv := Lib.hid Tv
    have Tr := To.rd
    have st := x
    replace hA := hA.ext st
    replace Xr := Xr.ext st
    replace Yr := Yr.ext st
    replace hE := hE.trans st
    clear st x
    go_wp2_with fail
    refine (same_yes _ _ _ Xz _ _ _ Tz _ rfl rfl Xr Tr Xk Tk (hYv.out.trans Tv.out.symm)).mono ?_
    rintro e w4 ⟨rfl, x⟩
    replace x := x.ext
    have st := x
    replace hA := hA.ext st
    replace Xr := Xr.ext st
    replace Yr := Yr.ext st
    replace Tr := Tr.ext st
    replace hE := hE.trans st
    clear st x
    go_wp2_with fail
    refine (RightA_any _ _ _ z0 _ _ rfl hN.out hA (by omega)).mono ?_
    rintro e w5 ⟨Ra, Rc, Rz, rfl, Ro, Rk, Rv, x⟩
    replace Rv := Lib.hid Rv
    have Rr := Ro.rd
    have st := x
    replace hA := hA.ext st
    replace hE := hE.trans st
    clear st x
    go_wp2_with fail
    refine (RRightA_any _ _ _ z0 _ _ rfl hA (by omega)).mono ?_
    rintro e w6 ⟨Sa, Sc, Sz, rfl, So, Sk, Sv, x⟩
    replace Sv := Lib.hid Sv
    have Sr := So.rd
    have st := x
    replace hA := hA.ext st
    replace Rr := Rr.ext st
    replace hE := hE.trans st
    clear st x
    go_wp2_with fail
    refine (same_yes _ _ _ Rz _ _ _ Sz _ rfl rfl Rr Sr Rk Sk (Rv.out.trans Sv.out.symm)).mono ?_
    rintro e w7 ⟨rfl, x⟩
    replace x := x.ext
    have st := x
    replace hA := hA.ext st
    replace Rr := Rr.ext st
    replace Sr := Sr.ext st
    replace hE := hE.trans st
    clear st x
    go_wp2_with fail
    refine (Bits_any _ _ _ z0 _ rfl hA (by omega)).mono ?_
    rintro e w' ⟨rfl, rfl⟩
    go_wp2_with fail
    refine (RBits_any _ _ _ z0 _ rfl hA (by omega)).mono ?_
    rintro e w8 ⟨rfl, x⟩
    have st := x
    replace hA := hA.ext st
    replace hE := hE.trans st
    clear st x
    go_wp2_with fail
    refine (BitA_any _ _ _ z0 _ _ rfl hN.out hA (by omega)).mono ?_
    rintro e w' ⟨rfl, rfl⟩
    go_wp2_with fail
    refine (RBitA_any _ _ _ z0 _ _ rfl hN.out hA (by omega)).mono ?_
    rintro e w' ⟨rfl, rfl⟩
    go_wp2_with fail
    refine (BitA_any _ _ _ z0 7 _ rfl ⟨by omega, by omega⟩ hA (by omega)).mono ?_
    rintro e w' ⟨rfl, rfl⟩
    go_wp2_with fail
    refine (RBitA_any _ _ _ z0 7 _ rfl ⟨by omega, by omega⟩ hA (by omega)).mono ?_
    rintro e w' ⟨rfl, rfl⟩
    go_wp2_with fail
    go_ret
    exact ⟨by simp, hE⟩
  · have hl : 60 < z0.length := by omega
    clear hm0
    go_enter Try.func11, Try.ntmps11
    go_wp2_with fail
    refine (moving_any _).mono ?_
    rintro e w1 ⟨rfl, hE⟩
    go_wp2_with fail
    go_ret
    exact ⟨rfl, hE⟩
end Go.Proofs.Ytejgefhmagamiaa
