/-
  The walk of the statement NatPowers.
-/
import Derived.Test.YtejgefhmagamiaaMoving
namespace Go.Proofs.Ytejgefhmagamiaa
open Go.RowKit

theorem powN_lt (v : Nat) (n : Int) : (powN v n).2 < pw 32769 := by
  unfold powN
  split
  · exact pw_pos _
  · split
    · exact pw_pos _
    · rename_i h1 h2
      show v ^ n.toNat < pw 32769
      rcases Nat.eq_zero_or_pos (nb v) with h0 | h0
      · have hv : v = 0 := by
          by_cases e : v = 0
          · exact e
          · have := (nb_pos_iff _).2 e; omega
        rw [hv]
        refine Nat.lt_of_le_of_lt (show 0 ^ n.toNat ≤ 1 from ?_) ?_
        · rcases Nat.eq_zero_or_pos n.toNat with e | e
          · rw [e]; exact Nat.le_refl _
          · rw [Nat.zero_pow e]; omega
        · have h4 : pw 32769 = 4294967296 * pw 32768 := pw_succ 32768
          have := pw_pos 32768
          omega
      · refine pow_fits ?_
        have h3 : ¬ 1048576 / (nb v : Int) < n := fun h => h2 ⟨h0, h⟩
        have e : ((1048576 / nb v : Nat) : Int) = 1048576 / (nb v : Int) := by rw [Int.natCast_ediv]; rfl
        have h4 : nb v * n.toNat ≤ nb v * (1048576 / nb v) := Nat.mul_le_mul_left _ (by omega)
        have h5 := Nat.mul_div_le 1048576 (nb v)
        omega

theorem powN_bd (v : Nat) (n : Int) : ∃ M, M ≤ 40000 ∧ (powN v n).2 < pw M := ⟨32769, by omega, powN_lt v n⟩
set_option maxHeartbeats 4000000 in
theorem natPowers_walk (a0 : Option Addr) (c0 : Nat) (z0 : List Nat) (N : Int) (w : World) (hA : Rd w a0 c0 z0) (_hN : -9223372036854775808 ≤ N ∧ N ≤ 9223372036854775807) :
    Calls Try.prog 12 #[.slice a0 z0.length c0, .int .i64 N] w fun e w' => e = .returned (.bool true) ∧ Ext w w' := by
  by_cases hs : z0.length ≤ 4
  · by_cases h40 : N ≤ 40
    · go_enter Try.func12, Try.ntmps12
      go_wp2_with fail
      refine (moving_any _).mono ?_
      rintro e w1 ⟨rfl, hE⟩
      replace hA := hA.ext hE
      obtain ⟨M, hM, hB⟩ := powN_bd (val z0) (N)
      replace hB := Lib.hid hB
      go_wp2_with fail
      refine (Pow_any _ _ _ z0 _ _ rfl hA (by omega)).mono ?_
      rintro e w1 ⟨Xa, Xc, Xz, rfl, Xo, Xk, Xv, x⟩
      replace Xv := Lib.hid Xv
      have Xr := Xo.rd
      have st := x
      replace hA := hA.ext st
      replace hE := hE.trans st
      clear st x
      go_wp2_with fail
      refine (RPow_any _ _ _ z0 _ _ rfl hA (by omega)).mono ?_
      rintro e w2 ⟨Ya, Yc, Yz, rfl, Yo, Yk, Yv, x⟩
      replace Yv := Lib.hid Yv
      have Yr := Yo.rd
      have st := x
      replace hA := hA.ext st
      replace Xr := Xr.ext st
      replace hE := hE.trans st
      clear st x
      have lY : Yz.length ≤ M := canon_len Yk (by rw [Yv.out]; exact hB.out)
      have hYv : Hid (val Xz = val Yz) := Xv.out.trans Yv.out.symm
      obtain ⟨er, her⟩ : ∃ er, er = (powN (val z0) (N)).1 := ⟨_, rfl⟩
      rw [← her]
      clear her Xv Yv
      go_wp2_with fail
      refine (RTrim_any _ _ _ Yz _ rfl Yr (by omega)).mono ?_
      rintro e w3 ⟨Ta, Tc, Tz, rfl, To, Tk, Tv, x⟩
      replace Tv := Lib.hid Tv
      have Tr := To.rd
      have st := x
      replace Xr := Xr.ext st
      replace Yr := Yr.ext st
      replace hE := hE.trans st
      clear st x
      go_wp2_with fail
      refine (same_yes _ _ _ Xz _ _ _ Tz _ rfl rfl Xr Tr Xk Tk (hYv.out.trans Tv.out.symm)).mono ?_
      rintro e w4 ⟨rfl, x⟩
      replace x := x.ext
      have st := x
      replace Xr := Xr.ext st
      replace Yr := Yr.ext st
      replace Tr := Tr.ext st
      replace hE := hE.trans st
      clear st x
      go_wp2_with fail
      go_ret
      exact ⟨rfl, hE⟩
    by_cases hbig : N ≤ 1048576
    · obtain ⟨k, rfl⟩ := Int.eq_ofNat_of_zero_le (show 0 ≤ N by omega)
      have hnd : bits .and .i64 (k : Int) 31 = ((k % 32 : Nat) : Int) := and_i64_mask k 31 5 (by omega) (by omega) rfl
      have hk : k % 32 ≤ 31 := by omega
      obtain ⟨j, hj⟩ : ∃ j, j = k % 32 := ⟨_, rfl⟩
      rw [← hj] at hnd hk
      clear hj
      go_enter Try.func12, Try.ntmps12
      go_wp2_with fail
      refine (moving_any _).mono ?_
      rintro e w1 ⟨rfl, hE⟩
      replace hA := hA.ext hE
      obtain ⟨M, hM, hB⟩ := powN_bd (val z0) ((j : Int))
      replace hB := Lib.hid hB
      go_wp2_with fail
      refine (Pow_any _ _ _ z0 _ _ rfl hA (by omega)).mono ?_
      rintro e w1 ⟨Xa, Xc, Xz, rfl, Xo, Xk, Xv, x⟩
      replace Xv := Lib.hid Xv
      have Xr := Xo.rd
      have st := x
      replace hA := hA.ext st
      replace hE := hE.trans st
      clear st x
      go_wp2_with fail
      refine (RPow_any _ _ _ z0 _ _ rfl hA (by omega)).mono ?_
      rintro e w2 ⟨Ya, Yc, Yz, rfl, Yo, Yk, Yv, x⟩
      replace Yv := Lib.hid Yv
      have Yr := Yo.rd
      have st := x
      replace hA := hA.ext st
      replace Xr := Xr.ext st
      replace hE := hE.trans st
      clear st x
      have lY : Yz.length ≤ M := canon_len Yk (by rw [Yv.out]; exact hB.out)
      have hYv : Hid (val Xz = val Yz) := Xv.out.trans Yv.out.symm
      obtain ⟨er, her⟩ : ∃ er, er = (powN (val z0) ((j : Int))).1 := ⟨_, rfl⟩
      rw [← her]
      clear her Xv Yv
      go_wp2_with fail
      refine (RTrim_any _ _ _ Yz _ rfl Yr (by omega)).mono ?_
      rintro e w3 ⟨Ta, Tc, Tz, rfl, To, Tk, Tv, x⟩
      replace Tv := Lib.hid Tv
      have Tr := To.rd
      have st := x
      replace Xr := Xr.ext st
      replace Yr := Yr.ext st
      replace hE := hE.trans st
      clear st x
      go_wp2_with fail
      refine (same_yes _ _ _ Xz _ _ _ Tz _ rfl rfl Xr Tr Xk Tk (hYv.out.trans Tv.out.symm)).mono ?_
      rintro e w4 ⟨rfl, x⟩
      replace x := x.ext
      have st := x
      replace Xr := Xr.ext st
      replace Yr := Yr.ext st
      replace Tr := Tr.ext st
      replace hE := hE.trans st
      clear st x
      go_wp2_with fail
      go_ret
      exact ⟨rfl, hE⟩
    by_cases hz : nb (val z0) = 0
    · replace hz := Lib.hid hz
      go_enter Try.func12, Try.ntmps12
      go_wp2_with fail
      refine (moving_any _).mono ?_
      rintro e w1 ⟨rfl, hE⟩
      replace hA := hA.ext hE
      go_wp2_with fail
      refine (RBits_any _ _ _ z0 _ rfl hA (by omega)).mono ?_
      rintro e w1 ⟨rfl, x⟩
      have st := x
      replace hA := hA.ext st
      replace hE := hE.trans st
      clear st x
      rw [hz.out]
      obtain ⟨M, hM, hB⟩ := powN_bd (val z0) (40)
      replace hB := Lib.hid hB
      go_wp2_with fail
      refine (Pow_any _ _ _ z0 _ _ rfl hA (by omega)).mono ?_
      rintro e w2 ⟨Xa, Xc, Xz, rfl, Xo, Xk, Xv, x⟩
      replace Xv := Lib.hid Xv
      have Xr := Xo.rd
      have st := x
      replace hA := hA.ext st
      replace hE := hE.trans st
      clear st x
      go_wp2_with fail
      refine (RPow_any _ _ _ z0 _ _ rfl hA (by omega)).mono ?_
      rintro e w3 ⟨Ya, Yc, Yz, rfl, Yo, Yk, Yv, x⟩
      replace Yv := Lib.hid Yv
      have Yr := Yo.rd
      have st := x
      replace hA := hA.ext st
      replace Xr := Xr.ext st
      replace hE := hE.trans st
      clear st x
      have lY : Yz.length ≤ M := canon_len Yk (by rw [Yv.out]; exact hB.out)
      have hYv : Hid (val Xz = val Yz) := Xv.out.trans Yv.out.symm
      obtain ⟨er, her⟩ : ∃ er, er = (powN (val z0) (40)).1 := ⟨_, rfl⟩
      rw [← her]
      clear her Xv Yv
      go_wp2_with fail
      refine (RTrim_any _ _ _ Yz _ rfl Yr (by omega)).mono ?_
      rintro e w4 ⟨Ta, Tc, Tz, rfl, To, Tk, Tv, x⟩
      replace Tv := Lib.hid Tv
      have Tr := To.rd
      have st := x
      replace Xr := Xr.ext st
      replace Yr := Yr.ext st
      replace hE := hE.trans st
      clear st x
      go_wp2_with fail
      refine (same_yes _ _ _ Xz _ _ _ Tz _ rfl rfl Xr Tr Xk Tk (hYv.out.trans Tv.out.symm)).mono ?_
      rintro e w5 ⟨rfl, x⟩
      replace x := x.ext
      have st := x
      replace Xr := Xr.ext st
      replace Yr := Yr.ext st
      replace Tr := Tr.ext st
      replace hE := hE.trans st
      clear st x
      go_wp2_with fail
      go_ret
      exact ⟨rfl, hE⟩
    obtain ⟨b, hb⟩ : ∃ b, b = nb (val z0) := ⟨_, rfl⟩
    rw [← hb] at hz
    have hd : ((b : Int) == 0) = false := beq_eq_false_iff_ne.2 (by omega)
    have Hb := Lib.hid hb
    clear hb
    go_enter Try.func12, Try.ntmps12
    go_wp2_with fail
    refine (moving_any _).mono ?_
    rintro e w1 ⟨rfl, hE⟩
    replace hA := hA.ext hE
    go_wp2_with fail
    refine (RBits_any _ _ _ z0 _ rfl hA (by omega)).mono ?_
    rintro e w1 ⟨rfl, x⟩
    have st := x
    replace hA := hA.ext st
    replace hE := hE.trans st
    clear st x
    rw [← Hb.out]
    obtain ⟨M, hM, hB⟩ := powN_bd (val z0) (N)
    replace hB := Lib.hid hB
    go_wp2_with fail
    refine (Pow_any _ _ _ z0 _ _ rfl hA (by omega)).mono ?_
    rintro e w2 ⟨Xa, Xc, Xz, rfl, Xo, Xk, Xv, x⟩
    replace Xv := Lib.hid Xv
    have Xr := Xo.rd
    have st := x
    replace hA := hA.ext st
    replace hE := hE.trans st
    clear st x
    go_wp2_with fail
    refine (RPow_any _ _ _ z0 _ _ rfl hA (by omega)).mono ?_
    rintro e w3 ⟨Ya, Yc, Yz, rfl, Yo, Yk, Yv, x⟩
    replace Yv := Lib.hid Yv
    have Yr := Yo.rd
    have st := x
    replace hA := hA.ext st
    replace Xr := Xr.ext st
    replace hE := hE.trans st
    clear st x
    have lY : Yz.length ≤ M := canon_len Yk (by rw [Yv.out]; exact hB.out)
    have hYv : Hid (val Xz = val Yz) := Xv.out.trans Yv.out.symm
    obtain ⟨er, her⟩ : ∃ er, er = (powN (val z0) (N)).1 := ⟨_, rfl⟩
    rw [← her]
    clear her Xv Yv
    go_wp2_with fail
    refine (RTrim_any _ _ _ Yz _ rfl Yr (by omega)).mono ?_
    rintro e w4 ⟨Ta, Tc, Tz, rfl, To, Tk, Tv, x⟩
    replace Tv := Lib.hid Tv
    have Tr := To.rd
    have st := x
    replace Xr := Xr.ext st
    replace Yr := Yr.ext st
    replace hE := hE.trans st
    clear st x
    go_wp2_with fail
    refine (same_yes _ _ _ Xz _ _ _ Tz _ rfl rfl Xr Tr Xk Tk (hYv.out.trans Tv.out.symm)).mono ?_
    rintro e w5 ⟨rfl, x⟩
    replace x := x.ext
    have st := x
    replace Xr := Xr.ext st
    replace Yr := Yr.ext st
    replace Tr := Tr.ext st
    replace hE := hE.trans st
    clear st x
    go_wp2_with fail
    go_ret
    exact ⟨rfl, hE⟩
  · have hl : 4 < z0.length := by omega
    clear hs
    go_enter Try.func12, Try.ntmps12
    go_wp2_with fail
    refine (moving_any _).mono ?_
    rintro e w1 ⟨rfl, hE⟩
    go_wp2_with fail
    go_ret
    exact ⟨rfl, hE⟩
end Go.Proofs.Ytejgefhmagamiaa
