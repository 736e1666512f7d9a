/-
  The walk of the statement NatDivs.
-/
import Derived.Test.YtejgefhmagamiaaDividing
import Derived.Test.YtejgefhmagamiaaRefD
namespace Go.Proofs.Ytejgefhmagamiaa
open Go.RowKit


set_option maxHeartbeats 2000000 in
theorem natDivs_walk (a0 : Option Addr) (c0 : Nat) (z0 : List Nat) (a1 : Option Addr) (c1 : Nat) (z1 : List Nat) (w : World) (hA : Rd w a0 c0 z0) (hB : Rd w a1 c1 z1) :
    Calls Try.prog 8 #[.slice a0 z0.length c0, .slice a1 z1.length c1] w fun e w' => e = .returned (.bool true) ∧ Ext w w' := by
  by_cases hs : ((z0.length : Int) ≤ 20 ∧ (z1.length : Int) ≤ 20)
  · have hs0 := hs
    clear hs
    have hd : decide ((z0.length : Int) ≤ 20 ∧ (z1.length : Int) ≤ 20) = true := decide_eq_true hs0
    have hd := Lib.hid hd
    by_cases hz : val z1 = 0
    · replace hz := Lib.hid hz
      go_enter Try.func8, Try.ntmps8
      go_wp2_with fail
      refine (dividing_any _).mono ?_
      rintro e w1 ⟨rfl, hE⟩
      go_wp2_with fail
      refine (short_any _ _ _ _ _ _ _ _).mono ?_
      rintro e w' ⟨rfl, rfl⟩
      rw [hd.out]
      replace hA := hA.ext hE
      replace hB := hB.ext hE
      go_wp2_with fail
      refine (Div_zero _ _ _ z0 _ _ _ z1 _ rfl rfl hA hB (by omega) hz.out).mono ?_
      rintro e w1 ⟨Qa, Qc, Qz, Ra, Rc, Rz, rfl, Qo, Qk, Qv, Ro, Rk, Rv, x⟩
      replace Qv := Lib.hid Qv
      replace Rv := Lib.hid Rv
      have Qr := Qo.rd
      have Rr := Ro.rd
      have st := x
      replace hA := hA.ext st
      replace hB := hB.ext st
      replace hE := hE.trans st
      clear st x
      go_wp2_with fail
      refine (RDiv_zero _ _ _ z0 _ _ _ z1 _ rfl rfl hB (by omega) hz.out).mono ?_
      rintro e w2 ⟨Xa, Xc, Xz, Ya, Yc, Yz, rfl, Xo, Xk, Xv, Yo, Yk, Yv, x⟩
      replace Xv := Lib.hid Xv
      replace Yv := Lib.hid Yv
      have Xr := Xo.rd
      have Yr := Yo.rd
      have st := x
      replace hA := hA.ext st
      replace hB := hB.ext st
      replace Qr := Qr.ext st
      replace Rr := Rr.ext st
      replace hE := hE.trans st
      clear st x
      have lX : Xz.length ≤ 20 := canon_len Xk (by rw [Xv.out]; exact pw_pos _)
      have lY : Yz.length ≤ 20 := canon_len Yk (by rw [Yv.out]; exact pw_pos _)
      go_wp2_with fail
      refine (RTrim_any _ _ _ Xz _ rfl Xr (by omega)).mono ?_
      rintro e w3 ⟨Ta, Tc, Tz, rfl, To, Tk, Tv, x⟩
      replace Tv := Lib.hid Tv
      have Tr := To.rd
      have st := x
      replace hA := hA.ext st
      replace hB := hB.ext st
      replace Qr := Qr.ext st
      replace Rr := Rr.ext st
      replace Xr := Xr.ext st
      replace Yr := Yr.ext st
      replace hE := hE.trans st
      clear st x
      go_wp2_with fail
      refine (same_yes _ _ _ Qz _ _ _ Tz _ rfl rfl Qr Tr Qk Tk (Qv.out.trans (Tv.out.trans Xv.out).symm)).mono ?_
      rintro e w4 ⟨rfl, x⟩
      replace x := x.ext
      have st := x
      replace hA := hA.ext st
      replace hB := hB.ext st
      replace Qr := Qr.ext st
      replace Rr := Rr.ext st
      replace Xr := Xr.ext st
      replace Yr := Yr.ext st
      replace Tr := Tr.ext st
      replace hE := hE.trans st
      clear st x
      go_wp2_with fail
      refine (RTrim_any _ _ _ Yz _ rfl Yr (by omega)).mono ?_
      rintro e w5 ⟨Ua, Uc, Uz, rfl, Uo, Uk, Uv, x⟩
      replace Uv := Lib.hid Uv
      have Ur := Uo.rd
      have st := x
      replace hA := hA.ext st
      replace hB := hB.ext st
      replace Rr := Rr.ext st
      replace Yr := Yr.ext st
      replace hE := hE.trans st
      clear st x
      go_wp2_with fail
      refine (same_yes _ _ _ Rz _ _ _ Uz _ rfl rfl Rr Ur Rk Uk (Rv.out.trans (Uv.out.trans Yv.out).symm)).mono ?_
      rintro e w6 ⟨rfl, x⟩
      replace x := x.ext
      have st := x
      replace hA := hA.ext st
      replace hB := hB.ext st
      replace Rr := Rr.ext st
      replace Yr := Yr.ext st
      replace Ur := Ur.ext st
      replace hE := hE.trans st
      clear st x
      go_wp2_with fail
      refine (Gcd_any _ _ _ z0 _ _ _ z1 20 _ rfl rfl hA hB (by omega) (by omega) (by omega)).mono ?_
      rintro e w7 ⟨Ga, Gc, Gz, rfl, Go, Gk, Gv, x⟩
      replace Gv := Lib.hid Gv
      have Gr := Go.rd
      have st := x
      replace hA := hA.ext st
      replace hB := hB.ext st
      replace hE := hE.trans st
      clear st x
      go_wp2_with fail
      refine (RGcd_any _ _ _ z0 _ _ _ z1 20 _ rfl rfl hA hB (by omega) (by omega) (by omega)).mono ?_
      rintro e w8 ⟨Ha, Hc, Hz, rfl, Ho, Hk, Hv, x⟩
      replace Hv := Lib.hid Hv
      have Hr := Ho.rd
      have st := x
      replace hA := hA.ext st
      replace hB := hB.ext st
      replace Gr := Gr.ext st
      replace hE := hE.trans st
      clear st x
      go_wp2_with fail
      refine (same_yes _ _ _ Gz _ _ _ Hz _ rfl rfl Gr Hr Gk Hk (Gv.out.trans Hv.out.symm)).mono ?_
      rintro e w9 ⟨rfl, x⟩
      replace x := x.ext
      have st := x
      replace hA := hA.ext st
      replace hB := hB.ext st
      replace Gr := Gr.ext st
      replace Hr := Hr.ext st
      replace hE := hE.trans st
      clear st x
      go_wp2_with fail
      go_ret
      exact ⟨rfl, hE⟩
    replace hz := Lib.hid hz
    go_enter Try.func8, Try.ntmps8
    go_wp2_with fail
    refine (dividing_any _).mono ?_
    rintro e w1 ⟨rfl, hE⟩
    go_wp2_with fail
    refine (short_any _ _ _ _ _ _ _ _).mono ?_
    rintro e w' ⟨rfl, rfl⟩
    rw [hd.out]
    replace hA := hA.ext hE
    replace hB := hB.ext hE
    go_wp2_with fail
    refine (Div_pos _ _ _ z0 _ _ _ z1 _ rfl rfl hA hB (by omega) hz.out).mono ?_
    rintro e w1 ⟨Qa, Qc, Qz, Ra, Rc, Rz, rfl, Qo, Qk, Qv, Ro, Rk, Rv, x⟩
    replace Qv := Lib.hid Qv
    replace Rv := Lib.hid Rv
    have Qr := Qo.rd
    have Rr := Ro.rd
    have st := x
    replace hA := hA.ext st
    replace hB := hB.ext st
    replace hE := hE.trans st
    clear st x
    go_wp2_with fail
    refine (RDiv_pos _ _ _ z0 _ _ _ z1 _ rfl rfl hA hB (by omega) (by omega) hz.out).mono ?_
    rintro e w2 ⟨Xa, Xc, Xz, Ya, Yc, Yz, rfl, Xo, Xk, Xv, Yo, Yk, Yv, x⟩
    replace Xv := Lib.hid Xv
    replace Yv := Lib.hid Yv
    have Xr := Xo.rd
    have Yr := Yo.rd
    have st := x
    replace hA := hA.ext st
    replace hB := hB.ext st
    replace Qr := Qr.ext st
    replace Rr := Rr.ext st
    replace hE := hE.trans st
    clear st x
    have lX : Xz.length ≤ 20 := canon_len Xk (by rw [Xv.out]; exact Nat.lt_of_le_of_lt (Nat.div_le_self _ _) (val_lt_pw hA.lb (by omega)))
    have lY : Yz.length ≤ 20 := canon_len Yk (by rw [Yv.out]; exact Nat.lt_of_le_of_lt (Nat.mod_le _ _) (val_lt_pw hA.lb (by omega)))
    go_wp2_with fail
    refine (RTrim_any _ _ _ Xz _ rfl Xr (by omega)).mono ?_
    rintro e w3 ⟨Ta, Tc, Tz, rfl, To, Tk, Tv, x⟩
    replace Tv := Lib.hid Tv
    have Tr := To.rd
    have st := x
    replace hA := hA.ext st
    replace hB := hB.ext st
    replace Qr := Qr.ext st
    replace Rr := Rr.ext st
    replace Xr := Xr.ext st
    replace Yr := Yr.ext st
    replace hE := hE.trans st
    clear st x
    go_wp2_with fail
    refine (same_yes _ _ _ Qz _ _ _ Tz _ rfl rfl Qr Tr Qk Tk (Qv.out.trans (Tv.out.trans Xv.out).symm)).mono ?_
    rintro e w4 ⟨rfl, x⟩
    replace x := x.ext
    have st := x
    replace hA := hA.ext st
    replace hB := hB.ext st
    replace Qr := Qr.ext st
    replace Rr := Rr.ext st
    replace Xr := Xr.ext st
    replace Yr := Yr.ext st
    replace Tr := Tr.ext st
    replace hE := hE.trans st
    clear st x
    go_wp2_with fail
    refine (RTrim_any _ _ _ Yz _ rfl Yr (by omega)).mono ?_
    rintro e w5 ⟨Ua, Uc, Uz, rfl, Uo, Uk, Uv, x⟩
    replace Uv := Lib.hid Uv
    have Ur := Uo.rd
    have st := x
    replace hA := hA.ext st
    replace hB := hB.ext st
    replace Rr := Rr.ext st
    replace Yr := Yr.ext st
    replace hE := hE.trans st
    clear st x
    go_wp2_with fail
    refine (same_yes _ _ _ Rz _ _ _ Uz _ rfl rfl Rr Ur Rk Uk (Rv.out.trans (Uv.out.trans Yv.out).symm)).mono ?_
    rintro e w6 ⟨rfl, x⟩
    replace x := x.ext
    have st := x
    replace hA := hA.ext st
    replace hB := hB.ext st
    replace Rr := Rr.ext st
    replace Yr := Yr.ext st
    replace Ur := Ur.ext st
    replace hE := hE.trans st
    clear st x
    go_wp2_with fail
    refine (Gcd_any _ _ _ z0 _ _ _ z1 20 _ rfl rfl hA hB (by omega) (by omega) (by omega)).mono ?_
    rintro e w7 ⟨Ga, Gc, Gz, rfl, Go, Gk, Gv, x⟩
    replace Gv := Lib.hid Gv
    have Gr := Go.rd
    have st := x
    replace hA := hA.ext st
    replace hB := hB.ext st
    replace hE := hE.trans st
    clear st x
    go_wp2_with fail
    refine (RGcd_any _ _ _ z0 _ _ _ z1 20 _ rfl rfl hA hB (by omega) (by omega) (by omega)).mono ?_
    rintro e w8 ⟨Ha, Hc, Hz, rfl, Ho, Hk, Hv, x⟩
    replace Hv := Lib.hid Hv
    have Hr := Ho.rd
    have st := x
    replace hA := hA.ext st
    replace hB := hB.ext st
    replace Gr := Gr.ext st
    replace hE := hE.trans st
    clear st x
    go_wp2_with fail
    refine (same_yes _ _ _ Gz _ _ _ Hz _ rfl rfl Gr Hr Gk Hk (Gv.out.trans Hv.out.symm)).mono ?_
    rintro e w9 ⟨rfl, x⟩
    replace x := x.ext
    have st := x
    replace hA := hA.ext st
    replace hB := hB.ext st
    replace Gr := Gr.ext st
    replace Hr := Hr.ext st
    replace hE := hE.trans st
    clear st x
    go_wp2_with fail
    go_ret
    exact ⟨rfl, hE⟩
  · have hd : decide ((z0.length : Int) ≤ 20 ∧ (z1.length : Int) ≤ 20) = false := decide_eq_false hs
    have hd := Lib.hid hd
    clear hs
    go_enter Try.func8, Try.ntmps8
    go_wp2_with fail
    refine (dividing_any _).mono ?_
    rintro e w1 ⟨rfl, hE⟩
    go_wp2_with fail
    refine (short_any _ _ _ _ _ _ _ _).mono ?_
    rintro e w' ⟨rfl, rfl⟩
    rw [hd.out]
    go_wp2_with fail
    go_ret
    exact ⟨rfl, hE⟩
end Go.Proofs.Ytejgefhmagamiaa
