/-
  The walk of the statement NatTexts.
-/
import Derived.Test.YtejgefhmagamiaaTelling
namespace Go.Proofs.Ytejgefhmagamiaa
open Go.RowKit

theorem parseV_lt (s : ByteArray) : ∃ L, L ≤ 4001 ∧ (parseV s).2 < pw L := by
  refine ⟨4001, Nat.le_refl _, ?_⟩
  unfold parseV
  split
  · exact pw_pos _
  · split
    · exact pw_pos _
    · rename_i h1 h2
      have h3 : alld s s.size := by
        apply Decidable.byContradiction
        intro h; exact h2 (.inr h)
      exact Nat.lt_of_lt_of_le (dvk_lt s s.size h3) (Nat.le_trans (pow10_pw _) (pw_le (by omega)))

set_option maxHeartbeats 2000000 in
theorem natTexts_walk (s : ByteArray) (a1 : Option Addr) (c1 : Nat) (z1 : List Nat) (w : World) (_hs : s.size ≤ maxLen) (hA : Rd w a1 c1 z1) :
    Calls Try.prog 5 #[.string s, .slice a1 z1.length c1] w fun e w' => e = .returned (.bool true) ∧ Ext w w' := by
  by_cases h1 : z1.length ≤ 20
  · have hb := parseV_err s
    obtain ⟨L, hL, hV⟩ := parseV_lt s
    obtain ⟨er, vr, hp⟩ : ∃ er vr, parseV s = (er, vr) := ⟨_, _, rfl⟩
    rw [hp] at hb hV
    have hp := Lib.hid hp
    have hV := Lib.hid hV
    by_cases h2 : s.size ≤ 400
    · go_enter Try.func5, Try.ntmps5
      go_wp2_with fail
      refine (telling_any _).mono ?_
      rintro e w1 ⟨rfl, hE⟩
      go_wp2_with fail
      refine (Parse_any _ _).mono ?_
      rw [hp.out]
      rintro e w1 ⟨Xa, Xc, Xz, rfl, Xo, Xk, Xv, x⟩
      replace Xv := Lib.hid Xv
      have Xr := Xo.rd
      have st := x
      replace hE := hE.trans st
      clear st x
      go_wp2_with fail
      refine (RParse_any _ _).mono ?_
      rw [hp.out]
      rintro e w2 ⟨Ya, Yc, Yz, rfl, Yo, Yk, Yv, x⟩
      replace Yv := Lib.hid Yv
      have Yr := Yo.rd
      have st := x
      replace Xr := Xr.ext st
      replace hE := hE.trans st
      clear st x
      obtain ⟨e1, e2⟩ := hb
      have lY : Yz.length ≤ 4001 := Nat.le_trans (canon_len Yk (by rw [Yv.out]; exact hV.out)) hL
      go_wp2_with fail
      refine (RTrim_any _ _ _ Yz _ rfl Yr (by omega)).mono ?_
      rintro e w3 ⟨Za, Zc, Zz, rfl, Zo, Zk, Zv, x⟩
      replace Zv := Lib.hid Zv
      have Zr := Zo.rd
      have st := x
      replace Xr := Xr.ext st
      replace Yr := Yr.ext st
      replace hE := hE.trans st
      clear st x
      go_wp2_with fail
      refine (same_yes _ _ _ Xz _ _ _ Zz _ rfl rfl Xr Zr Xk Zk (Xv.out.trans (Yv.out.symm.trans Zv.out.symm))).mono ?_
      rintro e w4 ⟨rfl, x⟩
      replace x := x.ext
      have st := x
      replace Xr := Xr.ext st
      replace Yr := Yr.ext st
      replace Zr := Zr.ext st
      replace hE := hE.trans st
      clear st x
      go_wp2_with fail
      refine (Text_any _ _ _ z1 _ rfl (hA.ext hE) (by omega)).mono ?_
      rintro e w5 ⟨Cs, rfl, Ct, x⟩
      have st := x
      replace hE := hE.trans st
      clear st x
      go_wp2_with fail
      refine (RText_any _ _ _ z1 _ rfl (hA.ext hE) (by omega)).mono ?_
      rintro e w6 ⟨Ds, rfl, Dt, x⟩
      have st := x
      replace hE := hE.trans st
      clear st x
      obtain rfl : Cs = Ds := isT_str Ct Dt
      clear Ct Dt
      go_wp2_with fail
      go_ret
      exact ⟨rfl, hE⟩
    · by_cases h3 : 4000 < s.size
      · have hd : decide (400 < (s.size : Int)) = true := decide_eq_true (by omega)
        go_enter Try.func5, Try.ntmps5
        go_wp2_with fail
        refine (telling_any _).mono ?_
        rintro e w1 ⟨rfl, hE⟩
        go_wp2_with fail
        refine (Parse_any _ _).mono ?_
        rw [hp.out]
        rintro e w1 ⟨Xa, Xc, Xz, rfl, Xo, Xk, Xv, x⟩
        replace Xv := Lib.hid Xv
        have Xr := Xo.rd
        have st := x
        replace hE := hE.trans st
        clear st x
        go_wp2_with fail
        refine (RParse_any _ _).mono ?_
        rw [hp.out]
        rintro e w2 ⟨Ya, Yc, Yz, rfl, Yo, Yk, Yv, x⟩
        replace Yv := Lib.hid Yv
        have Yr := Yo.rd
        have st := x
        replace Xr := Xr.ext st
        replace hE := hE.trans st
        clear st x
        obtain ⟨e1, e2⟩ := hb
        have lY : Yz.length ≤ 4001 := Nat.le_trans (canon_len Yk (by rw [Yv.out]; exact hV.out)) hL
        go_wp2_with fail
        refine (RTrim_any _ _ _ Yz _ rfl Yr (by omega)).mono ?_
        rintro e w3 ⟨Za, Zc, Zz, rfl, Zo, Zk, Zv, x⟩
        replace Zv := Lib.hid Zv
        have Zr := Zo.rd
        have st := x
        replace Xr := Xr.ext st
        replace Yr := Yr.ext st
        replace hE := hE.trans st
        clear st x
        go_wp2_with fail
        refine (same_yes _ _ _ Xz _ _ _ Zz _ rfl rfl Xr Zr Xk Zk (Xv.out.trans (Yv.out.symm.trans Zv.out.symm))).mono ?_
        rintro e w4 ⟨rfl, x⟩
        replace x := x.ext
        have st := x
        replace Xr := Xr.ext st
        replace Yr := Yr.ext st
        replace Zr := Zr.ext st
        replace hE := hE.trans st
        clear st x
        go_wp2_with fail
        refine (Text_any _ _ _ z1 _ rfl (hA.ext hE) (by omega)).mono ?_
        rintro e w5 ⟨Cs, rfl, Ct, x⟩
        have st := x
        replace hE := hE.trans st
        clear st x
        go_wp2_with fail
        refine (RText_any _ _ _ z1 _ rfl (hA.ext hE) (by omega)).mono ?_
        rintro e w6 ⟨Ds, rfl, Dt, x⟩
        have st := x
        replace hE := hE.trans st
        clear st x
        obtain rfl : Cs = Ds := isT_str Ct Dt
        clear Ct Dt
        go_wp2_with fail
        go_ret
        exact ⟨rfl, hE⟩
      · have hd : 400 < s.size := by omega
        have hd2 : s.size ≤ 4000 := by omega
        clear h2 h3
        go_enter Try.func5, Try.ntmps5
        go_wp2_with fail
        refine (telling_any _).mono ?_
        rintro e w1 ⟨rfl, hE⟩
        go_wp2_with fail
        go_ret
        exact ⟨rfl, hE⟩
  · have hd : 20 < z1.length := by omega
    clear h1
    go_enter Try.func5, Try.ntmps5
    go_wp2_with fail
    refine (telling_any _).mono ?_
    rintro e w1 ⟨rfl, hE⟩
    go_wp2_with fail
    go_ret
    exact ⟨rfl, hE⟩
end Go.Proofs.Ytejgefhmagamiaa
