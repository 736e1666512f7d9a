/-
  The walk of the statement NatRoots.
-/
import Derived.Test.YtejgefhmagamiaaMoving
import Derived.Test.YtejgefhmagamiaaDividing
namespace Go.Proofs.Ytejgefhmagamiaa
open Go.RowKit


set_option maxHeartbeats 2000000 in
theorem natRoots_walk (a0 : Option Addr) (c0 : Nat) (z0 : List Nat) (w : World) (hA : Rd w a0 c0 z0) :
    Calls Try.prog 13 #[.slice a0 z0.length c0] w fun e w' => e = .returned (.bool true) ∧ Ext w w' := by
  by_cases hs : z0.length ≤ 60
  · have hm0 := hs
    clear hs
    go_enter Try.func13, Try.ntmps13
    go_wp2_with fail
    refine (moving_any _).mono ?_
    rintro e w1 ⟨rfl, hE⟩
    go_wp2_with fail
    refine (dividing_any _).mono ?_
    rintro e w2 ⟨rfl, hE2⟩
    replace hE := hE.trans hE2
    clear hE2
    go_wp2_with fail
    refine (adding_any _).mono ?_
    rintro e w3 ⟨rfl, hE2⟩
    replace hE := hE.trans hE2
    clear hE2
    replace hA := hA.ext hE
    go_wp2_with fail
    refine (Root_any _ _ _ z0 _ rfl hA (by omega)).mono ?_
    rintro e w1 ⟨m, h1, h2, Ra, Rc, Rz, rfl, Ro, Rk, Rv, x⟩
    rw [← Rv] at h1 h2
    replace h1 := Lib.hid h1
    replace h2 := Lib.hid h2
    have lR : Rz.length ≤ 60 := canon_len Rk (by
      refine Nat.lt_of_le_of_lt ?_ (val_lt_pw hA.lb hm0)
      exact Nat.le_trans (by rcases Nat.eq_zero_or_pos (val Rz) with e | e; (rw [e]; exact Nat.zero_le _); exact Nat.le_mul_of_pos_left _ e) h1.out)
    have Rr := Ro.rd
    clear Rv
    have st := x
    replace hA := hA.ext st
    replace hE := hE.trans st
    clear st x
    go_wp2_with fail
    refine (Add_any _ _ _ Rz _ _ _ [1] _ rfl rfl (Rr.ext ((Ext.refl _).alloc _)) (row1 _ 1 1 rfl (by omega)).rd (by omega) (by simp)).mono ?_
    rintro e w2 ⟨Na, Nc, Nz, rfl, No, Nk, Nv, x⟩
    replace Nv := Lib.hid Nv
    have Nr := No.rd
    have st := ((Ext.refl _).alloc _).trans x
    replace hA := hA.ext st
    replace Rr := Rr.ext st
    replace hE := hE.trans st
    clear st x
    have NV : Hid (val Nz = val Rz + 1) := Nv.out
    have lN : Nz.length ≤ 61 := canon_len Nk (by rw [NV.out, pw_succ]; have := val_lt_pw Rk.1 lR; have := pw_pos 60; omega)
    go_wp2_with fail
    refine (Mul_any _ _ _ Rz _ _ _ Rz _ rfl rfl Rr Rr (by omega) (by omega)).mono ?_
    rintro e w3 ⟨Ma, Mc, Mz, rfl, Mo, Mk, Mv, x⟩
    replace Mv := Lib.hid Mv
    have Mr := Mo.rd
    have st := x
    replace hA := hA.ext st
    replace Rr := Rr.ext st
    replace Nr := Nr.ext st
    replace hE := hE.trans st
    clear st x
    have hc : cmpI (val Mz) (val z0) ≤ 0 := by unfold cmpI; rw [Mv.out]; have := h1.out; split; omega; split <;> omega
    obtain ⟨cc, hcc⟩ : ∃ cc, cc = cmpI (val Mz) (val z0) := ⟨_, rfl⟩
    rw [← hcc] at hc
    have Hcc := Lib.hid hcc
    clear hcc
    go_wp2_with fail
    refine (Cmp_any _ _ _ Mz _ _ _ z0 _ rfl rfl Mr hA).mono ?_
    rintro e w4 ⟨rfl, x⟩
    rw [← Hcc.out]
    replace x := x.ext
    have st := x
    replace hA := hA.ext st
    replace Rr := Rr.ext st
    replace Nr := Nr.ext st
    replace Mr := Mr.ext st
    replace hE := hE.trans st
    clear st x
    go_wp2_with fail
    refine (Mul_any _ _ _ Nz _ _ _ Nz _ rfl rfl Nr Nr (by omega) (by omega)).mono ?_
    rintro e w5 ⟨Pa, Pc, Pz, rfl, Po, Pk, Pv, x⟩
    replace Pv := Lib.hid Pv
    have Pr := Po.rd
    have st := x
    replace hA := hA.ext st
    replace Nr := Nr.ext st
    replace hE := hE.trans st
    clear st x
    go_wp2_with fail
    refine (Cmp_gt _ _ _ Pz _ _ _ z0 _ rfl rfl Pr hA (by rw [Pv.out, NV.out]; exact h2.out)).mono ?_
    rintro e w6 ⟨rfl, x⟩
    replace x := x.ext
    have st := x
    replace hA := hA.ext st
    replace Nr := Nr.ext st
    replace Pr := Pr.ext st
    replace hE := hE.trans st
    clear st x
    go_wp2_with fail
    go_ret
    exact ⟨rfl, hE⟩
  · have hl : 60 < z0.length := by omega
    clear hs
    go_enter Try.func13, Try.ntmps13
    go_wp2_with fail
    refine (moving_any _).mono ?_
    rintro e w1 ⟨rfl, hE⟩
    go_wp2_with fail
    refine (dividing_any _).mono ?_
    rintro e w2 ⟨rfl, hE2⟩
    replace hE := hE.trans hE2
    clear hE2
    go_wp2_with fail
    refine (adding_any _).mono ?_
    rintro e w3 ⟨rfl, hE2⟩
    replace hE := hE.trans hE2
    clear hE2
    go_wp2_with fail
    go_ret
    exact ⟨rfl, hE⟩
end Go.Proofs.Ytejgefhmagamiaa
