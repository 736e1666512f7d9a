/-
  The walk of the statement NatDivides.
-/
import Derived.Test.YtejgefhmagamiaaDividing
namespace Go.Proofs.Ytejgefhmagamiaa
open Go.RowKit

theorem len_ne {zs : List Nat} {m : Nat} (hc : Canon zs) (hv : val zs = m) (hm : m ≠ 0) : (zs.length : Int) ≠ 0 := by
  intro e
  have : zs = [] := List.length_eq_zero_iff.1 (by omega)
  subst this
  exact hm (hv.symm.trans rfl)

set_option maxHeartbeats 2000000 in
theorem natDivides_walk (a0 : Option Addr) (c0 : Nat) (z0 : List Nat) (a1 : Option Addr) (c1 : Nat) (z1 : List Nat) (w : World) (hA : Rd w a0 c0 z0) (hB : Rd w a1 c1 z1) :
    Calls Try.prog 10 #[.slice a0 z0.length c0, .slice a1 z1.length c1] w fun e w' => e = .returned (.bool true) ∧ Ext w w' := by
  by_cases hs : ((z0.length : Int) ≤ 150 ∧ (z1.length : Int) ≤ 150)
  · have hs0 := hs
    clear hs
    have hd : decide ((z0.length : Int) ≤ 150 ∧ (z1.length : Int) ≤ 150) = true := decide_eq_true hs0
    have hd := Lib.hid hd
    by_cases hz : val z1 = 0
    · replace hz := Lib.hid hz
      go_enter Try.func10, Try.ntmps10
      go_wp2_with fail
      refine (adding_any _).mono ?_
      rintro e w1 ⟨rfl, hE⟩
      go_wp2_with fail
      refine (dividing_any _).mono ?_
      rintro e w2 ⟨rfl, hE2⟩
      replace hE := hE.trans hE2
      clear hE2
      go_wp2_with fail
      refine (short_any _ _ _ _ _ _ _ _).mono ?_
      rintro e w' ⟨rfl, rfl⟩
      rw [hd.out]
      replace hA := hA.ext hE
      replace hB := hB.ext hE
      go_wp2_with fail
      refine (Div_zero _ _ _ z0 _ _ _ z1 _ rfl rfl hA hB (by omega) hz.out).mono ?_
      rintro e w1 ⟨Qa, Qc, Qz, Ra, Rc, Rz, rfl, Qo, Qk, Qv, Ro, Rk, Rv, x⟩
      replace Qv := Lib.hid Qv
      replace Rv := Lib.hid Rv
      have Qr := Qo.rd
      have Rr := Ro.rd
      have st := x
      replace hA := hA.ext st
      replace hB := hB.ext st
      replace hE := hE.trans st
      clear st x
      go_wp2_with fail
      refine (Trim_got _ _ _ z1 _ rfl hB (by omega)).mono ?_
      rintro e w2 ⟨Ka, Kc, Kz, rfl, Ko, Kk, Kv, x⟩
      replace Kv := Lib.hid Kv
      have Kr := Ko.rd
      have st := x
      replace hA := hA.ext st
      replace hB := hB.ext st
      replace Qr := Qr.ext st
      replace Rr := Rr.ext st
      replace hE := hE.trans st
      clear st x
      have eK : Kz = [] := canon_zero Kk (Kv.out.trans hz.out)
      subst eK
      go_wp2_with fail
      go_ret
      exact ⟨rfl, hE⟩
    replace hz := Lib.hid hz
    go_enter Try.func10, Try.ntmps10
    go_wp2_with fail
    refine (adding_any _).mono ?_
    rintro e w1 ⟨rfl, hE⟩
    go_wp2_with fail
    refine (dividing_any _).mono ?_
    rintro e w2 ⟨rfl, hE2⟩
    replace hE := hE.trans hE2
    clear hE2
    go_wp2_with fail
    refine (short_any _ _ _ _ _ _ _ _).mono ?_
    rintro e w' ⟨rfl, rfl⟩
    rw [hd.out]
    replace hA := hA.ext hE
    replace hB := hB.ext hE
    go_wp2_with fail
    refine (Div_pos _ _ _ z0 _ _ _ z1 _ rfl rfl hA hB (by omega) hz.out).mono ?_
    rintro e w1 ⟨Qa, Qc, Qz, Ra, Rc, Rz, rfl, Qo, Qk, Qv, Ro, Rk, Rv, x⟩
    replace Qv := Lib.hid Qv
    replace Rv := Lib.hid Rv
    have Qr := Qo.rd
    have Rr := Ro.rd
    have st := x
    replace hA := hA.ext st
    replace hB := hB.ext st
    replace hE := hE.trans st
    clear st x
    go_wp2_with fail
    refine (Trim_got _ _ _ z1 _ rfl hB (by omega)).mono ?_
    rintro e w2 ⟨Ka, Kc, Kz, rfl, Ko, Kk, Kv, x⟩
    replace Kv := Lib.hid Kv
    have Kr := Ko.rd
    have st := x
    replace hA := hA.ext st
    replace hB := hB.ext st
    replace Qr := Qr.ext st
    replace Rr := Rr.ext st
    replace hE := hE.trans st
    clear st x
    have lK : ((Kz.length : Int) == 0) = false := beq_eq_false_iff_ne.2 (len_ne Kk Kv.out hz.out)
    go_wp2_with fail
    refine (Cmp_lt _ _ _ Rz _ _ _ z1 _ rfl rfl Rr hB (by rw [Rv.out]; exact Nat.mod_lt _ (Nat.pos_of_ne_zero hz.out))).mono ?_
    rintro e w3 ⟨rfl, x⟩
    replace x := x.ext
    have st := x
    replace hA := hA.ext st
    replace hB := hB.ext st
    replace Qr := Qr.ext st
    replace Rr := Rr.ext st
    replace hE := hE.trans st
    clear st x
    have lQ : Qz.length ≤ 150 := canon_len Qk (Nat.lt_of_le_of_lt (by rw [Qv.out]; exact Nat.div_le_self _ _) (val_lt_pw hA.lb (by omega)))
    have lR : Rz.length ≤ 150 := canon_len Rk (Nat.lt_of_le_of_lt (by rw [Rv.out]; exact Nat.mod_le _ _) (val_lt_pw hA.lb (by omega)))
    go_wp2_with fail
    refine (Mul_any _ _ _ Qz _ _ _ z1 _ rfl rfl Qr hB (by omega) (by omega)).mono ?_
    rintro e w4 ⟨Ma, Mc, Mz, rfl, Mo, Mk, Mv, x⟩
    replace Mv := Lib.hid Mv
    have Mr := Mo.rd
    have st := x
    replace hA := hA.ext st
    replace hB := hB.ext st
    replace Qr := Qr.ext st
    replace Rr := Rr.ext st
    replace hE := hE.trans st
    clear st x
    have lM : Mz.length ≤ 150 := canon_len Mk (Nat.lt_of_le_of_lt (by rw [Mv.out, Qv.out]; exact Nat.div_mul_le_self _ _) (val_lt_pw hA.lb (by omega)))
    go_wp2_with fail
    refine (Add_any _ _ _ Mz _ _ _ Rz _ rfl rfl Mr Rr (by omega) (by omega)).mono ?_
    rintro e w5 ⟨Sa, Sc, Sz, rfl, So, Sk, Sv, x⟩
    replace Sv := Lib.hid Sv
    have Sr := So.rd
    have st := x
    replace hA := hA.ext st
    replace hB := hB.ext st
    replace Qr := Qr.ext st
    replace Rr := Rr.ext st
    replace Mr := Mr.ext st
    replace hE := hE.trans st
    clear st x
    go_wp2_with fail
    refine (Cmp_eq _ _ _ Sz _ _ _ z0 _ rfl rfl Sr hA (by rw [Sv.out, Mv.out, Qv.out, Rv.out]; exact Nat.div_add_mod' _ _)).mono ?_
    rintro e w6 ⟨rfl, x⟩
    replace x := x.ext
    have st := x
    replace hA := hA.ext st
    replace hB := hB.ext st
    replace Qr := Qr.ext st
    replace Rr := Rr.ext st
    replace Mr := Mr.ext st
    replace Sr := Sr.ext st
    replace hE := hE.trans st
    clear st x
    go_wp2_with fail
    go_ret
    exact ⟨rfl, hE⟩
  · have hd : decide ((z0.length : Int) ≤ 150 ∧ (z1.length : Int) ≤ 150) = false := decide_eq_false hs
    have hd := Lib.hid hd
    clear hs
    go_enter Try.func10, Try.ntmps10
    go_wp2_with fail
    refine (adding_any _).mono ?_
    rintro e w1 ⟨rfl, hE⟩
    go_wp2_with fail
    refine (dividing_any _).mono ?_
    rintro e w2 ⟨rfl, hE2⟩
    replace hE := hE.trans hE2
    clear hE2
    go_wp2_with fail
    refine (short_any _ _ _ _ _ _ _ _).mono ?_
    rintro e w' ⟨rfl, rfl⟩
    rw [hd.out]
    go_wp2_with fail
    go_ret
    exact ⟨rfl, hE⟩
end Go.Proofs.Ytejgefhmagamiaa
