/-
  The walk of the statement NatProductsBack.
-/
import Derived.Test.YtejgefhmagamiaaNatDividesW
import Derived.Test.YtejgefhmagamiaaRefM
namespace Go.Proofs.Ytejgefhmagamiaa
open Go.RowKit


set_option maxHeartbeats 2000000 in
theorem natProductsBack_walk (a0 : Option Addr) (c0 : Nat) (z0 : List Nat) (a1 : Option Addr) (c1 : Nat) (z1 : List Nat) (a2 : Option Addr) (c2 : Nat) (z2 : List Nat) (w : World) (hA : Rd w a0 c0 z0) (hB : Rd w a1 c1 z1) (hC : Rd w a2 c2 z2) :
    Calls Try.prog 9 #[.slice a0 z0.length c0, .slice a1 z1.length c1, .slice a2 z2.length c2] w fun e w' => e = .returned (.bool true) ∧ Ext w w' := by
  by_cases hs : ((z0.length : Int) ≤ 150 ∧ (z1.length : Int) ≤ 150) ∧ z2.length ≤ 150
  · obtain ⟨hs0, hm0⟩ := hs
    have hd : decide ((z0.length : Int) ≤ 150 ∧ (z1.length : Int) ≤ 150) = true := decide_eq_true hs0
    have hd := Lib.hid hd
    by_cases hz : val z1 = 0
    · replace hz := Lib.hid hz
      go_enter Try.func9, Try.ntmps9
      go_wp2_with fail
      refine (adding_any _).mono ?_
      rintro e w1 ⟨rfl, hE⟩
      go_wp2_with fail
      refine (dividing_any _).mono ?_
      rintro e w2 ⟨rfl, hE2⟩
      replace hE := hE.trans hE2
      clear hE2
      go_wp2_with fail
      refine (short_any _ _ _ _ _ _ _ _).mono ?_
      rintro e w' ⟨rfl, rfl⟩
      rw [hd.out]
      replace hA := hA.ext hE
      replace hB := hB.ext hE
      replace hC := hC.ext hE
      go_wp2_with fail
      refine (Mul_any _ _ _ z0 _ _ _ z1 _ rfl rfl hA hB (by omega) (by omega)).mono ?_
      rintro e w1 ⟨Pa, Pc, Pz, rfl, Po, Pk, Pv, x⟩
      replace Pv := Lib.hid Pv
      have Pr := Po.rd
      have st := x
      replace hA := hA.ext st
      replace hB := hB.ext st
      replace hC := hC.ext st
      replace hE := hE.trans st
      clear st x
      have lP : Pz.length ≤ 300 := canon_len Pk (by rw [Pv.out, show 300 = 150 + 150 from rfl]; exact mul_lt_pw (val_lt_pw hA.lb (by omega)) (val_lt_pw hB.lb (by omega)))
      go_wp2_with fail
      refine (Mul_any _ _ _ z1 _ _ _ z0 _ rfl rfl hB hA (by omega) (by omega)).mono ?_
      rintro e w2 ⟨Xa, Xc, Xz, rfl, Xo, Xk, Xv, x⟩
      replace Xv := Lib.hid Xv
      have Xr := Xo.rd
      have st := x
      replace hA := hA.ext st
      replace hB := hB.ext st
      replace hC := hC.ext st
      replace Pr := Pr.ext st
      replace hE := hE.trans st
      clear st x
      go_wp2_with fail
      refine (Cmp_eq _ _ _ Pz _ _ _ Xz _ rfl rfl Pr Xr (by rw [Pv.out, Xv.out]; exact Nat.mul_comm _ _)).mono ?_
      rintro e w3 ⟨rfl, x⟩
      replace x := x.ext
      have st := x
      replace hA := hA.ext st
      replace hB := hB.ext st
      replace hC := hC.ext st
      replace Pr := Pr.ext st
      replace Xr := Xr.ext st
      replace hE := hE.trans st
      clear st x
      go_wp2_with fail
      refine (Add_any _ _ _ z0 _ _ _ z2 _ rfl rfl hA hC (by omega) (by omega)).mono ?_
      rintro e w4 ⟨Sa, Sc, Sz, rfl, So, Sk, Sv, x⟩
      replace Sv := Lib.hid Sv
      have Sr := So.rd
      have st := x
      replace hA := hA.ext st
      replace hB := hB.ext st
      replace hC := hC.ext st
      replace Pr := Pr.ext st
      replace hE := hE.trans st
      clear st x
      have lS : Sz.length ≤ 151 := canon_len Sk (by rw [Sv.out]; exact add_lt_pw hA.lb hC.lb (by omega) (by omega))
      go_wp2_with fail
      refine (Mul_any _ _ _ Sz _ _ _ z1 _ rfl rfl Sr hB (by omega) (by omega)).mono ?_
      rintro e w5 ⟨Ua, Uc, Uz, rfl, Uo, Uk, Uv, x⟩
      replace Uv := Lib.hid Uv
      have Ur := Uo.rd
      have st := x
      replace hA := hA.ext st
      replace hB := hB.ext st
      replace hC := hC.ext st
      replace Pr := Pr.ext st
      replace Sr := Sr.ext st
      replace hE := hE.trans st
      clear st x
      go_wp2_with fail
      refine (Mul_any _ _ _ z2 _ _ _ z1 _ rfl rfl hC hB (by omega) (by omega)).mono ?_
      rintro e w6 ⟨Va, Vc, Vz, rfl, Vo, Vk, Vv, x⟩
      replace Vv := Lib.hid Vv
      have Vr := Vo.rd
      have st := x
      replace hA := hA.ext st
      replace hB := hB.ext st
      replace hC := hC.ext st
      replace Pr := Pr.ext st
      replace Ur := Ur.ext st
      replace hE := hE.trans st
      clear st x
      have lV : Vz.length ≤ 300 := canon_len Vk (by rw [Vv.out, show 300 = 150 + 150 from rfl]; exact mul_lt_pw (val_lt_pw hC.lb (by omega)) (val_lt_pw hB.lb (by omega)))
      go_wp2_with fail
      refine (Add_any _ _ _ Pz _ _ _ Vz _ rfl rfl Pr Vr (by omega) (by omega)).mono ?_
      rintro e w7 ⟨Ta, Tc, Tz, rfl, To, Tk, Tv, x⟩
      replace Tv := Lib.hid Tv
      have Tr := To.rd
      have st := x
      replace hA := hA.ext st
      replace hB := hB.ext st
      replace hC := hC.ext st
      replace Pr := Pr.ext st
      replace Ur := Ur.ext st
      replace Vr := Vr.ext st
      replace hE := hE.trans st
      clear st x
      go_wp2_with fail
      refine (Cmp_eq _ _ _ Uz _ _ _ Tz _ rfl rfl Ur Tr (by rw [Uv.out, Tv.out, Sv.out, Pv.out, Vv.out]; exact Nat.add_mul _ _ _)).mono ?_
      rintro e w8 ⟨rfl, x⟩
      replace x := x.ext
      have st := x
      replace hA := hA.ext st
      replace hB := hB.ext st
      replace hC := hC.ext st
      replace Pr := Pr.ext st
      replace Ur := Ur.ext st
      replace Vr := Vr.ext st
      replace Tr := Tr.ext st
      replace hE := hE.trans st
      clear st x
      go_wp2_with fail
      refine (Div_zero _ _ _ Pz _ _ _ z1 _ rfl rfl Pr hB (by omega) hz.out).mono ?_
      rintro e w9 ⟨Qa, Qc, Qz, Ra, Rc, Rz, rfl, Qo, Qk, Qv, Ro, Rk, Rv, x⟩
      replace Qv := Lib.hid Qv
      replace Rv := Lib.hid Rv
      have Qr := Qo.rd
      have Rr := Ro.rd
      have st := x
      replace hA := hA.ext st
      replace hB := hB.ext st
      replace Pr := Pr.ext st
      replace hE := hE.trans st
      clear st x
      go_wp2_with fail
      refine (Trim_got _ _ _ z1 _ rfl hB (by omega)).mono ?_
      rintro e w10 ⟨Ka, Kc, Kz, rfl, Ko, Kk, Kv, x⟩
      replace Kv := Lib.hid Kv
      have Kr := Ko.rd
      have st := x
      replace hA := hA.ext st
      replace hB := hB.ext st
      replace Pr := Pr.ext st
      replace Qr := Qr.ext st
      replace Rr := Rr.ext st
      replace hE := hE.trans st
      clear st x
      have eK : Kz = [] := canon_zero Kk (Kv.out.trans hz.out)
      have eQ : Qz = [] := canon_zero Qk Qv.out
      have eR : Rz = [] := canon_zero Rk Rv.out
      have eP : Pz = [] := canon_zero Pk (by rw [Pv.out, hz.out, Nat.mul_zero])
      subst eK eQ eR eP
      go_wp2_with fail
      go_ret
      exact ⟨rfl, hE⟩
    replace hz := Lib.hid hz
    go_enter Try.func9, Try.ntmps9
    go_wp2_with fail
    refine (adding_any _).mono ?_
    rintro e w1 ⟨rfl, hE⟩
    go_wp2_with fail
    refine (dividing_any _).mono ?_
    rintro e w2 ⟨rfl, hE2⟩
    replace hE := hE.trans hE2
    clear hE2
    go_wp2_with fail
    refine (short_any _ _ _ _ _ _ _ _).mono ?_
    rintro e w' ⟨rfl, rfl⟩
    rw [hd.out]
    replace hA := hA.ext hE
    replace hB := hB.ext hE
    replace hC := hC.ext hE
    go_wp2_with fail
    refine (Mul_any _ _ _ z0 _ _ _ z1 _ rfl rfl hA hB (by omega) (by omega)).mono ?_
    rintro e w1 ⟨Pa, Pc, Pz, rfl, Po, Pk, Pv, x⟩
    replace Pv := Lib.hid Pv
    have Pr := Po.rd
    have st := x
    replace hA := hA.ext st
    replace hB := hB.ext st
    replace hC := hC.ext st
    replace hE := hE.trans st
    clear st x
    have lP : Pz.length ≤ 300 := canon_len Pk (by rw [Pv.out, show 300 = 150 + 150 from rfl]; exact mul_lt_pw (val_lt_pw hA.lb (by omega)) (val_lt_pw hB.lb (by omega)))
    go_wp2_with fail
    refine (Mul_any _ _ _ z1 _ _ _ z0 _ rfl rfl hB hA (by omega) (by omega)).mono ?_
    rintro e w2 ⟨Xa, Xc, Xz, rfl, Xo, Xk, Xv, x⟩
    replace Xv := Lib.hid Xv
    have Xr := Xo.rd
    have st := x
    replace hA := hA.ext st
    replace hB := hB.ext st
    replace hC := hC.ext st
    replace Pr := Pr.ext st
    replace hE := hE.trans st
    clear st x
    go_wp2_with fail
    refine (Cmp_eq _ _ _ Pz _ _ _ Xz _ rfl rfl Pr Xr (by rw [Pv.out, Xv.out]; exact Nat.mul_comm _ _)).mono ?_
    rintro e w3 ⟨rfl, x⟩
    replace x := x.ext
    have st := x
    replace hA := hA.ext st
    replace hB := hB.ext st
    replace hC := hC.ext st
    replace Pr := Pr.ext st
    replace Xr := Xr.ext st
    replace hE := hE.trans st
    clear st x
    go_wp2_with fail
    refine (Add_any _ _ _ z0 _ _ _ z2 _ rfl rfl hA hC (by omega) (by omega)).mono ?_
    rintro e w4 ⟨Sa, Sc, Sz, rfl, So, Sk, Sv, x⟩
    replace Sv := Lib.hid Sv
    have Sr := So.rd
    have st := x
    replace hA := hA.ext st
    replace hB := hB.ext st
    replace hC := hC.ext st
    replace Pr := Pr.ext st
    replace hE := hE.trans st
    clear st x
    have lS : Sz.length ≤ 151 := canon_len Sk (by rw [Sv.out]; exact add_lt_pw hA.lb hC.lb (by omega) (by omega))
    go_wp2_with fail
    refine (Mul_any _ _ _ Sz _ _ _ z1 _ rfl rfl Sr hB (by omega) (by omega)).mono ?_
    rintro e w5 ⟨Ua, Uc, Uz, rfl, Uo, Uk, Uv, x⟩
    replace Uv := Lib.hid Uv
    have Ur := Uo.rd
    have st := x
    replace hA := hA.ext st
    replace hB := hB.ext st
    replace hC := hC.ext st
    replace Pr := Pr.ext st
    replace Sr := Sr.ext st
    replace hE := hE.trans st
    clear st x
    go_wp2_with fail
    refine (Mul_any _ _ _ z2 _ _ _ z1 _ rfl rfl hC hB (by omega) (by omega)).mono ?_
    rintro e w6 ⟨Va, Vc, Vz, rfl, Vo, Vk, Vv, x⟩
    replace Vv := Lib.hid Vv
    have Vr := Vo.rd
    have st := x
    replace hA := hA.ext st
    replace hB := hB.ext st
    replace hC := hC.ext st
    replace Pr := Pr.ext st
    replace Ur := Ur.ext st
    replace hE := hE.trans st
    clear st x
    have lV : Vz.length ≤ 300 := canon_len Vk (by rw [Vv.out, show 300 = 150 + 150 from rfl]; exact mul_lt_pw (val_lt_pw hC.lb (by omega)) (val_lt_pw hB.lb (by omega)))
    go_wp2_with fail
    refine (Add_any _ _ _ Pz _ _ _ Vz _ rfl rfl Pr Vr (by omega) (by omega)).mono ?_
    rintro e w7 ⟨Ta, Tc, Tz, rfl, To, Tk, Tv, x⟩
    replace Tv := Lib.hid Tv
    have Tr := To.rd
    have st := x
    replace hA := hA.ext st
    replace hB := hB.ext st
    replace hC := hC.ext st
    replace Pr := Pr.ext st
    replace Ur := Ur.ext st
    replace Vr := Vr.ext st
    replace hE := hE.trans st
    clear st x
    go_wp2_with fail
    refine (Cmp_eq _ _ _ Uz _ _ _ Tz _ rfl rfl Ur Tr (by rw [Uv.out, Tv.out, Sv.out, Pv.out, Vv.out]; exact Nat.add_mul _ _ _)).mono ?_
    rintro e w8 ⟨rfl, x⟩
    replace x := x.ext
    have st := x
    replace hA := hA.ext st
    replace hB := hB.ext st
    replace hC := hC.ext st
    replace Pr := Pr.ext st
    replace Ur := Ur.ext st
    replace Vr := Vr.ext st
    replace Tr := Tr.ext st
    replace hE := hE.trans st
    clear st x
    go_wp2_with fail
    refine (Div_pos _ _ _ Pz _ _ _ z1 _ rfl rfl Pr hB (by omega) hz.out).mono ?_
    rintro e w9 ⟨Qa, Qc, Qz, Ra, Rc, Rz, rfl, Qo, Qk, Qv, Ro, Rk, Rv, x⟩
    replace Qv := Lib.hid Qv
    replace Rv := Lib.hid Rv
    have Qr := Qo.rd
    have Rr := Ro.rd
    have st := x
    replace hA := hA.ext st
    replace hB := hB.ext st
    replace Pr := Pr.ext st
    replace hE := hE.trans st
    clear st x
    go_wp2_with fail
    refine (Trim_got _ _ _ z1 _ rfl hB (by omega)).mono ?_
    rintro e w10 ⟨Ka, Kc, Kz, rfl, Ko, Kk, Kv, x⟩
    replace Kv := Lib.hid Kv
    have Kr := Ko.rd
    have st := x
    replace hA := hA.ext st
    replace hB := hB.ext st
    replace Pr := Pr.ext st
    replace Qr := Qr.ext st
    replace Rr := Rr.ext st
    replace hE := hE.trans st
    clear st x
    have lK : ((Kz.length : Int) == 0) = false := beq_eq_false_iff_ne.2 (len_ne Kk Kv.out hz.out)
    have eR : Rz = [] := canon_zero Rk (by rw [Rv.out, Pv.out]; exact Nat.mul_mod_left _ _)
    subst eR
    go_wp2_with fail
    refine (Cmp_eq _ _ _ Qz _ _ _ z0 _ rfl rfl Qr hA (by rw [Qv.out, Pv.out]; exact Nat.mul_div_cancel _ (Nat.pos_of_ne_zero hz.out))).mono ?_
    rintro e w11 ⟨rfl, x⟩
    replace x := x.ext
    have st := x
    replace hA := hA.ext st
    replace Qr := Qr.ext st
    replace hE := hE.trans st
    clear st x
    go_wp2_with fail
    go_ret
    exact ⟨rfl, hE⟩
  · by_cases hs1 : ((z0.length : Int) ≤ 150 ∧ (z1.length : Int) ≤ 150)
    · have hd : decide ((z0.length : Int) ≤ 150 ∧ (z1.length : Int) ≤ 150) = true := decide_eq_true hs1
      have hd := Lib.hid hd
      have hl : 150 < z2.length := by omega
      clear hs hs1
      go_enter Try.func9, Try.ntmps9
      go_wp2_with fail
      refine (adding_any _).mono ?_
      rintro e w1 ⟨rfl, hE⟩
      go_wp2_with fail
      refine (dividing_any _).mono ?_
      rintro e w2 ⟨rfl, hE2⟩
      replace hE := hE.trans hE2
      clear hE2
      go_wp2_with fail
      refine (short_any _ _ _ _ _ _ _ _).mono ?_
      rintro e w' ⟨rfl, rfl⟩
      rw [hd.out]
      go_wp2_with fail
      go_ret
      exact ⟨rfl, hE⟩
    · have hd : decide ((z0.length : Int) ≤ 150 ∧ (z1.length : Int) ≤ 150) = false := decide_eq_false hs1
      have hd := Lib.hid hd
      clear hs hs1
      go_enter Try.func9, Try.ntmps9
      go_wp2_with fail
      refine (adding_any _).mono ?_
      rintro e w1 ⟨rfl, hE⟩
      go_wp2_with fail
      refine (dividing_any _).mono ?_
      rintro e w2 ⟨rfl, hE2⟩
      replace hE := hE.trans hE2
      clear hE2
      go_wp2_with fail
      refine (short_any _ _ _ _ _ _ _ _).mono ?_
      rintro e w' ⟨rfl, rfl⟩
      rw [hd.out]
      go_wp2_with fail
      go_ret
      exact ⟨rfl, hE⟩
end Go.Proofs.Ytejgefhmagamiaa
