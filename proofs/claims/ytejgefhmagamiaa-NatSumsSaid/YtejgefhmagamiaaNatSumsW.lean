/-
  The walk of the statement NatSums.
-/
import Derived.Test.YtejgefhmagamiaaAdding
namespace Go.Proofs.Ytejgefhmagamiaa
open Go.RowKit

set_option maxHeartbeats 2000000 in
theorem natSums_walk (a0 : Option Addr) (c0 : Nat) (z0 : List Nat) (a1 : Option Addr) (c1 : Nat) (z1 : List Nat) (w : World) (hA : Rd w a0 c0 z0) (hB : Rd w a1 c1 z1) :
    Calls Try.prog 3 #[.slice a0 z0.length c0, .slice a1 z1.length c1] w fun e w' => e = .returned (.bool true) ∧ Ext w w' := by
  by_cases hs : (z0.length : Int) ≤ 300 ∧ (z1.length : Int) ≤ 300
  · have hd : decide ((z0.length : Int) ≤ 300 ∧ (z1.length : Int) ≤ 300) = true := decide_eq_true hs
    have hd := Lib.hid hd
    go_enter Try.func3, Try.ntmps3
    go_wp2_with fail
    refine (adding_any _).mono ?_
    rintro e w1 ⟨rfl, hE⟩
    replace hA := hA.ext hE
    replace hB := hB.ext hE
    go_wp2_with fail
    refine (short_any _ _ _ _ _ _ _ _).mono ?_
    rintro e w' ⟨rfl, rfl⟩
    rw [hd.out]
    go_wp2_with fail
    refine (Sub_any _ _ _ z0 _ _ _ z1 _ rfl rfl hA hB (by omega) (by omega)).mono ?_
    rintro e w1 ⟨Da, Dc, Dz, rfl, Do, Dk, Dv, x⟩
    replace Dv := Lib.hid Dv
    have Dr := Do.rd
    have st := x
    replace hA := hA.ext st
    replace hB := hB.ext st
    replace hE := hE.trans st
    clear st x
    go_wp2_with fail
    refine (RSub_any _ _ _ z0 _ _ _ z1 _ rfl rfl hA hB (by omega) (by omega)).mono ?_
    rintro e w2 ⟨Fa, Fc, Fz, rfl, Fo, Fk, Fv, x⟩
    replace Fv := Lib.hid Fv
    have Fr := Fo.rd
    have st := x
    replace hA := hA.ext st
    replace hB := hB.ext st
    replace Dr := Dr.ext st
    replace hE := hE.trans st
    clear st x
    go_wp2_with fail
    refine (Add_any _ _ _ z0 _ _ _ z1 _ rfl rfl hA hB (by omega) (by omega)).mono ?_
    rintro e w3 ⟨Ga, Gc, Gz, rfl, Go, Gk, Gv, x⟩
    replace Gv := Lib.hid Gv
    have Gr := Go.rd
    have st := x
    replace hA := hA.ext st
    replace hB := hB.ext st
    replace Dr := Dr.ext st
    replace Fr := Fr.ext st
    replace hE := hE.trans st
    clear st x
    go_wp2_with fail
    refine (RAdd_any _ _ _ z0 _ _ _ z1 _ rfl rfl hA hB (by omega) (by omega)).mono ?_
    rintro e w4 ⟨Ha, Hc, Hz, rfl, Ho, Hk, Hv, x⟩
    replace Hv := Lib.hid Hv
    have Hr := Ho.rd
    have st := x
    replace hA := hA.ext st
    replace hB := hB.ext st
    replace Dr := Dr.ext st
    replace Fr := Fr.ext st
    replace Gr := Gr.ext st
    replace hE := hE.trans st
    clear st x
    go_wp2_with fail
    refine (same_yes _ _ _ Gz _ _ _ Hz _ rfl rfl Gr Hr Gk Hk (Gv.out.trans Hv.out.symm)).mono ?_
    rintro e w5 ⟨rfl, x⟩
    replace x := x.ext
    have st := x
    replace hA := hA.ext st
    replace hB := hB.ext st
    replace Dr := Dr.ext st
    replace Fr := Fr.ext st
    replace Gr := Gr.ext st
    replace Hr := Hr.ext st
    replace hE := hE.trans st
    clear st x
    go_wp2_with fail
    refine (same_yes _ _ _ Dz _ _ _ Fz _ rfl rfl Dr Fr Dk Fk (Dv.out.trans Fv.out.symm)).mono ?_
    rintro e w6 ⟨rfl, x⟩
    replace x := x.ext
    have st := x
    replace hA := hA.ext st
    replace hB := hB.ext st
    replace Dr := Dr.ext st
    replace Fr := Fr.ext st
    replace hE := hE.trans st
    clear st x
    go_wp2_with fail
    refine (Cmp_any _ _ _ z0 _ _ _ z1 _ rfl rfl hA hB).mono ?_
    rintro e w7 ⟨rfl, x⟩
    replace x := x.ext
    have st := x
    replace hA := hA.ext st
    replace hB := hB.ext st
    replace hE := hE.trans st
    clear st x
    go_wp2_with fail
    refine (RCmp_any _ _ _ z0 _ _ _ z1 _ rfl rfl hA hB).mono ?_
    rintro e w8 ⟨rfl, rfl⟩
    go_wp2_with fail
    refine (Trim_got _ _ _ z0 _ rfl hA (by omega)).mono ?_
    rintro e w9 ⟨Ia, Ic, Iz, rfl, Io, Ik, Iv, x⟩
    replace Iv := Lib.hid Iv
    have Ir := Io.rd
    have st := x
    replace hA := hA.ext st
    replace hB := hB.ext st
    replace hE := hE.trans st
    clear st x
    go_wp2_with fail
    refine (RTrim_any _ _ _ z0 _ rfl hA (by omega)).mono ?_
    rintro e w10 ⟨Ja, Jc, Jz, rfl, Jo, Jk, Jv, x⟩
    replace Jv := Lib.hid Jv
    have Jr := Jo.rd
    have st := x
    replace hA := hA.ext st
    replace hB := hB.ext st
    replace Ir := Ir.ext st
    replace hE := hE.trans st
    clear st x
    go_wp2_with fail
    refine (same_yes _ _ _ Iz _ _ _ Jz _ rfl rfl Ir Jr Ik Jk (Iv.out.trans Jv.out.symm)).mono ?_
    rintro e w11 ⟨rfl, x⟩
    replace x := x.ext
    have st := x
    replace hA := hA.ext st
    replace hB := hB.ext st
    replace Ir := Ir.ext st
    replace Jr := Jr.ext st
    replace hE := hE.trans st
    clear st x
    go_wp2_with fail
    go_ret
    exact ⟨rfl, hE⟩
  · have hd : decide ((z0.length : Int) ≤ 300 ∧ (z1.length : Int) ≤ 300) = false := decide_eq_false hs
    have hd := Lib.hid hd
    clear hs
    go_enter Try.func3, Try.ntmps3
    go_wp2_with fail
    refine (adding_any _).mono ?_
    rintro e w1 ⟨rfl, hE⟩
    go_wp2_with fail
    refine (short_any _ _ _ _ _ _ _ _).mono ?_
    rintro e w' ⟨rfl, rfl⟩
    rw [hd.out]
    go_wp2_with fail
    go_ret
    exact ⟨rfl, hE⟩
end Go.Proofs.Ytejgefhmagamiaa
