/-
  The walk of the statement NatMuls.
-/
import Derived.Test.YtejgefhmagamiaaDividing
import Derived.Test.YtejgefhmagamiaaRefM
namespace Go.Proofs.Ytejgefhmagamiaa
open Go.RowKit

set_option maxHeartbeats 2000000 in
theorem natMuls_walk (a0 : Option Addr) (c0 : Nat) (z0 : List Nat) (a1 : Option Addr) (c1 : Nat) (z1 : List Nat) (w : World) (hA : Rd w a0 c0 z0) (hB : Rd w a1 c1 z1) :
    Calls Try.prog 7 #[.slice a0 z0.length c0, .slice a1 z1.length c1] w fun e w' => e = .returned (.bool true) ∧ Ext w w' := by
  by_cases hs : (z0.length : Int) ≤ 120 ∧ (z1.length : Int) ≤ 120
  · have hd : decide ((z0.length : Int) ≤ 120 ∧ (z1.length : Int) ≤ 120) = true := decide_eq_true hs
    have hd := Lib.hid hd
    go_enter Try.func7, Try.ntmps7
    go_wp2_with fail
    refine (dividing_any _).mono ?_
    rintro e w1 ⟨rfl, hE⟩
    replace hA := hA.ext hE
    replace hB := hB.ext hE
    go_wp2_with fail
    refine (short_any _ _ _ _ _ _ _ _).mono ?_
    rintro e w' ⟨rfl, rfl⟩
    rw [hd.out]
    go_wp2_with fail
    refine (Mul_any _ _ _ z0 _ _ _ z1 _ rfl rfl hA hB (by omega) (by omega)).mono ?_
    rintro e w1 ⟨Ga, Gc, Gz, rfl, Go, Gk, Gv, x⟩
    replace Gv := Lib.hid Gv
    have Gr := Go.rd
    have st := x
    replace hA := hA.ext st
    replace hB := hB.ext st
    replace hE := hE.trans st
    clear st x
    go_wp2_with fail
    refine (RMul_any _ _ _ z0 _ _ _ z1 _ rfl rfl hA hB (by omega) (by omega)).mono ?_
    rintro e w2 ⟨Ha, Hc, Hz, rfl, Ho, Hk, Hv, x⟩
    replace Hv := Lib.hid Hv
    have Hr := Ho.rd
    have st := x
    replace hA := hA.ext st
    replace hB := hB.ext st
    replace Gr := Gr.ext st
    replace hE := hE.trans st
    clear st x
    go_wp2_with fail
    refine (same_yes _ _ _ Gz _ _ _ Hz _ rfl rfl Gr Hr Gk Hk (Gv.out.trans Hv.out.symm)).mono ?_
    rintro e w3 ⟨rfl, x⟩
    replace x := x.ext
    have st := x
    replace hA := hA.ext st
    replace hB := hB.ext st
    replace Gr := Gr.ext st
    replace Hr := Hr.ext st
    replace hE := hE.trans st
    clear st x
    go_wp2_with fail
    go_ret
    exact ⟨rfl, hE⟩
  · have hd : decide ((z0.length : Int) ≤ 120 ∧ (z1.length : Int) ≤ 120) = false := decide_eq_false hs
    have hd := Lib.hid hd
    clear hs
    go_enter Try.func7, Try.ntmps7
    go_wp2_with fail
    refine (dividing_any _).mono ?_
    rintro e w1 ⟨rfl, hE⟩
    go_wp2_with fail
    refine (short_any _ _ _ _ _ _ _ _).mono ?_
    rintro e w' ⟨rfl, rfl⟩
    rw [hd.out]
    go_wp2_with fail
    go_ret
    exact ⟨rfl, hE⟩
end Go.Proofs.Ytejgefhmagamiaa
