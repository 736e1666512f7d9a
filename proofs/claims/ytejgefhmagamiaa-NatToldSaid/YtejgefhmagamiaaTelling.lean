/-
  The statements' helper telling answers true.
-/
import Derived.Test.YtejgefhmagamiaaRefX
namespace Go.Proofs.Ytejgefhmagamiaa
open Go.RowKit

set_option maxHeartbeats 2000000 in
theorem telling_any (w : World) : Calls Try.prog 25 #[] w fun e w' => e = .returned (.bool true) ∧ Ext w w' := by
  have e1 : parseV ⟨#[49, 56, 52, 52, 54, 55, 52, 52, 48, 55, 51, 55, 48, 57, 53, 53, 49, 54, 49, 54]⟩ = (0, 18446744073709551616) := by decide +kernel
  have e2 : parseV ⟨#[49, 120]⟩ = (20, 0) := by decide +kernel
  go_enter Try.func25, Try.ntmps25
  go_wp2_with fail
  refine (Parse_any _ _).mono ?_
  rw [e1]
  rintro e w1 ⟨Aa, Ac, Az, rfl, Ao, Ak, Av, x⟩
  replace Av := Lib.hid Av
  have Ar := Ao.rd
  have st := x
  have hE := st
  clear st x
  replace Av : val Az = 18446744073709551616 := Av.out
  replace Av := Lib.hid Av
  go_wp2_with fail
  refine (Parse_any _ _).mono ?_
  rw [e2]
  rintro e w2 ⟨Ba, Bc, Bz, rfl, Bo, Bk, Bv, x⟩
  replace Bv := Lib.hid Bv
  have Br := Bo.rd
  have st := x
  replace Ar := Ar.ext st
  replace hE := hE.trans st
  clear st x
  go_wp2_with fail
  refine (same_yes _ _ _ Az _ _ _ [0, 0, 1] _ rfl rfl (Ar.ext ((Ext.refl _).alloc _)) (row3 _ 0 0 1 0 0 1 rfl rfl rfl (by omega) (by omega) (by omega)).rd Ak (canon_lit (by decide)) (Av.out.trans (by decide))).mono ?_
  rintro e w3 ⟨rfl, x⟩
  replace x := x.ext
  have st := ((Ext.refl _).alloc _).trans x
  replace Ar := Ar.ext st
  replace hE := hE.trans st
  clear st x
  go_wp2_with fail
  refine (Text_any _ _ _ Az _ rfl Ar (Nat.le_trans (canon_small Ak Av.out (by decide)) (by decide))).mono ?_
  rintro e w4 ⟨Cs, rfl, Ct, x⟩
  have st := x
  replace Ar := Ar.ext st
  replace hE := hE.trans st
  clear st x
  rw [Av.out] at Ct
  obtain rfl : Cs = ⟨#[49, 56, 52, 52, 54, 55, 52, 52, 48, 55, 51, 55, 48, 57, 53, 53, 49, 54, 49, 54]⟩ := isT_str Ct (isT_lit (by decide +kernel))
  clear Ct
  have hnil := Rd.nil w
  go_wp2_with fail
  refine (Text_any _ _ _ [] _ rfl (hnil.ext hE) (by decide)).mono ?_
  rintro e w5 ⟨Ds, rfl, Dt, x⟩
  have st := x
  replace hE := hE.trans st
  clear st x
  obtain rfl : Ds = ⟨#[48]⟩ := isT_str Dt (isT_lit (by decide +kernel))
  clear Dt
  go_wp2_with fail
  go_ret
  exact ⟨rfl, hE⟩

end Go.Proofs.Ytejgefhmagamiaa
