/-
  The statements' helper moving answers true.
-/
import Derived.Test.YtejgefhmagamiaaAdding
import Derived.Test.YtejgefhmagamiaaRoot
namespace Go.Proofs.Ytejgefhmagamiaa
open Go.RowKit

theorem root_99 {m : Nat} (h1 : m * m ≤ 99) (h2 : 99 < (m + 1) * (m + 1)) : m = 9 := by
  have a : m < 10 := by
    rcases Nat.lt_or_ge m 10 with h | h
    · exact h
    · have := Nat.mul_le_mul h h; omega
  have b : 9 ≤ m := by
    rcases Nat.lt_or_ge m 9 with h | h
    · have := Nat.mul_le_mul (show m + 1 ≤ 9 by omega) (show m + 1 ≤ 9 by omega); omega
    · exact h
  omega

set_option maxHeartbeats 2000000 in
theorem moving_any (w : World) : Calls Try.prog 37 #[] w fun e w' => e = .returned (.bool true) ∧ Ext w w' := by
  go_enter Try.func37, Try.ntmps37
  go_wp2_with fail
  refine (Of_any 3 (by omega) (by omega) _).mono ?_
  rintro e w1 ⟨Ba, Bc, Bz, rfl, Bo, Bk, Bv, x⟩
  replace Bv := Lib.hid Bv
  have Br := Bo.rd
  have st := x
  have hE := st
  clear st x
  go_wp2_with fail
  refine (Left_any _ _ _ Bz _ 33 _ rfl rfl Br (Nat.le_trans (canon_small Bk Bv.out (by decide)) (by decide)) (by omega)).mono ?_
  rintro e w2 ⟨Aa, Ac, Az, rfl, Ao, Ak, Av, x⟩
  replace Av := Lib.hid Av
  have Ar := Ao.rd
  have st := x
  replace Br := Br.ext st
  replace hE := hE.trans st
  clear st x
  have AV : Hid (val Az = 25769803776) := by unfold Hid; rw [Av.out, Bv.out]; decide
  have lA : Az.length ≤ 4 := canon_small Ak AV.out (by decide)
  go_wp2_with fail
  refine (Of_any 3 (by omega) (by omega) _).mono ?_
  rintro e w3 ⟨Ca, Cc, Cz, rfl, Co, Ck, Cv, x⟩
  replace Cv := Lib.hid Cv
  have Cr := Co.rd
  have st := x
  replace Ar := Ar.ext st
  replace hE := hE.trans st
  clear st x
  go_wp2_with fail
  refine (Pow_any _ _ _ Cz _ _ rfl Cr (Nat.le_trans (canon_small Ck Cv.out (by decide)) (by decide))).mono ?_
  rw [Cv.out, show Int.toNat 3 = 3 from rfl, show powN 3 4 = (0, 81) from by decide]
  rintro e w4 ⟨Pa, Pc, Pz, rfl, Po, Pk, Pv, x⟩
  replace Pv := Lib.hid Pv
  have Pr := Po.rd
  have st := x
  replace Ar := Ar.ext st
  replace Cr := Cr.ext st
  replace hE := hE.trans st
  clear st x
  go_wp2_with fail
  refine (Of_any 3 (by omega) (by omega) _).mono ?_
  rintro e w5 ⟨Da, Dc, Dz, rfl, Do, Dk, Dv, x⟩
  replace Dv := Lib.hid Dv
  have Dr := Do.rd
  have st := x
  replace Ar := Ar.ext st
  replace Pr := Pr.ext st
  replace hE := hE.trans st
  clear st x
  go_wp2_with fail
  refine (Pow_any _ _ _ Dz _ _ rfl Dr (Nat.le_trans (canon_small Dk Dv.out (by decide)) (by decide))).mono ?_
  rw [Dv.out, show Int.toNat 3 = 3 from rfl, show powN 3 (-1) = (1, 0) from by decide]
  rintro e w6 ⟨Ga, Gc, Gz, rfl, Go, Gk, Gv, x⟩
  replace Gv := Lib.hid Gv
  have Gr := Go.rd
  have st := x
  replace Ar := Ar.ext st
  replace Pr := Pr.ext st
  replace Dr := Dr.ext st
  replace hE := hE.trans st
  clear st x
  go_wp2_with fail
  refine (same_yes _ _ _ Az _ _ _ [0, 6] _ rfl rfl (Ar.ext ((Ext.refl _).alloc _)) (row2 _ 0 6 0 6 rfl rfl (by omega) (by omega)).rd Ak (canon_lit (by decide)) (AV.out.trans (by decide))).mono ?_
  rintro e w7 ⟨rfl, x⟩
  replace x := x.ext
  have st := ((Ext.refl _).alloc _).trans x
  replace Ar := Ar.ext st
  replace Pr := Pr.ext st
  replace hE := hE.trans st
  clear st x
  go_wp2_with fail
  refine (Right_any _ _ _ Az _ 34 _ rfl rfl (by omega) Ar (by omega)).mono ?_
  rintro e w8 ⟨Ra, Rc, Rz, rfl, Ro, Rk, Rv, x⟩
  replace Rv := Lib.hid Rv
  have Rr := Ro.rd
  have st := x
  replace Ar := Ar.ext st
  replace Pr := Pr.ext st
  replace hE := hE.trans st
  clear st x
  go_wp2_with fail
  refine (same_yes _ _ _ Rz _ _ _ [1] _ rfl rfl (Rr.ext ((Ext.refl _).alloc _)) (row1 _ 1 1 rfl (by omega)).rd Rk (canon_lit (by decide)) (Rv.out.trans (by rw [AV.out]; decide))).mono ?_
  rintro e w9 ⟨rfl, x⟩
  replace x := x.ext
  have st := ((Ext.refl _).alloc _).trans x
  replace Ar := Ar.ext st
  replace Pr := Pr.ext st
  replace Rr := Rr.ext st
  replace hE := hE.trans st
  clear st x
  go_wp2_with fail
  refine (Bits_any _ _ _ Az _ rfl Ar (by omega)).mono ?_
  rintro e w' ⟨rfl, rfl⟩
  rw [AV.out, show nb 25769803776 = 35 from nb_eq (k := 34) (by decide) (by decide)]
  go_wp2_with fail
  refine (Bit_any _ _ _ Az _ 34 _ rfl rfl (by omega) Ar (by omega)).mono ?_
  rintro e w' ⟨rfl, rfl⟩
  rw [AV.out, show tb 25769803776 34 = true from by decide]
  go_wp2_with fail
  refine (Bit_any _ _ _ Az _ 35 _ rfl rfl (by omega) Ar (by omega)).mono ?_
  rintro e w' ⟨rfl, rfl⟩
  rw [AV.out, show tb 25769803776 35 = false from by decide]
  go_wp2_with fail
  refine (same_yes _ _ _ Pz _ _ _ [81] _ rfl rfl (Pr.ext ((Ext.refl _).alloc _)) (row1 _ 81 81 rfl (by omega)).rd Pk (canon_lit (by decide)) (Pv.out.trans (by decide))).mono ?_
  rintro e w10 ⟨rfl, x⟩
  replace x := x.ext
  have st := ((Ext.refl _).alloc _).trans x
  replace Pr := Pr.ext st
  replace hE := hE.trans st
  clear st x
  go_wp2_with fail
  refine (Of_any 99 (by omega) (by omega) _).mono ?_
  rintro e w11 ⟨Fa, Fc, Fz, rfl, Fo, Fk, Fv, x⟩
  replace Fv := Lib.hid Fv
  have Fr := Fo.rd
  have st := x
  replace hE := hE.trans st
  clear st x
  go_wp2_with fail
  refine (Root_any _ _ _ Fz _ rfl Fr (Nat.le_trans (canon_small Fk Fv.out (by decide)) (by decide))).mono ?_
  rintro e w12 ⟨m, h1, h2, Ha, Hc, Hz, rfl, Ho, Hk, Hv, x⟩
  have Hm : Hid (m = 9) := by rw [Fv.out, show Int.toNat 99 = 99 from rfl] at h1 h2; exact root_99 h1 h2
  clear h1 h2
  replace Hv := Lib.hid Hv
  have Hr := Ho.rd
  have st := x
  replace Fr := Fr.ext st
  replace hE := hE.trans st
  clear st x
  go_wp2_with fail
  refine (same_yes _ _ _ Hz _ _ _ [9] _ rfl rfl (Hr.ext ((Ext.refl _).alloc _)) (row1 _ 9 9 rfl (by omega)).rd Hk (canon_lit (by decide)) (Hv.out.trans (Hm.out.trans (by decide)))).mono ?_
  rintro e w13 ⟨rfl, x⟩
  replace x := x.ext
  have st := ((Ext.refl _).alloc _).trans x
  replace Hr := Hr.ext st
  replace hE := hE.trans st
  clear st x
  go_wp2_with fail
  go_ret
  exact ⟨rfl, hE⟩

end Go.Proofs.Ytejgefhmagamiaa
