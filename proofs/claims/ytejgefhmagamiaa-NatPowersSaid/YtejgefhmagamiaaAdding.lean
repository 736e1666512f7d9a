/-
  The statements' helper adding answers true.
-/
import Derived.Test.YtejgefhmagamiaaLaw01
namespace Go.Proofs.Ytejgefhmagamiaa
open Go.RowKit

set_option maxHeartbeats 2000000 in
theorem adding_any (w : World) : Calls Try.prog 14 #[] w fun e w' => e = .returned (.bool true) ∧ Ext w w' := by
  go_enter Try.func14, Try.ntmps14
  go_wp2_with fail
  refine (Of_any 7 (by omega) (by omega) _).mono ?_
  rintro e w1 ⟨Aa, Ac, Az, rfl, Ao, Ak, Av, x⟩
  replace Av := Lib.hid Av
  have Ar := Ao.rd
  have st := x
  have hE := st
  clear st x
  go_wp2_with fail
  refine (Of_any 5 (by omega) (by omega) _).mono ?_
  rintro e w2 ⟨Ba, Bc, Bz, rfl, Bo, Bk, Bv, x⟩
  replace Bv := Lib.hid Bv
  have Br := Bo.rd
  have st := x
  replace Ar := Ar.ext st
  replace hE := hE.trans st
  clear st x
  go_wp2_with fail
  refine (Sub_any _ _ _ Az _ _ _ Bz _ rfl rfl Ar Br (Nat.le_trans (canon_small Ak Av.out (by decide)) (by decide)) (Nat.le_trans (canon_small Bk Bv.out (by decide)) (by decide))).mono ?_
  rintro e w3 ⟨Ca, Cc, Cz, rfl, Co, Ck, Cv, x⟩
  rw [Av.out, Bv.out] at Cv
  have hd : decide (val Bz ≤ val Az) = true := by rw [Av.out, Bv.out]; decide
  rw [hd]
  clear hd
  replace Cv := Lib.hid Cv
  have Cr := Co.rd
  have st := x
  replace Ar := Ar.ext st
  replace Br := Br.ext st
  replace hE := hE.trans st
  clear st x
  go_wp2_with fail
  refine (Of_any 5 (by omega) (by omega) _).mono ?_
  rintro e w4 ⟨Da, Dc, Dz, rfl, Do, Dk, Dv, x⟩
  replace Dv := Lib.hid Dv
  have Dr := Do.rd
  have st := x
  replace Ar := Ar.ext st
  replace Br := Br.ext st
  replace Cr := Cr.ext st
  replace hE := hE.trans st
  clear st x
  go_wp2_with fail
  refine (Of_any 7 (by omega) (by omega) _).mono ?_
  rintro e w5 ⟨Fa, Fc, Fz, rfl, Fo, Fk, Fv, x⟩
  replace Fv := Lib.hid Fv
  have Fr := Fo.rd
  have st := x
  replace Ar := Ar.ext st
  replace Br := Br.ext st
  replace Cr := Cr.ext st
  replace Dr := Dr.ext st
  replace hE := hE.trans st
  clear st x
  go_wp2_with fail
  refine (Sub_any _ _ _ Dz _ _ _ Fz _ rfl rfl Dr Fr (Nat.le_trans (canon_small Dk Dv.out (by decide)) (by decide)) (Nat.le_trans (canon_small Fk Fv.out (by decide)) (by decide))).mono ?_
  rintro e w6 ⟨Ga, Gc, Gz, rfl, Go, Gk, Gv, x⟩
  rw [Dv.out, Fv.out] at Gv
  have hd : decide (val Fz ≤ val Dz) = false := by rw [Dv.out, Fv.out]; decide
  rw [hd]
  clear hd
  replace Gv := Lib.hid Gv
  have Gr := Go.rd
  have st := x
  replace Ar := Ar.ext st
  replace Br := Br.ext st
  replace Cr := Cr.ext st
  replace Dr := Dr.ext st
  replace Fr := Fr.ext st
  replace hE := hE.trans st
  clear st x
  go_wp2_with fail
  refine (Trim_got _ _ _ [3, 0] _ rfl (row2 _ 3 0 3 0 rfl rfl (by omega) (by omega)).rd (by decide)).mono ?_
  rintro e w7 ⟨Ha, Hc, Hz, rfl, Ho, Hk, Hv, x⟩
  replace Hv := Lib.hid Hv
  have Hr := Ho.rd
  have st := ((Ext.refl _).alloc _).trans x
  replace Ar := Ar.ext st
  replace Br := Br.ext st
  replace Cr := Cr.ext st
  replace Dr := Dr.ext st
  replace Fr := Fr.ext st
  replace Gr := Gr.ext st
  replace hE := hE.trans st
  clear st x
  go_wp2_with fail
  refine (same_yes _ _ _ Hz _ _ _ [3] _ rfl rfl (Hr.ext ((Ext.refl _).alloc _)) (row1 _ 3 3 rfl (by omega)).rd Hk (canon_lit (by decide)) (Hv.out.trans (by decide))).mono ?_
  rintro e w8 ⟨rfl, x⟩
  replace x := x.ext
  have st := ((Ext.refl _).alloc _).trans x
  replace Ar := Ar.ext st
  replace Br := Br.ext st
  replace Cr := Cr.ext st
  replace Dr := Dr.ext st
  replace Fr := Fr.ext st
  replace Gr := Gr.ext st
  replace Hr := Hr.ext st
  replace hE := hE.trans st
  clear st x
  go_wp2_with fail
  refine (Of_any 4294967296 (by omega) (by omega) _).mono ?_
  rintro e w9 ⟨Ia, Ic, Iz, rfl, Io, Ik, Iv, x⟩
  replace Iv := Lib.hid Iv
  have Ir := Io.rd
  have st := x
  replace Cr := Cr.ext st
  replace hE := hE.trans st
  clear st x
  go_wp2_with fail
  refine (same_yes _ _ _ Iz _ _ _ [0, 1] _ rfl rfl (Ir.ext ((Ext.refl _).alloc _)) (row2 _ 0 1 0 1 rfl rfl (by omega) (by omega)).rd Ik (canon_lit (by decide)) (Iv.out.trans (by decide))).mono ?_
  rintro e w10 ⟨rfl, x⟩
  replace x := x.ext
  have st := ((Ext.refl _).alloc _).trans x
  replace Cr := Cr.ext st
  replace Ir := Ir.ext st
  replace hE := hE.trans st
  clear st x
  go_wp2_with fail
  refine (Of_any 4294967295 (by omega) (by omega) _).mono ?_
  rintro e w11 ⟨Ja, Jc, Jz, rfl, Jo, Jk, Jv, x⟩
  replace Jv := Lib.hid Jv
  have Jr := Jo.rd
  have st := x
  replace Cr := Cr.ext st
  replace hE := hE.trans st
  clear st x
  go_wp2_with fail
  refine (Of_any 1 (by omega) (by omega) _).mono ?_
  rintro e w12 ⟨Ka, Kc, Kz, rfl, Ko, Kk, Kv, x⟩
  replace Kv := Lib.hid Kv
  have Kr := Ko.rd
  have st := x
  replace Cr := Cr.ext st
  replace Jr := Jr.ext st
  replace hE := hE.trans st
  clear st x
  go_wp2_with fail
  refine (Add_any _ _ _ Jz _ _ _ Kz _ rfl rfl Jr Kr (Nat.le_trans (canon_small Jk Jv.out (by decide)) (by decide)) (Nat.le_trans (canon_small Kk Kv.out (by decide)) (by decide))).mono ?_
  rintro e w13 ⟨Ma, Mc, Mz, rfl, Mo, Mk, Mv, x⟩
  replace Mv := Lib.hid Mv
  have Mr := Mo.rd
  have st := x
  replace Cr := Cr.ext st
  replace Jr := Jr.ext st
  replace Kr := Kr.ext st
  replace hE := hE.trans st
  clear st x
  rw [Jv.out, Kv.out] at Mv
  go_wp2_with fail
  refine (same_yes _ _ _ Mz _ _ _ [0, 1] _ rfl rfl (Mr.ext ((Ext.refl _).alloc _)) (row2 _ 0 1 0 1 rfl rfl (by omega) (by omega)).rd Mk (canon_lit (by decide)) (Mv.out.trans (by decide))).mono ?_
  rintro e w14 ⟨rfl, x⟩
  replace x := x.ext
  have st := ((Ext.refl _).alloc _).trans x
  replace Cr := Cr.ext st
  replace Jr := Jr.ext st
  replace Kr := Kr.ext st
  replace Mr := Mr.ext st
  replace hE := hE.trans st
  clear st x
  go_wp2_with fail
  refine (same_yes _ _ _ Cz _ _ _ [2] _ rfl rfl (Cr.ext ((Ext.refl _).alloc _)) (row1 _ 2 2 rfl (by omega)).rd Ck (canon_lit (by decide)) (Cv.out.trans (by decide))).mono ?_
  rintro e w15 ⟨rfl, x⟩
  replace x := x.ext
  have st := ((Ext.refl _).alloc _).trans x
  replace Cr := Cr.ext st
  replace hE := hE.trans st
  clear st x
  go_wp2_with fail
  refine (Of_any 3 (by omega) (by omega) _).mono ?_
  rintro e w16 ⟨Na, Nc, Nz, rfl, No, Nk, Nv, x⟩
  replace Nv := Lib.hid Nv
  have Nr := No.rd
  have st := x
  replace hE := hE.trans st
  clear st x
  go_wp2_with fail
  refine (Cmp_eq _ _ _ Nz _ _ _ [3, 0] _ rfl rfl (Nr.ext ((Ext.refl _).alloc _)) (row2 _ 3 0 3 0 rfl rfl (by omega) (by omega)).rd (Nv.out.trans (by decide))).mono ?_
  rintro e w17 ⟨rfl, x⟩
  replace x := x.ext
  have st := ((Ext.refl _).alloc _).trans x
  replace Nr := Nr.ext st
  replace hE := hE.trans st
  clear st x
  go_wp2_with fail
  refine (Of_any 2 (by omega) (by omega) _).mono ?_
  rintro e w18 ⟨Pa, Pc, Pz, rfl, Po, Pk, Pv, x⟩
  replace Pv := Lib.hid Pv
  have Pr := Po.rd
  have st := x
  replace hE := hE.trans st
  clear st x
  go_wp2_with fail
  refine (Of_any 3 (by omega) (by omega) _).mono ?_
  rintro e w19 ⟨Ra, Rc, Rz, rfl, Ro, Rk, Rv, x⟩
  replace Rv := Lib.hid Rv
  have Rr := Ro.rd
  have st := x
  replace Pr := Pr.ext st
  replace hE := hE.trans st
  clear st x
  go_wp2_with fail
  refine (Cmp_lt _ _ _ Pz _ _ _ Rz _ rfl rfl Pr Rr (by rw [Pv.out, Rv.out]; decide)).mono ?_
  rintro e w20 ⟨rfl, x⟩
  replace x := x.ext
  have st := x
  replace Pr := Pr.ext st
  replace Rr := Rr.ext st
  replace hE := hE.trans st
  clear st x
  go_wp2_with fail
  go_ret
  exact ⟨rfl, hE⟩

end Go.Proofs.Ytejgefhmagamiaa
