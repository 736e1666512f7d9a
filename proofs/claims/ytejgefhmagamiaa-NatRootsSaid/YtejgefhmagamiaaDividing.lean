/-
  The statements' helper dividing answers true.
-/
import Derived.Test.YtejgefhmagamiaaAdding
import Derived.Test.YtejgefhmagamiaaGcd
import Derived.Test.YtejgefhmagamiaaMulC
namespace Go.Proofs.Ytejgefhmagamiaa
open Go.RowKit

set_option maxHeartbeats 2000000 in
theorem dividing_any (w : World) : Calls Try.prog 30 #[] w fun e w' => e = .returned (.bool true) ∧ Ext w w' := by
  go_enter Try.func30, Try.ntmps30
  go_wp2_with fail
  refine (Of_any 100 (by omega) (by omega) _).mono ?_
  rintro e w1 ⟨Aa, Ac, Az, rfl, Ao, Ak, Av, x⟩
  replace Av := Lib.hid Av
  have Ar := Ao.rd
  have st := x
  have hE := st
  clear st x
  go_wp2_with fail
  refine (Of_any 7 (by omega) (by omega) _).mono ?_
  rintro e w2 ⟨Ba, Bc, Bz, rfl, Bo, Bk, Bv, x⟩
  replace Bv := Lib.hid Bv
  have Br := Bo.rd
  have st := x
  replace Ar := Ar.ext st
  replace hE := hE.trans st
  clear st x
  go_wp2_with fail
  refine (Div_pos _ _ _ Az _ _ _ Bz _ rfl rfl Ar Br (Nat.le_trans (canon_small Ak Av.out (by decide)) (by decide)) (by rw [Bv.out]; decide)).mono ?_
  rintro e w3 ⟨Qa, Qc, Qz, Ra, Rc, Rz, rfl, Qo, Qk, Qv, Ro, Rk, Rv, x⟩
  replace Qv := Lib.hid Qv
  replace Rv := Lib.hid Rv
  have Qr := Qo.rd
  have Rr := Ro.rd
  have st := x
  replace Ar := Ar.ext st
  replace Br := Br.ext st
  replace hE := hE.trans st
  clear st x
  go_wp2_with fail
  refine (Of_any 1 (by omega) (by omega) _).mono ?_
  rintro e w4 ⟨Ca, Cc, Cz, rfl, Co, Ck, Cv, x⟩
  replace Cv := Lib.hid Cv
  have Cr := Co.rd
  have st := x
  replace Qr := Qr.ext st
  replace Rr := Rr.ext st
  replace hE := hE.trans st
  clear st x
  go_wp2_with fail
  refine (Div_zero _ _ _ Cz _ _ _ [] _ rfl rfl Cr (Rd.nil _) (Nat.le_trans (canon_small Ck Cv.out (by decide)) (by decide)) rfl).mono ?_
  rintro e w5 ⟨Xa, Xc, Xz, Ya, Yc, Yz, rfl, Xo, Xk, Xv, Yo, Yk, Yv, x⟩
  replace Xv := Lib.hid Xv
  replace Yv := Lib.hid Yv
  have Xr := Xo.rd
  have Yr := Yo.rd
  have st := x
  replace Qr := Qr.ext st
  replace Rr := Rr.ext st
  replace Cr := Cr.ext st
  replace hE := hE.trans st
  clear st x
  go_wp2_with fail
  refine (Of_any 6 (by omega) (by omega) _).mono ?_
  rintro e w6 ⟨Da, Dc, Dz, rfl, Do, Dk, Dv, x⟩
  replace Dv := Lib.hid Dv
  have Dr := Do.rd
  have st := x
  replace Qr := Qr.ext st
  replace Rr := Rr.ext st
  replace hE := hE.trans st
  clear st x
  go_wp2_with fail
  refine (Of_any 7 (by omega) (by omega) _).mono ?_
  rintro e w7 ⟨Fa, Fc, Fz, rfl, Fo, Fk, Fv, x⟩
  replace Fv := Lib.hid Fv
  have Fr := Fo.rd
  have st := x
  replace Qr := Qr.ext st
  replace Rr := Rr.ext st
  replace Dr := Dr.ext st
  replace hE := hE.trans st
  clear st x
  go_wp2_with fail
  refine (Mul_any _ _ _ Dz _ _ _ Fz _ rfl rfl Dr Fr (Nat.le_trans (canon_small Dk Dv.out (by decide)) (by decide)) (Nat.le_trans (canon_small Fk Fv.out (by decide)) (by decide))).mono ?_
  rintro e w8 ⟨Ma, Mc, Mz, rfl, Mo, Mk, Mv, x⟩
  replace Mv := Lib.hid Mv
  have Mr := Mo.rd
  have st := x
  replace Qr := Qr.ext st
  replace Rr := Rr.ext st
  replace Dr := Dr.ext st
  replace Fr := Fr.ext st
  replace hE := hE.trans st
  clear st x
  go_wp2_with fail
  refine (same_yes _ _ _ Mz _ _ _ [42] _ rfl rfl (Mr.ext ((Ext.refl _).alloc _)) (row1 _ 42 42 rfl (by omega)).rd Mk (canon_lit (by decide)) (Mv.out.trans (by rw [Dv.out, Fv.out]; decide))).mono ?_
  rintro e w9 ⟨rfl, x⟩
  replace x := x.ext
  have st := ((Ext.refl _).alloc _).trans x
  replace Qr := Qr.ext st
  replace Rr := Rr.ext st
  replace Dr := Dr.ext st
  replace Fr := Fr.ext st
  replace Mr := Mr.ext st
  replace hE := hE.trans st
  clear st x
  go_wp2_with fail
  refine (same_yes _ _ _ Qz _ _ _ [14] _ rfl rfl (Qr.ext ((Ext.refl _).alloc _)) (row1 _ 14 14 rfl (by omega)).rd Qk (canon_lit (by decide)) (Qv.out.trans (by rw [Av.out, Bv.out]; decide))).mono ?_
  rintro e w10 ⟨rfl, x⟩
  replace x := x.ext
  have st := ((Ext.refl _).alloc _).trans x
  replace Qr := Qr.ext st
  replace Rr := Rr.ext st
  replace hE := hE.trans st
  clear st x
  go_wp2_with fail
  refine (same_yes _ _ _ Rz _ _ _ [2] _ rfl rfl (Rr.ext ((Ext.refl _).alloc _)) (row1 _ 2 2 rfl (by omega)).rd Rk (canon_lit (by decide)) (Rv.out.trans (by rw [Av.out, Bv.out]; decide))).mono ?_
  rintro e w11 ⟨rfl, x⟩
  replace x := x.ext
  have st := ((Ext.refl _).alloc _).trans x
  replace Rr := Rr.ext st
  replace hE := hE.trans st
  clear st x
  go_wp2_with fail
  refine (Of_any 12 (by omega) (by omega) _).mono ?_
  rintro e w12 ⟨Ga, Gc, Gz, rfl, Go, Gk, Gv, x⟩
  replace Gv := Lib.hid Gv
  have Gr := Go.rd
  have st := x
  replace hE := hE.trans st
  clear st x
  go_wp2_with fail
  refine (Of_any 18 (by omega) (by omega) _).mono ?_
  rintro e w13 ⟨Ha, Hc, Hz, rfl, Ho, Hk, Hv, x⟩
  replace Hv := Lib.hid Hv
  have Hr := Ho.rd
  have st := x
  replace Gr := Gr.ext st
  replace hE := hE.trans st
  clear st x
  go_wp2_with fail
  refine (Gcd_any _ _ _ Gz _ _ _ Hz 4 _ rfl rfl Gr Hr (canon_small Gk Gv.out (by decide)) (canon_small Hk Hv.out (by decide)) (by decide)).mono ?_
  rintro e w14 ⟨Ia, Ic, Iz, rfl, Io, Ik, Iv, x⟩
  replace Iv := Lib.hid Iv
  have Ir := Io.rd
  have st := x
  replace Gr := Gr.ext st
  replace Hr := Hr.ext st
  replace hE := hE.trans st
  clear st x
  go_wp2_with fail
  refine (same_yes _ _ _ Iz _ _ _ [6] _ rfl rfl (Ir.ext ((Ext.refl _).alloc _)) (row1 _ 6 6 rfl (by omega)).rd Ik (canon_lit (by decide)) (Iv.out.trans (by rw [Gv.out, Hv.out]; decide))).mono ?_
  rintro e w15 ⟨rfl, x⟩
  replace x := x.ext
  have st := ((Ext.refl _).alloc _).trans x
  replace Gr := Gr.ext st
  replace Hr := Hr.ext st
  replace Ir := Ir.ext st
  replace hE := hE.trans st
  clear st x
  go_wp2_with fail
  go_ret
  exact ⟨rfl, hE⟩

end Go.Proofs.Ytejgefhmagamiaa
