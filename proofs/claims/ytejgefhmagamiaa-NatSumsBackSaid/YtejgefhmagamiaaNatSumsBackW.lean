/-
  The walk of the statement NatSumsBack.
-/
import Derived.Test.YtejgefhmagamiaaAdding
namespace Go.Proofs.Ytejgefhmagamiaa
open Go.RowKit

set_option maxHeartbeats 2000000 in
theorem natSumsBack_walk (a0 : Option Addr) (c0 : Nat) (z0 : List Nat) (a1 : Option Addr) (c1 : Nat) (z1 : List Nat) (a2 : Option Addr) (c2 : Nat) (z2 : List Nat) (w : World) (hA : Rd w a0 c0 z0) (hB : Rd w a1 c1 z1) (hC : Rd w a2 c2 z2) :
    Calls Try.prog 4 #[.slice a0 z0.length c0, .slice a1 z1.length c1, .slice a2 z2.length c2] w fun e w' => e = .returned (.bool true) ∧ Ext w w' := by
  by_cases hs : ((z0.length : Int) ≤ 300 ∧ (z1.length : Int) ≤ 300) ∧ z2.length ≤ 300
  · obtain ⟨hs, hs2⟩ := hs
    have hd : decide ((z0.length : Int) ≤ 300 ∧ (z1.length : Int) ≤ 300) = true := decide_eq_true hs
    have hd := Lib.hid hd
    go_enter Try.func4, Try.ntmps4
    go_wp2_with fail
    refine (adding_any _).mono ?_
    rintro e w1 ⟨rfl, hE⟩
    go_wp2_with fail
    refine (short_any _ _ _ _ _ _ _ _).mono ?_
    rintro e w' ⟨rfl, rfl⟩
    rw [hd.out]
    have hlen0 : (Hid (([] : List Nat) ++ z0 = z0)) := by simp [Hid]
    go_wp2_with (at_builtin; refine pushAll (wi := w) rfl _ _ rfl _ 0 [] _ rfl rfl ((own_empty _).mono hE.size) _ _ z0 _ rfl rfl (hA.ext (hE.alloc _)) ?_ rfl (hE.alloc _) ?_; (simp; omega); intro ma mc w3 hmo hE3)
    rw [hlen0.out] at hmo
    have hE := hE3
    have hmr := hmo.rd
    go_wp2_with fail
    refine (Add_any _ _ _ z0 _ _ _ z1 _ rfl rfl hmr (hB.ext hE) (by omega) (by omega)).mono ?_
    rintro e w1 ⟨Sa, Sc, Sz, rfl, So, Sk, Sv, x⟩
    replace Sv := Lib.hid Sv
    have hmb : 0 < z0.length → w.heap.size ≤ bk ma ∧ bk ma < w3.heap.size := fun hp => ⟨(hmo.blk hp).1, (hmo.blk hp).2.1⟩
    have hmo := hmo.ext x
    have hE := hE.trans x
    have Sr := So.rd
    have hSb : 0 < Sz.length → w3.heap.size ≤ bk Sa := fun hp => (So.blk hp).1
    have lS : Sz.length ≤ 301 := canon_len Sk (by rw [Sv.out]; exact add_lt_pw hA.lb hB.lb (by omega) (by omega))
    clear x So
    go_wp2_with fail
    go_loopw [37] (fun i wr => ∃ (k : Nat) (zs : List Nat), k ≤ z0.length ∧ i = .int .i64 k ∧ Hid (zs.length = z0.length) ∧ Own wr w.heap.size ma mc zs ∧ Rd wr Sa Sc Sz ∧ Ext w wr) (fun i _ => (z0.length - intOf i).toNat)
    case atStart => exact ⟨0, z0, Nat.zero_le _, rfl, rfl, hmo, Sr, hE⟩
    case round =>
      obtain ⟨k, zs, hk, rfl, hzl, hzo, Sr, hEr⟩ := hrel
      by_cases hkA : k < z0.length
      · have hkz : k < zs.length := by have := hzl.out; omega
        have hx := hzo.rd.cell k hkz
        have hf := hzo.frozen (by omega) k
        have hix := ixk hzo.rd z0.length hzl.out.symm k hkA wr
        have bx := lim_lt hzo.lb k
        have hkm := hmb (by omega)
        go_wp2_with fail
        have hst := hzo.store k hkz ((↑(lim zs k) + 1) % 4294967296) ((lim zs k + 1) % 4294967296) (by omega) (by omega)
        go_roundw
        case rel => exact ⟨k + 1, zs.set k ((lim zs k + 1) % 4294967296), by omega, by go_num, by unfold Hid; rw [List.length_set]; exact hzl.out, hst.1, Sr.kept hst.2 (fun hp => by have := hSb hp; omega), hEr.store (by exact hkm.1) _⟩
        case measure => simp [intOf]; omega
      · have hE := hEr
        clear hzo hzl hEr
        go_wp2_with fail
        refine (Sub_any _ _ _ Sz _ _ _ z1 _ rfl rfl Sr (hB.ext hE) (by omega) (by omega)).mono ?_
        rintro e w2 ⟨Da, Dc, Dz, rfl, Do, Dk, Dv, x⟩
        replace Dv := Lib.hid Dv
        have Dr := Do.rd
        have st := x
        replace Sr := Sr.ext st
        replace hE := hE.trans st
        clear st x
        go_wp2_with fail
        refine (Sub_any _ _ _ Sz _ _ _ z0 _ rfl rfl Sr (hA.ext hE) (by omega) (by omega)).mono ?_
        rintro e w3 ⟨Fa, Fc, Fz, rfl, Fo, Fk, Fv, x⟩
        replace Fv := Lib.hid Fv
        have Fr := Fo.rd
        have st := x
        replace Sr := Sr.ext st
        replace Dr := Dr.ext st
        replace hE := hE.trans st
        clear st x
        have hd1 : decide (val z1 ≤ val Sz) = true := by rw [Sv.out]; simp
        have hd2 : decide (val z0 ≤ val Sz) = true := by rw [Sv.out]; simp
        rw [hd1, hd2]
        clear hd1 hd2
        go_wp2_with fail
        refine (Cmp_eq _ _ _ Dz _ _ _ z0 _ rfl rfl Dr (hA.ext hE) (by rw [Dv.out, Sv.out]; omega)).mono ?_
        rintro e w4 ⟨rfl, x⟩
        replace x := x.ext
        have st := x
        replace Sr := Sr.ext st
        replace Dr := Dr.ext st
        replace Fr := Fr.ext st
        replace hE := hE.trans st
        clear st x
        go_wp2_with fail
        refine (Cmp_eq _ _ _ Fz _ _ _ z1 _ rfl rfl Fr (hB.ext hE) (by rw [Fv.out, Sv.out]; omega)).mono ?_
        rintro e w5 ⟨rfl, x⟩
        replace x := x.ext
        have st := x
        replace Sr := Sr.ext st
        replace Dr := Dr.ext st
        replace Fr := Fr.ext st
        replace hE := hE.trans st
        clear st x
        go_wp2_with fail
        refine (Add_any _ _ _ z1 _ _ _ z0 _ rfl rfl (hB.ext hE) (hA.ext hE) (by omega) (by omega)).mono ?_
        rintro e w6 ⟨Ga, Gc, Gz, rfl, Go, Gk, Gv, x⟩
        replace Gv := Lib.hid Gv
        have Gr := Go.rd
        have st := x
        replace Sr := Sr.ext st
        replace hE := hE.trans st
        clear st x
        go_wp2_with fail
        refine (Cmp_eq _ _ _ Sz _ _ _ Gz _ rfl rfl Sr Gr (by rw [Gv.out, Sv.out]; omega)).mono ?_
        rintro e w7 ⟨rfl, x⟩
        replace x := x.ext
        have st := x
        replace Sr := Sr.ext st
        replace Gr := Gr.ext st
        replace hE := hE.trans st
        clear st x
        go_wp2_with fail
        refine (Add_any _ _ _ z0 _ _ _ z1 _ rfl rfl (hA.ext hE) (hB.ext hE) (by omega) (by omega)).mono ?_
        rintro e w8 ⟨Ha, Hc, Hz, rfl, Ho, Hk, Hv, x⟩
        replace Hv := Lib.hid Hv
        have Hr := Ho.rd
        have st := x
        replace Sr := Sr.ext st
        replace hE := hE.trans st
        clear st x
        have lH : Hz.length ≤ 301 := canon_len Hk (by rw [Hv.out]; exact add_lt_pw hA.lb hB.lb (by omega) (by omega))
        go_wp2_with fail
        refine (Add_any _ _ _ Hz _ _ _ z2 _ rfl rfl Hr (hC.ext hE) (by omega) (by omega)).mono ?_
        rintro e w9 ⟨Xa, Xc, Xz, rfl, Xo, Xk, Xv, x⟩
        replace Xv := Lib.hid Xv
        have Xr := Xo.rd
        have st := x
        replace Sr := Sr.ext st
        replace Hr := Hr.ext st
        replace hE := hE.trans st
        clear st x
        go_wp2_with fail
        refine (Add_any _ _ _ z1 _ _ _ z2 _ rfl rfl (hB.ext hE) (hC.ext hE) (by omega) (by omega)).mono ?_
        rintro e w10 ⟨Ia, Ic, Iz, rfl, Io, Ik, Iv, x⟩
        replace Iv := Lib.hid Iv
        have Ir := Io.rd
        have st := x
        replace Sr := Sr.ext st
        replace Xr := Xr.ext st
        replace hE := hE.trans st
        clear st x
        have lI : Iz.length ≤ 301 := canon_len Ik (by rw [Iv.out]; exact add_lt_pw hB.lb hC.lb (by omega) (by omega))
        go_wp2_with fail
        refine (Add_any _ _ _ z0 _ _ _ Iz _ rfl rfl (hA.ext hE) Ir (by omega) (by omega)).mono ?_
        rintro e w11 ⟨Ya, Yc, Yz, rfl, Yo, Yk, Yv, x⟩
        replace Yv := Lib.hid Yv
        have Yr := Yo.rd
        have st := x
        replace Sr := Sr.ext st
        replace Xr := Xr.ext st
        replace Ir := Ir.ext st
        replace hE := hE.trans st
        clear st x
        have eXY : Hid (val Xz = val Yz) := by unfold Hid; rw [Xv.out, Yv.out, Hv.out, Iv.out]; omega
        have bS := Sr.blt
        have bX := Xr.blt
        have bY := Yr.blt
        have bW := hE.size
        go_wp2_with fail
        refine (Trim_got _ _ _ z0 _ rfl (hA.ext hE) (by omega)).mono ?_
        rintro e w12 ⟨Ta, Tc, Tz, rfl, To, Tk, Tv, x⟩
        replace Tv := Lib.hid Tv
        have hTb : 0 < Tz.length → _ ≤ bk Ta := fun hp => (To.blk hp).1
        have lT : Tz.length ≤ 300 := canon_len Tk (by rw [Tv.out]; exact val_lt_pw hA.lb (by omega))
        have To := To.mono hE.size
        have st := x
        replace Sr := Sr.ext st
        replace Xr := Xr.ext st
        replace Yr := Yr.ext st
        replace hE := hE.trans st
        clear st x
        go_wp2_with fail
        go_loopw [99] (fun i wr => ∃ (k : Nat) (zs : List Nat), k ≤ Tz.length ∧ i = .int .i64 k ∧ Hid (zs.length = Tz.length) ∧ Own wr w.heap.size Ta Tc zs ∧ Rd wr Sa Sc Sz ∧ Rd wr Xa Xc Xz ∧ Rd wr Ya Yc Yz ∧ Ext w wr) (fun i _ => (Tz.length - intOf i).toNat)
        case atStart => exact ⟨0, Tz, Nat.zero_le _, rfl, rfl, To, Sr, Xr, Yr, hE⟩
        case round =>
          obtain ⟨k, zs, hk, rfl, hzl, hzo, Sr, Xr, Yr, hEr⟩ := hrel
          by_cases hkA : k < Tz.length
          · have hkz : k < zs.length := by have := hzl.out; omega
            have hx := hzo.rd.cell k hkz
            have hf := hzo.frozen (by omega) k
            have hix := ixk hzo.rd Tz.length hzl.out.symm k hkA wr
            have bx := lim_lt hzo.lb k
            have hkm := hTb (by omega)
            go_wp2_with fail
            have hst := hzo.store k hkz ((↑(lim zs k) + 1) % 4294967296) ((lim zs k + 1) % 4294967296) (by omega) (by omega)
            go_roundw
            case rel => exact ⟨k + 1, zs.set k ((lim zs k + 1) % 4294967296), by omega, by go_num, by unfold Hid; rw [List.length_set]; exact hzl.out, hst.1, Sr.kept hst.2 (fun hp => by have := bS hp; omega), Xr.kept hst.2 (fun hp => by have := bX hp; omega), Yr.kept hst.2 (fun hp => by have := bY hp; omega), hEr.store (show w.heap.size ≤ bk Ta by omega) _⟩
            case measure => simp [intOf]; omega
          · have hE := hEr
            clear hzo hzl hEr
            go_wp2_with fail
            refine (Cmp_eq _ _ _ Xz _ _ _ Yz _ rfl rfl Xr Yr eXY.out).mono ?_
            rintro e w13 ⟨rfl, x⟩
            replace x := x.ext
            have st := x
            replace Sr := Sr.ext st
            replace Xr := Xr.ext st
            replace Yr := Yr.ext st
            replace hE := hE.trans st
            clear st x
            go_wp2_with fail
            refine (Cmp_any _ _ _ Sz _ _ _ z0 _ rfl rfl Sr (hA.ext hE)).mono ?_
            rintro e w14 ⟨rfl, x⟩
            replace x := x.ext
            have st := x
            replace Sr := Sr.ext st
            replace hE := hE.trans st
            clear st x
            have hge : 0 ≤ cmpI (val Sz) (val z0) := by unfold cmpI; rw [Sv.out]; split; omega; split <;> omega
            go_wp2_with fail
            refine (Cmp_any _ _ _ z0 _ _ _ z1 _ rfl rfl (hA.ext hE) (hB.ext hE)).mono ?_
            rintro e w15 ⟨rfl, x⟩
            replace x := x.ext
            have st := x
            replace hE := hE.trans st
            clear st x
            go_wp2_with fail
            refine (Cmp_any _ _ _ z1 _ _ _ z0 _ rfl rfl (hB.ext hE) (hA.ext hE)).mono ?_
            rintro e w16 ⟨rfl, x⟩
            replace x := x.ext
            have st := x
            replace hE := hE.trans st
            clear st x
            have hsym : (cmpI (val z0) (val z1) == -cmpI (val z1) (val z0)) = true := by rw [cmpI_neg]; simp
            obtain ⟨r1, r2⟩ := cmpI_range (val z1) (val z0)
            go_wp2_with fail
            refine (Trim_got _ _ _ z0 _ rfl (hA.ext hE) (by omega)).mono ?_
            rintro e w17 ⟨Ka, Kc, Kz, rfl, Ko, Kk, Kv, x⟩
            replace Kv := Lib.hid Kv
            have Kr := Ko.rd
            have st := x
            replace hE := hE.trans st
            clear st x
            go_wp2_with fail
            refine (Cmp_eq _ _ _ Kz _ _ _ z0 _ rfl rfl Kr (hA.ext hE) Kv.out).mono ?_
            rintro e w18 ⟨rfl, x⟩
            replace x := x.ext
            have st := x
            replace Kr := Kr.ext st
            replace hE := hE.trans st
            clear st x
            go_wp2_with fail
            go_ret
            exact ⟨rfl, hE⟩
  · by_cases hs1 : (z0.length : Int) ≤ 300 ∧ (z1.length : Int) ≤ 300
    · have hd : decide ((z0.length : Int) ≤ 300 ∧ (z1.length : Int) ≤ 300) = true := decide_eq_true hs1
      have hd := Lib.hid hd
      have h2 : 300 < z2.length := by omega
      clear hs hs1
      go_enter Try.func4, Try.ntmps4
      go_wp2_with fail
      refine (adding_any _).mono ?_
      rintro e w1 ⟨rfl, hE⟩
      go_wp2_with fail
      refine (short_any _ _ _ _ _ _ _ _).mono ?_
      rintro e w' ⟨rfl, rfl⟩
      rw [hd.out]
      go_wp2_with fail
      go_ret
      exact ⟨rfl, hE⟩
    · have hd : decide ((z0.length : Int) ≤ 300 ∧ (z1.length : Int) ≤ 300) = false := decide_eq_false hs1
      have hd := Lib.hid hd
      clear hs hs1
      go_enter Try.func4, Try.ntmps4
      go_wp2_with fail
      refine (adding_any _).mono ?_
      rintro e w1 ⟨rfl, hE⟩
      go_wp2_with fail
      refine (short_any _ _ _ _ _ _ _ _).mono ?_
      rintro e w' ⟨rfl, rfl⟩
      rw [hd.out]
      go_wp2_with fail
      go_ret
      exact ⟨rfl, hE⟩
end Go.Proofs.Ytejgefhmagamiaa
