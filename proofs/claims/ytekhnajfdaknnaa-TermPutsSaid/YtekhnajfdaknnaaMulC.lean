/-
  Contracts of nat.three and nat.Mul.
-/
import Derived.Test.YtekhnajfdaknnaaMulB
namespace Go.Proofs.Ytekhnajfdaknnaa
open Go.RowKit

def MulIh (N : Nat) : Prop := ∀ (xs ys : List Nat), xs.length + ys.length < N → ∀ (ao : Option Addr) (n c : Nat) (bo : Option Addr) (m d : Nat) (w : World), n = xs.length → m = ys.length → Rd w ao c xs → Rd w bo d ys → xs.length ≤ 1000000 → ys.length ≤ 1000000 →
      Calls Try.prog 64 #[.slice ao n c, .slice bo m d] w (GotN w (val xs * val ys))

set_option maxRecDepth 100000 in
set_option maxHeartbeats 4000000 in
theorem three_any (N : Nat) (ih : MulIh N)
    (ao : Option Addr) (n c : Nat) (xs : List Nat) (bo : Option Addr) (m d : Nat) (ys : List Nat) (w : World) (hn : n = xs.length) (hm : m = ys.length) (ha : Rd w ao c xs) (hb : Rd w bo d ys)
    (hl1 : xs.length ≤ 1000000) (hl2 : ys.length ≤ 1000000) (hN : xs.length + ys.length ≤ N) (h24 : 24 ≤ xs.length) (h25 : 24 ≤ ys.length) :
    Calls Try.prog 78 #[.slice ao n c, .slice bo m d] w (GotN w (val xs * val ys)) := by
  subst hn hm
  have mA := ha.mx
  have mB := hb.mx
  have cA := ha.cap
  have cB := hb.cap
  rcases Nat.lt_or_ge xs.length ys.length with hle | hle
  · obtain ⟨K, hK⟩ : ∃ K, K = (ys.length + 1) / 2 := ⟨_, rfl⟩
    have hK1 : ((ys.length : Int) + 1) / 2 = (K : Int) := by omega
    have hKb : K ≤ 600000 := by omega
    have HK := Lib.hid hK
    have hKx : xs.length ≤ K + K := by omega
    have hKy : ys.length ≤ K + K := by omega
    have hKN : K + K + 2 < N := by omega
    clear hK
    have sx := Lib.hid (split_min xs K)
    have sy := Lib.hid (split_min ys K)
    obtain ⟨A, hA⟩ : ∃ A, A = xs.take (min K xs.length) := ⟨_, rfl⟩
    obtain ⟨C, hC⟩ : ∃ C, C = xs.drop (min K xs.length) := ⟨_, rfl⟩
    obtain ⟨D, hD⟩ : ∃ D, D = ys.take (min K ys.length) := ⟨_, rfl⟩
    obtain ⟨F, hF⟩ : ∃ F, F = ys.drop (min K ys.length) := ⟨_, rfl⟩
    have lA : A.length ≤ K := by rw [hA, List.length_take]; omega
    have lC : C.length ≤ K := by rw [hC, List.length_drop]; omega
    have lD : D.length ≤ K := by rw [hD, List.length_take]; omega
    have lF : F.length ≤ K := by rw [hF, List.length_drop]; omega
    have pA := pieces_any ao _ c xs (K : Int) K w rfl rfl ha (by omega) (by omega)
    have pB := fun w1 (h : Ext w w1) => pieces_any bo _ d ys (K : Int) K w1 rfl rfl (hb.ext h) (by omega) (by omega)
    unfold GotPieces at pA pB
    rw [← hA, ← hC] at pA sx
    rw [← hD, ← hF] at sy
    simp only [← hD, ← hF] at pB
    clear hA hC hD hF
    have Ih := Lib.hid ih
    have hPA := Lib.hid pA
    have hPB := Lib.hid pB
    clear ih pA pB
    go_enter Try.func78, Try.ntmps78
    go_wp2_with fail
    refine (hPA.out).mono ?_
    rintro e w1 ⟨Aa, Ac, Ca, Cc, rfl, Ar, Cr, x⟩
    replace x := x.ext
    have st := x
    have hE := st
    clear st x
    go_wp2_with fail
    refine (hPB.out _ hE).mono ?_
    rintro e w2 ⟨Da, Dc, Fa, Fc, rfl, Dr, Fr, x⟩
    replace x := x.ext
    have st := x
    replace Ar := Ar.ext st
    replace Cr := Cr.ext st
    replace hE := hE.trans st
    clear st x
    have vA := val_lt_pw Ar.lb lA
    have vC := val_lt_pw Cr.lb lC
    have vD := val_lt_pw Dr.lb lD
    have vF := val_lt_pw Fr.lb lF
    have HA := Lib.hid vA
    have HC := Lib.hid vC
    have HD := Lib.hid vD
    have HF := Lib.hid vF
    clear vA vC vD vF
    go_wp2_with fail
    refine (Ih.out A D (by omega) _ _ _ _ _ _ _ rfl rfl Ar Dr (by omega) (by omega)).mono ?_
    rintro e w3 ⟨La, Lc, Lz, rfl, Lo, Lk, Lv, x⟩
    replace Lv := Lib.hid Lv
    have Lr := Lo.rd
    have st := x
    replace Ar := Ar.ext st
    replace Cr := Cr.ext st
    replace Dr := Dr.ext st
    replace Fr := Fr.ext st
    replace hE := hE.trans st
    clear st x
    have lL : Lz.length ≤ K + K := canon_len Lk (by rw [Lv.out]; exact mul_lt_pw HA.out HD.out)
    go_wp2_with fail
    refine (Ih.out C F (by omega) _ _ _ _ _ _ _ rfl rfl Cr Fr (by omega) (by omega)).mono ?_
    rintro e w4 ⟨Ha, Hc, Hz, rfl, Ho, Hk, Hv, x⟩
    replace Hv := Lib.hid Hv
    have Hr := Ho.rd
    have st := x
    replace Ar := Ar.ext st
    replace Cr := Cr.ext st
    replace Dr := Dr.ext st
    replace Fr := Fr.ext st
    replace Lr := Lr.ext st
    replace hE := hE.trans st
    clear st x
    have lH : Hz.length ≤ K + K := canon_len Hk (by rw [Hv.out]; exact mul_lt_pw HC.out HF.out)
    go_wp2_with fail
    refine (Add_any _ _ _ A _ _ _ C _ rfl rfl Ar Cr (by omega) (by omega)).mono ?_
    rintro e w5 ⟨Sa, Sc, Sz, rfl, So, Sk, Sv, x⟩
    replace Sv := Lib.hid Sv
    have Sr := So.rd
    have st := x
    replace Ar := Ar.ext st
    replace Cr := Cr.ext st
    replace Dr := Dr.ext st
    replace Fr := Fr.ext st
    replace Lr := Lr.ext st
    replace Hr := Hr.ext st
    replace hE := hE.trans st
    clear st x
    have lS : Sz.length ≤ K + 1 := canon_len Sk (by rw [Sv.out, pw_succ]; have := HA.out; have := HC.out; omega)
    go_wp2_with fail
    refine (Add_any _ _ _ D _ _ _ F _ rfl rfl Dr Fr (by omega) (by omega)).mono ?_
    rintro e w6 ⟨Ta, Tc, Tz, rfl, To, Tk, Tv, x⟩
    replace Tv := Lib.hid Tv
    have Tr := To.rd
    have st := x
    replace Dr := Dr.ext st
    replace Fr := Fr.ext st
    replace Lr := Lr.ext st
    replace Hr := Hr.ext st
    replace Sr := Sr.ext st
    replace hE := hE.trans st
    clear st x
    have lT : Tz.length ≤ K + 1 := canon_len Tk (by rw [Tv.out, pw_succ]; have := HD.out; have := HF.out; omega)
    go_wp2_with fail
    refine (Ih.out Sz Tz (by omega) _ _ _ _ _ _ _ rfl rfl Sr Tr (by omega) (by omega)).mono ?_
    rintro e w7 ⟨Ba, Bc, Bz, rfl, Bo, Bk, Bv, x⟩
    replace Bv := Lib.hid Bv
    have Br := Bo.rd
    have st := x
    replace Lr := Lr.ext st
    replace Hr := Hr.ext st
    replace Sr := Sr.ext st
    replace Tr := Tr.ext st
    replace hE := hE.trans st
    clear st x
    have lB : Bz.length ≤ K + 1 + (K + 1) := canon_len Bk (by rw [Bv.out]; exact mul_lt_pw (by rw [Sv.out, pw_succ]; have := HA.out; have := HC.out; omega) (by rw [Tv.out, pw_succ]; have := HD.out; have := HF.out; omega))
    go_wp2_with fail
    refine (Sub_any _ _ _ Bz _ _ _ Lz _ rfl rfl Br Lr (by omega) (by omega)).mono ?_
    rintro e w8 ⟨Pa, Pc, Pz, rfl, Po, Pk, Pv, x⟩
    replace Pv := Lib.hid Pv
    have Pr := Po.rd
    have st := x
    replace Lr := Lr.ext st
    replace Hr := Hr.ext st
    replace Br := Br.ext st
    replace hE := hE.trans st
    clear st x
    have lP : Pz.length ≤ K + 1 + (K + 1) := canon_len Pk (by rw [Pv.out]; exact Nat.lt_of_le_of_lt (Nat.sub_le _ _) (val_lt_pw Br.lb lB))
    go_wp2_with fail
    refine (Sub_any _ _ _ Pz _ _ _ Hz _ rfl rfl Pr Hr (by omega) (by omega)).mono ?_
    rintro e w9 ⟨Qa, Qc, Qz, rfl, Qo, Qk, Qv, x⟩
    replace Qv := Lib.hid Qv
    have Qr := Qo.rd
    have st := x
    replace Lr := Lr.ext st
    replace Hr := Hr.ext st
    replace Pr := Pr.ext st
    replace hE := hE.trans st
    clear st x
    have lQ : Qz.length ≤ K + 1 + (K + 1) := canon_len Qk (by rw [Qv.out]; exact Nat.lt_of_le_of_lt (Nat.sub_le _ _) (val_lt_pw Pr.lb lP))
    go_wp2_with fail
    refine (up_any _ _ _ Qz _ K _ rfl (by omega) Qr (by omega) (by omega)).mono ?_
    rintro e w10 ⟨Ua, Uc, Uz, rfl, Ur, Uv, lU, x⟩
    replace Uv := Lib.hid Uv
    have st := x
    replace Lr := Lr.ext st
    replace Hr := Hr.ext st
    replace Qr := Qr.ext st
    replace hE := hE.trans st
    clear st x
    go_wp2_with fail
    refine (Add_any _ _ _ Lz _ _ _ Uz _ rfl rfl Lr Ur (by omega) (by omega)).mono ?_
    rintro e w11 ⟨Wa, Wc, Wz, rfl, Wo, Wk, Wv, x⟩
    replace Wv := Lib.hid Wv
    have Wr := Wo.rd
    have st := x
    replace Lr := Lr.ext st
    replace Hr := Hr.ext st
    replace Ur := Ur.ext st
    replace hE := hE.trans st
    clear st x
    have lW : Wz.length ≤ K + K + K + 2 + 1 := canon_len Wk (by rw [Wv.out]; exact add_lt_pw Lr.lb Ur.lb (by omega) (by omega))
    go_wp2_with fail
    refine (up_any _ _ _ Hz _ (2 * K) _ rfl (by omega) Hr (by omega) (by omega)).mono ?_
    rintro e w12 ⟨Xa, Xc, Xz, rfl, Xr, Xv, lX, x⟩
    replace Xv := Lib.hid Xv
    have st := x
    replace Hr := Hr.ext st
    replace Wr := Wr.ext st
    replace hE := hE.trans st
    clear st x
    have hS := hE.size
    go_wp2_with fail
    refine (Add_any _ _ _ Wz _ _ _ Xz _ rfl rfl Wr Xr (by omega) (by omega)).mono ?_
    rintro e w13 ⟨Ya, Yc, Yz, rfl, Yo, Yk, Yv, x⟩
    replace Yv := Lib.hid Yv
    have Yr := Yo.rd
    have st := x
    replace Wr := Wr.ext st
    replace Xr := Xr.ext st
    replace hE := hE.trans st
    clear st x
    go_wp2_with fail
    go_ret
    refine ⟨Ya, Yc, Yz, rfl, Yo.mono hS, Yk, ?_, hE⟩
    have hl := three_law (val C) (val A) (val F) (val D) (pw K)
    have h2K : pw (2 * K) = pw K * pw K := by rw [Nat.two_mul, pw_add]
    rw [Yv.out, Wv.out, Xv.out, Uv.out, Qv.out, Pv.out, Bv.out, Sv.out, Tv.out, Hv.out, Lv.out, h2K, sx.out, sy.out]
    exact hl
  · obtain ⟨K, hK⟩ : ∃ K, K = (xs.length + 1) / 2 := ⟨_, rfl⟩
    have hK1 : ((xs.length : Int) + 1) / 2 = (K : Int) := by omega
    have hKb : K ≤ 600000 := by omega
    have HK := Lib.hid hK
    have hKx : xs.length ≤ K + K := by omega
    have hKy : ys.length ≤ K + K := by omega
    have hKN : K + K + 2 < N := by omega
    clear hK
    have sx := Lib.hid (split_min xs K)
    have sy := Lib.hid (split_min ys K)
    obtain ⟨A, hA⟩ : ∃ A, A = xs.take (min K xs.length) := ⟨_, rfl⟩
    obtain ⟨C, hC⟩ : ∃ C, C = xs.drop (min K xs.length) := ⟨_, rfl⟩
    obtain ⟨D, hD⟩ : ∃ D, D = ys.take (min K ys.length) := ⟨_, rfl⟩
    obtain ⟨F, hF⟩ : ∃ F, F = ys.drop (min K ys.length) := ⟨_, rfl⟩
    have lA : A.length ≤ K := by rw [hA, List.length_take]; omega
    have lC : C.length ≤ K := by rw [hC, List.length_drop]; omega
    have lD : D.length ≤ K := by rw [hD, List.length_take]; omega
    have lF : F.length ≤ K := by rw [hF, List.length_drop]; omega
    have pA := pieces_any ao _ c xs (K : Int) K w rfl rfl ha (by omega) (by omega)
    have pB := fun w1 (h : Ext w w1) => pieces_any bo _ d ys (K : Int) K w1 rfl rfl (hb.ext h) (by omega) (by omega)
    unfold GotPieces at pA pB
    rw [← hA, ← hC] at pA sx
    rw [← hD, ← hF] at sy
    simp only [← hD, ← hF] at pB
    clear hA hC hD hF
    have Ih := Lib.hid ih
    have hPA := Lib.hid pA
    have hPB := Lib.hid pB
    clear ih pA pB
    go_enter Try.func78, Try.ntmps78
    go_wp2_with fail
    refine (hPA.out).mono ?_
    rintro e w1 ⟨Aa, Ac, Ca, Cc, rfl, Ar, Cr, x⟩
    replace x := x.ext
    have st := x
    have hE := st
    clear st x
    go_wp2_with fail
    refine (hPB.out _ hE).mono ?_
    rintro e w2 ⟨Da, Dc, Fa, Fc, rfl, Dr, Fr, x⟩
    replace x := x.ext
    have st := x
    replace Ar := Ar.ext st
    replace Cr := Cr.ext st
    replace hE := hE.trans st
    clear st x
    have vA := val_lt_pw Ar.lb lA
    have vC := val_lt_pw Cr.lb lC
    have vD := val_lt_pw Dr.lb lD
    have vF := val_lt_pw Fr.lb lF
    have HA := Lib.hid vA
    have HC := Lib.hid vC
    have HD := Lib.hid vD
    have HF := Lib.hid vF
    clear vA vC vD vF
    go_wp2_with fail
    refine (Ih.out A D (by omega) _ _ _ _ _ _ _ rfl rfl Ar Dr (by omega) (by omega)).mono ?_
    rintro e w3 ⟨La, Lc, Lz, rfl, Lo, Lk, Lv, x⟩
    replace Lv := Lib.hid Lv
    have Lr := Lo.rd
    have st := x
    replace Ar := Ar.ext st
    replace Cr := Cr.ext st
    replace Dr := Dr.ext st
    replace Fr := Fr.ext st
    replace hE := hE.trans st
    clear st x
    have lL : Lz.length ≤ K + K := canon_len Lk (by rw [Lv.out]; exact mul_lt_pw HA.out HD.out)
    go_wp2_with fail
    refine (Ih.out C F (by omega) _ _ _ _ _ _ _ rfl rfl Cr Fr (by omega) (by omega)).mono ?_
    rintro e w4 ⟨Ha, Hc, Hz, rfl, Ho, Hk, Hv, x⟩
    replace Hv := Lib.hid Hv
    have Hr := Ho.rd
    have st := x
    replace Ar := Ar.ext st
    replace Cr := Cr.ext st
    replace Dr := Dr.ext st
    replace Fr := Fr.ext st
    replace Lr := Lr.ext st
    replace hE := hE.trans st
    clear st x
    have lH : Hz.length ≤ K + K := canon_len Hk (by rw [Hv.out]; exact mul_lt_pw HC.out HF.out)
    go_wp2_with fail
    refine (Add_any _ _ _ A _ _ _ C _ rfl rfl Ar Cr (by omega) (by omega)).mono ?_
    rintro e w5 ⟨Sa, Sc, Sz, rfl, So, Sk, Sv, x⟩
    replace Sv := Lib.hid Sv
    have Sr := So.rd
    have st := x
    replace Ar := Ar.ext st
    replace Cr := Cr.ext st
    replace Dr := Dr.ext st
    replace Fr := Fr.ext st
    replace Lr := Lr.ext st
    replace Hr := Hr.ext st
    replace hE := hE.trans st
    clear st x
    have lS : Sz.length ≤ K + 1 := canon_len Sk (by rw [Sv.out, pw_succ]; have := HA.out; have := HC.out; omega)
    go_wp2_with fail
    refine (Add_any _ _ _ D _ _ _ F _ rfl rfl Dr Fr (by omega) (by omega)).mono ?_
    rintro e w6 ⟨Ta, Tc, Tz, rfl, To, Tk, Tv, x⟩
    replace Tv := Lib.hid Tv
    have Tr := To.rd
    have st := x
    replace Dr := Dr.ext st
    replace Fr := Fr.ext st
    replace Lr := Lr.ext st
    replace Hr := Hr.ext st
    replace Sr := Sr.ext st
    replace hE := hE.trans st
    clear st x
    have lT : Tz.length ≤ K + 1 := canon_len Tk (by rw [Tv.out, pw_succ]; have := HD.out; have := HF.out; omega)
    go_wp2_with fail
    refine (Ih.out Sz Tz (by omega) _ _ _ _ _ _ _ rfl rfl Sr Tr (by omega) (by omega)).mono ?_
    rintro e w7 ⟨Ba, Bc, Bz, rfl, Bo, Bk, Bv, x⟩
    replace Bv := Lib.hid Bv
    have Br := Bo.rd
    have st := x
    replace Lr := Lr.ext st
    replace Hr := Hr.ext st
    replace Sr := Sr.ext st
    replace Tr := Tr.ext st
    replace hE := hE.trans st
    clear st x
    have lB : Bz.length ≤ K + 1 + (K + 1) := canon_len Bk (by rw [Bv.out]; exact mul_lt_pw (by rw [Sv.out, pw_succ]; have := HA.out; have := HC.out; omega) (by rw [Tv.out, pw_succ]; have := HD.out; have := HF.out; omega))
    go_wp2_with fail
    refine (Sub_any _ _ _ Bz _ _ _ Lz _ rfl rfl Br Lr (by omega) (by omega)).mono ?_
    rintro e w8 ⟨Pa, Pc, Pz, rfl, Po, Pk, Pv, x⟩
    replace Pv := Lib.hid Pv
    have Pr := Po.rd
    have st := x
    replace Lr := Lr.ext st
    replace Hr := Hr.ext st
    replace Br := Br.ext st
    replace hE := hE.trans st
    clear st x
    have lP : Pz.length ≤ K + 1 + (K + 1) := canon_len Pk (by rw [Pv.out]; exact Nat.lt_of_le_of_lt (Nat.sub_le _ _) (val_lt_pw Br.lb lB))
    go_wp2_with fail
    refine (Sub_any _ _ _ Pz _ _ _ Hz _ rfl rfl Pr Hr (by omega) (by omega)).mono ?_
    rintro e w9 ⟨Qa, Qc, Qz, rfl, Qo, Qk, Qv, x⟩
    replace Qv := Lib.hid Qv
    have Qr := Qo.rd
    have st := x
    replace Lr := Lr.ext st
    replace Hr := Hr.ext st
    replace Pr := Pr.ext st
    replace hE := hE.trans st
    clear st x
    have lQ : Qz.length ≤ K + 1 + (K + 1) := canon_len Qk (by rw [Qv.out]; exact Nat.lt_of_le_of_lt (Nat.sub_le _ _) (val_lt_pw Pr.lb lP))
    go_wp2_with fail
    refine (up_any _ _ _ Qz _ K _ rfl (by omega) Qr (by omega) (by omega)).mono ?_
    rintro e w10 ⟨Ua, Uc, Uz, rfl, Ur, Uv, lU, x⟩
    replace Uv := Lib.hid Uv
    have st := x
    replace Lr := Lr.ext st
    replace Hr := Hr.ext st
    replace Qr := Qr.ext st
    replace hE := hE.trans st
    clear st x
    go_wp2_with fail
    refine (Add_any _ _ _ Lz _ _ _ Uz _ rfl rfl Lr Ur (by omega) (by omega)).mono ?_
    rintro e w11 ⟨Wa, Wc, Wz, rfl, Wo, Wk, Wv, x⟩
    replace Wv := Lib.hid Wv
    have Wr := Wo.rd
    have st := x
    replace Lr := Lr.ext st
    replace Hr := Hr.ext st
    replace Ur := Ur.ext st
    replace hE := hE.trans st
    clear st x
    have lW : Wz.length ≤ K + K + K + 2 + 1 := canon_len Wk (by rw [Wv.out]; exact add_lt_pw Lr.lb Ur.lb (by omega) (by omega))
    go_wp2_with fail
    refine (up_any _ _ _ Hz _ (2 * K) _ rfl (by omega) Hr (by omega) (by omega)).mono ?_
    rintro e w12 ⟨Xa, Xc, Xz, rfl, Xr, Xv, lX, x⟩
    replace Xv := Lib.hid Xv
    have st := x
    replace Hr := Hr.ext st
    replace Wr := Wr.ext st
    replace hE := hE.trans st
    clear st x
    have hS := hE.size
    go_wp2_with fail
    refine (Add_any _ _ _ Wz _ _ _ Xz _ rfl rfl Wr Xr (by omega) (by omega)).mono ?_
    rintro e w13 ⟨Ya, Yc, Yz, rfl, Yo, Yk, Yv, x⟩
    replace Yv := Lib.hid Yv
    have Yr := Yo.rd
    have st := x
    replace Wr := Wr.ext st
    replace Xr := Xr.ext st
    replace hE := hE.trans st
    clear st x
    go_wp2_with fail
    go_ret
    refine ⟨Ya, Yc, Yz, rfl, Yo.mono hS, Yk, ?_, hE⟩
    have hl := three_law (val C) (val A) (val F) (val D) (pw K)
    have h2K : pw (2 * K) = pw K * pw K := by rw [Nat.two_mul, pw_add]
    rw [Yv.out, Wv.out, Xv.out, Uv.out, Qv.out, Pv.out, Bv.out, Sv.out, Tv.out, Hv.out, Lv.out, h2K, sx.out, sy.out]
    exact hl

theorem mul_ih : ∀ N, MulIh N := by
  intro N
  induction N with
  | zero => intro xs ys h; omega
  | succ N ih =>
    intro xs ys hN ao n c bo m d w hn hm ha hb hl1 hl2
    subst hn hm
    have hA := ha.trm
    have hB := hb.trm
    have lA := trm_le xs
    have lB := trm_le ys
    rw [← val_trm xs, ← val_trm ys]
    by_cases h1 : (trm xs).length < 24
    · go_enter Try.func64, Try.ntmps64
      go_wp2_with fail
      refine (trim_any ao _ c xs w rfl ha).mono ?_
      rintro e w' ⟨rfl, rfl⟩
      go_wp2_with fail
      refine (trim_any bo _ d ys w rfl hb).mono ?_
      rintro e w' ⟨rfl, rfl⟩
      go_wp2_with fail
      refine (school_any _ _ _ (trm xs) _ _ _ (trm ys) _ rfl rfl hA hB (by omega) (by omega)).mono ?_
      rintro e w2 ⟨ao3, c3, zs3, rfl, h3⟩
      go_wp2_with fail
      go_ret
      exact ⟨ao3, c3, zs3, rfl, h3⟩
    by_cases h2 : (trm ys).length < 24
    · go_enter Try.func64, Try.ntmps64
      go_wp2_with fail
      refine (trim_any ao _ c xs w rfl ha).mono ?_
      rintro e w' ⟨rfl, rfl⟩
      go_wp2_with fail
      refine (trim_any bo _ d ys w rfl hb).mono ?_
      rintro e w' ⟨rfl, rfl⟩
      go_wp2_with fail
      refine (school_any _ _ _ (trm xs) _ _ _ (trm ys) _ rfl rfl hA hB (by omega) (by omega)).mono ?_
      rintro e w2 ⟨ao3, c3, zs3, rfl, h3⟩
      go_wp2_with fail
      go_ret
      exact ⟨ao3, c3, zs3, rfl, h3⟩
    · have Ih := Lib.hid ih
      clear ih
      go_enter Try.func64, Try.ntmps64
      go_wp2_with fail
      refine (trim_any ao _ c xs w rfl ha).mono ?_
      rintro e w' ⟨rfl, rfl⟩
      go_wp2_with fail
      refine (trim_any bo _ d ys w rfl hb).mono ?_
      rintro e w' ⟨rfl, rfl⟩
      go_wp2_with fail
      refine (three_any N Ih.out _ _ _ (trm xs) _ _ _ (trm ys) _ rfl rfl hA hB (by omega) (by omega) (by omega) (by omega) (by omega)).mono ?_
      rintro e w2 ⟨ao3, c3, zs3, rfl, h3⟩
      go_wp2_with fail
      go_ret
      exact ⟨ao3, c3, zs3, rfl, h3⟩
theorem Mul_any (ao : Option Addr) (n c : Nat) (xs : List Nat) (bo : Option Addr) (m d : Nat) (ys : List Nat) (w : World) (hn : n = xs.length) (hm : m = ys.length) (ha : Rd w ao c xs) (hb : Rd w bo d ys)
    (hl1 : xs.length ≤ 1000000) (hl2 : ys.length ≤ 1000000) :
    Calls Try.prog 64 #[.slice ao n c, .slice bo m d] w (GotN w (val xs * val ys)) :=
  mul_ih (xs.length + ys.length + 1) xs ys (by omega) ao n c bo m d w hn hm ha hb hl1 hl2
end Go.Proofs.Ytekhnajfdaknnaa
