/-
  Contract of nat.Div.
-/
import Derived.Test.YtehbfobfkpejoaaDivC
namespace Go.Proofs.Ytehbfobfkpejoaa
open Go.RowKit

/-- two lists and an errno -/
def GotD (w : World) (p r : Nat) (er : Int) (e : Ending) (w' : World) : Prop :=
  ∃ ao c xs bo d ys, e = .returned (.tuple #[.slice ao xs.length c, .slice bo ys.length d, .int .i64 er]) ∧ Own w' w.heap.size ao c xs ∧ Canon xs ∧ val xs = p ∧ Own w' w.heap.size bo d ys ∧ Canon ys ∧ val ys = r ∧ Ext w w'
theorem GotD.from {w0 w : World} {p r : Nat} {er : Int} {e : Ending} {w' : World} (h : GotD w p r er e w') (k : Ext w0 w) : GotD w0 p r er e w' := by
  obtain ⟨ao, c, xs, bo, d, ys, h1, h2, h3, h4, h5, h6, h7, h8⟩ := h
  exact ⟨ao, c, xs, bo, d, ys, h1, h2.mono k.size, h3, h4, h5.mono k.size, h6, h7, k.trans h8⟩

set_option maxRecDepth 100000 in
set_option maxHeartbeats 2000000 in
theorem Div_any (ao : Option Addr) (n c : Nat) (xs : List Nat) (bo : Option Addr) (m d : Nat) (ys : List Nat) (w : World) (hn : n = xs.length) (hm : m = ys.length)
    (ha : Rd w ao c xs) (hb : Rd w bo d ys) (hl : xs.length ≤ 900000) :
    Calls Try.prog 80 #[.slice ao n c, .slice bo m d] w (if val ys = 0 then GotD w 0 0 10 else GotD w (val xs / val ys) (val xs % val ys) 0) := by
  subst hn hm
  have hA := ha.trm
  have hB := hb.trm
  have kA := canon_trm ha.lb
  have kB := canon_trm hb.lb
  have lA := trm_le xs
  have cA := hA.cap
  have cB := hB.cap
  have mA := hA.mx
  have mB := hB.mx
  rw [← val_trm xs, ← val_trm ys]
  by_cases h0 : (trm ys).length = 0
  · have e0 : trm ys = [] := List.length_eq_zero_iff.1 h0
    have hv : val (trm ys) = 0 := by rw [e0]; rfl
    rw [if_pos hv]
    clear hv
    go_enter Try.func80, Try.ntmps80
    go_wp2_with fail
    refine (trim_any ao _ c xs w rfl ha).mono ?_
    rintro e w' ⟨rfl, rfl⟩
    go_wp2_with fail
    refine (trim_any bo _ d ys w rfl hb).mono ?_
    rintro e w' ⟨rfl, rfl⟩
    rw [e0]
    clear e0 h0
    go_wp2_with fail
    go_ret3
    exact ⟨none, 0, [], none, 0, [], rfl, Own.nil _ _, canon_nil, rfl, Own.nil _ _, canon_nil, rfl, Ext.refl _⟩
  · have hv : val (trm ys) ≠ 0 := fun e => h0 (by rw [canon_zero kB e]; rfl)
    rw [if_neg hv]
    have hb0 : ((((trm ys).length : Nat) : Int) == 0) = false := beq_eq_false_iff_ne.2 (by omega)
    by_cases hlt : val (trm xs) < val (trm ys)
    · have hc := cmpI_lt hlt
      have r1 : val (trm xs) / val (trm ys) = 0 := Nat.div_eq_of_lt hlt
      have r2 : val (trm xs) % val (trm ys) = val (trm xs) := Nat.mod_eq_of_lt hlt
      rw [r1, r2]
      clear r1 r2 hlt
      go_enter Try.func80, Try.ntmps80
      go_wp2_with fail
      refine (trim_any ao _ c xs w rfl ha).mono ?_
      rintro e w' ⟨rfl, rfl⟩
      go_wp2_with fail
      refine (trim_any bo _ d ys w rfl hb).mono ?_
      rintro e w' ⟨rfl, rfl⟩
      go_wp2_with fail
      refine (Cmp_any _ _ _ (trm xs) _ _ _ (trm ys) _ rfl rfl hA hB).mono ?_
      rintro e w1 ⟨rfl, q1⟩
      rw [hc]
      clear hc
      go_wp2_with fail
      refine (Trim_got _ _ _ (trm xs) _ rfl (hA.ext q1.ext) (by omega)).mono ?_
      intro e w2 hg
      obtain ⟨ro, rc, rz, rfl, p1, p2, p3, p4⟩ := hg.from q1.ext
      go_wp2_with fail
      go_ret3
      exact ⟨none, 0, [], ro, rc, rz, rfl, Own.nil _ _, canon_nil, rfl, p1, p2, p3, p4⟩
    · have hc : decide (cmpI (val (trm xs)) (val (trm ys)) < 0) = false := by
        unfold cmpI
        rw [if_neg hlt]
        split <;> decide
      by_cases h1 : (trm ys).length = 1
      · have hb1 : ((((trm ys).length : Nat) : Int) == 1) = true := by simp; omega
        have hx0 := ixe hB (trm ys).length rfl 0 0 rfl (by omega)
        simp only [Nat.add_zero] at hx0
        have k0 := fun wr (q : Qt w wr) => (hB.ext q.ext).cell 0 (by omega)
        have b0 := lim_lt kB.1 0
        have ey : val (trm ys) = lim (trm ys) 0 := by
          rw [← vk_full (zs := trm ys) (k := 1) (by omega), vk_succ, vk_zero, pw_zero]; omega
        have Ey := Lib.hid ey
        have b1 : lim (trm ys) 0 ≠ 0 := by rw [← ey]; exact hv
        clear ey hv hlt h1 h0
        go_enter Try.func80, Try.ntmps80
        go_wp2_with fail
        refine (trim_any ao _ c xs w rfl ha).mono ?_
        rintro e w' ⟨rfl, rfl⟩
        go_wp2_with fail
        refine (trim_any bo _ d ys w rfl hb).mono ?_
        rintro e w' ⟨rfl, rfl⟩
        go_wp2_with fail
        refine (Cmp_any _ _ _ (trm xs) _ _ _ (trm ys) _ rfl rfl hA hB).mono ?_
        rintro e w1 ⟨rfl, q1⟩
        have k1 := k0 w1 q1
        simp only [Nat.add_zero] at k1
        go_wp2_with fail
        refine (byLimb_any _ _ _ (trm xs) _ (lim (trm ys) 0) _ rfl rfl (hA.ext q1.ext) (by omega) (by omega) b0).mono ?_
        rintro e w2 ⟨qo, qc, qz, rfl, p1, p2, p3, p4⟩
        have P3 := Lib.hid p3
        clear p3
        obtain ⟨M, hM⟩ : ∃ M, M = val (trm xs) % lim (trm ys) 0 := ⟨_, rfl⟩
        have bM : M < 4294967296 := by rw [hM]; exact Nat.lt_trans (Nat.mod_lt _ (by omega)) b0
        rw [← hM]
        have HM := Lib.hid hM
        clear hM
        go_wp2_with fail
        refine (Of_any (M : Int) (by omega) (by omega) _).mono ?_
        intro e w3 hg
        obtain ⟨ro, rc, rz, rfl, t1, t2, t3, t4⟩ := hg
        go_wp2_with fail
        go_ret3
        have e2 := q1.ext.trans p4
        exact ⟨qo, qc, qz, ro, rc, rz, rfl, (p1.ext t4).mono q1.ext.size, p2, by rw [P3.out, Ey.out], t1.mono e2.size, t2, by rw [t3, Int.toNat_natCast, HM.out, Ey.out], e2.trans t4⟩
      · have hb1 : ((((trm ys).length : Nat) : Int) == 1) = false := beq_eq_false_iff_ne.2 (by omega)
        obtain ⟨i1, hi1⟩ : ∃ i1, i1 + 1 = (trm ys).length := ⟨(trm ys).length - 1, by omega⟩
        have hlen : (trm ys).length ≤ (trm xs).length := by
          rcases Nat.lt_or_ge (trm xs).length (trm ys).length with h | h
          · exact absurd (canon_len_lt kA.1 kB h) hlt
          · exact h
        have hlast : lim (trm ys) i1 ≠ 0 := by
          have := kB.2 (by omega)
          rwa [show (trm ys).length - 1 = i1 by omega] at this
        have Hi1 := Lib.hid hi1
        have hge : 2 ≤ (trm ys).length := by omega
        clear hi1 hv hlt h1 h0
        go_enter Try.func80, Try.ntmps80
        go_wp2_with fail
        refine (trim_any ao _ c xs w rfl ha).mono ?_
        rintro e w' ⟨rfl, rfl⟩
        go_wp2_with fail
        refine (trim_any bo _ d ys w rfl hb).mono ?_
        rintro e w' ⟨rfl, rfl⟩
        go_wp2_with fail
        refine (Cmp_any _ _ _ (trm xs) _ _ _ (trm ys) _ rfl rfl hA hB).mono ?_
        rintro e w1 ⟨rfl, q1⟩
        go_wp2_with fail
        refine (long_any _ _ _ (trm xs) _ _ _ (trm ys) i1 _ rfl rfl Hi1.out hge hlen (hA.ext q1.ext) (hB.ext q1.ext) hlast (by omega)).mono ?_
        rintro e w2 ⟨qo, qc, qz, ro, rc, rz, rfl, p1, p2, p3, p4, p5, p6, p7⟩
        go_wp2_with fail
        go_ret3
        exact ⟨qo, qc, qz, ro, rc, rz, rfl, p1.mono q1.ext.size, p2, p3, p4.mono q1.ext.size, p5, p6, q1.ext.trans p7⟩
end Go.Proofs.Ytehbfobfkpejoaa
