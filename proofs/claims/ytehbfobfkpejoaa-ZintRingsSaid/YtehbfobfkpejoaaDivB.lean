/-
  Contract of nat.guessed.
-/
import Derived.Test.YtehbfobfkpejoaaDivA
import Derived.Test.YtehbfobfkpejoaaNatX
namespace Go.Proofs.Ytehbfobfkpejoaa
open Go.RowKit

/-- what the guess is good for -/
def gSpec (top u2 first d2 g : Nat) : Prop := g < 4294967296 ∧ g * (first * 4294967296 + d2) ≤ top * 4294967296 + u2 ∧ (top * 4294967296 + u2 < (g + 1) * (first * 4294967296 + d2) ∨ 4294967296 ≤ g + 1)
def GueR (w : World) (top u2 first d2 : Nat) (gu re : Value) (wr : World) : Prop :=
  ∃ (g r : Nat), gu = .int .u64 g ∧ re = .int .u64 r ∧ g ≤ 4294967297 ∧ r < 4294967296 ∧ Hid (g = 4294967297 → r + first < 4294967296) ∧ Hid (g * first + r = top) ∧
    Hid (top * 4294967296 + u2 < (g + 1) * (first * 4294967296 + d2) ∨ 4294967296 ≤ g + 1) ∧ Qt w wr

theorem gue_start {top u2 first d2 un u1 : Nat} (hf : 2147483648 ≤ first) (hf2 : first < 4294967296) (h2 : u2 < 4294967296) (ht : top = un * 4294967296 + u1) (h1 : u1 < 4294967296) (hu : un ≤ first) :
    top / first ≤ 4294967297 ∧ top % first < 4294967296 ∧ (top / first = 4294967297 → top % first + first < 4294967296) ∧ top / first * first + top % first = top ∧
      (top * 4294967296 + u2 < (top / first + 1) * (first * 4294967296 + d2) ∨ 4294967296 ≤ top / first + 1) := by
  have h3 : top / first * first + top % first = top := by have := Nat.div_add_mod top first; rw [Nat.mul_comm] at this; exact this
  have h4 : top % first < first := Nat.mod_lt _ (by omega)
  obtain ⟨g, hg⟩ : ∃ g, g = top / first := ⟨_, rfl⟩
  obtain ⟨r, hr⟩ : ∃ r, r = top % first := ⟨_, rfl⟩
  rw [← hg, ← hr] at h3 ⊢
  rw [← hr] at h4
  have h5 : g ≤ 4294967297 := by
    rcases Nat.lt_or_ge 4294967297 g with h | h
    · have := Nat.mul_le_mul_right first (show 4294967298 ≤ g by omega)
      omega
    · exact h
  refine ⟨h5, by omega, ?_, h3, .inl ?_⟩
  · intro e
    rw [e] at h3
    omega
  · rw [Nat.mul_add, ← Nat.mul_assoc]
    have : (g + 1) * first = g * first + first := Nat.succ_mul _ _
    omega
theorem gue_more {top u2 first d2 g r : Nat} (hv : g * first + r = top) :
    g * (first * 4294967296 + d2) ≤ top * 4294967296 + u2 ↔ g * d2 ≤ r * 4294967296 + u2 := by
  rw [Nat.mul_add, ← Nat.mul_assoc, ← hv, Nat.add_mul]
  omega
theorem gue_down {top first g r : Nat} (hv : g * first + r = top) (hg : 1 ≤ g) : (g - 1) * first + (r + first) = top := by
  obtain ⟨h, rfl⟩ : ∃ h, g = h + 1 := ⟨g - 1, by omega⟩
  rw [Nat.succ_mul] at hv
  simp only [Nat.add_sub_cancel]
  omega
theorem gue_break {top u2 first d2 g r : Nat} (hv : g * first + r = top) (hg2 : g ≤ 4294967296) (hr : 4294967296 ≤ r) (hd : d2 < 4294967296) : g * (first * 4294967296 + d2) ≤ top * 4294967296 + u2 := by
  rw [gue_more hv]
  have := Nat.mul_le_mul hg2 (show d2 ≤ 4294967295 by omega)
  omega

set_option maxRecDepth 100000 in
set_option maxHeartbeats 2000000 in
set_option maxRecDepth 40000 in
theorem guessed_any (ao : Option Addr) (m c : Nat) (us : List Nat) (bo : Option Addr) (n d : Nat) (ys : List Nat) (i1 i2 : Nat) (w : World) (hm : m = us.length) (hn : n = ys.length) (h1 : i1 + 1 = n) (h2 : i2 + 2 = n) (hlen : n < m)
    (ha : Rd w ao c us) (hb : Rd w bo d ys) (hf : 2147483648 ≤ lim ys i1) (hu : lim us n ≤ lim ys i1) :
    Calls Try.prog 106 #[.slice ao m c, .slice bo n d] w
      (fun e w' => ∃ g : Nat, e = .returned (.int .u64 g) ∧ gSpec (lim us n * 4294967296 + lim us i1) (lim us i2) (lim ys i1) (lim ys i2) g ∧ Qt w w') := by
  have mA := ha.mx
  have mB := hb.mx
  have cA := ha.cap
  have cB := hb.cap
  have xun := ixk ha m hm n hlen
  have xu1 := ixe ha m hm ((n : Int) - 1) i1 (by omega) (by omega)
  have xu2 := ixe ha m hm ((n : Int) - 2) i2 (by omega) (by omega)
  have xd1 := ixe hb n hn ((n : Int) - 1) i1 (by omega) (by omega)
  have xd2 := ixe hb n hn ((n : Int) - 2) i2 (by omega) (by omega)
  have kun := fun wr (q : Qt w wr) => (ha.ext q.ext).cell n (by omega)
  have ku1 := fun wr (q : Qt w wr) => (ha.ext q.ext).cell i1 (by omega)
  have ku2 := fun wr (q : Qt w wr) => (ha.ext q.ext).cell i2 (by omega)
  have kd1 := fun wr (q : Qt w wr) => (hb.ext q.ext).cell i1 (by omega)
  have kd2 := fun wr (q : Qt w wr) => (hb.ext q.ext).cell i2 (by omega)
  have bun := lim_lt ha.lb n
  have bu1 := lim_lt ha.lb i1
  have bu2 := lim_lt ha.lb i2
  have bd1 := lim_lt hb.lb i1
  have bd2 := lim_lt hb.lb i2
  have hbl : n ≤ 9223372036854775807 := by omega
  have hn2 : 2 ≤ n := by omega
  clear hm hn h1 h2 hlen cA cB
  generalize lim us n = un at *
  generalize lim us i1 = u1 at *
  generalize lim us i2 = u2 at *
  generalize lim ys i1 = first at *
  generalize lim ys i2 = d2 at *
  have hor := or_join un u1 bun bu1
  obtain ⟨top, htop⟩ : ∃ top, top = un * 4294967296 + u1 := ⟨_, rfl⟩
  obtain ⟨s1, s2, s3, s4, s5⟩ := gue_start (u2 := u2) (d2 := d2) hf bd1 bu2 htop bu1 hu
  rw [← htop] at hor ⊢
  have bT : top < 18446744073709551616 := by omega
  have htd := tdiv_nat top first
  have htm := tmod_nat top first
  obtain ⟨q, hq⟩ : ∃ q, q = top / first := ⟨_, rfl⟩
  obtain ⟨r0, hr⟩ : ∃ r0, r0 = top % first := ⟨_, rfl⟩
  rw [← hq] at htd s1 s3 s4 s5
  rw [← hr] at htm s2 s3 s4
  have hnd : (top : Int) / (first : Int) = (q : Int) := by rw [hq]; push_cast; rfl
  have hnm : (top : Int) % (first : Int) = (r0 : Int) := by rw [hr]; push_cast; rfl
  have S3 := Lib.hid s3
  have S4 := Lib.hid s4
  have S5 := Lib.hid s5
  clear hq hr s3 s4 s5 htop
  go_enter Try.func106, Try.ntmps106
  have k0 := kun w (Qt.refl w)
  have k1 := ku1 w (Qt.refl w)
  have k3 := kd1 w (Qt.refl w)
  have wn1 : IntKind.i64.wrap ((n : Int) - 1) = (n : Int) - 1 := IntWalk.i64_in _ (by omega)
  have wn2 : IntKind.i64.wrap ((n : Int) - 2) = (n : Int) - 2 := IntWalk.i64_in _ (by omega)
  have wsh : IntKind.u64.wrap ((un : Int) * 4294967296) = (un : Int) * 4294967296 := by rw [IntKind.wrap_u64]; omega
  go_wp2_with fail
  go_quiet (fail)
  have k4 := kd1 _ ((Qt.refl w).drewN nq)
  go_wp2_with fail
  have wq : IntKind.u64.wrap (q : Int) = (q : Int) := by rw [IntKind.wrap_u64]; omega
  have wr0 : IntKind.u64.wrap (r0 : Int) = (r0 : Int) := by rw [IntKind.wrap_u64]; omega
  go_quiet (fail)
  go_wp2_with fail
  go_loopw [8, 9] (GueR w top u2 first d2) (fun g _ _ => (intOf g).toNat)
  case atStart => exact ⟨q, r0, rfl, rfl, s1, s2, S3, S4, S5, ((Qt.refl w).drewN _).drewN _⟩
  case round =>
    obtain ⟨g, r, rfl, rfl, hg, hr, H3, H4, H5, hqt⟩ := hrel
    by_cases hbig : 4294967296 ≤ g
    · have hd1 : decide ((4294967296 : Int) ≤ (g : Int)) = true := by simp; omega
      have hb1 : (4294967296 : Int) ≤ (g : Int) := by omega
      have hdn := gue_down H4.out (by omega)
      have h6 : top * 4294967296 + u2 < (g - 1 + 1) * (first * 4294967296 + d2) ∨ 4294967296 ≤ g - 1 + 1 := .inr (by omega)
      by_cases hbr : 4294967296 ≤ r + first
      · have h7 : g ≤ 4294967296 := by
          rcases Nat.lt_or_ge 4294967296 g with h | h
          · have := H3.out (by omega); omega
          · exact h
        have h8 := gue_break (u2 := u2) hdn (by omega) hbr bd2
        have F := Lib.hid (show gSpec top u2 first d2 (g - 1) from ⟨by omega, h8, h6⟩)
        clear h6 h8 hdn H3 H4 H5
        have hbr1 : (4294967296 : Int) ≤ (r : Int) + (first : Int) := by omega
        go_wp2_with fail
        go_quiet (fail)
        go_wp2_with fail
        go_ret
        exact ⟨g - 1, by go_num, F.out, hqt.drewN _⟩
      · have hbr1 : decide ((4294967296 : Int) ≤ (r : Int) + (first : Int)) = false := by simp; omega
        have Hd := Lib.hid hdn
        have H6 := Lib.hid h6
        clear hdn h6 H3 H4 H5
        go_wp2_with fail
        go_quiet (fail)
        go_wp2_with fail
        go_roundw
        case rel => exact ⟨g - 1, r + first, by go_num, by go_num, by omega, by omega, by unfold Hid; omega, Hd, H6, hqt.drewN _⟩
        case measure => simp [intOf]; try omega
    · have hd1 : decide ((4294967296 : Int) ≤ (g : Int)) = false := by simp; omega
      have hb1 : ¬ (4294967296 : Int) ≤ (g : Int) := by omega
      have k1 := kd2 _ hqt
      have k2 := ku2 _ hqt
      have hor := or_join r u2 hr bu2
      have bp := prod_lt (show g < 4294967296 by omega) bd2
      have hmore := gue_more (u2 := u2) (d2 := d2) H4.out
      obtain ⟨p, hp⟩ : ∃ p, p = g * d2 := ⟨_, rfl⟩
      obtain ⟨R, hR⟩ : ∃ R, R = r * 4294967296 + u2 := ⟨_, rfl⟩
      rw [← hR] at hor hmore
      rw [← hp] at bp hmore
      have bR : R < 18446744073709551616 := by omega
      have hp' : (g : Int) * (d2 : Int) = (p : Int) := by rw [hp, Int.natCast_mul]
      have wp' : IntKind.u64.wrap (p : Int) = (p : Int) := by rw [IntKind.wrap_u64]; omega
      have wsh2 : IntKind.u64.wrap ((r : Int) * 4294967296) = (r : Int) * 4294967296 := by rw [IntKind.wrap_u64]; omega
      clear hR
      by_cases hgt : R < p
      · have hdn := gue_down H4.out (by rcases g with _ | g; simp at hp; omega; omega)
        have h6 : top * 4294967296 + u2 < (g - 1 + 1) * (first * 4294967296 + d2) ∨ 4294967296 ≤ g - 1 + 1 := by
          rcases g with _ | g
          · simp at hp; omega
          · left
            simp only [Nat.add_sub_cancel]
            rcases Nat.lt_or_ge (top * 4294967296 + u2) ((g + 1) * (first * 4294967296 + d2)) with h | h
            · exact h
            · have := hmore.1 h; omega
        have hg1 : 1 ≤ g := by rcases g with _ | g; simp at hp; omega; omega
        have hgt1 : (R : Int) < (p : Int) := by omega
        have hgt2 : decide ((R : Int) < (p : Int)) = true := by simp; omega
        by_cases hbr : 4294967296 ≤ r + first
        · have h8 := gue_break (u2 := u2) hdn (by omega) hbr bd2
          have F := Lib.hid (show gSpec top u2 first d2 (g - 1) from ⟨by omega, h8, h6⟩)
          clear h6 h8 hdn hmore H3 H4 H5 hp
          have hbr1 : (4294967296 : Int) ≤ (r : Int) + (first : Int) := by omega
          go_wp2_with fail
          go_quiet (fail)
          go_wp2_with fail
          go_ret
          exact ⟨g - 1, by go_num, F.out, hqt.drewN _⟩
        · have hbr1 : decide ((4294967296 : Int) ≤ (r : Int) + (first : Int)) = false := by simp; omega
          have Hd := Lib.hid hdn
          have H6 := Lib.hid h6
          clear hdn h6 hmore hp H3 H4 H5
          go_wp2_with fail
          go_quiet (fail)
          go_wp2_with fail
          go_roundw
          case rel => exact ⟨g - 1, r + first, by go_num, by go_num, by omega, by omega, by unfold Hid; omega, Hd, H6, hqt.drewN _⟩
          case measure => simp [intOf]; try omega
      · have F := Lib.hid (show gSpec top u2 first d2 g from ⟨by omega, hmore.2 (by omega), H5.out⟩)
        clear hmore H3 H4 H5 hp
        have hgt1 : ¬ (R : Int) < (p : Int) := by omega
        have hgt2 : decide ((R : Int) < (p : Int)) = false := by simp; omega
        go_wp2_with fail
        go_quiet (fail)
        go_wp2_with fail
        go_ret
        exact ⟨g, rfl, F.out, hqt.drewN _⟩
end Go.Proofs.Ytehbfobfkpejoaa
