/-
  Part 5 of the proof of the statement TermShrinks: the walk through the program and the references lifted to the given row. It holds for every input.
-/
import Derived.Test.YtekhnajfdaknnaaGreatDoorSh4
import Derived.Test.YtekhnajfdaknnaaGreatDoorSh1
import Derived.Deep.LoopGhost
import Derived.Test.YtekhnajfdaknnaaGreatDoorSh2
section
namespace Go.Proofs.YtekhnajfdaknnaaGreatDoor
open Go.RowKit

def gSpec (top u2 first d2 g : Nat) : Prop := g < 4294967296 ∧ g * (first * 4294967296 + d2) ≤ top * 4294967296 + u2 ∧ (top * 4294967296 + u2 < (g + 1) * (first * 4294967296 + d2) ∨ 4294967296 ≤ g + 1)
def GueR (w : World) (top u2 first d2 : Nat) (gu re : Value) (wr : World) : Prop :=
  ∃ (g r : Nat), gu = .int .u64 g ∧ re = .int .u64 r ∧ g ≤ 4294967297 ∧ r < 4294967296 ∧ Hid (g = 4294967297 → r + first < 4294967296) ∧ Hid (g * first + r = top) ∧
    Hid (top * 4294967296 + u2 < (g + 1) * (first * 4294967296 + d2) ∨ 4294967296 ≤ g + 1) ∧ Qt w wr

theorem gue_start {top u2 first d2 un u1 : Nat} (hf : 2147483648 ≤ first) (hf2 : first < 4294967296) (h2 : u2 < 4294967296) (ht : top = un * 4294967296 + u1) (h1 : u1 < 4294967296) (hu : un ≤ first) :
  top / first ≤ 4294967297 ∧ top % first < 4294967296 ∧ (top / first = 4294967297 → top % first + first < 4294967296) ∧ top / first * first + top % first = top ∧
   (top * 4294967296 + u2 < (top / first + 1) * (first * 4294967296 + d2) ∨ 4294967296 ≤ top / first + 1) := by
 have h3 : top / first * first + top % first = top := by have := Nat.div_add_mod top first; rw [Nat.mul_comm] at this; exact this
 have h4 : top % first < first := Nat.mod_lt _ (by omega)
 obtain ⟨g, hg⟩ : ∃ g, g = top / first := ⟨_, rfl⟩
 obtain ⟨r, hr⟩ : ∃ r, r = top % first := ⟨_, rfl⟩
 rw [← hg, ← hr] at h3 ⊢
 rw [← hr] at h4
 have h5 : g ≤ 4294967297 := by
  rcases Nat.lt_or_ge 4294967297 g with h | h
  ·have := Nat.mul_le_mul_right first (show 4294967298 ≤ g by omega)
   omega
  ·exact h
 refine ⟨h5, by omega, ?_, h3, .inl ?_⟩
 ·intro e
  rw [e] at h3
  omega
 ·rw [Nat.mul_add, ← Nat.mul_assoc]
  have : (g + 1) * first = g * first + first := Nat.succ_mul _ _
  omega
theorem gue_more {top u2 first d2 g r : Nat} (hv : g * first + r = top) :
  g * (first * 4294967296 + d2) ≤ top * 4294967296 + u2 ↔ g * d2 ≤ r * 4294967296 + u2 := by
 rw [Nat.mul_add, ← Nat.mul_assoc, ← hv, Nat.add_mul]
 omega
theorem gue_down {top first g r : Nat} (hv : g * first + r = top) (hg : 1 ≤ g) : (g - 1) * first + (r + first) = top := by
 obtain ⟨h, rfl⟩ : ∃ h, g = h + 1 := ⟨g - 1, by omega⟩
 rw [Nat.succ_mul] at hv
 simp only [Nat.add_sub_cancel]
 omega
theorem gue_break {top u2 first d2 g r : Nat} (hv : g * first + r = top) (hg2 : g ≤ 4294967296) (hr : 4294967296 ≤ r) (hd : d2 < 4294967296) : g * (first * 4294967296 + d2) ≤ top * 4294967296 + u2 := by
 rw [gue_more hv]
 have := Nat.mul_le_mul hg2 (show d2 ≤ 4294967295 by omega)
 omega

set_option maxRecDepth 100000 in
set_option maxHeartbeats 2000000 in
set_option maxRecDepth 40000 in
theorem guessed_any (ao : Option Addr) (m c : Nat) (us : List Nat) (bo : Option Addr) (n d : Nat) (ys : List Nat) (i1 i2 : Nat) (w : World) (hm : m = us.length) (hn : n = ys.length) (h1 : i1 + 1 = n) (h2 : i2 + 2 = n) (hlen : n < m)
  (ha : Rd w ao c us) (hb : Rd w bo d ys) (hf : 2147483648 ≤ lim ys i1) (hu : lim us n ≤ lim ys i1) :
  Calls Tryz.prog 134 #[.slice ao m c, .slice bo n d] w
   (fun e w' => ∃ g : Nat, e = .returned (.int .u64 g) ∧ gSpec (lim us n * 4294967296 + lim us i1) (lim us i2) (lim ys i1) (lim ys i2) g ∧ Qt w w') := by
 have mA := ha.mx
 have mB := hb.mx
 have cA := ha.cap
 have cB := hb.cap
 have xun := ixk ha m hm n hlen
 have xu1 := ixe ha m hm ((n : Int) - 1) i1 (by omega) (by omega)
 have xu2 := ixe ha m hm ((n : Int) - 2) i2 (by omega) (by omega)
 have xd1 := ixe hb n hn ((n : Int) - 1) i1 (by omega) (by omega)
 have xd2 := ixe hb n hn ((n : Int) - 2) i2 (by omega) (by omega)
 have kun := fun wr (q : Qt w wr) => (ha.ext q.ext).cell n (by omega)
 have ku1 := fun wr (q : Qt w wr) => (ha.ext q.ext).cell i1 (by omega)
 have ku2 := fun wr (q : Qt w wr) => (ha.ext q.ext).cell i2 (by omega)
 have kd1 := fun wr (q : Qt w wr) => (hb.ext q.ext).cell i1 (by omega)
 have kd2 := fun wr (q : Qt w wr) => (hb.ext q.ext).cell i2 (by omega)
 have bun := lim_lt ha.lb n
 have bu1 := lim_lt ha.lb i1
 have bu2 := lim_lt ha.lb i2
 have bd1 := lim_lt hb.lb i1
 have bd2 := lim_lt hb.lb i2
 have hbl : n ≤ 9223372036854775807 := by omega
 have hn2 : 2 ≤ n := by omega
 clear hm hn h1 h2 hlen cA cB
 generalize lim us n = un at *
 generalize lim us i1 = u1 at *
 generalize lim us i2 = u2 at *
 generalize lim ys i1 = first at *
 generalize lim ys i2 = d2 at *
 have hor := or_join un u1 bun bu1
 obtain ⟨top, htop⟩ : ∃ top, top = un * 4294967296 + u1 := ⟨_, rfl⟩
 obtain ⟨s1, s2, s3, s4, s5⟩ := gue_start (u2 := u2) (d2 := d2) hf bd1 bu2 htop bu1 hu
 rw [← htop] at hor ⊢
 have bT : top < 18446744073709551616 := by omega
 have htd := tdiv_nat top first
 have htm := tmod_nat top first
 obtain ⟨q, hq⟩ : ∃ q, q = top / first := ⟨_, rfl⟩
 obtain ⟨r0, hr⟩ : ∃ r0, r0 = top % first := ⟨_, rfl⟩
 rw [← hq] at htd s1 s3 s4 s5
 rw [← hr] at htm s2 s3 s4
 have hnd : (top : Int) / (first : Int) = (q : Int) := by rw [hq]; push_cast; rfl
 have hnm : (top : Int) % (first : Int) = (r0 : Int) := by rw [hr]; push_cast; rfl
 have S3 := Lib.hid s3
 have S4 := Lib.hid s4
 have S5 := Lib.hid s5
 clear hq hr s3 s4 s5 htop
 go_enter Tryz.func134, Tryz.ntmps134
 have k0 := kun w (Qt.refl w)
 have k1 := ku1 w (Qt.refl w)
 have k3 := kd1 w (Qt.refl w)
 have wn1 : IntKind.i64.wrap ((n : Int) - 1) = (n : Int) - 1 := IntWalk.i64_in _ (by omega)
 have wn2 : IntKind.i64.wrap ((n : Int) - 2) = (n : Int) - 2 := IntWalk.i64_in _ (by omega)
 have wsh : IntKind.u64.wrap ((un : Int) * 4294967296) = (un : Int) * 4294967296 := by rw [IntKind.wrap_u64]; omega
 go_wp2_with fail
 go_quiet (fail)
 have k4 := kd1 _ ((Qt.refl w).drewN nq)
 go_wp2_with fail
 have wq : IntKind.u64.wrap (q : Int) = (q : Int) := by rw [IntKind.wrap_u64]; omega
 have wr0 : IntKind.u64.wrap (r0 : Int) = (r0 : Int) := by rw [IntKind.wrap_u64]; omega
 go_quiet (fail)
 go_wp2_with fail
 go_loopw [8, 9] (GueR w top u2 first d2) (fun g _ _ => (intOf g).toNat)
 case atStart => exact ⟨q, r0, rfl, rfl, s1, s2, S3, S4, S5, ((Qt.refl w).drewN _).drewN _⟩
 case round =>
  obtain ⟨g, r, rfl, rfl, hg, hr, H3, H4, H5, hqt⟩ := hrel
  by_cases hbig : 4294967296 ≤ g
  ·have hd1 : decide ((4294967296 : Int) ≤ (g : Int)) = true := by simp; omega
   have hb1 : (4294967296 : Int) ≤ (g : Int) := by omega
   have hdn := gue_down H4.out (by omega)
   have h6 : top * 4294967296 + u2 < (g - 1 + 1) * (first * 4294967296 + d2) ∨ 4294967296 ≤ g - 1 + 1 := .inr (by omega)
   by_cases hbr : 4294967296 ≤ r + first
   ·have h7 : g ≤ 4294967296 := by
     rcases Nat.lt_or_ge 4294967296 g with h | h
     ·have := H3.out (by omega); omega
     ·exact h
    have h8 := gue_break (u2 := u2) hdn (by omega) hbr bd2
    have F := Lib.hid (show gSpec top u2 first d2 (g - 1) from ⟨by omega, h8, h6⟩)
    clear h6 h8 hdn H3 H4 H5
    have hbr1 : (4294967296 : Int) ≤ (r : Int) + (first : Int) := by omega
    go_wp2_with fail
    go_quiet (fail)
    go_wp2_with fail
    go_ret
    exact ⟨g - 1, by go_num, F.out, hqt.drewN _⟩
   ·have hbr1 : decide ((4294967296 : Int) ≤ (r : Int) + (first : Int)) = false := by simp; omega
    have Hd := Lib.hid hdn
    have H6 := Lib.hid h6
    clear hdn h6 H3 H4 H5
    go_wp2_with fail
    go_quiet (fail)
    go_wp2_with fail
    go_roundw
    case rel => exact ⟨g - 1, r + first, by go_num, by go_num, by omega, by omega, by unfold Hid; omega, Hd, H6, hqt.drewN _⟩
    case measure => simp [intOf]; try omega
  ·have hd1 : decide ((4294967296 : Int) ≤ (g : Int)) = false := by simp; omega
   have hb1 : ¬ (4294967296 : Int) ≤ (g : Int) := by omega
   have k1 := kd2 _ hqt
   have k2 := ku2 _ hqt
   have hor := or_join r u2 hr bu2
   have bp := prod_lt (show g < 4294967296 by omega) bd2
   have hmore := gue_more (u2 := u2) (d2 := d2) H4.out
   obtain ⟨p, hp⟩ : ∃ p, p = g * d2 := ⟨_, rfl⟩
   obtain ⟨R, hR⟩ : ∃ R, R = r * 4294967296 + u2 := ⟨_, rfl⟩
   rw [← hR] at hor hmore
   rw [← hp] at bp hmore
   have bR : R < 18446744073709551616 := by omega
   have hp' : (g : Int) * (d2 : Int) = (p : Int) := by rw [hp, Int.natCast_mul]
   have wp' : IntKind.u64.wrap (p : Int) = (p : Int) := by rw [IntKind.wrap_u64]; omega
   have wsh2 : IntKind.u64.wrap ((r : Int) * 4294967296) = (r : Int) * 4294967296 := by rw [IntKind.wrap_u64]; omega
   clear hR
   by_cases hgt : R < p
   ·have hdn := gue_down H4.out (by rcases g with _ | g; simp at hp; omega; omega)
    have h6 : top * 4294967296 + u2 < (g - 1 + 1) * (first * 4294967296 + d2) ∨ 4294967296 ≤ g - 1 + 1 := by
     rcases g with _ | g
     ·simp at hp; omega
     ·left
      simp only [Nat.add_sub_cancel]
      rcases Nat.lt_or_ge (top * 4294967296 + u2) ((g + 1) * (first * 4294967296 + d2)) with h | h
      ·exact h
      ·have := hmore.1 h; omega
    have hg1 : 1 ≤ g := by rcases g with _ | g; simp at hp; omega; omega
    have hgt1 : (R : Int) < (p : Int) := by omega
    have hgt2 : decide ((R : Int) < (p : Int)) = true := by simp; omega
    by_cases hbr : 4294967296 ≤ r + first
    ·have h8 := gue_break (u2 := u2) hdn (by omega) hbr bd2
     have F := Lib.hid (show gSpec top u2 first d2 (g - 1) from ⟨by omega, h8, h6⟩)
     clear h6 h8 hdn hmore H3 H4 H5 hp
     have hbr1 : (4294967296 : Int) ≤ (r : Int) + (first : Int) := by omega
     go_wp2_with fail
     go_quiet (fail)
     go_wp2_with fail
     go_ret
     exact ⟨g - 1, by go_num, F.out, hqt.drewN _⟩
    ·have hbr1 : decide ((4294967296 : Int) ≤ (r : Int) + (first : Int)) = false := by simp; omega
     have Hd := Lib.hid hdn
     have H6 := Lib.hid h6
     clear hdn h6 hmore hp H3 H4 H5
     go_wp2_with fail
     go_quiet (fail)
     go_wp2_with fail
     go_roundw
     case rel => exact ⟨g - 1, r + first, by go_num, by go_num, by omega, by omega, by unfold Hid; omega, Hd, H6, hqt.drewN _⟩
     case measure => simp [intOf]; try omega
   ·have F := Lib.hid (show gSpec top u2 first d2 g from ⟨by omega, hmore.2 (by omega), H5.out⟩)
    clear hmore H3 H4 H5 hp
    have hgt1 : ¬ (R : Int) < (p : Int) := by omega
    have hgt2 : decide ((R : Int) < (p : Int)) = false := by simp; omega
    go_wp2_with fail
    go_quiet (fail)
    go_wp2_with fail
    go_ret
    exact ⟨g, rfl, F.out, hqt.drewN _⟩
end Go.Proofs.YtekhnajfdaknnaaGreatDoor
end
section
namespace Go.Proofs.YtekhnajfdaknnaaGreatDoor

theorem vk_of_lt {zs : List Nat} {k : Nat} (h : val zs < pw k) : vk zs k = val zs := by
 by_cases hk : k ≤ zs.length
 ·have h1 := vk_split zs k hk
  rcases Nat.eq_zero_or_pos (val (zs.drop k)) with h0 | h0
  ·rw [h0] at h1; omega
  ·have := Nat.mul_le_mul_left (pw k) h0
   omega
 ·exact vk_full (by omega)
theorem lim_zero_of_lt {zs : List Nat} {k t : Nat} (h : val zs < pw k) (ht : k ≤ t) : lim zs t = 0 := by
 by_cases hk : t < zs.length
 ·have h1 := vk_of_lt h
  have h2 : vk zs (t + 1) = val zs := vk_of_lt (Nat.lt_of_lt_of_le h (pw_le (by omega)))
  have h3 : vk zs t = val zs := vk_of_lt (Nat.lt_of_lt_of_le h (pw_le ht))
  rw [vk_succ, h3] at h2
  have h4 : pw t * lim zs t = 0 := by omega
  rcases Nat.mul_eq_zero.1 h4 with h5 | h5
  ·have := pw_pos t; omega
  ·exact h5
 ·exact lim_of_le (by omega)
theorem lt_of_lims {zs : List Nat} (hl : Lb zs) {k : Nat} (h : ∀ t, k ≤ t → lim zs t = 0) : val zs < pw k := by
 have h1 : ∀ j, vk zs (k + j) = vk zs k := by
  intro j
  induction j with
  | zero => rfl
  | succ j ih => rw [← Nat.add_assoc, vk_succ, ih, h (k + j) (by omega)]; simp
 have h2 := h1 zs.length
 rw [vk_full (by omega)] at h2
 rw [h2]
 exact vk_lt hl k

theorem guess_fits {us ys : List Nat} {n i1 i2 g : Nat} (hu : Lb us) (hy : Lb ys) (hn : n = ys.length) (h1 : i1 + 1 = n) (h2 : i2 + 2 = n) (hf : 2147483648 ≤ lim ys i1) (hT : val us < val ys * 4294967296)
  (hg : gSpec (lim us n * 4294967296 + lim us i1) (lim us i2) (lim ys i1) (lim ys i2) g) : val us / val ys ≤ g ∧ g ≤ val us / val ys + 1 := by
 obtain rfl : i1 = i2 + 1 := by omega
 obtain rfl : n = i2 + 2 := by omega
 obtain ⟨g1, g2, g3⟩ := hg
 have hyp : val ys < pw (i2 + 2) := by rw [hn]; exact val_lt hy
 have hT2 : val us < pw (i2 + 3) := by
  rw [pw_succ]
  have := Nat.mul_le_mul_left 4294967296 (Nat.le_of_lt hyp)
  omega
 have eU := vk_of_lt hT2
 have eY := vk_of_lt hyp
 rw [vk_succ, vk_succ, vk_succ, pw_succ (i2 + 1), pw_succ i2] at eU
 rw [vk_succ, vk_succ, pw_succ i2] at eY
 have hlo := vk_lt hu i2
 have hdl := vk_lt hy i2
 generalize vk us i2 = lo at *
 generalize vk ys i2 = dl at *
 generalize pw i2 = P at *
 generalize lim us (i2 + 2) = un at *
 generalize lim us (i2 + 1) = u1 at *
 generalize lim us i2 = u2 at *
 generalize lim ys (i2 + 1) = first at *
 generalize lim ys i2 = d2 at *
 obtain ⟨U3, hU3⟩ : ∃ U3, U3 = (un * 4294967296 + u1) * 4294967296 + u2 := ⟨_, rfl⟩
 obtain ⟨V, hV⟩ : ∃ V, V = first * 4294967296 + d2 := ⟨_, rfl⟩
 rw [← hU3, ← hV] at g2 g3
 have eT : val us = lo + P * U3 := by
  rw [← eU, hU3]
  have e1 : P * ((un * 4294967296 + u1) * 4294967296 + u2) = P * u2 + 4294967296 * (P * u1) + 4294967296 * (4294967296 * (P * un)) := by
   rw [Nat.mul_add, Nat.add_mul, Nat.mul_add, ← Nat.mul_assoc P u1, ← Nat.mul_assoc P (un * 4294967296), ← Nat.mul_assoc P un]
   omega
  rw [e1, Nat.mul_assoc 4294967296 P u1, Nat.mul_assoc 4294967296 (4294967296 * P) un, Nat.mul_assoc 4294967296 P un]
  omega
 have eD : val ys = dl + P * V := by
  rw [← eY, hV, Nat.mul_add, ← Nat.mul_assoc P first, Nat.mul_assoc 4294967296 P first]
  omega
 have hVb : 4294967296 ≤ V := by omega
 have hP : 0 < P := by omega
 have hD : 0 < val ys := by
  have := Nat.mul_le_mul hP hVb
  omega
 constructor
 ·refine Nat.le_of_lt_succ (Nat.div_lt_of_lt_mul ?_)
  rcases g3 with h | h
  ·have e1 := Nat.mul_le_mul_left P (Nat.succ_le_of_lt h)
   have e2 : P * ((g + 1) * V) ≤ (g + 1) * val ys := by
    rw [Nat.mul_left_comm]
    exact Nat.mul_le_mul_left _ (by omega)
   have e3 : P * (U3 + 1) = P * U3 + P := Nat.mul_succ _ _
   rw [Nat.mul_comm (val ys)]
   simp only [Nat.succ_eq_add_one] at *
   omega
  ·have := Nat.mul_le_mul_left (val ys) h
   simp only [Nat.succ_eq_add_one]
   omega
 ·rcases g with _ | h
  ·exact Nat.zero_le _
  ·refine Nat.succ_le_succ ((Nat.le_div_iff_mul_le hD).2 ?_)
   have e1 := Nat.mul_le_mul_left P g2
   rw [Nat.succ_mul, Nat.mul_add] at e1
   have e2 : h * val ys = h * dl + P * (h * V) := by rw [eD, Nat.mul_add, Nat.mul_left_comm]
   have e3 : h * dl ≤ 4294967296 * P := Nat.mul_le_mul (by omega) (by omega)
   have e4 := Nat.mul_le_mul_left P hVb
   rw [Nat.mul_comm P 4294967296] at e4
   omega

theorem top_le {us ys : List Nat} {n i1 : Nat} (hy : Lb ys) (hn : n = ys.length) (h1 : i1 + 1 = n) (hT : val us < val ys * 4294967296) : lim us n ≤ lim ys i1 := by
 subst h1
 have eY : vk ys (i1 + 1) = val ys := by rw [hn]; exact vk_full (Nat.le_refl _)
 rw [vk_succ] at eY
 have hdl := vk_lt hy i1
 have h3 : pw (i1 + 1) * lim us (i1 + 1) ≤ val us := by
  by_cases hk : i1 + 1 < us.length
  ·have h5 := vk_split us (i1 + 1 + 1) (by omega)
   rw [vk_succ] at h5
   omega
  ·rw [lim_of_le (by omega)]; simp
 rcases Nat.lt_or_ge (lim ys i1) (lim us (i1 + 1)) with h | h
 ·have e1 := Nat.mul_le_mul_left (pw (i1 + 1)) (Nat.succ_le_of_lt h)
  rw [pw_succ] at e1 h3
  have e2 : 4294967296 * pw i1 * (lim ys i1).succ = 4294967296 * (pw i1 * lim ys i1) + 4294967296 * pw i1 := by rw [Nat.mul_succ, Nat.mul_assoc]
  omega
 ·exact h

theorem took {zs zs1 ys : List Nat} {k g : Nat} (hz : Lb zs) (hk : k ≤ zs.length) (hT : val zs < val ys * pw (k + 1)) (hg : val (zs.drop k) / val ys ≤ g ∧ g ≤ val (zs.drop k) / val ys + 1)
  (hv : val zs1 + pw k * (g * val ys) = val zs) : val zs1 < val ys * pw k := by
 have h1 := vk_split zs k hk
 have h2 := vk_lt hz k
 have hD : 0 < val ys := by
  rcases Nat.eq_zero_or_pos (val ys) with h | h
  ·rw [h] at hT; omega
  ·exact h
 generalize val (zs.drop k) = T at *
 have h3 : T < (T / val ys + 1) * val ys := by
  have := Nat.lt_div_mul_add (a := T) hD
  rw [Nat.add_mul, Nat.one_mul]; exact this
 have h4 : T < (g + 1) * val ys := Nat.lt_of_lt_of_le h3 (Nat.mul_le_mul_right _ (by omega))
 have h5 := Nat.mul_le_mul_left (pw k) (Nat.succ_le_of_lt h4)
 rw [Nat.add_mul, Nat.one_mul, Nat.mul_add] at h5
 have h6 : pw k * T.succ = pw k * T + pw k := Nat.mul_succ _ _
 rw [Nat.mul_comm (val ys)]
 omega

theorem take_zero {zs zs1 ys : List Nat} {k g : Nat} (hz : Lb zs) (hz1 : Lb zs1) (hk : k ≤ zs.length) (hy : Lb ys) (hT : val zs < val ys * pw (k + 1))
  (hg : val (zs.drop k) / val ys ≤ g ∧ g ≤ val (zs.drop k) / val ys + 1) (hlim : ∀ t, k + ys.length < t → lim zs1 t = lim zs t)
  (hv : val zs1 + pw k * (g * val ys) = val zs + pw (k + (ys.length + 1))) : val zs1 < pw (k + (ys.length + 1)) ∧ 1 ≤ g ∧ g - 1 = val (zs.drop k) / val ys ∧ pw k * ((g - 1) * val ys) ≤ val zs := by
 have h0 : val zs < pw (k + (ys.length + 1)) := by
  have e : pw (k + (ys.length + 1)) = pw ys.length * pw (k + 1) := by rw [← pw_add]; congr 1; omega
  rw [e]
  exact Nat.lt_of_lt_of_le hT (Nat.mul_le_mul_right _ (Nat.le_of_lt (val_lt hy)))
 have hD : 0 < val ys := by
  rcases Nat.eq_zero_or_pos (val ys) with h | h
  ·rw [h] at hT; omega
  ·exact h
 have hz2 : val zs1 < pw (k + (ys.length + 1)) := lt_of_lims hz1 (fun t ht => by rw [hlim t (by omega)]; exact lim_zero_of_lt h0 ht)
 have h1 := vk_split zs k hk
 have h2 := vk_lt hz k
 generalize val (zs.drop k) = T at *
 have h3 : T < g * val ys := by
  rcases Nat.lt_or_ge T (g * val ys) with h | h
  ·exact h
  ·have := Nat.mul_le_mul_left (pw k) h
   omega
 have h4 : T / val ys < g := (Nat.div_lt_iff_lt_mul hD).2 h3
 have h6 := Nat.mul_le_mul_left (pw k) (Nat.div_mul_le_self T (val ys))
 generalize T / val ys = q at *
 have h5 : g - 1 = q := by have := hg.2; omega
 refine ⟨hz2, by omega, h5, ?_⟩
 rw [h5]
 omega

theorem put_val {zs zs1 zs2 ys : List Nat} {k g x : Nat} (hx : x ≤ 1) (hg : 1 ≤ g)
  (hv : val zs1 + pw k * (g * val ys) = val zs + pw (k + (ys.length + 1))) (hle : pw k * ((g - 1) * val ys) ≤ val zs) (h2 : val zs2 < pw (k + (ys.length + 1)))
  (hp : val zs2 + pw (k + (ys.length + 1)) * x = val zs1 + pw k * val ys) : val zs2 + pw k * ((g - 1) * val ys) = val zs := by
 obtain ⟨h, rfl⟩ : ∃ h, g = h + 1 := ⟨g - 1, by omega⟩
 rw [Nat.add_sub_cancel] at hle ⊢
 rw [Nat.succ_mul, Nat.mul_add] at hv
 rcases x with _ | x
 ·omega
 ·obtain rfl : x = 0 := by omega
  omega
end Go.Proofs.YtekhnajfdaknnaaGreatDoor
end
section
namespace Go.Proofs.YtekhnajfdaknnaaGreatDoor
open Go.RowKit

theorem undInt : Tryz.prog.underlying 3 = some (.int .i64) := Tryz.underlying3
theorem zeroCells32 (n : Nat) : Builtin.zeroCells (Value.int .u32 0).cells n = ((List.replicate n 0).map fun (x : Nat) => Value.int .u32 (x : Int)).toArray := by
 unfold Builtin.zeroCells
 apply Array.ext
 ·simp [Value.cells]
 ·intro i h1 h2
  simp [Value.cells, Nat.mod_one]
theorem cells32 : (Value.int .u32 0).cells = #[Value.int .u32 0] := rfl

section
variable (w : World) (ty : TypeId) (L : Nat)
theorem app_room (g n cap : Nat) (cur : Array Value) (hg : w.heap[g]? = some (.cells cur 67 (0, 0))) (hL : L ≤ 4294967296) (hroom : n + L ≤ cap) (hfit : n + L ≤ cur.size) :
  (Builtin.append_ #[24, 3] ty #[.slice (some ⟨g, 0, none⟩) n cap, .int .i64 (L : Int)]).run Tryz.prog w =
   .ok (.slice (some ⟨g, 0, none⟩) (n + L) cap) (w.setRow g (cur.toList.take n ++ ((List.replicate L 0).map fun (x : Nat) => Value.int .u32 (x : Int)) ++ cur.toList.drop (n + L)).toArray) := by
 obtain ⟨i0, hi, hz0, hz1, hz2⟩ := info_parts info32
 have wl : IntKind.i64.wrap (L : Int) = (L : Int) := by rw [IntKind.wrap_i64]; omega
 have c1 : ¬ ((L : Int) < 0) := by omega
 have c2 : ¬ (281474976710656 < (L : Int) * 4) := by omega
 have hst := run_storeCells_at Tryz.prog g n 67 ((List.replicate L 0).map fun (x : Nat) => Value.int .u32 (x : Int)) 0 cur w hg (by simpa using hfit) (fun u hu => by simp at hu; obtain ⟨_, rfl⟩ := hu; rfl)
 simp only [Nat.add_zero] at hst
 rcases Nat.eq_zero_or_pos L with h0 | hp
 ·subst h0
  have w0 : IntKind.i64.wrap 0 = 0 := by decide
  simp [Builtin.append_, run_underlying und, run_underlying undInt, sizeOf, typeInfo, hi, hz1, hz2, asInt, asIntOf, w0]
  have hn : n ≤ cap := by omega
  simp at hst
  simp [hn, storeCells] at hst ⊢
  exact hst
 ·have hp' : ¬ L = 0 := by omega
  simp [Builtin.append_, run_underlying und, run_underlying undInt, sizeOf, typeInfo, zeroValue, hi, hz0, hz1, hz2, asInt, asIntOf, wl, c1, c2, hroom, hp', zeroCells32, Addr.add_lit]
  simp at hst
  simp [hst]
theorem app_grow (ao : Option Addr) (n cap : Nat) (olds : List Value) (hao : ao = none → n = 0) (hlo : olds.length = n) (holds : ∀ b, ao = some b → ∀ j v, olds[j]? = some v → w.cell? (b.add j) = some v)
  (hL : L ≤ 4294967296) (hn : n ≤ 4294967296) (hg : cap < n + L) :
  (Builtin.append_ #[24, 3] ty #[.slice ao n cap, .int .i64 (L : Int)]).run Tryz.prog w =
   .ok (.slice (some ⟨w.heap.size, 0, none⟩) (n + L) (grownCap w (n + L) cap 67))
    (w.drew.alloc (.cells (olds.toArray ++ ((List.replicate L 0).map fun (x : Nat) => Value.int .u32 (x : Int)).toArray ++ Builtin.zeroCells (Value.int .u32 0).cells (grownCap w (n + L) cap 67 - (n + L))) 67)) := by
 obtain ⟨i0, hi, hz0, hz1, hz2⟩ := info_parts info32
 have wl : IntKind.i64.wrap (L : Int) = (L : Int) := by rw [IntKind.wrap_i64]; omega
 have c1 : ¬ ((L : Int) < 0) := by omega
 have c2 : ¬ (281474976710656 < (L : Int) * 4) := by omega
 have c3 : ¬ (n + L ≤ cap) := by omega
 have c4 : ¬ (9223372036854775807 < ((n : Int) + (L : Int))) := by omega
 have c5 : ¬ (281474976710656 < Builtin.nextslicecap (n + L) cap * 4) := by
  have := growslice_fits (need := n + L) (old := cap) (bytes := 4) (by omega) (by omega)
  omega
 have hf : (Builtin.firstCells 1 n (.slice ao n cap)).run Tryz.prog w.drew = .ok olds.toArray w.drew := by
  rcases ao with _ | b
  ·have : olds = [] := List.length_eq_zero_iff.1 (by rw [hlo]; exact hao rfl)
   subst this
   simp [Builtin.firstCells, Sem.run_pure]
  ·exact run_firstCells_some (P := Tryz.prog) w.drew 1 n b n cap olds (by simpa using hlo) (by simpa using holds b rfl)
 by_cases hL0 : L = 0
 ·subst hL0
  have w0 : IntKind.i64.wrap 0 = 0 := by decide
  simp [Builtin.append_, run_underlying und, run_underlying undInt, sizeOf, typeInfo, zeroValue, hi, hz0, hz1, hz2, asInt, asIntOf, w0] 
  have c3' : ¬ (n ≤ cap) := by omega
  have c4' : ¬ (9223372036854775807 < (n : Int)) := by omega
  simp at c5
  simp [c3', c4', Question.forced, hf, newRow, grownCap]
  omega
 ·simp [Builtin.append_, run_underlying und, run_underlying undInt, sizeOf, typeInfo, zeroValue, hi, hz0, hz1, hz2, asInt, asIntOf, wl, c1, c2, c3, c4, c5, hL0, Question.forced, hf, newRow, grownCap, zeroCells32]
end

theorem pushZ {wi w : World} {ops : Array Oper} {rest : List Oper} {o : Oper} {a : Act} {Q : Exit → Act → World → Prop} (hgd : o.guard = none) (s x : Operand)
  (ho : o.op = .call { callee := .builtin .append, args := #[s, x], argTypes := #[24, 3] })
  {B : Nat} (ao : Option Addr) (c : Nat) (zs : List Nat) (n : Nat) (hn : n = zs.length) (hs : a.eval s = .slice ao n c) (hown : Own w B ao c zs)
  (E : Int) (hx : a.eval x = .int .i64 E) (hE : 0 ≤ E) (hlen : (zs.length : Int) + E ≤ 4294967296) (hB : wi.heap.size ≤ B) (hext : Ext wi w) (hBw : B ≤ w.heap.size)
  (h : ∀ ao' c' w', Own w' B ao' c' (zs ++ List.replicate E.toNat 0) → Ext wi w' → w.grownBy w' (Value.slice ao zs.length c).ownBlock → wpList Tryz.prog ops Q rest (a.put o.dst (.slice ao' (zs.length + E.toNat) c')) w') :
  wpList Tryz.prog ops Q (o :: rest) a w := by
 subst hn
 obtain ⟨L, rfl⟩ := Int.eq_ofNat_of_zero_le hE
 have hll : (zs ++ List.replicate L 0).length = zs.length + L := by simp
 have hlb : Lb (zs ++ List.replicate L 0) := Lb_append hown.lb (fun z hz => by have := List.eq_of_mem_replicate hz; omega)
 have key : ∃ ao' c' w', (Builtin.append_ #[24, 3] o.type #[.slice ao zs.length c, .int .i64 (L : Int)]).run Tryz.prog w = .ok (.slice ao' (zs.length + L) c') w' ∧ Own w' B ao' c' (zs ++ List.replicate L 0) ∧ w.grownBy w' (Value.slice ao zs.length c).ownBlock := by
  by_cases hroom : zs.length + L ≤ c ∧ ao ≠ none
  ·obtain ⟨hroom, hne⟩ := hroom
   rcases hown.row.2 with ⟨hv, hn⟩ | ⟨g, cap, cur, hv, hb, hg, hnc, hcm, hcs, htake⟩
   ·simp at hv; exact absurd hv.1 hne
   ·simp only [Value.slice.injEq, true_and] at hv
    obtain ⟨rfl, rfl⟩ := hv
    have hcu : cur.toList.length = cur.size := rfl
    have hz1 : ((List.replicate L 0).map fun (x : Nat) => Value.int .u32 (x : Int)).length = L := by simp
    generalize hzz : ((List.replicate L 0).map fun (x : Nat) => Value.int .u32 (x : Int)) = zz at hz1
    have har := app_room w o.type L g zs.length c cur hg (by omega) hroom (by rw [hcs]; omega)
    rw [hzz] at har
    refine ⟨_, _, _, har, ⟨hlb, by simp, .inr ⟨g, c, _, by rw [hll], hb, setRow_heap w g cur _ _ _ hg, by omega, hcm, ?_, ?_⟩⟩, ⟨rfl, rfl, rfl, by simp, fun k _ hk => setRow_other w g k _ (fun e => hk (by simp [Value.ownBlock, e]))⟩⟩
    ·rw [List.size_toArray, List.length_append, List.length_append, List.length_take, List.length_drop, hz1, hcu]
     omega
    ·simp only [Nat.mul_one] at htake
     rw [hll, Nat.mul_one, List.map_append, hzz, htake]
     have h1 : (zs.map fun (x : Nat) => Value.int .u32 (x : Int)).length = zs.length := by simp
     show List.take (zs.length + L) ((zs.map fun (x : Nat) => Value.int .u32 (x : Int)) ++ zz ++ List.drop (zs.length + L) cur.toList) = _
     rw [List.take_append_of_le_length (by rw [List.length_append, h1, hz1]; omega), List.take_of_length_le (by rw [List.length_append, h1, hz1]; omega)]
  ·have hgrow : c < zs.length + L ∨ (ao = none ∧ L = 0) := by
    by_cases hc : c < zs.length + L
    ·exact .inl hc
    ·right
     have hnone : ao = none := by
      cases ao with
      | none => rfl
      | some a => exact absurd ⟨by omega, by simp⟩ hroom
     have := hown.rd.nl hnone
     exact ⟨hnone, by omega⟩
   rcases hgrow with hc | ⟨rfl, rfl⟩
   ·have hge := grownCap_ge w (zs.length + L) c 67
    have hle := grownCap_le_maxLen w (zs.length + L) c 67 (by unfold maxLen; omega)
    refine ⟨_, _, _, app_grow w o.type L ao zs.length c (zs.map fun (x : Nat) => Value.int .u32 (x : Int)) ?_ (by simp) ?_ (by omega) (by omega) hc, ⟨hlb, by simp, .inr ⟨w.heap.size, _, _, by rw [hll], hBw, heap_alloc_new w.drew _, by omega, hle, ?_, ?_⟩⟩, ⟨rfl, rfl, rfl, by simp, fun k hk _ => heap_alloc_old w.drew _ (by simpa using hk)⟩⟩
    ·intro e
     rcases Nat.eq_zero_or_pos zs.length with h0 | hp
     ·exact h0
     ·have := hown.rd.ad hp
      rw [e] at this; simp at this
    ·intro b hb j v hj
     have hlt : j < zs.length := by have := (List.getElem?_eq_some_iff.1 hj).1; simpa using this
     rw [List.getElem?_map, lim_map_at hlt] at hj
     simp at hj
     subst hj
     have h0 := hown.rd.cell j hlt
     have h1 := hown.rd.ad (by omega)
     rw [hb] at h0 h1
     simp only [bk, of, Option.some.injEq] at h0 h1
     have h2 : b.add j = ⟨b.block, b.off + j, none⟩ := by
      unfold Addr.add
      split
      ·subst_vars; exact h1
      ·rfl
     rw [h2]; exact h0
    ·simp [size_zeroCells, cells32]
     omega
    ·rw [hll, Nat.mul_one]
     simp only [Array.toList_append, List.map_append]
     rw [List.take_append_of_le_length (by simp)]
     rw [List.take_of_length_le (by simp)]
   ·have hz := hown.rd.ad
    have e1 : zs = [] := by
     rcases Nat.eq_zero_or_pos zs.length with h0 | hp
     ·exact List.length_eq_zero_iff.1 h0
     ·have := hz hp; simp at this
    subst e1
    have ec := hown.rd.nl rfl
    subst ec
    obtain ⟨i0, hi, hz0, hz1, hz2⟩ := info_parts info32
    have w0 : IntKind.i64.wrap 0 = 0 := by decide
    refine ⟨none, 0, w, ?_, Own.nil _ _, World.grownBy.refl _ _⟩
    simp [Builtin.append_, run_underlying und, run_underlying undInt, sizeOf, typeInfo, hi, hz2, asInt, asIntOf, w0]
 obtain ⟨ao', c', w', hrun, hown', hg'⟩ := key
 refine wpList_plain hgd fun K hK => ?_
 unfold Oper.wp
 simp [execOp, ho, resolve, invoke, builtin, hs, hx, hrun, Result.andThen]
 refine hK _ _ (h ao' c' w' hown' (hext.grown hg' (fun k hk => by have := (hown.lt k hk).1; omega)) hg')
end Go.Proofs.YtekhnajfdaknnaaGreatDoor
end
section
namespace Go.Proofs.YtekhnajfdaknnaaGreatDoor
open Go.RowKit

theorem vd_div {xs : List Nat} (hx : Lb xs) (k : Nat) : val xs / pw k = vd xs k := by
 by_cases h : k ≤ xs.length
 ·have h1 := vk_split xs k h
  have h2 := vk_lt hx k
  rw [h1, Nat.add_mul_div_left _ _ (pw_pos k), Nat.div_eq_of_lt h2, Nat.zero_add]
  rfl
 ·rw [vd_end (by omega)]
  exact Nat.div_eq_of_lt (Nat.lt_of_lt_of_le (val_lt hx) (pw_le (by omega)))
theorem mod_step (Q k : Nat) : Q % pw (k + 1) = Q % pw k + pw k * (Q / pw k % 4294967296) := by
 rw [pw_succ, Nat.mul_comm 4294967296, Nat.mod_mul]
theorem right_limb {xs : List Nat} (hx : Lb xs) (r k : Nat) (hr : r < 32) : val xs / 2 ^ r / pw k % 4294967296 = (lim xs (k + 1) * 4294967296 + lim xs k) / 2 ^ r % 4294967296 := by
 rw [Nat.div_div_eq_div_mul, Nat.mul_comm, ← Nat.div_div_eq_div_mul, vd_div hx]
 have e : ∀ j, vd xs j = lim xs j + 4294967296 * vd xs (j + 1) := by
  intro j
  by_cases h : j < xs.length
  ·exact vd_step h
  ·rw [vd_end (by omega), vd_end (by omega), lim_of_le (by omega)]
 have h32 : (4294967296 : Nat) = 2 ^ r * 2 ^ (32 - r) := by
  rw [← Nat.pow_add]
  have : r + (32 - r) = 32 := by omega
  rw [this]
 have h1 : vd xs k = (lim xs (k + 1) * 4294967296 + lim xs k) + 2 ^ r * (2 ^ (32 - r) * 4294967296 * vd xs (k + 1 + 1)) := by
  rw [e k, e (k + 1), ← Nat.mul_assoc, ← Nat.mul_assoc (2 ^ r), ← h32, Nat.mul_add, ← Nat.mul_assoc]
  omega
 rw [h1, Nat.add_mul_div_left _ _ (Nat.two_pow_pos r)]
 rw [show 2 ^ (32 - r) * 4294967296 * vd xs (k + 1 + 1) = 4294967296 * (2 ^ (32 - r) * vd xs (k + 1 + 1)) by rw [Nat.mul_comm (2 ^ (32 - r)), Nat.mul_assoc], Nat.add_mul_mod_self_left]

theorem Own.capEq {w : World} {B : Nat} {ao : Option Addr} {c c' : Nat} {zs : List Nat} (h : Own w B ao c zs) (e : c = c') : Own w B ao c' zs := e ▸ h

def RightR (w : World) (xs : List Nat) (q r : Nat) (out i : Value) (wr : World) : Prop :=
  ∃ (j : Nat) (po : Option Addr) (pc : Nat) (zs : List Nat), q ≤ j ∧ j ≤ xs.length ∧ i = .int .i64 j ∧ out = .slice po zs.length pc ∧ Hid (q + zs.length = j) ∧ Own wr w.heap.size po pc zs ∧ Ext w wr ∧
    Hid (val zs = val (xs.drop q) / 2 ^ r % pw zs.length)

theorem right_val {xs : List Nat} (hx : Lb xs) {K q r : Nat} (hq : q = K / 32) (hr : r = K % 32) : val xs / 2 ^ K = val (xs.drop q) / 2 ^ r := by
 have h1 : val (xs.drop q) = val xs / pw q := (vd_div hx q).symm
 have h2 : 2 ^ K = pw q * 2 ^ r := by
  unfold pw
  rw [show (4294967296 : Nat) = 2 ^ 32 from rfl, ← Nat.pow_mul, ← Nat.pow_add]; congr 1; omega
 rw [h1, h2, Nat.div_div_eq_div_mul]

set_option maxRecDepth 100000 in
set_option maxHeartbeats 2000000 in
theorem Right_max (ao : Option Addr) (n c : Nat) (xs : List Nat) (E : Int) (K : Nat) (w : World) (hn : n = xs.length) (hE : max E 0 = (K : Int)) (hE2 : K < 9223372036854775808) (ha : Rd w ao c xs) (hl : xs.length ≤ 1000000) :
  Calls Tryz.prog 137 #[.slice ao n c, .int .i64 E] w (GotN w (val xs / 2 ^ K)) := by
 subst hn
 have hA := ha.trm
 have lA := trm_le xs
 have mA := hA.mx
 have cA := hA.cap
 rw [← val_trm xs]
 obtain ⟨q, hq⟩ : ∃ q, q = K / 32 := ⟨_, rfl⟩
 obtain ⟨r, hr⟩ : ∃ r, r = K % 32 := ⟨_, rfl⟩
 have hq1 : (K : Int) / 32 = (q : Int) := by omega
 have hr1 : (K : Int) % 32 = (r : Int) := by omega
 have hqb : q < 9223372036854775808 := by omega
 have hrb : r < 32 := by omega
 have hv := right_val hA.lb hq hr
 have Hv := Lib.hid hv
 have hK0 : ¬ (K : Int) < 0 := by omega
 clear hv hq hr
 by_cases hql : q < (trm xs).length
 ·go_enter Tryz.func137, Tryz.ntmps137
  go_wp2_with fail
  refine (trim_any ao _ c xs w rfl ha).mono ?_
  rintro e w' ⟨rfl, rfl⟩
  go_wp2_with (at_make; refine mk0 rfl _ _ rfl _ _ _ rfl rfl ?_ ?_ (Ext.refl w) ?_; omega; omega; intro w1 hown hext)
  go_loopw [7, 8] (RightR w (trm xs) q r) (fun _ i _ => ((trm xs).length - intOf i).toNat)
  case atStart => exact ⟨q, _, _, [], by omega, by omega, rfl, rfl, rfl, hown.capEq (by omega), hext, by unfold Hid; simp [val, pw, Nat.mod_one]⟩
  case round =>
   obtain ⟨j, po, pc, zs, hqj, hk, rfl, rfl, hzl, hown, hext, heq⟩ := hrel
   have hzb : zs.length ≤ 1100000 := by have := hzl.out; omega
   by_cases hkA : j < (trm xs).length
   ·have hx := (hA.ext hext).cell j hkA
    have hix := ixk hA (trm xs).length rfl j hkA wr
    have bx := lim_lt hA.lb j
    have bx2 := lim_lt hA.lb (j + 1)
    have hrl := right_limb (Lb_drop hA.lb q) r zs.length hrb
    rw [lim_drop, lim_drop, ← Nat.add_assoc, hzl.out] at hrl
    have hor := or_join (lim (trm xs) (j + 1)) (lim (trm xs) j) bx2 bx
    have hor0 := or_join 0 (lim (trm xs) j) (by omega) bx
    have hst : val (zs ++ [(lim (trm xs) (j + 1) * 4294967296 + lim (trm xs) j) / 2 ^ r % 4294967296]) = val ((trm xs).drop q) / 2 ^ r % pw (zs.length + 1) := by
     rw [val_snoc, mod_step, heq.out, hrl]
    have Hst := Lib.hid hst
    obtain ⟨H, hH⟩ : ∃ H, H = lim (trm xs) (j + 1) * 4294967296 + lim (trm xs) j := ⟨_, rfl⟩
    have hHb : H < 18446744073709551616 := by omega
    obtain ⟨G, hG⟩ : ∃ G, G = H / 2 ^ r := ⟨_, rfl⟩
    have hGb : G < 18446744073709551616 := by rw [hG]; exact Nat.lt_of_le_of_lt (Nat.div_le_self _ _) hHb
    have hG1 : (H : Int) / 2 ^ r = (G : Int) := by rw [hG, Int.natCast_ediv, Int.natCast_pow]; rfl
    rw [← hH] at hor Hst
    rw [← hG] at Hst
    clear hst hrl heq hG
    by_cases hkB : j + 1 < (trm xs).length
    ·have hx2 := (hA.ext hext).cell (j + 1) hkB
     have hix2 := ixe hA (trm xs).length rfl ((j : Int) + 1) (j + 1) (by omega) hkB wr
     clear hor0 hH
     go_wp2_with (at_builtin; refine push (wi := w) rfl _ _ rfl _ _ zs _ rfl rfl hown _ ?_ ?_ rfl ?_ rfl hext ?_; omega; omega; omega; intro ao' c' w2 hown2 hext2)
     go_roundw
     case rel => exact ⟨j + 1, ao', c', zs ++ [G % 4294967296], by omega, by omega, by go_num, by simp, by unfold Hid; have := hzl.out; simp; omega, hown2.snocEq (by omega), hext2, by unfold Hid; rw [List.length_append]; exact Hst.out⟩
     case measure => simp [intOf]; try omega
    ·have hl0 : lim (trm xs) (j + 1) = 0 := lim_of_le (by omega)
     rw [hl0] at hH
     have hH2 : H = lim (trm xs) j := by omega
     rw [← hH2] at hx bx
     clear hH hor hor0 hl0 hH2 bx2
     have hor1 : bits BinOp.or .u64 0 (H : Int) = (H : Int) := by have := or_join 0 H (by omega) bx; simpa using this
     go_wp2_with (at_builtin; refine push (wi := w) rfl _ _ rfl _ _ zs _ rfl rfl hown _ ?_ ?_ rfl ?_ rfl hext ?_; omega; omega; omega; intro ao' c' w2 hown2 hext2)
     go_roundw
     case rel => exact ⟨j + 1, ao', c', zs ++ [G % 4294967296], by omega, by omega, by go_num, by simp, by unfold Hid; have := hzl.out; simp; omega, hown2.snocEq (by omega), hext2, by unfold Hid; rw [List.length_append]; exact Hst.out⟩
     case measure => simp [intOf]; try omega
   ·have hv : val zs = val (trm xs) / 2 ^ K := by
     rw [heq.out, Hv.out]
     apply Nat.mod_eq_of_lt
     refine Nat.lt_of_le_of_lt (Nat.div_le_self _ _) (val_lt_pw (Lb_drop hA.lb q) ?_)
     have := hzl.out
     rw [List.length_drop]; omega
    have HV := Lib.hid hv
    clear hv heq
    go_wp2_with fail
    refine (Trim_got _ _ _ _ _ rfl hown.rd (by omega)).mono ?_
    intro e w' hg
    rw [HV.out] at hg
    obtain ⟨ao3, c3, zs3, rfl, h3⟩ := hg.from hext
    go_wp2_with fail
    go_ret
    exact ⟨ao3, c3, zs3, rfl, h3⟩
 ·have hv : val (trm xs) / 2 ^ K = 0 := by
   rw [Hv.out, List.drop_eq_nil_of_le (by omega)]; simp [val]
  rw [hv]
  clear hv
  go_enter Tryz.func137, Tryz.ntmps137
  go_wp2_with fail
  refine (trim_any ao _ c xs w rfl ha).mono ?_
  rintro e w' ⟨rfl, rfl⟩
  go_wp2_with fail
  go_ret
  exact ⟨none, 0, [], rfl, Own.nil _ _, canon_nil, rfl, Ext.refl _⟩
theorem Right_any (ao : Option Addr) (n c : Nat) (xs : List Nat) (E : Int) (K : Nat) (w : World) (hn : n = xs.length) (hE : E = (K : Int)) (hE2 : K < 9223372036854775808) (ha : Rd w ao c xs) (hl : xs.length ≤ 1000000) :
  Calls Tryz.prog 137 #[.slice ao n c, .int .i64 E] w (GotN w (val xs / 2 ^ K)) := Right_max ao n c xs E K w hn (by omega) hE2 ha hl
end Go.Proofs.YtekhnajfdaknnaaGreatDoor
end
section
namespace Go.Proofs.YtekhnajfdaknnaaGreatDoor
open Go.RowKit

theorem Own.at0 {w : World} {B : Nat} {ao : Option Addr} {c : Nat} {zs : List Nat} (h : Own w B ao c zs) (hp : 0 < zs.length) : ∃ g, ao = some ⟨g, 0, none⟩ ∧ B ≤ g ∧ g < w.heap.size := by
 obtain ⟨h1, h2, h3, h4⟩ := h.blk hp
 exact ⟨_, h4, h1, h2⟩
theorem ownB_ne {g h n c : Nat} (hne : h ≠ g) : (Value.slice (some ⟨h, 0, none⟩) n c).ownBlock ≠ some g := by simpa [Value.ownBlock] using hne

theorem norm_len {ds ys : List Nat} {n i1 x : Nat} (hy : Lb ys) (hn : n = ys.length) (h1 : i1 + 1 = n) (hx : x = lim ys i1) (h0 : x ≠ 0) (hd : Canon ds) (hv : val ds = val ys * 2 ^ (32 - bl x)) :
  ds.length = n ∧ 2147483648 ≤ lim ds i1 := by
 subst h1
 have bx : x < 4294967296 := by rw [hx]; exact lim_lt hy _
 obtain ⟨b1, b2, b3, b4⟩ := bl_spec h0 bx
 have eY : vk ys (i1 + 1) = val ys := by rw [hn]; exact vk_full (Nat.le_refl _)
 rw [vk_succ, ← hx] at eY
 have hl := vk_lt hy i1
 obtain ⟨s, hs⟩ : ∃ s, s = 32 - bl x := ⟨_, rfl⟩
 rw [← hs] at hv
 have e31 : 2 ^ (bl x - 1) * 2 ^ s = 2147483648 := by rw [← Nat.pow_add, show bl x - 1 + s = 31 by omega]
 have e32 : 2 ^ bl x * 2 ^ s = 4294967296 := by rw [← Nat.pow_add, show bl x + s = 32 by omega]
 have lo : 2147483648 * pw i1 ≤ val ds := by
  rw [hv, ← e31, Nat.mul_right_comm]
  refine Nat.mul_le_mul_right _ ?_
  have := Nat.mul_le_mul_left (pw i1) b3
  rw [Nat.mul_comm]
  omega
 have hi : val ds < pw (i1 + 1) := by
  rw [pw_succ, hv, ← e32, Nat.mul_right_comm]
  refine Nat.mul_lt_mul_of_pos_right ?_ (Nat.two_pow_pos s)
  have := Nat.mul_le_mul_left (pw i1) (Nat.succ_le_of_lt b4)
  rw [Nat.mul_succ] at this
  rw [Nat.mul_comm (2 ^ bl x)]
  omega
 have hlen : ds.length = i1 + 1 := by
  have h1 := canon_len hd hi
  rcases Nat.lt_or_ge ds.length (i1 + 1) with h | h
  ·have h2 := val_lt_pw hd.1 (show ds.length ≤ i1 by omega)
   have := pw_pos i1
   omega
  ·omega
 refine ⟨hlen, ?_⟩
 have eD : vk ds (i1 + 1) = val ds := vk_full (by omega)
 rw [vk_succ] at eD
 have hl2 := vk_lt hd.1 i1
 rcases Nat.lt_or_ge (lim ds i1) 2147483648 with h | h
 ·have := Nat.mul_le_mul_left (pw i1) (Nat.succ_le_of_lt h)
  rw [Nat.mul_succ] at this
  rw [Nat.mul_comm] at lo
  omega
 ·exact h

def LongR (w1 w3 : World) (g uc gq qc N U : Nat) (ds : List Nat) (k : Value) (wr : World) : Prop :=
  ∃ (j : Nat) (zs qs : List Nat), k = .int .i64 ((j : Int) - 1) ∧ j + ds.length ≤ N ∧ Hid (zs.length = N) ∧ Hid (qs.length + ds.length = N) ∧ Own wr w1.heap.size (some ⟨g, 0, none⟩) uc zs ∧ Own wr w3.heap.size (some ⟨gq, 0, none⟩) qc qs ∧ Ext w1 wr ∧
    Hid (val zs + val ds * val qs = U) ∧ Hid (val zs < val ds * pw j) ∧ Hid (∀ t, t < j → lim qs t = 0)

def Got2 (w : World) (p r : Nat) (e : Ending) (w' : World) : Prop :=
  ∃ ao c xs bo d ys, e = .returned (.tuple #[.slice ao xs.length c, .slice bo ys.length d]) ∧ Own w' w.heap.size ao c xs ∧ Canon xs ∧ val xs = p ∧ Own w' w.heap.size bo d ys ∧ Canon ys ∧ val ys = r ∧ Ext w w'

theorem quot_step {zs z1 qs : List Nat} {k g D U : Nat} (hq : lim qs k = 0) (hk : k < qs.length) (hv : val z1 + pw k * (g * D) = val zs) (hu : val zs + D * val qs = U) : Hid (val z1 + D * val (qs.set k g) = U) := by
 unfold Hid
 have h1 := val_set (y := g) hk
 rw [hq, Nat.mul_zero, Nat.add_zero] at h1
 rw [h1, Nat.mul_add, ← hu, ← hv]
 have : D * (pw k * g) = pw k * (g * D) := by rw [Nat.mul_left_comm, Nat.mul_comm D]
 omega
theorem quot_end {z q X Y P : Nat} (hP : 0 < P) (hv : z + (Y * P) * q = X * P) (hz : z < Y * P) : q = X / Y ∧ z / P = X % Y := by
 have hYP : 0 < Y * P := by omega
 have h1 : X * P / (Y * P) = q := by rw [← hv, Nat.add_mul_div_left _ _ hYP, Nat.div_eq_of_lt hz, Nat.zero_add]
 have h2 : X * P % (Y * P) = z := by rw [← hv, Nat.add_mul_mod_self_left, Nat.mod_eq_of_lt hz]
 rw [Nat.mul_div_mul_right _ _ hP] at h1
 rw [Nat.mul_mod_mul_right] at h2
 exact ⟨h1.symm, by rw [← h2, Nat.mul_div_cancel _ hP]⟩
set_option maxRecDepth 100000 in
set_option maxHeartbeats 4000000 in
theorem long_any (ao : Option Addr) (n c : Nat) (xs : List Nat) (bo : Option Addr) (m d : Nat) (ys : List Nat) (i1 : Nat) (w : World) (hn : n = xs.length) (hm : m = ys.length) (h1 : i1 + 1 = m) (h2 : 2 ≤ m) (hmn : m ≤ n)
  (ha : Rd w ao c xs) (hb : Rd w bo d ys) (h0 : lim ys i1 ≠ 0) (hl : n ≤ 900000) :
  Calls Tryz.prog 119 #[.slice ao n c, .slice bo m d] w (Got2 w (val xs / val ys) (val xs % val ys)) := by
 have mA := ha.mx
 have cA := ha.cap
 have mB := hb.mx
 have cB := hb.cap
 have xb := ixe hb m hm ((m : Int) - 1) i1 (by omega) (by omega)
 have kb := hb.cell i1 (by omega)
 have bx := lim_lt hb.lb i1
 obtain ⟨x, hx⟩ : ∃ x, x = lim ys i1 := ⟨_, rfl⟩
 have hno := fun ds => norm_len (ds := ds) hb.lb hm h1 hx (by omega)
 rw [← hx] at h0 bx kb
 obtain ⟨b1, b2, b3, b4⟩ := bl_spec h0 bx
 clear b3 b4
 obtain ⟨s, hs⟩ : ∃ s, s = 32 - bl x := ⟨_, rfl⟩
 have hs1 : (32 : Int) - (bl x : Int) = (s : Int) := by omega
 have hs2 : s ≤ 31 := by omega
 rw [← hs] at hno
 have Hn := Lib.hid hn
 have Hm := Lib.hid hm
 have H1 := Lib.hid h1
 clear hs hx hn hm h1
 go_enter Tryz.func119, Tryz.ntmps119
 go_wp2_with fail
 refine (Lead32_any x bx _).mono ?_
 rintro e w' ⟨rfl, rfl⟩
 rw [hs1]
 clear hs1
 go_wp2_with fail
 refine (Left_any bo _ d ys _ s _ Hm.out rfl hb (by have := Hm.out; omega) (by omega)).mono ?_
 rintro e w1 ⟨dao, dc, ds, rfl, od, cd, vd1, ed⟩
 obtain ⟨dl, df⟩ := hno ds cd vd1
 have Dl := Lib.hid dl
 have dle : ds.length ≤ n := by omega
 have dge : 2 ≤ ds.length := by omega
 have Vd := Lib.hid vd1
 clear dl vd1 hno
 go_wp2_with fail
 refine (Left_any ao _ c xs _ s _ Hn.out rfl (ha.ext ed) (by have := Hn.out; omega) (by omega)).mono ?_
 rintro e w2 ⟨mao, mc, ms, rfl, om, cm, vm, em⟩
 have lm : ms.length ≤ n + 1 := by
  refine canon_len cm ?_
  rw [vm, pw_succ, Nat.mul_comm]
  have h3 := val_lt_pw ha.lb (show xs.length ≤ n by have := Hn.out; omega)
  have h4 : 2 ^ s ≤ 2 ^ 31 := Nat.pow_le_pow_right (by omega) hs2
  exact Nat.mul_lt_mul_of_le_of_lt (by omega) h3 (by omega)
 have Vm := Lib.hid vm
 clear vm
 go_wp2_with (first
  | (at_builtin; refine pushZ (wi := w1) rfl _ _ rfl _ _ ms _ rfl rfl om _ rfl ?_ ?_ (Nat.le_refl _) em em.size ?_; omega; omega; intro uao uc w3 ou eu gu)
  | (at_make; refine mkf (wi := w1) rfl _ _ rfl _ _ _ rfl rfl ?_ ?_ eu ?_; omega; omega; intro w4 oq eq e14))
 obtain ⟨us, hus⟩ : ∃ us, us = ms ++ List.replicate (((n : Int) + 1 - (ms.length : Int))).toNat 0 := ⟨_, rfl⟩
 have lus : us.length = n + 1 := by rw [hus, List.length_append, List.length_replicate]; omega
 have vus : val us = val xs * 2 ^ s := by rw [hus, val_append, val_replicate_zero, Vm.out]; simp
 rw [← hus] at ou
 obtain ⟨g, rfl, g1, g2⟩ := ou.at0 (by omega)
 have U0 : val us < val ds * pw (n + 1 - ds.length) := by
  have Dl' := Dl.out
  have h3 := val_lt_pw ha.lb (show xs.length ≤ n by have := Hn.out; omega)
  have h4 : 2 ^ s ≤ 2 ^ 31 := Nat.pow_le_pow_right (by omega) hs2
  have h5 : 2147483648 * pw i1 ≤ val ds := by
   have h6 : vk ds (i1 + 1) = val ds := vk_full (by have := H1.out; omega)
   rw [vk_succ] at h6
   have := Nat.mul_le_mul_left (pw i1) df
   rw [Nat.mul_comm]
   omega
  have h7 : pw n = pw i1 * pw (n + 1 - ds.length) := by rw [← pw_add]; congr 1; have := H1.out; omega
  have h8 := Nat.mul_le_mul_right (pw (n + 1 - ds.length)) h5
  rw [Nat.mul_assoc, ← h7] at h8
  rw [vus]
  have h9 : val xs * 2 ^ s < pw n * 2 ^ 31 := Nat.mul_lt_mul_of_lt_of_le h3 h4 (by omega)
  omega
 have Vus := Lib.hid vus
 have Lus := Lib.hid lus
 have HU0 := Lib.hid U0
 clear vus U0 lus hus
 go_loopw [13] (LongR w1 w3 g uc w3.heap.size (n + 1 - ds.length) (n + 1) (val xs * 2 ^ s) ds) (fun k _ => (intOf k + 1).toNat)
 case atStart => exact ⟨n + 1 - ds.length, us, List.replicate (((n : Int) + 1 - (ds.length : Int))).toNat 0, by go_num, by omega, Lus, by unfold Hid; rw [List.length_replicate]; omega, ou.ext eq, oq.capEq (by omega), e14, by unfold Hid; rw [val_replicate_zero, Vus.out]; simp, HU0, fun t _ => lim_replicate_zero _ t⟩
 case round =>
  obtain ⟨j, zs, qs, rfl, hj, hzl, hql, oz, oq, e1r, hv, hlt, hq0⟩ := hrel
  rcases j with _ | k
  ·have zl := hzl.out
   have czl := oz.rd.cap
   have hv0 := hv.out
   rw [Vd.out] at hv0
   have hz0 : val zs < val ys * 2 ^ s := by have := hlt.out; rw [pw_zero, Nat.mul_one, Vd.out] at this; exact this
   obtain ⟨r1, r2⟩ := quot_end (Nat.two_pow_pos s) hv0 hz0
   have hzt : val (zs.take ds.length) = val zs := vk_of_lt (Nat.lt_trans hz0 (by rw [← Vd.out]; exact val_lt cd.1))
   have oT := oz.rd.take ds.length (by omega) uc (by rw [List.length_take]; omega) (Nat.le_refl _)
   have lT : ds.length = (zs.take ds.length).length := by rw [List.length_take]; omega
   have R1 := Lib.hid r1
   have R2 := Lib.hid r2
   have Hzt := Lib.hid hzt
   have LT := Lib.hid lT
   have hb1 : (ds.length : Int) ≤ (uc : Int) := by omega
   have hb2 : ds.length ≤ uc := by omega
   have hqb : qs.length ≤ 1000000 := by have := hql.out; omega
   clear zl czl hv0 hz0 r1 r2 hzt lT hv hlt
   go_wp2_with fail
   go_region_with (first
    | (go_at_call 114; refine (Trim_got _ _ _ qs _ (by have := hql.out; omega) ?_ (by omega)).mono ?_; (first | exact oq.rd.ext (Ext.refl _) | exact oq.rd.ext (Ext.refl _).drew); rintro e wa ⟨qo, qc, qz, rfl, p1, p2, p3, p4⟩; replace p3 := Lib.hid p3)
    | (go_at_call 137; refine (Right_any _ _ _ (zs.take ds.length) _ s _ LT.out rfl (by omega) ?_ (by rw [List.length_take]; omega)).mono ?_; (first | exact oT.ext p4 | exact (oT.ext (Ext.refl _).drew).ext p4); rintro e wb ⟨ro, rc, rz, rfl, t1, t2, t3, t4⟩; replace t3 := Lib.hid t3))
   all_goals
    go_wp2_with fail
    go_ret2
    have ew := ed.trans e1r
    have hw0 : w.heap.size ≤ wr.heap.size := ew.size
    have hw1 := p4.size
    refine ⟨qo, qc, qz, ro, rc, rz, rfl, (p1.ext t4).mono hw0, p2, by rw [p3.out]; exact R1.out, t1.mono (Nat.le_trans hw0 hw1), t2, by rw [t3.out, Hzt.out]; exact R2.out, ?_⟩
    first
    | exact (ew.trans p4).trans t4
    | exact (ew.drew.trans p4).trans t4
    | exact ((ew.trans p4).drew).trans t4
  ·have cz := oz.rd.cap
   have zl := hzl.out
   have ql := hql.out
   have hkc : ¬ uc = k := by omega
   have hkl : k + 1 + ds.length ≤ n + 1 := hj
   have hT : val (zs.drop k) < val ds * 4294967296 := by
    have h3 := vk_split zs k (by omega)
    have h4 := hlt.out
    rw [pw_succ, Nat.mul_left_comm, ← Nat.mul_assoc, Nat.mul_comm] at h4
    rw [Nat.mul_comm 4294967296] at h4
    exact Nat.lt_of_mul_lt_mul_left (a := pw k) (by omega)
   have htl := top_le (i1 := i1) cd.1 rfl (by have := Dl.out; have := H1.out; omega) hT
   have czl : n + 1 ≤ uc := by omega
   have zl2 : zs.length = (n + 1) := zl
   clear zl cz ql zl2
   have HT := Lib.hid hT
   have Htl := Lib.hid htl
   have hdm : ds.length = m := Dl.out
   have hi1 : i1 + 1 = m := H1.out
   obtain ⟨i2, hi2⟩ : ∃ i2, i2 + 2 = ds.length := ⟨ds.length - 2, by omega⟩
   have Hi1 := Lib.hid (show i1 + 1 = ds.length by omega)
   have Hi2 := Lib.hid hi2
   clear hT htl hi2 hi1 hdm
   have od' := od.rd.ext e1r
   have dne : 0 < ds.length → bk dao ≠ g := fun h => by have := (od.blk h).2.1; omega
   have o5 := oz.rd.drop k (by have := hzl.out; omega)
   rw [Nat.zero_add] at o5
   go_wp2_with fail
   refine (guessed_any _ _ _ (zs.drop k) _ _ _ ds i1 i2 _ (by rw [List.length_drop, hzl.out]) rfl Hi1.out Hi2.out (by omega) o5 od' df Htl.out).mono ?_
   rintro e w5 ⟨gg, rfl, gs, qt5⟩
   have gf := guess_fits (Lb_drop oz.lb k) cd.1 rfl Hi1.out Hi2.out df HT.out gs
   have gb := gs.1
   have Gf := Lib.hid gf
   clear gs gf
   have oz5 := oz.ext qt5.ext
   have oq5 := oq.ext qt5.ext
   have e15 := e1r.trans qt5.ext
   go_wp2_with fail
   refine (takeAway_any _ g uc zs k _ _ _ _ _ ds gg _ rfl ?_ ?_ oz5 (od'.ext qt5.ext) dne gb ?_).mono ?_
   ·omega
   ·have := hzl.out; omega
   ·omega
   rintro e w6 ⟨b, z1, rfl, hl1, oz6, gr6, v1, t1⟩
   have oq6 := oq5.kept gr6 (ownB_ne (by omega))
   have e16 := e15.grown gr6 (fun k hk => by cases hk; exact g1)
   have zl := hzl.out
   rcases b with _ | _
   ·have hlt1 := took oz5.lb (by omega) hlt.out Gf.out (by simpa using v1)
    have V1 := Lib.hid (show val z1 + pw k * (gg * val ds) = val zs by simpa using v1)
    have Hlt1 := Lib.hid hlt1
    have Hl1 := Lib.hid hl1
    clear v1 hlt1 hl1 zl t1
    have xq := ixe oq6.rd (n + 1 - ds.length) (by have := hql.out; omega) (k : Int) k rfl (by omega)
    have kq := oq6.rd.cell k (by have := hql.out; omega)
    have fq := oq6.frozen (by have := hql.out; omega) k
    have hq1 := oq6.store k (by have := hql.out; omega) (gg : Int) gg rfl gb
    go_wp2_with fail
    go_roundw
    case rel => exact ⟨k, z1, qs.set k gg, by go_num, by omega, by unfold Hid; rw [Hl1.out]; exact hzl.out, by unfold Hid; rw [List.length_set]; exact hql.out, oz6.kept hq1.2 (ownB_ne (by simp only [bk]; omega)), hq1.1, e16.grown hq1.2 (fun k hk => by cases hk; simp only [bk]; omega), quot_step (hq0.out k (by omega)) (by have := hql.out; omega) V1.out hv.out, Hlt1, fun t ht => by rw [lim_set_ne (by omega)]; exact hq0.out t (by omega)⟩
    case measure => simp [intOf]; try omega
   ·have tz := take_zero oz5.lb oz6.lb (by omega) cd.1 hlt.out Gf.out t1 (by simpa using v1)
    obtain ⟨tz1, tz2, tz3, tz4⟩ := tz
    have V1 := Lib.hid (show val z1 + pw k * (gg * val ds) = val zs + pw (k + (ds.length + 1)) by simpa using v1)
    have Tz4 := Lib.hid tz4
    have Tz3 := Lib.hid tz3
    have Tz1 := Lib.hid tz1
    have Hl1 := Lib.hid hl1
    have T1 := Lib.hid t1
    clear v1 tz1 tz3 tz4 hl1 zl t1
    go_wp2_with fail
    refine (putBack_any _ g uc z1 k _ _ _ _ _ ds _ rfl ?_ ?_ oz6 ((od'.ext qt5.ext).kept gr6 dne) dne ?_).mono ?_
    ·omega
    ·have := hzl.out; have := Hl1.out; omega
    ·omega
    rintro e w7 ⟨y, z2, rfl, hy1, hl2, oz7, gr7, v2, t2⟩
    have oq7 := oq6.kept gr7 (ownB_ne (by omega))
    have e17 := e16.grown gr7 (fun k hk => by cases hk; exact g1)
    have h7 : val z2 < pw (k + (ds.length + 1)) := lt_of_lims oz7.lb (fun t ht => by rw [t2 t (by omega)]; exact lim_zero_of_lt Tz1.out ht)
    have V2 := Lib.hid (put_val hy1 tz2 V1.out Tz4.out h7 v2)
    have Hlt2 := Lib.hid (took oz5.lb (by have := hzl.out; omega) hlt.out ⟨Nat.le_of_eq Tz3.out.symm, by rw [Tz3.out]; exact Nat.le_succ _⟩ V2.out)
    have Hl2 := Lib.hid hl2
    clear v2 t2 h7 hl2
    have gb1 : gg - 1 < 4294967296 := by omega
    have xq := ixe oq7.rd (n + 1 - ds.length) (by have := hql.out; omega) (k : Int) k rfl (by omega)
    have kq := oq7.rd.cell k (by have := hql.out; omega)
    have fq := oq7.frozen (by have := hql.out; omega) k
    have hq1 := oq7.store k (by have := hql.out; omega) ((gg : Int) - 1) (gg - 1) (by omega) gb1
    go_wp2_with fail
    go_roundw
    case rel => exact ⟨k, z2, qs.set k (gg - 1), by go_num, by omega, by unfold Hid; rw [Hl2.out, Hl1.out]; exact hzl.out, by unfold Hid; rw [List.length_set]; exact hql.out, oz7.kept hq1.2 (ownB_ne (by simp only [bk]; omega)), hq1.1, e17.grown hq1.2 (fun k hk => by cases hk; simp only [bk]; omega), quot_step (hq0.out k (by omega)) (by have := hql.out; omega) V2.out hv.out, Hlt2, fun t ht => by rw [lim_set_ne (by omega)]; exact hq0.out t (by omega)⟩
    case measure => simp [intOf]; try omega
end Go.Proofs.YtekhnajfdaknnaaGreatDoor
end
section
namespace Go.Proofs.YtekhnajfdaknnaaGreatDoor
open Go.RowKit

def GotD (w : World) (p r : Nat) (er : Int) (e : Ending) (w' : World) : Prop :=
  ∃ ao c xs bo d ys, e = .returned (.tuple #[.slice ao xs.length c, .slice bo ys.length d, .int .i64 er]) ∧ Own w' w.heap.size ao c xs ∧ Canon xs ∧ val xs = p ∧ Own w' w.heap.size bo d ys ∧ Canon ys ∧ val ys = r ∧ Ext w w'

set_option maxRecDepth 100000 in
set_option maxHeartbeats 2000000 in
theorem Div_any (ao : Option Addr) (n c : Nat) (xs : List Nat) (bo : Option Addr) (m d : Nat) (ys : List Nat) (w : World) (hn : n = xs.length) (hm : m = ys.length)
  (ha : Rd w ao c xs) (hb : Rd w bo d ys) (hl : xs.length ≤ 900000) :
  Calls Tryz.prog 97 #[.slice ao n c, .slice bo m d] w (if val ys = 0 then GotD w 0 0 10 else GotD w (val xs / val ys) (val xs % val ys) 0) := by
 subst hn hm
 have hA := ha.trm
 have hB := hb.trm
 have kA := canon_trm ha.lb
 have kB := canon_trm hb.lb
 have lA := trm_le xs
 have cA := hA.cap
 have cB := hB.cap
 have mA := hA.mx
 have mB := hB.mx
 rw [← val_trm xs, ← val_trm ys]
 by_cases h0 : (trm ys).length = 0
 ·have e0 : trm ys = [] := List.length_eq_zero_iff.1 h0
  have hv : val (trm ys) = 0 := by rw [e0]; rfl
  rw [if_pos hv]
  clear hv
  go_enter Tryz.func97, Tryz.ntmps97
  go_wp2_with fail
  refine (trim_any ao _ c xs w rfl ha).mono ?_
  rintro e w' ⟨rfl, rfl⟩
  go_wp2_with fail
  refine (trim_any bo _ d ys w rfl hb).mono ?_
  rintro e w' ⟨rfl, rfl⟩
  rw [e0]
  clear e0 h0
  go_wp2_with fail
  go_ret3
  exact ⟨none, 0, [], none, 0, [], rfl, Own.nil _ _, canon_nil, rfl, Own.nil _ _, canon_nil, rfl, Ext.refl _⟩
 ·have hv : val (trm ys) ≠ 0 := fun e => h0 (by rw [canon_zero kB e]; rfl)
  rw [if_neg hv]
  have hb0 : ((((trm ys).length : Nat) : Int) == 0) = false := beq_eq_false_iff_ne.2 (by omega)
  by_cases hlt : val (trm xs) < val (trm ys)
  ·have hc := cmpI_lt hlt
   have r1 : val (trm xs) / val (trm ys) = 0 := Nat.div_eq_of_lt hlt
   have r2 : val (trm xs) % val (trm ys) = val (trm xs) := Nat.mod_eq_of_lt hlt
   rw [r1, r2]
   clear r1 r2 hlt
   go_enter Tryz.func97, Tryz.ntmps97
   go_wp2_with fail
   refine (trim_any ao _ c xs w rfl ha).mono ?_
   rintro e w' ⟨rfl, rfl⟩
   go_wp2_with fail
   refine (trim_any bo _ d ys w rfl hb).mono ?_
   rintro e w' ⟨rfl, rfl⟩
   go_wp2_with fail
   refine (Cmp_any _ _ _ (trm xs) _ _ _ (trm ys) _ rfl rfl hA hB).mono ?_
   rintro e w1 ⟨rfl, q1⟩
   rw [hc]
   clear hc
   go_wp2_with fail
   refine (Trim_got _ _ _ (trm xs) _ rfl (hA.ext q1.ext) (by omega)).mono ?_
   intro e w2 hg
   obtain ⟨ro, rc, rz, rfl, p1, p2, p3, p4⟩ := hg.from q1.ext
   go_wp2_with fail
   go_ret3
   exact ⟨none, 0, [], ro, rc, rz, rfl, Own.nil _ _, canon_nil, rfl, p1, p2, p3, p4⟩
  ·have hc : decide (cmpI (val (trm xs)) (val (trm ys)) < 0) = false := by
    unfold cmpI
    rw [if_neg hlt]
    split <;> decide
   by_cases h1 : (trm ys).length = 1
   ·have hb1 : ((((trm ys).length : Nat) : Int) == 1) = true := by simp; omega
    have hx0 := ixe hB (trm ys).length rfl 0 0 rfl (by omega)
    simp only [Nat.add_zero] at hx0
    have k0 := fun wr (q : Qt w wr) => (hB.ext q.ext).cell 0 (by omega)
    have b0 := lim_lt kB.1 0
    have ey : val (trm ys) = lim (trm ys) 0 := by
     rw [← vk_full (zs := trm ys) (k := 1) (by omega), vk_succ, vk_zero, pw_zero]; omega
    have Ey := Lib.hid ey
    have b1 : lim (trm ys) 0 ≠ 0 := by rw [← ey]; exact hv
    clear ey hv hlt h1 h0
    go_enter Tryz.func97, Tryz.ntmps97
    go_wp2_with fail
    refine (trim_any ao _ c xs w rfl ha).mono ?_
    rintro e w' ⟨rfl, rfl⟩
    go_wp2_with fail
    refine (trim_any bo _ d ys w rfl hb).mono ?_
    rintro e w' ⟨rfl, rfl⟩
    go_wp2_with fail
    refine (Cmp_any _ _ _ (trm xs) _ _ _ (trm ys) _ rfl rfl hA hB).mono ?_
    rintro e w1 ⟨rfl, q1⟩
    have k1 := k0 w1 q1
    simp only [Nat.add_zero] at k1
    go_wp2_with fail
    refine (byLimb_any _ _ _ (trm xs) _ (lim (trm ys) 0) _ rfl rfl (hA.ext q1.ext) (by omega) (by omega) b0).mono ?_
    rintro e w2 ⟨qo, qc, qz, rfl, p1, p2, p3, p4⟩
    have P3 := Lib.hid p3
    clear p3
    obtain ⟨M, hM⟩ : ∃ M, M = val (trm xs) % lim (trm ys) 0 := ⟨_, rfl⟩
    have bM : M < 4294967296 := by rw [hM]; exact Nat.lt_trans (Nat.mod_lt _ (by omega)) b0
    rw [← hM]
    have HM := Lib.hid hM
    clear hM
    go_wp2_with fail
    refine (Of_any (M : Int) (by omega) (by omega) _).mono ?_
    intro e w3 hg
    obtain ⟨ro, rc, rz, rfl, t1, t2, t3, t4⟩ := hg
    go_wp2_with fail
    go_ret3
    have e2 := q1.ext.trans p4
    exact ⟨qo, qc, qz, ro, rc, rz, rfl, (p1.ext t4).mono q1.ext.size, p2, by rw [P3.out, Ey.out], t1.mono e2.size, t2, by rw [t3, Int.toNat_natCast, HM.out, Ey.out], e2.trans t4⟩
   ·have hb1 : ((((trm ys).length : Nat) : Int) == 1) = false := beq_eq_false_iff_ne.2 (by omega)
    obtain ⟨i1, hi1⟩ : ∃ i1, i1 + 1 = (trm ys).length := ⟨(trm ys).length - 1, by omega⟩
    have hlen : (trm ys).length ≤ (trm xs).length := by
     rcases Nat.lt_or_ge (trm xs).length (trm ys).length with h | h
     ·exact absurd (canon_len_lt kA.1 kB h) hlt
     ·exact h
    have hlast : lim (trm ys) i1 ≠ 0 := by
     have := kB.2 (by omega)
     rwa [show (trm ys).length - 1 = i1 by omega] at this
    have Hi1 := Lib.hid hi1
    have hge : 2 ≤ (trm ys).length := by omega
    clear hi1 hv hlt h1 h0
    go_enter Tryz.func97, Tryz.ntmps97
    go_wp2_with fail
    refine (trim_any ao _ c xs w rfl ha).mono ?_
    rintro e w' ⟨rfl, rfl⟩
    go_wp2_with fail
    refine (trim_any bo _ d ys w rfl hb).mono ?_
    rintro e w' ⟨rfl, rfl⟩
    go_wp2_with fail
    refine (Cmp_any _ _ _ (trm xs) _ _ _ (trm ys) _ rfl rfl hA hB).mono ?_
    rintro e w1 ⟨rfl, q1⟩
    go_wp2_with fail
    refine (long_any _ _ _ (trm xs) _ _ _ (trm ys) i1 _ rfl rfl Hi1.out hge hlen (hA.ext q1.ext) (hB.ext q1.ext) hlast (by omega)).mono ?_
    rintro e w2 ⟨qo, qc, qz, ro, rc, rz, rfl, p1, p2, p3, p4, p5, p6, p7⟩
    go_wp2_with fail
    go_ret3
    exact ⟨qo, qc, qz, ro, rc, rz, rfl, p1.mono q1.ext.size, p2, p3, p4.mono q1.ext.size, p5, p6, q1.ext.trans p7⟩
end Go.Proofs.YtekhnajfdaknnaaGreatDoor
end
section
namespace Go.Proofs.YtekhnajfdaknnaaGreatDoor
open Go.RowKit

def GcdR (w : World) (G L : Nat) (k : Nat) (a b : Value) (wr : World) : Prop :=
  ∃ (ao : Option Addr) (c : Nat) (xs : List Nat) (bo : Option Addr) (d : Nat) (ys : List Nat), a = .slice ao xs.length c ∧ b = .slice bo ys.length d ∧ Own wr w.heap.size ao c xs ∧ Own wr w.heap.size bo d ys ∧ Canon xs ∧ Canon ys ∧ xs.length ≤ L ∧ ys.length ≤ L ∧ Ext w wr ∧
    Hid (Nat.gcd (val xs) (val ys) = G) ∧ Hid (k = val ys)

set_option maxRecDepth 100000 in
set_option maxHeartbeats 2000000 in
theorem Gcd_any (ao : Option Addr) (n c : Nat) (xs : List Nat) (bo : Option Addr) (m d : Nat) (ys : List Nat) (L : Nat) (w : World) (hn : n = xs.length) (hm : m = ys.length)
  (ha : Rd w ao c xs) (hb : Rd w bo d ys) (hl1 : xs.length ≤ L) (hl2 : ys.length ≤ L) (hL : L ≤ 900000) :
  Calls Tryz.prog 102 #[.slice ao n c, .slice bo m d] w (GotN w (Nat.gcd (val xs) (val ys))) := by
 subst hn hm
 go_enter Tryz.func102, Tryz.ntmps102
 go_wp2_with fail
 refine (Trim_got _ _ _ xs _ rfl ha (by omega)).mono ?_
 rintro e w1 ⟨xo, xc, xz, rfl, p1, p2, p3, p4⟩
 replace p3 := Lib.hid p3
 go_wp2_with fail
 refine (Trim_got _ _ _ ys _ rfl (hb.ext p4) (by omega)).mono ?_
 rintro e w2 ⟨yo, yc, yz, rfl, q1, q2, q3, q4⟩
 replace q3 := Lib.hid q3
 have lx : xz.length ≤ L := canon_len p2 (by rw [p3.out]; exact val_lt_pw ha.lb hl1)
 have ly : yz.length ≤ L := canon_len q2 (by rw [q3.out]; exact val_lt_pw hb.lb hl2)
 go_wp2_with fail
 go_loopg [0, 1] (val yz) (GcdR w (Nat.gcd (val xs) (val ys)) L)
 case atStart => exact ⟨xo, xc, xz, yo, yc, yz, rfl, rfl, p1.ext q4, q1.mono p4.size, p2, q2, lx, ly, p4.trans q4, by unfold Hid; rw [p3.out, q3.out], rfl⟩
 case round =>
  obtain ⟨ao, c, us, bo, d, bs, rfl, rfl, oa, ob, ca, cb, la, lb, hext, hg, hk⟩ := hrel
  rcases Nat.eq_zero_or_pos bs.length with h0 | hp
  ·have e0 : bs = [] := List.length_eq_zero_iff.1 h0
   subst e0
   clear h0
   have hv : val us = Nat.gcd (val xs) (val ys) := by have := hg.out; rwa [show val [] = 0 from rfl, Nat.gcd_zero_right] at this
   go_wp2_with fail
   go_ret
   exact ⟨ao, c, us, rfl, oa, ca, hv, hext⟩
  ·have hne : val bs ≠ 0 := fun e => by rw [canon_zero cb e] at hp; exact absurd hp (by decide)
   have hp1 : (0 : Int) < (bs.length : Int) := by omega
   have hp2 : decide (0 < bs.length) = true := by simpa using hp
   go_wp2_with fail
   refine (Div_any _ _ _ us _ _ _ bs _ rfl rfl oa.rd ob.rd (by omega)).mono ?_
   intro e w3 hgot
   rw [if_neg hne] at hgot
   obtain ⟨qo, qc, qz, ro, rc, rz, rfl, t1, t2, t3, t4, t5, t6, t7⟩ := hgot
   have hlt : val rz < val bs := by rw [t6]; exact Nat.mod_lt _ (by omega)
   have lr : rz.length ≤ L := canon_len t5 (Nat.lt_trans hlt (val_lt_pw cb.1 lb))
   have hg2 : Nat.gcd (val bs) (val rz) = Nat.gcd (val xs) (val ys) := by
    rw [t6, ← hg.out, Nat.gcd_comm (val us), Nat.gcd_rec (val bs) (val us), Nat.gcd_comm]
   have Hg2 := Lib.hid hg2
   have Hlt := Lib.hid hlt
   clear t3 t6 hg2 hlt hne
   go_wp2_with fail
   go_roundg (val rz)
   case rel => exact ⟨bo, d, bs, ro, rc, rz, rfl, rfl, ob.ext t7, t4.mono hext.size, cb, t5, lb, lr, hext.trans t7, Hg2, rfl⟩
   case measure => have h1 := hk.out; have h2 := Hlt.out; omega

theorem Div_pos (ao : Option Addr) (n c : Nat) (xs : List Nat) (bo : Option Addr) (m d : Nat) (ys : List Nat) (w : World) (hn : n = xs.length) (hm : m = ys.length)
  (ha : Rd w ao c xs) (hb : Rd w bo d ys) (hl : xs.length ≤ 900000) (hv : val ys ≠ 0) :
  Calls Tryz.prog 97 #[.slice ao n c, .slice bo m d] w (GotD w (val xs / val ys) (val xs % val ys) 0) := by
 have h := Div_any ao n c xs bo m d ys w hn hm ha hb hl
 rwa [if_neg hv] at h
end Go.Proofs.YtekhnajfdaknnaaGreatDoor
end
section
namespace Go.Proofs.YtekhnajfdaknnaaGreatDoor

end Go.Proofs.YtekhnajfdaknnaaGreatDoor
end
section
namespace Go.Proofs.YtekhnajfdaknnaaGreatDoor
open Go.RowKit

end Go.Proofs.YtekhnajfdaknnaaGreatDoor
end
section
namespace Go.Proofs.YtekhnajfdaknnaaGreatDoor
open Go.RowKit

end Go.Proofs.YtekhnajfdaknnaaGreatDoor
end
section
namespace Go.Proofs.YtekhnajfdaknnaaGreatDoor
open Go.RowKit

def GotDM (w : World) (p r : Nat) (L M : Nat) (er : Int) (e : Ending) (w' : World) : Prop :=
  ∃ ao c xs B bo d ys C, e = .returned (.tuple #[.slice ao xs.length c, .slice bo ys.length d, .int .i64 er]) ∧ w.heap.size ≤ B ∧ Own w' B ao c xs ∧ Hid (Canon xs) ∧ Hid (val xs = p) ∧ xs.length ≤ L ∧
    w.heap.size ≤ C ∧ Own w' C bo d ys ∧ Hid (Canon ys) ∧ Hid (val ys = r) ∧ ys.length ≤ M ∧ Ext w w'
theorem GotD.len {w : World} {p r L M : Nat} {er : Int} {e : Ending} {w' : World} (h : GotD w p r er e w') (hp : p < pw L) (hr : r < pw M) : GotDM w p r L M er e w' := by
 obtain ⟨ao, c, xs, bo, d, ys, he, h1, h2, h3, h4, h5, h6, h7⟩ := h
 exact ⟨ao, c, xs, _, bo, d, ys, _, he, Nat.le_refl _, h1, h2, h3, canon_short h2 h3 hp, Nat.le_refl _, h4, h5, h6, canon_short h5 h6 hr, h7⟩

section
variable (ao : Option Addr) (n c : Nat) (xs : List Nat) (bo : Option Addr) (m d : Nat) (ys : List Nat) (w : World)
theorem DivM (hn : n = xs.length) (hm : m = ys.length) (ha : Rd w ao c xs) (hb : Rd w bo d ys) (hl1 : xs.length ≤ 100000) (_hl2 : ys.length ≤ 100000) (h : val ys ≠ 0) :
  Calls Tryz.prog 97 #[.slice ao n c, .slice bo m d] w (GotDM w (val xs / val ys) (val xs % val ys) xs.length ys.length 0) :=
 (Div_pos ao n c xs bo m d ys w hn hm ha hb (by omega) h).mono fun _ _ k => k.len (Nat.lt_of_le_of_lt (Nat.div_le_self _ _) (val_lt ha.lb)) (Nat.lt_trans (Nat.mod_lt _ (Nat.pos_of_ne_zero h)) (val_lt hb.lb))
theorem gcd_lt_pw {x y a b : Nat} (hx : x < pw a) (hy : y < pw b) : Nat.gcd x y < pw (a + b) := by
 rcases Nat.eq_zero_or_pos x with h0 | h0
 ·rw [h0, Nat.gcd_zero_left]; exact Nat.lt_of_lt_of_le hy (pw_le (by omega))
 ·exact Nat.lt_of_le_of_lt (Nat.gcd_le_left _ h0) (Nat.lt_of_lt_of_le hx (pw_le (by omega)))
theorem GcdM (hn : n = xs.length) (hm : m = ys.length) (ha : Rd w ao c xs) (hb : Rd w bo d ys) (hl1 : xs.length ≤ 50000) (hl2 : ys.length ≤ 50000) :
  Calls Tryz.prog 102 #[.slice ao n c, .slice bo m d] w (GotM w (Nat.gcd (val xs) (val ys)) (xs.length + ys.length)) :=
 (Gcd_any ao n c xs bo m d ys (xs.length + ys.length) w hn hm ha hb (by omega) (by omega) (by omega)).mono fun _ _ k => k.len (gcd_lt_pw (val_lt ha.lb) (val_lt hb.lb))
end
end Go.Proofs.YtekhnajfdaknnaaGreatDoor
end
section
namespace Go.Proofs.YtekhnajfdaknnaaGreatDoor.S
open Go.RowKit
theorem postDM {w w' : World} {H : Im} {B : Bl} {p r L M : Nat} {er : Int} {en : Ending} (hs : ∀ b o, H b = some o → w.heap[b]? = some o) (h : GotDM w p r L M er en w') : ∃ v H' B', en = .returned v ∧ Post [] w H B (.tup [.c (.d (nsl (lbs p))), .c (.d (nsl (lbs r))), .c (.d (.raw (.int .i64 er)))]) [] v w' H' B' := by
 obtain ⟨ao, c, xs, Bk, bo, d, ys, Ck, rfl, hb, ho, hc, hv, _, hb2, ho2, hc2, hv2, _, hx⟩ := h
 exact ⟨_, _, _, rfl, postE hx hs ⟨_, rfl, own_vn (Bb := B) ho hb hc.out hv.out, own_vn (Bb := B) ho2 hb2 hc2.out hv2.out, DR.raw _ rfl, trivial⟩⟩
section
variable (xs ys : List Nat)
theorem SnGcd (hx : Lb xs) (hy : Lb ys) (lx : xs.length ≤ 50000) (ly : ys.length ≤ 50000) : Fn Tryz.prog 102 [] [vn xs, vn ys] (vn (lbs (Nat.gcd (Go.Proofs.YtekhnajfdaknnaaGreatDoor.val xs) (Go.Proofs.YtekhnajfdaknnaaGreatDoor.val ys)))) [] := by
 intro w H B vals pre
 obtain ⟨a, b, rfl, h1, h2⟩ := args2 pre.arg
 obtain ⟨ao, c, rfl, r1⟩ := openN h1 hx
 obtain ⟨bo, d, rfl, r2⟩ := openN h2 hy
 exact (GcdM ao _ c xs bo _ d ys w rfl rfl (r1 w pre.sat) (r2 w pre.sat) (by omega) (by omega)).mono fun _ _ h => postM pre.sat h
theorem SnDiv (hx : Lb xs) (hy : Lb ys) (lx : xs.length ≤ 50000) (ly : ys.length ≤ 50000) (h0 : Go.Proofs.YtekhnajfdaknnaaGreatDoor.val ys ≠ 0) : Fn Tryz.prog 97 [] [vn xs, vn ys] (.tup [.c (.d (nsl (lbs (Go.Proofs.YtekhnajfdaknnaaGreatDoor.val xs / Go.Proofs.YtekhnajfdaknnaaGreatDoor.val ys)))), .c (.d (nsl (lbs (Go.Proofs.YtekhnajfdaknnaaGreatDoor.val xs % Go.Proofs.YtekhnajfdaknnaaGreatDoor.val ys)))), .c (.d (.raw (.int .i64 0)))]) [] := by
 intro w H B vals pre
 obtain ⟨a, b, rfl, h1, h2⟩ := args2 pre.arg
 obtain ⟨ao, c, rfl, r1⟩ := openN h1 hx
 obtain ⟨bo, d, rfl, r2⟩ := openN h2 hy
 exact (DivM ao _ c xs bo _ d ys w rfl rfl (r1 w pre.sat) (r2 w pre.sat) (by omega) (by omega) h0).mono fun _ _ h => postDM pre.sat h
end
end Go.Proofs.YtekhnajfdaknnaaGreatDoor.S
end
section
namespace Go.Proofs.YtekhnajfdaknnaaGreatDoor.S
open Go.RowKit

theorem ZI.val_abs (x : ZI) : Go.Proofs.YtekhnajfdaknnaaGreatDoor.val x.abs = x.val.natAbs := (iv_abs x.neg x.abs).symm
theorem fmod_neg_range (a : Int) {b : Int} (h : b < 0) : b < a.fmod b ∧ a.fmod b ≤ 0 := by
 have h1 := Int.fmod_lt_of_pos (-a) (b := -b) (by omega)
 have h2 := Int.fmod_nonneg_of_pos (-a) (b := -b) (by omega)
 rw [Int.neg_fmod_neg] at h1 h2
 omega
theorem fdiv_unique {a b q r : Int} (h : a = q * b + r) (hp : 0 < b → 0 ≤ r ∧ r < b) (hn : b < 0 → b < r ∧ r ≤ 0) (hb : b ≠ 0) : q = a.fdiv b ∧ r = a.fmod b := by
 have h1 := Int.mul_fdiv_add_fmod a b
 rcases Int.lt_or_lt_of_ne hb with hlt | hgt
 ·obtain ⟨h2, h3⟩ := hn hlt
  obtain ⟨h4, h5⟩ := fmod_neg_range a hlt
  have hq : q = a.fdiv b := by
   have e : b * (a.fdiv b - q) = r - a.fmod b := by
    have : b * (a.fdiv b - q) = b * a.fdiv b - q * b := by rw [Int.mul_sub, Int.mul_comm b q]
    omega
   rcases Int.lt_trichotomy (a.fdiv b - q) 0 with g | g | g
   ·have : b * (a.fdiv b - q) ≥ -b := by
     have h6 : (-b) * 1 ≤ (-b) * (-(a.fdiv b - q)) := Int.mul_le_mul_of_nonneg_left (by omega) (by omega)
     rw [Int.neg_mul_neg] at h6; omega
    omega
   ·omega
   ·have : b * (a.fdiv b - q) ≤ b := by
     have h6 : (-b) * 1 ≤ (-b) * (a.fdiv b - q) := Int.mul_le_mul_of_nonneg_left (by omega) (by omega)
     rw [Int.neg_mul b (a.fdiv b - q)] at h6; omega
    omega
  refine ⟨hq, ?_⟩
  rw [hq, Int.mul_comm] at h
  omega
 ·obtain ⟨h2, h3⟩ := hp hgt
  have h4 : a.fmod b < b := Int.fmod_lt_of_pos a hgt
  have h5 : 0 ≤ a.fmod b := Int.fmod_nonneg_of_pos a hgt
  have hq : q = a.fdiv b := by
   have e : b * (a.fdiv b - q) = r - a.fmod b := by
    have : b * (a.fdiv b - q) = b * a.fdiv b - q * b := by rw [Int.mul_sub, Int.mul_comm b q]
    omega
   rcases Int.lt_trichotomy (a.fdiv b - q) 0 with g | g | g
   ·have h6 : b * 1 ≤ b * (-(a.fdiv b - q)) := Int.mul_le_mul_of_nonneg_left (by omega) (by omega)
    rw [Int.mul_neg] at h6; omega
   ·omega
   ·have h6 : b * 1 ≤ b * (a.fdiv b - q) := Int.mul_le_mul_of_nonneg_left (by omega) (by omega)
    omega
  refine ⟨hq, ?_⟩
  rw [hq, Int.mul_comm] at h
  omega
theorem fmod_range (a : Int) {b : Int} (_hb : b ≠ 0) : (0 < b → 0 ≤ a.fmod b ∧ a.fmod b < b) ∧ (b < 0 → b < a.fmod b ∧ a.fmod b ≤ 0) :=
 ⟨fun h => ⟨Int.fmod_nonneg_of_pos a h, Int.fmod_lt_of_pos a h⟩, fun h => fmod_neg_range a h⟩
theorem fdiv_fmod (a b : Int) : a = a.fdiv b * b + a.fmod b := by have := Int.mul_fdiv_add_fmod a b; rw [Int.mul_comm] at this; exact this.symm
theorem fdiv_same {X Y : Int} (hY : Y ≠ 0) {s t : Bool} (hs : s = decide (X < 0)) (ht : t = decide (Y < 0)) {zq zr : List Nat} (hq : Go.Proofs.YtekhnajfdaknnaaGreatDoor.val zq = X.natAbs / Y.natAbs) (hr : Go.Proofs.YtekhnajfdaknnaaGreatDoor.val zr = X.natAbs % Y.natAbs) (h : (s != t) = true → Go.Proofs.YtekhnajfdaknnaaGreatDoor.val zr = 0) :
  iv (s != t) zq = X.fdiv Y ∧ iv s zr = X.fmod Y := by
 have hm := Nat.mod_lt X.natAbs (Nat.pos_of_ne_zero (by omega : Y.natAbs ≠ 0))
 have hd := Nat.div_add_mod X.natAbs Y.natAbs
 generalize X.natAbs / Y.natAbs = q at *
 generalize X.natAbs % Y.natAbs = r at *
 subst hs ht
 refine fdiv_unique ?_ ?_ ?_ hY
 ·unfold iv
  rw [hq, hr]
  have hd2 : ((Y.natAbs : Int) * (q : Int) + (r : Int)) = (X.natAbs : Int) := by rw [← hd]; simp
  by_cases h1 : X < 0 <;> by_cases h2 : Y < 0
  ·have e1 : (X.natAbs : Int) = -X := by omega
   have e2 : (Y.natAbs : Int) = -Y := by omega
   rw [e1, e2, Int.neg_mul] at hd2
   simp [h1, h2]
   rw [Int.mul_comm]; omega
  ·have e1 : (X.natAbs : Int) = -X := by omega
   have e2 : (Y.natAbs : Int) = Y := by omega
   rw [e1, e2] at hd2
   simp [h1, h2]
   rw [Int.neg_mul, Int.mul_comm]; omega
  ·have e1 : (X.natAbs : Int) = X := by omega
   have e2 : (Y.natAbs : Int) = -Y := by omega
   rw [e1, e2, Int.neg_mul] at hd2
   simp [h1, h2]
   rw [Int.neg_mul, Int.mul_comm]; omega
  ·have e1 : (X.natAbs : Int) = X := by omega
   have e2 : (Y.natAbs : Int) = Y := by omega
   rw [e1, e2] at hd2
   simp [h1, h2]
   rw [Int.mul_comm]; omega
 ·intro hp
  unfold iv
  have h2 : ¬ Y < 0 := by omega
  by_cases h1 : X < 0
  ·have := h (by simp [h1, h2])
   simp [h1, this]; omega
  ·simp [h1, hr]; omega
 ·intro hp
  unfold iv
  by_cases h1 : X < 0
  ·simp [h1, hr]; omega
  ·have := h (by simp [h1, hp])
   simp [h1, this]; omega
theorem fdiv_other {X Y : Int} (hY : Y ≠ 0) {s t : Bool} (hs : s = decide (X < 0)) (ht : t = decide (Y < 0)) {zq zr : List Nat} (hq : Go.Proofs.YtekhnajfdaknnaaGreatDoor.val zq = X.natAbs / Y.natAbs) (hr : Go.Proofs.YtekhnajfdaknnaaGreatDoor.val zr = X.natAbs % Y.natAbs) (h : (s != t) = true) (h0 : Go.Proofs.YtekhnajfdaknnaaGreatDoor.val zr ≠ 0) :
  iv (s != t) zq - 1 = X.fdiv Y ∧ iv s zr + Y = X.fmod Y := by
 have hm := Nat.mod_lt X.natAbs (Nat.pos_of_ne_zero (by omega : Y.natAbs ≠ 0))
 have hd := Nat.div_add_mod X.natAbs Y.natAbs
 generalize X.natAbs / Y.natAbs = q at *
 generalize X.natAbs % Y.natAbs = r at *
 subst hs ht
 rw [hr] at h0
 have hd2 : ((Y.natAbs : Int) * (q : Int) + (r : Int)) = (X.natAbs : Int) := by rw [← hd]; simp
 rw [h]
 refine fdiv_unique ?_ ?_ ?_ hY
 ·unfold iv
  rw [hq, hr]
  by_cases h1 : X < 0 <;> by_cases h2 : Y < 0
  ·simp [h1, h2] at h
  ·have e1 : (X.natAbs : Int) = -X := by omega
   have e2 : (Y.natAbs : Int) = Y := by omega
   rw [e1, e2] at hd2
   simp [h1]
   rw [Int.sub_mul, Int.neg_mul, Int.mul_comm]; omega
  ·have e1 : (X.natAbs : Int) = X := by omega
   have e2 : (Y.natAbs : Int) = -Y := by omega
   rw [e1, e2, Int.neg_mul] at hd2
   simp [h1]
   rw [Int.sub_mul, Int.neg_mul, Int.mul_comm]; omega
  ·simp [h1, h2] at h
 ·intro hp
  unfold iv
  have h2 : ¬ Y < 0 := by omega
  by_cases h1 : X < 0
  ·simp [h1, hr]; omega
  ·simp [h1, h2] at h
 ·intro hp
  unfold iv
  by_cases h1 : X < 0
  ·simp [h1, hp] at h
  ·simp [h1, hr]; omega
theorem val_zero {zs : List Nat} (h : Canon zs) : Go.Proofs.YtekhnajfdaknnaaGreatDoor.val zs = 0 ↔ zs.length = 0 :=
 ⟨fun e => by rw [canon_zero h e]; rfl, fun e => by rw [List.length_eq_zero_iff.1 e]; rfl⟩
theorem fdiv_natAbs_le (X : Int) {Y : Int} (hY : Y ≠ 0) : (X.fdiv Y).natAbs ≤ X.natAbs := by
 have h := fdiv_fmod X Y
 obtain ⟨h1, h2⟩ := fmod_range X hY
 rcases Int.lt_or_lt_of_ne hY with g | g
 ·obtain ⟨h3, h4⟩ := h2 g
  by_cases hq : 0 ≤ X.fdiv Y
  ·have : X.fdiv Y * Y ≤ X.fdiv Y * (-1) := Int.mul_le_mul_of_nonneg_left (by omega) hq
   omega
  ·have : (-X.fdiv Y - 1) * 1 ≤ (-X.fdiv Y - 1) * (-Y) := Int.mul_le_mul_of_nonneg_left (by omega) (by omega)
   have e : (-X.fdiv Y - 1) * (-Y) = X.fdiv Y * Y + Y := by rw [Int.sub_mul, Int.neg_mul_neg]; omega
   omega
 ·obtain ⟨h3, h4⟩ := h1 g
  by_cases hq : 0 ≤ X.fdiv Y
  ·have : X.fdiv Y * 1 ≤ X.fdiv Y * Y := Int.mul_le_mul_of_nonneg_left (by omega) hq
   omega
  ·have : (-X.fdiv Y - 1) * 1 ≤ (-X.fdiv Y - 1) * Y := Int.mul_le_mul_of_nonneg_left (by omega) (by omega)
   have e : (-X.fdiv Y - 1) * Y = -(X.fdiv Y * Y) - Y := by rw [Int.sub_mul, Int.neg_mul]; omega
   omega
theorem fmod_natAbs_lt (X : Int) {Y : Int} (hY : Y ≠ 0) : (X.fmod Y).natAbs < Y.natAbs := by
 obtain ⟨h1, h2⟩ := fmod_range X hY
 rcases Int.lt_or_lt_of_ne hY with g | g
 ·have := h2 g; omega
 ·have := h1 g; omega
theorem len_fdiv {x y : ZI} (hx : Lb x.abs) (h : y.val ≠ 0) : (ZI.of (x.val.fdiv y.val)).abs.length ≤ x.abs.length := ZI.len_of (Nat.lt_of_le_of_lt (fdiv_natAbs_le _ h) (ZI.abs_lt hx))
theorem len_fmod {x y : ZI} (hy : Lb y.abs) (h : y.val ≠ 0) : (ZI.of (x.val.fmod y.val)).abs.length ≤ y.abs.length := ZI.len_of (Nat.lt_trans (fmod_natAbs_lt _ h) (ZI.abs_lt hy))
end Go.Proofs.YtekhnajfdaknnaaGreatDoor.S
end
section
namespace Go.Proofs.YtekhnajfdaknnaaGreatDoor.S
open Go.RowKit

def bez (r0 x0 y0 r1 x1 y1 : Int) : Int × Int × Int :=
  if _h : r1 ≤ 0 then (r0, x0, y0) else bez r1 x1 y1 (r0.fmod r1) (x0 - r0.fdiv r1 * x1) (y0 - r0.fdiv r1 * y1)
  termination_by r1.natAbs
  decreasing_by exact fmod_natAbs_lt _ (by omega)
/-- what holds of Euclid's numbers on the way; A, B: the absolute values -/
structure BzI (A B r0 x0 y0 r1 x1 y1 : Int) : Prop where
  a : 0 ≤ A
  b : 0 ≤ B
  p0 : 0 ≤ r0
  p1 : 0 ≤ r1
  g : Nat.gcd r0.natAbs r1.natAbs = Nat.gcd A.natAbs B.natAbs
  e0 : r0 = A * x0 + B * y0
  e1 : r1 = A * x1 + B * y1
  sx : (0 ≤ x0 ∧ x1 ≤ 0) ∨ (x0 ≤ 0 ∧ 0 ≤ x1)
  sy : (0 ≤ y0 ∧ y1 ≤ 0) ∨ (y0 ≤ 0 ∧ 0 ≤ y1)
  bx : r0 * (x1.natAbs : Int) + r1 * (x0.natAbs : Int) = B
  byy : r0 * (y1.natAbs : Int) + r1 * (y0.natAbs : Int) = A
  lx : (x1.natAbs : Int) ≤ B + 1
  ly : (y1.natAbs : Int) ≤ A + 1
  z : bez r0 x0 y0 r1 x1 y1 = bez A 1 0 B 0 1
end Go.Proofs.YtekhnajfdaknnaaGreatDoor.S
end
section
namespace Go.Proofs.YtekhnajfdaknnaaGreatDoor.S
open Go.RowKit

set_option maxRecDepth 100000 in
theorem zs_0 : Bodied Tryz.prog 120 := Bodied.mk' (by kernel_rfl)
set_option maxRecDepth 100000 in
theorem zs_1 : Bodied Tryz.prog 49 := Bodied.mk' (by kernel_rfl)
set_option maxRecDepth 100000 in
theorem zs_2 : Sz Tryz.prog 26 2 true := Sz.mk' (by kernel_rfl) Tryz.underlying26 _ rfl
set_option maxRecDepth 100000 in
theorem zs_3 : Bodied Tryz.prog 40 := Bodied.mk' (by kernel_rfl)
set_option maxRecDepth 100000 in
theorem zs_4 : Bodied Tryz.prog 34 := Bodied.mk' (by kernel_rfl)
set_option maxRecDepth 100000 in
theorem zs_5 : Bodied Tryz.prog 59 := Bodied.mk' (by kernel_rfl)
set_option maxRecDepth 100000 in
theorem zs_6 : Bodied Tryz.prog 95 := Bodied.mk' (by kernel_rfl)
set_option maxRecDepth 100000 in
theorem zs_7 : Bodied Tryz.prog 36 := Bodied.mk' (by kernel_rfl)
set_option maxRecDepth 100000 in
theorem zs_8 : Bodied Tryz.prog 27 := Bodied.mk' (by kernel_rfl)
set_option maxRecDepth 100000 in
theorem zs_9 : Bodied Tryz.prog 102 := Bodied.mk' (by kernel_rfl)
set_option maxRecDepth 100000 in
theorem zs_10 : Bodied Tryz.prog 88 := Bodied.mk' (by kernel_rfl)
set_option maxRecDepth 100000 in
theorem zs_13 : Bodied Tryz.prog 96 := Bodied.mk' (by kernel_rfl)
set_option maxRecDepth 100000 in
theorem zs_14 : Bodied Tryz.prog 97 := Bodied.mk' (by kernel_rfl)
set_option maxRecDepth 100000 in
theorem zs_15 : Bodied Tryz.prog 72 := Bodied.mk' (by kernel_rfl)
set_option maxRecDepth 100000 in
theorem zs_16 : Bodied Tryz.prog 98 := Bodied.mk' (by kernel_rfl)
set_option maxRecDepth 100000 in
theorem zs_20 : Bodied Tryz.prog 61 := Bodied.mk' (by kernel_rfl)
def zs_tb : Tb := [(4, ⟨1, false, [], [.d (.raw (.bool false))], 3⟩), (24, ⟨1, false, [], [.d (nsl [])], 1⟩), (26, ⟨2, true, [(0, 1, false), (1, 1, false)], [.d (.raw (.bool false)), .d (nsl [])], 0⟩)]
set_option maxRecDepth 100000 in
theorem zs_ok : TbOk Tryz.prog zs_tb := ⟨TyOk.bl Tryz.underlying4 (by kernel_rfl) ⟨(.bool false : Value), [.bool false], by kernel_rfl, rfl, (fun _ _ => ⟨DR.raw _ rfl, trivial⟩)⟩,
 TyOk.slc Tryz.underlying24 (by kernel_rfl) ⟨(.slice none 0 0 : Value), [.slice none 0 0], by kernel_rfl, rfl, (fun _ _ => ⟨DR.nil _ _ _ (fun _ => rfl) (Nat.zero_le _), trivial⟩)⟩,
 TyOk.st Tryz.underlying26 (by kernel_rfl) ⟨⟨by decide, Fd.mk' _ _ Tryz.underlying26 rfl rfl (Sz.mk' (by kernel_rfl) Tryz.underlying4 _ rfl)⟩, ⟨by decide, Fd.mk' _ _ Tryz.underlying26 rfl rfl (Sz.mk' (by kernel_rfl) Tryz.underlying24 _ rfl)⟩, trivial⟩ ⟨(Value.agg #[.bool false, .slice none 0 0]), [.bool false, .slice none 0 0], by kernel_rfl, rfl, (fun _ _ => ⟨DR.raw _ rfl, DR.nil _ _ _ (fun _ => rfl) (Nat.zero_le _), trivial⟩)⟩ ⟨_, Tryz.underlying26, ⟨⟨rfl, by kernel_rfl⟩, ⟨rfl, by kernel_rfl⟩, trivial⟩⟩,
 trivial⟩
set_option maxRecDepth 100000 in
theorem SSub (x y : ZI) (hx : Lb x.abs) (hy : Lb y.abs) (lx : x.abs.length ≤ 49000) (ly : y.abs.length ≤ 49000) : Fn Tryz.prog 98 [] [vz x, vz y] (vz (ZI.of (x.val - y.val))) [] := by
 refine Fn.body Tryz.func98 rfl 9 rfl fun w H B a h => ?_
 refine rSeq zs_ok 0 [] [(2, vp 0 0), (3, vp 1 0), (4, vp 2 0)] [(0, .box (zi x)), (1, .box (zi y)), (2, .box [.d (.raw (.bool false)), .d (nsl [])])] (by kernel_rfl) h ?_; clear h; intro a w h
 obtain ⟨r1, er1, vr1, or1, lr1⟩ := mkZ (v := -y.val) (m := y.abs.length) (len_neg hy)
 obtain ⟨r2, er2, vr2, or2, lr2⟩ := mkZ (v := x.val + r1.val) (m := x.abs.length + r1.abs.length + 1) (len_add hx or1)
 refine rSeq zs_ok 3 [(2, .call (Fn.cast (SNeg y hy (by omega)) (congrArg vz er1.symm)) zs_0), (3, .call (Fn.cast (SAdd x r1 hx or1 (by omega) (by omega)) (congrArg vz er2.symm)) zs_1)] [(4, vp 2 0)] [(2, .box (zi r2))] (by kernel_rfl) h ?_; clear h; intro a w h
 refine wp_ret ?_
 refine retS [.agg (zi r2)] h Exit.ret (.inl rfl)  rfl ⟨RV.agg _ 2 0 _ _ _ _ zs_2 rfl rfl rfl rfl, trivial⟩ ?_ (by kernel_rfl) (by kernel_rfl)
 refine congrArg (fun z => vz z) (er2.trans (congrArg ZI.of ?_))
 rw [vr1]; omega
set_option maxRecDepth 100000 in
theorem SRSub (x y : ZI) (hx : Lb x.abs) (hy : Lb y.abs) (lx : x.abs.length ≤ 49000) (ly : y.abs.length ≤ 49000) : Fn Tryz.prog 36 [] [vz x, vz y] (vz (ZI.of (x.val - y.val))) [] := by
 refine Fn.body Tryz.func36 rfl 9 rfl fun w H B a h => ?_
 refine rSeq zs_ok 0 [] [(2, vp 0 0), (3, vp 1 0), (4, vp 2 0)] [(0, .box (zi x)), (1, .box (zi y)), (2, .box [.d (.raw (.bool false)), .d (nsl [])])] (by kernel_rfl) h ?_; clear h; intro a w h
 obtain ⟨r1, er1, vr1, or1, lr1⟩ := mkZ (v := -y.val) (m := y.abs.length) (len_neg hy)
 obtain ⟨r2, er2, vr2, or2, lr2⟩ := mkZ (v := x.val + r1.val) (m := x.abs.length + r1.abs.length + 1) (len_add hx or1)
 refine rSeq zs_ok 3 [(2, .call (Fn.cast (SRNeg y hy (by omega)) (congrArg vz er1.symm)) zs_3), (3, .call (Fn.cast (SRAdd x r1 hx or1 (by omega) (by omega)) (congrArg vz er2.symm)) zs_4)] [(4, vp 2 0)] [(2, .box (zi r2))] (by kernel_rfl) h ?_; clear h; intro a w h
 refine wp_ret ?_
 refine retS [.agg (zi r2)] h Exit.ret (.inl rfl)  rfl ⟨RV.agg _ 2 0 _ _ _ _ zs_2 rfl rfl rfl rfl, trivial⟩ ?_ (by kernel_rfl) (by kernel_rfl)
 refine congrArg (fun z => vz z) (er2.trans (congrArg ZI.of ?_))
 rw [vr1]; omega
theorem cmp_leaf (x y : ZI) : (sgn x.val < sgn y.val → (-1 : Int) = cmpZ x.val y.val) ∧ (¬ sgn x.val < sgn y.val → sgn x.val > sgn y.val → (1 : Int) = cmpZ x.val y.val) ∧ (¬ sgn x.val < sgn y.val → ¬ sgn x.val > sgn y.val → sgn x.val < 0 → cmpI (Go.Proofs.YtekhnajfdaknnaaGreatDoor.val y.abs) (Go.Proofs.YtekhnajfdaknnaaGreatDoor.val x.abs) = cmpZ x.val y.val) ∧ (¬ sgn x.val < sgn y.val → ¬ sgn x.val > sgn y.val → ¬ sgn x.val < 0 → cmpI (Go.Proofs.YtekhnajfdaknnaaGreatDoor.val x.abs) (Go.Proofs.YtekhnajfdaknnaaGreatDoor.val y.abs) = cmpZ x.val y.val) := by
 have e1 : ∀ z : Int, (0 < z → sgn z = 1) ∧ (z < 0 → sgn z = -1) ∧ (z = 0 → sgn z = 0) := fun z => ⟨sgn_pos, sgn_neg, sgn_zero⟩
 rcases sgn_cases x with ⟨h1, h2⟩ | ⟨h1, h2, h3⟩ | ⟨h1, h2⟩ <;> rcases sgn_cases y with ⟨k1, k2⟩ | ⟨k1, k2, k3⟩ | ⟨k1, k2⟩ <;>
  have a1 := e1 x.val <;> have a2 := e1 y.val <;> rw [h1, k1] <;> rw [h1] at a1 <;> rw [k1] at a2 <;> unfold cmpZ cmpI <;> refine ⟨fun _ => ?_, fun _ _ => ?_, fun _ _ _ => ?_, fun _ _ _ => ?_⟩ <;> first | omega | (split <;> first | omega | (split <;> first | omega | (split <;> first | omega | (split <;> omega))))
set_option maxRecDepth 100000 in
theorem SCmp (x y : ZI) (hx : Lb x.abs) (hy : Lb y.abs) (lx : x.abs.length ≤ 49000) (ly : y.abs.length ≤ 49000) : Fn Tryz.prog 56 [] [vz x, vz y] (vi .i64 (cmpZ x.val y.val)) [] := by
 refine Fn.body Tryz.func56 rfl 32 rfl fun w H B a h => ?_
 refine rSeq zs_ok 0 [] [(2, vp 0 0), (3, vp 1 0), (4, vi .i64 0)] [(0, .box (zi x)), (1, .box (zi y))] (by kernel_rfl) h ?_; clear h; intro a w h
 refine rSeq zs_ok 2 [(1, .call (SSign x hx (by omega)) zs_5), (3, .call (SSign y hy (by omega)) zs_5)] [(2, vp 0 0), (3, vp 1 0), (4, vi .i64 0), (5, vi .i64 (sgn x.val)), (6, vi .i64 (sgn y.val))] [(0, .box (zi x)), (1, .box (zi y))] (by kernel_rfl) h ?_; clear h; intro a w h
 refine wp_seq ?_
 refine wp_block ?_
 refine rSeq zs_ok 2 [] [(2, vp 0 0), (3, vp 1 0), (4, vi .i64 0), (5, vi .i64 (sgn x.val)), (6, vi .i64 (sgn y.val)), (11, vb (decide (sgn x.val < sgn y.val)))] [(0, .box (zi x)), (1, .box (zi y))] (by kernel_rfl) h ?_; clear h; intro a w h
 refine condS (decide (sgn x.val < sgn y.val)) h rfl (fun hc => ?_) (fun hc => ?_)
 ·have hc1 := hc; clear hc
  have hc1' := of_decide_eq_true hc1
  refine rSeq zs_ok 2 [] [(2, vp 0 0), (3, vp 1 0), (4, vi .i64 (-1))] [(0, .box (zi x)), (1, .box (zi y))] (by kernel_rfl) h ?_; clear h; intro a w h
  refine wp_ret ?_
  refine block_r ?_
  refine then_r ?_
  refine retS [.c (.d (.raw (.int .i64 (-1))))] h Exit.ret (.inl rfl)  rfl ⟨RV.tmp _ _ rfl, trivial⟩ ?_ (by kernel_rfl) (by kernel_rfl)
  exact congrArg (vi .i64) ((cmp_leaf x y).1 hc1')
 ·have hc2 := hc; clear hc
  have hc2' := of_decide_eq_false hc2
  refine rSeq zs_ok 2 [] [(2, vp 0 0), (3, vp 1 0), (4, vi .i64 0), (5, vi .i64 (sgn x.val)), (15, vb (decide (sgn x.val > sgn y.val)))] [(0, .box (zi x)), (1, .box (zi y))] (by kernel_rfl) h ?_; clear h; intro a w h
  refine condS (decide (sgn x.val > sgn y.val)) h rfl (fun hc => ?_) (fun hc => ?_)
  ·have hc3 := hc; clear hc
   have hc3' := of_decide_eq_true hc3
   refine rSeq zs_ok 2 [] [(2, vp 0 0), (3, vp 1 0), (4, vi .i64 1)] [(0, .box (zi x)), (1, .box (zi y))] (by kernel_rfl) h ?_; clear h; intro a w h
   refine wp_ret ?_
   refine block_r ?_
   refine then_r ?_
   refine retS [.c (.d (.raw (.int .i64 1)))] h Exit.ret (.inl rfl)  rfl ⟨RV.tmp _ _ rfl, trivial⟩ ?_ (by kernel_rfl) (by kernel_rfl)
   exact congrArg (vi .i64) ((cmp_leaf x y).2.1 hc2' hc3')
  ·have hc4 := hc; clear hc
   have hc4' := of_decide_eq_false hc4
   refine rSeq zs_ok 2 [] [(2, vp 0 0), (3, vp 1 0), (4, vi .i64 0), (19, vb (decide (sgn x.val < 0)))] [(0, .box (zi x)), (1, .box (zi y))] (by kernel_rfl) h ?_; clear h; intro a w h
   refine condS (decide (sgn x.val < 0)) h rfl (fun hc => ?_) (fun hc => ?_)
   ·have hc5 := hc; clear hc
    have hc5' := of_decide_eq_true hc5
    refine rSeq zs_ok 2 [(4, .call (SnCmp y.abs x.abs hy hx) zs_6)] [(2, vp 0 0), (3, vp 1 0), (4, vi .i64 (cmpI (Go.Proofs.YtekhnajfdaknnaaGreatDoor.val y.abs) (Go.Proofs.YtekhnajfdaknnaaGreatDoor.val x.abs)))] [(0, .box (zi x)), (1, .box (zi y))] (by kernel_rfl) h ?_; clear h; intro a w h
    refine wp_ret ?_
    refine block_r ?_
    refine then_r ?_
    refine retS [.c (.d (.raw (.int .i64 (cmpI (Go.Proofs.YtekhnajfdaknnaaGreatDoor.val y.abs) (Go.Proofs.YtekhnajfdaknnaaGreatDoor.val x.abs)))))] h Exit.ret (.inl rfl)  rfl ⟨RV.tmp _ _ rfl, trivial⟩ ?_ (by kernel_rfl) (by kernel_rfl)
    exact congrArg (vi .i64) ((cmp_leaf x y).2.2.1 hc2' hc4' hc5')
   ·have hc6 := hc; clear hc
    have hc6' := of_decide_eq_false hc6
    refine wp_skip ?_
    refine block_n ?_
    refine then_n ?_
    refine rSeq zs_ok 2 [(4, .call (SnCmp x.abs y.abs hx hy) zs_6)] [(4, vi .i64 (cmpI (Go.Proofs.YtekhnajfdaknnaaGreatDoor.val x.abs) (Go.Proofs.YtekhnajfdaknnaaGreatDoor.val y.abs)))] [] (by kernel_rfl) h ?_; clear h; intro a w h
    refine wp_ret ?_
    refine retS [.c (.d (.raw (.int .i64 (cmpI (Go.Proofs.YtekhnajfdaknnaaGreatDoor.val x.abs) (Go.Proofs.YtekhnajfdaknnaaGreatDoor.val y.abs)))))] h Exit.ret (.inl rfl)  rfl ⟨RV.tmp _ _ rfl, trivial⟩ ?_ (by kernel_rfl) (by kernel_rfl)
    exact congrArg (vi .i64) ((cmp_leaf x y).2.2.2 hc2' hc4' hc6')
set_option maxRecDepth 100000 in
theorem SRCmp (x y : ZI) (hx : Lb x.abs) (hy : Lb y.abs) (lx : x.abs.length ≤ 49000) (ly : y.abs.length ≤ 49000) : Fn Tryz.prog 10 [] [vz x, vz y] (vi .i64 (cmpZ x.val y.val)) [] := by
 refine Fn.body Tryz.func10 rfl 9 rfl fun w H B a h => ?_
 refine rSeq zs_ok 0 [] [(2, vp 0 0), (3, vp 1 0), (4, vi .i64 0)] [(0, .box (zi x)), (1, .box (zi y))] (by kernel_rfl) h ?_; clear h; intro a w h
 obtain ⟨r1, er1, vr1, or1, lr1⟩ := mkZ (v := x.val - y.val) (m := x.abs.length + y.abs.length + 1) (len_sub hx hy)
 refine rSeq zs_ok 2 [(2, .call (Fn.cast (SRSub x y hx hy (by omega) (by omega)) (congrArg vz er1.symm)) zs_7), (3, .call (SRSign r1 or1 (by omega)) zs_8)] [(4, vi .i64 (sgn r1.val))] [] (by kernel_rfl) h ?_; clear h; intro a w h
 refine wp_ret ?_
 refine retS [.c (.d (.raw (.int .i64 (sgn r1.val))))] h Exit.ret (.inl rfl)  rfl ⟨RV.tmp _ _ rfl, trivial⟩ ?_ (by kernel_rfl) (by kernel_rfl)
 rw [vr1, cmpZ_sgn]; first | done | rfl
theorem gcd_iv (m n : Nat) {zs : List Nat} (h : Go.Proofs.YtekhnajfdaknnaaGreatDoor.val zs = Nat.gcd m n) : iv false zs = (Nat.gcd m n : Int) := by rw [iv_false, h]
theorem len_gcd {x y : ZI} (hx : Lb x.abs) (hy : Lb y.abs) : (ZI.of (Nat.gcd x.val.natAbs y.val.natAbs : Int)).abs.length ≤ x.abs.length + y.abs.length := ZI.len_of (by rw [Int.natAbs_natCast]; exact gcd_lt_pw (ZI.abs_lt hx) (ZI.abs_lt hy))
set_option maxRecDepth 100000 in
theorem SGcd (x y : ZI) (hx : Lb x.abs) (hy : Lb y.abs) (lx : x.abs.length ≤ 40000) (ly : y.abs.length ≤ 40000) : Fn Tryz.prog 70 [] [vz x, vz y] (vz (ZI.of (Nat.gcd x.val.natAbs y.val.natAbs : Int))) [] := by
 refine Fn.body Tryz.func70 rfl 11 rfl fun w H B a h => ?_
 refine rSeq zs_ok 0 [] [(2, vp 0 0), (3, vp 1 0), (4, vp 2 0)] [(0, .box (zi x)), (1, .box (zi y)), (2, .box [.d (.raw (.bool false)), .d (nsl [])])] (by kernel_rfl) h ?_; clear h; intro a w h
 obtain ⟨n1, en1, vn1, on1, ln1⟩ := mkN (v := Nat.gcd (Go.Proofs.YtekhnajfdaknnaaGreatDoor.val x.abs) (Go.Proofs.YtekhnajfdaknnaaGreatDoor.val y.abs)) (m := x.abs.length + y.abs.length) (gcd_lt_pw (val_lt hx) (val_lt hy))
 obtain ⟨r2, er2, vr2, or2, lr2⟩ := mkZ (v := iv false n1) (m := n1.length) (len_iv on1)
 refine rSeq zs_ok 3 [(4, .call (Fn.cast (SnGcd x.abs y.abs hx hy (by omega) (by omega)) (congrArg vn en1.symm)) zs_9), (5, .call (Fn.cast (SFrom false n1 on1 (by omega)) (congrArg vz er2.symm)) zs_10)] [(4, vp 2 0)] [(2, .box (zi r2))] (by kernel_rfl) h ?_; clear h; intro a w h
 refine wp_ret ?_
 refine retS [.agg (zi r2)] h Exit.ret (.inl rfl)  rfl ⟨RV.agg _ 2 0 _ _ _ _ zs_2 rfl rfl rfl rfl, trivial⟩ ?_ (by kernel_rfl) (by kernel_rfl)
 rw [er2]; unfold ZI.val; rw [iv_abs, iv_abs, ← gcd_iv _ _ vn1]; first | done | rfl
set_option maxRecDepth 100000 in
theorem SDiv (x y : ZI) (hx : Lb x.abs) (hy : Lb y.abs) (lx : x.abs.length ≤ 40000) (ly : y.abs.length ≤ 40000) (h0 : y.val ≠ 0) : Fn Tryz.prog 61 [] [vz x, vz y] (.tup [.agg (zi (ZI.of (x.val.fdiv y.val))), .agg (zi (ZI.of (x.val.fmod y.val))), .c (.d (.raw (.int .i64 0)))]) [] := by
 refine Fn.body Tryz.func61 rfl 56 rfl fun w H B a h => ?_
 refine rSeq zs_ok 0 [] [(2, vp 0 0), (3, vp 1 0), (4, vp 2 0), (5, vp 3 0), (6, vi .i64 0)] [(0, .box (zi x)), (1, .box (zi y)), (2, .box [.d (.raw (.bool false)), .d (nsl [])]), (3, .box [.d (.raw (.bool false)), .d (nsl [])])] (by kernel_rfl) h ?_; clear h; intro a w h
 obtain ⟨r1, er1, vr1, or1, lr1⟩ := mkZ (v := x.val) (m := x.abs.length) (len_id hx)
 obtain ⟨r2, er2, vr2, or2, lr2⟩ := mkZ (v := y.val) (m := y.abs.length) (len_id hy)
 refine rSeq zs_ok 4 [(1, .call (Fn.cast (SClean x hx (by omega)) (congrArg vz er1.symm)) zs_13), (3, .call (Fn.cast (SClean y hy (by omega)) (congrArg vz er2.symm)) zs_13)] [(2, vp 0 0), (3, vp 1 0), (4, vp 2 0), (5, vp 3 0), (6, vi .i64 0)] [(0, .box (zi r1)), (1, .box (zi r2)), (2, .box [.d (.raw (.bool false)), .d (nsl [])]), (3, .box [.d (.raw (.bool false)), .d (nsl [])])] (by kernel_rfl) h ?_; clear h; intro a w h
 obtain ⟨n3q, en3q, vn3q, on3q, ln3q⟩ := mkN (v := Go.Proofs.YtekhnajfdaknnaaGreatDoor.val r1.abs / Go.Proofs.YtekhnajfdaknnaaGreatDoor.val r2.abs) (m := r1.abs.length) (Nat.lt_of_le_of_lt (Nat.div_le_self _ _) (val_lt or1))
 obtain ⟨n3r, en3r, vn3r, on3r, ln3r⟩ := mkN (v := Go.Proofs.YtekhnajfdaknnaaGreatDoor.val r1.abs % Go.Proofs.YtekhnajfdaknnaaGreatDoor.val r2.abs) (m := r2.abs.length) (Nat.lt_trans (Nat.mod_lt _ (Nat.pos_of_ne_zero (by rw [ZI.val_abs, vr2]; omega))) (val_lt or2))
 refine rSeq zs_ok 4 [(4, .call (Fn.cast (SnDiv r1.abs r2.abs or1 or2 (by omega) (by omega) (by rw [ZI.val_abs, vr2]; omega)) (show _ = (.tup [.c (.d (nsl n3q)), .c (.d (nsl n3r)), .c (.d (.raw (.int .i64 0)))] : V) by rw [en3q, en3r]; first | done | rfl)) zs_14)] [(2, vp 0 0), (3, vp 1 0), (4, vp 2 0), (5, vp 3 0), (6, vi .i64 0), (7, vn n3q), (8, vn n3r)] [(0, .box (zi r1)), (1, .box (zi r2)), (2, .box [.d (.raw (.bool false)), .d (nsl [])]), (3, .box [.d (.raw (.bool false)), .d (nsl [])])] (by kernel_rfl) h ?_; clear h; intro a w h
 refine wp_seq ?_
 refine rSeq zs_ok 4 [(1, .cmp (op := .neq) (m := 0) (n := 0) (b := false) .i64 rfl)] [(2, vp 0 0), (3, vp 1 0), (4, vp 2 0), (5, vp 3 0), (6, vi .i64 0), (7, vn n3q), (8, vn n3r), (23, vb false)] [(0, .box (zi r1)), (1, .box (zi r2)), (2, .box [.d (.raw (.bool false)), .d (nsl [])]), (3, .box [.d (.raw (.bool false)), .d (nsl [])])] (by kernel_rfl) h ?_; clear h; intro a w h
 refine condS false h rfl (fun hc => ?_) (fun hc => ?_)
 ·cases hc
 ·clear hc
  refine wp_skip ?_
  refine then_n ?_
  obtain ⟨r4, er4, vr4, or4, lr4⟩ := mkZ (v := iv (r1.neg != r2.neg) n3q) (m := n3q.length) (len_iv on3q)
  obtain ⟨r5, er5, vr5, or5, lr5⟩ := mkZ (v := iv r1.neg n3r) (m := n3r.length) (len_iv on3r)
  refine rSeq zs_ok 4 [(6, .call (Fn.cast (SFrom (r1.neg != r2.neg) n3q on3q (by omega)) (congrArg vz er4.symm)) zs_10), (10, .call (Fn.cast (SFrom r1.neg n3r on3r (by omega)) (congrArg vz er5.symm)) zs_10)] [(2, vp 0 0), (3, vp 1 0), (4, vp 2 0), (5, vp 3 0), (6, vi .i64 0), (8, vn n3r)] [(0, .box (zi r1)), (1, .box (zi r2)), (2, .box (zi r4)), (3, .box (zi r5))] (by kernel_rfl) h ?_; clear h; intro a w h
  refine wp_seq ?_
  rcases Bool.eq_false_or_eq_true (r1.neg != r2.neg) with hc | hc
  ·have hc1 := hc; clear hc
   have hc1' := hc1; (try simp at hc1')
   refine rSeq zs_ok 4 [(4, .cmpb .neq (m := r1.neg) (n := r2.neg) (b := true) (.inr ⟨rfl, hc1.symm⟩)), (7, .len (nsl_len n3r))] [(3, vp 1 0), (4, vp 2 0), (5, vp 3 0), (6, vi .i64 0), (47, vb (decide ((n3r.length : Int) > 0)))] [(1, .box (zi r2)), (2, .box (zi r4)), (3, .box (zi r5))] (by kernel_rfl) h ?_; clear h; intro a w h
   refine condS (decide ((n3r.length : Int) > 0)) h rfl (fun hc => ?_) (fun hc => ?_)
   ·have hc2 := hc; clear hc
    have hc2' := of_decide_eq_true hc2
    obtain ⟨r6, er6, vr6, or6, lr6⟩ := mkZ (v := 1) (m := 2) (ZI.len_of (by have := pw2; omega))
    obtain ⟨r7, er7, vr7, or7, lr7⟩ := mkZ (v := r4.val - r6.val) (m := r4.abs.length + r6.abs.length + 1) (len_sub or4 or6)
    obtain ⟨r8, er8, vr8, or8, lr8⟩ := mkZ (v := r5.val + r2.val) (m := r5.abs.length + r2.abs.length + 1) (len_add or5 or2)
    refine rS zs_ok 4 [(1, .call (Fn.cast (SOf 1 ⟨by omega, by omega⟩) (congrArg vz er6.symm)) zs_15), (2, .call (Fn.cast (SSub r4 r6 or4 or6 (by omega) (by omega)) (congrArg vz er7.symm)) zs_16), (5, .call (Fn.cast (SAdd r5 r2 or5 or2 (by omega) (by omega)) (congrArg vz er8.symm)) zs_1)] [(4, vp 2 0), (5, vp 3 0), (6, vi .i64 0)] [(2, .box (zi r7)), (3, .box (zi r8))] (by kernel_rfl) h ?_; clear h; intro a w h
    refine then_n ?_
    refine rSeq zs_ok 4 [] [(4, vp 2 0), (5, vp 3 0), (6, vi .i64 0)] [(2, .box (zi r7)), (3, .box (zi r8))] (by kernel_rfl) h ?_; clear h; intro a w h
    refine wp_ret ?_
    refine retS [.agg (zi r7), .agg (zi r8), .c (.d (.raw (.int .i64 0)))] h Exit.ret (.inl rfl)  rfl ⟨RV.agg _ 2 0 _ _ _ _ zs_2 rfl rfl rfl rfl, RV.agg _ 3 0 _ _ _ _ zs_2 rfl rfl rfl rfl, RV.tmp _ _ rfl, trivial⟩ ?_ (by kernel_rfl) (by kernel_rfl)
    have f1 : r1.neg = decide (x.val < 0) := by rw [er1]; rfl
    have f2 : r2.neg = decide (y.val < 0) := by rw [er2]; rfl
    have f3 : Go.Proofs.YtekhnajfdaknnaaGreatDoor.val n3q = x.val.natAbs / y.val.natAbs := by rw [vn3q, ZI.val_abs, ZI.val_abs, vr1, vr2]
    have f4 : Go.Proofs.YtekhnajfdaknnaaGreatDoor.val n3r = x.val.natAbs % y.val.natAbs := by rw [vn3r, ZI.val_abs, ZI.val_abs, vr1, vr2]
    have f5 : Go.Proofs.YtekhnajfdaknnaaGreatDoor.val n3r = 0 ↔ n3r.length = 0 := by rw [en3r]; exact val_zero (lbs_canon _)
    obtain ⟨e1, e2⟩ := fdiv_other h0 f1 f2 f3 f4 hc1 (fun h => by have := f5.1 h; omega)
    rw [er7, er8, vr4, vr5, vr6, vr2, e1, e2]; first | done | rfl
   ·have hc3 := hc; clear hc
    have hc3' := of_decide_eq_false hc3
    refine wp_skip ?_
    refine then_n ?_
    refine rSeq zs_ok 4 [] [(4, vp 2 0), (5, vp 3 0), (6, vi .i64 0)] [(2, .box (zi r4)), (3, .box (zi r5))] (by kernel_rfl) h ?_; clear h; intro a w h
    refine wp_ret ?_
    refine retS [.agg (zi r4), .agg (zi r5), .c (.d (.raw (.int .i64 0)))] h Exit.ret (.inl rfl)  rfl ⟨RV.agg _ 2 0 _ _ _ _ zs_2 rfl rfl rfl rfl, RV.agg _ 3 0 _ _ _ _ zs_2 rfl rfl rfl rfl, RV.tmp _ _ rfl, trivial⟩ ?_ (by kernel_rfl) (by kernel_rfl)
    have f1 : r1.neg = decide (x.val < 0) := by rw [er1]; rfl
    have f2 : r2.neg = decide (y.val < 0) := by rw [er2]; rfl
    have f3 : Go.Proofs.YtekhnajfdaknnaaGreatDoor.val n3q = x.val.natAbs / y.val.natAbs := by rw [vn3q, ZI.val_abs, ZI.val_abs, vr1, vr2]
    have f4 : Go.Proofs.YtekhnajfdaknnaaGreatDoor.val n3r = x.val.natAbs % y.val.natAbs := by rw [vn3r, ZI.val_abs, ZI.val_abs, vr1, vr2]
    have f5 : Go.Proofs.YtekhnajfdaknnaaGreatDoor.val n3r = 0 ↔ n3r.length = 0 := by rw [en3r]; exact val_zero (lbs_canon _)
    obtain ⟨e1, e2⟩ := fdiv_same h0 f1 f2 f3 f4 (fun _ => f5.2 (by omega))
    rw [er4, er5, e1, e2]; first | done | rfl
  ·have hc4 := hc; clear hc
   have hc4' := hc4; (try simp at hc4')
   refine rSeq zs_ok 4 [(4, .cmpb .neq (m := r1.neg) (n := r2.neg) (b := false) (.inr ⟨rfl, hc4.symm⟩))] [(3, vp 1 0), (4, vp 2 0), (5, vp 3 0), (6, vi .i64 0), (47, vb false)] [(1, .box (zi r2)), (2, .box (zi r4)), (3, .box (zi r5))] (by kernel_rfl) h ?_; clear h; intro a w h
   refine condS false h rfl (fun hc => ?_) (fun hc => ?_)
   ·cases hc
   ·clear hc
    refine wp_skip ?_
    refine then_n ?_
    refine rSeq zs_ok 4 [] [(4, vp 2 0), (5, vp 3 0), (6, vi .i64 0)] [(2, .box (zi r4)), (3, .box (zi r5))] (by kernel_rfl) h ?_; clear h; intro a w h
    refine wp_ret ?_
    refine retS [.agg (zi r4), .agg (zi r5), .c (.d (.raw (.int .i64 0)))] h Exit.ret (.inl rfl)  rfl ⟨RV.agg _ 2 0 _ _ _ _ zs_2 rfl rfl rfl rfl, RV.agg _ 3 0 _ _ _ _ zs_2 rfl rfl rfl rfl, RV.tmp _ _ rfl, trivial⟩ ?_ (by kernel_rfl) (by kernel_rfl)
    have f1 : r1.neg = decide (x.val < 0) := by rw [er1]; rfl
    have f2 : r2.neg = decide (y.val < 0) := by rw [er2]; rfl
    have f3 : Go.Proofs.YtekhnajfdaknnaaGreatDoor.val n3q = x.val.natAbs / y.val.natAbs := by rw [vn3q, ZI.val_abs, ZI.val_abs, vr1, vr2]
    have f4 : Go.Proofs.YtekhnajfdaknnaaGreatDoor.val n3r = x.val.natAbs % y.val.natAbs := by rw [vn3r, ZI.val_abs, ZI.val_abs, vr1, vr2]
    have f5 : Go.Proofs.YtekhnajfdaknnaaGreatDoor.val n3r = 0 ↔ n3r.length = 0 := by rw [en3r]; exact val_zero (lbs_canon _)
    obtain ⟨e1, e2⟩ := fdiv_same h0 f1 f2 f3 f4 (fun h => by rw [hc4] at h; cases h)
    rw [er4, er5, e1, e2]; first | done | rfl
theorem sgn_eq0 {z : Int} : sgn z = 0 ↔ z = 0 := by unfold sgn; split <;> (try split) <;> omega
set_option maxRecDepth 100000 in
theorem SExact (x y : ZI) (hx : Lb x.abs) (hy : Lb y.abs) (lx : x.abs.length ≤ 15000) (ly : y.abs.length ≤ 15000) (h0 : y.val ≠ 0) (hr : x.val.fmod y.val = 0) : Fn Tryz.prog 60 [] [vz x, vz y] (.tup [.agg (zi (ZI.of (x.val.fdiv y.val))), .c (.d (.raw (.int .i64 0)))]) [] := by
 refine Fn.body Tryz.func60 rfl 27 rfl fun w H B a h => ?_
 refine rSeq zs_ok 0 [] [(2, vp 0 0), (3, vp 1 0), (4, vp 2 0), (5, vi .i64 0)] [(0, .box (zi x)), (1, .box (zi y)), (2, .box [.d (.raw (.bool false)), .d (nsl [])])] (by kernel_rfl) h ?_; clear h; intro a w h
 obtain ⟨r1q, er1q, vr1q, or1q, lr1q⟩ := mkZ (v := x.val.fdiv y.val) (m := x.abs.length) (len_fdiv hx h0)
 obtain ⟨r1r, er1r, vr1r, or1r, lr1r⟩ := mkZ (v := x.val.fmod y.val) (m := y.abs.length) (len_fmod hy h0)
 refine rSeq zs_ok 3 [(2, .call (Fn.cast (SDiv x y hx hy (by omega) (by omega) h0) (show _ = (.tup [.agg (zi r1q), .agg (zi r1r), .c (.d (.raw (.int .i64 0)))] : V) by rw [er1q, er1r]; first | done | rfl)) zs_20)] [(4, vp 2 0), (5, vi .i64 0), (6, vp 3 0), (7, vp 4 0), (8, vi .i64 0)] [(2, .box [.d (.raw (.bool false)), .d (nsl [])]), (3, .box (zi r1q)), (4, .box (zi r1r))] (by kernel_rfl) h ?_; clear h; intro a w h
 refine wp_seq ?_
 refine wp_block ?_
 refine rSeq zs_ok 5 [(1, .cmp (op := .neq) (m := 0) (n := 0) (b := false) .i64 rfl)] [(4, vp 2 0), (5, vi .i64 0), (6, vp 3 0), (7, vp 4 0), (8, vi .i64 0), (16, vb false)] [(2, .box [.d (.raw (.bool false)), .d (nsl [])]), (3, .box (zi r1q)), (4, .box (zi r1r))] (by kernel_rfl) h ?_; clear h; intro a w h
 refine condS false h rfl (fun hc => ?_) (fun hc => ?_)
 ·cases hc
 ·clear hc
  refine rSeq zs_ok 5 [(1, .call (Fn.cast (SSign r1r or1r (by omega)) (congrArg (vi .i64) (sgn_zero (by rw [vr1r]; exact hr)))) zs_5), (2, .cmp (op := .neq) (m := 0) (n := 0) (b := false) .i64 rfl)] [(4, vp 2 0), (5, vi .i64 0), (6, vp 3 0), (21, vb false)] [(2, .box [.d (.raw (.bool false)), .d (nsl [])]), (3, .box (zi r1q))] (by kernel_rfl) h ?_; clear h; intro a w h
  refine condS false h rfl (fun hc => ?_) (fun hc => ?_)
  ·cases hc
  ·clear hc
   refine wp_skip ?_
   refine block_n ?_
   refine then_n ?_
   refine rSeq zs_ok 5 [] [(4, vp 2 0), (5, vi .i64 0)] [(2, .box (zi r1q))] (by kernel_rfl) h ?_; clear h; intro a w h
   refine wp_ret ?_
   refine retS [.agg (zi r1q), .c (.d (.raw (.int .i64 0)))] h Exit.ret (.inl rfl)  rfl ⟨RV.agg _ 2 0 _ _ _ _ zs_2 rfl rfl rfl rfl, RV.tmp _ _ rfl, trivial⟩ ?_ (by kernel_rfl) (by kernel_rfl)
   rw [er1q]; first | done | rfl
end Go.Proofs.YtekhnajfdaknnaaGreatDoor.S
end
section
namespace Go.Proofs.YtekhnajfdaknnaaGreatDoor.S
open Go.RowKit

set_option maxRecDepth 100000 in
theorem tt_0 : SlT Tryz.prog 22 32 3 := SlT.mk' Tryz.underlying22 (by kernel_rfl)
set_option maxRecDepth 100000 in
theorem tt_1 : Bodied Tryz.prog 49 := Bodied.mk' (by kernel_rfl)
set_option maxRecDepth 100000 in
theorem tt_2 : Sz Tryz.prog 26 2 true := Sz.mk' (by kernel_rfl) Tryz.underlying26 _ rfl
set_option maxRecDepth 100000 in
theorem tt_3 : Bodied Tryz.prog 18 := Bodied.mk' (by kernel_rfl)
set_option maxRecDepth 100000 in
theorem tt_4 : Bodied Tryz.prog 59 := Bodied.mk' (by kernel_rfl)
set_option maxRecDepth 100000 in
theorem tt_5 : Bodied Tryz.prog 48 := Bodied.mk' (by kernel_rfl)
set_option maxRecDepth 100000 in
theorem tt_6 : SlT Tryz.prog 35 26 2 := SlT.mk' Tryz.underlying35 (by kernel_rfl)
set_option maxRecDepth 100000 in
theorem tt_7 : Bodied Tryz.prog 50 := Bodied.mk' (by kernel_rfl)
set_option maxRecDepth 100000 in
theorem tt_8 : Bodied Tryz.prog 41 := Bodied.mk' (by kernel_rfl)
set_option maxRecDepth 100000 in
theorem tt_9 : ElZ Tryz.prog 45 3 1 := ElZ.mk' Tryz.underlying45 _ _ rfl rfl (by kernel_rfl) (by kernel_rfl) (by kernel_rfl) (by decide)
set_option maxRecDepth 100000 in
theorem tt_10 : ElT Tryz.prog 45 3 1 8 := ElT.mk' Tryz.underlying45 _ _ rfl rfl (by kernel_rfl) (by kernel_rfl) (by kernel_rfl) (by decide) (by decide)
set_option maxRecDepth 100000 in
theorem tt_11 : Bodied Tryz.prog 70 := Bodied.mk' (by kernel_rfl)
def tt_tb : Tb := [(4, ⟨1, false, [], [.d (.raw (.bool false))], 3⟩), (24, ⟨1, false, [], [.d (nsl [])], 1⟩), (26, ⟨2, true, [(0, 1, false), (1, 1, false)], [.d (.raw (.bool false)), .d (nsl [])], 0⟩), (22, ⟨1, false, [], [.d (.raw nilV)], 1⟩), (28, ⟨3, true, [(0, 1, false), (1, 2, true)], [.d (.raw nilV), .d (.raw (.bool false)), .d (nsl [])], 0⟩), (3, ⟨1, false, [], [.d (.raw (.int .i64 0))], 13⟩), (32, ⟨3, true, [(0, 1, false), (1, 2, true)], [.d (.raw (.int .i64 0)), .d (.raw (.bool false)), .d (nsl [])], 0⟩), (35, ⟨1, false, [], [.d (.raw nilV)], 1⟩), (45, ⟨1, false, [], [.d (.raw nilV)], 1⟩)]
set_option maxRecDepth 100000 in
theorem tt_ok : TbOk Tryz.prog tt_tb := ⟨TyOk.bl Tryz.underlying4 (by kernel_rfl) ⟨(.bool false : Value), [.bool false], by kernel_rfl, rfl, (fun _ _ => ⟨DR.raw _ rfl, trivial⟩)⟩,
 TyOk.slc Tryz.underlying24 (by kernel_rfl) ⟨(.slice none 0 0 : Value), [.slice none 0 0], by kernel_rfl, rfl, (fun _ _ => ⟨DR.nil _ _ _ (fun _ => rfl) (Nat.zero_le _), trivial⟩)⟩,
 TyOk.st Tryz.underlying26 (by kernel_rfl) ⟨⟨by decide, Fd.mk' _ _ Tryz.underlying26 rfl rfl (Sz.mk' (by kernel_rfl) Tryz.underlying4 _ rfl)⟩, ⟨by decide, Fd.mk' _ _ Tryz.underlying26 rfl rfl (Sz.mk' (by kernel_rfl) Tryz.underlying24 _ rfl)⟩, trivial⟩ ⟨(Value.agg #[.bool false, .slice none 0 0]), [.bool false, .slice none 0 0], by kernel_rfl, rfl, (fun _ _ => ⟨DR.raw _ rfl, DR.nil _ _ _ (fun _ => rfl) (Nat.zero_le _), trivial⟩)⟩ ⟨_, Tryz.underlying26, ⟨⟨rfl, by kernel_rfl⟩, ⟨rfl, by kernel_rfl⟩, trivial⟩⟩,
 TyOk.slc Tryz.underlying22 (by kernel_rfl) ⟨(.slice none 0 0 : Value), [.slice none 0 0], by kernel_rfl, rfl, (fun _ _ => ⟨DR.raw _ rfl, trivial⟩)⟩,
 TyOk.st Tryz.underlying28 (by kernel_rfl) ⟨⟨by decide, Fd.mk' _ _ Tryz.underlying28 rfl rfl (Sz.mk' (by kernel_rfl) Tryz.underlying22 _ rfl)⟩, ⟨by decide, Fd.mk' _ _ Tryz.underlying28 rfl rfl (Sz.mk' (by kernel_rfl) Tryz.underlying26 _ rfl)⟩, trivial⟩ ⟨(Value.agg #[.slice none 0 0, .bool false, .slice none 0 0]), [.slice none 0 0, .bool false, .slice none 0 0], by kernel_rfl, rfl, (fun _ _ => ⟨DR.raw _ rfl, DR.raw _ rfl, DR.nil _ _ _ (fun _ => rfl) (Nat.zero_le _), trivial⟩)⟩ ⟨_, Tryz.underlying28, ⟨⟨rfl, by kernel_rfl⟩, ⟨rfl, by kernel_rfl⟩, trivial⟩⟩,
 TyOk.int Tryz.underlying3 rfl (by kernel_rfl) ⟨(.int .i64 0 : Value), [.int .i64 0], by kernel_rfl, rfl, (fun _ _ => ⟨DR.raw _ rfl, trivial⟩)⟩,
 TyOk.st Tryz.underlying32 (by kernel_rfl) ⟨⟨by decide, Fd.mk' _ _ Tryz.underlying32 rfl rfl (Sz.mk' (by kernel_rfl) Tryz.underlying3 _ rfl)⟩, ⟨by decide, Fd.mk' _ _ Tryz.underlying32 rfl rfl (Sz.mk' (by kernel_rfl) Tryz.underlying26 _ rfl)⟩, trivial⟩ ⟨(Value.agg #[.int .i64 0, .bool false, .slice none 0 0]), [.int .i64 0, .bool false, .slice none 0 0], by kernel_rfl, rfl, (fun _ _ => ⟨DR.raw _ rfl, DR.raw _ rfl, DR.nil _ _ _ (fun _ => rfl) (Nat.zero_le _), trivial⟩)⟩ ⟨_, Tryz.underlying32, ⟨⟨rfl, by kernel_rfl⟩, ⟨rfl, by kernel_rfl⟩, trivial⟩⟩,
 TyOk.slc Tryz.underlying35 (by kernel_rfl) ⟨(.slice none 0 0 : Value), [.slice none 0 0], by kernel_rfl, rfl, (fun _ _ => ⟨DR.raw _ rfl, trivial⟩)⟩,
 TyOk.slc Tryz.underlying45 (by kernel_rfl) ⟨(.slice none 0 0 : Value), [.slice none 0 0], by kernel_rfl, rfl, (fun _ _ => ⟨DR.raw _ rfl, trivial⟩)⟩,
 trivial⟩
set_option maxRecDepth 100000 in
theorem STCoef (t : Term) (v : Int) (ht : PsOk 40000 t.parts) : Fn Tryz.prog 18 [] [.t (.agg ([.d (.sl 3 (t.parts.map Part.d))] ++ zi t.k)), vi .i64 v] (vz (ZI.of (coefZ t.parts v))) [] := by
 refine Fn.body Tryz.func18 rfl 30 rfl fun w H B a h => ?_
 refine rSeq tt_ok 0 [] [(1, vi .i64 v), (2, vp 0 0), (4, vp 1 0)] [(0, .box ([.d (.sl 3 (t.parts.map Part.d))] ++ zi t.k)), (1, .box [.d (.raw (.bool false)), .d (nsl [])])] (by kernel_rfl) h ?_; clear h; intro a w h
 refine rSeq tt_ok 2 [] [(1, vi .i64 v), (2, vp 0 0), (4, vp 1 0), (5, vp 2 0)] [(0, .box ([.d (.sl 3 (t.parts.map Part.d))] ++ zi t.k)), (1, .box [.d (.raw (.bool false)), .d (nsl [])]), (2, .box [.d (.raw (.bool false)), .d (nsl [])])] (by kernel_rfl) h ?_; clear h; intro a w h
 refine wp_seq ?_
 refine rSeq tt_ok 3 [(2, .len (c := (.d (.sl 3 (t.parts.map Part.d)))) (n := t.parts.length) (lenC_map _ _ _))] [(1, vi .i64 v), (4, vp 1 0), (5, vp 2 0), (10, .t (.c (.d (.sl 3 (t.parts.map Part.d))))), (11, vi .i64 (t.parts.length : Int)), (12, vi .i64 0)] [(1, .box [.d (.raw (.bool false)), .d (nsl [])]), (2, .box [.d (.raw (.bool false)), .d (nsl [])])] (by kernel_rfl) h ?_; clear h; intro a w h
 refine wp_block ?_
 refine loopS (ι := (Nat) × (ZI)) (fun (z_ : (Nat) × (ZI)) => match z_ with | (j, out) => out = ZI.of (coefZ (t.parts.take j) v) ∧ j ≤ t.parts.length)
   (fun (z_ : (Nat) × (ZI)) => match z_ with | (j, out) => [(1, vi .i64 v), (4, vp 1 0), (5, vp 2 0), (10, .t (.c (.d (.sl 3 (t.parts.map Part.d))))), (11, vi .i64 (t.parts.length : Int)), (12, vi .i64 (j : Int))])
   (fun (z_ : (Nat) × (ZI)) => match z_ with | (j, out) => [(1, .box [.d (.raw (.bool false)), .d (nsl [])]), (2, .box (zi out))])
   (fun (z_ : (Nat) × (ZI)) => match z_ with | (j, out) => t.parts.length - j) (0, (ZI.of 0)) ?_ h (by kernel_rfl) (by kernel_rfl) ?_
 ·exact ⟨by simp [coefZ], Nat.zero_le _⟩
 ·clear h; rintro ⟨j, out⟩ a w hI h
  change St _ (F.of [(1, vi .i64 v), (4, vp 1 0), (5, vp 2 0), (10, .t (.c (.d (.sl 3 (t.parts.map Part.d))))), (11, vi .i64 (t.parts.length : Int)), (12, vi .i64 (j : Int))] [(1, .box [.d (.raw (.bool false)), .d (nsl [])]), (2, .box (zi out))]) a w at h
  obtain ⟨hI1, hI2⟩ := hI
  have ln := ht.1
  have lo : out.abs.length ≤ 40001 := by rw [hI1]; exact coef_len (ht.take j) v
  have ho : Lb out.abs := by rw [hI1]; exact ZI.lb_of _
  have vo : out.val = coefZ (t.parts.take j) v := by rw [hI1]; exact ZI.val_of _
  refine rSeq tt_ok 3 [] [(1, vi .i64 v), (4, vp 1 0), (5, vp 2 0), (10, .t (.c (.d (.sl 3 (t.parts.map Part.d))))), (11, vi .i64 (t.parts.length : Int)), (12, vi .i64 (j : Int)), (13, vb (decide ((j : Int) < (t.parts.length : Int))))] [(1, .box [.d (.raw (.bool false)), .d (nsl [])]), (2, .box (zi out))] (by kernel_rfl) h ?_; clear h; intro a w h
  refine wp_seq ?_
  refine condS (decide ((j : Int) < (t.parts.length : Int))) h rfl (fun hc => ?_) (fun hc => ?_)
  ·have hc1 := hc; clear hc
   have hc1' := of_decide_eq_true hc1
   refine wp_skip ?_
   refine then_n ?_
   refine wp_seq ?_
   refine wp_block ?_
   obtain ⟨x1, hx1⟩ : ∃ z_ : Part, t.parts[j]? = some z_ := ⟨_, List.getElem?_eq_getElem (by first | omega | (simp at *; omega))⟩
   obtain ⟨ox1, lx1⟩ := ht.get hx1
   refine rSeq tt_ok 3 [(0, .gen _ _ _ fun _ _ _ _ => Op.idxD (d := 14) (t := 10) (k := .i64) tt_0 (map_at hx1 (f := Part.d)) (OV.tmp 12 _))] [(1, vi .i64 v), (4, vp 1 0), (5, vp 2 0), (7, vp 3 0), (10, .t (.c (.d (.sl 3 (t.parts.map Part.d))))), (11, vi .i64 (t.parts.length : Int)), (12, vi .i64 (j : Int))] [(1, .box [.d (.raw (.bool false)), .d (nsl [])]), (2, .box (zi out)), (3, .box ([.d (.raw (.int .i64 x1.v))] ++ zi x1.c))] (by kernel_rfl) h ?_; clear h; intro a w h
   rcases Bool.eq_false_or_eq_true (x1.v == v) with hc | hc
   ·have hc2 := hc; clear hc
    have hc2' := hc2; (try simp at hc2')
    refine rSeq tt_ok 4 [(3, .cmp (op := .eql) (m := x1.v) (n := v) (b := true) .i64 hc2)] [(1, vi .i64 v), (4, vp 1 0), (5, vp 2 0), (7, vp 3 0), (10, .t (.c (.d (.sl 3 (t.parts.map Part.d))))), (11, vi .i64 (t.parts.length : Int)), (12, vi .i64 (j : Int)), (23, vb (decide (v ≥ 0)))] [(1, .box [.d (.raw (.bool false)), .d (nsl [])]), (2, .box (zi out)), (3, .box ([.d (.raw (.int .i64 x1.v))] ++ zi x1.c))] (by kernel_rfl) h ?_; clear h; intro a w h
    refine condS (decide (v ≥ 0)) h rfl (fun hc => ?_) (fun hc => ?_)
    ·have hc3 := hc; clear hc
     have hc3' := of_decide_eq_true hc3
     obtain ⟨r2, er2, vr2, or2, lr2⟩ := mkZ (v := out.val + x1.c.val) (m := out.abs.length + x1.c.abs.length + 1) (len_add ho ox1)
     refine rS tt_ok 4 [(3, .call (Fn.cast (SAdd out x1.c ho ox1 (by omega) (by omega)) (congrArg vz er2.symm)) tt_1)] [(1, vi .i64 v), (4, vp 1 0), (5, vp 2 0), (10, .t (.c (.d (.sl 3 (t.parts.map Part.d))))), (11, vi .i64 (t.parts.length : Int)), (12, vi .i64 (j : Int))] [(1, .box [.d (.raw (.bool false)), .d (nsl [])]), (2, .box (zi r2))] (by kernel_rfl) h ?_; clear h; intro a w h
     refine block_n ?_
     refine then_n ?_
     refine rS tt_ok 4 [(0, .add .i64 (m := (j : Int)) (n := 1) (i64_id (by omega) (by omega)))] [(1, vi .i64 v), (4, vp 1 0), (5, vp 2 0), (10, .t (.c (.d (.sl 3 (t.parts.map Part.d))))), (11, vi .i64 (t.parts.length : Int)), (12, vi .i64 ((j : Int) + 1))] [(1, .box [.d (.raw (.bool false)), .d (nsl [])]), (2, .box (zi r2))] (by kernel_rfl) h ?_; clear h; intro a w h
     refine then_n ?_
     refine roundS (x := (j, out)) (y := (j + 1, r2)) h ?_ ?_ (by kernel_rfl) (by kernel_rfl)
     ·have hc : x1.v = v ∧ 0 ≤ v := ⟨by simpa using hc2, by have := hc3'; omega⟩
      exact ⟨by rw [er2, vo, coefZ_take hx1, if_pos hc], by have := (List.getElem?_eq_some_iff.1 hx1).1; omega⟩
     ·simp; omega
    ·have hc4 := hc; clear hc
     have hc4' := of_decide_eq_false hc4
     refine wp_skip ?_
     refine block_n ?_
     refine then_n ?_
     refine rS tt_ok 4 [(0, .add .i64 (m := (j : Int)) (n := 1) (i64_id (by omega) (by omega)))] [(1, vi .i64 v), (4, vp 1 0), (5, vp 2 0), (10, .t (.c (.d (.sl 3 (t.parts.map Part.d))))), (11, vi .i64 (t.parts.length : Int)), (12, vi .i64 ((j : Int) + 1))] [(1, .box [.d (.raw (.bool false)), .d (nsl [])]), (2, .box (zi out))] (by kernel_rfl) h ?_; clear h; intro a w h
     refine then_n ?_
     refine roundS (x := (j, out)) (y := (j + 1, out)) h ?_ ?_ (by kernel_rfl) (by kernel_rfl)
     ·exact ⟨by rw [hI1, coefZ_take hx1, if_neg (fun hc => absurd hc.2 (by have := hc4'; omega)), Int.add_zero], by have := (List.getElem?_eq_some_iff.1 hx1).1; omega⟩
     ·simp; omega
   ·have hc5 := hc; clear hc
    have hc5' := hc5; (try simp at hc5')
    refine rSeq tt_ok 4 [(3, .cmp (op := .eql) (m := x1.v) (n := v) (b := false) .i64 hc5)] [(1, vi .i64 v), (4, vp 1 0), (5, vp 2 0), (7, vp 3 0), (10, .t (.c (.d (.sl 3 (t.parts.map Part.d))))), (11, vi .i64 (t.parts.length : Int)), (12, vi .i64 (j : Int)), (23, vb false)] [(1, .box [.d (.raw (.bool false)), .d (nsl [])]), (2, .box (zi out)), (3, .box ([.d (.raw (.int .i64 x1.v))] ++ zi x1.c))] (by kernel_rfl) h ?_; clear h; intro a w h
    refine condS false h rfl (fun hc => ?_) (fun hc => ?_)
    ·cases hc
    ·clear hc
     refine wp_skip ?_
     refine block_n ?_
     refine then_n ?_
     refine rS tt_ok 4 [(0, .add .i64 (m := (j : Int)) (n := 1) (i64_id (by omega) (by omega)))] [(1, vi .i64 v), (4, vp 1 0), (5, vp 2 0), (10, .t (.c (.d (.sl 3 (t.parts.map Part.d))))), (11, vi .i64 (t.parts.length : Int)), (12, vi .i64 ((j : Int) + 1))] [(1, .box [.d (.raw (.bool false)), .d (nsl [])]), (2, .box (zi out))] (by kernel_rfl) h ?_; clear h; intro a w h
     refine then_n ?_
     refine roundS (x := (j, out)) (y := (j + 1, out)) h ?_ ?_ (by kernel_rfl) (by kernel_rfl)
     ·exact ⟨by rw [hI1, coefZ_take hx1, if_neg (fun hc => absurd hc.1 (by simpa using hc5)), Int.add_zero], by have := (List.getElem?_eq_some_iff.1 hx1).1; omega⟩
     ·simp; omega
  ·have hc6 := hc; clear hc
   have hc6' := of_decide_eq_false hc6
   refine wp_exit ?_
   refine then_x ?_
   refine then_x ?_
   refine inBlock_exit ?_
   refine then_n ?_
   refine rSeq tt_ok 4 [] [(4, vp 1 0)] [(1, .box (zi out))] (by kernel_rfl) h ?_; clear h; intro a w h
   refine wp_ret ?_
   refine retS [.agg (zi out)] h Exit.ret (.inl rfl)  rfl ⟨RV.agg _ 1 0 _ _ _ _ tt_2 rfl rfl rfl rfl, trivial⟩ ?_ (by kernel_rfl) (by kernel_rfl)
   have hj : j = t.parts.length := by have := hc6'; omega
   subst hj
   rw [hI1, List.take_length]; first | done | rfl
set_option maxRecDepth 100000 in
theorem SHas (t : Term) (v : Int) {n L : Nat} (ht : TOk n L t) (hn : n ≤ 1000) (hL : L ≤ 20000) : Fn Tryz.prog 26 [] [.t (.agg ([.d (.sl 3 (t.parts.map Part.d))] ++ zi t.k)), vi .i64 v] (vb (sgn (coefZ t.parts v) != 0)) [] := by
 refine Fn.body Tryz.func26 rfl 10 rfl fun w H B a h => ?_
 refine rSeq tt_ok 0 [] [(1, vi .i64 v), (2, vp 0 0), (4, vb false)] [(0, .box ([.d (.sl 3 (t.parts.map Part.d))] ++ zi t.k))] (by kernel_rfl) h ?_; clear h; intro a w h
 obtain ⟨r1, er1, vr1, or1, lr1⟩ := mkZ (v := coefZ t.parts v) (m := L + 1) (coef_len (ht.mono hn (Nat.le_refl L)).psok v)
 refine rSeq tt_ok 1 [(2, .call (Fn.cast (STCoef t v (ht.mono hn (by omega)).psok) (congrArg vz er1.symm)) tt_3), (3, .call (SSign r1 or1 (by omega)) tt_4)] [(4, vb (sgn r1.val != 0))] [] (by kernel_rfl) h ?_; clear h; intro a w h
 refine wp_ret ?_
 refine retS [.c (.d (.raw (.bool (sgn r1.val != 0))))] h Exit.ret (.inl rfl)  rfl ⟨RV.tmp _ _ rfl, trivial⟩ ?_ (by kernel_rfl) (by kernel_rfl)
 rw [vr1]; first | done | rfl
def valAt (vs : List ZI) (v : Int) : Int := if 0 ≤ v then ((vs[v.toNat]?).map ZI.val).getD 0 else 0
def valP (vs : List ZI) : List Part → Int
  | [] => 0
  | p :: ps => p.c.val * valAt vs p.v + valP vs ps
theorem valP_app (vs : List ZI) (ps qs : List Part) : valP vs (ps ++ qs) = valP vs ps + valP vs qs := by
 induction ps with
 | nil => simp [valP]
 | cons p ps ih => simp only [List.cons_append, valP, ih]; omega
theorem valP_take {vs : List ZI} {ps : List Part} {j : Nat} {p : Part} (h : ps[j]? = some p) : valP vs (ps.take (j + 1)) = valP vs (ps.take j) + p.c.val * valAt vs p.v := by
 have : ps.take (j + 1) = ps.take j ++ [p] := by rw [List.take_add_one, h]; rfl
 rw [this, valP_app]; simp [valP]
theorem valAt_some {vs : List ZI} {v : Int} {k : Nat} {y : ZI} (h : v = (k : Int)) (hy : vs[k]? = some y) : valAt vs v = y.val := by
 subst h
 unfold valAt
 rw [if_pos (by omega), Int.toNat_natCast, hy]; rfl
theorem valAt_neg {vs : List ZI} {v : Int} (h : ¬ v ≥ 0) : valAt vs v = 0 := by unfold valAt; rw [if_neg (by omega)]
theorem valAt_out {vs : List ZI} {v : Int} (h : ¬ v < (vs.length : Int)) : valAt vs v = 0 := by
 unfold valAt
 split
 ·rw [List.getElem?_eq_none (by omega)]; rfl
 ·rfl
def valT (t : Term) (vs : List ZI) : Int := t.k.val + valP vs t.parts
def VOk (M : Nat) (vs : List ZI) : Prop := vs.length ≤ 1000 ∧ ∀ y ∈ vs, Lb y.abs ∧ y.abs.length ≤ M
theorem VOk.get {M : Nat} {vs : List ZI} (h : VOk M vs) {j : Nat} {y : ZI} (hy : vs[j]? = some y) : Lb y.abs ∧ y.abs.length ≤ M := h.2 y (List.mem_of_getElem? hy)
theorem valAt_lt {M : Nat} {vs : List ZI} (h : VOk M vs) (v : Int) : (valAt vs v).natAbs < pw M := by
 unfold valAt
 split
 ·cases hy : vs[v.toNat]? with
  | none => exact pw_pos M
  | some y =>
   obtain ⟨h1, h2⟩ := h.get hy
   have h3 := ZI.abs_lt h1
   have h4 := pw_le h2
   show y.val.natAbs < _
   omega
 ·exact pw_pos M
theorem valP_lt {L M : Nat} {vs : List ZI} (hv : VOk M vs) : ∀ {ps : List Part}, (∀ p ∈ ps, Lb p.c.abs ∧ p.c.abs.length ≤ L) → (valP vs ps).natAbs ≤ ps.length * pw (L + M)
 | [], _ => by simp [valP]
 | p :: ps, h => by
  have ih := valP_lt hv (fun q hq => h q (by simp [hq])) (ps := ps)
  obtain ⟨h1, h2⟩ := h p (by simp)
  have h3 := Nat.lt_of_lt_of_le (ZI.abs_lt h1) (pw_le h2)
  have h4 : (p.c.val * valAt vs p.v).natAbs < pw (L + M) := by
   rw [Int.natAbs_mul, pw_add]
   exact Nat.mul_lt_mul'' h3 (valAt_lt hv p.v)
  simp only [valP, List.length_cons, Nat.add_mul]
  omega
theorem val_len {n L M : Nat} {t : Term} {vs : List ZI} (ht : TOk n L t) (hn : n ≤ 1000) (hv : VOk M vs) {ps : List Part} (hp : ∀ p ∈ ps, p ∈ t.parts) (hl : ps.length ≤ t.parts.length) : (ZI.of (t.k.val + valP vs ps)).abs.length ≤ L + M + 1 := by
 refine ZI.len_of ?_
 have h1 := valP_lt hv (fun p h => ht.ps p (hp p h)) (L := L)
 have h2 : ps.length * pw (L + M) ≤ 1000 * pw (L + M) := Nat.mul_le_mul_right _ (by have := ht.len; omega)
 have h3 := Nat.lt_of_lt_of_le (ZI.abs_lt ht.kb) (pw_le ht.kl)
 have h4 := pw_le (show L ≤ L + M by omega)
 rw [pw_succ]
 omega
set_option maxRecDepth 100000 in
theorem SValue (t : Term) (vs : List ZI) {n L M : Nat} (ht : TOk n L t) (hn : n ≤ 1000) (hL : L + M ≤ 20000) (hv : VOk M vs) : Fn Tryz.prog 11 [] [.t (.agg ([.d (.sl 3 (t.parts.map Part.d))] ++ zi t.k)), .t (.c (.d (.sl 2 (vs.map ziD))))] (vz (ZI.of (valT t vs))) [] := by
 have kt := ht.kl
 have lnv := hv.1
 refine Fn.body Tryz.func11 rfl 40 rfl fun w H B a h => ?_
 refine rSeq tt_ok 0 [] [(1, .t (.c (.d (.sl 2 (vs.map ziD))))), (2, vp 0 0), (4, vp 1 0)] [(0, .box ([.d (.sl 3 (t.parts.map Part.d))] ++ zi t.k)), (1, .box [.d (.raw (.bool false)), .d (nsl [])])] (by kernel_rfl) h ?_; clear h; intro a w h
 obtain ⟨r1, er1, vr1, or1, lr1⟩ := mkZ (v := t.k.val) (m := t.k.abs.length) (len_id ht.kb)
 refine rSeq tt_ok 2 [(2, .call (Fn.cast (Scopied t.k ht.kb (by omega)) (congrArg vz er1.symm)) tt_5)] [(1, .t (.c (.d (.sl 2 (vs.map ziD))))), (2, vp 0 0), (4, vp 1 0), (5, vp 2 0)] [(0, .box ([.d (.sl 3 (t.parts.map Part.d))] ++ zi t.k)), (1, .box [.d (.raw (.bool false)), .d (nsl [])]), (2, .box (zi r1))] (by kernel_rfl) h ?_; clear h; intro a w h
 refine wp_seq ?_
 refine rSeq tt_ok 3 [(2, .len (c := (.d (.sl 3 (t.parts.map Part.d)))) (n := t.parts.length) (lenC_map _ _ _))] [(1, .t (.c (.d (.sl 2 (vs.map ziD))))), (4, vp 1 0), (5, vp 2 0), (12, .t (.c (.d (.sl 3 (t.parts.map Part.d))))), (13, vi .i64 (t.parts.length : Int)), (14, vi .i64 0)] [(1, .box [.d (.raw (.bool false)), .d (nsl [])]), (2, .box (zi r1))] (by kernel_rfl) h ?_; clear h; intro a w h
 refine wp_block ?_
 refine loopS (ι := (Nat) × (ZI)) (fun (z_ : (Nat) × (ZI)) => match z_ with | (j, out) => out = ZI.of (t.k.val + valP vs (t.parts.take j)) ∧ j ≤ t.parts.length)
   (fun (z_ : (Nat) × (ZI)) => match z_ with | (j, out) => [(1, .t (.c (.d (.sl 2 (vs.map ziD))))), (4, vp 1 0), (5, vp 2 0), (12, .t (.c (.d (.sl 3 (t.parts.map Part.d))))), (13, vi .i64 (t.parts.length : Int)), (14, vi .i64 (j : Int))])
   (fun (z_ : (Nat) × (ZI)) => match z_ with | (j, out) => [(1, .box [.d (.raw (.bool false)), .d (nsl [])]), (2, .box (zi out))])
   (fun (z_ : (Nat) × (ZI)) => match z_ with | (j, out) => t.parts.length - j) (0, r1) ?_ h (by kernel_rfl) (by kernel_rfl) ?_
 ·exact ⟨by rw [er1]; simp [valP], Nat.zero_le _⟩
 ·clear h; rintro ⟨j, out⟩ a w hI h
  change St _ (F.of [(1, .t (.c (.d (.sl 2 (vs.map ziD))))), (4, vp 1 0), (5, vp 2 0), (12, .t (.c (.d (.sl 3 (t.parts.map Part.d))))), (13, vi .i64 (t.parts.length : Int)), (14, vi .i64 (j : Int))] [(1, .box [.d (.raw (.bool false)), .d (nsl [])]), (2, .box (zi out))]) a w at h
  obtain ⟨hI1, hI2⟩ := hI
  have ln := ht.len
  have lo : out.abs.length ≤ L + M + 1 := by rw [hI1]; exact val_len ht hn hv (fun p hp => List.mem_of_mem_take hp) (by rw [List.length_take]; omega)
  have ho : Lb out.abs := by rw [hI1]; exact ZI.lb_of _
  have vo : out.val = t.k.val + valP vs (t.parts.take j) := by rw [hI1]; exact ZI.val_of _
  refine rSeq tt_ok 3 [] [(1, .t (.c (.d (.sl 2 (vs.map ziD))))), (4, vp 1 0), (5, vp 2 0), (12, .t (.c (.d (.sl 3 (t.parts.map Part.d))))), (13, vi .i64 (t.parts.length : Int)), (14, vi .i64 (j : Int)), (15, vb (decide ((j : Int) < (t.parts.length : Int))))] [(1, .box [.d (.raw (.bool false)), .d (nsl [])]), (2, .box (zi out))] (by kernel_rfl) h ?_; clear h; intro a w h
  refine wp_seq ?_
  refine condS (decide ((j : Int) < (t.parts.length : Int))) h rfl (fun hc => ?_) (fun hc => ?_)
  ·have hc1 := hc; clear hc
   have hc1' := of_decide_eq_true hc1
   refine wp_skip ?_
   refine then_n ?_
   refine wp_seq ?_
   refine wp_block ?_
   obtain ⟨x2, hx2⟩ : ∃ z_ : Part, t.parts[j]? = some z_ := ⟨_, List.getElem?_eq_getElem (by first | omega | (simp at *; omega))⟩
   obtain ⟨ox2, lx2⟩ := ht.get hx2
   refine rSeq tt_ok 3 [(0, .gen _ _ _ fun _ _ _ _ => Op.idxD (d := 16) (t := 12) (k := .i64) tt_0 (map_at hx2 (f := Part.d)) (OV.tmp 14 _))] [(1, .t (.c (.d (.sl 2 (vs.map ziD))))), (4, vp 1 0), (5, vp 2 0), (7, vp 3 0), (12, .t (.c (.d (.sl 3 (t.parts.map Part.d))))), (13, vi .i64 (t.parts.length : Int)), (14, vi .i64 (j : Int))] [(1, .box [.d (.raw (.bool false)), .d (nsl [])]), (2, .box (zi out)), (3, .box ([.d (.raw (.int .i64 x2.v))] ++ zi x2.c))] (by kernel_rfl) h ?_; clear h; intro a w h
   rcases Bool.eq_false_or_eq_true (decide (x2.v ≥ 0)) with hc | hc
   ·have hc2 := hc; clear hc
    have hc2' := of_decide_eq_true hc2
    refine rSeq tt_ok 4 [(2, .cmp (op := .geq) (m := x2.v) (n := 0) (b := true) .i64 hc2), (7, .len (c := (.d (.sl 2 (vs.map ziD)))) (n := vs.length) (lenC_map _ _ _))] [(1, .t (.c (.d (.sl 2 (vs.map ziD))))), (4, vp 1 0), (5, vp 2 0), (7, vp 3 0), (12, .t (.c (.d (.sl 3 (t.parts.map Part.d))))), (13, vi .i64 (t.parts.length : Int)), (14, vi .i64 (j : Int)), (27, vb (decide (x2.v < (vs.length : Int))))] [(1, .box [.d (.raw (.bool false)), .d (nsl [])]), (2, .box (zi out)), (3, .box ([.d (.raw (.int .i64 x2.v))] ++ zi x2.c))] (by kernel_rfl) h ?_; clear h; intro a w h
    refine condS (decide (x2.v < (vs.length : Int))) h rfl (fun hc => ?_) (fun hc => ?_)
    ·have hc3 := hc; clear hc
     have hc3' := of_decide_eq_true hc3
     obtain ⟨k, hk⟩ : ∃ k : Nat, x2.v = (k : Int) := ⟨_, (Int.toNat_of_nonneg (by omega)).symm⟩
     replace h := h.conv (f' := F.of [(1, .t (.c (.d (.sl 2 (vs.map ziD))))), (4, vp 1 0), (5, vp 2 0), (7, vp 3 0), (12, .t (.c (.d (.sl 3 (t.parts.map Part.d))))), (13, vi .i64 (t.parts.length : Int)), (14, vi .i64 (j : Int)), (27, vb (decide (x2.v < (vs.length : Int))))] [(1, .box [.d (.raw (.bool false)), .d (nsl [])]), (2, .box (zi out)), (3, .box ([.d (.raw (.int .i64 (k : Int)))] ++ zi x2.c))]) (by rw [hk])
     obtain ⟨x3, hx3⟩ : ∃ z_ : ZI, vs[k]? = some z_ := ⟨_, List.getElem?_eq_getElem (by first | omega | (simp at *; omega))⟩
     obtain ⟨ox3, lx3⟩ := hv.get hx3
     obtain ⟨r4, er4, vr4, or4, lr4⟩ := mkZ (v := x2.c.val * x3.val) (m := x2.c.abs.length + x3.abs.length) (len_mul ox2 ox3)
     obtain ⟨r5, er5, vr5, or5, lr5⟩ := mkZ (v := out.val + r4.val) (m := out.abs.length + r4.abs.length + 1) (len_add ho or4)
     refine rS tt_ok 4 [(6, .gen _ _ _ fun _ _ _ _ => Op.idxD (d := 34) (t := 31) (k := .i64) tt_6 (map_at hx3 (f := ziD)) (OV.tmp 33 _)), (8, .call (Fn.cast (SMul x2.c x3 ox2 ox3 (by omega) (by omega)) (congrArg vz er4.symm)) tt_7), (9, .call (Fn.cast (SAdd out r4 ho or4 (by omega) (by omega)) (congrArg vz er5.symm)) tt_1)] [(1, .t (.c (.d (.sl 2 (vs.map ziD))))), (4, vp 1 0), (5, vp 2 0), (12, .t (.c (.d (.sl 3 (t.parts.map Part.d))))), (13, vi .i64 (t.parts.length : Int)), (14, vi .i64 (j : Int))] [(1, .box [.d (.raw (.bool false)), .d (nsl [])]), (2, .box (zi r5))] (by kernel_rfl) h ?_; clear h; intro a w h
     refine block_n ?_
     refine then_n ?_
     refine rS tt_ok 4 [(0, .add .i64 (m := (j : Int)) (n := 1) (i64_id (by omega) (by omega)))] [(1, .t (.c (.d (.sl 2 (vs.map ziD))))), (4, vp 1 0), (5, vp 2 0), (12, .t (.c (.d (.sl 3 (t.parts.map Part.d))))), (13, vi .i64 (t.parts.length : Int)), (14, vi .i64 ((j : Int) + 1))] [(1, .box [.d (.raw (.bool false)), .d (nsl [])]), (2, .box (zi r5))] (by kernel_rfl) h ?_; clear h; intro a w h
     refine then_n ?_
     refine roundS (x := (j, out)) (y := ((j + 1), r5)) h ?_ ?_ (by kernel_rfl) (by kernel_rfl)
     ·have := at_lt hx2
      exact ⟨by rw [er5, vr4, vo, valP_take hx2, valAt_some hk hx3, ← Int.add_assoc], by omega⟩
     ·show t.parts.length - (j + 1) < t.parts.length - j
      have := at_lt hx2; omega
    ·have hc4 := hc; clear hc
     have hc4' := of_decide_eq_false hc4
     refine wp_skip ?_
     refine block_n ?_
     refine then_n ?_
     refine rS tt_ok 4 [(0, .add .i64 (m := (j : Int)) (n := 1) (i64_id (by omega) (by omega)))] [(1, .t (.c (.d (.sl 2 (vs.map ziD))))), (4, vp 1 0), (5, vp 2 0), (12, .t (.c (.d (.sl 3 (t.parts.map Part.d))))), (13, vi .i64 (t.parts.length : Int)), (14, vi .i64 ((j : Int) + 1))] [(1, .box [.d (.raw (.bool false)), .d (nsl [])]), (2, .box (zi out))] (by kernel_rfl) h ?_; clear h; intro a w h
     refine then_n ?_
     refine roundS (x := (j, out)) (y := ((j + 1), out)) h ?_ ?_ (by kernel_rfl) (by kernel_rfl)
     ·have := at_lt hx2
      exact ⟨by rw [hI1, valP_take hx2, valAt_out hc4', Int.mul_zero, Int.add_zero], by omega⟩
     ·show t.parts.length - (j + 1) < t.parts.length - j
      have := at_lt hx2; omega
   ·have hc5 := hc; clear hc
    have hc5' := of_decide_eq_false hc5
    refine rSeq tt_ok 4 [(2, .cmp (op := .geq) (m := x2.v) (n := 0) (b := false) .i64 hc5)] [(1, .t (.c (.d (.sl 2 (vs.map ziD))))), (4, vp 1 0), (5, vp 2 0), (7, vp 3 0), (12, .t (.c (.d (.sl 3 (t.parts.map Part.d))))), (13, vi .i64 (t.parts.length : Int)), (14, vi .i64 (j : Int)), (27, vb false)] [(1, .box [.d (.raw (.bool false)), .d (nsl [])]), (2, .box (zi out)), (3, .box ([.d (.raw (.int .i64 x2.v))] ++ zi x2.c))] (by kernel_rfl) h ?_; clear h; intro a w h
    refine condS false h rfl (fun hc => ?_) (fun hc => ?_)
    ·cases hc
    ·clear hc
     refine wp_skip ?_
     refine block_n ?_
     refine then_n ?_
     refine rS tt_ok 4 [(0, .add .i64 (m := (j : Int)) (n := 1) (i64_id (by omega) (by omega)))] [(1, .t (.c (.d (.sl 2 (vs.map ziD))))), (4, vp 1 0), (5, vp 2 0), (12, .t (.c (.d (.sl 3 (t.parts.map Part.d))))), (13, vi .i64 (t.parts.length : Int)), (14, vi .i64 ((j : Int) + 1))] [(1, .box [.d (.raw (.bool false)), .d (nsl [])]), (2, .box (zi out))] (by kernel_rfl) h ?_; clear h; intro a w h
     refine then_n ?_
     refine roundS (x := (j, out)) (y := ((j + 1), out)) h ?_ ?_ (by kernel_rfl) (by kernel_rfl)
     ·have := at_lt hx2
      exact ⟨by rw [hI1, valP_take hx2, valAt_neg hc5', Int.mul_zero, Int.add_zero], by omega⟩
     ·show t.parts.length - (j + 1) < t.parts.length - j
      have := at_lt hx2; omega
  ·have hc6 := hc; clear hc
   have hc6' := of_decide_eq_false hc6
   refine wp_exit ?_
   refine then_x ?_
   refine then_x ?_
   refine inBlock_exit ?_
   refine then_n ?_
   refine rSeq tt_ok 4 [] [(4, vp 1 0)] [(1, .box (zi out))] (by kernel_rfl) h ?_; clear h; intro a w h
   refine wp_ret ?_
   refine retS [.agg (zi out)] h Exit.ret (.inl rfl)  rfl ⟨RV.agg _ 1 0 _ _ _ _ tt_2 rfl rfl rfl rfl, trivial⟩ ?_ (by kernel_rfl) (by kernel_rfl)
   have hj : j = t.parts.length := by omega
   subst hj
   rw [hI1, List.take_length]; first | done | rfl
theorem plain_vars (t : Term) : (plainT t).parts.map Part.v = varsZ t.parts := by
 show ((varsZ t.parts).map (partOf t.parts)).map Part.v = _
 rw [List.map_map]
 exact (List.map_congr_left fun v _ => rfl).trans (List.map_id _)
set_option maxRecDepth 100000 in
theorem STVars (t : Term) {n L : Nat} (ht : TOk n L t) (hn : n ≤ 1000) (hL : L ≤ 20000) : Fn Tryz.prog 24 [] [.t (.agg ([.d (.sl 3 (t.parts.map Part.d))] ++ zi t.k))] (.t (.c (.d (.sl 1 ((varsZ t.parts).map intD))))) [] := by
 have lpp := (ht.plain hn).len
 refine Fn.body Tryz.func24 rfl 21 rfl fun w H B a h => ?_
 refine rSeq tt_ok 0 [] [(1, vp 0 0), (2, .t (.c (.d (.raw nilV))))] [(0, .box ([.d (.sl 3 (t.parts.map Part.d))] ++ zi t.k))] (by kernel_rfl) h ?_; clear h; intro a w h
 refine rSeq tt_ok 1 [] [(1, vp 0 0), (2, .t (.c (.d (.raw nilV)))), (3, .t (.c (.d (.raw nilV))))] [(0, .box ([.d (.sl 3 (t.parts.map Part.d))] ++ zi t.k))] (by kernel_rfl) h ?_; clear h; intro a w h
 refine wp_seq ?_
 replace h := nilOSs 3 0 1 1 3 (.t (.c (.d (.raw nilV)))) [(1, vp 0 0), (2, .t (.c (.d (.raw nilV)))), (3, .t (.c (.own 1 0)))] [(0, .box ([.d (.sl 3 (t.parts.map Part.d))] ++ zi t.k)), (1, .row 3 1 ([].map intD))] h (by kernel_rfl) rfl rfl (by kernel_rfl) (by kernel_rfl)
 refine rSeq tt_ok 2 [(1, .call (SPlain t ht (by omega) (by omega)) tt_8), (3, .len (c := (.d (.sl 3 ((plainT t).parts.map Part.d)))) (n := (plainT t).parts.length) (lenC_map _ _ _))] [(2, .t (.c (.d (.raw nilV)))), (3, .t (.c (.own 1 0))), (8, .t (.c (.d (.sl 3 ((plainT t).parts.map Part.d))))), (9, vi .i64 ((plainT t).parts.length : Int)), (10, vi .i64 0)] [(1, .row 3 1 ([].map intD))] (by kernel_rfl) h ?_; clear h; intro a w h
 refine wp_block ?_
 refine loopS (ι := (Nat) × (List Int)) (fun (z_ : (Nat) × (List Int)) => match z_ with | (j, out) => out = ((plainT t).parts.take j).map Part.v ∧ j ≤ (plainT t).parts.length ∧ out.length ≤ j)
   (fun (z_ : (Nat) × (List Int)) => match z_ with | (j, out) => [(2, .t (.c (.d (.raw nilV)))), (3, .t (.c (.own 1 out.length))), (8, .t (.c (.d (.sl 3 ((plainT t).parts.map Part.d))))), (9, vi .i64 ((plainT t).parts.length : Int)), (10, vi .i64 (j : Int))])
   (fun (z_ : (Nat) × (List Int)) => match z_ with | (j, out) => [(1, .row 3 1 (out.map intD))])
   (fun (z_ : (Nat) × (List Int)) => match z_ with | (j, out) => (plainT t).parts.length - j) (0, []) ?_ h (by kernel_rfl) (by kernel_rfl) ?_
 ·exact ⟨by simp, Nat.zero_le _, Nat.zero_le _⟩
 ·clear h; rintro ⟨j, out⟩ a w hI h
  change St _ (F.of [(2, .t (.c (.d (.raw nilV)))), (3, .t (.c (.own 1 out.length))), (8, .t (.c (.d (.sl 3 ((plainT t).parts.map Part.d))))), (9, vi .i64 ((plainT t).parts.length : Int)), (10, vi .i64 (j : Int))] [(1, .row 3 1 (out.map intD))]) a w at h
  obtain ⟨hI1, hI2, hI3⟩ := hI
  refine rSeq tt_ok 2 [] [(2, .t (.c (.d (.raw nilV)))), (3, .t (.c (.own 1 out.length))), (8, .t (.c (.d (.sl 3 ((plainT t).parts.map Part.d))))), (9, vi .i64 ((plainT t).parts.length : Int)), (10, vi .i64 (j : Int)), (11, vb (decide ((j : Int) < ((plainT t).parts.length : Int))))] [(1, .row 3 1 (out.map intD))] (by kernel_rfl) h ?_; clear h; intro a w h
  refine wp_seq ?_
  refine condS (decide ((j : Int) < ((plainT t).parts.length : Int))) h rfl (fun hc => ?_) (fun hc => ?_)
  ·have hc1 := hc; clear hc
   have hc1' := of_decide_eq_true hc1
   refine wp_skip ?_
   refine then_n ?_
   refine wp_seq ?_
   refine wp_block ?_
   obtain ⟨x2, hx2⟩ : ∃ z_ : Part, (plainT t).parts[j]? = some z_ := ⟨_, List.getElem?_eq_getElem (by first | omega | (simp at *; omega))⟩
   refine rSeq tt_ok 2 [(0, .gen _ _ _ fun _ _ _ _ => Op.idxD (d := 12) (t := 8) (k := .i64) tt_0 (map_at hx2 (f := Part.d)) (OV.tmp 10 _))] [(2, .t (.c (.d (.raw nilV)))), (3, .t (.c (.own 1 out.length))), (5, vp 2 0), (8, .t (.c (.d (.sl 3 ((plainT t).parts.map Part.d))))), (9, vi .i64 ((plainT t).parts.length : Int)), (10, vi .i64 (j : Int))] [(1, .row 3 1 (out.map intD)), (2, .box ([.d (.raw (.int .i64 x2.v))] ++ zi x2.c))] (by kernel_rfl) h ?_; clear h; intro a w h
   refine rS tt_ok 3 [(3, .gen _ _ _ fun _ _ _ _ => Op.buildD (d := 17) (len := 1) (rows := [x2.v].map intD) (rs := [(16, vi .i64 x2.v)]) tt_9 (.cons (i := 0) (OV.tmp 16 _) (.nil)) (by kernel_rfl) rfl (by simp [intD]) (by decide) (by decide)), (4, .gen _ _ _ fun _ _ _ _ => Op.appOD (d := 18) (t := 14) (u := 17) (n := 1) (n' := 3) (len := out.length) (len' := (out ++ [x2.v]).length) (rows := out.map intD) (rows2 := [x2.v].map intD) (rows' := (out ++ [x2.v]).map intD) tt_10 (by first | exact (List.length_map _).symm | simp) (by first | (rw [List.length_append, List.length_map]; done) | simp) (by simp) (by simp [intD]) (by first | omega | (simp at *; done) | (simp at *; omega)))] [(2, .t (.c (.d (.raw nilV)))), (3, .t (.c (.own 3 (out ++ [x2.v]).length))), (8, .t (.c (.d (.sl 3 ((plainT t).parts.map Part.d))))), (9, vi .i64 ((plainT t).parts.length : Int)), (10, vi .i64 (j : Int))] [(3, .row 3 1 ((out ++ [x2.v]).map intD))] (by kernel_rfl) h ?_; clear h; intro a w h
   refine block_n ?_
   refine then_n ?_
   refine rS tt_ok 4 [(0, .add .i64 (m := (j : Int)) (n := 1) (i64_id (by omega) (by omega)))] [(2, .t (.c (.d (.raw nilV)))), (3, .t (.c (.own 3 (out ++ [x2.v]).length))), (8, .t (.c (.d (.sl 3 ((plainT t).parts.map Part.d))))), (9, vi .i64 ((plainT t).parts.length : Int)), (10, vi .i64 ((j : Int) + 1))] [(3, .row 3 1 ((out ++ [x2.v]).map intD))] (by kernel_rfl) h ?_; clear h; intro a w h
   refine then_n ?_
   replace h := renS 3 1 [(2, .t (.c (.d (.raw nilV)))), (3, .t (.c (.own 1 (out ++ [x2.v]).length))), (8, .t (.c (.d (.sl 3 ((plainT t).parts.map Part.d))))), (9, vi .i64 ((plainT t).parts.length : Int)), (10, vi .i64 ((j : Int) + 1))] [(1, .row 3 1 ((out ++ [x2.v]).map intD))] h (by kernel_rfl) (by kernel_rfl) (by kernel_rfl)
   refine roundS (x := (j, out)) (y := ((j + 1), (out ++ [x2.v]))) h ?_ ?_ (by kernel_rfl) (by kernel_rfl)
   ·refine ⟨?_, by have := at_lt hx2; omega, by simp; omega⟩
    rw [take_map hx2, ← hI1]
   ·show (plainT t).parts.length - (j + 1) < (plainT t).parts.length - j
    have := at_lt hx2; omega
  ·have hc2 := hc; clear hc
   have hc2' := of_decide_eq_false hc2
   refine wp_exit ?_
   refine then_x ?_
   refine then_x ?_
   refine inBlock_exit ?_
   refine then_n ?_
   have hj : j = (plainT t).parts.length := by omega
   rw [hj, List.take_length, plain_vars] at hI1
   replace h := h.conv (f' := F.of [(2, .t (.c (.d (.raw nilV)))), (3, .t (.c (.own 1 out.length))), (8, .t (.c (.d (.sl 3 ((plainT t).parts.map Part.d))))), (9, vi .i64 ((plainT t).parts.length : Int)), (10, vi .i64 (j : Int)), (11, vb (decide ((j : Int) < ((plainT t).parts.length : Int))))] [(1, .row 3 1 ((varsZ t.parts).map intD))]) (congrArg (fun (z_ : List Int) => F.of [(2, .t (.c (.d (.raw nilV)))), (3, .t (.c (.own 1 out.length))), (8, .t (.c (.d (.sl 3 ((plainT t).parts.map Part.d))))), (9, vi .i64 ((plainT t).parts.length : Int)), (10, vi .i64 (j : Int)), (11, vb (decide ((j : Int) < ((plainT t).parts.length : Int))))] [(1, .row 3 1 (z_.map intD))]) (show (out : List Int) = (varsZ t.parts) from hI1))
   replace h := h.conv (f' := F.of [(2, .t (.c (.d (.raw nilV)))), (3, .t (.c (.own 1 (varsZ t.parts).length))), (8, .t (.c (.d (.sl 3 ((plainT t).parts.map Part.d))))), (9, vi .i64 ((plainT t).parts.length : Int)), (10, vi .i64 (j : Int)), (11, vb (decide ((j : Int) < ((plainT t).parts.length : Int))))] [(1, .row 3 1 ((varsZ t.parts).map intD))]) (by rw [hI1])
   replace h := pubS 1 1 3 ((varsZ t.parts).map intD) [(2, .t (.c (.d (.raw nilV)))), (3, .t (.c (.d (.sl 1 ((varsZ t.parts).map intD))))), (8, .t (.c (.d (.sl 3 ((plainT t).parts.map Part.d))))), (9, vi .i64 ((plainT t).parts.length : Int)), (10, vi .i64 (j : Int)), (11, vb (decide ((j : Int) < ((plainT t).parts.length : Int))))] [] h rfl (show AllEq _ [(varsZ t.parts).length] from ⟨by first | exact (List.length_map _).symm | simp, trivial⟩) trivial (by kernel_rfl) (by kernel_rfl)
   refine rSeq tt_ok 4 [] [(2, .t (.c (.d (.sl 1 ((varsZ t.parts).map intD)))))] [] (by kernel_rfl) h ?_; clear h; intro a w h
   refine wp_ret ?_
   refine retS [.c (.d (.sl 1 ((varsZ t.parts).map intD)))] h Exit.ret (.inl rfl)  rfl ⟨RV.tmp _ _ rfl, trivial⟩ ?_ (by kernel_rfl) (by kernel_rfl)
   rfl
def conZ (ps : List Part) : Int := ps.foldl (fun g p => (Nat.gcd g.natAbs p.c.val.natAbs : Int)) 0
theorem con_take {ps : List Part} {j : Nat} {p : Part} (h : ps[j]? = some p) : conZ (ps.take (j + 1)) = (Nat.gcd (conZ (ps.take j)).natAbs p.c.val.natAbs : Int) := by
 unfold conZ; rw [foldl_take h]
theorem con_nonneg (ps : List Part) : 0 ≤ conZ ps := by
 have key : ∀ (ps : List Part) (g : Int), 0 ≤ g → 0 ≤ ps.foldl (fun g p => (Nat.gcd g.natAbs p.c.val.natAbs : Int)) g := by
  intro ps
  induction ps with
  | nil => intro g h; exact h
  | cons p ps ih => intro g h; exact ih _ (Int.natCast_nonneg _)
 exact key ps 0 (Int.le_refl 0)
theorem con_le {L : Nat} {ps : List Part} (h : ∀ p ∈ ps, p.c.val.natAbs < pw L ∧ p.c.val ≠ 0) : (conZ ps).natAbs < pw L := by
 have key : ∀ (ps : List Part), (∀ p ∈ ps, p.c.val.natAbs < pw L ∧ p.c.val ≠ 0) → ∀ g : Int, g.natAbs < pw L → (ps.foldl (fun g p => (Nat.gcd g.natAbs p.c.val.natAbs : Int)) g).natAbs < pw L := by
  intro ps
  induction ps with
  | nil => intro _ g h; exact h
  | cons p ps ih =>
   intro hp g h
   obtain ⟨h1, h2⟩ := hp p (by simp)
   refine ih (fun q hq => hp q (by simp [hq])) _ ?_
   rw [Int.natAbs_natCast]
   have := Nat.le_of_dvd (by omega) (Nat.gcd_dvd_right g.natAbs p.c.val.natAbs)
   omega
 exact key ps h 0 (by simpa using pw_pos L)
theorem plain_lt {n L : Nat} {t : Term} (ht : TOk n L t) (hn : n ≤ 1000) : ∀ p ∈ (plainT t).parts, p.c.val.natAbs < pw (L + 1) ∧ p.c.val ≠ 0 := fun p hp => by
 obtain ⟨h1, h2⟩ := (ht.plain hn).ps p hp
 exact ⟨Nat.lt_of_lt_of_le (ZI.abs_lt h1) (pw_le h2), ((plainT_parts t).2.1 p hp).2.2⟩
theorem con_len {n L : Nat} {t : Term} (ht : TOk n L t) (hn : n ≤ 1000) (j : Nat) : (ZI.of (conZ ((plainT t).parts.take j))).abs.length ≤ L + 1 :=
 ZI.len_of (con_le fun p hp => plain_lt ht hn p (List.mem_of_mem_take hp))
set_option maxRecDepth 100000 in
theorem SContent (t : Term) {n L : Nat} (ht : TOk n L t) (hn : n ≤ 1000) (hL : L ≤ 20000) : Fn Tryz.prog 28 [] [.t (.agg ([.d (.sl 3 (t.parts.map Part.d))] ++ zi t.k))] (vz (ZI.of (conZ (plainT t).parts))) [] := by
 refine Fn.body Tryz.func28 rfl 21 rfl fun w H B a h => ?_
 refine rSeq tt_ok 0 [] [(1, vp 0 0), (2, vp 1 0)] [(0, .box ([.d (.sl 3 (t.parts.map Part.d))] ++ zi t.k)), (1, .box [.d (.raw (.bool false)), .d (nsl [])])] (by kernel_rfl) h ?_; clear h; intro a w h
 refine rSeq tt_ok 2 [] [(1, vp 0 0), (2, vp 1 0), (3, vp 2 0)] [(0, .box ([.d (.sl 3 (t.parts.map Part.d))] ++ zi t.k)), (1, .box [.d (.raw (.bool false)), .d (nsl [])]), (2, .box [.d (.raw (.bool false)), .d (nsl [])])] (by kernel_rfl) h ?_; clear h; intro a w h
 refine wp_seq ?_
 refine rSeq tt_ok 3 [(1, .call (SPlain t ht (by omega) (by omega)) tt_8), (3, .len (c := (.d (.sl 3 ((plainT t).parts.map Part.d)))) (n := (plainT t).parts.length) (lenC_map _ _ _))] [(2, vp 1 0), (3, vp 2 0), (9, .t (.c (.d (.sl 3 ((plainT t).parts.map Part.d))))), (10, vi .i64 ((plainT t).parts.length : Int)), (11, vi .i64 0)] [(1, .box [.d (.raw (.bool false)), .d (nsl [])]), (2, .box [.d (.raw (.bool false)), .d (nsl [])])] (by kernel_rfl) h ?_; clear h; intro a w h
 refine wp_block ?_
 refine loopS (ι := (Nat) × (ZI)) (fun (z_ : (Nat) × (ZI)) => match z_ with | (j, out) => out = ZI.of (conZ ((plainT t).parts.take j)) ∧ j ≤ (plainT t).parts.length)
   (fun (z_ : (Nat) × (ZI)) => match z_ with | (j, out) => [(2, vp 1 0), (3, vp 2 0), (9, .t (.c (.d (.sl 3 ((plainT t).parts.map Part.d))))), (10, vi .i64 ((plainT t).parts.length : Int)), (11, vi .i64 (j : Int))])
   (fun (z_ : (Nat) × (ZI)) => match z_ with | (j, out) => [(1, .box [.d (.raw (.bool false)), .d (nsl [])]), (2, .box (zi out))])
   (fun (z_ : (Nat) × (ZI)) => match z_ with | (j, out) => (plainT t).parts.length - j) (0, (ZI.of 0)) ?_ h (by kernel_rfl) (by kernel_rfl) ?_
 ·exact ⟨by simp [conZ], Nat.zero_le _⟩
 ·clear h; rintro ⟨j, out⟩ a w hI h
  change St _ (F.of [(2, vp 1 0), (3, vp 2 0), (9, .t (.c (.d (.sl 3 ((plainT t).parts.map Part.d))))), (10, vi .i64 ((plainT t).parts.length : Int)), (11, vi .i64 (j : Int))] [(1, .box [.d (.raw (.bool false)), .d (nsl [])]), (2, .box (zi out))]) a w at h
  obtain ⟨hI1, hI2⟩ := hI
  have lpp := (ht.plain hn).len
  have lvv : (varsZ t.parts).length = (plainT t).parts.length := (List.length_map _).symm
  have lo : out.abs.length ≤ L + 1 := by rw [hI1]; exact con_len ht hn j
  have ho : Lb out.abs := by rw [hI1]; exact ZI.lb_of _
  have vo : out.val = conZ ((plainT t).parts.take j) := by rw [hI1]; exact ZI.val_of _
  refine rSeq tt_ok 3 [] [(2, vp 1 0), (3, vp 2 0), (9, .t (.c (.d (.sl 3 ((plainT t).parts.map Part.d))))), (10, vi .i64 ((plainT t).parts.length : Int)), (11, vi .i64 (j : Int)), (12, vb (decide ((j : Int) < ((plainT t).parts.length : Int))))] [(1, .box [.d (.raw (.bool false)), .d (nsl [])]), (2, .box (zi out))] (by kernel_rfl) h ?_; clear h; intro a w h
  refine wp_seq ?_
  refine condS (decide ((j : Int) < ((plainT t).parts.length : Int))) h rfl (fun hc => ?_) (fun hc => ?_)
  ·have hc1 := hc; clear hc
   have hc1' := of_decide_eq_true hc1
   refine wp_skip ?_
   refine then_n ?_
   refine wp_seq ?_
   refine wp_block ?_
   obtain ⟨x2, hx2⟩ : ∃ z_ : Part, (plainT t).parts[j]? = some z_ := ⟨_, List.getElem?_eq_getElem (by first | omega | (simp at *; omega))⟩
   obtain ⟨ox2, lx2⟩ := (ht.plain hn).get hx2
   refine rSeq tt_ok 3 [(0, .gen _ _ _ fun _ _ _ _ => Op.idxD (d := 13) (t := 9) (k := .i64) tt_0 (map_at hx2 (f := Part.d)) (OV.tmp 11 _))] [(2, vp 1 0), (3, vp 2 0), (5, vp 3 0), (9, .t (.c (.d (.sl 3 ((plainT t).parts.map Part.d))))), (10, vi .i64 ((plainT t).parts.length : Int)), (11, vi .i64 (j : Int))] [(1, .box [.d (.raw (.bool false)), .d (nsl [])]), (2, .box (zi out)), (3, .box ([.d (.raw (.int .i64 x2.v))] ++ zi x2.c))] (by kernel_rfl) h ?_; clear h; intro a w h
   obtain ⟨r3, er3, vr3, or3, lr3⟩ := mkZ (v := (Nat.gcd out.val.natAbs x2.c.val.natAbs : Int)) (m := out.abs.length + x2.c.abs.length) (len_gcd ho ox2)
   refine rS tt_ok 4 [(3, .call (Fn.cast (SGcd out x2.c ho ox2 (by omega) (by omega)) (congrArg vz er3.symm)) tt_11)] [(2, vp 1 0), (3, vp 2 0), (9, .t (.c (.d (.sl 3 ((plainT t).parts.map Part.d))))), (10, vi .i64 ((plainT t).parts.length : Int)), (11, vi .i64 (j : Int))] [(1, .box [.d (.raw (.bool false)), .d (nsl [])]), (2, .box (zi r3))] (by kernel_rfl) h ?_; clear h; intro a w h
   refine block_n ?_
   refine then_n ?_
   refine rS tt_ok 4 [(0, .add .i64 (m := (j : Int)) (n := 1) (i64_id (by omega) (by omega)))] [(2, vp 1 0), (3, vp 2 0), (9, .t (.c (.d (.sl 3 ((plainT t).parts.map Part.d))))), (10, vi .i64 ((plainT t).parts.length : Int)), (11, vi .i64 ((j : Int) + 1))] [(1, .box [.d (.raw (.bool false)), .d (nsl [])]), (2, .box (zi r3))] (by kernel_rfl) h ?_; clear h; intro a w h
   refine then_n ?_
   refine roundS (x := (j, out)) (y := ((j + 1), r3)) h ?_ ?_ (by kernel_rfl) (by kernel_rfl)
   ·have := at_lt hx2
    exact ⟨by rw [er3, vo, con_take hx2], by omega⟩
   ·show (plainT t).parts.length - (j + 1) < (plainT t).parts.length - j
    have := at_lt hx2; omega
  ·have hc2 := hc; clear hc
   have hc2' := of_decide_eq_false hc2
   refine wp_exit ?_
   refine then_x ?_
   refine then_x ?_
   refine inBlock_exit ?_
   refine then_n ?_
   refine rSeq tt_ok 4 [] [(2, vp 1 0)] [(1, .box (zi out))] (by kernel_rfl) h ?_; clear h; intro a w h
   refine wp_ret ?_
   refine retS [.agg (zi out)] h Exit.ret (.inl rfl)  rfl ⟨RV.agg _ 1 0 _ _ _ _ tt_2 rfl rfl rfl rfl, trivial⟩ ?_ (by kernel_rfl) (by kernel_rfl)
   have hj : j = (plainT t).parts.length := by omega
   subst hj
   rw [hI1, List.take_length]; first | done | rfl
end Go.Proofs.YtekhnajfdaknnaaGreatDoor.S
end
section
namespace Go.Proofs.YtekhnajfdaknnaaGreatDoor.S
open Go.RowKit

theorem St.pubK {w0 : World} {H0 : Im} {B0 : Bl} {K : List Nat} {N : Nat} {f : F} {a : Act} {w : World} (h : St ⟨w0, H0, B0, K, N⟩ f a w) (n es : Nat) (ty : TypeId) (rows : List (List D)) (hl : f.l n = some (.row ty es rows)) (hK : ∀ k ∈ K, k ≠ n ∧ ∃ l, f.l k = some l)
  (h1 : ∀ t v, f.s t = some v → ∀ k ∈ v.owns n, k = rows.length) (h2 : ∀ m l, f.l m = some l → ∀ k ∈ l.owns n, k = rows.length) : St ⟨w0, H0, B0, K, N⟩ (f.pub n es rows) a w := by
 obtain ⟨H, B, hok⟩ := h
 have hLR := hok.loc n _ hl
 -- what stays from here on
 obtain ⟨H', hle, hH', hcell⟩ : ∃ H' : Im, Le H H' ∧ (∀ b o, H' b = some o → H b = some o ∨ (w.heap[b]? = some o ∧ ∃ c, B n = some (b, c))) ∧
   (∀ (x : C) (v : Value), (∀ k ∈ x.owns n, k = rows.length) → CR H B x v → CR H' B (x.pub n es rows) v) := by
  have keepC : ∀ {H' : Im} (hle : Le H H'), (∀ v, CR H B (.own n rows.length) v → DR H' (.sl es rows) v) → ∀ (x : C) (v : Value), (∀ k ∈ x.owns n, k = rows.length) → CR H B x v → CR H' B (x.pub n es rows) v := by
   intro H' hle hown x v hk hx
   cases x with
   | own m k =>
    simp only [C.pub]
    split
    ·rename_i e1
     have e1 := Nat.eq_of_beq_eq_true e1
     subst e1
     have := hk k (by simp [C.owns])
     subst this
     exact hown v hx
    ·exact CR.mono hle (fun _ _ => rfl) hx
   | ptr m o =>
    simp only [C.pub]
    split
    ·exact CR.flat hx
    ·exact CR.mono hle (fun _ _ => rfl) hx
   | sub m o k =>
    simp only [C.pub]
    split
    ·exact CR.flat hx
    ·exact CR.mono hle (fun _ _ => rfl) hx
   | d x => exact CR.mono hle (fun _ _ => rfl) hx
   | el x => exact CR.mono hle (fun _ _ => rfl) hx
   | fn f' x y => exact CR.mono hle (fun _ _ => rfl) hx
   | any => exact hx
  cases hB : B n with
  | none =>
   simp only [LR, hB] at hLR
   subst hLR
   refine ⟨H, Le.refl _, fun b o h => .inl h, keepC (Le.refl _) fun v hv => ?_⟩
   simp only [CR, hB] at hv
   obtain ⟨_, ao, hv⟩ := hv
   rw [hv]
   exact .nil es ao 0 (fun _ => rfl) (Nat.zero_le _)
  | some p =>
   obtain ⟨b, c⟩ := p
   obtain ⟨arr, g1, g2, g3, g4, g5, g6⟩ := hok.row hl hB
   have hnone := (hok.priv n _ b c hl hB).2.1
   have hle : Le H (fun x => if x = b then some (.cells ⟨arr⟩ ty (0, 0)) else H x) := by
    intro x o hx
    have : x ≠ b := fun e => by rw [e, hnone] at hx; cases hx
    simp [this, hx]
   refine ⟨fun x => if x = b then some (.cells ⟨arr⟩ ty (0, 0)) else H x, hle, ?_, keepC hle fun v hv => ?_⟩
   ·intro x o hx
    by_cases e : x = b
    ·subst e
     simp only [if_true] at hx
     exact .inr ⟨by rw [g1]; exact hx, c, rfl⟩
    ·simp [e] at hx; exact .inl hx
   ·simp only [CR, hB] at hv
    rw [hv]
    exact row_data (arr := arr) (ty := ty) (if_pos rfl) g3 g4 g5 fun i r hr f' x hx => by
     obtain ⟨u, k1, k2⟩ := g6 i r hr f' x hx
     exact ⟨u, k1, k2.mono hle⟩
 have hT : ∀ (x : T) (v : Value), (∀ k ∈ x.owns n, k = rows.length) → TR H B x v → TR H' B (x.pub n es rows) v := by
  intro x v hk hx
  cases x with
  | c x => exact hcell x v hk hx
  | agg cs =>
   obtain ⟨vs, hv, hx⟩ := hx
   refine ⟨vs, hv, All2.iff.2 ⟨by rw [List.length_map]; exact hx.length, fun j a' b' ha hb => ?_⟩⟩
   rw [List.getElem?_map] at ha
   cases hj : cs[j]? with
   | none => rw [hj] at ha; cases ha
   | some y =>
    rw [hj] at ha
    injection ha with ha
    subst ha
    exact hcell y b' (fun k hk2 => hk k (by simp only [T.owns, List.mem_flatMap]; exact ⟨y, List.mem_of_getElem? hj, hk2⟩)) ((All2.iff.1 hx).2 j y b' hj hb)
 refine ⟨H', B, hok.df, hok.n, hok.ext, ?_, ?_, ?_, ?_, ?_, ?_, hok.le.trans hle, hok.keep⟩
 ·intro b o hb
  rcases hH' b o hb with h' | ⟨h', _⟩
  ·exact hok.sat b o h'
  ·exact h'
 ·intro t v hv
  simp only [F.pub, Option.map_eq_some_iff] at hv
  obtain ⟨x, hx, rfl⟩ := hv
  have hR := hok.slot t x hx
  have hk := h1 t x hx
  cases x with
  | t x => exact hT x _ hk hR
  | tup xs =>
   obtain ⟨vs, hv, hx2⟩ := hR
   refine ⟨vs, hv, All2.iff.2 ⟨by rw [List.length_map]; exact hx2.length, fun j a' b' ha hb => ?_⟩⟩
   rw [List.getElem?_map] at ha
   cases hj : xs[j]? with
   | none => rw [hj] at ha; cases ha
   | some y =>
    rw [hj] at ha
    injection ha with ha
    subst ha
    exact hT y b' (fun k hk2 => hk k (by simp only [V.owns, List.mem_flatMap]; exact ⟨y, List.mem_of_getElem? hj, hk2⟩)) ((All2.iff.1 hx2).2 j y b' hj hb)
 ·intro m l hm
  simp only [F.pub] at hm
  split at hm
  ·cases hm
  ·simp only [Option.map_eq_some_iff] at hm
   obtain ⟨x, hx, rfl⟩ := hm
   have hR := hok.loc m x hx
   have hk := h2 m x hx
   cases x with
   | box cs =>
    obtain ⟨b, c, arr, ty', hb, hc, hx2⟩ := hR
    refine ⟨b, c, arr, ty', hb, hc, All2.iff.2 ⟨by rw [List.length_map]; exact hx2.length, fun j a' b' ha hb => ?_⟩⟩
    rw [List.getElem?_map] at ha
    cases hj : cs[j]? with
    | none => rw [hj] at ha; cases ha
    | some y =>
     rw [hj] at ha
     injection ha with ha
     subst ha
     exact hcell y b' (fun k hk2 => hk k (by simp only [L.owns, List.mem_flatMap]; exact ⟨y, List.mem_of_getElem? hj, hk2⟩)) ((All2.iff.1 hx2).2 j y b' hj hb)
   | row ty' es' rows' => exact LR.mono hle rfl (fun _ _ => rfl) (fun _ _ _ => rfl) hR
   | bld ty' c' =>
    obtain ⟨b, k, v1, v2, hb, hc, g1, g0, g2⟩ := hR
    exact ⟨b, k, v1, v2, hb, hc, g1, g0, hcell c' v2 (fun k hk2 => hk k hk2) g2⟩
 ·intro m l b c hm hb
  simp only [F.pub] at hm
  split at hm
  ·cases hm
  ·rename_i hne
   simp only [Option.map_eq_some_iff] at hm
   obtain ⟨x, hx, rfl⟩ := hm
   obtain ⟨p1, p2, p3⟩ := hok.priv m x b c hx hb
   refine ⟨p1, ?_, p3⟩
   cases hq : H' b with
   | none => rfl
   | some o =>
    rcases hH' b o hq with h' | ⟨_, c', h'⟩
    ·rw [p2] at h'; cases h'
    ·have := hok.inj m n x _ b c c' hx hl hb h'
     subst this
     simp at hne
 ·intro m k l l' b c c' hm hk hb hb'
  simp only [F.pub] at hm hk
  split at hm
  ·cases hm
  ·split at hk
   ·cases hk
   ·simp only [Option.map_eq_some_iff] at hm hk
    obtain ⟨x, hx, _⟩ := hm
    obtain ⟨y, hy, _⟩ := hk
    exact hok.inj m k x y b c c' hx hy hb hb'
 ·intro b hb
  cases hq : H' b with
  | none =>
   rw [← hok.low b hb]
   cases hr : H b with
   | none => rfl
   | some o => rw [hle b o hr] at hq; cases hq
  | some o =>
   rcases hH' b o hq with h' | ⟨_, c', h'⟩
   ·rw [← hok.low b hb, h']
   ·rcases (hok.priv n _ b c' hl h').2.2 with ⟨m, hm, c9, hc9⟩ | h3
    ·obtain ⟨k1, l9, k2⟩ := hK m hm
     exact absurd (hok.inj m n l9 _ b c9 c' k2 hl (by rw [hok.keep m hm]; exact hc9) h') k1
    ·exact absurd hb (by simpa using h3)
section
variable {w0 : World} {H0 : Im} {B0 : Bl} {K : List Nat} {N : Nat} {sl : List (Nat × V)} {lc : List (Nat × L)} {a : Act} {w : World}
def keepK (K : List Nat) (n : Nat) (lc : List (Nat × L)) : Bool := K.all fun k => !Nat.beq k n && (lc.lookup k).isSome
theorem pubSK (n es : Nat) (ty : TypeId) (rows : List (List D)) (sl' : List (Nat × V)) (lc' : List (Nat × L)) (h : St ⟨w0, H0, B0, K, N⟩ (F.of sl lc) a w) (hl : lc.lookup n = some (.row ty es rows)) (hk : keepK K n lc = true)
  (h1 : AllEq rows.length (sl.flatMap (·.2.owns n))) (h2 : AllEq rows.length (lc.flatMap (·.2.owns n))) (h3 : leS ((F.of sl lc).pub n es rows) sl' = sl'.map fun p => some p.2) (h4 : leN ((F.of sl lc).pub n es rows) lc' = lc'.map fun p => some p.2) :
  St ⟨w0, H0, B0, K, N⟩ (F.of sl' lc') a w :=
 (h.pubK n es ty rows hl (fun k hk2 => by
  have := List.all_eq_true.1 hk k hk2
  simp only [Bool.and_eq_true, Bool.not_eq_true'] at this
  refine And.intro (fun e => ?_) ?_
  ·rw [e, Nat.beq_refl] at this
   exact absurd this.1 (by decide)
  ·exact Option.isSome_iff_exists.1 this.2) (fun t v hv k hk => AllEq.mem h1 k (List.mem_flatMap.2 ⟨(t, v), ofS_mem hv, hk⟩)) (fun m l hm k hk => AllEq.mem h2 k (List.mem_flatMap.2 ⟨(m, l), ofL_mem hm, hk⟩))).weaken (le_of h3 h4)
end
section
variable {P : Program}
theorem Op.appOO {d t u n n' sn len len2 len' es bs : Nat} {rows rows2 rows' : List (List D)} {xt el ty : TypeId} {pos af gd} (hT : ElT P xt el es bs) (hlen : len = rows.length) (hlen2 : len2 = rows2.length) (hlen' : len' = len + rows2.length) (hrow : rows ++ rows2 = rows')
  (hb : (len + rows2.length) * bs ≤ 140737488355328) :
  OpOk P ⟨some d, .call { callee := .builtin .append, args := #[.tmp t, .tmp u], argTypes := #[xt, xt] }, ty, pos, af, gd⟩
   { rs := [(t, .t (.c (.own n len))), (u, .t (.c (.own sn len2)))], rl := [(n, .row el es rows), (sn, .row el es rows2)], ws := [(d, some (.t (.c (.own n' len'))))], wl := [(n', some (.row el es rows')), (n, none)], nw := [n'] } := by
 rintro e f a w Q ⟨H, B, hok⟩ hr hnw hb0
 subst hlen hlen2 hlen' hrow
 have hnew := hnw n' (by simp)
 have hl := hr.2 (n, .row el es rows) (by simp)
 have h1 : CR H B (.own n rows.length) (a.eval (.tmp t)) := hok.slot t _ (hr.1 (t, .t (.c (.own n rows.length))) (by simp))
 have hl2 := hr.2 (sn, .row el es rows2) (by simp)
 have h2 : CR H B (.own sn rows2.length) (a.eval (.tmp u)) := hok.slot u _ (hr.1 (u, .t (.c (.own sn rows2.length))) (by simp))
 have hes2 : ∀ r ∈ rows2, r.length = es := by
  cases hB : B sn with
  | none => have := hok.loc sn _ hl2; simp only [LR, hB] at this; rw [this]; intro r hr; cases hr
  | some q => obtain ⟨_, _, _, _, _, g5, _⟩ := hok.row hl2 hB; exact g5
 have hsrc : (rows2 = [] ∧ ∃ ao c, a.eval (.tmp u) = .slice ao 0 c) ∨ (0 < rows2.length ∧ ∃ b c news, a.eval (.tmp u) = .slice (some ⟨b, 0, none⟩) rows2.length c ∧ news.length = rows2.length * es ∧ (∀ j u, news[j]? = some u → w.cell? ((⟨b, 0, none⟩ : Addr).add j) = some u) ∧ RowAt H news es rows2 ∧ (∀ u ∈ news, u.oneCell' = true)) := by
  simp only [CR] at h2
  cases hB : B sn with
  | none => rw [hB] at h2; obtain ⟨h3, ao, h4⟩ := h2; exact .inl ⟨List.length_eq_zero_iff.1 h3, ao, 0, h4⟩
  | some q =>
   obtain ⟨b, c⟩ := q
   rw [hB] at h2
   obtain ⟨arr, g1, g2, g3, g4, g5, g6⟩ := hok.row hl2 hB
   by_cases hz0 : rows2.length = 0
   ·exact .inl ⟨List.length_eq_zero_iff.1 hz0, _, c, by rw [h2, hz0]⟩
   ·have hle : rows2.length * es ≤ c * es := Nat.mul_le_mul_right _ g3
    refine .inr ⟨by omega, b, c, arr.take (rows2.length * es), h2, by rw [List.length_take]; omega, fun j u hu => ?_, fun i r hri f x hx2 => ?_, fun u hu => ?_⟩
    ·rw [List.getElem?_take] at hu
     split at hu
     ·rw [Addr.add_mid, Nat.zero_add]; simp [World.cell?, g1, hu]
     ·cases hu
    ·obtain ⟨u, k1, k2⟩ := g6 i r hri f x hx2
     refine ⟨u, ?_, k2⟩
     have hi2 := (List.getElem?_eq_some_iff.1 hri).1
     have hf2 := (List.getElem?_eq_some_iff.1 hx2).1
     rw [g5 r (List.mem_of_getElem? hri)] at hf2
     have : (i + 1) * es ≤ rows2.length * es := Nat.mul_le_mul_right _ hi2
     rw [Nat.add_mul] at this
     rw [List.getElem?_take, if_pos (by omega)]; exact k1
    ·obtain ⟨j, hj⟩ := List.mem_iff_getElem?.1 hu
     have hj1 := (List.getElem?_eq_some_iff.1 hj).1
     rw [List.length_take] at hj1
     have hes0 : 0 < es := Nat.pos_of_ne_zero fun e => by simp [e] at hj1
     have h5 : j / es < rows2.length := Nat.div_lt_of_lt_mul (by rw [Nat.mul_comm]; omega)
     have h6 : j % es < es := Nat.mod_lt _ hes0
     have h7 : (rows2[j / es]'h5).length = es := g5 _ (List.getElem_mem h5)
     obtain ⟨u2, k1, k2⟩ := g6 (j / es) _ (List.getElem?_eq_getElem h5) (j % es) _ (List.getElem?_eq_getElem (by rw [h7]; exact h6))
     have h8 : j / es * es + j % es = j := by rw [Nat.mul_comm]; exact Nat.div_add_mod j es
     rw [h8] at k1
     rw [List.getElem?_take, if_pos (by omega), k1] at hj
     injection hj with hj
     subst hj
     exact flat_one (DR.flat k2)
 obtain ⟨i, z, hi, hz, hsz, hby, hzs⟩ := hT.ex
 have hne : n ≠ n' := fun e => by have := hnew.2.1; rw [← e, hl] at this; cases this
 have hlr := hok.loc n _ hl
 have hml : rows.length + rows2.length ≤ maxLen := by
  have : (rows.length + rows2.length) * 1 ≤ (rows.length + rows2.length) * bs := Nat.mul_le_mul_left _ hT.bpos
  simp only [maxLen]; omega
 -- the run, the new block
 have main : ∃ v w' p, (Builtin.append_ #[xt, xt] ty #[a.eval (.tmp t), a.eval (.tmp u)]).run P w = .ok v w' ∧ CR H (fun x => if x = n' then p else B x) (.own n' (rows.length + rows2.length)) v ∧
   LR H (fun x => if x = n' then p else B x) w' n' (.row el es (rows ++ rows2)) ∧ w'.os = w.os ∧ w'.tape = w.tape ∧ w'.output = w.output ∧ w.heap.size ≤ w'.heap.size ∧ (∀ k, k < w.heap.size → (∀ c, B n ≠ some (k, c)) → w'.heap[k]? = w.heap[k]?) ∧
   (∀ b c, p = some (b, c) → b < w'.heap.size ∧ ((∃ c', B n = some (b, c')) ∨ w.heap.size ≤ b)) := by
  generalize a.eval (.tmp t) = vt at h1
  generalize a.eval (.tmp u) = vu at hsrc
  -- nothing is added
  have empty : ∀ ao c, rows2 = [] → ∃ v w' p, (Builtin.append_ #[xt, xt] ty #[vt, .slice ao 0 c]).run P w = .ok v w' ∧ CR H (fun x => if x = n' then p else B x) (.own n' (rows.length + rows2.length)) v ∧
    LR H (fun x => if x = n' then p else B x) w' n' (.row el es (rows ++ rows2)) ∧ w'.os = w.os ∧ w'.tape = w.tape ∧ w'.output = w.output ∧ w.heap.size ≤ w'.heap.size ∧ (∀ k, k < w.heap.size → (∀ c, B n ≠ some (k, c)) → w'.heap[k]? = w.heap[k]?) ∧
    (∀ b c, p = some (b, c) → b < w'.heap.size ∧ ((∃ c', B n = some (b, c')) ∨ w.heap.size ≤ b)) := by
   rintro ao c rfl
   have hrun : ∀ base m cap, m ≤ cap → (Builtin.append_ #[xt, xt] ty #[.slice base m cap, .slice ao 0 c]).run P w = .ok (.slice base m cap) w := by
    intro base m cap hmc
    cases ao <;> cases base <;> simp [Builtin.append_, run_underlying hT.hu, sizeOf, typeInfo, hi, Builtin.lenOf, hmc, Builtin.firstCells, loadCells, loadCellsFrom, storeCells]
   refine ⟨vt, w, B n, ?_, ?_, ?_, rfl, rfl, rfl, Nat.le_refl _, fun _ _ _ => rfl, fun b c hb => ⟨(hok.priv n _ b c hl hb).1, .inl ⟨c, hb⟩⟩⟩
   ·simp only [CR] at h1
    cases hB : B n with
    | none => rw [hB] at h1; obtain ⟨_, ao0, h1⟩ := h1; rw [h1]; exact hrun ao0 0 0 (Nat.le_refl _)
    | some q =>
     obtain ⟨b, cc⟩ := q
     rw [hB] at h1
     obtain ⟨arr, g1, g2, g3, g4, g5, g6⟩ := hok.row hl hB
     rw [h1]; exact hrun _ _ _ g3
   ·simp only [CR, if_true, List.length_nil, Nat.add_zero] at h1 ⊢; exact h1
   ·simp only [LR, if_true, List.append_nil] at hlr ⊢; exact hlr
  rcases hsrc with ⟨hz0, ao, c, rfl⟩ | ⟨hp, b, c, news, rfl, n1, n2, n3, n4⟩
  ·exact empty ao c hz0
  ·obtain ⟨vt0, hvt0, hblk, hown⟩ : ∃ vt0, (Builtin.append_ #[xt, xt] ty #[vt, .slice (some ⟨b, 0, none⟩) rows2.length c]).run P w = (Builtin.append_ #[xt, xt] ty #[vt0, .slice (some ⟨b, 0, none⟩) rows2.length c]).run P w ∧ vt0.ownBlock = (B n).map (·.1) ∧ ∃ xs, w.ownsRow 0 el es vt0 rows.length xs ∧ RowAt H xs es rows := by
    simp only [CR] at h1
    cases hB : B n with
    | none =>
     simp only [LR, hB] at hlr
     rw [hB] at h1
     subst hlr
     obtain ⟨_, ao0, rfl⟩ := h1
     refine ⟨.slice none 0 0, ?_, rfl, [], ⟨by simp, .inl ⟨rfl, rfl⟩⟩, fun i r hr => by simp at hr⟩
     cases ao0 with
     | none => rfl
     | some a0 => exact append_base0 hT.hu hi hz hsz a0 n1 n2 hp (by simpa using hml) (by rw [hby]; simpa using hb)
    | some q =>
     obtain ⟨b2, cc⟩ := q
     rw [hB] at h1
     obtain ⟨arr2, g1, g2, g3, g4, g5, g6⟩ := hok.row hl hB
     have hle : rows.length * es ≤ cc * es := Nat.mul_le_mul_right _ g3
     refine ⟨vt, rfl, by rw [h1]; rfl, arr2.take (rows.length * es), ⟨by rw [List.length_take]; omega, .inr ⟨b2, cc, ⟨arr2⟩, h1, Nat.zero_le _, g1, g3, g4, by simpa using g2, rfl⟩⟩, ?_⟩
     intro i r hri f x hx2
     obtain ⟨u, k1, k2⟩ := g6 i r hri f x hx2
     refine ⟨u, ?_, k2⟩
     have hi2 := (List.getElem?_eq_some_iff.1 hri).1
     have hf2 := (List.getElem?_eq_some_iff.1 hx2).1
     rw [g5 r (List.mem_of_getElem? hri)] at hf2
     have : (i + 1) * es ≤ rows.length * es := Nat.mul_le_mul_right _ hi2
     rw [Nat.add_mul] at this
     rw [List.getElem?_take, if_pos (by omega)]; exact k1
   obtain ⟨xs, hown, hxs⟩ := hown
   obtain ⟨v', w', r1, r2, r3, r4⟩ := run_append_own (P := P) w 0 xt ty el i z es bs hT.hu hi hz hsz hby hzs hT.pos vt0 rows.length xs hown ⟨b, 0, none⟩ rows2.length c news n1 n2 n4 hml hb (Nat.zero_le _)
   have hall : ∀ r ∈ rows ++ rows2, r.length = es := by
    intro r hr2
    rcases List.mem_append.1 hr2 with h' | h'
    ·cases hB : B n with
     | none => simp only [LR, hB] at hlr; rw [hlr] at h'; cases h'
     | some q => obtain ⟨_, _, _, _, _, g5, _⟩ := hok.row hl hB; exact g5 r h'
    ·exact hes2 r h'
   have hboth : RowAt H (xs ++ news) es (rows ++ rows2) := by
    intro i2 r hri f x hx2
    by_cases hlt : i2 < rows.length
    ·rw [List.getElem?_append_left hlt] at hri
     obtain ⟨u, k1, k2⟩ := hxs i2 r hri f x hx2
     exact ⟨u, by rw [List.getElem?_append_left (List.getElem?_eq_some_iff.1 k1).1]; exact k1, k2⟩
    ·rw [List.getElem?_append_right (by omega)] at hri
     obtain ⟨u, k1, k2⟩ := n3 _ r hri f x hx2
     refine ⟨u, ?_, k2⟩
     have hq : rows.length * es ≤ i2 * es := Nat.mul_le_mul_right _ (by omega)
     rw [List.getElem?_append_right (by rw [hown.1]; omega), hown.1, ← k1]
     congr 1
     rw [Nat.sub_mul]; omega
   obtain ⟨q1, q2⟩ := r2
   have hkk : ∀ k, k < w.heap.size → (∀ c, B n ≠ some (k, c)) → w'.heap[k]? = w.heap[k]? := by
    intro k hk hnk
    refine r3.block k hk ?_
    rw [hblk]
    intro e1
    cases hB : B n with
    | none => rw [hB] at e1; cases e1
    | some q => obtain ⟨b2, cc⟩ := q; rw [hB] at e1; simp at e1; exact hnk cc (by rw [hB, e1])
   rcases q2 with ⟨_, hn0⟩ | ⟨g, cap, cur, rfl, _, k2, k3, k4, k5, k6⟩
   ·omega
   ·refine ⟨_, w', some (g, cap), hvt0.trans r1, ?_, ?_, r3.os, r3.tape, r3.output, r3.size, hkk, ?_⟩
    ·simp [CR]
    ·simp only [LR, if_true]
     refine ⟨cur.toList, k2, by simpa using k5, by simpa using k3, k4, hall, ?_⟩
     refine (rowAt_iff (by simpa using k5) (by simpa using k3) hall).2 fun i2 r hri f x hx2 => ?_
     obtain ⟨u, j1, j2⟩ := hboth i2 r hri f x hx2
     refine ⟨u, ?_, j2⟩
     rw [← k6, List.getElem?_take] at j1
     split at j1
     ·exact j1
     ·cases j1
    ·rintro b3 c3 e3
     injection e3 with e3
     injection e3 with e3 e4
     subst e3 e4
     refine ⟨(Array.getElem?_eq_some_iff.1 k2).1, ?_⟩
     rcases append_fresh hT.hu hi hz hsz hown hp n1 n2 n4 hml (by rw [hby]; exact hb) r1 g rfl with hh | hh
     ·rw [hblk] at hh
      cases hB : B n with
      | none => rw [hB] at hh; cases hh
      | some q => obtain ⟨b2, cc⟩ := q; rw [hB] at hh; simp at hh; exact .inl ⟨cc, by rw [hh]⟩
     ·exact .inr (by omega)
 obtain ⟨v, w', p, r1, r2, r3, r4, r5, r6, r7, r8, r9⟩ := main
 have hok' : Ok e ⟨f.s, fun m => if m = n' then some (.row el es (rows ++ rows2)) else if m = n then none else f.l m⟩ H (fun x => if x = n' then p else B x) a w' :=
  hok.renew hl hnew p r4 r5 r6 r7 r8 r9 r3 (fun _ => rfl) (fun _ => rfl)
 refine wp_of_run (d := d) rfl ?_ ⟨H, _, hok'.put (x := some (.t (.c (.own n' (rows.length + rows2.length))))) (hb0.1 (d, some (.t (.c (.own n' (rows.length + rows2.length))))) (by simp)) (app1_s f d _ _ rfl) (fun m => ?_) (fun y hy => by injection hy with hy; subst hy; exact r2)⟩
 ·generalize a.eval = ρ at r1 ⊢
  have e1 : (Array.map ρ #[.tmp t, .tmp u]) = #[ρ (.tmp t), ρ (.tmp u)] := by simp
  simp only [execOp, resolve, e1, Sem.run_bind, Sem.run_pure, Result.andThen_ok, invoke, builtin, r1]
 ·simp only [F.app, List.lookup]
  by_cases e1 : m = n'
  ·simp [e1]
  ·have g1 : (m == n') = false := by simpa using e1
   by_cases e2 : m = n
   ·subst e2; simp [g1, e1]
   ·have g2 : (m == n) = false := by simpa using e2
    simp [g1, g2, e1, e2]
theorem Op.eqNilO {d t n len : Nat} {y : Operand} {rs' : List (Nat × V)} {xt yt el ty : TypeId} {pos af gd} (hu : P.underlying xt = some (.slice el)) (hn : 0 < len) (h' : OV y (.t (.c (.d (.raw nilV)))) rs') :
  OpOk P ⟨some d, .binOp .eql xt (.tmp t) y yt, ty, pos, af, gd⟩ { rs := (t, .t (.c (.own n len))) :: rs', ws := [(d, some (vb false))] } :=
 OpOk.value d _ rfl rfl rfl fun e f H B a w hok hr2 => by
  have h1 := hok.slot t _ (hr2.1 (t, .t (.c (.own n len))) (by simp))
  have h2 : a.eval y = nilV := (h'.eval hok fun p hp => hr2.1 p (by simp [hp])).rawI
  have h3 : CR H B (.own n len) (a.eval (.tmp t)) := h1
  generalize hv0 : a.eval (.tmp t) = v at h3
  simp only [CR] at h3
  cases hB : B n with
  | none => rw [hB] at h3; omega
  | some q =>
   obtain ⟨b, c⟩ := q
   rw [hB] at h3
   subst h3
   refine ⟨.bool false, ?_, DR.raw _ rfl⟩
   generalize a.eval = ρ at hv0 h2 ⊢
   have := run_eqNil (P := P) hu (some ⟨b, 0, none⟩) len c (.tmp t) y w
   simp only [Sem.run_bind] at this
   simp only [execOp, hv0, h2, Sem.run_bind, this, Result.andThen_ok, Sem.run_pure]
   rfl
end
end Go.Proofs.YtekhnajfdaknnaaGreatDoor.S
end
section
namespace Go.Proofs.YtekhnajfdaknnaaGreatDoor.S
open Go.RowKit

set_option maxRecDepth 100000 in
theorem tu_0 : SlT Tryz.prog 22 32 3 := SlT.mk' Tryz.underlying22 (by kernel_rfl)
set_option maxRecDepth 100000 in
theorem tu_1 : ElZ Tryz.prog 22 32 3 := ElZ.mk' Tryz.underlying22 _ _ rfl rfl (by kernel_rfl) (by kernel_rfl) (by kernel_rfl) (by decide)
set_option maxRecDepth 100000 in
theorem tu_2 : ElT Tryz.prog 22 32 3 40 := ElT.mk' Tryz.underlying22 _ _ rfl rfl (by kernel_rfl) (by kernel_rfl) (by kernel_rfl) (by decide) (by decide)
set_option maxRecDepth 100000 in
theorem tu_3 : Bodied Tryz.prog 76 := Bodied.mk' (by kernel_rfl)
set_option maxRecDepth 100000 in
theorem tu_4 : Bodied Tryz.prog 77 := Bodied.mk' (by kernel_rfl)
set_option maxRecDepth 100000 in
theorem tu_5 : Bodied Tryz.prog 48 := Bodied.mk' (by kernel_rfl)
set_option maxRecDepth 100000 in
theorem tu_6 : Sz Tryz.prog 32 3 true := Sz.mk' (by kernel_rfl) Tryz.underlying32 _ rfl
set_option maxRecDepth 100000 in
theorem tu_7 : Sz Tryz.prog 3 1 false := Sz.mk' (by kernel_rfl) Tryz.underlying3 _ rfl
set_option maxRecDepth 100000 in
theorem tu_8 : Sz Tryz.prog 26 2 true := Sz.mk' (by kernel_rfl) Tryz.underlying26 _ rfl
set_option maxRecDepth 100000 in
theorem tu_9 : Bodied Tryz.prog 49 := Bodied.mk' (by kernel_rfl)
set_option maxRecDepth 100000 in
theorem tu_10 : Bodied Tryz.prog 66 := Bodied.mk' (by kernel_rfl)
set_option maxRecDepth 100000 in
theorem tu_11 : Sz Tryz.prog 28 3 true := Sz.mk' (by kernel_rfl) Tryz.underlying28 _ rfl
set_option maxRecDepth 100000 in
theorem tu_12 : Bodied Tryz.prog 41 := Bodied.mk' (by kernel_rfl)
set_option maxRecDepth 100000 in
theorem tu_13 : Bodied Tryz.prog 70 := Bodied.mk' (by kernel_rfl)
def tu_tb : Tb := [(22, ⟨1, false, [], [.d (.raw nilV)], 1⟩), (4, ⟨1, false, [], [.d (.raw (.bool false))], 3⟩), (24, ⟨1, false, [], [.d (nsl [])], 1⟩), (26, ⟨2, true, [(0, 1, false), (1, 1, false)], [.d (.raw (.bool false)), .d (nsl [])], 0⟩), (28, ⟨3, true, [(0, 1, false), (1, 2, true)], [.d (.raw nilV), .d (.raw (.bool false)), .d (nsl [])], 0⟩), (3, ⟨1, false, [], [.d (.raw (.int .i64 0))], 13⟩), (32, ⟨3, true, [(0, 1, false), (1, 2, true)], [.d (.raw (.int .i64 0)), .d (.raw (.bool false)), .d (nsl [])], 0⟩)]
set_option maxRecDepth 100000 in
theorem tu_ok : TbOk Tryz.prog tu_tb := ⟨TyOk.slc Tryz.underlying22 (by kernel_rfl) ⟨(.slice none 0 0 : Value), [.slice none 0 0], by kernel_rfl, rfl, (fun _ _ => ⟨DR.raw _ rfl, trivial⟩)⟩,
 TyOk.bl Tryz.underlying4 (by kernel_rfl) ⟨(.bool false : Value), [.bool false], by kernel_rfl, rfl, (fun _ _ => ⟨DR.raw _ rfl, trivial⟩)⟩,
 TyOk.slc Tryz.underlying24 (by kernel_rfl) ⟨(.slice none 0 0 : Value), [.slice none 0 0], by kernel_rfl, rfl, (fun _ _ => ⟨DR.nil _ _ _ (fun _ => rfl) (Nat.zero_le _), trivial⟩)⟩,
 TyOk.st Tryz.underlying26 (by kernel_rfl) ⟨⟨by decide, Fd.mk' _ _ Tryz.underlying26 rfl rfl (Sz.mk' (by kernel_rfl) Tryz.underlying4 _ rfl)⟩, ⟨by decide, Fd.mk' _ _ Tryz.underlying26 rfl rfl (Sz.mk' (by kernel_rfl) Tryz.underlying24 _ rfl)⟩, trivial⟩ ⟨(Value.agg #[.bool false, .slice none 0 0]), [.bool false, .slice none 0 0], by kernel_rfl, rfl, (fun _ _ => ⟨DR.raw _ rfl, DR.nil _ _ _ (fun _ => rfl) (Nat.zero_le _), trivial⟩)⟩ ⟨_, Tryz.underlying26, ⟨⟨rfl, by kernel_rfl⟩, ⟨rfl, by kernel_rfl⟩, trivial⟩⟩,
 TyOk.st Tryz.underlying28 (by kernel_rfl) ⟨⟨by decide, Fd.mk' _ _ Tryz.underlying28 rfl rfl (Sz.mk' (by kernel_rfl) Tryz.underlying22 _ rfl)⟩, ⟨by decide, Fd.mk' _ _ Tryz.underlying28 rfl rfl (Sz.mk' (by kernel_rfl) Tryz.underlying26 _ rfl)⟩, trivial⟩ ⟨(Value.agg #[.slice none 0 0, .bool false, .slice none 0 0]), [.slice none 0 0, .bool false, .slice none 0 0], by kernel_rfl, rfl, (fun _ _ => ⟨DR.raw _ rfl, DR.raw _ rfl, DR.nil _ _ _ (fun _ => rfl) (Nat.zero_le _), trivial⟩)⟩ ⟨_, Tryz.underlying28, ⟨⟨rfl, by kernel_rfl⟩, ⟨rfl, by kernel_rfl⟩, trivial⟩⟩,
 TyOk.int Tryz.underlying3 rfl (by kernel_rfl) ⟨(.int .i64 0 : Value), [.int .i64 0], by kernel_rfl, rfl, (fun _ _ => ⟨DR.raw _ rfl, trivial⟩)⟩,
 TyOk.st Tryz.underlying32 (by kernel_rfl) ⟨⟨by decide, Fd.mk' _ _ Tryz.underlying32 rfl rfl (Sz.mk' (by kernel_rfl) Tryz.underlying3 _ rfl)⟩, ⟨by decide, Fd.mk' _ _ Tryz.underlying32 rfl rfl (Sz.mk' (by kernel_rfl) Tryz.underlying26 _ rfl)⟩, trivial⟩ ⟨(Value.agg #[.int .i64 0, .bool false, .slice none 0 0]), [.int .i64 0, .bool false, .slice none 0 0], by kernel_rfl, rfl, (fun _ _ => ⟨DR.raw _ rfl, DR.raw _ rfl, DR.nil _ _ _ (fun _ => rfl) (Nat.zero_le _), trivial⟩)⟩ ⟨_, Tryz.underlying32, ⟨⟨rfl, by kernel_rfl⟩, ⟨rfl, by kernel_rfl⟩, trivial⟩⟩,
 trivial⟩
set_option maxRecDepth 100000 in
theorem SCloneO (xs : List Part) (hn : 0 < xs.length) (hl : xs.length ≤ 1000000) : Fn Tryz.prog 76 [(9, .row 32 3 (xs.map Part.d))] [.t (.c (.own 9 xs.length))] (.t (.c (.own 0 xs.length))) [(9, .row 32 3 (xs.map Part.d)), (0, .row 32 3 (xs.map Part.d))] := by
 refine Fn.body Tryz.func76 rfl 8 rfl fun w H B a h => ?_
 refine rSeq tu_ok 10 [] [(0, .t (.c (.own 9 xs.length))), (2, .t (.c (.d (.raw nilV))))] [(9, .row 32 3 (xs.map Part.d))] (by kernel_rfl) h ?_; clear h; intro a w h
 refine wp_seq ?_
 refine rSeq tu_ok 10 [(1, .gen _ _ _ fun _ _ _ _ => Op.eqNilO (d := 4) (t := 3) (n := 9) (len := xs.length) (xt := 22) (yt := 22) tu_0.hu hn (OV.const nilV rfl))] [(0, .t (.c (.own 9 xs.length))), (2, .t (.c (.d (.raw nilV)))), (4, vb false)] [(9, .row 32 3 (xs.map Part.d))] (by kernel_rfl) h ?_; clear h; intro a w h
 refine condS false h rfl (fun hc => ?_) (fun hc => ?_)
 ·cases hc
 ·clear hc
  refine wp_skip ?_
  refine then_n ?_
  refine rSeq tu_ok 10 [(0, .gen _ _ _ fun _ _ _ _ => Op.buildE (d := 5) (n := 10) tu_1), (2, .gen _ _ _ fun _ _ _ _ => Op.appOO (d := 7) (t := 5) (u := 6) (n := 10) (sn := 9) (n' := 11) (len := 0) (len2 := xs.length) (len' := xs.length) (rows := [].map Part.d) (rows2 := xs.map Part.d) (rows' := xs.map Part.d) tu_2 (by first | exact (List.length_map _).symm | simp) (by first | exact (List.length_map _).symm | simp) (by first | (rw [List.length_append, List.length_map]; done) | simp) (by simp) (by first | omega | (simp at *; done) | (simp at *; omega)))] [(2, .t (.c (.own 11 xs.length)))] [(9, .row 32 3 (xs.map Part.d)), (11, .row 32 3 (xs.map Part.d))] (by kernel_rfl) h ?_; clear h; intro a w h
  refine wp_ret ?_
  replace h := renS 11 0 [(2, .t (.c (.own 0 xs.length)))] [(9, .row 32 3 (xs.map Part.d)), (0, .row 32 3 (xs.map Part.d))] h (by kernel_rfl) (by kernel_rfl) (by kernel_rfl)
  refine retS [.c (.own 0 xs.length)] h Exit.ret (.inl rfl)  rfl ⟨RV.tmp _ _ rfl, trivial⟩ ?_ (by kernel_rfl) (by kernel_rfl)
  rfl
set_option maxRecDepth 100000 in
theorem SPlainW0 (t : Term) (ht : PsOk 40000 t.parts) (hk : Lb t.k.abs) (lk : t.k.abs.length ≤ 40000) (hn : 0 < t.parts.length) : Fn Tryz.prog 41 [(9, .row 32 3 (t.parts.map Part.d))] [.t (.agg ([.own 9 t.parts.length] ++ zi t.k))] (vd (plainT t).d) [(9, .row 32 3 (t.parts.map Part.d))] := by
 have ln := ht.1
 refine Fn.body Tryz.func41 rfl 74 rfl fun w H B a h => ?_
 refine rSeq tu_ok 10 [] [(1, vp 10 0), (2, vp 11 0)] [(9, .row 32 3 (t.parts.map Part.d)), (10, .box ([.own 9 t.parts.length] ++ zi t.k)), (11, .box [.d (.raw nilV), .d (.raw (.bool false)), .d (nsl [])])] (by kernel_rfl) h ?_; clear h; intro a w h
 refine rSeq tu_ok 12 [(2, .call (SCloneO t.parts hn (by omega)) tu_3)] [(1, vp 10 0), (2, vp 11 0), (3, .t (.c (.own 0 t.parts.length)))] [(9, .row 32 3 (t.parts.map Part.d)), (10, .box ([.own 9 t.parts.length] ++ zi t.k)), (11, .box [.d (.raw nilV), .d (.raw (.bool false)), .d (nsl [])]), (0, .row 32 3 (t.parts.map Part.d))] (by kernel_rfl) h ?_; clear h; intro a w h
 refine rSeq tu_ok 12 [(1, .call (SSortStable t.parts (by omega)) tu_4)] [(1, vp 10 0), (2, vp 11 0), (3, .t (.c (.own 0 t.parts.length)))] [(9, .row 32 3 (t.parts.map Part.d)), (10, .box ([.own 9 t.parts.length] ++ zi t.k)), (11, .box [.d (.raw nilV), .d (.raw (.bool false)), .d (nsl [])]), (0, .row 32 3 ((ssV Part.v t.parts).map Part.d))] (by kernel_rfl) h ?_; clear h; intro a w h
 obtain ⟨r3, er3, vr3, or3, lr3⟩ := mkZ (v := t.k.val) (m := t.k.abs.length) (len_id hk)
 refine rSeq tu_ok 12 [(2, .call (Fn.cast (Scopied t.k hk (by omega)) (congrArg vz er3.symm)) tu_5)] [(2, vp 11 0), (3, .t (.c (.own 0 t.parts.length))), (4, vp 12 0)] [(9, .row 32 3 (t.parts.map Part.d)), (11, .box [.d (.raw nilV), .d (.raw (.bool false)), .d (nsl [])]), (0, .row 32 3 ((ssV Part.v t.parts).map Part.d)), (12, .box ([.d (.raw nilV)] ++ zi r3))] (by kernel_rfl) h ?_; clear h; intro a w h
 refine wp_seq ?_
 replace h := nilOLs 12 0 13 3 32 ([.d (.raw nilV)] ++ zi r3) [(2, vp 11 0), (3, .t (.c (.own 0 t.parts.length))), (4, vp 12 0)] [(9, .row 32 3 (t.parts.map Part.d)), (11, .box [.d (.raw nilV), .d (.raw (.bool false)), .d (nsl [])]), (0, .row 32 3 ((ssV Part.v t.parts).map Part.d)), (12, .box ([.own 13 0] ++ zi r3)), (13, .row 32 3 ([].map Part.d))] h (by kernel_rfl) rfl rfl (by kernel_rfl) (by kernel_rfl)
 refine rSeq tu_ok 14 [] [(2, vp 11 0), (4, vp 12 0), (17, .t (.c (.own 0 t.parts.length))), (18, vi .i64 (t.parts.length : Int)), (19, vi .i64 0)] [(9, .row 32 3 (t.parts.map Part.d)), (11, .box [.d (.raw nilV), .d (.raw (.bool false)), .d (nsl [])]), (0, .row 32 3 ((ssV Part.v t.parts).map Part.d)), (12, .box ([.own 13 0] ++ zi r3)), (13, .row 32 3 ([].map Part.d))] (by kernel_rfl) h ?_; clear h; intro a w h
 refine wp_block ?_
 refine loopS (ι := (Nat) × (List Part)) (fun (z_ : (Nat) × (List Part)) => match z_ with | (j, out) => out = (mrgZ ((ssV Part.v t.parts).take j)) ∧ j ≤ (ssV Part.v t.parts).length ∧ out.length ≤ j ∧ MOk 40000 j out)
   (fun (z_ : (Nat) × (List Part)) => match z_ with | (j, out) => [(2, vp 11 0), (4, vp 12 0), (17, .t (.c (.own 0 t.parts.length))), (18, vi .i64 (t.parts.length : Int)), (19, vi .i64 (j : Int))])
   (fun (z_ : (Nat) × (List Part)) => match z_ with | (j, out) => [(9, .row 32 3 (t.parts.map Part.d)), (11, .box [.d (.raw nilV), .d (.raw (.bool false)), .d (nsl [])]), (0, .row 32 3 ((ssV Part.v t.parts).map Part.d)), (12, .box ([.own 13 out.length] ++ zi r3)), (13, .row 32 3 (out.map Part.d))])
   (fun (z_ : (Nat) × (List Part)) => match z_ with | (j, out) => (ssV Part.v t.parts).length - j) (0, []) ?_ h (by kernel_rfl) (by kernel_rfl) ?_
 ·exact ⟨by simp [mrgZ], Nat.zero_le _, Nat.zero_le _, fun q hq => (by cases hq)⟩
 ·clear h; rintro ⟨j, out⟩ a w hI h
  change St _ (F.of [(2, vp 11 0), (4, vp 12 0), (17, .t (.c (.own 0 t.parts.length))), (18, vi .i64 (t.parts.length : Int)), (19, vi .i64 (j : Int))] [(9, .row 32 3 (t.parts.map Part.d)), (11, .box [.d (.raw nilV), .d (.raw (.bool false)), .d (nsl [])]), (0, .row 32 3 ((ssV Part.v t.parts).map Part.d)), (12, .box ([.own 13 out.length] ++ zi r3)), (13, .row 32 3 (out.map Part.d))]) a w at h
  obtain ⟨hI1, hI2, hI3, hI4⟩ := hI
  have ln := ht.1
  have ls : (ssV Part.v t.parts).length = t.parts.length := ssV_len _
  refine rSeq tu_ok 14 [] [(2, vp 11 0), (4, vp 12 0), (17, .t (.c (.own 0 t.parts.length))), (18, vi .i64 (t.parts.length : Int)), (19, vi .i64 (j : Int)), (20, vb (decide ((j : Int) < (t.parts.length : Int))))] [(9, .row 32 3 (t.parts.map Part.d)), (11, .box [.d (.raw nilV), .d (.raw (.bool false)), .d (nsl [])]), (0, .row 32 3 ((ssV Part.v t.parts).map Part.d)), (12, .box ([.own 13 out.length] ++ zi r3)), (13, .row 32 3 (out.map Part.d))] (by kernel_rfl) h ?_; clear h; intro a w h
  refine wp_seq ?_
  refine condS (decide ((j : Int) < (t.parts.length : Int))) h rfl (fun hc => ?_) (fun hc => ?_)
  ·have hc1 := hc; clear hc
   have hc1' := of_decide_eq_true hc1
   refine wp_skip ?_
   refine then_n ?_
   refine wp_seq ?_
   refine wp_block ?_
   obtain ⟨x4, hx4⟩ : ∃ z_ : Part, (ssV Part.v t.parts)[j]? = some z_ := ⟨_, List.getElem?_eq_getElem (by first | omega | (simp at *; omega))⟩
   obtain ⟨ox4, lx4⟩ := ht.get_mem (ssV_mem (List.mem_of_getElem? hx4))
   refine rSeq tu_ok 14 [(0, .gen _ _ _ fun _ _ _ _ => Op.idxO (d := 21) (t := 17) (k := .i64) (n := 0) (len := t.parts.length) (i := j) tu_0 (by first | omega | (simp at *; omega)) (OV.tmp 19 _)), (1, .gen _ _ _ fun _ _ _ _ => Op.loadR_agg (d := 22) (t := 21) (n := 0) (i := j) (fo := 0) (rty := 32) (es := 3) (xs := [.raw (.int .i64 x4.v), .raw (.bool x4.c.neg), nsl x4.c.abs]) tu_6 rfl (map_at hx4 (f := Part.d)) rfl rfl)] [(2, vp 11 0), (4, vp 12 0), (6, vp 14 0), (17, .t (.c (.own 0 t.parts.length))), (18, vi .i64 (t.parts.length : Int)), (19, vi .i64 (j : Int))] [(9, .row 32 3 (t.parts.map Part.d)), (11, .box [.d (.raw nilV), .d (.raw (.bool false)), .d (nsl [])]), (0, .row 32 3 ((ssV Part.v t.parts).map Part.d)), (12, .box ([.own 13 out.length] ++ zi r3)), (13, .row 32 3 (out.map Part.d)), (14, .box ([.d (.raw (.int .i64 x4.v))] ++ zi x4.c))] (by kernel_rfl) h ?_; clear h; intro a w h
   refine wp_seq ?_
   refine rSeq tu_ok 15 [] [(2, vp 11 0), (4, vp 12 0), (6, vp 14 0), (17, .t (.c (.own 0 t.parts.length))), (18, vi .i64 (t.parts.length : Int)), (19, vi .i64 (j : Int)), (25, vb (decide (x4.v < 0)))] [(9, .row 32 3 (t.parts.map Part.d)), (11, .box [.d (.raw nilV), .d (.raw (.bool false)), .d (nsl [])]), (0, .row 32 3 ((ssV Part.v t.parts).map Part.d)), (12, .box ([.own 13 out.length] ++ zi r3)), (13, .row 32 3 (out.map Part.d)), (14, .box ([.d (.raw (.int .i64 x4.v))] ++ zi x4.c))] (by kernel_rfl) h ?_; clear h; intro a w h
   refine condS (decide (x4.v < 0)) h rfl (fun hc => ?_) (fun hc => ?_)
   ·have hc2 := hc; clear hc
    have hc2' := of_decide_eq_true hc2
    refine wp_exit ?_
    refine then_x ?_
    refine inBlock_exit ?_
    refine then_n ?_
    refine rS tu_ok 15 [(0, .add .i64 (m := (j : Int)) (n := 1) (i64_id (by omega) (by omega)))] [(2, vp 11 0), (4, vp 12 0), (17, .t (.c (.own 0 t.parts.length))), (18, vi .i64 (t.parts.length : Int)), (19, vi .i64 ((j : Int) + 1))] [(9, .row 32 3 (t.parts.map Part.d)), (11, .box [.d (.raw nilV), .d (.raw (.bool false)), .d (nsl [])]), (0, .row 32 3 ((ssV Part.v t.parts).map Part.d)), (12, .box ([.own 13 out.length] ++ zi r3)), (13, .row 32 3 (out.map Part.d))] (by kernel_rfl) h ?_; clear h; intro a w h
    refine then_n ?_
    have hst : (mrgZ ((ssV Part.v t.parts).take (j + 1))) = mrgStep out x4 := by rw [hI1, show ((ssV Part.v t.parts).take (j + 1) : List Part) = (ssV Part.v t.parts).take j ++ [x4] from by rw [List.take_add_one, hx4]; rfl, mrgZ_snoc]
    have hst2 := mrg_neg (out := out) hc2'
    refine roundS (x := (j, out)) (y := ((j + 1), out)) h ?_ ?_ (by kernel_rfl) (by kernel_rfl)
    ·exact ⟨by rw [hst, hst2], (by have := at_lt hx4; omega), by omega, by have hh := hI4.step (ht.get_mem (ssV_mem (List.mem_of_getElem? hx4))); rw [hst2] at hh; exact hh⟩
    ·show (ssV Part.v t.parts).length - (j + 1) < (ssV Part.v t.parts).length - j
     have := at_lt hx4; omega
   ·have hc3 := hc; clear hc
    have hc3' := of_decide_eq_false hc3
    refine wp_skip ?_
    refine then_n ?_
    rcases Nat.eq_zero_or_pos out.length with hz | hz
    ·refine rSeq tu_ok 15 [(3, .gen _ _ _ fun _ _ _ _ => Op.arith (op := .sub) (d := 29) (xt := 3) (yt := 3) (k := .i64) (m := (out.length : Int)) (n := 1) (r := (-1)) (OV.tmp 28 _) (OV.const (.int .i64 1) rfl) (.inr (.inl ⟨rfl, (by omega)⟩)) (i64_id (by omega) (by omega)))] [(2, vp 11 0), (4, vp 12 0), (6, vp 14 0), (7, vi .i64 (-1)), (17, .t (.c (.own 0 t.parts.length))), (18, vi .i64 (t.parts.length : Int)), (19, vi .i64 (j : Int))] [(9, .row 32 3 (t.parts.map Part.d)), (11, .box [.d (.raw nilV), .d (.raw (.bool false)), .d (nsl [])]), (0, .row 32 3 ((ssV Part.v t.parts).map Part.d)), (12, .box ([.own 13 out.length] ++ zi r3)), (13, .row 32 3 (out.map Part.d)), (14, .box ([.d (.raw (.int .i64 x4.v))] ++ zi x4.c))] (by kernel_rfl) h ?_; clear h; intro a w h
     refine rSeq tu_ok 15 [(1, .cmp (op := .geq) (m := (-1)) (n := 0) (b := false) .i64 rfl)] [(2, vp 11 0), (4, vp 12 0), (6, vp 14 0), (7, vi .i64 (-1)), (17, .t (.c (.own 0 t.parts.length))), (18, vi .i64 (t.parts.length : Int)), (19, vi .i64 (j : Int)), (42, vb false)] [(9, .row 32 3 (t.parts.map Part.d)), (11, .box [.d (.raw nilV), .d (.raw (.bool false)), .d (nsl [])]), (0, .row 32 3 ((ssV Part.v t.parts).map Part.d)), (12, .box ([.own 13 out.length] ++ zi r3)), (13, .row 32 3 (out.map Part.d)), (14, .box ([.d (.raw (.int .i64 x4.v))] ++ zi x4.c))] (by kernel_rfl) h ?_; clear h; intro a w h
     refine condS false h rfl (fun hc => ?_) (fun hc => ?_)
     ·cases hc
     ·clear hc
      obtain ⟨r5, er5, vr5, or5, lr5⟩ := mkZ (v := x4.c.val) (m := x4.c.abs.length) (len_id ox4)
      refine rS tu_ok 15 [(6, .call (Fn.cast (Scopied x4.c ox4 (by omega)) (congrArg vz er5.symm)) tu_5), (8, .gen _ _ _ fun _ _ _ _ => Op.buildD (d := 65) (len := 1) (rows := [(Part.mk x4.v r5)].map Part.d) (rs := [(64, .t (.agg ([.d (.raw (.int .i64 x4.v))] ++ zi r5)))]) tu_1 (.cons (i := 0) (OV.tmp 64 _) (.nil)) (by kernel_rfl) rfl (by simp [Part.d]) (by decide) (by decide)), (9, .gen _ _ _ fun _ _ _ _ => Op.appOD (d := 66) (t := 58) (u := 65) (n := 13) (n' := 15) (len := out.length) (len' := (out ++ [(Part.mk x4.v r5)]).length) (rows := out.map Part.d) (rows2 := [(Part.mk x4.v r5)].map Part.d) (rows' := (out ++ [(Part.mk x4.v r5)]).map Part.d) tu_2 (by first | exact (List.length_map _).symm | simp) (by first | (rw [List.length_append, List.length_map]; done) | simp) (by simp) (by simp [Part.d]) (by first | omega | (simp at *; done) | (simp at *; omega)))] [(2, vp 11 0), (4, vp 12 0), (17, .t (.c (.own 0 t.parts.length))), (18, vi .i64 (t.parts.length : Int)), (19, vi .i64 (j : Int))] [(9, .row 32 3 (t.parts.map Part.d)), (11, .box [.d (.raw nilV), .d (.raw (.bool false)), .d (nsl [])]), (0, .row 32 3 ((ssV Part.v t.parts).map Part.d)), (12, .box ([.own 15 (out ++ [(Part.mk x4.v r5)]).length] ++ zi r3)), (15, .row 32 3 ((out ++ [(Part.mk x4.v r5)]).map Part.d))] (by kernel_rfl) h ?_; clear h; intro a w h
      refine block_n ?_
      refine then_n ?_
      refine rS tu_ok 16 [(0, .add .i64 (m := (j : Int)) (n := 1) (i64_id (by omega) (by omega)))] [(2, vp 11 0), (4, vp 12 0), (17, .t (.c (.own 0 t.parts.length))), (18, vi .i64 (t.parts.length : Int)), (19, vi .i64 ((j : Int) + 1))] [(9, .row 32 3 (t.parts.map Part.d)), (11, .box [.d (.raw nilV), .d (.raw (.bool false)), .d (nsl [])]), (0, .row 32 3 ((ssV Part.v t.parts).map Part.d)), (12, .box ([.own 15 (out ++ [(Part.mk x4.v r5)]).length] ++ zi r3)), (15, .row 32 3 ((out ++ [(Part.mk x4.v r5)]).map Part.d))] (by kernel_rfl) h ?_; clear h; intro a w h
      refine then_n ?_
      have hst : (mrgZ ((ssV Part.v t.parts).take (j + 1))) = mrgStep out x4 := by rw [hI1, show ((ssV Part.v t.parts).take (j + 1) : List Part) = (ssV Part.v t.parts).take j ++ [x4] from by rw [List.take_add_one, hx4]; rfl, mrgZ_snoc]
      have hst2 := mrg_nil hc3' hz
      replace h := renS 15 13 [(2, vp 11 0), (4, vp 12 0), (17, .t (.c (.own 0 t.parts.length))), (18, vi .i64 (t.parts.length : Int)), (19, vi .i64 ((j : Int) + 1))] [(9, .row 32 3 (t.parts.map Part.d)), (11, .box [.d (.raw nilV), .d (.raw (.bool false)), .d (nsl [])]), (0, .row 32 3 ((ssV Part.v t.parts).map Part.d)), (12, .box ([.own 13 (out ++ [(Part.mk x4.v r5)]).length] ++ zi r3)), (13, .row 32 3 ((out ++ [(Part.mk x4.v r5)]).map Part.d))] h (by kernel_rfl) (by kernel_rfl) (by kernel_rfl)
      refine roundS (x := (j, out)) (y := ((j + 1), (out ++ [(Part.mk x4.v r5)]))) h ?_ ?_ (by kernel_rfl) (by kernel_rfl)
      ·have hnew : (out ++ [(Part.mk x4.v r5)]) = mrgStep out x4 := by rw [hst2, er5]
       exact ⟨by rw [hst]; exact hnew, (by have := at_lt hx4; omega), by rw [List.length_append]; simp only [List.length_cons, List.length_nil]; omega, by rw [hnew]; exact hI4.step (ht.get_mem (ssV_mem (List.mem_of_getElem? hx4)))⟩
      ·show (ssV Part.v t.parts).length - (j + 1) < (ssV Part.v t.parts).length - j
       have := at_lt hx4; omega
    ·obtain ⟨k, hk1⟩ : ∃ k, out.length = k + 1 := ⟨out.length - 1, by omega⟩
     refine rSeq tu_ok 16 [(3, .gen _ _ _ fun _ _ _ _ => Op.arith (op := .sub) (d := 29) (xt := 3) (yt := 3) (k := .i64) (m := (out.length : Int)) (n := 1) (r := (k : Int)) (OV.tmp 28 _) (OV.const (.int .i64 1) rfl) (.inr (.inl ⟨rfl, (by omega)⟩)) (i64_id (by omega) (by omega)))] [(2, vp 11 0), (4, vp 12 0), (6, vp 14 0), (7, vi .i64 (k : Int)), (17, .t (.c (.own 0 t.parts.length))), (18, vi .i64 (t.parts.length : Int)), (19, vi .i64 (j : Int))] [(9, .row 32 3 (t.parts.map Part.d)), (11, .box [.d (.raw nilV), .d (.raw (.bool false)), .d (nsl [])]), (0, .row 32 3 ((ssV Part.v t.parts).map Part.d)), (12, .box ([.own 13 out.length] ++ zi r3)), (13, .row 32 3 (out.map Part.d)), (14, .box ([.d (.raw (.int .i64 x4.v))] ++ zi x4.c))] (by kernel_rfl) h ?_; clear h; intro a w h
     obtain ⟨x6, hx6⟩ : ∃ z_ : Part, out[k]? = some z_ := ⟨_, List.getElem?_eq_getElem (by first | omega | (simp at *; omega))⟩
     obtain ⟨ox6, lx6⟩ := hI4.lb (List.mem_of_getElem? hx6) (by omega)
     refine rSeq tu_ok 16 [(1, .cmp (op := .geq) (m := (k : Int)) (n := 0) (b := true) .i64 (show decide ((k : Int) ≥ 0) = true from decide_eq_true (by omega))), (6, .gen _ _ _ fun _ _ _ _ => Op.idxO (d := 36) (t := 34) (k := .i64) (n := 13) (len := out.length) (i := k) tu_0 (by first | omega | (simp at *; omega)) (OV.tmp 35 _)), (8, .gen _ _ _ fun _ _ _ _ => Op.loadR_c (d := 38) (t := 37) (n := 13) (i := k) (fo := 0) (rty := 32) (es := 3) (x := (.raw (.int .i64 x6.v))) tu_7 rfl (map_at hx6 (f := Part.d)) rfl)] [(2, vp 11 0), (4, vp 12 0), (6, vp 14 0), (7, vi .i64 (k : Int)), (17, .t (.c (.own 0 t.parts.length))), (18, vi .i64 (t.parts.length : Int)), (19, vi .i64 (j : Int)), (42, vb (x6.v == x4.v))] [(9, .row 32 3 (t.parts.map Part.d)), (11, .box [.d (.raw nilV), .d (.raw (.bool false)), .d (nsl [])]), (0, .row 32 3 ((ssV Part.v t.parts).map Part.d)), (12, .box ([.own 13 out.length] ++ zi r3)), (13, .row 32 3 (out.map Part.d)), (14, .box ([.d (.raw (.int .i64 x4.v))] ++ zi x4.c))] (by kernel_rfl) h ?_; clear h; intro a w h
     refine condS (x6.v == x4.v) h rfl (fun hc => ?_) (fun hc => ?_)
     ·have hc4 := hc; clear hc
      have hc4' := hc4; (try simp at hc4')
      obtain ⟨r7, er7, vr7, or7, lr7⟩ := mkZ (v := x6.c.val + x4.c.val) (m := x6.c.abs.length + x4.c.abs.length + 1) (len_add ox6 ox4)
      refine rS tu_ok 16 [(6, .gen _ _ _ fun _ _ _ _ => Op.idxO (d := 49) (t := 47) (k := .i64) (n := 13) (len := out.length) (i := k) tu_0 (by first | omega | (simp at *; omega)) (OV.tmp 48 _)), (8, .gen _ _ _ fun _ _ _ _ => Op.loadR_agg (d := 51) (t := 50) (n := 13) (i := k) (fo := 1) (rty := 32) (es := 3) (xs := [.raw (.bool x6.c.neg), nsl x6.c.abs]) tu_8 rfl (map_at hx6 (f := Part.d)) rfl rfl), (11, .call (Fn.cast (SAdd x6.c x4.c ox6 ox4 (by omega) (by omega)) (congrArg vz er7.symm)) tu_9), (12, .gen _ _ _ fun _ _ _ _ => Op.idxO (d := 55) (t := 44) (k := .i64) (n := 13) (len := out.length) (i := k) tu_0 (by first | omega | (simp at *; omega)) (OV.tmp 45 _)), (14, .gen _ _ _ fun _ _ _ _ => Op.storeR (t := 56) (n := 13) (i := k) (fo := 1) (rty := 32) (es := 3) (r := Part.d x6) (ds := [.raw (.bool r7.neg), nsl r7.abs]) (rs := [(54, vz r7)]) (rows := out.map Part.d) (rows' := (out.set k (Part.mk x6.v r7)).map Part.d) tu_8 (OV.tmp 54 _) rfl rfl rfl (map_at hx6 (f := Part.d)) (by simp [Part.d]) (set_map (xs := out) (F := Part.d) k _ _ rfl))] [(2, vp 11 0), (4, vp 12 0), (17, .t (.c (.own 0 t.parts.length))), (18, vi .i64 (t.parts.length : Int)), (19, vi .i64 (j : Int))] [(9, .row 32 3 (t.parts.map Part.d)), (11, .box [.d (.raw nilV), .d (.raw (.bool false)), .d (nsl [])]), (0, .row 32 3 ((ssV Part.v t.parts).map Part.d)), (12, .box ([.own 13 out.length] ++ zi r3)), (13, .row 32 3 ((out.set k (Part.mk x6.v r7)).map Part.d))] (by kernel_rfl) h ?_; clear h; intro a w h
      refine block_n ?_
      refine then_n ?_
      refine rS tu_ok 16 [(0, .add .i64 (m := (j : Int)) (n := 1) (i64_id (by omega) (by omega)))] [(2, vp 11 0), (4, vp 12 0), (17, .t (.c (.own 0 t.parts.length))), (18, vi .i64 (t.parts.length : Int)), (19, vi .i64 ((j : Int) + 1))] [(9, .row 32 3 (t.parts.map Part.d)), (11, .box [.d (.raw nilV), .d (.raw (.bool false)), .d (nsl [])]), (0, .row 32 3 ((ssV Part.v t.parts).map Part.d)), (12, .box ([.own 13 out.length] ++ zi r3)), (13, .row 32 3 ((out.set k (Part.mk x6.v r7)).map Part.d))] (by kernel_rfl) h ?_; clear h; intro a w h
      refine then_n ?_
      have hst : (mrgZ ((ssV Part.v t.parts).take (j + 1))) = mrgStep out x4 := by rw [hI1, show ((ssV Part.v t.parts).take (j + 1) : List Part) = (ssV Part.v t.parts).take j ++ [x4] from by rw [List.take_add_one, hx4]; rfl, mrgZ_snoc]
      replace h := h.conv (f' := F.of [(2, vp 11 0), (4, vp 12 0), (17, .t (.c (.own 0 t.parts.length))), (18, vi .i64 (t.parts.length : Int)), (19, vi .i64 ((j : Int) + 1))] [(9, .row 32 3 (t.parts.map Part.d)), (11, .box [.d (.raw nilV), .d (.raw (.bool false)), .d (nsl [])]), (0, .row 32 3 ((ssV Part.v t.parts).map Part.d)), (12, .box ([.own 13 (out.set k (Part.mk x6.v r7)).length] ++ zi r3)), (13, .row 32 3 ((out.set k (Part.mk x6.v r7)).map Part.d))]) (by rw [List.length_set])
      have hst2 := mrg_same hc3' hk1 hx6 (by simpa using hc4)
      refine roundS (x := (j, out)) (y := ((j + 1), (out.set k (Part.mk x6.v r7)))) h ?_ ?_ (by kernel_rfl) (by kernel_rfl)
      ·have hnew : (out.set k (Part.mk x6.v r7)) = mrgStep out x4 := by rw [hst2, er7]
       exact ⟨by rw [hst]; exact hnew, (by have := at_lt hx4; omega), by rw [List.length_set]; omega, by rw [hnew]; exact hI4.step (ht.get_mem (ssV_mem (List.mem_of_getElem? hx4)))⟩
      ·show (ssV Part.v t.parts).length - (j + 1) < (ssV Part.v t.parts).length - j
       have := at_lt hx4; omega
     ·have hc5 := hc; clear hc
      have hc5' := hc5; (try simp at hc5')
      obtain ⟨r8, er8, vr8, or8, lr8⟩ := mkZ (v := x4.c.val) (m := x4.c.abs.length) (len_id ox4)
      refine rS tu_ok 16 [(6, .call (Fn.cast (Scopied x4.c ox4 (by omega)) (congrArg vz er8.symm)) tu_5), (8, .gen _ _ _ fun _ _ _ _ => Op.buildD (d := 65) (len := 1) (rows := [(Part.mk x4.v r8)].map Part.d) (rs := [(64, .t (.agg ([.d (.raw (.int .i64 x4.v))] ++ zi r8)))]) tu_1 (.cons (i := 0) (OV.tmp 64 _) (.nil)) (by kernel_rfl) rfl (by simp [Part.d]) (by decide) (by decide)), (9, .gen _ _ _ fun _ _ _ _ => Op.appOD (d := 66) (t := 58) (u := 65) (n := 13) (n' := 16) (len := out.length) (len' := (out ++ [(Part.mk x4.v r8)]).length) (rows := out.map Part.d) (rows2 := [(Part.mk x4.v r8)].map Part.d) (rows' := (out ++ [(Part.mk x4.v r8)]).map Part.d) tu_2 (by first | exact (List.length_map _).symm | simp) (by first | (rw [List.length_append, List.length_map]; done) | simp) (by simp) (by simp [Part.d]) (by first | omega | (simp at *; done) | (simp at *; omega)))] [(2, vp 11 0), (4, vp 12 0), (17, .t (.c (.own 0 t.parts.length))), (18, vi .i64 (t.parts.length : Int)), (19, vi .i64 (j : Int))] [(9, .row 32 3 (t.parts.map Part.d)), (11, .box [.d (.raw nilV), .d (.raw (.bool false)), .d (nsl [])]), (0, .row 32 3 ((ssV Part.v t.parts).map Part.d)), (12, .box ([.own 16 (out ++ [(Part.mk x4.v r8)]).length] ++ zi r3)), (16, .row 32 3 ((out ++ [(Part.mk x4.v r8)]).map Part.d))] (by kernel_rfl) h ?_; clear h; intro a w h
      refine block_n ?_
      refine then_n ?_
      refine rS tu_ok 17 [(0, .add .i64 (m := (j : Int)) (n := 1) (i64_id (by omega) (by omega)))] [(2, vp 11 0), (4, vp 12 0), (17, .t (.c (.own 0 t.parts.length))), (18, vi .i64 (t.parts.length : Int)), (19, vi .i64 ((j : Int) + 1))] [(9, .row 32 3 (t.parts.map Part.d)), (11, .box [.d (.raw nilV), .d (.raw (.bool false)), .d (nsl [])]), (0, .row 32 3 ((ssV Part.v t.parts).map Part.d)), (12, .box ([.own 16 (out ++ [(Part.mk x4.v r8)]).length] ++ zi r3)), (16, .row 32 3 ((out ++ [(Part.mk x4.v r8)]).map Part.d))] (by kernel_rfl) h ?_; clear h; intro a w h
      refine then_n ?_
      have hst : (mrgZ ((ssV Part.v t.parts).take (j + 1))) = mrgStep out x4 := by rw [hI1, show ((ssV Part.v t.parts).take (j + 1) : List Part) = (ssV Part.v t.parts).take j ++ [x4] from by rw [List.take_add_one, hx4]; rfl, mrgZ_snoc]
      have hst2 := mrg_new hc3' hk1 hx6 (by simpa using hc5)
      replace h := renS 16 13 [(2, vp 11 0), (4, vp 12 0), (17, .t (.c (.own 0 t.parts.length))), (18, vi .i64 (t.parts.length : Int)), (19, vi .i64 ((j : Int) + 1))] [(9, .row 32 3 (t.parts.map Part.d)), (11, .box [.d (.raw nilV), .d (.raw (.bool false)), .d (nsl [])]), (0, .row 32 3 ((ssV Part.v t.parts).map Part.d)), (12, .box ([.own 13 (out ++ [(Part.mk x4.v r8)]).length] ++ zi r3)), (13, .row 32 3 ((out ++ [(Part.mk x4.v r8)]).map Part.d))] h (by kernel_rfl) (by kernel_rfl) (by kernel_rfl)
      refine roundS (x := (j, out)) (y := ((j + 1), (out ++ [(Part.mk x4.v r8)]))) h ?_ ?_ (by kernel_rfl) (by kernel_rfl)
      ·have hnew : (out ++ [(Part.mk x4.v r8)]) = mrgStep out x4 := by rw [hst2, er8]
       exact ⟨by rw [hst]; exact hnew, (by have := at_lt hx4; omega), by rw [List.length_append]; simp only [List.length_cons, List.length_nil]; omega, by rw [hnew]; exact hI4.step (ht.get_mem (ssV_mem (List.mem_of_getElem? hx4)))⟩
      ·show (ssV Part.v t.parts).length - (j + 1) < (ssV Part.v t.parts).length - j
       have := at_lt hx4; omega
  ·have hc6 := hc; clear hc
   have hc6' := of_decide_eq_false hc6
   refine wp_exit ?_
   refine then_x ?_
   refine then_x ?_
   refine inBlock_exit ?_
   refine then_n ?_
   replace h := atS (sl' := [(2, vp 11 0), (4, vp 12 0)]) (lc' := [(9, .row 32 3 (t.parts.map Part.d)), (11, .box [.d (.raw nilV), .d (.raw (.bool false)), .d (nsl [])]), (12, .box ([.own 13 out.length] ++ zi r3)), (13, .row 32 3 (out.map Part.d))]) h (by kernel_rfl) (by kernel_rfl)
   replace h := renS 13 0 [(2, vp 11 0), (4, vp 12 0)] [(9, .row 32 3 (t.parts.map Part.d)), (11, .box [.d (.raw nilV), .d (.raw (.bool false)), .d (nsl [])]), (12, .box ([.own 0 out.length] ++ zi r3)), (0, .row 32 3 (out.map Part.d))] h (by kernel_rfl) (by kernel_rfl) (by kernel_rfl)
   refine rSeq tu_ok 17 [(2, .call (SDeleteFZ isZ out (fun p hp => SPlain2 p (hI4.lb hp (by omega)).1 (by have := (hI4.lb hp (by omega)).2; omega)) (by omega)) tu_10)] [(2, vp 11 0), (4, vp 12 0)] [(9, .row 32 3 (t.parts.map Part.d)), (11, .box [.d (.raw nilV), .d (.raw (.bool false)), .d (nsl [])]), (12, .box ([.own 0 (out.filter (fun p => !isZ p)).length] ++ zi r3)), (0, .row 32 3 ((out.filter (fun p => !isZ p)).map Part.d))] (by kernel_rfl) h ?_; clear h; intro a w h
   refine rSeq tu_ok 17 [] [(2, vp 11 0)] [(9, .row 32 3 (t.parts.map Part.d)), (11, .box ([.own 0 (out.filter (fun p => !isZ p)).length] ++ zi r3)), (0, .row 32 3 ((out.filter (fun p => !isZ p)).map Part.d))] (by kernel_rfl) h ?_; clear h; intro a w h
   refine wp_ret ?_
   replace h := pubSK 0 3 32 ((out.filter (fun p => !isZ p)).map Part.d) [(2, vp 11 0)] [(9, .row 32 3 (t.parts.map Part.d)), (11, .box ([.d (.sl 3 ((out.filter (fun p => !isZ p)).map Part.d))] ++ zi r3))] h rfl (by kernel_rfl) trivial (show AllEq _ [(out.filter (fun p => !isZ p)).length] from ⟨by first | exact (List.length_map _).symm | simp, trivial⟩) (by kernel_rfl) (by kernel_rfl)
   refine retS [.agg ([.d (.sl 3 ((out.filter (fun p => !isZ p)).map Part.d))] ++ zi r3)] h Exit.ret (.inl rfl)  rfl ⟨RV.agg _ 11 0 _ _ _ _ tu_11 rfl rfl rfl rfl, trivial⟩ ?_ (by kernel_rfl) (by kernel_rfl)
   have hj : j = (ssV Part.v t.parts).length := by omega
   subst hj
   rw [hI1, List.take_length, plain_law, er3]; first | done | rfl
theorem SPlainW (t : Term) {n L : Nat} (h : TOk n L t) (hn : n ≤ 1000) (hL : L ≤ 40000) (hp : 0 < t.parts.length) : Fn Tryz.prog 41 [(9, .row 32 3 (t.parts.map Part.d))] [.t (.agg ([.own 9 t.parts.length] ++ zi t.k))] (vd (plainT t).d) [(9, .row 32 3 (t.parts.map Part.d))] :=
 have h' := h.mono hn hL
 SPlainW0 t h'.psok h'.kb h'.kl hp
set_option maxRecDepth 100000 in
theorem SContentW (t : Term) {n L : Nat} (ht : TOk n L t) (hn : n ≤ 1000) (hL : L ≤ 20000) (hp : 0 < t.parts.length) : Fn Tryz.prog 28 [(9, .row 32 3 (t.parts.map Part.d))] [.t (.agg ([.own 9 t.parts.length] ++ zi t.k))] (vz (ZI.of (conZ (plainT t).parts))) [(9, .row 32 3 (t.parts.map Part.d))] := by
 refine Fn.body Tryz.func28 rfl 21 rfl fun w H B a h => ?_
 refine rSeq tu_ok 10 [] [(1, vp 10 0), (2, vp 11 0)] [(9, .row 32 3 (t.parts.map Part.d)), (10, .box ([.own 9 t.parts.length] ++ zi t.k)), (11, .box [.d (.raw (.bool false)), .d (nsl [])])] (by kernel_rfl) h ?_; clear h; intro a w h
 refine rSeq tu_ok 12 [] [(1, vp 10 0), (2, vp 11 0), (3, vp 12 0)] [(9, .row 32 3 (t.parts.map Part.d)), (10, .box ([.own 9 t.parts.length] ++ zi t.k)), (11, .box [.d (.raw (.bool false)), .d (nsl [])]), (12, .box [.d (.raw (.bool false)), .d (nsl [])])] (by kernel_rfl) h ?_; clear h; intro a w h
 refine wp_seq ?_
 refine rSeq tu_ok 13 [(1, .call (SPlainW t ht hn (by omega) hp) tu_12), (3, .len (c := (.d (.sl 3 ((plainT t).parts.map Part.d)))) (n := (plainT t).parts.length) (lenC_map _ _ _))] [(2, vp 11 0), (3, vp 12 0), (9, .t (.c (.d (.sl 3 ((plainT t).parts.map Part.d))))), (10, vi .i64 ((plainT t).parts.length : Int)), (11, vi .i64 0)] [(9, .row 32 3 (t.parts.map Part.d)), (11, .box [.d (.raw (.bool false)), .d (nsl [])]), (12, .box [.d (.raw (.bool false)), .d (nsl [])])] (by kernel_rfl) h ?_; clear h; intro a w h
 refine wp_block ?_
 refine loopS (ι := (Nat) × (ZI)) (fun (z_ : (Nat) × (ZI)) => match z_ with | (j, out) => out = ZI.of (conZ ((plainT t).parts.take j)) ∧ j ≤ (plainT t).parts.length)
   (fun (z_ : (Nat) × (ZI)) => match z_ with | (j, out) => [(2, vp 11 0), (3, vp 12 0), (9, .t (.c (.d (.sl 3 ((plainT t).parts.map Part.d))))), (10, vi .i64 ((plainT t).parts.length : Int)), (11, vi .i64 (j : Int))])
   (fun (z_ : (Nat) × (ZI)) => match z_ with | (j, out) => [(9, .row 32 3 (t.parts.map Part.d)), (11, .box [.d (.raw (.bool false)), .d (nsl [])]), (12, .box (zi out))])
   (fun (z_ : (Nat) × (ZI)) => match z_ with | (j, out) => (plainT t).parts.length - j) (0, (ZI.of 0)) ?_ h (by kernel_rfl) (by kernel_rfl) ?_
 ·exact ⟨by simp [conZ], Nat.zero_le _⟩
 ·clear h; rintro ⟨j, out⟩ a w hI h
  change St _ (F.of [(2, vp 11 0), (3, vp 12 0), (9, .t (.c (.d (.sl 3 ((plainT t).parts.map Part.d))))), (10, vi .i64 ((plainT t).parts.length : Int)), (11, vi .i64 (j : Int))] [(9, .row 32 3 (t.parts.map Part.d)), (11, .box [.d (.raw (.bool false)), .d (nsl [])]), (12, .box (zi out))]) a w at h
  obtain ⟨hI1, hI2⟩ := hI
  have lpp := (ht.plain hn).len
  have lvv : (varsZ t.parts).length = (plainT t).parts.length := (List.length_map _).symm
  have lo : out.abs.length ≤ L + 1 := by rw [hI1]; exact con_len ht hn j
  have ho : Lb out.abs := by rw [hI1]; exact ZI.lb_of _
  have vo : out.val = conZ ((plainT t).parts.take j) := by rw [hI1]; exact ZI.val_of _
  refine rSeq tu_ok 13 [] [(2, vp 11 0), (3, vp 12 0), (9, .t (.c (.d (.sl 3 ((plainT t).parts.map Part.d))))), (10, vi .i64 ((plainT t).parts.length : Int)), (11, vi .i64 (j : Int)), (12, vb (decide ((j : Int) < ((plainT t).parts.length : Int))))] [(9, .row 32 3 (t.parts.map Part.d)), (11, .box [.d (.raw (.bool false)), .d (nsl [])]), (12, .box (zi out))] (by kernel_rfl) h ?_; clear h; intro a w h
  refine wp_seq ?_
  refine condS (decide ((j : Int) < ((plainT t).parts.length : Int))) h rfl (fun hc => ?_) (fun hc => ?_)
  ·have hc1 := hc; clear hc
   have hc1' := of_decide_eq_true hc1
   refine wp_skip ?_
   refine then_n ?_
   refine wp_seq ?_
   refine wp_block ?_
   obtain ⟨x2, hx2⟩ : ∃ z_ : Part, (plainT t).parts[j]? = some z_ := ⟨_, List.getElem?_eq_getElem (by first | omega | (simp at *; omega))⟩
   obtain ⟨ox2, lx2⟩ := (ht.plain hn).get hx2
   refine rSeq tu_ok 13 [(0, .gen _ _ _ fun _ _ _ _ => Op.idxD (d := 13) (t := 9) (k := .i64) tu_0 (map_at hx2 (f := Part.d)) (OV.tmp 11 _))] [(2, vp 11 0), (3, vp 12 0), (5, vp 13 0), (9, .t (.c (.d (.sl 3 ((plainT t).parts.map Part.d))))), (10, vi .i64 ((plainT t).parts.length : Int)), (11, vi .i64 (j : Int))] [(9, .row 32 3 (t.parts.map Part.d)), (11, .box [.d (.raw (.bool false)), .d (nsl [])]), (12, .box (zi out)), (13, .box ([.d (.raw (.int .i64 x2.v))] ++ zi x2.c))] (by kernel_rfl) h ?_; clear h; intro a w h
   obtain ⟨r3, er3, vr3, or3, lr3⟩ := mkZ (v := (Nat.gcd out.val.natAbs x2.c.val.natAbs : Int)) (m := out.abs.length + x2.c.abs.length) (len_gcd ho ox2)
   refine rS tu_ok 14 [(3, .call (Fn.cast (SGcd out x2.c ho ox2 (by omega) (by omega)) (congrArg vz er3.symm)) tu_13)] [(2, vp 11 0), (3, vp 12 0), (9, .t (.c (.d (.sl 3 ((plainT t).parts.map Part.d))))), (10, vi .i64 ((plainT t).parts.length : Int)), (11, vi .i64 (j : Int))] [(9, .row 32 3 (t.parts.map Part.d)), (11, .box [.d (.raw (.bool false)), .d (nsl [])]), (12, .box (zi r3))] (by kernel_rfl) h ?_; clear h; intro a w h
   refine block_n ?_
   refine then_n ?_
   refine rS tu_ok 14 [(0, .add .i64 (m := (j : Int)) (n := 1) (i64_id (by omega) (by omega)))] [(2, vp 11 0), (3, vp 12 0), (9, .t (.c (.d (.sl 3 ((plainT t).parts.map Part.d))))), (10, vi .i64 ((plainT t).parts.length : Int)), (11, vi .i64 ((j : Int) + 1))] [(9, .row 32 3 (t.parts.map Part.d)), (11, .box [.d (.raw (.bool false)), .d (nsl [])]), (12, .box (zi r3))] (by kernel_rfl) h ?_; clear h; intro a w h
   refine then_n ?_
   refine roundS (x := (j, out)) (y := ((j + 1), r3)) h ?_ ?_ (by kernel_rfl) (by kernel_rfl)
   ·have := at_lt hx2
    exact ⟨by rw [er3, vo, con_take hx2], by omega⟩
   ·show (plainT t).parts.length - (j + 1) < (plainT t).parts.length - j
    have := at_lt hx2; omega
  ·have hc2 := hc; clear hc
   have hc2' := of_decide_eq_false hc2
   refine wp_exit ?_
   refine then_x ?_
   refine then_x ?_
   refine inBlock_exit ?_
   refine then_n ?_
   refine rSeq tu_ok 14 [] [(2, vp 11 0)] [(9, .row 32 3 (t.parts.map Part.d)), (11, .box (zi out))] (by kernel_rfl) h ?_; clear h; intro a w h
   refine wp_ret ?_
   refine retS [.agg (zi out)] h Exit.ret (.inl rfl)  rfl ⟨RV.agg _ 11 0 _ _ _ _ tu_8 rfl rfl rfl rfl, trivial⟩ ?_ (by kernel_rfl) (by kernel_rfl)
   have hj : j = (plainT t).parts.length := by omega
   subst hj
   rw [hI1, List.take_length]; first | done | rfl
end Go.Proofs.YtekhnajfdaknnaaGreatDoor.S
end
section
namespace Go.Proofs.YtekhnajfdaknnaaGreatDoor.S
open Go.RowKit

set_option maxRecDepth 100000 in
theorem tv_0 : SlT Tryz.prog 22 32 3 := SlT.mk' Tryz.underlying22 (by kernel_rfl)
set_option maxRecDepth 100000 in
theorem tv_1 : Sz Tryz.prog 32 3 true := Sz.mk' (by kernel_rfl) Tryz.underlying32 _ rfl
set_option maxRecDepth 100000 in
theorem tv_2 : Bodied Tryz.prog 67 := Bodied.mk' (by kernel_rfl)
set_option maxRecDepth 100000 in
theorem tv_3 : Bodied Tryz.prog 101 := Bodied.mk' (by kernel_rfl)
set_option maxRecDepth 100000 in
theorem tv_4 : Zero Tryz.prog 32 [.d (.raw (.int .i64 0)), .d (.raw (.bool false)), .d (nsl [])] := ⟨(Value.agg #[.int .i64 0, .bool false, .slice none 0 0]), [.int .i64 0, .bool false, .slice none 0 0], by kernel_rfl, rfl, (fun _ _ => ⟨DR.raw _ rfl, DR.raw _ rfl, DR.nil _ _ _ (fun _ => rfl) (Nat.zero_le _), trivial⟩)⟩
set_option maxRecDepth 100000 in
theorem tv_5 : Bodied Tryz.prog 41 := Bodied.mk' (by kernel_rfl)
set_option maxRecDepth 100000 in
theorem tv_6 : Bodied Tryz.prog 66 := Bodied.mk' (by kernel_rfl)
set_option maxRecDepth 100000 in
theorem tv_7 : Sz Tryz.prog 28 3 true := Sz.mk' (by kernel_rfl) Tryz.underlying28 _ rfl
def tv_tb : Tb := [(3, ⟨1, false, [], [.d (.raw (.int .i64 0))], 13⟩), (4, ⟨1, false, [], [.d (.raw (.bool false))], 3⟩), (24, ⟨1, false, [], [.d (nsl [])], 1⟩), (26, ⟨2, true, [(0, 1, false), (1, 1, false)], [.d (.raw (.bool false)), .d (nsl [])], 0⟩), (32, ⟨3, true, [(0, 1, false), (1, 2, true)], [.d (.raw (.int .i64 0)), .d (.raw (.bool false)), .d (nsl [])], 0⟩), (22, ⟨1, false, [], [.d (.raw nilV)], 1⟩), (28, ⟨3, true, [(0, 1, false), (1, 2, true)], [.d (.raw nilV), .d (.raw (.bool false)), .d (nsl [])], 0⟩), (45, ⟨1, false, [], [.d (.raw nilV)], 1⟩)]
set_option maxRecDepth 100000 in
theorem tv_ok : TbOk Tryz.prog tv_tb := ⟨TyOk.int Tryz.underlying3 rfl (by kernel_rfl) ⟨(.int .i64 0 : Value), [.int .i64 0], by kernel_rfl, rfl, (fun _ _ => ⟨DR.raw _ rfl, trivial⟩)⟩,
 TyOk.bl Tryz.underlying4 (by kernel_rfl) ⟨(.bool false : Value), [.bool false], by kernel_rfl, rfl, (fun _ _ => ⟨DR.raw _ rfl, trivial⟩)⟩,
 TyOk.slc Tryz.underlying24 (by kernel_rfl) ⟨(.slice none 0 0 : Value), [.slice none 0 0], by kernel_rfl, rfl, (fun _ _ => ⟨DR.nil _ _ _ (fun _ => rfl) (Nat.zero_le _), trivial⟩)⟩,
 TyOk.st Tryz.underlying26 (by kernel_rfl) ⟨⟨by decide, Fd.mk' _ _ Tryz.underlying26 rfl rfl (Sz.mk' (by kernel_rfl) Tryz.underlying4 _ rfl)⟩, ⟨by decide, Fd.mk' _ _ Tryz.underlying26 rfl rfl (Sz.mk' (by kernel_rfl) Tryz.underlying24 _ rfl)⟩, trivial⟩ ⟨(Value.agg #[.bool false, .slice none 0 0]), [.bool false, .slice none 0 0], by kernel_rfl, rfl, (fun _ _ => ⟨DR.raw _ rfl, DR.nil _ _ _ (fun _ => rfl) (Nat.zero_le _), trivial⟩)⟩ ⟨_, Tryz.underlying26, ⟨⟨rfl, by kernel_rfl⟩, ⟨rfl, by kernel_rfl⟩, trivial⟩⟩,
 TyOk.st Tryz.underlying32 (by kernel_rfl) ⟨⟨by decide, Fd.mk' _ _ Tryz.underlying32 rfl rfl (Sz.mk' (by kernel_rfl) Tryz.underlying3 _ rfl)⟩, ⟨by decide, Fd.mk' _ _ Tryz.underlying32 rfl rfl (Sz.mk' (by kernel_rfl) Tryz.underlying26 _ rfl)⟩, trivial⟩ ⟨(Value.agg #[.int .i64 0, .bool false, .slice none 0 0]), [.int .i64 0, .bool false, .slice none 0 0], by kernel_rfl, rfl, (fun _ _ => ⟨DR.raw _ rfl, DR.raw _ rfl, DR.nil _ _ _ (fun _ => rfl) (Nat.zero_le _), trivial⟩)⟩ ⟨_, Tryz.underlying32, ⟨⟨rfl, by kernel_rfl⟩, ⟨rfl, by kernel_rfl⟩, trivial⟩⟩,
 TyOk.slc Tryz.underlying22 (by kernel_rfl) ⟨(.slice none 0 0 : Value), [.slice none 0 0], by kernel_rfl, rfl, (fun _ _ => ⟨DR.raw _ rfl, trivial⟩)⟩,
 TyOk.st Tryz.underlying28 (by kernel_rfl) ⟨⟨by decide, Fd.mk' _ _ Tryz.underlying28 rfl rfl (Sz.mk' (by kernel_rfl) Tryz.underlying22 _ rfl)⟩, ⟨by decide, Fd.mk' _ _ Tryz.underlying28 rfl rfl (Sz.mk' (by kernel_rfl) Tryz.underlying26 _ rfl)⟩, trivial⟩ ⟨(Value.agg #[.slice none 0 0, .bool false, .slice none 0 0]), [.slice none 0 0, .bool false, .slice none 0 0], by kernel_rfl, rfl, (fun _ _ => ⟨DR.raw _ rfl, DR.raw _ rfl, DR.nil _ _ _ (fun _ => rfl) (Nat.zero_le _), trivial⟩)⟩ ⟨_, Tryz.underlying28, ⟨⟨rfl, by kernel_rfl⟩, ⟨rfl, by kernel_rfl⟩, trivial⟩⟩,
 TyOk.slc Tryz.underlying45 (by kernel_rfl) ⟨(.slice none 0 0 : Value), [.slice none 0 0], by kernel_rfl, rfl, (fun _ _ => ⟨DR.raw _ rfl, trivial⟩)⟩,
 trivial⟩
def isVar (v : Int) (p : Part) : Bool := p.v == v
theorem coefZ_strike (v : Int) (ps : List Part) (u : Int) : coefZ (ps.filter fun p => !isVar v p) u = if u = v then 0 else coefZ ps u := by
 induction ps with
 | nil => simp [coefZ]
 | cons p ps ih =>
  by_cases h : p.v = v
  ·rw [List.filter_cons_of_neg (by simp [isVar, h]), ih]
   by_cases hu : u = v
   ·rw [if_pos hu, if_pos hu]
   ·rw [if_neg hu, if_neg hu]
    simp only [coefZ]
    rw [if_neg (fun e => hu (e.1.symm.trans h)), Int.zero_add]
  ·rw [List.filter_cons_of_pos (by simpa [isVar] using h)]
   simp only [coefZ]
   rw [ih]
   by_cases hu : u = v
   ·rw [if_pos hu, if_pos hu, if_neg (fun e => h (e.1.trans hu)), Int.zero_add]
   ·rw [if_neg hu, if_neg hu]
def woT (t : Term) (v : Int) : Term := plainT ⟨t.parts.filter fun p => !isVar v p, t.k⟩
theorem wo_law (t : Term) (v : Int) : (⟨(plainT t).parts.filter fun p => !isVar v p, (plainT t).k⟩ : Term) = woT t v := by
 obtain ⟨h1, h2, h3⟩ := plainT_parts t
 refine (plainT_eq ?_ (fun q hq => h2 q (List.mem_filter.1 hq).1) (fun u => ?_) rfl).symm
 ·exact List.Pairwise.filter _ h1
 ·show coefZ (t.parts.filter fun p => !isVar v p) u = coefZ ((plainT t).parts.filter fun p => !isVar v p) u
  rw [coefZ_strike, coefZ_strike, h3]
set_option maxRecDepth 100000 in
theorem SWo1 (p : Part) (v : Int)  : Fn Tryz.prog 67 [(1, .box [.d (.raw (.int .i64 v))])] [.t (.agg ([.d (.raw (.int .i64 p.v))] ++ zi p.c)), vp 1 0] (vb (isVar v p)) [(1, .box [.d (.raw (.int .i64 v))])] := by
 refine Fn.body Tryz.func67 rfl 8 rfl fun w H B a h => ?_
 refine rSeq tv_ok 2 [] [(1, vp 1 0), (2, vp 2 0), (3, vb false)] [(1, .box [.d (.raw (.int .i64 v))]), (2, .box ([.d (.raw (.int .i64 p.v))] ++ zi p.c))] (by kernel_rfl) h ?_; clear h; intro a w h
 refine rSeq tv_ok 3 [] [(3, vb (p.v == v))] [(1, .box [.d (.raw (.int .i64 v))])] (by kernel_rfl) h ?_; clear h; intro a w h
 refine wp_ret ?_
 refine retS [.c (.d (.raw (.bool (p.v == v))))] h Exit.ret (.inl rfl)  rfl ⟨RV.tmp _ _ rfl, trivial⟩ ?_ (by kernel_rfl) (by kernel_rfl)
 rfl
set_option maxRecDepth 100000 in
theorem SIndexFV (pr : Part → Bool) (xs : List Part) (v : Int) (hf : ∀ p ∈ xs, Fn Tryz.prog 67 [(1, .box [.d (.raw (.int .i64 v))])] [vd p.d, vp 1 0] (vb (pr p)) [(1, .box [.d (.raw (.int .i64 v))])]) (hl : xs.length ≤ 1000000) : Fn Tryz.prog 101 [(0, .row 32 3 (xs.map Part.d)), (1, .box [.d (.raw (.int .i64 v))])] [.t (.c (.own 0 xs.length)), .t (.c (.fn (.func 67) [] [.ptr 1 0]))] (vi .i64 (idxF pr xs 0)) [(0, .row 32 3 (xs.map Part.d)), (1, .box [.d (.raw (.int .i64 v))])] := by
 refine Fn.body Tryz.func101 rfl 19 rfl fun w H B a h => ?_
 refine rSeq tv_ok 2 [] [(0, .t (.c (.own 0 xs.length))), (1, .t (.c (.fn (.func 67) [] [.ptr 1 0]))), (4, vi .i64 0)] [(0, .row 32 3 (xs.map Part.d)), (1, .box [.d (.raw (.int .i64 v))])] (by kernel_rfl) h ?_; clear h; intro a w h
 refine wp_seq ?_
 refine rSeq tv_ok 2 [] [(0, .t (.c (.own 0 xs.length))), (1, .t (.c (.fn (.func 67) [] [.ptr 1 0]))), (4, vi .i64 0), (7, vi .i64 (xs.length : Int)), (8, vi .i64 0)] [(0, .row 32 3 (xs.map Part.d)), (1, .box [.d (.raw (.int .i64 v))])] (by kernel_rfl) h ?_; clear h; intro a w h
 refine wp_block ?_
 refine loopS (ι := (Nat)) (fun (z_ : (Nat)) => match z_ with | j => j ≤ xs.length ∧ idxF pr xs 0 = idxF pr (xs.drop j) j)
   (fun (z_ : (Nat)) => match z_ with | j => [(0, .t (.c (.own 0 xs.length))), (1, .t (.c (.fn (.func 67) [] [.ptr 1 0]))), (7, vi .i64 (xs.length : Int)), (8, vi .i64 (j : Int))])
   (fun (z_ : (Nat)) => match z_ with | j => [(0, .row 32 3 (xs.map Part.d)), (1, .box [.d (.raw (.int .i64 v))])])
   (fun (z_ : (Nat)) => match z_ with | j => xs.length - j) 0 ?_ h (by kernel_rfl) (by kernel_rfl) ?_
 ·exact ⟨Nat.zero_le _, rfl⟩
 ·clear h; rintro j a w hI h
  change St _ (F.of [(0, .t (.c (.own 0 xs.length))), (1, .t (.c (.fn (.func 67) [] [.ptr 1 0]))), (7, vi .i64 (xs.length : Int)), (8, vi .i64 (j : Int))] [(0, .row 32 3 (xs.map Part.d)), (1, .box [.d (.raw (.int .i64 v))])]) a w at h
  obtain ⟨hI1, hI2⟩ := hI
  refine rSeq tv_ok 2 [] [(0, .t (.c (.own 0 xs.length))), (1, .t (.c (.fn (.func 67) [] [.ptr 1 0]))), (7, vi .i64 (xs.length : Int)), (8, vi .i64 (j : Int)), (9, vb (decide ((j : Int) < (xs.length : Int))))] [(0, .row 32 3 (xs.map Part.d)), (1, .box [.d (.raw (.int .i64 v))])] (by kernel_rfl) h ?_; clear h; intro a w h
  refine wp_seq ?_
  refine condS (decide ((j : Int) < (xs.length : Int))) h rfl (fun hc => ?_) (fun hc => ?_)
  ·have hc1 := hc; clear hc
   have hc1' := of_decide_eq_true hc1
   refine wp_skip ?_
   refine then_n ?_
   refine wp_seq ?_
   refine wp_block ?_
   refine rSeq tv_ok 2 [] [(0, .t (.c (.own 0 xs.length))), (1, .t (.c (.fn (.func 67) [] [.ptr 1 0]))), (5, vi .i64 (j : Int)), (7, vi .i64 (xs.length : Int)), (8, vi .i64 (j : Int))] [(0, .row 32 3 (xs.map Part.d)), (1, .box [.d (.raw (.int .i64 v))])] (by kernel_rfl) h ?_; clear h; intro a w h
   obtain ⟨x1, hx1⟩ : ∃ z_ : Part, xs[j]? = some z_ := ⟨_, List.getElem?_eq_getElem (by first | omega | (simp at *; omega))⟩
   refine rSeq tv_ok 2 [(3, .gen _ _ _ fun _ _ _ _ => Op.idxO (d := 14) (t := 12) (k := .i64) (n := 0) (len := xs.length) (i := j) tv_0 (by first | omega | (simp at *; omega)) (OV.tmp 13 _)), (4, .gen _ _ _ fun _ _ _ _ => Op.loadR_agg (d := 15) (t := 14) (n := 0) (i := j) (fo := 0) (rty := 32) (es := 3) (xs := [.raw (.int .i64 x1.v), .raw (.bool x1.c.neg), nsl x1.c.abs]) tv_1 rfl (map_at hx1 (f := Part.d)) rfl rfl), (5, .gen _ _ _ fun _ _ _ _ => Op.callV (d := 16) (t := 11) (cap := [.ptr 1 0]) (args := [.t (.agg ([.d (.raw (.int .i64 x1.v))] ++ zi x1.c))]) (rs := [(15, .t (.agg ([.d (.raw (.int .i64 x1.v))] ++ zi x1.c)))]) (tys := #[32]) (hf x1 (List.mem_of_getElem? hx1)) tv_2 (OVs.cons (OV.tmp 15 _) (OVs.nil)))] [(0, .t (.c (.own 0 xs.length))), (1, .t (.c (.fn (.func 67) [] [.ptr 1 0]))), (5, vi .i64 (j : Int)), (7, vi .i64 (xs.length : Int)), (8, vi .i64 (j : Int)), (16, vb (pr x1))] [(0, .row 32 3 (xs.map Part.d)), (1, .box [.d (.raw (.int .i64 v))])] (by kernel_rfl) h ?_; clear h; intro a w h
   refine condS (pr x1) h rfl (fun hc => ?_) (fun hc => ?_)
   ·have hc2 := hc; clear hc
    refine rSeq tv_ok 2 [] [(0, .t (.c (.own 0 xs.length))), (1, .t (.c (.fn (.func 67) [] [.ptr 1 0]))), (4, vi .i64 (j : Int)), (7, vi .i64 (xs.length : Int)), (8, vi .i64 (j : Int))] [(0, .row 32 3 (xs.map Part.d)), (1, .box [.d (.raw (.int .i64 v))])] (by kernel_rfl) h ?_; clear h; intro a w h
    refine wp_ret ?_
    refine block_r ?_
    refine then_r ?_
    refine then_r ?_
    refine block_r ?_
    refine then_r ?_
    refine retS [.c (.d (.raw (.int .i64 (j : Int))))] h Exit.ret (.inl rfl)  rfl ⟨RV.tmp _ _ rfl, trivial⟩ ?_ (by kernel_rfl) (by kernel_rfl)
    have hz : idxF pr xs 0 = (j : Int) := by rw [hI2, idxF_at hx1, if_pos hc2]
    rw [hz]; first | done | rfl
   ·have hc3 := hc; clear hc
    refine wp_skip ?_
    refine block_n ?_
    refine then_n ?_
    refine rS tv_ok 2 [(0, .add .i64 (m := (j : Int)) (n := 1) (i64_id (by omega) (by omega)))] [(0, .t (.c (.own 0 xs.length))), (1, .t (.c (.fn (.func 67) [] [.ptr 1 0]))), (7, vi .i64 (xs.length : Int)), (8, vi .i64 ((j : Int) + 1))] [(0, .row 32 3 (xs.map Part.d)), (1, .box [.d (.raw (.int .i64 v))])] (by kernel_rfl) h ?_; clear h; intro a w h
    refine then_n ?_
    refine roundS (x := j) (y := j + 1) h ?_ ?_ (by kernel_rfl) (by kernel_rfl)
    ·exact ⟨by have := at_lt hx1; omega, by rw [hI2, idxF_at hx1, if_neg (by rw [hc3]; exact Bool.noConfusion)]⟩
    ·simp; omega
  ·have hc4 := hc; clear hc
   have hc4' := of_decide_eq_false hc4
   refine wp_exit ?_
   refine then_x ?_
   refine then_x ?_
   refine inBlock_exit ?_
   refine then_n ?_
   refine rSeq tv_ok 2 [] [(4, vi .i64 (-1))] [(0, .row 32 3 (xs.map Part.d)), (1, .box [.d (.raw (.int .i64 v))])] (by kernel_rfl) h ?_; clear h; intro a w h
   refine wp_ret ?_
   refine retS [.c (.d (.raw (.int .i64 (-1))))] h Exit.ret (.inl rfl)  rfl ⟨RV.tmp _ _ rfl, trivial⟩ ?_ (by kernel_rfl) (by kernel_rfl)
   have hz : idxF pr xs 0 = -1 := by rw [hI2, List.drop_of_length_le (by omega)]; rfl
   rw [hz]; first | done | rfl
set_option maxRecDepth 100000 in
theorem SDeleteFV (pr : Part → Bool) (xs : List Part) (v : Int) (hf : ∀ p ∈ xs, Fn Tryz.prog 67 [(1, .box [.d (.raw (.int .i64 v))])] [vd p.d, vp 1 0] (vb (pr p)) [(1, .box [.d (.raw (.int .i64 v))])]) (hl : xs.length ≤ 1000000) : Fn Tryz.prog 66 [(0, .row 32 3 (xs.map Part.d)), (1, .box [.d (.raw (.int .i64 v))])] [.t (.c (.own 0 xs.length)), .t (.c (.fn (.func 67) [] [.ptr 1 0]))] (.t (.c (.own 0 (xs.filter (fun p => !pr p)).length))) [(0, .row 32 3 ((xs.filter (fun p => !pr p)).map Part.d)), (1, .box [.d (.raw (.int .i64 v))])] := by
 refine Fn.body Tryz.func66 rfl 42 rfl fun w H B a h => ?_
 refine rSeq tv_ok 2 [] [(0, .t (.c (.own 0 xs.length))), (1, .t (.c (.fn (.func 67) [] [.ptr 1 0]))), (4, .t (.c (.d (.raw nilV))))] [(0, .row 32 3 (xs.map Part.d)), (1, .box [.d (.raw (.int .i64 v))])] (by kernel_rfl) h ?_; clear h; intro a w h
 refine rSeq tv_ok 2 [(2, .call (SIndexFV pr xs v hf hl) tv_3)] [(0, .t (.c (.own 0 xs.length))), (1, .t (.c (.fn (.func 67) [] [.ptr 1 0]))), (4, .t (.c (.d (.raw nilV)))), (5, vi .i64 (idxF pr xs 0))] [(0, .row 32 3 (xs.map Part.d)), (1, .box [.d (.raw (.int .i64 v))])] (by kernel_rfl) h ?_; clear h; intro a w h
 refine wp_seq ?_
 rcases idxF_cases pr xs 0 with ⟨hz, hz2⟩ | ⟨k, x0, hz, hk, hk2, hk3⟩
 ·rw [hz] at h
  refine rSeq tv_ok 2 [(1, .cmp (op := .eql) (m := (-1)) (n := (-1)) (b := true) .i64 rfl)] [(0, .t (.c (.own 0 xs.length))), (1, .t (.c (.fn (.func 67) [] [.ptr 1 0]))), (4, .t (.c (.d (.raw nilV)))), (5, vi .i64 (-1)), (12, vb true)] [(0, .row 32 3 (xs.map Part.d)), (1, .box [.d (.raw (.int .i64 v))])] (by kernel_rfl) h ?_; clear h; intro a w h
  refine condS true h rfl (fun hc => ?_) (fun hc => ?_)
  ·clear hc
   refine rSeq tv_ok 2 [] [(0, .t (.c (.own 0 xs.length))), (1, .t (.c (.fn (.func 67) [] [.ptr 1 0]))), (4, .t (.c (.own 0 xs.length))), (5, vi .i64 (-1))] [(0, .row 32 3 (xs.map Part.d)), (1, .box [.d (.raw (.int .i64 v))])] (by kernel_rfl) h ?_; clear h; intro a w h
   refine wp_ret ?_
   refine then_r ?_
   replace h := h.conv (f' := F.of [(0, .t (.c (.own 0 xs.length))), (1, .t (.c (.fn (.func 67) [] [.ptr 1 0]))), (4, .t (.c (.own 0 (xs.filter (fun p => !pr p)).length))), (5, vi .i64 (-1))] [(0, .row 32 3 (xs.map Part.d)), (1, .box [.d (.raw (.int .i64 v))])]) (by rw [hz2])
   replace h := h.conv (f' := F.of [(0, .t (.c (.own 0 xs.length))), (1, .t (.c (.fn (.func 67) [] [.ptr 1 0]))), (4, .t (.c (.own 0 (xs.filter (fun p => !pr p)).length))), (5, vi .i64 (-1))] [(0, .row 32 3 ((xs.filter (fun p => !pr p)).map Part.d)), (1, .box [.d (.raw (.int .i64 v))])]) (congrArg (fun (z_ : List Part) => F.of [(0, .t (.c (.own 0 xs.length))), (1, .t (.c (.fn (.func 67) [] [.ptr 1 0]))), (4, .t (.c (.own 0 (xs.filter (fun p => !pr p)).length))), (5, vi .i64 (-1))] [(0, .row 32 3 (z_.map Part.d)), (1, .box [.d (.raw (.int .i64 v))])]) (show (xs : List Part) = (xs.filter (fun p => !pr p)) from hz2.symm))
   refine retS [.c (.own 0 (xs.filter (fun p => !pr p)).length)] h Exit.ret (.inl rfl)  rfl ⟨RV.tmp _ _ rfl, trivial⟩ ?_ (by kernel_rfl) (by kernel_rfl)
   rfl
  ·cases hc
 ·rw [Nat.zero_add] at hz
  have hkl := at_lt hk
  have hf2 : ((xs.take (k + 1)).filter (fun p => !pr p)) = xs.take k := by rw [List.take_add_one, hk]; simp [List.filter_append, hk2, hk3]
  have hf3 : ((xs.take (k + 1)).filter (fun p => !pr p)).length = k := by rw [hf2, List.length_take]; omega
  rw [hz] at h
  refine rSeq tv_ok 2 [(1, .cmp (op := .eql) (m := (k : Int)) (n := (-1)) (b := false) .i64 (beq_eq_false_iff_ne.2 (by omega)))] [(0, .t (.c (.own 0 xs.length))), (1, .t (.c (.fn (.func 67) [] [.ptr 1 0]))), (4, .t (.c (.d (.raw nilV)))), (5, vi .i64 (k : Int)), (12, vb false)] [(0, .row 32 3 (xs.map Part.d)), (1, .box [.d (.raw (.int .i64 v))])] (by kernel_rfl) h ?_; clear h; intro a w h
  refine condS false h rfl (fun hc => ?_) (fun hc => ?_)
  ·cases hc
  ·clear hc
   refine wp_skip ?_
   refine then_n ?_
   refine wp_seq ?_
   refine rSeq tv_ok 2 [(1, .gen _ _ _ fun _ _ _ _ => Op.arith (op := .add) (d := 15) (xt := 3) (yt := 3) (k := .i64) (m := (k : Int)) (n := 1) (r := ((k + 1 : Nat) : Int)) (OV.tmp 14 _) (OV.const (.int .i64 1) rfl) (.inl ⟨rfl, (by omega)⟩) (i64_id (by omega) (by omega)))] [(0, .t (.c (.own 0 xs.length))), (1, .t (.c (.fn (.func 67) [] [.ptr 1 0]))), (4, .t (.c (.d (.raw nilV)))), (5, vi .i64 (k : Int)), (6, vi .i64 ((k + 1 : Nat) : Int))] [(0, .row 32 3 (xs.map Part.d)), (1, .box [.d (.raw (.int .i64 v))])] (by kernel_rfl) h ?_; clear h; intro a w h
   refine wp_block ?_
   replace h := h.conv (f' := F.of [(0, .t (.c (.own 0 xs.length))), (1, .t (.c (.fn (.func 67) [] [.ptr 1 0]))), (4, .t (.c (.d (.raw nilV)))), (5, vi .i64 (((xs.take (k + 1)).filter (fun p => !pr p)).length : Int)), (6, vi .i64 ((k + 1 : Nat) : Int))] [(0, .row 32 3 (xs.map Part.d)), (1, .box [.d (.raw (.int .i64 v))])]) (by rw [hf3])
   replace h := h.conv (f' := F.of [(0, .t (.c (.own 0 xs.length))), (1, .t (.c (.fn (.func 67) [] [.ptr 1 0]))), (4, .t (.c (.d (.raw nilV)))), (5, vi .i64 (((xs.take (k + 1)).filter (fun p => !pr p)).length : Int)), (6, vi .i64 ((k + 1 : Nat) : Int))] [(0, .row 32 3 ((((xs.take (k + 1)).filter (fun p => !pr p)) ++ [x0] ++ xs.drop (k + 1)).map Part.d)), (1, .box [.d (.raw (.int .i64 v))])]) (congrArg (fun (z_ : List Part) => F.of [(0, .t (.c (.own 0 xs.length))), (1, .t (.c (.fn (.func 67) [] [.ptr 1 0]))), (4, .t (.c (.d (.raw nilV)))), (5, vi .i64 (((xs.take (k + 1)).filter (fun p => !pr p)).length : Int)), (6, vi .i64 ((k + 1 : Nat) : Int))] [(0, .row 32 3 (z_.map Part.d)), (1, .box [.d (.raw (.int .i64 v))])]) (show (xs : List Part) = (((xs.take (k + 1)).filter (fun p => !pr p)) ++ [x0] ++ xs.drop (k + 1)) from by rw [hf2]; obtain ⟨g1, g2⟩ := List.getElem?_eq_some_iff.1 hk; subst g2; simp))
   refine loopS (ι := (Nat) × (List Part)) (fun (z_ : (Nat) × (List Part)) => match z_ with | (j, G) => j ≤ xs.length ∧ ((xs.take j).filter (fun p => !pr p)).length + G.length = j ∧ 0 < G.length)
     (fun (z_ : (Nat) × (List Part)) => match z_ with | (j, G) => [(0, .t (.c (.own 0 xs.length))), (1, .t (.c (.fn (.func 67) [] [.ptr 1 0]))), (4, .t (.c (.d (.raw nilV)))), (5, vi .i64 (((xs.take j).filter (fun p => !pr p)).length : Int)), (6, vi .i64 (j : Int))])
     (fun (z_ : (Nat) × (List Part)) => match z_ with | (j, G) => [(0, .row 32 3 ((((xs.take j).filter (fun p => !pr p)) ++ G ++ xs.drop j).map Part.d)), (1, .box [.d (.raw (.int .i64 v))])])
     (fun (z_ : (Nat) × (List Part)) => match z_ with | (j, G) => xs.length - j) ((k + 1), [x0]) ?_ h (by kernel_rfl) (by kernel_rfl) ?_
   ·exact ⟨by omega, by rw [hf3]; rfl, Nat.one_pos⟩
   ·clear h; rintro ⟨j, G⟩ a w hI h
    change St _ (F.of [(0, .t (.c (.own 0 xs.length))), (1, .t (.c (.fn (.func 67) [] [.ptr 1 0]))), (4, .t (.c (.d (.raw nilV)))), (5, vi .i64 (((xs.take j).filter (fun p => !pr p)).length : Int)), (6, vi .i64 (j : Int))] [(0, .row 32 3 ((((xs.take j).filter (fun p => !pr p)) ++ G ++ xs.drop j).map Part.d)), (1, .box [.d (.raw (.int .i64 v))])]) a w at h
    obtain ⟨hI1, hI2, hI3⟩ := hI
    have hrl : (((xs.take j).filter (fun p => !pr p)) ++ G ++ xs.drop j).length = xs.length := by simp only [List.length_append, List.length_drop]; omega
    refine wp_seq ?_
    refine rSeq tv_ok 2 [] [(0, .t (.c (.own 0 xs.length))), (1, .t (.c (.fn (.func 67) [] [.ptr 1 0]))), (4, .t (.c (.d (.raw nilV)))), (5, vi .i64 (((xs.take j).filter (fun p => !pr p)).length : Int)), (6, vi .i64 (j : Int)), (19, vb (decide ((j : Int) < (xs.length : Int))))] [(0, .row 32 3 ((((xs.take j).filter (fun p => !pr p)) ++ G ++ xs.drop j).map Part.d)), (1, .box [.d (.raw (.int .i64 v))])] (by kernel_rfl) h ?_; clear h; intro a w h
    refine condS (decide ((j : Int) < (xs.length : Int))) h rfl (fun hc => ?_) (fun hc => ?_)
    ·have hc1 := hc; clear hc
     have hc1' := of_decide_eq_true hc1
     refine wp_skip ?_
     refine then_n ?_
     refine wp_seq ?_
     refine wp_block ?_
     obtain ⟨x, hx⟩ : ∃ z_ : Part, xs[j]? = some z_ := ⟨_, List.getElem?_eq_getElem (by omega)⟩
     refine rSeq tv_ok 2 [(2, .gen _ _ _ fun _ _ _ _ => Op.idxO (d := 24) (t := 22) (k := .i64) (n := 0) (len := xs.length) (i := j) tv_0 (by first | omega | (simp at *; omega)) (OV.tmp 23 _)), (3, .gen _ _ _ fun _ _ _ _ => Op.loadR_agg (d := 25) (t := 24) (n := 0) (i := j) (fo := 0) (rty := 32) (es := 3) (xs := [.raw (.int .i64 x.v), .raw (.bool x.c.neg), nsl x.c.abs]) tv_1 rfl (map_at (show ((((xs.take j).filter (fun p => !pr p)) ++ G ++ xs.drop j) : List Part)[j]? = some x from del_at (pr := pr) hI2 hx) (f := Part.d)) rfl rfl)] [(0, .t (.c (.own 0 xs.length))), (1, .t (.c (.fn (.func 67) [] [.ptr 1 0]))), (4, .t (.c (.d (.raw nilV)))), (5, vi .i64 (((xs.take j).filter (fun p => !pr p)).length : Int)), (6, vi .i64 (j : Int)), (7, vp 2 0)] [(0, .row 32 3 ((((xs.take j).filter (fun p => !pr p)) ++ G ++ xs.drop j).map Part.d)), (1, .box [.d (.raw (.int .i64 v))]), (2, .box ([.d (.raw (.int .i64 x.v))] ++ zi x.c))] (by kernel_rfl) h ?_; clear h; intro a w h
     refine rSeq tv_ok 3 [(2, .gen _ _ _ fun _ _ _ _ => Op.callV (d := 28) (t := 26) (cap := [.ptr 1 0]) (args := [.t (.agg ([.d (.raw (.int .i64 x.v))] ++ zi x.c))]) (rs := [(27, .t (.agg ([.d (.raw (.int .i64 x.v))] ++ zi x.c)))]) (tys := #[32]) (hf x (List.mem_of_getElem? hx)) tv_2 (OVs.cons (OV.tmp 27 _) (OVs.nil)))] [(0, .t (.c (.own 0 xs.length))), (1, .t (.c (.fn (.func 67) [] [.ptr 1 0]))), (4, .t (.c (.d (.raw nilV)))), (5, vi .i64 (((xs.take j).filter (fun p => !pr p)).length : Int)), (6, vi .i64 (j : Int)), (7, vp 2 0), (29, vb (!(pr x)))] [(0, .row 32 3 ((((xs.take j).filter (fun p => !pr p)) ++ G ++ xs.drop j).map Part.d)), (1, .box [.d (.raw (.int .i64 v))]), (2, .box ([.d (.raw (.int .i64 x.v))] ++ zi x.c))] (by kernel_rfl) h ?_; clear h; intro a w h
     refine condS (!(pr x)) h rfl (fun hc => ?_) (fun hc => ?_)
     ·have hc2 := hc; clear hc
      have hc2' := hc2; (try simp at hc2')
      obtain ⟨x3, hx3⟩ : ∃ z_ : Part, (((xs.take j).filter (fun p => !pr p)) ++ G ++ xs.drop j)[((xs.take j).filter (fun p => !pr p)).length]? = some z_ := ⟨_, List.getElem?_eq_getElem (by first | omega | (simp at *; omega))⟩
      refine rSeq tv_ok 3 [(3, .gen _ _ _ fun _ _ _ _ => Op.idxO (d := 33) (t := 30) (k := .i64) (n := 0) (len := xs.length) (i := ((xs.take j).filter (fun p => !pr p)).length) tv_0 (by first | omega | (simp at *; omega)) (OV.tmp 31 _)), (4, .gen _ _ _ fun _ _ _ _ => Op.storeR (t := 33) (n := 0) (i := ((xs.take j).filter (fun p => !pr p)).length) (fo := 0) (rty := 32) (es := 3) (r := Part.d x3) (ds := [.raw (.int .i64 x.v), .raw (.bool x.c.neg), nsl x.c.abs]) (rs := [(32, .t (.agg ([.d (.raw (.int .i64 x.v))] ++ zi x.c)))]) (rows := (((xs.take j).filter (fun p => !pr p)) ++ G ++ xs.drop j).map Part.d) (rows' := ((((xs.take j).filter (fun p => !pr p)) ++ G ++ xs.drop j).set ((xs.take j).filter (fun p => !pr p)).length x).map Part.d) tv_1 (OV.tmp 32 _) rfl rfl rfl (map_at hx3 (f := Part.d)) (by simp [Part.d]) (set_map (xs := (((xs.take j).filter (fun p => !pr p)) ++ G ++ xs.drop j)) (F := Part.d) ((xs.take j).filter (fun p => !pr p)).length _ _ rfl))] [(0, .t (.c (.own 0 xs.length))), (1, .t (.c (.fn (.func 67) [] [.ptr 1 0]))), (4, .t (.c (.d (.raw nilV)))), (5, vi .i64 (((xs.take j).filter (fun p => !pr p)).length : Int)), (6, vi .i64 (j : Int))] [(0, .row 32 3 (((((xs.take j).filter (fun p => !pr p)) ++ G ++ xs.drop j).set ((xs.take j).filter (fun p => !pr p)).length x).map Part.d)), (1, .box [.d (.raw (.int .i64 v))])] (by kernel_rfl) h ?_; clear h; intro a w h
      refine rS tv_ok 3 [(1, .gen _ _ _ fun _ _ _ _ => Op.arith (op := .add) (d := 35) (xt := 3) (yt := 3) (k := .i64) (m := (((xs.take j).filter (fun p => !pr p)).length : Int)) (n := 1) (r := ((((xs.take j).filter (fun p => !pr p)).length + 1 : Nat) : Int)) (OV.tmp 34 _) (OV.const (.int .i64 1) rfl) (.inl ⟨rfl, (by omega)⟩) (i64_id (by omega) (by omega)))] [(0, .t (.c (.own 0 xs.length))), (1, .t (.c (.fn (.func 67) [] [.ptr 1 0]))), (4, .t (.c (.d (.raw nilV)))), (5, vi .i64 ((((xs.take j).filter (fun p => !pr p)).length + 1 : Nat) : Int)), (6, vi .i64 (j : Int))] [(0, .row 32 3 (((((xs.take j).filter (fun p => !pr p)) ++ G ++ xs.drop j).set ((xs.take j).filter (fun p => !pr p)).length x).map Part.d)), (1, .box [.d (.raw (.int .i64 v))])] (by kernel_rfl) h ?_; clear h; intro a w h
      refine block_n ?_
      refine then_n ?_
      refine rS tv_ok 3 [(1, .add .i64 (m := (j : Int)) (n := 1) (i64_id (by omega) (by omega)))] [(0, .t (.c (.own 0 xs.length))), (1, .t (.c (.fn (.func 67) [] [.ptr 1 0]))), (4, .t (.c (.d (.raw nilV)))), (5, vi .i64 ((((xs.take j).filter (fun p => !pr p)).length + 1 : Nat) : Int)), (6, vi .i64 ((j : Int) + 1))] [(0, .row 32 3 (((((xs.take j).filter (fun p => !pr p)) ++ G ++ xs.drop j).set ((xs.take j).filter (fun p => !pr p)).length x).map Part.d)), (1, .box [.d (.raw (.int .i64 v))])] (by kernel_rfl) h ?_; clear h; intro a w h
      refine then_n ?_
      have hp : pr x = false := (by simpa using hc2)
      replace h := h.conv (f' := F.of [(0, .t (.c (.own 0 xs.length))), (1, .t (.c (.fn (.func 67) [] [.ptr 1 0]))), (4, .t (.c (.d (.raw nilV)))), (5, vi .i64 (((xs.take (j + 1)).filter (fun p => !pr p)).length : Int)), (6, vi .i64 ((j : Int) + 1))] [(0, .row 32 3 (((((xs.take j).filter (fun p => !pr p)) ++ G ++ xs.drop j).set ((xs.take j).filter (fun p => !pr p)).length x).map Part.d)), (1, .box [.d (.raw (.int .i64 v))])]) (by rw [← filt_len hx hp])
      replace h := h.conv (f' := F.of [(0, .t (.c (.own 0 xs.length))), (1, .t (.c (.fn (.func 67) [] [.ptr 1 0]))), (4, .t (.c (.d (.raw nilV)))), (5, vi .i64 (((xs.take (j + 1)).filter (fun p => !pr p)).length : Int)), (6, vi .i64 ((j : Int) + 1))] [(0, .row 32 3 ((((xs.take (j + 1)).filter (fun p => !pr p)) ++ (G.tail ++ [x]) ++ xs.drop (j + 1)).map Part.d)), (1, .box [.d (.raw (.int .i64 v))])]) (congrArg (fun (z_ : List Part) => F.of [(0, .t (.c (.own 0 xs.length))), (1, .t (.c (.fn (.func 67) [] [.ptr 1 0]))), (4, .t (.c (.d (.raw nilV)))), (5, vi .i64 (((xs.take (j + 1)).filter (fun p => !pr p)).length : Int)), (6, vi .i64 ((j : Int) + 1))] [(0, .row 32 3 (z_.map Part.d)), (1, .box [.d (.raw (.int .i64 v))])]) (show (((((xs.take j).filter (fun p => !pr p)) ++ G ++ xs.drop j).set ((xs.take j).filter (fun p => !pr p)).length x) : List Part) = (((xs.take (j + 1)).filter (fun p => !pr p)) ++ (G.tail ++ [x]) ++ xs.drop (j + 1)) from del_keep hx hp hI3))
      refine roundS (x := (j, G)) (y := ((j + 1), (G.tail ++ [x]))) h ?_ ?_ (by kernel_rfl) (by kernel_rfl)
      ·exact ⟨by have := at_lt hx; omega, by rw [← filt_len hx hp, List.length_append, List.length_tail]; simp only [List.length_cons, List.length_nil]; omega, by rw [List.length_append]; simp only [List.length_cons, List.length_nil]; omega⟩
      ·show xs.length - (j + 1) < xs.length - j
       have := at_lt hx; omega
     ·have hc3 := hc; clear hc
      have hc3' := hc3; (try simp at hc3')
      refine wp_skip ?_
      refine block_n ?_
      refine then_n ?_
      refine rS tv_ok 3 [(1, .add .i64 (m := (j : Int)) (n := 1) (i64_id (by omega) (by omega)))] [(0, .t (.c (.own 0 xs.length))), (1, .t (.c (.fn (.func 67) [] [.ptr 1 0]))), (4, .t (.c (.d (.raw nilV)))), (5, vi .i64 (((xs.take j).filter (fun p => !pr p)).length : Int)), (6, vi .i64 ((j : Int) + 1))] [(0, .row 32 3 ((((xs.take j).filter (fun p => !pr p)) ++ G ++ xs.drop j).map Part.d)), (1, .box [.d (.raw (.int .i64 v))])] (by kernel_rfl) h ?_; clear h; intro a w h
      refine then_n ?_
      have hp : pr x = true := (by simpa using hc3)
      replace h := h.conv (f' := F.of [(0, .t (.c (.own 0 xs.length))), (1, .t (.c (.fn (.func 67) [] [.ptr 1 0]))), (4, .t (.c (.d (.raw nilV)))), (5, vi .i64 (((xs.take (j + 1)).filter (fun p => !pr p)).length : Int)), (6, vi .i64 ((j : Int) + 1))] [(0, .row 32 3 ((((xs.take j).filter (fun p => !pr p)) ++ G ++ xs.drop j).map Part.d)), (1, .box [.d (.raw (.int .i64 v))])]) (by rw [← filt_len0 hx hp])
      replace h := h.conv (f' := F.of [(0, .t (.c (.own 0 xs.length))), (1, .t (.c (.fn (.func 67) [] [.ptr 1 0]))), (4, .t (.c (.d (.raw nilV)))), (5, vi .i64 (((xs.take (j + 1)).filter (fun p => !pr p)).length : Int)), (6, vi .i64 ((j : Int) + 1))] [(0, .row 32 3 ((((xs.take (j + 1)).filter (fun p => !pr p)) ++ (G ++ [x]) ++ xs.drop (j + 1)).map Part.d)), (1, .box [.d (.raw (.int .i64 v))])]) (congrArg (fun (z_ : List Part) => F.of [(0, .t (.c (.own 0 xs.length))), (1, .t (.c (.fn (.func 67) [] [.ptr 1 0]))), (4, .t (.c (.d (.raw nilV)))), (5, vi .i64 (((xs.take (j + 1)).filter (fun p => !pr p)).length : Int)), (6, vi .i64 ((j : Int) + 1))] [(0, .row 32 3 (z_.map Part.d)), (1, .box [.d (.raw (.int .i64 v))])]) (show ((((xs.take j).filter (fun p => !pr p)) ++ G ++ xs.drop j) : List Part) = (((xs.take (j + 1)).filter (fun p => !pr p)) ++ (G ++ [x]) ++ xs.drop (j + 1)) from del_skip hx hp))
      refine roundS (x := (j, G)) (y := ((j + 1), (G ++ [x]))) h ?_ ?_ (by kernel_rfl) (by kernel_rfl)
      ·exact ⟨by have := at_lt hx; omega, by rw [← filt_len0 hx hp, List.length_append]; simp only [List.length_cons, List.length_nil]; omega, by rw [List.length_append]; simp only [List.length_cons, List.length_nil]; omega⟩
      ·show xs.length - (j + 1) < xs.length - j
       have := at_lt hx; omega
    ·have hc4 := hc; clear hc
     have hc4' := of_decide_eq_false hc4
     refine wp_exit ?_
     refine then_x ?_
     refine then_x ?_
     refine inBlock_exit ?_
     refine then_n ?_
     have hj : j = xs.length := by omega
     have hF : ((xs.take j).filter (fun p => !pr p)) = (xs.filter (fun p => !pr p)) := by rw [hj, List.take_length]
     refine rSeq tv_ok 3 [(2, .gen _ _ _ fun _ _ _ _ => Op.sliceLo (d := 38) (t := 36) (k := .i64) (n := 0) (len := xs.length) (l := ((xs.take j).filter (fun p => !pr p)).length) (rows := (((xs.take j).filter (fun p => !pr p)) ++ G ++ xs.drop j).map Part.d) (rty := 32) tv_0 (by first | omega | (simp only [List.length_map, List.length_append, List.length_drop]; omega)) (OV.tmp 37 _) (by first | omega | (simp at *; omega)) rfl), (3, .gen _ _ _ fun _ _ _ _ => Op.clearCut' (rows' := ((xs.take j).filter (fun p => !pr p)).map Part.d) (o := none) (t := 38) (n := 0) (off := ((xs.take j).filter (fun p => !pr p)).length * 3) (len := (xs.length - ((xs.take j).filter (fun p => !pr p)).length)) (l := ((xs.take j).filter (fun p => !pr p)).length) (es := 3) (rows := (((xs.take j).filter (fun p => !pr p)) ++ G ++ xs.drop j).map Part.d) (rty := 32) (zs := [.d (.raw (.int .i64 0)), .d (.raw (.bool false)), .d (nsl [])]) tv_0.hu tv_4 rfl rfl (by first | omega | (simp only [List.length_map, List.length_append, List.length_drop]; omega)) _ rfl (by simp [List.map_append, List.take_append]))] [(0, .t (.c (.own 0 xs.length))), (4, .t (.c (.d (.raw nilV)))), (5, vi .i64 (((xs.take j).filter (fun p => !pr p)).length : Int))] [(0, .row 32 3 (((xs.take j).filter (fun p => !pr p)).map Part.d)), (1, .box [.d (.raw (.int .i64 v))])] (by kernel_rfl) h ?_; clear h; intro a w h
     refine rSeq tv_ok 3 [(2, .gen _ _ _ fun _ _ _ _ => Op.sliceHi (d := 41) (t := 39) (k := .i64) (n := 0) (len := xs.length) (h := ((xs.take j).filter (fun p => !pr p)).length) (rows := ((xs.take j).filter (fun p => !pr p)).map Part.d) (rty := 32) tv_0 (by first | omega | (simp only [List.length_map, List.length_append, List.length_drop]; omega)) (OV.tmp 40 _))] [(4, .t (.c (.own 0 ((xs.take j).filter (fun p => !pr p)).length)))] [(0, .row 32 3 (((xs.take j).filter (fun p => !pr p)).map Part.d)), (1, .box [.d (.raw (.int .i64 v))])] (by kernel_rfl) h ?_; clear h; intro a w h
     refine wp_ret ?_
     replace h := h.conv (f' := F.of [(4, .t (.c (.own 0 (xs.filter (fun p => !pr p)).length)))] [(0, .row 32 3 (((xs.take j).filter (fun p => !pr p)).map Part.d)), (1, .box [.d (.raw (.int .i64 v))])]) (by rw [hF])
     replace h := h.conv (f' := F.of [(4, .t (.c (.own 0 (xs.filter (fun p => !pr p)).length)))] [(0, .row 32 3 ((xs.filter (fun p => !pr p)).map Part.d)), (1, .box [.d (.raw (.int .i64 v))])]) (congrArg (fun (z_ : List Part) => F.of [(4, .t (.c (.own 0 (xs.filter (fun p => !pr p)).length)))] [(0, .row 32 3 (z_.map Part.d)), (1, .box [.d (.raw (.int .i64 v))])]) (show (((xs.take j).filter (fun p => !pr p)) : List Part) = (xs.filter (fun p => !pr p)) from hF))
     refine retS [.c (.own 0 (xs.filter (fun p => !pr p)).length)] h Exit.ret (.inl rfl)  rfl ⟨RV.tmp _ _ rfl, trivial⟩ ?_ (by kernel_rfl) (by kernel_rfl)
     rfl
set_option maxRecDepth 100000 in
theorem SWithout (t : Term) (v : Int) {n L : Nat} (ht : TOk n L t) (hn : n ≤ 1000) (hL : L ≤ 20000) : Fn Tryz.prog 21 [] [.t (.agg ([.d (.sl 3 (t.parts.map Part.d))] ++ zi t.k)), vi .i64 v] (vd (woT t v).d) [] := by
 have lnp := (ht.plain hn).len
 have lnf : ((plainT t).parts.filter (fun p => !isVar v p)).length ≤ (plainT t).parts.length := List.length_filter_le _ _
 refine Fn.body Tryz.func21 rfl 14 rfl fun w H B a h => ?_
 refine rSeq tv_ok 5 [] [(2, vp 5 0), (3, vp 6 0), (4, vp 7 0)] [(5, .box ([.d (.sl 3 (t.parts.map Part.d))] ++ zi t.k)), (6, .box [.d (.raw (.int .i64 v))]), (7, .box [.d (.raw nilV), .d (.raw (.bool false)), .d (nsl [])])] (by kernel_rfl) h ?_; clear h; intro a w h
 refine rSeq tv_ok 8 [(1, .call (SPlainO t ht (by omega) (by omega)) tv_5)] [(3, vp 6 0), (4, vp 7 0), (5, vp 8 0)] [(6, .box [.d (.raw (.int .i64 v))]), (7, .box [.d (.raw nilV), .d (.raw (.bool false)), .d (nsl [])]), (0, .row 32 3 ((plainT t).parts.map Part.d)), (8, .box ([.own 0 (plainT t).parts.length] ++ zi (plainT t).k))] (by kernel_rfl) h ?_; clear h; intro a w h
 replace h := renS 6 1 [(3, vp 1 0), (4, vp 7 0), (5, vp 8 0)] [(7, .box [.d (.raw nilV), .d (.raw (.bool false)), .d (nsl [])]), (0, .row 32 3 ((plainT t).parts.map Part.d)), (8, .box ([.own 0 (plainT t).parts.length] ++ zi (plainT t).k)), (1, .box [.d (.raw (.int .i64 v))])] h (by kernel_rfl) (by kernel_rfl) (by kernel_rfl)
 refine rSeq tv_ok 9 [(2, .gen _ _ _ fun _ _ _ _ => Op.makeF1 (d := 10) (t := 3) (fn := .func 67) (x := .ptr 1 0)), (3, .call (SDeleteFV (isVar v) (plainT t).parts v (fun p _ => SWo1 p v) (by omega)) tv_6)] [(4, vp 7 0), (5, vp 8 0)] [(7, .box [.d (.raw nilV), .d (.raw (.bool false)), .d (nsl [])]), (0, .row 32 3 (((plainT t).parts.filter (fun p => !isVar v p)).map Part.d)), (8, .box ([.own 0 ((plainT t).parts.filter (fun p => !isVar v p)).length] ++ zi (plainT t).k))] (by kernel_rfl) h ?_; clear h; intro a w h
 replace h := pubS 0 3 32 (((plainT t).parts.filter (fun p => !isVar v p)).map Part.d) [(4, vp 7 0), (5, vp 8 0)] [(7, .box [.d (.raw nilV), .d (.raw (.bool false)), .d (nsl [])]), (8, .box ([.d (.sl 3 (((plainT t).parts.filter (fun p => !isVar v p)).map Part.d))] ++ zi (plainT t).k))] h rfl trivial (show AllEq _ [((plainT t).parts.filter (fun p => !isVar v p)).length] from ⟨by first | exact (List.length_map _).symm | simp, trivial⟩) (by kernel_rfl) (by kernel_rfl)
 refine rSeq tv_ok 9 [] [(4, vp 7 0)] [(7, .box ([.d (.sl 3 (((plainT t).parts.filter (fun p => !isVar v p)).map Part.d))] ++ zi (plainT t).k))] (by kernel_rfl) h ?_; clear h; intro a w h
 refine wp_ret ?_
 refine retS [.agg ([.d (.sl 3 (((plainT t).parts.filter (fun p => !isVar v p)).map Part.d))] ++ zi (plainT t).k)] h Exit.ret (.inl rfl)  rfl ⟨RV.agg _ 7 0 _ _ _ _ tv_7 rfl rfl rfl rfl, trivial⟩ ?_ (by kernel_rfl) (by kernel_rfl)
 rw [← wo_law]; first | done | rfl
end Go.Proofs.YtekhnajfdaknnaaGreatDoor.S
end
section
namespace Go.Proofs.YtekhnajfdaknnaaGreatDoor.S
open Go.RowKit

set_option maxRecDepth 100000 in
theorem tw_0 : Bodied Tryz.prog 41 := Bodied.mk' (by kernel_rfl)
set_option maxRecDepth 100000 in
theorem tw_1 : Bodied Tryz.prog 28 := Bodied.mk' (by kernel_rfl)
set_option maxRecDepth 100000 in
theorem tw_2 : Bodied Tryz.prog 59 := Bodied.mk' (by kernel_rfl)
set_option maxRecDepth 100000 in
theorem tw_3 : Sz Tryz.prog 28 3 true := Sz.mk' (by kernel_rfl) Tryz.underlying28 _ rfl
set_option maxRecDepth 100000 in
theorem tw_4 : Sz Tryz.prog 26 2 true := Sz.mk' (by kernel_rfl) Tryz.underlying26 _ rfl
set_option maxRecDepth 100000 in
theorem tw_5 : SlT Tryz.prog 22 32 3 := SlT.mk' Tryz.underlying22 (by kernel_rfl)
set_option maxRecDepth 100000 in
theorem tw_6 : Sz Tryz.prog 32 3 true := Sz.mk' (by kernel_rfl) Tryz.underlying32 _ rfl
set_option maxRecDepth 100000 in
theorem tw_7 : Bodied Tryz.prog 60 := Bodied.mk' (by kernel_rfl)
set_option maxRecDepth 100000 in
theorem tw_8 : Bodied Tryz.prog 61 := Bodied.mk' (by kernel_rfl)
def tw_tb : Tb := [(22, ⟨1, false, [], [.d (.raw nilV)], 1⟩), (4, ⟨1, false, [], [.d (.raw (.bool false))], 3⟩), (24, ⟨1, false, [], [.d (nsl [])], 1⟩), (26, ⟨2, true, [(0, 1, false), (1, 1, false)], [.d (.raw (.bool false)), .d (nsl [])], 0⟩), (28, ⟨3, true, [(0, 1, false), (1, 2, true)], [.d (.raw nilV), .d (.raw (.bool false)), .d (nsl [])], 0⟩), (3, ⟨1, false, [], [.d (.raw (.int .i64 0))], 13⟩), (32, ⟨3, true, [(0, 1, false), (1, 2, true)], [.d (.raw (.int .i64 0)), .d (.raw (.bool false)), .d (nsl [])], 0⟩), (45, ⟨1, false, [], [.d (.raw nilV)], 1⟩)]
set_option maxRecDepth 100000 in
theorem tw_ok : TbOk Tryz.prog tw_tb := ⟨TyOk.slc Tryz.underlying22 (by kernel_rfl) ⟨(.slice none 0 0 : Value), [.slice none 0 0], by kernel_rfl, rfl, (fun _ _ => ⟨DR.raw _ rfl, trivial⟩)⟩,
 TyOk.bl Tryz.underlying4 (by kernel_rfl) ⟨(.bool false : Value), [.bool false], by kernel_rfl, rfl, (fun _ _ => ⟨DR.raw _ rfl, trivial⟩)⟩,
 TyOk.slc Tryz.underlying24 (by kernel_rfl) ⟨(.slice none 0 0 : Value), [.slice none 0 0], by kernel_rfl, rfl, (fun _ _ => ⟨DR.nil _ _ _ (fun _ => rfl) (Nat.zero_le _), trivial⟩)⟩,
 TyOk.st Tryz.underlying26 (by kernel_rfl) ⟨⟨by decide, Fd.mk' _ _ Tryz.underlying26 rfl rfl (Sz.mk' (by kernel_rfl) Tryz.underlying4 _ rfl)⟩, ⟨by decide, Fd.mk' _ _ Tryz.underlying26 rfl rfl (Sz.mk' (by kernel_rfl) Tryz.underlying24 _ rfl)⟩, trivial⟩ ⟨(Value.agg #[.bool false, .slice none 0 0]), [.bool false, .slice none 0 0], by kernel_rfl, rfl, (fun _ _ => ⟨DR.raw _ rfl, DR.nil _ _ _ (fun _ => rfl) (Nat.zero_le _), trivial⟩)⟩ ⟨_, Tryz.underlying26, ⟨⟨rfl, by kernel_rfl⟩, ⟨rfl, by kernel_rfl⟩, trivial⟩⟩,
 TyOk.st Tryz.underlying28 (by kernel_rfl) ⟨⟨by decide, Fd.mk' _ _ Tryz.underlying28 rfl rfl (Sz.mk' (by kernel_rfl) Tryz.underlying22 _ rfl)⟩, ⟨by decide, Fd.mk' _ _ Tryz.underlying28 rfl rfl (Sz.mk' (by kernel_rfl) Tryz.underlying26 _ rfl)⟩, trivial⟩ ⟨(Value.agg #[.slice none 0 0, .bool false, .slice none 0 0]), [.slice none 0 0, .bool false, .slice none 0 0], by kernel_rfl, rfl, (fun _ _ => ⟨DR.raw _ rfl, DR.raw _ rfl, DR.nil _ _ _ (fun _ => rfl) (Nat.zero_le _), trivial⟩)⟩ ⟨_, Tryz.underlying28, ⟨⟨rfl, by kernel_rfl⟩, ⟨rfl, by kernel_rfl⟩, trivial⟩⟩,
 TyOk.int Tryz.underlying3 rfl (by kernel_rfl) ⟨(.int .i64 0 : Value), [.int .i64 0], by kernel_rfl, rfl, (fun _ _ => ⟨DR.raw _ rfl, trivial⟩)⟩,
 TyOk.st Tryz.underlying32 (by kernel_rfl) ⟨⟨by decide, Fd.mk' _ _ Tryz.underlying32 rfl rfl (Sz.mk' (by kernel_rfl) Tryz.underlying3 _ rfl)⟩, ⟨by decide, Fd.mk' _ _ Tryz.underlying32 rfl rfl (Sz.mk' (by kernel_rfl) Tryz.underlying26 _ rfl)⟩, trivial⟩ ⟨(Value.agg #[.int .i64 0, .bool false, .slice none 0 0]), [.int .i64 0, .bool false, .slice none 0 0], by kernel_rfl, rfl, (fun _ _ => ⟨DR.raw _ rfl, DR.raw _ rfl, DR.nil _ _ _ (fun _ => rfl) (Nat.zero_le _), trivial⟩)⟩ ⟨_, Tryz.underlying32, ⟨⟨rfl, by kernel_rfl⟩, ⟨rfl, by kernel_rfl⟩, trivial⟩⟩,
 TyOk.slc Tryz.underlying45 (by kernel_rfl) ⟨(.slice none 0 0 : Value), [.slice none 0 0], by kernel_rfl, rfl, (fun _ _ => ⟨DR.raw _ rfl, trivial⟩)⟩,
 trivial⟩
def divP (g : Int) (p : Part) : Part := ⟨p.v, ZI.of (p.c.val.fdiv g)⟩
def shrT (t : Term) : Term := if conZ (plainT t).parts = 0 then plainT t else ⟨(plainT t).parts.map (divP (conZ (plainT t).parts)), ZI.of (t.k.val.fdiv (conZ (plainT t).parts))⟩
theorem con_dvd (ps : List Part) : ∀ p ∈ ps, conZ ps ∣ p.c.val := by
 have key : ∀ (ps : List Part) (g : Int), (ps.foldl (fun g p => (Nat.gcd g.natAbs p.c.val.natAbs : Int)) g) ∣ g ∧ ∀ p ∈ ps, (ps.foldl (fun g p => (Nat.gcd g.natAbs p.c.val.natAbs : Int)) g) ∣ p.c.val := by
  intro ps
  induction ps with
  | nil => intro g; exact ⟨Int.dvd_refl g, fun p hp => by cases hp⟩
  | cons p ps ih =>
   intro g
   obtain ⟨h1, h2⟩ := ih ((Nat.gcd g.natAbs p.c.val.natAbs : Int))
   rw [List.foldl_cons]
   have d1 : ((Nat.gcd g.natAbs p.c.val.natAbs : Nat) : Int) ∣ g := Int.ofNat_dvd_left.2 (Nat.gcd_dvd_left _ _)
   have d2 : ((Nat.gcd g.natAbs p.c.val.natAbs : Nat) : Int) ∣ p.c.val := Int.ofNat_dvd_left.2 (Nat.gcd_dvd_right _ _)
   refine ⟨Int.dvd_trans h1 d1, fun q hq => ?_⟩
   rcases List.mem_cons.1 hq with rfl | hq
   ·exact Int.dvd_trans h1 d2
   ·exact h2 q hq
 exact (key ps 0).2
theorem con_ne {t : Term} (h : 0 < (plainT t).parts.length) : conZ (plainT t).parts ≠ 0 := fun e => by
 obtain ⟨p, hp⟩ : ∃ p, p ∈ (plainT t).parts := ⟨_, List.getElem_mem h⟩
 have h1 := con_dvd _ p hp
 rw [e] at h1
 exact ((plainT_parts t).2.1 p hp).2.2 (Int.zero_dvd.1 h1)
theorem con_nil {t : Term} (h : (plainT t).parts.length = 0) : conZ (plainT t).parts = 0 := by rw [List.length_eq_zero_iff.1 h]; rfl
theorem plain_plain_parts (t : Term) : conZ (plainT (plainT t)).parts = conZ (plainT t).parts := by rw [plain_idem]
theorem fmod_of_dvd {a b : Int} (h : b ∣ a) : a.fmod b = 0 := by obtain ⟨c, rfl⟩ := h; exact Int.mul_fmod_right b c
set_option maxRecDepth 100000 in
theorem SShrink (t : Term) {n L : Nat} (ht : TOk n L t) (hn : n ≤ 1000) (hL : L ≤ 10000) : Fn Tryz.prog 15 [] [.t (.agg ([.d (.sl 3 (t.parts.map Part.d))] ++ zi t.k))] (.tup [.agg ((shrT t).d.map C.d), .agg (zi (ZI.of (conZ (plainT t).parts)))]) [] := by
 have lnp := (ht.plain hn).len
 have lkp := (ht.plain hn).kl
 refine Fn.body Tryz.func15 rfl 49 rfl fun w H B a h => ?_
 refine rSeq tw_ok 12 [] [(1, vp 12 0), (2, vp 13 0), (3, vp 14 0)] [(12, .box ([.d (.sl 3 (t.parts.map Part.d))] ++ zi t.k)), (13, .box [.d (.raw nilV), .d (.raw (.bool false)), .d (nsl [])]), (14, .box [.d (.raw (.bool false)), .d (nsl [])])] (by kernel_rfl) h ?_; clear h; intro a w h
 refine rSeq tw_ok 15 [(1, .call (SPlainO t ht (by omega) (by omega)) tw_0)] [(2, vp 13 0), (3, vp 14 0), (4, vp 15 0)] [(13, .box [.d (.raw nilV), .d (.raw (.bool false)), .d (nsl [])]), (14, .box [.d (.raw (.bool false)), .d (nsl [])]), (0, .row 32 3 ((plainT t).parts.map Part.d)), (15, .box ([.own 0 (plainT t).parts.length] ++ zi (plainT t).k))] (by kernel_rfl) h ?_; clear h; intro a w h
 replace h := renS 0 9 [(2, vp 13 0), (3, vp 14 0), (4, vp 15 0)] [(13, .box [.d (.raw nilV), .d (.raw (.bool false)), .d (nsl [])]), (14, .box [.d (.raw (.bool false)), .d (nsl [])]), (15, .box ([.own 9 (plainT t).parts.length] ++ zi (plainT t).k)), (9, .row 32 3 ((plainT t).parts.map Part.d))] h (by kernel_rfl) (by kernel_rfl) (by kernel_rfl)
 rcases Nat.eq_zero_or_pos (plainT t).parts.length with hz | hz
 ·have hg0 := con_nil hz
  replace h := pubS 9 3 32 ((plainT t).parts.map Part.d) [(2, vp 13 0), (3, vp 14 0), (4, vp 15 0)] [(13, .box [.d (.raw nilV), .d (.raw (.bool false)), .d (nsl [])]), (14, .box [.d (.raw (.bool false)), .d (nsl [])]), (15, .box ([.d (.sl 3 ((plainT t).parts.map Part.d))] ++ zi (plainT t).k))] h rfl trivial (show AllEq _ [(plainT t).parts.length] from ⟨by first | exact (List.length_map _).symm | simp, trivial⟩) (by kernel_rfl) (by kernel_rfl)
  obtain ⟨r2, er2, vr2, or2, lr2⟩ := mkZ (v := (conZ (plainT t).parts)) (m := L + 1) (by have := con_len ht hn (plainT t).parts.length; rw [List.take_length] at this; exact this)
  have vG := vr2
  refine rSeq tw_ok 16 [(1, .call (Fn.cast (SContent (plainT t) (ht.plain hn) hn (by omega)) (show vz (ZI.of (conZ (plainT (plainT t)).parts)) = vz r2 from by rw [plain_plain_parts, er2])) tw_1)] [(2, vp 13 0), (3, vp 14 0), (4, vp 15 0), (5, vp 16 0)] [(13, .box [.d (.raw nilV), .d (.raw (.bool false)), .d (nsl [])]), (14, .box [.d (.raw (.bool false)), .d (nsl [])]), (15, .box ([.d (.sl 3 ((plainT t).parts.map Part.d))] ++ zi (plainT t).k)), (16, .box (zi r2))] (by kernel_rfl) h ?_; clear h; intro a w h
  refine wp_seq ?_
  refine rSeq tw_ok 17 [(1, .call (Fn.cast (SSign r2 or2 (by omega)) (congrArg (vi .i64) (sgn_zero (by rw [vr2]; exact hg0)))) tw_2), (2, .cmp (op := .eql) (m := 0) (n := 0) (b := true) .i64 rfl)] [(2, vp 13 0), (3, vp 14 0), (4, vp 15 0), (5, vp 16 0), (14, vb true)] [(13, .box [.d (.raw nilV), .d (.raw (.bool false)), .d (nsl [])]), (14, .box [.d (.raw (.bool false)), .d (nsl [])]), (15, .box ([.d (.sl 3 ((plainT t).parts.map Part.d))] ++ zi (plainT t).k)), (16, .box (zi r2))] (by kernel_rfl) h ?_; clear h; intro a w h
  refine condS true h rfl (fun hc => ?_) (fun hc => ?_)
  ·clear hc
   refine rSeq tw_ok 17 [] [(2, vp 13 0), (3, vp 14 0), (4, vp 15 0), (5, vp 16 0)] [(13, .box ([.d (.sl 3 ((plainT t).parts.map Part.d))] ++ zi (plainT t).k)), (14, .box (zi r2)), (15, .box ([.d (.sl 3 ((plainT t).parts.map Part.d))] ++ zi (plainT t).k)), (16, .box (zi r2))] (by kernel_rfl) h ?_; clear h; intro a w h
   refine wp_ret ?_
   refine then_r ?_
   refine retS [.agg ([.d (.sl 3 ((plainT t).parts.map Part.d))] ++ zi (plainT t).k), .agg (zi r2)] h Exit.ret (.inl rfl)  rfl ⟨RV.agg _ 13 0 _ _ _ _ tw_3 rfl rfl rfl rfl, RV.agg _ 14 0 _ _ _ _ tw_4 rfl rfl rfl rfl, trivial⟩ ?_ (by kernel_rfl) (by kernel_rfl)
   rw [show shrT t = plainT t from if_pos hg0, er2]; first | done | rfl
  ·cases hc
 ·have hg0 := con_ne hz
  obtain ⟨r4, er4, vr4, or4, lr4⟩ := mkZ (v := (conZ (plainT t).parts)) (m := L + 1) (by have := con_len ht hn (plainT t).parts.length; rw [List.take_length] at this; exact this)
  have vG := vr4
  refine rSeq tw_ok 17 [(1, .call (Fn.cast (SContentW (plainT t) (ht.plain hn) hn (by omega) hz) (show vz (ZI.of (conZ (plainT (plainT t)).parts)) = vz r4 from by rw [plain_plain_parts, er4])) tw_1)] [(2, vp 13 0), (3, vp 14 0), (4, vp 15 0), (5, vp 17 0)] [(13, .box [.d (.raw nilV), .d (.raw (.bool false)), .d (nsl [])]), (14, .box [.d (.raw (.bool false)), .d (nsl [])]), (15, .box ([.own 9 (plainT t).parts.length] ++ zi (plainT t).k)), (9, .row 32 3 ((plainT t).parts.map Part.d)), (17, .box (zi r4))] (by kernel_rfl) h ?_; clear h; intro a w h
  refine wp_seq ?_
  refine rSeq tw_ok 18 [(1, .call (SSign r4 or4 (by omega)) tw_2), (2, .cmp (op := .eql) (m := (sgn r4.val)) (n := 0) (b := false) .i64 (by rw [vr4]; exact beq_eq_false_iff_ne.2 (fun e => hg0 (sgn_eq0.1 e))))] [(2, vp 13 0), (3, vp 14 0), (4, vp 15 0), (5, vp 17 0), (14, vb false)] [(13, .box [.d (.raw nilV), .d (.raw (.bool false)), .d (nsl [])]), (14, .box [.d (.raw (.bool false)), .d (nsl [])]), (15, .box ([.own 9 (plainT t).parts.length] ++ zi (plainT t).k)), (9, .row 32 3 ((plainT t).parts.map Part.d)), (17, .box (zi r4))] (by kernel_rfl) h ?_; clear h; intro a w h
  refine condS false h rfl (fun hc => ?_) (fun hc => ?_)
  ·cases hc
  ·clear hc
   refine wp_skip ?_
   refine then_n ?_
   refine wp_seq ?_
   refine rSeq tw_ok 18 [] [(2, vp 13 0), (3, vp 14 0), (4, vp 15 0), (5, vp 17 0), (18, .t (.c (.own 9 (plainT t).parts.length))), (19, vi .i64 ((plainT t).parts.length : Int)), (20, vi .i64 0)] [(13, .box [.d (.raw nilV), .d (.raw (.bool false)), .d (nsl [])]), (14, .box [.d (.raw (.bool false)), .d (nsl [])]), (15, .box ([.own 9 (plainT t).parts.length] ++ zi (plainT t).k)), (9, .row 32 3 ((plainT t).parts.map Part.d)), (17, .box (zi r4))] (by kernel_rfl) h ?_; clear h; intro a w h
   refine wp_block ?_
   replace h := h.conv (f' := F.of [(2, vp 13 0), (3, vp 14 0), (4, vp 15 0), (5, vp 17 0), (18, .t (.c (.own 9 (plainT t).parts.length))), (19, vi .i64 ((plainT t).parts.length : Int)), (20, vi .i64 0)] [(13, .box [.d (.raw nilV), .d (.raw (.bool false)), .d (nsl [])]), (14, .box [.d (.raw (.bool false)), .d (nsl [])]), (15, .box ([.own 9 (plainT t).parts.length] ++ zi (plainT t).k)), (9, .row 32 3 ((((plainT t).parts.take 0).map (divP (conZ (plainT t).parts)) ++ (plainT t).parts.drop 0).map Part.d)), (17, .box (zi r4))]) (congrArg (fun (z_ : List Part) => F.of [(2, vp 13 0), (3, vp 14 0), (4, vp 15 0), (5, vp 17 0), (18, .t (.c (.own 9 (plainT t).parts.length))), (19, vi .i64 ((plainT t).parts.length : Int)), (20, vi .i64 0)] [(13, .box [.d (.raw nilV), .d (.raw (.bool false)), .d (nsl [])]), (14, .box [.d (.raw (.bool false)), .d (nsl [])]), (15, .box ([.own 9 (plainT t).parts.length] ++ zi (plainT t).k)), (9, .row 32 3 (z_.map Part.d)), (17, .box (zi r4))]) (show ((plainT t).parts : List Part) = (((plainT t).parts.take 0).map (divP (conZ (plainT t).parts)) ++ (plainT t).parts.drop 0) from by simp))
   refine loopS (ι := (Nat)) (fun (z_ : (Nat)) => match z_ with | j => j ≤ (plainT t).parts.length)
     (fun (z_ : (Nat)) => match z_ with | j => [(2, vp 13 0), (3, vp 14 0), (4, vp 15 0), (5, vp 17 0), (18, .t (.c (.own 9 (plainT t).parts.length))), (19, vi .i64 ((plainT t).parts.length : Int)), (20, vi .i64 (j : Int))])
     (fun (z_ : (Nat)) => match z_ with | j => [(13, .box [.d (.raw nilV), .d (.raw (.bool false)), .d (nsl [])]), (14, .box [.d (.raw (.bool false)), .d (nsl [])]), (15, .box ([.own 9 (plainT t).parts.length] ++ zi (plainT t).k)), (9, .row 32 3 ((((plainT t).parts.take j).map (divP (conZ (plainT t).parts)) ++ (plainT t).parts.drop j).map Part.d)), (17, .box (zi r4))])
     (fun (z_ : (Nat)) => match z_ with | j => (plainT t).parts.length - j) 0 ?_ h (by kernel_rfl) (by kernel_rfl) ?_
   ·exact Nat.zero_le _
   ·clear h; rintro j a w hI h
    change St _ (F.of [(2, vp 13 0), (3, vp 14 0), (4, vp 15 0), (5, vp 17 0), (18, .t (.c (.own 9 (plainT t).parts.length))), (19, vi .i64 ((plainT t).parts.length : Int)), (20, vi .i64 (j : Int))] [(13, .box [.d (.raw nilV), .d (.raw (.bool false)), .d (nsl [])]), (14, .box [.d (.raw (.bool false)), .d (nsl [])]), (15, .box ([.own 9 (plainT t).parts.length] ++ zi (plainT t).k)), (9, .row 32 3 ((((plainT t).parts.take j).map (divP (conZ (plainT t).parts)) ++ (plainT t).parts.drop j).map Part.d)), (17, .box (zi r4))]) a w at h
    have hrl : (((plainT t).parts.take j).map (divP (conZ (plainT t).parts)) ++ (plainT t).parts.drop j).length = (plainT t).parts.length := by rw [List.length_append, List.length_map, List.length_take, List.length_drop]; omega
    refine rSeq tw_ok 18 [] [(2, vp 13 0), (3, vp 14 0), (4, vp 15 0), (5, vp 17 0), (18, .t (.c (.own 9 (plainT t).parts.length))), (19, vi .i64 ((plainT t).parts.length : Int)), (20, vi .i64 (j : Int)), (21, vb (decide ((j : Int) < ((plainT t).parts.length : Int))))] [(13, .box [.d (.raw nilV), .d (.raw (.bool false)), .d (nsl [])]), (14, .box [.d (.raw (.bool false)), .d (nsl [])]), (15, .box ([.own 9 (plainT t).parts.length] ++ zi (plainT t).k)), (9, .row 32 3 ((((plainT t).parts.take j).map (divP (conZ (plainT t).parts)) ++ (plainT t).parts.drop j).map Part.d)), (17, .box (zi r4))] (by kernel_rfl) h ?_; clear h; intro a w h
    refine wp_seq ?_
    refine condS (decide ((j : Int) < ((plainT t).parts.length : Int))) h rfl (fun hc => ?_) (fun hc => ?_)
    ·have hc1 := hc; clear hc
     have hc1' := of_decide_eq_true hc1
     refine wp_skip ?_
     refine then_n ?_
     refine wp_seq ?_
     refine wp_block ?_
     obtain ⟨x, hx⟩ : ∃ z_ : Part, (plainT t).parts[j]? = some z_ := ⟨_, List.getElem?_eq_getElem (by omega)⟩
     obtain ⟨ox, lx⟩ := (ht.plain hn).get hx
     refine rSeq tw_ok 18 [(1, .gen _ _ _ fun _ _ _ _ => Op.idxO (d := 23) (t := 18) (k := .i64) (n := 9) (len := (plainT t).parts.length) (i := j) tw_5 (by first | omega | (simp at *; omega)) (OV.tmp 20 _)), (2, .gen _ _ _ fun _ _ _ _ => Op.loadR_agg (d := 24) (t := 23) (n := 9) (i := j) (fo := 0) (rty := 32) (es := 3) (xs := [.raw (.int .i64 x.v), .raw (.bool x.c.neg), nsl x.c.abs]) tw_6 rfl (map_at (show ((((plainT t).parts.take j).map (divP (conZ (plainT t).parts)) ++ (plainT t).parts.drop j) : List Part)[j]? = some x from mov_at hx) (f := Part.d)) rfl rfl)] [(2, vp 13 0), (3, vp 14 0), (4, vp 15 0), (5, vp 17 0), (6, vi .i64 (j : Int)), (7, vp 18 0), (18, .t (.c (.own 9 (plainT t).parts.length))), (19, vi .i64 ((plainT t).parts.length : Int)), (20, vi .i64 (j : Int))] [(13, .box [.d (.raw nilV), .d (.raw (.bool false)), .d (nsl [])]), (14, .box [.d (.raw (.bool false)), .d (nsl [])]), (15, .box ([.own 9 (plainT t).parts.length] ++ zi (plainT t).k)), (9, .row 32 3 ((((plainT t).parts.take j).map (divP (conZ (plainT t).parts)) ++ (plainT t).parts.drop j).map Part.d)), (17, .box (zi r4)), (18, .box ([.d (.raw (.int .i64 x.v))] ++ zi x.c))] (by kernel_rfl) h ?_; clear h; intro a w h
     obtain ⟨r6, er6, vr6, or6, lr6⟩ := mkZ (v := x.c.val.fdiv r4.val) (m := x.c.abs.length) (len_fdiv ox (by rw [vG]; exact hg0))
     refine rS tw_ok 19 [(6, .call (Fn.cast (SExact x.c r4 ox or4 (by omega) (by omega) (by rw [vG]; exact hg0) (by rw [vG]; exact fmod_of_dvd (con_dvd _ x (List.mem_of_getElem? hx)))) (show _ = (.tup [.agg (zi r6), .c (.d (.raw (.int .i64 0)))] : V) by rw [er6]; first | done | rfl)) tw_7), (10, .gen _ _ _ fun _ _ _ _ => Op.idxO (d := 35) (t := 27) (k := .i64) (n := 9) (len := (plainT t).parts.length) (i := j) tw_5 (by first | omega | (simp at *; omega)) (OV.tmp 28 _)), (12, .gen _ _ _ fun _ _ _ _ => Op.storeR (t := 36) (n := 9) (i := j) (fo := 1) (rty := 32) (es := 3) (r := Part.d x) (ds := [.raw (.bool r6.neg), nsl r6.abs]) (rs := [(33, vz r6)]) (rows := (((plainT t).parts.take j).map (divP (conZ (plainT t).parts)) ++ (plainT t).parts.drop j).map Part.d) (rows' := ((((plainT t).parts.take j).map (divP (conZ (plainT t).parts)) ++ (plainT t).parts.drop j).set j (Part.mk x.v r6)).map Part.d) tw_4 (OV.tmp 33 _) rfl rfl rfl (map_at (show ((((plainT t).parts.take j).map (divP (conZ (plainT t).parts)) ++ (plainT t).parts.drop j) : List Part)[j]? = some x from mov_at hx) (f := Part.d)) (by simp [Part.d]) (set_map (xs := (((plainT t).parts.take j).map (divP (conZ (plainT t).parts)) ++ (plainT t).parts.drop j)) (F := Part.d) j _ _ rfl))] [(2, vp 13 0), (3, vp 14 0), (4, vp 15 0), (5, vp 17 0), (18, .t (.c (.own 9 (plainT t).parts.length))), (19, vi .i64 ((plainT t).parts.length : Int)), (20, vi .i64 (j : Int))] [(13, .box [.d (.raw nilV), .d (.raw (.bool false)), .d (nsl [])]), (14, .box [.d (.raw (.bool false)), .d (nsl [])]), (15, .box ([.own 9 (plainT t).parts.length] ++ zi (plainT t).k)), (9, .row 32 3 (((((plainT t).parts.take j).map (divP (conZ (plainT t).parts)) ++ (plainT t).parts.drop j).set j (Part.mk x.v r6)).map Part.d)), (17, .box (zi r4))] (by kernel_rfl) h ?_; clear h; intro a w h
     refine block_n ?_
     refine then_n ?_
     refine rS tw_ok 19 [(0, .add .i64 (m := (j : Int)) (n := 1) (i64_id (by omega) (by omega)))] [(2, vp 13 0), (3, vp 14 0), (4, vp 15 0), (5, vp 17 0), (18, .t (.c (.own 9 (plainT t).parts.length))), (19, vi .i64 ((plainT t).parts.length : Int)), (20, vi .i64 ((j : Int) + 1))] [(13, .box [.d (.raw nilV), .d (.raw (.bool false)), .d (nsl [])]), (14, .box [.d (.raw (.bool false)), .d (nsl [])]), (15, .box ([.own 9 (plainT t).parts.length] ++ zi (plainT t).k)), (9, .row 32 3 (((((plainT t).parts.take j).map (divP (conZ (plainT t).parts)) ++ (plainT t).parts.drop j).set j (Part.mk x.v r6)).map Part.d)), (17, .box (zi r4))] (by kernel_rfl) h ?_; clear h; intro a w h
     refine then_n ?_
     have hdx : Part.mk x.v r6 = divP (conZ (plainT t).parts) x := by rw [er6, vG]; rfl
     replace h := h.conv (f' := F.of [(2, vp 13 0), (3, vp 14 0), (4, vp 15 0), (5, vp 17 0), (18, .t (.c (.own 9 (plainT t).parts.length))), (19, vi .i64 ((plainT t).parts.length : Int)), (20, vi .i64 ((j : Int) + 1))] [(13, .box [.d (.raw nilV), .d (.raw (.bool false)), .d (nsl [])]), (14, .box [.d (.raw (.bool false)), .d (nsl [])]), (15, .box ([.own 9 (plainT t).parts.length] ++ zi (plainT t).k)), (9, .row 32 3 ((((plainT t).parts.take (j + 1)).map (divP (conZ (plainT t).parts)) ++ (plainT t).parts.drop (j + 1)).map Part.d)), (17, .box (zi r4))]) (congrArg (fun (z_ : List Part) => F.of [(2, vp 13 0), (3, vp 14 0), (4, vp 15 0), (5, vp 17 0), (18, .t (.c (.own 9 (plainT t).parts.length))), (19, vi .i64 ((plainT t).parts.length : Int)), (20, vi .i64 ((j : Int) + 1))] [(13, .box [.d (.raw nilV), .d (.raw (.bool false)), .d (nsl [])]), (14, .box [.d (.raw (.bool false)), .d (nsl [])]), (15, .box ([.own 9 (plainT t).parts.length] ++ zi (plainT t).k)), (9, .row 32 3 (z_.map Part.d)), (17, .box (zi r4))]) (show (((((plainT t).parts.take j).map (divP (conZ (plainT t).parts)) ++ (plainT t).parts.drop j).set j (Part.mk x.v r6)) : List Part) = (((plainT t).parts.take (j + 1)).map (divP (conZ (plainT t).parts)) ++ (plainT t).parts.drop (j + 1)) from by rw [hdx]; exact mov_set hx))
     refine roundS (x := j) (y := (j + 1)) h ?_ ?_ (by kernel_rfl) (by kernel_rfl)
     ·have := at_lt hx; omega
     ·show (plainT t).parts.length - (j + 1) < (plainT t).parts.length - j
      have := at_lt hx; omega
    ·have hc2 := hc; clear hc
     have hc2' := of_decide_eq_false hc2
     refine wp_exit ?_
     refine then_x ?_
     refine then_x ?_
     refine inBlock_exit ?_
     refine then_n ?_
     obtain ⟨r7q, er7q, vr7q, or7q, lr7q⟩ := mkZ (v := (plainT t).k.val.fdiv r4.val) (m := (plainT t).k.abs.length) (len_fdiv (ht.plain hn).kb (by rw [vG]; exact hg0))
     obtain ⟨r7r, er7r, vr7r, or7r, lr7r⟩ := mkZ (v := (plainT t).k.val.fmod r4.val) (m := r4.abs.length) (len_fmod or4 (by rw [vG]; exact hg0))
     refine rSeq tw_ok 19 [(3, .call (Fn.cast (SDiv (plainT t).k r4 (ht.plain hn).kb or4 (by omega) (by omega) (by rw [vG]; exact hg0)) (show _ = (.tup [.agg (zi r7q), .agg (zi r7r), .c (.d (.raw (.int .i64 0)))] : V) by rw [er7q, er7r]; first | done | rfl)) tw_8)] [(2, vp 13 0), (3, vp 14 0), (4, vp 15 0), (5, vp 17 0)] [(13, .box [.d (.raw nilV), .d (.raw (.bool false)), .d (nsl [])]), (14, .box [.d (.raw (.bool false)), .d (nsl [])]), (15, .box ([.own 9 (plainT t).parts.length] ++ zi r7q)), (9, .row 32 3 ((((plainT t).parts.take j).map (divP (conZ (plainT t).parts)) ++ (plainT t).parts.drop j).map Part.d)), (17, .box (zi r4))] (by kernel_rfl) h ?_; clear h; intro a w h
     replace h := h.conv (f' := F.of [(2, vp 13 0), (3, vp 14 0), (4, vp 15 0), (5, vp 17 0)] [(13, .box [.d (.raw nilV), .d (.raw (.bool false)), .d (nsl [])]), (14, .box [.d (.raw (.bool false)), .d (nsl [])]), (15, .box ([.own 9 (plainT t).parts.length] ++ zi r7q)), (9, .row 32 3 (((plainT t).parts.map (divP (conZ (plainT t).parts))).map Part.d)), (17, .box (zi r4))]) (congrArg (fun (z_ : List Part) => F.of [(2, vp 13 0), (3, vp 14 0), (4, vp 15 0), (5, vp 17 0)] [(13, .box [.d (.raw nilV), .d (.raw (.bool false)), .d (nsl [])]), (14, .box [.d (.raw (.bool false)), .d (nsl [])]), (15, .box ([.own 9 (plainT t).parts.length] ++ zi r7q)), (9, .row 32 3 (z_.map Part.d)), (17, .box (zi r4))]) (show ((((plainT t).parts.take j).map (divP (conZ (plainT t).parts)) ++ (plainT t).parts.drop j) : List Part) = ((plainT t).parts.map (divP (conZ (plainT t).parts))) from by rw [show j = (plainT t).parts.length by omega, List.take_length, List.drop_length, List.append_nil]))
     replace h := h.conv (f' := F.of [(2, vp 13 0), (3, vp 14 0), (4, vp 15 0), (5, vp 17 0)] [(13, .box [.d (.raw nilV), .d (.raw (.bool false)), .d (nsl [])]), (14, .box [.d (.raw (.bool false)), .d (nsl [])]), (15, .box ([.own 9 ((plainT t).parts.map (divP (conZ (plainT t).parts))).length] ++ zi r7q)), (9, .row 32 3 (((plainT t).parts.map (divP (conZ (plainT t).parts))).map Part.d)), (17, .box (zi r4))]) (by rw [show ((plainT t).parts.map (divP (conZ (plainT t).parts))).length = (plainT t).parts.length from List.length_map _])
     replace h := pubS 9 3 32 (((plainT t).parts.map (divP (conZ (plainT t).parts))).map Part.d) [(2, vp 13 0), (3, vp 14 0), (4, vp 15 0), (5, vp 17 0)] [(13, .box [.d (.raw nilV), .d (.raw (.bool false)), .d (nsl [])]), (14, .box [.d (.raw (.bool false)), .d (nsl [])]), (15, .box ([.d (.sl 3 (((plainT t).parts.map (divP (conZ (plainT t).parts))).map Part.d))] ++ zi r7q)), (17, .box (zi r4))] h rfl trivial (show AllEq _ [((plainT t).parts.map (divP (conZ (plainT t).parts))).length] from ⟨by first | exact (List.length_map _).symm | simp, trivial⟩) (by kernel_rfl) (by kernel_rfl)
     refine rSeq tw_ok 19 [] [(2, vp 13 0), (3, vp 14 0)] [(13, .box ([.d (.sl 3 (((plainT t).parts.map (divP (conZ (plainT t).parts))).map Part.d))] ++ zi r7q)), (14, .box (zi r4))] (by kernel_rfl) h ?_; clear h; intro a w h
     refine wp_ret ?_
     refine retS [.agg ([.d (.sl 3 (((plainT t).parts.map (divP (conZ (plainT t).parts))).map Part.d))] ++ zi r7q), .agg (zi r4)] h Exit.ret (.inl rfl)  rfl ⟨RV.agg _ 13 0 _ _ _ _ tw_3 rfl rfl rfl rfl, RV.agg _ 14 0 _ _ _ _ tw_4 rfl rfl rfl rfl, trivial⟩ ?_ (by kernel_rfl) (by kernel_rfl)
     have hs : shrT t = ⟨(plainT t).parts.map (divP (conZ (plainT t).parts)), r7q⟩ := by unfold shrT; rw [if_neg hg0, er7q, vG, show (plainT t).k.val = t.k.val from ZI.val_of _]
     rw [hs, er4]; first | done | rfl
end Go.Proofs.YtekhnajfdaknnaaGreatDoor.S
end
