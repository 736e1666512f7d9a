/-
  Contracts of the reference's Div and Gcd.
-/
import Derived.Test.YtehbfobfkpejoaaRefB
import Derived.Test.YtehbfobfkpejoaaGcd
import Derived.Deep.LoopGhost
namespace Go.Proofs.Ytehbfobfkpejoaa
open Go.RowKit

def RDivR (w : World) (xs ys : List Nat) (q r i : Value) (wr : World) : Prop :=
  ∃ (k : Nat) (qo : Option Addr) (qc : Nat) (qz : List Nat) (ro : Option Addr) (rc : Nat) (rz : List Nat), i = .int .i64 ((k : Int) - 1) ∧ k ≤ nb (val xs) ∧ q = .slice qo qz.length qc ∧ r = .slice ro rz.length rc ∧
    Rd wr qo qc qz ∧ Rd wr ro rc rz ∧ qz.length ≤ xs.length ∧ rz.length ≤ ys.length ∧ Ext w wr ∧
    Hid (val qz = val xs / 2 ^ k / val ys) ∧ Hid (val rz = val xs / 2 ^ k % val ys)

theorem b2n_tb (v k : Nat) : b2n (tb v k) = v / 2 ^ k % 2 := by
  unfold b2n tb
  have : v / 2 ^ k % 2 < 2 := Nat.mod_lt _ (by omega)
  by_cases h : v / 2 ^ k % 2 = 1
  · simp [h]
  · simp [h]; omega
theorem rdiv_yes {v b k : Nat} (hb : 0 < b) (h : b ≤ 2 * (v / 2 ^ (k + 1) % b) + v / 2 ^ k % 2) :
    v / 2 ^ k / b = 2 * (v / 2 ^ (k + 1) / b) + 1 ∧ v / 2 ^ k % b = 2 * (v / 2 ^ (k + 1) % b) + v / 2 ^ k % 2 - b := by
  have := div_bit_yes (t := v / 2 ^ (k + 1)) hb h (by omega)
  rw [← up_bit v k] at this
  exact this
theorem rdiv_no {v b k : Nat} (hb : 0 < b) (h : 2 * (v / 2 ^ (k + 1) % b) + v / 2 ^ k % 2 < b) :
    v / 2 ^ k / b = 2 * (v / 2 ^ (k + 1) / b) ∧ v / 2 ^ k % b = 2 * (v / 2 ^ (k + 1) % b) + v / 2 ^ k % 2 := by
  have := div_bit_no (t := v / 2 ^ (k + 1)) hb h
  rw [← up_bit v k] at this
  exact this

set_option maxRecDepth 100000 in
set_option maxHeartbeats 2000000 in
theorem RDiv_pos (ao : Option Addr) (n c : Nat) (xs : List Nat) (bo : Option Addr) (m d : Nat) (ys : List Nat) (w : World) (hn : n = xs.length) (hm : m = ys.length)
    (ha : Rd w ao c xs) (hb : Rd w bo d ys) (hl1 : xs.length ≤ 100000) (hl2 : ys.length ≤ 100000) (hv : val ys ≠ 0) :
    Calls Try.prog 81 #[.slice ao n c, .slice bo m d] w (GotD w (val xs / val ys) (val xs % val ys) 0) := by
  subst hn hm
  have hpos : 0 < val ys := Nat.pos_of_ne_zero hv
  have hV := Lib.hid hv
  have hnb := nb_le_len ha.lb (Nat.le_refl xs.length)
  have hq0 : Hid (val ([] : List Nat) = val xs / 2 ^ nb (val xs) / val ys) := by unfold Hid; rw [Nat.div_eq_of_lt (nb_lt _), Nat.zero_div]; rfl
  have hr0 : Hid (val ([] : List Nat) = val xs / 2 ^ nb (val xs) % val ys) := by unfold Hid; rw [Nat.div_eq_of_lt (nb_lt _), Nat.zero_mod]; rfl
  clear hv
  go_enter Try.func81, Try.ntmps81
  go_wp2_with fail
  refine (RTrim_any _ _ _ ys _ rfl hb (by omega)).mono ?_
  rintro e w1 ⟨to, tc, tz, rfl, t1, t2, t3, t4⟩
  have ht : ((tz.length : Int) == 0) = false := by
    refine beq_eq_false_iff_ne.2 (fun e => ?_)
    have : tz = [] := List.length_eq_zero_iff.1 (by omega)
    subst this
    exact hV.out (t3.symm.trans rfl)
  clear t3
  go_wp2_with fail
  have hE := (t4.alloc (.cells #[] 64)).alloc (.cells #[] 64)
  refine (RBits_any _ _ _ xs _ rfl (ha.ext hE) (by omega)).mono ?_
  rintro e w2 ⟨rfl, x⟩
  go_wp2_with fail
  go_loopw [7, 8, 9] (RDivR w xs ys) (fun _ _ i _ => (intOf i + 1).toNat)
  case atStart =>
    have hr1 := (own_empty (w1.alloc (.cells #[] 64))).rd
    simp at hr1
    exact ⟨nb (val xs), _, 0, [], _, 0, [], rfl, Nat.le_refl _, rfl, rfl, ((own_empty w1).rd.ext ((Ext.refl _).alloc _)).ext x, hr1.ext x, Nat.zero_le _, Nat.zero_le _, hE.trans x, hq0, hr0⟩
  case round =>
    obtain ⟨k, qo, qc, qz, ro, rc, rz, rfl, hk, rfl, rfl, qr, rr, lq, lr, hE2, hq, hr⟩ := hrel
    rcases k with _ | k
    · go_wp2_with fail
      refine (RTrim_any _ _ _ qz _ rfl qr (by omega)).mono ?_
      rintro e w3 ⟨po, pc, pz, rfl, p1, p2, p3, p4⟩
      replace p3 := Lib.hid p3
      go_wp2_with fail
      refine (RTrim_any _ _ _ rz _ rfl (rr.ext p4) (by omega)).mono ?_
      rintro e w4 ⟨so, sc, sz, rfl, s1, s2, s3, s4⟩
      replace s3 := Lib.hid s3
      go_wp2_with fail
      go_ret3
      refine ⟨po, pc, pz, so, sc, sz, rfl, (p1.ext s4).mono hE2.size, p2, ?_, s1.mono (hE2.trans p4).size, s2, ?_, (hE2.trans p4).trans s4⟩
      · rw [p3.out, hq.out, Nat.pow_zero, Nat.div_one]
      · rw [s3.out, hr.out, Nat.pow_zero, Nat.div_one]
    · have ek : ((k + 1 : Nat) : Int) - 1 = (k : Int) := by omega
      rw [ek]
      clear ek
      have hk9 : (k : Int) < 4000000 := by omega
      go_wp2_with fail
      refine (RBit_any _ _ _ xs _ k _ rfl rfl (by omega) (ha.ext hE2) (by omega)).mono ?_
      rintro e w' ⟨rfl, rfl⟩
      obtain ⟨bt, hbt⟩ : ∃ bt, bt = tb (val xs) k := ⟨_, rfl⟩
      rw [← hbt]
      replace hbt := Lib.hid hbt
      go_wp2_with fail
      refine (twice_any _ _ _ rz bt _ rfl rr (by omega)).mono ?_
      rintro e w3 ⟨to2, tc2, tz2, rfl, u1, u2, u3, u4⟩
      have ev : val tz2 = 2 * (val xs / 2 ^ (k + 1) % val ys) + val xs / 2 ^ k % 2 := by rw [u3, hr.out, hbt.out, b2n_tb]
      have hlt := Nat.mod_lt (val xs / 2 ^ (k + 1)) hpos
      have l3 : tz2.length ≤ ys.length + 1 := canon_len u2 (by rw [pw_succ, ev]; have := val_lt hb.lb; omega)
      have Ev := Lib.hid ev
      clear u3 ev hlt
      have hbE := hb.ext (hE2.trans u4)
      go_wp2_with fail
      refine (RSub_any _ _ _ tz2 _ _ _ ys _ rfl rfl u1.rd hbE (by omega) (by omega)).mono ?_
      rintro e w4 ⟨lo, lc, lz, rfl, v1, v2, v3, v4⟩
      by_cases hge : val ys ≤ val tz2
      · have hstep := rdiv_yes (v := val xs) (k := k) hpos (by rw [← Ev.out]; exact hge)
        have hdt : decide (val ys ≤ val tz2) = true := decide_eq_true hge
        have l4 : lz.length ≤ ys.length := canon_len v2 (by rw [v3, Ev.out, ← hstep.2]; exact Nat.lt_trans (Nat.mod_lt _ hpos) (val_lt hb.lb))
        have Hs := Lib.hid hstep
        have V3 := Lib.hid v3
        rw [hdt]
        clear hstep v3 hge hdt
        go_wp2_with fail
        refine (twice_any _ _ _ qz true _ rfl (qr.ext (u4.trans v4)) (by omega)).mono ?_
        rintro e w5 ⟨po, pc, pz, rfl, p1, p2, p3, p4⟩
        have l5 : pz.length ≤ xs.length := canon_len p2 (by rw [p3, hq.out]; unfold b2n; rw [if_pos rfl, ← Hs.out.1]; exact Nat.lt_of_le_of_lt (Nat.le_trans (Nat.div_le_self _ _) (Nat.div_le_self _ _)) (val_lt ha.lb))
        replace p3 := Lib.hid p3
        go_wp2_with fail
        go_roundw
        case rel => exact ⟨k, po, pc, pz, lo, lc, lz, by go_num, by omega, rfl, rfl, p1.rd, v1.rd.ext p4, l5, l4, hE2.trans (u4.trans (v4.trans p4)), by unfold Hid; rw [p3.out, hq.out, Hs.out.1]; rfl, by unfold Hid; rw [V3.out, Ev.out, Hs.out.2]⟩
        case measure => simp [intOf]; try omega
      · have hstep := rdiv_no (v := val xs) (k := k) hpos (by rw [← Ev.out]; omega)
        have hdt : decide (val ys ≤ val tz2) = false := decide_eq_false hge
        have l4 : tz2.length ≤ ys.length := canon_len u2 (by rw [Ev.out, ← hstep.2]; exact Nat.lt_trans (Nat.mod_lt _ hpos) (val_lt hb.lb))
        have Hs := Lib.hid hstep
        rw [hdt]
        clear hstep v3 hge hdt
        go_wp2_with fail
        refine (twice_any _ _ _ qz false _ rfl (qr.ext (u4.trans v4)) (by omega)).mono ?_
        rintro e w5 ⟨po, pc, pz, rfl, p1, p2, p3, p4⟩
        have l5 : pz.length ≤ xs.length := canon_len p2 (by rw [p3, hq.out]; unfold b2n; rw [if_neg (by decide), Nat.add_zero, ← Hs.out.1]; exact Nat.lt_of_le_of_lt (Nat.le_trans (Nat.div_le_self _ _) (Nat.div_le_self _ _)) (val_lt ha.lb))
        replace p3 := Lib.hid p3
        go_wp2_with fail
        go_roundw
        case rel => exact ⟨k, po, pc, pz, to2, tc2, tz2, by go_num, by omega, rfl, rfl, p1.rd, (u1.rd.ext v4).ext p4, l5, l4, hE2.trans (u4.trans (v4.trans p4)), by unfold Hid; rw [p3.out, hq.out, Hs.out.1]; rfl, by unfold Hid; rw [Ev.out, Hs.out.2]⟩
        case measure => simp [intOf]; try omega

set_option maxRecDepth 100000 in
set_option maxHeartbeats 1000000 in
theorem RDiv_zero (ao : Option Addr) (n c : Nat) (xs : List Nat) (bo : Option Addr) (m d : Nat) (ys : List Nat) (w : World) (hn : n = xs.length) (hm : m = ys.length)
    (hb : Rd w bo d ys) (hl2 : ys.length ≤ 100000) (hv : val ys = 0) :
    Calls Try.prog 81 #[.slice ao n c, .slice bo m d] w (GotD w 0 0 10) := by
  subst hn hm
  replace hv := Lib.hid hv
  go_enter Try.func81, Try.ntmps81
  go_wp2_with fail
  refine (RTrim_any _ _ _ ys _ rfl hb (by omega)).mono ?_
  rintro e w1 ⟨to, tc, tz, rfl, t1, t2, t3, t4⟩
  have e0 : tz = [] := canon_zero t2 (t3.trans hv.out)
  subst e0
  clear t3
  go_wp2_with fail
  go_ret3
  exact ⟨none, 0, [], none, 0, [], rfl, Own.nil _ _, canon_nil, rfl, Own.nil _ _, canon_nil, rfl, t4⟩

set_option maxRecDepth 100000 in
set_option maxHeartbeats 2000000 in
theorem RGcd_any (ao : Option Addr) (n c : Nat) (xs : List Nat) (bo : Option Addr) (m d : Nat) (ys : List Nat) (L : Nat) (w : World) (hn : n = xs.length) (hm : m = ys.length)
    (ha : Rd w ao c xs) (hb : Rd w bo d ys) (hl1 : xs.length ≤ L) (hl2 : ys.length ≤ L) (hL : L ≤ 100000) :
    Calls Try.prog 84 #[.slice ao n c, .slice bo m d] w (GotN w (Nat.gcd (val xs) (val ys))) := by
  subst hn hm
  go_enter Try.func84, Try.ntmps84
  go_wp2_with fail
  refine (RTrim_any _ _ _ xs _ rfl ha (by omega)).mono ?_
  rintro e w1 ⟨xo, xc, xz, rfl, p1, p2, p3, p4⟩
  replace p3 := Lib.hid p3
  go_wp2_with fail
  refine (RTrim_any _ _ _ ys _ rfl (hb.ext p4) (by omega)).mono ?_
  rintro e w2 ⟨yo, yc, yz, rfl, q1, q2, q3, q4⟩
  replace q3 := Lib.hid q3
  have lx : xz.length ≤ L := canon_len p2 (by rw [p3.out]; exact val_lt_pw ha.lb hl1)
  have ly : yz.length ≤ L := canon_len q2 (by rw [q3.out]; exact val_lt_pw hb.lb hl2)
  go_wp2_with fail
  go_loopg [5, 6] (val yz) (GcdR w (Nat.gcd (val xs) (val ys)) L)
  case atStart => exact ⟨xo, xc, xz, yo, yc, yz, rfl, rfl, p1.ext q4, q1.mono p4.size, p2, q2, lx, ly, p4.trans q4, by unfold Hid; rw [p3.out, q3.out], rfl⟩
  case round =>
    obtain ⟨ao, c, us, bo, d, bs, rfl, rfl, oa, ob, ca, cb, la, lb, hext, hg, hk⟩ := hrel
    rcases Nat.eq_zero_or_pos bs.length with h0 | hp
    · have e0 : bs = [] := List.length_eq_zero_iff.1 h0
      subst e0
      clear h0
      have hv : val us = Nat.gcd (val xs) (val ys) := by have := hg.out; rwa [show val [] = 0 from rfl, Nat.gcd_zero_right] at this
      go_wp2_with fail
      go_ret
      exact ⟨ao, c, us, rfl, oa, ca, hv, hext⟩
    · have hne : val bs ≠ 0 := fun e => by rw [canon_zero cb e] at hp; exact absurd hp (by decide)
      have hp1 : (0 : Int) < (bs.length : Int) := by omega
      have hp2 : decide (0 < bs.length) = true := by simpa using hp
      go_wp2_with fail
      refine (RDiv_pos _ _ _ us _ _ _ bs _ rfl rfl oa.rd ob.rd (by omega) (by omega) hne).mono ?_
      rintro e w3 ⟨qo, qc, qz, ro, rc, rz, rfl, t1, t2, t3, t4, t5, t6, t7⟩
      have hlt : val rz < val bs := by rw [t6]; exact Nat.mod_lt _ (by omega)
      have lr : rz.length ≤ L := canon_len t5 (Nat.lt_trans hlt (val_lt_pw cb.1 lb))
      have hg2 : Nat.gcd (val bs) (val rz) = Nat.gcd (val xs) (val ys) := by
        rw [t6, ← hg.out, Nat.gcd_comm (val us), Nat.gcd_rec (val bs) (val us), Nat.gcd_comm]
      have Hg2 := Lib.hid hg2
      have Hlt := Lib.hid hlt
      clear t3 t6 hg2 hlt hne
      go_wp2_with fail
      go_roundg (val rz)
      case rel => exact ⟨bo, d, bs, ro, rc, rz, rfl, rfl, ob.ext t7, t4.mono hext.size, cb, t5, lb, lr, hext.trans t7, Hg2, rfl⟩
      case measure => have h1 := hk.out; have h2 := Hlt.out; omega
end Go.Proofs.Ytehbfobfkpejoaa
