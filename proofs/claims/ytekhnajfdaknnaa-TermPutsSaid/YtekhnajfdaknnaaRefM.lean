/-
  Contract of the reference's Mul.
-/
import Derived.Test.YtekhnajfdaknnaaSmall1
namespace Go.Proofs.Ytekhnajfdaknnaa
open Go.RowKit

def RMulO (w : World) (xs ys : List Nat) (out i : Value) (wr : World) : Prop :=
  ∃ (j : Nat) (oo : Option Addr) (oc : Nat) (os : List Nat), j ≤ ys.length ∧ i = .int .i64 ((j : Int) - 1) ∧ out = .slice oo os.length oc ∧ Own wr w.heap.size oo oc os ∧ Canon os ∧ os.length ≤ xs.length + ys.length ∧ Ext w wr ∧ Hid (val os = val xs * vd ys j)
def RMulI (w : World) (os : List Nat) (up k : Value) (wr : World) : Prop :=
  ∃ (j : Nat) (uo : Option Addr) (uc : Nat) (us : List Nat), j ≤ os.length ∧ k = .int .i64 j ∧ up = .slice uo us.length uc ∧ Own wr w.heap.size uo uc us ∧ us.length = j + 1 ∧ Hid (us = 0 :: os.take j) ∧ Ext w wr

theorem take_lim {os : List Nat} {j : Nat} (h : j < os.length) : os.take j ++ [lim os j] = os.take (j + 1) := by
  rw [List.take_add_one, lim_map_at h]; rfl

theorem mul_lt_pw_pw {x y m n : Nat} (hx : x < pw m) (hy : y < pw n) : x * y < pw m * pw n := by rw [← pw_add]; exact mul_lt_pw hx hy
set_option maxRecDepth 100000 in
set_option maxHeartbeats 2000000 in
theorem RMul_any (ao : Option Addr) (n c : Nat) (xs : List Nat) (bo : Option Addr) (m d : Nat) (ys : List Nat) (w : World) (hn : n = xs.length) (hm : m = ys.length) (ha : Rd w ao c xs) (hb : Rd w bo d ys)
    (hl1 : xs.length ≤ 400000) (hl2 : ys.length ≤ 400000) :
    Calls Try.prog 65 #[.slice ao n c, .slice bo m d] w (GotN w (val xs * val ys)) := by
  subst hn hm
  have mA := ha.mx
  have mB := hb.mx
  have cA := ha.cap
  have cB := hb.cap
  go_enter Try.func65, Try.ntmps65
  go_wp2_with fail
  go_loopw [5, 6] (RMulO w xs ys) (fun _ i _ => (intOf i + 1).toNat)
  case atStart => exact ⟨ys.length, _, _, [], Nat.le_refl _, rfl, rfl, own_empty w, canon_nil, by simp, (Ext.refl w).alloc _, by unfold Hid; rw [vd_end (Nat.le_refl _)]; simp [val]⟩
  case round =>
    obtain ⟨j, oo, oc, os, hj, rfl, rfl, ow, co, lo, hext, hv⟩ := hrel
    rcases j with _ | j
    · have hv0 : val os = val xs * val ys := by have := hv.out; rwa [vd_zero] at this
      have Hv := Lib.hid hv0
      clear hv0 hv
      go_wp2_with fail
      refine (RTrim_any _ _ _ os _ rfl ow.rd (by omega)).mono ?_
      intro e w2 hg
      rw [Hv.out] at hg
      obtain ⟨ao3, c3, zs3, rfl, h3⟩ := hg.from hext
      go_wp2_with fail
      go_ret
      exact ⟨ao3, c3, zs3, rfl, h3⟩
    · have hx := (hb.ext hext).cell j (by omega)
      have hix := ixk hb ys.length rfl j (by omega)
      have bY := lim_lt hb.lb j
      have ej : ((j + 1 : Nat) : Int) - 1 = (j : Int) := by omega
      rw [ej]
      clear ej
      go_wp2_with fail
      go_loopw [7, 8] (RMulI wr os) (fun _ i _ => (os.length - intOf i).toNat)
      case atStart => exact ⟨0, _, _, [0], Nat.zero_le _, rfl, rfl, row1 wr 0 0 rfl (by omega), rfl, rfl, (Ext.refl wr).alloc _⟩
      case round =>
        obtain ⟨k, uo, uc, us, hk, rfl, rfl, ou, lu, hu, hext2⟩ := hrel
        by_cases hkA : k < os.length
        · have hxo := (ow.rd.ext hext2).cell k hkA
          have hio := ixk ow.rd os.length rfl k hkA wr
          have bO := lim_lt ow.lb k
          go_wp2_with (at_builtin; refine push rfl _ _ rfl _ _ us _ rfl rfl ou _ ?_ ?_ rfl ?_ rfl hext2 ?_; omega; omega; omega; intro ao' c' w2 hown2 hext3)
          go_roundw
          case rel => exact ⟨k + 1, ao', c', us ++ [lim os k], by omega, by go_num, by simp; omega, hown2.snocEq (by omega), by simp; omega, by unfold Hid; rw [hu.out, List.cons_append, take_lim hkA], hext3⟩
          case measure => simp [intOf]; try omega
        · obtain rfl : k = os.length := by omega
          have bY' := bY
          have xe := ha.ext (hext.trans hext2)
          have hul : us.length ≤ 900000 := by omega
          have huv : val us = 4294967296 * val os := by rw [hu.out, List.take_of_length_le (Nat.le_refl _), val_cons]; omega
          have Huv := Lib.hid huv
          have hx' := (hb.ext (hext.trans hext2)).cell j (by omega)
          clear huv
          go_wp2_with fail
          refine (small_any _ _ _ xs _ (lim ys j) _ rfl rfl xe (by omega) bY).mono ?_
          rintro e w3 ⟨so, sc, sz, rfl, p1, p2, p3, p4⟩
          have hm : val xs * lim ys j < pw (xs.length + 1) := by
            rw [pw_succ, Nat.mul_comm]
            exact Nat.mul_lt_mul'' bY (val_lt ha.lb)
          have ls : sz.length ≤ xs.length + 1 := canon_len (n := xs.length + 1) p2 (p3 ▸ hm)
          clear hm
          have P3 := Lib.hid p3
          clear p3
          go_wp2_with fail
          refine (RAdd_any _ _ _ us _ _ _ sz _ lu.symm rfl (ou.rd.ext p4) p1.rd (by omega) (by omega)).mono ?_
          rintro e w4 ⟨ro, rc, rz, rfl, q1, q2, q3, q4⟩
          have hrv : val rz = val xs * vd ys j := by
            rw [q3, Huv.out, P3.out, hv.out, vd_step (show j < ys.length by omega), Nat.mul_add, Nat.mul_left_comm]; omega
          have Hrv := Lib.hid hrv
          have hlr : rz.length ≤ xs.length + ys.length := canon_len q2 (by
            rw [hrv, pw_add]
            have h1 := val_lt ha.lb
            have h2 : vd ys j < pw ys.length := by
              have := val_lt_pw (Lb_drop hb.lb j) (show (ys.drop j).length ≤ ys.length by simp)
              exact this
            exact mul_lt_pw_pw h1 h2)
          have e3 := hext.trans (hext2.trans (p4.trans q4))
          have sz3 := (hext.trans (hext2.trans p4)).size
          clear hrv q3 hv
          go_wp2_with fail
          go_roundw
          case rel => exact ⟨j, ro, rc, rz, by omega, by go_num, rfl, q1.mono sz3, q2, hlr, e3, Hrv⟩
          case measure => simp [intOf]; try omega
end Go.Proofs.Ytekhnajfdaknnaa
