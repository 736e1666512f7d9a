/-
  Contract of nat.Gcd.
-/
import Derived.Test.YtehbfobfkpejoaaDivD
import Derived.Deep.LoopGhost
namespace Go.Proofs.Ytehbfobfkpejoaa
open Go.RowKit

def GcdR (w : World) (G L : Nat) (k : Nat) (a b : Value) (wr : World) : Prop :=
  ∃ (ao : Option Addr) (c : Nat) (xs : List Nat) (bo : Option Addr) (d : Nat) (ys : List Nat), a = .slice ao xs.length c ∧ b = .slice bo ys.length d ∧ Own wr w.heap.size ao c xs ∧ Own wr w.heap.size bo d ys ∧ Canon xs ∧ Canon ys ∧ xs.length ≤ L ∧ ys.length ≤ L ∧ Ext w wr ∧
    Hid (Nat.gcd (val xs) (val ys) = G) ∧ Hid (k = val ys)

set_option maxRecDepth 100000 in
set_option maxHeartbeats 2000000 in
theorem Gcd_any (ao : Option Addr) (n c : Nat) (xs : List Nat) (bo : Option Addr) (m d : Nat) (ys : List Nat) (L : Nat) (w : World) (hn : n = xs.length) (hm : m = ys.length)
    (ha : Rd w ao c xs) (hb : Rd w bo d ys) (hl1 : xs.length ≤ L) (hl2 : ys.length ≤ L) (hL : L ≤ 900000) :
    Calls Try.prog 83 #[.slice ao n c, .slice bo m d] w (GotN w (Nat.gcd (val xs) (val ys))) := by
  subst hn hm
  go_enter Try.func83, Try.ntmps83
  go_wp2_with fail
  refine (Trim_got _ _ _ xs _ rfl ha (by omega)).mono ?_
  rintro e w1 ⟨xo, xc, xz, rfl, p1, p2, p3, p4⟩
  replace p3 := Lib.hid p3
  go_wp2_with fail
  refine (Trim_got _ _ _ ys _ rfl (hb.ext p4) (by omega)).mono ?_
  rintro e w2 ⟨yo, yc, yz, rfl, q1, q2, q3, q4⟩
  replace q3 := Lib.hid q3
  have lx : xz.length ≤ L := canon_len p2 (by rw [p3.out]; exact val_lt_pw ha.lb hl1)
  have ly : yz.length ≤ L := canon_len q2 (by rw [q3.out]; exact val_lt_pw hb.lb hl2)
  go_wp2_with fail
  go_loopg [0, 1] (val yz) (GcdR w (Nat.gcd (val xs) (val ys)) L)
  case atStart => exact ⟨xo, xc, xz, yo, yc, yz, rfl, rfl, p1.ext q4, q1.mono p4.size, p2, q2, lx, ly, p4.trans q4, by unfold Hid; rw [p3.out, q3.out], rfl⟩
  case round =>
    obtain ⟨ao, c, us, bo, d, bs, rfl, rfl, oa, ob, ca, cb, la, lb, hext, hg, hk⟩ := hrel
    rcases Nat.eq_zero_or_pos bs.length with h0 | hp
    · have e0 : bs = [] := List.length_eq_zero_iff.1 h0
      subst e0
      clear h0
      have hv : val us = Nat.gcd (val xs) (val ys) := by have := hg.out; rwa [show val [] = 0 from rfl, Nat.gcd_zero_right] at this
      go_wp2_with fail
      go_ret
      exact ⟨ao, c, us, rfl, oa, ca, hv, hext⟩
    · have hne : val bs ≠ 0 := fun e => by rw [canon_zero cb e] at hp; exact absurd hp (by decide)
      have hp1 : (0 : Int) < (bs.length : Int) := by omega
      have hp2 : decide (0 < bs.length) = true := by simpa using hp
      go_wp2_with fail
      refine (Div_any _ _ _ us _ _ _ bs _ rfl rfl oa.rd ob.rd (by omega)).mono ?_
      intro e w3 hgot
      rw [if_neg hne] at hgot
      obtain ⟨qo, qc, qz, ro, rc, rz, rfl, t1, t2, t3, t4, t5, t6, t7⟩ := hgot
      have hlt : val rz < val bs := by rw [t6]; exact Nat.mod_lt _ (by omega)
      have lr : rz.length ≤ L := canon_len t5 (Nat.lt_trans hlt (val_lt_pw cb.1 lb))
      have hg2 : Nat.gcd (val bs) (val rz) = Nat.gcd (val xs) (val ys) := by
        rw [t6, ← hg.out, Nat.gcd_comm (val us), Nat.gcd_rec (val bs) (val us), Nat.gcd_comm]
      have Hg2 := Lib.hid hg2
      have Hlt := Lib.hid hlt
      clear t3 t6 hg2 hlt hne
      go_wp2_with fail
      go_roundg (val rz)
      case rel => exact ⟨bo, d, bs, ro, rc, rz, rfl, rfl, ob.ext t7, t4.mono hext.size, cb, t5, lb, lr, hext.trans t7, Hg2, rfl⟩
      case measure => have h1 := hk.out; have h2 := Hlt.out; omega

theorem Div_pos (ao : Option Addr) (n c : Nat) (xs : List Nat) (bo : Option Addr) (m d : Nat) (ys : List Nat) (w : World) (hn : n = xs.length) (hm : m = ys.length)
    (ha : Rd w ao c xs) (hb : Rd w bo d ys) (hl : xs.length ≤ 900000) (hv : val ys ≠ 0) :
    Calls Try.prog 80 #[.slice ao n c, .slice bo m d] w (GotD w (val xs / val ys) (val xs % val ys) 0) := by
  have h := Div_any ao n c xs bo m d ys w hn hm ha hb hl
  rwa [if_neg hv] at h
theorem Div_zero (ao : Option Addr) (n c : Nat) (xs : List Nat) (bo : Option Addr) (m d : Nat) (ys : List Nat) (w : World) (hn : n = xs.length) (hm : m = ys.length)
    (ha : Rd w ao c xs) (hb : Rd w bo d ys) (hl : xs.length ≤ 900000) (hv : val ys = 0) :
    Calls Try.prog 80 #[.slice ao n c, .slice bo m d] w (GotD w 0 0 10) := by
  have h := Div_any ao n c xs bo m d ys w hn hm ha hb hl
  rwa [if_pos hv] at h
end Go.Proofs.Ytehbfobfkpejoaa
