/-
  Numbers as they are answered, with a bound on their length: the calls of layer 1 and of its reference in this form.
-/
import Derived.Test.YtekhnajfdaknnaaMulC
import Derived.Test.YtekhnajfdaknnaaRefM
import Derived.Test.YtekhnajfdaknnaaRefA
namespace Go.Proofs.Ytekhnajfdaknnaa
open Go.RowKit

/-- a number of at most L limbs, as it is answered: from block B on -/
def GotM (w : World) (m L : Nat) (e : Ending) (w' : World) : Prop :=
  ∃ ao c zs B, e = .returned (.slice ao zs.length c) ∧ w.heap.size ≤ B ∧ Own w' B ao c zs ∧ Hid (Canon zs) ∧ Hid (val zs = m) ∧ zs.length ≤ L ∧ Ext w w'
theorem GotN.len {w : World} {m L : Nat} {e : Ending} {w' : World} (h : GotN w m e w') (hm : m < pw L) : GotM w m L e w' := by
  obtain ⟨ao, c, zs, he, ho, hc, hv, hx⟩ := h
  exact ⟨ao, c, zs, w.heap.size, he, Nat.le_refl _, ho, hc, hv, canon_short hc hv hm, hx⟩
/-- a difference -/
def GotSM (w : World) (m n L : Nat) (b : Bool) (e : Ending) (w' : World) : Prop :=
  ∃ ao c zs B, e = .returned (.tuple #[.slice ao zs.length c, .bool b]) ∧ w.heap.size ≤ B ∧ Own w' B ao c zs ∧ Hid (Canon zs) ∧ Hid (val zs = m - n) ∧ zs.length ≤ L ∧ Ext w w'
theorem GotSub.len {w : World} {m n L : Nat} {b : Bool} {e : Ending} {w' : World} (h : GotSub w m n e w') (hm : m < pw L) (hb : decide (n ≤ m) = b) : GotSM w m n L b e w' := by
  obtain ⟨ao, c, zs, he, ho, hc, hv, hx⟩ := h
  subst hb
  exact ⟨ao, c, zs, w.heap.size, he, Nat.le_refl _, ho, hc, hv, canon_short hc hv (by omega), hx⟩
section
variable (ao : Option Addr) (n c : Nat) (xs : List Nat) (bo : Option Addr) (m d : Nat) (ys : List Nat) (w : World)
theorem TrimM (hn : n = xs.length) (ha : Rd w ao c xs) (hl : xs.length ≤ 400000) :
    Calls Try.prog 73 #[.slice ao n c] w (GotM w (val xs) xs.length) :=
  (Trim_got ao n c xs w hn ha (by omega)).mono fun _ _ h => h.len (val_lt ha.lb)
theorem RTrimM (hn : n = xs.length) (ha : Rd w ao c xs) (hl : xs.length ≤ 400000) :
    Calls Try.prog 67 #[.slice ao n c] w (GotM w (val xs) xs.length) :=
  (RTrim_any ao n c xs w hn ha (by omega)).mono fun _ _ h => h.len (val_lt ha.lb)
theorem OfM (E : Int) (h0 : 0 ≤ E) (h1 : E < 18446744073709551616) :
    Calls Try.prog 66 #[.int .u64 E] w (GotM w E.toNat 2) :=
  (Of_any E h0 h1 w).mono fun _ _ h => h.len (show E.toNat < 18446744073709551616 by omega)
theorem AddM (hn : n = xs.length) (hm : m = ys.length) (ha : Rd w ao c xs) (hb : Rd w bo d ys) (hl1 : xs.length ≤ 400000) (hl2 : ys.length ≤ 400000) :
    Calls Try.prog 56 #[.slice ao n c, .slice bo m d] w (GotM w (val xs + val ys) (xs.length + ys.length + 1)) :=
  (Add_any ao n c xs bo m d ys w hn hm ha hb (by omega) (by omega)).mono fun _ _ h => h.len (add_lt_pw ha.lb hb.lb (by omega) (by omega))
theorem RAddM (hn : n = xs.length) (hm : m = ys.length) (ha : Rd w ao c xs) (hb : Rd w bo d ys) (hl1 : xs.length ≤ 400000) (hl2 : ys.length ≤ 400000) :
    Calls Try.prog 48 #[.slice ao n c, .slice bo m d] w (GotM w (val xs + val ys) (xs.length + ys.length + 1)) :=
  (RAdd_any ao n c xs bo m d ys w hn hm ha hb (by omega) (by omega)).mono fun _ _ h => h.len (add_lt_pw ha.lb hb.lb (by omega) (by omega))
theorem SubM (b : Bool) (hn : n = xs.length) (hm : m = ys.length) (ha : Rd w ao c xs) (hb : Rd w bo d ys) (hl1 : xs.length ≤ 400000) (hl2 : ys.length ≤ 400000) (h : decide (val ys ≤ val xs) = b) :
    Calls Try.prog 57 #[.slice ao n c, .slice bo m d] w (GotSM w (val xs) (val ys) xs.length b) :=
  (Sub_any ao n c xs bo m d ys w hn hm ha hb (by omega) (by omega)).mono fun _ _ k => k.len (val_lt ha.lb) h
theorem RSubM (b : Bool) (hn : n = xs.length) (hm : m = ys.length) (ha : Rd w ao c xs) (hb : Rd w bo d ys) (hl1 : xs.length ≤ 400000) (hl2 : ys.length ≤ 400000) (h : decide (val ys ≤ val xs) = b) :
    Calls Try.prog 63 #[.slice ao n c, .slice bo m d] w (GotSM w (val xs) (val ys) xs.length b) :=
  (RSub_any ao n c xs bo m d ys w hn hm ha hb (by omega) (by omega)).mono fun _ _ k => k.len (val_lt ha.lb) h
theorem MulM (hn : n = xs.length) (hm : m = ys.length) (ha : Rd w ao c xs) (hb : Rd w bo d ys) (hl1 : xs.length ≤ 400000) (hl2 : ys.length ≤ 400000) :
    Calls Try.prog 64 #[.slice ao n c, .slice bo m d] w (GotM w (val xs * val ys) (xs.length + ys.length)) :=
  (Mul_any ao n c xs bo m d ys w hn hm ha hb (by omega) (by omega)).mono fun _ _ h => h.len (mul_lt_pw (val_lt ha.lb) (val_lt hb.lb))
theorem RMulM (hn : n = xs.length) (hm : m = ys.length) (ha : Rd w ao c xs) (hb : Rd w bo d ys) (hl1 : xs.length ≤ 400000) (hl2 : ys.length ≤ 400000) :
    Calls Try.prog 65 #[.slice ao n c, .slice bo m d] w (GotM w (val xs * val ys) (xs.length + ys.length)) :=
  (RMul_any ao n c xs bo m d ys w hn hm ha hb (by omega) (by omega)).mono fun _ _ h => h.len (mul_lt_pw (val_lt ha.lb) (val_lt hb.lb))
end
end Go.Proofs.Ytekhnajfdaknnaa
