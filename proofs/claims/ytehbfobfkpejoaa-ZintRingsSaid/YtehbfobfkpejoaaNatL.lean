/-
  Numbers as they are answered, with a bound on their length: the calls of layer 1 and of its reference in this form.
-/
import Derived.Test.YtehbfobfkpejoaaGcd
import Derived.Test.YtehbfobfkpejoaaMulC
import Derived.Test.YtehbfobfkpejoaaRefD
namespace Go.Proofs.Ytehbfobfkpejoaa
open Go.RowKit

/-- a number of at most L limbs, as it is answered: from block B on -/
def GotM (w : World) (m L : Nat) (e : Ending) (w' : World) : Prop :=
  ∃ ao c zs B, e = .returned (.slice ao zs.length c) ∧ w.heap.size ≤ B ∧ Own w' B ao c zs ∧ Hid (Canon zs) ∧ Hid (val zs = m) ∧ zs.length ≤ L ∧ Ext w w'
theorem GotN.len {w : World} {m L : Nat} {e : Ending} {w' : World} (h : GotN w m e w') (hm : m < pw L) : GotM w m L e w' := by
  obtain ⟨ao, c, zs, he, ho, hc, hv, hx⟩ := h
  exact ⟨ao, c, zs, w.heap.size, he, Nat.le_refl _, ho, hc, hv, canon_short hc hv hm, hx⟩
/-- a difference -/
def GotSM (w : World) (m n L : Nat) (b : Bool) (e : Ending) (w' : World) : Prop :=
  ∃ ao c zs B, e = .returned (.tuple #[.slice ao zs.length c, .bool b]) ∧ w.heap.size ≤ B ∧ Own w' B ao c zs ∧ Hid (Canon zs) ∧ Hid (val zs = m - n) ∧ zs.length ≤ L ∧ Ext w w'
theorem GotSub.len {w : World} {m n L : Nat} {b : Bool} {e : Ending} {w' : World} (h : GotSub w m n e w') (hm : m < pw L) (hb : decide (n ≤ m) = b) : GotSM w m n L b e w' := by
  obtain ⟨ao, c, zs, he, ho, hc, hv, hx⟩ := h
  subst hb
  exact ⟨ao, c, zs, w.heap.size, he, Nat.le_refl _, ho, hc, hv, canon_short hc hv (by omega), hx⟩
/-- a quotient, a rest, an error's number -/
def GotDM (w : World) (p r : Nat) (L M : Nat) (er : Int) (e : Ending) (w' : World) : Prop :=
  ∃ ao c xs B bo d ys C, e = .returned (.tuple #[.slice ao xs.length c, .slice bo ys.length d, .int .i64 er]) ∧ w.heap.size ≤ B ∧ Own w' B ao c xs ∧ Hid (Canon xs) ∧ Hid (val xs = p) ∧ xs.length ≤ L ∧
    w.heap.size ≤ C ∧ Own w' C bo d ys ∧ Hid (Canon ys) ∧ Hid (val ys = r) ∧ ys.length ≤ M ∧ Ext w w'
theorem GotD.len {w : World} {p r L M : Nat} {er : Int} {e : Ending} {w' : World} (h : GotD w p r er e w') (hp : p < pw L) (hr : r < pw M) : GotDM w p r L M er e w' := by
  obtain ⟨ao, c, xs, bo, d, ys, he, h1, h2, h3, h4, h5, h6, h7⟩ := h
  exact ⟨ao, c, xs, _, bo, d, ys, _, he, Nat.le_refl _, h1, h2, h3, canon_short h2 h3 hp, Nat.le_refl _, h4, h5, h6, canon_short h5 h6 hr, h7⟩

section
variable (ao : Option Addr) (n c : Nat) (xs : List Nat) (bo : Option Addr) (m d : Nat) (ys : List Nat) (w : World)
theorem TrimM (hn : n = xs.length) (ha : Rd w ao c xs) (hl : xs.length ≤ 400000) :
    Calls Try.prog 79 #[.slice ao n c] w (GotM w (val xs) xs.length) :=
  (Trim_got ao n c xs w hn ha (by omega)).mono fun _ _ h => h.len (val_lt ha.lb)
theorem RTrimM (hn : n = xs.length) (ha : Rd w ao c xs) (hl : xs.length ≤ 400000) :
    Calls Try.prog 76 #[.slice ao n c] w (GotM w (val xs) xs.length) :=
  (RTrim_any ao n c xs w hn ha (by omega)).mono fun _ _ h => h.len (val_lt ha.lb)
theorem OfM (E : Int) (h0 : 0 ≤ E) (h1 : E < 18446744073709551616) :
    Calls Try.prog 78 #[.int .u64 E] w (GotM w E.toNat 2) :=
  (Of_any E h0 h1 w).mono fun _ _ h => h.len (show E.toNat < 18446744073709551616 by omega)
theorem AddM (hn : n = xs.length) (hm : m = ys.length) (ha : Rd w ao c xs) (hb : Rd w bo d ys) (hl1 : xs.length ≤ 400000) (hl2 : ys.length ≤ 400000) :
    Calls Try.prog 68 #[.slice ao n c, .slice bo m d] w (GotM w (val xs + val ys) (xs.length + ys.length + 1)) :=
  (Add_any ao n c xs bo m d ys w hn hm ha hb (by omega) (by omega)).mono fun _ _ h => h.len (add_lt_pw ha.lb hb.lb (by omega) (by omega))
theorem RAddM (hn : n = xs.length) (hm : m = ys.length) (ha : Rd w ao c xs) (hb : Rd w bo d ys) (hl1 : xs.length ≤ 400000) (hl2 : ys.length ≤ 400000) :
    Calls Try.prog 70 #[.slice ao n c, .slice bo m d] w (GotM w (val xs + val ys) (xs.length + ys.length + 1)) :=
  (RAdd_any ao n c xs bo m d ys w hn hm ha hb (by omega) (by omega)).mono fun _ _ h => h.len (add_lt_pw ha.lb hb.lb (by omega) (by omega))
theorem SubM (b : Bool) (hn : n = xs.length) (hm : m = ys.length) (ha : Rd w ao c xs) (hb : Rd w bo d ys) (hl1 : xs.length ≤ 400000) (hl2 : ys.length ≤ 400000) (h : decide (val ys ≤ val xs) = b) :
    Calls Try.prog 69 #[.slice ao n c, .slice bo m d] w (GotSM w (val xs) (val ys) xs.length b) :=
  (Sub_any ao n c xs bo m d ys w hn hm ha hb (by omega) (by omega)).mono fun _ _ k => k.len (val_lt ha.lb) h
theorem RSubM (b : Bool) (hn : n = xs.length) (hm : m = ys.length) (ha : Rd w ao c xs) (hb : Rd w bo d ys) (hl1 : xs.length ≤ 400000) (hl2 : ys.length ≤ 400000) (h : decide (val ys ≤ val xs) = b) :
    Calls Try.prog 71 #[.slice ao n c, .slice bo m d] w (GotSM w (val xs) (val ys) xs.length b) :=
  (RSub_any ao n c xs bo m d ys w hn hm ha hb (by omega) (by omega)).mono fun _ _ k => k.len (val_lt ha.lb) h
theorem MulM (hn : n = xs.length) (hm : m = ys.length) (ha : Rd w ao c xs) (hb : Rd w bo d ys) (hl1 : xs.length ≤ 400000) (hl2 : ys.length ≤ 400000) :
    Calls Try.prog 72 #[.slice ao n c, .slice bo m d] w (GotM w (val xs * val ys) (xs.length + ys.length)) :=
  (Mul_any ao n c xs bo m d ys w hn hm ha hb (by omega) (by omega)).mono fun _ _ h => h.len (mul_lt_pw (val_lt ha.lb) (val_lt hb.lb))
theorem RMulM (hn : n = xs.length) (hm : m = ys.length) (ha : Rd w ao c xs) (hb : Rd w bo d ys) (hl1 : xs.length ≤ 400000) (hl2 : ys.length ≤ 400000) :
    Calls Try.prog 73 #[.slice ao n c, .slice bo m d] w (GotM w (val xs * val ys) (xs.length + ys.length)) :=
  (RMul_any ao n c xs bo m d ys w hn hm ha hb (by omega) (by omega)).mono fun _ _ h => h.len (mul_lt_pw (val_lt ha.lb) (val_lt hb.lb))
theorem DivM (hn : n = xs.length) (hm : m = ys.length) (ha : Rd w ao c xs) (hb : Rd w bo d ys) (hl1 : xs.length ≤ 100000) (_hl2 : ys.length ≤ 100000) (h : val ys ≠ 0) :
    Calls Try.prog 80 #[.slice ao n c, .slice bo m d] w (GotDM w (val xs / val ys) (val xs % val ys) xs.length ys.length 0) :=
  (Div_pos ao n c xs bo m d ys w hn hm ha hb (by omega) h).mono fun _ _ k => k.len (Nat.lt_of_le_of_lt (Nat.div_le_self _ _) (val_lt ha.lb)) (Nat.lt_trans (Nat.mod_lt _ (Nat.pos_of_ne_zero h)) (val_lt hb.lb))
theorem DivM0 (hn : n = xs.length) (hm : m = ys.length) (ha : Rd w ao c xs) (hb : Rd w bo d ys) (hl1 : xs.length ≤ 100000) (_hl2 : ys.length ≤ 100000) (h : val ys = 0) :
    Calls Try.prog 80 #[.slice ao n c, .slice bo m d] w (GotDM w 0 0 0 0 10) :=
  (Div_zero ao n c xs bo m d ys w hn hm ha hb (by omega) h).mono fun _ _ k => k.len (pw_pos _) (pw_pos _)
theorem RDivM (hn : n = xs.length) (hm : m = ys.length) (ha : Rd w ao c xs) (hb : Rd w bo d ys) (hl1 : xs.length ≤ 100000) (hl2 : ys.length ≤ 100000) (h : val ys ≠ 0) :
    Calls Try.prog 81 #[.slice ao n c, .slice bo m d] w (GotDM w (val xs / val ys) (val xs % val ys) xs.length ys.length 0) :=
  (RDiv_pos ao n c xs bo m d ys w hn hm ha hb (by omega) (by omega) h).mono fun _ _ k => k.len (Nat.lt_of_le_of_lt (Nat.div_le_self _ _) (val_lt ha.lb)) (Nat.lt_trans (Nat.mod_lt _ (Nat.pos_of_ne_zero h)) (val_lt hb.lb))
theorem RDivM0 (hn : n = xs.length) (hm : m = ys.length) (hb : Rd w bo d ys) (hl2 : ys.length ≤ 100000) (h : val ys = 0) :
    Calls Try.prog 81 #[.slice ao n c, .slice bo m d] w (GotDM w 0 0 0 0 10) :=
  (RDiv_zero ao n c xs bo m d ys w hn hm hb (by omega) h).mono fun _ _ k => k.len (pw_pos _) (pw_pos _)
theorem gcd_lt_pw {x y a b : Nat} (hx : x < pw a) (hy : y < pw b) : Nat.gcd x y < pw (a + b) := by
  rcases Nat.eq_zero_or_pos x with h0 | h0
  · rw [h0, Nat.gcd_zero_left]; exact Nat.lt_of_lt_of_le hy (pw_le (by omega))
  · exact Nat.lt_of_le_of_lt (Nat.gcd_le_left _ h0) (Nat.lt_of_lt_of_le hx (pw_le (by omega)))
theorem GcdM (hn : n = xs.length) (hm : m = ys.length) (ha : Rd w ao c xs) (hb : Rd w bo d ys) (hl1 : xs.length ≤ 50000) (hl2 : ys.length ≤ 50000) :
    Calls Try.prog 83 #[.slice ao n c, .slice bo m d] w (GotM w (Nat.gcd (val xs) (val ys)) (xs.length + ys.length)) :=
  (Gcd_any ao n c xs bo m d ys (xs.length + ys.length) w hn hm ha hb (by omega) (by omega) (by omega)).mono fun _ _ k => k.len (gcd_lt_pw (val_lt ha.lb) (val_lt hb.lb))
theorem RGcdM (hn : n = xs.length) (hm : m = ys.length) (ha : Rd w ao c xs) (hb : Rd w bo d ys) (hl1 : xs.length ≤ 50000) (hl2 : ys.length ≤ 50000) :
    Calls Try.prog 84 #[.slice ao n c, .slice bo m d] w (GotM w (Nat.gcd (val xs) (val ys)) (xs.length + ys.length)) :=
  (RGcd_any ao n c xs bo m d ys (xs.length + ys.length) w hn hm ha hb (by omega) (by omega) (by omega)).mono fun _ _ k => k.len (gcd_lt_pw (val_lt ha.lb) (val_lt hb.lb))
end
end Go.Proofs.Ytehbfobfkpejoaa
