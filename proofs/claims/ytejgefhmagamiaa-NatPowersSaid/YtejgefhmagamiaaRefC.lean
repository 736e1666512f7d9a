/-
  Contracts of the reference's Left, Right, Pow.
-/
import Derived.Test.YtejgefhmagamiaaNatM
import Derived.Test.YtejgefhmagamiaaRefD
namespace Go.Proofs.Ytejgefhmagamiaa
open Go.RowKit

def RLeft1 (w : World) (q : Nat) (out i : Value) (wr : World) : Prop :=
  ∃ (j : Nat) (po : Option Addr) (pc : Nat), j ≤ q ∧ i = .int .i64 j ∧ out = .slice po j pc ∧ Own wr w.heap.size po pc (List.replicate j 0) ∧ Ext w wr
def RLeft2 (w : World) (xs : List Nat) (q : Nat) (out i : Value) (wr : World) : Prop :=
  ∃ (j : Nat) (po : Option Addr) (pc : Nat), j ≤ xs.length ∧ i = .int .i64 j ∧ out = .slice po (q + j) pc ∧ Own wr w.heap.size po pc (List.replicate q 0 ++ xs.take j) ∧ Ext w wr
def RLeft3 (w : World) (v r L : Nat) (out i : Value) (wr : World) : Prop :=
  ∃ (j : Nat) (po : Option Addr) (pc : Nat) (zs : List Nat), j ≤ r ∧ i = .int .i64 j ∧ out = .slice po zs.length pc ∧ Rd wr po pc zs ∧ zs.length ≤ L + 1 ∧ Ext w wr ∧ Hid (val zs = v * 2 ^ j)

theorem val_zeros (q : Nat) : val (List.replicate q 0) = 0 := by
  induction q with
  | zero => rfl
  | succ q ih => rw [List.replicate_succ, val_cons, ih]
theorem val_shift (q : Nat) (xs : List Nat) : val (List.replicate q 0 ++ xs) = val xs * pw q := by
  rw [val_append, val_zeros, List.length_replicate, Nat.zero_add, Nat.mul_comm]

set_option maxHeartbeats 2000000 in
theorem RLeft_any (ao : Option Addr) (n c : Nat) (xs : List Nat) (E : Int) (K : Nat) (w : World) (hn : n = xs.length) (hE : E = (K : Int)) (ha : Rd w ao c xs) (hl : xs.length ≤ 100000) (hk : K ≤ 1048576) :
    Calls Try.prog 39 #[.slice ao n c, .int .i64 E] w (GotE w (val xs * 2 ^ K) 0) := by
  subst hn hE
  obtain ⟨q, hq⟩ : ∃ q, q = K / 32 := ⟨_, rfl⟩
  obtain ⟨r, hr⟩ : ∃ r, r = K % 32 := ⟨_, rfl⟩
  have hq1 : (K : Int) / 32 = (q : Int) := by omega
  have hr1 : (K : Int) % 32 = (r : Int) := by omega
  have hqb : q ≤ 32768 := by omega
  have hrb : r < 32 := by omega
  have hv : Hid (val xs * 2 ^ K = val xs * pw q * 2 ^ r) := by
    unfold Hid
    rw [pw_two, Nat.mul_assoc, ← Nat.pow_add]; congr 2; omega
  have mA := ha.mx
  have cA := ha.cap
  have hK0 : ¬ (K : Int) < 0 := by omega
  have hK1 : ¬ 1048576 < (K : Int) := by omega
  clear hq hr
  go_enter Try.func39, Try.ntmps39
  go_wp2_with fail
  go_loopw [6, 7] (RLeft1 w q) (fun _ i _ => (q - intOf i).toNat)
  case atStart => exact ⟨0, _, 0, Nat.zero_le _, rfl, rfl, own_empty w, (Ext.refl w).alloc _⟩
  case round =>
    obtain ⟨j, po, pc, hj, rfl, rfl, hown, hext⟩ := hrel
    by_cases hjq : j < q
    · have hd : decide ((j : Int) < (K : Int) / 32) = true := decide_eq_true (by rw [hq1]; omega)
      go_wp2_with (at_builtin; refine push (wi := w) rfl _ _ rfl _ _ (List.replicate j 0) _ (by simp) rfl hown _ ?_ ?_ rfl ?_ rfl hext ?_; omega; omega; (simp; omega); intro ao' c' w2 hown2 hext2)
      go_roundw
      case rel => exact ⟨j + 1, ao', c', by omega, by go_num, by simp, by rw [List.replicate_succ']; exact hown2, hext2⟩
      case measure => simp [intOf]; try omega
    · have hd : decide ((j : Int) < (K : Int) / 32) = false := decide_eq_false (by rw [hq1]; omega)
      have hown1 : Own wr w.heap.size po pc (List.replicate q 0 ++ xs.take 0) := by
        have : j = q := by omega
        subst this; simpa using hown
      obtain rfl : j = q := by omega
      go_wp2_with fail
      go_loopw [6, 8] (RLeft2 w xs j) (fun _ i _ => (xs.length - intOf i).toNat)
      case atStart => exact ⟨0, po, pc, Nat.zero_le _, rfl, rfl, hown1, hext⟩
      case round =>
        obtain ⟨k, po, pc, hk2, rfl, rfl, hown, hext⟩ := hrel
        by_cases hkA : k < xs.length
        · have hx := (ha.ext hext).cell k hkA
          have hix := ixk ha xs.length rfl k hkA wr
          have bx := lim_lt ha.lb k
          go_wp2_with (at_builtin; refine push (wi := w) rfl _ _ rfl _ _ (List.replicate j 0 ++ xs.take k) _ (by simp; omega) rfl hown _ ?_ ?_ rfl ?_ rfl hext ?_; omega; omega; (simp; omega); intro ao' c' w2 hown2 hext2)
          go_roundw
          case rel => exact ⟨k + 1, ao', c', by omega, by go_num, by simp; omega, by rw [← take_snoc hkA, ← List.append_assoc]; exact hown2.snocEq (by omega), hext2⟩
          case measure => simp [intOf]; try omega
        · have hke : xs.take k = xs := List.take_of_length_le (by omega)
          rw [hke] at hown
          have hown3 := hown.rd
          have hlen : (List.replicate j 0 ++ xs).length = j + k := by simp; omega
          have hv0 : Hid (val (List.replicate j 0 ++ xs) = val xs * pw j * 2 ^ 0) := by unfold Hid; rw [val_shift]; simp
          have hL : j + k ≤ j + xs.length := by omega
          have hV : Hid (∀ zs : List Nat, val zs = val xs * pw j * 2 ^ r → val zs = val xs * 2 ^ K) := fun zs h => h.trans hv.out.symm
          have hB : Hid (∀ i, i ≤ 31 → val xs * pw j * 2 ^ i < pw (j + xs.length + 1)) := by
            intro i hi
            rw [pw_succ, Nat.mul_comm 4294967296]
            have h1 := mul_lt_pw (val_lt ha.lb) (show pw j - 1 < pw j by have := pw_pos j; omega)
            have h2 : val xs * pw j < pw (j + xs.length) := by
              rw [pw_add, Nat.mul_comm]; exact Nat.mul_lt_mul_of_pos_left (val_lt ha.lb) (pw_pos j)
            have h3 : 2 ^ i ≤ 4294967296 := by have := Nat.pow_le_pow_right (n := 2) (by omega) (show i ≤ 32 by omega); exact this
            exact Nat.mul_lt_mul_of_lt_of_le h2 h3 (by omega)
          obtain ⟨us, hus⟩ : ∃ us, us = List.replicate j 0 ++ xs := ⟨_, rfl⟩
          rw [← hus] at hown3 hlen hv0
          have Hlen := Lib.hid hlen
          clear hus hlen hke hown hown1 hd hv
          go_wp2_with fail
          go_loopw [6, 9] (RLeft3 w (val xs * pw j) r (j + xs.length)) (fun _ i _ => (r - intOf i).toNat)
          case atStart => exact ⟨0, po, pc, us, Nat.zero_le _, rfl, by rw [Hlen.out], hown3, by rw [Hlen.out]; omega, hext, hv0⟩
          case round =>
            obtain ⟨i, po, pc, zs, hi, rfl, rfl, hr, hzl, hext, hvz⟩ := hrel
            by_cases hir : i < r
            · have hd : decide ((i : Int) < (K : Int) % 32) = true := decide_eq_true (by rw [hr1]; omega)
              go_wp2_with fail
              refine (small_any _ _ _ zs _ 2 _ rfl rfl hr (by omega) (by omega)).mono ?_
              rintro e w3 ⟨so, sc, sz, rfl, p1, p2, p3, p4⟩
              have hv3 : Hid (val sz = val xs * pw j * 2 ^ (i + 1)) := by unfold Hid; rw [p3, hvz.out, Nat.pow_succ, Nat.mul_assoc]
              have ls : sz.length ≤ j + xs.length + 1 := canon_len p2 (by rw [hv3.out]; exact hB.out _ (by omega))
              clear p3
              go_wp2_with fail
              go_roundw
              case rel => exact ⟨i + 1, so, sc, sz, by omega, by go_num, rfl, p1.rd, ls, hext.trans p4, hv3⟩
              case measure => simp [intOf]; try omega
            · have hd : decide ((i : Int) < (K : Int) % 32) = false := decide_eq_false (by rw [hr1]; omega)
              have hfin : Hid (val zs = val xs * 2 ^ K) := hV.out _ (by rw [hvz.out, show i = r by omega])
              clear hvz
              go_wp2_with fail
              refine (RTrim_any _ _ _ zs _ rfl hr (by omega)).mono ?_
              rintro e w3 ⟨so, sc, sz, rfl, p1, p2, p3, p4⟩
              replace p3 := Lib.hid p3
              go_wp2_with fail
              go_ret2
              exact ⟨so, sc, sz, rfl, p1.mono hext.size, p2, p3.out.trans hfin.out, hext.trans p4⟩

set_option maxHeartbeats 1000000 in
theorem RLeft_neg (ao : Option Addr) (n c : Nat) (E : Int) (w : World) (hE : E < 0) :
    Calls Try.prog 39 #[.slice ao n c, .int .i64 E] w (GotE w 0 1) := by
  go_enter Try.func39, Try.ntmps39
  go_wp2_with fail
  go_ret2
  exact ⟨none, 0, [], rfl, Own.nil _ _, canon_nil, rfl, Ext.refl _⟩
set_option maxHeartbeats 1000000 in
theorem RLeft_long (ao : Option Addr) (n c : Nat) (E : Int) (w : World) (hE : 1048576 < E) :
    Calls Try.prog 39 #[.slice ao n c, .int .i64 E] w (GotE w 0 2) := by
  go_enter Try.func39, Try.ntmps39
  go_wp2_with fail
  go_ret2
  exact ⟨none, 0, [], rfl, Own.nil _ _, canon_nil, rfl, Ext.refl _⟩
end Go.Proofs.Ytejgefhmagamiaa
