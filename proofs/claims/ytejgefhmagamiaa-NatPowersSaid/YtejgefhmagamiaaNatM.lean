/-
  Contracts of nat.Bits, nat.Bit; of nat.Left and nat.Right at arguments out of range.
-/
import Derived.Test.YtejgefhmagamiaaRefB
import Derived.Laws.Bits64b
import Derived.IntWalk
namespace Go.Proofs.Ytejgefhmagamiaa
open Go.RowKit

theorem bits_and_k {k : IntKind} (hk : k = .u32 ∨ k = .u64 ∨ k = .i64) (a b : Nat) (ha : a < 2147483648) (hb : b < 2147483648) : bits .and k (a : Int) (b : Int) = ((a &&& b : Nat) : Int) := by
  have hx : a &&& b < 2 ^ 31 := Nat.and_lt_two_pow _ (by omega)
  rcases hk with rfl | rfl | rfl
  · have h1 : (BitVec.ofInt 32 (a : Int)).toNat = a := by rw [BitVec.ofInt_natCast, BitVec.toNat_ofNat]; exact Nat.mod_eq_of_lt (by omega)
    have h2 : (BitVec.ofInt 32 (b : Int)).toNat = b := by rw [BitVec.ofInt_natCast, BitVec.toNat_ofNat]; exact Nat.mod_eq_of_lt (by omega)
    show IntKind.u32.wrap ((BitVec.ofInt 32 (a : Int) &&& BitVec.ofInt 32 (b : Int)).toNat : Int) = _
    rw [BitVec.toNat_and, h1, h2, IntKind.wrap_u32]
    omega
  · exact bits_and_u64_nat a b (by omega) (by omega)
  · have h1 : (BitVec.ofInt 64 (a : Int)).toNat = a := by rw [BitVec.ofInt_natCast, BitVec.toNat_ofNat]; exact Nat.mod_eq_of_lt (by omega)
    have h2 : (BitVec.ofInt 64 (b : Int)).toNat = b := by rw [BitVec.ofInt_natCast, BitVec.toNat_ofNat]; exact Nat.mod_eq_of_lt (by omega)
    show IntKind.i64.wrap ((BitVec.ofInt 64 (a : Int) &&& BitVec.ofInt 64 (b : Int)).toNat : Int) = _
    rw [BitVec.toNat_and, h1, h2]
    exact IntWalk.i64_in _ (by omega)
theorem and_u32_one (x : Nat) (hx : x < 4294967296) : bits .and .u32 (x : Int) 1 = ((x % 2 : Nat) : Int) := by
  have h1 : (BitVec.ofInt 32 (x : Int)).toNat = x := by rw [BitVec.ofInt_natCast, BitVec.toNat_ofNat]; exact Nat.mod_eq_of_lt (by omega)
  show IntKind.u32.wrap ((BitVec.ofInt 32 (x : Int) &&& BitVec.ofInt 32 1).toNat : Int) = _
  rw [BitVec.toNat_and, h1, show (BitVec.ofInt 32 1).toNat = 1 from rfl, Nat.and_one_is_mod, IntKind.wrap_u32]
  omega
theorem and_i64_mask (x m k : Nat) (hx : x < 2147483648) (hk : k ≤ 31) (hm : m = 2 ^ k - 1) : bits .and .i64 (x : Int) (m : Int) = ((x % 2 ^ k : Nat) : Int) := by
  have hp : 2 ^ k ≤ 2 ^ 31 := Nat.pow_le_pow_right (by omega) hk
  have := Nat.two_pow_pos k
  rw [bits_and_k (by simp) x m hx (by omega), hm, Nat.and_two_pow_sub_one_eq_mod]

set_option maxHeartbeats 1000000 in
theorem Bits_any (ao : Option Addr) (n c : Nat) (xs : List Nat) (w : World) (hn : n = xs.length) (ha : Rd w ao c xs) (hl : xs.length ≤ 1000000) :
    Calls Try.prog 42 #[.slice ao n c] w fun e w' => e = .returned (.int .i64 (nb (val xs))) ∧ w = w' := by
  subst hn
  have hA := ha.trm
  have lA := trm_le xs
  have mA := hA.mx
  have cA := hA.cap
  have kA := canon_trm ha.lb
  rw [← val_trm xs]
  rcases Nat.eq_zero_or_pos (trm xs).length with h0 | hp
  · have e0 : trm xs = [] := List.length_eq_zero_iff.1 h0
    have hr : Hid (nb (val (trm xs)) = 0) := by unfold Hid; rw [e0]; rfl
    have hd : (((trm xs).length : Int) == 0) = true := by rw [h0]; rfl
    clear e0 h0
    go_enter Try.func42, Try.ntmps42
    go_wp2_with fail
    refine (trim_any ao _ c xs w rfl ha).mono ?_
    rintro e w' ⟨rfl, rfl⟩
    go_wp2_with fail
    go_ret
    exact ⟨by rw [hr.out]; rfl, rfl⟩
  · have hb := Lib.hid (nb_canon kA hp)
    have hd : (((trm xs).length : Int) == 0) = false := beq_eq_false_iff_ne.2 (by omega)
    have hx := hA.cell ((trm xs).length - 1) (by omega)
    have hix := ixe hA (trm xs).length rfl (((trm xs).length : Int) - 1) ((trm xs).length - 1) (by omega) (by omega) w
    have bx := lim_lt hA.lb ((trm xs).length - 1)
    obtain ⟨top, htop⟩ : ∃ top, top = lim (trm xs) ((trm xs).length - 1) := ⟨_, rfl⟩
    rw [← htop] at hx bx hb
    clear htop
    have bn := nb_le (v := top) (k := 32) bx
    have eb := Lib.hid (bl_nb bx)
    go_enter Try.func42, Try.ntmps42
    go_wp2_with fail
    refine (trim_any ao _ c xs w rfl ha).mono ?_
    rintro e w' ⟨rfl, rfl⟩
    go_wp2_with fail
    refine (Len32_any top bx w).mono ?_
    rintro e w' ⟨rfl, rfl⟩
    rw [eb.out]
    go_wp2_with fail
    go_ret
    refine ⟨?_, rfl⟩
    rw [hb.out]
    have e1 : 32 * (((trm xs).length : Int) - 1) + (nb top : Int) = ((32 * ((trm xs).length - 1) + nb top : Nat) : Int) := by omega
    exact congrArg (fun k : Int => Ending.returned (.int .i64 k)) e1

set_option maxHeartbeats 1000000 in
theorem Bit_any (ao : Option Addr) (n c : Nat) (xs : List Nat) (E : Int) (i : Nat) (w : World) (hn : n = xs.length) (hE : E = (i : Int)) (hi : i < 9223372036854775808) (ha : Rd w ao c xs) (_hl : xs.length ≤ 1000000) :
    Calls Try.prog 44 #[.slice ao n c, .int .i64 E] w fun e w' => e = .returned (.bool (tb (val xs) i)) ∧ w = w' := by
  subst hn hE
  by_cases hlt : i < 32 * xs.length
  · have hb := Lib.hid (bit_lim ha.lb i)
    have hd : decide ((xs.length : Int) ≤ (i : Int) / 32) = false := decide_eq_false (by omega)
    have hx := ha.cell (i / 32) (by omega)
    have hix := ixe ha xs.length rfl ((i : Int) / 32) (i / 32) (by omega) (by omega) w
    have bx := lim_lt ha.lb (i / 32)
    obtain ⟨top, htop⟩ : ∃ top, top = lim xs (i / 32) := ⟨_, rfl⟩
    rw [← htop] at hx bx hb
    clear htop
    go_enter Try.func44, Try.ntmps44
    go_wp2_with fail
    go_ret
    refine ⟨?_, rfl⟩
    have hdv : top / 2 ^ (i % 32) < 4294967296 := Nat.lt_of_le_of_lt (Nat.div_le_self _ _) bx
    have e1 : (top : Int) / 2 ^ (i % 32) = ((top / 2 ^ (i % 32) : Nat) : Int) := by rw [Int.natCast_ediv, Int.natCast_pow]; rfl
    have e2 : (bits BinOp.and IntKind.u32 ((top : Int) / 2 ^ (i % 32)) 1 == 1) = tb (val xs) i := by
      rw [e1, and_u32_one _ hdv]
      unfold tb
      rw [hb.out, Bool.eq_iff_iff]
      simp
      omega
    exact congrArg (fun b : Bool => Ending.returned (.bool b)) e2
  · have hres := Lib.hid (tb_ge ha.lb (Nat.le_of_not_lt hlt))
    have hd : decide ((xs.length : Int) ≤ (i : Int) / 32) = true := decide_eq_true (by omega)
    go_enter Try.func44, Try.ntmps44
    go_wp2_with fail
    go_ret
    exact ⟨by rw [hres.out]; rfl, rfl⟩
set_option maxHeartbeats 1000000 in
theorem Bit_neg (ao : Option Addr) (n c : Nat) (E : Int) (w : World) (hE : E < 0) :
    Calls Try.prog 44 #[.slice ao n c, .int .i64 E] w fun e w' => e = .returned (.bool false) ∧ w = w' := by
  go_enter Try.func44, Try.ntmps44
  go_wp2_with fail
  go_ret
  exact ⟨rfl, rfl⟩
set_option maxHeartbeats 1000000 in
theorem Left_neg (ao : Option Addr) (n c : Nat) (E : Int) (w : World) (hE : E < 0) :
    Calls Try.prog 38 #[.slice ao n c, .int .i64 E] w (GotE w 0 1) := by
  go_enter Try.func38, Try.ntmps38
  go_wp2_with fail
  go_ret2
  exact ⟨none, 0, [], rfl, Own.nil _ _, canon_nil, rfl, Ext.refl _⟩
set_option maxHeartbeats 1000000 in
theorem Left_long (ao : Option Addr) (n c : Nat) (E : Int) (w : World) (hE : 1048576 < E) :
    Calls Try.prog 38 #[.slice ao n c, .int .i64 E] w (GotE w 0 2) := by
  go_enter Try.func38, Try.ntmps38
  go_wp2_with fail
  go_ret2
  exact ⟨none, 0, [], rfl, Own.nil _ _, canon_nil, rfl, Ext.refl _⟩
end Go.Proofs.Ytejgefhmagamiaa
