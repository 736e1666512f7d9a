/-
  Contracts of the reference's Right and Pow.
-/
import Derived.Test.YtejgefhmagamiaaRefC
namespace Go.Proofs.Ytejgefhmagamiaa
open Go.RowKit

def RRight1 (w : World) (xs : List Nat) (q : Nat) (out i : Value) (wr : World) : Prop :=
  ∃ (j : Nat) (po : Option Addr) (pc : Nat), q ≤ j ∧ j ≤ xs.length ∧ i = .int .i64 j ∧ out = .slice po (j - q) pc ∧ Own wr w.heap.size po pc ((xs.drop q).take (j - q)) ∧ Ext w wr
def RRight2 (w : World) (v r L : Nat) (out k : Value) (wr : World) : Prop :=
  ∃ (j : Nat) (po : Option Addr) (pc : Nat) (zs : List Nat), j ≤ r ∧ k = .int .i64 j ∧ out = .slice po zs.length pc ∧ Own wr w.heap.size po pc zs ∧ zs.length ≤ L ∧ Ext w wr ∧ Hid (val zs = v / 2 ^ j)
def RRight3 (w : World) (zs : List Nat) (nx i : Value) (wr : World) : Prop :=
  ∃ (po : Option Addr) (pc : Nat) (us : List Nat), us.length ≤ zs.length ∧ i = .int .i64 us.length ∧ nx = .slice po us.length pc ∧ Own wr w.heap.size po pc us ∧ Ext w wr ∧ Hid (2 * val us + lim zs 0 % 2 = vk zs us.length + pw us.length * (lim zs us.length % 2))

theorem half_step {zs us : List Nat} {y : Nat} (h : 2 * val us + lim zs 0 % 2 = vk zs us.length + pw us.length * (lim zs us.length % 2)) (hy : y = lim zs us.length / 2 + lim zs (us.length + 1) % 2 * 2147483648) :
    2 * val (us ++ [y]) + lim zs 0 % 2 = vk zs (us ++ [y]).length + pw (us ++ [y]).length * (lim zs (us ++ [y]).length % 2) := by
  simp only [List.length_append, List.length_cons, List.length_nil, Nat.zero_add]
  rw [val_snoc, vk_succ, pw_succ, hy]
  have e1 : pw us.length * lim zs us.length = 2 * (pw us.length * (lim zs us.length / 2)) + pw us.length * (lim zs us.length % 2) := by
    rw [Nat.mul_left_comm, ← Nat.mul_add, Nat.div_add_mod]
  have e2 : 4294967296 * pw us.length * (lim zs (us.length + 1) % 2) = 2 * (pw us.length * (lim zs (us.length + 1) % 2 * 2147483648)) := by
    rw [Nat.mul_comm 4294967296, Nat.mul_assoc, Nat.mul_left_comm 2, Nat.mul_comm 4294967296]
    congr 1
    omega
  rw [Nat.mul_add (pw us.length)]
  omega
theorem half_end {zs us : List Nat} (h : 2 * val us + lim zs 0 % 2 = vk zs us.length + pw us.length * (lim zs us.length % 2)) (hl : zs.length ≤ us.length) : val us = val zs / 2 := by
  rw [vk_full hl, lim_of_le hl] at h
  omega
theorem half_nat (x y : Nat) (h : y = x / 2 + 2147483648) : ((x : Int) / 2 + 2147483648).toNat = y := by omega
theorem lim_half {a b : Nat} (ha : a < 4294967296) : a / 2 + b % 2 * 2147483648 < 4294967296 := by omega

set_option maxHeartbeats 2000000 in
theorem RRight_pos (ao : Option Addr) (n c : Nat) (xs : List Nat) (E : Int) (K : Nat) (w : World) (hn : n = xs.length) (hE : E = (K : Int)) (ha : Rd w ao c xs) (hl : xs.length ≤ 100000) (hk : K < 32 * xs.length) :
    Calls Try.prog 41 #[.slice ao n c, .int .i64 E] w (GotN w (val xs / 2 ^ K)) := by
  subst hn hE
  obtain ⟨q, hq⟩ : ∃ q, q = K / 32 := ⟨_, rfl⟩
  obtain ⟨r, hr⟩ : ∃ r, r = K % 32 := ⟨_, rfl⟩
  have hq1 : (K : Int) / 32 = (q : Int) := by omega
  have hr1 : (K : Int) % 32 = (r : Int) := by omega
  have hqb : q ≤ xs.length := by omega
  have hrb : r < 32 := by omega
  have hv := Lib.hid (right_val ha.lb hq hr)
  have mA := ha.mx
  have cA := ha.cap
  have hK0 : ¬ (K : Int) < 0 := by omega
  have hK1 : decide (32 * (xs.length : Int) ≤ (K : Int)) = false := decide_eq_false (by omega)
  have Hq1 := Lib.hid hq1
  have Hr1 := Lib.hid hr1
  clear hq hr hq1 hr1
  go_enter Try.func41, Try.ntmps41
  go_wp2_with fail
  go_loopw [5, 6] (RRight1 w xs q) (fun _ i _ => (xs.length - intOf i).toNat)
  case atStart => exact ⟨q, _, 0, Nat.le_refl _, hqb, by rw [Hq1.out], by rw [Nat.sub_self], by simpa using own_empty w, (Ext.refl w).alloc _⟩
  case round =>
    obtain ⟨j, po, pc, hqj, hj, rfl, rfl, hown, hext⟩ := hrel
    by_cases hkA : j < xs.length
    · have hx := (ha.ext hext).cell j hkA
      have hix := ixk ha xs.length rfl j hkA wr
      have bx := lim_lt ha.lb j
      have hsn : Hid ((xs.drop q).take (j - q) ++ [lim xs j] = (xs.drop q).take (j + 1 - q)) := by
        unfold Hid
        have := take_snoc (zs := xs.drop q) (k := j - q) (by rw [List.length_drop]; omega)
        rw [lim_drop, show q + (j - q) = j by omega, show j - q + 1 = j + 1 - q by omega] at this
        exact this
      have hln : j - q = ((xs.drop q).take (j - q)).length := by simp; omega
      obtain ⟨us, hus⟩ : ∃ us, us = (xs.drop q).take (j - q) := ⟨_, rfl⟩
      rw [← hus] at hown hsn hln
      clear hus
      have hl2 : us.length ≤ 100000 := by omega
      have hl3 : j + 1 - q = us.length + 1 := by omega
      have Hln := Lib.hid hln
      have Hl3 := Lib.hid hl3
      clear hln hl3
      go_wp2_with (at_builtin; refine push (wi := w) rfl _ _ rfl _ _ us _ Hln.out rfl hown _ ?_ ?_ rfl ?_ rfl hext ?_; omega; omega; omega; intro ao' c' w2 hown2 hext2)
      go_roundw
      case rel => exact ⟨j + 1, ao', c', by omega, by omega, by go_num, by rw [Hl3.out], by rw [← hsn.out]; exact hown2.snocEq (by omega), hext2⟩
      case measure => simp [intOf]; try omega
    · obtain rfl : j = xs.length := by omega
      have hke : (xs.drop q).take (xs.length - q) = xs.drop q := List.take_of_length_le (by simp)
      rw [hke] at hown
      have hlen : xs.length - q = (xs.drop q).length := by simp
      have hv0 : Hid (val (xs.drop q) = val (xs.drop q) / 2 ^ 0) := by simp [Hid]
      have hlz : (xs.drop q).length ≤ xs.length := by simp
      obtain ⟨us, hus⟩ : ∃ us, us = xs.drop q := ⟨_, rfl⟩
      rw [← hus] at hown hlen hv0 hv hlz
      have Hlen := Lib.hid hlen
      clear hus hke hlen
      go_wp2_with fail
      go_loopw [5, 7] (RRight2 w (val us) r xs.length) (fun _ k _ => (r - intOf k).toNat)
      case atStart => exact ⟨0, po, pc, us, Nat.zero_le _, rfl, by rw [Hlen.out], hown, hlz, hext, hv0⟩
      case round =>
        obtain ⟨k, po, pc, zs, hk2, rfl, rfl, hown, hzl, hext, hvz⟩ := hrel
        by_cases hkr : k < r
        · have hd : decide ((k : Int) < (K : Int) % 32) = true := decide_eq_true (by rw [Hr1.out]; omega)
          go_wp2_with fail
          go_loopw [8, 9] (RRight3 wr zs) (fun _ i _ => (zs.length - intOf i).toNat)
          case atStart => exact ⟨_, 0, [], Nat.zero_le _, rfl, rfl, own_empty _, (Ext.refl _).alloc _, by unfold Hid; simp [vk_zero, val, pw]⟩
          case round =>
            obtain ⟨qo, qc, ts, hts, rfl, rfl, ho2, hext2, hh⟩ := hrel
            by_cases hlt : ts.length < zs.length
            · have hx := (hown.rd.ext hext2).cell ts.length hlt
              have hix := ixk hown.rd zs.length rfl ts.length hlt
              have bx := lim_lt hown.lb ts.length
              have bx2 := lim_lt hown.lb (ts.length + 1)
              have hst := Lib.hid (half_step (y := lim zs ts.length / 2 + lim zs (ts.length + 1) % 2 * 2147483648) hh.out rfl)
              clear hh
              rcases Nat.mod_two_eq_zero_or_one (lim zs (ts.length + 1)) with hm | hm
              · have hm1 : (((lim zs (ts.length + 1) : Nat) : Int) % 2 == 1) = false := beq_eq_false_iff_ne.2 (by omega)
                rw [hm, Nat.zero_mul, Nat.add_zero] at hst
                clear hm
                go_wp2_with fail
                refine (At_any _ _ _ zs _ _ (ts.length + 1) (by omega) rfl (hown.rd.ext hext2)).mono ?_
                rintro e w' ⟨rfl, rfl⟩
                go_wp2_with (at_builtin; refine push rfl _ _ rfl _ _ ts _ rfl rfl ho2 _ ?_ ?_ rfl ?_ rfl hext2 ?_; omega; omega; omega; intro ao' c' w2 hown2 hext3)
                go_roundw
                case rel => exact ⟨ao', c', ts ++ [lim zs ts.length / 2], by simp; omega, by simp, by simp, hown2.snocEq (by omega), hext3, hst⟩
                case measure => simp [intOf]; try omega
              · have hm1 : (((lim zs (ts.length + 1) : Nat) : Int) % 2 == 1) = true := beq_iff_eq.2 (by omega)
                rw [hm, Nat.one_mul] at hst
                clear hm
                obtain ⟨y, hy⟩ : ∃ y, y = lim zs ts.length / 2 + 2147483648 := ⟨_, rfl⟩
                rw [← hy] at hst
                have Hy := Lib.hid hy
                clear hy
                go_wp2_with fail
                refine (At_any _ _ _ zs _ _ (ts.length + 1) (by omega) rfl (hown.rd.ext hext2)).mono ?_
                rintro e w' ⟨rfl, rfl⟩
                go_wp2_with (at_builtin; refine push rfl _ _ rfl _ _ ts _ rfl rfl ho2 _ ?_ ?_ rfl ?_ rfl hext2 ?_; omega; omega; omega; intro ao' c' w2 hown2 hext3)
                go_roundw
                case rel => exact ⟨ao', c', ts ++ [y], by simp; omega, by simp, by simp, hown2.snocEq (half_nat _ _ Hy.out), hext3, hst⟩
                case measure => simp [intOf]; try omega
            · have hv2 : Hid (val ts = val us / 2 ^ (k + 1)) := by
                unfold Hid
                rw [half_end hh.out (by omega), hvz.out, Nat.pow_succ, Nat.div_div_eq_div_mul]
              clear hh
              go_wp2_with fail
              go_roundw
              case rel => exact ⟨k + 1, qo, qc, ts, by omega, by go_num, rfl, ho2.mono hext.size, by omega, hext.trans hext2, hv2⟩
              case measure => simp [intOf]; try omega
        · have hd : decide ((k : Int) < (K : Int) % 32) = false := decide_eq_false (by rw [Hr1.out]; omega)
          have hfin : Hid (val zs = val xs / 2 ^ K) := by unfold Hid; rw [hvz.out, hv.out, show k = r by omega]
          clear hvz
          go_wp2_with fail
          refine (RTrim_any _ _ _ zs _ rfl hown.rd (by omega)).mono ?_
          rintro e w3 ⟨so, sc, sz, rfl, p1, p2, p3, p4⟩
          replace p3 := Lib.hid p3
          go_wp2_with fail
          go_ret
          exact ⟨so, sc, sz, rfl, p1.mono hext.size, p2, p3.out.trans hfin.out, hext.trans p4⟩

set_option maxHeartbeats 1000000 in
theorem RRight_big (ao : Option Addr) (n c : Nat) (xs : List Nat) (E : Int) (K : Nat) (w : World) (hn : n = xs.length) (hE : E = (K : Int)) (ha : Rd w ao c xs) (_hl : xs.length ≤ 100000) (hk : 32 * xs.length ≤ K) :
    Calls Try.prog 41 #[.slice ao n c, .int .i64 E] w (GotN w (val xs / 2 ^ K)) := by
  subst hn hE
  have hv : Hid (val xs / 2 ^ K = 0) := Nat.div_eq_of_lt (Nat.lt_of_lt_of_le (by have := val_lt ha.lb; rwa [pw_two] at this) (Nat.pow_le_pow_right (by omega) hk))
  have hK0 : ¬ (K : Int) < 0 := by omega
  have hK1 : decide (32 * (xs.length : Int) ≤ (K : Int)) = true := decide_eq_true (by omega)
  go_enter Try.func41, Try.ntmps41
  go_wp2_with fail
  go_ret
  exact ⟨_, 0, [], rfl, own_empty w, canon_nil, hv.out.symm, (Ext.refl w).alloc _⟩

set_option maxHeartbeats 2000000 in
theorem RRight_neg (ao : Option Addr) (n c : Nat) (xs : List Nat) (E : Int) (w : World) (hn : n = xs.length) (hE : E < 0) (ha : Rd w ao c xs) (hl : xs.length ≤ 100000) :
    Calls Try.prog 41 #[.slice ao n c, .int .i64 E] w (GotN w (val xs)) := by
  subst hn
  rcases Nat.eq_zero_or_pos xs.length with h0 | hp
  · have e0 : xs = [] := List.length_eq_zero_iff.1 h0
    subst e0
    clear h0
    go_enter Try.func41, Try.ntmps41
    go_wp2_with fail
    go_ret
    exact ⟨_, 0, [], rfl, own_empty w, canon_nil, rfl, (Ext.refl w).alloc _⟩
  · have mA := ha.mx
    have cA := ha.cap
    have hK1 : decide (32 * (xs.length : Int) ≤ 0) = false := decide_eq_false (by omega)
    have hd0 : decide (xs.length ≤ 0) = false := decide_eq_false (by omega)
    have hd1 : ¬ xs.length = 0 := by omega
    go_enter Try.func41, Try.ntmps41
    go_wp2_with fail
    go_loopw [5, 6] (CopyR w xs) (fun _ i _ => (xs.length - intOf i).toNat)
    case atStart => exact ⟨0, _, 0, Nat.zero_le _, rfl, rfl, own_empty w, (Ext.refl w).alloc _⟩
    case round =>
      obtain ⟨k, po, pc, hk, rfl, rfl, hown, hext⟩ := hrel
      by_cases hkA : k < xs.length
      · have hx := (ha.ext hext).cell k hkA
        have hix := ixk ha xs.length rfl k hkA wr
        have bx := lim_lt ha.lb k
        go_wp2_with (at_builtin; refine push (wi := w) rfl _ _ rfl _ _ (xs.take k) _ (by simp; omega) rfl hown _ ?_ ?_ rfl ?_ rfl hext ?_; omega; omega; (simp; omega); intro ao' c' w2 hown2 hext2)
        go_roundw
        case rel => exact ⟨k + 1, ao', c', by omega, by go_num, by simp; try omega, by rw [← take_snoc hkA]; exact hown2.snocEq (by omega), hext2⟩
        case measure => simp [intOf]; try omega
      · have hke : xs.take k = xs := List.take_of_length_le (by omega)
        rw [hke] at hown
        obtain rfl : k = xs.length := by omega
        clear hke
        go_wp2_with fail
        go_loopw [5, 7] (fun out k wr2 => out = .slice po xs.length pc ∧ k = .int .i64 0 ∧ Own wr2 w.heap.size po pc xs ∧ Ext w wr2) (fun _ _ _ => 0)
        case atStart => exact ⟨rfl, rfl, hown, hext⟩
        case round =>
          obtain ⟨rfl, rfl, hown, hext⟩ := hrel
          go_wp2_with fail
          refine (RTrim_any _ _ _ xs _ rfl hown.rd (by omega)).mono ?_
          rintro e w3 ⟨so, sc, sz, rfl, p1, p2, p3, p4⟩
          replace p3 := Lib.hid p3
          go_wp2_with fail
          go_ret
          exact ⟨so, sc, sz, rfl, p1.mono hext.size, p2, p3.out, hext.trans p4⟩

/-- the powers, as they are answered: the error's number and the value -/
def powN (v : Nat) (n : Int) : Int × Nat :=
  if n < 0 then (1, 0) else if 0 < nb v ∧ 1048576 / (nb v : Int) < n then (2, 0) else (0, v ^ n.toNat)

theorem pow_le_pw {m k : Nat} (h : m ≤ 32 * k) : 2 ^ m ≤ pw k := by rw [pw_two]; exact Nat.pow_le_pow_right (by omega) h
theorem pow_fits {v n : Nat} (h : nb v * n ≤ 1048576) : v ^ n < pw 32769 := by
  have h1 : v ^ n ≤ (2 ^ nb v) ^ n := Nat.pow_le_pow_left (Nat.le_of_lt (nb_lt v)) n
  rw [← Nat.pow_mul] at h1
  have h2 : 2 ^ (nb v * n) ≤ pw 32768 := pow_le_pw h
  have h4 : pw 32769 = 4294967296 * pw 32768 := pw_succ 32768
  have h5 := pw_pos 32768
  rw [h4]
  omega
theorem pow_le_of {v i n : Nat} (hv : v ≠ 0) (h : i ≤ n) : v ^ i ≤ v ^ n := Nat.pow_le_pow_right (Nat.pos_of_ne_zero hv) h

def RPowR (w : World) (v n : Nat) (out i : Value) (wr : World) : Prop :=
  ∃ (j : Nat) (po : Option Addr) (pc : Nat) (zs : List Nat), j ≤ n ∧ i = .int .i64 j ∧ out = .slice po zs.length pc ∧ Rd wr po pc zs ∧ zs.length ≤ 32769 ∧ Ext w wr ∧ Hid (val zs = v ^ j)

set_option maxHeartbeats 2000000 in
theorem RPow_any (ao : Option Addr) (n c : Nat) (xs : List Nat) (E : Int) (w : World) (hn : n = xs.length) (ha : Rd w ao c xs) (hl : xs.length ≤ 100000) :
    Calls Try.prog 47 #[.slice ao n c, .int .i64 E] w (GotE w (powN (val xs) E).2 (powN (val xs) E).1) := by
  subst hn
  by_cases h1 : E < 0
  · have hr : powN (val xs) E = (1, 0) := by unfold powN; rw [if_pos h1]
    rw [hr]
    clear hr
    go_enter Try.func47, Try.ntmps47
    go_wp2_with fail
    go_ret2
    exact ⟨none, 0, [], rfl, Own.nil _ _, canon_nil, rfl, Ext.refl _⟩
  · obtain ⟨K, rfl⟩ := Int.eq_ofNat_of_zero_le (show 0 ≤ E by omega)
    have hnb := nb_le_len ha.lb (Nat.le_refl xs.length)
    have hnz := nb_pos_iff (val xs)
    have hK0 : ¬ (K : Int) < 0 := by omega
    by_cases hz : val xs = 0
    · have e0 : nb (val xs) = 0 := by rw [hz]; rfl
      have hr : powN (val xs) K = (0, 0 ^ K) := by
        unfold powN
        rw [if_neg h1, e0, if_neg (by simp), hz, Int.toNat_natCast]
      rw [hr]
      have E0 := Lib.hid e0
      clear hr hz hnb hnz e0
      rcases K with _ | K
      · go_enter Try.func47, Try.ntmps47
        go_wp2_with fail
        refine (RBits_any _ _ _ xs _ rfl ha (by omega)).mono ?_
        rintro e w2 ⟨rfl, x⟩
        rw [E0.out]
        go_wp2_with fail
        go_ret2
        exact ⟨_, 1, [1], rfl, (row1 _ 1 1 rfl (by omega)).mono x.size, canon_lit (by decide), rfl, x.alloc _⟩
      · have hd : decide (0 < (((K + 1 : Nat)) : Int)) = true := decide_eq_true (by omega)
        go_enter Try.func47, Try.ntmps47
        go_wp2_with fail
        refine (RBits_any _ _ _ xs _ rfl ha (by omega)).mono ?_
        rintro e w2 ⟨rfl, x⟩
        rw [E0.out]
        go_wp2_with fail
        go_ret2
        exact ⟨_, 0, [], rfl, (own_empty _).mono x.size, canon_nil, by rw [Nat.pow_succ, Nat.mul_zero]; rfl, x.alloc _⟩
    · have hp : 0 < nb (val xs) := hnz.2 hz
      have Hz := Lib.hid hz
      clear hnz hz
      obtain ⟨b, hb⟩ : ∃ b, b = nb (val xs) := ⟨_, rfl⟩
      have hb0 : 0 < b := by omega
      have hd1 : decide (0 < b) = true := decide_eq_true hb0
      have hd2 : ((b : Int) == 0) = false := beq_eq_false_iff_ne.2 (by omega)
      by_cases hbig : 1048576 / (b : Int) < (K : Int)
      · have hr : powN (val xs) K = (2, 0) := by
          unfold powN
          rw [if_neg h1, if_pos ⟨hp, by rw [← hb]; exact hbig⟩]
        rw [hr]
        have Hb := Lib.hid hb
        have hd3 : decide (1048576 / (b : Int) < (K : Int)) = true := decide_eq_true hbig
        clear hr hb
        go_enter Try.func47, Try.ntmps47
        go_wp2_with fail
        refine (RBits_any _ _ _ xs _ rfl ha (by omega)).mono ?_
        rintro e w2 ⟨rfl, x⟩
        rw [← Hb.out]
        go_wp2_with fail
        go_ret2
        exact ⟨none, 0, [], rfl, Own.nil _ _, canon_nil, rfl, x⟩
      · have hr : powN (val xs) K = (0, val xs ^ K) := by
          unfold powN
          rw [if_neg h1, if_neg (fun h => hbig (by rw [hb]; exact h.2)), Int.toNat_natCast]
        rw [hr]
        have hfit : Hid (∀ i, i ≤ K → val xs ^ i < pw 32769) := by
          intro i hi
          refine Nat.lt_of_le_of_lt (pow_le_of Hz.out hi) (pow_fits (v := val xs) ?_)
          rw [← hb]
          have h2 : (K : Int) ≤ 1048576 / (b : Int) := by omega
          have h3 : K ≤ 1048576 / b := by
            have : ((1048576 / b : Nat) : Int) = 1048576 / (b : Int) := by rw [Int.natCast_ediv]; rfl
            omega
          have h4 : b * K ≤ b * (1048576 / b) := Nat.mul_le_mul_left _ h3
          have h5 := Nat.mul_div_le 1048576 b
          omega
        have hKb : K ≤ 1048576 := by
          have h2 : (K : Int) ≤ 1048576 / (b : Int) := by omega
          have h3 : 1048576 / (b : Int) ≤ 1048576 := Int.ediv_le_self _ (by omega)
          omega
        have Hb := Lib.hid hb
        have hd3 : decide (1048576 / (b : Int) < (K : Int)) = false := decide_eq_false hbig
        clear hr hb
        go_enter Try.func47, Try.ntmps47
        go_wp2_with fail
        refine (RBits_any _ _ _ xs _ rfl ha (by omega)).mono ?_
        rintro e w2 ⟨rfl, x⟩
        rw [← Hb.out]
        go_wp2_with fail
        go_loopw [7, 8] (RPowR w (val xs) K) (fun _ i _ => (K - intOf i).toNat)
        case atStart => exact ⟨0, _, 1, [1], Nat.zero_le _, rfl, rfl, (row1 _ 1 1 rfl (by omega)).rd, by simp, x.alloc _, by unfold Hid; rw [Nat.pow_zero]; rfl⟩
        case round =>
          obtain ⟨i, po, pc, zs, hi, rfl, rfl, hr, hzl, hext, hvz⟩ := hrel
          by_cases hiK : i < K
          · have hfi := Lib.hid (hfit.out (i + 1) (by omega))
            go_wp2_with fail
            refine (RMul_any _ _ _ zs _ _ _ xs _ rfl rfl hr (ha.ext hext) (by omega) (by omega)).mono ?_
            rintro e w3 ⟨so, sc, sz, rfl, p1, p2, p3, p4⟩
            have hv3 : Hid (val sz = val xs ^ (i + 1)) := by unfold Hid; rw [p3, hvz.out, Nat.pow_succ]
            have ls : sz.length ≤ 32769 := canon_len p2 (by rw [hv3.out]; exact hfi.out)
            clear p3
            go_wp2_with fail
            go_roundw
            case rel => exact ⟨i + 1, so, sc, sz, by omega, by go_num, rfl, p1.rd, ls, hext.trans p4, hv3⟩
            case measure => simp [intOf]; try omega
          · have hfin : Hid (val zs = val xs ^ K) := by unfold Hid; rw [hvz.out, show i = K by omega]
            clear hvz
            go_wp2_with fail
            refine (RTrim_any _ _ _ zs _ rfl hr (by omega)).mono ?_
            rintro e w3 ⟨so, sc, sz, rfl, p1, p2, p3, p4⟩
            replace p3 := Lib.hid p3
            go_wp2_with fail
            go_ret2
            exact ⟨so, sc, sz, rfl, p1.mono hext.size, p2, p3.out.trans hfin.out, hext.trans p4⟩
end Go.Proofs.Ytejgefhmagamiaa
