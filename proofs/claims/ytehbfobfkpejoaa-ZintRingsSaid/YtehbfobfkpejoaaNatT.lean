/-
  Contracts of nat.digit, nat.grow, nat.Parse.
-/
import Derived.Test.YtehbfobfkpejoaaRefA
import Derived.Test.YtehbfobfkpejoaaDec
namespace Go.Proofs.Ytehbfobfkpejoaa
open Go.RowKit

/-- 's[i]' of a string -/
theorem chk (s : ByteArray) (i : Nat) (h : i < s.size) (w : World) : (Instr.index 9 (.string s) (.int .i64 (i : Int))).run Try.prog w = .ok (.int .u8 (ch s i)) w := by
  have h1 : s[i]? = some s[i] := by simp [h]
  have h2 : ch s i = s[i].toNat := by
    unfold ch
    have : s.data.toList[i]? = some s[i] := by
      rw [Array.getElem?_toList]; exact Array.getElem?_eq_getElem (show i < s.data.size from h)
    rw [List.getD_eq_getElem?_getD, List.getElem?_map, this]; rfl
  simp [Instr.index, asIntOf, run_underlying Try.underlying9, h1, h2, go_sem]

set_option maxRecDepth 100000 in
set_option maxHeartbeats 400000 in
theorem digit_yes (c : Nat) (h1 : 48 ≤ c) (h2 : c ≤ 57) (w : World) :
    Calls Try.prog 86 #[.int .u8 c] w fun e w' => e = .returned (.tuple #[.int .u32 ((c - 48 : Nat) : Int), .bool true]) ∧ w = w' := by
  have e : ((c - 48 : Nat) : Int) = (c : Int) - 48 := by omega
  rw [e]
  clear e
  have hd : decide ((c : Int) ≤ 57) = true := decide_eq_true (by omega)
  go_enter Try.func86, Try.ntmps86
  go_wp2_with fail
  go_ret2
  exact ⟨rfl, rfl⟩
def DigNo (w : World) (e : Ending) (w' : World) : Prop := ∃ d : Int, e = .returned (.tuple #[.int .u32 d, .bool false]) ∧ w = w'
set_option maxRecDepth 100000 in
set_option maxHeartbeats 400000 in
theorem digit_no (c : Nat) (h : c < 48 ∨ 57 < c) (hc : c < 256) (w : World) :
    Calls Try.prog 86 #[.int .u8 c] w (DigNo w) := by
  rcases h with h | h
  · go_enter Try.func86, Try.ntmps86
    go_wp2_with fail
    go_ret2
    exact ⟨_, rfl, rfl⟩
  · have hd : decide ((c : Int) ≤ 57) = false := decide_eq_false (by omega)
    go_enter Try.func86, Try.ntmps86
    go_wp2_with fail
    go_ret2
    exact ⟨_, rfl, rfl⟩

def GrowR (w : World) (xs : List Nat) (t m : Nat) (out cr i : Value) (wr : World) : Prop :=
  ∃ (carry : Nat) (po : Option Addr) (pc : Nat) (zs : List Nat), i = .int .i64 zs.length ∧ out = .slice po zs.length pc ∧ cr = .int .u64 carry ∧ carry < 4294967296 ∧ zs.length ≤ xs.length ∧ Own wr w.heap.size po pc zs ∧ Ext w wr ∧
    Hid (val zs + pw zs.length * carry = vk xs zs.length * t + m)

theorem grow_step {zs xs : List Nat} {t m carry s : Nat} (h : val zs + pw zs.length * carry = vk xs zs.length * t + m) (hs : s = lim xs zs.length * t + carry) :
    Hid (val (zs ++ [s % 4294967296]) + pw (zs ++ [s % 4294967296]).length * (s / 4294967296) = vk xs (zs ++ [s % 4294967296]).length * t + m) := by
  unfold Hid
  simp only [List.length_append, List.length_cons, List.length_nil, Nat.zero_add]
  rw [val_snoc, vk_succ, pw_succ]
  have h1 := carry_step (pw zs.length) s
  rw [hs] at h1 ⊢
  rw [Nat.mul_add, ← Nat.mul_assoc] at h1
  rw [Nat.add_mul]
  omega

set_option maxRecDepth 100000 in
set_option maxHeartbeats 1000000 in
theorem grow_any (ao : Option Addr) (n c : Nat) (xs : List Nat) (E F : Int) (t m : Nat) (w : World) (hn : n = xs.length) (hE : E = (t : Int)) (hF : F = (m : Int)) (ha : Rd w ao c xs) (hl : xs.length ≤ 1000000) (ht : t ≤ 1000000000) (hm : m < 4294967296) :
    Calls Try.prog 87 #[.slice ao n c, .int .u32 E, .int .u32 F] w fun e w' => ∃ po pc zs, e = .returned (.slice po zs.length pc) ∧ Own w' w.heap.size po pc zs ∧ val zs = val xs * t + m ∧ zs.length ≤ xs.length + 1 ∧ Ext w w' := by
  subst hn hE hF
  have bA := ha.cap
  have mA := ha.mx
  have hiA := ixn ha
  go_enter Try.func87, Try.ntmps87
  go_wp2_with (at_make; refine mk0 rfl _ _ rfl _ _ _ rfl rfl ?_ ?_ (Ext.refl w) ?_; omega; omega; intro w1 hown hext)
  go_loopw [7, 8, 20] (GrowR w xs t m) (fun _ _ i _ => (xs.length - intOf i).toNat)
  case atStart => exact ⟨m, _, _, [], rfl, rfl, rfl, by omega, by simp, hown, hext, by simp [Hid, vk_zero, val, pw]⟩
  case round =>
    obtain ⟨carry, po, pc, zs, rfl, rfl, rfl, hc1, hk, hown, hext, heq⟩ := hrel
    by_cases hkA : zs.length < xs.length
    · have hx := (ha.ext hext).cell zs.length hkA
      have bx := lim_lt ha.lb zs.length
      have hmul : lim xs zs.length * t ≤ 4294967295 * 1000000000 := Nat.mul_le_mul (by omega) ht
      obtain ⟨q, hq⟩ : ∃ q, q = lim xs zs.length * t := ⟨_, rfl⟩
      rw [← hq] at hmul
      have hq' : ((lim xs zs.length : Nat) : Int) * (t : Int) = (q : Int) := by rw [hq]; push_cast; rfl
      have Hq := Lib.hid hq
      clear hq
      go_wp2_with (at_builtin; refine push (wi := w) rfl _ _ rfl _ _ zs _ rfl rfl hown _ ?_ ?_ rfl ?_ rfl hext ?_; omega; omega; omega; intro ao' c' w2 hown2 hext2)
      go_roundw
      case rel => exact ⟨(q + carry) / 4294967296, ao', c', zs ++ [(q + carry) % 4294967296], by simp, by simp, by go_num, by omega, by simp; omega, hown2.snocEq (by omega), hext2, by have h1 := grow_step heq.out (s := q + carry) (by rw [Hq.out]); exact h1⟩
      case measure => simp [intOf]; omega
    · have hv : val zs + pw zs.length * carry = val xs * t + m := by
        have h1 := heq.out
        rwa [vk_full (by omega)] at h1
      have hzl : zs.length ≤ 1000000 := by omega
      rcases carry with _ | carry
      · have Hv := Lib.hid hv
        clear hv heq
        go_wp2_with fail
        go_ret
        exact ⟨po, pc, zs, rfl, hown, by have := Hv.out; simpa using this, by omega, hext⟩
      · have Hv := Lib.hid hv
        have hpos : (0 : Int) < (carry : Int) + 1 := by omega
        clear hv heq
        go_wp2_with (at_builtin; refine push (wi := w) rfl _ _ rfl _ _ zs _ rfl rfl hown _ ?_ ?_ rfl ?_ rfl hext ?_; omega; omega; omega; intro ao' c' w2 hown2 hext2)
        go_ret
        exact ⟨ao', c', zs ++ [carry + 1], by simp, hown2.snocEq (by omega), by rw [val_snoc]; exact Hv.out, by simp; omega, hext2⟩

/-- what Parse answers -/
def GotParse (w : World) (r : Int × Nat) (e : Ending) (w' : World) : Prop :=
  ∃ ao c zs, e = .returned (.tuple #[.slice ao zs.length c, .int .i64 r.1]) ∧ Own w' w.heap.size ao c zs ∧ Canon zs ∧ val zs = r.2 ∧ Ext w w'

def ParseR (w : World) (s : ByteArray) (out part scale i : Value) (wr : World) : Prop :=
  ∃ (k P S : Nat) (po : Option Addr) (pc : Nat) (zs : List Nat), k ≤ s.size ∧ i = .int .i64 k ∧ out = .slice po zs.length pc ∧ part = .int .u32 P ∧ scale = .int .u32 S ∧ p10 S ∧ P < S ∧ zs.length ≤ k ∧ Rd wr po pc zs ∧ Ext w wr ∧ Hid (alld s k) ∧
    Hid (val zs * S + P = dvk s k)

theorem str_nil {s : ByteArray} (h : s.size = 0) : s.toList = [] := by
  rw [ByteArray.toList_eq]; exact List.length_eq_zero_iff.1 (by simpa using h)
theorem str_cons {s : ByteArray} (h : s.size ≠ 0) : s.toList.isEmpty = false := by
  rw [ByteArray.toList_eq]
  cases e : s.data.toList with
  | nil => exact absurd (show s.data.size = 0 by rw [← Array.length_toList, e]; rfl) h
  | cons a l => rfl

set_option maxRecDepth 100000 in
set_option maxHeartbeats 1000000 in
theorem Parse_any (s : ByteArray) (w : World) :
    Calls Try.prog 63 #[.string s] w (GotParse w (parseV s)) := by
  by_cases hlong : 4000 < s.size
  · rw [parseV_long hlong]
    go_enter Try.func63, Try.ntmps63
    go_wp2_with fail
    go_ret2
    exact ⟨none, 0, [], rfl, Own.nil _ _, canon_nil, rfl, Ext.refl _⟩
  by_cases h0 : s.size = 0
  · rw [parseV_bad hlong (.inl h0)]
    have hem : s.toList = [] := str_nil h0
    go_enter Try.func63, Try.ntmps63
    go_wp2_with fail
    go_ret2
    exact ⟨none, 0, [], rfl, Own.nil _ _, canon_nil, rfl, Ext.refl _⟩
  · have hem : s.toList.isEmpty = false := str_cons h0
    have hdec : decide (4000 < (s.size : Int)) = false := decide_eq_false (by omega)
    have hs : s.size ≤ 4000 := by omega
    have H0 := Lib.hid h0
    clear h0
    go_enter Try.func63, Try.ntmps63
    go_wp2_with fail
    go_loopw [4, 5, 6, 19] (ParseR w s) (fun _ _ _ i _ => (s.size - intOf i).toNat)
    case atStart => exact ⟨0, 0, 1, none, 0, [], by omega, rfl, rfl, rfl, rfl, .inl rfl, by omega, by simp, Rd.nil _, Ext.refl _, (fun i hi => by omega), by simp [Hid, val, dvk]⟩
    case round =>
      obtain ⟨k, P, S, po, pc, zs, hk, rfl, rfl, rfl, rfl, hS, hPS, hzk, hrd, hext, had, heq⟩ := hrel
      by_cases hkA : k < s.size
      · have hix := chk s k hkA wr
        have hlt := ch_lt s k
        by_cases hd : 48 ≤ ch s k ∧ ch s k ≤ 57
        · have hp := p10_le hS
          have hstep := dig_step (d := ch s k - 48) heq.out
          rw [← dvk_succ] at hstep
          have Hs := Lib.hid hstep
          clear hstep
          have had' : Hid (alld s (k + 1)) := fun i hi => by
            rcases Nat.lt_succ_iff_lt_or_eq.1 hi with h | rfl
            · exact had i h
            · exact hd
          by_cases hfull : S * 10 = 1000000000
          · obtain rfl : S = 100000000 := by omega
            go_wp2_with fail
            refine (digit_yes (ch s k) hd.1 hd.2 _).mono ?_
            rintro e w' ⟨rfl, rfl⟩
            go_wp2_with fail
            refine (grow_any _ _ _ zs _ _ 1000000000 (P * 10 + (ch s k - 48)) wr rfl (by omega) (by omega) hrd (by omega) (by omega) (by omega)).mono ?_
            rintro e w1 ⟨po1, pc1, zs1, rfl, ho1, hv1, hl1, hx1⟩
            replace hv1 := Lib.hid hv1
            go_wp2_with fail
            go_roundw
            case rel => exact ⟨k + 1, 0, 1, po1, pc1, zs1, by omega, by go_num, rfl, rfl, rfl, .inl rfl, by omega, by omega, ho1.rd, hext.trans hx1, had', by unfold Hid; rw [hv1.out]; have := Hs.out; omega⟩
            case measure => simp [intOf]; omega
          · have hS' := p10_next hS hfull
            have hp' := p10_le hS'
            have hne : ((S : Int) * 10 == 1000000000) = false := beq_eq_false_iff_ne.2 (by omega)
            clear hfull
            go_wp2_with fail
            refine (digit_yes (ch s k) hd.1 hd.2 _).mono ?_
            rintro e w' ⟨rfl, rfl⟩
            go_wp2_with fail
            go_roundw
            case rel => exact ⟨k + 1, P * 10 + (ch s k - 48), S * 10, po, pc, zs, by omega, by go_num, rfl, by go_num, by go_num, hS', by omega, by omega, hrd, hext, had', Hs⟩
            case measure => simp [intOf]; omega
        · have hbad : parseV s = (20, 0) := parseV_bad hlong (.inr (fun h => hd (h k hkA)))
          have Hbad := Lib.hid hbad
          clear hbad
          go_wp2_with fail
          refine (digit_no (ch s k) (by omega) (by omega) _).mono ?_
          rintro e w' ⟨d, rfl, rfl⟩
          go_wp2_with fail
          go_ret2
          exact ⟨none, 0, [], by rw [Hbad.out]; rfl, Own.nil _ _, canon_nil, by rw [Hbad.out]; rfl, hext⟩
      · have hks : s.size = k := by omega
        have hok : parseV s = (0, dvk s k) := by
          have := parseV_ok hlong H0.out (by rw [hks]; exact had)
          rw [this, hks]
        have hp := p10_le hS
        have Hok := Lib.hid hok
        clear hok hks
        go_wp2_with fail
        refine (grow_any _ _ _ zs _ _ S P wr rfl rfl rfl hrd (by omega) (by omega) (by omega)).mono ?_
        rintro e w1 ⟨po1, pc1, zs1, rfl, ho1, hv1, hl1, hx1⟩
        have hv1' := Lib.hid (hv1.trans heq.out)
        clear hv1
        go_wp2_with fail
        refine (Trim_got _ _ _ _ _ rfl ho1.rd (by omega)).mono ?_
        intro e w2 hg
        rw [hv1'.out] at hg
        obtain ⟨ao3, c3, zs3, rfl, h1, h2, h3, h4⟩ := hg.from (hext.trans hx1)
        go_wp2_with fail
        go_ret2
        exact ⟨ao3, c3, zs3, by rw [Hok.out]; rfl, h1, h2, by rw [Hok.out]; exact h3, h4⟩

set_option maxRecDepth 100000 in
set_option maxHeartbeats 1000000 in
theorem small_any (ao : Option Addr) (n c : Nat) (xs : List Nat) (E : Int) (t : Nat) (w : World) (hn : n = xs.length) (hE : E = (t : Int)) (ha : Rd w ao c xs) (hl : xs.length ≤ 1000000) (ht : t < 4294967296) :
    Calls Try.prog 88 #[.slice ao n c, .int .u64 E] w (GotN w (val xs * t)) := by
  subst hn hE
  have bA := ha.cap
  have mA := ha.mx
  go_enter Try.func88, Try.ntmps88
  go_wp2_with fail
  go_loopw [5, 6, 7] (GrowR w xs t 0) (fun _ _ i _ => (xs.length - intOf i).toNat)
  case atStart => exact ⟨0, _, _, [], rfl, rfl, rfl, by omega, by simp, own_empty w, (Ext.refl w).alloc _, by simp [Hid, vk_zero, val]⟩
  case round =>
    obtain ⟨carry, po, pc, zs, rfl, rfl, rfl, hc1, hk, hown, hext, heq⟩ := hrel
    by_cases hkA : zs.length < xs.length
    · have bx := lim_lt ha.lb zs.length
      have hmul : lim xs zs.length * t ≤ 4294967295 * 4294967295 := Nat.mul_le_mul (by omega) (by omega)
      obtain ⟨q, hq⟩ : ∃ q, q = lim xs zs.length * t := ⟨_, rfl⟩
      rw [← hq] at hmul
      have hq' : ((lim xs zs.length : Nat) : Int) * (t : Int) = (q : Int) := by rw [hq]; push_cast; rfl
      have Hq := Lib.hid hq
      clear hq
      go_wp2_with fail
      refine (At_any ao _ c xs wr _ zs.length (by omega) rfl (ha.ext hext)).mono ?_
      rintro e w' ⟨rfl, rfl⟩
      go_wp2_with (at_builtin; refine push (wi := w) rfl _ _ rfl _ _ zs _ rfl rfl hown _ ?_ ?_ rfl ?_ rfl hext ?_; omega; omega; omega; intro ao' c' w2 hown2 hext2)
      go_roundw
      case rel => exact ⟨(q + carry) / 4294967296, ao', c', zs ++ [(q + carry) % 4294967296], by simp, by simp, by go_num, by omega, by simp; omega, hown2.snocEq (by omega), hext2, by have h1 := grow_step heq.out (s := q + carry) (by rw [Hq.out]); exact h1⟩
      case measure => simp [intOf]; omega
    · have hv : val zs + pw zs.length * carry = val xs * t := by
        have h1 := heq.out
        rwa [vk_full (by omega)] at h1
      have hzl : zs.length ≤ 1000000 := by omega
      have Hv := Lib.hid hv
      clear hv heq
      go_wp2_with (at_builtin; refine push (wi := w) rfl _ _ rfl _ _ zs _ rfl rfl hown _ ?_ ?_ rfl ?_ rfl hext ?_; omega; omega; omega; intro ao' c' w2 hown2 hext2)
      refine (RTrim_any _ _ _ _ _ (by simp) hown2.rd (by simp; omega)).mono ?_
      intro e w' hg
      have hv2 : val (zs ++ [(carry : Int).toNat]) = val xs * t := by rw [val_snoc]; simpa using Hv.out
      rw [hv2] at hg
      clear hv2
      obtain ⟨ao3, c3, zs3, rfl, h3⟩ := hg.from hext2
      go_wp2_with fail
      go_ret
      exact ⟨ao3, c3, zs3, rfl, h3⟩

end Go.Proofs.Ytehbfobfkpejoaa
