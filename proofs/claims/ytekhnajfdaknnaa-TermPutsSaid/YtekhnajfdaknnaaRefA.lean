/-
  Contracts of the reference's longer, At, Trim, Cmp, Add, Sub, Same.
-/
import Derived.Test.YtekhnajfdaknnaaNatB
namespace Go.Proofs.Ytekhnajfdaknnaa
open Go.RowKit

set_option maxRecDepth 100000 in
set_option maxHeartbeats 400000 in
theorem longer_any (ao : Option Addr) (n c : Nat) (bo : Option Addr) (m d : Nat) (w : World) :
    Calls Try.prog 68 #[.slice ao n c, .slice bo m d] w fun e w' => e = .returned (.int .i64 ((max n m : Nat) : Int)) ∧ w = w' := by
  by_cases h : m < n
  · have e : max n m = n := by omega
    rw [e]
    clear e
    go_enter Try.func68, Try.ntmps68
    go_wp2_with fail
    go_ret
    exact ⟨rfl, rfl⟩
  · have e : max n m = m := by omega
    rw [e]
    clear e
    go_enter Try.func68, Try.ntmps68
    go_wp2_with fail
    go_ret
    exact ⟨rfl, rfl⟩

set_option maxRecDepth 100000 in
set_option maxHeartbeats 400000 in
theorem At_any (ao : Option Addr) (n c : Nat) (zs : List Nat) (w : World) (E : Int) (i : Nat) (hE : E = (i : Int)) (hn : n = zs.length) (h : Rd w ao c zs) :
    Calls Try.prog 69 #[.slice ao n c, .int .i64 E] w fun e w' => e = .returned (.int .u64 (lim zs i)) ∧ w = w' := by
  subst hE hn
  by_cases hi : i < zs.length
  · have hix := ixn h
    have hx := h.cell i hi
    have hb := lim_lt h.lb i
    go_enter Try.func69, Try.ntmps69
    go_wp2_with fail
    go_ret
    exact ⟨rfl, rfl⟩
  · rw [lim_of_le (by omega)]
    go_enter Try.func69, Try.ntmps69
    go_wp2_with fail
    go_ret
    exact ⟨rfl, rfl⟩

/-- the first loop of Trim copies -/
def CopyR (w : World) (zs : List Nat) (out i : Value) (wr : World) : Prop :=
  ∃ (k : Nat) (po : Option Addr) (pc : Nat), k ≤ zs.length ∧ i = .int .i64 k ∧ out = .slice po k pc ∧ Own wr w.heap.size po pc (zs.take k) ∧ Ext w wr

theorem take_snoc {zs : List Nat} {k : Nat} (h : k < zs.length) : zs.take k ++ [lim zs k] = zs.take (k + 1) := by
  rw [List.take_add_one, lim_map_at h]; rfl

set_option maxRecDepth 100000 in
set_option maxHeartbeats 400000 in
theorem RTrim_any (ao : Option Addr) (n c : Nat) (zs : List Nat) (w : World) (hn : n = zs.length) (h : Rd w ao c zs) (hl : zs.length ≤ 1000000000) :
    Calls Try.prog 67 #[.slice ao n c] w (GotN w (val zs)) := by
  subst hn
  have hix := ixn h
  have mx := h.mx
  have hcap := h.cap
  go_enter Try.func67, Try.ntmps67
  go_wp2_with fail
  go_loopw [3, 4] (CopyR w zs) (fun _ i _ => (zs.length - intOf i).toNat)
  case atStart => exact ⟨0, _, _, Nat.zero_le _, rfl, rfl, own_empty w, (Ext.refl w).alloc _⟩
  case round =>
    obtain ⟨k, po, pc, hk, rfl, rfl, hown, hext⟩ := hrel
    by_cases hkA : k < zs.length
    · have hx := (h.ext hext).cell k hkA
      have bx := lim_lt h.lb k
      go_wp2_with (at_builtin; refine push (wi := w) rfl _ _ rfl _ _ (zs.take k) _ (by simp; omega) rfl hown _ ?_ ?_ rfl ?_ rfl hext ?_; omega; omega; (simp; omega); intro ao' c' w2 hown2 hext2)
      go_roundw
      case rel => exact ⟨k + 1, ao', c', by omega, by go_num, rfl, by rw [← take_snoc hkA]; exact hown2.snocEq (by omega), hext2⟩
      case measure => simp [intOf]; omega
    · have hke : zs.take k = zs := List.take_of_length_le (by omega)
      have hkl : zs.length = k := by omega
      rw [hke] at hown
      clear hke hkA hk
      subst hkl
      go_wp2_with fail
      go_loopw [3] (fun out wr => ∃ m : Nat, m ≤ zs.length ∧ out = .slice po m pc ∧ Own wr w.heap.size po pc (zs.take m) ∧ Ext w wr ∧ Hid (trimN zs zs.length = trimN zs m)) (fun out _ => match out with | .slice _ l _ => l | _ => 0)
      case atStart => exact ⟨zs.length, Nat.le_refl _, rfl, by rw [List.take_length]; exact hown, hext, rfl⟩
      case round =>
        obtain ⟨m, hm, rfl, hown, hext, ht⟩ := hrel
        rcases m with _ | m
        · go_wp2_with fail
          go_ret
          have e : trm zs = zs.take 0 := by rw [trm, ht.out]; rfl
          refine ⟨po, pc, trm zs, by rw [e]; simp, by rw [e]; exact hown, canon_trm h.lb, val_trm zs, hext⟩
        · have hx := hown.rd.cell m (by rw [List.length_take]; omega)
          rw [lim_take (by omega)] at hx
          have hmx := hown.rd.mx
          have hcc := hown.rd.cap
          have hix2 := ixk hown.rd (m + 1) (by simp; omega) m (by omega) wr
          rw [List.length_take, Nat.min_eq_left hm] at hcc
          go_wp2_with fail
          · go_roundw
            case rel => exact ⟨m, by omega, rfl, hown.pop (by omega), hext, by unfold Hid; rw [ht.out, trimN_z (by assumption)]⟩
            case measure => simp
          · go_ret
            have e : trm zs = zs.take (m + 1) := by rw [trm, ht.out, trimN_nz (by assumption)]
            refine ⟨po, pc, trm zs, by rw [e, List.length_take, Nat.min_eq_left hm]; rfl, by rw [e]; exact hown, canon_trm h.lb, val_trm zs, hext⟩

set_option maxRecDepth 100000 in
set_option maxHeartbeats 400000 in
theorem RCmp_any (ao : Option Addr) (n c : Nat) (xs : List Nat) (bo : Option Addr) (m d : Nat) (ys : List Nat) (w : World) (hn : n = xs.length) (hm : m = ys.length) (ha : Rd w ao c xs) (hb : Rd w bo d ys) :
    Calls Try.prog 76 #[.slice ao n c, .slice bo m d] w fun e w' => e = .returned (.int .i64 (cmpI (val xs) (val ys))) ∧ w = w' := by
  subst hn hm
  have mA := ha.mx
  have mB := hb.mx
  have cA := ha.cap
  have cB := hb.cap
  go_enter Try.func76, Try.ntmps76
  go_wp2_with fail
  refine (longer_any ao _ c bo _ d w).mono ?_
  rintro e w' ⟨rfl, rfl⟩
  go_wp2_with fail
  go_loop [5] (fun i => ∃ k : Nat, k ≤ max xs.length ys.length ∧ i = .int .i64 ((k : Int) - 1) ∧ upEq xs ys k) (fun i => (intOf i + 1).toNat)
  case atStart => exact ⟨max xs.length ys.length, Nat.le_refl _, rfl, upEq_start (by omega) (by omega)⟩
  case round =>
    obtain ⟨k, hk, rfl, hu⟩ := hrel
    rcases k with _ | k
    · have hres := Lib.hid (cmpI_eq (upEq_all hu))
      go_wp2_with fail
      go_ret
      exact ⟨by rw [hres.out]; rfl, rfl⟩
    · go_wp2_with fail
      refine (At_any ao _ c xs w _ k (by omega) rfl ha).mono ?_
      rintro e w' ⟨rfl, rfl⟩
      go_wp2_with fail
      refine (At_any bo _ d ys w _ k (by omega) rfl hb).mono ?_
      rintro e w' ⟨rfl, rfl⟩
      by_cases h3 : lim xs k < lim ys k
      · have hres := Lib.hid (cmpI_lt (upEq_lt ha.lb hu h3))
        go_wp2_with fail
        go_ret
        exact ⟨by rw [hres.out]; rfl, rfl⟩
      · go_wp2_with fail
        refine (At_any ao _ c xs w _ k (by omega) rfl ha).mono ?_
        rintro e w' ⟨rfl, rfl⟩
        go_wp2_with fail
        refine (At_any bo _ d ys w _ k (by omega) rfl hb).mono ?_
        rintro e w' ⟨rfl, rfl⟩
        by_cases h4 : lim ys k < lim xs k
        · have hres := Lib.hid (cmpI_gt (upEq_lt hb.lb (upEq_symm hu) h4))
          go_wp2_with fail
          go_ret
          exact ⟨by rw [hres.out]; rfl, rfl⟩
        · have hu' := upEq_down hu (by omega)
          go_wp2_with fail
          go_round
          case rel => exact ⟨k, by omega, by go_num, hu'⟩
          case measure => simp [intOf]; try omega

set_option maxRecDepth 100000 in
set_option maxHeartbeats 1000000 in
theorem RAdd_any (ao : Option Addr) (n c : Nat) (xs : List Nat) (bo : Option Addr) (m d : Nat) (ys : List Nat) (w : World) (hn : n = xs.length) (hm : m = ys.length) (ha : Rd w ao c xs) (hb : Rd w bo d ys)
    (hl1 : xs.length ≤ 10000000) (hl2 : ys.length ≤ 10000000) :
    Calls Try.prog 48 #[.slice ao n c, .slice bo m d] w (GotN w (val xs + val ys)) := by
  subst hn hm
  have mA := ha.mx
  have mB := hb.mx
  have cA := ha.cap
  have cB := hb.cap
  go_enter Try.func48, Try.ntmps48
  go_wp2_with fail
  go_loopw [5, 6, 7] (AddR w xs ys) (fun _ _ i _ => (((max xs.length ys.length : Nat) : Int) + 1 - intOf i).toNat)
  case atStart => exact ⟨0, _, _, [], rfl, rfl, rfl, by omega, by simp, own_empty w, (Ext.refl w).alloc _, by simp [Hid, vk_zero, val]⟩
  case round =>
    obtain ⟨carry, po, pc, zs, rfl, rfl, rfl, hc1, hk, hown, hext, heq⟩ := hrel
    have bx := lim_lt ha.lb zs.length
    have by_ := lim_lt hb.lb zs.length
    go_wp2_with fail
    refine (longer_any ao _ c bo _ d wr).mono ?_
    rintro e w' ⟨rfl, rfl⟩
    by_cases hkA : zs.length ≤ max xs.length ys.length
    · go_wp2_with fail
      refine (At_any ao _ c xs wr _ zs.length (by omega) rfl (ha.ext hext)).mono ?_
      rintro e w' ⟨rfl, rfl⟩
      go_wp2_with fail
      refine (At_any bo _ d ys wr _ zs.length (by omega) rfl (hb.ext hext)).mono ?_
      rintro e w' ⟨rfl, rfl⟩
      go_wp2_with (at_builtin; refine push (wi := w) rfl _ _ rfl _ _ zs _ rfl rfl hown _ ?_ ?_ rfl ?_ rfl hext ?_; omega; omega; omega; intro ao' c' w2 hown2 hext2)
      go_roundw
      case rel => exact ⟨(lim xs zs.length + lim ys zs.length + carry) / 4294967296, ao', c', zs ++ [(lim xs zs.length + lim ys zs.length + carry) % 4294967296], by simp, by simp, by go_num, by omega, by simp; omega, hown2.snocEq (by omega), hext2, add_step heq.out rfl⟩
      case measure => simp [intOf]; omega
    · have hv : val zs = val xs + val ys := by
        have h1 := heq.out
        have h2 := val_lt ha.lb
        have h3 := val_lt hb.lb
        rw [vk_full (by omega), vk_full (by omega)] at h1
        have h4 : val xs < pw (zs.length - 1) := Nat.lt_of_lt_of_le h2 (pw_le (by omega))
        have h5 : val ys < pw (zs.length - 1) := Nat.lt_of_lt_of_le h3 (pw_le (by omega))
        have h6 : pw zs.length = 4294967296 * pw (zs.length - 1) := by rw [← pw_succ]; congr 1; omega
        rcases carry with _ | carry
        · simpa using h1
        · have : pw zs.length * 1 ≤ pw zs.length * (carry + 1) := Nat.mul_le_mul_left _ (by omega)
          omega
      have hv := Lib.hid hv
      go_wp2_with fail
      refine (RTrim_any _ _ _ _ _ rfl hown.rd (by omega)).mono ?_
      intro e w' hg
      rw [hv.out] at hg
      obtain ⟨ao3, c3, zs3, rfl, h3⟩ := hg.from hext
      go_wp2_with fail
      go_ret
      exact ⟨ao3, c3, zs3, rfl, h3⟩

set_option maxRecDepth 100000 in
set_option maxHeartbeats 1000000 in
theorem RSub_any (ao : Option Addr) (n c : Nat) (xs : List Nat) (bo : Option Addr) (m d : Nat) (ys : List Nat) (w : World) (hn : n = xs.length) (hm : m = ys.length) (ha : Rd w ao c xs) (hb : Rd w bo d ys)
    (hl1 : xs.length ≤ 10000000) (hl2 : ys.length ≤ 10000000) :
    Calls Try.prog 63 #[.slice ao n c, .slice bo m d] w (GotSub w (val xs) (val ys)) := by
  subst hn hm
  have mA := ha.mx
  have mB := hb.mx
  have cA := ha.cap
  have cB := hb.cap
  by_cases hle : val ys ≤ val xs
  · have hcmp : 0 ≤ cmpI (val xs) (val ys) := by unfold cmpI; split; omega; split <;> omega
    go_enter Try.func63, Try.ntmps63
    go_wp2_with fail
    refine (RCmp_any _ _ _ _ _ _ _ _ _ rfl rfl ha hb).mono ?_
    rintro e w1 ⟨rfl, rfl⟩
    go_wp2_with fail
    go_loopw [6, 7, 8] (fun out br i wr => SubR w xs ys out br i wr) (fun _ _ i _ => (((max xs.length ys.length : Nat) : Int) - intOf i).toNat)
    case atStart => exact ⟨0, _, _, [], rfl, rfl, rfl, by omega, by simp, own_empty w, (Ext.refl w).alloc _, by simp [Hid, vk_zero, val]⟩
    case round =>
      obtain ⟨bor, po, pc, zs, rfl, rfl, rfl, hc1, hk, hown, hext, heq⟩ := hrel
      have bx := lim_lt ha.lb zs.length
      have by_ := lim_lt hb.lb zs.length
      go_wp2_with fail
      refine (longer_any ao _ c bo _ d wr).mono ?_
      rintro e w' ⟨rfl, rfl⟩
      by_cases hkA : zs.length < max xs.length ys.length
      · go_wp2_with fail
        refine (At_any ao _ c xs wr _ zs.length (by omega) rfl (ha.ext hext)).mono ?_
        rintro e w' ⟨rfl, rfl⟩
        go_wp2_with fail
        refine (At_any bo _ d ys wr _ zs.length (by omega) rfl (hb.ext hext)).mono ?_
        rintro e w' ⟨rfl, rfl⟩
        go_wp2_with (at_builtin; refine push (wi := w) rfl _ _ rfl _ _ zs _ rfl rfl hown _ ?_ ?_ rfl ?_ rfl hext ?_; omega; omega; omega; intro ao' c' w2 hown2 hext2)
        go_roundw
        case rel => exact ⟨1 - (lim xs zs.length + 4294967296 - lim ys zs.length - bor) / 4294967296, ao', c', _, by simp, by simp, by go_num, by omega, by simp; omega, hown2, hext2, sub_step heq.out (by omega)⟩
        case measure => simp [intOf]; omega
      · have hv := Lib.hid (sub_end hown.lb heq.out (by omega) (by omega) hle)
        go_wp2_with fail
        refine (RTrim_any _ _ _ _ _ rfl hown.rd (by omega)).mono ?_
        intro e w' hg
        rw [hv.out] at hg
        obtain ⟨ao3, c3, zs3, rfl, h1, h2, h3, h4⟩ := hg.from hext
        go_wp2_with fail
        go_ret2
        exact ⟨ao3, c3, zs3, by simp [hle], h1, h2, h3, h4⟩
  · have hcmp : cmpI (val xs) (val ys) < 0 := by rw [cmpI_lt (by omega)]; omega
    go_enter Try.func63, Try.ntmps63
    go_wp2_with fail
    refine (RCmp_any _ _ _ _ _ _ _ _ _ rfl rfl ha hb).mono ?_
    rintro e w1 ⟨rfl, rfl⟩
    go_wp2_with fail
    go_ret2
    exact ⟨none, 0, [], by simp [hle], Own.nil _ _, canon_nil, by simp only [val_nil]; omega, Ext.refl _⟩

set_option maxRecDepth 100000 in
set_option maxHeartbeats 400000 in
theorem Same_any (ao : Option Addr) (n c : Nat) (xs : List Nat) (bo : Option Addr) (m d : Nat) (ys : List Nat) (w : World) (hn : n = xs.length) (hm : m = ys.length) (ha : Rd w ao c xs) (hb : Rd w bo d ys) :
    Calls Try.prog 70 #[.slice ao n c, .slice bo m d] w fun e w' => e = .returned (.bool (decide (xs = ys))) ∧ Qt w w' := by
  subst hn hm
  have mA := ha.mx
  have mB := hb.mx
  have cA := ha.cap
  have cB := hb.cap
  by_cases hl : xs.length = ys.length
  · have hlb : ((xs.length : Int) != (ys.length : Int)) = false := by simp [hl]
    have Hl := Lib.hid hl
    clear hl
    have hiA := ixn ha
    have hiB := ixn hb
    go_enter Try.func70, Try.ntmps70
    go_wp2_with fail
    go_loopw [5] (fun i wr => ∃ k : Nat, k ≤ xs.length ∧ i = .int .i64 k ∧ Hid (∀ j, j < k → lim xs j = lim ys j) ∧ Qt w wr) (fun i _ => (xs.length - intOf i).toNat)
    case atStart => exact ⟨0, Nat.zero_le _, rfl, (fun j hj => by omega), Qt.refl _⟩
    case round =>
      obtain ⟨k, hk, rfl, he, hq⟩ := hrel
      by_cases hkA : k < xs.length
      · have hkB : k < ys.length := by have := Hl.out; omega
        have hx := (ha.ext hq.ext).cell k hkA
        have hy := (hb.ext hq.ext).cell k hkB
        by_cases h3 : lim xs k = lim ys k
        · have H3 := Lib.hid h3
          have h3' : ((lim xs k : Int) != (lim ys k : Int)) = false := by simp [h3]
          clear h3
          go_wp2_with fail
          go_quiet (fail)
          go_wp2_with fail
          go_roundw
          case rel => exact ⟨k + 1, by omega, by go_num, (fun j hj => by rcases Nat.lt_succ_iff_lt_or_eq.1 hj with h | rfl; exact he.out j h; exact H3.out), hq.drewN _⟩
          case measure => simp [intOf]; omega
        · have hres : decide (xs = ys) = false := by simp; intro h; exact h3 (by rw [h])
          have Hres := Lib.hid hres
          have h3' : ((lim xs k : Int) != (lim ys k : Int)) = true := by simp; omega
          clear hres h3
          go_wp2_with fail
          go_quiet (fail)
          go_wp2_with fail
          go_ret
          exact ⟨by rw [Hres.out]; rfl, hq.drewN _⟩
      · have hres : decide (xs = ys) = true := by
          simp; exact list_ext_lim Hl.out (fun i hi => he.out i (by omega))
        have Hres := Lib.hid hres
        clear hres
        go_wp2_with fail
        go_ret
        exact ⟨by rw [Hres.out]; rfl, hq⟩
  · have hres : decide (xs = ys) = false := by simp; intro h; exact hl (by rw [h])
    have hlb : ((xs.length : Int) != (ys.length : Int)) = true := by simp; omega
    rw [hres]
    clear hres hl
    go_enter Try.func70, Try.ntmps70
    go_wp2_with fail
    go_ret
    exact ⟨rfl, Qt.refl _⟩

theorem Same_yes (ao : Option Addr) (n c : Nat) (xs : List Nat) (bo : Option Addr) (m d : Nat) (ys : List Nat) (w : World) (hn : n = xs.length) (hm : m = ys.length) (ha : Rd w ao c xs) (hb : Rd w bo d ys) (h : xs = ys) :
    Calls Try.prog 70 #[.slice ao n c, .slice bo m d] w fun e w' => e = .returned (.bool true) ∧ Qt w w' :=
  (Same_any ao n c xs bo m d ys w hn hm ha hb).mono fun _ _ ⟨he, hq⟩ => ⟨by rw [he, decide_eq_true h], hq⟩
end Go.Proofs.Ytekhnajfdaknnaa
