/-
  Contracts of nat.Add and nat.Sub.
-/
import Derived.Test.YtekhnajfdaknnaaNatA
namespace Go.Proofs.Ytekhnajfdaknnaa
open Go.RowKit

/-- what the loop of Add holds -/
def AddR (w : World) (xs ys : List Nat) (out cr i : Value) (wr : World) : Prop :=
  ∃ (carry : Nat) (po : Option Addr) (pc : Nat) (zs : List Nat), i = .int .i64 zs.length ∧ out = .slice po zs.length pc ∧ cr = .int .u64 carry ∧ carry ≤ 1 ∧ zs.length ≤ 100000000 ∧ Own wr w.heap.size po pc zs ∧ Ext w wr ∧
    Hid (val zs + pw zs.length * carry = vk xs zs.length + vk ys zs.length)

theorem add_step {zs xs ys : List Nat} {carry s : Nat} (h : val zs + pw zs.length * carry = vk xs zs.length + vk ys zs.length) (hs : s = lim xs zs.length + lim ys zs.length + carry) :
    val (zs ++ [s % 4294967296]) + pw (zs ++ [s % 4294967296]).length * (s / 4294967296) = vk xs (zs ++ [s % 4294967296]).length + vk ys (zs ++ [s % 4294967296]).length := by
  simp only [List.length_append, List.length_cons, List.length_nil, Nat.zero_add]
  rw [val_snoc, vk_succ, vk_succ, pw_succ]
  have h1 := carry_step (pw zs.length) s
  rw [hs] at h1 ⊢
  rw [Nat.mul_add, Nat.mul_add] at h1
  omega

set_option maxRecDepth 100000 in
set_option maxHeartbeats 1000000 in
theorem Add_any (ao : Option Addr) (n c : Nat) (xs : List Nat) (bo : Option Addr) (m d : Nat) (ys : List Nat) (w : World) (hn : n = xs.length) (hm : m = ys.length) (ha : Rd w ao c xs) (hb : Rd w bo d ys)
    (hl1 : xs.length ≤ 100000000) (hl2 : ys.length ≤ 100000000) :
    Calls Try.prog 56 #[.slice ao n c, .slice bo m d] w (GotN w (val xs + val ys)) := by
  subst hn hm
  have hA := ha.trm
  have hB := hb.trm
  have bA := hA.cap
  have bB := hB.cap
  have mA := hA.mx
  have mB := hB.mx
  have lA := trm_le xs
  have lB := trm_le ys
  have hiA := ixn hA
  have hiB := ixn hB
  rw [← val_trm xs, ← val_trm ys]
  go_enter Try.func56, Try.ntmps56
  go_wp2_with fail
  refine (trim_any ao _ c xs w rfl ha).mono ?_
  rintro e w' ⟨rfl, rfl⟩
  go_wp2_with fail
  refine (trim_any bo _ d ys w rfl hb).mono ?_
  rintro e w' ⟨rfl, rfl⟩
  go_wp2_with (at_make; refine mk0 rfl _ _ rfl _ _ _ rfl rfl ?_ ?_ (Ext.refl w) ?_; omega; omega; intro w1 hown hext)
  all_goals
    go_loopw [5, 6, 27] (AddR w (trm xs) (trm ys)) (fun _ _ i _ => ((trm xs).length + (trm ys).length + 1 - intOf i).toNat)
    case atStart => exact ⟨0, _, _, [], rfl, rfl, rfl, by omega, by simp, hown, hext, by simp [Hid, vk_zero, val]⟩
    case round =>
      obtain ⟨carry, po, pc, zs, rfl, rfl, rfl, hc1, hk, hown, hext, heq⟩ := hrel
      by_cases hkA : zs.length < (trm xs).length <;> by_cases hkB : zs.length < (trm ys).length
      all_goals first | omega | skip
      all_goals
        have hx := (hA.ext hext).cell zs.length
        have hy := (hB.ext hext).cell zs.length
        have bx := lim_lt hA.lb zs.length
        have by_ := lim_lt hB.lb zs.length
        go_wp2_with (at_builtin; refine push (wi := w) rfl _ _ rfl _ _ zs _ rfl rfl hown _ ?_ ?_ rfl ?_ rfl hext ?_; omega; omega; omega; intro ao' c' w2 hown2 hext2)
      all_goals
        first
        | (go_wp2_with fail
           have hlx := lim_of_le (zs := trm xs) (i := zs.length)
           have hly := lim_of_le (zs := trm ys) (i := zs.length)
           go_roundw
           case rel => exact ⟨(lim (trm xs) zs.length + lim (trm ys) zs.length + carry) / 4294967296, ao', c', zs ++ [(lim (trm xs) zs.length + lim (trm ys) zs.length + carry) % 4294967296], by simp, by simp, by go_num, by omega, by simp; omega, hown2.snocEq (by omega), hext2, add_step heq.out rfl⟩
           case measure => simp [intOf]; omega)
        | skip
      all_goals
        go_wp2_with fail
        have hv : val (zs ++ [(carry : Int).toNat]) = val (trm xs) + val (trm ys) := by
          have h1 := heq.out
          rw [vk_full (by omega), vk_full (by omega)] at h1
          rw [val_snoc, ← h1]; simp
        have hv := Lib.hid hv
        refine (Trim_got _ _ _ _ _ (by simp) hown2.rd (by simp; omega)).mono ?_
        intro e w' hg
        rw [hv.out] at hg
        obtain ⟨ao3, c3, zs3, rfl, h3⟩ := hg.from hext2
        go_wp2_with fail
        go_ret
        exact ⟨ao3, c3, zs3, rfl, h3⟩

def SubR (w : World) (xs ys : List Nat) (out br i : Value) (wr : World) : Prop :=
  ∃ (bor : Nat) (po : Option Addr) (pc : Nat) (zs : List Nat), i = .int .i64 zs.length ∧ out = .slice po zs.length pc ∧ br = .int .u64 bor ∧ bor ≤ 1 ∧ zs.length ≤ 100000000 ∧ Own wr w.heap.size po pc zs ∧ Ext w wr ∧
    Hid (vk xs zs.length + pw zs.length * bor = val zs + vk ys zs.length)

theorem sub_step {zs xs ys : List Nat} {b b' y : Nat} (h : vk xs zs.length + pw zs.length * b = val zs + vk ys zs.length) (hs : lim xs zs.length + 4294967296 * b' = y + lim ys zs.length + b) :
    Hid (vk xs (zs ++ [y]).length + pw (zs ++ [y]).length * b' = val (zs ++ [y]) + vk ys (zs ++ [y]).length) := by
  unfold Hid
  simp only [List.length_append, List.length_cons, List.length_nil, Nat.zero_add]
  rw [val_snoc, vk_succ, vk_succ, pw_succ]
  have h1 : pw zs.length * (lim xs zs.length + 4294967296 * b') = pw zs.length * (y + lim ys zs.length + b) := by rw [hs]
  rw [Nat.mul_add, Nat.mul_add, Nat.mul_add, ← Nat.mul_assoc, Nat.mul_comm (pw zs.length) 4294967296] at h1
  omega
theorem sub_end {zs xs ys : List Nat} {b : Nat} (hz : Lb zs) (h : vk xs zs.length + pw zs.length * b = val zs + vk ys zs.length) (hx : xs.length ≤ zs.length) (hy : ys.length ≤ zs.length) (hle : val ys ≤ val xs) : val zs = val xs - val ys := by
  rw [vk_full hx, vk_full hy] at h
  have h1 := val_lt hz
  rcases b with _ | b
  · simp at h; omega
  · have : pw zs.length * 1 ≤ pw zs.length * (b + 1) := Nat.mul_le_mul_left _ (by omega)
    omega

/-- a difference as it is answered -/
def GotSub (w : World) (m n : Nat) (e : Ending) (w' : World) : Prop :=
  ∃ ao c zs, e = .returned (.tuple #[.slice ao zs.length c, .bool (decide (n ≤ m))]) ∧ Own w' w.heap.size ao c zs ∧ Canon zs ∧ val zs = m - n ∧ Ext w w'

set_option maxRecDepth 100000 in
set_option maxHeartbeats 1000000 in
theorem Sub_any (ao : Option Addr) (n c : Nat) (xs : List Nat) (bo : Option Addr) (m d : Nat) (ys : List Nat) (w : World) (hn : n = xs.length) (hm : m = ys.length) (ha : Rd w ao c xs) (hb : Rd w bo d ys)
    (hl1 : xs.length ≤ 100000000) (_hl2 : ys.length ≤ 100000000) :
    Calls Try.prog 57 #[.slice ao n c, .slice bo m d] w (GotSub w (val xs) (val ys)) := by
  subst hn hm
  have hA := ha.trm
  have hB := hb.trm
  have bA := hA.cap
  have bB := hB.cap
  have mA := hA.mx
  have mB := hB.mx
  have lA := trm_le xs
  have lB := trm_le ys
  have cA := canon_trm ha.lb
  have cB := canon_trm hb.lb
  have hiA := ixn hA
  have hiB := ixn hB
  rw [← val_trm xs, ← val_trm ys]
  by_cases hle : val (trm ys) ≤ val (trm xs)
  · have hlen : (trm ys).length ≤ (trm xs).length := by
      rcases Nat.lt_or_ge (trm xs).length (trm ys).length with h | h
      · have := canon_len_lt cA.1 cB h; omega
      · exact h
    have hcmp : 0 ≤ cmpI (val (trm xs)) (val (trm ys)) := by unfold cmpI; split; omega; split <;> omega
    go_enter Try.func57, Try.ntmps57
    go_wp2_with fail
    refine (trim_any ao _ c xs w rfl ha).mono ?_
    rintro e w' ⟨rfl, rfl⟩
    go_wp2_with fail
    refine (trim_any bo _ d ys w rfl hb).mono ?_
    rintro e w' ⟨rfl, rfl⟩
    go_wp2_with fail
    refine (Cmp_any _ _ _ _ _ _ _ _ _ rfl rfl hA hB).mono ?_
    rintro e w1 ⟨rfl, hq⟩
    go_wp2_with (at_make; refine mk0 rfl _ _ rfl _ _ _ rfl rfl ?_ ?_ hq.ext ?_; omega; omega; intro w1 hown hext)
    go_loopw [6, 7, 25] (SubR w (trm xs) (trm ys)) (fun _ _ i _ => ((trm xs).length - intOf i).toNat)
    case atStart => exact ⟨0, _, _, [], rfl, rfl, rfl, by omega, by simp, hown, hext, by simp [Hid, vk_zero, val]⟩
    case round =>
      obtain ⟨bor, po, pc, zs, rfl, rfl, rfl, hc1, hk, hown, hext, heq⟩ := hrel
      by_cases hkA : zs.length < (trm xs).length
      · by_cases hkB : zs.length < (trm ys).length
        all_goals
          have hx := (hA.ext hext).cell zs.length hkA
          have hy := (hB.ext hext).cell zs.length
          have bx := lim_lt hA.lb zs.length
          have by_ := lim_lt hB.lb zs.length
          have hly := lim_of_le (zs := trm ys) (i := zs.length)
          go_wp2_with (at_builtin; refine push (wi := w) rfl _ _ rfl _ _ zs _ rfl rfl hown _ ?_ ?_ rfl ?_ rfl hext ?_; omega; omega; omega; intro ao' c' w2 hown2 hext2)
        all_goals
          go_wp2_with fail
          go_roundw
          case rel =>
            first
            | exact ⟨0, ao', c', _, by simp, by simp, rfl, by omega, by simp; omega, hown2, hext2, sub_step heq.out (by omega)⟩
            | exact ⟨1, ao', c', _, by simp, by simp, rfl, by omega, by simp; omega, hown2, hext2, sub_step heq.out (by omega)⟩
          case measure => simp [intOf]; omega
      · go_wp2_with fail
        have hv := Lib.hid (sub_end hown.lb heq.out (by omega) (by omega) hle)
        refine (Trim_got _ _ _ _ _ rfl hown.rd (by omega)).mono ?_
        intro e w' hg
        rw [hv.out] at hg
        obtain ⟨ao3, c3, zs3, rfl, h1, h2, h3, h4⟩ := hg.from hext
        go_wp2_with fail
        go_ret2
        exact ⟨ao3, c3, zs3, by simp [hle], h1, h2, h3, h4⟩
  · have hcmp : cmpI (val (trm xs)) (val (trm ys)) < 0 := by rw [cmpI_lt (by omega)]; omega
    go_enter Try.func57, Try.ntmps57
    go_wp2_with fail
    refine (trim_any ao _ c xs w rfl ha).mono ?_
    rintro e w' ⟨rfl, rfl⟩
    go_wp2_with fail
    refine (trim_any bo _ d ys w rfl hb).mono ?_
    rintro e w' ⟨rfl, rfl⟩
    go_wp2_with fail
    refine (Cmp_any _ _ _ _ _ _ _ _ _ rfl rfl hA hB).mono ?_
    rintro e w1 ⟨rfl, hq⟩
    go_wp2_with fail
    go_ret2
    exact ⟨none, 0, [], by simp [hle], Own.nil _ _, canon_nil, by simp only [val_nil]; omega, hq.ext⟩

end Go.Proofs.Ytekhnajfdaknnaa
