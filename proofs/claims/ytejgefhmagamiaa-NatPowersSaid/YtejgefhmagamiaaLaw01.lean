/-
  Contracts of the statements' helpers short and same.
-/
import Derived.Test.YtejgefhmagamiaaRefA
namespace Go.Proofs.Ytejgefhmagamiaa
open Go.RowKit

set_option maxHeartbeats 400000 in
theorem short_any (ao : Option Addr) (n c : Nat) (bo : Option Addr) (m d : Nat) (k : Int) (w : World) :
    Calls Try.prog 15 #[.slice ao n c, .slice bo m d, .int .i64 k] w fun e w' => e = .returned (.bool (decide ((n : Int) ≤ k ∧ (m : Int) ≤ k))) ∧ w = w' := by
  by_cases h1 : (n : Int) ≤ k
  · by_cases h2 : (m : Int) ≤ k
    · have hres : decide ((n : Int) ≤ k ∧ (m : Int) ≤ k) = true := by simp [h1, h2]
      rw [hres]
      clear hres
      go_enter Try.func15, Try.ntmps15
      go_wp2_with fail
      go_ret
      exact ⟨rfl, rfl⟩
    · have hres : decide ((n : Int) ≤ k ∧ (m : Int) ≤ k) = false := by simp [h2]
      rw [hres]
      clear hres
      go_enter Try.func15, Try.ntmps15
      go_wp2_with fail
      go_ret
      exact ⟨rfl, rfl⟩
  · have hres : decide ((n : Int) ≤ k ∧ (m : Int) ≤ k) = false := by simp [h1]
    rw [hres]
    clear hres
    go_enter Try.func15, Try.ntmps15
    go_wp2_with fail
    go_ret
    exact ⟨rfl, rfl⟩

set_option maxHeartbeats 400000 in
theorem same_yes (ao : Option Addr) (n c : Nat) (xs : List Nat) (bo : Option Addr) (m d : Nat) (ys : List Nat) (w : World) (hn : n = xs.length) (hm : m = ys.length) (ha : Rd w ao c xs) (hb : Rd w bo d ys) (hcx : Canon xs) (hcy : Canon ys) (hv : val xs = val ys) :
    Calls Try.prog 18 #[.slice ao n c, .slice bo m d] w fun e w' => e = .returned (.bool true) ∧ Qt w w' := by
  have e := canon_inj hcx hcy hv
  subst e hn
  subst hm
  clear hv hcy
  rcases Nat.eq_zero_or_pos xs.length with h0 | hp
  · have : xs = [] := List.length_eq_zero_iff.1 h0
    subst this
    go_enter Try.func18, Try.ntmps18
    go_wp2_with fail
    refine (Same_yes _ _ _ [] _ _ _ [] _ rfl rfl ha hb rfl).mono ?_
    rintro e w' ⟨rfl, hq⟩
    go_wp2_with fail
    go_ret
    exact ⟨rfl, hq⟩
  · have hlast := hcx.2 hp
    have hz : ((xs.length : Int) == 0) = false := beq_eq_false_iff_ne.2 (by omega)
    have hlb : (((lim xs (xs.length - 1) : Nat) : Int) != 0) = true := by simpa using hlast
    have mA := ha.mx
    have cA := ha.cap
    clear hlast
    go_enter Try.func18, Try.ntmps18
    go_wp2_with fail
    refine (Same_yes _ _ _ xs _ _ _ xs _ rfl rfl ha hb rfl).mono ?_
    rintro e w' ⟨rfl, hq⟩
    have hx := (ha.ext hq.ext).cell (xs.length - 1) (by omega)
    have hix := ixn ha .i64 ((xs.length : Int) - 1) w' (by omega) (by omega)
    go_wp2_with fail
    go_ret
    exact ⟨rfl, hq⟩
end Go.Proofs.Ytejgefhmagamiaa
