/-
  What statements about numbers with a sign need: sameness, lengths, Euclid's numbers; from contracts back to calls.
-/
import Derived.Test.YtehbfobfkpejoaaZc
namespace Go.Proofs.Ytehbfobfkpejoaa.S
open Go.RowKit

theorem Ssame2 (x y : ZI) (h : x = y) (X : Int) (hx : x = ZI.of X) (l : x.abs.length ≤ 100000) : Fn Try.prog 16 [] [vz x, vz y] (vb true) [] := by
  subst h hx
  exact Ssame X X rfl l
theorem Sis2 (x : ZI) (E : Int) (h : x = ZI.of E) (l : x.abs.length ≤ 100000) (hI : -9223372036854775808 ≤ E ∧ E ≤ 9223372036854775807) : Fn Try.prog 61 [] [vz x, vi .i64 E] (vb true) [] := by
  subst h
  exact Sis E E rfl l hI
theorem len_ceil {x y : ZI} (hx : Lb x.abs) (h : y.val ≠ 0) : (ZI.of (-((-x.val).fdiv y.val))).abs.length ≤ x.abs.length :=
  ZI.len_of (by rw [Int.natAbs_neg]; exact Nat.lt_of_le_of_lt (fdiv_natAbs_le _ h) (by rw [Int.natAbs_neg]; exact ZI.abs_lt hx))
theorem hat_abs {X Y : Int} (h : 0 < Y) : (hatZ X Y).natAbs < Y.natAbs := by
  rw [hat_ref h]
  have := (fmod_range X (by omega : Y ≠ 0)).1 h
  split <;> omega
theorem len_hat {x y : ZI} (hy : Lb y.abs) (h : 0 < y.val) : (ZI.of (hatZ x.val y.val)).abs.length ≤ y.abs.length := ZI.len_of (Nat.lt_trans (hat_abs h) (ZI.abs_lt hy))
theorem len_lcm {x y : ZI} (hx : Lb x.abs) (hy : Lb y.abs) : (ZI.of (Nat.lcm x.val.natAbs y.val.natAbs : Int)).abs.length ≤ x.abs.length + y.abs.length := by
  refine ZI.len_of ?_
  rw [Int.natAbs_natCast]
  exact Nat.lt_of_le_of_lt (Nat.div_le_self _ _) (mul_lt_pw (ZI.abs_lt hx) (ZI.abs_lt hy))
theorem len_min {x y : ZI} (hx : Lb x.abs) (hy : Lb y.abs) : (ZI.of (min x.val y.val)).abs.length ≤ x.abs.length + y.abs.length := by
  have h1 := ZI.abs_lt hx
  have h2 := ZI.abs_lt hy
  have e1 := pw_le (show x.abs.length ≤ x.abs.length + y.abs.length by omega)
  have e2 := pw_le (show y.abs.length ≤ x.abs.length + y.abs.length by omega)
  refine ZI.len_of ?_
  rcases Int.le_total x.val y.val with h | h
  · rw [Int.min_eq_left h]; omega
  · rw [Int.min_eq_right h]; omega
theorem len_max {x y : ZI} (hx : Lb x.abs) (hy : Lb y.abs) : (ZI.of (max x.val y.val)).abs.length ≤ x.abs.length + y.abs.length := by
  have h1 := ZI.abs_lt hx
  have h2 := ZI.abs_lt hy
  have e1 := pw_le (show x.abs.length ≤ x.abs.length + y.abs.length by omega)
  have e2 := pw_le (show y.abs.length ≤ x.abs.length + y.abs.length by omega)
  refine ZI.len_of ?_
  rcases Int.le_total x.val y.val with h | h
  · rw [Int.max_eq_right h]; omega
  · rw [Int.max_eq_left h]; omega
/-- Euclid's numbers at their end -/
theorem bez_ends : ∀ (n : Nat) {A B r0 x0 y0 r1 x1 y1 : Int}, r1.natAbs ≤ n → BzI A B r0 x0 y0 r1 x1 y1 → (x0.natAbs : Int) ≤ B + 1 → (y0.natAbs : Int) ≤ A + 1 →
    ∃ g p q, bez A 1 0 B 0 1 = (g, p, q) ∧ g = (Nat.gcd A.natAbs B.natAbs : Int) ∧ g = A * p + B * q ∧ (p.natAbs : Int) ≤ B + 1 ∧ (q.natAbs : Int) ≤ A + 1
  | n, A, B, r0, x0, y0, r1, x1, y1, hn, h, h1, h2 => by
    by_cases hr : r1 = 0
    · obtain ⟨k1, k2⟩ := h.done hr
      exact ⟨r0, x0, y0, k1, k2, h.e0, h1, h2⟩
    · match n with
      | 0 => omega
      | n + 1 =>
        have hm := fmod_natAbs_lt r0 hr
        exact bez_ends n (by omega) (h.step hr) h.lx h.ly
theorem bezV_spec (x y : ZI) : (bezV x y).1 = (Nat.gcd x.val.natAbs y.val.natAbs : Int) ∧ (bezV x y).1 = (x.val.natAbs : Int) * (bezV x y).2.1 + (y.val.natAbs : Int) * (bezV x y).2.2 ∧ ((bezV x y).2.1.natAbs : Int) ≤ y.val.natAbs + 1 ∧ ((bezV x y).2.2.natAbs : Int) ≤ x.val.natAbs + 1 := by
  obtain ⟨g, p, q, h1, h2, h3, h4, h5⟩ := bez_ends _ (Nat.le_refl _) (BzI.start (A := (x.val.natAbs : Int)) (B := (y.val.natAbs : Int)) (by omega) (by omega)) (by simp; omega) (by simp; omega)
  unfold bezV
  rw [h1]
  exact ⟨by rw [h2]; simp, h3, h4, h5⟩
theorem bez_law (x y : ZI) : x.val * bezX x y + y.val * bezY x y = (Nat.gcd x.val.natAbs y.val.natAbs : Int) := by
  obtain ⟨h1, h2, _, _⟩ := bezV_spec x y
  rw [← h1, h2]
  unfold bezX bezY
  congr 1
  · split
    · rename_i h
      have e : (x.val.natAbs : Int) = -x.val := by omega
      rw [e, Int.mul_neg, Int.neg_mul]
    · rename_i h
      have e : (x.val.natAbs : Int) = x.val := by omega
      rw [e]
  · split
    · rename_i h
      have e : (y.val.natAbs : Int) = -y.val := by omega
      rw [e, Int.mul_neg, Int.neg_mul]
    · rename_i h
      have e : (y.val.natAbs : Int) = y.val := by omega
      rw [e]
theorem len_near {z : Int} {x y : ZI} (hx : Lb x.abs) (hy : Lb y.abs) (h : (z.natAbs : Int) ≤ x.val.natAbs + y.val.natAbs + 1) : (ZI.of z).abs.length ≤ x.abs.length + y.abs.length + 2 := by
  have h1 := ZI.abs_lt hx
  have h2 := ZI.abs_lt hy
  have e1 := pw_le (show x.abs.length ≤ x.abs.length + y.abs.length by omega)
  have e2 := pw_le (show y.abs.length ≤ x.abs.length + y.abs.length by omega)
  have e3 := pw_pos (x.abs.length + y.abs.length)
  refine ZI.len_of ?_
  rw [show x.abs.length + y.abs.length + 2 = (x.abs.length + y.abs.length + 1) + 1 from rfl, pw_succ, pw_succ]
  omega
theorem len_bezX {x y : ZI} (hx : Lb x.abs) (hy : Lb y.abs) : (ZI.of (bezX x y)).abs.length ≤ x.abs.length + y.abs.length + 2 := by
  obtain ⟨_, _, h3, h4⟩ := bezV_spec x y
  refine len_near hx hy ?_
  unfold bezX
  split <;> (try rw [Int.natAbs_neg]) <;> omega
theorem len_bezY {x y : ZI} (hx : Lb x.abs) (hy : Lb y.abs) : (ZI.of (bezY x y)).abs.length ≤ x.abs.length + y.abs.length + 2 := by
  obtain ⟨_, _, h3, h4⟩ := bezV_spec x y
  refine len_near hx hy ?_
  unfold bezY
  split <;> (try rw [Int.natAbs_neg]) <;> omega

/-- all that there is -/
def all (w : World) : Im := fun b => w.heap[b]?
theorem rd_dr {w : World} {ao : Option Addr} {c : Nat} {zs : List Nat} (h : Rd w ao c zs) : DR (all w) (nsl zs) (.slice ao zs.length c) := by
  rcases Nat.eq_zero_or_pos zs.length with h0 | hp
  · have : zs = [] := List.length_eq_zero_iff.1 h0
    subst this
    exact .nil 1 ao c h.nl (by simpa [maxLen] using h.mx)
  · have ha := h.ad hp
    have h0 := h.cell 0 hp
    unfold World.cell? at h0
    split at h0
    · rename_i cs ty fz hb
      rw [ha]
      have := DR.sl (H := all w) 1 (zs.map fun (x : Nat) => [.raw (.int .u32 (x : Int))]) (bk ao) (Go.Proofs.Ytehbfobfkpejoaa.of ao) c cs ty fz (fun i _ => .int .u32 (lim zs i)) (by simpa using hp) hb (by simpa using h.cap) (by simpa [maxLen] using h.mx) (fun i hi => by simp) (fun i hi j hj => ?_) (fun i hi j hj => ?_)
      · simpa [nsl] using this
      · have hi' : i < zs.length := by simpa using hi
        obtain rfl : j = 0 := by omega
        have h1 := h.cell i hi'
        simp only [World.cell?, hb] at h1
        simpa using h1
      · have hi' : i < zs.length := by simpa using hi
        obtain rfl : j = 0 := by simp at hj; omega
        have e : lim zs i = zs[i] := by unfold lim; simp [List.getD_eq_getElem?_getD, hi']
        simp only [List.getElem_map, List.getElem_cons_zero, e]
        exact .raw _ rfl
    · cases h0
theorem rd_vz {w : World} {s : Bool} {ao : Option Addr} {c : Nat} {zs : List Nat} (h : Rd w ao c zs) (B : Bl) : VR (all w) B (vz ⟨s, zs⟩) (.agg #[.bool s, .slice ao zs.length c]) :=
  ⟨[.bool s, .slice ao zs.length c], rfl, DR.raw _ rfl, rd_dr h, trivial⟩
/-- a statement's walk, in the form of calls -/
theorem Fn.calls {k : FuncId} {args : List V} {vals : List Value} {w : World} (h : Fn Try.prog k [] args (vb true) []) (ha : ∀ B, All2 (VR (all w) B) args vals) : Calls Try.prog k ⟨vals⟩ w (GotP (.bool true) w) := by
  refine (h w (all w) (fun _ => none) vals ⟨fun b o hb => hb, fun p hp => (by cases hp), fun p hp => (by cases hp), fun p hp => (by cases hp), ha _⟩).mono ?_
  rintro en w' ⟨v, H', B', rfl, post⟩
  have := VR.rawI post.res
  subst this
  exact ⟨rfl, post.ext.os, post.ext.tape, post.ext.output, post.ext.size, fun b hb => post.ext.block b hb (by rintro ⟨p, hp, _⟩; cases hp)⟩
end Go.Proofs.Ytehbfobfkpejoaa.S
