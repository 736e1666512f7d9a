/-
  Contracts of zint.Small and the reference's.
-/
import Derived.Test.YtehbfobfkpejoaaIntF
namespace Go.Proofs.Ytehbfobfkpejoaa
open Go.RowKit


/-- a number as an int64, if it is one -/
def smallZ (z : Int) : Int × Bool := if -9223372036854775808 ≤ z ∧ z ≤ 9223372036854775807 then (z, true) else (0, false)
theorem or_join2 (R x : Nat) (hR : R < 4294967296) (hx : x < 4294967296) : bits BinOp.or .u64 (x : Int) ((R : Int) * 4294967296) = ((x + 4294967296 * R : Nat) : Int) := by
  have e : ((R : Int) * 4294967296) = ((R * 4294967296 : Nat) : Int) := by rw [Int.natCast_mul]; rfl
  rw [e, bits_or_u64_nat _ _ (by omega) (by omega)]
  have h := Nat.two_pow_add_eq_or_of_lt (i := 32) (b := x) (by omega) R
  rw [Nat.or_comm, Nat.mul_comm R, show (4294967296 : Nat) = 2 ^ 32 from rfl, ← h]
  omega
theorem wrap_mul32 (x : Nat) (hx : x < 4294967296) : IntKind.u64.wrap (IntKind.u64.wrap (x : Int) * 4294967296) = (x : Int) * 4294967296 := by
  rw [IntKind.wrap_u64, IntKind.wrap_u64]; omega
theorem small_yes {z x : Int} (hz : z = x) (h1 : -9223372036854775808 ≤ x) (h2 : x ≤ 9223372036854775807) : smallZ z = (x, true) := by
  subst hz; unfold smallZ; rw [if_pos ⟨h1, h2⟩]
theorem small_no {z : Int} (h : z < -9223372036854775808 ∨ 9223372036854775807 < z) : smallZ z = (0, false) := by
  unfold smallZ; rw [if_neg (by omega)]
theorem small_end {z : Int} {p q : Int × Bool} (h : smallZ z = p) (k : smallZ z = q) : p = q := h.symm.trans k
theorem or_zero (x : Nat) (hx : x < 4294967296) : bits BinOp.or .u64 0 (x : Int) = (x : Int) := by
  have := or_join2 0 0 (by omega) (by omega)
  have h2 := bits_or_u64_nat 0 x (by omega) (by omega)
  rw [Nat.zero_or] at h2
  exact h2

set_option maxRecDepth 100000 in
set_option maxHeartbeats 2000000 in
theorem ZSmall_any (s : Bool) (ao : Option Addr) (n c : Nat) (zs : List Nat) (w : World) (v : Int) (ok : Bool) (hn : n = zs.length) (h : Rd w ao c zs) (hl : zs.length ≤ 300000) (hg : smallZ (iv s zs) = (v, ok)) :
    Calls Try.prog 38 #[.agg #[.bool s, .slice ao n c]] w (GotP (.tuple #[.int .i64 v, .bool ok]) w) := by
  subst hn
  replace hg := Lib.hid hg
  go_enter Try.func38, Try.ntmps38
  go_wp2_with fail
  refine (clean_any s _ _ _ zs _ rfl (h.ext ((Ext.refl _).alloc _)) (by first | omega | (simp; done) | (simp; omega))).mono ?_
  rintro e w1 ⟨r1s, r1a, r1c, r1z, r1B, rfl, r1b, r1o, r1k, r1v, r1l, xx⟩
  try simp at r1b
  try simp only [List.length_cons, List.length_nil] at r1l
  have hE : Ext w w1 := Ext.trans ((Ext.refl _).alloc _) xx
  have hz1 : w.heap.size + 1 ≤ w1.heap.size := (by have hq := Ext.size xx; (try simp at hq); omega)
  have hb0 : w.heap.size < w1.heap.size := (by omega)
  have fq0_0 := Ext.free (p := ⟨w.heap.size, 0, none⟩) (v := .bool s) xx (by first | exact True | go_simp | (repeat (first | assumption | (refine (World.cell?_setCell_far _ _ _ _ (by simp <;> omega)).trans ?_) | (refine (World.cell?_alloc_lt _ _ _ (World.block_lt_of_cell? _ _ (by assumption))).trans ?_) | go_simp))) (by first | assumption | go_simp)
  have q0_0 := Ext.cell (p := ⟨w.heap.size, 0, none⟩) (v := .bool s) xx (by first | exact True | go_simp | (repeat (first | assumption | (refine (World.cell?_setCell_far _ _ _ _ (by simp <;> omega)).trans ?_) | (refine (World.cell?_alloc_lt _ _ _ (World.block_lt_of_cell? _ _ (by assumption))).trans ?_) | go_simp)))
  have fq0_1 := Ext.free (p := ⟨w.heap.size, 1, none⟩) (v := .slice ao zs.length c) xx (by first | exact True | go_simp | (repeat (first | assumption | (refine (World.cell?_setCell_far _ _ _ _ (by simp <;> omega)).trans ?_) | (refine (World.cell?_alloc_lt _ _ _ (World.block_lt_of_cell? _ _ (by assumption))).trans ?_) | go_simp))) (by first | assumption | go_simp)
  have q0_1 := Ext.cell (p := ⟨w.heap.size, 1, none⟩) (v := .slice ao zs.length c) xx (by first | exact True | go_simp | (repeat (first | assumption | (refine (World.cell?_setCell_far _ _ _ _ (by simp <;> omega)).trans ?_) | (refine (World.cell?_alloc_lt _ _ _ (World.block_lt_of_cell? _ _ (by assumption))).trans ?_) | go_simp)))
  clear xx
  by_cases h2 : 2 < r1z.length
  · have hr : Hid ((v, ok) = (0, false)) := small_end hg.out (small_no (by
      have h3 := canon_ge r1k.out.1 (by omega)
      have h4 : pw 2 ≤ pw (r1z.length - 1) := pw_le (by omega)
      have h5 : pw 2 = 18446744073709551616 := rfl
      have h6 := iv_abs r1s r1z
      rw [r1v.out] at h6
      omega))
    go_wp2_with fail
    go_ret2
    exact ⟨by rw [(Prod.mk.inj hr.out).1, (Prod.mk.inj hr.out).2]; rfl, (Ext.st (Ext.st hE (b := w.heap.size) (by omega) _ _) (b := w.heap.size) (by omega) _ _)⟩
  · have hrd := (Own.st (Own.st r1o (b := w.heap.size) (by omega) 0 (.bool r1s)) (b := w.heap.size) (by omega) 1 (.slice r1a r1z.length r1c)).rd
    go_wp2_with fail
    trace_state
    go_loop [4, 16] (fun n i => ∃ k : Nat, k ≤ r1z.length ∧ i = .int .i64 k ∧ n = .int .u64 (vk r1z k)) (fun _ i => (r1z.length - intOf i).toNat)
    case atStart => exact ⟨0, Nat.zero_le _, rfl, by rw [vk_zero]; rfl⟩
    case round =>
      obtain ⟨k, hk, rfl, rfl⟩ := hrel
      by_cases hkA : k < r1z.length
      · have hx := hrd.cell k hkA
        have bx := lim_lt r1k.out.1.1 k
        rcases k with _ | _ | k
        · rw [vk_zero]
          have hix := ixe hrd r1z.length rfl 0 0 rfl hkA
          simp only [Nat.add_zero] at hix hx
          go_wp2_with fail
          exact ⟨⟨1, by omega, rfl, by rw [or_zero _ bx, vk_succ, vk_zero]; simp [pw_zero]⟩, by simp [intOf]; omega⟩
        · have hix := ixe hrd r1z.length rfl 1 1 rfl hkA
          have b0 := lim_lt r1k.out.1.1 0
          go_wp2_with fail
          refine ⟨⟨2, by omega, rfl, ?_⟩, by simp [intOf]; omega⟩
          have e : vk r1z 1 = lim r1z 0 := by rw [vk_succ, vk_zero]; simp [pw_zero]
          rw [wrap_mul32 _ bx, e, or_join2 _ _ bx b0]
          have e2 : vk r1z 2 = lim r1z 0 + 4294967296 * lim r1z 1 := by rw [vk_succ, e]; rfl
          rw [e2]
        · omega
      · have hke : r1z.length = k := by omega
        have hval : vk r1z k = val r1z := vk_full (by omega)
        obtain ⟨V, hV⟩ : ∃ V, val r1z = V := ⟨_, rfl⟩
        rw [hval, hV]
        have hVb : V < 18446744073709551616 := by
          rw [← hV]
          exact Nat.lt_of_lt_of_le (val_lt r1k.out.1.1) (show pw r1z.length ≤ pw 2 from pw_le (by omega))
        have hZ : Hid (iv s zs = if r1s then -(V : Int) else (V : Int)) := by unfold Hid; rw [← r1v.out]; unfold iv; rw [hV]
        clear hval hV
        cases r1s
        · have hZ1 : Hid (iv s zs = (V : Int)) := hZ.out
          by_cases hbig : 9223372036854775807 < V
          · go_wp2_with fail
            go_ret2
            exact ⟨by have hr := small_end hg.out (small_no (by rw [hZ1.out]; omega)); rw [(Prod.mk.inj hr).1, (Prod.mk.inj hr).2]; rfl, (Ext.st (Ext.st hE (b := w.heap.size) (by omega) _ _) (b := w.heap.size) (by omega) _ _)⟩
          · go_wp2_with fail
            go_ret2
            exact ⟨by have hr := small_end hg.out (small_yes hZ1.out (by omega) (by omega)); rw [(Prod.mk.inj hr).1, (Prod.mk.inj hr).2]; rfl, (Ext.st (Ext.st hE (b := w.heap.size) (by omega) _ _) (b := w.heap.size) (by omega) _ _)⟩
        · have hZ1 : Hid (iv s zs = -(V : Int)) := hZ.out
          by_cases hmin : V = 9223372036854775808
          · have hr : Hid ((v, ok) = (-9223372036854775808, true)) := small_end hg.out (small_yes (by rw [hZ1.out, hmin]; rfl) (by omega) (by omega))
            have hmb : ((V : Int) == 9223372036854775808) = true := beq_iff_eq.2 (by omega)
            clear hmin
            go_wp2_with fail
            go_ret2
            exact ⟨by rw [(Prod.mk.inj hr.out).1, (Prod.mk.inj hr.out).2]; rfl, (Ext.st (Ext.st hE (b := w.heap.size) (by omega) _ _) (b := w.heap.size) (by omega) _ _)⟩
          · have hmb : ((V : Int) == 9223372036854775808) = false := beq_eq_false_iff_ne.2 (by omega)
            by_cases hbig : 9223372036854775807 < V
            · go_wp2_with fail
              go_ret2
              exact ⟨by have hr := small_end hg.out (small_no (by rw [hZ1.out]; omega)); rw [(Prod.mk.inj hr).1, (Prod.mk.inj hr).2]; rfl, (Ext.st (Ext.st hE (b := w.heap.size) (by omega) _ _) (b := w.heap.size) (by omega) _ _)⟩
            · go_wp2_with fail
              go_ret2
              exact ⟨by have hr := small_end hg.out (small_yes hZ1.out (by omega) (by omega)); rw [(Prod.mk.inj hr).1, (Prod.mk.inj hr).2]; rfl, (Ext.st (Ext.st hE (b := w.heap.size) (by omega) _ _) (b := w.heap.size) (by omega) _ _)⟩

def SmallR (w : World) (s : Bool) (ao : Option Addr) (c : Nat) (zs : List Nat) (po : Option Addr) (tc : Nat) (ts : List Nat) (n i : Value) (wr : World) : Prop :=
  ∃ k : Nat, k ≤ ts.length ∧ i = .int .i64 ((k : Int) - 1) ∧ n = .int .i64 (iv s (ts.drop k)) ∧ wr.cell? ⟨w.heap.size, 0, none⟩ = some (.bool s) ∧ wr.cell? ⟨w.heap.size, 1, none⟩ = some (.slice ao zs.length c) ∧ Rd wr po tc ts ∧ Ext w wr
theorem two_steps {ts : List Nat} {k : Nat} (hk : k < ts.length) (T : Nat) (hT : val ts ≤ T) :
    val (ts.drop k) = lim ts k + 4294967296 * val (ts.drop (k + 1)) ∧ val (ts.drop k) ≤ T := by
  have h1 := vd_step hk
  unfold vd at h1
  refine ⟨h1, ?_⟩
  have h3 := vk_split ts k (by omega)
  have h4 := pw_pos k
  have h5 : 1 * val (ts.drop k) ≤ pw k * val (ts.drop k) := Nat.mul_le_mul_right _ h4
  omega

set_option maxRecDepth 100000 in
set_option maxHeartbeats 4000000 in
theorem RSmall_any (s : Bool) (ao : Option Addr) (n c : Nat) (zs : List Nat) (w : World) (v : Int) (ok : Bool) (hn : n = zs.length) (h : Rd w ao c zs) (hl : zs.length ≤ 300000) (hg : smallZ (iv s zs) = (v, ok)) :
    Calls Try.prog 39 #[.agg #[.bool s, .slice ao n c]] w (GotP (.tuple #[.int .i64 v, .bool ok]) w) := by
  subst hn
  replace hg := Lib.hid hg
  obtain ⟨x, hx⟩ : ∃ x, sgn (iv s zs) = x := ⟨_, rfl⟩
  replace hx := Lib.hid hx
  go_enter Try.func39, Try.ntmps39
  go_wp2_with fail
  refine (RTrimM _ _ _ zs _ rfl (h.ext ((Ext.refl _).alloc _)) (by first | omega | (simp; done) | (simp; omega))).mono ?_
  rintro e w1 ⟨r1a, r1c, r1z, r1B, rfl, r1b, r1o, r1k, r1v, r1l, xx⟩
  try simp at r1b
  try simp only [List.length_cons, List.length_nil] at r1l
  have hE : Ext w w1 := Ext.trans ((Ext.refl _).alloc _) xx
  have hz1 : w.heap.size + 1 ≤ w1.heap.size := (by have hq := Ext.size xx; (try simp at hq); omega)
  have hb0 : w.heap.size < w1.heap.size := (by omega)
  have q0_0 := Ext.cell (p := ⟨w.heap.size, 0, none⟩) (v := .bool s) xx (by first | exact True | go_simp | (repeat (first | assumption | (refine (World.cell?_setCell_far _ _ _ _ (by simp <;> omega)).trans ?_) | (refine (World.cell?_alloc_lt _ _ _ (World.block_lt_of_cell? _ _ (by assumption))).trans ?_) | go_simp)))
  have q0_1 := Ext.cell (p := ⟨w.heap.size, 1, none⟩) (v := .slice ao zs.length c) xx (by first | exact True | go_simp | (repeat (first | assumption | (refine (World.cell?_setCell_far _ _ _ _ (by simp <;> omega)).trans ?_) | (refine (World.cell?_alloc_lt _ _ _ (World.block_lt_of_cell? _ _ (by assumption))).trans ?_) | go_simp)))
  clear xx
  by_cases h2 : 2 < r1z.length
  · have hr : Hid ((v, ok) = (0, false)) := small_end hg.out (small_no (by
      have h3 := canon_ge r1k.out (by omega)
      have h4 : pw 2 ≤ pw (r1z.length - 1) := pw_le (by omega)
      have h5 : pw 2 = 18446744073709551616 := rfl
      have h6 := iv_abs s zs
      have h7 := r1v.out
      omega))
    go_wp2_with fail
    go_ret2
    exact ⟨by rw [(Prod.mk.inj hr.out).1, (Prod.mk.inj hr.out).2]; rfl, hE⟩
  have h22 : r1z.length ≤ 2 := by omega
  go_wp2_with fail
  refine (RSign_any s _ _ _ zs _ x rfl (h.ext (hE.alloc _)) (by first | omega | (simp; done) | (simp; omega)) hx.out).mono ?_
  rintro e w2 ⟨rfl, xx⟩
  replace hE := Ext.trans (hE.alloc _) xx
  have hz2 : w1.heap.size + 1 ≤ w2.heap.size := (by have hq := Ext.size xx; (try simp at hq); omega)
  replace r1o := Own.ext (r1o.alloc _) xx
  have lit1o := Own.ext (row2b _ (w1.heap.size) _ _ 4294967295 2147483647 (by simp) rfl rfl (by omega) (by omega)) xx
  have hb0 : w.heap.size < w2.heap.size := (by omega)
  have q0_0 := Ext.cell (p := ⟨w.heap.size, 0, none⟩) (v := .bool s) xx (by first | exact q0_0 | go_simp | (repeat (first | assumption | (refine (World.cell?_setCell_far _ _ _ _ (by simp <;> omega)).trans ?_) | (refine (World.cell?_alloc_lt _ _ _ (World.block_lt_of_cell? _ _ (by assumption))).trans ?_) | go_simp)))
  have q0_1 := Ext.cell (p := ⟨w.heap.size, 1, none⟩) (v := .slice ao zs.length c) xx (by first | exact q0_1 | go_simp | (repeat (first | assumption | (refine (World.cell?_setCell_far _ _ _ _ (by simp <;> omega)).trans ?_) | (refine (World.cell?_alloc_lt _ _ _ (World.block_lt_of_cell? _ _ (by assumption))).trans ?_) | go_simp)))
  clear xx
  by_cases hneg : x < 0
  · obtain ⟨g, hg3⟩ : ∃ g, cmpI (val r1z) (val [0, 2147483648]) = g := ⟨_, rfl⟩
    have hval : val [0, 2147483648] = 9223372036854775808 := rfl
    rw [hval] at hg3
    replace hg3 : Hid (cmpI (val r1z) (val [0, 2147483648]) = g) := by rw [hval]; exact hg3
    have hz : Hid (iv s zs < 0) := sgn_lt_zero.1 (by rw [hx.out]; exact hneg)
    have hbig : 0 < g ↔ 9223372036854775808 < val r1z := by
      rw [← hg3.out, hval]; unfold cmpI; split; omega; split <;> omega
    have Hbig := Lib.hid hbig
    clear hbig hval
    go_wp2_with fail
    refine (RCmpP _ _ _ r1z _ _ _ [0, 2147483648] _ g rfl rfl (r1o.alloc _).rd (row2b _ (w2.heap.size) _ _ 0 2147483648 (by simp) rfl rfl (by omega) (by omega)).rd hg3.out).mono ?_
    rintro e w3 ⟨rfl, xx⟩
    replace hE := Ext.trans (hE.alloc _) xx
    have hz3 : w2.heap.size + 1 ≤ w3.heap.size := (by have hq := Ext.size xx; (try simp at hq); omega)
    replace r1o := Own.ext (r1o.alloc _) xx
    have hb0 : w.heap.size < w3.heap.size := (by omega)
    have q0_0 := Ext.cell (p := ⟨w.heap.size, 0, none⟩) (v := .bool s) xx (by first | exact q0_0 | go_simp | (repeat (first | assumption | (refine (World.cell?_setCell_far _ _ _ _ (by simp <;> omega)).trans ?_) | (refine (World.cell?_alloc_lt _ _ _ (World.block_lt_of_cell? _ _ (by assumption))).trans ?_) | go_simp)))
    have q0_1 := Ext.cell (p := ⟨w.heap.size, 1, none⟩) (v := .slice ao zs.length c) xx (by first | exact q0_1 | go_simp | (repeat (first | assumption | (refine (World.cell?_setCell_far _ _ _ _ (by simp <;> omega)).trans ?_) | (refine (World.cell?_alloc_lt _ _ _ (World.block_lt_of_cell? _ _ (by assumption))).trans ?_) | go_simp)))
    clear xx
    by_cases hgt : 0 < g
    · have hr : Hid ((v, ok) = (0, false)) := small_end hg.out (small_no (by
        have h6 := iv_abs s zs
        have h7 := r1v.out
        have h8 := hz.out
        have h9 := Hbig.out.1 hgt
        omega))
      go_wp2_with fail
      go_ret2
      exact ⟨by rw [(Prod.mk.inj hr.out).1, (Prod.mk.inj hr.out).2]; rfl, hE⟩
    · have hV : Hid (val r1z ≤ 9223372036854775808) := Nat.le_of_not_lt (fun q => hgt (Hbig.out.2 q))
      have hr : Hid ((v, ok) = (iv s zs, true)) := small_end hg.out (small_yes rfl (by
        have h6 := iv_abs s zs
        have h7 := r1v.out
        have h8 := hz.out
        have h9 := hV.out
        omega) (by
        have h6 := iv_abs s zs
        have h7 := r1v.out
        have h8 := hz.out
        have h9 := hV.out
        omega))
      have hs : s = true ∨ val zs = 0 := by
        have h8 := hz.out
        cases s
        · unfold iv at h8; simp at h8; omega
        · left; rfl
      go_wp2_with fail
      go_loopw [6, 7] (SmallR w s ao c zs r1a r1c r1z) (fun _ i _ => (intOf i + 1).toNat)
      case atStart => exact ⟨r1z.length, Nat.le_refl _, rfl, by rw [List.drop_length, iv_nil], q0_0, q0_1, r1o.rd, hE⟩
      case round =>
        obtain ⟨k, hk, rfl, rfl, q0_0, q0_1, r1r, hE⟩ := hrel
        rcases k with _ | k
        · have hfin : Hid (iv s (r1z.drop 0) = iv s zs) := by unfold Hid; rw [List.drop_zero]; unfold iv; rw [r1v.out]
          go_wp2_with fail
          go_ret2
          exact ⟨by rw [(Prod.mk.inj hr.out).1, (Prod.mk.inj hr.out).2, ← hfin.out]; rfl, hE⟩
        · have bx := lim_lt r1k.out.1 k
          have ek : ((k + 1 : Nat) : Int) - 1 = (k : Int) := by omega
          rw [ek]
          clear ek
          obtain ⟨st1, st2⟩ := two_steps (show k < r1z.length by omega) _ hV.out
          obtain ⟨N, hN⟩ : ∃ N, N = val (r1z.drop (k + 1)) := ⟨_, rfl⟩
          rw [← hN] at st1
          have hn : iv s (r1z.drop (k + 1)) = -(N : Int) := by
            rw [hN]
            rcases hs with e | e
            · rw [e]; rfl
            · have h7 := r1v.out
              rw [e] at h7
              have h8 := vk_split r1z (k + 1) (by omega)
              have h9 := pw_pos (k + 1)
              have h10 : 1 * val (r1z.drop (k + 1)) ≤ pw (k + 1) * val (r1z.drop (k + 1)) := Nat.mul_le_mul_right _ h9
              have h11 : val (r1z.drop (k + 1)) = 0 := by omega
              unfold iv; rw [h11]; cases s <;> rfl
          have hn2 : Hid (iv s (r1z.drop k) = -(N : Int) * 4294967296 - (lim r1z k : Int)) := by
            unfold Hid
            rcases hs with e | e
            · rw [e]; unfold iv; rw [st1]; simp; omega
            · have h7 := r1v.out
              rw [e] at h7
              have h8 := vk_split r1z k (by omega)
              have h9 := pw_pos k
              have h10 : 1 * val (r1z.drop k) ≤ pw k * val (r1z.drop k) := Nat.mul_le_mul_right _ h9
              have h11 : val (r1z.drop k) = 0 := by omega
              have h12 : iv s (r1z.drop k) = 0 := by unfold iv; rw [h11]; cases s <;> rfl
              rw [h12]; omega
          rw [hn]
          have bN : N * 4294967296 + lim r1z k ≤ 9223372036854775808 := by omega
          have hix := ixk r1r r1z.length rfl k (by omega) wr
          clear hn hN st1 st2
          go_wp2_with fail
          refine (RSign_any s _ _ _ zs _ x rfl (h.ext hE) (by omega) hx.out).mono ?_
          rintro e w9 ⟨rfl, xx⟩
          have hc := (r1r.ext xx).cell k (by omega)
          have hix2 := ixk r1r r1z.length rfl k (by omega) w9
          go_wp2_with fail
          go_roundw
          case rel => exact ⟨k, by omega, by go_num, by rw [hn2.out], Ext.cell xx q0_0, Ext.cell xx q0_1, r1r.ext xx, hE.trans xx⟩
          case measure => simp [intOf]; try omega
  · obtain ⟨g, hg3⟩ : ∃ g, cmpI (val r1z) (val [4294967295, 2147483647]) = g := ⟨_, rfl⟩
    have hval : val [4294967295, 2147483647] = 9223372036854775807 := rfl
    rw [hval] at hg3
    replace hg3 : Hid (cmpI (val r1z) (val [4294967295, 2147483647]) = g) := by rw [hval]; exact hg3
    have hz : Hid (0 ≤ iv s zs) := by have a := hx.out; unfold Hid; unfold sgn at a; split at a <;> (try split at a) <;> omega
    have hbig : 0 < g ↔ 9223372036854775807 < val r1z := by
      rw [← hg3.out, hval]; unfold cmpI; split; omega; split <;> omega
    have Hbig := Lib.hid hbig
    clear hbig hval
    go_wp2_with fail
    refine (RCmpP _ _ _ r1z _ _ _ [4294967295, 2147483647] _ g rfl rfl r1o.rd lit1o.rd hg3.out).mono ?_
    rintro e w3 ⟨rfl, xx⟩
    replace hE := Ext.trans hE xx
    have hz3 : w2.heap.size ≤ w3.heap.size := (by have hq := Ext.size xx; (try simp at hq); omega)
    replace r1o := Own.ext r1o xx
    replace lit1o := Own.ext lit1o xx
    have hb0 : w.heap.size < w3.heap.size := (by omega)
    have q0_0 := Ext.cell (p := ⟨w.heap.size, 0, none⟩) (v := .bool s) xx q0_0
    have q0_1 := Ext.cell (p := ⟨w.heap.size, 1, none⟩) (v := .slice ao zs.length c) xx q0_1
    clear xx
    by_cases hgt : 0 < g
    · have hr : Hid ((v, ok) = (0, false)) := small_end hg.out (small_no (by
        have h6 := iv_abs s zs
        have h7 := r1v.out
        have h8 := hz.out
        have h9 := Hbig.out.1 hgt
        omega))
      go_wp2_with fail
      go_ret2
      exact ⟨by rw [(Prod.mk.inj hr.out).1, (Prod.mk.inj hr.out).2]; rfl, hE⟩
    · have hV : Hid (val r1z ≤ 9223372036854775807) := Nat.le_of_not_lt (fun q => hgt (Hbig.out.2 q))
      have hr : Hid ((v, ok) = (iv s zs, true)) := small_end hg.out (small_yes rfl (by
        have h6 := iv_abs s zs
        have h7 := r1v.out
        have h8 := hz.out
        have h9 := hV.out
        omega) (by
        have h6 := iv_abs s zs
        have h7 := r1v.out
        have h8 := hz.out
        have h9 := hV.out
        omega))
      have hs : s = false ∨ val zs = 0 := by
        have h8 := hz.out
        cases s
        · left; rfl
        · right; unfold iv at h8; simp at h8; omega
      go_wp2_with fail
      go_loopw [6, 7] (SmallR w s ao c zs r1a r1c r1z) (fun _ i _ => (intOf i + 1).toNat)
      case atStart => exact ⟨r1z.length, Nat.le_refl _, rfl, by rw [List.drop_length, iv_nil], q0_0, q0_1, r1o.rd, hE⟩
      case round =>
        obtain ⟨k, hk, rfl, rfl, q0_0, q0_1, r1r, hE⟩ := hrel
        rcases k with _ | k
        · have hfin : Hid (iv s (r1z.drop 0) = iv s zs) := by unfold Hid; rw [List.drop_zero]; unfold iv; rw [r1v.out]
          go_wp2_with fail
          go_ret2
          exact ⟨by rw [(Prod.mk.inj hr.out).1, (Prod.mk.inj hr.out).2, ← hfin.out]; rfl, hE⟩
        · have bx := lim_lt r1k.out.1 k
          have ek : ((k + 1 : Nat) : Int) - 1 = (k : Int) := by omega
          rw [ek]
          clear ek
          obtain ⟨st1, st2⟩ := two_steps (show k < r1z.length by omega) _ hV.out
          obtain ⟨N, hN⟩ : ∃ N, N = val (r1z.drop (k + 1)) := ⟨_, rfl⟩
          rw [← hN] at st1
          have hn : iv s (r1z.drop (k + 1)) = (N : Int) := by
            rw [hN]
            rcases hs with e | e
            · rw [e]; rfl
            · have h7 := r1v.out
              rw [e] at h7
              have h8 := vk_split r1z (k + 1) (by omega)
              have h9 := pw_pos (k + 1)
              have h10 : 1 * val (r1z.drop (k + 1)) ≤ pw (k + 1) * val (r1z.drop (k + 1)) := Nat.mul_le_mul_right _ h9
              have h11 : val (r1z.drop (k + 1)) = 0 := by omega
              unfold iv; rw [h11]; cases s <;> rfl
          have hn2 : Hid (iv s (r1z.drop k) = (N : Int) * 4294967296 + (lim r1z k : Int)) := by
            unfold Hid
            rcases hs with e | e
            · rw [e]; unfold iv; rw [st1]; simp; omega
            · have h7 := r1v.out
              rw [e] at h7
              have h8 := vk_split r1z k (by omega)
              have h9 := pw_pos k
              have h10 : 1 * val (r1z.drop k) ≤ pw k * val (r1z.drop k) := Nat.mul_le_mul_right _ h9
              have h11 : val (r1z.drop k) = 0 := by omega
              have h12 : iv s (r1z.drop k) = 0 := by unfold iv; rw [h11]; cases s <;> rfl
              rw [h12]; omega
          rw [hn]
          have bN : N * 4294967296 + lim r1z k ≤ 9223372036854775807 := by omega
          have hix := ixk r1r r1z.length rfl k (by omega) wr
          clear hn hN st1 st2
          go_wp2_with fail
          refine (RSign_any s _ _ _ zs _ x rfl (h.ext hE) (by omega) hx.out).mono ?_
          rintro e w9 ⟨rfl, xx⟩
          have hc := (r1r.ext xx).cell k (by omega)
          have hix2 := ixk r1r r1z.length rfl k (by omega) w9
          go_wp2_with fail
          go_roundw
          case rel => exact ⟨k, by omega, by go_num, by rw [hn2.out], Ext.cell xx q0_0, Ext.cell xx q0_1, r1r.ext xx, hE.trans xx⟩
          case measure => simp [intOf]; try omega
end Go.Proofs.Ytehbfobfkpejoaa
