/-
  The proof of the statement ShadowDark: the walk through the program and the references lifted to the given row. It holds for every input.
-/
import Derived.Test.YtoklkfmffmonoaaGreatVd5
import Derived.Test.YtoklkfmffmonoaaGreatVd1
import Derived.Test.YtoklkfmffmonoaaGreatVd4
import Derived.Test.YtoklkfmffmonoaaGreatVd2
import Derived.Test.YtoklkfmffmonoaaGreatRows
set_option maxRecDepth 100000
section
namespace Go.Proofs.YtoklkfmffmonoaaGreat
open Go.RowKit

def smallZ (z : Int) : Int × Bool := if -9223372036854775808 ≤ z ∧ z ≤ 9223372036854775807 then (z, true) else (0, false)
theorem or_join2 (R x : Nat) (hR : R < 4294967296) (hx : x < 4294967296) : bits BinOp.or .u64 (x : Int) ((R : Int) * 4294967296) = ((x + 4294967296 * R : Nat) : Int) := by
 have e : ((R : Int) * 4294967296) = ((R * 4294967296 : Nat) : Int) := by rw [Int.natCast_mul]; rfl
 rw [e, bits_or_u64_nat _ _ (by omega) (by omega)]
 have h := Nat.two_pow_add_eq_or_of_lt (i := 32) (b := x) (by omega) R
 rw [Nat.or_comm, Nat.mul_comm R, show (4294967296 : Nat) = 2 ^ 32 from rfl, ← h]
 omega
theorem wrap_mul32 (x : Nat) (hx : x < 4294967296) : IntKind.u64.wrap (IntKind.u64.wrap (x : Int) * 4294967296) = (x : Int) * 4294967296 := by
 rw [IntKind.wrap_u64, IntKind.wrap_u64]; omega
theorem small_yes {z x : Int} (hz : z = x) (h1 : -9223372036854775808 ≤ x) (h2 : x ≤ 9223372036854775807) : smallZ z = (x, true) := by
 subst hz; unfold smallZ; rw [if_pos ⟨h1, h2⟩]
theorem small_no {z : Int} (h : z < -9223372036854775808 ∨ 9223372036854775807 < z) : smallZ z = (0, false) := by
 unfold smallZ; rw [if_neg (by omega)]
theorem small_end {z : Int} {p q : Int × Bool} (h : smallZ z = p) (k : smallZ z = q) : p = q := h.symm.trans k
theorem or_zero (x : Nat) (hx : x < 4294967296) : bits BinOp.or .u64 0 (x : Int) = (x : Int) := by
 have := or_join2 0 0 (by omega) (by omega)
 have h2 := bits_or_u64_nat 0 x (by omega) (by omega)
 rw [Nat.zero_or] at h2
 exact h2

set_option maxHeartbeats 2000000 in
theorem ZSmall_any (s : Bool) (ao : Option Addr) (n c : Nat) (zs : List Nat) (w : World) (v : Int) (ok : Bool) (hn : n = zs.length) (h : Rd w ao c zs) (hl : zs.length ≤ 300000) (hg : smallZ (iv s zs) = (v, ok)) :
  Calls Tryz.prog 67 #[.agg #[.bool s, .slice ao n c]] w (GotP (.tuple #[.int .i64 v, .bool ok]) w) := by
 subst hn
 replace hg := Lib.hid hg
 go_enter Tryz.func67, Tryz.ntmps67
 go_wp2_with fail
 refine (clean_any s _ _ _ zs _ rfl (h.ext ((Ext.refl _).alloc _)) (by first | omega | (simp; done) | (simp; omega))).mono ?_
 rintro e w1 ⟨r1s, r1a, r1c, r1z, r1B, rfl, r1b, r1o, r1k, r1v, r1l, xx⟩
 try simp at r1b
 try simp only [List.length_cons, List.length_nil] at r1l
 have hE : Ext w w1 := Ext.trans ((Ext.refl _).alloc _) xx
 have hz1 : w.heap.size + 1 ≤ w1.heap.size := (by have hq := Ext.size xx; (try simp at hq); omega)
 have hb0 : w.heap.size < w1.heap.size := (by omega)
 have fq0_0 := Ext.free (p := ⟨w.heap.size, 0, none⟩) (v := .bool s) xx (by first | exact True | go_simp | (repeat (first | assumption | (refine (World.cell?_setCell_far _ _ _ _ (by simp <;> omega)).trans ?_) | (refine (World.cell?_alloc_lt _ _ _ (World.block_lt_of_cell? _ _ (by assumption))).trans ?_) | go_simp))) (by first | assumption | go_simp)
 have q0_0 := Ext.cell (p := ⟨w.heap.size, 0, none⟩) (v := .bool s) xx (by first | exact True | go_simp | (repeat (first | assumption | (refine (World.cell?_setCell_far _ _ _ _ (by simp <;> omega)).trans ?_) | (refine (World.cell?_alloc_lt _ _ _ (World.block_lt_of_cell? _ _ (by assumption))).trans ?_) | go_simp)))
 have fq0_1 := Ext.free (p := ⟨w.heap.size, 1, none⟩) (v := .slice ao zs.length c) xx (by first | exact True | go_simp | (repeat (first | assumption | (refine (World.cell?_setCell_far _ _ _ _ (by simp <;> omega)).trans ?_) | (refine (World.cell?_alloc_lt _ _ _ (World.block_lt_of_cell? _ _ (by assumption))).trans ?_) | go_simp))) (by first | assumption | go_simp)
 have q0_1 := Ext.cell (p := ⟨w.heap.size, 1, none⟩) (v := .slice ao zs.length c) xx (by first | exact True | go_simp | (repeat (first | assumption | (refine (World.cell?_setCell_far _ _ _ _ (by simp <;> omega)).trans ?_) | (refine (World.cell?_alloc_lt _ _ _ (World.block_lt_of_cell? _ _ (by assumption))).trans ?_) | go_simp)))
 clear xx
 by_cases h2 : 2 < r1z.length
 ·have hr : Hid ((v, ok) = (0, false)) := small_end hg.out (small_no (by
   have h3 := canon_ge r1k.out.1 (by omega)
   have h4 : pw 2 ≤ pw (r1z.length - 1) := pw_le (by omega)
   have h5 : pw 2 = 18446744073709551616 := rfl
   have h6 := iv_abs r1s r1z
   rw [r1v.out] at h6
   omega))
  go_wp2_with fail
  go_ret2
  exact ⟨by rw [(Prod.mk.inj hr.out).1, (Prod.mk.inj hr.out).2]; rfl, (Ext.st (Ext.st hE (b := w.heap.size) (by omega) _ _) (b := w.heap.size) (by omega) _ _)⟩
 ·have hrd := (Own.st (Own.st r1o (b := w.heap.size) (by omega) 0 (.bool r1s)) (b := w.heap.size) (by omega) 1 (.slice r1a r1z.length r1c)).rd
  go_wp2_with fail
  trace_state
  go_loop [4, 16] (fun n i => ∃ k : Nat, k ≤ r1z.length ∧ i = .int .i64 k ∧ n = .int .u64 (vk r1z k)) (fun _ i => (r1z.length - intOf i).toNat)
  case atStart => exact ⟨0, Nat.zero_le _, rfl, by rw [vk_zero]; rfl⟩
  case round =>
   obtain ⟨k, hk, rfl, rfl⟩ := hrel
   by_cases hkA : k < r1z.length
   ·have hx := hrd.cell k hkA
    have bx := lim_lt r1k.out.1.1 k
    rcases k with _ | _ | k
    ·rw [vk_zero]
     have hix := ixe hrd r1z.length rfl 0 0 rfl hkA
     simp only [Nat.add_zero] at hix hx
     go_wp2_with fail
     exact ⟨⟨1, by omega, rfl, by rw [or_zero _ bx, vk_succ, vk_zero]; simp [pw_zero]⟩, by simp [intOf]; omega⟩
    ·have hix := ixe hrd r1z.length rfl 1 1 rfl hkA
     have b0 := lim_lt r1k.out.1.1 0
     go_wp2_with fail
     refine ⟨⟨2, by omega, rfl, ?_⟩, by simp [intOf]; omega⟩
     have e : vk r1z 1 = lim r1z 0 := by rw [vk_succ, vk_zero]; simp [pw_zero]
     rw [wrap_mul32 _ bx, e, or_join2 _ _ bx b0]
     have e2 : vk r1z 2 = lim r1z 0 + 4294967296 * lim r1z 1 := by rw [vk_succ, e]; rfl
     rw [e2]
    ·omega
   ·have hke : r1z.length = k := by omega
    have hval : vk r1z k = val r1z := vk_full (by omega)
    obtain ⟨V, hV⟩ : ∃ V, val r1z = V := ⟨_, rfl⟩
    rw [hval, hV]
    have hVb : V < 18446744073709551616 := by
     rw [← hV]
     exact Nat.lt_of_lt_of_le (val_lt r1k.out.1.1) (show pw r1z.length ≤ pw 2 from pw_le (by omega))
    have hZ : Hid (iv s zs = if r1s then -(V : Int) else (V : Int)) := by unfold Hid; rw [← r1v.out]; unfold iv; rw [hV]
    clear hval hV
    cases r1s
    ·have hZ1 : Hid (iv s zs = (V : Int)) := hZ.out
     by_cases hbig : 9223372036854775807 < V
     ·go_wp2_with fail
      go_ret2
      exact ⟨by have hr := small_end hg.out (small_no (by rw [hZ1.out]; omega)); rw [(Prod.mk.inj hr).1, (Prod.mk.inj hr).2]; rfl, (Ext.st (Ext.st hE (b := w.heap.size) (by omega) _ _) (b := w.heap.size) (by omega) _ _)⟩
     ·go_wp2_with fail
      go_ret2
      exact ⟨by have hr := small_end hg.out (small_yes hZ1.out (by omega) (by omega)); rw [(Prod.mk.inj hr).1, (Prod.mk.inj hr).2]; rfl, (Ext.st (Ext.st hE (b := w.heap.size) (by omega) _ _) (b := w.heap.size) (by omega) _ _)⟩
    ·have hZ1 : Hid (iv s zs = -(V : Int)) := hZ.out
     by_cases hmin : V = 9223372036854775808
     ·have hr : Hid ((v, ok) = (-9223372036854775808, true)) := small_end hg.out (small_yes (by rw [hZ1.out, hmin]; rfl) (by omega) (by omega))
      have hmb : ((V : Int) == 9223372036854775808) = true := beq_iff_eq.2 (by omega)
      clear hmin
      go_wp2_with fail
      go_ret2
      exact ⟨by rw [(Prod.mk.inj hr.out).1, (Prod.mk.inj hr.out).2]; rfl, (Ext.st (Ext.st hE (b := w.heap.size) (by omega) _ _) (b := w.heap.size) (by omega) _ _)⟩
     ·have hmb : ((V : Int) == 9223372036854775808) = false := beq_eq_false_iff_ne.2 (by omega)
      by_cases hbig : 9223372036854775807 < V
      ·go_wp2_with fail
       go_ret2
       exact ⟨by have hr := small_end hg.out (small_no (by rw [hZ1.out]; omega)); rw [(Prod.mk.inj hr).1, (Prod.mk.inj hr).2]; rfl, (Ext.st (Ext.st hE (b := w.heap.size) (by omega) _ _) (b := w.heap.size) (by omega) _ _)⟩
      ·go_wp2_with fail
       go_ret2
       exact ⟨by have hr := small_end hg.out (small_yes hZ1.out (by omega) (by omega)); rw [(Prod.mk.inj hr).1, (Prod.mk.inj hr).2]; rfl, (Ext.st (Ext.st hE (b := w.heap.size) (by omega) _ _) (b := w.heap.size) (by omega) _ _)⟩

end Go.Proofs.YtoklkfmffmonoaaGreat
end
section
namespace Go.Proofs.YtoklkfmffmonoaaGreat.S
open Go.RowKit

theorem openZ2 {H : Im} {B : Bl} {x : ZI} {v : Value} (h : VR H B (vz x) v) (hx : Lb x.abs) : ∃ ao c, v = .agg #[.bool x.neg, .slice ao x.abs.length c] ∧ ∀ w : World, (∀ b o, H b = some o → w.heap[b]? = some o) → Rd w ao c x.abs := by
 obtain ⟨vs, rfl, h1⟩ := h
 match vs, h1 with
 | [a, b], h1 =>
  obtain ⟨h2, h3, _⟩ := h1
  have e1 : a = .bool x.neg := VR.rawI (H := H) (B := B) h2
  obtain ⟨ao, c, rfl, h4⟩ := nsl_rd h3 hx
  exact ⟨ao, c, by rw [e1], h4⟩
 | [], h1 => exact h1.elim
 | [_], h1 => exact h1.2.elim
 | _ :: _ :: _ :: _, h1 => exact h1.2.2.elim
theorem SSmall (x : ZI) (hx : Lb x.abs) (lx : x.abs.length ≤ 300000) : Fn Tryz.prog 67 [] [vz x] (.tup [.c (.d (.raw (.int .i64 (smallZ x.val).1))), .c (.d (.raw (.bool (smallZ x.val).2)))]) [] := by
 intro w H B vals pre
 have ha := pre.arg
 obtain ⟨a, rfl, h1⟩ : ∃ a, vals = [a] ∧ VR H B (vz x) a := by
  match vals, ha with
  | [a], h => exact ⟨a, rfl, h.1⟩
  | [], h => exact h.elim
  | _ :: _ :: _, h => exact h.2.elim
 obtain ⟨ao, c, rfl, r1⟩ := openZ2 h1 hx
 refine (ZSmall_any x.neg ao _ c x.abs w _ _ rfl (r1 w pre.sat) lx rfl).mono fun e w' h => ?_
 obtain ⟨rfl, hE⟩ := h
 exact ⟨_, _, _, rfl, postE hE pre.sat ⟨_, rfl, DR.raw _ rfl, DR.raw _ rfl, trivial⟩⟩
theorem small_big {z : Int} {m : Int} (h : (smallZ z).2 = false) (h0 : 0 ≤ z) (hm : m ≤ 9223372036854775807) : m < z := by
 unfold smallZ at h
 split at h
 ·cases h
 ·omega
theorem small_val {z : Int} (h : (smallZ z).2 = true) : (smallZ z).1 = z ∧ -9223372036854775808 ≤ z ∧ z ≤ 9223372036854775807 := by
 unfold smallZ at h ⊢
 split at h
 ·rename_i hz; rw [if_pos hz]; exact ⟨rfl, hz⟩
 ·cases h
end Go.Proofs.YtoklkfmffmonoaaGreat.S
end
section
namespace Go.Proofs.YtoklkfmffmonoaaGreat.S
open Go.RowKit

theorem hp_1 : Bodied Tryz.prog 64 := Bodied.mk' (by kernel_rfl)
theorem hp_4 : Bodied Tryz.prog 66 := Bodied.mk' (by kernel_rfl)
theorem hp_5 : Bodied Tryz.prog 67 := Bodied.mk' (by kernel_rfl)
theorem hp_6 : Bodied Tryz.prog 68 := Bodied.mk' (by kernel_rfl)
theorem hp_11 : ElZ Tryz.prog 50 22 1 := ElZ.mk' Tryz.underlying50 _ _ rfl rfl (by kernel_rfl) (by kernel_rfl) (by kernel_rfl) (by decide)
theorem hp_12 : ElT Tryz.prog 50 22 1 24 := ElT.mk' Tryz.underlying50 _ _ rfl rfl (by kernel_rfl) (by kernel_rfl) (by kernel_rfl) (by decide) (by decide)
def plR (r : RelD) : RelD := ⟨plainT r.t, r.eq⟩
def pieceL (rs : List RelD) (v : Int) (low : SideD) (i : Nat) : List RelD := eqR low v (i : Int) :: rs.map plR
def pieces1 (rs : List RelD) (v : Int) (low : SideD) (n : Int) : List (List RelD) := (List.range (n + 1).toNat).map (pieceL rs v low)
def pieceGo (rs : List RelD) (v room m : Int) : List SideD → List (List RelD) → List (List RelD) × Int
  | [], out => (out, 0)
  | low :: ls, out => if lastZ low.times.val m < 0 then pieceGo rs v room m ls out else if lastZ low.times.val m ≥ room - (out.length : Int) then ([], 3) else pieceGo rs v room m ls (out ++ pieces1 rs v low (lastZ low.times.val m))
def piecesS (rs : List RelD) (v most : Int) : List (List RelD) × Int := if maxS (highsOf rs v) = 0 then ([], 0) else pieceGo rs v most (maxS (highsOf rs v)) (lowsOf rs v) []
theorem go_at {rs : List RelD} {v room m : Int} {ls : List SideD} {j : Nat} {low : SideD} {out : List (List RelD)} (h : ls[j]? = some low) : pieceGo rs v room m (ls.drop j) out = if lastZ low.times.val m < 0 then pieceGo rs v room m (ls.drop (j + 1)) out else if lastZ low.times.val m ≥ room - (out.length : Int) then ([], 3) else pieceGo rs v room m (ls.drop (j + 1)) (out ++ pieces1 rs v low (lastZ low.times.val m)) := by
 obtain ⟨hj, rfl⟩ := List.getElem?_eq_some_iff.1 h
 rw [List.drop_eq_getElem_cons hj]; rfl
theorem maxS_len {l : List SideD} (hl : ∀ s ∈ l, SideOk s) : (ZI.of (maxS l)).abs.length ≤ 9 := by
 suffices h : ∀ (l : List SideD) (m : Int), (∀ s ∈ l, SideOk s) → (ZI.of m).abs.length ≤ 9 → (ZI.of (l.foldl (fun m s => max m s.times.val) m)).abs.length ≤ 9 from h l 0 hl (Nat.zero_le _)
 intro l
 induction l with
 | nil => intro m _ h; exact h
 | cons s l ih =>
  intro m hl h
  refine ih _ (fun q hq => hl q (List.mem_cons_of_mem _ hq)) ?_
  have hs := hl s (List.mem_cons_self ..)
  have := max_len (x := ZI.of m) (y := s.times) (ZI.lb_of m) hs.lb h hs.len
  rwa [ZI.val_of] at this
theorem last_len {x y : ZI} (hx : Lb x.abs) (hy : Lb y.abs) (lx : x.abs.length ≤ 9) (ly : y.abs.length ≤ 9) (h0 : y.val ≠ 0) : (ZI.of (lastZ x.val y.val)).abs.length ≤ 40 := by
 have h1 := len_mul hy hx
 have h2 := len_sub (x := ZI.of (y.val * x.val)) (y := y) (ZI.lb_of _) hy
 rw [ZI.val_of] at h2
 have h3 := len_sub (x := ZI.of (y.val * x.val - y.val)) (y := x) (ZI.lb_of _) hx
 rw [ZI.val_of] at h3
 have h4 := len_fdiv (x := ZI.of (y.val * x.val - y.val - x.val)) (y := y) (ZI.lb_of _) h0
 rw [ZI.val_of] at h4
 unfold lastZ; omega
set_option maxHeartbeats 4000000 in
theorem SPieces (rs : List RelD) (v most : Int) (hrs : RsOk rs) (hm : 0 ≤ most ∧ most ≤ 1000) : Fn Tryz.prog 27 [] [.t (.c (.d (.sl 4 (rs.map RelD.d)))), vi .i64 v, vi .i64 most] (.tup [.c (.d (.sl 1 ((piecesS rs v most).1.map (slD 4 RelD.d)))), .c (.d (.raw (.int .i64 (piecesS rs v most).2)))]) [] := by
 have lrs := hrs.1
 have nl := lows_len hrs v
 have nh := highs_len hrs v
 refine Fn.body Tryz.func27 rfl 94 rfl fun w H B a h => ?_
 refine rSeq fam0ok 5 [] [(0, .t (.c (.d (.sl 4 (rs.map RelD.d))))), (1, vi .i64 v), (2, vi .i64 most), (6, .t (.c (.d (.raw nilV)))), (7, vi .i64 0)] [] (by kernel_rfl) h ?_; clear h; intro a w h
 refine rSeq fam0ok 5 [(2, .call (Ssplit rs v hrs) hb_15)] [(0, .t (.c (.d (.sl 4 (rs.map RelD.d))))), (1, vi .i64 v), (2, vi .i64 most), (6, .t (.c (.d (.raw nilV)))), (7, vi .i64 0), (8, vp 5 0)] [(5, .box [.d (.sl 5 ((lowsOf rs v).map SideD.d)), .d (.sl 5 ((highsOf rs v).map SideD.d)), .d (.sl 4 ((othersOf rs v).map RelD.d))])] (by kernel_rfl) h ?_; clear h; intro a w h
 obtain ⟨r2, er2, vr2, or2, lr2⟩ := mkZ (v := maxS (highsOf rs v)) (m := 9) (maxS_len (highs_ok hrs v))
 refine rSeq fam0ok 6 [(2, .call (Fn.cast (SGreatest (highsOf rs v) (highs_ok hrs v) (by omega)) (congrArg vz er2.symm)) hp_1)] [(0, .t (.c (.d (.sl 4 (rs.map RelD.d))))), (1, vi .i64 v), (2, vi .i64 most), (6, .t (.c (.d (.raw nilV)))), (7, vi .i64 0), (8, vp 5 0), (9, vp 6 0)] [(5, .box [.d (.sl 5 ((lowsOf rs v).map SideD.d)), .d (.sl 5 ((highsOf rs v).map SideD.d)), .d (.sl 4 ((othersOf rs v).map RelD.d))]), (6, .box (zi r2))] (by kernel_rfl) h ?_; clear h; intro a w h
 refine wp_seq ?_
 refine rSeq fam0ok 7 [(1, .call (SSign r2 or2 (by omega)) td_6)] [(0, .t (.c (.d (.sl 4 (rs.map RelD.d))))), (1, vi .i64 v), (2, vi .i64 most), (6, .t (.c (.d (.raw nilV)))), (7, vi .i64 0), (8, vp 5 0), (9, vp 6 0), (29, vb (sgn r2.val == 0))] [(5, .box [.d (.sl 5 ((lowsOf rs v).map SideD.d)), .d (.sl 5 ((highsOf rs v).map SideD.d)), .d (.sl 4 ((othersOf rs v).map RelD.d))]), (6, .box (zi r2))] (by kernel_rfl) h ?_; clear h; intro a w h
 refine condS (sgn r2.val == 0) h rfl (fun hc => ?_) (fun hc => ?_)
 ·have hc1 := hc; clear hc
  have hc1' := hc1; (try simp at hc1')
  refine rSeq fam0ok 7 [] [(0, .t (.c (.d (.sl 4 (rs.map RelD.d))))), (1, vi .i64 v), (2, vi .i64 most), (6, .t (.c (.d (.raw nilV)))), (7, vi .i64 0), (8, vp 5 0), (9, vp 6 0)] [(5, .box [.d (.sl 5 ((lowsOf rs v).map SideD.d)), .d (.sl 5 ((highsOf rs v).map SideD.d)), .d (.sl 4 ((othersOf rs v).map RelD.d))]), (6, .box (zi r2))] (by kernel_rfl) h ?_; clear h; intro a w h
  refine wp_ret ?_
  refine then_r ?_
  replace h := nilDSs 6 0 1 (.t (.c (.d (.raw nilV)))) [(0, .t (.c (.d (.sl 4 (rs.map RelD.d))))), (1, vi .i64 v), (2, vi .i64 most), (6, .t (.c (.d (.sl 1 ([].map (slD 4 RelD.d)))))), (7, vi .i64 0), (8, vp 5 0), (9, vp 6 0)] [(5, .box [.d (.sl 5 ((lowsOf rs v).map SideD.d)), .d (.sl 5 ((highsOf rs v).map SideD.d)), .d (.sl 4 ((othersOf rs v).map RelD.d))]), (6, .box (zi r2))] h rfl rfl (by kernel_rfl) (by kernel_rfl)
  refine retS [.c (.d (.sl 1 ([].map (slD 4 RelD.d)))), .c (.d (.raw (.int .i64 0)))] h Exit.ret (.inl rfl)  rfl ⟨RV.tmp _ _ rfl, RV.tmp _ _ rfl, trivial⟩ ?_ (by kernel_rfl) (by kernel_rfl)
  have hz : piecesS rs v most = ([], 0) := by unfold piecesS; rw [if_pos (by have h0 := sgn0_t hc1; rw [vr2] at h0; exact h0)]
  rw [hz]; first | done | rfl
 ·have hc2 := hc; clear hc
  have hc2' := hc2; (try simp at hc2')
  refine wp_skip ?_
  refine then_n ?_
  have hmx : maxS (highsOf rs v) ≠ 0 := by have := sgn0_f hc2; rw [vr2] at this; exact this
  refine rSeq fam0ok 7 [(1, .gen _ _ _ fun _ _ _ _ => Op.max2 (d := 31) (tys := #[3, 3]) (k := .i64) (m := most) (n := 0) (r := most) (OV.tmp 30 _) (OV.const (.int .i64 0) rfl) (Int.max_eq_left hm.1).symm)] [(0, .t (.c (.d (.sl 4 (rs.map RelD.d))))), (1, vi .i64 v), (6, .t (.c (.d (.raw nilV)))), (7, vi .i64 0), (8, vp 5 0), (9, vp 6 0), (10, vi .i64 most)] [(5, .box [.d (.sl 5 ((lowsOf rs v).map SideD.d)), .d (.sl 5 ((highsOf rs v).map SideD.d)), .d (.sl 4 ((othersOf rs v).map RelD.d))]), (6, .box (zi r2))] (by kernel_rfl) h ?_; clear h; intro a w h
  refine rSeq fam0ok 7 [] [(0, .t (.c (.d (.sl 4 (rs.map RelD.d))))), (1, vi .i64 v), (6, .t (.c (.d (.raw nilV)))), (7, vi .i64 0), (8, vp 5 0), (9, vp 6 0), (10, vi .i64 most), (11, .t (.c (.d (.raw nilV))))] [(5, .box [.d (.sl 5 ((lowsOf rs v).map SideD.d)), .d (.sl 5 ((highsOf rs v).map SideD.d)), .d (.sl 4 ((othersOf rs v).map RelD.d))]), (6, .box (zi r2))] (by kernel_rfl) h ?_; clear h; intro a w h
  refine wp_seq ?_
  replace h := nilOSs 11 0 7 1 22 (.t (.c (.d (.raw nilV)))) [(0, .t (.c (.d (.sl 4 (rs.map RelD.d))))), (1, vi .i64 v), (6, .t (.c (.d (.raw nilV)))), (7, vi .i64 0), (8, vp 5 0), (9, vp 6 0), (10, vi .i64 most), (11, .t (.c (.own 7 0)))] [(5, .box [.d (.sl 5 ((lowsOf rs v).map SideD.d)), .d (.sl 5 ((highsOf rs v).map SideD.d)), .d (.sl 4 ((othersOf rs v).map RelD.d))]), (6, .box (zi r2)), (7, .row 22 1 ([].map (slD 4 RelD.d)))] h (by kernel_rfl) rfl rfl (by kernel_rfl) (by kernel_rfl)
  refine rSeq fam0ok 8 [(2, .len (c := (.d (.sl 5 ((lowsOf rs v).map SideD.d)))) (n := (lowsOf rs v).length) (lenC_map _ _ _))] [(0, .t (.c (.d (.sl 4 (rs.map RelD.d))))), (1, vi .i64 v), (6, .t (.c (.d (.raw nilV)))), (7, vi .i64 0), (9, vp 6 0), (10, vi .i64 most), (11, .t (.c (.own 7 0))), (33, .t (.c (.d (.sl 5 ((lowsOf rs v).map SideD.d))))), (34, vi .i64 ((lowsOf rs v).length : Int)), (35, vi .i64 0)] [(6, .box (zi r2)), (7, .row 22 1 ([].map (slD 4 RelD.d)))] (by kernel_rfl) h ?_; clear h; intro a w h
  refine wp_block ?_
  refine loopS (ι := (Nat) × (List (List RelD))) (fun (z_ : (Nat) × (List (List RelD))) => match z_ with | (j, out) => j ≤ (lowsOf rs v).length ∧ piecesS rs v most = pieceGo rs v most (maxS (highsOf rs v)) ((lowsOf rs v).drop j) out ∧ (out.length : Int) ≤ most)
    (fun (z_ : (Nat) × (List (List RelD))) => match z_ with | (j, out) => [(0, .t (.c (.d (.sl 4 (rs.map RelD.d))))), (1, vi .i64 v), (9, vp 6 0), (10, vi .i64 most), (11, .t (.c (.own 7 out.length))), (33, .t (.c (.d (.sl 5 ((lowsOf rs v).map SideD.d))))), (34, vi .i64 ((lowsOf rs v).length : Int)), (35, vi .i64 (j : Int))])
    (fun (z_ : (Nat) × (List (List RelD))) => match z_ with | (j, out) => [(6, .box (zi r2)), (7, .row 22 1 (out.map (slD 4 RelD.d)))])
    (fun (z_ : (Nat) × (List (List RelD))) => match z_ with | (j, out) => (lowsOf rs v).length - j) (0, []) ?_ h (by kernel_rfl) (by kernel_rfl) ?_
  ·exact ⟨Nat.zero_le _, by unfold piecesS; rw [if_neg hmx]; rfl, by show (0 : Int) ≤ most; omega⟩
  ·clear h; rintro ⟨j, out⟩ a w hI h
   change St _ (F.of [(0, .t (.c (.d (.sl 4 (rs.map RelD.d))))), (1, vi .i64 v), (9, vp 6 0), (10, vi .i64 most), (11, .t (.c (.own 7 out.length))), (33, .t (.c (.d (.sl 5 ((lowsOf rs v).map SideD.d))))), (34, vi .i64 ((lowsOf rs v).length : Int)), (35, vi .i64 (j : Int))] [(6, .box (zi r2)), (7, .row 22 1 (out.map (slD 4 RelD.d)))]) a w at h
   obtain ⟨hI1, hI2, hI3⟩ := hI
   refine rSeq fam0ok 8 [] [(0, .t (.c (.d (.sl 4 (rs.map RelD.d))))), (1, vi .i64 v), (9, vp 6 0), (10, vi .i64 most), (11, .t (.c (.own 7 out.length))), (33, .t (.c (.d (.sl 5 ((lowsOf rs v).map SideD.d))))), (34, vi .i64 ((lowsOf rs v).length : Int)), (35, vi .i64 (j : Int)), (36, vb (decide ((j : Int) < ((lowsOf rs v).length : Int))))] [(6, .box (zi r2)), (7, .row 22 1 (out.map (slD 4 RelD.d)))] (by kernel_rfl) h ?_; clear h; intro a w h
   refine wp_seq ?_
   refine condS (decide ((j : Int) < ((lowsOf rs v).length : Int))) h rfl (fun hc => ?_) (fun hc => ?_)
   ·have hc3 := hc; clear hc
    have hc3' := of_decide_eq_true hc3
    refine wp_skip ?_
    refine then_n ?_
    refine wp_seq ?_
    refine wp_block ?_
    obtain ⟨x4, hx4⟩ : ∃ z_ : SideD, (lowsOf rs v)[j]? = some z_ := ⟨_, List.getElem?_eq_getElem (by first | omega | (simp at *; omega))⟩
    have gx4 := lows_ok hrs v x4 (List.mem_of_getElem? hx4)
    have lgx4 := gx4.len
    refine rSeq fam0ok 8 [(0, .gen _ _ _ fun _ _ _ _ => Op.idxD (d := 37) (t := 33) (k := .i64) hb_1 (map_at hx4 (f := SideD.d)) (OV.tmp 35 _))] [(0, .t (.c (.d (.sl 4 (rs.map RelD.d))))), (1, vi .i64 v), (9, vp 6 0), (10, vi .i64 most), (11, .t (.c (.own 7 out.length))), (13, vp 8 0), (33, .t (.c (.d (.sl 5 ((lowsOf rs v).map SideD.d))))), (34, vi .i64 ((lowsOf rs v).length : Int)), (35, vi .i64 (j : Int))] [(6, .box (zi r2)), (7, .row 22 1 (out.map (slD 4 RelD.d))), (8, .box (zi x4.times ++ [.d (.sl 3 (x4.rest.parts.map Part.d))] ++ zi x4.rest.k))] (by kernel_rfl) h ?_; clear h; intro a w h
    have h0x4 : r2.val ≠ 0 := by rw [vr2]; exact hmx
    obtain ⟨r5, er5, vr5, or5, lr5⟩ := mkZ (v := lastZ x4.times.val r2.val) (m := 40) (last_len gx4.lb or2 gx4.len lr2 h0x4)
    refine rSeq fam0ok 9 [(3, .call (Fn.cast (SLast x4.times r2 gx4.lb or2 gx4.len lr2 h0x4) (congrArg vz er5.symm)) hp_4)] [(0, .t (.c (.d (.sl 4 (rs.map RelD.d))))), (1, vi .i64 v), (9, vp 6 0), (10, vi .i64 most), (11, .t (.c (.own 7 out.length))), (13, vp 8 0), (14, vp 9 0), (33, .t (.c (.d (.sl 5 ((lowsOf rs v).map SideD.d))))), (34, vi .i64 ((lowsOf rs v).length : Int)), (35, vi .i64 (j : Int))] [(6, .box (zi r2)), (7, .row 22 1 (out.map (slD 4 RelD.d))), (8, .box (zi x4.times ++ [.d (.sl 3 (x4.rest.parts.map Part.d))] ++ zi x4.rest.k)), (9, .box (zi r5))] (by kernel_rfl) h ?_; clear h; intro a w h
    refine wp_seq ?_
    refine rSeq fam0ok 10 [(1, .call (SSign r5 or5 (by omega)) td_6)] [(0, .t (.c (.d (.sl 4 (rs.map RelD.d))))), (1, vi .i64 v), (9, vp 6 0), (10, vi .i64 most), (11, .t (.c (.own 7 out.length))), (13, vp 8 0), (14, vp 9 0), (33, .t (.c (.d (.sl 5 ((lowsOf rs v).map SideD.d))))), (34, vi .i64 ((lowsOf rs v).length : Int)), (35, vi .i64 (j : Int)), (45, vb (decide (sgn r5.val < 0)))] [(6, .box (zi r2)), (7, .row 22 1 (out.map (slD 4 RelD.d))), (8, .box (zi x4.times ++ [.d (.sl 3 (x4.rest.parts.map Part.d))] ++ zi x4.rest.k)), (9, .box (zi r5))] (by kernel_rfl) h ?_; clear h; intro a w h
    refine condS (decide (sgn r5.val < 0)) h rfl (fun hc => ?_) (fun hc => ?_)
    ·have hc4 := hc; clear hc
     have hc4' := of_decide_eq_true hc4
     refine wp_exit ?_
     refine then_x ?_
     refine inBlock_exit ?_
     refine then_n ?_
     refine rS fam0ok 10 [(0, .add .i64 (m := (j : Int)) (n := 1) (i64_id (by omega) (by omega)))] [(0, .t (.c (.d (.sl 4 (rs.map RelD.d))))), (1, vi .i64 v), (9, vp 6 0), (10, vi .i64 most), (11, .t (.c (.own 7 out.length))), (33, .t (.c (.d (.sl 5 ((lowsOf rs v).map SideD.d))))), (34, vi .i64 ((lowsOf rs v).length : Int)), (35, vi .i64 ((j : Int) + 1))] [(6, .box (zi r2)), (7, .row 22 1 (out.map (slD 4 RelD.d)))] (by kernel_rfl) h ?_; clear h; intro a w h
     refine then_n ?_
     refine roundS (x := (j, out)) (y := (j + 1, out)) h ?_ ?_ (by kernel_rfl) (by kernel_rfl)
     ·have := at_lt hx4
      exact ⟨by omega, by rw [hI2, go_at hx4, if_pos (by have h0 := sgn_lt_zero.1 (of_decide_eq_true hc4); rw [vr5, vr2] at h0; exact h0)], hI3⟩
     ·show (lowsOf rs v).length - (j + 1) < (lowsOf rs v).length - j
      have := at_lt hx4; omega
    ·have hc5 := hc; clear hc
     have hc5' := of_decide_eq_false hc5
     refine wp_skip ?_
     refine then_n ?_
     refine rSeq fam0ok 10 [(1, .call (SSmall r5 or5 (by omega)) hp_5)] [(0, .t (.c (.d (.sl 4 (rs.map RelD.d))))), (1, vi .i64 v), (9, vp 6 0), (10, vi .i64 most), (11, .t (.c (.own 7 out.length))), (13, vp 8 0), (15, vi .i64 (smallZ r5.val).1), (16, vb (smallZ r5.val).2), (33, .t (.c (.d (.sl 5 ((lowsOf rs v).map SideD.d))))), (34, vi .i64 ((lowsOf rs v).length : Int)), (35, vi .i64 (j : Int))] [(6, .box (zi r2)), (7, .row 22 1 (out.map (slD 4 RelD.d))), (8, .box (zi x4.times ++ [.d (.sl 3 (x4.rest.parts.map Part.d))] ++ zi x4.rest.k))] (by kernel_rfl) h ?_; clear h; intro a w h
     refine wp_seq ?_
     rcases Bool.eq_false_or_eq_true (smallZ r5.val).2 with hc | hc
     ·have hc6 := hc; clear hc
      rw [hc6] at h
      refine rSeq fam0ok 10 [(7, .sub .i64 (m := most) (n := (out.length : Int)) (i64_id (by omega) (by omega)))] [(0, .t (.c (.d (.sl 4 (rs.map RelD.d))))), (1, vi .i64 v), (9, vp 6 0), (10, vi .i64 most), (11, .t (.c (.own 7 out.length))), (13, vp 8 0), (15, vi .i64 (smallZ r5.val).1), (33, .t (.c (.d (.sl 5 ((lowsOf rs v).map SideD.d))))), (34, vi .i64 ((lowsOf rs v).length : Int)), (35, vi .i64 (j : Int)), (60, vb (decide ((smallZ r5.val).1 ≥ (most - (out.length : Int)))))] [(6, .box (zi r2)), (7, .row 22 1 (out.map (slD 4 RelD.d))), (8, .box (zi x4.times ++ [.d (.sl 3 (x4.rest.parts.map Part.d))] ++ zi x4.rest.k))] (by kernel_rfl) h ?_; clear h; intro a w h
      refine condS (decide ((smallZ r5.val).1 ≥ (most - (out.length : Int)))) h rfl (fun hc => ?_) (fun hc => ?_)
      ·have hc7 := hc; clear hc
       have hc7' := of_decide_eq_true hc7
       refine rSeq fam0ok 10 [] [(0, .t (.c (.d (.sl 4 (rs.map RelD.d))))), (1, vi .i64 v), (6, .t (.c (.d (.raw nilV)))), (7, vi .i64 3), (9, vp 6 0), (10, vi .i64 most), (11, .t (.c (.own 7 out.length))), (13, vp 8 0), (15, vi .i64 (smallZ r5.val).1), (33, .t (.c (.d (.sl 5 ((lowsOf rs v).map SideD.d))))), (34, vi .i64 ((lowsOf rs v).length : Int)), (35, vi .i64 (j : Int))] [(6, .box (zi r2)), (7, .row 22 1 (out.map (slD 4 RelD.d))), (8, .box (zi x4.times ++ [.d (.sl 3 (x4.rest.parts.map Part.d))] ++ zi x4.rest.k))] (by kernel_rfl) h ?_; clear h; intro a w h
       refine wp_ret ?_
       refine then_r ?_
       refine block_r ?_
       refine then_r ?_
       refine then_r ?_
       refine block_r ?_
       refine then_r ?_
       replace h := nilDSs 6 0 1 (.t (.c (.d (.raw nilV)))) [(0, .t (.c (.d (.sl 4 (rs.map RelD.d))))), (1, vi .i64 v), (6, .t (.c (.d (.sl 1 ([].map (slD 4 RelD.d)))))), (7, vi .i64 3), (9, vp 6 0), (10, vi .i64 most), (11, .t (.c (.own 7 out.length))), (13, vp 8 0), (15, vi .i64 (smallZ r5.val).1), (33, .t (.c (.d (.sl 5 ((lowsOf rs v).map SideD.d))))), (34, vi .i64 ((lowsOf rs v).length : Int)), (35, vi .i64 (j : Int))] [(6, .box (zi r2)), (7, .row 22 1 (out.map (slD 4 RelD.d))), (8, .box (zi x4.times ++ [.d (.sl 3 (x4.rest.parts.map Part.d))] ++ zi x4.rest.k))] h rfl rfl (by kernel_rfl) (by kernel_rfl)
       refine retS [.c (.d (.sl 1 ([].map (slD 4 RelD.d)))), .c (.d (.raw (.int .i64 3)))] h Exit.ret (.inl rfl)  rfl ⟨RV.tmp _ _ rfl, RV.tmp _ _ rfl, trivial⟩ ?_ (by kernel_rfl) (by kernel_rfl)
       have hn0 : 0 ≤ r5.val := by have h0 := of_decide_eq_false hc5; have h1 := mt (sgn_lt_zero (z := r5.val)).2 h0; omega
       have hsv := (small_val hc6).1
       have hv := vr5
       rw [vr2] at hv
       have hz : piecesS rs v most = ([], 3) := by rw [hI2, go_at hx4, if_neg (by rw [← hv]; omega), if_pos (by rw [← hv]; omega)]
       rw [hz]; first | done | rfl
      ·have hc8 := hc; clear hc
       have hc8' := of_decide_eq_false hc8
       refine wp_skip ?_
       refine then_n ?_
       obtain ⟨hs1, hs2, hs3⟩ := small_val hc6
       have hn0 : 0 ≤ r5.val := by have h0 := of_decide_eq_false hc5; have h1 := mt (sgn_lt_zero (z := r5.val)).2 h0; omega
       refine rSeq fam0ok 10 [(1, .add .i64 (m := (smallZ r5.val).1) (n := 1) (i64_id (by omega) (by omega)))] [(0, .t (.c (.d (.sl 4 (rs.map RelD.d))))), (1, vi .i64 v), (9, vp 6 0), (10, vi .i64 most), (11, .t (.c (.own 7 out.length))), (13, vp 8 0), (33, .t (.c (.d (.sl 5 ((lowsOf rs v).map SideD.d))))), (34, vi .i64 ((lowsOf rs v).length : Int)), (35, vi .i64 (j : Int)), (62, vi .i64 ((smallZ r5.val).1 + 1)), (63, vi .i64 0)] [(6, .box (zi r2)), (7, .row 22 1 (out.map (slD 4 RelD.d))), (8, .box (zi x4.times ++ [.d (.sl 3 (x4.rest.parts.map Part.d))] ++ zi x4.rest.k))] (by kernel_rfl) h ?_; clear h; intro a w h
       refine wp_block ?_
       replace h := h.conv (f' := F.of [(0, .t (.c (.d (.sl 4 (rs.map RelD.d))))), (1, vi .i64 v), (9, vp 6 0), (10, vi .i64 most), (11, .t (.c (.own 7 (out ++ (List.range 0).map (pieceL rs v x4)).length))), (13, vp 8 0), (33, .t (.c (.d (.sl 5 ((lowsOf rs v).map SideD.d))))), (34, vi .i64 ((lowsOf rs v).length : Int)), (35, vi .i64 (j : Int)), (62, vi .i64 ((smallZ r5.val).1 + 1)), (63, vi .i64 0)] [(6, .box (zi r2)), (7, .row 22 1 ((out ++ (List.range 0).map (pieceL rs v x4)).map (slD 4 RelD.d))), (8, .box (zi x4.times ++ [.d (.sl 3 (x4.rest.parts.map Part.d))] ++ zi x4.rest.k))]) (congrArg (fun (z_ : List (List RelD)) => F.of [(0, .t (.c (.d (.sl 4 (rs.map RelD.d))))), (1, vi .i64 v), (9, vp 6 0), (10, vi .i64 most), (11, .t (.c (.own 7 z_.length))), (13, vp 8 0), (33, .t (.c (.d (.sl 5 ((lowsOf rs v).map SideD.d))))), (34, vi .i64 ((lowsOf rs v).length : Int)), (35, vi .i64 (j : Int)), (62, vi .i64 ((smallZ r5.val).1 + 1)), (63, vi .i64 0)] [(6, .box (zi r2)), (7, .row 22 1 (z_.map (slD 4 RelD.d))), (8, .box (zi x4.times ++ [.d (.sl 3 (x4.rest.parts.map Part.d))] ++ zi x4.rest.k))]) (show (out : List (List RelD)) = (out ++ (List.range 0).map (pieceL rs v x4)) from (by simp)))
       refine loopS (ι := (Nat)) (fun (z_ : (Nat)) => match z_ with | i => (i : Int) ≤ (smallZ r5.val).1 + 1)
         (fun (z_ : (Nat)) => match z_ with | i => [(0, .t (.c (.d (.sl 4 (rs.map RelD.d))))), (1, vi .i64 v), (9, vp 6 0), (10, vi .i64 most), (11, .t (.c (.own 7 (out ++ (List.range i).map (pieceL rs v x4)).length))), (13, vp 8 0), (33, .t (.c (.d (.sl 5 ((lowsOf rs v).map SideD.d))))), (34, vi .i64 ((lowsOf rs v).length : Int)), (35, vi .i64 (j : Int)), (62, vi .i64 ((smallZ r5.val).1 + 1)), (63, vi .i64 (i : Int))])
         (fun (z_ : (Nat)) => match z_ with | i => [(6, .box (zi r2)), (7, .row 22 1 ((out ++ (List.range i).map (pieceL rs v x4)).map (slD 4 RelD.d))), (8, .box (zi x4.times ++ [.d (.sl 3 (x4.rest.parts.map Part.d))] ++ zi x4.rest.k))])
         (fun (z_ : (Nat)) => match z_ with | i => ((smallZ r5.val).1 + 1).toNat - i) 0 ?_ h (by kernel_rfl) (by kernel_rfl) ?_
       ·show ((0 : Nat) : Int) ≤ _; omega
       ·clear h; rintro i a w hI h
        change St _ (F.of [(0, .t (.c (.d (.sl 4 (rs.map RelD.d))))), (1, vi .i64 v), (9, vp 6 0), (10, vi .i64 most), (11, .t (.c (.own 7 (out ++ (List.range i).map (pieceL rs v x4)).length))), (13, vp 8 0), (33, .t (.c (.d (.sl 5 ((lowsOf rs v).map SideD.d))))), (34, vi .i64 ((lowsOf rs v).length : Int)), (35, vi .i64 (j : Int)), (62, vi .i64 ((smallZ r5.val).1 + 1)), (63, vi .i64 (i : Int))] [(6, .box (zi r2)), (7, .row 22 1 ((out ++ (List.range i).map (pieceL rs v x4)).map (slD 4 RelD.d))), (8, .box (zi x4.times ++ [.d (.sl 3 (x4.rest.parts.map Part.d))] ++ zi x4.rest.k))]) a w at h
        have hpl : (out ++ (List.range i).map (pieceL rs v x4)).length = out.length + i := by simp
        refine rSeq fam0ok 10 [] [(0, .t (.c (.d (.sl 4 (rs.map RelD.d))))), (1, vi .i64 v), (9, vp 6 0), (10, vi .i64 most), (11, .t (.c (.own 7 (out ++ (List.range i).map (pieceL rs v x4)).length))), (13, vp 8 0), (33, .t (.c (.d (.sl 5 ((lowsOf rs v).map SideD.d))))), (34, vi .i64 ((lowsOf rs v).length : Int)), (35, vi .i64 (j : Int)), (62, vi .i64 ((smallZ r5.val).1 + 1)), (63, vi .i64 (i : Int)), (64, vb (decide ((i : Int) < ((smallZ r5.val).1 + 1))))] [(6, .box (zi r2)), (7, .row 22 1 ((out ++ (List.range i).map (pieceL rs v x4)).map (slD 4 RelD.d))), (8, .box (zi x4.times ++ [.d (.sl 3 (x4.rest.parts.map Part.d))] ++ zi x4.rest.k))] (by kernel_rfl) h ?_; clear h; intro a w h
        refine wp_seq ?_
        refine condS (decide ((i : Int) < ((smallZ r5.val).1 + 1))) h rfl (fun hc => ?_) (fun hc => ?_)
        ·have hc9 := hc; clear hc
         have hc9' := of_decide_eq_true hc9
         refine wp_skip ?_
         refine then_n ?_
         refine wp_seq ?_
         refine wp_block ?_
         refine rSeq fam0ok 10 [] [(0, .t (.c (.d (.sl 4 (rs.map RelD.d))))), (1, vi .i64 v), (9, vp 6 0), (10, vi .i64 most), (11, .t (.c (.own 7 (out ++ (List.range i).map (pieceL rs v x4)).length))), (13, vp 8 0), (17, vi .i64 (i : Int)), (33, .t (.c (.d (.sl 5 ((lowsOf rs v).map SideD.d))))), (34, vi .i64 ((lowsOf rs v).length : Int)), (35, vi .i64 (j : Int)), (62, vi .i64 ((smallZ r5.val).1 + 1)), (63, vi .i64 (i : Int))] [(6, .box (zi r2)), (7, .row 22 1 ((out ++ (List.range i).map (pieceL rs v x4)).map (slD 4 RelD.d))), (8, .box (zi x4.times ++ [.d (.sl 3 (x4.rest.parts.map Part.d))] ++ zi x4.rest.k))] (by kernel_rfl) h ?_; clear h; intro a w h
         refine rSeq fam0ok 10 [(3, .call (SEqual x4 v (i : Int) gx4 ⟨by omega, by omega⟩) hp_6), (4, .gen _ _ _ fun _ _ _ _ => Op.buildO (d := 70) (n := 10) (len := 1) (rows := [(eqR x4 v (i : Int))].map RelD.d) (rs := [(69, .t (.agg ([.d (.sl 3 ((eqR x4 v (i : Int)).t.parts.map Part.d))] ++ zi (eqR x4 v (i : Int)).t.k ++ [.d (.raw (.bool (eqR x4 v (i : Int)).eq))])))]) kc_5 (.cons (i := 0) (OV.tmp 69 _) (.nil)) (by kernel_rfl) rfl (by simp [RelD.d]) (by decide) (by decide))] [(0, .t (.c (.d (.sl 4 (rs.map RelD.d))))), (1, vi .i64 v), (9, vp 6 0), (10, vi .i64 most), (11, .t (.c (.own 7 (out ++ (List.range i).map (pieceL rs v x4)).length))), (13, vp 8 0), (18, .t (.c (.own 10 1))), (33, .t (.c (.d (.sl 5 ((lowsOf rs v).map SideD.d))))), (34, vi .i64 ((lowsOf rs v).length : Int)), (35, vi .i64 (j : Int)), (62, vi .i64 ((smallZ r5.val).1 + 1)), (63, vi .i64 (i : Int))] [(6, .box (zi r2)), (7, .row 22 1 ((out ++ (List.range i).map (pieceL rs v x4)).map (slD 4 RelD.d))), (8, .box (zi x4.times ++ [.d (.sl 3 (x4.rest.parts.map Part.d))] ++ zi x4.rest.k)), (10, .row 45 4 ([(eqR x4 v (i : Int))].map RelD.d))] (by kernel_rfl) h ?_; clear h; intro a w h
         refine wp_seq ?_
         refine rSeq fam0ok 11 [(1, .len (c := (.d (.sl 4 (rs.map RelD.d)))) (n := rs.length) (lenC_map _ _ _))] [(0, .t (.c (.d (.sl 4 (rs.map RelD.d))))), (1, vi .i64 v), (9, vp 6 0), (10, vi .i64 most), (11, .t (.c (.own 7 (out ++ (List.range i).map (pieceL rs v x4)).length))), (13, vp 8 0), (18, .t (.c (.own 10 1))), (33, .t (.c (.d (.sl 5 ((lowsOf rs v).map SideD.d))))), (34, vi .i64 ((lowsOf rs v).length : Int)), (35, vi .i64 (j : Int)), (62, vi .i64 ((smallZ r5.val).1 + 1)), (63, vi .i64 (i : Int)), (71, .t (.c (.d (.sl 4 (rs.map RelD.d))))), (72, vi .i64 (rs.length : Int)), (73, vi .i64 0)] [(6, .box (zi r2)), (7, .row 22 1 ((out ++ (List.range i).map (pieceL rs v x4)).map (slD 4 RelD.d))), (8, .box (zi x4.times ++ [.d (.sl 3 (x4.rest.parts.map Part.d))] ++ zi x4.rest.k)), (10, .row 45 4 ([(eqR x4 v (i : Int))].map RelD.d))] (by kernel_rfl) h ?_; clear h; intro a w h
         refine wp_block ?_
         replace h := h.conv (f' := F.of [(0, .t (.c (.d (.sl 4 (rs.map RelD.d))))), (1, vi .i64 v), (9, vp 6 0), (10, vi .i64 most), (11, .t (.c (.own 7 (out ++ (List.range i).map (pieceL rs v x4)).length))), (13, vp 8 0), (18, .t (.c (.own 10 1))), (33, .t (.c (.d (.sl 5 ((lowsOf rs v).map SideD.d))))), (34, vi .i64 ((lowsOf rs v).length : Int)), (35, vi .i64 (j : Int)), (62, vi .i64 ((smallZ r5.val).1 + 1)), (63, vi .i64 (i : Int)), (71, .t (.c (.d (.sl 4 (rs.map RelD.d))))), (72, vi .i64 (rs.length : Int)), (73, vi .i64 0)] [(6, .box (zi r2)), (7, .row 22 1 ((out ++ (List.range i).map (pieceL rs v x4)).map (slD 4 RelD.d))), (8, .box (zi x4.times ++ [.d (.sl 3 (x4.rest.parts.map Part.d))] ++ zi x4.rest.k)), (10, .row 45 4 (([eqR x4 v (i : Int)] ++ (rs.take 0).map plR).map RelD.d))]) (congrArg (fun (z_ : List RelD) => F.of [(0, .t (.c (.d (.sl 4 (rs.map RelD.d))))), (1, vi .i64 v), (9, vp 6 0), (10, vi .i64 most), (11, .t (.c (.own 7 (out ++ (List.range i).map (pieceL rs v x4)).length))), (13, vp 8 0), (18, .t (.c (.own 10 1))), (33, .t (.c (.d (.sl 5 ((lowsOf rs v).map SideD.d))))), (34, vi .i64 ((lowsOf rs v).length : Int)), (35, vi .i64 (j : Int)), (62, vi .i64 ((smallZ r5.val).1 + 1)), (63, vi .i64 (i : Int)), (71, .t (.c (.d (.sl 4 (rs.map RelD.d))))), (72, vi .i64 (rs.length : Int)), (73, vi .i64 0)] [(6, .box (zi r2)), (7, .row 22 1 ((out ++ (List.range i).map (pieceL rs v x4)).map (slD 4 RelD.d))), (8, .box (zi x4.times ++ [.d (.sl 3 (x4.rest.parts.map Part.d))] ++ zi x4.rest.k)), (10, .row 45 4 (z_.map RelD.d))]) (show ([(eqR x4 v (i : Int))] : List RelD) = ([eqR x4 v (i : Int)] ++ (rs.take 0).map plR) from (by simp)))
         refine loopS (ι := (Nat)) (fun (z_ : (Nat)) => match z_ with | k => k ≤ rs.length)
           (fun (z_ : (Nat)) => match z_ with | k => [(0, .t (.c (.d (.sl 4 (rs.map RelD.d))))), (1, vi .i64 v), (9, vp 6 0), (10, vi .i64 most), (11, .t (.c (.own 7 (out ++ (List.range i).map (pieceL rs v x4)).length))), (13, vp 8 0), (18, .t (.c (.own 10 ([eqR x4 v (i : Int)] ++ (rs.take k).map plR).length))), (33, .t (.c (.d (.sl 5 ((lowsOf rs v).map SideD.d))))), (34, vi .i64 ((lowsOf rs v).length : Int)), (35, vi .i64 (j : Int)), (62, vi .i64 ((smallZ r5.val).1 + 1)), (63, vi .i64 (i : Int)), (71, .t (.c (.d (.sl 4 (rs.map RelD.d))))), (72, vi .i64 (rs.length : Int)), (73, vi .i64 (k : Int))])
           (fun (z_ : (Nat)) => match z_ with | k => [(6, .box (zi r2)), (7, .row 22 1 ((out ++ (List.range i).map (pieceL rs v x4)).map (slD 4 RelD.d))), (8, .box (zi x4.times ++ [.d (.sl 3 (x4.rest.parts.map Part.d))] ++ zi x4.rest.k)), (10, .row 45 4 (([eqR x4 v (i : Int)] ++ (rs.take k).map plR).map RelD.d))])
           (fun (z_ : (Nat)) => match z_ with | k => rs.length - k) 0 ?_ h (by kernel_rfl) (by kernel_rfl) ?_
         ·exact Nat.zero_le _
         ·clear h; rintro k a w hI h
          change St _ (F.of [(0, .t (.c (.d (.sl 4 (rs.map RelD.d))))), (1, vi .i64 v), (9, vp 6 0), (10, vi .i64 most), (11, .t (.c (.own 7 (out ++ (List.range i).map (pieceL rs v x4)).length))), (13, vp 8 0), (18, .t (.c (.own 10 ([eqR x4 v (i : Int)] ++ (rs.take k).map plR).length))), (33, .t (.c (.d (.sl 5 ((lowsOf rs v).map SideD.d))))), (34, vi .i64 ((lowsOf rs v).length : Int)), (35, vi .i64 (j : Int)), (62, vi .i64 ((smallZ r5.val).1 + 1)), (63, vi .i64 (i : Int)), (71, .t (.c (.d (.sl 4 (rs.map RelD.d))))), (72, vi .i64 (rs.length : Int)), (73, vi .i64 (k : Int))] [(6, .box (zi r2)), (7, .row 22 1 ((out ++ (List.range i).map (pieceL rs v x4)).map (slD 4 RelD.d))), (8, .box (zi x4.times ++ [.d (.sl 3 (x4.rest.parts.map Part.d))] ++ zi x4.rest.k)), (10, .row 45 4 (([eqR x4 v (i : Int)] ++ (rs.take k).map plR).map RelD.d))]) a w at h
          have hkl : ([eqR x4 v (i : Int)] ++ (rs.take k).map plR).length ≤ 21 := by simp; omega
          refine rSeq fam0ok 11 [] [(0, .t (.c (.d (.sl 4 (rs.map RelD.d))))), (1, vi .i64 v), (9, vp 6 0), (10, vi .i64 most), (11, .t (.c (.own 7 (out ++ (List.range i).map (pieceL rs v x4)).length))), (13, vp 8 0), (18, .t (.c (.own 10 ([eqR x4 v (i : Int)] ++ (rs.take k).map plR).length))), (33, .t (.c (.d (.sl 5 ((lowsOf rs v).map SideD.d))))), (34, vi .i64 ((lowsOf rs v).length : Int)), (35, vi .i64 (j : Int)), (62, vi .i64 ((smallZ r5.val).1 + 1)), (63, vi .i64 (i : Int)), (71, .t (.c (.d (.sl 4 (rs.map RelD.d))))), (72, vi .i64 (rs.length : Int)), (73, vi .i64 (k : Int)), (74, vb (decide ((k : Int) < (rs.length : Int))))] [(6, .box (zi r2)), (7, .row 22 1 ((out ++ (List.range i).map (pieceL rs v x4)).map (slD 4 RelD.d))), (8, .box (zi x4.times ++ [.d (.sl 3 (x4.rest.parts.map Part.d))] ++ zi x4.rest.k)), (10, .row 45 4 (([eqR x4 v (i : Int)] ++ (rs.take k).map plR).map RelD.d))] (by kernel_rfl) h ?_; clear h; intro a w h
          refine wp_seq ?_
          refine condS (decide ((k : Int) < (rs.length : Int))) h rfl (fun hc => ?_) (fun hc => ?_)
          ·have hc10 := hc; clear hc
           have hc10' := of_decide_eq_true hc10
           refine wp_skip ?_
           refine then_n ?_
           refine wp_seq ?_
           refine wp_block ?_
           obtain ⟨x9, hx9⟩ : ∃ z_ : RelD, rs[k]? = some z_ := ⟨_, List.getElem?_eq_getElem (by first | omega | (simp at *; omega))⟩
           have gx9 : TOk 20 8 x9.t := hrs.2 x9 (List.mem_of_getElem? hx9)
           refine rSeq fam0ok 11 [(0, .gen _ _ _ fun _ _ _ _ => Op.idxD (d := 75) (t := 71) (k := .i64) kc_3 (map_at hx9 (f := RelD.d)) (OV.tmp 73 _))] [(0, .t (.c (.d (.sl 4 (rs.map RelD.d))))), (1, vi .i64 v), (9, vp 6 0), (10, vi .i64 most), (11, .t (.c (.own 7 (out ++ (List.range i).map (pieceL rs v x4)).length))), (13, vp 8 0), (18, .t (.c (.own 10 ([eqR x4 v (i : Int)] ++ (rs.take k).map plR).length))), (20, vp 11 0), (33, .t (.c (.d (.sl 5 ((lowsOf rs v).map SideD.d))))), (34, vi .i64 ((lowsOf rs v).length : Int)), (35, vi .i64 (j : Int)), (62, vi .i64 ((smallZ r5.val).1 + 1)), (63, vi .i64 (i : Int)), (71, .t (.c (.d (.sl 4 (rs.map RelD.d))))), (72, vi .i64 (rs.length : Int)), (73, vi .i64 (k : Int))] [(6, .box (zi r2)), (7, .row 22 1 ((out ++ (List.range i).map (pieceL rs v x4)).map (slD 4 RelD.d))), (8, .box (zi x4.times ++ [.d (.sl 3 (x4.rest.parts.map Part.d))] ++ zi x4.rest.k)), (10, .row 45 4 (([eqR x4 v (i : Int)] ++ (rs.take k).map plR).map RelD.d)), (11, .box ([.d (.sl 3 (x9.t.parts.map Part.d))] ++ zi x9.t.k ++ [.d (.raw (.bool x9.eq))]))] (by kernel_rfl) h ?_; clear h; intro a w h
           refine rS fam0ok 12 [(3, .call (SPlain x9.t gx9 (by decide) (by decide)) tm_7), (7, .gen _ _ _ fun _ _ _ _ => Op.buildD (d := 84) (len := 1) (rows := [(RelD.mk (plainT x9.t) x9.eq)].map RelD.d) (rs := [(83, .t (.agg ([.d (.sl 3 ((plainT x9.t).parts.map Part.d))] ++ zi (plainT x9.t).k ++ [.d (.raw (.bool x9.eq))])))]) kc_5 (.cons (i := 0) (OV.tmp 83 _) (.nil)) (by kernel_rfl) rfl (by simp [RelD.d]) (by decide) (by decide)), (8, .gen _ _ _ fun _ _ _ _ => Op.appOD (d := 85) (t := 77) (u := 84) (n := 10) (n' := 12) (len := ([eqR x4 v (i : Int)] ++ (rs.take k).map plR).length) (len' := (([eqR x4 v (i : Int)] ++ (rs.take k).map plR) ++ [(RelD.mk (plainT x9.t) x9.eq)]).length) (rows := ([eqR x4 v (i : Int)] ++ (rs.take k).map plR).map RelD.d) (rows2 := [(RelD.mk (plainT x9.t) x9.eq)].map RelD.d) (rows' := (([eqR x4 v (i : Int)] ++ (rs.take k).map plR) ++ [(RelD.mk (plainT x9.t) x9.eq)]).map RelD.d) ha_11 (by first | exact (List.length_map _).symm | simp) (by first | (rw [List.length_append, List.length_map]; done) | simp) (by simp) (by simp [RelD.d]) (by first | omega | (simp at *; done) | (simp at *; omega)))] [(0, .t (.c (.d (.sl 4 (rs.map RelD.d))))), (1, vi .i64 v), (9, vp 6 0), (10, vi .i64 most), (11, .t (.c (.own 7 (out ++ (List.range i).map (pieceL rs v x4)).length))), (13, vp 8 0), (18, .t (.c (.own 12 (([eqR x4 v (i : Int)] ++ (rs.take k).map plR) ++ [(RelD.mk (plainT x9.t) x9.eq)]).length))), (33, .t (.c (.d (.sl 5 ((lowsOf rs v).map SideD.d))))), (34, vi .i64 ((lowsOf rs v).length : Int)), (35, vi .i64 (j : Int)), (62, vi .i64 ((smallZ r5.val).1 + 1)), (63, vi .i64 (i : Int)), (71, .t (.c (.d (.sl 4 (rs.map RelD.d))))), (72, vi .i64 (rs.length : Int)), (73, vi .i64 (k : Int))] [(6, .box (zi r2)), (7, .row 22 1 ((out ++ (List.range i).map (pieceL rs v x4)).map (slD 4 RelD.d))), (8, .box (zi x4.times ++ [.d (.sl 3 (x4.rest.parts.map Part.d))] ++ zi x4.rest.k)), (12, .row 45 4 ((([eqR x4 v (i : Int)] ++ (rs.take k).map plR) ++ [(RelD.mk (plainT x9.t) x9.eq)]).map RelD.d))] (by kernel_rfl) h ?_; clear h; intro a w h
           refine block_n ?_
           refine then_n ?_
           refine rS fam0ok 13 [(0, .add .i64 (m := (k : Int)) (n := 1) (i64_id (by omega) (by omega)))] [(0, .t (.c (.d (.sl 4 (rs.map RelD.d))))), (1, vi .i64 v), (9, vp 6 0), (10, vi .i64 most), (11, .t (.c (.own 7 (out ++ (List.range i).map (pieceL rs v x4)).length))), (13, vp 8 0), (18, .t (.c (.own 12 (([eqR x4 v (i : Int)] ++ (rs.take k).map plR) ++ [(RelD.mk (plainT x9.t) x9.eq)]).length))), (33, .t (.c (.d (.sl 5 ((lowsOf rs v).map SideD.d))))), (34, vi .i64 ((lowsOf rs v).length : Int)), (35, vi .i64 (j : Int)), (62, vi .i64 ((smallZ r5.val).1 + 1)), (63, vi .i64 (i : Int)), (71, .t (.c (.d (.sl 4 (rs.map RelD.d))))), (72, vi .i64 (rs.length : Int)), (73, vi .i64 ((k : Int) + 1))] [(6, .box (zi r2)), (7, .row 22 1 ((out ++ (List.range i).map (pieceL rs v x4)).map (slD 4 RelD.d))), (8, .box (zi x4.times ++ [.d (.sl 3 (x4.rest.parts.map Part.d))] ++ zi x4.rest.k)), (12, .row 45 4 ((([eqR x4 v (i : Int)] ++ (rs.take k).map plR) ++ [(RelD.mk (plainT x9.t) x9.eq)]).map RelD.d))] (by kernel_rfl) h ?_; clear h; intro a w h
           refine then_n ?_
           replace h := h.conv (f' := F.of [(0, .t (.c (.d (.sl 4 (rs.map RelD.d))))), (1, vi .i64 v), (9, vp 6 0), (10, vi .i64 most), (11, .t (.c (.own 7 (out ++ (List.range i).map (pieceL rs v x4)).length))), (13, vp 8 0), (18, .t (.c (.own 12 ([eqR x4 v (i : Int)] ++ (rs.take (k + 1)).map plR).length))), (33, .t (.c (.d (.sl 5 ((lowsOf rs v).map SideD.d))))), (34, vi .i64 ((lowsOf rs v).length : Int)), (35, vi .i64 (j : Int)), (62, vi .i64 ((smallZ r5.val).1 + 1)), (63, vi .i64 (i : Int)), (71, .t (.c (.d (.sl 4 (rs.map RelD.d))))), (72, vi .i64 (rs.length : Int)), (73, vi .i64 ((k : Int) + 1))] [(6, .box (zi r2)), (7, .row 22 1 ((out ++ (List.range i).map (pieceL rs v x4)).map (slD 4 RelD.d))), (8, .box (zi x4.times ++ [.d (.sl 3 (x4.rest.parts.map Part.d))] ++ zi x4.rest.k)), (12, .row 45 4 (([eqR x4 v (i : Int)] ++ (rs.take (k + 1)).map plR).map RelD.d))]) (congrArg (fun (z_ : List RelD) => F.of [(0, .t (.c (.d (.sl 4 (rs.map RelD.d))))), (1, vi .i64 v), (9, vp 6 0), (10, vi .i64 most), (11, .t (.c (.own 7 (out ++ (List.range i).map (pieceL rs v x4)).length))), (13, vp 8 0), (18, .t (.c (.own 12 z_.length))), (33, .t (.c (.d (.sl 5 ((lowsOf rs v).map SideD.d))))), (34, vi .i64 ((lowsOf rs v).length : Int)), (35, vi .i64 (j : Int)), (62, vi .i64 ((smallZ r5.val).1 + 1)), (63, vi .i64 (i : Int)), (71, .t (.c (.d (.sl 4 (rs.map RelD.d))))), (72, vi .i64 (rs.length : Int)), (73, vi .i64 ((k : Int) + 1))] [(6, .box (zi r2)), (7, .row 22 1 ((out ++ (List.range i).map (pieceL rs v x4)).map (slD 4 RelD.d))), (8, .box (zi x4.times ++ [.d (.sl 3 (x4.rest.parts.map Part.d))] ++ zi x4.rest.k)), (12, .row 45 4 (z_.map RelD.d))]) (show ((([eqR x4 v (i : Int)] ++ (rs.take k).map plR) ++ [(RelD.mk (plainT x9.t) x9.eq)]) : List RelD) = ([eqR x4 v (i : Int)] ++ (rs.take (k + 1)).map plR) from (by rw [List.append_assoc]; congr 1; exact mapSnoc (f := plR) hx9)))
           replace h := renS 12 10 [(0, .t (.c (.d (.sl 4 (rs.map RelD.d))))), (1, vi .i64 v), (9, vp 6 0), (10, vi .i64 most), (11, .t (.c (.own 7 (out ++ (List.range i).map (pieceL rs v x4)).length))), (13, vp 8 0), (18, .t (.c (.own 10 ([eqR x4 v (i : Int)] ++ (rs.take (k + 1)).map plR).length))), (33, .t (.c (.d (.sl 5 ((lowsOf rs v).map SideD.d))))), (34, vi .i64 ((lowsOf rs v).length : Int)), (35, vi .i64 (j : Int)), (62, vi .i64 ((smallZ r5.val).1 + 1)), (63, vi .i64 (i : Int)), (71, .t (.c (.d (.sl 4 (rs.map RelD.d))))), (72, vi .i64 (rs.length : Int)), (73, vi .i64 ((k : Int) + 1))] [(6, .box (zi r2)), (7, .row 22 1 ((out ++ (List.range i).map (pieceL rs v x4)).map (slD 4 RelD.d))), (8, .box (zi x4.times ++ [.d (.sl 3 (x4.rest.parts.map Part.d))] ++ zi x4.rest.k)), (10, .row 45 4 (([eqR x4 v (i : Int)] ++ (rs.take (k + 1)).map plR).map RelD.d))] h (by kernel_rfl) (by kernel_rfl) (by kernel_rfl)
           refine roundS (x := k) (y := k + 1) h ?_ ?_ (by kernel_rfl) (by kernel_rfl)
           ·have := at_lt hx9
            show k + 1 ≤ rs.length
            omega
           ·show rs.length - (k + 1) < rs.length - k
            have := at_lt hx9; omega
          ·have hc11 := hc; clear hc
           have hc11' := of_decide_eq_false hc11
           refine wp_exit ?_
           refine then_x ?_
           refine then_x ?_
           refine inBlock_exit ?_
           refine then_n ?_
           replace h := h.conv (f' := F.of [(0, .t (.c (.d (.sl 4 (rs.map RelD.d))))), (1, vi .i64 v), (9, vp 6 0), (10, vi .i64 most), (11, .t (.c (.own 7 (out ++ (List.range i).map (pieceL rs v x4)).length))), (13, vp 8 0), (18, .t (.c (.own 10 (pieceL rs v x4 i).length))), (33, .t (.c (.d (.sl 5 ((lowsOf rs v).map SideD.d))))), (34, vi .i64 ((lowsOf rs v).length : Int)), (35, vi .i64 (j : Int)), (62, vi .i64 ((smallZ r5.val).1 + 1)), (63, vi .i64 (i : Int)), (71, .t (.c (.d (.sl 4 (rs.map RelD.d))))), (72, vi .i64 (rs.length : Int)), (73, vi .i64 (k : Int)), (74, vb (decide ((k : Int) < (rs.length : Int))))] [(6, .box (zi r2)), (7, .row 22 1 ((out ++ (List.range i).map (pieceL rs v x4)).map (slD 4 RelD.d))), (8, .box (zi x4.times ++ [.d (.sl 3 (x4.rest.parts.map Part.d))] ++ zi x4.rest.k)), (10, .row 45 4 ((pieceL rs v x4 i).map RelD.d))]) (congrArg (fun (z_ : List RelD) => F.of [(0, .t (.c (.d (.sl 4 (rs.map RelD.d))))), (1, vi .i64 v), (9, vp 6 0), (10, vi .i64 most), (11, .t (.c (.own 7 (out ++ (List.range i).map (pieceL rs v x4)).length))), (13, vp 8 0), (18, .t (.c (.own 10 z_.length))), (33, .t (.c (.d (.sl 5 ((lowsOf rs v).map SideD.d))))), (34, vi .i64 ((lowsOf rs v).length : Int)), (35, vi .i64 (j : Int)), (62, vi .i64 ((smallZ r5.val).1 + 1)), (63, vi .i64 (i : Int)), (71, .t (.c (.d (.sl 4 (rs.map RelD.d))))), (72, vi .i64 (rs.length : Int)), (73, vi .i64 (k : Int)), (74, vb (decide ((k : Int) < (rs.length : Int))))] [(6, .box (zi r2)), (7, .row 22 1 ((out ++ (List.range i).map (pieceL rs v x4)).map (slD 4 RelD.d))), (8, .box (zi x4.times ++ [.d (.sl 3 (x4.rest.parts.map Part.d))] ++ zi x4.rest.k)), (10, .row 45 4 (z_.map RelD.d))]) (show (([eqR x4 v (i : Int)] ++ (rs.take k).map plR) : List RelD) = (pieceL rs v x4 i) from (by unfold pieceL; rw [List.take_of_length_le (by omega)]; rfl)))
           replace h := pubS 10 4 45 ((pieceL rs v x4 i).map RelD.d) [(0, .t (.c (.d (.sl 4 (rs.map RelD.d))))), (1, vi .i64 v), (9, vp 6 0), (10, vi .i64 most), (11, .t (.c (.own 7 (out ++ (List.range i).map (pieceL rs v x4)).length))), (13, vp 8 0), (18, .t (.c (.d (.sl 4 ((pieceL rs v x4 i).map RelD.d))))), (33, .t (.c (.d (.sl 5 ((lowsOf rs v).map SideD.d))))), (34, vi .i64 ((lowsOf rs v).length : Int)), (35, vi .i64 (j : Int)), (62, vi .i64 ((smallZ r5.val).1 + 1)), (63, vi .i64 (i : Int)), (71, .t (.c (.d (.sl 4 (rs.map RelD.d))))), (72, vi .i64 (rs.length : Int)), (73, vi .i64 (k : Int)), (74, vb (decide ((k : Int) < (rs.length : Int))))] [(6, .box (zi r2)), (7, .row 22 1 ((out ++ (List.range i).map (pieceL rs v x4)).map (slD 4 RelD.d))), (8, .box (zi x4.times ++ [.d (.sl 3 (x4.rest.parts.map Part.d))] ++ zi x4.rest.k))] h rfl (show AllEq _ [(pieceL rs v x4 i).length] from ⟨by first | exact (List.length_map _).symm | (simp; done) | (simp; omega), trivial⟩) trivial (by kernel_rfl) (by kernel_rfl)
           refine rS fam0ok 13 [(2, .gen _ _ _ fun _ _ _ _ => Op.buildD (d := 89) (len := 1) (rows := [(pieceL rs v x4 i)].map (slD 4 RelD.d)) (rs := [(88, .t (.c (.d (.sl 4 ((pieceL rs v x4 i).map RelD.d)))))]) hp_11 (.cons (i := 0) (OV.tmp 88 _) (.nil)) (by kernel_rfl) rfl (by simp [slD]) (by decide) (by decide)), (3, .gen _ _ _ fun _ _ _ _ => Op.appOD (d := 90) (t := 87) (u := 89) (n := 7) (n' := 13) (len := (out ++ (List.range i).map (pieceL rs v x4)).length) (len' := ((out ++ (List.range i).map (pieceL rs v x4)) ++ [(pieceL rs v x4 i)]).length) (rows := (out ++ (List.range i).map (pieceL rs v x4)).map (slD 4 RelD.d)) (rows2 := [(pieceL rs v x4 i)].map (slD 4 RelD.d)) (rows' := ((out ++ (List.range i).map (pieceL rs v x4)) ++ [(pieceL rs v x4 i)]).map (slD 4 RelD.d)) hp_12 (by first | exact (List.length_map _).symm | simp) (by first | (rw [List.length_append, List.length_map]; done) | simp) (by simp) (by simp [slD]) (by first | omega | (simp at *; done) | (simp at *; omega)))] [(0, .t (.c (.d (.sl 4 (rs.map RelD.d))))), (1, vi .i64 v), (9, vp 6 0), (10, vi .i64 most), (11, .t (.c (.own 13 ((out ++ (List.range i).map (pieceL rs v x4)) ++ [(pieceL rs v x4 i)]).length))), (13, vp 8 0), (33, .t (.c (.d (.sl 5 ((lowsOf rs v).map SideD.d))))), (34, vi .i64 ((lowsOf rs v).length : Int)), (35, vi .i64 (j : Int)), (62, vi .i64 ((smallZ r5.val).1 + 1)), (63, vi .i64 (i : Int))] [(6, .box (zi r2)), (8, .box (zi x4.times ++ [.d (.sl 3 (x4.rest.parts.map Part.d))] ++ zi x4.rest.k)), (13, .row 22 1 (((out ++ (List.range i).map (pieceL rs v x4)) ++ [(pieceL rs v x4 i)]).map (slD 4 RelD.d)))] (by kernel_rfl) h ?_; clear h; intro a w h
           refine block_n ?_
           refine then_n ?_
           refine rS fam0ok 14 [(0, .add .i64 (m := (i : Int)) (n := 1) (i64_id (by omega) (by omega)))] [(0, .t (.c (.d (.sl 4 (rs.map RelD.d))))), (1, vi .i64 v), (9, vp 6 0), (10, vi .i64 most), (11, .t (.c (.own 13 ((out ++ (List.range i).map (pieceL rs v x4)) ++ [(pieceL rs v x4 i)]).length))), (13, vp 8 0), (33, .t (.c (.d (.sl 5 ((lowsOf rs v).map SideD.d))))), (34, vi .i64 ((lowsOf rs v).length : Int)), (35, vi .i64 (j : Int)), (62, vi .i64 ((smallZ r5.val).1 + 1)), (63, vi .i64 ((i : Int) + 1))] [(6, .box (zi r2)), (8, .box (zi x4.times ++ [.d (.sl 3 (x4.rest.parts.map Part.d))] ++ zi x4.rest.k)), (13, .row 22 1 (((out ++ (List.range i).map (pieceL rs v x4)) ++ [(pieceL rs v x4 i)]).map (slD 4 RelD.d)))] (by kernel_rfl) h ?_; clear h; intro a w h
           refine then_n ?_
           replace h := h.conv (f' := F.of [(0, .t (.c (.d (.sl 4 (rs.map RelD.d))))), (1, vi .i64 v), (9, vp 6 0), (10, vi .i64 most), (11, .t (.c (.own 13 (out ++ (List.range (i + 1)).map (pieceL rs v x4)).length))), (13, vp 8 0), (33, .t (.c (.d (.sl 5 ((lowsOf rs v).map SideD.d))))), (34, vi .i64 ((lowsOf rs v).length : Int)), (35, vi .i64 (j : Int)), (62, vi .i64 ((smallZ r5.val).1 + 1)), (63, vi .i64 ((i : Int) + 1))] [(6, .box (zi r2)), (8, .box (zi x4.times ++ [.d (.sl 3 (x4.rest.parts.map Part.d))] ++ zi x4.rest.k)), (13, .row 22 1 ((out ++ (List.range (i + 1)).map (pieceL rs v x4)).map (slD 4 RelD.d)))]) (congrArg (fun (z_ : List (List RelD)) => F.of [(0, .t (.c (.d (.sl 4 (rs.map RelD.d))))), (1, vi .i64 v), (9, vp 6 0), (10, vi .i64 most), (11, .t (.c (.own 13 z_.length))), (13, vp 8 0), (33, .t (.c (.d (.sl 5 ((lowsOf rs v).map SideD.d))))), (34, vi .i64 ((lowsOf rs v).length : Int)), (35, vi .i64 (j : Int)), (62, vi .i64 ((smallZ r5.val).1 + 1)), (63, vi .i64 ((i : Int) + 1))] [(6, .box (zi r2)), (8, .box (zi x4.times ++ [.d (.sl 3 (x4.rest.parts.map Part.d))] ++ zi x4.rest.k)), (13, .row 22 1 (z_.map (slD 4 RelD.d)))]) (show (((out ++ (List.range i).map (pieceL rs v x4)) ++ [(pieceL rs v x4 i)]) : List (List RelD)) = (out ++ (List.range (i + 1)).map (pieceL rs v x4)) from (by rw [List.append_assoc, List.range_succ, List.map_append]; rfl)))
           replace h := renS 13 7 [(0, .t (.c (.d (.sl 4 (rs.map RelD.d))))), (1, vi .i64 v), (9, vp 6 0), (10, vi .i64 most), (11, .t (.c (.own 7 (out ++ (List.range (i + 1)).map (pieceL rs v x4)).length))), (13, vp 8 0), (33, .t (.c (.d (.sl 5 ((lowsOf rs v).map SideD.d))))), (34, vi .i64 ((lowsOf rs v).length : Int)), (35, vi .i64 (j : Int)), (62, vi .i64 ((smallZ r5.val).1 + 1)), (63, vi .i64 ((i : Int) + 1))] [(6, .box (zi r2)), (8, .box (zi x4.times ++ [.d (.sl 3 (x4.rest.parts.map Part.d))] ++ zi x4.rest.k)), (7, .row 22 1 ((out ++ (List.range (i + 1)).map (pieceL rs v x4)).map (slD 4 RelD.d)))] h (by kernel_rfl) (by kernel_rfl) (by kernel_rfl)
           refine roundS (x := i) (y := i + 1) h ?_ ?_ (by kernel_rfl) (by kernel_rfl)
           ·show ((i + 1 : Nat) : Int) ≤ _
            omega
           ·show ((smallZ r5.val).1 + 1).toNat - (i + 1) < ((smallZ r5.val).1 + 1).toNat - i
            omega
        ·have hc12 := hc; clear hc
         have hc12' := of_decide_eq_false hc12
         refine wp_exit ?_
         refine then_x ?_
         refine then_x ?_
         refine inBlock_exit ?_
         refine block_n ?_
         refine then_n ?_
         refine rS fam0ok 14 [(0, .add .i64 (m := (j : Int)) (n := 1) (i64_id (by omega) (by omega)))] [(0, .t (.c (.d (.sl 4 (rs.map RelD.d))))), (1, vi .i64 v), (9, vp 6 0), (10, vi .i64 most), (11, .t (.c (.own 7 (out ++ (List.range i).map (pieceL rs v x4)).length))), (33, .t (.c (.d (.sl 5 ((lowsOf rs v).map SideD.d))))), (34, vi .i64 ((lowsOf rs v).length : Int)), (35, vi .i64 ((j : Int) + 1))] [(6, .box (zi r2)), (7, .row 22 1 ((out ++ (List.range i).map (pieceL rs v x4)).map (slD 4 RelD.d)))] (by kernel_rfl) h ?_; clear h; intro a w h
         refine then_n ?_
         replace h := h.conv (f' := F.of [(0, .t (.c (.d (.sl 4 (rs.map RelD.d))))), (1, vi .i64 v), (9, vp 6 0), (10, vi .i64 most), (11, .t (.c (.own 7 (out ++ pieces1 rs v x4 (lastZ x4.times.val (maxS (highsOf rs v)))).length))), (33, .t (.c (.d (.sl 5 ((lowsOf rs v).map SideD.d))))), (34, vi .i64 ((lowsOf rs v).length : Int)), (35, vi .i64 ((j : Int) + 1))] [(6, .box (zi r2)), (7, .row 22 1 ((out ++ pieces1 rs v x4 (lastZ x4.times.val (maxS (highsOf rs v)))).map (slD 4 RelD.d)))]) (congrArg (fun (z_ : List (List RelD)) => F.of [(0, .t (.c (.d (.sl 4 (rs.map RelD.d))))), (1, vi .i64 v), (9, vp 6 0), (10, vi .i64 most), (11, .t (.c (.own 7 z_.length))), (33, .t (.c (.d (.sl 5 ((lowsOf rs v).map SideD.d))))), (34, vi .i64 ((lowsOf rs v).length : Int)), (35, vi .i64 ((j : Int) + 1))] [(6, .box (zi r2)), (7, .row 22 1 (z_.map (slD 4 RelD.d)))]) (show ((out ++ (List.range i).map (pieceL rs v x4)) : List (List RelD)) = (out ++ pieces1 rs v x4 (lastZ x4.times.val (maxS (highsOf rs v)))) from (by unfold pieces1; rw [show i = (lastZ x4.times.val (maxS (highsOf rs v)) + 1).toNat by rw [vr5, vr2] at *; omega])))
         refine roundS (x := (j, out)) (y := (j + 1, (out ++ pieces1 rs v x4 (lastZ x4.times.val (maxS (highsOf rs v)))))) h ?_ ?_ (by kernel_rfl) (by kernel_rfl)
         ·have := at_lt hx4
          have hv := vr5
          rw [vr2] at hv
          exact ⟨by omega, by rw [hI2, go_at hx4, if_neg (by rw [← hv]; omega), if_neg (by rw [← hv]; omega)], by show (((out ++ pieces1 rs v x4 (lastZ x4.times.val (maxS (highsOf rs v)))).length : Nat) : Int) ≤ most; unfold pieces1; rw [List.length_append, List.length_map, List.length_range, ← hv]; omega⟩
         ·show (lowsOf rs v).length - (j + 1) < (lowsOf rs v).length - j
          have := at_lt hx4; omega
     ·have hc13 := hc; clear hc
      rw [hc13] at h
      refine rSeq fam0ok 14 [] [(0, .t (.c (.d (.sl 4 (rs.map RelD.d))))), (1, vi .i64 v), (9, vp 6 0), (10, vi .i64 most), (11, .t (.c (.own 7 out.length))), (13, vp 8 0), (15, vi .i64 (smallZ r5.val).1), (33, .t (.c (.d (.sl 5 ((lowsOf rs v).map SideD.d))))), (34, vi .i64 ((lowsOf rs v).length : Int)), (35, vi .i64 (j : Int)), (60, vb true)] [(6, .box (zi r2)), (7, .row 22 1 (out.map (slD 4 RelD.d))), (8, .box (zi x4.times ++ [.d (.sl 3 (x4.rest.parts.map Part.d))] ++ zi x4.rest.k))] (by kernel_rfl) h ?_; clear h; intro a w h
      refine condS true h rfl (fun hc => ?_) (fun hc => ?_)
      ·clear hc
       refine rSeq fam0ok 14 [] [(0, .t (.c (.d (.sl 4 (rs.map RelD.d))))), (1, vi .i64 v), (6, .t (.c (.d (.raw nilV)))), (7, vi .i64 3), (9, vp 6 0), (10, vi .i64 most), (11, .t (.c (.own 7 out.length))), (13, vp 8 0), (15, vi .i64 (smallZ r5.val).1), (33, .t (.c (.d (.sl 5 ((lowsOf rs v).map SideD.d))))), (34, vi .i64 ((lowsOf rs v).length : Int)), (35, vi .i64 (j : Int))] [(6, .box (zi r2)), (7, .row 22 1 (out.map (slD 4 RelD.d))), (8, .box (zi x4.times ++ [.d (.sl 3 (x4.rest.parts.map Part.d))] ++ zi x4.rest.k))] (by kernel_rfl) h ?_; clear h; intro a w h
       refine wp_ret ?_
       refine then_r ?_
       refine block_r ?_
       refine then_r ?_
       refine then_r ?_
       refine block_r ?_
       refine then_r ?_
       replace h := nilDSs 6 0 1 (.t (.c (.d (.raw nilV)))) [(0, .t (.c (.d (.sl 4 (rs.map RelD.d))))), (1, vi .i64 v), (6, .t (.c (.d (.sl 1 ([].map (slD 4 RelD.d)))))), (7, vi .i64 3), (9, vp 6 0), (10, vi .i64 most), (11, .t (.c (.own 7 out.length))), (13, vp 8 0), (15, vi .i64 (smallZ r5.val).1), (33, .t (.c (.d (.sl 5 ((lowsOf rs v).map SideD.d))))), (34, vi .i64 ((lowsOf rs v).length : Int)), (35, vi .i64 (j : Int))] [(6, .box (zi r2)), (7, .row 22 1 (out.map (slD 4 RelD.d))), (8, .box (zi x4.times ++ [.d (.sl 3 (x4.rest.parts.map Part.d))] ++ zi x4.rest.k))] h rfl rfl (by kernel_rfl) (by kernel_rfl)
       refine retS [.c (.d (.sl 1 ([].map (slD 4 RelD.d)))), .c (.d (.raw (.int .i64 3)))] h Exit.ret (.inl rfl)  rfl ⟨RV.tmp _ _ rfl, RV.tmp _ _ rfl, trivial⟩ ?_ (by kernel_rfl) (by kernel_rfl)
       have hn0 : 0 ≤ r5.val := by have h0 := of_decide_eq_false hc5; have h1 := mt (sgn_lt_zero (z := r5.val)).2 h0; omega
       have hbig := small_big (m := 9223372036854775807) hc13 hn0 (by omega)
       have hv := vr5
       rw [vr2] at hv
       have hz : piecesS rs v most = ([], 3) := by rw [hI2, go_at hx4, if_neg (by rw [← hv]; omega), if_pos (by rw [← hv]; omega)]
       rw [hz]; first | done | rfl
      ·cases hc
   ·have hc14 := hc; clear hc
    have hc14' := of_decide_eq_false hc14
    refine wp_exit ?_
    refine then_x ?_
    refine then_x ?_
    refine inBlock_exit ?_
    refine then_n ?_
    refine rSeq fam0ok 14 [] [(6, .t (.c (.own 7 out.length))), (7, vi .i64 0)] [(7, .row 22 1 (out.map (slD 4 RelD.d)))] (by kernel_rfl) h ?_; clear h; intro a w h
    refine wp_ret ?_
    replace h := pubS 7 1 22 (out.map (slD 4 RelD.d)) [(6, .t (.c (.d (.sl 1 (out.map (slD 4 RelD.d)))))), (7, vi .i64 0)] [] h rfl (show AllEq _ [out.length] from ⟨by first | exact (List.length_map _).symm | (simp; done) | (simp; omega), trivial⟩) trivial (by kernel_rfl) (by kernel_rfl)
    refine retS [.c (.d (.sl 1 (out.map (slD 4 RelD.d)))), .c (.d (.raw (.int .i64 0)))] h Exit.ret (.inl rfl)  rfl ⟨RV.tmp _ _ rfl, RV.tmp _ _ rfl, trivial⟩ ?_ (by kernel_rfl) (by kernel_rfl)
    have hz : piecesS rs v most = (out, 0) := by rw [hI2, List.drop_of_length_le (by omega)]; rfl
    rw [hz]; first | done | rfl
end Go.Proofs.YtoklkfmffmonoaaGreat.S
end
section
namespace Go.Proofs.YtoklkfmffmonoaaGreat.S
open Go.RowKit

end Go.Proofs.YtoklkfmffmonoaaGreat.S
end
section
namespace Go.Proofs.YtoklkfmffmonoaaGreat.S
open Go.RowKit

end Go.Proofs.YtoklkfmffmonoaaGreat.S
end
section
namespace Go.Proofs.YtoklkfmffmonoaaGreat.S
open Go.RowKit

end Go.Proofs.YtoklkfmffmonoaaGreat.S
end
section
namespace Go.Proofs.YtoklkfmffmonoaaGreat.S
open Go.RowKit

end Go.Proofs.YtoklkfmffmonoaaGreat.S
end
section
namespace Go.Proofs.YtoklkfmffmonoaaGreat.S
open Go.RowKit

end Go.Proofs.YtoklkfmffmonoaaGreat.S
end
section
namespace Go.Proofs.YtoklkfmffmonoaaGreat.S
open Go.RowKit

theorem kk_4 : ElT Tryz.prog 23 30 2 32 := ElT.mk' Tryz.underlying23 _ _ rfl rfl (by kernel_rfl) (by kernel_rfl) (by kernel_rfl) (by decide) (by decide)
end Go.Proofs.YtoklkfmffmonoaaGreat.S
end
section
namespace Go.Proofs.YtoklkfmffmonoaaGreat.S
open Go.RowKit

end Go.Proofs.YtoklkfmffmonoaaGreat.S
end
section
namespace Go.Proofs.YtoklkfmffmonoaaGreat.S
open Go.RowKit

end Go.Proofs.YtoklkfmffmonoaaGreat.S
end
section
namespace Go.Proofs.YtoklkfmffmonoaaGreat.S
open Go.RowKit

end Go.Proofs.YtoklkfmffmonoaaGreat.S
end
section
namespace Go.Proofs.YtoklkfmffmonoaaGreat.S
open Go.RowKit

end Go.Proofs.YtoklkfmffmonoaaGreat.S
end
section
namespace Go.Proofs.YtoklkfmffmonoaaGreat.S
open Go.RowKit

end Go.Proofs.YtoklkfmffmonoaaGreat.S
end
section
namespace Go.Proofs.YtoklkfmffmonoaaGreat.S
open Go.RowKit

end Go.Proofs.YtoklkfmffmonoaaGreat.S
end
section
namespace Go.Proofs.YtoklkfmffmonoaaGreat.S
open Go.RowKit

end Go.Proofs.YtoklkfmffmonoaaGreat.S
end
section
namespace Go.Proofs.YtoklkfmffmonoaaGreat.S
open Go.RowKit

end Go.Proofs.YtoklkfmffmonoaaGreat.S
end
section
namespace Go.Proofs.YtoklkfmffmonoaaGreat.S
open Go.RowKit

end Go.Proofs.YtoklkfmffmonoaaGreat.S
end
section
namespace Go.Proofs.YtoklkfmffmonoaaGreat.S
open Go.RowKit

end Go.Proofs.YtoklkfmffmonoaaGreat.S
end
section
namespace Go.Proofs.YtoklkfmffmonoaaGreat.S
open Go.RowKit

mutual
/-- y is x, with nil read as an empty slice here and there -/
inductive Wk : D → D → Prop
  | refl (x : D) : Wk x x
  | nil (es : Nat) : Wk (.raw nilV) (.sl es [])
  | sl (es : Nat) (a b : List (List D)) (h : WkR a b) : Wk (.sl es a) (.sl es b)
inductive WkL : List D → List D → Prop
  | nil : WkL [] []
  | cons (x y : D) (xs ys : List D) (h : Wk x y) (hs : WkL xs ys) : WkL (x :: xs) (y :: ys)
inductive WkR : List (List D) → List (List D) → Prop
  | nil : WkR [] []
  | cons (x y : List D) (xs ys : List (List D)) (h : WkL x y) (hs : WkR xs ys) : WkR (x :: xs) (y :: ys)
end
def WkM (x y : D) : Prop := ∀ (H : Im) (v : Value), DR H x v → DR H y v
def WkLM (xs ys : List D) : Prop := xs.length = ys.length ∧ ∀ j (h : j < xs.length) (h' : j < ys.length), WkM xs[j] ys[j]
def WkRM (xs ys : List (List D)) : Prop := xs.length = ys.length ∧ ∀ i (h : i < xs.length) (h' : i < ys.length), WkLM xs[i] ys[i]
theorem Wk.sound {x y : D} (h : Wk x y) : WkM x y := by
 refine Wk.rec (motive_1 := fun x y _ => WkM x y) (motive_2 := fun x y _ => WkLM x y) (motive_3 := fun x y _ => WkRM x y) ?_ ?_ ?_ ?_ ?_ ?_ ?_ h
 ·intro x H v h; exact h
 ·intro es H v h
  cases h with
  | raw v h => exact DR.nil _ _ _ (fun _ => rfl) (Nat.zero_le _)
 ·intro es a b _ ih H v h
  cases h with
  | nil es ao c h hc =>
   have : b = [] := List.length_eq_zero_iff.1 ih.1.symm
   subst this
   exact DR.nil _ _ _ h hc
  | sl es rows bb o c arr ty fz vs hp hb hl hc hes hv hr =>
   rw [ih.1] at hp hl ⊢
   refine DR.sl es b bb o c arr ty fz vs hp hb hl hc (fun i hi => ?_) (fun i hi => ?_) (fun i hi j hj => ?_)
   ·have h0 : i < a.length := by rw [ih.1]; exact hi
    rw [← (ih.2 i h0 hi).1]; exact hes i h0
   ·exact hv i (by rw [ih.1]; exact hi)
   ·have h0 : i < a.length := by rw [ih.1]; exact hi
    have hj0 : j < a[i].length := by rw [(ih.2 i h0 hi).1]; exact hj
    exact (ih.2 i h0 hi).2 j hj0 hj _ _ (hr i h0 j hj0)
 ·exact ⟨rfl, fun j h => absurd h (Nat.not_lt_zero j)⟩
 ·intro x y xs ys _ _ h hs
  refine ⟨by simp [hs.1], fun j hj hj' => ?_⟩
  cases j with
  | zero => exact h
  | succ j => exact hs.2 j (by simpa using hj) (by simpa using hj')
 ·exact ⟨rfl, fun j h => absurd h (Nat.not_lt_zero j)⟩
 ·intro x y xs ys _ _ h hs
  refine ⟨by simp [hs.1], fun j hj hj' => ?_⟩
  cases j with
  | zero => exact h
  | succ j => exact hs.2 j (by simpa using hj) (by simpa using hj')
inductive WkC : List C → List C → Prop
  | nil : WkC [] []
  | same (x : C) (xs ys : List C) (hs : WkC xs ys) : WkC (x :: xs) (x :: ys)
  | d (x y : D) (xs ys : List C) (h : Wk x y) (hs : WkC xs ys) : WkC (.d x :: xs) (.d y :: ys)
theorem WkC.sound {H : Im} {B : Bl} {xs ys : List C} (h : WkC xs ys) : ∀ {vs : List Value}, All2 (CR H B) xs vs → All2 (CR H B) ys vs := by
 induction h with
 | nil => exact fun h => h
 | same x xs ys _ ih =>
  intro vs k
  cases vs with
  | nil => exact k.elim
  | cons v vs => exact ⟨k.1, ih k.2⟩
 | d x y xs ys h _ ih =>
  intro vs k
  cases vs with
  | nil => exact k.elim
  | cons v vs => exact ⟨h.sound H v k.1, ih k.2⟩
inductive WkV : V → V → Prop
  | refl (x : V) : WkV x x
  | c (x y : D) (h : Wk x y) : WkV (.t (.c (.d x))) (.t (.c (.d y)))
  | agg (xs ys : List C) (h : WkC xs ys) : WkV (.t (.agg xs)) (.t (.agg ys))
theorem WkV.sound {H : Im} {B : Bl} {x y : V} (h : WkV x y) {v : Value} (k : VR H B x v) : VR H B y v := by
 cases h with
 | refl => exact k
 | c x y h => exact h.sound H v k
 | agg xs ys h => obtain ⟨vs, e, k⟩ := k; exact ⟨vs, e, h.sound k⟩
inductive WkA : List V → List V → Prop
  | nil : WkA [] []
  | cons (x y : V) (xs ys : List V) (h : WkV x y) (hs : WkA xs ys) : WkA (x :: xs) (y :: ys)
theorem WkA.sound {H : Im} {B : Bl} {xs ys : List V} (h : WkA xs ys) : ∀ {vs : List Value}, All2 (VR H B) xs vs → All2 (VR H B) ys vs := by
 induction h with
 | nil => exact fun h => h
 | cons x y xs ys h _ ih =>
  intro vs k
  cases vs with
  | nil => exact k.elim
  | cons v vs => exact ⟨h.sound k.1, ih k.2⟩
theorem Fn.argw {P : Program} {k : FuncId} {ps qs : List (Nat × L)} {args args' : List V} {res : V} (h : Fn P k ps args' res qs) (hw : WkA args args') : Fn P k ps args res qs :=
 fun w H B vals pre => h w H B vals ⟨pre.sat, pre.loc, pre.priv, pre.inj, hw.sound pre.arg⟩
end Go.Proofs.YtoklkfmffmonoaaGreat.S
end
section
namespace Go.Proofs.YtoklkfmffmonoaaGreat.S
open Go.RowKit

theorem he_6 : Bodied Tryz.prog 28 := Bodied.mk' (by kernel_rfl)
theorem he_8 : Bodied Tryz.prog 27 := Bodied.mk' (by kernel_rfl)
theorem he_10 : Bodied Tryz.prog 12 := Bodied.mk' (by kernel_rfl)
theorem he_11 : SlT Tryz.prog 50 22 1 := SlT.mk' Tryz.underlying50 (by kernel_rfl)
theorem he_14 : Bodied Tryz.prog 9 := Bodied.mk' (by kernel_rfl)
theorem he_16 : Bodied Tryz.prog 11 := Bodied.mk' (by kernel_rfl)
def ofP7 : List Int → Nat → List Part
  | [], _ => []
  | c :: cs, i => (if c ≠ 0 then [⟨(i : Int), ZI.of c⟩] else []) ++ ofP7 cs (i + 1)
def ofR (k : Int) (cs : List Int) : RelD := ⟨⟨ofP7 cs 0, ZI.of k⟩, false⟩
theorem ofP7_app : ∀ (xs ys : List Int) (i : Nat), ofP7 (xs ++ ys) i = ofP7 xs i ++ ofP7 ys (i + xs.length)
 | [], ys, i => by simp [ofP7]
 | x :: xs, ys, i => by
  simp only [List.cons_append, ofP7, ofP7_app xs ys (i + 1), List.append_assoc, List.length_cons]
  rw [show i + 1 + xs.length = i + (xs.length + 1) by omega]
theorem ofP7_take {cs : List Int} {j : Nat} {c : Int} (h : cs[j]? = some c) : ofP7 (cs.take (j + 1)) 0 = ofP7 (cs.take j) 0 ++ (if c ≠ 0 then [⟨(j : Int), ZI.of c⟩] else []) := by
 have hj := (List.getElem?_eq_some_iff.1 h).1
 rw [List.take_add_one, h, ofP7_app, List.length_take, Nat.min_eq_left (by omega), Nat.zero_add]; simp [ofP7]
theorem ofP7_len : ∀ (cs : List Int) (i : Nat), (ofP7 cs i).length ≤ cs.length
 | [], _ => Nat.le_refl _
 | c :: cs, i => by
  have := ofP7_len cs (i + 1)
  simp only [ofP7, List.length_append, List.length_cons]
  split <;> simp <;> omega
theorem ofP7_mem : ∀ (cs : List Int) (i : Nat), ∀ p ∈ ofP7 cs i, ∃ c ∈ cs, p.c = ZI.of c
 | [], _, p, hp => by cases hp
 | c :: cs, i, p, hp => by
  rcases List.mem_append.1 hp with h | h
  ·split at h
   ·exact ⟨c, List.mem_cons_self .., by rw [List.mem_singleton.1 h]⟩
   ·cases h
  ·obtain ⟨d, hd, e⟩ := ofP7_mem cs (i + 1) p h
   exact ⟨d, List.mem_cons_of_mem _ hd, e⟩
theorem small_len {c : Int} (h : -1000 ≤ c ∧ c ≤ 1000) : (ZI.of c).abs.length ≤ 2 := ZI.len_of (by have := pw2; omega)
theorem ofR_ok (k : Int) (cs : List Int) (hk : -1000 ≤ k ∧ k ≤ 1000) (hc : ∀ c ∈ cs, -1000 ≤ c ∧ c ≤ 1000) (hl : cs.length ≤ 20) : TokR 8 (ofR k cs) := ⟨Nat.le_trans (ofP7_len cs 0) hl, fun p hp => by
 obtain ⟨c, h1, h2⟩ := ofP7_mem cs 0 p hp
 rw [h2]; exact ⟨ZI.lb_of _, Nat.le_trans (small_len (hc c h1)) (by decide)⟩, ZI.lb_of _, Nat.le_trans (small_len hk) (by decide)⟩
theorem rs2_ok {x y : RelD} (hx : TokR 8 x) (hy : TokR 8 y) : RsOk [x, y] := ⟨by show 2 ≤ 20; decide, fun r hr => by
 rcases List.mem_cons.1 hr with rfl | hr
 ·exact hx
 ·rw [List.mem_singleton.1 hr]; exact hy⟩
theorem same7 (z : ZI) : (z.neg == z.neg && decide (z.abs = z.abs)) = true := by simp
theorem SSame7 (z : ZI) (h : Lb z.abs) : Fn Tryz.prog 14 [] [vz z, vz z] (vb true) [] := by have := SRSame z z h h; rwa [same7] at this
theorem fewRs_ok {rs : List RelD} {n : Int} {L : Nat} (h : fewRs rs n L = true) (hl : ∀ r ∈ rs, TLb r.t) : (rs.length : Int) ≤ n ∧ ∀ r ∈ rs, TokR L r := by
 unfold fewRs at h
 rw [Bool.and_eq_true, decide_eq_true_eq, List.all_eq_true] at h
 exact ⟨h.1, fun r hr => fewR_ok (h.2 r hr) (hl r hr)⟩
theorem fewRs_rs {rs : List RelD} {n : Int} (hn : n ≤ 20) (h : fewRs rs n 8 = true) (hl : ∀ r ∈ rs, TLb r.t) : RsOk rs := by
 have := fewRs_ok (L := 8) h hl; exact ⟨by omega, this.2⟩
theorem fewVs_ok {vs : List ZI} (h : fewVs vs 20 8 = true) (hl : ∀ z ∈ vs, Lb z.abs) : VOk 8 vs ∧ vs.length ≤ 20 := by
 unfold fewVs at h
 rw [Bool.and_eq_true, decide_eq_true_eq, List.all_eq_true] at h
 exact ⟨⟨by omega, fun z hz => ⟨hl z hz, by have := of_decide_eq_true (h.2 z hz); omega⟩⟩, by omega⟩
abbrev hardE : List RelD := [(ofR 0 [2, (-1)]), (ofR 1 [(-3), 1])]
def pcE : List (List RelD) := (piecesS hardE 0 9).1
def pE : List RelD := (pcE[0]?).getD []
def qE : RelD := RelD.mk ((pE[0]?).getD (RelD.mk (Term.mk [] (ZI.mk false [])) false)).t true
theorem pe1 : piecesS hardE 0 9 = (pcE, 0) := by kernel_rfl
theorem pe2 : piecesS hardE 0 0 = ([], 3) := by kernel_rfl
theorem pe3 : fitS (lowsOf hardE 0) (highsOf hardE 0) [(ZI.mk false []), (ZI.of 2)] = (ZI.of 1, true) := by kernel_rfl
theorem pe4 : fitS (lowsOf [(ofR (-1) [2]), (ofR 1 [(-2)])] 0) (highsOf [(ofR (-1) [2]), (ofR 1 [(-2)])] 0) [] = (ZI.of 0, false) := by kernel_rfl
theorem pe5 : pcE[0]? = some pE := by kernel_rfl
theorem pe6 : pE[0]? = some qE := by kernel_rfl
theorem pe8 : pcE.length = 1 ∧ pE.length = 3 := ⟨by kernel_rfl, by kernel_rfl⟩
theorem hardE_ok : RsOk hardE := rs2_ok (ofR_ok 0 [2, (-1)] (by decide) (by decide) (by decide)) (ofR_ok 1 [(-3), 1] (by decide) (by decide) (by decide))
theorem tightE_ok : RsOk [(ofR (-1) [2]), (ofR 1 [(-2)])] := rs2_ok (ofR_ok (-1) [2] (by decide) (by decide) (by decide)) (ofR_ok 1 [(-2)] (by decide) (by decide) (by decide))
set_option maxHeartbeats 4000000 in
theorem SofR (k : Int) (cs : List Int) (hk : -1000 ≤ k ∧ k ≤ 1000) (hc : ∀ c ∈ cs, -1000 ≤ c ∧ c ≤ 1000) (hl : cs.length ≤ 20) : Fn Tryz.prog 28 [] [vi .i64 k, .t (.c (.d (.sl 1 (cs.map intD))))] (.t (.agg ([.d (.sl 3 ((ofR k cs).t.parts.map Part.d))] ++ zi (ofR k cs).t.k ++ [.d (.raw (.bool (ofR k cs).eq))]))) [] := by
 refine Fn.body Tryz.func28 rfl 34 rfl fun w H B a h => ?_
 refine rSeq fam0ok 5 [] [(0, vi .i64 k), (1, .t (.c (.d (.sl 1 (cs.map intD))))), (4, vp 5 0)] [(5, .box [.d (.raw nilV), .d (.raw (.bool false)), .d (nsl []), .d (.raw (.bool false))])] (by kernel_rfl) h ?_; clear h; intro a w h
 obtain ⟨r1, er1, vr1, or1, lr1⟩ := mkZ (v := k) (m := 2) (small_len ⟨by omega, by omega⟩)
 refine rSeq fam0ok 6 [(1, .call (Fn.cast (SROf k ⟨by omega, by omega⟩) (congrArg vz er1.symm)) tc_0)] [(1, .t (.c (.d (.sl 1 (cs.map intD))))), (4, vp 5 0), (5, vp 6 0)] [(5, .box [.d (.raw nilV), .d (.raw (.bool false)), .d (nsl []), .d (.raw (.bool false))]), (6, .box ([.d (.raw nilV)] ++ zi r1 ++ [.d (.raw (.bool false))]))] (by kernel_rfl) h ?_; clear h; intro a w h
 refine wp_seq ?_
 replace h := nilOLs 6 0 7 3 57 ([.d (.raw nilV)] ++ zi r1 ++ [.d (.raw (.bool false))]) [(1, .t (.c (.d (.sl 1 (cs.map intD))))), (4, vp 5 0), (5, vp 6 0)] [(5, .box [.d (.raw nilV), .d (.raw (.bool false)), .d (nsl []), .d (.raw (.bool false))]), (6, .box ([.own 7 0] ++ zi r1 ++ [.d (.raw (.bool false))])), (7, .row 57 3 ([].map Part.d))] h (by kernel_rfl) rfl rfl (by kernel_rfl) (by kernel_rfl)
 refine rSeq fam0ok 8 [(1, .len (c := (.d (.sl 1 (cs.map intD)))) (n := cs.length) (lenC_map _ _ _))] [(4, vp 5 0), (5, vp 6 0), (12, .t (.c (.d (.sl 1 (cs.map intD))))), (13, vi .i64 (cs.length : Int)), (14, vi .i64 0)] [(5, .box [.d (.raw nilV), .d (.raw (.bool false)), .d (nsl []), .d (.raw (.bool false))]), (6, .box ([.own 7 0] ++ zi r1 ++ [.d (.raw (.bool false))])), (7, .row 57 3 ([].map Part.d))] (by kernel_rfl) h ?_; clear h; intro a w h
 refine wp_block ?_
 replace h := h.conv (f' := F.of [(4, vp 5 0), (5, vp 6 0), (12, .t (.c (.d (.sl 1 (cs.map intD))))), (13, vi .i64 (cs.length : Int)), (14, vi .i64 0)] [(5, .box [.d (.raw nilV), .d (.raw (.bool false)), .d (nsl []), .d (.raw (.bool false))]), (6, .box ([.own 7 0] ++ zi r1 ++ [.d (.raw (.bool false))])), (7, .row 57 3 ((ofP7 (cs.take 0) 0).map Part.d))]) (congrArg (fun (z_ : List Part) => F.of [(4, vp 5 0), (5, vp 6 0), (12, .t (.c (.d (.sl 1 (cs.map intD))))), (13, vi .i64 (cs.length : Int)), (14, vi .i64 0)] [(5, .box [.d (.raw nilV), .d (.raw (.bool false)), .d (nsl []), .d (.raw (.bool false))]), (6, .box ([.own 7 0] ++ zi r1 ++ [.d (.raw (.bool false))])), (7, .row 57 3 (z_.map Part.d))]) (show ([] : List Part) = (ofP7 (cs.take 0) 0) from rfl))
 refine loopS (ι := (Nat)) (fun (z_ : (Nat)) => match z_ with | j => j ≤ cs.length)
   (fun (z_ : (Nat)) => match z_ with | j => [(4, vp 5 0), (5, vp 6 0), (12, .t (.c (.d (.sl 1 (cs.map intD))))), (13, vi .i64 (cs.length : Int)), (14, vi .i64 (j : Int))])
   (fun (z_ : (Nat)) => match z_ with | j => [(5, .box [.d (.raw nilV), .d (.raw (.bool false)), .d (nsl []), .d (.raw (.bool false))]), (6, .box ([.own 7 (ofP7 (cs.take j) 0).length] ++ zi r1 ++ [.d (.raw (.bool false))])), (7, .row 57 3 ((ofP7 (cs.take j) 0).map Part.d))])
   (fun (z_ : (Nat)) => match z_ with | j => cs.length - j) 0 ?_ h (by kernel_rfl) (by kernel_rfl) ?_
 ·exact Nat.zero_le _
 ·clear h; rintro j a w hI h
  change St _ (F.of [(4, vp 5 0), (5, vp 6 0), (12, .t (.c (.d (.sl 1 (cs.map intD))))), (13, vi .i64 (cs.length : Int)), (14, vi .i64 (j : Int))] [(5, .box [.d (.raw nilV), .d (.raw (.bool false)), .d (nsl []), .d (.raw (.bool false))]), (6, .box ([.own 7 (ofP7 (cs.take j) 0).length] ++ zi r1 ++ [.d (.raw (.bool false))])), (7, .row 57 3 ((ofP7 (cs.take j) 0).map Part.d))]) a w at h
  have ol := ofP7_len (cs.take j) 0
  rw [List.length_take] at ol
  refine rSeq fam0ok 8 [] [(4, vp 5 0), (5, vp 6 0), (12, .t (.c (.d (.sl 1 (cs.map intD))))), (13, vi .i64 (cs.length : Int)), (14, vi .i64 (j : Int)), (15, vb (decide ((j : Int) < (cs.length : Int))))] [(5, .box [.d (.raw nilV), .d (.raw (.bool false)), .d (nsl []), .d (.raw (.bool false))]), (6, .box ([.own 7 (ofP7 (cs.take j) 0).length] ++ zi r1 ++ [.d (.raw (.bool false))])), (7, .row 57 3 ((ofP7 (cs.take j) 0).map Part.d))] (by kernel_rfl) h ?_; clear h; intro a w h
  refine wp_seq ?_
  refine condS (decide ((j : Int) < (cs.length : Int))) h rfl (fun hc => ?_) (fun hc => ?_)
  ·have hc1 := hc; clear hc
   have hc1' := of_decide_eq_true hc1
   refine wp_skip ?_
   refine then_n ?_
   refine wp_seq ?_
   refine wp_block ?_
   obtain ⟨x2, hx2⟩ : ∃ z_ : Int, cs[j]? = some z_ := ⟨_, List.getElem?_eq_getElem (by first | omega | (simp at *; omega))⟩
   have bx2 := hc x2 (List.mem_of_getElem? hx2)
   refine rSeq fam0ok 8 [(1, .gen _ _ _ fun _ _ _ _ => Op.idxD (d := 17) (t := 12) (k := .i64) tn_1 (map_at hx2 (f := intD)) (OV.tmp 14 _))] [(4, vp 5 0), (5, vp 6 0), (6, vi .i64 (j : Int)), (7, vi .i64 x2), (12, .t (.c (.d (.sl 1 (cs.map intD))))), (13, vi .i64 (cs.length : Int)), (14, vi .i64 (j : Int))] [(5, .box [.d (.raw nilV), .d (.raw (.bool false)), .d (nsl []), .d (.raw (.bool false))]), (6, .box ([.own 7 (ofP7 (cs.take j) 0).length] ++ zi r1 ++ [.d (.raw (.bool false))])), (7, .row 57 3 ((ofP7 (cs.take j) 0).map Part.d))] (by kernel_rfl) h ?_; clear h; intro a w h
   refine rSeq fam0ok 8 [] [(4, vp 5 0), (5, vp 6 0), (6, vi .i64 (j : Int)), (7, vi .i64 x2), (12, .t (.c (.d (.sl 1 (cs.map intD))))), (13, vi .i64 (cs.length : Int)), (14, vi .i64 (j : Int)), (20, vb (x2 != 0))] [(5, .box [.d (.raw nilV), .d (.raw (.bool false)), .d (nsl []), .d (.raw (.bool false))]), (6, .box ([.own 7 (ofP7 (cs.take j) 0).length] ++ zi r1 ++ [.d (.raw (.bool false))])), (7, .row 57 3 ((ofP7 (cs.take j) 0).map Part.d))] (by kernel_rfl) h ?_; clear h; intro a w h
   refine condS (x2 != 0) h rfl (fun hc => ?_) (fun hc => ?_)
   ·have hc2 := hc; clear hc
    have hc2' := hc2; (try simp at hc2')
    obtain ⟨r3, er3, vr3, or3, lr3⟩ := mkZ (v := x2) (m := 2) (small_len ⟨by omega, by omega⟩)
    refine rS fam0ok 8 [(5, .call (Fn.cast (SROf x2 ⟨by omega, by omega⟩) (congrArg vz er3.symm)) tc_0), (7, .gen _ _ _ fun _ _ _ _ => Op.buildD (d := 28) (len := 1) (rows := [(Part.mk (j : Int) r3)].map Part.d) (rs := [(27, .t (.agg ([.d (.raw (.int .i64 (j : Int)))] ++ zi r3)))]) tb_9 (.cons (i := 0) (OV.tmp 27 _) (.nil)) (by kernel_rfl) rfl (by simp [Part.d]) (by decide) (by decide)), (8, .gen _ _ _ fun _ _ _ _ => Op.appOD (d := 29) (t := 23) (u := 28) (n := 7) (n' := 8) (len := (ofP7 (cs.take j) 0).length) (len' := ((ofP7 (cs.take j) 0) ++ [(Part.mk (j : Int) r3)]).length) (rows := (ofP7 (cs.take j) 0).map Part.d) (rows2 := [(Part.mk (j : Int) r3)].map Part.d) (rows' := ((ofP7 (cs.take j) 0) ++ [(Part.mk (j : Int) r3)]).map Part.d) tb_10 (by first | exact (List.length_map _).symm | simp) (by first | (rw [List.length_append, List.length_map]; done) | simp) (by simp) (by simp [Part.d]) (by first | omega | (simp at *; done) | (simp at *; omega)))] [(4, vp 5 0), (5, vp 6 0), (12, .t (.c (.d (.sl 1 (cs.map intD))))), (13, vi .i64 (cs.length : Int)), (14, vi .i64 (j : Int))] [(5, .box [.d (.raw nilV), .d (.raw (.bool false)), .d (nsl []), .d (.raw (.bool false))]), (6, .box ([.own 8 ((ofP7 (cs.take j) 0) ++ [(Part.mk (j : Int) r3)]).length] ++ zi r1 ++ [.d (.raw (.bool false))])), (8, .row 57 3 (((ofP7 (cs.take j) 0) ++ [(Part.mk (j : Int) r3)]).map Part.d))] (by kernel_rfl) h ?_; clear h; intro a w h
    refine block_n ?_
    refine then_n ?_
    refine rS fam0ok 9 [(0, .add .i64 (m := (j : Int)) (n := 1) (i64_id (by omega) (by omega)))] [(4, vp 5 0), (5, vp 6 0), (12, .t (.c (.d (.sl 1 (cs.map intD))))), (13, vi .i64 (cs.length : Int)), (14, vi .i64 ((j : Int) + 1))] [(5, .box [.d (.raw nilV), .d (.raw (.bool false)), .d (nsl []), .d (.raw (.bool false))]), (6, .box ([.own 8 ((ofP7 (cs.take j) 0) ++ [(Part.mk (j : Int) r3)]).length] ++ zi r1 ++ [.d (.raw (.bool false))])), (8, .row 57 3 (((ofP7 (cs.take j) 0) ++ [(Part.mk (j : Int) r3)]).map Part.d))] (by kernel_rfl) h ?_; clear h; intro a w h
    refine then_n ?_
    replace h := h.conv (f' := F.of [(4, vp 5 0), (5, vp 6 0), (12, .t (.c (.d (.sl 1 (cs.map intD))))), (13, vi .i64 (cs.length : Int)), (14, vi .i64 ((j : Int) + 1))] [(5, .box [.d (.raw nilV), .d (.raw (.bool false)), .d (nsl []), .d (.raw (.bool false))]), (6, .box ([.own 8 (ofP7 (cs.take (j + 1)) 0).length] ++ zi r1 ++ [.d (.raw (.bool false))])), (8, .row 57 3 ((ofP7 (cs.take (j + 1)) 0).map Part.d))]) (congrArg (fun (z_ : List Part) => F.of [(4, vp 5 0), (5, vp 6 0), (12, .t (.c (.d (.sl 1 (cs.map intD))))), (13, vi .i64 (cs.length : Int)), (14, vi .i64 ((j : Int) + 1))] [(5, .box [.d (.raw nilV), .d (.raw (.bool false)), .d (nsl []), .d (.raw (.bool false))]), (6, .box ([.own 8 z_.length] ++ zi r1 ++ [.d (.raw (.bool false))])), (8, .row 57 3 (z_.map Part.d))]) (show (((ofP7 (cs.take j) 0) ++ [(Part.mk (j : Int) r3)]) : List Part) = (ofP7 (cs.take (j + 1)) 0) from (by rw [ofP7_take hx2, if_pos (by simpa using hc2), er3])))
    replace h := renS 8 7 [(4, vp 5 0), (5, vp 6 0), (12, .t (.c (.d (.sl 1 (cs.map intD))))), (13, vi .i64 (cs.length : Int)), (14, vi .i64 ((j : Int) + 1))] [(5, .box [.d (.raw nilV), .d (.raw (.bool false)), .d (nsl []), .d (.raw (.bool false))]), (6, .box ([.own 7 (ofP7 (cs.take (j + 1)) 0).length] ++ zi r1 ++ [.d (.raw (.bool false))])), (7, .row 57 3 ((ofP7 (cs.take (j + 1)) 0).map Part.d))] h (by kernel_rfl) (by kernel_rfl) (by kernel_rfl)
    refine roundS (x := j) (y := j + 1) h ?_ ?_ (by kernel_rfl) (by kernel_rfl)
    ·have := at_lt hx2
     show j + 1 ≤ cs.length
     omega
    ·show cs.length - (j + 1) < cs.length - j
     have := at_lt hx2; omega
   ·have hc3 := hc; clear hc
    have hc3' := hc3; (try simp at hc3')
    refine wp_skip ?_
    refine block_n ?_
    refine then_n ?_
    refine rS fam0ok 9 [(0, .add .i64 (m := (j : Int)) (n := 1) (i64_id (by omega) (by omega)))] [(4, vp 5 0), (5, vp 6 0), (12, .t (.c (.d (.sl 1 (cs.map intD))))), (13, vi .i64 (cs.length : Int)), (14, vi .i64 ((j : Int) + 1))] [(5, .box [.d (.raw nilV), .d (.raw (.bool false)), .d (nsl []), .d (.raw (.bool false))]), (6, .box ([.own 7 (ofP7 (cs.take j) 0).length] ++ zi r1 ++ [.d (.raw (.bool false))])), (7, .row 57 3 ((ofP7 (cs.take j) 0).map Part.d))] (by kernel_rfl) h ?_; clear h; intro a w h
    refine then_n ?_
    replace h := h.conv (f' := F.of [(4, vp 5 0), (5, vp 6 0), (12, .t (.c (.d (.sl 1 (cs.map intD))))), (13, vi .i64 (cs.length : Int)), (14, vi .i64 ((j : Int) + 1))] [(5, .box [.d (.raw nilV), .d (.raw (.bool false)), .d (nsl []), .d (.raw (.bool false))]), (6, .box ([.own 7 (ofP7 (cs.take (j + 1)) 0).length] ++ zi r1 ++ [.d (.raw (.bool false))])), (7, .row 57 3 ((ofP7 (cs.take (j + 1)) 0).map Part.d))]) (congrArg (fun (z_ : List Part) => F.of [(4, vp 5 0), (5, vp 6 0), (12, .t (.c (.d (.sl 1 (cs.map intD))))), (13, vi .i64 (cs.length : Int)), (14, vi .i64 ((j : Int) + 1))] [(5, .box [.d (.raw nilV), .d (.raw (.bool false)), .d (nsl []), .d (.raw (.bool false))]), (6, .box ([.own 7 z_.length] ++ zi r1 ++ [.d (.raw (.bool false))])), (7, .row 57 3 (z_.map Part.d))]) (show ((ofP7 (cs.take j) 0) : List Part) = (ofP7 (cs.take (j + 1)) 0) from (by rw [ofP7_take hx2, if_neg (by simpa using hc3), List.append_nil])))
    refine roundS (x := j) (y := j + 1) h ?_ ?_ (by kernel_rfl) (by kernel_rfl)
    ·have := at_lt hx2
     show j + 1 ≤ cs.length
     omega
    ·show cs.length - (j + 1) < cs.length - j
     have := at_lt hx2; omega
  ·have hc4 := hc; clear hc
   have hc4' := of_decide_eq_false hc4
   refine wp_exit ?_
   refine then_x ?_
   refine then_x ?_
   refine inBlock_exit ?_
   refine then_n ?_
   refine rSeq fam0ok 9 [] [(4, vp 5 0)] [(5, .box ([.own 7 (ofP7 (cs.take j) 0).length] ++ zi r1 ++ [.d (.raw (.bool false))])), (7, .row 57 3 ((ofP7 (cs.take j) 0).map Part.d))] (by kernel_rfl) h ?_; clear h; intro a w h
   refine wp_ret ?_
   replace h := h.conv (f' := F.of [(4, vp 5 0)] [(5, .box ([.own 7 (ofP7 cs 0).length] ++ zi r1 ++ [.d (.raw (.bool false))])), (7, .row 57 3 ((ofP7 cs 0).map Part.d))]) (congrArg (fun (z_ : List Part) => F.of [(4, vp 5 0)] [(5, .box ([.own 7 z_.length] ++ zi r1 ++ [.d (.raw (.bool false))])), (7, .row 57 3 (z_.map Part.d))]) (show ((ofP7 (cs.take j) 0) : List Part) = (ofP7 cs 0) from (by rw [List.take_of_length_le (by omega)])))
   replace h := pubS 7 3 57 ((ofP7 cs 0).map Part.d) [(4, vp 5 0)] [(5, .box ([.d (.sl 3 ((ofP7 cs 0).map Part.d))] ++ zi r1 ++ [.d (.raw (.bool false))]))] h rfl trivial (show AllEq _ [(ofP7 cs 0).length] from ⟨by first | exact (List.length_map _).symm | (simp; done) | (simp; omega), trivial⟩) (by kernel_rfl) (by kernel_rfl)
   refine retS [.agg ([.d (.sl 3 ((ofP7 cs 0).map Part.d))] ++ zi r1 ++ [.d (.raw (.bool false))])] h Exit.ret (.inl rfl)  rfl ⟨RV.agg _ 5 0 _ _ _ _ ha_1 rfl rfl rfl rfl, trivial⟩ ?_ (by kernel_rfl) (by kernel_rfl)
   first | rfl | (rw [er1]; first | done | rfl)
set_option maxHeartbeats 4000000 in
theorem SPiecing  : Fn Tryz.prog 9 [] [] (vb true) [] := by
 refine Fn.body Tryz.func9 rfl 80 rfl fun w H B a h => ?_
 refine rSeq fam0ok 0 [] [(0, vb false)] [] (by kernel_rfl) h ?_; clear h; intro a w h
 refine rSeq fam0ok 0 [(0, .gen _ _ _ fun _ _ _ _ => Op.buildD (d := 10) (len := 2) (rows := [2, (-1)].map intD) (rs := []) to_1 (.cons (i := 0) (OV.const (.int .i64 2) rfl) (.cons (i := 1) (OV.const (.int .i64 (-1)) rfl) (.nil))) (by kernel_rfl) rfl (by simp [intD]) (by decide) (by decide)), (1, .call (SofR 0 [2, (-1)] (by decide) (by decide) (by decide)) he_6), (2, .gen _ _ _ fun _ _ _ _ => Op.buildD (d := 12) (len := 2) (rows := [(-3), 1].map intD) (rs := []) to_1 (.cons (i := 0) (OV.const (.int .i64 (-3)) rfl) (.cons (i := 1) (OV.const (.int .i64 1) rfl) (.nil))) (by kernel_rfl) rfl (by simp [intD]) (by decide) (by decide)), (3, .call (SofR 1 [(-3), 1] (by decide) (by decide) (by decide)) he_6), (4, .gen _ _ _ fun _ _ _ _ => Op.buildD (d := 14) (len := 2) (rows := [(ofR 0 [2, (-1)]), (ofR 1 [(-3), 1])].map RelD.d) (rs := [(11, .t (.agg ([.d (.sl 3 ((ofR 0 [2, (-1)]).t.parts.map Part.d))] ++ zi (ofR 0 [2, (-1)]).t.k ++ [.d (.raw (.bool (ofR 0 [2, (-1)]).eq))]))), (13, .t (.agg ([.d (.sl 3 ((ofR 1 [(-3), 1]).t.parts.map Part.d))] ++ zi (ofR 1 [(-3), 1]).t.k ++ [.d (.raw (.bool (ofR 1 [(-3), 1]).eq))])))]) kc_5 (.cons (i := 0) (OV.tmp 11 _) (.cons (i := 1) (OV.tmp 13 _) (.nil))) (by kernel_rfl) rfl (by simp [RelD.d]) (by decide) (by decide))] [(0, vb false), (1, .t (.c (.d (.sl 4 ([(ofR 0 [2, (-1)]), (ofR 1 [(-3), 1])].map RelD.d)))))] [] (by kernel_rfl) h ?_; clear h; intro a w h
 refine rSeq fam0ok 0 [(1, .call (Fn.cast (SPieces hardE 0 9 hardE_ok (by decide)) (show (.tup [.c (.d (.sl 1 ((piecesS hardE 0 9).1.map (slD 4 RelD.d)))), .c (.d (.raw (.int .i64 (piecesS hardE 0 9).2)))] : V) = .tup [.c (.d (.sl 1 (pcE.map (slD 4 RelD.d)))), .c (.d (.raw (.int .i64 0)))] from by rw [pe1])) he_8)] [(0, vb false), (1, .t (.c (.d (.sl 4 ([(ofR 0 [2, (-1)]), (ofR 1 [(-3), 1])].map RelD.d))))), (2, .t (.c (.d (.sl 1 (pcE.map (slD 4 RelD.d)))))), (3, vi .i64 0)] [] (by kernel_rfl) h ?_; clear h; intro a w h
 refine rSeq fam0ok 0 [(1, .call (Fn.cast (SPieces hardE 0 0 hardE_ok (by decide)) (show (.tup [.c (.d (.sl 1 ((piecesS hardE 0 0).1.map (slD 4 RelD.d)))), .c (.d (.raw (.int .i64 (piecesS hardE 0 0).2)))] : V) = .tup [.c (.d (.sl 1 ([].map (slD 4 RelD.d)))), .c (.d (.raw (.int .i64 3)))] from by rw [pe2])) he_8)] [(0, vb false), (1, .t (.c (.d (.sl 4 ([(ofR 0 [2, (-1)]), (ofR 1 [(-3), 1])].map RelD.d))))), (2, .t (.c (.d (.sl 1 (pcE.map (slD 4 RelD.d)))))), (3, vi .i64 0), (5, vi .i64 3)] [] (by kernel_rfl) h ?_; clear h; intro a w h
 refine rSeq fam0ok 0 [(2, .call (SROf 2 ⟨by decide, by decide⟩) tc_0), (3, .gen _ _ _ fun _ _ _ _ => Op.buildD (d := 29) (len := 2) (rows := [(ZI.mk false []), (ZI.of 2)].map ziD) (rs := [(27, .t (.agg [.d (.raw (.bool false)), .d (nsl [])])), (28, vz (ZI.of 2))]) ty_5 (.cons (i := 0) (OV.tmp 27 _) (.cons (i := 1) (OV.tmp 28 _) (.nil))) (by kernel_rfl) rfl (by simp [ziD]) (by decide) (by decide)), (4, .call (Fn.cast (SFit hardE 0 [(ZI.mk false []), (ZI.of 2)] hardE_ok ⟨by decide, fun z hz => by rcases List.mem_cons.1 hz with rfl | hz; exact ⟨Lb_nil, by decide⟩; rw [List.mem_singleton.1 hz]; exact ⟨ZI.lb_of 2, by decide⟩⟩) (show (.tup [.agg (zi (fitS (lowsOf hardE 0) (highsOf hardE 0) [(ZI.mk false []), (ZI.of 2)]).1), .c (.d (.raw (.bool (fitS (lowsOf hardE 0) (highsOf hardE 0) [(ZI.mk false []), (ZI.of 2)]).2)))] : V) = .tup [.agg (zi (ZI.of 1)), .c (.d (.raw (.bool true)))] from by rw [pe3])) he_10)] [(0, vb false), (2, .t (.c (.d (.sl 1 (pcE.map (slD 4 RelD.d)))))), (3, vi .i64 0), (5, vi .i64 3), (6, vp 0 0), (7, vb true)] [(0, .box (zi (ZI.of 1)))] (by kernel_rfl) h ?_; clear h; intro a w h
 refine rSeq fam0ok 1 [(0, .gen _ _ _ fun _ _ _ _ => Op.buildD (d := 34) (len := 1) (rows := [2].map intD) (rs := []) to_1 (.cons (i := 0) (OV.const (.int .i64 2) rfl) (.nil)) (by kernel_rfl) rfl (by simp [intD]) (by decide) (by decide)), (1, .call (SofR (-1) [2] (by decide) (by decide) (by decide)) he_6), (2, .gen _ _ _ fun _ _ _ _ => Op.buildD (d := 36) (len := 1) (rows := [(-2)].map intD) (rs := []) to_1 (.cons (i := 0) (OV.const (.int .i64 (-2)) rfl) (.nil)) (by kernel_rfl) rfl (by simp [intD]) (by decide) (by decide)), (3, .call (SofR 1 [(-2)] (by decide) (by decide) (by decide)) he_6), (4, .gen _ _ _ fun _ _ _ _ => Op.buildD (d := 38) (len := 2) (rows := [(ofR (-1) [2]), (ofR 1 [(-2)])].map RelD.d) (rs := [(35, .t (.agg ([.d (.sl 3 ((ofR (-1) [2]).t.parts.map Part.d))] ++ zi (ofR (-1) [2]).t.k ++ [.d (.raw (.bool (ofR (-1) [2]).eq))]))), (37, .t (.agg ([.d (.sl 3 ((ofR 1 [(-2)]).t.parts.map Part.d))] ++ zi (ofR 1 [(-2)]).t.k ++ [.d (.raw (.bool (ofR 1 [(-2)]).eq))])))]) kc_5 (.cons (i := 0) (OV.tmp 35 _) (.cons (i := 1) (OV.tmp 37 _) (.nil))) (by kernel_rfl) rfl (by simp [RelD.d]) (by decide) (by decide)), (5, .call (Fn.argw (Fn.cast (SFit [(ofR (-1) [2]), (ofR 1 [(-2)])] 0 [] tightE_ok ⟨by decide, fun z hz => by cases hz⟩) (show (.tup [.agg (zi (fitS (lowsOf [(ofR (-1) [2]), (ofR 1 [(-2)])] 0) (highsOf [(ofR (-1) [2]), (ofR 1 [(-2)])] 0) []).1), .c (.d (.raw (.bool (fitS (lowsOf [(ofR (-1) [2]), (ofR 1 [(-2)])] 0) (highsOf [(ofR (-1) [2]), (ofR 1 [(-2)])] 0) []).2)))] : V) = .tup [.agg (zi (ZI.of 0)), .c (.d (.raw (.bool false)))] from by rw [pe4])) (.cons _ _ _ _ (.refl _) (.cons _ _ _ _ (.refl _) (.cons _ _ _ _ (.c _ _ (.nil _)) .nil)))) he_10)] [(0, vb false), (2, .t (.c (.d (.sl 1 (pcE.map (slD 4 RelD.d)))))), (3, vi .i64 0), (5, vi .i64 3), (6, vp 0 0), (7, vb true), (9, vb false)] [(0, .box (zi (ZI.of 1)))] (by kernel_rfl) h ?_; clear h; intro a w h
 refine rSeq fam0ok 2 [(1, .cmp (op := .eql) (m := 0) (n := 0) (b := true) .i64 rfl), (4, .len (c := (.d (.sl 1 (pcE.map (slD 4 RelD.d))))) (n := pcE.length) (lenC_map _ _ _)), (5, .cmp (op := .eql) (m := (pcE.length : Int)) (n := 1) (b := true) .i64 (show ((pcE.length : Int) == 1) = true from by rw [beq_iff_eq]; have := pe8; omega)), (9, .gen _ _ _ fun _ _ _ _ => Op.idxD (d := 51) (t := 50) (k := .i64) he_11 (map_at pe5 (f := (slD 4 RelD.d))) (OV.const (.int .i64 0) rfl)), (11, .len (c := (.d (.sl 4 (pE.map RelD.d)))) (n := pE.length) (lenC_map _ _ _)), (12, .cmp (op := .eql) (m := (pE.length : Int)) (n := 3) (b := true) .i64 (show ((pE.length : Int) == 3) = true from by rw [beq_iff_eq]; have := pe8; omega)), (16, .gen _ _ _ fun _ _ _ _ => Op.idxD (d := 58) (t := 57) (k := .i64) he_11 (map_at pe5 (f := (slD 4 RelD.d))) (OV.const (.int .i64 0) rfl)), (18, .gen _ _ _ fun _ _ _ _ => Op.idxD (d := 60) (t := 59) (k := .i64) kc_3 (map_at pe6 (f := RelD.d)) (OV.const (.int .i64 0) rfl)), (24, .cmp (op := .eql) (m := 3) (n := 3) (b := true) .i64 rfl), (31, .call (SROf 1 ⟨by decide, by decide⟩) tc_0), (32, .call (SSame7 (ZI.of 1) (ZI.lb_of _)) td_0)] [(0, vb true)] [] (by kernel_rfl) h ?_; clear h; intro a w h
 refine wp_ret ?_
 refine retS [.c (.d (.raw (.bool true)))] h Exit.ret (.inl rfl)  rfl ⟨RV.tmp _ _ rfl, trivial⟩ ?_ (by kernel_rfl) (by kernel_rfl)
 first | rfl | (rw [pe7]; rfl)
theorem fit_lb {L H : List SideD} {vs : List ZI} : Lb (fitS L H vs).1.abs := by
 unfold fitS
 split
 ·split <;> exact ZI.lb_of _
 ·exact ZI.lb_of _
end Go.Proofs.YtoklkfmffmonoaaGreat.S
end
section
namespace Go.Proofs.YtoklkfmffmonoaaGreat.S
open Go.RowKit

end Go.Proofs.YtoklkfmffmonoaaGreat.S
end
section
namespace Go.Proofs.YtoklkfmffmonoaaGreat.S
open Go.RowKit

end Go.Proofs.YtoklkfmffmonoaaGreat.S
end
section
namespace Go.Proofs.YtoklkfmffmonoaaGreat.S
open Go.RowKit

end Go.Proofs.YtoklkfmffmonoaaGreat.S
end
section
namespace Go.Proofs.YtoklkfmffmonoaaGreat.S
open Go.RowKit

section
variable {w : World} {n : Nat}
theorem rep_ZIl : RepN w n 23 (slD 2 ziD) (fun xs => xs.length ≤ maxLen ∧ ∀ x ∈ xs, Lb x.abs) :=
 rep_slice (k := 2) Tryz.underlying23 (by kernel_rfl) (by decide) (fun _ => rfl) rep_ZI
theorem rep_Rel : RepN w n 45 RelD.d (fun r => TLb r.t) :=
 ((rep_struct (n := n) Tryz.underlying45 (by kernel_rfl) (.cons (k0 := 3) rfl (by kernel_rfl) rep_Term (.cons (k0 := 1) rfl (by kernel_rfl) (rep_bool Tryz.underlying4) .nil))).map (fun p => ⟨p.1, p.2.1⟩) (fun _ => rfl) fun _ h => h.1).mono (Nat.le_succ n)
end
end Go.Proofs.YtoklkfmffmonoaaGreat.S
end
section
namespace Go.Proofs.YtoklkfmffmonoaaGreat.S
open Go.RowKit

section
variable {w : World} {n : Nat}
theorem rep_Rels : RepN w n 22 (slD 4 RelD.d) (fun xs => xs.length ≤ maxLen ∧ ∀ x ∈ xs, TLb x.t) :=
 rep_slice (k := 4) Tryz.underlying22 (by kernel_rfl) (by decide) (fun _ => rfl) rep_Rel
end
end Go.Proofs.YtoklkfmffmonoaaGreat.S
end
section
namespace Go.Proofs.YtoklkfmffmonoaaGreat.S
open Go.RowKit

theorem hg_5 : Bodied Tryz.prog 43 := Bodied.mk' (by kernel_rfl)
def RkOk (r : RelD) : Prop := TOk 200 200 r.t
theorem RkOk.of {L n : Nat} {r : RelD} (h : TOk n L r.t) (hn : n ≤ 200) (hL : L ≤ 200) : RkOk r := h.mono hn hL
def allR (rs : List RelD) (vs : List ZI) : Bool := rs.all (relOk vs)
def plainL (rs : List RelD) (v : Int) : Bool := rs.all (fun r => !r.eq) && decide (v ≥ 0 ∧ v ≤ 1000)
def ext0 (vs : List ZI) (n : Nat) : List ZI := vs ++ List.replicate (n - vs.length) (ZI.of 0)
def withV (vs : List ZI) (v : Nat) (x : ZI) : List ZI := (ext0 vs (v + 1)).set v x
set_option maxHeartbeats 4000000 in
theorem SRHoldsA (r : RelD) (vs : List ZI) {M : Nat} (hM : M ≤ 300) (hv : VOk M vs) (hr : RkOk r) : Fn Tryz.prog 63 [] [.t (.agg ([.d (.sl 3 (r.t.parts.map Part.d))] ++ zi r.t.k ++ [.d (.raw (.bool r.eq))])), .t (.c (.d (.sl 2 (vs.map ziD))))] (vb (relOk vs r)) [] := by
 refine Fn.body Tryz.func63 rfl 17 rfl fun w H B a h => ?_
 refine rSeq fam0ok 0 [] [(1, .t (.c (.d (.sl 2 (vs.map ziD))))), (2, vp 0 0), (4, vb false)] [(0, .box ([.d (.sl 3 (r.t.parts.map Part.d))] ++ zi r.t.k ++ [.d (.raw (.bool r.eq))]))] (by kernel_rfl) h ?_; clear h; intro a w h
 obtain ⟨r1, er1, vr1, or1, lr1⟩ := mkZ (v := valT r.t vs) (m := 600) (Nat.le_trans (valT_len hr (by decide) hv) (by omega))
 refine rSeq fam0ok 1 [(3, .call (Fn.cast (SRValue r.t vs hr (by decide) (by omega) hv) (congrArg vz er1.symm)) ke_2), (4, .call (SRSign r1 or1 (by omega)) ib_0)] [(2, vp 0 0), (4, vb false), (5, vi .i64 (sgn r1.val))] [(0, .box ([.d (.sl 3 (r.t.parts.map Part.d))] ++ zi r.t.k ++ [.d (.raw (.bool r.eq))]))] (by kernel_rfl) h ?_; clear h; intro a w h
 refine wp_seq ?_
 refine rSeq fam0ok 1 [] [(4, vb false), (5, vi .i64 (sgn r1.val)), (12, vb r.eq)] [] (by kernel_rfl) h ?_; clear h; intro a w h
 refine condS r.eq h rfl (fun hc => ?_) (fun hc => ?_)
 ·have hc1 := hc; clear hc
  refine rSeq fam0ok 1 [] [(4, vb (sgn r1.val == 0)), (5, vi .i64 (sgn r1.val))] [] (by kernel_rfl) h ?_; clear h; intro a w h
  refine wp_ret ?_
  refine then_r ?_
  refine retS [.c (.d (.raw (.bool (sgn r1.val == 0))))] h Exit.ret (.inl rfl)  rfl ⟨RV.tmp _ _ rfl, trivial⟩ ?_ (by kernel_rfl) (by kernel_rfl)
  have hz : relOk vs r = (sgn r1.val == 0) := by
   unfold relOk; rw [← vr1]
   cases he : r.eq <;> simp_all <;> omega
  rw [hz]; first | done | rfl
 ·have hc2 := hc; clear hc
  refine wp_skip ?_
  refine then_n ?_
  refine rSeq fam0ok 1 [] [(4, vb (decide (sgn r1.val ≥ 0)))] [] (by kernel_rfl) h ?_; clear h; intro a w h
  refine wp_ret ?_
  refine retS [.c (.d (.raw (.bool (decide (sgn r1.val ≥ 0)))))] h Exit.ret (.inl rfl)  rfl ⟨RV.tmp _ _ rfl, trivial⟩ ?_ (by kernel_rfl) (by kernel_rfl)
  have hz : relOk vs r = (decide (sgn r1.val ≥ 0)) := by
   unfold relOk; rw [← vr1]
   cases he : r.eq <;> simp_all <;> omega
  rw [hz]; first | done | rfl
set_option maxHeartbeats 4000000 in
theorem SRAll (rs : List RelD) (vs : List ZI) {M : Nat} (hM : M ≤ 300) (hv : VOk M vs) (hrk : ∀ r ∈ rs, RkOk r) (hl : rs.length ≤ 9223372036854775807) : Fn Tryz.prog 25 [] [.t (.c (.d (.sl 4 (rs.map RelD.d)))), .t (.c (.d (.sl 2 (vs.map ziD))))] (vb (allR rs vs)) [] := by
 refine Fn.body Tryz.func25 rfl 19 rfl fun w H B a h => ?_
 refine rSeq fam0ok 0 [] [(0, .t (.c (.d (.sl 4 (rs.map RelD.d))))), (1, .t (.c (.d (.sl 2 (vs.map ziD))))), (4, vb false)] [] (by kernel_rfl) h ?_; clear h; intro a w h
 refine wp_seq ?_
 refine rSeq fam0ok 0 [] [(0, .t (.c (.d (.sl 4 (rs.map RelD.d))))), (1, .t (.c (.d (.sl 2 (vs.map ziD))))), (4, vb false), (5, vi .i64 0)] [] (by kernel_rfl) h ?_; clear h; intro a w h
 refine wp_block ?_
 refine loopS (ι := (Nat)) (fun (z_ : (Nat)) => match z_ with | j => j ≤ rs.length ∧ (rs.take j).all (relOk vs) = true)
   (fun (z_ : (Nat)) => match z_ with | j => [(0, .t (.c (.d (.sl 4 (rs.map RelD.d))))), (1, .t (.c (.d (.sl 2 (vs.map ziD))))), (5, vi .i64 (j : Int))])
   (fun (z_ : (Nat)) => match z_ with | j => [])
   (fun (z_ : (Nat)) => match z_ with | j => rs.length - j) 0 ?_ h (by kernel_rfl) (by kernel_rfl) ?_
 ·exact ⟨Nat.zero_le _, rfl⟩
 ·clear h; rintro j a w hI h
  change St _ (F.of [(0, .t (.c (.d (.sl 4 (rs.map RelD.d))))), (1, .t (.c (.d (.sl 2 (vs.map ziD))))), (5, vi .i64 (j : Int))] []) a w at h
  obtain ⟨hI1, hI2⟩ := hI
  refine wp_seq ?_
  refine rSeq fam0ok 0 [(2, .len (c := (.d (.sl 4 (rs.map RelD.d)))) (n := rs.length) (lenC_map _ _ _))] [(0, .t (.c (.d (.sl 4 (rs.map RelD.d))))), (1, .t (.c (.d (.sl 2 (vs.map ziD))))), (5, vi .i64 (j : Int)), (9, vb (decide ((j : Int) < (rs.length : Int))))] [] (by kernel_rfl) h ?_; clear h; intro a w h
  refine condS (decide ((j : Int) < (rs.length : Int))) h rfl (fun hc => ?_) (fun hc => ?_)
  ·have hc1 := hc; clear hc
   have hc1' := of_decide_eq_true hc1
   refine wp_skip ?_
   refine then_n ?_
   refine wp_seq ?_
   refine wp_block ?_
   obtain ⟨x1, hx1⟩ : ∃ z_ : RelD, rs[j]? = some z_ := ⟨_, List.getElem?_eq_getElem (by first | omega | (simp at *; omega))⟩
   refine rSeq fam0ok 0 [(2, .gen _ _ _ fun _ _ _ _ => Op.idxD (d := 14) (t := 12) (k := .i64) kc_3 (map_at hx1 (f := RelD.d)) (OV.tmp 13 _)), (5, .call (SRHoldsA x1 vs hM hv (hrk x1 (List.mem_of_getElem? hx1))) ke_9)] [(0, .t (.c (.d (.sl 4 (rs.map RelD.d))))), (1, .t (.c (.d (.sl 2 (vs.map ziD))))), (5, vi .i64 (j : Int)), (18, vb (!(relOk vs x1)))] [] (by kernel_rfl) h ?_; clear h; intro a w h
   refine condS (!(relOk vs x1)) h rfl (fun hc => ?_) (fun hc => ?_)
   ·have hc2 := hc; clear hc
    have hc2' := hc2; (try simp at hc2')
    refine rSeq fam0ok 0 [] [(0, .t (.c (.d (.sl 4 (rs.map RelD.d))))), (1, .t (.c (.d (.sl 2 (vs.map ziD))))), (4, vb false), (5, vi .i64 (j : Int))] [] (by kernel_rfl) h ?_; clear h; intro a w h
    refine wp_ret ?_
    refine block_r ?_
    refine then_r ?_
    refine then_r ?_
    refine block_r ?_
    refine then_r ?_
    refine retS [.c (.d (.raw (.bool false)))] h Exit.ret (.inl rfl)  rfl ⟨RV.tmp _ _ rfl, trivial⟩ ?_ (by kernel_rfl) (by kernel_rfl)
    have hz : allR rs vs = false := all_stop hx1 (show (relOk vs x1) = false from by simpa using hc2)
    rw [hz]; first | done | rfl
   ·have hc3 := hc; clear hc
    have hc3' := hc3; (try simp at hc3')
    refine wp_skip ?_
    refine block_n ?_
    refine then_n ?_
    refine rS fam0ok 0 [(1, .add .i64 (m := (j : Int)) (n := 1) (i64_id (by omega) (by omega)))] [(0, .t (.c (.d (.sl 4 (rs.map RelD.d))))), (1, .t (.c (.d (.sl 2 (vs.map ziD))))), (5, vi .i64 ((j : Int) + 1))] [] (by kernel_rfl) h ?_; clear h; intro a w h
    refine then_n ?_
    refine roundS (x := j) (y := j + 1) h ?_ ?_ (by kernel_rfl) (by kernel_rfl)
    ·exact ⟨by have := at_lt hx1; omega, all_step hx1 hI2 (show (relOk vs x1) = true from by simpa using hc3)⟩
    ·show rs.length - (j + 1) < rs.length - j
     have := at_lt hx1; omega
  ·have hc4 := hc; clear hc
   have hc4' := of_decide_eq_false hc4
   refine wp_exit ?_
   refine then_x ?_
   refine then_x ?_
   refine inBlock_exit ?_
   refine then_n ?_
   refine rSeq fam0ok 0 [] [(4, vb true)] [] (by kernel_rfl) h ?_; clear h; intro a w h
   refine wp_ret ?_
   refine retS [.c (.d (.raw (.bool true)))] h Exit.ret (.inl rfl)  rfl ⟨RV.tmp _ _ rfl, trivial⟩ ?_ (by kernel_rfl) (by kernel_rfl)
   have hz : allR rs vs = true := all_end (of_decide_eq_false hc4) hI2
   rw [hz]; first | done | rfl
set_option maxHeartbeats 4000000 in
theorem SR4Same (r : RelD) (hr : RkOk r) : Fn Tryz.prog 43 [] [.t (.agg ([.d (.sl 3 (r.t.parts.map Part.d))] ++ zi r.t.k ++ [.d (.raw (.bool r.eq))])), .t (.agg ([.d (.sl 3 (r.t.parts.map Part.d))] ++ zi r.t.k ++ [.d (.raw (.bool r.eq))]))] (vb true) [] := by
 refine Fn.body Tryz.func43 rfl 17 rfl fun w H B a h => ?_
 refine rSeq fam0ok 0 [] [(2, vp 0 0), (3, vp 1 0), (4, vb false)] [(0, .box ([.d (.sl 3 (r.t.parts.map Part.d))] ++ zi r.t.k ++ [.d (.raw (.bool r.eq))])), (1, .box ([.d (.sl 3 (r.t.parts.map Part.d))] ++ zi r.t.k ++ [.d (.raw (.bool r.eq))]))] (by kernel_rfl) h ?_; clear h; intro a w h
 refine rSeq fam0ok 2 [(4, .cmpb .eql (m := r.eq) (n := r.eq) (b := true) (.inl ⟨rfl, (show (r.eq == r.eq) = true from by simp).symm⟩)), (10, .call (SRTSame r.t (n := 200) (L := 200) hr (by decide)) tn_5)] [(4, vb true)] [] (by kernel_rfl) h ?_; clear h; intro a w h
 refine wp_ret ?_
 refine retS [.c (.d (.raw (.bool true)))] h Exit.ret (.inl rfl)  rfl ⟨RV.tmp _ _ rfl, trivial⟩ ?_ (by kernel_rfl) (by kernel_rfl)
 first | rfl | (cases r.eq <;> rfl)
set_option maxHeartbeats 4000000 in
theorem SPlainL (rs : List RelD) (v : Int) (hl : rs.length ≤ 9223372036854775807) : Fn Tryz.prog 22 [] [.t (.c (.d (.sl 4 (rs.map RelD.d)))), vi .i64 v] (vb (plainL rs v)) [] := by
 refine Fn.body Tryz.func22 rfl 22 rfl fun w H B a h => ?_
 refine rSeq fam0ok 0 [] [(0, .t (.c (.d (.sl 4 (rs.map RelD.d))))), (1, vi .i64 v), (4, vb false)] [] (by kernel_rfl) h ?_; clear h; intro a w h
 refine wp_seq ?_
 refine rSeq fam0ok 0 [(1, .len (c := (.d (.sl 4 (rs.map RelD.d)))) (n := rs.length) (lenC_map _ _ _))] [(1, vi .i64 v), (4, vb false), (7, .t (.c (.d (.sl 4 (rs.map RelD.d))))), (8, vi .i64 (rs.length : Int)), (9, vi .i64 0)] [] (by kernel_rfl) h ?_; clear h; intro a w h
 refine wp_block ?_
 refine loopS (ι := (Nat)) (fun (z_ : (Nat)) => match z_ with | j => j ≤ rs.length ∧ (rs.take j).all (fun r => !r.eq) = true)
   (fun (z_ : (Nat)) => match z_ with | j => [(1, vi .i64 v), (7, .t (.c (.d (.sl 4 (rs.map RelD.d))))), (8, vi .i64 (rs.length : Int)), (9, vi .i64 (j : Int))])
   (fun (z_ : (Nat)) => match z_ with | j => [])
   (fun (z_ : (Nat)) => match z_ with | j => rs.length - j) 0 ?_ h (by kernel_rfl) (by kernel_rfl) ?_
 ·exact ⟨Nat.zero_le _, rfl⟩
 ·clear h; rintro j a w hI h
  change St _ (F.of [(1, vi .i64 v), (7, .t (.c (.d (.sl 4 (rs.map RelD.d))))), (8, vi .i64 (rs.length : Int)), (9, vi .i64 (j : Int))] []) a w at h
  obtain ⟨hI1, hI2⟩ := hI
  refine rSeq fam0ok 0 [] [(1, vi .i64 v), (7, .t (.c (.d (.sl 4 (rs.map RelD.d))))), (8, vi .i64 (rs.length : Int)), (9, vi .i64 (j : Int)), (10, vb (decide ((j : Int) < (rs.length : Int))))] [] (by kernel_rfl) h ?_; clear h; intro a w h
  refine wp_seq ?_
  refine condS (decide ((j : Int) < (rs.length : Int))) h rfl (fun hc => ?_) (fun hc => ?_)
  ·have hc1 := hc; clear hc
   have hc1' := of_decide_eq_true hc1
   refine wp_skip ?_
   refine then_n ?_
   refine wp_seq ?_
   refine wp_block ?_
   obtain ⟨x1, hx1⟩ : ∃ z_ : RelD, rs[j]? = some z_ := ⟨_, List.getElem?_eq_getElem (by first | omega | (simp at *; omega))⟩
   refine rSeq fam0ok 0 [(0, .gen _ _ _ fun _ _ _ _ => Op.idxD (d := 11) (t := 7) (k := .i64) kc_3 (map_at hx1 (f := RelD.d)) (OV.tmp 9 _))] [(1, vi .i64 v), (6, vp 0 0), (7, .t (.c (.d (.sl 4 (rs.map RelD.d))))), (8, vi .i64 (rs.length : Int)), (9, vi .i64 (j : Int))] [(0, .box ([.d (.sl 3 (x1.t.parts.map Part.d))] ++ zi x1.t.k ++ [.d (.raw (.bool x1.eq))]))] (by kernel_rfl) h ?_; clear h; intro a w h
   refine rSeq fam0ok 1 [] [(1, vi .i64 v), (7, .t (.c (.d (.sl 4 (rs.map RelD.d))))), (8, vi .i64 (rs.length : Int)), (9, vi .i64 (j : Int)), (14, vb x1.eq)] [] (by kernel_rfl) h ?_; clear h; intro a w h
   refine condS x1.eq h rfl (fun hc => ?_) (fun hc => ?_)
   ·have hc2 := hc; clear hc
    refine rSeq fam0ok 1 [] [(1, vi .i64 v), (4, vb false), (7, .t (.c (.d (.sl 4 (rs.map RelD.d))))), (8, vi .i64 (rs.length : Int)), (9, vi .i64 (j : Int))] [] (by kernel_rfl) h ?_; clear h; intro a w h
    refine wp_ret ?_
    refine block_r ?_
    refine then_r ?_
    refine then_r ?_
    refine block_r ?_
    refine then_r ?_
    refine retS [.c (.d (.raw (.bool false)))] h Exit.ret (.inl rfl)  rfl ⟨RV.tmp _ _ rfl, trivial⟩ ?_ (by kernel_rfl) (by kernel_rfl)
    have hz : plainL rs v = false := by unfold plainL; rw [all_stop hx1 (show (!x1.eq) = false from by rw [hc2]; rfl)]; rfl
    rw [hz]; first | done | rfl
   ·have hc3 := hc; clear hc
    refine wp_skip ?_
    refine block_n ?_
    refine then_n ?_
    refine rS fam0ok 1 [(0, .add .i64 (m := (j : Int)) (n := 1) (i64_id (by omega) (by omega)))] [(1, vi .i64 v), (7, .t (.c (.d (.sl 4 (rs.map RelD.d))))), (8, vi .i64 (rs.length : Int)), (9, vi .i64 ((j : Int) + 1))] [] (by kernel_rfl) h ?_; clear h; intro a w h
    refine then_n ?_
    refine roundS (x := j) (y := j + 1) h ?_ ?_ (by kernel_rfl) (by kernel_rfl)
    ·exact ⟨by have := at_lt hx1; omega, all_step hx1 hI2 (show (!x1.eq) = true from by rw [hc3]; rfl)⟩
    ·show rs.length - (j + 1) < rs.length - j
     have := at_lt hx1; omega
  ·have hc4 := hc; clear hc
   have hc4' := of_decide_eq_false hc4
   refine wp_exit ?_
   refine then_x ?_
   refine then_x ?_
   refine inBlock_exit ?_
   refine then_n ?_
   rcases Bool.eq_false_or_eq_true (decide (v ≥ 0)) with hc | hc
   ·have hc5 := hc; clear hc
    have hc5' := of_decide_eq_true hc5
    refine rSeq fam0ok 1 [(1, .cmp (op := .geq) (m := v) (n := 0) (b := true) .i64 hc5)] [(4, vb (decide (v ≤ 1000)))] [] (by kernel_rfl) h ?_; clear h; intro a w h
    refine wp_ret ?_
    refine retS [.c (.d (.raw (.bool (decide (v ≤ 1000)))))] h Exit.ret (.inl rfl)  rfl ⟨RV.tmp _ _ rfl, trivial⟩ ?_ (by kernel_rfl) (by kernel_rfl)
    have hz : plainL rs v = (decide (v ≤ 1000)) := by unfold plainL; rw [all_end (of_decide_eq_false hc4) hI2, Bool.true_and]; have h0 := of_decide_eq_true hc5; exact decide_eq_decide.2 ⟨fun e => e.2, fun e => ⟨h0, e⟩⟩
    rw [hz]; first | done | rfl
   ·have hc6 := hc; clear hc
    have hc6' := of_decide_eq_false hc6
    refine rSeq fam0ok 1 [(1, .cmp (op := .geq) (m := v) (n := 0) (b := false) .i64 hc6)] [(4, vb false)] [] (by kernel_rfl) h ?_; clear h; intro a w h
    refine wp_ret ?_
    refine retS [.c (.d (.raw (.bool false)))] h Exit.ret (.inl rfl)  rfl ⟨RV.tmp _ _ rfl, trivial⟩ ?_ (by kernel_rfl) (by kernel_rfl)
    have hz : plainL rs v = (false) := by unfold plainL; rw [all_end (of_decide_eq_false hc4) hI2, Bool.true_and]; rw [decide_eq_false (fun e => of_decide_eq_false hc6 e.1)]
    rw [hz]; first | done | rfl
set_option maxHeartbeats 4000000 in
theorem SWith (vs : List ZI) (v : Nat) (x : ZI) (hv : v ≤ 1000) (hl : vs.length ≤ 20) : Fn Tryz.prog 26 [] [.t (.c (.d (.sl 2 (vs.map ziD)))), vi .i64 (v : Int), vz x] (.t (.c (.d (.sl 2 ((withV vs v x).map ziD))))) [] := by
 refine Fn.body Tryz.func26 rfl 24 rfl fun w H B a h => ?_
 refine rSeq fam0ok 5 [] [(0, .t (.c (.d (.sl 2 (vs.map ziD))))), (1, vi .i64 (v : Int)), (5, vp 5 0), (6, .t (.c (.d (.raw nilV))))] [(5, .box (zi x))] (by kernel_rfl) h ?_; clear h; intro a w h
 refine rSeq fam0ok 6 [(0, .gen _ _ _ fun _ _ _ _ => Op.buildE (d := 8) (n := 6) ty_5), (2, .gen _ _ _ fun _ _ _ _ => Op.appOD (d := 10) (t := 8) (u := 9) (n := 6) (n' := 7) (len := 0) (len' := vs.length) (rows := [].map ziD) (rows2 := vs.map ziD) (rows' := vs.map ziD) kk_4 (by first | exact (List.length_map _).symm | simp) (by first | (rw [List.length_append, List.length_map]; done) | simp) (by simp) (by simp [ziD]) (by first | omega | (simp at *; done) | (simp at *; omega)))] [(1, vi .i64 (v : Int)), (5, vp 5 0), (6, .t (.c (.d (.raw nilV)))), (7, .t (.c (.own 7 vs.length)))] [(5, .box (zi x)), (7, .row 30 2 (vs.map ziD))] (by kernel_rfl) h ?_; clear h; intro a w h
 refine wp_seq ?_
 refine wp_block ?_
 replace h := h.conv (f' := F.of [(1, vi .i64 (v : Int)), (5, vp 5 0), (6, .t (.c (.d (.raw nilV)))), (7, .t (.c (.own 7 (vs ++ List.replicate 0 (ZI.of 0)).length)))] [(5, .box (zi x)), (7, .row 30 2 ((vs ++ List.replicate 0 (ZI.of 0)).map ziD))]) (congrArg (fun (z_ : List ZI) => F.of [(1, vi .i64 (v : Int)), (5, vp 5 0), (6, .t (.c (.d (.raw nilV)))), (7, .t (.c (.own 7 z_.length)))] [(5, .box (zi x)), (7, .row 30 2 (z_.map ziD))]) (show (vs : List ZI) = (vs ++ List.replicate 0 (ZI.of 0)) from (by simp)))
 refine loopS (ι := (Nat)) (fun (z_ : (Nat)) => match z_ with | j => j ≤ v + 1 - vs.length)
   (fun (z_ : (Nat)) => match z_ with | j => [(1, vi .i64 (v : Int)), (5, vp 5 0), (6, .t (.c (.d (.raw nilV)))), (7, .t (.c (.own 7 (vs ++ List.replicate j (ZI.of 0)).length)))])
   (fun (z_ : (Nat)) => match z_ with | j => [(5, .box (zi x)), (7, .row 30 2 ((vs ++ List.replicate j (ZI.of 0)).map ziD))])
   (fun (z_ : (Nat)) => match z_ with | j => v + 1 - vs.length - j) 0 ?_ h (by kernel_rfl) (by kernel_rfl) ?_
 ·exact Nat.zero_le _
 ·clear h; rintro j a w hI h
  change St _ (F.of [(1, vi .i64 (v : Int)), (5, vp 5 0), (6, .t (.c (.d (.raw nilV)))), (7, .t (.c (.own 7 (vs ++ List.replicate j (ZI.of 0)).length)))] [(5, .box (zi x)), (7, .row 30 2 ((vs ++ List.replicate j (ZI.of 0)).map ziD))]) a w at h
  have lej : (vs ++ List.replicate j (ZI.of 0)).length = vs.length + j := by simp
  refine wp_seq ?_
  refine rSeq fam0ok 8 [] [(1, vi .i64 (v : Int)), (5, vp 5 0), (6, .t (.c (.d (.raw nilV)))), (7, .t (.c (.own 7 (vs ++ List.replicate j (ZI.of 0)).length))), (14, vb (decide (((vs ++ List.replicate j (ZI.of 0)).length : Int) ≤ (v : Int))))] [(5, .box (zi x)), (7, .row 30 2 ((vs ++ List.replicate j (ZI.of 0)).map ziD))] (by kernel_rfl) h ?_; clear h; intro a w h
  refine condS (decide (((vs ++ List.replicate j (ZI.of 0)).length : Int) ≤ (v : Int))) h rfl (fun hc => ?_) (fun hc => ?_)
  ·have hc1 := hc; clear hc
   have hc1' := of_decide_eq_true hc1
   refine wp_skip ?_
   refine then_n ?_
   refine wp_block ?_
   refine rS fam0ok 8 [(2, .gen _ _ _ fun _ _ _ _ => Op.buildD (d := 17) (len := 1) (rows := [(ZI.mk false [])].map ziD) (rs := [(16, .t (.agg [.d (.raw (.bool false)), .d (nsl [])]))]) ty_5 (.cons (i := 0) (OV.tmp 16 _) (.nil)) (by kernel_rfl) rfl (by simp [ziD]) (by decide) (by decide)), (3, .gen _ _ _ fun _ _ _ _ => Op.appOD (d := 18) (t := 15) (u := 17) (n := 7) (n' := 8) (len := (vs ++ List.replicate j (ZI.of 0)).length) (len' := ((vs ++ List.replicate j (ZI.of 0)) ++ [(ZI.mk false [])]).length) (rows := (vs ++ List.replicate j (ZI.of 0)).map ziD) (rows2 := [(ZI.mk false [])].map ziD) (rows' := ((vs ++ List.replicate j (ZI.of 0)) ++ [(ZI.mk false [])]).map ziD) kk_4 (by first | exact (List.length_map _).symm | simp) (by first | (rw [List.length_append, List.length_map]; done) | simp) (by simp) (by simp [ziD]) (by first | omega | (simp at *; done) | (simp at *; omega)))] [(1, vi .i64 (v : Int)), (5, vp 5 0), (6, .t (.c (.d (.raw nilV)))), (7, .t (.c (.own 8 ((vs ++ List.replicate j (ZI.of 0)) ++ [(ZI.mk false [])]).length)))] [(5, .box (zi x)), (8, .row 30 2 (((vs ++ List.replicate j (ZI.of 0)) ++ [(ZI.mk false [])]).map ziD))] (by kernel_rfl) h ?_; clear h; intro a w h
   refine block_n ?_
   refine then_n ?_
   replace h := h.conv (f' := F.of [(1, vi .i64 (v : Int)), (5, vp 5 0), (6, .t (.c (.d (.raw nilV)))), (7, .t (.c (.own 8 (vs ++ List.replicate (j + 1) (ZI.of 0)).length)))] [(5, .box (zi x)), (8, .row 30 2 ((vs ++ List.replicate (j + 1) (ZI.of 0)).map ziD))]) (congrArg (fun (z_ : List ZI) => F.of [(1, vi .i64 (v : Int)), (5, vp 5 0), (6, .t (.c (.d (.raw nilV)))), (7, .t (.c (.own 8 z_.length)))] [(5, .box (zi x)), (8, .row 30 2 (z_.map ziD))]) (show (((vs ++ List.replicate j (ZI.of 0)) ++ [(ZI.mk false [])]) : List ZI) = (vs ++ List.replicate (j + 1) (ZI.of 0)) from (by rw [List.append_assoc, List.replicate_succ', ]; rfl)))
   replace h := renS 8 7 [(1, vi .i64 (v : Int)), (5, vp 5 0), (6, .t (.c (.d (.raw nilV)))), (7, .t (.c (.own 7 (vs ++ List.replicate (j + 1) (ZI.of 0)).length)))] [(5, .box (zi x)), (7, .row 30 2 ((vs ++ List.replicate (j + 1) (ZI.of 0)).map ziD))] h (by kernel_rfl) (by kernel_rfl) (by kernel_rfl)
   refine roundS (x := j) (y := j + 1) h ?_ ?_ (by kernel_rfl) (by kernel_rfl)
   ·have hc := of_decide_eq_true hc1
    show j + 1 ≤ v + 1 - vs.length
    omega
   ·have hc := of_decide_eq_true hc1
    show v + 1 - vs.length - (j + 1) < v + 1 - vs.length - j
    omega
  ·have hc2 := hc; clear hc
   have hc2' := of_decide_eq_false hc2
   refine wp_exit ?_
   refine then_x ?_
   refine then_x ?_
   refine inBlock_exit ?_
   refine then_n ?_
   replace h := h.conv (f' := F.of [(1, vi .i64 (v : Int)), (5, vp 5 0), (6, .t (.c (.d (.raw nilV)))), (7, .t (.c (.own 7 (ext0 vs (v + 1)).length))), (14, vb (decide (((vs ++ List.replicate j (ZI.of 0)).length : Int) ≤ (v : Int))))] [(5, .box (zi x)), (7, .row 30 2 ((ext0 vs (v + 1)).map ziD))]) (congrArg (fun (z_ : List ZI) => F.of [(1, vi .i64 (v : Int)), (5, vp 5 0), (6, .t (.c (.d (.raw nilV)))), (7, .t (.c (.own 7 z_.length))), (14, vb (decide (((vs ++ List.replicate j (ZI.of 0)).length : Int) ≤ (v : Int))))] [(5, .box (zi x)), (7, .row 30 2 (z_.map ziD))]) (show ((vs ++ List.replicate j (ZI.of 0)) : List ZI) = (ext0 vs (v + 1)) from (by have hc := of_decide_eq_false hc2; unfold ext0; rw [show j = v + 1 - vs.length by omega])))
   have lext : (ext0 vs (v + 1)).length > v := by unfold ext0; rw [List.length_append, List.length_replicate]; omega
   obtain ⟨x1, hx1⟩ : ∃ z_ : ZI, (ext0 vs (v + 1))[v]? = some z_ := ⟨_, List.getElem?_eq_getElem (by first | omega | (simp at *; omega))⟩
   refine rSeq fam0ok 9 [(3, .gen _ _ _ fun _ _ _ _ => Op.idxO (d := 22) (t := 19) (k := .i64) (n := 7) (len := (ext0 vs (v + 1)).length) (i := v) tt_6 (by first | omega | (simp at *; omega)) (OV.tmp 20 _)), (4, .gen _ _ _ fun _ _ _ _ => Op.storeR (t := 22) (n := 7) (i := v) (fo := 0) (rty := 30) (es := 2) (r := ziD x1) (ds := [.raw (.bool x.neg), nsl x.abs]) (rs := [(21, vz x)]) (rows := (ext0 vs (v + 1)).map ziD) (rows' := ((ext0 vs (v + 1)).set v x).map ziD) ia_1 (OV.tmp 21 _) rfl rfl rfl (map_at hx1 (f := ziD)) (by simp [ziD]) (set_map (xs := (ext0 vs (v + 1))) (F := ziD) v _ _ rfl))] [(6, .t (.c (.d (.raw nilV)))), (7, .t (.c (.own 7 (ext0 vs (v + 1)).length)))] [(7, .row 30 2 (((ext0 vs (v + 1)).set v x).map ziD))] (by kernel_rfl) h ?_; clear h; intro a w h
   refine rSeq fam0ok 9 [] [(6, .t (.c (.own 7 (ext0 vs (v + 1)).length)))] [(7, .row 30 2 (((ext0 vs (v + 1)).set v x).map ziD))] (by kernel_rfl) h ?_; clear h; intro a w h
   refine wp_ret ?_
   replace h := h.conv (f' := F.of [(6, .t (.c (.own 7 (ext0 vs (v + 1)).length)))] [(7, .row 30 2 ((withV vs v x).map ziD))]) (congrArg (fun (z_ : List ZI) => F.of [(6, .t (.c (.own 7 (ext0 vs (v + 1)).length)))] [(7, .row 30 2 (z_.map ziD))]) (show (((ext0 vs (v + 1)).set v x) : List ZI) = (withV vs v x) from rfl))
   have lwv : (withV vs v x).length = (ext0 vs (v + 1)).length := List.length_set ..
   replace h := pubS 7 2 30 ((withV vs v x).map ziD) [(6, .t (.c (.d (.sl 2 ((withV vs v x).map ziD)))))] [] h rfl (show AllEq _ [(ext0 vs (v + 1)).length] from ⟨by first | exact (List.length_map _).symm | (simp; done) | (simp; omega), trivial⟩) trivial (by kernel_rfl) (by kernel_rfl)
   refine retS [.c (.d (.sl 2 ((withV vs v x).map ziD)))] h Exit.ret (.inl rfl)  rfl ⟨RV.tmp _ _ rfl, trivial⟩ ?_ (by kernel_rfl) (by kernel_rfl)
   rfl
end Go.Proofs.YtoklkfmffmonoaaGreat.S
end
section
namespace Go.Proofs.YtoklkfmffmonoaaGreat.S
open Go.RowKit

theorem hv_2 : Bodied Tryz.prog 44 := Bodied.mk' (by kernel_rfl)
theorem hv_4 : Bodied Tryz.prog 45 := Bodied.mk' (by kernel_rfl)
theorem hv_5 : Bodied Tryz.prog 46 := Bodied.mk' (by kernel_rfl)
theorem hv_9 : Bodied Tryz.prog 47 := Bodied.mk' (by kernel_rfl)
def varsAll (rs : List RelD) : List Int := rs.flatMap fun r => varsZ r.t.parts
def stepCh (rs : List RelD) (st : Int × Bool × Int) (x : Int) : Int × Bool × Int := if (decide (st.1 < 0) || (exactS (splitS rs x) && !st.2.1) || ((exactS (splitS rs x) == st.2.1) && decide ((((lowsOf rs x).length * (highsOf rs x).length : Nat) : Int) < st.2.2))) = true then (x, exactS (splitS rs x), (((lowsOf rs x).length * (highsOf rs x).length : Nat) : Int)) else st
def chooseSt (rs : List RelD) : Int × Bool × Int := (uniZ (varsAll rs)).foldl (stepCh rs) (-1, false, 0)
theorem fold_at {α β : Type} {f : β → α → β} {u : List α} {i : Nat} {x : α} {z : β} (h : u[i]? = some x) : (u.take (i + 1)).foldl f z = f ((u.take i).foldl f z) x := by
 rw [List.take_add_one, h, List.foldl_append]; rfl
theorem cost_le {rs : List RelD} (h : RsOk rs) (v : Int) : (lowsOf rs v).length * (highsOf rs v).length ≤ 400 := Nat.mul_le_mul (lows_len h v) (highs_len h v)
theorem varsAll_len {rs : List RelD} (h : ∀ r ∈ rs, TokR 8 r) : (varsAll rs).length ≤ rs.length * 20 := by
 unfold varsAll
 induction rs with
 | nil => simp
 | cons r rs ih =>
  rw [List.flatMap_cons, List.length_append, List.length_cons, Nat.add_mul]
  have h1 := ih (fun q hq => h q (List.mem_cons_of_mem _ hq))
  have h2 := varsZ_len r.t.parts
  have h3 := (h r (List.mem_cons_self ..)).len
  omega
theorem mem_take {α : Type} {xs : List α} {n : Nat} {x : α} (h : x ∈ xs.take n) : x ∈ xs := List.mem_of_mem_take h
set_option maxHeartbeats 4000000 in
theorem SRelVars (r : RelD) (hr : TOk 20 8 r.t) : Fn Tryz.prog 44 [] [.t (.agg ([.d (.sl 3 (r.t.parts.map Part.d))] ++ zi r.t.k ++ [.d (.raw (.bool r.eq))]))] (.t (.c (.d (.sl 1 ((varsZ r.t.parts).map intD))))) [] := by
 refine Fn.body Tryz.func44 rfl 6 rfl fun w H B a h => ?_
 refine rSeq fam0ok 0 [] [(1, vp 0 0), (2, .t (.c (.d (.raw nilV))))] [(0, .box ([.d (.sl 3 (r.t.parts.map Part.d))] ++ zi r.t.k ++ [.d (.raw (.bool r.eq))]))] (by kernel_rfl) h ?_; clear h; intro a w h
 refine rSeq fam0ok 1 [(2, .call (STVars r.t hr (by decide) (by decide)) ty_3)] [(2, .t (.c (.d (.sl 1 ((varsZ r.t.parts).map intD)))))] [] (by kernel_rfl) h ?_; clear h; intro a w h
 refine wp_ret ?_
 refine retS [.c (.d (.sl 1 ((varsZ r.t.parts).map intD)))] h Exit.ret (.inl rfl)  rfl ⟨RV.tmp _ _ rfl, trivial⟩ ?_ (by kernel_rfl) (by kernel_rfl)
 rfl
set_option maxHeartbeats 4000000 in
theorem SChoose (rs : List RelD) (hrs : RsOk rs) : Fn Tryz.prog 16 [] [.t (.c (.d (.sl 4 (rs.map RelD.d))))] (.tup [.c (.d (.raw (.int .i64 (chooseSt rs).1))), .c (.d (.raw (.bool (chooseSt rs).2.1)))]) [] := by
 have lrs := hrs.1
 refine Fn.body Tryz.func16 rfl 70 rfl fun w H B a h => ?_
 refine rSeq fam0ok 5 [] [(0, .t (.c (.d (.sl 4 (rs.map RelD.d))))), (2, vi .i64 0), (3, vb false)] [] (by kernel_rfl) h ?_; clear h; intro a w h
 refine rSeq fam0ok 5 [] [(0, .t (.c (.d (.sl 4 (rs.map RelD.d))))), (2, vi .i64 0), (3, vb false), (4, .t (.c (.d (.raw nilV))))] [] (by kernel_rfl) h ?_; clear h; intro a w h
 refine wp_seq ?_
 replace h := nilOSs 4 0 5 1 3 (.t (.c (.d (.raw nilV)))) [(0, .t (.c (.d (.sl 4 (rs.map RelD.d))))), (2, vi .i64 0), (3, vb false), (4, .t (.c (.own 5 0)))] [(5, .row 3 1 ([].map intD))] h (by kernel_rfl) rfl rfl (by kernel_rfl) (by kernel_rfl)
 refine rSeq fam0ok 6 [(1, .len (c := (.d (.sl 4 (rs.map RelD.d)))) (n := rs.length) (lenC_map _ _ _))] [(0, .t (.c (.d (.sl 4 (rs.map RelD.d))))), (2, vi .i64 0), (3, vb false), (4, .t (.c (.own 5 0))), (13, .t (.c (.d (.sl 4 (rs.map RelD.d))))), (14, vi .i64 (rs.length : Int)), (15, vi .i64 0)] [(5, .row 3 1 ([].map intD))] (by kernel_rfl) h ?_; clear h; intro a w h
 refine wp_block ?_
 replace h := h.conv (f' := F.of [(0, .t (.c (.d (.sl 4 (rs.map RelD.d))))), (2, vi .i64 0), (3, vb false), (4, .t (.c (.own 5 0))), (13, .t (.c (.d (.sl 4 (rs.map RelD.d))))), (14, vi .i64 (rs.length : Int)), (15, vi .i64 0)] [(5, .row 3 1 (((rs.take 0).flatMap fun r => varsZ r.t.parts).map intD))]) (congrArg (fun (z_ : List Int) => F.of [(0, .t (.c (.d (.sl 4 (rs.map RelD.d))))), (2, vi .i64 0), (3, vb false), (4, .t (.c (.own 5 0))), (13, .t (.c (.d (.sl 4 (rs.map RelD.d))))), (14, vi .i64 (rs.length : Int)), (15, vi .i64 0)] [(5, .row 3 1 (z_.map intD))]) (show ([] : List Int) = ((rs.take 0).flatMap fun r => varsZ r.t.parts) from (by simp)))
 refine loopS (ι := (Nat)) (fun (z_ : (Nat)) => match z_ with | j => j ≤ rs.length)
   (fun (z_ : (Nat)) => match z_ with | j => [(0, .t (.c (.d (.sl 4 (rs.map RelD.d))))), (2, vi .i64 0), (3, vb false), (4, .t (.c (.own 5 ((rs.take j).flatMap fun r => varsZ r.t.parts).length))), (13, .t (.c (.d (.sl 4 (rs.map RelD.d))))), (14, vi .i64 (rs.length : Int)), (15, vi .i64 (j : Int))])
   (fun (z_ : (Nat)) => match z_ with | j => [(5, .row 3 1 (((rs.take j).flatMap fun r => varsZ r.t.parts).map intD))])
   (fun (z_ : (Nat)) => match z_ with | j => rs.length - j) 0 ?_ h (by kernel_rfl) (by kernel_rfl) ?_
 ·exact Nat.zero_le _
 ·clear h; rintro j a w hI h
  change St _ (F.of [(0, .t (.c (.d (.sl 4 (rs.map RelD.d))))), (2, vi .i64 0), (3, vb false), (4, .t (.c (.own 5 ((rs.take j).flatMap fun r => varsZ r.t.parts).length))), (13, .t (.c (.d (.sl 4 (rs.map RelD.d))))), (14, vi .i64 (rs.length : Int)), (15, vi .i64 (j : Int))] [(5, .row 3 1 (((rs.take j).flatMap fun r => varsZ r.t.parts).map intD))]) a w at h
  have lvj : ((rs.take j).flatMap fun r => varsZ r.t.parts).length ≤ 400 := Nat.le_trans (varsAll_len (fun r hr => hrs.2 r (mem_take hr))) (by rw [List.length_take]; omega)
  refine rSeq fam0ok 6 [] [(0, .t (.c (.d (.sl 4 (rs.map RelD.d))))), (2, vi .i64 0), (3, vb false), (4, .t (.c (.own 5 ((rs.take j).flatMap fun r => varsZ r.t.parts).length))), (13, .t (.c (.d (.sl 4 (rs.map RelD.d))))), (14, vi .i64 (rs.length : Int)), (15, vi .i64 (j : Int)), (16, vb (decide ((j : Int) < (rs.length : Int))))] [(5, .row 3 1 (((rs.take j).flatMap fun r => varsZ r.t.parts).map intD))] (by kernel_rfl) h ?_; clear h; intro a w h
  refine wp_seq ?_
  refine condS (decide ((j : Int) < (rs.length : Int))) h rfl (fun hc => ?_) (fun hc => ?_)
  ·have hc1 := hc; clear hc
   have hc1' := of_decide_eq_true hc1
   refine wp_skip ?_
   refine then_n ?_
   refine wp_seq ?_
   refine wp_block ?_
   obtain ⟨x1, hx1⟩ : ∃ z_ : RelD, rs[j]? = some z_ := ⟨_, List.getElem?_eq_getElem (by first | omega | (simp at *; omega))⟩
   have gx1 : TOk 20 8 x1.t := hrs.2 x1 (List.mem_of_getElem? hx1)
   have lvxx1 : (varsZ x1.t.parts).length ≤ 20 := Nat.le_trans (varsZ_len _) gx1.len
   refine rSeq fam0ok 6 [(0, .gen _ _ _ fun _ _ _ _ => Op.idxD (d := 17) (t := 13) (k := .i64) kc_3 (map_at hx1 (f := RelD.d)) (OV.tmp 15 _))] [(0, .t (.c (.d (.sl 4 (rs.map RelD.d))))), (2, vi .i64 0), (3, vb false), (4, .t (.c (.own 5 ((rs.take j).flatMap fun r => varsZ r.t.parts).length))), (6, vp 6 0), (13, .t (.c (.d (.sl 4 (rs.map RelD.d))))), (14, vi .i64 (rs.length : Int)), (15, vi .i64 (j : Int))] [(5, .row 3 1 (((rs.take j).flatMap fun r => varsZ r.t.parts).map intD)), (6, .box ([.d (.sl 3 (x1.t.parts.map Part.d))] ++ zi x1.t.k ++ [.d (.raw (.bool x1.eq))]))] (by kernel_rfl) h ?_; clear h; intro a w h
   refine rS fam0ok 7 [(2, .call (SRelVars x1 gx1) hv_2), (3, .gen _ _ _ fun _ _ _ _ => Op.appOD (d := 22) (t := 19) (u := 21) (n := 5) (n' := 7) (len := ((rs.take j).flatMap fun r => varsZ r.t.parts).length) (len' := (((rs.take j).flatMap fun r => varsZ r.t.parts) ++ (varsZ x1.t.parts)).length) (rows := ((rs.take j).flatMap fun r => varsZ r.t.parts).map intD) (rows2 := (varsZ x1.t.parts).map intD) (rows' := (((rs.take j).flatMap fun r => varsZ r.t.parts) ++ (varsZ x1.t.parts)).map intD) tb_2 (by first | exact (List.length_map _).symm | simp) (by first | (rw [List.length_append, List.length_map]; done) | simp) (by simp) (by simp [intD]) (by first | omega | (simp at *; done) | (simp at *; omega)))] [(0, .t (.c (.d (.sl 4 (rs.map RelD.d))))), (2, vi .i64 0), (3, vb false), (4, .t (.c (.own 7 (((rs.take j).flatMap fun r => varsZ r.t.parts) ++ (varsZ x1.t.parts)).length))), (13, .t (.c (.d (.sl 4 (rs.map RelD.d))))), (14, vi .i64 (rs.length : Int)), (15, vi .i64 (j : Int))] [(7, .row 3 1 ((((rs.take j).flatMap fun r => varsZ r.t.parts) ++ (varsZ x1.t.parts)).map intD))] (by kernel_rfl) h ?_; clear h; intro a w h
   refine block_n ?_
   refine then_n ?_
   refine rS fam0ok 8 [(0, .add .i64 (m := (j : Int)) (n := 1) (i64_id (by omega) (by omega)))] [(0, .t (.c (.d (.sl 4 (rs.map RelD.d))))), (2, vi .i64 0), (3, vb false), (4, .t (.c (.own 7 (((rs.take j).flatMap fun r => varsZ r.t.parts) ++ (varsZ x1.t.parts)).length))), (13, .t (.c (.d (.sl 4 (rs.map RelD.d))))), (14, vi .i64 (rs.length : Int)), (15, vi .i64 ((j : Int) + 1))] [(7, .row 3 1 ((((rs.take j).flatMap fun r => varsZ r.t.parts) ++ (varsZ x1.t.parts)).map intD))] (by kernel_rfl) h ?_; clear h; intro a w h
   refine then_n ?_
   replace h := h.conv (f' := F.of [(0, .t (.c (.d (.sl 4 (rs.map RelD.d))))), (2, vi .i64 0), (3, vb false), (4, .t (.c (.own 7 ((rs.take (j + 1)).flatMap fun r => varsZ r.t.parts).length))), (13, .t (.c (.d (.sl 4 (rs.map RelD.d))))), (14, vi .i64 (rs.length : Int)), (15, vi .i64 ((j : Int) + 1))] [(7, .row 3 1 (((rs.take (j + 1)).flatMap fun r => varsZ r.t.parts).map intD))]) (congrArg (fun (z_ : List Int) => F.of [(0, .t (.c (.d (.sl 4 (rs.map RelD.d))))), (2, vi .i64 0), (3, vb false), (4, .t (.c (.own 7 z_.length))), (13, .t (.c (.d (.sl 4 (rs.map RelD.d))))), (14, vi .i64 (rs.length : Int)), (15, vi .i64 ((j : Int) + 1))] [(7, .row 3 1 (z_.map intD))]) (show ((((rs.take j).flatMap fun r => varsZ r.t.parts) ++ (varsZ x1.t.parts)) : List Int) = ((rs.take (j + 1)).flatMap fun r => varsZ r.t.parts) from (flat_snoc (g := fun r => varsZ r.t.parts) hx1 rfl)))
   replace h := renS 7 5 [(0, .t (.c (.d (.sl 4 (rs.map RelD.d))))), (2, vi .i64 0), (3, vb false), (4, .t (.c (.own 5 ((rs.take (j + 1)).flatMap fun r => varsZ r.t.parts).length))), (13, .t (.c (.d (.sl 4 (rs.map RelD.d))))), (14, vi .i64 (rs.length : Int)), (15, vi .i64 ((j : Int) + 1))] [(5, .row 3 1 (((rs.take (j + 1)).flatMap fun r => varsZ r.t.parts).map intD))] h (by kernel_rfl) (by kernel_rfl) (by kernel_rfl)
   refine roundS (x := j) (y := j + 1) h ?_ ?_ (by kernel_rfl) (by kernel_rfl)
   ·have := at_lt hx1
    show j + 1 ≤ rs.length
    omega
   ·show rs.length - (j + 1) < rs.length - j
    have := at_lt hx1; omega
  ·have hc2 := hc; clear hc
   have hc2' := of_decide_eq_false hc2
   refine wp_exit ?_
   refine then_x ?_
   refine then_x ?_
   refine inBlock_exit ?_
   refine then_n ?_
   replace h := h.conv (f' := F.of [(0, .t (.c (.d (.sl 4 (rs.map RelD.d))))), (2, vi .i64 0), (3, vb false), (4, .t (.c (.own 5 (varsAll rs).length))), (13, .t (.c (.d (.sl 4 (rs.map RelD.d))))), (14, vi .i64 (rs.length : Int)), (15, vi .i64 (j : Int)), (16, vb (decide ((j : Int) < (rs.length : Int))))] [(5, .row 3 1 ((varsAll rs).map intD))]) (congrArg (fun (z_ : List Int) => F.of [(0, .t (.c (.d (.sl 4 (rs.map RelD.d))))), (2, vi .i64 0), (3, vb false), (4, .t (.c (.own 5 z_.length))), (13, .t (.c (.d (.sl 4 (rs.map RelD.d))))), (14, vi .i64 (rs.length : Int)), (15, vi .i64 (j : Int)), (16, vb (decide ((j : Int) < (rs.length : Int))))] [(5, .row 3 1 (z_.map intD))]) (show (((rs.take j).flatMap fun r => varsZ r.t.parts) : List Int) = (varsAll rs) from (by unfold varsAll; rw [List.take_of_length_le (by omega)])))
   have lva : (varsAll rs).length ≤ 400 := Nat.le_trans (varsAll_len hrs.2) (by omega)
   replace h := renS 5 0 [(0, .t (.c (.d (.sl 4 (rs.map RelD.d))))), (2, vi .i64 0), (3, vb false), (4, .t (.c (.own 0 (varsAll rs).length))), (13, .t (.c (.d (.sl 4 (rs.map RelD.d))))), (14, vi .i64 (rs.length : Int)), (15, vi .i64 (j : Int)), (16, vb (decide ((j : Int) < (rs.length : Int))))] [(0, .row 3 1 ((varsAll rs).map intD))] h (by kernel_rfl) (by kernel_rfl) (by kernel_rfl)
   have luz : (uniZ (varsAll rs)).length ≤ 400 := by have h1 := Lib.compact_length_le (sortZ (varsAll rs)); rw [sortZ_len] at h1; show (Lib.compact _).length ≤ 400; omega
   refine rSeq fam0ok 8 [(1, .call (SSortI (varsAll rs) (by omega)) hv_4)] [(0, .t (.c (.d (.sl 4 (rs.map RelD.d))))), (2, vi .i64 0), (3, vb false), (4, .t (.c (.own 0 (varsAll rs).length)))] [(0, .row 3 1 ((sortZ (varsAll rs)).map intD))] (by kernel_rfl) h ?_; clear h; intro a w h
   refine rSeq fam0ok 8 [] [(0, .t (.c (.d (.sl 4 (rs.map RelD.d))))), (2, vi .i64 (-1)), (3, vb false), (4, .t (.c (.own 0 (varsAll rs).length))), (7, vi .i64 0)] [(0, .row 3 1 ((sortZ (varsAll rs)).map intD))] (by kernel_rfl) h ?_; clear h; intro a w h
   refine wp_seq ?_
   refine rSeq fam0ok 8 [(1, .call (SCompactN (sortZ (varsAll rs)) (varsAll rs).length (sortZ_len _).symm (by rw [sortZ_len]; omega)) hv_5)] [(0, .t (.c (.d (.sl 4 (rs.map RelD.d))))), (2, vi .i64 (-1)), (3, vb false), (7, vi .i64 0), (27, .t (.c (.own 0 (uniZ (varsAll rs)).length))), (28, vi .i64 ((uniZ (varsAll rs)).length : Int)), (29, vi .i64 0)] [(0, .row 3 1 ((comR (sortZ (varsAll rs))).map intD))] (by kernel_rfl) h ?_; clear h; intro a w h
   refine wp_block ?_
   refine loopS (ι := (Nat) × (Int) × (Bool) × (Int)) (fun (z_ : (Nat) × (Int) × (Bool) × (Int)) => match z_ with | (i, v, e, b) => i ≤ (uniZ (varsAll rs)).length ∧ ((uniZ (varsAll rs)).take i).foldl (stepCh rs) (-1, false, 0) = (v, e, b))
     (fun (z_ : (Nat) × (Int) × (Bool) × (Int)) => match z_ with | (i, v, e, b) => [(0, .t (.c (.d (.sl 4 (rs.map RelD.d))))), (2, vi .i64 v), (3, vb e), (7, vi .i64 b), (27, .t (.c (.own 0 (uniZ (varsAll rs)).length))), (28, vi .i64 ((uniZ (varsAll rs)).length : Int)), (29, vi .i64 (i : Int))])
     (fun (z_ : (Nat) × (Int) × (Bool) × (Int)) => match z_ with | (i, v, e, b) => [(0, .row 3 1 ((comR (sortZ (varsAll rs))).map intD))])
     (fun (z_ : (Nat) × (Int) × (Bool) × (Int)) => match z_ with | (i, v, e, b) => (uniZ (varsAll rs)).length - i) (0, (-1), false, 0) ?_ h (by kernel_rfl) (by kernel_rfl) ?_
   ·exact ⟨Nat.zero_le _, rfl⟩
   ·clear h; rintro ⟨i, v, e, b⟩ a w hI h
    change St _ (F.of [(0, .t (.c (.d (.sl 4 (rs.map RelD.d))))), (2, vi .i64 v), (3, vb e), (7, vi .i64 b), (27, .t (.c (.own 0 (uniZ (varsAll rs)).length))), (28, vi .i64 ((uniZ (varsAll rs)).length : Int)), (29, vi .i64 (i : Int))] [(0, .row 3 1 ((comR (sortZ (varsAll rs))).map intD))]) a w at h
    obtain ⟨hI1, hI2⟩ := hI
    refine rSeq fam0ok 8 [] [(0, .t (.c (.d (.sl 4 (rs.map RelD.d))))), (2, vi .i64 v), (3, vb e), (7, vi .i64 b), (27, .t (.c (.own 0 (uniZ (varsAll rs)).length))), (28, vi .i64 ((uniZ (varsAll rs)).length : Int)), (29, vi .i64 (i : Int)), (30, vb (decide ((i : Int) < ((uniZ (varsAll rs)).length : Int))))] [(0, .row 3 1 ((comR (sortZ (varsAll rs))).map intD))] (by kernel_rfl) h ?_; clear h; intro a w h
    refine wp_seq ?_
    refine condS (decide ((i : Int) < ((uniZ (varsAll rs)).length : Int))) h rfl (fun hc => ?_) (fun hc => ?_)
    ·have hc3 := hc; clear hc
     have hc3' := of_decide_eq_true hc3
     refine wp_skip ?_
     refine then_n ?_
     refine wp_seq ?_
     refine wp_block ?_
     obtain ⟨x5, hux5⟩ : ∃ z_ : Int, (uniZ (varsAll rs))[i]? = some z_ := ⟨_, List.getElem?_eq_getElem (by omega)⟩
     refine rSeq fam0ok 8 [(0, .gen _ _ _ fun _ _ _ _ => Op.idxO (d := 31) (t := 27) (k := .i64) (n := 0) (len := (uniZ (varsAll rs)).length) (i := i) tb_1 (by first | omega | (simp at *; omega)) (OV.tmp 29 _)), (1, .gen _ _ _ fun _ _ _ _ => Op.loadR_c (d := 32) (t := 31) (n := 0) (i := i) (fo := 0) (rty := 3) (es := 1) (x := (.raw (.int .i64 x5))) tl_7 rfl (map_at (comR_at hux5) (f := intD)) rfl)] [(0, .t (.c (.d (.sl 4 (rs.map RelD.d))))), (2, vi .i64 v), (3, vb e), (7, vi .i64 b), (9, vi .i64 x5), (27, .t (.c (.own 0 (uniZ (varsAll rs)).length))), (28, vi .i64 ((uniZ (varsAll rs)).length : Int)), (29, vi .i64 (i : Int))] [(0, .row 3 1 ((comR (sortZ (varsAll rs))).map intD))] (by kernel_rfl) h ?_; clear h; intro a w h
     have hcs6 := cost_le hrs x5
     have nlx := lows_len hrs x5
     have nhx := highs_len hrs x5
     refine rSeq fam0ok 8 [(2, .call (Ssplit rs x5 hrs) hb_15)] [(0, .t (.c (.d (.sl 4 (rs.map RelD.d))))), (2, vi .i64 v), (3, vb e), (7, vi .i64 b), (9, vi .i64 x5), (10, vp 8 0), (27, .t (.c (.own 0 (uniZ (varsAll rs)).length))), (28, vi .i64 ((uniZ (varsAll rs)).length : Int)), (29, vi .i64 (i : Int))] [(0, .row 3 1 ((comR (sortZ (varsAll rs))).map intD)), (8, .box [.d (.sl 5 ((lowsOf rs x5).map SideD.d)), .d (.sl 5 ((highsOf rs x5).map SideD.d)), .d (.sl 4 ((othersOf rs x5).map RelD.d))])] (by kernel_rfl) h ?_; clear h; intro a w h
     refine rSeq fam0ok 9 [(1, .call (SExact (splitS rs x5) (lows_ok hrs x5) (highs_ok hrs x5) (Nat.le_trans (lows_len hrs x5) (by decide)) (Nat.le_trans (highs_len hrs x5) (by decide))) hv_9), (4, .len (c := (.d (.sl 5 ((lowsOf rs x5).map SideD.d)))) (n := (lowsOf rs x5).length) (lenC_map _ _ _)), (7, .len (c := (.d (.sl 5 ((highsOf rs x5).map SideD.d)))) (n := (highsOf rs x5).length) (lenC_map _ _ _)), (8, .gen _ _ _ fun _ _ _ _ => Op.arith (op := .mul) (d := 44) (xt := 3) (yt := 3) (k := .i64) (m := ((lowsOf rs x5).length : Int)) (n := ((highsOf rs x5).length : Int)) (r := (((lowsOf rs x5).length * (highsOf rs x5).length : Nat) : Int)) (OV.tmp 40 _) (OV.tmp 43 _) (.inr (.inr ⟨rfl, (Int.natCast_mul _ _)⟩)) (i64_id (by omega) (by omega)))] [(0, .t (.c (.d (.sl 4 (rs.map RelD.d))))), (2, vi .i64 v), (3, vb e), (7, vi .i64 b), (9, vi .i64 x5), (11, vb (exactS (splitS rs x5))), (12, vi .i64 (((lowsOf rs x5).length * (highsOf rs x5).length : Nat) : Int)), (27, .t (.c (.own 0 (uniZ (varsAll rs)).length))), (28, vi .i64 ((uniZ (varsAll rs)).length : Int)), (29, vi .i64 (i : Int))] [(0, .row 3 1 ((comR (sortZ (varsAll rs))).map intD))] (by kernel_rfl) h ?_; clear h; intro a w h
     rcases Bool.eq_false_or_eq_true (decide (v < 0)) with hc | hc
     ·have hc4 := hc; clear hc
      have hc4' := of_decide_eq_true hc4
      refine rSeq fam0ok 9 [(1, .cmp (op := .lss) (m := v) (n := 0) (b := true) .i64 hc4)] [(0, .t (.c (.d (.sl 4 (rs.map RelD.d))))), (2, vi .i64 v), (3, vb e), (7, vi .i64 b), (9, vi .i64 x5), (11, vb (exactS (splitS rs x5))), (12, vi .i64 (((lowsOf rs x5).length * (highsOf rs x5).length : Nat) : Int)), (27, .t (.c (.own 0 (uniZ (varsAll rs)).length))), (28, vi .i64 ((uniZ (varsAll rs)).length : Int)), (29, vi .i64 (i : Int)), (63, vb true)] [(0, .row 3 1 ((comR (sortZ (varsAll rs))).map intD))] (by kernel_rfl) h ?_; clear h; intro a w h
      refine condS true h rfl (fun hc => ?_) (fun hc => ?_)
      ·clear hc
       refine rS fam0ok 9 [] [(0, .t (.c (.d (.sl 4 (rs.map RelD.d))))), (2, vi .i64 x5), (3, vb (exactS (splitS rs x5))), (7, vi .i64 (((lowsOf rs x5).length * (highsOf rs x5).length : Nat) : Int)), (27, .t (.c (.own 0 (uniZ (varsAll rs)).length))), (28, vi .i64 ((uniZ (varsAll rs)).length : Int)), (29, vi .i64 (i : Int))] [(0, .row 3 1 ((comR (sortZ (varsAll rs))).map intD))] (by kernel_rfl) h ?_; clear h; intro a w h
       refine block_n ?_
       refine then_n ?_
       refine rS fam0ok 9 [(0, .add .i64 (m := (i : Int)) (n := 1) (i64_id (by omega) (by omega)))] [(0, .t (.c (.d (.sl 4 (rs.map RelD.d))))), (2, vi .i64 x5), (3, vb (exactS (splitS rs x5))), (7, vi .i64 (((lowsOf rs x5).length * (highsOf rs x5).length : Nat) : Int)), (27, .t (.c (.own 0 (uniZ (varsAll rs)).length))), (28, vi .i64 ((uniZ (varsAll rs)).length : Int)), (29, vi .i64 ((i : Int) + 1))] [(0, .row 3 1 ((comR (sortZ (varsAll rs))).map intD))] (by kernel_rfl) h ?_; clear h; intro a w h
       refine then_n ?_
       refine roundS (x := (i, v, e, b)) (y := (i + 1, x5, exactS (splitS rs x5), (((lowsOf rs x5).length * (highsOf rs x5).length : Nat) : Int))) h ?_ ?_ (by kernel_rfl) (by kernel_rfl)
       ·have := at_lt hux5
        refine ⟨by omega, ?_⟩
        rw [fold_at hux5, hI2]
        show stepCh rs (v, e, b) x5 = (x5, exactS (splitS rs x5), (((lowsOf rs x5).length * (highsOf rs x5).length : Nat) : Int))
        unfold stepCh
        have q1 := hc4
        cases he : e <;> cases hn : exactS (splitS rs x5) <;> simp_all <;> (first | omega | (intro hq; omega))
       ·show (uniZ (varsAll rs)).length - (i + 1) < (uniZ (varsAll rs)).length - i
        have := at_lt hux5; omega
      ·cases hc
     ·have hc5 := hc; clear hc
      have hc5' := of_decide_eq_false hc5
      rcases Bool.eq_false_or_eq_true (exactS (splitS rs x5)) with hc | hc
      ·have hc6 := hc; clear hc
       rw [hc6] at h
       rcases Bool.eq_false_or_eq_true e with hc | hc
       ·have hc7 := hc; clear hc
        rw [hc7] at h
        refine rSeq fam0ok 9 [(1, .cmp (op := .lss) (m := v) (n := 0) (b := false) .i64 hc5), (12, .cmpb .eql (m := true) (n := true) (b := true) (.inl ⟨rfl, (show (true == true) = true from rfl).symm⟩))] [(0, .t (.c (.d (.sl 4 (rs.map RelD.d))))), (2, vi .i64 v), (3, vb true), (7, vi .i64 b), (9, vi .i64 x5), (11, vb true), (12, vi .i64 (((lowsOf rs x5).length * (highsOf rs x5).length : Nat) : Int)), (27, .t (.c (.own 0 (uniZ (varsAll rs)).length))), (28, vi .i64 ((uniZ (varsAll rs)).length : Int)), (29, vi .i64 (i : Int)), (63, vb (decide ((((lowsOf rs x5).length * (highsOf rs x5).length : Nat) : Int) < b)))] [(0, .row 3 1 ((comR (sortZ (varsAll rs))).map intD))] (by kernel_rfl) h ?_; clear h; intro a w h
        refine condS (decide ((((lowsOf rs x5).length * (highsOf rs x5).length : Nat) : Int) < b)) h rfl (fun hc => ?_) (fun hc => ?_)
        ·have hc8 := hc; clear hc
         have hc8' := of_decide_eq_true hc8
         refine rS fam0ok 9 [] [(0, .t (.c (.d (.sl 4 (rs.map RelD.d))))), (2, vi .i64 x5), (3, vb true), (7, vi .i64 (((lowsOf rs x5).length * (highsOf rs x5).length : Nat) : Int)), (27, .t (.c (.own 0 (uniZ (varsAll rs)).length))), (28, vi .i64 ((uniZ (varsAll rs)).length : Int)), (29, vi .i64 (i : Int))] [(0, .row 3 1 ((comR (sortZ (varsAll rs))).map intD))] (by kernel_rfl) h ?_; clear h; intro a w h
         refine block_n ?_
         refine then_n ?_
         refine rS fam0ok 9 [(0, .add .i64 (m := (i : Int)) (n := 1) (i64_id (by omega) (by omega)))] [(0, .t (.c (.d (.sl 4 (rs.map RelD.d))))), (2, vi .i64 x5), (3, vb true), (7, vi .i64 (((lowsOf rs x5).length * (highsOf rs x5).length : Nat) : Int)), (27, .t (.c (.own 0 (uniZ (varsAll rs)).length))), (28, vi .i64 ((uniZ (varsAll rs)).length : Int)), (29, vi .i64 ((i : Int) + 1))] [(0, .row 3 1 ((comR (sortZ (varsAll rs))).map intD))] (by kernel_rfl) h ?_; clear h; intro a w h
         refine then_n ?_
         refine roundS (x := (i, v, e, b)) (y := (i + 1, x5, true, (((lowsOf rs x5).length * (highsOf rs x5).length : Nat) : Int))) h ?_ ?_ (by kernel_rfl) (by kernel_rfl)
         ·have := at_lt hux5
          refine ⟨by omega, ?_⟩
          rw [fold_at hux5, hI2]
          show stepCh rs (v, e, b) x5 = (x5, true, (((lowsOf rs x5).length * (highsOf rs x5).length : Nat) : Int))
          unfold stepCh
          have q1 := hc5
          have q1 := hc6
          have q1 := hc7
          have q1 := hc8
          cases he : e <;> cases hn : exactS (splitS rs x5) <;> simp_all <;> (first | omega | (intro hq; omega))
         ·show (uniZ (varsAll rs)).length - (i + 1) < (uniZ (varsAll rs)).length - i
          have := at_lt hux5; omega
        ·have hc9 := hc; clear hc
         have hc9' := of_decide_eq_false hc9
         refine wp_skip ?_
         refine block_n ?_
         refine then_n ?_
         refine rS fam0ok 9 [(0, .add .i64 (m := (i : Int)) (n := 1) (i64_id (by omega) (by omega)))] [(0, .t (.c (.d (.sl 4 (rs.map RelD.d))))), (2, vi .i64 v), (3, vb true), (7, vi .i64 b), (27, .t (.c (.own 0 (uniZ (varsAll rs)).length))), (28, vi .i64 ((uniZ (varsAll rs)).length : Int)), (29, vi .i64 ((i : Int) + 1))] [(0, .row 3 1 ((comR (sortZ (varsAll rs))).map intD))] (by kernel_rfl) h ?_; clear h; intro a w h
         refine then_n ?_
         refine roundS (x := (i, v, e, b)) (y := (i + 1, v, true, b)) h ?_ ?_ (by kernel_rfl) (by kernel_rfl)
         ·have := at_lt hux5
          refine ⟨by omega, ?_⟩
          rw [fold_at hux5, hI2]
          show stepCh rs (v, e, b) x5 = (v, true, b)
          unfold stepCh
          have q1 := hc5
          have q1 := hc6
          have q1 := hc7
          have q1 := hc9
          cases he : e <;> cases hn : exactS (splitS rs x5) <;> simp_all <;> (first | omega | (intro hq; omega))
         ·show (uniZ (varsAll rs)).length - (i + 1) < (uniZ (varsAll rs)).length - i
          have := at_lt hux5; omega
       ·have hc10 := hc; clear hc
        rw [hc10] at h
        refine rSeq fam0ok 9 [(1, .cmp (op := .lss) (m := v) (n := 0) (b := false) .i64 hc5)] [(0, .t (.c (.d (.sl 4 (rs.map RelD.d))))), (2, vi .i64 v), (3, vb false), (7, vi .i64 b), (9, vi .i64 x5), (11, vb true), (12, vi .i64 (((lowsOf rs x5).length * (highsOf rs x5).length : Nat) : Int)), (27, .t (.c (.own 0 (uniZ (varsAll rs)).length))), (28, vi .i64 ((uniZ (varsAll rs)).length : Int)), (29, vi .i64 (i : Int)), (63, vb true)] [(0, .row 3 1 ((comR (sortZ (varsAll rs))).map intD))] (by kernel_rfl) h ?_; clear h; intro a w h
        refine condS true h rfl (fun hc => ?_) (fun hc => ?_)
        ·clear hc
         refine rS fam0ok 9 [] [(0, .t (.c (.d (.sl 4 (rs.map RelD.d))))), (2, vi .i64 x5), (3, vb true), (7, vi .i64 (((lowsOf rs x5).length * (highsOf rs x5).length : Nat) : Int)), (27, .t (.c (.own 0 (uniZ (varsAll rs)).length))), (28, vi .i64 ((uniZ (varsAll rs)).length : Int)), (29, vi .i64 (i : Int))] [(0, .row 3 1 ((comR (sortZ (varsAll rs))).map intD))] (by kernel_rfl) h ?_; clear h; intro a w h
         refine block_n ?_
         refine then_n ?_
         refine rS fam0ok 9 [(0, .add .i64 (m := (i : Int)) (n := 1) (i64_id (by omega) (by omega)))] [(0, .t (.c (.d (.sl 4 (rs.map RelD.d))))), (2, vi .i64 x5), (3, vb true), (7, vi .i64 (((lowsOf rs x5).length * (highsOf rs x5).length : Nat) : Int)), (27, .t (.c (.own 0 (uniZ (varsAll rs)).length))), (28, vi .i64 ((uniZ (varsAll rs)).length : Int)), (29, vi .i64 ((i : Int) + 1))] [(0, .row 3 1 ((comR (sortZ (varsAll rs))).map intD))] (by kernel_rfl) h ?_; clear h; intro a w h
         refine then_n ?_
         refine roundS (x := (i, v, e, b)) (y := (i + 1, x5, true, (((lowsOf rs x5).length * (highsOf rs x5).length : Nat) : Int))) h ?_ ?_ (by kernel_rfl) (by kernel_rfl)
         ·have := at_lt hux5
          refine ⟨by omega, ?_⟩
          rw [fold_at hux5, hI2]
          show stepCh rs (v, e, b) x5 = (x5, true, (((lowsOf rs x5).length * (highsOf rs x5).length : Nat) : Int))
          unfold stepCh
          have q1 := hc5
          have q1 := hc6
          have q1 := hc10
          cases he : e <;> cases hn : exactS (splitS rs x5) <;> simp_all <;> (first | omega | (intro hq; omega))
         ·show (uniZ (varsAll rs)).length - (i + 1) < (uniZ (varsAll rs)).length - i
          have := at_lt hux5; omega
        ·cases hc
      ·have hc11 := hc; clear hc
       rw [hc11] at h
       rcases Bool.eq_false_or_eq_true (false == e) with hc | hc
       ·have hc12 := hc; clear hc
        have hc12' := hc12; (try simp at hc12')
        refine rSeq fam0ok 9 [(1, .cmp (op := .lss) (m := v) (n := 0) (b := false) .i64 hc5), (12, .cmpb .eql (m := false) (n := e) (b := true) (.inl ⟨rfl, hc12.symm⟩))] [(0, .t (.c (.d (.sl 4 (rs.map RelD.d))))), (2, vi .i64 v), (3, vb e), (7, vi .i64 b), (9, vi .i64 x5), (11, vb false), (12, vi .i64 (((lowsOf rs x5).length * (highsOf rs x5).length : Nat) : Int)), (27, .t (.c (.own 0 (uniZ (varsAll rs)).length))), (28, vi .i64 ((uniZ (varsAll rs)).length : Int)), (29, vi .i64 (i : Int)), (63, vb (decide ((((lowsOf rs x5).length * (highsOf rs x5).length : Nat) : Int) < b)))] [(0, .row 3 1 ((comR (sortZ (varsAll rs))).map intD))] (by kernel_rfl) h ?_; clear h; intro a w h
        refine condS (decide ((((lowsOf rs x5).length * (highsOf rs x5).length : Nat) : Int) < b)) h rfl (fun hc => ?_) (fun hc => ?_)
        ·have hc13 := hc; clear hc
         have hc13' := of_decide_eq_true hc13
         refine rS fam0ok 9 [] [(0, .t (.c (.d (.sl 4 (rs.map RelD.d))))), (2, vi .i64 x5), (3, vb false), (7, vi .i64 (((lowsOf rs x5).length * (highsOf rs x5).length : Nat) : Int)), (27, .t (.c (.own 0 (uniZ (varsAll rs)).length))), (28, vi .i64 ((uniZ (varsAll rs)).length : Int)), (29, vi .i64 (i : Int))] [(0, .row 3 1 ((comR (sortZ (varsAll rs))).map intD))] (by kernel_rfl) h ?_; clear h; intro a w h
         refine block_n ?_
         refine then_n ?_
         refine rS fam0ok 9 [(0, .add .i64 (m := (i : Int)) (n := 1) (i64_id (by omega) (by omega)))] [(0, .t (.c (.d (.sl 4 (rs.map RelD.d))))), (2, vi .i64 x5), (3, vb false), (7, vi .i64 (((lowsOf rs x5).length * (highsOf rs x5).length : Nat) : Int)), (27, .t (.c (.own 0 (uniZ (varsAll rs)).length))), (28, vi .i64 ((uniZ (varsAll rs)).length : Int)), (29, vi .i64 ((i : Int) + 1))] [(0, .row 3 1 ((comR (sortZ (varsAll rs))).map intD))] (by kernel_rfl) h ?_; clear h; intro a w h
         refine then_n ?_
         refine roundS (x := (i, v, e, b)) (y := (i + 1, x5, false, (((lowsOf rs x5).length * (highsOf rs x5).length : Nat) : Int))) h ?_ ?_ (by kernel_rfl) (by kernel_rfl)
         ·have := at_lt hux5
          refine ⟨by omega, ?_⟩
          rw [fold_at hux5, hI2]
          show stepCh rs (v, e, b) x5 = (x5, false, (((lowsOf rs x5).length * (highsOf rs x5).length : Nat) : Int))
          unfold stepCh
          have q1 := hc5
          have q1 := hc11
          have q1 := hc12
          have q1 := hc13
          cases he : e <;> cases hn : exactS (splitS rs x5) <;> simp_all <;> (first | omega | (intro hq; omega))
         ·show (uniZ (varsAll rs)).length - (i + 1) < (uniZ (varsAll rs)).length - i
          have := at_lt hux5; omega
        ·have hc14 := hc; clear hc
         have hc14' := of_decide_eq_false hc14
         refine wp_skip ?_
         refine block_n ?_
         refine then_n ?_
         refine rS fam0ok 9 [(0, .add .i64 (m := (i : Int)) (n := 1) (i64_id (by omega) (by omega)))] [(0, .t (.c (.d (.sl 4 (rs.map RelD.d))))), (2, vi .i64 v), (3, vb e), (7, vi .i64 b), (27, .t (.c (.own 0 (uniZ (varsAll rs)).length))), (28, vi .i64 ((uniZ (varsAll rs)).length : Int)), (29, vi .i64 ((i : Int) + 1))] [(0, .row 3 1 ((comR (sortZ (varsAll rs))).map intD))] (by kernel_rfl) h ?_; clear h; intro a w h
         refine then_n ?_
         refine roundS (x := (i, v, e, b)) (y := (i + 1, v, e, b)) h ?_ ?_ (by kernel_rfl) (by kernel_rfl)
         ·have := at_lt hux5
          refine ⟨by omega, ?_⟩
          rw [fold_at hux5, hI2]
          show stepCh rs (v, e, b) x5 = (v, e, b)
          unfold stepCh
          have q1 := hc5
          have q1 := hc11
          have q1 := hc12
          have q1 := hc14
          cases he : e <;> cases hn : exactS (splitS rs x5) <;> simp_all <;> (first | omega | (intro hq; omega))
         ·show (uniZ (varsAll rs)).length - (i + 1) < (uniZ (varsAll rs)).length - i
          have := at_lt hux5; omega
       ·have hc15 := hc; clear hc
        have hc15' := hc15; (try simp at hc15')
        refine rSeq fam0ok 9 [(1, .cmp (op := .lss) (m := v) (n := 0) (b := false) .i64 hc5), (12, .cmpb .eql (m := false) (n := e) (b := false) (.inl ⟨rfl, hc15.symm⟩))] [(0, .t (.c (.d (.sl 4 (rs.map RelD.d))))), (2, vi .i64 v), (3, vb e), (7, vi .i64 b), (9, vi .i64 x5), (11, vb false), (12, vi .i64 (((lowsOf rs x5).length * (highsOf rs x5).length : Nat) : Int)), (27, .t (.c (.own 0 (uniZ (varsAll rs)).length))), (28, vi .i64 ((uniZ (varsAll rs)).length : Int)), (29, vi .i64 (i : Int)), (63, vb false)] [(0, .row 3 1 ((comR (sortZ (varsAll rs))).map intD))] (by kernel_rfl) h ?_; clear h; intro a w h
        refine condS false h rfl (fun hc => ?_) (fun hc => ?_)
        ·cases hc
        ·clear hc
         refine wp_skip ?_
         refine block_n ?_
         refine then_n ?_
         refine rS fam0ok 9 [(0, .add .i64 (m := (i : Int)) (n := 1) (i64_id (by omega) (by omega)))] [(0, .t (.c (.d (.sl 4 (rs.map RelD.d))))), (2, vi .i64 v), (3, vb e), (7, vi .i64 b), (27, .t (.c (.own 0 (uniZ (varsAll rs)).length))), (28, vi .i64 ((uniZ (varsAll rs)).length : Int)), (29, vi .i64 ((i : Int) + 1))] [(0, .row 3 1 ((comR (sortZ (varsAll rs))).map intD))] (by kernel_rfl) h ?_; clear h; intro a w h
         refine then_n ?_
         refine roundS (x := (i, v, e, b)) (y := (i + 1, v, e, b)) h ?_ ?_ (by kernel_rfl) (by kernel_rfl)
         ·have := at_lt hux5
          refine ⟨by omega, ?_⟩
          rw [fold_at hux5, hI2]
          show stepCh rs (v, e, b) x5 = (v, e, b)
          unfold stepCh
          have q1 := hc5
          have q1 := hc11
          have q1 := hc15
          cases he : e <;> cases hn : exactS (splitS rs x5) <;> simp_all <;> (first | omega | (intro hq; omega))
         ·show (uniZ (varsAll rs)).length - (i + 1) < (uniZ (varsAll rs)).length - i
          have := at_lt hux5; omega
    ·have hc16 := hc; clear hc
     have hc16' := of_decide_eq_false hc16
     refine wp_exit ?_
     refine then_x ?_
     refine then_x ?_
     refine inBlock_exit ?_
     refine then_n ?_
     refine rSeq fam0ok 9 [] [(2, vi .i64 v), (3, vb e)] [] (by kernel_rfl) h ?_; clear h; intro a w h
     refine wp_ret ?_
     refine retS [.c (.d (.raw (.int .i64 v))), .c (.d (.raw (.bool e)))] h Exit.ret (.inl rfl)  rfl ⟨RV.tmp _ _ rfl, RV.tmp _ _ rfl, trivial⟩ ?_ (by kernel_rfl) (by kernel_rfl)
     have hz : chooseSt rs = (v, e, b) := by unfold chooseSt; rw [← hI2, List.take_of_length_le (by omega)]
     rw [hz]; first | done | rfl
end Go.Proofs.YtoklkfmffmonoaaGreat.S
end
section
namespace Go.Proofs.YtoklkfmffmonoaaGreat.S
open Go.RowKit

theorem hs_3 : Bodied Tryz.prog 16 := Bodied.mk' (by kernel_rfl)
theorem hs_4 : Bodied Tryz.prog 19 := Bodied.mk' (by kernel_rfl)
theorem hs_5 : Bodied Tryz.prog 21 := Bodied.mk' (by kernel_rfl)
abbrev choE : List RelD := [(ofR (-1) [1]), (ofR 0 [(-2), 1])]
theorem choE_ok : RsOk choE := rs2_ok (ofR_ok (-1) [1] (by decide) (by decide) (by decide)) (ofR_ok 0 [(-2), 1] (by decide) (by decide) (by decide))
theorem nilE_ok : RsOk [] := ⟨by decide, fun r hr => by cases hr⟩
theorem uni01 {xs ys : List Int} (h : xs = ys) (hy : ys = [0, 0, 1] ∨ ys = [0, 1, 0, 1]) : uniZ xs = [0, 1] := by
 subst h
 refine uniZ_eq (List.pairwise_cons.2 ⟨fun v hv => by rw [List.mem_singleton.1 hv]; decide, List.pairwise_singleton _ _⟩) fun v => ?_
 rcases hy with h | h <;> rw [h] <;> simp <;> omega
theorem cv1 : varsAll choE = [0, 0, 1] := by kernel_rfl
theorem cv2 : varsAll hardE = [0, 1, 0, 1] := by kernel_rfl
theorem ch1 : (chooseSt choE).1 = 1 ∧ (chooseSt choE).2.1 = true := by
 unfold chooseSt; rw [uni01 cv1 (.inl rfl)]
 exact ⟨by kernel_rfl, by kernel_rfl⟩
theorem ch2 : (chooseSt hardE).1 = 1 ∧ (chooseSt hardE).2.1 = true := by
 unfold chooseSt; rw [uni01 cv2 (.inr rfl)]
 exact ⟨by kernel_rfl, by kernel_rfl⟩
theorem ch3 : (chooseSt []).1 = -1 ∧ (chooseSt []).2.1 = false := by
 unfold chooseSt; rw [show varsAll ([] : List RelD) = [] from rfl, uniZ_eq (xs := []) (ys := []) List.Pairwise.nil fun v => Iff.rfl]
 exact ⟨rfl, rfl⟩
abbrev realE : RelD := ofR 2 [0, (-1)]
abbrev darkE : RelD := ofR 0 [0, (-1)]
theorem re1 : eachS brightT hardE 0 = [realE] := by kernel_rfl
theorem re2 : eachS darkT hardE 0 = [darkE] := by kernel_rfl
theorem ofR_rk (k : Int) (cs : List Int) (hk : -1000 ≤ k ∧ k ≤ 1000) (hc : ∀ c ∈ cs, -1000 ≤ c ∧ c ≤ 1000) (hl : cs.length ≤ 20) : RkOk (ofR k cs) := RkOk.of (ofR_ok k cs hk hc hl) (by decide) (by decide)
set_option maxHeartbeats 4000000 in
theorem SShading  : Fn Tryz.prog 15 [] [] (vb true) [] := by
 refine Fn.body Tryz.func15 rfl 81 rfl fun w H B a h => ?_
 refine rSeq fam0ok 0 [] [(0, vb false)] [] (by kernel_rfl) h ?_; clear h; intro a w h
 refine rSeq fam0ok 0 [(0, .gen _ _ _ fun _ _ _ _ => Op.buildD (d := 11) (len := 1) (rows := [1].map intD) (rs := []) to_1 (.cons (i := 0) (OV.const (.int .i64 1) rfl) (.nil)) (by kernel_rfl) rfl (by simp [intD]) (by decide) (by decide)), (1, .call (SofR (-1) [1] (by decide) (by decide) (by decide)) he_6), (2, .gen _ _ _ fun _ _ _ _ => Op.buildD (d := 13) (len := 2) (rows := [(-2), 1].map intD) (rs := []) to_1 (.cons (i := 0) (OV.const (.int .i64 (-2)) rfl) (.cons (i := 1) (OV.const (.int .i64 1) rfl) (.nil))) (by kernel_rfl) rfl (by simp [intD]) (by decide) (by decide)), (3, .call (SofR 0 [(-2), 1] (by decide) (by decide) (by decide)) he_6), (4, .gen _ _ _ fun _ _ _ _ => Op.buildD (d := 15) (len := 2) (rows := [(ofR (-1) [1]), (ofR 0 [(-2), 1])].map RelD.d) (rs := [(12, .t (.agg ([.d (.sl 3 ((ofR (-1) [1]).t.parts.map Part.d))] ++ zi (ofR (-1) [1]).t.k ++ [.d (.raw (.bool (ofR (-1) [1]).eq))]))), (14, .t (.agg ([.d (.sl 3 ((ofR 0 [(-2), 1]).t.parts.map Part.d))] ++ zi (ofR 0 [(-2), 1]).t.k ++ [.d (.raw (.bool (ofR 0 [(-2), 1]).eq))])))]) kc_5 (.cons (i := 0) (OV.tmp 12 _) (.cons (i := 1) (OV.tmp 14 _) (.nil))) (by kernel_rfl) rfl (by simp [RelD.d]) (by decide) (by decide))] [(0, vb false), (1, .t (.c (.d (.sl 4 ([(ofR (-1) [1]), (ofR 0 [(-2), 1])].map RelD.d)))))] [] (by kernel_rfl) h ?_; clear h; intro a w h
 refine rSeq fam0ok 0 [(0, .gen _ _ _ fun _ _ _ _ => Op.buildD (d := 16) (len := 2) (rows := [2, (-1)].map intD) (rs := []) to_1 (.cons (i := 0) (OV.const (.int .i64 2) rfl) (.cons (i := 1) (OV.const (.int .i64 (-1)) rfl) (.nil))) (by kernel_rfl) rfl (by simp [intD]) (by decide) (by decide)), (1, .call (SofR 0 [2, (-1)] (by decide) (by decide) (by decide)) he_6), (2, .gen _ _ _ fun _ _ _ _ => Op.buildD (d := 18) (len := 2) (rows := [(-3), 1].map intD) (rs := []) to_1 (.cons (i := 0) (OV.const (.int .i64 (-3)) rfl) (.cons (i := 1) (OV.const (.int .i64 1) rfl) (.nil))) (by kernel_rfl) rfl (by simp [intD]) (by decide) (by decide)), (3, .call (SofR 1 [(-3), 1] (by decide) (by decide) (by decide)) he_6), (4, .gen _ _ _ fun _ _ _ _ => Op.buildD (d := 20) (len := 2) (rows := [(ofR 0 [2, (-1)]), (ofR 1 [(-3), 1])].map RelD.d) (rs := [(17, .t (.agg ([.d (.sl 3 ((ofR 0 [2, (-1)]).t.parts.map Part.d))] ++ zi (ofR 0 [2, (-1)]).t.k ++ [.d (.raw (.bool (ofR 0 [2, (-1)]).eq))]))), (19, .t (.agg ([.d (.sl 3 ((ofR 1 [(-3), 1]).t.parts.map Part.d))] ++ zi (ofR 1 [(-3), 1]).t.k ++ [.d (.raw (.bool (ofR 1 [(-3), 1]).eq))])))]) kc_5 (.cons (i := 0) (OV.tmp 17 _) (.cons (i := 1) (OV.tmp 19 _) (.nil))) (by kernel_rfl) rfl (by simp [RelD.d]) (by decide) (by decide))] [(0, vb false), (1, .t (.c (.d (.sl 4 ([(ofR (-1) [1]), (ofR 0 [(-2), 1])].map RelD.d))))), (2, .t (.c (.d (.sl 4 ([(ofR 0 [2, (-1)]), (ofR 1 [(-3), 1])].map RelD.d)))))] [] (by kernel_rfl) h ?_; clear h; intro a w h
 refine rSeq fam0ok 0 [(1, .call (Fn.cast (SChoose choE choE_ok) (show (.tup [.c (.d (.raw (.int .i64 (chooseSt choE).1))), .c (.d (.raw (.bool (chooseSt choE).2.1)))] : V) = .tup [.c (.d (.raw (.int .i64 1))), .c (.d (.raw (.bool true)))] from by rw [ch1.1, ch1.2])) hs_3)] [(0, vb false), (2, .t (.c (.d (.sl 4 ([(ofR 0 [2, (-1)]), (ofR 1 [(-3), 1])].map RelD.d))))), (3, vi .i64 1), (4, vb true)] [] (by kernel_rfl) h ?_; clear h; intro a w h
 refine rSeq fam0ok 0 [(1, .call (Fn.cast (SChoose hardE hardE_ok) (show (.tup [.c (.d (.raw (.int .i64 (chooseSt hardE).1))), .c (.d (.raw (.bool (chooseSt hardE).2.1)))] : V) = .tup [.c (.d (.raw (.int .i64 1))), .c (.d (.raw (.bool true)))] from by rw [ch2.1, ch2.2])) hs_3)] [(0, vb false), (2, .t (.c (.d (.sl 4 ([(ofR 0 [2, (-1)]), (ofR 1 [(-3), 1])].map RelD.d))))), (3, vi .i64 1), (4, vb true), (5, vi .i64 1), (6, vb true)] [] (by kernel_rfl) h ?_; clear h; intro a w h
 refine rSeq fam0ok 0 [(1, .call (Fn.cast (SSReal hardE 0 hardE_ok) (show (.t (.c (.d (.sl 4 ((eachS brightT hardE 0).map RelD.d)))) : V) = .t (.c (.d (.sl 4 ([realE].map RelD.d)))) from by rw [re1])) hs_4), (3, .call (Fn.cast (SSDark hardE 0 hardE_ok) (show (.t (.c (.d (.sl 4 ((eachS darkT hardE 0).map RelD.d)))) : V) = .t (.c (.d (.sl 4 ([darkE].map RelD.d)))) from by rw [re2])) hs_5)] [(0, vb false), (3, vi .i64 1), (4, vb true), (5, vi .i64 1), (6, vb true), (7, .t (.c (.d (.sl 4 ([realE].map RelD.d))))), (8, .t (.c (.d (.sl 4 ([darkE].map RelD.d)))))] [] (by kernel_rfl) h ?_; clear h; intro a w h
 refine rSeq fam0ok 0 [(0, .call (Fn.argw (Fn.cast (SChoose ([] : List RelD) nilE_ok) (show (.tup [.c (.d (.raw (.int .i64 (chooseSt ([] : List RelD)).1))), .c (.d (.raw (.bool (chooseSt ([] : List RelD)).2.1)))] : V) = .tup [.c (.d (.raw (.int .i64 (-1)))), .c (.d (.raw (.bool false)))] from by rw [ch3.1, ch3.2])) (.cons _ _ _ _ (.c _ _ (.nil _)) .nil)) hs_3)] [(0, vb false), (3, vi .i64 1), (4, vb true), (5, vi .i64 1), (6, vb true), (7, .t (.c (.d (.sl 4 ([realE].map RelD.d))))), (8, .t (.c (.d (.sl 4 ([darkE].map RelD.d))))), (9, vi .i64 (-1))] [] (by kernel_rfl) h ?_; clear h; intro a w h
 refine rSeq fam0ok 0 [(1, .cmp (op := .eql) (m := 1) (n := 1) (b := true) .i64 (show ((1 : Int) == 1) = true from rfl)), (7, .cmp (op := .eql) (m := 1) (n := 1) (b := true) .i64 (show ((1 : Int) == 1) = true from rfl)), (14, .len (c := (.d (.sl 4 ([realE].map RelD.d)))) (n := [realE].length) (lenC_map _ _ _)), (15, .cmp (op := .eql) (m := ([realE].length : Int)) (n := 1) (b := true) .i64 (show (([realE].length : Int) == 1) = true from rfl)), (19, .gen _ _ _ fun _ _ _ _ => Op.idxD (d := 58) (t := 57) (k := .i64) kc_3 (map_at (show ([realE] : List RelD)[0]? = some realE from rfl) (f := RelD.d)) (OV.const (.int .i64 0) rfl)), (21, .gen _ _ _ fun _ _ _ _ => Op.buildD (d := 60) (len := 2) (rows := [0, (-1)].map intD) (rs := []) to_1 (.cons (i := 0) (OV.const (.int .i64 0) rfl) (.cons (i := 1) (OV.const (.int .i64 (-1)) rfl) (.nil))) (by kernel_rfl) rfl (by simp [intD]) (by decide) (by decide)), (22, .call (SofR 2 [0, (-1)] (by decide) (by decide) (by decide)) he_6), (23, .call (SR4Same realE (ofR_rk 2 [0, (-1)] (by decide) (by decide) (by decide))) hg_5), (27, .len (c := (.d (.sl 4 ([darkE].map RelD.d)))) (n := [darkE].length) (lenC_map _ _ _)), (28, .cmp (op := .eql) (m := ([darkE].length : Int)) (n := 1) (b := true) .i64 (show (([darkE].length : Int) == 1) = true from rfl)), (32, .gen _ _ _ fun _ _ _ _ => Op.idxD (d := 71) (t := 70) (k := .i64) kc_3 (map_at (show ([darkE] : List RelD)[0]? = some darkE from rfl) (f := RelD.d)) (OV.const (.int .i64 0) rfl)), (34, .gen _ _ _ fun _ _ _ _ => Op.buildD (d := 73) (len := 2) (rows := [0, (-1)].map intD) (rs := []) to_1 (.cons (i := 0) (OV.const (.int .i64 0) rfl) (.cons (i := 1) (OV.const (.int .i64 (-1)) rfl) (.nil))) (by kernel_rfl) rfl (by simp [intD]) (by decide) (by decide)), (35, .call (SofR 0 [0, (-1)] (by decide) (by decide) (by decide)) he_6), (36, .call (SR4Same darkE (ofR_rk 0 [0, (-1)] (by decide) (by decide) (by decide))) hg_5), (40, .cmp (op := .eql) (m := (-1)) (n := (-1)) (b := true) .i64 (show (((-1) : Int) == (-1)) = true from rfl))] [(0, vb true)] [] (by kernel_rfl) h ?_; clear h; intro a w h
 refine wp_ret ?_
 refine retS [.c (.d (.raw (.bool true)))] h Exit.ret (.inl rfl)  rfl ⟨RV.tmp _ _ rfl, trivial⟩ ?_ (by kernel_rfl) (by kernel_rfl)
 rfl
end Go.Proofs.YtoklkfmffmonoaaGreat.S
end
section
namespace Go.Proofs.YtoklkfmffmonoaaGreat.S
open Go.RowKit

def cR (v : Int) (r : RelD) : Int := coefZ r.t.parts v
def roR (v : Int) (vs : List ZI) (r : RelD) : Int := valT (woT r.t v) vs
def HoldAt (rs : List RelD) (v : Int) (vs : List ZI) (X : Int) : Prop := ∀ r ∈ rs, 0 ≤ roR v vs r + cR v r * X

theorem relOk_le {vs : List ZI} {r : RelD} (h : r.eq = false) : relOk vs r = decide (0 ≤ valT r.t vs) := by
 unfold relOk
 rw [if_neg (by rw [h]; exact Bool.noConfusion)]
 refine decide_eq_decide.2 ⟨fun e => ?_, fun e => ?_⟩
 ·have := mt (sgn_lt_zero (z := valT r.t vs)).2 (by omega); omega
 ·have := mt (sgn_lt_zero (z := valT r.t vs)).1 (by omega); omega
theorem val_wo (t : Term) (v : Int) (vs : List ZI) : valT (woT t v) vs = t.k.val + valP vs (t.parts.filter fun p => !isVar v p) := by
 unfold woT; rw [val_plain]; rfl
theorem valP_split (vs : List ZI) {v : Int} (hv : 0 ≤ v) : ∀ ps : List Part, valP vs ps = valP vs (ps.filter fun p => !isVar v p) + coefZ ps v * valAt vs v
 | [] => by simp [valP, coefZ]
 | p :: ps => by
  have ih := valP_split vs hv ps
  rw [List.filter_cons]
  by_cases h : p.v = v
  ·have hb : (!isVar v p) = false := by unfold isVar; simp [h]
   rw [if_neg (by rw [hb]; exact Bool.noConfusion)]
   simp only [valP, coefZ]
   rw [if_pos ⟨h, hv⟩, h, Int.add_mul, ih]; omega
  ·have hb : (!isVar v p) = true := by unfold isVar; simpa using h
   rw [if_pos hb]
   simp only [valP, coefZ]
   rw [if_neg (fun e => h e.1), Int.zero_add, ih]; omega
theorem val_split (t : Term) {v : Int} (hv : 0 ≤ v) (vs : List ZI) : valT t vs = valT (woT t v) vs + coefZ t.parts v * valAt vs v := by
 rw [val_wo, valT, valP_split vs hv]; omega
theorem ext0_get {vs : List ZI} {n k : Nat} (hk : k < vs.length) : (ext0 vs n)[k]? = vs[k]? := by unfold ext0; rw [List.getElem?_append_left hk]
theorem ext0_len {vs : List ZI} {n : Nat} : (ext0 vs n).length = max vs.length n := by unfold ext0; rw [List.length_append, List.length_replicate]; omega
theorem with_at (vs : List ZI) (v : Nat) (x : ZI) : valAt (withV vs v x) (v : Int) = x.val := by
 have hl : v < (ext0 vs (v + 1)).length := by rw [ext0_len]; omega
 unfold valAt withV
 rw [if_pos (by omega), Int.toNat_natCast, List.getElem?_set_self hl]; rfl
theorem with_ne (vs : List ZI) (v : Nat) (x : ZI) {w : Int} (h : w ≠ (v : Int)) : valAt (withV vs v x) w = valAt vs w := by
 unfold valAt
 by_cases h0 : 0 ≤ w
 ·rw [if_pos h0, if_pos h0]
  unfold withV
  rw [List.getElem?_set_ne (by omega)]
  by_cases hk : w.toNat < vs.length
  ·rw [ext0_get hk]
  ·rw [List.getElem?_eq_none (l := vs) (by omega)]
   unfold ext0
   rw [List.getElem?_append_right (by omega), List.getElem?_replicate]
   split
   ·show (ZI.of 0).val = _; rw [ZI.val_of]; rfl
   ·rfl
 ·rw [if_neg h0, if_neg h0]
theorem valP_with (vs : List ZI) (v : Nat) (x : ZI) : ∀ ps : List Part, (∀ p ∈ ps, p.v ≠ (v : Int)) → valP (withV vs v x) ps = valP vs ps
 | [], _ => rfl
 | p :: ps, h => by
  rw [valP, valP, with_ne vs v x (h p (List.mem_cons_self ..)), valP_with vs v x ps fun q hq => h q (List.mem_cons_of_mem _ hq)]
theorem wo_with (t : Term) (vs : List ZI) (v : Nat) (x : ZI) : valT (woT t v) (withV vs v x) = valT (woT t v) vs := by
 rw [val_wo, val_wo, valP_with vs v x _ fun p hp => by
  have := (List.mem_filter.1 hp).2
  unfold isVar at this; simpa using this]
theorem val_with (t : Term) (vs : List ZI) (v : Nat) (x : ZI) : valT t (withV vs v x) = valT (woT t v) vs + coefZ t.parts v * x.val := by
 rw [val_split t (v := (v : Int)) (by omega) (withV vs v x), wo_with, with_at]
theorem all_with {rs : List RelD} {v : Nat} {vs : List ZI} {x : ZI} (he : ∀ r ∈ rs, r.eq = false) : allR rs (withV vs v x) = true ↔ HoldAt rs v vs x.val := by
 unfold allR HoldAt
 rw [List.all_eq_true]
 refine ⟨fun h r hr => ?_, fun h r hr => ?_⟩
 ·have := h r hr; rw [relOk_le (he r hr), decide_eq_true_eq, val_with] at this; exact this
 ·rw [relOk_le (he r hr), decide_eq_true_eq, val_with]; exact h r hr
theorem mem_lows {rs : List RelD} {v : Int} {s : SideD} : s ∈ lowsOf rs v ↔ ∃ r ∈ rs, 0 < cR v r ∧ s = sideOf v r := by
 unfold lowsOf cR
 rw [List.mem_flatMap]
 refine ⟨fun ⟨r, hr, hm⟩ => ?_, fun ⟨r, hr, hc, e⟩ => ⟨r, hr, by unfold lowF; rw [if_pos hc, e]; exact List.mem_singleton.2 rfl⟩⟩
 unfold lowF at hm
 split at hm
 ·rename_i hc; exact ⟨r, hr, hc, List.mem_singleton.1 hm⟩
 ·cases hm
theorem mem_highs {rs : List RelD} {v : Int} {s : SideD} : s ∈ highsOf rs v ↔ ∃ r ∈ rs, cR v r < 0 ∧ s = sideOf v r := by
 unfold highsOf cR
 rw [List.mem_flatMap]
 refine ⟨fun ⟨r, hr, hm⟩ => ?_, fun ⟨r, hr, hc, e⟩ => ⟨r, hr, by unfold highF; rw [if_pos hc, e]; exact List.mem_singleton.2 rfl⟩⟩
 unfold highF at hm
 split at hm
 ·rename_i hc; exact ⟨r, hr, hc, List.mem_singleton.1 hm⟩
 ·cases hm
theorem side_times (v : Int) (r : RelD) : (sideOf v r).times.val = ((cR v r).natAbs : Int) := ZI.val_of _
theorem side_rest (v : Int) (r : RelD) (vs : List ZI) : valT (sideOf v r).rest vs = roR v vs r := rfl
theorem ok_lst (t : Term) (vs : List ZI) : relOk vs (lstR t) = decide (0 ≤ valT t vs) := by rw [relOk_le rfl]; show decide (0 ≤ valT (plainT t) vs) = _; rw [val_plain]
theorem each_ok {sh : SideD → SideD → Term} {rs : List RelD} {v : Int} {vs : List ZI} : allR (eachS sh rs v) vs = true ↔ (∀ r ∈ rs, cR v r = 0 → 0 ≤ roR v vs r) ∧ ∀ l ∈ lowsOf rs v, ∀ h ∈ highsOf rs v, 0 ≤ valT (sh l h) vs := by
 unfold allR eachS
 rw [List.all_append, Bool.and_eq_true, List.all_eq_true, List.all_eq_true]
 refine and_congr ⟨fun h r hr hc => ?_, fun h q hq => ?_⟩ ⟨fun h l hl m hm => ?_, fun h q hq => ?_⟩
 ·have := h (lstR r.t) (List.mem_flatMap.2 ⟨r, hr, by unfold othF; rw [if_pos (show coefZ r.t.parts v = 0 from hc)]; exact List.mem_singleton.2 rfl⟩)
  rw [ok_lst, decide_eq_true_eq] at this
  have e : valT (woT r.t v) vs = valT r.t vs := by
   by_cases hv : 0 ≤ v
   ·have h1 := val_split r.t hv vs; unfold cR at hc; rw [hc, Int.zero_mul] at h1; omega
   ·rw [val_wo, valT]
    congr 1
    have : ∀ ps : List Part, valP vs (ps.filter fun p => !isVar v p) = valP vs ps := fun ps => by
     induction ps with
     | nil => rfl
     | cons p ps ih =>
      rw [List.filter_cons]
      split
      ·rw [valP, valP, ih]
      ·rename_i hb
       have hp : p.v = v := by unfold isVar at hb; simpa using hb
       rw [ih, valP, hp, valAt_neg (by omega)]; omega
    exact this _
  unfold roR; rw [e]; exact this
 ·obtain ⟨r, hr, hm⟩ := List.mem_flatMap.1 hq
  unfold othF at hm
  split at hm
  ·rename_i hc
   rw [List.mem_singleton.1 hm, ok_lst, decide_eq_true_eq]
   have h1 := h r hr hc
   unfold roR at h1
   rw [val_wo] at h1
   by_cases hv : 0 ≤ v
   ·rw [val_split r.t hv, val_wo, hc, Int.zero_mul]; omega
   ·rw [valT]
    have : ∀ ps : List Part, valP vs (ps.filter fun p => !isVar v p) = valP vs ps := fun ps => by
     induction ps with
     | nil => rfl
     | cons p ps ih =>
      rw [List.filter_cons]
      split
      ·rw [valP, valP, ih]
      ·rename_i hb
       have hp : p.v = v := by unfold isVar at hb; simpa using hb
       rw [ih, valP, hp, valAt_neg (by omega)]; omega
    rw [this] at h1; exact h1
  ·cases hm
 ·have := h (lstR (sh l m)) (List.mem_flatMap.2 ⟨l, hl, List.mem_map.2 ⟨m, hm, rfl⟩⟩)
  rw [ok_lst, decide_eq_true_eq] at this; exact this
 ·obtain ⟨l, hl, hq2⟩ := List.mem_flatMap.1 hq
  obtain ⟨m, hm, rfl⟩ := List.mem_map.1 hq2
  rw [ok_lst, decide_eq_true_eq]; exact h l hl m hm
theorem val_bright (l h : SideD) (vs : List ZI) : valT (brightT l h) vs = valT h.rest vs * l.times.val + valT l.rest vs * h.times.val := by unfold brightT; rw [val_add, val_scale, val_scale]
theorem val_numT (k : ZI) (vs : List ZI) : valT (numT k) vs = k.val := by simp [valT, numT, valP, ZI.val_of]
theorem val_dark (l h : SideD) (vs : List ZI) : valT (darkT l h) vs = valT (brightT l h) vs - (l.times.val - 1) * (h.times.val - 1) := by unfold darkT; rw [val_sub, val_numT, ZI.val_of]
theorem best_gt (f : SideD → Int) : ∀ (l : List SideD) (m : Int), best gtB f l = some m → (∃ s ∈ l, f s = m) ∧ ∀ s ∈ l, f s ≤ m := by
 suffices h : ∀ (l : List SideD) (m : Int), best gtB f l.reverse = some m → (∃ s ∈ l, f s = m) ∧ ∀ s ∈ l, f s ≤ m by
  intro l m hm
  have := h l.reverse m (by rwa [List.reverse_reverse])
  simpa using this
 intro l
 induction l with
 | nil => intro m h; cases h
 | cons s l ih =>
  intro m h
  rw [List.reverse_cons, best_snoc] at h
  injection h with h
  cases hb : best gtB f l.reverse with
  | none =>
   rw [hb] at h
   have hl : l = [] := by
    have := best_some gtB f l.reverse; rw [hb] at this
    have h0 := (of_decide_eq_false this.symm)
    rw [List.length_reverse] at h0
    exact List.length_eq_zero_iff.1 (by omega)
   subst hl
   exact ⟨⟨s, List.mem_cons_self .., h⟩, fun q hq => by rw [List.mem_singleton.1 hq]; exact Int.le_of_eq h⟩
  | some q =>
   rw [hb] at h
   obtain ⟨⟨s0, h1, h2⟩, h3⟩ := ih q hb
   simp only at h
   by_cases hc : gtB (f s) q = true
   ·rw [if_pos hc] at h; rw [gtB_iff] at hc
    exact ⟨⟨s, List.mem_cons_self .., h⟩, fun p hp => (List.mem_cons.1 hp).elim (fun e => by rw [e]; omega) fun hp => by have := h3 p hp; omega⟩
   ·rw [if_neg hc] at h; rw [gtB_iff] at hc
    exact ⟨⟨s0, List.mem_cons_of_mem _ h1, by omega⟩, fun p hp => (List.mem_cons.1 hp).elim (fun e => by rw [e]; omega) fun hp => by have := h3 p hp; omega⟩
theorem best_lt (f : SideD → Int) (l : List SideD) (m : Int) (h : best ltB f l = some m) : ∀ s ∈ l, m ≤ f s := fun s hs => by
 have h1 := any_best f m l
 rw [h] at h1
 simp only at h1
 have h2 : ltB m m = false := by
  cases hb : ltB m m with
  | false => rfl
  | true => have := ltB_iff.1 hb; omega
 rw [h2] at h1
 have h3 := List.any_eq_false.1 h1 s hs
 rw [ltB_iff] at h3; omega
theorem fdiv_bd {x q : Int} (hq : 0 < q) : q * x.fdiv q ≤ x ∧ x < q * x.fdiv q + q := by
 have h1 := Int.fmod_add_mul_fdiv x q
 have h2 := Int.fmod_nonneg_of_pos x hq
 have h3 := Int.fmod_lt_of_pos x hq
 omega
theorem least_bd {r : RelD} {v : Int} {vs : List ZI} (hc : 0 < cR v r) : 0 ≤ roR v vs r + cR v r * leastZ (sideOf v r) vs ∧ roR v vs r + cR v r * leastZ (sideOf v r) vs < cR v r := by
 unfold leastZ
 rw [side_times, side_rest, Int.neg_neg, show ((cR v r).natAbs : Int) = cR v r by omega, Int.mul_neg]
 have := fdiv_bd (x := roR v vs r) hc
 omega
theorem most_bd {r : RelD} {v : Int} {vs : List ZI} (hc : cR v r < 0) : 0 ≤ roR v vs r + cR v r * mostZ (sideOf v r) vs ∧ roR v vs r + cR v r * mostZ (sideOf v r) vs < -cR v r := by
 unfold mostZ
 rw [side_times, side_rest, show ((cR v r).natAbs : Int) = -cR v r by omega]
 have := fdiv_bd (x := roR v vs r) (show 0 < -cR v r by omega)
 rw [Int.neg_mul] at this
 omega
theorem dark_fits {rs : List RelD} {v : Int} {vs : List ZI} (h : allR (eachS darkT rs v) vs = true) : (fitS (lowsOf rs v) (highsOf rs v) vs).2 = true ∧ HoldAt rs v vs (fitS (lowsOf rs v) (highsOf rs v) vs).1.val := by
  obtain ⟨h0, h1⟩ := each_ok.1 h
  cases hb : best gtB (leastZ · vs) (lowsOf rs v) with
  | some m =>
    obtain ⟨⟨l0, hl0, e0⟩, hm⟩ := best_gt _ _ _ hb
    obtain ⟨r0, hr0, hc0, rfl⟩ := mem_lows.1 hl0
    change leastZ (sideOf v r0) vs = m at e0
    have key : ∀ s ∈ highsOf rs v, m ≤ mostZ s vs := fun s hs => by
      refine Classical.byContradiction fun hlt => ?_
      obtain ⟨r2, hr2, hc2, rfl⟩ := mem_highs.1 hs
      have hd := h1 _ hl0 _ hs
      rw [val_dark, val_bright, side_times, side_times, side_rest, side_rest, show ((cR v r0).natAbs : Int) = cR v r0 by omega, show ((cR v r2).natAbs : Int) = -cR v r2 by omega] at hd
      have b1 := (least_bd (vs := vs) hc0).2; have b2 := (most_bd (vs := vs) hc2).2
      rw [e0] at b1
      generalize hA : cR v r0 = A at *
      generalize hB : -cR v r2 = B at *
      have hB2 : cR v r2 = -B := by omega
      rw [hB2] at b2
      generalize roR v vs r0 = p at *
      generalize roR v vs r2 = q at *
      generalize mostZ (sideOf v r2) vs = M at *
      have hBp : 0 < B := by omega
      -- q ≤ B m - 1, p ≤ A - 1 - A m
      have q1 : q ≤ B * m - 1 := by
        have h2 : B * (M + 1) ≤ B * m := Int.mul_le_mul_of_nonneg_left (by omega) (by omega)
        rw [Int.mul_add, Int.mul_one] at h2
        rw [Int.neg_mul] at b2
        omega
      have p1 : p ≤ A - 1 - A * m := by omega
      have k1 := Int.mul_le_mul_of_nonneg_right q1 (show 0 ≤ A by omega)
      have k2 := Int.mul_le_mul_of_nonneg_right p1 (show 0 ≤ B by omega)
      rw [Int.sub_mul, Int.one_mul] at k1
      rw [Int.sub_mul, Int.sub_mul, Int.one_mul] at k2
      have e1 : B * m * A = A * m * B := by rw [Int.mul_comm B m, Int.mul_assoc, Int.mul_comm B A, ← Int.mul_assoc, Int.mul_comm m A]
      rw [e1] at k1
      rw [Int.sub_mul, Int.mul_sub, Int.mul_one, Int.one_mul] at hd
      omega
    have hf : fitS (lowsOf rs v) (highsOf rs v) vs = (ZI.of m, true) := by
      unfold fitS; rw [hb]; simp only
      rw [if_neg]
      intro e
      obtain ⟨s, hs, e2⟩ := List.any_eq_true.1 e
      have := ltB_iff.1 e2; have := key s hs; omega
    rw [hf]
    refine ⟨rfl, fun r hr => ?_⟩
    show 0 ≤ _ + _ * (ZI.of m).val
    rw [ZI.val_of]
    rcases Int.lt_trichotomy (cR v r) 0 with hc | hc | hc
    · have b := (most_bd (vs := vs) hc).1
      have k := key _ (mem_highs.2 ⟨r, hr, hc, rfl⟩)
      have := Int.mul_le_mul_of_nonneg_left k (show 0 ≤ -cR v r by omega)
      rw [Int.neg_mul, Int.neg_mul] at this
      omega
    · rw [hc, Int.zero_mul, Int.add_zero]; exact h0 r hr hc
    · have b := (least_bd (vs := vs) hc).1
      have k : leastZ (sideOf v r) vs ≤ m := hm _ (mem_lows.2 ⟨r, hr, hc, rfl⟩)
      have := Int.mul_le_mul_of_nonneg_left k (show 0 ≤ cR v r by omega)
      omega
  | none =>
    have hL : lowsOf rs v = [] := by
      have := best_some gtB (leastZ · vs) (lowsOf rs v); rw [hb] at this
      have h2 := of_decide_eq_false this.symm
      exact List.length_eq_zero_iff.1 (by omega)
    have hf : fitS (lowsOf rs v) (highsOf rs v) vs = (ZI.of ((best ltB (mostZ · vs) (highsOf rs v)).getD 0), true) := by unfold fitS; rw [hb]
    rw [hf]
    refine ⟨rfl, fun r hr => ?_⟩
    show 0 ≤ _ + _ * (ZI.of _).val
    rw [ZI.val_of]
    rcases Int.lt_trichotomy (cR v r) 0 with hc | hc | hc
    · have b := (most_bd (vs := vs) hc).1
      have hmem := mem_highs.2 ⟨r, hr, hc, rfl⟩
      cases hq : best ltB (mostZ · vs) (highsOf rs v) with
      | none =>
        have := best_some ltB (mostZ · vs) (highsOf rs v); rw [hq] at this
        have h2 := of_decide_eq_false this.symm
        exact absurd (List.length_pos_of_mem hmem) h2
      | some q =>
        have k : q ≤ mostZ (sideOf v r) vs := best_lt _ _ _ hq _ hmem
        have := Int.mul_le_mul_of_nonneg_left k (show 0 ≤ -cR v r by omega)
        rw [Int.neg_mul, Int.neg_mul] at this
        show 0 ≤ roR v vs r + cR v r * q
        omega
    · rw [hc, Int.zero_mul, Int.add_zero]; exact h0 r hr hc
    · have := mem_lows.2 ⟨r, hr, hc, rfl⟩
      rw [hL] at this; cases this
end Go.Proofs.YtoklkfmffmonoaaGreat.S
end
section
namespace Go.Proofs.YtoklkfmffmonoaaGreat.S
open Go.RowKit

theorem each_rk {rs : List RelD} (hrs : RsOk rs) (v : Int) {sh : SideD → SideD → Term} (hsh : ∀ l h, SideOk l → SideOk h → TOk 40 88 (sh l h)) : ∀ r ∈ eachS sh rs v, RkOk r := fun r hr => by
 unfold eachS at hr
 rcases List.mem_append.1 hr with h | h
 ·obtain ⟨q, hq, hm⟩ := List.mem_flatMap.1 h
  unfold othF at hm
  split at hm
  ·rw [List.mem_singleton.1 hm]; exact ((hrs.2 q hq).plain (by decide)).mono (by decide) (by decide)
  ·cases hm
 ·obtain ⟨l, hl, hq2⟩ := List.mem_flatMap.1 h
  obtain ⟨m, hm, rfl⟩ := List.mem_map.1 hq2
  exact ((hsh l m (lows_ok hrs v l hl) (highs_ok hrs v m hm)).plain (by decide)).mono (by decide) (by decide)
theorem dark_rk {rs : List RelD} (hrs : RsOk rs) (v : Int) : ∀ r ∈ eachS darkT rs v, RkOk r := each_rk hrs v fun _ _ hl hh => dark_ok hl hh
theorem each_len2 {rs : List RelD} (hrs : RsOk rs) (v : Int) (sh : SideD → SideD → Term) : (eachS sh rs v).length ≤ 420 := by
 have := each_len hrs (sh := sh) v (lowsOf rs v).length
 rwa [List.take_length] at this
theorem all_withI {rs : List RelD} {v : Int} {vs : List ZI} {x : ZI} (hv : 0 ≤ v) (he : ∀ r ∈ rs, r.eq = false) : allR rs (withV vs v.toNat x) = true ↔ HoldAt rs v vs x.val := by
 have := all_with (v := v.toNat) (vs := vs) (x := x) he
 rwa [Int.toNat_of_nonneg hv] at this
theorem with_ok {vs : List ZI} {v : Nat} {x : ZI} (hv : VOk 8 vs) (h1 : v ≤ 1000) (h2 : vs.length ≤ 20) (hx : Lb x.abs) (lx : x.abs.length ≤ 20) : VOk 20 (withV vs v x) := by
 refine ⟨by unfold withV; rw [List.length_set, ext0_len]; omega, fun y hy => ?_⟩
 unfold withV at hy
 rcases List.mem_or_eq_of_mem_set hy with h | h
 ·unfold ext0 at h
  rcases List.mem_append.1 h with h | h
  ·exact ⟨(hv.2 y h).1, Nat.le_trans (hv.2 y h).2 (by decide)⟩
  ·rw [(List.mem_replicate.1 h).2]; exact ⟨ZI.lb_of _, Nat.zero_le _⟩
 ·rw [h]; exact ⟨hx, lx⟩
theorem fit_len {rs : List RelD} (hrs : RsOk rs) (v : Int) {vs : List ZI} (hv : VOk 8 vs) : (fitS (lowsOf rs v) (highsOf rs v) vs).1.abs.length ≤ 20 := by
  unfold fitS
  cases hb : best gtB (leastZ · vs) (lowsOf rs v) with
  | some m =>
    obtain ⟨⟨l, hl, e⟩, _⟩ := best_gt _ _ _ hb
    simp only
    split
    · exact Nat.zero_le _
    · show (ZI.of m).abs.length ≤ 20
      rw [← e]; exact Nat.le_trans (least_len (lows_ok hrs v l hl) hv (low_ne l hl)) (by decide)
  | none =>
    show (ZI.of ((best ltB (mostZ · vs) (highsOf rs v)).getD 0)).abs.length ≤ 20
    cases hq : best ltB (mostZ · vs) (highsOf rs v) with
    | none => exact Nat.zero_le _
    | some q =>
      have hex : ∃ s ∈ highsOf rs v, mostZ s vs = q := by
        refine Classical.byContradiction fun hno => ?_
        have h1 := any_best (mostZ · vs) (q + 1) (highsOf rs v)
        have h2 := any_best (mostZ · vs) q (highsOf rs v)
        rw [hq] at h1 h2
        simp only at h1 h2
        rw [ltB_iff.2 (by omega : q < q + 1)] at h1
        obtain ⟨s, hs, e1⟩ := List.any_eq_true.1 h1
        have e1 := ltB_iff.1 e1
        have hqq : ltB q q = false := by
          cases hb : ltB q q with
          | false => rfl
          | true => have := ltB_iff.1 hb; omega
        rw [hqq] at h2
        have e2 := List.any_eq_false.1 h2 s hs
        rw [ltB_iff] at e2
        exact hno ⟨s, hs, by omega⟩
      obtain ⟨s, hs, e⟩ := hex
      rw [Option.getD_some, ← e]
      exact Nat.le_trans (most_len (highs_ok hrs v s hs) hv (high_ne s hs)) (by decide)
theorem SWithI (vs : List ZI) (v : Int) (x : ZI) (h0 : 0 ≤ v) (h1 : v ≤ 1000) (hl : vs.length ≤ 20) : Fn Tryz.prog 26 [] [.t (.c (.d (.sl 2 (vs.map ziD)))), vi .i64 v, vz x] (.t (.c (.d (.sl 2 ((withV vs v.toNat x).map ziD))))) [] := by
 have := SWith vs v.toNat x (by omega) hl
 rwa [Int.toNat_of_nonneg h0] at this
end Go.Proofs.YtoklkfmffmonoaaGreat.S
end
section
namespace Go.Proofs.YtoklkfmffmonoaaGreat.S
open Go.RowKit

theorem hr_0 : Bodied Tryz.prog 15 := Bodied.mk' (by kernel_rfl)
theorem hr_4 : Bodied Tryz.prog 22 := Bodied.mk' (by kernel_rfl)
theorem hr_9 : Bodied Tryz.prog 25 := Bodied.mk' (by kernel_rfl)
theorem hr_11 : Bodied Tryz.prog 26 := Bodied.mk' (by kernel_rfl)
theorem plain_ok {rs : List RelD} {v : Int} (h : plainL rs v = true) : (∀ r ∈ rs, r.eq = false) ∧ 0 ≤ v ∧ v ≤ 1000 := by
 unfold plainL at h
 rw [Bool.and_eq_true, List.all_eq_true, decide_eq_true_eq] at h
 exact ⟨fun r hr => by have := h.1 r hr; simpa using this, h.2.1, h.2.2⟩
theorem dark_ok2 {rs : List RelD} {v : Int} {vs : List ZI} (h : allR (eachS darkT rs v) vs = true) : (fitS (lowsOf rs v) (highsOf rs v) vs).2 = true := (dark_fits h).1
theorem dark_with {rs : List RelD} {v : Int} {vs : List ZI} (he : ∀ r ∈ rs, r.eq = false) (hv : 0 ≤ v) (h : allR (eachS darkT rs v) vs = true) : allR rs (withV vs v.toNat (fitS (lowsOf rs v) (highsOf rs v) vs).1) = true := (all_withI hv he).2 (dark_fits h).2
theorem rs_rk {rs : List RelD} (h : RsOk rs) : ∀ r ∈ rs, RkOk r := fun r hr => RkOk.of (h.2 r hr) (by decide) (by decide)
set_option maxHeartbeats 4000000 in
theorem SShadowDark (rs : List RelD) (v : Int) (vs : List ZI) (hrl : ∀ r ∈ rs, TLb r.t) (hl : rs.length ≤ 9223372036854775807) (hvb : ∀ z ∈ vs, Lb z.abs) (hvl : vs.length ≤ 9223372036854775807) : Fn Tryz.prog 6 [] [.t (.c (.d (.sl 4 (rs.map RelD.d)))), vi .i64 v, .t (.c (.d (.sl 2 (vs.map ziD))))] (vb true) [] := by
 refine Fn.body Tryz.func6 rfl 51 rfl fun w H B a h => ?_
 refine rSeq fam0ok 0 [] [(0, .t (.c (.d (.sl 4 (rs.map RelD.d))))), (1, vi .i64 v), (2, .t (.c (.d (.sl 2 (vs.map ziD))))), (6, vb false)] [] (by kernel_rfl) h ?_; clear h; intro a w h
 refine wp_seq ?_
 refine rSeq fam0ok 0 [(0, .call (SShading) hr_0), (3, .call (SPiecing) he_14)] [(0, .t (.c (.d (.sl 4 (rs.map RelD.d))))), (1, vi .i64 v), (2, .t (.c (.d (.sl 2 (vs.map ziD))))), (6, vb false), (14, vb false)] [] (by kernel_rfl) h ?_; clear h; intro a w h
 refine condS false h rfl (fun hc => ?_) (fun hc => ?_)
 ·cases hc
 ·clear hc
  refine wp_skip ?_
  refine then_n ?_
  refine wp_seq ?_
  rcases Bool.eq_false_or_eq_true (fewRs rs 10 8) with hc | hc
  ·have hc1 := hc; clear hc
   rcases Bool.eq_false_or_eq_true (fewVs vs 20 8) with hc | hc
   ·have hc2 := hc; clear hc
    refine rSeq fam0ok 0 [(1, .call (Fn.cast (SFewRsL rs 10 8 hl) (congrArg vb hc1)) kc_6), (5, .call (Fn.cast (SFewVs vs 20 8 hvl) (congrArg vb hc2)) he_16), (11, .call (SPlainL rs v hl) hr_4)] [(0, .t (.c (.d (.sl 4 (rs.map RelD.d))))), (1, vi .i64 v), (2, .t (.c (.d (.sl 2 (vs.map ziD))))), (6, vb false), (28, vb (!(plainL rs v)))] [] (by kernel_rfl) h ?_; clear h; intro a w h
    refine condS (!(plainL rs v)) h rfl (fun hc => ?_) (fun hc => ?_)
    ·have hc3 := hc; clear hc
     have hc3' := hc3; (try simp at hc3')
     refine rSeq fam0ok 0 [] [(0, .t (.c (.d (.sl 4 (rs.map RelD.d))))), (1, vi .i64 v), (2, .t (.c (.d (.sl 2 (vs.map ziD))))), (6, vb true)] [] (by kernel_rfl) h ?_; clear h; intro a w h
     refine wp_ret ?_
     refine then_r ?_
     refine retS [.c (.d (.raw (.bool true)))] h Exit.ret (.inl rfl)  rfl ⟨RV.tmp _ _ rfl, trivial⟩ ?_ (by kernel_rfl) (by kernel_rfl)
     rfl
    ·have hc4 := hc; clear hc
     have hc4' := hc4; (try simp at hc4')
     refine wp_skip ?_
     refine then_n ?_
     refine wp_seq ?_
     have hrs : RsOk rs := fewRs_rs (by decide) hc1 hrl
     obtain ⟨hv, hv20⟩ := fewVs_ok hc2 hvb
     obtain ⟨he, hv0, hv2⟩ := plain_ok (show (plainL rs v) = true from by simpa using hc4)
     have hv1 : v.toNat ≤ 1000 := by omega
     have lrs := hrs.1
     have lre := each_len2 hrs v brightT
     refine rSeq fam0ok 0 [(2, .call (SSDark rs v hrs) hs_5), (4, .call (SRAll (eachS darkT rs v) vs (M := 8) (by decide) hv (dark_rk hrs v) (Nat.le_trans (each_len2 hrs v darkT) (by decide))) hr_9)] [(0, .t (.c (.d (.sl 4 (rs.map RelD.d))))), (1, vi .i64 v), (2, .t (.c (.d (.sl 2 (vs.map ziD))))), (6, vb false), (34, vb (!(allR (eachS darkT rs v) vs)))] [] (by kernel_rfl) h ?_; clear h; intro a w h
     refine condS (!(allR (eachS darkT rs v) vs)) h rfl (fun hc => ?_) (fun hc => ?_)
     ·have hc5 := hc; clear hc
      have hc5' := hc5; (try simp at hc5')
      refine rSeq fam0ok 0 [] [(0, .t (.c (.d (.sl 4 (rs.map RelD.d))))), (1, vi .i64 v), (2, .t (.c (.d (.sl 2 (vs.map ziD))))), (6, vb true)] [] (by kernel_rfl) h ?_; clear h; intro a w h
      refine wp_ret ?_
      refine then_r ?_
      refine retS [.c (.d (.raw (.bool true)))] h Exit.ret (.inl rfl)  rfl ⟨RV.tmp _ _ rfl, trivial⟩ ?_ (by kernel_rfl) (by kernel_rfl)
      rfl
     ·have hc6 := hc; clear hc
      have hc6' := hc6; (try simp at hc6')
      refine wp_skip ?_
      refine then_n ?_
      refine rSeq fam0ok 0 [(3, .call (SFit rs v vs hrs hv) he_10)] [(0, .t (.c (.d (.sl 4 (rs.map RelD.d))))), (1, vi .i64 v), (2, .t (.c (.d (.sl 2 (vs.map ziD))))), (6, vb false), (7, vp 0 0), (8, vb (fitS (lowsOf rs v) (highsOf rs v) vs).2)] [(0, .box (zi (fitS (lowsOf rs v) (highsOf rs v) vs).1))] (by kernel_rfl) h ?_; clear h; intro a w h
      rcases Bool.eq_false_or_eq_true (fitS (lowsOf rs v) (highsOf rs v) vs).2 with hc | hc
      ·have hc7 := hc; clear hc
       rw [hc7] at h
       refine rSeq fam0ok 1 [(6, .call (SWithI vs v (fitS (lowsOf rs v) (highsOf rs v) vs).1 hv0 hv2 hv20) hr_11), (7, .call (SRAll rs (withV vs v.toNat (fitS (lowsOf rs v) (highsOf rs v) vs).1) (M := 20) (by decide) (with_ok hv hv1 hv20 fit_lb (fit_len hrs v hv)) (rs_rk hrs) (by have := hrs.1; omega)) hr_9)] [(6, vb (allR rs (withV vs v.toNat (fitS (lowsOf rs v) (highsOf rs v) vs).1)))] [] (by kernel_rfl) h ?_; clear h; intro a w h
       refine wp_ret ?_
       refine retS [.c (.d (.raw (.bool (allR rs (withV vs v.toNat (fitS (lowsOf rs v) (highsOf rs v) vs).1)))))] h Exit.ret (.inl rfl)  rfl ⟨RV.tmp _ _ rfl, trivial⟩ ?_ (by kernel_rfl) (by kernel_rfl)
       rw [dark_with he hv0 (show (allR (eachS darkT rs v) vs) = true from by simpa using hc6)]; first | done | rfl
      ·have hc8 := hc; clear hc
       rw [dark_ok2 (show (allR (eachS darkT rs v) vs) = true from by simpa using hc6)] at hc8; cases hc8
   ·have hc9 := hc; clear hc
    refine rSeq fam0ok 1 [(1, .call (Fn.cast (SFewRsL rs 10 8 hl) (congrArg vb hc1)) kc_6), (5, .call (Fn.cast (SFewVs vs 20 8 hvl) (congrArg vb hc9)) he_16)] [(0, .t (.c (.d (.sl 4 (rs.map RelD.d))))), (1, vi .i64 v), (2, .t (.c (.d (.sl 2 (vs.map ziD))))), (6, vb false), (28, vb true)] [] (by kernel_rfl) h ?_; clear h; intro a w h
    refine condS true h rfl (fun hc => ?_) (fun hc => ?_)
    ·clear hc
     refine rSeq fam0ok 1 [] [(0, .t (.c (.d (.sl 4 (rs.map RelD.d))))), (1, vi .i64 v), (2, .t (.c (.d (.sl 2 (vs.map ziD))))), (6, vb true)] [] (by kernel_rfl) h ?_; clear h; intro a w h
     refine wp_ret ?_
     refine then_r ?_
     refine retS [.c (.d (.raw (.bool true)))] h Exit.ret (.inl rfl)  rfl ⟨RV.tmp _ _ rfl, trivial⟩ ?_ (by kernel_rfl) (by kernel_rfl)
     rfl
    ·cases hc
  ·have hc10 := hc; clear hc
   refine rSeq fam0ok 1 [(1, .call (Fn.cast (SFewRsL rs 10 8 hl) (congrArg vb hc10)) kc_6)] [(0, .t (.c (.d (.sl 4 (rs.map RelD.d))))), (1, vi .i64 v), (2, .t (.c (.d (.sl 2 (vs.map ziD))))), (6, vb false), (28, vb true)] [] (by kernel_rfl) h ?_; clear h; intro a w h
   refine condS true h rfl (fun hc => ?_) (fun hc => ?_)
   ·clear hc
    refine rSeq fam0ok 1 [] [(0, .t (.c (.d (.sl 4 (rs.map RelD.d))))), (1, vi .i64 v), (2, .t (.c (.d (.sl 2 (vs.map ziD))))), (6, vb true)] [] (by kernel_rfl) h ?_; clear h; intro a w h
    refine wp_ret ?_
    refine then_r ?_
    refine retS [.c (.d (.raw (.bool true)))] h Exit.ret (.inl rfl)  rfl ⟨RV.tmp _ _ rfl, trivial⟩ ?_ (by kernel_rfl) (by kernel_rfl)
    rfl
   ·cases hc
theorem SShadowDarkW (rs : List RelD) (v : Int) (vs : List ZI) (hr : rs.length ≤ maxLen ∧ ∀ r ∈ rs, TLb r.t) (hz : vs.length ≤ maxLen ∧ ∀ z ∈ vs, Lb z.abs) : Fn Tryz.prog 6 [] [.t (.c (.d (.sl 4 (rs.map RelD.d)))), vi .i64 v, .t (.c (.d (.sl 2 (vs.map ziD))))] (vb true) [] :=
 SShadowDark rs v vs hr.2 (Nat.le_trans hr.1 (by decide)) hz.2 (Nat.le_trans hz.1 (by decide))
end Go.Proofs.YtoklkfmffmonoaaGreat.S
end
section
namespace Go.Proofs.YtoklkfmffmonoaaGreat.shadowDarkDone
open Go.ChangeShapes Go.WideShapes Go.ChangeAt Go.RowKit
open Go.ChangeMaps (open_string shut_string)
open Go.Proofs.YtoklkfmffmonoaaGreat.S

theorem own : ownKnob Tryz.prog.godebug = none := by kernel_rfl
theorem laidOut : laidOutB Tryz.prog = true := by kernel_rfl

theorem lifted (os : Os) (started : os.Started) (H : Type) (enc : TypeId × Value → H) :
  ReturnsInHanded {} Tryz.checked os 6 .any (Rows.shadowDarkSpec.pre6 enc Tryz.prog Tryz.f6 Rows.shadowDarkRow.domain false) (Rows.shadowDarkSpec.post enc Tryz.prog Tryz.f6 false true false false) := by
 refine returnsInHanded_of_change (C := Tryz.checked) own started (by kernel_rfl) Tryz.func6
  (ChangeSpec.witness6 (enc := enc) (C := Tryz.checked) false ⟨#[], #[.slice none 0 0, .int .i64 0, .slice none 0 0], []⟩ 12 (by kernel_rfl) (by kernel_rfl) (by kernel_rfl) (by kernel_rfl)) ?_
 intro W base args ds gs before hval0 hW hcnd _
 have hval : ∀ (j : Nat) t v, Tryz.f6.params[j]? = some t → args[j]? = some v → Value.okWide Tryz.prog W .any base t v := hval0
 have hW' := hW
 obtain ⟨p, q, hA0, hV, rfl, hfz, hnd⟩ := hW
 have hA : DataW.TrodAll enc Tryz.prog W 0 (fun _ => true) true Tryz.f6.params.toList args.toList ds p := hA0
 rw [Tryz.params6] at hA hval
 obtain ⟨v0, vs0, d0, ds0, p0, q0, hargs, rfl, rfl, h0, r0⟩ := trodAll_cons hA
 obtain ⟨v1, vs1, d1, ds1, p1, q1, rfl, rfl, rfl, h1, r1⟩ := trodAll_cons r0
 obtain ⟨v2, vs2, d2, ds2, p2, q2, rfl, rfl, rfl, h2, r2⟩ := trodAll_cons r1
 obtain ⟨rfl, rfl, rfl⟩ := trodAll_nil r2
 obtain rfl : args = #[v0, v1, v2] := by cases args; simp_all
 obtain ⟨rfl, rfl⟩ := trodVars_none hV
 have k0 := h0
 have lt0 : ∀ x ∈ p0, x.block < W.heap.size := by obtain ⟨m, hm⟩ := k0; exact DataW.trod_lt m _ _ _ hm
 obtain ⟨a0, ao0, len0, cap0, g0, rfl, dr0⟩ := rep_one Tryz.underlying22 (fun _ => rep_Rels) (hval 0 22 v0 rfl rfl) h0
 obtain ⟨a1, rfl, rfl, rfl, g10⟩ := open_int Tryz.underlying3 (hval 1 3 v1 rfl rfl) h1
 have g1 : -9223372036854775808 ≤ a1 ∧ a1 ≤ 9223372036854775807 := by have := bounds_i64 g10; omega
 have k2 := h2
 have lt2 : ∀ x ∈ p2, x.block < W.heap.size := by obtain ⟨m, hm⟩ := k2; exact DataW.trod_lt m _ _ _ hm
 obtain ⟨a2, ao2, len2, cap2, g2, rfl, dr2⟩ := rep_one Tryz.underlying23 (fun _ => rep_ZIl) (hval 2 23 v2 rfl rfl) h2
 clear hA0 hval0
 refine ((SShadowDarkW a0 a1 a2 g0 g2).calls (w := W) (vals := [.slice ao0 len0 cap0, .int .i64 a1, .slice ao2 len2 cap2]) fun B => ⟨dr0, DR.raw _ rfl, dr2, trivial⟩).mono fun e W' ⟨he, bel⟩ => ?_
 subst he
 exact ⟨_, rfl, _, _, _, [], _, [], hW', trodAll_mk1 (shut_bool Tryz.underlying4 _), (trodAll_cons_mk (Below.trod laidOut (by kernel_rfl) (of_decide_eq_true (by kernel_rfl)) k0 bel lt0) (trodAll_cons_mk (shut_int Tryz.underlying3 g10) (trodAll_cons_mk (Below.trod laidOut (by kernel_rfl) (of_decide_eq_true (by kernel_rfl)) k2 bel lt2) trodAll_mk0))), rfl, bel.below.frame _, fun h => by cases h⟩

theorem over : Rows.shadowDarkRow.holds Tryz.pinned (OpenSpec.ofChange Rows.shadowDarkSpec) :=
 OpenClaim.holds_of_wide 6 Tryz.f6 rfl rfl rfl rfl rfl rfl rfl ⟨rfl, rfl, rfl, rfl, rfl⟩ rfl rfl rfl rfl rfl (by kernel_rfl) Tryz.func6 (by kernel_rfl)
  (of_decide_eq_true (by kernel_rfl)) (by unfold Func.isWrapper; first | (rw [if_pos (by decide +kernel)]; kernel_rfl) | (rw [if_neg (by decide +kernel)]; exact ⟨rfl, rfl⟩))
  (fun os started H enc _ => lifted os started H enc)

theorem proved : Rows.ShadowDarkSaid := over
end Go.Proofs.YtoklkfmffmonoaaGreat.shadowDarkDone
end
