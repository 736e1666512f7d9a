/-
  Contracts of zint.Of and the reference's; of Same, and of the statements' helpers.
-/
import Derived.Test.YtehbfobfkpejoaaIntE
namespace Go.Proofs.Ytehbfobfkpejoaa
open Go.RowKit

set_option maxRecDepth 100000 in
set_option maxHeartbeats 1000000 in
theorem ZOf_any (E : Int) (w : World) (hI : -9223372036854775808 ≤ E ∧ E ≤ 9223372036854775807) :
    Calls Try.prog 40 #[.int .i64 E] w (GotZ w E 4) := by
  by_cases h0 : E < 0
  · go_enter Try.func40, Try.ntmps40
    go_wp2_with fail
    refine (OfM _ _ (by omega) (by omega)).mono ?_
    rintro e w1 ⟨r1a, r1c, r1z, r1B, rfl, r1b, r1o, r1k, r1v, r1l, xx⟩
    try simp at r1b
    try simp only [List.length_cons, List.length_nil] at r1l
    have hE : Ext w w1 := Ext.trans ((Ext.refl _).alloc _) xx
    have hz1 : w.heap.size + 1 ≤ w1.heap.size := (by have hq := Ext.size xx; (try simp at hq); omega)
    have hb0 : w.heap.size < w1.heap.size := (by omega)
    have fq0_0 := Ext.free (p := ⟨w.heap.size, 0, none⟩) (v := .bool false) xx (by first | exact True | go_simp | (repeat (first | assumption | (refine (World.cell?_setCell_far _ _ _ _ (by simp <;> omega)).trans ?_) | (refine (World.cell?_alloc_lt _ _ _ (World.block_lt_of_cell? _ _ (by assumption))).trans ?_) | go_simp))) (by first | assumption | go_simp)
    have q0_0 := Ext.cell (p := ⟨w.heap.size, 0, none⟩) (v := .bool false) xx (by first | exact True | go_simp | (repeat (first | assumption | (refine (World.cell?_setCell_far _ _ _ _ (by simp <;> omega)).trans ?_) | (refine (World.cell?_alloc_lt _ _ _ (World.block_lt_of_cell? _ _ (by assumption))).trans ?_) | go_simp)))
    have fq0_1 := Ext.free (p := ⟨w.heap.size, 1, none⟩) (v := .slice none 0 0) xx (by first | exact True | go_simp | (repeat (first | assumption | (refine (World.cell?_setCell_far _ _ _ _ (by simp <;> omega)).trans ?_) | (refine (World.cell?_alloc_lt _ _ _ (World.block_lt_of_cell? _ _ (by assumption))).trans ?_) | go_simp))) (by first | assumption | go_simp)
    have q0_1 := Ext.cell (p := ⟨w.heap.size, 1, none⟩) (v := .slice none 0 0) xx (by first | exact True | go_simp | (repeat (first | assumption | (refine (World.cell?_setCell_far _ _ _ _ (by simp <;> omega)).trans ?_) | (refine (World.cell?_alloc_lt _ _ _ (World.block_lt_of_cell? _ _ (by assumption))).trans ?_) | go_simp)))
    clear xx
    go_wp2_with fail
    refine (From_any true _ _ _ r1z _ rfl r1o.rd (by first | omega | (simp; done) | (simp; omega))).mono ?_
    rintro e w2 ⟨r2s, r2a, r2c, r2z, r2B, rfl, r2b, r2o, r2k, r2v, r2l, xx⟩
    try simp at r2b
    try simp only [List.length_cons, List.length_nil] at r2l
    replace hE := Ext.trans hE xx
    have hz2 : w1.heap.size ≤ w2.heap.size := (by have hq := Ext.size xx; (try simp at hq); omega)
    have hb0 : w.heap.size < w2.heap.size := (by omega)
    have fq0_0 := Ext.free (p := ⟨w.heap.size, 0, none⟩) (v := .bool false) xx q0_0 fq0_0
    have q0_0 := Ext.cell (p := ⟨w.heap.size, 0, none⟩) (v := .bool false) xx q0_0
    have fq0_1 := Ext.free (p := ⟨w.heap.size, 1, none⟩) (v := .slice none 0 0) xx q0_1 fq0_1
    have q0_1 := Ext.cell (p := ⟨w.heap.size, 1, none⟩) (v := .slice none 0 0) xx q0_1
    clear xx
    go_wp2_with fail
    refine bodyPost_ret (v := .agg #[.bool r2s, .slice r2a r2z.length r2c]) (by simp [results, Try.results40, go_sem, q0_0, q0_1]) rfl ?_
    exact ⟨r2s, r2a, r2c, r2z, r2B, rfl, (by omega), (Own.st (Own.st r2o (b := w.heap.size) (by omega) _ _) (b := w.heap.size) (by omega) _ _), r2k, (by unfold Hid; rw [r2v.out, iv_true, r1v.out]; omega), (by first | omega | (simp; done) | (simp; omega)), (Ext.st (Ext.st hE (b := w.heap.size) (by omega) _ _) (b := w.heap.size) (by omega) _ _)⟩
  · go_enter Try.func40, Try.ntmps40
    go_wp2_with fail
    refine (OfM _ _ (by omega) (by omega)).mono ?_
    rintro e w1 ⟨r1a, r1c, r1z, r1B, rfl, r1b, r1o, r1k, r1v, r1l, xx⟩
    try simp at r1b
    try simp only [List.length_cons, List.length_nil] at r1l
    have hE : Ext w w1 := Ext.trans ((Ext.refl _).alloc _) xx
    have hz1 : w.heap.size + 1 ≤ w1.heap.size := (by have hq := Ext.size xx; (try simp at hq); omega)
    have hb0 : w.heap.size < w1.heap.size := (by omega)
    have fq0_0 := Ext.free (p := ⟨w.heap.size, 0, none⟩) (v := .bool false) xx (by first | exact True | go_simp | (repeat (first | assumption | (refine (World.cell?_setCell_far _ _ _ _ (by simp <;> omega)).trans ?_) | (refine (World.cell?_alloc_lt _ _ _ (World.block_lt_of_cell? _ _ (by assumption))).trans ?_) | go_simp))) (by first | assumption | go_simp)
    have q0_0 := Ext.cell (p := ⟨w.heap.size, 0, none⟩) (v := .bool false) xx (by first | exact True | go_simp | (repeat (first | assumption | (refine (World.cell?_setCell_far _ _ _ _ (by simp <;> omega)).trans ?_) | (refine (World.cell?_alloc_lt _ _ _ (World.block_lt_of_cell? _ _ (by assumption))).trans ?_) | go_simp)))
    have fq0_1 := Ext.free (p := ⟨w.heap.size, 1, none⟩) (v := .slice none 0 0) xx (by first | exact True | go_simp | (repeat (first | assumption | (refine (World.cell?_setCell_far _ _ _ _ (by simp <;> omega)).trans ?_) | (refine (World.cell?_alloc_lt _ _ _ (World.block_lt_of_cell? _ _ (by assumption))).trans ?_) | go_simp))) (by first | assumption | go_simp)
    have q0_1 := Ext.cell (p := ⟨w.heap.size, 1, none⟩) (v := .slice none 0 0) xx (by first | exact True | go_simp | (repeat (first | assumption | (refine (World.cell?_setCell_far _ _ _ _ (by simp <;> omega)).trans ?_) | (refine (World.cell?_alloc_lt _ _ _ (World.block_lt_of_cell? _ _ (by assumption))).trans ?_) | go_simp)))
    clear xx
    go_wp2_with fail
    refine (From_any false _ _ _ r1z _ rfl r1o.rd (by first | omega | (simp; done) | (simp; omega))).mono ?_
    rintro e w2 ⟨r2s, r2a, r2c, r2z, r2B, rfl, r2b, r2o, r2k, r2v, r2l, xx⟩
    try simp at r2b
    try simp only [List.length_cons, List.length_nil] at r2l
    replace hE := Ext.trans hE xx
    have hz2 : w1.heap.size ≤ w2.heap.size := (by have hq := Ext.size xx; (try simp at hq); omega)
    have hb0 : w.heap.size < w2.heap.size := (by omega)
    have fq0_0 := Ext.free (p := ⟨w.heap.size, 0, none⟩) (v := .bool false) xx q0_0 fq0_0
    have q0_0 := Ext.cell (p := ⟨w.heap.size, 0, none⟩) (v := .bool false) xx q0_0
    have fq0_1 := Ext.free (p := ⟨w.heap.size, 1, none⟩) (v := .slice none 0 0) xx q0_1 fq0_1
    have q0_1 := Ext.cell (p := ⟨w.heap.size, 1, none⟩) (v := .slice none 0 0) xx q0_1
    clear xx
    go_wp2_with fail
    refine bodyPost_ret (v := .agg #[.bool r2s, .slice r2a r2z.length r2c]) (by simp [results, Try.results40, go_sem, q0_0, q0_1]) rfl ?_
    exact ⟨r2s, r2a, r2c, r2z, r2B, rfl, (by omega), (Own.st (Own.st r2o (b := w.heap.size) (by omega) _ _) (b := w.heap.size) (by omega) _ _), r2k, (by unfold Hid; rw [r2v.out, iv_false, r1v.out]; omega), (by first | omega | (simp; done) | (simp; omega)), (Ext.st (Ext.st hE (b := w.heap.size) (by omega) _ _) (b := w.heap.size) (by omega) _ _)⟩
theorem val_two (x : Nat) : val [x % 4294967296, x / 4294967296] = x := by simp only [val]; omega
set_option maxRecDepth 100000 in
set_option maxHeartbeats 1000000 in
theorem ROf_any (E : Int) (w : World) (hI : -9223372036854775808 ≤ E ∧ E ≤ 9223372036854775807) :
    Calls Try.prog 41 #[.int .i64 E] w (GotZ w E 4) := by
  by_cases h0 : E < 0
  · obtain ⟨x, hx⟩ : ∃ x : Nat, -(E + 1) = (x : Int) := ⟨(-(E + 1)).toNat, by omega⟩
    have hx2 : x < 9223372036854775808 := by omega
    go_enter Try.func41, Try.ntmps41
    go_wp2_with fail
    refine (RAddM _ _ _ [x % 4294967296, x / 4294967296] _ _ _ [1] _ rfl rfl ((row2b _ (w.heap.size + 1) _ _ (x % 4294967296) (x / 4294967296) (by simp) (by omega) (by omega) (by omega) (by omega)).rd.ext ((Ext.refl _).alloc _)) (row1b _ (w.heap.size + 1 + 1) _ 1 (by simp) rfl (by omega)).rd (by first | omega | (simp; done) | (simp; omega)) (by first | omega | (simp; done) | (simp; omega))).mono ?_
    rintro e w1 ⟨r1a, r1c, r1z, r1B, rfl, r1b, r1o, r1k, r1v, r1l, xx⟩
    try simp at r1b
    try simp only [List.length_cons, List.length_nil] at r1l
    have hE : Ext w w1 := Ext.trans ((((Ext.refl _).alloc _).alloc _).alloc _) xx
    have hz1 : w.heap.size + 3 ≤ w1.heap.size := (by have hq := Ext.size xx; (try simp at hq); omega)
    have hb0 : w.heap.size < w1.heap.size := (by omega)
    have fq0_0 := Ext.free (p := ⟨w.heap.size, 0, none⟩) (v := .bool false) xx (by first | exact True | go_simp | (repeat (first | assumption | (refine (World.cell?_setCell_far _ _ _ _ (by simp <;> omega)).trans ?_) | (refine (World.cell?_alloc_lt _ _ _ (World.block_lt_of_cell? _ _ (by assumption))).trans ?_) | go_simp))) (by first | assumption | go_simp)
    have q0_0 := Ext.cell (p := ⟨w.heap.size, 0, none⟩) (v := .bool false) xx (by first | exact True | go_simp | (repeat (first | assumption | (refine (World.cell?_setCell_far _ _ _ _ (by simp <;> omega)).trans ?_) | (refine (World.cell?_alloc_lt _ _ _ (World.block_lt_of_cell? _ _ (by assumption))).trans ?_) | go_simp)))
    have fq0_1 := Ext.free (p := ⟨w.heap.size, 1, none⟩) (v := .slice none 0 0) xx (by first | exact True | go_simp | (repeat (first | assumption | (refine (World.cell?_setCell_far _ _ _ _ (by simp <;> omega)).trans ?_) | (refine (World.cell?_alloc_lt _ _ _ (World.block_lt_of_cell? _ _ (by assumption))).trans ?_) | go_simp))) (by first | assumption | go_simp)
    have q0_1 := Ext.cell (p := ⟨w.heap.size, 1, none⟩) (v := .slice none 0 0) xx (by first | exact True | go_simp | (repeat (first | assumption | (refine (World.cell?_setCell_far _ _ _ _ (by simp <;> omega)).trans ?_) | (refine (World.cell?_alloc_lt _ _ _ (World.block_lt_of_cell? _ _ (by assumption))).trans ?_) | go_simp)))
    clear xx
    go_wp2_with fail
    refine (RFrom_any true _ _ _ r1z _ rfl r1o.rd (by first | omega | (simp; done) | (simp; omega))).mono ?_
    rintro e w2 ⟨r2s, r2a, r2c, r2z, r2B, rfl, r2b, r2o, r2k, r2v, r2l, xx⟩
    try simp at r2b
    try simp only [List.length_cons, List.length_nil] at r2l
    replace hE := Ext.trans hE xx
    have hz2 : w1.heap.size ≤ w2.heap.size := (by have hq := Ext.size xx; (try simp at hq); omega)
    have hb0 : w.heap.size < w2.heap.size := (by omega)
    have fq0_0 := Ext.free (p := ⟨w.heap.size, 0, none⟩) (v := .bool false) xx q0_0 fq0_0
    have q0_0 := Ext.cell (p := ⟨w.heap.size, 0, none⟩) (v := .bool false) xx q0_0
    have fq0_1 := Ext.free (p := ⟨w.heap.size, 1, none⟩) (v := .slice none 0 0) xx q0_1 fq0_1
    have q0_1 := Ext.cell (p := ⟨w.heap.size, 1, none⟩) (v := .slice none 0 0) xx q0_1
    clear xx
    go_wp2_with fail
    refine bodyPost_ret (v := .agg #[.bool r2s, .slice r2a r2z.length r2c]) (by simp [results, Try.results41, go_sem, q0_0, q0_1]) rfl ?_
    exact ⟨r2s, r2a, r2c, r2z, r2B, rfl, (by omega), (Own.st (Own.st r2o (b := w.heap.size) (by omega) _ _) (b := w.heap.size) (by omega) _ _), r2k, (by unfold Hid; rw [r2v.out, iv_true, r1v.out, val_two]; simp only [val]; omega), (by first | omega | (simp; done) | (simp; omega)), (Ext.st (Ext.st hE (b := w.heap.size) (by omega) _ _) (b := w.heap.size) (by omega) _ _)⟩
  · obtain ⟨x, hx⟩ : ∃ x : Nat, E = (x : Int) := ⟨E.toNat, by omega⟩
    subst hx
    have hx2 : x < 9223372036854775808 := by omega
    go_enter Try.func41, Try.ntmps41
    go_wp2_with fail
    refine (RFrom_any false _ _ _ [x % 4294967296, x / 4294967296] _ rfl (row2b _ (w.heap.size + 1) _ _ (x % 4294967296) (x / 4294967296) (by simp) (by omega) (by omega) (by omega) (by omega)).rd (by first | omega | (simp; done) | (simp; omega))).mono ?_
    rintro e w1 ⟨r1s, r1a, r1c, r1z, r1B, rfl, r1b, r1o, r1k, r1v, r1l, xx⟩
    try simp at r1b
    try simp only [List.length_cons, List.length_nil] at r1l
    have hE : Ext w w1 := Ext.trans (((Ext.refl _).alloc _).alloc _) xx
    have hz1 : w.heap.size + 2 ≤ w1.heap.size := (by have hq := Ext.size xx; (try simp at hq); omega)
    have hb0 : w.heap.size < w1.heap.size := (by omega)
    have fq0_0 := Ext.free (p := ⟨w.heap.size, 0, none⟩) (v := .bool false) xx (by first | exact True | go_simp | (repeat (first | assumption | (refine (World.cell?_setCell_far _ _ _ _ (by simp <;> omega)).trans ?_) | (refine (World.cell?_alloc_lt _ _ _ (World.block_lt_of_cell? _ _ (by assumption))).trans ?_) | go_simp))) (by first | assumption | go_simp)
    have q0_0 := Ext.cell (p := ⟨w.heap.size, 0, none⟩) (v := .bool false) xx (by first | exact True | go_simp | (repeat (first | assumption | (refine (World.cell?_setCell_far _ _ _ _ (by simp <;> omega)).trans ?_) | (refine (World.cell?_alloc_lt _ _ _ (World.block_lt_of_cell? _ _ (by assumption))).trans ?_) | go_simp)))
    have fq0_1 := Ext.free (p := ⟨w.heap.size, 1, none⟩) (v := .slice none 0 0) xx (by first | exact True | go_simp | (repeat (first | assumption | (refine (World.cell?_setCell_far _ _ _ _ (by simp <;> omega)).trans ?_) | (refine (World.cell?_alloc_lt _ _ _ (World.block_lt_of_cell? _ _ (by assumption))).trans ?_) | go_simp))) (by first | assumption | go_simp)
    have q0_1 := Ext.cell (p := ⟨w.heap.size, 1, none⟩) (v := .slice none 0 0) xx (by first | exact True | go_simp | (repeat (first | assumption | (refine (World.cell?_setCell_far _ _ _ _ (by simp <;> omega)).trans ?_) | (refine (World.cell?_alloc_lt _ _ _ (World.block_lt_of_cell? _ _ (by assumption))).trans ?_) | go_simp)))
    clear xx
    go_wp2_with fail
    refine bodyPost_ret (v := .agg #[.bool r1s, .slice r1a r1z.length r1c]) (by simp [results, Try.results41, go_sem, q0_0, q0_1]) rfl ?_
    exact ⟨r1s, r1a, r1c, r1z, r1B, rfl, (by omega), (Own.st (Own.st r1o (b := w.heap.size) (by omega) _ _) (b := w.heap.size) (by omega) _ _), r1k, (by unfold Hid; rw [r1v.out, iv_false, val_two]), (by first | omega | (simp; done) | (simp; omega)), (Ext.st (Ext.st hE (b := w.heap.size) (by omega) _ _) (b := w.heap.size) (by omega) _ _)⟩
theorem Same_eq (ao : Option Addr) (n c : Nat) (xs : List Nat) (bo : Option Addr) (m d : Nat) (ys : List Nat) (w : World) (hn : n = xs.length) (hm : m = ys.length) (ha : Rd w ao c xs) (hb : Rd w bo d ys) (h : xs = ys) :
    Calls Try.prog 44 #[.slice ao n c, .slice bo m d] w (GotP (.bool true) w) :=
  (Same_yes ao n c xs bo m d ys w hn hm ha hb h).mono fun _ _ ⟨he, hq⟩ => ⟨he, hq.ext⟩
set_option maxRecDepth 100000 in
set_option maxHeartbeats 1000000 in
theorem RSame_eq (s : Bool) (ao : Option Addr) (n c : Nat) (zs : List Nat) (t : Bool) (bo : Option Addr) (m d : Nat) (us : List Nat) (w : World) (hn : n = zs.length) (hm : m = us.length) (h : Rd w ao c zs) (k : Rd w bo d us) (hs : s = t) (hz : zs = us) :
    Calls Try.prog 43 #[.agg #[.bool s, .slice ao n c], .agg #[.bool t, .slice bo m d]] w (GotP (.bool true) w) := by
  subst hn hm
  subst hs
  replace hz := Lib.hid hz
  go_enter Try.func43, Try.ntmps43
  go_wp2_with fail
  refine (Same_eq _ _ _ zs _ _ _ us _ rfl rfl (h.ext (((Ext.refl _).alloc _).alloc _)) (k.ext (((Ext.refl _).alloc _).alloc _)) hz.out).mono ?_
  rintro e w1 ⟨rfl, xx⟩
  have hE : Ext w w1 := Ext.trans (((Ext.refl _).alloc _).alloc _) xx
  have hz1 : w.heap.size + 2 ≤ w1.heap.size := (by have hq := Ext.size xx; (try simp at hq); omega)
  clear xx
  go_wp2_with fail
  go_ret
  exact ⟨rfl, hE⟩
set_option maxRecDepth 100000 in
set_option maxHeartbeats 1000000 in
theorem same2_yes (s : Bool) (ao : Option Addr) (n c : Nat) (zs : List Nat) (t : Bool) (bo : Option Addr) (m d : Nat) (us : List Nat) (w : World) (hn : n = zs.length) (hm : m = us.length) (h : Rd w ao c zs) (k : Rd w bo d us) (hl : zs.length ≤ 300000) (_hl2 : us.length ≤ 300000) (hx : CanZ s zs) (hy : CanZ t us) (hv : iv s zs = iv t us) :
    Calls Try.prog 16 #[.agg #[.bool s, .slice ao n c], .agg #[.bool t, .slice bo m d]] w (GotP (.bool true) w) := by
  subst hn hm
  have he := hx.inj hy hv
  obtain ⟨rfl, he⟩ := he
  replace hx := Lib.hid hx
  replace he := Lib.hid he
  clear hy hv
  go_enter Try.func16, Try.ntmps16
  go_wp2_with fail
  go_region_held3 (fun w' => w'.cell? ⟨w.heap.size, 0, none⟩ = some (.bool s) ∧ w'.cell? ⟨w.heap.size, 1, none⟩ = some (.slice ao zs.length c) ∧ w'.cell? ⟨w.heap.size + 1, 0, none⟩ = some (.bool s) ∧ w'.cell? ⟨w.heap.size + 1, 1, none⟩ = some (.slice bo us.length d)) (first | exact ⟨q0_0, q0_1, q1_0, q1_1⟩ | (go_keep; done) | ((try dsimp only); (repeat' apply And.intro) <;> (repeat (first | assumption | (refine (World.cell?_setCell_far _ _ _ _ (by simp <;> omega)).trans ?_) | (refine (World.cell?_alloc_lt _ _ _ (World.block_lt_of_cell? _ _ (by assumption))).trans ?_) | go_simp))))
    (first
        | (go_at_call 43; (with_reducible refine (RSame_eq s _ _ _ zs s _ _ _ us _ rfl rfl (h.ext (((Ext.refl _).alloc _).alloc _).drew) (k.ext (((Ext.refl _).alloc _).alloc _).drew) rfl he.out).mono ?_); rintro e w1 ⟨rfl, xx⟩; have hE : Ext w w1 := Ext.trans (((Ext.refl _).alloc _).alloc _).drew xx; have hz1 : w.heap.size + 2 ≤ w1.heap.size := (by have hq := Ext.size xx; (try simp at hq); omega); have hb0 : w.heap.size < w1.heap.size := (by omega); have q0_0 := Ext.cell (p := ⟨w.heap.size, 0, none⟩) (v := .bool s) xx (by first | exact True | go_simp | (repeat (first | assumption | (refine (World.cell?_setCell_far _ _ _ _ (by simp <;> omega)).trans ?_) | (refine (World.cell?_alloc_lt _ _ _ (World.block_lt_of_cell? _ _ (by assumption))).trans ?_) | go_simp))); have q0_1 := Ext.cell (p := ⟨w.heap.size, 1, none⟩) (v := .slice ao zs.length c) xx (by first | exact True | go_simp | (repeat (first | assumption | (refine (World.cell?_setCell_far _ _ _ _ (by simp <;> omega)).trans ?_) | (refine (World.cell?_alloc_lt _ _ _ (World.block_lt_of_cell? _ _ (by assumption))).trans ?_) | go_simp))); have hb1 : w.heap.size + 1 < w1.heap.size := (by omega); have q1_0 := Ext.cell (p := ⟨w.heap.size + 1, 0, none⟩) (v := .bool s) xx (by first | exact True | go_simp | (repeat (first | assumption | (refine (World.cell?_setCell_far _ _ _ _ (by simp <;> omega)).trans ?_) | (refine (World.cell?_alloc_lt _ _ _ (World.block_lt_of_cell? _ _ (by assumption))).trans ?_) | go_simp))); have q1_1 := Ext.cell (p := ⟨w.heap.size + 1, 1, none⟩) (v := .slice bo us.length d) xx (by first | exact True | go_simp | (repeat (first | assumption | (refine (World.cell?_setCell_far _ _ _ _ (by simp <;> omega)).trans ?_) | (refine (World.cell?_alloc_lt _ _ _ (World.block_lt_of_cell? _ _ (by assumption))).trans ?_) | go_simp))); clear xx)
        | (go_at_call 21; (with_reducible refine (RClean_any s _ _ _ zs _ rfl (h.ext hE) (by first | omega | (simp; done) | (simp; omega))).mono ?_); rintro e w2 ⟨r2s, r2a, r2c, r2z, r2B, rfl, r2b, r2o, r2k, r2v, r2l, xx⟩; (try simp at r2b); (try simp only [List.length_cons, List.length_nil] at r2l); replace hE := Ext.trans hE xx; have hz2 : w1.heap.size ≤ w2.heap.size := (by have hq := Ext.size xx; (try simp at hq); omega); have hb0 : w.heap.size < w2.heap.size := (by omega); have q0_0 := Ext.cell (p := ⟨w.heap.size, 0, none⟩) (v := .bool s) xx q0_0; have q0_1 := Ext.cell (p := ⟨w.heap.size, 1, none⟩) (v := .slice ao zs.length c) xx q0_1; have hb1 : w.heap.size + 1 < w2.heap.size := (by omega); have q1_0 := Ext.cell (p := ⟨w.heap.size + 1, 0, none⟩) (v := .bool s) xx q1_0; have q1_1 := Ext.cell (p := ⟨w.heap.size + 1, 1, none⟩) (v := .slice bo us.length d) xx q1_1; clear xx)
        | (go_at_call 43; (with_reducible refine (RSame_eq s _ _ _ zs r2s _ _ _ r2z _ rfl rfl (h.ext hE) r2o.rd (hx.out.inj r2k.out r2v.out.symm).1 (hx.out.inj r2k.out r2v.out.symm).2).mono ?_); rintro e w3 ⟨rfl, xx⟩; replace hE := Ext.trans hE xx; have hz3 : w2.heap.size ≤ w3.heap.size := (by have hq := Ext.size xx; (try simp at hq); omega); have hb0 : w.heap.size < w3.heap.size := (by omega); have q0_0 := Ext.cell (p := ⟨w.heap.size, 0, none⟩) (v := .bool s) xx q0_0; have q0_1 := Ext.cell (p := ⟨w.heap.size, 1, none⟩) (v := .slice ao zs.length c) xx q0_1; have hb1 : w.heap.size + 1 < w3.heap.size := (by omega); have q1_0 := Ext.cell (p := ⟨w.heap.size + 1, 0, none⟩) (v := .bool s) xx q1_0; have q1_1 := Ext.cell (p := ⟨w.heap.size + 1, 1, none⟩) (v := .slice bo us.length d) xx q1_1; clear xx))
  go_wp2_with fail
  go_ret
  exact ⟨rfl, hE⟩
set_option maxRecDepth 100000 in
set_option maxHeartbeats 1000000 in
theorem is_yes (s : Bool) (ao : Option Addr) (n c : Nat) (zs : List Nat) (E : Int) (w : World) (hn : n = zs.length) (h : Rd w ao c zs) (hl : zs.length ≤ 300000) (hx : CanZ s zs) (hv : iv s zs = E) (hI : -9223372036854775808 ≤ E ∧ E ≤ 9223372036854775807) :
    Calls Try.prog 61 #[.agg #[.bool s, .slice ao n c], .int .i64 E] w (GotP (.bool true) w) := by
  subst hn
  replace hx := Lib.hid hx
  replace hv := Lib.hid hv
  replace hI := Lib.hid hI
  go_enter Try.func61, Try.ntmps61
  go_wp2_with fail
  go_region_held3 (fun w' => w'.cell? ⟨w.heap.size, 0, none⟩ = some (.bool s) ∧ w'.cell? ⟨w.heap.size, 1, none⟩ = some (.slice ao zs.length c)) (first | exact ⟨q0_0, q0_1⟩ | (go_keep; done) | ((try dsimp only); (repeat' apply And.intro) <;> (repeat (first | assumption | (refine (World.cell?_setCell_far _ _ _ _ (by simp <;> omega)).trans ?_) | (refine (World.cell?_alloc_lt _ _ _ (World.block_lt_of_cell? _ _ (by assumption))).trans ?_) | go_simp))))
    (first
        | (go_at_call 41; (with_reducible refine (ROf_any E _ hI.out).mono ?_); rintro e w1 ⟨r1s, r1a, r1c, r1z, r1B, rfl, r1b, r1o, r1k, r1v, r1l, xx⟩; (try simp at r1b); (try simp only [List.length_cons, List.length_nil] at r1l); have hE : Ext w w1 := Ext.trans ((Ext.refl _).alloc _).drew xx; have hz1 : w.heap.size + 1 ≤ w1.heap.size := (by have hq := Ext.size xx; (try simp at hq); omega); have hb0 : w.heap.size < w1.heap.size := (by omega); have q0_0 := Ext.cell (p := ⟨w.heap.size, 0, none⟩) (v := .bool s) xx (by first | exact True | go_simp | (repeat (first | assumption | (refine (World.cell?_setCell_far _ _ _ _ (by simp <;> omega)).trans ?_) | (refine (World.cell?_alloc_lt _ _ _ (World.block_lt_of_cell? _ _ (by assumption))).trans ?_) | go_simp))); have q0_1 := Ext.cell (p := ⟨w.heap.size, 1, none⟩) (v := .slice ao zs.length c) xx (by first | exact True | go_simp | (repeat (first | assumption | (refine (World.cell?_setCell_far _ _ _ _ (by simp <;> omega)).trans ?_) | (refine (World.cell?_alloc_lt _ _ _ (World.block_lt_of_cell? _ _ (by assumption))).trans ?_) | go_simp))); clear xx)
        | (go_at_call 16; (with_reducible refine (same2_yes s _ _ _ zs r1s _ _ _ r1z _ rfl rfl (h.ext hE) r1o.rd (by omega) (by omega) hx.out r1k.out (hv.out.trans r1v.out.symm)).mono ?_); rintro e w2 ⟨rfl, xx⟩; replace hE := Ext.trans hE xx; have hz2 : w1.heap.size ≤ w2.heap.size := (by have hq := Ext.size xx; (try simp at hq); omega); have hb0 : w.heap.size < w2.heap.size := (by omega); have q0_0 := Ext.cell (p := ⟨w.heap.size, 0, none⟩) (v := .bool s) xx q0_0; have q0_1 := Ext.cell (p := ⟨w.heap.size, 1, none⟩) (v := .slice ao zs.length c) xx q0_1; clear xx))
  go_wp2_with fail
  go_ret
  exact ⟨rfl, hE⟩
set_option maxRecDepth 100000 in
set_option maxHeartbeats 1000000 in
theorem short2_any (s : Bool) (ao : Option Addr) (n c : Nat)  (t : Bool) (bo : Option Addr) (m d : Nat)  (K : Int) (b : Bool) (w : World) (hb : decide ((n : Int) ≤ K ∧ (m : Int) ≤ K) = b) :
    Calls Try.prog 20 #[.agg #[.bool s, .slice ao n c], .agg #[.bool t, .slice bo m d], .int .i64 K] w (GotP (.bool b) w) := by
  by_cases h1 : (n : Int) ≤ K
  · by_cases h2 : (m : Int) ≤ K
    · have hr : Hid (b = true) := by unfold Hid; rw [← hb]; exact decide_eq_true ⟨h1, h2⟩
      clear hb
      go_enter Try.func20, Try.ntmps20
      go_wp2_with fail
      go_ret
      exact ⟨by rw [hr.out]; rfl, ((Ext.refl w).alloc _).alloc _⟩
    · have hr : Hid (b = false) := by unfold Hid; rw [← hb]; exact decide_eq_false (fun h => h2 h.2)
      clear hb
      go_enter Try.func20, Try.ntmps20
      go_wp2_with fail
      go_ret
      exact ⟨by rw [hr.out]; rfl, ((Ext.refl w).alloc _).alloc _⟩
  · have hr : Hid (b = false) := by unfold Hid; rw [← hb]; exact decide_eq_false (fun h => h1 h.1)
    clear hb
    go_enter Try.func20, Try.ntmps20
    go_wp2_with fail
    go_ret
    exact ⟨by rw [hr.out]; rfl, ((Ext.refl w).alloc _).alloc _⟩
end Go.Proofs.Ytehbfobfkpejoaa
