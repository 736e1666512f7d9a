/-
  Contracts of zint.From, clean, Neg, Abs.
-/
import Derived.Test.YtehbfobfkpejoaaIntA
namespace Go.Proofs.Ytehbfobfkpejoaa
open Go.RowKit

set_option maxRecDepth 100000 in
set_option maxHeartbeats 1000000 in
theorem From_any (s : Bool) (ao : Option Addr) (n c : Nat) (zs : List Nat) (w : World) (hn : n = zs.length) (h : Rd w ao c zs) (hl : zs.length ≤ 400000) :
    Calls Try.prog 42 #[.bool s, .slice ao n c] w (GotZ w (iv s zs) zs.length) := by
  subst hn
  cases s
  · go_enter Try.func42, Try.ntmps42
    go_wp2_with fail
    refine (TrimM _ _ _ zs _ rfl (h.ext ((Ext.refl _).alloc _)) (by first | omega | (simp; done) | (simp; omega))).mono ?_
    rintro e w1 ⟨r1a, r1c, r1z, r1B, rfl, r1b, r1o, r1k, r1v, r1l, xx⟩
    try simp at r1b
    try simp only [List.length_cons, List.length_nil] at r1l
    have hE : Ext w w1 := Ext.trans ((Ext.refl _).alloc _) xx
    have hz1 : w.heap.size + 1 ≤ w1.heap.size := (by have hq := Ext.size xx; (try simp at hq); omega)
    have hb0 : w.heap.size < w1.heap.size := (by omega)
    have fq0_0 := Ext.free (p := ⟨w.heap.size, 0, none⟩) (v := .bool false) xx (by first | exact True | go_simp | (repeat (first | assumption | (refine (World.cell?_setCell_far _ _ _ _ (by simp <;> omega)).trans ?_) | (refine (World.cell?_alloc_lt _ _ _ (World.block_lt_of_cell? _ _ (by assumption))).trans ?_) | go_simp))) (by first | assumption | go_simp)
    have q0_0 := Ext.cell (p := ⟨w.heap.size, 0, none⟩) (v := .bool false) xx (by first | exact True | go_simp | (repeat (first | assumption | (refine (World.cell?_setCell_far _ _ _ _ (by simp <;> omega)).trans ?_) | (refine (World.cell?_alloc_lt _ _ _ (World.block_lt_of_cell? _ _ (by assumption))).trans ?_) | go_simp)))
    have fq0_1 := Ext.free (p := ⟨w.heap.size, 1, none⟩) (v := .slice none 0 0) xx (by first | exact True | go_simp | (repeat (first | assumption | (refine (World.cell?_setCell_far _ _ _ _ (by simp <;> omega)).trans ?_) | (refine (World.cell?_alloc_lt _ _ _ (World.block_lt_of_cell? _ _ (by assumption))).trans ?_) | go_simp))) (by first | assumption | go_simp)
    have q0_1 := Ext.cell (p := ⟨w.heap.size, 1, none⟩) (v := .slice none 0 0) xx (by first | exact True | go_simp | (repeat (first | assumption | (refine (World.cell?_setCell_far _ _ _ _ (by simp <;> omega)).trans ?_) | (refine (World.cell?_alloc_lt _ _ _ (World.block_lt_of_cell? _ _ (by assumption))).trans ?_) | go_simp)))
    clear xx
    go_wp2_with fail
    refine bodyPost_ret (v := .agg #[.bool false, .slice r1a r1z.length r1c]) (by simp [results, Try.results42, go_sem, q0_0, q0_1]) rfl ?_
    exact ⟨false, r1a, r1c, r1z, r1B, rfl, (by omega), (Own.st (Own.st r1o (b := w.heap.size) (by omega) _ _) (b := w.heap.size) (by omega) _ _), (CanZ.pos r1k.out), (by unfold Hid; rw [iv_false, iv_false, r1v.out]), (by first | omega | (simp; done) | (simp; omega)), (Ext.st (Ext.st hE (b := w.heap.size) (by omega) _ _) (b := w.heap.size) (by omega) _ _)⟩
  · go_enter Try.func42, Try.ntmps42
    go_wp2_with fail
    refine (TrimM _ _ _ zs _ rfl (h.ext ((Ext.refl _).alloc _)) (by first | omega | (simp; done) | (simp; omega))).mono ?_
    rintro e w1 ⟨r1a, r1c, r1z, r1B, rfl, r1b, r1o, r1k, r1v, r1l, xx⟩
    try simp at r1b
    try simp only [List.length_cons, List.length_nil] at r1l
    have hE : Ext w w1 := Ext.trans ((Ext.refl _).alloc _) xx
    have hz1 : w.heap.size + 1 ≤ w1.heap.size := (by have hq := Ext.size xx; (try simp at hq); omega)
    have hb0 : w.heap.size < w1.heap.size := (by omega)
    have fq0_0 := Ext.free (p := ⟨w.heap.size, 0, none⟩) (v := .bool false) xx (by first | exact True | go_simp | (repeat (first | assumption | (refine (World.cell?_setCell_far _ _ _ _ (by simp <;> omega)).trans ?_) | (refine (World.cell?_alloc_lt _ _ _ (World.block_lt_of_cell? _ _ (by assumption))).trans ?_) | go_simp))) (by first | assumption | go_simp)
    have q0_0 := Ext.cell (p := ⟨w.heap.size, 0, none⟩) (v := .bool false) xx (by first | exact True | go_simp | (repeat (first | assumption | (refine (World.cell?_setCell_far _ _ _ _ (by simp <;> omega)).trans ?_) | (refine (World.cell?_alloc_lt _ _ _ (World.block_lt_of_cell? _ _ (by assumption))).trans ?_) | go_simp)))
    have fq0_1 := Ext.free (p := ⟨w.heap.size, 1, none⟩) (v := .slice none 0 0) xx (by first | exact True | go_simp | (repeat (first | assumption | (refine (World.cell?_setCell_far _ _ _ _ (by simp <;> omega)).trans ?_) | (refine (World.cell?_alloc_lt _ _ _ (World.block_lt_of_cell? _ _ (by assumption))).trans ?_) | go_simp))) (by first | assumption | go_simp)
    have q0_1 := Ext.cell (p := ⟨w.heap.size, 1, none⟩) (v := .slice none 0 0) xx (by first | exact True | go_simp | (repeat (first | assumption | (refine (World.cell?_setCell_far _ _ _ _ (by simp <;> omega)).trans ?_) | (refine (World.cell?_alloc_lt _ _ _ (World.block_lt_of_cell? _ _ (by assumption))).trans ?_) | go_simp)))
    clear xx
    rcases Nat.eq_zero_or_pos r1z.length with h0 | hp
    · have e0 : r1z = [] := List.length_eq_zero_iff.1 h0
      subst e0
      clear h0
      go_wp2_with fail
      refine bodyPost_ret (v := .agg #[.bool false, .slice r1a 0 r1c]) (by simp [results, Try.results42, go_sem, q0_0, q0_1]) rfl ?_
      exact ⟨false, r1a, r1c, [], r1B, rfl, (by omega), (Own.st (Own.st r1o (b := w.heap.size) (by omega) _ _) (b := w.heap.size) (by omega) _ _), (CanZ.pos r1k.out), (by unfold Hid; rw [iv_false, iv_true, ← r1v.out]; rfl), (by first | omega | (simp; done) | (simp; omega)), (Ext.st (Ext.st hE (b := w.heap.size) (by omega) _ _) (b := w.heap.size) (by omega) _ _)⟩
    · have hp1 : decide (0 < r1z.length) = true := decide_eq_true hp
      go_wp2_with fail
      refine bodyPost_ret (v := .agg #[.bool true, .slice r1a r1z.length r1c]) (by simp [results, Try.results42, go_sem, q0_0, q0_1]) rfl ?_
      exact ⟨true, r1a, r1c, r1z, r1B, rfl, (by omega), (Own.st (Own.st r1o (b := w.heap.size) (by omega) _ _) (b := w.heap.size) (by omega) _ _), (CanZ.neg r1k.out hp _), (by unfold Hid; rw [iv_true, iv_true, r1v.out]), (by first | omega | (simp; done) | (simp; omega)), (Ext.st (Ext.st hE (b := w.heap.size) (by omega) _ _) (b := w.heap.size) (by omega) _ _)⟩
set_option maxRecDepth 100000 in
set_option maxHeartbeats 1000000 in
theorem RFrom_any (s : Bool) (ao : Option Addr) (n c : Nat) (zs : List Nat) (w : World) (hn : n = zs.length) (h : Rd w ao c zs) (hl : zs.length ≤ 400000) :
    Calls Try.prog 65 #[.bool s, .slice ao n c] w (GotZ w (iv s zs) zs.length) := by
  subst hn
  go_enter Try.func65, Try.ntmps65
  go_wp2_with fail
  refine (RTrimM _ _ _ zs _ rfl (h.ext ((Ext.refl _).alloc _)) (by first | omega | (simp; done) | (simp; omega))).mono ?_
  rintro e w1 ⟨r1a, r1c, r1z, r1B, rfl, r1b, r1o, r1k, r1v, r1l, xx⟩
  try simp at r1b
  try simp only [List.length_cons, List.length_nil] at r1l
  have hE : Ext w w1 := Ext.trans ((Ext.refl _).alloc _) xx
  have hz1 : w.heap.size + 1 ≤ w1.heap.size := (by have hq := Ext.size xx; (try simp at hq); omega)
  have hb0 : w.heap.size < w1.heap.size := (by omega)
  have fq0_0 := Ext.free (p := ⟨w.heap.size, 0, none⟩) (v := .bool false) xx (by first | exact True | go_simp | (repeat (first | assumption | (refine (World.cell?_setCell_far _ _ _ _ (by simp <;> omega)).trans ?_) | (refine (World.cell?_alloc_lt _ _ _ (World.block_lt_of_cell? _ _ (by assumption))).trans ?_) | go_simp))) (by first | assumption | go_simp)
  have q0_0 := Ext.cell (p := ⟨w.heap.size, 0, none⟩) (v := .bool false) xx (by first | exact True | go_simp | (repeat (first | assumption | (refine (World.cell?_setCell_far _ _ _ _ (by simp <;> omega)).trans ?_) | (refine (World.cell?_alloc_lt _ _ _ (World.block_lt_of_cell? _ _ (by assumption))).trans ?_) | go_simp)))
  have fq0_1 := Ext.free (p := ⟨w.heap.size, 1, none⟩) (v := .slice none 0 0) xx (by first | exact True | go_simp | (repeat (first | assumption | (refine (World.cell?_setCell_far _ _ _ _ (by simp <;> omega)).trans ?_) | (refine (World.cell?_alloc_lt _ _ _ (World.block_lt_of_cell? _ _ (by assumption))).trans ?_) | go_simp))) (by first | assumption | go_simp)
  have q0_1 := Ext.cell (p := ⟨w.heap.size, 1, none⟩) (v := .slice none 0 0) xx (by first | exact True | go_simp | (repeat (first | assumption | (refine (World.cell?_setCell_far _ _ _ _ (by simp <;> omega)).trans ?_) | (refine (World.cell?_alloc_lt _ _ _ (World.block_lt_of_cell? _ _ (by assumption))).trans ?_) | go_simp)))
  clear xx
  rcases Nat.eq_zero_or_pos r1z.length with h0 | hp
  · have e0 : r1z = [] := List.length_eq_zero_iff.1 h0
    subst e0
    clear h0
    go_wp2_with fail
    refine bodyPost_ret (v := .agg #[.bool false, .slice none 0 0]) (by simp [results, Try.results65, go_sem, q0_0, q0_1]) rfl ?_
    exact ⟨false, none, 0, [], _, rfl, (Nat.le_refl _), (Own.nil _ _), CanZ.nil, (by unfold Hid; rw [iv_nil]; unfold iv; rw [← r1v.out]; cases s <;> rfl), (by first | omega | (simp; done) | (simp; omega)), (Ext.st (Ext.st hE (b := w.heap.size) (by omega) _ _) (b := w.heap.size) (by omega) _ _)⟩
  · have hp1 : ((r1z.length : Int) == 0) = false := beq_eq_false_iff_ne.2 (by omega)
    go_wp2_with fail
    refine bodyPost_ret (v := .agg #[.bool s, .slice r1a r1z.length r1c]) (by simp [results, Try.results65, go_sem, q0_0, q0_1]) rfl ?_
    exact ⟨s, r1a, r1c, r1z, r1B, rfl, (by omega), (Own.st (Own.st r1o (b := w.heap.size) (by omega) _ _) (b := w.heap.size) (by omega) _ _), (CanZ.neg r1k.out hp _), (by unfold Hid iv; rw [r1v.out]), (by first | omega | (simp; done) | (simp; omega)), (Ext.st (Ext.st hE (b := w.heap.size) (by omega) _ _) (b := w.heap.size) (by omega) _ _)⟩
set_option maxRecDepth 100000 in
set_option maxHeartbeats 1000000 in
theorem clean_any (s : Bool) (ao : Option Addr) (n c : Nat) (zs : List Nat) (w : World) (hn : n = zs.length) (h : Rd w ao c zs) (hl : zs.length ≤ 400000) :
    Calls Try.prog 75 #[.agg #[.bool s, .slice ao n c]] w (GotZ w (iv s zs) zs.length) := by
  subst hn
  go_enter Try.func75, Try.ntmps75
  go_wp2_with fail
  refine (From_any s _ _ _ zs _ rfl (h.ext (((Ext.refl _).alloc _).alloc _)) (by first | omega | (simp; done) | (simp; omega))).mono ?_
  rintro e w1 ⟨r1s, r1a, r1c, r1z, r1B, rfl, r1b, r1o, r1k, r1v, r1l, xx⟩
  try simp at r1b
  try simp only [List.length_cons, List.length_nil] at r1l
  have hE : Ext w w1 := Ext.trans (((Ext.refl _).alloc _).alloc _) xx
  have hz1 : w.heap.size + 2 ≤ w1.heap.size := (by have hq := Ext.size xx; (try simp at hq); omega)
  have hb1 : w.heap.size + 1 < w1.heap.size := (by omega)
  have fq1_0 := Ext.free (p := ⟨w.heap.size + 1, 0, none⟩) (v := .bool false) xx (by first | exact True | go_simp | (repeat (first | assumption | (refine (World.cell?_setCell_far _ _ _ _ (by simp <;> omega)).trans ?_) | (refine (World.cell?_alloc_lt _ _ _ (World.block_lt_of_cell? _ _ (by assumption))).trans ?_) | go_simp))) (by first | assumption | go_simp)
  have q1_0 := Ext.cell (p := ⟨w.heap.size + 1, 0, none⟩) (v := .bool false) xx (by first | exact True | go_simp | (repeat (first | assumption | (refine (World.cell?_setCell_far _ _ _ _ (by simp <;> omega)).trans ?_) | (refine (World.cell?_alloc_lt _ _ _ (World.block_lt_of_cell? _ _ (by assumption))).trans ?_) | go_simp)))
  have fq1_1 := Ext.free (p := ⟨w.heap.size + 1, 1, none⟩) (v := .slice none 0 0) xx (by first | exact True | go_simp | (repeat (first | assumption | (refine (World.cell?_setCell_far _ _ _ _ (by simp <;> omega)).trans ?_) | (refine (World.cell?_alloc_lt _ _ _ (World.block_lt_of_cell? _ _ (by assumption))).trans ?_) | go_simp))) (by first | assumption | go_simp)
  have q1_1 := Ext.cell (p := ⟨w.heap.size + 1, 1, none⟩) (v := .slice none 0 0) xx (by first | exact True | go_simp | (repeat (first | assumption | (refine (World.cell?_setCell_far _ _ _ _ (by simp <;> omega)).trans ?_) | (refine (World.cell?_alloc_lt _ _ _ (World.block_lt_of_cell? _ _ (by assumption))).trans ?_) | go_simp)))
  clear xx
  go_wp2_with fail
  refine bodyPost_ret (v := .agg #[.bool r1s, .slice r1a r1z.length r1c]) (by simp [results, Try.results75, go_sem, q1_0, q1_1]) rfl ?_
  exact ⟨r1s, r1a, r1c, r1z, r1B, rfl, (by omega), (Own.st (Own.st r1o (b := w.heap.size + 1) (by omega) _ _) (b := w.heap.size + 1) (by omega) _ _), r1k, r1v, (by first | omega | (simp; done) | (simp; omega)), (Ext.st (Ext.st hE (b := w.heap.size + 1) (by omega) _ _) (b := w.heap.size + 1) (by omega) _ _)⟩
set_option maxRecDepth 100000 in
set_option maxHeartbeats 1000000 in
theorem RClean_any (s : Bool) (ao : Option Addr) (n c : Nat) (zs : List Nat) (w : World) (hn : n = zs.length) (h : Rd w ao c zs) (hl : zs.length ≤ 400000) :
    Calls Try.prog 21 #[.agg #[.bool s, .slice ao n c]] w (GotZ w (iv s zs) zs.length) := by
  subst hn
  go_enter Try.func21, Try.ntmps21
  go_wp2_with fail
  refine (RFrom_any s _ _ _ zs _ rfl (h.ext (((Ext.refl _).alloc _).alloc _)) (by first | omega | (simp; done) | (simp; omega))).mono ?_
  rintro e w1 ⟨r1s, r1a, r1c, r1z, r1B, rfl, r1b, r1o, r1k, r1v, r1l, xx⟩
  try simp at r1b
  try simp only [List.length_cons, List.length_nil] at r1l
  have hE : Ext w w1 := Ext.trans (((Ext.refl _).alloc _).alloc _) xx
  have hz1 : w.heap.size + 2 ≤ w1.heap.size := (by have hq := Ext.size xx; (try simp at hq); omega)
  have hb1 : w.heap.size + 1 < w1.heap.size := (by omega)
  have fq1_0 := Ext.free (p := ⟨w.heap.size + 1, 0, none⟩) (v := .bool false) xx (by first | exact True | go_simp | (repeat (first | assumption | (refine (World.cell?_setCell_far _ _ _ _ (by simp <;> omega)).trans ?_) | (refine (World.cell?_alloc_lt _ _ _ (World.block_lt_of_cell? _ _ (by assumption))).trans ?_) | go_simp))) (by first | assumption | go_simp)
  have q1_0 := Ext.cell (p := ⟨w.heap.size + 1, 0, none⟩) (v := .bool false) xx (by first | exact True | go_simp | (repeat (first | assumption | (refine (World.cell?_setCell_far _ _ _ _ (by simp <;> omega)).trans ?_) | (refine (World.cell?_alloc_lt _ _ _ (World.block_lt_of_cell? _ _ (by assumption))).trans ?_) | go_simp)))
  have fq1_1 := Ext.free (p := ⟨w.heap.size + 1, 1, none⟩) (v := .slice none 0 0) xx (by first | exact True | go_simp | (repeat (first | assumption | (refine (World.cell?_setCell_far _ _ _ _ (by simp <;> omega)).trans ?_) | (refine (World.cell?_alloc_lt _ _ _ (World.block_lt_of_cell? _ _ (by assumption))).trans ?_) | go_simp))) (by first | assumption | go_simp)
  have q1_1 := Ext.cell (p := ⟨w.heap.size + 1, 1, none⟩) (v := .slice none 0 0) xx (by first | exact True | go_simp | (repeat (first | assumption | (refine (World.cell?_setCell_far _ _ _ _ (by simp <;> omega)).trans ?_) | (refine (World.cell?_alloc_lt _ _ _ (World.block_lt_of_cell? _ _ (by assumption))).trans ?_) | go_simp)))
  clear xx
  go_wp2_with fail
  refine bodyPost_ret (v := .agg #[.bool r1s, .slice r1a r1z.length r1c]) (by simp [results, Try.results21, go_sem, q1_0, q1_1]) rfl ?_
  exact ⟨r1s, r1a, r1c, r1z, r1B, rfl, (by omega), (Own.st (Own.st r1o (b := w.heap.size + 1) (by omega) _ _) (b := w.heap.size + 1) (by omega) _ _), r1k, r1v, (by first | omega | (simp; done) | (simp; omega)), (Ext.st (Ext.st hE (b := w.heap.size + 1) (by omega) _ _) (b := w.heap.size + 1) (by omega) _ _)⟩
set_option maxRecDepth 100000 in
set_option maxHeartbeats 1000000 in
theorem ZAbs_any (s : Bool) (ao : Option Addr) (n c : Nat) (zs : List Nat) (w : World) (hn : n = zs.length) (h : Rd w ao c zs) (hl : zs.length ≤ 400000) :
    Calls Try.prog 34 #[.agg #[.bool s, .slice ao n c]] w (GotZ w (((iv s zs).natAbs : Int)) zs.length) := by
  subst hn
  go_enter Try.func34, Try.ntmps34
  go_wp2_with fail
  refine (From_any false _ _ _ zs _ rfl (h.ext (((Ext.refl _).alloc _).alloc _)) (by first | omega | (simp; done) | (simp; omega))).mono ?_
  rintro e w1 ⟨r1s, r1a, r1c, r1z, r1B, rfl, r1b, r1o, r1k, r1v, r1l, xx⟩
  try simp at r1b
  try simp only [List.length_cons, List.length_nil] at r1l
  have hE : Ext w w1 := Ext.trans (((Ext.refl _).alloc _).alloc _) xx
  have hz1 : w.heap.size + 2 ≤ w1.heap.size := (by have hq := Ext.size xx; (try simp at hq); omega)
  have hb1 : w.heap.size + 1 < w1.heap.size := (by omega)
  have fq1_0 := Ext.free (p := ⟨w.heap.size + 1, 0, none⟩) (v := .bool false) xx (by first | exact True | go_simp | (repeat (first | assumption | (refine (World.cell?_setCell_far _ _ _ _ (by simp <;> omega)).trans ?_) | (refine (World.cell?_alloc_lt _ _ _ (World.block_lt_of_cell? _ _ (by assumption))).trans ?_) | go_simp))) (by first | assumption | go_simp)
  have q1_0 := Ext.cell (p := ⟨w.heap.size + 1, 0, none⟩) (v := .bool false) xx (by first | exact True | go_simp | (repeat (first | assumption | (refine (World.cell?_setCell_far _ _ _ _ (by simp <;> omega)).trans ?_) | (refine (World.cell?_alloc_lt _ _ _ (World.block_lt_of_cell? _ _ (by assumption))).trans ?_) | go_simp)))
  have fq1_1 := Ext.free (p := ⟨w.heap.size + 1, 1, none⟩) (v := .slice none 0 0) xx (by first | exact True | go_simp | (repeat (first | assumption | (refine (World.cell?_setCell_far _ _ _ _ (by simp <;> omega)).trans ?_) | (refine (World.cell?_alloc_lt _ _ _ (World.block_lt_of_cell? _ _ (by assumption))).trans ?_) | go_simp))) (by first | assumption | go_simp)
  have q1_1 := Ext.cell (p := ⟨w.heap.size + 1, 1, none⟩) (v := .slice none 0 0) xx (by first | exact True | go_simp | (repeat (first | assumption | (refine (World.cell?_setCell_far _ _ _ _ (by simp <;> omega)).trans ?_) | (refine (World.cell?_alloc_lt _ _ _ (World.block_lt_of_cell? _ _ (by assumption))).trans ?_) | go_simp)))
  clear xx
  go_wp2_with fail
  refine bodyPost_ret (v := .agg #[.bool r1s, .slice r1a r1z.length r1c]) (by simp [results, Try.results34, go_sem, q1_0, q1_1]) rfl ?_
  exact ⟨r1s, r1a, r1c, r1z, r1B, rfl, (by omega), (Own.st (Own.st r1o (b := w.heap.size + 1) (by omega) _ _) (b := w.heap.size + 1) (by omega) _ _), r1k, (by unfold Hid; rw [iv_abs]; exact r1v.out), (by first | omega | (simp; done) | (simp; omega)), (Ext.st (Ext.st hE (b := w.heap.size + 1) (by omega) _ _) (b := w.heap.size + 1) (by omega) _ _)⟩
set_option maxRecDepth 100000 in
set_option maxHeartbeats 1000000 in
theorem RAbs_any (s : Bool) (ao : Option Addr) (n c : Nat) (zs : List Nat) (w : World) (hn : n = zs.length) (h : Rd w ao c zs) (hl : zs.length ≤ 400000) :
    Calls Try.prog 35 #[.agg #[.bool s, .slice ao n c]] w (GotZ w (((iv s zs).natAbs : Int)) zs.length) := by
  subst hn
  go_enter Try.func35, Try.ntmps35
  go_wp2_with fail
  refine (RFrom_any false _ _ _ zs _ rfl (h.ext (((Ext.refl _).alloc _).alloc _)) (by first | omega | (simp; done) | (simp; omega))).mono ?_
  rintro e w1 ⟨r1s, r1a, r1c, r1z, r1B, rfl, r1b, r1o, r1k, r1v, r1l, xx⟩
  try simp at r1b
  try simp only [List.length_cons, List.length_nil] at r1l
  have hE : Ext w w1 := Ext.trans (((Ext.refl _).alloc _).alloc _) xx
  have hz1 : w.heap.size + 2 ≤ w1.heap.size := (by have hq := Ext.size xx; (try simp at hq); omega)
  have hb1 : w.heap.size + 1 < w1.heap.size := (by omega)
  have fq1_0 := Ext.free (p := ⟨w.heap.size + 1, 0, none⟩) (v := .bool false) xx (by first | exact True | go_simp | (repeat (first | assumption | (refine (World.cell?_setCell_far _ _ _ _ (by simp <;> omega)).trans ?_) | (refine (World.cell?_alloc_lt _ _ _ (World.block_lt_of_cell? _ _ (by assumption))).trans ?_) | go_simp))) (by first | assumption | go_simp)
  have q1_0 := Ext.cell (p := ⟨w.heap.size + 1, 0, none⟩) (v := .bool false) xx (by first | exact True | go_simp | (repeat (first | assumption | (refine (World.cell?_setCell_far _ _ _ _ (by simp <;> omega)).trans ?_) | (refine (World.cell?_alloc_lt _ _ _ (World.block_lt_of_cell? _ _ (by assumption))).trans ?_) | go_simp)))
  have fq1_1 := Ext.free (p := ⟨w.heap.size + 1, 1, none⟩) (v := .slice none 0 0) xx (by first | exact True | go_simp | (repeat (first | assumption | (refine (World.cell?_setCell_far _ _ _ _ (by simp <;> omega)).trans ?_) | (refine (World.cell?_alloc_lt _ _ _ (World.block_lt_of_cell? _ _ (by assumption))).trans ?_) | go_simp))) (by first | assumption | go_simp)
  have q1_1 := Ext.cell (p := ⟨w.heap.size + 1, 1, none⟩) (v := .slice none 0 0) xx (by first | exact True | go_simp | (repeat (first | assumption | (refine (World.cell?_setCell_far _ _ _ _ (by simp <;> omega)).trans ?_) | (refine (World.cell?_alloc_lt _ _ _ (World.block_lt_of_cell? _ _ (by assumption))).trans ?_) | go_simp)))
  clear xx
  go_wp2_with fail
  refine bodyPost_ret (v := .agg #[.bool r1s, .slice r1a r1z.length r1c]) (by simp [results, Try.results35, go_sem, q1_0, q1_1]) rfl ?_
  exact ⟨r1s, r1a, r1c, r1z, r1B, rfl, (by omega), (Own.st (Own.st r1o (b := w.heap.size + 1) (by omega) _ _) (b := w.heap.size + 1) (by omega) _ _), r1k, (by unfold Hid; rw [iv_abs]; exact r1v.out), (by first | omega | (simp; done) | (simp; omega)), (Ext.st (Ext.st hE (b := w.heap.size + 1) (by omega) _ _) (b := w.heap.size + 1) (by omega) _ _)⟩
set_option maxRecDepth 100000 in
set_option maxHeartbeats 1000000 in
theorem ZNeg_any (s : Bool) (ao : Option Addr) (n c : Nat) (zs : List Nat) (w : World) (hn : n = zs.length) (h : Rd w ao c zs) (hl : zs.length ≤ 400000) :
    Calls Try.prog 32 #[.agg #[.bool s, .slice ao n c]] w (GotZ w (-iv s zs) zs.length) := by
  subst hn
  go_enter Try.func32, Try.ntmps32
  go_wp2_with fail
  refine (From_any (!s) _ _ _ zs _ rfl (h.ext (((Ext.refl _).alloc _).alloc _)) (by first | omega | (simp; done) | (simp; omega))).mono ?_
  rintro e w1 ⟨r1s, r1a, r1c, r1z, r1B, rfl, r1b, r1o, r1k, r1v, r1l, xx⟩
  try simp at r1b
  try simp only [List.length_cons, List.length_nil] at r1l
  have hE : Ext w w1 := Ext.trans (((Ext.refl _).alloc _).alloc _) xx
  have hz1 : w.heap.size + 2 ≤ w1.heap.size := (by have hq := Ext.size xx; (try simp at hq); omega)
  have hb1 : w.heap.size + 1 < w1.heap.size := (by omega)
  have fq1_0 := Ext.free (p := ⟨w.heap.size + 1, 0, none⟩) (v := .bool false) xx (by first | exact True | go_simp | (repeat (first | assumption | (refine (World.cell?_setCell_far _ _ _ _ (by simp <;> omega)).trans ?_) | (refine (World.cell?_alloc_lt _ _ _ (World.block_lt_of_cell? _ _ (by assumption))).trans ?_) | go_simp))) (by first | assumption | go_simp)
  have q1_0 := Ext.cell (p := ⟨w.heap.size + 1, 0, none⟩) (v := .bool false) xx (by first | exact True | go_simp | (repeat (first | assumption | (refine (World.cell?_setCell_far _ _ _ _ (by simp <;> omega)).trans ?_) | (refine (World.cell?_alloc_lt _ _ _ (World.block_lt_of_cell? _ _ (by assumption))).trans ?_) | go_simp)))
  have fq1_1 := Ext.free (p := ⟨w.heap.size + 1, 1, none⟩) (v := .slice none 0 0) xx (by first | exact True | go_simp | (repeat (first | assumption | (refine (World.cell?_setCell_far _ _ _ _ (by simp <;> omega)).trans ?_) | (refine (World.cell?_alloc_lt _ _ _ (World.block_lt_of_cell? _ _ (by assumption))).trans ?_) | go_simp))) (by first | assumption | go_simp)
  have q1_1 := Ext.cell (p := ⟨w.heap.size + 1, 1, none⟩) (v := .slice none 0 0) xx (by first | exact True | go_simp | (repeat (first | assumption | (refine (World.cell?_setCell_far _ _ _ _ (by simp <;> omega)).trans ?_) | (refine (World.cell?_alloc_lt _ _ _ (World.block_lt_of_cell? _ _ (by assumption))).trans ?_) | go_simp)))
  clear xx
  go_wp2_with fail
  refine bodyPost_ret (v := .agg #[.bool r1s, .slice r1a r1z.length r1c]) (by simp [results, Try.results32, go_sem, q1_0, q1_1]) rfl ?_
  exact ⟨r1s, r1a, r1c, r1z, r1B, rfl, (by omega), (Own.st (Own.st r1o (b := w.heap.size + 1) (by omega) _ _) (b := w.heap.size + 1) (by omega) _ _), r1k, (by unfold Hid; rw [r1v.out]; cases s <;> simp [iv]), (by first | omega | (simp; done) | (simp; omega)), (Ext.st (Ext.st hE (b := w.heap.size + 1) (by omega) _ _) (b := w.heap.size + 1) (by omega) _ _)⟩
set_option maxRecDepth 100000 in
set_option maxHeartbeats 1000000 in
theorem RNeg_any (s : Bool) (ao : Option Addr) (n c : Nat) (zs : List Nat) (w : World) (hn : n = zs.length) (h : Rd w ao c zs) (hl : zs.length ≤ 400000) :
    Calls Try.prog 33 #[.agg #[.bool s, .slice ao n c]] w (GotZ w (-iv s zs) zs.length) := by
  subst hn
  go_enter Try.func33, Try.ntmps33
  go_wp2_with fail
  refine (RFrom_any (!s) _ _ _ zs _ rfl (h.ext (((Ext.refl _).alloc _).alloc _)) (by first | omega | (simp; done) | (simp; omega))).mono ?_
  rintro e w1 ⟨r1s, r1a, r1c, r1z, r1B, rfl, r1b, r1o, r1k, r1v, r1l, xx⟩
  try simp at r1b
  try simp only [List.length_cons, List.length_nil] at r1l
  have hE : Ext w w1 := Ext.trans (((Ext.refl _).alloc _).alloc _) xx
  have hz1 : w.heap.size + 2 ≤ w1.heap.size := (by have hq := Ext.size xx; (try simp at hq); omega)
  have hb1 : w.heap.size + 1 < w1.heap.size := (by omega)
  have fq1_0 := Ext.free (p := ⟨w.heap.size + 1, 0, none⟩) (v := .bool false) xx (by first | exact True | go_simp | (repeat (first | assumption | (refine (World.cell?_setCell_far _ _ _ _ (by simp <;> omega)).trans ?_) | (refine (World.cell?_alloc_lt _ _ _ (World.block_lt_of_cell? _ _ (by assumption))).trans ?_) | go_simp))) (by first | assumption | go_simp)
  have q1_0 := Ext.cell (p := ⟨w.heap.size + 1, 0, none⟩) (v := .bool false) xx (by first | exact True | go_simp | (repeat (first | assumption | (refine (World.cell?_setCell_far _ _ _ _ (by simp <;> omega)).trans ?_) | (refine (World.cell?_alloc_lt _ _ _ (World.block_lt_of_cell? _ _ (by assumption))).trans ?_) | go_simp)))
  have fq1_1 := Ext.free (p := ⟨w.heap.size + 1, 1, none⟩) (v := .slice none 0 0) xx (by first | exact True | go_simp | (repeat (first | assumption | (refine (World.cell?_setCell_far _ _ _ _ (by simp <;> omega)).trans ?_) | (refine (World.cell?_alloc_lt _ _ _ (World.block_lt_of_cell? _ _ (by assumption))).trans ?_) | go_simp))) (by first | assumption | go_simp)
  have q1_1 := Ext.cell (p := ⟨w.heap.size + 1, 1, none⟩) (v := .slice none 0 0) xx (by first | exact True | go_simp | (repeat (first | assumption | (refine (World.cell?_setCell_far _ _ _ _ (by simp <;> omega)).trans ?_) | (refine (World.cell?_alloc_lt _ _ _ (World.block_lt_of_cell? _ _ (by assumption))).trans ?_) | go_simp)))
  clear xx
  go_wp2_with fail
  refine bodyPost_ret (v := .agg #[.bool r1s, .slice r1a r1z.length r1c]) (by simp [results, Try.results33, go_sem, q1_0, q1_1]) rfl ?_
  exact ⟨r1s, r1a, r1c, r1z, r1B, rfl, (by omega), (Own.st (Own.st r1o (b := w.heap.size + 1) (by omega) _ _) (b := w.heap.size + 1) (by omega) _ _), r1k, (by unfold Hid; rw [r1v.out]; cases s <;> simp [iv]), (by first | omega | (simp; done) | (simp; omega)), (Ext.st (Ext.st hE (b := w.heap.size + 1) (by omega) _ _) (b := w.heap.size + 1) (by omega) _ _)⟩
end Go.Proofs.Ytehbfobfkpejoaa
