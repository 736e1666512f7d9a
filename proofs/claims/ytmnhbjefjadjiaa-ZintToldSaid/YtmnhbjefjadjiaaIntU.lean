/-
  Contracts of the reference's Parse of zint.
-/
import Derived.Test.YtmnhbjefjadjiaaIntT
namespace Go.Proofs.Ytmnhbjefjadjiaa
open Go.RowKit


theorem cutZ_none {s : ByteArray} (h : s.size = 0 ∨ ch s 0 ≠ 45) : cutZ s = (s, false) := by
  have hf : Lib.hasPrefix s.data.toList [45] = false := by
    obtain ⟨⟨l⟩⟩ := s
    cases l with
    | nil => rfl
    | cons a l =>
      rcases h with h | h
      · simp [ByteArray.size] at h
      · have h2 : a ≠ 45 := by
          intro e; apply h; rw [e]; rfl
        simp [Lib.hasPrefix, List.isPrefixOf, Ne.symm h2]
  unfold cutZ Lib.trimPrefix
  rw [hf]
  rfl
theorem cutZ_some {s : ByteArray} (h0 : 0 < s.size) (h : ch s 0 = 45) : cutZ s = (s.extract 1 s.size, true) := by
  have hf : Lib.hasPrefix s.data.toList [45] = true := by
    obtain ⟨⟨l⟩⟩ := s
    cases l with
    | nil => simp [ByteArray.size] at h0
    | cons a l =>
      have h2 : a = 45 := UInt8.toNat_inj.1 h
      simp [Lib.hasPrefix, List.isPrefixOf, h2]
  unfold cutZ Lib.trimPrefix
  rw [hf]
  refine Prod.ext ?_ rfl
  apply ByteArray.ext
  apply Array.toList_inj.1
  simp
  refine (List.take_of_length_le ?_).symm
  rw [List.length_tail, Array.length_toList]
  exact Nat.le_refl _

set_option maxRecDepth 100000 in
set_option maxHeartbeats 2000000 in
theorem RZParse_any (s : ByteArray) (w : World) (er z : Int) (hq : parseZ s = (er, z)) :
    Calls Try.prog 60 #[.string s] w (GotZE w z 4001 er) := by
  obtain ⟨⟨u, b⟩, hc⟩ : ∃ p, cutZ s = p := ⟨_, rfl⟩
  obtain ⟨⟨er2, m⟩, hp⟩ : ∃ p, parseV u = p := ⟨_, rfl⟩
  have her := parseV_err u
  rw [hp] at her
  by_cases hs : 0 < s.size
  · have hchk : (∀ w, (Instr.index 9 (.string s) (.int .i64 0)).run Try.prog w = .ok (.int .u8 (ch s 0)) w) := chk s 0 hs
    have hd : decide ((0 : Int) < (s.size : Int)) = true := decide_eq_true (by omega)
    by_cases h45 : ch s 0 = 45
    · obtain ⟨rfl, rfl⟩ := Prod.mk.inj ((cutZ_some hs h45).symm.trans hc)
      have h45 : ((ch s 0 : Int) == 45) = true := by simp [h45]
      by_cases h0 : er2 = 0
      · subst h0
        have hr := Lib.hid (parseZ_ok hc hp hq)
        replace hp := Lib.hid hp
        clear hq her hc
        go_enter Try.func60, Try.ntmps60
        go_wp2_with fail
        refine (RParseM (s.extract 1 s.size) _ 0 m hp.out).mono ?_
        rintro e w1 ⟨r1a, r1c, r1z, r1B, rfl, r1b, r1o, r1k, r1v, r1l, xx⟩
        try simp at r1b
        have hE : Ext w w1 := Ext.trans ((Ext.refl _).alloc _) xx
        have hz1 : w.heap.size + 1 ≤ w1.heap.size := (by have hq := Ext.size xx; (try simp at hq); omega)
        have hb0 : w.heap.size < w1.heap.size := (by omega)
        have fq0_0 := Ext.free (p := ⟨w.heap.size, 0, none⟩) (v := .bool false) xx (by first | exact True | (go_simp; done) | (repeat (first | assumption | (refine (World.cell?_setCell_far _ _ _ _ (by simp <;> omega)).trans ?_) | (refine (World.cell?_alloc_lt _ _ _ (World.block_lt_of_cell? _ _ (by assumption))).trans ?_) | (go_simp; done)))) (by first | assumption | (go_simp; done))
        have q0_0 := Ext.cell (p := ⟨w.heap.size, 0, none⟩) (v := .bool false) xx (by first | exact True | (go_simp; done) | (repeat (first | assumption | (refine (World.cell?_setCell_far _ _ _ _ (by simp <;> omega)).trans ?_) | (refine (World.cell?_alloc_lt _ _ _ (World.block_lt_of_cell? _ _ (by assumption))).trans ?_) | (go_simp; done))))
        have fq0_1 := Ext.free (p := ⟨w.heap.size, 1, none⟩) (v := .slice none 0 0) xx (by first | exact True | (go_simp; done) | (repeat (first | assumption | (refine (World.cell?_setCell_far _ _ _ _ (by simp <;> omega)).trans ?_) | (refine (World.cell?_alloc_lt _ _ _ (World.block_lt_of_cell? _ _ (by assumption))).trans ?_) | (go_simp; done)))) (by first | assumption | (go_simp; done))
        have q0_1 := Ext.cell (p := ⟨w.heap.size, 1, none⟩) (v := .slice none 0 0) xx (by first | exact True | (go_simp; done) | (repeat (first | assumption | (refine (World.cell?_setCell_far _ _ _ _ (by simp <;> omega)).trans ?_) | (refine (World.cell?_alloc_lt _ _ _ (World.block_lt_of_cell? _ _ (by assumption))).trans ?_) | (go_simp; done))))
        clear xx
        go_wp2_with fail
        refine (RFrom_any true _ _ _ r1z _ rfl r1o.rd (by first | omega | (simp; done) | (simp; omega))).mono ?_
        rintro e w2 ⟨r2s, r2a, r2c, r2z, r2B, rfl, r2b, r2o, r2k, r2v, r2l, xx⟩
        try simp at r2b
        try simp only [List.length_cons, List.length_nil] at r2l
        replace hE := Ext.trans hE xx
        have hz2 : w1.heap.size ≤ w2.heap.size := (by have hq := Ext.size xx; (try simp at hq); omega)
        have hb0 : w.heap.size < w2.heap.size := (by omega)
        have fq0_0 := Ext.free (p := ⟨w.heap.size, 0, none⟩) (v := .bool false) xx q0_0 fq0_0
        have q0_0 := Ext.cell (p := ⟨w.heap.size, 0, none⟩) (v := .bool false) xx q0_0
        have fq0_1 := Ext.free (p := ⟨w.heap.size, 1, none⟩) (v := .slice none 0 0) xx q0_1 fq0_1
        have q0_1 := Ext.cell (p := ⟨w.heap.size, 1, none⟩) (v := .slice none 0 0) xx q0_1
        clear xx
        go_wp2_with fail
        refine bodyPost_ret (v := .tuple #[.agg #[.bool r2s, .slice r2a r2z.length r2c], .int .i64 0]) (by simp [results, Try.results60, go_sem, q0_0, q0_1]) rfl ?_
        rw [(Prod.mk.inj hr.out).1, (Prod.mk.inj hr.out).2]
        exact ⟨r2s, r2a, r2c, r2z, r2B, rfl, (by omega), (Own.st (Own.st r2o (b := w.heap.size) (by omega) _ _) (b := w.heap.size) (by omega) _ _), r2k, (by unfold Hid; rw [r2v.out]; unfold iv; rw [r1v.out]; (try simp)), (by first | omega | (simp; done) | (simp; omega)), (Ext.st (Ext.st hE (b := w.heap.size) (by omega) _ _) (b := w.heap.size) (by omega) _ _)⟩
      · have hr := Lib.hid (parseZ_err hc hp h0 hq)
        have hne : (er2 != 0) = true := by simpa using h0
        replace hp := Lib.hid hp
        clear hq hc
        go_enter Try.func60, Try.ntmps60
        go_wp2_with fail
        refine (RParseM (s.extract 1 s.size) _ er2 m hp.out).mono ?_
        rintro e w1 ⟨r1a, r1c, r1z, r1B, rfl, r1b, r1o, r1k, r1v, r1l, xx⟩
        try simp at r1b
        have hE : Ext w w1 := Ext.trans ((Ext.refl _).alloc _) xx
        have hz1 : w.heap.size + 1 ≤ w1.heap.size := (by have hq := Ext.size xx; (try simp at hq); omega)
        have hb0 : w.heap.size < w1.heap.size := (by omega)
        have fq0_0 := Ext.free (p := ⟨w.heap.size, 0, none⟩) (v := .bool false) xx (by first | exact True | (go_simp; done) | (repeat (first | assumption | (refine (World.cell?_setCell_far _ _ _ _ (by simp <;> omega)).trans ?_) | (refine (World.cell?_alloc_lt _ _ _ (World.block_lt_of_cell? _ _ (by assumption))).trans ?_) | (go_simp; done)))) (by first | assumption | (go_simp; done))
        have q0_0 := Ext.cell (p := ⟨w.heap.size, 0, none⟩) (v := .bool false) xx (by first | exact True | (go_simp; done) | (repeat (first | assumption | (refine (World.cell?_setCell_far _ _ _ _ (by simp <;> omega)).trans ?_) | (refine (World.cell?_alloc_lt _ _ _ (World.block_lt_of_cell? _ _ (by assumption))).trans ?_) | (go_simp; done))))
        have fq0_1 := Ext.free (p := ⟨w.heap.size, 1, none⟩) (v := .slice none 0 0) xx (by first | exact True | (go_simp; done) | (repeat (first | assumption | (refine (World.cell?_setCell_far _ _ _ _ (by simp <;> omega)).trans ?_) | (refine (World.cell?_alloc_lt _ _ _ (World.block_lt_of_cell? _ _ (by assumption))).trans ?_) | (go_simp; done)))) (by first | assumption | (go_simp; done))
        have q0_1 := Ext.cell (p := ⟨w.heap.size, 1, none⟩) (v := .slice none 0 0) xx (by first | exact True | (go_simp; done) | (repeat (first | assumption | (refine (World.cell?_setCell_far _ _ _ _ (by simp <;> omega)).trans ?_) | (refine (World.cell?_alloc_lt _ _ _ (World.block_lt_of_cell? _ _ (by assumption))).trans ?_) | (go_simp; done))))
        clear xx
        go_wp2_with fail
        refine bodyPost_ret (v := .tuple #[.agg #[.bool false, .slice none 0 0], .int .i64 er2]) (by simp [results, Try.results60, go_sem, q0_0, q0_1]) rfl ?_
        rw [(Prod.mk.inj hr.out).1, (Prod.mk.inj hr.out).2]
        exact ⟨false, none, 0, [], _, rfl, (Nat.le_refl _), (Own.nil _ _), CanZ.nil, (iv_nil _), (by first | omega | (simp; done) | (simp; omega)), (Ext.st (Ext.st hE (b := w.heap.size) (by omega) _ _) (b := w.heap.size) (by omega) _ _)⟩
    · obtain ⟨rfl, rfl⟩ := Prod.mk.inj ((cutZ_none (.inr h45)).symm.trans hc)
      have h45 : ((ch s 0 : Int) == 45) = false := beq_eq_false_iff_ne.2 (by omega)
      by_cases h0 : er2 = 0
      · subst h0
        have hr := Lib.hid (parseZ_ok hc hp hq)
        replace hp := Lib.hid hp
        clear hq her hc
        go_enter Try.func60, Try.ntmps60
        go_wp2_with fail
        refine (RParseM s _ 0 m hp.out).mono ?_
        rintro e w1 ⟨r1a, r1c, r1z, r1B, rfl, r1b, r1o, r1k, r1v, r1l, xx⟩
        try simp at r1b
        have hE : Ext w w1 := Ext.trans ((Ext.refl _).alloc _) xx
        have hz1 : w.heap.size + 1 ≤ w1.heap.size := (by have hq := Ext.size xx; (try simp at hq); omega)
        have hb0 : w.heap.size < w1.heap.size := (by omega)
        have fq0_0 := Ext.free (p := ⟨w.heap.size, 0, none⟩) (v := .bool false) xx (by first | exact True | (go_simp; done) | (repeat (first | assumption | (refine (World.cell?_setCell_far _ _ _ _ (by simp <;> omega)).trans ?_) | (refine (World.cell?_alloc_lt _ _ _ (World.block_lt_of_cell? _ _ (by assumption))).trans ?_) | (go_simp; done)))) (by first | assumption | (go_simp; done))
        have q0_0 := Ext.cell (p := ⟨w.heap.size, 0, none⟩) (v := .bool false) xx (by first | exact True | (go_simp; done) | (repeat (first | assumption | (refine (World.cell?_setCell_far _ _ _ _ (by simp <;> omega)).trans ?_) | (refine (World.cell?_alloc_lt _ _ _ (World.block_lt_of_cell? _ _ (by assumption))).trans ?_) | (go_simp; done))))
        have fq0_1 := Ext.free (p := ⟨w.heap.size, 1, none⟩) (v := .slice none 0 0) xx (by first | exact True | (go_simp; done) | (repeat (first | assumption | (refine (World.cell?_setCell_far _ _ _ _ (by simp <;> omega)).trans ?_) | (refine (World.cell?_alloc_lt _ _ _ (World.block_lt_of_cell? _ _ (by assumption))).trans ?_) | (go_simp; done)))) (by first | assumption | (go_simp; done))
        have q0_1 := Ext.cell (p := ⟨w.heap.size, 1, none⟩) (v := .slice none 0 0) xx (by first | exact True | (go_simp; done) | (repeat (first | assumption | (refine (World.cell?_setCell_far _ _ _ _ (by simp <;> omega)).trans ?_) | (refine (World.cell?_alloc_lt _ _ _ (World.block_lt_of_cell? _ _ (by assumption))).trans ?_) | (go_simp; done))))
        clear xx
        go_wp2_with fail
        refine (RFrom_any false _ _ _ r1z _ rfl r1o.rd (by first | omega | (simp; done) | (simp; omega))).mono ?_
        rintro e w2 ⟨r2s, r2a, r2c, r2z, r2B, rfl, r2b, r2o, r2k, r2v, r2l, xx⟩
        try simp at r2b
        try simp only [List.length_cons, List.length_nil] at r2l
        replace hE := Ext.trans hE xx
        have hz2 : w1.heap.size ≤ w2.heap.size := (by have hq := Ext.size xx; (try simp at hq); omega)
        have hb0 : w.heap.size < w2.heap.size := (by omega)
        have fq0_0 := Ext.free (p := ⟨w.heap.size, 0, none⟩) (v := .bool false) xx q0_0 fq0_0
        have q0_0 := Ext.cell (p := ⟨w.heap.size, 0, none⟩) (v := .bool false) xx q0_0
        have fq0_1 := Ext.free (p := ⟨w.heap.size, 1, none⟩) (v := .slice none 0 0) xx q0_1 fq0_1
        have q0_1 := Ext.cell (p := ⟨w.heap.size, 1, none⟩) (v := .slice none 0 0) xx q0_1
        clear xx
        go_wp2_with fail
        refine bodyPost_ret (v := .tuple #[.agg #[.bool r2s, .slice r2a r2z.length r2c], .int .i64 0]) (by simp [results, Try.results60, go_sem, q0_0, q0_1]) rfl ?_
        rw [(Prod.mk.inj hr.out).1, (Prod.mk.inj hr.out).2]
        exact ⟨r2s, r2a, r2c, r2z, r2B, rfl, (by omega), (Own.st (Own.st r2o (b := w.heap.size) (by omega) _ _) (b := w.heap.size) (by omega) _ _), r2k, (by unfold Hid; rw [r2v.out]; unfold iv; rw [r1v.out]; (try simp)), (by first | omega | (simp; done) | (simp; omega)), (Ext.st (Ext.st hE (b := w.heap.size) (by omega) _ _) (b := w.heap.size) (by omega) _ _)⟩
      · have hr := Lib.hid (parseZ_err hc hp h0 hq)
        have hne : (er2 != 0) = true := by simpa using h0
        replace hp := Lib.hid hp
        clear hq hc
        go_enter Try.func60, Try.ntmps60
        go_wp2_with fail
        refine (RParseM s _ er2 m hp.out).mono ?_
        rintro e w1 ⟨r1a, r1c, r1z, r1B, rfl, r1b, r1o, r1k, r1v, r1l, xx⟩
        try simp at r1b
        have hE : Ext w w1 := Ext.trans ((Ext.refl _).alloc _) xx
        have hz1 : w.heap.size + 1 ≤ w1.heap.size := (by have hq := Ext.size xx; (try simp at hq); omega)
        have hb0 : w.heap.size < w1.heap.size := (by omega)
        have fq0_0 := Ext.free (p := ⟨w.heap.size, 0, none⟩) (v := .bool false) xx (by first | exact True | (go_simp; done) | (repeat (first | assumption | (refine (World.cell?_setCell_far _ _ _ _ (by simp <;> omega)).trans ?_) | (refine (World.cell?_alloc_lt _ _ _ (World.block_lt_of_cell? _ _ (by assumption))).trans ?_) | (go_simp; done)))) (by first | assumption | (go_simp; done))
        have q0_0 := Ext.cell (p := ⟨w.heap.size, 0, none⟩) (v := .bool false) xx (by first | exact True | (go_simp; done) | (repeat (first | assumption | (refine (World.cell?_setCell_far _ _ _ _ (by simp <;> omega)).trans ?_) | (refine (World.cell?_alloc_lt _ _ _ (World.block_lt_of_cell? _ _ (by assumption))).trans ?_) | (go_simp; done))))
        have fq0_1 := Ext.free (p := ⟨w.heap.size, 1, none⟩) (v := .slice none 0 0) xx (by first | exact True | (go_simp; done) | (repeat (first | assumption | (refine (World.cell?_setCell_far _ _ _ _ (by simp <;> omega)).trans ?_) | (refine (World.cell?_alloc_lt _ _ _ (World.block_lt_of_cell? _ _ (by assumption))).trans ?_) | (go_simp; done)))) (by first | assumption | (go_simp; done))
        have q0_1 := Ext.cell (p := ⟨w.heap.size, 1, none⟩) (v := .slice none 0 0) xx (by first | exact True | (go_simp; done) | (repeat (first | assumption | (refine (World.cell?_setCell_far _ _ _ _ (by simp <;> omega)).trans ?_) | (refine (World.cell?_alloc_lt _ _ _ (World.block_lt_of_cell? _ _ (by assumption))).trans ?_) | (go_simp; done))))
        clear xx
        go_wp2_with fail
        refine bodyPost_ret (v := .tuple #[.agg #[.bool false, .slice none 0 0], .int .i64 er2]) (by simp [results, Try.results60, go_sem, q0_0, q0_1]) rfl ?_
        rw [(Prod.mk.inj hr.out).1, (Prod.mk.inj hr.out).2]
        exact ⟨false, none, 0, [], _, rfl, (Nat.le_refl _), (Own.nil _ _), CanZ.nil, (iv_nil _), (by first | omega | (simp; done) | (simp; omega)), (Ext.st (Ext.st hE (b := w.heap.size) (by omega) _ _) (b := w.heap.size) (by omega) _ _)⟩
  · obtain ⟨rfl, rfl⟩ := Prod.mk.inj ((cutZ_none (.inl (by omega))).symm.trans hc)
    have hd : decide ((0 : Int) < (s.size : Int)) = false := decide_eq_false (by omega)
    by_cases h0 : er2 = 0
    · subst h0
      have hr := Lib.hid (parseZ_ok hc hp hq)
      replace hp := Lib.hid hp
      clear hq her hc
      go_enter Try.func60, Try.ntmps60
      go_wp2_with fail
      refine (RParseM s _ 0 m hp.out).mono ?_
      rintro e w1 ⟨r1a, r1c, r1z, r1B, rfl, r1b, r1o, r1k, r1v, r1l, xx⟩
      try simp at r1b
      have hE : Ext w w1 := Ext.trans ((Ext.refl _).alloc _) xx
      have hz1 : w.heap.size + 1 ≤ w1.heap.size := (by have hq := Ext.size xx; (try simp at hq); omega)
      have hb0 : w.heap.size < w1.heap.size := (by omega)
      have fq0_0 := Ext.free (p := ⟨w.heap.size, 0, none⟩) (v := .bool false) xx (by first | exact True | (go_simp; done) | (repeat (first | assumption | (refine (World.cell?_setCell_far _ _ _ _ (by simp <;> omega)).trans ?_) | (refine (World.cell?_alloc_lt _ _ _ (World.block_lt_of_cell? _ _ (by assumption))).trans ?_) | (go_simp; done)))) (by first | assumption | (go_simp; done))
      have q0_0 := Ext.cell (p := ⟨w.heap.size, 0, none⟩) (v := .bool false) xx (by first | exact True | (go_simp; done) | (repeat (first | assumption | (refine (World.cell?_setCell_far _ _ _ _ (by simp <;> omega)).trans ?_) | (refine (World.cell?_alloc_lt _ _ _ (World.block_lt_of_cell? _ _ (by assumption))).trans ?_) | (go_simp; done))))
      have fq0_1 := Ext.free (p := ⟨w.heap.size, 1, none⟩) (v := .slice none 0 0) xx (by first | exact True | (go_simp; done) | (repeat (first | assumption | (refine (World.cell?_setCell_far _ _ _ _ (by simp <;> omega)).trans ?_) | (refine (World.cell?_alloc_lt _ _ _ (World.block_lt_of_cell? _ _ (by assumption))).trans ?_) | (go_simp; done)))) (by first | assumption | (go_simp; done))
      have q0_1 := Ext.cell (p := ⟨w.heap.size, 1, none⟩) (v := .slice none 0 0) xx (by first | exact True | (go_simp; done) | (repeat (first | assumption | (refine (World.cell?_setCell_far _ _ _ _ (by simp <;> omega)).trans ?_) | (refine (World.cell?_alloc_lt _ _ _ (World.block_lt_of_cell? _ _ (by assumption))).trans ?_) | (go_simp; done))))
      clear xx
      go_wp2_with fail
      refine (RFrom_any false _ _ _ r1z _ rfl r1o.rd (by first | omega | (simp; done) | (simp; omega))).mono ?_
      rintro e w2 ⟨r2s, r2a, r2c, r2z, r2B, rfl, r2b, r2o, r2k, r2v, r2l, xx⟩
      try simp at r2b
      try simp only [List.length_cons, List.length_nil] at r2l
      replace hE := Ext.trans hE xx
      have hz2 : w1.heap.size ≤ w2.heap.size := (by have hq := Ext.size xx; (try simp at hq); omega)
      have hb0 : w.heap.size < w2.heap.size := (by omega)
      have fq0_0 := Ext.free (p := ⟨w.heap.size, 0, none⟩) (v := .bool false) xx q0_0 fq0_0
      have q0_0 := Ext.cell (p := ⟨w.heap.size, 0, none⟩) (v := .bool false) xx q0_0
      have fq0_1 := Ext.free (p := ⟨w.heap.size, 1, none⟩) (v := .slice none 0 0) xx q0_1 fq0_1
      have q0_1 := Ext.cell (p := ⟨w.heap.size, 1, none⟩) (v := .slice none 0 0) xx q0_1
      clear xx
      go_wp2_with fail
      refine bodyPost_ret (v := .tuple #[.agg #[.bool r2s, .slice r2a r2z.length r2c], .int .i64 0]) (by simp [results, Try.results60, go_sem, q0_0, q0_1]) rfl ?_
      rw [(Prod.mk.inj hr.out).1, (Prod.mk.inj hr.out).2]
      exact ⟨r2s, r2a, r2c, r2z, r2B, rfl, (by omega), (Own.st (Own.st r2o (b := w.heap.size) (by omega) _ _) (b := w.heap.size) (by omega) _ _), r2k, (by unfold Hid; rw [r2v.out]; unfold iv; rw [r1v.out]; (try simp)), (by first | omega | (simp; done) | (simp; omega)), (Ext.st (Ext.st hE (b := w.heap.size) (by omega) _ _) (b := w.heap.size) (by omega) _ _)⟩
    · have hr := Lib.hid (parseZ_err hc hp h0 hq)
      have hne : (er2 != 0) = true := by simpa using h0
      replace hp := Lib.hid hp
      clear hq hc
      go_enter Try.func60, Try.ntmps60
      go_wp2_with fail
      refine (RParseM s _ er2 m hp.out).mono ?_
      rintro e w1 ⟨r1a, r1c, r1z, r1B, rfl, r1b, r1o, r1k, r1v, r1l, xx⟩
      try simp at r1b
      have hE : Ext w w1 := Ext.trans ((Ext.refl _).alloc _) xx
      have hz1 : w.heap.size + 1 ≤ w1.heap.size := (by have hq := Ext.size xx; (try simp at hq); omega)
      have hb0 : w.heap.size < w1.heap.size := (by omega)
      have fq0_0 := Ext.free (p := ⟨w.heap.size, 0, none⟩) (v := .bool false) xx (by first | exact True | (go_simp; done) | (repeat (first | assumption | (refine (World.cell?_setCell_far _ _ _ _ (by simp <;> omega)).trans ?_) | (refine (World.cell?_alloc_lt _ _ _ (World.block_lt_of_cell? _ _ (by assumption))).trans ?_) | (go_simp; done)))) (by first | assumption | (go_simp; done))
      have q0_0 := Ext.cell (p := ⟨w.heap.size, 0, none⟩) (v := .bool false) xx (by first | exact True | (go_simp; done) | (repeat (first | assumption | (refine (World.cell?_setCell_far _ _ _ _ (by simp <;> omega)).trans ?_) | (refine (World.cell?_alloc_lt _ _ _ (World.block_lt_of_cell? _ _ (by assumption))).trans ?_) | (go_simp; done))))
      have fq0_1 := Ext.free (p := ⟨w.heap.size, 1, none⟩) (v := .slice none 0 0) xx (by first | exact True | (go_simp; done) | (repeat (first | assumption | (refine (World.cell?_setCell_far _ _ _ _ (by simp <;> omega)).trans ?_) | (refine (World.cell?_alloc_lt _ _ _ (World.block_lt_of_cell? _ _ (by assumption))).trans ?_) | (go_simp; done)))) (by first | assumption | (go_simp; done))
      have q0_1 := Ext.cell (p := ⟨w.heap.size, 1, none⟩) (v := .slice none 0 0) xx (by first | exact True | (go_simp; done) | (repeat (first | assumption | (refine (World.cell?_setCell_far _ _ _ _ (by simp <;> omega)).trans ?_) | (refine (World.cell?_alloc_lt _ _ _ (World.block_lt_of_cell? _ _ (by assumption))).trans ?_) | (go_simp; done))))
      clear xx
      go_wp2_with fail
      refine bodyPost_ret (v := .tuple #[.agg #[.bool false, .slice none 0 0], .int .i64 er2]) (by simp [results, Try.results60, go_sem, q0_0, q0_1]) rfl ?_
      rw [(Prod.mk.inj hr.out).1, (Prod.mk.inj hr.out).2]
      exact ⟨false, none, 0, [], _, rfl, (Nat.le_refl _), (Own.nil _ _), CanZ.nil, (iv_nil _), (by first | omega | (simp; done) | (simp; omega)), (Ext.st (Ext.st hE (b := w.heap.size) (by omega) _ _) (b := w.heap.size) (by omega) _ _)⟩
end Go.Proofs.Ytmnhbjefjadjiaa
