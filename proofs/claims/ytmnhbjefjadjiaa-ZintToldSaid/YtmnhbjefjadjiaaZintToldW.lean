/-
  Contracts of the walk of the statement ZintTold.
-/
import Derived.Test.YtmnhbjefjadjiaaIntV
namespace Go.Proofs.Ytmnhbjefjadjiaa
open Go.RowKit

theorem cutZ_neg (t : ByteArray) : cutZ ((⟨#[45]⟩ : ByteArray) ++ t) = (t, true) := by
  have e : ((⟨#[45]⟩ : ByteArray) ++ t).data.toList = 45 :: t.data.toList := by simp [ByteArray.data_append]
  unfold cutZ
  rw [e]
  unfold Lib.trimPrefix
  rw [show Lib.hasPrefix (45 :: t.data.toList) [45] = true by simp [Lib.hasPrefix, List.isPrefixOf]]
  rfl
theorem ch_neg (t : ByteArray) : ch ((⟨#[45]⟩ : ByteArray) ++ t) 0 = 45 := by rw [ch_bytes, bytes_append]; rfl
theorem neg_bad {t : ByteArray} (h : t.size ≤ 3000) : parseV ((⟨#[45]⟩ : ByteArray) ++ t) = (20, 0) := by
  refine parseV_bad ?_ (.inr fun hd => ?_)
  · rw [ByteArray.size_append]; show ¬ 4000 < 1 + t.size; omega
  · have h1 := (alld_allD _).1 hd 45 (by rw [bytes_append]; exact List.mem_append_left _ (by decide))
    omega
theorem isT_ch {t : ByteArray} {n : Nat} (h : isT (bytes t) n) : 0 < t.size ∧ ch t 0 ≠ 45 := by
  have h1 := h.1
  have h2 := h.2.1
  rw [bytes_length] at h1
  refine ⟨h1, ?_⟩
  rw [ch_bytes]
  cases hb : bytes t with
  | nil => have := h.1; rw [hb] at this; simp at this
  | cons a l =>
    have := h2 a (by rw [hb]; simp)
    show a ≠ 45
    omega
theorem isT_size {zs : List Nat} {t : ByteArray} (hb : Lb zs) (ht : isT (bytes t) (val zs)) (hl : zs.length ≤ 60) : t.size ≤ 601 := by
  have h1 : val zs < 10 ^ (10 * zs.length + 1) := Nat.lt_of_lt_of_le (Nat.lt_of_lt_of_le (val_lt hb) (pw_10 _)) (Nat.pow_le_pow_right (by omega) (by omega))
  have := isT_short ht h1 (by omega)
  rw [bytes_length] at this
  omega
theorem parseZ_neg {t : ByteArray} {m : Nat} (ht : isT (bytes t) m) (hs : t.size ≤ 3000) : parseZ ((⟨#[45]⟩ : ByteArray) ++ t) = (0, -(m : Int)) := by
  exact (parseZ_ok (cutZ_neg t) (parse_isT ht (by omega)) rfl).trans rfl
theorem parseZ_pos {t : ByteArray} {m : Nat} (ht : isT (bytes t) m) (hs : t.size ≤ 3000) : parseZ t = (0, (m : Int)) := by
  exact (parseZ_ok (cutZ_none (.inr (isT_ch ht).2)) (parse_isT ht (by omega)) rfl).trans rfl
theorem parseZ_twice {t : ByteArray} (hs : t.size ≤ 2000) : parseZ ((⟨#[45]⟩ : ByteArray) ++ ((⟨#[45]⟩ : ByteArray) ++ t)) = (20, 0) :=
  parseZ_err (cutZ_neg _) (neg_bad (by omega)) (by decide) rfl
theorem same_abs {s t : Bool} {xs ys : List Nat} {z : Int} (hx : CanZ s xs) (hy : CanZ t ys) (hu : iv s xs = -z) (hv : iv t ys = z) : xs = ys := by
  refine canon_inj hx.1 hy.1 ?_
  have h1 := iv_abs s xs
  have h2 := iv_abs t ys
  rw [hu] at h1
  rw [hv] at h2
  omega

set_option maxRecDepth 100000 in
set_option maxHeartbeats 4000000 in
theorem zintTold_walk (s : Bool) (ao : Option Addr) (c : Nat) (zs : List Nat) (w : World) (h : Rd w ao c zs) :
    Calls Try.prog 8 #[.agg #[.bool s, .slice ao zs.length c]] w (GotP (.bool true) w) := by
  obtain ⟨T, hT⟩ := exT (iv s zs).natAbs
  obtain ⟨U, hU⟩ : ∃ U, textZ (iv s zs) T = U := ⟨_, rfl⟩
  by_cases hbig : 60 < zs.length
  · clear hU hT
    go_enter Try.func8, Try.ntmps8
    go_wp2_with fail
    refine (counting_any _).mono ?_
    rintro e w1 ⟨rfl, xx⟩
    have hE : Ext w w1 := Ext.trans ((Ext.refl _).alloc _) xx
    have hz1 : w.heap.size + 1 ≤ w1.heap.size := (by have hq := Ext.size xx; (try simp at hq); omega)
    have hb0 : w.heap.size < w1.heap.size := (by omega)
    have q0_1 := Ext.cell (p := ⟨w.heap.size, 1, none⟩) (v := .slice ao zs.length c) xx (by first | exact True | (go_simp; done) | (repeat (first | assumption | (refine (World.cell?_setCell_far _ _ _ _ (by simp <;> omega)).trans ?_) | (refine (World.cell?_alloc_lt _ _ _ (World.block_lt_of_cell? _ _ (by assumption))).trans ?_) | (go_simp; done))))
    clear xx
    go_wp2_with fail
    refine (telling_any _).mono ?_
    rintro e w2 ⟨rfl, xx⟩
    replace hE := Ext.trans hE xx
    have hz2 : w1.heap.size ≤ w2.heap.size := (by have hq := Ext.size xx; (try simp at hq); omega)
    have hb0 : w.heap.size < w2.heap.size := (by omega)
    have q0_1 := Ext.cell (p := ⟨w.heap.size, 1, none⟩) (v := .slice ao zs.length c) xx q0_1
    clear xx
    go_wp2_with fail
    go_ret
    exact ⟨rfl, hE⟩
  have hTs : T.size ≤ 601 := isT_size h.lb (by rw [← iv_abs s zs]; exact hT) (by omega)
  by_cases hz : iv s zs < 0
  · have e1 : Hid (parseZ U = (0, iv s zs)) := by
      unfold Hid; rw [← hU]; unfold textZ; rw [if_pos hz, parseZ_neg hT (by omega)]; exact Prod.ext rfl (by show -((iv s zs).natAbs : Int) = iv s zs; omega)
    have e2 : Hid (parseZ ((⟨#[45]⟩ : ByteArray) ++ U) = (20, 0)) := by
      unfold Hid; rw [← hU]; unfold textZ; rw [if_pos hz]; exact parseZ_twice (by omega)
    have hus : U.size = 1 + T.size := by rw [← hU]; unfold textZ; rw [if_pos hz, ByteArray.size_append]; rfl
    have hUs : U.size ≤ 602 := by omega
    have hch : ch U 0 = 45 := by rw [← hU]; unfold textZ; rw [if_pos hz]; exact ch_neg T
    have hchk : (∀ w, (Instr.index 9 (.string U) (.int .i64 0)).run Try.prog w = .ok (.int .u8 45) w) := fun w => by
      have := chk U 0 (by omega) w
      rw [hch] at this
      exact this
    have hg := Lib.hid (sgn_neg hz)
    replace hz := Lib.hid hz
    replace hU := Lib.hid hU
    replace hT := Lib.hid hT
    clear hus hch hTs
    go_enter Try.func8, Try.ntmps8
    go_wp2_with fail
    refine (counting_any _).mono ?_
    rintro e w1 ⟨rfl, xx⟩
    have hE : Ext w w1 := Ext.trans ((Ext.refl _).alloc _) xx
    have hz1 : w.heap.size + 1 ≤ w1.heap.size := (by have hq := Ext.size xx; (try simp at hq); omega)
    have hb0 : w.heap.size < w1.heap.size := (by omega)
    have q0_0 := Ext.cell (p := ⟨w.heap.size, 0, none⟩) (v := .bool s) xx (by first | exact True | (go_simp; done) | (repeat (first | assumption | (refine (World.cell?_setCell_far _ _ _ _ (by simp <;> omega)).trans ?_) | (refine (World.cell?_alloc_lt _ _ _ (World.block_lt_of_cell? _ _ (by assumption))).trans ?_) | (go_simp; done))))
    have q0_1 := Ext.cell (p := ⟨w.heap.size, 1, none⟩) (v := .slice ao zs.length c) xx (by first | exact True | (go_simp; done) | (repeat (first | assumption | (refine (World.cell?_setCell_far _ _ _ _ (by simp <;> omega)).trans ?_) | (refine (World.cell?_alloc_lt _ _ _ (World.block_lt_of_cell? _ _ (by assumption))).trans ?_) | (go_simp; done))))
    clear xx
    go_wp2_with fail
    refine (telling_any _).mono ?_
    rintro e w2 ⟨rfl, xx⟩
    replace hE := Ext.trans hE xx
    have hz2 : w1.heap.size ≤ w2.heap.size := (by have hq := Ext.size xx; (try simp at hq); omega)
    have hb0 : w.heap.size < w2.heap.size := (by omega)
    have q0_0 := Ext.cell (p := ⟨w.heap.size, 0, none⟩) (v := .bool s) xx q0_0
    have q0_1 := Ext.cell (p := ⟨w.heap.size, 1, none⟩) (v := .slice ao zs.length c) xx q0_1
    clear xx
    go_wp2_with fail
    refine (ZTextP s _ _ _ zs _ (iv s zs) T U rfl (h.ext hE) (by first | omega | (simp; done) | (simp; omega)) (by rfl) hT.out hU.out).mono ?_
    rintro e w3 ⟨rfl, xx⟩
    replace hE := Ext.trans hE xx
    have hz3 : w2.heap.size ≤ w3.heap.size := (by have hq := Ext.size xx; (try simp at hq); omega)
    have hb0 : w.heap.size < w3.heap.size := (by omega)
    have q0_0 := Ext.cell (p := ⟨w.heap.size, 0, none⟩) (v := .bool s) xx q0_0
    have q0_1 := Ext.cell (p := ⟨w.heap.size, 1, none⟩) (v := .slice ao zs.length c) xx q0_1
    clear xx
    go_wp2_with fail
    refine (ZParse_any U _ 0 (iv s zs) e1.out).mono ?_
    rintro e w4 ⟨r4s, r4a, r4c, r4z, r4B, rfl, r4b, r4o, r4k, r4v, r4l, xx⟩
    try simp at r4b
    try simp only [List.length_cons, List.length_nil] at r4l
    replace hE := Ext.trans hE xx
    have hz4 : w3.heap.size ≤ w4.heap.size := (by have hq := Ext.size xx; (try simp at hq); omega)
    have hb0 : w.heap.size < w4.heap.size := (by omega)
    have q0_0 := Ext.cell (p := ⟨w.heap.size, 0, none⟩) (v := .bool s) xx q0_0
    have q0_1 := Ext.cell (p := ⟨w.heap.size, 1, none⟩) (v := .slice ao zs.length c) xx q0_1
    clear xx
    go_wp2_with fail
    go_region_held3 (fun w' => w'.cell? ⟨w4.heap.size, 0, none⟩ = some (.bool r4s) ∧ w'.cell? ⟨w4.heap.size, 1, none⟩ = some (.slice r4a r4z.length r4c) ∧ w'.cell? ⟨w.heap.size, 0, none⟩ = some (.bool s) ∧ w'.cell? ⟨w.heap.size, 1, none⟩ = some (.slice ao zs.length c)) (first | exact ⟨q1_0, q1_1, q0_0, q0_1⟩ | (go_keep; done) | ((try dsimp only); (repeat' apply And.intro) <;> (repeat (first | assumption | (refine (World.cell?_setCell_far _ _ _ _ (by simp <;> omega)).trans ?_) | (refine (World.cell?_alloc_lt _ _ _ (World.block_lt_of_cell? _ _ (by assumption))).trans ?_) | (go_simp; done)))))
      (first
            | (go_at_call 18; (with_reducible refine (ZCmp_any r4s _ _ _ r4z s _ _ _ zs _ 0 rfl rfl (r4o.alloc _).drew.rd (h.ext (hE.alloc _).drew) (by first | omega | (simp; done) | (simp; omega)) (by first | omega | (simp; done) | (simp; omega)) (cmpZ_eq r4v.out)).mono ?_); rintro e w5 ⟨rfl, xx⟩; replace hE := Ext.trans (hE.alloc _).drew xx; (have hz5 : w4.heap.size + 1 ≤ w5.heap.size := (by have hq := Ext.size xx; (try simp at hq); omega)); replace r4o := Own.ext (r4o.alloc _).drew xx; (have hb0 : w.heap.size < w5.heap.size := (by omega)); (have q0_0 := Ext.cell (p := ⟨w.heap.size, 0, none⟩) (v := .bool s) xx (by first | exact q0_0 | (go_simp; done) | (repeat (first | assumption | (refine (World.cell?_setCell_far _ _ _ _ (by simp <;> omega)).trans ?_) | (refine (World.cell?_alloc_lt _ _ _ (World.block_lt_of_cell? _ _ (by assumption))).trans ?_) | (go_simp; done))))); (have q0_1 := Ext.cell (p := ⟨w.heap.size, 1, none⟩) (v := .slice ao zs.length c) xx (by first | exact q0_1 | (go_simp; done) | (repeat (first | assumption | (refine (World.cell?_setCell_far _ _ _ _ (by simp <;> omega)).trans ?_) | (refine (World.cell?_alloc_lt _ _ _ (World.block_lt_of_cell? _ _ (by assumption))).trans ?_) | (go_simp; done))))); (have hb1 : w4.heap.size < w5.heap.size := (by omega)); (have q1_0 := Ext.cell (p := ⟨w4.heap.size, 0, none⟩) (v := .bool r4s) xx (by first | exact True | (go_simp; done) | (repeat (first | assumption | (refine (World.cell?_setCell_far _ _ _ _ (by simp <;> omega)).trans ?_) | (refine (World.cell?_alloc_lt _ _ _ (World.block_lt_of_cell? _ _ (by assumption))).trans ?_) | (go_simp; done))))); (have q1_1 := Ext.cell (p := ⟨w4.heap.size, 1, none⟩) (v := .slice r4a r4z.length r4c) xx (by first | exact True | (go_simp; done) | (repeat (first | assumption | (refine (World.cell?_setCell_far _ _ _ _ (by simp <;> omega)).trans ?_) | (refine (World.cell?_alloc_lt _ _ _ (World.block_lt_of_cell? _ _ (by assumption))).trans ?_) | (go_simp; done))))); clear xx)
            | (go_at_call 44; (with_reducible refine (RClean_any s _ _ _ zs _ rfl (h.ext hE) (by first | omega | (simp; done) | (simp; omega))).mono ?_); rintro e w6 ⟨r6s, r6a, r6c, r6z, r6B, rfl, r6b, r6o, r6k, r6v, r6l, xx⟩; (try simp at r6b); (try simp only [List.length_cons, List.length_nil] at r6l); replace hE := Ext.trans hE xx; (have hz6 : w5.heap.size ≤ w6.heap.size := (by have hq := Ext.size xx; (try simp at hq); omega)); replace r4o := Own.ext r4o xx; (have hb0 : w.heap.size < w6.heap.size := (by omega)); (have q0_0 := Ext.cell (p := ⟨w.heap.size, 0, none⟩) (v := .bool s) xx q0_0); (have q0_1 := Ext.cell (p := ⟨w.heap.size, 1, none⟩) (v := .slice ao zs.length c) xx q0_1); (have hb1 : w4.heap.size < w6.heap.size := (by omega)); (have q1_0 := Ext.cell (p := ⟨w4.heap.size, 0, none⟩) (v := .bool r4s) xx q1_0); (have q1_1 := Ext.cell (p := ⟨w4.heap.size, 1, none⟩) (v := .slice r4a r4z.length r4c) xx q1_1); clear xx)
            | (go_at_call 43; (with_reducible refine (RSame_eq r4s _ _ _ r4z r6s _ _ _ r6z _ rfl rfl r4o.rd r6o.rd (CanZ.inj r4k.out r6k.out (r4v.out.trans r6v.out.symm)).1 (CanZ.inj r4k.out r6k.out (r4v.out.trans r6v.out.symm)).2).mono ?_); rintro e w7 ⟨rfl, xx⟩; replace hE := Ext.trans hE xx; (have hz7 : w6.heap.size ≤ w7.heap.size := (by have hq := Ext.size xx; (try simp at hq); omega)); (have hb0 : w.heap.size < w7.heap.size := (by omega)); (have q0_0 := Ext.cell (p := ⟨w.heap.size, 0, none⟩) (v := .bool s) xx q0_0); (have q0_1 := Ext.cell (p := ⟨w.heap.size, 1, none⟩) (v := .slice ao zs.length c) xx q0_1); (have hb1 : w4.heap.size < w7.heap.size := (by omega)); (have q1_0 := Ext.cell (p := ⟨w4.heap.size, 0, none⟩) (v := .bool r4s) xx q1_0); (have q1_1 := Ext.cell (p := ⟨w4.heap.size, 1, none⟩) (v := .slice r4a r4z.length r4c) xx q1_1); clear xx))
    go_wp2_with fail
    refine (ZParse_any (((⟨#[45]⟩ : ByteArray) ++ U)) _ 20 0 e2.out).mono ?_
    rintro e w8 ⟨r8s, r8a, r8c, r8z, r8B, rfl, r8b, r8o, r8k, r8v, r8l, xx⟩
    try simp at r8b
    try simp only [List.length_cons, List.length_nil] at r8l
    replace hE := Ext.trans hE xx
    have hz8 : w7.heap.size ≤ w8.heap.size := (by have hq := Ext.size xx; (try simp at hq); omega)
    have hb0 : w.heap.size < w8.heap.size := (by omega)
    have q0_0 := Ext.cell (p := ⟨w.heap.size, 0, none⟩) (v := .bool s) xx q0_0
    have q0_1 := Ext.cell (p := ⟨w.heap.size, 1, none⟩) (v := .slice ao zs.length c) xx q0_1
    clear xx
    go_wp2_with fail
    refine (ZSign_any s _ _ _ zs _ (-1) rfl (h.ext (hE.alloc _)) (by first | omega | (simp; done) | (simp; omega)) hg.out).mono ?_
    rintro e w9 ⟨rfl, xx⟩
    replace hE := Ext.trans (hE.alloc _) xx
    have hz9 : w8.heap.size + 1 ≤ w9.heap.size := (by have hq := Ext.size xx; (try simp at hq); omega)
    clear xx
    go_wp2_with fail
    go_ret
    exact ⟨rfl, hE⟩
  · have e1 : Hid (parseZ U = (0, iv s zs)) := by
      unfold Hid; rw [← hU]; unfold textZ; rw [if_neg hz, parseZ_pos hT (by omega)]; exact Prod.ext rfl (by show ((iv s zs).natAbs : Int) = iv s zs; omega)
    have e2 : Hid (parseZ ((⟨#[45]⟩ : ByteArray) ++ U) = (0, -iv s zs)) := by
      unfold Hid; rw [← hU]; unfold textZ; rw [if_neg hz, parseZ_neg hT (by omega)]; exact Prod.ext rfl (by show -((iv s zs).natAbs : Int) = -iv s zs; omega)
    have hUs : U.size ≤ 602 := by rw [← hU]; unfold textZ; rw [if_neg hz]; omega
    obtain ⟨g, hg⟩ : ∃ g, sgn (iv s zs) = g := ⟨_, rfl⟩
    have hg0 : ¬ g < 0 := fun q => hz (sgn_lt_zero.1 (by rw [hg]; exact q))
    replace hg := Lib.hid hg
    replace hz := Lib.hid hz
    replace hU := Lib.hid hU
    replace hT := Lib.hid hT
    clear hTs
    go_enter Try.func8, Try.ntmps8
    go_wp2_with fail
    refine (counting_any _).mono ?_
    rintro e w1 ⟨rfl, xx⟩
    have hE : Ext w w1 := Ext.trans ((Ext.refl _).alloc _) xx
    have hz1 : w.heap.size + 1 ≤ w1.heap.size := (by have hq := Ext.size xx; (try simp at hq); omega)
    have hb0 : w.heap.size < w1.heap.size := (by omega)
    have q0_0 := Ext.cell (p := ⟨w.heap.size, 0, none⟩) (v := .bool s) xx (by first | exact True | (go_simp; done) | (repeat (first | assumption | (refine (World.cell?_setCell_far _ _ _ _ (by simp <;> omega)).trans ?_) | (refine (World.cell?_alloc_lt _ _ _ (World.block_lt_of_cell? _ _ (by assumption))).trans ?_) | (go_simp; done))))
    have q0_1 := Ext.cell (p := ⟨w.heap.size, 1, none⟩) (v := .slice ao zs.length c) xx (by first | exact True | (go_simp; done) | (repeat (first | assumption | (refine (World.cell?_setCell_far _ _ _ _ (by simp <;> omega)).trans ?_) | (refine (World.cell?_alloc_lt _ _ _ (World.block_lt_of_cell? _ _ (by assumption))).trans ?_) | (go_simp; done))))
    clear xx
    go_wp2_with fail
    refine (telling_any _).mono ?_
    rintro e w2 ⟨rfl, xx⟩
    replace hE := Ext.trans hE xx
    have hz2 : w1.heap.size ≤ w2.heap.size := (by have hq := Ext.size xx; (try simp at hq); omega)
    have hb0 : w.heap.size < w2.heap.size := (by omega)
    have q0_0 := Ext.cell (p := ⟨w.heap.size, 0, none⟩) (v := .bool s) xx q0_0
    have q0_1 := Ext.cell (p := ⟨w.heap.size, 1, none⟩) (v := .slice ao zs.length c) xx q0_1
    clear xx
    go_wp2_with fail
    refine (ZTextP s _ _ _ zs _ (iv s zs) T U rfl (h.ext hE) (by first | omega | (simp; done) | (simp; omega)) (by rfl) hT.out hU.out).mono ?_
    rintro e w3 ⟨rfl, xx⟩
    replace hE := Ext.trans hE xx
    have hz3 : w2.heap.size ≤ w3.heap.size := (by have hq := Ext.size xx; (try simp at hq); omega)
    have hb0 : w.heap.size < w3.heap.size := (by omega)
    have q0_0 := Ext.cell (p := ⟨w.heap.size, 0, none⟩) (v := .bool s) xx q0_0
    have q0_1 := Ext.cell (p := ⟨w.heap.size, 1, none⟩) (v := .slice ao zs.length c) xx q0_1
    clear xx
    go_wp2_with fail
    refine (ZParse_any U _ 0 (iv s zs) e1.out).mono ?_
    rintro e w4 ⟨r4s, r4a, r4c, r4z, r4B, rfl, r4b, r4o, r4k, r4v, r4l, xx⟩
    try simp at r4b
    try simp only [List.length_cons, List.length_nil] at r4l
    replace hE := Ext.trans hE xx
    have hz4 : w3.heap.size ≤ w4.heap.size := (by have hq := Ext.size xx; (try simp at hq); omega)
    have hb0 : w.heap.size < w4.heap.size := (by omega)
    have q0_0 := Ext.cell (p := ⟨w.heap.size, 0, none⟩) (v := .bool s) xx q0_0
    have q0_1 := Ext.cell (p := ⟨w.heap.size, 1, none⟩) (v := .slice ao zs.length c) xx q0_1
    clear xx
    go_wp2_with fail
    go_region_held3 (fun w' => w'.cell? ⟨w4.heap.size, 0, none⟩ = some (.bool r4s) ∧ w'.cell? ⟨w4.heap.size, 1, none⟩ = some (.slice r4a r4z.length r4c) ∧ w'.cell? ⟨w.heap.size, 0, none⟩ = some (.bool s) ∧ w'.cell? ⟨w.heap.size, 1, none⟩ = some (.slice ao zs.length c)) (first | exact ⟨q1_0, q1_1, q0_0, q0_1⟩ | (go_keep; done) | ((try dsimp only); (repeat' apply And.intro) <;> (repeat (first | assumption | (refine (World.cell?_setCell_far _ _ _ _ (by simp <;> omega)).trans ?_) | (refine (World.cell?_alloc_lt _ _ _ (World.block_lt_of_cell? _ _ (by assumption))).trans ?_) | (go_simp; done)))))
      (first
            | (go_at_call 18; (with_reducible refine (ZCmp_any r4s _ _ _ r4z s _ _ _ zs _ 0 rfl rfl (r4o.alloc _).drew.rd (h.ext (hE.alloc _).drew) (by first | omega | (simp; done) | (simp; omega)) (by first | omega | (simp; done) | (simp; omega)) (cmpZ_eq r4v.out)).mono ?_); rintro e w5 ⟨rfl, xx⟩; replace hE := Ext.trans (hE.alloc _).drew xx; (have hz5 : w4.heap.size + 1 ≤ w5.heap.size := (by have hq := Ext.size xx; (try simp at hq); omega)); replace r4o := Own.ext (r4o.alloc _).drew xx; (have hb0 : w.heap.size < w5.heap.size := (by omega)); (have q0_0 := Ext.cell (p := ⟨w.heap.size, 0, none⟩) (v := .bool s) xx (by first | exact q0_0 | (go_simp; done) | (repeat (first | assumption | (refine (World.cell?_setCell_far _ _ _ _ (by simp <;> omega)).trans ?_) | (refine (World.cell?_alloc_lt _ _ _ (World.block_lt_of_cell? _ _ (by assumption))).trans ?_) | (go_simp; done))))); (have q0_1 := Ext.cell (p := ⟨w.heap.size, 1, none⟩) (v := .slice ao zs.length c) xx (by first | exact q0_1 | (go_simp; done) | (repeat (first | assumption | (refine (World.cell?_setCell_far _ _ _ _ (by simp <;> omega)).trans ?_) | (refine (World.cell?_alloc_lt _ _ _ (World.block_lt_of_cell? _ _ (by assumption))).trans ?_) | (go_simp; done))))); (have hb1 : w4.heap.size < w5.heap.size := (by omega)); (have q1_0 := Ext.cell (p := ⟨w4.heap.size, 0, none⟩) (v := .bool r4s) xx (by first | exact True | (go_simp; done) | (repeat (first | assumption | (refine (World.cell?_setCell_far _ _ _ _ (by simp <;> omega)).trans ?_) | (refine (World.cell?_alloc_lt _ _ _ (World.block_lt_of_cell? _ _ (by assumption))).trans ?_) | (go_simp; done))))); (have q1_1 := Ext.cell (p := ⟨w4.heap.size, 1, none⟩) (v := .slice r4a r4z.length r4c) xx (by first | exact True | (go_simp; done) | (repeat (first | assumption | (refine (World.cell?_setCell_far _ _ _ _ (by simp <;> omega)).trans ?_) | (refine (World.cell?_alloc_lt _ _ _ (World.block_lt_of_cell? _ _ (by assumption))).trans ?_) | (go_simp; done))))); clear xx)
            | (go_at_call 44; (with_reducible refine (RClean_any s _ _ _ zs _ rfl (h.ext hE) (by first | omega | (simp; done) | (simp; omega))).mono ?_); rintro e w6 ⟨r6s, r6a, r6c, r6z, r6B, rfl, r6b, r6o, r6k, r6v, r6l, xx⟩; (try simp at r6b); (try simp only [List.length_cons, List.length_nil] at r6l); replace hE := Ext.trans hE xx; (have hz6 : w5.heap.size ≤ w6.heap.size := (by have hq := Ext.size xx; (try simp at hq); omega)); replace r4o := Own.ext r4o xx; (have hb0 : w.heap.size < w6.heap.size := (by omega)); (have q0_0 := Ext.cell (p := ⟨w.heap.size, 0, none⟩) (v := .bool s) xx q0_0); (have q0_1 := Ext.cell (p := ⟨w.heap.size, 1, none⟩) (v := .slice ao zs.length c) xx q0_1); (have hb1 : w4.heap.size < w6.heap.size := (by omega)); (have q1_0 := Ext.cell (p := ⟨w4.heap.size, 0, none⟩) (v := .bool r4s) xx q1_0); (have q1_1 := Ext.cell (p := ⟨w4.heap.size, 1, none⟩) (v := .slice r4a r4z.length r4c) xx q1_1); clear xx)
            | (go_at_call 43; (with_reducible refine (RSame_eq r4s _ _ _ r4z r6s _ _ _ r6z _ rfl rfl r4o.rd r6o.rd (CanZ.inj r4k.out r6k.out (r4v.out.trans r6v.out.symm)).1 (CanZ.inj r4k.out r6k.out (r4v.out.trans r6v.out.symm)).2).mono ?_); rintro e w7 ⟨rfl, xx⟩; replace hE := Ext.trans hE xx; (have hz7 : w6.heap.size ≤ w7.heap.size := (by have hq := Ext.size xx; (try simp at hq); omega)); replace r4o := Own.ext r4o xx; (have hb0 : w.heap.size < w7.heap.size := (by omega)); (have q0_0 := Ext.cell (p := ⟨w.heap.size, 0, none⟩) (v := .bool s) xx q0_0); (have q0_1 := Ext.cell (p := ⟨w.heap.size, 1, none⟩) (v := .slice ao zs.length c) xx q0_1); (have hb1 : w4.heap.size < w7.heap.size := (by omega)); (have q1_0 := Ext.cell (p := ⟨w4.heap.size, 0, none⟩) (v := .bool r4s) xx q1_0); (have q1_1 := Ext.cell (p := ⟨w4.heap.size, 1, none⟩) (v := .slice r4a r4z.length r4c) xx q1_1); clear xx))
    go_wp2_with fail
    refine (ZParse_any (((⟨#[45]⟩ : ByteArray) ++ U)) _ 0 (-iv s zs) e2.out).mono ?_
    rintro e w8 ⟨r8s, r8a, r8c, r8z, r8B, rfl, r8b, r8o, r8k, r8v, r8l, xx⟩
    try simp at r8b
    try simp only [List.length_cons, List.length_nil] at r8l
    replace hE := Ext.trans hE xx
    have hz8 : w7.heap.size ≤ w8.heap.size := (by have hq := Ext.size xx; (try simp at hq); omega)
    replace r4o := Own.ext r4o xx
    have hb0 : w.heap.size < w8.heap.size := (by omega)
    have q0_0 := Ext.cell (p := ⟨w.heap.size, 0, none⟩) (v := .bool s) xx q0_0
    have q0_1 := Ext.cell (p := ⟨w.heap.size, 1, none⟩) (v := .slice ao zs.length c) xx q0_1
    have hb1 : w4.heap.size < w8.heap.size := (by omega)
    have q1_1 := Ext.cell (p := ⟨w4.heap.size, 1, none⟩) (v := .slice r4a r4z.length r4c) xx q1_1
    clear xx
    go_wp2_with fail
    refine (ZSign_any s _ _ _ zs _ g rfl (h.ext (hE.alloc _)) (by first | omega | (simp; done) | (simp; omega)) hg.out).mono ?_
    rintro e w9 ⟨rfl, xx⟩
    replace hE := Ext.trans (hE.alloc _) xx
    have hz9 : w8.heap.size + 1 ≤ w9.heap.size := (by have hq := Ext.size xx; (try simp at hq); omega)
    replace r4o := Own.ext (r4o.alloc _) xx
    replace r8o := Own.ext (r8o.alloc _) xx
    have hb0 : w.heap.size < w9.heap.size := (by omega)
    have q0_0 := Ext.cell (p := ⟨w.heap.size, 0, none⟩) (v := .bool s) xx (by first | exact q0_0 | (go_simp; done) | (repeat (first | assumption | (refine (World.cell?_setCell_far _ _ _ _ (by simp <;> omega)).trans ?_) | (refine (World.cell?_alloc_lt _ _ _ (World.block_lt_of_cell? _ _ (by assumption))).trans ?_) | (go_simp; done))))
    have q0_1 := Ext.cell (p := ⟨w.heap.size, 1, none⟩) (v := .slice ao zs.length c) xx (by first | exact q0_1 | (go_simp; done) | (repeat (first | assumption | (refine (World.cell?_setCell_far _ _ _ _ (by simp <;> omega)).trans ?_) | (refine (World.cell?_alloc_lt _ _ _ (World.block_lt_of_cell? _ _ (by assumption))).trans ?_) | (go_simp; done))))
    have hb1 : w4.heap.size < w9.heap.size := (by omega)
    have q1_1 := Ext.cell (p := ⟨w4.heap.size, 1, none⟩) (v := .slice r4a r4z.length r4c) xx (by first | exact q1_1 | (go_simp; done) | (repeat (first | assumption | (refine (World.cell?_setCell_far _ _ _ _ (by simp <;> omega)).trans ?_) | (refine (World.cell?_alloc_lt _ _ _ (World.block_lt_of_cell? _ _ (by assumption))).trans ?_) | (go_simp; done))))
    have hb2 : w8.heap.size < w9.heap.size := (by omega)
    have q2_0 := Ext.cell (p := ⟨w8.heap.size, 0, none⟩) (v := .bool r8s) xx (by first | exact True | (go_simp; done) | (repeat (first | assumption | (refine (World.cell?_setCell_far _ _ _ _ (by simp <;> omega)).trans ?_) | (refine (World.cell?_alloc_lt _ _ _ (World.block_lt_of_cell? _ _ (by assumption))).trans ?_) | (go_simp; done))))
    have q2_1 := Ext.cell (p := ⟨w8.heap.size, 1, none⟩) (v := .slice r8a r8z.length r8c) xx (by first | exact True | (go_simp; done) | (repeat (first | assumption | (refine (World.cell?_setCell_far _ _ _ _ (by simp <;> omega)).trans ?_) | (refine (World.cell?_alloc_lt _ _ _ (World.block_lt_of_cell? _ _ (by assumption))).trans ?_) | (go_simp; done))))
    clear xx
    go_wp2_with fail
    go_region_held3 (fun w' => w'.cell? ⟨w8.heap.size, 0, none⟩ = some (.bool r8s) ∧ w'.cell? ⟨w8.heap.size, 1, none⟩ = some (.slice r8a r8z.length r8c) ∧ w'.cell? ⟨w.heap.size, 0, none⟩ = some (.bool s) ∧ w'.cell? ⟨w.heap.size, 1, none⟩ = some (.slice ao zs.length c) ∧ w'.cell? ⟨w4.heap.size, 1, none⟩ = some (.slice r4a r4z.length r4c)) (first | exact ⟨q2_0, q2_1, q0_0, q0_1, q1_1⟩ | (go_keep; done) | ((try dsimp only); (repeat' apply And.intro) <;> (repeat (first | assumption | (refine (World.cell?_setCell_far _ _ _ _ (by simp <;> omega)).trans ?_) | (refine (World.cell?_alloc_lt _ _ _ (World.block_lt_of_cell? _ _ (by assumption))).trans ?_) | (go_simp; done)))))
      (first
            | (go_at_call 29; (with_reducible refine (ZNeg_any s _ _ _ zs _ rfl (h.ext hE.drew) (by first | omega | (simp; done) | (simp; omega))).mono ?_); rintro e w10 ⟨r10s, r10a, r10c, r10z, r10B, rfl, r10b, r10o, r10k, r10v, r10l, xx⟩; (try simp at r10b); (try simp only [List.length_cons, List.length_nil] at r10l); replace hE := Ext.trans hE.drew xx; (have hz10 : w9.heap.size ≤ w10.heap.size := (by have hq := Ext.size xx; (try simp at hq); omega)); replace r4o := Own.ext r4o.drew xx; replace r8o := Own.ext r8o.drew xx; (have hb0 : w.heap.size < w10.heap.size := (by omega)); (have q0_0 := Ext.cell (p := ⟨w.heap.size, 0, none⟩) (v := .bool s) xx (by first | exact q0_0 | (go_simp; done) | (repeat (first | assumption | (refine (World.cell?_setCell_far _ _ _ _ (by simp <;> omega)).trans ?_) | (refine (World.cell?_alloc_lt _ _ _ (World.block_lt_of_cell? _ _ (by assumption))).trans ?_) | (go_simp; done))))); (have q0_1 := Ext.cell (p := ⟨w.heap.size, 1, none⟩) (v := .slice ao zs.length c) xx (by first | exact q0_1 | (go_simp; done) | (repeat (first | assumption | (refine (World.cell?_setCell_far _ _ _ _ (by simp <;> omega)).trans ?_) | (refine (World.cell?_alloc_lt _ _ _ (World.block_lt_of_cell? _ _ (by assumption))).trans ?_) | (go_simp; done))))); (have hb1 : w4.heap.size < w10.heap.size := (by omega)); (have q1_1 := Ext.cell (p := ⟨w4.heap.size, 1, none⟩) (v := .slice r4a r4z.length r4c) xx (by first | exact q1_1 | (go_simp; done) | (repeat (first | assumption | (refine (World.cell?_setCell_far _ _ _ _ (by simp <;> omega)).trans ?_) | (refine (World.cell?_alloc_lt _ _ _ (World.block_lt_of_cell? _ _ (by assumption))).trans ?_) | (go_simp; done))))); (have hb2 : w8.heap.size < w10.heap.size := (by omega)); (have q2_0 := Ext.cell (p := ⟨w8.heap.size, 0, none⟩) (v := .bool r8s) xx (by first | exact q2_0 | (go_simp; done) | (repeat (first | assumption | (refine (World.cell?_setCell_far _ _ _ _ (by simp <;> omega)).trans ?_) | (refine (World.cell?_alloc_lt _ _ _ (World.block_lt_of_cell? _ _ (by assumption))).trans ?_) | (go_simp; done))))); (have q2_1 := Ext.cell (p := ⟨w8.heap.size, 1, none⟩) (v := .slice r8a r8z.length r8c) xx (by first | exact q2_1 | (go_simp; done) | (repeat (first | assumption | (refine (World.cell?_setCell_far _ _ _ _ (by simp <;> omega)).trans ?_) | (refine (World.cell?_alloc_lt _ _ _ (World.block_lt_of_cell? _ _ (by assumption))).trans ?_) | (go_simp; done))))); clear xx)
            | (go_at_call 18; (with_reducible refine (ZCmp_any r8s _ _ _ r8z r10s _ _ _ r10z _ 0 rfl rfl r8o.rd r10o.rd (by first | omega | (simp; done) | (simp; omega)) (by first | omega | (simp; done) | (simp; omega)) (cmpZ_eq (r8v.out.trans r10v.out.symm))).mono ?_); rintro e w11 ⟨rfl, xx⟩; replace hE := Ext.trans hE xx; (have hz11 : w10.heap.size ≤ w11.heap.size := (by have hq := Ext.size xx; (try simp at hq); omega)); replace r4o := Own.ext r4o xx; replace r8o := Own.ext r8o xx; (have hb0 : w.heap.size < w11.heap.size := (by omega)); (have q0_0 := Ext.cell (p := ⟨w.heap.size, 0, none⟩) (v := .bool s) xx q0_0); (have q0_1 := Ext.cell (p := ⟨w.heap.size, 1, none⟩) (v := .slice ao zs.length c) xx q0_1); (have hb1 : w4.heap.size < w11.heap.size := (by omega)); (have q1_1 := Ext.cell (p := ⟨w4.heap.size, 1, none⟩) (v := .slice r4a r4z.length r4c) xx q1_1); (have hb2 : w8.heap.size < w11.heap.size := (by omega)); (have q2_0 := Ext.cell (p := ⟨w8.heap.size, 0, none⟩) (v := .bool r8s) xx q2_0); (have q2_1 := Ext.cell (p := ⟨w8.heap.size, 1, none⟩) (v := .slice r8a r8z.length r8c) xx q2_1); clear xx)
            | (go_at_call 45; (with_reducible refine (Same_eq _ _ _ r8z _ _ _ r4z _ rfl rfl r8o.rd r4o.rd (same_abs r8k.out r4k.out r8v.out r4v.out)).mono ?_); rintro e w12 ⟨rfl, xx⟩; replace hE := Ext.trans hE xx; (have hz12 : w11.heap.size ≤ w12.heap.size := (by have hq := Ext.size xx; (try simp at hq); omega)); (have hb0 : w.heap.size < w12.heap.size := (by omega)); (have q0_0 := Ext.cell (p := ⟨w.heap.size, 0, none⟩) (v := .bool s) xx q0_0); (have q0_1 := Ext.cell (p := ⟨w.heap.size, 1, none⟩) (v := .slice ao zs.length c) xx q0_1); (have hb1 : w4.heap.size < w12.heap.size := (by omega)); (have q1_1 := Ext.cell (p := ⟨w4.heap.size, 1, none⟩) (v := .slice r4a r4z.length r4c) xx q1_1); (have hb2 : w8.heap.size < w12.heap.size := (by omega)); (have q2_0 := Ext.cell (p := ⟨w8.heap.size, 0, none⟩) (v := .bool r8s) xx q2_0); (have q2_1 := Ext.cell (p := ⟨w8.heap.size, 1, none⟩) (v := .slice r8a r8z.length r8c) xx q2_1); clear xx))
    go_wp2_with fail
    go_ret
    exact ⟨rfl, hE⟩
end Go.Proofs.Ytmnhbjefjadjiaa
