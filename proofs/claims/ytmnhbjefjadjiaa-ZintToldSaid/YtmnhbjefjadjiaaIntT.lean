/-
  Contracts of zint.Parse, Text and the reference's.
-/
import Derived.Test.YtmnhbjefjadjiaaIntH
import Derived.Test.YtmnhbjefjadjiaaRefX
import Derived.Test.YtmnhbjefjadjiaaNatX
import Derived.Test.YtmnhbjefjadjiaaShelfCut
namespace Go.Proofs.Ytmnhbjefjadjiaa
open Go.RowKit


theorem parse_lt (s : ByteArray) : (parseV s).2 < pw 4001 := by
  unfold parseV
  split
  · exact pw_pos _
  · split
    · exact pw_pos _
    · rename_i h1 h2
      have h3 : alld s s.size := by
        apply Decidable.byContradiction
        intro h; exact h2 (.inr h)
      exact Nat.lt_of_lt_of_le (dvk_lt s s.size h3) (Nat.le_trans (pow10_pw _) (pw_le (by omega)))
/-- a number of at most L limbs and an error's number, as they are answered -/
def GotME (w : World) (m L : Nat) (er : Int) (e : Ending) (w' : World) : Prop :=
  ∃ ao c zs B, e = .returned (.tuple #[.slice ao zs.length c, .int .i64 er]) ∧ w.heap.size ≤ B ∧ Own w' B ao c zs ∧ Hid (Canon zs) ∧ Hid (val zs = m) ∧ zs.length ≤ L ∧ Ext w w'
theorem GotParse.len {w : World} {r : Int × Nat} {L : Nat} {er : Int} {m : Nat} {e : Ending} {w' : World} (h : GotParse w r e w') (hp : r = (er, m)) (hm : r.2 < pw L) : GotME w m L er e w' := by
  obtain ⟨ao, c, zs, he, ho, hc, hv, hx⟩ := h
  subst hp
  exact ⟨ao, c, zs, w.heap.size, he, Nat.le_refl _, ho, hc, hv, canon_short hc hv hm, hx⟩
theorem ParseM (s : ByteArray) (w : World) (er : Int) (m : Nat) (h : parseV s = (er, m)) : Calls Try.prog 75 #[.string s] w (GotME w m 4001 er) :=
  (Parse_any s w).mono fun _ _ k => k.len h (parse_lt s)
theorem RParseM (s : ByteArray) (w : World) (er : Int) (m : Nat) (h : parseV s = (er, m)) : Calls Try.prog 83 #[.string s] w (GotME w m 4001 er) :=
  (RParse_any s w).mono fun _ _ k => k.len h (parse_lt s)
/-- a text without a sign, and whether there was one -/
def cutZ (s : ByteArray) : ByteArray × Bool := (⟨(Lib.trimPrefix s.data.toList [45]).toArray⟩, Lib.hasPrefix s.data.toList [45])
theorem CutM (s p u : ByteArray) (b : Bool) (w : World) (hp : p.data.toList = [45]) (h : cutZ s = (u, b)) :
    Calls Try.prog 74 #[.string s, .string p] w (GotP (.tuple #[.string u, .bool b]) w) :=
  (Try.strings_CutPrefix s p w).mono fun _ _ ⟨h1, h2⟩ => ⟨by
    rw [h1, hp]
    have h3 := (Prod.mk.inj h).1
    have h4 := (Prod.mk.inj h).2
    rw [h3, h4], h2 ▸ Ext.refl _⟩
/-- what a text's number is, below 0 too -/
def parseZ (s : ByteArray) : Int × Int := if (parseV (cutZ s).1).1 = 0 then (0, if (cutZ s).2 then -((parseV (cutZ s).1).2 : Int) else ((parseV (cutZ s).1).2 : Int)) else ((parseV (cutZ s).1).1, 0)
theorem parseZ_err {s u : ByteArray} {b : Bool} {er : Int} {m : Nat} {q : Int × Int} (hc : cutZ s = (u, b)) (hp : parseV u = (er, m)) (h : er ≠ 0) (hq : parseZ s = q) : q = (er, 0) := by
  rw [← hq]; unfold parseZ; rw [hc]; simp only []; rw [hp]; simp only []; rw [if_neg h]
theorem parseZ_ok {s u : ByteArray} {b : Bool} {m : Nat} {q : Int × Int} (hc : cutZ s = (u, b)) (hp : parseV u = (0, m)) (hq : parseZ s = q) : q = (0, if b then -(m : Int) else (m : Int)) := by
  rw [← hq]; unfold parseZ; rw [hc]; simp only []; rw [hp]; simp only []; rw [if_pos trivial]

set_option maxRecDepth 100000 in
set_option maxHeartbeats 2000000 in
theorem ZParse_any (s : ByteArray) (w : World) (er z : Int) (hq : parseZ s = (er, z)) :
    Calls Try.prog 42 #[.string s] w (GotZE w z 4001 er) := by
  obtain ⟨⟨u, b⟩, hc⟩ : ∃ p, cutZ s = p := ⟨_, rfl⟩
  obtain ⟨⟨er2, m⟩, hp⟩ : ∃ p, parseV u = p := ⟨_, rfl⟩
  have her := parseV_err u
  rw [hp] at her
  by_cases h0 : er2 = 0
  · subst h0
    have hr := Lib.hid (parseZ_ok hc hp hq)
    replace hc := Lib.hid hc
    replace hp := Lib.hid hp
    clear hq her
    go_enter Try.func42, Try.ntmps42
    go_wp2_with fail
    refine (CutM _ _ u b _ rfl hc.out).mono ?_
    rintro e w1 ⟨rfl, xx⟩
    have hE : Ext w w1 := Ext.trans ((Ext.refl _).alloc _) xx
    have hz1 : w.heap.size + 1 ≤ w1.heap.size := (by have hq := Ext.size xx; (try simp at hq); omega)
    have hb0 : w.heap.size < w1.heap.size := (by omega)
    have fq0_0 := Ext.free (p := ⟨w.heap.size, 0, none⟩) (v := .bool false) xx (by first | exact True | (go_simp; done) | (repeat (first | assumption | (refine (World.cell?_setCell_far _ _ _ _ (by simp <;> omega)).trans ?_) | (refine (World.cell?_alloc_lt _ _ _ (World.block_lt_of_cell? _ _ (by assumption))).trans ?_) | (go_simp; done)))) (by first | assumption | (go_simp; done))
    have q0_0 := Ext.cell (p := ⟨w.heap.size, 0, none⟩) (v := .bool false) xx (by first | exact True | (go_simp; done) | (repeat (first | assumption | (refine (World.cell?_setCell_far _ _ _ _ (by simp <;> omega)).trans ?_) | (refine (World.cell?_alloc_lt _ _ _ (World.block_lt_of_cell? _ _ (by assumption))).trans ?_) | (go_simp; done))))
    have fq0_1 := Ext.free (p := ⟨w.heap.size, 1, none⟩) (v := .slice none 0 0) xx (by first | exact True | (go_simp; done) | (repeat (first | assumption | (refine (World.cell?_setCell_far _ _ _ _ (by simp <;> omega)).trans ?_) | (refine (World.cell?_alloc_lt _ _ _ (World.block_lt_of_cell? _ _ (by assumption))).trans ?_) | (go_simp; done)))) (by first | assumption | (go_simp; done))
    have q0_1 := Ext.cell (p := ⟨w.heap.size, 1, none⟩) (v := .slice none 0 0) xx (by first | exact True | (go_simp; done) | (repeat (first | assumption | (refine (World.cell?_setCell_far _ _ _ _ (by simp <;> omega)).trans ?_) | (refine (World.cell?_alloc_lt _ _ _ (World.block_lt_of_cell? _ _ (by assumption))).trans ?_) | (go_simp; done))))
    clear xx
    go_wp2_with fail
    refine (ParseM u _ 0 m hp.out).mono ?_
    rintro e w2 ⟨r2a, r2c, r2z, r2B, rfl, r2b, r2o, r2k, r2v, r2l, xx⟩
    try simp at r2b
    replace hE := Ext.trans hE xx
    have hz2 : w1.heap.size ≤ w2.heap.size := (by have hq := Ext.size xx; (try simp at hq); omega)
    have hb0 : w.heap.size < w2.heap.size := (by omega)
    have fq0_0 := Ext.free (p := ⟨w.heap.size, 0, none⟩) (v := .bool false) xx q0_0 fq0_0
    have q0_0 := Ext.cell (p := ⟨w.heap.size, 0, none⟩) (v := .bool false) xx q0_0
    have fq0_1 := Ext.free (p := ⟨w.heap.size, 1, none⟩) (v := .slice none 0 0) xx q0_1 fq0_1
    have q0_1 := Ext.cell (p := ⟨w.heap.size, 1, none⟩) (v := .slice none 0 0) xx q0_1
    clear xx
    go_wp2_with fail
    refine (From_any b _ _ _ r2z _ rfl r2o.rd (by first | omega | (simp; done) | (simp; omega))).mono ?_
    rintro e w3 ⟨r3s, r3a, r3c, r3z, r3B, rfl, r3b, r3o, r3k, r3v, r3l, xx⟩
    try simp at r3b
    try simp only [List.length_cons, List.length_nil] at r3l
    replace hE := Ext.trans hE xx
    have hz3 : w2.heap.size ≤ w3.heap.size := (by have hq := Ext.size xx; (try simp at hq); omega)
    have hb0 : w.heap.size < w3.heap.size := (by omega)
    have fq0_0 := Ext.free (p := ⟨w.heap.size, 0, none⟩) (v := .bool false) xx q0_0 fq0_0
    have q0_0 := Ext.cell (p := ⟨w.heap.size, 0, none⟩) (v := .bool false) xx q0_0
    have fq0_1 := Ext.free (p := ⟨w.heap.size, 1, none⟩) (v := .slice none 0 0) xx q0_1 fq0_1
    have q0_1 := Ext.cell (p := ⟨w.heap.size, 1, none⟩) (v := .slice none 0 0) xx q0_1
    clear xx
    go_wp2_with fail
    refine bodyPost_ret (v := .tuple #[.agg #[.bool r3s, .slice r3a r3z.length r3c], .int .i64 0]) (by simp [results, Try.results42, go_sem, q0_0, q0_1]) rfl ?_
    rw [(Prod.mk.inj hr.out).1, (Prod.mk.inj hr.out).2]
    exact ⟨r3s, r3a, r3c, r3z, r3B, rfl, (by omega), (Own.st (Own.st r3o (b := w.heap.size) (by omega) _ _) (b := w.heap.size) (by omega) _ _), r3k, (by unfold Hid; rw [r3v.out]; unfold iv; rw [r2v.out]), (by first | omega | (simp; done) | (simp; omega)), (Ext.st (Ext.st hE (b := w.heap.size) (by omega) _ _) (b := w.heap.size) (by omega) _ _)⟩
  · have hr := Lib.hid (parseZ_err hc hp h0 hq)
    have hne : (er2 != 0) = true := by simpa using h0
    replace hc := Lib.hid hc
    replace hp := Lib.hid hp
    clear hq
    go_enter Try.func42, Try.ntmps42
    go_wp2_with fail
    refine (CutM _ _ u b _ rfl hc.out).mono ?_
    rintro e w1 ⟨rfl, xx⟩
    have hE : Ext w w1 := Ext.trans ((Ext.refl _).alloc _) xx
    have hz1 : w.heap.size + 1 ≤ w1.heap.size := (by have hq := Ext.size xx; (try simp at hq); omega)
    have hb0 : w.heap.size < w1.heap.size := (by omega)
    have fq0_0 := Ext.free (p := ⟨w.heap.size, 0, none⟩) (v := .bool false) xx (by first | exact True | (go_simp; done) | (repeat (first | assumption | (refine (World.cell?_setCell_far _ _ _ _ (by simp <;> omega)).trans ?_) | (refine (World.cell?_alloc_lt _ _ _ (World.block_lt_of_cell? _ _ (by assumption))).trans ?_) | (go_simp; done)))) (by first | assumption | (go_simp; done))
    have q0_0 := Ext.cell (p := ⟨w.heap.size, 0, none⟩) (v := .bool false) xx (by first | exact True | (go_simp; done) | (repeat (first | assumption | (refine (World.cell?_setCell_far _ _ _ _ (by simp <;> omega)).trans ?_) | (refine (World.cell?_alloc_lt _ _ _ (World.block_lt_of_cell? _ _ (by assumption))).trans ?_) | (go_simp; done))))
    have fq0_1 := Ext.free (p := ⟨w.heap.size, 1, none⟩) (v := .slice none 0 0) xx (by first | exact True | (go_simp; done) | (repeat (first | assumption | (refine (World.cell?_setCell_far _ _ _ _ (by simp <;> omega)).trans ?_) | (refine (World.cell?_alloc_lt _ _ _ (World.block_lt_of_cell? _ _ (by assumption))).trans ?_) | (go_simp; done)))) (by first | assumption | (go_simp; done))
    have q0_1 := Ext.cell (p := ⟨w.heap.size, 1, none⟩) (v := .slice none 0 0) xx (by first | exact True | (go_simp; done) | (repeat (first | assumption | (refine (World.cell?_setCell_far _ _ _ _ (by simp <;> omega)).trans ?_) | (refine (World.cell?_alloc_lt _ _ _ (World.block_lt_of_cell? _ _ (by assumption))).trans ?_) | (go_simp; done))))
    clear xx
    go_wp2_with fail
    refine (ParseM u _ er2 m hp.out).mono ?_
    rintro e w2 ⟨r2a, r2c, r2z, r2B, rfl, r2b, r2o, r2k, r2v, r2l, xx⟩
    try simp at r2b
    replace hE := Ext.trans hE xx
    have hz2 : w1.heap.size ≤ w2.heap.size := (by have hq := Ext.size xx; (try simp at hq); omega)
    have hb0 : w.heap.size < w2.heap.size := (by omega)
    have fq0_0 := Ext.free (p := ⟨w.heap.size, 0, none⟩) (v := .bool false) xx q0_0 fq0_0
    have q0_0 := Ext.cell (p := ⟨w.heap.size, 0, none⟩) (v := .bool false) xx q0_0
    have fq0_1 := Ext.free (p := ⟨w.heap.size, 1, none⟩) (v := .slice none 0 0) xx q0_1 fq0_1
    have q0_1 := Ext.cell (p := ⟨w.heap.size, 1, none⟩) (v := .slice none 0 0) xx q0_1
    clear xx
    go_wp2_with fail
    refine bodyPost_ret (v := .tuple #[.agg #[.bool false, .slice none 0 0], .int .i64 er2]) (by simp [results, Try.results42, go_sem, q0_0, q0_1]) rfl ?_
    rw [(Prod.mk.inj hr.out).1, (Prod.mk.inj hr.out).2]
    exact ⟨false, none, 0, [], _, rfl, (Nat.le_refl _), (Own.nil _ _), CanZ.nil, (iv_nil _), (by first | omega | (simp; done) | (simp; omega)), (Ext.st (Ext.st hE (b := w.heap.size) (by omega) _ _) (b := w.heap.size) (by omega) _ _)⟩

/-- a text as it is answered, a sign ahead or none -/
def textZ (z : Int) (t : ByteArray) : ByteArray := if z < 0 then (⟨#[45]⟩ : ByteArray) ++ t else t
theorem text_long {zs : List Nat} {s : ByteArray} (h : Lb zs) (ht : isT (bytes s) (val zs)) (hl : zs.length ≤ 10000) : s.size ≤ 100001 := by
  have h1 : val zs < 10 ^ (10 * zs.length + 1) := Nat.lt_of_lt_of_le (Nat.lt_of_lt_of_le (val_lt h) (pw_10 _)) (Nat.pow_le_pow_right (by omega) (by omega))
  have := isT_short ht h1 (by omega)
  rw [bytes_length] at this
  omega
def GotTZ (w : World) (z : Int) (e : Ending) (w' : World) : Prop := ∃ t : ByteArray, e = .returned (.string (textZ z t)) ∧ isT (bytes t) z.natAbs ∧ Ext w w'

set_option maxRecDepth 100000 in
set_option maxHeartbeats 1000000 in
theorem ZText_any (s : Bool) (ao : Option Addr) (n c : Nat) (zs : List Nat) (w : World) (hn : n = zs.length) (h : Rd w ao c zs) (hl : zs.length ≤ 10000) :
    Calls Try.prog 41 #[.agg #[.bool s, .slice ao n c]] w (GotTZ w (iv s zs)) := by
  subst hn
  obtain ⟨x, hx⟩ : ∃ x, sgn (iv s zs) = x := ⟨_, rfl⟩
  replace hx := Lib.hid hx
  by_cases h0 : x < 0
  · have hz : Hid (iv s zs < 0) := sgn_lt_zero.1 (by rw [hx.out]; exact h0)
    go_enter Try.func41, Try.ntmps41
    go_wp2_with fail
    refine (ZSign_any s _ _ _ zs _ x rfl (h.ext ((Ext.refl _).alloc _)) (by first | omega | (simp; done) | (simp; omega)) hx.out).mono ?_
    rintro e w1 ⟨rfl, xx⟩
    have hE : Ext w w1 := Ext.trans ((Ext.refl _).alloc _) xx
    have hz1 : w.heap.size + 1 ≤ w1.heap.size := (by have hq := Ext.size xx; (try simp at hq); omega)
    have hb0 : w.heap.size < w1.heap.size := (by omega)
    have q0_1 := Ext.cell (p := ⟨w.heap.size, 1, none⟩) (v := .slice ao zs.length c) xx (by first | exact True | (go_simp; done) | (repeat (first | assumption | (refine (World.cell?_setCell_far _ _ _ _ (by simp <;> omega)).trans ?_) | (refine (World.cell?_alloc_lt _ _ _ (World.block_lt_of_cell? _ _ (by assumption))).trans ?_) | (go_simp; done))))
    clear xx
    go_wp2_with fail
    refine (Text_any _ _ _ zs _ rfl (h.ext hE) (by first | omega | (simp; done) | (simp; omega))).mono ?_
    rintro e w2 ⟨r2s, rfl, r2t, xx⟩
    replace r2t := Lib.hid r2t
    replace hE := Ext.trans hE xx
    have hz2 : w1.heap.size ≤ w2.heap.size := (by have hq := Ext.size xx; (try simp at hq); omega)
    clear xx
    have r2z : r2s.size ≤ 100001 := text_long h.lb r2t.out hl
    go_wp2_with fail
    go_ret
    exact ⟨r2s, by unfold textZ; rw [if_pos hz.out]; rfl, by rw [iv_abs]; exact r2t.out, hE⟩
  · have hz : Hid (¬ iv s zs < 0) := fun q => h0 (by rw [← hx.out]; exact sgn_lt_zero.2 q)
    go_enter Try.func41, Try.ntmps41
    go_wp2_with fail
    refine (ZSign_any s _ _ _ zs _ x rfl (h.ext ((Ext.refl _).alloc _)) (by first | omega | (simp; done) | (simp; omega)) hx.out).mono ?_
    rintro e w1 ⟨rfl, xx⟩
    have hE : Ext w w1 := Ext.trans ((Ext.refl _).alloc _) xx
    have hz1 : w.heap.size + 1 ≤ w1.heap.size := (by have hq := Ext.size xx; (try simp at hq); omega)
    have hb0 : w.heap.size < w1.heap.size := (by omega)
    have q0_1 := Ext.cell (p := ⟨w.heap.size, 1, none⟩) (v := .slice ao zs.length c) xx (by first | exact True | (go_simp; done) | (repeat (first | assumption | (refine (World.cell?_setCell_far _ _ _ _ (by simp <;> omega)).trans ?_) | (refine (World.cell?_alloc_lt _ _ _ (World.block_lt_of_cell? _ _ (by assumption))).trans ?_) | (go_simp; done))))
    clear xx
    go_wp2_with fail
    refine (Text_any _ _ _ zs _ rfl (h.ext hE) (by first | omega | (simp; done) | (simp; omega))).mono ?_
    rintro e w2 ⟨r2s, rfl, r2t, xx⟩
    replace r2t := Lib.hid r2t
    replace hE := Ext.trans hE xx
    have hz2 : w1.heap.size ≤ w2.heap.size := (by have hq := Ext.size xx; (try simp at hq); omega)
    clear xx
    go_wp2_with fail
    go_ret
    exact ⟨r2s, by unfold textZ; rw [if_neg (by have := hz.out; omega)]; rfl, by rw [iv_abs]; exact r2t.out, hE⟩
set_option maxRecDepth 100000 in
set_option maxHeartbeats 1000000 in
theorem RZText_any (s : Bool) (ao : Option Addr) (n c : Nat) (zs : List Nat) (w : World) (hn : n = zs.length) (h : Rd w ao c zs) (hl : zs.length ≤ 10000) :
    Calls Try.prog 61 #[.agg #[.bool s, .slice ao n c]] w (GotTZ w (iv s zs)) := by
  subst hn
  obtain ⟨x, hx⟩ : ∃ x, sgn (iv s zs) = x := ⟨_, rfl⟩
  replace hx := Lib.hid hx
  by_cases h0 : x < 0
  · have hz : Hid (iv s zs < 0) := sgn_lt_zero.1 (by rw [hx.out]; exact h0)
    go_enter Try.func61, Try.ntmps61
    go_wp2_with fail
    refine (RSign_any s _ _ _ zs _ x rfl (h.ext ((Ext.refl _).alloc _)) (by first | omega | (simp; done) | (simp; omega)) hx.out).mono ?_
    rintro e w1 ⟨rfl, xx⟩
    have hE : Ext w w1 := Ext.trans ((Ext.refl _).alloc _) xx
    have hz1 : w.heap.size + 1 ≤ w1.heap.size := (by have hq := Ext.size xx; (try simp at hq); omega)
    have hb0 : w.heap.size < w1.heap.size := (by omega)
    have q0_1 := Ext.cell (p := ⟨w.heap.size, 1, none⟩) (v := .slice ao zs.length c) xx (by first | exact True | (go_simp; done) | (repeat (first | assumption | (refine (World.cell?_setCell_far _ _ _ _ (by simp <;> omega)).trans ?_) | (refine (World.cell?_alloc_lt _ _ _ (World.block_lt_of_cell? _ _ (by assumption))).trans ?_) | (go_simp; done))))
    clear xx
    go_wp2_with fail
    refine (RText_any _ _ _ zs _ rfl (h.ext hE) (by first | omega | (simp; done) | (simp; omega))).mono ?_
    rintro e w2 ⟨r2s, rfl, r2t, xx⟩
    replace r2t := Lib.hid r2t
    replace hE := Ext.trans hE xx
    have hz2 : w1.heap.size ≤ w2.heap.size := (by have hq := Ext.size xx; (try simp at hq); omega)
    clear xx
    have r2z : r2s.size ≤ 100001 := text_long h.lb r2t.out hl
    go_wp2_with fail
    go_ret
    exact ⟨r2s, by unfold textZ; rw [if_pos hz.out]; rfl, by rw [iv_abs]; exact r2t.out, hE⟩
  · have hz : Hid (¬ iv s zs < 0) := fun q => h0 (by rw [← hx.out]; exact sgn_lt_zero.2 q)
    go_enter Try.func61, Try.ntmps61
    go_wp2_with fail
    refine (RSign_any s _ _ _ zs _ x rfl (h.ext ((Ext.refl _).alloc _)) (by first | omega | (simp; done) | (simp; omega)) hx.out).mono ?_
    rintro e w1 ⟨rfl, xx⟩
    have hE : Ext w w1 := Ext.trans ((Ext.refl _).alloc _) xx
    have hz1 : w.heap.size + 1 ≤ w1.heap.size := (by have hq := Ext.size xx; (try simp at hq); omega)
    have hb0 : w.heap.size < w1.heap.size := (by omega)
    have q0_1 := Ext.cell (p := ⟨w.heap.size, 1, none⟩) (v := .slice ao zs.length c) xx (by first | exact True | (go_simp; done) | (repeat (first | assumption | (refine (World.cell?_setCell_far _ _ _ _ (by simp <;> omega)).trans ?_) | (refine (World.cell?_alloc_lt _ _ _ (World.block_lt_of_cell? _ _ (by assumption))).trans ?_) | (go_simp; done))))
    clear xx
    go_wp2_with fail
    refine (RText_any _ _ _ zs _ rfl (h.ext hE) (by first | omega | (simp; done) | (simp; omega))).mono ?_
    rintro e w2 ⟨r2s, rfl, r2t, xx⟩
    replace r2t := Lib.hid r2t
    replace hE := Ext.trans hE xx
    have hz2 : w1.heap.size ≤ w2.heap.size := (by have hq := Ext.size xx; (try simp at hq); omega)
    clear xx
    go_wp2_with fail
    go_ret
    exact ⟨r2s, by unfold textZ; rw [if_neg (by have := hz.out; omega)]; rfl, by rw [iv_abs]; exact r2t.out, hE⟩
end Go.Proofs.Ytmnhbjefjadjiaa
