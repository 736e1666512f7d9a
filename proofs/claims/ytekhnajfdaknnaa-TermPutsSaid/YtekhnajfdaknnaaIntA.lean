/-
  Numbers with a sign: what they read as; how they are answered; stores into other blocks.
-/
import Derived.Test.YtekhnajfdaknnaaNatL
import Derived.Deep.RegionHeld3
import Derived.Deep.DeepCutAuto
namespace Go.Proofs.Ytekhnajfdaknnaa
open Go.RowKit

/-- the number that a sign and limbs make -/
def iv (s : Bool) (zs : List Nat) : Int := if s then -(val zs : Int) else (val zs : Int)
theorem iv_false (zs : List Nat) : iv false zs = val zs := rfl
theorem iv_true (zs : List Nat) : iv true zs = -(val zs : Int) := rfl
theorem iv_nil (s : Bool) : iv s [] = 0 := by cases s <;> rfl
theorem iv_abs (s : Bool) (zs : List Nat) : (iv s zs).natAbs = val zs := by cases s <;> simp [iv]
/-- a canonical number: no zeros at the end, and no sign of 0 -/
def CanZ (s : Bool) (zs : List Nat) : Prop := Canon zs ∧ (zs.length = 0 → s = false)
theorem CanZ.neg_iff {s : Bool} {zs : List Nat} (h : CanZ s zs) : s = decide (iv s zs < 0) := by
  cases s
  · simp [iv]
  · have hl : zs.length ≠ 0 := fun e => by have := h.2 e; simp at this
    have := canon_ge h.1 (by omega)
    have := pw_pos (zs.length - 1)
    simp [iv]; omega
theorem CanZ.inj {s t : Bool} {xs ys : List Nat} (hx : CanZ s xs) (hy : CanZ t ys) (h : iv s xs = iv t ys) : s = t ∧ xs = ys := by
  have h1 : s = t := by rw [hx.neg_iff, hy.neg_iff, h]
  refine ⟨h1, canon_inj hx.1 hy.1 ?_⟩
  rw [← iv_abs s xs, ← iv_abs t ys, h]
theorem CanZ.nil : CanZ false [] := ⟨canon_nil, fun _ => rfl⟩
theorem CanZ.pos {zs : List Nat} (h : Canon zs) : CanZ false zs := ⟨h, fun _ => rfl⟩
theorem CanZ.neg {zs : List Nat} (h : Canon zs) (hp : 0 < zs.length) (s : Bool) : CanZ s zs := ⟨h, fun e => by omega⟩

/-- a number as it is answered: of at most L limbs, from block B on -/
def GotZ (w : World) (z : Int) (L : Nat) (e : Ending) (w' : World) : Prop :=
  ∃ (s : Bool) (ao : Option Addr) (c : Nat) (zs : List Nat) (B : Nat), e = .returned (.agg #[.bool s, .slice ao zs.length c]) ∧ w.heap.size ≤ B ∧ Own w' B ao c zs ∧ Hid (CanZ s zs) ∧ Hid (iv s zs = z) ∧ zs.length ≤ L ∧ Ext w w'
/-- the same with an error's number -/
def GotZE (w : World) (z : Int) (L : Nat) (er : Int) (e : Ending) (w' : World) : Prop :=
  ∃ (s : Bool) (ao : Option Addr) (c : Nat) (zs : List Nat) (B : Nat), e = .returned (.tuple #[.agg #[.bool s, .slice ao zs.length c], .int .i64 er]) ∧ w.heap.size ≤ B ∧ Own w' B ao c zs ∧ Hid (CanZ s zs) ∧ Hid (iv s zs = z) ∧ zs.length ≤ L ∧ Ext w w'
/-- two numbers with an error's number -/
def GotZZE (w : World) (z y : Int) (L M : Nat) (er : Int) (e : Ending) (w' : World) : Prop :=
  ∃ (s : Bool) (ao : Option Addr) (c : Nat) (zs : List Nat) (B : Nat) (t : Bool) (bo : Option Addr) (d : Nat) (us : List Nat) (C : Nat),
    e = .returned (.tuple #[.agg #[.bool s, .slice ao zs.length c], .agg #[.bool t, .slice bo us.length d], .int .i64 er]) ∧ w.heap.size ≤ B ∧ Own w' B ao c zs ∧ Hid (CanZ s zs) ∧ Hid (iv s zs = z) ∧ zs.length ≤ L ∧
    w.heap.size ≤ C ∧ Own w' C bo d us ∧ Hid (CanZ t us) ∧ Hid (iv t us = y) ∧ us.length ≤ M ∧ Ext w w'
/-- a plain value as it is answered, with new memory -/
def GotP (v : Value) (w : World) (e : Ending) (w' : World) : Prop := e = .returned v ∧ Ext w w'

theorem Ext.free {w w' : World} (h : Ext w w') {p : Addr} {v : Value} (hc : w.cell? p = some v) (hf : w.frozen? p = false) : w'.frozen? p = false := (Below.frozen h (World.block_lt_of_cell? w _ hc)).trans hf
theorem Ext.st {a w : World} (h : Ext a w) {b : Nat} (hb : a.heap.size ≤ b) (o : Nat) (u : Value) : Ext a (w.setCell ⟨b, o, none⟩ u) := Ext.store h hb u
theorem grown_set (w : World) (p : Addr) (u : Value) : w.grownBy (w.setCell p u) (some p.block) :=
  ⟨rfl, rfl, rfl, by simp [World.setCell], fun k _ hne => Below.heap_setCell _ _ _ _ (fun e => hne (by rw [e]))⟩
theorem Own.st {w : World} {B : Nat} {ao : Option Addr} {c : Nat} {zs : List Nat} (h : Own w B ao c zs) {b : Nat} (hb : b < B) (o : Nat) (u : Value) : Own (w.setCell ⟨b, o, none⟩ u) B ao c zs :=
  ⟨h.lb, h.row.kept (grown_set w _ u) (by
    cases hv : (Value.slice ao zs.length c).ownBlock with
    | none => exact .inl rfl
    | some k => right; intro e; have := (h.lt k hv).1; simp at e; omega)⟩
/-- the own block lies below T -/
def Top (ao : Option Addr) (c : Nat) (zs : List Nat) (T : Nat) : Prop := ∀ k, (Value.slice ao zs.length c).ownBlock = some k → k < T
theorem Own.top {w : World} {B : Nat} {ao : Option Addr} {c : Nat} {zs : List Nat} (h : Own w B ao c zs) : Top ao c zs w.heap.size := fun k hk => (h.lt k hk).2
theorem Own.sty {w : World} {B T : Nat} {ao : Option Addr} {c : Nat} {zs : List Nat} (h : Own w B ao c zs) (ht : Top ao c zs T) {b : Nat} (hb : T ≤ b) (o : Nat) (u : Value) : Own (w.setCell ⟨b, o, none⟩ u) B ao c zs :=
  ⟨h.lb, h.row.kept (grown_set w _ u) (by
    cases hv : (Value.slice ao zs.length c).ownBlock with
    | none => exact .inl rfl
    | some k => right; intro e; have := ht k hv; simp at e; omega)⟩
/-- the own block is not b -/
def Avoid (ao : Option Addr) (c : Nat) (zs : List Nat) (b : Nat) : Prop := (Value.slice ao zs.length c).ownBlock ≠ some b
theorem Own.avoid_lt {w : World} {B : Nat} {ao : Option Addr} {c : Nat} {zs : List Nat} (h : Own w B ao c zs) {b : Nat} (hb : b < B) : Avoid ao c zs b := fun e => by have := (h.lt b e).1; omega
theorem Top.avoid {T : Nat} {ao : Option Addr} {c : Nat} {zs : List Nat} (h : Top ao c zs T) {b : Nat} (hb : T ≤ b) : Avoid ao c zs b := fun e => by have := h b e; omega
theorem Own.sta {w : World} {B : Nat} {ao : Option Addr} {c : Nat} {zs : List Nat} (h : Own w B ao c zs) {b : Nat} (ha : Avoid ao c zs b) (o : Nat) (u : Value) : Own (w.setCell ⟨b, o, none⟩ u) B ao c zs :=
  ⟨h.lb, h.row.kept (grown_set w _ u) (.inr ha)⟩
theorem bcell {W w1 : World} (hb : Ext W w1) : (∀ b o, b < W.heap.size → w1.cell? ⟨b, o, none⟩ = W.cell? ⟨b, o, none⟩) ∧ (∀ b o, b < W.heap.size → w1.frozen? ⟨b, o, none⟩ = W.frozen? ⟨b, o, none⟩) :=
  ⟨fun b o h => Below.cell (p := ⟨b, o, none⟩) hb h, fun b o h => Below.frozen (p := ⟨b, o, none⟩) hb h⟩
theorem Own.drew {w : World} {B : Nat} {ao : Option Addr} {c : Nat} {zs : List Nat} (h : Own w B ao c zs) : Own w.drew B ao c zs := h.ext ((Ext.refl w).drew)
/-- literals, at a block that is spelled anyhow -/
theorem row1b (w : World) (b : Nat) (E : Int) (x : Nat) (hb : b = w.heap.size) (hE : E = (x : Int)) (hx : x < 4294967296) : Own (w.alloc (.cells #[.int .u32 E] 62)) b (some ⟨b, 0, none⟩) 1 [x] := by
  subst hb; exact row1 w E x hE hx
theorem row2b (w : World) (b : Nat) (E F : Int) (x y : Nat) (hb : b = w.heap.size) (hE : E = (x : Int)) (hF : F = (y : Int)) (hx : x < 4294967296) (hy : y < 4294967296) : Own (w.alloc (.cells #[.int .u32 E, .int .u32 F] 62)) b (some ⟨b, 0, none⟩) 2 [x, y] := by
  subst hb; exact row2 w E F x y hE hF hx hy
theorem row3b (w : World) (b : Nat) (E F G : Int) (x y z : Nat) (hb : b = w.heap.size) (hE : E = (x : Int)) (hF : F = (y : Int)) (hG : G = (z : Int)) (hx : x < 4294967296) (hy : y < 4294967296) (hz : z < 4294967296) : Own (w.alloc (.cells #[.int .u32 E, .int .u32 F, .int .u32 G] 62)) b (some ⟨b, 0, none⟩) 3 [x, y, z] := by
  subst hb; exact row3 w E F G x y z hE hF hG hx hy hz
end Go.Proofs.Ytekhnajfdaknnaa
