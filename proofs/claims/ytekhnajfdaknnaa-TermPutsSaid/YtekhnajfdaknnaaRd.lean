/-
  What a slice of limbs reads as in a world; rows of limbs that a call itself has made; how both are kept; laws for make, append and indexes in this form.
-/
import Derived.Test.YtekhnajfdaknnaaProg
import Derived.Test.YtekhnajfdaknnaaPure
import Derived.WalkKit
import Derived.WalkSpells
import Derived.WalkLawsBesides
import Derived.Laws.AppendOwnNone
import Derived.Laws.CopyOwn
import Derived.Lib.Hide
namespace Go.Proofs.Ytekhnajfdaknnaa
open Go.RowKit

/-- block and offset of a slice's address -/
def bk (ao : Option Addr) : Nat := match ao with | some a => a.block | none => 0
def of (ao : Option Addr) : Nat := match ao with | some a => a.off | none => 0
/-- all that was there is as it was -/
def Ext (w w' : World) : Prop := Below w.heap.size w w'

theorem Ext.refl (w : World) : Ext w w := Below.refl _ _
theorem Ext.size {w w' : World} (h : Ext w w') : w.heap.size ≤ w'.heap.size := Below.size h
theorem Ext.trans {a b c : World} (h : Ext a b) (k : Ext b c) : Ext a c := Below.trans h (Below.mono k h.size)
theorem Ext.alloc {a w : World} (h : Ext a w) (o : Obj) : Ext a (w.alloc o) := Below.alloc h h.size o
theorem Ext.drew {a w : World} (h : Ext a w) : Ext a w.drew := Below.drew h
theorem Ext.drewN {a w : World} (h : Ext a w) (n : Nat) : Ext a (w.drewN n) := by
  have : ∀ m, (w.drewN m).heap = w.heap ∧ (w.drewN m).os = w.os ∧ (w.drewN m).tape = w.tape ∧ (w.drewN m).output = w.output := by
    intro m; exact ⟨rfl, rfl, rfl, rfl⟩
  obtain ⟨h1, h2, h3, h4⟩ := this n
  exact ⟨h2.trans h.os, h3.trans h.tape, h4.trans h.output, by rw [h1]; exact Below.size h, fun k hk => by rw [h1]; exact h.block k hk⟩
theorem Ext.store {a w : World} (h : Ext a w) {p : Addr} (hp : a.heap.size ≤ p.block) (u : Value) : Ext a (w.setCell p u) := Below.setCell h hp u
theorem Ext.grown {a w w' : World} {row : Option Nat} (h : Ext a w) (hg : w.grownBy w' row) (hr : ∀ k, row = some k → a.heap.size ≤ k) : Ext a w' := Below.grown h hg h.size hr
theorem Ext.cell {w w' : World} (h : Ext w w') {p : Addr} {v : Value} (hc : w.cell? p = some v) : w'.cell? p = some v :=
  (Below.cell h (World.block_lt_of_cell? w p hc)).trans hc
theorem Ext.below {w w' : World} (h : Ext w w') : Below w.heap.size w w' := h

/-- the slice at ao, of length zs.length and capacity c, reads as zs -/
structure Rd (w : World) (ao : Option Addr) (c : Nat) (zs : List Nat) : Prop where
  cap : zs.length ≤ c
  mx : c ≤ 9223372036854775807
  nl : ao = none → c = 0
  lb : Lb zs
  ad : 0 < zs.length → ao = some ⟨bk ao, of ao, none⟩
  cell : ∀ i, i < zs.length → w.cell? ⟨bk ao, of ao + i, none⟩ = some (.int .u32 (lim zs i))

theorem Rd.nil (w : World) : Rd w none 0 [] := ⟨Nat.le_refl _, by omega, fun _ => rfl, Lb_nil, fun h => by simp at h, fun i h => by simp at h⟩
theorem Rd.ext {w w' : World} {ao : Option Addr} {c : Nat} {zs : List Nat} (h : Rd w ao c zs) (k : Ext w w') : Rd w' ao c zs :=
  ⟨h.cap, h.mx, h.nl, h.lb, h.ad, fun i hi => k.cell (h.cell i hi)⟩
theorem Rd.take {w : World} {ao : Option Addr} {c : Nat} {zs : List Nat} (h : Rd w ao c zs) (k : Nat) (_hk : k ≤ zs.length) (c' : Nat) (hc' : (zs.take k).length ≤ c') (hc2 : c' ≤ c) : Rd w ao c' (zs.take k) := by
  refine ⟨hc', Nat.le_trans hc2 h.mx, fun e => by have := h.nl e; omega, Lb_take h.lb _, ?_, ?_⟩
  · intro hp; rw [List.length_take] at hp; exact h.ad (by omega)
  · intro i hi; rw [List.length_take] at hi; rw [lim_take (by omega)]; exact h.cell i (by omega)
theorem Rd.drop {w : World} {b o c : Nat} {zs : List Nat} (h : Rd w (some ⟨b, o, none⟩) c zs) (k : Nat) (hk : k ≤ zs.length) : Rd w (some ⟨b, o + k, none⟩) (c - k) (zs.drop k) := by
  have h1 := h.cap
  refine ⟨by rw [List.length_drop]; omega, Nat.le_trans (Nat.sub_le _ _) h.mx, fun e => by simp at e, Lb_drop h.lb _, fun _ => rfl, ?_⟩
  intro i hi
  rw [List.length_drop] at hi
  have := h.cell (k + i) (by omega)
  simp only [bk, of] at this ⊢
  rw [lim_drop, Nat.add_assoc]; exact this
theorem Rd.isAt {w : World} {ao : Option Addr} {c : Nat} {zs : List Nat} (h : Rd w ao c zs) (hp : 0 < zs.length) : ∃ b o, ao = some ⟨b, o, none⟩ := ⟨_, _, h.ad hp⟩
theorem Rd.trm {w : World} {ao : Option Addr} {c : Nat} {zs : List Nat} (h : Rd w ao c zs) : Rd w ao c (trm zs) :=
  h.take _ (trimN_le _ _) c (Nat.le_trans (trm_le zs) h.cap) (Nat.le_refl _)

theorem Rd.blt {w : World} {ao : Option Addr} {c : Nat} {zs : List Nat} (h : Rd w ao c zs) (hp : 0 < zs.length) : bk ao < w.heap.size :=
  World.block_lt_of_cell? w _ (h.cell 0 hp)

/-- 'x[i]' of a slice that may be nil where it is empty -/
theorem run_ix {P : Program} {t e : TypeId} (ht : P.underlying t = some (.slice e)) (hs : ∀ w, (sizeOf e).run P w = .ok 1 w) {w0 : World} {ao : Option Addr} {c : Nat} {zs : List Nat} (h : Rd w0 ao c zs)
   (k : IntKind) (i : Int) (w : World) (h0 : 0 ≤ i) (h1 : i < zs.length) :
   (Instr.indexAt t (.slice ao zs.length c) (.int k i)).run P w = .ok (.pointer (some ⟨bk ao, of ao + i.toNat, none⟩)) w := by
  have h2 := h.ad (by omega)
  rw [h2]
  simp [Instr.indexAt, asIntOf, run_underlying ht, h0, h1, go_sem, hs, bk, of]

/-- the slice at ao is a row of the call's own (from block B on) that holds zs -/
structure Own (w : World) (B : Nat) (ao : Option Addr) (c : Nat) (zs : List Nat) : Prop where
  lb : Lb zs
  row : w.ownsRow B 62 1 (.slice ao zs.length c) zs.length (zs.map fun (x : Nat) => Value.int .u32 (x : Int))

theorem Own.nil (w : World) (B : Nat) : Own w B none 0 [] := ⟨Lb_nil, World.ownsRow_nil _ _ _ _⟩
theorem Own.rd {w : World} {B : Nat} {ao : Option Addr} {c : Nat} {zs : List Nat} (h : Own w B ao c zs) : Rd w ao c zs := by
  have hr := h.row
  rcases hr.2 with ⟨hv, hn⟩ | ⟨g, cap, cur, hv, hb, hg, hnc, hcm, hcs, htake⟩
  · have : zs = [] := List.length_eq_zero_iff.1 hn
    subst this
    simp at hv
    obtain ⟨rfl, rfl⟩ := hv
    exact Rd.nil w
  · simp only [Value.slice.injEq, true_and] at hv
    obtain ⟨rfl, rfl⟩ := hv
    refine ⟨hnc, by simpa [maxLen] using hcm, fun e => by simp at e, h.lb, fun _ => rfl, ?_⟩
    intro i hi
    have := hr.cellAt i (by omega)
    simp only [bk, of, Nat.zero_add]
    rw [this, List.getElem?_map, lim_map_at hi]
    rfl
theorem Own.lt {w : World} {B : Nat} {ao : Option Addr} {c : Nat} {zs : List Nat} (h : Own w B ao c zs) : ∀ k, (Value.slice ao zs.length c).ownBlock = some k → B ≤ k ∧ k < w.heap.size := h.row.lt
theorem Own.blk {w : World} {B : Nat} {ao : Option Addr} {c : Nat} {zs : List Nat} (h : Own w B ao c zs) (hp : 0 < zs.length) : B ≤ bk ao ∧ bk ao < w.heap.size ∧ of ao = 0 ∧ ao = some ⟨bk ao, 0, none⟩ := by
  rcases h.row.2 with ⟨hv, hn⟩ | ⟨g, cap, cur, hv, hb, hg, hnc, hcm, hcs, htake⟩
  · omega
  · simp only [Value.slice.injEq, true_and] at hv
    obtain ⟨rfl, rfl⟩ := hv
    exact ⟨hb, (Array.getElem?_eq_some_iff.1 hg).1, rfl, rfl⟩
theorem Own.frozen {w : World} {B : Nat} {ao : Option Addr} {c : Nat} {zs : List Nat} (h : Own w B ao c zs) (hp : 0 < zs.length) (i : Nat) : w.frozen? ⟨bk ao, of ao + i, none⟩ = false := by
  rcases h.row.2 with ⟨hv, hn⟩ | ⟨g, cap, cur, hv, hb, hg, hnc, hcm, hcs, htake⟩
  · omega
  · have hr := h.row
    simp only [Value.slice.injEq, true_and] at hv
    obtain ⟨rfl, rfl⟩ := hv
    simp only [bk, of, Nat.zero_add]
    exact hr.frozenAt i
theorem Own.alloc {w : World} {B : Nat} {ao : Option Addr} {c : Nat} {zs : List Nat} (h : Own w B ao c zs) (o : Obj) : Own (w.alloc o) B ao c zs := ⟨h.lb, h.row.alloc o⟩
theorem Own.ext {w w' : World} {B : Nat} {ao : Option Addr} {c : Nat} {zs : List Nat} (h : Own w B ao c zs) (k : Ext w w') : Own w' B ao c zs :=
  ⟨h.lb, h.row.kept (row := none) ⟨k.os, k.tape, k.output, k.size, fun i hi _ => k.block i hi⟩ (by cases hv : Value.ownBlock _ <;> simp)⟩
theorem Own.mono {w : World} {B B' : Nat} {ao : Option Addr} {c : Nat} {zs : List Nat} (h : Own w B ao c zs) (hB : B' ≤ B) : Own w B' ao c zs := by
  refine ⟨h.lb, h.row.1, ?_⟩
  rcases h.row.2 with hn | ⟨g, cap, cur, hv, hb, rest⟩
  · exact .inl hn
  · exact .inr ⟨g, cap, cur, hv, Nat.le_trans hB hb, rest⟩

theorem Own.snocEq {w : World} {B : Nat} {ao : Option Addr} {c : Nat} {zs : List Nat} {y y' : Nat} (h : Own w B ao c (zs ++ [y])) (e : y = y') : Own w B ao c (zs ++ [y']) := e ▸ h

theorem Own.take {w : World} {B : Nat} {ao : Option Addr} {c : Nat} {zs : List Nat} (h : Own w B ao c zs) (k : Nat) (hk : k ≤ zs.length) : Own w B ao c (zs.take k) := by
  refine ⟨Lb_take h.lb _, by simp, ?_⟩
  rw [List.length_take, Nat.min_eq_left hk]
  rcases h.row.2 with ⟨hv, hn⟩ | ⟨g, cap, cur, hv, hb, hg, hnc, hcm, hcs, htake⟩
  · simp at hv
    obtain ⟨rfl, _, rfl⟩ := hv
    refine .inl ⟨?_, by omega⟩
    simp; omega
  · simp only [Value.slice.injEq, true_and] at hv
    obtain ⟨rfl, rfl⟩ := hv
    refine .inr ⟨g, c, cur, rfl, hb, hg, by omega, hcm, hcs, ?_⟩
    rw [List.map_take, ← htake, List.take_take]
    congr 1
    omega
theorem Own.pop {w : World} {B : Nat} {ao : Option Addr} {c : Nat} {zs : List Nat} {k : Nat} (h : Own w B ao c (zs.take (k + 1))) (hk : k < zs.length) : Own w B ao c (zs.take k) := by
  have := h.take k (by rw [List.length_take]; omega)
  rwa [List.take_take, Nat.min_eq_left (by omega)] at this
/-- a new empty row, as a literal without elements makes it -/
theorem own_empty (w : World) : Own (w.alloc (.cells #[] 62)) w.heap.size (some ⟨w.heap.size, 0, none⟩) 0 [] :=
  ⟨Lb_nil, World.ownsRow_made w #[] 0 (Nat.le_refl _) (Nat.zero_le _) (by rfl)⟩

theorem size32 (w : World) : (sizeOf 62).run Try.prog w = .ok 1 w := by kernel_rfl
theorem info32 : (Try.prog.info? 62).map (fun i => (i.zero, i.size, i.bytes)) = some (some (.int .u32 0), 1, 4) := by kernel_rfl
theorem und : Try.prog.underlying 24 = some (.slice 62) := Try.underlying24
theorem ixn {w0 : World} {ao : Option Addr} {c : Nat} {zs : List Nat} (h : Rd w0 ao c zs) (k : IntKind) (i : Int) (w : World) (h0 : 0 ≤ i) (h1 : i < zs.length) :
   (Instr.indexAt 24 (.slice ao zs.length c) (.int k i)).run Try.prog w = .ok (.pointer (some ⟨bk ao, of ao + i.toNat, none⟩)) w := run_ix und size32 h k i w h0 h1

/-- the same at one index -/
theorem ixk {w0 : World} {ao : Option Addr} {c : Nat} {zs : List Nat} (h : Rd w0 ao c zs) (n : Nat) (hn : n = zs.length) (i : Nat) (h1 : i < n) (w : World) :
   (Instr.indexAt 24 (.slice ao n c) (.int .i64 (i : Int))).run Try.prog w = .ok (.pointer (some ⟨bk ao, of ao + i, none⟩)) w := by
  subst hn; exact ixn h .i64 i w (by omega) (by omega)

/-- the same at an index that is an expression -/
theorem ixe {w0 : World} {ao : Option Addr} {c : Nat} {zs : List Nat} (h : Rd w0 ao c zs) (n : Nat) (hn : n = zs.length) (E : Int) (i : Nat) (hE : E = (i : Int)) (h1 : i < n) (w : World) :
   (Instr.indexAt 24 (.slice ao n c) (.int .i64 E)).run Try.prog w = .ok (.pointer (some ⟨bk ao, of ao + i, none⟩)) w := by
  subst hE; exact ixk h n hn i h1 w

/-- 'make(Nat, 0, n)' -/
theorem mk0 {wi w : World} {ops : Array Oper} {rest : List Oper} {o : Oper} {a : Act} {Q : Exit → Act → World → Prop} (hgd : o.guard = none) (l r : Operand)
    (hop : o.op = Op.makeSlice 24 l r) (kl kc : IntKind) (C : Int) (hl : a.eval l = .int kl 0) (hc : a.eval r = .int kc C) (hC : 0 ≤ C) (hn : C ≤ 4294967297)
    (hext : Ext wi w)
    (h : ∀ w', Own w' wi.heap.size (some ⟨w.heap.size, 0, none⟩) C.toNat [] → Ext wi w' → wpList Try.prog ops Q rest (a.put o.dst (.slice (some ⟨w.heap.size, 0, none⟩) 0 C.toNat)) w') :
    wpList Try.prog ops Q (o :: rest) a w := by
  obtain ⟨i0, hi, hz0, hz1, hz2⟩ := info_parts info32
  refine wpList_make_own w hgd l r 24 hop wi.heap.size 62 i0 (.int .u32 0) 1 und hi hz0 hz1 kl kc C C.toNat hl hc (by omega) (by rw [hz2]; omega) (by unfold maxLen; omega) hext.size ?_
  intro w' hown hg
  exact h w' ⟨Lb_nil, hown⟩ (hext.grown hg (fun k hk => by cases hk))

/-- 'make(Nat, l, c)' -/
theorem mkn {wi w : World} {ops : Array Oper} {rest : List Oper} {o : Oper} {a : Act} {Q : Exit → Act → World → Prop} (hgd : o.guard = none) (l r : Operand)
    (hop : o.op = Op.makeSlice 24 l r) (kl kc : IntKind) (L C : Int) (hl : a.eval l = .int kl L) (hc : a.eval r = .int kc C) (hL : 0 ≤ L) (hC : L ≤ C) (hn : C ≤ 4294967297)
    (hext : Ext wi w)
    (h : ∀ w', Own w' w.heap.size (some ⟨w.heap.size, 0, none⟩) C.toNat (List.replicate L.toNat 0) → Ext w w' → Ext wi w' → wpList Try.prog ops Q rest (a.put o.dst (.slice (some ⟨w.heap.size, 0, none⟩) L.toNat C.toNat)) w') :
    wpList Try.prog ops Q (o :: rest) a w := by
  obtain ⟨i0, hi, hz0, hz1, hz2⟩ := info_parts info32
  refine wpList_plain hgd fun K hK => ?_
  have hrun := run_make (P := Try.prog) w 24 62 i0 (.int .u32 0) und hi hz0 kl kc L C hL hC (by rw [hz2]; omega) (by omega)
  unfold Oper.wp
  simp only [execOp, hop, hl, hc, Sem.run_bind, hrun, Result.andThen, Sem.run_pure]
  refine hK _ _ (h _ ⟨?_, ?_⟩ ((Ext.refl w).alloc _) (hext.alloc _))
  · intro z hz
    have := List.eq_of_mem_replicate hz
    omega
  · refine ⟨by simp, .inr ⟨w.heap.size, C.toNat, madeCells (Value.int .u32 0).cells (C.toNat * i0.size), by simp, Nat.le_refl _, heap_alloc_new w _, by simp; omega, by unfold maxLen; omega, by rw [size_madeCells, hz1], ?_⟩⟩
    rw [hz1, Nat.mul_one, Nat.mul_one]
    unfold madeCells
    apply List.ext_getElem
    · simp; omega
    · intro i h1 h2
      simp [Value.cells, Nat.mod_one]

/-- 'make(Nat, n)' -/
theorem mkf {wi w : World} {ops : Array Oper} {rest : List Oper} {o : Oper} {a : Act} {Q : Exit → Act → World → Prop} (hgd : o.guard = none) (l r : Operand)
    (hop : o.op = Op.makeSlice 24 l r) (kl kc : IntKind) (C : Int) (hl : a.eval l = .int kl C) (hc : a.eval r = .int kc C) (hC : 0 ≤ C) (hn : C ≤ 4294967297)
    (hext : Ext wi w)
    (h : ∀ w', Own w' w.heap.size (some ⟨w.heap.size, 0, none⟩) C.toNat (List.replicate C.toNat 0) → Ext w w' → Ext wi w' → wpList Try.prog ops Q rest (a.put o.dst (.slice (some ⟨w.heap.size, 0, none⟩) C.toNat C.toNat)) w') :
    wpList Try.prog ops Q (o :: rest) a w := by
  obtain ⟨i0, hi, hz0, hz1, hz2⟩ := info_parts info32
  refine wpList_make_full w hgd l r 24 hop w.heap.size 62 i0 (.int .u32 0) 1 und hi hz0 hz1 kl kc C C C.toNat hl hc (by omega) (by omega) (by rw [hz2]; omega) (by unfold maxLen; omega) (Nat.le_refl _) ?_
  intro w' hown hg
  refine h w' ⟨?_, ?_⟩ ((Ext.refl w).grown hg (fun k hk => by cases hk)) (hext.grown hg (fun k hk => by cases hk))
  · intro z hz
    have := List.eq_of_mem_replicate hz
    omega
  · have e : (madeCells (Value.int .u32 0).cells (C.toNat * 1)).toList = (List.replicate C.toNat 0).map fun (x : Nat) => Value.int .u32 (x : Int) := by
      rw [Nat.mul_one, List.map_replicate]
      unfold madeCells
      apply List.ext_getElem
      · simp
      · intro i h1 h2
        simp [Value.cells, Nat.mod_one]
    rw [e] at hown
    simpa using hown

/-- a new row of one limb, appended to a row of the call's own -/
theorem push {wi w : World} {ops : Array Oper} {rest : List Oper} {o : Oper} {a : Act} {Q : Exit → Act → World → Prop} (hgd : o.guard = none) (s x : Operand)
    (ho : o.op = .call { callee := .builtin .append, args := #[s, x], argTypes := #[24, 24] })
    {B : Nat} (ao : Option Addr) (c : Nat) (zs : List Nat) (n : Nat) (hn : n = zs.length) (hs : a.eval s = .slice ao n c) (hown : Own w B ao c zs)
    (E : Int) (hE : 0 ≤ E) (hy : E < 4294967296) (hx : a.eval x = .slice (some ⟨w.heap.size, 0, none⟩) 1 1)
    (hlen : zs.length ≤ 4294967296) (hB : B = wi.heap.size) (hext : Ext wi w)
    (h : ∀ ao' c' w', Own w' B ao' c' (zs ++ [E.toNat]) → Ext wi w' → wpList Try.prog ops Q rest (a.put o.dst (.slice ao' (zs.length + 1) c')) w') :
    wpList Try.prog ops Q (o :: rest) a (w.alloc (.cells #[.int .u32 E] 62)) := by
  subst hn
  obtain ⟨i0, hi, hz0, hz1, hz2⟩ := info_parts info32
  have hsz := hext.size
  refine wpList_append_own _ hgd s x 24 ho B 62 i0 (.int .u32 0) 1 4 und hi hz0 hz1 hz2 rfl (by decide) _ _ _ hs (hown.row.alloc _) ⟨w.heap.size, 0, none⟩ 1 1 [.int .u32 E] hx rfl ?_ ?_ ?_ ?_ ?_ ?_
  · intro j u hj
    match j, hj with
    | 0, hj => simp at hj; subst hj; simp [Addr.add]
  · intro u hu; simp at hu; subst hu; rfl
  · unfold maxLen; omega
  · omega
  · simp; omega
  · intro v' w' hown' hgrow _
    obtain ⟨y, rfl⟩ := Int.eq_ofNat_of_zero_le hE
    have hlb : Lb (zs ++ [y]) := Lb_snoc hown.lb (by omega)
    have he : Ext wi w' := (hext.alloc _).grown hgrow (fun k hk => by have := (hown.lt k hk).1; omega)
    rcases hown'.2 with ⟨hv, hn⟩ | ⟨g, cap, cur, hv, hb, hg, hnc, hcm, hcs, htake⟩
    · omega
    · subst hv
      refine h _ _ w' ⟨hlb, ?_⟩ he
      simpa using hown'

theorem grown_trans {a b c : World} {r : Option Nat} (h : a.grownBy b r) (k : b.grownBy c r) : a.grownBy c r :=
  ⟨k.os.trans h.os, k.tape.trans h.tape, k.output.trans h.output, Nat.le_trans h.size k.size, fun i hi hne => (k.block i (Nat.lt_of_lt_of_le hi h.size) hne).trans (h.block i hi hne)⟩
theorem grown_of_ext {w w' : World} (h : Ext w w') (r : Option Nat) : w.grownBy w' r := ⟨h.os, h.tape, h.output, h.size, fun i hi _ => h.block i hi⟩
/-- what lies in another block reads on -/
theorem Rd.kept {w w' : World} {ao : Option Addr} {c : Nat} {zs : List Nat} {g : Nat} (h : Rd w ao c zs) (k : w.grownBy w' (some g)) (hne : 0 < zs.length → bk ao ≠ g) : Rd w' ao c zs :=
  ⟨h.cap, h.mx, h.nl, h.lb, h.ad, fun i hi => k.cell (h.cell i hi) (by simp; exact hne (by omega))⟩
theorem Own.kept {w w' : World} {B : Nat} {ao : Option Addr} {c : Nat} {zs : List Nat} {g : Nat} (h : Own w B ao c zs) (k : w.grownBy w' (some g)) (hne : (Value.slice ao zs.length c).ownBlock ≠ some g) : Own w' B ao c zs :=
  ⟨h.lb, h.row.kept k (.inr hne)⟩
/-- one limb of a row of the call's own is written -/
theorem Own.store {w : World} {B : Nat} {ao : Option Addr} {c : Nat} {zs : List Nat} (h : Own w B ao c zs) (i : Nat) (hi : i < zs.length) (E : Int) (y : Nat) (hE : E = (y : Int)) (hy : y < 4294967296) :
    Own (w.setCell ⟨bk ao, of ao + i, none⟩ (.int .u32 E)) B ao c (zs.set i y) ∧ w.grownBy (w.setCell ⟨bk ao, of ao + i, none⟩ (.int .u32 E)) (some (bk ao)) := by
  subst hE
  obtain ⟨h1, h2, h3, h4⟩ := h.blk (by omega)
  have hr := h.row
  rw [h4] at hr
  have := hr.stored i (.int .u32 (y : Int))
  rw [h3, Nat.zero_add]
  refine ⟨⟨?_, ?_⟩, this.2⟩
  · intro z hz
    rcases List.mem_or_eq_of_mem_set hz with hm | hm
    · exact h.lb z hm
    · omega
  · rw [h4, List.length_set, List.map_set]
    exact this.1
theorem lim_set_eq {zs : List Nat} {i y : Nat} (h : i < zs.length) : lim (zs.set i y) i = y := by
  unfold lim; simp [List.getD_eq_getElem?_getD, h]
theorem lim_set_ne {zs : List Nat} {i j y : Nat} (h : i ≠ j) : lim (zs.set i y) j = lim zs j := by
  unfold lim; simp [List.getD_eq_getElem?_getD, h]

/-- all of a slice that reads as ys, appended to a row of the call's own -/
theorem pushAll {wi w : World} {ops : Array Oper} {rest : List Oper} {o : Oper} {a : Act} {Q : Exit → Act → World → Prop} (hgd : o.guard = none) (s x : Operand)
    (ho : o.op = .call { callee := .builtin .append, args := #[s, x], argTypes := #[24, 24] })
    {B : Nat} (ao : Option Addr) (c : Nat) (zs : List Nat) (n : Nat) (hn : n = zs.length) (hs : a.eval s = .slice ao n c) (hown : Own w B ao c zs)
    (bo : Option Addr) (d : Nat) (ys : List Nat) (m : Nat) (hm : m = ys.length) (hx : a.eval x = .slice bo m d) (hrd : Rd w bo d ys)
    (hlen : zs.length + ys.length ≤ 4294967296) (hB : B = wi.heap.size) (hext : Ext wi w)
    (h : ∀ ao' c' w', Own w' B ao' c' (zs ++ ys) → Ext wi w' → wpList Try.prog ops Q rest (a.put o.dst (.slice ao' (zs.length + ys.length) c')) w') :
    wpList Try.prog ops Q (o :: rest) a w := by
  subst hn hm
  obtain ⟨i0, hi, hz0, hz1, hz2⟩ := info_parts info32
  have hsz := hext.size
  rcases bo with _ | ad
  · have : ys = [] := by
      rcases Nat.eq_zero_or_pos ys.length with h0 | hp
      · exact List.length_eq_zero_iff.1 h0
      · have := hrd.ad hp; simp at this
    subst this
    rw [hrd.nl rfl] at hx
    refine wpList_append_own_none hgd s x 24 ho B 62 i0 1 und hi _ _ _ hs hown.row hx ?_
    have := h ao c w (by simpa using hown) hext
    simpa using this
  refine wpList_append_own _ hgd s x 24 ho B 62 i0 (.int .u32 0) 1 4 und hi hz0 hz1 hz2 rfl (by decide) _ _ _ hs hown.row ad ys.length d (ys.map fun (x : Nat) => Value.int .u32 (x : Int)) hx (by simp) ?_ ?_ ?_ ?_ ?_ ?_
  · intro j u hj
    have hlt : j < ys.length := by have := (List.getElem?_eq_some_iff.1 hj).1; simpa using this
    rw [List.getElem?_map, lim_map_at hlt] at hj
    simp at hj
    subst hj
    have h0 := hrd.cell j hlt
    have h1 := hrd.ad (by omega)
    simp only [bk, of, Option.some.injEq] at h0 h1
    have h2 : ad.add j = ⟨ad.block, ad.off + j, none⟩ := by
      unfold Addr.add
      split
      · subst_vars; exact h1
      · rfl
    rw [h2]
    exact h0
  · intro u hu; simp at hu; obtain ⟨x, _, rfl⟩ := hu; rfl
  · unfold maxLen; omega
  · omega
  · omega
  · intro v' w' hown' hgrow _
    have hlb : Lb (zs ++ ys) := Lb_append hown.lb hrd.lb
    have he : Ext wi w' := hext.grown hgrow (fun k hk => by have := (hown.lt k hk).1; omega)
    rcases hown'.2 with ⟨hv, hn⟩ | ⟨g, cap, cur, hv, hb, hg, hnc, hcm, hcs, htake⟩
    · have e1 : zs = [] := List.length_eq_zero_iff.1 (by omega)
      have e2 : ys = [] := List.length_eq_zero_iff.1 (by omega)
      subst e1 e2 hv
      exact h none 0 w' (Own.nil _ _) he
    · subst hv
      refine h _ _ w' ⟨hlb, ?_⟩ he
      simpa using hown'

/-- the same, with what it leaves of other blocks -/
theorem pushG {wi w : World} {ops : Array Oper} {rest : List Oper} {o : Oper} {a : Act} {Q : Exit → Act → World → Prop} (hgd : o.guard = none) (s x : Operand)
    (ho : o.op = .call { callee := .builtin .append, args := #[s, x], argTypes := #[24, 24] })
    {B : Nat} (ao : Option Addr) (c : Nat) (zs : List Nat) (n : Nat) (hn : n = zs.length) (hs : a.eval s = .slice ao n c) (hown : Own w B ao c zs)
    (E : Int) (hE : 0 ≤ E) (hy : E < 4294967296) (hx : a.eval x = .slice (some ⟨w.heap.size, 0, none⟩) 1 1)
    (hlen : zs.length ≤ 4294967296) (hB : B = wi.heap.size) (hext : Ext wi w)
    (h : ∀ ao' c' w', Own w' B ao' c' (zs ++ [E.toNat]) → Ext wi w' → w.grownBy w' (Value.slice ao zs.length c).ownBlock → wpList Try.prog ops Q rest (a.put o.dst (.slice ao' (zs.length + 1) c')) w') :
    wpList Try.prog ops Q (o :: rest) a (w.alloc (.cells #[.int .u32 E] 62)) := by
  subst hn
  obtain ⟨i0, hi, hz0, hz1, hz2⟩ := info_parts info32
  have hsz := hext.size
  refine wpList_append_own _ hgd s x 24 ho B 62 i0 (.int .u32 0) 1 4 und hi hz0 hz1 hz2 rfl (by decide) _ _ _ hs (hown.row.alloc _) ⟨w.heap.size, 0, none⟩ 1 1 [.int .u32 E] hx rfl ?_ ?_ ?_ ?_ ?_ ?_
  · intro j u hj
    match j, hj with
    | 0, hj => simp at hj; subst hj; simp [Addr.add]
  · intro u hu; simp at hu; subst hu; rfl
  · unfold maxLen; omega
  · omega
  · simp; omega
  · intro v' w' hown' hgrow _
    obtain ⟨y, rfl⟩ := Int.eq_ofNat_of_zero_le hE
    have hlb : Lb (zs ++ [y]) := Lb_snoc hown.lb (by omega)
    have he : Ext wi w' := (hext.alloc _).grown hgrow (fun k hk => by have := (hown.lt k hk).1; omega)
    rcases hown'.2 with ⟨hv, hn⟩ | ⟨g, cap, cur, hv, hb, hg, hnc, hcm, hcs, htake⟩
    · omega
    · subst hv
      refine h _ _ w' ⟨hlb, ?_⟩ he (grown_trans (World.grownBy_alloc _ _ _) hgrow)
      simpa using hown'

/-- rows of unlike elements lie in unlike blocks -/
theorem ownsRow_ne {w : World} {B1 B2 : Nat} {e1 e2 : TypeId} {s1 s2 : Nat} {v1 v2 : Value} {n1 n2 : Nat} {x1 x2 : List Value} (h1 : w.ownsRow B1 e1 s1 v1 n1 x1) (h2 : w.ownsRow B2 e2 s2 v2 n2 x2) (hne : e1 ≠ e2) :
    v1.ownBlock = none ∨ v1.ownBlock ≠ v2.ownBlock := by
  rcases h1.2 with ⟨hv, hn⟩ | ⟨g, cap, cur, hv, hb, hg, rest⟩
  · left; rw [hv]; rfl
  · right
    rcases h2.2 with ⟨hv2, hn2⟩ | ⟨g2, cap2, cur2, hv2, hb2, hg2, rest2⟩
    · rw [hv, hv2]; simp [Value.ownBlock]
    · rw [hv, hv2]
      simp only [Value.ownBlock, ne_eq, Option.some.injEq]
      intro e
      subst e
      rw [hg] at hg2
      simp at hg2
      exact hne hg2.2
theorem Own.keptO {w w' : World} {B : Nat} {ao : Option Addr} {c : Nat} {zs : List Nat} {row : Option Nat} (h : Own w B ao c zs) (k : w.grownBy w' row) (hne : (Value.slice ao zs.length c).ownBlock = none ∨ (Value.slice ao zs.length c).ownBlock ≠ row) : Own w' B ao c zs :=
  ⟨h.lb, h.row.kept k hne⟩

/-- two halves of 64 bits, joined by or -/
theorem or_join (R x : Nat) (hR : R < 4294967296) (hx : x < 4294967296) : bits BinOp.or .u64 ((R : Int) * 4294967296) (x : Int) = ((R * 4294967296 + x : Nat) : Int) := by
  have e : ((R : Int) * 4294967296) = ((R * 4294967296 : Nat) : Int) := by rw [Int.natCast_mul]; rfl
  rw [e, bits_or_u64_nat _ _ (by omega) (by omega)]
  have h := Nat.two_pow_add_eq_or_of_lt (i := 32) (b := x) (by omega) R
  rw [Nat.mul_comm R, show (4294967296 : Nat) = 2 ^ 32 from rfl, h]
theorem tdiv_nat (a b : Nat) : (a : Int).tdiv (b : Int) = ((a / b : Nat) : Int) := (Int.ofNat_tdiv a b).symm
theorem tmod_nat (a b : Nat) : (a : Int).tmod (b : Int) = ((a % b : Nat) : Int) := (Int.ofNat_tmod a b).symm

end Go.Proofs.Ytekhnajfdaknnaa
