/-
  Rows of bytes: what XRd says of rows of limbs, by program.
-/
import Derived.Test.YtehbfobfkpejoaaRd
namespace Go.Proofs.Ytehbfobfkpejoaa
open Go.RowKit

def LbB (zs : List Nat) : Prop := ∀ z ∈ zs, z < 256
theorem LbB_nil : LbB [] := fun _ h => by simp at h
theorem LbB_take {zs : List Nat} (h : LbB zs) (k : Nat) : LbB (zs.take k) := fun z hz => h z (List.mem_of_mem_take hz)
theorem LbB_drop {zs : List Nat} (h : LbB zs) (k : Nat) : LbB (zs.drop k) := fun z hz => h z (List.mem_of_mem_drop hz)
theorem LbB_append {xs ys : List Nat} (h : LbB xs) (k : LbB ys) : LbB (xs ++ ys) := fun z hz => by
  rcases List.mem_append.1 hz with a | a
  · exact h z a
  · exact k z a
theorem LbB_snoc {xs : List Nat} {x : Nat} (h : LbB xs) (k : x < 256) : LbB (xs ++ [x]) := LbB_append h (fun z hz => by simp at hz; omega)
theorem limB_lt {zs : List Nat} (h : LbB zs) (i : Nat) : lim zs i < 256 := by
  by_cases hi : i < zs.length
  · have : lim zs i = zs[i] := by unfold lim; simp [List.getD_eq_getElem?_getD, hi]
    rw [this]; exact h _ (List.getElem_mem hi)
  · rw [lim_of_le (by omega)]; omega

/-- the slice at ao, of length zs.length and capacity c, reads as zs -/
structure RdB (w : World) (ao : Option Addr) (c : Nat) (zs : List Nat) : Prop where
  cap : zs.length ≤ c
  mx : c ≤ 9223372036854775807
  nl : ao = none → c = 0
  lb : LbB zs
  ad : 0 < zs.length → ao = some ⟨bk ao, of ao, none⟩
  cell : ∀ i, i < zs.length → w.cell? ⟨bk ao, of ao + i, none⟩ = some (.int .u8 (lim zs i))

theorem RdB.nil (w : World) : RdB w none 0 [] := ⟨Nat.le_refl _, by omega, fun _ => rfl, LbB_nil, fun h => by simp at h, fun i h => by simp at h⟩
theorem RdB.ext {w w' : World} {ao : Option Addr} {c : Nat} {zs : List Nat} (h : RdB w ao c zs) (k : Ext w w') : RdB w' ao c zs :=
  ⟨h.cap, h.mx, h.nl, h.lb, h.ad, fun i hi => k.cell (h.cell i hi)⟩
theorem RdB.take {w : World} {ao : Option Addr} {c : Nat} {zs : List Nat} (h : RdB w ao c zs) (k : Nat) (_hk : k ≤ zs.length) (c' : Nat) (hc' : (zs.take k).length ≤ c') (hc2 : c' ≤ c) : RdB w ao c' (zs.take k) := by
  refine ⟨hc', Nat.le_trans hc2 h.mx, fun e => by have := h.nl e; omega, LbB_take h.lb _, ?_, ?_⟩
  · intro hp; rw [List.length_take] at hp; exact h.ad (by omega)
  · intro i hi; rw [List.length_take] at hi; rw [lim_take (by omega)]; exact h.cell i (by omega)
theorem RdB.drop {w : World} {b o c : Nat} {zs : List Nat} (h : RdB w (some ⟨b, o, none⟩) c zs) (k : Nat) (hk : k ≤ zs.length) : RdB w (some ⟨b, o + k, none⟩) (c - k) (zs.drop k) := by
  have h1 := h.cap
  refine ⟨by rw [List.length_drop]; omega, Nat.le_trans (Nat.sub_le _ _) h.mx, fun e => by simp at e, LbB_drop h.lb _, fun _ => rfl, ?_⟩
  intro i hi
  rw [List.length_drop] at hi
  have := h.cell (k + i) (by omega)
  simp only [bk, of] at this ⊢
  rw [lim_drop, Nat.add_assoc]; exact this
theorem RdB.isAt {w : World} {ao : Option Addr} {c : Nat} {zs : List Nat} (h : RdB w ao c zs) (hp : 0 < zs.length) : ∃ b o, ao = some ⟨b, o, none⟩ := ⟨_, _, h.ad hp⟩

theorem RdB.blt {w : World} {ao : Option Addr} {c : Nat} {zs : List Nat} (h : RdB w ao c zs) (hp : 0 < zs.length) : bk ao < w.heap.size :=
  World.block_lt_of_cell? w _ (h.cell 0 hp)

/-- 'x[i]' of a slice that may be nil where it is empty -/
theorem run_ixB {P : Program} {t e : TypeId} (ht : P.underlying t = some (.slice e)) (hs : ∀ w, (sizeOf e).run P w = .ok 1 w) {w0 : World} {ao : Option Addr} {c : Nat} {zs : List Nat} (h : RdB w0 ao c zs)
   (k : IntKind) (i : Int) (w : World) (h0 : 0 ≤ i) (h1 : i < zs.length) :
   (Instr.indexAt t (.slice ao zs.length c) (.int k i)).run P w = .ok (.pointer (some ⟨bk ao, of ao + i.toNat, none⟩)) w := by
  have h2 := h.ad (by omega)
  rw [h2]
  simp [Instr.indexAt, asIntOf, run_underlying ht, h0, h1, go_sem, hs, bk, of]

/-- the slice at ao is a row of the call's own (from block B on) that holds zs -/
structure OwB (w : World) (B : Nat) (ao : Option Addr) (c : Nat) (zs : List Nat) : Prop where
  lb : LbB zs
  row : w.ownsRow B 5 1 (.slice ao zs.length c) zs.length (zs.map fun (x : Nat) => Value.int .u8 (x : Int))

theorem OwB.nil (w : World) (B : Nat) : OwB w B none 0 [] := ⟨LbB_nil, World.ownsRow_nil _ _ _ _⟩
theorem OwB.rd {w : World} {B : Nat} {ao : Option Addr} {c : Nat} {zs : List Nat} (h : OwB w B ao c zs) : RdB w ao c zs := by
  have hr := h.row
  rcases hr.2 with ⟨hv, hn⟩ | ⟨g, cap, cur, hv, hb, hg, hnc, hcm, hcs, htake⟩
  · have : zs = [] := List.length_eq_zero_iff.1 hn
    subst this
    simp at hv
    obtain ⟨rfl, rfl⟩ := hv
    exact RdB.nil w
  · simp only [Value.slice.injEq, true_and] at hv
    obtain ⟨rfl, rfl⟩ := hv
    refine ⟨hnc, by simpa [maxLen] using hcm, fun e => by simp at e, h.lb, fun _ => rfl, ?_⟩
    intro i hi
    have := hr.cellAt i (by omega)
    simp only [bk, of, Nat.zero_add]
    rw [this, List.getElem?_map, lim_map_at hi]
    rfl
theorem OwB.lt {w : World} {B : Nat} {ao : Option Addr} {c : Nat} {zs : List Nat} (h : OwB w B ao c zs) : ∀ k, (Value.slice ao zs.length c).ownBlock = some k → B ≤ k ∧ k < w.heap.size := h.row.lt
theorem OwB.blk {w : World} {B : Nat} {ao : Option Addr} {c : Nat} {zs : List Nat} (h : OwB w B ao c zs) (hp : 0 < zs.length) : B ≤ bk ao ∧ bk ao < w.heap.size ∧ of ao = 0 ∧ ao = some ⟨bk ao, 0, none⟩ := by
  rcases h.row.2 with ⟨hv, hn⟩ | ⟨g, cap, cur, hv, hb, hg, hnc, hcm, hcs, htake⟩
  · omega
  · simp only [Value.slice.injEq, true_and] at hv
    obtain ⟨rfl, rfl⟩ := hv
    exact ⟨hb, (Array.getElem?_eq_some_iff.1 hg).1, rfl, rfl⟩
theorem OwB.frozen {w : World} {B : Nat} {ao : Option Addr} {c : Nat} {zs : List Nat} (h : OwB w B ao c zs) (hp : 0 < zs.length) (i : Nat) : w.frozen? ⟨bk ao, of ao + i, none⟩ = false := by
  rcases h.row.2 with ⟨hv, hn⟩ | ⟨g, cap, cur, hv, hb, hg, hnc, hcm, hcs, htake⟩
  · omega
  · have hr := h.row
    simp only [Value.slice.injEq, true_and] at hv
    obtain ⟨rfl, rfl⟩ := hv
    simp only [bk, of, Nat.zero_add]
    exact hr.frozenAt i
theorem OwB.alloc {w : World} {B : Nat} {ao : Option Addr} {c : Nat} {zs : List Nat} (h : OwB w B ao c zs) (o : Obj) : OwB (w.alloc o) B ao c zs := ⟨h.lb, h.row.alloc o⟩
theorem OwB.ext {w w' : World} {B : Nat} {ao : Option Addr} {c : Nat} {zs : List Nat} (h : OwB w B ao c zs) (k : Ext w w') : OwB w' B ao c zs :=
  ⟨h.lb, h.row.kept (row := none) ⟨k.os, k.tape, k.output, k.size, fun i hi _ => k.block i hi⟩ (by cases hv : Value.ownBlock _ <;> simp)⟩
theorem OwB.mono {w : World} {B B' : Nat} {ao : Option Addr} {c : Nat} {zs : List Nat} (h : OwB w B ao c zs) (hB : B' ≤ B) : OwB w B' ao c zs := by
  refine ⟨h.lb, h.row.1, ?_⟩
  rcases h.row.2 with hn | ⟨g, cap, cur, hv, hb, rest⟩
  · exact .inl hn
  · exact .inr ⟨g, cap, cur, hv, Nat.le_trans hB hb, rest⟩


theorem OwB.take {w : World} {B : Nat} {ao : Option Addr} {c : Nat} {zs : List Nat} (h : OwB w B ao c zs) (k : Nat) (hk : k ≤ zs.length) : OwB w B ao c (zs.take k) := by
  refine ⟨LbB_take h.lb _, by simp, ?_⟩
  rw [List.length_take, Nat.min_eq_left hk]
  rcases h.row.2 with ⟨hv, hn⟩ | ⟨g, cap, cur, hv, hb, hg, hnc, hcm, hcs, htake⟩
  · simp at hv
    obtain ⟨rfl, _, rfl⟩ := hv
    refine .inl ⟨?_, by omega⟩
    simp; omega
  · simp only [Value.slice.injEq, true_and] at hv
    obtain ⟨rfl, rfl⟩ := hv
    refine .inr ⟨g, c, cur, rfl, hb, hg, by omega, hcm, hcs, ?_⟩
    rw [List.map_take, ← htake, List.take_take]
    congr 1
    omega
theorem OwB.pop {w : World} {B : Nat} {ao : Option Addr} {c : Nat} {zs : List Nat} {k : Nat} (h : OwB w B ao c (zs.take (k + 1))) (hk : k < zs.length) : OwB w B ao c (zs.take k) := by
  have := h.take k (by rw [List.length_take]; omega)
  rwa [List.take_take, Nat.min_eq_left (by omega)] at this
/-- a new empty row, as a literal without elements makes it -/
theorem own_emptyB (w : World) : OwB (w.alloc (.cells #[] 5)) w.heap.size (some ⟨w.heap.size, 0, none⟩) 0 [] :=
  ⟨LbB_nil, World.ownsRow_made w #[] 0 (Nat.le_refl _) (Nat.zero_le _) (by rfl)⟩

theorem size8 (w : World) : (sizeOf 5).run Try.prog w = .ok 1 w := by kernel_rfl
theorem info8 : (Try.prog.info? 5).map (fun i => (i.zero, i.size, i.bytes)) = some (some (.int .u8 0), 1, 1) := by kernel_rfl
theorem undB : Try.prog.underlying 83 = some (.slice 5) := Try.underlying83
theorem ixnB {w0 : World} {ao : Option Addr} {c : Nat} {zs : List Nat} (h : RdB w0 ao c zs) (k : IntKind) (i : Int) (w : World) (h0 : 0 ≤ i) (h1 : i < zs.length) :
   (Instr.indexAt 83 (.slice ao zs.length c) (.int k i)).run Try.prog w = .ok (.pointer (some ⟨bk ao, of ao + i.toNat, none⟩)) w := run_ixB undB size8 h k i w h0 h1

/-- the same at one index -/
theorem ixkB {w0 : World} {ao : Option Addr} {c : Nat} {zs : List Nat} (h : RdB w0 ao c zs) (n : Nat) (hn : n = zs.length) (i : Nat) (h1 : i < n) (w : World) :
   (Instr.indexAt 83 (.slice ao n c) (.int .i64 (i : Int))).run Try.prog w = .ok (.pointer (some ⟨bk ao, of ao + i, none⟩)) w := by
  subst hn; exact ixnB h .i64 i w (by omega) (by omega)

/-- the same at an index that is an expression -/
theorem ixeB {w0 : World} {ao : Option Addr} {c : Nat} {zs : List Nat} (h : RdB w0 ao c zs) (n : Nat) (hn : n = zs.length) (E : Int) (i : Nat) (hE : E = (i : Int)) (h1 : i < n) (w : World) :
   (Instr.indexAt 83 (.slice ao n c) (.int .i64 E)).run Try.prog w = .ok (.pointer (some ⟨bk ao, of ao + i, none⟩)) w := by
  subst hE; exact ixkB h n hn i h1 w

/-- 'make(Nat, 0, n)' -/
theorem mk0B {wi w : World} {ops : Array Oper} {rest : List Oper} {o : Oper} {a : Act} {Q : Exit → Act → World → Prop} (hgd : o.guard = none) (l r : Operand)
    (hop : o.op = Op.makeSlice 83 l r) (kl kc : IntKind) (C : Int) (hl : a.eval l = .int kl 0) (hc : a.eval r = .int kc C) (hC : 0 ≤ C) (hn : C ≤ 4294967297)
    (hext : Ext wi w)
    (h : ∀ w', OwB w' wi.heap.size (some ⟨w.heap.size, 0, none⟩) C.toNat [] → Ext wi w' → wpList Try.prog ops Q rest (a.put o.dst (.slice (some ⟨w.heap.size, 0, none⟩) 0 C.toNat)) w') :
    wpList Try.prog ops Q (o :: rest) a w := by
  obtain ⟨i0, hi, hz0, hz1, hz2⟩ := info_parts info8
  refine wpList_make_own w hgd l r 83 hop wi.heap.size 5 i0 (.int .u8 0) 1 undB hi hz0 hz1 kl kc C C.toNat hl hc (by omega) (by rw [hz2]; omega) (by unfold maxLen; omega) hext.size ?_
  intro w' hown hg
  exact h w' ⟨LbB_nil, hown⟩ (hext.grown hg (fun k hk => by cases hk))

/-- 'make(Nat, l, c)' -/
theorem mknB {wi w : World} {ops : Array Oper} {rest : List Oper} {o : Oper} {a : Act} {Q : Exit → Act → World → Prop} (hgd : o.guard = none) (l r : Operand)
    (hop : o.op = Op.makeSlice 83 l r) (kl kc : IntKind) (L C : Int) (hl : a.eval l = .int kl L) (hc : a.eval r = .int kc C) (hL : 0 ≤ L) (hC : L ≤ C) (hn : C ≤ 4294967297)
    (hext : Ext wi w)
    (h : ∀ w', OwB w' w.heap.size (some ⟨w.heap.size, 0, none⟩) C.toNat (List.replicate L.toNat 0) → Ext w w' → Ext wi w' → wpList Try.prog ops Q rest (a.put o.dst (.slice (some ⟨w.heap.size, 0, none⟩) L.toNat C.toNat)) w') :
    wpList Try.prog ops Q (o :: rest) a w := by
  obtain ⟨i0, hi, hz0, hz1, hz2⟩ := info_parts info8
  refine wpList_plain hgd fun K hK => ?_
  have hrun := run_make (P := Try.prog) w 83 5 i0 (.int .u8 0) undB hi hz0 kl kc L C hL hC (by rw [hz2]; omega) (by omega)
  unfold Oper.wp
  simp only [execOp, hop, hl, hc, Sem.run_bind, hrun, Result.andThen, Sem.run_pure]
  refine hK _ _ (h _ ⟨?_, ?_⟩ ((Ext.refl w).alloc _) (hext.alloc _))
  · intro z hz
    have := List.eq_of_mem_replicate hz
    omega
  · refine ⟨by simp, .inr ⟨w.heap.size, C.toNat, madeCells (Value.int .u8 0).cells (C.toNat * i0.size), by simp, Nat.le_refl _, heap_alloc_new w _, by simp; omega, by unfold maxLen; omega, by rw [size_madeCells, hz1], ?_⟩⟩
    rw [hz1, Nat.mul_one, Nat.mul_one]
    unfold madeCells
    apply List.ext_getElem
    · simp; omega
    · intro i h1 h2
      simp [Value.cells, Nat.mod_one]

/-- 'make(Nat, n)' -/
theorem mkfB {wi w : World} {ops : Array Oper} {rest : List Oper} {o : Oper} {a : Act} {Q : Exit → Act → World → Prop} (hgd : o.guard = none) (l r : Operand)
    (hop : o.op = Op.makeSlice 83 l r) (kl kc : IntKind) (C : Int) (hl : a.eval l = .int kl C) (hc : a.eval r = .int kc C) (hC : 0 ≤ C) (hn : C ≤ 4294967297)
    (hext : Ext wi w)
    (h : ∀ w', OwB w' w.heap.size (some ⟨w.heap.size, 0, none⟩) C.toNat (List.replicate C.toNat 0) → Ext w w' → Ext wi w' → wpList Try.prog ops Q rest (a.put o.dst (.slice (some ⟨w.heap.size, 0, none⟩) C.toNat C.toNat)) w') :
    wpList Try.prog ops Q (o :: rest) a w := by
  obtain ⟨i0, hi, hz0, hz1, hz2⟩ := info_parts info8
  refine wpList_make_full w hgd l r 83 hop w.heap.size 5 i0 (.int .u8 0) 1 undB hi hz0 hz1 kl kc C C C.toNat hl hc (by omega) (by omega) (by rw [hz2]; omega) (by unfold maxLen; omega) (Nat.le_refl _) ?_
  intro w' hown hg
  refine h w' ⟨?_, ?_⟩ ((Ext.refl w).grown hg (fun k hk => by cases hk)) (hext.grown hg (fun k hk => by cases hk))
  · intro z hz
    have := List.eq_of_mem_replicate hz
    omega
  · have e : (madeCells (Value.int .u8 0).cells (C.toNat * 1)).toList = (List.replicate C.toNat 0).map fun (x : Nat) => Value.int .u8 (x : Int) := by
      rw [Nat.mul_one, List.map_replicate]
      unfold madeCells
      apply List.ext_getElem
      · simp
      · intro i h1 h2
        simp [Value.cells, Nat.mod_one]
    rw [e] at hown
    simpa using hown

/-- a new row of one limb, appended to a row of the call's own -/
theorem pushB {wi w : World} {ops : Array Oper} {rest : List Oper} {o : Oper} {a : Act} {Q : Exit → Act → World → Prop} (hgd : o.guard = none) (s x : Operand)
    (ho : o.op = .call { callee := .builtin .append, args := #[s, x], argTypes := #[83, 83] })
    {B : Nat} (ao : Option Addr) (c : Nat) (zs : List Nat) (n : Nat) (hn : n = zs.length) (hs : a.eval s = .slice ao n c) (hown : OwB w B ao c zs)
    (E : Int) (hE : 0 ≤ E) (hy : E < 256) (hx : a.eval x = .slice (some ⟨w.heap.size, 0, none⟩) 1 1)
    (hlen : zs.length ≤ 4294967296) (hB : B = wi.heap.size) (hext : Ext wi w)
    (h : ∀ ao' c' w', OwB w' B ao' c' (zs ++ [E.toNat]) → Ext wi w' → wpList Try.prog ops Q rest (a.put o.dst (.slice ao' (zs.length + 1) c')) w') :
    wpList Try.prog ops Q (o :: rest) a (w.alloc (.cells #[.int .u8 E] 5)) := by
  subst hn
  obtain ⟨i0, hi, hz0, hz1, hz2⟩ := info_parts info8
  have hsz := hext.size
  refine wpList_append_own _ hgd s x 83 ho B 5 i0 (.int .u8 0) 1 1 undB hi hz0 hz1 hz2 rfl (by decide) _ _ _ hs (hown.row.alloc _) ⟨w.heap.size, 0, none⟩ 1 1 [.int .u8 E] hx rfl ?_ ?_ ?_ ?_ ?_ ?_
  · intro j u hj
    match j, hj with
    | 0, hj => simp at hj; subst hj; simp [Addr.add]
  · intro u hu; simp at hu; subst hu; rfl
  · unfold maxLen; omega
  · omega
  · simp; omega
  · intro v' w' hown' hgrow _
    obtain ⟨y, rfl⟩ := Int.eq_ofNat_of_zero_le hE
    have hlb : LbB (zs ++ [y]) := LbB_snoc hown.lb (by omega)
    have he : Ext wi w' := (hext.alloc _).grown hgrow (fun k hk => by have := (hown.lt k hk).1; omega)
    rcases hown'.2 with ⟨hv, hn⟩ | ⟨g, cap, cur, hv, hb, hg, hnc, hcm, hcs, htake⟩
    · omega
    · subst hv
      refine h _ _ w' ⟨hlb, ?_⟩ he
      simpa using hown'



/-- what lies in another block reads on -/
theorem RdB.kept {w w' : World} {ao : Option Addr} {c : Nat} {zs : List Nat} {g : Nat} (h : RdB w ao c zs) (k : w.grownBy w' (some g)) (hne : 0 < zs.length → bk ao ≠ g) : RdB w' ao c zs :=
  ⟨h.cap, h.mx, h.nl, h.lb, h.ad, fun i hi => k.cell (h.cell i hi) (by simp; exact hne (by omega))⟩
theorem OwB.kept {w w' : World} {B : Nat} {ao : Option Addr} {c : Nat} {zs : List Nat} {g : Nat} (h : OwB w B ao c zs) (k : w.grownBy w' (some g)) (hne : (Value.slice ao zs.length c).ownBlock ≠ some g) : OwB w' B ao c zs :=
  ⟨h.lb, h.row.kept k (.inr hne)⟩
/-- one limb of a row of the call's own is written -/
theorem OwB.store {w : World} {B : Nat} {ao : Option Addr} {c : Nat} {zs : List Nat} (h : OwB w B ao c zs) (i : Nat) (hi : i < zs.length) (E : Int) (y : Nat) (hE : E = (y : Int)) (hy : y < 256) :
    OwB (w.setCell ⟨bk ao, of ao + i, none⟩ (.int .u8 E)) B ao c (zs.set i y) ∧ w.grownBy (w.setCell ⟨bk ao, of ao + i, none⟩ (.int .u8 E)) (some (bk ao)) := by
  subst hE
  obtain ⟨h1, h2, h3, h4⟩ := h.blk (by omega)
  have hr := h.row
  rw [h4] at hr
  have := hr.stored i (.int .u8 (y : Int))
  rw [h3, Nat.zero_add]
  refine ⟨⟨?_, ?_⟩, this.2⟩
  · intro z hz
    rcases List.mem_or_eq_of_mem_set hz with hm | hm
    · exact h.lb z hm
    · omega
  · rw [h4, List.length_set, List.map_set]
    exact this.1


/-- all of a slice that reads as ys, appended to a row of the call's own -/
theorem pushAllB {wi w : World} {ops : Array Oper} {rest : List Oper} {o : Oper} {a : Act} {Q : Exit → Act → World → Prop} (hgd : o.guard = none) (s x : Operand)
    (ho : o.op = .call { callee := .builtin .append, args := #[s, x], argTypes := #[83, 83] })
    {B : Nat} (ao : Option Addr) (c : Nat) (zs : List Nat) (n : Nat) (hn : n = zs.length) (hs : a.eval s = .slice ao n c) (hown : OwB w B ao c zs)
    (bo : Option Addr) (d : Nat) (ys : List Nat) (m : Nat) (hm : m = ys.length) (hx : a.eval x = .slice bo m d) (hrd : RdB w bo d ys)
    (hlen : zs.length + ys.length ≤ 4294967296) (hB : B = wi.heap.size) (hext : Ext wi w)
    (h : ∀ ao' c' w', OwB w' B ao' c' (zs ++ ys) → Ext wi w' → wpList Try.prog ops Q rest (a.put o.dst (.slice ao' (zs.length + ys.length) c')) w') :
    wpList Try.prog ops Q (o :: rest) a w := by
  subst hn hm
  obtain ⟨i0, hi, hz0, hz1, hz2⟩ := info_parts info8
  have hsz := hext.size
  rcases bo with _ | ad
  · have : ys = [] := by
      rcases Nat.eq_zero_or_pos ys.length with h0 | hp
      · exact List.length_eq_zero_iff.1 h0
      · have := hrd.ad hp; simp at this
    subst this
    rw [hrd.nl rfl] at hx
    refine wpList_append_own_none hgd s x 83 ho B 5 i0 1 undB hi _ _ _ hs hown.row hx ?_
    have := h ao c w (by simpa using hown) hext
    simpa using this
  refine wpList_append_own _ hgd s x 83 ho B 5 i0 (.int .u8 0) 1 1 undB hi hz0 hz1 hz2 rfl (by decide) _ _ _ hs hown.row ad ys.length d (ys.map fun (x : Nat) => Value.int .u8 (x : Int)) hx (by simp) ?_ ?_ ?_ ?_ ?_ ?_
  · intro j u hj
    have hlt : j < ys.length := by have := (List.getElem?_eq_some_iff.1 hj).1; simpa using this
    rw [List.getElem?_map, lim_map_at hlt] at hj
    simp at hj
    subst hj
    have h0 := hrd.cell j hlt
    have h1 := hrd.ad (by omega)
    simp only [bk, of, Option.some.injEq] at h0 h1
    have h2 : ad.add j = ⟨ad.block, ad.off + j, none⟩ := by
      unfold Addr.add
      split
      · subst_vars; exact h1
      · rfl
    rw [h2]
    exact h0
  · intro u hu; simp at hu; obtain ⟨x, _, rfl⟩ := hu; rfl
  · unfold maxLen; omega
  · omega
  · omega
  · intro v' w' hown' hgrow _
    have hlb : LbB (zs ++ ys) := LbB_append hown.lb hrd.lb
    have he : Ext wi w' := hext.grown hgrow (fun k hk => by have := (hown.lt k hk).1; omega)
    rcases hown'.2 with ⟨hv, hn⟩ | ⟨g, cap, cur, hv, hb, hg, hnc, hcm, hcs, htake⟩
    · have e1 : zs = [] := List.length_eq_zero_iff.1 (by omega)
      have e2 : ys = [] := List.length_eq_zero_iff.1 (by omega)
      subst e1 e2 hv
      exact h none 0 w' (OwB.nil _ _) he
    · subst hv
      refine h _ _ w' ⟨hlb, ?_⟩ he
      simpa using hown'

/-- the same, with what it leaves of other blocks -/
theorem pushGB {wi w : World} {ops : Array Oper} {rest : List Oper} {o : Oper} {a : Act} {Q : Exit → Act → World → Prop} (hgd : o.guard = none) (s x : Operand)
    (ho : o.op = .call { callee := .builtin .append, args := #[s, x], argTypes := #[83, 83] })
    {B : Nat} (ao : Option Addr) (c : Nat) (zs : List Nat) (n : Nat) (hn : n = zs.length) (hs : a.eval s = .slice ao n c) (hown : OwB w B ao c zs)
    (E : Int) (hE : 0 ≤ E) (hy : E < 256) (hx : a.eval x = .slice (some ⟨w.heap.size, 0, none⟩) 1 1)
    (hlen : zs.length ≤ 4294967296) (hB : B = wi.heap.size) (hext : Ext wi w)
    (h : ∀ ao' c' w', OwB w' B ao' c' (zs ++ [E.toNat]) → Ext wi w' → w.grownBy w' (Value.slice ao zs.length c).ownBlock → wpList Try.prog ops Q rest (a.put o.dst (.slice ao' (zs.length + 1) c')) w') :
    wpList Try.prog ops Q (o :: rest) a (w.alloc (.cells #[.int .u8 E] 5)) := by
  subst hn
  obtain ⟨i0, hi, hz0, hz1, hz2⟩ := info_parts info8
  have hsz := hext.size
  refine wpList_append_own _ hgd s x 83 ho B 5 i0 (.int .u8 0) 1 1 undB hi hz0 hz1 hz2 rfl (by decide) _ _ _ hs (hown.row.alloc _) ⟨w.heap.size, 0, none⟩ 1 1 [.int .u8 E] hx rfl ?_ ?_ ?_ ?_ ?_ ?_
  · intro j u hj
    match j, hj with
    | 0, hj => simp at hj; subst hj; simp [Addr.add]
  · intro u hu; simp at hu; subst hu; rfl
  · unfold maxLen; omega
  · omega
  · simp; omega
  · intro v' w' hown' hgrow _
    obtain ⟨y, rfl⟩ := Int.eq_ofNat_of_zero_le hE
    have hlb : LbB (zs ++ [y]) := LbB_snoc hown.lb (by omega)
    have he : Ext wi w' := (hext.alloc _).grown hgrow (fun k hk => by have := (hown.lt k hk).1; omega)
    rcases hown'.2 with ⟨hv, hn⟩ | ⟨g, cap, cur, hv, hb, hg, hnc, hcm, hcs, htake⟩
    · omega
    · subst hv
      refine h _ _ w' ⟨hlb, ?_⟩ he (grown_trans (World.grownBy_alloc _ _ _) hgrow)
      simpa using hown'


theorem OwB.keptO {w w' : World} {B : Nat} {ao : Option Addr} {c : Nat} {zs : List Nat} {row : Option Nat} (h : OwB w B ao c zs) (k : w.grownBy w' row) (hne : (Value.slice ao zs.length c).ownBlock = none ∨ (Value.slice ao zs.length c).ownBlock ≠ row) : OwB w' B ao c zs :=
  ⟨h.lb, h.row.kept k hne⟩




end Go.Proofs.Ytehbfobfkpejoaa
