/-
  append(x, make(Nat, n)...): zeros behind a row of the call's own.
-/
import Derived.Test.YtehbfobfkpejoaaRd
namespace Go.Proofs.Ytehbfobfkpejoaa
open Go.RowKit

theorem undInt : Try.prog.underlying 3 = some (.int .i64) := Try.underlying3
theorem zeroCells32 (n : Nat) : Builtin.zeroCells (Value.int .u32 0).cells n = ((List.replicate n 0).map fun (x : Nat) => Value.int .u32 (x : Int)).toArray := by
  unfold Builtin.zeroCells
  apply Array.ext
  · simp [Value.cells]
  · intro i h1 h2
    simp [Value.cells, Nat.mod_one]
theorem cells32 : (Value.int .u32 0).cells = #[Value.int .u32 0] := rfl

section
variable (w : World) (ty : TypeId) (L : Nat)
theorem app_room (g n cap : Nat) (cur : Array Value) (hg : w.heap[g]? = some (.cells cur 64 (0, 0))) (hL : L ≤ 4294967296) (hroom : n + L ≤ cap) (hfit : n + L ≤ cur.size) :
    (Builtin.append_ #[23, 3] ty #[.slice (some ⟨g, 0, none⟩) n cap, .int .i64 (L : Int)]).run Try.prog w =
      .ok (.slice (some ⟨g, 0, none⟩) (n + L) cap) (w.setRow g (cur.toList.take n ++ ((List.replicate L 0).map fun (x : Nat) => Value.int .u32 (x : Int)) ++ cur.toList.drop (n + L)).toArray) := by
  obtain ⟨i0, hi, hz0, hz1, hz2⟩ := info_parts info32
  have wl : IntKind.i64.wrap (L : Int) = (L : Int) := by rw [IntKind.wrap_i64]; omega
  have c1 : ¬ ((L : Int) < 0) := by omega
  have c2 : ¬ (281474976710656 < (L : Int) * 4) := by omega
  have hst := run_storeCells_at Try.prog g n 64 ((List.replicate L 0).map fun (x : Nat) => Value.int .u32 (x : Int)) 0 cur w hg (by simpa using hfit) (fun u hu => by simp at hu; obtain ⟨_, rfl⟩ := hu; rfl)
  simp only [Nat.add_zero] at hst
  rcases Nat.eq_zero_or_pos L with h0 | hp
  · subst h0
    have w0 : IntKind.i64.wrap 0 = 0 := by decide
    simp [Builtin.append_, run_underlying und, run_underlying undInt, sizeOf, typeInfo, hi, hz1, hz2, asInt, asIntOf, w0]
    have hn : n ≤ cap := by omega
    simp at hst
    simp [hn, storeCells] at hst ⊢
    exact hst
  · have hp' : ¬ L = 0 := by omega
    simp [Builtin.append_, run_underlying und, run_underlying undInt, sizeOf, typeInfo, zeroValue, hi, hz0, hz1, hz2, asInt, asIntOf, wl, c1, c2, hroom, hp', zeroCells32, Addr.add_lit]
    simp at hst
    simp [hst]
theorem app_grow (ao : Option Addr) (n cap : Nat) (olds : List Value) (hao : ao = none → n = 0) (hlo : olds.length = n) (holds : ∀ b, ao = some b → ∀ j v, olds[j]? = some v → w.cell? (b.add j) = some v)
    (hL : L ≤ 4294967296) (hn : n ≤ 4294967296) (hg : cap < n + L) :
    (Builtin.append_ #[23, 3] ty #[.slice ao n cap, .int .i64 (L : Int)]).run Try.prog w =
      .ok (.slice (some ⟨w.heap.size, 0, none⟩) (n + L) (grownCap w (n + L) cap 64))
        (w.drew.alloc (.cells (olds.toArray ++ ((List.replicate L 0).map fun (x : Nat) => Value.int .u32 (x : Int)).toArray ++ Builtin.zeroCells (Value.int .u32 0).cells (grownCap w (n + L) cap 64 - (n + L))) 64)) := by
  obtain ⟨i0, hi, hz0, hz1, hz2⟩ := info_parts info32
  have wl : IntKind.i64.wrap (L : Int) = (L : Int) := by rw [IntKind.wrap_i64]; omega
  have c1 : ¬ ((L : Int) < 0) := by omega
  have c2 : ¬ (281474976710656 < (L : Int) * 4) := by omega
  have c3 : ¬ (n + L ≤ cap) := by omega
  have c4 : ¬ (9223372036854775807 < ((n : Int) + (L : Int))) := by omega
  have c5 : ¬ (281474976710656 < Builtin.nextslicecap (n + L) cap * 4) := by
    have := growslice_fits (need := n + L) (old := cap) (bytes := 4) (by omega) (by omega)
    omega
  have hf : (Builtin.firstCells 1 n (.slice ao n cap)).run Try.prog w.drew = .ok olds.toArray w.drew := by
    rcases ao with _ | b
    · have : olds = [] := List.length_eq_zero_iff.1 (by rw [hlo]; exact hao rfl)
      subst this
      simp [Builtin.firstCells, Sem.run_pure]
    · exact run_firstCells_some (P := Try.prog) w.drew 1 n b n cap olds (by simpa using hlo) (by simpa using holds b rfl)
  by_cases hL0 : L = 0
  · subst hL0
    have w0 : IntKind.i64.wrap 0 = 0 := by decide
    simp [Builtin.append_, run_underlying und, run_underlying undInt, sizeOf, typeInfo, zeroValue, hi, hz0, hz1, hz2, asInt, asIntOf, w0] 
    have c3' : ¬ (n ≤ cap) := by omega
    have c4' : ¬ (9223372036854775807 < (n : Int)) := by omega
    simp at c5
    simp [c3', c4', Question.forced, hf, newRow, grownCap]
    omega
  · simp [Builtin.append_, run_underlying und, run_underlying undInt, sizeOf, typeInfo, zeroValue, hi, hz0, hz1, hz2, asInt, asIntOf, wl, c1, c2, c3, c4, c5, hL0, Question.forced, hf, newRow, grownCap, zeroCells32]
end

/-- 'append(x, make(Nat, n)...)', x a row of the call's own -/
theorem pushZ {wi w : World} {ops : Array Oper} {rest : List Oper} {o : Oper} {a : Act} {Q : Exit → Act → World → Prop} (hgd : o.guard = none) (s x : Operand)
    (ho : o.op = .call { callee := .builtin .append, args := #[s, x], argTypes := #[23, 3] })
    {B : Nat} (ao : Option Addr) (c : Nat) (zs : List Nat) (n : Nat) (hn : n = zs.length) (hs : a.eval s = .slice ao n c) (hown : Own w B ao c zs)
    (E : Int) (hx : a.eval x = .int .i64 E) (hE : 0 ≤ E) (hlen : (zs.length : Int) + E ≤ 4294967296) (hB : wi.heap.size ≤ B) (hext : Ext wi w) (hBw : B ≤ w.heap.size)
    (h : ∀ ao' c' w', Own w' B ao' c' (zs ++ List.replicate E.toNat 0) → Ext wi w' → w.grownBy w' (Value.slice ao zs.length c).ownBlock → wpList Try.prog ops Q rest (a.put o.dst (.slice ao' (zs.length + E.toNat) c')) w') :
    wpList Try.prog ops Q (o :: rest) a w := by
  subst hn
  obtain ⟨L, rfl⟩ := Int.eq_ofNat_of_zero_le hE
  have hll : (zs ++ List.replicate L 0).length = zs.length + L := by simp
  have hlb : Lb (zs ++ List.replicate L 0) := Lb_append hown.lb (fun z hz => by have := List.eq_of_mem_replicate hz; omega)
  have key : ∃ ao' c' w', (Builtin.append_ #[23, 3] o.type #[.slice ao zs.length c, .int .i64 (L : Int)]).run Try.prog w = .ok (.slice ao' (zs.length + L) c') w' ∧ Own w' B ao' c' (zs ++ List.replicate L 0) ∧ w.grownBy w' (Value.slice ao zs.length c).ownBlock := by
    by_cases hroom : zs.length + L ≤ c ∧ ao ≠ none
    · obtain ⟨hroom, hne⟩ := hroom
      rcases hown.row.2 with ⟨hv, hn⟩ | ⟨g, cap, cur, hv, hb, hg, hnc, hcm, hcs, htake⟩
      · simp at hv; exact absurd hv.1 hne
      · simp only [Value.slice.injEq, true_and] at hv
        obtain ⟨rfl, rfl⟩ := hv
        have hcu : cur.toList.length = cur.size := rfl
        have hz1 : ((List.replicate L 0).map fun (x : Nat) => Value.int .u32 (x : Int)).length = L := by simp
        generalize hzz : ((List.replicate L 0).map fun (x : Nat) => Value.int .u32 (x : Int)) = zz at hz1
        have har := app_room w o.type L g zs.length c cur hg (by omega) hroom (by rw [hcs]; omega)
        rw [hzz] at har
        refine ⟨_, _, _, har, ⟨hlb, by simp, .inr ⟨g, c, _, by rw [hll], hb, setRow_heap w g cur _ _ _ hg, by omega, hcm, ?_, ?_⟩⟩, ⟨rfl, rfl, rfl, by simp, fun k _ hk => setRow_other w g k _ (fun e => hk (by simp [Value.ownBlock, e]))⟩⟩
        · rw [List.size_toArray, List.length_append, List.length_append, List.length_take, List.length_drop, hz1, hcu]
          omega
        · simp only [Nat.mul_one] at htake
          rw [hll, Nat.mul_one, List.map_append, hzz, htake]
          have h1 : (zs.map fun (x : Nat) => Value.int .u32 (x : Int)).length = zs.length := by simp
          show List.take (zs.length + L) ((zs.map fun (x : Nat) => Value.int .u32 (x : Int)) ++ zz ++ List.drop (zs.length + L) cur.toList) = _
          rw [List.take_append_of_le_length (by rw [List.length_append, h1, hz1]; omega), List.take_of_length_le (by rw [List.length_append, h1, hz1]; omega)]
    · have hgrow : c < zs.length + L ∨ (ao = none ∧ L = 0) := by
        by_cases hc : c < zs.length + L
        · exact .inl hc
        · right
          have hnone : ao = none := by
            cases ao with
            | none => rfl
            | some a => exact absurd ⟨by omega, by simp⟩ hroom
          have := hown.rd.nl hnone
          exact ⟨hnone, by omega⟩
      rcases hgrow with hc | ⟨rfl, rfl⟩
      · have hge := grownCap_ge w (zs.length + L) c 64
        have hle := grownCap_le_maxLen w (zs.length + L) c 64 (by unfold maxLen; omega)
        refine ⟨_, _, _, app_grow w o.type L ao zs.length c (zs.map fun (x : Nat) => Value.int .u32 (x : Int)) ?_ (by simp) ?_ (by omega) (by omega) hc, ⟨hlb, by simp, .inr ⟨w.heap.size, _, _, by rw [hll], hBw, heap_alloc_new w.drew _, by omega, hle, ?_, ?_⟩⟩, ⟨rfl, rfl, rfl, by simp, fun k hk _ => heap_alloc_old w.drew _ (by simpa using hk)⟩⟩
        · intro e
          rcases Nat.eq_zero_or_pos zs.length with h0 | hp
          · exact h0
          · have := hown.rd.ad hp
            rw [e] at this; simp at this
        · intro b hb j v hj
          have hlt : j < zs.length := by have := (List.getElem?_eq_some_iff.1 hj).1; simpa using this
          rw [List.getElem?_map, lim_map_at hlt] at hj
          simp at hj
          subst hj
          have h0 := hown.rd.cell j hlt
          have h1 := hown.rd.ad (by omega)
          rw [hb] at h0 h1
          simp only [bk, of, Option.some.injEq] at h0 h1
          have h2 : b.add j = ⟨b.block, b.off + j, none⟩ := by
            unfold Addr.add
            split
            · subst_vars; exact h1
            · rfl
          rw [h2]; exact h0
        · simp [size_zeroCells, cells32]
          omega
        · rw [hll, Nat.mul_one]
          simp only [Array.toList_append, List.map_append]
          rw [List.take_append_of_le_length (by simp)]
          rw [List.take_of_length_le (by simp)]
      · have hz := hown.rd.ad
        have e1 : zs = [] := by
          rcases Nat.eq_zero_or_pos zs.length with h0 | hp
          · exact List.length_eq_zero_iff.1 h0
          · have := hz hp; simp at this
        subst e1
        have ec := hown.rd.nl rfl
        subst ec
        obtain ⟨i0, hi, hz0, hz1, hz2⟩ := info_parts info32
        have w0 : IntKind.i64.wrap 0 = 0 := by decide
        refine ⟨none, 0, w, ?_, Own.nil _ _, World.grownBy.refl _ _⟩
        simp [Builtin.append_, run_underlying und, run_underlying undInt, sizeOf, typeInfo, hi, hz2, asInt, asIntOf, w0]
  obtain ⟨ao', c', w', hrun, hown', hg'⟩ := key
  refine wpList_plain hgd fun K hK => ?_
  unfold Oper.wp
  simp [execOp, ho, resolve, invoke, builtin, hs, hx, hrun, Result.andThen]
  refine hK _ _ (h ao' c' w' hown' (hext.grown hg' (fun k hk => by have := (hown.lt k hk).1; omega)) hg')
end Go.Proofs.Ytehbfobfkpejoaa
