/-
  Contracts of nat.up, nat.three, nat.Mul: a product is that of the values.
-/
import Derived.Test.YtekhnajfdaknnaaMulA
namespace Go.Proofs.Ytekhnajfdaknnaa
open Go.RowKit

/-- copy(out[k:], y), y as long as what is behind k -/
theorem copyTail {wi w : World} {ops : Array Oper} {rest : List Oper} {o : Oper} {a : Act} {Q : Exit → Act → World → Prop} (hgd : o.guard = none) (d s : Operand)
    (ho : o.op = .call { callee := .builtin .copy, args := #[d, s], argTypes := #[24, 24] })
    {B g n : Nat} {zs : List Nat} (hown : Own w B (some ⟨g, 0, none⟩) n zs) (hn : zs.length = n) (k : Nat) (bo : Option Addr) (sc : Nat) (ys : List Nat) (hrd : Rd w bo sc ys) (hk : k + ys.length = n)
    (dp : Option Addr) (l dc : Nat) (hl : l = ys.length) (hd : a.eval d = .slice dp l dc) (hdp : 0 < ys.length → dp = some ⟨g, k, none⟩) (m : Nat) (hm : m = ys.length) (hs : a.eval s = .slice bo m sc)
    (hB : B = wi.heap.size) (hext : Ext wi w)
    (h : ∀ w', Own w' B (some ⟨g, 0, none⟩) n (zs.take k ++ ys) → Ext wi w' → wpList Try.prog ops Q rest (a.put o.dst (goInt ys.length)) w') :
    wpList Try.prog ops Q (o :: rest) a w := by
  subst hl hm
  obtain ⟨cur, hg, hcur⟩ : ∃ cur : Array Value, w.heap[g]? = some (.cells cur 62 (0, 0)) ∧ cur = (zs.map fun (x : Nat) => Value.int .u32 (x : Int)).toArray := by
    rcases hown.row.2 with ⟨hv, h0⟩ | ⟨g', cap, cur, hv, hb, hg, hnc, hcm, hcs, htake⟩
    · simp at hv
    · simp only [Value.slice.injEq, Option.some.injEq, Addr.mk.injEq, true_and, and_true] at hv
      obtain ⟨rfl, rfl⟩ := hv
      refine ⟨cur, hg, ?_⟩
      rw [← htake, List.take_of_length_le (by simp; omega)]
  subst hcur
  have hgB : B ≤ g := by
    have := hown.lt g (by simp [Value.ownBlock])
    exact this.1
  refine wpList_copy_splice hgd d s 24 24 ho 62 und (by kernel_rfl) dp bo ys.length dc ys.length sc hd hs g k _ 62 hg (ys.map fun (x : Nat) => Value.int .u32 (x : Int)) (by simp) ?_ (by simp; omega) (fun v hv => by simp at hv; obtain ⟨x, _, rfl⟩ := hv; rfl) B wi (by rw [hB]; exact hext) hgB ?_
  · intro hp
    rw [List.length_map] at hp
    refine ⟨hdp hp, _, hrd.ad hp, ?_⟩
    intro j u hj
    have hlt : j < ys.length := by have := (List.getElem?_eq_some_iff.1 hj).1; simpa using this
    rw [List.getElem?_map, lim_map_at hlt] at hj
    simp at hj
    subst hj
    have h0 := hrd.cell j hlt
    have h2 : (⟨bk bo, of bo, none⟩ : Addr).add j = ⟨bk bo, of bo + j, none⟩ := by
      unfold Addr.add
      split
      · subst_vars; rfl
      · rfl
    rw [h2]; exact h0
  · intro w' hw' hb'
    have hlen : (zs.take k ++ ys).length = n := by rw [List.length_append, List.length_take]; omega
    have e : splice (zs.map fun (x : Nat) => Value.int .u32 (x : Int)) k (ys.map fun (x : Nat) => Value.int .u32 (x : Int)) = (zs.take k ++ ys).map fun (x : Nat) => Value.int .u32 (x : Int) := by
      unfold splice
      rw [List.length_map, List.drop_eq_nil_of_le (by simp; omega), List.append_nil, List.map_append, List.map_take]
    have hw2 := hw'.out
    rw [e] at hw2
    have := h w' ⟨Lb_append (Lb_take hown.lb _) hrd.lb, by simp, .inr ⟨g, n, _, rfl, hgB, hw2, by omega, ?_, by simp; omega, by rw [hlen, Nat.mul_one, List.take_of_length_le]; rw [List.length_map, hlen]; omega⟩⟩ (by rw [hB] at hb'; exact hb')
    · simpa using this
    · have := hown.rd.mx
      unfold maxLen; omega

/-- what up answers -/
def GotUp (w : World) (v n : Nat) (L : Nat) (e : Ending) (w' : World) : Prop := ∃ ao c zs, e = .returned (.slice ao zs.length c) ∧ Rd w' ao c zs ∧ val zs = v * pw n ∧ zs.length ≤ L + n ∧ Ext w w'

set_option maxRecDepth 100000 in
set_option maxHeartbeats 1000000 in
theorem up_any (ao : Option Addr) (n c : Nat) (xs : List Nat) (E : Int) (k : Nat) (w : World) (hn : n = xs.length) (hE : E = (k : Int)) (ha : Rd w ao c xs) (hl1 : xs.length ≤ 10000000) (hk : k ≤ 20000000) :
    Calls Try.prog 83 #[.slice ao n c, .int .i64 E] w (GotUp w (val xs) k xs.length) := by
  subst hn hE
  have hA := ha.trm
  have lA := trm_le xs
  have mA := hA.mx
  have cA := hA.cap
  rcases Nat.eq_zero_or_pos (trm xs).length with h0 | hp
  · have e0 : trm xs = [] := List.length_eq_zero_iff.1 h0
    have hv : val xs = 0 := by rw [← val_trm, e0]; rfl
    have hz : (((trm xs).length : Int) == 0) = true := beq_iff_eq.2 (by omega)
    have Hv := Lib.hid hv
    clear h0 e0 hv
    go_enter Try.func83, Try.ntmps83
    go_wp2_with fail
    refine (trim_any ao _ c xs w rfl ha).mono ?_
    rintro e w' ⟨rfl, rfl⟩
    go_wp2_with fail
    go_ret
    exact ⟨none, 0, [], rfl, Rd.nil _, by rw [Hv.out]; simp [val], by simp, Ext.refl _⟩
  · have hz : (((trm xs).length : Int) == 0) = false := beq_eq_false_iff_ne.2 (by omega)
    have hne : ¬ trm xs = [] := by intro e; rw [e] at hp; simp at hp
    go_enter Try.func83, Try.ntmps83
    go_wp2_with fail
    refine (trim_any ao _ c xs w rfl ha).mono ?_
    rintro e w' ⟨rfl, rfl⟩
    go_wp2_with (first
      | (at_make; refine mkf rfl _ _ rfl _ _ _ rfl rfl ?_ ?_ (Ext.refl w) ?_; omega; omega; intro w1 hown hx0 hext; have ec : ((k : Int) + ((trm xs).length : Int)).toNat = k + (trm xs).length := (by omega); rw [ec] at hown; clear ec)
      | (refine copyTail (wi := w) ?_ (.tmp 18) (.tmp 19) ?_ hown ?_ k ao c (trm xs) ?_ rfl (some ⟨w.heap.size, k, none⟩) (trm xs).length (trm xs).length rfl ?_ ?_ (trm xs).length rfl ?_ rfl hext ?_; rfl; rfl; simp; exact hA.ext hext; rfl; (intro _; rfl); rfl; intro w2 hown2 hext2))
    go_ret
    refine ⟨_, _, _, ?_, hown2.rd, ?_, ?_, hext2⟩
    · simp
    · rw [List.take_replicate, val_append, val_replicate_zero, List.length_replicate, Nat.min_eq_left (by omega), val_trm]; rw [Nat.zero_add, Nat.mul_comm]
    · simp; omega

/-- three products make one: the plain law -/
theorem three_law (a1 a0 b1 b0 P : Nat) :
    a0 * b0 + ((a0 + a1) * (b0 + b1) - a0 * b0 - a1 * b1) * P + a1 * b1 * (P * P) = (a0 + P * a1) * (b0 + P * b1) := by
  have e : (a0 + a1) * (b0 + b1) - a0 * b0 - a1 * b1 = a0 * b1 + a1 * b0 := by
    rw [Nat.add_mul, Nat.mul_add, Nat.mul_add]; omega
  rw [e, Nat.add_mul (a0 * b1) (a1 * b0) P, Nat.add_mul a0 (P * a1) (b0 + P * b1), Nat.mul_add a0, Nat.mul_add (P * a1)]
  have h1 : a0 * (P * b1) = a0 * b1 * P := by rw [Nat.mul_comm P, Nat.mul_assoc]
  have h2 : P * a1 * b0 = a1 * b0 * P := by rw [Nat.mul_comm P, Nat.mul_assoc, Nat.mul_comm P, Nat.mul_assoc]
  have h3 : P * a1 * (P * b1) = a1 * b1 * (P * P) := by
    rw [Nat.mul_mul_mul_comm, Nat.mul_comm (P * P)]
  omega

end Go.Proofs.Ytekhnajfdaknnaa
