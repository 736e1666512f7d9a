/-
  What the reader's data gives of a slice of limbs that came in.
-/
import Derived.Test.YtehbfobfkpejoaaRd
import Derived.ProofKit
import Derived.OpenShut
import Derived.ShutString
import Derived.ChangeOld
import Derived.Below
namespace Go.Proofs.Ytehbfobfkpejoaa
open Go.ChangeShapes Go.WideShapes Go.ChangeAt Go.RowKit

section
variable {H : Type} {enc : TypeId × Value → H} {w : World} {base : Nat} {spare : Nat → Bool} {held : Bool}

theorem wf_u32 {n : Int} (h : (Lit.int .u32 n).wf = true) : 0 ≤ n ∧ n < 4294967296 := by
  have := bounds_u32 h
  omega

theorem open_nat {fuel : Nat} {cs : List Value} {x : DataW H × List MemPlace} (h : DataW.trod enc Try.prog w base spare held fuel 23 cs = some x) :
    ∃ (ao : Option Addr) (c : Nat) (zs : List Nat), cs = [.slice ao zs.length c] ∧ Rd w ao c zs := by
  rcases open_ints Try.underlying23 Try.underlying64 (by kernel_rfl) h with ⟨hcs, _⟩ | ⟨a, len, cap, zs, hcs, _, hl, hm, hz, _, hcell, hwz⟩
  · exact ⟨none, 0, [], hcs, Rd.nil w⟩
  · have hlz : len ≤ zs.length := by rw [hz]; split <;> omega
    have hlen : ((zs.take len).map Int.toNat).length = len := by simp; omega
    refine ⟨some a, cap, (zs.take len).map Int.toNat, by rw [hlen]; exact hcs, ?_, ?_, ?_, ?_, ?_, ?_⟩
    · rw [hlen]; exact hl
    · simpa [maxLen] using hm
    · intro e; simp at e
    · intro z hz
      simp only [List.mem_map] at hz
      obtain ⟨n, hn, rfl⟩ := hz
      have := wf_u32 (hwz n (List.mem_of_mem_take hn))
      omega
    · intro hp
      rw [hlen] at hp
      have h0 := hcell 0 (by omega)
      have hs := World.cell?_spot h0
      have e0 : a.add 0 = a := rfl
      rw [e0] at hs
      obtain ⟨ab, ao, asp⟩ := a
      simp only [bk, of]
      simp at hs
      rw [hs]
    · intro i hi
      rw [hlen] at hi
      have hc := hcell i (by omega)
      have hs := World.cell?_spot hc
      have hmem : zs.getD i 0 ∈ zs := by
        have : zs.getD i 0 = zs[i]'(by omega) := by simp [List.getD_eq_getElem?_getD, (by omega : i < zs.length)]
        rw [this]; exact List.getElem_mem _
      have hb := wf_u32 (hwz _ hmem)
      have hlim : ((lim ((zs.take len).map Int.toNat) i : Nat) : Int) = zs.getD i 0 := by
        unfold lim
        simp only [List.getD_eq_getElem?_getD, List.getElem?_map, List.getElem?_take]
        rw [if_pos hi]
        have : zs[i]? = some (zs[i]'(by omega)) := List.getElem?_eq_getElem (by omega)
        simp only [List.getD_eq_getElem?_getD, this] at hb
        simp only [this, Option.map_some, Option.getD_some] at hb ⊢
        omega
      have hadd : a.add i = ⟨bk (some a), of (some a) + i, none⟩ := by
        simp only [bk, of]
        have hcz := hcell 0 (by omega)
        have hsz := World.cell?_spot hcz
        have e0 : a.add 0 = a := rfl
        rw [e0] at hsz
        obtain ⟨ab, ao, asp⟩ := a
        simp at hsz
        subst hsz
        unfold Addr.add
        split
        · subst_vars; rfl
        · rfl
      rw [← hadd, hlim]
      exact hc
end
end Go.Proofs.Ytehbfobfkpejoaa
