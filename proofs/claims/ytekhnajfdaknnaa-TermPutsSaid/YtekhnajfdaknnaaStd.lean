/-
  Sorting by merging, plainly: blocks that are sorted become greater.
-/
import Derived.Test.YtekhnajfdaknnaaStc
namespace Go.Proofs.Ytekhnajfdaknnaa.S

/-- blocks of s elements, each of them rising -/
inductive Blk (s : Nat) : List Part → Prop
  | last (l : List Part) (h : Ris Part.v l) (hl : l.length ≤ s) : Blk s l
  | cons (X l : List Part) (hX : X.length = s) (h : Ris Part.v X) (hl : Blk s l) : Blk s (X ++ l)
theorem Blk.ris {s : Nat} {l : List Part} (h : Blk s l) (hl : l.length ≤ s) : Ris Part.v l := by
  cases h with
  | last _ h _ => exact h
  | cons X l' hX h hl' =>
    have : l'.length = 0 := by rw [List.length_append] at hl; omega
    rw [len_nil this, List.append_nil]; exact h
theorem Blk.one {s : Nat} {l : List Part} (h : Blk s l) (hl : s ≤ l.length) : ∃ X r, l = X ++ r ∧ X.length = s ∧ Ris Part.v X ∧ Blk s r := by
  cases h with
  | last _ h h2 => exact ⟨l, [], by simp, by omega, h, .last _ trivial (Nat.zero_le _)⟩
  | cons X l' hX h hl' => exact ⟨X, l', rfl, hX, h, hl'⟩
theorem Blk.two {s : Nat} {l : List Part} (h : Blk s l) (hl : 2 * s ≤ l.length) : ∃ X Y r, l = X ++ Y ++ r ∧ X.length = s ∧ Y.length = s ∧ Ris Part.v X ∧ Ris Part.v Y ∧ Blk s r := by
  obtain ⟨X, l1, rfl, hX, rX, h1⟩ := h.one (by omega)
  obtain ⟨Y, l2, rfl, hY, rY, h2⟩ := h1.one (by rw [List.length_append] at hl; omega)
  exact ⟨X, Y, l2, by simp, hX, hY, rX, rY, h2⟩
/-- what lies ahead of the place where one works: greater blocks already -/
def Pfx (s : Nat) (P : List Part) : Prop := ∀ Z, Blk s Z → Blk s (P ++ Z)
theorem Pfx.nil (s : Nat) : Pfx s [] := fun _ h => h
theorem Pfx.snoc {s : Nat} {P M : List Part} (h : Pfx s P) (hM : M.length = s) (rM : Ris Part.v M) : Pfx s (P ++ M) := fun Z hZ => by
  rw [List.append_assoc]; exact h _ (.cons M Z hM rM hZ)
theorem ssV_ris (xs : List Part) : Ris Part.v (ssV Part.v xs) := (ssV_ok xs).1
theorem ssV_stb (xs : List Part) : Stb Part.v (ssV Part.v xs) xs := (ssV_ok xs).2
theorem Stb.mid {P M M' Z xs : List Part} (h : Stb Part.v (P ++ (M ++ Z)) xs) (hM : Stb Part.v M' M) : Stb Part.v (P ++ (M' ++ Z)) xs := ((Stb.refl P).app (hM.app (Stb.refl Z))).trans h
theorem Stb.len {xs ys : List Part} (h : Stb Part.v xs ys) : xs.length = ys.length := Stb.length xs.length rfl h
end Go.Proofs.Ytekhnajfdaknnaa.S
