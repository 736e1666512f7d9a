/-
  From the reader's data to what contracts ask for: arguments that are structs, slices, texts and numbers, however nested.
-/
import Derived.Test.YtekhnajfdaknnaaDat
import Derived.ProofKit
import Derived.OpenShut
import Derived.ShutString
import Derived.ChangeOld
import Derived.Below
import Derived.Deep.Slices
import Derived.ChangeArms
namespace Go.Proofs.Ytekhnajfdaknnaa.S
open Go.RowKit Go.WideShapes

/-- all that there is -/
def all (w : World) : Im := fun b => w.heap[b]?
/-- what is read at a type is a Lean value's cells -/
def RepN (w : World) (n : Nat) (t : TypeId) {α : Type} (f : α → List D) (good : α → Prop) : Prop :=
  ∀ (H : Type) (enc : TypeId × Value → H) (base : Nat) (spare : Nat → Bool) (held : Bool) (fuel : Nat) (cs : List Value) (x : DataW H × List MemPlace), fuel ≤ n → DataW.trod enc Try.prog w base spare held fuel t cs = some x → ∃ a : α, good a ∧ All2 (DR (all w)) (f a) cs
section
variable {w : World} {n : Nat} {t : TypeId} {α β : Type} {f : α → List D} {good : α → Prop}
theorem RepN.zero : RepN w 0 t f good := fun H enc base spare held fuel cs x hn h => by
  obtain rfl : fuel = 0 := by omega
  simp [DataW.trod] at h
theorem RepN.mono {m : Nat} (h : RepN w n t f good) (hm : m ≤ n) : RepN w m t f good := fun H enc base spare held fuel cs x hn hx => h H enc base spare held fuel cs x (by omega) hx
theorem RepN.map {f' : β → List D} {good' : β → Prop} (h : RepN w n t f good) (g : α → β) (hf : ∀ a, f' (g a) = f a) (hg : ∀ a, good a → good' (g a)) : RepN w n t f' good' := fun H enc base spare held fuel cs x hn hx => by
  obtain ⟨a, h1, h2⟩ := h H enc base spare held fuel cs x hn hx
  exact ⟨g a, hg a h1, by rw [hf]; exact h2⟩
theorem rep_int {k : IntKind} (hu : Try.prog.underlying t = some (.int k)) : RepN w n t (fun v : Int => [.raw (.int k v)]) (fun v => (Lit.int k v).wf = true) := fun H enc base spare held fuel cs x hn hx => by
  obtain ⟨v, rfl, _, hw⟩ := DataW.trod_int hu hx
  exact ⟨v, hw, DR.raw _ rfl, trivial⟩
theorem rep_bool (hu : Try.prog.underlying t = some .bool) : RepN w n t boolD (fun _ => True) := fun H enc base spare held fuel cs x hn hx => by
  obtain ⟨v, rfl, _⟩ := DataW.trod_bool hu hx
  exact ⟨v, trivial, DR.raw _ rfl, trivial⟩
theorem rep_str (hu : Try.prog.underlying t = some .string) : RepN w n t strD (fun s => s.size ≤ maxLen) := fun H enc base spare held fuel cs x hn hx => by
  obtain ⟨v, rfl, _, hs⟩ := DataW.trod_string hu hx
  exact ⟨v, hs, DR.raw _ rfl, trivial⟩
theorem rep_i64 (hu : Try.prog.underlying t = some (.int .i64)) : RepN w n t intD (fun v => -9223372036854775808 ≤ v ∧ v ≤ 9223372036854775807) :=
  (rep_int hu).map id (fun _ => rfl) fun v h => by have := bounds_i64 h; simp only [id]; omega
theorem rep_u32 (hu : Try.prog.underlying t = some (.int .u32)) : RepN w n t (fun v : Nat => [.raw (.int .u32 (v : Int))]) (fun v => v < 4294967296) := fun H enc base spare held fuel cs x hn hx => by
  obtain ⟨v, rfl, _, hw⟩ := DataW.trod_int hu hx
  have := bounds_u32 hw
  refine ⟨v.toNat, by omega, ?_, trivial⟩
  rw [Int.toNat_of_nonneg (by omega)]
  exact DR.raw _ rfl
theorem listOf {P : Nat → α → Prop} : ∀ (len : Nat), (∀ i, i < len → ∃ a, P i a) → ∃ xs : List α, xs.length = len ∧ ∀ i x, xs[i]? = some x → P i x
  | 0, _ => ⟨[], rfl, fun i x h => by simp at h⟩
  | len + 1, h => by
    obtain ⟨xs, h1, h2⟩ := listOf len fun i hi => h i (by omega)
    obtain ⟨a, ha⟩ := h len (by omega)
    refine ⟨xs ++ [a], by simp [h1], fun i x hx => ?_⟩
    by_cases hi : i < xs.length
    · rw [List.getElem?_append_left hi] at hx; exact h2 i x hx
    · have hl := (List.getElem?_eq_some_iff.1 hx).1
      simp only [List.length_append, List.length_cons, List.length_nil] at hl
      have e : i = xs.length := by omega
      subst e
      simp at hx
      subst hx
      rw [h1]; exact ha
theorem cell_at {b o : Nat} {v : Value} (h : w.cell? ⟨b, o, none⟩ = some v) : ∃ arr ty fz, w.heap[b]? = some (.cells arr ty fz) ∧ arr[o]? = some v := by
  unfold World.cell? at h
  split at h
  · rename_i cs ty fz hb
    exact ⟨cs, ty, fz, hb, by simpa using h⟩
  · cases h
theorem rep_slice {e : TypeId} {k : Nat} (hu : Try.prog.underlying t = some (.slice e)) (hc : Try.prog.cellsOf e = k) (hk : 0 < k) (hl : ∀ a, (f a).length = k) (he : RepN w n e f good) : RepN w n t (slD k f) (fun xs => xs.length ≤ maxLen ∧ ∀ x ∈ xs, good x) := fun H enc base spare held fuel cs x hn hx => by
  rcases DataW.trod_slice hu hx with ⟨rfl, _⟩ | ⟨a, len, cap, elems, rest, m, rfl, rfl, _, _, h2, h3, h4, h5, _, _⟩
  · exact ⟨[], ⟨Nat.zero_le _, by simp⟩, DR.nil _ _ _ (fun _ => rfl) (Nat.zero_le _), trivial⟩
  · rw [hc] at h5
    obtain ⟨xs, hxl, hxs⟩ := listOf (P := fun i (y : α) => good y ∧ ∃ cs', w.cells? base (a.add (i * k)) k = some cs' ∧ All2 (DR (all w)) (f y) cs') len fun i hi => by
      have h6 := h5 i hi
      rw [List.getElem?_eq_getElem (by omega)] at h6
      obtain ⟨cs', g1, g2⟩ := Option.bind_eq_some_iff.1 h6
      obtain ⟨y, g3, g4⟩ := he H enc base spare held m cs' _ (by omega) g2
      exact ⟨y, g3, cs', g1, g4⟩
    refine ⟨xs, ⟨by omega, fun y hy => ?_⟩, ?_, trivial⟩
    · obtain ⟨i, hi⟩ := List.mem_iff_getElem?.1 hy
      exact (hxs i y hi).1
    · show DR (all w) (.sl k (xs.map f)) _
      rcases Nat.eq_zero_or_pos len with h0 | h0
      · subst h0
        have : xs = [] := List.length_eq_zero_iff.1 hxl
        subst this
        exact DR.nil _ _ _ (fun e => by cases e) h3
      · have cells : ∀ i y, xs[i]? = some y → ∀ j, j < k → ∃ v d, w.cell? ((a.add (i * k)).add j) = some v ∧ (f y)[j]? = some d ∧ DR (all w) d v := fun i y hy j hj => by
          obtain ⟨_, cs', g1, g2⟩ := hxs i y hy
          obtain ⟨_, g4, g5⟩ := World.cells?_some g1
          obtain ⟨v, g6, g7⟩ := g2.get j (by rw [hl]; exact hj)
          exact ⟨v, _, by rw [g5 j hj]; exact g6, List.getElem?_eq_getElem (by rw [hl]; exact hj), g7⟩
        obtain ⟨y0, hy0⟩ : ∃ y, xs[0]? = some y := ⟨_, List.getElem?_eq_getElem (by omega)⟩
        obtain ⟨v0, _, c0, _, _⟩ := cells 0 y0 hy0 0 hk
        obtain ⟨b, o, sp⟩ := a
        have hsp : sp = none := by
          have := World.cell?_spot c0
          simpa [Addr.add] using this
        subst hsp
        have c0' : w.cell? ⟨b, o, none⟩ = some v0 := by simpa [Addr.add_mid] using c0
        obtain ⟨arr, ty, fz, hb, _⟩ := cell_at c0'
        have at_ : ∀ i y, xs[i]? = some y → ∀ j, j < k → ∃ v d, arr[o + i * k + j]? = some v ∧ (f y)[j]? = some d ∧ DR (all w) d v := fun i y hy j hj => by
          obtain ⟨v, d, g1, g2, g3⟩ := cells i y hy j hj
          rw [Addr.add_mid, Addr.add_mid] at g1
          obtain ⟨arr', ty', fz', hb', g4⟩ := cell_at g1
          rw [hb] at hb'
          injection hb' with hb'
          injection hb' with e1
          subst e1
          exact ⟨v, d, g4, g2, g3⟩
        have := DR.sl (H := all w) k (xs.map f) b o cap arr ty fz (fun i j => (arr[o + i * k + j]?).getD v0) (by rw [List.length_map]; omega) hb (by rw [List.length_map]; omega) h3 (fun i hi => by rw [List.getElem_map]; exact hl _)
          (fun i hi j hj => by
            have hi' : i < xs.length := by simpa using hi
            obtain ⟨v, d, g1, _, _⟩ := at_ i xs[i] (List.getElem?_eq_getElem hi') j hj
            rw [g1]; rfl)
          (fun i hi j hj => by
            have hi' : i < xs.length := by simpa using hi
            have hj' : j < k := by rw [List.getElem_map, hl] at hj; exact hj
            obtain ⟨v, d, g1, g2, g3⟩ := at_ i xs[i] (List.getElem?_eq_getElem hi') j hj'
            have e1 : ((xs.map f)[i])[j]? = some d := by rw [List.getElem_map]; exact g2
            rw [List.getElem?_eq_getElem hj] at e1
            injection e1 with e1
            rw [e1, g1]; exact g3)
        rwa [List.length_map, hxl] at this
/-- the fields from one on -/
def FsN (w : World) (n : Nat) (fs : List Field) (o k : Nat) {α : Type} (f : α → List D) (good : α → Prop) : Prop :=
  ∀ (H : Type) (enc : TypeId × Value → H) (base : Nat) (spare : Nat → Bool) (held : Bool) (cs : List Value), (∀ fl ∈ fs, ∃ m x, m ≤ n ∧ DataW.trod enc Try.prog w base spare held m fl.type ((cs.drop fl.offset).take (Try.prog.cellsOf fl.type)) = some x) → o + k = cs.length → ∃ a : α, good a ∧ All2 (DR (all w)) (f a) (cs.drop o)
theorem FsN.nil {o : Nat} : FsN w n [] o 0 (fun _ : Unit => []) (fun _ => True) := fun H enc base spare held cs _ hl => ⟨(), trivial, by rw [List.drop_of_length_le (by omega)]; trivial⟩
theorem FsN.cons {fl : Field} {fs : List Field} {o k0 k1 : Nat} {f1 : β → List D} {good1 : β → Prop} (ho : fl.offset = o) (hc : Try.prog.cellsOf fl.type = k0) (h0 : RepN w n fl.type f good) (h1 : FsN w n fs (o + k0) k1 f1 good1) :
    FsN w n (fl :: fs) o (k0 + k1) (fun p : α × β => f p.1 ++ f1 p.2) (fun p => good p.1 ∧ good1 p.2) := fun H enc base spare held cs hf hl => by
  obtain ⟨m, x, hm, hx⟩ := hf fl (by simp)
  rw [ho, hc] at hx
  obtain ⟨a, g1, g2⟩ := h0 H enc base spare held m _ x hm hx
  obtain ⟨b, g3, g4⟩ := h1 H enc base spare held cs (fun fl' h' => hf fl' (by simp [h'])) (by omega)
  refine ⟨(a, b), ⟨g1, g3⟩, ?_⟩
  have e : cs.drop o = (cs.drop o).take k0 ++ cs.drop (o + k0) := by rw [← List.drop_drop, List.take_append_drop]
  rw [e]
  exact g2.append g4
theorem rep_struct {k : Nat} {fs : Array Field} (hu : Try.prog.underlying t = some (.struct fs)) (hc : Try.prog.cellsOf t = k) (h : FsN w n fs.toList 0 k f good) : RepN w (n + 1) t f good := fun H enc base spare held fuel cs x hn hx => by
  obtain ⟨xs, m, rfl, _, h2, h3, h4⟩ := DataW.trod_struct hu hx
  obtain ⟨a, g1, g2⟩ := h H enc base spare held cs (fun fl hfl => by
    obtain ⟨i, hi⟩ := List.mem_iff_getElem?.1 hfl
    have hi' : fs[i]? = some fl := by simpa using hi
    have := h4 i fl hi'
    have hlt : i < xs.length := by rw [h3]; exact (Array.getElem?_eq_some_iff.1 hi').1
    rw [List.getElem?_eq_getElem hlt] at this
    exact ⟨m, _, by omega, this⟩) (by rw [h2, hc]; omega)
  exact ⟨a, g1, by simpa using g2⟩
/-- a struct that came in -/
theorem rep_agg {fs : Array Field} (hu : Try.prog.underlying t = some (.struct fs)) (hr : ∀ n, RepN w n t f good) {H : Type} {enc : TypeId × Value → H} {base : Nat} {spare : Nat → Bool} {held : Bool} {r : Reach} {b0 : Nat} {v : Value} {d : DataW H} {p : List MemPlace} (hv : Value.okWide Try.prog w r b0 t v) (h : DataW.Trod enc Try.prog w base spare held t v d p) :
    ∃ (a : α) (cs : List Value), good a ∧ v = .agg ⟨cs⟩ ∧ All2 (DR (all w)) (f a) cs := by
  obtain ⟨cs, rfl, _⟩ := okWide_struct hu hv
  obtain ⟨fuel, hf⟩ := h
  obtain ⟨a, g1, g2⟩ := hr fuel H enc base spare held fuel _ _ (Nat.le_refl _) hf
  exact ⟨a, cs.toList, g1, rfl, g2⟩
/-- a slice that came in -/
theorem rep_one {e : TypeId} {g : α → D} (hu : Try.prog.underlying t = some (.slice e)) (hr : ∀ n, RepN w n t (fun a => [g a]) good) {H : Type} {enc : TypeId × Value → H} {base : Nat} {spare : Nat → Bool} {held : Bool} {r : Reach} {b0 : Nat} {v : Value} {d : DataW H} {p : List MemPlace} (hv : Value.okWide Try.prog w r b0 t v) (h : DataW.Trod enc Try.prog w base spare held t v d p) :
    ∃ (a : α) (ao : Option Addr) (len cap : Nat), good a ∧ v = .slice ao len cap ∧ DR (all w) (g a) v := by
  obtain ⟨ao, len, cap, rfl⟩ := okWide_slice hu hv
  obtain ⟨fuel, hf⟩ := h
  obtain ⟨a, g1, g2⟩ := hr fuel H enc base spare held fuel _ _ (Nat.le_refl _) hf
  exact ⟨a, ao, len, cap, g1, rfl, g2.1⟩
theorem dr_vd {l : List D} {cs : List Value} (h : All2 (DR (all w)) l cs) (B : Bl) : VR (all w) B (vd l) (.agg ⟨cs⟩) := by
  refine ⟨cs, rfl, All2.iff.2 ⟨by simpa using h.length, fun j a b ha hb => ?_⟩⟩
  rw [List.getElem?_map] at ha
  cases hj : l[j]? with
  | none => rw [hj] at ha; cases ha
  | some d =>
    rw [hj] at ha
    injection ha with ha
    subst ha
    exact (All2.iff.1 h).2 j d b hj hb
end
/-- a statement's walk, in the form of calls -/
theorem Fn.calls {k : FuncId} {args : List V} {vals : List Value} {w : World} (h : Fn Try.prog k [] args (vb true) []) (ha : ∀ B, All2 (VR (all w) B) args vals) : Calls Try.prog k ⟨vals⟩ w (GotP (.bool true) w) := by
  refine (h w (all w) (fun _ => none) vals ⟨fun b o hb => hb, fun p hp => (by cases hp), fun p hp => (by cases hp), fun p hp => (by cases hp), ha _⟩).mono ?_
  rintro en w' ⟨v, H', B', rfl, post⟩
  have := VR.rawI post.res
  subst this
  exact ⟨rfl, post.ext.os, post.ext.tape, post.ext.output, post.ext.size, fun b hb => post.ext.block b hb (by rintro ⟨p, hp, _⟩; cases hp)⟩
/-! the types of numbers and terms -/
section
variable {w : World} {n : Nat}
theorem rep_Nat : RepN w n 24 (fun zs => [nsl zs]) Lb :=
  (rep_slice (k := 1) (f := fun v : Nat => [D.raw (.int .u32 (v : Int))]) Try.underlying24 (by kernel_rfl) (by decide) (fun _ => rfl) (rep_u32 Try.underlying62)).map id (fun _ => rfl) fun zs h z hz => h.2 z hz
theorem rep_ZI : RepN w n 26 ziD (fun x => Lb x.abs) :=
  ((rep_struct (n := n) Try.underlying26 (by kernel_rfl) (.cons (k0 := 1) rfl (by kernel_rfl) (rep_bool Try.underlying4) (.cons (k0 := 1) rfl (by kernel_rfl) rep_Nat .nil))).map (fun p => ⟨p.1, p.2.1⟩) (fun _ => rfl) fun _ h => h.2.1).mono (Nat.le_succ n)
theorem rep_Part : RepN w n 47 Part.d (fun p => Lb p.c.abs) :=
  ((rep_struct (n := n) Try.underlying47 (by kernel_rfl) (.cons (k0 := 1) rfl (by kernel_rfl) (rep_i64 Try.underlying3) (.cons (k0 := 2) rfl (by kernel_rfl) rep_ZI .nil))).map (fun p => ⟨p.1, p.2.1⟩) (fun _ => rfl) fun _ h => h.2.1).mono (Nat.le_succ n)
/-- terms whose limbs are limbs -/
def TLb (t : Term) : Prop := Lb t.k.abs ∧ ∀ p ∈ t.parts, Lb p.c.abs
theorem rep_Parts : RepN w n 22 (slD 3 Part.d) (fun ps => ps.length ≤ maxLen ∧ ∀ p ∈ ps, Lb p.c.abs) :=
  rep_slice (k := 3) Try.underlying22 (by kernel_rfl) (by decide) (fun _ => rfl) rep_Part
theorem rep_Term : RepN w n 28 Term.d TLb :=
  ((rep_struct (n := n) Try.underlying28 (by kernel_rfl) (.cons (k0 := 1) rfl (by kernel_rfl) rep_Parts (.cons (k0 := 2) rfl (by kernel_rfl) rep_ZI .nil))).map (fun p => ⟨p.1, p.2.1⟩) (fun _ => rfl) fun _ h => ⟨h.2.1, h.1.2⟩).mono (Nat.le_succ n)
theorem rep_ints : RepN w n 38 (slD 1 intD) (fun xs => xs.length ≤ maxLen ∧ ∀ x ∈ xs, -9223372036854775808 ≤ x ∧ x ≤ 9223372036854775807) :=
  rep_slice (k := 1) Try.underlying38 (by kernel_rfl) (by decide) (fun _ => rfl) (rep_i64 Try.underlying3)
theorem rep_Terms : RepN w n 39 (slD 3 Term.d) (fun xs => xs.length ≤ maxLen ∧ ∀ x ∈ xs, TLb x) :=
  rep_slice (k := 3) Try.underlying39 (by kernel_rfl) (by decide) (fun _ => rfl) rep_Term
end
end Go.Proofs.Ytekhnajfdaknnaa.S
