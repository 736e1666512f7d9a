/-
  Own rows: names changed, nil as an own row, rows made, rows that grow.
-/
import Derived.Test.YtekhnajfdaknnaaSigE
import Derived.Laws.AppendOwn
import Derived.Great.BuildSlice
namespace Go.Proofs.Ytekhnajfdaknnaa.S
open Go.RowKit

/-! another name -/
def A.ren (n m : Nat) : A → A
  | .d x => .d x
  | .ptr k o => .ptr (if Nat.beq k n then m else k) o
def C.ren (n m : Nat) : C → C
  | .own k l => .own (if Nat.beq k n then m else k) l
  | .ptr k o => .ptr (if Nat.beq k n then m else k) o
  | .sub k o l => .sub (if Nat.beq k n then m else k) o l
  | .fn f fs cs => .fn f (fs.map (A.ren n m)) (cs.map (A.ren n m))
  | c => c
def T.ren (n m : Nat) : T → T
  | .c x => .c (x.ren n m)
  | .agg cs => .agg (cs.map (C.ren n m))
def V.ren (n m : Nat) : V → V
  | .t x => .t (x.ren n m)
  | .tup xs => .tup (xs.map (T.ren n m))
def L.ren (n m : Nat) : L → L
  | .box cs => .box (cs.map (C.ren n m))
  | .row ty k r => .row ty k r
def F.ren (f : F) (n m : Nat) : F :=
  ⟨fun t => (f.s t).map (V.ren n m), fun x => if Nat.beq x m then (f.l n).map (L.ren n m) else if Nat.beq x n then none else (f.l x).map (L.ren n m)⟩
theorem All2.mapL {α β γ : Type} {R : α → β → Prop} {R' : γ → β → Prop} (g : α → γ) : ∀ {xs : List α} {ys : List β}, All2 R xs ys → (∀ a ∈ xs, ∀ b, R a b → R' (g a) b) → All2 R' (xs.map g) ys
  | [], [], _, _ => trivial
  | _ :: _, _ :: _, h, k => ⟨k _ (by simp) _ h.1, h.2.mapL g fun a ha b => k a (by simp [ha]) b⟩
  | [], _ :: _, h, _ => h.elim
  | _ :: _, [], h, _ => h.elim
section
variable {H : Im} {B : Bl} {n m : Nat}
def swB (B : Bl) (n m : Nat) : Bl := fun x => if x = m then B n else B x
theorem swB_at (k : Nat) (hk : k ≠ m) : swB B n m (if Nat.beq k n then m else k) = B k := by
  by_cases e : k = n
  · subst e; simp [swB]
  · have : Nat.beq k n = false := by
      cases h : Nat.beq k n with
      | false => rfl
      | true => exact absurd (Nat.eq_of_beq_eq_true h) e
    simp [this, swB, hk]
theorem AR.ren {x : A} {v : Value} (hm : m ∉ x.tags) (h : AR H B x v) : AR H (swB B n m) (x.ren n m) v := by
  cases x with
  | d x => exact h
  | ptr k o => obtain ⟨b, c, hb, hv⟩ := h; exact ⟨b, c, (swB_at k (fun e => hm (by simp [A.tags, e]))).trans hb, hv⟩
theorem CR.ren {x : C} {v : Value} (hm : m ∉ x.tags) (h : CR H B x v) : CR H (swB B n m) (x.ren n m) v := by
  cases x with
  | ptr k o => obtain ⟨b, c, hb, hv⟩ := h; exact ⟨b, c, (swB_at k (fun e => hm (by simp [C.tags, e]))).trans hb, hv⟩
  | sub k o l => exact ⟨h.1, fun hl => let ⟨b, c, j, h1, h2⟩ := h.2 hl; ⟨b, c, j, (swB_at k (fun e => hm (by simp [C.tags, e]))).trans h1, h2⟩⟩
  | own k l => simp only [CR, C.ren] at h ⊢; rw [swB_at k (fun e => hm (by simp [C.tags, e]))]; exact h
  | fn f fs cs =>
    obtain ⟨vs, ws, hv, h1, h2⟩ := h
    simp only [C.tags, List.mem_append, List.mem_flatMap, not_or, not_exists, not_and] at hm
    exact ⟨vs, ws, hv, h1.mapL _ fun a ha b => AR.ren (hm.1 a ha), h2.mapL _ fun a ha b => AR.ren (hm.2 a ha)⟩
  | d x => exact h
  | el x => exact h
  | any => exact h
theorem TR.ren {x : T} {v : Value} (hm : m ∉ x.tags) (h : TR H B x v) : TR H (swB B n m) (x.ren n m) v := by
  cases x with
  | c x => exact CR.ren hm h
  | agg cs =>
    obtain ⟨vs, hv, h1⟩ := h
    simp only [T.tags, List.mem_flatMap, not_exists, not_and] at hm
    exact ⟨vs, hv, h1.mapL _ fun a ha b => CR.ren (hm a ha)⟩
theorem VR.ren {x : V} {v : Value} (hm : m ∉ x.tags) (h : VR H B x v) : VR H (swB B n m) (x.ren n m) v := by
  cases x with
  | t x => exact TR.ren hm h
  | tup xs =>
    obtain ⟨vs, hv, h1⟩ := h
    simp only [V.tags, List.mem_flatMap, not_exists, not_and] at hm
    exact ⟨vs, hv, h1.mapL _ fun a ha b => TR.ren (hm a ha)⟩
theorem LR.ren {x : L} {w : World} {k : Nat} (hk : k ≠ m) (hm : m ∉ x.tags) (h : LR H B w k x) : LR H (swB B n m) w (if Nat.beq k n then m else k) (x.ren n m) := by
  cases x with
  | box cs =>
    obtain ⟨b, c, arr, ty, hb, hc, h1⟩ := h
    simp only [L.tags, List.mem_flatMap, not_exists, not_and] at hm
    exact ⟨b, c, arr, ty, (swB_at k hk).trans hb, hc, h1.mapL _ fun a ha b => CR.ren (hm a ha)⟩
  | row ty es rows => simp only [LR, L.ren] at h ⊢; rw [swB_at k hk]; exact h
end
theorem St.ren {e : E} {f : F} {a : Act} {w : World} (h : St e f a w) (n m : Nat) (hm : New e.K f m) : St e (f.ren n m) a w := by
  obtain ⟨H, B, hok⟩ := h
  have hmn : f.l m = none := hm.2.1
  have cls : ∀ x l, (f.ren n m).l x = some l → ∃ y l0, f.l y = some l0 ∧ l = l0.ren n m ∧ y ≠ m ∧ x = (if Nat.beq y n then m else y) := by
    intro x l hx
    simp only [F.ren] at hx
    split at hx
    · rename_i e1
      have e1 := Nat.eq_of_beq_eq_true e1
      simp only [Option.map_eq_some_iff] at hx
      obtain ⟨l0, h1, rfl⟩ := hx
      exact ⟨n, l0, h1, rfl, (fun e => by rw [e, hmn] at h1; cases h1), by simp [e1]⟩
    · rename_i e1
      split at hx
      · cases hx
      · rename_i e2
        simp only [Option.map_eq_some_iff] at hx
        obtain ⟨l0, h1, rfl⟩ := hx
        exact ⟨x, l0, h1, rfl, (fun e => by rw [e, hmn] at h1; cases h1), by simp [e2]⟩
  refine ⟨H, swB B n m, hok.df, hok.n, hok.ext, hok.sat, ?_, ?_, ?_, ?_, hok.low, hok.le, ?_⟩
  · intro t v hv
    simp only [F.ren, Option.map_eq_some_iff] at hv
    obtain ⟨x, hx, rfl⟩ := hv
    exact VR.ren (hm.2.2.1 t x hx) (hok.slot t x hx)
  · intro x l hx
    obtain ⟨y, l0, h1, rfl, h2, rfl⟩ := cls x l hx
    exact LR.ren h2 (hm.2.2.2 y l0 h1) (hok.loc y l0 h1)
  · intro x l b c hx hb
    obtain ⟨y, l0, h1, rfl, h2, rfl⟩ := cls x l hx
    rw [swB_at y h2] at hb
    exact hok.priv y l0 b c h1 hb
  · intro x z l l' b c c' hx hz hb hb'
    obtain ⟨y, l0, h1, rfl, h2, rfl⟩ := cls x l hx
    obtain ⟨y', l0', h1', rfl, h2', rfl⟩ := cls z l' hz
    rw [swB_at y h2] at hb
    rw [swB_at y' h2'] at hb'
    rw [hok.inj y y' l0 l0' b c c' h1 h1' hb hb']
  · intro x hx
    have : x ≠ m := fun e => hm.1 (e ▸ hx)
    simp only [swB, this, if_false]
    exact hok.keep x hx

/-! one slot, one block put otherwise -/
def F.setS (f : F) (t : Nat) (v : V) : F := ⟨fun x => if Nat.beq x t then some v else f.s x, f.l⟩
def F.setL (f : F) (n : Nat) (l : L) : F := ⟨f.s, fun x => if Nat.beq x n then some l else f.l x⟩
theorem Ok.setS {e : E} {f : F} {H : Im} {B : Bl} {a : Act} {w : World} (h : Ok e f H B a w) (t : Nat) (v v' : V) (hv : f.s t = some v) (hx : ∀ u, VR H B v u → VR H B v' u) : Ok e (f.setS t v') H B a w := by
  refine ⟨h.df, h.n, h.ext, h.sat, ?_, h.loc, h.priv, h.inj, h.low, h.le, h.keep⟩
  intro x y hy
  simp only [F.setS] at hy
  split at hy
  · rename_i e1
    have e1 := Nat.eq_of_beq_eq_true e1
    subst e1
    injection hy with hy
    subst hy
    exact hx _ (h.slot x v hv)
  · exact h.slot x y hy
theorem Ok.setL {e : E} {f : F} {H : Im} {B : Bl} {a : Act} {w : World} (h : Ok e f H B a w) (n : Nat) (l l' : L) (hl : f.l n = some l) (hx : LR H B w n l → LR H B w n l') : Ok e (f.setL n l') H B a w := by
  have cls : ∀ m x, (f.setL n l').l m = some x → ∃ y, f.l m = some y := by
    intro m x hm
    simp only [F.setL] at hm
    split at hm
    · rename_i e1
      have e1 := Nat.eq_of_beq_eq_true e1
      subst e1
      exact ⟨l, hl⟩
    · exact ⟨x, hm⟩
  refine ⟨h.df, h.n, h.ext, h.sat, h.slot, ?_, ?_, ?_, h.low, h.le, h.keep⟩
  · intro m x hm
    simp only [F.setL] at hm
    split at hm
    · rename_i e1
      have e1 := Nat.eq_of_beq_eq_true e1
      subst e1
      injection hm with hm
      subst hm
      exact hx (h.loc m l hl)
    · exact h.loc m x hm
  · intro m x b c hm hb
    obtain ⟨y, hy⟩ := cls m x hm
    exact h.priv m y b c hy hb
  · intro m k x y b c c' hm hk hb hb'
    obtain ⟨x', hx'⟩ := cls m x hm
    obtain ⟨y', hy'⟩ := cls k y hk
    exact h.inj m k x' y' b c c' hx' hy' hb hb'
/-- a new name for nil -/
theorem Ok.nilName {e : E} {f : F} {H : Im} {B : Bl} {a : Act} {w : World} (h : Ok e f H B a w) (n es : Nat) (ty : TypeId) (hn : New e.K f n) :
    Ok e (f.setL n (.row ty es [])) H (fun x => if x = n then none else B x) a w := by
  have hB : ∀ m, m ≠ n → (fun x => if x = n then none else B x) m = B m := fun m hm => by simp [hm]
  refine ⟨h.df, h.n, h.ext, h.sat, ?_, ?_, ?_, ?_, h.low, h.le, ?_⟩
  · intro t v hv
    exact VR.mono (Le.refl _) (fun m hm => hB m fun e => hn.2.2.1 t v hv (e ▸ hm)) (h.slot t v hv)
  · intro m x hm
    simp only [F.setL] at hm
    split at hm
    · rename_i e1
      have e1 := Nat.eq_of_beq_eq_true e1
      subst e1
      injection hm with hm
      subst hm
      simp [LR]
    · rename_i e1
      have hne : m ≠ n := fun e => by simp [e] at e1
      exact LR.mono (Le.refl _) (hB m hne) (fun k hk => hB k fun e => hn.2.2.2 m x hm (e ▸ hk)) (fun _ _ _ => rfl) (h.loc m x hm)
  · intro m x b c hm hb
    by_cases e1 : m = n
    · simp [e1] at hb
    · simp only [if_neg e1] at hb
      simp only [F.setL] at hm
      rw [if_neg (fun e => e1 (Nat.eq_of_beq_eq_true e))] at hm
      exact h.priv m x b c hm hb
  · intro m k x y b c c' hm hk hb hb'
    by_cases e1 : m = n
    · simp [e1] at hb
    · by_cases e2 : k = n
      · simp [e2] at hb'
      · simp only [if_neg e1] at hb
        simp only [if_neg e2] at hb'
        simp only [F.setL] at hm hk
        rw [if_neg (fun e => e1 (Nat.eq_of_beq_eq_true e))] at hm
        rw [if_neg (fun e => e2 (Nat.eq_of_beq_eq_true e))] at hk
        exact h.inj m k x y b c c' hm hk hb hb'
  · intro m hm
    exact (hB m fun e => hn.1 (e ▸ hm)).trans (h.keep m hm)
def nilV : Value := .slice none 0 0
def V.getC : V → Nat → Option C
  | .t (.c x), 0 => some x
  | .t (.agg cs), j => cs[j]?
  | _, _ => none
def V.setC : V → Nat → C → V
  | .t (.c _), _, c => .t (.c c)
  | .t (.agg cs), j, c => .t (.agg (cs.set j c))
  | v, _, _ => v
theorem VR.setC {H : Im} {B : Bl} {v : V} {j : Nat} {c c' : C} (hg : v.getC j = some c) (hc : ∀ u, CR H B c u → CR H B c' u) {u : Value} (h : VR H B v u) : VR H B (v.setC j c') u := by
  cases v with
  | tup xs => cases hg
  | t x =>
    cases x with
    | c x =>
      cases j with
      | zero => injection hg with hg; subst hg; exact hc u h
      | succ j => cases hg
    | agg cs =>
      obtain ⟨vs, hv, h1⟩ := h
      refine ⟨vs, hv, All2.iff.2 ⟨by simpa using h1.length, fun i x y hx hy => ?_⟩⟩
      have hg : cs[j]? = some c := by cases j <;> exact hg
      by_cases e : i = j
      · subst e
        rw [List.getElem?_set_self (List.getElem?_eq_some_iff.1 hg).1] at hx
        injection hx with hx
        subst hx
        exact hc _ ((All2.iff.1 h1).2 i c y hg hy)
      · rw [List.getElem?_set_ne (Ne.symm e)] at hx
        exact (All2.iff.1 h1).2 i x y hx hy
theorem LR.setC {H : Im} {B : Bl} {w : World} {n : Nat} {cs : List C} {j : Nat} {c c' : C} (hg : cs[j]? = some c) (hc : ∀ u, CR H B c u → CR H B c' u) (h : LR H B w n (.box cs)) : LR H B w n (.box (cs.set j c')) := by
  obtain ⟨b, k, arr, ty, hb, hw, h1⟩ := h
  refine ⟨b, k, arr, ty, hb, hw, All2.iff.2 ⟨by simpa using h1.length, fun i x y hx hy => ?_⟩⟩
  by_cases e : i = j
  · subst e
    rw [List.getElem?_set_self (List.getElem?_eq_some_iff.1 hg).1] at hx
    injection hx with hx
    subst hx
    exact hc _ ((All2.iff.1 h1).2 i c y hg hy)
  · rw [List.getElem?_set_ne (Ne.symm e)] at hx
    exact (All2.iff.1 h1).2 i x y hx hy
theorem nil_data {H : Im} {B : Bl} (es : Nat) {ao : Option Addr} {c : Nat} (h1 : ao = none → c = 0) (h2 : c ≤ maxLen) (u : Value) (h : CR H B (.d (.raw (.slice ao 0 c))) u) : CR H B (.d (.sl es [])) u := by
  have := VR.rawI (H := H) (B := B) h
  subst this
  exact DR.nil es ao c h1 h2
section
variable {e : E} {f : F} {a : Act} {w : World}
/-- nil in a slot, as an own row -/
theorem St.nilOS (h : St e f a w) (t j n es : Nat) (ty : TypeId) {v : V} (hv : f.s t = some v) (hg : v.getC j = some (.d (.raw nilV))) (hn : New e.K f n) : St e ((f.setL n (.row ty es [])).setS t (v.setC j (.own n 0))) a w := by
  obtain ⟨H, B, hok⟩ := h
  refine ⟨H, _, (hok.nilName n es ty hn).setS t v _ hv fun u hu => VR.setC hg (fun u hu => ?_) hu⟩
  have := VR.rawI (H := H) (B := fun x => if x = n then none else B x) hu
  subst this
  simp [CR, nilV]
theorem St.nilOL (h : St e f a w) (m j n es : Nat) (ty : TypeId) {cs : List C} (hv : f.l m = some (.box cs)) (hg : cs[j]? = some (.d (.raw nilV))) (hn : New e.K f n) : St e ((f.setL n (.row ty es [])).setL m (.box (cs.set j (.own n 0)))) a w := by
  obtain ⟨H, B, hok⟩ := h
  have hmn : m ≠ n := fun e => by have := hn.2.1; rw [← e, hv] at this; cases this
  refine ⟨H, _, (hok.nilName n es ty hn).setL m (.box cs) _ (by simp [F.setL, hmn, hv]) fun hu => LR.setC hg (fun u hu => ?_) hu⟩
  have := VR.rawI (H := H) (B := fun x => if x = n then none else B x) hu
  subst this
  simp [CR, nilV]
/-- nil as data -/
theorem St.nilDS (h : St e f a w) (t j es : Nat) {v : V} {ao : Option Addr} {c : Nat} (hv : f.s t = some v) (hg : v.getC j = some (.d (.raw (.slice ao 0 c)))) (h1 : ao = none → c = 0) (h2 : c ≤ maxLen) : St e (f.setS t (v.setC j (.d (.sl es [])))) a w := by
  obtain ⟨H, B, hok⟩ := h
  exact ⟨H, B, hok.setS t v _ hv fun u hu => VR.setC hg (nil_data es h1 h2) hu⟩
theorem St.nilDL (h : St e f a w) (m j es : Nat) {cs : List C} {ao : Option Addr} {c : Nat} (hv : f.l m = some (.box cs)) (hg : cs[j]? = some (.d (.raw (.slice ao 0 c)))) (h1 : ao = none → c = 0) (h2 : c ≤ maxLen) : St e (f.setL m (.box (cs.set j (.d (.sl es []))))) a w := by
  obtain ⟨H, B, hok⟩ := h
  exact ⟨H, B, hok.setL m (.box cs) _ hv fun hu => LR.setC hg (nil_data es h1 h2) hu⟩
/-- an empty slice that stays: nil, or not -/
theorem St.rawE (h : St e f a w) (t es : Nat) (hv : f.s t = some (.t (.c (.d (.sl es []))))) : ∃ ao c, (ao = none → c = 0) ∧ c ≤ maxLen ∧ St e (f.setS t (.t (.c (.d (.raw (.slice ao 0 c)))))) a w := by
  obtain ⟨H, B, hok⟩ := h
  have h1 : DR H (.sl es []) (a.tmps.getD t undef) := hok.slot t _ hv
  generalize hu : a.tmps.getD t undef = u at h1
  cases h1 with
  | nil _ ao c g1 g2 =>
    refine ⟨ao, c, g1, g2, H, B, ?_⟩
    refine ⟨hok.df, hok.n, hok.ext, hok.sat, ?_, hok.loc, hok.priv, hok.inj, hok.low, hok.le, hok.keep⟩
    intro x y hy
    simp only [F.setS] at hy
    split at hy
    · rename_i e1
      have e1 := Nat.eq_of_beq_eq_true e1
      subst e1
      injection hy with hy
      subst hy
      rw [hu]
      exact DR.raw _ rfl
    · exact hok.slot x y hy
  | sl _ _ b o c arr ty fz vs hp => simp at hp
/-- less of an own row -/
theorem St.cutR (h : St e f a w) (n k es : Nat) (ty : TypeId) {rows : List (List D)} (hl : f.l n = some (.row ty es rows)) : St e (f.setL n (.row ty es (rows.take k))) a w := by
  obtain ⟨H, B, hok⟩ := h
  refine ⟨H, B, hok.setL n _ _ hl fun hu => ?_⟩
  simp only [LR] at hu ⊢
  split at hu
  · rw [hu]; simp
  · obtain ⟨arr, h1, h2, h3, h4, h5, h6⟩ := hu
    have h5' : ∀ r ∈ rows.take k, r.length = es := fun r hr => h5 r (List.mem_of_mem_take hr)
    have h3' : (rows.take k).length ≤ _ := Nat.le_trans (by rw [List.length_take]; omega) h3
    refine ⟨arr, h1, h2, h3', h4, h5', (rowAt_iff h2 h3' h5').2 fun i r hr f x hx => ?_⟩
    rw [List.getElem?_take] at hr
    split at hr
    · exact (rowAt_iff h2 h3 h5).1 h6 i r hr f x hx
    · cases hr
end

/-- a row that grows: its block is the old one or a new one; the old name is given up -/
theorem Ok.renew {e : E} {f g : F} {H : Im} {B : Bl} {a : Act} {w w' : World} (h : Ok e f H B a w) {n n' : Nat} {l l' : L} (hn : f.l n = some l) (hnew : New e.K f n') (p : Option (Nat × Nat))
    (ho : w'.os = w.os) (ht : w'.tape = w.tape) (hu : w'.output = w.output) (hz : w.heap.size ≤ w'.heap.size) (hk : ∀ k, k < w.heap.size → (∀ c, B n ≠ some (k, c)) → w'.heap[k]? = w.heap[k]?)
    (hp : ∀ b c, p = some (b, c) → b < w'.heap.size ∧ ((∃ c', B n = some (b, c')) ∨ w.heap.size ≤ b)) (lr : LR H (fun x => if x = n' then p else B x) w' n' l')
    (hs : ∀ t, g.s t = f.s t) (hl : ∀ m, g.l m = if m = n' then some l' else if m = n then none else f.l m) : Ok e g H (fun x => if x = n' then p else B x) a w' := by
  have hB : ∀ m, m ≠ n' → (fun x => if x = n' then p else B x) m = B m := fun m hm => by simp [hm]
  have cls : ∀ m x, g.l m = some x → (m = n' ∧ x = l') ∨ (m ≠ n' ∧ m ≠ n ∧ f.l m = some x) := by
    intro m x hm
    rw [hl] at hm
    split at hm
    · rename_i e1; injection hm with hm; exact .inl ⟨e1, hm.symm⟩
    · rename_i e1
      split at hm
      · cases hm
      · rename_i e2; exact .inr ⟨e1, e2, hm⟩
  refine ⟨h.df, h.n, ⟨ho.trans h.ext.os, ht.trans h.ext.tape, hu.trans h.ext.output, Nat.le_trans h.ext.size hz, ?_⟩, ?_, ?_, ?_, ?_, ?_, h.low, h.le, ?_⟩
  · intro b hb hm
    have := h.ext.size
    rw [hk b (by omega) fun c hc => ?_]
    · exact h.ext.block b hb hm
    · rcases (h.priv n l b c hn hc).2.2 with h1 | h1
      · exact hm h1
      · omega
  · intro b o hb
    have h1 := h.sat b o hb
    have : b < w.heap.size := (Array.getElem?_eq_some_iff.1 h1).1
    rw [hk b this fun c hc => ?_]
    · exact h1
    · rw [(h.priv n l b c hn hc).2.1] at hb; cases hb
  · intro t v hv
    rw [hs] at hv
    exact VR.mono (Le.refl _) (fun m hm => hB m fun e => hnew.2.2.1 t v hv (e ▸ hm)) (h.slot t v hv)
  · intro m x hm
    rcases cls m x hm with ⟨rfl, rfl⟩ | ⟨h1, h2, h3⟩
    · exact lr
    · refine LR.mono (Le.refl _) (hB m h1) (fun k hk2 => hB k fun e => hnew.2.2.2 m x h3 (e ▸ hk2)) (fun b c hb => ?_) (h.loc m x h3)
      refine hk b (h.priv m x b c h3 hb).1 fun c' hc' => h2 (h.inj m n x l b c c' h3 hn hb hc')
  · intro m x b c hm hb
    rcases cls m x hm with ⟨rfl, rfl⟩ | ⟨h1, h2, h3⟩
    · simp only [if_true] at hb
      obtain ⟨h4, h5⟩ := hp b c hb
      refine ⟨h4, ?_⟩
      rcases h5 with ⟨c', hc'⟩ | h5
      · exact (h.priv n l b c' hn hc').2
      · refine ⟨?_, .inr (Nat.le_trans h.ext.size h5)⟩
        cases hq : H b with
        | none => rfl
        | some o => have := (Array.getElem?_eq_some_iff.1 (h.sat b o hq)).1; omega
    · simp only [if_neg h1] at hb
      obtain ⟨h4, h5⟩ := h.priv m x b c h3 hb
      exact ⟨Nat.lt_of_lt_of_le h4 hz, h5⟩
  · have cross : ∀ m x b c c', m ≠ n → f.l m = some x → B m = some (b, c) → p = some (b, c') → False := by
      intro m x b c c' h2 h3 hb hb'
      rcases (hp b c' hb').2 with ⟨c2, hc2⟩ | h5
      · exact h2 (h.inj m n x l b c c2 h3 hn hb hc2)
      · have := (h.priv m x b c h3 hb).1; omega
    intro m k x y b c c' hm hk2 hb hb'
    rcases cls m x hm with ⟨rfl, rfl⟩ | ⟨h1, h2, h3⟩ <;> rcases cls k y hk2 with ⟨rfl, rfl⟩ | ⟨j1, j2, j3⟩
    · rfl
    · simp only [if_true] at hb
      simp only [if_neg j1] at hb'
      exact (cross k y b c' c j2 j3 hb' hb).elim
    · simp only [if_true] at hb'
      simp only [if_neg h1] at hb
      exact (cross m x b c c' h2 h3 hb hb').elim
    · simp only [if_neg h1] at hb
      simp only [if_neg j1] at hb'
      exact h.inj m k x y b c c' h3 j3 hb hb'
  · intro m hm
    exact (hB m fun e => hnew.1 (e ▸ hm)).trans (h.keep m hm)

/-- an element type, with its zero and its size in bytes -/
structure ElT (P : Program) (t el : TypeId) (es bs : Nat) : Prop where
  hu : P.underlying t = some (.slice el)
  ex : ∃ i z, P.info? el = some i ∧ i.zero = some z ∧ i.size = es ∧ i.bytes = bs ∧ z.cells.size = es
  pos : 0 < es
  bpos : 0 < bs
theorem ElT.mk' {P : Program} {t el : TypeId} {es bs : Nat} (hu : P.underlying t = some (.slice el)) (i : TypeInfo) (z : Value) (h1 : P.info? el = some i) (h2 : i.zero = some z) (h3 : i.size = es) (h4 : i.bytes = bs) (h5 : z.cells.size = es) (h6 : 0 < es) (h7 : 0 < bs) : ElT P t el es bs := ⟨hu, ⟨i, z, h1, h2, h3, h4, h5⟩, h6, h7⟩
section
variable {P : Program}
theorem append_fresh {w : World} {el xt ty : TypeId} {i : TypeInfo} {z : Value} {es : Nat} (hu : P.underlying xt = some (.slice el)) (hi : P.info? el = some i) (hz : i.zero = some z) (hsz : i.size = es)
    {v : Value} {n : Nat} {xs : List Value} (hown : w.ownsRow 0 el es v n xs) {a : Addr} {m c : Nat} (hm : 0 < m) {news : List Value} (hl : news.length = m * es) (hnews : ∀ j u, news[j]? = some u → w.cell? (a.add j) = some u) (h1 : ∀ u ∈ news, u.oneCell' = true)
    (h63 : n + m ≤ maxLen) (hb : (n + m) * i.bytes ≤ 140737488355328) {v' : Value} {w' : World} (hr : (Builtin.append_ #[xt, xt] ty #[v, .slice (some a) m c]).run P w = .ok v' w') : ∀ g, v'.ownBlock = some g → v.ownBlock = some g ∨ g = w.heap.size := by
  subst hsz
  have hsmall : n + m ≤ 9223372036854775807 := by simp only [maxLen] at h63; omega
  intro g hg
  rcases hown.2 with ⟨rfl, rfl⟩ | ⟨g2, cap, cur, rfl, _, hg2, hnc, hcm, hcs, htake⟩
  · have h2 := run_append_nil (P := P) w xt ty el i z hu hi hz a m c news hl hnews hm (by omega) (by have := hb; simp only [Nat.zero_add] at this; omega)
    rw [h2] at hr
    injection hr with hr _
    subst hr
    simp [Value.ownBlock] at hg
    exact .inr hg.symm
  · by_cases hroom : n + m ≤ cap
    · have hfit : n * i.size + news.length ≤ cur.size := by rw [hl, hcs, ← Nat.add_mul]; exact Nat.mul_le_mul_right _ hroom
      have h2 := run_append_room (P := P) w xt ty el i hu hi g2 n cap cur hg2 a m c news hl hnews h1 hroom hfit
      rw [h2] at hr
      injection hr with hr _
      subst hr
      exact .inl hg
    · have holds : ∀ j u, xs[j]? = some u → w.cell? ((⟨g2, 0, none⟩ : Addr).add j) = some u := hown.cells (g := g2) rfl
      have h2 := run_append_grow (P := P) w xt ty el i z hu hi hz ⟨g2, 0, none⟩ n cap xs hown.1 holds a m c news hl hnews (by omega) (by omega) (growslice_fits (by omega) hb)
      rw [h2] at hr
      injection hr with hr _
      subst hr
      simp [Value.ownBlock] at hg
      exact .inr hg.symm
theorem append_base0 {w : World} {el xt ty : TypeId} {i : TypeInfo} {z : Value} {es : Nat} (hu : P.underlying xt = some (.slice el)) (hi : P.info? el = some i) (hz : i.zero = some z) (hsz : i.size = es)
    (a0 : Addr) {a : Addr} {m c : Nat} {news : List Value} (hl : news.length = m * es) (hnews : ∀ j u, news[j]? = some u → w.cell? (a.add j) = some u) (hm : 0 < m) (h63 : m ≤ maxLen) (hb : m * i.bytes ≤ 140737488355328) :
    (Builtin.append_ #[xt, xt] ty #[.slice (some a0) 0 0, .slice (some a) m c]).run P w = (Builtin.append_ #[xt, xt] ty #[.slice none 0 0, .slice (some a) m c]).run P w := by
  subst hsz
  have hsmall : m ≤ 9223372036854775807 := by simp only [maxLen] at h63; omega
  rw [run_append_nil (P := P) w xt ty el i z hu hi hz a m c news hl hnews hm (by omega) (by omega), run_append_grow (P := P) w xt ty el i z hu hi hz a0 0 0 [] (by simp) (by simp) a m c news hl hnews (by omega) (by omega) (growslice_fits (by omega) (by simpa using hb))]
  simp
theorem wp_of_run {o : Oper} {e : E} {g : F} {d : Nat} {v : Value} {a : Act} {w w' : World} {Q : Exit → Act → World → Prop} (hd : o.dst = some d) (hrun : (execOp a.eval o).run P w = .ok (.value v) w') (h : St e g (a.put (some d) v) w') :
    Oper.wp P o a w (fun a' w' => St e g a' w') Q := by
  unfold Oper.wp
  rw [hrun, Oper.upon_value, hd]
  exact h
theorem DR.cellsAt {H : Im} {es : Nat} {rows : List (List D)} {w : World} (hsat : ∀ b o, H b = some o → w.heap[b]? = some o) {b o : Nat} {arr : Array Value} {ty : TypeId} {fz : Nat × Nat} {vs : Nat → Nat → Value} (hb : H b = some (.cells arr ty fz)) (hes : ∀ i (hi : i < rows.length), (rows[i]'hi).length = es)
    (hv : ∀ i (_ : i < rows.length) j, j < es → arr[o + i * es + j]? = some (vs i j)) (hr : ∀ i (hi : i < rows.length) j (hj : j < rows[i].length), DR H rows[i][j] (vs i j)) :
    ∃ news : List Value, news.length = rows.length * es ∧ (∀ j u, news[j]? = some u → w.cell? ((⟨b, o, none⟩ : Addr).add j) = some u) ∧ RowAt H news es rows ∧ (∀ u ∈ news, u.oneCell' = true) := by
  have hw := hsat b _ hb
  have hget : ∀ j, j < rows.length * es → 0 < es ∧ j / es < rows.length ∧ j % es < es ∧ j = j / es * es + j % es := by
    intro j hj
    have he : 0 < es := Nat.pos_of_ne_zero fun e => by simp [e] at hj
    exact ⟨he, Nat.div_lt_of_lt_mul (by rw [Nat.mul_comm]; exact hj), Nat.mod_lt _ he, by rw [Nat.mul_comm]; exact (Nat.div_add_mod j es).symm⟩
  refine ⟨(List.range (rows.length * es)).map fun j => vs (j / es) (j % es), by simp, ?_, ?_, ?_⟩
  · intro j u hu
    rw [List.getElem?_map] at hu
    by_cases hj : j < rows.length * es
    · rw [List.getElem?_range hj] at hu
      injection hu with hu
      obtain ⟨h1, h2, h3, h4⟩ := hget j hj
      rw [Addr.add_mid]
      have := hv (j / es) h2 (j % es) h3
      rw [Nat.add_assoc, ← h4] at this
      subst hu
      simp [World.cell?, hw, this]
    · rw [List.getElem?_eq_none (by simpa using hj)] at hu; cases hu
  · intro i r hri f x hx
    obtain ⟨hi, rfl⟩ := List.getElem?_eq_some_iff.1 hri
    obtain ⟨hf, rfl⟩ := List.getElem?_eq_some_iff.1 hx
    have hf' : f < es := by rw [← hes i hi]; exact hf
    have hlt : i * es + f < rows.length * es := by
      have : (i + 1) * es ≤ rows.length * es := Nat.mul_le_mul_right _ hi
      rw [Nat.add_mul] at this; omega
    have e1 : (i * es + f) / es = i := by rw [Nat.mul_comm, Nat.mul_add_div (by omega)]; simp [Nat.div_eq_of_lt hf']
    have e2 : (i * es + f) % es = f := by rw [Nat.mul_comm, Nat.mul_add_mod]; exact Nat.mod_eq_of_lt hf'
    refine ⟨vs i f, ?_, hr i hi f hf⟩
    rw [List.getElem?_map, List.getElem?_range hlt]
    simp [e1, e2]
  · intro u hu
    simp only [List.mem_map, List.mem_range] at hu
    obtain ⟨j, hj, rfl⟩ := hu
    obtain ⟨h1, h2, h3, h4⟩ := hget j hj
    exact flat_one (DR.flat (hr (j / es) h2 (j % es) (by rw [hes _ h2]; exact h3)))
/-- append: an own row and a slice that stays -/
theorem Op.appOD {d t u n n' len len' es bs : Nat} {rows rows2 rows' : List (List D)} {xt el ty : TypeId} {pos af gd} (hT : ElT P xt el es bs) (hlen : len = rows.length) (hlen' : len' = len + rows2.length) (hrow : rows ++ rows2 = rows')
    (hes2 : ∀ r ∈ rows2, r.length = es) (hb : (len + rows2.length) * bs ≤ 140737488355328) :
    OpOk P ⟨some d, .call { callee := .builtin .append, args := #[.tmp t, .tmp u], argTypes := #[xt, xt] }, ty, pos, af, gd⟩
      { rs := [(t, .t (.c (.own n len))), (u, .t (.c (.d (.sl es rows2))))], rl := [(n, .row el es rows)], ws := [(d, some (.t (.c (.own n' len'))))], wl := [(n', some (.row el es rows')), (n, none)], nw := [n'] } := by
  rintro e f a w Q ⟨H, B, hok⟩ hr hnw hb0
  subst hlen hlen' hrow
  have hnew := hnw n' (by simp)
  have hl := hr.2 (n, .row el es rows) (by simp)
  have h1 : CR H B (.own n rows.length) (a.eval (.tmp t)) := hok.slot t _ (hr.1 (t, .t (.c (.own n rows.length))) (by simp))
  have h2 : DR H (.sl es rows2) (a.eval (.tmp u)) := hok.slot u _ (hr.1 (u, .t (.c (.d (.sl es rows2)))) (by simp))
  obtain ⟨i, z, hi, hz, hsz, hby, hzs⟩ := hT.ex
  have hne : n ≠ n' := fun e => by have := hnew.2.1; rw [← e, hl] at this; cases this
  have hlr := hok.loc n _ hl
  have hml : rows.length + rows2.length ≤ maxLen := by
    have : (rows.length + rows2.length) * 1 ≤ (rows.length + rows2.length) * bs := Nat.mul_le_mul_left _ hT.bpos
    simp only [maxLen]; omega
  -- the run, the new block
  have main : ∃ v w' p, (Builtin.append_ #[xt, xt] ty #[a.eval (.tmp t), a.eval (.tmp u)]).run P w = .ok v w' ∧ CR H (fun x => if x = n' then p else B x) (.own n' (rows.length + rows2.length)) v ∧
      LR H (fun x => if x = n' then p else B x) w' n' (.row el es (rows ++ rows2)) ∧ w'.os = w.os ∧ w'.tape = w.tape ∧ w'.output = w.output ∧ w.heap.size ≤ w'.heap.size ∧ (∀ k, k < w.heap.size → (∀ c, B n ≠ some (k, c)) → w'.heap[k]? = w.heap[k]?) ∧
      (∀ b c, p = some (b, c) → b < w'.heap.size ∧ ((∃ c', B n = some (b, c')) ∨ w.heap.size ≤ b)) := by
    generalize a.eval (.tmp t) = vt at h1
    generalize a.eval (.tmp u) = vu at h2
    -- nothing is added
    have empty : ∀ ao c, rows2 = [] → ∃ v w' p, (Builtin.append_ #[xt, xt] ty #[vt, .slice ao 0 c]).run P w = .ok v w' ∧ CR H (fun x => if x = n' then p else B x) (.own n' (rows.length + rows2.length)) v ∧
        LR H (fun x => if x = n' then p else B x) w' n' (.row el es (rows ++ rows2)) ∧ w'.os = w.os ∧ w'.tape = w.tape ∧ w'.output = w.output ∧ w.heap.size ≤ w'.heap.size ∧ (∀ k, k < w.heap.size → (∀ c, B n ≠ some (k, c)) → w'.heap[k]? = w.heap[k]?) ∧
        (∀ b c, p = some (b, c) → b < w'.heap.size ∧ ((∃ c', B n = some (b, c')) ∨ w.heap.size ≤ b)) := by
      rintro ao c rfl
      have hrun : ∀ base m cap, m ≤ cap → (Builtin.append_ #[xt, xt] ty #[.slice base m cap, .slice ao 0 c]).run P w = .ok (.slice base m cap) w := by
        intro base m cap hmc
        cases ao <;> cases base <;> simp [Builtin.append_, run_underlying hT.hu, sizeOf, typeInfo, hi, Builtin.lenOf, hmc, Builtin.firstCells, loadCells, loadCellsFrom, storeCells]
      refine ⟨vt, w, B n, ?_, ?_, ?_, rfl, rfl, rfl, Nat.le_refl _, fun _ _ _ => rfl, fun b c hb => ⟨(hok.priv n _ b c hl hb).1, .inl ⟨c, hb⟩⟩⟩
      · simp only [CR] at h1
        cases hB : B n with
        | none => rw [hB] at h1; obtain ⟨_, ao0, h1⟩ := h1; rw [h1]; exact hrun ao0 0 0 (Nat.le_refl _)
        | some q =>
          obtain ⟨b, cc⟩ := q
          rw [hB] at h1
          obtain ⟨arr, g1, g2, g3, g4, g5, g6⟩ := hok.row hl hB
          rw [h1]; exact hrun _ _ _ g3
      · simp only [CR, if_true, List.length_nil, Nat.add_zero] at h1 ⊢; exact h1
      · simp only [LR, if_true, List.append_nil] at hlr ⊢; exact hlr
    cases h2 with
    | nil _ ao c _ _ => exact empty ao c rfl
    | sl _ _ b o c arr ty' fz vs hp hbH hl2 hc hes hv hx =>
      obtain ⟨news, n1, n2, n3, n4⟩ := DR.cellsAt hok.sat hbH hes hv hx
      obtain ⟨vt0, hvt0, hblk, hown⟩ : ∃ vt0, (Builtin.append_ #[xt, xt] ty #[vt, .slice (some ⟨b, o, none⟩) rows2.length c]).run P w = (Builtin.append_ #[xt, xt] ty #[vt0, .slice (some ⟨b, o, none⟩) rows2.length c]).run P w ∧ vt0.ownBlock = (B n).map (·.1) ∧ ∃ xs, w.ownsRow 0 el es vt0 rows.length xs ∧ RowAt H xs es rows := by
        simp only [CR] at h1
        cases hB : B n with
        | none =>
          simp only [LR, hB] at hlr
          rw [hB] at h1
          subst hlr
          obtain ⟨_, ao0, rfl⟩ := h1
          refine ⟨.slice none 0 0, ?_, rfl, [], ⟨by simp, .inl ⟨rfl, rfl⟩⟩, fun i r hr => by simp at hr⟩
          cases ao0 with
          | none => rfl
          | some a0 => exact append_base0 hT.hu hi hz hsz a0 n1 n2 hp (by simpa using hml) (by rw [hby]; simpa using hb)
        | some q =>
          obtain ⟨b2, cc⟩ := q
          rw [hB] at h1
          obtain ⟨arr2, g1, g2, g3, g4, g5, g6⟩ := hok.row hl hB
          have hle : rows.length * es ≤ cc * es := Nat.mul_le_mul_right _ g3
          refine ⟨vt, rfl, by rw [h1]; rfl, arr2.take (rows.length * es), ⟨by rw [List.length_take]; omega, .inr ⟨b2, cc, ⟨arr2⟩, h1, Nat.zero_le _, g1, g3, g4, by simpa using g2, rfl⟩⟩, ?_⟩
          intro i r hri f x hx2
          obtain ⟨u, k1, k2⟩ := g6 i r hri f x hx2
          refine ⟨u, ?_, k2⟩
          have hi2 := (List.getElem?_eq_some_iff.1 hri).1
          have hf2 := (List.getElem?_eq_some_iff.1 hx2).1
          rw [g5 r (List.mem_of_getElem? hri)] at hf2
          have : (i + 1) * es ≤ rows.length * es := Nat.mul_le_mul_right _ hi2
          rw [Nat.add_mul] at this
          rw [List.getElem?_take, if_pos (by omega)]; exact k1
      obtain ⟨xs, hown, hxs⟩ := hown
      obtain ⟨v', w', r1, r2, r3, r4⟩ := run_append_own (P := P) w 0 xt ty el i z es bs hT.hu hi hz hsz hby hzs hT.pos vt0 rows.length xs hown ⟨b, o, none⟩ rows2.length c news n1 n2 n4 hml hb (Nat.zero_le _)
      have hall : ∀ r ∈ rows ++ rows2, r.length = es := by
        intro r hr2
        rcases List.mem_append.1 hr2 with h' | h'
        · cases hB : B n with
          | none => simp only [LR, hB] at hlr; rw [hlr] at h'; cases h'
          | some q => obtain ⟨_, _, _, _, _, g5, _⟩ := hok.row hl hB; exact g5 r h'
        · exact hes2 r h'
      have hboth : RowAt H (xs ++ news) es (rows ++ rows2) := by
        intro i2 r hri f x hx2
        by_cases hlt : i2 < rows.length
        · rw [List.getElem?_append_left hlt] at hri
          obtain ⟨u, k1, k2⟩ := hxs i2 r hri f x hx2
          exact ⟨u, by rw [List.getElem?_append_left (List.getElem?_eq_some_iff.1 k1).1]; exact k1, k2⟩
        · rw [List.getElem?_append_right (by omega)] at hri
          obtain ⟨u, k1, k2⟩ := n3 _ r hri f x hx2
          refine ⟨u, ?_, k2⟩
          have hq : rows.length * es ≤ i2 * es := Nat.mul_le_mul_right _ (by omega)
          rw [List.getElem?_append_right (by rw [hown.1]; omega), hown.1, ← k1]
          congr 1
          rw [Nat.sub_mul]; omega
      obtain ⟨q1, q2⟩ := r2
      have hkk : ∀ k, k < w.heap.size → (∀ c, B n ≠ some (k, c)) → w'.heap[k]? = w.heap[k]? := by
        intro k hk hnk
        refine r3.block k hk ?_
        rw [hblk]
        intro e1
        cases hB : B n with
        | none => rw [hB] at e1; cases e1
        | some q => obtain ⟨b2, cc⟩ := q; rw [hB] at e1; simp at e1; exact hnk cc (by rw [hB, e1])
      rcases q2 with ⟨_, hn0⟩ | ⟨g, cap, cur, rfl, _, k2, k3, k4, k5, k6⟩
      · omega
      · refine ⟨_, w', some (g, cap), hvt0.trans r1, ?_, ?_, r3.os, r3.tape, r3.output, r3.size, hkk, ?_⟩
        · simp [CR]
        · simp only [LR, if_true]
          refine ⟨cur.toList, k2, by simpa using k5, by simpa using k3, k4, hall, ?_⟩
          refine (rowAt_iff (by simpa using k5) (by simpa using k3) hall).2 fun i2 r hri f x hx2 => ?_
          obtain ⟨u, j1, j2⟩ := hboth i2 r hri f x hx2
          refine ⟨u, ?_, j2⟩
          rw [← k6, List.getElem?_take] at j1
          split at j1
          · exact j1
          · cases j1
        · rintro b3 c3 e3
          injection e3 with e3
          injection e3 with e3 e4
          subst e3 e4
          refine ⟨(Array.getElem?_eq_some_iff.1 k2).1, ?_⟩
          rcases append_fresh hT.hu hi hz hsz hown hp n1 n2 n4 hml (by rw [hby]; exact hb) r1 g rfl with hh | hh
          · rw [hblk] at hh
            cases hB : B n with
            | none => rw [hB] at hh; cases hh
            | some q => obtain ⟨b2, cc⟩ := q; rw [hB] at hh; simp at hh; exact .inl ⟨cc, by rw [hh]⟩
          · exact .inr (by omega)
  obtain ⟨v, w', p, r1, r2, r3, r4, r5, r6, r7, r8, r9⟩ := main
  have hok' : Ok e ⟨f.s, fun m => if m = n' then some (.row el es (rows ++ rows2)) else if m = n then none else f.l m⟩ H (fun x => if x = n' then p else B x) a w' :=
    hok.renew hl hnew p r4 r5 r6 r7 r8 r9 r3 (fun _ => rfl) (fun _ => rfl)
  refine wp_of_run (d := d) rfl ?_ ⟨H, _, hok'.put (x := some (.t (.c (.own n' (rows.length + rows2.length))))) (hb0.1 (d, some (.t (.c (.own n' (rows.length + rows2.length))))) (by simp)) (app1_s f d _ _ rfl) (fun m => ?_) (fun y hy => by injection hy with hy; subst hy; exact r2)⟩
  · generalize a.eval = ρ at r1 ⊢
    have e1 : (Array.map ρ #[.tmp t, .tmp u]) = #[ρ (.tmp t), ρ (.tmp u)] := by simp
    simp only [execOp, resolve, e1, Sem.run_bind, Sem.run_pure, Result.andThen_ok, invoke, builtin, r1]
  · simp only [F.app, List.lookup]
    by_cases e1 : m = n'
    · simp [e1]
    · have g1 : (m == n') = false := by simpa using e1
      by_cases e2 : m = n
      · subst e2; simp [g1, e1]
      · have g2 : (m == n) = false := by simpa using e2
        simp [g1, g2, e1, e2]
end
end Go.Proofs.Ytekhnajfdaknnaa.S
