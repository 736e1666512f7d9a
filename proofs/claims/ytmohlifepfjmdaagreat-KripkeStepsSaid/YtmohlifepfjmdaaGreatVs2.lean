/-
  Part 2 of the proof of the statement KripkeSteps: the walk through the program and the references lifted to the given row. It holds for every input.
-/
import Derived.Test.YtmohlifepfjmdaaGreatVs1
import Derived.Laws.AppendOwn
import Derived.Great.BuildSlice
import Derived.ProofKit
import Derived.OpenShut
import Derived.ShutString
import Derived.ChangeOld
import Derived.Below
import Derived.Deep.Slices
import Derived.ChangeArms
import Derived.Laws.Cover3
import Derived.Shelf.Small.Bits
import Derived.Test.YtmohlifepfjmdaaGreatProg
import Derived.Laws.Bits64b
import Derived.Deep.RegionWith
import Derived.Deep.LoopGhost
set_option maxRecDepth 100000
section
namespace Go.Proofs.YtmohlifepfjmdaaGreat.S
open Go.RowKit

/-- a type: its size; is it a struct; its fields; its zero -/
structure Ty where
  n : Nat
  agg : Bool
  fs : List (Nat × Nat × Bool)
  z : List C
  k : Nat
abbrev Tb := List (Nat × Ty)
def ikOf : Nat → Option IntKind
  | 10 => some .i8
  | 11 => some .i16
  | 12 => some .i32
  | 13 => some .i64
  | 14 => some .u8
  | 15 => some .u16
  | 16 => some .u32
  | 17 => some .u64
  | _ => none
structure TyOk (P : Program) (t : TypeId) (y : Ty) : Prop where
  sz : Sz P t y.n y.agg
  fd : ∀ k off n ag, y.fs[k]? = some (off, n, ag) → n ≠ 0 ∧ Fd P t k off n ag
  z : y.z ≠ [] → Zero P t y.z
  pl : y.fs ≠ [] → Places P t (y.fs.map fun f => (f.1, f.2.1))
  k1 : y.k = 1 → ∃ el, P.underlying t = some (.slice el)
  k2 : y.k = 2 → P.underlying t = some .string
  k3 : y.k = 3 → P.underlying t = some .bool
  ki : ∀ k, ikOf y.k = some k → P.underlying t = some (.int k)
def TbOk (P : Program) : Tb → Prop
  | [] => True
  | (t, y) :: tb => TyOk P t y ∧ TbOk P tb
theorem TbOk.get {P : Program} : ∀ {tb : Tb}, TbOk P tb → ∀ {t : Nat} {y : Ty}, tb.lookup t = some y → TyOk P t y
 | (t', y') :: tb, h, t, y, hl => by
  simp only [List.lookup] at hl
  cases hc : (t == t') with
  | true => rw [hc] at hl; simp at hl hc; subst hl hc; exact h.1
  | false => rw [hc] at hl; exact TbOk.get h.2 hl

def FdL (P : Program) (t : TypeId) : Nat → List (Nat × Nat × Bool) → Prop
  | _, [] => True
  | j, (off, n, ag) :: r => (n ≠ 0 ∧ Fd P t j off n ag) ∧ FdL P t (j + 1) r
theorem FdL.get {P : Program} {t : TypeId} : ∀ {fs : List (Nat × Nat × Bool)} {j : Nat}, FdL P t j fs → ∀ k off n ag, fs[k]? = some (off, n, ag) → n ≠ 0 ∧ Fd P t (j + k) off n ag
 | (o, m, g) :: r, j, h, 0, off, n, ag, hk => by simp at hk; obtain ⟨rfl, rfl, rfl⟩ := hk; exact h.1
 | (o, m, g) :: r, j, h, k + 1, off, n, ag, hk => by
  have := FdL.get h.2 k off n ag (by simpa using hk)
  rwa [show j + 1 + k = j + (k + 1) by omega] at this
theorem TyOk.st {P : Program} {t : TypeId} {n : Nat} {fs : List (Nat × Nat × Bool)} {z : List C} {fields : Array Field} (hu : P.underlying t = some (.struct fields)) (hs : (P.info? t).map (·.size) = some n) (hf : FdL P t 0 fs) (hz : Zero P t z) (hp : Places P t (fs.map fun f => (f.1, f.2.1))) : TyOk P t ⟨n, true, fs, z, 0⟩ :=
 ⟨Sz.mk' hs hu _ rfl, fun k off n ag h => (by have := FdL.get hf k off n ag h; rwa [Nat.zero_add] at this), fun _ => hz, fun _ => hp, fun h => (by cases h), fun h => (by cases h), fun h => (by cases h), fun k h => (by cases h)⟩
theorem TyOk.bl {P : Program} {t : TypeId} (hu : P.underlying t = some .bool) (hs : (P.info? t).map (·.size) = some 1) (hz : Zero P t [.d (.raw (.bool false))]) : TyOk P t ⟨1, false, [], [.d (.raw (.bool false))], 3⟩ :=
 ⟨Sz.mk' hs hu _ rfl, fun k off n ag h => (by simp at h), fun _ => hz, fun h => absurd rfl h, fun h => (by cases h), fun h => (by cases h), fun _ => hu, fun k h => (by cases h)⟩
theorem TyOk.str {P : Program} {t : TypeId} {z : C} (hu : P.underlying t = some .string) (hs : (P.info? t).map (·.size) = some 1) (hz : Zero P t [z]) : TyOk P t ⟨1, false, [], [z], 2⟩ :=
 ⟨Sz.mk' hs hu _ rfl, fun k off n ag h => (by simp at h), fun _ => hz, fun h => absurd rfl h, fun h => (by cases h), fun _ => hu, fun h => (by cases h), fun k h => (by cases h)⟩
theorem TyOk.slc {P : Program} {t el : TypeId} {z : C} (hu : P.underlying t = some (.slice el)) (hs : (P.info? t).map (·.size) = some 1) (hz : Zero P t [z]) : TyOk P t ⟨1, false, [], [z], 1⟩ :=
 ⟨Sz.mk' hs hu _ rfl, fun k off n ag h => (by simp at h), fun _ => hz, fun h => absurd rfl h, fun _ => ⟨_, hu⟩, fun h => (by cases h), fun h => (by cases h), fun k h => (by cases h)⟩
theorem TyOk.int {P : Program} {t : TypeId} {k : IntKind} {c : Nat} (hu : P.underlying t = some (.int k)) (hc : ikOf c = some k) (hs : (P.info? t).map (·.size) = some 1) (hz : Zero P t [.d (.raw (.int k 0))]) : TyOk P t ⟨1, false, [], [.d (.raw (.int k 0))], c⟩ :=
 ⟨Sz.mk' hs hu _ rfl, fun k off n ag h => (by simp at h), fun _ => hz, fun h => absurd rfl h, fun h => (by simp only at h; subst h; cases hc), fun h => (by simp only at h; subst h; cases hc), fun h => (by simp only at h; subst h; cases hc), fun j h => (by simp only at h; rw [hc] at h; injection h with h; subst h; exact hu)⟩
theorem nsl_len (zs : List Nat) : lenC (.d (nsl zs)) = some zs.length := by simp [lenC, nsl]
theorem mkZ {v : Int} {m : Nat} (h : (ZI.of v).abs.length ≤ m) : ∃ r : ZI, r = ZI.of v ∧ r.val = v ∧ Lb r.abs ∧ r.abs.length ≤ m := ⟨_, rfl, ZI.val_of v, ZI.lb_of v, h⟩
theorem mkN {v m : Nat} (h : v < pw m) : ∃ r : List Nat, r = lbs v ∧ Go.Proofs.YtmohlifepfjmdaaGreat.val r = v ∧ Lb r ∧ r.length ≤ m := ⟨_, rfl, lbs_val v, (lbs_canon v).1, lbs_len h⟩
theorem u32_id {t : Int} (h1 : 0 ≤ t) (h2 : t ≤ 4294967295) : IntKind.u32.wrap t = t := Go.IntWalk.u32_in t ⟨h1, h2⟩
/-- what is told of an operation -/
inductive Orc (P : Program) where
  | call {k : FuncId} {ps qs : List (Nat × L)} {args : List V} {res : V} (h : Fn P k ps args res qs) (b : Bodied P k)
  | add (k : IntKind) {m n : Int} (h : k.wrap (m + n) = m + n)
  | sub (k : IntKind) {m n : Int} (h : k.wrap (m - n) = m - n)
  | mul (k : IntKind) {m n : Int} (h : k.wrap (m * n) = m * n)
  | cmp {op : BinOp} {m n : Int} {b : Bool} (k : IntKind) (h : cmpB op m n = b)
  | cmpb (op : BinOp) {m n b : Bool} (h : (op = .eql ∧ b = (m == n)) ∨ (op = .neq ∧ b = (m != n)))
  | conv (k k' : IntKind) {m : Int} (h : k'.wrap m = m)
  | neg (k : IntKind) {m : Int} (h : k.wrap (-m) = -m)
  | len {c : C} {n : Nat} (h : lenC c = some n)
  | gen (d : Option Nat) (op : Op) (i : I) (h : ∀ ty pos af gd, OpOk P ⟨d, op, ty, pos, af, gd⟩ i)

def eqC : Value → Value → Bool
  | .int k a, .int l b => (k == l) && (a == b)
  | .bool a, .bool b => a == b
  | .string a, .string b => a.data.toList == b.data.toList
  | .slice none a c, .slice none b d => Nat.beq a b && Nat.beq c d
  | _, _ => false
theorem eqC_spec {u v : Value} (h : eqC u v = true) : u = v ∧ flat v = true := by
 cases u <;> cases v <;> first
  | (simp [eqC] at h; done)
  | (rename_i a b; simp [eqC] at h; subst h; exact ⟨rfl, rfl⟩)
  | (rename_i a b; simp only [eqC, beq_iff_eq] at h; cases a; cases b; simp only at h; rename_i x y; cases x; cases y; simp only at h; subst h; exact ⟨rfl, rfl⟩)
  | (rename_i a b c d; simp [eqC] at h; obtain ⟨h1, h2⟩ := h; subst h1 h2; exact ⟨rfl, rfl⟩)
  | (rename_i a b c d e f; cases a <;> cases d <;> first | (simp [eqC] at h; done) | (simp only [eqC, Bool.and_eq_true] at h; rw [Nat.eq_of_beq_eq_true h.1, Nat.eq_of_beq_eq_true h.2]; exact ⟨rfl, rfl⟩))

def opdW (x : Operand) (v : V) : Option (List (Nat × V)) :=
  match x with
  | .tmp t => some [(t, v)]
  | .const c => match v with
    | .t (.c (.d (.raw u))) => if eqC u c = true then some [] else none
    | _ => none
  | .func g => match v with
    | .t (.c (.fn (.func g') [] [])) => if Nat.beq g g' = true then some [] else none
    | _ => none
  | _ => none
theorem opdW_spec {x : Operand} {v : V} {rs : List (Nat × V)} (h : opdW x v = some rs) : OV x v rs := by
 unfold opdW at h
 split at h
 ·injection h with h; subst h; exact .tmp _ _
 ·split at h
  ·split at h
   ·rename_i hc
    injection h with h; subst h
    obtain ⟨rfl, hf⟩ := eqC_spec hc
    exact .const _ hf
   ·cases h
  ·cases h
 ·split at h
  ·split at h
   ·rename_i hc
    injection h with h; subst h
    rw [← Nat.eq_of_beq_eq_true hc]
    exact .func _
   ·cases h
  ·cases h
 ·cases h
def opdWs : List Operand → List V → Option (List (Nat × V))
  | [], [] => some []
  | x :: xs, v :: vs => match opdW x v with
    | some r => match opdWs xs vs with
      | some rs => some (r ++ rs)
      | none => none
    | none => none
  | _, _ => none
theorem opdWs_spec : ∀ {xs : List Operand} {vs : List V} {rs : List (Nat × V)}, opdWs xs vs = some rs → OVs xs vs rs
 | [], [], rs, h => by simp [opdWs] at h; subst h; exact .nil
 | x :: xs, v :: vs, rs, h => by
  simp only [opdWs] at h
  split at h
  ·rename_i r hr
   split at h
   ·rename_i rs' hrs
    injection h with h; subst h
    exact .cons (opdW_spec hr) (opdWs_spec hrs)
   ·cases h
  ·cases h
 | [], _ :: _, rs, h => by simp [opdWs] at h
 | _ :: _, [], rs, h => by simp [opdWs] at h
def opdI (f : F) (x : Operand) : Option (V × List (Nat × V)) :=
  match x with
  | .tmp t => match f.s t with
    | some v => some (v, [(t, v)])
    | none => none
  | .const v => if flat v = true then some (.t (.c (.d (.raw v))), []) else none
  | .func g => some (.t (.c (.fn (.func g) [] [])), [])
  | _ => none
theorem opdI_spec {f : F} {x : Operand} {v : V} {rs : List (Nat × V)} (h : opdI f x = some (v, rs)) : OV x v rs := by
 unfold opdI at h
 split at h
 ·split at h
  ·injection h with h; injection h with h1 h2; subst h1 h2; exact .tmp _ _
  ·cases h
 ·split at h
  ·rename_i hf; injection h with h; injection h with h1 h2; subst h1 h2; exact .const _ hf
  ·cases h
 ·injection h with h; injection h with h1 h2; subst h1 h2; exact .func _
 ·cases h
def opdP (f : F) : List (Nat × Operand) → Option (List (Nat × T) × List (Nat × V))
  | [] => some ([], [])
  | (i, x) :: xs => match opdI f x with
    | some (.t v, r) => match opdP f xs with
      | some (vs, rs) => some ((i, v) :: vs, r ++ rs)
      | none => none
    | _ => none
theorem opdP_spec {f : F} : ∀ {xs : List (Nat × Operand)} {vs : List (Nat × T)} {rs : List (Nat × V)}, opdP f xs = some (vs, rs) → OPs xs vs rs
 | [], vs, rs, h => by simp [opdP] at h; obtain ⟨rfl, rfl⟩ := h; exact .nil
 | (i, x) :: xs, vs, rs, h => by
  simp only [opdP] at h
  split at h
  ·rename_i v r hr
   split at h
   ·rename_i vs' rs' hrs
    injection h with h; injection h with h1 h2; subst h1 h2
    exact .cons (opdI_spec hr) (opdP_spec hrs)
   ·cases h
  ·cases h

theorem Op.fieldAddrE {P : Program} {d t k off m : Nat} {ag : Bool} {xs : List D} {xt ty : TypeId} {pos af gd} (hf : Fd P xt k off m ag) (hm : m ≠ 0) : OpOk P ⟨some d, .fieldAddr xt (.tmp t) k, ty, pos, af, gd⟩ { rs := [(t, .t (.c (.el xs)))], ws := [(d, some (.t (.c (.el (xs.drop off)))))] } :=
 OpOk.value d _ rfl rfl rfl fun e f H B a w hok hr => by
  obtain ⟨b, o, arr, ty', fz, hb, hu, hx⟩ : CR H B (.el xs) (a.eval (.tmp t)) := hok.slot t _ (hr.1 (t, .t (.c (.el xs))) (by simp))
  obtain ⟨fields, fd, g1, g2, rfl, g4⟩ := hf.ex
  refine ⟨.pointer (some ⟨b, o + fd.offset, none⟩), ?_, b, o + fd.offset, arr, ty', fz, hb, rfl, fun j hj => ?_⟩
  ·generalize a.eval = ρ at hu ⊢
   simp only [execOp, hu, Instr.fieldAt, Sem.run_bind, run_underlying g1, Result.andThen_ok, g2, Instr.sureAddr, Sem.run_pure, fieldPlace, g4.sizeOf, hm, if_false, Addr.add_mid]
  ·have hj' : fd.offset + j < xs.length := by rw [List.length_drop] at hj; omega
   obtain ⟨u, h1, h2⟩ := hx (fd.offset + j) hj'
   exact ⟨u, by rw [Nat.add_assoc]; exact h1, by rw [List.getElem_drop]; exact h2⟩
theorem Op.loadE_agg {P : Program} {d t m : Nat} {xs ys : List D} {xt ty : TypeId} {pos af gd} (hs : Sz P xt m true) (h : xs.take m = ys) (hm : ys.length = m) : OpOk P ⟨some d, .load xt (.tmp t), ty, pos, af, gd⟩ { rs := [(t, .t (.c (.el xs)))], ws := [(d, some (.t (.agg (ys.map C.d))))] } :=
 OpOk.value d _ rfl rfl rfl fun e f H B a w hok hr => by
  obtain ⟨b, o, arr, ty', fz, hb, hu, hx⟩ : CR H B (.el xs) (a.eval (.tmp t)) := hok.slot t _ (hr.1 (t, .t (.c (.el xs))) (by simp))
  have hw := hok.sat b _ hb
  have hml : m ≤ xs.length := by rw [← hm, ← h, List.length_take]; omega
  have hfill : ∀ j, j < m → ∃ u, arr.toList[o + j]? = some u ∧ ∃ hj : j < xs.length, DR H xs[j] u := by
   intro j hj
   obtain ⟨u, h1, h2⟩ := hx j (by omega)
   exact ⟨u, by simpa using h1, by omega, h2⟩
  have hlen : ((arr.toList.drop o).take m).length = m := by
   rw [List.length_take, List.length_drop]
   cases m with
   | zero => omega
   | succ m =>
    obtain ⟨u, g1, _⟩ := hfill m (by omega)
    have := (List.getElem?_eq_some_iff.1 g1).1
    omega
  refine ⟨.agg ((arr.toList.drop o).take m).toArray, ?_, ⟨_, rfl, ?_⟩⟩
  ·generalize a.eval = ρ at hu ⊢
   have h8 := run_load_agg (P := P) hs (w := w) (b := b) (o := o) (cs := (arr.toList.drop o).take m) hlen (fun j v hv => by
    refine cell_of (arr := arr.toList) (by rw [hw]) ?_
    rw [List.getElem?_take] at hv
    split at hv
    ·rw [List.getElem?_drop] at hv; exact hv
    ·cases hv)
   simp only [execOp, hu, Instr.loadAt, Instr.sureAddr, Sem.run_bind, Sem.run_pure, Result.andThen_ok, h8]
  ·subst h
   have key : ∀ (n : Nat) (zs : List D) (k : Nat), (∀ j, j < zs.length → ∃ u, arr.toList[o + k + j]? = some u ∧ ∃ hj : j < zs.length, DR H zs[j] u) → n = zs.length → All2 (CR H B) (zs.map C.d) ((arr.toList.drop (o + k)).take n) := by
    intro n zs
    induction zs generalizing n with
    | nil => intro k _ hn; subst hn; simp [All2]
    | cons z zs ih =>
     intro k hz hn
     subst hn
     obtain ⟨u, h1, _, h2⟩ := hz 0 (by simp)
     have hlt : o + k < arr.toList.length := (List.getElem?_eq_some_iff.1 (by simpa using h1)).1
     rw [List.drop_eq_getElem_cons hlt, List.length_cons, List.take_succ_cons]
     refine ⟨?_, ih _ (k + 1) (fun j hj => ?_) rfl⟩
     ·rw [Nat.add_zero, List.getElem?_eq_getElem hlt] at h1
      injection h1 with h1
      rw [h1]; exact h2
     ·obtain ⟨u, h3, hj', h4⟩ := hz (j + 1) (by simp; omega)
      exact ⟨u, by rw [← h3]; congr 1; omega, hj, by simpa using h4⟩
   have hm' : m = (xs.take m).length := hm.symm
   refine key m (xs.take m) 0 (fun j hj => ?_) hm'
   obtain ⟨u, h1, hj', h2⟩ := hfill j (by omega)
   exact ⟨u, h1, hj, by rw [List.getElem_take]; exact h2⟩
theorem Op.loadE_c {P : Program} {d t m : Nat} {xs : List D} {x : D} {xt ty : TypeId} {pos af gd} (hs : Sz P xt m false) (h : xs[0]? = some x) : OpOk P ⟨some d, .load xt (.tmp t), ty, pos, af, gd⟩ { rs := [(t, .t (.c (.el xs)))], ws := [(d, some (.t (.c (.d x))))] } :=
 OpOk.value d _ rfl rfl rfl fun e f H B a w hok hr => by
  obtain ⟨b, o, arr, ty', fz, hb, hu, hx⟩ : CR H B (.el xs) (a.eval (.tmp t)) := hok.slot t _ (hr.1 (t, .t (.c (.el xs))) (by simp))
  obtain ⟨h0, rfl⟩ := List.getElem?_eq_some_iff.1 h
  obtain ⟨u, h1, h2⟩ := hx 0 h0
  refine ⟨u, ?_, h2⟩
  have h8 := run_load_c (P := P) hs (cell_of (arr := arr.toList) (o := o) (v := u) (by rw [hok.sat b _ hb]) (by simpa using h1))
  generalize a.eval = ρ at hu ⊢
  simp only [execOp, hu, Instr.loadAt, Instr.sureAddr, Sem.run_bind, Sem.run_pure, Result.andThen_ok, h8]

def one (d : Nat) (v : V) (rs : List (Nat × V)) : I := { rs := rs, ws := [(d, some v)] }
def instS (tb : Tb) (f : F) (nx : Nat) (o : Oper) : Option (I × Nat) :=
  match o.op, o.dst with
  | .move x, some d => match opdI f x with
    | some (v, rs) => some (one d v rs, nx)
    | none => none
  | .assign x, some d => match opdI f x with
    | some (v, rs) => some (one d v rs, nx)
    | none => none
  | .box _ x, some d => match opdI f x with
    | some (.t v, rs) => some ({ rs := rs, ws := [(d, some (vp nx 0))], wl := [(nx, some (.box (cellsOf v)))], nw := [nx] }, nx + 1)
    | _ => none
  | .alloc t, some d => match tb.lookup t with
    | some y => match y.z with
      | [] => none
      | c :: cs => some ({ ws := [(d, some (vp nx 0))], wl := [(nx, some (.box (c :: cs)))], nw := [nx] }, nx + 1)
    | none => none
  | .fieldAddr t (.tmp x) k, some d => match f.s x, tb.lookup t with
    | some (.t (.c (.ptr n p))), some y => match y.fs[k]? with
      | some (off, _, _) => some ({ rs := [(x, vp n p)], ws := [(d, some (vp n (p + off)))] }, nx)
      | none => none
    | some (.t (.c (.el xs))), some y => match y.fs[k]? with
      | some (off, _, _) => some ({ rs := [(x, .t (.c (.el xs)))], ws := [(d, some (.t (.c (.el (xs.drop off)))))] }, nx)
      | none => none
    | _, _ => none
  | .load t (.tmp x), some d => match f.s x, tb.lookup t with
    | some (.t (.c (.ptr n p))), some y => match f.l n with
      | some (.box cs) => if y.agg = true then (if Nat.beq ((cs.drop p).take y.n).length y.n = true then some ({ rs := [(x, vp n p)], rl := [(n, .box cs)], ws := [(d, some (.t (.agg ((cs.drop p).take y.n))))] }, nx) else none)
        else match cs[p]? with
          | some c => some ({ rs := [(x, vp n p)], rl := [(n, .box cs)], ws := [(d, some (.t (.c c)))] }, nx)
          | none => none
      | _ => none
    | some (.t (.c (.el xs))), some y => if y.agg = true then (if Nat.beq (xs.take y.n).length y.n = true then some ({ rs := [(x, .t (.c (.el xs)))], ws := [(d, some (.t (.agg ((xs.take y.n).map C.d))))] }, nx) else none)
      else match xs[0]? with
        | some c => some ({ rs := [(x, .t (.c (.el xs)))], ws := [(d, some (.t (.c (.d c))))] }, nx)
        | none => none
    | _, _ => none
  | .store t (.tmp x) v, none => match f.s x, tb.lookup t, opdI f v with
    | some (.t (.c (.ptr n p))), some y, some (.t v, rs) => match f.l n with
      | some (.box cs) => if Nat.beq (cellsOf v).length y.n = true then (if Nat.ble (p + y.n) cs.length = true then some ({ rs := (x, vp n p) :: rs, rl := [(n, .box cs)], wl := [(n, some (.box (putL cs p (cellsOf v))))] }, nx) else none) else none
      | _ => none
    | _, _, _ => none
  | .field t (.tmp x) k, some d => match f.s x, tb.lookup t with
    | some (.t (.agg cs)), some y => match y.fs[k]? with
      | some (off, n, true) => some ({ rs := [(x, .t (.agg cs))], ws := [(d, some (.t (.agg ((cs.drop off).take n))))] }, nx)
      | some (off, _, false) => match cs[off]? with
        | some c => some ({ rs := [(x, .t (.agg cs))], ws := [(d, some (.t (.c c)))] }, nx)
        | none => none
      | none => none
    | _, _ => none
  | .extract (.tmp x) k, some d => match f.s x with
    | some (.tup xs) => match xs[k]? with
      | some v => some ({ rs := [(x, .tup xs)], ws := [(d, some (.t v))] }, nx)
      | none => none
    | _ => none
  | .build t ps, some d => match tb.lookup t, opdP f ps.toList with
    | some y, some (vs, rs) => match y.z, y.fs with
      | c :: cs, g :: gs => match fillC ((g :: gs).map fun f => (f.1, f.2.1)) (c :: cs) vs with
        | some out => some ({ rs := rs, ws := [(d, some (.t (.agg out)))] }, nx)
        | none => none
      | _, _ => none
    | _, _ => none
  | .pick (.tmp t) x y, some d => match f.s t with
    | some (.t (.c (.d (.raw (.bool true))))) => match opdI f x with
      | some (v, rs) => some (one d v ((t, vb true) :: rs), nx)
      | none => none
    | some (.t (.c (.d (.raw (.bool false))))) => match opdI f y with
      | some (v, rs) => some (one d v ((t, vb false) :: rs), nx)
      | none => none
    | _ => none
  | .unOp .not _ x, some d => match opdI f x with
    | some (.t (.c (.d (.raw (.bool b)))), rs) => some (one d (vb (!b)) rs, nx)
    | _ => none
  | .binOp op t x y _, some d => if isCmp op = true then (match opdI f x, opdI f y with
    | some (.t (.c (.d (.raw (.int k m)))), rs), some (.t (.c (.d (.raw (.int l n)))), rs') => if (k == l) = true then some (one d (vb (cmpB op m n)) (rs ++ rs'), nx) else none
    | some (.t (.c (.d (.raw (.bool m)))), rs), some (.t (.c (.d (.raw (.bool n)))), rs') => match tb.lookup t with
      | some y => if Nat.beq y.k 3 = true then (match op with
        | .eql => some (one d (vb (m == n)) (rs ++ rs'), nx)
        | .neq => some (one d (vb (m != n)) (rs ++ rs'), nx)
        | _ => none) else none
      | none => none
    | _, _ => none) else none
  | .call { callee := .builtin .len, args := ⟨[.tmp x]⟩, argTypes := ⟨[t]⟩ }, some d => match f.s x, tb.lookup t with
    | some (.t (.c c)), some y => if Nat.beq y.k 1 = true then (match lenC c with
      | some n => some ({ rs := [(x, .t (.c c))], ws := [(d, some (vi .i64 n))] }, nx)
      | none => none) else (match c with
      | .d (.raw (.string s)) => if Nat.beq y.k 2 = true then some ({ rs := [(x, vs s)], ws := [(d, some (vi .i64 s.size))] }, nx) else none
      | _ => none)
    | _, _ => none
  | _, _ => none
def instO {P : Program} (tb : Tb) (o : Oper) : Orc P → Option I
  | .call (k := k) (ps := ps) (qs := qs) (args := args) (res := res) _ _ => match o.op, o.dst with
    | .call { callee := .value (.func k'), args := ⟨xs⟩, .. }, some d => if Nat.beq k' k = true then (match opdWs xs args with
      | some rs => some (callI rs ps qs d res)
      | none => none) else none
    | _, _ => none
  | .add k (m := m) (n := n) _ => match o.op, o.dst with
    | .binOp .add _ x y _, some d => match opdW x (vi k m), opdW y (vi k n) with
      | some rs, some rs' => some (one d (vi k (m + n)) (rs ++ rs'))
      | _, _ => none
    | _, _ => none
  | .sub k (m := m) (n := n) _ => match o.op, o.dst with
    | .binOp .sub _ x y _, some d => match opdW x (vi k m), opdW y (vi k n) with
      | some rs, some rs' => some (one d (vi k (m - n)) (rs ++ rs'))
      | _, _ => none
    | _, _ => none
  | .mul k (m := m) (n := n) _ => match o.op, o.dst with
    | .binOp .mul _ x y _, some d => match opdW x (vi k m), opdW y (vi k n) with
      | some rs, some rs' => some (one d (vi k (m * n)) (rs ++ rs'))
      | _, _ => none
    | _, _ => none
  | .cmp (op := op) (m := m) (n := n) (b := b) k _ => match o.op, o.dst with
    | .binOp op' _ x y _, some d => if (op' == op) && isCmp op = true then (match opdW x (vi k m), opdW y (vi k n) with
      | some rs, some rs' => some (one d (vb b) (rs ++ rs'))
      | _, _ => none) else none
    | _, _ => none
  | .cmpb op (m := m) (n := n) (b := b) _ => match o.op, o.dst with
    | .binOp op' t x y _, some d => match tb.lookup t with
      | some ty => if Nat.beq ty.k 3 = true then (if (op' == op) = true then (match opdW x (vb m), opdW y (vb n) with
        | some rs, some rs' => some (one d (vb b) (rs ++ rs'))
        | _, _ => none) else none) else none
      | none => none
    | _, _ => none
  | .conv k k' (m := m) _ => match o.op, o.dst with
    | .convert s t x, some d => match tb.lookup s, tb.lookup t with
      | some ys, some yt => if (ikOf ys.k == some k) = true then (if (ikOf yt.k == some k') = true then (match opdW x (vi k m) with
        | some rs => some (one d (vi k' m) rs)
        | none => none) else none) else none
      | _, _ => none
    | _, _ => none
  | .neg k (m := m) _ => match o.op, o.dst with
    | .unOp .neg _ x, some d => match opdW x (vi k m) with
      | some rs => some (one d (vi k (-m)) rs)
      | none => none
    | _, _ => none
  | .len (c := c) (n := n) _ => match o.op, o.dst with
    | .call { callee := .builtin .len, args := ⟨[.tmp x]⟩, argTypes := ⟨[t]⟩ }, some d => match tb.lookup t with
      | some y => if Nat.beq y.k 1 = true then some (one d (vi .i64 n) [(x, .t (.c c))]) else none
      | none => none
    | _, _ => none
  | .gen _ _ i _ => some i
section
variable {P : Program}
theorem instS_ok {tb : Tb} (htb : TbOk P tb) {f : F} {nx : Nat} {o : Oper} {i : I} {nx' : Nat} (h : instS tb f nx o = some (i, nx')) : OpOk P o i := by
 obtain ⟨dst, op, ty, pos, af, gd⟩ := o
 unfold instS at h
 dsimp only at h
 split at h
 ·split at h
  ·rename_i hx; injection h with h; injection h with h1 h2; subst h1; exact Op.move (opdI_spec hx)
  ·cases h
 ·split at h
  ·rename_i hx; injection h with h; injection h with h1 h2; subst h1; exact Op.assign (opdI_spec hx)
  ·cases h
 ·split at h
  ·rename_i hx; injection h with h; injection h with h1 h2; subst h1; exact Op.box (opdI_spec hx) _ rfl
  ·cases h
 ·split at h
  ·rename_i y hy
   split at h
   ·cases h
   ·rename_i c cs hz
    injection h with h; injection h with h1 h2; subst h1
    have := (htb.get hy).z (by rw [hz]; simp)
    rw [hz] at this
    exact Op.allocZ this
  ·cases h
 ·split at h
  ·rename_i n p y hx hy
   split at h
   ·rename_i off m ag hf
    injection h with h; injection h with h1 h2; subst h1
    obtain ⟨h3, h4⟩ := (htb.get hy).fd _ _ _ _ hf
    exact Op.fieldAddr h4 h3 _ rfl
   ·cases h
  ·rename_i xs y hx hy
   split at h
   ·rename_i off m ag hf
    injection h with h; injection h with h1 h2; subst h1
    obtain ⟨h3, h4⟩ := (htb.get hy).fd _ _ _ _ hf
    exact Op.fieldAddrE h4 h3
   ·cases h
  ·cases h
 ·split at h
  ·rename_i n p y hx hy
   split at h
   ·rename_i cs hl
    split at h
    ·rename_i hag
     split at h
     ·rename_i hb
      injection h with h; injection h with h1 h2; subst h1
      have := (htb.get hy).sz
      rw [hag] at this
      exact Op.load_agg this rfl (Nat.eq_of_beq_eq_true hb)
     ·cases h
    ·rename_i hag
     split at h
     ·rename_i c hc
      injection h with h; injection h with h1 h2; subst h1
      have := (htb.get hy).sz
      rw [show y.agg = false by simpa using hag] at this
      exact Op.load_c this hc
     ·cases h
   ·cases h
  ·rename_i xs y hx hy
   split at h
   ·rename_i hag
    split at h
    ·rename_i hb
     injection h with h; injection h with h1 h2; subst h1
     have := (htb.get hy).sz
     rw [hag] at this
     exact Op.loadE_agg this rfl (Nat.eq_of_beq_eq_true hb)
    ·cases h
   ·rename_i hag
    split at h
    ·rename_i c hc
     injection h with h; injection h with h1 h2; subst h1
     have := (htb.get hy).sz
     rw [show y.agg = false by simpa using hag] at this
     exact Op.loadE_c this hc
    ·cases h
  ·cases h
 ·split at h
  ·rename_i n p y v rs hx hy hv
   split at h
   ·rename_i cs hl
    split at h
    ·rename_i hb
     split at h
     ·rename_i hle
      injection h with h; injection h with h1 h2; subst h1
      exact Op.store (htb.get hy).sz (opdI_spec hv) (Nat.eq_of_beq_eq_true hb) hle rfl
     ·cases h
    ·cases h
   ·cases h
  ·cases h
 ·split at h
  ·rename_i cs y hx hy
   split at h
   ·rename_i off n hf
    injection h with h; injection h with h1 h2; subst h1
    exact Op.field_agg ((htb.get hy).fd _ _ _ _ hf).2 rfl
   ·rename_i off n hf
    split at h
    ·rename_i c hc
     injection h with h; injection h with h1 h2; subst h1
     exact Op.field_c ((htb.get hy).fd _ _ _ _ hf).2 hc
    ·cases h
   ·cases h
  ·cases h
 ·split at h
  ·rename_i xs hx
   split at h
   ·rename_i v hv
    injection h with h; injection h with h1 h2; subst h1
    exact Op.extract hv
   ·cases h
  ·cases h
 ·split at h
  ·rename_i ps d y vs rs hy hp
   split at h
   ·rename_i c cs g gs hz hf
    split at h
    ·rename_i out ho
     injection h with h; injection h with h1 h2; subst h1
     have h3 := (htb.get hy).z (by rw [hz]; simp)
     have h4 := (htb.get hy).pl (by rw [hf]; simp)
     rw [hz] at h3
     rw [hf] at h4
     exact Op.build h3 h4 (opdP_spec hp) out ho
    ·cases h
   ·cases h
  ·cases h
 ·split at h
  ·split at h
   ·rename_i v rs hx
    injection h with h; injection h with h1 h2; subst h1
    exact Op.pickT (opdI_spec hx)
   ·cases h
  ·split at h
   ·rename_i v rs hx
    injection h with h; injection h with h1 h2; subst h1
    exact Op.pickF (opdI_spec hx)
   ·cases h
  ·cases h
 ·split at h
  ·rename_i b rs hx
   injection h with h; injection h with h1 h2; subst h1
   exact Op.not (opdI_spec hx)
  ·cases h
 ·split at h
  ·rename_i hc
   split at h
   ·rename_i k m rs l n rs' hx hy
    split at h
    ·rename_i hkl
     injection h with h; injection h with h1 h2; subst h1
     obtain rfl : k = l := by simpa using hkl
     exact Op.cmp (opdI_spec hx) (opdI_spec hy) hc rfl
    ·cases h
   ·rename_i m rs n rs' hx hy
    split at h
    ·rename_i y ht
     split at h
     ·rename_i hk
      have hu := (htb.get ht).k3 (Nat.eq_of_beq_eq_true hk)
      split at h
      ·injection h with h; injection h with h1 h2; subst h1
       exact Op.cmpb hu (opdI_spec hx) (opdI_spec hy) (.inl ⟨rfl, rfl⟩)
      ·injection h with h; injection h with h1 h2; subst h1
       exact Op.cmpb hu (opdI_spec hx) (opdI_spec hy) (.inr ⟨rfl, rfl⟩)
      ·cases h
     ·cases h
    ·cases h
   ·cases h
  ·cases h
 ·split at h
  ·rename_i c y hx hy
   split at h
   ·rename_i hk
    split at h
    ·rename_i n hn
     injection h with h; injection h with h1 h2; subst h1
     obtain ⟨el, hu⟩ := (htb.get hy).k1 (Nat.eq_of_beq_eq_true hk)
     exact Op.len hu (OV.tmp _ _) hn
    ·cases h
   ·split at h
    ·split at h
     ·rename_i hk2
      injection h with h; injection h with h1 h2; subst h1
      exact Op.lens ((htb.get hy).k2 (Nat.eq_of_beq_eq_true hk2)) (OV.tmp _ _)
     ·cases h
    ·cases h
  ·cases h
 ·cases h
theorem instO_ok {tb : Tb} (htb : TbOk P tb) {o : Oper} {c : Orc P} {i : I} (h : instO tb o c = some i) (hg : ∀ d op i' hh, c = .gen d op i' hh → o.dst = d ∧ o.op = op) : OpOk P o i := by
 obtain ⟨dst, op, ty, pos, af, gd⟩ := o
 cases c with
 | call hf b =>
  simp only [instO] at h
  split at h
  ·split at h
   ·rename_i hk
    split at h
    ·rename_i rs hr
     injection h with h; subst h
     rw [Nat.eq_of_beq_eq_true hk]
     exact Op.call hf b (opdWs_spec hr)
    ·cases h
   ·cases h
  ·cases h
 | add k hr =>
  simp only [instO] at h
  split at h
  ·split at h
   ·rename_i h1 h2
    injection h with h; subst h
    exact Op.arith (opdW_spec h1) (opdW_spec h2) (.inl ⟨rfl, rfl⟩) hr
   ·cases h
  ·cases h
 | sub k hr =>
  simp only [instO] at h
  split at h
  ·split at h
   ·rename_i h1 h2
    injection h with h; subst h
    exact Op.arith (opdW_spec h1) (opdW_spec h2) (.inr (.inl ⟨rfl, rfl⟩)) hr
   ·cases h
  ·cases h
 | mul k hr =>
  simp only [instO] at h
  split at h
  ·split at h
   ·rename_i h1 h2
    injection h with h; subst h
    exact Op.arith (opdW_spec h1) (opdW_spec h2) (.inr (.inr ⟨rfl, rfl⟩)) hr
   ·cases h
  ·cases h
 | cmp k hb =>
  simp only [instO] at h
  split at h
  ·split at h
   ·rename_i hc
    simp only [Bool.and_eq_true] at hc
    split at h
    ·rename_i h1 h2
     injection h with h; subst h
     obtain rfl := eq_of_beq hc.1
     exact Op.cmp (opdW_spec h1) (opdW_spec h2) (by simpa using hc.2) hb
    ·cases h
   ·cases h
  ·cases h
 | cmpb op hb =>
  simp only [instO] at h
  split at h
  ·split at h
   ·rename_i ty hty
    split at h
    ·rename_i hk
     split at h
     ·rename_i hop
      split at h
      ·rename_i h1 h2
       injection h with h; subst h
       have hu := (htb.get hty).k3 (Nat.eq_of_beq_eq_true hk)
       have hop := eq_of_beq hop
       subst hop
       exact Op.cmpb hu (opdW_spec h1) (opdW_spec h2) hb
      ·cases h
     ·cases h
    ·cases h
   ·cases h
  ·cases h
 | conv k k' hr =>
  simp only [instO] at h
  split at h
  ·split at h
   ·rename_i ys yt hs ht
    split at h
    ·rename_i hk
     split at h
     ·rename_i hk'
      split at h
      ·rename_i h1
       injection h with h; subst h
       exact Op.conv ((htb.get ht).ki k' (by simpa using hk')) ((htb.get hs).ki k (by simpa using hk)) (opdW_spec h1) hr
      ·cases h
     ·cases h
    ·cases h
   ·cases h
  ·cases h
 | neg k hr =>
  simp only [instO] at h
  split at h
  ·split at h
   ·rename_i h1
    injection h with h; subst h
    exact Op.neg (opdW_spec h1) rfl hr
   ·cases h
  ·cases h
 | len hn =>
  simp only [instO] at h
  split at h
  ·split at h
   ·rename_i y hy
    split at h
    ·rename_i hk
     injection h with h; subst h
     obtain ⟨el, hu⟩ := (htb.get hy).k1 (Nat.eq_of_beq_eq_true hk)
     exact Op.len hu (OV.tmp _ _) hn
    ·cases h
   ·cases h
  ·cases h
 | gen d op' i' hh =>
  simp only [instO] at h
  injection h with h; subst h
  obtain ⟨h1, h2⟩ := hg d op' i' hh rfl
  simp only at h1 h2
  subst h1 h2
  exact hh ty pos af gd

def run1 (tb : Tb) (ops : Array Oper) (f : F) (nx : Nat) (o : Oper) (c : Option (Orc P)) : Option (I × Nat) :=
  let go : Option (I × Nat) := match c with
    | some c => match instO tb o c with
      | some i => some (i, nx)
      | none => none
    | none => instS tb f nx o
  match o.guard with
  | none => go
  | some (g, b) => match (ops[g]?).bind (·.dst) with
    | none => none
    | some d => match f.s d with
      | some (.t (.c (.d (.raw (.bool c))))) => if (c == b) = true then (match go with
          | some (i, n) => some (i.also d (gv c), n)
          | none => none)
        else some ({ rs := [(d, gv c)], ws := o.dst.toList.map fun t => (t, some (.tup [])) }, nx)
      | some (.tup []) => some ({ rs := [(d, .tup [])], ws := o.dst.toList.map fun t => (t, some (.tup [])) }, nx)
      | _ => none
theorem run1_ok {tb : Tb} (htb : TbOk P tb) {ops : Array Oper} {f : F} {nx : Nat} {o : Oper} {c : Option (Orc P)} {i : I} {nx' : Nat} (h : run1 tb ops f nx o c = some (i, nx')) (hg : ∀ d op i' hh, c = some (.gen d op i' hh) → o.dst = d ∧ o.op = op) : Does P ops o i := by
 have hgo : ∀ j m, (match c with
  | some c => match instO tb o c with
   | some i => some (i, nx)
   | none => none
  | none => instS tb f nx o) = some (j, m) → OpOk P o j := by
  intro j m hj
  cases c with
  | none => exact instS_ok htb hj
  | some c =>
   simp only at hj
   split at hj
   ·rename_i i' hi
    injection hj with hj; injection hj with h1 h2; subst h1
    exact instO_ok htb hi fun d op i2 hh e => hg d op i2 hh (by rw [e])
   ·cases hj
 unfold run1 at h
 dsimp only at h
 split at h
 ·rename_i hgd
  exact .run hgd (hgo _ _ h)
 ·rename_i g b hgd
  split at h
  ·cases h
  ·rename_i d hd
   split at h
   ·rename_i c' hc'
    split at h
    ·rename_i hcb
     obtain rfl : c' = b := by simpa using hcb
     split at h
     ·rename_i i' n' hi
      injection h with h; injection h with h1 h2; subst h1
      exact .runG g c' d hgd hd (by simp [I.also]) (hgo _ _ hi).also
     ·cases h
    ·rename_i hcb
     injection h with h; injection h with h1 h2; subst h1
     have : c' = !b := by cases c' <;> cases b <;> simp at hcb ⊢
     subst this
     exact .skip g b d hgd hd (by simp) rfl rfl rfl
   ·injection h with h; injection h with h1 h2; subst h1
    exact .skip2 g b d hgd hd (by simp) rfl rfl rfl
   ·cases h
def insts (tb : Tb) (ops : Array Oper) : F → Nat → Nat → List Oper → List (Nat × Orc P) → Option (List I)
  | _, _, _, [], _ => some []
  | f, nx, j, o :: os, cs => match run1 tb ops f nx o (cs.lookup j) with
    | some (i, nx') => match insts tb ops (f.app i) nx' (j + 1) os cs with
      | some is => some (i :: is)
      | none => none
    | none => none
def gens (os : List Oper) : List (Nat × Orc P) → List ((Option Nat × Op) × (Option Nat × Op))
  | [] => []
  | (j, .gen d op _ _) :: cs => ((((os[j]?).map (·.dst)).getD none, ((os[j]?).map (·.op)).getD default), (d, op)) :: gens os cs
  | _ :: cs => gens os cs
theorem gens_mem {os : List Oper} {d : Option Nat} {op : Op} {i : I} {h : ∀ ty pos af gd, OpOk P ⟨d, op, ty, pos, af, gd⟩ i} : ∀ {cs : List (Nat × Orc P)} {j : Nat}, (j, Orc.gen d op i h) ∈ cs → ((((os[j]?).map (·.dst)).getD none, ((os[j]?).map (·.op)).getD default), (d, op)) ∈ gens os cs
 | (j', c) :: cs, j, hm => by
  rcases List.mem_cons.1 hm with e | hm
  ·injection e with e1 e2
   subst e1 e2
   simp [gens]
  ·have := gens_mem (os := os) hm
   cases c <;> simp only [gens] <;> first | exact this | exact List.mem_cons_of_mem _ this
theorem insts_ok {tb : Tb} (htb : TbOk P tb) {ops : Array Oper} {cs : List (Nat × Orc P)} (hg : (gens ops.toList cs).map (·.1) = (gens ops.toList cs).map (·.2)) :
  ∀ (os : List Oper) (f : F) (nx j : Nat) (is : List I), ops.toList.drop j = os → insts tb ops f nx j os cs = some is → AllDo P ops os is
 | [], f, nx, j, is, _, h => by simp [insts] at h; subst h; trivial
 | o :: os, f, nx, j, is, hd, h => by
  simp only [insts] at h
  split at h
  ·rename_i i nx' h1
   split at h
   ·rename_i is' h2
    injection h with h; subst h
    have ho : ops.toList[j]? = some o := by
     have := congrArg (fun l => l[0]?) hd
     simpa using this
    refine ⟨run1_ok htb h1 ?_, insts_ok htb hg os _ _ (j + 1) is' ?_ h2⟩
    ·intro d op i' hh hc
     have hm := gens_mem (os := ops.toList) (lookup_mem hc)
     have := map_eq_mem hg _ hm
     rw [ho] at this
     simp at this
     exact this
    ·have : List.drop 1 (ops.toList.drop j) = os := by rw [hd]; rfl
     rw [List.drop_drop] at this
     simpa using this
   ·cases h
  ·cases h
/-- all that is checked of a statement -/
structure Seen where
  ok : Bool
  s : List (Option V)
  n : List (Option L)
  s' : List (Option V)
  n' : List (Option L)
end
section
variable {Q : Exit → Act → World → Prop} {w0 : World} {H0 : Im} {B0 : Bl} {K : List Nat} {N : Nat}
theorem rS {tb : Tb} (htb : TbOk Tryz.prog tb) {id : Nat} {draw : Bool} {ops : Array Oper} {a : Act} {w : World} {sl : List (Nat × V)} {lc : List (Nat × L)} (nx : Nat) (cs : List (Nat × Orc Tryz.prog)) (sl' : List (Nat × V)) (lc' : List (Nat × L))
  (hc : ((gens ops.toList cs).map (·.1), (insts tb ops (F.of sl lc) nx 0 ops.toList cs).isSome, (insts tb ops (F.of sl lc) nx 0 ops.toList cs).map fun is => Seen.mk (chk draw ops.toList is N K sl lc) (runS (F.of sl lc) is) (runN (F.of sl lc) is) (leS (runF (F.of sl lc) is) sl') (leN (runF (F.of sl lc) is) lc')) =
   ((gens ops.toList cs).map (·.2), true, (insts tb ops (F.of sl lc) nx 0 ops.toList cs).map fun is => Seen.mk true (wantS is) (wantN is) (sl'.map fun p => some p.2) (lc'.map fun p => some p.2)))
  (h : St ⟨w0, H0, B0, K, N⟩ (F.of sl lc) a w) (hQ : ∀ a w, St ⟨w0, H0, B0, K, N⟩ (F.of sl' lc') a w → Q .normal a w) : (Code.region id ops draw).wp Tryz.prog Q a w := by
 simp only [Prod.mk.injEq] at hc
 obtain ⟨hg, hs, hm⟩ := hc
 cases hi : insts tb ops (F.of sl lc) nx 0 ops.toList cs with
 | none => rw [hi] at hs; cases hs
 | some is =>
  rw [hi] at hm
  simp only [Option.map_some, Option.some.injEq, Seen.mk.injEq] at hm
  exact region is sl' lc' mixed (insts_ok htb hg _ _ _ _ _ rfl hi) hm.1 hm.2.1 hm.2.2.1 hm.2.2.2.1 hm.2.2.2.2 h hQ
theorem rSeq {tb : Tb} (htb : TbOk Tryz.prog tb) {id : Nat} {draw : Bool} {ops : Array Oper} {y : Code} {a : Act} {w : World} {sl : List (Nat × V)} {lc : List (Nat × L)} (nx : Nat) (cs : List (Nat × Orc Tryz.prog)) (sl' : List (Nat × V)) (lc' : List (Nat × L))
  (hc : ((gens ops.toList cs).map (·.1), (insts tb ops (F.of sl lc) nx 0 ops.toList cs).isSome, (insts tb ops (F.of sl lc) nx 0 ops.toList cs).map fun is => Seen.mk (chk draw ops.toList is N K sl lc) (runS (F.of sl lc) is) (runN (F.of sl lc) is) (leS (runF (F.of sl lc) is) sl') (leN (runF (F.of sl lc) is) lc')) =
   ((gens ops.toList cs).map (·.2), true, (insts tb ops (F.of sl lc) nx 0 ops.toList cs).map fun is => Seen.mk true (wantS is) (wantN is) (sl'.map fun p => some p.2) (lc'.map fun p => some p.2)))
  (h : St ⟨w0, H0, B0, K, N⟩ (F.of sl lc) a w) (hQ : ∀ a w, St ⟨w0, H0, B0, K, N⟩ (F.of sl' lc') a w → y.wp Tryz.prog Q a w) : (Code.seq (Code.region id ops draw) y).wp Tryz.prog Q a w :=
 wp_seq (rS htb nx cs sl' lc' hc h hQ)
end
end Go.Proofs.YtmohlifepfjmdaaGreat.S
end
section
namespace Go.Proofs.YtmohlifepfjmdaaGreat.S
open Go.RowKit

/-- a slice type, its elements' type and size -/
structure SlT (P : Program) (t el : TypeId) (es : Nat) : Prop where
  hu : P.underlying t = some (.slice el)
  hs : (P.info? el).map (·.size) = some es
theorem SlT.mk' {P : Program} {t el : TypeId} {es : Nat} (hu : P.underlying t = some (.slice el)) (hs : (P.info? el).map (·.size) = some es) : SlT P t el es := ⟨hu, hs⟩
theorem size_run {P : Program} {t : TypeId} {n : Nat} (h : (P.info? t).map (·.size) = some n) (w : World) : (Go.sizeOf t).run P w = .ok n w := by
 cases hi : P.info? t with
 | none => rw [hi] at h; cases h
 | some i =>
  rw [hi] at h
  injection h with h
  have e1 : (typeInfo t).run P w = .ok i w := by unfold typeInfo; simp only [Sem.run_bind, run_program, Result.andThen_ok, hi]; rfl
  unfold Go.sizeOf
  simp [e1, h, go_sem]

theorem run_indexAt {P : Program} {t el : TypeId} {es : Nat} (h : SlT P t el es) {b o n c i : Nat} {k : IntKind} (hi : i < n) (w : World) :
  (Instr.indexAt t (.slice (some ⟨b, o, none⟩) n c) (.int k i)).run P w = .ok (.pointer (some ⟨b, o + i * es, none⟩)) w := by
 have h1 : (0 : Int) ≤ i ∧ (i : Int) < n := ⟨by omega, by omega⟩
 unfold Instr.indexAt
 simp only [asIntOf, Sem.run_bind, Sem.run_pure, Result.andThen_ok, run_underlying h.hu, h1, and_self, if_true, size_run h.hs, Int.toNat_natCast, Addr.add_mid]

section
variable {P : Program}
theorem Op.idxD {d t : Nat} {y : Operand} {es i : Nat} {rows : List (List D)} {r : List D} {k : IntKind} {rs : List (Nat × V)} {xt el ty : TypeId} {pos af gd} (hs : SlT P xt el es) (hr : rows[i]? = some r) (hy : OV y (vi k i) rs) :
  OpOk P ⟨some d, .indexAddr xt (.tmp t) y, ty, pos, af, gd⟩ { rs := (t, .t (.c (.d (.sl es rows)))) :: rs, ws := [(d, some (.t (.c (.el r))))] } :=
 OpOk.value d _ rfl rfl rfl fun e f H B a w hok hr2 => by
  have h1 := hok.slot t _ (hr2.1 (t, .t (.c (.d (.sl es rows)))) (by simp))
  have h2 : a.eval y = .int k i := (hy.eval hok fun p hp => hr2.1 p (by simp [hp])).rawI
  obtain ⟨hi, rfl⟩ := List.getElem?_eq_some_iff.1 hr
  have h3 : DR H (.sl es rows) (a.eval (.tmp t)) := h1
  generalize hv0 : a.eval (.tmp t) = v at h3
  cases h3 with
  | nil ao c => simp at hi
  | sl _ _ b o c arr ty' fz vs hp hb hl hc hes hv hx =>
   refine ⟨.pointer (some ⟨b, o + i * es, none⟩), ?_, b, o + i * es, arr, ty', fz, hb, rfl, fun j hj => ⟨vs i j, hv i hi j (by rw [← hes i hi]; exact hj), hx i hi j hj⟩⟩
   have h5 : a.eval (.tmp t) = .slice (some ⟨b, o, none⟩) rows.length c := hv0
   generalize a.eval = ρ at h5 h2 ⊢
   simp only [execOp, h5, h2, Sem.run_bind, run_indexAt hs hi, Result.andThen_ok, Sem.run_pure]
end

theorem All2.iff {α β : Type} {R : α → β → Prop} : ∀ {xs : List α} {ys : List β}, All2 R xs ys ↔ xs.length = ys.length ∧ ∀ (j : Nat) a b, xs[j]? = some a → ys[j]? = some b → R a b
 | [], [] => ⟨fun _ => ⟨rfl, fun j a b h => by simp at h⟩, fun _ => trivial⟩
 | x :: xs, y :: ys => by
  constructor
  ·intro h
   obtain ⟨h1, h2⟩ := All2.iff.1 h.2
   refine ⟨by simp [h1], fun j a b ha hb => ?_⟩
   cases j with
   | zero => simp at ha hb; subst ha hb; exact h.1
   | succ j => exact h2 j a b (by simpa using ha) (by simpa using hb)
  ·rintro ⟨h1, h2⟩
   exact ⟨h2 0 x y rfl rfl, All2.iff.2 ⟨by simpa using h1, fun j a b ha hb => h2 (j + 1) a b (by simpa using ha) (by simpa using hb)⟩⟩
 | [], _ :: _ => ⟨fun h => h.elim, fun h => by simp at h⟩
 | _ :: _, [] => ⟨fun h => h.elim, fun h => by simp at h⟩
theorem flat_at {α : Type} {es : Nat} : ∀ {rows : List (List α)} (_ : ∀ r ∈ rows, r.length = es) (i f : Nat), f < es → rows.flatten[i * es + f]? = (rows[i]?).bind (·[f]?)
 | [], _, i, f, _ => by simp
 | r :: rows, h, 0, f, hf => by
  have : r.length = es := h r (by simp)
  simp only [List.flatten_cons, Nat.zero_mul, Nat.zero_add, List.getElem?_cons_zero, Option.bind_some]
  rw [List.getElem?_append_left (by omega)]
 | r :: rows, h, i + 1, f, hf => by
  have : r.length = es := h r (by simp)
  simp only [List.flatten_cons, List.getElem?_cons_succ]
  rw [List.getElem?_append_right (by rw [this, Nat.add_mul]; omega), ← flat_at (fun r hr => h r (by simp [hr])) i f hf]
  congr 1
  rw [this, Nat.add_mul]; omega
theorem flat_len {α : Type} {es : Nat} : ∀ {rows : List (List α)} (_ : ∀ r ∈ rows, r.length = es), rows.flatten.length = rows.length * es
 | [], _ => by simp
 | r :: rows, h => by
  rw [List.flatten_cons, List.length_append, flat_len fun r hr => h r (by simp [hr]), h r (by simp), List.length_cons, Nat.add_mul]; omega
def RowAt (H : Im) (arr : List Value) (es : Nat) (rows : List (List D)) : Prop := ∀ (i : Nat) r, rows[i]? = some r → ∀ (f : Nat) x, r[f]? = some x → ∃ u, arr[i * es + f]? = some u ∧ DR H x u
theorem rowAt_iff {H : Im} {arr : List Value} {es c : Nat} {rows : List (List D)} (h1 : arr.length = c * es) (h2 : rows.length ≤ c) (h3 : ∀ r ∈ rows, r.length = es) :
  All2 (DR H) rows.flatten (arr.take (rows.length * es)) ↔ RowAt H arr es rows := by
 have hle : rows.length * es ≤ c * es := Nat.mul_le_mul_right _ h2
 rw [All2.iff]
 constructor
 ·rintro ⟨_, hR⟩ i r hr f x hx
  have hf : f < es := by rw [← h3 r (List.mem_of_getElem? hr)]; exact (List.getElem?_eq_some_iff.1 hx).1
  have hi : i < rows.length := (List.getElem?_eq_some_iff.1 hr).1
  have hlt : i * es + f < rows.length * es := by
   have : (i + 1) * es ≤ rows.length * es := Nat.mul_le_mul_right _ hi
   rw [Nat.add_mul] at this; omega
  have e1 : rows.flatten[i * es + f]? = some x := by rw [flat_at h3 i f hf, hr]; exact hx
  have e2 : arr[i * es + f]? = some (arr[i * es + f]'(by omega)) := List.getElem?_eq_getElem _
  refine ⟨_, e2, hR _ _ _ e1 ?_⟩
  rw [List.getElem?_take, if_pos hlt, e2]
 ·intro hR
  refine ⟨by rw [flat_len h3, List.length_take]; omega, fun j x u hx hu => ?_⟩
  have hj : j < rows.length * es := by rw [← flat_len h3]; exact (List.getElem?_eq_some_iff.1 hx).1
  have he : 0 < es := Nat.pos_of_ne_zero fun e => by simp [e] at hj
  have hjj : j = j / es * es + j % es := by rw [Nat.mul_comm]; exact (Nat.div_add_mod j es).symm
  rw [hjj, flat_at h3 _ _ (Nat.mod_lt _ he)] at hx
  cases hr : rows[j / es]? with
  | none => rw [hr] at hx; cases hx
  | some r =>
   rw [hr] at hx
   obtain ⟨v, h4, h5⟩ := hR _ r hr _ x hx
   rw [← hjj] at h4
   rw [List.getElem?_take, if_pos hj, h4] at hu
   injection hu with hu
   rwa [← hu]
theorem putL_get {α : Type} : ∀ (r l : List α) (o j : Nat), o + r.length ≤ l.length → (putL l o r)[j]? = if o ≤ j ∧ j < o + r.length then r[j - o]? else l[j]?
 | [], l, o, j, _ => by simp [putL]; intros; omega
 | v :: r, l, o, j, h => by
  simp only [List.length_cons] at h
  rw [putL, putL_get r (l.set o v) (o + 1) j (by simp; omega)]
  by_cases h1 : j = o
  ·subst h1
   have : ¬ (j + 1 ≤ j ∧ j < j + 1 + r.length) := by omega
   rw [if_neg this, if_pos ⟨Nat.le_refl _, by simp⟩, Nat.sub_self, List.getElem?_set_self (by omega)]
   rfl
  ·by_cases h2 : o + 1 ≤ j ∧ j < o + 1 + r.length
   ·rw [if_pos h2, if_pos (by simp; omega), show j - o = (j - (o + 1)) + 1 by omega, List.getElem?_cons_succ]
   ·rw [if_neg h2, if_neg (by simp; omega), List.getElem?_set_ne (by omega)]

section
variable {P : Program}
theorem Op.idxO {d t n len i es : Nat} {y : Operand} {k : IntKind} {rs : List (Nat × V)} {xt el ty : TypeId} {pos af gd} (hs : SlT P xt el es) (hi : i < len) (hy : OV y (vi k i) rs) :
  OpOk P ⟨some d, .indexAddr xt (.tmp t) y, ty, pos, af, gd⟩ { rs := (t, .t (.c (.own n len))) :: rs, ws := [(d, some (vp n (i * es)))] } :=
 OpOk.value d _ rfl rfl rfl fun e f H B a w hok hr2 => by
  have h1 := hok.slot t _ (hr2.1 (t, .t (.c (.own n len))) (by simp))
  have h2 : a.eval y = .int k i := (hy.eval hok fun p hp => hr2.1 p (by simp [hp])).rawI
  simp only [VR, TR, CR] at h1
  cases hB : B n with
  | none => rw [hB] at h1; have := h1.1; omega
  | some p =>
   obtain ⟨b, c⟩ := p
   rw [hB] at h1
   refine ⟨.pointer (some ⟨b, i * es, none⟩), ?_, b, c, hB, rfl⟩
   have h5 : a.eval (.tmp t) = .slice (some ⟨b, 0, none⟩) len c := h1
   generalize a.eval = ρ at h5 h2 ⊢
   simp only [execOp, h5, h2, Sem.run_bind, run_indexAt hs hi, Result.andThen_ok, Sem.run_pure, Nat.zero_add]

theorem Ok.row {e : E} {f : F} {H : Im} {B : Bl} {a : Act} {w : World} (h : Ok e f H B a w) {n : Nat} {ty : TypeId} {es : Nat} {rows : List (List D)} (hl : f.l n = some (.row ty es rows)) {b c : Nat} (hB : B n = some (b, c)) :
  ∃ arr : List Value, w.heap[b]? = some (.cells ⟨arr⟩ ty (0, 0)) ∧ arr.length = c * es ∧ rows.length ≤ c ∧ c ≤ maxLen ∧ (∀ r ∈ rows, r.length = es) ∧ RowAt H arr es rows := by
 have h1 := h.loc n _ hl
 simp only [LR, hB] at h1
 obtain ⟨arr, h1, h2, h3, h4, h5, h6⟩ := h1
 exact ⟨arr, h1, h2, h3, h4, h5, (rowAt_iff h2 h3 h5).1 h6⟩
theorem Op.storeR {t n o i fo m es : Nat} {ag : Bool} {rows rows' : List (List D)} {r ds : List D} {x : Operand} {v : T} {rs : List (Nat × V)} {rty xt ty : TypeId} {pos af gd} (hs : Sz P xt m ag) (h : OV x (.t v) rs) (hv : cellsOf v = ds.map C.d) (hm : ds.length = m)
  (ho : o = i * es + fo) (hr : rows[i]? = some r) (hf : fo + m ≤ r.length) (hn : rows.set i (putL r fo ds) = rows') :
  OpOk P ⟨none, .store xt (.tmp t) x, ty, pos, af, gd⟩ { rs := (t, vp n o) :: rs, rl := [(n, .row rty es rows)], wl := [(n, some (.row rty es rows'))] } := by
 rintro e f a w Q ⟨H, B, hok⟩ hr2 hnw hb0
 obtain ⟨b, c, hb, hu⟩ := (hok.slot t _ (hr2.1 (t, vp n o) (by simp))).ptrI
 have hfl := hr2.2 (n, .row rty es rows) (by simp)
 obtain ⟨arr, hcl, h2, h3, h4, h5, h6⟩ := hok.row hfl hb
 have hev := h.eval hok (fun p hp => hr2.1 p (by simp [hp]))
 obtain ⟨l, g3, g4⟩ := TR.cells hev
 rw [hv] at g4
 have hll : l.length = m := by rw [← g4.length, List.length_map, hm]
 have hre : r.length = es := h5 r (List.mem_of_getElem? hr)
 have hi : i < rows.length := (List.getElem?_eq_some_iff.1 hr).1
 have hie : (i + 1) * es ≤ c * es := Nat.mul_le_mul_right _ (by omega)
 rw [Nat.add_mul] at hie
 have ho' : o + m ≤ arr.length := by rw [h2, ho]; omega
 have hrun : (storeVar xt ⟨b, o, none⟩ (a.eval x)).run P w = .ok () (w.setCells b o l) := by
  have hst := run_storeCells_cells (P := P) b o l 0 w (fun j hj => by
    rw [cell_of hcl (o := o + 0 + j) (v := arr[o + 0 + j]'(by omega)) (List.getElem?_eq_getElem _)]; rfl) (fun j hj => by simp [World.frozen?, hcl]) (fun v hv => by
    obtain ⟨i, hi, rfl⟩ := List.getElem_of_mem hv
    obtain ⟨y, hy, hR⟩ := g4.get i (by rw [g4.length]; exact hi)
    rw [List.getElem?_eq_getElem hi] at hy
    injection hy with hy
    rw [hy]
    exact flat_one (CR.flat hR))
  unfold storeVar
  simp only [Sem.run_bind, hs.sizeOf, Result.andThen_ok, g3, hll, List.size_toArray, ne_eq, not_true_eq_false, if_false]
  simpa using hst
 obtain ⟨k1, k2, k3, k4, k5, k6⟩ := setCells_heap l o w arr hcl
 have hg : a.eval (.tmp t) = .pointer (some ⟨b, o, none⟩) := hu
 unfold Oper.wp
 have hexec : (execOp a.eval ⟨none, .store xt (.tmp t) x, ty, pos, af, gd⟩).run P w = .ok .skip (w.setCells b o l) := by
  generalize hq : a.eval x = q at hrun
  generalize a.eval = ρ at hg hq ⊢
  simp only [execOp, hg, hq, Instr.storeAt, Instr.sureAddr, Sem.run_bind, Sem.run_pure, Result.andThen_ok, hrun]
 rw [hexec, Oper.upon_skip]
 subst hn
 have hrows : ∀ r' ∈ rows.set i (putL r fo ds), r'.length = es := by
  intro r' hr'
  rcases List.mem_or_eq_of_mem_set hr' with h' | rfl
  ·exact h5 r' h'
  ·rw [putL_length]; exact hre
 have hlr : LR H B (w.setCells b o l) n (.row rty es (rows.set i (putL r fo ds))) := by
  simp only [LR, hb]
  refine ⟨putL arr o l, k1, by rw [putL_length]; exact h2, by simpa using h3, h4, hrows, ?_⟩
  refine (rowAt_iff (by rw [putL_length]; exact h2) (by simpa using h3) hrows).2 ?_
  intro i' r' hr' f' x' hx'
  rw [putL_get l arr o _ (by omega)]
  have hf' : f' < es := by rw [← hrows r' (List.mem_of_getElem? hr')]; exact (List.getElem?_eq_some_iff.1 hx').1
  by_cases hii : i' = i
  ·subst hii
   rw [List.getElem?_set_self hi] at hr'
   injection hr' with hr'
   subst hr'
   rw [putL_get ds r fo _ (by omega)] at hx'
   by_cases hin : fo ≤ f' ∧ f' < fo + ds.length
   ·rw [if_pos hin] at hx'
    rw [if_pos (by rw [hll, ho]; omega)]
    have e1 : i' * es + f' - o = f' - fo := by rw [ho]; omega
    rw [e1]
    have hlt : f' - fo < l.length := by omega
    refine ⟨_, List.getElem?_eq_getElem hlt, ?_⟩
    have := (All2.iff.1 g4).2 (f' - fo) (.d x') (l[f' - fo]'hlt) (by rw [List.getElem?_map, hx']; rfl) (List.getElem?_eq_getElem hlt)
    exact this
   ·rw [if_neg hin] at hx'
    rw [if_neg (by rw [hll, ho]; omega)]
    exact h6 i' r hr f' x' hx'
  ·rw [List.getElem?_set_ne (Ne.symm hii)] at hr'
   have hout : ¬ (o ≤ i' * es + f' ∧ i' * es + f' < o + l.length) := by
    rw [hll, ho]
    rcases Nat.lt_or_gt_of_ne hii with hlt | hgt
    ·have : (i' + 1) * es ≤ i * es := Nat.mul_le_mul_right _ hlt
     rw [Nat.add_mul] at this
     omega
    ·have : (i + 1) * es ≤ i' * es := Nat.mul_le_mul_right _ hgt
     rw [Nat.add_mul] at this
     omega
   rw [if_neg hout]
   exact h6 i' r' hr' f' x' hx'
 exact St.put0 ⟨H, B, hok.write (g := ⟨f.s, fun m => if m = n then some (.row rty es (rows.set i (putL r fo ds))) else f.l m⟩) (l' := .row rty es (rows.set i (putL r fo ds))) hfl hb (fun _ => rfl) (fun _ => rfl) k2 k3 k4 k5 k6 hlr⟩ rfl (app0_s _ _ rfl) (fun m => app1_l f n _ _ rfl m)
end

/-! own rows let go: from here on they stay -/
def C.pub (n es : Nat) (rows : List (List D)) : C → C
  | .own m k => if Nat.beq m n then .d (.sl es rows) else .own m k
  | .ptr m o => if Nat.beq m n then .any else .ptr m o
  | .sub m o k => if Nat.beq m n then .any else .sub m o k
  | c => c
def T.pub (n es : Nat) (rows : List (List D)) : T → T
  | .c x => .c (x.pub n es rows)
  | .agg cs => .agg (cs.map (C.pub n es rows))
def V.pub (n es : Nat) (rows : List (List D)) : V → V
  | .t x => .t (x.pub n es rows)
  | .tup xs => .tup (xs.map (T.pub n es rows))
def L.pub (n es : Nat) (rows : List (List D)) : L → L
  | .box cs => .box (cs.map (C.pub n es rows))
  | .row ty k r => .row ty k r
  | .bld ty c => .bld ty (c.pub n es rows)
def C.owns (n : Nat) : C → List Nat
  | .own m k => if Nat.beq m n then [k] else []
  | _ => []
def T.owns (n : Nat) : T → List Nat
  | .c x => x.owns n
  | .agg cs => cs.flatMap (C.owns n)
def V.owns (n : Nat) : V → List Nat
  | .t x => x.owns n
  | .tup xs => xs.flatMap (T.owns n)
def L.owns (n : Nat) : L → List Nat
  | .box cs => cs.flatMap (C.owns n)
  | .row _ _ _ => []
  | .bld _ c => c.owns n
def AllEq (m : Nat) : List Nat → Prop
  | [] => True
  | k :: ks => k = m ∧ AllEq m ks
theorem AllEq.mem {m : Nat} : ∀ {ks : List Nat}, AllEq m ks → ∀ k ∈ ks, k = m
 | k :: ks, h, x, hx => by
  rcases List.mem_cons.1 hx with rfl | hx
  ·exact h.1
  ·exact AllEq.mem h.2 x hx
theorem row_data {H : Im} {es b c : Nat} {arr : List Value} {ty : TypeId} {rows : List (List D)} (hb : H b = some (.cells ⟨arr⟩ ty (0, 0))) (h3 : rows.length ≤ c) (h4 : c ≤ maxLen) (h5 : ∀ r ∈ rows, r.length = es) (h6 : RowAt H arr es rows) :
  DR H (.sl es rows) (.slice (some ⟨b, 0, none⟩) rows.length c) := by
 cases hr : rows with
 | nil => exact .nil es _ c (fun h => by cases h) h4
 | cons r0 rs0 =>
  rw [← hr]
  refine .sl es rows b 0 c ⟨arr⟩ ty (0, 0) (fun i j => (arr[i * es + j]?).getD undef) (by rw [hr]; simp) hb h3 h4 (fun i hi => h5 _ (List.getElem_mem hi)) ?_ ?_
  ·intro i hi j hj
   have hj' : j < (rows[i]'hi).length := by rw [h5 _ (List.getElem_mem hi)]; exact hj
   obtain ⟨u, g1, _⟩ := h6 i _ (List.getElem?_eq_getElem hi) j _ (List.getElem?_eq_getElem hj')
   simp [g1]
  ·intro i hi j hj
   obtain ⟨u, g1, g2⟩ := h6 i _ (List.getElem?_eq_getElem hi) j _ (List.getElem?_eq_getElem hj)
   simp only [g1, Option.getD_some]
   exact g2
def F.pub (f : F) (n es : Nat) (rows : List (List D)) : F :=
  ⟨fun t => (f.s t).map (V.pub n es rows), fun m => if Nat.beq m n then none else (f.l m).map (L.pub n es rows)⟩

theorem St.pub {w0 : World} {H0 : Im} {B0 : Bl} {N : Nat} {f : F} {a : Act} {w : World} (h : St ⟨w0, H0, B0, [], N⟩ f a w) (n es : Nat) (ty : TypeId) (rows : List (List D)) (hl : f.l n = some (.row ty es rows))
  (h1 : ∀ t v, f.s t = some v → ∀ k ∈ v.owns n, k = rows.length) (h2 : ∀ m l, f.l m = some l → ∀ k ∈ l.owns n, k = rows.length) : St ⟨w0, H0, B0, [], N⟩ (f.pub n es rows) a w := by
 obtain ⟨H, B, hok⟩ := h
 have hLR := hok.loc n _ hl
 -- what stays from here on
 obtain ⟨H', hle, hH', hcell⟩ : ∃ H' : Im, Le H H' ∧ (∀ b o, H' b = some o → H b = some o ∨ (w.heap[b]? = some o ∧ ∃ c, B n = some (b, c))) ∧
   (∀ (x : C) (v : Value), (∀ k ∈ x.owns n, k = rows.length) → CR H B x v → CR H' B (x.pub n es rows) v) := by
  have keepC : ∀ {H' : Im} (hle : Le H H'), (∀ v, CR H B (.own n rows.length) v → DR H' (.sl es rows) v) → ∀ (x : C) (v : Value), (∀ k ∈ x.owns n, k = rows.length) → CR H B x v → CR H' B (x.pub n es rows) v := by
   intro H' hle hown x v hk hx
   cases x with
   | own m k =>
    simp only [C.pub]
    split
    ·rename_i e1
     have e1 := Nat.eq_of_beq_eq_true e1
     subst e1
     have := hk k (by simp [C.owns])
     subst this
     exact hown v hx
    ·exact CR.mono hle (fun _ _ => rfl) hx
   | ptr m o =>
    simp only [C.pub]
    split
    ·exact CR.flat hx
    ·exact CR.mono hle (fun _ _ => rfl) hx
   | sub m o k =>
    simp only [C.pub]
    split
    ·exact CR.flat hx
    ·exact CR.mono hle (fun _ _ => rfl) hx
   | d x => exact CR.mono hle (fun _ _ => rfl) hx
   | el x => exact CR.mono hle (fun _ _ => rfl) hx
   | fn f' x y => exact CR.mono hle (fun _ _ => rfl) hx
   | any => exact hx
  cases hB : B n with
  | none =>
   simp only [LR, hB] at hLR
   subst hLR
   refine ⟨H, Le.refl _, fun b o h => .inl h, keepC (Le.refl _) fun v hv => ?_⟩
   simp only [CR, hB] at hv
   obtain ⟨_, ao, hv⟩ := hv
   rw [hv]
   exact .nil es ao 0 (fun _ => rfl) (Nat.zero_le _)
  | some p =>
   obtain ⟨b, c⟩ := p
   obtain ⟨arr, g1, g2, g3, g4, g5, g6⟩ := hok.row hl hB
   have hnone := (hok.priv n _ b c hl hB).2.1
   have hle : Le H (fun x => if x = b then some (.cells ⟨arr⟩ ty (0, 0)) else H x) := by
    intro x o hx
    have : x ≠ b := fun e => by rw [e, hnone] at hx; cases hx
    simp [this, hx]
   refine ⟨fun x => if x = b then some (.cells ⟨arr⟩ ty (0, 0)) else H x, hle, ?_, keepC hle fun v hv => ?_⟩
   ·intro x o hx
    by_cases e : x = b
    ·subst e
     simp only [if_true] at hx
     exact .inr ⟨by rw [g1]; exact hx, c, rfl⟩
    ·simp [e] at hx; exact .inl hx
   ·simp only [CR, hB] at hv
    rw [hv]
    exact row_data (arr := arr) (ty := ty) (if_pos rfl) g3 g4 g5 fun i r hr f' x hx => by
     obtain ⟨u, k1, k2⟩ := g6 i r hr f' x hx
     exact ⟨u, k1, k2.mono hle⟩
 have hT : ∀ (x : T) (v : Value), (∀ k ∈ x.owns n, k = rows.length) → TR H B x v → TR H' B (x.pub n es rows) v := by
  intro x v hk hx
  cases x with
  | c x => exact hcell x v hk hx
  | agg cs =>
   obtain ⟨vs, hv, hx⟩ := hx
   refine ⟨vs, hv, All2.iff.2 ⟨by rw [List.length_map]; exact hx.length, fun j a' b' ha hb => ?_⟩⟩
   rw [List.getElem?_map] at ha
   cases hj : cs[j]? with
   | none => rw [hj] at ha; cases ha
   | some y =>
    rw [hj] at ha
    injection ha with ha
    subst ha
    exact hcell y b' (fun k hk2 => hk k (by simp only [T.owns, List.mem_flatMap]; exact ⟨y, List.mem_of_getElem? hj, hk2⟩)) ((All2.iff.1 hx).2 j y b' hj hb)
 refine ⟨H', B, hok.df, hok.n, hok.ext, ?_, ?_, ?_, ?_, ?_, ?_, hok.le.trans hle, hok.keep⟩
 ·intro b o hb
  rcases hH' b o hb with h' | ⟨h', _⟩
  ·exact hok.sat b o h'
  ·exact h'
 ·intro t v hv
  simp only [F.pub, Option.map_eq_some_iff] at hv
  obtain ⟨x, hx, rfl⟩ := hv
  have hR := hok.slot t x hx
  have hk := h1 t x hx
  cases x with
  | t x => exact hT x _ hk hR
  | tup xs =>
   obtain ⟨vs, hv, hx2⟩ := hR
   refine ⟨vs, hv, All2.iff.2 ⟨by rw [List.length_map]; exact hx2.length, fun j a' b' ha hb => ?_⟩⟩
   rw [List.getElem?_map] at ha
   cases hj : xs[j]? with
   | none => rw [hj] at ha; cases ha
   | some y =>
    rw [hj] at ha
    injection ha with ha
    subst ha
    exact hT y b' (fun k hk2 => hk k (by simp only [V.owns, List.mem_flatMap]; exact ⟨y, List.mem_of_getElem? hj, hk2⟩)) ((All2.iff.1 hx2).2 j y b' hj hb)
 ·intro m l hm
  simp only [F.pub] at hm
  split at hm
  ·cases hm
  ·simp only [Option.map_eq_some_iff] at hm
   obtain ⟨x, hx, rfl⟩ := hm
   have hR := hok.loc m x hx
   have hk := h2 m x hx
   cases x with
   | box cs =>
    obtain ⟨b, c, arr, ty', hb, hc, hx2⟩ := hR
    refine ⟨b, c, arr, ty', hb, hc, All2.iff.2 ⟨by rw [List.length_map]; exact hx2.length, fun j a' b' ha hb => ?_⟩⟩
    rw [List.getElem?_map] at ha
    cases hj : cs[j]? with
    | none => rw [hj] at ha; cases ha
    | some y =>
     rw [hj] at ha
     injection ha with ha
     subst ha
     exact hcell y b' (fun k hk2 => hk k (by simp only [L.owns, List.mem_flatMap]; exact ⟨y, List.mem_of_getElem? hj, hk2⟩)) ((All2.iff.1 hx2).2 j y b' hj hb)
   | row ty' es' rows' => exact LR.mono hle rfl (fun _ _ => rfl) (fun _ _ _ => rfl) hR
   | bld ty' c' =>
    obtain ⟨b, k, v1, v2, hb, hc, g1, g0, g2⟩ := hR
    exact ⟨b, k, v1, v2, hb, hc, g1, g0, hcell c' v2 (fun k hk2 => hk k hk2) g2⟩
 ·intro m l b c hm hb
  simp only [F.pub] at hm
  split at hm
  ·cases hm
  ·rename_i hne
   simp only [Option.map_eq_some_iff] at hm
   obtain ⟨x, hx, rfl⟩ := hm
   obtain ⟨p1, p2, p3⟩ := hok.priv m x b c hx hb
   refine ⟨p1, ?_, p3⟩
   cases hq : H' b with
   | none => rfl
   | some o =>
    rcases hH' b o hq with h' | ⟨_, c', h'⟩
    ·rw [p2] at h'; cases h'
    ·have := hok.inj m n x _ b c c' hx hl hb h'
     subst this
     simp at hne
 ·intro m k l l' b c c' hm hk hb hb'
  simp only [F.pub] at hm hk
  split at hm
  ·cases hm
  ·split at hk
   ·cases hk
   ·simp only [Option.map_eq_some_iff] at hm hk
    obtain ⟨x, hx, _⟩ := hm
    obtain ⟨y, hy, _⟩ := hk
    exact hok.inj m k x y b c c' hx hy hb hb'
 ·intro b hb
  cases hq : H' b with
  | none =>
   rw [← hok.low b hb]
   cases hr : H b with
   | none => rfl
   | some o => rw [hle b o hr] at hq; cases hq
  | some o =>
   rcases hH' b o hq with h' | ⟨_, c', h'⟩
   ·rw [← hok.low b hb, h']
   ·rcases (hok.priv n _ b c' hl h').2.2 with ⟨m, hm, _⟩ | h3
    ·cases hm
    ·exact absurd hb (by simpa using h3)
end Go.Proofs.YtmohlifepfjmdaaGreat.S
end
section
namespace Go.Proofs.YtmohlifepfjmdaaGreat.S
open Go.RowKit

/-! another name -/
def A.ren (n m : Nat) : A → A
  | .d x => .d x
  | .ptr k o => .ptr (if Nat.beq k n then m else k) o
def C.ren (n m : Nat) : C → C
  | .own k l => .own (if Nat.beq k n then m else k) l
  | .ptr k o => .ptr (if Nat.beq k n then m else k) o
  | .sub k o l => .sub (if Nat.beq k n then m else k) o l
  | .fn f fs cs => .fn f (fs.map (A.ren n m)) (cs.map (A.ren n m))
  | c => c
def T.ren (n m : Nat) : T → T
  | .c x => .c (x.ren n m)
  | .agg cs => .agg (cs.map (C.ren n m))
def V.ren (n m : Nat) : V → V
  | .t x => .t (x.ren n m)
  | .tup xs => .tup (xs.map (T.ren n m))
def L.ren (n m : Nat) : L → L
  | .box cs => .box (cs.map (C.ren n m))
  | .row ty k r => .row ty k r
  | .bld ty c => .bld ty (c.ren n m)
def F.ren (f : F) (n m : Nat) : F :=
  ⟨fun t => (f.s t).map (V.ren n m), fun x => if Nat.beq x m then (f.l n).map (L.ren n m) else if Nat.beq x n then none else (f.l x).map (L.ren n m)⟩
theorem All2.mapL {α β γ : Type} {R : α → β → Prop} {R' : γ → β → Prop} (g : α → γ) : ∀ {xs : List α} {ys : List β}, All2 R xs ys → (∀ a ∈ xs, ∀ b, R a b → R' (g a) b) → All2 R' (xs.map g) ys
 | [], [], _, _ => trivial
 | _ :: _, _ :: _, h, k => ⟨k _ (by simp) _ h.1, h.2.mapL g fun a ha b => k a (by simp [ha]) b⟩
 | [], _ :: _, h, _ => h.elim
 | _ :: _, [], h, _ => h.elim
section
variable {H : Im} {B : Bl} {n m : Nat}
def swB (B : Bl) (n m : Nat) : Bl := fun x => if x = m then B n else B x
theorem swB_at (k : Nat) (hk : k ≠ m) : swB B n m (if Nat.beq k n then m else k) = B k := by
 by_cases e : k = n
 ·subst e; simp [swB]
 ·have : Nat.beq k n = false := by
   cases h : Nat.beq k n with
   | false => rfl
   | true => exact absurd (Nat.eq_of_beq_eq_true h) e
  simp [this, swB, hk]
theorem AR.ren {x : A} {v : Value} (hm : m ∉ x.tags) (h : AR H B x v) : AR H (swB B n m) (x.ren n m) v := by
 cases x with
 | d x => exact h
 | ptr k o => obtain ⟨b, c, hb, hv⟩ := h; exact ⟨b, c, (swB_at k (fun e => hm (by simp [A.tags, e]))).trans hb, hv⟩
theorem CR.ren {x : C} {v : Value} (hm : m ∉ x.tags) (h : CR H B x v) : CR H (swB B n m) (x.ren n m) v := by
 cases x with
 | ptr k o => obtain ⟨b, c, hb, hv⟩ := h; exact ⟨b, c, (swB_at k (fun e => hm (by simp [C.tags, e]))).trans hb, hv⟩
 | sub k o l => exact ⟨h.1, fun hl => let ⟨b, c, j, h1, h2⟩ := h.2 hl; ⟨b, c, j, (swB_at k (fun e => hm (by simp [C.tags, e]))).trans h1, h2⟩⟩
 | own k l => simp only [CR, C.ren] at h ⊢; rw [swB_at k (fun e => hm (by simp [C.tags, e]))]; exact h
 | fn f fs cs =>
  obtain ⟨vs, ws, hv, h1, h2⟩ := h
  simp only [C.tags, List.mem_append, List.mem_flatMap, not_or, not_exists, not_and] at hm
  exact ⟨vs, ws, hv, h1.mapL _ fun a ha b => AR.ren (hm.1 a ha), h2.mapL _ fun a ha b => AR.ren (hm.2 a ha)⟩
 | d x => exact h
 | el x => exact h
 | any => exact h
theorem TR.ren {x : T} {v : Value} (hm : m ∉ x.tags) (h : TR H B x v) : TR H (swB B n m) (x.ren n m) v := by
 cases x with
 | c x => exact CR.ren hm h
 | agg cs =>
  obtain ⟨vs, hv, h1⟩ := h
  simp only [T.tags, List.mem_flatMap, not_exists, not_and] at hm
  exact ⟨vs, hv, h1.mapL _ fun a ha b => CR.ren (hm a ha)⟩
theorem VR.ren {x : V} {v : Value} (hm : m ∉ x.tags) (h : VR H B x v) : VR H (swB B n m) (x.ren n m) v := by
 cases x with
 | t x => exact TR.ren hm h
 | tup xs =>
  obtain ⟨vs, hv, h1⟩ := h
  simp only [V.tags, List.mem_flatMap, not_exists, not_and] at hm
  exact ⟨vs, hv, h1.mapL _ fun a ha b => TR.ren (hm a ha)⟩
theorem LR.ren {x : L} {w : World} {k : Nat} (hk : k ≠ m) (hm : m ∉ x.tags) (h : LR H B w k x) : LR H (swB B n m) w (if Nat.beq k n then m else k) (x.ren n m) := by
 cases x with
 | box cs =>
  obtain ⟨b, c, arr, ty, hb, hc, h1⟩ := h
  simp only [L.tags, List.mem_flatMap, not_exists, not_and] at hm
  exact ⟨b, c, arr, ty, (swB_at k hk).trans hb, hc, h1.mapL _ fun a ha b => CR.ren (hm a ha)⟩
 | row ty es rows => simp only [LR, L.ren] at h ⊢; rw [swB_at k hk]; exact h
 | bld ty c =>
  obtain ⟨b, j, v1, v2, hb, hc, h1, h0, h2⟩ := h
  exact ⟨b, j, v1, v2, (swB_at k hk).trans hb, hc, h1, h0, CR.ren hm h2⟩
end
theorem St.ren {e : E} {f : F} {a : Act} {w : World} (h : St e f a w) (n m : Nat) (hm : New e.K f m) : St e (f.ren n m) a w := by
 obtain ⟨H, B, hok⟩ := h
 have hmn : f.l m = none := hm.2.1
 have cls : ∀ x l, (f.ren n m).l x = some l → ∃ y l0, f.l y = some l0 ∧ l = l0.ren n m ∧ y ≠ m ∧ x = (if Nat.beq y n then m else y) := by
  intro x l hx
  simp only [F.ren] at hx
  split at hx
  ·rename_i e1
   have e1 := Nat.eq_of_beq_eq_true e1
   simp only [Option.map_eq_some_iff] at hx
   obtain ⟨l0, h1, rfl⟩ := hx
   exact ⟨n, l0, h1, rfl, (fun e => by rw [e, hmn] at h1; cases h1), by simp [e1]⟩
  ·rename_i e1
   split at hx
   ·cases hx
   ·rename_i e2
    simp only [Option.map_eq_some_iff] at hx
    obtain ⟨l0, h1, rfl⟩ := hx
    exact ⟨x, l0, h1, rfl, (fun e => by rw [e, hmn] at h1; cases h1), by simp [e2]⟩
 refine ⟨H, swB B n m, hok.df, hok.n, hok.ext, hok.sat, ?_, ?_, ?_, ?_, hok.low, hok.le, ?_⟩
 ·intro t v hv
  simp only [F.ren, Option.map_eq_some_iff] at hv
  obtain ⟨x, hx, rfl⟩ := hv
  exact VR.ren (hm.2.2.1 t x hx) (hok.slot t x hx)
 ·intro x l hx
  obtain ⟨y, l0, h1, rfl, h2, rfl⟩ := cls x l hx
  exact LR.ren h2 (hm.2.2.2 y l0 h1) (hok.loc y l0 h1)
 ·intro x l b c hx hb
  obtain ⟨y, l0, h1, rfl, h2, rfl⟩ := cls x l hx
  rw [swB_at y h2] at hb
  exact hok.priv y l0 b c h1 hb
 ·intro x z l l' b c c' hx hz hb hb'
  obtain ⟨y, l0, h1, rfl, h2, rfl⟩ := cls x l hx
  obtain ⟨y', l0', h1', rfl, h2', rfl⟩ := cls z l' hz
  rw [swB_at y h2] at hb
  rw [swB_at y' h2'] at hb'
  rw [hok.inj y y' l0 l0' b c c' h1 h1' hb hb']
 ·intro x hx
  have : x ≠ m := fun e => hm.1 (e ▸ hx)
  simp only [swB, this, if_false]
  exact hok.keep x hx

/-! one slot, one block put otherwise -/
def F.setS (f : F) (t : Nat) (v : V) : F := ⟨fun x => if Nat.beq x t then some v else f.s x, f.l⟩
def F.setL (f : F) (n : Nat) (l : L) : F := ⟨f.s, fun x => if Nat.beq x n then some l else f.l x⟩
theorem Ok.setS {e : E} {f : F} {H : Im} {B : Bl} {a : Act} {w : World} (h : Ok e f H B a w) (t : Nat) (v v' : V) (hv : f.s t = some v) (hx : ∀ u, VR H B v u → VR H B v' u) : Ok e (f.setS t v') H B a w := by
 refine ⟨h.df, h.n, h.ext, h.sat, ?_, h.loc, h.priv, h.inj, h.low, h.le, h.keep⟩
 intro x y hy
 simp only [F.setS] at hy
 split at hy
 ·rename_i e1
  have e1 := Nat.eq_of_beq_eq_true e1
  subst e1
  injection hy with hy
  subst hy
  exact hx _ (h.slot x v hv)
 ·exact h.slot x y hy
theorem Ok.setL {e : E} {f : F} {H : Im} {B : Bl} {a : Act} {w : World} (h : Ok e f H B a w) (n : Nat) (l l' : L) (hl : f.l n = some l) (hx : LR H B w n l → LR H B w n l') : Ok e (f.setL n l') H B a w := by
 have cls : ∀ m x, (f.setL n l').l m = some x → ∃ y, f.l m = some y := by
  intro m x hm
  simp only [F.setL] at hm
  split at hm
  ·rename_i e1
   have e1 := Nat.eq_of_beq_eq_true e1
   subst e1
   exact ⟨l, hl⟩
  ·exact ⟨x, hm⟩
 refine ⟨h.df, h.n, h.ext, h.sat, h.slot, ?_, ?_, ?_, h.low, h.le, h.keep⟩
 ·intro m x hm
  simp only [F.setL] at hm
  split at hm
  ·rename_i e1
   have e1 := Nat.eq_of_beq_eq_true e1
   subst e1
   injection hm with hm
   subst hm
   exact hx (h.loc m l hl)
  ·exact h.loc m x hm
 ·intro m x b c hm hb
  obtain ⟨y, hy⟩ := cls m x hm
  exact h.priv m y b c hy hb
 ·intro m k x y b c c' hm hk hb hb'
  obtain ⟨x', hx'⟩ := cls m x hm
  obtain ⟨y', hy'⟩ := cls k y hk
  exact h.inj m k x' y' b c c' hx' hy' hb hb'
theorem Ok.nilName {e : E} {f : F} {H : Im} {B : Bl} {a : Act} {w : World} (h : Ok e f H B a w) (n es : Nat) (ty : TypeId) (hn : New e.K f n) :
  Ok e (f.setL n (.row ty es [])) H (fun x => if x = n then none else B x) a w := by
 have hB : ∀ m, m ≠ n → (fun x => if x = n then none else B x) m = B m := fun m hm => by simp [hm]
 refine ⟨h.df, h.n, h.ext, h.sat, ?_, ?_, ?_, ?_, h.low, h.le, ?_⟩
 ·intro t v hv
  exact VR.mono (Le.refl _) (fun m hm => hB m fun e => hn.2.2.1 t v hv (e ▸ hm)) (h.slot t v hv)
 ·intro m x hm
  simp only [F.setL] at hm
  split at hm
  ·rename_i e1
   have e1 := Nat.eq_of_beq_eq_true e1
   subst e1
   injection hm with hm
   subst hm
   simp [LR]
  ·rename_i e1
   have hne : m ≠ n := fun e => by simp [e] at e1
   exact LR.mono (Le.refl _) (hB m hne) (fun k hk => hB k fun e => hn.2.2.2 m x hm (e ▸ hk)) (fun _ _ _ => rfl) (h.loc m x hm)
 ·intro m x b c hm hb
  by_cases e1 : m = n
  ·simp [e1] at hb
  ·simp only [if_neg e1] at hb
   simp only [F.setL] at hm
   rw [if_neg (fun e => e1 (Nat.eq_of_beq_eq_true e))] at hm
   exact h.priv m x b c hm hb
 ·intro m k x y b c c' hm hk hb hb'
  by_cases e1 : m = n
  ·simp [e1] at hb
  ·by_cases e2 : k = n
   ·simp [e2] at hb'
   ·simp only [if_neg e1] at hb
    simp only [if_neg e2] at hb'
    simp only [F.setL] at hm hk
    rw [if_neg (fun e => e1 (Nat.eq_of_beq_eq_true e))] at hm
    rw [if_neg (fun e => e2 (Nat.eq_of_beq_eq_true e))] at hk
    exact h.inj m k x y b c c' hm hk hb hb'
 ·intro m hm
  exact (hB m fun e => hn.1 (e ▸ hm)).trans (h.keep m hm)
def nilV : Value := .slice none 0 0
def V.getC : V → Nat → Option C
  | .t (.c x), 0 => some x
  | .t (.agg cs), j => cs[j]?
  | _, _ => none
def V.setC : V → Nat → C → V
  | .t (.c _), _, c => .t (.c c)
  | .t (.agg cs), j, c => .t (.agg (cs.set j c))
  | v, _, _ => v
theorem VR.setC {H : Im} {B : Bl} {v : V} {j : Nat} {c c' : C} (hg : v.getC j = some c) (hc : ∀ u, CR H B c u → CR H B c' u) {u : Value} (h : VR H B v u) : VR H B (v.setC j c') u := by
 cases v with
 | tup xs => cases hg
 | t x =>
  cases x with
  | c x =>
   cases j with
   | zero => injection hg with hg; subst hg; exact hc u h
   | succ j => cases hg
  | agg cs =>
   obtain ⟨vs, hv, h1⟩ := h
   refine ⟨vs, hv, All2.iff.2 ⟨by simpa using h1.length, fun i x y hx hy => ?_⟩⟩
   have hg : cs[j]? = some c := by cases j <;> exact hg
   by_cases e : i = j
   ·subst e
    rw [List.getElem?_set_self (List.getElem?_eq_some_iff.1 hg).1] at hx
    injection hx with hx
    subst hx
    exact hc _ ((All2.iff.1 h1).2 i c y hg hy)
   ·rw [List.getElem?_set_ne (Ne.symm e)] at hx
    exact (All2.iff.1 h1).2 i x y hx hy
theorem LR.setC {H : Im} {B : Bl} {w : World} {n : Nat} {cs : List C} {j : Nat} {c c' : C} (hg : cs[j]? = some c) (hc : ∀ u, CR H B c u → CR H B c' u) (h : LR H B w n (.box cs)) : LR H B w n (.box (cs.set j c')) := by
 obtain ⟨b, k, arr, ty, hb, hw, h1⟩ := h
 refine ⟨b, k, arr, ty, hb, hw, All2.iff.2 ⟨by simpa using h1.length, fun i x y hx hy => ?_⟩⟩
 by_cases e : i = j
 ·subst e
  rw [List.getElem?_set_self (List.getElem?_eq_some_iff.1 hg).1] at hx
  injection hx with hx
  subst hx
  exact hc _ ((All2.iff.1 h1).2 i c y hg hy)
 ·rw [List.getElem?_set_ne (Ne.symm e)] at hx
  exact (All2.iff.1 h1).2 i x y hx hy
theorem nil_data {H : Im} {B : Bl} (es : Nat) {ao : Option Addr} {c : Nat} (h1 : ao = none → c = 0) (h2 : c ≤ maxLen) (u : Value) (h : CR H B (.d (.raw (.slice ao 0 c))) u) : CR H B (.d (.sl es [])) u := by
 have := VR.rawI (H := H) (B := B) h
 subst this
 exact DR.nil es ao c h1 h2
section
variable {e : E} {f : F} {a : Act} {w : World}
theorem St.nilOS (h : St e f a w) (t j n es : Nat) (ty : TypeId) {v : V} (hv : f.s t = some v) (hg : v.getC j = some (.d (.raw nilV))) (hn : New e.K f n) : St e ((f.setL n (.row ty es [])).setS t (v.setC j (.own n 0))) a w := by
 obtain ⟨H, B, hok⟩ := h
 refine ⟨H, _, (hok.nilName n es ty hn).setS t v _ hv fun u hu => VR.setC hg (fun u hu => ?_) hu⟩
 have := VR.rawI (H := H) (B := fun x => if x = n then none else B x) hu
 subst this
 simp [CR, nilV]
theorem St.nilOL (h : St e f a w) (m j n es : Nat) (ty : TypeId) {cs : List C} (hv : f.l m = some (.box cs)) (hg : cs[j]? = some (.d (.raw nilV))) (hn : New e.K f n) : St e ((f.setL n (.row ty es [])).setL m (.box (cs.set j (.own n 0)))) a w := by
 obtain ⟨H, B, hok⟩ := h
 have hmn : m ≠ n := fun e => by have := hn.2.1; rw [← e, hv] at this; cases this
 refine ⟨H, _, (hok.nilName n es ty hn).setL m (.box cs) _ (by simp [F.setL, hmn, hv]) fun hu => LR.setC hg (fun u hu => ?_) hu⟩
 have := VR.rawI (H := H) (B := fun x => if x = n then none else B x) hu
 subst this
 simp [CR, nilV]
theorem St.nilDS (h : St e f a w) (t j es : Nat) {v : V} {ao : Option Addr} {c : Nat} (hv : f.s t = some v) (hg : v.getC j = some (.d (.raw (.slice ao 0 c)))) (h1 : ao = none → c = 0) (h2 : c ≤ maxLen) : St e (f.setS t (v.setC j (.d (.sl es [])))) a w := by
 obtain ⟨H, B, hok⟩ := h
 exact ⟨H, B, hok.setS t v _ hv fun u hu => VR.setC hg (nil_data es h1 h2) hu⟩
theorem St.nilDL (h : St e f a w) (m j es : Nat) {cs : List C} {ao : Option Addr} {c : Nat} (hv : f.l m = some (.box cs)) (hg : cs[j]? = some (.d (.raw (.slice ao 0 c)))) (h1 : ao = none → c = 0) (h2 : c ≤ maxLen) : St e (f.setL m (.box (cs.set j (.d (.sl es []))))) a w := by
 obtain ⟨H, B, hok⟩ := h
 exact ⟨H, B, hok.setL m (.box cs) _ hv fun hu => LR.setC hg (nil_data es h1 h2) hu⟩
end

theorem Ok.renew {e : E} {f g : F} {H : Im} {B : Bl} {a : Act} {w w' : World} (h : Ok e f H B a w) {n n' : Nat} {l l' : L} (hn : f.l n = some l) (hnew : New e.K f n') (p : Option (Nat × Nat))
  (ho : w'.os = w.os) (ht : w'.tape = w.tape) (hu : w'.output = w.output) (hz : w.heap.size ≤ w'.heap.size) (hk : ∀ k, k < w.heap.size → (∀ c, B n ≠ some (k, c)) → w'.heap[k]? = w.heap[k]?)
  (hp : ∀ b c, p = some (b, c) → b < w'.heap.size ∧ ((∃ c', B n = some (b, c')) ∨ w.heap.size ≤ b)) (lr : LR H (fun x => if x = n' then p else B x) w' n' l')
  (hs : ∀ t, g.s t = f.s t) (hl : ∀ m, g.l m = if m = n' then some l' else if m = n then none else f.l m) : Ok e g H (fun x => if x = n' then p else B x) a w' := by
 have hB : ∀ m, m ≠ n' → (fun x => if x = n' then p else B x) m = B m := fun m hm => by simp [hm]
 have cls : ∀ m x, g.l m = some x → (m = n' ∧ x = l') ∨ (m ≠ n' ∧ m ≠ n ∧ f.l m = some x) := by
  intro m x hm
  rw [hl] at hm
  split at hm
  ·rename_i e1; injection hm with hm; exact .inl ⟨e1, hm.symm⟩
  ·rename_i e1
   split at hm
   ·cases hm
   ·rename_i e2; exact .inr ⟨e1, e2, hm⟩
 refine ⟨h.df, h.n, ⟨ho.trans h.ext.os, ht.trans h.ext.tape, hu.trans h.ext.output, Nat.le_trans h.ext.size hz, ?_⟩, ?_, ?_, ?_, ?_, ?_, h.low, h.le, ?_⟩
 ·intro b hb hm
  have := h.ext.size
  rw [hk b (by omega) fun c hc => ?_]
  ·exact h.ext.block b hb hm
  ·rcases (h.priv n l b c hn hc).2.2 with h1 | h1
   ·exact hm h1
   ·omega
 ·intro b o hb
  have h1 := h.sat b o hb
  have : b < w.heap.size := (Array.getElem?_eq_some_iff.1 h1).1
  rw [hk b this fun c hc => ?_]
  ·exact h1
  ·rw [(h.priv n l b c hn hc).2.1] at hb; cases hb
 ·intro t v hv
  rw [hs] at hv
  exact VR.mono (Le.refl _) (fun m hm => hB m fun e => hnew.2.2.1 t v hv (e ▸ hm)) (h.slot t v hv)
 ·intro m x hm
  rcases cls m x hm with ⟨rfl, rfl⟩ | ⟨h1, h2, h3⟩
  ·exact lr
  ·refine LR.mono (Le.refl _) (hB m h1) (fun k hk2 => hB k fun e => hnew.2.2.2 m x h3 (e ▸ hk2)) (fun b c hb => ?_) (h.loc m x h3)
   refine hk b (h.priv m x b c h3 hb).1 fun c' hc' => h2 (h.inj m n x l b c c' h3 hn hb hc')
 ·intro m x b c hm hb
  rcases cls m x hm with ⟨rfl, rfl⟩ | ⟨h1, h2, h3⟩
  ·simp only [if_true] at hb
   obtain ⟨h4, h5⟩ := hp b c hb
   refine ⟨h4, ?_⟩
   rcases h5 with ⟨c', hc'⟩ | h5
   ·exact (h.priv n l b c' hn hc').2
   ·refine ⟨?_, .inr (Nat.le_trans h.ext.size h5)⟩
    cases hq : H b with
    | none => rfl
    | some o => have := (Array.getElem?_eq_some_iff.1 (h.sat b o hq)).1; omega
  ·simp only [if_neg h1] at hb
   obtain ⟨h4, h5⟩ := h.priv m x b c h3 hb
   exact ⟨Nat.lt_of_lt_of_le h4 hz, h5⟩
 ·have cross : ∀ m x b c c', m ≠ n → f.l m = some x → B m = some (b, c) → p = some (b, c') → False := by
   intro m x b c c' h2 h3 hb hb'
   rcases (hp b c' hb').2 with ⟨c2, hc2⟩ | h5
   ·exact h2 (h.inj m n x l b c c2 h3 hn hb hc2)
   ·have := (h.priv m x b c h3 hb).1; omega
  intro m k x y b c c' hm hk2 hb hb'
  rcases cls m x hm with ⟨rfl, rfl⟩ | ⟨h1, h2, h3⟩ <;> rcases cls k y hk2 with ⟨rfl, rfl⟩ | ⟨j1, j2, j3⟩
  ·rfl
  ·simp only [if_true] at hb
   simp only [if_neg j1] at hb'
   exact (cross k y b c' c j2 j3 hb' hb).elim
  ·simp only [if_true] at hb'
   simp only [if_neg h1] at hb
   exact (cross m x b c c' h2 h3 hb hb').elim
  ·simp only [if_neg h1] at hb
   simp only [if_neg j1] at hb'
   exact h.inj m k x y b c c' h3 j3 hb hb'
 ·intro m hm
  exact (hB m fun e => hnew.1 (e ▸ hm)).trans (h.keep m hm)

/-- an element type, with its zero and its size in bytes -/
structure ElT (P : Program) (t el : TypeId) (es bs : Nat) : Prop where
  hu : P.underlying t = some (.slice el)
  ex : ∃ i z, P.info? el = some i ∧ i.zero = some z ∧ i.size = es ∧ i.bytes = bs ∧ z.cells.size = es
  pos : 0 < es
  bpos : 0 < bs
theorem ElT.mk' {P : Program} {t el : TypeId} {es bs : Nat} (hu : P.underlying t = some (.slice el)) (i : TypeInfo) (z : Value) (h1 : P.info? el = some i) (h2 : i.zero = some z) (h3 : i.size = es) (h4 : i.bytes = bs) (h5 : z.cells.size = es) (h6 : 0 < es) (h7 : 0 < bs) : ElT P t el es bs := ⟨hu, ⟨i, z, h1, h2, h3, h4, h5⟩, h6, h7⟩
section
variable {P : Program}
theorem append_fresh {w : World} {el xt ty : TypeId} {i : TypeInfo} {z : Value} {es : Nat} (hu : P.underlying xt = some (.slice el)) (hi : P.info? el = some i) (hz : i.zero = some z) (hsz : i.size = es)
  {v : Value} {n : Nat} {xs : List Value} (hown : w.ownsRow 0 el es v n xs) {a : Addr} {m c : Nat} (hm : 0 < m) {news : List Value} (hl : news.length = m * es) (hnews : ∀ j u, news[j]? = some u → w.cell? (a.add j) = some u) (h1 : ∀ u ∈ news, u.oneCell' = true)
  (h63 : n + m ≤ maxLen) (hb : (n + m) * i.bytes ≤ 140737488355328) {v' : Value} {w' : World} (hr : (Builtin.append_ #[xt, xt] ty #[v, .slice (some a) m c]).run P w = .ok v' w') : ∀ g, v'.ownBlock = some g → v.ownBlock = some g ∨ g = w.heap.size := by
 subst hsz
 have hsmall : n + m ≤ 9223372036854775807 := by simp only [maxLen] at h63; omega
 intro g hg
 rcases hown.2 with ⟨rfl, rfl⟩ | ⟨g2, cap, cur, rfl, _, hg2, hnc, hcm, hcs, htake⟩
 ·have h2 := run_append_nil (P := P) w xt ty el i z hu hi hz a m c news hl hnews hm (by omega) (by have := hb; simp only [Nat.zero_add] at this; omega)
  rw [h2] at hr
  injection hr with hr _
  subst hr
  simp [Value.ownBlock] at hg
  exact .inr hg.symm
 ·by_cases hroom : n + m ≤ cap
  ·have hfit : n * i.size + news.length ≤ cur.size := by rw [hl, hcs, ← Nat.add_mul]; exact Nat.mul_le_mul_right _ hroom
   have h2 := run_append_room (P := P) w xt ty el i hu hi g2 n cap cur hg2 a m c news hl hnews h1 hroom hfit
   rw [h2] at hr
   injection hr with hr _
   subst hr
   exact .inl hg
  ·have holds : ∀ j u, xs[j]? = some u → w.cell? ((⟨g2, 0, none⟩ : Addr).add j) = some u := hown.cells (g := g2) rfl
   have h2 := run_append_grow (P := P) w xt ty el i z hu hi hz ⟨g2, 0, none⟩ n cap xs hown.1 holds a m c news hl hnews (by omega) (by omega) (growslice_fits (by omega) hb)
   rw [h2] at hr
   injection hr with hr _
   subst hr
   simp [Value.ownBlock] at hg
   exact .inr hg.symm
theorem append_base0 {w : World} {el xt ty : TypeId} {i : TypeInfo} {z : Value} {es : Nat} (hu : P.underlying xt = some (.slice el)) (hi : P.info? el = some i) (hz : i.zero = some z) (hsz : i.size = es)
  (a0 : Addr) {a : Addr} {m c : Nat} {news : List Value} (hl : news.length = m * es) (hnews : ∀ j u, news[j]? = some u → w.cell? (a.add j) = some u) (hm : 0 < m) (h63 : m ≤ maxLen) (hb : m * i.bytes ≤ 140737488355328) :
  (Builtin.append_ #[xt, xt] ty #[.slice (some a0) 0 0, .slice (some a) m c]).run P w = (Builtin.append_ #[xt, xt] ty #[.slice none 0 0, .slice (some a) m c]).run P w := by
 subst hsz
 have hsmall : m ≤ 9223372036854775807 := by simp only [maxLen] at h63; omega
 rw [run_append_nil (P := P) w xt ty el i z hu hi hz a m c news hl hnews hm (by omega) (by omega), run_append_grow (P := P) w xt ty el i z hu hi hz a0 0 0 [] (by simp) (by simp) a m c news hl hnews (by omega) (by omega) (growslice_fits (by omega) (by simpa using hb))]
 simp
theorem wp_of_run {o : Oper} {e : E} {g : F} {d : Nat} {v : Value} {a : Act} {w w' : World} {Q : Exit → Act → World → Prop} (hd : o.dst = some d) (hrun : (execOp a.eval o).run P w = .ok (.value v) w') (h : St e g (a.put (some d) v) w') :
  Oper.wp P o a w (fun a' w' => St e g a' w') Q := by
 unfold Oper.wp
 rw [hrun, Oper.upon_value, hd]
 exact h
theorem DR.cellsAt {H : Im} {es : Nat} {rows : List (List D)} {w : World} (hsat : ∀ b o, H b = some o → w.heap[b]? = some o) {b o : Nat} {arr : Array Value} {ty : TypeId} {fz : Nat × Nat} {vs : Nat → Nat → Value} (hb : H b = some (.cells arr ty fz)) (hes : ∀ i (hi : i < rows.length), (rows[i]'hi).length = es)
  (hv : ∀ i (_ : i < rows.length) j, j < es → arr[o + i * es + j]? = some (vs i j)) (hr : ∀ i (hi : i < rows.length) j (hj : j < rows[i].length), DR H rows[i][j] (vs i j)) :
  ∃ news : List Value, news.length = rows.length * es ∧ (∀ j u, news[j]? = some u → w.cell? ((⟨b, o, none⟩ : Addr).add j) = some u) ∧ RowAt H news es rows ∧ (∀ u ∈ news, u.oneCell' = true) := by
 have hw := hsat b _ hb
 have hget : ∀ j, j < rows.length * es → 0 < es ∧ j / es < rows.length ∧ j % es < es ∧ j = j / es * es + j % es := by
  intro j hj
  have he : 0 < es := Nat.pos_of_ne_zero fun e => by simp [e] at hj
  exact ⟨he, Nat.div_lt_of_lt_mul (by rw [Nat.mul_comm]; exact hj), Nat.mod_lt _ he, by rw [Nat.mul_comm]; exact (Nat.div_add_mod j es).symm⟩
 refine ⟨(List.range (rows.length * es)).map fun j => vs (j / es) (j % es), by simp, ?_, ?_, ?_⟩
 ·intro j u hu
  rw [List.getElem?_map] at hu
  by_cases hj : j < rows.length * es
  ·rw [List.getElem?_range hj] at hu
   injection hu with hu
   obtain ⟨h1, h2, h3, h4⟩ := hget j hj
   rw [Addr.add_mid]
   have := hv (j / es) h2 (j % es) h3
   rw [Nat.add_assoc, ← h4] at this
   subst hu
   simp [World.cell?, hw, this]
  ·rw [List.getElem?_eq_none (by simpa using hj)] at hu; cases hu
 ·intro i r hri f x hx
  obtain ⟨hi, rfl⟩ := List.getElem?_eq_some_iff.1 hri
  obtain ⟨hf, rfl⟩ := List.getElem?_eq_some_iff.1 hx
  have hf' : f < es := by rw [← hes i hi]; exact hf
  have hlt : i * es + f < rows.length * es := by
   have : (i + 1) * es ≤ rows.length * es := Nat.mul_le_mul_right _ hi
   rw [Nat.add_mul] at this; omega
  have e1 : (i * es + f) / es = i := by rw [Nat.mul_comm, Nat.mul_add_div (by omega)]; simp [Nat.div_eq_of_lt hf']
  have e2 : (i * es + f) % es = f := by rw [Nat.mul_comm, Nat.mul_add_mod]; exact Nat.mod_eq_of_lt hf'
  refine ⟨vs i f, ?_, hr i hi f hf⟩
  rw [List.getElem?_map, List.getElem?_range hlt]
  simp [e1, e2]
 ·intro u hu
  simp only [List.mem_map, List.mem_range] at hu
  obtain ⟨j, hj, rfl⟩ := hu
  obtain ⟨h1, h2, h3, h4⟩ := hget j hj
  exact flat_one (DR.flat (hr (j / es) h2 (j % es) (by rw [hes _ h2]; exact h3)))
theorem Op.appOD {d t u n n' len len' es bs : Nat} {rows rows2 rows' : List (List D)} {xt el ty : TypeId} {pos af gd} (hT : ElT P xt el es bs) (hlen : len = rows.length) (hlen' : len' = len + rows2.length) (hrow : rows ++ rows2 = rows')
  (hes2 : ∀ r ∈ rows2, r.length = es) (hb : (len + rows2.length) * bs ≤ 140737488355328) :
  OpOk P ⟨some d, .call { callee := .builtin .append, args := #[.tmp t, .tmp u], argTypes := #[xt, xt] }, ty, pos, af, gd⟩
   { rs := [(t, .t (.c (.own n len))), (u, .t (.c (.d (.sl es rows2))))], rl := [(n, .row el es rows)], ws := [(d, some (.t (.c (.own n' len'))))], wl := [(n', some (.row el es rows')), (n, none)], nw := [n'] } := by
 rintro e f a w Q ⟨H, B, hok⟩ hr hnw hb0
 subst hlen hlen' hrow
 have hnew := hnw n' (by simp)
 have hl := hr.2 (n, .row el es rows) (by simp)
 have h1 : CR H B (.own n rows.length) (a.eval (.tmp t)) := hok.slot t _ (hr.1 (t, .t (.c (.own n rows.length))) (by simp))
 have h2 : DR H (.sl es rows2) (a.eval (.tmp u)) := hok.slot u _ (hr.1 (u, .t (.c (.d (.sl es rows2)))) (by simp))
 obtain ⟨i, z, hi, hz, hsz, hby, hzs⟩ := hT.ex
 have hne : n ≠ n' := fun e => by have := hnew.2.1; rw [← e, hl] at this; cases this
 have hlr := hok.loc n _ hl
 have hml : rows.length + rows2.length ≤ maxLen := by
  have : (rows.length + rows2.length) * 1 ≤ (rows.length + rows2.length) * bs := Nat.mul_le_mul_left _ hT.bpos
  simp only [maxLen]; omega
 -- the run, the new block
 have main : ∃ v w' p, (Builtin.append_ #[xt, xt] ty #[a.eval (.tmp t), a.eval (.tmp u)]).run P w = .ok v w' ∧ CR H (fun x => if x = n' then p else B x) (.own n' (rows.length + rows2.length)) v ∧
   LR H (fun x => if x = n' then p else B x) w' n' (.row el es (rows ++ rows2)) ∧ w'.os = w.os ∧ w'.tape = w.tape ∧ w'.output = w.output ∧ w.heap.size ≤ w'.heap.size ∧ (∀ k, k < w.heap.size → (∀ c, B n ≠ some (k, c)) → w'.heap[k]? = w.heap[k]?) ∧
   (∀ b c, p = some (b, c) → b < w'.heap.size ∧ ((∃ c', B n = some (b, c')) ∨ w.heap.size ≤ b)) := by
  generalize a.eval (.tmp t) = vt at h1
  generalize a.eval (.tmp u) = vu at h2
  -- nothing is added
  have empty : ∀ ao c, rows2 = [] → ∃ v w' p, (Builtin.append_ #[xt, xt] ty #[vt, .slice ao 0 c]).run P w = .ok v w' ∧ CR H (fun x => if x = n' then p else B x) (.own n' (rows.length + rows2.length)) v ∧
    LR H (fun x => if x = n' then p else B x) w' n' (.row el es (rows ++ rows2)) ∧ w'.os = w.os ∧ w'.tape = w.tape ∧ w'.output = w.output ∧ w.heap.size ≤ w'.heap.size ∧ (∀ k, k < w.heap.size → (∀ c, B n ≠ some (k, c)) → w'.heap[k]? = w.heap[k]?) ∧
    (∀ b c, p = some (b, c) → b < w'.heap.size ∧ ((∃ c', B n = some (b, c')) ∨ w.heap.size ≤ b)) := by
   rintro ao c rfl
   have hrun : ∀ base m cap, m ≤ cap → (Builtin.append_ #[xt, xt] ty #[.slice base m cap, .slice ao 0 c]).run P w = .ok (.slice base m cap) w := by
    intro base m cap hmc
    cases ao <;> cases base <;> simp [Builtin.append_, run_underlying hT.hu, sizeOf, typeInfo, hi, Builtin.lenOf, hmc, Builtin.firstCells, loadCells, loadCellsFrom, storeCells]
   refine ⟨vt, w, B n, ?_, ?_, ?_, rfl, rfl, rfl, Nat.le_refl _, fun _ _ _ => rfl, fun b c hb => ⟨(hok.priv n _ b c hl hb).1, .inl ⟨c, hb⟩⟩⟩
   ·simp only [CR] at h1
    cases hB : B n with
    | none => rw [hB] at h1; obtain ⟨_, ao0, h1⟩ := h1; rw [h1]; exact hrun ao0 0 0 (Nat.le_refl _)
    | some q =>
     obtain ⟨b, cc⟩ := q
     rw [hB] at h1
     obtain ⟨arr, g1, g2, g3, g4, g5, g6⟩ := hok.row hl hB
     rw [h1]; exact hrun _ _ _ g3
   ·simp only [CR, if_true, List.length_nil, Nat.add_zero] at h1 ⊢; exact h1
   ·simp only [LR, if_true, List.append_nil] at hlr ⊢; exact hlr
  cases h2 with
  | nil _ ao c _ _ => exact empty ao c rfl
  | sl _ _ b o c arr ty' fz vs hp hbH hl2 hc hes hv hx =>
   obtain ⟨news, n1, n2, n3, n4⟩ := DR.cellsAt hok.sat hbH hes hv hx
   obtain ⟨vt0, hvt0, hblk, hown⟩ : ∃ vt0, (Builtin.append_ #[xt, xt] ty #[vt, .slice (some ⟨b, o, none⟩) rows2.length c]).run P w = (Builtin.append_ #[xt, xt] ty #[vt0, .slice (some ⟨b, o, none⟩) rows2.length c]).run P w ∧ vt0.ownBlock = (B n).map (·.1) ∧ ∃ xs, w.ownsRow 0 el es vt0 rows.length xs ∧ RowAt H xs es rows := by
    simp only [CR] at h1
    cases hB : B n with
    | none =>
     simp only [LR, hB] at hlr
     rw [hB] at h1
     subst hlr
     obtain ⟨_, ao0, rfl⟩ := h1
     refine ⟨.slice none 0 0, ?_, rfl, [], ⟨by simp, .inl ⟨rfl, rfl⟩⟩, fun i r hr => by simp at hr⟩
     cases ao0 with
     | none => rfl
     | some a0 => exact append_base0 hT.hu hi hz hsz a0 n1 n2 hp (by simpa using hml) (by rw [hby]; simpa using hb)
    | some q =>
     obtain ⟨b2, cc⟩ := q
     rw [hB] at h1
     obtain ⟨arr2, g1, g2, g3, g4, g5, g6⟩ := hok.row hl hB
     have hle : rows.length * es ≤ cc * es := Nat.mul_le_mul_right _ g3
     refine ⟨vt, rfl, by rw [h1]; rfl, arr2.take (rows.length * es), ⟨by rw [List.length_take]; omega, .inr ⟨b2, cc, ⟨arr2⟩, h1, Nat.zero_le _, g1, g3, g4, by simpa using g2, rfl⟩⟩, ?_⟩
     intro i r hri f x hx2
     obtain ⟨u, k1, k2⟩ := g6 i r hri f x hx2
     refine ⟨u, ?_, k2⟩
     have hi2 := (List.getElem?_eq_some_iff.1 hri).1
     have hf2 := (List.getElem?_eq_some_iff.1 hx2).1
     rw [g5 r (List.mem_of_getElem? hri)] at hf2
     have : (i + 1) * es ≤ rows.length * es := Nat.mul_le_mul_right _ hi2
     rw [Nat.add_mul] at this
     rw [List.getElem?_take, if_pos (by omega)]; exact k1
   obtain ⟨xs, hown, hxs⟩ := hown
   obtain ⟨v', w', r1, r2, r3, r4⟩ := run_append_own (P := P) w 0 xt ty el i z es bs hT.hu hi hz hsz hby hzs hT.pos vt0 rows.length xs hown ⟨b, o, none⟩ rows2.length c news n1 n2 n4 hml hb (Nat.zero_le _)
   have hall : ∀ r ∈ rows ++ rows2, r.length = es := by
    intro r hr2
    rcases List.mem_append.1 hr2 with h' | h'
    ·cases hB : B n with
     | none => simp only [LR, hB] at hlr; rw [hlr] at h'; cases h'
     | some q => obtain ⟨_, _, _, _, _, g5, _⟩ := hok.row hl hB; exact g5 r h'
    ·exact hes2 r h'
   have hboth : RowAt H (xs ++ news) es (rows ++ rows2) := by
    intro i2 r hri f x hx2
    by_cases hlt : i2 < rows.length
    ·rw [List.getElem?_append_left hlt] at hri
     obtain ⟨u, k1, k2⟩ := hxs i2 r hri f x hx2
     exact ⟨u, by rw [List.getElem?_append_left (List.getElem?_eq_some_iff.1 k1).1]; exact k1, k2⟩
    ·rw [List.getElem?_append_right (by omega)] at hri
     obtain ⟨u, k1, k2⟩ := n3 _ r hri f x hx2
     refine ⟨u, ?_, k2⟩
     have hq : rows.length * es ≤ i2 * es := Nat.mul_le_mul_right _ (by omega)
     rw [List.getElem?_append_right (by rw [hown.1]; omega), hown.1, ← k1]
     congr 1
     rw [Nat.sub_mul]; omega
   obtain ⟨q1, q2⟩ := r2
   have hkk : ∀ k, k < w.heap.size → (∀ c, B n ≠ some (k, c)) → w'.heap[k]? = w.heap[k]? := by
    intro k hk hnk
    refine r3.block k hk ?_
    rw [hblk]
    intro e1
    cases hB : B n with
    | none => rw [hB] at e1; cases e1
    | some q => obtain ⟨b2, cc⟩ := q; rw [hB] at e1; simp at e1; exact hnk cc (by rw [hB, e1])
   rcases q2 with ⟨_, hn0⟩ | ⟨g, cap, cur, rfl, _, k2, k3, k4, k5, k6⟩
   ·omega
   ·refine ⟨_, w', some (g, cap), hvt0.trans r1, ?_, ?_, r3.os, r3.tape, r3.output, r3.size, hkk, ?_⟩
    ·simp [CR]
    ·simp only [LR, if_true]
     refine ⟨cur.toList, k2, by simpa using k5, by simpa using k3, k4, hall, ?_⟩
     refine (rowAt_iff (by simpa using k5) (by simpa using k3) hall).2 fun i2 r hri f x hx2 => ?_
     obtain ⟨u, j1, j2⟩ := hboth i2 r hri f x hx2
     refine ⟨u, ?_, j2⟩
     rw [← k6, List.getElem?_take] at j1
     split at j1
     ·exact j1
     ·cases j1
    ·rintro b3 c3 e3
     injection e3 with e3
     injection e3 with e3 e4
     subst e3 e4
     refine ⟨(Array.getElem?_eq_some_iff.1 k2).1, ?_⟩
     rcases append_fresh hT.hu hi hz hsz hown hp n1 n2 n4 hml (by rw [hby]; exact hb) r1 g rfl with hh | hh
     ·rw [hblk] at hh
      cases hB : B n with
      | none => rw [hB] at hh; cases hh
      | some q => obtain ⟨b2, cc⟩ := q; rw [hB] at hh; simp at hh; exact .inl ⟨cc, by rw [hh]⟩
     ·exact .inr (by omega)
 obtain ⟨v, w', p, r1, r2, r3, r4, r5, r6, r7, r8, r9⟩ := main
 have hok' : Ok e ⟨f.s, fun m => if m = n' then some (.row el es (rows ++ rows2)) else if m = n then none else f.l m⟩ H (fun x => if x = n' then p else B x) a w' :=
  hok.renew hl hnew p r4 r5 r6 r7 r8 r9 r3 (fun _ => rfl) (fun _ => rfl)
 refine wp_of_run (d := d) rfl ?_ ⟨H, _, hok'.put (x := some (.t (.c (.own n' (rows.length + rows2.length))))) (hb0.1 (d, some (.t (.c (.own n' (rows.length + rows2.length))))) (by simp)) (app1_s f d _ _ rfl) (fun m => ?_) (fun y hy => by injection hy with hy; subst hy; exact r2)⟩
 ·generalize a.eval = ρ at r1 ⊢
  have e1 : (Array.map ρ #[.tmp t, .tmp u]) = #[ρ (.tmp t), ρ (.tmp u)] := by simp
  simp only [execOp, resolve, e1, Sem.run_bind, Sem.run_pure, Result.andThen_ok, invoke, builtin, r1]
 ·simp only [F.app, List.lookup]
  by_cases e1 : m = n'
  ·simp [e1]
  ·have g1 : (m == n') = false := by simpa using e1
   by_cases e2 : m = n
   ·subst e2; simp [g1, e1]
   ·have g2 : (m == n) = false := by simpa using e2
    simp [g1, g2, e1, e2]
end
end Go.Proofs.YtmohlifepfjmdaaGreat.S
end
section
namespace Go.Proofs.YtmohlifepfjmdaaGreat.S
open Go.RowKit

section
variable {w0 : World} {H0 : Im} {B0 : Bl} {K : List Nat} {N : Nat} {a : Act} {w : World} {sl : List (Nat × V)} {lc : List (Nat × L)}
theorem ofS_mem {t : Nat} {v : V} (h : (F.of sl lc).s t = some v) : (t, v) ∈ sl := lookup_mem h
theorem ofL_mem {n : Nat} {l : L} (h : (F.of sl lc).l n = some l) : (n, l) ∈ lc := lookup_mem h
theorem pubS (n es : Nat) (ty : TypeId) (rows : List (List D)) (sl' : List (Nat × V)) (lc' : List (Nat × L)) (h : St ⟨w0, H0, B0, [], N⟩ (F.of sl lc) a w) (hl : lc.lookup n = some (.row ty es rows))
  (h1 : AllEq rows.length (sl.flatMap (·.2.owns n))) (h2 : AllEq rows.length (lc.flatMap (·.2.owns n))) (h3 : leS ((F.of sl lc).pub n es rows) sl' = sl'.map fun p => some p.2) (h4 : leN ((F.of sl lc).pub n es rows) lc' = lc'.map fun p => some p.2) :
  St ⟨w0, H0, B0, [], N⟩ (F.of sl' lc') a w :=
 (h.pub n es ty rows hl (fun t v hv k hk => AllEq.mem h1 k (List.mem_flatMap.2 ⟨(t, v), ofS_mem hv, hk⟩)) (fun m l hm k hk => AllEq.mem h2 k (List.mem_flatMap.2 ⟨(m, l), ofL_mem hm, hk⟩))).weaken (le_of h3 h4)
theorem renS (n m : Nat) (sl' : List (Nat × V)) (lc' : List (Nat × L)) (h : St ⟨w0, H0, B0, K, N⟩ (F.of sl lc) a w) (hn : newB K sl lc m = true)
  (h3 : leS ((F.of sl lc).ren n m) sl' = sl'.map fun p => some p.2) (h4 : leN ((F.of sl lc).ren n m) lc' = lc'.map fun p => some p.2) : St ⟨w0, H0, B0, K, N⟩ (F.of sl' lc') a w :=
 (h.ren n m (newB_spec hn)).weaken (le_of h3 h4)
theorem nilOSs (t j n es : Nat) (ty : TypeId) (v : V) (sl' : List (Nat × V)) (lc' : List (Nat × L)) (h : St ⟨w0, H0, B0, K, N⟩ (F.of sl lc) a w) (hn : newB K sl lc n = true) (hv : sl.lookup t = some v) (hg : v.getC j = some (.d (.raw nilV)))
  (h3 : leS (((F.of sl lc).setL n (.row ty es [])).setS t (v.setC j (.own n 0))) sl' = sl'.map fun p => some p.2) (h4 : leN (((F.of sl lc).setL n (.row ty es [])).setS t (v.setC j (.own n 0))) lc' = lc'.map fun p => some p.2) : St ⟨w0, H0, B0, K, N⟩ (F.of sl' lc') a w :=
 (h.nilOS t j n es ty hv hg (newB_spec hn)).weaken (le_of h3 h4)
theorem nilOLs (m j n es : Nat) (ty : TypeId) (cs : List C) (sl' : List (Nat × V)) (lc' : List (Nat × L)) (h : St ⟨w0, H0, B0, K, N⟩ (F.of sl lc) a w) (hn : newB K sl lc n = true) (hv : lc.lookup m = some (.box cs)) (hg : cs[j]? = some (.d (.raw nilV)))
  (h3 : leS (((F.of sl lc).setL n (.row ty es [])).setL m (.box (cs.set j (.own n 0)))) sl' = sl'.map fun p => some p.2) (h4 : leN (((F.of sl lc).setL n (.row ty es [])).setL m (.box (cs.set j (.own n 0)))) lc' = lc'.map fun p => some p.2) : St ⟨w0, H0, B0, K, N⟩ (F.of sl' lc') a w :=
 (h.nilOL m j n es ty hv hg (newB_spec hn)).weaken (le_of h3 h4)
theorem nilDLs (m j es : Nat) (cs : List C) (sl' : List (Nat × V)) (lc' : List (Nat × L)) (h : St ⟨w0, H0, B0, K, N⟩ (F.of sl lc) a w) (hv : lc.lookup m = some (.box cs)) (hg : cs[j]? = some (.d (.raw nilV)))
  (h3 : leS ((F.of sl lc).setL m (.box (cs.set j (.d (.sl es []))))) sl' = sl'.map fun p => some p.2) (h4 : leN ((F.of sl lc).setL m (.box (cs.set j (.d (.sl es []))))) lc' = lc'.map fun p => some p.2) : St ⟨w0, H0, B0, K, N⟩ (F.of sl' lc') a w :=
 (h.nilDL m j es (ao := none) hv hg (fun _ => rfl) (Nat.zero_le _)).weaken (le_of h3 h4)
end

section
variable {P : Program}
def A.c : A → C
  | .d x => .d x
  | .ptr n o => .ptr n o
theorem AR.c {H : Im} {B : Bl} {x : A} {v : Value} (h : AR H B x v) : CR H B x.c v := by cases x <;> exact h
def capV (cs : List A) : List V := cs.map fun x => .t (.c x.c)
theorem Op.callV {k : FuncId} {cap : List A} {ps qs : List (Nat × L)} {args : List V} {res : V} (hc : Fn P k ps (args ++ capV cap) res qs) (hk : Bodied P k) {d t : Nat} {xs : List Operand} {rs : List (Nat × V)} {tys : Array TypeId} {ty pos af gd} (h : OVs xs args rs) :
  OpOk P ⟨some d, .call { callee := .value (.tmp t), args := ⟨xs⟩, argTypes := tys }, ty, pos, af, gd⟩ (callI ((t, .t (.c (.fn (.func k) [] cap))) :: rs) ps qs d res) := by
 rintro e f a w Q ⟨H, B, hok⟩ hr hnw hb
 obtain ⟨vs1, vs2, hfv, hf1, hf2⟩ : CR H B (.fn (.func k) [] cap) (a.eval (.tmp t)) := hok.slot t _ (hr.1 (t, .t (.c (.fn (.func k) [] cap))) (by simp [callI]))
 obtain rfl : vs1 = [] := by cases vs1 with
  | nil => rfl
  | cons _ _ => exact hf1.elim
 have hex : (execOp a.eval ⟨some d, .call { callee := .value (.tmp t), args := ⟨xs⟩, argTypes := tys }, ty, pos, af, gd⟩).run P w = .ok (.enter k ⟨xs.map a.eval ++ vs2⟩) w := by
  have h1 : a.eval (.tmp t) = .func (.func k) #[] ⟨vs2⟩ := hfv
  have h2 : (⟨xs⟩ : Array Operand).map a.eval = ⟨xs.map a.eval⟩ := by simp
  simp only [execOp, resolve, h1, h2, Deferred.ofValue, Sem.run_bind, Sem.run_pure, Result.andThen_ok, invoke]
  rw [run_callee hk]
  simp
 have hargs := h.eval hok fun p hp => hr.1 p (by simp [callI, hp])
 have hcap : All2 (VR H B) (capV cap) vs2 := All2.mapL _ hf2 fun a _ b hab => AR.c hab
 have hps : ∀ p ∈ ps, f.l p.1 = some p.2 := hr.2
 have pre : Pre ps (args ++ capV cap) w H B (xs.map a.eval ++ vs2) := ⟨hok.sat, fun p hp => hok.loc _ _ (hps p hp), fun p hp b c hb2 => by
   obtain ⟨h1, h2, _⟩ := hok.priv _ _ b c (hps p hp) hb2
   exact ⟨h1, h2⟩, fun p hp q hq b c c' h1 h2 => hok.inj _ _ _ _ b c c' (hps p hp) (hps q hq) h1 h2, All2.append hargs hcap⟩
 unfold Oper.wp
 rw [hex, Oper.upon_enter]
 refine (hc w H B _ pre).mono ?_
 rintro en w' ⟨v, H', B', rfl, post⟩
 have hnew : ∀ n, n ∈ qs.map (·.1) → n ∉ ps.map (·.1) → New e.K f n := by
  intro n h1 h2
  refine hnw n ?_
  simp only [callI, List.mem_filter]
  refine ⟨h1, ?_⟩
  cases hx : hasN (ps.map (·.1)) n with
  | false => rfl
  | true => exact absurd (hasN_iff.1 hx) h2
 have h1 : Ok e ⟨f.s, (f.app (callI ((t, .t (.c (.fn (.func k) [] cap))) :: rs) ps qs d res)).l⟩ H' B' a w' := hok.called (g := ⟨f.s, (f.app (callI ((t, .t (.c (.fn (.func k) [] cap))) :: rs) ps qs d res)).l⟩) hps hnew post (fun _ => rfl) (fun n => by
  simp only [F.app, callI, lookup_wl]
  cases qs.lookup n with
  | some l => rfl
  | none => by_cases hm : n ∈ ps.map (·.1) <;> simp [hm])
 exact ⟨H', B', h1.put (x := some res) (hb.1 (d, some res) (by simp [callI])) (app1_s f d (some res) _ rfl) (fun n => rfl) (fun y hy => by injection hy with hy; subst hy; exact post.res)⟩

/-! slices built -/
theorem fill_ok' {H : Im} {B : Bl} (place : Nat → Option (Nat × Nat)) (pl : List (Nat × Nat)) (hpl : ∀ i q, pl[i]? = some q → place i = some q) : ∀ (parts : List (Nat × T)) (us : List (Nat × Value)) (cs : List C) (cells : List Value) (out : List C), All2 (fun p u => p.1 = u.1 ∧ TR H B p.2 u.2) parts us → All2 (CR H B) cs cells → fillC pl cs parts = some out →
  ∃ l, Instr.fill place ⟨cells⟩ us = some ⟨l⟩ ∧ All2 (CR H B) out l
 | [], [], cs, cells, out, _, hc, hf => by simp only [fillC, Option.some.injEq] at hf; subst hf; exact ⟨cells, rfl, hc⟩
 | (i, x) :: r, (j, u) :: us, cs, cells, out, h, hc, hf => by
  obtain ⟨⟨h1, h2⟩, h3⟩ := h
  simp only at h1 h2
  subst h1
  simp only [fillC] at hf
  cases hp : pl[i]? with
  | none => rw [hp] at hf; cases hf
  | some q =>
   obtain ⟨off, size⟩ := q
   rw [hp] at hf
   simp only at hf
   split at hf
   ·rename_i hcond
    obtain ⟨l, g1, g2⟩ := TR.cells h2
    obtain ⟨l', k1, k2⟩ := fill_ok' place pl hpl r us _ _ out h3 (hc.put off g2) hf
    refine ⟨l', ?_, k2⟩
    have e1 : place i = some (off, size) := hpl i _ hp
    have hl : l.length = size := by rw [← g2.length]; exact hcond.1
    have hcl := hc.length
    simp only [Instr.fill, e1, g1]
    rw [if_neg (by simp [hl]; omega)]
    have := fold_put off l 0 cells
    rw [Nat.add_zero] at this
    rw [← k1, ← this]
    congr 1
    rw [← Array.foldl_toList, Array.toList_zipIdx]
   ·cases hf
 | [], _ :: _, _, _, _, h, _, _ => h.elim
 | _ :: _, [], _, _, _, h, _, _ => h.elim
def plS : Nat → Nat → Nat → List (Nat × Nat)
  | 0, _, _ => []
  | len + 1, i, es => (i * es, es) :: plS len (i + 1) es
theorem plS_get : ∀ (len i es j : Nat) q, (plS len i es)[j]? = some q → q = ((i + j) * es, es) ∧ j < len
 | 0, _, _, _, _, h => by simp [plS] at h
 | len + 1, i, es, 0, q, h => by simp [plS] at h; subst h; exact ⟨rfl, by omega⟩
 | len + 1, i, es, j + 1, q, h => by
  obtain ⟨h1, h2⟩ := plS_get len (i + 1) es j q (by simpa [plS] using h)
  exact ⟨by rw [h1, show i + 1 + j = i + (j + 1) by omega], by omega⟩
/-- an element type whose zero is made of single cells -/
structure ElZ (P : Program) (t el : TypeId) (es : Nat) : Prop where
  hu : P.underlying t = some (.slice el)
  ex : ∃ i z, P.info? el = some i ∧ i.zero = some z ∧ i.size = es ∧ z.cells.size = es ∧ z.cells.toList.all flat = true
  pos : 0 < es
theorem ElZ.mk' {P : Program} {t el : TypeId} {es : Nat} (hu : P.underlying t = some (.slice el)) (i : TypeInfo) (z : Value) (h1 : P.info? el = some i) (h2 : i.zero = some z) (h3 : i.size = es) (h5 : z.cells.size = es) (h6 : z.cells.toList.all flat = true) (h7 : 0 < es) : ElZ P t el es := ⟨hu, ⟨i, z, h1, h2, h3, h5, h6⟩, h7⟩
theorem buildS_run {t el : TypeId} {es len : Nat} (hT : ElZ P t el es) (hlen : 0 < len) (hsm : len * es ≤ 16777216) {parts : List (Nat × T)} {us : List (Nat × Value)} {H : Im} {B : Bl} {out : List C} (hp : All2 (fun p u => p.1 = u.1 ∧ TR H B p.2 u.2) parts us)
    (hf : fillC (plS len 0 es) (List.replicate (len * es) .any) parts = some out) (w : World) :
    ∃ l : List Value, (Instr.buildSlice t len ⟨us⟩).run P w = .ok (.slice (some ⟨w.heap.size, 0, none⟩) len len) (w.alloc (.cells ⟨l⟩ el)) ∧ All2 (CR H B) out l := by
  obtain ⟨i, z, hi, hz, hsz, hzs, hfl⟩ := hT.ex
  have hcells : All2 (CR H B) (List.replicate (len * es) .any) ((Array.range (len * es)).map (z.cells[· % z.cells.size]!)).toList := by
    refine All2.iff.2 ⟨by simp, fun j x u hx hu => ?_⟩
    have hx' := List.mem_of_getElem? hx
    have := List.eq_of_mem_replicate hx'
    subst this
    simp only [Array.toList_map, List.getElem?_map] at hu
    cases hr : (Array.range (len * es)).toList[j]? with
    | none => rw [hr] at hu; cases hu
    | some k =>
      rw [hr] at hu
      injection hu with hu
      subst hu
      have hk : k % z.cells.size < z.cells.size := Nat.mod_lt _ (by rw [hzs]; exact hT.pos)
      show flat (z.cells[k % z.cells.size]!) = true
      rw [getElem!_pos z.cells _ hk]
      have := List.all_eq_true.1 hfl (z.cells[k % z.cells.size]'hk) (by simp)
      exact this
  have hpl : ∀ i q, (plS len 0 es)[i]? = some q → (fun i => some (i * es, es)) i = some q := by
    intro j q hq
    obtain ⟨h1, _⟩ := plS_get len 0 es j q hq
    rw [h1, Nat.zero_add]
  obtain ⟨l, h1, h2⟩ := fill_ok' (fun i => some (i * es, es)) (plS len 0 es) hpl parts us _ _ out hp hcells hf
  refine ⟨l, ?_, h2⟩
  have hne : ¬ len * i.size = 0 := by rw [hsz]; have := Nat.mul_pos hlen hT.pos; omega
  refine run_buildSlice (P := P) w t el len ⟨us⟩ ⟨l⟩ i z hT.hu hi hz (by rw [hsz]; omega) hne ?_
  subst hsz
  exact h1
theorem Ok.newData {e : E} {f : F} {H : Im} {B : Bl} {a : Act} {w : World} (h : Ok e f H B a w) (o : Obj) : Ok e f (fun b => if b = w.heap.size then some o else H b) B a (w.alloc o) ∧ Le H (fun b => if b = w.heap.size then some o else H b) := by
 have hold : ∀ b, b < w.heap.size → (w.alloc o).heap[b]? = w.heap[b]? := fun b hb => Below.heap_alloc w o b hb
 have hlt : ∀ b x, H b = some x → b < w.heap.size := fun b x hb => (Array.getElem?_eq_some_iff.1 (h.sat b x hb)).1
 have hle : Le H (fun b => if b = w.heap.size then some o else H b) := by
  intro b x hb
  have := hlt b x hb
  have hne : b ≠ w.heap.size := by omega
  simp [hne, hb]
 refine ⟨⟨h.df, h.n, ⟨h.ext.os, h.ext.tape, h.ext.output, ?_, ?_⟩, ?_, fun t v hv => VR.mono hle (fun _ _ => rfl) (h.slot t v hv), ?_, ?_, h.inj, ?_, h.le.trans hle, h.keep⟩, hle⟩
 ·have := h.ext.size; simp; omega
 ·intro b hb hm; have := h.ext.size; rw [hold b (by omega)]; exact h.ext.block b hb hm
 ·intro b x hx
  by_cases e1 : b = w.heap.size
  ·subst e1
   simp only [if_true] at hx
   rw [← hx]
   exact heap_alloc_new w o
  ·simp only [if_neg e1] at hx
   rw [hold b (hlt b x hx)]; exact h.sat b x hx
 ·intro n l hn
  exact LR.mono hle rfl (fun _ _ => rfl) (fun b c hb => hold b (h.priv n l b c hn hb).1) (h.loc n l hn)
 ·intro n l b c hn hb
  obtain ⟨h1, h2, h3⟩ := h.priv n l b c hn hb
  exact ⟨by simp; omega, by simp only [if_neg (show b ≠ w.heap.size by omega)]; exact h2, h3⟩
 ·intro b hb
  have := h.ext.size
  simp only [if_neg (show b ≠ w.heap.size by omega)]
  exact h.low b hb
theorem rowAt_of {H : Im} {B : Bl} {es : Nat} {rows : List (List D)} {l : List Value} (hes : ∀ r ∈ rows, r.length = es) (h : All2 (CR H B) (rows.flatten.map C.d) l) : RowAt H l es rows := by
 intro i r hr f x hx
 have hf : f < es := by rw [← hes r (List.mem_of_getElem? hr)]; exact (List.getElem?_eq_some_iff.1 hx).1
 have e1 : (rows.flatten.map C.d)[i * es + f]? = some (.d x) := by
  rw [List.getElem?_map, flat_at hes i f hf, hr]; simp [hx]
 have hlt : i * es + f < l.length := by rw [← h.length]; exact (List.getElem?_eq_some_iff.1 e1).1
 exact ⟨_, List.getElem?_eq_getElem hlt, (All2.iff.1 h).2 _ _ _ e1 (List.getElem?_eq_getElem hlt)⟩
theorem Op.buildD {d len es : Nat} {rows : List (List D)} {xs : List (Nat × Operand)} {vs : List (Nat × T)} {rs : List (Nat × V)} {t el ty : TypeId} {pos af gd} (hT : ElZ P t el es) (h : OPs xs vs rs) (hf : fillC (plS len 0 es) (List.replicate (len * es) .any) vs = some (rows.flatten.map C.d))
  (hlen : rows.length = len) (hes : ∀ r ∈ rows, r.length = es) (hl0 : 0 < len) (hsm : len * es ≤ 16777216) :
  OpOk P ⟨some d, .buildSlice t len ⟨xs⟩, ty, pos, af, gd⟩ { rs := rs, ws := [(d, some (.t (.c (.d (.sl es rows)))))] } := by
 rintro e f a w Q ⟨H, B, hok⟩ hr hnw hb0
 have hp := h.eval hok hr.1
 obtain ⟨l, h1, h2⟩ := buildS_run (P := P) hT hl0 hsm hp hf w
 obtain ⟨hok', hle⟩ := hok.newData (.cells ⟨l⟩ el)
 have hfl : rows.flatten.length = len * es := by rw [flat_len hes, hlen]
 have hrow : DR (fun b => if b = w.heap.size then some (.cells ⟨l⟩ el (0, 0)) else H b) (.sl es rows) (.slice (some ⟨w.heap.size, 0, none⟩) len len) := by
  have := row_data (H := fun b => if b = w.heap.size then some (.cells ⟨l⟩ el (0, 0)) else H b) (es := es) (b := w.heap.size) (c := len) (arr := l) (ty := el) (rows := rows) (if_pos rfl) (by omega) (by
   have : len * 1 ≤ len * es := Nat.mul_le_mul_left _ hT.pos
   simp only [maxLen]; omega) hes (fun i r hr f x hx => by
    obtain ⟨u, k1, k2⟩ := rowAt_of hes h2 i r hr f x hx
    exact ⟨u, k1, k2.mono hle⟩)
  rwa [hlen] at this
 refine wp_of_run (d := d) rfl ?_ ⟨_, B, hok'.put (x := some (.t (.c (.d (.sl es rows))))) (hb0.1 (d, some (.t (.c (.d (.sl es rows))))) (by simp)) (app1_s f d _ _ rfl) (app0_l f _ rfl) (fun y hy => by injection hy with hy; subst hy; exact hrow)⟩
 have e1 : ((⟨xs⟩ : Array (Nat × Operand)).map fun x => (x.1, a.eval x.2)) = ⟨xs.map fun p => (p.1, a.eval p.2)⟩ := by simp
 simp only [execOp, e1, Sem.run_bind, h1, Result.andThen_ok, Sem.run_pure]
theorem Op.buildE {d n es : Nat} {t el ty : TypeId} {pos af gd} (hT : ElZ P t el es) :
  OpOk P ⟨some d, .buildSlice t 0 #[], ty, pos, af, gd⟩ { ws := [(d, some (.t (.c (.own n 0))))], wl := [(n, some (.row el es []))], nw := [n] } := by
 refine OpOk.news d n _ _ rfl rfl rfl (by simp) fun e f H B a w hok hr hn => ?_
 obtain ⟨i, z, hi, hz, hsz, hzs, hfl⟩ := hT.ex
 refine ⟨.slice (some ⟨w.heap.size, 0, none⟩) 0 0, 0, .cells #[] el, ?_, ?_, ?_⟩
 ·have : (Instr.buildSlice t 0 #[]).run P w = .ok (.slice (some ⟨w.heap.size, 0, none⟩) 0 0) (w.alloc (.cells #[] el)) := by
   simp [Instr.buildSlice, run_underlying hT.hu, sizeOf, typeInfo, hi, Instr.fill, newRow]
   exact congrArg (fun x => w.alloc (.cells x el)) (Array.ext' (by simp))
  simp [execOp, this]
 ·simp only [LR, if_true]
  exact ⟨[], heap_alloc_new w _, by simp, Nat.le_refl _, Nat.zero_le _, by simp, by simp [All2]⟩
 ·simp [VR, TR, CR]
theorem Op.buildED {d es : Nat} {t el ty : TypeId} {pos af gd} (hT : ElZ P t el es) :
  OpOk P ⟨some d, .buildSlice t 0 #[], ty, pos, af, gd⟩ { ws := [(d, some (.t (.c (.d (.sl es [])))))] } := by
 rintro e f a w Q ⟨H, B, hok⟩ hr hnw hb0
 obtain ⟨i, z, hi, hz, hsz, hzs, hfl⟩ := hT.ex
 have hrun : (Instr.buildSlice t 0 #[]).run P w = .ok (.slice (some ⟨w.heap.size, 0, none⟩) 0 0) (w.alloc (.cells #[] el)) := by
  simp [Instr.buildSlice, run_underlying hT.hu, sizeOf, typeInfo, hi, Instr.fill, newRow]
  exact congrArg (fun x => w.alloc (.cells x el)) (Array.ext' (by simp))
 obtain ⟨hok', _⟩ := hok.newData (.cells #[] el)
 have hrow : DR (fun b => if b = w.heap.size then some (.cells #[] el (0, 0)) else H b) (.sl es []) (.slice (some ⟨w.heap.size, 0, none⟩) 0 0) := DR.nil es _ 0 (fun h => by cases h) (Nat.zero_le _)
 refine wp_of_run (d := d) rfl ?_ ⟨_, B, hok'.put (x := some (.t (.c (.d (.sl es []))))) (hb0.1 (d, some (.t (.c (.d (.sl es []))))) (by simp)) (app1_s f d _ _ rfl) (app0_l f _ rfl) (fun y hy => by injection hy with hy; subst hy; exact hrow)⟩
 simp [execOp, hrun]
end
end Go.Proofs.YtmohlifepfjmdaaGreat.S
end
section
namespace Go.Proofs.YtmohlifepfjmdaaGreat

def sgn (z : Int) : Int := if z < 0 then -1 else if 0 < z then 1 else 0
def cmpZ (x y : Int) : Int := if x < y then -1 else if y < x then 1 else 0
theorem sgn_neg {z : Int} (h : z < 0) : sgn z = -1 := by unfold sgn; rw [if_pos h]
theorem sgn_pos {z : Int} (h : 0 < z) : sgn z = 1 := by unfold sgn; rw [if_neg (by omega), if_pos h]
theorem sgn_zero {z : Int} (h : z = 0) : sgn z = 0 := by subst h; rfl
theorem sgn_range (z : Int) : -1 ≤ sgn z ∧ sgn z ≤ 1 := by unfold sgn; split; omega; split <;> omega
theorem sgn_lt_zero {z : Int} : sgn z < 0 ↔ z < 0 := by unfold sgn; split; omega; split <;> omega
theorem cmpZ_sgn (x y : Int) : sgn (x - y) = cmpZ x y := by unfold sgn cmpZ; split <;> split <;> (try split) <;> (try split) <;> omega
end Go.Proofs.YtmohlifepfjmdaaGreat
end
section
namespace Go.Proofs.YtmohlifepfjmdaaGreat.S
open Go.RowKit
def fam0tb : Tb := [(4, ⟨1, false, [], [.d (.raw (.bool false))], 3⟩), (26, ⟨1, false, [], [.d (nsl [])], 1⟩), (28, ⟨2, true, [(0, 1, false), (1, 1, false)], [.d (.raw (.bool false)), .d (nsl [])], 0⟩), (2, ⟨1, false, [], [.d (.raw (.int .i64 0))], 13⟩), (138, ⟨1, false, [], [.d (.raw (.int .u64 0))], 17⟩), (132, ⟨1, false, [], [.d (.raw (.int .u32 0))], 16⟩), (24, ⟨1, false, [], [.d (.raw nilV)], 1⟩), (30, ⟨3, true, [(0, 1, false), (1, 2, true)], [.d (.raw nilV), .d (.raw (.bool false)), .d (nsl [])], 0⟩), (3, ⟨1, false, [], [.d (.raw (.int .i64 0))], 13⟩), (110, ⟨3, true, [(0, 1, false), (1, 2, true)], [.d (.raw (.int .i64 0)), .d (.raw (.bool false)), .d (nsl [])], 0⟩), (40, ⟨1, false, [], [.d (.raw nilV)], 1⟩), (141, ⟨1, false, [], [.d (.raw (.int .u64 0))], 17⟩), (41, ⟨1, false, [], [.d (.raw nilV)], 1⟩), (32, ⟨4, true, [(0, 3, true), (3, 1, false)], [.d (.raw nilV), .d (.raw (.bool false)), .d (nsl []), .d (.raw (.bool false))], 0⟩), (33, ⟨1, false, [], [.d (.raw nilV)], 1⟩), (35, ⟨6, true, [(0, 1, false), (1, 4, true), (5, 1, false)], [.d (.raw (.int .i64 0)), .d (.raw nilV), .d (.raw (.bool false)), .d (nsl []), .d (.raw (.bool false)), .d (.raw nilV)], 0⟩), (129, ⟨1, false, [], [.d (.raw nilV)], 1⟩), (76, ⟨5, true, [(0, 1, false), (1, 2, true), (3, 2, true)], [.d (.raw (.bool false)), .d (.raw (.bool false)), .d (nsl []), .d (.raw (.bool false)), .d (nsl [])], 0⟩), (22, ⟨1, false, [], [.d (.raw nilV)], 1⟩), (23, ⟨1, false, [], [.d (.raw nilV)], 1⟩), (36, ⟨1, false, [], [.d (.raw nilV)], 1⟩), (37, ⟨1, false, [], [.d (.raw nilV)], 1⟩), (39, ⟨10, true, [(0, 1, false), (1, 1, false), (2, 6, true), (8, 1, false), (9, 1, false)], [.d (.raw nilV), .d (.raw nilV), .d (.raw (.int .i64 0)), .d (.raw nilV), .d (.raw (.bool false)), .d (nsl []), .d (.raw (.bool false)), .d (.raw nilV), .d (.raw nilV), .d (.raw nilV)], 0⟩), (43, ⟨2, true, [(0, 1, false), (1, 1, false)], [.d (.raw nilV), .d (.raw nilV)], 0⟩), (9, ⟨1, false, [], [.d (.raw (.string ByteArray.empty))], 2⟩), (94, ⟨1, false, [], [.d (.raw nilV)], 1⟩), (96, ⟨3, true, [(0, 1, false), (1, 1, false), (2, 1, false)], [.d (.raw (.string ByteArray.empty)), .d (.raw nilV), .d (.raw nilV)], 0⟩), (77, ⟨1, false, [], [.d (.raw nilV)], 1⟩), (79, ⟨10, true, [(0, 1, false), (1, 1, false), (2, 1, false), (3, 6, true), (9, 1, false)], [.d (.raw (.int .i64 0)), .d (.raw (.int .i64 0)), .d (.raw (.int .i64 0)), .d (.raw (.int .i64 0)), .d (.raw nilV), .d (.raw (.bool false)), .d (nsl []), .d (.raw (.bool false)), .d (.raw nilV), .d (.raw nilV)], 0⟩), (81, ⟨5, true, [(0, 1, false), (1, 1, false), (2, 3, true)], [.d (.raw (.int .i64 0)), .d (.raw (.bool false)), .d (.raw nilV), .d (.raw (.bool false)), .d (nsl [])], 0⟩), (54, ⟨1, false, [], [.d (.raw nilV)], 1⟩), (130, ⟨1, false, [], [.d (.raw nilV)], 1⟩), (56, ⟨3, true, [(0, 1, false), (1, 1, false), (2, 1, false)], [.d (.raw nilV), .d (.raw nilV), .d (.raw nilV)], 0⟩), (60, ⟨9, true, [(0, 1, false), (1, 1, false), (2, 1, false), (3, 6, true)], [.d (.raw (.bool false)), .d (.raw (.int .i64 0)), .d (.raw (.int .i64 0)), .d (.raw (.int .i64 0)), .d (.raw nilV), .d (.raw (.bool false)), .d (nsl []), .d (.raw (.bool false)), .d (.raw nilV)], 0⟩), (57, ⟨1, false, [], [.d (.raw nilV)], 1⟩), (62, ⟨1, false, [], [.d (.raw nilV)], 1⟩), (64, ⟨2, true, [(0, 1, false), (1, 1, false)], [.d (.raw nilV), .d (.raw nilV)], 0⟩), (66, ⟨2, true, [(0, 1, false), (1, 1, false)], [.d (.raw nilV), .d (.raw nilV)], 0⟩), (73, ⟨1, false, [], [.d (.raw nilV)], 1⟩)]
theorem fam0ok : TbOk Tryz.prog fam0tb := ⟨TyOk.bl Tryz.underlying4 (by kernel_rfl) ⟨(.bool false : Value), [.bool false], by kernel_rfl, rfl, (fun _ _ => ⟨DR.raw _ rfl, trivial⟩)⟩,
 TyOk.slc Tryz.underlying26 (by kernel_rfl) ⟨(.slice none 0 0 : Value), [.slice none 0 0], by kernel_rfl, rfl, (fun _ _ => ⟨DR.nil _ _ _ (fun _ => rfl) (Nat.zero_le _), trivial⟩)⟩,
 TyOk.st Tryz.underlying28 (by kernel_rfl) ⟨⟨by decide, Fd.mk' _ _ Tryz.underlying28 rfl rfl (Sz.mk' (by kernel_rfl) Tryz.underlying4 _ rfl)⟩, ⟨by decide, Fd.mk' _ _ Tryz.underlying28 rfl rfl (Sz.mk' (by kernel_rfl) Tryz.underlying26 _ rfl)⟩, trivial⟩ ⟨(Value.agg #[.bool false, .slice none 0 0]), [.bool false, .slice none 0 0], by kernel_rfl, rfl, (fun _ _ => ⟨DR.raw _ rfl, DR.nil _ _ _ (fun _ => rfl) (Nat.zero_le _), trivial⟩)⟩ ⟨_, Tryz.underlying28, ⟨⟨rfl, by kernel_rfl⟩, ⟨rfl, by kernel_rfl⟩, trivial⟩⟩,
 TyOk.int Tryz.underlying2 rfl (by kernel_rfl) ⟨(.int .i64 0 : Value), [.int .i64 0], by kernel_rfl, rfl, (fun _ _ => ⟨DR.raw _ rfl, trivial⟩)⟩,
 TyOk.int Tryz.underlying138 rfl (by kernel_rfl) ⟨(.int .u64 0 : Value), [.int .u64 0], by kernel_rfl, rfl, (fun _ _ => ⟨DR.raw _ rfl, trivial⟩)⟩,
 TyOk.int Tryz.underlying132 rfl (by kernel_rfl) ⟨(.int .u32 0 : Value), [.int .u32 0], by kernel_rfl, rfl, (fun _ _ => ⟨DR.raw _ rfl, trivial⟩)⟩,
 TyOk.slc Tryz.underlying24 (by kernel_rfl) ⟨(.slice none 0 0 : Value), [.slice none 0 0], by kernel_rfl, rfl, (fun _ _ => ⟨DR.raw _ rfl, trivial⟩)⟩,
 TyOk.st Tryz.underlying30 (by kernel_rfl) ⟨⟨by decide, Fd.mk' _ _ Tryz.underlying30 rfl rfl (Sz.mk' (by kernel_rfl) Tryz.underlying24 _ rfl)⟩, ⟨by decide, Fd.mk' _ _ Tryz.underlying30 rfl rfl (Sz.mk' (by kernel_rfl) Tryz.underlying28 _ rfl)⟩, trivial⟩ ⟨(Value.agg #[.slice none 0 0, .bool false, .slice none 0 0]), [.slice none 0 0, .bool false, .slice none 0 0], by kernel_rfl, rfl, (fun _ _ => ⟨DR.raw _ rfl, DR.raw _ rfl, DR.nil _ _ _ (fun _ => rfl) (Nat.zero_le _), trivial⟩)⟩ ⟨_, Tryz.underlying30, ⟨⟨rfl, by kernel_rfl⟩, ⟨rfl, by kernel_rfl⟩, trivial⟩⟩,
 TyOk.int Tryz.underlying3 rfl (by kernel_rfl) ⟨(.int .i64 0 : Value), [.int .i64 0], by kernel_rfl, rfl, (fun _ _ => ⟨DR.raw _ rfl, trivial⟩)⟩,
 TyOk.st Tryz.underlying110 (by kernel_rfl) ⟨⟨by decide, Fd.mk' _ _ Tryz.underlying110 rfl rfl (Sz.mk' (by kernel_rfl) Tryz.underlying3 _ rfl)⟩, ⟨by decide, Fd.mk' _ _ Tryz.underlying110 rfl rfl (Sz.mk' (by kernel_rfl) Tryz.underlying28 _ rfl)⟩, trivial⟩ ⟨(Value.agg #[.int .i64 0, .bool false, .slice none 0 0]), [.int .i64 0, .bool false, .slice none 0 0], by kernel_rfl, rfl, (fun _ _ => ⟨DR.raw _ rfl, DR.raw _ rfl, DR.nil _ _ _ (fun _ => rfl) (Nat.zero_le _), trivial⟩)⟩ ⟨_, Tryz.underlying110, ⟨⟨rfl, by kernel_rfl⟩, ⟨rfl, by kernel_rfl⟩, trivial⟩⟩,
 TyOk.slc Tryz.underlying40 (by kernel_rfl) ⟨(.slice none 0 0 : Value), [.slice none 0 0], by kernel_rfl, rfl, (fun _ _ => ⟨DR.raw _ rfl, trivial⟩)⟩,
 TyOk.int Tryz.underlying141 rfl (by kernel_rfl) ⟨(.int .u64 0 : Value), [.int .u64 0], by kernel_rfl, rfl, (fun _ _ => ⟨DR.raw _ rfl, trivial⟩)⟩,
 TyOk.slc Tryz.underlying41 (by kernel_rfl) ⟨(.slice none 0 0 : Value), [.slice none 0 0], by kernel_rfl, rfl, (fun _ _ => ⟨DR.raw _ rfl, trivial⟩)⟩,
 TyOk.st Tryz.underlying32 (by kernel_rfl) ⟨⟨by decide, Fd.mk' _ _ Tryz.underlying32 rfl rfl (Sz.mk' (by kernel_rfl) Tryz.underlying30 _ rfl)⟩, ⟨by decide, Fd.mk' _ _ Tryz.underlying32 rfl rfl (Sz.mk' (by kernel_rfl) Tryz.underlying4 _ rfl)⟩, trivial⟩ ⟨(Value.agg #[.slice none 0 0, .bool false, .slice none 0 0, .bool false]), [.slice none 0 0, .bool false, .slice none 0 0, .bool false], by kernel_rfl, rfl, (fun _ _ => ⟨DR.raw _ rfl, DR.raw _ rfl, DR.nil _ _ _ (fun _ => rfl) (Nat.zero_le _), DR.raw _ rfl, trivial⟩)⟩ ⟨_, Tryz.underlying32, ⟨⟨rfl, by kernel_rfl⟩, ⟨rfl, by kernel_rfl⟩, trivial⟩⟩,
 TyOk.slc Tryz.underlying33 (by kernel_rfl) ⟨(.slice none 0 0 : Value), [.slice none 0 0], by kernel_rfl, rfl, (fun _ _ => ⟨DR.raw _ rfl, trivial⟩)⟩,
 TyOk.st Tryz.underlying35 (by kernel_rfl) ⟨⟨by decide, Fd.mk' _ _ Tryz.underlying35 rfl rfl (Sz.mk' (by kernel_rfl) Tryz.underlying3 _ rfl)⟩, ⟨by decide, Fd.mk' _ _ Tryz.underlying35 rfl rfl (Sz.mk' (by kernel_rfl) Tryz.underlying32 _ rfl)⟩, ⟨by decide, Fd.mk' _ _ Tryz.underlying35 rfl rfl (Sz.mk' (by kernel_rfl) Tryz.underlying33 _ rfl)⟩, trivial⟩ ⟨(Value.agg #[.int .i64 0, .slice none 0 0, .bool false, .slice none 0 0, .bool false, .slice none 0 0]), [.int .i64 0, .slice none 0 0, .bool false, .slice none 0 0, .bool false, .slice none 0 0], by kernel_rfl, rfl, (fun _ _ => ⟨DR.raw _ rfl, DR.raw _ rfl, DR.raw _ rfl, DR.nil _ _ _ (fun _ => rfl) (Nat.zero_le _), DR.raw _ rfl, DR.raw _ rfl, trivial⟩)⟩ ⟨_, Tryz.underlying35, ⟨⟨rfl, by kernel_rfl⟩, ⟨rfl, by kernel_rfl⟩, ⟨rfl, by kernel_rfl⟩, trivial⟩⟩,
 TyOk.slc Tryz.underlying129 (by kernel_rfl) ⟨(.slice none 0 0 : Value), [.slice none 0 0], by kernel_rfl, rfl, (fun _ _ => ⟨DR.raw _ rfl, trivial⟩)⟩,
 TyOk.st Tryz.underlying76 (by kernel_rfl) ⟨⟨by decide, Fd.mk' _ _ Tryz.underlying76 rfl rfl (Sz.mk' (by kernel_rfl) Tryz.underlying4 _ rfl)⟩, ⟨by decide, Fd.mk' _ _ Tryz.underlying76 rfl rfl (Sz.mk' (by kernel_rfl) Tryz.underlying28 _ rfl)⟩, ⟨by decide, Fd.mk' _ _ Tryz.underlying76 rfl rfl (Sz.mk' (by kernel_rfl) Tryz.underlying28 _ rfl)⟩, trivial⟩ ⟨(Value.agg #[.bool false, .bool false, .slice none 0 0, .bool false, .slice none 0 0]), [.bool false, .bool false, .slice none 0 0, .bool false, .slice none 0 0], by kernel_rfl, rfl, (fun _ _ => ⟨DR.raw _ rfl, DR.raw _ rfl, DR.nil _ _ _ (fun _ => rfl) (Nat.zero_le _), DR.raw _ rfl, DR.nil _ _ _ (fun _ => rfl) (Nat.zero_le _), trivial⟩)⟩ ⟨_, Tryz.underlying76, ⟨⟨rfl, by kernel_rfl⟩, ⟨rfl, by kernel_rfl⟩, ⟨rfl, by kernel_rfl⟩, trivial⟩⟩,
 TyOk.slc Tryz.underlying22 (by kernel_rfl) ⟨(.slice none 0 0 : Value), [.slice none 0 0], by kernel_rfl, rfl, (fun _ _ => ⟨DR.raw _ rfl, trivial⟩)⟩,
 TyOk.slc Tryz.underlying23 (by kernel_rfl) ⟨(.slice none 0 0 : Value), [.slice none 0 0], by kernel_rfl, rfl, (fun _ _ => ⟨DR.raw _ rfl, trivial⟩)⟩,
 TyOk.slc Tryz.underlying36 (by kernel_rfl) ⟨(.slice none 0 0 : Value), [.slice none 0 0], by kernel_rfl, rfl, (fun _ _ => ⟨DR.raw _ rfl, trivial⟩)⟩,
 TyOk.slc Tryz.underlying37 (by kernel_rfl) ⟨(.slice none 0 0 : Value), [.slice none 0 0], by kernel_rfl, rfl, (fun _ _ => ⟨DR.raw _ rfl, trivial⟩)⟩,
 TyOk.st Tryz.underlying39 (by kernel_rfl) ⟨⟨by decide, Fd.mk' _ _ Tryz.underlying39 rfl rfl (Sz.mk' (by kernel_rfl) Tryz.underlying22 _ rfl)⟩, ⟨by decide, Fd.mk' _ _ Tryz.underlying39 rfl rfl (Sz.mk' (by kernel_rfl) Tryz.underlying23 _ rfl)⟩, ⟨by decide, Fd.mk' _ _ Tryz.underlying39 rfl rfl (Sz.mk' (by kernel_rfl) Tryz.underlying35 _ rfl)⟩, ⟨by decide, Fd.mk' _ _ Tryz.underlying39 rfl rfl (Sz.mk' (by kernel_rfl) Tryz.underlying36 _ rfl)⟩, ⟨by decide, Fd.mk' _ _ Tryz.underlying39 rfl rfl (Sz.mk' (by kernel_rfl) Tryz.underlying37 _ rfl)⟩, trivial⟩ ⟨(Value.agg #[.slice none 0 0, .slice none 0 0, .int .i64 0, .slice none 0 0, .bool false, .slice none 0 0, .bool false, .slice none 0 0, .slice none 0 0, .slice none 0 0]), [.slice none 0 0, .slice none 0 0, .int .i64 0, .slice none 0 0, .bool false, .slice none 0 0, .bool false, .slice none 0 0, .slice none 0 0, .slice none 0 0], by kernel_rfl, rfl, (fun _ _ => ⟨DR.raw _ rfl, DR.raw _ rfl, DR.raw _ rfl, DR.raw _ rfl, DR.raw _ rfl, DR.nil _ _ _ (fun _ => rfl) (Nat.zero_le _), DR.raw _ rfl, DR.raw _ rfl, DR.raw _ rfl, DR.raw _ rfl, trivial⟩)⟩ ⟨_, Tryz.underlying39, ⟨⟨rfl, by kernel_rfl⟩, ⟨rfl, by kernel_rfl⟩, ⟨rfl, by kernel_rfl⟩, ⟨rfl, by kernel_rfl⟩, ⟨rfl, by kernel_rfl⟩, trivial⟩⟩,
 TyOk.st Tryz.underlying43 (by kernel_rfl) ⟨⟨by decide, Fd.mk' _ _ Tryz.underlying43 rfl rfl (Sz.mk' (by kernel_rfl) Tryz.underlying40 _ rfl)⟩, ⟨by decide, Fd.mk' _ _ Tryz.underlying43 rfl rfl (Sz.mk' (by kernel_rfl) Tryz.underlying41 _ rfl)⟩, trivial⟩ ⟨(Value.agg #[.slice none 0 0, .slice none 0 0]), [.slice none 0 0, .slice none 0 0], by kernel_rfl, rfl, (fun _ _ => ⟨DR.raw _ rfl, DR.raw _ rfl, trivial⟩)⟩ ⟨_, Tryz.underlying43, ⟨⟨rfl, by kernel_rfl⟩, ⟨rfl, by kernel_rfl⟩, trivial⟩⟩,
 TyOk.str Tryz.underlying9 (by kernel_rfl) ⟨(.string ByteArray.empty : Value), [.string ByteArray.empty], by kernel_rfl, rfl, (fun _ _ => ⟨DR.raw _ rfl, trivial⟩)⟩,
 TyOk.slc Tryz.underlying94 (by kernel_rfl) ⟨(.slice none 0 0 : Value), [.slice none 0 0], by kernel_rfl, rfl, (fun _ _ => ⟨DR.raw _ rfl, trivial⟩)⟩,
 TyOk.st Tryz.underlying96 (by kernel_rfl) ⟨⟨by decide, Fd.mk' _ _ Tryz.underlying96 rfl rfl (Sz.mk' (by kernel_rfl) Tryz.underlying9 _ rfl)⟩, ⟨by decide, Fd.mk' _ _ Tryz.underlying96 rfl rfl (Sz.mk' (by kernel_rfl) Tryz.underlying22 _ rfl)⟩, ⟨by decide, Fd.mk' _ _ Tryz.underlying96 rfl rfl (Sz.mk' (by kernel_rfl) Tryz.underlying94 _ rfl)⟩, trivial⟩ ⟨(Value.agg #[.string ByteArray.empty, .slice none 0 0, .slice none 0 0]), [.string ByteArray.empty, .slice none 0 0, .slice none 0 0], by kernel_rfl, rfl, (fun _ _ => ⟨DR.raw _ rfl, DR.raw _ rfl, DR.raw _ rfl, trivial⟩)⟩ ⟨_, Tryz.underlying96, ⟨⟨rfl, by kernel_rfl⟩, ⟨rfl, by kernel_rfl⟩, ⟨rfl, by kernel_rfl⟩, trivial⟩⟩,
 TyOk.slc Tryz.underlying77 (by kernel_rfl) ⟨(.slice none 0 0 : Value), [.slice none 0 0], by kernel_rfl, rfl, (fun _ _ => ⟨DR.raw _ rfl, trivial⟩)⟩,
 TyOk.st Tryz.underlying79 (by kernel_rfl) ⟨⟨by decide, Fd.mk' _ _ Tryz.underlying79 rfl rfl (Sz.mk' (by kernel_rfl) Tryz.underlying3 _ rfl)⟩, ⟨by decide, Fd.mk' _ _ Tryz.underlying79 rfl rfl (Sz.mk' (by kernel_rfl) Tryz.underlying3 _ rfl)⟩, ⟨by decide, Fd.mk' _ _ Tryz.underlying79 rfl rfl (Sz.mk' (by kernel_rfl) Tryz.underlying3 _ rfl)⟩, ⟨by decide, Fd.mk' _ _ Tryz.underlying79 rfl rfl (Sz.mk' (by kernel_rfl) Tryz.underlying35 _ rfl)⟩, ⟨by decide, Fd.mk' _ _ Tryz.underlying79 rfl rfl (Sz.mk' (by kernel_rfl) Tryz.underlying77 _ rfl)⟩, trivial⟩ ⟨(Value.agg #[.int .i64 0, .int .i64 0, .int .i64 0, .int .i64 0, .slice none 0 0, .bool false, .slice none 0 0, .bool false, .slice none 0 0, .slice none 0 0]), [.int .i64 0, .int .i64 0, .int .i64 0, .int .i64 0, .slice none 0 0, .bool false, .slice none 0 0, .bool false, .slice none 0 0, .slice none 0 0], by kernel_rfl, rfl, (fun _ _ => ⟨DR.raw _ rfl, DR.raw _ rfl, DR.raw _ rfl, DR.raw _ rfl, DR.raw _ rfl, DR.raw _ rfl, DR.nil _ _ _ (fun _ => rfl) (Nat.zero_le _), DR.raw _ rfl, DR.raw _ rfl, DR.raw _ rfl, trivial⟩)⟩ ⟨_, Tryz.underlying79, ⟨⟨rfl, by kernel_rfl⟩, ⟨rfl, by kernel_rfl⟩, ⟨rfl, by kernel_rfl⟩, ⟨rfl, by kernel_rfl⟩, ⟨rfl, by kernel_rfl⟩, trivial⟩⟩,
 TyOk.st Tryz.underlying81 (by kernel_rfl) ⟨⟨by decide, Fd.mk' _ _ Tryz.underlying81 rfl rfl (Sz.mk' (by kernel_rfl) Tryz.underlying3 _ rfl)⟩, ⟨by decide, Fd.mk' _ _ Tryz.underlying81 rfl rfl (Sz.mk' (by kernel_rfl) Tryz.underlying4 _ rfl)⟩, ⟨by decide, Fd.mk' _ _ Tryz.underlying81 rfl rfl (Sz.mk' (by kernel_rfl) Tryz.underlying30 _ rfl)⟩, trivial⟩ ⟨(Value.agg #[.int .i64 0, .bool false, .slice none 0 0, .bool false, .slice none 0 0]), [.int .i64 0, .bool false, .slice none 0 0, .bool false, .slice none 0 0], by kernel_rfl, rfl, (fun _ _ => ⟨DR.raw _ rfl, DR.raw _ rfl, DR.raw _ rfl, DR.raw _ rfl, DR.nil _ _ _ (fun _ => rfl) (Nat.zero_le _), trivial⟩)⟩ ⟨_, Tryz.underlying81, ⟨⟨rfl, by kernel_rfl⟩, ⟨rfl, by kernel_rfl⟩, ⟨rfl, by kernel_rfl⟩, trivial⟩⟩,
 TyOk.slc Tryz.underlying54 (by kernel_rfl) ⟨(.slice none 0 0 : Value), [.slice none 0 0], by kernel_rfl, rfl, (fun _ _ => ⟨DR.raw _ rfl, trivial⟩)⟩,
 TyOk.slc Tryz.underlying130 (by kernel_rfl) ⟨(.slice none 0 0 : Value), [.slice none 0 0], by kernel_rfl, rfl, (fun _ _ => ⟨DR.raw _ rfl, trivial⟩)⟩,
 TyOk.st Tryz.underlying56 (by kernel_rfl) ⟨⟨by decide, Fd.mk' _ _ Tryz.underlying56 rfl rfl (Sz.mk' (by kernel_rfl) Tryz.underlying54 _ rfl)⟩, ⟨by decide, Fd.mk' _ _ Tryz.underlying56 rfl rfl (Sz.mk' (by kernel_rfl) Tryz.underlying54 _ rfl)⟩, ⟨by decide, Fd.mk' _ _ Tryz.underlying56 rfl rfl (Sz.mk' (by kernel_rfl) Tryz.underlying40 _ rfl)⟩, trivial⟩ ⟨(Value.agg #[.slice none 0 0, .slice none 0 0, .slice none 0 0]), [.slice none 0 0, .slice none 0 0, .slice none 0 0], by kernel_rfl, rfl, (fun _ _ => ⟨DR.raw _ rfl, DR.raw _ rfl, DR.raw _ rfl, trivial⟩)⟩ ⟨_, Tryz.underlying56, ⟨⟨rfl, by kernel_rfl⟩, ⟨rfl, by kernel_rfl⟩, ⟨rfl, by kernel_rfl⟩, trivial⟩⟩,
 TyOk.st Tryz.underlying60 (by kernel_rfl) ⟨⟨by decide, Fd.mk' _ _ Tryz.underlying60 rfl rfl (Sz.mk' (by kernel_rfl) Tryz.underlying4 _ rfl)⟩, ⟨by decide, Fd.mk' _ _ Tryz.underlying60 rfl rfl (Sz.mk' (by kernel_rfl) Tryz.underlying3 _ rfl)⟩, ⟨by decide, Fd.mk' _ _ Tryz.underlying60 rfl rfl (Sz.mk' (by kernel_rfl) Tryz.underlying3 _ rfl)⟩, ⟨by decide, Fd.mk' _ _ Tryz.underlying60 rfl rfl (Sz.mk' (by kernel_rfl) Tryz.underlying35 _ rfl)⟩, trivial⟩ ⟨(Value.agg #[.bool false, .int .i64 0, .int .i64 0, .int .i64 0, .slice none 0 0, .bool false, .slice none 0 0, .bool false, .slice none 0 0]), [.bool false, .int .i64 0, .int .i64 0, .int .i64 0, .slice none 0 0, .bool false, .slice none 0 0, .bool false, .slice none 0 0], by kernel_rfl, rfl, (fun _ _ => ⟨DR.raw _ rfl, DR.raw _ rfl, DR.raw _ rfl, DR.raw _ rfl, DR.raw _ rfl, DR.raw _ rfl, DR.nil _ _ _ (fun _ => rfl) (Nat.zero_le _), DR.raw _ rfl, DR.raw _ rfl, trivial⟩)⟩ ⟨_, Tryz.underlying60, ⟨⟨rfl, by kernel_rfl⟩, ⟨rfl, by kernel_rfl⟩, ⟨rfl, by kernel_rfl⟩, ⟨rfl, by kernel_rfl⟩, trivial⟩⟩,
 TyOk.slc Tryz.underlying57 (by kernel_rfl) ⟨(.slice none 0 0 : Value), [.slice none 0 0], by kernel_rfl, rfl, (fun _ _ => ⟨DR.raw _ rfl, trivial⟩)⟩,
 TyOk.slc Tryz.underlying62 (by kernel_rfl) ⟨(.slice none 0 0 : Value), [.slice none 0 0], by kernel_rfl, rfl, (fun _ _ => ⟨DR.raw _ rfl, trivial⟩)⟩,
 TyOk.st Tryz.underlying64 (by kernel_rfl) ⟨⟨by decide, Fd.mk' _ _ Tryz.underlying64 rfl rfl (Sz.mk' (by kernel_rfl) Tryz.underlying62 _ rfl)⟩, ⟨by decide, Fd.mk' _ _ Tryz.underlying64 rfl rfl (Sz.mk' (by kernel_rfl) Tryz.underlying62 _ rfl)⟩, trivial⟩ ⟨(Value.agg #[.slice none 0 0, .slice none 0 0]), [.slice none 0 0, .slice none 0 0], by kernel_rfl, rfl, (fun _ _ => ⟨DR.raw _ rfl, DR.raw _ rfl, trivial⟩)⟩ ⟨_, Tryz.underlying64, ⟨⟨rfl, by kernel_rfl⟩, ⟨rfl, by kernel_rfl⟩, trivial⟩⟩,
 TyOk.st Tryz.underlying66 (by kernel_rfl) ⟨⟨by decide, Fd.mk' _ _ Tryz.underlying66 rfl rfl (Sz.mk' (by kernel_rfl) Tryz.underlying62 _ rfl)⟩, ⟨by decide, Fd.mk' _ _ Tryz.underlying66 rfl rfl (Sz.mk' (by kernel_rfl) Tryz.underlying62 _ rfl)⟩, trivial⟩ ⟨(Value.agg #[.slice none 0 0, .slice none 0 0]), [.slice none 0 0, .slice none 0 0], by kernel_rfl, rfl, (fun _ _ => ⟨DR.raw _ rfl, DR.raw _ rfl, trivial⟩)⟩ ⟨_, Tryz.underlying66, ⟨⟨rfl, by kernel_rfl⟩, ⟨rfl, by kernel_rfl⟩, trivial⟩⟩,
 TyOk.slc Tryz.underlying73 (by kernel_rfl) ⟨(.slice none 0 0 : Value), [.slice none 0 0], by kernel_rfl, rfl, (fun _ _ => ⟨DR.raw _ rfl, trivial⟩)⟩,
 trivial⟩
end Go.Proofs.YtmohlifepfjmdaaGreat.S
end
section
namespace Go.Proofs.YtmohlifepfjmdaaGreat.S
open Go.RowKit

theorem ia_0 : Bodied Tryz.prog 68 := Bodied.mk' (by kernel_rfl)
theorem ia_1 : Sz Tryz.prog 28 2 true := Sz.mk' (by kernel_rfl) Tryz.underlying28 _ rfl
theorem ia_2 : Bodied Tryz.prog 95 := Bodied.mk' (by kernel_rfl)
theorem ia_3 : Bodied Tryz.prog 37 := Bodied.mk' (by kernel_rfl)
theorem ia_4 : Bodied Tryz.prog 69 := Bodied.mk' (by kernel_rfl)
theorem ia_5 : Bodied Tryz.prog 100 := Bodied.mk' (by kernel_rfl)
theorem ia_6 : Bodied Tryz.prog 103 := Bodied.mk' (by kernel_rfl)
theorem ia_7 : Bodied Tryz.prog 104 := Bodied.mk' (by kernel_rfl)
theorem ia_8 : Bodied Tryz.prog 105 := Bodied.mk' (by kernel_rfl)
theorem nadd_lt {xs ys : List Nat} (hx : Lb xs) (hy : Lb ys) : Go.Proofs.YtmohlifepfjmdaaGreat.val xs + Go.Proofs.YtmohlifepfjmdaaGreat.val ys < pw (xs.length + ys.length + 1) := add_lt_pw hx hy (by omega) (by omega)
theorem nmul_lt {xs ys : List Nat} (hx : Lb xs) (hy : Lb ys) : Go.Proofs.YtmohlifepfjmdaaGreat.val xs * Go.Proofs.YtmohlifepfjmdaaGreat.val ys < pw (xs.length + ys.length) := mul_lt_pw (val_lt hx) (val_lt hy)
theorem iv_not (s : Bool) (zs : List Nat) : iv (!s) zs = -iv s zs := by cases s <;> simp [iv]
theorem iv_of {s : Bool} {zs us : List Nat} (h : Go.Proofs.YtmohlifepfjmdaaGreat.val zs = Go.Proofs.YtmohlifepfjmdaaGreat.val us) : iv s zs = iv s us := by unfold iv; rw [h]
theorem from_true {zs n1 : List Nat} (e : n1 = lbs (Go.Proofs.YtmohlifepfjmdaaGreat.val zs)) : (⟨decide ((n1.length : Int) > 0), n1⟩ : ZI) = ZI.of (iv true zs) := by
 subst e
 refine ZI.of_eq ⟨lbs_canon _, fun h => by simp [h]⟩ ?_
 by_cases h : (lbs (Go.Proofs.YtmohlifepfjmdaaGreat.val zs)).length = 0
 ·have h1 := List.length_eq_zero_iff.1 h
  have h2 := lbs_val (Go.Proofs.YtmohlifepfjmdaaGreat.val zs)
  rw [h1] at h2 ⊢
  rw [iv_nil]; unfold iv; rw [← h2]; rfl
 ·have h1 : ((lbs (Go.Proofs.YtmohlifepfjmdaaGreat.val zs)).length : Int) > 0 := by omega
  simp only [h1, decide_true]
  exact iv_of (lbs_val _)
theorem from_false {zs n1 : List Nat} (e : n1 = lbs (Go.Proofs.YtmohlifepfjmdaaGreat.val zs)) : (⟨false, n1⟩ : ZI) = ZI.of (iv false zs) := by
 subst e
 exact ZI.of_eq ⟨lbs_canon _, fun _ => rfl⟩ (iv_of (lbs_val _))
theorem from_some {s : Bool} {zs n1 : List Nat} (e : n1 = lbs (Go.Proofs.YtmohlifepfjmdaaGreat.val zs)) (h : n1.length ≠ 0) : (⟨s, n1⟩ : ZI) = ZI.of (iv s zs) := by
 subst e
 exact ZI.of_eq ⟨lbs_canon _, fun h0 => absurd h0 h⟩ (iv_of (lbs_val _))
theorem from_none {s : Bool} {zs n1 : List Nat} (e : n1 = lbs (Go.Proofs.YtmohlifepfjmdaaGreat.val zs)) (h : n1.length = 0) : (⟨false, []⟩ : ZI) = ZI.of (iv s zs) := by
 subst e
 have h1 := List.length_eq_zero_iff.1 h
 have h2 := lbs_val (Go.Proofs.YtmohlifepfjmdaaGreat.val zs)
 rw [h1] at h2
 have : iv s zs = 0 := by unfold iv; rw [← h2]; cases s <;> rfl
 rw [this]; rfl
theorem SFrom (s : Bool) (zs : List Nat) (hz : Lb zs) (lz : zs.length ≤ 100000) : Fn Tryz.prog 37 [] [vb s, vn zs] (vz (ZI.of (iv s zs))) [] := by
 refine Fn.body Tryz.func37 rfl 15 rfl fun w H B a h => ?_
 refine rSeq fam0ok 0 [] [(0, vb s), (1, vn zs), (4, vp 0 0)] [(0, .box [.d (.raw (.bool false)), .d (nsl [])])] (by kernel_rfl) h ?_; clear h; intro a w h
 obtain ⟨n1, en1, vn1, on1, ln1⟩ := mkN (v := Go.Proofs.YtmohlifepfjmdaaGreat.val zs) (m := zs.length) (val_lt hz)
 refine rSeq fam0ok 1 [(1, .call (Fn.cast (SnTrim zs hz (by omega)) (congrArg vn en1.symm)) ia_0)] [(0, vb s), (1, vn n1), (4, vp 0 0)] [(0, .box [.d (.raw (.bool false)), .d (nsl [])])] (by kernel_rfl) h ?_; clear h; intro a w h
 rcases Bool.eq_false_or_eq_true s with hc | hc
 ·have hc1 := hc; clear hc
  rw [hc1] at h
  refine rSeq fam0ok 1 [(3, .len (nsl_len n1))] [(4, vp 0 0)] [(0, .box [.d (.raw (.bool (decide ((n1.length : Int) > 0)))), .d (nsl n1)])] (by kernel_rfl) h ?_; clear h; intro a w h
  refine wp_ret ?_
  refine retS [.agg [.d (.raw (.bool (decide ((n1.length : Int) > 0)))), .d (nsl n1)]] h Exit.ret (.inl rfl)  rfl ⟨RV.agg _ 0 0 _ _ _ _ ia_1 rfl rfl rfl rfl, trivial⟩ ?_ (by kernel_rfl) (by kernel_rfl)
  rw [hc1, ← from_true en1]; first | done | rfl
 ·have hc2 := hc; clear hc
  rw [hc2] at h
  refine rSeq fam0ok 1 [] [(4, vp 0 0)] [(0, .box [.d (.raw (.bool false)), .d (nsl n1)])] (by kernel_rfl) h ?_; clear h; intro a w h
  refine wp_ret ?_
  refine retS [.agg [.d (.raw (.bool false)), .d (nsl n1)]] h Exit.ret (.inl rfl)  rfl ⟨RV.agg _ 0 0 _ _ _ _ ia_1 rfl rfl rfl rfl, trivial⟩ ?_ (by kernel_rfl) (by kernel_rfl)
  rw [hc2, ← from_false en1]; first | done | rfl
theorem SRFrom (s : Bool) (zs : List Nat) (hz : Lb zs) (lz : zs.length ≤ 100000) : Fn Tryz.prog 69 [] [vb s, vn zs] (vz (ZI.of (iv s zs))) [] := by
 refine Fn.body Tryz.func69 rfl 15 rfl fun w H B a h => ?_
 refine rSeq fam0ok 0 [] [(0, vb s), (1, vn zs), (4, vp 0 0)] [(0, .box [.d (.raw (.bool false)), .d (nsl [])])] (by kernel_rfl) h ?_; clear h; intro a w h
 obtain ⟨n1, en1, vn1, on1, ln1⟩ := mkN (v := Go.Proofs.YtmohlifepfjmdaaGreat.val zs) (m := zs.length) (val_lt hz)
 refine rSeq fam0ok 1 [(1, .call (Fn.cast (SRnTrim zs hz (by omega)) (congrArg vn en1.symm)) ia_2)] [(0, vb s), (4, vp 0 0), (5, vn n1)] [(0, .box [.d (.raw (.bool false)), .d (nsl [])])] (by kernel_rfl) h ?_; clear h; intro a w h
 refine wp_seq ?_
 refine rSeq fam0ok 1 [(1, .len (nsl_len n1))] [(0, vb s), (4, vp 0 0), (5, vn n1), (10, vb ((n1.length : Int) == 0))] [(0, .box [.d (.raw (.bool false)), .d (nsl [])])] (by kernel_rfl) h ?_; clear h; intro a w h
 refine condS ((n1.length : Int) == 0) h rfl (fun hc => ?_) (fun hc => ?_)
 ·have hc1 := hc; clear hc
  have hc1' := hc1; (try simp at hc1')
  refine rSeq fam0ok 1 [] [(0, vb s), (4, vp 0 0), (5, vn n1)] [(0, .box [.d (.raw (.bool false)), .d (nsl [])])] (by kernel_rfl) h ?_; clear h; intro a w h
  refine wp_ret ?_
  refine then_r ?_
  refine retS [.agg [.d (.raw (.bool false)), .d (nsl [])]] h Exit.ret (.inl rfl)  rfl ⟨RV.agg _ 0 0 _ _ _ _ ia_1 rfl rfl rfl rfl, trivial⟩ ?_ (by kernel_rfl) (by kernel_rfl)
  rw [← from_none en1 (by simpa using hc1)]; first | done | rfl
 ·have hc2 := hc; clear hc
  have hc2' := hc2; (try simp at hc2')
  refine wp_skip ?_
  refine then_n ?_
  refine rSeq fam0ok 1 [] [(4, vp 0 0)] [(0, .box [.d (.raw (.bool s)), .d (nsl n1)])] (by kernel_rfl) h ?_; clear h; intro a w h
  refine wp_ret ?_
  refine retS [.agg [.d (.raw (.bool s)), .d (nsl n1)]] h Exit.ret (.inl rfl)  rfl ⟨RV.agg _ 0 0 _ _ _ _ ia_1 rfl rfl rfl rfl, trivial⟩ ?_ (by kernel_rfl) (by kernel_rfl)
  rw [← from_some en1 (by simpa using hc2)]; first | done | rfl
theorem SClean (x : ZI) (hx : Lb x.abs) (lx : x.abs.length ≤ 100000) : Fn Tryz.prog 100 [] [vz x] (vz (ZI.of (x.val))) [] := by
 refine Fn.body Tryz.func100 rfl 8 rfl fun w H B a h => ?_
 refine rSeq fam0ok 0 [] [(1, vp 0 0), (2, vp 1 0)] [(0, .box (zi x)), (1, .box [.d (.raw (.bool false)), .d (nsl [])])] (by kernel_rfl) h ?_; clear h; intro a w h
 obtain ⟨r1, er1, vr1, or1, lr1⟩ := mkZ (v := iv x.neg x.abs) (m := x.abs.length) (len_iv hx)
 refine rSeq fam0ok 2 [(4, .call (Fn.cast (SFrom x.neg x.abs hx (by omega)) (congrArg vz er1.symm)) ia_3)] [(2, vp 1 0)] [(1, .box (zi r1))] (by kernel_rfl) h ?_; clear h; intro a w h
 refine wp_ret ?_
 refine retS [.agg (zi r1)] h Exit.ret (.inl rfl)  rfl ⟨RV.agg _ 1 0 _ _ _ _ ia_1 rfl rfl rfl rfl, trivial⟩ ?_ (by kernel_rfl) (by kernel_rfl)
 rw [er1]; first | done | rfl
theorem SRClean (x : ZI) (hx : Lb x.abs) (lx : x.abs.length ≤ 100000) : Fn Tryz.prog 38 [] [vz x] (vz (ZI.of (x.val))) [] := by
 refine Fn.body Tryz.func38 rfl 8 rfl fun w H B a h => ?_
 refine rSeq fam0ok 0 [] [(1, vp 0 0), (2, vp 1 0)] [(0, .box (zi x)), (1, .box [.d (.raw (.bool false)), .d (nsl [])])] (by kernel_rfl) h ?_; clear h; intro a w h
 obtain ⟨r1, er1, vr1, or1, lr1⟩ := mkZ (v := iv x.neg x.abs) (m := x.abs.length) (len_iv hx)
 refine rSeq fam0ok 2 [(4, .call (Fn.cast (SRFrom x.neg x.abs hx (by omega)) (congrArg vz er1.symm)) ia_4)] [(2, vp 1 0)] [(1, .box (zi r1))] (by kernel_rfl) h ?_; clear h; intro a w h
 refine wp_ret ?_
 refine retS [.agg (zi r1)] h Exit.ret (.inl rfl)  rfl ⟨RV.agg _ 1 0 _ _ _ _ ia_1 rfl rfl rfl rfl, trivial⟩ ?_ (by kernel_rfl) (by kernel_rfl)
 rw [er1]; first | done | rfl
theorem SRNeg (x : ZI) (hx : Lb x.abs) (lx : x.abs.length ≤ 100000) : Fn Tryz.prog 98 [] [vz x] (vz (ZI.of (-x.val))) [] := by
 refine Fn.body Tryz.func98 rfl 9 rfl fun w H B a h => ?_
 refine rSeq fam0ok 0 [] [(1, vp 0 0), (2, vp 1 0)] [(0, .box (zi x)), (1, .box [.d (.raw (.bool false)), .d (nsl [])])] (by kernel_rfl) h ?_; clear h; intro a w h
 obtain ⟨r1, er1, vr1, or1, lr1⟩ := mkZ (v := iv (!x.neg) x.abs) (m := x.abs.length) (len_iv hx)
 refine rSeq fam0ok 2 [(5, .call (Fn.cast (SRFrom (!x.neg) x.abs hx (by omega)) (congrArg vz er1.symm)) ia_4)] [(2, vp 1 0)] [(1, .box (zi r1))] (by kernel_rfl) h ?_; clear h; intro a w h
 refine wp_ret ?_
 refine retS [.agg (zi r1)] h Exit.ret (.inl rfl)  rfl ⟨RV.agg _ 1 0 _ _ _ _ ia_1 rfl rfl rfl rfl, trivial⟩ ?_ (by kernel_rfl) (by kernel_rfl)
 rw [er1, iv_not]; first | done | rfl
theorem sign_neg {x r : ZI} (e : r = ZI.of x.val) (h : r.neg = true) : (-1 : Int) = sgn x.val := by
 rw [e] at h; exact (sgn_neg (of_decide_eq_true h)).symm
theorem sign_pos {x r : ZI} (e : r = ZI.of x.val) (h : r.neg = false) (hl : (r.abs.length : Int) > 0) : (1 : Int) = sgn x.val := by
 rw [e] at h hl
 have h1 : ¬ x.val < 0 := of_decide_eq_false h
 have h2 : x.val ≠ 0 := fun h0 => by have := ZI.abs_nil.2 h0; omega
 exact (sgn_pos (by omega)).symm
theorem sign_zero {x r : ZI} (e : r = ZI.of x.val) (hl : ¬ (r.abs.length : Int) > 0) : (0 : Int) = sgn x.val := by
 rw [e] at hl
 exact (sgn_zero (ZI.abs_nil.1 (by omega))).symm
theorem SSign (x : ZI) (hx : Lb x.abs) (lx : x.abs.length ≤ 100000) : Fn Tryz.prog 82 [] [vz x] (vi .i64 (sgn x.val)) [] := by
 refine Fn.body Tryz.func82 rfl 13 rfl fun w H B a h => ?_
 refine rSeq fam0ok 0 [] [(1, vp 0 0), (2, vi .i64 0)] [(0, .box (zi x))] (by kernel_rfl) h ?_; clear h; intro a w h
 obtain ⟨r1, er1, vr1, or1, lr1⟩ := mkZ (v := x.val) (m := x.abs.length) (len_id hx)
 refine rSeq fam0ok 1 [(1, .call (Fn.cast (SClean x hx (by omega)) (congrArg vz er1.symm)) ia_5)] [(1, vp 0 0), (2, vi .i64 0)] [(0, .box (zi r1))] (by kernel_rfl) h ?_; clear h; intro a w h
 refine wp_seq ?_
 refine wp_block ?_
 refine rSeq fam0ok 1 [] [(1, vp 0 0), (2, vi .i64 0), (5, vb r1.neg)] [(0, .box (zi r1))] (by kernel_rfl) h ?_; clear h; intro a w h
 refine condS r1.neg h rfl (fun hc => ?_) (fun hc => ?_)
 ·have hc1 := hc; clear hc
  refine rSeq fam0ok 1 [] [(2, vi .i64 (-1))] [] (by kernel_rfl) h ?_; clear h; intro a w h
  refine wp_ret ?_
  refine block_r ?_
  refine then_r ?_
  refine retS [.c (.d (.raw (.int .i64 (-1))))] h Exit.ret (.inl rfl)  rfl ⟨RV.tmp _ _ rfl, trivial⟩ ?_ (by kernel_rfl) (by kernel_rfl)
  rw [← sign_neg er1 hc1]; first | done | rfl
 ·have hc2 := hc; clear hc
  refine rSeq fam0ok 1 [(2, .len (nsl_len r1.abs))] [(2, vi .i64 0), (8, vb (decide ((r1.abs.length : Int) > 0)))] [] (by kernel_rfl) h ?_; clear h; intro a w h
  refine condS (decide ((r1.abs.length : Int) > 0)) h rfl (fun hc => ?_) (fun hc => ?_)
  ·have hc3 := hc; clear hc
   have hc3' := of_decide_eq_true hc3
   refine rSeq fam0ok 1 [] [(2, vi .i64 1)] [] (by kernel_rfl) h ?_; clear h; intro a w h
   refine wp_ret ?_
   refine block_r ?_
   refine then_r ?_
   refine retS [.c (.d (.raw (.int .i64 1)))] h Exit.ret (.inl rfl)  rfl ⟨RV.tmp _ _ rfl, trivial⟩ ?_ (by kernel_rfl) (by kernel_rfl)
   rw [← sign_pos er1 hc2 hc3']; first | done | rfl
  ·have hc4 := hc; clear hc
   have hc4' := of_decide_eq_false hc4
   refine wp_skip ?_
   refine block_n ?_
   refine then_n ?_
   refine rSeq fam0ok 1 [] [(2, vi .i64 0)] [] (by kernel_rfl) h ?_; clear h; intro a w h
   refine wp_ret ?_
   refine retS [.c (.d (.raw (.int .i64 0)))] h Exit.ret (.inl rfl)  rfl ⟨RV.tmp _ _ rfl, trivial⟩ ?_ (by kernel_rfl) (by kernel_rfl)
   rw [← sign_zero er1 hc4']; first | done | rfl
theorem rsign {x : ZI} {n1 : List Nat} (e : n1 = lbs (Go.Proofs.YtmohlifepfjmdaaGreat.val x.abs)) : (n1.length = 0 → (0 : Int) = sgn x.val) ∧ (n1.length ≠ 0 → x.neg = true → (-1 : Int) = sgn x.val) ∧ (n1.length ≠ 0 → x.neg = false → (1 : Int) = sgn x.val) := by
 have hv := lbs_val (Go.Proofs.YtmohlifepfjmdaaGreat.val x.abs)
 have hz : n1.length = 0 ↔ Go.Proofs.YtmohlifepfjmdaaGreat.val x.abs = 0 := by
  subst e
  constructor
  ·intro h; rw [List.length_eq_zero_iff.1 h] at hv; exact hv.symm
  ·intro h; rw [h]; rfl
 unfold ZI.val
 refine ⟨fun h => ?_, fun h k => ?_, fun h k => ?_⟩
 ·rw [sgn_zero (by unfold iv; rw [hz.1 h]; cases x.neg <;> rfl)]
 ·rw [sgn_neg (by unfold iv; rw [k]; have := mt hz.2 h; simp; omega)]
 ·rw [sgn_pos (by unfold iv; rw [k]; have := mt hz.2 h; simp; omega)]
theorem SRSign (x : ZI) (hx : Lb x.abs) (lx : x.abs.length ≤ 100000) : Fn Tryz.prog 74 [] [vz x] (vi .i64 (sgn x.val)) [] := by
 refine Fn.body Tryz.func74 rfl 10 rfl fun w H B a h => ?_
 refine rSeq fam0ok 0 [] [(1, vp 0 0), (2, vi .i64 0)] [(0, .box (zi x))] (by kernel_rfl) h ?_; clear h; intro a w h
 refine wp_seq ?_
 obtain ⟨n1, en1, vn1, on1, ln1⟩ := mkN (v := Go.Proofs.YtmohlifepfjmdaaGreat.val x.abs) (m := x.abs.length) (val_lt hx)
 refine rSeq fam0ok 1 [(2, .call (Fn.cast (SRnTrim x.abs hx (by omega)) (congrArg vn en1.symm)) ia_2), (3, .len (nsl_len n1))] [(1, vp 0 0), (2, vi .i64 0), (7, vb ((n1.length : Int) == 0))] [(0, .box (zi x))] (by kernel_rfl) h ?_; clear h; intro a w h
 refine condS ((n1.length : Int) == 0) h rfl (fun hc => ?_) (fun hc => ?_)
 ·have hc1 := hc; clear hc
  have hc1' := hc1; (try simp at hc1')
  refine rSeq fam0ok 1 [] [(1, vp 0 0), (2, vi .i64 0)] [(0, .box (zi x))] (by kernel_rfl) h ?_; clear h; intro a w h
  refine wp_ret ?_
  refine then_r ?_
  refine retS [.c (.d (.raw (.int .i64 0)))] h Exit.ret (.inl rfl)  rfl ⟨RV.tmp _ _ rfl, trivial⟩ ?_ (by kernel_rfl) (by kernel_rfl)
  rw [← (rsign en1).1 (by simpa using hc1)]; first | done | rfl
 ·have hc2 := hc; clear hc
  have hc2' := hc2; (try simp at hc2')
  refine wp_skip ?_
  refine then_n ?_
  refine wp_seq ?_
  refine rSeq fam0ok 1 [] [(2, vi .i64 0), (9, vb x.neg)] [] (by kernel_rfl) h ?_; clear h; intro a w h
  refine condS x.neg h rfl (fun hc => ?_) (fun hc => ?_)
  ·have hc3 := hc; clear hc
   refine rSeq fam0ok 1 [] [(2, vi .i64 (-1))] [] (by kernel_rfl) h ?_; clear h; intro a w h
   refine wp_ret ?_
   refine then_r ?_
   refine retS [.c (.d (.raw (.int .i64 (-1))))] h Exit.ret (.inl rfl)  rfl ⟨RV.tmp _ _ rfl, trivial⟩ ?_ (by kernel_rfl) (by kernel_rfl)
   rw [← (rsign en1).2.1 (by simpa using hc2) hc3]; first | done | rfl
  ·have hc4 := hc; clear hc
   refine wp_skip ?_
   refine then_n ?_
   refine rSeq fam0ok 1 [] [(2, vi .i64 1)] [] (by kernel_rfl) h ?_; clear h; intro a w h
   refine wp_ret ?_
   refine retS [.c (.d (.raw (.int .i64 1)))] h Exit.ret (.inl rfl)  rfl ⟨RV.tmp _ _ rfl, trivial⟩ ?_ (by kernel_rfl) (by kernel_rfl)
   rw [← (rsign en1).2.2 (by simpa using hc2) hc4]; first | done | rfl
theorem iv_same {s : Bool} {xs ys n : List Nat} (h : Go.Proofs.YtmohlifepfjmdaaGreat.val n = Go.Proofs.YtmohlifepfjmdaaGreat.val xs + Go.Proofs.YtmohlifepfjmdaaGreat.val ys) : iv s n = iv s xs + iv s ys := by unfold iv; rw [h]; cases s <;> simp <;> omega
theorem iv_ge {s t : Bool} {xs ys n : List Nat} (hne : s ≠ t) (hle : Go.Proofs.YtmohlifepfjmdaaGreat.val ys ≤ Go.Proofs.YtmohlifepfjmdaaGreat.val xs) (h : Go.Proofs.YtmohlifepfjmdaaGreat.val n = Go.Proofs.YtmohlifepfjmdaaGreat.val xs - Go.Proofs.YtmohlifepfjmdaaGreat.val ys) : iv s n = iv s xs + iv t ys := by unfold iv; rw [h]; cases s <;> cases t <;> simp_all <;> omega
theorem iv_lt {s t : Bool} {xs ys n : List Nat} (hne : s ≠ t) (hle : Go.Proofs.YtmohlifepfjmdaaGreat.val xs ≤ Go.Proofs.YtmohlifepfjmdaaGreat.val ys) (h : Go.Proofs.YtmohlifepfjmdaaGreat.val n = Go.Proofs.YtmohlifepfjmdaaGreat.val ys - Go.Proofs.YtmohlifepfjmdaaGreat.val xs) : iv t n = iv s xs + iv t ys := by unfold iv; rw [h]; cases s <;> cases t <;> simp_all <;> omega
theorem iv_times {s t : Bool} {xs ys n : List Nat} (h : Go.Proofs.YtmohlifepfjmdaaGreat.val n = Go.Proofs.YtmohlifepfjmdaaGreat.val xs * Go.Proofs.YtmohlifepfjmdaaGreat.val ys) : iv (s != t) n = iv s xs * iv t ys := by unfold iv; rw [h, Int.natCast_mul]; cases s <;> cases t <;> simp [Int.neg_mul, Int.mul_neg]
theorem SAdd (x y : ZI) (hx : Lb x.abs) (hy : Lb y.abs) (lx : x.abs.length ≤ 49000) (ly : y.abs.length ≤ 49000) : Fn Tryz.prog 91 [] [vz x, vz y] (vz (ZI.of (x.val + y.val))) [] := by
 refine Fn.body Tryz.func91 rfl 47 rfl fun w H B a h => ?_
 refine rSeq fam0ok 0 [] [(2, vp 0 0), (3, vp 1 0), (4, vp 2 0)] [(0, .box (zi x)), (1, .box (zi y)), (2, .box [.d (.raw (.bool false)), .d (nsl [])])] (by kernel_rfl) h ?_; clear h; intro a w h
 refine wp_seq ?_
 refine rSeq fam0ok 3 [] [(2, vp 0 0), (3, vp 1 0), (4, vp 2 0), (13, vb (x.neg == y.neg))] [(0, .box (zi x)), (1, .box (zi y)), (2, .box [.d (.raw (.bool false)), .d (nsl [])])] (by kernel_rfl) h ?_; clear h; intro a w h
 refine condS (x.neg == y.neg) h rfl (fun hc => ?_) (fun hc => ?_)
 ·have hc1 := hc; clear hc
  have hc1' := hc1; (try simp at hc1')
  obtain ⟨n1, en1, vn1, on1, ln1⟩ := mkN (v := Go.Proofs.YtmohlifepfjmdaaGreat.val x.abs + Go.Proofs.YtmohlifepfjmdaaGreat.val y.abs) (m := x.abs.length + y.abs.length + 1) (nadd_lt hx hy)
  obtain ⟨r2, er2, vr2, or2, lr2⟩ := mkZ (v := iv x.neg n1) (m := n1.length) (len_iv on1)
  refine rSeq fam0ok 3 [(6, .call (Fn.cast (SnAdd x.abs y.abs hx hy (by omega) (by omega)) (congrArg vn en1.symm)) ia_6), (7, .call (Fn.cast (SFrom x.neg n1 on1 (by omega)) (congrArg vz er2.symm)) ia_3)] [(2, vp 0 0), (3, vp 1 0), (4, vp 2 0)] [(0, .box (zi x)), (1, .box (zi y)), (2, .box (zi r2))] (by kernel_rfl) h ?_; clear h; intro a w h
  refine wp_ret ?_
  refine then_r ?_
  refine retS [.agg (zi r2)] h Exit.ret (.inl rfl)  rfl ⟨RV.agg _ 2 0 _ _ _ _ ia_1 rfl rfl rfl rfl, trivial⟩ ?_ (by kernel_rfl) (by kernel_rfl)
  have e1 : x.neg = y.neg := by simpa using hc1
  rw [er2, iv_same vn1]; show vz (ZI.of (iv x.neg x.abs + iv x.neg y.abs)) = vz (ZI.of (iv x.neg x.abs + iv y.neg y.abs)); rw [e1]
 ·have hc2 := hc; clear hc
  have hc2' := hc2; (try simp at hc2')
  refine wp_skip ?_
  refine then_n ?_
  refine wp_seq ?_
  obtain ⟨n3, en3, vn3, on3, ln3⟩ := mkN (v := Go.Proofs.YtmohlifepfjmdaaGreat.val x.abs - Go.Proofs.YtmohlifepfjmdaaGreat.val y.abs) (m := x.abs.length) (Nat.lt_of_le_of_lt (Nat.sub_le _ _) (val_lt hx))
  refine rSeq fam0ok 3 [(4, .call (Fn.cast (SnSub x.abs y.abs hx hy (by omega) (by omega)) (show _ = (.tup [.c (.d (nsl n3)), .c (.d (.raw (.bool (decide (Go.Proofs.YtmohlifepfjmdaaGreat.val y.abs ≤ Go.Proofs.YtmohlifepfjmdaaGreat.val x.abs)))))] : V) by rw [en3])) ia_7)] [(2, vp 0 0), (3, vp 1 0), (4, vp 2 0), (5, vn n3), (6, vb (decide (Go.Proofs.YtmohlifepfjmdaaGreat.val y.abs ≤ Go.Proofs.YtmohlifepfjmdaaGreat.val x.abs)))] [(0, .box (zi x)), (1, .box (zi y)), (2, .box [.d (.raw (.bool false)), .d (nsl [])])] (by kernel_rfl) h ?_; clear h; intro a w h
  refine rSeq fam0ok 3 [] [(2, vp 0 0), (3, vp 1 0), (4, vp 2 0), (5, vn n3), (30, vb (decide (Go.Proofs.YtmohlifepfjmdaaGreat.val y.abs ≤ Go.Proofs.YtmohlifepfjmdaaGreat.val x.abs)))] [(0, .box (zi x)), (1, .box (zi y)), (2, .box [.d (.raw (.bool false)), .d (nsl [])])] (by kernel_rfl) h ?_; clear h; intro a w h
  refine condS (decide (Go.Proofs.YtmohlifepfjmdaaGreat.val y.abs ≤ Go.Proofs.YtmohlifepfjmdaaGreat.val x.abs)) h rfl (fun hc => ?_) (fun hc => ?_)
  ·have hc3 := hc; clear hc
   have hc3' := of_decide_eq_true hc3
   obtain ⟨r4, er4, vr4, or4, lr4⟩ := mkZ (v := iv x.neg n3) (m := n3.length) (len_iv on3)
   refine rSeq fam0ok 3 [(3, .call (Fn.cast (SFrom x.neg n3 on3 (by omega)) (congrArg vz er4.symm)) ia_3)] [(2, vp 0 0), (3, vp 1 0), (4, vp 2 0)] [(0, .box (zi x)), (1, .box (zi y)), (2, .box (zi r4))] (by kernel_rfl) h ?_; clear h; intro a w h
   refine wp_ret ?_
   refine then_r ?_
   refine retS [.agg (zi r4)] h Exit.ret (.inl rfl)  rfl ⟨RV.agg _ 2 0 _ _ _ _ ia_1 rfl rfl rfl rfl, trivial⟩ ?_ (by kernel_rfl) (by kernel_rfl)
   rw [er4, iv_ge (t := y.neg) (ys := y.abs) (by simpa using hc2) hc3' vn3]; first | done | rfl
  ·have hc4 := hc; clear hc
   have hc4' := of_decide_eq_false hc4
   refine wp_skip ?_
   refine then_n ?_
   obtain ⟨n5, en5, vn5, on5, ln5⟩ := mkN (v := Go.Proofs.YtmohlifepfjmdaaGreat.val y.abs - Go.Proofs.YtmohlifepfjmdaaGreat.val x.abs) (m := y.abs.length) (Nat.lt_of_le_of_lt (Nat.sub_le _ _) (val_lt hy))
   refine rSeq fam0ok 3 [(4, .call (Fn.cast (SnSub y.abs x.abs hy hx (by omega) (by omega)) (show _ = (.tup [.c (.d (nsl n5)), .c (.d (.raw (.bool (decide (Go.Proofs.YtmohlifepfjmdaaGreat.val x.abs ≤ Go.Proofs.YtmohlifepfjmdaaGreat.val y.abs)))))] : V) by rw [en5])) ia_7)] [(3, vp 1 0), (4, vp 2 0), (7, vn n5)] [(1, .box (zi y)), (2, .box [.d (.raw (.bool false)), .d (nsl [])])] (by kernel_rfl) h ?_; clear h; intro a w h
   obtain ⟨r6, er6, vr6, or6, lr6⟩ := mkZ (v := iv y.neg n5) (m := n5.length) (len_iv on5)
   refine rSeq fam0ok 3 [(3, .call (Fn.cast (SFrom y.neg n5 on5 (by omega)) (congrArg vz er6.symm)) ia_3)] [(4, vp 2 0)] [(2, .box (zi r6))] (by kernel_rfl) h ?_; clear h; intro a w h
   refine wp_ret ?_
   refine retS [.agg (zi r6)] h Exit.ret (.inl rfl)  rfl ⟨RV.agg _ 2 0 _ _ _ _ ia_1 rfl rfl rfl rfl, trivial⟩ ?_ (by kernel_rfl) (by kernel_rfl)
   rw [er6, iv_lt (s := x.neg) (xs := x.abs) (by simpa using hc2) (by have := hc4'; omega) vn5]; first | done | rfl
theorem SMul (x y : ZI) (hx : Lb x.abs) (hy : Lb y.abs) (lx : x.abs.length ≤ 49000) (ly : y.abs.length ≤ 49000) : Fn Tryz.prog 92 [] [vz x, vz y] (vz (ZI.of (x.val * y.val))) [] := by
 refine Fn.body Tryz.func92 rfl 16 rfl fun w H B a h => ?_
 refine rSeq fam0ok 0 [] [(2, vp 0 0), (3, vp 1 0), (4, vp 2 0)] [(0, .box (zi x)), (1, .box (zi y)), (2, .box [.d (.raw (.bool false)), .d (nsl [])])] (by kernel_rfl) h ?_; clear h; intro a w h
 obtain ⟨n1, en1, vn1, on1, ln1⟩ := mkN (v := Go.Proofs.YtmohlifepfjmdaaGreat.val x.abs * Go.Proofs.YtmohlifepfjmdaaGreat.val y.abs) (m := x.abs.length + y.abs.length) (nmul_lt hx hy)
 obtain ⟨r2, er2, vr2, or2, lr2⟩ := mkZ (v := iv (x.neg != y.neg) n1) (m := n1.length) (len_iv on1)
 refine rSeq fam0ok 3 [(9, .call (Fn.cast (SnMul x.abs y.abs hx hy (by omega) (by omega)) (congrArg vn en1.symm)) ia_8), (10, .call (Fn.cast (SFrom (x.neg != y.neg) n1 on1 (by omega)) (congrArg vz er2.symm)) ia_3)] [(4, vp 2 0)] [(2, .box (zi r2))] (by kernel_rfl) h ?_; clear h; intro a w h
 refine wp_ret ?_
 refine retS [.agg (zi r2)] h Exit.ret (.inl rfl)  rfl ⟨RV.agg _ 2 0 _ _ _ _ ia_1 rfl rfl rfl rfl, trivial⟩ ?_ (by kernel_rfl) (by kernel_rfl)
 rw [er2, iv_times vn1]; first | done | rfl
end Go.Proofs.YtmohlifepfjmdaaGreat.S
end
section
namespace Go.Proofs.YtmohlifepfjmdaaGreat.S
open Go.RowKit

def intD (v : Int) : List D := [.raw (.int .i64 v)]
def ziD (x : ZI) : List D := [.raw (.bool x.neg), nsl x.abs]
def strD (x : ByteArray) : List D := [.raw (.string x)]
def boolD (x : Bool) : List D := [.raw (.bool x)]
def slD {α : Type} (es : Nat) (f : α → List D) (xs : List α) : List D := [.sl es (xs.map f)]
theorem map_at {α β : Type} {xs : List α} {i : Nat} {x : α} (h : xs[i]? = some x) {f : α → β} : (xs.map f)[i]? = some (f x) := by rw [List.getElem?_map, h]; rfl
theorem lenC_map {α : Type} (es : Nat) (f : α → List D) (xs : List α) : lenC (.d (.sl es (xs.map f))) = some xs.length := by simp [lenC]
def vd (l : List D) : V := .t (.agg (l.map C.d))
structure Part where
  v : Int
  c : ZI
def Part.d (x : Part) : List D := [.raw (.int .i64 x.v), .raw (.bool x.c.neg), nsl x.c.abs]
structure Term where
  parts : List Part
  k : ZI
def Term.d (x : Term) : List D := [.sl 3 (x.parts.map Part.d), .raw (.bool x.k.neg), nsl x.k.abs]
end Go.Proofs.YtmohlifepfjmdaaGreat.S
end
section
namespace Go.Proofs.YtmohlifepfjmdaaGreat.S
open Go.RowKit Go.WideShapes

def all (w : World) : Im := fun b => w.heap[b]?
def RepN (w : World) (n : Nat) (t : TypeId) {α : Type} (f : α → List D) (good : α → Prop) : Prop :=
  ∀ (H : Type) (enc : TypeId × Value → H) (base : Nat) (spare : Nat → Bool) (held : Bool) (fuel : Nat) (cs : List Value) (x : DataW H × List MemPlace), fuel ≤ n → DataW.trod enc Tryz.prog w base spare held fuel t cs = some x → ∃ a : α, good a ∧ All2 (DR (all w)) (f a) cs
section
variable {w : World} {n : Nat} {t : TypeId} {α β : Type} {f : α → List D} {good : α → Prop}
theorem RepN.zero : RepN w 0 t f good := fun H enc base spare held fuel cs x hn h => by
 obtain rfl : fuel = 0 := by omega
 simp [DataW.trod] at h
theorem RepN.mono {m : Nat} (h : RepN w n t f good) (hm : m ≤ n) : RepN w m t f good := fun H enc base spare held fuel cs x hn hx => h H enc base spare held fuel cs x (by omega) hx
theorem RepN.map {f' : β → List D} {good' : β → Prop} (h : RepN w n t f good) (g : α → β) (hf : ∀ a, f' (g a) = f a) (hg : ∀ a, good a → good' (g a)) : RepN w n t f' good' := fun H enc base spare held fuel cs x hn hx => by
 obtain ⟨a, h1, h2⟩ := h H enc base spare held fuel cs x hn hx
 exact ⟨g a, hg a h1, by rw [hf]; exact h2⟩
theorem rep_int {k : IntKind} (hu : Tryz.prog.underlying t = some (.int k)) : RepN w n t (fun v : Int => [.raw (.int k v)]) (fun v => (Lit.int k v).wf = true) := fun H enc base spare held fuel cs x hn hx => by
 obtain ⟨v, rfl, _, hw⟩ := DataW.trod_int hu hx
 exact ⟨v, hw, DR.raw _ rfl, trivial⟩
theorem rep_bool (hu : Tryz.prog.underlying t = some .bool) : RepN w n t boolD (fun _ => True) := fun H enc base spare held fuel cs x hn hx => by
 obtain ⟨v, rfl, _⟩ := DataW.trod_bool hu hx
 exact ⟨v, trivial, DR.raw _ rfl, trivial⟩
theorem rep_str (hu : Tryz.prog.underlying t = some .string) : RepN w n t strD (fun s => s.size ≤ maxLen) := fun H enc base spare held fuel cs x hn hx => by
 obtain ⟨v, rfl, _, hs⟩ := DataW.trod_string hu hx
 exact ⟨v, hs, DR.raw _ rfl, trivial⟩
theorem rep_i64 (hu : Tryz.prog.underlying t = some (.int .i64)) : RepN w n t intD (fun v => -9223372036854775808 ≤ v ∧ v ≤ 9223372036854775807) :=
 (rep_int hu).map id (fun _ => rfl) fun v h => by have := bounds_i64 h; simp only [id]; omega
theorem rep_u32 (hu : Tryz.prog.underlying t = some (.int .u32)) : RepN w n t (fun v : Nat => [.raw (.int .u32 (v : Int))]) (fun v => v < 4294967296) := fun H enc base spare held fuel cs x hn hx => by
 obtain ⟨v, rfl, _, hw⟩ := DataW.trod_int hu hx
 have := bounds_u32 hw
 refine ⟨v.toNat, by omega, ?_, trivial⟩
 rw [Int.toNat_of_nonneg (by omega)]
 exact DR.raw _ rfl
theorem listOf {P : Nat → α → Prop} : ∀ (len : Nat), (∀ i, i < len → ∃ a, P i a) → ∃ xs : List α, xs.length = len ∧ ∀ i x, xs[i]? = some x → P i x
 | 0, _ => ⟨[], rfl, fun i x h => by simp at h⟩
 | len + 1, h => by
  obtain ⟨xs, h1, h2⟩ := listOf len fun i hi => h i (by omega)
  obtain ⟨a, ha⟩ := h len (by omega)
  refine ⟨xs ++ [a], by simp [h1], fun i x hx => ?_⟩
  by_cases hi : i < xs.length
  ·rw [List.getElem?_append_left hi] at hx; exact h2 i x hx
  ·have hl := (List.getElem?_eq_some_iff.1 hx).1
   simp only [List.length_append, List.length_cons, List.length_nil] at hl
   have e : i = xs.length := by omega
   subst e
   simp at hx
   subst hx
   rw [h1]; exact ha
theorem cell_at {b o : Nat} {v : Value} (h : w.cell? ⟨b, o, none⟩ = some v) : ∃ arr ty fz, w.heap[b]? = some (.cells arr ty fz) ∧ arr[o]? = some v := by
 unfold World.cell? at h
 split at h
 ·rename_i cs ty fz hb
  exact ⟨cs, ty, fz, hb, by simpa using h⟩
 ·cases h
theorem rep_slice {e : TypeId} {k : Nat} (hu : Tryz.prog.underlying t = some (.slice e)) (hc : Tryz.prog.cellsOf e = k) (hk : 0 < k) (hl : ∀ a, (f a).length = k) (he : RepN w n e f good) : RepN w n t (slD k f) (fun xs => xs.length ≤ maxLen ∧ ∀ x ∈ xs, good x) := fun H enc base spare held fuel cs x hn hx => by
 rcases DataW.trod_slice hu hx with ⟨rfl, _⟩ | ⟨a, len, cap, elems, rest, m, rfl, rfl, _, _, h2, h3, h4, h5, _, _⟩
 ·exact ⟨[], ⟨Nat.zero_le _, by simp⟩, DR.nil _ _ _ (fun _ => rfl) (Nat.zero_le _), trivial⟩
 ·rw [hc] at h5
  obtain ⟨xs, hxl, hxs⟩ := listOf (P := fun i (y : α) => good y ∧ ∃ cs', w.cells? base (a.add (i * k)) k = some cs' ∧ All2 (DR (all w)) (f y) cs') len fun i hi => by
   have h6 := h5 i hi
   rw [List.getElem?_eq_getElem (by omega)] at h6
   obtain ⟨cs', g1, g2⟩ := Option.bind_eq_some_iff.1 h6
   obtain ⟨y, g3, g4⟩ := he H enc base spare held m cs' _ (by omega) g2
   exact ⟨y, g3, cs', g1, g4⟩
  refine ⟨xs, ⟨by omega, fun y hy => ?_⟩, ?_, trivial⟩
  ·obtain ⟨i, hi⟩ := List.mem_iff_getElem?.1 hy
   exact (hxs i y hi).1
  ·show DR (all w) (.sl k (xs.map f)) _
   rcases Nat.eq_zero_or_pos len with h0 | h0
   ·subst h0
    have : xs = [] := List.length_eq_zero_iff.1 hxl
    subst this
    exact DR.nil _ _ _ (fun e => by cases e) h3
   ·have cells : ∀ i y, xs[i]? = some y → ∀ j, j < k → ∃ v d, w.cell? ((a.add (i * k)).add j) = some v ∧ (f y)[j]? = some d ∧ DR (all w) d v := fun i y hy j hj => by
     obtain ⟨_, cs', g1, g2⟩ := hxs i y hy
     obtain ⟨_, g4, g5⟩ := World.cells?_some g1
     obtain ⟨v, g6, g7⟩ := g2.get j (by rw [hl]; exact hj)
     exact ⟨v, _, by rw [g5 j hj]; exact g6, List.getElem?_eq_getElem (by rw [hl]; exact hj), g7⟩
    obtain ⟨y0, hy0⟩ : ∃ y, xs[0]? = some y := ⟨_, List.getElem?_eq_getElem (by omega)⟩
    obtain ⟨v0, _, c0, _, _⟩ := cells 0 y0 hy0 0 hk
    obtain ⟨b, o, sp⟩ := a
    have hsp : sp = none := by
     have := World.cell?_spot c0
     simpa [Addr.add] using this
    subst hsp
    have c0' : w.cell? ⟨b, o, none⟩ = some v0 := by simpa [Addr.add_mid] using c0
    obtain ⟨arr, ty, fz, hb, _⟩ := cell_at c0'
    have at_ : ∀ i y, xs[i]? = some y → ∀ j, j < k → ∃ v d, arr[o + i * k + j]? = some v ∧ (f y)[j]? = some d ∧ DR (all w) d v := fun i y hy j hj => by
     obtain ⟨v, d, g1, g2, g3⟩ := cells i y hy j hj
     rw [Addr.add_mid, Addr.add_mid] at g1
     obtain ⟨arr', ty', fz', hb', g4⟩ := cell_at g1
     rw [hb] at hb'
     injection hb' with hb'
     injection hb' with e1
     subst e1
     exact ⟨v, d, g4, g2, g3⟩
    have := DR.sl (H := all w) k (xs.map f) b o cap arr ty fz (fun i j => (arr[o + i * k + j]?).getD v0) (by rw [List.length_map]; omega) hb (by rw [List.length_map]; omega) h3 (fun i hi => by rw [List.getElem_map]; exact hl _)
     (fun i hi j hj => by
      have hi' : i < xs.length := by simpa using hi
      obtain ⟨v, d, g1, _, _⟩ := at_ i xs[i] (List.getElem?_eq_getElem hi') j hj
      rw [g1]; rfl)
     (fun i hi j hj => by
      have hi' : i < xs.length := by simpa using hi
      have hj' : j < k := by rw [List.getElem_map, hl] at hj; exact hj
      obtain ⟨v, d, g1, g2, g3⟩ := at_ i xs[i] (List.getElem?_eq_getElem hi') j hj'
      have e1 : ((xs.map f)[i])[j]? = some d := by rw [List.getElem_map]; exact g2
      rw [List.getElem?_eq_getElem hj] at e1
      injection e1 with e1
      rw [e1, g1]; exact g3)
    rwa [List.length_map, hxl] at this
def FsN (w : World) (n : Nat) (fs : List Field) (o k : Nat) {α : Type} (f : α → List D) (good : α → Prop) : Prop :=
  ∀ (H : Type) (enc : TypeId × Value → H) (base : Nat) (spare : Nat → Bool) (held : Bool) (cs : List Value), (∀ fl ∈ fs, ∃ m x, m ≤ n ∧ DataW.trod enc Tryz.prog w base spare held m fl.type ((cs.drop fl.offset).take (Tryz.prog.cellsOf fl.type)) = some x) → o + k = cs.length → ∃ a : α, good a ∧ All2 (DR (all w)) (f a) (cs.drop o)
theorem FsN.nil {o : Nat} : FsN w n [] o 0 (fun _ : Unit => []) (fun _ => True) := fun H enc base spare held cs _ hl => ⟨(), trivial, by rw [List.drop_of_length_le (by omega)]; trivial⟩
theorem FsN.cons {fl : Field} {fs : List Field} {o k0 k1 : Nat} {f1 : β → List D} {good1 : β → Prop} (ho : fl.offset = o) (hc : Tryz.prog.cellsOf fl.type = k0) (h0 : RepN w n fl.type f good) (h1 : FsN w n fs (o + k0) k1 f1 good1) :
  FsN w n (fl :: fs) o (k0 + k1) (fun p : α × β => f p.1 ++ f1 p.2) (fun p => good p.1 ∧ good1 p.2) := fun H enc base spare held cs hf hl => by
 obtain ⟨m, x, hm, hx⟩ := hf fl (by simp)
 rw [ho, hc] at hx
 obtain ⟨a, g1, g2⟩ := h0 H enc base spare held m _ x hm hx
 obtain ⟨b, g3, g4⟩ := h1 H enc base spare held cs (fun fl' h' => hf fl' (by simp [h'])) (by omega)
 refine ⟨(a, b), ⟨g1, g3⟩, ?_⟩
 have e : cs.drop o = (cs.drop o).take k0 ++ cs.drop (o + k0) := by rw [← List.drop_drop, List.take_append_drop]
 rw [e]
 exact g2.append g4
theorem rep_struct {k : Nat} {fs : Array Field} (hu : Tryz.prog.underlying t = some (.struct fs)) (hc : Tryz.prog.cellsOf t = k) (h : FsN w n fs.toList 0 k f good) : RepN w (n + 1) t f good := fun H enc base spare held fuel cs x hn hx => by
 obtain ⟨xs, m, rfl, _, h2, h3, h4⟩ := DataW.trod_struct hu hx
 obtain ⟨a, g1, g2⟩ := h H enc base spare held cs (fun fl hfl => by
  obtain ⟨i, hi⟩ := List.mem_iff_getElem?.1 hfl
  have hi' : fs[i]? = some fl := by simpa using hi
  have := h4 i fl hi'
  have hlt : i < xs.length := by rw [h3]; exact (Array.getElem?_eq_some_iff.1 hi').1
  rw [List.getElem?_eq_getElem hlt] at this
  exact ⟨m, _, by omega, this⟩) (by rw [h2, hc]; omega)
 exact ⟨a, g1, by simpa using g2⟩
/-- a struct that came in -/
theorem rep_agg {fs : Array Field} (hu : Tryz.prog.underlying t = some (.struct fs)) (hr : ∀ n, RepN w n t f good) {H : Type} {enc : TypeId × Value → H} {base : Nat} {spare : Nat → Bool} {held : Bool} {r : Reach} {b0 : Nat} {v : Value} {d : DataW H} {p : List MemPlace} (hv : Value.okWide Tryz.prog w r b0 t v) (h : DataW.Trod enc Tryz.prog w base spare held t v d p) :
  ∃ (a : α) (cs : List Value), good a ∧ v = .agg ⟨cs⟩ ∧ All2 (DR (all w)) (f a) cs := by
 obtain ⟨cs, rfl, _⟩ := okWide_struct hu hv
 obtain ⟨fuel, hf⟩ := h
 obtain ⟨a, g1, g2⟩ := hr fuel H enc base spare held fuel _ _ (Nat.le_refl _) hf
 exact ⟨a, cs.toList, g1, rfl, g2⟩
/-- a slice that came in -/
theorem rep_one {e : TypeId} {g : α → D} (hu : Tryz.prog.underlying t = some (.slice e)) (hr : ∀ n, RepN w n t (fun a => [g a]) good) {H : Type} {enc : TypeId × Value → H} {base : Nat} {spare : Nat → Bool} {held : Bool} {r : Reach} {b0 : Nat} {v : Value} {d : DataW H} {p : List MemPlace} (hv : Value.okWide Tryz.prog w r b0 t v) (h : DataW.Trod enc Tryz.prog w base spare held t v d p) :
  ∃ (a : α) (ao : Option Addr) (len cap : Nat), good a ∧ v = .slice ao len cap ∧ DR (all w) (g a) v := by
 obtain ⟨ao, len, cap, rfl⟩ := okWide_slice hu hv
 obtain ⟨fuel, hf⟩ := h
 obtain ⟨a, g1, g2⟩ := hr fuel H enc base spare held fuel _ _ (Nat.le_refl _) hf
 exact ⟨a, ao, len, cap, g1, rfl, g2.1⟩
theorem dr_vd {l : List D} {cs : List Value} (h : All2 (DR (all w)) l cs) (B : Bl) : VR (all w) B (vd l) (.agg ⟨cs⟩) := by
 refine ⟨cs, rfl, All2.iff.2 ⟨by simpa using h.length, fun j a b ha hb => ?_⟩⟩
 rw [List.getElem?_map] at ha
 cases hj : l[j]? with
 | none => rw [hj] at ha; cases ha
 | some d =>
  rw [hj] at ha
  injection ha with ha
  subst ha
  exact (All2.iff.1 h).2 j d b hj hb
end
theorem Fn.calls {k : FuncId} {args : List V} {vals : List Value} {w : World} (h : Fn Tryz.prog k [] args (vb true) []) (ha : ∀ B, All2 (VR (all w) B) args vals) : Calls Tryz.prog k ⟨vals⟩ w (GotP (.bool true) w) := by
 refine (h w (all w) (fun _ => none) vals ⟨fun b o hb => hb, fun p hp => (by cases hp), fun p hp => (by cases hp), fun p hp => (by cases hp), ha _⟩).mono ?_
 rintro en w' ⟨v, H', B', rfl, post⟩
 have := VR.rawI post.res
 subst this
 exact ⟨rfl, post.ext.os, post.ext.tape, post.ext.output, post.ext.size, fun b hb => post.ext.block b hb (by rintro ⟨p, hp, _⟩; cases hp)⟩
/-! the types of numbers and terms -/
section
variable {w : World} {n : Nat}
theorem rep_Nat : RepN w n 26 (fun zs => [nsl zs]) Lb :=
 (rep_slice (k := 1) (f := fun v : Nat => [D.raw (.int .u32 (v : Int))]) Tryz.underlying26 (by kernel_rfl) (by decide) (fun _ => rfl) (rep_u32 Tryz.underlying132)).map id (fun _ => rfl) fun zs h z hz => h.2 z hz
theorem rep_ZI : RepN w n 28 ziD (fun x => Lb x.abs) :=
 ((rep_struct (n := n) Tryz.underlying28 (by kernel_rfl) (.cons (k0 := 1) rfl (by kernel_rfl) (rep_bool Tryz.underlying4) (.cons (k0 := 1) rfl (by kernel_rfl) rep_Nat .nil))).map (fun p => ⟨p.1, p.2.1⟩) (fun _ => rfl) fun _ h => h.2.1).mono (Nat.le_succ n)
theorem rep_Part : RepN w n 110 Part.d (fun p => Lb p.c.abs) :=
 ((rep_struct (n := n) Tryz.underlying110 (by kernel_rfl) (.cons (k0 := 1) rfl (by kernel_rfl) (rep_i64 Tryz.underlying3) (.cons (k0 := 2) rfl (by kernel_rfl) rep_ZI .nil))).map (fun p => ⟨p.1, p.2.1⟩) (fun _ => rfl) fun _ h => h.2.1).mono (Nat.le_succ n)
def TLb (t : Term) : Prop := Lb t.k.abs ∧ ∀ p ∈ t.parts, Lb p.c.abs
theorem rep_Parts : RepN w n 24 (slD 3 Part.d) (fun ps => ps.length ≤ maxLen ∧ ∀ p ∈ ps, Lb p.c.abs) :=
 rep_slice (k := 3) Tryz.underlying24 (by kernel_rfl) (by decide) (fun _ => rfl) rep_Part
theorem rep_Term : RepN w n 30 Term.d TLb :=
 ((rep_struct (n := n) Tryz.underlying30 (by kernel_rfl) (.cons (k0 := 1) rfl (by kernel_rfl) rep_Parts (.cons (k0 := 2) rfl (by kernel_rfl) rep_ZI .nil))).map (fun p => ⟨p.1, p.2.1⟩) (fun _ => rfl) fun _ h => ⟨h.2.1, h.1.2⟩).mono (Nat.le_succ n)
theorem rep_ints : RepN w n 40 (slD 1 intD) (fun xs => xs.length ≤ maxLen ∧ ∀ x ∈ xs, -9223372036854775808 ≤ x ∧ x ≤ 9223372036854775807) :=
 rep_slice (k := 1) Tryz.underlying40 (by kernel_rfl) (by decide) (fun _ => rfl) (rep_i64 Tryz.underlying3)
end
end Go.Proofs.YtmohlifepfjmdaaGreat.S
end
section
namespace Go.Proofs.YtmohlifepfjmdaaGreat.S
open Go.RowKit

section
variable {P : Program}
theorem Op.quo {d : Nat} {x y : Operand} {k : IntKind} {m n r : Int} {rs rs' : List (Nat × V)} {xt yt ty : TypeId} {pos af gd} (h : OV x (vi k m) rs) (h' : OV y (vi k n) rs') (hn : n ≠ 0) (he : m.tdiv n = r) (hr : k.wrap r = r) :
  OpOk P ⟨some d, .binOp .quo xt x y yt, ty, pos, af, gd⟩ { rs := rs ++ rs', ws := [(d, some (vi k r))] } := by
 refine Op.raw2 rfl h h' rfl fun ρ w h1 h2 => ?_
 simp [execOp, h1, h2, eqGuard, binOp, Op.intDiv, hn, he, hr, go_sem]
theorem Op.rem {d : Nat} {x y : Operand} {k : IntKind} {m n r : Int} {rs rs' : List (Nat × V)} {xt yt ty : TypeId} {pos af gd} (h : OV x (vi k m) rs) (h' : OV y (vi k n) rs') (hn : n ≠ 0) (he : m.tmod n = r) :
  OpOk P ⟨some d, .binOp .rem xt x y yt, ty, pos, af, gd⟩ { rs := rs ++ rs', ws := [(d, some (vi k r))] } := by
 refine Op.raw2 rfl h h' rfl fun ρ w h1 h2 => ?_
 simp [execOp, h1, h2, eqGuard, binOp, Op.intDiv, hn, he, go_sem]
end
end Go.Proofs.YtmohlifepfjmdaaGreat.S
end
section
namespace Go.Proofs.YtmohlifepfjmdaaGreat.S
open Go.RowKit

theorem ib_0 : Bodied Tryz.prog 74 := Bodied.mk' (by kernel_rfl)
theorem ib_1 : Bodied Tryz.prog 87 := Bodied.mk' (by kernel_rfl)
theorem ib_4 : Bodied Tryz.prog 96 := Bodied.mk' (by kernel_rfl)
theorem ib_5 : Bodied Tryz.prog 70 := Bodied.mk' (by kernel_rfl)
theorem ib_6 : Bodied Tryz.prog 97 := Bodied.mk' (by kernel_rfl)
theorem ib_7 : Bodied Tryz.prog 73 := Bodied.mk' (by kernel_rfl)
theorem ib_10 : ElZ Tryz.prog 26 132 1 := ElZ.mk' Tryz.underlying26 _ _ rfl rfl (by kernel_rfl) (by kernel_rfl) (by kernel_rfl) (by decide)
theorem iv_true (n : List Nat) : iv true n = -(Go.Proofs.YtmohlifepfjmdaaGreat.val n : Int) := rfl
theorem iv_false (n : List Nat) : iv false n = (Go.Proofs.YtmohlifepfjmdaaGreat.val n : Int) := rfl
theorem val_neg {x : ZI} (h : x.val < 0) : x.val = -(Go.Proofs.YtmohlifepfjmdaaGreat.val x.abs : Int) := by
 unfold ZI.val at h ⊢
 cases hn : x.neg with
 | true => rfl
 | false => rw [hn, iv_false] at h; omega
theorem val_pos {x : ZI} (h : 0 ≤ x.val) : x.val = (Go.Proofs.YtmohlifepfjmdaaGreat.val x.abs : Int) := by
 unfold ZI.val at h ⊢
 cases hn : x.neg with
 | false => rfl
 | true => rw [hn, iv_true] at h; rw [iv_true]; omega
theorem sgn_lt_t {z : Int} (h : z < 0) : decide (sgn z < 0) = true := by rw [sgn_neg h]; rfl
theorem sgn_lt_f {z : Int} (h : 0 ≤ z) : decide (sgn z < 0) = false := decide_eq_false (mt sgn_lt_zero.1 (by omega))
theorem sgn_ge_t {z : Int} (h : 0 ≤ z) : decide (sgn z ≥ 0) = true := decide_eq_true (by have := mt (sgn_lt_zero (z := z)).1 (by omega); omega)
theorem sgn_ge_f {z : Int} (h : z < 0) : decide (sgn z ≥ 0) = false := by rw [sgn_neg h]; rfl
theorem SRAdd_pp (x y : ZI) (hx : Lb x.abs) (hy : Lb y.abs) (lx : x.abs.length ≤ 49000) (ly : y.abs.length ≤ 49000) (px : 0 ≤ x.val) (py : 0 ≤ y.val) : Fn Tryz.prog 70 [] [vz x, vz y] (vz (ZI.of (x.val + y.val))) [] := by
 refine Fn.body Tryz.func70 rfl 62 rfl fun w H B a h => ?_
 refine rSeq fam0ok 0 [] [(2, vp 0 0), (3, vp 1 0), (4, vp 2 0)] [(0, .box (zi x)), (1, .box (zi y)), (2, .box [.d (.raw (.bool false)), .d (nsl [])])] (by kernel_rfl) h ?_; clear h; intro a w h
 refine wp_seq ?_
 refine rSeq fam0ok 3 [(1, .call (SRSign x hx (by omega)) ib_0), (2, .cmp (op := .lss) (m := (sgn x.val)) (n := 0) (b := false) .i64 (sgn_lt_f px))] [(2, vp 0 0), (3, vp 1 0), (4, vp 2 0), (14, vb false)] [(0, .box (zi x)), (1, .box (zi y)), (2, .box [.d (.raw (.bool false)), .d (nsl [])])] (by kernel_rfl) h ?_; clear h; intro a w h
 refine condS false h rfl (fun hc => ?_) (fun hc => ?_)
 ·cases hc
 ·clear hc
  refine wp_skip ?_
  refine then_n ?_
  refine wp_seq ?_
  refine rSeq fam0ok 3 [(1, .call (SRSign x hx (by omega)) ib_0), (2, .cmp (op := .geq) (m := (sgn x.val)) (n := 0) (b := true) .i64 (sgn_ge_t px)), (5, .call (SRSign y hy (by omega)) ib_0), (6, .cmp (op := .geq) (m := (sgn y.val)) (n := 0) (b := true) .i64 (sgn_ge_t py))] [(2, vp 0 0), (3, vp 1 0), (4, vp 2 0), (28, vb true)] [(0, .box (zi x)), (1, .box (zi y)), (2, .box [.d (.raw (.bool false)), .d (nsl [])])] (by kernel_rfl) h ?_; clear h; intro a w h
  refine condS true h rfl (fun hc => ?_) (fun hc => ?_)
  ·clear hc
   obtain ⟨n4, en4, vn4, on4, ln4⟩ := mkN (v := Go.Proofs.YtmohlifepfjmdaaGreat.val x.abs + Go.Proofs.YtmohlifepfjmdaaGreat.val y.abs) (m := x.abs.length + y.abs.length + 1) (nadd_lt hx hy)
   obtain ⟨r5, er5, vr5, or5, lr5⟩ := mkZ (v := iv false n4) (m := n4.length) (len_iv on4)
   refine rSeq fam0ok 3 [(4, .call (Fn.cast (SRnAdd x.abs y.abs hx hy (by omega) (by omega)) (congrArg vn en4.symm)) ib_1), (5, .call (Fn.cast (SRFrom false n4 on4 (by omega)) (congrArg vz er5.symm)) ia_4)] [(2, vp 0 0), (3, vp 1 0), (4, vp 2 0)] [(0, .box (zi x)), (1, .box (zi y)), (2, .box (zi r5))] (by kernel_rfl) h ?_; clear h; intro a w h
   refine wp_ret ?_
   refine then_r ?_
   refine retS [.agg (zi r5)] h Exit.ret (.inl rfl)  rfl ⟨RV.agg _ 2 0 _ _ _ _ ia_1 rfl rfl rfl rfl, trivial⟩ ?_ (by kernel_rfl) (by kernel_rfl)
   refine congrArg (fun z => vz z) (er5.trans (congrArg ZI.of ?_))
   have ax := val_pos (x := x) px
   have ay := val_pos (x := y) py
   (try simp only [iv_true])
   (try simp only [iv_false])
   omega
  ·cases hc
theorem SRAdd_nn (x y : ZI) (hx : Lb x.abs) (hy : Lb y.abs) (lx : x.abs.length ≤ 49000) (ly : y.abs.length ≤ 49000) (px : x.val < 0) (py : y.val < 0) : Fn Tryz.prog 70 [] [vz x, vz y] (vz (ZI.of (x.val + y.val))) [] := by
 refine Fn.body Tryz.func70 rfl 62 rfl fun w H B a h => ?_
 refine rSeq fam0ok 0 [] [(2, vp 0 0), (3, vp 1 0), (4, vp 2 0)] [(0, .box (zi x)), (1, .box (zi y)), (2, .box [.d (.raw (.bool false)), .d (nsl [])])] (by kernel_rfl) h ?_; clear h; intro a w h
 refine wp_seq ?_
 refine rSeq fam0ok 3 [(1, .call (SRSign x hx (by omega)) ib_0), (2, .cmp (op := .lss) (m := (sgn x.val)) (n := 0) (b := true) .i64 (sgn_lt_t px)), (5, .call (SRSign y hy (by omega)) ib_0), (6, .cmp (op := .lss) (m := (sgn y.val)) (n := 0) (b := true) .i64 (sgn_lt_t py))] [(2, vp 0 0), (3, vp 1 0), (4, vp 2 0), (14, vb true)] [(0, .box (zi x)), (1, .box (zi y)), (2, .box [.d (.raw (.bool false)), .d (nsl [])])] (by kernel_rfl) h ?_; clear h; intro a w h
 refine condS true h rfl (fun hc => ?_) (fun hc => ?_)
 ·clear hc
  obtain ⟨n3, en3, vn3, on3, ln3⟩ := mkN (v := Go.Proofs.YtmohlifepfjmdaaGreat.val x.abs + Go.Proofs.YtmohlifepfjmdaaGreat.val y.abs) (m := x.abs.length + y.abs.length + 1) (nadd_lt hx hy)
  obtain ⟨r4, er4, vr4, or4, lr4⟩ := mkZ (v := iv true n3) (m := n3.length) (len_iv on3)
  refine rSeq fam0ok 3 [(4, .call (Fn.cast (SRnAdd x.abs y.abs hx hy (by omega) (by omega)) (congrArg vn en3.symm)) ib_1), (5, .call (Fn.cast (SRFrom true n3 on3 (by omega)) (congrArg vz er4.symm)) ia_4)] [(2, vp 0 0), (3, vp 1 0), (4, vp 2 0)] [(0, .box (zi x)), (1, .box (zi y)), (2, .box (zi r4))] (by kernel_rfl) h ?_; clear h; intro a w h
  refine wp_ret ?_
  refine then_r ?_
  refine retS [.agg (zi r4)] h Exit.ret (.inl rfl)  rfl ⟨RV.agg _ 2 0 _ _ _ _ ia_1 rfl rfl rfl rfl, trivial⟩ ?_ (by kernel_rfl) (by kernel_rfl)
  refine congrArg (fun z => vz z) (er4.trans (congrArg ZI.of ?_))
  have ax := val_neg (x := x) px
  have ay := val_neg (x := y) py
  (try simp only [iv_true])
  (try simp only [iv_false])
  omega
 ·cases hc
theorem SRAdd_pn (x y : ZI) (hx : Lb x.abs) (hy : Lb y.abs) (lx : x.abs.length ≤ 49000) (ly : y.abs.length ≤ 49000) (px : 0 ≤ x.val) (py : y.val < 0) : Fn Tryz.prog 70 [] [vz x, vz y] (vz (ZI.of (x.val + y.val))) [] := by
 refine Fn.body Tryz.func70 rfl 62 rfl fun w H B a h => ?_
 refine rSeq fam0ok 0 [] [(2, vp 0 0), (3, vp 1 0), (4, vp 2 0)] [(0, .box (zi x)), (1, .box (zi y)), (2, .box [.d (.raw (.bool false)), .d (nsl [])])] (by kernel_rfl) h ?_; clear h; intro a w h
 refine wp_seq ?_
 refine rSeq fam0ok 3 [(1, .call (SRSign x hx (by omega)) ib_0), (2, .cmp (op := .lss) (m := (sgn x.val)) (n := 0) (b := false) .i64 (sgn_lt_f px))] [(2, vp 0 0), (3, vp 1 0), (4, vp 2 0), (14, vb false)] [(0, .box (zi x)), (1, .box (zi y)), (2, .box [.d (.raw (.bool false)), .d (nsl [])])] (by kernel_rfl) h ?_; clear h; intro a w h
 refine condS false h rfl (fun hc => ?_) (fun hc => ?_)
 ·cases hc
 ·clear hc
  refine wp_skip ?_
  refine then_n ?_
  refine wp_seq ?_
  refine rSeq fam0ok 3 [(1, .call (SRSign x hx (by omega)) ib_0), (2, .cmp (op := .geq) (m := (sgn x.val)) (n := 0) (b := true) .i64 (sgn_ge_t px)), (5, .call (SRSign y hy (by omega)) ib_0), (6, .cmp (op := .geq) (m := (sgn y.val)) (n := 0) (b := false) .i64 (sgn_ge_f py))] [(2, vp 0 0), (3, vp 1 0), (4, vp 2 0), (28, vb false)] [(0, .box (zi x)), (1, .box (zi y)), (2, .box [.d (.raw (.bool false)), .d (nsl [])])] (by kernel_rfl) h ?_; clear h; intro a w h
  refine condS false h rfl (fun hc => ?_) (fun hc => ?_)
  ·cases hc
  ·clear hc
   refine wp_skip ?_
   refine then_n ?_
   refine wp_seq ?_
   refine rSeq fam0ok 3 [(1, .call (SRSign x hx (by omega)) ib_0), (2, .cmp (op := .lss) (m := (sgn x.val)) (n := 0) (b := false) .i64 (sgn_lt_f px))] [(2, vp 0 0), (3, vp 1 0), (4, vp 2 0), (37, vb false)] [(0, .box (zi x)), (1, .box (zi y)), (2, .box [.d (.raw (.bool false)), .d (nsl [])])] (by kernel_rfl) h ?_; clear h; intro a w h
   refine condS false h rfl (fun hc => ?_) (fun hc => ?_)
   ·cases hc
   ·clear hc
    refine wp_skip ?_
    refine then_n ?_
    obtain ⟨n5, en5, vn5, on5, ln5⟩ := mkN (v := Go.Proofs.YtmohlifepfjmdaaGreat.val x.abs - Go.Proofs.YtmohlifepfjmdaaGreat.val y.abs) (m := x.abs.length) (Nat.lt_of_le_of_lt (Nat.sub_le _ _) (val_lt hx))
    refine rSeq fam0ok 3 [(4, .call (Fn.cast (SRnSub x.abs y.abs hx hy (by omega) (by omega)) (show _ = (.tup [.c (.d (nsl n5)), .c (.d (.raw (.bool (decide (Go.Proofs.YtmohlifepfjmdaaGreat.val y.abs ≤ Go.Proofs.YtmohlifepfjmdaaGreat.val x.abs)))))] : V) by rw [en5])) ib_4)] [(2, vp 0 0), (3, vp 1 0), (4, vp 2 0), (5, vn n5), (6, vb (decide (Go.Proofs.YtmohlifepfjmdaaGreat.val y.abs ≤ Go.Proofs.YtmohlifepfjmdaaGreat.val x.abs)))] [(0, .box (zi x)), (1, .box (zi y)), (2, .box [.d (.raw (.bool false)), .d (nsl [])])] (by kernel_rfl) h ?_; clear h; intro a w h
    refine wp_seq ?_
    refine rSeq fam0ok 3 [] [(2, vp 0 0), (3, vp 1 0), (4, vp 2 0), (5, vn n5), (49, vb (decide (Go.Proofs.YtmohlifepfjmdaaGreat.val y.abs ≤ Go.Proofs.YtmohlifepfjmdaaGreat.val x.abs)))] [(0, .box (zi x)), (1, .box (zi y)), (2, .box [.d (.raw (.bool false)), .d (nsl [])])] (by kernel_rfl) h ?_; clear h; intro a w h
    refine condS (decide (Go.Proofs.YtmohlifepfjmdaaGreat.val y.abs ≤ Go.Proofs.YtmohlifepfjmdaaGreat.val x.abs)) h rfl (fun hc => ?_) (fun hc => ?_)
    ·have hc1 := hc; clear hc
     have hc1' := of_decide_eq_true hc1
     obtain ⟨r6, er6, vr6, or6, lr6⟩ := mkZ (v := iv false n5) (m := n5.length) (len_iv on5)
     refine rSeq fam0ok 3 [(1, .call (Fn.cast (SRFrom false n5 on5 (by omega)) (congrArg vz er6.symm)) ia_4)] [(2, vp 0 0), (3, vp 1 0), (4, vp 2 0), (5, vn n5)] [(0, .box (zi x)), (1, .box (zi y)), (2, .box (zi r6))] (by kernel_rfl) h ?_; clear h; intro a w h
     refine wp_ret ?_
     refine then_r ?_
     refine retS [.agg (zi r6)] h Exit.ret (.inl rfl)  rfl ⟨RV.agg _ 2 0 _ _ _ _ ia_1 rfl rfl rfl rfl, trivial⟩ ?_ (by kernel_rfl) (by kernel_rfl)
     refine congrArg (fun z => vz z) (er6.trans (congrArg ZI.of ?_))
     have ax := val_pos (x := x) px
     have ay := val_neg (x := y) py
     (try simp only [iv_true])
     (try simp only [iv_false])
     omega
    ·have hc2 := hc; clear hc
     have hc2' := of_decide_eq_false hc2
     refine wp_skip ?_
     refine then_n ?_
     obtain ⟨n7, en7, vn7, on7, ln7⟩ := mkN (v := Go.Proofs.YtmohlifepfjmdaaGreat.val y.abs - Go.Proofs.YtmohlifepfjmdaaGreat.val x.abs) (m := y.abs.length) (Nat.lt_of_le_of_lt (Nat.sub_le _ _) (val_lt hy))
     refine rSeq fam0ok 3 [(4, .call (Fn.cast (SRnSub y.abs x.abs hy hx (by omega) (by omega)) (show _ = (.tup [.c (.d (nsl n7)), .c (.d (.raw (.bool (decide (Go.Proofs.YtmohlifepfjmdaaGreat.val x.abs ≤ Go.Proofs.YtmohlifepfjmdaaGreat.val y.abs)))))] : V) by rw [en7])) ib_4)] [(4, vp 2 0), (5, vn n7)] [(2, .box [.d (.raw (.bool false)), .d (nsl [])])] (by kernel_rfl) h ?_; clear h; intro a w h
     obtain ⟨r8, er8, vr8, or8, lr8⟩ := mkZ (v := iv true n7) (m := n7.length) (len_iv on7)
     refine rSeq fam0ok 3 [(1, .call (Fn.cast (SRFrom true n7 on7 (by omega)) (congrArg vz er8.symm)) ia_4)] [(4, vp 2 0)] [(2, .box (zi r8))] (by kernel_rfl) h ?_; clear h; intro a w h
     refine wp_ret ?_
     refine retS [.agg (zi r8)] h Exit.ret (.inl rfl)  rfl ⟨RV.agg _ 2 0 _ _ _ _ ia_1 rfl rfl rfl rfl, trivial⟩ ?_ (by kernel_rfl) (by kernel_rfl)
     refine congrArg (fun z => vz z) (er8.trans (congrArg ZI.of ?_))
     have ax := val_pos (x := x) px
     have ay := val_neg (x := y) py
     (try simp only [iv_true])
     (try simp only [iv_false])
     omega
theorem SRAdd_np (x y : ZI) (hx : Lb x.abs) (hy : Lb y.abs) (lx : x.abs.length ≤ 49000) (ly : y.abs.length ≤ 49000) (px : x.val < 0) (py : 0 ≤ y.val) : Fn Tryz.prog 70 [] [vz x, vz y] (vz (ZI.of (x.val + y.val))) [] := by
 refine Fn.body Tryz.func70 rfl 62 rfl fun w H B a h => ?_
 refine rSeq fam0ok 0 [] [(2, vp 0 0), (3, vp 1 0), (4, vp 2 0)] [(0, .box (zi x)), (1, .box (zi y)), (2, .box [.d (.raw (.bool false)), .d (nsl [])])] (by kernel_rfl) h ?_; clear h; intro a w h
 refine wp_seq ?_
 refine rSeq fam0ok 3 [(1, .call (SRSign x hx (by omega)) ib_0), (2, .cmp (op := .lss) (m := (sgn x.val)) (n := 0) (b := true) .i64 (sgn_lt_t px)), (5, .call (SRSign y hy (by omega)) ib_0), (6, .cmp (op := .lss) (m := (sgn y.val)) (n := 0) (b := false) .i64 (sgn_lt_f py))] [(2, vp 0 0), (3, vp 1 0), (4, vp 2 0), (14, vb false)] [(0, .box (zi x)), (1, .box (zi y)), (2, .box [.d (.raw (.bool false)), .d (nsl [])])] (by kernel_rfl) h ?_; clear h; intro a w h
 refine condS false h rfl (fun hc => ?_) (fun hc => ?_)
 ·cases hc
 ·clear hc
  refine wp_skip ?_
  refine then_n ?_
  refine wp_seq ?_
  refine rSeq fam0ok 3 [(1, .call (SRSign x hx (by omega)) ib_0), (2, .cmp (op := .geq) (m := (sgn x.val)) (n := 0) (b := false) .i64 (sgn_ge_f px))] [(2, vp 0 0), (3, vp 1 0), (4, vp 2 0), (28, vb false)] [(0, .box (zi x)), (1, .box (zi y)), (2, .box [.d (.raw (.bool false)), .d (nsl [])])] (by kernel_rfl) h ?_; clear h; intro a w h
  refine condS false h rfl (fun hc => ?_) (fun hc => ?_)
  ·cases hc
  ·clear hc
   refine wp_skip ?_
   refine then_n ?_
   refine wp_seq ?_
   refine rSeq fam0ok 3 [(1, .call (SRSign x hx (by omega)) ib_0), (2, .cmp (op := .lss) (m := (sgn x.val)) (n := 0) (b := true) .i64 (sgn_lt_t px))] [(2, vp 0 0), (3, vp 1 0), (4, vp 2 0), (37, vb true)] [(0, .box (zi x)), (1, .box (zi y)), (2, .box [.d (.raw (.bool false)), .d (nsl [])])] (by kernel_rfl) h ?_; clear h; intro a w h
   refine condS true h rfl (fun hc => ?_) (fun hc => ?_)
   ·clear hc
    obtain ⟨r5, er5, vr5, or5, lr5⟩ := mkZ (v := y.val + x.val) (m := y.abs.length + x.abs.length + 1) (len_add hy hx)
    refine rSeq fam0ok 3 [(2, .call (Fn.cast (SRAdd_pn y x hy hx ly lx py px) (congrArg vz er5.symm)) ib_5)] [(2, vp 0 0), (3, vp 1 0), (4, vp 2 0)] [(0, .box (zi x)), (1, .box (zi y)), (2, .box (zi r5))] (by kernel_rfl) h ?_; clear h; intro a w h
    refine wp_ret ?_
    refine then_r ?_
    refine retS [.agg (zi r5)] h Exit.ret (.inl rfl)  rfl ⟨RV.agg _ 2 0 _ _ _ _ ia_1 rfl rfl rfl rfl, trivial⟩ ?_ (by kernel_rfl) (by kernel_rfl)
    refine congrArg (fun z => vz z) (er5.trans (congrArg ZI.of ?_))
    omega
   ·cases hc
theorem SRAdd (x y : ZI) (hx : Lb x.abs) (hy : Lb y.abs) (lx : x.abs.length ≤ 49000) (ly : y.abs.length ≤ 49000) : Fn Tryz.prog 70 [] [vz x, vz y] (vz (ZI.of (x.val + y.val))) [] := by
 by_cases px : x.val < 0 <;> by_cases py : y.val < 0
 ·exact SRAdd_nn x y hx hy lx ly px py
 ·exact SRAdd_np x y hx hy lx ly px (by omega)
 ·exact SRAdd_pn x y hx hy lx ly (by omega) py
 ·exact SRAdd_pp x y hx hy lx ly (by omega) (by omega)
theorem sgn_mul_range {x y : Int} (hx : -1 ≤ x ∧ x ≤ 1) (hy : -1 ≤ y ∧ y ≤ 1) : -1 ≤ x * y ∧ x * y ≤ 1 := by
 have h1 : x = -1 ∨ x = 0 ∨ x = 1 := by omega
 rcases h1 with rfl | rfl | rfl <;> omega
theorem sgn_cases (x : ZI) : (sgn x.val = -1 ∧ x.val = -(Go.Proofs.YtmohlifepfjmdaaGreat.val x.abs : Int)) ∨ (sgn x.val = 0 ∧ (Go.Proofs.YtmohlifepfjmdaaGreat.val x.abs : Int) = 0 ∧ x.val = 0) ∨ (sgn x.val = 1 ∧ x.val = (Go.Proofs.YtmohlifepfjmdaaGreat.val x.abs : Int)) := by
 rcases Int.lt_trichotomy x.val 0 with h | h | h
 ·exact .inl ⟨sgn_neg h, val_neg h⟩
 ·have := val_pos (x := x) (by omega)
  exact .inr (.inl ⟨sgn_zero h, by omega, h⟩)
 ·exact .inr (.inr ⟨sgn_pos h, val_pos (by omega)⟩)
theorem mul_sgn (x y : ZI) {n : List Nat} (h : Go.Proofs.YtmohlifepfjmdaaGreat.val n = Go.Proofs.YtmohlifepfjmdaaGreat.val x.abs * Go.Proofs.YtmohlifepfjmdaaGreat.val y.abs) : iv (decide (sgn x.val * sgn y.val < 0)) n = x.val * y.val := by
 have hp : (Go.Proofs.YtmohlifepfjmdaaGreat.val n : Int) = (Go.Proofs.YtmohlifepfjmdaaGreat.val x.abs : Int) * (Go.Proofs.YtmohlifepfjmdaaGreat.val y.abs : Int) := by rw [h, Int.natCast_mul]
 rcases sgn_cases x with ⟨h1, h2⟩ | ⟨h1, h2, h3⟩ | ⟨h1, h2⟩ <;> rcases sgn_cases y with ⟨k1, k2⟩ | ⟨k1, k2, k3⟩ | ⟨k1, k2⟩ <;> rw [h1, k1]
 ·change (Go.Proofs.YtmohlifepfjmdaaGreat.val n : Int) = _; rw [h2, k2, Int.neg_mul_neg]; exact hp
 ·change (Go.Proofs.YtmohlifepfjmdaaGreat.val n : Int) = _; rw [k3, hp, k2]; omega
 ·change -(Go.Proofs.YtmohlifepfjmdaaGreat.val n : Int) = _; rw [h2, k2, Int.neg_mul, hp]
 ·change (Go.Proofs.YtmohlifepfjmdaaGreat.val n : Int) = _; rw [h3, hp, h2]; omega
 ·change (Go.Proofs.YtmohlifepfjmdaaGreat.val n : Int) = _; rw [h3, hp, h2]; omega
 ·change (Go.Proofs.YtmohlifepfjmdaaGreat.val n : Int) = _; rw [h3, hp, h2]; omega
 ·change -(Go.Proofs.YtmohlifepfjmdaaGreat.val n : Int) = _; rw [h2, k2, Int.mul_neg, hp]
 ·change (Go.Proofs.YtmohlifepfjmdaaGreat.val n : Int) = _; rw [k3, hp, k2]; omega
 ·change (Go.Proofs.YtmohlifepfjmdaaGreat.val n : Int) = _; rw [h2, k2]; exact hp
theorem sgn_mul_range' (x y : Int) : -1 ≤ sgn x * sgn y ∧ sgn x * sgn y ≤ 1 := sgn_mul_range (sgn_range x) (sgn_range y)
theorem SRMul (x y : ZI) (hx : Lb x.abs) (hy : Lb y.abs) (lx : x.abs.length ≤ 49000) (ly : y.abs.length ≤ 49000) : Fn Tryz.prog 71 [] [vz x, vz y] (vz (ZI.of (x.val * y.val))) [] := by
 refine Fn.body Tryz.func71 rfl 17 rfl fun w H B a h => ?_
 refine rSeq fam0ok 0 [] [(2, vp 0 0), (3, vp 1 0), (4, vp 2 0)] [(0, .box (zi x)), (1, .box (zi y)), (2, .box [.d (.raw (.bool false)), .d (nsl [])])] (by kernel_rfl) h ?_; clear h; intro a w h
 obtain ⟨n3, en3, vn3, on3, ln3⟩ := mkN (v := Go.Proofs.YtmohlifepfjmdaaGreat.val x.abs * Go.Proofs.YtmohlifepfjmdaaGreat.val y.abs) (m := x.abs.length + y.abs.length) (nmul_lt hx hy)
 obtain ⟨r4, er4, vr4, or4, lr4⟩ := mkZ (v := iv (decide ((sgn x.val * sgn y.val) < 0)) n3) (m := n3.length) (len_iv on3)
 refine rSeq fam0ok 3 [(1, .call (SRSign x hx (by omega)) ib_0), (3, .call (SRSign y hy (by omega)) ib_0), (4, .mul .i64 (m := (sgn x.val)) (n := (sgn y.val)) (i64_id (by have := sgn_mul_range' x.val y.val; omega) (by have := sgn_mul_range' x.val y.val; omega))), (10, .call (Fn.cast (SRnMul x.abs y.abs hx hy (by omega) (by omega)) (congrArg vn en3.symm)) ib_6), (11, .call (Fn.cast (SRFrom (decide ((sgn x.val * sgn y.val) < 0)) n3 on3 (by omega)) (congrArg vz er4.symm)) ia_4)] [(4, vp 2 0)] [(2, .box (zi r4))] (by kernel_rfl) h ?_; clear h; intro a w h
 refine wp_ret ?_
 refine retS [.agg (zi r4)] h Exit.ret (.inl rfl)  rfl ⟨RV.agg _ 2 0 _ _ _ _ ia_1 rfl rfl rfl rfl, trivial⟩ ?_ (by kernel_rfl) (by kernel_rfl)
 refine congrArg (fun z => vz z) (er4.trans (congrArg ZI.of ?_))
 exact mul_sgn x y vn3
theorem SRSame (x y : ZI) (hx : Lb x.abs) (hy : Lb y.abs) : Fn Tryz.prog 42 [] [vz x, vz y] (vb (x.neg == y.neg && decide (x.abs = y.abs))) [] := by
 refine Fn.body Tryz.func42 rfl 17 rfl fun w H B a h => ?_
 refine rSeq fam0ok 0 [] [(2, vp 0 0), (3, vp 1 0), (4, vb false)] [(0, .box (zi x)), (1, .box (zi y))] (by kernel_rfl) h ?_; clear h; intro a w h
 rcases Bool.eq_false_or_eq_true (x.neg == y.neg) with hc | hc
 ·have hc1 := hc; clear hc
  have hc1' := hc1; (try simp at hc1')
  refine rSeq fam0ok 2 [(4, .cmpb .eql (m := x.neg) (n := y.neg) (b := true) (.inl ⟨rfl, hc1.symm⟩)), (10, .call (SRnSame x.abs y.abs hx hy) ib_7)] [(4, vb (decide (x.abs = y.abs)))] [] (by kernel_rfl) h ?_; clear h; intro a w h
  refine wp_ret ?_
  refine retS [.c (.d (.raw (.bool (decide (x.abs = y.abs)))))] h Exit.ret (.inl rfl)  rfl ⟨RV.tmp _ _ rfl, trivial⟩ ?_ (by kernel_rfl) (by kernel_rfl)
  rw [hc1]; first | done | rfl
 ·have hc2 := hc; clear hc
  have hc2' := hc2; (try simp at hc2')
  refine rSeq fam0ok 2 [(4, .cmpb .eql (m := x.neg) (n := y.neg) (b := false) (.inl ⟨rfl, hc2.symm⟩))] [(4, vb false)] [] (by kernel_rfl) h ?_; clear h; intro a w h
  refine wp_ret ?_
  refine retS [.c (.d (.raw (.bool false)))] h Exit.ret (.inl rfl)  rfl ⟨RV.tmp _ _ rfl, trivial⟩ ?_ (by kernel_rfl) (by kernel_rfl)
  rw [hc2]; first | done | rfl
theorem val_one (a : Nat) : Go.Proofs.YtmohlifepfjmdaaGreat.val [a] = a := by simp [Go.Proofs.YtmohlifepfjmdaaGreat.val]
theorem val_two (a b : Nat) : Go.Proofs.YtmohlifepfjmdaaGreat.val [a, b] = a + 4294967296 * b := by simp [Go.Proofs.YtmohlifepfjmdaaGreat.val]
theorem SROf (E : Int) (hI : -9223372036854775808 ≤ E ∧ E ≤ 9223372036854775807) : Fn Tryz.prog 60 [] [vi .i64 E] (vz (ZI.of (E))) [] := by
 refine Fn.body Tryz.func60 rfl 29 rfl fun w H B a h => ?_
 refine rSeq fam0ok 0 [] [(0, vi .i64 E), (2, vp 0 0)] [(0, .box [.d (.raw (.bool false)), .d (nsl [])])] (by kernel_rfl) h ?_; clear h; intro a w h
 refine wp_seq ?_
 refine rSeq fam0ok 1 [] [(0, vi .i64 E), (2, vp 0 0), (6, vb (decide (E ≥ 0)))] [(0, .box [.d (.raw (.bool false)), .d (nsl [])])] (by kernel_rfl) h ?_; clear h; intro a w h
 refine condS (decide (E ≥ 0)) h rfl (fun hc => ?_) (fun hc => ?_)
 ·have hc1 := hc; clear hc
  have hc1' := of_decide_eq_true hc1
  obtain ⟨q0, hq0⟩ : ∃ z_ : Nat, E % 4294967296 = (z_ : Int) := ⟨(E % 4294967296).toNat, by omega⟩
  obtain ⟨q1, hq1⟩ : ∃ z_ : Nat, E / 4294967296 = (z_ : Int) := ⟨(E / 4294967296).toNat, by omega⟩
  obtain ⟨r1, er1, vr1, or1, lr1⟩ := mkZ (v := iv false [q0, q1]) (m := [q0, q1].length) (len_iv (show Lb [q0, q1] from by intro z hz; simp at hz; omega))
  refine rSeq fam0ok 1 [(1, .gen _ _ _ fun _ _ _ _ => Op.rem (d := 8) (xt := 2) (yt := 2) (k := .i64) (m := E) (n := 4294967296) (r := (q0 : Int)) (OV.tmp 7 _) (OV.const (.int .i64 4294967296) rfl) (by decide) ((Int.tmod_eq_emod_of_nonneg (by omega)).trans hq0)), (2, .conv .i64 .u32 (m := (q0 : Int)) (u32_id (by omega) (by omega))), (4, .gen _ _ _ fun _ _ _ _ => Op.quo (d := 11) (xt := 2) (yt := 2) (k := .i64) (m := E) (n := 4294967296) (r := (q1 : Int)) (OV.tmp 10 _) (OV.const (.int .i64 4294967296) rfl) (by decide) ((Int.tdiv_eq_ediv_of_nonneg (by omega)).trans hq1) (i64_id (by omega) (by omega))), (5, .conv .i64 .u32 (m := (q1 : Int)) (u32_id (by omega) (by omega))), (6, .gen _ _ _ fun _ _ _ _ => Op.buildD (d := 13) (len := 2) (rows := [[.raw (.int .u32 (q0 : Nat))], [.raw (.int .u32 (q1 : Nat))]]) (rs := [(9, vi .u32 (q0 : Int)), (12, vi .u32 (q1 : Int))]) ib_10 (.cons (i := 0) (OV.tmp 9 _) (.cons (i := 1) (OV.tmp 12 _) (.nil))) (by kernel_rfl) rfl (by simp) (by decide) (by decide)), (7, .call (Fn.cast (SRFrom false [q0, q1] (show Lb [q0, q1] from by intro z hz; simp at hz; omega) (by first | omega | simp)) (congrArg vz er1.symm)) ia_4)] [(0, vi .i64 E), (2, vp 0 0)] [(0, .box (zi r1))] (by kernel_rfl) h ?_; clear h; intro a w h
  refine wp_ret ?_
  refine then_r ?_
  refine retS [.agg (zi r1)] h Exit.ret (.inl rfl)  rfl ⟨RV.agg _ 0 0 _ _ _ _ ia_1 rfl rfl rfl rfl, trivial⟩ ?_ (by kernel_rfl) (by kernel_rfl)
  refine congrArg (fun z => vz z) (er1.trans (congrArg ZI.of ?_))
  (try simp only [iv_true])
  (try simp only [iv_false])
  (try rw [vn1])
  (try simp only [val_two] at *)
  (try simp only [val_one] at *)
  omega
 ·have hc2 := hc; clear hc
  have hc2' := of_decide_eq_false hc2
  refine wp_skip ?_
  refine then_n ?_
  refine rSeq fam0ok 1 [(1, .add .i64 (m := E) (n := 1) (i64_id (by omega) (by omega))), (2, .sub .i64 (m := 0) (n := (E + 1)) (i64_id (by omega) (by omega)))] [(2, vp 0 0), (3, vi .i64 (0 - (E + 1)))] [(0, .box [.d (.raw (.bool false)), .d (nsl [])])] (by kernel_rfl) h ?_; clear h; intro a w h
  obtain ⟨q2, hq2⟩ : ∃ z_ : Nat, (0 - (E + 1)) % 4294967296 = (z_ : Int) := ⟨((0 - (E + 1)) % 4294967296).toNat, by omega⟩
  obtain ⟨q3, hq3⟩ : ∃ z_ : Nat, (0 - (E + 1)) / 4294967296 = (z_ : Int) := ⟨((0 - (E + 1)) / 4294967296).toNat, by omega⟩
  refine rSeq fam0ok 1 [(1, .gen _ _ _ fun _ _ _ _ => Op.rem (d := 19) (xt := 2) (yt := 2) (k := .i64) (m := (0 - (E + 1))) (n := 4294967296) (r := (q2 : Int)) (OV.tmp 18 _) (OV.const (.int .i64 4294967296) rfl) (by decide) ((Int.tmod_eq_emod_of_nonneg (by omega)).trans hq2)), (2, .conv .i64 .u32 (m := (q2 : Int)) (u32_id (by omega) (by omega))), (4, .gen _ _ _ fun _ _ _ _ => Op.quo (d := 22) (xt := 2) (yt := 2) (k := .i64) (m := (0 - (E + 1))) (n := 4294967296) (r := (q3 : Int)) (OV.tmp 21 _) (OV.const (.int .i64 4294967296) rfl) (by decide) ((Int.tdiv_eq_ediv_of_nonneg (by omega)).trans hq3) (i64_id (by omega) (by omega))), (5, .conv .i64 .u32 (m := (q3 : Int)) (u32_id (by omega) (by omega))), (6, .gen _ _ _ fun _ _ _ _ => Op.buildD (d := 24) (len := 2) (rows := [[.raw (.int .u32 (q2 : Nat))], [.raw (.int .u32 (q3 : Nat))]]) (rs := [(20, vi .u32 (q2 : Int)), (23, vi .u32 (q3 : Int))]) ib_10 (.cons (i := 0) (OV.tmp 20 _) (.cons (i := 1) (OV.tmp 23 _) (.nil))) (by kernel_rfl) rfl (by simp) (by decide) (by decide))] [(2, vp 0 0), (4, vn [q2, q3])] [(0, .box [.d (.raw (.bool false)), .d (nsl [])])] (by kernel_rfl) h ?_; clear h; intro a w h
  obtain ⟨n2, en2, vn2, on2, ln2⟩ := mkN (v := Go.Proofs.YtmohlifepfjmdaaGreat.val [q2, q3] + Go.Proofs.YtmohlifepfjmdaaGreat.val [1]) (m := 4) (nadd_lt (xs := [q2, q3]) (ys := [1]) (show Lb [q2, q3] from by intro z hz; simp at hz; omega) (show Lb [1] from by intro z hz; simp at hz; omega))
  obtain ⟨r3, er3, vr3, or3, lr3⟩ := mkZ (v := iv true n2) (m := n2.length) (len_iv on2)
  refine rSeq fam0ok 1 [(1, .gen _ _ _ fun _ _ _ _ => Op.buildD (d := 26) (len := 1) (rows := [[.raw (.int .u32 (1 : Nat))]]) (rs := []) ib_10 (.cons (i := 0) (OV.const (.int .u32 1) rfl) (.nil)) (by kernel_rfl) rfl (by simp) (by decide) (by decide)), (2, .call (Fn.cast (SRnAdd [q2, q3] [1] (show Lb [q2, q3] from by intro z hz; simp at hz; omega) (show Lb [1] from by intro z hz; simp at hz; omega) (by simp) (by simp)) (congrArg vn en2.symm)) ib_1), (3, .call (Fn.cast (SRFrom true n2 on2 (by first | omega | simp)) (congrArg vz er3.symm)) ia_4)] [(2, vp 0 0)] [(0, .box (zi r3))] (by kernel_rfl) h ?_; clear h; intro a w h
  refine wp_ret ?_
  refine retS [.agg (zi r3)] h Exit.ret (.inl rfl)  rfl ⟨RV.agg _ 0 0 _ _ _ _ ia_1 rfl rfl rfl rfl, trivial⟩ ?_ (by kernel_rfl) (by kernel_rfl)
  refine congrArg (fun z => vz z) (er3.trans (congrArg ZI.of ?_))
  (try simp only [iv_true])
  (try simp only [iv_false])
  (try rw [vn2])
  (try simp only [val_two] at *)
  (try simp only [val_one] at *)
  omega
end Go.Proofs.YtmohlifepfjmdaaGreat.S
end
section
namespace Go.Proofs.YtmohlifepfjmdaaGreat.S
open Go.RowKit

theorem ta_0 : SlT Tryz.prog 24 110 3 := SlT.mk' Tryz.underlying24 (by kernel_rfl)
def coefZ : List Part → Int → Int
  | [], _ => 0
  | p :: ps, v => (if p.v = v ∧ 0 ≤ v then p.c.val else 0) + coefZ ps v
theorem coefZ_app (ps qs : List Part) (v : Int) : coefZ (ps ++ qs) v = coefZ ps v + coefZ qs v := by
 induction ps with
 | nil => simp [coefZ]
 | cons p ps ih => simp only [List.cons_append, coefZ, ih]; omega
theorem coefZ_take {ps : List Part} {j : Nat} {p : Part} (h : ps[j]? = some p) (v : Int) : coefZ (ps.take (j + 1)) v = coefZ (ps.take j) v + (if p.v = v ∧ 0 ≤ v then p.c.val else 0) := by
 have : ps.take (j + 1) = ps.take j ++ [p] := by rw [List.take_add_one, h]; rfl
 rw [this, coefZ_app]; simp [coefZ]
def PsOk (L : Nat) (ps : List Part) : Prop := ps.length ≤ 1000 ∧ ∀ p ∈ ps, Lb p.c.abs ∧ p.c.abs.length ≤ L
theorem PsOk.take {L : Nat} {ps : List Part} (h : PsOk L ps) (j : Nat) : PsOk L (ps.take j) := ⟨by rw [List.length_take]; have := h.1; omega, fun p hp => h.2 p (List.mem_of_mem_take hp)⟩
theorem PsOk.get {L : Nat} {ps : List Part} (h : PsOk L ps) {j : Nat} {p : Part} (hp : ps[j]? = some p) : Lb p.c.abs ∧ p.c.abs.length ≤ L := h.2 p (List.mem_of_getElem? hp)
theorem coefZ_lt {L : Nat} : ∀ {ps : List Part}, (∀ p ∈ ps, Lb p.c.abs ∧ p.c.abs.length ≤ L) → ∀ v, (coefZ ps v).natAbs ≤ ps.length * pw L
 | [], _, v => by simp [coefZ]
 | p :: ps, h, v => by
  have ih := coefZ_lt (fun q hq => h q (by simp [hq])) v (ps := ps)
  obtain ⟨h1, h2⟩ := h p (by simp)
  have h3 := ZI.abs_lt h1
  have h4 := pw_le h2
  simp only [coefZ, List.length_cons, Nat.add_mul]
  split <;> omega
theorem coef_len {L : Nat} {ps : List Part} (h : PsOk L ps) (v : Int) : (ZI.of (coefZ ps v)).abs.length ≤ L + 1 := by
 refine ZI.len_of ?_
 have h1 := coefZ_lt h.2 v
 have h2 : ps.length * pw L ≤ 1000 * pw L := Nat.mul_le_mul_right _ h.1
 have h3 := pw_pos L
 rw [pw_succ]
 omega
theorem SCoef (t : Term) (v : Int) (ht : PsOk 40000 t.parts) : Fn Tryz.prog 72 [] [.t (.agg ([.d (.sl 3 (t.parts.map Part.d))] ++ zi t.k)), vi .i64 v] (vz (ZI.of (coefZ t.parts v))) [] := by
 refine Fn.body Tryz.func72 rfl 36 rfl fun w H B a h => ?_
 refine rSeq fam0ok 0 [] [(1, vi .i64 v), (2, vp 0 0), (4, vp 1 0)] [(0, .box ([.d (.sl 3 (t.parts.map Part.d))] ++ zi t.k)), (1, .box [.d (.raw (.bool false)), .d (nsl [])])] (by kernel_rfl) h ?_; clear h; intro a w h
 refine rSeq fam0ok 2 [] [(1, vi .i64 v), (2, vp 0 0), (4, vp 1 0), (5, vp 2 0)] [(0, .box ([.d (.sl 3 (t.parts.map Part.d))] ++ zi t.k)), (1, .box [.d (.raw (.bool false)), .d (nsl [])]), (2, .box [.d (.raw (.bool false)), .d (nsl [])])] (by kernel_rfl) h ?_; clear h; intro a w h
 refine wp_seq ?_
 refine rSeq fam0ok 3 [] [(1, vi .i64 v), (2, vp 0 0), (4, vp 1 0), (5, vp 2 0), (6, vi .i64 0)] [(0, .box ([.d (.sl 3 (t.parts.map Part.d))] ++ zi t.k)), (1, .box [.d (.raw (.bool false)), .d (nsl [])]), (2, .box [.d (.raw (.bool false)), .d (nsl [])])] (by kernel_rfl) h ?_; clear h; intro a w h
 refine wp_block ?_
 refine loopS (ι := (Nat) × (ZI)) (fun (z_ : (Nat) × (ZI)) => match z_ with | (j, out) => out = ZI.of (coefZ (t.parts.take j) v) ∧ j ≤ t.parts.length)
   (fun (z_ : (Nat) × (ZI)) => match z_ with | (j, out) => [(1, vi .i64 v), (2, vp 0 0), (4, vp 1 0), (5, vp 2 0), (6, vi .i64 (j : Int))])
   (fun (z_ : (Nat) × (ZI)) => match z_ with | (j, out) => [(0, .box ([.d (.sl 3 (t.parts.map Part.d))] ++ zi t.k)), (1, .box [.d (.raw (.bool false)), .d (nsl [])]), (2, .box (zi out))])
   (fun (z_ : (Nat) × (ZI)) => match z_ with | (j, out) => t.parts.length - j) (0, (ZI.of 0)) ?_ h (by kernel_rfl) (by kernel_rfl) ?_
 ·exact ⟨by simp [coefZ], Nat.zero_le _⟩
 ·clear h; rintro ⟨j, out⟩ a w hI h
  change St _ (F.of [(1, vi .i64 v), (2, vp 0 0), (4, vp 1 0), (5, vp 2 0), (6, vi .i64 (j : Int))] [(0, .box ([.d (.sl 3 (t.parts.map Part.d))] ++ zi t.k)), (1, .box [.d (.raw (.bool false)), .d (nsl [])]), (2, .box (zi out))]) a w at h
  obtain ⟨hI1, hI2⟩ := hI
  have ln := ht.1
  have lo : out.abs.length ≤ 40001 := by rw [hI1]; exact coef_len (ht.take j) v
  have ho : Lb out.abs := by rw [hI1]; exact ZI.lb_of _
  have vo : out.val = coefZ (t.parts.take j) v := by rw [hI1]; exact ZI.val_of _
  refine wp_seq ?_
  refine rSeq fam0ok 3 [(3, .len (c := (.d (.sl 3 (t.parts.map Part.d)))) (n := t.parts.length) (lenC_map _ _ _))] [(1, vi .i64 v), (2, vp 0 0), (4, vp 1 0), (5, vp 2 0), (6, vi .i64 (j : Int)), (12, vb (decide ((j : Int) < (t.parts.length : Int))))] [(0, .box ([.d (.sl 3 (t.parts.map Part.d))] ++ zi t.k)), (1, .box [.d (.raw (.bool false)), .d (nsl [])]), (2, .box (zi out))] (by kernel_rfl) h ?_; clear h; intro a w h
  refine condS (decide ((j : Int) < (t.parts.length : Int))) h rfl (fun hc => ?_) (fun hc => ?_)
  ·have hc1 := hc; clear hc
   have hc1' := of_decide_eq_true hc1
   refine wp_skip ?_
   refine then_n ?_
   refine wp_seq ?_
   refine wp_block ?_
   obtain ⟨x1, hx1⟩ : ∃ z_ : Part, t.parts[j]? = some z_ := ⟨_, List.getElem?_eq_getElem (by first | omega | (simp at *; omega))⟩
   obtain ⟨ox1, lx1⟩ := ht.get hx1
   rcases Bool.eq_false_or_eq_true (x1.v == v) with hc | hc
   ·have hc2 := hc; clear hc
    have hc2' := hc2; (try simp at hc2')
    refine rSeq fam0ok 3 [(3, .gen _ _ _ fun _ _ _ _ => Op.idxD (d := 18) (t := 16) (k := .i64) ta_0 (map_at hx1 (f := Part.d)) (OV.tmp 17 _)), (7, .cmp (op := .eql) (m := x1.v) (n := v) (b := true) .i64 hc2)] [(1, vi .i64 v), (2, vp 0 0), (4, vp 1 0), (5, vp 2 0), (6, vi .i64 (j : Int)), (26, vb (decide (v ≥ 0)))] [(0, .box ([.d (.sl 3 (t.parts.map Part.d))] ++ zi t.k)), (1, .box [.d (.raw (.bool false)), .d (nsl [])]), (2, .box (zi out))] (by kernel_rfl) h ?_; clear h; intro a w h
    refine condS (decide (v ≥ 0)) h rfl (fun hc => ?_) (fun hc => ?_)
    ·have hc3 := hc; clear hc
     have hc3' := of_decide_eq_true hc3
     obtain ⟨r2, er2, vr2, or2, lr2⟩ := mkZ (v := out.val + x1.c.val) (m := out.abs.length + x1.c.abs.length + 1) (len_add ho ox1)
     refine rS fam0ok 3 [(4, .gen _ _ _ fun _ _ _ _ => Op.idxD (d := 31) (t := 29) (k := .i64) ta_0 (map_at hx1 (f := Part.d)) (OV.tmp 30 _)), (7, .call (Fn.cast (SRAdd out x1.c ho ox1 (by omega) (by omega)) (congrArg vz er2.symm)) ib_5)] [(1, vi .i64 v), (2, vp 0 0), (4, vp 1 0), (5, vp 2 0), (6, vi .i64 (j : Int))] [(0, .box ([.d (.sl 3 (t.parts.map Part.d))] ++ zi t.k)), (1, .box [.d (.raw (.bool false)), .d (nsl [])]), (2, .box (zi r2))] (by kernel_rfl) h ?_; clear h; intro a w h
     refine block_n ?_
     refine then_n ?_
     refine rS fam0ok 3 [(1, .add .i64 (m := (j : Int)) (n := 1) (i64_id (by omega) (by omega)))] [(1, vi .i64 v), (2, vp 0 0), (4, vp 1 0), (5, vp 2 0), (6, vi .i64 ((j : Int) + 1))] [(0, .box ([.d (.sl 3 (t.parts.map Part.d))] ++ zi t.k)), (1, .box [.d (.raw (.bool false)), .d (nsl [])]), (2, .box (zi r2))] (by kernel_rfl) h ?_; clear h; intro a w h
     refine then_n ?_
     refine roundS (x := (j, out)) (y := (j + 1, r2)) h ?_ ?_ (by kernel_rfl) (by kernel_rfl)
     ·have hc : x1.v = v ∧ 0 ≤ v := ⟨by simpa using hc2, by have := hc3'; omega⟩
      exact ⟨by rw [er2, vo, coefZ_take hx1, if_pos hc], by have := (List.getElem?_eq_some_iff.1 hx1).1; omega⟩
     ·simp; omega
    ·have hc4 := hc; clear hc
     have hc4' := of_decide_eq_false hc4
     refine wp_skip ?_
     refine block_n ?_
     refine then_n ?_
     refine rS fam0ok 3 [(1, .add .i64 (m := (j : Int)) (n := 1) (i64_id (by omega) (by omega)))] [(1, vi .i64 v), (2, vp 0 0), (4, vp 1 0), (5, vp 2 0), (6, vi .i64 ((j : Int) + 1))] [(0, .box ([.d (.sl 3 (t.parts.map Part.d))] ++ zi t.k)), (1, .box [.d (.raw (.bool false)), .d (nsl [])]), (2, .box (zi out))] (by kernel_rfl) h ?_; clear h; intro a w h
     refine then_n ?_
     refine roundS (x := (j, out)) (y := (j + 1, out)) h ?_ ?_ (by kernel_rfl) (by kernel_rfl)
     ·exact ⟨by rw [hI1, coefZ_take hx1, if_neg (fun hc => absurd hc.2 (by have := hc4'; omega)), Int.add_zero], by have := (List.getElem?_eq_some_iff.1 hx1).1; omega⟩
     ·simp; omega
   ·have hc5 := hc; clear hc
    have hc5' := hc5; (try simp at hc5')
    refine rSeq fam0ok 3 [(3, .gen _ _ _ fun _ _ _ _ => Op.idxD (d := 18) (t := 16) (k := .i64) ta_0 (map_at hx1 (f := Part.d)) (OV.tmp 17 _)), (7, .cmp (op := .eql) (m := x1.v) (n := v) (b := false) .i64 hc5)] [(1, vi .i64 v), (2, vp 0 0), (4, vp 1 0), (5, vp 2 0), (6, vi .i64 (j : Int)), (26, vb false)] [(0, .box ([.d (.sl 3 (t.parts.map Part.d))] ++ zi t.k)), (1, .box [.d (.raw (.bool false)), .d (nsl [])]), (2, .box (zi out))] (by kernel_rfl) h ?_; clear h; intro a w h
    refine condS false h rfl (fun hc => ?_) (fun hc => ?_)
    ·cases hc
    ·clear hc
     refine wp_skip ?_
     refine block_n ?_
     refine then_n ?_
     refine rS fam0ok 3 [(1, .add .i64 (m := (j : Int)) (n := 1) (i64_id (by omega) (by omega)))] [(1, vi .i64 v), (2, vp 0 0), (4, vp 1 0), (5, vp 2 0), (6, vi .i64 ((j : Int) + 1))] [(0, .box ([.d (.sl 3 (t.parts.map Part.d))] ++ zi t.k)), (1, .box [.d (.raw (.bool false)), .d (nsl [])]), (2, .box (zi out))] (by kernel_rfl) h ?_; clear h; intro a w h
     refine then_n ?_
     refine roundS (x := (j, out)) (y := (j + 1, out)) h ?_ ?_ (by kernel_rfl) (by kernel_rfl)
     ·exact ⟨by rw [hI1, coefZ_take hx1, if_neg (fun hc => absurd hc.1 (by simpa using hc5)), Int.add_zero], by have := (List.getElem?_eq_some_iff.1 hx1).1; omega⟩
     ·simp; omega
  ·have hc6 := hc; clear hc
   have hc6' := of_decide_eq_false hc6
   refine wp_exit ?_
   refine then_x ?_
   refine then_x ?_
   refine inBlock_exit ?_
   refine then_n ?_
   refine rSeq fam0ok 3 [] [(4, vp 1 0)] [(1, .box (zi out))] (by kernel_rfl) h ?_; clear h; intro a w h
   refine wp_ret ?_
   refine retS [.agg (zi out)] h Exit.ret (.inl rfl)  rfl ⟨RV.agg _ 1 0 _ _ _ _ ia_1 rfl rfl rfl rfl, trivial⟩ ?_ (by kernel_rfl) (by kernel_rfl)
   have hj : j = t.parts.length := by have := hc6'; omega
   subst hj
   rw [hI1, List.take_length]; first | done | rfl
end Go.Proofs.YtmohlifepfjmdaaGreat.S
end
section
namespace Go.Proofs.YtmohlifepfjmdaaGreat.S
open Go.RowKit

theorem tb_0 : ElZ Tryz.prog 40 3 1 := ElZ.mk' Tryz.underlying40 _ _ rfl rfl (by kernel_rfl) (by kernel_rfl) (by kernel_rfl) (by decide)
theorem tb_1 : SlT Tryz.prog 40 3 1 := SlT.mk' Tryz.underlying40 (by kernel_rfl)
theorem tb_2 : ElT Tryz.prog 40 3 1 8 := ElT.mk' Tryz.underlying40 _ _ rfl rfl (by kernel_rfl) (by kernel_rfl) (by kernel_rfl) (by decide) (by decide)
theorem tb_4 : Bodied Tryz.prog 72 := Bodied.mk' (by kernel_rfl)
theorem tb_7 : Bodied Tryz.prog 38 := Bodied.mk' (by kernel_rfl)
theorem tb_9 : ElZ Tryz.prog 24 110 3 := ElZ.mk' Tryz.underlying24 _ _ rfl rfl (by kernel_rfl) (by kernel_rfl) (by kernel_rfl) (by decide)
theorem at_lt {α : Type} {xs : List α} {j : Nat} {x : α} (h : xs[j]? = some x) : j < xs.length := (List.getElem?_eq_some_iff.1 h).1
def insStep (v : Int) (s : List Int × Bool) (x : Int) : List Int × Bool :=
  let s1 := if s.2 = false ∧ v ≤ x then (s.1 ++ [v], true) else s
  if x ≠ v then (s1.1 ++ [x], s1.2) else s1
def insZ (list : List Int) (v : Int) : List Int :=
  let r := list.foldl (insStep v) ([], false)
  if r.2 then r.1 else r.1 ++ [v]
def varStep (ps : List Part) (out : List Int) (p : Part) : List Int := if coefZ ps p.v ≠ 0 then insZ out p.v else out
def varsZ (ps : List Part) : List Int := ps.foldl (varStep ps) []
def plainT (t : Term) : Term := ⟨(varsZ t.parts).map fun v => ⟨v, ZI.of (coefZ t.parts v)⟩, ZI.of t.k.val⟩
end Go.Proofs.YtmohlifepfjmdaaGreat.S
end
section
namespace Go.Proofs.YtmohlifepfjmdaaGreat.S
open Go.RowKit

theorem tc_0 : Bodied Tryz.prog 60 := Bodied.mk' (by kernel_rfl)
/-- terms of at most n parts, of at most L limbs -/
structure TOk (n L : Nat) (t : Term) : Prop where
  len : t.parts.length ≤ n
  ps : ∀ p ∈ t.parts, Lb p.c.abs ∧ p.c.abs.length ≤ L
  kb : Lb t.k.abs
  kl : t.k.abs.length ≤ L
theorem TOk.mono {n L n' L' : Nat} {t : Term} (h : TOk n L t) (hn : n ≤ n') (hL : L ≤ L') : TOk n' L' t :=
 ⟨Nat.le_trans h.len hn, fun p hp => ⟨(h.ps p hp).1, Nat.le_trans (h.ps p hp).2 hL⟩, h.kb, Nat.le_trans h.kl hL⟩
theorem TOk.psok {L : Nat} {t : Term} (h : TOk 1000 L t) : PsOk L t.parts := ⟨h.len, h.ps⟩
theorem TOk.get {n L : Nat} {t : Term} (h : TOk n L t) {j : Nat} {p : Part} (hp : t.parts[j]? = some p) : Lb p.c.abs ∧ p.c.abs.length ≤ L := h.ps p (List.mem_of_getElem? hp)
def oneT (v : Int) : Term := ⟨[⟨v, ZI.of 1⟩], ⟨false, []⟩⟩
def varT (v : Int) : Term := plainT (oneT v)
end Go.Proofs.YtmohlifepfjmdaaGreat.S
end
section
namespace Go.Proofs.YtmohlifepfjmdaaGreat.S
open Go.RowKit

theorem td_0 : Bodied Tryz.prog 42 := Bodied.mk' (by kernel_rfl)
theorem td_6 : Bodied Tryz.prog 82 := Bodied.mk' (by kernel_rfl)
theorem Scopied (x : ZI) (hx : Lb x.abs) (lx : x.abs.length ≤ 100000) : Fn Tryz.prog 90 [] [vz x] (vz (ZI.of x.val)) [] := by
 refine Fn.body Tryz.func90 rfl 8 rfl fun w H B a h => ?_
 refine rSeq fam0ok 0 [] [(1, vp 0 0), (2, vp 1 0)] [(0, .box (zi x)), (1, .box [.d (.raw (.bool false)), .d (nsl [])])] (by kernel_rfl) h ?_; clear h; intro a w h
 obtain ⟨r1, er1, vr1, or1, lr1⟩ := mkZ (v := iv x.neg x.abs) (m := x.abs.length) (len_iv hx)
 refine rSeq fam0ok 2 [(4, .call (Fn.cast (SFrom x.neg x.abs hx (by omega)) (congrArg vz er1.symm)) ia_3)] [(2, vp 1 0)] [(1, .box (zi r1))] (by kernel_rfl) h ?_; clear h; intro a w h
 refine wp_ret ?_
 refine retS [.agg (zi r1)] h Exit.ret (.inl rfl)  rfl ⟨RV.agg _ 1 0 _ _ _ _ ia_1 rfl rfl rfl rfl, trivial⟩ ?_ (by kernel_rfl) (by kernel_rfl)
 rw [er1]; first | done | rfl
end Go.Proofs.YtmohlifepfjmdaaGreat.S
end
section
namespace Go.Proofs.YtmohlifepfjmdaaGreat.S

section
variable {α : Type} (v : α → Int)
def Ris : List α → Prop
  | [] => True
  | x :: xs => (∀ y ∈ xs, v x ≤ v y) ∧ Ris xs
variable {v}
end
end Go.Proofs.YtmohlifepfjmdaaGreat.S
end
section
namespace Go.Proofs.YtmohlifepfjmdaaGreat.S
open Go.RowKit

theorem set_map {α : Type} {xs : List α} {F : α → List D} (i : Nat) (x0 : List D) (x1 : α) {fo : Nat} {ds : List D} (h : putL x0 fo ds = F x1) : (xs.map F).set i (putL x0 fo ds) = (xs.set i x1).map F := by rw [h, List.map_set]
end Go.Proofs.YtmohlifepfjmdaaGreat.S
end
section
namespace Go.Proofs.YtmohlifepfjmdaaGreat.S
open Go.RowKit

end Go.Proofs.YtmohlifepfjmdaaGreat.S
end
section
namespace Go.Proofs.YtmohlifepfjmdaaGreat.S
open Go.RowKit

structure RotI (X Y D1 X1 Y1 D2 : List Part) : Prop where
  eq : D1 ++ Y1 ++ X1 ++ D2 = Y ++ X
  l1 : D1.length + X1.length = X.length
  l2 : Y1.length + D2.length = Y.length
  p1 : 0 < X1.length
  p2 : 0 < Y1.length
end Go.Proofs.YtmohlifepfjmdaaGreat.S
end
section
namespace Go.Proofs.YtmohlifepfjmdaaGreat.S
open Go.RowKit

end Go.Proofs.YtmohlifepfjmdaaGreat.S
end
section
namespace Go.Proofs.YtmohlifepfjmdaaGreat.S

end Go.Proofs.YtmohlifepfjmdaaGreat.S
end
section
namespace Go.Proofs.YtmohlifepfjmdaaGreat.S
open Go.RowKit

/-- a bound of a part: told, or left out -/
inductive BO : Option Operand → Nat → Nat → List (Nat × V) → Prop
  | no (n : Nat) : BO none n n []
  | yes {y : Operand} {k : IntKind} {i : Nat} {rs : List (Nat × V)} (n : Nat) (h : OV y (vi k i) rs) : BO (some y) n i rs
section
variable {P : Program}
theorem BO.low {x : Option Operand} {l h : Nat} {rs : List (Nat × V)} (hx : BO x 0 l rs) {e : E} {f : F} {H : Im} {B : Bl} {a : Act} {w : World} (hok : Ok e f H B a w) (hr : ∀ p ∈ rs, f.s p.1 = some p.2) (hl : l ≤ h) (c : BoundsCode) :
  (match x.map a.eval with | some v => Instr.sliceBound v h c | none => pure 0).run P w = .ok l w := by
 cases hx with
 | no => simp
 | yes _ hv =>
  have h2 := (hv.eval hok hr).rawI
  simp only [Option.map_some]
  rw [h2, run_sliceBound (P := P) w _ _ h c (by omega) (by omega)]
  simp
theorem BO.high {x : Option Operand} {n l h : Nat} {rs : List (Nat × V)} (hx : BO x n l rs) {e : E} {f : F} {H : Im} {B : Bl} {a : Act} {w : World} (hok : Ok e f H B a w) (hr : ∀ p ∈ rs, f.s p.1 = some p.2) (hl : l ≤ h) (c : BoundsCode) :
  (match x.map a.eval with | some v => Instr.sliceBound v h c | none => pure n).run P w = .ok l w := by
 cases hx with
 | no => simp
 | yes _ hv =>
  have h2 := (hv.eval hok hr).rawI
  simp only [Option.map_some]
  rw [h2, run_sliceBound (P := P) w _ _ h c (by omega) (by omega)]
  simp
theorem run_bounds {lo hi : Option Operand} {len cap l h : Nat} {rs rs' : List (Nat × V)} {is : Bool} (hl : BO lo 0 l rs) (hh : BO hi len h rs') {e : E} {f : F} {H : Im} {B : Bl} {a : Act} {w : World} (hok : Ok e f H B a w) (hr : ∀ p ∈ rs, f.s p.1 = some p.2) (hr' : ∀ p ∈ rs', f.s p.1 = some p.2)
  (h1 : l ≤ h) (h2 : h ≤ cap) : (Instr.sliceBounds is len cap (lo.map a.eval) (hi.map a.eval) none).run P w = .ok (l, h, cap) w := by
 have g1 := hl.low (P := P) hok hr h1 .sliceB
 have g2 := hh.high (P := P) hok hr' h2 (if is then .sliceAcap else .sliceAlen)
 cases lo with
 | none =>
  cases hi with
  | none => cases hl; cases hh; simp [Instr.sliceBounds]
  | some y => simp only [Option.map_some, Option.map_none] at g1 g2 ⊢; cases hl; simp [Instr.sliceBounds, g2]
 | some x =>
  cases hi with
  | none => simp only [Option.map_some, Option.map_none] at g1 g2 ⊢; cases hh; simp [Instr.sliceBounds, g1]
  | some y => simp only [Option.map_some] at g1 g2 ⊢; simp [Instr.sliceBounds, g1, g2]
theorem run_sliceS {t el : TypeId} {es : Nat} (hs : SlT P t el es) {ao : Option Addr} {len cap l h : Nat} {lo hi : Option Value} {w : World} (hb : (Instr.sliceBounds true len cap lo hi none).run P w = .ok (l, h, cap) w) :
  (Instr.sliceAt t (.slice ao len cap) lo hi none).run P w = .ok (.slice (if cap = l then ao else ao.map (·.add (l * es))) (h - l) (cap - l)) w := by
 simp only [Instr.sliceAt, Instr.slice, Sem.run_bind, run_underlying hs.hu, Result.andThen_ok, hb, size_run hs.hs, Sem.run_pure]
theorem Op.sliceD {d t es l h : Nat} {lo hi : Option Operand} {rows rows' : List (List D)} {rs rs' : List (Nat × V)} {xt el ty : TypeId} {pos af gd} (hs : SlT P xt el es) (hl : BO lo 0 l rs) (hh : BO hi rows.length h rs') (h1 : l ≤ h) (h2 : h ≤ rows.length) (he : (rows.drop l).take (h - l) = rows') :
  OpOk P ⟨some d, .slice xt (.tmp t) lo hi none, ty, pos, af, gd⟩ { rs := (t, .t (.c (.d (.sl es rows)))) :: (rs ++ rs'), ws := [(d, some (.t (.c (.d (.sl es rows')))))] } :=
 OpOk.value d _ rfl rfl rfl fun e f H B a w hok hr2 => by
  have g1 := hok.slot t _ (hr2.1 (t, .t (.c (.d (.sl es rows)))) (by simp))
  have g3 : DR H (.sl es rows) (a.eval (.tmp t)) := g1
  have bounds : ∀ cap, rows.length ≤ cap → (Instr.sliceBounds true rows.length cap (lo.map a.eval) (hi.map a.eval) none).run P w = .ok (l, h, cap) w := fun cap hc =>
   run_bounds hl hh hok (fun p hp => hr2.1 p (by simp [hp])) (fun p hp => hr2.1 p (by simp [hp])) h1 (by omega)
  generalize hv0 : a.eval (.tmp t) = v at g3
  subst he
  cases g3 with
  | nil _ ao c k1 k2 =>
   obtain rfl : h = 0 := by simpa using h2
   obtain rfl : l = 0 := by omega
   have hrun := run_sliceS (ao := ao) hs (bounds c (Nat.zero_le _))
   refine ⟨.slice (if c = 0 then ao else ao.map (·.add (0 * es))) (0 - 0) (c - 0), ?_, ?_⟩
   ·generalize a.eval = ρ at hv0 hrun ⊢
    have hrun' : (Instr.sliceAt xt (ρ (.tmp t)) (lo.map ρ) (hi.map ρ) ((none : Option Operand).map ρ)).run P w = .ok (.slice (if c = 0 then ao else ao.map (·.add (0 * es))) (0 - 0) (c - 0)) w := by rw [hv0]; exact hrun
    simp only [execOp, Sem.run_bind, hrun', Result.andThen_ok, Sem.run_pure]
   ·show DR H _ _
    simp only [List.drop_nil, List.take_nil, Nat.sub_zero]
    refine DR.nil es _ c (fun hn => ?_) k2
    split at hn
    ·exact k1 hn
    ·cases ao with
     | none => exact k1 rfl
     | some _ => cases hn
  | sl _ _ b o c arr ty' fz vs hp hb hlc hc hes hv hx =>
   have hrun := run_sliceS (ao := some ⟨b, o, none⟩) hs (bounds c hlc)
   refine ⟨.slice (if c = l then some ⟨b, o, none⟩ else (some (⟨b, o, none⟩ : Addr)).map (·.add (l * es))) (h - l) (c - l), ?_, ?_⟩
   ·generalize a.eval = ρ at hv0 hrun ⊢
    have hrun' : (Instr.sliceAt xt (ρ (.tmp t)) (lo.map ρ) (hi.map ρ) ((none : Option Operand).map ρ)).run P w = .ok (.slice (if c = l then some ⟨b, o, none⟩ else (some (⟨b, o, none⟩ : Addr)).map (·.add (l * es))) (h - l) (c - l)) w := by rw [hv0]; exact hrun
    simp only [execOp, Sem.run_bind, hrun', Result.andThen_ok, Sem.run_pure]
   ·show DR H _ _
    by_cases h0 : h - l = 0
    ·rw [h0, List.take_zero]
     refine DR.nil es _ _ (fun hn => ?_) (by omega)
     split at hn <;> cases hn
    ·have hlen : ((rows.drop l).take (h - l)).length = h - l := by rw [List.length_take, List.length_drop]; omega
     rw [if_neg (by omega)]
     simp only [Option.map_some, Addr.add_mid]
     have := DR.sl (H := H) es ((rows.drop l).take (h - l)) b (o + l * es) (c - l) arr ty' fz (fun i j => vs (l + i) j) (by omega) hb (by omega) (by omega) (fun i hi2 => by
       rw [List.getElem_take, List.getElem_drop]; exact hes _ _)
      (fun i hi2 j hj => by
       have := hv (l + i) (by omega) j hj
       rw [Nat.add_mul] at this
       rw [← this]; congr 1; omega)
      (fun i hi2 j hj => by
       have e1 : ((rows.drop l).take (h - l))[i] = rows[l + i]'(by omega) := by rw [List.getElem_take, List.getElem_drop]
       have hj' : j < (rows[l + i]'(by omega)).length := by rw [← e1]; exact hj
       have e2 : ((rows.drop l).take (h - l))[i][j] = (rows[l + i]'(by omega))[j] := by simp only [e1]
       rw [e2]; exact hx (l + i) (by omega) j hj')
     rwa [hlen] at this
theorem Ok.ownCap {e : E} {f : F} {H : Im} {B : Bl} {a : Act} {w : World} (h : Ok e f H B a w) {n : Nat} {ty : TypeId} {es : Nat} {rows : List (List D)} (hl : f.l n = some (.row ty es rows)) {len k : Nat} (hk : k ≤ rows.length) {v : Value} (hv : CR H B (.own n len) v) :
  ∃ ao c, v = .slice ao len c ∧ k ≤ c ∧ ((B n = none ∧ len = 0 ∧ c = 0) ∨ ∃ b, B n = some (b, c) ∧ ao = some ⟨b, 0, none⟩) := by
 simp only [CR] at hv
 cases hB : B n with
 | none =>
  rw [hB] at hv
  obtain ⟨rfl, ao, rfl⟩ := hv
  have h1 := h.loc n _ hl
  simp only [LR, hB] at h1
  rw [h1] at hk
  exact ⟨ao, 0, rfl, hk, .inl ⟨rfl, rfl, rfl⟩⟩
 | some q =>
  obtain ⟨b, c⟩ := q
  rw [hB] at hv
  obtain ⟨arr, g1, g2, g3, g4, g5, g6⟩ := h.row hl hB
  exact ⟨_, c, hv, by omega, .inr ⟨b, rfl, rfl⟩⟩
theorem Op.sliceHi {d t n len h es : Nat} {y : Operand} {k : IntKind} {rows : List (List D)} {rs : List (Nat × V)} {rty xt el ty : TypeId} {pos af gd} (hs : SlT P xt el es) (hlen : h ≤ rows.length) (hy : OV y (vi k h) rs) :
  OpOk P ⟨some d, .slice xt (.tmp t) none (some y) none, ty, pos, af, gd⟩ { rs := (t, .t (.c (.own n len))) :: rs, rl := [(n, .row rty es rows)], ws := [(d, some (.t (.c (.own n h))))] } :=
 OpOk.value d _ rfl rfl rfl fun e f H B a w hok hr2 => by
  have g1 := hok.slot t _ (hr2.1 (t, .t (.c (.own n len))) (by simp))
  obtain ⟨ao, c, hv, hc, hB⟩ := hok.ownCap (hr2.2 (n, .row rty es rows) (by simp)) hlen g1
  have hv : a.eval (.tmp t) = .slice ao len c := hv
  have hb := run_bounds (P := P) (is := true) (lo := none) (hi := some y) (len := len) (cap := c) (BO.no 0) (BO.yes len hy) hok (fun p hp => by cases hp) (fun p hp => hr2.1 p (by simp [hp])) (Nat.zero_le _) (by omega)
  have hrun := run_sliceS (ao := ao) hs hb
  have e1 : (if c = 0 then ao else ao.map (·.add (0 * es))) = ao := by
   split
   ·rfl
   ·rcases hB with ⟨_, _, h3⟩ | ⟨b, h3, rfl⟩
    ·omega
    ·simp [Addr.add_mid]
  rw [e1] at hrun
  refine ⟨.slice ao h c, ?_, ?_⟩
  ·generalize a.eval = ρ at hv hrun ⊢
   have hrun' : (Instr.sliceAt xt (ρ (.tmp t)) ((none : Option Operand).map ρ) ((some y).map ρ) ((none : Option Operand).map ρ)).run P w = .ok (.slice ao h c) w := by rw [hv]; exact hrun
   simp only [execOp, Sem.run_bind, hrun', Result.andThen_ok, Sem.run_pure]
  ·show CR H B (.own n h) _
   simp only [CR]
   rcases hB with ⟨h2, h3, h4⟩ | ⟨b, h3, rfl⟩
   ·rw [h2]; exact ⟨by omega, ao, by rw [show h = 0 by omega, h4]⟩
   ·rw [h3]
theorem nilDSr {w0 : World} {H0 : Im} {B0 : Bl} {K : List Nat} {N : Nat} {a : Act} {w : World} {sl : List (Nat × V)} {lc : List (Nat × L)} (t j es : Nat) (v : V) (ao : Option Addr) (c : Nat) (h1 : ao = none → c = 0) (h2 : c ≤ maxLen) (sl' : List (Nat × V)) (lc' : List (Nat × L)) (h : St ⟨w0, H0, B0, K, N⟩ (F.of sl lc) a w) (hv : sl.lookup t = some v) (hg : v.getC j = some (.d (.raw (.slice ao 0 c))))
  (h3 : leS ((F.of sl lc).setS t (v.setC j (.d (.sl es [])))) sl' = sl'.map fun p => some p.2) (h4 : leN ((F.of sl lc).setS t (v.setC j (.d (.sl es [])))) lc' = lc'.map fun p => some p.2) : St ⟨w0, H0, B0, K, N⟩ (F.of sl' lc') a w :=
 (h.nilDS t j es (ao := ao) hv hg h1 h2).weaken (le_of h3 h4)
theorem run_eqNil {xt el : TypeId} (hu : P.underlying xt = some (.slice el)) (ao : Option Addr) (n c : Nat) (x y : Operand) (w : World) :
  (do eqGuard .eql xt x y (.slice ao n c) nilV; binOp .eql xt (.slice ao n c) nilV : Sem Value).run P w = .ok (.bool ao.isNone) w := by
 have h1 : (eqGuard .eql xt x y (.slice ao n c) nilV).run P w = .ok () w := by simp [eqGuard]
 have h2 : (binOp .eql xt (.slice ao n c) nilV).run P w = .ok (.bool ao.isNone) w := by
  show (do pure (Value.bool (← Op.equal xt (.slice ao n c) (.slice none 0 0))) : Sem Value).run P w = _
  simp only [Sem.run_bind, run_equal_slice_nil (P := P) w xt el ao n c hu, Result.andThen_ok, Sem.run_pure]
 simp only [Sem.run_bind, h1, Result.andThen_ok, h2]
theorem Op.eqNilR {d : Nat} {x y : Operand} {ao : Option Addr} {n c : Nat} {rs rs' : List (Nat × V)} {xt yt el ty : TypeId} {pos af gd} (hu : P.underlying xt = some (.slice el)) (h : OV x (.t (.c (.d (.raw (.slice ao n c))))) rs) (h' : OV y (.t (.c (.d (.raw nilV)))) rs') :
  OpOk P ⟨some d, .binOp .eql xt x y yt, ty, pos, af, gd⟩ { rs := rs ++ rs', ws := [(d, some (vb ao.isNone))] } := by
 refine Op.raw2 rfl h h' rfl fun ρ w h1 h2 => ?_
 have := run_eqNil (P := P) hu ao n c x y w
 simp only [Sem.run_bind] at this
 simp only [execOp, h1, h2, Sem.run_bind, this, Result.andThen_ok, Sem.run_pure]
theorem Op.eqNilD {d t es : Nat} {y : Operand} {rows : List (List D)} {rs' : List (Nat × V)} {xt yt el ty : TypeId} {pos af gd} (hu : P.underlying xt = some (.slice el)) (hn : 0 < rows.length) (h' : OV y (.t (.c (.d (.raw nilV)))) rs') :
  OpOk P ⟨some d, .binOp .eql xt (.tmp t) y yt, ty, pos, af, gd⟩ { rs := (t, .t (.c (.d (.sl es rows)))) :: rs', ws := [(d, some (vb false))] } :=
 OpOk.value d _ rfl rfl rfl fun e f H B a w hok hr2 => by
  have h1 := hok.slot t _ (hr2.1 (t, .t (.c (.d (.sl es rows)))) (by simp))
  have h2 : a.eval y = nilV := (h'.eval hok fun p hp => hr2.1 p (by simp [hp])).rawI
  have h3 : DR H (.sl es rows) (a.eval (.tmp t)) := h1
  generalize hv0 : a.eval (.tmp t) = v at h3
  cases h3 with
  | nil ao c => simp at hn
  | sl _ _ b o c arr ty' fz vs hp hb hl hc hes hv hx =>
   refine ⟨.bool false, ?_, DR.raw _ rfl⟩
   generalize a.eval = ρ at hv0 h2 ⊢
   have := run_eqNil (P := P) hu (some ⟨b, o, none⟩) rows.length c (.tmp t) y w
   simp only [Sem.run_bind] at this
   simp only [execOp, hv0, h2, Sem.run_bind, this, Result.andThen_ok, Sem.run_pure]
   rfl
theorem Fn.rawE {k : FuncId} {ps qs : List (Nat × L)} {es : Nat} {res : V} (h : ∀ (ao : Option Addr) (c : Nat), (ao = none → c = 0) → c ≤ maxLen → Fn P k ps [.t (.c (.d (.raw (.slice ao 0 c))))] res qs) : Fn P k ps [.t (.c (.d (.sl es [])))] res qs := by
 intro w H B vals pre
 obtain ⟨h1, h2, h3, h4, h5⟩ := pre
 cases vals with
 | nil => exact h5.elim
 | cons v vs =>
  have h6 : DR H (.sl es []) v := h5.1
  cases h6 with
  | sl _ _ b o c arr ty fz ws hp => exact absurd hp (by simp)
  | nil _ ao c g1 g2 => exact h ao c g1 g2 w H B _ ⟨h1, h2, h3, h4, DR.raw _ rfl, h5.2⟩
end
end Go.Proofs.YtmohlifepfjmdaaGreat.S
end
section
namespace Go.Proofs.YtmohlifepfjmdaaGreat.S
open Go.RowKit

end Go.Proofs.YtmohlifepfjmdaaGreat.S
end
section
namespace Go.Proofs.YtmohlifepfjmdaaGreat.S

/-- blocks of s elements, each of them rising -/
inductive Blk (s : Nat) : List Part → Prop
  | last (l : List Part) (h : Ris Part.v l) (hl : l.length ≤ s) : Blk s l
  | cons (X l : List Part) (hX : X.length = s) (h : Ris Part.v X) (hl : Blk s l) : Blk s (X ++ l)
end Go.Proofs.YtmohlifepfjmdaaGreat.S
end
section
namespace Go.Proofs.YtmohlifepfjmdaaGreat.S
open Go.RowKit

end Go.Proofs.YtmohlifepfjmdaaGreat.S
end
section
namespace Go.Proofs.YtmohlifepfjmdaaGreat.S
open Go.RowKit

end Go.Proofs.YtmohlifepfjmdaaGreat.S
end
section
namespace Go.Proofs.YtmohlifepfjmdaaGreat.S

end Go.Proofs.YtmohlifepfjmdaaGreat.S
end
section
namespace Go.Proofs.YtmohlifepfjmdaaGreat.S
open Go.RowKit

theorem tl_5 : Bodied Tryz.prog 90 := Bodied.mk' (by kernel_rfl)
theorem tl_7 : Sz Tryz.prog 3 1 false := Sz.mk' (by kernel_rfl) Tryz.underlying3 _ rfl
theorem tl_9 : Bodied Tryz.prog 91 := Bodied.mk' (by kernel_rfl)
end Go.Proofs.YtmohlifepfjmdaaGreat.S
end
section
namespace Go.Proofs.YtmohlifepfjmdaaGreat.S
open Go.RowKit

section
variable {P : Program}
theorem Op.capR {d : Nat} {x : Operand} {ao : Option Addr} {n c : Nat} {rs : List (Nat × V)} {t el ty : TypeId} {pos af gd} (hu : P.underlying t = some (.slice el)) (h : OV x (.t (.c (.d (.raw (.slice ao n c))))) rs) :
  OpOk P ⟨some d, .call { callee := .builtin .cap, args := #[x], argTypes := #[t] }, ty, pos, af, gd⟩ { rs := rs, ws := [(d, some (vi .i64 (c : Int)))] } :=
 OpOk.value d _ rfl rfl rfl fun e f H B a w hok hr2 => by
  have h2 := (h.eval hok fun p hp => hr2.1 p hp).rawI
  refine ⟨goInt c, ?_, DR.raw _ rfl⟩
  generalize a.eval = ρ at h2 ⊢
  have e1 : (Array.map ρ #[x]) = #[ρ x] := by simp
  simp [execOp, resolve, e1, h2, invoke, builtin, Builtin.cap_, run_underlying hu]
theorem Op.sliceR0 {d : Nat} {x y : Operand} {k : IntKind} {rs rs' : List (Nat × V)} {xt el ty : TypeId} {es : Nat} {pos af gd} (hs : SlT P xt el es) (hx : OV x (.t (.c (.d (.raw nilV)))) rs) (hy : OV y (vi k (0 : Nat)) rs') :
  OpOk P ⟨some d, .slice xt x none (some y) none, ty, pos, af, gd⟩ { rs := rs ++ rs', ws := [(d, some (.t (.c (.d (.raw nilV)))))] } :=
 OpOk.value d _ rfl rfl rfl fun e f H B a w hok hr2 => by
  have hv : a.eval x = nilV := (hx.eval hok fun p hp => hr2.1 p (by simp [hp])).rawI
  have hb := run_bounds (P := P) (is := true) (lo := none) (hi := some y) (len := 0) (cap := 0) (BO.no 0) (BO.yes 0 hy) hok (fun p hp => by cases hp) (fun p hp => hr2.1 p (by simp [hp])) (Nat.zero_le _) (Nat.le_refl _)
  have hrun := run_sliceS (ao := none) hs hb
  refine ⟨nilV, ?_, DR.raw _ rfl⟩
  generalize a.eval = ρ at hv hrun ⊢
  have hrun' : (Instr.sliceAt xt (ρ x) ((none : Option Operand).map ρ) ((some y).map ρ) ((none : Option Operand).map ρ)).run P w = .ok nilV w := by rw [hv]; simpa [nilV] using hrun
  simp only [execOp, Sem.run_bind, hrun', Result.andThen_ok, Sem.run_pure]
theorem run_app_make {xt el it ty : TypeId} {i : TypeInfo} {z : Value} (hu : P.underlying xt = some (.slice el)) (hi : P.underlying it = some (.int .i64)) (hI : P.info? el = some i) (hz : i.zero = some z) (hs : i.size ≠ 0) {L : Nat} (hL0 : 0 < L) (hL : L ≤ 4294967296) (hb : L * i.bytes ≤ 140737488355328) (w : World) :
  (Builtin.append_ #[xt, it] ty #[nilV, .int .i64 (L : Int)]).run P w = .ok (.slice (some ⟨w.heap.size, 0, none⟩) L (grownCap w L 0 el)) (w.drew.alloc (.cells (Builtin.zeroCells z.cells L ++ Builtin.zeroCells z.cells (grownCap w L 0 el - L)) el)) := by
 have wl : IntKind.i64.wrap (L : Int) = (L : Int) := by rw [IntKind.wrap_i64]; omega
 have c1 : ¬ ((L : Int) < 0) := by omega
 have c2 : ¬ (281474976710656 < (L : Int) * (i.bytes : Int)) := by
  have : ((L * i.bytes : Nat) : Int) = (L : Int) * (i.bytes : Int) := Int.natCast_mul _ _
  omega
 have c4 : ¬ (9223372036854775807 < (L : Int)) := by omega
 have c5 : ¬ (281474976710656 < Builtin.nextslicecap L 0 * i.bytes) := by
  have := growslice_fits (need := L) (old := 0) (bytes := i.bytes) (by omega) hb
  omega
 have hL1 : L ≠ 0 := by omega
 have hL2 : L * i.size ≠ 0 := Nat.mul_ne_zero hL1 hs
 simp [Builtin.append_, nilV, run_underlying hu, run_underlying hi, sizeOf, typeInfo, zeroValue, hI, hz, hL2, asInt, asIntOf, wl, c1, c2, c4, c5, hL1, Question.forced, run_firstCells_none, newRow, grownCap]
theorem Op.appNM {d t u n es bs L : Nat} {xt el it ty : TypeId} {pos af gd} (hT : ElT P xt el es bs) (hi : P.underlying it = some (.int .i64)) (hL0 : 0 < L) (hL : L ≤ 1000000000) (hb : L * bs ≤ 140737488355328) :
  OpOk P ⟨some d, .call { callee := .builtin .append, args := #[.tmp t, .tmp u], argTypes := #[xt, it] }, ty, pos, af, gd⟩
   { rs := [(t, .t (.c (.d (.raw nilV)))), (u, vi .i64 (L : Int))], ws := [(d, some (.t (.c (.own n L))))], wl := [(n, some (.row el es []))], nw := [n] } := by
 rintro e f a w Q ⟨H, B, hok⟩ hr hnw hb0
 have hnew := hnw n (by simp)
 have h1 : a.eval (.tmp t) = nilV := VR.rawI (hok.slot t _ (hr.1 (t, .t (.c (.d (.raw nilV)))) (by simp)))
 have h2 : a.eval (.tmp u) = .int .i64 (L : Int) := VR.rawI (hok.slot u _ (hr.1 (u, vi .i64 (L : Int)) (by simp)))
 obtain ⟨i, z, hI, hz, hsz, hby, hzs⟩ := hT.ex
 have hrun := run_app_make (P := P) (ty := ty) hT.hu hi hI hz (by rw [hsz]; exact Nat.pos_iff_ne_zero.1 hT.pos) hL0 (by omega) (by rw [hby]; exact hb) w
 have hge := grownCap_ge w L 0 el
 have hle := grownCap_le_maxLen w L 0 el (by simp only [maxLen]; omega)
 generalize grownCap w L 0 el = c at hrun hge hle
 have hok2 : Ok e f H B a w.drew := ⟨hok.df, hok.n, ⟨hok.ext.os, hok.ext.tape, hok.ext.output, hok.ext.size, hok.ext.block⟩, hok.sat, hok.slot, fun m l hm => LR.mono (Le.refl _) rfl (fun _ _ => rfl) (fun _ _ _ => rfl) (hok.loc m l hm), hok.priv, hok.inj, hok.low, hok.le, hok.keep⟩
 have hlen : (Builtin.zeroCells z.cells L ++ Builtin.zeroCells z.cells (c - L)).toList.length = c * es := by
  simp only [Builtin.zeroCells, Array.toList_append, List.length_append, Array.length_toList, Array.size_map, Array.size_range, hzs]
  rw [← Nat.add_mul]; congr 1; omega
 have hobj : (Builtin.zeroCells z.cells L ++ Builtin.zeroCells z.cells (c - L)) = ⟨(Builtin.zeroCells z.cells L ++ Builtin.zeroCells z.cells (c - L)).toList⟩ := by simp
 rw [hobj] at hrun
 generalize (Builtin.zeroCells z.cells L ++ Builtin.zeroCells z.cells (c - L)).toList = arr at hrun hlen
 have h3 : Ok e ⟨f.s, fun m => if m = n then some (.row el es []) else f.l m⟩ H (fun m => if m = n then some (w.drew.heap.size, c) else B m) a (w.drew.alloc (.cells ⟨arr⟩ el)) :=
  hok2.new hnew (.cells ⟨arr⟩ el) c (.row el es []) (fun _ => rfl) (fun _ => rfl) (by
   simp only [LR, if_true]
   exact ⟨arr, heap_alloc_new w.drew _, hlen, Nat.zero_le _, hle, by simp, by simp [All2]⟩)
 refine wp_of_run (d := d) rfl ?_ ⟨H, _, h3.put (x := some (.t (.c (.own n L)))) (hb0.1 (d, some (.t (.c (.own n L)))) (by simp)) (app1_s f d _ _ rfl) (fun m => ?_) (v := .slice (some ⟨w.heap.size, 0, none⟩) L c) (fun y hy => by injection hy with hy; subst hy; simp [VR, TR, CR])⟩
 ·generalize a.eval = ρ at h1 h2 ⊢
  have e1 : (Array.map ρ #[.tmp t, .tmp u]) = #[ρ (.tmp t), ρ (.tmp u)] := by simp
  simp only [execOp, resolve, e1, h1, h2, Sem.run_bind, Sem.run_pure, Result.andThen_ok, invoke, builtin, hrun]
 ·simp only [F.app, List.lookup]
  by_cases e1 : m = n
  ·simp [e1]
  ·have g1 : (m == n) = false := by simpa using e1
   simp [g1, e1]
end
end Go.Proofs.YtmohlifepfjmdaaGreat.S
end
section
namespace Go.Proofs.YtmohlifepfjmdaaGreat.S
open Go.RowKit

theorem tm_12 : Bodied Tryz.prog 92 := Bodied.mk' (by kernel_rfl)
theorem sum_take_le (l : List Nat) : ∀ j, (l.take j).sum ≤ l.sum := by
 induction l with
 | nil => intro j; simp
 | cons x l ih =>
  intro j
  cases j with
  | zero => simp
  | succ j => simp only [List.take_succ_cons, List.sum_cons]; have := ih j; omega
theorem flat_sum {α : Type} (l : List (List α)) : l.flatten.length = (l.map List.length).sum := List.length_flatten
theorem sum_mem {l : List Nat} {x : Nat} (h : x ∈ l) : x ≤ l.sum := by
 induction l with
 | nil => cases h
 | cons y l ih =>
  rw [List.sum_cons]
  rcases List.mem_cons.1 h with rfl | h
  ·omega
  ·have := ih h; omega
end Go.Proofs.YtmohlifepfjmdaaGreat.S
end
section
namespace Go.Proofs.YtmohlifepfjmdaaGreat.S
open Go.RowKit

end Go.Proofs.YtmohlifepfjmdaaGreat.S
end
section
namespace Go.Proofs.YtmohlifepfjmdaaGreat.S

/-- plain terms whose coefficients are bounded -/
structure Bd (n M : Nat) (t : Term) : Prop where
  pl : plainT t = t
  len : t.parts.length ≤ n
  cf : ∀ v, (coefZ t.parts v).natAbs ≤ M
  kf : t.k.val.natAbs ≤ M
def idxI (v : Int) : List Int → Nat → Int
  | [], _ => -1
  | x :: xs, n => if v = x then n else idxI v xs (n + 1)
def pickT (vs : List Int) (bys : List Term) (v : Int) : Term :=
  match bys[(idxI v vs 0).toNat]? with
  | some b => if idxI v vs 0 < 0 then varT v else b
  | none => varT v
end Go.Proofs.YtmohlifepfjmdaaGreat.S
end
section
namespace Go.Proofs.YtmohlifepfjmdaaGreat.S
open Go.RowKit

end Go.Proofs.YtmohlifepfjmdaaGreat.S
end
section
namespace Go.Proofs.YtmohlifepfjmdaaGreat.S
open Go.RowKit

end Go.Proofs.YtmohlifepfjmdaaGreat.S
end
section
namespace Go.Proofs.YtmohlifepfjmdaaGreat.S
open Go.RowKit

end Go.Proofs.YtmohlifepfjmdaaGreat.S
end
section
namespace Go.Proofs.YtmohlifepfjmdaaGreat.S
open Go.RowKit

end Go.Proofs.YtmohlifepfjmdaaGreat.S
end
section
namespace Go.Proofs.YtmohlifepfjmdaaGreat.S
open Go.RowKit

end Go.Proofs.YtmohlifepfjmdaaGreat.S
end
section
namespace Go.Proofs
open Go.Shelf
end Go.Proofs
end
section
namespace Go.Proofs.YtmohlifepfjmdaaGreat
open Go.RowKit

def bl (x : Nat) : Nat := Lib.bitLen x

end Go.Proofs.YtmohlifepfjmdaaGreat
end
section
namespace Go.Proofs.YtmohlifepfjmdaaGreat
open Go.RowKit

/-! ### windows -/

end Go.Proofs.YtmohlifepfjmdaaGreat
end
section
namespace Go.Proofs.YtmohlifepfjmdaaGreat

def ch (s : ByteArray) (i : Nat) : Nat := (s.data.toList.map UInt8.toNat).getD i 0
def isd (s : ByteArray) (i : Nat) : Prop := 48 ≤ ch s i ∧ ch s i ≤ 57
def alld (s : ByteArray) (k : Nat) : Prop := ∀ i, i < k → isd s i
instance (s : ByteArray) (i : Nat) : Decidable (isd s i) := inferInstanceAs (Decidable (_ ∧ _))
instance (s : ByteArray) (k : Nat) : Decidable (alld s k) := Nat.decidableBallLT k (fun i _ => isd s i)

end Go.Proofs.YtmohlifepfjmdaaGreat
end
section
namespace Go.Proofs.YtmohlifepfjmdaaGreat
open Go.RowKit

def LbB (zs : List Nat) : Prop := ∀ z ∈ zs, z < 256

/-- the slice at ao, of length zs.length and capacity c, reads as zs -/
structure RdB (w : World) (ao : Option Addr) (c : Nat) (zs : List Nat) : Prop where
  cap : zs.length ≤ c
  mx : c ≤ 9223372036854775807
  nl : ao = none → c = 0
  lb : LbB zs
  ad : 0 < zs.length → ao = some ⟨bk ao, of ao, none⟩
  cell : ∀ i, i < zs.length → w.cell? ⟨bk ao, of ao + i, none⟩ = some (.int .u8 (lim zs i))

/-- the slice at ao is a row of the call's own (from block B on) that holds zs -/
structure OwB (w : World) (B : Nat) (ao : Option Addr) (c : Nat) (zs : List Nat) : Prop where
  lb : LbB zs
  row : w.ownsRow B 5 1 (.slice ao zs.length c) zs.length (zs.map fun (x : Nat) => Value.int .u8 (x : Int))

end Go.Proofs.YtmohlifepfjmdaaGreat
end
section
namespace Go.Proofs.YtmohlifepfjmdaaGreat
open Go.RowKit

end Go.Proofs.YtmohlifepfjmdaaGreat
end
section
namespace Go.Proofs.YtmohlifepfjmdaaGreat
open Go.RowKit

end Go.Proofs.YtmohlifepfjmdaaGreat
end
section
namespace Go.Proofs.YtmohlifepfjmdaaGreat

end Go.Proofs.YtmohlifepfjmdaaGreat
end
section
namespace Go.Proofs.YtmohlifepfjmdaaGreat
open Go.RowKit

theorem cells32 : (Value.int .u32 0).cells = #[Value.int .u32 0] := rfl


end Go.Proofs.YtmohlifepfjmdaaGreat
end
section
namespace Go.Proofs.YtmohlifepfjmdaaGreat
open Go.RowKit

end Go.Proofs.YtmohlifepfjmdaaGreat
end
section
namespace Go.Proofs.YtmohlifepfjmdaaGreat
open Go.RowKit

end Go.Proofs.YtmohlifepfjmdaaGreat
end
section
namespace Go.Proofs.YtmohlifepfjmdaaGreat
open Go.RowKit

end Go.Proofs.YtmohlifepfjmdaaGreat
end
section
namespace Go.Proofs.YtmohlifepfjmdaaGreat
open Go.RowKit

end Go.Proofs.YtmohlifepfjmdaaGreat
end
section
namespace Go.Proofs.YtmohlifepfjmdaaGreat

end Go.Proofs.YtmohlifepfjmdaaGreat
end
section
namespace Go.Proofs.YtmohlifepfjmdaaGreat
open Go.RowKit

end Go.Proofs.YtmohlifepfjmdaaGreat
end
section
namespace Go.Proofs.YtmohlifepfjmdaaGreat
open Go.RowKit

end Go.Proofs.YtmohlifepfjmdaaGreat
end
section
namespace Go.Proofs.YtmohlifepfjmdaaGreat
open Go.RowKit

end Go.Proofs.YtmohlifepfjmdaaGreat
end
section
namespace Go.Proofs.YtmohlifepfjmdaaGreat.S
open Go.RowKit
end Go.Proofs.YtmohlifepfjmdaaGreat.S
end
section
namespace Go.Proofs.YtmohlifepfjmdaaGreat.S
open Go.RowKit

theorem fmod_neg_range (a : Int) {b : Int} (h : b < 0) : b < a.fmod b ∧ a.fmod b ≤ 0 := by
 have h1 := Int.fmod_lt_of_pos (-a) (b := -b) (by omega)
 have h2 := Int.fmod_nonneg_of_pos (-a) (b := -b) (by omega)
 rw [Int.neg_fmod_neg] at h1 h2
 omega
theorem fmod_range (a : Int) {b : Int} (_hb : b ≠ 0) : (0 < b → 0 ≤ a.fmod b ∧ a.fmod b < b) ∧ (b < 0 → b < a.fmod b ∧ a.fmod b ≤ 0) :=
 ⟨fun h => ⟨Int.fmod_nonneg_of_pos a h, Int.fmod_lt_of_pos a h⟩, fun h => fmod_neg_range a h⟩
theorem fmod_natAbs_lt (X : Int) {Y : Int} (hY : Y ≠ 0) : (X.fmod Y).natAbs < Y.natAbs := by
 obtain ⟨h1, h2⟩ := fmod_range X hY
 rcases Int.lt_or_lt_of_ne hY with g | g
 ·have := h2 g; omega
 ·have := h1 g; omega
end Go.Proofs.YtmohlifepfjmdaaGreat.S
end
section
namespace Go.Proofs.YtmohlifepfjmdaaGreat.S
open Go.RowKit

def bez (r0 x0 y0 r1 x1 y1 : Int) : Int × Int × Int :=
  if _h : r1 ≤ 0 then (r0, x0, y0) else bez r1 x1 y1 (r0.fmod r1) (x0 - r0.fdiv r1 * x1) (y0 - r0.fdiv r1 * y1)
  termination_by r1.natAbs
  decreasing_by exact fmod_natAbs_lt _ (by omega)
/-- what holds of Euclid's numbers on the way; A, B: the absolute values -/
structure BzI (A B r0 x0 y0 r1 x1 y1 : Int) : Prop where
  a : 0 ≤ A
  b : 0 ≤ B
  p0 : 0 ≤ r0
  p1 : 0 ≤ r1
  g : Nat.gcd r0.natAbs r1.natAbs = Nat.gcd A.natAbs B.natAbs
  e0 : r0 = A * x0 + B * y0
  e1 : r1 = A * x1 + B * y1
  sx : (0 ≤ x0 ∧ x1 ≤ 0) ∨ (x0 ≤ 0 ∧ 0 ≤ x1)
  sy : (0 ≤ y0 ∧ y1 ≤ 0) ∨ (y0 ≤ 0 ∧ 0 ≤ y1)
  bx : r0 * (x1.natAbs : Int) + r1 * (x0.natAbs : Int) = B
  byy : r0 * (y1.natAbs : Int) + r1 * (y0.natAbs : Int) = A
  lx : (x1.natAbs : Int) ≤ B + 1
  ly : (y1.natAbs : Int) ≤ A + 1
  z : bez r0 x0 y0 r1 x1 y1 = bez A 1 0 B 0 1
end Go.Proofs.YtmohlifepfjmdaaGreat.S
end
section
namespace Go.Proofs.YtmohlifepfjmdaaGreat.S
open Go.RowKit

theorem zs_3 : Bodied Tryz.prog 98 := Bodied.mk' (by kernel_rfl)
theorem zs_6 : Bodied Tryz.prog 83 := Bodied.mk' (by kernel_rfl)
theorem zs_7 : Bodied Tryz.prog 75 := Bodied.mk' (by kernel_rfl)
theorem zs_18 : Bodied Tryz.prog 71 := Bodied.mk' (by kernel_rfl)
theorem SRSub (x y : ZI) (hx : Lb x.abs) (hy : Lb y.abs) (lx : x.abs.length ≤ 49000) (ly : y.abs.length ≤ 49000) : Fn Tryz.prog 75 [] [vz x, vz y] (vz (ZI.of (x.val - y.val))) [] := by
 refine Fn.body Tryz.func75 rfl 9 rfl fun w H B a h => ?_
 refine rSeq fam0ok 0 [] [(2, vp 0 0), (3, vp 1 0), (4, vp 2 0)] [(0, .box (zi x)), (1, .box (zi y)), (2, .box [.d (.raw (.bool false)), .d (nsl [])])] (by kernel_rfl) h ?_; clear h; intro a w h
 obtain ⟨r1, er1, vr1, or1, lr1⟩ := mkZ (v := -y.val) (m := y.abs.length) (len_neg hy)
 obtain ⟨r2, er2, vr2, or2, lr2⟩ := mkZ (v := x.val + r1.val) (m := x.abs.length + r1.abs.length + 1) (len_add hx or1)
 refine rSeq fam0ok 3 [(2, .call (Fn.cast (SRNeg y hy (by omega)) (congrArg vz er1.symm)) zs_3), (3, .call (Fn.cast (SRAdd x r1 hx or1 (by omega) (by omega)) (congrArg vz er2.symm)) ib_5)] [(4, vp 2 0)] [(2, .box (zi r2))] (by kernel_rfl) h ?_; clear h; intro a w h
 refine wp_ret ?_
 refine retS [.agg (zi r2)] h Exit.ret (.inl rfl)  rfl ⟨RV.agg _ 2 0 _ _ _ _ ia_1 rfl rfl rfl rfl, trivial⟩ ?_ (by kernel_rfl) (by kernel_rfl)
 refine congrArg (fun z => vz z) (er2.trans (congrArg ZI.of ?_))
 rw [vr1]; omega
theorem cmp_leaf (x y : ZI) : (sgn x.val < sgn y.val → (-1 : Int) = cmpZ x.val y.val) ∧ (¬ sgn x.val < sgn y.val → sgn x.val > sgn y.val → (1 : Int) = cmpZ x.val y.val) ∧ (¬ sgn x.val < sgn y.val → ¬ sgn x.val > sgn y.val → sgn x.val < 0 → cmpI (Go.Proofs.YtmohlifepfjmdaaGreat.val y.abs) (Go.Proofs.YtmohlifepfjmdaaGreat.val x.abs) = cmpZ x.val y.val) ∧ (¬ sgn x.val < sgn y.val → ¬ sgn x.val > sgn y.val → ¬ sgn x.val < 0 → cmpI (Go.Proofs.YtmohlifepfjmdaaGreat.val x.abs) (Go.Proofs.YtmohlifepfjmdaaGreat.val y.abs) = cmpZ x.val y.val) := by
 have e1 : ∀ z : Int, (0 < z → sgn z = 1) ∧ (z < 0 → sgn z = -1) ∧ (z = 0 → sgn z = 0) := fun z => ⟨sgn_pos, sgn_neg, sgn_zero⟩
 rcases sgn_cases x with ⟨h1, h2⟩ | ⟨h1, h2, h3⟩ | ⟨h1, h2⟩ <;> rcases sgn_cases y with ⟨k1, k2⟩ | ⟨k1, k2, k3⟩ | ⟨k1, k2⟩ <;>
  have a1 := e1 x.val <;> have a2 := e1 y.val <;> rw [h1, k1] <;> rw [h1] at a1 <;> rw [k1] at a2 <;> unfold cmpZ cmpI <;> refine ⟨fun _ => ?_, fun _ _ => ?_, fun _ _ _ => ?_, fun _ _ _ => ?_⟩ <;> first | omega | (split <;> first | omega | (split <;> first | omega | (split <;> first | omega | (split <;> omega))))
theorem SCmp (x y : ZI) (hx : Lb x.abs) (hy : Lb y.abs) (lx : x.abs.length ≤ 49000) (ly : y.abs.length ≤ 49000) : Fn Tryz.prog 51 [] [vz x, vz y] (vi .i64 (cmpZ x.val y.val)) [] := by
 refine Fn.body Tryz.func51 rfl 32 rfl fun w H B a h => ?_
 refine rSeq fam0ok 0 [] [(2, vp 0 0), (3, vp 1 0), (4, vi .i64 0)] [(0, .box (zi x)), (1, .box (zi y))] (by kernel_rfl) h ?_; clear h; intro a w h
 refine rSeq fam0ok 2 [(1, .call (SSign x hx (by omega)) td_6), (3, .call (SSign y hy (by omega)) td_6)] [(2, vp 0 0), (3, vp 1 0), (4, vi .i64 0), (5, vi .i64 (sgn x.val)), (6, vi .i64 (sgn y.val))] [(0, .box (zi x)), (1, .box (zi y))] (by kernel_rfl) h ?_; clear h; intro a w h
 refine wp_seq ?_
 refine wp_block ?_
 refine rSeq fam0ok 2 [] [(2, vp 0 0), (3, vp 1 0), (4, vi .i64 0), (5, vi .i64 (sgn x.val)), (6, vi .i64 (sgn y.val)), (11, vb (decide (sgn x.val < sgn y.val)))] [(0, .box (zi x)), (1, .box (zi y))] (by kernel_rfl) h ?_; clear h; intro a w h
 refine condS (decide (sgn x.val < sgn y.val)) h rfl (fun hc => ?_) (fun hc => ?_)
 ·have hc1 := hc; clear hc
  have hc1' := of_decide_eq_true hc1
  refine rSeq fam0ok 2 [] [(2, vp 0 0), (3, vp 1 0), (4, vi .i64 (-1))] [(0, .box (zi x)), (1, .box (zi y))] (by kernel_rfl) h ?_; clear h; intro a w h
  refine wp_ret ?_
  refine block_r ?_
  refine then_r ?_
  refine retS [.c (.d (.raw (.int .i64 (-1))))] h Exit.ret (.inl rfl)  rfl ⟨RV.tmp _ _ rfl, trivial⟩ ?_ (by kernel_rfl) (by kernel_rfl)
  exact congrArg (vi .i64) ((cmp_leaf x y).1 hc1')
 ·have hc2 := hc; clear hc
  have hc2' := of_decide_eq_false hc2
  refine rSeq fam0ok 2 [] [(2, vp 0 0), (3, vp 1 0), (4, vi .i64 0), (5, vi .i64 (sgn x.val)), (15, vb (decide (sgn x.val > sgn y.val)))] [(0, .box (zi x)), (1, .box (zi y))] (by kernel_rfl) h ?_; clear h; intro a w h
  refine condS (decide (sgn x.val > sgn y.val)) h rfl (fun hc => ?_) (fun hc => ?_)
  ·have hc3 := hc; clear hc
   have hc3' := of_decide_eq_true hc3
   refine rSeq fam0ok 2 [] [(2, vp 0 0), (3, vp 1 0), (4, vi .i64 1)] [(0, .box (zi x)), (1, .box (zi y))] (by kernel_rfl) h ?_; clear h; intro a w h
   refine wp_ret ?_
   refine block_r ?_
   refine then_r ?_
   refine retS [.c (.d (.raw (.int .i64 1)))] h Exit.ret (.inl rfl)  rfl ⟨RV.tmp _ _ rfl, trivial⟩ ?_ (by kernel_rfl) (by kernel_rfl)
   exact congrArg (vi .i64) ((cmp_leaf x y).2.1 hc2' hc3')
  ·have hc4 := hc; clear hc
   have hc4' := of_decide_eq_false hc4
   refine rSeq fam0ok 2 [] [(2, vp 0 0), (3, vp 1 0), (4, vi .i64 0), (19, vb (decide (sgn x.val < 0)))] [(0, .box (zi x)), (1, .box (zi y))] (by kernel_rfl) h ?_; clear h; intro a w h
   refine condS (decide (sgn x.val < 0)) h rfl (fun hc => ?_) (fun hc => ?_)
   ·have hc5 := hc; clear hc
    have hc5' := of_decide_eq_true hc5
    refine rSeq fam0ok 2 [(4, .call (SnCmp y.abs x.abs hy hx) zs_6)] [(2, vp 0 0), (3, vp 1 0), (4, vi .i64 (cmpI (Go.Proofs.YtmohlifepfjmdaaGreat.val y.abs) (Go.Proofs.YtmohlifepfjmdaaGreat.val x.abs)))] [(0, .box (zi x)), (1, .box (zi y))] (by kernel_rfl) h ?_; clear h; intro a w h
    refine wp_ret ?_
    refine block_r ?_
    refine then_r ?_
    refine retS [.c (.d (.raw (.int .i64 (cmpI (Go.Proofs.YtmohlifepfjmdaaGreat.val y.abs) (Go.Proofs.YtmohlifepfjmdaaGreat.val x.abs)))))] h Exit.ret (.inl rfl)  rfl ⟨RV.tmp _ _ rfl, trivial⟩ ?_ (by kernel_rfl) (by kernel_rfl)
    exact congrArg (vi .i64) ((cmp_leaf x y).2.2.1 hc2' hc4' hc5')
   ·have hc6 := hc; clear hc
    have hc6' := of_decide_eq_false hc6
    refine wp_skip ?_
    refine block_n ?_
    refine then_n ?_
    refine rSeq fam0ok 2 [(4, .call (SnCmp x.abs y.abs hx hy) zs_6)] [(4, vi .i64 (cmpI (Go.Proofs.YtmohlifepfjmdaaGreat.val x.abs) (Go.Proofs.YtmohlifepfjmdaaGreat.val y.abs)))] [] (by kernel_rfl) h ?_; clear h; intro a w h
    refine wp_ret ?_
    refine retS [.c (.d (.raw (.int .i64 (cmpI (Go.Proofs.YtmohlifepfjmdaaGreat.val x.abs) (Go.Proofs.YtmohlifepfjmdaaGreat.val y.abs)))))] h Exit.ret (.inl rfl)  rfl ⟨RV.tmp _ _ rfl, trivial⟩ ?_ (by kernel_rfl) (by kernel_rfl)
    exact congrArg (vi .i64) ((cmp_leaf x y).2.2.2 hc2' hc4' hc6')
theorem SRCmp (x y : ZI) (hx : Lb x.abs) (hy : Lb y.abs) (lx : x.abs.length ≤ 49000) (ly : y.abs.length ≤ 49000) : Fn Tryz.prog 43 [] [vz x, vz y] (vi .i64 (cmpZ x.val y.val)) [] := by
 refine Fn.body Tryz.func43 rfl 9 rfl fun w H B a h => ?_
 refine rSeq fam0ok 0 [] [(2, vp 0 0), (3, vp 1 0), (4, vi .i64 0)] [(0, .box (zi x)), (1, .box (zi y))] (by kernel_rfl) h ?_; clear h; intro a w h
 obtain ⟨r1, er1, vr1, or1, lr1⟩ := mkZ (v := x.val - y.val) (m := x.abs.length + y.abs.length + 1) (len_sub hx hy)
 refine rSeq fam0ok 2 [(2, .call (Fn.cast (SRSub x y hx hy (by omega) (by omega)) (congrArg vz er1.symm)) zs_7), (3, .call (SRSign r1 or1 (by omega)) ib_0)] [(4, vi .i64 (sgn r1.val))] [] (by kernel_rfl) h ?_; clear h; intro a w h
 refine wp_ret ?_
 refine retS [.c (.d (.raw (.int .i64 (sgn r1.val))))] h Exit.ret (.inl rfl)  rfl ⟨RV.tmp _ _ rfl, trivial⟩ ?_ (by kernel_rfl) (by kernel_rfl)
 rw [vr1, cmpZ_sgn]; first | done | rfl
end Go.Proofs.YtmohlifepfjmdaaGreat.S
end
section
namespace Go.Proofs.YtmohlifepfjmdaaGreat.S
open Go.RowKit

theorem tt_6 : SlT Tryz.prog 41 28 2 := SlT.mk' Tryz.underlying41 (by kernel_rfl)
def valAt (vs : List ZI) (v : Int) : Int := if 0 ≤ v then ((vs[v.toNat]?).map ZI.val).getD 0 else 0
def valP (vs : List ZI) : List Part → Int
  | [] => 0
  | p :: ps => p.c.val * valAt vs p.v + valP vs ps
theorem valP_app (vs : List ZI) (ps qs : List Part) : valP vs (ps ++ qs) = valP vs ps + valP vs qs := by
 induction ps with
 | nil => simp [valP]
 | cons p ps ih => simp only [List.cons_append, valP, ih]; omega
theorem valP_take {vs : List ZI} {ps : List Part} {j : Nat} {p : Part} (h : ps[j]? = some p) : valP vs (ps.take (j + 1)) = valP vs (ps.take j) + p.c.val * valAt vs p.v := by
 have : ps.take (j + 1) = ps.take j ++ [p] := by rw [List.take_add_one, h]; rfl
 rw [this, valP_app]; simp [valP]
theorem valAt_some {vs : List ZI} {v : Int} {k : Nat} {y : ZI} (h : v = (k : Int)) (hy : vs[k]? = some y) : valAt vs v = y.val := by
 subst h
 unfold valAt
 rw [if_pos (by omega), Int.toNat_natCast, hy]; rfl
theorem valAt_neg {vs : List ZI} {v : Int} (h : ¬ v ≥ 0) : valAt vs v = 0 := by unfold valAt; rw [if_neg (by omega)]
theorem valAt_out {vs : List ZI} {v : Int} (h : ¬ v < (vs.length : Int)) : valAt vs v = 0 := by
 unfold valAt
 split
 ·rw [List.getElem?_eq_none (by omega)]; rfl
 ·rfl
def valT (t : Term) (vs : List ZI) : Int := t.k.val + valP vs t.parts
def VOk (M : Nat) (vs : List ZI) : Prop := vs.length ≤ 1000 ∧ ∀ y ∈ vs, Lb y.abs ∧ y.abs.length ≤ M
theorem VOk.get {M : Nat} {vs : List ZI} (h : VOk M vs) {j : Nat} {y : ZI} (hy : vs[j]? = some y) : Lb y.abs ∧ y.abs.length ≤ M := h.2 y (List.mem_of_getElem? hy)
theorem valAt_lt {M : Nat} {vs : List ZI} (h : VOk M vs) (v : Int) : (valAt vs v).natAbs < pw M := by
 unfold valAt
 split
 ·cases hy : vs[v.toNat]? with
  | none => exact pw_pos M
  | some y =>
   obtain ⟨h1, h2⟩ := h.get hy
   have h3 := ZI.abs_lt h1
   have h4 := pw_le h2
   show y.val.natAbs < _
   omega
 ·exact pw_pos M
theorem valP_lt {L M : Nat} {vs : List ZI} (hv : VOk M vs) : ∀ {ps : List Part}, (∀ p ∈ ps, Lb p.c.abs ∧ p.c.abs.length ≤ L) → (valP vs ps).natAbs ≤ ps.length * pw (L + M)
 | [], _ => by simp [valP]
 | p :: ps, h => by
  have ih := valP_lt hv (fun q hq => h q (by simp [hq])) (ps := ps)
  obtain ⟨h1, h2⟩ := h p (by simp)
  have h3 := Nat.lt_of_lt_of_le (ZI.abs_lt h1) (pw_le h2)
  have h4 : (p.c.val * valAt vs p.v).natAbs < pw (L + M) := by
   rw [Int.natAbs_mul, pw_add]
   exact Nat.mul_lt_mul'' h3 (valAt_lt hv p.v)
  simp only [valP, List.length_cons, Nat.add_mul]
  omega
theorem val_len {n L M : Nat} {t : Term} {vs : List ZI} (ht : TOk n L t) (hn : n ≤ 1000) (hv : VOk M vs) {ps : List Part} (hp : ∀ p ∈ ps, p ∈ t.parts) (hl : ps.length ≤ t.parts.length) : (ZI.of (t.k.val + valP vs ps)).abs.length ≤ L + M + 1 := by
 refine ZI.len_of ?_
 have h1 := valP_lt hv (fun p h => ht.ps p (hp p h)) (L := L)
 have h2 : ps.length * pw (L + M) ≤ 1000 * pw (L + M) := Nat.mul_le_mul_right _ (by have := ht.len; omega)
 have h3 := Nat.lt_of_lt_of_le (ZI.abs_lt ht.kb) (pw_le ht.kl)
 have h4 := pw_le (show L ≤ L + M by omega)
 rw [pw_succ]
 omega
theorem SValue (t : Term) (vs : List ZI) {n L M : Nat} (ht : TOk n L t) (hn : n ≤ 1000) (hL : L + M ≤ 20000) (hv : VOk M vs) : Fn Tryz.prog 67 [] [.t (.agg ([.d (.sl 3 (t.parts.map Part.d))] ++ zi t.k)), .t (.c (.d (.sl 2 (vs.map ziD))))] (vz (ZI.of (valT t vs))) [] := by
 have kt := ht.kl
 have lnv := hv.1
 refine Fn.body Tryz.func67 rfl 40 rfl fun w H B a h => ?_
 refine rSeq fam0ok 0 [] [(1, .t (.c (.d (.sl 2 (vs.map ziD))))), (2, vp 0 0), (4, vp 1 0)] [(0, .box ([.d (.sl 3 (t.parts.map Part.d))] ++ zi t.k)), (1, .box [.d (.raw (.bool false)), .d (nsl [])])] (by kernel_rfl) h ?_; clear h; intro a w h
 obtain ⟨r1, er1, vr1, or1, lr1⟩ := mkZ (v := t.k.val) (m := t.k.abs.length) (len_id ht.kb)
 refine rSeq fam0ok 2 [(2, .call (Fn.cast (Scopied t.k ht.kb (by omega)) (congrArg vz er1.symm)) tl_5)] [(1, .t (.c (.d (.sl 2 (vs.map ziD))))), (2, vp 0 0), (4, vp 1 0), (5, vp 2 0)] [(0, .box ([.d (.sl 3 (t.parts.map Part.d))] ++ zi t.k)), (1, .box [.d (.raw (.bool false)), .d (nsl [])]), (2, .box (zi r1))] (by kernel_rfl) h ?_; clear h; intro a w h
 refine wp_seq ?_
 refine rSeq fam0ok 3 [(2, .len (c := (.d (.sl 3 (t.parts.map Part.d)))) (n := t.parts.length) (lenC_map _ _ _))] [(1, .t (.c (.d (.sl 2 (vs.map ziD))))), (4, vp 1 0), (5, vp 2 0), (12, .t (.c (.d (.sl 3 (t.parts.map Part.d))))), (13, vi .i64 (t.parts.length : Int)), (14, vi .i64 0)] [(1, .box [.d (.raw (.bool false)), .d (nsl [])]), (2, .box (zi r1))] (by kernel_rfl) h ?_; clear h; intro a w h
 refine wp_block ?_
 refine loopS (ι := (Nat) × (ZI)) (fun (z_ : (Nat) × (ZI)) => match z_ with | (j, out) => out = ZI.of (t.k.val + valP vs (t.parts.take j)) ∧ j ≤ t.parts.length)
   (fun (z_ : (Nat) × (ZI)) => match z_ with | (j, out) => [(1, .t (.c (.d (.sl 2 (vs.map ziD))))), (4, vp 1 0), (5, vp 2 0), (12, .t (.c (.d (.sl 3 (t.parts.map Part.d))))), (13, vi .i64 (t.parts.length : Int)), (14, vi .i64 (j : Int))])
   (fun (z_ : (Nat) × (ZI)) => match z_ with | (j, out) => [(1, .box [.d (.raw (.bool false)), .d (nsl [])]), (2, .box (zi out))])
   (fun (z_ : (Nat) × (ZI)) => match z_ with | (j, out) => t.parts.length - j) (0, r1) ?_ h (by kernel_rfl) (by kernel_rfl) ?_
 ·exact ⟨by rw [er1]; simp [valP], Nat.zero_le _⟩
 ·clear h; rintro ⟨j, out⟩ a w hI h
  change St _ (F.of [(1, .t (.c (.d (.sl 2 (vs.map ziD))))), (4, vp 1 0), (5, vp 2 0), (12, .t (.c (.d (.sl 3 (t.parts.map Part.d))))), (13, vi .i64 (t.parts.length : Int)), (14, vi .i64 (j : Int))] [(1, .box [.d (.raw (.bool false)), .d (nsl [])]), (2, .box (zi out))]) a w at h
  obtain ⟨hI1, hI2⟩ := hI
  have ln := ht.len
  have lo : out.abs.length ≤ L + M + 1 := by rw [hI1]; exact val_len ht hn hv (fun p hp => List.mem_of_mem_take hp) (by rw [List.length_take]; omega)
  have ho : Lb out.abs := by rw [hI1]; exact ZI.lb_of _
  have vo : out.val = t.k.val + valP vs (t.parts.take j) := by rw [hI1]; exact ZI.val_of _
  refine rSeq fam0ok 3 [] [(1, .t (.c (.d (.sl 2 (vs.map ziD))))), (4, vp 1 0), (5, vp 2 0), (12, .t (.c (.d (.sl 3 (t.parts.map Part.d))))), (13, vi .i64 (t.parts.length : Int)), (14, vi .i64 (j : Int)), (15, vb (decide ((j : Int) < (t.parts.length : Int))))] [(1, .box [.d (.raw (.bool false)), .d (nsl [])]), (2, .box (zi out))] (by kernel_rfl) h ?_; clear h; intro a w h
  refine wp_seq ?_
  refine condS (decide ((j : Int) < (t.parts.length : Int))) h rfl (fun hc => ?_) (fun hc => ?_)
  ·have hc1 := hc; clear hc
   have hc1' := of_decide_eq_true hc1
   refine wp_skip ?_
   refine then_n ?_
   refine wp_seq ?_
   refine wp_block ?_
   obtain ⟨x2, hx2⟩ : ∃ z_ : Part, t.parts[j]? = some z_ := ⟨_, List.getElem?_eq_getElem (by first | omega | (simp at *; omega))⟩
   obtain ⟨ox2, lx2⟩ := ht.get hx2
   refine rSeq fam0ok 3 [(0, .gen _ _ _ fun _ _ _ _ => Op.idxD (d := 16) (t := 12) (k := .i64) ta_0 (map_at hx2 (f := Part.d)) (OV.tmp 14 _))] [(1, .t (.c (.d (.sl 2 (vs.map ziD))))), (4, vp 1 0), (5, vp 2 0), (7, vp 3 0), (12, .t (.c (.d (.sl 3 (t.parts.map Part.d))))), (13, vi .i64 (t.parts.length : Int)), (14, vi .i64 (j : Int))] [(1, .box [.d (.raw (.bool false)), .d (nsl [])]), (2, .box (zi out)), (3, .box ([.d (.raw (.int .i64 x2.v))] ++ zi x2.c))] (by kernel_rfl) h ?_; clear h; intro a w h
   rcases Bool.eq_false_or_eq_true (decide (x2.v ≥ 0)) with hc | hc
   ·have hc2 := hc; clear hc
    have hc2' := of_decide_eq_true hc2
    refine rSeq fam0ok 4 [(2, .cmp (op := .geq) (m := x2.v) (n := 0) (b := true) .i64 hc2), (7, .len (c := (.d (.sl 2 (vs.map ziD)))) (n := vs.length) (lenC_map _ _ _))] [(1, .t (.c (.d (.sl 2 (vs.map ziD))))), (4, vp 1 0), (5, vp 2 0), (7, vp 3 0), (12, .t (.c (.d (.sl 3 (t.parts.map Part.d))))), (13, vi .i64 (t.parts.length : Int)), (14, vi .i64 (j : Int)), (27, vb (decide (x2.v < (vs.length : Int))))] [(1, .box [.d (.raw (.bool false)), .d (nsl [])]), (2, .box (zi out)), (3, .box ([.d (.raw (.int .i64 x2.v))] ++ zi x2.c))] (by kernel_rfl) h ?_; clear h; intro a w h
    refine condS (decide (x2.v < (vs.length : Int))) h rfl (fun hc => ?_) (fun hc => ?_)
    ·have hc3 := hc; clear hc
     have hc3' := of_decide_eq_true hc3
     obtain ⟨k, hk⟩ : ∃ k : Nat, x2.v = (k : Int) := ⟨_, (Int.toNat_of_nonneg (by omega)).symm⟩
     replace h := h.conv (f' := F.of [(1, .t (.c (.d (.sl 2 (vs.map ziD))))), (4, vp 1 0), (5, vp 2 0), (7, vp 3 0), (12, .t (.c (.d (.sl 3 (t.parts.map Part.d))))), (13, vi .i64 (t.parts.length : Int)), (14, vi .i64 (j : Int)), (27, vb (decide (x2.v < (vs.length : Int))))] [(1, .box [.d (.raw (.bool false)), .d (nsl [])]), (2, .box (zi out)), (3, .box ([.d (.raw (.int .i64 (k : Int)))] ++ zi x2.c))]) (by rw [hk])
     obtain ⟨x3, hx3⟩ : ∃ z_ : ZI, vs[k]? = some z_ := ⟨_, List.getElem?_eq_getElem (by first | omega | (simp at *; omega))⟩
     obtain ⟨ox3, lx3⟩ := hv.get hx3
     obtain ⟨r4, er4, vr4, or4, lr4⟩ := mkZ (v := x2.c.val * x3.val) (m := x2.c.abs.length + x3.abs.length) (len_mul ox2 ox3)
     obtain ⟨r5, er5, vr5, or5, lr5⟩ := mkZ (v := out.val + r4.val) (m := out.abs.length + r4.abs.length + 1) (len_add ho or4)
     refine rS fam0ok 4 [(6, .gen _ _ _ fun _ _ _ _ => Op.idxD (d := 34) (t := 31) (k := .i64) tt_6 (map_at hx3 (f := ziD)) (OV.tmp 33 _)), (8, .call (Fn.cast (SMul x2.c x3 ox2 ox3 (by omega) (by omega)) (congrArg vz er4.symm)) tm_12), (9, .call (Fn.cast (SAdd out r4 ho or4 (by omega) (by omega)) (congrArg vz er5.symm)) tl_9)] [(1, .t (.c (.d (.sl 2 (vs.map ziD))))), (4, vp 1 0), (5, vp 2 0), (12, .t (.c (.d (.sl 3 (t.parts.map Part.d))))), (13, vi .i64 (t.parts.length : Int)), (14, vi .i64 (j : Int))] [(1, .box [.d (.raw (.bool false)), .d (nsl [])]), (2, .box (zi r5))] (by kernel_rfl) h ?_; clear h; intro a w h
     refine block_n ?_
     refine then_n ?_
     refine rS fam0ok 4 [(0, .add .i64 (m := (j : Int)) (n := 1) (i64_id (by omega) (by omega)))] [(1, .t (.c (.d (.sl 2 (vs.map ziD))))), (4, vp 1 0), (5, vp 2 0), (12, .t (.c (.d (.sl 3 (t.parts.map Part.d))))), (13, vi .i64 (t.parts.length : Int)), (14, vi .i64 ((j : Int) + 1))] [(1, .box [.d (.raw (.bool false)), .d (nsl [])]), (2, .box (zi r5))] (by kernel_rfl) h ?_; clear h; intro a w h
     refine then_n ?_
     refine roundS (x := (j, out)) (y := ((j + 1), r5)) h ?_ ?_ (by kernel_rfl) (by kernel_rfl)
     ·have := at_lt hx2
      exact ⟨by rw [er5, vr4, vo, valP_take hx2, valAt_some hk hx3, ← Int.add_assoc], by omega⟩
     ·show t.parts.length - (j + 1) < t.parts.length - j
      have := at_lt hx2; omega
    ·have hc4 := hc; clear hc
     have hc4' := of_decide_eq_false hc4
     refine wp_skip ?_
     refine block_n ?_
     refine then_n ?_
     refine rS fam0ok 4 [(0, .add .i64 (m := (j : Int)) (n := 1) (i64_id (by omega) (by omega)))] [(1, .t (.c (.d (.sl 2 (vs.map ziD))))), (4, vp 1 0), (5, vp 2 0), (12, .t (.c (.d (.sl 3 (t.parts.map Part.d))))), (13, vi .i64 (t.parts.length : Int)), (14, vi .i64 ((j : Int) + 1))] [(1, .box [.d (.raw (.bool false)), .d (nsl [])]), (2, .box (zi out))] (by kernel_rfl) h ?_; clear h; intro a w h
     refine then_n ?_
     refine roundS (x := (j, out)) (y := ((j + 1), out)) h ?_ ?_ (by kernel_rfl) (by kernel_rfl)
     ·have := at_lt hx2
      exact ⟨by rw [hI1, valP_take hx2, valAt_out hc4', Int.mul_zero, Int.add_zero], by omega⟩
     ·show t.parts.length - (j + 1) < t.parts.length - j
      have := at_lt hx2; omega
   ·have hc5 := hc; clear hc
    have hc5' := of_decide_eq_false hc5
    refine rSeq fam0ok 4 [(2, .cmp (op := .geq) (m := x2.v) (n := 0) (b := false) .i64 hc5)] [(1, .t (.c (.d (.sl 2 (vs.map ziD))))), (4, vp 1 0), (5, vp 2 0), (7, vp 3 0), (12, .t (.c (.d (.sl 3 (t.parts.map Part.d))))), (13, vi .i64 (t.parts.length : Int)), (14, vi .i64 (j : Int)), (27, vb false)] [(1, .box [.d (.raw (.bool false)), .d (nsl [])]), (2, .box (zi out)), (3, .box ([.d (.raw (.int .i64 x2.v))] ++ zi x2.c))] (by kernel_rfl) h ?_; clear h; intro a w h
    refine condS false h rfl (fun hc => ?_) (fun hc => ?_)
    ·cases hc
    ·clear hc
     refine wp_skip ?_
     refine block_n ?_
     refine then_n ?_
     refine rS fam0ok 4 [(0, .add .i64 (m := (j : Int)) (n := 1) (i64_id (by omega) (by omega)))] [(1, .t (.c (.d (.sl 2 (vs.map ziD))))), (4, vp 1 0), (5, vp 2 0), (12, .t (.c (.d (.sl 3 (t.parts.map Part.d))))), (13, vi .i64 (t.parts.length : Int)), (14, vi .i64 ((j : Int) + 1))] [(1, .box [.d (.raw (.bool false)), .d (nsl [])]), (2, .box (zi out))] (by kernel_rfl) h ?_; clear h; intro a w h
     refine then_n ?_
     refine roundS (x := (j, out)) (y := ((j + 1), out)) h ?_ ?_ (by kernel_rfl) (by kernel_rfl)
     ·have := at_lt hx2
      exact ⟨by rw [hI1, valP_take hx2, valAt_neg hc5', Int.mul_zero, Int.add_zero], by omega⟩
     ·show t.parts.length - (j + 1) < t.parts.length - j
      have := at_lt hx2; omega
  ·have hc6 := hc; clear hc
   have hc6' := of_decide_eq_false hc6
   refine wp_exit ?_
   refine then_x ?_
   refine then_x ?_
   refine inBlock_exit ?_
   refine then_n ?_
   refine rSeq fam0ok 4 [] [(4, vp 1 0)] [(1, .box (zi out))] (by kernel_rfl) h ?_; clear h; intro a w h
   refine wp_ret ?_
   refine retS [.agg (zi out)] h Exit.ret (.inl rfl)  rfl ⟨RV.agg _ 1 0 _ _ _ _ ia_1 rfl rfl rfl rfl, trivial⟩ ?_ (by kernel_rfl) (by kernel_rfl)
   have hj : j = t.parts.length := by omega
   subst hj
   rw [hI1, List.take_length]; first | done | rfl
end Go.Proofs.YtmohlifepfjmdaaGreat.S
end
section
namespace Go.Proofs.YtmohlifepfjmdaaGreat.S
def allN : Nat → (Nat → Bool) → Bool
  | 0, _ => true
  | n + 1, p => allN n p && p n
theorem allN_iff {p : Nat → Bool} : ∀ {n : Nat}, allN n p = true ↔ ∀ i, i < n → p i = true
 | 0 => by simp [allN]
 | n + 1 => by
  rw [allN, Bool.and_eq_true, allN_iff]
  exact ⟨fun h i hi => (Nat.lt_succ_iff_lt_or_eq.1 hi).elim (h.1 i) fun e => e ▸ h.2, fun h => ⟨fun i hi => h i (by omega), h n (by omega)⟩⟩
theorem allN_step {p : Nat → Bool} {j : Nat} (h : allN j p = true) (hp : p j = true) : allN (j + 1) p = true := by rw [allN, h, hp]; rfl
theorem allN_fail {p : Nat → Bool} {n j : Nat} (hj : j < n) (hp : p j = false) : allN n p = false := by
 cases h : allN n p with
 | false => rfl
 | true => rw [allN_iff.1 h j hj] at hp; cases hp
theorem allN_congr {p q : Nat → Bool} {n : Nat} (h : ∀ i, i < n → p i = q i) : allN n p = allN n q := by
 induction n with
 | zero => rfl
 | succ n ih => rw [allN, allN, ih fun i hi => h i (by omega), h n (by omega)]
def idxB {α : Type} (pr : α → Bool) : List α → Nat → Int
  | [], _ => -1
  | p :: ps, n => if pr p = true then n else idxB pr ps (n + 1)
theorem idxB_at {α : Type} {pr : α → Bool} {xs : List α} {j : Nat} {p : α} (h : xs[j]? = some p) : idxB pr (xs.drop j) j = if pr p = true then (j : Int) else idxB pr (xs.drop (j + 1)) (j + 1) := by
 obtain ⟨hj, rfl⟩ := List.getElem?_eq_some_iff.1 h
 rw [List.drop_eq_getElem_cons hj]; rfl
theorem idxB_cases {α : Type} (pr : α → Bool) : ∀ (xs : List α) (n : Nat), (idxB pr xs n = -1 ∧ ∀ x ∈ xs, pr x = false) ∨ ∃ k x, idxB pr xs n = ((n + k : Nat) : Int) ∧ xs[k]? = some x ∧ pr x = true ∧ ∀ y ∈ xs.take k, pr y = false
 | [], n => .inl ⟨rfl, fun x hx => (by cases hx)⟩
 | p :: ps, n => by
  cases hp : pr p with
  | true => exact .inr ⟨0, p, by simp [idxB, hp], rfl, hp, fun y hy => by simp at hy⟩
  | false =>
   rcases idxB_cases pr ps (n + 1) with ⟨h1, h2⟩ | ⟨k, x, h1, h2, h3, h4⟩
   ·exact .inl ⟨by simp [idxB, hp, h1], fun x hx => (List.mem_cons.1 hx).elim (fun e => e ▸ hp) (h2 x)⟩
   ·exact .inr ⟨k + 1, x, by simp only [idxB, hp, Bool.false_eq_true, if_false, h1]; omega, h2, h3, fun y hy => by rw [List.take_succ_cons] at hy; exact (List.mem_cons.1 hy).elim (fun e => e ▸ hp) (h4 y)⟩
theorem idxB_any {α : Type} (pr : α → Bool) (xs : List α) : decide (idxB pr xs 0 ≥ 0) = xs.any pr := by
 rcases idxB_cases pr xs 0 with ⟨h1, h2⟩ | ⟨k, x, h1, h2, h3, _⟩
 ·rw [h1]
  cases h : xs.any pr with
  | false => rfl
  | true => obtain ⟨x, hx, hp⟩ := List.any_eq_true.1 h; rw [h2 x hx] at hp; cases hp
 ·rw [h1, decide_eq_true (by omega)]
  exact (List.any_eq_true.2 ⟨x, List.mem_of_getElem? h2, h3⟩).symm
theorem idxB_find {α : Type} (pr : α → Bool) (xs : List α) : (idxB pr xs 0 = -1 ∧ xs.find? pr = none) ∨ ∃ (k : Nat) (x : α), idxB pr xs 0 = (k : Int) ∧ xs[k]? = some x ∧ xs.find? pr = some x := by
 rcases idxB_cases pr xs 0 with ⟨h1, h2⟩ | ⟨k, x, h1, h2, h3, h4⟩
 ·exact .inl ⟨h1, by rw [List.find?_eq_none]; intro x hx; rw [h2 x hx]; exact Bool.noConfusion⟩
 ·refine .inr ⟨k, x, by rw [h1, Nat.zero_add], h2, ?_⟩
  obtain ⟨hk, rfl⟩ := List.getElem?_eq_some_iff.1 h2
  have e : xs = xs.take k ++ xs[k] :: xs.drop (k + 1) := by rw [← List.drop_eq_getElem_cons hk, List.take_append_drop]
  have e2 : xs.find? pr = (xs.take k ++ xs[k] :: xs.drop (k + 1)).find? pr := congrArg _ e
  rw [e2, List.find?_append, List.find?_eq_none.2 (fun y hy => by rw [h4 y hy]; exact Bool.noConfusion)]
  rw [List.find?_cons, h3]; rfl
structure RelD where
  t : Term
  eq : Bool
def RelD.d (x : RelD) : List D := [.sl 3 (x.t.parts.map Part.d), .raw (.bool x.t.k.neg), nsl x.t.k.abs, .raw (.bool x.eq)]
inductive FormD where
  | mk (kind : Int) (r : RelD) (kids : List FormD)
def FormD.kind : FormD → Int | ⟨k, _, _⟩ => k
def FormD.r : FormD → RelD | ⟨_, r, _⟩ => r
def FormD.kids : FormD → List FormD | ⟨_, _, ks⟩ => ks
theorem FormD.ind {P : FormD → Prop} (h : ∀ k r ks, (∀ g ∈ ks, P g) → P ⟨k, r, ks⟩) (f : FormD) : P f :=
 FormD.rec (motive_1 := P) (motive_2 := fun ks => ∀ g ∈ ks, P g) h (fun g hg => (by cases hg)) (fun a l ha has g hg => (List.mem_cons.1 hg).elim (fun e => e ▸ ha) (has g)) f
def FormD.fold {α : Type} (g : Int → RelD → List FormD → List α → α) : FormD → α
  | ⟨k, r, ks⟩ => g k r ks (ks.attach.map fun x => FormD.fold g x.1)
  termination_by f => SizeOf.sizeOf f
  decreasing_by have := List.sizeOf_lt_of_mem x.2; simp; omega
theorem FormD.fold_mk {α : Type} (g : Int → RelD → List FormD → List α → α) (k : Int) (r : RelD) (ks : List FormD) : FormD.fold g ⟨k, r, ks⟩ = g k r ks (ks.map (FormD.fold g)) := by
 rw [FormD.fold, List.attach_map_val]
theorem FormD.fold_eq {α : Type} (g : Int → RelD → List FormD → List α → α) (f : FormD) : FormD.fold g f = g f.kind f.r f.kids (f.kids.map (FormD.fold g)) := by cases f; exact FormD.fold_mk g _ _ _
def FormD.d (f : FormD) : List D := f.fold fun k r _ ds => [.raw (.int .i64 k), .sl 3 (r.t.parts.map Part.d), .raw (.bool r.t.k.neg), nsl r.t.k.abs, .raw (.bool r.eq), .sl 6 ds]
theorem FormD.d_eq (f : FormD) : f.d = [.raw (.int .i64 f.kind), .sl 3 (f.r.t.parts.map Part.d), .raw (.bool f.r.t.k.neg), nsl f.r.t.k.abs, .raw (.bool f.r.eq), .sl 6 (f.kids.map FormD.d)] := FormD.fold_eq _ f
theorem FormD.d_len (f : FormD) : f.d.length = 6 := by rw [FormD.d_eq]; rfl
def rawD (x : D) : List D := [x]
structure BoundD where
  is_ : Bool
  lo : ZI
  hi : ZI
def BoundD.d (x : BoundD) : List D := [.raw (.bool x.is_), .raw (.bool x.lo.neg), nsl x.lo.abs, .raw (.bool x.hi.neg), nsl x.hi.abs]
structure MoveD where
  v : Int
  any : Bool
  t : Term
def MoveD.d (x : MoveD) : List D := [.raw (.int .i64 x.v), .raw (.bool x.any), .sl 3 (x.t.parts.map Part.d), .raw (.bool x.t.k.neg), nsl x.t.k.abs]
structure ActD where
  proc : Int
  from_ : Int
  to_ : Int
  guard : FormD
  moves : List MoveD
def ActD.d (x : ActD) : List D := [.raw (.int .i64 x.proc), .raw (.int .i64 x.from_), .raw (.int .i64 x.to_), .raw (.int .i64 x.guard.kind), .sl 3 (x.guard.r.t.parts.map Part.d), .raw (.bool x.guard.r.t.k.neg), nsl x.guard.r.t.k.abs, .raw (.bool x.guard.r.eq), .sl 6 (x.guard.kids.map FormD.d), .sl 5 (x.moves.map MoveD.d)]
structure ProcD where
  name : ByteArray
  locs : List ByteArray
  cmds : D
def ProcD.d (x : ProcD) : List D := [.raw (.string x.name), .sl 1 (x.locs.map strD), x.cmds]
structure SysD where
  vars : List ByteArray
  bounds : List BoundD
  init : FormD
  procs : List ProcD
  acts : List ActD
def SysD.d (x : SysD) : List D := [.sl 1 (x.vars.map strD), .sl 5 (x.bounds.map BoundD.d), .raw (.int .i64 x.init.kind), .sl 3 (x.init.r.t.parts.map Part.d), .raw (.bool x.init.r.t.k.neg), nsl x.init.r.t.k.abs, .raw (.bool x.init.r.eq), .sl 6 (x.init.kids.map FormD.d), .sl 3 (x.procs.map ProcD.d), .sl 10 (x.acts.map ActD.d)]
structure StD where
  locs : List Int
  vals : List ZI
def StD.d (x : StD) : List D := [.sl 1 (x.locs.map intD), .sl 2 (x.vals.map ziD)]
structure RunD where
  stem : List StD
  cycle : List StD
  acts : List Int
structure PropD where
  at_ : Bool
  proc : Int
  loc : Int
  f : FormD
def PropD.d (x : PropD) : List D := [.raw (.bool x.at_), .raw (.int .i64 x.proc), .raw (.int .i64 x.loc), .raw (.int .i64 x.f.kind), .sl 3 (x.f.r.t.parts.map Part.d), .raw (.bool x.f.r.t.k.neg), nsl x.f.r.t.k.abs, .raw (.bool x.f.r.eq), .sl 6 (x.f.kids.map FormD.d)]
structure WordD where
  stem : List (List Bool)
  cycle : List (List Bool)
abbrev sysC (s : SysD) : List C := ([.d (.sl 1 (s.vars.map strD)), .d (.sl 5 (s.bounds.map BoundD.d)), .d (.raw (.int .i64 s.init.kind)), .d (.sl 3 (s.init.r.t.parts.map Part.d))] ++ zi s.init.r.t.k ++ [.d (.raw (.bool s.init.r.eq)), .d (.sl 6 (s.init.kids.map FormD.d)), .d (.sl 3 (s.procs.map ProcD.d)), .d (.sl 10 (s.acts.map ActD.d))])
end Go.Proofs.YtmohlifepfjmdaaGreat.S
end
