/-
  Part 2 of the proof of the statement TermPutValues: the walk through the program and the references lifted to the given row. It holds for every input.
-/
import Derived.Test.YtekhnajfdaknnaaGreatDoorPv1
import Derived.Laws.AppendOwn
import Derived.Great.BuildSlice
import Derived.ProofKit
import Derived.OpenShut
import Derived.ShutString
import Derived.ChangeOld
import Derived.Below
import Derived.Deep.Slices
import Derived.ChangeArms
set_option maxRecDepth 100000
section
namespace Go.Proofs.YtekhnajfdaknnaaGreatDoor.S
open Go.RowKit

/-- a type: its size; is it a struct; its fields; its zero -/
structure Ty where
  n : Nat
  agg : Bool
  fs : List (Nat × Nat × Bool)
  z : List C
  k : Nat
abbrev Tb := List (Nat × Ty)
def ikOf : Nat → Option IntKind
  | 10 => some .i8
  | 11 => some .i16
  | 12 => some .i32
  | 13 => some .i64
  | 14 => some .u8
  | 15 => some .u16
  | 16 => some .u32
  | 17 => some .u64
  | _ => none
structure TyOk (P : Program) (t : TypeId) (y : Ty) : Prop where
  sz : Sz P t y.n y.agg
  fd : ∀ k off n ag, y.fs[k]? = some (off, n, ag) → n ≠ 0 ∧ Fd P t k off n ag
  z : y.z ≠ [] → Zero P t y.z
  pl : y.fs ≠ [] → Places P t (y.fs.map fun f => (f.1, f.2.1))
  k1 : y.k = 1 → ∃ el, P.underlying t = some (.slice el)
  k2 : y.k = 2 → P.underlying t = some .string
  k3 : y.k = 3 → P.underlying t = some .bool
  ki : ∀ k, ikOf y.k = some k → P.underlying t = some (.int k)
def TbOk (P : Program) : Tb → Prop
  | [] => True
  | (t, y) :: tb => TyOk P t y ∧ TbOk P tb
theorem TbOk.get {P : Program} : ∀ {tb : Tb}, TbOk P tb → ∀ {t : Nat} {y : Ty}, tb.lookup t = some y → TyOk P t y
 | (t', y') :: tb, h, t, y, hl => by
  simp only [List.lookup] at hl
  cases hc : (t == t') with
  | true => rw [hc] at hl; simp at hl hc; subst hl hc; exact h.1
  | false => rw [hc] at hl; exact TbOk.get h.2 hl

def FdL (P : Program) (t : TypeId) : Nat → List (Nat × Nat × Bool) → Prop
  | _, [] => True
  | j, (off, n, ag) :: r => (n ≠ 0 ∧ Fd P t j off n ag) ∧ FdL P t (j + 1) r
theorem FdL.get {P : Program} {t : TypeId} : ∀ {fs : List (Nat × Nat × Bool)} {j : Nat}, FdL P t j fs → ∀ k off n ag, fs[k]? = some (off, n, ag) → n ≠ 0 ∧ Fd P t (j + k) off n ag
 | (o, m, g) :: r, j, h, 0, off, n, ag, hk => by simp at hk; obtain ⟨rfl, rfl, rfl⟩ := hk; exact h.1
 | (o, m, g) :: r, j, h, k + 1, off, n, ag, hk => by
  have := FdL.get h.2 k off n ag (by simpa using hk)
  rwa [show j + 1 + k = j + (k + 1) by omega] at this
theorem TyOk.st {P : Program} {t : TypeId} {n : Nat} {fs : List (Nat × Nat × Bool)} {z : List C} {fields : Array Field} (hu : P.underlying t = some (.struct fields)) (hs : (P.info? t).map (·.size) = some n) (hf : FdL P t 0 fs) (hz : Zero P t z) (hp : Places P t (fs.map fun f => (f.1, f.2.1))) : TyOk P t ⟨n, true, fs, z, 0⟩ :=
 ⟨Sz.mk' hs hu _ rfl, fun k off n ag h => (by have := FdL.get hf k off n ag h; rwa [Nat.zero_add] at this), fun _ => hz, fun _ => hp, fun h => (by cases h), fun h => (by cases h), fun h => (by cases h), fun k h => (by cases h)⟩
theorem TyOk.bl {P : Program} {t : TypeId} (hu : P.underlying t = some .bool) (hs : (P.info? t).map (·.size) = some 1) (hz : Zero P t [.d (.raw (.bool false))]) : TyOk P t ⟨1, false, [], [.d (.raw (.bool false))], 3⟩ :=
 ⟨Sz.mk' hs hu _ rfl, fun k off n ag h => (by simp at h), fun _ => hz, fun h => absurd rfl h, fun h => (by cases h), fun h => (by cases h), fun _ => hu, fun k h => (by cases h)⟩
theorem TyOk.str {P : Program} {t : TypeId} {z : C} (hu : P.underlying t = some .string) (hs : (P.info? t).map (·.size) = some 1) (hz : Zero P t [z]) : TyOk P t ⟨1, false, [], [z], 2⟩ :=
 ⟨Sz.mk' hs hu _ rfl, fun k off n ag h => (by simp at h), fun _ => hz, fun h => absurd rfl h, fun h => (by cases h), fun _ => hu, fun h => (by cases h), fun k h => (by cases h)⟩
theorem TyOk.slc {P : Program} {t el : TypeId} {z : C} (hu : P.underlying t = some (.slice el)) (hs : (P.info? t).map (·.size) = some 1) (hz : Zero P t [z]) : TyOk P t ⟨1, false, [], [z], 1⟩ :=
 ⟨Sz.mk' hs hu _ rfl, fun k off n ag h => (by simp at h), fun _ => hz, fun h => absurd rfl h, fun _ => ⟨_, hu⟩, fun h => (by cases h), fun h => (by cases h), fun k h => (by cases h)⟩
theorem TyOk.int {P : Program} {t : TypeId} {k : IntKind} {c : Nat} (hu : P.underlying t = some (.int k)) (hc : ikOf c = some k) (hs : (P.info? t).map (·.size) = some 1) (hz : Zero P t [.d (.raw (.int k 0))]) : TyOk P t ⟨1, false, [], [.d (.raw (.int k 0))], c⟩ :=
 ⟨Sz.mk' hs hu _ rfl, fun k off n ag h => (by simp at h), fun _ => hz, fun h => absurd rfl h, fun h => (by simp only at h; subst h; cases hc), fun h => (by simp only at h; subst h; cases hc), fun h => (by simp only at h; subst h; cases hc), fun j h => (by simp only at h; rw [hc] at h; injection h with h; subst h; exact hu)⟩
theorem nsl_len (zs : List Nat) : lenC (.d (nsl zs)) = some zs.length := by simp [lenC, nsl]
theorem mkZ {v : Int} {m : Nat} (h : (ZI.of v).abs.length ≤ m) : ∃ r : ZI, r = ZI.of v ∧ r.val = v ∧ Lb r.abs ∧ r.abs.length ≤ m := ⟨_, rfl, ZI.val_of v, ZI.lb_of v, h⟩
theorem mkN {v m : Nat} (h : v < pw m) : ∃ r : List Nat, r = lbs v ∧ Go.Proofs.YtekhnajfdaknnaaGreatDoor.val r = v ∧ Lb r ∧ r.length ≤ m := ⟨_, rfl, lbs_val v, (lbs_canon v).1, lbs_len h⟩
theorem u64_id {t : Int} (h1 : 0 ≤ t) (h2 : t ≤ 18446744073709551615) : IntKind.u64.wrap t = t := Go.IntWalk.u64_in t ⟨h1, h2⟩
theorem u32_id {t : Int} (h1 : 0 ≤ t) (h2 : t ≤ 4294967295) : IntKind.u32.wrap t = t := Go.IntWalk.u32_in t ⟨h1, h2⟩
/-- what is told of an operation -/
inductive Orc (P : Program) where
  | call {k : FuncId} {ps qs : List (Nat × L)} {args : List V} {res : V} (h : Fn P k ps args res qs) (b : Bodied P k)
  | add (k : IntKind) {m n : Int} (h : k.wrap (m + n) = m + n)
  | sub (k : IntKind) {m n : Int} (h : k.wrap (m - n) = m - n)
  | mul (k : IntKind) {m n : Int} (h : k.wrap (m * n) = m * n)
  | cmp {op : BinOp} {m n : Int} {b : Bool} (k : IntKind) (h : cmpB op m n = b)
  | cmpb (op : BinOp) {m n b : Bool} (h : (op = .eql ∧ b = (m == n)) ∨ (op = .neq ∧ b = (m != n)))
  | conv (k k' : IntKind) {m : Int} (h : k'.wrap m = m)
  | neg (k : IntKind) {m : Int} (h : k.wrap (-m) = -m)
  | len {c : C} {n : Nat} (h : lenC c = some n)
  | gen (d : Option Nat) (op : Op) (i : I) (h : ∀ ty pos af gd, OpOk P ⟨d, op, ty, pos, af, gd⟩ i)

def eqC : Value → Value → Bool
  | .int k a, .int l b => (k == l) && (a == b)
  | .bool a, .bool b => a == b
  | .string a, .string b => a.data.toList == b.data.toList
  | .slice none a c, .slice none b d => Nat.beq a b && Nat.beq c d
  | _, _ => false
theorem eqC_spec {u v : Value} (h : eqC u v = true) : u = v ∧ flat v = true := by
 cases u <;> cases v <;> first
  | (simp [eqC] at h; done)
  | (rename_i a b; simp [eqC] at h; subst h; exact ⟨rfl, rfl⟩)
  | (rename_i a b; simp only [eqC, beq_iff_eq] at h; cases a; cases b; simp only at h; rename_i x y; cases x; cases y; simp only at h; subst h; exact ⟨rfl, rfl⟩)
  | (rename_i a b c d; simp [eqC] at h; obtain ⟨h1, h2⟩ := h; subst h1 h2; exact ⟨rfl, rfl⟩)
  | (rename_i a b c d e f; cases a <;> cases d <;> first | (simp [eqC] at h; done) | (simp only [eqC, Bool.and_eq_true] at h; rw [Nat.eq_of_beq_eq_true h.1, Nat.eq_of_beq_eq_true h.2]; exact ⟨rfl, rfl⟩))

def opdW (x : Operand) (v : V) : Option (List (Nat × V)) :=
  match x with
  | .tmp t => some [(t, v)]
  | .const c => match v with
    | .t (.c (.d (.raw u))) => if eqC u c = true then some [] else none
    | _ => none
  | .func g => match v with
    | .t (.c (.fn (.func g') [] [])) => if Nat.beq g g' = true then some [] else none
    | _ => none
  | _ => none
theorem opdW_spec {x : Operand} {v : V} {rs : List (Nat × V)} (h : opdW x v = some rs) : OV x v rs := by
 unfold opdW at h
 split at h
 ·injection h with h; subst h; exact .tmp _ _
 ·split at h
  ·split at h
   ·rename_i hc
    injection h with h; subst h
    obtain ⟨rfl, hf⟩ := eqC_spec hc
    exact .const _ hf
   ·cases h
  ·cases h
 ·split at h
  ·split at h
   ·rename_i hc
    injection h with h; subst h
    rw [← Nat.eq_of_beq_eq_true hc]
    exact .func _
   ·cases h
  ·cases h
 ·cases h
def opdWs : List Operand → List V → Option (List (Nat × V))
  | [], [] => some []
  | x :: xs, v :: vs => match opdW x v with
    | some r => match opdWs xs vs with
      | some rs => some (r ++ rs)
      | none => none
    | none => none
  | _, _ => none
theorem opdWs_spec : ∀ {xs : List Operand} {vs : List V} {rs : List (Nat × V)}, opdWs xs vs = some rs → OVs xs vs rs
 | [], [], rs, h => by simp [opdWs] at h; subst h; exact .nil
 | x :: xs, v :: vs, rs, h => by
  simp only [opdWs] at h
  split at h
  ·rename_i r hr
   split at h
   ·rename_i rs' hrs
    injection h with h; subst h
    exact .cons (opdW_spec hr) (opdWs_spec hrs)
   ·cases h
  ·cases h
 | [], _ :: _, rs, h => by simp [opdWs] at h
 | _ :: _, [], rs, h => by simp [opdWs] at h
def opdI (f : F) (x : Operand) : Option (V × List (Nat × V)) :=
  match x with
  | .tmp t => match f.s t with
    | some v => some (v, [(t, v)])
    | none => none
  | .const v => if flat v = true then some (.t (.c (.d (.raw v))), []) else none
  | .func g => some (.t (.c (.fn (.func g) [] [])), [])
  | _ => none
theorem opdI_spec {f : F} {x : Operand} {v : V} {rs : List (Nat × V)} (h : opdI f x = some (v, rs)) : OV x v rs := by
 unfold opdI at h
 split at h
 ·split at h
  ·injection h with h; injection h with h1 h2; subst h1 h2; exact .tmp _ _
  ·cases h
 ·split at h
  ·rename_i hf; injection h with h; injection h with h1 h2; subst h1 h2; exact .const _ hf
  ·cases h
 ·injection h with h; injection h with h1 h2; subst h1 h2; exact .func _
 ·cases h
def opdP (f : F) : List (Nat × Operand) → Option (List (Nat × T) × List (Nat × V))
  | [] => some ([], [])
  | (i, x) :: xs => match opdI f x with
    | some (.t v, r) => match opdP f xs with
      | some (vs, rs) => some ((i, v) :: vs, r ++ rs)
      | none => none
    | _ => none
theorem opdP_spec {f : F} : ∀ {xs : List (Nat × Operand)} {vs : List (Nat × T)} {rs : List (Nat × V)}, opdP f xs = some (vs, rs) → OPs xs vs rs
 | [], vs, rs, h => by simp [opdP] at h; obtain ⟨rfl, rfl⟩ := h; exact .nil
 | (i, x) :: xs, vs, rs, h => by
  simp only [opdP] at h
  split at h
  ·rename_i v r hr
   split at h
   ·rename_i vs' rs' hrs
    injection h with h; injection h with h1 h2; subst h1 h2
    exact .cons (opdI_spec hr) (opdP_spec hrs)
   ·cases h
  ·cases h

theorem Op.fieldAddrE {P : Program} {d t k off m : Nat} {ag : Bool} {xs : List D} {xt ty : TypeId} {pos af gd} (hf : Fd P xt k off m ag) (hm : m ≠ 0) : OpOk P ⟨some d, .fieldAddr xt (.tmp t) k, ty, pos, af, gd⟩ { rs := [(t, .t (.c (.el xs)))], ws := [(d, some (.t (.c (.el (xs.drop off)))))] } :=
 OpOk.value d _ rfl rfl rfl fun e f H B a w hok hr => by
  obtain ⟨b, o, arr, ty', fz, hb, hu, hx⟩ : CR H B (.el xs) (a.eval (.tmp t)) := hok.slot t _ (hr.1 (t, .t (.c (.el xs))) (by simp))
  obtain ⟨fields, fd, g1, g2, rfl, g4⟩ := hf.ex
  refine ⟨.pointer (some ⟨b, o + fd.offset, none⟩), ?_, b, o + fd.offset, arr, ty', fz, hb, rfl, fun j hj => ?_⟩
  ·generalize a.eval = ρ at hu ⊢
   simp only [execOp, hu, Instr.fieldAt, Sem.run_bind, run_underlying g1, Result.andThen_ok, g2, Instr.sureAddr, Sem.run_pure, fieldPlace, g4.sizeOf, hm, if_false, Addr.add_mid]
  ·have hj' : fd.offset + j < xs.length := by rw [List.length_drop] at hj; omega
   obtain ⟨u, h1, h2⟩ := hx (fd.offset + j) hj'
   exact ⟨u, by rw [Nat.add_assoc]; exact h1, by rw [List.getElem_drop]; exact h2⟩
theorem Op.loadE_agg {P : Program} {d t m : Nat} {xs ys : List D} {xt ty : TypeId} {pos af gd} (hs : Sz P xt m true) (h : xs.take m = ys) (hm : ys.length = m) : OpOk P ⟨some d, .load xt (.tmp t), ty, pos, af, gd⟩ { rs := [(t, .t (.c (.el xs)))], ws := [(d, some (.t (.agg (ys.map C.d))))] } :=
 OpOk.value d _ rfl rfl rfl fun e f H B a w hok hr => by
  obtain ⟨b, o, arr, ty', fz, hb, hu, hx⟩ : CR H B (.el xs) (a.eval (.tmp t)) := hok.slot t _ (hr.1 (t, .t (.c (.el xs))) (by simp))
  have hw := hok.sat b _ hb
  have hml : m ≤ xs.length := by rw [← hm, ← h, List.length_take]; omega
  have hfill : ∀ j, j < m → ∃ u, arr.toList[o + j]? = some u ∧ ∃ hj : j < xs.length, DR H xs[j] u := by
   intro j hj
   obtain ⟨u, h1, h2⟩ := hx j (by omega)
   exact ⟨u, by simpa using h1, by omega, h2⟩
  have hlen : ((arr.toList.drop o).take m).length = m := by
   rw [List.length_take, List.length_drop]
   cases m with
   | zero => omega
   | succ m =>
    obtain ⟨u, g1, _⟩ := hfill m (by omega)
    have := (List.getElem?_eq_some_iff.1 g1).1
    omega
  refine ⟨.agg ((arr.toList.drop o).take m).toArray, ?_, ⟨_, rfl, ?_⟩⟩
  ·generalize a.eval = ρ at hu ⊢
   have h8 := run_load_agg (P := P) hs (w := w) (b := b) (o := o) (cs := (arr.toList.drop o).take m) hlen (fun j v hv => by
    refine cell_of (arr := arr.toList) (by rw [hw]) ?_
    rw [List.getElem?_take] at hv
    split at hv
    ·rw [List.getElem?_drop] at hv; exact hv
    ·cases hv)
   simp only [execOp, hu, Instr.loadAt, Instr.sureAddr, Sem.run_bind, Sem.run_pure, Result.andThen_ok, h8]
  ·subst h
   have key : ∀ (n : Nat) (zs : List D) (k : Nat), (∀ j, j < zs.length → ∃ u, arr.toList[o + k + j]? = some u ∧ ∃ hj : j < zs.length, DR H zs[j] u) → n = zs.length → All2 (CR H B) (zs.map C.d) ((arr.toList.drop (o + k)).take n) := by
    intro n zs
    induction zs generalizing n with
    | nil => intro k _ hn; subst hn; simp [All2]
    | cons z zs ih =>
     intro k hz hn
     subst hn
     obtain ⟨u, h1, _, h2⟩ := hz 0 (by simp)
     have hlt : o + k < arr.toList.length := (List.getElem?_eq_some_iff.1 (by simpa using h1)).1
     rw [List.drop_eq_getElem_cons hlt, List.length_cons, List.take_succ_cons]
     refine ⟨?_, ih _ (k + 1) (fun j hj => ?_) rfl⟩
     ·rw [Nat.add_zero, List.getElem?_eq_getElem hlt] at h1
      injection h1 with h1
      rw [h1]; exact h2
     ·obtain ⟨u, h3, hj', h4⟩ := hz (j + 1) (by simp; omega)
      exact ⟨u, by rw [← h3]; congr 1; omega, hj, by simpa using h4⟩
   have hm' : m = (xs.take m).length := hm.symm
   refine key m (xs.take m) 0 (fun j hj => ?_) hm'
   obtain ⟨u, h1, hj', h2⟩ := hfill j (by omega)
   exact ⟨u, h1, hj, by rw [List.getElem_take]; exact h2⟩
theorem Op.loadE_c {P : Program} {d t m : Nat} {xs : List D} {x : D} {xt ty : TypeId} {pos af gd} (hs : Sz P xt m false) (h : xs[0]? = some x) : OpOk P ⟨some d, .load xt (.tmp t), ty, pos, af, gd⟩ { rs := [(t, .t (.c (.el xs)))], ws := [(d, some (.t (.c (.d x))))] } :=
 OpOk.value d _ rfl rfl rfl fun e f H B a w hok hr => by
  obtain ⟨b, o, arr, ty', fz, hb, hu, hx⟩ : CR H B (.el xs) (a.eval (.tmp t)) := hok.slot t _ (hr.1 (t, .t (.c (.el xs))) (by simp))
  obtain ⟨h0, rfl⟩ := List.getElem?_eq_some_iff.1 h
  obtain ⟨u, h1, h2⟩ := hx 0 h0
  refine ⟨u, ?_, h2⟩
  have h8 := run_load_c (P := P) hs (cell_of (arr := arr.toList) (o := o) (v := u) (by rw [hok.sat b _ hb]) (by simpa using h1))
  generalize a.eval = ρ at hu ⊢
  simp only [execOp, hu, Instr.loadAt, Instr.sureAddr, Sem.run_bind, Sem.run_pure, Result.andThen_ok, h8]

def one (d : Nat) (v : V) (rs : List (Nat × V)) : I := { rs := rs, ws := [(d, some v)] }
def instS (tb : Tb) (f : F) (nx : Nat) (o : Oper) : Option (I × Nat) :=
  match o.op, o.dst with
  | .move x, some d => match opdI f x with
    | some (v, rs) => some (one d v rs, nx)
    | none => none
  | .assign x, some d => match opdI f x with
    | some (v, rs) => some (one d v rs, nx)
    | none => none
  | .box _ x, some d => match opdI f x with
    | some (.t v, rs) => some ({ rs := rs, ws := [(d, some (vp nx 0))], wl := [(nx, some (.box (cellsOf v)))], nw := [nx] }, nx + 1)
    | _ => none
  | .alloc t, some d => match tb.lookup t with
    | some y => match y.z with
      | [] => none
      | c :: cs => some ({ ws := [(d, some (vp nx 0))], wl := [(nx, some (.box (c :: cs)))], nw := [nx] }, nx + 1)
    | none => none
  | .fieldAddr t (.tmp x) k, some d => match f.s x, tb.lookup t with
    | some (.t (.c (.ptr n p))), some y => match y.fs[k]? with
      | some (off, _, _) => some ({ rs := [(x, vp n p)], ws := [(d, some (vp n (p + off)))] }, nx)
      | none => none
    | some (.t (.c (.el xs))), some y => match y.fs[k]? with
      | some (off, _, _) => some ({ rs := [(x, .t (.c (.el xs)))], ws := [(d, some (.t (.c (.el (xs.drop off)))))] }, nx)
      | none => none
    | _, _ => none
  | .load t (.tmp x), some d => match f.s x, tb.lookup t with
    | some (.t (.c (.ptr n p))), some y => match f.l n with
      | some (.box cs) => if y.agg = true then (if Nat.beq ((cs.drop p).take y.n).length y.n = true then some ({ rs := [(x, vp n p)], rl := [(n, .box cs)], ws := [(d, some (.t (.agg ((cs.drop p).take y.n))))] }, nx) else none)
        else match cs[p]? with
          | some c => some ({ rs := [(x, vp n p)], rl := [(n, .box cs)], ws := [(d, some (.t (.c c)))] }, nx)
          | none => none
      | _ => none
    | some (.t (.c (.el xs))), some y => if y.agg = true then (if Nat.beq (xs.take y.n).length y.n = true then some ({ rs := [(x, .t (.c (.el xs)))], ws := [(d, some (.t (.agg ((xs.take y.n).map C.d))))] }, nx) else none)
      else match xs[0]? with
        | some c => some ({ rs := [(x, .t (.c (.el xs)))], ws := [(d, some (.t (.c (.d c))))] }, nx)
        | none => none
    | _, _ => none
  | .store t (.tmp x) v, none => match f.s x, tb.lookup t, opdI f v with
    | some (.t (.c (.ptr n p))), some y, some (.t v, rs) => match f.l n with
      | some (.box cs) => if Nat.beq (cellsOf v).length y.n = true then (if Nat.ble (p + y.n) cs.length = true then some ({ rs := (x, vp n p) :: rs, rl := [(n, .box cs)], wl := [(n, some (.box (putL cs p (cellsOf v))))] }, nx) else none) else none
      | _ => none
    | _, _, _ => none
  | .field t (.tmp x) k, some d => match f.s x, tb.lookup t with
    | some (.t (.agg cs)), some y => match y.fs[k]? with
      | some (off, n, true) => some ({ rs := [(x, .t (.agg cs))], ws := [(d, some (.t (.agg ((cs.drop off).take n))))] }, nx)
      | some (off, _, false) => match cs[off]? with
        | some c => some ({ rs := [(x, .t (.agg cs))], ws := [(d, some (.t (.c c)))] }, nx)
        | none => none
      | none => none
    | _, _ => none
  | .extract (.tmp x) k, some d => match f.s x with
    | some (.tup xs) => match xs[k]? with
      | some v => some ({ rs := [(x, .tup xs)], ws := [(d, some (.t v))] }, nx)
      | none => none
    | _ => none
  | .build t ps, some d => match tb.lookup t, opdP f ps.toList with
    | some y, some (vs, rs) => match y.z, y.fs with
      | c :: cs, g :: gs => match fillC ((g :: gs).map fun f => (f.1, f.2.1)) (c :: cs) vs with
        | some out => some ({ rs := rs, ws := [(d, some (.t (.agg out)))] }, nx)
        | none => none
      | _, _ => none
    | _, _ => none
  | .pick (.tmp t) x y, some d => match f.s t with
    | some (.t (.c (.d (.raw (.bool true))))) => match opdI f x with
      | some (v, rs) => some (one d v ((t, vb true) :: rs), nx)
      | none => none
    | some (.t (.c (.d (.raw (.bool false))))) => match opdI f y with
      | some (v, rs) => some (one d v ((t, vb false) :: rs), nx)
      | none => none
    | _ => none
  | .unOp .not _ x, some d => match opdI f x with
    | some (.t (.c (.d (.raw (.bool b)))), rs) => some (one d (vb (!b)) rs, nx)
    | _ => none
  | .binOp op t x y _, some d => if isCmp op = true then (match opdI f x, opdI f y with
    | some (.t (.c (.d (.raw (.int k m)))), rs), some (.t (.c (.d (.raw (.int l n)))), rs') => if (k == l) = true then some (one d (vb (cmpB op m n)) (rs ++ rs'), nx) else none
    | some (.t (.c (.d (.raw (.bool m)))), rs), some (.t (.c (.d (.raw (.bool n)))), rs') => match tb.lookup t with
      | some y => if Nat.beq y.k 3 = true then (match op with
        | .eql => some (one d (vb (m == n)) (rs ++ rs'), nx)
        | .neq => some (one d (vb (m != n)) (rs ++ rs'), nx)
        | _ => none) else none
      | none => none
    | _, _ => none) else none
  | .call { callee := .builtin .len, args := ⟨[.tmp x]⟩, argTypes := ⟨[t]⟩ }, some d => match f.s x, tb.lookup t with
    | some (.t (.c c)), some y => if Nat.beq y.k 1 = true then (match lenC c with
      | some n => some ({ rs := [(x, .t (.c c))], ws := [(d, some (vi .i64 n))] }, nx)
      | none => none) else (match c with
      | .d (.raw (.string s)) => if Nat.beq y.k 2 = true then some ({ rs := [(x, vs s)], ws := [(d, some (vi .i64 s.size))] }, nx) else none
      | _ => none)
    | _, _ => none
  | _, _ => none
def instO {P : Program} (tb : Tb) (o : Oper) : Orc P → Option I
  | .call (k := k) (ps := ps) (qs := qs) (args := args) (res := res) _ _ => match o.op, o.dst with
    | .call { callee := .value (.func k'), args := ⟨xs⟩, .. }, some d => if Nat.beq k' k = true then (match opdWs xs args with
      | some rs => some (callI rs ps qs d res)
      | none => none) else none
    | _, _ => none
  | .add k (m := m) (n := n) _ => match o.op, o.dst with
    | .binOp .add _ x y _, some d => match opdW x (vi k m), opdW y (vi k n) with
      | some rs, some rs' => some (one d (vi k (m + n)) (rs ++ rs'))
      | _, _ => none
    | _, _ => none
  | .sub k (m := m) (n := n) _ => match o.op, o.dst with
    | .binOp .sub _ x y _, some d => match opdW x (vi k m), opdW y (vi k n) with
      | some rs, some rs' => some (one d (vi k (m - n)) (rs ++ rs'))
      | _, _ => none
    | _, _ => none
  | .mul k (m := m) (n := n) _ => match o.op, o.dst with
    | .binOp .mul _ x y _, some d => match opdW x (vi k m), opdW y (vi k n) with
      | some rs, some rs' => some (one d (vi k (m * n)) (rs ++ rs'))
      | _, _ => none
    | _, _ => none
  | .cmp (op := op) (m := m) (n := n) (b := b) k _ => match o.op, o.dst with
    | .binOp op' _ x y _, some d => if (op' == op) && isCmp op = true then (match opdW x (vi k m), opdW y (vi k n) with
      | some rs, some rs' => some (one d (vb b) (rs ++ rs'))
      | _, _ => none) else none
    | _, _ => none
  | .cmpb op (m := m) (n := n) (b := b) _ => match o.op, o.dst with
    | .binOp op' t x y _, some d => match tb.lookup t with
      | some ty => if Nat.beq ty.k 3 = true then (if (op' == op) = true then (match opdW x (vb m), opdW y (vb n) with
        | some rs, some rs' => some (one d (vb b) (rs ++ rs'))
        | _, _ => none) else none) else none
      | none => none
    | _, _ => none
  | .conv k k' (m := m) _ => match o.op, o.dst with
    | .convert s t x, some d => match tb.lookup s, tb.lookup t with
      | some ys, some yt => if (ikOf ys.k == some k) = true then (if (ikOf yt.k == some k') = true then (match opdW x (vi k m) with
        | some rs => some (one d (vi k' m) rs)
        | none => none) else none) else none
      | _, _ => none
    | _, _ => none
  | .neg k (m := m) _ => match o.op, o.dst with
    | .unOp .neg _ x, some d => match opdW x (vi k m) with
      | some rs => some (one d (vi k (-m)) rs)
      | none => none
    | _, _ => none
  | .len (c := c) (n := n) _ => match o.op, o.dst with
    | .call { callee := .builtin .len, args := ⟨[.tmp x]⟩, argTypes := ⟨[t]⟩ }, some d => match tb.lookup t with
      | some y => if Nat.beq y.k 1 = true then some (one d (vi .i64 n) [(x, .t (.c c))]) else none
      | none => none
    | _, _ => none
  | .gen _ _ i _ => some i
section
variable {P : Program}
theorem instS_ok {tb : Tb} (htb : TbOk P tb) {f : F} {nx : Nat} {o : Oper} {i : I} {nx' : Nat} (h : instS tb f nx o = some (i, nx')) : OpOk P o i := by
 obtain ⟨dst, op, ty, pos, af, gd⟩ := o
 unfold instS at h
 dsimp only at h
 split at h
 ·split at h
  ·rename_i hx; injection h with h; injection h with h1 h2; subst h1; exact Op.move (opdI_spec hx)
  ·cases h
 ·split at h
  ·rename_i hx; injection h with h; injection h with h1 h2; subst h1; exact Op.assign (opdI_spec hx)
  ·cases h
 ·split at h
  ·rename_i hx; injection h with h; injection h with h1 h2; subst h1; exact Op.box (opdI_spec hx) _ rfl
  ·cases h
 ·split at h
  ·rename_i y hy
   split at h
   ·cases h
   ·rename_i c cs hz
    injection h with h; injection h with h1 h2; subst h1
    have := (htb.get hy).z (by rw [hz]; simp)
    rw [hz] at this
    exact Op.allocZ this
  ·cases h
 ·split at h
  ·rename_i n p y hx hy
   split at h
   ·rename_i off m ag hf
    injection h with h; injection h with h1 h2; subst h1
    obtain ⟨h3, h4⟩ := (htb.get hy).fd _ _ _ _ hf
    exact Op.fieldAddr h4 h3 _ rfl
   ·cases h
  ·rename_i xs y hx hy
   split at h
   ·rename_i off m ag hf
    injection h with h; injection h with h1 h2; subst h1
    obtain ⟨h3, h4⟩ := (htb.get hy).fd _ _ _ _ hf
    exact Op.fieldAddrE h4 h3
   ·cases h
  ·cases h
 ·split at h
  ·rename_i n p y hx hy
   split at h
   ·rename_i cs hl
    split at h
    ·rename_i hag
     split at h
     ·rename_i hb
      injection h with h; injection h with h1 h2; subst h1
      have := (htb.get hy).sz
      rw [hag] at this
      exact Op.load_agg this rfl (Nat.eq_of_beq_eq_true hb)
     ·cases h
    ·rename_i hag
     split at h
     ·rename_i c hc
      injection h with h; injection h with h1 h2; subst h1
      have := (htb.get hy).sz
      rw [show y.agg = false by simpa using hag] at this
      exact Op.load_c this hc
     ·cases h
   ·cases h
  ·rename_i xs y hx hy
   split at h
   ·rename_i hag
    split at h
    ·rename_i hb
     injection h with h; injection h with h1 h2; subst h1
     have := (htb.get hy).sz
     rw [hag] at this
     exact Op.loadE_agg this rfl (Nat.eq_of_beq_eq_true hb)
    ·cases h
   ·rename_i hag
    split at h
    ·rename_i c hc
     injection h with h; injection h with h1 h2; subst h1
     have := (htb.get hy).sz
     rw [show y.agg = false by simpa using hag] at this
     exact Op.loadE_c this hc
    ·cases h
  ·cases h
 ·split at h
  ·rename_i n p y v rs hx hy hv
   split at h
   ·rename_i cs hl
    split at h
    ·rename_i hb
     split at h
     ·rename_i hle
      injection h with h; injection h with h1 h2; subst h1
      exact Op.store (htb.get hy).sz (opdI_spec hv) (Nat.eq_of_beq_eq_true hb) hle rfl
     ·cases h
    ·cases h
   ·cases h
  ·cases h
 ·split at h
  ·rename_i cs y hx hy
   split at h
   ·rename_i off n hf
    injection h with h; injection h with h1 h2; subst h1
    exact Op.field_agg ((htb.get hy).fd _ _ _ _ hf).2 rfl
   ·rename_i off n hf
    split at h
    ·rename_i c hc
     injection h with h; injection h with h1 h2; subst h1
     exact Op.field_c ((htb.get hy).fd _ _ _ _ hf).2 hc
    ·cases h
   ·cases h
  ·cases h
 ·split at h
  ·rename_i xs hx
   split at h
   ·rename_i v hv
    injection h with h; injection h with h1 h2; subst h1
    exact Op.extract hv
   ·cases h
  ·cases h
 ·split at h
  ·rename_i ps d y vs rs hy hp
   split at h
   ·rename_i c cs g gs hz hf
    split at h
    ·rename_i out ho
     injection h with h; injection h with h1 h2; subst h1
     have h3 := (htb.get hy).z (by rw [hz]; simp)
     have h4 := (htb.get hy).pl (by rw [hf]; simp)
     rw [hz] at h3
     rw [hf] at h4
     exact Op.build h3 h4 (opdP_spec hp) out ho
    ·cases h
   ·cases h
  ·cases h
 ·split at h
  ·split at h
   ·rename_i v rs hx
    injection h with h; injection h with h1 h2; subst h1
    exact Op.pickT (opdI_spec hx)
   ·cases h
  ·split at h
   ·rename_i v rs hx
    injection h with h; injection h with h1 h2; subst h1
    exact Op.pickF (opdI_spec hx)
   ·cases h
  ·cases h
 ·split at h
  ·rename_i b rs hx
   injection h with h; injection h with h1 h2; subst h1
   exact Op.not (opdI_spec hx)
  ·cases h
 ·split at h
  ·rename_i hc
   split at h
   ·rename_i k m rs l n rs' hx hy
    split at h
    ·rename_i hkl
     injection h with h; injection h with h1 h2; subst h1
     obtain rfl : k = l := by simpa using hkl
     exact Op.cmp (opdI_spec hx) (opdI_spec hy) hc rfl
    ·cases h
   ·rename_i m rs n rs' hx hy
    split at h
    ·rename_i y ht
     split at h
     ·rename_i hk
      have hu := (htb.get ht).k3 (Nat.eq_of_beq_eq_true hk)
      split at h
      ·injection h with h; injection h with h1 h2; subst h1
       exact Op.cmpb hu (opdI_spec hx) (opdI_spec hy) (.inl ⟨rfl, rfl⟩)
      ·injection h with h; injection h with h1 h2; subst h1
       exact Op.cmpb hu (opdI_spec hx) (opdI_spec hy) (.inr ⟨rfl, rfl⟩)
      ·cases h
     ·cases h
    ·cases h
   ·cases h
  ·cases h
 ·split at h
  ·rename_i c y hx hy
   split at h
   ·rename_i hk
    split at h
    ·rename_i n hn
     injection h with h; injection h with h1 h2; subst h1
     obtain ⟨el, hu⟩ := (htb.get hy).k1 (Nat.eq_of_beq_eq_true hk)
     exact Op.len hu (OV.tmp _ _) hn
    ·cases h
   ·split at h
    ·split at h
     ·rename_i hk2
      injection h with h; injection h with h1 h2; subst h1
      exact Op.lens ((htb.get hy).k2 (Nat.eq_of_beq_eq_true hk2)) (OV.tmp _ _)
     ·cases h
    ·cases h
  ·cases h
 ·cases h
theorem instO_ok {tb : Tb} (htb : TbOk P tb) {o : Oper} {c : Orc P} {i : I} (h : instO tb o c = some i) (hg : ∀ d op i' hh, c = .gen d op i' hh → o.dst = d ∧ o.op = op) : OpOk P o i := by
 obtain ⟨dst, op, ty, pos, af, gd⟩ := o
 cases c with
 | call hf b =>
  simp only [instO] at h
  split at h
  ·split at h
   ·rename_i hk
    split at h
    ·rename_i rs hr
     injection h with h; subst h
     rw [Nat.eq_of_beq_eq_true hk]
     exact Op.call hf b (opdWs_spec hr)
    ·cases h
   ·cases h
  ·cases h
 | add k hr =>
  simp only [instO] at h
  split at h
  ·split at h
   ·rename_i h1 h2
    injection h with h; subst h
    exact Op.arith (opdW_spec h1) (opdW_spec h2) (.inl ⟨rfl, rfl⟩) hr
   ·cases h
  ·cases h
 | sub k hr =>
  simp only [instO] at h
  split at h
  ·split at h
   ·rename_i h1 h2
    injection h with h; subst h
    exact Op.arith (opdW_spec h1) (opdW_spec h2) (.inr (.inl ⟨rfl, rfl⟩)) hr
   ·cases h
  ·cases h
 | mul k hr =>
  simp only [instO] at h
  split at h
  ·split at h
   ·rename_i h1 h2
    injection h with h; subst h
    exact Op.arith (opdW_spec h1) (opdW_spec h2) (.inr (.inr ⟨rfl, rfl⟩)) hr
   ·cases h
  ·cases h
 | cmp k hb =>
  simp only [instO] at h
  split at h
  ·split at h
   ·rename_i hc
    simp only [Bool.and_eq_true] at hc
    split at h
    ·rename_i h1 h2
     injection h with h; subst h
     obtain rfl := eq_of_beq hc.1
     exact Op.cmp (opdW_spec h1) (opdW_spec h2) (by simpa using hc.2) hb
    ·cases h
   ·cases h
  ·cases h
 | cmpb op hb =>
  simp only [instO] at h
  split at h
  ·split at h
   ·rename_i ty hty
    split at h
    ·rename_i hk
     split at h
     ·rename_i hop
      split at h
      ·rename_i h1 h2
       injection h with h; subst h
       have hu := (htb.get hty).k3 (Nat.eq_of_beq_eq_true hk)
       have hop := eq_of_beq hop
       subst hop
       exact Op.cmpb hu (opdW_spec h1) (opdW_spec h2) hb
      ·cases h
     ·cases h
    ·cases h
   ·cases h
  ·cases h
 | conv k k' hr =>
  simp only [instO] at h
  split at h
  ·split at h
   ·rename_i ys yt hs ht
    split at h
    ·rename_i hk
     split at h
     ·rename_i hk'
      split at h
      ·rename_i h1
       injection h with h; subst h
       exact Op.conv ((htb.get ht).ki k' (by simpa using hk')) ((htb.get hs).ki k (by simpa using hk)) (opdW_spec h1) hr
      ·cases h
     ·cases h
    ·cases h
   ·cases h
  ·cases h
 | neg k hr =>
  simp only [instO] at h
  split at h
  ·split at h
   ·rename_i h1
    injection h with h; subst h
    exact Op.neg (opdW_spec h1) rfl hr
   ·cases h
  ·cases h
 | len hn =>
  simp only [instO] at h
  split at h
  ·split at h
   ·rename_i y hy
    split at h
    ·rename_i hk
     injection h with h; subst h
     obtain ⟨el, hu⟩ := (htb.get hy).k1 (Nat.eq_of_beq_eq_true hk)
     exact Op.len hu (OV.tmp _ _) hn
    ·cases h
   ·cases h
  ·cases h
 | gen d op' i' hh =>
  simp only [instO] at h
  injection h with h; subst h
  obtain ⟨h1, h2⟩ := hg d op' i' hh rfl
  simp only at h1 h2
  subst h1 h2
  exact hh ty pos af gd

def run1 (tb : Tb) (ops : Array Oper) (f : F) (nx : Nat) (o : Oper) (c : Option (Orc P)) : Option (I × Nat) :=
  let go : Option (I × Nat) := match c with
    | some c => match instO tb o c with
      | some i => some (i, nx)
      | none => none
    | none => instS tb f nx o
  match o.guard with
  | none => go
  | some (g, b) => match (ops[g]?).bind (·.dst) with
    | none => none
    | some d => match f.s d with
      | some (.t (.c (.d (.raw (.bool c))))) => if (c == b) = true then (match go with
          | some (i, n) => some (i.also d (gv c), n)
          | none => none)
        else some ({ rs := [(d, gv c)], ws := o.dst.toList.map fun t => (t, some (.tup [])) }, nx)
      | some (.tup []) => some ({ rs := [(d, .tup [])], ws := o.dst.toList.map fun t => (t, some (.tup [])) }, nx)
      | _ => none
theorem run1_ok {tb : Tb} (htb : TbOk P tb) {ops : Array Oper} {f : F} {nx : Nat} {o : Oper} {c : Option (Orc P)} {i : I} {nx' : Nat} (h : run1 tb ops f nx o c = some (i, nx')) (hg : ∀ d op i' hh, c = some (.gen d op i' hh) → o.dst = d ∧ o.op = op) : Does P ops o i := by
 have hgo : ∀ j m, (match c with
  | some c => match instO tb o c with
   | some i => some (i, nx)
   | none => none
  | none => instS tb f nx o) = some (j, m) → OpOk P o j := by
  intro j m hj
  cases c with
  | none => exact instS_ok htb hj
  | some c =>
   simp only at hj
   split at hj
   ·rename_i i' hi
    injection hj with hj; injection hj with h1 h2; subst h1
    exact instO_ok htb hi fun d op i2 hh e => hg d op i2 hh (by rw [e])
   ·cases hj
 unfold run1 at h
 dsimp only at h
 split at h
 ·rename_i hgd
  exact .run hgd (hgo _ _ h)
 ·rename_i g b hgd
  split at h
  ·cases h
  ·rename_i d hd
   split at h
   ·rename_i c' hc'
    split at h
    ·rename_i hcb
     obtain rfl : c' = b := by simpa using hcb
     split at h
     ·rename_i i' n' hi
      injection h with h; injection h with h1 h2; subst h1
      exact .runG g c' d hgd hd (by simp [I.also]) (hgo _ _ hi).also
     ·cases h
    ·rename_i hcb
     injection h with h; injection h with h1 h2; subst h1
     have : c' = !b := by cases c' <;> cases b <;> simp at hcb ⊢
     subst this
     exact .skip g b d hgd hd (by simp) rfl rfl rfl
   ·injection h with h; injection h with h1 h2; subst h1
    exact .skip2 g b d hgd hd (by simp) rfl rfl rfl
   ·cases h
def insts (tb : Tb) (ops : Array Oper) : F → Nat → Nat → List Oper → List (Nat × Orc P) → Option (List I)
  | _, _, _, [], _ => some []
  | f, nx, j, o :: os, cs => match run1 tb ops f nx o (cs.lookup j) with
    | some (i, nx') => match insts tb ops (f.app i) nx' (j + 1) os cs with
      | some is => some (i :: is)
      | none => none
    | none => none
def gens (os : List Oper) : List (Nat × Orc P) → List ((Option Nat × Op) × (Option Nat × Op))
  | [] => []
  | (j, .gen d op _ _) :: cs => ((((os[j]?).map (·.dst)).getD none, ((os[j]?).map (·.op)).getD default), (d, op)) :: gens os cs
  | _ :: cs => gens os cs
theorem gens_mem {os : List Oper} {d : Option Nat} {op : Op} {i : I} {h : ∀ ty pos af gd, OpOk P ⟨d, op, ty, pos, af, gd⟩ i} : ∀ {cs : List (Nat × Orc P)} {j : Nat}, (j, Orc.gen d op i h) ∈ cs → ((((os[j]?).map (·.dst)).getD none, ((os[j]?).map (·.op)).getD default), (d, op)) ∈ gens os cs
 | (j', c) :: cs, j, hm => by
  rcases List.mem_cons.1 hm with e | hm
  ·injection e with e1 e2
   subst e1 e2
   simp [gens]
  ·have := gens_mem (os := os) hm
   cases c <;> simp only [gens] <;> first | exact this | exact List.mem_cons_of_mem _ this
theorem insts_ok {tb : Tb} (htb : TbOk P tb) {ops : Array Oper} {cs : List (Nat × Orc P)} (hg : (gens ops.toList cs).map (·.1) = (gens ops.toList cs).map (·.2)) :
  ∀ (os : List Oper) (f : F) (nx j : Nat) (is : List I), ops.toList.drop j = os → insts tb ops f nx j os cs = some is → AllDo P ops os is
 | [], f, nx, j, is, _, h => by simp [insts] at h; subst h; trivial
 | o :: os, f, nx, j, is, hd, h => by
  simp only [insts] at h
  split at h
  ·rename_i i nx' h1
   split at h
   ·rename_i is' h2
    injection h with h; subst h
    have ho : ops.toList[j]? = some o := by
     have := congrArg (fun l => l[0]?) hd
     simpa using this
    refine ⟨run1_ok htb h1 ?_, insts_ok htb hg os _ _ (j + 1) is' ?_ h2⟩
    ·intro d op i' hh hc
     have hm := gens_mem (os := ops.toList) (lookup_mem hc)
     have := map_eq_mem hg _ hm
     rw [ho] at this
     simp at this
     exact this
    ·have : List.drop 1 (ops.toList.drop j) = os := by rw [hd]; rfl
     rw [List.drop_drop] at this
     simpa using this
   ·cases h
  ·cases h
/-- all that is checked of a statement -/
structure Seen where
  ok : Bool
  s : List (Option V)
  n : List (Option L)
  s' : List (Option V)
  n' : List (Option L)
end
section
variable {Q : Exit → Act → World → Prop} {w0 : World} {H0 : Im} {B0 : Bl} {K : List Nat} {N : Nat}
theorem rS {tb : Tb} (htb : TbOk Tryz.prog tb) {id : Nat} {draw : Bool} {ops : Array Oper} {a : Act} {w : World} {sl : List (Nat × V)} {lc : List (Nat × L)} (nx : Nat) (cs : List (Nat × Orc Tryz.prog)) (sl' : List (Nat × V)) (lc' : List (Nat × L))
  (hc : ((gens ops.toList cs).map (·.1), (insts tb ops (F.of sl lc) nx 0 ops.toList cs).isSome, (insts tb ops (F.of sl lc) nx 0 ops.toList cs).map fun is => Seen.mk (chk draw ops.toList is N K sl lc) (runS (F.of sl lc) is) (runN (F.of sl lc) is) (leS (runF (F.of sl lc) is) sl') (leN (runF (F.of sl lc) is) lc')) =
   ((gens ops.toList cs).map (·.2), true, (insts tb ops (F.of sl lc) nx 0 ops.toList cs).map fun is => Seen.mk true (wantS is) (wantN is) (sl'.map fun p => some p.2) (lc'.map fun p => some p.2)))
  (h : St ⟨w0, H0, B0, K, N⟩ (F.of sl lc) a w) (hQ : ∀ a w, St ⟨w0, H0, B0, K, N⟩ (F.of sl' lc') a w → Q .normal a w) : (Code.region id ops draw).wp Tryz.prog Q a w := by
 simp only [Prod.mk.injEq] at hc
 obtain ⟨hg, hs, hm⟩ := hc
 cases hi : insts tb ops (F.of sl lc) nx 0 ops.toList cs with
 | none => rw [hi] at hs; cases hs
 | some is =>
  rw [hi] at hm
  simp only [Option.map_some, Option.some.injEq, Seen.mk.injEq] at hm
  exact region is sl' lc' mixed (insts_ok htb hg _ _ _ _ _ rfl hi) hm.1 hm.2.1 hm.2.2.1 hm.2.2.2.1 hm.2.2.2.2 h hQ
theorem rSeq {tb : Tb} (htb : TbOk Tryz.prog tb) {id : Nat} {draw : Bool} {ops : Array Oper} {y : Code} {a : Act} {w : World} {sl : List (Nat × V)} {lc : List (Nat × L)} (nx : Nat) (cs : List (Nat × Orc Tryz.prog)) (sl' : List (Nat × V)) (lc' : List (Nat × L))
  (hc : ((gens ops.toList cs).map (·.1), (insts tb ops (F.of sl lc) nx 0 ops.toList cs).isSome, (insts tb ops (F.of sl lc) nx 0 ops.toList cs).map fun is => Seen.mk (chk draw ops.toList is N K sl lc) (runS (F.of sl lc) is) (runN (F.of sl lc) is) (leS (runF (F.of sl lc) is) sl') (leN (runF (F.of sl lc) is) lc')) =
   ((gens ops.toList cs).map (·.2), true, (insts tb ops (F.of sl lc) nx 0 ops.toList cs).map fun is => Seen.mk true (wantS is) (wantN is) (sl'.map fun p => some p.2) (lc'.map fun p => some p.2)))
  (h : St ⟨w0, H0, B0, K, N⟩ (F.of sl lc) a w) (hQ : ∀ a w, St ⟨w0, H0, B0, K, N⟩ (F.of sl' lc') a w → y.wp Tryz.prog Q a w) : (Code.seq (Code.region id ops draw) y).wp Tryz.prog Q a w :=
 wp_seq (rS htb nx cs sl' lc' hc h hQ)
end
end Go.Proofs.YtekhnajfdaknnaaGreatDoor.S
end
section
namespace Go.Proofs.YtekhnajfdaknnaaGreatDoor.S
open Go.RowKit

/-- a slice type, its elements' type and size -/
structure SlT (P : Program) (t el : TypeId) (es : Nat) : Prop where
  hu : P.underlying t = some (.slice el)
  hs : (P.info? el).map (·.size) = some es
theorem SlT.mk' {P : Program} {t el : TypeId} {es : Nat} (hu : P.underlying t = some (.slice el)) (hs : (P.info? el).map (·.size) = some es) : SlT P t el es := ⟨hu, hs⟩
theorem size_run {P : Program} {t : TypeId} {n : Nat} (h : (P.info? t).map (·.size) = some n) (w : World) : (Go.sizeOf t).run P w = .ok n w := by
 cases hi : P.info? t with
 | none => rw [hi] at h; cases h
 | some i =>
  rw [hi] at h
  injection h with h
  have e1 : (typeInfo t).run P w = .ok i w := by unfold typeInfo; simp only [Sem.run_bind, run_program, Result.andThen_ok, hi]; rfl
  unfold Go.sizeOf
  simp [e1, h, go_sem]

theorem run_indexAt {P : Program} {t el : TypeId} {es : Nat} (h : SlT P t el es) {b o n c i : Nat} {k : IntKind} (hi : i < n) (w : World) :
  (Instr.indexAt t (.slice (some ⟨b, o, none⟩) n c) (.int k i)).run P w = .ok (.pointer (some ⟨b, o + i * es, none⟩)) w := by
 have h1 : (0 : Int) ≤ i ∧ (i : Int) < n := ⟨by omega, by omega⟩
 unfold Instr.indexAt
 simp only [asIntOf, Sem.run_bind, Sem.run_pure, Result.andThen_ok, run_underlying h.hu, h1, and_self, if_true, size_run h.hs, Int.toNat_natCast, Addr.add_mid]

section
variable {P : Program}
theorem Op.idxD {d t : Nat} {y : Operand} {es i : Nat} {rows : List (List D)} {r : List D} {k : IntKind} {rs : List (Nat × V)} {xt el ty : TypeId} {pos af gd} (hs : SlT P xt el es) (hr : rows[i]? = some r) (hy : OV y (vi k i) rs) :
  OpOk P ⟨some d, .indexAddr xt (.tmp t) y, ty, pos, af, gd⟩ { rs := (t, .t (.c (.d (.sl es rows)))) :: rs, ws := [(d, some (.t (.c (.el r))))] } :=
 OpOk.value d _ rfl rfl rfl fun e f H B a w hok hr2 => by
  have h1 := hok.slot t _ (hr2.1 (t, .t (.c (.d (.sl es rows)))) (by simp))
  have h2 : a.eval y = .int k i := (hy.eval hok fun p hp => hr2.1 p (by simp [hp])).rawI
  obtain ⟨hi, rfl⟩ := List.getElem?_eq_some_iff.1 hr
  have h3 : DR H (.sl es rows) (a.eval (.tmp t)) := h1
  generalize hv0 : a.eval (.tmp t) = v at h3
  cases h3 with
  | nil ao c => simp at hi
  | sl _ _ b o c arr ty' fz vs hp hb hl hc hes hv hx =>
   refine ⟨.pointer (some ⟨b, o + i * es, none⟩), ?_, b, o + i * es, arr, ty', fz, hb, rfl, fun j hj => ⟨vs i j, hv i hi j (by rw [← hes i hi]; exact hj), hx i hi j hj⟩⟩
   have h5 : a.eval (.tmp t) = .slice (some ⟨b, o, none⟩) rows.length c := hv0
   generalize a.eval = ρ at h5 h2 ⊢
   simp only [execOp, h5, h2, Sem.run_bind, run_indexAt hs hi, Result.andThen_ok, Sem.run_pure]
end

theorem All2.iff {α β : Type} {R : α → β → Prop} : ∀ {xs : List α} {ys : List β}, All2 R xs ys ↔ xs.length = ys.length ∧ ∀ (j : Nat) a b, xs[j]? = some a → ys[j]? = some b → R a b
 | [], [] => ⟨fun _ => ⟨rfl, fun j a b h => by simp at h⟩, fun _ => trivial⟩
 | x :: xs, y :: ys => by
  constructor
  ·intro h
   obtain ⟨h1, h2⟩ := All2.iff.1 h.2
   refine ⟨by simp [h1], fun j a b ha hb => ?_⟩
   cases j with
   | zero => simp at ha hb; subst ha hb; exact h.1
   | succ j => exact h2 j a b (by simpa using ha) (by simpa using hb)
  ·rintro ⟨h1, h2⟩
   exact ⟨h2 0 x y rfl rfl, All2.iff.2 ⟨by simpa using h1, fun j a b ha hb => h2 (j + 1) a b (by simpa using ha) (by simpa using hb)⟩⟩
 | [], _ :: _ => ⟨fun h => h.elim, fun h => by simp at h⟩
 | _ :: _, [] => ⟨fun h => h.elim, fun h => by simp at h⟩
theorem flat_at {α : Type} {es : Nat} : ∀ {rows : List (List α)} (_ : ∀ r ∈ rows, r.length = es) (i f : Nat), f < es → rows.flatten[i * es + f]? = (rows[i]?).bind (·[f]?)
 | [], _, i, f, _ => by simp
 | r :: rows, h, 0, f, hf => by
  have : r.length = es := h r (by simp)
  simp only [List.flatten_cons, Nat.zero_mul, Nat.zero_add, List.getElem?_cons_zero, Option.bind_some]
  rw [List.getElem?_append_left (by omega)]
 | r :: rows, h, i + 1, f, hf => by
  have : r.length = es := h r (by simp)
  simp only [List.flatten_cons, List.getElem?_cons_succ]
  rw [List.getElem?_append_right (by rw [this, Nat.add_mul]; omega), ← flat_at (fun r hr => h r (by simp [hr])) i f hf]
  congr 1
  rw [this, Nat.add_mul]; omega
theorem flat_len {α : Type} {es : Nat} : ∀ {rows : List (List α)} (_ : ∀ r ∈ rows, r.length = es), rows.flatten.length = rows.length * es
 | [], _ => by simp
 | r :: rows, h => by
  rw [List.flatten_cons, List.length_append, flat_len fun r hr => h r (by simp [hr]), h r (by simp), List.length_cons, Nat.add_mul]; omega
def RowAt (H : Im) (arr : List Value) (es : Nat) (rows : List (List D)) : Prop := ∀ (i : Nat) r, rows[i]? = some r → ∀ (f : Nat) x, r[f]? = some x → ∃ u, arr[i * es + f]? = some u ∧ DR H x u
theorem rowAt_iff {H : Im} {arr : List Value} {es c : Nat} {rows : List (List D)} (h1 : arr.length = c * es) (h2 : rows.length ≤ c) (h3 : ∀ r ∈ rows, r.length = es) :
  All2 (DR H) rows.flatten (arr.take (rows.length * es)) ↔ RowAt H arr es rows := by
 have hle : rows.length * es ≤ c * es := Nat.mul_le_mul_right _ h2
 rw [All2.iff]
 constructor
 ·rintro ⟨_, hR⟩ i r hr f x hx
  have hf : f < es := by rw [← h3 r (List.mem_of_getElem? hr)]; exact (List.getElem?_eq_some_iff.1 hx).1
  have hi : i < rows.length := (List.getElem?_eq_some_iff.1 hr).1
  have hlt : i * es + f < rows.length * es := by
   have : (i + 1) * es ≤ rows.length * es := Nat.mul_le_mul_right _ hi
   rw [Nat.add_mul] at this; omega
  have e1 : rows.flatten[i * es + f]? = some x := by rw [flat_at h3 i f hf, hr]; exact hx
  have e2 : arr[i * es + f]? = some (arr[i * es + f]'(by omega)) := List.getElem?_eq_getElem _
  refine ⟨_, e2, hR _ _ _ e1 ?_⟩
  rw [List.getElem?_take, if_pos hlt, e2]
 ·intro hR
  refine ⟨by rw [flat_len h3, List.length_take]; omega, fun j x u hx hu => ?_⟩
  have hj : j < rows.length * es := by rw [← flat_len h3]; exact (List.getElem?_eq_some_iff.1 hx).1
  have he : 0 < es := Nat.pos_of_ne_zero fun e => by simp [e] at hj
  have hjj : j = j / es * es + j % es := by rw [Nat.mul_comm]; exact (Nat.div_add_mod j es).symm
  rw [hjj, flat_at h3 _ _ (Nat.mod_lt _ he)] at hx
  cases hr : rows[j / es]? with
  | none => rw [hr] at hx; cases hx
  | some r =>
   rw [hr] at hx
   obtain ⟨v, h4, h5⟩ := hR _ r hr _ x hx
   rw [← hjj] at h4
   rw [List.getElem?_take, if_pos hj, h4] at hu
   injection hu with hu
   rwa [← hu]
theorem putL_get {α : Type} : ∀ (r l : List α) (o j : Nat), o + r.length ≤ l.length → (putL l o r)[j]? = if o ≤ j ∧ j < o + r.length then r[j - o]? else l[j]?
 | [], l, o, j, _ => by simp [putL]; intros; omega
 | v :: r, l, o, j, h => by
  simp only [List.length_cons] at h
  rw [putL, putL_get r (l.set o v) (o + 1) j (by simp; omega)]
  by_cases h1 : j = o
  ·subst h1
   have : ¬ (j + 1 ≤ j ∧ j < j + 1 + r.length) := by omega
   rw [if_neg this, if_pos ⟨Nat.le_refl _, by simp⟩, Nat.sub_self, List.getElem?_set_self (by omega)]
   rfl
  ·by_cases h2 : o + 1 ≤ j ∧ j < o + 1 + r.length
   ·rw [if_pos h2, if_pos (by simp; omega), show j - o = (j - (o + 1)) + 1 by omega, List.getElem?_cons_succ]
   ·rw [if_neg h2, if_neg (by simp; omega), List.getElem?_set_ne (by omega)]

section
variable {P : Program}
theorem Op.idxO {d t n len i es : Nat} {y : Operand} {k : IntKind} {rs : List (Nat × V)} {xt el ty : TypeId} {pos af gd} (hs : SlT P xt el es) (hi : i < len) (hy : OV y (vi k i) rs) :
  OpOk P ⟨some d, .indexAddr xt (.tmp t) y, ty, pos, af, gd⟩ { rs := (t, .t (.c (.own n len))) :: rs, ws := [(d, some (vp n (i * es)))] } :=
 OpOk.value d _ rfl rfl rfl fun e f H B a w hok hr2 => by
  have h1 := hok.slot t _ (hr2.1 (t, .t (.c (.own n len))) (by simp))
  have h2 : a.eval y = .int k i := (hy.eval hok fun p hp => hr2.1 p (by simp [hp])).rawI
  simp only [VR, TR, CR] at h1
  cases hB : B n with
  | none => rw [hB] at h1; have := h1.1; omega
  | some p =>
   obtain ⟨b, c⟩ := p
   rw [hB] at h1
   refine ⟨.pointer (some ⟨b, i * es, none⟩), ?_, b, c, hB, rfl⟩
   have h5 : a.eval (.tmp t) = .slice (some ⟨b, 0, none⟩) len c := h1
   generalize a.eval = ρ at h5 h2 ⊢
   simp only [execOp, h5, h2, Sem.run_bind, run_indexAt hs hi, Result.andThen_ok, Sem.run_pure, Nat.zero_add]

theorem Ok.row {e : E} {f : F} {H : Im} {B : Bl} {a : Act} {w : World} (h : Ok e f H B a w) {n : Nat} {ty : TypeId} {es : Nat} {rows : List (List D)} (hl : f.l n = some (.row ty es rows)) {b c : Nat} (hB : B n = some (b, c)) :
  ∃ arr : List Value, w.heap[b]? = some (.cells ⟨arr⟩ ty (0, 0)) ∧ arr.length = c * es ∧ rows.length ≤ c ∧ c ≤ maxLen ∧ (∀ r ∈ rows, r.length = es) ∧ RowAt H arr es rows := by
 have h1 := h.loc n _ hl
 simp only [LR, hB] at h1
 obtain ⟨arr, h1, h2, h3, h4, h5, h6⟩ := h1
 exact ⟨arr, h1, h2, h3, h4, h5, (rowAt_iff h2 h3 h5).1 h6⟩
theorem Op.loadR_agg {d t n o i fo m es : Nat} {rows : List (List D)} {r xs : List D} {rty xt ty : TypeId} {pos af gd} (hs : Sz P xt m true) (ho : o = i * es + fo) (hr : rows[i]? = some r) (hx : (r.drop fo).take m = xs) (hm : xs.length = m) :
  OpOk P ⟨some d, .load xt (.tmp t), ty, pos, af, gd⟩ { rs := [(t, vp n o)], rl := [(n, .row rty es rows)], ws := [(d, some (.t (.agg (xs.map C.d))))] } :=
 OpOk.value d _ rfl rfl rfl fun e f H B a w hok hr2 => by
  obtain ⟨b, c, hb, hu⟩ := (hok.slot t _ (hr2.1 (t, vp n o) (by simp))).ptrI
  obtain ⟨arr, h1, h2, h3, h4, h5, h6⟩ := hok.row (hr2.2 (n, .row rty es rows) (by simp)) hb
  have hfill : ∀ j (hj : j < m), ∃ u, arr[o + j]? = some u ∧ DR H (xs[j]'(by omega)) u := by
   intro j hj
   have : r[fo + j]? = some (xs[j]'(by omega)) := by
    rw [← List.getElem?_eq_getElem, ← hx, List.getElem?_take, if_pos hj, List.getElem?_drop]
   obtain ⟨u, g1, g2⟩ := h6 i r hr (fo + j) _ this
   exact ⟨u, by rw [ho, Nat.add_assoc]; exact g1, g2⟩
  have hlen : ((arr.drop o).take m).length = m := by
   rw [List.length_take, List.length_drop]
   cases m with
   | zero => omega
   | succ m =>
    obtain ⟨u, g1, _⟩ := hfill m (by omega)
    have := (List.getElem?_eq_some_iff.1 g1).1
    omega
  refine ⟨.agg ((arr.drop o).take m).toArray, ?_, ⟨_, rfl, ?_⟩⟩
  ·have h7 : a.eval (.tmp t) = .pointer (some ⟨b, o, none⟩) := hu
   generalize a.eval = ρ at h7 ⊢
   have h8 := run_load_agg (P := P) hs (w := w) (b := b) (o := o) (cs := (arr.drop o).take m) hlen (fun j v hv => by
    refine cell_of h1 ?_
    rw [List.getElem?_take] at hv
    split at hv
    ·rw [List.getElem?_drop] at hv; exact hv
    ·cases hv)
   simp only [execOp, h7, Instr.loadAt, Instr.sureAddr, Sem.run_bind, Sem.run_pure, Result.andThen_ok, h8]
  ·refine All2.iff.2 ⟨by simp [hlen, hm], fun j x u hx2 hu2 => ?_⟩
   rw [List.getElem?_map] at hx2
   cases hj : xs[j]? with
   | none => rw [hj] at hx2; cases hx2
   | some y =>
    rw [hj] at hx2
    injection hx2 with hx2
    subst hx2
    obtain ⟨hjl, hjy⟩ := List.getElem?_eq_some_iff.1 hj
    obtain ⟨u', g1, g2⟩ := hfill j (by omega)
    rw [List.getElem?_take, if_pos (by omega), List.getElem?_drop, g1] at hu2
    injection hu2 with hu2
    subst hu2
    rw [← hjy]
    exact g2
theorem Op.loadR_c {d t n o i fo m es : Nat} {rows : List (List D)} {r : List D} {x : D} {rty xt ty : TypeId} {pos af gd} (hs : Sz P xt m false) (ho : o = i * es + fo) (hr : rows[i]? = some r) (hx : r[fo]? = some x) :
  OpOk P ⟨some d, .load xt (.tmp t), ty, pos, af, gd⟩ { rs := [(t, vp n o)], rl := [(n, .row rty es rows)], ws := [(d, some (.t (.c (.d x))))] } :=
 OpOk.value d _ rfl rfl rfl fun e f H B a w hok hr2 => by
  obtain ⟨b, c, hb, hu⟩ := (hok.slot t _ (hr2.1 (t, vp n o) (by simp))).ptrI
  obtain ⟨arr, h1, h2, h3, h4, h5, h6⟩ := hok.row (hr2.2 (n, .row rty es rows) (by simp)) hb
  obtain ⟨u, g1, g2⟩ := h6 i r hr fo x hx
  rw [← ho] at g1
  refine ⟨u, ?_, g2⟩
  have h7 : a.eval (.tmp t) = .pointer (some ⟨b, o, none⟩) := hu
  generalize a.eval = ρ at h7 ⊢
  have h8 := run_load_c (P := P) hs (cell_of h1 g1)
  simp only [execOp, h7, Instr.loadAt, Instr.sureAddr, Sem.run_bind, Sem.run_pure, Result.andThen_ok, h8]
theorem Op.storeR {t n o i fo m es : Nat} {ag : Bool} {rows rows' : List (List D)} {r ds : List D} {x : Operand} {v : T} {rs : List (Nat × V)} {rty xt ty : TypeId} {pos af gd} (hs : Sz P xt m ag) (h : OV x (.t v) rs) (hv : cellsOf v = ds.map C.d) (hm : ds.length = m)
  (ho : o = i * es + fo) (hr : rows[i]? = some r) (hf : fo + m ≤ r.length) (hn : rows.set i (putL r fo ds) = rows') :
  OpOk P ⟨none, .store xt (.tmp t) x, ty, pos, af, gd⟩ { rs := (t, vp n o) :: rs, rl := [(n, .row rty es rows)], wl := [(n, some (.row rty es rows'))] } := by
 rintro e f a w Q ⟨H, B, hok⟩ hr2 hnw hb0
 obtain ⟨b, c, hb, hu⟩ := (hok.slot t _ (hr2.1 (t, vp n o) (by simp))).ptrI
 have hfl := hr2.2 (n, .row rty es rows) (by simp)
 obtain ⟨arr, hcl, h2, h3, h4, h5, h6⟩ := hok.row hfl hb
 have hev := h.eval hok (fun p hp => hr2.1 p (by simp [hp]))
 obtain ⟨l, g3, g4⟩ := TR.cells hev
 rw [hv] at g4
 have hll : l.length = m := by rw [← g4.length, List.length_map, hm]
 have hre : r.length = es := h5 r (List.mem_of_getElem? hr)
 have hi : i < rows.length := (List.getElem?_eq_some_iff.1 hr).1
 have hie : (i + 1) * es ≤ c * es := Nat.mul_le_mul_right _ (by omega)
 rw [Nat.add_mul] at hie
 have ho' : o + m ≤ arr.length := by rw [h2, ho]; omega
 have hrun : (storeVar xt ⟨b, o, none⟩ (a.eval x)).run P w = .ok () (w.setCells b o l) := by
  have hst := run_storeCells_cells (P := P) b o l 0 w (fun j hj => by
    rw [cell_of hcl (o := o + 0 + j) (v := arr[o + 0 + j]'(by omega)) (List.getElem?_eq_getElem _)]; rfl) (fun j hj => by simp [World.frozen?, hcl]) (fun v hv => by
    obtain ⟨i, hi, rfl⟩ := List.getElem_of_mem hv
    obtain ⟨y, hy, hR⟩ := g4.get i (by rw [g4.length]; exact hi)
    rw [List.getElem?_eq_getElem hi] at hy
    injection hy with hy
    rw [hy]
    exact flat_one (CR.flat hR))
  unfold storeVar
  simp only [Sem.run_bind, hs.sizeOf, Result.andThen_ok, g3, hll, List.size_toArray, ne_eq, not_true_eq_false, if_false]
  simpa using hst
 obtain ⟨k1, k2, k3, k4, k5, k6⟩ := setCells_heap l o w arr hcl
 have hg : a.eval (.tmp t) = .pointer (some ⟨b, o, none⟩) := hu
 unfold Oper.wp
 have hexec : (execOp a.eval ⟨none, .store xt (.tmp t) x, ty, pos, af, gd⟩).run P w = .ok .skip (w.setCells b o l) := by
  generalize hq : a.eval x = q at hrun
  generalize a.eval = ρ at hg hq ⊢
  simp only [execOp, hg, hq, Instr.storeAt, Instr.sureAddr, Sem.run_bind, Sem.run_pure, Result.andThen_ok, hrun]
 rw [hexec, Oper.upon_skip]
 subst hn
 have hrows : ∀ r' ∈ rows.set i (putL r fo ds), r'.length = es := by
  intro r' hr'
  rcases List.mem_or_eq_of_mem_set hr' with h' | rfl
  ·exact h5 r' h'
  ·rw [putL_length]; exact hre
 have hlr : LR H B (w.setCells b o l) n (.row rty es (rows.set i (putL r fo ds))) := by
  simp only [LR, hb]
  refine ⟨putL arr o l, k1, by rw [putL_length]; exact h2, by simpa using h3, h4, hrows, ?_⟩
  refine (rowAt_iff (by rw [putL_length]; exact h2) (by simpa using h3) hrows).2 ?_
  intro i' r' hr' f' x' hx'
  rw [putL_get l arr o _ (by omega)]
  have hf' : f' < es := by rw [← hrows r' (List.mem_of_getElem? hr')]; exact (List.getElem?_eq_some_iff.1 hx').1
  by_cases hii : i' = i
  ·subst hii
   rw [List.getElem?_set_self hi] at hr'
   injection hr' with hr'
   subst hr'
   rw [putL_get ds r fo _ (by omega)] at hx'
   by_cases hin : fo ≤ f' ∧ f' < fo + ds.length
   ·rw [if_pos hin] at hx'
    rw [if_pos (by rw [hll, ho]; omega)]
    have e1 : i' * es + f' - o = f' - fo := by rw [ho]; omega
    rw [e1]
    have hlt : f' - fo < l.length := by omega
    refine ⟨_, List.getElem?_eq_getElem hlt, ?_⟩
    have := (All2.iff.1 g4).2 (f' - fo) (.d x') (l[f' - fo]'hlt) (by rw [List.getElem?_map, hx']; rfl) (List.getElem?_eq_getElem hlt)
    exact this
   ·rw [if_neg hin] at hx'
    rw [if_neg (by rw [hll, ho]; omega)]
    exact h6 i' r hr f' x' hx'
  ·rw [List.getElem?_set_ne (Ne.symm hii)] at hr'
   have hout : ¬ (o ≤ i' * es + f' ∧ i' * es + f' < o + l.length) := by
    rw [hll, ho]
    rcases Nat.lt_or_gt_of_ne hii with hlt | hgt
    ·have : (i' + 1) * es ≤ i * es := Nat.mul_le_mul_right _ hlt
     rw [Nat.add_mul] at this
     omega
    ·have : (i + 1) * es ≤ i' * es := Nat.mul_le_mul_right _ hgt
     rw [Nat.add_mul] at this
     omega
   rw [if_neg hout]
   exact h6 i' r' hr' f' x' hx'
 exact St.put0 ⟨H, B, hok.write (g := ⟨f.s, fun m => if m = n then some (.row rty es (rows.set i (putL r fo ds))) else f.l m⟩) (l' := .row rty es (rows.set i (putL r fo ds))) hfl hb (fun _ => rfl) (fun _ => rfl) k2 k3 k4 k5 k6 hlr⟩ rfl (app0_s _ _ rfl) (fun m => app1_l f n _ _ rfl m)
end

/-! own rows let go: from here on they stay -/
def C.pub (n es : Nat) (rows : List (List D)) : C → C
  | .own m k => if Nat.beq m n then .d (.sl es rows) else .own m k
  | .ptr m o => if Nat.beq m n then .any else .ptr m o
  | .sub m o k => if Nat.beq m n then .any else .sub m o k
  | c => c
def T.pub (n es : Nat) (rows : List (List D)) : T → T
  | .c x => .c (x.pub n es rows)
  | .agg cs => .agg (cs.map (C.pub n es rows))
def V.pub (n es : Nat) (rows : List (List D)) : V → V
  | .t x => .t (x.pub n es rows)
  | .tup xs => .tup (xs.map (T.pub n es rows))
def L.pub (n es : Nat) (rows : List (List D)) : L → L
  | .box cs => .box (cs.map (C.pub n es rows))
  | .row ty k r => .row ty k r
  | .bld ty c => .bld ty (c.pub n es rows)
def C.owns (n : Nat) : C → List Nat
  | .own m k => if Nat.beq m n then [k] else []
  | _ => []
def T.owns (n : Nat) : T → List Nat
  | .c x => x.owns n
  | .agg cs => cs.flatMap (C.owns n)
def V.owns (n : Nat) : V → List Nat
  | .t x => x.owns n
  | .tup xs => xs.flatMap (T.owns n)
def L.owns (n : Nat) : L → List Nat
  | .box cs => cs.flatMap (C.owns n)
  | .row _ _ _ => []
  | .bld _ c => c.owns n
def AllEq (m : Nat) : List Nat → Prop
  | [] => True
  | k :: ks => k = m ∧ AllEq m ks
theorem AllEq.mem {m : Nat} : ∀ {ks : List Nat}, AllEq m ks → ∀ k ∈ ks, k = m
 | k :: ks, h, x, hx => by
  rcases List.mem_cons.1 hx with rfl | hx
  ·exact h.1
  ·exact AllEq.mem h.2 x hx
theorem row_data {H : Im} {es b c : Nat} {arr : List Value} {ty : TypeId} {rows : List (List D)} (hb : H b = some (.cells ⟨arr⟩ ty (0, 0))) (h3 : rows.length ≤ c) (h4 : c ≤ maxLen) (h5 : ∀ r ∈ rows, r.length = es) (h6 : RowAt H arr es rows) :
  DR H (.sl es rows) (.slice (some ⟨b, 0, none⟩) rows.length c) := by
 cases hr : rows with
 | nil => exact .nil es _ c (fun h => by cases h) h4
 | cons r0 rs0 =>
  rw [← hr]
  refine .sl es rows b 0 c ⟨arr⟩ ty (0, 0) (fun i j => (arr[i * es + j]?).getD undef) (by rw [hr]; simp) hb h3 h4 (fun i hi => h5 _ (List.getElem_mem hi)) ?_ ?_
  ·intro i hi j hj
   have hj' : j < (rows[i]'hi).length := by rw [h5 _ (List.getElem_mem hi)]; exact hj
   obtain ⟨u, g1, _⟩ := h6 i _ (List.getElem?_eq_getElem hi) j _ (List.getElem?_eq_getElem hj')
   simp [g1]
  ·intro i hi j hj
   obtain ⟨u, g1, g2⟩ := h6 i _ (List.getElem?_eq_getElem hi) j _ (List.getElem?_eq_getElem hj)
   simp only [g1, Option.getD_some]
   exact g2
def F.pub (f : F) (n es : Nat) (rows : List (List D)) : F :=
  ⟨fun t => (f.s t).map (V.pub n es rows), fun m => if Nat.beq m n then none else (f.l m).map (L.pub n es rows)⟩

theorem St.pub {w0 : World} {H0 : Im} {B0 : Bl} {N : Nat} {f : F} {a : Act} {w : World} (h : St ⟨w0, H0, B0, [], N⟩ f a w) (n es : Nat) (ty : TypeId) (rows : List (List D)) (hl : f.l n = some (.row ty es rows))
  (h1 : ∀ t v, f.s t = some v → ∀ k ∈ v.owns n, k = rows.length) (h2 : ∀ m l, f.l m = some l → ∀ k ∈ l.owns n, k = rows.length) : St ⟨w0, H0, B0, [], N⟩ (f.pub n es rows) a w := by
 obtain ⟨H, B, hok⟩ := h
 have hLR := hok.loc n _ hl
 -- what stays from here on
 obtain ⟨H', hle, hH', hcell⟩ : ∃ H' : Im, Le H H' ∧ (∀ b o, H' b = some o → H b = some o ∨ (w.heap[b]? = some o ∧ ∃ c, B n = some (b, c))) ∧
   (∀ (x : C) (v : Value), (∀ k ∈ x.owns n, k = rows.length) → CR H B x v → CR H' B (x.pub n es rows) v) := by
  have keepC : ∀ {H' : Im} (hle : Le H H'), (∀ v, CR H B (.own n rows.length) v → DR H' (.sl es rows) v) → ∀ (x : C) (v : Value), (∀ k ∈ x.owns n, k = rows.length) → CR H B x v → CR H' B (x.pub n es rows) v := by
   intro H' hle hown x v hk hx
   cases x with
   | own m k =>
    simp only [C.pub]
    split
    ·rename_i e1
     have e1 := Nat.eq_of_beq_eq_true e1
     subst e1
     have := hk k (by simp [C.owns])
     subst this
     exact hown v hx
    ·exact CR.mono hle (fun _ _ => rfl) hx
   | ptr m o =>
    simp only [C.pub]
    split
    ·exact CR.flat hx
    ·exact CR.mono hle (fun _ _ => rfl) hx
   | sub m o k =>
    simp only [C.pub]
    split
    ·exact CR.flat hx
    ·exact CR.mono hle (fun _ _ => rfl) hx
   | d x => exact CR.mono hle (fun _ _ => rfl) hx
   | el x => exact CR.mono hle (fun _ _ => rfl) hx
   | fn f' x y => exact CR.mono hle (fun _ _ => rfl) hx
   | any => exact hx
  cases hB : B n with
  | none =>
   simp only [LR, hB] at hLR
   subst hLR
   refine ⟨H, Le.refl _, fun b o h => .inl h, keepC (Le.refl _) fun v hv => ?_⟩
   simp only [CR, hB] at hv
   obtain ⟨_, ao, hv⟩ := hv
   rw [hv]
   exact .nil es ao 0 (fun _ => rfl) (Nat.zero_le _)
  | some p =>
   obtain ⟨b, c⟩ := p
   obtain ⟨arr, g1, g2, g3, g4, g5, g6⟩ := hok.row hl hB
   have hnone := (hok.priv n _ b c hl hB).2.1
   have hle : Le H (fun x => if x = b then some (.cells ⟨arr⟩ ty (0, 0)) else H x) := by
    intro x o hx
    have : x ≠ b := fun e => by rw [e, hnone] at hx; cases hx
    simp [this, hx]
   refine ⟨fun x => if x = b then some (.cells ⟨arr⟩ ty (0, 0)) else H x, hle, ?_, keepC hle fun v hv => ?_⟩
   ·intro x o hx
    by_cases e : x = b
    ·subst e
     simp only [if_true] at hx
     exact .inr ⟨by rw [g1]; exact hx, c, rfl⟩
    ·simp [e] at hx; exact .inl hx
   ·simp only [CR, hB] at hv
    rw [hv]
    exact row_data (arr := arr) (ty := ty) (if_pos rfl) g3 g4 g5 fun i r hr f' x hx => by
     obtain ⟨u, k1, k2⟩ := g6 i r hr f' x hx
     exact ⟨u, k1, k2.mono hle⟩
 have hT : ∀ (x : T) (v : Value), (∀ k ∈ x.owns n, k = rows.length) → TR H B x v → TR H' B (x.pub n es rows) v := by
  intro x v hk hx
  cases x with
  | c x => exact hcell x v hk hx
  | agg cs =>
   obtain ⟨vs, hv, hx⟩ := hx
   refine ⟨vs, hv, All2.iff.2 ⟨by rw [List.length_map]; exact hx.length, fun j a' b' ha hb => ?_⟩⟩
   rw [List.getElem?_map] at ha
   cases hj : cs[j]? with
   | none => rw [hj] at ha; cases ha
   | some y =>
    rw [hj] at ha
    injection ha with ha
    subst ha
    exact hcell y b' (fun k hk2 => hk k (by simp only [T.owns, List.mem_flatMap]; exact ⟨y, List.mem_of_getElem? hj, hk2⟩)) ((All2.iff.1 hx).2 j y b' hj hb)
 refine ⟨H', B, hok.df, hok.n, hok.ext, ?_, ?_, ?_, ?_, ?_, ?_, hok.le.trans hle, hok.keep⟩
 ·intro b o hb
  rcases hH' b o hb with h' | ⟨h', _⟩
  ·exact hok.sat b o h'
  ·exact h'
 ·intro t v hv
  simp only [F.pub, Option.map_eq_some_iff] at hv
  obtain ⟨x, hx, rfl⟩ := hv
  have hR := hok.slot t x hx
  have hk := h1 t x hx
  cases x with
  | t x => exact hT x _ hk hR
  | tup xs =>
   obtain ⟨vs, hv, hx2⟩ := hR
   refine ⟨vs, hv, All2.iff.2 ⟨by rw [List.length_map]; exact hx2.length, fun j a' b' ha hb => ?_⟩⟩
   rw [List.getElem?_map] at ha
   cases hj : xs[j]? with
   | none => rw [hj] at ha; cases ha
   | some y =>
    rw [hj] at ha
    injection ha with ha
    subst ha
    exact hT y b' (fun k hk2 => hk k (by simp only [V.owns, List.mem_flatMap]; exact ⟨y, List.mem_of_getElem? hj, hk2⟩)) ((All2.iff.1 hx2).2 j y b' hj hb)
 ·intro m l hm
  simp only [F.pub] at hm
  split at hm
  ·cases hm
  ·simp only [Option.map_eq_some_iff] at hm
   obtain ⟨x, hx, rfl⟩ := hm
   have hR := hok.loc m x hx
   have hk := h2 m x hx
   cases x with
   | box cs =>
    obtain ⟨b, c, arr, ty', hb, hc, hx2⟩ := hR
    refine ⟨b, c, arr, ty', hb, hc, All2.iff.2 ⟨by rw [List.length_map]; exact hx2.length, fun j a' b' ha hb => ?_⟩⟩
    rw [List.getElem?_map] at ha
    cases hj : cs[j]? with
    | none => rw [hj] at ha; cases ha
    | some y =>
     rw [hj] at ha
     injection ha with ha
     subst ha
     exact hcell y b' (fun k hk2 => hk k (by simp only [L.owns, List.mem_flatMap]; exact ⟨y, List.mem_of_getElem? hj, hk2⟩)) ((All2.iff.1 hx2).2 j y b' hj hb)
   | row ty' es' rows' => exact LR.mono hle rfl (fun _ _ => rfl) (fun _ _ _ => rfl) hR
   | bld ty' c' =>
    obtain ⟨b, k, v1, v2, hb, hc, g1, g0, g2⟩ := hR
    exact ⟨b, k, v1, v2, hb, hc, g1, g0, hcell c' v2 (fun k hk2 => hk k hk2) g2⟩
 ·intro m l b c hm hb
  simp only [F.pub] at hm
  split at hm
  ·cases hm
  ·rename_i hne
   simp only [Option.map_eq_some_iff] at hm
   obtain ⟨x, hx, rfl⟩ := hm
   obtain ⟨p1, p2, p3⟩ := hok.priv m x b c hx hb
   refine ⟨p1, ?_, p3⟩
   cases hq : H' b with
   | none => rfl
   | some o =>
    rcases hH' b o hq with h' | ⟨_, c', h'⟩
    ·rw [p2] at h'; cases h'
    ·have := hok.inj m n x _ b c c' hx hl hb h'
     subst this
     simp at hne
 ·intro m k l l' b c c' hm hk hb hb'
  simp only [F.pub] at hm hk
  split at hm
  ·cases hm
  ·split at hk
   ·cases hk
   ·simp only [Option.map_eq_some_iff] at hm hk
    obtain ⟨x, hx, _⟩ := hm
    obtain ⟨y, hy, _⟩ := hk
    exact hok.inj m k x y b c c' hx hy hb hb'
 ·intro b hb
  cases hq : H' b with
  | none =>
   rw [← hok.low b hb]
   cases hr : H b with
   | none => rfl
   | some o => rw [hle b o hr] at hq; cases hq
  | some o =>
   rcases hH' b o hq with h' | ⟨_, c', h'⟩
   ·rw [← hok.low b hb, h']
   ·rcases (hok.priv n _ b c' hl h').2.2 with ⟨m, hm, _⟩ | h3
    ·cases hm
    ·exact absurd hb (by simpa using h3)
end Go.Proofs.YtekhnajfdaknnaaGreatDoor.S
end
section
namespace Go.Proofs.YtekhnajfdaknnaaGreatDoor.S
open Go.RowKit

/-! another name -/
def A.ren (n m : Nat) : A → A
  | .d x => .d x
  | .ptr k o => .ptr (if Nat.beq k n then m else k) o
def C.ren (n m : Nat) : C → C
  | .own k l => .own (if Nat.beq k n then m else k) l
  | .ptr k o => .ptr (if Nat.beq k n then m else k) o
  | .sub k o l => .sub (if Nat.beq k n then m else k) o l
  | .fn f fs cs => .fn f (fs.map (A.ren n m)) (cs.map (A.ren n m))
  | c => c
def T.ren (n m : Nat) : T → T
  | .c x => .c (x.ren n m)
  | .agg cs => .agg (cs.map (C.ren n m))
def V.ren (n m : Nat) : V → V
  | .t x => .t (x.ren n m)
  | .tup xs => .tup (xs.map (T.ren n m))
def L.ren (n m : Nat) : L → L
  | .box cs => .box (cs.map (C.ren n m))
  | .row ty k r => .row ty k r
  | .bld ty c => .bld ty (c.ren n m)
def F.ren (f : F) (n m : Nat) : F :=
  ⟨fun t => (f.s t).map (V.ren n m), fun x => if Nat.beq x m then (f.l n).map (L.ren n m) else if Nat.beq x n then none else (f.l x).map (L.ren n m)⟩
theorem All2.mapL {α β γ : Type} {R : α → β → Prop} {R' : γ → β → Prop} (g : α → γ) : ∀ {xs : List α} {ys : List β}, All2 R xs ys → (∀ a ∈ xs, ∀ b, R a b → R' (g a) b) → All2 R' (xs.map g) ys
 | [], [], _, _ => trivial
 | _ :: _, _ :: _, h, k => ⟨k _ (by simp) _ h.1, h.2.mapL g fun a ha b => k a (by simp [ha]) b⟩
 | [], _ :: _, h, _ => h.elim
 | _ :: _, [], h, _ => h.elim
section
variable {H : Im} {B : Bl} {n m : Nat}
def swB (B : Bl) (n m : Nat) : Bl := fun x => if x = m then B n else B x
theorem swB_at (k : Nat) (hk : k ≠ m) : swB B n m (if Nat.beq k n then m else k) = B k := by
 by_cases e : k = n
 ·subst e; simp [swB]
 ·have : Nat.beq k n = false := by
   cases h : Nat.beq k n with
   | false => rfl
   | true => exact absurd (Nat.eq_of_beq_eq_true h) e
  simp [this, swB, hk]
theorem AR.ren {x : A} {v : Value} (hm : m ∉ x.tags) (h : AR H B x v) : AR H (swB B n m) (x.ren n m) v := by
 cases x with
 | d x => exact h
 | ptr k o => obtain ⟨b, c, hb, hv⟩ := h; exact ⟨b, c, (swB_at k (fun e => hm (by simp [A.tags, e]))).trans hb, hv⟩
theorem CR.ren {x : C} {v : Value} (hm : m ∉ x.tags) (h : CR H B x v) : CR H (swB B n m) (x.ren n m) v := by
 cases x with
 | ptr k o => obtain ⟨b, c, hb, hv⟩ := h; exact ⟨b, c, (swB_at k (fun e => hm (by simp [C.tags, e]))).trans hb, hv⟩
 | sub k o l => exact ⟨h.1, fun hl => let ⟨b, c, j, h1, h2⟩ := h.2 hl; ⟨b, c, j, (swB_at k (fun e => hm (by simp [C.tags, e]))).trans h1, h2⟩⟩
 | own k l => simp only [CR, C.ren] at h ⊢; rw [swB_at k (fun e => hm (by simp [C.tags, e]))]; exact h
 | fn f fs cs =>
  obtain ⟨vs, ws, hv, h1, h2⟩ := h
  simp only [C.tags, List.mem_append, List.mem_flatMap, not_or, not_exists, not_and] at hm
  exact ⟨vs, ws, hv, h1.mapL _ fun a ha b => AR.ren (hm.1 a ha), h2.mapL _ fun a ha b => AR.ren (hm.2 a ha)⟩
 | d x => exact h
 | el x => exact h
 | any => exact h
theorem TR.ren {x : T} {v : Value} (hm : m ∉ x.tags) (h : TR H B x v) : TR H (swB B n m) (x.ren n m) v := by
 cases x with
 | c x => exact CR.ren hm h
 | agg cs =>
  obtain ⟨vs, hv, h1⟩ := h
  simp only [T.tags, List.mem_flatMap, not_exists, not_and] at hm
  exact ⟨vs, hv, h1.mapL _ fun a ha b => CR.ren (hm a ha)⟩
theorem VR.ren {x : V} {v : Value} (hm : m ∉ x.tags) (h : VR H B x v) : VR H (swB B n m) (x.ren n m) v := by
 cases x with
 | t x => exact TR.ren hm h
 | tup xs =>
  obtain ⟨vs, hv, h1⟩ := h
  simp only [V.tags, List.mem_flatMap, not_exists, not_and] at hm
  exact ⟨vs, hv, h1.mapL _ fun a ha b => TR.ren (hm a ha)⟩
theorem LR.ren {x : L} {w : World} {k : Nat} (hk : k ≠ m) (hm : m ∉ x.tags) (h : LR H B w k x) : LR H (swB B n m) w (if Nat.beq k n then m else k) (x.ren n m) := by
 cases x with
 | box cs =>
  obtain ⟨b, c, arr, ty, hb, hc, h1⟩ := h
  simp only [L.tags, List.mem_flatMap, not_exists, not_and] at hm
  exact ⟨b, c, arr, ty, (swB_at k hk).trans hb, hc, h1.mapL _ fun a ha b => CR.ren (hm a ha)⟩
 | row ty es rows => simp only [LR, L.ren] at h ⊢; rw [swB_at k hk]; exact h
 | bld ty c =>
  obtain ⟨b, j, v1, v2, hb, hc, h1, h0, h2⟩ := h
  exact ⟨b, j, v1, v2, (swB_at k hk).trans hb, hc, h1, h0, CR.ren hm h2⟩
end
theorem St.ren {e : E} {f : F} {a : Act} {w : World} (h : St e f a w) (n m : Nat) (hm : New e.K f m) : St e (f.ren n m) a w := by
 obtain ⟨H, B, hok⟩ := h
 have hmn : f.l m = none := hm.2.1
 have cls : ∀ x l, (f.ren n m).l x = some l → ∃ y l0, f.l y = some l0 ∧ l = l0.ren n m ∧ y ≠ m ∧ x = (if Nat.beq y n then m else y) := by
  intro x l hx
  simp only [F.ren] at hx
  split at hx
  ·rename_i e1
   have e1 := Nat.eq_of_beq_eq_true e1
   simp only [Option.map_eq_some_iff] at hx
   obtain ⟨l0, h1, rfl⟩ := hx
   exact ⟨n, l0, h1, rfl, (fun e => by rw [e, hmn] at h1; cases h1), by simp [e1]⟩
  ·rename_i e1
   split at hx
   ·cases hx
   ·rename_i e2
    simp only [Option.map_eq_some_iff] at hx
    obtain ⟨l0, h1, rfl⟩ := hx
    exact ⟨x, l0, h1, rfl, (fun e => by rw [e, hmn] at h1; cases h1), by simp [e2]⟩
 refine ⟨H, swB B n m, hok.df, hok.n, hok.ext, hok.sat, ?_, ?_, ?_, ?_, hok.low, hok.le, ?_⟩
 ·intro t v hv
  simp only [F.ren, Option.map_eq_some_iff] at hv
  obtain ⟨x, hx, rfl⟩ := hv
  exact VR.ren (hm.2.2.1 t x hx) (hok.slot t x hx)
 ·intro x l hx
  obtain ⟨y, l0, h1, rfl, h2, rfl⟩ := cls x l hx
  exact LR.ren h2 (hm.2.2.2 y l0 h1) (hok.loc y l0 h1)
 ·intro x l b c hx hb
  obtain ⟨y, l0, h1, rfl, h2, rfl⟩ := cls x l hx
  rw [swB_at y h2] at hb
  exact hok.priv y l0 b c h1 hb
 ·intro x z l l' b c c' hx hz hb hb'
  obtain ⟨y, l0, h1, rfl, h2, rfl⟩ := cls x l hx
  obtain ⟨y', l0', h1', rfl, h2', rfl⟩ := cls z l' hz
  rw [swB_at y h2] at hb
  rw [swB_at y' h2'] at hb'
  rw [hok.inj y y' l0 l0' b c c' h1 h1' hb hb']
 ·intro x hx
  have : x ≠ m := fun e => hm.1 (e ▸ hx)
  simp only [swB, this, if_false]
  exact hok.keep x hx

/-! one slot, one block put otherwise -/
def F.setS (f : F) (t : Nat) (v : V) : F := ⟨fun x => if Nat.beq x t then some v else f.s x, f.l⟩
def F.setL (f : F) (n : Nat) (l : L) : F := ⟨f.s, fun x => if Nat.beq x n then some l else f.l x⟩
theorem Ok.setS {e : E} {f : F} {H : Im} {B : Bl} {a : Act} {w : World} (h : Ok e f H B a w) (t : Nat) (v v' : V) (hv : f.s t = some v) (hx : ∀ u, VR H B v u → VR H B v' u) : Ok e (f.setS t v') H B a w := by
 refine ⟨h.df, h.n, h.ext, h.sat, ?_, h.loc, h.priv, h.inj, h.low, h.le, h.keep⟩
 intro x y hy
 simp only [F.setS] at hy
 split at hy
 ·rename_i e1
  have e1 := Nat.eq_of_beq_eq_true e1
  subst e1
  injection hy with hy
  subst hy
  exact hx _ (h.slot x v hv)
 ·exact h.slot x y hy
theorem Ok.setL {e : E} {f : F} {H : Im} {B : Bl} {a : Act} {w : World} (h : Ok e f H B a w) (n : Nat) (l l' : L) (hl : f.l n = some l) (hx : LR H B w n l → LR H B w n l') : Ok e (f.setL n l') H B a w := by
 have cls : ∀ m x, (f.setL n l').l m = some x → ∃ y, f.l m = some y := by
  intro m x hm
  simp only [F.setL] at hm
  split at hm
  ·rename_i e1
   have e1 := Nat.eq_of_beq_eq_true e1
   subst e1
   exact ⟨l, hl⟩
  ·exact ⟨x, hm⟩
 refine ⟨h.df, h.n, h.ext, h.sat, h.slot, ?_, ?_, ?_, h.low, h.le, h.keep⟩
 ·intro m x hm
  simp only [F.setL] at hm
  split at hm
  ·rename_i e1
   have e1 := Nat.eq_of_beq_eq_true e1
   subst e1
   injection hm with hm
   subst hm
   exact hx (h.loc m l hl)
  ·exact h.loc m x hm
 ·intro m x b c hm hb
  obtain ⟨y, hy⟩ := cls m x hm
  exact h.priv m y b c hy hb
 ·intro m k x y b c c' hm hk hb hb'
  obtain ⟨x', hx'⟩ := cls m x hm
  obtain ⟨y', hy'⟩ := cls k y hk
  exact h.inj m k x' y' b c c' hx' hy' hb hb'
theorem Ok.nilName {e : E} {f : F} {H : Im} {B : Bl} {a : Act} {w : World} (h : Ok e f H B a w) (n es : Nat) (ty : TypeId) (hn : New e.K f n) :
  Ok e (f.setL n (.row ty es [])) H (fun x => if x = n then none else B x) a w := by
 have hB : ∀ m, m ≠ n → (fun x => if x = n then none else B x) m = B m := fun m hm => by simp [hm]
 refine ⟨h.df, h.n, h.ext, h.sat, ?_, ?_, ?_, ?_, h.low, h.le, ?_⟩
 ·intro t v hv
  exact VR.mono (Le.refl _) (fun m hm => hB m fun e => hn.2.2.1 t v hv (e ▸ hm)) (h.slot t v hv)
 ·intro m x hm
  simp only [F.setL] at hm
  split at hm
  ·rename_i e1
   have e1 := Nat.eq_of_beq_eq_true e1
   subst e1
   injection hm with hm
   subst hm
   simp [LR]
  ·rename_i e1
   have hne : m ≠ n := fun e => by simp [e] at e1
   exact LR.mono (Le.refl _) (hB m hne) (fun k hk => hB k fun e => hn.2.2.2 m x hm (e ▸ hk)) (fun _ _ _ => rfl) (h.loc m x hm)
 ·intro m x b c hm hb
  by_cases e1 : m = n
  ·simp [e1] at hb
  ·simp only [if_neg e1] at hb
   simp only [F.setL] at hm
   rw [if_neg (fun e => e1 (Nat.eq_of_beq_eq_true e))] at hm
   exact h.priv m x b c hm hb
 ·intro m k x y b c c' hm hk hb hb'
  by_cases e1 : m = n
  ·simp [e1] at hb
  ·by_cases e2 : k = n
   ·simp [e2] at hb'
   ·simp only [if_neg e1] at hb
    simp only [if_neg e2] at hb'
    simp only [F.setL] at hm hk
    rw [if_neg (fun e => e1 (Nat.eq_of_beq_eq_true e))] at hm
    rw [if_neg (fun e => e2 (Nat.eq_of_beq_eq_true e))] at hk
    exact h.inj m k x y b c c' hm hk hb hb'
 ·intro m hm
  exact (hB m fun e => hn.1 (e ▸ hm)).trans (h.keep m hm)
def nilV : Value := .slice none 0 0
def V.getC : V → Nat → Option C
  | .t (.c x), 0 => some x
  | .t (.agg cs), j => cs[j]?
  | _, _ => none
def V.setC : V → Nat → C → V
  | .t (.c _), _, c => .t (.c c)
  | .t (.agg cs), j, c => .t (.agg (cs.set j c))
  | v, _, _ => v
theorem VR.setC {H : Im} {B : Bl} {v : V} {j : Nat} {c c' : C} (hg : v.getC j = some c) (hc : ∀ u, CR H B c u → CR H B c' u) {u : Value} (h : VR H B v u) : VR H B (v.setC j c') u := by
 cases v with
 | tup xs => cases hg
 | t x =>
  cases x with
  | c x =>
   cases j with
   | zero => injection hg with hg; subst hg; exact hc u h
   | succ j => cases hg
  | agg cs =>
   obtain ⟨vs, hv, h1⟩ := h
   refine ⟨vs, hv, All2.iff.2 ⟨by simpa using h1.length, fun i x y hx hy => ?_⟩⟩
   have hg : cs[j]? = some c := by cases j <;> exact hg
   by_cases e : i = j
   ·subst e
    rw [List.getElem?_set_self (List.getElem?_eq_some_iff.1 hg).1] at hx
    injection hx with hx
    subst hx
    exact hc _ ((All2.iff.1 h1).2 i c y hg hy)
   ·rw [List.getElem?_set_ne (Ne.symm e)] at hx
    exact (All2.iff.1 h1).2 i x y hx hy
theorem LR.setC {H : Im} {B : Bl} {w : World} {n : Nat} {cs : List C} {j : Nat} {c c' : C} (hg : cs[j]? = some c) (hc : ∀ u, CR H B c u → CR H B c' u) (h : LR H B w n (.box cs)) : LR H B w n (.box (cs.set j c')) := by
 obtain ⟨b, k, arr, ty, hb, hw, h1⟩ := h
 refine ⟨b, k, arr, ty, hb, hw, All2.iff.2 ⟨by simpa using h1.length, fun i x y hx hy => ?_⟩⟩
 by_cases e : i = j
 ·subst e
  rw [List.getElem?_set_self (List.getElem?_eq_some_iff.1 hg).1] at hx
  injection hx with hx
  subst hx
  exact hc _ ((All2.iff.1 h1).2 i c y hg hy)
 ·rw [List.getElem?_set_ne (Ne.symm e)] at hx
  exact (All2.iff.1 h1).2 i x y hx hy
theorem nil_data {H : Im} {B : Bl} (es : Nat) {ao : Option Addr} {c : Nat} (h1 : ao = none → c = 0) (h2 : c ≤ maxLen) (u : Value) (h : CR H B (.d (.raw (.slice ao 0 c))) u) : CR H B (.d (.sl es [])) u := by
 have := VR.rawI (H := H) (B := B) h
 subst this
 exact DR.nil es ao c h1 h2
section
variable {e : E} {f : F} {a : Act} {w : World}
theorem St.nilOS (h : St e f a w) (t j n es : Nat) (ty : TypeId) {v : V} (hv : f.s t = some v) (hg : v.getC j = some (.d (.raw nilV))) (hn : New e.K f n) : St e ((f.setL n (.row ty es [])).setS t (v.setC j (.own n 0))) a w := by
 obtain ⟨H, B, hok⟩ := h
 refine ⟨H, _, (hok.nilName n es ty hn).setS t v _ hv fun u hu => VR.setC hg (fun u hu => ?_) hu⟩
 have := VR.rawI (H := H) (B := fun x => if x = n then none else B x) hu
 subst this
 simp [CR, nilV]
theorem St.nilOL (h : St e f a w) (m j n es : Nat) (ty : TypeId) {cs : List C} (hv : f.l m = some (.box cs)) (hg : cs[j]? = some (.d (.raw nilV))) (hn : New e.K f n) : St e ((f.setL n (.row ty es [])).setL m (.box (cs.set j (.own n 0)))) a w := by
 obtain ⟨H, B, hok⟩ := h
 have hmn : m ≠ n := fun e => by have := hn.2.1; rw [← e, hv] at this; cases this
 refine ⟨H, _, (hok.nilName n es ty hn).setL m (.box cs) _ (by simp [F.setL, hmn, hv]) fun hu => LR.setC hg (fun u hu => ?_) hu⟩
 have := VR.rawI (H := H) (B := fun x => if x = n then none else B x) hu
 subst this
 simp [CR, nilV]
theorem St.nilDS (h : St e f a w) (t j es : Nat) {v : V} {ao : Option Addr} {c : Nat} (hv : f.s t = some v) (hg : v.getC j = some (.d (.raw (.slice ao 0 c)))) (h1 : ao = none → c = 0) (h2 : c ≤ maxLen) : St e (f.setS t (v.setC j (.d (.sl es [])))) a w := by
 obtain ⟨H, B, hok⟩ := h
 exact ⟨H, B, hok.setS t v _ hv fun u hu => VR.setC hg (nil_data es h1 h2) hu⟩
theorem St.nilDL (h : St e f a w) (m j es : Nat) {cs : List C} {ao : Option Addr} {c : Nat} (hv : f.l m = some (.box cs)) (hg : cs[j]? = some (.d (.raw (.slice ao 0 c)))) (h1 : ao = none → c = 0) (h2 : c ≤ maxLen) : St e (f.setL m (.box (cs.set j (.d (.sl es []))))) a w := by
 obtain ⟨H, B, hok⟩ := h
 exact ⟨H, B, hok.setL m (.box cs) _ hv fun hu => LR.setC hg (nil_data es h1 h2) hu⟩
theorem St.cutR (h : St e f a w) (n k es : Nat) (ty : TypeId) {rows : List (List D)} (hl : f.l n = some (.row ty es rows)) : St e (f.setL n (.row ty es (rows.take k))) a w := by
 obtain ⟨H, B, hok⟩ := h
 refine ⟨H, B, hok.setL n _ _ hl fun hu => ?_⟩
 simp only [LR] at hu ⊢
 split at hu
 ·rw [hu]; simp
 ·obtain ⟨arr, h1, h2, h3, h4, h5, h6⟩ := hu
  have h5' : ∀ r ∈ rows.take k, r.length = es := fun r hr => h5 r (List.mem_of_mem_take hr)
  have h3' : (rows.take k).length ≤ _ := Nat.le_trans (by rw [List.length_take]; omega) h3
  refine ⟨arr, h1, h2, h3', h4, h5', (rowAt_iff h2 h3' h5').2 fun i r hr f x hx => ?_⟩
  rw [List.getElem?_take] at hr
  split at hr
  ·exact (rowAt_iff h2 h3 h5).1 h6 i r hr f x hx
  ·cases hr
end

theorem Ok.renew {e : E} {f g : F} {H : Im} {B : Bl} {a : Act} {w w' : World} (h : Ok e f H B a w) {n n' : Nat} {l l' : L} (hn : f.l n = some l) (hnew : New e.K f n') (p : Option (Nat × Nat))
  (ho : w'.os = w.os) (ht : w'.tape = w.tape) (hu : w'.output = w.output) (hz : w.heap.size ≤ w'.heap.size) (hk : ∀ k, k < w.heap.size → (∀ c, B n ≠ some (k, c)) → w'.heap[k]? = w.heap[k]?)
  (hp : ∀ b c, p = some (b, c) → b < w'.heap.size ∧ ((∃ c', B n = some (b, c')) ∨ w.heap.size ≤ b)) (lr : LR H (fun x => if x = n' then p else B x) w' n' l')
  (hs : ∀ t, g.s t = f.s t) (hl : ∀ m, g.l m = if m = n' then some l' else if m = n then none else f.l m) : Ok e g H (fun x => if x = n' then p else B x) a w' := by
 have hB : ∀ m, m ≠ n' → (fun x => if x = n' then p else B x) m = B m := fun m hm => by simp [hm]
 have cls : ∀ m x, g.l m = some x → (m = n' ∧ x = l') ∨ (m ≠ n' ∧ m ≠ n ∧ f.l m = some x) := by
  intro m x hm
  rw [hl] at hm
  split at hm
  ·rename_i e1; injection hm with hm; exact .inl ⟨e1, hm.symm⟩
  ·rename_i e1
   split at hm
   ·cases hm
   ·rename_i e2; exact .inr ⟨e1, e2, hm⟩
 refine ⟨h.df, h.n, ⟨ho.trans h.ext.os, ht.trans h.ext.tape, hu.trans h.ext.output, Nat.le_trans h.ext.size hz, ?_⟩, ?_, ?_, ?_, ?_, ?_, h.low, h.le, ?_⟩
 ·intro b hb hm
  have := h.ext.size
  rw [hk b (by omega) fun c hc => ?_]
  ·exact h.ext.block b hb hm
  ·rcases (h.priv n l b c hn hc).2.2 with h1 | h1
   ·exact hm h1
   ·omega
 ·intro b o hb
  have h1 := h.sat b o hb
  have : b < w.heap.size := (Array.getElem?_eq_some_iff.1 h1).1
  rw [hk b this fun c hc => ?_]
  ·exact h1
  ·rw [(h.priv n l b c hn hc).2.1] at hb; cases hb
 ·intro t v hv
  rw [hs] at hv
  exact VR.mono (Le.refl _) (fun m hm => hB m fun e => hnew.2.2.1 t v hv (e ▸ hm)) (h.slot t v hv)
 ·intro m x hm
  rcases cls m x hm with ⟨rfl, rfl⟩ | ⟨h1, h2, h3⟩
  ·exact lr
  ·refine LR.mono (Le.refl _) (hB m h1) (fun k hk2 => hB k fun e => hnew.2.2.2 m x h3 (e ▸ hk2)) (fun b c hb => ?_) (h.loc m x h3)
   refine hk b (h.priv m x b c h3 hb).1 fun c' hc' => h2 (h.inj m n x l b c c' h3 hn hb hc')
 ·intro m x b c hm hb
  rcases cls m x hm with ⟨rfl, rfl⟩ | ⟨h1, h2, h3⟩
  ·simp only [if_true] at hb
   obtain ⟨h4, h5⟩ := hp b c hb
   refine ⟨h4, ?_⟩
   rcases h5 with ⟨c', hc'⟩ | h5
   ·exact (h.priv n l b c' hn hc').2
   ·refine ⟨?_, .inr (Nat.le_trans h.ext.size h5)⟩
    cases hq : H b with
    | none => rfl
    | some o => have := (Array.getElem?_eq_some_iff.1 (h.sat b o hq)).1; omega
  ·simp only [if_neg h1] at hb
   obtain ⟨h4, h5⟩ := h.priv m x b c h3 hb
   exact ⟨Nat.lt_of_lt_of_le h4 hz, h5⟩
 ·have cross : ∀ m x b c c', m ≠ n → f.l m = some x → B m = some (b, c) → p = some (b, c') → False := by
   intro m x b c c' h2 h3 hb hb'
   rcases (hp b c' hb').2 with ⟨c2, hc2⟩ | h5
   ·exact h2 (h.inj m n x l b c c2 h3 hn hb hc2)
   ·have := (h.priv m x b c h3 hb).1; omega
  intro m k x y b c c' hm hk2 hb hb'
  rcases cls m x hm with ⟨rfl, rfl⟩ | ⟨h1, h2, h3⟩ <;> rcases cls k y hk2 with ⟨rfl, rfl⟩ | ⟨j1, j2, j3⟩
  ·rfl
  ·simp only [if_true] at hb
   simp only [if_neg j1] at hb'
   exact (cross k y b c' c j2 j3 hb' hb).elim
  ·simp only [if_true] at hb'
   simp only [if_neg h1] at hb
   exact (cross m x b c c' h2 h3 hb hb').elim
  ·simp only [if_neg h1] at hb
   simp only [if_neg j1] at hb'
   exact h.inj m k x y b c c' h3 j3 hb hb'
 ·intro m hm
  exact (hB m fun e => hnew.1 (e ▸ hm)).trans (h.keep m hm)

/-- an element type, with its zero and its size in bytes -/
structure ElT (P : Program) (t el : TypeId) (es bs : Nat) : Prop where
  hu : P.underlying t = some (.slice el)
  ex : ∃ i z, P.info? el = some i ∧ i.zero = some z ∧ i.size = es ∧ i.bytes = bs ∧ z.cells.size = es
  pos : 0 < es
  bpos : 0 < bs
theorem ElT.mk' {P : Program} {t el : TypeId} {es bs : Nat} (hu : P.underlying t = some (.slice el)) (i : TypeInfo) (z : Value) (h1 : P.info? el = some i) (h2 : i.zero = some z) (h3 : i.size = es) (h4 : i.bytes = bs) (h5 : z.cells.size = es) (h6 : 0 < es) (h7 : 0 < bs) : ElT P t el es bs := ⟨hu, ⟨i, z, h1, h2, h3, h4, h5⟩, h6, h7⟩
section
variable {P : Program}
theorem append_fresh {w : World} {el xt ty : TypeId} {i : TypeInfo} {z : Value} {es : Nat} (hu : P.underlying xt = some (.slice el)) (hi : P.info? el = some i) (hz : i.zero = some z) (hsz : i.size = es)
  {v : Value} {n : Nat} {xs : List Value} (hown : w.ownsRow 0 el es v n xs) {a : Addr} {m c : Nat} (hm : 0 < m) {news : List Value} (hl : news.length = m * es) (hnews : ∀ j u, news[j]? = some u → w.cell? (a.add j) = some u) (h1 : ∀ u ∈ news, u.oneCell' = true)
  (h63 : n + m ≤ maxLen) (hb : (n + m) * i.bytes ≤ 140737488355328) {v' : Value} {w' : World} (hr : (Builtin.append_ #[xt, xt] ty #[v, .slice (some a) m c]).run P w = .ok v' w') : ∀ g, v'.ownBlock = some g → v.ownBlock = some g ∨ g = w.heap.size := by
 subst hsz
 have hsmall : n + m ≤ 9223372036854775807 := by simp only [maxLen] at h63; omega
 intro g hg
 rcases hown.2 with ⟨rfl, rfl⟩ | ⟨g2, cap, cur, rfl, _, hg2, hnc, hcm, hcs, htake⟩
 ·have h2 := run_append_nil (P := P) w xt ty el i z hu hi hz a m c news hl hnews hm (by omega) (by have := hb; simp only [Nat.zero_add] at this; omega)
  rw [h2] at hr
  injection hr with hr _
  subst hr
  simp [Value.ownBlock] at hg
  exact .inr hg.symm
 ·by_cases hroom : n + m ≤ cap
  ·have hfit : n * i.size + news.length ≤ cur.size := by rw [hl, hcs, ← Nat.add_mul]; exact Nat.mul_le_mul_right _ hroom
   have h2 := run_append_room (P := P) w xt ty el i hu hi g2 n cap cur hg2 a m c news hl hnews h1 hroom hfit
   rw [h2] at hr
   injection hr with hr _
   subst hr
   exact .inl hg
  ·have holds : ∀ j u, xs[j]? = some u → w.cell? ((⟨g2, 0, none⟩ : Addr).add j) = some u := hown.cells (g := g2) rfl
   have h2 := run_append_grow (P := P) w xt ty el i z hu hi hz ⟨g2, 0, none⟩ n cap xs hown.1 holds a m c news hl hnews (by omega) (by omega) (growslice_fits (by omega) hb)
   rw [h2] at hr
   injection hr with hr _
   subst hr
   simp [Value.ownBlock] at hg
   exact .inr hg.symm
theorem append_base0 {w : World} {el xt ty : TypeId} {i : TypeInfo} {z : Value} {es : Nat} (hu : P.underlying xt = some (.slice el)) (hi : P.info? el = some i) (hz : i.zero = some z) (hsz : i.size = es)
  (a0 : Addr) {a : Addr} {m c : Nat} {news : List Value} (hl : news.length = m * es) (hnews : ∀ j u, news[j]? = some u → w.cell? (a.add j) = some u) (hm : 0 < m) (h63 : m ≤ maxLen) (hb : m * i.bytes ≤ 140737488355328) :
  (Builtin.append_ #[xt, xt] ty #[.slice (some a0) 0 0, .slice (some a) m c]).run P w = (Builtin.append_ #[xt, xt] ty #[.slice none 0 0, .slice (some a) m c]).run P w := by
 subst hsz
 have hsmall : m ≤ 9223372036854775807 := by simp only [maxLen] at h63; omega
 rw [run_append_nil (P := P) w xt ty el i z hu hi hz a m c news hl hnews hm (by omega) (by omega), run_append_grow (P := P) w xt ty el i z hu hi hz a0 0 0 [] (by simp) (by simp) a m c news hl hnews (by omega) (by omega) (growslice_fits (by omega) (by simpa using hb))]
 simp
theorem wp_of_run {o : Oper} {e : E} {g : F} {d : Nat} {v : Value} {a : Act} {w w' : World} {Q : Exit → Act → World → Prop} (hd : o.dst = some d) (hrun : (execOp a.eval o).run P w = .ok (.value v) w') (h : St e g (a.put (some d) v) w') :
  Oper.wp P o a w (fun a' w' => St e g a' w') Q := by
 unfold Oper.wp
 rw [hrun, Oper.upon_value, hd]
 exact h
theorem DR.cellsAt {H : Im} {es : Nat} {rows : List (List D)} {w : World} (hsat : ∀ b o, H b = some o → w.heap[b]? = some o) {b o : Nat} {arr : Array Value} {ty : TypeId} {fz : Nat × Nat} {vs : Nat → Nat → Value} (hb : H b = some (.cells arr ty fz)) (hes : ∀ i (hi : i < rows.length), (rows[i]'hi).length = es)
  (hv : ∀ i (_ : i < rows.length) j, j < es → arr[o + i * es + j]? = some (vs i j)) (hr : ∀ i (hi : i < rows.length) j (hj : j < rows[i].length), DR H rows[i][j] (vs i j)) :
  ∃ news : List Value, news.length = rows.length * es ∧ (∀ j u, news[j]? = some u → w.cell? ((⟨b, o, none⟩ : Addr).add j) = some u) ∧ RowAt H news es rows ∧ (∀ u ∈ news, u.oneCell' = true) := by
 have hw := hsat b _ hb
 have hget : ∀ j, j < rows.length * es → 0 < es ∧ j / es < rows.length ∧ j % es < es ∧ j = j / es * es + j % es := by
  intro j hj
  have he : 0 < es := Nat.pos_of_ne_zero fun e => by simp [e] at hj
  exact ⟨he, Nat.div_lt_of_lt_mul (by rw [Nat.mul_comm]; exact hj), Nat.mod_lt _ he, by rw [Nat.mul_comm]; exact (Nat.div_add_mod j es).symm⟩
 refine ⟨(List.range (rows.length * es)).map fun j => vs (j / es) (j % es), by simp, ?_, ?_, ?_⟩
 ·intro j u hu
  rw [List.getElem?_map] at hu
  by_cases hj : j < rows.length * es
  ·rw [List.getElem?_range hj] at hu
   injection hu with hu
   obtain ⟨h1, h2, h3, h4⟩ := hget j hj
   rw [Addr.add_mid]
   have := hv (j / es) h2 (j % es) h3
   rw [Nat.add_assoc, ← h4] at this
   subst hu
   simp [World.cell?, hw, this]
  ·rw [List.getElem?_eq_none (by simpa using hj)] at hu; cases hu
 ·intro i r hri f x hx
  obtain ⟨hi, rfl⟩ := List.getElem?_eq_some_iff.1 hri
  obtain ⟨hf, rfl⟩ := List.getElem?_eq_some_iff.1 hx
  have hf' : f < es := by rw [← hes i hi]; exact hf
  have hlt : i * es + f < rows.length * es := by
   have : (i + 1) * es ≤ rows.length * es := Nat.mul_le_mul_right _ hi
   rw [Nat.add_mul] at this; omega
  have e1 : (i * es + f) / es = i := by rw [Nat.mul_comm, Nat.mul_add_div (by omega)]; simp [Nat.div_eq_of_lt hf']
  have e2 : (i * es + f) % es = f := by rw [Nat.mul_comm, Nat.mul_add_mod]; exact Nat.mod_eq_of_lt hf'
  refine ⟨vs i f, ?_, hr i hi f hf⟩
  rw [List.getElem?_map, List.getElem?_range hlt]
  simp [e1, e2]
 ·intro u hu
  simp only [List.mem_map, List.mem_range] at hu
  obtain ⟨j, hj, rfl⟩ := hu
  obtain ⟨h1, h2, h3, h4⟩ := hget j hj
  exact flat_one (DR.flat (hr (j / es) h2 (j % es) (by rw [hes _ h2]; exact h3)))
theorem Op.appOD {d t u n n' len len' es bs : Nat} {rows rows2 rows' : List (List D)} {xt el ty : TypeId} {pos af gd} (hT : ElT P xt el es bs) (hlen : len = rows.length) (hlen' : len' = len + rows2.length) (hrow : rows ++ rows2 = rows')
  (hes2 : ∀ r ∈ rows2, r.length = es) (hb : (len + rows2.length) * bs ≤ 140737488355328) :
  OpOk P ⟨some d, .call { callee := .builtin .append, args := #[.tmp t, .tmp u], argTypes := #[xt, xt] }, ty, pos, af, gd⟩
   { rs := [(t, .t (.c (.own n len))), (u, .t (.c (.d (.sl es rows2))))], rl := [(n, .row el es rows)], ws := [(d, some (.t (.c (.own n' len'))))], wl := [(n', some (.row el es rows')), (n, none)], nw := [n'] } := by
 rintro e f a w Q ⟨H, B, hok⟩ hr hnw hb0
 subst hlen hlen' hrow
 have hnew := hnw n' (by simp)
 have hl := hr.2 (n, .row el es rows) (by simp)
 have h1 : CR H B (.own n rows.length) (a.eval (.tmp t)) := hok.slot t _ (hr.1 (t, .t (.c (.own n rows.length))) (by simp))
 have h2 : DR H (.sl es rows2) (a.eval (.tmp u)) := hok.slot u _ (hr.1 (u, .t (.c (.d (.sl es rows2)))) (by simp))
 obtain ⟨i, z, hi, hz, hsz, hby, hzs⟩ := hT.ex
 have hne : n ≠ n' := fun e => by have := hnew.2.1; rw [← e, hl] at this; cases this
 have hlr := hok.loc n _ hl
 have hml : rows.length + rows2.length ≤ maxLen := by
  have : (rows.length + rows2.length) * 1 ≤ (rows.length + rows2.length) * bs := Nat.mul_le_mul_left _ hT.bpos
  simp only [maxLen]; omega
 -- the run, the new block
 have main : ∃ v w' p, (Builtin.append_ #[xt, xt] ty #[a.eval (.tmp t), a.eval (.tmp u)]).run P w = .ok v w' ∧ CR H (fun x => if x = n' then p else B x) (.own n' (rows.length + rows2.length)) v ∧
   LR H (fun x => if x = n' then p else B x) w' n' (.row el es (rows ++ rows2)) ∧ w'.os = w.os ∧ w'.tape = w.tape ∧ w'.output = w.output ∧ w.heap.size ≤ w'.heap.size ∧ (∀ k, k < w.heap.size → (∀ c, B n ≠ some (k, c)) → w'.heap[k]? = w.heap[k]?) ∧
   (∀ b c, p = some (b, c) → b < w'.heap.size ∧ ((∃ c', B n = some (b, c')) ∨ w.heap.size ≤ b)) := by
  generalize a.eval (.tmp t) = vt at h1
  generalize a.eval (.tmp u) = vu at h2
  -- nothing is added
  have empty : ∀ ao c, rows2 = [] → ∃ v w' p, (Builtin.append_ #[xt, xt] ty #[vt, .slice ao 0 c]).run P w = .ok v w' ∧ CR H (fun x => if x = n' then p else B x) (.own n' (rows.length + rows2.length)) v ∧
    LR H (fun x => if x = n' then p else B x) w' n' (.row el es (rows ++ rows2)) ∧ w'.os = w.os ∧ w'.tape = w.tape ∧ w'.output = w.output ∧ w.heap.size ≤ w'.heap.size ∧ (∀ k, k < w.heap.size → (∀ c, B n ≠ some (k, c)) → w'.heap[k]? = w.heap[k]?) ∧
    (∀ b c, p = some (b, c) → b < w'.heap.size ∧ ((∃ c', B n = some (b, c')) ∨ w.heap.size ≤ b)) := by
   rintro ao c rfl
   have hrun : ∀ base m cap, m ≤ cap → (Builtin.append_ #[xt, xt] ty #[.slice base m cap, .slice ao 0 c]).run P w = .ok (.slice base m cap) w := by
    intro base m cap hmc
    cases ao <;> cases base <;> simp [Builtin.append_, run_underlying hT.hu, sizeOf, typeInfo, hi, Builtin.lenOf, hmc, Builtin.firstCells, loadCells, loadCellsFrom, storeCells]
   refine ⟨vt, w, B n, ?_, ?_, ?_, rfl, rfl, rfl, Nat.le_refl _, fun _ _ _ => rfl, fun b c hb => ⟨(hok.priv n _ b c hl hb).1, .inl ⟨c, hb⟩⟩⟩
   ·simp only [CR] at h1
    cases hB : B n with
    | none => rw [hB] at h1; obtain ⟨_, ao0, h1⟩ := h1; rw [h1]; exact hrun ao0 0 0 (Nat.le_refl _)
    | some q =>
     obtain ⟨b, cc⟩ := q
     rw [hB] at h1
     obtain ⟨arr, g1, g2, g3, g4, g5, g6⟩ := hok.row hl hB
     rw [h1]; exact hrun _ _ _ g3
   ·simp only [CR, if_true, List.length_nil, Nat.add_zero] at h1 ⊢; exact h1
   ·simp only [LR, if_true, List.append_nil] at hlr ⊢; exact hlr
  cases h2 with
  | nil _ ao c _ _ => exact empty ao c rfl
  | sl _ _ b o c arr ty' fz vs hp hbH hl2 hc hes hv hx =>
   obtain ⟨news, n1, n2, n3, n4⟩ := DR.cellsAt hok.sat hbH hes hv hx
   obtain ⟨vt0, hvt0, hblk, hown⟩ : ∃ vt0, (Builtin.append_ #[xt, xt] ty #[vt, .slice (some ⟨b, o, none⟩) rows2.length c]).run P w = (Builtin.append_ #[xt, xt] ty #[vt0, .slice (some ⟨b, o, none⟩) rows2.length c]).run P w ∧ vt0.ownBlock = (B n).map (·.1) ∧ ∃ xs, w.ownsRow 0 el es vt0 rows.length xs ∧ RowAt H xs es rows := by
    simp only [CR] at h1
    cases hB : B n with
    | none =>
     simp only [LR, hB] at hlr
     rw [hB] at h1
     subst hlr
     obtain ⟨_, ao0, rfl⟩ := h1
     refine ⟨.slice none 0 0, ?_, rfl, [], ⟨by simp, .inl ⟨rfl, rfl⟩⟩, fun i r hr => by simp at hr⟩
     cases ao0 with
     | none => rfl
     | some a0 => exact append_base0 hT.hu hi hz hsz a0 n1 n2 hp (by simpa using hml) (by rw [hby]; simpa using hb)
    | some q =>
     obtain ⟨b2, cc⟩ := q
     rw [hB] at h1
     obtain ⟨arr2, g1, g2, g3, g4, g5, g6⟩ := hok.row hl hB
     have hle : rows.length * es ≤ cc * es := Nat.mul_le_mul_right _ g3
     refine ⟨vt, rfl, by rw [h1]; rfl, arr2.take (rows.length * es), ⟨by rw [List.length_take]; omega, .inr ⟨b2, cc, ⟨arr2⟩, h1, Nat.zero_le _, g1, g3, g4, by simpa using g2, rfl⟩⟩, ?_⟩
     intro i r hri f x hx2
     obtain ⟨u, k1, k2⟩ := g6 i r hri f x hx2
     refine ⟨u, ?_, k2⟩
     have hi2 := (List.getElem?_eq_some_iff.1 hri).1
     have hf2 := (List.getElem?_eq_some_iff.1 hx2).1
     rw [g5 r (List.mem_of_getElem? hri)] at hf2
     have : (i + 1) * es ≤ rows.length * es := Nat.mul_le_mul_right _ hi2
     rw [Nat.add_mul] at this
     rw [List.getElem?_take, if_pos (by omega)]; exact k1
   obtain ⟨xs, hown, hxs⟩ := hown
   obtain ⟨v', w', r1, r2, r3, r4⟩ := run_append_own (P := P) w 0 xt ty el i z es bs hT.hu hi hz hsz hby hzs hT.pos vt0 rows.length xs hown ⟨b, o, none⟩ rows2.length c news n1 n2 n4 hml hb (Nat.zero_le _)
   have hall : ∀ r ∈ rows ++ rows2, r.length = es := by
    intro r hr2
    rcases List.mem_append.1 hr2 with h' | h'
    ·cases hB : B n with
     | none => simp only [LR, hB] at hlr; rw [hlr] at h'; cases h'
     | some q => obtain ⟨_, _, _, _, _, g5, _⟩ := hok.row hl hB; exact g5 r h'
    ·exact hes2 r h'
   have hboth : RowAt H (xs ++ news) es (rows ++ rows2) := by
    intro i2 r hri f x hx2
    by_cases hlt : i2 < rows.length
    ·rw [List.getElem?_append_left hlt] at hri
     obtain ⟨u, k1, k2⟩ := hxs i2 r hri f x hx2
     exact ⟨u, by rw [List.getElem?_append_left (List.getElem?_eq_some_iff.1 k1).1]; exact k1, k2⟩
    ·rw [List.getElem?_append_right (by omega)] at hri
     obtain ⟨u, k1, k2⟩ := n3 _ r hri f x hx2
     refine ⟨u, ?_, k2⟩
     have hq : rows.length * es ≤ i2 * es := Nat.mul_le_mul_right _ (by omega)
     rw [List.getElem?_append_right (by rw [hown.1]; omega), hown.1, ← k1]
     congr 1
     rw [Nat.sub_mul]; omega
   obtain ⟨q1, q2⟩ := r2
   have hkk : ∀ k, k < w.heap.size → (∀ c, B n ≠ some (k, c)) → w'.heap[k]? = w.heap[k]? := by
    intro k hk hnk
    refine r3.block k hk ?_
    rw [hblk]
    intro e1
    cases hB : B n with
    | none => rw [hB] at e1; cases e1
    | some q => obtain ⟨b2, cc⟩ := q; rw [hB] at e1; simp at e1; exact hnk cc (by rw [hB, e1])
   rcases q2 with ⟨_, hn0⟩ | ⟨g, cap, cur, rfl, _, k2, k3, k4, k5, k6⟩
   ·omega
   ·refine ⟨_, w', some (g, cap), hvt0.trans r1, ?_, ?_, r3.os, r3.tape, r3.output, r3.size, hkk, ?_⟩
    ·simp [CR]
    ·simp only [LR, if_true]
     refine ⟨cur.toList, k2, by simpa using k5, by simpa using k3, k4, hall, ?_⟩
     refine (rowAt_iff (by simpa using k5) (by simpa using k3) hall).2 fun i2 r hri f x hx2 => ?_
     obtain ⟨u, j1, j2⟩ := hboth i2 r hri f x hx2
     refine ⟨u, ?_, j2⟩
     rw [← k6, List.getElem?_take] at j1
     split at j1
     ·exact j1
     ·cases j1
    ·rintro b3 c3 e3
     injection e3 with e3
     injection e3 with e3 e4
     subst e3 e4
     refine ⟨(Array.getElem?_eq_some_iff.1 k2).1, ?_⟩
     rcases append_fresh hT.hu hi hz hsz hown hp n1 n2 n4 hml (by rw [hby]; exact hb) r1 g rfl with hh | hh
     ·rw [hblk] at hh
      cases hB : B n with
      | none => rw [hB] at hh; cases hh
      | some q => obtain ⟨b2, cc⟩ := q; rw [hB] at hh; simp at hh; exact .inl ⟨cc, by rw [hh]⟩
     ·exact .inr (by omega)
 obtain ⟨v, w', p, r1, r2, r3, r4, r5, r6, r7, r8, r9⟩ := main
 have hok' : Ok e ⟨f.s, fun m => if m = n' then some (.row el es (rows ++ rows2)) else if m = n then none else f.l m⟩ H (fun x => if x = n' then p else B x) a w' :=
  hok.renew hl hnew p r4 r5 r6 r7 r8 r9 r3 (fun _ => rfl) (fun _ => rfl)
 refine wp_of_run (d := d) rfl ?_ ⟨H, _, hok'.put (x := some (.t (.c (.own n' (rows.length + rows2.length))))) (hb0.1 (d, some (.t (.c (.own n' (rows.length + rows2.length))))) (by simp)) (app1_s f d _ _ rfl) (fun m => ?_) (fun y hy => by injection hy with hy; subst hy; exact r2)⟩
 ·generalize a.eval = ρ at r1 ⊢
  have e1 : (Array.map ρ #[.tmp t, .tmp u]) = #[ρ (.tmp t), ρ (.tmp u)] := by simp
  simp only [execOp, resolve, e1, Sem.run_bind, Sem.run_pure, Result.andThen_ok, invoke, builtin, r1]
 ·simp only [F.app, List.lookup]
  by_cases e1 : m = n'
  ·simp [e1]
  ·have g1 : (m == n') = false := by simpa using e1
   by_cases e2 : m = n
   ·subst e2; simp [g1, e1]
   ·have g2 : (m == n) = false := by simpa using e2
    simp [g1, g2, e1, e2]
end
end Go.Proofs.YtekhnajfdaknnaaGreatDoor.S
end
section
namespace Go.Proofs.YtekhnajfdaknnaaGreatDoor.S
open Go.RowKit

section
variable {w0 : World} {H0 : Im} {B0 : Bl} {K : List Nat} {N : Nat} {a : Act} {w : World} {sl : List (Nat × V)} {lc : List (Nat × L)}
theorem ofS_mem {t : Nat} {v : V} (h : (F.of sl lc).s t = some v) : (t, v) ∈ sl := lookup_mem h
theorem ofL_mem {n : Nat} {l : L} (h : (F.of sl lc).l n = some l) : (n, l) ∈ lc := lookup_mem h
theorem pubS (n es : Nat) (ty : TypeId) (rows : List (List D)) (sl' : List (Nat × V)) (lc' : List (Nat × L)) (h : St ⟨w0, H0, B0, [], N⟩ (F.of sl lc) a w) (hl : lc.lookup n = some (.row ty es rows))
  (h1 : AllEq rows.length (sl.flatMap (·.2.owns n))) (h2 : AllEq rows.length (lc.flatMap (·.2.owns n))) (h3 : leS ((F.of sl lc).pub n es rows) sl' = sl'.map fun p => some p.2) (h4 : leN ((F.of sl lc).pub n es rows) lc' = lc'.map fun p => some p.2) :
  St ⟨w0, H0, B0, [], N⟩ (F.of sl' lc') a w :=
 (h.pub n es ty rows hl (fun t v hv k hk => AllEq.mem h1 k (List.mem_flatMap.2 ⟨(t, v), ofS_mem hv, hk⟩)) (fun m l hm k hk => AllEq.mem h2 k (List.mem_flatMap.2 ⟨(m, l), ofL_mem hm, hk⟩))).weaken (le_of h3 h4)
theorem renS (n m : Nat) (sl' : List (Nat × V)) (lc' : List (Nat × L)) (h : St ⟨w0, H0, B0, K, N⟩ (F.of sl lc) a w) (hn : newB K sl lc m = true)
  (h3 : leS ((F.of sl lc).ren n m) sl' = sl'.map fun p => some p.2) (h4 : leN ((F.of sl lc).ren n m) lc' = lc'.map fun p => some p.2) : St ⟨w0, H0, B0, K, N⟩ (F.of sl' lc') a w :=
 (h.ren n m (newB_spec hn)).weaken (le_of h3 h4)
theorem nilOSs (t j n es : Nat) (ty : TypeId) (v : V) (sl' : List (Nat × V)) (lc' : List (Nat × L)) (h : St ⟨w0, H0, B0, K, N⟩ (F.of sl lc) a w) (hn : newB K sl lc n = true) (hv : sl.lookup t = some v) (hg : v.getC j = some (.d (.raw nilV)))
  (h3 : leS (((F.of sl lc).setL n (.row ty es [])).setS t (v.setC j (.own n 0))) sl' = sl'.map fun p => some p.2) (h4 : leN (((F.of sl lc).setL n (.row ty es [])).setS t (v.setC j (.own n 0))) lc' = lc'.map fun p => some p.2) : St ⟨w0, H0, B0, K, N⟩ (F.of sl' lc') a w :=
 (h.nilOS t j n es ty hv hg (newB_spec hn)).weaken (le_of h3 h4)
theorem nilOLs (m j n es : Nat) (ty : TypeId) (cs : List C) (sl' : List (Nat × V)) (lc' : List (Nat × L)) (h : St ⟨w0, H0, B0, K, N⟩ (F.of sl lc) a w) (hn : newB K sl lc n = true) (hv : lc.lookup m = some (.box cs)) (hg : cs[j]? = some (.d (.raw nilV)))
  (h3 : leS (((F.of sl lc).setL n (.row ty es [])).setL m (.box (cs.set j (.own n 0)))) sl' = sl'.map fun p => some p.2) (h4 : leN (((F.of sl lc).setL n (.row ty es [])).setL m (.box (cs.set j (.own n 0)))) lc' = lc'.map fun p => some p.2) : St ⟨w0, H0, B0, K, N⟩ (F.of sl' lc') a w :=
 (h.nilOL m j n es ty hv hg (newB_spec hn)).weaken (le_of h3 h4)
theorem nilDLs (m j es : Nat) (cs : List C) (sl' : List (Nat × V)) (lc' : List (Nat × L)) (h : St ⟨w0, H0, B0, K, N⟩ (F.of sl lc) a w) (hv : lc.lookup m = some (.box cs)) (hg : cs[j]? = some (.d (.raw nilV)))
  (h3 : leS ((F.of sl lc).setL m (.box (cs.set j (.d (.sl es []))))) sl' = sl'.map fun p => some p.2) (h4 : leN ((F.of sl lc).setL m (.box (cs.set j (.d (.sl es []))))) lc' = lc'.map fun p => some p.2) : St ⟨w0, H0, B0, K, N⟩ (F.of sl' lc') a w :=
 (h.nilDL m j es (ao := none) hv hg (fun _ => rfl) (Nat.zero_le _)).weaken (le_of h3 h4)
end

section
variable {P : Program}
def A.c : A → C
  | .d x => .d x
  | .ptr n o => .ptr n o
theorem AR.c {H : Im} {B : Bl} {x : A} {v : Value} (h : AR H B x v) : CR H B x.c v := by cases x <;> exact h
def capV (cs : List A) : List V := cs.map fun x => .t (.c x.c)
theorem Op.callV {k : FuncId} {cap : List A} {ps qs : List (Nat × L)} {args : List V} {res : V} (hc : Fn P k ps (args ++ capV cap) res qs) (hk : Bodied P k) {d t : Nat} {xs : List Operand} {rs : List (Nat × V)} {tys : Array TypeId} {ty pos af gd} (h : OVs xs args rs) :
  OpOk P ⟨some d, .call { callee := .value (.tmp t), args := ⟨xs⟩, argTypes := tys }, ty, pos, af, gd⟩ (callI ((t, .t (.c (.fn (.func k) [] cap))) :: rs) ps qs d res) := by
 rintro e f a w Q ⟨H, B, hok⟩ hr hnw hb
 obtain ⟨vs1, vs2, hfv, hf1, hf2⟩ : CR H B (.fn (.func k) [] cap) (a.eval (.tmp t)) := hok.slot t _ (hr.1 (t, .t (.c (.fn (.func k) [] cap))) (by simp [callI]))
 obtain rfl : vs1 = [] := by cases vs1 with
  | nil => rfl
  | cons _ _ => exact hf1.elim
 have hex : (execOp a.eval ⟨some d, .call { callee := .value (.tmp t), args := ⟨xs⟩, argTypes := tys }, ty, pos, af, gd⟩).run P w = .ok (.enter k ⟨xs.map a.eval ++ vs2⟩) w := by
  have h1 : a.eval (.tmp t) = .func (.func k) #[] ⟨vs2⟩ := hfv
  have h2 : (⟨xs⟩ : Array Operand).map a.eval = ⟨xs.map a.eval⟩ := by simp
  simp only [execOp, resolve, h1, h2, Deferred.ofValue, Sem.run_bind, Sem.run_pure, Result.andThen_ok, invoke]
  rw [run_callee hk]
  simp
 have hargs := h.eval hok fun p hp => hr.1 p (by simp [callI, hp])
 have hcap : All2 (VR H B) (capV cap) vs2 := All2.mapL _ hf2 fun a _ b hab => AR.c hab
 have hps : ∀ p ∈ ps, f.l p.1 = some p.2 := hr.2
 have pre : Pre ps (args ++ capV cap) w H B (xs.map a.eval ++ vs2) := ⟨hok.sat, fun p hp => hok.loc _ _ (hps p hp), fun p hp b c hb2 => by
   obtain ⟨h1, h2, _⟩ := hok.priv _ _ b c (hps p hp) hb2
   exact ⟨h1, h2⟩, fun p hp q hq b c c' h1 h2 => hok.inj _ _ _ _ b c c' (hps p hp) (hps q hq) h1 h2, All2.append hargs hcap⟩
 unfold Oper.wp
 rw [hex, Oper.upon_enter]
 refine (hc w H B _ pre).mono ?_
 rintro en w' ⟨v, H', B', rfl, post⟩
 have hnew : ∀ n, n ∈ qs.map (·.1) → n ∉ ps.map (·.1) → New e.K f n := by
  intro n h1 h2
  refine hnw n ?_
  simp only [callI, List.mem_filter]
  refine ⟨h1, ?_⟩
  cases hx : hasN (ps.map (·.1)) n with
  | false => rfl
  | true => exact absurd (hasN_iff.1 hx) h2
 have h1 : Ok e ⟨f.s, (f.app (callI ((t, .t (.c (.fn (.func k) [] cap))) :: rs) ps qs d res)).l⟩ H' B' a w' := hok.called (g := ⟨f.s, (f.app (callI ((t, .t (.c (.fn (.func k) [] cap))) :: rs) ps qs d res)).l⟩) hps hnew post (fun _ => rfl) (fun n => by
  simp only [F.app, callI, lookup_wl]
  cases qs.lookup n with
  | some l => rfl
  | none => by_cases hm : n ∈ ps.map (·.1) <;> simp [hm])
 exact ⟨H', B', h1.put (x := some res) (hb.1 (d, some res) (by simp [callI])) (app1_s f d (some res) _ rfl) (fun n => rfl) (fun y hy => by injection hy with hy; subst hy; exact post.res)⟩

/-! slices built -/
theorem fill_ok' {H : Im} {B : Bl} (place : Nat → Option (Nat × Nat)) (pl : List (Nat × Nat)) (hpl : ∀ i q, pl[i]? = some q → place i = some q) : ∀ (parts : List (Nat × T)) (us : List (Nat × Value)) (cs : List C) (cells : List Value) (out : List C), All2 (fun p u => p.1 = u.1 ∧ TR H B p.2 u.2) parts us → All2 (CR H B) cs cells → fillC pl cs parts = some out →
  ∃ l, Instr.fill place ⟨cells⟩ us = some ⟨l⟩ ∧ All2 (CR H B) out l
 | [], [], cs, cells, out, _, hc, hf => by simp only [fillC, Option.some.injEq] at hf; subst hf; exact ⟨cells, rfl, hc⟩
 | (i, x) :: r, (j, u) :: us, cs, cells, out, h, hc, hf => by
  obtain ⟨⟨h1, h2⟩, h3⟩ := h
  simp only at h1 h2
  subst h1
  simp only [fillC] at hf
  cases hp : pl[i]? with
  | none => rw [hp] at hf; cases hf
  | some q =>
   obtain ⟨off, size⟩ := q
   rw [hp] at hf
   simp only at hf
   split at hf
   ·rename_i hcond
    obtain ⟨l, g1, g2⟩ := TR.cells h2
    obtain ⟨l', k1, k2⟩ := fill_ok' place pl hpl r us _ _ out h3 (hc.put off g2) hf
    refine ⟨l', ?_, k2⟩
    have e1 : place i = some (off, size) := hpl i _ hp
    have hl : l.length = size := by rw [← g2.length]; exact hcond.1
    have hcl := hc.length
    simp only [Instr.fill, e1, g1]
    rw [if_neg (by simp [hl]; omega)]
    have := fold_put off l 0 cells
    rw [Nat.add_zero] at this
    rw [← k1, ← this]
    congr 1
    rw [← Array.foldl_toList, Array.toList_zipIdx]
   ·cases hf
 | [], _ :: _, _, _, _, h, _, _ => h.elim
 | _ :: _, [], _, _, _, h, _, _ => h.elim
def plS : Nat → Nat → Nat → List (Nat × Nat)
  | 0, _, _ => []
  | len + 1, i, es => (i * es, es) :: plS len (i + 1) es
theorem plS_get : ∀ (len i es j : Nat) q, (plS len i es)[j]? = some q → q = ((i + j) * es, es) ∧ j < len
 | 0, _, _, _, _, h => by simp [plS] at h
 | len + 1, i, es, 0, q, h => by simp [plS] at h; subst h; exact ⟨rfl, by omega⟩
 | len + 1, i, es, j + 1, q, h => by
  obtain ⟨h1, h2⟩ := plS_get len (i + 1) es j q (by simpa [plS] using h)
  exact ⟨by rw [h1, show i + 1 + j = i + (j + 1) by omega], by omega⟩
/-- an element type whose zero is made of single cells -/
structure ElZ (P : Program) (t el : TypeId) (es : Nat) : Prop where
  hu : P.underlying t = some (.slice el)
  ex : ∃ i z, P.info? el = some i ∧ i.zero = some z ∧ i.size = es ∧ z.cells.size = es ∧ z.cells.toList.all flat = true
  pos : 0 < es
theorem ElZ.mk' {P : Program} {t el : TypeId} {es : Nat} (hu : P.underlying t = some (.slice el)) (i : TypeInfo) (z : Value) (h1 : P.info? el = some i) (h2 : i.zero = some z) (h3 : i.size = es) (h5 : z.cells.size = es) (h6 : z.cells.toList.all flat = true) (h7 : 0 < es) : ElZ P t el es := ⟨hu, ⟨i, z, h1, h2, h3, h5, h6⟩, h7⟩
theorem buildS_run {t el : TypeId} {es len : Nat} (hT : ElZ P t el es) (hlen : 0 < len) (hsm : len * es ≤ 16777216) {parts : List (Nat × T)} {us : List (Nat × Value)} {H : Im} {B : Bl} {out : List C} (hp : All2 (fun p u => p.1 = u.1 ∧ TR H B p.2 u.2) parts us)
    (hf : fillC (plS len 0 es) (List.replicate (len * es) .any) parts = some out) (w : World) :
    ∃ l : List Value, (Instr.buildSlice t len ⟨us⟩).run P w = .ok (.slice (some ⟨w.heap.size, 0, none⟩) len len) (w.alloc (.cells ⟨l⟩ el)) ∧ All2 (CR H B) out l := by
  obtain ⟨i, z, hi, hz, hsz, hzs, hfl⟩ := hT.ex
  have hcells : All2 (CR H B) (List.replicate (len * es) .any) ((Array.range (len * es)).map (z.cells[· % z.cells.size]!)).toList := by
    refine All2.iff.2 ⟨by simp, fun j x u hx hu => ?_⟩
    have hx' := List.mem_of_getElem? hx
    have := List.eq_of_mem_replicate hx'
    subst this
    simp only [Array.toList_map, List.getElem?_map] at hu
    cases hr : (Array.range (len * es)).toList[j]? with
    | none => rw [hr] at hu; cases hu
    | some k =>
      rw [hr] at hu
      injection hu with hu
      subst hu
      have hk : k % z.cells.size < z.cells.size := Nat.mod_lt _ (by rw [hzs]; exact hT.pos)
      show flat (z.cells[k % z.cells.size]!) = true
      rw [getElem!_pos z.cells _ hk]
      have := List.all_eq_true.1 hfl (z.cells[k % z.cells.size]'hk) (by simp)
      exact this
  have hpl : ∀ i q, (plS len 0 es)[i]? = some q → (fun i => some (i * es, es)) i = some q := by
    intro j q hq
    obtain ⟨h1, _⟩ := plS_get len 0 es j q hq
    rw [h1, Nat.zero_add]
  obtain ⟨l, h1, h2⟩ := fill_ok' (fun i => some (i * es, es)) (plS len 0 es) hpl parts us _ _ out hp hcells hf
  refine ⟨l, ?_, h2⟩
  have hne : ¬ len * i.size = 0 := by rw [hsz]; have := Nat.mul_pos hlen hT.pos; omega
  refine run_buildSlice (P := P) w t el len ⟨us⟩ ⟨l⟩ i z hT.hu hi hz (by rw [hsz]; omega) hne ?_
  subst hsz
  exact h1
theorem Ok.newData {e : E} {f : F} {H : Im} {B : Bl} {a : Act} {w : World} (h : Ok e f H B a w) (o : Obj) : Ok e f (fun b => if b = w.heap.size then some o else H b) B a (w.alloc o) ∧ Le H (fun b => if b = w.heap.size then some o else H b) := by
 have hold : ∀ b, b < w.heap.size → (w.alloc o).heap[b]? = w.heap[b]? := fun b hb => Below.heap_alloc w o b hb
 have hlt : ∀ b x, H b = some x → b < w.heap.size := fun b x hb => (Array.getElem?_eq_some_iff.1 (h.sat b x hb)).1
 have hle : Le H (fun b => if b = w.heap.size then some o else H b) := by
  intro b x hb
  have := hlt b x hb
  have hne : b ≠ w.heap.size := by omega
  simp [hne, hb]
 refine ⟨⟨h.df, h.n, ⟨h.ext.os, h.ext.tape, h.ext.output, ?_, ?_⟩, ?_, fun t v hv => VR.mono hle (fun _ _ => rfl) (h.slot t v hv), ?_, ?_, h.inj, ?_, h.le.trans hle, h.keep⟩, hle⟩
 ·have := h.ext.size; simp; omega
 ·intro b hb hm; have := h.ext.size; rw [hold b (by omega)]; exact h.ext.block b hb hm
 ·intro b x hx
  by_cases e1 : b = w.heap.size
  ·subst e1
   simp only [if_true] at hx
   rw [← hx]
   exact heap_alloc_new w o
  ·simp only [if_neg e1] at hx
   rw [hold b (hlt b x hx)]; exact h.sat b x hx
 ·intro n l hn
  exact LR.mono hle rfl (fun _ _ => rfl) (fun b c hb => hold b (h.priv n l b c hn hb).1) (h.loc n l hn)
 ·intro n l b c hn hb
  obtain ⟨h1, h2, h3⟩ := h.priv n l b c hn hb
  exact ⟨by simp; omega, by simp only [if_neg (show b ≠ w.heap.size by omega)]; exact h2, h3⟩
 ·intro b hb
  have := h.ext.size
  simp only [if_neg (show b ≠ w.heap.size by omega)]
  exact h.low b hb
theorem rowAt_of {H : Im} {B : Bl} {es : Nat} {rows : List (List D)} {l : List Value} (hes : ∀ r ∈ rows, r.length = es) (h : All2 (CR H B) (rows.flatten.map C.d) l) : RowAt H l es rows := by
 intro i r hr f x hx
 have hf : f < es := by rw [← hes r (List.mem_of_getElem? hr)]; exact (List.getElem?_eq_some_iff.1 hx).1
 have e1 : (rows.flatten.map C.d)[i * es + f]? = some (.d x) := by
  rw [List.getElem?_map, flat_at hes i f hf, hr]; simp [hx]
 have hlt : i * es + f < l.length := by rw [← h.length]; exact (List.getElem?_eq_some_iff.1 e1).1
 exact ⟨_, List.getElem?_eq_getElem hlt, (All2.iff.1 h).2 _ _ _ e1 (List.getElem?_eq_getElem hlt)⟩
theorem Op.buildD {d len es : Nat} {rows : List (List D)} {xs : List (Nat × Operand)} {vs : List (Nat × T)} {rs : List (Nat × V)} {t el ty : TypeId} {pos af gd} (hT : ElZ P t el es) (h : OPs xs vs rs) (hf : fillC (plS len 0 es) (List.replicate (len * es) .any) vs = some (rows.flatten.map C.d))
  (hlen : rows.length = len) (hes : ∀ r ∈ rows, r.length = es) (hl0 : 0 < len) (hsm : len * es ≤ 16777216) :
  OpOk P ⟨some d, .buildSlice t len ⟨xs⟩, ty, pos, af, gd⟩ { rs := rs, ws := [(d, some (.t (.c (.d (.sl es rows)))))] } := by
 rintro e f a w Q ⟨H, B, hok⟩ hr hnw hb0
 have hp := h.eval hok hr.1
 obtain ⟨l, h1, h2⟩ := buildS_run (P := P) hT hl0 hsm hp hf w
 obtain ⟨hok', hle⟩ := hok.newData (.cells ⟨l⟩ el)
 have hfl : rows.flatten.length = len * es := by rw [flat_len hes, hlen]
 have hrow : DR (fun b => if b = w.heap.size then some (.cells ⟨l⟩ el (0, 0)) else H b) (.sl es rows) (.slice (some ⟨w.heap.size, 0, none⟩) len len) := by
  have := row_data (H := fun b => if b = w.heap.size then some (.cells ⟨l⟩ el (0, 0)) else H b) (es := es) (b := w.heap.size) (c := len) (arr := l) (ty := el) (rows := rows) (if_pos rfl) (by omega) (by
   have : len * 1 ≤ len * es := Nat.mul_le_mul_left _ hT.pos
   simp only [maxLen]; omega) hes (fun i r hr f x hx => by
    obtain ⟨u, k1, k2⟩ := rowAt_of hes h2 i r hr f x hx
    exact ⟨u, k1, k2.mono hle⟩)
  rwa [hlen] at this
 refine wp_of_run (d := d) rfl ?_ ⟨_, B, hok'.put (x := some (.t (.c (.d (.sl es rows))))) (hb0.1 (d, some (.t (.c (.d (.sl es rows))))) (by simp)) (app1_s f d _ _ rfl) (app0_l f _ rfl) (fun y hy => by injection hy with hy; subst hy; exact hrow)⟩
 have e1 : ((⟨xs⟩ : Array (Nat × Operand)).map fun x => (x.1, a.eval x.2)) = ⟨xs.map fun p => (p.1, a.eval p.2)⟩ := by simp
 simp only [execOp, e1, Sem.run_bind, h1, Result.andThen_ok, Sem.run_pure]
theorem Op.buildE {d n es : Nat} {t el ty : TypeId} {pos af gd} (hT : ElZ P t el es) :
  OpOk P ⟨some d, .buildSlice t 0 #[], ty, pos, af, gd⟩ { ws := [(d, some (.t (.c (.own n 0))))], wl := [(n, some (.row el es []))], nw := [n] } := by
 refine OpOk.news d n _ _ rfl rfl rfl (by simp) fun e f H B a w hok hr hn => ?_
 obtain ⟨i, z, hi, hz, hsz, hzs, hfl⟩ := hT.ex
 refine ⟨.slice (some ⟨w.heap.size, 0, none⟩) 0 0, 0, .cells #[] el, ?_, ?_, ?_⟩
 ·have : (Instr.buildSlice t 0 #[]).run P w = .ok (.slice (some ⟨w.heap.size, 0, none⟩) 0 0) (w.alloc (.cells #[] el)) := by
   simp [Instr.buildSlice, run_underlying hT.hu, sizeOf, typeInfo, hi, Instr.fill, newRow]
   exact congrArg (fun x => w.alloc (.cells x el)) (Array.ext' (by simp))
  simp [execOp, this]
 ·simp only [LR, if_true]
  exact ⟨[], heap_alloc_new w _, by simp, Nat.le_refl _, Nat.zero_le _, by simp, by simp [All2]⟩
 ·simp [VR, TR, CR]
theorem Op.buildED {d es : Nat} {t el ty : TypeId} {pos af gd} (hT : ElZ P t el es) :
  OpOk P ⟨some d, .buildSlice t 0 #[], ty, pos, af, gd⟩ { ws := [(d, some (.t (.c (.d (.sl es [])))))] } := by
 rintro e f a w Q ⟨H, B, hok⟩ hr hnw hb0
 obtain ⟨i, z, hi, hz, hsz, hzs, hfl⟩ := hT.ex
 have hrun : (Instr.buildSlice t 0 #[]).run P w = .ok (.slice (some ⟨w.heap.size, 0, none⟩) 0 0) (w.alloc (.cells #[] el)) := by
  simp [Instr.buildSlice, run_underlying hT.hu, sizeOf, typeInfo, hi, Instr.fill, newRow]
  exact congrArg (fun x => w.alloc (.cells x el)) (Array.ext' (by simp))
 obtain ⟨hok', _⟩ := hok.newData (.cells #[] el)
 have hrow : DR (fun b => if b = w.heap.size then some (.cells #[] el (0, 0)) else H b) (.sl es []) (.slice (some ⟨w.heap.size, 0, none⟩) 0 0) := DR.nil es _ 0 (fun h => by cases h) (Nat.zero_le _)
 refine wp_of_run (d := d) rfl ?_ ⟨_, B, hok'.put (x := some (.t (.c (.d (.sl es []))))) (hb0.1 (d, some (.t (.c (.d (.sl es []))))) (by simp)) (app1_s f d _ _ rfl) (app0_l f _ rfl) (fun y hy => by injection hy with hy; subst hy; exact hrow)⟩
 simp [execOp, hrun]
end
end Go.Proofs.YtekhnajfdaknnaaGreatDoor.S
end
section
namespace Go.Proofs.YtekhnajfdaknnaaGreatDoor

def sgn (z : Int) : Int := if z < 0 then -1 else if 0 < z then 1 else 0
def cmpZ (x y : Int) : Int := if x < y then -1 else if y < x then 1 else 0
theorem sgn_neg {z : Int} (h : z < 0) : sgn z = -1 := by unfold sgn; rw [if_pos h]
theorem sgn_pos {z : Int} (h : 0 < z) : sgn z = 1 := by unfold sgn; rw [if_neg (by omega), if_pos h]
theorem sgn_zero {z : Int} (h : z = 0) : sgn z = 0 := by subst h; rfl
theorem sgn_lt_zero {z : Int} : sgn z < 0 ↔ z < 0 := by unfold sgn; split; omega; split <;> omega
theorem sgn_eq_zero {z : Int} : sgn z = 0 ↔ z = 0 := by unfold sgn; split; omega; split <;> omega
theorem cmpZ_sgn (x y : Int) : sgn (x - y) = cmpZ x y := by unfold sgn cmpZ; split <;> split <;> (try split) <;> (try split) <;> omega
theorem cmpZ_eq {x y : Int} (h : x = y) : cmpZ x y = 0 := by unfold cmpZ; rw [if_neg (by omega), if_neg (by omega)]
end Go.Proofs.YtekhnajfdaknnaaGreatDoor
end
section
namespace Go.Proofs.YtekhnajfdaknnaaGreatDoor.S
open Go.RowKit
def fam0tb : Tb := [(4, ⟨1, false, [], [.d (.raw (.bool false))], 3⟩), (24, ⟨1, false, [], [.d (nsl [])], 1⟩), (26, ⟨2, true, [(0, 1, false), (1, 1, false)], [.d (.raw (.bool false)), .d (nsl [])], 0⟩), (2, ⟨1, false, [], [.d (.raw (.int .i64 0))], 13⟩), (102, ⟨1, false, [], [.d (.raw (.int .u64 0))], 17⟩), (67, ⟨1, false, [], [.d (.raw (.int .u32 0))], 16⟩), (22, ⟨1, false, [], [.d (.raw nilV)], 1⟩), (28, ⟨3, true, [(0, 1, false), (1, 2, true)], [.d (.raw nilV), .d (.raw (.bool false)), .d (nsl [])], 0⟩), (3, ⟨1, false, [], [.d (.raw (.int .i64 0))], 13⟩), (32, ⟨3, true, [(0, 1, false), (1, 2, true)], [.d (.raw (.int .i64 0)), .d (.raw (.bool false)), .d (nsl [])], 0⟩), (45, ⟨1, false, [], [.d (.raw nilV)], 1⟩), (123, ⟨1, false, [], [.d (.raw (.int .u64 0))], 17⟩), (112, ⟨1, false, [], [.d (.raw nilV)], 1⟩), (93, ⟨1, false, [], [.d (.raw nilV)], 1⟩), (59, ⟨1, false, [], [.d (.raw nilV)], 1⟩), (35, ⟨1, false, [], [.d (.raw nilV)], 1⟩), (64, ⟨1, false, [], [.d (.raw nilV)], 1⟩), (9, ⟨1, false, [], [.d (.raw (.string ByteArray.empty))], 2⟩)]
theorem fam0ok : TbOk Tryz.prog fam0tb := ⟨TyOk.bl Tryz.underlying4 (by kernel_rfl) ⟨(.bool false : Value), [.bool false], by kernel_rfl, rfl, (fun _ _ => ⟨DR.raw _ rfl, trivial⟩)⟩,
 TyOk.slc Tryz.underlying24 (by kernel_rfl) ⟨(.slice none 0 0 : Value), [.slice none 0 0], by kernel_rfl, rfl, (fun _ _ => ⟨DR.nil _ _ _ (fun _ => rfl) (Nat.zero_le _), trivial⟩)⟩,
 TyOk.st Tryz.underlying26 (by kernel_rfl) ⟨⟨by decide, Fd.mk' _ _ Tryz.underlying26 rfl rfl (Sz.mk' (by kernel_rfl) Tryz.underlying4 _ rfl)⟩, ⟨by decide, Fd.mk' _ _ Tryz.underlying26 rfl rfl (Sz.mk' (by kernel_rfl) Tryz.underlying24 _ rfl)⟩, trivial⟩ ⟨(Value.agg #[.bool false, .slice none 0 0]), [.bool false, .slice none 0 0], by kernel_rfl, rfl, (fun _ _ => ⟨DR.raw _ rfl, DR.nil _ _ _ (fun _ => rfl) (Nat.zero_le _), trivial⟩)⟩ ⟨_, Tryz.underlying26, ⟨⟨rfl, by kernel_rfl⟩, ⟨rfl, by kernel_rfl⟩, trivial⟩⟩,
 TyOk.int Tryz.underlying2 rfl (by kernel_rfl) ⟨(.int .i64 0 : Value), [.int .i64 0], by kernel_rfl, rfl, (fun _ _ => ⟨DR.raw _ rfl, trivial⟩)⟩,
 TyOk.int Tryz.underlying102 rfl (by kernel_rfl) ⟨(.int .u64 0 : Value), [.int .u64 0], by kernel_rfl, rfl, (fun _ _ => ⟨DR.raw _ rfl, trivial⟩)⟩,
 TyOk.int Tryz.underlying67 rfl (by kernel_rfl) ⟨(.int .u32 0 : Value), [.int .u32 0], by kernel_rfl, rfl, (fun _ _ => ⟨DR.raw _ rfl, trivial⟩)⟩,
 TyOk.slc Tryz.underlying22 (by kernel_rfl) ⟨(.slice none 0 0 : Value), [.slice none 0 0], by kernel_rfl, rfl, (fun _ _ => ⟨DR.raw _ rfl, trivial⟩)⟩,
 TyOk.st Tryz.underlying28 (by kernel_rfl) ⟨⟨by decide, Fd.mk' _ _ Tryz.underlying28 rfl rfl (Sz.mk' (by kernel_rfl) Tryz.underlying22 _ rfl)⟩, ⟨by decide, Fd.mk' _ _ Tryz.underlying28 rfl rfl (Sz.mk' (by kernel_rfl) Tryz.underlying26 _ rfl)⟩, trivial⟩ ⟨(Value.agg #[.slice none 0 0, .bool false, .slice none 0 0]), [.slice none 0 0, .bool false, .slice none 0 0], by kernel_rfl, rfl, (fun _ _ => ⟨DR.raw _ rfl, DR.raw _ rfl, DR.nil _ _ _ (fun _ => rfl) (Nat.zero_le _), trivial⟩)⟩ ⟨_, Tryz.underlying28, ⟨⟨rfl, by kernel_rfl⟩, ⟨rfl, by kernel_rfl⟩, trivial⟩⟩,
 TyOk.int Tryz.underlying3 rfl (by kernel_rfl) ⟨(.int .i64 0 : Value), [.int .i64 0], by kernel_rfl, rfl, (fun _ _ => ⟨DR.raw _ rfl, trivial⟩)⟩,
 TyOk.st Tryz.underlying32 (by kernel_rfl) ⟨⟨by decide, Fd.mk' _ _ Tryz.underlying32 rfl rfl (Sz.mk' (by kernel_rfl) Tryz.underlying3 _ rfl)⟩, ⟨by decide, Fd.mk' _ _ Tryz.underlying32 rfl rfl (Sz.mk' (by kernel_rfl) Tryz.underlying26 _ rfl)⟩, trivial⟩ ⟨(Value.agg #[.int .i64 0, .bool false, .slice none 0 0]), [.int .i64 0, .bool false, .slice none 0 0], by kernel_rfl, rfl, (fun _ _ => ⟨DR.raw _ rfl, DR.raw _ rfl, DR.nil _ _ _ (fun _ => rfl) (Nat.zero_le _), trivial⟩)⟩ ⟨_, Tryz.underlying32, ⟨⟨rfl, by kernel_rfl⟩, ⟨rfl, by kernel_rfl⟩, trivial⟩⟩,
 TyOk.slc Tryz.underlying45 (by kernel_rfl) ⟨(.slice none 0 0 : Value), [.slice none 0 0], by kernel_rfl, rfl, (fun _ _ => ⟨DR.raw _ rfl, trivial⟩)⟩,
 TyOk.int Tryz.underlying123 rfl (by kernel_rfl) ⟨(.int .u64 0 : Value), [.int .u64 0], by kernel_rfl, rfl, (fun _ _ => ⟨DR.raw _ rfl, trivial⟩)⟩,
 TyOk.slc Tryz.underlying112 (by kernel_rfl) ⟨(.slice none 0 0 : Value), [.slice none 0 0], by kernel_rfl, rfl, (fun _ _ => ⟨DR.raw _ rfl, trivial⟩)⟩,
 TyOk.slc Tryz.underlying93 (by kernel_rfl) ⟨(.slice none 0 0 : Value), [.slice none 0 0], by kernel_rfl, rfl, (fun _ _ => ⟨DR.raw _ rfl, trivial⟩)⟩,
 TyOk.slc Tryz.underlying59 (by kernel_rfl) ⟨(.slice none 0 0 : Value), [.slice none 0 0], by kernel_rfl, rfl, (fun _ _ => ⟨DR.raw _ rfl, trivial⟩)⟩,
 TyOk.slc Tryz.underlying35 (by kernel_rfl) ⟨(.slice none 0 0 : Value), [.slice none 0 0], by kernel_rfl, rfl, (fun _ _ => ⟨DR.raw _ rfl, trivial⟩)⟩,
 TyOk.slc Tryz.underlying64 (by kernel_rfl) ⟨(.slice none 0 0 : Value), [.slice none 0 0], by kernel_rfl, rfl, (fun _ _ => ⟨DR.raw _ rfl, trivial⟩)⟩,
 TyOk.str Tryz.underlying9 (by kernel_rfl) ⟨(.string ByteArray.empty : Value), [.string ByteArray.empty], by kernel_rfl, rfl, (fun _ _ => ⟨DR.raw _ rfl, trivial⟩)⟩,
 trivial⟩
end Go.Proofs.YtekhnajfdaknnaaGreatDoor.S
end
section
namespace Go.Proofs.YtekhnajfdaknnaaGreatDoor.S
open Go.RowKit

theorem ia_0 : Bodied Tryz.prog 114 := Bodied.mk' (by kernel_rfl)
theorem ia_1 : Sz Tryz.prog 26 2 true := Sz.mk' (by kernel_rfl) Tryz.underlying26 _ rfl
theorem ia_2 : Bodied Tryz.prog 69 := Bodied.mk' (by kernel_rfl)
theorem ia_3 : Bodied Tryz.prog 88 := Bodied.mk' (by kernel_rfl)
theorem ia_4 : Bodied Tryz.prog 51 := Bodied.mk' (by kernel_rfl)
theorem ia_5 : Bodied Tryz.prog 96 := Bodied.mk' (by kernel_rfl)
theorem ia_6 : Bodied Tryz.prog 89 := Bodied.mk' (by kernel_rfl)
theorem ia_7 : Bodied Tryz.prog 90 := Bodied.mk' (by kernel_rfl)
theorem ia_8 : Bodied Tryz.prog 91 := Bodied.mk' (by kernel_rfl)
theorem nadd_lt {xs ys : List Nat} (hx : Lb xs) (hy : Lb ys) : Go.Proofs.YtekhnajfdaknnaaGreatDoor.val xs + Go.Proofs.YtekhnajfdaknnaaGreatDoor.val ys < pw (xs.length + ys.length + 1) := add_lt_pw hx hy (by omega) (by omega)
theorem nmul_lt {xs ys : List Nat} (hx : Lb xs) (hy : Lb ys) : Go.Proofs.YtekhnajfdaknnaaGreatDoor.val xs * Go.Proofs.YtekhnajfdaknnaaGreatDoor.val ys < pw (xs.length + ys.length) := mul_lt_pw (val_lt hx) (val_lt hy)
theorem iv_not (s : Bool) (zs : List Nat) : iv (!s) zs = -iv s zs := by cases s <;> simp [iv]
theorem iv_pos (x : ZI) : iv false x.abs = (x.val.natAbs : Int) := congrArg Int.ofNat (iv_abs x.neg x.abs).symm
theorem iv_of {s : Bool} {zs us : List Nat} (h : Go.Proofs.YtekhnajfdaknnaaGreatDoor.val zs = Go.Proofs.YtekhnajfdaknnaaGreatDoor.val us) : iv s zs = iv s us := by unfold iv; rw [h]
theorem from_true {zs n1 : List Nat} (e : n1 = lbs (Go.Proofs.YtekhnajfdaknnaaGreatDoor.val zs)) : (⟨decide ((n1.length : Int) > 0), n1⟩ : ZI) = ZI.of (iv true zs) := by
 subst e
 refine ZI.of_eq ⟨lbs_canon _, fun h => by simp [h]⟩ ?_
 by_cases h : (lbs (Go.Proofs.YtekhnajfdaknnaaGreatDoor.val zs)).length = 0
 ·have h1 := List.length_eq_zero_iff.1 h
  have h2 := lbs_val (Go.Proofs.YtekhnajfdaknnaaGreatDoor.val zs)
  rw [h1] at h2 ⊢
  rw [iv_nil]; unfold iv; rw [← h2]; rfl
 ·have h1 : ((lbs (Go.Proofs.YtekhnajfdaknnaaGreatDoor.val zs)).length : Int) > 0 := by omega
  simp only [h1, decide_true]
  exact iv_of (lbs_val _)
theorem from_false {zs n1 : List Nat} (e : n1 = lbs (Go.Proofs.YtekhnajfdaknnaaGreatDoor.val zs)) : (⟨false, n1⟩ : ZI) = ZI.of (iv false zs) := by
 subst e
 exact ZI.of_eq ⟨lbs_canon _, fun _ => rfl⟩ (iv_of (lbs_val _))
theorem from_some {s : Bool} {zs n1 : List Nat} (e : n1 = lbs (Go.Proofs.YtekhnajfdaknnaaGreatDoor.val zs)) (h : n1.length ≠ 0) : (⟨s, n1⟩ : ZI) = ZI.of (iv s zs) := by
 subst e
 exact ZI.of_eq ⟨lbs_canon _, fun h0 => absurd h0 h⟩ (iv_of (lbs_val _))
theorem from_none {s : Bool} {zs n1 : List Nat} (e : n1 = lbs (Go.Proofs.YtekhnajfdaknnaaGreatDoor.val zs)) (h : n1.length = 0) : (⟨false, []⟩ : ZI) = ZI.of (iv s zs) := by
 subst e
 have h1 := List.length_eq_zero_iff.1 h
 have h2 := lbs_val (Go.Proofs.YtekhnajfdaknnaaGreatDoor.val zs)
 rw [h1] at h2
 have : iv s zs = 0 := by unfold iv; rw [← h2]; cases s <;> rfl
 rw [this]; rfl
theorem SFrom (s : Bool) (zs : List Nat) (hz : Lb zs) (lz : zs.length ≤ 100000) : Fn Tryz.prog 88 [] [vb s, vn zs] (vz (ZI.of (iv s zs))) [] := by
 refine Fn.body Tryz.func88 rfl 15 rfl fun w H B a h => ?_
 refine rSeq fam0ok 0 [] [(0, vb s), (1, vn zs), (4, vp 0 0)] [(0, .box [.d (.raw (.bool false)), .d (nsl [])])] (by kernel_rfl) h ?_; clear h; intro a w h
 obtain ⟨n1, en1, vn1, on1, ln1⟩ := mkN (v := Go.Proofs.YtekhnajfdaknnaaGreatDoor.val zs) (m := zs.length) (val_lt hz)
 refine rSeq fam0ok 1 [(1, .call (Fn.cast (SnTrim zs hz (by omega)) (congrArg vn en1.symm)) ia_0)] [(0, vb s), (1, vn n1), (4, vp 0 0)] [(0, .box [.d (.raw (.bool false)), .d (nsl [])])] (by kernel_rfl) h ?_; clear h; intro a w h
 rcases Bool.eq_false_or_eq_true s with hc | hc
 ·have hc1 := hc; clear hc
  rw [hc1] at h
  refine rSeq fam0ok 1 [(3, .len (nsl_len n1))] [(4, vp 0 0)] [(0, .box [.d (.raw (.bool (decide ((n1.length : Int) > 0)))), .d (nsl n1)])] (by kernel_rfl) h ?_; clear h; intro a w h
  refine wp_ret ?_
  refine retS [.agg [.d (.raw (.bool (decide ((n1.length : Int) > 0)))), .d (nsl n1)]] h Exit.ret (.inl rfl)  rfl ⟨RV.agg _ 0 0 _ _ _ _ ia_1 rfl rfl rfl rfl, trivial⟩ ?_ (by kernel_rfl) (by kernel_rfl)
  rw [hc1, ← from_true en1]; first | done | rfl
 ·have hc2 := hc; clear hc
  rw [hc2] at h
  refine rSeq fam0ok 1 [] [(4, vp 0 0)] [(0, .box [.d (.raw (.bool false)), .d (nsl n1)])] (by kernel_rfl) h ?_; clear h; intro a w h
  refine wp_ret ?_
  refine retS [.agg [.d (.raw (.bool false)), .d (nsl n1)]] h Exit.ret (.inl rfl)  rfl ⟨RV.agg _ 0 0 _ _ _ _ ia_1 rfl rfl rfl rfl, trivial⟩ ?_ (by kernel_rfl) (by kernel_rfl)
  rw [hc2, ← from_false en1]; first | done | rfl
theorem SRFrom (s : Bool) (zs : List Nat) (hz : Lb zs) (lz : zs.length ≤ 100000) : Fn Tryz.prog 51 [] [vb s, vn zs] (vz (ZI.of (iv s zs))) [] := by
 refine Fn.body Tryz.func51 rfl 15 rfl fun w H B a h => ?_
 refine rSeq fam0ok 0 [] [(0, vb s), (1, vn zs), (4, vp 0 0)] [(0, .box [.d (.raw (.bool false)), .d (nsl [])])] (by kernel_rfl) h ?_; clear h; intro a w h
 obtain ⟨n1, en1, vn1, on1, ln1⟩ := mkN (v := Go.Proofs.YtekhnajfdaknnaaGreatDoor.val zs) (m := zs.length) (val_lt hz)
 refine rSeq fam0ok 1 [(1, .call (Fn.cast (SRnTrim zs hz (by omega)) (congrArg vn en1.symm)) ia_2)] [(0, vb s), (4, vp 0 0), (5, vn n1)] [(0, .box [.d (.raw (.bool false)), .d (nsl [])])] (by kernel_rfl) h ?_; clear h; intro a w h
 refine wp_seq ?_
 refine rSeq fam0ok 1 [(1, .len (nsl_len n1))] [(0, vb s), (4, vp 0 0), (5, vn n1), (10, vb ((n1.length : Int) == 0))] [(0, .box [.d (.raw (.bool false)), .d (nsl [])])] (by kernel_rfl) h ?_; clear h; intro a w h
 refine condS ((n1.length : Int) == 0) h rfl (fun hc => ?_) (fun hc => ?_)
 ·have hc1 := hc; clear hc
  have hc1' := hc1; (try simp at hc1')
  refine rSeq fam0ok 1 [] [(0, vb s), (4, vp 0 0), (5, vn n1)] [(0, .box [.d (.raw (.bool false)), .d (nsl [])])] (by kernel_rfl) h ?_; clear h; intro a w h
  refine wp_ret ?_
  refine then_r ?_
  refine retS [.agg [.d (.raw (.bool false)), .d (nsl [])]] h Exit.ret (.inl rfl)  rfl ⟨RV.agg _ 0 0 _ _ _ _ ia_1 rfl rfl rfl rfl, trivial⟩ ?_ (by kernel_rfl) (by kernel_rfl)
  rw [← from_none en1 (by simpa using hc1)]; first | done | rfl
 ·have hc2 := hc; clear hc
  have hc2' := hc2; (try simp at hc2')
  refine wp_skip ?_
  refine then_n ?_
  refine rSeq fam0ok 1 [] [(4, vp 0 0)] [(0, .box [.d (.raw (.bool s)), .d (nsl n1)])] (by kernel_rfl) h ?_; clear h; intro a w h
  refine wp_ret ?_
  refine retS [.agg [.d (.raw (.bool s)), .d (nsl n1)]] h Exit.ret (.inl rfl)  rfl ⟨RV.agg _ 0 0 _ _ _ _ ia_1 rfl rfl rfl rfl, trivial⟩ ?_ (by kernel_rfl) (by kernel_rfl)
  rw [← from_some en1 (by simpa using hc2)]; first | done | rfl
theorem SClean (x : ZI) (hx : Lb x.abs) (lx : x.abs.length ≤ 100000) : Fn Tryz.prog 96 [] [vz x] (vz (ZI.of (x.val))) [] := by
 refine Fn.body Tryz.func96 rfl 8 rfl fun w H B a h => ?_
 refine rSeq fam0ok 0 [] [(1, vp 0 0), (2, vp 1 0)] [(0, .box (zi x)), (1, .box [.d (.raw (.bool false)), .d (nsl [])])] (by kernel_rfl) h ?_; clear h; intro a w h
 obtain ⟨r1, er1, vr1, or1, lr1⟩ := mkZ (v := iv x.neg x.abs) (m := x.abs.length) (len_iv hx)
 refine rSeq fam0ok 2 [(4, .call (Fn.cast (SFrom x.neg x.abs hx (by omega)) (congrArg vz er1.symm)) ia_3)] [(2, vp 1 0)] [(1, .box (zi r1))] (by kernel_rfl) h ?_; clear h; intro a w h
 refine wp_ret ?_
 refine retS [.agg (zi r1)] h Exit.ret (.inl rfl)  rfl ⟨RV.agg _ 1 0 _ _ _ _ ia_1 rfl rfl rfl rfl, trivial⟩ ?_ (by kernel_rfl) (by kernel_rfl)
 rw [er1]; first | done | rfl
theorem SRClean (x : ZI) (hx : Lb x.abs) (lx : x.abs.length ≤ 100000) : Fn Tryz.prog 99 [] [vz x] (vz (ZI.of (x.val))) [] := by
 refine Fn.body Tryz.func99 rfl 8 rfl fun w H B a h => ?_
 refine rSeq fam0ok 0 [] [(1, vp 0 0), (2, vp 1 0)] [(0, .box (zi x)), (1, .box [.d (.raw (.bool false)), .d (nsl [])])] (by kernel_rfl) h ?_; clear h; intro a w h
 obtain ⟨r1, er1, vr1, or1, lr1⟩ := mkZ (v := iv x.neg x.abs) (m := x.abs.length) (len_iv hx)
 refine rSeq fam0ok 2 [(4, .call (Fn.cast (SRFrom x.neg x.abs hx (by omega)) (congrArg vz er1.symm)) ia_4)] [(2, vp 1 0)] [(1, .box (zi r1))] (by kernel_rfl) h ?_; clear h; intro a w h
 refine wp_ret ?_
 refine retS [.agg (zi r1)] h Exit.ret (.inl rfl)  rfl ⟨RV.agg _ 1 0 _ _ _ _ ia_1 rfl rfl rfl rfl, trivial⟩ ?_ (by kernel_rfl) (by kernel_rfl)
 rw [er1]; first | done | rfl
theorem SNeg (x : ZI) (hx : Lb x.abs) (lx : x.abs.length ≤ 100000) : Fn Tryz.prog 120 [] [vz x] (vz (ZI.of (-x.val))) [] := by
 refine Fn.body Tryz.func120 rfl 9 rfl fun w H B a h => ?_
 refine rSeq fam0ok 0 [] [(1, vp 0 0), (2, vp 1 0)] [(0, .box (zi x)), (1, .box [.d (.raw (.bool false)), .d (nsl [])])] (by kernel_rfl) h ?_; clear h; intro a w h
 obtain ⟨r1, er1, vr1, or1, lr1⟩ := mkZ (v := iv (!x.neg) x.abs) (m := x.abs.length) (len_iv hx)
 refine rSeq fam0ok 2 [(5, .call (Fn.cast (SFrom (!x.neg) x.abs hx (by omega)) (congrArg vz er1.symm)) ia_3)] [(2, vp 1 0)] [(1, .box (zi r1))] (by kernel_rfl) h ?_; clear h; intro a w h
 refine wp_ret ?_
 refine retS [.agg (zi r1)] h Exit.ret (.inl rfl)  rfl ⟨RV.agg _ 1 0 _ _ _ _ ia_1 rfl rfl rfl rfl, trivial⟩ ?_ (by kernel_rfl) (by kernel_rfl)
 rw [er1, iv_not]; first | done | rfl
theorem SAbs (x : ZI) (hx : Lb x.abs) (lx : x.abs.length ≤ 100000) : Fn Tryz.prog 83 [] [vz x] (vz (ZI.of ((x.val.natAbs : Int)))) [] := by
 refine Fn.body Tryz.func83 rfl 6 rfl fun w H B a h => ?_
 refine rSeq fam0ok 0 [] [(1, vp 0 0), (2, vp 1 0)] [(0, .box (zi x)), (1, .box [.d (.raw (.bool false)), .d (nsl [])])] (by kernel_rfl) h ?_; clear h; intro a w h
 obtain ⟨r1, er1, vr1, or1, lr1⟩ := mkZ (v := iv false x.abs) (m := x.abs.length) (len_iv hx)
 refine rSeq fam0ok 2 [(2, .call (Fn.cast (SFrom false x.abs hx (by omega)) (congrArg vz er1.symm)) ia_3)] [(2, vp 1 0)] [(1, .box (zi r1))] (by kernel_rfl) h ?_; clear h; intro a w h
 refine wp_ret ?_
 refine retS [.agg (zi r1)] h Exit.ret (.inl rfl)  rfl ⟨RV.agg _ 1 0 _ _ _ _ ia_1 rfl rfl rfl rfl, trivial⟩ ?_ (by kernel_rfl) (by kernel_rfl)
 rw [er1, iv_pos]; first | done | rfl
theorem SRNeg (x : ZI) (hx : Lb x.abs) (lx : x.abs.length ≤ 100000) : Fn Tryz.prog 40 [] [vz x] (vz (ZI.of (-x.val))) [] := by
 refine Fn.body Tryz.func40 rfl 9 rfl fun w H B a h => ?_
 refine rSeq fam0ok 0 [] [(1, vp 0 0), (2, vp 1 0)] [(0, .box (zi x)), (1, .box [.d (.raw (.bool false)), .d (nsl [])])] (by kernel_rfl) h ?_; clear h; intro a w h
 obtain ⟨r1, er1, vr1, or1, lr1⟩ := mkZ (v := iv (!x.neg) x.abs) (m := x.abs.length) (len_iv hx)
 refine rSeq fam0ok 2 [(5, .call (Fn.cast (SRFrom (!x.neg) x.abs hx (by omega)) (congrArg vz er1.symm)) ia_4)] [(2, vp 1 0)] [(1, .box (zi r1))] (by kernel_rfl) h ?_; clear h; intro a w h
 refine wp_ret ?_
 refine retS [.agg (zi r1)] h Exit.ret (.inl rfl)  rfl ⟨RV.agg _ 1 0 _ _ _ _ ia_1 rfl rfl rfl rfl, trivial⟩ ?_ (by kernel_rfl) (by kernel_rfl)
 rw [er1, iv_not]; first | done | rfl
theorem sign_neg {x r : ZI} (e : r = ZI.of x.val) (h : r.neg = true) : (-1 : Int) = sgn x.val := by
 rw [e] at h; exact (sgn_neg (of_decide_eq_true h)).symm
theorem sign_pos {x r : ZI} (e : r = ZI.of x.val) (h : r.neg = false) (hl : (r.abs.length : Int) > 0) : (1 : Int) = sgn x.val := by
 rw [e] at h hl
 have h1 : ¬ x.val < 0 := of_decide_eq_false h
 have h2 : x.val ≠ 0 := fun h0 => by have := ZI.abs_nil.2 h0; omega
 exact (sgn_pos (by omega)).symm
theorem sign_zero {x r : ZI} (e : r = ZI.of x.val) (hl : ¬ (r.abs.length : Int) > 0) : (0 : Int) = sgn x.val := by
 rw [e] at hl
 exact (sgn_zero (ZI.abs_nil.1 (by omega))).symm
theorem SSign (x : ZI) (hx : Lb x.abs) (lx : x.abs.length ≤ 100000) : Fn Tryz.prog 59 [] [vz x] (vi .i64 (sgn x.val)) [] := by
 refine Fn.body Tryz.func59 rfl 13 rfl fun w H B a h => ?_
 refine rSeq fam0ok 0 [] [(1, vp 0 0), (2, vi .i64 0)] [(0, .box (zi x))] (by kernel_rfl) h ?_; clear h; intro a w h
 obtain ⟨r1, er1, vr1, or1, lr1⟩ := mkZ (v := x.val) (m := x.abs.length) (len_id hx)
 refine rSeq fam0ok 1 [(1, .call (Fn.cast (SClean x hx (by omega)) (congrArg vz er1.symm)) ia_5)] [(1, vp 0 0), (2, vi .i64 0)] [(0, .box (zi r1))] (by kernel_rfl) h ?_; clear h; intro a w h
 refine wp_seq ?_
 refine wp_block ?_
 refine rSeq fam0ok 1 [] [(1, vp 0 0), (2, vi .i64 0), (5, vb r1.neg)] [(0, .box (zi r1))] (by kernel_rfl) h ?_; clear h; intro a w h
 refine condS r1.neg h rfl (fun hc => ?_) (fun hc => ?_)
 ·have hc1 := hc; clear hc
  refine rSeq fam0ok 1 [] [(2, vi .i64 (-1))] [] (by kernel_rfl) h ?_; clear h; intro a w h
  refine wp_ret ?_
  refine block_r ?_
  refine then_r ?_
  refine retS [.c (.d (.raw (.int .i64 (-1))))] h Exit.ret (.inl rfl)  rfl ⟨RV.tmp _ _ rfl, trivial⟩ ?_ (by kernel_rfl) (by kernel_rfl)
  rw [← sign_neg er1 hc1]; first | done | rfl
 ·have hc2 := hc; clear hc
  refine rSeq fam0ok 1 [(2, .len (nsl_len r1.abs))] [(2, vi .i64 0), (8, vb (decide ((r1.abs.length : Int) > 0)))] [] (by kernel_rfl) h ?_; clear h; intro a w h
  refine condS (decide ((r1.abs.length : Int) > 0)) h rfl (fun hc => ?_) (fun hc => ?_)
  ·have hc3 := hc; clear hc
   have hc3' := of_decide_eq_true hc3
   refine rSeq fam0ok 1 [] [(2, vi .i64 1)] [] (by kernel_rfl) h ?_; clear h; intro a w h
   refine wp_ret ?_
   refine block_r ?_
   refine then_r ?_
   refine retS [.c (.d (.raw (.int .i64 1)))] h Exit.ret (.inl rfl)  rfl ⟨RV.tmp _ _ rfl, trivial⟩ ?_ (by kernel_rfl) (by kernel_rfl)
   rw [← sign_pos er1 hc2 hc3']; first | done | rfl
  ·have hc4 := hc; clear hc
   have hc4' := of_decide_eq_false hc4
   refine wp_skip ?_
   refine block_n ?_
   refine then_n ?_
   refine rSeq fam0ok 1 [] [(2, vi .i64 0)] [] (by kernel_rfl) h ?_; clear h; intro a w h
   refine wp_ret ?_
   refine retS [.c (.d (.raw (.int .i64 0)))] h Exit.ret (.inl rfl)  rfl ⟨RV.tmp _ _ rfl, trivial⟩ ?_ (by kernel_rfl) (by kernel_rfl)
   rw [← sign_zero er1 hc4']; first | done | rfl
theorem rsign {x : ZI} {n1 : List Nat} (e : n1 = lbs (Go.Proofs.YtekhnajfdaknnaaGreatDoor.val x.abs)) : (n1.length = 0 → (0 : Int) = sgn x.val) ∧ (n1.length ≠ 0 → x.neg = true → (-1 : Int) = sgn x.val) ∧ (n1.length ≠ 0 → x.neg = false → (1 : Int) = sgn x.val) := by
 have hv := lbs_val (Go.Proofs.YtekhnajfdaknnaaGreatDoor.val x.abs)
 have hz : n1.length = 0 ↔ Go.Proofs.YtekhnajfdaknnaaGreatDoor.val x.abs = 0 := by
  subst e
  constructor
  ·intro h; rw [List.length_eq_zero_iff.1 h] at hv; exact hv.symm
  ·intro h; rw [h]; rfl
 unfold ZI.val
 refine ⟨fun h => ?_, fun h k => ?_, fun h k => ?_⟩
 ·rw [sgn_zero (by unfold iv; rw [hz.1 h]; cases x.neg <;> rfl)]
 ·rw [sgn_neg (by unfold iv; rw [k]; have := mt hz.2 h; simp; omega)]
 ·rw [sgn_pos (by unfold iv; rw [k]; have := mt hz.2 h; simp; omega)]
theorem SRSign (x : ZI) (hx : Lb x.abs) (lx : x.abs.length ≤ 100000) : Fn Tryz.prog 27 [] [vz x] (vi .i64 (sgn x.val)) [] := by
 refine Fn.body Tryz.func27 rfl 10 rfl fun w H B a h => ?_
 refine rSeq fam0ok 0 [] [(1, vp 0 0), (2, vi .i64 0)] [(0, .box (zi x))] (by kernel_rfl) h ?_; clear h; intro a w h
 refine wp_seq ?_
 obtain ⟨n1, en1, vn1, on1, ln1⟩ := mkN (v := Go.Proofs.YtekhnajfdaknnaaGreatDoor.val x.abs) (m := x.abs.length) (val_lt hx)
 refine rSeq fam0ok 1 [(2, .call (Fn.cast (SRnTrim x.abs hx (by omega)) (congrArg vn en1.symm)) ia_2), (3, .len (nsl_len n1))] [(1, vp 0 0), (2, vi .i64 0), (7, vb ((n1.length : Int) == 0))] [(0, .box (zi x))] (by kernel_rfl) h ?_; clear h; intro a w h
 refine condS ((n1.length : Int) == 0) h rfl (fun hc => ?_) (fun hc => ?_)
 ·have hc1 := hc; clear hc
  have hc1' := hc1; (try simp at hc1')
  refine rSeq fam0ok 1 [] [(1, vp 0 0), (2, vi .i64 0)] [(0, .box (zi x))] (by kernel_rfl) h ?_; clear h; intro a w h
  refine wp_ret ?_
  refine then_r ?_
  refine retS [.c (.d (.raw (.int .i64 0)))] h Exit.ret (.inl rfl)  rfl ⟨RV.tmp _ _ rfl, trivial⟩ ?_ (by kernel_rfl) (by kernel_rfl)
  rw [← (rsign en1).1 (by simpa using hc1)]; first | done | rfl
 ·have hc2 := hc; clear hc
  have hc2' := hc2; (try simp at hc2')
  refine wp_skip ?_
  refine then_n ?_
  refine wp_seq ?_
  refine rSeq fam0ok 1 [] [(2, vi .i64 0), (9, vb x.neg)] [] (by kernel_rfl) h ?_; clear h; intro a w h
  refine condS x.neg h rfl (fun hc => ?_) (fun hc => ?_)
  ·have hc3 := hc; clear hc
   refine rSeq fam0ok 1 [] [(2, vi .i64 (-1))] [] (by kernel_rfl) h ?_; clear h; intro a w h
   refine wp_ret ?_
   refine then_r ?_
   refine retS [.c (.d (.raw (.int .i64 (-1))))] h Exit.ret (.inl rfl)  rfl ⟨RV.tmp _ _ rfl, trivial⟩ ?_ (by kernel_rfl) (by kernel_rfl)
   rw [← (rsign en1).2.1 (by simpa using hc2) hc3]; first | done | rfl
  ·have hc4 := hc; clear hc
   refine wp_skip ?_
   refine then_n ?_
   refine rSeq fam0ok 1 [] [(2, vi .i64 1)] [] (by kernel_rfl) h ?_; clear h; intro a w h
   refine wp_ret ?_
   refine retS [.c (.d (.raw (.int .i64 1)))] h Exit.ret (.inl rfl)  rfl ⟨RV.tmp _ _ rfl, trivial⟩ ?_ (by kernel_rfl) (by kernel_rfl)
   rw [← (rsign en1).2.2 (by simpa using hc2) hc4]; first | done | rfl
theorem iv_same {s : Bool} {xs ys n : List Nat} (h : Go.Proofs.YtekhnajfdaknnaaGreatDoor.val n = Go.Proofs.YtekhnajfdaknnaaGreatDoor.val xs + Go.Proofs.YtekhnajfdaknnaaGreatDoor.val ys) : iv s n = iv s xs + iv s ys := by unfold iv; rw [h]; cases s <;> simp <;> omega
theorem iv_ge {s t : Bool} {xs ys n : List Nat} (hne : s ≠ t) (hle : Go.Proofs.YtekhnajfdaknnaaGreatDoor.val ys ≤ Go.Proofs.YtekhnajfdaknnaaGreatDoor.val xs) (h : Go.Proofs.YtekhnajfdaknnaaGreatDoor.val n = Go.Proofs.YtekhnajfdaknnaaGreatDoor.val xs - Go.Proofs.YtekhnajfdaknnaaGreatDoor.val ys) : iv s n = iv s xs + iv t ys := by unfold iv; rw [h]; cases s <;> cases t <;> simp_all <;> omega
theorem iv_lt {s t : Bool} {xs ys n : List Nat} (hne : s ≠ t) (hle : Go.Proofs.YtekhnajfdaknnaaGreatDoor.val xs ≤ Go.Proofs.YtekhnajfdaknnaaGreatDoor.val ys) (h : Go.Proofs.YtekhnajfdaknnaaGreatDoor.val n = Go.Proofs.YtekhnajfdaknnaaGreatDoor.val ys - Go.Proofs.YtekhnajfdaknnaaGreatDoor.val xs) : iv t n = iv s xs + iv t ys := by unfold iv; rw [h]; cases s <;> cases t <;> simp_all <;> omega
theorem iv_times {s t : Bool} {xs ys n : List Nat} (h : Go.Proofs.YtekhnajfdaknnaaGreatDoor.val n = Go.Proofs.YtekhnajfdaknnaaGreatDoor.val xs * Go.Proofs.YtekhnajfdaknnaaGreatDoor.val ys) : iv (s != t) n = iv s xs * iv t ys := by unfold iv; rw [h, Int.natCast_mul]; cases s <;> cases t <;> simp [Int.neg_mul, Int.mul_neg]
theorem SAdd (x y : ZI) (hx : Lb x.abs) (hy : Lb y.abs) (lx : x.abs.length ≤ 49000) (ly : y.abs.length ≤ 49000) : Fn Tryz.prog 49 [] [vz x, vz y] (vz (ZI.of (x.val + y.val))) [] := by
 refine Fn.body Tryz.func49 rfl 47 rfl fun w H B a h => ?_
 refine rSeq fam0ok 0 [] [(2, vp 0 0), (3, vp 1 0), (4, vp 2 0)] [(0, .box (zi x)), (1, .box (zi y)), (2, .box [.d (.raw (.bool false)), .d (nsl [])])] (by kernel_rfl) h ?_; clear h; intro a w h
 refine wp_seq ?_
 refine rSeq fam0ok 3 [] [(2, vp 0 0), (3, vp 1 0), (4, vp 2 0), (13, vb (x.neg == y.neg))] [(0, .box (zi x)), (1, .box (zi y)), (2, .box [.d (.raw (.bool false)), .d (nsl [])])] (by kernel_rfl) h ?_; clear h; intro a w h
 refine condS (x.neg == y.neg) h rfl (fun hc => ?_) (fun hc => ?_)
 ·have hc1 := hc; clear hc
  have hc1' := hc1; (try simp at hc1')
  obtain ⟨n1, en1, vn1, on1, ln1⟩ := mkN (v := Go.Proofs.YtekhnajfdaknnaaGreatDoor.val x.abs + Go.Proofs.YtekhnajfdaknnaaGreatDoor.val y.abs) (m := x.abs.length + y.abs.length + 1) (nadd_lt hx hy)
  obtain ⟨r2, er2, vr2, or2, lr2⟩ := mkZ (v := iv x.neg n1) (m := n1.length) (len_iv on1)
  refine rSeq fam0ok 3 [(6, .call (Fn.cast (SnAdd x.abs y.abs hx hy (by omega) (by omega)) (congrArg vn en1.symm)) ia_6), (7, .call (Fn.cast (SFrom x.neg n1 on1 (by omega)) (congrArg vz er2.symm)) ia_3)] [(2, vp 0 0), (3, vp 1 0), (4, vp 2 0)] [(0, .box (zi x)), (1, .box (zi y)), (2, .box (zi r2))] (by kernel_rfl) h ?_; clear h; intro a w h
  refine wp_ret ?_
  refine then_r ?_
  refine retS [.agg (zi r2)] h Exit.ret (.inl rfl)  rfl ⟨RV.agg _ 2 0 _ _ _ _ ia_1 rfl rfl rfl rfl, trivial⟩ ?_ (by kernel_rfl) (by kernel_rfl)
  have e1 : x.neg = y.neg := by simpa using hc1
  rw [er2, iv_same vn1]; show vz (ZI.of (iv x.neg x.abs + iv x.neg y.abs)) = vz (ZI.of (iv x.neg x.abs + iv y.neg y.abs)); rw [e1]
 ·have hc2 := hc; clear hc
  have hc2' := hc2; (try simp at hc2')
  refine wp_skip ?_
  refine then_n ?_
  refine wp_seq ?_
  obtain ⟨n3, en3, vn3, on3, ln3⟩ := mkN (v := Go.Proofs.YtekhnajfdaknnaaGreatDoor.val x.abs - Go.Proofs.YtekhnajfdaknnaaGreatDoor.val y.abs) (m := x.abs.length) (Nat.lt_of_le_of_lt (Nat.sub_le _ _) (val_lt hx))
  refine rSeq fam0ok 3 [(4, .call (Fn.cast (SnSub x.abs y.abs hx hy (by omega) (by omega)) (show _ = (.tup [.c (.d (nsl n3)), .c (.d (.raw (.bool (decide (Go.Proofs.YtekhnajfdaknnaaGreatDoor.val y.abs ≤ Go.Proofs.YtekhnajfdaknnaaGreatDoor.val x.abs)))))] : V) by rw [en3])) ia_7)] [(2, vp 0 0), (3, vp 1 0), (4, vp 2 0), (5, vn n3), (6, vb (decide (Go.Proofs.YtekhnajfdaknnaaGreatDoor.val y.abs ≤ Go.Proofs.YtekhnajfdaknnaaGreatDoor.val x.abs)))] [(0, .box (zi x)), (1, .box (zi y)), (2, .box [.d (.raw (.bool false)), .d (nsl [])])] (by kernel_rfl) h ?_; clear h; intro a w h
  refine rSeq fam0ok 3 [] [(2, vp 0 0), (3, vp 1 0), (4, vp 2 0), (5, vn n3), (30, vb (decide (Go.Proofs.YtekhnajfdaknnaaGreatDoor.val y.abs ≤ Go.Proofs.YtekhnajfdaknnaaGreatDoor.val x.abs)))] [(0, .box (zi x)), (1, .box (zi y)), (2, .box [.d (.raw (.bool false)), .d (nsl [])])] (by kernel_rfl) h ?_; clear h; intro a w h
  refine condS (decide (Go.Proofs.YtekhnajfdaknnaaGreatDoor.val y.abs ≤ Go.Proofs.YtekhnajfdaknnaaGreatDoor.val x.abs)) h rfl (fun hc => ?_) (fun hc => ?_)
  ·have hc3 := hc; clear hc
   have hc3' := of_decide_eq_true hc3
   obtain ⟨r4, er4, vr4, or4, lr4⟩ := mkZ (v := iv x.neg n3) (m := n3.length) (len_iv on3)
   refine rSeq fam0ok 3 [(3, .call (Fn.cast (SFrom x.neg n3 on3 (by omega)) (congrArg vz er4.symm)) ia_3)] [(2, vp 0 0), (3, vp 1 0), (4, vp 2 0)] [(0, .box (zi x)), (1, .box (zi y)), (2, .box (zi r4))] (by kernel_rfl) h ?_; clear h; intro a w h
   refine wp_ret ?_
   refine then_r ?_
   refine retS [.agg (zi r4)] h Exit.ret (.inl rfl)  rfl ⟨RV.agg _ 2 0 _ _ _ _ ia_1 rfl rfl rfl rfl, trivial⟩ ?_ (by kernel_rfl) (by kernel_rfl)
   rw [er4, iv_ge (t := y.neg) (ys := y.abs) (by simpa using hc2) hc3' vn3]; first | done | rfl
  ·have hc4 := hc; clear hc
   have hc4' := of_decide_eq_false hc4
   refine wp_skip ?_
   refine then_n ?_
   obtain ⟨n5, en5, vn5, on5, ln5⟩ := mkN (v := Go.Proofs.YtekhnajfdaknnaaGreatDoor.val y.abs - Go.Proofs.YtekhnajfdaknnaaGreatDoor.val x.abs) (m := y.abs.length) (Nat.lt_of_le_of_lt (Nat.sub_le _ _) (val_lt hy))
   refine rSeq fam0ok 3 [(4, .call (Fn.cast (SnSub y.abs x.abs hy hx (by omega) (by omega)) (show _ = (.tup [.c (.d (nsl n5)), .c (.d (.raw (.bool (decide (Go.Proofs.YtekhnajfdaknnaaGreatDoor.val x.abs ≤ Go.Proofs.YtekhnajfdaknnaaGreatDoor.val y.abs)))))] : V) by rw [en5])) ia_7)] [(3, vp 1 0), (4, vp 2 0), (7, vn n5)] [(1, .box (zi y)), (2, .box [.d (.raw (.bool false)), .d (nsl [])])] (by kernel_rfl) h ?_; clear h; intro a w h
   obtain ⟨r6, er6, vr6, or6, lr6⟩ := mkZ (v := iv y.neg n5) (m := n5.length) (len_iv on5)
   refine rSeq fam0ok 3 [(3, .call (Fn.cast (SFrom y.neg n5 on5 (by omega)) (congrArg vz er6.symm)) ia_3)] [(4, vp 2 0)] [(2, .box (zi r6))] (by kernel_rfl) h ?_; clear h; intro a w h
   refine wp_ret ?_
   refine retS [.agg (zi r6)] h Exit.ret (.inl rfl)  rfl ⟨RV.agg _ 2 0 _ _ _ _ ia_1 rfl rfl rfl rfl, trivial⟩ ?_ (by kernel_rfl) (by kernel_rfl)
   rw [er6, iv_lt (s := x.neg) (xs := x.abs) (by simpa using hc2) (by have := hc4'; omega) vn5]; first | done | rfl
theorem SMul (x y : ZI) (hx : Lb x.abs) (hy : Lb y.abs) (lx : x.abs.length ≤ 49000) (ly : y.abs.length ≤ 49000) : Fn Tryz.prog 50 [] [vz x, vz y] (vz (ZI.of (x.val * y.val))) [] := by
 refine Fn.body Tryz.func50 rfl 16 rfl fun w H B a h => ?_
 refine rSeq fam0ok 0 [] [(2, vp 0 0), (3, vp 1 0), (4, vp 2 0)] [(0, .box (zi x)), (1, .box (zi y)), (2, .box [.d (.raw (.bool false)), .d (nsl [])])] (by kernel_rfl) h ?_; clear h; intro a w h
 obtain ⟨n1, en1, vn1, on1, ln1⟩ := mkN (v := Go.Proofs.YtekhnajfdaknnaaGreatDoor.val x.abs * Go.Proofs.YtekhnajfdaknnaaGreatDoor.val y.abs) (m := x.abs.length + y.abs.length) (nmul_lt hx hy)
 obtain ⟨r2, er2, vr2, or2, lr2⟩ := mkZ (v := iv (x.neg != y.neg) n1) (m := n1.length) (len_iv on1)
 refine rSeq fam0ok 3 [(9, .call (Fn.cast (SnMul x.abs y.abs hx hy (by omega) (by omega)) (congrArg vn en1.symm)) ia_8), (10, .call (Fn.cast (SFrom (x.neg != y.neg) n1 on1 (by omega)) (congrArg vz er2.symm)) ia_3)] [(4, vp 2 0)] [(2, .box (zi r2))] (by kernel_rfl) h ?_; clear h; intro a w h
 refine wp_ret ?_
 refine retS [.agg (zi r2)] h Exit.ret (.inl rfl)  rfl ⟨RV.agg _ 2 0 _ _ _ _ ia_1 rfl rfl rfl rfl, trivial⟩ ?_ (by kernel_rfl) (by kernel_rfl)
 rw [er2, iv_times vn1]; first | done | rfl
end Go.Proofs.YtekhnajfdaknnaaGreatDoor.S
end
section
namespace Go.Proofs.YtekhnajfdaknnaaGreatDoor.S
open Go.RowKit

def intD (v : Int) : List D := [.raw (.int .i64 v)]
def ziD (x : ZI) : List D := [.raw (.bool x.neg), nsl x.abs]
def strD (x : ByteArray) : List D := [.raw (.string x)]
def boolD (x : Bool) : List D := [.raw (.bool x)]
def slD {α : Type} (es : Nat) (f : α → List D) (xs : List α) : List D := [.sl es (xs.map f)]
theorem map_at {α β : Type} {xs : List α} {i : Nat} {x : α} (h : xs[i]? = some x) {f : α → β} : (xs.map f)[i]? = some (f x) := by rw [List.getElem?_map, h]; rfl
theorem lenC_map {α : Type} (es : Nat) (f : α → List D) (xs : List α) : lenC (.d (.sl es (xs.map f))) = some xs.length := by simp [lenC]
def vd (l : List D) : V := .t (.agg (l.map C.d))
structure Part where
  v : Int
  c : ZI
def Part.d (x : Part) : List D := [.raw (.int .i64 x.v), .raw (.bool x.c.neg), nsl x.c.abs]
structure Term where
  parts : List Part
  k : ZI
def Term.d (x : Term) : List D := [.sl 3 (x.parts.map Part.d), .raw (.bool x.k.neg), nsl x.k.abs]
end Go.Proofs.YtekhnajfdaknnaaGreatDoor.S
end
section
namespace Go.Proofs.YtekhnajfdaknnaaGreatDoor.S
open Go.RowKit Go.WideShapes

def all (w : World) : Im := fun b => w.heap[b]?
def RepN (w : World) (n : Nat) (t : TypeId) {α : Type} (f : α → List D) (good : α → Prop) : Prop :=
  ∀ (H : Type) (enc : TypeId × Value → H) (base : Nat) (spare : Nat → Bool) (held : Bool) (fuel : Nat) (cs : List Value) (x : DataW H × List MemPlace), fuel ≤ n → DataW.trod enc Tryz.prog w base spare held fuel t cs = some x → ∃ a : α, good a ∧ All2 (DR (all w)) (f a) cs
section
variable {w : World} {n : Nat} {t : TypeId} {α β : Type} {f : α → List D} {good : α → Prop}
theorem RepN.mono {m : Nat} (h : RepN w n t f good) (hm : m ≤ n) : RepN w m t f good := fun H enc base spare held fuel cs x hn hx => h H enc base spare held fuel cs x (by omega) hx
theorem RepN.map {f' : β → List D} {good' : β → Prop} (h : RepN w n t f good) (g : α → β) (hf : ∀ a, f' (g a) = f a) (hg : ∀ a, good a → good' (g a)) : RepN w n t f' good' := fun H enc base spare held fuel cs x hn hx => by
 obtain ⟨a, h1, h2⟩ := h H enc base spare held fuel cs x hn hx
 exact ⟨g a, hg a h1, by rw [hf]; exact h2⟩
theorem rep_int {k : IntKind} (hu : Tryz.prog.underlying t = some (.int k)) : RepN w n t (fun v : Int => [.raw (.int k v)]) (fun v => (Lit.int k v).wf = true) := fun H enc base spare held fuel cs x hn hx => by
 obtain ⟨v, rfl, _, hw⟩ := DataW.trod_int hu hx
 exact ⟨v, hw, DR.raw _ rfl, trivial⟩
theorem rep_bool (hu : Tryz.prog.underlying t = some .bool) : RepN w n t boolD (fun _ => True) := fun H enc base spare held fuel cs x hn hx => by
 obtain ⟨v, rfl, _⟩ := DataW.trod_bool hu hx
 exact ⟨v, trivial, DR.raw _ rfl, trivial⟩
theorem rep_i64 (hu : Tryz.prog.underlying t = some (.int .i64)) : RepN w n t intD (fun v => -9223372036854775808 ≤ v ∧ v ≤ 9223372036854775807) :=
 (rep_int hu).map id (fun _ => rfl) fun v h => by have := bounds_i64 h; simp only [id]; omega
theorem rep_u32 (hu : Tryz.prog.underlying t = some (.int .u32)) : RepN w n t (fun v : Nat => [.raw (.int .u32 (v : Int))]) (fun v => v < 4294967296) := fun H enc base spare held fuel cs x hn hx => by
 obtain ⟨v, rfl, _, hw⟩ := DataW.trod_int hu hx
 have := bounds_u32 hw
 refine ⟨v.toNat, by omega, ?_, trivial⟩
 rw [Int.toNat_of_nonneg (by omega)]
 exact DR.raw _ rfl
theorem listOf {P : Nat → α → Prop} : ∀ (len : Nat), (∀ i, i < len → ∃ a, P i a) → ∃ xs : List α, xs.length = len ∧ ∀ i x, xs[i]? = some x → P i x
 | 0, _ => ⟨[], rfl, fun i x h => by simp at h⟩
 | len + 1, h => by
  obtain ⟨xs, h1, h2⟩ := listOf len fun i hi => h i (by omega)
  obtain ⟨a, ha⟩ := h len (by omega)
  refine ⟨xs ++ [a], by simp [h1], fun i x hx => ?_⟩
  by_cases hi : i < xs.length
  ·rw [List.getElem?_append_left hi] at hx; exact h2 i x hx
  ·have hl := (List.getElem?_eq_some_iff.1 hx).1
   simp only [List.length_append, List.length_cons, List.length_nil] at hl
   have e : i = xs.length := by omega
   subst e
   simp at hx
   subst hx
   rw [h1]; exact ha
theorem cell_at {b o : Nat} {v : Value} (h : w.cell? ⟨b, o, none⟩ = some v) : ∃ arr ty fz, w.heap[b]? = some (.cells arr ty fz) ∧ arr[o]? = some v := by
 unfold World.cell? at h
 split at h
 ·rename_i cs ty fz hb
  exact ⟨cs, ty, fz, hb, by simpa using h⟩
 ·cases h
theorem rep_slice {e : TypeId} {k : Nat} (hu : Tryz.prog.underlying t = some (.slice e)) (hc : Tryz.prog.cellsOf e = k) (hk : 0 < k) (hl : ∀ a, (f a).length = k) (he : RepN w n e f good) : RepN w n t (slD k f) (fun xs => xs.length ≤ maxLen ∧ ∀ x ∈ xs, good x) := fun H enc base spare held fuel cs x hn hx => by
 rcases DataW.trod_slice hu hx with ⟨rfl, _⟩ | ⟨a, len, cap, elems, rest, m, rfl, rfl, _, _, h2, h3, h4, h5, _, _⟩
 ·exact ⟨[], ⟨Nat.zero_le _, by simp⟩, DR.nil _ _ _ (fun _ => rfl) (Nat.zero_le _), trivial⟩
 ·rw [hc] at h5
  obtain ⟨xs, hxl, hxs⟩ := listOf (P := fun i (y : α) => good y ∧ ∃ cs', w.cells? base (a.add (i * k)) k = some cs' ∧ All2 (DR (all w)) (f y) cs') len fun i hi => by
   have h6 := h5 i hi
   rw [List.getElem?_eq_getElem (by omega)] at h6
   obtain ⟨cs', g1, g2⟩ := Option.bind_eq_some_iff.1 h6
   obtain ⟨y, g3, g4⟩ := he H enc base spare held m cs' _ (by omega) g2
   exact ⟨y, g3, cs', g1, g4⟩
  refine ⟨xs, ⟨by omega, fun y hy => ?_⟩, ?_, trivial⟩
  ·obtain ⟨i, hi⟩ := List.mem_iff_getElem?.1 hy
   exact (hxs i y hi).1
  ·show DR (all w) (.sl k (xs.map f)) _
   rcases Nat.eq_zero_or_pos len with h0 | h0
   ·subst h0
    have : xs = [] := List.length_eq_zero_iff.1 hxl
    subst this
    exact DR.nil _ _ _ (fun e => by cases e) h3
   ·have cells : ∀ i y, xs[i]? = some y → ∀ j, j < k → ∃ v d, w.cell? ((a.add (i * k)).add j) = some v ∧ (f y)[j]? = some d ∧ DR (all w) d v := fun i y hy j hj => by
     obtain ⟨_, cs', g1, g2⟩ := hxs i y hy
     obtain ⟨_, g4, g5⟩ := World.cells?_some g1
     obtain ⟨v, g6, g7⟩ := g2.get j (by rw [hl]; exact hj)
     exact ⟨v, _, by rw [g5 j hj]; exact g6, List.getElem?_eq_getElem (by rw [hl]; exact hj), g7⟩
    obtain ⟨y0, hy0⟩ : ∃ y, xs[0]? = some y := ⟨_, List.getElem?_eq_getElem (by omega)⟩
    obtain ⟨v0, _, c0, _, _⟩ := cells 0 y0 hy0 0 hk
    obtain ⟨b, o, sp⟩ := a
    have hsp : sp = none := by
     have := World.cell?_spot c0
     simpa [Addr.add] using this
    subst hsp
    have c0' : w.cell? ⟨b, o, none⟩ = some v0 := by simpa [Addr.add_mid] using c0
    obtain ⟨arr, ty, fz, hb, _⟩ := cell_at c0'
    have at_ : ∀ i y, xs[i]? = some y → ∀ j, j < k → ∃ v d, arr[o + i * k + j]? = some v ∧ (f y)[j]? = some d ∧ DR (all w) d v := fun i y hy j hj => by
     obtain ⟨v, d, g1, g2, g3⟩ := cells i y hy j hj
     rw [Addr.add_mid, Addr.add_mid] at g1
     obtain ⟨arr', ty', fz', hb', g4⟩ := cell_at g1
     rw [hb] at hb'
     injection hb' with hb'
     injection hb' with e1
     subst e1
     exact ⟨v, d, g4, g2, g3⟩
    have := DR.sl (H := all w) k (xs.map f) b o cap arr ty fz (fun i j => (arr[o + i * k + j]?).getD v0) (by rw [List.length_map]; omega) hb (by rw [List.length_map]; omega) h3 (fun i hi => by rw [List.getElem_map]; exact hl _)
     (fun i hi j hj => by
      have hi' : i < xs.length := by simpa using hi
      obtain ⟨v, d, g1, _, _⟩ := at_ i xs[i] (List.getElem?_eq_getElem hi') j hj
      rw [g1]; rfl)
     (fun i hi j hj => by
      have hi' : i < xs.length := by simpa using hi
      have hj' : j < k := by rw [List.getElem_map, hl] at hj; exact hj
      obtain ⟨v, d, g1, g2, g3⟩ := at_ i xs[i] (List.getElem?_eq_getElem hi') j hj'
      have e1 : ((xs.map f)[i])[j]? = some d := by rw [List.getElem_map]; exact g2
      rw [List.getElem?_eq_getElem hj] at e1
      injection e1 with e1
      rw [e1, g1]; exact g3)
    rwa [List.length_map, hxl] at this
def FsN (w : World) (n : Nat) (fs : List Field) (o k : Nat) {α : Type} (f : α → List D) (good : α → Prop) : Prop :=
  ∀ (H : Type) (enc : TypeId × Value → H) (base : Nat) (spare : Nat → Bool) (held : Bool) (cs : List Value), (∀ fl ∈ fs, ∃ m x, m ≤ n ∧ DataW.trod enc Tryz.prog w base spare held m fl.type ((cs.drop fl.offset).take (Tryz.prog.cellsOf fl.type)) = some x) → o + k = cs.length → ∃ a : α, good a ∧ All2 (DR (all w)) (f a) (cs.drop o)
theorem FsN.nil {o : Nat} : FsN w n [] o 0 (fun _ : Unit => []) (fun _ => True) := fun H enc base spare held cs _ hl => ⟨(), trivial, by rw [List.drop_of_length_le (by omega)]; trivial⟩
theorem FsN.cons {fl : Field} {fs : List Field} {o k0 k1 : Nat} {f1 : β → List D} {good1 : β → Prop} (ho : fl.offset = o) (hc : Tryz.prog.cellsOf fl.type = k0) (h0 : RepN w n fl.type f good) (h1 : FsN w n fs (o + k0) k1 f1 good1) :
  FsN w n (fl :: fs) o (k0 + k1) (fun p : α × β => f p.1 ++ f1 p.2) (fun p => good p.1 ∧ good1 p.2) := fun H enc base spare held cs hf hl => by
 obtain ⟨m, x, hm, hx⟩ := hf fl (by simp)
 rw [ho, hc] at hx
 obtain ⟨a, g1, g2⟩ := h0 H enc base spare held m _ x hm hx
 obtain ⟨b, g3, g4⟩ := h1 H enc base spare held cs (fun fl' h' => hf fl' (by simp [h'])) (by omega)
 refine ⟨(a, b), ⟨g1, g3⟩, ?_⟩
 have e : cs.drop o = (cs.drop o).take k0 ++ cs.drop (o + k0) := by rw [← List.drop_drop, List.take_append_drop]
 rw [e]
 exact g2.append g4
theorem rep_struct {k : Nat} {fs : Array Field} (hu : Tryz.prog.underlying t = some (.struct fs)) (hc : Tryz.prog.cellsOf t = k) (h : FsN w n fs.toList 0 k f good) : RepN w (n + 1) t f good := fun H enc base spare held fuel cs x hn hx => by
 obtain ⟨xs, m, rfl, _, h2, h3, h4⟩ := DataW.trod_struct hu hx
 obtain ⟨a, g1, g2⟩ := h H enc base spare held cs (fun fl hfl => by
  obtain ⟨i, hi⟩ := List.mem_iff_getElem?.1 hfl
  have hi' : fs[i]? = some fl := by simpa using hi
  have := h4 i fl hi'
  have hlt : i < xs.length := by rw [h3]; exact (Array.getElem?_eq_some_iff.1 hi').1
  rw [List.getElem?_eq_getElem hlt] at this
  exact ⟨m, _, by omega, this⟩) (by rw [h2, hc]; omega)
 exact ⟨a, g1, by simpa using g2⟩
/-- a struct that came in -/
theorem rep_agg {fs : Array Field} (hu : Tryz.prog.underlying t = some (.struct fs)) (hr : ∀ n, RepN w n t f good) {H : Type} {enc : TypeId × Value → H} {base : Nat} {spare : Nat → Bool} {held : Bool} {r : Reach} {b0 : Nat} {v : Value} {d : DataW H} {p : List MemPlace} (hv : Value.okWide Tryz.prog w r b0 t v) (h : DataW.Trod enc Tryz.prog w base spare held t v d p) :
  ∃ (a : α) (cs : List Value), good a ∧ v = .agg ⟨cs⟩ ∧ All2 (DR (all w)) (f a) cs := by
 obtain ⟨cs, rfl, _⟩ := okWide_struct hu hv
 obtain ⟨fuel, hf⟩ := h
 obtain ⟨a, g1, g2⟩ := hr fuel H enc base spare held fuel _ _ (Nat.le_refl _) hf
 exact ⟨a, cs.toList, g1, rfl, g2⟩
/-- a slice that came in -/
theorem rep_one {e : TypeId} {g : α → D} (hu : Tryz.prog.underlying t = some (.slice e)) (hr : ∀ n, RepN w n t (fun a => [g a]) good) {H : Type} {enc : TypeId × Value → H} {base : Nat} {spare : Nat → Bool} {held : Bool} {r : Reach} {b0 : Nat} {v : Value} {d : DataW H} {p : List MemPlace} (hv : Value.okWide Tryz.prog w r b0 t v) (h : DataW.Trod enc Tryz.prog w base spare held t v d p) :
  ∃ (a : α) (ao : Option Addr) (len cap : Nat), good a ∧ v = .slice ao len cap ∧ DR (all w) (g a) v := by
 obtain ⟨ao, len, cap, rfl⟩ := okWide_slice hu hv
 obtain ⟨fuel, hf⟩ := h
 obtain ⟨a, g1, g2⟩ := hr fuel H enc base spare held fuel _ _ (Nat.le_refl _) hf
 exact ⟨a, ao, len, cap, g1, rfl, g2.1⟩
theorem dr_vd {l : List D} {cs : List Value} (h : All2 (DR (all w)) l cs) (B : Bl) : VR (all w) B (vd l) (.agg ⟨cs⟩) := by
 refine ⟨cs, rfl, All2.iff.2 ⟨by simpa using h.length, fun j a b ha hb => ?_⟩⟩
 rw [List.getElem?_map] at ha
 cases hj : l[j]? with
 | none => rw [hj] at ha; cases ha
 | some d =>
  rw [hj] at ha
  injection ha with ha
  subst ha
  exact (All2.iff.1 h).2 j d b hj hb
end
theorem Fn.calls {k : FuncId} {args : List V} {vals : List Value} {w : World} (h : Fn Tryz.prog k [] args (vb true) []) (ha : ∀ B, All2 (VR (all w) B) args vals) : Calls Tryz.prog k ⟨vals⟩ w (GotP (.bool true) w) := by
 refine (h w (all w) (fun _ => none) vals ⟨fun b o hb => hb, fun p hp => (by cases hp), fun p hp => (by cases hp), fun p hp => (by cases hp), ha _⟩).mono ?_
 rintro en w' ⟨v, H', B', rfl, post⟩
 have := VR.rawI post.res
 subst this
 exact ⟨rfl, post.ext.os, post.ext.tape, post.ext.output, post.ext.size, fun b hb => post.ext.block b hb (by rintro ⟨p, hp, _⟩; cases hp)⟩
/-! the types of numbers and terms -/
section
variable {w : World} {n : Nat}
theorem rep_Nat : RepN w n 24 (fun zs => [nsl zs]) Lb :=
 (rep_slice (k := 1) (f := fun v : Nat => [D.raw (.int .u32 (v : Int))]) Tryz.underlying24 (by kernel_rfl) (by decide) (fun _ => rfl) (rep_u32 Tryz.underlying67)).map id (fun _ => rfl) fun zs h z hz => h.2 z hz
theorem rep_ZI : RepN w n 26 ziD (fun x => Lb x.abs) :=
 ((rep_struct (n := n) Tryz.underlying26 (by kernel_rfl) (.cons (k0 := 1) rfl (by kernel_rfl) (rep_bool Tryz.underlying4) (.cons (k0 := 1) rfl (by kernel_rfl) rep_Nat .nil))).map (fun p => ⟨p.1, p.2.1⟩) (fun _ => rfl) fun _ h => h.2.1).mono (Nat.le_succ n)
theorem rep_Part : RepN w n 32 Part.d (fun p => Lb p.c.abs) :=
 ((rep_struct (n := n) Tryz.underlying32 (by kernel_rfl) (.cons (k0 := 1) rfl (by kernel_rfl) (rep_i64 Tryz.underlying3) (.cons (k0 := 2) rfl (by kernel_rfl) rep_ZI .nil))).map (fun p => ⟨p.1, p.2.1⟩) (fun _ => rfl) fun _ h => h.2.1).mono (Nat.le_succ n)
def TLb (t : Term) : Prop := Lb t.k.abs ∧ ∀ p ∈ t.parts, Lb p.c.abs
theorem rep_Parts : RepN w n 22 (slD 3 Part.d) (fun ps => ps.length ≤ maxLen ∧ ∀ p ∈ ps, Lb p.c.abs) :=
 rep_slice (k := 3) Tryz.underlying22 (by kernel_rfl) (by decide) (fun _ => rfl) rep_Part
theorem rep_Term : RepN w n 28 Term.d TLb :=
 ((rep_struct (n := n) Tryz.underlying28 (by kernel_rfl) (.cons (k0 := 1) rfl (by kernel_rfl) rep_Parts (.cons (k0 := 2) rfl (by kernel_rfl) rep_ZI .nil))).map (fun p => ⟨p.1, p.2.1⟩) (fun _ => rfl) fun _ h => ⟨h.2.1, h.1.2⟩).mono (Nat.le_succ n)
theorem rep_Terms : RepN w n 59 (slD 3 Term.d) (fun xs => xs.length ≤ maxLen ∧ ∀ x ∈ xs, TLb x) :=
 rep_slice (k := 3) Tryz.underlying59 (by kernel_rfl) (by decide) (fun _ => rfl) rep_Term
end
end Go.Proofs.YtekhnajfdaknnaaGreatDoor.S
end
section
namespace Go.Proofs.YtekhnajfdaknnaaGreatDoor.S
open Go.RowKit

section
variable {P : Program}
theorem Op.quo {d : Nat} {x y : Operand} {k : IntKind} {m n r : Int} {rs rs' : List (Nat × V)} {xt yt ty : TypeId} {pos af gd} (h : OV x (vi k m) rs) (h' : OV y (vi k n) rs') (hn : n ≠ 0) (he : m.tdiv n = r) (hr : k.wrap r = r) :
  OpOk P ⟨some d, .binOp .quo xt x y yt, ty, pos, af, gd⟩ { rs := rs ++ rs', ws := [(d, some (vi k r))] } := by
 refine Op.raw2 rfl h h' rfl fun ρ w h1 h2 => ?_
 simp [execOp, h1, h2, eqGuard, binOp, Op.intDiv, hn, he, hr, go_sem]
theorem Op.rem {d : Nat} {x y : Operand} {k : IntKind} {m n r : Int} {rs rs' : List (Nat × V)} {xt yt ty : TypeId} {pos af gd} (h : OV x (vi k m) rs) (h' : OV y (vi k n) rs') (hn : n ≠ 0) (he : m.tmod n = r) :
  OpOk P ⟨some d, .binOp .rem xt x y yt, ty, pos, af, gd⟩ { rs := rs ++ rs', ws := [(d, some (vi k r))] } := by
 refine Op.raw2 rfl h h' rfl fun ρ w h1 h2 => ?_
 simp [execOp, h1, h2, eqGuard, binOp, Op.intDiv, hn, he, go_sem]
theorem Op.shr {d : Nat} {x y : Operand} {k k' : IntKind} {m r : Int} {n : Nat} {rs rs' : List (Nat × V)} {xt yt ty : TypeId} {pos af gd} (h : OV x (vi k m) rs) (h' : OV y (vi k' n) rs') (hb : n ≤ k.bits) (he : m.fdiv (2 ^ n) = r) :
  OpOk P ⟨some d, .binOp .shr xt x y yt, ty, pos, af, gd⟩ { rs := rs ++ rs', ws := [(d, some (vi k r))] } := by
 refine Op.raw2 rfl h h' rfl fun ρ w h1 h2 => ?_
 have hs : Op.shift .shr k m k' n = pure (.int k r) := by
  unfold Op.shift
  rw [if_neg (by omega)]
  simp only [Int.toNat_natCast, Nat.min_eq_left hb, he]
 simp [execOp, h1, h2, eqGuard, binOp, hs, go_sem]
end
end Go.Proofs.YtekhnajfdaknnaaGreatDoor.S
end
section
namespace Go.Proofs.YtekhnajfdaknnaaGreatDoor.S
open Go.RowKit

theorem ib_0 : Bodied Tryz.prog 27 := Bodied.mk' (by kernel_rfl)
theorem ib_1 : Bodied Tryz.prog 52 := Bodied.mk' (by kernel_rfl)
theorem ib_4 : Bodied Tryz.prog 74 := Bodied.mk' (by kernel_rfl)
theorem ib_5 : Bodied Tryz.prog 34 := Bodied.mk' (by kernel_rfl)
theorem ib_7 : Bodied Tryz.prog 64 := Bodied.mk' (by kernel_rfl)
theorem ib_8 : Bodied Tryz.prog 104 := Bodied.mk' (by kernel_rfl)
theorem ib_10 : ElZ Tryz.prog 24 67 1 := ElZ.mk' Tryz.underlying24 _ _ rfl rfl (by kernel_rfl) (by kernel_rfl) (by kernel_rfl) (by decide)
theorem iv_true (n : List Nat) : iv true n = -(Go.Proofs.YtekhnajfdaknnaaGreatDoor.val n : Int) := rfl
theorem iv_false (n : List Nat) : iv false n = (Go.Proofs.YtekhnajfdaknnaaGreatDoor.val n : Int) := rfl
theorem val_neg {x : ZI} (h : x.val < 0) : x.val = -(Go.Proofs.YtekhnajfdaknnaaGreatDoor.val x.abs : Int) := by
 unfold ZI.val at h ⊢
 cases hn : x.neg with
 | true => rfl
 | false => rw [hn, iv_false] at h; omega
theorem val_pos {x : ZI} (h : 0 ≤ x.val) : x.val = (Go.Proofs.YtekhnajfdaknnaaGreatDoor.val x.abs : Int) := by
 unfold ZI.val at h ⊢
 cases hn : x.neg with
 | false => rfl
 | true => rw [hn, iv_true] at h; rw [iv_true]; omega
theorem sgn_lt_t {z : Int} (h : z < 0) : decide (sgn z < 0) = true := by rw [sgn_neg h]; rfl
theorem sgn_lt_f {z : Int} (h : 0 ≤ z) : decide (sgn z < 0) = false := decide_eq_false (mt sgn_lt_zero.1 (by omega))
theorem sgn_ge_t {z : Int} (h : 0 ≤ z) : decide (sgn z ≥ 0) = true := decide_eq_true (by have := mt (sgn_lt_zero (z := z)).1 (by omega); omega)
theorem sgn_ge_f {z : Int} (h : z < 0) : decide (sgn z ≥ 0) = false := by rw [sgn_neg h]; rfl
theorem SRAdd_pp (x y : ZI) (hx : Lb x.abs) (hy : Lb y.abs) (lx : x.abs.length ≤ 49000) (ly : y.abs.length ≤ 49000) (px : 0 ≤ x.val) (py : 0 ≤ y.val) : Fn Tryz.prog 34 [] [vz x, vz y] (vz (ZI.of (x.val + y.val))) [] := by
 refine Fn.body Tryz.func34 rfl 62 rfl fun w H B a h => ?_
 refine rSeq fam0ok 0 [] [(2, vp 0 0), (3, vp 1 0), (4, vp 2 0)] [(0, .box (zi x)), (1, .box (zi y)), (2, .box [.d (.raw (.bool false)), .d (nsl [])])] (by kernel_rfl) h ?_; clear h; intro a w h
 refine wp_seq ?_
 refine rSeq fam0ok 3 [(1, .call (SRSign x hx (by omega)) ib_0), (2, .cmp (op := .lss) (m := (sgn x.val)) (n := 0) (b := false) .i64 (sgn_lt_f px))] [(2, vp 0 0), (3, vp 1 0), (4, vp 2 0), (14, vb false)] [(0, .box (zi x)), (1, .box (zi y)), (2, .box [.d (.raw (.bool false)), .d (nsl [])])] (by kernel_rfl) h ?_; clear h; intro a w h
 refine condS false h rfl (fun hc => ?_) (fun hc => ?_)
 ·cases hc
 ·clear hc
  refine wp_skip ?_
  refine then_n ?_
  refine wp_seq ?_
  refine rSeq fam0ok 3 [(1, .call (SRSign x hx (by omega)) ib_0), (2, .cmp (op := .geq) (m := (sgn x.val)) (n := 0) (b := true) .i64 (sgn_ge_t px)), (5, .call (SRSign y hy (by omega)) ib_0), (6, .cmp (op := .geq) (m := (sgn y.val)) (n := 0) (b := true) .i64 (sgn_ge_t py))] [(2, vp 0 0), (3, vp 1 0), (4, vp 2 0), (28, vb true)] [(0, .box (zi x)), (1, .box (zi y)), (2, .box [.d (.raw (.bool false)), .d (nsl [])])] (by kernel_rfl) h ?_; clear h; intro a w h
  refine condS true h rfl (fun hc => ?_) (fun hc => ?_)
  ·clear hc
   obtain ⟨n4, en4, vn4, on4, ln4⟩ := mkN (v := Go.Proofs.YtekhnajfdaknnaaGreatDoor.val x.abs + Go.Proofs.YtekhnajfdaknnaaGreatDoor.val y.abs) (m := x.abs.length + y.abs.length + 1) (nadd_lt hx hy)
   obtain ⟨r5, er5, vr5, or5, lr5⟩ := mkZ (v := iv false n4) (m := n4.length) (len_iv on4)
   refine rSeq fam0ok 3 [(4, .call (Fn.cast (SRnAdd x.abs y.abs hx hy (by omega) (by omega)) (congrArg vn en4.symm)) ib_1), (5, .call (Fn.cast (SRFrom false n4 on4 (by omega)) (congrArg vz er5.symm)) ia_4)] [(2, vp 0 0), (3, vp 1 0), (4, vp 2 0)] [(0, .box (zi x)), (1, .box (zi y)), (2, .box (zi r5))] (by kernel_rfl) h ?_; clear h; intro a w h
   refine wp_ret ?_
   refine then_r ?_
   refine retS [.agg (zi r5)] h Exit.ret (.inl rfl)  rfl ⟨RV.agg _ 2 0 _ _ _ _ ia_1 rfl rfl rfl rfl, trivial⟩ ?_ (by kernel_rfl) (by kernel_rfl)
   refine congrArg (fun z => vz z) (er5.trans (congrArg ZI.of ?_))
   have ax := val_pos (x := x) px
   have ay := val_pos (x := y) py
   (try simp only [iv_true])
   (try simp only [iv_false])
   omega
  ·cases hc
theorem SRAdd_nn (x y : ZI) (hx : Lb x.abs) (hy : Lb y.abs) (lx : x.abs.length ≤ 49000) (ly : y.abs.length ≤ 49000) (px : x.val < 0) (py : y.val < 0) : Fn Tryz.prog 34 [] [vz x, vz y] (vz (ZI.of (x.val + y.val))) [] := by
 refine Fn.body Tryz.func34 rfl 62 rfl fun w H B a h => ?_
 refine rSeq fam0ok 0 [] [(2, vp 0 0), (3, vp 1 0), (4, vp 2 0)] [(0, .box (zi x)), (1, .box (zi y)), (2, .box [.d (.raw (.bool false)), .d (nsl [])])] (by kernel_rfl) h ?_; clear h; intro a w h
 refine wp_seq ?_
 refine rSeq fam0ok 3 [(1, .call (SRSign x hx (by omega)) ib_0), (2, .cmp (op := .lss) (m := (sgn x.val)) (n := 0) (b := true) .i64 (sgn_lt_t px)), (5, .call (SRSign y hy (by omega)) ib_0), (6, .cmp (op := .lss) (m := (sgn y.val)) (n := 0) (b := true) .i64 (sgn_lt_t py))] [(2, vp 0 0), (3, vp 1 0), (4, vp 2 0), (14, vb true)] [(0, .box (zi x)), (1, .box (zi y)), (2, .box [.d (.raw (.bool false)), .d (nsl [])])] (by kernel_rfl) h ?_; clear h; intro a w h
 refine condS true h rfl (fun hc => ?_) (fun hc => ?_)
 ·clear hc
  obtain ⟨n3, en3, vn3, on3, ln3⟩ := mkN (v := Go.Proofs.YtekhnajfdaknnaaGreatDoor.val x.abs + Go.Proofs.YtekhnajfdaknnaaGreatDoor.val y.abs) (m := x.abs.length + y.abs.length + 1) (nadd_lt hx hy)
  obtain ⟨r4, er4, vr4, or4, lr4⟩ := mkZ (v := iv true n3) (m := n3.length) (len_iv on3)
  refine rSeq fam0ok 3 [(4, .call (Fn.cast (SRnAdd x.abs y.abs hx hy (by omega) (by omega)) (congrArg vn en3.symm)) ib_1), (5, .call (Fn.cast (SRFrom true n3 on3 (by omega)) (congrArg vz er4.symm)) ia_4)] [(2, vp 0 0), (3, vp 1 0), (4, vp 2 0)] [(0, .box (zi x)), (1, .box (zi y)), (2, .box (zi r4))] (by kernel_rfl) h ?_; clear h; intro a w h
  refine wp_ret ?_
  refine then_r ?_
  refine retS [.agg (zi r4)] h Exit.ret (.inl rfl)  rfl ⟨RV.agg _ 2 0 _ _ _ _ ia_1 rfl rfl rfl rfl, trivial⟩ ?_ (by kernel_rfl) (by kernel_rfl)
  refine congrArg (fun z => vz z) (er4.trans (congrArg ZI.of ?_))
  have ax := val_neg (x := x) px
  have ay := val_neg (x := y) py
  (try simp only [iv_true])
  (try simp only [iv_false])
  omega
 ·cases hc
theorem SRAdd_pn (x y : ZI) (hx : Lb x.abs) (hy : Lb y.abs) (lx : x.abs.length ≤ 49000) (ly : y.abs.length ≤ 49000) (px : 0 ≤ x.val) (py : y.val < 0) : Fn Tryz.prog 34 [] [vz x, vz y] (vz (ZI.of (x.val + y.val))) [] := by
 refine Fn.body Tryz.func34 rfl 62 rfl fun w H B a h => ?_
 refine rSeq fam0ok 0 [] [(2, vp 0 0), (3, vp 1 0), (4, vp 2 0)] [(0, .box (zi x)), (1, .box (zi y)), (2, .box [.d (.raw (.bool false)), .d (nsl [])])] (by kernel_rfl) h ?_; clear h; intro a w h
 refine wp_seq ?_
 refine rSeq fam0ok 3 [(1, .call (SRSign x hx (by omega)) ib_0), (2, .cmp (op := .lss) (m := (sgn x.val)) (n := 0) (b := false) .i64 (sgn_lt_f px))] [(2, vp 0 0), (3, vp 1 0), (4, vp 2 0), (14, vb false)] [(0, .box (zi x)), (1, .box (zi y)), (2, .box [.d (.raw (.bool false)), .d (nsl [])])] (by kernel_rfl) h ?_; clear h; intro a w h
 refine condS false h rfl (fun hc => ?_) (fun hc => ?_)
 ·cases hc
 ·clear hc
  refine wp_skip ?_
  refine then_n ?_
  refine wp_seq ?_
  refine rSeq fam0ok 3 [(1, .call (SRSign x hx (by omega)) ib_0), (2, .cmp (op := .geq) (m := (sgn x.val)) (n := 0) (b := true) .i64 (sgn_ge_t px)), (5, .call (SRSign y hy (by omega)) ib_0), (6, .cmp (op := .geq) (m := (sgn y.val)) (n := 0) (b := false) .i64 (sgn_ge_f py))] [(2, vp 0 0), (3, vp 1 0), (4, vp 2 0), (28, vb false)] [(0, .box (zi x)), (1, .box (zi y)), (2, .box [.d (.raw (.bool false)), .d (nsl [])])] (by kernel_rfl) h ?_; clear h; intro a w h
  refine condS false h rfl (fun hc => ?_) (fun hc => ?_)
  ·cases hc
  ·clear hc
   refine wp_skip ?_
   refine then_n ?_
   refine wp_seq ?_
   refine rSeq fam0ok 3 [(1, .call (SRSign x hx (by omega)) ib_0), (2, .cmp (op := .lss) (m := (sgn x.val)) (n := 0) (b := false) .i64 (sgn_lt_f px))] [(2, vp 0 0), (3, vp 1 0), (4, vp 2 0), (37, vb false)] [(0, .box (zi x)), (1, .box (zi y)), (2, .box [.d (.raw (.bool false)), .d (nsl [])])] (by kernel_rfl) h ?_; clear h; intro a w h
   refine condS false h rfl (fun hc => ?_) (fun hc => ?_)
   ·cases hc
   ·clear hc
    refine wp_skip ?_
    refine then_n ?_
    obtain ⟨n5, en5, vn5, on5, ln5⟩ := mkN (v := Go.Proofs.YtekhnajfdaknnaaGreatDoor.val x.abs - Go.Proofs.YtekhnajfdaknnaaGreatDoor.val y.abs) (m := x.abs.length) (Nat.lt_of_le_of_lt (Nat.sub_le _ _) (val_lt hx))
    refine rSeq fam0ok 3 [(4, .call (Fn.cast (SRnSub x.abs y.abs hx hy (by omega) (by omega)) (show _ = (.tup [.c (.d (nsl n5)), .c (.d (.raw (.bool (decide (Go.Proofs.YtekhnajfdaknnaaGreatDoor.val y.abs ≤ Go.Proofs.YtekhnajfdaknnaaGreatDoor.val x.abs)))))] : V) by rw [en5])) ib_4)] [(2, vp 0 0), (3, vp 1 0), (4, vp 2 0), (5, vn n5), (6, vb (decide (Go.Proofs.YtekhnajfdaknnaaGreatDoor.val y.abs ≤ Go.Proofs.YtekhnajfdaknnaaGreatDoor.val x.abs)))] [(0, .box (zi x)), (1, .box (zi y)), (2, .box [.d (.raw (.bool false)), .d (nsl [])])] (by kernel_rfl) h ?_; clear h; intro a w h
    refine wp_seq ?_
    refine rSeq fam0ok 3 [] [(2, vp 0 0), (3, vp 1 0), (4, vp 2 0), (5, vn n5), (49, vb (decide (Go.Proofs.YtekhnajfdaknnaaGreatDoor.val y.abs ≤ Go.Proofs.YtekhnajfdaknnaaGreatDoor.val x.abs)))] [(0, .box (zi x)), (1, .box (zi y)), (2, .box [.d (.raw (.bool false)), .d (nsl [])])] (by kernel_rfl) h ?_; clear h; intro a w h
    refine condS (decide (Go.Proofs.YtekhnajfdaknnaaGreatDoor.val y.abs ≤ Go.Proofs.YtekhnajfdaknnaaGreatDoor.val x.abs)) h rfl (fun hc => ?_) (fun hc => ?_)
    ·have hc1 := hc; clear hc
     have hc1' := of_decide_eq_true hc1
     obtain ⟨r6, er6, vr6, or6, lr6⟩ := mkZ (v := iv false n5) (m := n5.length) (len_iv on5)
     refine rSeq fam0ok 3 [(1, .call (Fn.cast (SRFrom false n5 on5 (by omega)) (congrArg vz er6.symm)) ia_4)] [(2, vp 0 0), (3, vp 1 0), (4, vp 2 0), (5, vn n5)] [(0, .box (zi x)), (1, .box (zi y)), (2, .box (zi r6))] (by kernel_rfl) h ?_; clear h; intro a w h
     refine wp_ret ?_
     refine then_r ?_
     refine retS [.agg (zi r6)] h Exit.ret (.inl rfl)  rfl ⟨RV.agg _ 2 0 _ _ _ _ ia_1 rfl rfl rfl rfl, trivial⟩ ?_ (by kernel_rfl) (by kernel_rfl)
     refine congrArg (fun z => vz z) (er6.trans (congrArg ZI.of ?_))
     have ax := val_pos (x := x) px
     have ay := val_neg (x := y) py
     (try simp only [iv_true])
     (try simp only [iv_false])
     omega
    ·have hc2 := hc; clear hc
     have hc2' := of_decide_eq_false hc2
     refine wp_skip ?_
     refine then_n ?_
     obtain ⟨n7, en7, vn7, on7, ln7⟩ := mkN (v := Go.Proofs.YtekhnajfdaknnaaGreatDoor.val y.abs - Go.Proofs.YtekhnajfdaknnaaGreatDoor.val x.abs) (m := y.abs.length) (Nat.lt_of_le_of_lt (Nat.sub_le _ _) (val_lt hy))
     refine rSeq fam0ok 3 [(4, .call (Fn.cast (SRnSub y.abs x.abs hy hx (by omega) (by omega)) (show _ = (.tup [.c (.d (nsl n7)), .c (.d (.raw (.bool (decide (Go.Proofs.YtekhnajfdaknnaaGreatDoor.val x.abs ≤ Go.Proofs.YtekhnajfdaknnaaGreatDoor.val y.abs)))))] : V) by rw [en7])) ib_4)] [(4, vp 2 0), (5, vn n7)] [(2, .box [.d (.raw (.bool false)), .d (nsl [])])] (by kernel_rfl) h ?_; clear h; intro a w h
     obtain ⟨r8, er8, vr8, or8, lr8⟩ := mkZ (v := iv true n7) (m := n7.length) (len_iv on7)
     refine rSeq fam0ok 3 [(1, .call (Fn.cast (SRFrom true n7 on7 (by omega)) (congrArg vz er8.symm)) ia_4)] [(4, vp 2 0)] [(2, .box (zi r8))] (by kernel_rfl) h ?_; clear h; intro a w h
     refine wp_ret ?_
     refine retS [.agg (zi r8)] h Exit.ret (.inl rfl)  rfl ⟨RV.agg _ 2 0 _ _ _ _ ia_1 rfl rfl rfl rfl, trivial⟩ ?_ (by kernel_rfl) (by kernel_rfl)
     refine congrArg (fun z => vz z) (er8.trans (congrArg ZI.of ?_))
     have ax := val_pos (x := x) px
     have ay := val_neg (x := y) py
     (try simp only [iv_true])
     (try simp only [iv_false])
     omega
theorem SRAdd_np (x y : ZI) (hx : Lb x.abs) (hy : Lb y.abs) (lx : x.abs.length ≤ 49000) (ly : y.abs.length ≤ 49000) (px : x.val < 0) (py : 0 ≤ y.val) : Fn Tryz.prog 34 [] [vz x, vz y] (vz (ZI.of (x.val + y.val))) [] := by
 refine Fn.body Tryz.func34 rfl 62 rfl fun w H B a h => ?_
 refine rSeq fam0ok 0 [] [(2, vp 0 0), (3, vp 1 0), (4, vp 2 0)] [(0, .box (zi x)), (1, .box (zi y)), (2, .box [.d (.raw (.bool false)), .d (nsl [])])] (by kernel_rfl) h ?_; clear h; intro a w h
 refine wp_seq ?_
 refine rSeq fam0ok 3 [(1, .call (SRSign x hx (by omega)) ib_0), (2, .cmp (op := .lss) (m := (sgn x.val)) (n := 0) (b := true) .i64 (sgn_lt_t px)), (5, .call (SRSign y hy (by omega)) ib_0), (6, .cmp (op := .lss) (m := (sgn y.val)) (n := 0) (b := false) .i64 (sgn_lt_f py))] [(2, vp 0 0), (3, vp 1 0), (4, vp 2 0), (14, vb false)] [(0, .box (zi x)), (1, .box (zi y)), (2, .box [.d (.raw (.bool false)), .d (nsl [])])] (by kernel_rfl) h ?_; clear h; intro a w h
 refine condS false h rfl (fun hc => ?_) (fun hc => ?_)
 ·cases hc
 ·clear hc
  refine wp_skip ?_
  refine then_n ?_
  refine wp_seq ?_
  refine rSeq fam0ok 3 [(1, .call (SRSign x hx (by omega)) ib_0), (2, .cmp (op := .geq) (m := (sgn x.val)) (n := 0) (b := false) .i64 (sgn_ge_f px))] [(2, vp 0 0), (3, vp 1 0), (4, vp 2 0), (28, vb false)] [(0, .box (zi x)), (1, .box (zi y)), (2, .box [.d (.raw (.bool false)), .d (nsl [])])] (by kernel_rfl) h ?_; clear h; intro a w h
  refine condS false h rfl (fun hc => ?_) (fun hc => ?_)
  ·cases hc
  ·clear hc
   refine wp_skip ?_
   refine then_n ?_
   refine wp_seq ?_
   refine rSeq fam0ok 3 [(1, .call (SRSign x hx (by omega)) ib_0), (2, .cmp (op := .lss) (m := (sgn x.val)) (n := 0) (b := true) .i64 (sgn_lt_t px))] [(2, vp 0 0), (3, vp 1 0), (4, vp 2 0), (37, vb true)] [(0, .box (zi x)), (1, .box (zi y)), (2, .box [.d (.raw (.bool false)), .d (nsl [])])] (by kernel_rfl) h ?_; clear h; intro a w h
   refine condS true h rfl (fun hc => ?_) (fun hc => ?_)
   ·clear hc
    obtain ⟨r5, er5, vr5, or5, lr5⟩ := mkZ (v := y.val + x.val) (m := y.abs.length + x.abs.length + 1) (len_add hy hx)
    refine rSeq fam0ok 3 [(2, .call (Fn.cast (SRAdd_pn y x hy hx ly lx py px) (congrArg vz er5.symm)) ib_5)] [(2, vp 0 0), (3, vp 1 0), (4, vp 2 0)] [(0, .box (zi x)), (1, .box (zi y)), (2, .box (zi r5))] (by kernel_rfl) h ?_; clear h; intro a w h
    refine wp_ret ?_
    refine then_r ?_
    refine retS [.agg (zi r5)] h Exit.ret (.inl rfl)  rfl ⟨RV.agg _ 2 0 _ _ _ _ ia_1 rfl rfl rfl rfl, trivial⟩ ?_ (by kernel_rfl) (by kernel_rfl)
    refine congrArg (fun z => vz z) (er5.trans (congrArg ZI.of ?_))
    omega
   ·cases hc
theorem SRAdd (x y : ZI) (hx : Lb x.abs) (hy : Lb y.abs) (lx : x.abs.length ≤ 49000) (ly : y.abs.length ≤ 49000) : Fn Tryz.prog 34 [] [vz x, vz y] (vz (ZI.of (x.val + y.val))) [] := by
 by_cases px : x.val < 0 <;> by_cases py : y.val < 0
 ·exact SRAdd_nn x y hx hy lx ly px py
 ·exact SRAdd_np x y hx hy lx ly px (by omega)
 ·exact SRAdd_pn x y hx hy lx ly (by omega) py
 ·exact SRAdd_pp x y hx hy lx ly (by omega) (by omega)
theorem sgn_cases (x : ZI) : (sgn x.val = -1 ∧ x.val = -(Go.Proofs.YtekhnajfdaknnaaGreatDoor.val x.abs : Int)) ∨ (sgn x.val = 0 ∧ (Go.Proofs.YtekhnajfdaknnaaGreatDoor.val x.abs : Int) = 0 ∧ x.val = 0) ∨ (sgn x.val = 1 ∧ x.val = (Go.Proofs.YtekhnajfdaknnaaGreatDoor.val x.abs : Int)) := by
 rcases Int.lt_trichotomy x.val 0 with h | h | h
 ·exact .inl ⟨sgn_neg h, val_neg h⟩
 ·have := val_pos (x := x) (by omega)
  exact .inr (.inl ⟨sgn_zero h, by omega, h⟩)
 ·exact .inr (.inr ⟨sgn_pos h, val_pos (by omega)⟩)
theorem SRSame (x y : ZI) (hx : Lb x.abs) (hy : Lb y.abs) : Fn Tryz.prog 17 [] [vz x, vz y] (vb (x.neg == y.neg && decide (x.abs = y.abs))) [] := by
 refine Fn.body Tryz.func17 rfl 17 rfl fun w H B a h => ?_
 refine rSeq fam0ok 0 [] [(2, vp 0 0), (3, vp 1 0), (4, vb false)] [(0, .box (zi x)), (1, .box (zi y))] (by kernel_rfl) h ?_; clear h; intro a w h
 rcases Bool.eq_false_or_eq_true (x.neg == y.neg) with hc | hc
 ·have hc1 := hc; clear hc
  have hc1' := hc1; (try simp at hc1')
  refine rSeq fam0ok 2 [(4, .cmpb .eql (m := x.neg) (n := y.neg) (b := true) (.inl ⟨rfl, hc1.symm⟩)), (10, .call (SRnSame x.abs y.abs hx hy) ib_7)] [(4, vb (decide (x.abs = y.abs)))] [] (by kernel_rfl) h ?_; clear h; intro a w h
  refine wp_ret ?_
  refine retS [.c (.d (.raw (.bool (decide (x.abs = y.abs)))))] h Exit.ret (.inl rfl)  rfl ⟨RV.tmp _ _ rfl, trivial⟩ ?_ (by kernel_rfl) (by kernel_rfl)
  rw [hc1]; first | done | rfl
 ·have hc2 := hc; clear hc
  have hc2' := hc2; (try simp at hc2')
  refine rSeq fam0ok 2 [(4, .cmpb .eql (m := x.neg) (n := y.neg) (b := false) (.inl ⟨rfl, hc2.symm⟩))] [(4, vb false)] [] (by kernel_rfl) h ?_; clear h; intro a w h
  refine wp_ret ?_
  refine retS [.c (.d (.raw (.bool false)))] h Exit.ret (.inl rfl)  rfl ⟨RV.tmp _ _ rfl, trivial⟩ ?_ (by kernel_rfl) (by kernel_rfl)
  rw [hc2]; first | done | rfl
theorem val_one (a : Nat) : Go.Proofs.YtekhnajfdaknnaaGreatDoor.val [a] = a := by simp [Go.Proofs.YtekhnajfdaknnaaGreatDoor.val]
theorem val_two (a b : Nat) : Go.Proofs.YtekhnajfdaknnaaGreatDoor.val [a, b] = a + 4294967296 * b := by simp [Go.Proofs.YtekhnajfdaknnaaGreatDoor.val]
theorem SOf (E : Int) (hI : -9223372036854775808 ≤ E ∧ E ≤ 9223372036854775807) : Fn Tryz.prog 72 [] [vi .i64 E] (vz (ZI.of (E))) [] := by
 refine Fn.body Tryz.func72 rfl 16 rfl fun w H B a h => ?_
 refine rSeq fam0ok 0 [] [(0, vi .i64 E), (2, vp 0 0)] [(0, .box [.d (.raw (.bool false)), .d (nsl [])])] (by kernel_rfl) h ?_; clear h; intro a w h
 refine wp_seq ?_
 refine rSeq fam0ok 1 [] [(0, vi .i64 E), (2, vp 0 0), (4, vb (decide (E < 0)))] [(0, .box [.d (.raw (.bool false)), .d (nsl [])])] (by kernel_rfl) h ?_; clear h; intro a w h
 refine condS (decide (E < 0)) h rfl (fun hc => ?_) (fun hc => ?_)
 ·have hc1 := hc; clear hc
  have hc1' := of_decide_eq_true hc1
  obtain ⟨n1, en1, vn1, on1, ln1⟩ := mkN (v := ((-(E + 1)) + 1).toNat) (m := 2) (by have := pw2; omega)
  obtain ⟨r2, er2, vr2, or2, lr2⟩ := mkZ (v := iv true n1) (m := n1.length) (len_iv on1)
  refine rSeq fam0ok 1 [(1, .add .i64 (m := E) (n := 1) (i64_id (by omega) (by omega))), (2, .neg .i64 (m := (E + 1)) (i64_id (by omega) (by omega))), (3, .conv .i64 .u64 (m := (-(E + 1))) (u64_id (by omega) (by omega))), (4, .add .u64 (m := (-(E + 1))) (n := 1) (u64_id (by omega) (by omega))), (5, .call (Fn.cast (SnOf ((-(E + 1)) + 1) (by omega) (by omega)) (congrArg vn en1.symm)) ib_8), (6, .call (Fn.cast (SFrom true n1 on1 (by omega)) (congrArg vz er2.symm)) ia_3)] [(0, vi .i64 E), (2, vp 0 0)] [(0, .box (zi r2))] (by kernel_rfl) h ?_; clear h; intro a w h
  refine wp_ret ?_
  refine then_r ?_
  refine retS [.agg (zi r2)] h Exit.ret (.inl rfl)  rfl ⟨RV.agg _ 0 0 _ _ _ _ ia_1 rfl rfl rfl rfl, trivial⟩ ?_ (by kernel_rfl) (by kernel_rfl)
  refine congrArg (fun z => vz z) (er2.trans (congrArg ZI.of ?_))
  (try simp only [iv_true])
  (try simp only [iv_false])
  omega
 ·have hc2 := hc; clear hc
  have hc2' := of_decide_eq_false hc2
  refine wp_skip ?_
  refine then_n ?_
  obtain ⟨n3, en3, vn3, on3, ln3⟩ := mkN (v := (E).toNat) (m := 2) (by have := pw2; omega)
  obtain ⟨r4, er4, vr4, or4, lr4⟩ := mkZ (v := iv false n3) (m := n3.length) (len_iv on3)
  refine rSeq fam0ok 1 [(1, .conv .i64 .u64 (m := E) (u64_id (by omega) (by omega))), (2, .call (Fn.cast (SnOf E (by omega) (by omega)) (congrArg vn en3.symm)) ib_8), (3, .call (Fn.cast (SFrom false n3 on3 (by omega)) (congrArg vz er4.symm)) ia_3)] [(2, vp 0 0)] [(0, .box (zi r4))] (by kernel_rfl) h ?_; clear h; intro a w h
  refine wp_ret ?_
  refine retS [.agg (zi r4)] h Exit.ret (.inl rfl)  rfl ⟨RV.agg _ 0 0 _ _ _ _ ia_1 rfl rfl rfl rfl, trivial⟩ ?_ (by kernel_rfl) (by kernel_rfl)
  refine congrArg (fun z => vz z) (er4.trans (congrArg ZI.of ?_))
  (try simp only [iv_true])
  (try simp only [iv_false])
  omega
theorem SROf (E : Int) (hI : -9223372036854775808 ≤ E ∧ E ≤ 9223372036854775807) : Fn Tryz.prog 12 [] [vi .i64 E] (vz (ZI.of (E))) [] := by
 refine Fn.body Tryz.func12 rfl 29 rfl fun w H B a h => ?_
 refine rSeq fam0ok 0 [] [(0, vi .i64 E), (2, vp 0 0)] [(0, .box [.d (.raw (.bool false)), .d (nsl [])])] (by kernel_rfl) h ?_; clear h; intro a w h
 refine wp_seq ?_
 refine rSeq fam0ok 1 [] [(0, vi .i64 E), (2, vp 0 0), (6, vb (decide (E ≥ 0)))] [(0, .box [.d (.raw (.bool false)), .d (nsl [])])] (by kernel_rfl) h ?_; clear h; intro a w h
 refine condS (decide (E ≥ 0)) h rfl (fun hc => ?_) (fun hc => ?_)
 ·have hc1 := hc; clear hc
  have hc1' := of_decide_eq_true hc1
  obtain ⟨q0, hq0⟩ : ∃ z_ : Nat, E % 4294967296 = (z_ : Int) := ⟨(E % 4294967296).toNat, by omega⟩
  obtain ⟨q1, hq1⟩ : ∃ z_ : Nat, E / 4294967296 = (z_ : Int) := ⟨(E / 4294967296).toNat, by omega⟩
  obtain ⟨r1, er1, vr1, or1, lr1⟩ := mkZ (v := iv false [q0, q1]) (m := [q0, q1].length) (len_iv (show Lb [q0, q1] from by intro z hz; simp at hz; omega))
  refine rSeq fam0ok 1 [(1, .gen _ _ _ fun _ _ _ _ => Op.rem (d := 8) (xt := 2) (yt := 2) (k := .i64) (m := E) (n := 4294967296) (r := (q0 : Int)) (OV.tmp 7 _) (OV.const (.int .i64 4294967296) rfl) (by decide) ((Int.tmod_eq_emod_of_nonneg (by omega)).trans hq0)), (2, .conv .i64 .u32 (m := (q0 : Int)) (u32_id (by omega) (by omega))), (4, .gen _ _ _ fun _ _ _ _ => Op.quo (d := 11) (xt := 2) (yt := 2) (k := .i64) (m := E) (n := 4294967296) (r := (q1 : Int)) (OV.tmp 10 _) (OV.const (.int .i64 4294967296) rfl) (by decide) ((Int.tdiv_eq_ediv_of_nonneg (by omega)).trans hq1) (i64_id (by omega) (by omega))), (5, .conv .i64 .u32 (m := (q1 : Int)) (u32_id (by omega) (by omega))), (6, .gen _ _ _ fun _ _ _ _ => Op.buildD (d := 13) (len := 2) (rows := [[.raw (.int .u32 (q0 : Nat))], [.raw (.int .u32 (q1 : Nat))]]) (rs := [(9, vi .u32 (q0 : Int)), (12, vi .u32 (q1 : Int))]) ib_10 (.cons (i := 0) (OV.tmp 9 _) (.cons (i := 1) (OV.tmp 12 _) (.nil))) (by kernel_rfl) rfl (by simp) (by decide) (by decide)), (7, .call (Fn.cast (SRFrom false [q0, q1] (show Lb [q0, q1] from by intro z hz; simp at hz; omega) (by first | omega | simp)) (congrArg vz er1.symm)) ia_4)] [(0, vi .i64 E), (2, vp 0 0)] [(0, .box (zi r1))] (by kernel_rfl) h ?_; clear h; intro a w h
  refine wp_ret ?_
  refine then_r ?_
  refine retS [.agg (zi r1)] h Exit.ret (.inl rfl)  rfl ⟨RV.agg _ 0 0 _ _ _ _ ia_1 rfl rfl rfl rfl, trivial⟩ ?_ (by kernel_rfl) (by kernel_rfl)
  refine congrArg (fun z => vz z) (er1.trans (congrArg ZI.of ?_))
  (try simp only [iv_true])
  (try simp only [iv_false])
  (try rw [vn1])
  (try simp only [val_two] at *)
  (try simp only [val_one] at *)
  omega
 ·have hc2 := hc; clear hc
  have hc2' := of_decide_eq_false hc2
  refine wp_skip ?_
  refine then_n ?_
  refine rSeq fam0ok 1 [(1, .add .i64 (m := E) (n := 1) (i64_id (by omega) (by omega))), (2, .sub .i64 (m := 0) (n := (E + 1)) (i64_id (by omega) (by omega)))] [(2, vp 0 0), (3, vi .i64 (0 - (E + 1)))] [(0, .box [.d (.raw (.bool false)), .d (nsl [])])] (by kernel_rfl) h ?_; clear h; intro a w h
  obtain ⟨q2, hq2⟩ : ∃ z_ : Nat, (0 - (E + 1)) % 4294967296 = (z_ : Int) := ⟨((0 - (E + 1)) % 4294967296).toNat, by omega⟩
  obtain ⟨q3, hq3⟩ : ∃ z_ : Nat, (0 - (E + 1)) / 4294967296 = (z_ : Int) := ⟨((0 - (E + 1)) / 4294967296).toNat, by omega⟩
  refine rSeq fam0ok 1 [(1, .gen _ _ _ fun _ _ _ _ => Op.rem (d := 19) (xt := 2) (yt := 2) (k := .i64) (m := (0 - (E + 1))) (n := 4294967296) (r := (q2 : Int)) (OV.tmp 18 _) (OV.const (.int .i64 4294967296) rfl) (by decide) ((Int.tmod_eq_emod_of_nonneg (by omega)).trans hq2)), (2, .conv .i64 .u32 (m := (q2 : Int)) (u32_id (by omega) (by omega))), (4, .gen _ _ _ fun _ _ _ _ => Op.quo (d := 22) (xt := 2) (yt := 2) (k := .i64) (m := (0 - (E + 1))) (n := 4294967296) (r := (q3 : Int)) (OV.tmp 21 _) (OV.const (.int .i64 4294967296) rfl) (by decide) ((Int.tdiv_eq_ediv_of_nonneg (by omega)).trans hq3) (i64_id (by omega) (by omega))), (5, .conv .i64 .u32 (m := (q3 : Int)) (u32_id (by omega) (by omega))), (6, .gen _ _ _ fun _ _ _ _ => Op.buildD (d := 24) (len := 2) (rows := [[.raw (.int .u32 (q2 : Nat))], [.raw (.int .u32 (q3 : Nat))]]) (rs := [(20, vi .u32 (q2 : Int)), (23, vi .u32 (q3 : Int))]) ib_10 (.cons (i := 0) (OV.tmp 20 _) (.cons (i := 1) (OV.tmp 23 _) (.nil))) (by kernel_rfl) rfl (by simp) (by decide) (by decide))] [(2, vp 0 0), (4, vn [q2, q3])] [(0, .box [.d (.raw (.bool false)), .d (nsl [])])] (by kernel_rfl) h ?_; clear h; intro a w h
  obtain ⟨n2, en2, vn2, on2, ln2⟩ := mkN (v := Go.Proofs.YtekhnajfdaknnaaGreatDoor.val [q2, q3] + Go.Proofs.YtekhnajfdaknnaaGreatDoor.val [1]) (m := 4) (nadd_lt (xs := [q2, q3]) (ys := [1]) (show Lb [q2, q3] from by intro z hz; simp at hz; omega) (show Lb [1] from by intro z hz; simp at hz; omega))
  obtain ⟨r3, er3, vr3, or3, lr3⟩ := mkZ (v := iv true n2) (m := n2.length) (len_iv on2)
  refine rSeq fam0ok 1 [(1, .gen _ _ _ fun _ _ _ _ => Op.buildD (d := 26) (len := 1) (rows := [[.raw (.int .u32 (1 : Nat))]]) (rs := []) ib_10 (.cons (i := 0) (OV.const (.int .u32 1) rfl) (.nil)) (by kernel_rfl) rfl (by simp) (by decide) (by decide)), (2, .call (Fn.cast (SRnAdd [q2, q3] [1] (show Lb [q2, q3] from by intro z hz; simp at hz; omega) (show Lb [1] from by intro z hz; simp at hz; omega) (by simp) (by simp)) (congrArg vn en2.symm)) ib_1), (3, .call (Fn.cast (SRFrom true n2 on2 (by first | omega | simp)) (congrArg vz er3.symm)) ia_4)] [(2, vp 0 0)] [(0, .box (zi r3))] (by kernel_rfl) h ?_; clear h; intro a w h
  refine wp_ret ?_
  refine retS [.agg (zi r3)] h Exit.ret (.inl rfl)  rfl ⟨RV.agg _ 0 0 _ _ _ _ ia_1 rfl rfl rfl rfl, trivial⟩ ?_ (by kernel_rfl) (by kernel_rfl)
  refine congrArg (fun z => vz z) (er3.trans (congrArg ZI.of ?_))
  (try simp only [iv_true])
  (try simp only [iv_false])
  (try rw [vn2])
  (try simp only [val_two] at *)
  (try simp only [val_one] at *)
  omega
end Go.Proofs.YtekhnajfdaknnaaGreatDoor.S
end
section
namespace Go.Proofs.YtekhnajfdaknnaaGreatDoor.S
open Go.RowKit

theorem ta_0 : SlT Tryz.prog 22 32 3 := SlT.mk' Tryz.underlying22 (by kernel_rfl)
def coefZ : List Part → Int → Int
  | [], _ => 0
  | p :: ps, v => (if p.v = v ∧ 0 ≤ v then p.c.val else 0) + coefZ ps v
theorem coefZ_app (ps qs : List Part) (v : Int) : coefZ (ps ++ qs) v = coefZ ps v + coefZ qs v := by
 induction ps with
 | nil => simp [coefZ]
 | cons p ps ih => simp only [List.cons_append, coefZ, ih]; omega
theorem coefZ_take {ps : List Part} {j : Nat} {p : Part} (h : ps[j]? = some p) (v : Int) : coefZ (ps.take (j + 1)) v = coefZ (ps.take j) v + (if p.v = v ∧ 0 ≤ v then p.c.val else 0) := by
 have : ps.take (j + 1) = ps.take j ++ [p] := by rw [List.take_add_one, h]; rfl
 rw [this, coefZ_app]; simp [coefZ]
def PsOk (L : Nat) (ps : List Part) : Prop := ps.length ≤ 1000 ∧ ∀ p ∈ ps, Lb p.c.abs ∧ p.c.abs.length ≤ L
theorem PsOk.take {L : Nat} {ps : List Part} (h : PsOk L ps) (j : Nat) : PsOk L (ps.take j) := ⟨by rw [List.length_take]; have := h.1; omega, fun p hp => h.2 p (List.mem_of_mem_take hp)⟩
theorem PsOk.get {L : Nat} {ps : List Part} (h : PsOk L ps) {j : Nat} {p : Part} (hp : ps[j]? = some p) : Lb p.c.abs ∧ p.c.abs.length ≤ L := h.2 p (List.mem_of_getElem? hp)
theorem coefZ_lt {L : Nat} : ∀ {ps : List Part}, (∀ p ∈ ps, Lb p.c.abs ∧ p.c.abs.length ≤ L) → ∀ v, (coefZ ps v).natAbs ≤ ps.length * pw L
 | [], _, v => by simp [coefZ]
 | p :: ps, h, v => by
  have ih := coefZ_lt (fun q hq => h q (by simp [hq])) v (ps := ps)
  obtain ⟨h1, h2⟩ := h p (by simp)
  have h3 := ZI.abs_lt h1
  have h4 := pw_le h2
  simp only [coefZ, List.length_cons, Nat.add_mul]
  split <;> omega
theorem coef_len {L : Nat} {ps : List Part} (h : PsOk L ps) (v : Int) : (ZI.of (coefZ ps v)).abs.length ≤ L + 1 := by
 refine ZI.len_of ?_
 have h1 := coefZ_lt h.2 v
 have h2 : ps.length * pw L ≤ 1000 * pw L := Nat.mul_le_mul_right _ h.1
 have h3 := pw_pos L
 rw [pw_succ]
 omega
theorem SCoef (t : Term) (v : Int) (ht : PsOk 40000 t.parts) : Fn Tryz.prog 19 [] [.t (.agg ([.d (.sl 3 (t.parts.map Part.d))] ++ zi t.k)), vi .i64 v] (vz (ZI.of (coefZ t.parts v))) [] := by
 refine Fn.body Tryz.func19 rfl 36 rfl fun w H B a h => ?_
 refine rSeq fam0ok 0 [] [(1, vi .i64 v), (2, vp 0 0), (4, vp 1 0)] [(0, .box ([.d (.sl 3 (t.parts.map Part.d))] ++ zi t.k)), (1, .box [.d (.raw (.bool false)), .d (nsl [])])] (by kernel_rfl) h ?_; clear h; intro a w h
 refine rSeq fam0ok 2 [] [(1, vi .i64 v), (2, vp 0 0), (4, vp 1 0), (5, vp 2 0)] [(0, .box ([.d (.sl 3 (t.parts.map Part.d))] ++ zi t.k)), (1, .box [.d (.raw (.bool false)), .d (nsl [])]), (2, .box [.d (.raw (.bool false)), .d (nsl [])])] (by kernel_rfl) h ?_; clear h; intro a w h
 refine wp_seq ?_
 refine rSeq fam0ok 3 [] [(1, vi .i64 v), (2, vp 0 0), (4, vp 1 0), (5, vp 2 0), (6, vi .i64 0)] [(0, .box ([.d (.sl 3 (t.parts.map Part.d))] ++ zi t.k)), (1, .box [.d (.raw (.bool false)), .d (nsl [])]), (2, .box [.d (.raw (.bool false)), .d (nsl [])])] (by kernel_rfl) h ?_; clear h; intro a w h
 refine wp_block ?_
 refine loopS (ι := (Nat) × (ZI)) (fun (z_ : (Nat) × (ZI)) => match z_ with | (j, out) => out = ZI.of (coefZ (t.parts.take j) v) ∧ j ≤ t.parts.length)
   (fun (z_ : (Nat) × (ZI)) => match z_ with | (j, out) => [(1, vi .i64 v), (2, vp 0 0), (4, vp 1 0), (5, vp 2 0), (6, vi .i64 (j : Int))])
   (fun (z_ : (Nat) × (ZI)) => match z_ with | (j, out) => [(0, .box ([.d (.sl 3 (t.parts.map Part.d))] ++ zi t.k)), (1, .box [.d (.raw (.bool false)), .d (nsl [])]), (2, .box (zi out))])
   (fun (z_ : (Nat) × (ZI)) => match z_ with | (j, out) => t.parts.length - j) (0, (ZI.of 0)) ?_ h (by kernel_rfl) (by kernel_rfl) ?_
 ·exact ⟨by simp [coefZ], Nat.zero_le _⟩
 ·clear h; rintro ⟨j, out⟩ a w hI h
  change St _ (F.of [(1, vi .i64 v), (2, vp 0 0), (4, vp 1 0), (5, vp 2 0), (6, vi .i64 (j : Int))] [(0, .box ([.d (.sl 3 (t.parts.map Part.d))] ++ zi t.k)), (1, .box [.d (.raw (.bool false)), .d (nsl [])]), (2, .box (zi out))]) a w at h
  obtain ⟨hI1, hI2⟩ := hI
  have ln := ht.1
  have lo : out.abs.length ≤ 40001 := by rw [hI1]; exact coef_len (ht.take j) v
  have ho : Lb out.abs := by rw [hI1]; exact ZI.lb_of _
  have vo : out.val = coefZ (t.parts.take j) v := by rw [hI1]; exact ZI.val_of _
  refine wp_seq ?_
  refine rSeq fam0ok 3 [(3, .len (c := (.d (.sl 3 (t.parts.map Part.d)))) (n := t.parts.length) (lenC_map _ _ _))] [(1, vi .i64 v), (2, vp 0 0), (4, vp 1 0), (5, vp 2 0), (6, vi .i64 (j : Int)), (12, vb (decide ((j : Int) < (t.parts.length : Int))))] [(0, .box ([.d (.sl 3 (t.parts.map Part.d))] ++ zi t.k)), (1, .box [.d (.raw (.bool false)), .d (nsl [])]), (2, .box (zi out))] (by kernel_rfl) h ?_; clear h; intro a w h
  refine condS (decide ((j : Int) < (t.parts.length : Int))) h rfl (fun hc => ?_) (fun hc => ?_)
  ·have hc1 := hc; clear hc
   have hc1' := of_decide_eq_true hc1
   refine wp_skip ?_
   refine then_n ?_
   refine wp_seq ?_
   refine wp_block ?_
   obtain ⟨x1, hx1⟩ : ∃ z_ : Part, t.parts[j]? = some z_ := ⟨_, List.getElem?_eq_getElem (by first | omega | (simp at *; omega))⟩
   obtain ⟨ox1, lx1⟩ := ht.get hx1
   rcases Bool.eq_false_or_eq_true (x1.v == v) with hc | hc
   ·have hc2 := hc; clear hc
    have hc2' := hc2; (try simp at hc2')
    refine rSeq fam0ok 3 [(3, .gen _ _ _ fun _ _ _ _ => Op.idxD (d := 18) (t := 16) (k := .i64) ta_0 (map_at hx1 (f := Part.d)) (OV.tmp 17 _)), (7, .cmp (op := .eql) (m := x1.v) (n := v) (b := true) .i64 hc2)] [(1, vi .i64 v), (2, vp 0 0), (4, vp 1 0), (5, vp 2 0), (6, vi .i64 (j : Int)), (26, vb (decide (v ≥ 0)))] [(0, .box ([.d (.sl 3 (t.parts.map Part.d))] ++ zi t.k)), (1, .box [.d (.raw (.bool false)), .d (nsl [])]), (2, .box (zi out))] (by kernel_rfl) h ?_; clear h; intro a w h
    refine condS (decide (v ≥ 0)) h rfl (fun hc => ?_) (fun hc => ?_)
    ·have hc3 := hc; clear hc
     have hc3' := of_decide_eq_true hc3
     obtain ⟨r2, er2, vr2, or2, lr2⟩ := mkZ (v := out.val + x1.c.val) (m := out.abs.length + x1.c.abs.length + 1) (len_add ho ox1)
     refine rS fam0ok 3 [(4, .gen _ _ _ fun _ _ _ _ => Op.idxD (d := 31) (t := 29) (k := .i64) ta_0 (map_at hx1 (f := Part.d)) (OV.tmp 30 _)), (7, .call (Fn.cast (SRAdd out x1.c ho ox1 (by omega) (by omega)) (congrArg vz er2.symm)) ib_5)] [(1, vi .i64 v), (2, vp 0 0), (4, vp 1 0), (5, vp 2 0), (6, vi .i64 (j : Int))] [(0, .box ([.d (.sl 3 (t.parts.map Part.d))] ++ zi t.k)), (1, .box [.d (.raw (.bool false)), .d (nsl [])]), (2, .box (zi r2))] (by kernel_rfl) h ?_; clear h; intro a w h
     refine block_n ?_
     refine then_n ?_
     refine rS fam0ok 3 [(1, .add .i64 (m := (j : Int)) (n := 1) (i64_id (by omega) (by omega)))] [(1, vi .i64 v), (2, vp 0 0), (4, vp 1 0), (5, vp 2 0), (6, vi .i64 ((j : Int) + 1))] [(0, .box ([.d (.sl 3 (t.parts.map Part.d))] ++ zi t.k)), (1, .box [.d (.raw (.bool false)), .d (nsl [])]), (2, .box (zi r2))] (by kernel_rfl) h ?_; clear h; intro a w h
     refine then_n ?_
     refine roundS (x := (j, out)) (y := (j + 1, r2)) h ?_ ?_ (by kernel_rfl) (by kernel_rfl)
     ·have hc : x1.v = v ∧ 0 ≤ v := ⟨by simpa using hc2, by have := hc3'; omega⟩
      exact ⟨by rw [er2, vo, coefZ_take hx1, if_pos hc], by have := (List.getElem?_eq_some_iff.1 hx1).1; omega⟩
     ·simp; omega
    ·have hc4 := hc; clear hc
     have hc4' := of_decide_eq_false hc4
     refine wp_skip ?_
     refine block_n ?_
     refine then_n ?_
     refine rS fam0ok 3 [(1, .add .i64 (m := (j : Int)) (n := 1) (i64_id (by omega) (by omega)))] [(1, vi .i64 v), (2, vp 0 0), (4, vp 1 0), (5, vp 2 0), (6, vi .i64 ((j : Int) + 1))] [(0, .box ([.d (.sl 3 (t.parts.map Part.d))] ++ zi t.k)), (1, .box [.d (.raw (.bool false)), .d (nsl [])]), (2, .box (zi out))] (by kernel_rfl) h ?_; clear h; intro a w h
     refine then_n ?_
     refine roundS (x := (j, out)) (y := (j + 1, out)) h ?_ ?_ (by kernel_rfl) (by kernel_rfl)
     ·exact ⟨by rw [hI1, coefZ_take hx1, if_neg (fun hc => absurd hc.2 (by have := hc4'; omega)), Int.add_zero], by have := (List.getElem?_eq_some_iff.1 hx1).1; omega⟩
     ·simp; omega
   ·have hc5 := hc; clear hc
    have hc5' := hc5; (try simp at hc5')
    refine rSeq fam0ok 3 [(3, .gen _ _ _ fun _ _ _ _ => Op.idxD (d := 18) (t := 16) (k := .i64) ta_0 (map_at hx1 (f := Part.d)) (OV.tmp 17 _)), (7, .cmp (op := .eql) (m := x1.v) (n := v) (b := false) .i64 hc5)] [(1, vi .i64 v), (2, vp 0 0), (4, vp 1 0), (5, vp 2 0), (6, vi .i64 (j : Int)), (26, vb false)] [(0, .box ([.d (.sl 3 (t.parts.map Part.d))] ++ zi t.k)), (1, .box [.d (.raw (.bool false)), .d (nsl [])]), (2, .box (zi out))] (by kernel_rfl) h ?_; clear h; intro a w h
    refine condS false h rfl (fun hc => ?_) (fun hc => ?_)
    ·cases hc
    ·clear hc
     refine wp_skip ?_
     refine block_n ?_
     refine then_n ?_
     refine rS fam0ok 3 [(1, .add .i64 (m := (j : Int)) (n := 1) (i64_id (by omega) (by omega)))] [(1, vi .i64 v), (2, vp 0 0), (4, vp 1 0), (5, vp 2 0), (6, vi .i64 ((j : Int) + 1))] [(0, .box ([.d (.sl 3 (t.parts.map Part.d))] ++ zi t.k)), (1, .box [.d (.raw (.bool false)), .d (nsl [])]), (2, .box (zi out))] (by kernel_rfl) h ?_; clear h; intro a w h
     refine then_n ?_
     refine roundS (x := (j, out)) (y := (j + 1, out)) h ?_ ?_ (by kernel_rfl) (by kernel_rfl)
     ·exact ⟨by rw [hI1, coefZ_take hx1, if_neg (fun hc => absurd hc.1 (by simpa using hc5)), Int.add_zero], by have := (List.getElem?_eq_some_iff.1 hx1).1; omega⟩
     ·simp; omega
  ·have hc6 := hc; clear hc
   have hc6' := of_decide_eq_false hc6
   refine wp_exit ?_
   refine then_x ?_
   refine then_x ?_
   refine inBlock_exit ?_
   refine then_n ?_
   refine rSeq fam0ok 3 [] [(4, vp 1 0)] [(1, .box (zi out))] (by kernel_rfl) h ?_; clear h; intro a w h
   refine wp_ret ?_
   refine retS [.agg (zi out)] h Exit.ret (.inl rfl)  rfl ⟨RV.agg _ 1 0 _ _ _ _ ia_1 rfl rfl rfl rfl, trivial⟩ ?_ (by kernel_rfl) (by kernel_rfl)
   have hj : j = t.parts.length := by have := hc6'; omega
   subst hj
   rw [hI1, List.take_length]; first | done | rfl
end Go.Proofs.YtekhnajfdaknnaaGreatDoor.S
end
section
namespace Go.Proofs.YtekhnajfdaknnaaGreatDoor.S
open Go.RowKit

theorem tb_0 : ElZ Tryz.prog 45 3 1 := ElZ.mk' Tryz.underlying45 _ _ rfl rfl (by kernel_rfl) (by kernel_rfl) (by kernel_rfl) (by decide)
theorem tb_1 : SlT Tryz.prog 45 3 1 := SlT.mk' Tryz.underlying45 (by kernel_rfl)
theorem tb_2 : ElT Tryz.prog 45 3 1 8 := ElT.mk' Tryz.underlying45 _ _ rfl rfl (by kernel_rfl) (by kernel_rfl) (by kernel_rfl) (by decide) (by decide)
theorem tb_4 : Bodied Tryz.prog 19 := Bodied.mk' (by kernel_rfl)
theorem tb_6 : Bodied Tryz.prog 68 := Bodied.mk' (by kernel_rfl)
theorem tb_7 : Bodied Tryz.prog 99 := Bodied.mk' (by kernel_rfl)
theorem tb_8 : Bodied Tryz.prog 25 := Bodied.mk' (by kernel_rfl)
theorem tb_9 : ElZ Tryz.prog 22 32 3 := ElZ.mk' Tryz.underlying22 _ _ rfl rfl (by kernel_rfl) (by kernel_rfl) (by kernel_rfl) (by decide)
theorem tb_10 : ElT Tryz.prog 22 32 3 40 := ElT.mk' Tryz.underlying22 _ _ rfl rfl (by kernel_rfl) (by kernel_rfl) (by kernel_rfl) (by decide) (by decide)
theorem tb_11 : Sz Tryz.prog 28 3 true := Sz.mk' (by kernel_rfl) Tryz.underlying28 _ rfl
theorem foldl_take {α β : Type} {xs : List α} {j : Nat} {x : α} (h : xs[j]? = some x) (f : β → α → β) (b : β) : (xs.take (j + 1)).foldl f b = f ((xs.take j).foldl f b) x := by
 have : xs.take (j + 1) = xs.take j ++ [x] := by rw [List.take_add_one, h]; rfl
 rw [this, List.foldl_append]; rfl
theorem at_lt {α : Type} {xs : List α} {j : Nat} {x : α} (h : xs[j]? = some x) : j < xs.length := (List.getElem?_eq_some_iff.1 h).1
def insStep (v : Int) (s : List Int × Bool) (x : Int) : List Int × Bool :=
  let s1 := if s.2 = false ∧ v ≤ x then (s.1 ++ [v], true) else s
  if x ≠ v then (s1.1 ++ [x], s1.2) else s1
def insZ (list : List Int) (v : Int) : List Int :=
  let r := list.foldl (insStep v) ([], false)
  if r.2 then r.1 else r.1 ++ [v]
theorem SInsert (list : List Int) (v : Int) (hl : list.length ≤ 1000000) : Fn Tryz.prog 68 [] [.t (.c (.d (.sl 1 (list.map intD)))), vi .i64 v] (.t (.c (.d (.sl 1 ((insZ list v).map intD))))) [] := by
 refine Fn.body Tryz.func68 rfl 49 rfl fun w H B a h => ?_
 refine rSeq fam0ok 0 [] [(0, .t (.c (.d (.sl 1 (list.map intD))))), (1, vi .i64 v), (4, .t (.c (.d (.raw nilV))))] [] (by kernel_rfl) h ?_; clear h; intro a w h
 refine rSeq fam0ok 0 [(0, .gen _ _ _ fun _ _ _ _ => Op.buildE (d := 8) (n := 0) tb_0)] [(0, .t (.c (.d (.sl 1 (list.map intD))))), (1, vi .i64 v), (4, .t (.c (.d (.raw nilV)))), (5, .t (.c (.own 0 0)))] [(0, .row 3 1 ([].map intD))] (by kernel_rfl) h ?_; clear h; intro a w h
 refine rSeq fam0ok 1 [] [(0, .t (.c (.d (.sl 1 (list.map intD))))), (1, vi .i64 v), (4, .t (.c (.d (.raw nilV)))), (5, .t (.c (.own 0 0))), (6, vb false)] [(0, .row 3 1 ([].map intD))] (by kernel_rfl) h ?_; clear h; intro a w h
 refine wp_seq ?_
 refine rSeq fam0ok 1 [] [(0, .t (.c (.d (.sl 1 (list.map intD))))), (1, vi .i64 v), (4, .t (.c (.d (.raw nilV)))), (5, .t (.c (.own 0 0))), (6, vb false), (7, vi .i64 0)] [(0, .row 3 1 ([].map intD))] (by kernel_rfl) h ?_; clear h; intro a w h
 refine wp_block ?_
 refine loopS (ι := (Nat) × (List Int) × (Bool)) (fun (z_ : (Nat) × (List Int) × (Bool)) => match z_ with | (j, out, done) => (out, done) = (list.take j).foldl (insStep v) ([], false) ∧ j ≤ list.length ∧ out.length ≤ 2 * j)
   (fun (z_ : (Nat) × (List Int) × (Bool)) => match z_ with | (j, out, done) => [(0, .t (.c (.d (.sl 1 (list.map intD))))), (1, vi .i64 v), (4, .t (.c (.d (.raw nilV)))), (5, .t (.c (.own 0 out.length))), (6, vb done), (7, vi .i64 (j : Int))])
   (fun (z_ : (Nat) × (List Int) × (Bool)) => match z_ with | (j, out, done) => [(0, .row 3 1 (out.map intD))])
   (fun (z_ : (Nat) × (List Int) × (Bool)) => match z_ with | (j, out, done) => list.length - j) (0, [], false) ?_ h (by kernel_rfl) (by kernel_rfl) ?_
 ·exact ⟨by simp, Nat.zero_le _, Nat.zero_le _⟩
 ·clear h; rintro ⟨j, out, done⟩ a w hI h
  change St _ (F.of [(0, .t (.c (.d (.sl 1 (list.map intD))))), (1, vi .i64 v), (4, .t (.c (.d (.raw nilV)))), (5, .t (.c (.own 0 out.length))), (6, vb done), (7, vi .i64 (j : Int))] [(0, .row 3 1 (out.map intD))]) a w at h
  obtain ⟨hI1, hI2, hI3⟩ := hI
  refine wp_seq ?_
  refine rSeq fam0ok 1 [(2, .len (c := (.d (.sl 1 (list.map intD)))) (n := list.length) (lenC_map _ _ _))] [(0, .t (.c (.d (.sl 1 (list.map intD))))), (1, vi .i64 v), (4, .t (.c (.d (.raw nilV)))), (5, .t (.c (.own 0 out.length))), (6, vb done), (7, vi .i64 (j : Int)), (12, vb (decide ((j : Int) < (list.length : Int))))] [(0, .row 3 1 (out.map intD))] (by kernel_rfl) h ?_; clear h; intro a w h
  refine condS (decide ((j : Int) < (list.length : Int))) h rfl (fun hc => ?_) (fun hc => ?_)
  ·have hc1 := hc; clear hc
   have hc1' := of_decide_eq_true hc1
   refine wp_skip ?_
   refine then_n ?_
   refine wp_seq ?_
   refine wp_block ?_
   refine wp_seq ?_
   rcases Bool.eq_false_or_eq_true done with hc | hc
   ·have hc2 := hc; clear hc
    rw [hc2] at h
    refine rSeq fam0ok 1 [] [(0, .t (.c (.d (.sl 1 (list.map intD))))), (1, vi .i64 v), (4, .t (.c (.d (.raw nilV)))), (5, .t (.c (.own 0 out.length))), (6, vb true), (7, vi .i64 (j : Int)), (24, vb false)] [(0, .row 3 1 (out.map intD))] (by kernel_rfl) h ?_; clear h; intro a w h
    refine condS false h rfl (fun hc => ?_) (fun hc => ?_)
    ·cases hc
    ·clear hc
     refine wp_skip ?_
     refine then_n ?_
     obtain ⟨x1, hx1⟩ : ∃ z_ : Int, list[j]? = some z_ := ⟨_, List.getElem?_eq_getElem (by first | omega | (simp at *; omega))⟩
     refine rSeq fam0ok 1 [(2, .gen _ _ _ fun _ _ _ _ => Op.idxD (d := 31) (t := 29) (k := .i64) tb_1 (map_at hx1 (f := intD)) (OV.tmp 30 _))] [(0, .t (.c (.d (.sl 1 (list.map intD))))), (1, vi .i64 v), (4, .t (.c (.d (.raw nilV)))), (5, .t (.c (.own 0 out.length))), (6, vb true), (7, vi .i64 (j : Int)), (34, vb (x1 != v))] [(0, .row 3 1 (out.map intD))] (by kernel_rfl) h ?_; clear h; intro a w h
     refine condS (x1 != v) h rfl (fun hc => ?_) (fun hc => ?_)
     ·have hc3 := hc; clear hc
      have hc3' := hc3; (try simp at hc3')
      refine rS fam0ok 1 [(3, .gen _ _ _ fun _ _ _ _ => Op.idxD (d := 38) (t := 36) (k := .i64) tb_1 (map_at hx1 (f := intD)) (OV.tmp 37 _)), (5, .gen _ _ _ fun _ _ _ _ => Op.buildD (d := 40) (len := 1) (rows := [x1].map intD) (rs := [(39, vi .i64 x1)]) tb_0 (.cons (i := 0) (OV.tmp 39 _) (.nil)) (by kernel_rfl) rfl (by simp [intD]) (by decide) (by decide)), (6, .gen _ _ _ fun _ _ _ _ => Op.appOD (d := 41) (t := 35) (u := 40) (n := 0) (n' := 1) (len := out.length) (len' := (out ++ [x1]).length) (rows := out.map intD) (rows2 := [x1].map intD) (rows' := (out ++ [x1]).map intD) tb_2 (by first | exact (List.length_map _).symm | simp) (by first | (rw [List.length_append, List.length_map]; done) | simp) (by simp) (by simp [intD]) (by first | omega | (simp at *; done) | (simp at *; omega)))] [(0, .t (.c (.d (.sl 1 (list.map intD))))), (1, vi .i64 v), (4, .t (.c (.d (.raw nilV)))), (5, .t (.c (.own 1 (out ++ [x1]).length))), (6, vb true), (7, vi .i64 (j : Int))] [(1, .row 3 1 ((out ++ [x1]).map intD))] (by kernel_rfl) h ?_; clear h; intro a w h
      refine block_n ?_
      refine then_n ?_
      refine rS fam0ok 2 [(1, .add .i64 (m := (j : Int)) (n := 1) (i64_id (by omega) (by omega)))] [(0, .t (.c (.d (.sl 1 (list.map intD))))), (1, vi .i64 v), (4, .t (.c (.d (.raw nilV)))), (5, .t (.c (.own 1 (out ++ [x1]).length))), (6, vb true), (7, vi .i64 ((j : Int) + 1))] [(1, .row 3 1 ((out ++ [x1]).map intD))] (by kernel_rfl) h ?_; clear h; intro a w h
      refine then_n ?_
      replace h := renS 1 0 [(0, .t (.c (.d (.sl 1 (list.map intD))))), (1, vi .i64 v), (4, .t (.c (.d (.raw nilV)))), (5, .t (.c (.own 0 (out ++ [x1]).length))), (6, vb true), (7, vi .i64 ((j : Int) + 1))] [(0, .row 3 1 ((out ++ [x1]).map intD))] h (by kernel_rfl) (by kernel_rfl) (by kernel_rfl)
      refine roundS (x := (j, out, done)) (y := (j + 1, (out ++ [x1]), true)) h ?_ ?_ (by kernel_rfl) (by kernel_rfl)
      ·refine ⟨?_, by have := at_lt hx1; omega, by first | omega | (simp; omega)⟩
       rw [foldl_take hx1, ← hI1]
       clear h hI1
       simp [insStep, *]
       try omega
      ·simp; omega
     ·have hc4 := hc; clear hc
      have hc4' := hc4; (try simp at hc4')
      refine wp_skip ?_
      refine block_n ?_
      refine then_n ?_
      refine rS fam0ok 2 [(1, .add .i64 (m := (j : Int)) (n := 1) (i64_id (by omega) (by omega)))] [(0, .t (.c (.d (.sl 1 (list.map intD))))), (1, vi .i64 v), (4, .t (.c (.d (.raw nilV)))), (5, .t (.c (.own 0 out.length))), (6, vb true), (7, vi .i64 ((j : Int) + 1))] [(0, .row 3 1 (out.map intD))] (by kernel_rfl) h ?_; clear h; intro a w h
      refine then_n ?_
      refine roundS (x := (j, out, done)) (y := (j + 1, out, true)) h ?_ ?_ (by kernel_rfl) (by kernel_rfl)
      ·refine ⟨?_, by have := at_lt hx1; omega, by first | omega | (simp; omega)⟩
       rw [foldl_take hx1, ← hI1]
       clear h hI1
       simp [insStep, *]
       try omega
      ·simp; omega
   ·have hc5 := hc; clear hc
    rw [hc5] at h
    obtain ⟨x2, hx2⟩ : ∃ z_ : Int, list[j]? = some z_ := ⟨_, List.getElem?_eq_getElem (by first | omega | (simp at *; omega))⟩
    refine rSeq fam0ok 2 [(5, .gen _ _ _ fun _ _ _ _ => Op.idxD (d := 20) (t := 18) (k := .i64) tb_1 (map_at hx2 (f := intD)) (OV.tmp 19 _))] [(0, .t (.c (.d (.sl 1 (list.map intD))))), (1, vi .i64 v), (4, .t (.c (.d (.raw nilV)))), (5, .t (.c (.own 0 out.length))), (6, vb false), (7, vi .i64 (j : Int)), (24, vb (decide (x2 ≥ v)))] [(0, .row 3 1 (out.map intD))] (by kernel_rfl) h ?_; clear h; intro a w h
    refine condS (decide (x2 ≥ v)) h rfl (fun hc => ?_) (fun hc => ?_)
    ·have hc6 := hc; clear hc
     have hc6' := of_decide_eq_true hc6
     refine rSeq fam0ok 2 [(2, .gen _ _ _ fun _ _ _ _ => Op.buildD (d := 27) (len := 1) (rows := [v].map intD) (rs := [(26, vi .i64 v)]) tb_0 (.cons (i := 0) (OV.tmp 26 _) (.nil)) (by kernel_rfl) rfl (by simp [intD]) (by decide) (by decide)), (3, .gen _ _ _ fun _ _ _ _ => Op.appOD (d := 28) (t := 25) (u := 27) (n := 0) (n' := 2) (len := out.length) (len' := (out ++ [v]).length) (rows := out.map intD) (rows2 := [v].map intD) (rows' := (out ++ [v]).map intD) tb_2 (by first | exact (List.length_map _).symm | simp) (by first | (rw [List.length_append, List.length_map]; done) | simp) (by simp) (by simp [intD]) (by first | omega | (simp at *; done) | (simp at *; omega)))] [(0, .t (.c (.d (.sl 1 (list.map intD))))), (1, vi .i64 v), (4, .t (.c (.d (.raw nilV)))), (5, .t (.c (.own 2 (out ++ [v]).length))), (6, vb false), (7, vi .i64 (j : Int))] [(2, .row 3 1 ((out ++ [v]).map intD))] (by kernel_rfl) h ?_; clear h; intro a w h
     refine rS fam0ok 3 [] [(0, .t (.c (.d (.sl 1 (list.map intD))))), (1, vi .i64 v), (4, .t (.c (.d (.raw nilV)))), (5, .t (.c (.own 2 (out ++ [v]).length))), (6, vb true), (7, vi .i64 (j : Int))] [(2, .row 3 1 ((out ++ [v]).map intD))] (by kernel_rfl) h ?_; clear h; intro a w h
     refine then_n ?_
     refine rSeq fam0ok 3 [(2, .gen _ _ _ fun _ _ _ _ => Op.idxD (d := 31) (t := 29) (k := .i64) tb_1 (map_at hx2 (f := intD)) (OV.tmp 30 _))] [(0, .t (.c (.d (.sl 1 (list.map intD))))), (1, vi .i64 v), (4, .t (.c (.d (.raw nilV)))), (5, .t (.c (.own 2 (out ++ [v]).length))), (6, vb true), (7, vi .i64 (j : Int)), (34, vb (x2 != v))] [(2, .row 3 1 ((out ++ [v]).map intD))] (by kernel_rfl) h ?_; clear h; intro a w h
     refine condS (x2 != v) h rfl (fun hc => ?_) (fun hc => ?_)
     ·have hc7 := hc; clear hc
      have hc7' := hc7; (try simp at hc7')
      refine rS fam0ok 3 [(3, .gen _ _ _ fun _ _ _ _ => Op.idxD (d := 38) (t := 36) (k := .i64) tb_1 (map_at hx2 (f := intD)) (OV.tmp 37 _)), (5, .gen _ _ _ fun _ _ _ _ => Op.buildD (d := 40) (len := 1) (rows := [x2].map intD) (rs := [(39, vi .i64 x2)]) tb_0 (.cons (i := 0) (OV.tmp 39 _) (.nil)) (by kernel_rfl) rfl (by simp [intD]) (by decide) (by decide)), (6, .gen _ _ _ fun _ _ _ _ => Op.appOD (d := 41) (t := 35) (u := 40) (n := 2) (n' := 3) (len := (out ++ [v]).length) (len' := ((out ++ [v]) ++ [x2]).length) (rows := (out ++ [v]).map intD) (rows2 := [x2].map intD) (rows' := ((out ++ [v]) ++ [x2]).map intD) tb_2 (by first | exact (List.length_map _).symm | simp) (by first | (rw [List.length_append, List.length_map]; done) | simp) (by simp) (by simp [intD]) (by first | omega | (simp at *; done) | (simp at *; omega)))] [(0, .t (.c (.d (.sl 1 (list.map intD))))), (1, vi .i64 v), (4, .t (.c (.d (.raw nilV)))), (5, .t (.c (.own 3 ((out ++ [v]) ++ [x2]).length))), (6, vb true), (7, vi .i64 (j : Int))] [(3, .row 3 1 (((out ++ [v]) ++ [x2]).map intD))] (by kernel_rfl) h ?_; clear h; intro a w h
      refine block_n ?_
      refine then_n ?_
      refine rS fam0ok 4 [(1, .add .i64 (m := (j : Int)) (n := 1) (i64_id (by omega) (by omega)))] [(0, .t (.c (.d (.sl 1 (list.map intD))))), (1, vi .i64 v), (4, .t (.c (.d (.raw nilV)))), (5, .t (.c (.own 3 ((out ++ [v]) ++ [x2]).length))), (6, vb true), (7, vi .i64 ((j : Int) + 1))] [(3, .row 3 1 (((out ++ [v]) ++ [x2]).map intD))] (by kernel_rfl) h ?_; clear h; intro a w h
      refine then_n ?_
      replace h := renS 3 0 [(0, .t (.c (.d (.sl 1 (list.map intD))))), (1, vi .i64 v), (4, .t (.c (.d (.raw nilV)))), (5, .t (.c (.own 0 ((out ++ [v]) ++ [x2]).length))), (6, vb true), (7, vi .i64 ((j : Int) + 1))] [(0, .row 3 1 (((out ++ [v]) ++ [x2]).map intD))] h (by kernel_rfl) (by kernel_rfl) (by kernel_rfl)
      refine roundS (x := (j, out, done)) (y := (j + 1, ((out ++ [v]) ++ [x2]), true)) h ?_ ?_ (by kernel_rfl) (by kernel_rfl)
      ·refine ⟨?_, by have := at_lt hx2; omega, by first | omega | (simp; omega)⟩
       rw [foldl_take hx2, ← hI1]
       clear h hI1
       simp [insStep, *]
       try omega
      ·simp; omega
     ·have hc8 := hc; clear hc
      have hc8' := hc8; (try simp at hc8')
      refine wp_skip ?_
      refine block_n ?_
      refine then_n ?_
      refine rS fam0ok 4 [(1, .add .i64 (m := (j : Int)) (n := 1) (i64_id (by omega) (by omega)))] [(0, .t (.c (.d (.sl 1 (list.map intD))))), (1, vi .i64 v), (4, .t (.c (.d (.raw nilV)))), (5, .t (.c (.own 2 (out ++ [v]).length))), (6, vb true), (7, vi .i64 ((j : Int) + 1))] [(2, .row 3 1 ((out ++ [v]).map intD))] (by kernel_rfl) h ?_; clear h; intro a w h
      refine then_n ?_
      replace h := renS 2 0 [(0, .t (.c (.d (.sl 1 (list.map intD))))), (1, vi .i64 v), (4, .t (.c (.d (.raw nilV)))), (5, .t (.c (.own 0 (out ++ [v]).length))), (6, vb true), (7, vi .i64 ((j : Int) + 1))] [(0, .row 3 1 ((out ++ [v]).map intD))] h (by kernel_rfl) (by kernel_rfl) (by kernel_rfl)
      refine roundS (x := (j, out, done)) (y := (j + 1, (out ++ [v]), true)) h ?_ ?_ (by kernel_rfl) (by kernel_rfl)
      ·refine ⟨?_, by have := at_lt hx2; omega, by first | omega | (simp; omega)⟩
       rw [foldl_take hx2, ← hI1]
       clear h hI1
       simp [insStep, *]
       try omega
      ·simp; omega
    ·have hc9 := hc; clear hc
     have hc9' := of_decide_eq_false hc9
     refine wp_skip ?_
     refine then_n ?_
     refine rSeq fam0ok 4 [(2, .gen _ _ _ fun _ _ _ _ => Op.idxD (d := 31) (t := 29) (k := .i64) tb_1 (map_at hx2 (f := intD)) (OV.tmp 30 _))] [(0, .t (.c (.d (.sl 1 (list.map intD))))), (1, vi .i64 v), (4, .t (.c (.d (.raw nilV)))), (5, .t (.c (.own 0 out.length))), (6, vb false), (7, vi .i64 (j : Int)), (34, vb (x2 != v))] [(0, .row 3 1 (out.map intD))] (by kernel_rfl) h ?_; clear h; intro a w h
     refine condS (x2 != v) h rfl (fun hc => ?_) (fun hc => ?_)
     ·have hc10 := hc; clear hc
      have hc10' := hc10; (try simp at hc10')
      refine rS fam0ok 4 [(3, .gen _ _ _ fun _ _ _ _ => Op.idxD (d := 38) (t := 36) (k := .i64) tb_1 (map_at hx2 (f := intD)) (OV.tmp 37 _)), (5, .gen _ _ _ fun _ _ _ _ => Op.buildD (d := 40) (len := 1) (rows := [x2].map intD) (rs := [(39, vi .i64 x2)]) tb_0 (.cons (i := 0) (OV.tmp 39 _) (.nil)) (by kernel_rfl) rfl (by simp [intD]) (by decide) (by decide)), (6, .gen _ _ _ fun _ _ _ _ => Op.appOD (d := 41) (t := 35) (u := 40) (n := 0) (n' := 4) (len := out.length) (len' := (out ++ [x2]).length) (rows := out.map intD) (rows2 := [x2].map intD) (rows' := (out ++ [x2]).map intD) tb_2 (by first | exact (List.length_map _).symm | simp) (by first | (rw [List.length_append, List.length_map]; done) | simp) (by simp) (by simp [intD]) (by first | omega | (simp at *; done) | (simp at *; omega)))] [(0, .t (.c (.d (.sl 1 (list.map intD))))), (1, vi .i64 v), (4, .t (.c (.d (.raw nilV)))), (5, .t (.c (.own 4 (out ++ [x2]).length))), (6, vb false), (7, vi .i64 (j : Int))] [(4, .row 3 1 ((out ++ [x2]).map intD))] (by kernel_rfl) h ?_; clear h; intro a w h
      refine block_n ?_
      refine then_n ?_
      refine rS fam0ok 5 [(1, .add .i64 (m := (j : Int)) (n := 1) (i64_id (by omega) (by omega)))] [(0, .t (.c (.d (.sl 1 (list.map intD))))), (1, vi .i64 v), (4, .t (.c (.d (.raw nilV)))), (5, .t (.c (.own 4 (out ++ [x2]).length))), (6, vb false), (7, vi .i64 ((j : Int) + 1))] [(4, .row 3 1 ((out ++ [x2]).map intD))] (by kernel_rfl) h ?_; clear h; intro a w h
      refine then_n ?_
      replace h := renS 4 0 [(0, .t (.c (.d (.sl 1 (list.map intD))))), (1, vi .i64 v), (4, .t (.c (.d (.raw nilV)))), (5, .t (.c (.own 0 (out ++ [x2]).length))), (6, vb false), (7, vi .i64 ((j : Int) + 1))] [(0, .row 3 1 ((out ++ [x2]).map intD))] h (by kernel_rfl) (by kernel_rfl) (by kernel_rfl)
      refine roundS (x := (j, out, done)) (y := (j + 1, (out ++ [x2]), false)) h ?_ ?_ (by kernel_rfl) (by kernel_rfl)
      ·refine ⟨?_, by have := at_lt hx2; omega, by first | omega | (simp; omega)⟩
       rw [foldl_take hx2, ← hI1]
       clear h hI1
       simp [insStep, *]
       try omega
      ·simp; omega
     ·have hc11 := hc; clear hc
      have hc11' := hc11; (try simp at hc11')
      refine wp_skip ?_
      refine block_n ?_
      refine then_n ?_
      refine rS fam0ok 5 [(1, .add .i64 (m := (j : Int)) (n := 1) (i64_id (by omega) (by omega)))] [(0, .t (.c (.d (.sl 1 (list.map intD))))), (1, vi .i64 v), (4, .t (.c (.d (.raw nilV)))), (5, .t (.c (.own 0 out.length))), (6, vb false), (7, vi .i64 ((j : Int) + 1))] [(0, .row 3 1 (out.map intD))] (by kernel_rfl) h ?_; clear h; intro a w h
      refine then_n ?_
      refine roundS (x := (j, out, done)) (y := (j + 1, out, false)) h ?_ ?_ (by kernel_rfl) (by kernel_rfl)
      ·refine ⟨?_, by have := at_lt hx2; omega, by first | omega | (simp; omega)⟩
       rw [foldl_take hx2, ← hI1]
       clear h hI1
       simp [insStep, *]
       try omega
      ·simp; omega
  ·have hc12 := hc; clear hc
   have hc12' := of_decide_eq_false hc12
   refine wp_exit ?_
   refine then_x ?_
   refine then_x ?_
   refine inBlock_exit ?_
   refine then_n ?_
   refine wp_seq ?_
   refine rSeq fam0ok 5 [] [(1, vi .i64 v), (4, .t (.c (.d (.raw nilV)))), (5, .t (.c (.own 0 out.length))), (43, vb (!done))] [(0, .row 3 1 (out.map intD))] (by kernel_rfl) h ?_; clear h; intro a w h
   refine condS (!done) h rfl (fun hc => ?_) (fun hc => ?_)
   ·have hc13 := hc; clear hc
    have hc13' := hc13; (try simp at hc13')
    refine rS fam0ok 5 [(2, .gen _ _ _ fun _ _ _ _ => Op.buildD (d := 46) (len := 1) (rows := [v].map intD) (rs := [(45, vi .i64 v)]) tb_0 (.cons (i := 0) (OV.tmp 45 _) (.nil)) (by kernel_rfl) rfl (by simp [intD]) (by decide) (by decide)), (3, .gen _ _ _ fun _ _ _ _ => Op.appOD (d := 47) (t := 44) (u := 46) (n := 0) (n' := 5) (len := out.length) (len' := (out ++ [v]).length) (rows := out.map intD) (rows2 := [v].map intD) (rows' := (out ++ [v]).map intD) tb_2 (by first | exact (List.length_map _).symm | simp) (by first | (rw [List.length_append, List.length_map]; done) | simp) (by simp) (by simp [intD]) (by first | omega | (simp at *; done) | (simp at *; omega)))] [(4, .t (.c (.d (.raw nilV)))), (5, .t (.c (.own 5 (out ++ [v]).length)))] [(5, .row 3 1 ((out ++ [v]).map intD))] (by kernel_rfl) h ?_; clear h; intro a w h
    refine then_n ?_
    refine rSeq fam0ok 6 [] [(4, .t (.c (.own 5 (out ++ [v]).length)))] [(5, .row 3 1 ((out ++ [v]).map intD))] (by kernel_rfl) h ?_; clear h; intro a w h
    refine wp_ret ?_
    replace h := pubS 5 1 3 ((out ++ [v]).map intD) [(4, .t (.c (.d (.sl 1 ((out ++ [v]).map intD)))))] [] h rfl (show AllEq _ [(out ++ [v]).length] from ⟨by first | exact (List.length_map _).symm | simp, trivial⟩) trivial (by kernel_rfl) (by kernel_rfl)
    refine retS [.c (.d (.sl 1 ((out ++ [v]).map intD)))] h Exit.ret (.inl rfl)  rfl ⟨RV.tmp _ _ rfl, trivial⟩ ?_ (by kernel_rfl) (by kernel_rfl)
    have hj : j = list.length := by have := hc12'; omega
    subst hj
    rw [List.take_length] at hI1
    have hz : insZ list v = (out ++ [v]) := by unfold insZ; rw [← hI1]; clear h hI1; simp [*]
    rw [hz]; first | done | rfl
   ·have hc14 := hc; clear hc
    have hc14' := hc14; (try simp at hc14')
    refine wp_skip ?_
    refine then_n ?_
    refine rSeq fam0ok 6 [] [(4, .t (.c (.own 0 out.length)))] [(0, .row 3 1 (out.map intD))] (by kernel_rfl) h ?_; clear h; intro a w h
    refine wp_ret ?_
    replace h := pubS 0 1 3 (out.map intD) [(4, .t (.c (.d (.sl 1 (out.map intD)))))] [] h rfl (show AllEq _ [out.length] from ⟨by first | exact (List.length_map _).symm | simp, trivial⟩) trivial (by kernel_rfl) (by kernel_rfl)
    refine retS [.c (.d (.sl 1 (out.map intD)))] h Exit.ret (.inl rfl)  rfl ⟨RV.tmp _ _ rfl, trivial⟩ ?_ (by kernel_rfl) (by kernel_rfl)
    have hj : j = list.length := by have := hc12'; omega
    subst hj
    rw [List.take_length] at hI1
    have hz : insZ list v = out := by unfold insZ; rw [← hI1]; clear h hI1; simp [*]
    rw [hz]; first | done | rfl
theorem insStep_len (v : Int) (s : List Int × Bool) (x : Int) : (insStep v s x).1.length + s.2.toNat ≤ s.1.length + 1 + (insStep v s x).2.toNat := by
 obtain ⟨l, b⟩ := s
 unfold insStep
 cases b <;> by_cases h1 : v ≤ x <;> by_cases h2 : x = v <;> simp [h1, h2]
theorem insFold_len (v : Int) : ∀ (list : List Int) (s : List Int × Bool), (list.foldl (insStep v) s).1.length + s.2.toNat ≤ s.1.length + list.length + (list.foldl (insStep v) s).2.toNat
 | [], s => by simp
 | x :: xs, s => by
  have ih := insFold_len v xs (insStep v s x)
  have h1 := insStep_len v s x
  simp only [List.foldl_cons, List.length_cons]
  omega
theorem insZ_len (list : List Int) (v : Int) : (insZ list v).length ≤ list.length + 1 := by
 have h := insFold_len v list ([], false)
 unfold insZ
 cases hr : (list.foldl (insStep v) ([], false)).2 <;> simp [hr] at h ⊢ <;> omega
def varStep (ps : List Part) (out : List Int) (p : Part) : List Int := if coefZ ps p.v ≠ 0 then insZ out p.v else out
def varsZ (ps : List Part) : List Int := ps.foldl (varStep ps) []
def plainT (t : Term) : Term := ⟨(varsZ t.parts).map fun v => ⟨v, ZI.of (coefZ t.parts v)⟩, ZI.of t.k.val⟩
theorem sgn_ne {z : Int} (h : (sgn z != 0) = true) : z ≠ 0 := fun e => by rw [sgn_zero e] at h; cases h
theorem sgn_eq {z : Int} (h : (sgn z != 0) = false) : z = 0 := sgn_eq_zero.1 (by simpa using h)
theorem SVars (t : Term) (ht : PsOk 40000 t.parts) : Fn Tryz.prog 25 [] [.t (.agg ([.d (.sl 3 (t.parts.map Part.d))] ++ zi t.k))] (.t (.c (.d (.sl 1 ((varsZ t.parts).map intD))))) [] := by
 refine Fn.body Tryz.func25 rfl 29 rfl fun w H B a h => ?_
 refine rSeq fam0ok 0 [] [(1, vp 0 0), (2, .t (.c (.d (.raw nilV))))] [(0, .box ([.d (.sl 3 (t.parts.map Part.d))] ++ zi t.k))] (by kernel_rfl) h ?_; clear h; intro a w h
 refine rSeq fam0ok 1 [(0, .gen _ _ _ fun _ _ _ _ => Op.buildED (d := 6) tb_0)] [(1, vp 0 0), (2, .t (.c (.d (.raw nilV)))), (3, .t (.c (.d (.sl 1 ([].map intD)))))] [(0, .box ([.d (.sl 3 (t.parts.map Part.d))] ++ zi t.k))] (by kernel_rfl) h ?_; clear h; intro a w h
 refine wp_seq ?_
 refine rSeq fam0ok 1 [] [(1, vp 0 0), (2, .t (.c (.d (.raw nilV)))), (3, .t (.c (.d (.sl 1 ([].map intD))))), (4, vi .i64 0)] [(0, .box ([.d (.sl 3 (t.parts.map Part.d))] ++ zi t.k))] (by kernel_rfl) h ?_; clear h; intro a w h
 refine wp_block ?_
 refine loopS (ι := (Nat) × (List Int)) (fun (z_ : (Nat) × (List Int)) => match z_ with | (j, out) => out = (t.parts.take j).foldl (varStep t.parts) [] ∧ j ≤ t.parts.length ∧ out.length ≤ j)
   (fun (z_ : (Nat) × (List Int)) => match z_ with | (j, out) => [(1, vp 0 0), (2, .t (.c (.d (.raw nilV)))), (3, .t (.c (.d (.sl 1 (out.map intD))))), (4, vi .i64 (j : Int))])
   (fun (z_ : (Nat) × (List Int)) => match z_ with | (j, out) => [(0, .box ([.d (.sl 3 (t.parts.map Part.d))] ++ zi t.k))])
   (fun (z_ : (Nat) × (List Int)) => match z_ with | (j, out) => t.parts.length - j) (0, []) ?_ h (by kernel_rfl) (by kernel_rfl) ?_
 ·exact ⟨by simp, Nat.zero_le _, Nat.zero_le _⟩
 ·clear h; rintro ⟨j, out⟩ a w hI h
  change St _ (F.of [(1, vp 0 0), (2, .t (.c (.d (.raw nilV)))), (3, .t (.c (.d (.sl 1 (out.map intD))))), (4, vi .i64 (j : Int))] [(0, .box ([.d (.sl 3 (t.parts.map Part.d))] ++ zi t.k))]) a w at h
  obtain ⟨hI1, hI2, hI3⟩ := hI
  have ln := ht.1
  refine wp_seq ?_
  refine rSeq fam0ok 1 [(3, .len (c := (.d (.sl 3 (t.parts.map Part.d)))) (n := t.parts.length) (lenC_map _ _ _))] [(1, vp 0 0), (2, .t (.c (.d (.raw nilV)))), (3, .t (.c (.d (.sl 1 (out.map intD))))), (4, vi .i64 (j : Int)), (11, vb (decide ((j : Int) < (t.parts.length : Int))))] [(0, .box ([.d (.sl 3 (t.parts.map Part.d))] ++ zi t.k))] (by kernel_rfl) h ?_; clear h; intro a w h
  refine condS (decide ((j : Int) < (t.parts.length : Int))) h rfl (fun hc => ?_) (fun hc => ?_)
  ·have hc1 := hc; clear hc
   have hc1' := of_decide_eq_true hc1
   refine wp_skip ?_
   refine then_n ?_
   refine wp_seq ?_
   refine wp_block ?_
   obtain ⟨x1, hx1⟩ : ∃ z_ : Part, t.parts[j]? = some z_ := ⟨_, List.getElem?_eq_getElem (by first | omega | (simp at *; omega))⟩
   refine rSeq fam0ok 1 [(3, .gen _ _ _ fun _ _ _ _ => Op.idxD (d := 17) (t := 15) (k := .i64) ta_0 (map_at hx1 (f := Part.d)) (OV.tmp 16 _))] [(1, vp 0 0), (2, .t (.c (.d (.raw nilV)))), (3, .t (.c (.d (.sl 1 (out.map intD))))), (4, vi .i64 (j : Int)), (5, vi .i64 x1.v)] [(0, .box ([.d (.sl 3 (t.parts.map Part.d))] ++ zi t.k))] (by kernel_rfl) h ?_; clear h; intro a w h
   obtain ⟨r2, er2, vr2, or2, lr2⟩ := mkZ (v := coefZ t.parts x1.v) (m := 40001) (coef_len ht x1.v)
   refine rSeq fam0ok 1 [(2, .call (Fn.cast (SCoef t x1.v ht) (congrArg vz er2.symm)) tb_4), (3, .call (SRSign r2 or2 (by omega)) ib_0)] [(1, vp 0 0), (2, .t (.c (.d (.raw nilV)))), (3, .t (.c (.d (.sl 1 (out.map intD))))), (4, vi .i64 (j : Int)), (5, vi .i64 x1.v), (24, vb (sgn r2.val != 0))] [(0, .box ([.d (.sl 3 (t.parts.map Part.d))] ++ zi t.k))] (by kernel_rfl) h ?_; clear h; intro a w h
   refine condS (sgn r2.val != 0) h rfl (fun hc => ?_) (fun hc => ?_)
   ·have hc2 := hc; clear hc
    have hc2' := hc2; (try simp at hc2')
    refine rS fam0ok 1 [(2, .call (SInsert out x1.v (by omega)) tb_6)] [(1, vp 0 0), (2, .t (.c (.d (.raw nilV)))), (3, .t (.c (.d (.sl 1 ((insZ out x1.v).map intD))))), (4, vi .i64 (j : Int))] [(0, .box ([.d (.sl 3 (t.parts.map Part.d))] ++ zi t.k))] (by kernel_rfl) h ?_; clear h; intro a w h
    refine block_n ?_
    refine then_n ?_
    refine rS fam0ok 1 [(1, .add .i64 (m := (j : Int)) (n := 1) (i64_id (by omega) (by omega)))] [(1, vp 0 0), (2, .t (.c (.d (.raw nilV)))), (3, .t (.c (.d (.sl 1 ((insZ out x1.v).map intD))))), (4, vi .i64 ((j : Int) + 1))] [(0, .box ([.d (.sl 3 (t.parts.map Part.d))] ++ zi t.k))] (by kernel_rfl) h ?_; clear h; intro a w h
    refine then_n ?_
    refine roundS (x := (j, out)) (y := (j + 1, (insZ out x1.v))) h ?_ ?_ (by kernel_rfl) (by kernel_rfl)
    ·refine ⟨?_, by have := at_lt hx1; omega, by first | omega | (have := insZ_len out x1.v; omega)⟩
     rw [foldl_take hx1, ← hI1]
     unfold varStep
     have hz := sgn_ne hc2
     rw [vr2] at hz
     rw [if_pos hz]
    ·simp; omega
   ·have hc3 := hc; clear hc
    have hc3' := hc3; (try simp at hc3')
    refine wp_skip ?_
    refine block_n ?_
    refine then_n ?_
    refine rS fam0ok 1 [(1, .add .i64 (m := (j : Int)) (n := 1) (i64_id (by omega) (by omega)))] [(1, vp 0 0), (2, .t (.c (.d (.raw nilV)))), (3, .t (.c (.d (.sl 1 (out.map intD))))), (4, vi .i64 ((j : Int) + 1))] [(0, .box ([.d (.sl 3 (t.parts.map Part.d))] ++ zi t.k))] (by kernel_rfl) h ?_; clear h; intro a w h
    refine then_n ?_
    refine roundS (x := (j, out)) (y := (j + 1, out)) h ?_ ?_ (by kernel_rfl) (by kernel_rfl)
    ·refine ⟨?_, by have := at_lt hx1; omega, by first | omega | (have := insZ_len out x1.v; omega)⟩
     rw [foldl_take hx1, ← hI1]
     unfold varStep
     have hz := sgn_eq hc3
     rw [vr2] at hz
     rw [if_neg (fun h => h hz)]
    ·simp; omega
  ·have hc4 := hc; clear hc
   have hc4' := of_decide_eq_false hc4
   refine wp_exit ?_
   refine then_x ?_
   refine then_x ?_
   refine inBlock_exit ?_
   refine then_n ?_
   refine rSeq fam0ok 1 [] [(2, .t (.c (.d (.sl 1 (out.map intD)))))] [] (by kernel_rfl) h ?_; clear h; intro a w h
   refine wp_ret ?_
   refine retS [.c (.d (.sl 1 (out.map intD)))] h Exit.ret (.inl rfl)  rfl ⟨RV.tmp _ _ rfl, trivial⟩ ?_ (by kernel_rfl) (by kernel_rfl)
   have hj : j = t.parts.length := by have := hc4'; omega
   subst hj
   rw [hI1, List.take_length]; first | done | rfl
theorem varsFold_len (qs : List Part) : ∀ (ps : List Part) (out : List Int), (ps.foldl (varStep qs) out).length ≤ out.length + ps.length
 | [], out => by simp
 | p :: ps, out => by
  have ih := varsFold_len qs ps (varStep qs out p)
  have h1 : (varStep qs out p).length ≤ out.length + 1 := by
   unfold varStep
   split
   ·exact insZ_len out p.v
   ·omega
  simp only [List.foldl_cons, List.length_cons]
  omega
theorem varsZ_len (ps : List Part) : (varsZ ps).length ≤ ps.length := by have h := varsFold_len ps ps []; simp at h; exact h
theorem take_map {α β : Type} {xs : List α} {j : Nat} {x : α} (h : xs[j]? = some x) (f : α → β) : (xs.take (j + 1)).map f = (xs.take j).map f ++ [f x] := by
 rw [List.take_add_one, h, List.map_append]; rfl
theorem SRPlain (t : Term) (ht : PsOk 40000 t.parts) (hk : Lb t.k.abs) (lk : t.k.abs.length ≤ 40000) : Fn Tryz.prog 62 [] [.t (.agg ([.d (.sl 3 (t.parts.map Part.d))] ++ zi t.k))] (vd (plainT t).d) [] := by
 refine Fn.body Tryz.func62 rfl 35 rfl fun w H B a h => ?_
 refine rSeq fam0ok 0 [] [(1, vp 0 0), (2, vp 1 0)] [(0, .box ([.d (.sl 3 (t.parts.map Part.d))] ++ zi t.k)), (1, .box [.d (.raw nilV), .d (.raw (.bool false)), .d (nsl [])])] (by kernel_rfl) h ?_; clear h; intro a w h
 obtain ⟨r1, er1, vr1, or1, lr1⟩ := mkZ (v := t.k.val) (m := t.k.abs.length) (len_id hk)
 refine rSeq fam0ok 2 [(2, .call (Fn.cast (SRClean t.k hk (by omega)) (congrArg vz er1.symm)) tb_7)] [(1, vp 0 0), (2, vp 1 0), (3, vp 2 0)] [(0, .box ([.d (.sl 3 (t.parts.map Part.d))] ++ zi t.k)), (1, .box [.d (.raw nilV), .d (.raw (.bool false)), .d (nsl [])]), (2, .box ([.d (.raw nilV)] ++ zi r1))] (by kernel_rfl) h ?_; clear h; intro a w h
 refine rSeq fam0ok 3 [(1, .call (SVars t ht) tb_8)] [(1, vp 0 0), (2, vp 1 0), (3, vp 2 0), (4, .t (.c (.d (.sl 1 ((varsZ t.parts).map intD)))))] [(0, .box ([.d (.sl 3 (t.parts.map Part.d))] ++ zi t.k)), (1, .box [.d (.raw nilV), .d (.raw (.bool false)), .d (nsl [])]), (2, .box ([.d (.raw nilV)] ++ zi r1))] (by kernel_rfl) h ?_; clear h; intro a w h
 refine wp_seq ?_
 replace h := nilOLs 2 0 3 3 32 ([.d (.raw nilV)] ++ zi r1) [(1, vp 0 0), (2, vp 1 0), (3, vp 2 0), (4, .t (.c (.d (.sl 1 ((varsZ t.parts).map intD)))))] [(0, .box ([.d (.sl 3 (t.parts.map Part.d))] ++ zi t.k)), (1, .box [.d (.raw nilV), .d (.raw (.bool false)), .d (nsl [])]), (2, .box ([.own 3 0] ++ zi r1)), (3, .row 32 3 ([].map Part.d))] h (by kernel_rfl) rfl rfl (by kernel_rfl) (by kernel_rfl)
 refine rSeq fam0ok 4 [] [(1, vp 0 0), (2, vp 1 0), (3, vp 2 0), (4, .t (.c (.d (.sl 1 ((varsZ t.parts).map intD))))), (5, vi .i64 0)] [(0, .box ([.d (.sl 3 (t.parts.map Part.d))] ++ zi t.k)), (1, .box [.d (.raw nilV), .d (.raw (.bool false)), .d (nsl [])]), (2, .box ([.own 3 0] ++ zi r1)), (3, .row 32 3 ([].map Part.d))] (by kernel_rfl) h ?_; clear h; intro a w h
 refine wp_block ?_
 refine loopS (ι := (Nat) × (List Part)) (fun (z_ : (Nat) × (List Part)) => match z_ with | (j, out) => out = ((varsZ t.parts).take j).map (fun v => Part.mk v (ZI.of (coefZ t.parts v))) ∧ j ≤ (varsZ t.parts).length ∧ out.length ≤ j)
   (fun (z_ : (Nat) × (List Part)) => match z_ with | (j, out) => [(1, vp 0 0), (2, vp 1 0), (3, vp 2 0), (4, .t (.c (.d (.sl 1 ((varsZ t.parts).map intD))))), (5, vi .i64 (j : Int))])
   (fun (z_ : (Nat) × (List Part)) => match z_ with | (j, out) => [(0, .box ([.d (.sl 3 (t.parts.map Part.d))] ++ zi t.k)), (1, .box [.d (.raw nilV), .d (.raw (.bool false)), .d (nsl [])]), (2, .box ([.own 3 out.length] ++ zi r1)), (3, .row 32 3 (out.map Part.d))])
   (fun (z_ : (Nat) × (List Part)) => match z_ with | (j, out) => (varsZ t.parts).length - j) (0, []) ?_ h (by kernel_rfl) (by kernel_rfl) ?_
 ·exact ⟨by simp, Nat.zero_le _, Nat.zero_le _⟩
 ·clear h; rintro ⟨j, out⟩ a w hI h
  change St _ (F.of [(1, vp 0 0), (2, vp 1 0), (3, vp 2 0), (4, .t (.c (.d (.sl 1 ((varsZ t.parts).map intD))))), (5, vi .i64 (j : Int))] [(0, .box ([.d (.sl 3 (t.parts.map Part.d))] ++ zi t.k)), (1, .box [.d (.raw nilV), .d (.raw (.bool false)), .d (nsl [])]), (2, .box ([.own 3 out.length] ++ zi r1)), (3, .row 32 3 (out.map Part.d))]) a w at h
  obtain ⟨hI1, hI2, hI3⟩ := hI
  have ln := ht.1
  have lv := varsZ_len t.parts
  refine wp_seq ?_
  refine rSeq fam0ok 4 [(2, .len (c := (.d (.sl 1 ((varsZ t.parts).map intD)))) (n := (varsZ t.parts).length) (lenC_map _ _ _))] [(1, vp 0 0), (2, vp 1 0), (3, vp 2 0), (4, .t (.c (.d (.sl 1 ((varsZ t.parts).map intD))))), (5, vi .i64 (j : Int)), (15, vb (decide ((j : Int) < ((varsZ t.parts).length : Int))))] [(0, .box ([.d (.sl 3 (t.parts.map Part.d))] ++ zi t.k)), (1, .box [.d (.raw nilV), .d (.raw (.bool false)), .d (nsl [])]), (2, .box ([.own 3 out.length] ++ zi r1)), (3, .row 32 3 (out.map Part.d))] (by kernel_rfl) h ?_; clear h; intro a w h
  refine condS (decide ((j : Int) < ((varsZ t.parts).length : Int))) h rfl (fun hc => ?_) (fun hc => ?_)
  ·have hc1 := hc; clear hc
   have hc1' := of_decide_eq_true hc1
   refine wp_skip ?_
   refine then_n ?_
   refine wp_seq ?_
   refine wp_block ?_
   obtain ⟨x3, hx3⟩ : ∃ z_ : Int, (varsZ t.parts)[j]? = some z_ := ⟨_, List.getElem?_eq_getElem (by first | omega | (simp at *; omega))⟩
   obtain ⟨r4, er4, vr4, or4, lr4⟩ := mkZ (v := coefZ t.parts x3) (m := 40001) (coef_len ht x3)
   refine rS fam0ok 4 [(4, .gen _ _ _ fun _ _ _ _ => Op.idxD (d := 22) (t := 20) (k := .i64) tb_1 (map_at hx3 (f := intD)) (OV.tmp 21 _)), (9, .gen _ _ _ fun _ _ _ _ => Op.idxD (d := 27) (t := 25) (k := .i64) tb_1 (map_at hx3 (f := intD)) (OV.tmp 26 _)), (11, .call (Fn.cast (SCoef t x3 ht) (congrArg vz er4.symm)) tb_4), (13, .gen _ _ _ fun _ _ _ _ => Op.buildD (d := 31) (len := 1) (rows := [(Part.mk x3 r4)].map Part.d) (rs := [(30, .t (.agg ([.d (.raw (.int .i64 x3))] ++ zi r4)))]) tb_9 (.cons (i := 0) (OV.tmp 30 _) (.nil)) (by kernel_rfl) rfl (by simp [Part.d]) (by decide) (by decide)), (14, .gen _ _ _ fun _ _ _ _ => Op.appOD (d := 32) (t := 19) (u := 31) (n := 3) (n' := 4) (len := out.length) (len' := (out ++ [(Part.mk x3 r4)]).length) (rows := out.map Part.d) (rows2 := [(Part.mk x3 r4)].map Part.d) (rows' := (out ++ [(Part.mk x3 r4)]).map Part.d) tb_10 (by first | exact (List.length_map _).symm | simp) (by first | (rw [List.length_append, List.length_map]; done) | simp) (by simp) (by simp [Part.d]) (by first | omega | (simp at *; done) | (simp at *; omega)))] [(1, vp 0 0), (2, vp 1 0), (3, vp 2 0), (4, .t (.c (.d (.sl 1 ((varsZ t.parts).map intD))))), (5, vi .i64 (j : Int))] [(0, .box ([.d (.sl 3 (t.parts.map Part.d))] ++ zi t.k)), (1, .box [.d (.raw nilV), .d (.raw (.bool false)), .d (nsl [])]), (2, .box ([.own 4 (out ++ [(Part.mk x3 r4)]).length] ++ zi r1)), (4, .row 32 3 ((out ++ [(Part.mk x3 r4)]).map Part.d))] (by kernel_rfl) h ?_; clear h; intro a w h
   refine block_n ?_
   refine then_n ?_
   refine rS fam0ok 5 [(1, .add .i64 (m := (j : Int)) (n := 1) (i64_id (by omega) (by omega)))] [(1, vp 0 0), (2, vp 1 0), (3, vp 2 0), (4, .t (.c (.d (.sl 1 ((varsZ t.parts).map intD))))), (5, vi .i64 ((j : Int) + 1))] [(0, .box ([.d (.sl 3 (t.parts.map Part.d))] ++ zi t.k)), (1, .box [.d (.raw nilV), .d (.raw (.bool false)), .d (nsl [])]), (2, .box ([.own 4 (out ++ [(Part.mk x3 r4)]).length] ++ zi r1)), (4, .row 32 3 ((out ++ [(Part.mk x3 r4)]).map Part.d))] (by kernel_rfl) h ?_; clear h; intro a w h
   refine then_n ?_
   replace h := renS 4 3 [(1, vp 0 0), (2, vp 1 0), (3, vp 2 0), (4, .t (.c (.d (.sl 1 ((varsZ t.parts).map intD))))), (5, vi .i64 ((j : Int) + 1))] [(0, .box ([.d (.sl 3 (t.parts.map Part.d))] ++ zi t.k)), (1, .box [.d (.raw nilV), .d (.raw (.bool false)), .d (nsl [])]), (2, .box ([.own 3 (out ++ [(Part.mk x3 r4)]).length] ++ zi r1)), (3, .row 32 3 ((out ++ [(Part.mk x3 r4)]).map Part.d))] h (by kernel_rfl) (by kernel_rfl) (by kernel_rfl)
   refine roundS (x := (j, out)) (y := (j + 1, (out ++ [(Part.mk x3 r4)]))) h ?_ ?_ (by kernel_rfl) (by kernel_rfl)
   ·refine ⟨?_, by have := at_lt hx3; omega, by simp; omega⟩
    rw [take_map hx3, ← hI1, er4]
   ·simp; omega
  ·have hc2 := hc; clear hc
   have hc2' := of_decide_eq_false hc2
   refine wp_exit ?_
   refine then_x ?_
   refine then_x ?_
   refine inBlock_exit ?_
   refine then_n ?_
   refine rSeq fam0ok 5 [] [(2, vp 1 0)] [(1, .box ([.own 3 out.length] ++ zi r1)), (3, .row 32 3 (out.map Part.d))] (by kernel_rfl) h ?_; clear h; intro a w h
   refine wp_ret ?_
   replace h := pubS 3 3 32 (out.map Part.d) [(2, vp 1 0)] [(1, .box ([.d (.sl 3 (out.map Part.d))] ++ zi r1))] h rfl trivial (show AllEq _ [out.length] from ⟨by first | exact (List.length_map _).symm | simp, trivial⟩) (by kernel_rfl) (by kernel_rfl)
   refine retS [.agg ([.d (.sl 3 (out.map Part.d))] ++ zi r1)] h Exit.ret (.inl rfl)  rfl ⟨RV.agg _ 1 0 _ _ _ _ tb_11 rfl rfl rfl rfl, trivial⟩ ?_ (by kernel_rfl) (by kernel_rfl)
   have hj : j = (varsZ t.parts).length := by have := hc2'; omega
   subst hj
   rw [hI1, List.take_length, er1]; first | done | rfl
end Go.Proofs.YtekhnajfdaknnaaGreatDoor.S
end
section
namespace Go.Proofs.YtekhnajfdaknnaaGreatDoor.S
open Go.RowKit

theorem tc_0 : Bodied Tryz.prog 12 := Bodied.mk' (by kernel_rfl)
theorem tc_2 : Bodied Tryz.prog 62 := Bodied.mk' (by kernel_rfl)
/-- terms of at most n parts, of at most L limbs -/
structure TOk (n L : Nat) (t : Term) : Prop where
  len : t.parts.length ≤ n
  ps : ∀ p ∈ t.parts, Lb p.c.abs ∧ p.c.abs.length ≤ L
  kb : Lb t.k.abs
  kl : t.k.abs.length ≤ L
theorem TOk.mono {n L n' L' : Nat} {t : Term} (h : TOk n L t) (hn : n ≤ n') (hL : L ≤ L') : TOk n' L' t :=
 ⟨Nat.le_trans h.len hn, fun p hp => ⟨(h.ps p hp).1, Nat.le_trans (h.ps p hp).2 hL⟩, h.kb, Nat.le_trans h.kl hL⟩
theorem TOk.psok {L : Nat} {t : Term} (h : TOk 1000 L t) : PsOk L t.parts := ⟨h.len, h.ps⟩
theorem TOk.get {n L : Nat} {t : Term} (h : TOk n L t) {j : Nat} {p : Part} (hp : t.parts[j]? = some p) : Lb p.c.abs ∧ p.c.abs.length ≤ L := h.ps p (List.mem_of_getElem? hp)
theorem TOk.plain {n L : Nat} {t : Term} (h : TOk n L t) (hn : n ≤ 1000) : TOk n (L + 1) (plainT t) := by
 refine ⟨?_, ?_, ZI.lb_of _, ?_⟩
 ·simp only [plainT, List.length_map]; exact Nat.le_trans (varsZ_len _) h.len
 ·intro p hp
  simp only [plainT, List.mem_map] at hp
  obtain ⟨v, _, rfl⟩ := hp
  exact ⟨ZI.lb_of _, coef_len (L := L) ⟨Nat.le_trans h.len hn, h.ps⟩ v⟩
 ·have := len_id h.kb; simp only [plainT]; have := h.kl; omega
def addT (a b : Term) : Term := plainT ⟨a.parts ++ b.parts, ZI.of (a.k.val + b.k.val)⟩
def mulT (a : Term) (n : ZI) : Term := ⟨a.parts.map fun p => ⟨p.v, ZI.of (p.c.val * n.val)⟩, ZI.of (a.k.val * n.val)⟩
def scaleT (a : Term) (n : ZI) : Term := plainT (mulT a n)
def numT (k : ZI) : Term := ⟨[], ZI.of k.val⟩
def oneT (v : Int) : Term := ⟨[⟨v, ZI.of 1⟩], ⟨false, []⟩⟩
def varT (v : Int) : Term := plainT (oneT v)
theorem SRPlain' (t : Term) {n L : Nat} (h : TOk n L t) (hn : n ≤ 1000) (hL : L ≤ 40000) : Fn Tryz.prog 62 [] [vd t.d] (vd (plainT t).d) [] :=
 have h' := h.mono hn hL
 SRPlain t h'.psok h'.kb h'.kl
theorem TOk.add {n m L : Nat} {s t : Term} (hs : TOk n L s) (ht : TOk m L t) (r : ZI) (hr : Lb r.abs) (lr : r.abs.length ≤ L + L + 1) : TOk (n + m) (L + L + 1) ⟨s.parts ++ t.parts, r⟩ := by
 refine ⟨?_, ?_, hr, lr⟩
 ·simp only [List.length_append]; have := hs.len; have := ht.len; omega
 ·intro p hp
  rcases List.mem_append.1 hp with h | h
  ·exact ⟨(hs.ps p h).1, by have := (hs.ps p h).2; omega⟩
  ·exact ⟨(ht.ps p h).1, by have := (ht.ps p h).2; omega⟩
theorem TOk.num {L : Nat} {k : ZI} (hk : Lb k.abs) (lk : k.abs.length ≤ L) : TOk 0 L ⟨[], k⟩ := ⟨Nat.le_refl _, fun p hp => (by cases hp), hk, lk⟩
theorem TOk.one {v : Int} : TOk 1 2 (oneT v) := ⟨Nat.le_refl _, fun p hp => by
 simp only [oneT, List.mem_singleton] at hp
 subst hp
 exact ⟨ZI.lb_of _, show (ZI.of 1).abs.length ≤ 2 from by decide⟩, Lb_nil, Nat.zero_le _⟩
theorem TOk.mul {n L M : Nat} {t : Term} {q : ZI} (ht : TOk n L t) (hq : Lb q.abs) (lq : q.abs.length ≤ M) : TOk n (L + M) (mulT t q) := by
 refine ⟨by simp only [mulT, List.length_map]; exact ht.len, ?_, ZI.lb_of _, ?_⟩
 ·intro p hp
  simp only [mulT, List.mem_map] at hp
  obtain ⟨r, hr, rfl⟩ := hp
  obtain ⟨h1, h2⟩ := ht.ps r hr
  exact ⟨ZI.lb_of _, by have := len_mul h1 hq; simp only; omega⟩
 ·have := len_mul ht.kb hq; have := ht.kl; simp only [mulT]; omega
theorem addT_ok {n m L : Nat} {s t : Term} (hs : TOk n L s) (ht : TOk m L t) (hn : n + m ≤ 1000) : TOk (n + m) (L + L + 1 + 1) (addT s t) :=
 (TOk.add hs ht _ (ZI.lb_of _) (by have := len_add hs.kb ht.kb; have := hs.kl; have := ht.kl; omega)).plain hn
def subT (s t : Term) : Term := addT s (scaleT t (ZI.of (-1)))
def negT (t : Term) : Term := scaleT t (ZI.of (-1))
end Go.Proofs.YtekhnajfdaknnaaGreatDoor.S
end
section
namespace Go.Proofs.YtekhnajfdaknnaaGreatDoor.S
open Go.RowKit

theorem td_0 : Bodied Tryz.prog 17 := Bodied.mk' (by kernel_rfl)
theorem td_4 : Bodied Tryz.prog 94 := Bodied.mk' (by kernel_rfl)
theorem td_5 : Bodied Tryz.prog 55 := Bodied.mk' (by kernel_rfl)
theorem td_6 : Bodied Tryz.prog 59 := Bodied.mk' (by kernel_rfl)
theorem ne_self (x : Int) : (x != x) = false := by simp
theorem SRTSame (t : Term) {n L : Nat} (ht : TOk n L t) (hn : n ≤ 1000) : Fn Tryz.prog 65 [] [.t (.agg ([.d (.sl 3 (t.parts.map Part.d))] ++ zi t.k)), .t (.agg ([.d (.sl 3 (t.parts.map Part.d))] ++ zi t.k))] (vb true) [] := by
 have ln := ht.len
 refine Fn.body Tryz.func65 rfl 57 rfl fun w H B a h => ?_
 refine rSeq fam0ok 0 [] [(2, vp 0 0), (3, vp 1 0), (4, vb false)] [(0, .box ([.d (.sl 3 (t.parts.map Part.d))] ++ zi t.k)), (1, .box ([.d (.sl 3 (t.parts.map Part.d))] ++ zi t.k))] (by kernel_rfl) h ?_; clear h; intro a w h
 refine wp_seq ?_
 refine rSeq fam0ok 2 [(2, .len (c := (.d (.sl 3 (t.parts.map Part.d)))) (n := t.parts.length) (lenC_map _ _ _)), (5, .len (c := (.d (.sl 3 (t.parts.map Part.d)))) (n := t.parts.length) (lenC_map _ _ _)), (6, .cmp (op := .neq) (m := (t.parts.length : Int)) (n := (t.parts.length : Int)) (b := false) .i64 (ne_self _)), (12, .call (Fn.cast (SRSame t.k t.k ht.kb ht.kb) (show vb (t.k.neg == t.k.neg && decide (t.k.abs = t.k.abs)) = vb true from congrArg vb (by simp))) td_0)] [(2, vp 0 0), (3, vp 1 0), (4, vb false), (20, vb false)] [(0, .box ([.d (.sl 3 (t.parts.map Part.d))] ++ zi t.k)), (1, .box ([.d (.sl 3 (t.parts.map Part.d))] ++ zi t.k))] (by kernel_rfl) h ?_; clear h; intro a w h
 refine condS false h rfl (fun hc => ?_) (fun hc => ?_)
 ·cases hc
 ·clear hc
  refine wp_skip ?_
  refine then_n ?_
  refine wp_seq ?_
  refine rSeq fam0ok 2 [] [(2, vp 0 0), (3, vp 1 0), (4, vb false), (5, vi .i64 0)] [(0, .box ([.d (.sl 3 (t.parts.map Part.d))] ++ zi t.k)), (1, .box ([.d (.sl 3 (t.parts.map Part.d))] ++ zi t.k))] (by kernel_rfl) h ?_; clear h; intro a w h
  refine wp_block ?_
  refine loopS (ι := (Nat)) (fun (z_ : (Nat)) => match z_ with | j => j ≤ t.parts.length)
    (fun (z_ : (Nat)) => match z_ with | j => [(2, vp 0 0), (3, vp 1 0), (5, vi .i64 (j : Int))])
    (fun (z_ : (Nat)) => match z_ with | j => [(0, .box ([.d (.sl 3 (t.parts.map Part.d))] ++ zi t.k)), (1, .box ([.d (.sl 3 (t.parts.map Part.d))] ++ zi t.k))])
    (fun (z_ : (Nat)) => match z_ with | j => t.parts.length - j) 0 ?_ h (by kernel_rfl) (by kernel_rfl) ?_
  ·exact Nat.zero_le _
  ·clear h; rintro j a w hI h
   change St _ (F.of [(2, vp 0 0), (3, vp 1 0), (5, vi .i64 (j : Int))] [(0, .box ([.d (.sl 3 (t.parts.map Part.d))] ++ zi t.k)), (1, .box ([.d (.sl 3 (t.parts.map Part.d))] ++ zi t.k))]) a w at h
   refine wp_seq ?_
   refine rSeq fam0ok 2 [(3, .len (c := (.d (.sl 3 (t.parts.map Part.d)))) (n := t.parts.length) (lenC_map _ _ _))] [(2, vp 0 0), (3, vp 1 0), (5, vi .i64 (j : Int)), (25, vb (decide ((j : Int) < (t.parts.length : Int))))] [(0, .box ([.d (.sl 3 (t.parts.map Part.d))] ++ zi t.k)), (1, .box ([.d (.sl 3 (t.parts.map Part.d))] ++ zi t.k))] (by kernel_rfl) h ?_; clear h; intro a w h
   refine condS (decide ((j : Int) < (t.parts.length : Int))) h rfl (fun hc => ?_) (fun hc => ?_)
   ·have hc1 := hc; clear hc
    have hc1' := of_decide_eq_true hc1
    refine wp_skip ?_
    refine then_n ?_
    refine wp_seq ?_
    refine wp_block ?_
    obtain ⟨x2, hx2⟩ : ∃ z_ : Part, t.parts[j]? = some z_ := ⟨_, List.getElem?_eq_getElem (by first | omega | (simp at *; omega))⟩
    obtain ⟨ox2, lx2⟩ := ht.get hx2
    refine rSeq fam0ok 2 [(3, .gen _ _ _ fun _ _ _ _ => Op.idxD (d := 31) (t := 29) (k := .i64) ta_0 (map_at hx2 (f := Part.d)) (OV.tmp 30 _)), (9, .gen _ _ _ fun _ _ _ _ => Op.idxD (d := 37) (t := 35) (k := .i64) ta_0 (map_at hx2 (f := Part.d)) (OV.tmp 36 _)), (12, .cmp (op := .neq) (m := x2.v) (n := x2.v) (b := false) .i64 (ne_self _)), (17, .gen _ _ _ fun _ _ _ _ => Op.idxD (d := 45) (t := 43) (k := .i64) ta_0 (map_at hx2 (f := Part.d)) (OV.tmp 44 _)), (23, .gen _ _ _ fun _ _ _ _ => Op.idxD (d := 51) (t := 49) (k := .i64) ta_0 (map_at hx2 (f := Part.d)) (OV.tmp 50 _)), (26, .call (Fn.cast (SRSame x2.c x2.c ox2 ox2) (show vb (x2.c.neg == x2.c.neg && decide (x2.c.abs = x2.c.abs)) = vb true from congrArg vb (by simp))) td_0)] [(2, vp 0 0), (3, vp 1 0), (5, vi .i64 (j : Int)), (56, vb false)] [(0, .box ([.d (.sl 3 (t.parts.map Part.d))] ++ zi t.k)), (1, .box ([.d (.sl 3 (t.parts.map Part.d))] ++ zi t.k))] (by kernel_rfl) h ?_; clear h; intro a w h
    refine condS false h rfl (fun hc => ?_) (fun hc => ?_)
    ·cases hc
    ·clear hc
     refine wp_skip ?_
     refine block_n ?_
     refine then_n ?_
     refine rS fam0ok 2 [(1, .add .i64 (m := (j : Int)) (n := 1) (i64_id (by omega) (by omega)))] [(2, vp 0 0), (3, vp 1 0), (5, vi .i64 ((j : Int) + 1))] [(0, .box ([.d (.sl 3 (t.parts.map Part.d))] ++ zi t.k)), (1, .box ([.d (.sl 3 (t.parts.map Part.d))] ++ zi t.k))] (by kernel_rfl) h ?_; clear h; intro a w h
     refine then_n ?_
     refine roundS (x := j) (y := j + 1) h ?_ ?_ (by kernel_rfl) (by kernel_rfl)
     ·exact (by have := at_lt hx2; omega)
     ·simp; omega
   ·have hc2 := hc; clear hc
    have hc2' := of_decide_eq_false hc2
    refine wp_exit ?_
    refine then_x ?_
    refine then_x ?_
    refine inBlock_exit ?_
    refine then_n ?_
    refine rSeq fam0ok 2 [] [(4, vb true)] [] (by kernel_rfl) h ?_; clear h; intro a w h
    refine wp_ret ?_
    refine retS [.c (.d (.raw (.bool true)))] h Exit.ret (.inl rfl)  rfl ⟨RV.tmp _ _ rfl, trivial⟩ ?_ (by kernel_rfl) (by kernel_rfl)
    rfl
theorem SRTSame2 {s t : Term} (e : s = t) {n L : Nat} (ht : TOk n L t) (hn : n ≤ 1000) : Fn Tryz.prog 65 [] [vd s.d, vd t.d] (vb true) [] := by subst e; exact SRTSame s ht hn
theorem Scopied (x : ZI) (hx : Lb x.abs) (lx : x.abs.length ≤ 100000) : Fn Tryz.prog 48 [] [vz x] (vz (ZI.of x.val)) [] := by
 refine Fn.body Tryz.func48 rfl 8 rfl fun w H B a h => ?_
 refine rSeq fam0ok 0 [] [(1, vp 0 0), (2, vp 1 0)] [(0, .box (zi x)), (1, .box [.d (.raw (.bool false)), .d (nsl [])])] (by kernel_rfl) h ?_; clear h; intro a w h
 obtain ⟨r1, er1, vr1, or1, lr1⟩ := mkZ (v := iv x.neg x.abs) (m := x.abs.length) (len_iv hx)
 refine rSeq fam0ok 2 [(4, .call (Fn.cast (SFrom x.neg x.abs hx (by omega)) (congrArg vz er1.symm)) ia_3)] [(2, vp 1 0)] [(1, .box (zi r1))] (by kernel_rfl) h ?_; clear h; intro a w h
 refine wp_ret ?_
 refine retS [.agg (zi r1)] h Exit.ret (.inl rfl)  rfl ⟨RV.agg _ 1 0 _ _ _ _ ia_1 rfl rfl rfl rfl, trivial⟩ ?_ (by kernel_rfl) (by kernel_rfl)
 rw [er1]; first | done | rfl
theorem SisNaN (x : Int)  : Fn Tryz.prog 94 [] [vi .i64 x] (vb false) [] := by
 refine Fn.body Tryz.func94 rfl 6 rfl fun w H B a h => ?_
 refine rSeq fam0ok 0 [] [(0, vi .i64 x), (2, vb false)] [] (by kernel_rfl) h ?_; clear h; intro a w h
 refine rSeq fam0ok 0 [(2, .cmp (op := .neq) (m := x) (n := x) (b := false) .i64 (ne_self _))] [(2, vb false)] [] (by kernel_rfl) h ?_; clear h; intro a w h
 refine wp_ret ?_
 refine retS [.c (.d (.raw (.bool false)))] h Exit.ret (.inl rfl)  rfl ⟨RV.tmp _ _ rfl, trivial⟩ ?_ (by kernel_rfl) (by kernel_rfl)
 rfl
theorem SCompare (x y : Int)  : Fn Tryz.prog 55 [] [vi .i64 x, vi .i64 y] (vi .i64 (cmpZ x y)) [] := by
 refine Fn.body Tryz.func55 rfl 20 rfl fun w H B a h => ?_
 refine rSeq fam0ok 0 [] [(0, vi .i64 x), (1, vi .i64 y), (4, vi .i64 0)] [] (by kernel_rfl) h ?_; clear h; intro a w h
 refine rSeq fam0ok 0 [(1, .call (SisNaN x) td_4)] [(0, vi .i64 x), (1, vi .i64 y), (4, vi .i64 0), (5, vb false)] [] (by kernel_rfl) h ?_; clear h; intro a w h
 refine rSeq fam0ok 0 [(1, .call (SisNaN y) td_4)] [(0, vi .i64 x), (1, vi .i64 y), (4, vi .i64 0), (5, vb false), (6, vb false)] [] (by kernel_rfl) h ?_; clear h; intro a w h
 refine wp_seq ?_
 refine rSeq fam0ok 0 [] [(0, vi .i64 x), (1, vi .i64 y), (4, vi .i64 0), (6, vb false), (11, vb false)] [] (by kernel_rfl) h ?_; clear h; intro a w h
 refine condS false h rfl (fun hc => ?_) (fun hc => ?_)
 ·cases hc
 ·clear hc
  refine wp_skip ?_
  refine then_n ?_
  refine wp_seq ?_
  refine rSeq fam0ok 0 [] [(0, vi .i64 x), (1, vi .i64 y), (4, vi .i64 0), (13, vb false)] [] (by kernel_rfl) h ?_; clear h; intro a w h
  refine condS false h rfl (fun hc => ?_) (fun hc => ?_)
  ·cases hc
  ·clear hc
   refine wp_skip ?_
   refine then_n ?_
   refine wp_seq ?_
   refine rSeq fam0ok 0 [] [(0, vi .i64 x), (1, vi .i64 y), (4, vi .i64 0), (16, vb (decide (x < y)))] [] (by kernel_rfl) h ?_; clear h; intro a w h
   refine condS (decide (x < y)) h rfl (fun hc => ?_) (fun hc => ?_)
   ·have hc1 := hc; clear hc
    have hc1' := of_decide_eq_true hc1
    refine rSeq fam0ok 0 [] [(0, vi .i64 x), (1, vi .i64 y), (4, vi .i64 (-1))] [] (by kernel_rfl) h ?_; clear h; intro a w h
    refine wp_ret ?_
    refine then_r ?_
    refine retS [.c (.d (.raw (.int .i64 (-1))))] h Exit.ret (.inl rfl)  rfl ⟨RV.tmp _ _ rfl, trivial⟩ ?_ (by kernel_rfl) (by kernel_rfl)
    have hz : cmpZ x y = (-1) := by unfold cmpZ; simp [*]; try omega
    rw [hz]; first | done | rfl
   ·have hc2 := hc; clear hc
    have hc2' := of_decide_eq_false hc2
    refine wp_skip ?_
    refine then_n ?_
    refine wp_seq ?_
    refine rSeq fam0ok 0 [] [(4, vi .i64 0), (19, vb (decide (x > y)))] [] (by kernel_rfl) h ?_; clear h; intro a w h
    refine condS (decide (x > y)) h rfl (fun hc => ?_) (fun hc => ?_)
    ·have hc3 := hc; clear hc
     have hc3' := of_decide_eq_true hc3
     refine rSeq fam0ok 0 [] [(4, vi .i64 1)] [] (by kernel_rfl) h ?_; clear h; intro a w h
     refine wp_ret ?_
     refine then_r ?_
     refine retS [.c (.d (.raw (.int .i64 1)))] h Exit.ret (.inl rfl)  rfl ⟨RV.tmp _ _ rfl, trivial⟩ ?_ (by kernel_rfl) (by kernel_rfl)
     have hz : cmpZ x y = 1 := by unfold cmpZ; simp [*]; try omega
     rw [hz]; first | done | rfl
    ·have hc4 := hc; clear hc
     have hc4' := of_decide_eq_false hc4
     refine wp_skip ?_
     refine then_n ?_
     refine rSeq fam0ok 0 [] [(4, vi .i64 0)] [] (by kernel_rfl) h ?_; clear h; intro a w h
     refine wp_ret ?_
     refine retS [.c (.d (.raw (.int .i64 0)))] h Exit.ret (.inl rfl)  rfl ⟨RV.tmp _ _ rfl, trivial⟩ ?_ (by kernel_rfl) (by kernel_rfl)
     have hz : cmpZ x y = 0 := by unfold cmpZ; simp [*]; try omega
     rw [hz]; first | done | rfl
theorem SPlain1 (p q : Part)  : Fn Tryz.prog 78 [] [.t (.agg ([.d (.raw (.int .i64 p.v))] ++ zi p.c)), .t (.agg ([.d (.raw (.int .i64 q.v))] ++ zi q.c))] (vi .i64 (cmpZ p.v q.v)) [] := by
 refine Fn.body Tryz.func78 rfl 10 rfl fun w H B a h => ?_
 refine rSeq fam0ok 0 [] [(2, vp 0 0), (3, vp 1 0), (4, vi .i64 0)] [(0, .box ([.d (.raw (.int .i64 p.v))] ++ zi p.c)), (1, .box ([.d (.raw (.int .i64 q.v))] ++ zi q.c))] (by kernel_rfl) h ?_; clear h; intro a w h
 refine rSeq fam0ok 2 [(4, .call (SCompare p.v q.v) td_5)] [(4, vi .i64 (cmpZ p.v q.v))] [] (by kernel_rfl) h ?_; clear h; intro a w h
 refine wp_ret ?_
 refine retS [.c (.d (.raw (.int .i64 (cmpZ p.v q.v))))] h Exit.ret (.inl rfl)  rfl ⟨RV.tmp _ _ rfl, trivial⟩ ?_ (by kernel_rfl) (by kernel_rfl)
 rfl
theorem SPlain2 (p : Part) (hp : Lb p.c.abs) (lp : p.c.abs.length ≤ 100000) : Fn Tryz.prog 79 [] [.t (.agg ([.d (.raw (.int .i64 p.v))] ++ zi p.c))] (vb (sgn p.c.val == 0)) [] := by
 refine Fn.body Tryz.func79 rfl 7 rfl fun w H B a h => ?_
 refine rSeq fam0ok 0 [] [(1, vp 0 0), (2, vb false)] [(0, .box ([.d (.raw (.int .i64 p.v))] ++ zi p.c))] (by kernel_rfl) h ?_; clear h; intro a w h
 refine rSeq fam0ok 1 [(2, .call (SSign p.c hp (by omega)) td_6)] [(2, vb (sgn p.c.val == 0))] [] (by kernel_rfl) h ?_; clear h; intro a w h
 refine wp_ret ?_
 refine retS [.c (.d (.raw (.bool (sgn p.c.val == 0))))] h Exit.ret (.inl rfl)  rfl ⟨RV.tmp _ _ rfl, trivial⟩ ?_ (by kernel_rfl) (by kernel_rfl)
 rfl
end Go.Proofs.YtekhnajfdaknnaaGreatDoor.S
end
section
namespace Go.Proofs.YtekhnajfdaknnaaGreatDoor.S

section
variable {α : Type} (v : α → Int)
def Stb (xs ys : List α) : Prop := ∀ k : Int, xs.filter (fun x => decide (v x = k)) = ys.filter (fun x => decide (v x = k))
def Ris : List α → Prop
  | [] => True
  | x :: xs => (∀ y ∈ xs, v x ≤ v y) ∧ Ris xs
def insV (x : α) : List α → List α
  | [] => [x]
  | y :: ys => if v x < v y then x :: y :: ys else y :: insV x ys
def ssV (xs : List α) : List α := xs.foldl (fun l x => insV v x l) []
variable {v}
theorem Stb.refl (xs : List α) : Stb v xs xs := fun _ => rfl
theorem Stb.symm {xs ys : List α} (h : Stb v xs ys) : Stb v ys xs := fun k => (h k).symm
theorem Stb.trans {xs ys zs : List α} (h : Stb v xs ys) (g : Stb v ys zs) : Stb v xs zs := fun k => (h k).trans (g k)
theorem Stb.app {xs ys zs us : List α} (h : Stb v xs ys) (g : Stb v zs us) : Stb v (xs ++ zs) (ys ++ us) := fun k => by rw [List.filter_append, List.filter_append, h k, g k]
theorem Stb.mem {xs ys : List α} (h : Stb v xs ys) {x : α} (hx : x ∈ xs) : x ∈ ys := by
 have h1 : x ∈ xs.filter (fun y => decide (v y = v x)) := List.mem_filter.2 ⟨hx, by simp⟩
 rw [h (v x)] at h1
 exact (List.mem_filter.1 h1).1
theorem Stb.swap {xs ys : List α} (h : ∀ x ∈ xs, ∀ y ∈ ys, v x ≠ v y) : Stb v (xs ++ ys) (ys ++ xs) := by
 intro k
 rw [List.filter_append, List.filter_append]
 by_cases hx : ∃ x ∈ xs, v x = k
 ·obtain ⟨x, hx, rfl⟩ := hx
  have : ys.filter (fun y => decide (v y = v x)) = [] := List.filter_eq_nil_iff.2 fun y hy => by simpa using fun e => h x hx y hy e.symm
  rw [this]; simp
 ·have : xs.filter (fun x => decide (v x = k)) = [] := List.filter_eq_nil_iff.2 fun x hx2 => by simpa using fun e => hx ⟨x, hx2, e⟩
  rw [this]; simp
theorem Stb.nil {ys : List α} (h : Stb v [] ys) : ys = [] := by
 cases ys with
 | nil => rfl
 | cons y ys => exact absurd (h.symm.mem (List.mem_cons_self ..)) (by simp)
theorem Ris.unique : ∀ {xs ys : List α}, Ris v xs → Ris v ys → Stb v xs ys → xs = ys
 | [], ys, _, _, h => h.nil.symm
 | x :: xs, [], _, _, h => absurd (h.mem (List.mem_cons_self ..)) (by simp)
 | x :: xs, y :: ys, hx, hy, h => by
  have h1 : v y ≤ v x := by
   rcases List.mem_cons.1 (h.mem (List.mem_cons_self ..)) with e | e
   ·rw [e]; exact Int.le_refl _
   ·exact hy.1 x e
  have h2 : v x ≤ v y := by
   rcases List.mem_cons.1 (h.symm.mem (List.mem_cons_self ..)) with e | e
   ·rw [e]; exact Int.le_refl _
   ·exact hx.1 y e
  have hv : v x = v y := by omega
  have hk := h (v x)
  simp only [List.filter_cons, decide_true, hv, if_true] at hk
  injection hk with e1 _
  subst e1
  have ht : Stb v xs ys := by
   intro k
   have := h k
   simp only [List.filter_cons] at this
   split at this
   ·injection this
   ·exact this
  rw [Ris.unique hx.2 hy.2 ht]
theorem Ris.app {xs ys : List α} : Ris v (xs ++ ys) ↔ Ris v xs ∧ Ris v ys ∧ ∀ x ∈ xs, ∀ y ∈ ys, v x ≤ v y := by
 induction xs with
 | nil => simp [Ris]
 | cons x xs ih =>
  simp only [List.cons_append, Ris, ih, List.mem_append, List.mem_cons]
  constructor
  ·rintro ⟨h1, h2, h3, h4⟩
   refine ⟨⟨fun y hy => h1 y (.inl hy), h2⟩, h3, ?_⟩
   rintro z (rfl | hz) y hy
   ·exact h1 y (.inr hy)
   ·exact h4 z hz y hy
  ·rintro ⟨⟨h1, h2⟩, h3, h4⟩
   refine ⟨?_, h2, h3, fun z hz y hy => h4 z (.inr hz) y hy⟩
   rintro y (hy | hy)
   ·exact h1 y hy
   ·exact h4 x (.inl rfl) y hy
theorem insV_stb (x : α) : ∀ {ys : List α}, Ris v ys → Stb v (insV v x ys) (ys ++ [x])
 | [], _ => Stb.refl _
 | y :: ys, h => by
  unfold insV
  split
  ·rename_i h1
   refine Stb.swap (xs := [x]) (ys := y :: ys) fun a ha b hb => ?_
   rw [List.mem_singleton.1 ha]
   rcases List.mem_cons.1 hb with rfl | hb
   ·omega
   ·have := h.1 b hb; omega
  ·exact Stb.app (xs := [y]) (ys := [y]) (Stb.refl _) (insV_stb x h.2)
theorem insV_ris (x : α) : ∀ {ys : List α}, Ris v ys → Ris v (insV v x ys)
 | [], _ => ⟨fun _ h => (by cases h), trivial⟩
 | y :: ys, h => by
  unfold insV
  split
  ·rename_i h1
   refine ⟨fun z hz => ?_, h⟩
   rcases List.mem_cons.1 hz with rfl | hz
   ·omega
   ·have := h.1 z hz; omega
  ·rename_i h1
   refine ⟨fun z hz => ?_, insV_ris x h.2⟩
   have := (insV_stb x h.2).mem hz
   rcases List.mem_append.1 this with h2 | h2
   ·exact h.1 z h2
   ·rw [List.mem_singleton.1 h2]; omega
theorem ssV_snoc (xs : List α) (x : α) : ssV v (xs ++ [x]) = insV v x (ssV v xs) := by simp [ssV, List.foldl_append]
theorem rev_ind {P : List α → Prop} (h0 : P []) (h1 : ∀ xs x, P xs → P (xs ++ [x])) (xs : List α) : P xs := by
 have : ∀ n (xs : List α), xs.length = n → P xs := by
  intro n
  induction n with
  | zero => intro xs h; rw [List.length_eq_zero_iff.1 h]; exact h0
  | succ n ih =>
   intro xs h
   have hne : xs ≠ [] := fun e => by rw [e] at h; cases h
   rw [← List.dropLast_concat_getLast hne]
   exact h1 _ _ (ih _ (by rw [List.length_dropLast]; omega))
 exact this _ xs rfl
theorem ssV_ok (xs : List α) : Ris v (ssV v xs) ∧ Stb v (ssV v xs) xs := by
 refine rev_ind (P := fun xs => Ris v (ssV v xs) ∧ Stb v (ssV v xs) xs) ⟨trivial, Stb.refl _⟩ (fun xs x h => ?_) xs
 rw [ssV_snoc]
 exact ⟨insV_ris x h.1, (insV_stb x h.1).trans (h.2.app (Stb.refl _))⟩
theorem ssV_unique {xs ys : List α} (h : Ris v ys) (hs : Stb v ys xs) : ys = ssV v xs := h.unique (ssV_ok xs).1 (hs.trans (ssV_ok xs).2.symm)
theorem ssV_of {xs : List α} (h : Ris v xs) : ssV v xs = xs := (ssV_unique h (Stb.refl _)).symm
theorem Stb.length {xs ys : List α} : ∀ (n : Nat) (_ : xs.length = n) (_ : Stb v xs ys), xs.length = ys.length := by
 intro n
 induction n generalizing xs ys with
 | zero => intro h hs; rw [List.length_eq_zero_iff.1 h] at hs ⊢; rw [hs.nil]
 | succ n ih =>
  intro h hs
  cases xs with
  | nil => cases h
  | cons x xs =>
   have hx := hs.mem (List.mem_cons_self ..)
   obtain ⟨y1, y2, rfl, hn⟩ : ∃ y1 y2, ys = y1 ++ x :: y2 ∧ ∀ y ∈ y1, v y ≠ v x := by
    have hk := hs (v x)
    simp only [List.filter_cons, decide_true, if_true] at hk
    clear h hs ih hx
    induction ys with
    | nil => simp at hk
    | cons y ys ih2 =>
     by_cases e : v y = v x
     ·simp only [List.filter_cons, e, decide_true, if_true] at hk
      injection hk with e1 _
      exact ⟨[], ys, by rw [e1]; rfl, by simp⟩
     ·simp only [List.filter_cons, e, decide_false, Bool.false_eq_true, if_false] at hk
      obtain ⟨y1, y2, rfl, h2⟩ := ih2 hk
      exact ⟨y :: y1, y2, rfl, fun z hz => by rcases List.mem_cons.1 hz with rfl | hz; exact e; exact h2 z hz⟩
   have hs2 : Stb v (y1 ++ x :: y2) (x :: (y1 ++ y2)) := by
    have := (Stb.swap (v := v) (xs := y1) (ys := [x]) fun a ha b hb => by rw [List.mem_singleton.1 hb]; exact hn a ha).app (Stb.refl y2)
    simpa using this
   have hs3 := hs.trans hs2
   have ht : Stb v xs (y1 ++ y2) := by
    intro k
    have := hs3 k
    simp only [List.filter_cons] at this
    split at this
    ·injection this
    ·exact this
   have := ih (by simpa using h) ht
   simp only [List.length_cons, List.length_append] at this ⊢
   omega
theorem ssV_len (xs : List α) : (ssV v xs).length = xs.length := Stb.length _ rfl (ssV_ok xs).2
theorem sym_merge {a1 a2 b1 b2 : List α} (ha : Ris v (a1 ++ a2)) (hb : Ris v (b1 ++ b2)) (h1 : ∀ x ∈ a1, ∀ y ∈ b2, v x ≤ v y) (h2 : ∀ x ∈ a2, ∀ y ∈ b1, v y < v x) : ssV v (a1 ++ b1) ++ ssV v (a2 ++ b2) = ssV v (a1 ++ a2 ++ (b1 ++ b2)) := by
 obtain ⟨_, _, ka⟩ := Ris.app.1 ha
 obtain ⟨_, _, kb⟩ := Ris.app.1 hb
 have s1 := ssV_ok (v := v) (a1 ++ b1)
 have s2 := ssV_ok (v := v) (a2 ++ b2)
 refine ssV_unique (Ris.app.2 ⟨s1.1, s2.1, fun x hx y hy => ?_⟩) ?_
 ·rcases List.mem_append.1 (s1.2.mem hx) with hx | hx <;> rcases List.mem_append.1 (s2.2.mem hy) with hy | hy
  ·exact ka x hx y hy
  ·exact h1 x hx y hy
  ·have := h2 y hy x hx; omega
  ·exact kb x hx y hy
 ·refine (s1.2.app s2.2).trans ?_
  have : Stb v (a1 ++ (b1 ++ a2) ++ b2) (a1 ++ (a2 ++ b1) ++ b2) := ((Stb.refl a1).app (Stb.swap fun x hx y hy => by have := h2 y hy x hx; omega)).app (Stb.refl b2)
  simpa [List.append_assoc] using this
theorem sym_left {x : α} {b1 b2 : List α} (hb : Ris v (b1 ++ b2)) (h1 : ∀ y ∈ b2, v x ≤ v y) (h2 : ∀ y ∈ b1, v y < v x) : b1 ++ x :: b2 = ssV v ([x] ++ (b1 ++ b2)) := by
 obtain ⟨r1, r2, kb⟩ := Ris.app.1 hb
 refine ssV_unique (Ris.app.2 ⟨r1, ⟨h1, r2⟩, fun y hy z hz => ?_⟩) ?_
 ·rcases List.mem_cons.1 hz with rfl | hz
  ·have := h2 y hy; omega
  ·exact kb y hy z hz
 ·have : Stb v (b1 ++ [x] ++ b2) ([x] ++ b1 ++ b2) := (Stb.swap fun y hy z hz => by rw [List.mem_singleton.1 hz]; have := h2 y hy; omega).app (Stb.refl b2)
  simpa [List.append_assoc] using this
theorem sym_right {x : α} {a1 a2 : List α} (ha : Ris v (a1 ++ a2)) (h1 : ∀ y ∈ a1, v y ≤ v x) (h2 : ∀ y ∈ a2, v x < v y) : a1 ++ x :: a2 = ssV v (a1 ++ a2 ++ [x]) := by
 obtain ⟨r1, r2, ka⟩ := Ris.app.1 ha
 refine ssV_unique (Ris.app.2 ⟨r1, ⟨fun y hy => by have := h2 y hy; omega, r2⟩, fun y hy z hz => ?_⟩) ?_
 ·rcases List.mem_cons.1 hz with rfl | hz
  ·exact h1 y hy
  ·exact ka y hy z hz
 ·have : Stb v (a1 ++ ([x] ++ a2)) (a1 ++ (a2 ++ [x])) := (Stb.refl a1).app (Stb.swap fun y hy z hz => by rw [List.mem_singleton.1 hy]; have := h2 z hz; omega)
  simpa [List.append_assoc] using this
end
end Go.Proofs.YtekhnajfdaknnaaGreatDoor.S
end
