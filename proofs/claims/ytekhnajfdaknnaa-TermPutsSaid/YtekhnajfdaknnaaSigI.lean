/-
  The operations of a statement, reckoned out of what is known ahead of it; only calls and what needs a proof are told.
-/
import Derived.Test.YtekhnajfdaknnaaSigL
namespace Go.Proofs.Ytekhnajfdaknnaa.S
open Go.RowKit

/-- a type: its size; is it a struct; its fields; its zero -/
structure Ty where
  n : Nat
  agg : Bool
  fs : List (Nat × Nat × Bool)
  z : List C
  k : Nat
abbrev Tb := List (Nat × Ty)
def ikOf : Nat → Option IntKind
  | 10 => some .i8
  | 11 => some .i16
  | 12 => some .i32
  | 13 => some .i64
  | 14 => some .u8
  | 15 => some .u16
  | 16 => some .u32
  | 17 => some .u64
  | _ => none
structure TyOk (P : Program) (t : TypeId) (y : Ty) : Prop where
  sz : Sz P t y.n y.agg
  fd : ∀ k off n ag, y.fs[k]? = some (off, n, ag) → n ≠ 0 ∧ Fd P t k off n ag
  z : y.z ≠ [] → Zero P t y.z
  pl : y.fs ≠ [] → Places P t (y.fs.map fun f => (f.1, f.2.1))
  k1 : y.k = 1 → ∃ el, P.underlying t = some (.slice el)
  k2 : y.k = 2 → P.underlying t = some .string
  k3 : y.k = 3 → P.underlying t = some .bool
  ki : ∀ k, ikOf y.k = some k → P.underlying t = some (.int k)
def TbOk (P : Program) : Tb → Prop
  | [] => True
  | (t, y) :: tb => TyOk P t y ∧ TbOk P tb
theorem TbOk.get {P : Program} : ∀ {tb : Tb}, TbOk P tb → ∀ {t : Nat} {y : Ty}, tb.lookup t = some y → TyOk P t y
  | (t', y') :: tb, h, t, y, hl => by
    simp only [List.lookup] at hl
    cases hc : (t == t') with
    | true => rw [hc] at hl; simp at hl hc; subst hl hc; exact h.1
    | false => rw [hc] at hl; exact TbOk.get h.2 hl

def FdL (P : Program) (t : TypeId) : Nat → List (Nat × Nat × Bool) → Prop
  | _, [] => True
  | j, (off, n, ag) :: r => (n ≠ 0 ∧ Fd P t j off n ag) ∧ FdL P t (j + 1) r
theorem FdL.get {P : Program} {t : TypeId} : ∀ {fs : List (Nat × Nat × Bool)} {j : Nat}, FdL P t j fs → ∀ k off n ag, fs[k]? = some (off, n, ag) → n ≠ 0 ∧ Fd P t (j + k) off n ag
  | (o, m, g) :: r, j, h, 0, off, n, ag, hk => by simp at hk; obtain ⟨rfl, rfl, rfl⟩ := hk; exact h.1
  | (o, m, g) :: r, j, h, k + 1, off, n, ag, hk => by
    have := FdL.get h.2 k off n ag (by simpa using hk)
    rwa [show j + 1 + k = j + (k + 1) by omega] at this
theorem TyOk.st {P : Program} {t : TypeId} {n : Nat} {fs : List (Nat × Nat × Bool)} {z : List C} {fields : Array Field} (hu : P.underlying t = some (.struct fields)) (hs : (P.info? t).map (·.size) = some n) (hf : FdL P t 0 fs) (hz : Zero P t z) (hp : Places P t (fs.map fun f => (f.1, f.2.1))) : TyOk P t ⟨n, true, fs, z, 0⟩ :=
  ⟨Sz.mk' hs hu _ rfl, fun k off n ag h => (by have := FdL.get hf k off n ag h; rwa [Nat.zero_add] at this), fun _ => hz, fun _ => hp, fun h => (by cases h), fun h => (by cases h), fun h => (by cases h), fun k h => (by cases h)⟩
theorem TyOk.bl {P : Program} {t : TypeId} (hu : P.underlying t = some .bool) (hs : (P.info? t).map (·.size) = some 1) (hz : Zero P t [.d (.raw (.bool false))]) : TyOk P t ⟨1, false, [], [.d (.raw (.bool false))], 3⟩ :=
  ⟨Sz.mk' hs hu _ rfl, fun k off n ag h => (by simp at h), fun _ => hz, fun h => absurd rfl h, fun h => (by cases h), fun h => (by cases h), fun _ => hu, fun k h => (by cases h)⟩
theorem TyOk.str {P : Program} {t : TypeId} {z : C} (hu : P.underlying t = some .string) (hs : (P.info? t).map (·.size) = some 1) (hz : Zero P t [z]) : TyOk P t ⟨1, false, [], [z], 2⟩ :=
  ⟨Sz.mk' hs hu _ rfl, fun k off n ag h => (by simp at h), fun _ => hz, fun h => absurd rfl h, fun h => (by cases h), fun _ => hu, fun h => (by cases h), fun k h => (by cases h)⟩
theorem TyOk.slc {P : Program} {t el : TypeId} {z : C} (hu : P.underlying t = some (.slice el)) (hs : (P.info? t).map (·.size) = some 1) (hz : Zero P t [z]) : TyOk P t ⟨1, false, [], [z], 1⟩ :=
  ⟨Sz.mk' hs hu _ rfl, fun k off n ag h => (by simp at h), fun _ => hz, fun h => absurd rfl h, fun _ => ⟨_, hu⟩, fun h => (by cases h), fun h => (by cases h), fun k h => (by cases h)⟩
theorem TyOk.int {P : Program} {t : TypeId} {k : IntKind} {c : Nat} (hu : P.underlying t = some (.int k)) (hc : ikOf c = some k) (hs : (P.info? t).map (·.size) = some 1) (hz : Zero P t [.d (.raw (.int k 0))]) : TyOk P t ⟨1, false, [], [.d (.raw (.int k 0))], c⟩ :=
  ⟨Sz.mk' hs hu _ rfl, fun k off n ag h => (by simp at h), fun _ => hz, fun h => absurd rfl h, fun h => (by simp only at h; subst h; cases hc), fun h => (by simp only at h; subst h; cases hc), fun h => (by simp only at h; subst h; cases hc), fun j h => (by simp only at h; rw [hc] at h; injection h with h; subst h; exact hu)⟩
theorem nsl_len (zs : List Nat) : lenC (.d (nsl zs)) = some zs.length := by simp [lenC, nsl]
/-- a number as it is answered -/
theorem mkZ {v : Int} {m : Nat} (h : (ZI.of v).abs.length ≤ m) : ∃ r : ZI, r = ZI.of v ∧ r.val = v ∧ Lb r.abs ∧ r.abs.length ≤ m := ⟨_, rfl, ZI.val_of v, ZI.lb_of v, h⟩
theorem mkN {v m : Nat} (h : v < pw m) : ∃ r : List Nat, r = lbs v ∧ Go.Proofs.Ytekhnajfdaknnaa.val r = v ∧ Lb r ∧ r.length ≤ m := ⟨_, rfl, lbs_val v, (lbs_canon v).1, lbs_len h⟩
theorem u64_id {t : Int} (h1 : 0 ≤ t) (h2 : t ≤ 18446744073709551615) : IntKind.u64.wrap t = t := Go.IntWalk.u64_in t ⟨h1, h2⟩
theorem u32_id {t : Int} (h1 : 0 ≤ t) (h2 : t ≤ 4294967295) : IntKind.u32.wrap t = t := Go.IntWalk.u32_in t ⟨h1, h2⟩
theorem u8_id {t : Int} (h1 : 0 ≤ t) (h2 : t ≤ 255) : IntKind.u8.wrap t = t := Go.IntWalk.u8_in t ⟨h1, h2⟩
/-- what is told of an operation -/
inductive Orc (P : Program) where
  | call {k : FuncId} {ps qs : List (Nat × L)} {args : List V} {res : V} (h : Fn P k ps args res qs) (b : Bodied P k)
  | add (k : IntKind) {m n : Int} (h : k.wrap (m + n) = m + n)
  | sub (k : IntKind) {m n : Int} (h : k.wrap (m - n) = m - n)
  | mul (k : IntKind) {m n : Int} (h : k.wrap (m * n) = m * n)
  | cmp {op : BinOp} {m n : Int} {b : Bool} (k : IntKind) (h : cmpB op m n = b)
  | cmpb (op : BinOp) {m n b : Bool} (h : (op = .eql ∧ b = (m == n)) ∨ (op = .neq ∧ b = (m != n)))
  | conv (k k' : IntKind) {m : Int} (h : k'.wrap m = m)
  | neg (k : IntKind) {m : Int} (h : k.wrap (-m) = -m)
  | len {c : C} {n : Nat} (h : lenC c = some n)
  | gen (d : Option Nat) (op : Op) (i : I) (h : ∀ ty pos af gd, OpOk P ⟨d, op, ty, pos, af, gd⟩ i)

def eqC : Value → Value → Bool
  | .int k a, .int l b => (k == l) && (a == b)
  | .bool a, .bool b => a == b
  | .string a, .string b => a.data.toList == b.data.toList
  | .slice none a c, .slice none b d => Nat.beq a b && Nat.beq c d
  | _, _ => false
theorem eqC_spec {u v : Value} (h : eqC u v = true) : u = v ∧ flat v = true := by
  cases u <;> cases v <;> first
    | (simp [eqC] at h; done)
    | (rename_i a b; simp [eqC] at h; subst h; exact ⟨rfl, rfl⟩)
    | (rename_i a b; simp only [eqC, beq_iff_eq] at h; cases a; cases b; simp only at h; rename_i x y; cases x; cases y; simp only at h; subst h; exact ⟨rfl, rfl⟩)
    | (rename_i a b c d; simp [eqC] at h; obtain ⟨h1, h2⟩ := h; subst h1 h2; exact ⟨rfl, rfl⟩)
    | (rename_i a b c d e f; cases a <;> cases d <;> first | (simp [eqC] at h; done) | (simp only [eqC, Bool.and_eq_true] at h; rw [Nat.eq_of_beq_eq_true h.1, Nat.eq_of_beq_eq_true h.2]; exact ⟨rfl, rfl⟩))

/-- what an operand must be -/
def opdW (x : Operand) (v : V) : Option (List (Nat × V)) :=
  match x with
  | .tmp t => some [(t, v)]
  | .const c => match v with
    | .t (.c (.d (.raw u))) => if eqC u c = true then some [] else none
    | _ => none
  | .func g => match v with
    | .t (.c (.fn (.func g') [] [])) => if Nat.beq g g' = true then some [] else none
    | _ => none
  | _ => none
theorem opdW_spec {x : Operand} {v : V} {rs : List (Nat × V)} (h : opdW x v = some rs) : OV x v rs := by
  unfold opdW at h
  split at h
  · injection h with h; subst h; exact .tmp _ _
  · split at h
    · split at h
      · rename_i hc
        injection h with h; subst h
        obtain ⟨rfl, hf⟩ := eqC_spec hc
        exact .const _ hf
      · cases h
    · cases h
  · split at h
    · split at h
      · rename_i hc
        injection h with h; subst h
        rw [← Nat.eq_of_beq_eq_true hc]
        exact .func _
      · cases h
    · cases h
  · cases h
def opdWs : List Operand → List V → Option (List (Nat × V))
  | [], [] => some []
  | x :: xs, v :: vs => match opdW x v with
    | some r => match opdWs xs vs with
      | some rs => some (r ++ rs)
      | none => none
    | none => none
  | _, _ => none
theorem opdWs_spec : ∀ {xs : List Operand} {vs : List V} {rs : List (Nat × V)}, opdWs xs vs = some rs → OVs xs vs rs
  | [], [], rs, h => by simp [opdWs] at h; subst h; exact .nil
  | x :: xs, v :: vs, rs, h => by
    simp only [opdWs] at h
    split at h
    · rename_i r hr
      split at h
      · rename_i rs' hrs
        injection h with h; subst h
        exact .cons (opdW_spec hr) (opdWs_spec hrs)
      · cases h
    · cases h
  | [], _ :: _, rs, h => by simp [opdWs] at h
  | _ :: _, [], rs, h => by simp [opdWs] at h
/-- what an operand is -/
def opdI (f : F) (x : Operand) : Option (V × List (Nat × V)) :=
  match x with
  | .tmp t => match f.s t with
    | some v => some (v, [(t, v)])
    | none => none
  | .const v => if flat v = true then some (.t (.c (.d (.raw v))), []) else none
  | .func g => some (.t (.c (.fn (.func g) [] [])), [])
  | _ => none
theorem opdI_spec {f : F} {x : Operand} {v : V} {rs : List (Nat × V)} (h : opdI f x = some (v, rs)) : OV x v rs := by
  unfold opdI at h
  split at h
  · split at h
    · injection h with h; injection h with h1 h2; subst h1 h2; exact .tmp _ _
    · cases h
  · split at h
    · rename_i hf; injection h with h; injection h with h1 h2; subst h1 h2; exact .const _ hf
    · cases h
  · injection h with h; injection h with h1 h2; subst h1 h2; exact .func _
  · cases h
def opdP (f : F) : List (Nat × Operand) → Option (List (Nat × T) × List (Nat × V))
  | [] => some ([], [])
  | (i, x) :: xs => match opdI f x with
    | some (.t v, r) => match opdP f xs with
      | some (vs, rs) => some ((i, v) :: vs, r ++ rs)
      | none => none
    | _ => none
theorem opdP_spec {f : F} : ∀ {xs : List (Nat × Operand)} {vs : List (Nat × T)} {rs : List (Nat × V)}, opdP f xs = some (vs, rs) → OPs xs vs rs
  | [], vs, rs, h => by simp [opdP] at h; obtain ⟨rfl, rfl⟩ := h; exact .nil
  | (i, x) :: xs, vs, rs, h => by
    simp only [opdP] at h
    split at h
    · rename_i v r hr
      split at h
      · rename_i vs' rs' hrs
        injection h with h; injection h with h1 h2; subst h1 h2
        exact .cons (opdI_spec hr) (opdP_spec hrs)
      · cases h
    · cases h

/-- an element that stays: its fields' addresses, its parts -/
theorem Op.fieldAddrE {P : Program} {d t k off m : Nat} {ag : Bool} {xs : List D} {xt ty : TypeId} {pos af gd} (hf : Fd P xt k off m ag) (hm : m ≠ 0) : OpOk P ⟨some d, .fieldAddr xt (.tmp t) k, ty, pos, af, gd⟩ { rs := [(t, .t (.c (.el xs)))], ws := [(d, some (.t (.c (.el (xs.drop off)))))] } :=
  OpOk.value d _ rfl rfl rfl fun e f H B a w hok hr => by
    obtain ⟨b, o, arr, ty', fz, hb, hu, hx⟩ : CR H B (.el xs) (a.eval (.tmp t)) := hok.slot t _ (hr.1 (t, .t (.c (.el xs))) (by simp))
    obtain ⟨fields, fd, g1, g2, rfl, g4⟩ := hf.ex
    refine ⟨.pointer (some ⟨b, o + fd.offset, none⟩), ?_, b, o + fd.offset, arr, ty', fz, hb, rfl, fun j hj => ?_⟩
    · generalize a.eval = ρ at hu ⊢
      simp only [execOp, hu, Instr.fieldAt, Sem.run_bind, run_underlying g1, Result.andThen_ok, g2, Instr.sureAddr, Sem.run_pure, fieldPlace, g4.sizeOf, hm, if_false, Addr.add_mid]
    · have hj' : fd.offset + j < xs.length := by rw [List.length_drop] at hj; omega
      obtain ⟨u, h1, h2⟩ := hx (fd.offset + j) hj'
      exact ⟨u, by rw [Nat.add_assoc]; exact h1, by rw [List.getElem_drop]; exact h2⟩
theorem Op.loadE_agg {P : Program} {d t m : Nat} {xs ys : List D} {xt ty : TypeId} {pos af gd} (hs : Sz P xt m true) (h : xs.take m = ys) (hm : ys.length = m) : OpOk P ⟨some d, .load xt (.tmp t), ty, pos, af, gd⟩ { rs := [(t, .t (.c (.el xs)))], ws := [(d, some (.t (.agg (ys.map C.d))))] } :=
  OpOk.value d _ rfl rfl rfl fun e f H B a w hok hr => by
    obtain ⟨b, o, arr, ty', fz, hb, hu, hx⟩ : CR H B (.el xs) (a.eval (.tmp t)) := hok.slot t _ (hr.1 (t, .t (.c (.el xs))) (by simp))
    have hw := hok.sat b _ hb
    have hml : m ≤ xs.length := by rw [← hm, ← h, List.length_take]; omega
    have hfill : ∀ j, j < m → ∃ u, arr.toList[o + j]? = some u ∧ ∃ hj : j < xs.length, DR H xs[j] u := by
      intro j hj
      obtain ⟨u, h1, h2⟩ := hx j (by omega)
      exact ⟨u, by simpa using h1, by omega, h2⟩
    have hlen : ((arr.toList.drop o).take m).length = m := by
      rw [List.length_take, List.length_drop]
      cases m with
      | zero => omega
      | succ m =>
        obtain ⟨u, g1, _⟩ := hfill m (by omega)
        have := (List.getElem?_eq_some_iff.1 g1).1
        omega
    refine ⟨.agg ((arr.toList.drop o).take m).toArray, ?_, ⟨_, rfl, ?_⟩⟩
    · generalize a.eval = ρ at hu ⊢
      have h8 := run_load_agg (P := P) hs (w := w) (b := b) (o := o) (cs := (arr.toList.drop o).take m) hlen (fun j v hv => by
        refine cell_of (arr := arr.toList) (by rw [hw]) ?_
        rw [List.getElem?_take] at hv
        split at hv
        · rw [List.getElem?_drop] at hv; exact hv
        · cases hv)
      simp only [execOp, hu, Instr.loadAt, Instr.sureAddr, Sem.run_bind, Sem.run_pure, Result.andThen_ok, h8]
    · subst h
      have key : ∀ (n : Nat) (zs : List D) (k : Nat), (∀ j, j < zs.length → ∃ u, arr.toList[o + k + j]? = some u ∧ ∃ hj : j < zs.length, DR H zs[j] u) → n = zs.length → All2 (CR H B) (zs.map C.d) ((arr.toList.drop (o + k)).take n) := by
        intro n zs
        induction zs generalizing n with
        | nil => intro k _ hn; subst hn; simp [All2]
        | cons z zs ih =>
          intro k hz hn
          subst hn
          obtain ⟨u, h1, _, h2⟩ := hz 0 (by simp)
          have hlt : o + k < arr.toList.length := (List.getElem?_eq_some_iff.1 (by simpa using h1)).1
          rw [List.drop_eq_getElem_cons hlt, List.length_cons, List.take_succ_cons]
          refine ⟨?_, ih _ (k + 1) (fun j hj => ?_) rfl⟩
          · rw [Nat.add_zero, List.getElem?_eq_getElem hlt] at h1
            injection h1 with h1
            rw [h1]; exact h2
          · obtain ⟨u, h3, hj', h4⟩ := hz (j + 1) (by simp; omega)
            exact ⟨u, by rw [← h3]; congr 1; omega, hj, by simpa using h4⟩
      have hm' : m = (xs.take m).length := hm.symm
      refine key m (xs.take m) 0 (fun j hj => ?_) hm'
      obtain ⟨u, h1, hj', h2⟩ := hfill j (by omega)
      exact ⟨u, h1, hj, by rw [List.getElem_take]; exact h2⟩
theorem Op.loadE_c {P : Program} {d t m : Nat} {xs : List D} {x : D} {xt ty : TypeId} {pos af gd} (hs : Sz P xt m false) (h : xs[0]? = some x) : OpOk P ⟨some d, .load xt (.tmp t), ty, pos, af, gd⟩ { rs := [(t, .t (.c (.el xs)))], ws := [(d, some (.t (.c (.d x))))] } :=
  OpOk.value d _ rfl rfl rfl fun e f H B a w hok hr => by
    obtain ⟨b, o, arr, ty', fz, hb, hu, hx⟩ : CR H B (.el xs) (a.eval (.tmp t)) := hok.slot t _ (hr.1 (t, .t (.c (.el xs))) (by simp))
    obtain ⟨h0, rfl⟩ := List.getElem?_eq_some_iff.1 h
    obtain ⟨u, h1, h2⟩ := hx 0 h0
    refine ⟨u, ?_, h2⟩
    have h8 := run_load_c (P := P) hs (cell_of (arr := arr.toList) (o := o) (v := u) (by rw [hok.sat b _ hb]) (by simpa using h1))
    generalize a.eval = ρ at hu ⊢
    simp only [execOp, hu, Instr.loadAt, Instr.sureAddr, Sem.run_bind, Sem.run_pure, Result.andThen_ok, h8]

def one (d : Nat) (v : V) (rs : List (Nat × V)) : I := { rs := rs, ws := [(d, some v)] }
/-- an operation that needs nothing told -/
def instS (tb : Tb) (f : F) (nx : Nat) (o : Oper) : Option (I × Nat) :=
  match o.op, o.dst with
  | .move x, some d => match opdI f x with
    | some (v, rs) => some (one d v rs, nx)
    | none => none
  | .assign x, some d => match opdI f x with
    | some (v, rs) => some (one d v rs, nx)
    | none => none
  | .box _ x, some d => match opdI f x with
    | some (.t v, rs) => some ({ rs := rs, ws := [(d, some (vp nx 0))], wl := [(nx, some (.box (cellsOf v)))], nw := [nx] }, nx + 1)
    | _ => none
  | .alloc t, some d => match tb.lookup t with
    | some y => match y.z with
      | [] => none
      | c :: cs => some ({ ws := [(d, some (vp nx 0))], wl := [(nx, some (.box (c :: cs)))], nw := [nx] }, nx + 1)
    | none => none
  | .fieldAddr t (.tmp x) k, some d => match f.s x, tb.lookup t with
    | some (.t (.c (.ptr n p))), some y => match y.fs[k]? with
      | some (off, _, _) => some ({ rs := [(x, vp n p)], ws := [(d, some (vp n (p + off)))] }, nx)
      | none => none
    | some (.t (.c (.el xs))), some y => match y.fs[k]? with
      | some (off, _, _) => some ({ rs := [(x, .t (.c (.el xs)))], ws := [(d, some (.t (.c (.el (xs.drop off)))))] }, nx)
      | none => none
    | _, _ => none
  | .load t (.tmp x), some d => match f.s x, tb.lookup t with
    | some (.t (.c (.ptr n p))), some y => match f.l n with
      | some (.box cs) => if y.agg = true then (if Nat.beq ((cs.drop p).take y.n).length y.n = true then some ({ rs := [(x, vp n p)], rl := [(n, .box cs)], ws := [(d, some (.t (.agg ((cs.drop p).take y.n))))] }, nx) else none)
        else match cs[p]? with
          | some c => some ({ rs := [(x, vp n p)], rl := [(n, .box cs)], ws := [(d, some (.t (.c c)))] }, nx)
          | none => none
      | _ => none
    | some (.t (.c (.el xs))), some y => if y.agg = true then (if Nat.beq (xs.take y.n).length y.n = true then some ({ rs := [(x, .t (.c (.el xs)))], ws := [(d, some (.t (.agg ((xs.take y.n).map C.d))))] }, nx) else none)
      else match xs[0]? with
        | some c => some ({ rs := [(x, .t (.c (.el xs)))], ws := [(d, some (.t (.c (.d c))))] }, nx)
        | none => none
    | _, _ => none
  | .store t (.tmp x) v, none => match f.s x, tb.lookup t, opdI f v with
    | some (.t (.c (.ptr n p))), some y, some (.t v, rs) => match f.l n with
      | some (.box cs) => if Nat.beq (cellsOf v).length y.n = true then (if Nat.ble (p + y.n) cs.length = true then some ({ rs := (x, vp n p) :: rs, rl := [(n, .box cs)], wl := [(n, some (.box (putL cs p (cellsOf v))))] }, nx) else none) else none
      | _ => none
    | _, _, _ => none
  | .field t (.tmp x) k, some d => match f.s x, tb.lookup t with
    | some (.t (.agg cs)), some y => match y.fs[k]? with
      | some (off, n, true) => some ({ rs := [(x, .t (.agg cs))], ws := [(d, some (.t (.agg ((cs.drop off).take n))))] }, nx)
      | some (off, _, false) => match cs[off]? with
        | some c => some ({ rs := [(x, .t (.agg cs))], ws := [(d, some (.t (.c c)))] }, nx)
        | none => none
      | none => none
    | _, _ => none
  | .extract (.tmp x) k, some d => match f.s x with
    | some (.tup xs) => match xs[k]? with
      | some v => some ({ rs := [(x, .tup xs)], ws := [(d, some (.t v))] }, nx)
      | none => none
    | _ => none
  | .build t ps, some d => match tb.lookup t, opdP f ps.toList with
    | some y, some (vs, rs) => match y.z, y.fs with
      | c :: cs, g :: gs => match fillC ((g :: gs).map fun f => (f.1, f.2.1)) (c :: cs) vs with
        | some out => some ({ rs := rs, ws := [(d, some (.t (.agg out)))] }, nx)
        | none => none
      | _, _ => none
    | _, _ => none
  | .pick (.tmp t) x y, some d => match f.s t with
    | some (.t (.c (.d (.raw (.bool true))))) => match opdI f x with
      | some (v, rs) => some (one d v ((t, vb true) :: rs), nx)
      | none => none
    | some (.t (.c (.d (.raw (.bool false))))) => match opdI f y with
      | some (v, rs) => some (one d v ((t, vb false) :: rs), nx)
      | none => none
    | _ => none
  | .unOp .not _ x, some d => match opdI f x with
    | some (.t (.c (.d (.raw (.bool b)))), rs) => some (one d (vb (!b)) rs, nx)
    | _ => none
  | .binOp op t x y _, some d => if isCmp op = true then (match opdI f x, opdI f y with
    | some (.t (.c (.d (.raw (.int k m)))), rs), some (.t (.c (.d (.raw (.int l n)))), rs') => if (k == l) = true then some (one d (vb (cmpB op m n)) (rs ++ rs'), nx) else none
    | some (.t (.c (.d (.raw (.bool m)))), rs), some (.t (.c (.d (.raw (.bool n)))), rs') => match tb.lookup t with
      | some y => if Nat.beq y.k 3 = true then (match op with
        | .eql => some (one d (vb (m == n)) (rs ++ rs'), nx)
        | .neq => some (one d (vb (m != n)) (rs ++ rs'), nx)
        | _ => none) else none
      | none => none
    | _, _ => none) else none
  | .call { callee := .builtin .len, args := ⟨[.tmp x]⟩, argTypes := ⟨[t]⟩ }, some d => match f.s x, tb.lookup t with
    | some (.t (.c c)), some y => if Nat.beq y.k 1 = true then (match lenC c with
      | some n => some ({ rs := [(x, .t (.c c))], ws := [(d, some (vi .i64 n))] }, nx)
      | none => none) else (match c with
      | .d (.raw (.string s)) => if Nat.beq y.k 2 = true then some ({ rs := [(x, vs s)], ws := [(d, some (vi .i64 s.size))] }, nx) else none
      | _ => none)
    | _, _ => none
  | _, _ => none
/-- an operation of which something is told -/
def instO {P : Program} (tb : Tb) (o : Oper) : Orc P → Option I
  | .call (k := k) (ps := ps) (qs := qs) (args := args) (res := res) _ _ => match o.op, o.dst with
    | .call { callee := .value (.func k'), args := ⟨xs⟩, .. }, some d => if Nat.beq k' k = true then (match opdWs xs args with
      | some rs => some (callI rs ps qs d res)
      | none => none) else none
    | _, _ => none
  | .add k (m := m) (n := n) _ => match o.op, o.dst with
    | .binOp .add _ x y _, some d => match opdW x (vi k m), opdW y (vi k n) with
      | some rs, some rs' => some (one d (vi k (m + n)) (rs ++ rs'))
      | _, _ => none
    | _, _ => none
  | .sub k (m := m) (n := n) _ => match o.op, o.dst with
    | .binOp .sub _ x y _, some d => match opdW x (vi k m), opdW y (vi k n) with
      | some rs, some rs' => some (one d (vi k (m - n)) (rs ++ rs'))
      | _, _ => none
    | _, _ => none
  | .mul k (m := m) (n := n) _ => match o.op, o.dst with
    | .binOp .mul _ x y _, some d => match opdW x (vi k m), opdW y (vi k n) with
      | some rs, some rs' => some (one d (vi k (m * n)) (rs ++ rs'))
      | _, _ => none
    | _, _ => none
  | .cmp (op := op) (m := m) (n := n) (b := b) k _ => match o.op, o.dst with
    | .binOp op' _ x y _, some d => if (op' == op) && isCmp op = true then (match opdW x (vi k m), opdW y (vi k n) with
      | some rs, some rs' => some (one d (vb b) (rs ++ rs'))
      | _, _ => none) else none
    | _, _ => none
  | .cmpb op (m := m) (n := n) (b := b) _ => match o.op, o.dst with
    | .binOp op' t x y _, some d => match tb.lookup t with
      | some ty => if Nat.beq ty.k 3 = true then (if (op' == op) = true then (match opdW x (vb m), opdW y (vb n) with
        | some rs, some rs' => some (one d (vb b) (rs ++ rs'))
        | _, _ => none) else none) else none
      | none => none
    | _, _ => none
  | .conv k k' (m := m) _ => match o.op, o.dst with
    | .convert s t x, some d => match tb.lookup s, tb.lookup t with
      | some ys, some yt => if (ikOf ys.k == some k) = true then (if (ikOf yt.k == some k') = true then (match opdW x (vi k m) with
        | some rs => some (one d (vi k' m) rs)
        | none => none) else none) else none
      | _, _ => none
    | _, _ => none
  | .neg k (m := m) _ => match o.op, o.dst with
    | .unOp .neg _ x, some d => match opdW x (vi k m) with
      | some rs => some (one d (vi k (-m)) rs)
      | none => none
    | _, _ => none
  | .len (c := c) (n := n) _ => match o.op, o.dst with
    | .call { callee := .builtin .len, args := ⟨[.tmp x]⟩, argTypes := ⟨[t]⟩ }, some d => match tb.lookup t with
      | some y => if Nat.beq y.k 1 = true then some (one d (vi .i64 n) [(x, .t (.c c))]) else none
      | none => none
    | _, _ => none
  | .gen _ _ i _ => some i
section
variable {P : Program}
theorem instS_ok {tb : Tb} (htb : TbOk P tb) {f : F} {nx : Nat} {o : Oper} {i : I} {nx' : Nat} (h : instS tb f nx o = some (i, nx')) : OpOk P o i := by
  obtain ⟨dst, op, ty, pos, af, gd⟩ := o
  unfold instS at h
  dsimp only at h
  split at h
  · split at h
    · rename_i hx; injection h with h; injection h with h1 h2; subst h1; exact Op.move (opdI_spec hx)
    · cases h
  · split at h
    · rename_i hx; injection h with h; injection h with h1 h2; subst h1; exact Op.assign (opdI_spec hx)
    · cases h
  · split at h
    · rename_i hx; injection h with h; injection h with h1 h2; subst h1; exact Op.box (opdI_spec hx) _ rfl
    · cases h
  · split at h
    · rename_i y hy
      split at h
      · cases h
      · rename_i c cs hz
        injection h with h; injection h with h1 h2; subst h1
        have := (htb.get hy).z (by rw [hz]; simp)
        rw [hz] at this
        exact Op.allocZ this
    · cases h
  · split at h
    · rename_i n p y hx hy
      split at h
      · rename_i off m ag hf
        injection h with h; injection h with h1 h2; subst h1
        obtain ⟨h3, h4⟩ := (htb.get hy).fd _ _ _ _ hf
        exact Op.fieldAddr h4 h3 _ rfl
      · cases h
    · rename_i xs y hx hy
      split at h
      · rename_i off m ag hf
        injection h with h; injection h with h1 h2; subst h1
        obtain ⟨h3, h4⟩ := (htb.get hy).fd _ _ _ _ hf
        exact Op.fieldAddrE h4 h3
      · cases h
    · cases h
  · split at h
    · rename_i n p y hx hy
      split at h
      · rename_i cs hl
        split at h
        · rename_i hag
          split at h
          · rename_i hb
            injection h with h; injection h with h1 h2; subst h1
            have := (htb.get hy).sz
            rw [hag] at this
            exact Op.load_agg this rfl (Nat.eq_of_beq_eq_true hb)
          · cases h
        · rename_i hag
          split at h
          · rename_i c hc
            injection h with h; injection h with h1 h2; subst h1
            have := (htb.get hy).sz
            rw [show y.agg = false by simpa using hag] at this
            exact Op.load_c this hc
          · cases h
      · cases h
    · rename_i xs y hx hy
      split at h
      · rename_i hag
        split at h
        · rename_i hb
          injection h with h; injection h with h1 h2; subst h1
          have := (htb.get hy).sz
          rw [hag] at this
          exact Op.loadE_agg this rfl (Nat.eq_of_beq_eq_true hb)
        · cases h
      · rename_i hag
        split at h
        · rename_i c hc
          injection h with h; injection h with h1 h2; subst h1
          have := (htb.get hy).sz
          rw [show y.agg = false by simpa using hag] at this
          exact Op.loadE_c this hc
        · cases h
    · cases h
  · split at h
    · rename_i n p y v rs hx hy hv
      split at h
      · rename_i cs hl
        split at h
        · rename_i hb
          split at h
          · rename_i hle
            injection h with h; injection h with h1 h2; subst h1
            exact Op.store (htb.get hy).sz (opdI_spec hv) (Nat.eq_of_beq_eq_true hb) hle rfl
          · cases h
        · cases h
      · cases h
    · cases h
  · split at h
    · rename_i cs y hx hy
      split at h
      · rename_i off n hf
        injection h with h; injection h with h1 h2; subst h1
        exact Op.field_agg ((htb.get hy).fd _ _ _ _ hf).2 rfl
      · rename_i off n hf
        split at h
        · rename_i c hc
          injection h with h; injection h with h1 h2; subst h1
          exact Op.field_c ((htb.get hy).fd _ _ _ _ hf).2 hc
        · cases h
      · cases h
    · cases h
  · split at h
    · rename_i xs hx
      split at h
      · rename_i v hv
        injection h with h; injection h with h1 h2; subst h1
        exact Op.extract hv
      · cases h
    · cases h
  · split at h
    · rename_i ps d y vs rs hy hp
      split at h
      · rename_i c cs g gs hz hf
        split at h
        · rename_i out ho
          injection h with h; injection h with h1 h2; subst h1
          have h3 := (htb.get hy).z (by rw [hz]; simp)
          have h4 := (htb.get hy).pl (by rw [hf]; simp)
          rw [hz] at h3
          rw [hf] at h4
          exact Op.build h3 h4 (opdP_spec hp) out ho
        · cases h
      · cases h
    · cases h
  · split at h
    · split at h
      · rename_i v rs hx
        injection h with h; injection h with h1 h2; subst h1
        exact Op.pickT (opdI_spec hx)
      · cases h
    · split at h
      · rename_i v rs hx
        injection h with h; injection h with h1 h2; subst h1
        exact Op.pickF (opdI_spec hx)
      · cases h
    · cases h
  · split at h
    · rename_i b rs hx
      injection h with h; injection h with h1 h2; subst h1
      exact Op.not (opdI_spec hx)
    · cases h
  · split at h
    · rename_i hc
      split at h
      · rename_i k m rs l n rs' hx hy
        split at h
        · rename_i hkl
          injection h with h; injection h with h1 h2; subst h1
          obtain rfl : k = l := by simpa using hkl
          exact Op.cmp (opdI_spec hx) (opdI_spec hy) hc rfl
        · cases h
      · rename_i m rs n rs' hx hy
        split at h
        · rename_i y ht
          split at h
          · rename_i hk
            have hu := (htb.get ht).k3 (Nat.eq_of_beq_eq_true hk)
            split at h
            · injection h with h; injection h with h1 h2; subst h1
              exact Op.cmpb hu (opdI_spec hx) (opdI_spec hy) (.inl ⟨rfl, rfl⟩)
            · injection h with h; injection h with h1 h2; subst h1
              exact Op.cmpb hu (opdI_spec hx) (opdI_spec hy) (.inr ⟨rfl, rfl⟩)
            · cases h
          · cases h
        · cases h
      · cases h
    · cases h
  · split at h
    · rename_i c y hx hy
      split at h
      · rename_i hk
        split at h
        · rename_i n hn
          injection h with h; injection h with h1 h2; subst h1
          obtain ⟨el, hu⟩ := (htb.get hy).k1 (Nat.eq_of_beq_eq_true hk)
          exact Op.len hu (OV.tmp _ _) hn
        · cases h
      · split at h
        · split at h
          · rename_i hk2
            injection h with h; injection h with h1 h2; subst h1
            exact Op.lens ((htb.get hy).k2 (Nat.eq_of_beq_eq_true hk2)) (OV.tmp _ _)
          · cases h
        · cases h
    · cases h
  · cases h
theorem instO_ok {tb : Tb} (htb : TbOk P tb) {o : Oper} {c : Orc P} {i : I} (h : instO tb o c = some i) (hg : ∀ d op i' hh, c = .gen d op i' hh → o.dst = d ∧ o.op = op) : OpOk P o i := by
  obtain ⟨dst, op, ty, pos, af, gd⟩ := o
  cases c with
  | call hf b =>
    simp only [instO] at h
    split at h
    · split at h
      · rename_i hk
        split at h
        · rename_i rs hr
          injection h with h; subst h
          rw [Nat.eq_of_beq_eq_true hk]
          exact Op.call hf b (opdWs_spec hr)
        · cases h
      · cases h
    · cases h
  | add k hr =>
    simp only [instO] at h
    split at h
    · split at h
      · rename_i h1 h2
        injection h with h; subst h
        exact Op.arith (opdW_spec h1) (opdW_spec h2) (.inl ⟨rfl, rfl⟩) hr
      · cases h
    · cases h
  | sub k hr =>
    simp only [instO] at h
    split at h
    · split at h
      · rename_i h1 h2
        injection h with h; subst h
        exact Op.arith (opdW_spec h1) (opdW_spec h2) (.inr (.inl ⟨rfl, rfl⟩)) hr
      · cases h
    · cases h
  | mul k hr =>
    simp only [instO] at h
    split at h
    · split at h
      · rename_i h1 h2
        injection h with h; subst h
        exact Op.arith (opdW_spec h1) (opdW_spec h2) (.inr (.inr ⟨rfl, rfl⟩)) hr
      · cases h
    · cases h
  | cmp k hb =>
    simp only [instO] at h
    split at h
    · split at h
      · rename_i hc
        simp only [Bool.and_eq_true] at hc
        split at h
        · rename_i h1 h2
          injection h with h; subst h
          obtain rfl := eq_of_beq hc.1
          exact Op.cmp (opdW_spec h1) (opdW_spec h2) (by simpa using hc.2) hb
        · cases h
      · cases h
    · cases h
  | cmpb op hb =>
    simp only [instO] at h
    split at h
    · split at h
      · rename_i ty hty
        split at h
        · rename_i hk
          split at h
          · rename_i hop
            split at h
            · rename_i h1 h2
              injection h with h; subst h
              have hu := (htb.get hty).k3 (Nat.eq_of_beq_eq_true hk)
              have hop := eq_of_beq hop
              subst hop
              exact Op.cmpb hu (opdW_spec h1) (opdW_spec h2) hb
            · cases h
          · cases h
        · cases h
      · cases h
    · cases h
  | conv k k' hr =>
    simp only [instO] at h
    split at h
    · split at h
      · rename_i ys yt hs ht
        split at h
        · rename_i hk
          split at h
          · rename_i hk'
            split at h
            · rename_i h1
              injection h with h; subst h
              exact Op.conv ((htb.get ht).ki k' (by simpa using hk')) ((htb.get hs).ki k (by simpa using hk)) (opdW_spec h1) hr
            · cases h
          · cases h
        · cases h
      · cases h
    · cases h
  | neg k hr =>
    simp only [instO] at h
    split at h
    · split at h
      · rename_i h1
        injection h with h; subst h
        exact Op.neg (opdW_spec h1) rfl hr
      · cases h
    · cases h
  | len hn =>
    simp only [instO] at h
    split at h
    · split at h
      · rename_i y hy
        split at h
        · rename_i hk
          injection h with h; subst h
          obtain ⟨el, hu⟩ := (htb.get hy).k1 (Nat.eq_of_beq_eq_true hk)
          exact Op.len hu (OV.tmp _ _) hn
        · cases h
      · cases h
    · cases h
  | gen d op' i' hh =>
    simp only [instO] at h
    injection h with h; subst h
    obtain ⟨h1, h2⟩ := hg d op' i' hh rfl
    simp only at h1 h2
    subst h1 h2
    exact hh ty pos af gd

/-- one operation of a statement -/
def run1 (tb : Tb) (ops : Array Oper) (f : F) (nx : Nat) (o : Oper) (c : Option (Orc P)) : Option (I × Nat) :=
  let go : Option (I × Nat) := match c with
    | some c => match instO tb o c with
      | some i => some (i, nx)
      | none => none
    | none => instS tb f nx o
  match o.guard with
  | none => go
  | some (g, b) => match (ops[g]?).bind (·.dst) with
    | none => none
    | some d => match f.s d with
      | some (.t (.c (.d (.raw (.bool c))))) => if (c == b) = true then (match go with
          | some (i, n) => some (i.also d (gv c), n)
          | none => none)
        else some ({ rs := [(d, gv c)], ws := o.dst.toList.map fun t => (t, none) }, nx)
      | _ => none
theorem run1_ok {tb : Tb} (htb : TbOk P tb) {ops : Array Oper} {f : F} {nx : Nat} {o : Oper} {c : Option (Orc P)} {i : I} {nx' : Nat} (h : run1 tb ops f nx o c = some (i, nx')) (hg : ∀ d op i' hh, c = some (.gen d op i' hh) → o.dst = d ∧ o.op = op) : Does P ops o i := by
  have hgo : ∀ j m, (match c with
    | some c => match instO tb o c with
      | some i => some (i, nx)
      | none => none
    | none => instS tb f nx o) = some (j, m) → OpOk P o j := by
    intro j m hj
    cases c with
    | none => exact instS_ok htb hj
    | some c =>
      simp only at hj
      split at hj
      · rename_i i' hi
        injection hj with hj; injection hj with h1 h2; subst h1
        exact instO_ok htb hi fun d op i2 hh e => hg d op i2 hh (by rw [e])
      · cases hj
  unfold run1 at h
  dsimp only at h
  split at h
  · rename_i hgd
    exact .run hgd (hgo _ _ h)
  · rename_i g b hgd
    split at h
    · cases h
    · rename_i d hd
      split at h
      · rename_i c' hc'
        split at h
        · rename_i hcb
          obtain rfl : c' = b := by simpa using hcb
          split at h
          · rename_i i' n' hi
            injection h with h; injection h with h1 h2; subst h1
            exact .runG g c' d hgd hd (by simp [I.also]) (hgo _ _ hi).also
          · cases h
        · rename_i hcb
          injection h with h; injection h with h1 h2; subst h1
          have : c' = !b := by cases c' <;> cases b <;> simp at hcb ⊢
          subst this
          exact .skip g b d hgd hd (by simp) rfl rfl rfl
      · cases h
def insts (tb : Tb) (ops : Array Oper) : F → Nat → Nat → List Oper → List (Nat × Orc P) → Option (List I)
  | _, _, _, [], _ => some []
  | f, nx, j, o :: os, cs => match run1 tb ops f nx o (cs.lookup j) with
    | some (i, nx') => match insts tb ops (f.app i) nx' (j + 1) os cs with
      | some is => some (i :: is)
      | none => none
    | none => none
def gens (os : List Oper) : List (Nat × Orc P) → List ((Option Nat × Op) × (Option Nat × Op))
  | [] => []
  | (j, .gen d op _ _) :: cs => ((((os[j]?).map (·.dst)).getD none, ((os[j]?).map (·.op)).getD default), (d, op)) :: gens os cs
  | _ :: cs => gens os cs
theorem gens_mem {os : List Oper} {d : Option Nat} {op : Op} {i : I} {h : ∀ ty pos af gd, OpOk P ⟨d, op, ty, pos, af, gd⟩ i} : ∀ {cs : List (Nat × Orc P)} {j : Nat}, (j, Orc.gen d op i h) ∈ cs → ((((os[j]?).map (·.dst)).getD none, ((os[j]?).map (·.op)).getD default), (d, op)) ∈ gens os cs
  | (j', c) :: cs, j, hm => by
    rcases List.mem_cons.1 hm with e | hm
    · injection e with e1 e2
      subst e1 e2
      simp [gens]
    · have := gens_mem (os := os) hm
      cases c <;> simp only [gens] <;> first | exact this | exact List.mem_cons_of_mem _ this
theorem insts_ok {tb : Tb} (htb : TbOk P tb) {ops : Array Oper} {cs : List (Nat × Orc P)} (hg : (gens ops.toList cs).map (·.1) = (gens ops.toList cs).map (·.2)) :
    ∀ (os : List Oper) (f : F) (nx j : Nat) (is : List I), ops.toList.drop j = os → insts tb ops f nx j os cs = some is → AllDo P ops os is
  | [], f, nx, j, is, _, h => by simp [insts] at h; subst h; trivial
  | o :: os, f, nx, j, is, hd, h => by
    simp only [insts] at h
    split at h
    · rename_i i nx' h1
      split at h
      · rename_i is' h2
        injection h with h; subst h
        have ho : ops.toList[j]? = some o := by
          have := congrArg (fun l => l[0]?) hd
          simpa using this
        refine ⟨run1_ok htb h1 ?_, insts_ok htb hg os _ _ (j + 1) is' ?_ h2⟩
        · intro d op i' hh hc
          have hm := gens_mem (os := ops.toList) (lookup_mem hc)
          have := map_eq_mem hg _ hm
          rw [ho] at this
          simp at this
          exact this
        · have : List.drop 1 (ops.toList.drop j) = os := by rw [hd]; rfl
          rw [List.drop_drop] at this
          simpa using this
      · cases h
    · cases h
/-- all that is checked of a statement -/
structure Seen where
  ok : Bool
  s : List (Option V)
  n : List (Option L)
  s' : List (Option V)
  n' : List (Option L)
end
section
variable {Q : Exit → Act → World → Prop} {w0 : World} {H0 : Im} {B0 : Bl} {K : List Nat} {N : Nat}
theorem rS {tb : Tb} (htb : TbOk Try.prog tb) {id : Nat} {draw : Bool} {ops : Array Oper} {a : Act} {w : World} {sl : List (Nat × V)} {lc : List (Nat × L)} (nx : Nat) (cs : List (Nat × Orc Try.prog)) (sl' : List (Nat × V)) (lc' : List (Nat × L))
    (hc : ((gens ops.toList cs).map (·.1), (insts tb ops (F.of sl lc) nx 0 ops.toList cs).isSome, (insts tb ops (F.of sl lc) nx 0 ops.toList cs).map fun is => Seen.mk (chk draw ops.toList is N K sl lc) (runS (F.of sl lc) is) (runN (F.of sl lc) is) (leS (runF (F.of sl lc) is) sl') (leN (runF (F.of sl lc) is) lc')) =
      ((gens ops.toList cs).map (·.2), true, (insts tb ops (F.of sl lc) nx 0 ops.toList cs).map fun is => Seen.mk true (wantS is) (wantN is) (sl'.map fun p => some p.2) (lc'.map fun p => some p.2)))
    (h : St ⟨w0, H0, B0, K, N⟩ (F.of sl lc) a w) (hQ : ∀ a w, St ⟨w0, H0, B0, K, N⟩ (F.of sl' lc') a w → Q .normal a w) : (Code.region id ops draw).wp Try.prog Q a w := by
  simp only [Prod.mk.injEq] at hc
  obtain ⟨hg, hs, hm⟩ := hc
  cases hi : insts tb ops (F.of sl lc) nx 0 ops.toList cs with
  | none => rw [hi] at hs; cases hs
  | some is =>
    rw [hi] at hm
    simp only [Option.map_some, Option.some.injEq, Seen.mk.injEq] at hm
    exact region is sl' lc' mixed (insts_ok htb hg _ _ _ _ _ rfl hi) hm.1 hm.2.1 hm.2.2.1 hm.2.2.2.1 hm.2.2.2.2 h hQ
theorem rSeq {tb : Tb} (htb : TbOk Try.prog tb) {id : Nat} {draw : Bool} {ops : Array Oper} {y : Code} {a : Act} {w : World} {sl : List (Nat × V)} {lc : List (Nat × L)} (nx : Nat) (cs : List (Nat × Orc Try.prog)) (sl' : List (Nat × V)) (lc' : List (Nat × L))
    (hc : ((gens ops.toList cs).map (·.1), (insts tb ops (F.of sl lc) nx 0 ops.toList cs).isSome, (insts tb ops (F.of sl lc) nx 0 ops.toList cs).map fun is => Seen.mk (chk draw ops.toList is N K sl lc) (runS (F.of sl lc) is) (runN (F.of sl lc) is) (leS (runF (F.of sl lc) is) sl') (leN (runF (F.of sl lc) is) lc')) =
      ((gens ops.toList cs).map (·.2), true, (insts tb ops (F.of sl lc) nx 0 ops.toList cs).map fun is => Seen.mk true (wantS is) (wantN is) (sl'.map fun p => some p.2) (lc'.map fun p => some p.2)))
    (h : St ⟨w0, H0, B0, K, N⟩ (F.of sl lc) a w) (hQ : ∀ a w, St ⟨w0, H0, B0, K, N⟩ (F.of sl' lc') a w → y.wp Try.prog Q a w) : (Code.seq (Code.region id ops draw) y).wp Try.prog Q a w :=
  wp_seq (rS htb nx cs sl' lc' hc h hQ)
end
end Go.Proofs.Ytekhnajfdaknnaa.S
