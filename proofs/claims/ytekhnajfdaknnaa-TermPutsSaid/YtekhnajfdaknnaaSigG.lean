/-
  The rules of own rows by lists; calls of function values; slices built.
-/
import Derived.Test.YtekhnajfdaknnaaSigF
namespace Go.Proofs.Ytekhnajfdaknnaa.S
open Go.RowKit

section
variable {w0 : World} {H0 : Im} {B0 : Bl} {K : List Nat} {N : Nat} {a : Act} {w : World} {sl : List (Nat × V)} {lc : List (Nat × L)}
theorem ofS_mem {t : Nat} {v : V} (h : (F.of sl lc).s t = some v) : (t, v) ∈ sl := lookup_mem h
theorem ofL_mem {n : Nat} {l : L} (h : (F.of sl lc).l n = some l) : (n, l) ∈ lc := lookup_mem h
/-- an own row let go -/
theorem pubS (n es : Nat) (ty : TypeId) (rows : List (List D)) (sl' : List (Nat × V)) (lc' : List (Nat × L)) (h : St ⟨w0, H0, B0, [], N⟩ (F.of sl lc) a w) (hl : lc.lookup n = some (.row ty es rows))
    (h1 : AllEq rows.length (sl.flatMap (·.2.owns n))) (h2 : AllEq rows.length (lc.flatMap (·.2.owns n))) (h3 : leS ((F.of sl lc).pub n es rows) sl' = sl'.map fun p => some p.2) (h4 : leN ((F.of sl lc).pub n es rows) lc' = lc'.map fun p => some p.2) :
    St ⟨w0, H0, B0, [], N⟩ (F.of sl' lc') a w :=
  (h.pub n es ty rows hl (fun t v hv k hk => AllEq.mem h1 k (List.mem_flatMap.2 ⟨(t, v), ofS_mem hv, hk⟩)) (fun m l hm k hk => AllEq.mem h2 k (List.mem_flatMap.2 ⟨(m, l), ofL_mem hm, hk⟩))).weaken (le_of h3 h4)
/-- another name -/
theorem renS (n m : Nat) (sl' : List (Nat × V)) (lc' : List (Nat × L)) (h : St ⟨w0, H0, B0, K, N⟩ (F.of sl lc) a w) (hn : newB K sl lc m = true)
    (h3 : leS ((F.of sl lc).ren n m) sl' = sl'.map fun p => some p.2) (h4 : leN ((F.of sl lc).ren n m) lc' = lc'.map fun p => some p.2) : St ⟨w0, H0, B0, K, N⟩ (F.of sl' lc') a w :=
  (h.ren n m (newB_spec hn)).weaken (le_of h3 h4)
theorem nilOSs (t j n es : Nat) (ty : TypeId) (v : V) (sl' : List (Nat × V)) (lc' : List (Nat × L)) (h : St ⟨w0, H0, B0, K, N⟩ (F.of sl lc) a w) (hn : newB K sl lc n = true) (hv : sl.lookup t = some v) (hg : v.getC j = some (.d (.raw nilV)))
    (h3 : leS (((F.of sl lc).setL n (.row ty es [])).setS t (v.setC j (.own n 0))) sl' = sl'.map fun p => some p.2) (h4 : leN (((F.of sl lc).setL n (.row ty es [])).setS t (v.setC j (.own n 0))) lc' = lc'.map fun p => some p.2) : St ⟨w0, H0, B0, K, N⟩ (F.of sl' lc') a w :=
  (h.nilOS t j n es ty hv hg (newB_spec hn)).weaken (le_of h3 h4)
theorem nilOLs (m j n es : Nat) (ty : TypeId) (cs : List C) (sl' : List (Nat × V)) (lc' : List (Nat × L)) (h : St ⟨w0, H0, B0, K, N⟩ (F.of sl lc) a w) (hn : newB K sl lc n = true) (hv : lc.lookup m = some (.box cs)) (hg : cs[j]? = some (.d (.raw nilV)))
    (h3 : leS (((F.of sl lc).setL n (.row ty es [])).setL m (.box (cs.set j (.own n 0)))) sl' = sl'.map fun p => some p.2) (h4 : leN (((F.of sl lc).setL n (.row ty es [])).setL m (.box (cs.set j (.own n 0)))) lc' = lc'.map fun p => some p.2) : St ⟨w0, H0, B0, K, N⟩ (F.of sl' lc') a w :=
  (h.nilOL m j n es ty hv hg (newB_spec hn)).weaken (le_of h3 h4)
theorem nilDSs (t j es : Nat) (v : V) (sl' : List (Nat × V)) (lc' : List (Nat × L)) (h : St ⟨w0, H0, B0, K, N⟩ (F.of sl lc) a w) (hv : sl.lookup t = some v) (hg : v.getC j = some (.d (.raw nilV)))
    (h3 : leS ((F.of sl lc).setS t (v.setC j (.d (.sl es [])))) sl' = sl'.map fun p => some p.2) (h4 : leN ((F.of sl lc).setS t (v.setC j (.d (.sl es [])))) lc' = lc'.map fun p => some p.2) : St ⟨w0, H0, B0, K, N⟩ (F.of sl' lc') a w :=
  (h.nilDS t j es (ao := none) hv hg (fun _ => rfl) (Nat.zero_le _)).weaken (le_of h3 h4)
theorem nilDLs (m j es : Nat) (cs : List C) (sl' : List (Nat × V)) (lc' : List (Nat × L)) (h : St ⟨w0, H0, B0, K, N⟩ (F.of sl lc) a w) (hv : lc.lookup m = some (.box cs)) (hg : cs[j]? = some (.d (.raw nilV)))
    (h3 : leS ((F.of sl lc).setL m (.box (cs.set j (.d (.sl es []))))) sl' = sl'.map fun p => some p.2) (h4 : leN ((F.of sl lc).setL m (.box (cs.set j (.d (.sl es []))))) lc' = lc'.map fun p => some p.2) : St ⟨w0, H0, B0, K, N⟩ (F.of sl' lc') a w :=
  (h.nilDL m j es (ao := none) hv hg (fun _ => rfl) (Nat.zero_le _)).weaken (le_of h3 h4)
theorem cutS (n k es : Nat) (ty : TypeId) (rows : List (List D)) (sl' : List (Nat × V)) (lc' : List (Nat × L)) (h : St ⟨w0, H0, B0, K, N⟩ (F.of sl lc) a w) (hv : lc.lookup n = some (.row ty es rows))
    (h3 : leS ((F.of sl lc).setL n (.row ty es (rows.take k))) sl' = sl'.map fun p => some p.2) (h4 : leN ((F.of sl lc).setL n (.row ty es (rows.take k))) lc' = lc'.map fun p => some p.2) : St ⟨w0, H0, B0, K, N⟩ (F.of sl' lc') a w :=
  (h.cutR n k es ty hv).weaken (le_of h3 h4)
end

section
variable {P : Program}
def A.c : A → C
  | .d x => .d x
  | .ptr n o => .ptr n o
theorem AR.c {H : Im} {B : Bl} {x : A} {v : Value} (h : AR H B x v) : CR H B x.c v := by cases x <;> exact h
def capV (cs : List A) : List V := cs.map fun x => .t (.c x.c)
theorem All2.append' {α β : Type} {R : α → β → Prop} {xs zs : List α} {ys us : List β} (h : All2 R xs ys) (k : All2 R zs us) : All2 R (xs ++ zs) (ys ++ us) := All2.append h k
/-- a call of a function value -/
theorem Op.callV {k : FuncId} {cap : List A} {ps qs : List (Nat × L)} {args : List V} {res : V} (hc : Fn P k ps (args ++ capV cap) res qs) (hk : Bodied P k) {d t : Nat} {xs : List Operand} {rs : List (Nat × V)} {tys : Array TypeId} {ty pos af gd} (h : OVs xs args rs) :
    OpOk P ⟨some d, .call { callee := .value (.tmp t), args := ⟨xs⟩, argTypes := tys }, ty, pos, af, gd⟩ (callI ((t, .t (.c (.fn (.func k) [] cap))) :: rs) ps qs d res) := by
  rintro e f a w Q ⟨H, B, hok⟩ hr hnw hb
  obtain ⟨vs1, vs2, hfv, hf1, hf2⟩ : CR H B (.fn (.func k) [] cap) (a.eval (.tmp t)) := hok.slot t _ (hr.1 (t, .t (.c (.fn (.func k) [] cap))) (by simp [callI]))
  obtain rfl : vs1 = [] := by cases vs1 with
    | nil => rfl
    | cons _ _ => exact hf1.elim
  have hex : (execOp a.eval ⟨some d, .call { callee := .value (.tmp t), args := ⟨xs⟩, argTypes := tys }, ty, pos, af, gd⟩).run P w = .ok (.enter k ⟨xs.map a.eval ++ vs2⟩) w := by
    have h1 : a.eval (.tmp t) = .func (.func k) #[] ⟨vs2⟩ := hfv
    have h2 : (⟨xs⟩ : Array Operand).map a.eval = ⟨xs.map a.eval⟩ := by simp
    simp only [execOp, resolve, h1, h2, Deferred.ofValue, Sem.run_bind, Sem.run_pure, Result.andThen_ok, invoke]
    rw [run_callee hk]
    simp
  have hargs := h.eval hok fun p hp => hr.1 p (by simp [callI, hp])
  have hcap : All2 (VR H B) (capV cap) vs2 := All2.mapL _ hf2 fun a _ b hab => AR.c hab
  have hps : ∀ p ∈ ps, f.l p.1 = some p.2 := hr.2
  have pre : Pre ps (args ++ capV cap) w H B (xs.map a.eval ++ vs2) := ⟨hok.sat, fun p hp => hok.loc _ _ (hps p hp), fun p hp b c hb2 => by
      obtain ⟨h1, h2, _⟩ := hok.priv _ _ b c (hps p hp) hb2
      exact ⟨h1, h2⟩, fun p hp q hq b c c' h1 h2 => hok.inj _ _ _ _ b c c' (hps p hp) (hps q hq) h1 h2, All2.append hargs hcap⟩
  unfold Oper.wp
  rw [hex, Oper.upon_enter]
  refine (hc w H B _ pre).mono ?_
  rintro en w' ⟨v, H', B', rfl, post⟩
  have hnew : ∀ n, n ∈ qs.map (·.1) → n ∉ ps.map (·.1) → New e.K f n := by
    intro n h1 h2
    refine hnw n ?_
    simp only [callI, List.mem_filter]
    refine ⟨h1, ?_⟩
    cases hx : hasN (ps.map (·.1)) n with
    | false => rfl
    | true => exact absurd (hasN_iff.1 hx) h2
  have h1 : Ok e ⟨f.s, (f.app (callI ((t, .t (.c (.fn (.func k) [] cap))) :: rs) ps qs d res)).l⟩ H' B' a w' := hok.called (g := ⟨f.s, (f.app (callI ((t, .t (.c (.fn (.func k) [] cap))) :: rs) ps qs d res)).l⟩) hps hnew post (fun _ => rfl) (fun n => by
    simp only [F.app, callI, lookup_wl]
    cases qs.lookup n with
    | some l => rfl
    | none => by_cases hm : n ∈ ps.map (·.1) <;> simp [hm])
  exact ⟨H', B', h1.put (x := some res) (hb.1 (d, some res) (by simp [callI])) (app1_s f d (some res) _ rfl) (fun n => rfl) (fun y hy => by injection hy with hy; subst hy; exact post.res)⟩

/-! slices built -/
theorem fill_ok' {H : Im} {B : Bl} (place : Nat → Option (Nat × Nat)) (pl : List (Nat × Nat)) (hpl : ∀ i q, pl[i]? = some q → place i = some q) : ∀ (parts : List (Nat × T)) (us : List (Nat × Value)) (cs : List C) (cells : List Value) (out : List C), All2 (fun p u => p.1 = u.1 ∧ TR H B p.2 u.2) parts us → All2 (CR H B) cs cells → fillC pl cs parts = some out →
    ∃ l, Instr.fill place ⟨cells⟩ us = some ⟨l⟩ ∧ All2 (CR H B) out l
  | [], [], cs, cells, out, _, hc, hf => by simp only [fillC, Option.some.injEq] at hf; subst hf; exact ⟨cells, rfl, hc⟩
  | (i, x) :: r, (j, u) :: us, cs, cells, out, h, hc, hf => by
    obtain ⟨⟨h1, h2⟩, h3⟩ := h
    simp only at h1 h2
    subst h1
    simp only [fillC] at hf
    cases hp : pl[i]? with
    | none => rw [hp] at hf; cases hf
    | some q =>
      obtain ⟨off, size⟩ := q
      rw [hp] at hf
      simp only at hf
      split at hf
      · rename_i hcond
        obtain ⟨l, g1, g2⟩ := TR.cells h2
        obtain ⟨l', k1, k2⟩ := fill_ok' place pl hpl r us _ _ out h3 (hc.put off g2) hf
        refine ⟨l', ?_, k2⟩
        have e1 : place i = some (off, size) := hpl i _ hp
        have hl : l.length = size := by rw [← g2.length]; exact hcond.1
        have hcl := hc.length
        simp only [Instr.fill, e1, g1]
        rw [if_neg (by simp [hl]; omega)]
        have := fold_put off l 0 cells
        rw [Nat.add_zero] at this
        rw [← k1, ← this]
        congr 1
        rw [← Array.foldl_toList, Array.toList_zipIdx]
      · cases hf
  | [], _ :: _, _, _, _, h, _, _ => h.elim
  | _ :: _, [], _, _, _, h, _, _ => h.elim
/-- the places of a slice's elements -/
def plS : Nat → Nat → Nat → List (Nat × Nat)
  | 0, _, _ => []
  | len + 1, i, es => (i * es, es) :: plS len (i + 1) es
theorem plS_get : ∀ (len i es j : Nat) q, (plS len i es)[j]? = some q → q = ((i + j) * es, es) ∧ j < len
  | 0, _, _, _, _, h => by simp [plS] at h
  | len + 1, i, es, 0, q, h => by simp [plS] at h; subst h; exact ⟨rfl, by omega⟩
  | len + 1, i, es, j + 1, q, h => by
    obtain ⟨h1, h2⟩ := plS_get len (i + 1) es j q (by simpa [plS] using h)
    exact ⟨by rw [h1, show i + 1 + j = i + (j + 1) by omega], by omega⟩
/-- an element type whose zero is made of single cells -/
structure ElZ (P : Program) (t el : TypeId) (es : Nat) : Prop where
  hu : P.underlying t = some (.slice el)
  ex : ∃ i z, P.info? el = some i ∧ i.zero = some z ∧ i.size = es ∧ z.cells.size = es ∧ z.cells.toList.all flat = true
  pos : 0 < es
theorem ElZ.mk' {P : Program} {t el : TypeId} {es : Nat} (hu : P.underlying t = some (.slice el)) (i : TypeInfo) (z : Value) (h1 : P.info? el = some i) (h2 : i.zero = some z) (h3 : i.size = es) (h5 : z.cells.size = es) (h6 : z.cells.toList.all flat = true) (h7 : 0 < es) : ElZ P t el es := ⟨hu, ⟨i, z, h1, h2, h3, h5, h6⟩, h7⟩
theorem buildS_run {t el : TypeId} {es len : Nat} (hT : ElZ P t el es) (hlen : 0 < len) (hsm : len * es ≤ 16777216) {parts : List (Nat × T)} {us : List (Nat × Value)} {H : Im} {B : Bl} {out : List C} (hp : All2 (fun p u => p.1 = u.1 ∧ TR H B p.2 u.2) parts us)
    (hf : fillC (plS len 0 es) (List.replicate (len * es) .any) parts = some out) (w : World) :
    ∃ l : List Value, (Instr.buildSlice t len ⟨us⟩).run P w = .ok (.slice (some ⟨w.heap.size, 0, none⟩) len len) (w.alloc (.cells ⟨l⟩ el)) ∧ All2 (CR H B) out l := by
  obtain ⟨i, z, hi, hz, hsz, hzs, hfl⟩ := hT.ex
  have hcells : All2 (CR H B) (List.replicate (len * es) .any) ((Array.range (len * es)).map (z.cells[· % z.cells.size]!)).toList := by
    refine All2.iff.2 ⟨by simp, fun j x u hx hu => ?_⟩
    have hx' := List.mem_of_getElem? hx
    have := List.eq_of_mem_replicate hx'
    subst this
    simp only [Array.toList_map, List.getElem?_map] at hu
    cases hr : (Array.range (len * es)).toList[j]? with
    | none => rw [hr] at hu; cases hu
    | some k =>
      rw [hr] at hu
      injection hu with hu
      subst hu
      have hk : k % z.cells.size < z.cells.size := Nat.mod_lt _ (by rw [hzs]; exact hT.pos)
      show flat (z.cells[k % z.cells.size]!) = true
      rw [getElem!_pos z.cells _ hk]
      have := List.all_eq_true.1 hfl (z.cells[k % z.cells.size]'hk) (by simp)
      exact this
  have hpl : ∀ i q, (plS len 0 es)[i]? = some q → (fun i => some (i * es, es)) i = some q := by
    intro j q hq
    obtain ⟨h1, _⟩ := plS_get len 0 es j q hq
    rw [h1, Nat.zero_add]
  obtain ⟨l, h1, h2⟩ := fill_ok' (fun i => some (i * es, es)) (plS len 0 es) hpl parts us _ _ out hp hcells hf
  refine ⟨l, ?_, h2⟩
  have hne : ¬ len * i.size = 0 := by rw [hsz]; have := Nat.mul_pos hlen hT.pos; omega
  refine run_buildSlice (P := P) w t el len ⟨us⟩ ⟨l⟩ i z hT.hu hi hz (by rw [hsz]; omega) hne ?_
  subst hsz
  exact h1
/-- a new block that stays -/
theorem Ok.newData {e : E} {f : F} {H : Im} {B : Bl} {a : Act} {w : World} (h : Ok e f H B a w) (o : Obj) : Ok e f (fun b => if b = w.heap.size then some o else H b) B a (w.alloc o) ∧ Le H (fun b => if b = w.heap.size then some o else H b) := by
  have hold : ∀ b, b < w.heap.size → (w.alloc o).heap[b]? = w.heap[b]? := fun b hb => Below.heap_alloc w o b hb
  have hlt : ∀ b x, H b = some x → b < w.heap.size := fun b x hb => (Array.getElem?_eq_some_iff.1 (h.sat b x hb)).1
  have hle : Le H (fun b => if b = w.heap.size then some o else H b) := by
    intro b x hb
    have := hlt b x hb
    have hne : b ≠ w.heap.size := by omega
    simp [hne, hb]
  refine ⟨⟨h.df, h.n, ⟨h.ext.os, h.ext.tape, h.ext.output, ?_, ?_⟩, ?_, fun t v hv => VR.mono hle (fun _ _ => rfl) (h.slot t v hv), ?_, ?_, h.inj, ?_, h.le.trans hle, h.keep⟩, hle⟩
  · have := h.ext.size; simp; omega
  · intro b hb hm; have := h.ext.size; rw [hold b (by omega)]; exact h.ext.block b hb hm
  · intro b x hx
    by_cases e1 : b = w.heap.size
    · subst e1
      simp only [if_true] at hx
      rw [← hx]
      exact heap_alloc_new w o
    · simp only [if_neg e1] at hx
      rw [hold b (hlt b x hx)]; exact h.sat b x hx
  · intro n l hn
    exact LR.mono hle rfl (fun _ _ => rfl) (fun b c hb => hold b (h.priv n l b c hn hb).1) (h.loc n l hn)
  · intro n l b c hn hb
    obtain ⟨h1, h2, h3⟩ := h.priv n l b c hn hb
    exact ⟨by simp; omega, by simp only [if_neg (show b ≠ w.heap.size by omega)]; exact h2, h3⟩
  · intro b hb
    have := h.ext.size
    simp only [if_neg (show b ≠ w.heap.size by omega)]
    exact h.low b hb
theorem rowAt_of {H : Im} {B : Bl} {es : Nat} {rows : List (List D)} {l : List Value} (hes : ∀ r ∈ rows, r.length = es) (h : All2 (CR H B) (rows.flatten.map C.d) l) : RowAt H l es rows := by
  intro i r hr f x hx
  have hf : f < es := by rw [← hes r (List.mem_of_getElem? hr)]; exact (List.getElem?_eq_some_iff.1 hx).1
  have e1 : (rows.flatten.map C.d)[i * es + f]? = some (.d x) := by
    rw [List.getElem?_map, flat_at hes i f hf, hr]; simp [hx]
  have hlt : i * es + f < l.length := by rw [← h.length]; exact (List.getElem?_eq_some_iff.1 e1).1
  exact ⟨_, List.getElem?_eq_getElem hlt, (All2.iff.1 h).2 _ _ _ e1 (List.getElem?_eq_getElem hlt)⟩
/-- a slice built, let go at once -/
theorem Op.buildD {d len es : Nat} {rows : List (List D)} {xs : List (Nat × Operand)} {vs : List (Nat × T)} {rs : List (Nat × V)} {t el ty : TypeId} {pos af gd} (hT : ElZ P t el es) (h : OPs xs vs rs) (hf : fillC (plS len 0 es) (List.replicate (len * es) .any) vs = some (rows.flatten.map C.d))
    (hlen : rows.length = len) (hes : ∀ r ∈ rows, r.length = es) (hl0 : 0 < len) (hsm : len * es ≤ 16777216) :
    OpOk P ⟨some d, .buildSlice t len ⟨xs⟩, ty, pos, af, gd⟩ { rs := rs, ws := [(d, some (.t (.c (.d (.sl es rows)))))] } := by
  rintro e f a w Q ⟨H, B, hok⟩ hr hnw hb0
  have hp := h.eval hok hr.1
  obtain ⟨l, h1, h2⟩ := buildS_run (P := P) hT hl0 hsm hp hf w
  obtain ⟨hok', hle⟩ := hok.newData (.cells ⟨l⟩ el)
  have hfl : rows.flatten.length = len * es := by rw [flat_len hes, hlen]
  have hrow : DR (fun b => if b = w.heap.size then some (.cells ⟨l⟩ el (0, 0)) else H b) (.sl es rows) (.slice (some ⟨w.heap.size, 0, none⟩) len len) := by
    have := row_data (H := fun b => if b = w.heap.size then some (.cells ⟨l⟩ el (0, 0)) else H b) (es := es) (b := w.heap.size) (c := len) (arr := l) (ty := el) (rows := rows) (if_pos rfl) (by omega) (by
      have : len * 1 ≤ len * es := Nat.mul_le_mul_left _ hT.pos
      simp only [maxLen]; omega) hes (fun i r hr f x hx => by
        obtain ⟨u, k1, k2⟩ := rowAt_of hes h2 i r hr f x hx
        exact ⟨u, k1, k2.mono hle⟩)
    rwa [hlen] at this
  refine wp_of_run (d := d) rfl ?_ ⟨_, B, hok'.put (x := some (.t (.c (.d (.sl es rows))))) (hb0.1 (d, some (.t (.c (.d (.sl es rows))))) (by simp)) (app1_s f d _ _ rfl) (app0_l f _ rfl) (fun y hy => by injection hy with hy; subst hy; exact hrow)⟩
  have e1 : ((⟨xs⟩ : Array (Nat × Operand)).map fun x => (x.1, a.eval x.2)) = ⟨xs.map fun p => (p.1, a.eval p.2)⟩ := by simp
  simp only [execOp, e1, Sem.run_bind, h1, Result.andThen_ok, Sem.run_pure]
/-- a slice built, the call's own -/
theorem Op.buildO {d n len es : Nat} {rows : List (List D)} {xs : List (Nat × Operand)} {vs : List (Nat × T)} {rs : List (Nat × V)} {t el ty : TypeId} {pos af gd} (hT : ElZ P t el es) (h : OPs xs vs rs) (hf : fillC (plS len 0 es) (List.replicate (len * es) .any) vs = some (rows.flatten.map C.d))
    (hlen : rows.length = len) (hes : ∀ r ∈ rows, r.length = es) (hl0 : 0 < len) (hsm : len * es ≤ 16777216) :
    OpOk P ⟨some d, .buildSlice t len ⟨xs⟩, ty, pos, af, gd⟩ { rs := rs, ws := [(d, some (.t (.c (.own n len))))], wl := [(n, some (.row el es rows))], nw := [n] } := by
  refine OpOk.news d n _ _ rfl rfl rfl (by simp) fun e f H B a w hok hr hn => ?_
  have hp := h.eval hok hr.1
  obtain ⟨l, h1, h2⟩ := buildS_run (P := P) hT hl0 hsm hp hf w
  have hfl : rows.flatten.length = len * es := by rw [flat_len hes, hlen]
  have hll : l.length = len * es := by rw [← h2.length, List.length_map, hfl]
  refine ⟨.slice (some ⟨w.heap.size, 0, none⟩) len len, len, .cells ⟨l⟩ el, ?_, ?_, ?_⟩
  · have e1 : ((⟨xs⟩ : Array (Nat × Operand)).map fun x => (x.1, a.eval x.2)) = ⟨xs.map fun p => (p.1, a.eval p.2)⟩ := by simp
    simp only [execOp, e1, Sem.run_bind, h1, Result.andThen_ok, Sem.run_pure]
  · simp only [LR, if_true]
    refine ⟨l, heap_alloc_new w _, hll, by omega, ?_, hes, (rowAt_iff hll (by omega) hes).2 (rowAt_of hes h2)⟩
    have : len * 1 ≤ len * es := Nat.mul_le_mul_left _ hT.pos
    simp only [maxLen]; omega
  · simp [VR, TR, CR]
/-- an empty slice built, the call's own -/
theorem Op.buildE {d n es : Nat} {t el ty : TypeId} {pos af gd} (hT : ElZ P t el es) :
    OpOk P ⟨some d, .buildSlice t 0 #[], ty, pos, af, gd⟩ { ws := [(d, some (.t (.c (.own n 0))))], wl := [(n, some (.row el es []))], nw := [n] } := by
  refine OpOk.news d n _ _ rfl rfl rfl (by simp) fun e f H B a w hok hr hn => ?_
  obtain ⟨i, z, hi, hz, hsz, hzs, hfl⟩ := hT.ex
  refine ⟨.slice (some ⟨w.heap.size, 0, none⟩) 0 0, 0, .cells #[] el, ?_, ?_, ?_⟩
  · have : (Instr.buildSlice t 0 #[]).run P w = .ok (.slice (some ⟨w.heap.size, 0, none⟩) 0 0) (w.alloc (.cells #[] el)) := by
      simp [Instr.buildSlice, run_underlying hT.hu, sizeOf, typeInfo, hi, Instr.fill, newRow]
      exact congrArg (fun x => w.alloc (.cells x el)) (Array.ext' (by simp))
    simp [execOp, this]
  · simp only [LR, if_true]
    exact ⟨[], heap_alloc_new w _, by simp, Nat.le_refl _, Nat.zero_le _, by simp, by simp [All2]⟩
  · simp [VR, TR, CR]
/-- an empty slice built, let go at once -/
theorem Op.buildED {d es : Nat} {t el ty : TypeId} {pos af gd} (hT : ElZ P t el es) :
    OpOk P ⟨some d, .buildSlice t 0 #[], ty, pos, af, gd⟩ { ws := [(d, some (.t (.c (.d (.sl es [])))))] } := by
  rintro e f a w Q ⟨H, B, hok⟩ hr hnw hb0
  obtain ⟨i, z, hi, hz, hsz, hzs, hfl⟩ := hT.ex
  have hrun : (Instr.buildSlice t 0 #[]).run P w = .ok (.slice (some ⟨w.heap.size, 0, none⟩) 0 0) (w.alloc (.cells #[] el)) := by
    simp [Instr.buildSlice, run_underlying hT.hu, sizeOf, typeInfo, hi, Instr.fill, newRow]
    exact congrArg (fun x => w.alloc (.cells x el)) (Array.ext' (by simp))
  obtain ⟨hok', _⟩ := hok.newData (.cells #[] el)
  have hrow : DR (fun b => if b = w.heap.size then some (.cells #[] el (0, 0)) else H b) (.sl es []) (.slice (some ⟨w.heap.size, 0, none⟩) 0 0) := DR.nil es _ 0 (fun h => by cases h) (Nat.zero_le _)
  refine wp_of_run (d := d) rfl ?_ ⟨_, B, hok'.put (x := some (.t (.c (.d (.sl es []))))) (hb0.1 (d, some (.t (.c (.d (.sl es []))))) (by simp)) (app1_s f d _ _ rfl) (app0_l f _ rfl) (fun y hy => by injection hy with hy; subst hy; exact hrow)⟩
  simp [execOp, hrun]
end
end Go.Proofs.Ytekhnajfdaknnaa.S
