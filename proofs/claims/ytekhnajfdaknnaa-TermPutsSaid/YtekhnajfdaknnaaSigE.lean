/-
  Slices: those that stay, read as data; own rows, read and written; own rows let go as data.
-/
import Derived.Test.YtekhnajfdaknnaaSigI
namespace Go.Proofs.Ytekhnajfdaknnaa.S
open Go.RowKit

/-- a slice type, its elements' type and size -/
structure SlT (P : Program) (t el : TypeId) (es : Nat) : Prop where
  hu : P.underlying t = some (.slice el)
  hs : (P.info? el).map (·.size) = some es
theorem SlT.mk' {P : Program} {t el : TypeId} {es : Nat} (hu : P.underlying t = some (.slice el)) (hs : (P.info? el).map (·.size) = some es) : SlT P t el es := ⟨hu, hs⟩
theorem size_run {P : Program} {t : TypeId} {n : Nat} (h : (P.info? t).map (·.size) = some n) (w : World) : (Go.sizeOf t).run P w = .ok n w := by
  cases hi : P.info? t with
  | none => rw [hi] at h; cases h
  | some i =>
    rw [hi] at h
    injection h with h
    have e1 : (typeInfo t).run P w = .ok i w := by unfold typeInfo; simp only [Sem.run_bind, run_program, Result.andThen_ok, hi]; rfl
    unfold Go.sizeOf
    simp [e1, h, go_sem]

theorem run_indexAt {P : Program} {t el : TypeId} {es : Nat} (h : SlT P t el es) {b o n c i : Nat} {k : IntKind} (hi : i < n) (w : World) :
    (Instr.indexAt t (.slice (some ⟨b, o, none⟩) n c) (.int k i)).run P w = .ok (.pointer (some ⟨b, o + i * es, none⟩)) w := by
  have h1 : (0 : Int) ≤ i ∧ (i : Int) < n := ⟨by omega, by omega⟩
  unfold Instr.indexAt
  simp only [asIntOf, Sem.run_bind, Sem.run_pure, Result.andThen_ok, run_underlying h.hu, h1, and_self, if_true, size_run h.hs, Int.toNat_natCast, Addr.add_mid]

section
variable {P : Program}
/-- the address of an element that stays -/
theorem Op.idxD {d t : Nat} {y : Operand} {es i : Nat} {rows : List (List D)} {r : List D} {k : IntKind} {rs : List (Nat × V)} {xt el ty : TypeId} {pos af gd} (hs : SlT P xt el es) (hr : rows[i]? = some r) (hy : OV y (vi k i) rs) :
    OpOk P ⟨some d, .indexAddr xt (.tmp t) y, ty, pos, af, gd⟩ { rs := (t, .t (.c (.d (.sl es rows)))) :: rs, ws := [(d, some (.t (.c (.el r))))] } :=
  OpOk.value d _ rfl rfl rfl fun e f H B a w hok hr2 => by
    have h1 := hok.slot t _ (hr2.1 (t, .t (.c (.d (.sl es rows)))) (by simp))
    have h2 : a.eval y = .int k i := (hy.eval hok fun p hp => hr2.1 p (by simp [hp])).rawI
    obtain ⟨hi, rfl⟩ := List.getElem?_eq_some_iff.1 hr
    have h3 : DR H (.sl es rows) (a.eval (.tmp t)) := h1
    generalize hv0 : a.eval (.tmp t) = v at h3
    cases h3 with
    | nil ao c => simp at hi
    | sl _ _ b o c arr ty' fz vs hp hb hl hc hes hv hx =>
      refine ⟨.pointer (some ⟨b, o + i * es, none⟩), ?_, b, o + i * es, arr, ty', fz, hb, rfl, fun j hj => ⟨vs i j, hv i hi j (by rw [← hes i hi]; exact hj), hx i hi j hj⟩⟩
      have h5 : a.eval (.tmp t) = .slice (some ⟨b, o, none⟩) rows.length c := hv0
      generalize a.eval = ρ at h5 h2 ⊢
      simp only [execOp, h5, h2, Sem.run_bind, run_indexAt hs hi, Result.andThen_ok, Sem.run_pure]
end

theorem All2.iff {α β : Type} {R : α → β → Prop} : ∀ {xs : List α} {ys : List β}, All2 R xs ys ↔ xs.length = ys.length ∧ ∀ (j : Nat) a b, xs[j]? = some a → ys[j]? = some b → R a b
  | [], [] => ⟨fun _ => ⟨rfl, fun j a b h => by simp at h⟩, fun _ => trivial⟩
  | x :: xs, y :: ys => by
    constructor
    · intro h
      obtain ⟨h1, h2⟩ := All2.iff.1 h.2
      refine ⟨by simp [h1], fun j a b ha hb => ?_⟩
      cases j with
      | zero => simp at ha hb; subst ha hb; exact h.1
      | succ j => exact h2 j a b (by simpa using ha) (by simpa using hb)
    · rintro ⟨h1, h2⟩
      exact ⟨h2 0 x y rfl rfl, All2.iff.2 ⟨by simpa using h1, fun j a b ha hb => h2 (j + 1) a b (by simpa using ha) (by simpa using hb)⟩⟩
  | [], _ :: _ => ⟨fun h => h.elim, fun h => by simp at h⟩
  | _ :: _, [] => ⟨fun h => h.elim, fun h => by simp at h⟩
theorem flat_at {α : Type} {es : Nat} : ∀ {rows : List (List α)} (_ : ∀ r ∈ rows, r.length = es) (i f : Nat), f < es → rows.flatten[i * es + f]? = (rows[i]?).bind (·[f]?)
  | [], _, i, f, _ => by simp
  | r :: rows, h, 0, f, hf => by
    have : r.length = es := h r (by simp)
    simp only [List.flatten_cons, Nat.zero_mul, Nat.zero_add, List.getElem?_cons_zero, Option.bind_some]
    rw [List.getElem?_append_left (by omega)]
  | r :: rows, h, i + 1, f, hf => by
    have : r.length = es := h r (by simp)
    simp only [List.flatten_cons, List.getElem?_cons_succ]
    rw [List.getElem?_append_right (by rw [this, Nat.add_mul]; omega), ← flat_at (fun r hr => h r (by simp [hr])) i f hf]
    congr 1
    rw [this, Nat.add_mul]; omega
theorem flat_len {α : Type} {es : Nat} : ∀ {rows : List (List α)} (_ : ∀ r ∈ rows, r.length = es), rows.flatten.length = rows.length * es
  | [], _ => by simp
  | r :: rows, h => by
    rw [List.flatten_cons, List.length_append, flat_len fun r hr => h r (by simp [hr]), h r (by simp), List.length_cons, Nat.add_mul]; omega
def RowAt (H : Im) (arr : List Value) (es : Nat) (rows : List (List D)) : Prop := ∀ (i : Nat) r, rows[i]? = some r → ∀ (f : Nat) x, r[f]? = some x → ∃ u, arr[i * es + f]? = some u ∧ DR H x u
theorem rowAt_iff {H : Im} {arr : List Value} {es c : Nat} {rows : List (List D)} (h1 : arr.length = c * es) (h2 : rows.length ≤ c) (h3 : ∀ r ∈ rows, r.length = es) :
    All2 (DR H) rows.flatten (arr.take (rows.length * es)) ↔ RowAt H arr es rows := by
  have hle : rows.length * es ≤ c * es := Nat.mul_le_mul_right _ h2
  rw [All2.iff]
  constructor
  · rintro ⟨_, hR⟩ i r hr f x hx
    have hf : f < es := by rw [← h3 r (List.mem_of_getElem? hr)]; exact (List.getElem?_eq_some_iff.1 hx).1
    have hi : i < rows.length := (List.getElem?_eq_some_iff.1 hr).1
    have hlt : i * es + f < rows.length * es := by
      have : (i + 1) * es ≤ rows.length * es := Nat.mul_le_mul_right _ hi
      rw [Nat.add_mul] at this; omega
    have e1 : rows.flatten[i * es + f]? = some x := by rw [flat_at h3 i f hf, hr]; exact hx
    have e2 : arr[i * es + f]? = some (arr[i * es + f]'(by omega)) := List.getElem?_eq_getElem _
    refine ⟨_, e2, hR _ _ _ e1 ?_⟩
    rw [List.getElem?_take, if_pos hlt, e2]
  · intro hR
    refine ⟨by rw [flat_len h3, List.length_take]; omega, fun j x u hx hu => ?_⟩
    have hj : j < rows.length * es := by rw [← flat_len h3]; exact (List.getElem?_eq_some_iff.1 hx).1
    have he : 0 < es := Nat.pos_of_ne_zero fun e => by simp [e] at hj
    have hjj : j = j / es * es + j % es := by rw [Nat.mul_comm]; exact (Nat.div_add_mod j es).symm
    rw [hjj, flat_at h3 _ _ (Nat.mod_lt _ he)] at hx
    cases hr : rows[j / es]? with
    | none => rw [hr] at hx; cases hx
    | some r =>
      rw [hr] at hx
      obtain ⟨v, h4, h5⟩ := hR _ r hr _ x hx
      rw [← hjj] at h4
      rw [List.getElem?_take, if_pos hj, h4] at hu
      injection hu with hu
      rwa [← hu]
theorem putL_get {α : Type} : ∀ (r l : List α) (o j : Nat), o + r.length ≤ l.length → (putL l o r)[j]? = if o ≤ j ∧ j < o + r.length then r[j - o]? else l[j]?
  | [], l, o, j, _ => by simp [putL]; intros; omega
  | v :: r, l, o, j, h => by
    simp only [List.length_cons] at h
    rw [putL, putL_get r (l.set o v) (o + 1) j (by simp; omega)]
    by_cases h1 : j = o
    · subst h1
      have : ¬ (j + 1 ≤ j ∧ j < j + 1 + r.length) := by omega
      rw [if_neg this, if_pos ⟨Nat.le_refl _, by simp⟩, Nat.sub_self, List.getElem?_set_self (by omega)]
      rfl
    · by_cases h2 : o + 1 ≤ j ∧ j < o + 1 + r.length
      · rw [if_pos h2, if_pos (by simp; omega), show j - o = (j - (o + 1)) + 1 by omega, List.getElem?_cons_succ]
      · rw [if_neg h2, if_neg (by simp; omega), List.getElem?_set_ne (by omega)]

section
variable {P : Program}
/-- the address of an element of an own row -/
theorem Op.idxO {d t n len i es : Nat} {y : Operand} {k : IntKind} {rs : List (Nat × V)} {xt el ty : TypeId} {pos af gd} (hs : SlT P xt el es) (hi : i < len) (hy : OV y (vi k i) rs) :
    OpOk P ⟨some d, .indexAddr xt (.tmp t) y, ty, pos, af, gd⟩ { rs := (t, .t (.c (.own n len))) :: rs, ws := [(d, some (vp n (i * es)))] } :=
  OpOk.value d _ rfl rfl rfl fun e f H B a w hok hr2 => by
    have h1 := hok.slot t _ (hr2.1 (t, .t (.c (.own n len))) (by simp))
    have h2 : a.eval y = .int k i := (hy.eval hok fun p hp => hr2.1 p (by simp [hp])).rawI
    simp only [VR, TR, CR] at h1
    cases hB : B n with
    | none => rw [hB] at h1; have := h1.1; omega
    | some p =>
      obtain ⟨b, c⟩ := p
      rw [hB] at h1
      refine ⟨.pointer (some ⟨b, i * es, none⟩), ?_, b, c, hB, rfl⟩
      have h5 : a.eval (.tmp t) = .slice (some ⟨b, 0, none⟩) len c := h1
      generalize a.eval = ρ at h5 h2 ⊢
      simp only [execOp, h5, h2, Sem.run_bind, run_indexAt hs hi, Result.andThen_ok, Sem.run_pure, Nat.zero_add]

theorem Ok.row {e : E} {f : F} {H : Im} {B : Bl} {a : Act} {w : World} (h : Ok e f H B a w) {n : Nat} {ty : TypeId} {es : Nat} {rows : List (List D)} (hl : f.l n = some (.row ty es rows)) {b c : Nat} (hB : B n = some (b, c)) :
    ∃ arr : List Value, w.heap[b]? = some (.cells ⟨arr⟩ ty (0, 0)) ∧ arr.length = c * es ∧ rows.length ≤ c ∧ c ≤ maxLen ∧ (∀ r ∈ rows, r.length = es) ∧ RowAt H arr es rows := by
  have h1 := h.loc n _ hl
  simp only [LR, hB] at h1
  obtain ⟨arr, h1, h2, h3, h4, h5, h6⟩ := h1
  exact ⟨arr, h1, h2, h3, h4, h5, (rowAt_iff h2 h3 h5).1 h6⟩
/-- an element of an own row is read, or a part of it -/
theorem Op.loadR_agg {d t n o i fo m es : Nat} {rows : List (List D)} {r xs : List D} {rty xt ty : TypeId} {pos af gd} (hs : Sz P xt m true) (ho : o = i * es + fo) (hr : rows[i]? = some r) (hx : (r.drop fo).take m = xs) (hm : xs.length = m) :
    OpOk P ⟨some d, .load xt (.tmp t), ty, pos, af, gd⟩ { rs := [(t, vp n o)], rl := [(n, .row rty es rows)], ws := [(d, some (.t (.agg (xs.map C.d))))] } :=
  OpOk.value d _ rfl rfl rfl fun e f H B a w hok hr2 => by
    obtain ⟨b, c, hb, hu⟩ := (hok.slot t _ (hr2.1 (t, vp n o) (by simp))).ptrI
    obtain ⟨arr, h1, h2, h3, h4, h5, h6⟩ := hok.row (hr2.2 (n, .row rty es rows) (by simp)) hb
    have hfill : ∀ j (hj : j < m), ∃ u, arr[o + j]? = some u ∧ DR H (xs[j]'(by omega)) u := by
      intro j hj
      have : r[fo + j]? = some (xs[j]'(by omega)) := by
        rw [← List.getElem?_eq_getElem, ← hx, List.getElem?_take, if_pos hj, List.getElem?_drop]
      obtain ⟨u, g1, g2⟩ := h6 i r hr (fo + j) _ this
      exact ⟨u, by rw [ho, Nat.add_assoc]; exact g1, g2⟩
    have hlen : ((arr.drop o).take m).length = m := by
      rw [List.length_take, List.length_drop]
      cases m with
      | zero => omega
      | succ m =>
        obtain ⟨u, g1, _⟩ := hfill m (by omega)
        have := (List.getElem?_eq_some_iff.1 g1).1
        omega
    refine ⟨.agg ((arr.drop o).take m).toArray, ?_, ⟨_, rfl, ?_⟩⟩
    · have h7 : a.eval (.tmp t) = .pointer (some ⟨b, o, none⟩) := hu
      generalize a.eval = ρ at h7 ⊢
      have h8 := run_load_agg (P := P) hs (w := w) (b := b) (o := o) (cs := (arr.drop o).take m) hlen (fun j v hv => by
        refine cell_of h1 ?_
        rw [List.getElem?_take] at hv
        split at hv
        · rw [List.getElem?_drop] at hv; exact hv
        · cases hv)
      simp only [execOp, h7, Instr.loadAt, Instr.sureAddr, Sem.run_bind, Sem.run_pure, Result.andThen_ok, h8]
    · refine All2.iff.2 ⟨by simp [hlen, hm], fun j x u hx2 hu2 => ?_⟩
      rw [List.getElem?_map] at hx2
      cases hj : xs[j]? with
      | none => rw [hj] at hx2; cases hx2
      | some y =>
        rw [hj] at hx2
        injection hx2 with hx2
        subst hx2
        obtain ⟨hjl, hjy⟩ := List.getElem?_eq_some_iff.1 hj
        obtain ⟨u', g1, g2⟩ := hfill j (by omega)
        rw [List.getElem?_take, if_pos (by omega), List.getElem?_drop, g1] at hu2
        injection hu2 with hu2
        subst hu2
        rw [← hjy]
        exact g2
theorem Op.loadR_c {d t n o i fo m es : Nat} {rows : List (List D)} {r : List D} {x : D} {rty xt ty : TypeId} {pos af gd} (hs : Sz P xt m false) (ho : o = i * es + fo) (hr : rows[i]? = some r) (hx : r[fo]? = some x) :
    OpOk P ⟨some d, .load xt (.tmp t), ty, pos, af, gd⟩ { rs := [(t, vp n o)], rl := [(n, .row rty es rows)], ws := [(d, some (.t (.c (.d x))))] } :=
  OpOk.value d _ rfl rfl rfl fun e f H B a w hok hr2 => by
    obtain ⟨b, c, hb, hu⟩ := (hok.slot t _ (hr2.1 (t, vp n o) (by simp))).ptrI
    obtain ⟨arr, h1, h2, h3, h4, h5, h6⟩ := hok.row (hr2.2 (n, .row rty es rows) (by simp)) hb
    obtain ⟨u, g1, g2⟩ := h6 i r hr fo x hx
    rw [← ho] at g1
    refine ⟨u, ?_, g2⟩
    have h7 : a.eval (.tmp t) = .pointer (some ⟨b, o, none⟩) := hu
    generalize a.eval = ρ at h7 ⊢
    have h8 := run_load_c (P := P) hs (cell_of h1 g1)
    simp only [execOp, h7, Instr.loadAt, Instr.sureAddr, Sem.run_bind, Sem.run_pure, Result.andThen_ok, h8]
/-- an element of an own row is written, or a part of it -/
theorem Op.storeR {t n o i fo m es : Nat} {ag : Bool} {rows rows' : List (List D)} {r ds : List D} {x : Operand} {v : T} {rs : List (Nat × V)} {rty xt ty : TypeId} {pos af gd} (hs : Sz P xt m ag) (h : OV x (.t v) rs) (hv : cellsOf v = ds.map C.d) (hm : ds.length = m)
    (ho : o = i * es + fo) (hr : rows[i]? = some r) (hf : fo + m ≤ r.length) (hn : rows.set i (putL r fo ds) = rows') :
    OpOk P ⟨none, .store xt (.tmp t) x, ty, pos, af, gd⟩ { rs := (t, vp n o) :: rs, rl := [(n, .row rty es rows)], wl := [(n, some (.row rty es rows'))] } := by
  rintro e f a w Q ⟨H, B, hok⟩ hr2 hnw hb0
  obtain ⟨b, c, hb, hu⟩ := (hok.slot t _ (hr2.1 (t, vp n o) (by simp))).ptrI
  have hfl := hr2.2 (n, .row rty es rows) (by simp)
  obtain ⟨arr, hcl, h2, h3, h4, h5, h6⟩ := hok.row hfl hb
  have hev := h.eval hok (fun p hp => hr2.1 p (by simp [hp]))
  obtain ⟨l, g3, g4⟩ := TR.cells hev
  rw [hv] at g4
  have hll : l.length = m := by rw [← g4.length, List.length_map, hm]
  have hre : r.length = es := h5 r (List.mem_of_getElem? hr)
  have hi : i < rows.length := (List.getElem?_eq_some_iff.1 hr).1
  have hie : (i + 1) * es ≤ c * es := Nat.mul_le_mul_right _ (by omega)
  rw [Nat.add_mul] at hie
  have ho' : o + m ≤ arr.length := by rw [h2, ho]; omega
  have hrun : (storeVar xt ⟨b, o, none⟩ (a.eval x)).run P w = .ok () (w.setCells b o l) := by
    have hst := run_storeCells_cells (P := P) b o l 0 w (fun j hj => by
        rw [cell_of hcl (o := o + 0 + j) (v := arr[o + 0 + j]'(by omega)) (List.getElem?_eq_getElem _)]; rfl) (fun j hj => by simp [World.frozen?, hcl]) (fun v hv => by
        obtain ⟨i, hi, rfl⟩ := List.getElem_of_mem hv
        obtain ⟨y, hy, hR⟩ := g4.get i (by rw [g4.length]; exact hi)
        rw [List.getElem?_eq_getElem hi] at hy
        injection hy with hy
        rw [hy]
        exact flat_one (CR.flat hR))
    unfold storeVar
    simp only [Sem.run_bind, hs.sizeOf, Result.andThen_ok, g3, hll, List.size_toArray, ne_eq, not_true_eq_false, if_false]
    simpa using hst
  obtain ⟨k1, k2, k3, k4, k5, k6⟩ := setCells_heap l o w arr hcl
  have hg : a.eval (.tmp t) = .pointer (some ⟨b, o, none⟩) := hu
  unfold Oper.wp
  have hexec : (execOp a.eval ⟨none, .store xt (.tmp t) x, ty, pos, af, gd⟩).run P w = .ok .skip (w.setCells b o l) := by
    generalize hq : a.eval x = q at hrun
    generalize a.eval = ρ at hg hq ⊢
    simp only [execOp, hg, hq, Instr.storeAt, Instr.sureAddr, Sem.run_bind, Sem.run_pure, Result.andThen_ok, hrun]
  rw [hexec, Oper.upon_skip]
  subst hn
  have hrows : ∀ r' ∈ rows.set i (putL r fo ds), r'.length = es := by
    intro r' hr'
    rcases List.mem_or_eq_of_mem_set hr' with h' | rfl
    · exact h5 r' h'
    · rw [putL_length]; exact hre
  have hlr : LR H B (w.setCells b o l) n (.row rty es (rows.set i (putL r fo ds))) := by
    simp only [LR, hb]
    refine ⟨putL arr o l, k1, by rw [putL_length]; exact h2, by simpa using h3, h4, hrows, ?_⟩
    refine (rowAt_iff (by rw [putL_length]; exact h2) (by simpa using h3) hrows).2 ?_
    intro i' r' hr' f' x' hx'
    rw [putL_get l arr o _ (by omega)]
    have hf' : f' < es := by rw [← hrows r' (List.mem_of_getElem? hr')]; exact (List.getElem?_eq_some_iff.1 hx').1
    by_cases hii : i' = i
    · subst hii
      rw [List.getElem?_set_self hi] at hr'
      injection hr' with hr'
      subst hr'
      rw [putL_get ds r fo _ (by omega)] at hx'
      by_cases hin : fo ≤ f' ∧ f' < fo + ds.length
      · rw [if_pos hin] at hx'
        rw [if_pos (by rw [hll, ho]; omega)]
        have e1 : i' * es + f' - o = f' - fo := by rw [ho]; omega
        rw [e1]
        have hlt : f' - fo < l.length := by omega
        refine ⟨_, List.getElem?_eq_getElem hlt, ?_⟩
        have := (All2.iff.1 g4).2 (f' - fo) (.d x') (l[f' - fo]'hlt) (by rw [List.getElem?_map, hx']; rfl) (List.getElem?_eq_getElem hlt)
        exact this
      · rw [if_neg hin] at hx'
        rw [if_neg (by rw [hll, ho]; omega)]
        exact h6 i' r hr f' x' hx'
    · rw [List.getElem?_set_ne (Ne.symm hii)] at hr'
      have hout : ¬ (o ≤ i' * es + f' ∧ i' * es + f' < o + l.length) := by
        rw [hll, ho]
        rcases Nat.lt_or_gt_of_ne hii with hlt | hgt
        · have : (i' + 1) * es ≤ i * es := Nat.mul_le_mul_right _ hlt
          rw [Nat.add_mul] at this
          omega
        · have : (i + 1) * es ≤ i' * es := Nat.mul_le_mul_right _ hgt
          rw [Nat.add_mul] at this
          omega
      rw [if_neg hout]
      exact h6 i' r' hr' f' x' hx'
  exact St.put0 ⟨H, B, hok.write (g := ⟨f.s, fun m => if m = n then some (.row rty es (rows.set i (putL r fo ds))) else f.l m⟩) (l' := .row rty es (rows.set i (putL r fo ds))) hfl hb (fun _ => rfl) (fun _ => rfl) k2 k3 k4 k5 k6 hlr⟩ rfl (app0_s _ _ rfl) (fun m => app1_l f n _ _ rfl m)
end

/-! own rows let go: from here on they stay -/
def C.pub (n es : Nat) (rows : List (List D)) : C → C
  | .own m k => if Nat.beq m n then .d (.sl es rows) else .own m k
  | .ptr m o => if Nat.beq m n then .any else .ptr m o
  | .sub m o k => if Nat.beq m n then .any else .sub m o k
  | c => c
def T.pub (n es : Nat) (rows : List (List D)) : T → T
  | .c x => .c (x.pub n es rows)
  | .agg cs => .agg (cs.map (C.pub n es rows))
def V.pub (n es : Nat) (rows : List (List D)) : V → V
  | .t x => .t (x.pub n es rows)
  | .tup xs => .tup (xs.map (T.pub n es rows))
def L.pub (n es : Nat) (rows : List (List D)) : L → L
  | .box cs => .box (cs.map (C.pub n es rows))
  | .row ty k r => .row ty k r
def C.owns (n : Nat) : C → List Nat
  | .own m k => if Nat.beq m n then [k] else []
  | _ => []
def T.owns (n : Nat) : T → List Nat
  | .c x => x.owns n
  | .agg cs => cs.flatMap (C.owns n)
def V.owns (n : Nat) : V → List Nat
  | .t x => x.owns n
  | .tup xs => xs.flatMap (T.owns n)
def L.owns (n : Nat) : L → List Nat
  | .box cs => cs.flatMap (C.owns n)
  | .row _ _ _ => []
def AllEq (m : Nat) : List Nat → Prop
  | [] => True
  | k :: ks => k = m ∧ AllEq m ks
theorem AllEq.mem {m : Nat} : ∀ {ks : List Nat}, AllEq m ks → ∀ k ∈ ks, k = m
  | k :: ks, h, x, hx => by
    rcases List.mem_cons.1 hx with rfl | hx
    · exact h.1
    · exact AllEq.mem h.2 x hx
/-- an own row, seen as data -/
theorem row_data {H : Im} {es b c : Nat} {arr : List Value} {ty : TypeId} {rows : List (List D)} (hb : H b = some (.cells ⟨arr⟩ ty (0, 0))) (h3 : rows.length ≤ c) (h4 : c ≤ maxLen) (h5 : ∀ r ∈ rows, r.length = es) (h6 : RowAt H arr es rows) :
    DR H (.sl es rows) (.slice (some ⟨b, 0, none⟩) rows.length c) := by
  cases hr : rows with
  | nil => exact .nil es _ c (fun h => by cases h) h4
  | cons r0 rs0 =>
    rw [← hr]
    refine .sl es rows b 0 c ⟨arr⟩ ty (0, 0) (fun i j => (arr[i * es + j]?).getD undef) (by rw [hr]; simp) hb h3 h4 (fun i hi => h5 _ (List.getElem_mem hi)) ?_ ?_
    · intro i hi j hj
      have hj' : j < (rows[i]'hi).length := by rw [h5 _ (List.getElem_mem hi)]; exact hj
      obtain ⟨u, g1, _⟩ := h6 i _ (List.getElem?_eq_getElem hi) j _ (List.getElem?_eq_getElem hj')
      simp [g1]
    · intro i hi j hj
      obtain ⟨u, g1, g2⟩ := h6 i _ (List.getElem?_eq_getElem hi) j _ (List.getElem?_eq_getElem hj)
      simp only [g1, Option.getD_some]
      exact g2
def F.pub (f : F) (n es : Nat) (rows : List (List D)) : F :=
  ⟨fun t => (f.s t).map (V.pub n es rows), fun m => if Nat.beq m n then none else (f.l m).map (L.pub n es rows)⟩

theorem St.pub {w0 : World} {H0 : Im} {B0 : Bl} {N : Nat} {f : F} {a : Act} {w : World} (h : St ⟨w0, H0, B0, [], N⟩ f a w) (n es : Nat) (ty : TypeId) (rows : List (List D)) (hl : f.l n = some (.row ty es rows))
    (h1 : ∀ t v, f.s t = some v → ∀ k ∈ v.owns n, k = rows.length) (h2 : ∀ m l, f.l m = some l → ∀ k ∈ l.owns n, k = rows.length) : St ⟨w0, H0, B0, [], N⟩ (f.pub n es rows) a w := by
  obtain ⟨H, B, hok⟩ := h
  have hLR := hok.loc n _ hl
  -- what stays from here on
  obtain ⟨H', hle, hH', hcell⟩ : ∃ H' : Im, Le H H' ∧ (∀ b o, H' b = some o → H b = some o ∨ (w.heap[b]? = some o ∧ ∃ c, B n = some (b, c))) ∧
      (∀ (x : C) (v : Value), (∀ k ∈ x.owns n, k = rows.length) → CR H B x v → CR H' B (x.pub n es rows) v) := by
    have keepC : ∀ {H' : Im} (hle : Le H H'), (∀ v, CR H B (.own n rows.length) v → DR H' (.sl es rows) v) → ∀ (x : C) (v : Value), (∀ k ∈ x.owns n, k = rows.length) → CR H B x v → CR H' B (x.pub n es rows) v := by
      intro H' hle hown x v hk hx
      cases x with
      | own m k =>
        simp only [C.pub]
        split
        · rename_i e1
          have e1 := Nat.eq_of_beq_eq_true e1
          subst e1
          have := hk k (by simp [C.owns])
          subst this
          exact hown v hx
        · exact CR.mono hle (fun _ _ => rfl) hx
      | ptr m o =>
        simp only [C.pub]
        split
        · exact CR.flat hx
        · exact CR.mono hle (fun _ _ => rfl) hx
      | sub m o k =>
        simp only [C.pub]
        split
        · exact CR.flat hx
        · exact CR.mono hle (fun _ _ => rfl) hx
      | d x => exact CR.mono hle (fun _ _ => rfl) hx
      | el x => exact CR.mono hle (fun _ _ => rfl) hx
      | fn f' x y => exact CR.mono hle (fun _ _ => rfl) hx
      | any => exact hx
    cases hB : B n with
    | none =>
      simp only [LR, hB] at hLR
      subst hLR
      refine ⟨H, Le.refl _, fun b o h => .inl h, keepC (Le.refl _) fun v hv => ?_⟩
      simp only [CR, hB] at hv
      obtain ⟨_, ao, hv⟩ := hv
      rw [hv]
      exact .nil es ao 0 (fun _ => rfl) (Nat.zero_le _)
    | some p =>
      obtain ⟨b, c⟩ := p
      obtain ⟨arr, g1, g2, g3, g4, g5, g6⟩ := hok.row hl hB
      have hnone := (hok.priv n _ b c hl hB).2.1
      have hle : Le H (fun x => if x = b then some (.cells ⟨arr⟩ ty (0, 0)) else H x) := by
        intro x o hx
        have : x ≠ b := fun e => by rw [e, hnone] at hx; cases hx
        simp [this, hx]
      refine ⟨fun x => if x = b then some (.cells ⟨arr⟩ ty (0, 0)) else H x, hle, ?_, keepC hle fun v hv => ?_⟩
      · intro x o hx
        by_cases e : x = b
        · subst e
          simp only [if_true] at hx
          exact .inr ⟨by rw [g1]; exact hx, c, rfl⟩
        · simp [e] at hx; exact .inl hx
      · simp only [CR, hB] at hv
        rw [hv]
        exact row_data (arr := arr) (ty := ty) (if_pos rfl) g3 g4 g5 fun i r hr f' x hx => by
          obtain ⟨u, k1, k2⟩ := g6 i r hr f' x hx
          exact ⟨u, k1, k2.mono hle⟩
  have hT : ∀ (x : T) (v : Value), (∀ k ∈ x.owns n, k = rows.length) → TR H B x v → TR H' B (x.pub n es rows) v := by
    intro x v hk hx
    cases x with
    | c x => exact hcell x v hk hx
    | agg cs =>
      obtain ⟨vs, hv, hx⟩ := hx
      refine ⟨vs, hv, All2.iff.2 ⟨by rw [List.length_map]; exact hx.length, fun j a' b' ha hb => ?_⟩⟩
      rw [List.getElem?_map] at ha
      cases hj : cs[j]? with
      | none => rw [hj] at ha; cases ha
      | some y =>
        rw [hj] at ha
        injection ha with ha
        subst ha
        exact hcell y b' (fun k hk2 => hk k (by simp only [T.owns, List.mem_flatMap]; exact ⟨y, List.mem_of_getElem? hj, hk2⟩)) ((All2.iff.1 hx).2 j y b' hj hb)
  refine ⟨H', B, hok.df, hok.n, hok.ext, ?_, ?_, ?_, ?_, ?_, ?_, hok.le.trans hle, hok.keep⟩
  · intro b o hb
    rcases hH' b o hb with h' | ⟨h', _⟩
    · exact hok.sat b o h'
    · exact h'
  · intro t v hv
    simp only [F.pub, Option.map_eq_some_iff] at hv
    obtain ⟨x, hx, rfl⟩ := hv
    have hR := hok.slot t x hx
    have hk := h1 t x hx
    cases x with
    | t x => exact hT x _ hk hR
    | tup xs =>
      obtain ⟨vs, hv, hx2⟩ := hR
      refine ⟨vs, hv, All2.iff.2 ⟨by rw [List.length_map]; exact hx2.length, fun j a' b' ha hb => ?_⟩⟩
      rw [List.getElem?_map] at ha
      cases hj : xs[j]? with
      | none => rw [hj] at ha; cases ha
      | some y =>
        rw [hj] at ha
        injection ha with ha
        subst ha
        exact hT y b' (fun k hk2 => hk k (by simp only [V.owns, List.mem_flatMap]; exact ⟨y, List.mem_of_getElem? hj, hk2⟩)) ((All2.iff.1 hx2).2 j y b' hj hb)
  · intro m l hm
    simp only [F.pub] at hm
    split at hm
    · cases hm
    · simp only [Option.map_eq_some_iff] at hm
      obtain ⟨x, hx, rfl⟩ := hm
      have hR := hok.loc m x hx
      have hk := h2 m x hx
      cases x with
      | box cs =>
        obtain ⟨b, c, arr, ty', hb, hc, hx2⟩ := hR
        refine ⟨b, c, arr, ty', hb, hc, All2.iff.2 ⟨by rw [List.length_map]; exact hx2.length, fun j a' b' ha hb => ?_⟩⟩
        rw [List.getElem?_map] at ha
        cases hj : cs[j]? with
        | none => rw [hj] at ha; cases ha
        | some y =>
          rw [hj] at ha
          injection ha with ha
          subst ha
          exact hcell y b' (fun k hk2 => hk k (by simp only [L.owns, List.mem_flatMap]; exact ⟨y, List.mem_of_getElem? hj, hk2⟩)) ((All2.iff.1 hx2).2 j y b' hj hb)
      | row ty' es' rows' => exact LR.mono hle rfl (fun _ _ => rfl) (fun _ _ _ => rfl) hR
  · intro m l b c hm hb
    simp only [F.pub] at hm
    split at hm
    · cases hm
    · rename_i hne
      simp only [Option.map_eq_some_iff] at hm
      obtain ⟨x, hx, rfl⟩ := hm
      obtain ⟨p1, p2, p3⟩ := hok.priv m x b c hx hb
      refine ⟨p1, ?_, p3⟩
      cases hq : H' b with
      | none => rfl
      | some o =>
        rcases hH' b o hq with h' | ⟨_, c', h'⟩
        · rw [p2] at h'; cases h'
        · have := hok.inj m n x _ b c c' hx hl hb h'
          subst this
          simp at hne
  · intro m k l l' b c c' hm hk hb hb'
    simp only [F.pub] at hm hk
    split at hm
    · cases hm
    · split at hk
      · cases hk
      · simp only [Option.map_eq_some_iff] at hm hk
        obtain ⟨x, hx, _⟩ := hm
        obtain ⟨y, hy, _⟩ := hk
        exact hok.inj m k x y b c c' hx hy hb hb'
  · intro b hb
    cases hq : H' b with
    | none =>
      rw [← hok.low b hb]
      cases hr : H b with
      | none => rfl
      | some o => rw [hle b o hr] at hq; cases hq
    | some o =>
      rcases hH' b o hq with h' | ⟨_, c', h'⟩
      · rw [← hok.low b hb, h']
      · rcases (hok.priv n _ b c' hl h').2.2 with ⟨m, hm, _⟩ | h3
        · cases hm
        · exact absurd hb (by simpa using h3)
end Go.Proofs.Ytekhnajfdaknnaa.S
