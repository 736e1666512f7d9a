/-
  Rows made by growing nil; the room of a nil slice.
-/
import Derived.Test.YtekhnajfdaknnaaSigJ
namespace Go.Proofs.Ytekhnajfdaknnaa.S
open Go.RowKit

section
variable {P : Program}
/-- the room of a slice whose cell is known -/
theorem Op.capR {d : Nat} {x : Operand} {ao : Option Addr} {n c : Nat} {rs : List (Nat × V)} {t el ty : TypeId} {pos af gd} (hu : P.underlying t = some (.slice el)) (h : OV x (.t (.c (.d (.raw (.slice ao n c))))) rs) :
    OpOk P ⟨some d, .call { callee := .builtin .cap, args := #[x], argTypes := #[t] }, ty, pos, af, gd⟩ { rs := rs, ws := [(d, some (vi .i64 (c : Int)))] } :=
  OpOk.value d _ rfl rfl rfl fun e f H B a w hok hr2 => by
    have h2 := (h.eval hok fun p hp => hr2.1 p hp).rawI
    refine ⟨goInt c, ?_, DR.raw _ rfl⟩
    generalize a.eval = ρ at h2 ⊢
    have e1 : (Array.map ρ #[x]) = #[ρ x] := by simp
    simp [execOp, resolve, e1, h2, invoke, builtin, Builtin.cap_, run_underlying hu]
/-- nothing of nil -/
theorem Op.sliceR0 {d : Nat} {x y : Operand} {k : IntKind} {rs rs' : List (Nat × V)} {xt el ty : TypeId} {es : Nat} {pos af gd} (hs : SlT P xt el es) (hx : OV x (.t (.c (.d (.raw nilV)))) rs) (hy : OV y (vi k (0 : Nat)) rs') :
    OpOk P ⟨some d, .slice xt x none (some y) none, ty, pos, af, gd⟩ { rs := rs ++ rs', ws := [(d, some (.t (.c (.d (.raw nilV)))))] } :=
  OpOk.value d _ rfl rfl rfl fun e f H B a w hok hr2 => by
    have hv : a.eval x = nilV := (hx.eval hok fun p hp => hr2.1 p (by simp [hp])).rawI
    have hb := run_bounds (P := P) (is := true) (lo := none) (hi := some y) (len := 0) (cap := 0) (BO.no 0) (BO.yes 0 hy) hok (fun p hp => by cases hp) (fun p hp => hr2.1 p (by simp [hp])) (Nat.zero_le _) (Nat.le_refl _)
    have hrun := run_sliceS (ao := none) hs hb
    refine ⟨nilV, ?_, DR.raw _ rfl⟩
    generalize a.eval = ρ at hv hrun ⊢
    have hrun' : (Instr.sliceAt xt (ρ x) ((none : Option Operand).map ρ) ((some y).map ρ) ((none : Option Operand).map ρ)).run P w = .ok nilV w := by rw [hv]; simpa [nilV] using hrun
    simp only [execOp, Sem.run_bind, hrun', Result.andThen_ok, Sem.run_pure]
theorem run_app_make {xt el it ty : TypeId} {i : TypeInfo} {z : Value} (hu : P.underlying xt = some (.slice el)) (hi : P.underlying it = some (.int .i64)) (hI : P.info? el = some i) (hz : i.zero = some z) (hs : i.size ≠ 0) {L : Nat} (hL0 : 0 < L) (hL : L ≤ 4294967296) (hb : L * i.bytes ≤ 140737488355328) (w : World) :
    (Builtin.append_ #[xt, it] ty #[nilV, .int .i64 (L : Int)]).run P w = .ok (.slice (some ⟨w.heap.size, 0, none⟩) L (grownCap w L 0 el)) (w.drew.alloc (.cells (Builtin.zeroCells z.cells L ++ Builtin.zeroCells z.cells (grownCap w L 0 el - L)) el)) := by
  have wl : IntKind.i64.wrap (L : Int) = (L : Int) := by rw [IntKind.wrap_i64]; omega
  have c1 : ¬ ((L : Int) < 0) := by omega
  have c2 : ¬ (281474976710656 < (L : Int) * (i.bytes : Int)) := by
    have : ((L * i.bytes : Nat) : Int) = (L : Int) * (i.bytes : Int) := Int.natCast_mul _ _
    omega
  have c4 : ¬ (9223372036854775807 < (L : Int)) := by omega
  have c5 : ¬ (281474976710656 < Builtin.nextslicecap L 0 * i.bytes) := by
    have := growslice_fits (need := L) (old := 0) (bytes := i.bytes) (by omega) hb
    omega
  have hL1 : L ≠ 0 := by omega
  have hL2 : L * i.size ≠ 0 := Nat.mul_ne_zero hL1 hs
  simp [Builtin.append_, nilV, run_underlying hu, run_underlying hi, sizeOf, typeInfo, zeroValue, hI, hz, hL2, asInt, asIntOf, wl, c1, c2, c4, c5, hL1, Question.forced, run_firstCells_none, newRow, grownCap]
/-- nil grown by zeros: a new row, of which nothing is known but its room -/
theorem Op.appNM {d t u n es bs L : Nat} {xt el it ty : TypeId} {pos af gd} (hT : ElT P xt el es bs) (hi : P.underlying it = some (.int .i64)) (hL0 : 0 < L) (hL : L ≤ 1000000000) (hb : L * bs ≤ 140737488355328) :
    OpOk P ⟨some d, .call { callee := .builtin .append, args := #[.tmp t, .tmp u], argTypes := #[xt, it] }, ty, pos, af, gd⟩
      { rs := [(t, .t (.c (.d (.raw nilV)))), (u, vi .i64 (L : Int))], ws := [(d, some (.t (.c (.own n L))))], wl := [(n, some (.row el es []))], nw := [n] } := by
  rintro e f a w Q ⟨H, B, hok⟩ hr hnw hb0
  have hnew := hnw n (by simp)
  have h1 : a.eval (.tmp t) = nilV := VR.rawI (hok.slot t _ (hr.1 (t, .t (.c (.d (.raw nilV)))) (by simp)))
  have h2 : a.eval (.tmp u) = .int .i64 (L : Int) := VR.rawI (hok.slot u _ (hr.1 (u, vi .i64 (L : Int)) (by simp)))
  obtain ⟨i, z, hI, hz, hsz, hby, hzs⟩ := hT.ex
  have hrun := run_app_make (P := P) (ty := ty) hT.hu hi hI hz (by rw [hsz]; exact Nat.pos_iff_ne_zero.1 hT.pos) hL0 (by omega) (by rw [hby]; exact hb) w
  have hge := grownCap_ge w L 0 el
  have hle := grownCap_le_maxLen w L 0 el (by simp only [maxLen]; omega)
  generalize grownCap w L 0 el = c at hrun hge hle
  have hok2 : Ok e f H B a w.drew := ⟨hok.df, hok.n, ⟨hok.ext.os, hok.ext.tape, hok.ext.output, hok.ext.size, hok.ext.block⟩, hok.sat, hok.slot, fun m l hm => LR.mono (Le.refl _) rfl (fun _ _ => rfl) (fun _ _ _ => rfl) (hok.loc m l hm), hok.priv, hok.inj, hok.low, hok.le, hok.keep⟩
  have hlen : (Builtin.zeroCells z.cells L ++ Builtin.zeroCells z.cells (c - L)).toList.length = c * es := by
    simp only [Builtin.zeroCells, Array.toList_append, List.length_append, Array.length_toList, Array.size_map, Array.size_range, hzs]
    rw [← Nat.add_mul]; congr 1; omega
  have hobj : (Builtin.zeroCells z.cells L ++ Builtin.zeroCells z.cells (c - L)) = ⟨(Builtin.zeroCells z.cells L ++ Builtin.zeroCells z.cells (c - L)).toList⟩ := by simp
  rw [hobj] at hrun
  generalize (Builtin.zeroCells z.cells L ++ Builtin.zeroCells z.cells (c - L)).toList = arr at hrun hlen
  have h3 : Ok e ⟨f.s, fun m => if m = n then some (.row el es []) else f.l m⟩ H (fun m => if m = n then some (w.drew.heap.size, c) else B m) a (w.drew.alloc (.cells ⟨arr⟩ el)) :=
    hok2.new hnew (.cells ⟨arr⟩ el) c (.row el es []) (fun _ => rfl) (fun _ => rfl) (by
      simp only [LR, if_true]
      exact ⟨arr, heap_alloc_new w.drew _, hlen, Nat.zero_le _, hle, by simp, by simp [All2]⟩)
  refine wp_of_run (d := d) rfl ?_ ⟨H, _, h3.put (x := some (.t (.c (.own n L)))) (hb0.1 (d, some (.t (.c (.own n L)))) (by simp)) (app1_s f d _ _ rfl) (fun m => ?_) (v := .slice (some ⟨w.heap.size, 0, none⟩) L c) (fun y hy => by injection hy with hy; subst hy; simp [VR, TR, CR])⟩
  · generalize a.eval = ρ at h1 h2 ⊢
    have e1 : (Array.map ρ #[.tmp t, .tmp u]) = #[ρ (.tmp t), ρ (.tmp u)] := by simp
    simp only [execOp, resolve, e1, h1, h2, Sem.run_bind, Sem.run_pure, Result.andThen_ok, invoke, builtin, hrun]
  · simp only [F.app, List.lookup]
    by_cases e1 : m = n
    · simp [e1]
    · have g1 : (m == n) = false := by simpa using e1
      simp [g1, e1]
theorem C.owns_tags {n k : Nat} {c : C} (h : k ∈ c.owns n) : n ∈ c.tags := by
  cases c with
  | own m j =>
    simp only [C.owns] at h
    split at h
    · rename_i e; rw [Nat.eq_of_beq_eq_true e]; simp [C.tags]
    · cases h
  | _ => simp [C.owns] at h
theorem T.owns_tags {n k : Nat} {x : T} (h : k ∈ x.owns n) : n ∈ x.tags := by
  cases x with
  | c x => exact C.owns_tags h
  | agg cs =>
    obtain ⟨c, hc, hk⟩ := List.mem_flatMap.1 h
    exact List.mem_flatMap.2 ⟨c, hc, C.owns_tags hk⟩
theorem V.owns_tags {n k : Nat} {x : V} (h : k ∈ x.owns n) : n ∈ x.tags := by
  cases x with
  | t x => exact T.owns_tags h
  | tup cs =>
    obtain ⟨c, hc, hk⟩ := List.mem_flatMap.1 h
    exact List.mem_flatMap.2 ⟨c, hc, T.owns_tags hk⟩
theorem L.owns_tags {n k : Nat} {x : L} (h : k ∈ x.owns n) : n ∈ x.tags := by
  cases x with
  | box cs =>
    obtain ⟨c, hc, hk⟩ := List.mem_flatMap.1 h
    exact List.mem_flatMap.2 ⟨c, hc, C.owns_tags hk⟩
  | row _ _ _ => simp [L.owns] at h
theorem beqN {m n : Nat} (h : m ≠ n) : Nat.beq m n = false := by
  cases e : Nat.beq m n with
  | false => rfl
  | true => exact absurd (Nat.eq_of_beq_eq_true e) h
theorem C.pub_id {n es : Nat} {rows : List (List D)} {c : C} (h : n ∉ c.tags) : c.pub n es rows = c := by
  cases c <;> simp only [C.pub]
  all_goals (rw [beqN (fun e => h (by simp [C.tags, e]))]; rfl)
theorem map_id_of {α : Type} {f : α → α} : ∀ {l : List α}, (∀ x ∈ l, f x = x) → l.map f = l
  | [], _ => rfl
  | x :: l, h => by rw [List.map_cons, h x (by simp), map_id_of fun y hy => h y (by simp [hy])]
theorem T.pub_id {n es : Nat} {rows : List (List D)} {x : T} (h : n ∉ x.tags) : x.pub n es rows = x := by
  cases x with
  | c x => simp only [T.pub]; rw [C.pub_id h]
  | agg cs => simp only [T.pub]; rw [map_id_of fun c hc => C.pub_id fun hn => h (List.mem_flatMap.2 ⟨c, hc, hn⟩)]
theorem V.pub_id {n es : Nat} {rows : List (List D)} {x : V} (h : n ∉ x.tags) : x.pub n es rows = x := by
  cases x with
  | t x => simp only [V.pub]; rw [T.pub_id h]
  | tup cs => simp only [V.pub]; rw [map_id_of fun c hc => T.pub_id fun hn => h (List.mem_flatMap.2 ⟨c, hc, hn⟩)]
theorem L.pub_id {n es : Nat} {rows : List (List D)} {x : L} (h : n ∉ x.tags) : x.pub n es rows = x := by
  cases x with
  | box cs => simp only [L.pub]; rw [map_id_of fun c hc => C.pub_id fun hn => h (List.mem_flatMap.2 ⟨c, hc, hn⟩)]
  | row _ _ _ => rfl
theorem Oper.wp_imp {o : Oper} {a : Act} {w : World} {R R' : Act → World → Prop} {Q : Exit → Act → World → Prop} (h : Oper.wp P o a w R Q) (hi : ∀ a w, R a w → R' a w) : Oper.wp P o a w R' Q := by
  exact Go.Oper.wp_mono hi h
/-- append: an own row and a slice that stays; the outcome is let go -/
theorem Op.appODp {d t u n n' len es bs : Nat} {rows rows2 rows' : List (List D)} {xt el ty : TypeId} {pos af gd} (hT : ElT P xt el es bs) (hlen : len = rows.length) (hrow : rows ++ rows2 = rows')
    (hes2 : ∀ r ∈ rows2, r.length = es) (hb : (len + rows2.length) * bs ≤ 140737488355328) :
    OpOk P ⟨some d, .call { callee := .builtin .append, args := #[.tmp t, .tmp u], argTypes := #[xt, xt] }, ty, pos, af, gd⟩
      { rs := [(t, .t (.c (.own n len))), (u, .t (.c (.d (.sl es rows2))))], rl := [(n, .row el es rows)], ws := [(d, some (.t (.c (.d (.sl es rows')))))], wl := [(n, none)], nw := [n'], k0 := true } := by
  intro e f a w Q hst hr hnw hb0
  have hnew := hnw n' (by simp)
  have hK := hb0.2 rfl
  have hl' : len + rows2.length = rows'.length := by rw [← hrow, List.length_append, hlen]
  refine Oper.wp_imp (Op.appOD (n' := n') (len' := rows'.length) hT hlen hl'.symm hrow hes2 hb e f a w Q hst ⟨hr.1, hr.2⟩ (fun m hm => hnw m hm) ⟨fun p hp => ?_, fun h0 => (by cases h0)⟩) fun a' w' h1 => ?_
  · have := hb0.1 (d, some (.t (.c (.d (.sl es rows'))))) (by simp)
    simp at hp
    rw [hp]; exact this
  · obtain ⟨w0, H0, B0, K, N⟩ := e
    simp only at hK
    subst hK
    have hne : n ≠ n' := fun e => by have := hnew.2.1; rw [← e, hr.2 (n, .row el es rows) (by simp)] at this; cases this
    generalize hg : f.app { rs := [(t, .t (.c (.own n len))), (u, .t (.c (.d (.sl es rows2))))], rl := [(n, .row el es rows)], ws := [(d, some (.t (.c (.own n' rows'.length))))], wl := [(n', some (.row el es rows')), (n, none)], nw := [n'] } = g at h1
    have gs : ∀ x, g.s x = if x = d then some (.t (.c (.own n' rows'.length))) else f.s x := fun x => by rw [← hg]; exact app1_s f d _ _ rfl x
    have gl : ∀ m, g.l m = if m = n' then some (.row el es rows') else if m = n then none else f.l m := fun m => by
      rw [← hg]
      simp only [F.app, List.lookup]
      by_cases e1 : m = n'
      · simp [e1]
      · have g1 : (m == n') = false := by simpa using e1
        by_cases e2 : m = n
        · subst e2; simp [g1, e1]
        · have g2 : (m == n) = false := by simpa using e2
          simp [g1, g2, e1, e2]
    have h2 := h1.pub n' es el rows' (by rw [gl, if_pos rfl]) (fun x v hv k hk => by
      rw [gs] at hv
      split at hv
      · injection hv with hv; subst hv
        have : k ∈ (if Nat.beq n' n' then [rows'.length] else []) := hk
        simpa using this
      · exact absurd (V.owns_tags hk) (hnew.2.2.1 x v hv)) (fun m l hm k hk => by
      rw [gl] at hm
      split at hm
      · injection hm with hm; subst hm; cases hk
      · split at hm
        · cases hm
        · exact absurd (L.owns_tags hk) (hnew.2.2.2 m l hm))
    refine h2.weaken ⟨fun x v hv => ?_, fun m l hm => ?_⟩
    · have hv' : (if x = d then some (.t (.c (.d (.sl es rows')))) else f.s x) = some v := by rw [← hv]; exact (app1_s f d _ _ rfl x).symm
      simp only [F.pub, gs]
      split at hv'
      · rename_i e1
        injection hv' with hv'
        rw [if_pos e1, ← hv']
        simp [V.pub, T.pub, C.pub]
      · rename_i e1
        rw [if_neg e1, hv', Option.map_some, V.pub_id (hnew.2.2.1 x v hv')]
    · have hm' : (if m = n then none else f.l m) = some l := by rw [← hm]; exact (app1_l f n none _ rfl m).symm
      split at hm'
      · cases hm'
      · rename_i e1
        have e2 : m ≠ n' := fun e => by have := hnew.2.1; rw [← e, hm'] at this; cases this
        simp only [F.pub, gl]
        rw [if_neg e2, if_neg e1, beqN e2, hm']
        simp only [Bool.false_eq_true, if_false, Option.map_some]
        rw [L.pub_id (hnew.2.2.2 m l hm')]
end
section
variable {Q : Exit → Act → World → Prop} {w0 : World} {H0 : Im} {B0 : Bl} {K : List Nat} {N : Nat}
/-- the same, what is checked in parts -/
theorem rSP {tb : Tb} (htb : TbOk Try.prog tb) {id : Nat} {draw : Bool} {ops : Array Oper} {a : Act} {w : World} {sl : List (Nat × V)} {lc : List (Nat × L)} (nx : Nat) (cs : List (Nat × Orc Try.prog)) (sl' : List (Nat × V)) (lc' : List (Nat × L))
    (h1 : (gens ops.toList cs).map (·.1) = (gens ops.toList cs).map (·.2)) (h2 : (insts tb ops (F.of sl lc) nx 0 ops.toList cs).isSome = true)
    (h3 : (insts tb ops (F.of sl lc) nx 0 ops.toList cs).map (fun is => chk draw ops.toList is N K sl lc) = (insts tb ops (F.of sl lc) nx 0 ops.toList cs).map fun _ => true)
    (h4 : (insts tb ops (F.of sl lc) nx 0 ops.toList cs).map (fun is => runS (F.of sl lc) is) = (insts tb ops (F.of sl lc) nx 0 ops.toList cs).map fun is => wantS is)
    (h5 : (insts tb ops (F.of sl lc) nx 0 ops.toList cs).map (fun is => runN (F.of sl lc) is) = (insts tb ops (F.of sl lc) nx 0 ops.toList cs).map fun is => wantN is)
    (h6 : (insts tb ops (F.of sl lc) nx 0 ops.toList cs).map (fun is => leS (runF (F.of sl lc) is) sl') = (insts tb ops (F.of sl lc) nx 0 ops.toList cs).map fun _ => sl'.map fun p => some p.2)
    (h7 : (insts tb ops (F.of sl lc) nx 0 ops.toList cs).map (fun is => leN (runF (F.of sl lc) is) lc') = (insts tb ops (F.of sl lc) nx 0 ops.toList cs).map fun _ => lc'.map fun p => some p.2)
    (h : St ⟨w0, H0, B0, K, N⟩ (F.of sl lc) a w) (hQ : ∀ a w, St ⟨w0, H0, B0, K, N⟩ (F.of sl' lc') a w → Q .normal a w) : (Code.region id ops draw).wp Try.prog Q a w := by
  cases hi : insts tb ops (F.of sl lc) nx 0 ops.toList cs with
  | none => rw [hi] at h2; cases h2
  | some is =>
    rw [hi] at h3 h4 h5 h6 h7
    simp only [Option.map_some, Option.some.injEq] at h3 h4 h5 h6 h7
    exact region is sl' lc' mixed (insts_ok htb h1 _ _ _ _ _ rfl hi) h3 h4 h5 h6 h7 h hQ
theorem rSeqP {tb : Tb} (htb : TbOk Try.prog tb) {id : Nat} {draw : Bool} {ops : Array Oper} {y : Code} {a : Act} {w : World} {sl : List (Nat × V)} {lc : List (Nat × L)} (nx : Nat) (cs : List (Nat × Orc Try.prog)) (sl' : List (Nat × V)) (lc' : List (Nat × L))
    (h1 : (gens ops.toList cs).map (·.1) = (gens ops.toList cs).map (·.2)) (h2 : (insts tb ops (F.of sl lc) nx 0 ops.toList cs).isSome = true)
    (h3 : (insts tb ops (F.of sl lc) nx 0 ops.toList cs).map (fun is => chk draw ops.toList is N K sl lc) = (insts tb ops (F.of sl lc) nx 0 ops.toList cs).map fun _ => true)
    (h4 : (insts tb ops (F.of sl lc) nx 0 ops.toList cs).map (fun is => runS (F.of sl lc) is) = (insts tb ops (F.of sl lc) nx 0 ops.toList cs).map fun is => wantS is)
    (h5 : (insts tb ops (F.of sl lc) nx 0 ops.toList cs).map (fun is => runN (F.of sl lc) is) = (insts tb ops (F.of sl lc) nx 0 ops.toList cs).map fun is => wantN is)
    (h6 : (insts tb ops (F.of sl lc) nx 0 ops.toList cs).map (fun is => leS (runF (F.of sl lc) is) sl') = (insts tb ops (F.of sl lc) nx 0 ops.toList cs).map fun _ => sl'.map fun p => some p.2)
    (h7 : (insts tb ops (F.of sl lc) nx 0 ops.toList cs).map (fun is => leN (runF (F.of sl lc) is) lc') = (insts tb ops (F.of sl lc) nx 0 ops.toList cs).map fun _ => lc'.map fun p => some p.2)
    (h : St ⟨w0, H0, B0, K, N⟩ (F.of sl lc) a w) (hQ : ∀ a w, St ⟨w0, H0, B0, K, N⟩ (F.of sl' lc') a w → y.wp Try.prog Q a w) : (Code.seq (Code.region id ops draw) y).wp Try.prog Q a w :=
  wp_seq (rSP htb nx cs sl' lc' h1 h2 h3 h4 h5 h6 h7 h hQ)
end
end Go.Proofs.Ytekhnajfdaknnaa.S
