/-
  Parts of slices: of those that stay, of own rows; parts of strings; rows cleared.
-/
import Derived.Test.YtekhnajfdaknnaaSigH
import Derived.Laws.Cover3
namespace Go.Proofs.Ytekhnajfdaknnaa.S
open Go.RowKit

/-- a bound of a part: told, or left out -/
inductive BO : Option Operand → Nat → Nat → List (Nat × V) → Prop
  | no (n : Nat) : BO none n n []
  | yes {y : Operand} {k : IntKind} {i : Nat} {rs : List (Nat × V)} (n : Nat) (h : OV y (vi k i) rs) : BO (some y) n i rs
section
variable {P : Program}
theorem BO.low {x : Option Operand} {l h : Nat} {rs : List (Nat × V)} (hx : BO x 0 l rs) {e : E} {f : F} {H : Im} {B : Bl} {a : Act} {w : World} (hok : Ok e f H B a w) (hr : ∀ p ∈ rs, f.s p.1 = some p.2) (hl : l ≤ h) (c : BoundsCode) :
    (match x.map a.eval with | some v => Instr.sliceBound v h c | none => pure 0).run P w = .ok l w := by
  cases hx with
  | no => simp
  | yes _ hv =>
    have h2 := (hv.eval hok hr).rawI
    simp only [Option.map_some]
    rw [h2, run_sliceBound (P := P) w _ _ h c (by omega) (by omega)]
    simp
theorem BO.high {x : Option Operand} {n l h : Nat} {rs : List (Nat × V)} (hx : BO x n l rs) {e : E} {f : F} {H : Im} {B : Bl} {a : Act} {w : World} (hok : Ok e f H B a w) (hr : ∀ p ∈ rs, f.s p.1 = some p.2) (hl : l ≤ h) (c : BoundsCode) :
    (match x.map a.eval with | some v => Instr.sliceBound v h c | none => pure n).run P w = .ok l w := by
  cases hx with
  | no => simp
  | yes _ hv =>
    have h2 := (hv.eval hok hr).rawI
    simp only [Option.map_some]
    rw [h2, run_sliceBound (P := P) w _ _ h c (by omega) (by omega)]
    simp
theorem run_bounds {lo hi : Option Operand} {len cap l h : Nat} {rs rs' : List (Nat × V)} {is : Bool} (hl : BO lo 0 l rs) (hh : BO hi len h rs') {e : E} {f : F} {H : Im} {B : Bl} {a : Act} {w : World} (hok : Ok e f H B a w) (hr : ∀ p ∈ rs, f.s p.1 = some p.2) (hr' : ∀ p ∈ rs', f.s p.1 = some p.2)
    (h1 : l ≤ h) (h2 : h ≤ cap) : (Instr.sliceBounds is len cap (lo.map a.eval) (hi.map a.eval) none).run P w = .ok (l, h, cap) w := by
  have g1 := hl.low (P := P) hok hr h1 .sliceB
  have g2 := hh.high (P := P) hok hr' h2 (if is then .sliceAcap else .sliceAlen)
  cases lo with
  | none =>
    cases hi with
    | none => cases hl; cases hh; simp [Instr.sliceBounds]
    | some y => simp only [Option.map_some, Option.map_none] at g1 g2 ⊢; cases hl; simp [Instr.sliceBounds, g2]
  | some x =>
    cases hi with
    | none => simp only [Option.map_some, Option.map_none] at g1 g2 ⊢; cases hh; simp [Instr.sliceBounds, g1]
    | some y => simp only [Option.map_some] at g1 g2 ⊢; simp [Instr.sliceBounds, g1, g2]
theorem run_sliceS {t el : TypeId} {es : Nat} (hs : SlT P t el es) {ao : Option Addr} {len cap l h : Nat} {lo hi : Option Value} {w : World} (hb : (Instr.sliceBounds true len cap lo hi none).run P w = .ok (l, h, cap) w) :
    (Instr.sliceAt t (.slice ao len cap) lo hi none).run P w = .ok (.slice (if cap = l then ao else ao.map (·.add (l * es))) (h - l) (cap - l)) w := by
  simp only [Instr.sliceAt, Instr.slice, Sem.run_bind, run_underlying hs.hu, Result.andThen_ok, hb, size_run hs.hs, Sem.run_pure]
/-- a part of a slice that stays -/
theorem Op.sliceD {d t es l h : Nat} {lo hi : Option Operand} {rows rows' : List (List D)} {rs rs' : List (Nat × V)} {xt el ty : TypeId} {pos af gd} (hs : SlT P xt el es) (hl : BO lo 0 l rs) (hh : BO hi rows.length h rs') (h1 : l ≤ h) (h2 : h ≤ rows.length) (he : (rows.drop l).take (h - l) = rows') :
    OpOk P ⟨some d, .slice xt (.tmp t) lo hi none, ty, pos, af, gd⟩ { rs := (t, .t (.c (.d (.sl es rows)))) :: (rs ++ rs'), ws := [(d, some (.t (.c (.d (.sl es rows')))))] } :=
  OpOk.value d _ rfl rfl rfl fun e f H B a w hok hr2 => by
    have g1 := hok.slot t _ (hr2.1 (t, .t (.c (.d (.sl es rows)))) (by simp))
    have g3 : DR H (.sl es rows) (a.eval (.tmp t)) := g1
    have bounds : ∀ cap, rows.length ≤ cap → (Instr.sliceBounds true rows.length cap (lo.map a.eval) (hi.map a.eval) none).run P w = .ok (l, h, cap) w := fun cap hc =>
      run_bounds hl hh hok (fun p hp => hr2.1 p (by simp [hp])) (fun p hp => hr2.1 p (by simp [hp])) h1 (by omega)
    generalize hv0 : a.eval (.tmp t) = v at g3
    subst he
    cases g3 with
    | nil _ ao c k1 k2 =>
      obtain rfl : h = 0 := by simpa using h2
      obtain rfl : l = 0 := by omega
      have hrun := run_sliceS (ao := ao) hs (bounds c (Nat.zero_le _))
      refine ⟨.slice (if c = 0 then ao else ao.map (·.add (0 * es))) (0 - 0) (c - 0), ?_, ?_⟩
      · generalize a.eval = ρ at hv0 hrun ⊢
        have hrun' : (Instr.sliceAt xt (ρ (.tmp t)) (lo.map ρ) (hi.map ρ) ((none : Option Operand).map ρ)).run P w = .ok (.slice (if c = 0 then ao else ao.map (·.add (0 * es))) (0 - 0) (c - 0)) w := by rw [hv0]; exact hrun
        simp only [execOp, Sem.run_bind, hrun', Result.andThen_ok, Sem.run_pure]
      · show DR H _ _
        simp only [List.drop_nil, List.take_nil, Nat.sub_zero]
        refine DR.nil es _ c (fun hn => ?_) k2
        split at hn
        · exact k1 hn
        · cases ao with
          | none => exact k1 rfl
          | some _ => cases hn
    | sl _ _ b o c arr ty' fz vs hp hb hlc hc hes hv hx =>
      have hrun := run_sliceS (ao := some ⟨b, o, none⟩) hs (bounds c hlc)
      refine ⟨.slice (if c = l then some ⟨b, o, none⟩ else (some (⟨b, o, none⟩ : Addr)).map (·.add (l * es))) (h - l) (c - l), ?_, ?_⟩
      · generalize a.eval = ρ at hv0 hrun ⊢
        have hrun' : (Instr.sliceAt xt (ρ (.tmp t)) (lo.map ρ) (hi.map ρ) ((none : Option Operand).map ρ)).run P w = .ok (.slice (if c = l then some ⟨b, o, none⟩ else (some (⟨b, o, none⟩ : Addr)).map (·.add (l * es))) (h - l) (c - l)) w := by rw [hv0]; exact hrun
        simp only [execOp, Sem.run_bind, hrun', Result.andThen_ok, Sem.run_pure]
      · show DR H _ _
        by_cases h0 : h - l = 0
        · rw [h0, List.take_zero]
          refine DR.nil es _ _ (fun hn => ?_) (by omega)
          split at hn <;> cases hn
        · have hlen : ((rows.drop l).take (h - l)).length = h - l := by rw [List.length_take, List.length_drop]; omega
          rw [if_neg (by omega)]
          simp only [Option.map_some, Addr.add_mid]
          have := DR.sl (H := H) es ((rows.drop l).take (h - l)) b (o + l * es) (c - l) arr ty' fz (fun i j => vs (l + i) j) (by omega) hb (by omega) (by omega) (fun i hi2 => by
              rw [List.getElem_take, List.getElem_drop]; exact hes _ _)
            (fun i hi2 j hj => by
              have := hv (l + i) (by omega) j hj
              rw [Nat.add_mul] at this
              rw [← this]; congr 1; omega)
            (fun i hi2 j hj => by
              have e1 : ((rows.drop l).take (h - l))[i] = rows[l + i]'(by omega) := by rw [List.getElem_take, List.getElem_drop]
              have hj' : j < (rows[l + i]'(by omega)).length := by rw [← e1]; exact hj
              have e2 : ((rows.drop l).take (h - l))[i][j] = (rows[l + i]'(by omega))[j] := by simp only [e1]
              rw [e2]; exact hx (l + i) (by omega) j hj')
          rwa [hlen] at this
/-- a part of a string -/
theorem Op.sliceT {d l h : Nat} {x : Operand} {lo hi : Option Operand} {s s' : ByteArray} {rs rs1 rs' : List (Nat × V)} {xt ty : TypeId} {pos af gd} (ht : P.underlying xt = some .string) (hx : OV x (vs s) rs1) (hl : BO lo 0 l rs) (hh : BO hi s.size h rs') (h1 : l ≤ h) (h2 : h ≤ s.size) (he : s.extract l h = s') :
    OpOk P ⟨some d, .slice xt x lo hi none, ty, pos, af, gd⟩ { rs := rs1 ++ (rs ++ rs'), ws := [(d, some (vs s'))] } :=
  OpOk.value d _ rfl rfl rfl fun e f H B a w hok hr2 => by
    have hb : (Instr.sliceBounds false s.size s.size (lo.map a.eval) (hi.map a.eval) none).run P w = .ok (l, h, s.size) w :=
      run_bounds hl hh hok (fun p hp => hr2.1 p (by simp [hp])) (fun p hp => hr2.1 p (by simp [hp])) h1 h2
    have hv0 : a.eval x = .string s := (hx.eval hok fun p hp => hr2.1 p (by simp [hp])).rawI
    subst he
    refine ⟨.string (s.extract l h), ?_, DR.raw _ rfl⟩
    generalize a.eval = ρ at hv0 hb ⊢
    have hrun : (Instr.sliceAt xt (ρ x) (lo.map ρ) (hi.map ρ) ((none : Option Operand).map ρ)).run P w = .ok (.string (s.extract l h)) w := by
      rw [hv0]
      simp only [Instr.sliceAt, Instr.slice, Sem.run_bind, run_underlying ht, Result.andThen_ok, Option.map_none, hb, Sem.run_pure, Option.isSome_none, Bool.false_eq_true, if_false]
    simp only [execOp, Sem.run_bind, hrun, Result.andThen_ok, Sem.run_pure]
theorem Ok.ownCap {e : E} {f : F} {H : Im} {B : Bl} {a : Act} {w : World} (h : Ok e f H B a w) {n : Nat} {ty : TypeId} {es : Nat} {rows : List (List D)} (hl : f.l n = some (.row ty es rows)) {len k : Nat} (hk : k ≤ rows.length) {v : Value} (hv : CR H B (.own n len) v) :
    ∃ ao c, v = .slice ao len c ∧ k ≤ c ∧ ((B n = none ∧ len = 0 ∧ c = 0) ∨ ∃ b, B n = some (b, c) ∧ ao = some ⟨b, 0, none⟩) := by
  simp only [CR] at hv
  cases hB : B n with
  | none =>
    rw [hB] at hv
    obtain ⟨rfl, ao, rfl⟩ := hv
    have h1 := h.loc n _ hl
    simp only [LR, hB] at h1
    rw [h1] at hk
    exact ⟨ao, 0, rfl, hk, .inl ⟨rfl, rfl, rfl⟩⟩
  | some q =>
    obtain ⟨b, c⟩ := q
    rw [hB] at hv
    obtain ⟨arr, g1, g2, g3, g4, g5, g6⟩ := h.row hl hB
    exact ⟨_, c, hv, by omega, .inr ⟨b, rfl, rfl⟩⟩
/-- an own row from a place on -/
theorem Op.sliceLo {d t n len l es : Nat} {y : Operand} {k : IntKind} {rows : List (List D)} {rs : List (Nat × V)} {rty xt el ty : TypeId} {pos af gd} (hs : SlT P xt el es) (hlen : len ≤ rows.length) (hy : OV y (vi k l) rs) (h1 : l ≤ len) {len' : Nat} (he : len - l = len') :
    OpOk P ⟨some d, .slice xt (.tmp t) (some y) none none, ty, pos, af, gd⟩ { rs := (t, .t (.c (.own n len))) :: rs, rl := [(n, .row rty es rows)], ws := [(d, some (.t (.c (.sub n (l * es) len'))))] } :=
  OpOk.value d _ rfl rfl rfl fun e f H B a w hok hr2 => by
    have g1 := hok.slot t _ (hr2.1 (t, .t (.c (.own n len))) (by simp))
    obtain ⟨ao, c, hv, hc, hB⟩ := hok.ownCap (hr2.2 (n, .row rty es rows) (by simp)) hlen g1
    have hv : a.eval (.tmp t) = .slice ao len c := hv
    subst he
    have hb := run_bounds (P := P) (is := true) (lo := some y) (hi := none) (len := len) (cap := c) (BO.yes 0 hy) (BO.no len) hok (fun p hp => hr2.1 p (by simp [hp])) (fun p hp => by cases hp) h1 hc
    have hrun := run_sliceS (ao := ao) hs hb
    refine ⟨.slice (if c = l then ao else ao.map (·.add (l * es))) (len - l) (c - l), ?_, ⟨⟨_, _, rfl⟩, fun hlt => ?_⟩⟩
    · generalize a.eval = ρ at hv hrun ⊢
      have hrun' : (Instr.sliceAt xt (ρ (.tmp t)) ((some y).map ρ) ((none : Option Operand).map ρ) ((none : Option Operand).map ρ)).run P w = .ok (.slice (if c = l then ao else ao.map (·.add (l * es))) (len - l) (c - l)) w := by rw [hv]; exact hrun
      simp only [execOp, Sem.run_bind, hrun', Result.andThen_ok, Sem.run_pure]
    · rcases hB with ⟨_, h3, _⟩ | ⟨b, h3, rfl⟩
      · omega
      · refine ⟨b, c, c - l, h3, ?_⟩
        rw [if_neg (by omega)]
        simp only [Option.map_some, Addr.add_mid, Nat.zero_add]
/-- an own row up to a place -/
theorem Op.sliceHi {d t n len h es : Nat} {y : Operand} {k : IntKind} {rows : List (List D)} {rs : List (Nat × V)} {rty xt el ty : TypeId} {pos af gd} (hs : SlT P xt el es) (hlen : h ≤ rows.length) (hy : OV y (vi k h) rs) :
    OpOk P ⟨some d, .slice xt (.tmp t) none (some y) none, ty, pos, af, gd⟩ { rs := (t, .t (.c (.own n len))) :: rs, rl := [(n, .row rty es rows)], ws := [(d, some (.t (.c (.own n h))))] } :=
  OpOk.value d _ rfl rfl rfl fun e f H B a w hok hr2 => by
    have g1 := hok.slot t _ (hr2.1 (t, .t (.c (.own n len))) (by simp))
    obtain ⟨ao, c, hv, hc, hB⟩ := hok.ownCap (hr2.2 (n, .row rty es rows) (by simp)) hlen g1
    have hv : a.eval (.tmp t) = .slice ao len c := hv
    have hb := run_bounds (P := P) (is := true) (lo := none) (hi := some y) (len := len) (cap := c) (BO.no 0) (BO.yes len hy) hok (fun p hp => by cases hp) (fun p hp => hr2.1 p (by simp [hp])) (Nat.zero_le _) (by omega)
    have hrun := run_sliceS (ao := ao) hs hb
    have e1 : (if c = 0 then ao else ao.map (·.add (0 * es))) = ao := by
      split
      · rfl
      · rcases hB with ⟨_, _, h3⟩ | ⟨b, h3, rfl⟩
        · omega
        · simp [Addr.add_mid]
    rw [e1] at hrun
    refine ⟨.slice ao h c, ?_, ?_⟩
    · generalize a.eval = ρ at hv hrun ⊢
      have hrun' : (Instr.sliceAt xt (ρ (.tmp t)) ((none : Option Operand).map ρ) ((some y).map ρ) ((none : Option Operand).map ρ)).run P w = .ok (.slice ao h c) w := by rw [hv]; exact hrun
      simp only [execOp, Sem.run_bind, hrun', Result.andThen_ok, Sem.run_pure]
    · show CR H B (.own n h) _
      simp only [CR]
      rcases hB with ⟨h2, h3, h4⟩ | ⟨b, h3, rfl⟩
      · rw [h2]; exact ⟨by omega, ao, by rw [show h = 0 by omega, h4]⟩
      · rw [h3]
/-- nothing of a slice, without room: a new own row -/
theorem Op.slice00 {d t n es : Nat} {rows : List (List D)} {xt el ty : TypeId} {pos af gd} (hs : SlT P xt el es) (rty : TypeId) (x y : Operand) (k k' : IntKind) (hx : OV x (vi k 0) []) (hy : OV y (vi k' 0) []) :
    OpOk P ⟨some d, .slice xt (.tmp t) none (some x) (some y), ty, pos, af, gd⟩ { rs := [(t, .t (.c (.d (.sl es rows))))], ws := [(d, some (.t (.c (.own n 0))))], wl := [(n, some (.row rty es []))], nw := [n] } := by
  rintro e f a w Q ⟨H, B, hok⟩ hr hnw hb0
  have g1 : DR H (.sl es rows) (a.eval (.tmp t)) := hok.slot t _ (hr.1 (t, .t (.c (.d (.sl es rows)))) (by simp))
  have ex : a.eval x = .int k 0 := (hx.eval hok fun p hp => by cases hp).rawI
  have ey : a.eval y = .int k' 0 := (hy.eval hok fun p hp => by cases hp).rawI
  obtain ⟨ao, len, c, hv⟩ : ∃ ao len c, a.eval (.tmp t) = .slice ao len c := by
    generalize a.eval (.tmp t) = v at g1
    cases g1 with
    | nil _ ao c => exact ⟨_, _, _, rfl⟩
    | sl => exact ⟨_, _, _, rfl⟩
  have hrun : (Instr.sliceAt xt (.slice ao len c) none (some (.int k 0)) (some (.int k' 0))).run P w = .ok (.slice ao 0 0) w := by
    have b1 : ∀ cap code, (Instr.sliceBound (.int k' 0) cap code).run P w = .ok 0 w := fun cap code => by rw [run_sliceBound (P := P) w _ _ _ code (by omega) (by omega)]; rfl
    have b2 : ∀ cap code, (Instr.sliceBound (.int k 0) cap code).run P w = .ok 0 w := fun cap code => by rw [run_sliceBound (P := P) w _ _ _ code (by omega) (by omega)]; rfl
    simp only [Instr.sliceAt, Instr.slice, Sem.run_bind, run_underlying hs.hu, Result.andThen_ok, Instr.sliceBounds, b1, b2, size_run hs.hs, Sem.run_pure, if_true, Nat.sub_zero]
  have hnew := hnw n (by simp)
  refine wp_of_run (d := d) rfl ?_ ⟨H, _, (hok.nilName n es rty hnew).put (x := some (.t (.c (.own n 0)))) (hb0.1 (d, some (.t (.c (.own n 0)))) (by simp)) (app1_s f d _ _ rfl) (fun m => ?_) (v := .slice ao 0 0) (fun y hy => by injection hy with hy; subst hy; simp [VR, TR, CR])⟩
  · generalize a.eval = ρ at hv hrun ex ey ⊢
    have hrun' : (Instr.sliceAt xt (ρ (.tmp t)) ((none : Option Operand).map ρ) ((some x).map ρ) ((some y).map ρ)).run P w = .ok (.slice ao 0 0) w := by rw [hv]; simp only [Option.map_some, Option.map_none, ex, ey]; exact hrun
    simp only [execOp, Sem.run_bind, hrun', Result.andThen_ok, Sem.run_pure]
  · simp only [F.app, List.lookup, F.setL]
    by_cases e1 : m = n
    · simp [e1]
    · have g1 : (m == n) = false := by simpa using e1
      simp [g1, e1]
/-- a row from a place on is cleared: it is known up to there -/
theorem Op.clearCut {o : Option Nat} {t n off len l es : Nat} {rows : List (List D)} {zs : List C} {rty xt el ty : TypeId} {pos af gd} (hu : P.underlying xt = some (.slice el)) (hz : Zero P el zs) (hzl : zs.length = es) (ho : off = l * es) (hlen : l + len = rows.length)
    (x : List (Nat × Option V)) (hx : x = (match o with | none => [] | some d => [(d, some (.tup []))])) :
    OpOk P ⟨o, .call { callee := .builtin .clear, args := #[.tmp t], argTypes := #[xt] }, ty, pos, af, gd⟩ { rs := [(t, .t (.c (.sub n off len)))], rl := [(n, .row rty es rows)], ws := x, wl := [(n, some (.row rty es (rows.take l)))] } := by
  rintro e f a w Q ⟨H, B, hok⟩ hr2 hnw hb0
  have hfl := hr2.2 (n, .row rty es rows) (by simp)
  have hv : CR H B (.sub n off len) (a.eval (.tmp t)) := hok.slot t _ (hr2.1 (t, .t (.c (.sub n off len))) (by simp))
  obtain ⟨⟨ao, c, hv⟩, hv2⟩ := hv
  obtain ⟨z, zl, hz1, hz2, hz3⟩ := hz.ex
  have hzl2 : zl.length = es := by rw [← (hz3 H B).length]; exact hzl
  -- the run
  obtain ⟨w', hrun, hw'⟩ : ∃ w', (Builtin.clear_ #[xt] ty #[a.eval (.tmp t)]).run P w = .ok (.tuple #[]) w' ∧ Ok e ⟨f.s, fun m => if m = n then some (.row rty es (rows.take l)) else f.l m⟩ H B a w' := by
    have cut : Ok e ⟨f.s, fun m => if m = n then some (.row rty es (rows.take l)) else f.l m⟩ H B a w := by
      obtain ⟨H', B', h'⟩ := (show St e f a w from ⟨H, B, hok⟩).cutR n l es rty hfl
      have h1 := hok.setL n _ (.row rty es (rows.take l)) hfl fun hu => by
        simp only [LR] at hu ⊢
        split at hu
        · rw [hu]; simp
        · obtain ⟨arr, h1, h2, h3, h4, h5, h6⟩ := hu
          have h5' : ∀ r ∈ rows.take l, r.length = es := fun r hr => h5 r (List.mem_of_mem_take hr)
          have h3' : (rows.take l).length ≤ _ := Nat.le_trans (by rw [List.length_take]; omega) h3
          refine ⟨arr, h1, h2, h3', h4, h5', (rowAt_iff h2 h3' h5').2 fun i r hr f x hx => ?_⟩
          rw [List.getElem?_take] at hr
          split at hr
          · exact (rowAt_iff h2 h3 h5).1 h6 i r hr f x hx
          · cases hr
      refine ⟨h1.df, h1.n, h1.ext, h1.sat, h1.slot, fun m y hy => h1.loc m y ?_, fun m y b c hy => h1.priv m y b c ?_, fun m k y y' b c c' hy hy' => h1.inj m k y y' b c c' ?_ ?_, h1.low, h1.le, h1.keep⟩ <;> (simp only [F.setL]; first | (simpa using hy) | (simpa using hy'))
    by_cases h0 : len = 0
    · subst h0
      refine ⟨w, ?_, cut⟩
      rw [hv]
      cases ao <;> simp [Builtin.clear_, run_underlying hu]
    · obtain ⟨b, cc, k, hB, hv3⟩ := hv2 (by omega)
      obtain ⟨arr, hcl, h2, h3, h4, h5, h6⟩ := hok.row hfl hB
      have hzc : ((Builtin.zeroCells z.cells len).toList).length = len * es := by simp [Builtin.zeroCells, hz2, hzl2]
      have hle : rows.length * es ≤ cc * es := Nat.mul_le_mul_right _ h3
      have hfit : off + len * es ≤ arr.length := by rw [h2, ho, ← Nat.add_mul, hlen]; exact hle
      obtain ⟨k1, k2, k3, k4, k5, k6⟩ := setCells_heap (Builtin.zeroCells z.cells len).toList off w arr hcl
      refine ⟨w.setCells b off (Builtin.zeroCells z.cells len).toList, ?_, ?_⟩
      · have hst := run_storeCells_cells (P := P) b off (Builtin.zeroCells z.cells len).toList 0 w (fun j hj => by
          rw [cell_of hcl (o := off + 0 + j) (v := arr[off + 0 + j]'(by omega)) (List.getElem?_eq_getElem _)]; rfl) (fun j hj => by simp [World.frozen?, hcl]) (fun v hv => by
          simp only [Builtin.zeroCells, hz2, Array.toList_map, List.mem_map] at hv
          obtain ⟨i, hi, rfl⟩ := hv
          have hm : i % zl.length < zl.length := by
            refine Nat.mod_lt _ (Nat.pos_of_ne_zero fun e0 => ?_)
            have hi' : i < len * zl.length := by simpa using hi
            rw [e0] at hi'; omega
          have e1 : ((⟨zl⟩ : Array Value)[i % (⟨zl⟩ : Array Value).size]!) = zl[i % zl.length] := by simp [hm]
          rw [e1]
          obtain ⟨y, hy, hR⟩ := (hz3 H B).get (i % zl.length) (by rw [(hz3 H B).length]; exact hm)
          rw [List.getElem?_eq_getElem hm] at hy
          injection hy with hy
          rw [hy]
          exact flat_one (CR.flat hR))
        have hzv : ∀ w', (zeroValue el).run P w' = .ok z w' := fun w' => Zero.run hz1 w'
        rw [hv3]
        cases len with
        | zero => omega
        | succ m =>
          simp at hst
          simp [Builtin.clear_, hst, run_underlying hu, hzv]
      · refine (hok.write (g := ⟨f.s, fun m => if m = n then some (.row rty es (rows.take l)) else f.l m⟩) (l' := .row rty es (rows.take l)) hfl hB (fun _ => rfl) (fun _ => rfl) k2 k3 k4 k5 k6 ?_)
        simp only [LR, hB]
        have h5' : ∀ r ∈ rows.take l, r.length = es := fun r hr => h5 r (List.mem_of_mem_take hr)
        have h3' : (rows.take l).length ≤ cc := Nat.le_trans (by rw [List.length_take]; omega) h3
        refine ⟨putL arr off (Builtin.zeroCells z.cells len).toList, k1, by rw [putL_length]; exact h2, h3', h4, h5', (rowAt_iff (by rw [putL_length]; exact h2) h3' h5').2 fun i r hr f x hx => ?_⟩
        rw [List.getElem?_take] at hr
        split at hr
        · rename_i hil
          obtain ⟨u, j1, j2⟩ := h6 i r hr f x hx
          have hf : f < es := by rw [← h5 r (List.mem_of_getElem? hr)]; exact (List.getElem?_eq_some_iff.1 hx).1
          have : (i + 1) * es ≤ l * es := Nat.mul_le_mul_right _ hil
          rw [Nat.add_mul] at this
          refine ⟨u, ?_, j2⟩
          rw [putL_get _ arr off _ (by omega), if_neg (by omega)]
          exact j1
        · cases hr
  have hex : (execOp a.eval ⟨o, .call { callee := .builtin .clear, args := #[.tmp t], argTypes := #[xt] }, ty, pos, af, gd⟩).run P w = .ok (.value (.tuple #[])) w' := by
    generalize a.eval = ρ at hrun ⊢
    have e1 : (Array.map ρ #[.tmp t]) = #[ρ (.tmp t)] := by simp
    simp only [execOp, resolve, e1, Sem.run_bind, Sem.run_pure, Result.andThen_ok, invoke, builtin, hrun]
  unfold Oper.wp
  rw [hex, Oper.upon_value]
  subst hx
  cases o with
  | none => exact St.put0 ⟨H, B, hw'⟩ rfl (app0_s _ _ rfl) (fun m => app1_l f n _ _ rfl m)
  | some d => exact ⟨H, B, hw'.put (x := some (.tup [])) (hb0.1 (d, some (.tup [])) (by simp)) (app1_s f d _ _ rfl) (fun m => app1_l f n _ _ rfl m) (fun y hy => by injection hy with hy; subst hy; exact ⟨[], rfl, trivial⟩)⟩
theorem Op.clearCut' {o : Option Nat} {t n off len l es : Nat} {rows rows' : List (List D)} {zs : List C} {rty xt el ty : TypeId} {pos af gd} (hu : P.underlying xt = some (.slice el)) (hz : Zero P el zs) (hzl : zs.length = es) (ho : off = l * es) (hlen : l + len = rows.length)
    (x : List (Nat × Option V)) (hx : x = (match o with | none => [] | some d => [(d, some (.tup []))])) (hr : rows.take l = rows') :
    OpOk P ⟨o, .call { callee := .builtin .clear, args := #[.tmp t], argTypes := #[xt] }, ty, pos, af, gd⟩ { rs := [(t, .t (.c (.sub n off len)))], rl := [(n, .row rty es rows)], ws := x, wl := [(n, some (.row rty es rows'))] } := by
  subst hr
  exact Op.clearCut hu hz hzl ho hlen x hx
/-- what stands behind a branch is shown once -/
theorem midH {w0 : World} {H0 : Im} {B0 : Bl} {K : List Nat} {N : Nat} {Q : Exit → Act → World → Prop} {a : Act} {w : World} {x y : Code} {sl : List (Nat × V)} {lc : List (Nat × L)} (_h : St ⟨w0, H0, B0, K, N⟩ (F.of sl lc) a w) (sl' : List (Nat × V)) (lc' : List (Nat × L))
    (hx : x.wp P (Exit.then (fun a w => St ⟨w0, H0, B0, K, N⟩ (F.of sl' lc') a w) Q) a w) (hy : ∀ a w, St ⟨w0, H0, B0, K, N⟩ (F.of sl' lc') a w → y.wp P Q a w) : (Code.seq x y).wp P Q a w := midS sl' lc' hx hy
/-- an empty slice, nil or not, as data -/
theorem nilDSr {w0 : World} {H0 : Im} {B0 : Bl} {K : List Nat} {N : Nat} {a : Act} {w : World} {sl : List (Nat × V)} {lc : List (Nat × L)} (t j es : Nat) (v : V) (ao : Option Addr) (c : Nat) (h1 : ao = none → c = 0) (h2 : c ≤ maxLen) (sl' : List (Nat × V)) (lc' : List (Nat × L)) (h : St ⟨w0, H0, B0, K, N⟩ (F.of sl lc) a w) (hv : sl.lookup t = some v) (hg : v.getC j = some (.d (.raw (.slice ao 0 c))))
    (h3 : leS ((F.of sl lc).setS t (v.setC j (.d (.sl es [])))) sl' = sl'.map fun p => some p.2) (h4 : leN ((F.of sl lc).setS t (v.setC j (.d (.sl es [])))) lc' = lc'.map fun p => some p.2) : St ⟨w0, H0, B0, K, N⟩ (F.of sl' lc') a w :=
  (h.nilDS t j es (ao := ao) hv hg h1 h2).weaken (le_of h3 h4)
theorem run_eqNil {xt el : TypeId} (hu : P.underlying xt = some (.slice el)) (ao : Option Addr) (n c : Nat) (x y : Operand) (w : World) :
    (do eqGuard .eql xt x y (.slice ao n c) nilV; binOp .eql xt (.slice ao n c) nilV : Sem Value).run P w = .ok (.bool ao.isNone) w := by
  have h1 : (eqGuard .eql xt x y (.slice ao n c) nilV).run P w = .ok () w := by simp [eqGuard, nilV]
  have h2 : (binOp .eql xt (.slice ao n c) nilV).run P w = .ok (.bool ao.isNone) w := by
    show (do pure (Value.bool (← Op.equal xt (.slice ao n c) (.slice none 0 0))) : Sem Value).run P w = _
    simp only [Sem.run_bind, run_equal_slice_nil (P := P) w xt el ao n c hu, Result.andThen_ok, Sem.run_pure]
  simp only [Sem.run_bind, h1, Result.andThen_ok, h2]
/-- a slice held against nil -/
theorem Op.eqNilR {d : Nat} {x y : Operand} {ao : Option Addr} {n c : Nat} {rs rs' : List (Nat × V)} {xt yt el ty : TypeId} {pos af gd} (hu : P.underlying xt = some (.slice el)) (h : OV x (.t (.c (.d (.raw (.slice ao n c))))) rs) (h' : OV y (.t (.c (.d (.raw nilV)))) rs') :
    OpOk P ⟨some d, .binOp .eql xt x y yt, ty, pos, af, gd⟩ { rs := rs ++ rs', ws := [(d, some (vb ao.isNone))] } := by
  refine Op.raw2 rfl h h' rfl fun ρ w h1 h2 => ?_
  have := run_eqNil (P := P) hu ao n c x y w
  simp only [Sem.run_bind] at this
  simp only [execOp, h1, h2, Sem.run_bind, this, Result.andThen_ok, Sem.run_pure]
theorem Op.eqNilD {d t es : Nat} {y : Operand} {rows : List (List D)} {rs' : List (Nat × V)} {xt yt el ty : TypeId} {pos af gd} (hu : P.underlying xt = some (.slice el)) (hn : 0 < rows.length) (h' : OV y (.t (.c (.d (.raw nilV)))) rs') :
    OpOk P ⟨some d, .binOp .eql xt (.tmp t) y yt, ty, pos, af, gd⟩ { rs := (t, .t (.c (.d (.sl es rows)))) :: rs', ws := [(d, some (vb false))] } :=
  OpOk.value d _ rfl rfl rfl fun e f H B a w hok hr2 => by
    have h1 := hok.slot t _ (hr2.1 (t, .t (.c (.d (.sl es rows)))) (by simp))
    have h2 : a.eval y = nilV := (h'.eval hok fun p hp => hr2.1 p (by simp [hp])).rawI
    have h3 : DR H (.sl es rows) (a.eval (.tmp t)) := h1
    generalize hv0 : a.eval (.tmp t) = v at h3
    cases h3 with
    | nil ao c => simp at hn
    | sl _ _ b o c arr ty' fz vs hp hb hl hc hes hv hx =>
      refine ⟨.bool false, ?_, DR.raw _ rfl⟩
      generalize a.eval = ρ at hv0 h2 ⊢
      have := run_eqNil (P := P) hu (some ⟨b, o, none⟩) rows.length c (.tmp t) y w
      simp only [Sem.run_bind] at this
      simp only [execOp, hv0, h2, Sem.run_bind, this, Result.andThen_ok, Sem.run_pure]
      rfl
/-- what is shown of every empty slice, nil or not -/
theorem Fn.rawE {k : FuncId} {ps qs : List (Nat × L)} {es : Nat} {res : V} (h : ∀ (ao : Option Addr) (c : Nat), (ao = none → c = 0) → c ≤ maxLen → Fn P k ps [.t (.c (.d (.raw (.slice ao 0 c))))] res qs) : Fn P k ps [.t (.c (.d (.sl es [])))] res qs := by
  intro w H B vals pre
  obtain ⟨h1, h2, h3, h4, h5⟩ := pre
  cases vals with
  | nil => exact h5.elim
  | cons v vs =>
    have h6 : DR H (.sl es []) v := h5.1
    cases h6 with
    | sl _ _ b o c arr ty fz ws hp => exact absurd hp (by simp)
    | nil _ ao c g1 g2 => exact h ao c g1 g2 w H B _ ⟨h1, h2, h3, h4, DR.raw _ rfl, h5.2⟩
end
end Go.Proofs.Ytekhnajfdaknnaa.S
