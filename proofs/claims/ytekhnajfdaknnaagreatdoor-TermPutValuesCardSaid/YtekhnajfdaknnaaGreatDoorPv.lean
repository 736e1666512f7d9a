/-
  The proof of the statement TermPutValues: the walk through the program and the references lifted to the given row. It holds for every input.
-/
import Derived.Test.YtekhnajfdaknnaaGreatDoorPv5
import Derived.Test.YtekhnajfdaknnaaGreatDoorPv2
import Derived.Test.YtekhnajfdaknnaaGreatDoorRows
import Derived.Test.YtekhnajfdaknnaaGreatDoorCards
import Derived.Test.YtekhnajfdaknnaaGreatDoorTie
import Derived.ProofKit
import Derived.LaidMore
import Derived.OpenShut
import Derived.SevenTiedAt
set_option maxRecDepth 100000
section
namespace Go.Proofs.YtekhnajfdaknnaaGreatDoor.S
open Go.RowKit Go.Shelf
section
variable {P : Program} {ρ : Ren}
def CapOk (v : Value) : Prop := v = .slice none 0 0 ∨ ∃ g n c, v = .slice (some ⟨g, 0, none⟩) n c ∧ 0 < c
theorem str_fresh {w : World} {t u ty e : TypeId} {i : TypeInfo} (ht : P.underlying t = some (.slice e)) (hu : P.underlying u = some .string) (hi : P.info? e = some i) (hz : i.zero = some (.int .u8 0)) (hsize : i.size = 1) (hby : i.bytes = 1)
  {v : Value} {n : Nat} {xs : List Value} (hown : w.ownsRow 0 e 1 v n xs) {s : ByteArray} (h63 : n + s.size ≤ maxLen) (hb : n + s.size ≤ 140737488355328)
  (hc0 : CapOk v) {v' : Value} {w' : World} (hr : (Builtin.append_ #[t, u] ty #[v, .string s]).run P w = .ok v' w') : (∀ g, v'.ownBlock = some g → v.ownBlock = some g ∨ w.heap.size ≤ g) ∧ CapOk v' := by
 have hsmall : n + s.size ≤ 9223372036854775807 := by simp only [maxLen] at h63; omega
 have hxl : xs.length = n := by simpa using hown.1
 rcases hown.2 with ⟨rfl, rfl⟩ | ⟨g2, cap, cur, rfl, _, hg2, hnc, hcm, hcs, htake⟩
 ·by_cases hm : s.size = 0
  ·obtain ⟨a, b, c, _, _, hnil⟩ := Lib.run_append_own_string (P := P) w 0 t u ty e i ht hu hi hz hsize hby _ 0 xs hown s (by omega) (by omega) (Nat.zero_le _)
   rw [c] at hr
   injection hr with hr _
   subst hr
   have e1 := hnil.2 ⟨rfl, hm⟩
   exact ⟨fun g hg => by rw [e1] at hg; simp [Value.ownBlock] at hg, .inl e1⟩
  ·have h2 := run_append_nil_string (P := P) w t u ty e i (.int .u8 0) ht hu hi hz s (by omega) (by omega) (by rw [hby]; omega)
   rw [h2] at hr
   injection hr with hr _
   subst hr
   exact ⟨fun g hg => by simp [Value.ownBlock] at hg; exact .inr (by omega), .inr ⟨_, _, _, rfl, by have := grownCap_ge w s.size 0 e; omega⟩⟩
 ·by_cases hroom : n + s.size ≤ cap
  ·have h2 := Lib.run_append_room_string (P := P) w t u ty e i ht hu hi hsize g2 n cap cur hg2 s hroom (by omega)
   rw [h2] at hr
   injection hr with hr _
   subst hr
   refine ⟨fun g hg => .inl hg, ?_⟩
   rcases hc0 with h0 | ⟨_, _, _, h0, hc⟩
   ·cases h0
   ·injection h0 with _ _ h0; subst h0; exact .inr ⟨_, _, _, rfl, hc⟩
  ·have h2 := Lib.run_append_grow_string (P := P) w t u ty e i (.int .u8 0) ht hu hi hz ⟨g2, 0, none⟩ n cap xs (by rw [hsize]; simpa using hxl) (hown.cells (g := g2) rfl) s (by omega) (by omega) (by rw [hby]; exact growslice_fits (by omega) (by omega))
   rw [h2] at hr
   injection hr with hr _
   subst hr
   exact ⟨fun g hg => by simp [Value.ownBlock] at hg; exact .inr (by omega), .inr ⟨_, _, _, rfl, by have := grownCap_ge w (n + s.size) cap e; omega⟩⟩
theorem wpl_str {ops : Array Oper} {rest : List Oper} {o : Oper} {a : Act} {w : World} {Q : Exit → Act → World → Prop} (hgd : o.guard = none) (sl x : Operand) (t u : TypeId)
  (ho : o.op = .call { callee := .builtin .append, args := #[sl, x], argTypes := #[t, u] })
  (e : TypeId) (i : TypeInfo) (ht : P.underlying t = some (.slice e)) (hu : P.underlying u = some .string) (hi : P.info? e = some i) (hz : i.zero = some (.int .u8 0)) (hsize : i.size = 1) (hby : i.bytes = 1)
  (v : Value) (n : Nat) (xs : List Value) (hs : a.eval sl = v) (hown : w.ownsRow 0 e 1 v n xs) (s : ByteArray) (hx : a.eval x = .string s) (h63 : n + s.size ≤ maxLen) (hb : n + s.size ≤ 140737488355328) (hc0 : CapOk v)
  (h : ∀ v' w', w'.ownsRow 0 e 1 v' (n + s.size) (xs ++ Lib.strCells s) → w.grownBy w' v.ownBlock → (∀ g, v'.ownBlock = some g → v.ownBlock = some g ∨ w.heap.size ≤ g) → CapOk v' → wpList P ops Q rest (a.put o.dst v') w') : wpList P ops Q (o :: rest) a w := by
 refine wpList_plain hgd fun K hK => ?_
 obtain ⟨v', w', hr, h2, h3, _⟩ := Lib.run_append_own_string (P := P) w 0 t u o.type e i ht hu hi hz hsize hby v n xs hown s h63 hb (Nat.zero_le _)
 have hf := str_fresh ht hu hi hz hsize hby hown h63 hb hc0 hr
 unfold Oper.wp execOp
 simp only [ho, resolve, invoke, builtin, Sem.run_bind, Sem.run_pure, Result.andThen_ok, List.map_toArray, List.map_cons, List.map_nil, hs, hx, hr]
 exact hK _ _ (h v' w' h2 h3 hf.1 hf.2)

/-- a builder in block b: where its own address is noted, or nothing yet; its row -/
structure BldW (T e : TypeId) (b : Nat) (v : Value) (xs : List Value) (w : World) : Prop where
  blk : ∃ p, w.heap[b]? = some (.cells #[p, v] T (0, 0)) ∧ (p = .pointer none ∨ p = .pointer (some ⟨b, 0, none⟩))
  own : w.ownsRow 0 e 1 v xs.length xs
  ne : v.ownBlock ≠ some b
  cap : CapOk v
theorem BldW.is {T e : TypeId} {b : Nat} {v : Value} {xs : List Value} {w : World} (h : BldW T e b v xs w) : Lib.IsBuilder T e 0 b xs w := by
 obtain ⟨p, h1, rfl | rfl⟩ := h.blk
 ·exact .inl ⟨Nat.zero_le _, v, h1, h.own, h.ne⟩
 ·exact .inr ⟨Nat.zero_le _, v, h1, h.own, h.ne⟩
theorem ownsRow_set {w : World} {e : TypeId} {v : Value} {n : Nat} {xs : List Value} (h : w.ownsRow 0 e 1 v n xs) {b j : Nat} (hb : v.ownBlock ≠ some b) (q : Value) : (w.setCell ⟨b, j, none⟩ q).ownsRow 0 e 1 v n xs := by
 refine ⟨h.1, ?_⟩
 rcases h.2 with h2 | ⟨g, cap, cur, rfl, h3, h4, h5⟩
 ·exact .inl h2
 ·refine .inr ⟨g, cap, cur, rfl, h3, ?_, h5⟩
  rw [Below.heap_setCell w ⟨b, j, none⟩ q g (fun e => hb (by simp [Value.ownBlock, e]))]
  exact h4
theorem ccx (L : Lays.n240 P ρ) (X : Builder.X72 P ρ) {b : Nat} {v : Value} {xs : List Value} {w : World} (h : BldW (ρ.t 72) (ρ.t 5) b v xs w) :
  Calls P (ρ.f 240) #[.pointer (some ⟨b, 0, none⟩)] w fun e w' => e = .returned (.tuple #[]) ∧ w'.heap[b]? = some (.cells #[.pointer (some ⟨b, 0, none⟩), v] (ρ.t 72) (0, 0)) ∧ w'.ownsRow 0 (ρ.t 5) 1 v xs.length xs ∧
   (∀ k, k ≠ b → w'.heap[k]? = w.heap[k]?) ∧ w'.os = w.os ∧ w'.tape = w.tape ∧ w'.output = w.output ∧ w'.heap.size = w.heap.size := by
 obtain ⟨p, h1, rfl | rfl⟩ := h.blk
 ·refine (Any.Builder_copyCheck_fresh L X b w (by rw [Lib.cell_of_heap h1]; rfl) (by simp [World.shape?, h1]) (Lib.frozen_of_heap h1 0)).mono ?_
  rintro e w' ⟨rfl, rfl⟩
  refine ⟨rfl, by simp [World.setCell, Array.getElem?_modify, h1], ownsRow_set h.own h.ne _, fun k hk => Below.heap_setCell w _ _ k hk, rfl, rfl, rfl, by simp [World.setCell]⟩
 ·refine (Any.Builder_copyCheck_used L X b w (by rw [Lib.cell_of_heap h1]; rfl)).mono ?_
  rintro e w' ⟨rfl, rfl⟩
  exact ⟨rfl, h1, h.own, fun _ _ => rfl, rfl, rfl, rfl, rfl⟩

set_option maxHeartbeats 2000000 in
/-- WriteString: the bytes come behind, and nothing else turns -/
theorem wsx (L : Lays.n166 P ρ) (X : Builder.Extra P ρ) {b : Nat} {v : Value} {xs : List Value} {w : World} (h : BldW (ρ.t 72) (ρ.t 5) b v xs w) (s : ByteArray) (hlen : xs.length + s.size ≤ 140737488355328) :
  Calls P (ρ.f 166) #[.pointer (some ⟨b, 0, none⟩), .string s] w fun e w' => e = .returned (.tuple #[.int .i64 s.size, .nilIface]) ∧ ∃ v', BldW (ρ.t 72) (ρ.t 5) b v' (xs ++ Lib.strCells s) w' ∧ (∀ g, v'.ownBlock = some g → v.ownBlock = some g ∨ w.heap.size ≤ g) ∧
   (∀ k, k < w.heap.size → k ≠ b → some k ≠ v.ownBlock → w'.heap[k]? = w.heap[k]?) ∧ w'.os = w.os ∧ w'.tape = w.tape ∧ w'.output = w.output ∧ w.heap.size ≤ w'.heap.size := by
 obtain ⟨i0, hi, hz0, hz1, hz2⟩ := info_parts X.infoByte
 have mixed := L.mixed
 have t72 := L.t72; have a72 := L.a72; have z72 := L.z72; have v72 := L.v72; have u72 := run_underlying L.t72
 have t70 := L.t70; have a70 := L.a70; have z70 := L.z70; have v70 := L.v70; have u70 := run_underlying L.t70
 have t37 := L.t37; have a37 := L.a37; have z37 := L.z37; have v37 := L.v37; have u37 := run_underlying L.t37
 have t3 := L.t3; have a3 := L.a3; have z3 := L.z3; have v3 := L.v3; have u3 := run_underlying L.t3
 have t9 := L.t9; have a9 := L.a9; have z9 := L.z9; have v9 := L.v9; have u9 := run_underlying L.t9
 have t4 := L.t4; have a4 := L.a4; have z4 := L.z4; have v4 := L.v4; have u4 := run_underlying L.t4
 have t164 := L.t164; have a164 := L.a164; have z164 := L.z164; have v164 := L.v164; have u164 := run_underlying L.t164
 have t5 := X.t5; have a5 := X.a5; have z5 := X.z5; have v5 := X.v5; have u5 := run_underlying X.t5
 have e240 : ∀ args w, (callFunc (ρ.f 240) args).run P w = .ok (.enter (ρ.f 240) args) w := enters_of L.f240 (by kernel_rfl) rfl
 have hltb : b < w.heap.size := by obtain ⟨p, h1, _⟩ := h.blk; exact (Array.getElem?_eq_some_iff.1 h1).1
 have hne := h.ne
 go_enter L.f166, Body.n166_ntmps ρ
 go_wp2_with (go_at_fn (ρ.f 240); refine (ccx { L with } X.toX72 h).mono ?_)
 rintro e w1 ⟨rfl, hbk, hown, k1, k2, k3, k4, k5⟩
 have c0 : w1.cell? ⟨b, 0, none⟩ = some (.pointer (some ⟨b, 0, none⟩)) := by rw [Lib.cell_of_heap hbk]; rfl
 have c1 : w1.cell? ⟨b, 1, none⟩ = some v := by rw [Lib.cell_of_heap hbk]; rfl
 go_wp2_with (at_builtin; refine wpl_str rfl _ _ (ρ.t 37) (ρ.t 9) rfl (ρ.t 5) i0 L.t37 L.t9 hi hz0 hz1 hz2 _ _ _ rfl hown s rfl ?c3 ?c4 h.cap ?_)
 case c3 => unfold maxLen; omega
 case c4 => omega
 intro v' w2 hown' hgrow hfr hcap'
 have hb2 : w2.heap[b]? = some (.cells #[.pointer (some ⟨b, 0, none⟩), v] (ρ.t 72) (0, 0)) := by
  rw [hgrow.block b (by omega) (fun e => hne e.symm)]
  exact hbk
 have d0 : w2.cell? ⟨b, 0, none⟩ = some (.pointer (some ⟨b, 0, none⟩)) := by rw [Lib.cell_of_heap hb2]; rfl
 have d1 : w2.cell? ⟨b, 1, none⟩ = some v := by rw [Lib.cell_of_heap hb2]; rfl
 have f1 : w2.frozen? ⟨b, 1, none⟩ = false := Lib.frozen_of_heap hb2 1
 have hne' : v'.ownBlock ≠ some b := fun e => by
  rcases hfr b e with h1 | h1
  ·exact hne h1
  ·omega
 obtain ⟨ao, n', cap, rfl⟩ : ∃ ao n' cap, v' = .slice ao n' cap := by
  rcases hown'.2 with ⟨hv, _⟩ | ⟨g, cap, cur, hv, _⟩
  ·exact ⟨_, _, _, hv⟩
  ·exact ⟨_, _, _, hv⟩
 go_wp2
 go_ret2
 refine ⟨rfl, _, ⟨⟨_, by simp [World.setCell, Array.getElem?_modify, hb2], .inr rfl⟩, ?_, hne', hcap'⟩, fun g hg => (hfr g hg).imp id fun h => by omega, fun k h1 h2 h3 => ?_, ?_, ?_, ?_, ?_⟩
 ·exact ownsRow_set (by simpa [Lib.strCells_length] using hown') hne' _
 ·rw [Below.heap_setCell _ _ _ k h2, hgrow.block k (by omega) h3, k1 k h2]
 ·exact hgrow.os.trans k2
 ·exact hgrow.tape.trans k3
 ·exact hgrow.output.trans k4
 ·have := hgrow.size; simp [World.setCell]; omega

set_option maxHeartbeats 2000000 in
/-- String: the bytes; of all blocks only the row's own turns -/
theorem strx (L : Lays.n169 P ρ) (X : Builder.Extra P ρ) {b g cap : Nat} {p : Value} {cur : Array Value} {l : List UInt8} {w : World} (hbk : w.heap[b]? = some (.cells #[p, .slice (some ⟨g, 0, none⟩) l.length cap] (ρ.t 72) (0, 0)))
  (hg : w.heap[g]? = some (.cells cur (ρ.t 5) (0, 0))) (h0 : l ≠ []) (hnc : l.length ≤ cap) (hcm : cap ≤ maxLen) (hcs : cur.size = cap) (htake : cur.toList.take l.length = Lib.byteCells l) :
  Calls P (ρ.f 169) #[.pointer (some ⟨b, 0, none⟩)] w fun e w' => e = .returned (.string ⟨l.toArray⟩) ∧ w' = w.drew.freeze ⟨g, 0, none⟩ l.length := by
 have hl0 : l.length ≠ 0 := by simpa using h0
 have c1 : w.drew.cell? ⟨b, 1, none⟩ = some (.slice (some ⟨g, 0, none⟩) l.length cap) := by
  have : w.drew.heap[b]? = some (.cells #[p, .slice (some ⟨g, 0, none⟩) l.length cap] (ρ.t 72) (0, 0)) := hbk
  rw [Lib.cell_of_heap this]; rfl
 have hSD : (Builtin.unsafeSliceData_ #[(ρ.t 37)] (ρ.t 127) #[.slice (some ⟨g, 0, none⟩) l.length cap]).run P w.drew = .ok (.pointer (some ⟨g, 0, none⟩)) w.drew :=
  Lib.run_unsafeSliceData_row _ _ _ _ _ _ (by omega)
 have hUS : (Builtin.unsafeString_ #[(ρ.t 127), (ρ.t 3)] (ρ.t 9) #[.pointer (some ⟨g, 0, none⟩), .int .i64 l.length]).run P w.drew = .ok (.string ⟨l.toArray⟩) (w.drew.freeze ⟨g, 0, none⟩ l.length) := by
  refine Lib.run_unsafeString_row w.drew (ρ.t 127) (ρ.t 3) (ρ.t 9) (ρ.t 5) L.t127 X.cellsByte g cur.size (by have hg' : w.drew.heap[g]? = some (.cells cur (ρ.t 5) (0, 0)) := hg; simp [World.shape?, hg']) l h0 (by omega) (by unfold maxLen at hcm; omega) ?_
  intro j x hx
  have hg' : w.drew.heap[g]? = some (.cells cur (ρ.t 5) (0, 0)) := hg
  have e1 : (Lib.byteCells l)[j]? = some (.int .u8 x.toNat) := by simp [Lib.byteCells, hx]
  have hjl : j < l.length := (List.getElem?_eq_some_iff.1 hx).1
  rw [← htake, List.getElem?_take, if_pos hjl] at e1
  have e2 : cur[j]? = some (.int .u8 x.toNat) := by rw [← Array.getElem?_toList]; exact e1
  rw [Addr.add_mid, Lib.cell_of_heap hg', Nat.zero_add]; exact e2
 have mixed := L.mixed
 have t72 := L.t72; have a72 := L.a72; have z72 := L.z72; have v72 := L.v72; have u72 := run_underlying L.t72
 have t70 := L.t70; have a70 := L.a70; have z70 := L.z70; have v70 := L.v70; have u70 := run_underlying L.t70
 have t37 := L.t37; have a37 := L.a37; have z37 := L.z37; have v37 := L.v37; have u37 := run_underlying L.t37
 have t127 := L.t127; have a127 := L.a127; have z127 := L.z127; have v127 := L.v127; have u127 := run_underlying L.t127
 have t3 := L.t3; have a3 := L.a3; have z3 := L.z3; have v3 := L.v3; have u3 := run_underlying L.t3
 have t9 := L.t9; have a9 := L.a9; have z9 := L.z9; have v9 := L.v9; have u9 := run_underlying L.t9
 have t5 := X.t5; have a5 := X.a5; have z5 := X.z5; have v5 := X.v5; have u5 := run_underlying X.t5
 go_enter L.f169, Body.n169_ntmps ρ
 go_wp2
 go_region_o
 all_goals (go_wp2; go_ret; exact ⟨rfl, rfl⟩)

def bw (l : List UInt8) : List (List D) := l.map fun c => [.raw (.int .u8 (c.toNat : Int))]
theorem bw_length (l : List UInt8) : (bw l).length = l.length := by simp [bw]
theorem bw_one (l : List UInt8) : ∀ r ∈ bw l, r.length = 1 := by
 intro r hr; obtain ⟨c, _, rfl⟩ := List.mem_map.1 hr; rfl
theorem bw_flat (l : List UInt8) : (bw l).flatten = l.map fun c => D.raw (.int .u8 (c.toNat : Int)) := by
 induction l with
 | nil => rfl
 | cons x l ih => show _ :: (bw l).flatten = _; rw [ih]; rfl
theorem raws_eq {H : Im} : ∀ {l : List UInt8} {vs : List Value}, All2 (DR H) (l.map fun c => D.raw (.int .u8 (c.toNat : Int))) vs → vs = Lib.byteCells l
 | [], [], _ => rfl
 | _ :: l, _ :: vs, h => by
  have h1 := h.1
  cases h1
  rw [raws_eq h.2]; rfl
 | [], _ :: _, h => h.elim
 | _ :: _, [], h => h.elim
theorem raws_mk {H : Im} : ∀ (l : List UInt8), All2 (DR H) (l.map fun c => D.raw (.int .u8 (c.toNat : Int))) (Lib.byteCells l)
 | [] => trivial
 | x :: l => ⟨DR.raw _ rfl, raws_mk l⟩
theorem strCells_bytes (s : ByteArray) : Lib.strCells s = Lib.byteCells s.data.toList := by simp [Lib.strCells, Lib.byteCells]
theorem byteCells_app (l m : List UInt8) : Lib.byteCells (l ++ m) = Lib.byteCells l ++ Lib.byteCells m := by simp [Lib.byteCells]

theorem bldW_of {H : Im} {B : Bl} {w : World} {n m : Nat} {T e : TypeId} {l : List UInt8} (hnm : n ≠ m) (h7 : LR H B w n (.bld T (.own m l.length))) (h8 : LR H B w m (.row e 1 (bw l))) (hi : ∀ b c c', B n = some (b, c) → B m = some (b, c') → n = m) :
  ∃ b c v, B n = some (b, c) ∧ BldW T e b v (Lib.byteCells l) w ∧ v.ownBlock = (B m).map (·.1) := by
 obtain ⟨b, c, v1, v2, hb, hc, hp, hz, hv⟩ := h7
 refine ⟨b, c, v2, hb, ⟨⟨v1, hc, hp⟩, ?_, ?_, ?_⟩, ?_⟩
 ·refine ⟨by simp, ?_⟩
  simp only [CR] at hv
  simp only [LR] at h8
  cases hB : B m with
  | none =>
   rw [hB] at hv h8
   obtain ⟨h1, ao, rfl⟩ := hv
   rcases hz with hz | ⟨g, k, c', hz, hc'⟩
   ·exact .inl ⟨hz, by simp [Lib.byteCells_length, h1]⟩
   ·injection hz with _ _ hz; omega
  | some q =>
   obtain ⟨g, cap⟩ := q
   rw [hB] at hv h8
   obtain ⟨arr, g1, g2, g3, g4, _, g6⟩ := h8
   rw [bw_length] at g3 g6
   rw [bw_flat] at g6
   have g7 := raws_eq g6
   exact .inr ⟨g, cap, ⟨arr⟩, by rw [Lib.byteCells_length]; exact hv, Nat.zero_le _, g1, by rw [Lib.byteCells_length]; exact g3, g4, by simpa using g2, by rw [Lib.byteCells_length]; exact g7⟩
 ·simp only [CR] at hv
  cases hB : B m with
  | none =>
   rw [hB] at hv
   obtain ⟨h1, ao, rfl⟩ := hv
   rcases hz with hz | ⟨g, k, c', hz, hc'⟩
   ·rw [hz]; simp [Value.ownBlock]
   ·injection hz with _ _ hz; omega
  | some q =>
   obtain ⟨g, cap⟩ := q
   rw [hB] at hv
   rw [hv]
   intro e1
   simp only [Value.ownBlock, Option.some.injEq] at e1
   subst e1
   exact hnm (hi _ _ _ hb hB)
 ·exact hz
 ·simp only [CR] at hv
  cases hB : B m with
  | none =>
   rw [hB] at hv
   obtain ⟨h1, ao, rfl⟩ := hv
   rcases hz with hz | ⟨g, k, c', hz, hc'⟩
   ·rw [hz]; rfl
   ·injection hz with _ _ hz; omega
  | some q =>
   obtain ⟨g, cap⟩ := q
   rw [hB] at hv
   rw [hv]; rfl
def rowB (v : Value) : Option (Nat × Nat) := match v with | .slice (some a) _ c => some (a.block, c) | _ => none
theorem bldW_to {H : Im} {B : Bl} {w : World} {n m b c : Nat} {T e : TypeId} {v : Value} {l : List UInt8} (hB : B n = some (b, c)) (hm : B m = rowB v) (h : BldW T e b v (Lib.byteCells l) w) :
  LR H B w n (.bld T (.own m l.length)) ∧ LR H B w m (.row e 1 (bw l)) := by
 obtain ⟨⟨p, h1, h2⟩, h3, h4, h5⟩ := h
 rw [Lib.byteCells_length] at h3
 constructor
 ·refine ⟨b, c, p, v, hB, h1, h2, h5, ?_⟩
  simp only [CR, hm]
  rcases h3.2 with ⟨rfl, h6⟩ | ⟨g, cap, cur, rfl, _⟩
  ·exact ⟨h6, none, rfl⟩
  ·rfl
 ·simp only [LR, hm]
  rcases h3.2 with ⟨rfl, h6⟩ | ⟨g, cap, cur, rfl, _, g1, g2, g3, g4, g5⟩
  ·show bw l = []
   rw [List.length_eq_zero_iff.1 h6]; rfl
  ·refine ⟨cur.toList, g1, by simpa using g4, by rw [bw_length]; exact g2, g3, bw_one l, ?_⟩
   rw [bw_flat, bw_length, g5]
   exact raws_mk l

theorem frz (w : World) (g n : Nat) : (w.freeze ⟨g, 0, none⟩ n).os = w.os ∧ (w.freeze ⟨g, 0, none⟩ n).tape = w.tape ∧ (w.freeze ⟨g, 0, none⟩ n).output = w.output ∧ (w.freeze ⟨g, 0, none⟩ n).heap.size = w.heap.size ∧ ∀ k, k ≠ g → (w.freeze ⟨g, 0, none⟩ n).heap[k]? = w.heap[k]? := by
 unfold World.freeze
 split
 ·exact ⟨rfl, rfl, rfl, rfl, fun _ _ => rfl⟩
 ·refine ⟨rfl, rfl, rfl, by simp, fun k hk => ?_⟩
  simp only [Array.getElem?_modify]
  rw [if_neg (Ne.symm hk)]
theorem SBLen (La : Lays.n170 P ρ) (m : Nat) (hm : 7 ≠ m) (l : List UInt8) :
  Fn P (ρ.f 170) [(7, .bld (ρ.t 72) (.own m l.length)), (m, .row (ρ.t 5) 1 (bw l))] [vp 7 0] (vi .i64 l.length) [(7, .bld (ρ.t 72) (.own m l.length)), (m, .row (ρ.t 5) 1 (bw l))] := by
 intro w H B vals pre
 obtain ⟨a, rfl, b, c, hb, rfl⟩ := args1 pre.arg
 obtain ⟨b', c', v, hb', hw, hv⟩ := bldW_of hm (pre.loc _ List.mem_cons_self) (pre.loc _ (List.mem_cons_of_mem _ List.mem_cons_self)) (fun b c c' h1 h2 => pre.inj _ List.mem_cons_self _ (List.mem_cons_of_mem _ List.mem_cons_self) b c c' h1 h2)
 rw [hb] at hb'
 injection hb' with hb'
 obtain ⟨rfl, rfl⟩ := Prod.mk.injEq .. ▸ hb'
 refine (Any.Builder_Len La 0 b _ w hw.is).mono ?_
 rintro en w' ⟨rfl, rfl⟩
 rw [Lib.byteCells_length]
 exact ⟨_, H, B, rfl, Le.refl _, fun _ _ => rfl, pre.sat, pre.loc, fun p hp b c h => ⟨(pre.priv p hp b c h).1, (pre.priv p hp b c h).2, .inl ⟨p, hp, c, h⟩⟩, pre.inj, fun _ _ => rfl, DR.raw _ rfl, Ext.refl _ _⟩
theorem SBWrite (La : Lays.n166 P ρ) (X : Builder.Extra P ρ) (m m2 : Nat) (hm : 7 ≠ m) (h27 : m2 ≠ 7) (h2m : m2 ≠ m) (l : List UInt8) (s : ByteArray) (hs : l.length + s.size ≤ 140737488355328) :
  Fn P (ρ.f 166) [(7, .bld (ρ.t 72) (.own m l.length)), (m, .row (ρ.t 5) 1 (bw l))] [vp 7 0, vs s] (.tup [.c (.d (.raw (.int .i64 s.size))), .c (.d (.raw .nilIface))]) [(7, .bld (ρ.t 72) (.own m2 (l ++ s.data.toList).length)), (m2, .row (ρ.t 5) 1 (bw (l ++ s.data.toList)))] := by
 intro w H B vals pre
 obtain ⟨a1, a2, rfl, ⟨b, c, hb, rfl⟩, h2⟩ := args2 pre.arg
 have h2 := VR.rawI h2
 subst h2
 have hi : ∀ b c c', B 7 = some (b, c) → B m = some (b, c') → 7 = m := fun b c c' h1 h2 => pre.inj _ List.mem_cons_self _ (List.mem_cons_of_mem _ List.mem_cons_self) b c c' h1 h2
 obtain ⟨b', c', v, hb', hw, hv⟩ := bldW_of hm (pre.loc _ List.mem_cons_self) (pre.loc _ (List.mem_cons_of_mem _ List.mem_cons_self)) hi
 rw [hb] at hb'
 injection hb' with hb'
 obtain ⟨rfl, rfl⟩ := Prod.mk.injEq .. ▸ hb'
 obtain ⟨p71, p72⟩ := pre.priv _ List.mem_cons_self b c hb
 refine (wsx La X hw s (by rw [Lib.byteCells_length]; exact hs)).mono ?_
 rintro en w' ⟨rfl, v', hw', hfr, hk, k1, k2, k3, k4⟩
 rw [strCells_bytes, ← byteCells_app] at hw'
 have hHs : ∀ g, w.heap.size ≤ g → H g = none := fun g hg => by
  cases hx : H g with
  | none => rfl
  | some o => have := (Array.getElem?_eq_some_iff.1 (pre.sat g o hx)).1; omega
 have old : ∀ g, v.ownBlock = some g → ∃ c, B m = some (g, c) := fun g hg => by
  rw [hv] at hg
  cases hB : B m with
  | none => rw [hB] at hg; cases hg
  | some q => rw [hB] at hg; injection hg with hg; subst hg; exact ⟨q.2, rfl⟩
 have rowOwn : ∀ g c, rowB v' = some (g, c) → v'.ownBlock = some g := fun g c hg => by
  cases v' <;> first | (simp [rowB] at hg; done) | skip
  rename_i ao k cc
  cases ao with
  | none => simp [rowB] at hg
  | some a => simp [rowB] at hg; simp [Value.ownBlock, hg.1]
 have lt' : ∀ g, v'.ownBlock = some g → g < w'.heap.size := fun g hg => by
  rcases hw'.own.2 with ⟨h1, _⟩ | ⟨g2, cap, cur, h1, _, h3, _⟩
  ·rw [h1] at hg; cases hg
  ·rw [h1] at hg; injection hg with hg; subst hg; exact (Array.getElem?_eq_some_iff.1 h3).1
 have hB7 : (fun x => if x = m2 then rowB v' else B x) 7 = some (b, c) := by show (if 7 = m2 then _ else _) = _; rw [if_neg (Ne.symm h27)]; exact hb
 obtain ⟨l7, l9⟩ := bldW_to (H := H) (B := fun x => if x = m2 then rowB v' else B x) (n := 7) (m := m2) hB7 (by simp) hw'
 refine ⟨_, H, fun x => if x = m2 then rowB v' else B x, rfl, Le.refl _, fun _ _ => rfl, ?_, ?_, ?_, ?_, ?_, ?_, ?_⟩
 ·intro k o hko
  have h1 := pre.sat k o hko
  rw [hk k (Array.getElem?_eq_some_iff.1 h1).1 ?_ ?_]; exact h1
  ·rintro rfl; rw [p72] at hko; cases hko
  ·intro e1
   obtain ⟨c2, hc2⟩ := old k e1.symm
   have := (pre.priv _ (List.mem_cons_of_mem _ List.mem_cons_self) k c2 hc2).2
   rw [this] at hko; cases hko
 ·intro p hp
  rcases List.mem_cons.1 hp with rfl | hp
  ·exact l7
  ·rw [List.mem_singleton.1 hp]; exact l9
 ·intro p hp g c2 hg
  rcases List.mem_cons.1 hp with rfl | hp
  ·have hg' : B 7 = some (g, c2) := by have hg : (if 7 = m2 then rowB v' else B 7) = some (g, c2) := hg; rwa [if_neg (Ne.symm h27)] at hg
   rw [hb] at hg'
   injection hg' with hg'
   obtain ⟨rfl, rfl⟩ := Prod.mk.injEq .. ▸ hg'
   exact ⟨by omega, p72, .inl ⟨_, List.mem_cons_self, _, hb⟩⟩
  ·rw [List.mem_singleton.1 hp] at hg
   have hg : (if m2 = m2 then rowB v' else B m2) = some (g, c2) := hg
   rw [if_pos rfl] at hg
   have hg2 := rowOwn g c2 hg
   refine ⟨lt' g hg2, ?_, ?_⟩
   ·rcases hfr g hg2 with h1 | h1
    ·obtain ⟨c3, hc3⟩ := old g h1
     exact (pre.priv _ (List.mem_cons_of_mem _ List.mem_cons_self) g c3 hc3).2
    ·exact hHs g h1
   ·rcases hfr g hg2 with h1 | h1
    ·obtain ⟨c3, hc3⟩ := old g h1
     exact .inl ⟨_, List.mem_cons_of_mem _ List.mem_cons_self, c3, hc3⟩
    ·exact .inr h1
 ·have key : ∀ g c1 c2, B 7 = some (g, c1) → rowB v' = some (g, c2) → False := fun g c1 c2 h1 h2 => by
   rw [hb] at h1
   injection h1 with h1
   obtain ⟨rfl, rfl⟩ := Prod.mk.injEq .. ▸ h1
   exact hw'.ne (rowOwn _ _ h2)
  intro p hp q hq g c1 c2 h1 h2
  rcases List.mem_cons.1 hp with rfl | hp <;> rcases List.mem_cons.1 hq with rfl | hq
  ·rfl
  ·rw [List.mem_singleton.1 hq] at h2; have h1 : (if 7 = m2 then rowB v' else B 7) = some (g, c1) := h1; have h2 : (if m2 = m2 then rowB v' else B m2) = some (g, c2) := h2; rw [if_neg (Ne.symm h27)] at h1; rw [if_pos rfl] at h2; exact (key g c1 c2 h1 h2).elim
  ·rw [List.mem_singleton.1 hp] at h1; have h1 : (if m2 = m2 then rowB v' else B m2) = some (g, c1) := h1; have h2 : (if 7 = m2 then rowB v' else B 7) = some (g, c2) := h2; rw [if_neg (Ne.symm h27)] at h2; rw [if_pos rfl] at h1; exact (key g c2 c1 h2 h1).elim
  ·rw [List.mem_singleton.1 hp, List.mem_singleton.1 hq]
 ·intro n hn
  have : n ≠ m2 := by
   rcases hn with hn | hn
   ·rintro rfl; simp at hn; exact hn.elim h27 h2m
   ·rintro rfl; simp at hn
  show (if n = m2 then _ else _) = _
  rw [if_neg this]
 ·exact ⟨[.int .i64 s.size, .nilIface], rfl, DR.raw _ rfl, DR.raw _ rfl, trivial⟩
 ·refine ⟨k1, k2, k3, k4, fun k hk1 hk2 => hk k hk1 ?_ ?_⟩
  ·rintro rfl; exact hk2 ⟨_, List.mem_cons_self, _, hb⟩
  ·intro e1
   obtain ⟨c2, hc2⟩ := old k e1.symm
   exact hk2 ⟨_, List.mem_cons_of_mem _ List.mem_cons_self, c2, hc2⟩
theorem SBString (La : Lays.n169 P ρ) (X : Builder.Extra P ρ) (m : Nat) (hm : 7 ≠ m) (l : List UInt8) (h0 : l ≠ []) :
  Fn P (ρ.f 169) [(7, .bld (ρ.t 72) (.own m l.length)), (m, .row (ρ.t 5) 1 (bw l))] [vp 7 0] (vs ⟨l.toArray⟩) [] := by
 intro w H B vals pre
 obtain ⟨a, rfl, b, c, hb, rfl⟩ := args1 pre.arg
 obtain ⟨b', c', v, hb', hw, hv⟩ := bldW_of hm (pre.loc _ List.mem_cons_self) (pre.loc _ (List.mem_cons_of_mem _ List.mem_cons_self)) (fun b c c' h1 h2 => pre.inj _ List.mem_cons_self _ (List.mem_cons_of_mem _ List.mem_cons_self) b c c' h1 h2)
 rw [hb] at hb'
 injection hb' with hb'
 obtain ⟨rfl, rfl⟩ := Prod.mk.injEq .. ▸ hb'
 obtain ⟨p, h1, _⟩ := hw.blk
 have hl0 : l.length ≠ 0 := by simpa using h0
 have hown := hw.own
 rw [Lib.byteCells_length] at hown
 rcases hown.2 with ⟨_, hz⟩ | ⟨g, cap, cur, rfl, _, g1, g2, g3, g4, g5⟩
 ·exact absurd hz hl0
 obtain ⟨c8, h8⟩ : ∃ c8, B m = some (g, c8) := by
  cases hB : B m with
  | none => rw [hB] at hv; cases hv
  | some q =>
   rw [hB] at hv
   obtain ⟨q1, q2⟩ := q
   have e1 : g = q1 := by simpa [Value.ownBlock] using hv
   exact ⟨q2, by rw [e1]⟩
 obtain ⟨_, p82⟩ := pre.priv _ (List.mem_cons_of_mem _ List.mem_cons_self) g c8 h8
 refine (strx La X h1 g1 h0 g2 g3 (by simpa using g4) (by simpa using g5)).mono ?_
 rintro en w' ⟨rfl, rfl⟩
 obtain ⟨f1, f2, f3, f4, hk⟩ := frz w.drew g l.length
 refine ⟨_, H, B, rfl, Le.refl _, fun _ _ => rfl, fun k o hko => ?_, fun _ h => (by cases h), fun _ h => (by cases h), fun _ h => (by cases h), fun _ _ => rfl, DR.raw _ rfl, f1, f2, f3, Nat.le_of_eq f4.symm, fun k _ hk2 => hk k ?_⟩
 ·rw [hk k ?_]; exact pre.sat k o hko
  rintro rfl; rw [p82] at hko; cases hko
 ·rintro rfl; exact hk2 ⟨_, List.mem_cons_of_mem _ List.mem_cons_self, c8, h8⟩
end
section
variable {P : Program}
theorem St.nilOB {e : E} {f : F} {a : Act} {w : World} (h : St e f a w) (m n es : Nat) (ty T : TypeId) (hv : f.l m = some (.bld T (.d (.raw nilV)))) (hn : New e.K f n) : St e ((f.setL n (.row ty es [])).setL m (.bld T (.own n 0))) a w := by
 obtain ⟨H, B, hok⟩ := h
 have hmn : m ≠ n := fun e => by have := hn.2.1; rw [← e, hv] at this; cases this
 refine ⟨H, _, (hok.nilName n es ty hn).setL m (.bld T (.d (.raw nilV))) _ (by simp [F.setL, hmn, hv]) fun hu => ?_⟩
 obtain ⟨b, c, v1, v2, hb, hc, h1, h0, h2⟩ := hu
 refine ⟨b, c, v1, v2, hb, hc, h1, h0, ?_⟩
 have := VR.rawI (H := H) (B := fun x => if x = n then none else B x) h2
 subst this
 simp [CR, nilV]
theorem Op.allocB {d : Nat} (n m : Nat) (hnm : n ≠ m) (u8 : TypeId) {T ty : TypeId} {pos af gd} (hz : (P.info? T).bind (·.zero) = some (.agg #[.pointer none, .slice none 0 0])) :
  OpOk P ⟨some d, .alloc T, ty, pos, af, gd⟩ { ws := [(d, some (vp n 0))], wl := [(n, some (.bld T (.own m 0))), (m, some (.row u8 1 (bw [])))], nw := [n, m] } := by
 rintro e f a w Q hst hr hnw hb
 have hN := hnw n (by simp)
 have hM := hnw m (by simp)
 have h1 : OpOk P ⟨some d, .alloc T, ty, pos, af, gd⟩ { ws := [(d, some (vp n 0))], wl := [(n, some (.bld T (.d (.raw nilV))))], nw := [n] } := by
  refine OpOk.news d n _ _ rfl rfl rfl (by simp) fun e f H B a w hok hr hn => ?_
  refine ⟨.pointer (some ⟨w.heap.size, 0, none⟩), 0, .cells #[.pointer none, .slice none 0 0] T, ?_, ⟨w.heap.size, 0, .pointer none, .slice none 0 0, by simp, heap_alloc_new w _, .inl rfl, .inl rfl, DR.raw _ rfl⟩, ⟨w.heap.size, 0, by simp, rfl⟩⟩
  cases hi : P.info? T with
  | none => rw [hi] at hz; cases hz
  | some i =>
   rw [hi] at hz
   have hz' : i.zero = some (.agg #[.pointer none, .slice none 0 0]) := hz
   have e1 : (zeroValue T).run P w = .ok (.agg #[.pointer none, .slice none 0 0]) w := by
    unfold zeroValue typeInfo
    simp only [Sem.run_bind, run_program, Result.andThen_ok, hi, Sem.run_pure, hz']
   simp only [execOp, Instr.alloc, Sem.run_bind, e1, Result.andThen_ok, newVar, newRow, newObj, Value.cells, Sem.run_pure]
   rfl
 refine Oper.wp_imp (h1 e f a w Q hst ⟨fun p hp => (by cases hp), fun p hp => (by cases hp)⟩ (fun k hk => by rw [List.mem_singleton.1 hk]; exact hN) ⟨fun p hp => hb.1 p hp, fun h => by cases h⟩) fun a' w' h2 => ?_
 have hM' : New e.K (f.app { ws := [(d, some (vp n 0))], wl := [(n, some (.bld T (.d (.raw nilV))))], nw := [n] }) m := by
  obtain ⟨g1, g2, g3, g4⟩ := hM
  refine ⟨g1, by rw [app_l_out (by simpa using Ne.symm hnm)]; exact g2, fun t v hv => ?_, fun k l hk => ?_⟩
  ·rw [app1_s f d (some (vp n 0)) _ rfl] at hv
   split at hv
   ·injection hv with hv; subst hv; intro hx; have hx : m ∈ [n] := hx; exact hnm (List.mem_singleton.1 hx).symm
   ·exact g3 t v hv
  ·rw [app1_l f n _ _ rfl] at hk
   split at hk
   ·injection hk with hk; subst hk; intro hx; cases hx
   ·exact g4 k l hk
 refine (h2.nilOB n m 1 u8 T (by rw [app1_l f n _ _ rfl]; simp) hM').weaken ⟨fun t v hv => ?_, fun k l hk => ?_⟩
 ·show (f.app _).s t = _
  rw [app1_s f d (some (vp n 0)) _ rfl] at hv ⊢
  exact hv
 ·simp only [F.app, List.lookup] at hk
  simp only [F.setL]
  by_cases e1 : k = n
  ·subst e1; simpa using hk
  ·have g1 : (k == n) = false := by simpa using e1
   rw [g1] at hk
   rw [if_neg (by intro h; exact e1 (Nat.eq_of_beq_eq_true h))]
   by_cases e2 : k = m
   ·subst e2; simpa [bw] using hk
   ·have g2 : (k == m) = false := by simpa using e2
    rw [g2] at hk
    rw [if_neg (by intro h; exact e2 (Nat.eq_of_beq_eq_true h)), app1_l f n _ _ rfl, if_neg e1]
    exact hk
end
end Go.Proofs.YtekhnajfdaknnaaGreatDoor.S
end
section
namespace Go.Proofs.YtekhnajfdaknnaaGreatDoor.S
open Go.RowKit

theorem ug_0 : Bodied Tryz.prog 111 := Bodied.mk' (by kernel_rfl)
theorem ug_1 : Bodied Tryz.prog 112 := Bodied.mk' (by kernel_rfl)
theorem ug_5 : Bodied Tryz.prog 83 := Bodied.mk' (by kernel_rfl)
theorem ug_9 : Bodied Tryz.prog 85 := Bodied.mk' (by kernel_rfl)
theorem ug_10 : Bodied Tryz.prog 84 := Bodied.mk' (by kernel_rfl)
theorem ug_11 : Bodied Tryz.prog 86 := Bodied.mk' (by kernel_rfl)
theorem SbLen (m : Nat) (hm : 7 ≠ m) (l : List UInt8) : Fn Tryz.prog 111 [(7, .bld 97 (.own m l.length)), (m, .row 5 1 (bw l))] [vp 7 0] (vi .i64 (l.length : Int)) [(7, .bld 97 (.own m l.length)), (m, .row 5 1 (bw l))] := SBLen Tryz.lays170 m hm l
theorem SbWrite (m m2 : Nat) (hm : 7 ≠ m) (h27 : m2 ≠ 7) (h2m : m2 ≠ m) (l : List UInt8) (s : ByteArray) (hs : l.length + s.size ≤ 140737488355328) : Fn Tryz.prog 112 [(7, .bld 97 (.own m l.length)), (m, .row 5 1 (bw l))] [vp 7 0, vs s] (.tup [.c (.d (.raw (.int .i64 (s.size : Int)))), .c (.d (.raw .nilIface))]) [(7, .bld 97 (.own m2 (l ++ s.data.toList).length)), (m2, .row 5 1 (bw (l ++ s.data.toList)))] := SBWrite Tryz.lays166 Tryz.Builder_Extra_166 m m2 hm h27 h2m l s hs
theorem SbString (m : Nat) (hm : 7 ≠ m) (l : List UInt8) (h0 : l ≠ []) : Fn Tryz.prog 86 [(7, .bld 97 (.own m l.length)), (m, .row 5 1 (bw l))] [vp 7 0] (vs ⟨l.toArray⟩) [] := SBString Tryz.lays169 Tryz.Builder_Extra_169 m hm l h0
theorem bldZero : (Tryz.prog.info? 97).bind (·.zero) = some (.agg #[.pointer none, .slice none 0 0]) := by kernel_rfl
def sumW (l : List UInt8) (neg : Bool) (t : ByteArray) : List UInt8 := match (l.length : Int) == 0, neg with
  | true, true => (l ++ (⟨#[45]⟩ : ByteArray).data.toList) ++ t.data.toList
  | true, false => l ++ t.data.toList
  | false, true => (l ++ (⟨#[32, 45, 32]⟩ : ByteArray).data.toList) ++ t.data.toList
  | false, false => (l ++ (⟨#[32, 43, 32]⟩ : ByteArray).data.toList) ++ t.data.toList
theorem Ssummand (l : List UInt8) (neg : Bool) (t : ByteArray) (hl : l.length + t.size ≤ 1000000) : Fn Tryz.prog 85 [(7, .bld 97 (.own 8 l.length)), (8, .row 5 1 (bw l))] [vp 7 0, vb neg, .t (.c (.d (.raw (.string t))))] (.tup []) [(7, .bld 97 (.own 9 (sumW l neg t).length)), (9, .row 5 1 (bw (sumW l neg t)))] := by
 refine Fn.body Tryz.func85 rfl 29 rfl fun w H B a h => ?_
 refine rSeq fam0ok 10 [(1, .call (SbLen 8 (by decide) l) ug_0)] [(0, vp 7 0), (1, vb neg), (2, .t (.c (.d (.raw (.string t))))), (6, vb ((l.length : Int) == 0))] [(7, .bld 97 (.own 8 l.length)), (8, .row 5 1 (bw l))] (by kernel_rfl) h ?_; clear h; intro a w h
 refine wp_seq ?_
 refine wp_block ?_
 rcases Bool.eq_false_or_eq_true ((l.length : Int) == 0) with hc | hc
 ·have hc1 := hc; clear hc
  have hc1' := hc1; (try simp at hc1')
  rw [hc1] at h
  refine rSeq fam0ok 10 [] [(0, vp 7 0), (1, vb neg), (2, .t (.c (.d (.raw (.string t))))), (6, vb true), (10, vb neg)] [(7, .bld 97 (.own 8 l.length)), (8, .row 5 1 (bw l))] (by kernel_rfl) h ?_; clear h; intro a w h
  refine condS neg h rfl (fun hc => ?_) (fun hc => ?_)
  ·have hc2 := hc; clear hc
   refine rS fam0ok 10 [(1, .call (SbWrite 8 10 (by decide) (by decide) (by decide) l (⟨#[45]⟩ : ByteArray) (by have e1 : (⟨#[45]⟩ : ByteArray).data.toList.length = 1 := rfl; have e2 : (⟨#[32, 45, 32]⟩ : ByteArray).data.toList.length = 3 := rfl; have e3 : (⟨#[32, 43, 32]⟩ : ByteArray).data.toList.length = 3 := rfl; have e4 : (⟨#[45]⟩ : ByteArray).size = 1 := rfl; have e5 : (⟨#[32, 45, 32]⟩ : ByteArray).size = 3 := rfl; have e6 : (⟨#[32, 43, 32]⟩ : ByteArray).size = 3 := rfl; first | omega | (rw [List.length_append]; omega))) ug_1)] [(0, vp 7 0), (2, .t (.c (.d (.raw (.string t)))))] [(7, .bld 97 (.own 10 (l ++ (⟨#[45]⟩ : ByteArray).data.toList).length)), (10, .row 5 1 (bw (l ++ (⟨#[45]⟩ : ByteArray).data.toList)))] (by kernel_rfl) h ?_; clear h; intro a w h
   refine block_n ?_
   refine then_n ?_
   refine rS fam0ok 11 [(2, .call (SbWrite 10 11 (by decide) (by decide) (by decide) (l ++ (⟨#[45]⟩ : ByteArray).data.toList) t (by have e1 : (⟨#[45]⟩ : ByteArray).data.toList.length = 1 := rfl; have e2 : (⟨#[32, 45, 32]⟩ : ByteArray).data.toList.length = 3 := rfl; have e3 : (⟨#[32, 43, 32]⟩ : ByteArray).data.toList.length = 3 := rfl; have e4 : (⟨#[45]⟩ : ByteArray).size = 1 := rfl; have e5 : (⟨#[32, 45, 32]⟩ : ByteArray).size = 3 := rfl; have e6 : (⟨#[32, 43, 32]⟩ : ByteArray).size = 3 := rfl; first | omega | (rw [List.length_append]; omega))) ug_1)] [] [(7, .bld 97 (.own 11 ((l ++ (⟨#[45]⟩ : ByteArray).data.toList) ++ t.data.toList).length)), (11, .row 5 1 (bw ((l ++ (⟨#[45]⟩ : ByteArray).data.toList) ++ t.data.toList)))] (by kernel_rfl) h ?_; clear h; intro a w h
   replace h := renS 11 9 [] [(7, .bld 97 (.own 9 ((l ++ (⟨#[45]⟩ : ByteArray).data.toList) ++ t.data.toList).length)), (9, .row 5 1 (bw ((l ++ (⟨#[45]⟩ : ByteArray).data.toList) ++ t.data.toList)))] h (by kernel_rfl) (by kernel_rfl) (by kernel_rfl)
   replace h := h.conv (f' := F.of [] [(7, .bld 97 (.own 9 (sumW l neg t).length)), (9, .row 5 1 (bw (sumW l neg t)))]) (congrArg (fun (z_ : List UInt8) => F.of [] [(7, .bld 97 (.own 9 z_.length)), (9, .row 5 1 (bw z_))]) (show ((l ++ (⟨#[45]⟩ : ByteArray).data.toList) ++ t.data.toList) = sumW l neg t from by unfold sumW; simp only [hc1, hc2]))
   refine retS [] h Exit.normal (.inr rfl)  rfl trivial ?_ (by kernel_rfl) (by kernel_rfl)
   rfl
  ·have hc3 := hc; clear hc
   refine rSeq fam0ok 12 [] [(0, vp 7 0), (2, .t (.c (.d (.raw (.string t))))), (6, vb true), (17, vb neg)] [(7, .bld 97 (.own 8 l.length)), (8, .row 5 1 (bw l))] (by kernel_rfl) h ?_; clear h; intro a w h
   refine condS neg h rfl (fun hc => ?_) (fun hc => ?_)
   ·rw [hc3] at hc; cases hc
   ·clear hc
    refine rSeq fam0ok 12 [] [(0, vp 7 0), (2, .t (.c (.d (.raw (.string t))))), (21, vb false)] [(7, .bld 97 (.own 8 l.length)), (8, .row 5 1 (bw l))] (by kernel_rfl) h ?_; clear h; intro a w h
    refine condS false h rfl (fun hc => ?_) (fun hc => ?_)
    ·cases hc
    ·clear hc
     refine wp_skip ?_
     refine block_n ?_
     refine then_n ?_
     refine rS fam0ok 12 [(2, .call (SbWrite 8 12 (by decide) (by decide) (by decide) l t (by have e1 : (⟨#[45]⟩ : ByteArray).data.toList.length = 1 := rfl; have e2 : (⟨#[32, 45, 32]⟩ : ByteArray).data.toList.length = 3 := rfl; have e3 : (⟨#[32, 43, 32]⟩ : ByteArray).data.toList.length = 3 := rfl; have e4 : (⟨#[45]⟩ : ByteArray).size = 1 := rfl; have e5 : (⟨#[32, 45, 32]⟩ : ByteArray).size = 3 := rfl; have e6 : (⟨#[32, 43, 32]⟩ : ByteArray).size = 3 := rfl; first | omega | (rw [List.length_append]; omega))) ug_1)] [] [(7, .bld 97 (.own 12 (l ++ t.data.toList).length)), (12, .row 5 1 (bw (l ++ t.data.toList)))] (by kernel_rfl) h ?_; clear h; intro a w h
     replace h := renS 12 9 [] [(7, .bld 97 (.own 9 (l ++ t.data.toList).length)), (9, .row 5 1 (bw (l ++ t.data.toList)))] h (by kernel_rfl) (by kernel_rfl) (by kernel_rfl)
     replace h := h.conv (f' := F.of [] [(7, .bld 97 (.own 9 (sumW l neg t).length)), (9, .row 5 1 (bw (sumW l neg t)))]) (congrArg (fun (z_ : List UInt8) => F.of [] [(7, .bld 97 (.own 9 z_.length)), (9, .row 5 1 (bw z_))]) (show (l ++ t.data.toList) = sumW l neg t from by unfold sumW; simp only [hc1, hc3]))
     refine retS [] h Exit.normal (.inr rfl)  rfl trivial ?_ (by kernel_rfl) (by kernel_rfl)
     rfl
 ·have hc4 := hc; clear hc
  have hc4' := hc4; (try simp at hc4')
  rw [hc4] at h
  refine rSeq fam0ok 13 [] [(0, vp 7 0), (1, vb neg), (2, .t (.c (.d (.raw (.string t))))), (6, vb false), (10, vb false)] [(7, .bld 97 (.own 8 l.length)), (8, .row 5 1 (bw l))] (by kernel_rfl) h ?_; clear h; intro a w h
  refine condS false h rfl (fun hc => ?_) (fun hc => ?_)
  ·cases hc
  ·clear hc
   refine rSeq fam0ok 13 [] [(0, vp 7 0), (2, .t (.c (.d (.raw (.string t))))), (6, vb false), (17, vb neg)] [(7, .bld 97 (.own 8 l.length)), (8, .row 5 1 (bw l))] (by kernel_rfl) h ?_; clear h; intro a w h
   refine condS neg h rfl (fun hc => ?_) (fun hc => ?_)
   ·have hc5 := hc; clear hc
    refine rS fam0ok 13 [(1, .call (SbWrite 8 13 (by decide) (by decide) (by decide) l (⟨#[32, 45, 32]⟩ : ByteArray) (by have e1 : (⟨#[45]⟩ : ByteArray).data.toList.length = 1 := rfl; have e2 : (⟨#[32, 45, 32]⟩ : ByteArray).data.toList.length = 3 := rfl; have e3 : (⟨#[32, 43, 32]⟩ : ByteArray).data.toList.length = 3 := rfl; have e4 : (⟨#[45]⟩ : ByteArray).size = 1 := rfl; have e5 : (⟨#[32, 45, 32]⟩ : ByteArray).size = 3 := rfl; have e6 : (⟨#[32, 43, 32]⟩ : ByteArray).size = 3 := rfl; first | omega | (rw [List.length_append]; omega))) ug_1)] [(0, vp 7 0), (2, .t (.c (.d (.raw (.string t)))))] [(7, .bld 97 (.own 13 (l ++ (⟨#[32, 45, 32]⟩ : ByteArray).data.toList).length)), (13, .row 5 1 (bw (l ++ (⟨#[32, 45, 32]⟩ : ByteArray).data.toList)))] (by kernel_rfl) h ?_; clear h; intro a w h
    refine block_n ?_
    refine then_n ?_
    refine rS fam0ok 14 [(2, .call (SbWrite 13 14 (by decide) (by decide) (by decide) (l ++ (⟨#[32, 45, 32]⟩ : ByteArray).data.toList) t (by have e1 : (⟨#[45]⟩ : ByteArray).data.toList.length = 1 := rfl; have e2 : (⟨#[32, 45, 32]⟩ : ByteArray).data.toList.length = 3 := rfl; have e3 : (⟨#[32, 43, 32]⟩ : ByteArray).data.toList.length = 3 := rfl; have e4 : (⟨#[45]⟩ : ByteArray).size = 1 := rfl; have e5 : (⟨#[32, 45, 32]⟩ : ByteArray).size = 3 := rfl; have e6 : (⟨#[32, 43, 32]⟩ : ByteArray).size = 3 := rfl; first | omega | (rw [List.length_append]; omega))) ug_1)] [] [(7, .bld 97 (.own 14 ((l ++ (⟨#[32, 45, 32]⟩ : ByteArray).data.toList) ++ t.data.toList).length)), (14, .row 5 1 (bw ((l ++ (⟨#[32, 45, 32]⟩ : ByteArray).data.toList) ++ t.data.toList)))] (by kernel_rfl) h ?_; clear h; intro a w h
    replace h := renS 14 9 [] [(7, .bld 97 (.own 9 ((l ++ (⟨#[32, 45, 32]⟩ : ByteArray).data.toList) ++ t.data.toList).length)), (9, .row 5 1 (bw ((l ++ (⟨#[32, 45, 32]⟩ : ByteArray).data.toList) ++ t.data.toList)))] h (by kernel_rfl) (by kernel_rfl) (by kernel_rfl)
    replace h := h.conv (f' := F.of [] [(7, .bld 97 (.own 9 (sumW l neg t).length)), (9, .row 5 1 (bw (sumW l neg t)))]) (congrArg (fun (z_ : List UInt8) => F.of [] [(7, .bld 97 (.own 9 z_.length)), (9, .row 5 1 (bw z_))]) (show ((l ++ (⟨#[32, 45, 32]⟩ : ByteArray).data.toList) ++ t.data.toList) = sumW l neg t from by unfold sumW; simp only [hc4, hc5]))
    refine retS [] h Exit.normal (.inr rfl)  rfl trivial ?_ (by kernel_rfl) (by kernel_rfl)
    rfl
   ·have hc6 := hc; clear hc
    refine rSeq fam0ok 15 [] [(0, vp 7 0), (2, .t (.c (.d (.raw (.string t))))), (21, vb true)] [(7, .bld 97 (.own 8 l.length)), (8, .row 5 1 (bw l))] (by kernel_rfl) h ?_; clear h; intro a w h
    refine condS true h rfl (fun hc => ?_) (fun hc => ?_)
    ·clear hc
     refine rS fam0ok 15 [(1, .call (SbWrite 8 15 (by decide) (by decide) (by decide) l (⟨#[32, 43, 32]⟩ : ByteArray) (by have e1 : (⟨#[45]⟩ : ByteArray).data.toList.length = 1 := rfl; have e2 : (⟨#[32, 45, 32]⟩ : ByteArray).data.toList.length = 3 := rfl; have e3 : (⟨#[32, 43, 32]⟩ : ByteArray).data.toList.length = 3 := rfl; have e4 : (⟨#[45]⟩ : ByteArray).size = 1 := rfl; have e5 : (⟨#[32, 45, 32]⟩ : ByteArray).size = 3 := rfl; have e6 : (⟨#[32, 43, 32]⟩ : ByteArray).size = 3 := rfl; first | omega | (rw [List.length_append]; omega))) ug_1)] [(0, vp 7 0), (2, .t (.c (.d (.raw (.string t)))))] [(7, .bld 97 (.own 15 (l ++ (⟨#[32, 43, 32]⟩ : ByteArray).data.toList).length)), (15, .row 5 1 (bw (l ++ (⟨#[32, 43, 32]⟩ : ByteArray).data.toList)))] (by kernel_rfl) h ?_; clear h; intro a w h
     refine block_n ?_
     refine then_n ?_
     refine rS fam0ok 16 [(2, .call (SbWrite 15 16 (by decide) (by decide) (by decide) (l ++ (⟨#[32, 43, 32]⟩ : ByteArray).data.toList) t (by have e1 : (⟨#[45]⟩ : ByteArray).data.toList.length = 1 := rfl; have e2 : (⟨#[32, 45, 32]⟩ : ByteArray).data.toList.length = 3 := rfl; have e3 : (⟨#[32, 43, 32]⟩ : ByteArray).data.toList.length = 3 := rfl; have e4 : (⟨#[45]⟩ : ByteArray).size = 1 := rfl; have e5 : (⟨#[32, 45, 32]⟩ : ByteArray).size = 3 := rfl; have e6 : (⟨#[32, 43, 32]⟩ : ByteArray).size = 3 := rfl; first | omega | (rw [List.length_append]; omega))) ug_1)] [] [(7, .bld 97 (.own 16 ((l ++ (⟨#[32, 43, 32]⟩ : ByteArray).data.toList) ++ t.data.toList).length)), (16, .row 5 1 (bw ((l ++ (⟨#[32, 43, 32]⟩ : ByteArray).data.toList) ++ t.data.toList)))] (by kernel_rfl) h ?_; clear h; intro a w h
     replace h := renS 16 9 [] [(7, .bld 97 (.own 9 ((l ++ (⟨#[32, 43, 32]⟩ : ByteArray).data.toList) ++ t.data.toList).length)), (9, .row 5 1 (bw ((l ++ (⟨#[32, 43, 32]⟩ : ByteArray).data.toList) ++ t.data.toList)))] h (by kernel_rfl) (by kernel_rfl) (by kernel_rfl)
     replace h := h.conv (f' := F.of [] [(7, .bld 97 (.own 9 (sumW l neg t).length)), (9, .row 5 1 (bw (sumW l neg t)))]) (congrArg (fun (z_ : List UInt8) => F.of [] [(7, .bld 97 (.own 9 z_.length)), (9, .row 5 1 (bw z_))]) (show ((l ++ (⟨#[32, 43, 32]⟩ : ByteArray).data.toList) ++ t.data.toList) = sumW l neg t from by unfold sumW; simp only [hc4, hc6]))
     refine retS [] h Exit.normal (.inr rfl)  rfl trivial ?_ (by kernel_rfl) (by kernel_rfl)
     rfl
    ·cases hc
def lkW (j : Nat) : List UInt8 := if j = 0 then [] else [45, 120]
theorem lkW_len (j : Nat) : (lkW j).length ≤ 2 := by unfold lkW; split <;> simp
theorem text_plain : plainT (ofT 2 [(-1)]) = ofT 2 [(-1)] := by
 refine plainT_eq (by simp [ofT, ofP]) (by simp [ofT, ofP, ZI.val_of]) (fun v => rfl) (by simp [ofT, ZI.val_of])
theorem text_at (j : Nat) (hj : j = 0) : ∃ x : Part, (ofT 2 [(-1)]).parts[j]? = some x ∧ x = ⟨0, ZI.of (-1)⟩ := by subst hj; exact ⟨_, rfl, rfl⟩
theorem text_sum1 (j : Nat) (hj : j = 0) : sumW (lkW j) true (⟨#[120]⟩ : ByteArray) = lkW (j + 1) := by subst hj; rfl
theorem text_sum2 (j : Nat) (hj : j = 1) : sumW (lkW j) false (⟨#[50]⟩ : ByteArray) = [45, 120, 32, 43, 32, 50] := by subst hj; rfl
set_option maxHeartbeats 4000000 in
theorem SText2x  : Fn Tryz.prog 46 [] [.t (.agg ([.d (.sl 3 ((ofT 2 [(-1)]).parts.map Part.d))] ++ zi (ofT 2 [(-1)]).k)), .t (.c (.d (.sl 1 ([(⟨#[120]⟩ : ByteArray)].map strD))))] (vs (⟨#[45, 120, 32, 43, 32, 50]⟩ : ByteArray)) [] := by
 have lk2 : (ofT 2 [(-1)]).k.abs.length ≤ 2 := ZI.len_of (by have := pw2; omega)
 refine Fn.body Tryz.func46 rfl 62 rfl fun w H B a h => ?_
 refine rSeq fam0ok 10 [] [(1, .t (.c (.d (.sl 1 ([(⟨#[120]⟩ : ByteArray)].map strD))))), (2, vp 10 0), (4, .t (.c (.d (.raw (.string ByteArray.empty)))))] [(10, .box ([.d (.sl 3 ((ofT 2 [(-1)]).parts.map Part.d))] ++ zi (ofT 2 [(-1)]).k))] (by kernel_rfl) h ?_; clear h; intro a w h
 refine rSeq fam0ok 11 [(1, .call (Fn.cast (SPlain (ofT 2 [(-1)]) (ofT_ok 2 [(-1)] (by decide) (by decide) (by decide)) (by decide) (by decide)) (congrArg (fun t => vd (Term.d t)) text_plain)) tm_7)] [(1, .t (.c (.d (.sl 1 ([(⟨#[120]⟩ : ByteArray)].map strD))))), (2, vp 10 0), (4, .t (.c (.d (.raw (.string ByteArray.empty)))))] [(10, .box ([.d (.sl 3 ((ofT 2 [(-1)]).parts.map Part.d))] ++ zi (ofT 2 [(-1)]).k))] (by kernel_rfl) h ?_; clear h; intro a w h
 refine rSeq fam0ok 11 [(0, .gen _ _ _ fun _ _ _ _ => Op.allocB (d := 5) 7 8 (by decide) 5 bldZero)] [(1, .t (.c (.d (.sl 1 ([(⟨#[120]⟩ : ByteArray)].map strD))))), (2, vp 10 0), (4, .t (.c (.d (.raw (.string ByteArray.empty))))), (5, vp 7 0)] [(10, .box ([.d (.sl 3 ((ofT 2 [(-1)]).parts.map Part.d))] ++ zi (ofT 2 [(-1)]).k)), (7, .bld 97 (.own 8 0)), (8, .row 5 1 (bw []))] (by kernel_rfl) h ?_; clear h; intro a w h
 refine wp_seq ?_
 refine rSeq fam0ok 11 [(2, .len (c := (.d (.sl 3 ((ofT 2 [(-1)]).parts.map Part.d)))) (n := (ofT 2 [(-1)]).parts.length) (lenC_map _ _ _))] [(1, .t (.c (.d (.sl 1 ([(⟨#[120]⟩ : ByteArray)].map strD))))), (2, vp 10 0), (4, .t (.c (.d (.raw (.string ByteArray.empty))))), (5, vp 7 0), (13, .t (.c (.d (.sl 3 ((ofT 2 [(-1)]).parts.map Part.d))))), (14, vi .i64 ((ofT 2 [(-1)]).parts.length : Int)), (15, vi .i64 0)] [(10, .box ([.d (.sl 3 ((ofT 2 [(-1)]).parts.map Part.d))] ++ zi (ofT 2 [(-1)]).k)), (7, .bld 97 (.own 8 0)), (8, .row 5 1 (bw []))] (by kernel_rfl) h ?_; clear h; intro a w h
 refine wp_block ?_
 refine loopS (ι := (Nat)) (fun (z_ : (Nat)) => match z_ with | j => j ≤ 1)
   (fun (z_ : (Nat)) => match z_ with | j => [(1, .t (.c (.d (.sl 1 ([(⟨#[120]⟩ : ByteArray)].map strD))))), (2, vp 10 0), (4, .t (.c (.d (.raw (.string ByteArray.empty))))), (5, vp 7 0), (13, .t (.c (.d (.sl 3 ((ofT 2 [(-1)]).parts.map Part.d))))), (14, vi .i64 ((ofT 2 [(-1)]).parts.length : Int)), (15, vi .i64 (j : Int))])
   (fun (z_ : (Nat)) => match z_ with | j => [(10, .box ([.d (.sl 3 ((ofT 2 [(-1)]).parts.map Part.d))] ++ zi (ofT 2 [(-1)]).k)), (7, .bld 97 (.own 8 (lkW j).length)), (8, .row 5 1 (bw (lkW j)))])
   (fun (z_ : (Nat)) => match z_ with | j => 1 - j) 0 ?_ h (by kernel_rfl) (by kernel_rfl) ?_
 ·exact Nat.zero_le _
 ·clear h; rintro j a w hI h
  change St _ (F.of [(1, .t (.c (.d (.sl 1 ([(⟨#[120]⟩ : ByteArray)].map strD))))), (2, vp 10 0), (4, .t (.c (.d (.raw (.string ByteArray.empty))))), (5, vp 7 0), (13, .t (.c (.d (.sl 3 ((ofT 2 [(-1)]).parts.map Part.d))))), (14, vi .i64 ((ofT 2 [(-1)]).parts.length : Int)), (15, vi .i64 (j : Int))] [(10, .box ([.d (.sl 3 ((ofT 2 [(-1)]).parts.map Part.d))] ++ zi (ofT 2 [(-1)]).k)), (7, .bld 97 (.own 8 (lkW j).length)), (8, .row 5 1 (bw (lkW j)))]) a w at h
  refine rSeq fam0ok 11 [] [(1, .t (.c (.d (.sl 1 ([(⟨#[120]⟩ : ByteArray)].map strD))))), (2, vp 10 0), (4, .t (.c (.d (.raw (.string ByteArray.empty))))), (5, vp 7 0), (13, .t (.c (.d (.sl 3 ((ofT 2 [(-1)]).parts.map Part.d))))), (14, vi .i64 ((ofT 2 [(-1)]).parts.length : Int)), (15, vi .i64 (j : Int)), (16, vb (decide ((j : Int) < ((ofT 2 [(-1)]).parts.length : Int))))] [(10, .box ([.d (.sl 3 ((ofT 2 [(-1)]).parts.map Part.d))] ++ zi (ofT 2 [(-1)]).k)), (7, .bld 97 (.own 8 (lkW j).length)), (8, .row 5 1 (bw (lkW j)))] (by kernel_rfl) h ?_; clear h; intro a w h
  refine wp_seq ?_
  refine condS (decide ((j : Int) < ((ofT 2 [(-1)]).parts.length : Int))) h rfl (fun hc => ?_) (fun hc => ?_)
  ·have hc1 := hc; clear hc
   have hc1' := of_decide_eq_true hc1
   refine wp_skip ?_
   refine then_n ?_
   refine wp_seq ?_
   refine wp_block ?_
   have hj0 : j = 0 := by have : (ofT 2 [(-1)]).parts.length = 1 := rfl; omega
   obtain ⟨x2, hx2, gx2⟩ := text_at j hj0
   have ox2 : Lb x2.c.abs := by rw [gx2]; exact ZI.lb_of _
   have lx2 : x2.c.abs.length ≤ 2 := by rw [gx2]; exact ZI.len_of (by have := pw2; omega)
   have vx2 : x2.c.val = -1 := by rw [gx2]; exact ZI.val_of _
   have wx2 : x2.v = 0 := by rw [gx2]
   refine rSeq fam0ok 11 [(0, .gen _ _ _ fun _ _ _ _ => Op.idxD (d := 17) (t := 13) (k := .i64) ta_0 (map_at hx2 (f := Part.d)) (OV.tmp 15 _))] [(1, .t (.c (.d (.sl 1 ([(⟨#[120]⟩ : ByteArray)].map strD))))), (2, vp 10 0), (4, .t (.c (.d (.raw (.string ByteArray.empty))))), (5, vp 7 0), (7, vp 11 0), (13, .t (.c (.d (.sl 3 ((ofT 2 [(-1)]).parts.map Part.d))))), (14, vi .i64 ((ofT 2 [(-1)]).parts.length : Int)), (15, vi .i64 (j : Int))] [(10, .box ([.d (.sl 3 ((ofT 2 [(-1)]).parts.map Part.d))] ++ zi (ofT 2 [(-1)]).k)), (7, .bld 97 (.own 8 (lkW j).length)), (8, .row 5 1 (bw (lkW j))), (11, .box ([.d (.raw (.int .i64 x2.v))] ++ zi x2.c))] (by kernel_rfl) h ?_; clear h; intro a w h
   refine rSeq fam0ok 12 [(3, .call ((show Fn _ _ _ [vi .i64 x2.v, _] _ _ from by rw [wx2]; exact SName0)) ty_18)] [(1, .t (.c (.d (.sl 1 ([(⟨#[120]⟩ : ByteArray)].map strD))))), (2, vp 10 0), (4, .t (.c (.d (.raw (.string ByteArray.empty))))), (5, vp 7 0), (7, vp 11 0), (8, .t (.c (.d (.raw (.string (⟨#[120]⟩ : ByteArray)))))), (13, .t (.c (.d (.sl 3 ((ofT 2 [(-1)]).parts.map Part.d))))), (14, vi .i64 ((ofT 2 [(-1)]).parts.length : Int)), (15, vi .i64 (j : Int))] [(10, .box ([.d (.sl 3 ((ofT 2 [(-1)]).parts.map Part.d))] ++ zi (ofT 2 [(-1)]).k)), (7, .bld 97 (.own 8 (lkW j).length)), (8, .row 5 1 (bw (lkW j))), (11, .box ([.d (.raw (.int .i64 x2.v))] ++ zi x2.c))] (by kernel_rfl) h ?_; clear h; intro a w h
   refine wp_seq ?_
   obtain ⟨r4, er4, vr4, or4, lr4⟩ := mkZ (v := (x2.c.val.natAbs : Int)) (m := x2.c.abs.length) (len_abs ox2)
   refine rSeq fam0ok 12 [(2, .call (Fn.cast (SAbs x2.c ox2 (by omega)) (congrArg vz er4.symm)) ug_5)] [(1, .t (.c (.d (.sl 1 ([(⟨#[120]⟩ : ByteArray)].map strD))))), (2, vp 10 0), (4, .t (.c (.d (.raw (.string ByteArray.empty))))), (5, vp 7 0), (7, vp 11 0), (8, .t (.c (.d (.raw (.string (⟨#[120]⟩ : ByteArray)))))), (9, vp 12 0), (13, .t (.c (.d (.sl 3 ((ofT 2 [(-1)]).parts.map Part.d))))), (14, vi .i64 ((ofT 2 [(-1)]).parts.length : Int)), (15, vi .i64 (j : Int))] [(10, .box ([.d (.sl 3 ((ofT 2 [(-1)]).parts.map Part.d))] ++ zi (ofT 2 [(-1)]).k)), (7, .bld 97 (.own 8 (lkW j).length)), (8, .row 5 1 (bw (lkW j))), (11, .box ([.d (.raw (.int .i64 x2.v))] ++ zi x2.c)), (12, .box (zi r4))] (by kernel_rfl) h ?_; clear h; intro a w h
   obtain ⟨r5, er5, vr5, or5, lr5⟩ := mkZ (v := 1) (m := 2) (ZI.len_of (by have := pw2; omega))
   refine rSeq fam0ok 13 [(1, .call (Fn.cast (SOf 1 ⟨by omega, by omega⟩) (congrArg vz er5.symm)) tm_10), (2, .call (Fn.cast (SCmp r4 r5 or4 or5 (by omega) (by omega)) (congrArg (vi .i64) (cmpZ_eq (by rw [vr4, vr5, vx2]; first | done | rfl)))) tx_2), (3, .cmp (op := .neq) (m := 0) (n := 0) (b := false) .i64 rfl)] [(1, .t (.c (.d (.sl 1 ([(⟨#[120]⟩ : ByteArray)].map strD))))), (2, vp 10 0), (4, .t (.c (.d (.raw (.string ByteArray.empty))))), (5, vp 7 0), (7, vp 11 0), (8, .t (.c (.d (.raw (.string (⟨#[120]⟩ : ByteArray)))))), (9, vp 12 0), (13, .t (.c (.d (.sl 3 ((ofT 2 [(-1)]).parts.map Part.d))))), (14, vi .i64 ((ofT 2 [(-1)]).parts.length : Int)), (15, vi .i64 (j : Int)), (29, vb false)] [(10, .box ([.d (.sl 3 ((ofT 2 [(-1)]).parts.map Part.d))] ++ zi (ofT 2 [(-1)]).k)), (7, .bld 97 (.own 8 (lkW j).length)), (8, .row 5 1 (bw (lkW j))), (11, .box ([.d (.raw (.int .i64 x2.v))] ++ zi x2.c)), (12, .box (zi r4))] (by kernel_rfl) h ?_; clear h; intro a w h
   refine condS false h rfl (fun hc => ?_) (fun hc => ?_)
   ·cases hc
   ·clear hc
    refine wp_skip ?_
    refine then_n ?_
    refine rS fam0ok 13 [(2, .call (Fn.cast (SSign x2.c ox2 (by omega)) (congrArg (vi .i64) (by rw [vx2]; first | done | rfl))) td_6), (3, .cmp (op := .lss) (m := (-1)) (n := 0) (b := true) .i64 rfl), (5, .call (Ssummand (lkW j) true (⟨#[120]⟩ : ByteArray) (by have := lkW_len j; have : ((⟨#[120]⟩ : ByteArray)).size = 1 := rfl; omega)) ug_9)] [(1, .t (.c (.d (.sl 1 ([(⟨#[120]⟩ : ByteArray)].map strD))))), (2, vp 10 0), (4, .t (.c (.d (.raw (.string ByteArray.empty))))), (5, vp 7 0), (13, .t (.c (.d (.sl 3 ((ofT 2 [(-1)]).parts.map Part.d))))), (14, vi .i64 ((ofT 2 [(-1)]).parts.length : Int)), (15, vi .i64 (j : Int))] [(10, .box ([.d (.sl 3 ((ofT 2 [(-1)]).parts.map Part.d))] ++ zi (ofT 2 [(-1)]).k)), (7, .bld 97 (.own 9 (sumW (lkW j) true (⟨#[120]⟩ : ByteArray)).length)), (9, .row 5 1 (bw (sumW (lkW j) true (⟨#[120]⟩ : ByteArray))))] (by kernel_rfl) h ?_; clear h; intro a w h
    refine block_n ?_
    refine then_n ?_
    replace h := renS 9 8 [(1, .t (.c (.d (.sl 1 ([(⟨#[120]⟩ : ByteArray)].map strD))))), (2, vp 10 0), (4, .t (.c (.d (.raw (.string ByteArray.empty))))), (5, vp 7 0), (13, .t (.c (.d (.sl 3 ((ofT 2 [(-1)]).parts.map Part.d))))), (14, vi .i64 ((ofT 2 [(-1)]).parts.length : Int)), (15, vi .i64 (j : Int))] [(10, .box ([.d (.sl 3 ((ofT 2 [(-1)]).parts.map Part.d))] ++ zi (ofT 2 [(-1)]).k)), (7, .bld 97 (.own 8 (sumW (lkW j) true (⟨#[120]⟩ : ByteArray)).length)), (8, .row 5 1 (bw (sumW (lkW j) true (⟨#[120]⟩ : ByteArray))))] h (by kernel_rfl) (by kernel_rfl) (by kernel_rfl)
    refine rS fam0ok 13 [(0, .add .i64 (m := (j : Int)) (n := 1) (i64_id (by omega) (by omega)))] [(1, .t (.c (.d (.sl 1 ([(⟨#[120]⟩ : ByteArray)].map strD))))), (2, vp 10 0), (4, .t (.c (.d (.raw (.string ByteArray.empty))))), (5, vp 7 0), (13, .t (.c (.d (.sl 3 ((ofT 2 [(-1)]).parts.map Part.d))))), (14, vi .i64 ((ofT 2 [(-1)]).parts.length : Int)), (15, vi .i64 ((j : Int) + 1))] [(10, .box ([.d (.sl 3 ((ofT 2 [(-1)]).parts.map Part.d))] ++ zi (ofT 2 [(-1)]).k)), (7, .bld 97 (.own 8 (sumW (lkW j) true (⟨#[120]⟩ : ByteArray)).length)), (8, .row 5 1 (bw (sumW (lkW j) true (⟨#[120]⟩ : ByteArray))))] (by kernel_rfl) h ?_; clear h; intro a w h
    refine then_n ?_
    replace h := h.conv (f' := F.of [(1, .t (.c (.d (.sl 1 ([(⟨#[120]⟩ : ByteArray)].map strD))))), (2, vp 10 0), (4, .t (.c (.d (.raw (.string ByteArray.empty))))), (5, vp 7 0), (13, .t (.c (.d (.sl 3 ((ofT 2 [(-1)]).parts.map Part.d))))), (14, vi .i64 ((ofT 2 [(-1)]).parts.length : Int)), (15, vi .i64 ((j : Int) + 1))] [(10, .box ([.d (.sl 3 ((ofT 2 [(-1)]).parts.map Part.d))] ++ zi (ofT 2 [(-1)]).k)), (7, .bld 97 (.own 8 (lkW (j + 1)).length)), (8, .row 5 1 (bw (lkW (j + 1))))]) (congrArg (fun (z_ : List UInt8) => F.of [(1, .t (.c (.d (.sl 1 ([(⟨#[120]⟩ : ByteArray)].map strD))))), (2, vp 10 0), (4, .t (.c (.d (.raw (.string ByteArray.empty))))), (5, vp 7 0), (13, .t (.c (.d (.sl 3 ((ofT 2 [(-1)]).parts.map Part.d))))), (14, vi .i64 ((ofT 2 [(-1)]).parts.length : Int)), (15, vi .i64 ((j : Int) + 1))] [(10, .box ([.d (.sl 3 ((ofT 2 [(-1)]).parts.map Part.d))] ++ zi (ofT 2 [(-1)]).k)), (7, .bld 97 (.own 8 z_.length)), (8, .row 5 1 (bw z_))]) (show ((sumW (lkW j) true (⟨#[120]⟩ : ByteArray)) : List UInt8) = (lkW (j + 1)) from text_sum1 j hj0))
    refine roundS (x := j) (y := j + 1) h ?_ ?_ (by kernel_rfl) (by kernel_rfl)
    ·show j + 1 ≤ 1
     omega
    ·show 1 - (j + 1) < 1 - j
     omega
  ·have hc2 := hc; clear hc
   have hc2' := of_decide_eq_false hc2
   refine wp_exit ?_
   refine then_x ?_
   refine then_x ?_
   refine inBlock_exit ?_
   refine then_n ?_
   refine wp_seq ?_
   refine rSeq fam0ok 13 [(2, .call (Fn.cast (SSign (ofT 2 [(-1)]).k (ZI.lb_of _) (by omega)) (congrArg (vi .i64) (by rw [show (ofT 2 [(-1)]).k.val = 2 from ZI.val_of _]; first | done | rfl))) td_6), (3, .cmp (op := .neq) (m := 1) (n := 0) (b := true) .i64 rfl)] [(2, vp 10 0), (4, .t (.c (.d (.raw (.string ByteArray.empty))))), (5, vp 7 0), (51, vb true)] [(10, .box ([.d (.sl 3 ((ofT 2 [(-1)]).parts.map Part.d))] ++ zi (ofT 2 [(-1)]).k)), (7, .bld 97 (.own 8 (lkW j).length)), (8, .row 5 1 (bw (lkW j)))] (by kernel_rfl) h ?_; clear h; intro a w h
   refine condS true h rfl (fun hc => ?_) (fun hc => ?_)
   ·clear hc
    obtain ⟨r11, er11, vr11, or11, lr11⟩ := mkZ (v := ((ofT 2 [(-1)]).k.val.natAbs : Int)) (m := (ofT 2 [(-1)]).k.abs.length) (len_abs (ZI.lb_of _))
    refine rS fam0ok 13 [(2, .call (Fn.cast (SSign (ofT 2 [(-1)]).k (ZI.lb_of _) (by omega)) (congrArg (vi .i64) (by rw [show (ofT 2 [(-1)]).k.val = 2 from ZI.val_of _]; first | done | rfl))) td_6), (3, .cmp (op := .lss) (m := 1) (n := 0) (b := false) .i64 rfl), (6, .call (Fn.cast (SAbs (ofT 2 [(-1)]).k (ZI.lb_of _) (by omega)) (congrArg vz er11.symm)) ug_5), (7, .call (SzText2 r11 or11 (by omega) (by rw [vr11, show (ofT 2 [(-1)]).k.val = 2 from ZI.val_of _]; first | done | rfl)) ug_10), (8, .call (Ssummand (lkW j) false (⟨#[50]⟩ : ByteArray) (by have := lkW_len j; have : ((⟨#[50]⟩ : ByteArray)).size = 1 := rfl; omega)) ug_9)] [(4, .t (.c (.d (.raw (.string ByteArray.empty))))), (5, vp 7 0)] [(7, .bld 97 (.own 9 (sumW (lkW j) false (⟨#[50]⟩ : ByteArray)).length)), (9, .row 5 1 (bw (sumW (lkW j) false (⟨#[50]⟩ : ByteArray))))] (by kernel_rfl) h ?_; clear h; intro a w h
    refine then_n ?_
    replace h := renS 9 8 [(4, .t (.c (.d (.raw (.string ByteArray.empty))))), (5, vp 7 0)] [(7, .bld 97 (.own 8 (sumW (lkW j) false (⟨#[50]⟩ : ByteArray)).length)), (8, .row 5 1 (bw (sumW (lkW j) false (⟨#[50]⟩ : ByteArray))))] h (by kernel_rfl) (by kernel_rfl) (by kernel_rfl)
    replace h := h.conv (f' := F.of [(4, .t (.c (.d (.raw (.string ByteArray.empty))))), (5, vp 7 0)] [(7, .bld 97 (.own 8 ([45, 120, 32, 43, 32, 50].length))), (8, .row 5 1 (bw [45, 120, 32, 43, 32, 50]))]) (congrArg (fun (z_ : List UInt8) => F.of [(4, .t (.c (.d (.raw (.string ByteArray.empty))))), (5, vp 7 0)] [(7, .bld 97 (.own 8 z_.length)), (8, .row 5 1 (bw z_))]) (show ((sumW (lkW j) false (⟨#[50]⟩ : ByteArray)) : List UInt8) = [45, 120, 32, 43, 32, 50] from text_sum2 j (by have : (ofT 2 [(-1)]).parts.length = 1 := rfl; omega)))
    refine rSeq fam0ok 13 [(0, .call (SbString 8 (by decide) [45, 120, 32, 43, 32, 50] (by decide)) ug_11)] [(4, .t (.c (.d (.raw (.string (⟨[45, 120, 32, 43, 32, 50].toArray⟩ : ByteArray))))))] [] (by kernel_rfl) h ?_; clear h; intro a w h
    refine wp_ret ?_
    refine retS [.c (.d (.raw (.string (⟨[45, 120, 32, 43, 32, 50].toArray⟩ : ByteArray))))] h Exit.ret (.inl rfl)  rfl ⟨RV.tmp _ _ rfl, trivial⟩ ?_ (by kernel_rfl) (by kernel_rfl)
    rfl
   ·cases hc
end Go.Proofs.YtekhnajfdaknnaaGreatDoor.S
end
section
namespace Go.Proofs.YtekhnajfdaknnaaGreatDoor.S
open Go.RowKit

theorem ua_0 : Bodied Tryz.prog 8 := Bodied.mk' (by kernel_rfl)
theorem ua_3 : Bodied Tryz.prog 9 := Bodied.mk' (by kernel_rfl)
end Go.Proofs.YtekhnajfdaknnaaGreatDoor.S
end
section
namespace Go.Proofs.YtekhnajfdaknnaaGreatDoor.S
open Go.RowKit

theorem ub_1 : Bodied Tryz.prog 10 := Bodied.mk' (by kernel_rfl)
def sumV (f : Int → Int) : Nat → Int
  | 0 => 0
  | n + 1 => sumV f n + f (n : Int)
theorem sumV_add (f g : Int → Int) : ∀ n, sumV (fun v => f v + g v) n = sumV f n + sumV g n
 | 0 => rfl
 | n + 1 => by simp only [sumV, sumV_add f g n]; omega
theorem sumV_congr {f g : Int → Int} : ∀ n : Nat, (∀ v : Int, f v = g v) → sumV f n = sumV g n
 | 0, _ => rfl
 | n + 1, h => by simp only [sumV, sumV_congr n h, h]
theorem sumV_one (a c : Int) (g : Int → Int) : ∀ n : Nat, sumV (fun v => (if a = v ∧ 0 ≤ v then c else 0) * g v) n = if 0 ≤ a ∧ a < (n : Int) then c * g a else 0
 | 0 => by rw [if_neg (by omega)]; rfl
 | n + 1 => by
  simp only [sumV, sumV_one a c g n]
  by_cases h : a = (n : Int)
  ·subst h
   rw [if_neg (by omega), if_pos ⟨rfl, by omega⟩, if_pos (by omega), Int.zero_add]
  ·rw [if_neg (show ¬(a = (n : Int) ∧ 0 ≤ (n : Int)) from fun e => h e.1), Int.zero_mul, Int.add_zero]
   by_cases k : 0 ≤ a ∧ a < (n : Int)
   ·rw [if_pos k, if_pos (by omega)]
   ·rw [if_neg k, if_neg (by omega)]
theorem valP_sum (vs : List ZI) : ∀ ps : List Part, valP vs ps = sumV (fun v => coefZ ps v * valAt vs v) vs.length
 | [] => by
  have : ∀ n : Nat, sumV (fun v => coefZ [] v * valAt vs v) n = 0 := by
   intro n
   induction n with
   | zero => rfl
   | succ n ih => simp only [sumV, coefZ, Int.zero_mul] at ih ⊢; omega
  rw [this]; rfl
 | p :: ps => by
  rw [sumV_congr (g := fun v => (if p.v = v ∧ 0 ≤ v then p.c.val else 0) * valAt vs v + coefZ ps v * valAt vs v) _ (fun v => by simp only [coefZ]; rw [Int.add_mul]), sumV_add, sumV_one, ← valP_sum vs ps]
  simp only [valP]
  congr 1
  by_cases h : 0 ≤ p.v ∧ p.v < (vs.length : Int)
  ·rw [if_pos h]
  ·rw [if_neg h]
   by_cases k : 0 ≤ p.v
   ·rw [valAt_out (fun e => h ⟨k, e⟩), Int.mul_zero]
   ·rw [valAt_neg k, Int.mul_zero]
theorem valP_congr {ps qs : List Part} (vs : List ZI) (h : ∀ v, coefZ ps v = coefZ qs v) : valP vs ps = valP vs qs := by
 rw [valP_sum, valP_sum]; exact sumV_congr _ fun v => by rw [h]
theorem val_plain (t : Term) (vs : List ZI) : valT (plainT t) vs = valT t vs := by
 unfold valT
 rw [valP_congr vs (plainT_parts t).2.2, show (plainT t).k.val = t.k.val from ZI.val_of _]
theorem val_add (s t : Term) (vs : List ZI) : valT (addT s t) vs = valT s vs + valT t vs := by
 unfold addT
 rw [val_plain]
 unfold valT
 rw [valP_app, ZI.val_of]; omega
theorem valP_mul (vs : List ZI) (q : ZI) : ∀ ps : List Part, valP vs (ps.map fun p => ⟨p.v, ZI.of (p.c.val * q.val)⟩) = valP vs ps * q.val
 | [] => by simp [valP]
 | p :: ps => by
  simp only [List.map_cons, valP, valP_mul vs q ps, ZI.val_of, Int.add_mul]
  congr 1
  rw [Int.mul_assoc, Int.mul_assoc, Int.mul_comm q.val]
theorem val_scale (t : Term) (q : ZI) (vs : List ZI) : valT (scaleT t q) vs = valT t vs * q.val := by
 unfold scaleT
 rw [val_plain]
 unfold valT mulT
 rw [valP_mul, ZI.val_of, Int.add_mul]
theorem valT_len {n L M : Nat} {t : Term} {vs : List ZI} (ht : TOk n L t) (hn : n ≤ 1000) (hv : VOk M vs) : (ZI.of (valT t vs)).abs.length ≤ L + M + 1 := val_len ht hn hv (fun _ h => h) (Nat.le_refl _)
end Go.Proofs.YtekhnajfdaknnaaGreatDoor.S
end
section
namespace Go.Proofs.YtekhnajfdaknnaaGreatDoor.S
open Go.RowKit

end Go.Proofs.YtekhnajfdaknnaaGreatDoor.S
end
section
namespace Go.Proofs.YtekhnajfdaknnaaGreatDoor.S
open Go.RowKit

theorem ud_0 : Bodied Tryz.prog 43 := Bodied.mk' (by kernel_rfl)
theorem ud_10 : ElT Tryz.prog 35 26 2 32 := ElT.mk' Tryz.underlying35 _ _ rfl rfl (by kernel_rfl) (by kernel_rfl) (by kernel_rfl) (by decide) (by decide)
def intsFrom : Nat → Nat → List Int
  | _, 0 => []
  | a, n + 1 => (a : Int) :: intsFrom (a + 1) n
theorem intsFrom_snoc : ∀ (n a : Nat), intsFrom a (n + 1) = intsFrom a n ++ [((a + n : Nat) : Int)]
 | 0, a => rfl
 | n + 1, a => by
  show (a : Int) :: intsFrom (a + 1) (n + 1) = (a : Int) :: (intsFrom (a + 1) n ++ _)
  rw [intsFrom_snoc n (a + 1), show a + 1 + n = a + (n + 1) by omega]
theorem intsFrom_len : ∀ (n a : Nat), (intsFrom a n).length = n
 | 0, _ => rfl
 | n + 1, a => by simp [intsFrom, intsFrom_len n]
theorem idx_ints (v : Int) : ∀ (n a : Nat), idxI v (intsFrom a n) a = if (a : Int) ≤ v ∧ v < ((a + n : Nat) : Int) then v else -1
 | 0, a => by rw [if_neg (by omega)]; rfl
 | n + 1, a => by
  simp only [intsFrom, idxI]
  by_cases h : v = (a : Int)
  ·rw [if_pos h, if_pos (by omega)]; exact h.symm
  ·rw [if_neg h, idx_ints v n (a + 1)]
   by_cases k : ((a + 1 : Nat) : Int) ≤ v ∧ v < ((a + 1 + n : Nat) : Int)
   ·rw [if_pos k, if_pos (by omega)]
   ·rw [if_neg k, if_neg (by omega)]
def innerZ (bys : List Term) (vs : List ZI) (i : Nat) : ZI := match bys[i]? with | some b => ZI.of (valT b vs) | none => (vs[i]?).getD ⟨false, []⟩
theorem inner_by {bys : List Term} {vs : List ZI} {i : Nat} {b : Term} (h : bys[i]? = some b) : innerZ bys vs i = ZI.of (valT b vs) := by unfold innerZ; rw [h]
theorem inner_val {bys : List Term} {vs : List ZI} {i : Nat} {x : ZI} (h : ¬ (i : Int) < (bys.length : Int)) (hx : vs[i]? = some x) : innerZ bys vs i = x := by unfold innerZ; rw [List.getElem?_eq_none (by omega), hx]; rfl
theorem inner_no {bys : List Term} {vs : List ZI} {i : Nat} (h : ¬ (i : Int) < (bys.length : Int)) (hx : ¬ (i : Int) < (vs.length : Int)) : innerZ bys vs i = ⟨false, []⟩ := by unfold innerZ; rw [List.getElem?_eq_none (by omega), List.getElem?_eq_none (by omega)]; rfl
theorem valT_var (v : Int) (vs : List ZI) : valT (varT v) vs = valAt vs v := by
 unfold varT
 rw [val_plain]
 simp [valT, oneT, valP, ZI.val_of]
 rw [show (⟨false, []⟩ : ZI).val = 0 from rfl, Int.zero_add]
theorem valT_num (k : ZI) (vs : List ZI) : valT (numT k) vs = k.val := by simp [valT, numT, valP, ZI.val_of]
theorem pick_val {bys : List Term} {vs : List ZI} (hb : bys.length ≤ 8) (hv : vs.length ≤ 8) {v : Int} (h0 : 0 ≤ v) : valT (pickT (intsFrom 0 bys.length) bys v) vs = valAt ((List.range 8).map (innerZ bys vs)) v := by
 obtain ⟨k, rfl⟩ : ∃ k : Nat, v = (k : Int) := ⟨v.toNat, (Int.toNat_of_nonneg h0).symm⟩
 have hi := idx_ints (k : Int) bys.length 0
 by_cases h : k < bys.length
 ·rw [if_pos (by omega)] at hi
  rw [pick_yes hi (List.getElem?_eq_getElem h), valAt_some (k := k) (y := innerZ bys vs k) rfl (by rw [List.getElem?_map, List.getElem?_range (by omega)]; rfl), inner_by (List.getElem?_eq_getElem h), ZI.val_of]
 ·rw [if_neg (by omega)] at hi
  rw [pick_no (.inl (by rw [hi]; decide)), valT_var]
  by_cases h8 : k < 8
  ·rw [valAt_some (vs := (List.range 8).map (innerZ bys vs)) (k := k) (y := innerZ bys vs k) rfl (by rw [List.getElem?_map, List.getElem?_range h8]; rfl)]
   by_cases hk : k < vs.length
   ·rw [valAt_some (k := k) rfl (List.getElem?_eq_getElem hk), inner_val (by omega) (List.getElem?_eq_getElem hk)]
   ·rw [valAt_out (by omega), inner_no (by omega) (by omega)]; rfl
  ·rw [valAt_out (by omega), valAt_out (by rw [List.length_map, List.length_range]; omega)]
theorem put_law {t : Term} {bys : List Term} {vs : List ZI} (hb : bys.length ≤ 8) (hv : vs.length ≤ 8) : valT (putZ t (intsFrom 0 bys.length) bys) vs = valT t ((List.range 8).map (innerZ bys vs)) := by
 rw [← val_plain t]
 have key : ∀ (ps : List Part), (∀ p ∈ ps, 0 ≤ p.v) → ∀ out : Term, valT (ps.foldl (putStep (intsFrom 0 bys.length) bys) out) vs = valT out vs + valP ((List.range 8).map (innerZ bys vs)) ps := by
  intro ps
  induction ps with
  | nil => intro _ out; simp [valP]
  | cons p ps ih =>
   intro hp out
   rw [List.foldl_cons, ih (fun q hq => hp q (by simp [hq]))]
   unfold putStep
   rw [val_add, val_scale, pick_val hb hv (hp p (by simp))]
   simp only [valP]
   rw [Int.mul_comm]; omega
 unfold putZ
 rw [key _ (fun p hp => ((plainT_parts t).2.1 p hp).1), valT_num]
 unfold valT
 rw [show (plainT t).k.val = t.k.val from ZI.val_of _]
theorem inner_ok {bys : List Term} {vs : List ZI} (hb : ∀ b ∈ bys, PkOk b) (hv : VOk 20 vs) : VOk 41 ((List.range 8).map (innerZ bys vs)) := by
 refine ⟨by simp, fun y hy => ?_⟩
 obtain ⟨i, _, rfl⟩ := List.mem_map.1 hy
 unfold innerZ
 cases h : bys[i]? with
 | some b => exact ⟨ZI.lb_of _, valT_len (show TOk 30 20 b from hb b (List.mem_of_getElem? h)) (by decide) hv⟩
 | none =>
  cases h2 : vs[i]? with
  | some x => exact ⟨(hv.get h2).1, Nat.le_trans (hv.get h2).2 (by decide)⟩
  | none => exact ⟨Lb_nil, Nat.zero_le _⟩
set_option maxHeartbeats 4000000 in
theorem STermPutValues (t : Term) (bys : List Term) (vs : List ZI) (fa fb : Bool) (hL : Fn Tryz.prog 8 [] [] (vb true) []) (hfa : fa = true ↔ ∀ t_ ∈ [t], Few1 t_) (hfb : fb = true ↔ ∀ t_ ∈ bys, Few1 t_) (ht : TLb t) (hb : ∀ b ∈ bys, TLb b) (hl2 : bys.length ≤ 9223372036854775807) (hv : ∀ y ∈ vs, Lb y.abs) : Fn Tryz.prog 7 [] [.t (.agg ([.d (.sl 3 (t.parts.map Part.d))] ++ zi t.k)), .t (.c (.d (.sl 3 (bys.map Term.d)))), .t (.c (.d (.sl 2 (vs.map ziD))))] (vb true) [] := by
 refine Fn.body Tryz.func7 rfl 112 rfl fun w H B a h => ?_
 refine rSeq fam0ok 5 [] [(1, .t (.c (.d (.sl 3 (bys.map Term.d))))), (2, .t (.c (.d (.sl 2 (vs.map ziD))))), (3, vp 5 0), (6, vb false)] [(5, .box ([.d (.sl 3 (t.parts.map Part.d))] ++ zi t.k))] (by kernel_rfl) h ?_; clear h; intro a w h
 refine wp_seq ?_
 refine rSeq fam0ok 6 [(0, .call (Sputting) ud_0), (3, .call (hL) ua_0)] [(1, .t (.c (.d (.sl 3 (bys.map Term.d))))), (2, .t (.c (.d (.sl 2 (vs.map ziD))))), (3, vp 5 0), (6, vb false), (20, vb false)] [(5, .box ([.d (.sl 3 (t.parts.map Part.d))] ++ zi t.k))] (by kernel_rfl) h ?_; clear h; intro a w h
 refine condS false h rfl (fun hc => ?_) (fun hc => ?_)
 ·cases hc
 ·clear hc
  refine wp_skip ?_
  refine then_n ?_
  refine wp_seq ?_
  rcases Bool.eq_false_or_eq_true (decide ((t.parts.length : Int) > 12)) with hc | hc
  ·have hc1 := hc; clear hc
   have hc1' := of_decide_eq_true hc1
   refine rSeq fam0ok 6 [(2, .len (c := (.d (.sl 3 (t.parts.map Part.d)))) (n := t.parts.length) (lenC_map _ _ _)), (3, .cmp (op := .gtr) (m := (t.parts.length : Int)) (n := 12) (b := true) .i64 hc1)] [(1, .t (.c (.d (.sl 3 (bys.map Term.d))))), (2, .t (.c (.d (.sl 2 (vs.map ziD))))), (3, vp 5 0), (6, vb false), (45, vb true)] [(5, .box ([.d (.sl 3 (t.parts.map Part.d))] ++ zi t.k))] (by kernel_rfl) h ?_; clear h; intro a w h
   refine condS true h rfl (fun hc => ?_) (fun hc => ?_)
   ·clear hc
    refine rSeq fam0ok 6 [] [(1, .t (.c (.d (.sl 3 (bys.map Term.d))))), (2, .t (.c (.d (.sl 2 (vs.map ziD))))), (3, vp 5 0), (6, vb true)] [(5, .box ([.d (.sl 3 (t.parts.map Part.d))] ++ zi t.k))] (by kernel_rfl) h ?_; clear h; intro a w h
    refine wp_ret ?_
    refine then_r ?_
    refine retS [.c (.d (.raw (.bool true)))] h Exit.ret (.inl rfl)  rfl ⟨RV.tmp _ _ rfl, trivial⟩ ?_ (by kernel_rfl) (by kernel_rfl)
    rfl
   ·cases hc
  ·have hc2 := hc; clear hc
   have hc2' := of_decide_eq_false hc2
   rcases Bool.eq_false_or_eq_true fa with hc | hc
   ·have hc3 := hc; clear hc
    have hta : PkOk t := ht.few (hfa.1 hc3 t (by simp))
    rcases Bool.eq_false_or_eq_true fb with hc | hc
    ·have hc4 := hc; clear hc
     have hbb : ∀ b ∈ bys, PkOk b := fun b hb2 => (hb b hb2).few (hfb.1 hc4 b hb2)
     rcases Bool.eq_false_or_eq_true (decide ((bys.length : Int) > 8)) with hc | hc
     ·have hc5 := hc; clear hc
      have hc5' := of_decide_eq_true hc5
      refine rSeq fam0ok 6 [(2, .len (c := (.d (.sl 3 (t.parts.map Part.d)))) (n := t.parts.length) (lenC_map _ _ _)), (3, .cmp (op := .gtr) (m := (t.parts.length : Int)) (n := 12) (b := false) .i64 hc2), (6, .gen _ _ _ fun _ _ _ _ => Op.buildD (d := 27) (len := 1) (rows := [t].map Term.d) (rs := [(26, .t (.agg ([.d (.sl 3 (t.parts.map Part.d))] ++ zi t.k)))]) tq_13 (.cons (i := 0) (OV.tmp 26 _) (.nil)) (by kernel_rfl) rfl (by simp [Term.d]) (by decide) (by decide)), (7, .call (Fn.cast (Sfew [t] fa hfa (by simp)) (congrArg vb hc3)) ua_3), (12, .call (Fn.cast (Sfew bys fb hfb hl2) (congrArg vb hc4)) ua_3), (17, .len (c := (.d (.sl 3 (bys.map Term.d)))) (n := bys.length) (lenC_map _ _ _)), (18, .cmp (op := .gtr) (m := (bys.length : Int)) (n := 8) (b := true) .i64 hc5)] [(1, .t (.c (.d (.sl 3 (bys.map Term.d))))), (2, .t (.c (.d (.sl 2 (vs.map ziD))))), (3, vp 5 0), (6, vb false), (45, vb true)] [(5, .box ([.d (.sl 3 (t.parts.map Part.d))] ++ zi t.k))] (by kernel_rfl) h ?_; clear h; intro a w h
      refine condS true h rfl (fun hc => ?_) (fun hc => ?_)
      ·clear hc
       refine rSeq fam0ok 6 [] [(1, .t (.c (.d (.sl 3 (bys.map Term.d))))), (2, .t (.c (.d (.sl 2 (vs.map ziD))))), (3, vp 5 0), (6, vb true)] [(5, .box ([.d (.sl 3 (t.parts.map Part.d))] ++ zi t.k))] (by kernel_rfl) h ?_; clear h; intro a w h
       refine wp_ret ?_
       refine then_r ?_
       refine retS [.c (.d (.raw (.bool true)))] h Exit.ret (.inl rfl)  rfl ⟨RV.tmp _ _ rfl, trivial⟩ ?_ (by kernel_rfl) (by kernel_rfl)
       rfl
      ·cases hc
     ·have hc6 := hc; clear hc
      have hc6' := of_decide_eq_false hc6
      refine rSeq fam0ok 6 [(2, .len (c := (.d (.sl 3 (t.parts.map Part.d)))) (n := t.parts.length) (lenC_map _ _ _)), (3, .cmp (op := .gtr) (m := (t.parts.length : Int)) (n := 12) (b := false) .i64 hc2), (6, .gen _ _ _ fun _ _ _ _ => Op.buildD (d := 27) (len := 1) (rows := [t].map Term.d) (rs := [(26, .t (.agg ([.d (.sl 3 (t.parts.map Part.d))] ++ zi t.k)))]) tq_13 (.cons (i := 0) (OV.tmp 26 _) (.nil)) (by kernel_rfl) rfl (by simp [Term.d]) (by decide) (by decide)), (7, .call (Fn.cast (Sfew [t] fa hfa (by simp)) (congrArg vb hc3)) ua_3), (12, .call (Fn.cast (Sfew bys fb hfb hl2) (congrArg vb hc4)) ua_3), (17, .len (c := (.d (.sl 3 (bys.map Term.d)))) (n := bys.length) (lenC_map _ _ _)), (18, .cmp (op := .gtr) (m := (bys.length : Int)) (n := 8) (b := false) .i64 hc6), (22, .len (c := (.d (.sl 2 (vs.map ziD)))) (n := vs.length) (lenC_map _ _ _))] [(1, .t (.c (.d (.sl 3 (bys.map Term.d))))), (2, .t (.c (.d (.sl 2 (vs.map ziD))))), (3, vp 5 0), (6, vb false), (45, vb (decide ((vs.length : Int) > 8)))] [(5, .box ([.d (.sl 3 (t.parts.map Part.d))] ++ zi t.k))] (by kernel_rfl) h ?_; clear h; intro a w h
      refine condS (decide ((vs.length : Int) > 8)) h rfl (fun hc => ?_) (fun hc => ?_)
      ·have hc7 := hc; clear hc
       have hc7' := of_decide_eq_true hc7
       refine rSeq fam0ok 6 [] [(1, .t (.c (.d (.sl 3 (bys.map Term.d))))), (2, .t (.c (.d (.sl 2 (vs.map ziD))))), (3, vp 5 0), (6, vb true)] [(5, .box ([.d (.sl 3 (t.parts.map Part.d))] ++ zi t.k))] (by kernel_rfl) h ?_; clear h; intro a w h
       refine wp_ret ?_
       refine then_r ?_
       refine retS [.c (.d (.raw (.bool true)))] h Exit.ret (.inl rfl)  rfl ⟨RV.tmp _ _ rfl, trivial⟩ ?_ (by kernel_rfl) (by kernel_rfl)
       rfl
      ·have hc8 := hc; clear hc
       have hc8' := of_decide_eq_false hc8
       refine wp_skip ?_
       refine then_n ?_
       refine wp_seq ?_
       refine rSeq fam0ok 6 [(1, .len (c := (.d (.sl 2 (vs.map ziD)))) (n := vs.length) (lenC_map _ _ _))] [(1, .t (.c (.d (.sl 3 (bys.map Term.d))))), (2, .t (.c (.d (.sl 2 (vs.map ziD))))), (3, vp 5 0), (6, vb false), (46, .t (.c (.d (.sl 2 (vs.map ziD))))), (47, vi .i64 (vs.length : Int)), (48, vi .i64 0)] [(5, .box ([.d (.sl 3 (t.parts.map Part.d))] ++ zi t.k))] (by kernel_rfl) h ?_; clear h; intro a w h
       refine wp_block ?_
       refine loopS (ι := (Nat)) (fun (z_ : (Nat)) => match z_ with | j => j ≤ vs.length ∧ ∀ y ∈ vs.take j, y.abs.length ≤ 20)
         (fun (z_ : (Nat)) => match z_ with | j => [(1, .t (.c (.d (.sl 3 (bys.map Term.d))))), (2, .t (.c (.d (.sl 2 (vs.map ziD))))), (3, vp 5 0), (46, .t (.c (.d (.sl 2 (vs.map ziD))))), (47, vi .i64 (vs.length : Int)), (48, vi .i64 (j : Int))])
         (fun (z_ : (Nat)) => match z_ with | j => [(5, .box ([.d (.sl 3 (t.parts.map Part.d))] ++ zi t.k))])
         (fun (z_ : (Nat)) => match z_ with | j => vs.length - j) 0 ?_ h (by kernel_rfl) (by kernel_rfl) ?_
       ·exact ⟨Nat.zero_le _, by simp⟩
       ·clear h; rintro j a w hI h
        change St _ (F.of [(1, .t (.c (.d (.sl 3 (bys.map Term.d))))), (2, .t (.c (.d (.sl 2 (vs.map ziD))))), (3, vp 5 0), (46, .t (.c (.d (.sl 2 (vs.map ziD))))), (47, vi .i64 (vs.length : Int)), (48, vi .i64 (j : Int))] [(5, .box ([.d (.sl 3 (t.parts.map Part.d))] ++ zi t.k))]) a w at h
        obtain ⟨hI1, hI2⟩ := hI
        refine rSeq fam0ok 6 [] [(1, .t (.c (.d (.sl 3 (bys.map Term.d))))), (2, .t (.c (.d (.sl 2 (vs.map ziD))))), (3, vp 5 0), (46, .t (.c (.d (.sl 2 (vs.map ziD))))), (47, vi .i64 (vs.length : Int)), (48, vi .i64 (j : Int)), (49, vb (decide ((j : Int) < (vs.length : Int))))] [(5, .box ([.d (.sl 3 (t.parts.map Part.d))] ++ zi t.k))] (by kernel_rfl) h ?_; clear h; intro a w h
        refine wp_seq ?_
        refine condS (decide ((j : Int) < (vs.length : Int))) h rfl (fun hc => ?_) (fun hc => ?_)
        ·have hc9 := hc; clear hc
         have hc9' := of_decide_eq_true hc9
         refine wp_skip ?_
         refine then_n ?_
         refine wp_seq ?_
         refine wp_block ?_
         obtain ⟨x12, hx12⟩ : ∃ z_ : ZI, vs[j]? = some z_ := ⟨_, List.getElem?_eq_getElem (by first | omega | (simp at *; omega))⟩
         refine rSeq fam0ok 6 [(0, .gen _ _ _ fun _ _ _ _ => Op.idxD (d := 50) (t := 46) (k := .i64) tt_6 (map_at hx12 (f := ziD)) (OV.tmp 48 _))] [(1, .t (.c (.d (.sl 3 (bys.map Term.d))))), (2, .t (.c (.d (.sl 2 (vs.map ziD))))), (3, vp 5 0), (8, vp 6 0), (46, .t (.c (.d (.sl 2 (vs.map ziD))))), (47, vi .i64 (vs.length : Int)), (48, vi .i64 (j : Int))] [(5, .box ([.d (.sl 3 (t.parts.map Part.d))] ++ zi t.k)), (6, .box (zi x12))] (by kernel_rfl) h ?_; clear h; intro a w h
         refine rSeq fam0ok 7 [(2, .len (nsl_len x12.abs))] [(1, .t (.c (.d (.sl 3 (bys.map Term.d))))), (2, .t (.c (.d (.sl 2 (vs.map ziD))))), (3, vp 5 0), (46, .t (.c (.d (.sl 2 (vs.map ziD))))), (47, vi .i64 (vs.length : Int)), (48, vi .i64 (j : Int)), (55, vb (decide ((x12.abs.length : Int) > 20)))] [(5, .box ([.d (.sl 3 (t.parts.map Part.d))] ++ zi t.k))] (by kernel_rfl) h ?_; clear h; intro a w h
         refine condS (decide ((x12.abs.length : Int) > 20)) h rfl (fun hc => ?_) (fun hc => ?_)
         ·have hc10 := hc; clear hc
          have hc10' := of_decide_eq_true hc10
          refine rSeq fam0ok 7 [] [(1, .t (.c (.d (.sl 3 (bys.map Term.d))))), (2, .t (.c (.d (.sl 2 (vs.map ziD))))), (3, vp 5 0), (6, vb true), (46, .t (.c (.d (.sl 2 (vs.map ziD))))), (47, vi .i64 (vs.length : Int)), (48, vi .i64 (j : Int))] [(5, .box ([.d (.sl 3 (t.parts.map Part.d))] ++ zi t.k))] (by kernel_rfl) h ?_; clear h; intro a w h
          refine wp_ret ?_
          refine block_r ?_
          refine then_r ?_
          refine then_r ?_
          refine block_r ?_
          refine then_r ?_
          refine retS [.c (.d (.raw (.bool true)))] h Exit.ret (.inl rfl)  rfl ⟨RV.tmp _ _ rfl, trivial⟩ ?_ (by kernel_rfl) (by kernel_rfl)
          rfl
         ·have hc11 := hc; clear hc
          have hc11' := of_decide_eq_false hc11
          refine wp_skip ?_
          refine block_n ?_
          refine then_n ?_
          refine rS fam0ok 7 [(0, .add .i64 (m := (j : Int)) (n := 1) (i64_id (by omega) (by omega)))] [(1, .t (.c (.d (.sl 3 (bys.map Term.d))))), (2, .t (.c (.d (.sl 2 (vs.map ziD))))), (3, vp 5 0), (46, .t (.c (.d (.sl 2 (vs.map ziD))))), (47, vi .i64 (vs.length : Int)), (48, vi .i64 ((j : Int) + 1))] [(5, .box ([.d (.sl 3 (t.parts.map Part.d))] ++ zi t.k))] (by kernel_rfl) h ?_; clear h; intro a w h
          refine then_n ?_
          refine roundS (x := j) (y := (j + 1)) h ?_ ?_ (by kernel_rfl) (by kernel_rfl)
          ·refine ⟨by have := at_lt hx12; omega, fun y hy => ?_⟩
           rw [List.take_add_one, hx12] at hy
           rcases List.mem_append.1 hy with hy | hy
           ·exact hI2 y hy
           ·have e := Option.mem_toList.1 hy
            injection e with e
            subst e
            omega
          ·show vs.length - (j + 1) < vs.length - j
           have := at_lt hx12; omega
        ·have hc12 := hc; clear hc
         have hc12' := of_decide_eq_false hc12
         refine wp_exit ?_
         refine then_x ?_
         refine then_x ?_
         refine inBlock_exit ?_
         refine then_n ?_
         have hvo : VOk 20 vs := ⟨by omega, fun y hy => ⟨hv y hy, hI2 y (by rw [List.take_of_length_le (by omega)]; exact hy)⟩⟩
         refine rSeq fam0ok 7 [(0, .gen _ _ _ fun _ _ _ _ => Op.buildE (d := 57) (n := 7) tb_0)] [(1, .t (.c (.d (.sl 3 (bys.map Term.d))))), (2, .t (.c (.d (.sl 2 (vs.map ziD))))), (3, vp 5 0), (9, .t (.c (.own 7 0)))] [(5, .box ([.d (.sl 3 (t.parts.map Part.d))] ++ zi t.k)), (7, .row 3 1 ([].map intD))] (by kernel_rfl) h ?_; clear h; intro a w h
         refine rSeq fam0ok 8 [(0, .gen _ _ _ fun _ _ _ _ => Op.buildE (d := 58) (n := 8) ty_5)] [(1, .t (.c (.d (.sl 3 (bys.map Term.d))))), (2, .t (.c (.d (.sl 2 (vs.map ziD))))), (3, vp 5 0), (9, .t (.c (.own 7 0))), (10, .t (.c (.own 8 0)))] [(5, .box ([.d (.sl 3 (t.parts.map Part.d))] ++ zi t.k)), (7, .row 3 1 ([].map intD)), (8, .row 26 2 ([].map ziD))] (by kernel_rfl) h ?_; clear h; intro a w h
         refine wp_seq ?_
         refine rSeq fam0ok 9 [] [(1, .t (.c (.d (.sl 3 (bys.map Term.d))))), (2, .t (.c (.d (.sl 2 (vs.map ziD))))), (3, vp 5 0), (9, .t (.c (.own 7 0))), (10, .t (.c (.own 8 0))), (11, vi .i64 0)] [(5, .box ([.d (.sl 3 (t.parts.map Part.d))] ++ zi t.k)), (7, .row 3 1 ([].map intD)), (8, .row 26 2 ([].map ziD))] (by kernel_rfl) h ?_; clear h; intro a w h
         refine wp_block ?_
         have hz0 : (intsFrom 0 (min 0 bys.length)) = [] := by simp [intsFrom]
         have hz1 : ((List.range 0).map (innerZ bys vs)) = [] := rfl
         replace h := h.conv (f' := F.of [(1, .t (.c (.d (.sl 3 (bys.map Term.d))))), (2, .t (.c (.d (.sl 2 (vs.map ziD))))), (3, vp 5 0), (9, .t (.c (.own 7 (intsFrom 0 (min 0 bys.length)).length))), (10, .t (.c (.own 8 ((List.range 0).map (innerZ bys vs)).length))), (11, vi .i64 0)] [(5, .box ([.d (.sl 3 (t.parts.map Part.d))] ++ zi t.k)), (7, .row 3 1 ((intsFrom 0 (min 0 bys.length)).map intD)), (8, .row 26 2 (((List.range 0).map (innerZ bys vs)).map ziD))]) (by rw [hz0, hz1]; rfl)
         refine loopS (ι := (Nat)) (fun (z_ : (Nat)) => match z_ with | i => i ≤ 8)
           (fun (z_ : (Nat)) => match z_ with | i => [(1, .t (.c (.d (.sl 3 (bys.map Term.d))))), (2, .t (.c (.d (.sl 2 (vs.map ziD))))), (3, vp 5 0), (9, .t (.c (.own 7 (intsFrom 0 (min i bys.length)).length))), (10, .t (.c (.own 8 ((List.range i).map (innerZ bys vs)).length))), (11, vi .i64 (i : Int))])
           (fun (z_ : (Nat)) => match z_ with | i => [(5, .box ([.d (.sl 3 (t.parts.map Part.d))] ++ zi t.k)), (7, .row 3 1 ((intsFrom 0 (min i bys.length)).map intD)), (8, .row 26 2 (((List.range i).map (innerZ bys vs)).map ziD))])
           (fun (z_ : (Nat)) => match z_ with | i => 8 - i) 0 ?_ h (by kernel_rfl) (by kernel_rfl) ?_
         ·exact Nat.zero_le _
         ·clear h; rintro i a w hI h
          change St _ (F.of [(1, .t (.c (.d (.sl 3 (bys.map Term.d))))), (2, .t (.c (.d (.sl 2 (vs.map ziD))))), (3, vp 5 0), (9, .t (.c (.own 7 (intsFrom 0 (min i bys.length)).length))), (10, .t (.c (.own 8 ((List.range i).map (innerZ bys vs)).length))), (11, vi .i64 (i : Int))] [(5, .box ([.d (.sl 3 (t.parts.map Part.d))] ++ zi t.k)), (7, .row 3 1 ((intsFrom 0 (min i bys.length)).map intD)), (8, .row 26 2 (((List.range i).map (innerZ bys vs)).map ziD))]) a w at h
          have hI := hI
          refine wp_seq ?_
          refine rSeq fam0ok 9 [] [(1, .t (.c (.d (.sl 3 (bys.map Term.d))))), (2, .t (.c (.d (.sl 2 (vs.map ziD))))), (3, vp 5 0), (9, .t (.c (.own 7 (intsFrom 0 (min i bys.length)).length))), (10, .t (.c (.own 8 ((List.range i).map (innerZ bys vs)).length))), (11, vi .i64 (i : Int)), (60, vb (decide ((i : Int) < 8)))] [(5, .box ([.d (.sl 3 (t.parts.map Part.d))] ++ zi t.k)), (7, .row 3 1 ((intsFrom 0 (min i bys.length)).map intD)), (8, .row 26 2 (((List.range i).map (innerZ bys vs)).map ziD))] (by kernel_rfl) h ?_; clear h; intro a w h
          refine condS (decide ((i : Int) < 8)) h rfl (fun hc => ?_) (fun hc => ?_)
          ·have hc13 := hc; clear hc
           have hc13' := of_decide_eq_true hc13
           refine wp_skip ?_
           refine then_n ?_
           refine wp_seq ?_
           refine wp_block ?_
           refine rSeq fam0ok 9 [] [(1, .t (.c (.d (.sl 3 (bys.map Term.d))))), (2, .t (.c (.d (.sl 2 (vs.map ziD))))), (3, vp 5 0), (9, .t (.c (.own 7 (intsFrom 0 (min i bys.length)).length))), (10, .t (.c (.own 8 ((List.range i).map (innerZ bys vs)).length))), (11, vi .i64 (i : Int)), (12, vp 9 0)] [(5, .box ([.d (.sl 3 (t.parts.map Part.d))] ++ zi t.k)), (7, .row 3 1 ((intsFrom 0 (min i bys.length)).map intD)), (8, .row 26 2 (((List.range i).map (innerZ bys vs)).map ziD)), (9, .box [.d (.raw (.bool false)), .d (nsl [])])] (by kernel_rfl) h ?_; clear h; intro a w h
           refine wp_seq ?_
           refine rSeq fam0ok 10 [(2, .len (c := (.d (.sl 2 (vs.map ziD)))) (n := vs.length) (lenC_map _ _ _))] [(1, .t (.c (.d (.sl 3 (bys.map Term.d))))), (2, .t (.c (.d (.sl 2 (vs.map ziD))))), (3, vp 5 0), (9, .t (.c (.own 7 (intsFrom 0 (min i bys.length)).length))), (10, .t (.c (.own 8 ((List.range i).map (innerZ bys vs)).length))), (11, vi .i64 (i : Int)), (12, vp 9 0), (67, vb (decide ((i : Int) < (vs.length : Int))))] [(5, .box ([.d (.sl 3 (t.parts.map Part.d))] ++ zi t.k)), (7, .row 3 1 ((intsFrom 0 (min i bys.length)).map intD)), (8, .row 26 2 (((List.range i).map (innerZ bys vs)).map ziD)), (9, .box [.d (.raw (.bool false)), .d (nsl [])])] (by kernel_rfl) h ?_; clear h; intro a w h
           refine condS (decide ((i : Int) < (vs.length : Int))) h rfl (fun hc => ?_) (fun hc => ?_)
           ·have hc14 := hc; clear hc
            have hc14' := of_decide_eq_true hc14
            obtain ⟨x13, hx13⟩ : ∃ z_ : ZI, vs[i]? = some z_ := ⟨_, List.getElem?_eq_getElem (by first | omega | (simp at *; omega))⟩
            have ox13 := (hvo.get hx13).1
            have lx13 := (hvo.get hx13).2
            refine rS fam0ok 10 [(2, .gen _ _ _ fun _ _ _ _ => Op.idxD (d := 70) (t := 68) (k := .i64) tt_6 (map_at hx13 (f := ziD)) (OV.tmp 69 _))] [(1, .t (.c (.d (.sl 3 (bys.map Term.d))))), (2, .t (.c (.d (.sl 2 (vs.map ziD))))), (3, vp 5 0), (9, .t (.c (.own 7 (intsFrom 0 (min i bys.length)).length))), (10, .t (.c (.own 8 ((List.range i).map (innerZ bys vs)).length))), (11, vi .i64 (i : Int)), (12, vp 9 0)] [(5, .box ([.d (.sl 3 (t.parts.map Part.d))] ++ zi t.k)), (7, .row 3 1 ((intsFrom 0 (min i bys.length)).map intD)), (8, .row 26 2 (((List.range i).map (innerZ bys vs)).map ziD)), (9, .box (zi x13))] (by kernel_rfl) h ?_; clear h; intro a w h
            refine then_n ?_
            refine wp_seq ?_
            refine rSeq fam0ok 10 [(2, .len (c := (.d (.sl 3 (bys.map Term.d)))) (n := bys.length) (lenC_map _ _ _))] [(1, .t (.c (.d (.sl 3 (bys.map Term.d))))), (2, .t (.c (.d (.sl 2 (vs.map ziD))))), (3, vp 5 0), (9, .t (.c (.own 7 (intsFrom 0 (min i bys.length)).length))), (10, .t (.c (.own 8 ((List.range i).map (innerZ bys vs)).length))), (11, vi .i64 (i : Int)), (12, vp 9 0), (75, vb (decide ((i : Int) < (bys.length : Int))))] [(5, .box ([.d (.sl 3 (t.parts.map Part.d))] ++ zi t.k)), (7, .row 3 1 ((intsFrom 0 (min i bys.length)).map intD)), (8, .row 26 2 (((List.range i).map (innerZ bys vs)).map ziD)), (9, .box (zi x13))] (by kernel_rfl) h ?_; clear h; intro a w h
            refine condS (decide ((i : Int) < (bys.length : Int))) h rfl (fun hc => ?_) (fun hc => ?_)
            ·have hc15 := hc; clear hc
             have hc15' := of_decide_eq_true hc15
             refine rSeq fam0ok 10 [(2, .gen _ _ _ fun _ _ _ _ => Op.buildD (d := 78) (len := 1) (rows := [(i : Int)].map intD) (rs := [(77, vi .i64 (i : Int))]) tb_0 (.cons (i := 0) (OV.tmp 77 _) (.nil)) (by kernel_rfl) rfl (by simp [intD]) (by decide) (by decide)), (3, .gen _ _ _ fun _ _ _ _ => Op.appOD (d := 79) (t := 76) (u := 78) (n := 7) (n' := 10) (len := (intsFrom 0 (min i bys.length)).length) (len' := ((intsFrom 0 (min i bys.length)) ++ [(i : Int)]).length) (rows := (intsFrom 0 (min i bys.length)).map intD) (rows2 := [(i : Int)].map intD) (rows' := ((intsFrom 0 (min i bys.length)) ++ [(i : Int)]).map intD) tb_2 (by first | exact (List.length_map _).symm | simp) (by first | (rw [List.length_append, List.length_map]; done) | simp) (by simp) (by simp [intD]) (by first | omega | (simp [intsFrom_len] at *; omega) | (simp [intsFrom_len]; omega)))] [(1, .t (.c (.d (.sl 3 (bys.map Term.d))))), (2, .t (.c (.d (.sl 2 (vs.map ziD))))), (3, vp 5 0), (9, .t (.c (.own 10 ((intsFrom 0 (min i bys.length)) ++ [(i : Int)]).length))), (10, .t (.c (.own 8 ((List.range i).map (innerZ bys vs)).length))), (11, vi .i64 (i : Int)), (12, vp 9 0)] [(5, .box ([.d (.sl 3 (t.parts.map Part.d))] ++ zi t.k)), (8, .row 26 2 (((List.range i).map (innerZ bys vs)).map ziD)), (9, .box (zi x13)), (10, .row 3 1 (((intsFrom 0 (min i bys.length)) ++ [(i : Int)]).map intD))] (by kernel_rfl) h ?_; clear h; intro a w h
             obtain ⟨x14, hx14⟩ : ∃ z_ : Term, bys[i]? = some z_ := ⟨_, List.getElem?_eq_getElem (by first | omega | (simp at *; omega))⟩
             obtain ⟨r15, er15, vr15, or15, lr15⟩ := mkZ (v := valT x14 vs) (m := 41) (valT_len (show TOk 30 20 x14 from hbb x14 (List.mem_of_getElem? hx14)) (by decide) hvo)
             refine rS fam0ok 11 [(2, .gen _ _ _ fun _ _ _ _ => Op.idxD (d := 82) (t := 80) (k := .i64) tn_7 (map_at hx14 (f := Term.d)) (OV.tmp 81 _)), (5, .call (Fn.cast (SValue x14 vs (show TOk 30 20 x14 from hbb x14 (List.mem_of_getElem? hx14)) (by decide) (by decide) hvo) (congrArg vz er15.symm)) ty_6)] [(1, .t (.c (.d (.sl 3 (bys.map Term.d))))), (2, .t (.c (.d (.sl 2 (vs.map ziD))))), (3, vp 5 0), (9, .t (.c (.own 10 ((intsFrom 0 (min i bys.length)) ++ [(i : Int)]).length))), (10, .t (.c (.own 8 ((List.range i).map (innerZ bys vs)).length))), (11, vi .i64 (i : Int)), (12, vp 9 0)] [(5, .box ([.d (.sl 3 (t.parts.map Part.d))] ++ zi t.k)), (8, .row 26 2 (((List.range i).map (innerZ bys vs)).map ziD)), (9, .box (zi r15)), (10, .row 3 1 (((intsFrom 0 (min i bys.length)) ++ [(i : Int)]).map intD))] (by kernel_rfl) h ?_; clear h; intro a w h
             refine then_n ?_
             refine rS fam0ok 11 [(2, .gen _ _ _ fun _ _ _ _ => Op.buildD (d := 88) (len := 1) (rows := [r15].map ziD) (rs := [(87, vz r15)]) ty_5 (.cons (i := 0) (OV.tmp 87 _) (.nil)) (by kernel_rfl) rfl (by simp [ziD]) (by decide) (by decide)), (3, .gen _ _ _ fun _ _ _ _ => Op.appOD (d := 89) (t := 86) (u := 88) (n := 8) (n' := 11) (len := ((List.range i).map (innerZ bys vs)).length) (len' := (((List.range i).map (innerZ bys vs)) ++ [r15]).length) (rows := ((List.range i).map (innerZ bys vs)).map ziD) (rows2 := [r15].map ziD) (rows' := (((List.range i).map (innerZ bys vs)) ++ [r15]).map ziD) ud_10 (by first | exact (List.length_map _).symm | simp) (by first | (rw [List.length_append, List.length_map]; done) | simp) (by simp) (by simp [ziD]) (by first | omega | (simp [intsFrom_len] at *; omega) | (simp [intsFrom_len]; omega)))] [(1, .t (.c (.d (.sl 3 (bys.map Term.d))))), (2, .t (.c (.d (.sl 2 (vs.map ziD))))), (3, vp 5 0), (9, .t (.c (.own 10 ((intsFrom 0 (min i bys.length)) ++ [(i : Int)]).length))), (10, .t (.c (.own 11 (((List.range i).map (innerZ bys vs)) ++ [r15]).length))), (11, vi .i64 (i : Int))] [(5, .box ([.d (.sl 3 (t.parts.map Part.d))] ++ zi t.k)), (10, .row 3 1 (((intsFrom 0 (min i bys.length)) ++ [(i : Int)]).map intD)), (11, .row 26 2 ((((List.range i).map (innerZ bys vs)) ++ [r15]).map ziD))] (by kernel_rfl) h ?_; clear h; intro a w h
             refine block_n ?_
             refine then_n ?_
             refine rS fam0ok 12 [(1, .add .i64 (m := (i : Int)) (n := 1) (i64_id (by omega) (by omega)))] [(1, .t (.c (.d (.sl 3 (bys.map Term.d))))), (2, .t (.c (.d (.sl 2 (vs.map ziD))))), (3, vp 5 0), (9, .t (.c (.own 10 ((intsFrom 0 (min i bys.length)) ++ [(i : Int)]).length))), (10, .t (.c (.own 11 (((List.range i).map (innerZ bys vs)) ++ [r15]).length))), (11, vi .i64 ((i : Int) + 1))] [(5, .box ([.d (.sl 3 (t.parts.map Part.d))] ++ zi t.k)), (10, .row 3 1 (((intsFrom 0 (min i bys.length)) ++ [(i : Int)]).map intD)), (11, .row 26 2 ((((List.range i).map (innerZ bys vs)) ++ [r15]).map ziD))] (by kernel_rfl) h ?_; clear h; intro a w h
             refine then_n ?_
             have hn1 : (intsFrom 0 (min (i + 1) bys.length)) = ((intsFrom 0 (min i bys.length)) ++ [(i : Int)]) := by rw [show min (i + 1) bys.length = min i bys.length + 1 by omega, intsFrom_snoc, show 0 + min i bys.length = i by omega]
             have hn3 : innerZ bys vs i = r15 := by rw [er15]; exact inner_by hx14
             have hn2 : ((List.range (i + 1)).map (innerZ bys vs)) = (((List.range i).map (innerZ bys vs)) ++ [r15]) := by rw [List.range_succ, List.map_append, List.map_singleton, hn3]
             replace h := h.conv (f' := F.of [(1, .t (.c (.d (.sl 3 (bys.map Term.d))))), (2, .t (.c (.d (.sl 2 (vs.map ziD))))), (3, vp 5 0), (9, .t (.c (.own 10 (intsFrom 0 (min (i + 1) bys.length)).length))), (10, .t (.c (.own 11 ((List.range (i + 1)).map (innerZ bys vs)).length))), (11, vi .i64 ((i : Int) + 1))] [(5, .box ([.d (.sl 3 (t.parts.map Part.d))] ++ zi t.k)), (10, .row 3 1 ((intsFrom 0 (min (i + 1) bys.length)).map intD)), (11, .row 26 2 (((List.range (i + 1)).map (innerZ bys vs)).map ziD))]) (by rw [hn1, hn2])
             replace h := renS 10 7 [(1, .t (.c (.d (.sl 3 (bys.map Term.d))))), (2, .t (.c (.d (.sl 2 (vs.map ziD))))), (3, vp 5 0), (9, .t (.c (.own 7 (intsFrom 0 (min (i + 1) bys.length)).length))), (10, .t (.c (.own 11 ((List.range (i + 1)).map (innerZ bys vs)).length))), (11, vi .i64 ((i : Int) + 1))] [(5, .box ([.d (.sl 3 (t.parts.map Part.d))] ++ zi t.k)), (11, .row 26 2 (((List.range (i + 1)).map (innerZ bys vs)).map ziD)), (7, .row 3 1 ((intsFrom 0 (min (i + 1) bys.length)).map intD))] h (by kernel_rfl) (by kernel_rfl) (by kernel_rfl)
             replace h := renS 11 8 [(1, .t (.c (.d (.sl 3 (bys.map Term.d))))), (2, .t (.c (.d (.sl 2 (vs.map ziD))))), (3, vp 5 0), (9, .t (.c (.own 7 (intsFrom 0 (min (i + 1) bys.length)).length))), (10, .t (.c (.own 8 ((List.range (i + 1)).map (innerZ bys vs)).length))), (11, vi .i64 ((i : Int) + 1))] [(5, .box ([.d (.sl 3 (t.parts.map Part.d))] ++ zi t.k)), (7, .row 3 1 ((intsFrom 0 (min (i + 1) bys.length)).map intD)), (8, .row 26 2 (((List.range (i + 1)).map (innerZ bys vs)).map ziD))] h (by kernel_rfl) (by kernel_rfl) (by kernel_rfl)
             refine roundS (x := i) (y := (i + 1)) h ?_ ?_ (by kernel_rfl) (by kernel_rfl)
             ·show i + 1 ≤ 8
              omega
             ·show 8 - (i + 1) < 8 - i
              omega
            ·have hc16 := hc; clear hc
             have hc16' := of_decide_eq_false hc16
             refine wp_skip ?_
             refine then_n ?_
             refine rS fam0ok 12 [(2, .gen _ _ _ fun _ _ _ _ => Op.buildD (d := 88) (len := 1) (rows := [x13].map ziD) (rs := [(87, vz x13)]) ty_5 (.cons (i := 0) (OV.tmp 87 _) (.nil)) (by kernel_rfl) rfl (by simp [ziD]) (by decide) (by decide)), (3, .gen _ _ _ fun _ _ _ _ => Op.appOD (d := 89) (t := 86) (u := 88) (n := 8) (n' := 12) (len := ((List.range i).map (innerZ bys vs)).length) (len' := (((List.range i).map (innerZ bys vs)) ++ [x13]).length) (rows := ((List.range i).map (innerZ bys vs)).map ziD) (rows2 := [x13].map ziD) (rows' := (((List.range i).map (innerZ bys vs)) ++ [x13]).map ziD) ud_10 (by first | exact (List.length_map _).symm | simp) (by first | (rw [List.length_append, List.length_map]; done) | simp) (by simp) (by simp [ziD]) (by first | omega | (simp [intsFrom_len] at *; omega) | (simp [intsFrom_len]; omega)))] [(1, .t (.c (.d (.sl 3 (bys.map Term.d))))), (2, .t (.c (.d (.sl 2 (vs.map ziD))))), (3, vp 5 0), (9, .t (.c (.own 7 (intsFrom 0 (min i bys.length)).length))), (10, .t (.c (.own 12 (((List.range i).map (innerZ bys vs)) ++ [x13]).length))), (11, vi .i64 (i : Int))] [(5, .box ([.d (.sl 3 (t.parts.map Part.d))] ++ zi t.k)), (7, .row 3 1 ((intsFrom 0 (min i bys.length)).map intD)), (12, .row 26 2 ((((List.range i).map (innerZ bys vs)) ++ [x13]).map ziD))] (by kernel_rfl) h ?_; clear h; intro a w h
             refine block_n ?_
             refine then_n ?_
             refine rS fam0ok 13 [(1, .add .i64 (m := (i : Int)) (n := 1) (i64_id (by omega) (by omega)))] [(1, .t (.c (.d (.sl 3 (bys.map Term.d))))), (2, .t (.c (.d (.sl 2 (vs.map ziD))))), (3, vp 5 0), (9, .t (.c (.own 7 (intsFrom 0 (min i bys.length)).length))), (10, .t (.c (.own 12 (((List.range i).map (innerZ bys vs)) ++ [x13]).length))), (11, vi .i64 ((i : Int) + 1))] [(5, .box ([.d (.sl 3 (t.parts.map Part.d))] ++ zi t.k)), (7, .row 3 1 ((intsFrom 0 (min i bys.length)).map intD)), (12, .row 26 2 ((((List.range i).map (innerZ bys vs)) ++ [x13]).map ziD))] (by kernel_rfl) h ?_; clear h; intro a w h
             refine then_n ?_
             have hn1 : (intsFrom 0 (min (i + 1) bys.length)) = (intsFrom 0 (min i bys.length)) := by rw [show min (i + 1) bys.length = min i bys.length by omega]
             have hn3 : innerZ bys vs i = x13 := by exact inner_val hc16' hx13
             have hn2 : ((List.range (i + 1)).map (innerZ bys vs)) = (((List.range i).map (innerZ bys vs)) ++ [x13]) := by rw [List.range_succ, List.map_append, List.map_singleton, hn3]
             replace h := h.conv (f' := F.of [(1, .t (.c (.d (.sl 3 (bys.map Term.d))))), (2, .t (.c (.d (.sl 2 (vs.map ziD))))), (3, vp 5 0), (9, .t (.c (.own 7 (intsFrom 0 (min (i + 1) bys.length)).length))), (10, .t (.c (.own 12 ((List.range (i + 1)).map (innerZ bys vs)).length))), (11, vi .i64 ((i : Int) + 1))] [(5, .box ([.d (.sl 3 (t.parts.map Part.d))] ++ zi t.k)), (7, .row 3 1 ((intsFrom 0 (min (i + 1) bys.length)).map intD)), (12, .row 26 2 (((List.range (i + 1)).map (innerZ bys vs)).map ziD))]) (by rw [hn1, hn2])
             replace h := renS 12 8 [(1, .t (.c (.d (.sl 3 (bys.map Term.d))))), (2, .t (.c (.d (.sl 2 (vs.map ziD))))), (3, vp 5 0), (9, .t (.c (.own 7 (intsFrom 0 (min (i + 1) bys.length)).length))), (10, .t (.c (.own 8 ((List.range (i + 1)).map (innerZ bys vs)).length))), (11, vi .i64 ((i : Int) + 1))] [(5, .box ([.d (.sl 3 (t.parts.map Part.d))] ++ zi t.k)), (7, .row 3 1 ((intsFrom 0 (min (i + 1) bys.length)).map intD)), (8, .row 26 2 (((List.range (i + 1)).map (innerZ bys vs)).map ziD))] h (by kernel_rfl) (by kernel_rfl) (by kernel_rfl)
             refine roundS (x := i) (y := (i + 1)) h ?_ ?_ (by kernel_rfl) (by kernel_rfl)
             ·show i + 1 ≤ 8
              omega
             ·show 8 - (i + 1) < 8 - i
              omega
           ·have hc17 := hc; clear hc
            have hc17' := of_decide_eq_false hc17
            refine wp_skip ?_
            refine then_n ?_
            refine wp_seq ?_
            refine rSeq fam0ok 13 [(2, .len (c := (.d (.sl 3 (bys.map Term.d)))) (n := bys.length) (lenC_map _ _ _))] [(1, .t (.c (.d (.sl 3 (bys.map Term.d))))), (2, .t (.c (.d (.sl 2 (vs.map ziD))))), (3, vp 5 0), (9, .t (.c (.own 7 (intsFrom 0 (min i bys.length)).length))), (10, .t (.c (.own 8 ((List.range i).map (innerZ bys vs)).length))), (11, vi .i64 (i : Int)), (12, vp 9 0), (75, vb (decide ((i : Int) < (bys.length : Int))))] [(5, .box ([.d (.sl 3 (t.parts.map Part.d))] ++ zi t.k)), (7, .row 3 1 ((intsFrom 0 (min i bys.length)).map intD)), (8, .row 26 2 (((List.range i).map (innerZ bys vs)).map ziD)), (9, .box [.d (.raw (.bool false)), .d (nsl [])])] (by kernel_rfl) h ?_; clear h; intro a w h
            refine condS (decide ((i : Int) < (bys.length : Int))) h rfl (fun hc => ?_) (fun hc => ?_)
            ·have hc18 := hc; clear hc
             have hc18' := of_decide_eq_true hc18
             refine rSeq fam0ok 13 [(2, .gen _ _ _ fun _ _ _ _ => Op.buildD (d := 78) (len := 1) (rows := [(i : Int)].map intD) (rs := [(77, vi .i64 (i : Int))]) tb_0 (.cons (i := 0) (OV.tmp 77 _) (.nil)) (by kernel_rfl) rfl (by simp [intD]) (by decide) (by decide)), (3, .gen _ _ _ fun _ _ _ _ => Op.appOD (d := 79) (t := 76) (u := 78) (n := 7) (n' := 13) (len := (intsFrom 0 (min i bys.length)).length) (len' := ((intsFrom 0 (min i bys.length)) ++ [(i : Int)]).length) (rows := (intsFrom 0 (min i bys.length)).map intD) (rows2 := [(i : Int)].map intD) (rows' := ((intsFrom 0 (min i bys.length)) ++ [(i : Int)]).map intD) tb_2 (by first | exact (List.length_map _).symm | simp) (by first | (rw [List.length_append, List.length_map]; done) | simp) (by simp) (by simp [intD]) (by first | omega | (simp [intsFrom_len] at *; omega) | (simp [intsFrom_len]; omega)))] [(1, .t (.c (.d (.sl 3 (bys.map Term.d))))), (2, .t (.c (.d (.sl 2 (vs.map ziD))))), (3, vp 5 0), (9, .t (.c (.own 13 ((intsFrom 0 (min i bys.length)) ++ [(i : Int)]).length))), (10, .t (.c (.own 8 ((List.range i).map (innerZ bys vs)).length))), (11, vi .i64 (i : Int)), (12, vp 9 0)] [(5, .box ([.d (.sl 3 (t.parts.map Part.d))] ++ zi t.k)), (8, .row 26 2 (((List.range i).map (innerZ bys vs)).map ziD)), (9, .box [.d (.raw (.bool false)), .d (nsl [])]), (13, .row 3 1 (((intsFrom 0 (min i bys.length)) ++ [(i : Int)]).map intD))] (by kernel_rfl) h ?_; clear h; intro a w h
             obtain ⟨x16, hx16⟩ : ∃ z_ : Term, bys[i]? = some z_ := ⟨_, List.getElem?_eq_getElem (by first | omega | (simp at *; omega))⟩
             obtain ⟨r17, er17, vr17, or17, lr17⟩ := mkZ (v := valT x16 vs) (m := 41) (valT_len (show TOk 30 20 x16 from hbb x16 (List.mem_of_getElem? hx16)) (by decide) hvo)
             refine rS fam0ok 14 [(2, .gen _ _ _ fun _ _ _ _ => Op.idxD (d := 82) (t := 80) (k := .i64) tn_7 (map_at hx16 (f := Term.d)) (OV.tmp 81 _)), (5, .call (Fn.cast (SValue x16 vs (show TOk 30 20 x16 from hbb x16 (List.mem_of_getElem? hx16)) (by decide) (by decide) hvo) (congrArg vz er17.symm)) ty_6)] [(1, .t (.c (.d (.sl 3 (bys.map Term.d))))), (2, .t (.c (.d (.sl 2 (vs.map ziD))))), (3, vp 5 0), (9, .t (.c (.own 13 ((intsFrom 0 (min i bys.length)) ++ [(i : Int)]).length))), (10, .t (.c (.own 8 ((List.range i).map (innerZ bys vs)).length))), (11, vi .i64 (i : Int)), (12, vp 9 0)] [(5, .box ([.d (.sl 3 (t.parts.map Part.d))] ++ zi t.k)), (8, .row 26 2 (((List.range i).map (innerZ bys vs)).map ziD)), (9, .box (zi r17)), (13, .row 3 1 (((intsFrom 0 (min i bys.length)) ++ [(i : Int)]).map intD))] (by kernel_rfl) h ?_; clear h; intro a w h
             refine then_n ?_
             refine rS fam0ok 14 [(2, .gen _ _ _ fun _ _ _ _ => Op.buildD (d := 88) (len := 1) (rows := [r17].map ziD) (rs := [(87, vz r17)]) ty_5 (.cons (i := 0) (OV.tmp 87 _) (.nil)) (by kernel_rfl) rfl (by simp [ziD]) (by decide) (by decide)), (3, .gen _ _ _ fun _ _ _ _ => Op.appOD (d := 89) (t := 86) (u := 88) (n := 8) (n' := 14) (len := ((List.range i).map (innerZ bys vs)).length) (len' := (((List.range i).map (innerZ bys vs)) ++ [r17]).length) (rows := ((List.range i).map (innerZ bys vs)).map ziD) (rows2 := [r17].map ziD) (rows' := (((List.range i).map (innerZ bys vs)) ++ [r17]).map ziD) ud_10 (by first | exact (List.length_map _).symm | simp) (by first | (rw [List.length_append, List.length_map]; done) | simp) (by simp) (by simp [ziD]) (by first | omega | (simp [intsFrom_len] at *; omega) | (simp [intsFrom_len]; omega)))] [(1, .t (.c (.d (.sl 3 (bys.map Term.d))))), (2, .t (.c (.d (.sl 2 (vs.map ziD))))), (3, vp 5 0), (9, .t (.c (.own 13 ((intsFrom 0 (min i bys.length)) ++ [(i : Int)]).length))), (10, .t (.c (.own 14 (((List.range i).map (innerZ bys vs)) ++ [r17]).length))), (11, vi .i64 (i : Int))] [(5, .box ([.d (.sl 3 (t.parts.map Part.d))] ++ zi t.k)), (13, .row 3 1 (((intsFrom 0 (min i bys.length)) ++ [(i : Int)]).map intD)), (14, .row 26 2 ((((List.range i).map (innerZ bys vs)) ++ [r17]).map ziD))] (by kernel_rfl) h ?_; clear h; intro a w h
             refine block_n ?_
             refine then_n ?_
             refine rS fam0ok 15 [(1, .add .i64 (m := (i : Int)) (n := 1) (i64_id (by omega) (by omega)))] [(1, .t (.c (.d (.sl 3 (bys.map Term.d))))), (2, .t (.c (.d (.sl 2 (vs.map ziD))))), (3, vp 5 0), (9, .t (.c (.own 13 ((intsFrom 0 (min i bys.length)) ++ [(i : Int)]).length))), (10, .t (.c (.own 14 (((List.range i).map (innerZ bys vs)) ++ [r17]).length))), (11, vi .i64 ((i : Int) + 1))] [(5, .box ([.d (.sl 3 (t.parts.map Part.d))] ++ zi t.k)), (13, .row 3 1 (((intsFrom 0 (min i bys.length)) ++ [(i : Int)]).map intD)), (14, .row 26 2 ((((List.range i).map (innerZ bys vs)) ++ [r17]).map ziD))] (by kernel_rfl) h ?_; clear h; intro a w h
             refine then_n ?_
             have hn1 : (intsFrom 0 (min (i + 1) bys.length)) = ((intsFrom 0 (min i bys.length)) ++ [(i : Int)]) := by rw [show min (i + 1) bys.length = min i bys.length + 1 by omega, intsFrom_snoc, show 0 + min i bys.length = i by omega]
             have hn3 : innerZ bys vs i = r17 := by rw [er17]; exact inner_by hx16
             have hn2 : ((List.range (i + 1)).map (innerZ bys vs)) = (((List.range i).map (innerZ bys vs)) ++ [r17]) := by rw [List.range_succ, List.map_append, List.map_singleton, hn3]
             replace h := h.conv (f' := F.of [(1, .t (.c (.d (.sl 3 (bys.map Term.d))))), (2, .t (.c (.d (.sl 2 (vs.map ziD))))), (3, vp 5 0), (9, .t (.c (.own 13 (intsFrom 0 (min (i + 1) bys.length)).length))), (10, .t (.c (.own 14 ((List.range (i + 1)).map (innerZ bys vs)).length))), (11, vi .i64 ((i : Int) + 1))] [(5, .box ([.d (.sl 3 (t.parts.map Part.d))] ++ zi t.k)), (13, .row 3 1 ((intsFrom 0 (min (i + 1) bys.length)).map intD)), (14, .row 26 2 (((List.range (i + 1)).map (innerZ bys vs)).map ziD))]) (by rw [hn1, hn2])
             replace h := renS 13 7 [(1, .t (.c (.d (.sl 3 (bys.map Term.d))))), (2, .t (.c (.d (.sl 2 (vs.map ziD))))), (3, vp 5 0), (9, .t (.c (.own 7 (intsFrom 0 (min (i + 1) bys.length)).length))), (10, .t (.c (.own 14 ((List.range (i + 1)).map (innerZ bys vs)).length))), (11, vi .i64 ((i : Int) + 1))] [(5, .box ([.d (.sl 3 (t.parts.map Part.d))] ++ zi t.k)), (14, .row 26 2 (((List.range (i + 1)).map (innerZ bys vs)).map ziD)), (7, .row 3 1 ((intsFrom 0 (min (i + 1) bys.length)).map intD))] h (by kernel_rfl) (by kernel_rfl) (by kernel_rfl)
             replace h := renS 14 8 [(1, .t (.c (.d (.sl 3 (bys.map Term.d))))), (2, .t (.c (.d (.sl 2 (vs.map ziD))))), (3, vp 5 0), (9, .t (.c (.own 7 (intsFrom 0 (min (i + 1) bys.length)).length))), (10, .t (.c (.own 8 ((List.range (i + 1)).map (innerZ bys vs)).length))), (11, vi .i64 ((i : Int) + 1))] [(5, .box ([.d (.sl 3 (t.parts.map Part.d))] ++ zi t.k)), (7, .row 3 1 ((intsFrom 0 (min (i + 1) bys.length)).map intD)), (8, .row 26 2 (((List.range (i + 1)).map (innerZ bys vs)).map ziD))] h (by kernel_rfl) (by kernel_rfl) (by kernel_rfl)
             refine roundS (x := i) (y := (i + 1)) h ?_ ?_ (by kernel_rfl) (by kernel_rfl)
             ·show i + 1 ≤ 8
              omega
             ·show 8 - (i + 1) < 8 - i
              omega
            ·have hc19 := hc; clear hc
             have hc19' := of_decide_eq_false hc19
             refine wp_skip ?_
             refine then_n ?_
             refine rS fam0ok 15 [(2, .gen _ _ _ fun _ _ _ _ => Op.buildD (d := 88) (len := 1) (rows := [(ZI.mk false [])].map ziD) (rs := [(87, .t (.agg [.d (.raw (.bool false)), .d (nsl [])]))]) ty_5 (.cons (i := 0) (OV.tmp 87 _) (.nil)) (by kernel_rfl) rfl (by simp [ziD]) (by decide) (by decide)), (3, .gen _ _ _ fun _ _ _ _ => Op.appOD (d := 89) (t := 86) (u := 88) (n := 8) (n' := 15) (len := ((List.range i).map (innerZ bys vs)).length) (len' := (((List.range i).map (innerZ bys vs)) ++ [(ZI.mk false [])]).length) (rows := ((List.range i).map (innerZ bys vs)).map ziD) (rows2 := [(ZI.mk false [])].map ziD) (rows' := (((List.range i).map (innerZ bys vs)) ++ [(ZI.mk false [])]).map ziD) ud_10 (by first | exact (List.length_map _).symm | simp) (by first | (rw [List.length_append, List.length_map]; done) | simp) (by simp) (by simp [ziD]) (by first | omega | (simp [intsFrom_len] at *; omega) | (simp [intsFrom_len]; omega)))] [(1, .t (.c (.d (.sl 3 (bys.map Term.d))))), (2, .t (.c (.d (.sl 2 (vs.map ziD))))), (3, vp 5 0), (9, .t (.c (.own 7 (intsFrom 0 (min i bys.length)).length))), (10, .t (.c (.own 15 (((List.range i).map (innerZ bys vs)) ++ [(ZI.mk false [])]).length))), (11, vi .i64 (i : Int))] [(5, .box ([.d (.sl 3 (t.parts.map Part.d))] ++ zi t.k)), (7, .row 3 1 ((intsFrom 0 (min i bys.length)).map intD)), (15, .row 26 2 ((((List.range i).map (innerZ bys vs)) ++ [(ZI.mk false [])]).map ziD))] (by kernel_rfl) h ?_; clear h; intro a w h
             refine block_n ?_
             refine then_n ?_
             refine rS fam0ok 16 [(1, .add .i64 (m := (i : Int)) (n := 1) (i64_id (by omega) (by omega)))] [(1, .t (.c (.d (.sl 3 (bys.map Term.d))))), (2, .t (.c (.d (.sl 2 (vs.map ziD))))), (3, vp 5 0), (9, .t (.c (.own 7 (intsFrom 0 (min i bys.length)).length))), (10, .t (.c (.own 15 (((List.range i).map (innerZ bys vs)) ++ [(ZI.mk false [])]).length))), (11, vi .i64 ((i : Int) + 1))] [(5, .box ([.d (.sl 3 (t.parts.map Part.d))] ++ zi t.k)), (7, .row 3 1 ((intsFrom 0 (min i bys.length)).map intD)), (15, .row 26 2 ((((List.range i).map (innerZ bys vs)) ++ [(ZI.mk false [])]).map ziD))] (by kernel_rfl) h ?_; clear h; intro a w h
             refine then_n ?_
             have hn1 : (intsFrom 0 (min (i + 1) bys.length)) = (intsFrom 0 (min i bys.length)) := by rw [show min (i + 1) bys.length = min i bys.length by omega]
             have hn3 : innerZ bys vs i = (ZI.mk false []) := by exact inner_no hc19' hc17'
             have hn2 : ((List.range (i + 1)).map (innerZ bys vs)) = (((List.range i).map (innerZ bys vs)) ++ [(ZI.mk false [])]) := by rw [List.range_succ, List.map_append, List.map_singleton, hn3]
             replace h := h.conv (f' := F.of [(1, .t (.c (.d (.sl 3 (bys.map Term.d))))), (2, .t (.c (.d (.sl 2 (vs.map ziD))))), (3, vp 5 0), (9, .t (.c (.own 7 (intsFrom 0 (min (i + 1) bys.length)).length))), (10, .t (.c (.own 15 ((List.range (i + 1)).map (innerZ bys vs)).length))), (11, vi .i64 ((i : Int) + 1))] [(5, .box ([.d (.sl 3 (t.parts.map Part.d))] ++ zi t.k)), (7, .row 3 1 ((intsFrom 0 (min (i + 1) bys.length)).map intD)), (15, .row 26 2 (((List.range (i + 1)).map (innerZ bys vs)).map ziD))]) (by rw [hn1, hn2])
             replace h := renS 15 8 [(1, .t (.c (.d (.sl 3 (bys.map Term.d))))), (2, .t (.c (.d (.sl 2 (vs.map ziD))))), (3, vp 5 0), (9, .t (.c (.own 7 (intsFrom 0 (min (i + 1) bys.length)).length))), (10, .t (.c (.own 8 ((List.range (i + 1)).map (innerZ bys vs)).length))), (11, vi .i64 ((i : Int) + 1))] [(5, .box ([.d (.sl 3 (t.parts.map Part.d))] ++ zi t.k)), (7, .row 3 1 ((intsFrom 0 (min (i + 1) bys.length)).map intD)), (8, .row 26 2 (((List.range (i + 1)).map (innerZ bys vs)).map ziD))] h (by kernel_rfl) (by kernel_rfl) (by kernel_rfl)
             refine roundS (x := i) (y := (i + 1)) h ?_ ?_ (by kernel_rfl) (by kernel_rfl)
             ·show i + 1 ≤ 8
              omega
             ·show 8 - (i + 1) < 8 - i
              omega
          ·have hc20 := hc; clear hc
           have hc20' := of_decide_eq_false hc20
           refine wp_exit ?_
           refine then_x ?_
           refine then_x ?_
           refine inBlock_exit ?_
           refine then_n ?_
           refine wp_seq ?_
           have hi8 : i = 8 := by omega
           have hn1 : (intsFrom 0 (min i bys.length)) = intsFrom 0 bys.length := by rw [hi8, Nat.min_eq_right (by omega)]
           have hn2 : ((List.range i).map (innerZ bys vs)) = ((List.range 8).map (innerZ bys vs)) := by rw [hi8]
           replace h := h.conv (f' := F.of [(1, .t (.c (.d (.sl 3 (bys.map Term.d))))), (2, .t (.c (.d (.sl 2 (vs.map ziD))))), (3, vp 5 0), (9, .t (.c (.own 7 (intsFrom 0 bys.length).length))), (10, .t (.c (.own 8 ((List.range 8).map (innerZ bys vs)).length))), (11, vi .i64 (i : Int)), (60, vb (decide ((i : Int) < 8)))] [(5, .box ([.d (.sl 3 (t.parts.map Part.d))] ++ zi t.k)), (7, .row 3 1 ((intsFrom 0 bys.length).map intD)), (8, .row 26 2 (((List.range 8).map (innerZ bys vs)).map ziD))]) (by rw [← hn1, ← hn2])
           replace h := pubS 7 1 3 ((intsFrom 0 bys.length).map intD) [(1, .t (.c (.d (.sl 3 (bys.map Term.d))))), (2, .t (.c (.d (.sl 2 (vs.map ziD))))), (3, vp 5 0), (9, .t (.c (.d (.sl 1 ((intsFrom 0 bys.length).map intD))))), (10, .t (.c (.own 8 ((List.range 8).map (innerZ bys vs)).length))), (11, vi .i64 (i : Int)), (60, vb (decide ((i : Int) < 8)))] [(5, .box ([.d (.sl 3 (t.parts.map Part.d))] ++ zi t.k)), (8, .row 26 2 (((List.range 8).map (innerZ bys vs)).map ziD))] h rfl (show AllEq _ [(intsFrom 0 bys.length).length] from ⟨by first | exact (List.length_map _).symm | simp, trivial⟩) trivial (by kernel_rfl) (by kernel_rfl)
           replace h := pubS 8 2 26 (((List.range 8).map (innerZ bys vs)).map ziD) [(1, .t (.c (.d (.sl 3 (bys.map Term.d))))), (2, .t (.c (.d (.sl 2 (vs.map ziD))))), (3, vp 5 0), (9, .t (.c (.d (.sl 1 ((intsFrom 0 bys.length).map intD))))), (10, .t (.c (.d (.sl 2 (((List.range 8).map (innerZ bys vs)).map ziD))))), (11, vi .i64 (i : Int)), (60, vb (decide ((i : Int) < 8)))] [(5, .box ([.d (.sl 3 (t.parts.map Part.d))] ++ zi t.k))] h rfl (show AllEq _ [((List.range 8).map (innerZ bys vs)).length] from ⟨by first | exact (List.length_map _).symm | simp, trivial⟩) trivial (by kernel_rfl) (by kernel_rfl)
           refine rSeq fam0ok 16 [(2, .len (c := (.d (.sl 3 (t.parts.map Part.d)))) (n := t.parts.length) (lenC_map _ _ _))] [(1, .t (.c (.d (.sl 3 (bys.map Term.d))))), (2, .t (.c (.d (.sl 2 (vs.map ziD))))), (3, vp 5 0), (9, .t (.c (.d (.sl 1 ((intsFrom 0 bys.length).map intD))))), (10, .t (.c (.d (.sl 2 (((List.range 8).map (innerZ bys vs)).map ziD))))), (91, .t (.c (.d (.sl 3 (t.parts.map Part.d))))), (92, vi .i64 (t.parts.length : Int)), (93, vi .i64 0)] [(5, .box ([.d (.sl 3 (t.parts.map Part.d))] ++ zi t.k))] (by kernel_rfl) h ?_; clear h; intro a w h
           refine wp_block ?_
           refine loopS (ι := (Nat)) (fun (z_ : (Nat)) => match z_ with | k => k ≤ t.parts.length)
             (fun (z_ : (Nat)) => match z_ with | k => [(1, .t (.c (.d (.sl 3 (bys.map Term.d))))), (2, .t (.c (.d (.sl 2 (vs.map ziD))))), (3, vp 5 0), (9, .t (.c (.d (.sl 1 ((intsFrom 0 bys.length).map intD))))), (10, .t (.c (.d (.sl 2 (((List.range 8).map (innerZ bys vs)).map ziD))))), (91, .t (.c (.d (.sl 3 (t.parts.map Part.d))))), (92, vi .i64 (t.parts.length : Int)), (93, vi .i64 (k : Int))])
             (fun (z_ : (Nat)) => match z_ with | k => [(5, .box ([.d (.sl 3 (t.parts.map Part.d))] ++ zi t.k))])
             (fun (z_ : (Nat)) => match z_ with | k => t.parts.length - k) 0 ?_ h (by kernel_rfl) (by kernel_rfl) ?_
           ·exact Nat.zero_le _
           ·clear h; rintro k a w hI h
            change St _ (F.of [(1, .t (.c (.d (.sl 3 (bys.map Term.d))))), (2, .t (.c (.d (.sl 2 (vs.map ziD))))), (3, vp 5 0), (9, .t (.c (.d (.sl 1 ((intsFrom 0 bys.length).map intD))))), (10, .t (.c (.d (.sl 2 (((List.range 8).map (innerZ bys vs)).map ziD))))), (91, .t (.c (.d (.sl 3 (t.parts.map Part.d))))), (92, vi .i64 (t.parts.length : Int)), (93, vi .i64 (k : Int))] [(5, .box ([.d (.sl 3 (t.parts.map Part.d))] ++ zi t.k))]) a w at h
            refine rSeq fam0ok 16 [] [(1, .t (.c (.d (.sl 3 (bys.map Term.d))))), (2, .t (.c (.d (.sl 2 (vs.map ziD))))), (3, vp 5 0), (9, .t (.c (.d (.sl 1 ((intsFrom 0 bys.length).map intD))))), (10, .t (.c (.d (.sl 2 (((List.range 8).map (innerZ bys vs)).map ziD))))), (91, .t (.c (.d (.sl 3 (t.parts.map Part.d))))), (92, vi .i64 (t.parts.length : Int)), (93, vi .i64 (k : Int)), (94, vb (decide ((k : Int) < (t.parts.length : Int))))] [(5, .box ([.d (.sl 3 (t.parts.map Part.d))] ++ zi t.k))] (by kernel_rfl) h ?_; clear h; intro a w h
            refine wp_seq ?_
            refine condS (decide ((k : Int) < (t.parts.length : Int))) h rfl (fun hc => ?_) (fun hc => ?_)
            ·have hc21 := hc; clear hc
             have hc21' := of_decide_eq_true hc21
             refine wp_skip ?_
             refine then_n ?_
             refine wp_seq ?_
             refine wp_block ?_
             obtain ⟨x18, hx18⟩ : ∃ z_ : Part, t.parts[k]? = some z_ := ⟨_, List.getElem?_eq_getElem (by first | omega | (simp at *; omega))⟩
             refine rSeq fam0ok 16 [(0, .gen _ _ _ fun _ _ _ _ => Op.idxD (d := 95) (t := 91) (k := .i64) ta_0 (map_at hx18 (f := Part.d)) (OV.tmp 93 _))] [(1, .t (.c (.d (.sl 3 (bys.map Term.d))))), (2, .t (.c (.d (.sl 2 (vs.map ziD))))), (3, vp 5 0), (9, .t (.c (.d (.sl 1 ((intsFrom 0 bys.length).map intD))))), (10, .t (.c (.d (.sl 2 (((List.range 8).map (innerZ bys vs)).map ziD))))), (14, vp 16 0), (91, .t (.c (.d (.sl 3 (t.parts.map Part.d))))), (92, vi .i64 (t.parts.length : Int)), (93, vi .i64 (k : Int))] [(5, .box ([.d (.sl 3 (t.parts.map Part.d))] ++ zi t.k)), (16, .box ([.d (.raw (.int .i64 x18.v))] ++ zi x18.c))] (by kernel_rfl) h ?_; clear h; intro a w h
             refine rSeq fam0ok 17 [] [(1, .t (.c (.d (.sl 3 (bys.map Term.d))))), (2, .t (.c (.d (.sl 2 (vs.map ziD))))), (3, vp 5 0), (9, .t (.c (.d (.sl 1 ((intsFrom 0 bys.length).map intD))))), (10, .t (.c (.d (.sl 2 (((List.range 8).map (innerZ bys vs)).map ziD))))), (91, .t (.c (.d (.sl 3 (t.parts.map Part.d))))), (92, vi .i64 (t.parts.length : Int)), (93, vi .i64 (k : Int)), (99, vb (decide (x18.v > 7)))] [(5, .box ([.d (.sl 3 (t.parts.map Part.d))] ++ zi t.k))] (by kernel_rfl) h ?_; clear h; intro a w h
             refine condS (decide (x18.v > 7)) h rfl (fun hc => ?_) (fun hc => ?_)
             ·have hc22 := hc; clear hc
              have hc22' := of_decide_eq_true hc22
              refine rSeq fam0ok 17 [] [(1, .t (.c (.d (.sl 3 (bys.map Term.d))))), (2, .t (.c (.d (.sl 2 (vs.map ziD))))), (3, vp 5 0), (6, vb true), (9, .t (.c (.d (.sl 1 ((intsFrom 0 bys.length).map intD))))), (10, .t (.c (.d (.sl 2 (((List.range 8).map (innerZ bys vs)).map ziD))))), (91, .t (.c (.d (.sl 3 (t.parts.map Part.d))))), (92, vi .i64 (t.parts.length : Int)), (93, vi .i64 (k : Int))] [(5, .box ([.d (.sl 3 (t.parts.map Part.d))] ++ zi t.k))] (by kernel_rfl) h ?_; clear h; intro a w h
              refine wp_ret ?_
              refine block_r ?_
              refine then_r ?_
              refine then_r ?_
              refine block_r ?_
              refine then_r ?_
              refine retS [.c (.d (.raw (.bool true)))] h Exit.ret (.inl rfl)  rfl ⟨RV.tmp _ _ rfl, trivial⟩ ?_ (by kernel_rfl) (by kernel_rfl)
              rfl
             ·have hc23 := hc; clear hc
              have hc23' := of_decide_eq_false hc23
              refine wp_skip ?_
              refine block_n ?_
              refine then_n ?_
              refine rS fam0ok 17 [(0, .add .i64 (m := (k : Int)) (n := 1) (i64_id (by omega) (by omega)))] [(1, .t (.c (.d (.sl 3 (bys.map Term.d))))), (2, .t (.c (.d (.sl 2 (vs.map ziD))))), (3, vp 5 0), (9, .t (.c (.d (.sl 1 ((intsFrom 0 bys.length).map intD))))), (10, .t (.c (.d (.sl 2 (((List.range 8).map (innerZ bys vs)).map ziD))))), (91, .t (.c (.d (.sl 3 (t.parts.map Part.d))))), (92, vi .i64 (t.parts.length : Int)), (93, vi .i64 ((k : Int) + 1))] [(5, .box ([.d (.sl 3 (t.parts.map Part.d))] ++ zi t.k))] (by kernel_rfl) h ?_; clear h; intro a w h
              refine then_n ?_
              refine roundS (x := k) (y := (k + 1)) h ?_ ?_ (by kernel_rfl) (by kernel_rfl)
              ·have := at_lt hx18; omega
              ·show t.parts.length - (k + 1) < t.parts.length - k
               have := at_lt hx18; omega
            ·have hc24 := hc; clear hc
             have hc24' := of_decide_eq_false hc24
             refine wp_exit ?_
             refine then_x ?_
             refine then_x ?_
             refine inBlock_exit ?_
             refine then_n ?_
             obtain ⟨r20, er20, vr20, or20, lr20⟩ := mkZ (v := valT (putZ t (intsFrom 0 bys.length) bys) vs) (m := 65) (valT_len (putZ_tok hta hbb) (by decide) hvo)
             obtain ⟨r21, er21, vr21, or21, lr21⟩ := mkZ (v := valT t ((List.range 8).map (innerZ bys vs))) (m := 62) (valT_len hta (by decide) (inner_ok hbb hvo))
             refine rSeq fam0ok 17 [(3, .call (SPutAll t (intsFrom 0 bys.length) bys hta hbb (by rw [intsFrom_len]; omega) (by omega)) tq_14), (5, .call (Fn.cast (SValue (putZ t (intsFrom 0 bys.length) bys) vs (putZ_tok hta hbb) (by decide) (by decide) hvo) (congrArg vz er20.symm)) ty_6), (8, .call (Fn.cast (SValue t ((List.range 8).map (innerZ bys vs)) hta (by decide) (by decide) (inner_ok hbb hvo)) (congrArg vz er21.symm)) ty_6), (9, .call (Fn.cast (SRCmp r20 r21 or20 or21 (by omega) (by omega)) (congrArg (vi .i64) (cmpZ_eq (by rw [vr20, vr21]; exact put_law (by omega) (by omega))))) ub_1), (10, .cmp (op := .eql) (m := 0) (n := 0) (b := true) .i64 rfl)] [(6, vb true)] [] (by kernel_rfl) h ?_; clear h; intro a w h
             refine wp_ret ?_
             refine retS [.c (.d (.raw (.bool true)))] h Exit.ret (.inl rfl)  rfl ⟨RV.tmp _ _ rfl, trivial⟩ ?_ (by kernel_rfl) (by kernel_rfl)
             rfl
    ·have hc25 := hc; clear hc
     refine rSeq fam0ok 17 [(2, .len (c := (.d (.sl 3 (t.parts.map Part.d)))) (n := t.parts.length) (lenC_map _ _ _)), (3, .cmp (op := .gtr) (m := (t.parts.length : Int)) (n := 12) (b := false) .i64 hc2), (6, .gen _ _ _ fun _ _ _ _ => Op.buildD (d := 27) (len := 1) (rows := [t].map Term.d) (rs := [(26, .t (.agg ([.d (.sl 3 (t.parts.map Part.d))] ++ zi t.k)))]) tq_13 (.cons (i := 0) (OV.tmp 26 _) (.nil)) (by kernel_rfl) rfl (by simp [Term.d]) (by decide) (by decide)), (7, .call (Fn.cast (Sfew [t] fa hfa (by simp)) (congrArg vb hc3)) ua_3), (12, .call (Fn.cast (Sfew bys fb hfb hl2) (congrArg vb hc25)) ua_3)] [(1, .t (.c (.d (.sl 3 (bys.map Term.d))))), (2, .t (.c (.d (.sl 2 (vs.map ziD))))), (3, vp 5 0), (6, vb false), (45, vb true)] [(5, .box ([.d (.sl 3 (t.parts.map Part.d))] ++ zi t.k))] (by kernel_rfl) h ?_; clear h; intro a w h
     refine condS true h rfl (fun hc => ?_) (fun hc => ?_)
     ·clear hc
      refine rSeq fam0ok 17 [] [(1, .t (.c (.d (.sl 3 (bys.map Term.d))))), (2, .t (.c (.d (.sl 2 (vs.map ziD))))), (3, vp 5 0), (6, vb true)] [(5, .box ([.d (.sl 3 (t.parts.map Part.d))] ++ zi t.k))] (by kernel_rfl) h ?_; clear h; intro a w h
      refine wp_ret ?_
      refine then_r ?_
      refine retS [.c (.d (.raw (.bool true)))] h Exit.ret (.inl rfl)  rfl ⟨RV.tmp _ _ rfl, trivial⟩ ?_ (by kernel_rfl) (by kernel_rfl)
      rfl
     ·cases hc
   ·have hc26 := hc; clear hc
    refine rSeq fam0ok 17 [(2, .len (c := (.d (.sl 3 (t.parts.map Part.d)))) (n := t.parts.length) (lenC_map _ _ _)), (3, .cmp (op := .gtr) (m := (t.parts.length : Int)) (n := 12) (b := false) .i64 hc2), (6, .gen _ _ _ fun _ _ _ _ => Op.buildD (d := 27) (len := 1) (rows := [t].map Term.d) (rs := [(26, .t (.agg ([.d (.sl 3 (t.parts.map Part.d))] ++ zi t.k)))]) tq_13 (.cons (i := 0) (OV.tmp 26 _) (.nil)) (by kernel_rfl) rfl (by simp [Term.d]) (by decide) (by decide)), (7, .call (Fn.cast (Sfew [t] fa hfa (by simp)) (congrArg vb hc26)) ua_3)] [(1, .t (.c (.d (.sl 3 (bys.map Term.d))))), (2, .t (.c (.d (.sl 2 (vs.map ziD))))), (3, vp 5 0), (6, vb false), (45, vb true)] [(5, .box ([.d (.sl 3 (t.parts.map Part.d))] ++ zi t.k))] (by kernel_rfl) h ?_; clear h; intro a w h
    refine condS true h rfl (fun hc => ?_) (fun hc => ?_)
    ·clear hc
     refine rSeq fam0ok 17 [] [(1, .t (.c (.d (.sl 3 (bys.map Term.d))))), (2, .t (.c (.d (.sl 2 (vs.map ziD))))), (3, vp 5 0), (6, vb true)] [(5, .box ([.d (.sl 3 (t.parts.map Part.d))] ++ zi t.k))] (by kernel_rfl) h ?_; clear h; intro a w h
     refine wp_ret ?_
     refine then_r ?_
     refine retS [.c (.d (.raw (.bool true)))] h Exit.ret (.inl rfl)  rfl ⟨RV.tmp _ _ rfl, trivial⟩ ?_ (by kernel_rfl) (by kernel_rfl)
     rfl
    ·cases hc
theorem STermPutValuesL (t : Term) (bys : List Term) (vs : List ZI) (hL : Fn Tryz.prog 8 [] [] (vb true) []) (ht : TLb t) (hb : bys.length ≤ maxLen ∧ ∀ b ∈ bys, TLb b) (hv : ∀ y ∈ vs, Lb y.abs) : Fn Tryz.prog 7 [] [vd t.d, .t (.c (.d (.sl 3 (bys.map Term.d)))), .t (.c (.d (.sl 2 (vs.map ziD))))] (vb true) [] := by
 have key : ∀ ts : List Term, ∃ f : Bool, f = true ↔ ∀ t_ ∈ ts, Few1 t_ := fun ts => by
  by_cases h : ∀ t_ ∈ ts, Few1 t_
  ·exact ⟨true, fun _ => h, fun _ => rfl⟩
  ·exact ⟨false, fun e => (by cases e), fun e => absurd e h⟩
 obtain ⟨fa, h1⟩ := key [t]
 obtain ⟨fb, h2⟩ := key bys
 exact STermPutValues t bys vs fa fb hL h1 h2 ht hb.2 (by have := hb.1; simp only [maxLen] at this; omega) hv
end Go.Proofs.YtekhnajfdaknnaaGreatDoor.S
end
section
namespace Go.Proofs.YtekhnajfdaknnaaGreatDoor.S
open Go.RowKit

end Go.Proofs.YtekhnajfdaknnaaGreatDoor.S
end
section
namespace Go.Proofs.YtekhnajfdaknnaaGreatDoor.S
open Go.RowKit

open Go.ChangeShapes Go.WideShapes Go.ChangeAt
theorem SlookingC : Fn Tryz.prog 8 [] [] (vb true) [] := Slooking SText2x SName3
section
variable {w : World} {n : Nat}
theorem rep_ZIs : RepN w n 35 (slD 2 ziD) (fun xs => xs.length ≤ maxLen ∧ ∀ x ∈ xs, Lb x.abs) :=
 rep_slice (k := 2) Tryz.underlying35 (by kernel_rfl) (by decide) (fun _ => rfl) rep_ZI
end
theorem STermPutValuesW (t : Term) (bys : List Term) (vs : List ZI) (ht : TLb t) (hb : bys.length ≤ maxLen ∧ ∀ b ∈ bys, TLb b) (hv : vs.length ≤ maxLen ∧ ∀ y ∈ vs, Lb y.abs) : Fn Tryz.prog 7 [] [vd t.d, .t (.c (.d (.sl 3 (bys.map Term.d)))), .t (.c (.d (.sl 2 (vs.map ziD))))] (vb true) [] := STermPutValuesL t bys vs SlookingC ht hb hv.2
end Go.Proofs.YtekhnajfdaknnaaGreatDoor.S
end
section
namespace Go.Proofs.YtekhnajfdaknnaaGreatDoor.termPutValuesDone
open Go.ChangeShapes Go.WideShapes Go.ChangeAt Go.RowKit
open Go.ChangeMaps (open_string shut_string)
open Go.Proofs.YtekhnajfdaknnaaGreatDoor.S

theorem own : ownKnob Tryz.prog.godebug = none := by kernel_rfl
theorem laidOut : laidOutB Tryz.prog = true := by kernel_rfl

def laidL : List (String × DataW Unit) := [("math/bits.deBruijn32tab", Rows.laid_math_bits_deBruijn32tab), ("math/bits.deBruijn64tab", Rows.laid_math_bits_deBruijn64tab), ("internal/strconv.uint64pow10", Rows.laid_internal_strconv_uint64pow10)]
theorem door_met (os : Os) (args : Array Value) : laidMetH Tryz.prog laidL ((World.doorLaid Tryz.prog 400 os).forCall (fun _ _ => 0) ⟨#[], args, []⟩).memory :=
 laidMetH_of_parts3 (fuel := 8) (laidMet_of_run' 8 (by kernel_rfl) (by kernel_rfl)) (by kernel_rfl) (by kernel_rfl)

theorem lifted (os : Os) (started : os.Started) (H : Type) (enc : TypeId × Value → H) :
  ReturnsInHanded {} Tryz.checked os 7 .any (fun w args => (Rows.termPutValuesSpec.pre enc Tryz.prog Tryz.f7 [] false w args ∧ laidMetH Tryz.prog laidL w) ∧ sizedMet enc Tryz.prog Tryz.f7 (OpenSpec.ofChange Rows.termPutValuesSpec) false w args)
   (Rows.termPutValuesSpec.post enc Tryz.prog Tryz.f7 false true false false) := by
 refine returnsInHanded_of_change_and (C := Tryz.checked) (X := fun w _ => laidMetH Tryz.prog laidL w) (fun _ _ _ hh h => h.of_heap hh) own started (by kernel_rfl) Tryz.func7
  (ChangeSpec.witness_shaped (enc := enc) (C := Tryz.checked) (os := os) (X := fun w _ => laidMetH Tryz.prog laidL w) false (World.doorLaid Tryz.prog 400 os) #[.agg #[.slice none 0 0, .bool false, .slice none 0 0], .slice none 0 0, .slice none 0 0] 12 rfl (World.shaped_of_RefB (by kernel_rfl) (by kernel_rfl)) (by kernel_rfl) (by kernel_rfl) (by kernel_rfl) (door_met os _)) ?_
 intro W base args ds gs before hval0 hW _ _ hL _
 have hval : ∀ (j : Nat) t v, Tryz.f7.params[j]? = some t → args[j]? = some v → Value.okWide Tryz.prog W .any base t v := hval0
 have hW' := hW
 obtain ⟨p, q, hA0, hV, rfl, hfz, hnd⟩ := hW
 have hA : DataW.TrodAll enc Tryz.prog W 0 (fun _ => true) true Tryz.f7.params.toList args.toList ds p := hA0
 rw [Tryz.params7] at hA hval
 obtain ⟨v0, vs0, d0, ds0, p0, q0, hargs, rfl, rfl, h0, r0⟩ := trodAll_cons hA
 obtain ⟨v1, vs1, d1, ds1, p1, q1, rfl, rfl, rfl, h1, r1⟩ := trodAll_cons r0
 obtain ⟨v2, vs2, d2, ds2, p2, q2, rfl, rfl, rfl, h2, r2⟩ := trodAll_cons r1
 obtain ⟨rfl, rfl, rfl⟩ := trodAll_nil r2
 obtain rfl : args = #[v0, v1, v2] := by cases args; simp_all
 obtain ⟨rfl, rfl⟩ := trodVars_none hV
 have k0 := h0
 have lt0 : ∀ x ∈ p0, x.block < W.heap.size := by obtain ⟨m, hm⟩ := k0; exact DataW.trod_lt m _ _ _ hm
 obtain ⟨a0, cs0, g0, rfl, dr0⟩ := rep_agg Tryz.underlying28 (fun _ => rep_Term) (hval 0 28 v0 rfl rfl) h0
 have k1 := h1
 have lt1 : ∀ x ∈ p1, x.block < W.heap.size := by obtain ⟨m, hm⟩ := k1; exact DataW.trod_lt m _ _ _ hm
 obtain ⟨a1, ao1, len1, cap1, g1, rfl, dr1⟩ := rep_one Tryz.underlying59 (fun _ => rep_Terms) (hval 1 59 v1 rfl rfl) h1
 have k2 := h2
 have lt2 : ∀ x ∈ p2, x.block < W.heap.size := by obtain ⟨m, hm⟩ := k2; exact DataW.trod_lt m _ _ _ hm
 obtain ⟨a2, ao2, len2, cap2, g2, rfl, dr2⟩ := rep_one Tryz.underlying35 (fun _ => rep_ZIs) (hval 2 35 v2 rfl rfl) h2
 clear hA0 hval0
 refine ((STermPutValuesW a0 a1 a2 g0 g1 g2).calls (w := W) (vals := [.agg ⟨cs0⟩, .slice ao1 len1 cap1, .slice ao2 len2 cap2]) fun B => ⟨dr_vd dr0 B, dr1, dr2, trivial⟩).mono fun e W' ⟨he, bel⟩ => ?_
 subst he
 exact ⟨_, rfl, _, _, _, [], _, [], hW', trodAll_mk1 (shut_bool Tryz.underlying4 _), (trodAll_cons_mk (Below.trod laidOut (by kernel_rfl) (of_decide_eq_true (by kernel_rfl)) k0 bel lt0) (trodAll_cons_mk (Below.trod laidOut (by kernel_rfl) (of_decide_eq_true (by kernel_rfl)) k1 bel lt1) (trodAll_cons_mk (Below.trod laidOut (by kernel_rfl) (of_decide_eq_true (by kernel_rfl)) k2 bel lt2) trodAll_mk0))), rfl, bel.below.frame _, fun h => by cases h⟩

theorem over : Rows.TermPutValuesSaid :=
 OpenClaim.holds_of_wide 7 Tryz.f7 rfl rfl rfl rfl rfl rfl rfl ⟨rfl, rfl, rfl, rfl, rfl⟩ rfl rfl rfl rfl rfl (by kernel_rfl) Tryz.func7 (by kernel_rfl)
  (of_decide_eq_true (by kernel_rfl)) (by unfold Func.isWrapper; first | (rw [if_pos (by decide +kernel)]; kernel_rfl) | (rw [if_neg (by decide +kernel)]; exact ⟨rfl, rfl⟩))
  (fun os started H enc _ => lifted os started H enc)

theorem proved : Rows.TermPutValuesCardSaid :=
  Claim7.holds_tied_plain_at .later [] [.data, .data, .data] true (true, "97a79c8e33111ce0a29b5e1069275e6f92a3bc254075085a68b535fbfc7ec89a") false
    over (fun _ h => by cases h) (by kernel_rfl) (fun _ h => by cases h) termPutValues_row_tie rfl ⟨rfl, rfl⟩ (by kernel_rfl) rfl
    (fun f fn hf hfn => by
      obtain rfl : f = 7 := Option.some.inj ((show Tryz.prog.funcNamed "plumbline/plumblinelaw03.TermPutValues" = some 7 by kernel_rfl).symm.trans hf) |>.symm
      obtain rfl : fn = Tryz.f7 := (Option.some.inj (Tryz.func7.symm.trans hfn)).symm
      exact ⟨by kernel_rfl, fun j t ht => by
        rw [Tryz.params7] at ht
        have hm : t ∈ [28, 59, 35] := by simpa using Array.mem_of_getElem? ht
        have hall : ([28, 59, 35].all fun u => !Tryz.prog.wantsStandIn u) = true := by kernel_rfl
        exact (show Tryz.prog.wantsStandIn t = false by simpa using List.all_eq_true.1 hall t hm)⟩)
    (by kernel_rfl)
end Go.Proofs.YtekhnajfdaknnaaGreatDoor.termPutValuesDone
end
