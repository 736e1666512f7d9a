/-
  Numbers with a sign; the contracts of layer 1 in the form of symbolic states.
-/
import Derived.Test.YtekhnajfdaknnaaIntA
import Derived.Test.YtekhnajfdaknnaaSig
namespace Go.Proofs.Ytekhnajfdaknnaa.S
open Go.RowKit

structure ZI where
  neg : Bool
  abs : List Nat
def ZI.val (x : ZI) : Int := iv x.neg x.abs
def lbsF : Nat → Nat → List Nat
  | 0, _ => []
  | f + 1, n => if n = 0 then [] else n % 4294967296 :: lbsF f (n / 4294967296)
def lbs (n : Nat) : List Nat := lbsF n n
theorem canon_cons {z : Nat} {zs : List Nat} (hz : z < 4294967296) (h : Canon zs) (hn : zs = [] → z ≠ 0) : Canon (z :: zs) := by
  refine ⟨fun x hx => ?_, fun _ => ?_⟩
  · rcases List.mem_cons.1 hx with rfl | hx
    · exact hz
    · exact h.1 x hx
  · cases zs with
    | nil => simpa [lim] using hn rfl
    | cons y ys => have := h.2 (by simp); simpa [lim] using this
theorem lbsF_spec : ∀ (f n : Nat), n ≤ f → Canon (lbsF f n) ∧ Go.Proofs.Ytekhnajfdaknnaa.val (lbsF f n) = n
  | 0, n, h => by
    obtain rfl : n = 0 := by omega
    exact ⟨canon_nil, rfl⟩
  | f + 1, n, h => by
    unfold lbsF
    split
    · rename_i e; subst e; exact ⟨canon_nil, rfl⟩
    · obtain ⟨h1, h2⟩ := lbsF_spec f (n / 4294967296) (by omega)
      refine ⟨canon_cons (by omega) h1 fun e => ?_, ?_⟩
      · rw [e] at h2; simp [Go.Proofs.Ytekhnajfdaknnaa.val] at h2; omega
      · simp only [Go.Proofs.Ytekhnajfdaknnaa.val, h2]; omega
theorem lbs_canon (n : Nat) : Canon (lbs n) := (lbsF_spec n n (Nat.le_refl _)).1
theorem lbs_val (n : Nat) : Go.Proofs.Ytekhnajfdaknnaa.val (lbs n) = n := (lbsF_spec n n (Nat.le_refl _)).2
theorem lbs_len {n L : Nat} (h : n < pw L) : (lbs n).length ≤ L := canon_short (lbs_canon n) (lbs_val n) h
theorem lbs_of {zs : List Nat} {n : Nat} (h : Canon zs) (hv : Go.Proofs.Ytekhnajfdaknnaa.val zs = n) : zs = lbs n := canon_inj h (lbs_canon n) (hv.trans (lbs_val n).symm)
def ZI.of (z : Int) : ZI := ⟨decide (z < 0), lbs z.natAbs⟩
theorem ZI.val_of (z : Int) : (ZI.of z).val = z := by
  unfold ZI.of ZI.val iv
  simp only [lbs_val]
  by_cases h : z < 0 <;> simp [h] <;> omega
theorem ZI.can_of (z : Int) : CanZ (ZI.of z).neg (ZI.of z).abs := by
  refine ⟨lbs_canon _, fun h => ?_⟩
  unfold ZI.of at h ⊢
  have : lbs z.natAbs = [] := List.length_eq_zero_iff.1 h
  have hv := lbs_val z.natAbs
  rw [this] at hv
  simp [Go.Proofs.Ytekhnajfdaknnaa.val] at hv
  simp; omega
theorem ZI.of_eq {s : Bool} {zs : List Nat} {z : Int} (h : CanZ s zs) (hv : iv s zs = z) : (⟨s, zs⟩ : ZI) = ZI.of z := by
  obtain ⟨h1, h2⟩ := h.inj (ZI.can_of z) (hv.trans (ZI.val_of z).symm)
  cases hz : ZI.of z
  rw [hz] at h1 h2
  simp only at h1 h2
  rw [h1, h2]
theorem ZI.lb_of (z : Int) : Lb (ZI.of z).abs := (ZI.can_of z).1.1
theorem ZI.len_of {z : Int} {L : Nat} (h : z.natAbs < pw L) : (ZI.of z).abs.length ≤ L := lbs_len h
theorem ZI.abs_lt {x : ZI} (h : Lb x.abs) : x.val.natAbs < pw x.abs.length := by
  unfold ZI.val; rw [iv_abs]; exact val_lt h
theorem ZI.of_inj {x y : Int} (h : ZI.of x = ZI.of y) : x = y := by have := congrArg ZI.val h; rwa [ZI.val_of, ZI.val_of] at this
theorem ZI.abs_nil {x : Int} : (ZI.of x).abs.length = 0 ↔ x = 0 := by
  constructor
  · intro h
    have h1 := ZI.val_of x
    unfold ZI.val at h1
    rw [List.length_eq_zero_iff.1 h, iv_nil] at h1
    exact h1.symm
  · rintro rfl; rfl
theorem ZI.neg_of (x : Int) : (ZI.of x).neg = decide (x < 0) := rfl

def nsl (zs : List Nat) : D := .sl 1 (zs.map fun (x : Nat) => [.raw (.int .u32 (x : Int))])
def zi (x : ZI) : List C := [.d (.raw (.bool x.neg)), .d (nsl x.abs)]
def vz (x : ZI) : V := .t (.agg (zi x))
def vn (zs : List Nat) : V := .t (.c (.d (nsl zs)))
def ve : V := .t (.c (.d (.raw (.int .i64 0))))

theorem nsl_rd {H : Im} {zs : List Nat} {v : Value} (h : DR H (nsl zs) v) (hx : Lb zs) : ∃ ao c, v = .slice ao zs.length c ∧ ∀ w : World, (∀ b o, H b = some o → w.heap[b]? = some o) → Rd w ao c zs := by
  generalize hd : nsl zs = d at h
  unfold nsl at hd
  cases h with
  | raw v h => cases hd
  | nil es ao c h hc =>
    injection hd with h1 h2
    have : zs = [] := by simpa using h2
    subst this
    exact ⟨ao, c, rfl, fun w _ => ⟨Nat.zero_le _, (by simpa [maxLen] using hc), h, hx, fun h => (by simp at h), fun i h => (by simp at h)⟩⟩
  | sl es rows b o c arr ty fz vs hp hb hl hc hes hv hr =>
    injection hd with h1 h2
    subst h1 h2
    refine ⟨some ⟨b, o, none⟩, c, (by simp), fun w hw => ⟨(by simpa using hl), (by simpa [maxLen] using hc), (fun h => by cases h), hx, fun _ => rfl, fun i hi => ?_⟩⟩
    have h1 := hv i (by simpa using hi) 0 (by omega)
    have h2 := hr i (by simpa using hi) 0 (by simp)
    have h3 : vs i 0 = .int .u32 (lim zs i) := by
      simp only [List.getElem_map, List.getElem_cons_zero] at h2
      generalize vs i 0 = u at h2
      cases h2
      unfold lim
      simp [List.getD_eq_getElem?_getD, hi]
    have := hw b _ hb
    simp only [bk, of]
    simp only [Nat.mul_one, Nat.add_zero] at h1
    rw [h3] at h1
    simp [World.cell?, this, h1]
theorem openZ {H : Im} {B : Bl} {x : ZI} {v : Value} (h : VR H B (vz x) v) (hx : Lb x.abs) : ∃ ao c, v = .agg #[.bool x.neg, .slice ao x.abs.length c] ∧ ∀ w : World, (∀ b o, H b = some o → w.heap[b]? = some o) → Rd w ao c x.abs := by
  obtain ⟨vs, rfl, h1⟩ := h
  match vs, h1 with
  | [a, b], h1 =>
    obtain ⟨h2, h3, _⟩ := h1
    have e1 : a = .bool x.neg := VR.rawI (H := H) (B := B) h2
    obtain ⟨ao, c, rfl, h4⟩ := nsl_rd h3 hx
    exact ⟨ao, c, by rw [e1], h4⟩
  | [], h1 => exact h1.elim
  | [_], h1 => exact h1.2.elim
  | _ :: _ :: _ :: _, h1 => exact h1.2.2.elim
theorem openN {H : Im} {B : Bl} {zs : List Nat} {v : Value} (h : VR H B (vn zs) v) (hx : Lb zs) : ∃ ao c, v = .slice ao zs.length c ∧ ∀ w : World, (∀ b o, H b = some o → w.heap[b]? = some o) → Rd w ao c zs := nsl_rd h hx

/-- all that is new is made known -/
def pub (w : World) (H : Im) (w' : World) : Im := fun b => if b < w.heap.size then H b else w'.heap[b]?
theorem own_dr {w w' : World} {H : Im} {B : Nat} {ao : Option Addr} {c : Nat} {zs : List Nat} (h : Own w' B ao c zs) (hB : w.heap.size ≤ B) : DR (pub w H w') (nsl zs) (.slice ao zs.length c) := by
  have hrd := h.rd
  rcases Nat.eq_zero_or_pos zs.length with h0 | hp
  · have : zs = [] := List.length_eq_zero_iff.1 h0
    subst this
    exact .nil 1 ao c hrd.nl (by simpa [maxLen] using hrd.mx)
  · rcases h.row.2 with ⟨hv, hn⟩ | ⟨g, cap, cur, hv, hb, hg, hnc, hcm, hcs, htake⟩
    · omega
    · simp only [Value.slice.injEq, true_and] at hv
      obtain ⟨rfl, rfl⟩ := hv
      have hpub : pub w H w' g = some (.cells cur 62) := by unfold pub; rw [if_neg (by omega)]; exact hg
      have := DR.sl (H := pub w H w') 1 (zs.map fun (x : Nat) => [.raw (.int .u32 (x : Int))]) g 0 c cur 62 (0, 0) (fun i _ => .int .u32 (lim zs i)) (by simpa using hp) hpub (by simpa using hnc) hcm (fun i hi => by simp) (fun i hi j hj => ?_) (fun i hi j hj => ?_)
      · simpa [nsl] using this
      · have hi' : i < zs.length := by simpa using hi
        obtain rfl : j = 0 := by omega
        have h1 := hrd.cell i hi'
        simp only [bk, of, World.cell?, hg] at h1
        simpa using h1
      · have hi' : i < zs.length := by simpa using hi
        obtain rfl : j = 0 := by simp at hj; omega
        have e : lim zs i = zs[i] := by unfold lim; simp [List.getD_eq_getElem?_getD, hi']
        simp only [List.getElem_map, List.getElem_cons_zero, e]
        exact .raw _ rfl
theorem own_vz {w w' : World} {H : Im} {Bb : Bl} {B : Nat} {s : Bool} {ao : Option Addr} {c : Nat} {zs : List Nat} {z : Int} (h : Own w' B ao c zs) (hB : w.heap.size ≤ B) (hc : CanZ s zs) (hv : iv s zs = z) : VR (pub w H w') Bb (vz (ZI.of z)) (.agg #[.bool s, .slice ao zs.length c]) := by
  rw [← ZI.of_eq hc hv]
  exact ⟨[.bool s, .slice ao zs.length c], rfl, DR.raw _ rfl, own_dr h hB, trivial⟩
theorem own_vn {w w' : World} {H : Im} {Bb : Bl} {B : Nat} {ao : Option Addr} {c : Nat} {zs : List Nat} {n : Nat} (h : Own w' B ao c zs) (hB : w.heap.size ≤ B) (hc : Canon zs) (hv : Go.Proofs.Ytekhnajfdaknnaa.val zs = n) : VR (pub w H w') Bb (vn (lbs n)) (.slice ao zs.length c) := by
  rw [← lbs_of hc hv]
  exact own_dr h hB
theorem postE {w w' : World} {H : Im} {B : Bl} {res : V} {v : Value} (hx : Go.Proofs.Ytekhnajfdaknnaa.Ext w w') (hs : ∀ b o, H b = some o → w.heap[b]? = some o) (hv : VR (pub w H w') B res v) : Post [] w H B res [] v w' (pub w H w') B := by
  have hlow : ∀ b, b < w.heap.size → pub w H w' b = H b := fun b hb => by unfold pub; rw [if_pos hb]
  have hle : Le H (pub w H w') := fun b o hb => by
    have := (Array.getElem?_eq_some_iff.1 (hs b o hb)).1
    rw [hlow b this]; exact hb
  refine ⟨hle, hlow, fun b o hb => ?_, fun p hp => (by cases hp), fun p hp => (by cases hp), fun p hp => (by cases hp), fun _ _ => rfl, hv, ⟨hx.os, hx.tape, hx.output, hx.size, fun b hb _ => hx.block b hb⟩⟩
  unfold pub at hb
  split at hb
  · rename_i h; rw [hx.block b h]; exact hs b o hb
  · exact hb
theorem postZ {w w' : World} {H : Im} {B : Bl} {z : Int} {L : Nat} {en : Ending} (hs : ∀ b o, H b = some o → w.heap[b]? = some o) (h : GotZ w z L en w') : ∃ v H' B', en = .returned v ∧ Post [] w H B (vz (ZI.of z)) [] v w' H' B' := by
  obtain ⟨s, ao, c, zs, Bk, rfl, hb, ho, hc, hv, _, hx⟩ := h
  exact ⟨_, _, _, rfl, postE hx hs (own_vz ho hb hc.out hv.out)⟩
theorem postM {w w' : World} {H : Im} {B : Bl} {n L : Nat} {en : Ending} (hs : ∀ b o, H b = some o → w.heap[b]? = some o) (h : GotM w n L en w') : ∃ v H' B', en = .returned v ∧ Post [] w H B (vn (lbs n)) [] v w' H' B' := by
  obtain ⟨ao, c, zs, Bk, rfl, hb, ho, hc, hv, _, hx⟩ := h
  exact ⟨_, _, _, rfl, postE hx hs (own_vn ho hb hc.out hv.out)⟩
theorem postSM {w w' : World} {H : Im} {B : Bl} {m n L : Nat} {b : Bool} {en : Ending} (hs : ∀ b o, H b = some o → w.heap[b]? = some o) (h : GotSM w m n L b en w') : ∃ v H' B', en = .returned v ∧ Post [] w H B (.tup [.c (.d (nsl (lbs (m - n)))), .c (.d (.raw (.bool b)))]) [] v w' H' B' := by
  obtain ⟨ao, c, xs, Bk, rfl, hb, ho, hc, hv, _, hx⟩ := h
  exact ⟨_, _, _, rfl, postE hx hs ⟨_, rfl, own_vn (Bb := B) ho hb hc.out hv.out, DR.raw _ rfl, trivial⟩⟩
theorem postP {w w' : World} {H : Im} {B : Bl} {v : Value} {en : Ending} (hf : flat v = true) (hs : ∀ b o, H b = some o → w.heap[b]? = some o) (h : GotP v w en w') : ∃ u H' B', en = .returned u ∧ Post [] w H B (.t (.c (.d (.raw v)))) [] u w' H' B' := by
  obtain ⟨rfl, hx⟩ := h
  exact ⟨_, _, _, rfl, postE hx hs (DR.raw _ hf)⟩
theorem args1 {H : Im} {B : Bl} {x : V} {vals : List Value} (h : All2 (VR H B) [x] vals) : ∃ a, vals = [a] ∧ VR H B x a := by
  match vals, h with
  | [a], h => exact ⟨a, rfl, h.1⟩
  | [], h => exact h.elim
  | _ :: _ :: _, h => exact h.2.elim
theorem args2 {H : Im} {B : Bl} {x y : V} {vals : List Value} (h : All2 (VR H B) [x, y] vals) : ∃ a b, vals = [a, b] ∧ VR H B x a ∧ VR H B y b := by
  match vals, h with
  | [a, b], h => exact ⟨a, b, rfl, h.1, h.2.1⟩
  | [], h => exact h.elim
  | [_], h => exact h.2.elim
  | _ :: _ :: _ :: _, h => exact h.2.2.elim
theorem args3 {H : Im} {B : Bl} {x y z : V} {vals : List Value} (h : All2 (VR H B) [x, y, z] vals) : ∃ a b c, vals = [a, b, c] ∧ VR H B x a ∧ VR H B y b ∧ VR H B z c := by
  match vals, h with
  | [a, b, c], h => exact ⟨a, b, c, rfl, h.1, h.2.1, h.2.2.1⟩
  | [], h => exact h.elim
  | [_], h => exact h.2.elim
  | [_, _], h => exact h.2.2.elim
  | _ :: _ :: _ :: _ :: _, h => exact h.2.2.2.elim
section
variable (xs ys : List Nat)

theorem SnAdd (hx : Lb xs) (hy : Lb ys) (lx : xs.length ≤ 50000) (ly : ys.length ≤ 50000) : Fn Try.prog 56 [] [vn xs, vn ys] (vn (lbs (Go.Proofs.Ytekhnajfdaknnaa.val xs + Go.Proofs.Ytekhnajfdaknnaa.val ys))) [] := by
  intro w H B vals pre
  obtain ⟨a, b, rfl, h1, h2⟩ := args2 pre.arg
  obtain ⟨ao, c, rfl, r1⟩ := openN h1 hx
  obtain ⟨bo, d, rfl, r2⟩ := openN h2 hy
  exact (AddM ao _ c xs bo _ d ys w rfl rfl (r1 w pre.sat) (r2 w pre.sat) (by omega) (by omega)).mono fun _ _ h => postM pre.sat h
theorem SnMul (hx : Lb xs) (hy : Lb ys) (lx : xs.length ≤ 50000) (ly : ys.length ≤ 50000) : Fn Try.prog 64 [] [vn xs, vn ys] (vn (lbs (Go.Proofs.Ytekhnajfdaknnaa.val xs * Go.Proofs.Ytekhnajfdaknnaa.val ys))) [] := by
  intro w H B vals pre
  obtain ⟨a, b, rfl, h1, h2⟩ := args2 pre.arg
  obtain ⟨ao, c, rfl, r1⟩ := openN h1 hx
  obtain ⟨bo, d, rfl, r2⟩ := openN h2 hy
  exact (MulM ao _ c xs bo _ d ys w rfl rfl (r1 w pre.sat) (r2 w pre.sat) (by omega) (by omega)).mono fun _ _ h => postM pre.sat h
theorem SRnAdd (hx : Lb xs) (hy : Lb ys) (lx : xs.length ≤ 50000) (ly : ys.length ≤ 50000) : Fn Try.prog 48 [] [vn xs, vn ys] (vn (lbs (Go.Proofs.Ytekhnajfdaknnaa.val xs + Go.Proofs.Ytekhnajfdaknnaa.val ys))) [] := by
  intro w H B vals pre
  obtain ⟨a, b, rfl, h1, h2⟩ := args2 pre.arg
  obtain ⟨ao, c, rfl, r1⟩ := openN h1 hx
  obtain ⟨bo, d, rfl, r2⟩ := openN h2 hy
  exact (RAddM ao _ c xs bo _ d ys w rfl rfl (r1 w pre.sat) (r2 w pre.sat) (by omega) (by omega)).mono fun _ _ h => postM pre.sat h
theorem SRnMul (hx : Lb xs) (hy : Lb ys) (lx : xs.length ≤ 50000) (ly : ys.length ≤ 50000) : Fn Try.prog 65 [] [vn xs, vn ys] (vn (lbs (Go.Proofs.Ytekhnajfdaknnaa.val xs * Go.Proofs.Ytekhnajfdaknnaa.val ys))) [] := by
  intro w H B vals pre
  obtain ⟨a, b, rfl, h1, h2⟩ := args2 pre.arg
  obtain ⟨ao, c, rfl, r1⟩ := openN h1 hx
  obtain ⟨bo, d, rfl, r2⟩ := openN h2 hy
  exact (RMulM ao _ c xs bo _ d ys w rfl rfl (r1 w pre.sat) (r2 w pre.sat) (by omega) (by omega)).mono fun _ _ h => postM pre.sat h
theorem SnTrim (hx : Lb xs) (lx : xs.length ≤ 100000) : Fn Try.prog 73 [] [vn xs] (vn (lbs (Go.Proofs.Ytekhnajfdaknnaa.val xs))) [] := by
  intro w H B vals pre
  obtain ⟨a, rfl, h1⟩ := args1 pre.arg
  obtain ⟨ao, c, rfl, r1⟩ := openN h1 hx
  exact (TrimM ao _ c xs w rfl (r1 w pre.sat) (by omega)).mono fun _ _ h => postM pre.sat h
theorem SnSub (hx : Lb xs) (hy : Lb ys) (lx : xs.length ≤ 100000) (ly : ys.length ≤ 100000) : Fn Try.prog 57 [] [vn xs, vn ys] (.tup [.c (.d (nsl (lbs (Go.Proofs.Ytekhnajfdaknnaa.val xs - Go.Proofs.Ytekhnajfdaknnaa.val ys)))), .c (.d (.raw (.bool (decide (Go.Proofs.Ytekhnajfdaknnaa.val ys ≤ Go.Proofs.Ytekhnajfdaknnaa.val xs)))))]) [] := by
  intro w H B vals pre
  obtain ⟨a, b, rfl, h1, h2⟩ := args2 pre.arg
  obtain ⟨ao, c, rfl, r1⟩ := openN h1 hx
  obtain ⟨bo, d, rfl, r2⟩ := openN h2 hy
  exact (SubM ao _ c xs bo _ d ys w _ rfl rfl (r1 w pre.sat) (r2 w pre.sat) (by omega) (by omega) rfl).mono fun _ _ h => postSM pre.sat h
theorem SRnTrim (hx : Lb xs) (lx : xs.length ≤ 100000) : Fn Try.prog 67 [] [vn xs] (vn (lbs (Go.Proofs.Ytekhnajfdaknnaa.val xs))) [] := by
  intro w H B vals pre
  obtain ⟨a, rfl, h1⟩ := args1 pre.arg
  obtain ⟨ao, c, rfl, r1⟩ := openN h1 hx
  exact (RTrimM ao _ c xs w rfl (r1 w pre.sat) (by omega)).mono fun _ _ h => postM pre.sat h
theorem SRnSub (hx : Lb xs) (hy : Lb ys) (lx : xs.length ≤ 100000) (ly : ys.length ≤ 100000) : Fn Try.prog 63 [] [vn xs, vn ys] (.tup [.c (.d (nsl (lbs (Go.Proofs.Ytekhnajfdaknnaa.val xs - Go.Proofs.Ytekhnajfdaknnaa.val ys)))), .c (.d (.raw (.bool (decide (Go.Proofs.Ytekhnajfdaknnaa.val ys ≤ Go.Proofs.Ytekhnajfdaknnaa.val xs)))))]) [] := by
  intro w H B vals pre
  obtain ⟨a, b, rfl, h1, h2⟩ := args2 pre.arg
  obtain ⟨ao, c, rfl, r1⟩ := openN h1 hx
  obtain ⟨bo, d, rfl, r2⟩ := openN h2 hy
  exact (RSubM ao _ c xs bo _ d ys w _ rfl rfl (r1 w pre.sat) (r2 w pre.sat) (by omega) (by omega) rfl).mono fun _ _ h => postSM pre.sat h
theorem SnCmp (hx : Lb xs) (hy : Lb ys) : Fn Try.prog 75 [] [vn xs, vn ys] (vi .i64 (cmpI (Go.Proofs.Ytekhnajfdaknnaa.val xs) (Go.Proofs.Ytekhnajfdaknnaa.val ys))) [] := by
  intro w H B vals pre
  obtain ⟨a, b, rfl, h1, h2⟩ := args2 pre.arg
  obtain ⟨ao, c, rfl, r1⟩ := openN h1 hx
  obtain ⟨bo, d, rfl, r2⟩ := openN h2 hy
  exact (Cmp_any ao _ c xs bo _ d ys w rfl rfl (r1 w pre.sat) (r2 w pre.sat)).mono fun _ _ ⟨h, q⟩ => postP rfl pre.sat ⟨h, q.ext⟩
theorem SRnSame (hx : Lb xs) (hy : Lb ys) : Fn Try.prog 70 [] [vn xs, vn ys] (vb (decide (xs = ys))) [] := by
  intro w H B vals pre
  obtain ⟨a, b, rfl, h1, h2⟩ := args2 pre.arg
  obtain ⟨ao, c, rfl, r1⟩ := openN h1 hx
  obtain ⟨bo, d, rfl, r2⟩ := openN h2 hy
  exact (Same_any ao _ c xs bo _ d ys w rfl rfl (r1 w pre.sat) (r2 w pre.sat)).mono fun _ _ ⟨h, q⟩ => postP rfl pre.sat ⟨h, q.ext⟩
theorem SnOf (E : Int) (h0 : 0 ≤ E) (h1 : E < 18446744073709551616) : Fn Try.prog 66 [] [vi .u64 E] (vn (lbs E.toNat)) [] := by
  intro w H B vals pre
  obtain ⟨a, rfl, h2⟩ := args1 pre.arg
  obtain rfl := VR.rawI h2
  exact (OfM w E h0 h1).mono fun _ _ h => postM pre.sat h
end
end Go.Proofs.Ytekhnajfdaknnaa.S
